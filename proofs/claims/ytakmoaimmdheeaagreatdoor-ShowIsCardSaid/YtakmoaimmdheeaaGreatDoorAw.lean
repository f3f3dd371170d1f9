/- The example of the chapter, reckoned by the kernel: loops and calls that end soon. No statement of its own about the program. -/
import Derived.Test.YtakmoaimmdheeaaGreatDoorFnA
import Derived.KernelRfl
namespace Ev
open Go
namespace Fn
def lq{α:Type}(a b:Option α):Prop:=∀v,a=some v->b=some v
theorem q07{α:Type}(a:Option α):lq a a:=fun _ h=>h
def lqf{α β:Type}(f g:α->Option β):Prop:=∀x,lq (f x) (g x)
theorem lqr{α β:Type}{f:α->Option β}:lqf f f:=fun _=>q07 _
@[reducible] noncomputable def lfN(n:Nat):Lf:={lf with o:=fun f s=>q7j f n s}
theorem qx7{σ ρ:Type}{f g:σ->Option (σ⊕ρ)}(h:∀s,lq (f s) (g s)):∀(n:Nat) (s:σ) (r:ρ),q7j f n s=some r->q7j g n s=some r
 |0,_,_,e=>by cases e
 |n+1,s,r,e=>by
  unfold q7j at e ⊢;cases hf:f s with
  |none=>rw[hf] at e;cases e
  |some v=>rw[hf] at e;rw[h s v hf];cases v with
   |inl s'=>exact qx7 h n s' r e
   |inr r'=>exact e
theorem mB{n:Nat}{α β:Type}{x y:Option α}{f g:α->Option β}(h:lq x y)(h2:∀a,lq (f a) (g a)):lq ((lfN n).b x f) (lf.b y g):=by
 intro v e;show bnd y g=some v;have e:bnd x f=some v:=e;cases hx:x with
 |none=>rw[hx] at e;cases e
 |some a=>rw[hx] at e;rw[h a hx];exact h2 a v e
theorem mC{n:Nat}{α:Type}{c c':Bool}{x y x' y':Option α}(hc:c=c')(h:lq x x')(h2:lq y y'):lq ((lfN n).c c x y) (lf.c c' x' y'):=by
 subst hc;cases c with
 |true=>exact h
 |false=>exact h2
theorem mA{α β:Type}{f g:α->Option β}(h:lqf f g){a a':α}(e:a=a'):lq (f a) (g a'):=by subst e;exact h a
theorem mS{n:Nat}{α β:Type}{f g:α->Option β}(h:∀a,lq (f a) (g a))(y:α⊕β):lq ((lfN n).sumE f y) (lf.sumE g y):=by
 cases y with
 |inl a=>exact h a
 |inr b=>exact q07 _
theorem mL{n:Nat}{σ ρ:Type}{f g:σ->Option (σ⊕ρ)}(h:∀s,lq (f s) (g s)){s s':σ}(hs:s=s'):lq ((lfN n).o f s) (lf.o g s'):=by subst hs;exact fun r e=>qez n (qx7 h n s r e)
theorem mF{n:Nat}{a a':Int}(h:a=a'):lq ((lfN n).f a) (lf.f a'):=by rw[h];exact q07 (fit a')
theorem mK{n:Nat}{a b a' b':Int}(h:a=a')(h2:b=b'):lq ((lfN n).mkN a b) (lf.mkN a' b'):=by rw[h,h2];exact q07 (mkN a' b')
theorem qgt{α β:Type}{F G:(α->Option β)->α->Option β}(h1:∀g g':α->Option β,lqf g g'->lqf (F g) (G g'))(n:Nat):lqf (recN F n) (recR G):=by
 have aux:∀(n m:Nat),n<=m->∀x,lq (recN F n x) (recN G m x):=by
  intro n
  induction n with
  |zero=>intro m _ x v e;cases e
  |succ n ih=>
   intro m hm x;cases m with
   |zero=>omega
   |succ m=>exact h1 _ _ (fun x=>ih m (by omega) x) x
 intro x v e;exact q4n n (fun m hm=>aux n m hm x v e)
noncomputable section
def qx8(x:(Sl (List Int))×Unit):Option ((Sl (List Int))×Unit):=bif Nat.ble x.1.l.length 1&&x.1.l.all qdn then some (x.1,()) else none
theorem qx9(_n:Nat):lqf qx8 f_dm:=by
 intro x v h;obtain⟨⟨b,l⟩,u⟩:=x;unfold qx8 at h;cases hc:(Nat.ble l.length 1&&l.all qdn) with
 |false=>rw[hc] at h;cases h
 |true=>
  rw[hc] at h;injection h with h;subst h;simp only[zd] at hc;have hl:l.length<=1:=zA hc.1;have hm:(l.mergeSort fun a b=>!strLt b a)=l:=by
   match l,hl with
   |[],_=>exact List.mergeSort_nil ..
   |[a],_=>exact List.mergeSort_singleton ..
  have hd:decide (l.length<4611686018427387904)=true:=zw (by omega);show(bif l.all qdn&&decide (l.length<4611686018427387904) then _ else none)=_;rw[hc.2,hd,hm];rfl
def k_en(n:Nat):=b_en (lfN n)
theorem l_en(n:Nat):lqf (k_en n) f_en:=fun x=>by unfold k_en f_en b_en;repeat (first|with_reducible (first|refine mB ?_ fun _=>?_|refine mC ?_ ?_ ?_|refine mL (fun _=>?_) ?_)|exact rfl|exact q07 _)
def k_er(n:Nat):=b_er (lfN n) (k_en n)
theorem l_er(n:Nat):lqf (k_er n) f_er:=fun x=>by unfold k_er f_er b_er;repeat (first|with_reducible (first|refine mB ?_ fun _=>?_|refine mC ?_ ?_ ?_|refine mA (l_en n) ?_)|exact rfl|exact q07 _)
def k_em(n:Nat):=b_em (lfN n) (k_er n)
theorem l_em(n:Nat):lqf (k_em n) f_em:=fun x=>by unfold k_em f_em b_em;repeat (first|with_reducible (first|refine mB ?_ fun _=>?_|refine mC ?_ ?_ ?_|refine mL (fun _=>?_) ?_|refine mF ?_|refine mA (l_er n) ?_)|exact rfl|exact q07 _)
def k_ek(n:Nat):=b_ek (lfN n)
theorem l_ek(n:Nat):lqf (k_ek n) f_ek:=fun x=>by unfold k_ek f_ek b_ek;repeat (first|with_reducible (first|refine mB ?_ fun _=>?_|refine mC ?_ ?_ ?_)|exact rfl|exact q07 _)
def k_eu(n:Nat):=b_eu (lfN n)
theorem l_eu(n:Nat):lqf (k_eu n) f_eu:=fun x=>by unfold k_eu f_eu b_eu;repeat (first|with_reducible refine mB ?_ fun _=>?_|exact q07 _)
def k_eg(n:Nat):=b_eg (lfN n)
theorem l_eg(n:Nat):lqf (k_eg n) f_eg:=fun x=>by unfold k_eg f_eg b_eg;exact q07 _
def k_ed(n:Nat):=b_ed (lfN n) (k_eg n)
theorem l_ed(n:Nat):lqf (k_ed n) f_ed:=fun x=>by unfold k_ed f_ed b_ed;repeat (first|with_reducible (first|refine mB ?_ fun _=>?_|refine mC ?_ ?_ ?_|refine mA (l_eg n) ?_)|exact rfl|exact q07 _)
def k_di(n:Nat):=b_di (lfN n)
theorem l_di(n:Nat):lqf (k_di n) f_di:=fun x=>by unfold k_di f_di b_di;repeat (first|with_reducible (first|refine mB ?_ fun _=>?_|refine mC ?_ ?_ ?_|refine mL (fun _=>?_) ?_)|exact rfl|exact q07 _)
def k_df(n:Nat):=b_df (lfN n) (k_di n)
theorem l_df(n:Nat):lqf (k_df n) f_df:=fun x=>by unfold k_df f_df b_df;repeat (first|with_reducible (first|refine mB ?_ fun _=>?_|refine mA (l_di n) ?_)|exact rfl|exact q07 _)
def k_dy(n:Nat):=b_dy (lfN n)
set_option maxRecDepth 100000 in
theorem l_dy(n:Nat):lqf (k_dy n) f_dy:=fun x=>by unfold k_dy f_dy b_dy;repeat (first|with_reducible (first|refine mB ?_ fun _=>?_|refine mC ?_ ?_ ?_|refine mL (fun _=>?_) ?_|refine mS (fun _=>?_) _|refine mK ?_ ?_)|exact rfl|exact q07 _)
def k_b9(n:Nat):=b_b9 (lfN n) (k_dy n)
theorem l_b9(n:Nat):lqf (k_b9 n) f_b9:=fun x=>by unfold k_b9 f_b9 b_b9;repeat (first|with_reducible (first|refine mB ?_ fun _=>?_|refine mA (l_dy n) ?_)|exact rfl|exact q07 _)
def k_ao(n:Nat):=b_ao (lfN n) (k_df n) (k_b9 n)
theorem l_ao(n:Nat):lqf (k_ao n) f_ao:=fun x=>by unfold k_ao f_ao b_ao;repeat (first|with_reducible (first|refine mB ?_ fun _=>?_|refine mA (l_df n) ?_|refine mA (l_b9 n) ?_)|exact rfl|exact q07 _)
def k_b4(n:Nat):=b_b4 (lfN n)
theorem l_b4(n:Nat):lqf (k_b4 n) f_b4:=fun x=>by unfold k_b4 f_b4 b_b4;repeat (first|with_reducible (first|refine mB ?_ fun _=>?_|refine mC ?_ ?_ ?_)|exact rfl|exact q07 _)
def k_ay(n:Nat):=b_ay (lfN n)
theorem l_ay(n:Nat):lqf (k_ay n) f_ay:=fun x=>by unfold k_ay f_ay b_ay;repeat (first|with_reducible (first|refine mB ?_ fun _=>?_|refine mC ?_ ?_ ?_)|exact rfl|exact q07 _)
def k_ax(n:Nat):=b_ax (lfN n)
theorem l_ax(n:Nat):lqf (k_ax n) f_ax:=fun x=>by unfold k_ax f_ax b_ax;repeat (first|with_reducible (first|refine mB ?_ fun _=>?_|refine mC ?_ ?_ ?_)|exact rfl|exact q07 _)
def k_az(n:Nat):=b_az (lfN n) (k_b4 n) (k_ay n) (k_ax n)
theorem l_az(n:Nat):lqf (k_az n) f_az:=fun x=>by unfold k_az f_az b_az;repeat (first|with_reducible (first|refine mB ?_ fun _=>?_|refine mC ?_ ?_ ?_|refine mA (l_b4 n) ?_|refine mA (l_ay n) ?_|refine mA (l_ax n) ?_)|exact rfl|exact q07 _)
def k_av(n:Nat):=b_av (lfN n) (k_az n)
theorem l_av(n:Nat):lqf (k_av n) f_av:=fun x=>by unfold k_av f_av b_av;repeat (first|with_reducible (first|refine mB ?_ fun _=>?_|refine mC ?_ ?_ ?_|refine mL (fun _=>?_) ?_|refine mA (l_az n) ?_)|exact rfl|exact q07 _)
def k_at(n:Nat):=b_at (lfN n) (k_ao n) (k_b4 n) (k_av n)
theorem l_at(n:Nat):lqf (k_at n) f_at:=fun x=>by unfold k_at f_at b_at;repeat (first|with_reducible (first|refine mB ?_ fun _=>?_|refine mC ?_ ?_ ?_|refine mA (l_ao n) ?_|refine mA (l_b4 n) ?_|refine mA (l_av n) ?_)|exact rfl|exact q07 _)
def k_au(n:Nat):=b_au (lfN n) (k_ao n) (k_ay n) (k_av n)
theorem l_au(n:Nat):lqf (k_au n) f_au:=fun x=>by unfold k_au f_au b_au;repeat (first|with_reducible (first|refine mB ?_ fun _=>?_|refine mC ?_ ?_ ?_|refine mA (l_ao n) ?_|refine mA (l_ay n) ?_|refine mA (l_av n) ?_)|exact rfl|exact q07 _)
def k_e0(_n:Nat):=f_e0
theorem l_e0(n:Nat):lqf (k_e0 n) f_e0:=lqr
def k_b3(n:Nat):=b_b3 (lfN n) (k_e0 n)
theorem l_b3(n:Nat):lqf (k_b3 n) f_b3:=fun x=>by unfold k_b3 f_b3 b_b3;repeat (first|with_reducible (first|refine mB ?_ fun _=>?_|refine mA (l_e0 n) ?_)|exact rfl|exact q07 _)
def k_aw(n:Nat):=b_aw (lfN n) (k_b3 n)
theorem l_aw(n:Nat):lqf (k_aw n) f_aw:=fun x=>by unfold k_aw f_aw b_aw;repeat (first|with_reducible (first|refine mB ?_ fun _=>?_|refine mC ?_ ?_ ?_|refine mL (fun _=>?_) ?_|refine mA (l_b3 n) ?_)|exact rfl|exact q07 _)
def k_as(n:Nat):=b_as (lfN n) (k_eu n) (k_ao n) (k_at n) (k_au n) (k_aw n)
theorem l_as(n:Nat):lqf (k_as n) f_as:=fun x=>by unfold k_as f_as b_as;repeat (first|with_reducible (first|refine mB ?_ fun _=>?_|refine mC ?_ ?_ ?_|refine mA (l_eu n) ?_|refine mA (l_ao n) ?_|refine mA (l_at n) ?_|refine mA (l_au n) ?_|refine mA (l_aw n) ?_)|exact rfl|exact q07 _)
def k_e7(n:Nat):=b_e7 (lfN n) (k_as n)
theorem l_e7(n:Nat):lqf (k_e7 n) f_e7:=fun x=>by unfold k_e7 f_e7 b_e7;repeat (first|with_reducible (first|refine mB ?_ fun _=>?_|refine mC ?_ ?_ ?_|refine mA (l_as n) ?_)|exact rfl|exact q07 _)
def k_e6(n:Nat):=b_e6 (lfN n) (k_as n)
theorem l_e6(n:Nat):lqf (k_e6 n) f_e6:=fun x=>by unfold k_e6 f_e6 b_e6;repeat (first|with_reducible (first|refine mB ?_ fun _=>?_|refine mA (l_as n) ?_)|exact rfl|exact q07 _)
def k_ee(n:Nat):=b_ee (lfN n)
theorem l_ee(n:Nat):lqf (k_ee n) f_ee:=fun x=>by unfold k_ee f_ee b_ee;repeat (first|with_reducible (first|refine mB ?_ fun _=>?_|refine mC ?_ ?_ ?_)|exact rfl|exact q07 _)
def k_ef(n:Nat):=b_ef (lfN n)
theorem l_ef(n:Nat):lqf (k_ef n) f_ef:=fun x=>by unfold k_ef f_ef b_ef;exact q07 _
def k_eh(n:Nat):=b_eh (lfN n)
theorem l_eh(n:Nat):lqf (k_eh n) f_eh:=fun x=>by unfold k_eh f_eh b_eh;exact q07 _
def k_ej(n:Nat):=b_ej (lfN n) (k_ek n) (k_eu n) (k_ed n) (k_e7 n) (k_e6 n) (k_ee n) (k_ef n) (k_eh n)
set_option maxRecDepth 100000 in
theorem l_ej(n:Nat):lqf (k_ej n) f_ej:=fun x=>by unfold k_ej f_ej b_ej;repeat (first|with_reducible (first|refine mB ?_ fun _=>?_|refine mC ?_ ?_ ?_|refine mA (l_ek n) ?_|refine mA (l_eu n) ?_|refine mA (l_ed n) ?_|refine mA (l_e7 n) ?_|refine mA (l_e6 n) ?_|refine mA (l_ee n) ?_|refine mA (l_ef n) ?_|refine mA (l_eh n) ?_)|exact rfl|exact q07 _)
def k_ea(n:Nat):=b_ea (lfN n) (k_ej n)
theorem l_ea(n:Nat):lqf (k_ea n) f_ea:=fun x=>by unfold k_ea f_ea b_ea;repeat (first|with_reducible (first|refine mB ?_ fun _=>?_|refine mA (l_ej n) ?_)|exact rfl|exact q07 _)
def kg_el(n:Nat)(self:Yf31):=b_el (lfN n) self (k_ea n)
def k_el(n:Nat):=recN (kg_el n) n
theorem l_el(n:Nat):lqf (k_el n) f_el:=qgt (fun _ _ hg x=>by unfold kg_el g_el b_el;repeat (first|with_reducible (first|refine mB ?_ fun _=>?_|refine mC ?_ ?_ ?_|refine mL (fun _=>?_) ?_|refine mA hg ?_|refine mA (l_ea n) ?_)|exact rfl|exact q07 _)) n
def k_eq(n:Nat):=b_eq (lfN n) (k_en n)
theorem l_eq(n:Nat):lqf (k_eq n) f_eq:=fun x=>by unfold k_eq f_eq b_eq;repeat (first|with_reducible (first|refine mB ?_ fun _=>?_|refine mC ?_ ?_ ?_|refine mK ?_ ?_|refine mA (l_en n) ?_)|exact rfl|exact q07 _)
def k_ei(n:Nat):=b_ei (lfN n)
theorem l_ei(n:Nat):lqf (k_ei n) f_ei:=fun x=>by unfold k_ei f_ei b_ei;repeat (first|with_reducible (first|refine mB ?_ fun _=>?_|refine mC ?_ ?_ ?_|refine mL (fun _=>?_) ?_|refine mF ?_)|exact rfl|exact q07 _)
def k_dm(_n:Nat):=qx8
theorem l_dm(n:Nat):lqf (k_dm n) f_dm:=qx9 n
def k_dd(n:Nat):=b_dd (lfN n)
theorem l_dd(n:Nat):lqf (k_dd n) f_dd:=fun x=>by unfold k_dd f_dd b_dd;repeat (first|with_reducible (first|refine mB ?_ fun _=>?_|refine mC ?_ ?_ ?_|refine mL (fun _=>?_) ?_)|exact rfl|exact q07 _)
def k_ec(n:Nat):=b_ec (lfN n) (k_ei n)
theorem l_ec(n:Nat):lqf (k_ec n) f_ec:=fun x=>by unfold k_ec f_ec b_ec;repeat (first|with_reducible (first|refine mB ?_ fun _=>?_|refine mA (l_ei n) ?_)|exact rfl|exact q07 _)
def k_eb(n:Nat):=b_eb (lfN n) (k_eq n) (k_ei n) (k_dm n) (k_dd n) (k_ec n)
theorem l_eb(n:Nat):lqf (k_eb n) f_eb:=fun x=>by unfold k_eb f_eb b_eb;repeat (first|with_reducible (first|refine mB ?_ fun _=>?_|refine mA (l_eq n) ?_|refine mA (l_ei n) ?_|refine mA (l_dm n) ?_|refine mA (l_dd n) ?_|refine mA (l_ec n) ?_)|exact rfl|exact q07 _)
def k_e9(n:Nat):=b_e9 (lfN n) (k_er n) (k_en n) (k_em n) (k_el n) (k_eb n) (k_ek n)
theorem l_e9(n:Nat):lqf (k_e9 n) f_e9:=fun x=>by unfold k_e9 f_e9 b_e9;repeat (first|with_reducible (first|refine mB ?_ fun _=>?_|refine mC ?_ ?_ ?_|refine mL (fun _=>?_) ?_|refine mS (fun _=>?_) _|refine mA (l_er n) ?_|refine mA (l_en n) ?_|refine mA (l_em n) ?_|refine mA (l_el n) ?_|refine mA (l_eb n) ?_|refine mA (l_ek n) ?_)|exact rfl|exact q07 _)
def k_e5(n:Nat):=b_e5 (lfN n) (k_e9 n)
theorem l_e5(n:Nat):lqf (k_e5 n) f_e5:=fun x=>by unfold k_e5 f_e5 b_e5;repeat (first|with_reducible (first|refine mB ?_ fun _=>?_|refine mA (l_e9 n) ?_)|exact rfl|exact q07 _)
def k_a6(n:Nat):=b_a6 (lfN n) (k_as n)
theorem l_a6(n:Nat):lqf (k_a6 n) f_a6:=fun x=>by unfold k_a6 f_a6 b_a6;repeat (first|with_reducible (first|refine mB ?_ fun _=>?_|refine mC ?_ ?_ ?_|refine mA (l_as n) ?_)|exact rfl|exact q07 _)
def k_a1(n:Nat):=b_a1 (lfN n) (k_a6 n)
theorem l_a1(n:Nat):lqf (k_a1 n) f_a1:=fun x=>by unfold k_a1 f_a1 b_a1;repeat (first|with_reducible (first|refine mB ?_ fun _=>?_|refine mA (l_a6 n) ?_)|exact rfl|exact q07 _)
def k_dj(n:Nat):=b_dj (lfN n) (k_a1 n)
theorem l_dj(n:Nat):lqf (k_dj n) f_dj:=fun x=>by unfold k_dj f_dj b_dj;repeat (first|with_reducible (first|refine mB ?_ fun _=>?_|refine mC ?_ ?_ ?_|refine mL (fun _=>?_) ?_|refine mA (l_a1 n) ?_)|exact rfl|exact q07 _)
def k_dg(n:Nat):=b_dg (lfN n) (k_dj n)
theorem l_dg(n:Nat):lqf (k_dg n) f_dg:=fun x=>by unfold k_dg f_dg b_dg;repeat (first|with_reducible (first|refine mB ?_ fun _=>?_|refine mA (l_dj n) ?_)|exact rfl|exact q07 _)
def k_a5(n:Nat):=b_a5 (lfN n)
theorem l_a5(n:Nat):lqf (k_a5 n) f_a5:=fun x=>by unfold k_a5 f_a5 b_a5;exact q07 _
def k_dk(n:Nat):=b_dk (lfN n) (k_a5 n)
theorem l_dk(n:Nat):lqf (k_dk n) f_dk:=fun x=>by unfold k_dk f_dk b_dk;repeat (first|with_reducible (first|refine mB ?_ fun _=>?_|refine mC ?_ ?_ ?_|refine mL (fun _=>?_) ?_|refine mA (l_a5 n) ?_)|exact rfl|exact q07 _)
def k_a4(n:Nat):=b_a4 (lfN n) (k_dk n)
theorem l_a4(n:Nat):lqf (k_a4 n) f_a4:=fun x=>by unfold k_a4 f_a4 b_a4;repeat (first|with_reducible (first|refine mB ?_ fun _=>?_|refine mC ?_ ?_ ?_|refine mA (l_dk n) ?_)|exact rfl|exact q07 _)
def k_a0(n:Nat):=b_a0 (lfN n) (k_dg n) (k_a4 n)
theorem l_a0(n:Nat):lqf (k_a0 n) f_a0:=fun x=>by unfold k_a0 f_a0 b_a0;repeat (first|with_reducible (first|refine mB ?_ fun _=>?_|refine mC ?_ ?_ ?_|refine mL (fun _=>?_) ?_|refine mA (l_dg n) ?_|refine mA (l_a4 n) ?_)|exact rfl|exact q07 _)
def k_eo(n:Nat):=b_eo (lfN n) (k_en n)
theorem l_eo(n:Nat):lqf (k_eo n) f_eo:=fun x=>by unfold k_eo f_eo b_eo;repeat (first|with_reducible (first|refine mB ?_ fun _=>?_|refine mC ?_ ?_ ?_|refine mL (fun _=>?_) ?_|refine mF ?_|refine mA (l_en n) ?_)|exact rfl|exact q07 _)
def k_ep(n:Nat):=b_ep (lfN n)
theorem l_ep(n:Nat):lqf (k_ep n) f_ep:=fun x=>by unfold k_ep f_ep b_ep;repeat (first|with_reducible (first|refine mB ?_ fun _=>?_|refine mC ?_ ?_ ?_|refine mL (fun _=>?_) ?_|refine mF ?_)|exact rfl|exact q07 _)
def k_ag(n:Nat):=b_ag (lfN n) (k_ep n)
theorem l_ag(n:Nat):lqf (k_ag n) f_ag:=fun x=>by unfold k_ag f_ag b_ag;repeat (first|with_reducible (first|refine mB ?_ fun _=>?_|refine mA (l_ep n) ?_)|exact rfl|exact q07 _)
def k_db(n:Nat):=b_db (lfN n) (k_ag n)
theorem l_db(n:Nat):lqf (k_db n) f_db:=fun x=>by unfold k_db f_db b_db;repeat (first|with_reducible (first|refine mB ?_ fun _=>?_|refine mA (l_ag n) ?_)|exact rfl|exact q07 _)
def k_e3(_n:Nat):=f_e3
theorem l_e3(n:Nat):lqf (k_e3 n) f_e3:=lqr
def k_dn(_n:Nat):=f_dn
theorem l_dn(n:Nat):lqf (k_dn n) f_dn:=lqr
def k_et(n:Nat):=b_et (lfN n) (k_e3 n) (k_dn n) (k_eu n)
theorem l_et(n:Nat):lqf (k_et n) f_et:=fun x=>by unfold k_et f_et b_et;repeat (first|with_reducible (first|refine mB ?_ fun _=>?_|refine mA (l_e3 n) ?_|refine mA (l_dn n) ?_|refine mA (l_eu n) ?_)|exact rfl|exact q07 _)
def k_do(_n:Nat):=f_do
theorem l_do(n:Nat):lqf (k_do n) f_do:=lqr
def k_du(_n:Nat):=f_du
theorem l_du(n:Nat):lqf (k_du n) f_du:=lqr
def k_dq(n:Nat):=b_dq (lfN n) (k_du n)
theorem q6b(n:Nat)(c c':Y42->Option Y42)(hc:lqf c c'):lqf (b_dq (lfN n) c) (b_dq lf c'):=fun x=>by unfold b_dq;repeat (first|with_reducible (first|refine mB ?_ fun _=>?_|refine mF ?_|refine mA hc ?_)|exact rfl|exact q07 _)
theorem l_dq(n:Nat):lqf (k_dq n) f_dq:=q6b n _ _ (l_du n)
def k_ds(n:Nat):=b_ds (lfN n) (k_du n)
theorem l_ds(n:Nat):lqf (k_ds n) f_ds:=fun x=>by unfold k_ds f_ds b_ds;repeat (first|with_reducible (first|refine mB ?_ fun _=>?_|refine mF ?_|refine mA (l_du n) ?_)|exact rfl|exact q07 _)
def k_ar(n:Nat):=b_ar (lfN n) (k_do n) (k_dq n) (k_ds n)
set_option maxRecDepth 100000 in
theorem l_ar(n:Nat):lqf (k_ar n) f_ar:=fun x=>by unfold k_ar f_ar b_ar;repeat (first|with_reducible (first|refine mB ?_ fun _=>?_|refine mC ?_ ?_ ?_|refine mL (fun _=>?_) ?_|refine mF ?_|refine mA (l_do n) ?_|refine mA (l_dq n) ?_|refine mA (l_ds n) ?_)|exact rfl|exact q07 _)
def k_d7(n:Nat):=b_d7 (lfN n) (k_as n)
theorem l_d7(n:Nat):lqf (k_d7 n) f_d7:=fun x=>by unfold k_d7 f_d7 b_d7;repeat (first|with_reducible (first|refine mB ?_ fun _=>?_|refine mC ?_ ?_ ?_|refine mF ?_|refine mA (l_as n) ?_)|exact rfl|exact q07 _)
def k_ac(n:Nat):=b_ac (lfN n) (k_ep n)
theorem l_ac(n:Nat):lqf (k_ac n) f_ac:=fun x=>by unfold k_ac f_ac b_ac;repeat (first|with_reducible (first|refine mB ?_ fun _=>?_|refine mA (l_ep n) ?_)|exact rfl|exact q07 _)
def k_a9(n:Nat):=b_a9 (lfN n) (k_ep n)
theorem l_a9(n:Nat):lqf (k_a9 n) f_a9:=fun x=>by unfold k_a9 f_a9 b_a9;repeat (first|with_reducible (first|refine mB ?_ fun _=>?_|refine mA (l_ep n) ?_)|exact rfl|exact q07 _)
def k_da(n:Nat):=b_da (lfN n) (k_a9 n)
theorem l_da(n:Nat):lqf (k_da n) f_da:=fun x=>by unfold k_da f_da b_da;repeat (first|with_reducible (first|refine mB ?_ fun _=>?_|refine mC ?_ ?_ ?_|refine mA (l_a9 n) ?_)|exact rfl|exact q07 _)
def k_d2(n:Nat):=b_d2 (lfN n) (k_ac n) (k_da n)
theorem l_d2(n:Nat):lqf (k_d2 n) f_d2:=fun x=>by unfold k_d2 f_d2 b_d2;repeat (first|with_reducible (first|refine mB ?_ fun _=>?_|refine mA (l_ac n) ?_|refine mA (l_da n) ?_)|exact rfl|exact q07 _)
def k_ae(n:Nat):=b_ae (lfN n) (k_ep n)
theorem l_ae(n:Nat):lqf (k_ae n) f_ae:=fun x=>by unfold k_ae f_ae b_ae;repeat (first|with_reducible (first|refine mB ?_ fun _=>?_|refine mA (l_ep n) ?_)|exact rfl|exact q07 _)
def k_af(n:Nat):=b_af (lfN n) (k_ep n)
theorem l_af(n:Nat):lqf (k_af n) f_af:=fun x=>by unfold k_af f_af b_af;repeat (first|with_reducible (first|refine mB ?_ fun _=>?_|refine mA (l_ep n) ?_)|exact rfl|exact q07 _)
def k_d9(n:Nat):=b_d9 (lfN n) (k_da n) (k_af n)
theorem l_d9(n:Nat):lqf (k_d9 n) f_d9:=fun x=>by unfold k_d9 f_d9 b_d9;repeat (first|with_reducible (first|refine mB ?_ fun _=>?_|refine mA (l_da n) ?_|refine mA (l_af n) ?_)|exact rfl|exact q07 _)
def k_dc(n:Nat):=b_dc (lfN n) (k_ae n) (k_d9 n)
theorem l_dc(n:Nat):lqf (k_dc n) f_dc:=fun x=>by unfold k_dc f_dc b_dc;repeat (first|with_reducible (first|refine mB ?_ fun _=>?_|refine mA (l_ae n) ?_|refine mA (l_d9 n) ?_)|exact rfl|exact q07 _)
def kg_d8(n:Nat)(self:Yf25):=b_d8 (lfN n) self (k_eo n) (k_et n) (k_d7 n)
def k_d8(n:Nat):=recN (kg_d8 n) n
theorem l_d8(n:Nat):lqf (k_d8 n) f_d8:=qgt (fun _ _ hg x=>by unfold kg_d8 g_d8 b_d8;repeat (first|with_reducible (first|refine mB ?_ fun _=>?_|refine mC ?_ ?_ ?_|refine mL (fun _=>?_) ?_|refine mF ?_|refine mA hg ?_|refine mA (l_eo n) ?_|refine mA (l_et n) ?_|refine mA (l_d7 n) ?_)|exact rfl|exact q07 _)) n
def k_d5(n:Nat):=b_d5 (lfN n) (k_a4 n)
theorem l_d5(n:Nat):lqf (k_d5 n) f_d5:=fun x=>by unfold k_d5 f_d5 b_d5;repeat (first|with_reducible (first|refine mB ?_ fun _=>?_|refine mC ?_ ?_ ?_|refine mA (l_a4 n) ?_)|exact rfl|exact q07 _)
def k_d4(n:Nat):=b_d4 (lfN n) (k_d5 n)
theorem l_d4(n:Nat):lqf (k_d4 n) f_d4:=fun x=>by unfold k_d4 f_d4 b_d4;repeat (first|with_reducible (first|refine mB ?_ fun _=>?_|refine mC ?_ ?_ ?_|refine mA (l_d5 n) ?_)|exact rfl|exact q07 _)
def k_d6(n:Nat):=b_d6 (lfN n) (k_d5 n)
theorem l_d6(n:Nat):lqf (k_d6 n) f_d6:=fun x=>by unfold k_d6 f_d6 b_d6;repeat (first|with_reducible (first|refine mB ?_ fun _=>?_|refine mC ?_ ?_ ?_|refine mA (l_d5 n) ?_)|exact rfl|exact q07 _)
def q4o(n:Nat)(self:Yf1):=q3i (lfN n) self (k_eo n)
theorem qb3(n:Nat){g g'}(hg:lqf g g'):lqf (q4o n g) (q0i g'):=fun x=>by unfold q4o q0i q3i;repeat (first|with_reducible (first|refine mB ?_ fun _=>?_|refine mA hg ?_|refine mA (l_eo n) ?_)|exact rfl|exact q07 _)
def q4p(n:Nat)(self:Yf1):=q3j (lfN n) self (k_d8 n) (k_eo n) (k_db n) (k_d2 n) (k_dc n) (k_ae n) (k_d9 n)
set_option maxRecDepth 100000 in
theorem qb4(n:Nat){g g'}(hg:lqf g g'):lqf (q4p n g) (q1a g'):=fun x=>by unfold q4p q1a q3j;repeat (first|with_reducible (first|refine mB ?_ fun _=>?_|refine mC ?_ ?_ ?_|refine mL (fun _=>?_) ?_|refine mF ?_|refine mA hg ?_|refine mA (l_d8 n) ?_|refine mA (l_eo n) ?_|refine mA (l_db n) ?_|refine mA (l_d2 n) ?_|refine mA (l_dc n) ?_|refine mA (l_ae n) ?_|refine mA (l_d9 n) ?_)|exact rfl|exact q07 _)
def q3o(n:Nat)(self:Yf1):=q43 (lfN n) self (k_db n) (k_a9 n)
theorem q74(n:Nat){g g'}(hg:lqf g g'):lqf (q3o n g) (q0o g'):=fun x=>by unfold q3o q0o q43;repeat (first|with_reducible (first|refine mB ?_ fun _=>?_|refine mC ?_ ?_ ?_|refine mA hg ?_|refine mA (l_db n) ?_|refine mA (l_a9 n) ?_)|exact rfl|exact q07 _)
def q54(n:Nat)(self:Yf1):=q44 (lfN n) (k_d4 n) (q3o n self) (k_d6 n)
theorem qcf(n:Nat){g g'}(hg:lqf g g'):lqf (q54 n g) (q17 g'):=fun x=>by unfold q54 q17 q44;repeat (first|with_reducible (first|refine mB ?_ fun _=>?_|refine mC ?_ ?_ ?_|refine mA (l_d4 n) ?_|refine mA (q74 n hg) ?_|refine mA (l_d6 n) ?_)|exact rfl|exact q07 _)
def q55(n:Nat)(self:Yf1):=q45 (lfN n) (k_eo n) (k_db n) (k_d2 n) (k_ae n) (k_d9 n) (k_d5 n) (q54 n self)
theorem qcg(n:Nat){g g'}(hg:lqf g g'):lqf (q55 n g) (q1e g'):=fun x=>by unfold q55 q1e q45;repeat (first|with_reducible (first|refine mB ?_ fun _=>?_|refine mF ?_|refine mA (l_eo n) ?_|refine mA (l_db n) ?_|refine mA (l_d2 n) ?_|refine mA (l_ae n) ?_|refine mA (l_d9 n) ?_|refine mA (l_d5 n) ?_|refine mA (qcf n hg) ?_)|exact rfl|exact q07 _)
def q56(n:Nat)(self:Yf1):=q46 (lfN n) (k_eo n) (k_d2 n) (k_ae n) (k_d4 n) (k_d9 n) (q3o n self)
theorem qch(n:Nat){g g'}(hg:lqf g g'):lqf (q56 n g) (q1f g'):=fun x=>by unfold q56 q1f q46;repeat (first|with_reducible (first|refine mB ?_ fun _=>?_|refine mC ?_ ?_ ?_|refine mL (fun _=>?_) ?_|refine mF ?_|refine mA (l_eo n) ?_|refine mA (l_d2 n) ?_|refine mA (l_ae n) ?_|refine mA (l_d4 n) ?_|refine mA (l_d9 n) ?_|refine mA (q74 n hg) ?_)|exact rfl|exact q07 _)
def kg_d3(n:Nat)(self:Yf1):=b_d3 (lfN n) (q4o n self) (k_db n) (k_et n) (k_ar n) (k_d7 n) (k_d2 n) (k_dc n) (k_ae n) (q4p n self) (k_d4 n) (q55 n self) (q56 n self)
def k_d3(n:Nat):=recN (kg_d3 n) n
set_option maxRecDepth 100000 in
theorem l_d3(n:Nat):lqf (k_d3 n) f_d3:=qgt (fun _ _ hg x=>by unfold kg_d3 g_d3 b_d3;repeat (first|with_reducible (first|refine mB ?_ fun _=>?_|refine mC ?_ ?_ ?_|refine mF ?_|refine mA (qb3 n hg) ?_|refine mA (l_db n) ?_|refine mA (l_et n) ?_|refine mA (l_ar n) ?_|refine mA (l_d7 n) ?_|refine mA (l_d2 n) ?_|refine mA (l_dc n) ?_|refine mA (l_ae n) ?_|refine mA (qb4 n hg) ?_|refine mA (l_d4 n) ?_|refine mA (qcg n hg) ?_|refine mA (qch n hg) ?_)|exact rfl|exact q07 _)) n
def k_cy(n:Nat):=b_cy (lfN n) (k_e5 n) (k_a0 n) (k_d3 n)
theorem l_cy(n:Nat):lqf (k_cy n) f_cy:=fun x=>by unfold k_cy f_cy b_cy;repeat (first|with_reducible (first|refine mB ?_ fun _=>?_|refine mC ?_ ?_ ?_|refine mA (l_e5 n) ?_|refine mA (l_a0 n) ?_|refine mA (l_d3 n) ?_)|exact rfl|exact q07 _)
def k_am(n:Nat):=b_am (lfN n)
theorem l_am(n:Nat):lqf (k_am n) f_am:=fun x=>by unfold k_am f_am b_am;repeat (first|with_reducible (first|refine mB ?_ fun _=>?_|refine mC ?_ ?_ ?_)|exact rfl|exact q07 _)
def k_e4(n:Nat):=b_e4 (lfN n) (k_am n)
theorem l_e4(n:Nat):lqf (k_e4 n) f_e4:=fun x=>by unfold k_e4 f_e4 b_e4;repeat (first|with_reducible (first|refine mB ?_ fun _=>?_|refine mC ?_ ?_ ?_|refine mL (fun _=>?_) ?_|refine mA (l_am n) ?_)|exact rfl|exact q07 _)
def k_e1(n:Nat):=b_e1 (lfN n) (k_e4 n)
theorem l_e1(n:Nat):lqf (k_e1 n) f_e1:=fun x=>by unfold k_e1 f_e1 b_e1;repeat (first|with_reducible (first|refine mB ?_ fun _=>?_|refine mA (l_e4 n) ?_)|exact rfl|exact q07 _)
def k_dw(n:Nat):=b_dw (lfN n) (k_e1 n)
theorem l_dw(n:Nat):lqf (k_dw n) f_dw:=fun x=>by unfold k_dw f_dw b_dw;repeat (first|with_reducible (first|refine mB ?_ fun _=>?_|refine mA (l_e1 n) ?_)|exact rfl|exact q07 _)
def k_al(n:Nat):=b_al (lfN n) (k_dw n)
theorem l_al(n:Nat):lqf (k_al n) f_al:=fun x=>by unfold k_al f_al b_al;repeat (first|with_reducible (first|refine mB ?_ fun _=>?_|refine mC ?_ ?_ ?_|refine mS (fun _=>?_) _|refine mA (l_dw n) ?_)|exact rfl|exact q07 _)
def k_aa(n:Nat):=b_aa (lfN n) (k_er n) (k_al n)
theorem l_aa(n:Nat):lqf (k_aa n) f_aa:=fun x=>by unfold k_aa f_aa b_aa;repeat (first|with_reducible (first|refine mB ?_ fun _=>?_|refine mC ?_ ?_ ?_|refine mL (fun _=>?_) ?_|refine mA (l_er n) ?_|refine mA (l_al n) ?_)|exact rfl|exact q07 _)
def k_dv(_n:Nat):=f_dv
theorem l_dv(n:Nat):lqf (k_dv n) f_dv:=lqr
def k_dt(n:Nat):=b_dt (lfN n) (k_dv n)
theorem l_dt(n:Nat):lqf (k_dt n) f_dt:=fun x=>by unfold k_dt f_dt b_dt;repeat (first|with_reducible (first|refine mB ?_ fun _=>?_|refine mF ?_|refine mA (l_dv n) ?_)|exact rfl|exact q07 _)
def k_ak(n:Nat):=b_ak (lfN n) (k_dt n)
theorem l_ak(n:Nat):lqf (k_ak n) f_ak:=fun x=>by unfold k_ak f_ak b_ak;repeat (first|with_reducible (first|refine mB ?_ fun _=>?_|refine mA (l_dt n) ?_)|exact rfl|exact q07 _)
def k_dr(n:Nat):=b_dr (lfN n) (k_dv n)
theorem q5o(n:Nat)(c c':Y16->Option Y16)(hc:lqf c c'):lqf (b_dr (lfN n) c) (b_dr lf c'):=fun x=>by unfold b_dr;repeat (first|with_reducible (first|refine mB ?_ fun _=>?_|refine mF ?_|refine mA hc ?_)|exact rfl|exact q07 _)
theorem l_dr(n:Nat):lqf (k_dr n) f_dr:=q5o n _ _ (l_dv n)
def k_e2(_n:Nat):=f_e2
theorem l_e2(n:Nat):lqf (k_e2 n) f_e2:=lqr
def k_ah(n:Nat):=b_ah (lfN n) (k_ak n) (k_dr n) (k_e2 n)
theorem l_ah(n:Nat):lqf (k_ah n) f_ah:=fun x=>by unfold k_ah f_ah b_ah;repeat (first|with_reducible (first|refine mB ?_ fun _=>?_|refine mA (l_ak n) ?_|refine mA (l_dr n) ?_|refine mA (l_e2 n) ?_)|exact rfl|exact q07 _)
def k_ai(n:Nat):=b_ai (lfN n)
theorem l_ai(n:Nat):lqf (k_ai n) f_ai:=fun x=>by unfold k_ai f_ai b_ai;repeat (first|with_reducible refine mB ?_ fun _=>?_|exact q07 _)
def k_an(n:Nat):=b_an (lfN n)
theorem l_an(n:Nat):lqf (k_an n) f_an:=fun x=>by unfold k_an f_an b_an;repeat (first|with_reducible (first|refine mB ?_ fun _=>?_|refine mC ?_ ?_ ?_|refine mL (fun _=>?_) ?_)|exact rfl|exact q07 _)
def q4q(n:Nat)(self:Yf16):=q3k (lfN n) self
theorem qb5(n:Nat){g g'}(hg:lqf g g'):lqf (q4q n g) (q0x g'):=fun x=>by unfold q4q q0x q3k;repeat (first|with_reducible (first|refine mB ?_ fun _=>?_|refine mC ?_ ?_ ?_|refine mL (fun _=>?_) ?_|refine mA hg ?_)|exact rfl|exact q07 _)
def kg_aj(n:Nat)(self:Yf16):=b_aj (lfN n) (q4q n self) (k_ak n) (k_ah n) (k_ai n) (k_an n) (k_en n)
def k_aj(n:Nat):=recN (kg_aj n) n
set_option maxRecDepth 100000 in
theorem l_aj(n:Nat):lqf (k_aj n) f_aj:=qgt (fun _ _ hg x=>by unfold kg_aj g_aj b_aj;repeat (first|with_reducible (first|refine mB ?_ fun _=>?_|refine mC ?_ ?_ ?_|refine mS (fun _=>?_) _|refine mA (qb5 n hg) ?_|refine mA (l_ak n) ?_|refine mA (l_ah n) ?_|refine mA (l_ai n) ?_|refine mA (l_an n) ?_|refine mA (l_en n) ?_)|exact rfl|exact q07 _)) n
def k_dp(_n:Nat):=f_dp
theorem l_dp(n:Nat):lqf (k_dp n) f_dp:=lqr
def k_ad(n:Nat):=b_ad (lfN n) (k_aa n) (k_aj n) (k_dp n)
theorem l_ad(n:Nat):lqf (k_ad n) f_ad:=fun x=>by unfold k_ad f_ad b_ad;repeat (first|with_reducible (first|refine mB ?_ fun _=>?_|refine mC ?_ ?_ ?_|refine mA (l_aa n) ?_|refine mA (l_aj n) ?_|refine mA (l_dp n) ?_)|exact rfl|exact q07 _)
def k_d1(n:Nat):=b_d1 (lfN n) (k_cy n) (k_ad n)
theorem l_d1(n:Nat):lqf (k_d1 n) f_d1:=fun x=>by unfold k_d1 f_d1 b_d1;repeat (first|with_reducible (first|refine mB ?_ fun _=>?_|refine mC ?_ ?_ ?_|refine mA (l_cy n) ?_|refine mA (l_ad n) ?_)|exact rfl|exact q07 _)
def k_ab(n:Nat):=b_ab (lfN n) (k_aa n) (k_aj n) (k_dp n)
theorem l_ab(n:Nat):lqf (k_ab n) f_ab:=fun x=>by unfold k_ab f_ab b_ab;repeat (first|with_reducible (first|refine mB ?_ fun _=>?_|refine mC ?_ ?_ ?_|refine mA (l_aa n) ?_|refine mA (l_aj n) ?_|refine mA (l_dp n) ?_)|exact rfl|exact q07 _)
def k_cz(n:Nat):=b_cz (lfN n) (k_cy n) (k_ab n)
theorem l_cz(n:Nat):lqf (k_cz n) f_cz:=fun x=>by unfold k_cz f_cz b_cz;repeat (first|with_reducible (first|refine mB ?_ fun _=>?_|refine mC ?_ ?_ ?_|refine mA (l_cy n) ?_|refine mA (l_ab n) ?_)|exact rfl|exact q07 _)
def k_e8(n:Nat):=b_e8 (lfN n) (k_e9 n)
theorem l_e8(n:Nat):lqf (k_e8 n) f_e8:=fun x=>by unfold k_e8 f_e8 b_e8;repeat (first|with_reducible (first|refine mB ?_ fun _=>?_|refine mA (l_e9 n) ?_)|exact rfl|exact q07 _)
def k_d0(n:Nat):=b_d0 (lfN n) (k_e8 n) (k_d8 n)
theorem l_d0(n:Nat):lqf (k_d0 n) f_d0:=fun x=>by unfold k_d0 f_d0 b_d0;repeat (first|with_reducible (first|refine mB ?_ fun _=>?_|refine mC ?_ ?_ ?_|refine mA (l_e8 n) ?_|refine mA (l_d8 n) ?_)|exact rfl|exact q07 _)
def k_aq(n:Nat):=b_aq (lfN n)
theorem l_aq(n:Nat):lqf (k_aq n) f_aq:=fun x=>by unfold k_aq f_aq b_aq;exact q07 _
def k_b8(n:Nat):=b_b8 (lfN n) (k_aq n)
theorem l_b8(n:Nat):lqf (k_b8 n) f_b8:=fun x=>by unfold k_b8 f_b8 b_b8;repeat (first|with_reducible (first|refine mB ?_ fun _=>?_|refine mC ?_ ?_ ?_|refine mL (fun _=>?_) ?_|refine mA (l_aq n) ?_)|exact rfl|exact q07 _)
def k_b5(n:Nat):=b_b5 (lfN n) (k_az n)
theorem l_b5(n:Nat):lqf (k_b5 n) f_b5:=fun x=>by unfold k_b5 f_b5 b_b5;repeat (first|with_reducible (first|refine mB ?_ fun _=>?_|refine mC ?_ ?_ ?_|refine mL (fun _=>?_) ?_|refine mA (l_az n) ?_)|exact rfl|exact q07 _)
def k_b6(n:Nat):=b_b6 (lfN n) (k_b3 n)
theorem l_b6(n:Nat):lqf (k_b6 n) f_b6:=fun x=>by unfold k_b6 f_b6 b_b6;repeat (first|with_reducible (first|refine mB ?_ fun _=>?_|refine mC ?_ ?_ ?_|refine mL (fun _=>?_) ?_|refine mA (l_b3 n) ?_)|exact rfl|exact q07 _)
def k_b7(n:Nat):=b_b7 (lfN n) (k_ax n)
theorem l_b7(n:Nat):lqf (k_b7 n) f_b7:=fun x=>by unfold k_b7 f_b7 b_b7;repeat (first|with_reducible (first|refine mB ?_ fun _=>?_|refine mC ?_ ?_ ?_|refine mL (fun _=>?_) ?_|refine mA (l_ax n) ?_)|exact rfl|exact q07 _)
def k_b1(n:Nat):=b_b1 (lfN n) (k_ao n)
theorem l_b1(n:Nat):lqf (k_b1 n) f_b1:=fun x=>by unfold k_b1 f_b1 b_b1;repeat (first|with_reducible (first|refine mB ?_ fun _=>?_|refine mC ?_ ?_ ?_|refine mA (l_ao n) ?_)|exact rfl|exact q07 _)
def k_a8(n:Nat):=b_a8 (lfN n)
theorem l_a8(n:Nat):lqf (k_a8 n) f_a8:=fun x=>by unfold k_a8 f_a8 b_a8;repeat (first|with_reducible (first|refine mB ?_ fun _=>?_|refine mC ?_ ?_ ?_)|exact rfl|exact q07 _)
def k_dz(n:Nat):=b_dz (lfN n) (k_a8 n)
theorem l_dz(n:Nat):lqf (k_dz n) f_dz:=fun x=>by unfold k_dz f_dz b_dz;repeat (first|with_reducible (first|refine mB ?_ fun _=>?_|refine mA (l_a8 n) ?_)|exact rfl|exact q07 _)
def k_a7(n:Nat):=b_a7 (lfN n) (k_a8 n)
theorem l_a7(n:Nat):lqf (k_a7 n) f_a7:=fun x=>by unfold k_a7 f_a7 b_a7;repeat (first|with_reducible (first|refine mB ?_ fun _=>?_|refine mC ?_ ?_ ?_|refine mA (l_a8 n) ?_)|exact rfl|exact q07 _)
def k_dx(n:Nat):=b_dx (lfN n) (k_a7 n)
theorem l_dx(n:Nat):lqf (k_dx n) f_dx:=fun x=>by unfold k_dx f_dx b_dx;repeat (first|with_reducible (first|refine mB ?_ fun _=>?_|refine mA (l_a7 n) ?_)|exact rfl|exact q07 _)
def k_es(n:Nat):=b_es (lfN n) (k_et n) (k_dx n)
theorem l_es(n:Nat):lqf (k_es n) f_es:=fun x=>by unfold k_es f_es b_es;repeat (first|with_reducible (first|refine mB ?_ fun _=>?_|refine mC ?_ ?_ ?_|refine mL (fun _=>?_) ?_|refine mA (l_et n) ?_|refine mA (l_dx n) ?_)|exact rfl|exact q07 _)
def k_b2(n:Nat):=b_b2 (lfN n) (k_e0 n)
set_option maxRecDepth 100000 in
theorem l_b2(n:Nat):lqf (k_b2 n) f_b2:=fun x=>by unfold k_b2 f_b2 b_b2;repeat (first|with_reducible (first|refine mB ?_ fun _=>?_|refine mC ?_ ?_ ?_|refine mL (fun _=>?_) ?_|refine mS (fun _=>?_) _|refine mF ?_|refine mA (l_e0 n) ?_)|exact rfl|exact q07 _)
def k_b0(n:Nat):=b_b0 (lfN n) (k_b5 n) (k_b6 n) (k_b7 n) (k_b1 n) (k_b4 n) (k_ay n) (k_b3 n) (k_dz n) (k_ax n) (k_es n) (k_b2 n)
theorem l_b0(n:Nat):lqf (k_b0 n) f_b0:=fun x=>by unfold k_b0 f_b0 b_b0;repeat (first|with_reducible (first|refine mB ?_ fun _=>?_|refine mC ?_ ?_ ?_|refine mA (l_b5 n) ?_|refine mA (l_b6 n) ?_|refine mA (l_b7 n) ?_|refine mA (l_b1 n) ?_|refine mA (l_b4 n) ?_|refine mA (l_ay n) ?_|refine mA (l_b3 n) ?_|refine mA (l_dz n) ?_|refine mA (l_ax n) ?_|refine mA (l_es n) ?_|refine mA (l_b2 n) ?_)|exact rfl|exact q07 _)
def k_ap(n:Nat):=b_ap (lfN n) (k_b8 n) (k_b0 n)
theorem l_ap(n:Nat):lqf (k_ap n) f_ap:=fun x=>by unfold k_ap f_ap b_ap;repeat (first|with_reducible (first|refine mB ?_ fun _=>?_|refine mC ?_ ?_ ?_|refine mL (fun _=>?_) ?_|refine mF ?_|refine mA (l_b8 n) ?_|refine mA (l_b0 n) ?_)|exact rfl|exact q07 _)
def k_bh(n:Nat):=b_bh (lfN n)
theorem l_bh(n:Nat):lqf (k_bh n) f_bh:=fun x=>by unfold k_bh f_bh b_bh;repeat (first|with_reducible (first|refine mB ?_ fun _=>?_|refine mC ?_ ?_ ?_)|exact rfl|exact q07 _)
def k_bk(n:Nat):=b_bk (lfN n)
theorem l_bk(n:Nat):lqf (k_bk n) f_bk:=fun x=>by unfold k_bk f_bk b_bk;repeat (first|with_reducible (first|refine mB ?_ fun _=>?_|refine mC ?_ ?_ ?_)|exact rfl|exact q07 _)
def k_bi(n:Nat):=b_bi (lfN n) (k_df n)
theorem l_bi(n:Nat):lqf (k_bi n) f_bi:=fun x=>by unfold k_bi f_bi b_bi;repeat (first|with_reducible (first|refine mB ?_ fun _=>?_|refine mC ?_ ?_ ?_|refine mA (l_df n) ?_)|exact rfl|exact q07 _)
def k_bn(n:Nat):=b_bn (lfN n)
theorem l_bn(n:Nat):lqf (k_bn n) f_bn:=fun x=>by unfold k_bn f_bn b_bn;repeat (first|with_reducible refine mB ?_ fun _=>?_|exact q07 _)
def k_bc(n:Nat):=b_bc (lfN n) (k_ep n)
theorem l_bc(n:Nat):lqf (k_bc n) f_bc:=fun x=>by unfold k_bc f_bc b_bc;repeat (first|with_reducible (first|refine mB ?_ fun _=>?_|refine mA (l_ep n) ?_)|exact rfl|exact q07 _)
def k_bj(n:Nat):=b_bj (lfN n) (k_bh n) (k_bk n) (k_bi n)
theorem l_bj(n:Nat):lqf (k_bj n) f_bj:=fun x=>by unfold k_bj f_bj b_bj;repeat (first|with_reducible (first|refine mB ?_ fun _=>?_|refine mC ?_ ?_ ?_|refine mA (l_bh n) ?_|refine mA (l_bk n) ?_|refine mA (l_bi n) ?_)|exact rfl|exact q07 _)
def k_bd(n:Nat):=b_bd (lfN n) (k_bi n)
set_option maxRecDepth 100000 in
theorem l_bd(n:Nat):lqf (k_bd n) f_bd:=fun x=>by unfold k_bd f_bd b_bd;repeat (first|with_reducible (first|refine mB ?_ fun _=>?_|refine mC ?_ ?_ ?_|refine mA (l_bi n) ?_)|exact rfl|exact q07 _)
def k_be(n:Nat):=b_be (lfN n) (k_bh n) (k_bk n) (k_bi n) (k_bn n) (k_bj n)
set_option maxRecDepth 100000 in
theorem l_be(n:Nat):lqf (k_be n) f_be:=fun x=>by unfold k_be f_be b_be;repeat (first|with_reducible (first|refine mB ?_ fun _=>?_|refine mC ?_ ?_ ?_|refine mA (l_bh n) ?_|refine mA (l_bk n) ?_|refine mA (l_bi n) ?_|refine mA (l_bn n) ?_|refine mA (l_bj n) ?_)|exact rfl|exact q07 _)
def q3u(n:Nat)(self:Yf0):=q2s (lfN n) (k_ep n) self (k_bi n) (k_bn n) (k_be n) (k_bc n) (k_bj n)
set_option maxRecDepth 100000 in
theorem q98(n:Nat){g g'}(hg:lqf g g'):lqf (q3u n g) (q1w g'):=fun x=>by unfold q3u q1w q2s;repeat (first|with_reducible (first|refine mB ?_ fun _=>?_|refine mC ?_ ?_ ?_|refine mA (l_ep n) ?_|refine mA hg ?_|refine mA (l_bi n) ?_|refine mA (l_bn n) ?_|refine mA (l_be n) ?_|refine mA (l_bc n) ?_|refine mA (l_bj n) ?_)|exact rfl|exact q07 _)
def q4r(n:Nat)(self:Yf0):=q3l (lfN n) (k_bi n) (k_bn n) (k_bc n) (q3u n self)
set_option maxRecDepth 100000 in
theorem qb6(n:Nat){g g'}(hg:lqf g g'):lqf (q4r n g) (q2g g'):=fun x=>by unfold q4r q2g q3l;repeat (first|with_reducible (first|refine mB ?_ fun _=>?_|refine mC ?_ ?_ ?_|refine mL (fun _=>?_) ?_|refine mF ?_|refine mA (l_bi n) ?_|refine mA (l_bn n) ?_|refine mA (l_bc n) ?_|refine mA (q98 n hg) ?_)|exact rfl|exact q07 _)
def kg_bf(n:Nat)(self:Yf0):=b_bf (lfN n) (k_bh n) (k_bk n) (q4r n self)
def k_bf(n:Nat):=recN (kg_bf n) n
theorem l_bf(n:Nat):lqf (k_bf n) f_bf:=qgt (fun _ _ hg x=>by unfold kg_bf g_bf b_bf;repeat (first|with_reducible (first|refine mB ?_ fun _=>?_|refine mC ?_ ?_ ?_|refine mA (l_bh n) ?_|refine mA (l_bk n) ?_|refine mA (qb6 n hg) ?_)|exact rfl|exact q07 _)) n
def k_bl(n:Nat):=b_bl (lfN n) (k_a4 n)
theorem l_bl(n:Nat):lqf (k_bl n) f_bl:=fun x=>by unfold k_bl f_bl b_bl;repeat (first|with_reducible (first|refine mB ?_ fun _=>?_|refine mA (l_a4 n) ?_)|exact rfl|exact q07 _)
def k_dl(n:Nat):=b_dl (lfN n) (k_bl n)
theorem l_dl(n:Nat):lqf (k_dl n) f_dl:=fun x=>by unfold k_dl f_dl b_dl;repeat (first|with_reducible (first|refine mB ?_ fun _=>?_|refine mC ?_ ?_ ?_|refine mL (fun _=>?_) ?_|refine mA (l_bl n) ?_)|exact rfl|exact q07 _)
def k_dh(_n:Nat):=f_dh
theorem l_dh(n:Nat):lqf (k_dh n) f_dh:=lqr
def k_de(n:Nat):=b_de (lfN n) (k_dh n)
theorem l_de(n:Nat):lqf (k_de n) f_de:=fun x=>by unfold k_de f_de b_de;repeat (first|with_reducible (first|refine mB ?_ fun _=>?_|refine mC ?_ ?_ ?_|refine mL (fun _=>?_) ?_|refine mF ?_|refine mA (l_dh n) ?_)|exact rfl|exact q07 _)
def k_a3(n:Nat):=b_a3 (lfN n) (k_de n)
theorem l_a3(n:Nat):lqf (k_a3 n) f_a3:=fun x=>by unfold k_a3 f_a3 b_a3;repeat (first|with_reducible (first|refine mB ?_ fun _=>?_|refine mC ?_ ?_ ?_|refine mF ?_|refine mA (l_de n) ?_)|exact rfl|exact q07 _)
def k_a2(n:Nat):=b_a2 (lfN n) (k_a0 n) (k_a4 n) (k_a3 n)
set_option maxRecDepth 100000 in
theorem l_a2(n:Nat):lqf (k_a2 n) f_a2:=fun x=>by unfold k_a2 f_a2 b_a2;repeat (first|with_reducible (first|refine mB ?_ fun _=>?_|refine mC ?_ ?_ ?_|refine mL (fun _=>?_) ?_|refine mS (fun _=>?_) _|refine mF ?_|refine mK ?_ ?_|refine mA (l_a0 n) ?_|refine mA (l_a4 n) ?_|refine mA (l_a3 n) ?_)|exact rfl|exact q07 _)
def kg_bm(n:Nat)(self:Yf39):=b_bm (lfN n) (k_bc n) self
def k_bm(n:Nat):=recN (kg_bm n) n
theorem l_bm(n:Nat):lqf (k_bm n) f_bm:=qgt (fun _ _ hg x=>by unfold kg_bm g_bm b_bm;repeat (first|with_reducible (first|refine mB ?_ fun _=>?_|refine mC ?_ ?_ ?_|refine mA (l_bc n) ?_|refine mA hg ?_)|exact rfl|exact q07 _)) n
def q2b(n:Nat)(self:Yf0):=q2h (lfN n) self (k_bj n)
theorem q5f(n:Nat){g g'}(hg:lqf g g'):lqf (q2b n g) (q14 g'):=fun x=>by unfold q2b q14 q2h;repeat (first|with_reducible (first|refine mB ?_ fun _=>?_|refine mA hg ?_|refine mA (l_bj n) ?_)|exact rfl|exact q07 _)
def q3v(n:Nat)(self:Yf0):=q2t (lfN n) self (k_bf n) (k_bi n) (k_bc n) (q2b n self) (k_bj n)
theorem q99(n:Nat){g g'}(hg:lqf g g'):lqf (q3v n g) (q1x g'):=fun x=>by unfold q3v q1x q2t;repeat (first|with_reducible (first|refine mB ?_ fun _=>?_|refine mC ?_ ?_ ?_|refine mL (fun _=>?_) ?_|refine mS (fun _=>?_) _|refine mF ?_|refine mA hg ?_|refine mA (l_bf n) ?_|refine mA (l_bi n) ?_|refine mA (l_bc n) ?_|refine mA (q5f n hg) ?_|refine mA (l_bj n) ?_)|exact rfl|exact q07 _)
def q4d(n:Nat)(self:Yf0):=q33 (lfN n) self (k_bh n) (k_bk n) (k_ep n) (k_bi n) (k_bn n) (k_bc n) (k_bj n) (k_bd n) (q3v n self)
set_option maxRecDepth 100000 in
theorem qa5(n:Nat){g g'}(hg:lqf g g'):lqf (q4d n g) (q27 g'):=fun x=>by unfold q4d q27 q33;repeat (first|with_reducible (first|refine mB ?_ fun _=>?_|refine mC ?_ ?_ ?_|refine mA hg ?_|refine mA (l_bh n) ?_|refine mA (l_bk n) ?_|refine mA (l_ep n) ?_|refine mA (l_bi n) ?_|refine mA (l_bn n) ?_|refine mA (l_bc n) ?_|refine mA (l_bj n) ?_|refine mA (l_bd n) ?_|refine mA (q99 n hg) ?_)|exact rfl|exact q07 _)
def q4s(n:Nat)(self:Yf0):=q3m (lfN n) (k_bc n) (q4d n self) (k_bd n)
theorem qb7(n:Nat){g g'}(hg:lqf g g'):lqf (q4s n g) (q2i g'):=fun x=>by unfold q4s q2i q3m;repeat (first|with_reducible (first|refine mB ?_ fun _=>?_|refine mC ?_ ?_ ?_|refine mL (fun _=>?_) ?_|refine mA (l_bc n) ?_|refine mA (qa5 n hg) ?_|refine mA (l_bd n) ?_)|exact rfl|exact q07 _)
def q4t(n:Nat)(self:Yf0):=q3n (lfN n) (k_bh n) (k_bk n) (k_bi n) (k_bn n) (q4s n self) (k_dl n) (k_a2 n) (k_bm n)
set_option maxRecDepth 100000 in
theorem qb8(n:Nat){g g'}(hg:lqf g g'):lqf (q4t n g) (q2j g'):=fun x=>by unfold q4t q2j q3n;repeat (first|with_reducible (first|refine mB ?_ fun _=>?_|refine mC ?_ ?_ ?_|refine mL (fun _=>?_) ?_|refine mF ?_|refine mA (l_bh n) ?_|refine mA (l_bk n) ?_|refine mA (l_bi n) ?_|refine mA (l_bn n) ?_|refine mA (qb7 n hg) ?_|refine mA (l_dl n) ?_|refine mA (l_a2 n) ?_|refine mA (l_bm n) ?_)|exact rfl|exact q07 _)
def q4e(n:Nat)(self:Yf0):=q34 (lfN n) self (k_bi n) (q4t n self) (k_bn n) (k_be n) (k_bc n) (q2b n self) (k_bj n)
set_option maxRecDepth 100000 in
theorem qa6(n:Nat){g g'}(hg:lqf g g'):lqf (q4e n g) (q28 g'):=fun x=>by unfold q4e q28 q34;repeat (first|with_reducible (first|refine mB ?_ fun _=>?_|refine mC ?_ ?_ ?_|refine mA hg ?_|refine mA (l_bi n) ?_|refine mA (qb8 n hg) ?_|refine mA (l_bn n) ?_|refine mA (l_be n) ?_|refine mA (l_bc n) ?_|refine mA (q5f n hg) ?_|refine mA (l_bj n) ?_)|exact rfl|exact q07 _)
def q4f(n:Nat)(self:Yf0):=q35 (lfN n) (k_bh n) (k_bk n) (q4e n self)
theorem qa7(n:Nat){g g'}(hg:lqf g g'):lqf (q4f n g) (q29 g'):=fun x=>by unfold q4f q29 q35;repeat (first|with_reducible (first|refine mB ?_ fun _=>?_|refine mC ?_ ?_ ?_|refine mA (l_bh n) ?_|refine mA (l_bk n) ?_|refine mA (qa6 n hg) ?_)|exact rfl|exact q07 _)
def kg_bg(n:Nat)(self:Yf0):=b_bg (lfN n) (q4f n self)
def k_bg(n:Nat):=recN (kg_bg n) n
theorem l_bg(n:Nat):lqf (k_bg n) f_bg:=qgt (fun _ _ hg x=>by unfold kg_bg g_bg b_bg;repeat (first|with_reducible (first|refine mB ?_ fun _=>?_|refine mA (qa7 n hg) ?_)|exact rfl|exact q07 _)) n
def k_bb(n:Nat):=b_bb (lfN n) (k_e5 n) (k_a0 n) (k_bg n) (k_bh n) (k_bk n)
theorem l_bb(n:Nat):lqf (k_bb n) f_bb:=fun x=>by unfold k_bb f_bb b_bb;repeat (first|with_reducible (first|refine mB ?_ fun _=>?_|refine mC ?_ ?_ ?_|refine mA (l_e5 n) ?_|refine mA (l_a0 n) ?_|refine mA (l_bg n) ?_|refine mA (l_bh n) ?_|refine mA (l_bk n) ?_)|exact rfl|exact q07 _)
def k_ba(n:Nat):=b_ba (lfN n) (k_a0 n) (k_ap n) (k_bb n)
theorem l_ba(n:Nat):lqf (k_ba n) f_ba:=fun x=>by unfold k_ba f_ba b_ba;repeat (first|with_reducible (first|refine mB ?_ fun _=>?_|refine mC ?_ ?_ ?_|refine mA (l_a0 n) ?_|refine mA (l_ap n) ?_|refine mA (l_bb n) ?_)|exact rfl|exact q07 _)
def q8k(n:Nat):=q69 (lfN n) (k_d1 n) (k_cz n) (k_cy n) (k_d0 n) (k_ba n)
theorem qkf(n:Nat):lqf (q8k n) q21:=fun x=>by unfold q8k q21 q69;repeat (first|with_reducible (first|refine mB ?_ fun _=>?_|refine mC ?_ ?_ ?_|refine mA (l_d1 n) ?_|refine mA (l_cz n) ?_|refine mA (l_cy n) ?_|refine mA (l_d0 n) ?_|refine mA (l_ba n) ?_)|exact rfl|exact q07 _)
theorem z4g:q8k 300 ()=some (true,()):=by kernel_rfl
theorem qrf:q21 ()=some (true,()):=qkf 300 _ _ z4g
end
end Fn
end Ev