/- The example of the chapter, reckoned by the kernel: loops and calls that end soon. No statement of its own about the program. -/
import Derived.Test.YtnihgcgcdjdhiaaGreatDoorFnA
import Derived.KernelRfl
namespace Ev
open Go
namespace Fn
def lq {α:Type} (a b:Option α):Prop:=∀v,a=some v→b=some v
theorem q07 {α:Type} (a:Option α):lq a a:=fun _ h=>h
def lqf {α β:Type} (f g:α→Option β):Prop:=∀x,lq (f x) (g x)
theorem lqr {α β:Type} {f:α→Option β}:lqf f f:=fun _=>q07 _
@[reducible] noncomputable def lfN (n:Nat):Lf:={lf with loopR:=fun f s=>q4g f n s}
theorem qid {σ ρ:Type} {f g:σ→Option (σ⊕ρ)} (h:∀s,lq (f s) (g s)):∀(n:Nat) (s:σ) (r:ρ),q4g f n s=some r→q4g g n s=some r
 |0,_,_,e=>by cases e
 |n+1,s,r,e=>by
  unfold q4g at e ⊢;cases hf:f s with
  |none=>rw [hf] at e;cases e
  |some v=>rw [hf] at e;rw [h s v hf];cases v with
   |inl s'=>exact qid h n s' r e
   |inr r'=>exact e
theorem mB {n:Nat} {α β:Type} {x y:Option α} {f g:α→Option β} (h:lq x y) (h2:∀a,lq (f a) (g a)):lq ((lfN n).bnd x f) (lf.bnd y g):=by
 intro v e;show bnd y g=some v;have e:bnd x f=some v:=e;cases hx:x with
 |none=>rw [hx] at e;cases e
 |some a=>rw [hx] at e;rw [h a hx];exact h2 a v e
theorem mC {n:Nat} {α:Type} {c c':Bool} {x y x' y':Option α} (hc:c=c') (h:lq x x') (h2:lq y y'):lq ((lfN n).cnd c x y) (lf.cnd c' x' y'):=by
 subst hc;cases c with
 |true=>exact h
 |false=>exact h2
theorem mA {α β:Type} {f g:α→Option β} (h:lqf f g) {a a':α} (e:a=a'):lq (f a) (g a'):=by subst e;exact h a
theorem mS {n:Nat} {α β:Type} {f g:α→Option β} (h:∀a,lq (f a) (g a)) (y:α⊕β):lq ((lfN n).sumE f y) (lf.sumE g y):=by
 cases y with
 |inl a=>exact h a
 |inr b=>exact q07 _
theorem mL {n:Nat} {σ ρ:Type} {f g:σ→Option (σ⊕ρ)} (h:∀s,lq (f s) (g s)) {s s':σ} (hs:s=s'):lq ((lfN n).loopR f s) (lf.loopR g s'):=by subst hs;exact fun r e=>q77 n (qid h n s r e)
theorem mF {n:Nat} {a a':Int} (h:a=a'):lq ((lfN n).fit a) (lf.fit a'):=by rw [h];exact q07 (fit a')
theorem mK {n:Nat} {a b a' b':Int} (h:a=a') (h2:b=b'):lq ((lfN n).mkN a b) (lf.mkN a' b'):=by rw [h,h2];exact q07 (mkN a' b')
theorem qgn {α β:Type} {F G:(α→Option β)→α→Option β} (h1:∀g g':α→Option β,lqf g g'→lqf (F g) (G g')) (n:Nat):lqf (recN F n) (recR G):=by
 have aux:∀(n m:Nat),n≤m→∀x,lq (recN F n x) (recN G m x):=by
  intro n
  induction n with
  |zero=>intro m _ x v e;cases e
  |succ n ih=>
   intro m hm x;cases m with
   |zero=>omega
   |succ m=>exact h1 _ _ (fun x=>ih m (by omega) x) x
 intro x v e;exact q3m n (fun m hm=>aux n m hm x v e)
end Fn
end Ev

namespace Ev
open Go
namespace Fn
noncomputable section
def qve (x:(Sl (List Int))×Unit):Option ((Sl (List Int))×Unit):=bif Nat.ble x.1.l.length 1&&x.1.l.all qby then some (x.1,()) else none
theorem qvf (_n:Nat):lqf qve f_e5:=by
 intro x v h;obtain ⟨⟨b,l⟩,u⟩:=x;unfold qve at h;cases hc:(Nat.ble l.length 1&&l.all qby) with
 |false=>rw [hc] at h;cases h
 |true=>
  rw [hc] at h;injection h with h;subst h;simp only [zd] at hc;have hl:l.length≤1:=zH hc.1;have hm:(l.mergeSort fun a b=>!strLt b a)=l:=by
   match l,hl with
   |[],_=>exact List.mergeSort_nil ..
   |[a],_=>exact List.mergeSort_singleton ..
  have hd:decide (l.length<4611686018427387904)=true:=zu (by omega);show (bif l.all qby&&decide (l.length<4611686018427387904) then _ else none)=_;rw [hc.2,hd,hm];rfl
def k_f0 (n:Nat):=b_f0 (lfN n)
theorem l_f0 (n:Nat):lqf (k_f0 n) f_f0:=fun x=>by unfold k_f0 f_f0 b_f0;repeat (first|with_reducible refine mB ?_ fun _=>?_|exact q07 _)
def k_as (n:Nat):=b_as (lfN n)
theorem l_as (n:Nat):lqf (k_as n) f_as:=fun x=>by unfold k_as f_as b_as;repeat (first|with_reducible (first|refine mB ?_ fun _=>?_|refine mC ?_ ?_ ?_)|exact rfl|exact q07 _)
def k_ap (n:Nat):=b_ap (lfN n)
theorem l_ap (n:Nat):lqf (k_ap n) f_ap:=fun x=>by unfold k_ap f_ap b_ap;repeat (first|with_reducible (first|refine mB ?_ fun _=>?_|refine mC ?_ ?_ ?_)|exact rfl|exact q07 _)
def k_ao (n:Nat):=b_ao (lfN n)
theorem l_ao (n:Nat):lqf (k_ao n) f_ao:=fun x=>by unfold k_ao f_ao b_ao;repeat (first|with_reducible (first|refine mB ?_ fun _=>?_|refine mC ?_ ?_ ?_)|exact rfl|exact q07 _)
def k_aq (n:Nat):=b_aq (lfN n) (k_as n) (k_ap n) (k_ao n)
theorem l_aq (n:Nat):lqf (k_aq n) f_aq:=fun x=>by unfold k_aq f_aq b_aq;repeat (first|with_reducible (first|refine mB ?_ fun _=>?_|refine mC ?_ ?_ ?_|refine mA (l_as n) ?_|refine mA (l_ap n) ?_|refine mA (l_ao n) ?_)|exact rfl|exact q07 _)
def k_am (n:Nat):=b_am (lfN n) (k_aq n)
theorem l_am (n:Nat):lqf (k_am n) f_am:=fun x=>by unfold k_am f_am b_am;repeat (first|with_reducible (first|refine mB ?_ fun _=>?_|refine mC ?_ ?_ ?_|refine mL (fun _=>?_) ?_|refine mA (l_aq n) ?_)|exact rfl|exact q07 _)
def k_e4 (n:Nat):=b_e4 (lfN n)
theorem l_e4 (n:Nat):lqf (k_e4 n) f_e4:=fun x=>by unfold k_e4 f_e4 b_e4;repeat (first|with_reducible (first|refine mB ?_ fun _=>?_|refine mC ?_ ?_ ?_|refine mL (fun _=>?_) ?_)|exact rfl|exact q07 _)
def k_dj (n:Nat):=b_dj (lfN n) (k_e4 n)
theorem l_dj (n:Nat):lqf (k_dj n) f_dj:=fun x=>by unfold k_dj f_dj b_dj;repeat (first|with_reducible (first|refine mB ?_ fun _=>?_|refine mA (l_e4 n) ?_)|exact rfl|exact q07 _)
def k_e6 (n:Nat):=b_e6 (lfN n)
set_option maxRecDepth 100000 in
theorem l_e6 (n:Nat):lqf (k_e6 n) f_e6:=fun x=>by unfold k_e6 f_e6 b_e6;repeat (first|with_reducible (first|refine mB ?_ fun _=>?_|refine mC ?_ ?_ ?_|refine mL (fun _=>?_) ?_|refine mS (fun _=>?_) _|refine mK ?_ ?_)|exact rfl|exact q07 _)
def k_at (n:Nat):=b_at (lfN n) (k_e6 n)
theorem l_at (n:Nat):lqf (k_at n) f_at:=fun x=>by unfold k_at f_at b_at;repeat (first|with_reducible (first|refine mB ?_ fun _=>?_|refine mA (l_e6 n) ?_)|exact rfl|exact q07 _)
def k_ai (n:Nat):=b_ai (lfN n) (k_dj n) (k_at n)
theorem l_ai (n:Nat):lqf (k_ai n) f_ai:=fun x=>by unfold k_ai f_ai b_ai;repeat (first|with_reducible (first|refine mB ?_ fun _=>?_|refine mA (l_dj n) ?_|refine mA (l_at n) ?_)|exact rfl|exact q07 _)
def k_ak (n:Nat):=b_ak (lfN n) (k_am n) (k_ai n) (k_as n)
theorem l_ak (n:Nat):lqf (k_ak n) f_ak:=fun x=>by unfold k_ak f_ak b_ak;repeat (first|with_reducible (first|refine mB ?_ fun _=>?_|refine mC ?_ ?_ ?_|refine mA (l_am n) ?_|refine mA (l_ai n) ?_|refine mA (l_as n) ?_)|exact rfl|exact q07 _)
def k_al (n:Nat):=b_al (lfN n) (k_am n) (k_ai n) (k_ap n)
theorem l_al (n:Nat):lqf (k_al n) f_al:=fun x=>by unfold k_al f_al b_al;repeat (first|with_reducible (first|refine mB ?_ fun _=>?_|refine mC ?_ ?_ ?_|refine mA (l_am n) ?_|refine mA (l_ai n) ?_|refine mA (l_ap n) ?_)|exact rfl|exact q07 _)
def k_e7 (_n:Nat):=f_e7
theorem l_e7 (n:Nat):lqf (k_e7 n) f_e7:=lqr
def k_ar (n:Nat):=b_ar (lfN n) (k_e7 n)
theorem l_ar (n:Nat):lqf (k_ar n) f_ar:=fun x=>by unfold k_ar f_ar b_ar;repeat (first|with_reducible (first|refine mB ?_ fun _=>?_|refine mA (l_e7 n) ?_)|exact rfl|exact q07 _)
def k_an (n:Nat):=b_an (lfN n) (k_ar n)
theorem l_an (n:Nat):lqf (k_an n) f_an:=fun x=>by unfold k_an f_an b_an;repeat (first|with_reducible (first|refine mB ?_ fun _=>?_|refine mC ?_ ?_ ?_|refine mL (fun _=>?_) ?_|refine mA (l_ar n) ?_)|exact rfl|exact q07 _)
def k_aj (n:Nat):=b_aj (lfN n) (k_f0 n) (k_ak n) (k_al n) (k_an n) (k_ai n)
theorem l_aj (n:Nat):lqf (k_aj n) f_aj:=fun x=>by unfold k_aj f_aj b_aj;repeat (first|with_reducible (first|refine mB ?_ fun _=>?_|refine mC ?_ ?_ ?_|refine mA (l_f0 n) ?_|refine mA (l_ak n) ?_|refine mA (l_al n) ?_|refine mA (l_an n) ?_|refine mA (l_ai n) ?_)|exact rfl|exact q07 _)
def k_ad (n:Nat):=b_ad (lfN n) (k_aj n)
theorem l_ad (n:Nat):lqf (k_ad n) f_ad:=fun x=>by unfold k_ad f_ad b_ad;repeat (first|with_reducible (first|refine mB ?_ fun _=>?_|refine mA (l_aj n) ?_)|exact rfl|exact q07 _)
def k_ez (n:Nat):=b_ez (lfN n) (k_aj n)
theorem l_ez (n:Nat):lqf (k_ez n) f_ez:=fun x=>by unfold k_ez f_ez b_ez;repeat (first|with_reducible (first|refine mB ?_ fun _=>?_|refine mC ?_ ?_ ?_|refine mA (l_aj n) ?_)|exact rfl|exact q07 _)
def k_ex (n:Nat):=b_ex (lfN n) (k_ez n)
theorem l_ex (n:Nat):lqf (k_ex n) f_ex:=fun x=>by unfold k_ex f_ex b_ex;repeat (first|with_reducible (first|refine mB ?_ fun _=>?_|refine mA (l_ez n) ?_)|exact rfl|exact q07 _)
def k_do (n:Nat):=b_do (lfN n) (k_ex n)
theorem l_do (n:Nat):lqf (k_do n) f_do:=fun x=>by unfold k_do f_do b_do;repeat (first|with_reducible (first|refine mB ?_ fun _=>?_|refine mC ?_ ?_ ?_|refine mL (fun _=>?_) ?_|refine mA (l_ex n) ?_)|exact rfl|exact q07 _)
def k_de (n:Nat):=b_de (lfN n) (k_do n)
theorem l_de (n:Nat):lqf (k_de n) f_de:=fun x=>by unfold k_de f_de b_de;repeat (first|with_reducible (first|refine mB ?_ fun _=>?_|refine mA (l_do n) ?_)|exact rfl|exact q07 _)
def k_ep (n:Nat):=b_ep (lfN n)
theorem l_ep (n:Nat):lqf (k_ep n) f_ep:=fun x=>by unfold k_ep f_ep b_ep;repeat (first|with_reducible (first|refine mB ?_ fun _=>?_|refine mC ?_ ?_ ?_|refine mL (fun _=>?_) ?_)|exact rfl|exact q07 _)
def k_et (n:Nat):=b_et (lfN n) (k_ep n)
theorem l_et (n:Nat):lqf (k_et n) f_et:=fun x=>by unfold k_et f_et b_et;repeat (first|with_reducible (first|refine mB ?_ fun _=>?_|refine mC ?_ ?_ ?_|refine mA (l_ep n) ?_)|exact rfl|exact q07 _)
def k_ew (n:Nat):=b_ew (lfN n) (k_de n) (k_et n)
theorem l_ew (n:Nat):lqf (k_ew n) f_ew:=fun x=>by unfold k_ew f_ew b_ew;repeat (first|with_reducible (first|refine mB ?_ fun _=>?_|refine mC ?_ ?_ ?_|refine mA (l_de n) ?_|refine mA (l_et n) ?_)|exact rfl|exact q07 _)
def k_ag (n:Nat):=b_ag (lfN n)
theorem l_ag (n:Nat):lqf (k_ag n) f_ag:=fun x=>by unfold k_ag f_ag b_ag;exact q07 _
def k_dv (n:Nat):=b_dv (lfN n) (k_ag n)
theorem l_dv (n:Nat):lqf (k_dv n) f_dv:=fun x=>by unfold k_dv f_dv b_dv;repeat (first|with_reducible (first|refine mB ?_ fun _=>?_|refine mC ?_ ?_ ?_|refine mL (fun _=>?_) ?_|refine mA (l_ag n) ?_)|exact rfl|exact q07 _)
def k_da (n:Nat):=b_da (lfN n) (k_dv n)
theorem l_da (n:Nat):lqf (k_da n) f_da:=fun x=>by unfold k_da f_da b_da;repeat (first|with_reducible (first|refine mB ?_ fun _=>?_|refine mA (l_dv n) ?_)|exact rfl|exact q07 _)
def k_dl (n:Nat):=b_dl (lfN n)
theorem l_dl (n:Nat):lqf (k_dl n) f_dl:=fun x=>by unfold k_dl f_dl b_dl;repeat (first|with_reducible (first|refine mB ?_ fun _=>?_|refine mC ?_ ?_ ?_|refine mL (fun _=>?_) ?_)|exact rfl|exact q07 _)
def k_d6 (n:Nat):=b_d6 (lfN n) (k_dl n)
theorem l_d6 (n:Nat):lqf (k_d6 n) f_d6:=fun x=>by unfold k_d6 f_d6 b_d6;repeat (first|with_reducible (first|refine mB ?_ fun _=>?_|refine mA (l_dl n) ?_)|exact rfl|exact q07 _)
def k_ey (n:Nat):=b_ey (lfN n) (k_ew n) (k_d6 n)
theorem l_ey (n:Nat):lqf (k_ey n) f_ey:=fun x=>by unfold k_ey f_ey b_ey;repeat (first|with_reducible (first|refine mB ?_ fun _=>?_|refine mC ?_ ?_ ?_|refine mL (fun _=>?_) ?_|refine mF ?_|refine mA (l_ew n) ?_|refine mA (l_d6 n) ?_)|exact rfl|exact q07 _)
def k_af (n:Nat):=b_af (lfN n) (k_ew n) (k_da n) (k_ey n)
theorem l_af (n:Nat):lqf (k_af n) f_af:=fun x=>by unfold k_af f_af b_af;repeat (first|with_reducible (first|refine mB ?_ fun _=>?_|refine mC ?_ ?_ ?_|refine mA (l_ew n) ?_|refine mA (l_da n) ?_|refine mA (l_ey n) ?_)|exact rfl|exact q07 _)
def k_ah (n:Nat):=b_ah (lfN n) (k_af n)
theorem l_ah (n:Nat):lqf (k_ah n) f_ah:=fun x=>by unfold k_ah f_ah b_ah;repeat (first|with_reducible (first|refine mB ?_ fun _=>?_|refine mA (l_af n) ?_)|exact rfl|exact q07 _)
def k_dw (n:Nat):=b_dw (lfN n) (k_ah n)
theorem l_dw (n:Nat):lqf (k_dw n) f_dw:=fun x=>by unfold k_dw f_dw b_dw;repeat (first|with_reducible (first|refine mB ?_ fun _=>?_|refine mC ?_ ?_ ?_|refine mL (fun _=>?_) ?_|refine mA (l_ah n) ?_)|exact rfl|exact q07 _)
def k_dd (n:Nat):=b_dd (lfN n) (k_dw n)
theorem l_dd (n:Nat):lqf (k_dd n) f_dd:=fun x=>by unfold k_dd f_dd b_dd;repeat (first|with_reducible (first|refine mB ?_ fun _=>?_|refine mA (l_dw n) ?_)|exact rfl|exact q07 _)
def k_ae (n:Nat):=b_ae (lfN n) (k_ad n) (k_dd n)
theorem l_ae (n:Nat):lqf (k_ae n) f_ae:=fun x=>by unfold k_ae f_ae b_ae;repeat (first|with_reducible (first|refine mB ?_ fun _=>?_|refine mC ?_ ?_ ?_|refine mL (fun _=>?_) ?_|refine mA (l_ad n) ?_|refine mA (l_dd n) ?_)|exact rfl|exact q07 _)
def k_a1 (n:Nat):=b_a1 (lfN n) (k_ae n)
theorem l_a1 (n:Nat):lqf (k_a1 n) f_a1:=fun x=>by unfold k_a1 f_a1 b_a1;repeat (first|with_reducible (first|refine mB ?_ fun _=>?_|refine mA (l_ae n) ?_)|exact rfl|exact q07 _)
def k_dy (n:Nat):=b_dy (lfN n) (k_a1 n)
theorem l_dy (n:Nat):lqf (k_dy n) f_dy:=fun x=>by unfold k_dy f_dy b_dy;repeat (first|with_reducible (first|refine mB ?_ fun _=>?_|refine mC ?_ ?_ ?_|refine mL (fun _=>?_) ?_|refine mA (l_a1 n) ?_)|exact rfl|exact q07 _)
def k_d7 (n:Nat):=b_d7 (lfN n) (k_dy n)
theorem l_d7 (n:Nat):lqf (k_d7 n) f_d7:=fun x=>by unfold k_d7 f_d7 b_d7;repeat (first|with_reducible (first|refine mB ?_ fun _=>?_|refine mA (l_dy n) ?_)|exact rfl|exact q07 _)
def k_a2 (n:Nat):=b_a2 (lfN n)
theorem l_a2 (n:Nat):lqf (k_a2 n) f_a2:=fun x=>by unfold k_a2 f_a2 b_a2;exact q07 _
def k_dz (n:Nat):=b_dz (lfN n) (k_a2 n)
theorem l_dz (n:Nat):lqf (k_dz n) f_dz:=fun x=>by unfold k_dz f_dz b_dz;repeat (first|with_reducible (first|refine mB ?_ fun _=>?_|refine mC ?_ ?_ ?_|refine mL (fun _=>?_) ?_|refine mA (l_a2 n) ?_)|exact rfl|exact q07 _)
def k_a9 (n:Nat):=b_a9 (lfN n)
theorem l_a9 (n:Nat):lqf (k_a9 n) f_a9:=fun x=>by unfold k_a9 f_a9 b_a9;repeat (first|with_reducible (first|refine mB ?_ fun _=>?_|refine mC ?_ ?_ ?_)|exact rfl|exact q07 _)
def k_ac (n:Nat):=b_ac (lfN n) (k_a9 n)
theorem l_ac (n:Nat):lqf (k_ac n) f_ac:=fun x=>by unfold k_ac f_ac b_ac;repeat (first|with_reducible (first|refine mB ?_ fun _=>?_|refine mC ?_ ?_ ?_|refine mL (fun _=>?_) ?_|refine mA (l_a9 n) ?_)|exact rfl|exact q07 _)
def k_a8 (n:Nat):=b_a8 (lfN n) (k_ac n)
theorem l_a8 (n:Nat):lqf (k_a8 n) f_a8:=fun x=>by unfold k_a8 f_a8 b_a8;repeat (first|with_reducible (first|refine mB ?_ fun _=>?_|refine mA (l_ac n) ?_)|exact rfl|exact q07 _)
def k_a3 (n:Nat):=b_a3 (lfN n) (k_a8 n)
theorem l_a3 (n:Nat):lqf (k_a3 n) f_a3:=fun x=>by unfold k_a3 f_a3 b_a3;repeat (first|with_reducible (first|refine mB ?_ fun _=>?_|refine mC ?_ ?_ ?_|refine mA (l_a8 n) ?_)|exact rfl|exact q07 _)
def k_aa (n:Nat):=b_aa (lfN n) (k_a3 n)
theorem l_aa (n:Nat):lqf (k_aa n) f_aa:=fun x=>by unfold k_aa f_aa b_aa;repeat (first|with_reducible (first|refine mB ?_ fun _=>?_|refine mC ?_ ?_ ?_|refine mL (fun _=>?_) ?_|refine mA (l_a3 n) ?_)|exact rfl|exact q07 _)
def k_a5 (n:Nat):=b_a5 (lfN n)
theorem l_a5 (n:Nat):lqf (k_a5 n) f_a5:=fun x=>by unfold k_a5 f_a5 b_a5;repeat (first|with_reducible (first|refine mB ?_ fun _=>?_|refine mC ?_ ?_ ?_)|exact rfl|exact q07 _)
def k_e0 (n:Nat):=b_e0 (lfN n) (k_a5 n)
theorem l_e0 (n:Nat):lqf (k_e0 n) f_e0:=fun x=>by unfold k_e0 f_e0 b_e0;repeat (first|with_reducible (first|refine mB ?_ fun _=>?_|refine mC ?_ ?_ ?_|refine mL (fun _=>?_) ?_|refine mA (l_a5 n) ?_)|exact rfl|exact q07 _)
def k_db (n:Nat):=b_db (lfN n) (k_e0 n)
theorem l_db (n:Nat):lqf (k_db n) f_db:=fun x=>by unfold k_db f_db b_db;repeat (first|with_reducible (first|refine mB ?_ fun _=>?_|refine mA (l_e0 n) ?_)|exact rfl|exact q07 _)
def k_a4 (n:Nat):=b_a4 (lfN n) (k_db n) (k_ad n)
theorem l_a4 (n:Nat):lqf (k_a4 n) f_a4:=fun x=>by unfold k_a4 f_a4 b_a4;repeat (first|with_reducible (first|refine mB ?_ fun _=>?_|refine mC ?_ ?_ ?_|refine mA (l_db n) ?_|refine mA (l_ad n) ?_)|exact rfl|exact q07 _)
def k_dq (n:Nat):=b_dq (lfN n) (k_a4 n)
theorem l_dq (n:Nat):lqf (k_dq n) f_dq:=fun x=>by unfold k_dq f_dq b_dq;repeat (first|with_reducible (first|refine mB ?_ fun _=>?_|refine mC ?_ ?_ ?_|refine mL (fun _=>?_) ?_|refine mA (l_a4 n) ?_)|exact rfl|exact q07 _)
def k_dg (n:Nat):=b_dg (lfN n) (k_dq n)
theorem l_dg (n:Nat):lqf (k_dg n) f_dg:=fun x=>by unfold k_dg f_dg b_dg;repeat (first|with_reducible (first|refine mB ?_ fun _=>?_|refine mA (l_dq n) ?_)|exact rfl|exact q07 _)
def k_a7 (n:Nat):=b_a7 (lfN n) (k_dg n)
theorem l_a7 (n:Nat):lqf (k_a7 n) f_a7:=fun x=>by unfold k_a7 f_a7 b_a7;repeat (first|with_reducible (first|refine mB ?_ fun _=>?_|refine mA (l_dg n) ?_)|exact rfl|exact q07 _)
def k_dm (n:Nat):=b_dm (lfN n) (k_a7 n)
theorem l_dm (n:Nat):lqf (k_dm n) f_dm:=fun x=>by unfold k_dm f_dm b_dm;repeat (first|with_reducible (first|refine mB ?_ fun _=>?_|refine mC ?_ ?_ ?_|refine mL (fun _=>?_) ?_|refine mA (l_a7 n) ?_)|exact rfl|exact q07 _)
def k_dc (n:Nat):=b_dc (lfN n) (k_dm n)
theorem l_dc (n:Nat):lqf (k_dc n) f_dc:=fun x=>by unfold k_dc f_dc b_dc;repeat (first|with_reducible (first|refine mB ?_ fun _=>?_|refine mA (l_dm n) ?_)|exact rfl|exact q07 _)
def k_a6 (n:Nat):=b_a6 (lfN n) (k_dc n)
theorem l_a6 (n:Nat):lqf (k_a6 n) f_a6:=fun x=>by unfold k_a6 f_a6 b_a6;repeat (first|with_reducible (first|refine mB ?_ fun _=>?_|refine mA (l_dc n) ?_)|exact rfl|exact q07 _)
def k_ab (n:Nat):=b_ab (lfN n) (k_a6 n)
theorem l_ab (n:Nat):lqf (k_ab n) f_ab:=fun x=>by unfold k_ab f_ab b_ab;repeat (first|with_reducible (first|refine mB ?_ fun _=>?_|refine mC ?_ ?_ ?_|refine mL (fun _=>?_) ?_|refine mA (l_a6 n) ?_)|exact rfl|exact q07 _)
def k_a0 (n:Nat):=b_a0 (lfN n) (k_d7 n) (k_dz n) (k_aa n) (k_ab n)
theorem l_a0 (n:Nat):lqf (k_a0 n) f_a0:=fun x=>by unfold k_a0 f_a0 b_a0;repeat (first|with_reducible (first|refine mB ?_ fun _=>?_|refine mC ?_ ?_ ?_|refine mL (fun _=>?_) ?_|refine mA (l_d7 n) ?_|refine mA (l_dz n) ?_|refine mA (l_aa n) ?_|refine mA (l_ab n) ?_)|exact rfl|exact q07 _)
def k_b7 (n:Nat):=b_b7 (lfN n)
theorem l_b7 (n:Nat):lqf (k_b7 n) f_b7:=fun x=>by unfold k_b7 f_b7 b_b7;repeat (first|with_reducible (first|refine mB ?_ fun _=>?_|refine mC ?_ ?_ ?_)|exact rfl|exact q07 _)
def k_e1 (n:Nat):=b_e1 (lfN n) (k_b7 n)
theorem l_e1 (n:Nat):lqf (k_e1 n) f_e1:=fun x=>by unfold k_e1 f_e1 b_e1;repeat (first|with_reducible (first|refine mB ?_ fun _=>?_|refine mC ?_ ?_ ?_|refine mL (fun _=>?_) ?_|refine mA (l_b7 n) ?_)|exact rfl|exact q07 _)
def k_b6 (n:Nat):=b_b6 (lfN n) (k_e1 n)
theorem l_b6 (n:Nat):lqf (k_b6 n) f_b6:=fun x=>by unfold k_b6 f_b6 b_b6;repeat (first|with_reducible (first|refine mB ?_ fun _=>?_|refine mC ?_ ?_ ?_|refine mA (l_e1 n) ?_)|exact rfl|exact q07 _)
def k_b5 (n:Nat):=b_b5 (lfN n)
theorem l_b5 (n:Nat):lqf (k_b5 n) f_b5:=fun x=>by unfold k_b5 f_b5 b_b5;exact q07 _
def k_e2 (n:Nat):=b_e2 (lfN n) (k_b5 n)
theorem l_e2 (n:Nat):lqf (k_e2 n) f_e2:=fun x=>by unfold k_e2 f_e2 b_e2;repeat (first|with_reducible (first|refine mB ?_ fun _=>?_|refine mC ?_ ?_ ?_|refine mL (fun _=>?_) ?_|refine mA (l_b5 n) ?_)|exact rfl|exact q07 _)
def k_eq (n:Nat):=b_eq (lfN n) (k_ep n)
theorem l_eq (n:Nat):lqf (k_eq n) f_eq:=fun x=>by unfold k_eq f_eq b_eq;repeat (first|with_reducible (first|refine mB ?_ fun _=>?_|refine mC ?_ ?_ ?_|refine mL (fun _=>?_) ?_|refine mF ?_|refine mA (l_ep n) ?_)|exact rfl|exact q07 _)
def k_ev (n:Nat):=b_ev (lfN n)
theorem l_ev (n:Nat):lqf (k_ev n) f_ev:=fun x=>by unfold k_ev f_ev b_ev;exact q07 _
def k_dr (n:Nat):=b_dr (lfN n) (k_ev n)
theorem l_dr (n:Nat):lqf (k_dr n) f_dr:=fun x=>by unfold k_dr f_dr b_dr;repeat (first|with_reducible (first|refine mB ?_ fun _=>?_|refine mC ?_ ?_ ?_|refine mL (fun _=>?_) ?_|refine mA (l_ev n) ?_)|exact rfl|exact q07 _)
def k_eu (n:Nat):=b_eu (lfN n) (k_dr n)
theorem l_eu (n:Nat):lqf (k_eu n) f_eu:=fun x=>by unfold k_eu f_eu b_eu;repeat (first|with_reducible (first|refine mB ?_ fun _=>?_|refine mC ?_ ?_ ?_|refine mL (fun _=>?_) ?_|refine mF ?_|refine mA (l_dr n) ?_)|exact rfl|exact q07 _)
def k_b4 (n:Nat):=b_b4 (lfN n) (k_b6 n) (k_e2 n) (k_eq n) (k_ep n) (k_eu n)
theorem l_b4 (n:Nat):lqf (k_b4 n) f_b4:=fun x=>by unfold k_b4 f_b4 b_b4;repeat (first|with_reducible (first|refine mB ?_ fun _=>?_|refine mC ?_ ?_ ?_|refine mL (fun _=>?_) ?_|refine mF ?_|refine mA (l_b6 n) ?_|refine mA (l_e2 n) ?_|refine mA (l_eq n) ?_|refine mA (l_ep n) ?_|refine mA (l_eu n) ?_)|exact rfl|exact q07 _)
def k_au (n:Nat):=b_au (lfN n) (k_a0 n) (k_ew n) (k_b4 n)
theorem l_au (n:Nat):lqf (k_au n) f_au:=fun x=>by unfold k_au f_au b_au;repeat (first|with_reducible (first|refine mB ?_ fun _=>?_|refine mC ?_ ?_ ?_|refine mA (l_a0 n) ?_|refine mA (l_ew n) ?_|refine mA (l_b4 n) ?_)|exact rfl|exact q07 _)
def k_eo (n:Nat):=b_eo (lfN n) (k_et n)
theorem l_eo (n:Nat):lqf (k_eo n) f_eo:=fun x=>by unfold k_eo f_eo b_eo;repeat (first|with_reducible (first|refine mB ?_ fun _=>?_|refine mC ?_ ?_ ?_|refine mL (fun _=>?_) ?_|refine mF ?_|refine mA (l_et n) ?_)|exact rfl|exact q07 _)
def k_em (n:Nat):=b_em (lfN n)
theorem l_em (n:Nat):lqf (k_em n) f_em:=fun x=>by unfold k_em f_em b_em;repeat (first|with_reducible (first|refine mB ?_ fun _=>?_|refine mC ?_ ?_ ?_)|exact rfl|exact q07 _)
def k_e8 (n:Nat):=b_e8 (lfN n) (k_aj n)
theorem l_e8 (n:Nat):lqf (k_e8 n) f_e8:=fun x=>by unfold k_e8 f_e8 b_e8;repeat (first|with_reducible (first|refine mB ?_ fun _=>?_|refine mA (l_aj n) ?_)|exact rfl|exact q07 _)
def k_ei (n:Nat):=b_ei (lfN n)
theorem l_ei (n:Nat):lqf (k_ei n) f_ei:=fun x=>by unfold k_ei f_ei b_ei;exact q07 _
def k_ef (n:Nat):=b_ef (lfN n) (k_ei n)
theorem l_ef (n:Nat):lqf (k_ef n) f_ef:=fun x=>by unfold k_ef f_ef b_ef;repeat (first|with_reducible (first|refine mB ?_ fun _=>?_|refine mC ?_ ?_ ?_|refine mA (l_ei n) ?_)|exact rfl|exact q07 _)
def k_e9 (n:Nat):=b_e9 (lfN n) (k_aj n)
theorem l_e9 (n:Nat):lqf (k_e9 n) f_e9:=fun x=>by unfold k_e9 f_e9 b_e9;repeat (first|with_reducible (first|refine mB ?_ fun _=>?_|refine mC ?_ ?_ ?_|refine mA (l_aj n) ?_)|exact rfl|exact q07 _)
def k_eg (n:Nat):=b_eg (lfN n)
theorem l_eg (n:Nat):lqf (k_eg n) f_eg:=fun x=>by unfold k_eg f_eg b_eg;repeat (first|with_reducible (first|refine mB ?_ fun _=>?_|refine mC ?_ ?_ ?_)|exact rfl|exact q07 _)
def k_eh (n:Nat):=b_eh (lfN n)
theorem l_eh (n:Nat):lqf (k_eh n) f_eh:=fun x=>by unfold k_eh f_eh b_eh;exact q07 _
def k_ej (n:Nat):=b_ej (lfN n)
theorem l_ej (n:Nat):lqf (k_ej n) f_ej:=fun x=>by unfold k_ej f_ej b_ej;exact q07 _
def k_el (n:Nat):=b_el (lfN n) (k_em n) (k_f0 n) (k_e8 n) (k_ef n) (k_e9 n) (k_eg n) (k_eh n) (k_ej n)
set_option maxRecDepth 100000 in
theorem l_el (n:Nat):lqf (k_el n) f_el:=fun x=>by unfold k_el f_el b_el;repeat (first|with_reducible (first|refine mB ?_ fun _=>?_|refine mC ?_ ?_ ?_|refine mA (l_em n) ?_|refine mA (l_f0 n) ?_|refine mA (l_e8 n) ?_|refine mA (l_ef n) ?_|refine mA (l_e9 n) ?_|refine mA (l_eg n) ?_|refine mA (l_eh n) ?_|refine mA (l_ej n) ?_)|exact rfl|exact q07 _)
def k_ec (n:Nat):=b_ec (lfN n) (k_el n)
theorem l_ec (n:Nat):lqf (k_ec n) f_ec:=fun x=>by unfold k_ec f_ec b_ec;repeat (first|with_reducible (first|refine mB ?_ fun _=>?_|refine mA (l_el n) ?_)|exact rfl|exact q07 _)
def kg_en (n:Nat) (self:Yf19):=b_en (lfN n) self (k_ec n)
def k_en (n:Nat):=recN (kg_en n) n
theorem l_en (n:Nat):lqf (k_en n) f_en:=qgn (fun _ _ hg x=>by unfold kg_en g_en b_en;repeat (first|with_reducible (first|refine mB ?_ fun _=>?_|refine mC ?_ ?_ ?_|refine mL (fun _=>?_) ?_|refine mA hg ?_|refine mA (l_ec n) ?_)|exact rfl|exact q07 _)) n
def k_es (n:Nat):=b_es (lfN n) (k_ep n)
theorem l_es (n:Nat):lqf (k_es n) f_es:=fun x=>by unfold k_es f_es b_es;repeat (first|with_reducible (first|refine mB ?_ fun _=>?_|refine mC ?_ ?_ ?_|refine mK ?_ ?_|refine mA (l_ep n) ?_)|exact rfl|exact q07 _)
def k_ek (n:Nat):=b_ek (lfN n)
theorem l_ek (n:Nat):lqf (k_ek n) f_ek:=fun x=>by unfold k_ek f_ek b_ek;repeat (first|with_reducible (first|refine mB ?_ fun _=>?_|refine mC ?_ ?_ ?_|refine mL (fun _=>?_) ?_|refine mF ?_)|exact rfl|exact q07 _)
def k_e5 (_n:Nat):=qve
theorem l_e5 (n:Nat):lqf (k_e5 n) f_e5:=qvf n
def k_d4 (n:Nat):=b_d4 (lfN n)
theorem l_d4 (n:Nat):lqf (k_d4 n) f_d4:=fun x=>by unfold k_d4 f_d4 b_d4;repeat (first|with_reducible (first|refine mB ?_ fun _=>?_|refine mC ?_ ?_ ?_|refine mL (fun _=>?_) ?_)|exact rfl|exact q07 _)
def k_ee (n:Nat):=b_ee (lfN n) (k_ek n)
theorem l_ee (n:Nat):lqf (k_ee n) f_ee:=fun x=>by unfold k_ee f_ee b_ee;repeat (first|with_reducible (first|refine mB ?_ fun _=>?_|refine mA (l_ek n) ?_)|exact rfl|exact q07 _)
def k_ed (n:Nat):=b_ed (lfN n) (k_es n) (k_ek n) (k_e5 n) (k_d4 n) (k_ee n)
theorem l_ed (n:Nat):lqf (k_ed n) f_ed:=fun x=>by unfold k_ed f_ed b_ed;repeat (first|with_reducible (first|refine mB ?_ fun _=>?_|refine mA (l_es n) ?_|refine mA (l_ek n) ?_|refine mA (l_e5 n) ?_|refine mA (l_d4 n) ?_|refine mA (l_ee n) ?_)|exact rfl|exact q07 _)
def k_eb (n:Nat):=b_eb (lfN n) (k_et n) (k_ep n) (k_eo n) (k_en n) (k_ed n) (k_em n)
theorem l_eb (n:Nat):lqf (k_eb n) f_eb:=fun x=>by unfold k_eb f_eb b_eb;repeat (first|with_reducible (first|refine mB ?_ fun _=>?_|refine mC ?_ ?_ ?_|refine mL (fun _=>?_) ?_|refine mS (fun _=>?_) _|refine mA (l_et n) ?_|refine mA (l_ep n) ?_|refine mA (l_eo n) ?_|refine mA (l_en n) ?_|refine mA (l_ed n) ?_|refine mA (l_em n) ?_)|exact rfl|exact q07 _)
def k_ea (n:Nat):=b_ea (lfN n) (k_eb n)
theorem l_ea (n:Nat):lqf (k_ea n) f_ea:=fun x=>by unfold k_ea f_ea b_ea;repeat (first|with_reducible (first|refine mB ?_ fun _=>?_|refine mA (l_eb n) ?_)|exact rfl|exact q07 _)
def k_bl (n:Nat):=b_bl (lfN n) (k_eq n) (k_ep n)
theorem l_bl (n:Nat):lqf (k_bl n) f_bl:=fun x=>by unfold k_bl f_bl b_bl;repeat (first|with_reducible (first|refine mB ?_ fun _=>?_|refine mC ?_ ?_ ?_|refine mL (fun _=>?_) ?_|refine mF ?_|refine mA (l_eq n) ?_|refine mA (l_ep n) ?_)|exact rfl|exact q07 _)
def q9r (n:Nat) (self:Yf0):=q8p (lfN n) self
theorem qnc (n:Nat) {g g'} (hg:lqf g g'):lqf (q9r n g) (q40 g'):=fun x=>by unfold q9r q40 q8p;repeat (first|with_reducible (first|refine mB ?_ fun _=>?_|refine mA hg ?_)|exact rfl|exact q07 _)
def qbz (n:Nat) (self:Yf0):=qas (lfN n) (k_b4 n) (q9r n self) (k_bl n)
theorem qrl (n:Nat) {g g'} (hg:lqf g g'):lqf (qbz n g) (q57 g'):=fun x=>by unfold qbz q57 qas;repeat (first|with_reducible (first|refine mB ?_ fun _=>?_|refine mC ?_ ?_ ?_|refine mL (fun _=>?_) ?_|refine mA (l_b4 n) ?_|refine mA (qnc n hg) ?_|refine mA (l_bl n) ?_)|exact rfl|exact q07 _)
def kg_bk (n:Nat) (self:Yf0):=b_bk (lfN n) (qbz n self)
def k_bk (n:Nat):=recN (kg_bk n) n
theorem l_bk (n:Nat):lqf (k_bk n) f_bk:=qgn (fun _ _ hg x=>by unfold kg_bk g_bk b_bk;repeat (first|with_reducible (first|refine mB ?_ fun _=>?_|refine mC ?_ ?_ ?_|refine mA (qrl n hg) ?_)|exact rfl|exact q07 _)) n
def k_av (n:Nat):=b_av (lfN n) (k_a0 n) (k_ew n) (k_ea n) (k_bk n)
theorem l_av (n:Nat):lqf (k_av n) f_av:=fun x=>by unfold k_av f_av b_av;repeat (first|with_reducible (first|refine mB ?_ fun _=>?_|refine mC ?_ ?_ ?_|refine mA (l_a0 n) ?_|refine mA (l_ew n) ?_|refine mA (l_ea n) ?_|refine mA (l_bk n) ?_)|exact rfl|exact q07 _)
def k_bj (n:Nat):=b_bj (lfN n) (k_f0 n) (k_e8 n)
theorem l_bj (n:Nat):lqf (k_bj n) f_bj:=fun x=>by unfold k_bj f_bj b_bj;repeat (first|with_reducible (first|refine mB ?_ fun _=>?_|refine mC ?_ ?_ ?_|refine mA (l_f0 n) ?_|refine mA (l_e8 n) ?_)|exact rfl|exact q07 _)
def k_bs (n:Nat):=b_bs (lfN n) (k_bj n)
theorem l_bs (n:Nat):lqf (k_bs n) f_bs:=fun x=>by unfold k_bs f_bs b_bs;repeat (first|with_reducible (first|refine mB ?_ fun _=>?_|refine mA (l_bj n) ?_)|exact rfl|exact q07 _)
def k_dp (n:Nat):=b_dp (lfN n) (k_bs n)
theorem l_dp (n:Nat):lqf (k_dp n) f_dp:=fun x=>by unfold k_dp f_dp b_dp;repeat (first|with_reducible (first|refine mB ?_ fun _=>?_|refine mC ?_ ?_ ?_|refine mL (fun _=>?_) ?_|refine mA (l_bs n) ?_)|exact rfl|exact q07 _)
def k_df (n:Nat):=b_df (lfN n) (k_dp n)
theorem l_df (n:Nat):lqf (k_df n) f_df:=fun x=>by unfold k_df f_df b_df;repeat (first|with_reducible (first|refine mB ?_ fun _=>?_|refine mA (l_dp n) ?_)|exact rfl|exact q07 _)
def k_br (n:Nat):=b_br (lfN n) (k_df n) (k_et n)
theorem l_br (n:Nat):lqf (k_br n) f_br:=fun x=>by unfold k_br f_br b_br;repeat (first|with_reducible (first|refine mB ?_ fun _=>?_|refine mC ?_ ?_ ?_|refine mA (l_df n) ?_|refine mA (l_et n) ?_)|exact rfl|exact q07 _)
def q84 (n:Nat) (self:Yf0):=q78 (lfN n) self
theorem qkv (n:Nat) {g g'} (hg:lqf g g'):lqf (q84 n g) (q58 g'):=fun x=>by unfold q84 q58 q78;repeat (first|with_reducible (first|refine mB ?_ fun _=>?_|refine mA hg ?_)|exact rfl|exact q07 _)
def q79 (n:Nat) (self:Yf0):=q5r (lfN n) (k_b4 n) (q84 n self) (k_bl n)
theorem qie (n:Nat) {g g'} (hg:lqf g g'):lqf (q79 n g) (q4b g'):=fun x=>by unfold q79 q4b q5r;repeat (first|with_reducible (first|refine mB ?_ fun _=>?_|refine mC ?_ ?_ ?_|refine mL (fun _=>?_) ?_|refine mA (l_b4 n) ?_|refine mA (qkv n hg) ?_|refine mA (l_bl n) ?_)|exact rfl|exact q07 _)
def kg_bh (n:Nat) (self:Yf0):=b_bh (lfN n) (q79 n self)
def k_bh (n:Nat):=recN (kg_bh n) n
theorem l_bh (n:Nat):lqf (k_bh n) f_bh:=qgn (fun _ _ hg x=>by unfold kg_bh g_bh b_bh;repeat (first|with_reducible (first|refine mB ?_ fun _=>?_|refine mC ?_ ?_ ?_|refine mA (qie n hg) ?_)|exact rfl|exact q07 _)) n
def k_ay (n:Nat):=b_ay (lfN n) (k_a0 n) (k_ew n) (k_br n) (k_bh n)
theorem l_ay (n:Nat):lqf (k_ay n) f_ay:=fun x=>by unfold k_ay f_ay b_ay;repeat (first|with_reducible (first|refine mB ?_ fun _=>?_|refine mC ?_ ?_ ?_|refine mA (l_a0 n) ?_|refine mA (l_ew n) ?_|refine mA (l_br n) ?_|refine mA (l_bh n) ?_)|exact rfl|exact q07 _)
def k_d3 (n:Nat):=b_d3 (lfN n)
theorem l_d3 (n:Nat):lqf (k_d3 n) f_d3:=fun x=>by unfold k_d3 f_d3 b_d3;repeat (first|with_reducible (first|refine mB ?_ fun _=>?_|refine mC ?_ ?_ ?_|refine mF ?_)|exact rfl|exact q07 _)
def k_b0 (n:Nat):=b_b0 (lfN n) (k_d3 n)
theorem l_b0 (n:Nat):lqf (k_b0 n) f_b0:=fun x=>by unfold k_b0 f_b0 b_b0;repeat (first|with_reducible (first|refine mB ?_ fun _=>?_|refine mF ?_|refine mA (l_d3 n) ?_)|exact rfl|exact q07 _)
def kg_bi (n:Nat) (self:Yf13):=b_bi (lfN n) (k_b0 n) self (k_bl n)
def k_bi (n:Nat):=recN (kg_bi n) n
set_option maxRecDepth 100000 in
theorem l_bi (n:Nat):lqf (k_bi n) f_bi:=qgn (fun _ _ hg x=>by unfold kg_bi g_bi b_bi;repeat (first|with_reducible (first|refine mB ?_ fun _=>?_|refine mC ?_ ?_ ?_|refine mL (fun _=>?_) ?_|refine mA (l_b0 n) ?_|refine mA hg ?_|refine mA (l_bl n) ?_)|exact rfl|exact q07 _)) n
def k_az (n:Nat):=b_az (lfN n) (k_ea n) (k_br n) (k_bi n)
theorem l_az (n:Nat):lqf (k_az n) f_az:=fun x=>by unfold k_az f_az b_az;repeat (first|with_reducible (first|refine mB ?_ fun _=>?_|refine mC ?_ ?_ ?_|refine mA (l_ea n) ?_|refine mA (l_br n) ?_|refine mA (l_bi n) ?_)|exact rfl|exact q07 _)
def k_ax (n:Nat):=b_ax (lfN n) (k_az n)
theorem l_ax (n:Nat):lqf (k_ax n) f_ax:=fun x=>by unfold k_ax f_ax b_ax;repeat (first|with_reducible (first|refine mB ?_ fun _=>?_|refine mA (l_az n) ?_)|exact rfl|exact q07 _)
def k_dx (n:Nat):=b_dx (lfN n) (k_ax n)
theorem l_dx (n:Nat):lqf (k_dx n) f_dx:=fun x=>by unfold k_dx f_dx b_dx;repeat (first|with_reducible (first|refine mB ?_ fun _=>?_|refine mC ?_ ?_ ?_|refine mL (fun _=>?_) ?_|refine mA (l_ax n) ?_)|exact rfl|exact q07 _)
def k_aw (n:Nat):=b_aw (lfN n) (k_dx n)
theorem l_aw (n:Nat):lqf (k_aw n) f_aw:=fun x=>by unfold k_aw f_aw b_aw;repeat (first|with_reducible (first|refine mB ?_ fun _=>?_|refine mA (l_dx n) ?_)|exact rfl|exact q07 _)
def k_b3 (n:Nat):=b_b3 (lfN n)
theorem l_b3 (n:Nat):lqf (k_b3 n) f_b3:=fun x=>by unfold k_b3 f_b3 b_b3;exact q07 _
def k_bn (n:Nat):=b_bn (lfN n) (k_av n) (k_b3 n)
theorem l_bn (n:Nat):lqf (k_bn n) f_bn:=fun x=>by unfold k_bn f_bn b_bn;repeat (first|with_reducible (first|refine mB ?_ fun _=>?_|refine mC ?_ ?_ ?_|refine mL (fun _=>?_) ?_|refine mF ?_|refine mA (l_av n) ?_|refine mA (l_b3 n) ?_)|exact rfl|exact q07 _)
def k_ba (n:Nat):=b_ba (lfN n)
theorem l_ba (n:Nat):lqf (k_ba n) f_ba:=fun x=>by unfold k_ba f_ba b_ba;repeat (first|with_reducible (first|refine mB ?_ fun _=>?_|refine mC ?_ ?_ ?_)|exact rfl|exact q07 _)
def k_ds (n:Nat):=b_ds (lfN n) (k_ba n)
theorem l_ds (n:Nat):lqf (k_ds n) f_ds:=fun x=>by unfold k_ds f_ds b_ds;repeat (first|with_reducible (first|refine mB ?_ fun _=>?_|refine mC ?_ ?_ ?_|refine mL (fun _=>?_) ?_|refine mA (l_ba n) ?_)|exact rfl|exact q07 _)
def k_dh (n:Nat):=b_dh (lfN n) (k_ds n)
theorem l_dh (n:Nat):lqf (k_dh n) f_dh:=fun x=>by unfold k_dh f_dh b_dh;repeat (first|with_reducible (first|refine mB ?_ fun _=>?_|refine mA (l_ds n) ?_)|exact rfl|exact q07 _)
def k_b9 (n:Nat):=b_b9 (lfN n) (k_dh n)
theorem l_b9 (n:Nat):lqf (k_b9 n) f_b9:=fun x=>by unfold k_b9 f_b9 b_b9;repeat (first|with_reducible (first|refine mB ?_ fun _=>?_|refine mA (l_dh n) ?_)|exact rfl|exact q07 _)
def k_bb (n:Nat):=b_bb (lfN n) (k_b9 n)
theorem l_bb (n:Nat):lqf (k_bb n) f_bb:=fun x=>by unfold k_bb f_bb b_bb;repeat (first|with_reducible (first|refine mB ?_ fun _=>?_|refine mA (l_b9 n) ?_)|exact rfl|exact q07 _)
def k_e3 (n:Nat):=b_e3 (lfN n) (k_bb n)
theorem l_e3 (n:Nat):lqf (k_e3 n) f_e3:=fun x=>by unfold k_e3 f_e3 b_e3;repeat (first|with_reducible (first|refine mB ?_ fun _=>?_|refine mC ?_ ?_ ?_|refine mL (fun _=>?_) ?_|refine mA (l_bb n) ?_)|exact rfl|exact q07 _)
def k_bt (n:Nat):=b_bt (lfN n)
theorem l_bt (n:Nat):lqf (k_bt n) f_bt:=fun x=>by unfold k_bt f_bt b_bt;repeat (first|with_reducible (first|refine mB ?_ fun _=>?_|refine mC ?_ ?_ ?_)|exact rfl|exact q07 _)
def k_bc (n:Nat):=b_bc (lfN n) (k_bt n)
theorem l_bc (n:Nat):lqf (k_bc n) f_bc:=fun x=>by unfold k_bc f_bc b_bc;repeat (first|with_reducible (first|refine mB ?_ fun _=>?_|refine mA (l_bt n) ?_)|exact rfl|exact q07 _)
def k_dt (n:Nat):=b_dt (lfN n) (k_bc n)
theorem l_dt (n:Nat):lqf (k_dt n) f_dt:=fun x=>by unfold k_dt f_dt b_dt;repeat (first|with_reducible (first|refine mB ?_ fun _=>?_|refine mC ?_ ?_ ?_|refine mL (fun _=>?_) ?_|refine mA (l_bc n) ?_)|exact rfl|exact q07 _)
def k_di (n:Nat):=b_di (lfN n) (k_dt n)
theorem l_di (n:Nat):lqf (k_di n) f_di:=fun x=>by unfold k_di f_di b_di;repeat (first|with_reducible (first|refine mB ?_ fun _=>?_|refine mA (l_dt n) ?_)|exact rfl|exact q07 _)
def k_dk (_n:Nat):=f_dk
theorem l_dk (n:Nat):lqf (k_dk n) f_dk:=lqr
def k_d5 (n:Nat):=b_d5 (lfN n) (k_dk n)
theorem l_d5 (n:Nat):lqf (k_d5 n) f_d5:=fun x=>by unfold k_d5 f_d5 b_d5;repeat (first|with_reducible (first|refine mB ?_ fun _=>?_|refine mC ?_ ?_ ?_|refine mL (fun _=>?_) ?_|refine mF ?_|refine mA (l_dk n) ?_)|exact rfl|exact q07 _)
def k_bp (n:Nat):=b_bp (lfN n) (k_b3 n)
theorem l_bp (n:Nat):lqf (k_bp n) f_bp:=fun x=>by unfold k_bp f_bp b_bp;repeat (first|with_reducible (first|refine mB ?_ fun _=>?_|refine mC ?_ ?_ ?_|refine mL (fun _=>?_) ?_|refine mF ?_|refine mA (l_b3 n) ?_)|exact rfl|exact q07 _)
def k_bq (n:Nat):=b_bq (lfN n) (k_bl n) (k_d5 n) (k_bt n) (k_bp n)
set_option maxRecDepth 100000 in
theorem l_bq (n:Nat):lqf (k_bq n) f_bq:=fun x=>by unfold k_bq f_bq b_bq;repeat (first|with_reducible (first|refine mB ?_ fun _=>?_|refine mC ?_ ?_ ?_|refine mL (fun _=>?_) ?_|refine mF ?_|refine mA (l_bl n) ?_|refine mA (l_d5 n) ?_|refine mA (l_bt n) ?_|refine mA (l_bp n) ?_)|exact rfl|exact q07 _)
def k_er (n:Nat):=b_er (lfN n)
theorem l_er (n:Nat):lqf (k_er n) f_er:=fun x=>by unfold k_er f_er b_er;repeat (first|with_reducible (first|refine mB ?_ fun _=>?_|refine mC ?_ ?_ ?_|refine mL (fun _=>?_) ?_|refine mF ?_)|exact rfl|exact q07 _)
def k_bm (n:Nat):=b_bm (lfN n) (k_bt n)
theorem l_bm (n:Nat):lqf (k_bm n) f_bm:=fun x=>by unfold k_bm f_bm b_bm;repeat (first|with_reducible (first|refine mB ?_ fun _=>?_|refine mC ?_ ?_ ?_|refine mL (fun _=>?_) ?_|refine mF ?_|refine mA (l_bt n) ?_)|exact rfl|exact q07 _)
def kg_b8 (n:Nat) (self:Yf21):=b_b8 (lfN n) (k_b4 n) self (k_b6 n) (k_e3 n) (k_b3 n) (k_b9 n) (k_di n) (k_d5 n) (k_bq n) (k_er n) (k_bm n) (k_bp n)
def k_b8 (n:Nat):=recN (kg_b8 n) n
set_option maxRecDepth 100000 in
theorem l_b8 (n:Nat):lqf (k_b8 n) f_b8:=qgn (fun _ _ hg x=>by unfold kg_b8 g_b8 b_b8;repeat (first|with_reducible (first|refine mB ?_ fun _=>?_|refine mC ?_ ?_ ?_|refine mL (fun _=>?_) ?_|refine mS (fun _=>?_) _|refine mA (l_b4 n) ?_|refine mA hg ?_|refine mA (l_b6 n) ?_|refine mA (l_e3 n) ?_|refine mA (l_b3 n) ?_|refine mA (l_b9 n) ?_|refine mA (l_di n) ?_|refine mA (l_d5 n) ?_|refine mA (l_bq n) ?_|refine mA (l_er n) ?_|refine mA (l_bm n) ?_|refine mA (l_bp n) ?_)|exact rfl|exact q07 _)) n
def k_bo (n:Nat):=b_bo (lfN n)
theorem l_bo (n:Nat):lqf (k_bo n) f_bo:=fun x=>by unfold k_bo f_bo b_bo;repeat (first|with_reducible (first|refine mB ?_ fun _=>?_|refine mC ?_ ?_ ?_|refine mL (fun _=>?_) ?_|refine mF ?_)|exact rfl|exact q07 _)
def k_b1 (n:Nat):=b_b1 (lfN n) (k_bn n) (k_b8 n) (k_bo n)
theorem l_b1 (n:Nat):lqf (k_b1 n) f_b1:=fun x=>by unfold k_b1 f_b1 b_b1;repeat (first|with_reducible (first|refine mB ?_ fun _=>?_|refine mC ?_ ?_ ?_|refine mA (l_bn n) ?_|refine mA (l_b8 n) ?_|refine mA (l_bo n) ?_)|exact rfl|exact q07 _)
def k_bf (n:Nat):=b_bf (lfN n)
theorem l_bf (n:Nat):lqf (k_bf n) f_bf:=fun x=>by unfold k_bf f_bf b_bf;repeat (first|with_reducible (first|refine mB ?_ fun _=>?_|refine mC ?_ ?_ ?_)|exact rfl|exact q07 _)
def k_du (n:Nat):=b_du (lfN n) (k_bf n)
theorem l_du (n:Nat):lqf (k_du n) f_du:=fun x=>by unfold k_du f_du b_du;repeat (first|with_reducible (first|refine mB ?_ fun _=>?_|refine mC ?_ ?_ ?_|refine mL (fun _=>?_) ?_|refine mA (l_bf n) ?_)|exact rfl|exact q07 _)
def k_d8 (n:Nat):=b_d8 (lfN n) (k_du n)
theorem l_d8 (n:Nat):lqf (k_d8 n) f_d8:=fun x=>by unfold k_d8 f_d8 b_d8;repeat (first|with_reducible (first|refine mB ?_ fun _=>?_|refine mA (l_du n) ?_)|exact rfl|exact q07 _)
def k_be (n:Nat):=b_be (lfN n) (k_d8 n)
theorem l_be (n:Nat):lqf (k_be n) f_be:=fun x=>by unfold k_be f_be b_be;repeat (first|with_reducible (first|refine mB ?_ fun _=>?_|refine mA (l_d8 n) ?_)|exact rfl|exact q07 _)
def k_bg (n:Nat):=b_bg (lfN n) (k_be n)
theorem l_bg (n:Nat):lqf (k_bg n) f_bg:=fun x=>by unfold k_bg f_bg b_bg;repeat (first|with_reducible (first|refine mB ?_ fun _=>?_|refine mA (l_be n) ?_)|exact rfl|exact q07 _)
def k_dn (n:Nat):=b_dn (lfN n) (k_bg n)
theorem l_dn (n:Nat):lqf (k_dn n) f_dn:=fun x=>by unfold k_dn f_dn b_dn;repeat (first|with_reducible (first|refine mB ?_ fun _=>?_|refine mC ?_ ?_ ?_|refine mL (fun _=>?_) ?_|refine mA (l_bg n) ?_)|exact rfl|exact q07 _)
def k_d9 (n:Nat):=b_d9 (lfN n) (k_dn n)
theorem l_d9 (n:Nat):lqf (k_d9 n) f_d9:=fun x=>by unfold k_d9 f_d9 b_d9;repeat (first|with_reducible (first|refine mB ?_ fun _=>?_|refine mA (l_dn n) ?_)|exact rfl|exact q07 _)
def q2l (n:Nat) (self:Yf7):=q20 (lfN n) (k_b4 n) self (k_d5 n) (k_bq n) (k_bp n)
theorem q7p (n:Nat) {g g'} (hg:lqf g g'):lqf (q2l n g) (q1b g'):=fun x=>by unfold q2l q1b q20;repeat (first|with_reducible (first|refine mB ?_ fun _=>?_|refine mA (l_b4 n) ?_|refine mA hg ?_|refine mA (l_d5 n) ?_|refine mA (l_bq n) ?_|refine mA (l_bp n) ?_)|exact rfl|exact q07 _)
def q2c (n:Nat) (self:Yf7):=q1s (lfN n) (q2l n self)
theorem q7a (n:Nat) {g g'} (hg:lqf g g'):lqf (q2c n g) (q17 g'):=fun x=>by unfold q2c q17 q1s;repeat (first|with_reducible (first|refine mB ?_ fun _=>?_|refine mC ?_ ?_ ?_|refine mL (fun _=>?_) ?_|refine mA (q7p n hg) ?_)|exact rfl|exact q07 _)
def q1x (n:Nat) (self:Yf7):=q1a (lfN n) (q2c n self)
theorem q5h (n:Nat) {g g'} (hg:lqf g g'):lqf (q1x n g) (q0x g'):=fun x=>by unfold q1x q0x q1a;repeat (first|with_reducible (first|refine mB ?_ fun _=>?_|refine mA (q7a n hg) ?_)|exact rfl|exact q07 _)
def kg_bd (n:Nat) (self:Yf7):=b_bd (lfN n) (k_b4 n) self (k_b6 n) (k_bl n) (k_d5 n) (k_bq n) (k_bm n) (k_d9 n) (q1x n self)
def k_bd (n:Nat):=recN (kg_bd n) n
theorem l_bd (n:Nat):lqf (k_bd n) f_bd:=qgn (fun _ _ hg x=>by unfold kg_bd g_bd b_bd;repeat (first|with_reducible (first|refine mB ?_ fun _=>?_|refine mC ?_ ?_ ?_|refine mA (l_b4 n) ?_|refine mA hg ?_|refine mA (l_b6 n) ?_|refine mA (l_bl n) ?_|refine mA (l_d5 n) ?_|refine mA (l_bq n) ?_|refine mA (l_bm n) ?_|refine mA (l_d9 n) ?_|refine mA (q5h n hg) ?_)|exact rfl|exact q07 _)) n
def k_b2 (n:Nat):=b_b2 (lfN n) (k_bn n) (k_bo n) (k_bd n)
theorem l_b2 (n:Nat):lqf (k_b2 n) f_b2:=fun x=>by unfold k_b2 f_b2 b_b2;repeat (first|with_reducible (first|refine mB ?_ fun _=>?_|refine mC ?_ ?_ ?_|refine mL (fun _=>?_) ?_|refine mF ?_|refine mA (l_bn n) ?_|refine mA (l_bo n) ?_|refine mA (l_bd n) ?_)|exact rfl|exact q07 _)
def k_bz (n:Nat):=b_bz (lfN n)
theorem l_bz (n:Nat):lqf (k_bz n) f_bz:=fun x=>by unfold k_bz f_bz b_bz;repeat (first|with_reducible (first|refine mB ?_ fun _=>?_|refine mC ?_ ?_ ?_|refine mL (fun _=>?_) ?_)|exact rfl|exact q07 _)
def q85 (n:Nat):=q5s (lfN n)
theorem qkw (n:Nat):lqf (q85 n) q5t:=fun x=>by unfold q85 q5t q5s;exact q07 _
def q7b (n:Nat):=q4o (lfN n) (k_au n) (k_av n) (k_ay n) (k_az n) (k_aw n) (k_b1 n) (k_b2 n) (k_bz n) (q85 n)
set_option maxRecDepth 100000 in
theorem qif (n:Nat):lqf (q7b n) q2b:=fun x=>by unfold q7b q2b q4o;repeat (first|with_reducible (first|refine mB ?_ fun _=>?_|refine mC ?_ ?_ ?_|refine mA (l_au n) ?_|refine mA (l_av n) ?_|refine mA (l_ay n) ?_|refine mA (l_az n) ?_|refine mA (l_aw n) ?_|refine mA (l_b1 n) ?_|refine mA (l_b2 n) ?_|refine mA (l_bz n) ?_|refine mA (qkw n) ?_)|exact rfl|exact q07 _)
theorem z2p:q7b 300 ()=some (true,()):=by kernel_rfl
theorem qzm:q2b ()=some (true,()):=qif 300 _ _ z2p
end
end Fn
end Ev

