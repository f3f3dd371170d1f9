/- Layers 9, 10 and 12 in plain words. No statement of its own about the program. -/
import Derived.Test.YtnihgcgcdjdhiaaGreatDoorPlainA
namespace Ev
open Go
namespace Fn
theorem ltG {α:Type} {l:List α} {k:Nat} {x:α} (h:l[k]?=some x):ltI (k:Int) (lenI l)=true:=by have:=(zO.1 h).1;exact zA (by unfold lenI;omega)
theorem ltE {α:Type} (l:List α):ltI ((l.length:Nat):Int) (lenI l)=false:=zB (by unfold lenI;omega)
theorem ql4 {α β:Type} {x:Option α} {a:α} (h:x=some a) (f:α→Option β):bnd x f=f a:=by rw [h,q00]
theorem getL {α:Type} {l:List α} {k:Nat} {x:α} (h:l[k]?=some x):k<l.length:=(zO.1 h).1
def scan {α ρ:Type} (stop:Nat→α→Option ρ) (R:ρ):Nat→List α→ρ
 |_,[]=>R
 |k,x::r=>match stop k x with
  |some y=>y
  |none=>scan stop R (k+1) r
theorem q10 {σ ρ α:Type} (f:σ→Option (σ⊕ρ)) (S:Int→σ) (l:List α) (hl:l.length≤1000000) (stop:Nat→α→Option ρ) (R:ρ) (he:∀(k:Nat) x,l[k]?=some x→k≤1000000→f (S k)=some (match stop k x with|some y=>.inr y|none=>.inl (S ((k+1:Nat):Int)))) (hf:f (S ((l.length:Nat):Int))=some (.inr R)):loopR f (S 0)=some (scan stop R 0 l):=by
 have aux:∀(r:List α) (k:Nat),l.drop k=r→k≤l.length→loopR f (S k)=some (scan stop R k r):=by
  intro r
  induction r with
  |nil=>
   intro k h hk;have:l.length≤k:=List.drop_eq_nil_iff.1 h;obtain rfl:k=l.length:=by omega
   exact q0b hf
  |cons x r ih=>
   intro k h hk;have hg:k<l.length:=by
    rcases Nat.lt_or_ge k l.length with h2|h2
    ·exact h2
    ·rw [zQ h2] at h;cases h
   rw [q2k hg] at h;injection h with h1 h2;have hx:l[k]?=some x:=by rw [zh hg,h1]
   have hs:=he k x hx (by omega);unfold scan;cases hc:stop k x with
   |some y=>rw [hc] at hs;exact q0b hs
   |none=>rw [hc] at hs;rw [q0h hs];exact ih (k+1) h2 (by omega)
 exact aux l 0 rfl (Nat.zero_le _)
def ixP {α:Type} (p:α→Bool):Nat→List α→Int
 |_,[]=>-1
 |k,x::r=>bif p x then (k:Int) else ixP p (k+1) r
theorem z2x {τ α:Type} {O:Int→τ} {p:α→Bool} (r:List α) (k:Nat):scan (fun k x=>bif p x then some (O k) else none) (O (-1)) k r=O (ixP p k r):=by
 induction r generalizing k with
 |nil=>rfl
 |cons x r ih=>
  unfold scan ixP;cases p x with
  |true=>rfl
  |false=>exact ih (k+1)
theorem q2i {σ τ α:Type} (f:σ→Option (σ⊕τ)) (S:Int→σ) (O:Int→τ) (l:List α) (hl:l.length≤1000000) (p:α→Bool) (hc:∀(k:Nat) x,l[k]?=some x→k≤1000000→f (S k)=some (bif p x then .inr (O k) else .inl (S ((k+1:Nat):Int)))) (he:f (S ((l.length:Nat):Int))=some (.inr (O (-1)))):loopR f (S 0)=some (O (ixP p 0 l)):=by have h:=q10 f S l hl (fun k x=>bif p x then some (O k) else none) (O (-1)) (fun k x hx hk=>by rw [hc k x hx hk];cases p x<;>rfl) he;rw [h,z2x]
theorem q3l {α:Type} (p:α→Bool) (l:List α) (k:Nat):leI 0 (ixP p k l)=l.any p:=by
 induction l generalizing k with
 |nil=>rfl
 |cons x r ih=>
  unfold ixP;rw [List.any_cons];cases p x with
  |true=>exact zA (by show (0:Int)≤(k:Int);omega)
  |false=>exact ih (k+1)
theorem qps {α:Type} (p:α→Bool) (l:List α) (k:Nat):ltI (ixP p k l) 0=!l.any p:=by
 rw [←q3l p l k];generalize ixP p k l=z;unfold ltI leI;by_cases h:z<0
 ·rw [zA h,zB (by omega)];rfl
 ·rw [zB h,zA (by omega)];rfl
theorem q9z {α:Type} (p:α→Bool):∀(l:List α) (k:Nat),l.any p=true→∃(i:Nat) (x:α),ixP p k l=((k+i:Nat):Int)∧l[i]?=some x∧p x=true∧l.find? p=some x
 |[],_,h=>by cases h
 |x::r,k,h=>by
  unfold ixP;rw [List.any_cons] at h;cases hp:p x with
  |true=>exact ⟨0,x,rfl,rfl,hp,by rw [jh hp]⟩
  |false=>rw [hp] at h;obtain ⟨i,y,h1,h2,h3,h4⟩:=q9z p r (k+1) h;refine ⟨i+1,y,?_,h2,h3,by rw [ji (by rw [hp];exact zZ)];exact h4⟩;show ixP p (k+1) r=_;rw [h1];congr 1;omega
theorem qpt {α:Type} (p:α→Bool) (l:List α) (k:Nat) (h:l.any p=false):ixP p k l=-1:=by
 induction l generalizing k with
 |nil=>rfl
 |cons x r ih=>unfold ixP;rw [List.any_cons,Bool.or_eq_false_iff] at h;rw [h.1];exact ih (k+1) h.2
def qvs {α β ρ:Type} (g:Nat→β→α→β⊕ρ) (fin:β→ρ):Nat→β→List α→ρ
 |_,a,[]=>fin a
 |k,a,x::r=>match g k a x with
  |.inl a'=>qvs g fin (k+1) a' r
  |.inr y=>y
theorem qs7 {σ ρ α β:Type} (f:σ→Option (σ⊕ρ)) (S:Int→β→σ) (l:List α) (g:Nat→β→α→β⊕ρ) (fin:β→ρ) (I:Nat→β→Prop) (a0:β) (h0:I 0 a0) (he:∀(k:Nat) x a,l[k]?=some x→I k a→f (S k a)=some (match g k a x with|.inl a'=>.inl (S ((k+1:Nat):Int) a')|.inr y=>.inr y)∧∀a',g k a x=.inl a'→I (k+1) a') (hf:∀a,I l.length a→f (S ((l.length:Nat):Int) a)=some (.inr (fin a))):loopR f (S 0 a0)=some (qvs g fin 0 a0 l):=by
 have aux:∀(r:List α) (k:Nat) (a:β),l.drop k=r→k≤l.length→I k a→loopR f (S k a)=some (qvs g fin k a r):=by
  intro r
  induction r with
  |nil=>
   intro k a h hk hi;have:l.length≤k:=List.drop_eq_nil_iff.1 h;obtain rfl:k=l.length:=by omega
   exact q0b (hf a hi)
  |cons x r ih=>
   intro k a h hk hi;have hg:k<l.length:=by
    rcases Nat.lt_or_ge k l.length with h2|h2
    ·exact h2
    ·rw [zQ h2] at h;cases h
   rw [q2k hg] at h;injection h with h1 h2;have hx:l[k]?=some x:=by rw [zh hg,h1]
   obtain ⟨hs,hj⟩:=he k x a hx hi;unfold qvs;cases hc:g k a x with
   |inr y=>rw [hc] at hs;exact q0b hs
   |inl a'=>rw [hc] at hs;rw [q0h hs];exact ih (k+1) a' h2 (by omega) (hj a' hc)
 exact aux l 0 a0 rfl (Nat.zero_le _) h0
theorem qvt {α β ρ:Type} (g:β→α→β) (fin:β→ρ) (l:List α) (k:Nat) (a:β):qvs (fun _ a x=>.inl (g a x)) fin k a l=fin (l.foldl g a):=by
 induction l generalizing k a with
 |nil=>rfl
 |cons x r ih=>exact ih (k+1) (g a x)
theorem q1z {σ ρ α β:Type} (f:σ→Option (σ⊕ρ)) (S:Int→β→σ) (l:List α) (g:β→α→β) (fin:β→ρ) (I:Nat→β→Prop) (a0:β) (h0:I 0 a0) (hc:∀(k:Nat) x a,l[k]?=some x→I k a→f (S k a)=some (.inl (S ((k+1:Nat):Int) (g a x)))∧I (k+1) (g a x)) (he:∀a,I l.length a→f (S ((l.length:Nat):Int) a)=some (.inr (fin a))):loopR f (S 0 a0)=some (fin (l.foldl g a0)):=by rw [qs7 f S l (fun _ a x=>.inl (g a x)) fin I a0 h0 (fun k x a hx hi=>⟨(hc k x a hx hi).1,fun a' e=>by injection e with e;rw [←e];exact (hc k x a hx hi).2⟩) he,qvt]
end Fn
end Ev

namespace Ev
open Go
namespace Fn
theorem eqS_eq {a b:List Int}:eqS a b=true↔a=b:=by simp [eqS]
def typN (x:ND):Bool:=bif eqI x.1 31 then eqI x.2.2.2 0&&(eqS x.2.1 []&&(leI 0 x.2.2.1&&leI x.2.2.1 1048576)) else
 eqI x.1 32&&(eqI x.2.2.1 0&&(bif eqS x.2.1 [45,62] then eqI x.2.2.2 2 else bif eqS x.2.1 [105,110,116]||eqS x.2.1 [116,101,120,116] then eqI x.2.2.2 0 else bif eqS x.2.1 [114,101,102] then eqI x.2.2.2 1 else q2h x.2.1&&leI x.2.2.2 8))
theorem qnf (x:ND) (hx:qpo x):f_ee (x,())=some (typN x,()):=by
 obtain ⟨a,t,n,c⟩:=x;have hl:=qc5 t hx.1;rw [u_ee];unfold typN;simp only;cases h1:eqI a 31 with
 |true=>cases eqI c 0<;>cases eqS t []<;>cases leI 0 n<;>cases leI n 1048576<;>rfl
 |false=>
  cases h2:eqI a 32 with
  |false=>rfl
  |true=>
   cases h3:eqI n 0 with
   |false=>rfl
   |true=>
    cases h4:eqS t [45,62] with
    |true=>rfl
    |false=>
     cases h5:eqS t [105,110,116] with
     |true=>rfl
     |false=>
      cases h6:eqS t [116,101,120,116] with
      |true=>rfl
      |false=>
       cases h7:eqS t [114,101,102] with
       |true=>simp only [nT,q01,q02,q00,h7];rfl
       |false=>simp only [nT,q01,q00,cond_false,hl,Bool.true_and,Bool.false_or,h7];unfold q2h;cases q4j q3e t<;>rfl
def q26 (l:List ND):Bool:=decide (l.length≤4000)&&(q9a l&&l.all typN)
theorem ix12 (b:Bool) (l:List ND) (hl:l.length≤1000000) (hg:GL l):f_ct (⟨b,l⟩,())=some (!l.all typN,()):=by
 have e:loopR l1_d3 (⟨b,l⟩,lenI l,0,())=some (ixP (fun x=>!typN x) 0 l,()):=by
  refine q2i l1_d3 (fun k=>(⟨b,l⟩,lenI l,k,())) (fun z=>(z,())) l hl (fun x=>!typN x) ?_ ?_
  ·intro k x hx hk;obtain ⟨a,t,n,c⟩:=x;unfold l1_d3;simp only [ltG hx,q02,q05 hx,q00,u_ec,qnf _ (hg.at hx),add1 (show k≤1000000000 by omega),notB];cases typN (a,t,n,c)<;>rfl
  ·unfold l1_d3;simp only [ltE,q01]
 rw [u_ct,u_d3];refine (ql4 e _).trans ?_;rw [q3l,List.not_all_eq_any_not]
theorem z2y (l:List ND):ltI 4000 (lenI l)=!decide (l.length≤4000):=by
 unfold ltI lenI;by_cases e:l.length≤4000
 ·rw [zA e,zB (by omega)];rfl
 ·rw [zB e,zA (by omega)];rfl
theorem qa0 (b:Bool) (l:List ND) (hl:l.length≤10000) (hg:GL l):f_eb (⟨b,l⟩,())=some (bif q26 l then 0 else 90,()):=by rw [u_eb,ix12 b l (by omega) hg,q8w b l hl];simp only [z2y];unfold q26;cases decide (l.length≤4000)<;>cases q9a l<;>cases l.all typN<;>rfl
theorem z2z:q2h [105,110,116]=false:=by kernel_rfl
end Fn
end Ev

namespace Ev
open Go
namespace Fn
theorem z0u (v:Int) (l:List Int):l.any (fun x=>eqI v x)=decide (v∈l):=by
 induction l with
 |nil=>rfl
 |cons a r ih=>
  rw [List.any_cons,ih];by_cases h:v=a
  ·subst h;rw [q1j];exact (zA (ze ..)).symm
  ·rw [q2u h,Bool.false_or];exact decide_eq_decide.2 ⟨fun e=>zf _ e,fun e=>(zj.1 e).resolve_left h⟩
theorem qim (b:Bool) (l:List Int) (v:Int) (hl:l.length≤1000000):f_cl (⟨b,l⟩,v,())=some (decide (v∈l),()):=by
 have e:loopR l1_d0 (⟨b,l⟩,v,lenI l,0,())=some (ixP (fun x=>eqI v x) 0 l,()):=by
  refine q2i l1_d0 (fun k=>(⟨b,l⟩,v,lenI l,k,())) (fun z=>(z,())) l hl (fun x=>eqI v x) ?_ ?_
  ·intro k x hx hk;unfold l1_d0;simp only [ltG hx,q02,q05 hx,q00,add1 (show k≤1000000000 by omega)];cases eqI v x<;>rfl
  ·unfold l1_d0;simp only [ltE,q01]
 rw [u_cl,u_d0];refine (ql4 e _).trans ?_;rw [q3l,z0u]
def varG (a:List Int) (x:ND):List Int:=bif eqI x.1 31&&!decide (x.2.2.1∈a) then a++[x.2.2.1] else a
theorem qzq (a:List Int) (x:ND):(varG a x).length≤a.length+1:=by
 unfold varG;cases (eqI x.1 31&&!decide (x.2.2.1∈a)) with
 |true=>rw [cond_true,zp];exact Nat.le_refl _
 |false=>exact Nat.le_succ _
theorem qzr (p:Int→Bool) (l:List ND):∀a:List Int,(l.foldl varG a).any p=(a.any p||l.any fun x=>eqI x.1 31&&p x.2.2.1):=by
 induction l with
 |nil=>intro a;simp
 |cons x r ih=>
  intro a;rw [List.foldl_cons,ih,List.any_cons,←Bool.or_assoc];congr 1;unfold varG;cases eqI x.1 31 with
  |false=>simp
  |true=>
   by_cases h:x.2.2.1∈a
   ·rw [zA h];simp only [Bool.not_true,Bool.and_false,cond_false,Bool.true_and];cases hp:p x.2.2.1 with
    |false=>simp
    |true=>rw [Bool.or_true];exact zJ.2 ⟨_,h,hp⟩
   ·rw [zB h];simp
def varS (a:Sl Int) (x:ND):Sl Int:=bif eqI x.1 31&&!decide (x.2.2.1∈a.l) then ⟨false,a.l++[x.2.2.1]⟩ else a
theorem z0v (l:List ND):∀a:Sl Int,(l.foldl varS a).l=l.foldl varG a.l:=by
 induction l with
 |nil=>intro a;rfl
 |cons x r ih=>intro a;rw [List.foldl_cons,List.foldl_cons,ih];congr 1;unfold varS varG;cases (eqI x.1 31&&!decide (x.2.2.1∈a.l))<;>rfl
theorem qpu (a:Sl Int) (x:ND):(varS a x).l.length≤a.l.length+1:=by have:=z0v [x] a;rw [List.foldl_cons,List.foldl_nil,List.foldl_cons,List.foldl_nil] at this;rw [this];exact qzq _ _
theorem qs8 (b:Bool) (l:List ND) (hl:l.length≤10000) (hg:GL l) (ht:q26 l=true):f_ed (⟨b,l⟩,())=some (l.foldl varS ⟨true,[]⟩,()):=by
 rw [u_ed,qa0 b l hl hg,ht,q00];show loopR l1_ed (⟨b,l⟩,lenI l,0,⟨true,[]⟩,())=_;refine q1z l1_ed (fun k a=>(⟨b,l⟩,lenI l,k,a,())) l varS (fun a=>(a,())) (fun k a=>k≤l.length∧a.l.length≤k) ⟨true,[]⟩ ⟨Nat.zero_le _,Nat.le_refl _⟩ ?_ ?_
 ·intro k x a hx hi;obtain ⟨nb,a⟩:=a;have hk:=getL hx;have h2:a.length≤k:=hi.2;have he:=add1 (show k≤1000000000 by omega);have hc:=qim nb a x.2.2.1 (by omega);have hf:fit (sumI (lenI a) (lenI [x.2.2.1]))=some ():=q0g (by show a.length+1≤_;omega);refine ⟨?_,⟨hk,by have:=qpu ⟨nb,a⟩ x;have:=hi.2;simp only at*;omega⟩⟩;unfold l1_ed varS;simp only [ltG hx,q02,q05 hx,q00,hc,hf,q13,notB,app];cases eqI x.1 31<;>cases decide (x.2.2.1∈a)<;>simp only [Bool.not_true,Bool.not_false,Bool.and_true,Bool.and_false,cond_true,cond_false,q02,q01,q00,he]
 ·intro a _;unfold l1_ed;simp only [ltE,q01]
end Fn
end Ev

namespace Ev
open Go
namespace Fn
abbrev SN:=Sl ND
abbrev CT:=Tx×Sl SN
abbrev DD:=Tx×Int×Sl CT
def gT (s:Tx):Prop:=(∀b,b∈s→0≤b∧b≤255)∧s.length≤1000000
def gA (t:SN):Prop:=GL t.l∧t.l.length≤10000
def gC (c:CT):Prop:=gT c.1∧c.2.l.length≤1000∧∀t,t∈c.2.l→gA t
def gD (d:DD):Prop:=gT d.1∧d.2.2.l.length≤1000∧∀c,c∈d.2.2.l→gC c
def GD (L:List DD):Prop:=L.length≤1000∧∀d,d∈L→gD d
def qin (p:Int) (t:List ND):Bool:=q26 t&&!(t.any fun x=>eqI x.1 31&&leI p x.2.2.1)
def qh1 (p:Int) (c:CT):Bool:=q2h c.1&&(leI (lenI c.2.l) 8&&c.2.l.all fun t=>qin p t.l)
def q0u (d:DD):Bool:=q2h d.1&&(leI 0 d.2.1&&(leI d.2.1 8&&(leI 1 (lenI d.2.2.l)&&(leI (lenI d.2.2.l) 60&&d.2.2.l.all (qh1 d.2.1)))))
theorem qc9 (s:Tx) (hs:gT s):f_ad (s,())=some (q2h s,()):=by rw [u_ad,qc5 s hs.1,q00];rfl
theorem qzs (s:Tx) (hs:gT s):f_c8 (s,())=some (q2h s,()):=by rw [u_c8,qrt s hs.2,q00];rfl
theorem z4b (a b:Int):ltI a b=!leI b a:=by
 unfold ltI leI;by_cases h:a<b
 ·rw [zA h,zB (by omega)];rfl
 ·rw [zB h,zA (by omega)];rfl
theorem qvu (l:List ND):∀a:Sl Int,(l.foldl varS a).l.length≤a.l.length+l.length:=by
 induction l with
 |nil=>intro a;exact Nat.le_refl _
 |cons x r ih=>intro a;rw [List.foldl_cons];have h1:=ih (varS a x);have h2:=qpu a x;rw [zw];omega
theorem qzt (n:Tx) (p:Int) (cs:Sl CT) (t:SN) (ht:gA t):f_ah (t,n,p,cs,())=some (!qin p t.l,n,p,cs,()):=by
 obtain ⟨b,l⟩:=t;obtain ⟨hg,hl⟩:=ht;have hl:l.length≤10000:=hl;rw [u_ah,u_af,qa0 b l hl hg];unfold qin;cases hc:q26 l with
 |false=>rfl
 |true=>
  have hv:=qs8 b l hl hg hc;have he:=qvu l ⟨true,[]⟩;have ha:=qzr (fun v=>leI p v) l [];rw [List.any_nil,Bool.false_or] at ha;rw [←show (l.foldl varS ⟨true,[]⟩).l=l.foldl varG [] from z0v l _] at ha;have he:(l.foldl varS ⟨true,[]⟩).l.length≤0+l.length:=he;generalize l.foldl varS ⟨true,[]⟩=vs at hv he ha;have e:loopR l1_da (vs,lenI vs.l,0,n,p,cs,())=some (ixP (fun v=>leI p v) 0 vs.l,n,p,cs,()):=by
   refine q2i l1_da (fun k=>(vs,lenI vs.l,k,n,p,cs,())) (fun z=>(z,n,p,cs,())) vs.l (by omega) (fun v=>leI p v) ?_ ?_
   ·intro k x hx hk;unfold l1_da;simp only [ltG hx,q02,q05 hx,q00,u_ag,add1 (show k≤1000000000 by omega)];cases leI p x<;>rfl
   ·unfold l1_da;simp only [ltE,q01]
  rw [q00];simp only [cond_true,e00,q02,q00,hv,u_cp,u_da,e,q3l,ha,Bool.true_and,notB,Bool.not_not]
theorem qvv (n:Tx) (p:Int) (cs:Sl CT) (a:Sl SN) (ha:a.l.length≤1000) (hg:∀t,t∈a.l→gA t):f_cs (a,n,p,cs,())=some (!(a.l.all fun t=>qin p t.l),n,p,cs,()):=by
 have e:loopR l1_db (a,lenI a.l,0,n,p,cs,())=some (ixP (fun t=>!qin p t.l) 0 a.l,n,p,cs,()):=by
  refine q2i l1_db (fun k=>(a,lenI a.l,k,n,p,cs,())) (fun z=>(z,n,p,cs,())) a.l (by omega) (fun t=>!qin p t.l) ?_ ?_
  ·intro k x hx hk;unfold l1_db;simp only [ltG hx,q02,q05 hx,q00,qzt n p cs x (hg x (zn hx)),add1 (show k≤1000000000 by omega)];cases qin p x.l<;>rfl
  ·unfold l1_db;simp only [ltE,q01]
 rw [u_cs,u_db,e,q00,q3l,List.not_all_eq_any_not]
theorem qpv {α ρ:Type} (p:α→Bool) (A R:ρ) (l:List α) (k:Nat):scan (fun _ x=>bif p x then none else some A) R k l=bif l.all p then R else A:=by
 induction l generalizing k with
 |nil=>rfl
 |cons x r ih=>
  unfold scan;rw [List.all_cons];cases p x with
  |true=>exact ih (k+1)
  |false=>rfl
theorem qng (d:DD) (hd:gD d):f_ae (d,())=some (q0u d,()):=by
 obtain ⟨n,p,cs⟩:=d;obtain ⟨h1,h2,h3⟩:=hd;have h2:cs.l.length≤1000:=h2;have e:loopR l1_ae (cs,lenI cs.l,0,n,p,cs,())=some (cs.l.all (qh1 p),()):=by
  refine (q10 l1_ae (fun k=>(cs,lenI cs.l,k,n,p,cs,())) cs.l (by omega) (fun _ c=>bif qh1 p c then none else some (false,())) (true,()) ?_ ?_).trans ?_
  ·intro k c hx hk;obtain ⟨g1,g2,g3⟩:=h3 c (zn hx);have hc:=add1 (show k≤1000000000 by omega);unfold l1_ae qh1;simp only [ltG hx,q02,q05 hx,q00,qc9 c.1 g1,z4b 8,qvv n p cs c.2 g2 g3,hc];cases q2h c.1<;>cases leI (lenI c.2.l) 8<;>cases (c.2.l.all fun t=>qin p t.l)<;>rfl
  ·unfold l1_ae;simp only [ltE,q01]
  ·rw [qpv];cases cs.l.all (qh1 p)<;>rfl
 rw [u_ae,qc9 n h1,e];unfold q0u;simp only [q00,z4b];cases q2h n<;>cases leI 0 p<;>cases leI p 8<;>cases leI 1 (lenI cs.l)<;>cases leI (lenI cs.l) 60<;>rfl
end Fn
end Ev

namespace Ev
open Go
namespace Fn
theorem q44 {α ρ:Type} (p:α→Bool) (A R:ρ) (l:List α) (k:Nat):scan (fun _ x=>bif p x then some A else none) R k l=bif l.any p then A else R:=by
 induction l generalizing k with
 |nil=>rfl
 |cons x r ih=>
  unfold scan;rw [List.any_cons];cases p x with
  |false=>exact ih (k+1)
  |true=>rfl
end Fn
end Ev

namespace Ev
open Go
namespace Fn
def anyX {α:Type} (q:Nat→α→Bool):Nat→List α→Bool
 |_,[]=>false
 |k,x::r=>q k x||anyX q (k+1) r
theorem qez {α ρ:Type} (q:Nat→α→Bool) (A R:ρ) (l:List α) (k:Nat):scan (fun k x=>bif q k x then some A else none) R k l=bif anyX q k l then A else R:=by
 induction l generalizing k with
 |nil=>rfl
 |cons x r ih=>
  unfold scan anyX;cases q k x with
  |false=>exact ih (k+1)
  |true=>rfl
def dupT:List Tx→List Tx→Bool
 |_,[]=>false
 |pre,a::r=>decide (a∈pre)||dupT (pre++[a]) r
theorem qvw:∀(l pre:List Tx),dupT pre l=(l.any (fun x=>decide (x∈pre))||dupL l)
 |[],_=>rfl
 |a::r,pre=>by
  unfold dupT dupL;rw [qvw r,List.any_cons];have h:(r.any fun x=>decide (x∈pre++[a]))=((r.any fun x=>decide (x∈pre))||decide (a∈r)):=by
   rw [Bool.eq_iff_iff];simp only [zJ,Bool.or_eq_true,decide_eq_true_eq,zo,zu];constructor
   ·rintro ⟨x,h1,h2|h2⟩
    ·exact .inl ⟨x,h1,h2⟩
    ·subst h2;exact .inr h1
   ·rintro (⟨x,h1,h2⟩|h2)
    ·exact ⟨x,h1,.inl h2⟩
    ·exact ⟨a,h2,.inr rfl⟩
  rw [h];cases decide (a∈pre)<;>cases (r.any fun x=>decide (x∈pre))<;>cases decide (a∈r)<;>rfl
theorem qzu {α:Type} (key:α→Tx) (q:Nat→α→Bool) (L:List α) (h:∀k x,L[k]?=some x→q k x=decide (key x∈(L.take k).map key)):anyX q 0 L=dupL (L.map key):=by
 have aux:∀(suf pre:List α),L=pre++suf→anyX q pre.length suf=dupT (pre.map key) (suf.map key):=by
  intro suf
  induction suf with
  |nil=>intro pre _;rfl
  |cons x r ih=>
   intro pre e;have hx:L[pre.length]?=some x:=by rw [e,zY (Nat.le_refl _),Nat.sub_self];rfl
   have ht:L.take pre.length=pre:=by rw [e,List.take_left]
   have h1:=ih (pre++[x]) (by rw [e,zC];rfl);rw [zp,zE] at h1;unfold anyX;rw [h _ x hx,ht];exact congrArg _ h1
 refine (aux L [] rfl).trans ?_;rw [List.map_nil,qvw];simp
theorem qpw {α:Type} (p:α→Bool):∀(l:List α) (i k:Nat) (x:α),l[i]?=some x→p x=true→ltI (ixP p k l) ((k+i:Nat):Int)=(l.take i).any p
 |[],_,_,_,h,_=>by cases h
 |a::r,0,k,x,h,hp=>by injection h with h;subst h;unfold ixP;rw [hp,cond_true];exact zB (by omega)
 |a::r,i+1,k,x,h,hp=>by
  unfold ixP;rw [List.take_succ_cons,List.any_cons];cases ha:p a with
  |true=>exact zA (by show (k:Int)<_;omega)
  |false=>have:=qpw p r i (k+1) x h hp;rw [show k+(i+1)=k+1+i by omega];exact this
theorem qpx (l:List DD) (n:Tx):(l.any fun x=>eqS x.1 n)=decide (n∈l.map fun d=>d.1):=by rw [Bool.eq_iff_iff];simp only [zJ,decide_eq_true_eq,zR];exact ⟨fun ⟨x,h1,h2⟩=>⟨x,h1,eqS_eq.1 h2⟩,fun ⟨x,h1,h2⟩=>⟨x,h1,eqS_eq.2 h2⟩⟩
def PC (i:Nat):Nat→List CT→List ((Int×Int)×Tx)
 |_,[]=>[]
 |k,c::r=>((i,k),c.1)::PC i (k+1) r
def PD:Nat→List DD→List ((Int×Int)×Tx)
 |_,[]=>[]
 |i,d::r=>PC i 0 d.2.2.l++PD (i+1) r
def q68 (L:List DD):List Tx:=L.flatMap fun d=>d.2.2.l.map fun c=>c.1
def q92 (E:List ((Int×Int)×Tx)) (n:Tx):Option (Int×Int):=(E.find? fun e=>eqS e.2 n).map fun e=>e.1
theorem qpy (i:Nat):∀(l:List CT) (k:Nat),(PC i k l).map (fun e=>e.2)=l.map fun c=>c.1
 |[],_=>rfl
 |c::r,k=>by show c.1::_=c.1::_;rw [qpy i r]
theorem qpz:∀(L:List DD) (i:Nat),(PD i L).map (fun e=>e.2)=q68 L
 |[],_=>rfl
 |d::r,i=>by show (PC i 0 d.2.2.l++PD (i+1) r).map _=_;rw [zE,qpy,qpz r];rfl
theorem qio (i:Nat):∀(l:List CT) (k:Nat) e,e∈PC i k l→e.1.1=(i:Int)∧(k:Int)≤e.1.2
 |[],_,_,h=>by cases h
 |c::r,k,e,h=>by
  rcases zj.1 h with h|h
  ·subst h;exact ⟨rfl,Int.le_refl _⟩
  ·obtain ⟨h1,h2⟩:=qio i r (k+1) e h;exact ⟨h1,by omega⟩
theorem qvx:∀(L:List DD) (i:Nat) e,e∈PD i L→(i:Int)≤e.1.1
 |[],_,_,h=>by cases h
 |d::r,i,e,h=>by
  rcases zo.1 h with h|h
  ·rw [(qio i _ _ e h).1];exact Int.le_refl _
  ·have:=qvx r (i+1) e h;omega
theorem qq0 (i:Nat):∀(l:List CT) (k:Nat),((PC i k l).map fun e=>e.1).Nodup
 |[],_=>List.nodup_nil
 |c::r,k=>by show (((i:Int),(k:Int))::(PC i (k+1) r).map _).Nodup;refine List.nodup_cons.2 ⟨fun h=>?_,qq0 i r (k+1)⟩;obtain ⟨e,h1,h2⟩:=zR.1 h;have:=(qio i r (k+1) e h1).2;rw [h2] at this;simp only at this;omega
theorem qq1:∀(L:List DD) (i:Nat),((PD i L).map fun e=>e.1).Nodup
 |[],_=>List.nodup_nil
 |d::r,i=>by show ((PC i 0 d.2.2.l++PD (i+1) r).map _).Nodup;rw [zE];refine List.nodup_append.2 ⟨qq0 i _ _,qq1 r (i+1),fun a ha b hb=>?_⟩;obtain ⟨e,h1,h2⟩:=zR.1 ha;obtain ⟨e',h3,h4⟩:=zR.1 hb;have g1:=(qio i _ _ e h1).1;have g2:=qvx r (i+1) e' h3;intro h;rw [←h,←h2] at h4;rw [h4,g1] at g2;omega
theorem ql5:∀E:List ((Int×Int)×Tx),(E.map fun e=>e.1).Nodup→(E.any fun e=>!decide (q92 E e.2=some e.1))=dupL (E.map fun e=>e.2)
 |[],_=>rfl
 |e0::r,h=>by
  rw [zV] at h;obtain ⟨h1,h2⟩:=List.nodup_cons.1 h;have ih:=ql5 r h2;have f0:q92 (e0::r) e0.2=some e0.1:=by unfold q92;rw [jh (p:=fun e:(Int×Int)×Tx=>eqS e.2 e0.2) (q12 e0.2)];rfl
  rw [List.any_cons,f0,zV];unfold dupL;rw [←ih];have hd:(!decide ((some e0.1:Option (Int×Int))=some e0.1))=false:=by simp
  rw [hd,Bool.false_or];rw [Bool.eq_iff_iff];simp only [zJ,Bool.or_eq_true,decide_eq_true_eq,zR,Bool.not_eq_true',decide_eq_false_iff_not];have fr:∀e,e∈r→e.2≠e0.2→q92 (e0::r) e.2=q92 r e.2:=fun e _ hc=>by unfold q92;rw [ji (p:=fun x:(Int×Int)×Tx=>eqS x.2 e.2) (fun hh=>hc (eqS_eq.1 hh).symm)]
  constructor
  ·rintro ⟨e,g1,g2⟩;by_cases hn:e.2=e0.2
   ·exact .inl ⟨e,g1,hn⟩
   ·rw [fr e g1 hn] at g2;exact .inr ⟨e,g1,g2⟩
  ·rintro (⟨e,g1,g2⟩|⟨e,g1,g2⟩)
   ·refine ⟨e,g1,?_⟩;rw [g2,f0];intro hh;injection hh with hh;exact h1 (zR.2 ⟨e,g1,hh.symm⟩)
   ·by_cases hn:e.2=e0.2
    ·refine ⟨e,g1,?_⟩;rw [hn,f0];intro hh;injection hh with hh;exact h1 (zR.2 ⟨e,g1,hh.symm⟩)
    ·exact ⟨e,g1,by rw [fr e g1 hn];exact g2⟩
end Fn
end Ev

namespace Ev
open Go
namespace Fn
def qh2 (L:List DD) (x:ND):Bool:=L.any fun d=>eqS d.1 x.2.1&&eqI d.2.1 x.2.2.2
def qa1 (L:List DD) (x:ND):Bool:=eqI x.1 32&&(q2h x.2.1&&!qh2 L x)
def qb5 (L:List DD) (c:CT):Bool:=c.2.l.any fun t=>t.l.any (qa1 L)
def q9b (L:List DD):Bool:=L.any fun d=>d.2.2.l.any (qb5 L)
def q4p (L:List DD):Bool:=decide (L.length≤60)&&(L.all q0u&&(!dupL (L.map fun d=>d.1)&&(!dupL (q68 L)&&!q9b L)))
theorem qzv (b:Bool) (L:List DD) (hL:GD L):f_cm (⟨b,L⟩,())=some (!L.all q0u,()):=by
 have e:loopR l1_dd (⟨b,L⟩,lenI L,0,())=some (ixP (fun d=>!q0u d) 0 L,()):=by
  refine q2i l1_dd (fun k=>(⟨b,L⟩,lenI L,k,())) (fun z=>(z,())) L (by have:=hL.1;omega) (fun d=>!q0u d) ?_ ?_
  ·intro k x hx hk;have hd:=qng x (hL.2 x (zn hx));obtain ⟨n,p,cs⟩:=x;unfold l1_dd;simp only [ltG hx,q02,q05 hx,q00,u_a1,hd,add1 (show k≤1000000000 by omega),notB];cases q0u (n,p,cs)<;>rfl
  ·unfold l1_dd;simp only [ltE,q01]
 rw [u_cm,u_dd];refine (ql4 e _).trans ?_;rw [q3l,List.not_all_eq_any_not]
theorem z4c (b:Bool) (L:List DD) (hL:GD L) (d:DD):f_de (⟨b,L⟩,d,())=some (ixP (fun x=>eqS x.1 d.1) 0 L,()):=by
 obtain ⟨n,p,cs⟩:=d;rw [u_de];refine q2i l1_de (fun k=>(⟨b,L⟩,(n,p,cs),lenI L,k,())) (fun z=>(z,())) L (by have:=hL.1;omega) (fun x=>eqS x.1 n) ?_ ?_
 ·intro k x hx hk;obtain ⟨m,q,ds⟩:=x;unfold l1_de;simp only [ltG hx,q02,q05 hx,q00,u_a2,add1 (show k≤1000000000 by omega)];cases eqS m n<;>rfl
 ·unfold l1_de;simp only [ltE,q01]
def qvy (n:Tx) (i:Nat) (d:DD):Option (Bool×Int×Int×Unit):=bif leI 0 (ixP (fun c:CT=>eqS c.1 n) 0 d.2.2.l) then some (true,(i:Int),ixP (fun c:CT=>eqS c.1 n) 0 d.2.2.l,()) else none
def out3 (s:Sl DD) (n:Tx) (i:Nat) (z:Int):((Sl DD)×Tx×(Sl DD)×Int×Int×Int×Int×Unit)⊕(Bool×Int×Int×Unit):=bif leI 0 z then .inr (true,(i:Int),z,()) else .inl (s,n,s,lenI s.l,((i+1:Nat):Int),0,0,())
theorem z57 (s:Sl DD) (hL:GD s.l) (n:Tx):f_ac (s,s,n,0,0,())=some (scan (qvy n) (false,0,0,()) 0 s.l):=by
 rw [u_ac];refine q10 l2_ac (fun k=>(s,n,s,lenI s.l,k,0,0,())) s.l (by have:=hL.1;omega) (qvy n) (false,0,0,()) ?_ ?_
 ·intro i d hd hi;obtain ⟨g1,g2,g3⟩:=hL.2 d (zn hd);have e:loopR l1_ac (s,n,(i:Int),s,lenI s.l,(i:Int),lenI d.2.2.l,0,0,0,())=some (out3 s n i (ixP (fun c:CT=>eqS c.1 n) 0 d.2.2.l)):=by
   refine q2i l1_ac (fun k=>(s,n,(i:Int),s,lenI s.l,(i:Int),lenI d.2.2.l,k,0,0,())) (out3 s n i) d.2.2.l (by omega) (fun c:CT=>eqS c.1 n) ?_ ?_
   ·intro k c hc hk;have h0:leI 0 (k:Int)=true:=zA (by omega);unfold l1_ac out3;simp only [ltG hc,q02,u_a9,q05 hd,q05 hc,q00,add1 (show k≤1000000000 by omega),h0,cond_true];cases eqS c.1 n<;>rfl
   ·have h0:leI 0 (-1)=false:=id (Eq.refl _);unfold l1_ac out3;simp only [ltE,q01,h0,cond_false,add1 (show i≤1000000000 by omega)]
  unfold l2_ac;simp only [ltG hd,q02,q05 hd,q00,e];unfold qvy out3;cases leI 0 (ixP (fun c:CT=>eqS c.1 n) 0 d.2.2.l)<;>rfl
 ·unfold l2_ac;simp only [ltE,q01]
end Fn
end Ev

namespace Ev
open Go
namespace Fn
theorem qvz (i:Nat) (n:Tx):∀(l:List CT) (k:Nat),q92 (PC i k l) n=bif leI 0 (ixP (fun c:CT=>eqS c.1 n) k l) then some ((i:Int),ixP (fun c:CT=>eqS c.1 n) k l) else none
 |[],_=>rfl
 |c::r,k=>by
  unfold PC ixP q92;rw [List.find?_cons];cases hc:eqS c.1 n with
  |true=>have:leI 0 (k:Int)=true:=zA (by omega);simp only [cond_true,this];rfl
  |false=>simp only [cond_false];exact qvz i n r (k+1)
theorem qh3 (n:Tx):∀(L:List DD) (i:Nat),scan (qvy n) (false,0,0,()) i L=match q92 (PD i L) n with|some q=>(true,q.1,q.2,())|none=>(false,0,0,())
 |[],_=>rfl
 |d::r,i=>by
  have ih:=qh3 n r (i+1);have h:q92 (PD i (d::r)) n=(q92 (PC i 0 d.2.2.l) n).or (q92 (PD (i+1) r) n):=by show ((PC i 0 d.2.2.l++PD (i+1) r).find? _).map _=_;unfold q92;rw [List.find?_append];cases (PC i 0 d.2.2.l).find? (fun e=>eqS e.2 n)<;>rfl
  rw [h,qvz];unfold scan qvy;cases leI 0 (ixP (fun c:CT=>eqS c.1 n) 0 d.2.2.l) with
  |true=>rfl
  |false=>exact ih
theorem z0w (P:(Int×Int)×Tx→Bool) (i:Nat):∀(l:List CT) (k:Nat),anyX (fun k c=>P (((i:Int),(k:Int)),c.1)) k l=(PC i k l).any P
 |[],_=>rfl
 |c::r,k=>by unfold anyX PC;rw [List.any_cons,z0w P i r]
theorem z0x (P:(Int×Int)×Tx→Bool):∀(L:List DD) (i:Nat),anyX (fun i d=>anyX (fun k c=>P (((i:Int),(k:Int)),c.1)) 0 d.2.2.l) i L=(PD i L).any P
 |[],_=>rfl
 |d::r,i=>by unfold anyX PD;rw [List.any_append,z0w,z0x P r]
def qb6 (L:List DD) (e:(Int×Int)×Tx):Bool:=!decide (q92 (PD 0 L) e.2=some e.1)
theorem z0y:∀(L:List DD) (i0 i k:Nat) (d:DD) (c:CT),L[i]?=some d→d.2.2.l[k]?=some c→((((i0+i:Nat):Int),(k:Int)),c.1)∈PD i0 L
 |[],_,_,_,_,_,h,_=>by cases h
 |d0::r,i0,0,k,d,c,h,hc=>by
  injection h with h;subst h;refine List.mem_append_left _ ?_;have aux:∀(l:List CT) (k0 k:Nat),l[k]?=some c→(((i0:Int),((k0+k:Nat):Int)),c.1)∈PC i0 k0 l:=by
   intro l
   induction l with
   |nil=>intro k0 k h;cases h
   |cons c0 r ih=>
    intro k0 k h;cases k with
    |zero=>injection h with h;subst h;exact ze ..
    |succ k=>have:=ih (k0+1) k h;rw [show k0+1+k=k0+(k+1) by omega] at this;exact zf _ this
  have:=aux d0.2.2.l 0 k hc;rw [zN] at this;exact this
 |d0::r,i0,i+1,k,d,c,h,hc=>by have:=z0y r (i0+1) i k d c h hc;rw [show i0+1+i=i0+(i+1) by omega] at this;exact List.mem_append_right _ this
theorem qs9 (s:Sl DD) (hL:GD s.l) {i k:Nat} {d:DD} {c:CT} (hd:s.l[i]?=some d) (hc:d.2.2.l[k]?=some c):f_a3 ((i:Int),(k:Int),s,())=some (qb6 s.l (((i:Int),(k:Int)),c.1),s,()):=by
 have hm:=z0y s.l 0 i k d c hd hc;rw [zN] at hm;have hf:∃q,q92 (PD 0 s.l) c.1=some q:=by
  unfold q92;cases h:(PD 0 s.l).find? (fun e=>eqS e.2 c.1) with
  |some q=>exact ⟨q.1,rfl⟩
  |none=>exact absurd (q12 c.1) (List.find?_eq_none.1 h _ hm)
 obtain ⟨⟨x,y⟩,hq⟩:=hf;rw [u_a3,q05 hd,q00,q05 hc,q00,u_a8,z57 s hL,q00,qh3,hq,q00];unfold qb6;rw [hq];simp only;by_cases h1:x=(i:Int)
 ·by_cases h2:y=(k:Int)
  ·subst h1 h2;rw [q1j,q1j,zA rfl];rfl
  ·subst h1;rw [q1j,q2u h2,zB (by intro h;injection h with h;injection h with h h';exact h2 h')];rfl
 ·rw [q2u h1,zB (by intro h;injection h with h;injection h with h h';exact h1 h)];rfl
theorem z58 (s:Sl DD) (hL:GD s.l):f_aa (s,s,())=some ((PD 0 s.l).any (qb6 s.l),s,()):=by
 rw [u_aa];refine (q10 l2_aa (fun k=>(s,lenI s.l,k,s,())) s.l (by have:=hL.1;omega) (fun i d=>bif anyX (fun k c=>qb6 s.l (((i:Int),(k:Int)),c.1)) 0 d.2.2.l then some (true,s,()) else none) (false,s,()) ?_ ?_).trans ?_
 ·intro i d hd hi;obtain ⟨g1,g2,g3⟩:=hL.2 d (zn hd);have e:=q10 l1_aa (fun k=>((i:Int),s,lenI s.l,(i:Int),lenI d.2.2.l,k,s,())) d.2.2.l (by omega)
   (fun k c=>bif qb6 s.l (((i:Int),(k:Int)),c.1) then some (.inr (true,s,())) else none) (.inl (s,lenI s.l,((i+1:Nat):Int),s,()))
   (fun k c hc hk=>by unfold l1_aa;simp only [ltG hc,q02,qs9 s hL hd hc,q00,add1 (show k≤1000000000 by omega)];cases qb6 s.l (((i:Int),(k:Int)),c.1)<;>rfl)
   (by
    unfold l1_aa;simp only [ltE,q01,add1 (show i≤1000000000 by omega)])
  rw [qez] at e;unfold l2_aa;simp only [ltG hd,q02,q05 hd,q00];refine e.trans ?_;cases anyX (fun k c=>qb6 s.l (((i:Int),(k:Int)),c.1)) 0 d.2.2.l<;>rfl
 ·unfold l2_aa;simp only [ltE,q01]
 ·rw [qez,z0x];cases (PD 0 s.l).any (qb6 s.l)<;>rfl
theorem qw0 (L:List DD):(PD 0 L).any (qb6 L)=dupL (q68 L):=by have:=ql5 (PD 0 L) (qq1 L 0);rw [qpz] at this;exact this
end Fn
end Ev

namespace Ev
open Go
namespace Fn
theorem qsa (s:Sl DD) (hL:s.l.length≤1000) (x:ND):f_cq (s,x,())=some (qh2 s.l x,()):=by
 obtain ⟨a,t,n,c⟩:=x;have e:loopR l1_df (s,(a,t,n,c),lenI s.l,0,())=some (ixP (fun d:DD=>eqS d.1 t&&eqI d.2.1 c) 0 s.l,()):=by
  refine q2i l1_df (fun k=>(s,(a,t,n,c),lenI s.l,k,())) (fun z=>(z,())) s.l (by omega) (fun d:DD=>eqS d.1 t&&eqI d.2.1 c) ?_ ?_
  ·intro k d hx hk;obtain ⟨m,q,ds⟩:=d;unfold l1_df;simp only [ltG hx,q02,q05 hx,q00,u_a5,add1 (show k≤1000000000 by omega)];cases eqS m t<;>cases eqI q c<;>rfl
  ·unfold l1_df;simp only [ltE,q01]
 rw [u_cq,u_df,e,q00,q3l];rfl
theorem qsb (s:Sl DD) (hL:s.l.length≤1000) (x:ND) (hx:qpo x):f_a4 (x,s,())=some (qa1 s.l x,s,()):=by have hk:=qsa s hL x;have hn:=qc9 x.2.1 ⟨hx.1,hx.2.1⟩;obtain ⟨a,t,n,c⟩:=x;rw [u_a4];unfold qa1;simp only [hk,hn,q00];cases eqI a 32<;>cases q2h t<;>cases qh2 s.l (a,t,n,c)<;>rfl
theorem qsc (s:Sl DD) (hL:s.l.length≤1000) (t:SN) (ht:gA t):f_a7 (t,s,())=some (t.l.any (qa1 s.l),s,()):=by
 have hl:=ht.2;have e:loopR l1_d5 (t,lenI t.l,0,s,())=some (ixP (qa1 s.l) 0 t.l,s,()):=by
  refine q2i l1_d5 (fun k=>(t,lenI t.l,k,s,())) (fun z=>(z,s,())) t.l (by omega) (qa1 s.l) ?_ ?_
  ·intro k x hx hk;unfold l1_d5;simp only [ltG hx,q02,q05 hx,q00,qsb s hL x (ht.1.at hx),add1 (show k≤1000000000 by omega)];cases qa1 s.l x<;>rfl
  ·unfold l1_d5;simp only [ltE,q01]
 rw [u_a7,u_cv,u_d5,e,q00,q00,q3l]
theorem qsd (s:Sl DD) (hL:GD s.l) {i k:Nat} {d:DD} {c:CT} (hd:s.l[i]?=some d) (hc:d.2.2.l[k]?=some c):f_a6 ((i:Int),(k:Int),s,())=some (qb5 s.l c,s,()):=by
 obtain ⟨g1,g2,g3⟩:=(hL.2 d (zn hd)).2.2 c (zn hc);have e:loopR l1_d1 (c.2,lenI c.2.l,0,s,())=some (ixP (fun t:SN=>t.l.any (qa1 s.l)) 0 c.2.l,s,()):=by
  refine q2i l1_d1 (fun k=>(c.2,lenI c.2.l,k,s,())) (fun z=>(z,s,())) c.2.l (by omega) (fun t:SN=>t.l.any (qa1 s.l)) ?_ ?_
  ·intro k t hx hk;unfold l1_d1;simp only [ltG hx,q02,q05 hx,q00,qsc s hL.1 t (g3 t (zn hx)),add1 (show k≤1000000000 by omega)];cases t.l.any (qa1 s.l)<;>rfl
  ·unfold l1_d1;simp only [ltE,q01]
 rw [u_a6,q05 hd,q00,q05 hc,q00,u_cr,u_d1,e,q00,q00,q3l];rfl
theorem z59 (s:Sl DD) (hL:GD s.l):f_ab (s,s,())=some (q9b s.l,s,()):=by
 rw [u_ab];refine (q10 l2_ab (fun k=>(s,lenI s.l,k,s,())) s.l (by have:=hL.1;omega) (fun _ d=>bif d.2.2.l.any (qb5 s.l) then some (true,s,()) else none) (false,s,()) ?_ ?_).trans ?_
 ·intro i d hd hi;obtain ⟨g1,g2,g3⟩:=hL.2 d (zn hd);have e:=q10 l1_ab (fun k=>((i:Int),s,lenI s.l,(i:Int),lenI d.2.2.l,k,s,())) d.2.2.l (by omega)
   (fun _ c=>bif qb5 s.l c then some (.inr (true,s,())) else none) (.inl (s,lenI s.l,((i+1:Nat):Int),s,()))
   (fun k c hc hk=>by unfold l1_ab;simp only [ltG hc,q02,qsd s hL hd hc,q00,add1 (show k≤1000000000 by omega)];cases qb5 s.l c<;>rfl)
   (by
    unfold l1_ab;simp only [ltE,q01,add1 (show i≤1000000000 by omega)])
  rw [q44] at e;unfold l2_ab;simp only [ltG hd,q02,q05 hd,q00];refine e.trans ?_;cases d.2.2.l.any (qb5 s.l)<;>rfl
 ·unfold l2_ab;simp only [ltE,q01]
 ·rw [q44];unfold q9b;cases s.l.any (fun d=>d.2.2.l.any (qb5 s.l))<;>rfl
def qw1 (L:List DD):Int:=bif decide (L.length≤60)&&L.all q0u then (bif dupL (L.map fun d=>d.1)||dupL (q68 L) then 101 else bif q9b L then 102 else 0) else 100
theorem qq2 (L:List DD):eqI (qw1 L) 0=q4p L:=by unfold qw1 q4p;cases decide (L.length≤60)<;>cases L.all q0u<;>cases dupL (L.map fun d=>d.1)<;>cases dupL (q68 L)<;>cases q9b L<;>rfl
theorem z5a (L:List DD):ltI 60 (lenI L)=!decide (L.length≤60):=by
 unfold ltI lenI;by_cases e:L.length≤60
 ·rw [zA e,zB (by omega)];rfl
 ·rw [zB e,zA (by omega)];rfl
theorem qnh (s:Sl DD) (hL:GD s.l):f_a0 (s,())=some (qw1 s.l,()):=by
 obtain ⟨b,L⟩:=s;have hL:GD L:=hL;have e:loopR l1_a0 (⟨b,L⟩,lenI L,0,⟨b,L⟩,())=some (bif dupL (L.map fun d=>d.1)||dupL (q68 L) then 101 else bif q9b L then 102 else 0,()):=by
  refine (q10 l1_a0 (fun k=>(⟨b,L⟩,lenI L,k,⟨b,L⟩,())) L (by have:=hL.1;omega) (fun i d=>bif ltI (ixP (fun x:DD=>eqS x.1 d.1) 0 L) (i:Int) then some (101,()) else none)
   (bif dupL (q68 L) then 101 else bif q9b L then 102 else 0,()) ?_ ?_).trans ?_
  ·intro k d hx hk;have hn:=z4c b L hL d;obtain ⟨n,p,cs⟩:=d;unfold l1_a0;simp only [ltG hx,q02,q05 hx,q00,hn,add1 (show k≤1000000000 by omega)];cases ltI (ixP (fun x:DD=>eqS x.1 n) 0 L) (k:Int)<;>rfl
  ·have h1:=z58 ⟨b,L⟩ hL;have h2:=z59 ⟨b,L⟩ hL;rw [qw0] at h1;unfold l1_a0;simp only [ltE,q01,h1,h2,q00];cases dupL (q68 L)<;>cases q9b L<;>rfl
  ·rw [qez,qzu (fun d:DD=>d.1) (fun i d=>ltI (ixP (fun x:DD=>eqS x.1 d.1) 0 L) (i:Int)) L (fun k x hx=>by have:=qpw (fun y:DD=>eqS y.1 x.1) L k 0 x hx (q12 _);rw [zN] at this;rw [this,qpx])];cases dupL (L.map fun d=>d.1)<;>rfl
 rw [u_a0,qzv b L hL];simp only [z5a,e,q00];unfold qw1;cases decide (L.length≤60)<;>cases L.all q0u<;>rfl
end Fn
end Ev

namespace Ev
open Go
namespace Fn
theorem qni (s:Sl DD) (hL:s.l.length≤1000) (x:ND):f_c7 (s,x,())=some (qh2 s.l x,()):=by
 obtain ⟨a,t,n,c⟩:=x;rw [u_c7];refine (q10 l1_c7 (fun k=>(s,k,a,t,n,c,())) s.l (by omega) (fun _ d=>bif eqS d.1 t&&eqI d.2.1 c then some (true,()) else none) (false,()) ?_ ?_).trans ?_
 ·intro k d hx hk;unfold l1_c7;simp only [ltG hx,q02,q05 hx,q00,add1 (show k≤1000000000 by omega)];cases eqS d.1 t<;>cases eqI d.2.1 c<;>rfl
 ·unfold l1_c7;simp only [ltE,q01]
 ·rw [q44];unfold qh2;cases s.l.any (fun d=>eqS d.1 t&&eqI d.2.1 c)<;>rfl
theorem r3 (s:Sl DD) (hL:s.l.length≤1000) (i k:Int) (m:Nat) (hm:m≤1000000) (t:SN) (ht:gA t):loopR q34 (s,i,k,(m:Int),t,0,())=some (bif t.l.any (qa1 s.l) then .inr (.inr (.inr (.inr (.inr (.inr (102,())))))) else .inl (s,i,k,((m+1:Nat):Int),())):=by
 have hl:=ht.2;refine (q10 q34 (fun n=>(s,i,k,(m:Int),t,n,())) t.l (by omega) (fun _ x=>bif qa1 s.l x then some (.inr (.inr (.inr (.inr (.inr (.inr (102,()))))))) else none) (.inl (s,i,k,((m+1:Nat):Int),())) ?_ ?_).trans ?_
 ·intro n x hx hk;have hg:=ht.1.at hx;have hc:=qni s hL x;have hn:=qzs x.2.1 ⟨hg.1,hg.2.1⟩;unfold q34 qa1;simp only [ltG hx,q02,q05 hx,q00,hc,hn,add1 (show n≤1000000000 by omega)];cases eqI x.1 32<;>cases q2h x.2.1<;>cases qh2 s.l x<;>rfl
 ·unfold q34;simp only [ltE,q01,add1 (show m≤1000000000 by omega)]
 ·rw [q44]
theorem r4 (s:Sl DD) (hL:GD s.l) {i k:Nat} {d:DD} {c:CT} (hd:s.l[i]?=some d) (hc:d.2.2.l[k]?=some c) (hk:k≤1000000):loopR q35 (s,(i:Int),(k:Int),0,())=some (bif qb5 s.l c then .inr (.inr (.inr (.inr (.inr (102,()))))) else .inl (s,(i:Int),((k+1:Nat):Int),())):=by
 obtain ⟨g1,g2,g3⟩:=(hL.2 d (zn hd)).2.2 c (zn hc);refine (q10 q35 (fun m=>(s,(i:Int),(k:Int),m,())) c.2.l (by omega) (fun _ t=>bif t.l.any (qa1 s.l) then some (.inr (.inr (.inr (.inr (.inr (102,())))))) else none) (.inl (s,(i:Int),((k+1:Nat):Int),())) ?_ ?_).trans ?_
 ·intro m t hx hm;unfold q35;simp only [q05 hd,q05 hc,ltG hx,q02,q05 hx,q00,r3 s hL.1 i k m hm t (g3 t (zn hx))];cases t.l.any (qa1 s.l)<;>rfl
 ·unfold q35;simp only [q05 hd,q05 hc,q00,ltE,q01,add1 (show k≤1000000000 by omega)]
 ·rw [q44];rfl
theorem r5 (s:Sl DD) (hL:GD s.l) {i:Nat} {d:DD} (hd:s.l[i]?=some d) (hi:i≤1000000):loopR q36 (s,(i:Int),0,())=some (bif d.2.2.l.any (qb5 s.l) then .inr (.inr (.inr (.inr (102,())))) else .inl (s,((i+1:Nat):Int),())):=by
 obtain ⟨g1,g2,g3⟩:=hL.2 d (zn hd);refine (q10 q36 (fun k=>(s,(i:Int),k,())) d.2.2.l (by omega) (fun _ c=>bif qb5 s.l c then some (.inr (.inr (.inr (.inr (102,()))))) else none) (.inl (s,((i+1:Nat):Int),())) ?_ ?_).trans ?_
 ·intro k c hx hk;unfold q36;simp only [q05 hd,q00,ltG hx,q02,r4 s hL hd hx hk];cases qb5 s.l c<;>rfl
 ·unfold q36;simp only [q05 hd,q00,ltE,q01,add1 (show i≤1000000000 by omega)]
 ·rw [q44]
theorem r6 (s:Sl DD) (hL:GD s.l):loopR q43 (s,0,())=some (.inr (.inr (.inr (bif q9b s.l then 102 else 0,())))):=by
 refine (q10 q43 (fun i=>(s,i,())) s.l (by have:=hL.1;omega) (fun _ d=>bif d.2.2.l.any (qb5 s.l) then some (.inr (.inr (.inr (102,())))) else none) (.inr (.inr (.inr (0,())))) ?_ ?_).trans ?_
 ·intro i d hx hi;unfold q43;simp only [ltG hx,q02,r5 s hL hx hi];cases d.2.2.l.any (qb5 s.l)<;>rfl
 ·unfold q43;simp only [ltE,q01]
 ·rw [q44];unfold q9b;cases s.l.any (fun d=>d.2.2.l.any (qb5 s.l))<;>rfl
theorem qq3 {α:Type} {l:List α} {i k:Nat} {x:α} (h:(l.take i)[k]?=some x):l[k]?=some x∧k<i:=by have h1:=getL h;rw [zU] at h1;rw [List.getElem?_take_of_lt (by omega)] at h;exact ⟨h,by omega⟩
theorem ltT {i k:Nat} (h:k<i):ltI (k:Int) (i:Int)=true:=zA (by omega)
theorem z30 (l:List Tx) (n:Tx):(l.any fun x=>eqS x n)=decide (n∈l):=by rw [Bool.eq_iff_iff];simp only [zJ,decide_eq_true_eq];exact ⟨fun ⟨x,h1,h2⟩=>by rw [←eqS_eq.1 h2];exact h1,fun h=>⟨n,h,q12 n⟩⟩
theorem r2 (s:Sl DD) (ns:Sl Tx) {i:Nat} {n:Tx} (hn:ns.l[i]?=some n) (hi:i≤1000000):loopR q42 (s,ns,(i:Int),0,())=some (bif decide (n∈ns.l.take i) then .inr (.inr (.inr (101,()))) else .inl (s,ns,((i+1:Nat):Int),())):=by
 have hc:(ns.l.take i).length=i:=by rw [zU];have:=getL hn;omega
 refine (q10 q42 (fun k=>(s,ns,(i:Int),k,())) (ns.l.take i) (by omega) (fun _ x=>bif eqS x n then some (.inr (.inr (.inr (101,())))) else none) (.inl (s,ns,((i+1:Nat):Int),())) ?_ ?_).trans ?_
 ·intro k x hx hk;obtain ⟨h1,h2⟩:=qq3 hx;unfold q42;simp only [ltT h2,q02,q05 h1,q05 hn,q00,add1 (show k≤1000000000 by omega)];cases eqS x n<;>rfl
 ·have h0:ltI (i:Int) (i:Int)=false:=zB (by omega);unfold q42;simp only [hc,h0,q01,add1 (show i≤1000000000 by omega)]
 ·rw [q44,z30]
theorem r1 (s:Sl DD) (ns:Sl Tx) {i:Nat} {d:DD} (hn:s.l[i]?=some d) (hi:i≤1000000):loopR q41 (s,ns,(i:Int),0,())=some (bif decide (d.1∈(s.l.take i).map fun d=>d.1) then .inr (.inr (101,())) else .inl (s,ns,((i+1:Nat):Int),())):=by
 have hc:(s.l.take i).length=i:=by rw [zU];have:=getL hn;omega
 refine (q10 q41 (fun k=>(s,ns,(i:Int),k,())) (s.l.take i) (by omega) (fun _ x=>bif eqS x.1 d.1 then some (.inr (.inr (101,()))) else none) (.inl (s,ns,((i+1:Nat):Int),())) ?_ ?_).trans ?_
 ·intro k x hx hk;obtain ⟨h1,h2⟩:=qq3 hx;unfold q41;simp only [ltT h2,q02,q05 h1,q05 hn,q00,add1 (show k≤1000000000 by omega)];cases eqS x.1 d.1<;>rfl
 ·have h0:ltI (i:Int) (i:Int)=false:=zB (by omega);unfold q41;simp only [hc,h0,q01,add1 (show i≤1000000000 by omega)]
 ·rw [q44,qpx]
end Fn
end Ev

namespace Ev
open Go
namespace Fn
def F.trees:F→List (List ND)
 |.nil=>[]
 |.cons k t n ks r=>(tr k t n ks).flat::r.trees
def F.ents:Nat→F→List (Int×List ND)
 |_,.nil=>[]
 |q,.cons k t n ks r=>((q:Int),(tr k t n ks).flat)::r.ents (q+1+ks.size)
theorem F.ents_pos:∀(f:F) (q:Nat),(f.ents q).map (fun e=>e.1)=f.pos q
 |.nil,_=>rfl
 |.cons _ _ _ ks r,q=>by show (q:Int)::_=(q:Int)::_;rw [F.ents_pos r]
theorem F.ents_trees:∀(f:F) (q:Nat),(f.ents q).map (fun e=>e.2)=f.trees
 |.nil,_=>rfl
 |.cons k t n ks r,q=>by show (tr k t n ks).flat::_=(tr k t n ks).flat::_;rw [F.ents_trees r]
theorem F.trees_len:∀f:F,f.trees.length=f.cnt
 |.nil=>rfl
 |.cons k t n ks r=>by show r.trees.length+1=_;rw [F.trees_len r];rfl
theorem F.trees_flat:∀f:F,f.trees.flatten=f.flat
 |.nil=>rfl
 |.cons k t n ks r=>by show (tr k t n ks).flat++r.trees.flatten=_;rw [F.trees_flat r,q2c];rfl
theorem q27 (k:Int) (t:Tx) (n:Int) (ks:F):(tr k t n ks).flat.length=ks.size+1:=by rw [F.len];rfl
structure z4d (l:List ND) (e:Int×List ND):Prop where
 pos:0≤e.1
 ends:∀b,f_e4 (⟨b,l⟩,e.1,())=some (e.1+(e.2.length:Int),())
 rends:∀b,f_bw (⟨b,l⟩,e.1,())=some (e.1+(e.2.length:Int),())
 cut:cutL l e.1 (e.1+(e.2.length:Int))=some e.2
 sits:∃(q:Nat) (k:Int) (t:Tx) (n:Int) (ks:F),e=((q:Int),(tr k t n ks).flat)∧Sits l q (tr k t n ks)
theorem qq4 {l:List ND} (hl:l.length≤10000):∀(f:F) (q:Nat),Sits l q f→q≤l.length→∀e,e∈f.ents q→z4d l e
 |.nil,_,_,_,_,h=>by cases h
 |.cons k t n ks r,q,hs,hq,e,h=>by
  rcases zj.1 h with h|h
  ·subst h;have he:=hs.ends;have hn:=hs.node;have hf:=q27 k t n ks;have hz:(q:Int)+((tr k t n ks).flat.length:Int)=((q+1+ks.size:Nat):Int):=by rw [hf];omega
   refine ⟨by show (0:Int)≤(q:Int);omega,fun b=>?_,fun b=>?_,?_,⟨q,k,t,n,ks,rfl,hs.first⟩⟩
   ·show f_e4 (⟨b,l⟩,(q:Int),())=_;rw [q8v b l hl q,he,hz]
   ·show f_bw (⟨b,l⟩,(q:Int),())=_;rw [qev b l hl q,he,hz]
   ·show cutL l (q:Int) ((q:Int)+((tr k t n ks).flat.length:Int))=some (tr k t n ks).flat
    have hc:=hs.first.flat_eq;have hg:(tr k t n ks).size=ks.size+1:=rfl;rw [hz];unfold cutL;rw [if_pos ⟨by omega,by omega,by have:=hn.2.2.2;omega⟩];rw [hg] at hc;rw [Int.toNat_natCast,Int.toNat_natCast,List.drop_take,show q+1+ks.size-q=ks.size+1 by omega];exact congrArg some hc
  ·exact qq4 hl r _ hs.node.2.2.1 (by have:=hs.node.2.2.2;omega) e h
theorem q8d {α β:Type} (h:α→β) (l:List α):∀a:Sl β,l.foldl (fun (a:Sl β) e=>(⟨false,a.l++[h e]⟩:Sl β)) a=⟨a.nil&&l.isEmpty,a.l++l.map h⟩:=by
 induction l with
 |nil=>intro a;simp
 |cons x r ih=>intro a;rw [List.foldl_cons,ih];simp
theorem getM {α β:Type} {l:List α} {f:α→β} {k:Nat} {e:α} (h:l[k]?=some e):(l.map f)[k]?=some (f e):=by rw [zT,h];rfl
theorem q6n (b:Bool) (k:Int) (t:Tx) (n:Int) (ks:F) (hl:ks.size+1≤10000):∃nb,f_bl (⟨b,(tr k t n ks).flat⟩,())=some (⟨nb,ks.trees.map fun l=>(⟨b,l⟩:SN)⟩,()):=by
 have hf:(tr k t n ks).flat.length≤10000:=by rw [q27];exact hl
 have hs:=q6l k t n ks;obtain ⟨nb,hk⟩:=qkw b _ hf hs;have hj:=qq4 hf ks 1 hs.node.2.1 (by rw [q27];omega);have hc:(ks.ents 1).length=ks.cnt:=by rw [←F.pos_len ks 1,←F.ents_pos,zm]
 have hm:=F.cnt_le ks;have e:=q1z l1_bl (fun i a=>(⟨b,(tr k t n ks).flat⟩,⟨nb,ks.pos (0+1)⟩,lenI (ks.pos (0+1)),i,a,())) (ks.ents 1) (fun (a:Sl SN) e=>(⟨false,a.l++[⟨b,e.2⟩]⟩:Sl SN)) (fun a=>(a,())) (fun i a=>i≤ks.cnt∧a.l.length=i) ⟨true,[]⟩ ⟨Nat.zero_le _,rfl⟩
  (fun i e a hx hi=>by
   obtain ⟨na,al⟩:=a;have h2:al.length=i:=hi.2;have hp:(ks.pos (0+1))[i]?=some e.1:=by rw [←F.ents_pos];exact getM hx
   have hg:=hj e (zn hx);have ho:=getL hx;have he:fit (sumI (lenI al) (lenI [(⟨b,e.2⟩:SN)]))=some ():=q0g (by show al.length+1≤_;omega);refine ⟨?_,by omega,by show (al++[_]).length=_;rw [zp,h2];rfl⟩;unfold l1_bl;simp only [ltG hp,q02,q05 hp,q00,hg.ends b,hg.cut,he,q13,add1 (show i≤1000000000 by omega)];rfl)
  (fun a _=>by
   have hn:(ks.ents 1).length=(ks.pos (0+1)).length:=by rw [hc,F.pos_len]
   unfold l1_bl;simp only [hn,ltE,q01])
 rw [q8d] at e;refine ⟨true&&(ks.ents 1).isEmpty,?_⟩;rw [u_bl];refine (ql4 hk _).trans (e.trans ?_);rw [←F.ents_trees ks 1,zW];rfl
def q6o (Ts:List (List ND)) (x:ND):List ND:=bif eqI x.1 31 then (if 0≤x.2.2.1 then (Ts[x.2.2.1.toNat]?).getD [x] else [x]) else [x]
def q6p (Ts:List (List ND)) (a:List ND):List ND:=a.flatMap (q6o Ts)
def bl (b:Bool):Nat→List (List ND)→List (Int×SN)
 |_,[]=>[]
 |i,T::r=>((i:Int),⟨b,T⟩)::bl b (i+1) r
theorem qw2 (b:Bool):∀(Ts:List (List ND)) (i j:Nat),(bl b i Ts)[j]?=(Ts[j]?).map fun T=>(((i+j:Nat):Int),(⟨b,T⟩:SN))
 |[],_,_=>rfl
 |T::r,i,0=>rfl
 |T::r,i,j+1=>by show (bl b (i+1) r)[j]?=(r[j]?).map _;rw [qw2 b r,show i+1+j=i+(j+1) by omega]
theorem ql6 (b:Bool):∀(Ts:List (List ND)) (i:Nat),(bl b i Ts).length=Ts.length
 |[],_=>rfl
 |_::r,i=>by show (bl b (i+1) r).length+1=_;rw [ql6 b r];rfl
theorem z0z (b:Bool) (v:Int):∀(Ts:List (List ND)) (i k:Nat),ixP (fun x:Int×SN=>eqI x.1 v) k (bl b i Ts)=if (i:Int)≤v∧v<(i:Int)+Ts.length then (k:Int)+(v-i) else -1
 |[],i,k=>by rw [if_neg (by simp only [List.length_nil];omega)];rfl
 |T::r,i,k=>by
  show (bif eqI (i:Int) v then (k:Int) else ixP _ (k+1) (bl b (i+1) r))=_;rw [z0z b v r (i+1) (k+1)];by_cases h:(i:Int)=v
  ·rw [h,q1j,cond_true,if_pos ⟨by omega,by rw [zw];omega⟩];omega
  ·rw [q2u h,cond_false];by_cases h2:((i+1:Nat):Int)≤v∧v<((i+1:Nat):Int)+r.length
   ·rw [if_pos h2,if_pos ⟨by omega,by rw [zw];omega⟩];omega
   ·rw [if_neg h2,if_neg (by rw [zw];omega)]
theorem ix15 (nb b:Bool) (Ts:List (List ND)) (hT:Ts.length≤1000000) (x:ND):f_d6 (⟨nb,bl b 0 Ts⟩,x,())=some (if 0≤x.2.2.1∧x.2.2.1<Ts.length then x.2.2.1 else -1,()):=by
 obtain ⟨a,t,n,c⟩:=x;rw [u_d6];refine (q2i l1_d6 (fun k=>(⟨nb,bl b 0 Ts⟩,(a,t,n,c),lenI (bl b 0 Ts),k,())) (fun z=>(z,())) (bl b 0 Ts) (by rw [ql6];exact hT) (fun x=>eqI x.1 n) ?_ ?_).trans ?_
 ·intro k x hx hk;obtain ⟨v,s⟩:=x;unfold l1_d6;simp only [ltG hx,q02,q05 hx,q00,u_ea,add1 (show k≤1000000000 by omega)];cases eqI v n<;>rfl
 ·unfold l1_d6;simp only [ltE,q01]
 ·rw [z0z];have:((0:Nat):Int)+(Ts.length:Int)=(Ts.length:Int):=by omega
  simp only [Int.natCast_zero,Int.zero_add,Int.sub_zero]<;>rfl
end Fn
end Ev

namespace Ev
open Go
namespace Fn
def appV (Ts:List (List ND)) (a:Sl ND) (x:ND):Sl ND:=⟨andB a.nil (isE (q6o Ts x)),a.l++q6o Ts x⟩
theorem z4e (Ts:List (List ND)) (l:List ND):∀a:Sl ND,(l.foldl (appV Ts) a).l=a.l++q6p Ts l:=by
 induction l with
 |nil=>intro a;simp [q6p]
 |cons x r ih=>intro a;rw [List.foldl_cons,ih];simp [appV,q6p]
theorem ql7 (Ts:List (List ND)) (hT:∀T,T∈Ts→T.length≤4000) (x:ND):(q6o Ts x).length≤4000:=by
 unfold q6o;cases eqI x.1 31 with
 |false=>show 1≤_;omega
 |true=>
  rw [cond_true];split
  ·cases h:Ts[x.2.2.1.toNat]? with
   |none=>show 1≤_;omega
   |some T=>exact hT T (zn h)
  ·show 1≤_;omega
theorem qf0 (Ts:List (List ND)) (x:ND) (h:eqI x.1 31=true):q6o Ts x=if 0≤x.2.2.1∧x.2.2.1<Ts.length then (Ts[x.2.2.1.toNat]?).getD [x] else [x]:=by
 unfold q6o;rw [h,cond_true];by_cases h0:0≤x.2.2.1
 ·rw [if_pos h0];by_cases h1:x.2.2.1<Ts.length
  ·rw [if_pos ⟨h0,h1⟩]
  ·rw [if_neg (fun h=>h1 h.2),jf (by omega)];rfl
 ·rw [if_neg h0,if_neg (fun h=>h0 h.1)]
theorem qse (nb b b2:Bool) (Ts:List (List ND)) (hT:Ts.length≤10000) (hj:∀T,T∈Ts→T.length≤4000) (a:List ND) (ha:a.length≤10000):f_e9 (⟨nb,bl b 0 Ts⟩,⟨b2,a⟩,())=some (a.foldl (appV Ts) ⟨true,[]⟩,()):=by
 rw [u_e9];refine q1z l1_e9 (fun k s=>(⟨nb,bl b 0 Ts⟩,⟨b2,a⟩,lenI a,k,s,())) a (appV Ts) (fun s=>(s,())) (fun k s=>k≤a.length∧s.l.length≤k*4000) ⟨true,[]⟩ ⟨Nat.zero_le _,Nat.le_refl _⟩ ?_ ?_
 ·intro k x s hx hi;obtain ⟨ns,sl⟩:=s;have h2:sl.length≤k*4000:=hi.2;have hk:=getL hx;have ho:=ix15 nb b Ts (by omega) x;have hq:=ql7 Ts hj x;have hc:=add1 (show k≤1000000000 by omega);have hl:∀m:List ND,m.length≤4000→fit (sumI (lenI sl) (lenI m))=some ():=fun m hm=>qpj (by show (sl.length:Int)+(m.length:Int)≤_;omega);refine ⟨?_,hk,by show (sl++q6o Ts x).length≤_;rw [zp];omega⟩;have hs:=hl [x] (by show 1≤_;omega);obtain ⟨kd,t,n,c⟩:=x;unfold l1_e9;simp only [ltG hx,q02,q05 hx,q00,ho,hs];cases hn:eqI kd 31 with
  |false=>
   have hv:q6o Ts (kd,t,n,c)=[(kd,t,n,c)]:=by unfold q6o;simp only [hn,cond_false]
   unfold appV;rw [hv];simp only [nF,q02,q00,hc];rfl
  |true=>
   have hv:=qf0 Ts (kd,t,n,c) hn;by_cases he:0≤n∧n<(Ts.length:Int)
   ·rw [if_pos he] at hv;have hf:ltI n 0=false:=zB (by omega);obtain ⟨T,hg⟩:∃T,Ts[n.toNat]?=some T:=⟨_,zh (by omega)⟩;have hb:at? (bl b 0 Ts) n=some (n,⟨b,T⟩):=by
     have h5:(bl b 0 Ts)[n.toNat]?=some (n,⟨b,T⟩):=by rw [qw2,hg];show some (((0+n.toNat:Nat):Int),_)=_;rw [show ((0+n.toNat:Nat):Int)=n by omega]
     have:=q05 h5;rw [Int.toNat_of_nonneg he.1] at this;exact this
    rw [hg] at hv;have hv:q6o Ts (kd,t,n,c)=T:=hv;have ht:=hl T (hj T (zn hg));unfold appV;rw [hv,if_pos he];simp only [nT,q01,q00,hf,hb,ht,hc];rfl
   ·rw [if_neg he] at hv;have hf:ltI (-1) 0=true:=id (Eq.refl _);unfold appV;rw [hv,if_neg he];simp only [nT,q01,q02,q00,hf,hc];rfl
 ·intro s _;unfold l1_e9;simp only [ltE,q01]
theorem z31 (nb b b2:Bool) (Ts:List (List ND)) (hT:Ts.length≤10000) (hy:∀T,T∈Ts→T.length≤4000) (a:List ND) (i:Nat) (hi:i≤1000000) (x:ND) (hx:a[i]?=some x) (s:Sl ND) (hs:s.l.length≤40000000):∀(k:Nat) (z:Int),k≤Ts.length→(z=-1∨(eqI x.1 31=true∧z=x.2.2.1∧(k:Int)≤z∧z<Ts.length))→(eqI x.1 31=true→(Ts.length:Int)>x.2.2.1→(k:Int)≤x.2.2.1→z=x.2.2.1)→loopR l1_c5 (⟨nb,bl b 0 Ts⟩,⟨b2,a⟩,(i:Int),z,(k:Int)-1,s,())=some (.inl (⟨nb,bl b 0 Ts⟩,⟨b2,a⟩,((i+1:Nat):Int),appV Ts s x,())):=by
 have hg:=add1 (show i≤1000000000 by omega);have hn:=q05 hx;have ht:∀m:List ND,m.length≤4000→fit (sumI (lenI s.l) (lenI m))=some ():=fun m hm=>qpj (by show (s.l.length:Int)+(m.length:Int)≤_;omega);have hA:=ht [x] (by show 1≤_;omega);have hu:∀j:Nat,(hj:j<Ts.length)→at? (bl b 0 Ts) (j:Int)=some ((j:Int),⟨b,Ts[j]⟩):=fun j hj=>q05 (by rw [qw2,zh hj,zN];rfl)
 have fin:∀(z:Int) (k':Int),(cnd (leI 0 k') (bnd (at? a (i:Int)) (fun x2=>some (eqI x2.1 31))) (some false):Option Bool)=some false→(z=-1∧(eqI x.1 31=true→¬(0≤x.2.2.1∧x.2.2.1<Ts.length))∨(eqI x.1 31=true∧z=x.2.2.1∧0≤z∧z<Ts.length))→
   l1_c5 (⟨nb,bl b 0 Ts⟩,⟨b2,a⟩,(i:Int),z,k',s,())=some (.inr (.inl (⟨nb,bl b 0 Ts⟩,⟨b2,a⟩,((i+1:Nat):Int),appV Ts s x,()))):=by
  intro z k' hc hz;unfold l1_c5;simp only [hc,q00,q01];rcases hz with ⟨h1,h2⟩|⟨h1,h2,h3,h4⟩
  ·have ho:ltI z 0=true:=zA (by omega);have hv:q6o Ts x=[x]:=by
    cases hf:eqI x.1 31 with
    |false=>unfold q6o;rw [hf];rfl
    |true=>rw [qf0 Ts x hf,if_neg (h2 hf)]
   unfold appV;rw [hv];simp only [ho,q02,hn,q00,hA,hg];rfl
  ·have ho:ltI z 0=false:=zB (by omega);have hj:z.toNat<Ts.length:=by omega
   have hb:=hu z.toNat hj;rw [Int.toNat_of_nonneg h3] at hb;have hv:q6o Ts x=Ts[z.toNat]:=by rw [qf0 Ts x h1,if_pos ⟨by omega,by omega⟩,←h2,zh hj];rfl
   have hB:=ht Ts[z.toNat] (hy _ (List.getElem_mem hj));unfold appV;rw [hv];simp only [ho,q01,hb,q00,hB,hg];rfl
 intro k
 induction k with
 |zero=>
  intro z _ hz hq;refine q0b (fin z _ rfl ?_);rcases hz with h|⟨h1,h2,h3,h4⟩
  ·refine .inl ⟨h,fun hf hC=>?_⟩;have:=hq hf hC.2 (by omega);omega
  ·exact .inr ⟨h1,h2,by omega,h4⟩
 |succ k ih=>
  intro z hk hz hq;have h0:leI 0 (((k+1:Nat):Int)-1)=true:=zA (by omega);cases hf:eqI x.1 31 with
  |false=>
   refine q0b (fin z _ ?_ ?_)
   ·rw [h0,q02,hn,q00,hf]
   ·rcases hz with h|⟨h1,_⟩
    ·exact .inl ⟨h,fun e=>by rw [hf] at e;cases e⟩
    ·rw [hf] at h1;cases h1
  |true=>
   have hb:=hu k (by omega);have hD:((k+1:Nat):Int)-1=(k:Int):=by omega
   have hl:subI .i64 (k:Int) 1=(k:Int)-1:=q3j (by omega) (by omega);have hw:leI 0 (k:Int)=true:=zA (by omega);rw [hD];by_cases he:(k:Int)=x.2.2.1
   ·have step:l1_c5 (⟨nb,bl b 0 Ts⟩,⟨b2,a⟩,(i:Int),z,(k:Int),s,())=some (.inl (⟨nb,bl b 0 Ts⟩,⟨b2,a⟩,(i:Int),(k:Int),(k:Int)-1,s,())):=by unfold l1_c5;simp only [hw,q02,hn,q00,hf,hb];rw [←he,q1j];simp only [q02,q00,hl]
    rw [q0h step];exact ih (k:Int) (by omega) (.inr ⟨hf,he,Int.le_refl _,by omega⟩) (fun _ _ _=>he)
   ·have step:l1_c5 (⟨nb,bl b 0 Ts⟩,⟨b2,a⟩,(i:Int),z,(k:Int),s,())=some (.inl (⟨nb,bl b 0 Ts⟩,⟨b2,a⟩,(i:Int),z,(k:Int)-1,s,())):=by unfold l1_c5;simp only [hw,q02,hn,q00,hf,hb,q2u he,q01,hl]
    rw [q0h step];refine ih z (by omega) ?_ (fun e1 e2 e3=>hq e1 e2 (by omega));rcases hz with h|⟨h1,h2,h3,h4⟩
    ·exact .inl h
    ·exact .inr ⟨h1,h2,by omega,h4⟩
theorem qnj (nb b b2:Bool) (Ts:List (List ND)) (hT:Ts.length≤10000) (he:∀T,T∈Ts→T.length≤4000) (a:List ND) (ha:a.length≤10000):f_c5 (⟨nb,bl b 0 Ts⟩,⟨b2,a⟩,())=some (a.foldl (appV Ts) ⟨false,[]⟩,()):=by
 rw [u_c5];refine q1z l2_c5 (fun k s=>(⟨nb,bl b 0 Ts⟩,⟨b2,a⟩,k,s,())) a (appV Ts) (fun s=>(s,())) (fun k s=>k≤a.length∧s.l.length≤k*4000) ⟨false,[]⟩ ⟨Nat.zero_le _,Nat.le_refl _⟩ ?_ ?_
 ·intro k x s hx hi;obtain ⟨ns,sl⟩:=s;have h2:sl.length≤k*4000:=hi.2;have hk:=getL hx;have hf:=ql7 Ts he x;refine ⟨?_,hk,by show (sl++q6o Ts x).length≤_;rw [zp];omega⟩;have hg:lenI (bl b 0 Ts)=(Ts.length:Int):=by unfold lenI;rw [ql6]
  have hc:subI .i64 (lenI (bl b 0 Ts)) 1=(Ts.length:Int)-1:=by rw [hg];exact q3j (by omega) (by omega)
  unfold l2_c5;simp only [ltG hx,q02,hc];exact z31 nb b b2 Ts hT he a k (by omega) x hx ⟨ns,sl⟩ (by show sl.length≤_;omega) Ts.length (-1) (Nat.le_refl _) (.inl rfl) (fun _ e1 e2=>by omega)
 ·intro s _;unfold l2_c5;simp only [ltE,q01]
end Fn
end Ev

namespace Ev
open Go
namespace Fn
def q1e (k:Int) (t:Tx) (c:Int) (d:DD):Bool:=eqI k 32&&(eqS d.1 t&&eqI d.2.1 c)
def conV (L:List DD) (k:Int) (t:Tx) (c:Int) (con:Tx):Option CT:=(L.find? (q1e k t c)).bind fun d=>d.2.2.l.find? fun x=>eqS x.1 con
def argT (Ts:List (List ND)) (a:List ND):List ND:=bif ltI 4000 (lenI (q6p Ts a)) then [(31,[],0,0)] else q6p Ts a
def argS (b:Bool) (Ts:List (List ND)) (a:SN):SN:=bif ltI 4000 (lenI (a.l.foldl (appV Ts) ⟨b,[]⟩).l) then ⟨false,[(31,[],0,0)]⟩ else a.l.foldl (appV Ts) ⟨b,[]⟩
theorem ql8 (b:Bool) (Ts:List (List ND)) (a:SN):(argS b Ts a).l=argT Ts a.l:=by
 have h:=z4e Ts a.l ⟨b,[]⟩;rw [show ([]:List ND)++q6p Ts a.l=q6p Ts a.l from rfl] at h;unfold argS argT;rw [h];cases ltI 4000 (lenI (q6p Ts a.l)) with
 |true=>rfl
 |false=>exact h
theorem qw3 (s:Sl DD) (hL:s.l.length≤1000) (t:SN) (x:ND) (hx:t.l[0]?=some x):f_dg (s,t,())=some (ixP (q1e x.1 x.2.1 x.2.2.2) 0 s.l,()):=by
 have h0:at? t.l 0=some x:=q05 (i:=0) hx;rw [u_dg];refine q2i l1_dg (fun k=>(s,t,lenI s.l,k,())) (fun z=>(z,())) s.l (by omega) (q1e x.1 x.2.1 x.2.2.2) ?_ ?_
 ·intro k d hd hk;obtain ⟨n,p,cs⟩:=d;unfold l1_dg q1e;simp only [ltG hd,q02,q05 hd,q00,u_b7,h0,add1 (show k≤1000000000 by omega)];cases eqI x.1 32<;>cases eqS n x.2.1<;>cases eqI p x.2.2.2<;>rfl
 ·unfold l1_dg;simp only [ltE,q01]
theorem qw4 (cs:Sl CT) (hc:cs.l.length≤1000000) (con:Tx):f_dh (cs,con,())=some (ixP (fun c:CT=>eqS c.1 con) 0 cs.l,()):=by
 rw [u_dh];refine q2i l1_dh (fun k=>(cs,con,lenI cs.l,k,())) (fun z=>(z,())) cs.l hc (fun c:CT=>eqS c.1 con) ?_ ?_
 ·intro k c hx hk;obtain ⟨n,as⟩:=c;unfold l1_dh;simp only [ltG hx,q02,q05 hx,q00,u_b5,add1 (show k≤1000000000 by omega)];cases eqS n con<;>rfl
 ·unfold l1_dh;simp only [ltE,q01]
theorem ql9 {α:Type} {p:α→Bool} {l:List α} (h:l.any p=false):l.find? p=none:=by rw [List.find?_eq_none];intro x hx hp;have:=zJ.2 ⟨x,hx,hp⟩;rw [h] at this;cases this
theorem q4w (s:Sl DD) (hL:s.l.length≤1000) (t:SN) (x:ND) (hx:t.l[0]?=some x) {d:DD} (h:s.l.find? (q1e x.1 x.2.1 x.2.2.2)=some d):f_b6 (s,t,())=some (d,true,()):=by
 have ha:s.l.any (q1e x.1 x.2.1 x.2.2.2)=true:=by
  cases hb:s.l.any (q1e x.1 x.2.1 x.2.2.2) with
  |true=>rfl
  |false=>rw [ql9 hb] at h;cases h
 obtain ⟨i,y,h1,h2,h3,h4⟩:=q9z (q1e x.1 x.2.1 x.2.2.2) s.l 0 ha;rw [h4] at h;injection h with h;subst h;rw [zN] at h1;have hc:ltI (i:Int) 0=false:=zB (by omega);rw [u_b6,qw3 s hL t x hx,q00];simp only [h1,hc,q01,q05 h2,q00]
theorem q7k (s:Sl DD) (hL:s.l.length≤1000) (t:SN) (x:ND) (hx:t.l[0]?=some x) (h:s.l.find? (q1e x.1 x.2.1 x.2.2.2)=none):f_b6 (s,t,())=some (([],0,⟨true,[]⟩),false,()):=by
 have ha:s.l.any (q1e x.1 x.2.1 x.2.2.2)=false:=by
  cases hb:s.l.any (q1e x.1 x.2.1 x.2.2.2) with
  |false=>rfl
  |true=>obtain ⟨i,y,_,_,_,h4⟩:=q9z (q1e x.1 x.2.1 x.2.2.2) s.l 0 hb;rw [h4] at h;cases h
 have hc:ltI (-1) 0=true:=id (Eq.refl _);rw [u_b6,qw3 s hL t x hx,q00,qpt _ _ _ ha];simp only [hc,q02]
theorem qw5 (b:Bool) (T:List ND):∀(l:List (List ND)) (i:Nat),bl b i (l++[T])=bl b i l++[(((i+l.length:Nat):Int),⟨b,T⟩)]
 |[],i=>by show [((i:Int),_)]=[(((i+0:Nat):Int),_)];rw [Nat.add_zero]
 |U::r,i=>by show _::bl b (i+1) (r++[T])=_::(bl b (i+1) r++_);rw [qw5 b T r (i+1),zw,show i+1+r.length=i+(r.length+1) by omega]
theorem qw6 (b:Bool) {Ts:List (List ND)} {k:Nat} {T:List ND} (h:Ts[k]?=some T):bl b 0 (Ts.take (k+1))=bl b 0 (Ts.take k)++[((k:Int),⟨b,T⟩)]:=by have hk:=getL h;rw [List.take_add_one,h];show bl b 0 (Ts.take k++[T])=_;rw [qw5,zU,Nat.min_eq_left (by omega),zN]
theorem qa2 {ks:F} {n:Nat} (h:ks.size≤n):∀T,T∈ks.trees→T.length≤n:=by intro T hT;have:=(List.sublist_flatten_of_mem hT).length_le;rw [F.trees_flat,F.len] at this;omega
theorem z32 (nb b:Bool) (Ts:List (List ND)) (hT:Ts.length≤10000) (hf:∀T,T∈Ts→T.length≤4000) (as:Sl SN) (ha:as.l.length≤1000) (hg:∀a,a∈as.l→gA a):loopR l1_b4 (⟨nb,bl b 0 Ts⟩,as,lenI as.l,0,⟨true,[]⟩,())=some (.inr (⟨true&&as.l.isEmpty,as.l.map (argS true Ts)⟩,true,())):=by
 refine (q1z l1_b4 (fun k a=>(⟨nb,bl b 0 Ts⟩,as,lenI as.l,k,a,())) as.l (fun (a:Sl SN) x=>(⟨false,a.l++[argS true Ts x]⟩:Sl SN)) (fun a=>.inr (a,true,())) (fun k a=>k≤as.l.length∧a.l.length=k) ⟨true,[]⟩ ⟨Nat.zero_le _,rfl⟩ ?_ ?_).trans ?_
 ·intro k x a hx hi;obtain ⟨na,al⟩:=a;have h2:al.length=k:=hi.2;have hk:=getL hx;obtain ⟨bx,lx⟩:=x;have hj:=(hg _ (zn hx)).2;have hl:=qse nb b bx Ts hT hf lx hj;have hc:∀y:SN,fit (sumI (lenI al) (lenI [y]))=some ():=fun y=>q0g (by show al.length+1≤_;omega);refine ⟨?_,hk,by show (al++[_]).length=_;rw [zp,h2];rfl⟩;have he:=add1 (show k≤1000000000 by omega);unfold l1_b4 argS;simp only [ltG hx,q02,q05 hx,q00,hl];cases ltI 4000 (lenI (lx.foldl (appV Ts) ⟨true,[]⟩).l)<;>simp only [q02,q01,q00,hc,q13,he,cond_true,cond_false]<;>rfl
 ·intro a _;unfold l1_b4;simp only [ltE,q01]
 ·rw [q8d];rfl
theorem qla (s:Sl DD) (hL:GD s.l) (b:Bool) (k:Int) (t:Tx) (n:Int) (ks:F) (_hs:ks.size+1≤10000) (con:Tx) (h:conV s.l k t (ks.cnt:Int) con=none):f_b4 (s,⟨b,(tr k t n ks).flat⟩,con,())=some (⟨true,[]⟩,false,()):=by
 have hx:(⟨b,(tr k t n ks).flat⟩:SN).l[0]?=some (k,t,n,(ks.cnt:Int)):=rfl;rw [u_b4];cases hd:s.l.find? (q1e k t (ks.cnt:Int)) with
 |none=>rw [q7k s hL.1 _ _ hx hd,q00];simp only [qw4 ⟨true,[]⟩ (Nat.zero_le _) con,q00,nF,q02]
 |some d=>
  have hc:=zK hd;rw [q4w s hL.1 _ _ hx hd,q00];unfold conV at h;rw [hd] at h;have h:d.2.2.l.find? (fun x=>eqS x.1 con)=none:=h;have ha:d.2.2.l.any (fun c:CT=>eqS c.1 con)=false:=by
   cases hb:d.2.2.l.any (fun c:CT=>eqS c.1 con) with
   |false=>rfl
   |true=>obtain ⟨i,y,_,_,_,h4⟩:=q9z (fun c:CT=>eqS c.1 con) d.2.2.l 0 hb;rw [h4] at h;cases h
  have he:ltI (-1) 0=true:=id (Eq.refl _);have g2:=(hL.2 d hc).2.1;simp only [qw4 d.2.2 (by omega) con,q00,qpt _ _ _ ha,he,nT,q01,q02]
theorem qlb (s:Sl DD) (hL:GD s.l) (b:Bool) (k:Int) (t:Tx) (n:Int) (ks:F) (hs:ks.size+1≤4000) (con:Tx) (c:CT) (h:conV s.l k t (ks.cnt:Int) con=some c):f_b4 (s,⟨b,(tr k t n ks).flat⟩,con,())=some (⟨true&&c.2.l.isEmpty,c.2.l.map (argS true ks.trees)⟩,true,()):=by
 have hx:(⟨b,(tr k t n ks).flat⟩:SN).l[0]?=some (k,t,n,(ks.cnt:Int)):=rfl;have hl:(tr k t n ks).flat.length≤10000:=by rw [q27];omega
 have hm:=q6l k t n ks;obtain ⟨nb,hc⟩:=qkw b _ hl hm;have hc:f_e5 (⟨b,(tr k t n ks).flat⟩,0,())=some (⟨nb,ks.pos (0+1)⟩,()):=hc;have ht:=qq4 hl ks 1 hm.node.2.1 (by rw [q27];omega);have hu:=F.cnt_le ks;have hA:=F.trees_len ks;rw [u_b4];unfold conV at h;cases hd:s.l.find? (q1e k t (ks.cnt:Int)) with
 |none=>rw [hd] at h;cases h
 |some d=>
  rw [hd] at h;have h:d.2.2.l.find? (fun x=>eqS x.1 con)=some c:=h;have hg:=zK hd;obtain ⟨g1,g2,g3⟩:=hL.2 d hg;have ha:d.2.2.l.any (fun c:CT=>eqS c.1 con)=true:=by
   cases hb:d.2.2.l.any (fun c:CT=>eqS c.1 con) with
   |true=>rfl
   |false=>rw [ql9 hb] at h;cases h
  obtain ⟨i,y,h1,h2,h3,h4⟩:=q9z (fun c:CT=>eqS c.1 con) d.2.2.l 0 ha;rw [h4] at h;injection h with h;subst h
  rw [zN] at h1;obtain ⟨q1,q2,q3⟩:=g3 y (zn h2);have hw:ltI (i:Int) 0=false:=zB (by omega);rw [q4w s hL.1 _ _ hx hd,q00];simp only [qw4 d.2.2 (by omega) con,q00,h1,hw,nT,q01,hc];refine (q1z l2_b4 (fun v a=>(⟨b,(tr k t n ks).flat⟩,(i:Int),⟨nb,ks.pos (0+1)⟩,lenI (ks.pos (0+1)),v,d.1,d.2.1,d.2.2,a,())) (ks.ents 1)
   (fun (a:Sl (Int×SN)) e=>(⟨false,a.l++[((a.l.length:Int),⟨b,e.2⟩)]⟩:Sl (Int×SN))) (fun _=>(⟨true&&y.2.l.isEmpty,y.2.l.map (argS true ks.trees)⟩,true,())) (fun v a=>v≤ks.cnt∧a.l=bl b 0 (ks.trees.take v)) ⟨true,[]⟩ ⟨Nat.zero_le _,rfl⟩ ?_ ?_)
  ·intro v e a hv hi;obtain ⟨na,al⟩:=a;have hf:al=bl b 0 (ks.trees.take v):=hi.2;have hp:(ks.pos (0+1))[v]?=some e.1:=by rw [←F.ents_pos];exact getM hv
   have hn:ks.trees[v]?=some e.2:=by rw [←F.ents_trees ks 1];exact getM hv
   have hB:=getL hn;have ho:=ht e (zn hv);have he:al.length=v:=by rw [hf,ql6,zU];omega
   have hj:∀z:Int×SN,fit (sumI (lenI al) (lenI [z]))=some ():=fun z=>q0g (by show al.length+1≤_;omega);refine ⟨?_,by omega,?_⟩
   ·unfold l2_b4;simp only [ltG hp,q02,q05 hp,q00,ho.ends b,ho.cut,hj,q13,he,add1 (show v≤1000000000 by omega)];rfl
   ·show al++[((al.length:Int),(⟨b,e.2⟩:SN))]=_;rw [qw6 b hn,he,hf]
  ·intro a hi;obtain ⟨na,al⟩:=a;have hy:(ks.ents 1).length=(ks.pos (0+1)).length:=by rw [←F.ents_pos ks 1,zm]
   have hz:(ks.ents 1).length=ks.trees.length:=by rw [←F.ents_trees ks 1,zm]
   have hf:al=bl b 0 ks.trees:=by have:=hi.2;rw [hz,List.take_length] at this;exact this
   have hq:=z32 na b ks.trees (by omega) (fun T hT=>by have:=qa2 (Nat.le_refl ks.size) T hT;omega) y.2 q2 q3;rw [←hf] at hq;unfold l2_b4;simp only [hy,ltE,q01,q05 h2,q00,hq]
end Fn
end Ev

namespace Ev
open Go
namespace Fn
theorem qzw {l:List ND} {e:Int×List ND} (h:z4d l e) (he:e.2.length≤1000000) (b:Bool):f_bz (⟨b,l⟩,e.1,())=some (⟨false,e.2⟩,()):=by have hf:fit (sumI (lenI ([]:List ND)) (lenI e.2))=some ():=q0g (by show 0+e.2.length≤_;omega);rw [u_bz,h.rends b,q00,h.cut,q00,hf,q00];rfl
theorem qzx (s:Sl DD) (nb b:Bool) (Ts:List (List ND)) (hT:Ts.length≤10000) (hj:∀T,T∈Ts→T.length≤4000) {i j:Nat} {d:DD} {c:CT} (hd:s.l[i]?=some d) (hc:d.2.2.l[j]?=some c) (ha:c.2.l.length≤1000) (hg:∀a,a∈c.2.l→gA a):loopR l5_c9 (s,⟨nb,bl b 0 Ts⟩,(i:Int),(j:Int),0,⟨false,[]⟩,())=some (.inr (.inr (.inr (.inr (⟨false,c.2.l.map (argS false Ts)⟩,true,()))))):=by
 refine (q1z l5_c9 (fun k a=>(s,⟨nb,bl b 0 Ts⟩,(i:Int),(j:Int),k,a,())) c.2.l (fun (a:Sl SN) x=>(⟨false,a.l++[argS false Ts x]⟩:Sl SN)) (fun a=>.inr (.inr (.inr (.inr (a,true,()))))) (fun k a=>k≤c.2.l.length∧a.l.length=k) ⟨false,[]⟩ ⟨Nat.zero_le _,rfl⟩ ?_ ?_).trans ?_
 ·intro k x a hx hi;obtain ⟨na,al⟩:=a;have h2:al.length=k:=hi.2;have hk:=getL hx;obtain ⟨bx,lx⟩:=x;have hl:=(hg _ (zn hx)).2;have hm:=qnj nb b bx Ts hT hj lx hl;have he:∀y:SN,fit (sumI (lenI al) (lenI [y]))=some ():=fun y=>q0g (by show al.length+1≤_;omega);refine ⟨?_,hk,by show (al++[_]).length=_;rw [zp,h2];rfl⟩;have hf:=add1 (show k≤1000000000 by omega);unfold l5_c9 argS;simp only [q05 hd,q05 hc,ltG hx,q02,q05 hx,q00,hm];cases ltI 4000 (lenI (lx.foldl (appV Ts) ⟨false,[]⟩).l)<;>simp only [q02,q01,q00,he,q13,hf,cond_true,cond_false]<;>rfl
 ·intro a _;unfold l5_c9;simp only [q05 hd,q05 hc,q00,ltE,q01]
 ·rw [q8d];rfl
theorem qlc {α ρ:Type} (p:α→Bool) (g:α→ρ) (R:ρ) (l:List α) (k:Nat):scan (fun _ x=>bif p x then some (g x) else none) R k l=match l.find? p with|some x=>g x|none=>R:=by
 induction l generalizing k with
 |nil=>rfl
 |cons x r ih=>
  unfold scan;rw [List.find?_cons];cases p x with
  |false=>exact ih (k+1)
  |true=>rfl
theorem qw7 (s:Sl DD) (hL:GD s.l) (t:SN) (con:Tx) (nb b:Bool) (Ts:List (List ND)) (hT:Ts.length≤10000) (he:∀T,T∈Ts→T.length≤4000) {i:Nat} {d:DD} (hd:s.l[i]?=some d):loopR l6_c9 (s,t,con,⟨nb,bl b 0 Ts⟩,(i:Int),0,())=some (match d.2.2.l.find? (fun c:CT=>eqS c.1 con) with|some c=>.inr (.inr (.inr (⟨false,c.2.l.map (argS false Ts)⟩,true,())))|none=>.inl (s,t,con,⟨nb,bl b 0 Ts⟩,(i:Int),())):=by
 obtain ⟨g1,g2,g3⟩:=hL.2 d (zn hd);refine (q10 l6_c9 (fun k=>(s,t,con,⟨nb,bl b 0 Ts⟩,(i:Int),k,())) d.2.2.l (by omega) (fun _ c=>bif eqS c.1 con then some (.inr (.inr (.inr (⟨false,c.2.l.map (argS false Ts)⟩,true,())))) else none) (.inl (s,t,con,⟨nb,bl b 0 Ts⟩,(i:Int),())) ?_ ?_).trans ?_
 ·intro j c hc hj;obtain ⟨q1,q2,q3⟩:=g3 c (zn hc);unfold l6_c9;simp only [q05 hd,ltG hc,q02,q05 hc,q00,qzx s nb b Ts hT he hd hc q2 q3,add1 (show j≤1000000000 by omega)];cases eqS c.1 con<;>rfl
 ·unfold l6_c9;simp only [q05 hd,q00,ltE,q01]
 ·rw [qlc];cases d.2.2.l.find? (fun c:CT=>eqS c.1 con)<;>rfl
theorem qsf (s:Sl DD) (hL:GD s.l) (t:SN) (x:ND) (hx:t.l[0]?=some x) (con:Tx) (nb b:Bool) (Ts:List (List ND)) (hT:Ts.length≤10000) (hf:∀T,T∈Ts→T.length≤4000):loopR l7_c9 (s,t,con,⟨nb,bl b 0 Ts⟩,0,())=some (scan (fun _ d=>bif q1e x.1 x.2.1 x.2.2.2 d then (match d.2.2.l.find? (fun c:CT=>eqS c.1 con) with|some c=>some (.inr (⟨false,c.2.l.map (argS false Ts)⟩,true,()))|none=>none) else none) (.inr (⟨true,[]⟩,false,())) 0 s.l):=by
 have h0:at? t.l 0=some x:=q05 (i:=0) hx;refine q10 l7_c9 (fun k=>(s,t,con,⟨nb,bl b 0 Ts⟩,k,())) s.l (by have:=hL.1;omega) _ _ ?_ ?_
 ·intro i d hd hi;have he:=add1 (show i≤1000000000 by omega);have hc:=qw7 s hL t con nb b Ts hT hf hd;unfold l7_c9 q1e;simp only [ltG hd,q02,q05 hd,h0,q00,hc];cases eqI x.1 32 with
  |false=>simp only [nF,q02,q00,Bool.false_and,cond_false];exact congrArg (fun z:Int=>some (Sum.inl (s,t,con,(⟨nb,bl b 0 Ts⟩:Sl (Int×SN)),z,()))) he
  |true=>
   cases eqS d.1 x.2.1 with
   |false=>simp only [nF,nT,q02,q01,q00,Bool.true_and,Bool.false_and,cond_false];exact congrArg (fun z:Int=>some (Sum.inl (s,t,con,(⟨nb,bl b 0 Ts⟩:Sl (Int×SN)),z,()))) he
   |true=>
    cases eqI d.2.1 x.2.2.2 with
    |false=>simp only [nF,nT,q02,q01,q00,Bool.true_and,cond_false];exact congrArg (fun z:Int=>some (Sum.inl (s,t,con,(⟨nb,bl b 0 Ts⟩:Sl (Int×SN)),z,()))) he
    |true=>
     simp only [nT,q01,q00,Bool.true_and,cond_true];cases d.2.2.l.find? (fun c:CT=>eqS c.1 con) with
     |none=>exact congrArg (fun z:Int=>some (Sum.inl (s,t,con,(⟨nb,bl b 0 Ts⟩:Sl (Int×SN)),z,()))) he
     |some c=>rfl
 ·unfold l7_c9;simp only [ltE,q01]
theorem qw8 {n:Tx} {l:List Tx} (h:dupL (n::l)=false):n∉l∧dupL l=false:=by unfold dupL at h;rw [Bool.or_eq_false_iff] at h;exact ⟨of_decide_eq_false h.1,h.2⟩
theorem qld {ρ:Type} (k:Int) (t:Tx) (c:Int) (con:Tx) (g:CT→ρ) (R:ρ):∀(L:List DD) (i:Nat),dupL (L.map fun d=>d.1)=false→scan (fun _ d=>bif q1e k t c d then (match d.2.2.l.find? (fun c:CT=>eqS c.1 con) with|some c=>some (g c)|none=>none) else none) R i L=match conV L k t c con with|some c=>g c|none=>R
 |[],_,_=>rfl
 |d::r,i,h=>by
  obtain ⟨h1,h2⟩:=qw8 h;have ih:=qld k t c con g R r (i+1) h2;unfold scan conV;rw [List.find?_cons];cases hd:q1e k t c d with
  |false=>simp only [cond_false];exact ih
  |true=>
   simp only [cond_true,Option.bind_some];cases hc:d.2.2.l.find? (fun x=>eqS x.1 con) with
   |some c=>rfl
   |none=>
    simp only;refine ih.trans ?_
    have hn:r.find? (q1e k t c)=none:=by rw [List.find?_eq_none];intro d2 hm hp;refine h1 (zR.2 ⟨d2,hm,?_⟩);unfold q1e at hd hp;simp only [zd] at hd hp;exact (eqS_eq.1 hp.2.1).trans (eqS_eq.1 hd.2.1).symm
    unfold conV;rw [hn];rfl
theorem qsg (s:Sl DD) (hL:GD s.l) (hn:dupL (s.l.map fun d=>d.1)=false) (b:Bool) (k:Int) (t:Tx) (n:Int) (ks:F) (hs:ks.size+1≤4000) (con:Tx):f_c9 (s,⟨b,(tr k t n ks).flat⟩,con,())=some (match conV s.l k t (ks.cnt:Int) con with|some c=>(⟨false,c.2.l.map (argS false ks.trees)⟩,true,())|none=>(⟨true,[]⟩,false,())):=by
 have hx:(⟨b,(tr k t n ks).flat⟩:SN).l[0]?=some (k,t,n,(ks.cnt:Int)):=rfl;have hm:(tr k t n ks).flat.length≤10000:=by rw [q27];omega
 have ho:=q6l k t n ks;have hc:=qc7 b _ hm ho;have hc:f_bx (⟨b,(tr k t n ks).flat⟩,0,())=some (⟨false,ks.pos (0+1)⟩,()):=hc;have hu:=qq4 hm ks 1 ho.node.2.1 (by rw [q27];omega);have hw:=F.cnt_le ks;have hB:=F.trees_len ks;have hq:∀T,T∈ks.trees→T.length≤4000:=fun T hT=>by have:=qa2 (Nat.le_refl ks.size) T hT;omega
 rw [u_c9,hc,q00];refine (q1z l8_c9 (fun v a=>(s,⟨b,(tr k t n ks).flat⟩,con,⟨false,ks.pos (0+1)⟩,v,a,())) (ks.ents 1)
   (fun (a:Sl (Int×SN)) e=>(⟨false,a.l++[((a.l.length:Int),⟨false,e.2⟩)]⟩:Sl (Int×SN))) (fun _=>match conV s.l k t (ks.cnt:Int) con with|some c=>(⟨false,c.2.l.map (argS false ks.trees)⟩,true,())|none=>(⟨true,[]⟩,false,())) (fun v a=>v≤ks.cnt∧a.l=bl false 0 (ks.trees.take v)) ⟨false,[]⟩ ⟨Nat.zero_le _,rfl⟩ ?_ ?_)
 ·intro v e a hv hi;obtain ⟨na,al⟩:=a;have hf:al=bl false 0 (ks.trees.take v):=hi.2;have hp:(ks.pos (0+1))[v]?=some e.1:=by rw [←F.ents_pos];exact getM hv
  have hg:ks.trees[v]?=some e.2:=by rw [←F.ents_trees ks 1];exact getM hv
  have hC:=getL hg;have hy:=hu e (zn hv);have hj:=qzw hy (by have:=hq e.2 (zn hg);omega) b;have he:al.length=v:=by rw [hf,ql6,zU];omega
  have hl:∀z:Int×SN,fit (sumI (lenI al) (lenI [z]))=some ():=fun z=>q0g (by show al.length+1≤_;omega);refine ⟨?_,by omega,?_⟩
  ·unfold l8_c9;simp only [ltG hp,q02,q05 hp,q00,hj,hl,q13,he,add1 (show v≤1000000000 by omega)];rfl
  ·show al++[((al.length:Int),(⟨false,e.2⟩:SN))]=_;rw [qw6 false hg,he,hf]
 ·intro a hi;obtain ⟨na,al⟩:=a;have hz:(ks.ents 1).length=(ks.pos (0+1)).length:=by rw [←F.ents_pos ks 1,zm]
  have hA:(ks.ents 1).length=ks.trees.length:=by rw [←F.ents_trees ks 1,zm]
  have hf:al=bl false 0 ks.trees:=by have:=hi.2;rw [hA,List.take_length] at this;exact this
  have ht:=qsf s hL ⟨b,(tr k t n ks).flat⟩ _ hx con na false ks.trees (by omega) hq;rw [←hf,qld k t (ks.cnt:Int) con _ _ s.l 0 hn] at ht;unfold l8_c9;simp only [hz,ltE,q01];refine ht.trans ?_;cases conV s.l k t (ks.cnt:Int) con<;>rfl
end Fn
end Ev

namespace Ev
open Go
namespace Fn
theorem qip:∀(f g:F) (x y:List ND),f.flat++x=g.flat++y→f.cnt=g.cnt→f=g∧x=y
 |.nil,.nil,x,y,h,_=>⟨rfl,h⟩
 |.nil,.cons _ _ _ _ _,_,_,_,h=>by cases h
 |.cons _ _ _ _ _,.nil,_,_,_,h=>by cases h
 |.cons k t n ks r,.cons k' t' n' ks' r',x,y,h,hc=>by have h:(k,t,n,(ks.cnt:Int))::((ks.flat++r.flat)++x)=(k',t',n',(ks'.cnt:Int))::((ks'.flat++r'.flat)++y):=h;injection h with h1 h2;injection h1 with e1 h1;injection h1 with e2 h1;injection h1 with e3 e4;rw [zC,zC] at h2;obtain ⟨g1,g2⟩:=qip ks ks' _ _ h2 (by omega);have hc:r.cnt+1=r'.cnt+1:=hc;obtain ⟨g3,g4⟩:=qip r r' _ _ g2 (by omega);subst e1 e2 e3 g1 g3;exact ⟨rfl,g4⟩
theorem qle {k k':Int} {t t':Tx} {n n':Int} {ks ks':F} (h:(tr k t n ks).flat=(tr k' t' n' ks').flat):k=k'∧t=t'∧n=n'∧ks=ks':=by have:=(qip (tr k t n ks) (tr k' t' n' ks') [] [] (by rw [zG,zG];exact h) rfl).1;injection this with h1 h2 h3 h4;exact ⟨h1,h2,h3,h4⟩
open Classical in
noncomputable def qzy (T:List ND):List (List ND):=if h:∃ks:F,∃k t n,T=(tr k t n ks).flat then (Classical.choose h).trees else []
theorem qzz (k:Int) (t:Tx) (n:Int) (ks:F):qzy (tr k t n ks).flat=ks.trees:=by have h:∃ks':F,∃k' t' n',(tr k t n ks).flat=(tr k' t' n' ks').flat:=⟨ks,k,t,n,rfl⟩;unfold qzy;rw [dif_pos h];obtain ⟨k',t',n',e⟩:=Classical.choose_spec h;rw [←(qle e).2.2.2]
def F.kidsF:F→List F
 |.nil=>[]
 |.cons k t n ks r=>tr k t n ks::r.kidsF
theorem F.kidsF_flat:∀f:F,f.kidsF.map F.flat=f.trees
 |.nil=>rfl
 |.cons k t n ks r=>by show _::_=_::_;rw [F.kidsF_flat r]
theorem F.kidsF_len (f:F):f.kidsF.length=f.cnt:=by rw [←F.trees_len,←F.kidsF_flat,zm]
theorem F.kidsF_mem:∀(f:F) (p:F),p∈f.kidsF→∃k t n ks,p=tr k t n ks∧ks.size+1≤f.size
 |.nil,_,h=>by cases h
 |.cons k t n ks r,p,h=>by
  rcases zj.1 h with h|h
  ·exact ⟨k,t,n,ks,h,by show _≤ks.size+r.size+1;omega⟩
  ·obtain ⟨k',t',n',ks',h1,h2⟩:=F.kidsF_mem r p h;exact ⟨k',t',n',ks',h1,by show _≤ks.size+r.size+1;omega⟩
theorem F.app_flat:∀f g:F,(f.app g).flat=f.flat++g.flat
 |.nil,_=>rfl
 |.cons k t n ks r,g=>by show _::(ks.flat++(r.app g).flat)=_::((ks.flat++r.flat)++g.flat);rw [F.app_flat r g,zC]
theorem F.app_cnt:∀f g:F,(f.app g).cnt=f.cnt+g.cnt
 |.nil,g=>(zN _).symm
 |.cons k t n ks r,g=>by show (r.app g).cnt+1=r.cnt+1+g.cnt;rw [F.app_cnt r g];omega
def qf1 (Fs:List F):F→F
 |.nil=>.nil
 |.cons k t n ks r=>(bif eqI k 31 then (if 0≤n then (Fs[n.toNat]?).getD (tr k t n ks) else tr k t n ks) else tr k t n (qf1 Fs ks)).app (qf1 Fs r)
theorem qca (Fs:List F) (hF:∀f,f∈Fs→f.cnt=1):∀f:F,(qf1 Fs f).cnt=f.cnt
 |.nil=>rfl
 |.cons k t n ks r=>by
  have h:(bif eqI k 31 then (if 0≤n then (Fs[n.toNat]?).getD (tr k t n ks) else tr k t n ks) else tr k t n (qf1 Fs ks)).cnt=1:=by
   cases eqI k 31 with
   |false=>rfl
   |true=>
    rw [cond_true];split
    ·cases e:Fs[n.toNat]? with
     |none=>rfl
     |some f=>exact hF f (zn e)
    ·rfl
  unfold qf1;rw [F.app_cnt,h,qca Fs hF r];show 1+r.cnt=r.cnt+1;omega
theorem z00 {x:ND} (h:typN x=true) (hc:eqI x.1 31=true):x.2.2.2=0:=by unfold typN at h;rw [hc,cond_true,zd] at h;exact eqI_eq.1 h.1
theorem qa3 (Fs:List F) (hF:∀f,f∈Fs→f.cnt=1):∀f:F,f.flat.all typN=true→q6p (Fs.map F.flat) f.flat=(qf1 Fs f).flat
 |.nil,_=>rfl
 |.cons k t n ks r,h=>by
  have h:(typN (k,t,n,(ks.cnt:Int))&&(ks.flat++r.flat).all typN)=true:=h;rw [zd,List.all_append,zd] at h;obtain ⟨h1,h2,h3⟩:=h;have i1:=qa3 Fs hF ks h2;have i2:=qa3 Fs hF r h3;unfold qf1;rw [F.app_flat,←i2];show q6p _ ((k,t,n,(ks.cnt:Int))::(ks.flat++r.flat))=_;unfold q6p at*
  rw [List.flatMap_cons,List.flatMap_append,←zC];congr 1;unfold q6o;cases hc:eqI k 31 with
  |false=>simp only [cond_false];rw [show q6o (Fs.map F.flat)=fun x=>q6o (Fs.map F.flat) x from rfl] at i1;unfold q6o at i1;rw [i1,q2c,qca Fs hF];rfl
  |true=>
   have h0:=z00 h1 hc;obtain rfl:=qd9 h0;simp only [cond_true];by_cases hn:0≤n
   ·rw [if_pos hn,if_pos hn,zT];cases Fs[n.toNat]? with
    |none=>rfl
    |some f=>show f.flat++[]=f.flat;rw [zG]
   ·rw [if_neg hn,if_neg hn];rfl
theorem q4x:∀f:F,f.cnt=1→∃k t n ks,f=tr k t n ks
 |.nil,h=>by cases h
 |.cons k t n ks r,h=>by
  have h:r.cnt+1=1:=h;cases r with
  |nil=>exact ⟨k,t,n,ks,rfl⟩
  |cons _ _ _ _ r'=>have h:r'.cnt+1+1=1:=h;omega
theorem q20 (T:List ND):q26 T=true↔T.length≤4000∧T.all typN=true∧∃k t n ks,T=(tr k t n ks).flat:=by unfold q26;rw [zd,zd,decide_eq_true_eq,q6k];exact ⟨fun ⟨a,b,c⟩=>⟨a,c,b⟩,fun ⟨a,c,b⟩=>⟨a,b,c⟩⟩
theorem qw9 {k:Int} {t:Tx} {n:Int} {ks:F} (h:q26 (tr k t n ks).flat=true):∀T,T∈ks.trees→q26 T=true:=by
 intro T hT;obtain ⟨h1,h2,_⟩:=(q20 _).1 h;rw [q27] at h1;have hs:=qa2 (Nat.le_refl ks.size) T hT;rw [←F.kidsF_flat] at hT;obtain ⟨p,hp,e⟩:=zR.1 hT;obtain ⟨k',t',n',ks',hc,_⟩:=F.kidsF_mem ks p hp;refine (q20 T).2 ⟨by omega,?_,⟨k',t',n',ks',by rw [←e,hc]⟩⟩;rw [q2c,List.all_cons,zd] at h2;have hm:∀x,x∈T→x∈ks.flat:=fun x hx=>by rw [←F.trees_flat,←F.kidsF_flat];exact List.mem_flatten.2 ⟨T,zR.2 ⟨p,hp,e⟩,hx⟩
 exact zS.2 fun x hx=>zS.1 h2.2 x (hm x hx)
theorem qda {k:Int} {t:Tx} {n:Int} {ks:F} (h:q26 (tr k t n ks).flat=true) {a:List ND} (ha:q26 a=true):q26 (argT ks.trees a)=true:=by
 unfold argT;cases hb:ltI 4000 (lenI (q6p ks.trees a)) with
 |true=>kernel_rfl
 |false=>
  rw [cond_false];have hb:¬(4000:Int)<((q6p ks.trees a).length:Int):=of_decide_eq_false hb;obtain ⟨a1,a2,k',t',n',ks',e⟩:=(q20 a).1 ha;have hF:∀f,f∈ks.kidsF→f.cnt=1:=fun f hf=>by obtain ⟨_,_,_,_,h1,_⟩:=F.kidsF_mem ks f hf;rw [h1];rfl
  refine (q20 _).2 ⟨by omega,?_,?_⟩
  ·refine zS.2 fun x hx=>?_;obtain ⟨y,hy,hx⟩:=List.mem_flatMap.1 hx;have hc:=zS.1 a2 y hy;unfold q6o at hx;have single:x∈[y]→typN x=true:=fun hx=>by rw [zu] at hx;rw [hx];exact hc
   cases hq:eqI y.1 31 with
   |false=>rw [hq,cond_false] at hx;exact single hx
   |true=>
    rw [hq,cond_true] at hx;split at hx
    ·cases hT:ks.trees[y.2.2.1.toNat]? with
     |none=>rw [hT] at hx;exact single hx
     |some T=>rw [hT] at hx;have:=(q20 T).1 (qw9 h T (zn hT));exact zS.1 this.2.1 x hx
    ·exact single hx
  ·subst e;rw [←F.kidsF_flat,qa3 ks.kidsF hF _ a2];obtain ⟨k2,t2,n2,ks2,e2⟩:=q4x _ (qca ks.kidsF hF (tr k' t' n' ks'));exact ⟨k2,t2,n2,ks2,by rw [e2]⟩
end Fn
end Ev

namespace Ev
open Go
namespace Fn
def hd (T:List ND):ND:=T.headD (0,[],0,0)
noncomputable def q2d (L:List DD) (T:List ND) (con:Tx):Option (List (List ND)):=(conV L (hd T).1 (hd T).2.1 (hd T).2.2.2 con).map fun c=>c.2.l.map fun a=>argT (qzy T) a.l
noncomputable def ofN (L:List DD) (T:List ND) (k:Int) (t:Tx) (c:Nat) (rec:List (List ND)→Bool):Bool:=
 bif eqI k 21||eqI k 22 then true else bif eqI k 23||eqI k 51 then eqS (hd T).2.1 [105,110,116] else bif eqI k 52 then eqS (hd T).2.1 [116,101,120,116] else
  bif eqI k 54 then eqI (hd T).1 31||(eqS (hd T).2.1 [45,62]||eqS (hd T).2.1 [114,101,102]) else
   match q2d L T t with
   |none=>false
   |some As=>decide (As.length=c)&&rec As
noncomputable def ofF (L:List DD):F→List (List ND)→Bool
 |.nil,_=>true
 |.cons _ _ _ _ _,[]=>false
 |.cons k t _ ks r,T::Ts=>ofN L T k t ks.cnt (fun As=>ofF L ks As)&&ofF L r Ts
theorem qwa (L:List DD) (k:Int) (t:Tx) (n:Int) (ks:F) (T:List ND):ofF L (tr k t n ks) [T]=ofN L T k t ks.cnt (fun As=>ofF L ks As):=by show (ofN L T k t ks.cnt (fun As=>ofF L ks As)&&true)=_;rw [Bool.and_true]
theorem qwb (L:List DD):∀(f:F) (As:List (List ND)),As.length=f.cnt→ofF L f As=(f.kidsF.zip As).all fun z=>ofF L z.1 [z.2]
 |.nil,[],_=>rfl
 |.nil,_::_,h=>by cases h
 |.cons _ _ _ _ _,[],h=>by cases h
 |.cons k t n ks r,T::Ts,h=>by show (ofN L T k t ks.cnt (fun As=>ofF L ks As)&&ofF L r Ts)=(((tr k t n ks,T)::r.kidsF.zip Ts).all _);rw [List.all_cons,qwb L r Ts (by have h:Ts.length+1=r.cnt+1:=h;omega),qwa]
theorem qiq {L:List DD} {k:Int} {t:Tx} {c:Int} {con:Tx} {x:CT} (h:conV L k t c con=some x):∃d,d∈L∧x∈d.2.2.l∧q1e k t c d=true∧eqS x.1 con=true:=by
 unfold conV at h;cases hd:L.find? (q1e k t c) with
 |none=>rw [hd] at h;cases h
 |some d=>rw [hd] at h;have h:d.2.2.l.find? (fun x=>eqS x.1 con)=some x:=h;exact ⟨d,zK hd,zK h,List.find?_some hd,List.find?_some (p:=fun x:CT=>eqS x.1 con) h⟩
theorem q4d {L:List DD} (he:L.all q0u=true) {d:DD} (hd:d∈L) {c:CT} (hc:c∈d.2.2.l):q2h c.1=true∧c.2.l.length≤8∧(∀a,a∈c.2.l→q26 a.l=true)∧d.2.1≤8∧0≤d.2.1∧q2h d.1=true:=by have h1:=zS.1 he d hd;unfold q0u at h1;simp only [zd] at h1;obtain ⟨g0,g1,g2,g3,g4,g5⟩:=h1;have h2:=zS.1 g5 c hc;unfold qh1 at h2;simp only [zd] at h2;have e1:lenI c.2.l≤8:=zt h2.2.1;have e2:d.2.1≤8:=zt g2;have e3:0≤d.2.1:=zt g1;refine ⟨h2.1,by unfold lenI at e1;omega,fun a ha=>?_,e2,e3,g0⟩;have h3:=zS.1 h2.2.2 a ha;unfold qin at h3;rw [zd] at h3;exact h3.1
theorem qwc {P:ND→Bool} {ks:F} (h:ks.flat.all P=true):∀p,p∈ks.kidsF→p.flat.all P=true:=by intro p hp;refine zS.2 fun x hx=>zS.1 h x ?_;rw [←F.trees_flat,←F.kidsF_flat];exact List.mem_flatten.2 ⟨p.flat,zR.2 ⟨p,hp,rfl⟩,hx⟩
theorem q8z (L:List DD) (k:Int) (t:Tx) (n:Int) (ks:F) (con:Tx):q2d L (tr k t n ks).flat con=(conV L k t (ks.cnt:Int) con).map fun c=>c.2.l.map fun a=>argT ks.trees a.l:=by unfold q2d;rw [qzz];rfl
def patP (x:ND):Bool:=leI 21 x.1&&leI x.1 24
def valP (x:ND):Bool:=leI 51 x.1&&leI x.1 54
theorem z5b (a b:Nat):eqI ((a:Nat):Int) ((b:Nat):Int)=decide (a=b):=by
 by_cases h:a=b
 ·subst h;rw [q1j,zA rfl]
 ·rw [q2u (by omega),zB h]
theorem z33 {ks:F} {As:List (List ND)} {i:Nat} {z:F×List ND} (h:(ks.kidsF.zip As)[i]?=some z):ks.kidsF[i]?=some z.1∧As[i]?=some z.2:=by rw [List.getElem?_zip_eq_some] at h;exact h
theorem of_N (s:Sl DD) (hL:GD s.l) (hs:s.l.all q0u=true):∀(M:Nat) (k:Int) (t:Tx) (n:Int) (ks:F),ks.size+1≤M→ks.size+1≤4000→(tr k t n ks).flat.all patP=true→∀(T:SN) (b2:Bool),q26 T.l=true→∀N,M≤N→recN g_bk N (s,T,⟨b2,(tr k t n ks).flat⟩,())=some (ofF s.l (tr k t n ks) [T.l],()):=by
 intro M
 induction M with
 |zero=>intro k t n ks h;omega
 |succ M ih=>
  intro k t n ks hM hG hP T b2 hT N hN;obtain ⟨b,T⟩:=T;cases N with
  |zero=>omega
  |succ N=>
   obtain ⟨ht,hH,k',t',n',ks',hu⟩:=(q20 T).1 hT;subst hu;rw [q27] at ht;have h0:at? (tr k t n ks).flat 0=some (k,t,n,(ks.cnt:Int)):=q05 (i:=0) rfl;have h1:at? (tr k' t' n' ks').flat 0=some (k',t',n',(ks'.cnt:Int)):=q05 (i:=0) rfl;show g_bk (recN g_bk N) _=_;rw [u_bk,qwa];simp only [h0,h1,q00];rw [q2c,List.all_cons,zd] at hP;have hj:=hP.1;unfold patP at hj;rw [zd] at hj;have k1:(21:Int)≤k:=zt hj.1;have k2:k≤(24:Int):=zt hj.2;unfold ofN;rw [q2u (show k≠51 by omega),q2u (show k≠52 by omega),q2u (show k≠54 by omega)];by_cases e24:k=24
   ·subst e24;have z1:eqI 24 21=false:=rfl;have z2:eqI 24 22=false:=rfl;have z3:eqI 24 23=false:=rfl;have z4:eqI 24 24=true:=rfl;simp only [z1,z2,z3,z4,q01,q02,cond_false,Bool.or_false];rw [qv5,h0,q00,q8z];obtain ⟨nbp,he⟩:=q6n b2 24 t n ks (by omega);cases hc:conV s.l k' t' (ks'.cnt:Int) t with
    |none=>rw [qla s hL b k' t' n' ks' (by omega) t hc];simp only [q00,he,nF,q02,Option.map_none]
    |some c=>
     obtain ⟨d,hv,hw,hI,hJ⟩:=qiq hc;obtain ⟨r1,r2,r3,r4,r5,r6⟩:=q4d hs hv hw;rw [qlb s hL b k' t' n' ks' (by omega) t c hc];have hx:lenI (c.2.l.map (argS true ks'.trees))=((c.2.l.length:Nat):Int):=by unfold lenI;rw [zm]
     have hy:lenI (ks.trees.map fun l=>(⟨b2,l⟩:SN))=((ks.cnt:Nat):Int):=by unfold lenI;rw [zm,F.trees_len]
     have hm:(c.2.l.map fun a=>argT ks'.trees a.l).length=c.2.l.length:=zm _;simp only [q00,he,nT,q01,hx,hy,z5b,Option.map_some,hm];by_cases hl:c.2.l.length=ks.cnt
     ·rw [zA hl];simp only [nT,q01,Bool.true_and];rw [qwb s.l ks _ (by rw [hm];exact hl)];have hn:(ks.kidsF.zip (c.2.l.map fun a=>argT ks'.trees a.l)).length=ks.cnt:=by rw [List.length_zip,F.kidsF_len,hm,hl,Nat.min_self]
      have hA:=F.cnt_le ks;refine (ql4 (q10 (q8u (recN g_bk N)) (fun i=>(s,⟨true&&c.2.l.isEmpty,c.2.l.map (argS true ks'.trees)⟩,⟨nbp,ks.trees.map fun l=>(⟨b2,l⟩:SN)⟩,((ks.cnt:Nat):Int),i,())) (ks.kidsF.zip (c.2.l.map fun a=>argT ks'.trees a.l)) (by omega)
       (fun _ z=>bif ofF s.l z.1 [z.2] then none else some (false,())) (true,()) ?_ ?_) _).trans ?_
      ·intro i z hz hi;obtain ⟨p,A⟩:=z;obtain ⟨hq,hg⟩:=z33 hz;have hK:=getL hz;have hp:=zn hq;obtain ⟨kp,tp,np,ksp,hB,hO⟩:=F.kidsF_mem ks p hp;have hC:=qwc hP.2 p hp;subst hB;have hD:(ks.trees.map fun l=>(⟨b2,l⟩:SN))[i]?=some ⟨b2,(tr kp tp np ksp).flat⟩:=by rw [←F.kidsF_flat];exact getM (getM hq)
       rw [zT] at hg;cases ha:c.2.l[i]? with
       |none=>rw [ha] at hg;cases hg
       |some a=>
        rw [ha] at hg;injection hg with hg;have hE:(c.2.l.map (argS true ks'.trees))[i]?=some (argS true ks'.trees a):=getM ha;have hF:q26 (argS true ks'.trees a).l=true:=by rw [ql8];exact qda hT (r3 a (zn ha))
        have hf:=ih kp tp np ksp (by omega) (by omega) hC (argS true ks'.trees a) b2 hF N (by omega);rw [ql8,show argT ks'.trees a.l=A from hg] at hf;have ho:ltI (i:Int) ((ks.cnt:Nat):Int)=true:=zA (by omega);unfold q8u;simp only [ho,q02,q05 hD,q05 hE,q00,qrk,hf,add1 (show i≤1000000000 by omega)];cases ofF s.l (tr kp tp np ksp) [A]<;>rfl
      ·have ho:ltI ((ks.cnt:Nat):Int) ((ks.cnt:Nat):Int)=false:=zB (by omega);unfold q8u;simp only [hn,ho,q01]
      ·rw [qpv];cases (ks.kidsF.zip (c.2.l.map fun a=>argT ks'.trees a.l)).all (fun z=>ofF s.l z.1 [z.2])<;>rfl
     ·rw [zB hl];simp only [nF,q02,q00,Bool.false_and]
   ·rw [q2u e24];by_cases e23:k=23
    ·subst e23;rfl
    ·rw [q2u e23];by_cases e22:k=22
     ·subst e22;rfl
     ·have:k=21:=by omega
      subst this;rfl
end Fn
end Ev

namespace Ev
open Go
namespace Fn
end Fn
end Ev

namespace Ev
open Go
namespace Fn
end Fn
end Ev

namespace Ev
open Go
namespace Fn
theorem qdb {m odd:Bool}:∀f:F,errF m true odd f=0→f.flat.all patP=true
 |.nil,_=>rfl
 |.cons k t n ks r,h=>by obtain ⟨h1,h2⟩:=errF_ok.1 h;rw [Bool.true_or] at h1;obtain ⟨h3,h4⟩:=errT_ok.1 h1;obtain ⟨_,h5,_⟩:=nodeE_zero.1 h3;show ((k,t,n,(ks.cnt:Int))::(ks.flat++r.flat)).all patP=true;rw [List.all_cons,List.all_append,qdb ks h4,qdb r h2,Bool.and_true,Bool.and_true];exact h5
termination_by structural f=>f
theorem z34 {k:Int} {t:Tx} {n:Int} {ks:F} (h:chkT k t n ks true=0):(tr k t n ks).flat.all patP=true:=by obtain ⟨_,h2,_⟩:=chkT_ok.1 h;obtain ⟨h3,h4⟩:=errT_ok.1 h2;obtain ⟨_,h5,_⟩:=nodeE_zero.1 h3;rw [q2c,List.all_cons,qdb ks h4,Bool.and_true];exact h5
def isP (p:List ND):Prop:=∃k t n ks,p=(tr k t n ks).flat∧chkT k t n ks true=0
def qa4 (L:List DD) (T p:List ND):Prop:=∃k t n ks,p=(tr k t n ks).flat∧chkT k t n ks true=0∧ofF L (tr k t n ks) [T]=true
theorem q4e {L:List DD} (h:q4p L=true):L.all q0u=true∧dupL (L.map fun d=>d.1)=false∧dupL (q68 L)=false∧L.length≤60:=by unfold q4p at h;simp only [zd,Bool.not_eq_true'] at h;exact ⟨h.2.1,h.2.2.1,h.2.2.2.1,zt h.1⟩
theorem z5c (s:Sl DD) (hL:GD s.l) (hc:s.l.all q0u=true) (k:Int) (t:Tx) (n:Int) (ks:F) (hs:ks.size+1≤4000) (hP:(tr k t n ks).flat.all patP=true) (T:SN) (hT:q26 T.l=true) (b:Bool):f_bk (s,T,⟨b,(tr k t n ks).flat⟩,())=some (ofF s.l (tr k t n ks) [T.l],()):=q7c (ks.size+1) fun N hN=>of_N s hL hc (ks.size+1) k t n ks (Nat.le_refl _) hs hP T b hT N hN
end Fn
end Ev

namespace Ev
open Go
namespace Fn
theorem qq5 (n:Bool) (l:List ND) (hl:l.length≤1000000):q2v (⟨n,l⟩,())=some (⟨false,l⟩,()):=by have hf:fit (sumI (lenI ([]:List ND)) (lenI l))=some ():=q0g (by show 0+l.length≤_;omega);rw [qn7,hf,q00,qru];rfl
def fewN (m:Nat) (l:List ND):Prop:=l.length≤m∧∀x,x∈l→x.2.1.length≤60
theorem z5d {k:Nat} (h:k<9223372036854775807):addI .i64 (k:Int) 1=((k+1:Nat):Int):=by rw [q7e (by omega) (by omega)];omega
theorem z01 (a:Sl SN) {i:Nat} {t:SN} (ht:a.l[i]?=some t) (hi:i<9223372036854775807):∃r,loopR l1_ca (a,(i:Int),0,())=some r∧(r=.inr (false,())∨(r=.inl (a,((i+1:Nat):Int),())∧fewN 30 t.l)):=by
 refine q1d (f:=l1_ca) (I:=fun s=>∃k:Nat,s=(a,(i:Int),(k:Int),())∧k≤31∧∀j x,j<k→t.l[j]?=some x→x.2.1.length≤60) (fun s=>(31-s.2.2.1).toNat) ?_ _ ⟨0,rfl,by omega,fun j x h=>by omega⟩;rintro s ⟨k,rfl,hk,hb⟩;have he:=q05 ht;by_cases h1:k<t.l.length∧k<31
 ·obtain ⟨x,hx⟩:∃x,t.l[k]?=some x:=⟨_,zh h1.1⟩;have c1:ltI (k:Int) (lenI t.l)=true:=ltG hx;have c2:ltI (k:Int) 31=true:=zA (by omega);cases h2:ltI 60 (lenI x.2.1) with
  |true=>refine .inr ⟨.inr (false,()),?_,.inl rfl⟩;unfold l1_ca;simp only [he,q00,c1,c2,q02,q05 hx,h2]
  |false=>
   refine .inl ⟨(a,(i:Int),((k+1:Nat):Int),()),?_,⟨k+1,rfl,by omega,fun j y hj hy=>?_⟩,by simp only;omega⟩
   ·unfold l1_ca;simp only [he,q00,c1,c2,q02,q05 hx,h2,q01,add1 (show k≤1000000000 by omega)]
   ·by_cases e:j=k
    ·subst e;rw [hx] at hy;injection hy with hy;subst hy
     have:=of_decide_eq_false h2;unfold lenI at this;omega
    ·exact hb j y (by omega) hy
 ·refine .inr ?_;have hc:(cnd (ltI (k:Int) (lenI t.l)) (some (ltI (k:Int) 31)) (some false):Option Bool)=some false:=by
   by_cases e:k<t.l.length
   ·have:ltI (k:Int) 31=false:=zB (by omega);rw [this];cases ltI (k:Int) (lenI t.l)<;>rfl
   ·have:ltI (k:Int) (lenI t.l)=false:=zB (by unfold lenI;omega);rw [this];rfl
  cases h3:ltI 30 (lenI t.l) with
  |true=>refine ⟨.inr (false,()),?_,.inl rfl⟩;unfold l1_ca;simp only [he,q00,hc,q01,h3,q02]
  |false=>
   have hf:t.l.length≤30:=by have:=of_decide_eq_false h3;unfold lenI at this;omega
   refine ⟨.inl (a,((i+1:Nat):Int),()),?_,.inr ⟨rfl,hf,fun x hx=>?_⟩⟩
   ·unfold l1_ca;simp only [he,q00,hc,q01,h3,z5d hi]
   ·obtain ⟨j,hj,e⟩:=List.getElem_of_mem hx;exact hb j x (by omega) (by rw [zh hj,e])
theorem qh4 (a:Sl SN) (ha:a.l.length≤9223372036854775807):∃c,f_ca (a,())=some (c,())∧(c=true→a.l.length≤8∧∀t,t∈a.l→fewN 30 t.l):=by
 rw [u_ca];have:=q1d (f:=l2_ca) (I:=fun s=>∃k:Nat,s=(a,(k:Int),())∧k≤a.l.length∧∀j t,j<k→a.l[j]?=some t→fewN 30 t.l) (Q:=fun r=>∃c,r=(c,())∧(c=true→a.l.length≤8∧∀t,t∈a.l→fewN 30 t.l)) (fun s=>((a.l.length:Int)-s.2.1).toNat) ?_ (a,0,()) ⟨0,rfl,by omega,fun j x h=>by omega⟩
 ·obtain ⟨r,h1,c,h2,h3⟩:=this;exact ⟨c,by rw [h1,h2],h3⟩
 ·rintro s ⟨k,rfl,hk,hb⟩;by_cases h1:k<a.l.length
  ·obtain ⟨t,ht⟩:∃t,a.l[k]?=some t:=⟨_,zh h1⟩;obtain ⟨r,e,h⟩:=z01 a ht (by omega);rcases h with h|⟨h,hf⟩
   ·subst h;refine .inr ⟨(false,()),?_,false,rfl,fun h=>by cases h⟩;unfold l2_ca;simp only [ltG ht,q02,e]
   ·subst h;refine .inl ⟨(a,((k+1:Nat):Int),()),?_,⟨k+1,rfl,by omega,fun j y hj hy=>?_⟩,by simp only;omega⟩
    ·unfold l2_ca;simp only [ltG ht,q02,e]
    ·by_cases e:j=k
     ·subst e;rw [ht] at hy;injection hy with hy;rw [←hy];exact hf
     ·exact hb j y (by omega) hy
  ·have hc:k=a.l.length:=by omega
   subst hc;refine .inr ⟨(leI (lenI a.l) 8,()),?_,_,rfl,fun h=>?_⟩
   ·unfold l2_ca;simp only [ltE,q01]
   ·have:=zt h;refine ⟨by unfold lenI at this;omega,fun t ht=>?_⟩;obtain ⟨j,hj,e⟩:=List.getElem_of_mem ht;exact hb j t hj (by rw [zh hj,e])
end Fn
end Ev

namespace Ev
open Go
namespace Fn
def fewC (c:CT):Prop:=c.1.length≤60∧c.2.l.length≤10∧∀t,t∈c.2.l→fewN 60 t.l
def fewD (d:DD):Prop:=d.1.length≤60∧d.2.2.l.length≤70∧∀c,c∈d.2.2.l→fewC c
theorem few1 (s:Sl DD) (n:Int) (i k:Int) (m:Nat) (hm:m≤1000000) (cn:Tx) (as:Sl SN) {t:SN} (ht:as.l[m]?=some t):∃r,loopR l1_c6 (s,n,i,k,(m:Int),0,cn,as,())=some r∧(r=.inr (.inr (.inr (false,())))∨(r=.inl (s,n,i,k,((m+1:Nat):Int),cn,as,())∧n≤300∧fewN 60 t.l)):=by
 refine q1d (f:=l1_c6) (I:=fun z=>∃h:Nat,z=(s,n,i,k,(m:Int),(h:Int),cn,as,())∧h≤61∧∀j x,j<h→t.l[j]?=some x→x.2.1.length≤60) (fun z=>(61-z.2.2.2.2.2.1).toNat) ?_ _ ⟨0,rfl,by omega,fun j x h=>by omega⟩;rintro z ⟨h,rfl,hk,hb⟩;have he:=q05 ht;by_cases h1:h<t.l.length∧h<61
 ·obtain ⟨x,hx⟩:∃x,t.l[h]?=some x:=⟨_,zh h1.1⟩;have c1:ltI (h:Int) (lenI t.l)=true:=ltG hx;have c2:ltI (h:Int) 61=true:=zA (by omega);cases h2:ltI 60 (lenI x.2.1) with
  |true=>refine .inr ⟨.inr (.inr (.inr (false,()))),?_,.inl rfl⟩;unfold l1_c6;simp only [he,q00,c1,c2,q02,q05 hx,h2]
  |false=>
   refine .inl ⟨(s,n,i,k,(m:Int),((h+1:Nat):Int),cn,as,()),?_,⟨h+1,rfl,by omega,fun j y hj hy=>?_⟩,by simp only;omega⟩
   ·unfold l1_c6;simp only [he,q00,c1,c2,q02,q05 hx,h2,q01,add1 (show h≤1000000000 by omega)]
   ·by_cases e:j=h
    ·subst e;rw [hx] at hy;injection hy with hy;subst hy
     have:=of_decide_eq_false h2;unfold lenI at this;omega
    ·exact hb j y (by omega) hy
 ·refine .inr ?_;have hc:(cnd (ltI (h:Int) (lenI t.l)) (some (ltI (h:Int) 61)) (some false):Option Bool)=some false:=by
   by_cases e:h<t.l.length
   ·have:ltI (h:Int) 61=false:=zB (by omega);rw [this];cases ltI (h:Int) (lenI t.l)<;>rfl
   ·have:ltI (h:Int) (lenI t.l)=false:=zB (by unfold lenI;omega);rw [this];rfl
  cases h3:ltI 60 (lenI t.l) with
  |true=>refine ⟨.inr (.inr (.inr (false,()))),?_,.inl rfl⟩;unfold l1_c6;simp only [he,q00,hc,q01,h3,q02]
  |false=>
   cases h4:ltI 300 n with
   |true=>refine ⟨.inr (.inr (.inr (false,()))),?_,.inl rfl⟩;unfold l1_c6;simp only [he,q00,hc,q01,h3,h4,q02]
   |false=>
    have hf:t.l.length≤60:=by have:=of_decide_eq_false h3;unfold lenI at this;omega
    have hn:¬(300:Int)<n:=of_decide_eq_false h4;refine ⟨.inl (s,n,i,k,((m+1:Nat):Int),cn,as,()),?_,.inr ⟨rfl,by omega,hf,fun x hx=>?_⟩⟩
    ·unfold l1_c6;simp only [he,q00,hc,q01,h3,h4,add1 (show m≤1000000000 by omega)]
    ·obtain ⟨j,hj,e⟩:=List.getElem_of_mem hx;exact hb j x (by omega) (by rw [zh hj,e])
theorem few2 (s:Sl DD) (n:Int) (hn:0≤n∧n≤300) (i:Int) (k:Nat) (hk:k≤1000000) (cn:Tx) (as:Sl SN) (ha:as.l.length≤10):∃r,loopR l2_c6 (s,n,i,(k:Int),0,cn,as,())=some r∧(r=.inr (.inr (false,()))∨∃n',r=.inl (s,n',i,((k+1:Nat):Int),())∧0≤n'∧n'≤300∧∀t,t∈as.l→fewN 60 t.l):=by
 refine q1d (f:=l2_c6) (I:=fun z=>∃(n':Int) (m:Nat),z=(s,n',i,(k:Int),(m:Int),cn,as,())∧0≤n'∧n'≤300∧m≤as.l.length∧∀j t,j<m→as.l[j]?=some t→fewN 60 t.l) (fun z=>((as.l.length:Int)-z.2.2.2.2.1).toNat) ?_ _ ⟨n,0,rfl,hn.1,hn.2,Nat.zero_le _,fun j x h=>by omega⟩;rintro z ⟨n',m,rfl,g1,g2,g3,hb⟩;by_cases h1:m<as.l.length
 ·obtain ⟨t,ht⟩:∃t,as.l[m]?=some t:=⟨_,zh h1⟩;obtain ⟨r,e,h⟩:=few1 s (addI .i64 n' (lenI t.l)) i (k:Int) m (by omega) cn as ht;rcases h with h|⟨h,he,hf⟩
  ·subst h;refine .inr ⟨.inr (.inr (false,())),?_,.inl rfl⟩;unfold l2_c6;simp only [ltG ht,q02,q05 ht,q00,e]
  ·subst h;have hg:=hf.1;have hc:addI .i64 n' (lenI t.l)=n'+(t.l.length:Int):=q7e (by unfold lenI;omega) (by unfold lenI;omega);refine .inl ⟨(s,addI .i64 n' (lenI t.l),i,(k:Int),((m+1:Nat):Int),cn,as,()),?_,⟨_,m+1,rfl,by rw [hc];omega,he,by omega,fun j y hj hy=>?_⟩,by simp only;omega⟩
   ·unfold l2_c6;simp only [ltG ht,q02,q05 ht,q00,e]
   ·by_cases e:j=m
    ·subst e;rw [ht] at hy;injection hy with hy;rw [←hy];exact hf
    ·exact hb j y (by omega) hy
 ·obtain rfl:m=as.l.length:=by omega
  refine .inr ⟨.inl (s,n',i,((k+1:Nat):Int),()),?_,.inr ⟨n',rfl,g1,g2,fun t ht=>?_⟩⟩
  ·unfold l2_c6;simp only [ltE,q01,add1 (show k≤1000000000 by omega)]
  ·obtain ⟨j,hj,e⟩:=List.getElem_of_mem ht;exact hb j t hj (by rw [zh hj,e])
theorem few3 (s:Sl DD) (n:Int) (hn:0≤n∧n≤300) {i:Nat} {d:DD} (hd:s.l[i]?=some d) (hi:i≤1000000) (he:d.2.2.l.length≤70):∃r,loopR l3_c6 (s,n,(i:Int),0,())=some r∧(r=.inr (false,())∨∃n',r=.inl (s,n',((i+1:Nat):Int),())∧0≤n'∧n'≤300∧∀c,c∈d.2.2.l→fewC c):=by
 refine q1d (f:=l3_c6) (I:=fun z=>∃(n':Int) (k:Nat),z=(s,n',(i:Int),(k:Int),())∧0≤n'∧n'≤300∧k≤d.2.2.l.length∧∀j c,j<k→d.2.2.l[j]?=some c→fewC c) (fun z=>((d.2.2.l.length:Int)-z.2.2.2.1).toNat) ?_ _ ⟨n,0,rfl,hn.1,hn.2,Nat.zero_le _,fun j x h=>by omega⟩;rintro z ⟨n',k,rfl,g1,g2,g3,hb⟩;by_cases h1:k<d.2.2.l.length
 ·obtain ⟨c,hc⟩:∃c,d.2.2.l[k]?=some c:=⟨_,zh h1⟩;cases q1:ltI 60 (lenI c.1) with
  |true=>refine .inr ⟨.inr (false,()),?_,.inl rfl⟩;unfold l3_c6;simp only [q05 hd,ltG hc,q02,q05 hc,q00,q1]
  |false=>
   cases q2:ltI 10 (lenI c.2.l) with
   |true=>refine .inr ⟨.inr (false,()),?_,.inl rfl⟩;unfold l3_c6;simp only [q05 hd,ltG hc,q02,q05 hc,q00,q1,q2,q01]
   |false=>
    have l1:c.1.length≤60:=by have:=of_decide_eq_false q1;unfold lenI at this;omega
    have l2:c.2.l.length≤10:=by have:=of_decide_eq_false q2;unfold lenI at this;omega
    obtain ⟨r,e,h⟩:=few2 s n' ⟨g1,g2⟩ (i:Int) k (by omega) c.1 c.2 l2;rcases h with h|⟨n2,h,hg,hl,hf⟩
    ·subst h;refine .inr ⟨.inr (false,()),?_,.inl rfl⟩;unfold l3_c6;simp only [q05 hd,ltG hc,q02,q05 hc,q00,q1,q2,q01,e]
    ·subst h;refine .inl ⟨(s,n2,(i:Int),((k+1:Nat):Int),()),?_,⟨_,k+1,rfl,hg,hl,by omega,fun j y hj hy=>?_⟩,by simp only;omega⟩
     ·unfold l3_c6;simp only [q05 hd,ltG hc,q02,q05 hc,q00,q1,q2,q01,e]
     ·by_cases e:j=k
      ·subst e;rw [hc] at hy;injection hy with hy;rw [←hy];exact ⟨l1,l2,hf⟩
      ·exact hb j y (by omega) hy
 ·obtain rfl:k=d.2.2.l.length:=by omega
  refine .inr ⟨.inl (s,n',((i+1:Nat):Int),()),?_,.inr ⟨n',rfl,g1,g2,fun t ht=>?_⟩⟩
  ·unfold l3_c6;simp only [q05 hd,q00,ltE,q01,add1 (show i≤1000000000 by omega)]
  ·obtain ⟨j,hj,e⟩:=List.getElem_of_mem ht;exact hb j t hj (by rw [zh hj,e])
theorem qsh (s:Sl DD):∃c,f_c6 (s,())=some (c,())∧(c=true→s.l.length≤70∧∀d,d∈s.l→fewD d):=by
 rw [u_c6];cases q0:ltI 70 (lenI s.l) with
 |true=>exact ⟨false,rfl,fun h=>by cases h⟩
 |false=>
  have l0:s.l.length≤70:=by have:=of_decide_eq_false q0;unfold lenI at this;omega
  rw [q01];have:=q1d (f:=l4_c6) (I:=fun z=>∃(n':Int) (i:Nat),z=(s,n',(i:Int),())∧0≤n'∧n'≤300∧i≤s.l.length∧∀j d,j<i→s.l[j]?=some d→fewD d) (Q:=fun r=>∃c,r=(c,())∧(c=true→s.l.length≤70∧∀d,d∈s.l→fewD d))
   (fun z=>((s.l.length:Int)-z.2.2.1).toNat) ?_ (s,0,0,()) ⟨0,0,rfl,by omega,by omega,Nat.zero_le _,fun j x h=>by omega⟩
  ·obtain ⟨r,h1,c,h2,h3⟩:=this;exact ⟨c,by rw [h1,h2],h3⟩
  ·rintro z ⟨n',i,rfl,g1,g2,g3,hb⟩;by_cases h1:i<s.l.length
   ·obtain ⟨d,hd⟩:∃d,s.l[i]?=some d:=⟨_,zh h1⟩;cases q1:ltI 70 (lenI d.2.2.l) with
    |true=>refine .inr ⟨(false,()),?_,false,rfl,fun h=>by cases h⟩;unfold l4_c6;simp only [q05 hd,ltG hd,q02,q00,q1]
    |false=>
     cases q2:ltI 60 (lenI d.1) with
     |true=>refine .inr ⟨(false,()),?_,false,rfl,fun h=>by cases h⟩;unfold l4_c6;simp only [q05 hd,ltG hd,q02,q00,q1,q2,q01]
     |false=>
      have l1:d.2.2.l.length≤70:=by have:=of_decide_eq_false q1;unfold lenI at this;omega
      have l2:d.1.length≤60:=by have:=of_decide_eq_false q2;unfold lenI at this;omega
      obtain ⟨r,e,h⟩:=few3 s n' ⟨g1,g2⟩ hd (by omega) l1;rcases h with h|⟨n2,h,hc,he,hf⟩
      ·subst h;refine .inr ⟨(false,()),?_,false,rfl,fun h=>by cases h⟩;unfold l4_c6;simp only [q05 hd,ltG hd,q02,q00,q1,q2,q01,e]
      ·subst h;refine .inl ⟨(s,n2,((i+1:Nat):Int),()),?_,⟨_,i+1,rfl,hc,he,by omega,fun j y hj hy=>?_⟩,by simp only;omega⟩
       ·unfold l4_c6;simp only [q05 hd,ltG hd,q02,q00,q1,q2,q01,e]
       ·by_cases e:j=i
        ·subst e;rw [hd] at hy;injection hy with hy;rw [←hy];exact ⟨l2,l1,hf⟩
        ·exact hb j y (by omega) hy
   ·obtain rfl:i=s.l.length:=by omega
    refine .inr ⟨(true,()),?_,true,rfl,fun _=>⟨l0,fun t ht=>?_⟩⟩
    ·unfold l4_c6;simp only [ltE,q01]
    ·obtain ⟨j,hj,e⟩:=List.getElem_of_mem ht;exact hb j t hj (by rw [zh hj,e])
end Fn
end Ev

namespace Ev
open Go
namespace Fn
def gW (s:Tx):Prop:=∀b,b∈s→0≤b∧b≤255
def gND (x:ND):Prop:=gW x.2.1∧rng x.2.2.1
def gL (l:List ND):Prop:=∀x,x∈l→gND x
def gDin (L:List DD):Prop:=∀d,d∈L→gW d.1∧∀c,c∈d.2.2.l→gW c.1∧∀t,t∈c.2.l→gL t.l
theorem qwd {m:Nat} {l:List ND} (hg:gL l) (hf:fewN m l):GL l:=fun x hx=>⟨(hg x hx).1,by have:=hf.2 x hx;omega,(hg x hx).2⟩
theorem z4f {L:List DD} (hg:gDin L) (hl:L.length≤70) (hf:∀d,d∈L→fewD d):GD L:=by refine ⟨by omega,fun d hd=>?_⟩;obtain ⟨f1,f2,f3⟩:=hf d hd;obtain ⟨g1,g2⟩:=hg d hd;refine ⟨⟨g1,by omega⟩,by omega,fun c hc=>?_⟩;obtain ⟨f4,f5,f6⟩:=f3 c hc;obtain ⟨g3,g4⟩:=g2 c hc;refine ⟨⟨g3,by omega⟩,by omega,fun t ht=>⟨qwd (g4 t ht) (f6 t ht),?_⟩⟩;have:=(f6 t ht).1;omega
theorem z4g (s:Sl DD) (hg:gDin s.l) (t:SN) (a:Sl SN) (ha:a.l.length≤9223372036854775807):∃c,q5f (s,t,a,())=some (c,())∧(c=true→GD s.l∧fewN 30 t.l∧a.l.length≤6∧∀p,p∈a.l→fewN 30 p.l):=by
 obtain ⟨c1,e1,h1⟩:=qsh s;obtain ⟨c2,e2,h2⟩:=qh4 ⟨false,[t]⟩ (by show 1≤_;omega);obtain ⟨c3,e3,h3⟩:=qh4 a ha;refine ⟨c1&&(leI (lenI s.l) 10&&(c2&&(c3&&leI (lenI a.l) 6))),?_,fun h=>?_⟩
 ·rw [qn6,e1];simp only [q00,e2,e3];cases c1<;>cases leI (lenI s.l) 10<;>cases c2<;>cases c3<;>rfl
 ·simp only [zd] at h;obtain ⟨q1,q2,q3,q4,q5⟩:=h;obtain ⟨g1,g2⟩:=h1 q1;have q5:=zt q5;exact ⟨z4f hg g1 g2,(h2 q3).2 t (ze ..),by unfold lenI at q5;omega,(h3 q4).2⟩
theorem fitD (L:List DD) (hL:L.length≤1000):fit (sumI (lenI ([]:List DD)) (lenI L))=some ():=q0g (by show 0+L.length≤_;omega)
theorem z4h (L:List DD) (T:List ND):qa4 L T [(21,[],0,0)]:=⟨21,[],0,.nil,rfl,by kernel_rfl,rfl⟩
theorem gAny:GL [((21:Int),([]:Tx),(0:Int),(0:Int))]:=fun x hx=>by rw [zu] at hx;subst hx;exact ⟨fun b hb=>(by cases hb),Nat.zero_le _,by show (-9223372036854775808:Int)≤0∧(0:Int)≤_;omega⟩
end Fn
end Ev

namespace Ev
open Go
namespace Fn
abbrev NM:=List (Tx×List ND)
def q5g:F→F→Option NM
 |.nil,_=>some []
 |.cons _ _ _ _ _,.nil=>none
 |.cons k t n ks r,.cons k' t' n' ks' r'=>
  match (bif eqI k 21 then some [] else bif eqI k 22 then some [(t,(tr k' t' n' ks').flat)] else bif eqI k 23 then (bif eqI k' 51&&eqI n' n then some [] else none) else
   bif eqI k' 53&&(eqS t' t&&decide (ks'.cnt=ks.cnt)) then q5g ks ks' else none:Option NM) with
  |none=>none
  |some a=>match q5g r r' with
   |none=>none
   |some b=>some (a++b)
def q2l (k:Int) (t:Tx) (n:Int) (ks:F) (k':Int) (t':Tx) (n':Int) (ks':F):Option NM:=
 bif eqI k 21 then some [] else bif eqI k 22 then some [(t,(tr k' t' n' ks').flat)] else bif eqI k 23 then (bif eqI k' 51&&eqI n' n then some [] else none) else
  bif eqI k' 53&&(eqS t' t&&decide (ks'.cnt=ks.cnt)) then q5g ks ks' else none
theorem qnk (k:Int) (t:Tx) (n:Int) (ks r:F) (k':Int) (t':Tx) (n':Int) (ks' r':F):q5g (.cons k t n ks r) (.cons k' t' n' ks' r')=match q2l k t n ks k' t' n' ks' with|none=>none|some a=>match q5g r r' with|none=>none|some b=>some (a++b):=rfl
end Fn
end Ev

namespace Ev
open Go
namespace Fn
def mkN (ns:NM):List (Tx×SN):=ns.map fun e=>(e.1,⟨false,e.2⟩)
end Fn
end Ev

namespace Ev
open Go
namespace Fn
theorem qwe (a:Sl SN) (ha:a.l.length≤1000) (hg:∀x,x∈a.l→x.l.length≤1000000):q2w (a,())=some (⟨false,a.l.map fun x=>(⟨false,x.l⟩:SN)⟩,()):=by
 rw [qkr];refine (q1z q4u (fun k s=>(a,k,s,())) a.l (fun (s:Sl SN) x=>(⟨false,s.l++[⟨false,x.l⟩]⟩:Sl SN)) (fun s=>(s,())) (fun k s=>k≤a.l.length∧s.l.length=k) ⟨false,[]⟩ ⟨Nat.zero_le _,rfl⟩ ?_ ?_).trans ?_
 ·intro k x s hx hi;obtain ⟨ns,sl⟩:=s;have h2:sl.length=k:=hi.2;have hk:=getL hx;obtain ⟨bx,lx⟩:=x;have ho:=qq5 bx lx (hg _ (zn hx));have hf:fit (sumI (lenI sl) (lenI [(⟨false,lx⟩:SN)]))=some ():=q0g (by show sl.length+1≤_;omega);refine ⟨?_,hk,by show (sl++[_]).length=_;rw [zp,h2];rfl⟩;unfold q4u;simp only [ltG hx,q02,q05 hx,q00,ho,hf,q13,add1 (show k≤1000000000 by omega)];rfl
 ·intro s _;unfold q4u;simp only [ltE,q01]
 ·rw [q8d];rfl
end Fn
end Ev

namespace Ev
open Go
namespace Fn
abbrev tyN:Ty:=.st (.pair (.int .i64) (.pair .str (.pair (.int .i64) (.int .i64))))
abbrev tyC:Ty:=.st (.pair .str (.sl (.sl tyN)))
abbrev tyD:Ty:=.st (.pair .str (.pair (.int .i64) (.sl tyC)))
theorem qnl {s:Tx} (h:good .str s):gW s:=fun b hb=>by have:=h.2 b hb;omega
theorem good_gL {s:SN} (h:good (.sl tyN) s):gL s.l:=fun x hx=>by obtain ⟨_,h2,h4,_⟩:=h.2.2 x hx;exact ⟨qnl h2,inK_i64.1 h4⟩
theorem good_gD {s:Sl DD} (h:good (.sl tyD) s):gDin s.l:=fun d hd=>by obtain ⟨h1,_,h3⟩:=h.2.2 d hd;refine ⟨qnl h1,fun c hc=>?_⟩;obtain ⟨h4,h5⟩:=h3.2.2 c hc;exact ⟨qnl h4,fun t ht=>good_gL (h5.2.2 t ht)⟩
theorem good_gR {s:Sl SN} (h:good (.sl (.sl tyN)) s):(∀x,x∈s.l→gL x.l)∧s.l.length≤9223372036854775807:=⟨fun x hx=>good_gL (h.2.2 x hx),h.1⟩
end Fn
end Ev

namespace Ev
open Go
namespace Fn
abbrev SSN:=Sl SN
abbrev SR:=Sl SSN
theorem q0r (nb:Bool) (a c:SSN) (h:a.l.length+c.l.length≤1000000):∃nb',f_ck (⟨nb,[a,c]⟩,())=some (⟨nb',a.l++c.l⟩,()):=by
 have f1:addI .i64 0 (lenI a.l)=((a.l.length:Nat):Int):=by rw [q7e (by unfold lenI;omega) (by unfold lenI;omega)];unfold lenI;omega
 have f2:addI .i64 ((a.l.length:Nat):Int) (lenI c.l)=((a.l.length+c.l.length:Nat):Int):=by rw [q7e (by unfold lenI;omega) (by unfold lenI;omega)];unfold lenI;omega
 have z1:ltI ((a.l.length:Nat):Int) 0=false:=zB (by omega);have z2:ltI ((a.l.length+c.l.length:Nat):Int) 0=false:=zB (by omega);have c0:ltI 0 2=true:=rfl;have c1:ltI 1 2=true:=rfl;have c2:ltI 2 2=false:=rfl;have a0:at? [a,c] 0=some a:=rfl;have a1:at? [a,c] 1=some c:=rfl;have q1:addI .i64 0 1=1:=rfl;have q2:addI .i64 1 1=2:=rfl;have s0:l2_ck (⟨nb,[a,c]⟩,0,⟨nb,[a,c]⟩,2,0,())=some (.inl (⟨nb,[a,c]⟩,((a.l.length:Nat):Int),⟨nb,[a,c]⟩,2,1,())):=by unfold l2_ck;simp only [c0,q02,a0,q00,f1,z1,q01,q1]
 have s1:l2_ck (⟨nb,[a,c]⟩,((a.l.length:Nat):Int),⟨nb,[a,c]⟩,2,1,())=some (.inl (⟨nb,[a,c]⟩,((a.l.length+c.l.length:Nat):Int),⟨nb,[a,c]⟩,2,2,())):=by unfold l2_ck;simp only [c1,q02,a1,q00,f2,z2,q01,q2]
 have hg:f_cz (⟨true,[]⟩,((a.l.length+c.l.length:Nat):Int),())=some (⟨decide (((a.l.length+c.l.length:Nat):Int)=0),[]⟩,()):=by
  have e:(decide ((0:Int)≤((a.l.length+c.l.length:Nat):Int))&&decide (((a.l.length+c.l.length:Nat):Int)≤1000000))=true:=by rw [zd];exact ⟨zA (by omega),zA (by omega)⟩
  show (bif (decide ((0:Int)≤((a.l.length+c.l.length:Nat):Int))&&decide (((a.l.length+c.l.length:Nat):Int)≤1000000)) then _ else none)=_;rw [e];rfl
 generalize decide (((a.l.length+c.l.length:Nat):Int)=0)=g0 at hg;have fa:fit (sumI (lenI ([]:List SN)) (lenI a.l))=some ():=q0g (by show 0+a.l.length≤_;omega);have fc:fit (sumI (lenI a.l) (lenI c.l))=some ():=q0g (by omega);have t0:l1_ck (⟨nb,[a,c]⟩,2,0,⟨g0,[]⟩,())=some (.inl (⟨nb,[a,c]⟩,2,1,⟨andB g0 (isE a.l),a.l⟩,())):=by unfold l1_ck;simp only [c0,q02,a0,q00,fa,q1];rfl
 have t1:l1_ck (⟨nb,[a,c]⟩,2,1,⟨andB g0 (isE a.l),a.l⟩,())=some (.inl (⟨nb,[a,c]⟩,2,2,⟨andB (andB g0 (isE a.l)) (isE c.l),a.l++c.l⟩,())):=by unfold l1_ck;simp only [c1,q02,a1,q00,fc,q2];rfl
 have t2:l1_ck (⟨nb,[a,c]⟩,2,2,⟨andB (andB g0 (isE a.l)) (isE c.l),a.l++c.l⟩,())=some (.inr (.inr (⟨andB (andB g0 (isE a.l)) (isE c.l),a.l++c.l⟩,()))):=by unfold l1_ck;simp only [c2,q01]
 have s2:l2_ck (⟨nb,[a,c]⟩,((a.l.length+c.l.length:Nat):Int),⟨nb,[a,c]⟩,2,2,())=some (.inr (⟨andB (andB g0 (isE a.l)) (isE c.l),a.l++c.l⟩,())):=by unfold l2_ck;simp only [c2,q01,hg,q00];show loopR l1_ck (⟨nb,[a,c]⟩,2,0,⟨g0,[]⟩,())=_;rw [q0h t0,q0h t1];exact q0b t2
 refine ⟨andB (andB g0 (isE a.l)) (isE c.l),?_⟩;rw [u_ck];show loopR l2_ck (⟨nb,[a,c]⟩,0,⟨nb,[a,c]⟩,2,0,())=_;rw [q0h s0,q0h s1];exact q0b s2
def anyS:SN:=⟨false,[(21,[],0,0)]⟩
theorem q8e (n:Nat) (hn:n≤1000000):∃nb,f_bp ((n:Int),())=some (⟨nb,List.replicate n anyS⟩,()):=by
 rw [u_bp];have e:=q1z l1_bp (fun k s=>((n:Int),k,s,())) (List.replicate n ()) (fun (s:SSN) _=>(⟨false,s.l++[anyS]⟩:SSN)) (fun s=>(s,())) (fun k s=>k≤n∧s.l.length=k) ⟨true,[]⟩ ⟨Nat.zero_le _,rfl⟩
  (fun k x s hx hi=>by obtain ⟨nb,sl⟩:=s;have h2:sl.length=k:=hi.2;have hk:=getL hx;rw [List.length_replicate] at hk;have c0:ltI (k:Int) (n:Int)=true:=ltT hk;have hf:fit (sumI (lenI sl) (lenI [(⟨false,[(21,[],0,0)]⟩:SN)]))=some ():=q0g (by show sl.length+1≤_;omega);refine ⟨?_,hk,by show (sl++[anyS]).length=_;rw [zp,h2];rfl⟩;unfold l1_bp;simp only [c0,q02,u_b3,q00,hf,q13,add1 (show k≤1000000000 by omega)];rfl)
  (fun s _=>by have c0:ltI ((n:Nat):Int) ((n:Nat):Int)=false:=zB (by omega);unfold l1_bp;simp only [List.length_replicate,c0,q01])
 rw [q8d (fun _:Unit=>anyS)] at e;refine ⟨true&&(List.replicate n ()).isEmpty,e.trans ?_⟩;rw [List.map_replicate];rfl
def q0l (k:Int):Bool:=eqI k 21||eqI k 22
theorem qb7 (s:SN) (x:ND) (h:s.l[0]?=some x):f_bt (s,())=some (q0l x.1,()):=by have h0:at? s.l 0=some x:=q05 (i:=0) h;rw [u_bt,h0];unfold q0l;simp only [q00];cases eqI x.1 21<;>rfl
theorem qb8 (k:Int) (t:Tx) (n c:Int) (s:SSN) (hs:s.l.length≤1000000) (hg:(s.l.map Sl.l).flatten.length≤1000000):∃nb,f_e6 ((k,t,n,c),s,())=some (⟨nb,(k,t,n,(s.l.length:Int))::(s.l.map Sl.l).flatten⟩,()):=by
 rw [u_e6];have hc:∀(l:List SN) (a:SN),(l.foldl (fun (a:SN) x=>(⟨andB a.nil (isE x.l),a.l++x.l⟩:SN)) a).l=a.l++(l.map Sl.l).flatten:=by
  intro l
  induction l with
  |nil=>intro a;simp
  |cons x r ih=>intro a;rw [List.foldl_cons,ih];simp
 have e:=q1z l1_e6 (fun i a=>(s,lenI s.l,i,a,())) s.l (fun (a:SN) x=>(⟨andB a.nil (isE x.l),a.l++x.l⟩:SN)) (fun a=>(a,())) (fun i a=>i≤s.l.length∧a.l.length=1+((s.l.take i).map Sl.l).flatten.length) ⟨false,[(k,t,n,lenI s.l)]⟩ ⟨Nat.zero_le _,rfl⟩
  (fun i x a hx hi=>by
   obtain ⟨nb,al⟩:=a;have h2:al.length=1+((s.l.take i).map Sl.l).flatten.length:=hi.2;have hj:=getL hx;have hm:s.l.take (i+1)=s.l.take i++[x]:=by rw [List.take_add_one,hx];rfl
   have hn:((s.l.take (i+1)).map Sl.l).flatten.length≤(s.l.map Sl.l).flatten.length:=by
    conv=>rhs;rw [←List.take_append_drop (i+1) s.l,zE,List.flatten_append,zp]
    exact Nat.le_add_right _ _
   have he:((s.l.take (i+1)).map Sl.l).flatten.length=((s.l.take i).map Sl.l).flatten.length+x.l.length:=by rw [hm,zE,List.flatten_append,zp];simp
   have hf:fit (sumI (lenI al) (lenI x.l))=some ():=q0g (by omega);refine ⟨?_,hj,by show (al++x.l).length=_;rw [zp,h2,he];omega⟩;unfold l1_e6;simp only [ltG hx,q02,q05 hx,q00,hf,add1 (show i≤1000000000 by omega),app])
  (fun a _=>by unfold l1_e6;simp only [ltE,q01])
 have hl:=hc s.l ⟨false,[(k,t,n,lenI s.l)]⟩;refine ⟨(s.l.foldl (fun (a:SN) x=>(⟨andB a.nil (isE x.l),a.l++x.l⟩:SN)) ⟨false,[(k,t,n,lenI s.l)]⟩).nil,e.trans ?_⟩;rw [show (k,t,n,(s.l.length:Int))::(s.l.map Sl.l).flatten=_ from hl.symm]
end Fn
end Ev

namespace Ev
open Go
namespace Fn
def anyF:Nat→F
 |0=>.nil
 |n+1=>.cons 21 [] 0 .nil (anyF n)
theorem q5v:∀n,(anyF n).cnt=n
 |0=>rfl
 |n+1=>by show (anyF n).cnt+1=n+1;rw [q5v n]
theorem q6q:∀n,(anyF n).trees=List.replicate n [((21:Int),([]:Tx),(0:Int),(0:Int))]
 |0=>rfl
 |n+1=>by rw [List.replicate_succ,←q6q n];rfl
theorem q6r:∀n,(anyF n).size=n
 |0=>rfl
 |n+1=>by show 0+(anyF n).size+1=n+1;rw [q6r n];omega
def F.clo:F→Nat
 |.nil=>0
 |.cons k _ _ ks r=>(bif q0l k then 0 else 1)+ks.clo+r.clo
theorem qb9:∀n,(anyF n).clo=0
 |0=>rfl
 |n+1=>by show 0+0+(anyF n).clo=0;rw [qb9 n]
theorem q4k:∀f g:F,(f.app g).clo=f.clo+g.clo
 |.nil,g=>(zN _).symm
 |.cons k t n ks r,g=>by show (bif q0l k then 0 else 1)+ks.clo+(r.app g).clo=_;rw [q4k r g];show _=(bif q0l k then 0 else 1)+ks.clo+r.clo+g.clo;omega
theorem qba:∀f g:F,(f.app g).trees=f.trees++g.trees
 |.nil,g=>rfl
 |.cons k t n ks r,g=>by show _::(r.app g).trees=_::(r.trees++g.trees);rw [qba r g]
theorem qbb:∀f g:F,(f.app g).size=f.size+g.size
 |.nil,g=>(zN _).symm
 |.cons k t n ks r,g=>by show ks.size+(r.app g).size+1=ks.size+r.size+1+g.size;rw [qbb r g];omega
def mt (f g:F):Bool:=(q5g f g).isSome
theorem q1a (k:Int) (t:Tx) (n:Int) (ks r:F) (k':Int) (t':Tx) (n':Int) (ks' r':F):mt (.cons k t n ks r) (.cons k' t' n' ks' r')=((q2l k t n ks k' t' n' ks').isSome&&mt r r'):=by
 unfold mt;rw [qnk];cases q2l k t n ks k' t' n' ks' with
 |none=>rfl
 |some a=>cases q5g r r'<;>rfl
theorem q5w:∀(f f' g g':F),f.cnt=f'.cnt→mt (f.app g) (f'.app g')=(mt f f'&&mt g g')
 |.nil,.nil,g,g',_=>by show mt g g'=(true&&mt g g');rw [Bool.true_and]
 |.nil,.cons _ _ _ _ _,_,_,h=>by cases h
 |.cons _ _ _ _ _,.nil,_,_,h=>by cases h
 |.cons k t n ks r,.cons k' t' n' ks' r',g,g',h=>by show mt (.cons k t n ks (r.app g)) (.cons k' t' n' ks' (r'.app g'))=_;rw [q1a,q1a,q5w r r' g g' (by have h:r.cnt+1=r'.cnt+1:=h;omega),Bool.and_assoc]
theorem qwf:∀(n:Nat) (g:F),g.cnt=n→mt (anyF n) g=true
 |0,_,_=>rfl
 |n+1,.nil,h=>by cases h
 |n+1,.cons k' t' n' ks' r',h=>by show mt (.cons 21 [] 0 .nil (anyF n)) _=true;rw [q1a,qwf n r' (by have h:r'.cnt+1=n+1:=h;omega)];rfl
theorem qq6 (L:List DD):∀(f g:F) (As Ts:List (List ND)),As.length=f.cnt→ofF L (f.app g) (As++Ts)=(ofF L f As&&ofF L g Ts)
 |.nil,g,[],Ts,_=>by show ofF L g Ts=(true&&ofF L g Ts);rw [Bool.true_and]
 |.nil,_,_::_,_,h=>by cases h
 |.cons _ _ _ _ _,_,[],_,h=>by cases h
 |.cons k t n ks r,g,T::As,Ts,h=>by show (ofN L T k t ks.cnt (fun As=>ofF L ks As)&&ofF L (r.app g) (As++Ts))=_;rw [qq6 L r g As Ts (by have h:As.length+1=r.cnt+1:=h;omega),←Bool.and_assoc];rfl
theorem z10 (L:List DD):∀(n:Nat) (As:List (List ND)),As.length=n→ofF L (anyF n) As=true
 |0,[],_=>rfl
 |0,_::_,h=>by cases h
 |n+1,[],h=>by cases h
 |n+1,T::As,h=>by show (ofN L T 21 [] 0 _&&ofF L (anyF n) As)=true;rw [z10 L n As (by have h:As.length+1=n+1:=h;omega)];rfl
def patQ (x:ND):Bool:=patP x&&((!eqI x.1 23||eqS x.2.1 [])&&(!eqI x.1 24||eqI x.2.2.1 0))
theorem qnm {P:ND→Bool} {f g:F} (hf:f.flat.all P=true) (hg:g.flat.all P=true):(f.app g).flat.all P=true:=by rw [F.app_flat,List.all_append,hf,hg];rfl
theorem all_cons {P:ND→Bool} {k:Int} {t:Tx} {n:Int} {ks r:F} (h:(F.cons k t n ks r).flat.all P=true):P (k,t,n,(ks.cnt:Int))=true∧ks.flat.all P=true∧r.flat.all P=true:=by have h:((k,t,n,(ks.cnt:Int))::(ks.flat++r.flat)).all P=true:=h;rw [List.all_cons,List.all_append,zd,zd] at h;exact h
theorem z4i:∀n,(anyF n).flat.all patQ=true
 |0=>rfl
 |n+1=>by show ((21,([]:Tx),0,0)::(([]:List ND)++(anyF n).flat)).all patQ=true;rw [List.nil_append,List.all_cons,z4i n];rfl
def q0t (c:Tx) (m:Nat):F→Option F
 |.nil=>none
 |.cons k t _ ks r=>bif q0l k then some ((anyF m).app r) else bif eqI k 24&&eqS t c then some (ks.app r) else none
def q3f:F→Option F
 |.nil=>none
 |.cons k _ _ _ r=>bif q0l k then some r else none
def q0i (k:Int) (t:Tx) (n:Int):F→Bool
 |.nil=>false
 |.cons k' t' n' _ _=>eqI k' k&&(eqS t' t&&eqI n' n)
def q21:F→Bool
 |.nil=>true
 |.cons k _ _ _ _=>q0l k
theorem q1x {k:Int} (h:q0l k=true) (t:Tx) (n:Int) (ks:F) (k':Int) (t':Tx) (n':Int) (ks':F):(q2l k t n ks k' t' n' ks').isSome=true:=by
 unfold q0l at h;unfold q2l;cases e1:eqI k 21 with
 |true=>rfl
 |false=>rw [e1,Bool.false_or] at h;rw [h];rfl
theorem qq7 (c:Tx) (n':Int) (ks' r':F):∀f:F,f.flat.all patQ=true→(∀k t n ks r,f=.cons k t n ks r→(eqI k 24&&eqS t c)=true→ks.cnt=ks'.cnt)→f≠.nil→mt f (.cons 53 c n' ks' r')=match q0t c ks'.cnt f with|some g=>mt g (ks'.app r')|none=>false
 |.nil,_,_,h=>absurd rfl h
 |.cons k t n ks r,hQ,hc,_=>by
  rw [q1a];have hu:q0t c ks'.cnt (.cons k t n ks r)=bif q0l k then some ((anyF ks'.cnt).app r) else bif eqI k 24&&eqS t c then some (ks.app r) else none:=rfl
  rw [hu];cases hw:q0l k with
  |true=>rw [q1x hw];show (true&&mt r r')=mt ((anyF ks'.cnt).app r) (ks'.app r');rw [q5w _ _ _ _ (q5v _),qwf _ _ rfl]
  |false=>
   have hP:=(all_cons hQ).1;unfold patQ patP at hP;simp only [zd] at hP;have k1:(21:Int)≤k:=zt hP.1.1;have k2:k≤(24:Int):=zt hP.1.2;unfold q0l at hw;rw [Bool.or_eq_false_iff] at hw;have n21:k≠21:=fun e=>by rw [e] at hw;cases hw.1
   have n22:k≠22:=fun e=>by rw [e] at hw;cases hw.2
   unfold q2l;rw [hw.1,hw.2];by_cases e23:k=23
   ·subst e23;rfl
   ·have e24:k=24:=by omega
    subst e24;have z1:eqI 24 23=false:=rfl;have z2:eqI 53 53=true:=rfl;have z3:eqI 24 24=true:=rfl;simp only [z1,z2,z3,cond_false,Bool.true_and];cases ht:eqS t c with
    |false=>
     have:eqS c t=false:=by
      cases h:eqS c t with
      |false=>rfl
      |true=>rw [eqS_eq.1 h,q12] at ht;cases ht
     rw [this];rfl
    |true=>have hf:=eqS_eq.1 ht;have he:=hc 24 t n ks r rfl (by rw [ht];rfl);rw [hf,q12,zA he.symm];show ((q5g ks ks').isSome&&mt r r')=mt (ks.app r) (ks'.app r');rw [q5w _ _ _ _ he];rfl
end Fn
end Ev

namespace Ev
open Go
namespace Fn
def RowOf (r:SSN) (f:F):Prop:=r.l.map Sl.l=f.trees
def RS (s:SR) (fs:List F):Prop:=s.l.map (fun r=>r.l.map Sl.l)=fs.map F.trees
theorem RS.len {s:SR} {fs:List F} (h:RS s fs):s.l.length=fs.length:=by
 have:=congrArg List.length h
 rwa [zm,zm] at this
theorem RS.get {s:SR} {fs:List F} (h:RS s fs) {i:Nat} {r:SSN} (hr:s.l[i]?=some r):∃f,fs[i]?=some f∧RowOf r f:=by
 have h1:(s.l.map (fun r=>r.l.map Sl.l))[i]?=some (r.l.map Sl.l):=getM hr;rw [show s.l.map (fun r=>r.l.map Sl.l)=fs.map F.trees from h,zT] at h1;cases hf:fs[i]? with
 |none=>rw [hf] at h1;cases h1
 |some f=>rw [hf] at h1;injection h1 with h1;exact ⟨f,rfl,h1.symm⟩
theorem RowOf.len {r:SSN} {f:F} (h:RowOf r f):r.l.length=f.cnt:=by
 have:=congrArg List.length h
 rwa [zm,F.trees_len] at this
theorem RowOf.cons {r:SSN} {k:Int} {t:Tx} {n:Int} {ks g:F} (h:RowOf r (.cons k t n ks g)):∃(b:Bool) (rest:List SN),r.l=⟨b,(tr k t n ks).flat⟩::rest∧rest.map Sl.l=g.trees:=by
 unfold RowOf at h;cases hr:r.l with
 |nil=>rw [hr] at h;cases h
 |cons a rest=>rw [hr] at h;injection h with h1 h2;obtain ⟨b,l⟩:=a;have h1:l=(tr k t n ks).flat:=h1;subst h1;exact ⟨b,rest,rfl,h2⟩
theorem cut1 {a:SN} {rest:List SN}:cutL (a::rest) 1 (lenI (a::rest))=some rest:=by unfold cutL lenI;rw [if_pos ⟨by omega,by rw [zw];omega,Int.le_refl _⟩,Int.toNat_natCast,List.take_length];rfl
theorem qf2 (k:Int) (t:Tx) (n:Int) (s:SR) (fs:List F) (h:RS s fs) (hn:∀f,f∈fs→f≠.nil) (hl:fs.length≤1000):f_b9 (k,t,n,s,())=some (fs.any (q0i k t n),s,()):=by
 have hc:=h.len;have e:=q2i l1_d7 (fun i=>(s,k,t,n,lenI s.l,i,())) (fun z=>(z,())) s.l (by omega) (fun r=>(r.l.headD ⟨true,[]⟩).l.head?.elim false fun x=>eqI x.1 k&&(eqS x.2.1 t&&eqI x.2.2.1 n))
  (fun i r hr hi=>by
   obtain ⟨f,hf,he⟩:=h.get hr;cases f with
   |nil=>exact absurd rfl (hn _ (zn hf))
   |cons k' t' n' ks' g=>
    obtain ⟨b,rest,e1,e2⟩:=he.cons;have h0:at? r.l 0=some ⟨b,(tr k' t' n' ks').flat⟩:=by rw [e1];rfl
    have h1:at? (tr k' t' n' ks').flat 0=some (k',t',n',(ks'.cnt:Int)):=q05 (i:=0) rfl;unfold l1_d7;simp only [ltG hr,q02,q05 hr,q00,u_ba,h0,h1,add1 (show i≤1000000000 by omega)];rw [e1];show _=some (bif eqI k' k&&(eqS t' t&&eqI n' n) then _ else _);cases eqI k' k<;>cases eqS t' t<;>cases eqI n' n<;>rfl)
  (by
   unfold l1_d7;simp only [ltE,q01])
 have hj:(s.l.any fun r=>(r.l.headD ⟨true,[]⟩).l.head?.elim false fun x=>eqI x.1 k&&(eqS x.2.1 t&&eqI x.2.2.1 n))=fs.any (q0i k t n):=by
  clear e hl hc;obtain ⟨ns,sl⟩:=s;replace h:sl.map (fun r=>r.l.map Sl.l)=fs.map F.trees:=h;show (sl.any _)=_
  induction sl generalizing fs with
  |nil=>cases fs with
   |nil=>rfl
   |cons _ _=>cases h
  |cons r sl ih=>cases fs with
   |nil=>cases h
   |cons f fs=>
    injection h with h1 h2;rw [List.any_cons,List.any_cons,ih fs (fun g hg=>hn g (zf _ hg)) h2];congr 1;cases f with
    |nil=>exact absurd rfl (hn _ (ze ..))
    |cons k' t' n' ks' g=>obtain ⟨b,rest,e1,e2⟩:=(show RowOf r (.cons k' t' n' ks' g) from h1).cons;rw [e1];rfl
 rw [u_b9,u_cw,u_d7,e,q00,q00,q3l,hj]
theorem qf3 (s:SR) (fs:List F) (h:RS s fs) (hn:∀f,f∈fs→f≠.nil) (hl:fs.length≤1000):f_cx (s,())=some (fs.any fun f=>!q21 f,()):=by
 have hc:=h.len;have e:=q2i l1_d8 (fun i=>(s,lenI s.l,i,())) (fun z=>(z,())) s.l (by omega) (fun r=>(r.l.headD ⟨true,[]⟩).l.head?.elim false fun x=>!q0l x.1)
  (fun i r hr hi=>by
   obtain ⟨f,hf,he⟩:=h.get hr;cases f with
   |nil=>exact absurd rfl (hn _ (zn hf))
   |cons k' t' n' ks' g=>
    obtain ⟨b,rest,e1,e2⟩:=he.cons;have h0:at? r.l 0=some ⟨b,(tr k' t' n' ks').flat⟩:=by rw [e1];rfl
    have hw:=qb7 ⟨b,(tr k' t' n' ks').flat⟩ (k',t',n',(ks'.cnt:Int)) rfl;unfold l1_d8;simp only [ltG hr,q02,q05 hr,q00,u_bc,h0,hw,add1 (show i≤1000000000 by omega)];rw [e1];show _=some (bif !q0l k' then _ else _);cases q0l k'<;>rfl)
  (by
   unfold l1_d8;simp only [ltE,q01])
 have hj:(s.l.any fun r=>(r.l.headD ⟨true,[]⟩).l.head?.elim false fun x=>!q0l x.1)=fs.any fun f=>!q21 f:=by
  clear e hl hc;obtain ⟨ns,sl⟩:=s;replace h:sl.map (fun r=>r.l.map Sl.l)=fs.map F.trees:=h;show (sl.any _)=_
  induction sl generalizing fs with
  |nil=>cases fs with
   |nil=>rfl
   |cons _ _=>cases h
  |cons r sl ih=>cases fs with
   |nil=>cases h
   |cons f fs=>
    injection h with h1 h2;rw [List.any_cons,List.any_cons,ih fs (fun g hg=>hn g (zf _ hg)) h2];congr 1;cases f with
    |nil=>exact absurd rfl (hn _ (ze ..))
    |cons k' t' n' ks' g=>obtain ⟨b,rest,e1,e2⟩:=(show RowOf r (.cons k' t' n' ks' g) from h1).cons;rw [e1];rfl
 rw [u_cx,u_d8,e,q00,q3l,hj]
theorem qlf (cs:Sl CT) (hc:cs.l.length≤1000) (s:SR) (fs:List F) (h:RS s fs) (hn:∀f,f∈fs→f≠.nil) (hl:fs.length≤1000):f_di (cs,s,())=some (ixP (fun c:CT=>!fs.any (q0i 24 c.1 0)) 0 cs.l,s,()):=by
 rw [u_di];refine q2i l1_di (fun i=>(cs,lenI cs.l,i,s,())) (fun z=>(z,s,())) cs.l (by omega) (fun c:CT=>!fs.any (q0i 24 c.1 0)) ?_ ?_
 ·intro i c hx hi;obtain ⟨cn,ca⟩:=c;have hb:=qf2 24 cn 0 s fs h hn hl;unfold l1_di;simp only [ltG hx,q02,q05 hx,q00,u_bb,hb,add1 (show i≤1000000000 by omega)];cases fs.any (q0i 24 cn 0)<;>rfl
 ·unfold l1_di;simp only [ltE,q01]
theorem q45 {α β:Type} (g:α→Option β) (l:List α) (x:α):(l++[x]).filterMap g=l.filterMap g++(g x).toList:=by rw [List.filterMap_append];congr 1
theorem qf4 {α:Type} {l:List α} {i:Nat} {x:α} (h:l[i]?=some x):l.take (i+1)=l.take i++[x]:=by rw [List.take_add_one,h];rfl
theorem qf5 (s:SR) (fs:List F) (h:RS s fs) (hn:∀f,f∈fs→f≠.nil) (hl:fs.length≤1000):∃s',f_bm (s,())=some (s',())∧RS s' (fs.filterMap q3f):=by
 have hg:=h.len;rw [u_bm];have:=q1d (f:=l1_bm) (I:=fun z=>∃(i:Nat) (o:SR),z=(s,lenI s.l,(i:Int),o,())∧i≤fs.length∧o.l.length≤i∧RS o ((fs.take i).filterMap q3f)) (Q:=fun r=>∃s',r=(s',())∧RS s' (fs.filterMap q3f)) (fun z=>((fs.length:Int)-z.2.2.1).toNat) ?_ (s,lenI s.l,0,⟨true,[]⟩,()) ⟨0,⟨true,[]⟩,rfl,Nat.zero_le _,Nat.le_refl _,rfl⟩
 ·obtain ⟨r,h1,s',h2,h3⟩:=this;exact ⟨s',by rw [h1,h2],h3⟩
 ·rintro z ⟨i,⟨no,o⟩,rfl,hi,ho,hR⟩;have ho:o.length≤i:=ho;by_cases h1:i<fs.length
  ·obtain ⟨r,hr⟩:∃r,s.l[i]?=some r:=⟨_,zh (by omega)⟩;obtain ⟨f,hf,hj⟩:=h.get hr;have hs:=qf4 hf;cases f with
   |nil=>exact absurd rfl (hn _ (zn hf))
   |cons k t n ks g=>
    obtain ⟨b,rest,e1,e2⟩:=hj.cons;obtain ⟨rn,rl⟩:=r;have e1:rl=_:=e1;subst e1;have h0:at? ((⟨b,(tr k t n ks).flat⟩:SN)::rest) 0=some ⟨b,(tr k t n ks).flat⟩:=rfl;have hw:=qb7 ⟨b,(tr k t n ks).flat⟩ (k,t,n,(ks.cnt:Int)) rfl;have hm:cutL ((⟨b,(tr k t n ks).flat⟩:SN)::rest) 1 (lenI ((⟨b,(tr k t n ks).flat⟩:SN)::rest))=some rest:=cut1;have hq:fit (sumI (lenI o) (lenI [(⟨rn,rest⟩:SSN)]))=some ():=q0g (by show o.length+1≤_;omega);have hc:=add1 (show i≤1000000000 by omega);refine .inl ?_;cases he:q0l k with
    |true=>
     refine ⟨(s,lenI s.l,((i+1:Nat):Int),⟨false,o++[⟨rn,rest⟩]⟩,()),?_,⟨i+1,_,rfl,h1,by show (o++[_]).length≤_;rw [zp];show o.length+1≤_;omega,?_⟩,by simp only;omega⟩
     ·unfold l1_bm;simp only [ltG hr,q02,q05 hr,q00,h0,hw,he,hm,hq,q13,app,hc]
     ·rw [hs,q45];have:q3f (.cons k t n ks g)=some g:=by show (bif q0l k then some g else none)=_;rw [he];rfl
      rw [this];show (o++[(⟨rn,rest⟩:SSN)]).map _=_;rw [zE,zE,show o.map _=_ from hR];show _++[rest.map Sl.l]=_++[g.trees];rw [e2]
    |false=>
     refine ⟨(s,lenI s.l,((i+1:Nat):Int),⟨no,o⟩,()),?_,⟨i+1,_,rfl,h1,by show o.length≤_;omega,?_⟩,by simp only;omega⟩
     ·unfold l1_bm;simp only [ltG hr,q02,q05 hr,q00,h0,hw,he,q01,hc]
     ·rw [hs,q45];have:q3f (.cons k t n ks g)=none:=by show (bif q0l k then some g else none)=_;rw [he];rfl
      rw [this];show RS _ (_++[]);rw [zG];exact hR
  ·obtain rfl:i=fs.length:=by omega
   refine .inr ⟨(⟨no,o⟩,()),?_,⟨no,o⟩,rfl,?_⟩
   ·unfold l1_bm;simp only [←hg,ltE,q01]
   ·rw [List.take_length] at hR;exact hR
end Fn
end Ev

namespace Ev
open Go
namespace Fn
theorem RS.snoc {nb nb':Bool} {o:List SSN} {gs:List F} {r:SSN} {g:F} (h:RS ⟨nb,o⟩ gs) (hr:RowOf r g):RS ⟨nb',o++[r]⟩ (gs++[g]):=by show (o++[r]).map _=(gs++[g]).map _;rw [zE,zE,show o.map _=gs.map _ from h];show _++[r.l.map Sl.l]=_++[g.trees];rw [show r.l.map Sl.l=g.trees from hr]
theorem qf6 {a c:List SN} {f g:F} {nb:Bool} (ha:a.map Sl.l=f.trees) (hc:c.map Sl.l=g.trees):RowOf ⟨nb,a++c⟩ (f.app g):=by show (a++c).map Sl.l=_;rw [zE,ha,hc,qba]
theorem qsi (c:Tx) (m:Nat) (hm:m≤1000) (s:SR) {i:Nat} {r:SSN} (hr:s.l[i]?=some r) (hi:i≤1000) {f:F} (hs:RowOf r f) (hn:f≠.nil) (hQ:f.flat.all patQ=true) (hk:f.size≤9999) (no:Bool) (o:List SSN) (ho:o.length≤1000):∃s',l1_bq ((m:Int),s,lenI s.l,(i:Int),24,c,0,0,⟨no,o⟩,())=some (.inl ((m:Int),s,lenI s.l,((i+1:Nat):Int),24,c,0,0,s',()))∧match q0t c m f with
   |some g=>∃nb r',s'=⟨nb,o++[r']⟩∧RowOf r' g
   |none=>s'=⟨no,o⟩:=by
 cases f with
 |nil=>exact absurd rfl hn
 |cons k t n ks g=>
  have hg:(F.cons k t n ks g).size=ks.size+g.size+1:=rfl;obtain ⟨b,rest,e1,e2⟩:=hs.cons;obtain ⟨rn,rl⟩:=r;have e1:rl=_:=e1;subst e1;have hz:rest.length=g.cnt:=by rw [←F.trees_len,←e2,zm]
  have hA:g.cnt≤g.size:=F.cnt_le g;have hB:ks.cnt≤ks.size:=F.cnt_le ks;have h0:at? ((⟨b,(tr k t n ks).flat⟩:SN)::rest) 0=some ⟨b,(tr k t n ks).flat⟩:=rfl;have h1:at? (tr k t n ks).flat 0=some (k,t,n,(ks.cnt:Int)):=q05 (i:=0) rfl;have hw:=qb7 ⟨b,(tr k t n ks).flat⟩ (k,t,n,(ks.cnt:Int)) rfl;have hf:cutL ((⟨b,(tr k t n ks).flat⟩:SN)::rest) 1 (lenI ((⟨b,(tr k t n ks).flat⟩:SN)::rest))=some rest:=cut1;have hj:∀x:SSN,fit (sumI (lenI o) (lenI [x]))=some ():=fun x=>q0g (by show o.length+1≤_;omega);have hc:=add1 (show i≤1000000000 by omega);have hP:=(all_cons hQ).1;unfold patQ at hP;simp only [zd] at hP;have hu:q0t c m (.cons k t n ks g)=bif q0l k then some ((anyF m).app g) else bif eqI k 24&&eqS t c then some (ks.app g) else none:=rfl
  rw [hu];cases hq:q0l k with
  |true=>
   obtain ⟨nb,hl⟩:=q8e m (by omega);obtain ⟨nb',ht⟩:=q0r false ⟨nb,List.replicate m anyS⟩ ⟨rn,rest⟩ (by show (List.replicate m anyS).length+rest.length≤_;rw [List.length_replicate];omega);refine ⟨⟨false,o++[⟨nb',List.replicate m anyS++rest⟩]⟩,?_,false,_,rfl,qf6 ?_ e2⟩
   ·unfold l1_bq;simp only [ltG hr,q02,q05 hr,q00,h0,hw,hq,hl,hf,ht,hj,hc,q13,app]
   ·rw [q6q,List.map_replicate];rfl
  |false=>
   cases he:eqI k 24 with
   |false=>refine ⟨⟨no,o⟩,?_,rfl⟩;unfold l1_bq;simp only [ltG hr,q02,q05 hr,q00,h0,hw,hq,h1,he,q01,hc]
   |true=>
    cases hv:eqS t c with
    |false=>refine ⟨⟨no,o⟩,?_,rfl⟩;unfold l1_bq;simp only [ltG hr,q02,q05 hr,q00,h0,hw,hq,h1,he,hv,q01,hc]
    |true=>
     have hx:eqI n 0=true:=by have:=hP.2.2;rw [he] at this;exact this
     obtain ⟨nb,hy⟩:=q6n b k t n ks (by omega);obtain ⟨nb',ht⟩:=q0r false ⟨nb,ks.trees.map fun l=>(⟨b,l⟩:SN)⟩ ⟨rn,rest⟩ (by show (ks.trees.map _).length+rest.length≤_;rw [zm,F.trees_len];omega);refine ⟨⟨false,o++[⟨nb',(ks.trees.map fun l=>(⟨b,l⟩:SN))++rest⟩]⟩,?_,false,_,rfl,qf6 ?_ e2⟩
     ·unfold l1_bq;simp only [ltG hr,q02,q05 hr,q00,h0,hw,hq,h1,he,hv,hx,q01,hy,hf,ht,hj,hc,q13,app]
     ·rw [zW];exact List.map_id _
theorem q90 (c:Tx) (m:Nat) (hm:m≤1000) (s:SR) (fs:List F) (h:RS s fs) (hn:∀f,f∈fs→f≠.nil) (hQ:∀f,f∈fs→f.flat.all patQ=true) (hk:∀f,f∈fs→f.size≤9999) (hl:fs.length≤1000):∃s',f_bq (s,(24,c,0,0),(m:Int),())=some (s',())∧RS s' (fs.filterMap (q0t c m)):=by
 have he:=h.len;rw [u_bq];have:=q1d (f:=l1_bq) (I:=fun z=>∃(i:Nat) (o:SR),z=((m:Int),s,lenI s.l,(i:Int),24,c,0,0,o,())∧i≤fs.length∧o.l.length≤i∧RS o ((fs.take i).filterMap (q0t c m))) (Q:=fun r=>∃s',r=(s',())∧RS s' (fs.filterMap (q0t c m))) (fun z=>((fs.length:Int)-z.2.2.2.1).toNat) ?_ ((m:Int),s,lenI s.l,0,24,c,0,0,⟨true,[]⟩,()) ⟨0,⟨true,[]⟩,rfl,Nat.zero_le _,Nat.le_refl _,rfl⟩
 ·obtain ⟨r,h1,s',h2,h3⟩:=this;exact ⟨s',by rw [h1,h2],h3⟩
 ·rintro z ⟨i,⟨no,o⟩,rfl,hi,ho,hR⟩;have ho:o.length≤i:=ho;by_cases h1:i<fs.length
  ·obtain ⟨r,hr⟩:∃r,s.l[i]?=some r:=⟨_,zh (by omega)⟩;obtain ⟨f,hf,hg⟩:=h.get hr;have hc:=zn hf;obtain ⟨s',g1,g2⟩:=qsi c m hm s hr (by omega) hg (hn f hc) (hQ f hc) (hk f hc) no o (by omega);refine .inl ⟨_,g1,⟨i+1,s',rfl,h1,?_,?_⟩,by simp only;omega⟩
   ·cases hu:q0t c m f with
    |some g=>rw [hu] at g2;obtain ⟨nb,r',rfl,_⟩:=g2;show (o++[r']).length≤_;rw [zp];show o.length+1≤_;omega
    |none=>rw [hu] at g2;rw [g2];show o.length≤_;omega
   ·rw [qf4 hf,q45];cases hu:q0t c m f with
    |some g=>rw [hu] at g2;obtain ⟨nb,r',rfl,hj⟩:=g2;exact hR.snoc hj
    |none=>rw [hu] at g2;rw [g2];show RS _ (_++[]);rw [zG];exact hR
  ·obtain rfl:i=fs.length:=by omega
   refine .inr ⟨(⟨no,o⟩,()),?_,⟨no,o⟩,rfl,?_⟩
   ·unfold l1_bq;simp only [←he,ltE,q01]
   ·rw [List.take_length] at hR;exact hR
end Fn
end Ev

namespace Ev
open Go
namespace Fn
def q1h:List F→Nat
 |[]=>0
 |f::fs=>f.clo+q1h fs
def mu (fs:List F) (n:Nat):Nat:=20*q1h fs+n
theorem F.cut2:∀(W:F) (m:Nat),m≤W.cnt→∃p q:F,W=p.app q∧p.cnt=m
 |W,0,_=>⟨.nil,W,rfl,rfl⟩
 |.nil,m+1,h=>absurd (show m+1≤0 from h) (by omega)
 |.cons k t n ks r,m+1,h=>by obtain ⟨p,q,e,hc⟩:=F.cut2 r m (by have h:m+1≤r.cnt+1:=h;omega);exact ⟨.cons k t n ks p,q,by rw [e];rfl,by show p.cnt+1=_;rw [hc]⟩
theorem q3m (u:F→Option F) (h:∀f g,u f=some g→g.clo≤f.clo):∀fs:List F,q1h (fs.filterMap u)≤q1h fs∧∀x,x∈fs→(u x).elim 0 F.clo+1≤x.clo→q1h (fs.filterMap u)+1≤q1h fs
 |[]=>⟨Nat.le_refl _,fun x hx=>by cases hx⟩
 |f::fs=>by
  obtain ⟨h1,h2⟩:=q3m u h fs;have e:q1h ((f::fs).filterMap u)=(u f).elim 0 F.clo+q1h (fs.filterMap u):=by
   cases hu:u f with
   |none=>rw [List.filterMap_cons_none hu];exact (zN _).symm
   |some g=>rw [List.filterMap_cons_some hu];rfl
  have h3:(u f).elim 0 F.clo≤f.clo:=by
   cases hu:u f with
   |none=>exact Nat.zero_le _
   |some g=>exact h f g hu
  have e2:q1h (f::fs)=f.clo+q1h fs:=rfl;rw [e,e2];refine ⟨by omega,fun x hx hc=>?_⟩;rcases zj.1 hx with rfl|hx
  ·omega
  ·have:=h2 x hx hc;omega
theorem qf7 {α β:Type} (u:α→Option β) (l:List α):(l.filterMap u).length≤l.length:=List.length_filterMap_le u l
theorem qwg (L:List DD) (T:List ND) (k:Int) (hk:k=24∨k=53) (t:Tx) (c:Nat) (rec:List (List ND)→Bool):ofN L T k t c rec=match q2d L T t with|none=>false|some As=>decide (As.length=c)&&rec As:=by rcases hk with rfl|rfl<;>rfl
theorem qlg {L:List DD} {T:List ND} {Ts:List (List ND)} {k:Int} (hk:k=24∨k=53) {t:Tx} {n:Int} {ks r:F} (h:ofF L (.cons k t n ks r) (T::Ts)=true):∃As,q2d L T t=some As∧As.length=ks.cnt∧ofF L ks As=true∧ofF L r Ts=true:=by
 have h:(ofN L T k t ks.cnt (fun As=>ofF L ks As)&&ofF L r Ts)=true:=h;rw [zd,qwg L T k hk] at h;cases hA:q2d L T t with
 |none=>rw [hA] at h;cases h.1
 |some As=>rw [hA] at h;obtain ⟨h1,h2⟩:=h;have h1:(decide (As.length=ks.cnt)&&ofF L ks As)=true:=h1;rw [zd] at h1;exact ⟨As,rfl,zt h1.1,h1.2,h2⟩
theorem qir {L:List DD} {T:List ND} {Ts:List (List ND)} {k:Int} {t:Tx} {n:Int} {ks r:F} (h:ofF L (.cons k t n ks r) (T::Ts)=true):ofF L r Ts=true:=by have h:(ofN L T k t ks.cnt (fun As=>ofF L ks As)&&ofF L r Ts)=true:=h;rw [zd] at h;exact h.2
theorem q28 (k:Int) (t:Tx) (n:Int) (ks r:F):(F.cons k t n ks r).clo=(bif q0l k then 0 else 1)+ks.clo+r.clo:=rfl
theorem qf8 {L:List DD} {T:List ND} {Ts As:List (List ND)} {c:Tx} {m:Nat} (hA:q2d L T c=some As) (hm:As.length=m) {f g:F} (he:ofF L f (T::Ts)=true) (hQ:f.flat.all patQ=true) (hu:q0t c m f=some g):g.cnt+1=m+f.cnt∧g.flat.all patQ=true∧g.size≤f.size+m∧ofF L g (As++Ts)=true∧g.clo≤f.clo:=by
 cases f with
 |nil=>cases hu
 |cons k t n ks r=>
  have hu:(bif q0l k then some ((anyF m).app r) else bif eqI k 24&&eqS t c then some (ks.app r) else none)=some g:=hu;have hc:(F.cons k t n ks r).cnt=r.cnt+1:=rfl;have hs:(F.cons k t n ks r).size=ks.size+r.size+1:=rfl;have hP:=all_cons hQ;have ht:=qir he;cases hw:q0l k with
  |true=>
   rw [hw] at hu;injection hu with hu;subst hu
   refine ⟨by rw [F.app_cnt,q5v];omega,qnm (z4i m) hP.2.2,by rw [qbb,q6r];omega,?_,?_⟩
   ·rw [qq6 L _ _ _ _ (by rw [q5v];exact hm),z10 L m As hm,ht];rfl
   ·rw [q4k,qb9,q28];omega
  |false=>
   cases hk:eqI k 24&&eqS t c with
   |false=>rw [hw,hk] at hu;cases hu
   |true=>
    rw [hw,hk] at hu;injection hu with hu;subst hu
    rw [zd] at hk;have e1:k=24:=zt hk.1;have e2:=eqS_eq.1 hk.2;subst e1 e2;obtain ⟨As',a1,a2,a3,a4⟩:=qlg (.inl rfl) he;rw [hA] at a1;injection a1 with a1;subst a1
    refine ⟨by rw [F.app_cnt];omega,qnm hP.2.1 hP.2.2,by rw [qbb];omega,?_,?_⟩
    ·rw [qq6 L _ _ _ _ a2,a3,a4];rfl
    ·rw [q4k,q28];omega
theorem qlh {L:List DD} {T:List ND} {Ts As:List (List ND)} {c:Tx} {m:Nat} (hA:q2d L T c=some As) (hm:As.length=m) {f:F} (hc:ofF L f (T::Ts)=true):∀k t n ks r,f=.cons k t n ks r→(eqI k 24&&eqS t c)=true→ks.cnt=m:=by rintro k t n ks r rfl hk;rw [zd] at hk;have e1:k=24:=zt hk.1;have e2:=eqS_eq.1 hk.2;subst e1 e2;obtain ⟨As',a1,a2,a3,a4⟩:=qlg (.inl rfl) hc;rw [hA] at a1;injection a1 with a1;subst a1;omega
theorem qcb {c:Tx} {m:Nat} {f:F} (h:q0i 24 c 0 f=true):(q0t c m f).elim 0 F.clo+1≤f.clo:=by
 cases f with
 |nil=>cases h
 |cons k t n ks r=>
  have h:(eqI k 24&&(eqS t c&&eqI n 0))=true:=h;rw [zd,zd] at h;have e1:k=24:=zt h.1;subst e1;have hu:q0t c m (.cons 24 t n ks r)=bif eqI 24 24&&eqS t c then some (ks.app r) else none:=rfl
  rw [hu,h.2.1];show (ks.app r).clo+1≤_;rw [q4k,q28];show _≤1+ks.clo+r.clo;omega
theorem qis {L:List DD} {T:List ND} {Ts:List (List ND)} {f g:F} (hc:ofF L f (T::Ts)=true) (hQ:f.flat.all patQ=true) (hu:q3f f=some g):g.cnt+1=f.cnt∧g.flat.all patQ=true∧g.size≤f.size∧ofF L g Ts=true∧g.clo≤f.clo:=by
 cases f with
 |nil=>cases hu
 |cons k t n ks r=>
  have hu:(bif q0l k then some r else none)=some g:=hu;have hs:(F.cons k t n ks r).size=ks.size+r.size+1:=rfl;cases hw:q0l k with
  |false=>rw [hw] at hu;cases hu
  |true=>
   rw [hw] at hu;injection hu with hu;subst hu
   exact ⟨rfl,(all_cons hQ).2.2,by omega,qir hc,by rw [q28];omega⟩
theorem qf9 {f:F} (h:q21 f=false):(q3f f).elim 0 F.clo+1≤f.clo:=by
 cases f with
 |nil=>cases h
 |cons k t n ks r=>
  have h:q0l k=false:=h;have hu:q3f (.cons k t n ks r)=bif q0l k then some r else none:=rfl
  rw [hu,q28,h];show 0+1≤1+_+_;omega
theorem z02 {L:List DD} (hl:L.all q0u=true) {k:Int} {t:Tx} {n:Int} {ks:F} {d:DD} (hd:L.find? (q1e k t (ks.cnt:Int))=some d) {Ts:List (List ND)} {k':Int} {t':Tx} {n':Int} {ks' r':F} (hv:(F.cons k' t' n' ks' r').flat.all valP=true) (hj:ofF L (.cons k' t' n' ks' r') ((tr k t n ks).flat::Ts)=true):k'=53∧∃c,c∈d.2.2.l∧c.1=t':=by
 have hg:=(all_cons hv).1;unfold valP at hg;rw [zd] at hg;have k1:(51:Int)≤k':=zt hg.1;have k2:k'≤(54:Int):=zt hg.2;have hm:=zK hd;have hb:=List.find?_some hd;unfold q1e at hb;rw [zd,zd] at hb;have e32:k=32:=zt hb.1;have et:=eqS_eq.1 hb.2.1;have he:q2h t=true:=by have h1:=zS.1 hl d hm;unfold q0u at h1;rw [zd] at h1;rw [←et];exact h1.1
 have hf:ofN L (tr k t n ks).flat k' t' ks'.cnt (fun As=>ofF L ks' As)=true:=by have h:(ofN L (tr k t n ks).flat k' t' ks'.cnt (fun As=>ofF L ks' As)&&ofF L r' Ts)=true:=hj;rw [zd] at h;exact h.1
 rcases (show k'=51∨k'=52∨k'=53∨k'=54 by omega) with rfl|rfl|rfl|rfl
 ·have h:eqS t [105,110,116]=true:=hf;rw [eqS_eq.1 h] at he;exact absurd he (by decide+kernel)
 ·have h:eqS t [116,101,120,116]=true:=hf;rw [eqS_eq.1 h] at he;exact absurd he (by decide+kernel)
 ·refine ⟨rfl,?_⟩;obtain ⟨As,a1,_⟩:=qlg (.inr rfl) hj;rw [q8z] at a1;cases hc:conV L k t (ks.cnt:Int) t' with
  |none=>rw [hc] at a1;cases a1
  |some c=>unfold conV at hc;rw [hd] at hc;have hc:d.2.2.l.find? (fun x=>eqS x.1 t')=some c:=hc;exact ⟨c,zK hc,eqS_eq.1 (List.find?_some (p:=fun x:CT=>eqS x.1 t') hc)⟩
 ·have h:(eqI k 31||(eqS t [45,62]||eqS t [114,101,102]))=true:=hf;rw [e32] at h;have h:(eqS t [45,62]||eqS t [114,101,102])=true:=h;rcases Bool.or_eq_true _ _▸h with h|h
  ·rw [eqS_eq.1 h] at he;exact absurd he (by decide+kernel)
  ·rw [eqS_eq.1 h] at he;exact absurd he (by decide+kernel)
end Fn
end Ev

namespace Ev
open Go
namespace Fn
def qnn (L:List DD) (Ts:List (List ND)) (fs:List F) (w:SSN) (ok:Bool):Prop:=
 (ok=true→∃W:F,RowOf w W∧W.cnt=Ts.length∧W.size≤mu fs Ts.length∧GL W.flat∧∀g:F,g.cnt=Ts.length→mt W g=true→∀f,f∈fs→mt f g=false)∧
 (ok=false→∀g:F,g.cnt=Ts.length→g.flat.all valP=true→ofF L g Ts=true→∃f,f∈fs∧mt f g=true)
def q5x (L:List DD) (Ts:List (List ND)) (fs:List F):Prop:=fs.length≤1000∧∀f,f∈fs→f.cnt=Ts.length∧f.flat.all patQ=true∧f.size+mu fs Ts.length≤9999∧ofF L f Ts=true
def qcc (Ts:List (List ND)):Prop:=∀T,T∈Ts→q26 T=true
def qq8 (s:Sl DD) (M:Nat) (self:(SSN×SR×Sl DD×Unit)→Option (SSN×Bool×Sl DD×Unit)):Prop:=∀(types:SSN) (rows:SR) (Ts:List (List ND)) (fs:List F),types.l.map Sl.l=Ts→RS rows fs→q5x s.l Ts fs→qcc Ts→mu fs Ts.length≤M→∃w ok,self (types,rows,s,())=some (w,ok,s,())∧qnn s.l Ts fs w ok
def NoV (L:List DD) (Ts:List (List ND)) (fs:List F) (c:Tx):Prop:=∀(n':Int) (ks' r':F),(F.cons 53 c n' ks' r').cnt=Ts.length→(F.cons 53 c n' ks' r').flat.all valP=true→ofF L (.cons 53 c n' ks' r') Ts=true→∃f,f∈fs∧mt f (.cons 53 c n' ks' r')=true
theorem qit {α:Type} (l:List α) (m:Nat) (h:m≤l.length):cutL l 0 (m:Int)=some (l.take m):=by unfold cutL;rw [if_pos ⟨Int.le_refl _,by omega,by omega⟩];rfl
theorem qwh {α:Type} (l:List α) (m:Nat) (h:m≤l.length):cutL l (m:Int) (lenI l)=some (l.drop m):=by unfold cutL lenI;rw [if_pos ⟨by omega,by omega,Int.le_refl _⟩,Int.toNat_natCast,Int.toNat_natCast,List.take_length]
theorem z03 {c:Tx} {p q g:F} (h:mt (.cons 24 c 0 p q) g=true):∃n' ks' r',g=.cons 53 c n' ks' r'∧ks'.cnt=p.cnt∧mt p ks'=true∧mt q r'=true:=by
 cases g with
 |nil=>cases h
 |cons k' t' n' ks' r'=>
  rw [q1a,zd] at h;obtain ⟨h1,h2⟩:=h;have e:q2l 24 c 0 p k' t' n' ks'=bif eqI k' 53&&(eqS t' c&&decide (ks'.cnt=p.cnt)) then q5g p ks' else none:=rfl
  rw [e] at h1;cases hc:eqI k' 53&&(eqS t' c&&decide (ks'.cnt=p.cnt)) with
  |false=>rw [hc] at h1;cases h1
  |true=>rw [hc] at h1;rw [zd,zd] at hc;have e1:k'=53:=zt hc.1;have e2:=eqS_eq.1 hc.2.1;have e3:=zt hc.2.2;subst e1 e2;exact ⟨n',ks',r',rfl,e3,h1,h2⟩
theorem qdc {s:Sl DD} (hL:GD s.l) (hg:s.l.all q0u=true) {k:Int} {t:Tx} {n:Int} {ks:F} {d:DD} (hd:s.l.find? (q1e k t (ks.cnt:Int))=some d) (hT:q26 (tr k t n ks).flat=true) {c:CT} (hc:c∈d.2.2.l) (b:Bool):∃(nb:Bool) (al:List SN) (As:List (List ND)),f_b4 (s,⟨b,(tr k t n ks).flat⟩,c.1,())=some (⟨nb,al⟩,true,())∧al.map Sl.l=As∧q2d s.l (tr k t n ks).flat c.1=some As∧As.length≤8∧qcc As∧gT c.1:=by
 have hm:=zK hd;obtain ⟨he,_⟩:=(q20 _).1 hT;rw [q27] at he;cases hf:d.2.2.l.find? (fun x=>eqS x.1 c.1) with
 |none=>exact absurd (q12 c.1) (List.find?_eq_none.1 hf c hc)
 |some c0=>
  have hv:conV s.l k t (ks.cnt:Int) c.1=some c0:=by unfold conV;rw [hd];exact hf
  have hj:=zK hf;obtain ⟨r1,r2,r3,r4,r5,r6⟩:=q4d hg hm hj;refine ⟨_,_,c0.2.l.map fun a=>argT ks.trees a.l,qlb s hL b k t n ks he c.1 c0 hv,?_,?_,by rw [zm];exact r2,?_,((hL.2 d hm).2.2 c hc).1⟩
  ·rw [zW];exact zX fun a _=>ql8 true ks.trees a
  ·rw [q8z,hv];rfl
  ·intro A hA;obtain ⟨a,ha,rfl⟩:=zR.1 hA;exact qda hT (r3 a ha)
theorem z04 {s:Sl DD} (hL:GD s.l) (hX:s.l.all q0u=true) {M:Nat} {self:(SSN×SR×Sl DD×Unit)→Option (SSN×Bool×Sl DD×Unit)} (hn:qq8 s M self) {types:SSN} {rows:SR} {fs:List F} {b:Bool} {k:Int} {t:Tx} {n:Int} {ks:F} {tl:List SN} (hY:types.l=⟨b,(tr k t n ks).flat⟩::tl) {Ts:List (List ND)} (hJ:tl.map Sl.l=Ts) (hR:RS rows fs) (he:q5x s.l ((tr k t n ks).flat::Ts) fs) (ho:qcc ((tr k t n ks).flat::Ts)) (hmu:mu fs (Ts.length+1)≤M+1) (hM:M≤8000) {d:DD} (hd:s.l.find? (q1e k t (ks.cnt:Int))=some d) {i:Nat} {c:CT} (hc:d.2.2.l[i]?=some c) (hi:i≤1000) (hz:fs.any (q0i 24 c.1 0)=true):(l1_b8 self (types,⟨b,(tr k t n ks).flat⟩,d.2.2,lenI d.2.2.l,(i:Int),s,rows,())=some (.inl (types,⟨b,(tr k t n ks).flat⟩,d.2.2,lenI d.2.2.l,((i+1:Nat):Int),s,rows,()))∧NoV s.l ((tr k t n ks).flat::Ts) fs c.1)∨(∃w,l1_b8 self (types,⟨b,(tr k t n ks).flat⟩,d.2.2,lenI d.2.2.l,(i:Int),s,rows,())=some (.inr (w,true,s,()))∧qnn s.l ((tr k t n ks).flat::Ts) fs w true):=by
 have hT:=ho _ (ze ..);obtain ⟨nb,al,As,ha,hK,hA,h8,hZ,hN⟩:=qdc hL hX hd hT (zn hc) b;have hB:al.length=As.length:=by rw [←hK,zm]
 have h0:tl.length=Ts.length:=by rw [←hJ,zm]
 have hC:mu fs (Ts.length+1)=20*q1h fs+(Ts.length+1):=rfl;obtain ⟨nb1,hy⟩:=q0r false ⟨nb,al⟩ ⟨types.nil,tl⟩ (by show al.length+tl.length≤_;omega);have hy:f_ck (⟨false,[⟨nb,al⟩,⟨types.nil,tl⟩]⟩,())=some (⟨nb1,al++tl⟩,()):=hy;have hO:∀f,f∈fs→f≠.nil:=fun f hf e=>by have:=(he.2 f hf).1;rw [e] at this;exact absurd this (by show ¬(0=Ts.length+1);omega)
 obtain ⟨rows',hP,h5⟩:=q90 c.1 As.length (by omega) rows fs hR hO (fun f hf=>(he.2 f hf).2.1) (fun f hf=>by have:=(he.2 f hf).2.2.1;omega) he.1;have hD:=q3m (q0t c.1 As.length) (fun f g hu=>by
  cases f with
  |nil=>cases hu
  |cons k t n ks r=>
   have hu:(bif q0l k then some ((anyF As.length).app r) else bif eqI k 24&&eqS t c.1 then some (ks.app r) else none)=some g:=hu;rw [q28];cases hw:q0l k with
   |true=>rw [hw] at hu;injection hu with hu;subst hu;rw [q4k,qb9];omega
   |false=>
    cases hk:eqI k 24&&eqS t c.1 with
    |false=>rw [hw,hk] at hu;cases hu
    |true=>rw [hw,hk] at hu;injection hu with hu;subst hu;rw [q4k];omega) fs
 obtain ⟨x,hx,h6⟩:=zJ.1 hz;have hQ:=hD.2 x hx (qcb h6);have hj:(As++Ts).length=As.length+Ts.length:=zp;have h7:mu (fs.filterMap (q0t c.1 As.length)) (As++Ts).length+13≤mu fs (Ts.length+1):=by rw [hj,hC];show 20*q1h (fs.filterMap _)+(As.length+Ts.length)+13≤_;omega
 have hl:q5x s.l (As++Ts) (fs.filterMap (q0t c.1 As.length)):=by refine ⟨Nat.le_trans (qf7 _ _) he.1,fun g hg=>?_⟩;obtain ⟨f,hf,hu⟩:=zL.1 hg;obtain ⟨q1,q2,q3,q4⟩:=he.2 f hf;obtain ⟨p1,p2,p3,p4,_⟩:=qf8 hA rfl q4 q2 hu;have q1:f.cnt=Ts.length+1:=q1;have q3:f.size+mu fs (Ts.length+1)≤9999:=q3;exact ⟨by omega,p2,by omega,p4⟩
 obtain ⟨w,ok,hs,hF⟩:=hn ⟨nb1,al++tl⟩ rows' (As++Ts) _ (by show (al++tl).map Sl.l=_;rw [zE,hK,hJ]) h5 hl (fun T h=>by
  rcases zo.1 h with h|h
  ·exact hZ T h
  ·exact ho T (zf _ h)) (by omega)
 have hS:lenI al=((As.length:Nat):Int):=by unfold lenI;rw [hB]
 have hq:cutL types.l 1 (lenI types.l)=some tl:=by rw [hY];exact cut1
 have hE:=add1 (show i≤1000000000 by omega);have hU:∀(n':Int) (ks' r':F),ks'.cnt=As.length→∀f,f∈fs→mt f (.cons 53 c.1 n' ks' r')=match q0t c.1 As.length f with|some g=>mt g (ks'.app r')|none=>false:=fun n' ks' r' hk f hf=>by obtain ⟨q1,q2,q3,q4⟩:=he.2 f hf;rw [qq7 c.1 n' ks' r' f q2 (fun k t n ks r e h=>(qlh hA rfl q4 k t n ks r e h).trans hk.symm) (hO f hf),hk]<;>(cases q0t c.1 As.length f<;>rfl)
 cases ok with
 |false=>
  refine .inl ⟨?_,fun n' ks' r' g1 g2 g3=>?_⟩
  ·unfold l1_b8;simp only [ltG hc,q02,q05 hc,q00,ha,hq,hy,hS,hP,hs,q01,hE]
  ·obtain ⟨As',a1,a2,a3,a4⟩:=qlg (.inr rfl) g3;rw [hA] at a1;injection a1 with a1;subst a1;have g1:r'.cnt+1=Ts.length+1:=g1;have hv:=all_cons g2;obtain ⟨f',h9,hm'⟩:=hF.2 rfl (ks'.app r') (by rw [F.app_cnt,hj];omega) (qnm hv.2.1 hv.2.2) (by rw [qq6 s.l _ _ _ _ a2,a3,a4];rfl);obtain ⟨f,hf,hu⟩:=zL.1 h9;refine ⟨f,hf,?_⟩;rw [hU n' ks' r' a2.symm f hf,hu];exact hm'
 |true=>
  obtain ⟨W,w1,w2,w3,w4,w5⟩:=hF.1 rfl;obtain ⟨p,q,hW,hp⟩:=W.cut2 As.length (by rw [w2,hj];omega);subst hW;rw [F.app_cnt,hj] at w2;have hG:w.l.map Sl.l=p.trees++q.trees:=by rw [←qba];exact w1
  have hwl:w.l.length=As.length+Ts.length:=by have:=congrArg List.length hG;rw [zm,zp,F.trees_len,F.trees_len] at this;omega
  have hV:(w.l.take As.length).map Sl.l=p.trees:=by rw [List.map_take,hG,je (by rw [F.trees_len];omega),jc (by rw [F.trees_len];omega)]
  have hdr:(w.l.drop As.length).map Sl.l=q.trees:=by rw [List.map_drop,hG,jj (by rw [F.trees_len];omega),List.drop_of_length_le (by rw [F.trees_len];omega),List.nil_append]
  have hsz:(p.app q).size=p.size+q.size:=qbb p q;obtain ⟨nb2,hH⟩:=qb8 24 c.1 0 0 ⟨w.nil,w.l.take As.length⟩ (by show (w.l.take As.length).length≤_;rw [zU];omega) (by
   show ((w.l.take As.length).map Sl.l).flatten.length≤_;rw [hV,F.trees_flat,F.len];omega)
  have ht:(24,c.1,0,((w.l.take As.length).length:Int))::((w.l.take As.length).map Sl.l).flatten=(tr 24 c.1 0 p).flat:=by rw [hV,F.trees_flat,q2c,zU,hwl,hp,Nat.min_eq_left (by omega)]
  have hH:f_e6 ((24,c.1,0,0),⟨w.nil,w.l.take As.length⟩,())=some (⟨nb2,(tr 24 c.1 0 p).flat⟩,()):=by rw [hH];exact congrArg (fun l=>some ((⟨nb2,l⟩:SN),())) ht
  obtain ⟨nb3,hI⟩:=q0r false ⟨false,[⟨nb2,(tr 24 c.1 0 p).flat⟩]⟩ ⟨w.nil,w.l.drop As.length⟩ (by show 1+(w.l.drop As.length).length≤_;rw [jb];omega);refine .inr ⟨⟨nb3,(⟨nb2,(tr 24 c.1 0 p).flat⟩:SN)::w.l.drop As.length⟩,?_,fun _=>⟨.cons 24 c.1 0 p q,?_,?_,?_,?_,?_⟩,fun h=>by cases h⟩
  ·unfold l1_b8;simp only [ltG hc,q02,q05 hc,q00,ha,hq,hy,hS,hP,hs,qit w.l As.length (by omega),hH,qwh w.l As.length (by omega),hI];rfl
  ·show (tr 24 c.1 0 p).flat::(w.l.drop As.length).map Sl.l=(tr 24 c.1 0 p).flat::q.trees;rw [hdr]
  ·show q.cnt+1=Ts.length+1;omega
  ·show p.size+q.size+1≤mu fs (Ts.length+1);omega
  ·intro x hx;have hx:x∈(24,c.1,0,(p.cnt:Int))::(p.flat++q.flat):=hx;rcases zj.1 hx with rfl|hx
   ·exact ⟨hN.1,hN.2,by show rng 0;unfold rng;omega⟩
   ·exact w4 x (by rw [F.app_flat];exact hx)
  ·intro g hg hm f hf;obtain ⟨n',ks',r',rfl,e1,e2,e3⟩:=z03 hm;have hg:r'.cnt+1=Ts.length+1:=hg;have hks:ks'.cnt=As.length:=by omega
   rw [hU n' ks' r' hks f hf];cases hu:q0t c.1 As.length f with
   |none=>rfl
   |some f'=>exact w5 (ks'.app r') (by rw [F.app_cnt,hj];omega) (by rw [q5w _ _ _ _ (by omega),e2,e3];rfl) f' (zL.2 ⟨f,hf,hu⟩)
end Fn
end Ev

namespace Ev
open Go
namespace Fn
theorem gap:∀(n:Nat) (l:List Int),l.length≤n→∃N:Nat,N≤n∧(N:Int)∉l
 |0,l,h=>⟨0,Nat.le_refl _,by rw [zD (Nat.le_zero.1 h)];exact fun h=>by cases h⟩
 |n+1,l,h=>by
  by_cases hm:(((n+1:Nat)):Int)∈l
  ·obtain ⟨N,h1,h2⟩:=gap n (l.erase ((n+1:Nat):Int)) (by rw [List.length_erase_of_mem hm];omega);exact ⟨N,by omega,fun hN=>h2 ((List.mem_erase_of_ne (by omega)).2 hN)⟩
  ·exact ⟨n+1,Nat.le_refl _,hm⟩
def z5e:F→Int
 |.nil=>0
 |.cons _ _ n _ _=>n
theorem qwi (fs:List F):∃N:Nat,N≤fs.length∧fs.any (q0i 23 [] N)=false:=by
 obtain ⟨N,h1,h2⟩:=gap fs.length (fs.map z5e) (by rw [zm];exact Nat.le_refl _);refine ⟨N,h1,?_⟩;cases h:fs.any (q0i 23 [] N) with
 |false=>rfl
 |true=>
  obtain ⟨f,hf,hr⟩:=zJ.1 h;refine absurd (zR.2 ⟨f,hf,?_⟩) h2;cases f with
  |nil=>cases hr
  |cons k t n ks r=>have hr:(eqI k 23&&(eqS t []&&eqI n N))=true:=hr;rw [zd,zd] at hr;exact zt hr.2.2
theorem qq9 (s:Sl DD) (w:SSN) (rows:SR) (fs:List F) (h:RS rows fs) (hn:∀f,f∈fs→f≠.nil) (hl:fs.length≤1000):∃N:Nat,N≤1000∧fs.any (q0i 23 [] N)=false∧loopR l2_b8 (w,0,s,rows,())=some (.inl (w,⟨false,[(23,[],(N:Int),0)]⟩,s,())):=by
 obtain ⟨B,b1,b2⟩:=qwi fs;have:=q1d (f:=l2_b8) (I:=fun z=>∃n:Nat,z=(w,(n:Int),s,rows,())∧n≤B)
  (Q:=fun r=>∃N:Nat,N≤1000∧fs.any (q0i 23 [] N)=false∧r=.inl (w,⟨false,[(23,[],(N:Int),0)]⟩,s,())) (fun z=>((B:Int)-z.2.1).toNat) ?_ (w,0,s,rows,()) ⟨0,rfl,Nat.zero_le _⟩
 ·obtain ⟨r,h1,N,h2,h3,h4⟩:=this;exact ⟨N,h2,h3,by rw [h1,h4]⟩
 ·rintro z ⟨n,rfl,he⟩;have hb:=qf2 23 [] (n:Int) rows fs h hn hl;cases hc:fs.any (q0i 23 [] n) with
  |true=>
   rw [hc] at hb;have hf:n≠B:=fun e=>by rw [e,b2] at hc;cases hc
   refine .inl ⟨(w,((n+1:Nat):Int),s,rows,()),?_,⟨n+1,rfl,by omega⟩,by simp only;omega⟩;unfold l2_b8;simp only [hb,q00,q02,add1 (show n≤1000000000 by omega)]
  |false=>rw [hc] at hb;refine .inr ⟨.inl (w,⟨false,[(23,[],(n:Int),0)]⟩,s,()),?_,n,by omega,hc,rfl⟩;unfold l2_b8;simp only [hb,q00,q01]
theorem qa5 {L:List DD} {T:List ND} {Ts:List (List ND)} {fs:List F} {w:SSN} {q:F} (w1:RowOf w q) (w2:q.cnt=Ts.length) (w4:GL q.flat) (w5:∀g:F,g.cnt=Ts.length→mt q g=true→∀f,f∈fs.filterMap q3f→mt f g=false) (he:∀f,f∈fs→f≠.nil) {kN:Int} {tN:Tx} {nN:Int} {ksN:F} (hj:GL (tr kN tN nN ksN).flat) (hl:ksN.size+q.size+1≤mu fs (Ts.length+1)) (hn:∀f,f∈fs→q21 f=false→∀k' t' n' ks' r',(q2l kN tN nN ksN k' t' n' ks').isSome=true→mt f (.cons k' t' n' ks' r')=false) (nb b:Bool):qnn L (T::Ts) fs ⟨nb,(⟨b,(tr kN tN nN ksN).flat⟩:SN)::w.l⟩ true:=by
 refine ⟨fun _=>⟨.cons kN tN nN ksN q,?_,?_,hl,?_,?_⟩,fun h=>by cases h⟩
 ·show (tr kN tN nN ksN).flat::w.l.map Sl.l=(tr kN tN nN ksN).flat::q.trees;rw [show w.l.map Sl.l=q.trees from w1]
 ·show q.cnt+1=Ts.length+1;rw [w2]
 ·intro x hx;have hx:x∈(kN,tN,nN,(ksN.cnt:Int))::(ksN.flat++q.flat):=hx;have hc:GL ((kN,tN,nN,(ksN.cnt:Int))::ksN.flat):=by rw [←q2c];exact hj
  rcases zj.1 hx with rfl|hx
  ·exact hc _ (ze ..)
  ·rcases zo.1 hx with hx|hx
   ·exact hc _ (zf _ hx)
   ·exact w4 x hx
 ·intro g hg hm f hf;cases g with
  |nil=>cases hm
  |cons k' t' n' ks' r'=>
   rw [q1a,zd] at hm;cases hw:q21 f with
   |false=>exact hn f hf hw k' t' n' ks' r' hm.1
   |true=>
    cases f with
    |nil=>exact absurd rfl (he _ hf)
    |cons k t n ks r=>have hw:q0l k=true:=hw;have hg:r'.cnt+1=Ts.length+1:=hg;rw [q1a,q1x hw,Bool.true_and];refine w5 r' (by omega) hm.2 r (zL.2 ⟨_,hf,?_⟩);show (bif q0l k then some r else none)=_;rw [hw];rfl
theorem qwj {k:Int} {t:Tx} {n:Int} {ks r:F} (hQ:(F.cons k t n ks r).flat.all patQ=true) (hw:q0l k=false):(k=23∧t=[])∨(k=24∧n=0):=by
 have hP:=(all_cons hQ).1;unfold patQ patP at hP;simp only [zd] at hP;have k1:(21:Int)≤k:=zt hP.1.1;have k2:k≤(24:Int):=zt hP.1.2;unfold q0l at hw;rw [Bool.or_eq_false_iff] at hw;have n21:k≠21:=fun e=>by rw [e] at hw;cases hw.1
 have n22:k≠22:=fun e=>by rw [e] at hw;cases hw.2
 by_cases e23:k=23
 ·subst e23;have h:eqS t []=true:=hP.2.1;exact .inl ⟨rfl,eqS_eq.1 h⟩
 ·have e24:k=24:=by omega
  subst e24;have h:eqI n 0=true:=hP.2.2;exact .inr ⟨rfl,zt h⟩
theorem qh5 {fs:List F} (hQ:∀f,f∈fs→f.flat.all patQ=true) {c:Tx} {ksN:F} (hc:fs.any (q0i 24 c 0)=false):∀f,f∈fs→q21 f=false→∀k' t' n' ks' r',(q2l 24 c 0 ksN k' t' n' ks').isSome=true→mt f (.cons k' t' n' ks' r')=false:=by
 intro f hf hw k' t' n' ks' r' hm;have he:mt (.cons 24 c 0 ksN .nil) (.cons k' t' n' ks' .nil)=true:=by rw [q1a,hm];rfl
 obtain ⟨_,_,_,e,_⟩:=z03 he;injection e with e1 e2 _ _ _;subst e1 e2;cases f with
 |nil=>cases hw
 |cons k t n ks r=>
  have hr:q0i 24 t' 0 (.cons k t n ks r)=false:=by
   cases h:q0i 24 t' 0 (.cons k t n ks r) with
   |false=>rfl
   |true=>rw [zJ.2 ⟨_,hf,h⟩] at hc;cases hc
  rw [q1a];rcases qwj (hQ _ hf) hw with ⟨rfl,rfl⟩|⟨rfl,rfl⟩
  ·rfl
  ·have hr:(true&&(eqS t t'&&true))=false:=hr;rw [Bool.true_and,Bool.and_true] at hr;have hg:eqS t' t=false:=by
    cases h:eqS t' t with
    |false=>rfl
    |true=>rw [eqS_eq.1 h,q12] at hr;cases hr
   have e:q2l 24 t 0 ks 53 t' n' ks'=bif true&&(eqS t' t&&decide (ks'.cnt=ks.cnt)) then q5g ks ks' else none:=rfl
   rw [e,hg];rfl
theorem qh6 {fs:List F} (hQ:∀f,f∈fs→f.flat.all patQ=true) {N:Int} {ksN:F} (he:fs.any (q0i 23 [] N)=false):∀f,f∈fs→q21 f=false→∀k' t' n' ks' r',(q2l 23 [] N ksN k' t' n' ks').isSome=true→mt f (.cons k' t' n' ks' r')=false:=by
 intro f hf hw k' t' n' ks' r' hm;have e:q2l 23 [] N ksN k' t' n' ks'=bif eqI k' 51&&eqI n' N then some [] else none:=rfl
 rw [e] at hm;cases hc:eqI k' 51&&eqI n' N with
 |false=>rw [hc] at hm;cases hm
 |true=>
  rw [zd] at hc;have e1:k'=51:=zt hc.1;have e2:n'=N:=zt hc.2;subst e1 e2;cases f with
  |nil=>cases hw
  |cons k t n ks r=>
   have hr:q0i 23 [] n' (.cons k t n ks r)=false:=by
    cases h:q0i 23 [] n' (.cons k t n ks r) with
    |false=>rfl
    |true=>rw [zJ.2 ⟨_,hf,h⟩] at he;cases he
   rw [q1a];rcases qwj (hQ _ hf) hw with ⟨rfl,rfl⟩|⟨rfl,rfl⟩
   ·have hr:eqI n n'=false:=hr;have hg:eqI n' n=false:=by
     cases h:eqI n' n with
     |false=>rfl
     |true=>have:n'=n:=zt h;rw [this,q1j] at hr;cases hr
    have e:q2l 23 [] n ks 51 t' n' ks'=bif true&&eqI n' n then some [] else none:=rfl
    rw [e,hg];rfl
   ·rfl
end Fn
end Ev

namespace Ev
open Go
namespace Fn
theorem qli {α γ:Type} (f:α→Option γ) (a:α):sumE f (Sum.inl a:α⊕γ)=f a:=rfl
theorem qno (s:Sl DD) (hL:GD s.l) (b:Bool) (k:Int) (t:Tx) (n:Int) (ks:F):∃(d:DD) (o:Bool),f_b6 (s,⟨b,(tr k t n ks).flat⟩,())=some (d,o,())∧(s.l.find? (q1e k t (ks.cnt:Int))=some d∨d.2.2.l=[]):=by
 have hx:(⟨b,(tr k t n ks).flat⟩:SN).l[0]?=some (k,t,n,(ks.cnt:Int)):=rfl;cases hd:s.l.find? (q1e k t (ks.cnt:Int)) with
 |none=>exact ⟨_,_,q7k s hL.1 _ _ hx hd,.inr rfl⟩
 |some d=>exact ⟨_,_,q4w s hL.1 _ _ hx hd,.inl rfl⟩
theorem qqa {s:Sl DD} {self:(SSN×SR×Sl DD×Unit)→Option (SSN×Bool×Sl DD×Unit)} {types:SSN} {rows:SR} {fs:List F} (he:types.l=[]) (hR:RS rows fs) (hc:q5x s.l [] fs):∃w ok,g_b8 self (types,rows,s,())=some (w,ok,s,())∧qnn s.l [] fs w ok:=by
 obtain ⟨tn,tl⟩:=types;have he:tl=[]:=he;subst he;refine ⟨⟨true,[]⟩,eqI (lenI rows.l) 0,?_,?_,?_⟩
 ·rw [u_b8];rfl
 ·intro h;have h0:(rows.l.length:Int)=0:=zt h;have hl:=hR.len;have:fs=[]:=zD (by omega);subst this;exact ⟨.nil,rfl,rfl,Nat.zero_le _,(fun x hx=>by cases hx),fun g _ _ f hf=>by cases hf⟩
 ·intro h g hg _ _;cases fs with
  |nil=>have hl:=hR.len;have hl:rows.l.length=0:=hl;unfold lenI at h;rw [hl] at h;cases h
  |cons f fs=>
   refine ⟨f,ze ..,?_⟩;have h1:f.cnt=0:=(hc.2 f (ze ..)).1;have h2:g.cnt=0:=hg;cases f with
   |cons k t n ks r=>exact absurd h1 (by show ¬(r.cnt+1=0);omega)
   |nil=>cases g with
    |cons k t n ks r=>exact absurd h2 (by show ¬(r.cnt+1=0);omega)
    |nil=>rfl
theorem qwk {s:Sl DD} (hL:GD s.l) (hS:s.l.all q0u=true) {M:Nat} {self:(SSN×SR×Sl DD×Unit)→Option (SSN×Bool×Sl DD×Unit)} (ho:qq8 s M self) (hM:M≤8000):qq8 s (M+1) (g_b8 self):=by
 intro types rows Ts0 fs hN hR he hl hT;cases hq:types.l with
 |nil=>rw [hq] at hN;subst hN;exact qqa hq hR he
 |cons T0 tl=>
  rw [hq] at hN;obtain ⟨b,T⟩:=T0;subst hN;have hD:qcc (T::tl.map Sl.l):=hl;obtain ⟨k,t,n,ks,rfl⟩:=((q20 T).1 (hD T (ze ..))).2.2;generalize ht:tl.map Sl.l=Ts at*
  have he:q5x s.l ((tr k t n ks).flat::Ts) fs:=by rw [←ht];exact he
  have hT:mu fs (Ts.length+1)≤M+1:=by rw [←ht];exact hT
  have hl:qcc ((tr k t n ks).flat::Ts):=by rw [←ht];exact hl
  show ∃w ok,_∧qnn s.l ((tr k t n ks).flat::tl.map Sl.l) fs w ok;rw [ht];have htll:tl.length=Ts.length:=by rw [←ht,zm]
  have hE:mu fs (Ts.length+1)=20*q1h fs+(Ts.length+1):=rfl;have hz:∀f,f∈fs→f≠.nil:=fun f hf e=>by have:=(he.2 f hf).1;rw [e] at this;exact absurd this (by show ¬(0=Ts.length+1);omega)
  have hQ:∀f,f∈fs→f.flat.all patQ=true:=fun f hf=>(he.2 f hf).2.1;obtain ⟨d,o,hU,hd⟩:=qno s hL b k t n ks;have hcs:d.2.2.l.length≤1000:=by
   rcases hd with hd|hd
   ·exact (hL.2 d (zK hd)).2.1
   ·rw [hd];exact Nat.zero_le _
  have hop:=qlf d.2.2 hcs rows fs hR hz he.1;have hn0:eqI (lenI types.l) 0=false:=q2u (by rw [hq];show ((tl.length+1:Nat):Int)≠0;omega);have ha0:at? types.l 0=some ⟨b,(tr k t n ks).flat⟩:=by rw [hq];rfl
  have hV:cutL types.l 1 (lenI types.l)=some tl:=by rw [hq];exact cut1
  rw [u_b8];simp only [hn0,q01,ha0,q00,hU,hop];by_cases hA:ltI 0 (lenI d.2.2.l)=true∧(d.2.2.l.any fun c:CT=>!fs.any (q0i 24 c.1 0))=false
  ·
   obtain ⟨hW,hX⟩:=hA;have hd:s.l.find? (q1e k t (ks.cnt:Int))=some d:=by
    rcases hd with hd|hd
    ·exact hd
    ·rw [hd] at hW;cases hW
   have hx:ltI (ixP (fun c:CT=>!fs.any (q0i 24 c.1 0)) 0 d.2.2.l) 0=true:=by rw [qps,hX];rfl
   simp only [hW,q02,hx,q00];have:=q1d (f:=l1_b8 self) (I:=fun z=>∃i:Nat,z=(types,⟨b,(tr k t n ks).flat⟩,d.2.2,lenI d.2.2.l,(i:Int),s,rows,())∧i≤d.2.2.l.length∧∀(j:Nat) c,j<i→d.2.2.l[j]?=some c→NoV s.l ((tr k t n ks).flat::Ts) fs c.1)
    (Q:=fun r=>∃w ok,r=(w,ok,s,())∧qnn s.l ((tr k t n ks).flat::Ts) fs w ok) (fun z=>((d.2.2.l.length:Int)-z.2.2.2.2.1).toNat) ?_ (types,⟨b,(tr k t n ks).flat⟩,d.2.2,lenI d.2.2.l,0,s,rows,()) ⟨0,rfl,Nat.zero_le _,fun j c hj=>by omega⟩
   ·obtain ⟨r,h1,w,ok,h2,h3⟩:=this;exact ⟨w,ok,by rw [h1,h2],h3⟩
   ·rintro z ⟨i,rfl,hi,hn⟩;by_cases h1:i<d.2.2.l.length
    ·obtain ⟨c,hc⟩:∃c,d.2.2.l[i]?=some c:=⟨_,zh h1⟩;have hY:fs.any (q0i 24 c.1 0)=true:=by
      cases hb:fs.any (q0i 24 c.1 0) with
      |true=>rfl
      |false=>rw [zJ.2 ⟨c,zn hc,by rw [hb];rfl⟩] at hX;cases hX
     rcases z04 hL hS ho hq ht hR he hl hT hM hd hc (by omega) hY with ⟨g1,g2⟩|⟨w,g1,g2⟩
     ·refine .inl ⟨_,g1,⟨i+1,rfl,h1,fun j c' hj hG=>?_⟩,by simp only;omega⟩;by_cases hji:j=i
      ·subst hji;rw [hc] at hG;injection hG with hG;subst hG
       exact g2
      ·exact hn j c' (by omega) hG
     ·exact .inr ⟨_,g1,w,true,rfl,g2⟩
    ·obtain rfl:i=d.2.2.l.length:=by omega
     refine .inr ⟨(⟨true,[]⟩,false,s,()),?_,_,_,rfl,fun h=>(by cases h),fun _ g hg hv hO=>?_⟩
     ·unfold l1_b8;simp only [ltE,q01]
     ·cases g with
      |nil=>exact absurd hg (by show ¬(0=Ts.length+1);omega)
      |cons k' t' n' ks' r'=>obtain ⟨rfl,c,hc,rfl⟩:=z02 hS hd hv hO;obtain ⟨j,hj,hje⟩:=jd.1 hc;exact hn j c hj (by rw [zh hj,hje]) n' ks' r' hg hv hO
  ·
   have hC:bnd (cnd (ltI 0 (lenI d.2.2.l)) (some (ltI (ixP (fun c:CT=>!fs.any (q0i 24 c.1 0)) 0 d.2.2.l) 0)) (some false)) (fun x3=>some x3)=some false:=by
    cases h0:ltI 0 (lenI d.2.2.l) with
    |false=>rfl
    |true=>
     rw [qps];cases h1:d.2.2.l.any fun c:CT=>!fs.any (q0i 24 c.1 0) with
     |true=>rfl
     |false=>exact absurd ⟨h0,h1⟩ hA
   have hC:cnd (ltI 0 (lenI d.2.2.l)) (some (ltI (ixP (fun c:CT=>!fs.any (q0i 24 c.1 0)) 0 d.2.2.l) 0)) (some false)=some false:=by
    cases h:cnd (ltI 0 (lenI d.2.2.l)) (some (ltI (ixP (fun c:CT=>!fs.any (q0i 24 c.1 0)) 0 d.2.2.l) 0)) (some false) with
    |none=>rw [h] at hC;cases hC
    |some y=>rw [h] at hC;exact hC
   obtain ⟨rows',hH,hR'⟩:=qf5 rows fs hR hz he.1;have hI:=q3m q3f (fun f g hu=>by
    cases f with
    |nil=>cases hu
    |cons k t n ks r=>
     have hu:(bif q0l k then some r else none)=some g:=hu;rw [q28];cases hw:q0l k with
     |true=>rw [hw] at hu;injection hu with hu;subst hu;omega
     |false=>rw [hw] at hu;cases hu) fs
   have hmu2:mu (fs.filterMap q3f) Ts.length+1≤mu fs (Ts.length+1):=by rw [hE];show 20*q1h (fs.filterMap q3f)+Ts.length+1≤_;have:=hI.1;omega
   have hB:q5x s.l Ts (fs.filterMap q3f):=by refine ⟨Nat.le_trans (qf7 _ _) he.1,fun g hg=>?_⟩;obtain ⟨f,hf,hu⟩:=zL.1 hg;obtain ⟨q1,q2,q3,q4⟩:=he.2 f hf;obtain ⟨p1,p2,p3,p4,_⟩:=qis q4 q2 hu;have q1:f.cnt=Ts.length+1:=q1;have q3:f.size+mu fs (Ts.length+1)≤9999:=q3;exact ⟨by omega,p2,by omega,p4⟩
   obtain ⟨w,ok,hs,hF⟩:=ho ⟨types.nil,tl⟩ rows' Ts _ ht hR' hB (fun T h=>hl T (zf _ h)) (by omega);have hcl:=qf3 rows fs hR hz he.1;simp only [hC,q00,q01,hV,hH,hs];cases ok with
   |false=>
    simp only [nF,q02];refine ⟨_,_,rfl,(fun h=>by cases h),fun _ g hg hv hO=>?_⟩;cases g with
    |nil=>exact absurd hg (by show ¬(0=Ts.length+1);omega)
    |cons k' t' n' ks' r'=>
     have hg:r'.cnt+1=Ts.length+1:=hg;obtain ⟨f',hf',hm'⟩:=hF.2 rfl r' (by omega) (all_cons hv).2.2 (qir hO);obtain ⟨f,hf,hu⟩:=zL.1 hf';refine ⟨f,hf,?_⟩;cases f with
     |nil=>cases hu
     |cons kf tf nf ksf rf=>
      have hu:(bif q0l kf then some rf else none)=some f':=hu;cases hw:q0l kf with
      |false=>rw [hw] at hu;cases hu
      |true=>
       rw [hw] at hu;injection hu with hu;subst hu
       rw [q1a,q1x hw,Bool.true_and];exact hm'
   |true=>
    obtain ⟨q,w1,w2,w3,w4,w5⟩:=hF.1 rfl;have hwl:w.l.length=Ts.length:=by have:=congrArg List.length (show w.l.map Sl.l=q.trees from w1);rw [zm,F.trees_len] at this;omega
    simp only [nT,q01,u_b3,q00,hcl];cases hc:fs.any fun f=>!q21 f with
    |false=>
     obtain ⟨nb3,hJ⟩:=q0r false ⟨false,[⟨false,[((21:Int),([]:Tx),(0:Int),(0:Int))]⟩]⟩ w (by show 1+w.l.length≤_;omega);simp only [nF,q02,q00,qli,hJ];refine ⟨_,_,rfl,qa5 (T:=(tr k t n ks).flat) (kN:=21) (tN:=[]) (nN:=0) (ksN:=.nil) w1 w2 w4 w5 hz ?_ ?_ ?_ nb3 false⟩
     ·exact gAny
     ·show 0+q.size+1≤_;omega
     ·intro f hf hw;rw [zJ.2 ⟨f,hf,by rw [hw];rfl⟩] at hc;cases hc
    |true=>
     obtain ⟨x,hx,hP⟩:=zJ.1 hc;have hP:q21 x=false:=by
      cases h:q21 x with
      |false=>rfl
      |true=>rw [h] at hP;cases hP
     have h7:=hI.2 x hx (qf9 hP);have hmu3:mu (fs.filterMap q3f) Ts.length+21≤mu fs (Ts.length+1):=by rw [hE];show 20*q1h (fs.filterMap q3f)+Ts.length+21≤_;omega
     simp only [nT,q01];cases h0:ltI 0 (lenI d.2.2.l) with
     |true=>
      have hZ:d.2.2.l.any (fun c:CT=>!fs.any (q0i 24 c.1 0))=true:=by
       cases h1:d.2.2.l.any fun c:CT=>!fs.any (q0i 24 c.1 0) with
       |true=>rfl
       |false=>exact absurd ⟨h0,h1⟩ hA
      obtain ⟨i,c,i1,i2,i3,_⟩:=q9z _ d.2.2.l 0 hZ;rw [zN] at i1;have hd:s.l.find? (q1e k t (ks.cnt:Int))=some d:=by
       rcases hd with hd|hd
       ·exact hd
       ·rw [hd] at h0;cases h0
      have hm:=zK hd;have h9:=zn i2;have h8:c.2.l.length≤8:=(q4d hS hm h9).2.1;have hgc:=((hL.2 d hm).2.2 c h9).1;have hno:fs.any (q0i 24 c.1 0)=false:=by
       have i3:(!fs.any (q0i 24 c.1 0))=true:=i3;cases h:fs.any (q0i 24 c.1 0) with
       |false=>rfl
       |true=>rw [h] at i3;cases i3
      obtain ⟨nbs,h5⟩:=q8e c.2.l.length (by omega);have h5:f_bp (lenI c.2.l,())=some (⟨nbs,List.replicate c.2.l.length anyS⟩,()):=h5;have htr:(List.replicate c.2.l.length anyS).map Sl.l=(anyF c.2.l.length).trees:=by rw [q6q,List.map_replicate];rfl
      obtain ⟨nbm,h6⟩:=qb8 24 c.1 0 0 ⟨nbs,List.replicate c.2.l.length anyS⟩ (by show (List.replicate _ _).length≤_;rw [List.length_replicate];omega) (by
       show ((List.replicate _ _).map Sl.l).flatten.length≤_;rw [htr,F.trees_flat,F.len,q6r];omega)
      have hK:(24,c.1,0,((List.replicate c.2.l.length anyS).length:Int))::((List.replicate c.2.l.length anyS).map Sl.l).flatten=(tr 24 c.1 0 (anyF c.2.l.length)).flat:=by rw [htr,F.trees_flat,q2c,List.length_replicate,q5v]
      have h6:f_e6 ((24,c.1,0,0),⟨nbs,List.replicate c.2.l.length anyS⟩,())=some (⟨nbm,(tr 24 c.1 0 (anyF c.2.l.length)).flat⟩,()):=by rw [h6];exact congrArg (fun l=>some ((⟨nbm,l⟩:SN),())) hK
      obtain ⟨nb3,hJ⟩:=q0r false ⟨false,[⟨nbm,(tr 24 c.1 0 (anyF c.2.l.length)).flat⟩]⟩ w (by show 1+w.l.length≤_;omega);simp only [q02,i1,q05 i2,q00,h5,h6,qli,hJ];refine ⟨_,_,rfl,qa5 (T:=(tr k t n ks).flat) (kN:=24) (tN:=c.1) (nN:=0) (ksN:=anyF c.2.l.length) w1 w2 w4 w5 hz ?_ ?_ (qh5 hQ hno) nb3 nbm⟩
      ·intro x hx;rw [q2c] at hx;rcases zj.1 hx with rfl|hx
       ·exact ⟨hgc.1,hgc.2,by show rng 0;unfold rng;omega⟩
       ·have hn:∀m,∀y,y∈(anyF m).flat→y=(21,[],0,0):=by
         intro m
         induction m with
         |zero=>intro y hy;cases hy
         |succ m ih=>
          intro y hy;have hy:y∈((21:Int),([]:Tx),(0:Int),(0:Int))::(([]:List ND)++(anyF m).flat):=hy;rcases zj.1 hy with rfl|hy
          ·rfl
          ·exact ih y hy
        rw [hn _ x hx];exact gAny _ (zu.2 rfl)
      ·rw [q6r];omega
     |false=>
      obtain ⟨N,n1,n2,n3⟩:=qq9 s w rows fs hR hz he.1;obtain ⟨nb3,hJ⟩:=q0r false ⟨false,[⟨false,[((23:Int),([]:Tx),(N:Int),(0:Int))]⟩]⟩ w (by show 1+w.l.length≤_;omega);simp only [q01,n3,q00,qli,hJ];refine ⟨_,_,rfl,qa5 (T:=(tr k t n ks).flat) (kN:=23) (tN:=[]) (nN:=(N:Int)) (ksN:=.nil) w1 w2 w4 w5 hz ?_ ?_ (qh6 hQ n2) nb3 false⟩
      ·intro x hx;rw [q2c] at hx;rcases zj.1 hx with rfl|hx
       ·exact ⟨fun b hb=>(by cases hb),Nat.zero_le _,by show rng (N:Int);unfold rng;omega⟩
       ·cases hx
      ·show 0+q.size+1≤_;omega
end Fn
end Ev

namespace Ev
open Go
namespace Fn
theorem qbc {σ ρ:Type} {f g:σ→Option (σ⊕ρ)} (h:∀s,lq (f s) (g s)) (s:σ):lq (loopR f s) (loopR g s):=fun r e=>by obtain ⟨n,hn⟩:=q51 e;exact q7d n (qih h n s r hn)
theorem qlj {K K':(SSN×SR×Sl DD×Unit)→Option (SSN×Bool×Sl DD×Unit)} (h:∀x,lq (K x) (K' x)) (z:SSN×SN×Sl CT×Int×Int×Sl DD×SR×Unit):lq (l1_b8 K z) (l1_b8 K' z):=by
 unfold l1_b8
 repeat' first|exact h _|exact q07 _|apply q98|apply q99|(intro _)|apply q65
theorem qwl {K K':(SSN×SR×Sl DD×Unit)→Option (SSN×Bool×Sl DD×Unit)} (h:∀x,lq (K x) (K' x)) (x:SSN×SR×Sl DD×Unit):lq (g_b8 K x) (g_b8 K' x):=by
 obtain ⟨a,b,c,⟨⟩⟩:=x;rw [u_b8,u_b8]
 repeat' first|exact h _|exact q07 _|exact qbc (fun s=>qlj h s) _|apply q98|apply q99|(intro _)|apply q65
theorem qwm:∀N,∀x,lq (recN g_b8 N x) (recN g_b8 (N+1) x)
 |0,_=>fun _ e=>by cases e
 |N+1,x=>qwl (qwm N) x
theorem qnp {N:Nat} {x:SSN×SR×Sl DD×Unit} {y:SSN×Bool×Sl DD×Unit} (h:recN g_b8 N x=some y):∀k,recN g_b8 (N+k) x=some y
 |0=>h
 |k+1=>qwm (N+k) x y (qnp h k)
theorem z11 {s:Sl DD} (hL:GD s.l) (he:s.l.all q0u=true):∀M,M≤8000→qq8 s M (recN g_b8 (M+1))
 |0,_=>by
  intro types rows Ts fs hT hR hc hf hg;have h0:Ts.length=0:=by unfold mu at hg;omega
  have:Ts=[]:=zD h0;subst this;exact qqa (List.map_eq_nil_iff.1 hT) hR hc
 |M+1,h=>qwk hL he (z11 hL he M (by omega)) (by omega)
theorem find_spec {s:Sl DD} (hL:GD s.l) (hf:s.l.all q0u=true) {types:SSN} {rows:SR} {Ts:List (List ND)} {fs:List F} (hT:types.l.map Sl.l=Ts) (hR:RS rows fs) (hc:q5x s.l Ts fs) (he:qcc Ts) (hg:mu fs Ts.length≤8000):∃w ok,f_b8 (types,rows,s,())=some (w,ok,s,())∧qnn s.l Ts fs w ok:=by obtain ⟨w,ok,h,hF⟩:=z11 hL hf 8000 (Nat.le_refl _) types rows Ts fs hT hR hc he hg;refine ⟨w,ok,q7c 8001 fun n hn=>?_,hF⟩;obtain ⟨k,rfl⟩:=Nat.le.dest hn;exact qnp h k
end Fn
end Ev

namespace Ev
open Go
namespace Fn
theorem z35 (p:List ND) (hp:p.length≤4000) (hg:GL p):∃e:Int,(∀b,f_dp (⟨b,p⟩,())=some (e,()))∧(e=0↔isP p):=by
 rcases z2w p with h|⟨k,t,n,ks,h⟩
 ·refine ⟨60,fun b=>qzp b p hp h,fun e=>by omega,fun ⟨k,t,n,ks,e,_⟩=>?_⟩;rw [(q6k p).2 ⟨k,t,n,ks,e⟩] at h;cases h
 ·subst h;rw [q27] at hp;refine ⟨chkT k t n ks true,fun b=>qzo b k t n ks hp hg,fun e=>⟨k,t,n,ks,rfl,e⟩,fun ⟨k',t',n',ks',e,h⟩=>?_⟩;obtain ⟨u1,u2,u3,u4⟩:=qle e;subst u1 u2 u3 u4;exact h
theorem qwn (L:List DD) (hL:GD L) (T:List ND) (hT:T.length≤10000) (hj:GL T) (p:List ND) (hp:p.length≤4000) (hg:GL p):∃c:Bool,(∀b0 b b',f_av (⟨b0,L⟩,⟨b,T⟩,⟨b',p⟩,())=some (bif c then 0 else 120,()))∧(c=true↔q4p L=true∧q26 T=true∧qa4 L T p):=by
 obtain ⟨e,e1,e3⟩:=z35 p hp hg;have d1:∀b0,f_a0 ((⟨b0,L⟩:Sl DD),())=some (qw1 L,()):=fun b0=>qnh ⟨b0,L⟩ hL;have t1:=fun b=>qa0 b T hT hj;cases hd:q4p L with
 |false=>
  have hc:=qq2 L;rw [hd] at hc;refine ⟨false,fun b0 b b'=>?_,fun h=>(by cases h),fun h=>(by cases h.1)⟩
  ·rw [u_av,d1];simp only [q00,hc,nF,q02,cond_false]
 |true=>
  have hc:=qq2 L;rw [hd] at hc;cases ht:q26 T with
  |false=>
   refine ⟨false,fun b0 b b'=>?_,fun h=>(by cases h),fun h=>(by cases h.2.1)⟩
   ·rw [u_av,d1,t1,ht];simp only [q00,hc,nT,q01,cond_false];rfl
  |true=>
   by_cases he:e=0
   ·obtain ⟨k,t,n,ks,hl,hf⟩:=e3.1 he;subst hl he;rw [q27] at hp;obtain ⟨q1,q2,q3,q4⟩:=q4e hd;have o1:=fun b0 b b'=>z5c (⟨b0,L⟩:Sl DD) hL q1 k t n ks hp (z34 hf) (⟨b,T⟩:SN) ht b';refine ⟨ofF L (tr k t n ks) [T],fun b0 b b'=>?_,fun h=>⟨rfl,rfl,k,t,n,ks,rfl,hf,h⟩,fun ⟨_,_,k',t',n',ks',h1,_,h3⟩=>?_⟩
    ·rw [u_av,d1,t1,ht,e1,o1];simp only [q00,hc,nT,q01,cond_true,e00];cases ofF L (tr k t n ks) [T]<;>rfl
    ·obtain ⟨u1,u2,u3,u4⟩:=qle h1;subst u1 u2 u3 u4;exact h3
   ·refine ⟨false,fun b0 b b'=>?_,fun h=>(by cases h),fun ⟨_,_,k',t',n',ks',h1,h2,_⟩=>absurd (e3.2 ⟨k',t',n',ks',h1,h2⟩) he⟩
    ·rw [u_av,d1,t1,ht,e1];simp only [q00,hc,nT,q01,cond_true,e00,q2u he,nF,q02,cond_false]
end Fn
end Ev

namespace Ev
open Go
namespace Fn
theorem qqb:∀f:F,f.clo≤f.size
 |.nil=>Nat.le_refl _
 |.cons k t n ks r=>by rw [q28];have h1:=qqb ks;have h2:=qqb r;show _≤ks.size+r.size+1;cases q0l k<;>simp only [cond_true,cond_false]<;>omega
theorem qfa {m:Nat}:∀fs:List F,(∀f,f∈fs→f.size≤m)→q1h fs≤fs.length*m
 |[],_=>Nat.zero_le _
 |f::fs,h=>by have h1:=qfa fs fun g hg=>h g (zf _ hg);have h2:=qqb f;have h3:=h f (ze ..);show f.clo+q1h fs≤(fs.length+1)*m;rw [Nat.succ_mul];omega
theorem qwo {m odd:Bool}:∀f:F,errF m true odd f=0→f.flat.all patQ=true
 |.nil,_=>rfl
 |.cons k t n ks r,h=>by
  obtain ⟨h1,h2⟩:=errF_ok.1 h;rw [Bool.true_or] at h1;obtain ⟨h3,h4⟩:=errT_ok.1 h1;have hp:patP (k,t,n,(ks.cnt:Int))=true:=by have:=qdb (m:=false) (odd:=false) (.cons k t n ks .nil) (errF_ok.2 ⟨by rw [Bool.true_or];exact h1,rfl⟩);exact (all_cons this).1
  obtain ⟨_,_,_,g4,g5,_⟩:=nodeE_zero.1 h3;have hq:patQ (k,t,n,(ks.cnt:Int))=true:=by
   unfold patQ;rw [hp,Bool.true_and,zd];constructor
   ·cases e:eqI k 23 with
    |false=>rfl
    |true=>have e:k=23:=zt e;subst e;unfold ql2 at g5;rw [zd,zd] at g5;exact g5.1.1
   ·cases e:eqI k 24 with
    |false=>rfl
    |true=>have e:k=24:=zt e;subst e;exact g4
  show ((k,t,n,(ks.cnt:Int))::(ks.flat++r.flat)).all patQ=true;rw [List.all_cons,List.all_append,hq,qwo ks h4,qwo r h2];rfl
theorem z5f {k:Int} {t:Tx} {n:Int} {ks:F} (h:chkT k t n ks true=0):(tr k t n ks).flat.all patQ=true:=by obtain ⟨_,h2,_⟩:=chkT_ok.1 h;exact qwo (m:=false) (odd:=false) (tr k t n ks) (errF_ok.2 ⟨by rw [Bool.true_or];exact h2,rfl⟩)
theorem qh7 (a:SSN) (ha:a.l.length≤1000):∃nb,f_bo (a,())=some (⟨nb,a.l.map fun x=>(⟨false,[x]⟩:SSN)⟩,()):=by
 rw [u_bo];have e:=q1z l1_bo (fun k s=>(a,lenI a.l,k,s,())) a.l (fun (s:SR) x=>(⟨false,s.l++[⟨false,[x]⟩]⟩:SR)) (fun s=>(s,())) (fun k s=>k≤a.l.length∧s.l.length=k) ⟨true,[]⟩ ⟨Nat.zero_le _,rfl⟩
  (fun k x s hx hi=>by obtain ⟨nb,sl⟩:=s;have h2:sl.length=k:=hi.2;have hk:=getL hx;have hf:fit (sumI (lenI sl) (lenI [(⟨false,[x]⟩:SSN)]))=some ():=q0g (by show sl.length+1≤_;omega);refine ⟨?_,hk,by show (sl++[_]).length=_;rw [zp,h2];rfl⟩;unfold l1_bo;simp only [ltG hx,q02,q05 hx,q00,hf,q13,add1 (show k≤1000000000 by omega)];rfl)
  (fun s _=>by unfold l1_bo;simp only [ltE,q01])
 rw [q8d (fun x:SN=>(⟨false,[x]⟩:SSN))] at e;exact ⟨_,e⟩
end Fn
end Ev

