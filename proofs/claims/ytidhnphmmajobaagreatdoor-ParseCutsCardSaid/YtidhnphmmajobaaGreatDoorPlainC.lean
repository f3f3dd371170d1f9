/- The program does what the plain words say; the laws as data. No statement of its own about the program. -/
import Derived.Test.YtidhnphmmajobaaGreatDoorPlainB
namespace Ev
open Go
namespace Fn
open Pz
theorem qhx (n:Bool) (l:List (List Int)) (s:List Int) (hl:l.length≤1000000):f_bc (⟨n,l⟩,s,())=some (decide (s∈l),()):=by obtain ⟨r,h1,h2⟩:=qg4 s n l hl l.length 0 (by omega);rw [List.drop_zero] at h2;have h1:loopR l1_bf (⟨n,l⟩,s,lenI l,0,())=some (r,()):=h1;rw [u_bc,u_bf,h1,q00];have:leI 0 r=decide (s∈l):=decide_eq_decide.2 (by rw [h2]);rw [this]
section
variable (nb:Bool) (c:PC) (F:Y1)
abbrev S (a d w k:Int):Y4:=(⟨nb,c.l⟩,c.e,F,a,d,w,k,())
variable {nb c F}
theorem is_T {a:Int} {i j:Nat} (h:addI .i64 (i:Int) a=(j:Int)) (k d w:Int):f_b2 (a,k,⟨true,[]⟩,S nb c F (i:Int) d w 0)=some (isT c j k,S nb c F (i:Int) d w 0):=by
 rw [u_b2,h];simp only;rw [q0s,q04,q00,q0f];unfold isT;by_cases hj:j<c.l.length
 ·have hl:(j:Int)<lenI c.l:=by show (j:Int)<(c.l.length:Int);omega
  have hg:=zg hj;rw [if_pos hl,q0j hg,hg,q00,q00];have e:eqI c.l[j].1 k=decide (c.l[j].1=k):=by
   by_cases e:c.l[j].1=k
   ·rw [e,q0s];exact (zt rfl).symm
   ·rw [q16 e];exact (zp e).symm
  rw [e];show _=some (decide (c.l[j].1=k),S nb c F (i:Int) d w 0);cases decide (c.l[j].1=k)<;>rfl
 ·have hl:¬(j:Int)<lenI c.l:=by show ¬(j:Int)<(c.l.length:Int);omega
  rw [if_neg hl,zP (by omega)];rfl
theorem is_K {i:Nat} (h:i≤1000000) {ks:List Tx} (hk:ks≠[]) (hl:ks.length≤1000) (d w:Int):f_b2 (0,6,⟨false,ks⟩,S nb c F (i:Int) d w 0)=some (isK c i ks,S nb c F (i:Int) d w 0):=by
 have h0:addI .i64 (i:Int) 0=(i:Int):=by rw [q2d (by omega) (by omega)];omega
 have hd:eqI (lenI ks) 0=false:=q16 (by
  show ((ks.length:Nat):Int)≠0;have:=List.length_pos_iff.2 hk;omega)
 rw [u_b2,h0];simp only;rw [q0s,q04,q00,q0f,hd,q02];unfold isK;by_cases hj:i<c.l.length
 ·have hc:(i:Int)<lenI c.l:=by show (i:Int)<(c.l.length:Int);omega
  have hg:=zg hj;rw [if_pos hc,q0j hg,hg,q00,q00,q00,qhx _ _ _ (by omega),q00];have e:eqI c.l[i].1 6=decide (c.l[i].1=6):=by
   by_cases e:c.l[i].1=6
   ·rw [e,q0s];rfl
   ·rw [q16 e];exact (zp e).symm
  rw [e];show _=some (decide (c.l[i].1=6)&&decide (c.l[i].2.1∈ks),S nb c F (i:Int) d w 0);cases decide (c.l[i].1=6)<;>rfl
 ·have hc:¬(i:Int)<lenI c.l:=by show ¬(i:Int)<(c.l.length:Int);omega
  rw [if_neg hc,zP (by omega)];rfl
theorem is_E {er:Int} (he:er≠0) (a k:Int) (ks:Sl Tx) (i d w:Int):f_b2 (a,k,ks,S nb c F i d w er)=some (false,S nb c F i d w er):=by rw [u_b2,q16 he];rfl
theorem q3v {a:Int} (h:0≤a) (i d w er:Int):f_b4 (a,S nb c F i d w er)=some (plc c a.toNat,S nb c F i d w er):=by
 obtain ⟨j,rfl⟩:=Int.eq_ofNat_of_zero_le h;rw [u_b4];simp only;rw [q0f,Int.toNat_natCast];unfold plc;by_cases hj:j<c.l.length
 ·have hg:=zg hj;rw [if_pos (by show (j:Int)<(c.l.length:Int);omega),q0j hg,hg,q00]
 ·rw [if_neg (by show ¬(j:Int)<(c.l.length:Int);omega),zP (by omega)]
theorem qck (x k i d w:Int):f_b1 (x,k,S nb c F i d w 0)=some (⟨true,[]⟩,S nb c F i d x k):=by rw [u_b1,q0s];rfl
theorem qxr {er:Int} (he:er≠0) (x k i d w:Int):f_b1 (x,k,S nb c F i d w er)=some (⟨true,[]⟩,S nb c F i d w er):=by rw [u_b1,q16 he];rfl
theorem z2o {a:Int} (h:0≤a) (h2:a≤1000000):addI .i64 a 1=a+1:=q2d (by omega) (by omega)
theorem add0 {i:Nat} (h:i≤1000000):addI .i64 (i:Int) 0=(i:Int):=by rw [q2d (by omega) (by omega)];omega
theorem q6x {i:Nat} {k:Int} {ks:List Tx} (h:isT c i k=true∨isK c i ks=true) (hi:c.l.length≤1000000) (d w er:Int):f_b7 (S nb c F (i:Int) d w er)=some (((c.l[i]?).getD (0,[],0,0)),S nb c F ((i+1:Nat):Int) d w er):=by
 have hc:i<c.l.length:=h.elim q2p q4l;have hg:=zg hc;rw [u_b7];simp only;have e:subI .i64 (addI .i64 (i:Int) 1) 1=(i:Int):=by rw [q2d (by omega) (by omega),q2e (by omega) (by omega)];omega
 rw [e,q0j hg,q00,hg,add1 (by omega)];rfl
theorem q7x (i:Nat):((c.l[i]?).getD (0,[],0,0)).2.1=txt c i:=by unfold txt;cases c.l[i]?<;>rfl
theorem qti (i:Nat):((c.l[i]?).getD (0,[],0,0)).2.2.1=num c i:=by unfold num;cases c.l[i]?<;>rfl
theorem qcx {i:Nat} (k:Int) (hi:i<c.l.length):eqI ((c.l[i]?).getD (0,[],0,0)).1 k=isT c i k:=by
 unfold isT;rw [zg hi];show eqI c.l[i].1 k=decide (c.l[i].1=k);by_cases e:c.l[i].1=k
 ·rw [e,q0s];exact (zt rfl).symm
 ·rw [q16 e];exact (zp e).symm
theorem z22 {i:Nat} (hi:i≤1000000) (s:Tx) (d w:Int):f_b3 (s,S nb c F (i:Int) d w 0)=some (bif isK c i [s] then S nb c F ((i+1:Nat):Int) d w 0 else S nb c F ((i+1:Nat):Int) d (plc c i) 70):=by rw [u_b3,is_K hi (by simp) (by simp),q00];simp only;rw [q3v (by omega),q00,Int.toNat_natCast];simp only;rw [qck,q00];simp only;cases isK c i [s]<;>simp only [notB,Bool.not_true,Bool.not_false,q04,q02,q00,add1 (show i≤1000000000 by omega),cond_true,cond_false]
theorem qpx {er:Int} (he:er≠0) {i:Int} (h0:0≤i) (hi:i≤1000000) (s:Tx) (d w:Int):f_b3 (s,S nb c F i d w er)=some (S nb c F (i+1) d w er):=by rw [u_b3,is_E he,q00];simp only;rw [q3v h0,q00];simp only;rw [qxr he,q00];simp only;simp only [notB,Bool.not_false,q04,q00,z2o h0 hi]
theorem qxs {er:Int} (he:er≠0) {i:Int} (h0:0≤i) (d w:Int):f_ay (S nb c F i d w er)=some ([],S nb c F i d w er):=by rw [u_ay];simp only [is_E he,q00,q02,q3v h0,qxr he]
theorem qo3 {i:Nat} (hi:i≤1000000) (d w:Int):f_ax (S nb c F (i:Int) d w 0)=some (q2x c i,S nb c F (i:Int) d w 0):=by rw [u_ax];simp only [is_T (add0 hi),q00,is_K (ks:=[[40],[109,97,116,99,104]]) hi (by simp) (by simp)];unfold q2x;cases isT c i 3<;>cases isT c i 4<;>cases isT c i 1<;>cases isT c i 2<;>simp only [q04,q02,Bool.true_or,Bool.false_or]<;>rfl
theorem qo4 {er:Int} (he:er≠0) (i d w:Int):f_ax (S nb c F i d w er)=some (false,S nb c F i d w er):=by rw [u_ax];simp only [is_E he,q00,q02]
end
end Fn
end Ev

namespace Ev
open Go
namespace Fn
open Pz
def lens (kids:List Y0):Nat:=(kids.map fun k=>k.l.length).sum
theorem qtj (q:Bool) (kids:List Y0) (hn:kids.length≤1000000) (_hs:lens kids≤1000000):∀(m k:Nat) (acc:List Y5),k+m=kids.length→acc.length+lens (kids.drop k)≤1000001→loopR l1_c8 (⟨q,kids⟩,(kids.length:Int),(k:Int),⟨false,acc⟩,())=some (⟨false,acc++((kids.drop k).map (·.l)).flatten⟩,()):=by
 intro m
 induction m with
 |zero=>intro k acc hk hl;apply q05;unfold l1_c8;simp only;rw [q0f,if_neg (by omega),zB (by omega)];simp
 |succ m ih=>
  intro k acc hk hl;have hc:k<kids.length:=by omega
  have hd:=q18 hc;have he:lens (kids.drop k)=kids[k].l.length+lens (kids.drop (k+1)):=by unfold lens;rw [hd,zI,List.sum_cons]
  have step:l1_c8 (⟨q,kids⟩,(kids.length:Int),(k:Int),⟨false,acc⟩,())=some (.inl (⟨q,kids⟩,(kids.length:Int),((k+1:Nat):Int),⟨false,acc++kids[k].l⟩,())):=by
   unfold l1_c8;simp only;rw [q0f,if_pos (by omega),q0j (zg hc),q00,q32 (by
    show ((acc.length:Nat):Int)+((kids[k].l.length:Nat):Int)≤_;omega),q00,add1 (by omega)]
   rfl
  rw [q0d step,ih (k+1) _ (by omega) (by rw [zh];omega),hd,zI,List.flatten_cons,zu]
theorem qka (k:Int) (s:Tx) (n z:Int) (q:Bool) (kids:List Y0) (hn:kids.length≤1000000) (hs:lens kids≤1000000):f_c8 ((k,s,n,z),⟨q,kids⟩,())=some (⟨false,(k,s,n,(kids.length:Int))::(kids.map (·.l)).flatten⟩,()):=by have h:=qtj q kids hn hs kids.length 0 [(k,s,n,(kids.length:Int))] (by omega) (by rw [List.drop_zero,List.length_singleton];omega);rw [List.drop_zero] at h;rw [u_c8];exact h
theorem q31 (k:Int) (s:Tx) (q:Bool) (kids:List Y0) (hn:kids.length≤1000000) (hs:lens kids≤1000000):f_aw (k,s,⟨q,kids⟩,())=some (⟨false,nd k s (kids.map (·.l))⟩,()):=by rw [u_aw,qka _ _ _ _ _ _ hn hs,q00];unfold nd;simp
theorem z0b (k:Int) (s:Tx) (q:Bool):f_aw (k,s,⟨q,[]⟩,())=some (⟨false,nd k s []⟩,()):=q31 k s q [] (by simp) (by simp [lens])
theorem qtk (k:Int) (s:Tx) (q:Bool) (a:Y0) (h:a.l.length≤1000000):f_aw (k,s,⟨q,[a]⟩,())=some (⟨false,nd k s [a.l]⟩,()):=q31 k s q [a] (by simp) (by simpa [lens] using h)
theorem qbu (k:Int) (s:Tx) (q:Bool) (a b:Y0) (h:a.l.length+b.l.length≤1000000):f_aw (k,s,⟨q,[a,b]⟩,())=some (⟨false,nd k s [a.l,b.l]⟩,()):=q31 k s q [a,b] (by simp) (by simpa [lens] using h)
theorem qwh (k:Int) (s:Tx) (q:Bool) (a b d:Y0) (h:a.l.length+b.l.length+d.l.length≤1000000):f_aw (k,s,⟨q,[a,b,d]⟩,())=some (⟨false,nd k s [a.l,b.l,d.l]⟩,()):=q31 k s q [a,b,d] (by simp) (by simp only [lens,zI,List.map_nil,List.sum_cons,List.sum_nil];omega)
theorem z23 (k:Int) (n z:Int) (q:Bool):f_c8 ((k,[],n,z),⟨q,[]⟩,())=some (⟨false,[(k,[],n,0)]⟩,()):=qka k [] n z q [] (by simp) (by simp [lens])
section
variable (nb:Bool) (c:PC) (F:Y1)
def Sm (lo:Nat) (B:Int) (d:Int) (r:PR (List ND×Nat)) (o:Option Y3):Prop:=match r with
 |.ok x=>∃b,o=some (⟨b,x.1⟩,S nb c F (x.2:Int) d 0 0)
 |.error q=>∃v a d',o=some (v,S nb c F a d' q.1 q.2)∧q.2≠0∧((lo:Int)≤a∧a≤B)∧(v.l.length:Int)≤3*(a-lo)+1
def Sb (lo:Nat) (d:Int) (r:PR (Tx×Nat)) (o:Option Y11):Prop:=match r with
 |.ok x=>o=some (x.1,S nb c F (x.2:Int) d 0 0)
 |.error q=>∃v a,o=some (v,S nb c F a d q.1 q.2)∧q.2≠0∧((lo:Int)≤a∧a≤lo+3)
variable {nb c F}
theorem z24 (hn:c.l.length≤10000) {i:Nat} (hi:i≤c.l.length) (d:Int):Sb nb c F i d (q6v c i) (f_ay (S nb c F (i:Int) d 0 0)):=by
 have hc:i≤1000000:=by omega
 rw [u_ay,is_T (add0 hc),q00];simp only;rw [is_K hc (by simp) (by simp),q00];simp only;rw [is_T (j:=i+1) (add1 (by omega)),q00];simp only;rw [is_K hc (by simp) (by simp),q00];simp only;have eL:isK c i [[40]]=isK c i [kL]:=rfl;unfold q6v;rw [eL,add1 (show i≤1000000000 by omega)];cases h1:isT c i 1 with
 |true=>rw [q04,q6x (ks:=[]) (.inl h1) (by omega),q00];simp only;rw [q7x];rfl
 |false=>
  rw [q02];cases h2:isK c i [kL] with
  |false=>simp only [q02,q00];rw [q3v (by omega),q00,Int.toNat_natCast];simp only;rw [qck,q00];exact ⟨[],(i:Int),rfl,(by decide:(70:Int)≠0),by omega,by omega⟩
  |true=>
   rw [q04];cases h3:isT c (i+1) 5 with
   |true=>
    rw [q04,q6x (ks:=[]) (.inl h3) (by omega),q00];simp only;rw [z22 (i:=i+1+1) (by omega),q00,q7x];show Sb nb c F i d (eb (keyP c (i+2) kR) fun a=>.ok (txt c (i+1),a)) _;unfold keyP;have eR:isK c (i+1+1) [[41]]=isK c (i+2) [kR]:=rfl;rw [eR];cases h4:isK c (i+2) [kR] with
    |true=>rfl
    |false=>exact ⟨_,((i+1+1+1:Nat):Int),rfl,(by decide:(70:Int)≠0),by omega,by omega⟩
   |false=>simp only [q04,q02,q00];rw [q3v (by omega),q00,Int.toNat_natCast];simp only;rw [qck,q00];exact ⟨[],((i+1:Nat):Int),rfl,(by decide:(70:Int)≠0),by omega,by omega⟩
end
end Fn
end Ev

namespace Ev
open Go
namespace Fn
open Pz
section
variable (nb:Bool) (c:PC) (F:Y1)
def Er (lo:Nat) (B w er:Int) (o:Option Y3):Prop:=∃v a d',o=some (v,S nb c F a d' w er)∧((lo:Int)≤a∧a≤B)∧(v.l.length:Int)≤3*(a-lo)+1
structure Sf (sf:Yf0) (ps:PT) (d B:Int):Prop where
 err:∀{er:Int},er≠0→∀a dp w:Int,sf (S nb c F a dp w er)=some (⟨true,[]⟩,S nb c F a dp w er)
 ok:∀i,i≤c.l.length→Sm nb c F i B d (ps i) (sf (S nb c F (i:Int) d 0 0))
variable {nb c F} {E:Int} {Q:Tx→Prop} {N:Int→Prop}
theorem Sm.bind {lo1 lo:Nat} {B1 B d:Int} {A:List ND×Nat→Prop} {r:PR (List ND×Nat)} {o:Option Y3} {f:List ND×Nat→PR (List ND×Nat)} {K:Y3→Option Y3} (h:Sm nb c F lo1 B1 d r o) (ho:Oks E A r) (h1:∀b x,A x→Sm nb c F lo B d (f x) (K (⟨b,x.1⟩,S nb c F (x.2:Int) d 0 0))) (h2:∀(v:Y0) (a d' w er:Int),er≠0→((lo1:Int)≤a∧a≤B1)→(v.l.length:Int)≤3*(a-lo1)+1→Er nb c F lo B w er (K (v,S nb c F a d' w er))):Sm nb c F lo B d (eb r f) (bnd o K):=by
 cases r with
 |ok x=>obtain ⟨b,rfl⟩:=h;exact h1 b x ho
 |error q=>obtain ⟨v,a,d',rfl,g1,g2,g3⟩:=h;obtain ⟨v',a',d'',e1,e2,e3⟩:=h2 v a d' q.1 q.2 g1 g2 g3;exact ⟨v',a',d'',e1,g1,e2,e3⟩
theorem q6y {lo i:Nat} {B d:Int} {s:Tx} {f:Nat→PR (List ND×Nat)} {K:Y4→Option Y3} (hi:i≤1000000) (h1:i<c.l.length→Sm nb c F lo B d (f (i+1)) (K (S nb c F ((i+1:Nat):Int) d 0 0))) (h2:∀w,Er nb c F lo B w 70 (K (S nb c F ((i+1:Nat):Int) d w 70))):Sm nb c F lo B d (eb (keyP c i s) f) (bnd (f_b3 (s,S nb c F (i:Int) d 0 0)) K):=by
 rw [z22 hi,q00];unfold keyP;cases h:isK c i [s] with
 |true=>exact h1 (q4l h)
 |false=>obtain ⟨v',a',d'',e1,e2,e3⟩:=h2 (plc c i);exact ⟨v',a',d'',e1,(by decide:(70:Int)≠0),e2,e3⟩
theorem qas {lo i:Nat} {B d:Int} {f:Tx×Nat→PR (List ND×Nat)} {K:Y11→Option Y3} (hn:c.l.length≤10000) (H:Inp c E Q N) (hi:i≤c.l.length) (h1:∀x:Tx×Nat,i<x.2→x.2≤c.l.length→Sm nb c F lo B d (f x) (K (x.1,S nb c F (x.2:Int) d 0 0))) (h2:∀(v:Tx) (a w er:Int),er≠0→((i:Int)≤a∧a≤i+3)→Er nb c F lo B w er (K (v,S nb c F a d w er))):Sm nb c F lo B d (eb (q6v c i) f) (bnd (f_ay (S nb c F (i:Int) d 0 0)) K):=by
 have h:=z24 (nb:=nb) (F:=F) hn hi d;have ho:=qeq H i;cases hr:q6v c i with
 |ok x=>rw [hr] at h ho;have h:f_ay (S nb c F (i:Int) d 0 0)=some (x.1,S nb c F (x.2:Int) d 0 0):=h;rw [h];exact h1 x ho.2.1 ho.2.2
 |error q=>rw [hr] at h;obtain ⟨v,a,e,g1,g2⟩:=h;rw [e];obtain ⟨v',a',d'',e1,e2,e3⟩:=h2 v a q.1 q.2 g1 g2;exact ⟨v',a',d'',e1,g1,e2,e3⟩
variable {self:Yf0} {ps:PT} {d B:Int}
theorem qkb (hn:c.l.length≤10000) (hB:(c.l.length:Int)+3≤B) (hd:B≤100000) (H:Inp c E Q N) (hs:Sf nb c F self ps d B) (ha:∀i,Oks E (AN c Q N i) (ps i)) {i:Nat} (hi:i≤c.l.length):Sm nb c F i (B+1) d (q5l c ps i) (q0b self (S nb c F (i:Int) d 0 0)):=by
 have hc:i≤1000000:=by omega
 rw [q34];simp only [is_K (ks:=[[95]]) hc (by simp) (by simp),is_K (ks:=[[40]]) hc (by simp) (by simp),is_T (add0 hc),is_T (j:=i+1) (add1 (show i≤1000000000 by omega)),q00,add1 (show i≤1000000000 by omega),z0b,z23,q4a];unfold q5l;have eA:isK c i [[95]]=isK c i [kAny]:=rfl;have eL:isK c i [[40]]=isK c i [kL]:=rfl;rw [eA,eL];have hb:Sm nb c F i (B+1) d (eb (q6v c i) fun s=>.ok (nd 22 s.1 [],s.2)) (bnd (f_ay (S nb c F (i:Int) d 0 0)) fun x=>some (⟨false,nd 22 x.1 []⟩,x.2)):=by exact qas hn H hi (fun x h1 h2=>⟨_,rfl⟩) fun v a w er he h=>⟨⟨false,nd 22 v []⟩,a,d,rfl,by omega,by rw [q1m];simp only [List.flatten_nil,List.length_nil];omega⟩
 cases h1:isK c i [kAny] with
 |true=>exact ⟨_,rfl⟩
 |false=>
  cases h2:isT c i 3 with
  |true=>simp only [q04,q02,cond_true,cond_false];rw [q6x (ks:=[]) (.inl h2) (by omega),q00,qti];exact ⟨_,rfl⟩
  |false=>
   cases h3:isT c i 2 with
   |true=>simp only [q04,q02,cond_true,cond_false];rw [q6x (ks:=[]) (.inl h3) (by omega),q00,q7x];exact ⟨_,rfl⟩
   |false=>
    cases h4:isK c i [kL] with
    |false=>exact hb
    |true=>
     have hl:=q4l h4;cases h5:isT c (i+1) 5 with
     |true=>exact hb
     |false=>
      simp only [q04,q02,cond_true,cond_false,Bool.not_false,Bool.and_true];refine Sm.bind (hs.ok (i+1) hl) (ha (i+1)) (fun b x ⟨x1,x2,x3,x4⟩=>q6y (by omega) (fun _=>⟨_,rfl⟩) fun w=>⟨⟨b,x.1⟩,((x.2+1:Nat):Int),d,rfl,by omega,?_⟩) fun v a d' w er he h h'=>?_
      ·show (x.1.length:Int)≤_;omega
      ·simp only;rw [qpx he (by omega) (by omega),q00];exact ⟨v,a+1,d',rfl,by omega,by omega⟩
def slY (kids:List Y0):List (List ND):=kids.map (·.l)
theorem qhy (a:List Y0) (b:Y0):slY (a++[b])=slY a++[b.l]:=by unfold slY;rw [zR];rfl
theorem qbv (a:List Y0):(slY a).length=a.length:=zH _
theorem qat (a:List Y0):lens a=(slY a).flatten.length:=by unfold lens slY;rw [List.length_flatten,zZ];rfl
theorem qbw (a:List Y0):tot (slY a)=lens a+a.length:=by unfold tot;rw [qat,qbv]
theorem qwi (hn:c.l.length≤10000) (hB:(c.l.length:Int)+3≤B) (hk:B≤100000) (H:Inp c E Q N) (hs:Sf nb c F self ps d B) (ha:∀i,Oks E (AN c Q N i) (ps i)) (s:Tx) (i0:Nat):∀(m f i:Nat) (q:Bool) (kids:List Y0),i+m=c.l.length→m<f→i0<i→tot (slY kids)≤3*(i-i0-1)→Sm nb c F i0 (B+1) d (eb (qbs c ps f i (slY kids)) fun p=>.ok (nd 24 s p.1,p.2)) (loopR (q0z self) (s,⟨nb,c.l⟩,c.e,F,(i:Int),d,0,0,⟨q,kids⟩,())):=by
 intro m
 induction m using Nat.strongRecOn with
 |_ m ih=>
  intro f i q kids hm hf hq ht;obtain ⟨f,rfl⟩:∃g,f=g+1:=⟨f-1,by omega⟩;have hi:i≤c.l.length:=by omega
  have hd:i≤1000000:=by omega
  have hl:=ht;rw [qbw] at hl;have hu:(kids.length:Int)≤1000000:=by omega
  have eK:isK c i [[95],[40]]=isK c i [kAny,kL]:=rfl;have step:q0z self (s,⟨nb,c.l⟩,c.e,F,(i:Int),d,0,0,⟨q,kids⟩,())=
    bif isT c i 3||(isT c i 2||(isT c i 1||isK c i [kAny,kL])) then bnd (q0b self (S nb c F (i:Int) d 0 0)) (fun x=>some (.inl (s,x.2.1,x.2.2.1,x.2.2.2.1,x.2.2.2.2.1,x.2.2.2.2.2.1,x.2.2.2.2.2.2.1,x.2.2.2.2.2.2.2.1,⟨andB q (isE [x.1]),app kids [x.1]⟩,())))
    else some (.inr (⟨false,nd 24 s (slY kids)⟩,S nb c F (i:Int) d 0 0)):=by
   have hc:∀x:Y0,fit (sumI (lenI kids) (lenI [x]))=some ():=fun x=>q32 (by
    show ((kids.length:Nat):Int)+((1:Nat):Int)≤_;omega)
   unfold q0z;simp only [is_K (ks:=[[95],[40]]) hd (by simp) (by simp),is_T (add0 hd),q00,hc,eK,q31 24 s q kids (by omega) (by omega)];cases isT c i 3<;>cases isT c i 2<;>cases isT c i 1<;>cases isK c i [kAny,kL]<;>rfl
  unfold qbs;cases hg:isT c i 3||(isT c i 2||(isT c i 1||isK c i [kAny,kL])) with
  |false=>rw [hg] at step;rw [q05 step];exact ⟨_,rfl⟩
  |true=>
   rw [hg,cond_true] at step;rw [cond_true];have hp:=qkb hn hB hk H hs ha hi;have hj:=qhs H ha i;cases hr:q5l c ps i with
   |ok x=>rw [hr] at hp hj;obtain ⟨b,hb⟩:=hp;obtain ⟨x1,x2,x3,x4⟩:=hj;rw [hb,q00] at step;rw [q0d step];have:=ih (c.l.length-x.2) (by omega) f x.2 (andB q (isE [(⟨b,x.1⟩:Y0)])) (kids++[⟨b,x.1⟩]) (by omega) (by omega) (by omega) (by rw [qhy,q7v];simp only;omega);rw [qhy] at this;exact this
   |error e=>
    rw [hr] at hp;obtain ⟨v,a,d',hv,he,h2,h3⟩:=hp;rw [hv,q00] at step;rw [q0d step];have fin:q0z self (s,⟨nb,c.l⟩,c.e,F,a,d',e.1,e.2,⟨andB q (isE [v]),kids++[v]⟩,())=some (.inr (⟨false,nd 24 s (slY (kids++[v]))⟩,S nb c F a d' e.1 e.2)):=by
     unfold q0z;have ho:lens (kids++[v])=lens kids+v.l.length:=by unfold lens;simp
     simp only [is_E he,q00,q02,q31 24 s (andB q (isE [v])) (kids++[v]) (by rw [zh,List.length_singleton];omega) (by rw [ho];omega)];rfl
    refine ⟨_,a,d',q05 fin,he,by omega,?_⟩;show ((nd 24 s (slY (kids++[v]))).length:Int)≤_;rw [q1m,qhy,List.flatten_append,zh,←qat];simp only [List.flatten_cons,List.flatten_nil,zo];omega
theorem z0c (hn:c.l.length≤10000) (hB:(c.l.length:Int)+3≤B) (hc:B≤100000) (H:Inp c E Q N) (hs:Sf nb c F self ps d B) (ha:∀i,Oks E (AN c Q N i) (ps i)) {i:Nat} (hi:i≤c.l.length):Sm nb c F i (B+1) d (patP c ps i) (q0x self (S nb c F (i:Int) d 0 0)):=by
 have hd:i≤1000000:=by omega
 rw [q3q,is_T (add0 hd),q00,q4a];unfold patP;cases h1:isT c i 2 with
 |false=>
  have h:=qkb hn hB hc H hs ha hi;simp only [q02,cond_false];cases hr:q5l c ps i with
  |ok x=>rw [hr] at h;obtain ⟨b,hb⟩:=h;rw [hb,q00];exact ⟨b,rfl⟩
  |error e=>rw [hr] at h;obtain ⟨v,a,d',hv,h2⟩:=h;rw [hv,q00];exact ⟨v,a,d',rfl,h2⟩
 |true=>have hl:=q2p h1;simp only [q04,cond_true];rw [q6x (ks:=[]) (.inl h1) (by omega),q00,q7x];exact qwi hn hB hc H hs ha (txt c i) i (c.l.length-(i+1)) _ (i+1) true [] (by omega) (by omega) (by omega) (Nat.zero_le _)
theorem qwj (hn:c.l.length≤10000) (H:Inp c E Q N):∀(f n:Nat),f≤100→f<n→Sf nb c F (recN g_az n) (dpat c f) (100-(f:Int)) (c.l.length+3+f):=by
 intro f
 induction f with
 |zero=>
  intro n _ hc;obtain ⟨n,rfl⟩:∃g,n=g+1:=⟨n-1,by omega⟩;refine ⟨fun he a dp w=>?_,fun i hi=>?_⟩
  ·show g_az _ _=_;rw [u_az,q16 he];rfl
  ·show Sm nb c F i _ _ _ (g_az _ _);rw [u_az,q0s];simp only [notB,Bool.not_true,q02];have e:eqI (100-((0:Nat):Int)) 100=true:=rfl;rw [e,q04,q3v (by omega),q00,Int.toNat_natCast];simp only;rw [qck,q00];exact ⟨_,(i:Int),_,rfl,(by decide:(73:Int)≠0),by omega,by simp only [List.length_nil];omega⟩
 |succ f ih=>
  intro n hd hc;obtain ⟨n,rfl⟩:∃g,n=g+1:=⟨n-1,by omega⟩;have hs:=ih n (by omega) (by omega);refine ⟨fun he a dp w=>?_,fun i hi=>?_⟩
  ·show g_az _ _=_;rw [u_az,q16 he];rfl
  ·show Sm nb c F i _ _ _ (g_az _ _);rw [u_az,q0s];simp only [notB,Bool.not_true,q02];have e:eqI (100-((f+1:Nat):Int)) 100=false:=q16 (by omega);have e2:addI .i64 (100-((f+1:Nat):Int)) 1=100-(f:Int):=by rw [q2d (by omega) (by omega)];omega
   have e3:subI .i64 (100-(f:Int)) 1=100-((f+1:Nat):Int):=by rw [q2e (by omega) (by omega)];omega
   rw [e,q02,e2];have h:=z0c hn (by omega) (by omega) H hs (qht H f) hi;show Sm nb c F i _ _ (patP c (dpat c f) i) _;cases hr:patP c (dpat c f) i with
   |ok x=>rw [hr] at h;obtain ⟨b,hb⟩:=h;rw [hb,q00];simp only;rw [e3];exact ⟨b,rfl⟩
   |error e=>rw [hr] at h;obtain ⟨v,a,d',hv,he,h2,h3⟩:=h;rw [hv,q00];exact ⟨v,a,_,rfl,he,by omega,h3⟩
theorem qcy {σ ρ:Type} {f g:σ→Option (σ⊕ρ)} (h:∀s,lq (f s) (g s)) (s:σ):lq (loopR f s) (loopR g s):=by intro r hr;obtain ⟨n,hn⟩:=q4v hr;exact qvo h n s r hn
theorem qtl {α β:Type} {G:(α→Option β)→α→Option β} (h:∀f g:α→Option β,(∀x,lq (f x) (g x))→∀x,lq (G f x) (G g x)):∀(n:Nat) (x:α),lq (recN G n x) (recN G (n+1) x)
 |0,_=>fun _ h=>by cases h
 |n+1,x=>h (recN G n) (recN G (n+1)) (qtl h n) x
theorem qtm {α β:Type} {G:(α→Option β)→α→Option β} (h:∀f g:α→Option β,(∀x,lq (f x) (g x))→∀x,lq (G f x) (G g x)) {n:Nat} {x:α} {y:β} (e:recN G n x=some y):recR G x=some y:=by
 have up:∀k,recN G (n+k) x=some y:=by
  intro k
  induction k with
  |zero=>exact e
  |succ k ih=>exact qtl h (n+k) x y ih
 refine qhk n fun m hm=>?_;have:=up (m-n)
 rwa [Nat.add_sub_cancel' hm] at this
end
end Fn
end Ev

namespace Ev
open Go
namespace Fn
open Pz
section
variable {f g:Yf0} (h:∀x,lq (f x) (g x))
include h
theorem qo5 (x:Y4):lq (q0b f x) (q0b g x):=by
 obtain ⟨a0,a1,a2,a3,a4,a5,a6,u⟩:=x;rw [q34,q34]
 repeat' (first|with_reducible apply q59|with_reducible apply q5a|with_reducible exact h _|with_reducible exact q07 _|intro _)
theorem z0d (x):lq (q0z f x) (q0z g x):=by
 unfold q0z
 repeat' (first|with_reducible apply q59|with_reducible apply q5a|with_reducible exact qo5 h _|with_reducible exact q07 _|intro _)
theorem z25 (x:Y4):lq (q0x f x) (q0x g x):=by
 obtain ⟨a0,a1,a2,a3,a4,a5,a6,u⟩:=x;rw [q3q,q3q]
 repeat' (first|with_reducible apply q59|with_reducible apply q5a|with_reducible exact qo5 h _|with_reducible exact qcy (z0d h) _|with_reducible exact q07 _|intro _)
theorem qwk (x:Y4):lq (g_az f x) (g_az g x):=by
 obtain ⟨a0,a1,a2,a3,a4,a5,a6,u⟩:=x;rw [u_az,u_az]
 repeat' (first|with_reducible apply q59|with_reducible apply q5a|with_reducible exact z25 h _|with_reducible exact q07 _|intro _)
theorem qkc (x:Y11):lq (q09 f x) (q09 g x):=by
 obtain ⟨a0,a1,a2,a3,a4,a5,a6,a7,u⟩:=x;rw [q21,q21]
 repeat' (first|with_reducible apply q59|with_reducible apply q5a|with_reducible exact h _|with_reducible exact q07 _|intro _)
theorem qtn (x):lq (q0n f x) (q0n g x):=by
 unfold q0n
 repeat' (first|with_reducible apply q59|with_reducible apply q5a|with_reducible exact qkc h _|with_reducible exact q07 _|intro _)
theorem qwl (x:Y4):lq (q0q f x) (q0q g x):=by
 obtain ⟨a0,a1,a2,a3,a4,a5,a6,u⟩:=x;rw [q35,q35]
 repeat' (first|with_reducible apply q59|with_reducible apply q5a|with_reducible apply qzd|with_reducible exact h _|with_reducible exact qcy (qtn h) _|with_reducible exact q07 _|intro _)
theorem qto (x:Y4):lq (q0k f x) (q0k g x):=by
 obtain ⟨a0,a1,a2,a3,a4,a5,a6,u⟩:=x;rw [q3e,q3e]
 repeat' (first|with_reducible apply q59|with_reducible apply q5a|with_reducible exact h _|with_reducible exact qwl h _|with_reducible exact q07 _|intro _)
theorem z0e (x:Y3):lq (q0p f x) (q0p g x):=by
 unfold q0p
 repeat' (first|with_reducible apply q59|with_reducible apply q5a|with_reducible exact qto h _|with_reducible exact q07 _|intro _)
theorem qxt (x:Y4):lq (q0o f x) (q0o g x):=by
 obtain ⟨a0,a1,a2,a3,a4,a5,a6,u⟩:=x;rw [q3r,q3r]
 repeat' (first|with_reducible apply q59|with_reducible apply q5a|with_reducible exact qto h _|with_reducible exact qcy (z0e h) _|with_reducible exact q07 _|intro _)
theorem z0f (x):lq (q0e f x) (q0e g x):=by
 unfold q0e
 repeat' (first|with_reducible apply q59|with_reducible apply q5a|with_reducible exact qxt h _|with_reducible exact q07 _|intro _)
theorem z26 (x:Y4):lq (q0y f x) (q0y g x):=by
 obtain ⟨a0,a1,a2,a3,a4,a5,a6,u⟩:=x;rw [q3s,q3s]
 repeat' (first|with_reducible apply q59|with_reducible apply q5a|with_reducible exact qxt h _|with_reducible exact qcy (z0f h) _|with_reducible exact q07 _|intro _)
theorem z0g (x:Y4):lq (q0u f x) (q0u g x):=by
 obtain ⟨a0,a1,a2,a3,a4,a5,a6,u⟩:=x;rw [q3f,q3f]
 repeat' (first|with_reducible apply q59|with_reducible apply q5a|with_reducible exact h _|with_reducible exact z26 h _|with_reducible exact qkc h _|with_reducible exact q07 _|intro _)
theorem z0h (x:Y4):lq (q0v f x) (q0v g x):=by
 obtain ⟨a0,a1,a2,a3,a4,a5,a6,u⟩:=x;rw [q1q,q1q]
 repeat' (first|with_reducible apply q59|with_reducible apply q5a|with_reducible exact z0g h _|with_reducible exact q07 _|intro _)
theorem z0i (x:Y4):lq (g_b0 f x) (g_b0 g x):=by
 obtain ⟨a0,a1,a2,a3,a4,a5,a6,u⟩:=x;rw [u_b0,u_b0]
 repeat' (first|with_reducible apply q59|with_reducible apply q5a|with_reducible exact z0h h _|with_reducible exact q07 _|intro _)
end
section
variable {nb:Bool} {c:PC} {F:Y1} {E:Int} {Q:Tx→Prop} {N:Int→Prop}
theorem Sm.up {lo:Nat} {B d:Int} {r:PR (List ND×Nat)} {o o':Option Y3} (h:Sm nb c F lo B d r o) (hl:lq o o'):Sm nb c F lo B d r o':=by
 cases r with
 |ok x=>obtain ⟨b,hb⟩:=h;exact ⟨b,hl _ hb⟩
 |error q=>obtain ⟨v,a,d',hv,h2⟩:=h;exact ⟨v,a,d',hl _ hv,h2⟩
theorem qwm (hn:c.l.length≤10000) (H:Inp c E Q N) (f:Nat) (hf:f≤100):Sf nb c F f_az (dpat c f) (100-(f:Int)) (c.l.length+3+f):=by have hs:=qwj (nb:=nb) (F:=F) hn H f (f+1) hf (Nat.lt_succ_self f);have up:∀x,lq (recN g_az (f+1) x) (f_az x):=fun x y e=>qtm (fun _ _ h=>qwk h) e;exact ⟨fun he a dp w=>up _ _ (hs.err he a dp w),fun i hi=>(hs.ok i hi).up (up _)⟩
end
end Fn
end Ev

namespace Ev
open Go
namespace Fn
open Pz
section
variable {nb:Bool} {c:PC} {F:Y1} {E:Int} {Q:Tx→Prop} {N:Int→Prop}
variable {self:Yf0} {ps pp:PT} {d B:Int}
theorem Sm.eta {lo:Nat} {B d:Int} {r:PR (List ND×Nat)} {o:Option Y3} (h:Sm nb c F lo B d r o):Sm nb c F lo B d r (bnd o fun x=>some (x.1,x.2.1,x.2.2.1,x.2.2.2.1,x.2.2.2.2.1,x.2.2.2.2.2.1,x.2.2.2.2.2.2.1,x.2.2.2.2.2.2.2.1,())):=by
 cases r with
 |ok x=>obtain ⟨b,hb⟩:=h;rw [hb];exact ⟨b,rfl⟩
 |error q=>obtain ⟨v,a,d',hv,h2⟩:=h;rw [hv];exact ⟨v,a,d',rfl,h2⟩
theorem Sm.wide {lo lo':Nat} {B B' d:Int} {r:PR (List ND×Nat)} {o:Option Y3} (h:Sm nb c F lo B d r o) (h1:lo'≤lo) (h2:B≤B'):Sm nb c F lo' B' d r o:=by
 cases r with
 |ok x=>exact h
 |error q=>obtain ⟨v,a,d',hv,g1,g2,g3⟩:=h;exact ⟨v,a,d',hv,g1,by omega,by omega⟩
theorem q3w (hs:Sf nb c F self ps d B) {er:Int} (he:er≠0) {i:Int} (h0:0≤i) (hi:i≤1000000) (s:Tx) (dp w:Int):q09 self (s,S nb c F i dp w er)=some (⟨true,[]⟩,S nb c F (i+1) dp w er):=by rw [q21,qpx he h0 hi,q00];simp only;rw [hs.err he,q00]
theorem q4c (hn:c.l.length≤10000) (hB:(c.l.length:Int)+3≤B) (hs:Sf nb c F self ps d B) {i:Nat} (hi:i≤c.l.length) (s:Tx):Sm nb c F (i+1) B d (behP c ps i s) (q09 self (s,S nb c F (i:Int) d 0 0)):=by rw [q21];unfold behP;refine q6y (by omega) (fun hl=>(hs.ok (i+1) hl).eta) fun w=>?_;simp only;rw [hs.err (by decide:(70:Int)≠0),q00];exact ⟨⟨true,[]⟩,((i+1:Nat):Int),d,rfl,by omega,by simp only [List.length_nil];omega⟩
noncomputable def qkd (x7:Y32):Option Y3:=bnd (f_b3 (([101,110,100]:Y2),x7.1,x7.2.1,x7.2.2.1,x7.2.2.2.1,x7.2.2.2.2.1,x7.2.2.2.2.2.1,x7.2.2.2.2.2.2.1,())) (fun x8=>bnd (f_aw (10,([]:Y2),x7.2.2.2.2.2.2.2.1,())) (fun x9=>some (x9.1,x8.1,x8.2.1,x8.2.2.1,x8.2.2.2.1,x8.2.2.2.2.1,x8.2.2.2.2.2.1,x8.2.2.2.2.2.2.1,())))
theorem z27 {lo j:Nat} {q:Bool} {kids:List Y0} {B2:Int} (hn:c.l.length≤10000) (hB:(c.l.length:Int)+3≤B2) (hj:j≤c.l.length) (hd:lo≤j) (ht:tot (slY kids)≤3*(j-lo)):Sm nb c F lo B2 d (eb (keyP c j kEnd) fun a2=>.ok (nd 10 [] (slY kids),a2)) (qkd (⟨nb,c.l⟩,c.e,F,(j:Int),d,0,0,⟨q,kids⟩,())):=by
 have hc:=ht;rw [qbw] at hc;unfold qkd;refine q6y (by omega) (fun hl=>?_) fun w=>?_
 ·simp only;rw [q31 _ _ _ _ (by omega) (by omega),q00];exact ⟨_,rfl⟩
 ·simp only;rw [q31 _ _ _ _ (by omega) (by omega),q00];refine ⟨_,((j+1:Nat):Int),d,rfl,by omega,?_⟩;show ((nd 10 [] (slY kids)).length:Int)≤_;rw [q1m,←qat];omega
theorem qtp {lo:Nat} {q:Bool} {kids:List Y0} {B2 a d' w er:Int} (hB:B2≤100000) (he:er≠0) (h1:(lo:Int)≤a) (h2:a+1≤B2) (ht:((lens kids:Nat):Int)≤3*(a-lo)+3) (hk:kids.length≤1000000):Er nb c F lo B2 w er (qkd (⟨nb,c.l⟩,c.e,F,a,d',w,er,⟨q,kids⟩,())):=by unfold qkd;simp only;rw [qpx he (by omega) (by omega),q00];rw [q31 _ _ _ _ (by omega) (by omega),q00];refine ⟨_,a+1,d',rfl,by omega,?_⟩;show ((nd 10 [] (slY kids)).length:Int)≤_;rw [q1m,←qat];omega
theorem Er.sm {lo:Nat} {B d:Int} {q:Int×Int} {o:Option Y3} (h:Er nb c F lo B q.1 q.2 o) (hq:q.2≠0):Sm nb c F lo B d (.error q) o:=by obtain ⟨v,a,d',e1,e2,e3⟩:=h;exact ⟨v,a,d',e1,hq,e2,e3⟩
theorem qwn (hn:c.l.length≤10000) (hB:(c.l.length:Int)+3≤B) (hy:B≤90000) (H:Inp c E Q N) (hs:Sf nb c F self ps d B) (ha:∀i,Oks E (AN c Q N i) (ps i)) (ho:Sf nb c F f_az pp d B) (hu:∀i,Oks E (AN c Q N i) (pp i)) (i0:Nat):∀(m f i:Nat) (q:Bool) (kids:List Y0),i+m=c.l.length→m<f→i0≤i→tot (slY kids)≤3*(i-i0)→Sm nb c F i0 (B+3) d (eb (qam c ps pp f i (slY kids)) fun r=>eb (keyP c r.2 kEnd) fun a2=>.ok (nd 10 [] r.1,a2)) (bnd (loopR (q0n self) (⟨nb,c.l⟩,c.e,F,(i:Int),d,0,0,⟨q,kids⟩,())) (sumE qkd)):=by
 intro m
 induction m using Nat.strongRecOn with
 |_ m ih=>
  intro f i q kids hm hf hz ht;obtain ⟨f,rfl⟩:∃g,f=g+1:=⟨f-1,by omega⟩;have hi:i≤c.l.length:=by omega
  have hA:i≤1000000:=by omega
  have hw:=ht;rw [qbw] at hw;have hc:∀x y:Y0,fit (sumI (lenI kids) (lenI [x,y]))=some ():=fun x y=>q32 (by
   show ((kids.length:Nat):Int)+((2:Nat):Int)≤_;omega)
  have step:q0n self (⟨nb,c.l⟩,c.e,F,(i:Int),d,0,0,⟨q,kids⟩,())=
    bnd (f_az (S nb c F (i:Int) d 0 0)) (fun x3=>bnd (q09 self (q44,x3.2.1,x3.2.2.1,x3.2.2.2.1,x3.2.2.2.2.1,x3.2.2.2.2.2.1,x3.2.2.2.2.2.2.1,x3.2.2.2.2.2.2.2.1,())) (fun x4=>bnd (f_b2 (0,6,⟨false,[kBar]⟩,x4.2.1,x4.2.2.1,x4.2.2.2.1,x4.2.2.2.2.1,x4.2.2.2.2.2.1,x4.2.2.2.2.2.2.1,x4.2.2.2.2.2.2.2.1,())) (fun x6=>cnd (notB x6.1) (some (.inr (.inl (x6.2.1,x6.2.2.1,x6.2.2.2.1,x6.2.2.2.2.1,x6.2.2.2.2.2.1,x6.2.2.2.2.2.2.1,x6.2.2.2.2.2.2.2.1,⟨andB q (isE [x3.1,x4.1]),app kids [x3.1,x4.1]⟩,())))) (some (.inl (x6.2.1,x6.2.2.1,x6.2.2.2.1,addI .i64 x6.2.2.2.2.1 1,x6.2.2.2.2.2.1,x6.2.2.2.2.2.2.1,x6.2.2.2.2.2.2.2.1,⟨andB q (isE [x3.1,x4.1]),app kids [x3.1,x4.1]⟩,())))))):=by
   unfold q0n;simp only;rw [q0s,q04];simp only [hc,q00];rfl
  have e2:∀x y:Y0,slY (kids++[x,y])=slY kids++[x.l,y.l]:=fun x y=>by unfold slY;rw [zR];rfl
  have e3:∀x y:Y0,lens (kids++[x,y])=lens kids+(x.l.length+y.l.length):=fun x y=>by unfold lens;rw [zR,List.sum_append];simp only [zI,List.map_nil,List.sum_cons,List.sum_nil];omega
  unfold qam;have hp:=ho.ok i hi;have hd:=hu i;cases hr:pp i with
  |error e=>
   rw [hr] at hp;obtain ⟨v,a,d',hv,he,h2,h3⟩:=hp;rw [hv,q00] at step;simp only at step;rw [q3w hs he (by omega) (by omega),q00] at step;simp only at step;rw [is_E he,q00] at step;rw [q05 step,q00];show Sm nb c F i0 (B+3) d (.error e) (qkd _);refine Er.sm (qtp (a:=a+1) (by omega) he (by omega) (by omega) ?_ ?_) he
   ·show ((lens (kids++[v,(⟨true,[]⟩:Y0)]):Nat):Int)≤_;rw [e3];simp only [List.length_nil];omega
   ·show (kids++[v,(⟨true,[]⟩:Y0)]).length≤_;rw [zh];simp only [ze,List.length_nil];omega
  |ok p=>
   rw [hr] at hp hd;obtain ⟨b,hb⟩:=hp;obtain ⟨p1,p2,p3,p4⟩:=hd;rw [hb,q00] at step;simp only at step;have hq:=q4c hn hB hs p2 q44;have hg:=q5m H ha p.2 q44;show Sm nb c F i0 (B+3) d (eb (eb (behP c ps p.2 q44) _) _) _;cases hj:behP c ps p.2 q44 with
   |error e=>
    rw [hj] at hq;obtain ⟨v,a,d',hv,he,h2,h3⟩:=hq;rw [hv,q00] at step;simp only at step;rw [is_E he,q00] at step;rw [q05 step,q00];show Sm nb c F i0 (B+3) d (.error e) (qkd _);refine Er.sm (qtp (a:=a) (by omega) he (by omega) (by omega) ?_ ?_) he
    ·show ((lens (kids++[(⟨b,p.1⟩:Y0),v]):Nat):Int)≤_;rw [e3];simp only;omega
    ·show (kids++[(⟨b,p.1⟩:Y0),v]).length≤_;rw [zh];simp only [ze,List.length_nil];omega
   |ok y=>
    rw [hj] at hq hg;obtain ⟨b2,hx⟩:=hq;obtain ⟨y1,y2,y3,y4⟩:=hg;rw [hx,q00] at step;simp only at step;rw [is_K (ks:=[kBar]) (by omega) (by simp) (by simp),q00] at step;simp only at step;rw [q4a,add1 (by omega)] at step;have hk:tot (slY (kids++[(⟨b,p.1⟩:Y0),⟨b2,y.1⟩]))≤3*(y.2-i0):=by rw [qbw,e3,zh];simp only [ze,List.length_nil];omega
    show Sm nb c F i0 (B+3) d (eb (bif isK c y.2 [kBar] then qam c ps pp f (y.2+1) (slY kids++[p.1,y.1]) else .ok (slY kids++[p.1,y.1],y.2)) _) _;cases hK:isK c y.2 [kBar] with
    |true=>have hl:=q4l hK;rw [hK,q04] at step;rw [q0d step,cond_true];have:=ih (c.l.length-(y.2+1)) (by omega) f (y.2+1) (andB q (isE [(⟨b,p.1⟩:Y0),⟨b2,y.1⟩])) (kids++[(⟨b,p.1⟩:Y0),⟨b2,y.1⟩]) (by omega) (by omega) (by omega) (by omega);rw [e2] at this;exact this
    |false=>rw [hK,q02] at step;rw [q05 step,q00,cond_false];have:=z27 (nb:=nb) (F:=F) (d:=d) (q:=andB q (isE [(⟨b,p.1⟩:Y0),⟨b2,y.1⟩])) (B2:=B+3) hn (by omega) y2 (by omega) hk;rw [e2] at this;exact this
theorem qtq (hn:c.l.length≤10000) (hB:(c.l.length:Int)+3≤B) (hc:B≤90000) (H:Inp c E Q N) (hs:Sf nb c F self ps d B) (ha:∀i,Oks E (AN c Q N i) (ps i)) (hd:Sf nb c F f_az pp d B) (hf:∀i,Oks E (AN c Q N i) (pp i)) {i:Nat} (hi:i≤c.l.length):Sm nb c F i (B+3) d (q76 c ps pp i) (q0q self (S nb c F (i:Int) d 0 0)):=by
 have hE:∀(v:Y0) (a d' w er:Int),er≠0→((i:Int)≤a∧a≤B+1)→(v.l.length:Int)≤3*(a-i)+1→
   Er nb c F i (B+3) w er (bnd (loopR (q0n self) (⟨nb,c.l⟩,c.e,F,a,d',w,er,⟨false,[v]⟩,())) (sumE qkd)):=by
  intro v a d' w er he h1 h2;have step:q0n self (⟨nb,c.l⟩,c.e,F,a,d',w,er,⟨false,[v]⟩,())=some (.inr (.inl (⟨nb,c.l⟩,c.e,F,a,d',w,er,⟨false,[v]⟩,()))):=by unfold q0n;simp only;rw [q16 he,q02]
  rw [q05 step,q00];exact qtp (by omega) he (by omega) (by omega) (by simp only [lens,zI,List.map_nil,List.sum_cons,List.sum_nil];omega) (by simp)
 rw [q35];unfold q76;refine Sm.bind (hs.ok i hi) (ha i) (fun b x ⟨x1,x2,x3,x4⟩=>?_) fun v a d' w er he h1 h2=>?_
 ·simp only;refine q6y (by omega) (fun hl=>?_) fun w=>?_
  ·have h:=qwn hn hB hc H hs ha hd hf i (c.l.length-(x.2+1)) (c.l.length+1) (x.2+1) false [⟨b,x.1⟩] (by omega) (by omega) (by omega) (by
    have:tot (slY [(⟨b,x.1⟩:Y0)])=x.1.length+1:=by simp [tot,slY]
    omega)
   exact h
  ·exact hE ⟨b,x.1⟩ ((x.2+1:Nat):Int) d w 70 (by decide) (by omega) (by simp only;omega)
 ·simp only;rw [qpx he (by omega) (by omega),q00];exact hE v (a+1) d' w er he (by omega) (by omega)
theorem qo6 (hn:c.l.length≤10000) (hB:(c.l.length:Int)+3≤B) (hc:B≤90000) (H:Inp c E Q N) (hs:Sf nb c F self ps d B) (ha:∀i,Oks E (AN c Q N i) (ps i)) (hd:Sf nb c F f_az pp d B) (hf:∀i,Oks E (AN c Q N i) (pp i)) {i:Nat} (hi:i≤c.l.length):Sm nb c F i (B+3) d (q7u c ps pp i) (q0k self (S nb c F (i:Int) d 0 0)):=by
 have hg:i≤1000000:=by omega
 rw [q3e,qo3 hg,q00,q4a];simp only;unfold q7u;cases hb:q2x c i with
 |false=>simp only [q02,cond_false];rw [q3v (by omega),q00,Int.toNat_natCast];simp only;rw [qck,q00];exact ⟨⟨true,[]⟩,(i:Int),d,rfl,(by decide:(70:Int)≠0),by omega,by simp only [List.length_nil];omega⟩
 |true=>
  have hl:=qk8 hb;simp only [q04,cond_true];have hj:f_b7 (S nb c F (i:Int) d 0 0)=some (((c.l[i]?).getD (0,[],0,0)),S nb c F ((i+1:Nat):Int) d 0 0):=by refine q6x (k:=(c.l[i]'hl).1) (ks:=[]) (.inl ?_) (by omega) d 0 0;unfold isT;rw [zg hl];exact zt rfl
  rw [hj,q00];simp only;rw [qcx _ hl,qcx _ hl,qcx _ hl,qcx _ hl,q7x,qti,is_T (j:=i+1) (add0 (by omega)),q00];simp only [z0b,z23,q00];cases h3:isT c i 3 with
  |true=>exact ⟨_,rfl⟩
  |false=>
  cases h4:isT c i 4 with
  |true=>exact ⟨_,rfl⟩
  |false=>
  cases h1:isT c i 1 with
  |true=>exact ⟨_,rfl⟩
  |false=>
  cases h2:isT c i 2 with
  |true=>exact ⟨_,rfl⟩
  |false=>
  simp only [q02,cond_false];rw [q6t];by_cases hm:txt c i=qgc
  ·rw [if_pos (show txt c i=[109,97,116,99,104] from hm),zt hm,cond_true];exact ((qtq hn hB hc H hs ha hd hf hl).wide (Nat.le_succ i) (Int.le_refl _)).eta
  ·rw [if_neg (show ¬txt c i=[109,97,116,99,104] from hm),zp hm,cond_false];cases h5:isT c (i+1) 5 with
   |true=>simp only [q04,cond_true];rw [q6x (ks:=[]) (.inl h5) (by omega),q00,q7x];simp only;exact q6y (i:=i+2) (by omega) (fun _=>⟨_,rfl⟩) fun w=>⟨_,((i+2+1:Nat):Int),d,rfl,by omega,by simp only [q1m,List.flatten_nil,List.length_nil];omega⟩
   |false=>simp only [q02,cond_false];refine Sm.bind (hs.ok (i+1) hl) (ha (i+1)) (fun b x ⟨x1,x2,x3,x4⟩=>q6y (by omega) (fun _=>⟨_,rfl⟩) fun w=>⟨⟨b,x.1⟩,((x.2+1:Nat):Int),d,rfl,by omega,by simp only;omega⟩) fun v a d' w er he h h'=>?_;simp only;rw [qpx he (by omega) (by omega),q00];exact ⟨v,a+1,d',rfl,by omega,by omega⟩
theorem qwo (hn:c.l.length≤10000) (hB:(c.l.length:Int)+3≤B) (hg:B≤90000) (H:Inp c E Q N) (hs:Sf nb c F self ps d B) (ha:∀i,Oks E (AN c Q N i) (ps i)) (hj:Sf nb c F f_az pp d B) (hc:∀i,Oks E (AN c Q N i) (pp i)) (i0:Nat):∀(m f i:Nat) (b:Bool) (l:List ND),i+m=c.l.length→m<f→i0≤i→l.length+1≤3*(i-i0)→Sm nb c F i0 (B+3) d (q78 c ps pp f i l) (loopR (q0p self) (⟨b,l⟩,S nb c F (i:Int) d 0 0)):=by
 intro m
 induction m using Nat.strongRecOn with
 |_ m ih=>
  intro f i b l hm hf ho ht;obtain ⟨f,rfl⟩:∃g,f=g+1:=⟨f-1,by omega⟩;have hi:i≤c.l.length:=by omega
  have hk:i≤1000000:=by omega
  have step:q0p self (⟨b,l⟩,S nb c F (i:Int) d 0 0)=cnd (q2x c i) (bnd (q0k self (S nb c F (i:Int) d 0 0)) (fun x3=>bnd (f_aw (6,[],⟨false,[⟨b,l⟩,x3.1]⟩,())) (fun x4=>some (.inl (x4.1,x3.2.1,x3.2.2.1,x3.2.2.2.1,x3.2.2.2.2.1,x3.2.2.2.2.2.1,x3.2.2.2.2.2.2.1,x3.2.2.2.2.2.2.2.1,()))))) (some (.inr (⟨b,l⟩,S nb c F (i:Int) d 0 0))):=by unfold q0p;simp only;rw [qo3 hk,q00]
  unfold q78;cases hb:q2x c i with
  |false=>rw [hb,q02] at step;rw [q05 step];exact ⟨b,rfl⟩
  |true=>
   rw [hb,q04] at step;rw [cond_true];have hp:=qo6 hn hB hg H hs ha hj hc hi;have hd:=qhu H ha hc i;cases hr:q7u c ps pp i with
   |ok x=>
    rw [hr] at hp hd;obtain ⟨b2,hl⟩:=hp;obtain ⟨x1,x2,x3,x4⟩:=hd;rw [hl,q00] at step;simp only at step;rw [qbu _ _ _ _ _ (by simp only;omega),q00] at step;rw [q0d step];exact ih (c.l.length-x.2) (by omega) f x.2 false _ (by omega) (by omega) (by omega) (by
     rw [q1m];simp only [List.flatten_cons,List.flatten_nil,zo,zh];omega)
   |error e=>
    rw [hr] at hp;obtain ⟨v,a,d',hv,he,h2,h3⟩:=hp;rw [hv,q00] at step;simp only at step;rw [qbu _ _ _ _ _ (by simp only;omega),q00] at step;rw [q0d step];have fin:∀l':Y0,q0p self (l',S nb c F a d' e.1 e.2)=some (.inr (l',S nb c F a d' e.1 e.2)):=by intro l';unfold q0p;simp only;rw [qo4 he,q00,q02]
    refine ⟨_,a,d',q05 (fin _),he,by omega,?_⟩;simp only [q1m,List.flatten_cons,List.flatten_nil,zo,zh];omega
theorem qtr (hn:c.l.length≤10000) (hB:(c.l.length:Int)+3≤B) (hd:B≤90000) (H:Inp c E Q N) (hs:Sf nb c F self ps d B) (ha:∀i,Oks E (AN c Q N i) (ps i)) (hf:Sf nb c F f_az pp d B) (hc:∀i,Oks E (AN c Q N i) (pp i)) {i:Nat} (hi:i≤c.l.length):Sm nb c F i (B+3) d (appP c ps pp i) (q0o self (S nb c F (i:Int) d 0 0)):=by
 rw [q3r];unfold appP;refine Sm.bind (qo6 hn hB hd H hs ha hf hc hi) (qhu H ha hc i) (fun b x ⟨x1,x2,x3,x4⟩=>qwo hn hB hd H hs ha hf hc i (c.l.length-x.2) (c.l.length+1) x.2 b x.1 (by omega) (by omega) (by omega) (by omega)) fun v a d' w er he h h'=>?_;have fin:q0p self (v,S nb c F a d' w er)=some (.inr (v,S nb c F a d' w er)):=by unfold q0p;simp only;rw [qo4 he,q00,q02]
 exact ⟨v,a,d',q05 fin,by omega,by omega⟩
end
end Fn
end Ev

namespace Ev
open Go
namespace Fn
open Pz
def fxOf (l:List Fix1) (op:Tx):Bool:=(qal l op).isSome
def clOf (l:List Fix1) (ops:List Tx):Option (List Int):=if 400<ops.length then none else match q4m l ops with
 |none=>none
 |some fs=>qgb fs
structure FxOk (c:PC) (F:Y1):Prop where
 g:gL F.l
 z:q2c F.l=0
 fx:c.fx=fxOf F.l
 cl:c.cl=clOf F.l
theorem B_Bt {lv sd:Nat→Int} {a b:Nat} {x:List Int} (h:Fx.B lv sd a b x):Bt a b x:=by
 induction h with
 |nil a=>exact Bt.leaf a
 |node a r b x y h1 h2 _ _ _ _ ih1 ih2=>exact Bt.node a r b x y h1 h2 ih1 ih2
theorem qts {l:List Fix1} (hz:q2c l=0) {ops:List Tx} {x:List Int} (h:clOf l ops=some x):Bt 0 ops.length x:=by
 unfold clOf at h;split at h
 ·cases h
 ·cases hf:q4m l ops with
  |none=>rw [hf] at h;cases h
  |some fs=>rw [hf] at h;obtain ⟨f1,f2⟩:=q7t hf;obtain ⟨_,hr,_⟩:=qnt hz;have:=Fx.climbL_ok (lv:=lvF fs) (sd:=sdF fs) (n:=fs.length) (qnu hr f2);have h:Fx.climbL (lvF fs) (sdF fs) fs.length=some x:=h;rw [h] at this;rw [←f1];exact B_Bt this
theorem qwp {n1 n2:Bool} {l:List Fix1} (h:gL l) (hz:q2c l=0) (ops:List Tx):∃q er,f_a2 (⟨n1,l⟩,⟨n2,ops⟩,())=some (match clOf l ops with|none=>(⟨true,[]⟩,er,())|some x=>(⟨q,x⟩,0,()))∧er≠0:=by
 obtain ⟨q,hq⟩:=qpu n1 n2 h ops;rw [hq];unfold resC clOf;rw [if_neg (by simpa using hz)];by_cases h4:400<ops.length
 ·rw [if_pos h4,if_pos h4];exact ⟨q,40,rfl,by decide⟩
 ·rw [if_neg h4,if_neg h4];cases q4m l ops with
  |none=>exact ⟨q,42,rfl,by decide⟩
  |some fs=>
   simp only;cases qgb fs with
   |none=>exact ⟨q,43,rfl,by decide⟩
   |some x=>exact ⟨q,1,rfl,by decide⟩
theorem qtt (L:List (List ND)) (k:Nat):(L.drop k).flatten.length≤L.flatten.length:=by
 have h:L.flatten.length=((L.take k)++(L.drop k)).flatten.length:=by rw [List.take_append_drop]
 rw [h,List.flatten_append,zh];omega
theorem qtu (L:List (List ND)) (k:Nat):(L.take k).flatten.length≤L.flatten.length:=by
 have h:L.flatten.length=((L.take k)++(L.drop k)).flatten.length:=by rw [List.take_append_drop]
 rw [h,List.flatten_append,zh];omega
theorem qtv {apps:List Y0} {i:Nat} (h:i<apps.length):(slY apps)[i]?=some apps[i].l:=by unfold slY;rw [zY,zg h];rfl
theorem z0j {qa qo:Bool} {apps:List Y0} {ops:List Tx} (hs:lens apps+3*ops.length≤100000):∀{a b:Nat} {x:List Int},Bt a b x→b<apps.length→b≤ops.length→∀(z:Sl Int) (n:Nat) (post:List Int),z.l.drop n=x++post→n+x.length≤1000000→∃q t,(∀m,x.length≤m→recN g_b6 m (z,(n:Int),⟨qa,apps⟩,⟨qo,ops⟩,())=some (⟨q,t⟩,z,((n+x.length:Nat):Int),⟨qa,apps⟩,⟨qo,ops⟩,()))∧(∀f,x.length≤f→bld (slY apps) ops f (x++post)=(t,post)):=by
 have hP:∀a,a∈slY apps→∀d,d∈a→True:=fun _ _ _ _=>trivial;intro a b x h
 induction h with
 |leaf a=>
  intro h1 h2 z n post hz hn;have he:n<z.l.length:=by have:=congrArg List.length hz;simp only [zw,zh,ze,List.length_nil] at this;omega
  have hg:z.l[n]?=some (-1-(a:Int)):=by have:=congrArg (fun l=>l[0]?) hz;simpa using this
  refine ⟨apps[a].nil,apps[a].l,fun m hm=>?_,fun f hf=>?_⟩
  ·simp only [ze,List.length_nil] at hm;obtain ⟨m,rfl⟩:∃k,m=k+1:=⟨m-1,by omega⟩;show g_b6 _ _=_;have e:subI .i64 (-1) (-1-(a:Int))=(a:Int):=by rw [q2e (by omega) (by simp only [ze,List.length_nil] at hn;omega)];omega
   rw [u_b6,q0j hg,q00,q0f,if_pos (by omega),e,q0j (zg h1),q00,add1 (by omega)];rfl
  ·simp only [ze,List.length_nil] at hf;obtain ⟨f,rfl⟩:∃k,f=k+1:=⟨f-1,by omega⟩;show (if -1-(a:Int)<0 then (((slY apps)[(-1-(-1-(a:Int))).toNat]?).getD [],post) else _)=_;rw [if_pos (by omega)];have e:(-1-(-1-(a:Int))).toNat=a:=by omega
   rw [e,qtv h1];rfl
 |node a r b x y g1 g2 hx hy ihx ihy=>
  intro h1 h2 z n post hz hn;simp only [ze,zh] at hn;have hr:r<ops.length:=by omega
  have hl:=hy.le;have he:n<z.l.length:=by have:=congrArg List.length hz;simp only [zw,zh,ze] at this;omega
  have hg:z.l[n]?=some (r:Int):=by have:=congrArg (fun l=>l[0]?) hz;simpa using this
  have hd:z.l.drop (n+1)=x++(y++post):=by rw [←List.drop_drop,hz];simp
  have hj:z.l.drop (n+1+x.length)=y++post:=by rw [←List.drop_drop,hd,List.drop_left]
  obtain ⟨q1,t1,r1,s1⟩:=ihx (by omega) (by omega) z (n+1) (y++post) hd (by omega);obtain ⟨q2,t2,r2,s2⟩:=ihy h1 h2 z (n+1+x.length) post hj (by omega);obtain ⟨t1',e1,l1,_⟩:=qt8 (apps:=slY apps) (ops:=ops) (P:=fun _=>True) hP (fun _ _=>trivial) trivial hx (by rw [qbv];omega) (by omega) x.length (y++post) (Nat.le_refl _);obtain ⟨t2',e2,l2,_⟩:=qt8 (apps:=slY apps) (ops:=ops) (P:=fun _=>True) hP (fun _ _=>trivial) trivial hy (by rw [qbv];omega) (by omega) y.length post (Nat.le_refl _);rw [s1 x.length (Nat.le_refl _)] at e1;rw [s2 y.length (Nat.le_refl _)] at e2;obtain rfl:t1=t1':=congrArg Prod.fst e1;obtain rfl:t2=t2':=congrArg Prod.fst e2;have hc:=qt7 (apps:=slY apps) g1 g2 (by rw [qbv];omega);have hk:(seg (slY apps) a b).flatten.length≤lens apps:=by rw [qat];unfold seg;exact Nat.le_trans (qtt _ _) (qtu _ _)
  rw [hc,List.flatten_append,zh] at hk;refine ⟨false,nd 6 [] [nd 6 [] [nd 3 ops[r] [],t1],t2],fun m hm=>?_,fun f hf=>?_⟩
  ·simp only [ze,zh] at hm;obtain ⟨m,rfl⟩:∃k,m=k+1:=⟨m-1,by omega⟩;show g_b6 _ _=_;rw [u_b6,q0j hg,q00,q0f,if_neg (by omega),q0j (zg hr),q00,z0b,q00,add1 (by omega),r1 m (by omega),q00];simp only;rw [qbu _ _ _ _ _ (by simp only [q1m,List.flatten_nil,List.length_nil];omega),q00];simp only;rw [r2 m (by omega),q00];simp only;rw [qbu _ _ _ _ _ (by simp only [q1m,List.flatten_cons,List.flatten_nil,zo,zh,List.length_nil];omega),q00];have e:n+1+x.length+y.length=n+((r:Int)::(x++y)).length:=by simp only [ze,zh];omega
   rw [e]
  ·simp only [ze,zh] at hf;obtain ⟨f,rfl⟩:∃k,f=k+1:=⟨f-1,by omega⟩;show (if (r:Int)<0 then _ else (nd 6 [] [nd 6 [] [nd 3 ((ops[((r:Int)).toNat]?).getD []) [],(bld (slY apps) ops f ((x++y)++post)).1],(bld (slY apps) ops f (bld (slY apps) ops f ((x++y)++post)).2).1],(bld (slY apps) ops f (bld (slY apps) ops f ((x++y)++post)).2).2))=_;rw [if_neg (by omega),zu,s1 f (by omega)];simp only;rw [s2 f (by omega),Int.toNat_natCast,zg hr];rfl
section
variable {nb:Bool} {c:PC} {F:Y1} {E:Int} {Q:Tx→Prop} {N:Int→Prop}
theorem qtw (hF:FxOk c F) (op:Tx) (a d w k:Int):f_b5 (op,S nb c F a d w k)=some (!c.fx op,S nb c F a d w k):=by obtain ⟨fn,fl⟩:=F;rw [u_b5,find_spec fn fl op hF.g.2.2,q00,hF.fx];unfold fxOf;simp only;cases qal fl op<;>rfl
theorem qtx (hF:FxOk c F) (q:Bool) (ops:List Tx) (ps:List Int) (hn:ops.length≤1000000) (hp:ps.length=ops.length) (a d w k:Int):∀(m i:Nat),i+m=ops.length→∃r,loopR l1_bi (⟨q,ops⟩,(ops.length:Int),(i:Int),S nb c F a d w k)=some (r,S nb c F a d w k)∧(match q79 c (ops.drop i) (ps.drop i) with|none=>r=-1|some p=>∃j:Nat,r=(j:Int)∧ps[j]?=some p):=by
 intro m
 induction m with
 |zero=>
  intro i hi;refine ⟨-1,q05 ?_,?_⟩
  ·unfold l1_bi;simp only;rw [q0f,if_neg (by omega)]
  ·rw [zB (show ops.length≤i by omega),zB (show ps.length≤i by omega)];rfl
 |succ m ih=>
  intro i hi;have hd:i<ops.length:=by omega
  have hc:i<ps.length:=by omega
  have step:l1_bi (⟨q,ops⟩,(ops.length:Int),(i:Int),S nb c F a d w k)=cnd (!c.fx ops[i]) (some (.inr ((i:Int),S nb c F a d w k))) (some (.inl (⟨q,ops⟩,(ops.length:Int),((i+1:Nat):Int),S nb c F a d w k))):=by unfold l1_bi;simp only;rw [q0f,if_pos (by omega),q0j (zg hd),q00,qtw hF,q00,add1 (by omega)]
  rw [q18 hd,q18 hc];show ∃r,_∧(match (bif c.fx ops[i] then q79 c (ops.drop (i+1)) (ps.drop (i+1)) else some ps[i]) with|none=>r=-1|some p=>∃j:Nat,r=(j:Int)∧ps[j]?=some p);cases hx:c.fx ops[i] with
  |false=>rw [hx] at step;exact ⟨(i:Int),q05 step,i,rfl,zg hc⟩
  |true=>rw [hx] at step;obtain ⟨r,h1,h2⟩:=ih (i+1) (by omega);exact ⟨r,by rw [q0d step,h1],h2⟩
end
end Fn
end Ev

namespace Ev
open Go
namespace Fn
open Pz
section
variable {nb:Bool} {c:PC} {F:Y1} {E:Int} {Q:Tx→Prop} {N:Int→Prop}
variable {self:Yf0} {ps pp:PT} {d B:Int}
theorem z0k (hn:c.l.length≤10000) (hB:(c.l.length:Int)+3≤B) (hu:B≤90000) (hF:FxOk c F) {i0 i:Nat} {r:Row} (hr:RI c E Q N i0 i r) (hT:isT c i 5=false) (first:Int) (qp qa qo:Bool) (apps:List Y0) (ha:slY apps=r.apps):Sm nb c F i0 (B+3) d (rowE c first r i) (loopR (q0e self) (first,⟨nb,c.l⟩,c.e,F,(i:Int),d,0,0,⟨qp,r.at_⟩,⟨qa,apps⟩,⟨qo,r.ops⟩,())):=by
 have hi:=hr.le;have hm:=hr.m;have hv:=hr.n1;have hw:=hr.gt;have hy:apps.length=r.apps.length:=by rw [←ha,qbv]
 have hz:lens apps+apps.length≤3*(i-i0):=by rw [←qbw,ha];omega
 have hj:0<apps.length:=by omega
 have ho:okAt apps 0=some 0:=by unfold okAt;rw [if_pos (by omega)];rfl
 have he:nth apps 0=some apps[0]:=q7r (zg hj);unfold rowE;by_cases h0:r.ops=[]
 ·have step:q0e self (first,⟨nb,c.l⟩,c.e,F,(i:Int),d,0,0,⟨qp,r.at_⟩,⟨qa,apps⟩,⟨qo,r.ops⟩,())=some (.inr (apps[0],S nb c F (i:Int) d 0 0)):=by unfold q0e;simp only;rw [is_T (add0 (by omega)),q00,hT,q02,h0];simp only;rw [q0s];have e:eqI (lenI ([]:List Tx)) 0=true:=rfl;simp only [notB,Bool.not_true,q02,e,q00,q04,ho,he]
  rw [q05 step,if_pos h0];refine ⟨apps[0].nil,?_⟩;rw [←ha,qtv hj];rfl
 ·rw [if_neg h0];obtain ⟨j,hf,hd⟩:=qtx (nb:=nb) hF qo r.ops r.at_ (by omega) hr.n2 (i:Int) d 0 0 r.ops.length 0 (by omega);rw [List.drop_zero,List.drop_zero] at hd;have hq:=List.length_pos_iff.2 h0;have e1:eqI (lenI r.ops) 0=false:=q16 (by
   show ((r.ops.length:Nat):Int)≠0;omega)
  have hf:f_bi (⟨qo,r.ops⟩,S nb c F (i:Int) d 0 0)=some (j,S nb c F (i:Int) d 0 0):=by rw [u_bi];exact hf
  obtain ⟨qc,er,hg,hs⟩:=qwp (n1:=F.nil) (n2:=qo) hF.g hF.z r.ops;have hg:f_a2 (F,⟨qo,r.ops⟩,())=_:=hg;have step:q0e self (first,⟨nb,c.l⟩,c.e,F,(i:Int),d,0,0,⟨qp,r.at_⟩,⟨qa,apps⟩,⟨qo,r.ops⟩,())=
    cnd (leI 0 j) (bnd (okAt r.at_ j) (fun x14=>bnd (nth r.at_ x14) (fun x15=>some (.inr (⟨true,[]⟩,S nb c F (i:Int) d x15 71)))))
     (bnd (f_a2 (F,⟨qo,r.ops⟩,())) (fun x17=>cnd (notB (eqI x17.2.1 0)) (some (.inr (⟨true,[]⟩,S nb c F (i:Int) d first 72))) (bnd (f_b6 (x17.1,0,⟨qa,apps⟩,⟨qo,r.ops⟩,())) (fun x19=>some (.inr (x19.1,S nb c F (i:Int) d 0 0)))))):=by
   unfold q0e;simp only;rw [is_T (add0 (by omega)),q00,hT,q02];simp only;rw [q0s];simp only [notB,Bool.not_true,q02,e1,q00,hf,qck]
  cases hx:q79 c r.ops r.at_ with
  |some p=>rw [hx] at hd;obtain ⟨k,rfl,hk⟩:=hd;have ht:k<r.at_.length:=(zE.1 hk).1;rw [qni,if_pos (by omega),q1l ht,q00,q7r hk,q00] at step;rw [q05 step];exact ⟨_,(i:Int),d,rfl,(by decide:(71:Int)≠0),by omega,by simp only [List.length_nil];omega⟩
  |none=>
   rw [hx] at hd;have hd:j=-1:=hd;subst hd;rw [qni,if_neg (by omega),hg,q00,←hF.cl] at step;cases hc:c.cl r.ops with
   |none=>rw [hc] at step;simp only at step;rw [q16 hs] at step;rw [q05 step];exact ⟨_,(i:Int),d,rfl,(by decide:(72:Int)≠0),by omega,by simp only [List.length_nil];omega⟩
   |some x=>
    rw [hc] at step;simp only at step;rw [q0s] at step;have hl:Bt 0 r.ops.length x:=qts hF.z (by rw [←hF.cl];exact hc);have hA:x.length≤100000:=by
     have:∀{a b:Nat} {x:List Int},Bt a b x→x.length=2*(b-a)+1:=by
      intro a b x h
      induction h with
      |leaf a=>simp
      |node a r b x y h1 h2 h3 h4 ih1 ih2=>have:=h4.le;simp only [ze,zh,ih1,ih2];omega
     have:=this hl;omega
    obtain ⟨q,t,b1,b2⟩:=z0j (qa:=qa) (qo:=qo) (apps:=apps) (ops:=r.ops) (by omega) hl (by omega) (Nat.le_refl _) ⟨qc,x⟩ 0 [] (by simp) (by omega);have b1:f_b6 ((⟨qc,x⟩:Sl Int),(0:Int),(⟨qa,apps⟩:Sl Y0),(⟨qo,r.ops⟩:Sl Y2),())=some (⟨q,t⟩,⟨qc,x⟩,((0+x.length:Nat):Int),⟨qa,apps⟩,⟨qo,r.ops⟩,()):=qhk x.length b1;have b2:=b2 x.length (Nat.le_refl _);rw [zo] at b2;rw [b1,q00] at step;simp only [notB,Bool.not_true,q02] at step;rw [q05 step];refine ⟨q,?_⟩;show _=some ((⟨q,(bld r.apps r.ops x.length x).1⟩:Y0),S nb c F (i:Int) d 0 0);rw [←ha,b2]
theorem qwq (hn:c.l.length≤10000) (hB:(c.l.length:Int)+3≤B) (hC:B≤80000) (H:Inp c E Q N) (hF:FxOk c F) (hs:Sf nb c F self ps d B) (ha:∀i,Oks E (AN c Q N i) (ps i)) (ht:Sf nb c F f_az pp d B) (hk:∀i,Oks E (AN c Q N i) (pp i)) (i0:Nat) (first:Int):∀(m f i:Nat) (r:Row) (qp qa qo:Bool) (apps:List Y0),i+m=c.l.length→m<f→RI c E Q N i0 i r→slY apps=r.apps→Sm nb c F i0 (B+3) d (eb (opsP c ps pp f i r) fun z=>rowE c first z.1 z.2) (loopR (q0e self) (first,⟨nb,c.l⟩,c.e,F,(i:Int),d,0,0,⟨qp,r.at_⟩,⟨qa,apps⟩,⟨qo,r.ops⟩,())):=by
 intro m
 induction m using Nat.strongRecOn with
 |_ m ih=>
  intro f i r qp qa qo apps hm hf hr hc;obtain ⟨f,rfl⟩:∃g,f=g+1:=⟨f-1,by omega⟩;have hi:i≤c.l.length:=by omega
  have hD:=hr.m;have hu:=hr.n1;have hw:=hr.n2;have hE:=hr.gt;have hG:apps.length=r.apps.length:=by rw [←hc,qbv]
  have hH:lens apps+apps.length≤3*(i-i0):=by rw [←qbw,hc];omega
  unfold opsP;cases hT:isT c i 5 with
  |false=>exact z0k hn hB (by omega) hF hr hT first qp qa qo apps hc
  |true=>
   rw [cond_true];have hl:=q2p hT;have hx:∀x:Int,fit (sumI (lenI r.at_) (lenI [x]))=some ():=fun x=>q32 (by
    show ((r.at_.length:Nat):Int)+((1:Nat):Int)≤_;omega)
   have hy:∀x:Tx,fit (sumI (lenI r.ops) (lenI [x]))=some ():=fun x=>q32 (by
    show ((r.ops.length:Nat):Int)+((1:Nat):Int)≤_;omega)
   have hz:∀x:Y0,fit (sumI (lenI apps) (lenI [x]))=some ():=fun x=>q32 (by
    show ((apps.length:Nat):Int)+((1:Nat):Int)≤_;omega)
   have step:q0e self (first,⟨nb,c.l⟩,c.e,F,(i:Int),d,0,0,⟨qp,r.at_⟩,⟨qa,apps⟩,⟨qo,r.ops⟩,())=
     bnd (q0o self (S nb c F ((i+1:Nat):Int) d 0 0)) (fun x8=>some (.inl (first,x8.2.1,x8.2.2.1,x8.2.2.2.1,x8.2.2.2.2.1,x8.2.2.2.2.2.1,x8.2.2.2.2.2.2.1,x8.2.2.2.2.2.2.2.1,⟨andB qp (isE [plc c i]),r.at_++[plc c i]⟩,⟨andB qa (isE [x8.1]),apps++[x8.1]⟩,⟨andB qo (isE [txt c i]),r.ops++[txt c i]⟩,()))):=by
    unfold q0e;simp only;rw [is_T (add0 (by omega)),q00,hT,q04];simp only;rw [q3v (by omega),q00,Int.toNat_natCast,hx,q00];simp only;rw [q6x (ks:=[]) (.inl hT) (by omega),q00];simp only [q7x,hy,q00,hz];rfl
   have hp:=qtr hn hB (by omega) H hs ha ht hk (show i+1≤c.l.length from hl);have ho:=qny H ha hk (i+1);cases hq:appP c ps pp (i+1) with
   |ok x=>
    rw [hq] at hp ho;obtain ⟨b,hb⟩:=hp;obtain ⟨x1,x2,x3,x4⟩:=ho;rw [hb,q00] at step;rw [q0d step];refine ih (c.l.length-x.2) (by omega) f x.2 ⟨r.apps++[x.1],r.ops++[txt c i],r.at_++[plc c i]⟩ _ _ _ (apps++[⟨b,x.1⟩]) (by omega) (by omega) ?_ (by rw [qhy,hc]);refine ⟨?_,?_,?_,by omega,x2,?_,?_,?_⟩
    ·simp only [zh,ze,List.length_nil,hu]
    ·simp only [zh,ze,List.length_nil,hw]
    ·simp only [q7v,zh,ze,List.length_nil];omega
    ·intro a ha;rcases zO.1 ha with ha|ha
     ·exact hr.g1 a ha
     ·rw [zN.1 ha];exact x4
    ·intro a ha;rcases zO.1 ha with ha|ha
     ·exact hr.g2 a ha
     ·rw [zN.1 ha];exact q8r H i
    ·intro a ha;rcases zO.1 ha with ha|ha
     ·exact hr.g3 a ha
     ·rw [zN.1 ha];exact qnx H i
   |error e=>
    rw [hq] at hp;obtain ⟨v,a,d',hv,he,h2,h3⟩:=hp;rw [hv,q00] at step;rw [q0d step];have hI:0<(apps++[v]).length:=by rw [zh,List.length_singleton];omega
    have hA:okAt (apps++[v]) 0=some 0:=by unfold okAt;rw [if_pos (by omega)];rfl
    have hg:0<apps.length:=by omega
    have hj:nth (apps++[v]) 0=some apps[0]:=by refine q7r ?_;rw [zV hg,zg hg]
    have fin:q0e self (first,⟨nb,c.l⟩,c.e,F,a,d',e.1,e.2,⟨andB qp (isE [plc c i]),r.at_++[plc c i]⟩,⟨andB qa (isE [v]),apps++[v]⟩,⟨andB qo (isE [txt c i]),r.ops++[txt c i]⟩,())=some (.inr (apps[0],S nb c F a d' e.1 e.2)):=by unfold q0e;simp only;rw [is_E he,q00,q02];simp only;rw [q16 he];simp only [notB,Bool.not_false,q04,q00,hA,hj]
    refine ⟨apps[0],a,d',q05 fin,he,by omega,?_⟩;have h1:apps[0].l.length≤lens apps:=by
     have hd:apps=apps[0]::apps.drop 1:=by
      have:=q18 hg
      rwa [List.drop_zero] at this
     have e:lens apps=apps[0].l.length+lens (apps.drop 1):=by
      conv=>lhs;rw [hd]
      unfold lens;rw [zI,List.sum_cons]
     omega
    omega
theorem z0l (hn:c.l.length≤10000) (hB:(c.l.length:Int)+3≤B) (hj:B≤80000) (H:Inp c E Q N) (hF:FxOk c F) (hs:Sf nb c F self ps d B) (ha:∀i,Oks E (AN c Q N i) (ps i)) (hf:Sf nb c F f_az pp d B) (hc:∀i,Oks E (AN c Q N i) (pp i)) {i:Nat} (hi:i≤c.l.length):Sm nb c F i (B+3) d (rowP c ps pp i) (q0y self (S nb c F (i:Int) d 0 0)):=by
 rw [q3s,q3v (by omega),q00,Int.toNat_natCast];simp only;unfold rowP;have hp:=qtr hn hB (by omega) H hs ha hf hc hi;have hg:=qny H ha hc i;cases hr:appP c ps pp i with
 |ok x=>
  rw [hr] at hp hg;obtain ⟨b,hb⟩:=hp;obtain ⟨x1,x2,x3,x4⟩:=hg;rw [hb,q00];have e:tot [x.1]=x.1.length+1:=by unfold tot;simp
  refine qwq hn hB hj H hF hs ha hf hc i (plc c i) (c.l.length-x.2) (c.l.length+1) x.2 ⟨[x.1],[],[]⟩ true false true [⟨b,x.1⟩] (by omega) (by omega) ⟨rfl,rfl,?_,x1,x2,?_,(fun _ h=>absurd h (List.not_mem_nil)),(fun _ h=>absurd h (List.not_mem_nil))⟩ rfl
  ·simp only [e,List.length_nil];omega
  ·intro a ha;rw [zN.1 ha];exact x4
 |error e=>
  rw [hr] at hp;obtain ⟨v,a,d',hv,he,h2,h3⟩:=hp;rw [hv,q00];have hk:okAt [v] 0=some 0:=by unfold okAt;rw [if_pos (by simp)];rfl
  have hd:nth [v] 0=some v:=rfl;have fin:q0e self (plc c i,⟨nb,c.l⟩,c.e,F,a,d',e.1,e.2,⟨true,[]⟩,⟨false,[v]⟩,⟨true,[]⟩,())=some (.inr (v,S nb c F a d' e.1 e.2)):=by unfold q0e;simp only;rw [is_E he,q00,q02];simp only;rw [q16 he];simp only [notB,Bool.not_false,q04,q00,hk,hd]
  exact ⟨v,a,d',q05 fin,he,h2,h3⟩
end
end Fn
end Ev

namespace Ev
open Go
namespace Fn
open Pz
section
variable {nb:Bool} {c:PC} {F:Y1} {E:Int} {Q:Tx→Prop} {N:Int→Prop}
variable {self:Yf0} {ps pp:PT} {d B:Int}
theorem qwr (hn:c.l.length≤10000) (hB:(c.l.length:Int)+3≤B) (hc:B≤80000) (H:Inp c E Q N) (hF:FxOk c F) (hs:Sf nb c F self ps d B) (ha:∀i,Oks E (AN c Q N i) (ps i)) (hd:Sf nb c F f_az pp d B) (hf:∀i,Oks E (AN c Q N i) (pp i)) {i:Nat} (hi:i≤c.l.length):Sm nb c F i (B+3) d (q7a c ps pp i) (q0u self (S nb c F (i:Int) d 0 0)):=by
 have hg:i≤1000000:=by omega
 rw [q3f,is_K (ks:=[[102,117,110],[108,101,116],[105,102],[114,97,105,115,101],[116,114,121]]) hg (by simp) (by simp),q00,q4a];simp only;unfold q7a;have eK:isK c i [[102,117,110],[108,101,116],[105,102],[114,97,105,115,101],[116,114,121]]=isK c i [kFun,kLet,kIf,qen,kTry]:=rfl;rw [eK];cases hK:isK c i [kFun,kLet,kIf,qen,kTry] with
 |false=>exact (z0l hn hB hc H hF hs ha hd hf hi).eta
 |true=>
  have hl:=q4l hK;simp only [q04,cond_true];rw [q6x (k:=0) (.inr hK) (by omega),q00,q7x];simp only;have hk:i+1≤1000000:=by omega
  rw [q6t];by_cases h1:txt c i=kFun
  ·rw [if_pos (show txt c i=[102,117,110] from h1),zt h1,cond_true];refine qas hn H hl (fun s s1 s2=>?_) fun v a w er he h2=>?_
   ·simp only;refine Sm.bind (q4c hn hB hs s2 q44) (q5m H ha s.2 q44) (fun b x ⟨x1,x2,x3,x4⟩=>?_) fun v a d' w er he h h'=>?_
    ·simp only;rw [qtk _ _ _ _ (by simp only;omega),q00];exact ⟨_,rfl⟩
    ·simp only;rw [qtk _ _ _ _ (by omega),q00];refine ⟨_,a,d',rfl,by omega,?_⟩;simp only [q1m,List.flatten_cons,List.flatten_nil,zo];omega
   ·simp only;rw [q3w hs he (by omega) (by omega),q00];simp only;rw [qtk _ _ _ _ (by simp),q00];refine ⟨_,a+1,d,rfl,by omega,?_⟩;simp only [q1m,List.flatten_cons,List.flatten_nil,zo,List.length_nil];omega
  ·rw [if_neg (show ¬txt c i=[102,117,110] from h1),zp h1,cond_false,q6t];by_cases h2:txt c i=kLet
   ·rw [if_pos (show txt c i=[108,101,116] from h2),zt h2,cond_true,is_K (ks:=[[114,101,99]]) hk (by simp) (by simp),q00];have eR:isK c (i+1) [[114,101,99]]=isK c (i+1) [kRec]:=rfl;have hx:cnd (isK c (i+1) [kRec]) (some ((8:Int),S nb c F (addI .i64 ((i+1:Nat):Int) 1) d 0 0)) (some ((7:Int),S nb c F ((i+1:Nat):Int) d 0 0))=some ((bif isK c (i+1) [kRec] then (8:Int) else 7),S nb c F ((bif isK c (i+1) [kRec] then i+2 else i+1:Nat):Int) d 0 0):=by rw [add1 (by omega)];cases isK c (i+1) [kRec]<;>rfl
    have hj:i+1≤(bif isK c (i+1) [kRec] then i+2 else i+1)∧(bif isK c (i+1) [kRec] then i+2 else i+1)≤c.l.length:=by
     cases t2:isK c (i+1) [kRec] with
     |true=>have:=q4l t2;exact ⟨by rw [cond_true];omega,by rw [cond_true];omega⟩
     |false=>exact ⟨by rw [cond_false];omega,by rw [cond_false];omega⟩
    simp only;rw [eR,hx,q00];simp only;generalize (bif isK c (i+1) [kRec] then i+2 else i+1)=j at hj ⊢;generalize (bif isK c (i+1) [kRec] then (8:Int) else 7)=k;obtain ⟨j1,j2⟩:=hj;refine qas hn H j2 (fun s s1 s2=>?_) fun v a w er he h2=>?_
    ·simp only;refine Sm.bind (q4c hn hB hs s2 kEq) (q5m H ha s.2 kEq) (fun b x ⟨x1,x2,x3,x4⟩=>?_) fun v a d' w er he h h'=>?_
     ·simp only;refine Sm.bind (q4c hn hB hs x2 kIn) (q5m H ha x.2 kIn) (fun b2 y ⟨y1,y2,y3,y4⟩=>?_) fun v a d' w er he h h'=>?_
      ·simp only;rw [qbu _ _ _ _ _ (by simp only;omega),q00];exact ⟨_,rfl⟩
      ·simp only;rw [qbu _ _ _ _ _ (by simp only;omega),q00];refine ⟨_,a,d',rfl,by omega,?_⟩;simp only [q1m,List.flatten_cons,List.flatten_nil,zo,zh];omega
     ·simp only;rw [q3w hs he (by omega) (by omega),q00];simp only;rw [qbu _ _ _ _ _ (by simp only [List.length_nil];omega),q00];refine ⟨_,a+1,d',rfl,by omega,?_⟩;simp only [q1m,List.flatten_cons,List.flatten_nil,zo];omega
    ·simp only;rw [q3w hs he (by omega) (by omega),q00];simp only;rw [q3w hs he (by omega) (by omega),q00];simp only;rw [qbu _ _ _ _ _ (by simp),q00];refine ⟨_,a+1+1,d,rfl,by omega,?_⟩;simp only [q1m,List.flatten_cons,List.flatten_nil,zo,List.length_nil];omega
   ·rw [if_neg (show ¬txt c i=[108,101,116] from h2),zp h2,cond_false,q6t];by_cases h3:txt c i=kIf
    ·rw [if_pos (show txt c i=[105,102] from h3),zt h3,cond_true];refine Sm.bind (hs.ok (i+1) hl) (ha (i+1)) (fun b x ⟨x1,x2,x3,x4⟩=>?_) fun v a d' w er he h h'=>?_
     ·simp only;refine Sm.bind (q4c hn hB hs x2 qsy) (q5m H ha x.2 qsy) (fun b2 y ⟨y1,y2,y3,y4⟩=>?_) fun v a d' w er he h h'=>?_
      ·simp only;refine Sm.bind (q4c hn hB hs y2 qsz) (q5m H ha y.2 qsz) (fun b3 z ⟨z1,z2,z3,z4⟩=>?_) fun v a d' w er he h h'=>?_
       ·simp only;rw [qwh _ _ _ _ _ _ (by simp only;omega),q00];exact ⟨_,rfl⟩
       ·simp only;rw [qwh _ _ _ _ _ _ (by simp only;omega),q00];refine ⟨_,a,d',rfl,by omega,?_⟩;simp only [q1m,List.flatten_cons,List.flatten_nil,zo,zh];omega
      ·simp only;rw [q3w hs he (by omega) (by omega),q00];simp only;rw [qwh _ _ _ _ _ _ (by simp only [List.length_nil];omega),q00];refine ⟨_,a+1,d',rfl,by omega,?_⟩;simp only [q1m,List.flatten_cons,List.flatten_nil,zo,zh];omega
     ·simp only;rw [q3w hs he (by omega) (by omega),q00];simp only;rw [q3w hs he (by omega) (by omega),q00];simp only;rw [qwh _ _ _ _ _ _ (by simp only [List.length_nil];omega),q00];refine ⟨_,a+1+1,d',rfl,by omega,?_⟩;simp only [q1m,List.flatten_cons,List.flatten_nil,zo];omega
    ·rw [if_neg (show ¬txt c i=[105,102] from h3),zp h3,cond_false,q6t];by_cases h4:txt c i=qen
     ·rw [if_pos (show txt c i=[114,97,105,115,101] from h4),zt h4,cond_true];refine Sm.bind (hs.ok (i+1) hl) (ha (i+1)) (fun b x ⟨x1,x2,x3,x4⟩=>?_) fun v a d' w er he h h'=>?_
      ·simp only;rw [qtk _ _ _ _ (by simp only;omega),q00];exact ⟨_,rfl⟩
      ·simp only;rw [qtk _ _ _ _ (by omega),q00];refine ⟨_,a,d',rfl,by omega,?_⟩;simp only [q1m,List.flatten_cons,List.flatten_nil,zo];omega
     ·rw [if_neg (show ¬txt c i=[114,97,105,115,101] from h4),zp h4,cond_false];refine Sm.bind (hs.ok (i+1) hl) (ha (i+1)) (fun b x ⟨x1,x2,x3,x4⟩=>?_) fun v a d' w er he h h'=>?_
      ·simp only;refine q6y (by omega) (fun hx=>?_) fun w=>?_
       ·simp only;refine qas hn H hx (fun s s1 s2=>?_) fun v a w er he h2=>?_
        ·simp only;refine Sm.bind (q4c hn hB hs s2 q44) (q5m H ha s.2 q44) (fun b2 y ⟨y1,y2,y3,y4⟩=>?_) fun v a d' w er he h h'=>?_
         ·simp only;rw [qbu _ _ _ _ _ (by simp only;omega),q00];exact ⟨_,rfl⟩
         ·simp only;rw [qbu _ _ _ _ _ (by simp only;omega),q00];refine ⟨_,a,d',rfl,by omega,?_⟩;simp only [q1m,List.flatten_cons,List.flatten_nil,zo,zh];omega
        ·simp only;rw [q3w hs he (by omega) (by omega),q00];simp only;rw [qbu _ _ _ _ _ (by simp only [List.length_nil];omega),q00];refine ⟨_,a+1,d,rfl,by omega,?_⟩;simp only [q1m,List.flatten_cons,List.flatten_nil,zo];omega
       ·simp only;rw [qxs (by decide) (by omega),q00];simp only;rw [q3w hs (by decide) (by omega) (by omega),q00];simp only;rw [qbu _ _ _ _ _ (by simp only [List.length_nil];omega),q00];refine ⟨_,((x.2+1:Nat):Int)+1,d,rfl,by omega,?_⟩;simp only [q1m,List.flatten_cons,List.flatten_nil,zo];omega
      ·simp only;rw [qpx he (by omega) (by omega),q00];simp only;rw [qxs he (by omega),q00];simp only;rw [q3w hs he (by omega) (by omega),q00];simp only;rw [qbu _ _ _ _ _ (by simp only [List.length_nil];omega),q00];refine ⟨_,a+1+1,d',rfl,by omega,?_⟩;simp only [q1m,List.flatten_cons,List.flatten_nil,zo];omega
theorem Sf.wide {sf:Yf0} {B':Int} (h:Sf nb c F sf ps d B) (hB:B≤B'):Sf nb c F sf ps d B':=⟨h.err,fun i hi=>(h.ok i hi).wide (Nat.le_refl _) hB⟩
theorem qxu {er:Int} (he:er≠0) (a dp w:Int):q0v self (S nb c F a dp w er)=some (⟨true,[]⟩,S nb c F a dp w er):=by rw [q1q,q16 he];rfl
theorem qws (hn:c.l.length≤10000) (H:Inp c E Q N) (hF:FxOk c F):∀(f n:Nat),f≤100→f<n→Sf nb c F (recN g_b0 n) (dexp c f) (100-(f:Int)) (c.l.length+3+3*f):=by
 intro f
 induction f with
 |zero=>
  intro n _ hc;obtain ⟨n,rfl⟩:∃g,n=g+1:=⟨n-1,by omega⟩;refine ⟨fun he a dp w=>?_,fun i hi=>?_⟩
  ·show g_b0 _ _=_;rw [u_b0,qxu he];rfl
  ·show Sm nb c F i _ _ _ (g_b0 _ _);rw [u_b0,q1q,q0s];simp only [notB,Bool.not_true,q02];have e:eqI (100-((0:Nat):Int)) 100=true:=rfl;rw [e,q04,q3v (by omega),q00,Int.toNat_natCast];simp only;rw [qck,q00];exact ⟨_,(i:Int),_,rfl,(by decide:(73:Int)≠0),by omega,by simp only [List.length_nil];omega⟩
 |succ f ih=>
  intro n hd hc;obtain ⟨n,rfl⟩:∃g,n=g+1:=⟨n-1,by omega⟩;have hs:=ih n (by omega) (by omega);have hf:=(qwm (nb:=nb) (F:=F) hn H f (by omega)).wide (show (c.l.length:Int)+3+f≤c.l.length+3+3*f by omega);refine ⟨fun he a dp w=>?_,fun i hi=>?_⟩
  ·show g_b0 _ _=_;rw [u_b0,qxu he];rfl
  ·show Sm nb c F i _ _ _ (g_b0 _ _);rw [u_b0,q1q,q0s];simp only [notB,Bool.not_true,q02];have e:eqI (100-((f+1:Nat):Int)) 100=false:=q16 (by omega);have e2:addI .i64 (100-((f+1:Nat):Int)) 1=100-(f:Int):=by rw [q2d (by omega) (by omega)];omega
   have e3:subI .i64 (100-(f:Int)) 1=100-((f+1:Nat):Int):=by rw [q2e (by omega) (by omega)];omega
   rw [e,q02,e2];have h:=qwr hn (by omega) (by omega) H hF hs (qhv H f) hf (qht H f) hi;show Sm nb c F i _ _ (q7a c (dexp c f) (dpat c f) i) _;cases hr:q7a c (dexp c f) (dpat c f) i with
   |ok x=>rw [hr] at h;obtain ⟨b,hb⟩:=h;rw [hb,q00,q00];simp only;rw [e3];exact ⟨b,rfl⟩
   |error e=>rw [hr] at h;obtain ⟨v,a,d',hv,he,h2,h3⟩:=h;rw [hv,q00,q00];exact ⟨v,a,_,rfl,he,by omega,h3⟩
theorem qwt (hn:c.l.length≤10000) (H:Inp c E Q N) (hF:FxOk c F):Sm nb c F 0 20000 0 (dexp c 100 0) (f_b0 (S nb c F 0 0 0 0)):=by have hs:=(qws (nb:=nb) (F:=F) hn H hF 100 101 (Nat.le_refl _) (Nat.lt_succ_self _)).ok 0 (Nat.zero_le _);have up:∀x,lq (recN g_b0 101 x) (f_b0 x):=fun x y e=>qtm (fun _ _ h=>z0i h) e;exact ((hs.up (up _)).wide (Nat.le_refl _) (by omega))
theorem qlz (hn:c.l.length≤10000) (H:Inp c E Q N) (hF:FxOk c F):∃b,f_av (⟨nb,c.l⟩,c.e,F,())=(match allP c with
   |.error q=>some (⟨true,[]⟩,q.1,q.2,())
   |.ok l=>bnd (f_bq (⟨b,l⟩,())) fun x=>cnd (notB (eqI x.1 0)) (some (⟨true,[]⟩,0,74,())) (some (⟨b,l⟩,0,0,()))):=by
 obtain ⟨fn,fl⟩:=F;have hz:q2c fl=0:=hF.z;have h:=qwt (nb:=nb) hn H hF;have ho:=qhv H 100 0;rw [u_av,qbr fn hF.g,hz,q00];simp only;rw [q0s];simp only [notB,Bool.not_true,q02];unfold allP;cases hr:dexp c 100 0 with
 |error q=>rw [hr] at h;obtain ⟨v,a,d',hv,he,h2,h3⟩:=h;have hv:f_b0 (⟨nb,c.l⟩,c.e,⟨fn,fl⟩,0,0,0,0,())=_:=hv;rw [hv,q00];simp only;rw [q16 he];refine ⟨true,?_⟩;simp only [q02,q00];rw [q16 he];rfl
 |ok x=>
  rw [hr] at h ho;obtain ⟨b,hb⟩:=h;have hb:f_b0 (⟨nb,c.l⟩,c.e,⟨fn,fl⟩,0,0,0,0,())=_:=hb;obtain ⟨x1,x2,x3,x4⟩:=ho;rw [hb,q00];simp only;rw [q0s,q04,q00,q0f];refine ⟨b,?_⟩;show _=(match (if x.2<c.l.length then (.error (plc c x.2,70):PR (List ND)) else .ok x.1) with|.error q=>_|.ok l=>_);by_cases hc:x.2<c.l.length
  ·rw [if_pos (show (x.2:Int)<lenI c.l by show (x.2:Int)<((c.l.length:Nat):Int);omega),if_pos hc,q3v (by omega),q00,Int.toNat_natCast];simp only;rw [qck,q00];rfl
  ·rw [if_neg (show ¬(x.2:Int)<lenI c.l by show ¬(x.2:Int)<((c.l.length:Nat):Int);omega),if_neg hc,q00];simp only;rw [q0s];rfl
end
end Fn
end Ev

namespace Ev
open Go
namespace Fn
open Pz
theorem qau {g:Y8→Option Y6} {p:Int→Bool} (hg:∀c,g (c,())=some (p c,())) (K:Y23→Option (Y23⊕Y8)) (hK:∀s k,K (s,k,())=bnd (cnd (ltI k (lenI s)) (bnd (at? s k) (fun x1=>bnd (g (x1,())) (fun x2=>some x2.1))) (some false)) (fun x3=>cnd x3 (some (Sum.inl (s,addI .i64 k 1,()))) (some (Sum.inr (k,()))))) (s:Tx) (hs:s.length≤1000000):∀(m k:Nat),k+m=s.length→loopR K (s,(k:Int),())=some (((k+q17 p (s.drop k):Nat):Int),()):=by
 intro m
 induction m with
 |zero=>intro k hk;apply q05;rw [hK,q0f,if_neg (show ¬(k:Int)<lenI s by show ¬(k:Int)<((s.length:Nat):Int);omega),q00,q02,zB (by omega)];rfl
 |succ m ih=>
  intro k hk;have hc:k<s.length:=by omega
  have hd:=q18 hc;have step:K (s,(k:Int),())=cnd (p s[k]) (some (Sum.inl (s,((k+1:Nat):Int),()))) (some (Sum.inr ((k:Int),()))):=by rw [hK,q0f,if_pos (show (k:Int)<lenI s by show (k:Int)<((s.length:Nat):Int);omega),q0j (zg hc),q00,hg,q00,q00,add1 (by omega)]
  rw [hd];unfold q17;cases hp:p s[k] with
  |true=>rw [hp,q04] at step;rw [q0d step,ih (k+1) (by omega),cond_true];congr 3;omega
  |false=>rw [hp,q02] at step;rw [q05 step,cond_false];rfl
theorem z2p (s:Tx) (hs:s.length≤1000000):f_ap (s,())=some (((q17 q1r s:Nat):Int),()):=by have h:=qau qg5 l1_ap (fun _ _=>rfl) s hs s.length 0 (by omega);rw [zJ,List.drop_zero] at h;rw [u_ap];exact h
def sgnL (c:Int):Bool:=decide (c∈q5k)
theorem z2q (s:Tx) (hs:s.length≤1000000):f_aq (s,())=some (((q17 sgnL s:Nat):Int),()):=by have h:=qau (p:=sgnL) qeg l1_aq (fun _ _=>rfl) s hs s.length 0 (by omega);rw [zJ,List.drop_zero] at h;rw [u_aq];exact h
theorem z2r (s:Tx) (hs:s.length≤1000000):f_ar (s,())=some (((q17 q1h s:Nat):Int),()):=by have h:=qau (p:=q1h) qbm l1_ar (fun _ _=>rfl) s hs s.length 0 (by omega);rw [zJ,List.drop_zero] at h;rw [u_ar];exact h
def neL (c:Int):Bool:=notB (eqI c 10)
theorem z2s (s:Tx) (hs:s.length≤1000000):f_as (s,())=some (((q17 neL s:Nat):Int),()):=by have h:=qau (p:=neL) u_ab l1_as (fun _ _=>rfl) s hs s.length 0 (by omega);rw [zJ,List.drop_zero] at h;rw [u_as];exact h
def q5d (t:Tx):Bool:=decide (t∈q75)
theorem q7y (k:Int) (s:Tx) {n:Nat} (hn:n≤s.length):f_al ((n:Int),k,s,())=some (((bif q5d (s.take n) then 6 else k),s.take n,0,0),(n:Int),0,()):=by
 rw [u_al,q9h hn,q00,qcw,q00];unfold q5d;cases decide (s.take n∈q75) with
 |true=>simp only [q04,q00,q9h hn];rfl
 |false=>simp only [q02,q00,q9h hn];rfl
theorem qpy (x:Int):∃v,f_cd (x,())=some (v,())∧rng v:=by
 rw [u_cd];have h1:shlI .u64 (cvI .u64 x) 1=some (IntKind.u64.wrap (cvI .u64 x*2 ^ min (1:Int).toNat IntKind.u64.bits)):=by unfold shlI;rw [if_neg (by decide)]
 rw [h1,q00];have h2:=qnh (a:=cvI .i64 (IntKind.u64.wrap (cvI .u64 x*2 ^ min (1:Int).toNat IntKind.u64.bits))) 1 (by decide);have h2:shrI .i64 (cvI .i64 (IntKind.u64.wrap (cvI .u64 x*2 ^ min (1:Int).toNat IntKind.u64.bits))) 1=_:=h2;rw [h2,q00];refine ⟨_,rfl,?_⟩;generalize IntKind.u64.wrap (cvI .u64 x*2 ^ min (1:Int).toNat IntKind.u64.bits)=z;unfold cvI rng;rw [qcd];split<;>omega
theorem qty (x:Int):∃t,f_cc (x,())=some (t,()):=by
 obtain ⟨v,hv,h1,h2⟩:=qpy x;have hf:f_bk (v,10,())=some (q9c v,()):=by show (bif decide ((10:Int)=10)&&(decide (-9223372036854775808≤v)&&decide (v≤9223372036854775807)) then some (q9c v,()) else none)=_;rw [zt h1,zt h2];rfl
 have hl:=qjr v;have hr:f_bp (q9c v,[45],[126],1,())=some (rep1 (q9c v),()):=by show (bif (([45]:List Int)==[45])&&((([126]:List Int)==[126])&&(decide ((1:Int)=1)&&decide ((q9c v).length≤1000))) then some (rep1 (q9c v),()) else none)=_;rw [zt (show (q9c v).length≤1000 by omega)];rfl
 rw [u_cc,hv,q00];simp only;rw [hf,q00];simp only;rw [hr,q00];exact ⟨_,rfl⟩
theorem qke (s:Tx) (bl:Bool) (r:Tx) (hr:∀b,b∈r→0≤b∧b≤255) (_hl:r.length≤1000000):∀(m k:Nat) (n:Int),k+m=r.length→∃x e,loopR l1_cb (s,bl,n,r,(k:Int),())=some (x,e,())∧rng x:=by
 intro m
 induction m with
 |zero=>
  intro k n hk;have hd:¬(k:Int)<lenI r:=by show ¬(k:Int)<((r.length:Nat):Int);omega
  have r0:rng 0:=⟨by decide,by decide⟩;have hx:∀z:Int,∃x e,(bnd (bnd (cnd (ltI 4611686018427387903 z) (some true) (some (ltI z (-4611686018427387904)))) (fun x6=>bnd (cnd x6 (some true) (bnd (f_cc (z,())) (fun x7=>some (notB (eqS x7.1 s))))) (fun x8=>cnd x8 (some (Sum.inr ((0:Int),(11:Int),()))) (some (Sum.inr (z,(0:Int),())))))) (fun y=>(some y:Option ((Y2×Bool×Int×Y2×Int×Unit)⊕Y22))))=some (Sum.inr (x,e,()))∧rng x:=by
   intro z;obtain ⟨t,ht⟩:=qty z;rw [ht,q0f];by_cases h1:4611686018427387903<z
   ·rw [if_pos h1];exact ⟨0,11,rfl,r0⟩
   ·rw [if_neg h1];have e:ltI z (-4611686018427387904)=decide (z< -4611686018427387904):=rfl;rw [e];by_cases h2:z< -4611686018427387904
    ·rw [zt h2];exact ⟨0,11,rfl,r0⟩
    ·rw [zp h2];cases h3:eqS t s with
     |true=>exact ⟨z,0,by simp only [q00,q02,h3,notB,Bool.not_true],by omega,by omega⟩
     |false=>exact ⟨0,11,by simp only [q00,q02,q04,h3,notB,Bool.not_false],r0⟩
  cases bl with
  |true=>
   obtain ⟨x,e,h1,h2⟩:=hx n;refine ⟨x,e,q05 ?_,h2⟩;unfold l1_cb;simp only;rw [q0f,if_neg hd];revert h1;cases hq:(bnd (cnd (ltI 4611686018427387903 n) (some true) (some (ltI n (-4611686018427387904)))) (fun x6=>bnd (cnd x6 (some true) (bnd (f_cc (n,())) (fun x7=>some (notB (eqS x7.1 s))))) (fun x8=>cnd x8 (some (Sum.inr ((0:Int),(11:Int),()))) (some (Sum.inr (n,(0:Int),())))))) with
   |none=>intro h;cases h
   |some y=>intro h;exact Eq.trans hq h
  |false=>
   obtain ⟨x,e,h1,h2⟩:=hx (subI .i64 0 n);refine ⟨x,e,q05 ?_,h2⟩;unfold l1_cb;simp only;rw [q0f,if_neg hd];revert h1;cases hq:(bnd (cnd (ltI 4611686018427387903 (subI .i64 0 n)) (some true) (some (ltI (subI .i64 0 n) (-4611686018427387904)))) (fun x6=>bnd (cnd x6 (some true) (bnd (f_cc (subI .i64 0 n,())) (fun x7=>some (notB (eqS x7.1 s))))) (fun x8=>cnd x8 (some (Sum.inr ((0:Int),(11:Int),()))) (some (Sum.inr (subI .i64 0 n,(0:Int),())))))) with
   |none=>intro h;cases h
   |some y=>intro h;exact Eq.trans hq h
 |succ m ih=>
  intro k n hk;have hd:k<r.length:=by omega
  have hc:(k:Int)<lenI r:=by show (k:Int)<((r.length:Nat):Int);omega
  have step:∀n,l1_cb (s,bl,n,r,(k:Int),())=bnd (cnd (ltI (runeI r (k:Int)) 48) (some true) (some (ltI 57 (runeI r (k:Int))))) (fun x3=>bnd (cnd x3 (some true) (some (ltI n (-461168601842738790)))) (fun x4=>cnd x4 (some (Sum.inr (0,11,()))) (some (Sum.inl (s,bl,subI .i64 (mulI .i64 10 n) (cvI .i64 (subI .i32 (runeI r (k:Int)) 48)),r,nextI r (k:Int),()))))):=by intro n;unfold l1_cb;simp only;rw [q0f,if_pos hc,q0f,if_pos hc,q00]
  have r0:rng 0:=⟨by decide,by decide⟩;have bad:∀n,l1_cb (s,bl,n,r,(k:Int),())=some (Sum.inr (0,11,()))→∃x e,loopR l1_cb (s,bl,n,r,(k:Int),())=some (x,e,())∧rng x:=fun n h=>⟨0,11,q05 h,r0⟩;obtain ⟨a1,a2⟩:=qlv hr hd;by_cases h1:127<r[k]
  ·refine bad n ?_;have:=a2 h1;rw [step,q0f,if_neg (by omega)];have e:ltI 57 (runeI r (k:Int))=true:=zt (by omega);rw [e];rfl
  ·obtain ⟨b1,b2⟩:=a1 (by omega);have st:=step n;rw [b1,b2] at st;by_cases h2:r[k]<48
   ·refine bad n ?_;rw [st,q0f,if_pos h2];rfl
   ·by_cases h3:57<r[k]
    ·refine bad n ?_;rw [st,q0f,if_neg h2];have e:ltI 57 r[k]=true:=zt h3;rw [e];rfl
    ·by_cases h4:n< -461168601842738790
     ·refine bad n ?_;rw [st,q0f,if_neg h2];have e:ltI 57 r[k]=false:=zp h3;have e2:ltI n (-461168601842738790)=true:=zt h4;rw [e,e2];rfl
     ·rw [q0f,if_neg h2] at st;have e:ltI 57 r[k]=false:=zp h3;have e2:ltI n (-461168601842738790)=false:=zp h4;rw [e,e2] at st;rw [q0d st];exact ih (k+1) _ (by omega)
theorem qtz (s:Tx) (hs:∀b,b∈s→0≤b∧b≤255) (hl:s.length≤1000000):∃x e,f_cb (s,())=some (x,e,())∧rng x:=by
 rw [u_cb,u_bl,u_a7,u_a8];have e1:lenI ([126]:Tx)=((1:Nat):Int):=rfl;rw [e1,qni];have none:∃x e,loopR l1_cb (s,false,0,s,0,())=some (x,e,())∧rng x:=qke s false s hs hl s.length 0 0 (by omega);by_cases h1:((1:Nat):Int)≤lenI s
 ·have hd:1≤s.length:=by have:((1:Nat):Int)≤((s.length:Nat):Int):=h1;omega
  rw [if_pos h1,q9h hd,q00,q00,q00,q4a];cases h2:eqS (s.take 1) [126] with
  |false=>exact none
  |true=>
   have hc:cutL s ((1:Nat):Int) (lenI s)=some (s.drop 1):=by unfold cutL lenI;rw [if_pos (by omega)];simp
   simp only [q04,hc,q00];exact qke s true (s.drop 1) (fun b hb=>hs b (List.mem_of_mem_drop hb)) (by rw [zw];omega) (s.drop 1).length 0 0 (by omega)
 ·rw [if_neg h1,q00,q00,q4a,q02,q00,q00];exact none
noncomputable def rdF (s:Tx):Int×Int:=match f_cb (s,()) with
 |some x=>(x.1,x.2.1)
 |none=>(0,0)
theorem qu0 (s:Tx) (hs:∀b,b∈s→0≤b∧b≤255) (hl:s.length≤1000000):f_cb (s,())=some ((rdF s).1,(rdF s).2,())∧rng (rdF s).1:=by obtain ⟨x,e,h1,h2⟩:=qtz s hs hl;unfold rdF;rw [h1];exact ⟨rfl,h2⟩
end Fn
end Ev

namespace Ev
open Go
namespace Fn
open Pz
abbrev hexL:Tx:=[48,49,50,51,52,53,54,55,56,57,97,98,99,100,101,102]
theorem qxv (c:Int):ixB c hexL=hexv c:=by
 by_cases h:c∈hexL
 ·simp only [zn,List.not_mem_nil,or_false] at h;rcases h with rfl|rfl|rfl|rfl|rfl|rfl|rfl|rfl|rfl|rfl|rfl|rfl|rfl|rfl|rfl|rfl<;>rfl
 ·have h1:=(qnj c hexL).1;have h2:¬0≤ixB c hexL:=fun e=>h ((qlu c hexL).1 e);have h3:hexv c=-1:=by
   simp only [zn,List.not_mem_nil,or_false,not_or] at h;unfold hexv q1h;rw [show (decide (48≤c)&&decide (c≤57))=false by
    rw [Bool.and_eq_false_iff];by_cases h4:48≤c
    ·exact .inr (zp (by omega))
    ·exact .inl (zp h4),show (decide (97≤c)&&decide (c≤102))=false by
    rw [Bool.and_eq_false_iff];by_cases h4:97≤c
    ·exact .inr (zp (by omega))
    ·exact .inl (zp h4)]
   rfl
  omega
theorem qu1 (c:Int):hexv c≤15:=by
 unfold hexv q1h;cases h:(decide (48≤c)&&decide (c≤57)) with
 |true=>simp only [zd,decide_eq_true_eq] at h;rw [cond_true];omega
 |false=>
  rw [cond_false];cases h2:(decide (97≤c)&&decide (c≤102)) with
  |true=>simp only [zd,decide_eq_true_eq] at h2;rw [cond_true];omega
  |false=>rw [cond_false];omega
theorem hex2:∀x y:Fin 16,cvI .u8 (orI .i64 ((x.val:Int)*16) (y.val:Int))=16*(x.val:Int)+(y.val:Int):=by decide
theorem z2t {x y:Int} (h1:0≤x) (h2:x≤15) (h3:0≤y) (h4:y≤15):cvI .u8 (orI .i64 (x*16) y)=16*x+y:=by obtain ⟨a,rfl⟩:=Int.eq_ofNat_of_zero_le h1;obtain ⟨b,rfl⟩:=Int.eq_ofNat_of_zero_le h3;exact hex2 ⟨a,by omega⟩ ⟨b,by omega⟩
theorem sh4 {x:Int} (h1:0≤x) (h2:x≤15):shlI .i64 x 4=some (x*16):=by have:=qvi (a:=x) 4 (by decide) (by omega) (by omega);exact this
abbrev QS:=Y2×Int×(Sl Int)×Unit
def fiQ (r:Unit⊕Y23):Option Y23:=sumE (fun _=>some (([]:Y2),0,())) r
theorem qm0 (s:Tx) (hs:s.length≤1000000):∀(m i:Nat) (q:Bool) (b:Tx),s.length-i≤m→b.length≤i→i≤s.length→bnd (loopR l1_am (s,(i:Int),⟨q,b⟩,())) fiQ=some ((qt (s.drop i) b i).1,((qt (s.drop i) b i).2:Int),()):=by
 intro m
 induction m using Nat.strongRecOn with
 |_ m ih=>
  intro i q b hm hb hi;by_cases ht:i<s.length
  ·have hd:=q18 ht;have he:(i:Int)<lenI s:=by show (i:Int)<((s.length:Nat):Int);omega
   have hk:=q0j (zg ht);have hg:∀x:Int,fit (sumI (lenI b) (lenI [x]))=some ():=fun x=>q32 (by
    show ((b.length:Nat):Int)+((1:Nat):Int)≤_;omega)
   rw [hd];generalize hc:s[i]=c;rw [hc] at hk;have hu:∀{l:Tx},l1_am (s,(i:Int),⟨q,b⟩,())=some (.inr (.inr ([],0,())))→qt (c::l) b i=([],0)→bnd (loopR l1_am (s,(i:Int),⟨q,b⟩,())) fiQ=some ((qt (c::l) b i).1,((qt (c::l) b i).2:Int),()):=by intro l h1 h2;rw [q05 h1,h2];rfl
   by_cases hf:c=34
   ·have step:l1_am (s,(i:Int),⟨q,b⟩,())=some (.inr (.inr (b,((i+1:Nat):Int),()))):=by unfold l1_am;simp only;rw [q0f,if_pos he,hk,q00,q67,if_pos hf,q00,add1 (by omega)];rfl
    rw [q05 step];unfold qt;rw [if_pos hf];rfl
   ·by_cases hr:c<32∨126<c
    ·have step:l1_am (s,(i:Int),⟨q,b⟩,())=some (.inr (.inr ([],0,()))):=by
      unfold l1_am;simp only;rw [q0f,if_pos he,hk,q00,q67,if_neg hf,q0f];by_cases h1:c<32
      ·rw [if_pos h1];rfl
      ·rw [if_neg h1];have e:ltI 126 c=true:=zt (by omega);rw [e];rfl
     refine hu step ?_;unfold qt;rw [if_neg hf,if_pos hr]
    ·have e1:ltI 126 c=false:=zp (by omega);have e0:∀(x:Option Bool),cnd (ltI c 32) x (some (ltI 126 c))=some false:=fun x=>by rw [q0f,if_neg (by omega),e1]
     by_cases hn:c=92
     ·by_cases ho:i+1<s.length
      ·have hB:=q18 ho;have hj:=q0j (zg ho);have hC:eqI (addI .i64 (i:Int) 1) (lenI s)=false:=q16 (by
        rw [add1 (by omega)];show ((i+1:Nat):Int)≠((s.length:Nat):Int);omega)
       rw [hB];generalize hF:s[i+1]=e at hj ⊢;have base:l1_am (s,(i:Int),⟨q,b⟩,())=bnd (bnd (cnd (eqI e 34) (some (s,((i+1:Nat):Int),e,eqI e 34,(⟨q,b⟩:Sl Int),())) (some (s,((i+1:Nat):Int),e,eqI e 92,(⟨q,b⟩:Sl Int),()))) (fun x5=>bnd (cnd x5.2.2.2.1 (bnd (at? x5.1 x5.2.1) (fun x6=>bnd (fit (sumI (lenI x5.2.2.2.2.1.l) (lenI ([x6]:Y2)))) (fun _=>some (Sum.inl (x5.1,x5.2.1,(⟨andB x5.2.2.2.2.1.nil (isE ([x6]:Y2)),app x5.2.2.2.2.1.l ([x6]:Y2)⟩:Sl Int),()))))) (bnd (cnd (eqI x5.2.2.1 110) (bnd (fit (sumI (lenI x5.2.2.2.2.1.l) (lenI ([10]:Y2)))) (fun _=>some (Sum.inl (x5.1,x5.2.1,(⟨andB x5.2.2.2.2.1.nil (isE ([10]:Y2)),app x5.2.2.2.2.1.l ([10]:Y2)⟩:Sl Int),())))) (cnd (eqI x5.2.2.1 120) (cnd (leI (lenI x5.1) (addI .i64 x5.2.1 2)) (some (Sum.inr (Sum.inr (Sum.inr (Sum.inr (Sum.inr (([]:Y2),(0:Int),()))))))) (bnd (at? x5.1 (addI .i64 x5.2.1 1)) (fun x9=>bnd (f_bo (hexL,x9,())) (fun x10=>bnd (at? x5.1 (addI .i64 x5.2.1 2)) (fun x11=>bnd (f_bo (hexL,x11,())) (fun x12=>bnd (cnd (ltI x10.1 0) (some true) (some (ltI x12.1 0))) (fun x13=>cnd x13 (some (Sum.inr (Sum.inr (Sum.inr (Sum.inr (Sum.inr (([]:Y2),(0:Int),()))))))) (bnd (shlI .i64 x10.1 4) (fun x14=>bnd (fit (sumI (lenI x5.2.2.2.2.1.l) (lenI ([cvI .u8 (orI .i64 x14 x12.1)]:Y2)))) (fun _=>some (Sum.inl (x5.1,addI .i64 x5.2.1 2,(⟨andB x5.2.2.2.2.1.nil (isE ([cvI .u8 (orI .i64 x14 x12.1)]:Y2)),app x5.2.2.2.2.1.l ([cvI .u8 (orI .i64 x14 x12.1)]:Y2)⟩:Sl Int),())))))))))))) (some (Sum.inr (Sum.inr (Sum.inr (Sum.inr (Sum.inr (([]:Y2),(0:Int),()))))))))) (sumE (fun (x16:QS)=>some (Sum.inl (x16.1,x16.2.1,x16.2.2.1,())))))) (sumE (fun (x17:QS)=>some (Sum.inl (x17.1,x17.2.1,x17.2.2.1,())))))) (sumE (fun (x18:QS)=>some (Sum.inl (x18.1,addI .i64 x18.2.1 1,x18.2.2.1,())))):=by unfold l1_am;simp only;rw [q0f,if_pos he,hk,q00,q67,if_neg hf,e0,q00,q02,q4a,q67,if_pos hn,hC,q02,add1 (by omega),hj,q00]
       have fin:∀(v:Int) (j:Nat) (l:Tx),s.drop j=l→i+1≤j→j≤s.length→l1_am (s,(i:Int),⟨q,b⟩,())=some (.inl (s,(j:Int),⟨andB q (isE [v]),b++[v]⟩,()))→
         bnd (loopR l1_am (s,(i:Int),⟨q,b⟩,())) fiQ=some ((qt l (b++[v]) j).1,((qt l (b++[v]) j).2:Int),()):=by
        intro v j l hl h1 h2 h3;rw [q0d h3,←hl];exact ih (s.length-j) (by omega) j _ (b++[v]) (Nat.le_refl _) (by rw [zh,List.length_singleton];omega) h2
       have q0:qt (c::e::s.drop (i+1+1)) b i=if e=34∨e=92 then qt (s.drop (i+1+1)) (b++[e]) (i+2) else
         if e=110 then qt (s.drop (i+1+1)) (b++[10]) (i+2) else
         if e=120 then match s.drop (i+1+1) with
          |x::y::l3=>if hexv x<0∨hexv y<0 then ([],0) else qt l3 (b++[16*hexv x+hexv y]) (i+4)
          |_=>([],0)
         else ([],0):=by
        conv=>lhs;unfold qt
        rw [if_neg hf,if_neg hr,if_neg (fun h=>h hn)];rfl
       have a2:addI .i64 ((i+1:Nat):Int) 1=((i+2:Nat):Int):=add1 (by omega);by_cases e34:e=34∨e=92
       ·have hq:(cnd (eqI e 34) (some (s,((i+1:Nat):Int),e,eqI e 34,(⟨q,b⟩:Sl Int),())) (some (s,((i+1:Nat):Int),e,eqI e 92,(⟨q,b⟩:Sl Int),())))=some (s,((i+1:Nat):Int),e,true,(⟨q,b⟩:Sl Int),()):=by rcases e34 with rfl|rfl<;>rfl
        rw [hq,q00] at base;simp only [q04,hj,q00,hg] at base;rw [q0,if_pos e34];refine fin e (i+2) _ rfl (by omega) ho ?_;rw [base];show some (Sum.inl (s,addI .i64 ((i+1:Nat):Int) 1,_,()))=_;rw [a2];rfl
       ·have hq:(cnd (eqI e 34) (some (s,((i+1:Nat):Int),e,eqI e 34,(⟨q,b⟩:Sl Int),())) (some (s,((i+1:Nat):Int),e,eqI e 92,(⟨q,b⟩:Sl Int),())))=some (s,((i+1:Nat):Int),e,false,(⟨q,b⟩:Sl Int),()):=by rw [q16 (fun h=>e34 (.inl h)),q16 (fun h=>e34 (.inr h))];rfl
        rw [hq,q00] at base;simp only [q02] at base;rw [q0,if_neg e34];by_cases e110:e=110
        ·rw [if_pos e110];rw [e110,q0s,q04,hg,q00,q00] at base;refine fin 10 (i+2) _ rfl (by omega) ho ?_;rw [base];show some (Sum.inl (s,addI .i64 ((i+1:Nat):Int) 1,_,()))=_;rw [a2];rfl
        ·rw [if_neg e110];rw [q16 e110,q02] at base;by_cases e120:e=120
         ·rw [if_pos e120];rw [e120,q0s,q04,qni] at base;have a3:addI .i64 ((i+1:Nat):Int) 2=((i+3:Nat):Int):=by rw [q2d (by omega) (by omega)];omega
          rw [a3,a2] at base;by_cases hG:i+3<s.length
          ·have hx:i+1+1<s.length:=by omega
           have hy:i+1+1+1<s.length:=by omega
           have hw:=q0j (i:=i+2) (zg hx);have hz:=q0j (i:=i+3) (zg hy);rw [q18 hx,q18 hy];generalize s[i+1+1]=x at hw ⊢;generalize s[i+1+1+1]=y at hz ⊢;rw [if_neg (show ¬lenI s≤((i+3:Nat):Int) by show ¬((s.length:Nat):Int)≤_;omega),hw,q00,u_bo,q00,hz,q00,u_bo,q00,qxv,qxv] at base;show _=some ((if hexv x<0∨hexv y<0 then (([]:Tx),0) else qt (s.drop (i+1+1+1+1)) (b++[16*hexv x+hexv y]) (i+4)).1,((if hexv x<0∨hexv y<0 then (([]:Tx),0) else qt (s.drop (i+1+1+1+1)) (b++[16*hexv x+hexv y]) (i+4)).2:Int),());by_cases hh:hexv x<0∨hexv y<0
           ·rw [if_pos hh];have hv:cnd (ltI (hexv x) 0) (some true) (some (ltI (hexv y) 0))=some true:=by
             rw [q0f];by_cases h1:hexv x<0
             ·rw [if_pos h1]
             ·rw [if_neg h1];have:ltI (hexv y) 0=true:=zt (by omega);rw [this]
            rw [hv,q00,q04] at base;rw [q05 base];rfl
           ·rw [if_neg hh];have hv:cnd (ltI (hexv x) 0) (some true) (some (ltI (hexv y) 0))=some false:=by rw [q0f,if_neg (by omega)];have:ltI (hexv y) 0=false:=zp (by omega);rw [this]
            have hA:=qu1 x;have hD:=qu1 y;rw [hv,q00,q02,sh4 (by omega) hA,q00,z2t (by omega) hA (by omega) hD,hg,q00] at base;refine fin (16*hexv x+hexv y) (i+4) _ rfl (by omega) (by omega) ?_;rw [base];show some (Sum.inl (s,addI .i64 ((i+3:Nat):Int) 1,_,()))=_;rw [show addI .i64 ((i+3:Nat):Int) 1=((i+4:Nat):Int) from add1 (by omega)];rfl
          ·rw [if_pos (show lenI s≤((i+3:Nat):Int) by show ((s.length:Nat):Int)≤_;omega)] at base;have hE:(s.drop (i+1+1)).length≤1:=by rw [zw];omega
           rw [q05 base]
           match s.drop (i+1+1),hE with
           |[],_=>rfl
           |[x],_=>rfl
         ·rw [if_neg e120];rw [q16 e120,q02] at base;rw [q05 base];rfl
      ·have step:l1_am (s,(i:Int),⟨q,b⟩,())=some (.inr (.inl ())):=by unfold l1_am;simp only;rw [q0f,if_pos he,hk,q00,q67,if_neg hf,e0,q00,q02,q4a,q67,if_pos hn,add1 (by omega),q67,if_pos (show ((i+1:Nat):Int)=lenI s by show ((i+1:Nat):Int)=((s.length:Nat):Int);omega)];rfl
       rw [q05 step,zB (by omega)];unfold qt;rw [if_neg hf,if_neg hr,if_neg (fun h=>h hn)];rfl
     ·have step:l1_am (s,(i:Int),⟨q,b⟩,())=some (.inl (s,((i+1:Nat):Int),⟨andB q (isE [c]),b++[c]⟩,())):=by unfold l1_am;simp only;rw [q0f,if_pos he,hk,q00,q67,if_neg hf,e0,q00,q02,q4a,q67,if_neg hn,hg,q00,q00];show some (Sum.inl (s,addI .i64 (i:Int) 1,_,()))=_;rw [add1 (by omega)];rfl
      rw [q0d step];unfold qt;rw [if_neg hf,if_neg hr,if_pos hn];exact ih (s.length-(i+1)) (by omega) (i+1) _ (b++[c]) (Nat.le_refl _) (by rw [zh,List.length_singleton];omega) ht
  ·have step:l1_am (s,(i:Int),⟨q,b⟩,())=some (.inr (.inl ())):=by unfold l1_am;simp only;rw [q0f,if_neg (show ¬(i:Int)<lenI s by show ¬(i:Int)<((s.length:Nat):Int);omega)]
   rw [q05 step,zB (by omega)];rfl
theorem qm1 (s:Tx) (hs:s.length≤1000000) (h:1≤s.length):f_am (s,())=some ((qt (s.drop 1) [] 1).1,((qt (s.drop 1) [] 1).2:Int),()):=by rw [u_am];exact qm0 s hs s.length 1 true [] (by omega) (Nat.zero_le _) h
noncomputable abbrev oneL:=one q1r sgnL q5d rdF
theorem qwu (s:Tx) (hb:∀b,b∈s→0≤b∧b≤255) (hs:s.length≤1000) (hc:s≠[]):f_ak (s,())=some (((oneL s).1.1,(oneL s).1.2.1,(oneL s).1.2.2,0),((oneL s).2.1:Int),(oneL s).2.2,()):=by
 match s,hc with
 |c::l,_=>
  have ha:at? (c::l) 0=some c:=rfl;rw [u_ak,ha,q00,qbk,q00];simp only;rw [z2p _ (by omega),q00];simp only;rw [q7y _ _ (q2q _ _),q00,qbl,q00];simp only;rw [q00];simp only;rw [q7y _ _ (q2q _ _),q00,qeg,q00];simp only;rw [z2q _ (by omega),q00];simp only;rw [q7y _ _ (q2q _ _),q00];simp only;show _=some (((oneC q1r sgnL q5d rdF c l).1.1,(oneC q1r sgnL q5d rdF c l).1.2.1,(oneC q1r sgnL q5d rdF c l).1.2.2,0),((oneC q1r sgnL q5d rdF c l).2.1:Int),(oneC q1r sgnL q5d rdF c l).2.2,());unfold oneC;show cnd (qgf c) _ _=_;cases h1:qgf c with
  |true=>rfl
  |false=>
  rw [q02,cond_false];show cnd (qgg c) _ _=_;cases h2:qgg c with
  |true=>rfl
  |false=>
  rw [q02,cond_false];show cnd (sgnL c) _ _=_;cases h3:sgnL c with
  |true=>rfl
  |false=>
  rw [q02,cond_false];have k1:=q7y 6 (c::l) (n:=1) (by simp);have k1:f_al (1,6,c::l,())=_:=k1;rw [k1,q00];simp only;have d:∀k:Int,eqI c k=decide (c=k):=fun k=>by
   by_cases e:c=k
   ·rw [e,q0s];exact (zt rfl).symm
   ·rw [q16 e];exact (zp e).symm
  have hq:∀K:Bool→Option (Y5×Int×Int×Unit),bnd (cnd (eqI c 40) (some true) (some (eqI c 41))) (fun x10=>bnd (cnd x10 (some true) (some (eqI c 95))) K)=K (decide (c=40)||(decide (c=41)||decide (c=95))):=by intro K;rw [d,d,d];cases decide (c=40)<;>cases decide (c=41)<;>cases decide (c=95)<;>rfl
  rw [hq];cases h4:(decide (c=40)||(decide (c=41)||decide (c=95))) with
  |true=>rfl
  |false=>
  rw [q02,cond_false];have hp:f_bn (c::l,[59,59],())=some (decide (c=59)&&decide (l.head?=some 59),()):=by
   rw [u_bn,u_a8];cases l with
   |nil=>have e:leI (lenI ([59,59]:Tx)) (lenI [c])=false:=rfl;rw [e];cases decide (c=59)<;>rfl
   |cons e l2=>
    have e1:leI (lenI ([59,59]:Tx)) (lenI (c::e::l2))=true:=zt (by
     show ((2:Nat):Int)≤(((c::e::l2).length:Nat):Int);simp only [ze];omega)
    have e2:cutL (c::e::l2) 0 (lenI ([59,59]:Tx))=some [c,e]:=q9h (k:=2) (by simp only [ze];omega);rw [e1,q04,e2,q00,q00,q00];have hh:decide ((e::l2).head?=some 59)=decide (e=59):=decide_eq_decide.2 (by simp);rw [hh];congr 2;unfold eqS;rw [Bool.eq_iff_iff,beq_iff_eq,zd,decide_eq_true_eq,decide_eq_true_eq];simp
  rw [hp,q00];simp only;cases h5:(decide (c=59)&&decide (l.head?=some 59)) with
  |true=>
   have hd:2≤(c::l).length:=by
    cases l with
    |nil=>simp at h5
    |cons e l2=>simp only [ze];omega
   have k2:=q7y 6 (c::l) hd;have k2:f_al (2,6,c::l,())=_:=k2;rw [k2,q00];rfl
  |false=>
  rw [q02,cond_false,qbm,q00];simp only;have he:∀K:Bool→Option (Y5×Int×Int×Unit),bnd (cnd (qnq c) (some true) (some (eqI c 126))) K=K (q1h c||decide (c=126)):=by intro K;rw [d];show bnd (cnd (q1h c) _ _) K=_;cases q1h c<;>rfl
  rw [he];cases h6:(q1h c||decide (c=126)) with
  |true=>
   rw [q04,cond_true];have hf:cutL (c::l) 1 (lenI (c::l))=some l:=by unfold cutL lenI;rw [if_pos (by simp only [ze];omega)];simp
   have hj:l.length≤1000:=by simp only [ze] at hs;omega
   rw [hf,q00,z2r l (by omega),q00];simp only;have hk:=q2q q1h l;have hg:addI .i64 1 ((q17 q1h l:Nat):Int)=((1+q17 q1h l:Nat):Int):=by rw [q2d (by omega) (by omega)];omega
   rw [hg,q9h (by simp only [ze];omega),q00];obtain ⟨r1,r2⟩:=qu0 ((c::l).take (1+q17 q1h l)) (fun b h=>hb b (List.mem_of_mem_take h)) (by rw [zM];omega);rw [r1,q00];simp only;have e:eqI (rdF ((c::l).take (1+q17 q1h l))).2 0=decide ((rdF ((c::l).take (1+q17 q1h l))).2=0):=by
    by_cases e:(rdF ((c::l).take (1+q17 q1h l))).2=0
    ·rw [e];rfl
    ·rw [q16 e];exact (zp e).symm
   rw [q4a,e];cases decide ((rdF ((c::l).take (1+q17 q1h l))).2=0)<;>rfl
  |false=>
  rw [q02,cond_false,d];cases h7:decide (c=34) with
  |false=>rfl
  |true=>
   rw [q04,cond_true,qm1 _ (by omega) (by simp),q00];simp only [List.drop_succ_cons,List.drop_zero];have e1:eqI ((qt l [] 1).2:Int) 0=decide ((qt l [] 1).2=0):=by
    by_cases e:(qt l [] 1).2=0
    ·rw [e];rfl
    ·rw [q16 (by omega)];exact (zp e).symm
   have e2:ltI 200 (lenI (qt l [] 1).1)=decide (200<(qt l [] 1).1.length):=decide_eq_decide.2 (by
    show (200:Int)<(((qt l [] 1).1.length:Nat):Int)↔_;omega)
   rw [e1,e2];cases decide ((qt l [] 1).2=0)<;>cases decide (200<(qt l [] 1).1.length)<;>rfl
end Fn
end Ev

namespace Ev
open Go
namespace Fn
open Pz
theorem lxp:LxP q1r sgnL where
 hin c h:=by
  unfold q1r;rcases h with h|h
  ·have h:q8o c=true:=h;rw [h];rfl
  ·have h:qah c=true:=h;rw [h];cases q8o c<;>rfl
 i10:=by decide
 s10:=by decide
noncomputable abbrev lexL:=lexP q1r sgnL q5d rdF
theorem qu2:∀l:Tx,Pz.blank true l=q17 neL l+Pz.blank false (l.drop (q17 neL l))
 |[]=>rfl
 |c::l=>by
  by_cases h:c=10
  ·subst h;have e:q17 neL (10::l)=0:=rfl;rw [e,List.drop_zero,zJ];rfl
  ·have e:q17 neL (c::l)=q17 neL l+1:=by
    conv=>lhs;unfold q17
    have:neL c=true:=by unfold neL notB;rw [q16 h];rfl
    rw [this,cond_true]
   rw [e,List.drop_succ_cons]
   conv=>lhs;unfold Pz.blank
   rw [if_neg h,qu2 l];omega
theorem qu3 {c:Int} (l:Tx) (h:c=32∨c=10):Pz.blank false ([c]++l)=1+Pz.blank false l:=by
 show Pz.blank false (c::l)=_
 conv=>lhs;unfold Pz.blank
 rw [if_pos h];omega
theorem z0m (l:Tx):Pz.blank false (35::l)=q17 neL (35::l)+Pz.blank false ((35::l).drop (q17 neL (35::l))):=by
 have e:q17 neL (35::l)=q17 neL l+1:=rfl
 conv=>lhs;unfold Pz.blank
 rw [if_neg (by decide),if_pos rfl,qu2 l,e,List.drop_succ_cons];omega
theorem qu4 {c:Int} (l:Tx) (h:¬(c=32∨c=10)) (h2:c≠35):Pz.blank false (c::l)=0:=by unfold Pz.blank;rw [if_neg h,if_neg h2]
def finL (acc:List Tk) (b:Bool) (r:PR (List Tk)):Y16:=match r with
 |.ok l=>(⟨b,acc++l⟩,0,0,())
 |.error e=>(⟨true,[]⟩,e.1,e.2,())
theorem qwv (s:Tx) (hs:s.length≤1000) (hb:∀x,x∈s→0≤x∧x≤255):∀(m i:Nat) (q:Bool) (acc:List Tk),s.length-i≤m→i≤s.length→acc.length≤i→∃b,loopR l2_aa (s,(i:Int),⟨q,acc⟩,())=some (finL acc b (lexL (s.length-i+1) (s.drop i) (i:Int))):=by
 intro m
 induction m using Nat.strongRecOn with
 |_ m ih=>
  intro i q acc hm hi hC;by_cases hz:i<s.length
  ·have hd:=q18 hz;have hg:ltI (i:Int) (lenI s)=true:=zt (show (i:Int)<((s.length:Nat):Int) by omega);have hl:=q0j (zg hz);have hn:cutL s (i:Int) (lenI s)=some (s.drop i):=by unfold cutL lenI;rw [if_pos (by omega)];simp
   have hD:eqI (i:Int) (lenI s)=false:=q16 (show (i:Int)≠((s.length:Nat):Int) by omega);have hE:(s.drop i).length=s.length-i:=zw;generalize hc:s[i]=c at hl hd;have e2:cnd (eqI c 32) (some true) (bnd (some c) (fun x3=>some (eqI x3 10)))=some (decide (c=32)||decide (c=10)):=by
    rw [q00,q67];by_cases h1:c=32
    ·rw [if_pos h1,zt h1];rfl
    ·rw [if_neg h1,zp h1];by_cases h2:c=10
     ·subst h2;rfl
     ·rw [q16 h2,zp h2];rfl
   by_cases ho:c=32∨c=10
   ·have step:l1_aa (s,(i:Int),⟨q,acc⟩,())=some (.inl (s,((i+1:Nat):Int),⟨q,acc⟩,())):=by
     unfold l1_aa;simp only;rw [hg,q04]
     conv=>lhs;arg 1;rw [hl,q00]
     rw [e2,q00];have:(decide (c=32)||decide (c=10))=true:=by rcases ho with h|h<;>rw [h]<;>rfl
     rw [this,q04,add1 (by omega)]
    have hj:l2_aa (s,(i:Int),⟨q,acc⟩,())=l2_aa (s,((i+1:Nat):Int),⟨q,acc⟩,()):=by unfold l2_aa;exact q0d step
    obtain ⟨b,hq⟩:=ih (s.length-(i+1)) (by omega) (i+1) q acc (Nat.le_refl _) (by omega) (by omega);refine ⟨b,?_⟩;have hk:lexL (s.length-i+1) (s.drop i) (i:Int)=lexL (s.length-(i+1)+1) (s.drop (i+1)) ((i+1:Nat):Int):=by rw [hd];have:=qar (inn:=q1r) (sgn:=sgnL) (keyw:=q5d) (rd:=rdF) (s.length-i) [c] (s.drop (i+1)) (i:Int) (qu3 _ ho);refine Eq.trans this ?_;rw [qaq lxp (s.drop (i+1)).length (s.drop (i+1)) (Nat.le_refl _) (s.length-i+1) (s.length-(i+1)+1) _ (by rw [zw];omega) (by rw [zw];omega)];rfl
    rw [q8b,hj,←q8b,hq,hk]
   ·have nb:(decide (c=32)||decide (c=10))=false:=by rw [zp (fun h=>ho (.inl h)),zp (fun h=>ho (.inr h))];rfl
    by_cases hv:c=35
    ·subst hv;have hL:=q2q neL (s.drop i);have hF:1≤q17 neL (s.drop i):=by rw [hd];exact qan rfl
     have step:l1_aa (s,(i:Int),⟨q,acc⟩,())=some (.inr (.inl (s,((i+q17 neL (s.drop i):Nat):Int),⟨q,acc⟩,()))):=by
      unfold l1_aa;simp only;rw [hg,q04]
      conv=>lhs;arg 1;rw [hl,q00]
      rw [e2,q00,nb,q02,q04,hl,q00,q00];have e35:eqI 35 35=true:=rfl;rw [e35,q04,hn,q00,z2s _ (by omega),q00];simp only;rw [q2d (by omega) (by omega)];congr 4
     have hj:l2_aa (s,(i:Int),⟨q,acc⟩,())=some (.inl (s,((i+q17 neL (s.drop i):Nat):Int),⟨q,acc⟩,())):=by unfold l2_aa;exact q05 step
     obtain ⟨b,hq⟩:=ih (s.length-(i+q17 neL (s.drop i))) (by omega) (i+q17 neL (s.drop i)) q acc (Nat.le_refl _) (by omega) (by omega);refine ⟨b,?_⟩;have hk:lexL (s.length-i+1) (s.drop i) (i:Int)=lexL (s.length-(i+q17 neL (s.drop i))+1) (s.drop (i+q17 neL (s.drop i))) ((i+q17 neL (s.drop i):Nat):Int):=by
      have hG:Pz.blank false (s.drop i)=q17 neL (s.drop i)+Pz.blank false ((s.drop i).drop (q17 neL (s.drop i))):=by rw [hd];exact z0m _
      have hA:((s.drop i).take (q17 neL (s.drop i))).length=q17 neL (s.drop i):=by rw [zM];omega
      have:=qar (inn:=q1r) (sgn:=sgnL) (keyw:=q5d) (rd:=rdF) (s.length-i) ((s.drop i).take (q17 neL (s.drop i))) ((s.drop i).drop (q17 neL (s.drop i))) (i:Int) (by rw [List.take_append_drop,hA];exact hG);rw [List.take_append_drop,hA] at this;refine Eq.trans this ?_;rw [List.drop_drop,qaq lxp (s.drop (i+q17 neL (s.drop i))).length _ (Nat.le_refl _) (s.length-i+1) (s.length-(i+q17 neL (s.drop i))+1) _ (by rw [zw];omega) (by rw [zw];omega)];rfl
     rw [q0d hj,hq,hk]
    ·have hH:Pz.blank false (s.drop i)=0:=by rw [hd];exact qu4 _ ho hv
     have ht:s.drop i≠[]:=by rw [hd];simp
     have hu:=qwu (s.drop i) (fun x hx=>hb x (List.mem_of_mem_drop hx)) (by omega) ht;have hB:(oneL (s.drop i)).2.2=0→1≤(oneL (s.drop i)).2.1∧(oneL (s.drop i)).2.1≤(s.drop i).length:=qo2 lxp (s.drop i);have hI:eqI (lenI acc) 4000=false:=q16 (show ((acc.length:Nat):Int)≠4000 by omega);have hw:∀x:Tk,fit (sumI (lenI acc) (lenI [x]))=some ():=fun x=>q32 (by
      show ((acc.length:Nat):Int)+((1:Nat):Int)≤_;omega)
     have hy:lexL (s.length-i+1) (s.drop i) (i:Int)=if (oneL (s.drop i)).2.2≠0 then .error ((i:Int)+(0:Nat),(oneL (s.drop i)).2.2) else
       eb (lexL (s.length-i) ((s.drop i).drop (oneL (s.drop i)).2.1) ((i:Int)+(0:Nat)+(oneL (s.drop i)).2.1)) fun l=>.ok (tkOf (oneL (s.drop i)).1 ((i:Int)+(0:Nat))::l):=by
      conv=>lhs;unfold lexL lexP
      rw [hH,List.drop_zero,if_neg ht]
     generalize oneL (s.drop i)=r at hu hB hy;obtain ⟨⟨t1,t2,t3⟩,n,e⟩:=r;have base:l1_aa (s,(i:Int),⟨q,acc⟩,())=cnd (notB (eqI e 0)) (some (.inr (.inr (⟨true,[]⟩,(i:Int),e,())))) (some (.inr (.inl (s,addI .i64 (i:Int) (n:Int),⟨andB q (isE [(t1,t2,t3,(i:Int))]),acc++[(t1,t2,t3,(i:Int))]⟩,())))):=by
      unfold l1_aa;simp only;rw [hg,q04]
      conv=>lhs;arg 1;rw [hl,q00]
      rw [e2,q00,nb,q02,q04,hl,q00,q00,q16 hv,q02,hD,q02,hn,q00,hu,q00];simp only;rw [hI];have hx:cnd (eqI e 0) (some false) (some false)=some false:=by cases eqI e 0<;>rfl
      rw [hx,q00,q02,q00];simp only;rw [hw,q00];rfl
     by_cases he:e=0
     ·subst he;obtain ⟨n1,n2⟩:=hB rfl;rw [hE] at n2;have n2:n≤s.length-i:=n2;have n1:1≤n:=n1;have e00:notB (eqI 0 0)=false:=rfl;rw [e00,q02,q2d (by omega) (by omega)] at base;have hj:l2_aa (s,(i:Int),⟨q,acc⟩,())=some (.inl (s,((i+n:Nat):Int),⟨andB q (isE [(t1,t2,t3,(i:Int))]),acc++[(t1,t2,t3,(i:Int))]⟩,())):=by unfold l2_aa;exact q05 base
      obtain ⟨b,hq⟩:=ih (s.length-(i+n)) (by omega) (i+n) (andB q (isE [(t1,t2,t3,(i:Int))])) (acc++[(t1,t2,t3,(i:Int))]) (Nat.le_refl _) (by omega) (by rw [zh,List.length_singleton];omega);refine ⟨b,?_⟩;rw [q0d hj,hq,hy,if_neg (by simp)];simp only;have hf:∀z,lexL (s.length-i) (s.drop (i+n)) z=lexL (s.length-(i+n)+1) (s.drop (i+n)) z:=fun z=>qaq lxp (s.drop (i+n)).length _ (Nat.le_refl _) (s.length-i) (s.length-(i+n)+1) z (by rw [zw];omega) (by rw [zw];omega);rw [List.drop_drop,hf];have ea:(i:Int)+((0:Nat):Int)+(n:Int)=((i+n:Nat):Int):=by omega
      rw [ea];have e0:(i:Int)+((0:Nat):Int)=(i:Int):=by omega
      rw [e0];cases lexL (s.length-(i+n)+1) (s.drop (i+n)) ((i+n:Nat):Int) with
      |error e=>rfl
      |ok l=>show some ((⟨b,acc++[(t1,t2,t3,(i:Int))]++l⟩:Y0),(0:Int),(0:Int),())=some ((⟨b,acc++(tkOf (t1,t2,t3) (i:Int)::l)⟩:Y0),(0:Int),(0:Int),());rw [zu];rfl
     ·have e00:notB (eqI e 0)=true:=by rw [q16 he];rfl
      rw [e00,q04] at base;have hj:l2_aa (s,(i:Int),⟨q,acc⟩,())=some (.inr (⟨true,[]⟩,(i:Int),e,())):=by unfold l2_aa;exact q05 base
      refine ⟨true,?_⟩;rw [q05 hj,hy,if_pos he];show some ((⟨true,[]⟩:Y0),(i:Int),e,())=some ((⟨true,[]⟩:Y0),(i:Int)+((0:Nat):Int),e,());congr 3
  ·have hJ:i=s.length:=by omega
   have hg:ltI (i:Int) (lenI s)=false:=zp (show ¬(i:Int)<((s.length:Nat):Int) by omega);have hK:eqI (i:Int) (lenI s)=true:=by rw [hJ];exact q0s _
   have step:l1_aa (s,(i:Int),⟨q,acc⟩,())=some (.inr (.inr (⟨q,acc⟩,0,0,()))):=by unfold l1_aa;simp only;rw [hg,q02,q00,q02,q02,q00,q02,hK,q04]
   have hj:l2_aa (s,(i:Int),⟨q,acc⟩,())=some (.inr (⟨q,acc⟩,0,0,())):=by unfold l2_aa;exact q05 step
   refine ⟨q,?_⟩;rw [q05 hj,zB (by omega)];show _=some ((⟨q,acc++[]⟩:Y0),(0:Int),(0:Int),());rw [zo]
theorem qww (s:Tx) (hs:s.length≤1000) (hb:∀x,x∈s→0≤x∧x≤255):∃b,f_aa (s,())=some (finL [] b (lexL (s.length+1) s 0)):=by obtain ⟨b,h⟩:=qwv s hs hb s.length 0 true [] (by omega) (Nat.zero_le _) (Nat.zero_le _);refine ⟨b,?_⟩;rw [u_aa];rw [Nat.sub_zero,List.drop_zero] at h;exact h
end Fn
end Ev

namespace Ev
open Go
namespace Fn
open Pz
def pcOf (F:List Fix1) (toks:List Tk) (e:Int):PC:=⟨toks,e,fxOf F,clOf F⟩
noncomputable def synE (t:List ND):Int:=match f_bq (⟨true,t⟩,()) with
 |some x=>x.1
 |none=>0
noncomputable def tokR (F:List Fix1) (l:List Tk) (e:Int):List ND×Int×Int:=match allP (pcOf F l e) with
 |.error q=>([],q.1,q.2)
 |.ok t=>if synE t≠0 then ([],0,74) else (t,0,0)
noncomputable def full (F:List Fix1) (s:Tx):List ND×Int×Int:=
 if q2c F≠0 then ([],0,q2c F) else match lexL (s.length+1) s 0 with
 |.error e=>([],e.1,e.2)
 |.ok l=>tokR F l (s.length:Int)
def QB (t:Tx):Prop:=(∀b,b∈t→0≤b∧b≤255)∧t.length≤1000000
theorem qxw {t:List ND} (hl:t.length≤4000) (hg:GL t) (b:Bool):f_bq (⟨b,t⟩,())=some (synE t,()):=by
 have h:∃er,∀b,f_bq (⟨b,t⟩,())=some (er,()):=by
  rcases qzq t with h|⟨kd,x,n,ks,rfl⟩
  ·exact ⟨60,fun b=>qpp b t hl h⟩
  ·have e:(tr kd x n ks).flat.length=ks.size+1:=by rw [F.len];rfl
   exact ⟨_,fun b=>qpo b kd x n ks (by omega) hg⟩
 obtain ⟨er,h⟩:=h;have h1:=h true;unfold synE;rw [h1,h b]
theorem qcz (s:Tx) (hs:s.length≤1000) (hb:∀x,x∈s→0≤x∧x≤255):OkL rng 0 s.length (lexL (s.length+1) s 0):=qxq (N:=rng) lxp ⟨by decide,by decide⟩ 1000 (fun t h1 h2=>(qu0 t h1 (by omega)).2) _ s 0 hs hb
theorem qkf {F:List Fix1} (hz:q2c F=0) {s:Tx} (hs:s.length≤1000) {l:List Tk} (h:OkL rng 0 s.length (.ok l)):Inp (pcOf F l (s.length:Int)) (s.length:Int) QB rng where
 tk t ht:=by obtain ⟨h1,h2⟩:=h;obtain ⟨⟨q1,q2,q3⟩,q4,q5⟩:=h2 t ht;exact ⟨⟨q1,by omega⟩,q3,q4,by omega⟩
 e0:=by show (0:Int)≤(s.length:Int);omega
 e1:=Int.le_refl _
 q0:=⟨fun b h=>absurd h (List.not_mem_nil),Nat.zero_le _⟩
 n0:=⟨by decide,by decide⟩
 cl ops x h:=qts hz h
theorem z0n {F:Y1} (hg:gL F.l) (hz:q2c F.l=0) (toks:List Tk) (e:Int):FxOk (pcOf F.l toks e) F:=⟨hg,hz,rfl,rfl⟩
theorem qkg {F:List Fix1} (hz:q2c F=0) {s:Tx} (hs:s.length≤1000) {l:List Tk} (h:OkL rng 0 s.length (.ok l)) {t:List ND} (ht:allP (pcOf F l (s.length:Int))=.ok t):t.length≤4000∧GL t:=by have ho:=Pz.all_ok (qkf hz hs h);rw [ht] at ho;obtain ⟨h1,h2⟩:=ho;have h3:l.length≤s.length:=h.1;have h1:t.length+1≤3*l.length:=h1;refine ⟨by omega,fun x hx=>?_⟩;obtain ⟨⟨q1,q2⟩,q3⟩:=h2 x hx;exact ⟨q1,q2,q3⟩
theorem q4x (s:Tx) (hs:s.length≤1000) (hb:∀x,x∈s→0≤x∧x≤255) (F:Y1) (hg:gL F.l):∃b,f_au (s,F,())=some (⟨b,(full F.l s).1⟩,(full F.l s).2.1,(full F.l s).2.2,()):=by
 obtain ⟨fn,fl⟩:=F;rw [u_au,qbr fn hg,q00];simp only;unfold full;by_cases hz:q2c fl=0
 ·rw [hz,q0s,if_neg (fun h=>h rfl)];simp only [notB,Bool.not_true,q02];obtain ⟨b,hl⟩:=qww s hs hb;have hc:=qcz s hs hb;rw [hl,q00];cases hr:lexL (s.length+1) s 0 with
  |error e=>rw [hr] at hc;have he:eqI e.2 0=false:=q16 (by have:=hc.2.1;omega);refine ⟨true,?_⟩;show cnd (notB (eqI e.2 0)) (some ((⟨true,[]⟩:Y0),e.1,e.2,())) _=_;rw [he];rfl
  |ok l=>
   rw [hr] at hc;have H:=qkf hz hs hc;have hn:l.length≤10000:=by have:=hc.1;omega
   obtain ⟨b2,ht⟩:=qlz (nb:=b) (c:=pcOf fl l (s.length:Int)) (F:=⟨fn,fl⟩) hn H (z0n hg hz _ _);have ht:f_av (⟨b,[]++l⟩,lenI s,⟨fn,fl⟩,())=_:=ht;have e0:cnd (notB (eqI (0:Int) 0)) (some ((⟨true,[]⟩:Y0),(0:Int),(0:Int),())) (bnd (f_av (⟨b,[]++l⟩,lenI s,⟨fn,fl⟩,())) (fun x2=>some (x2.1,x2.2.1,x2.2.2.1,())))=(bnd (f_av (⟨b,[]++l⟩,lenI s,⟨fn,fl⟩,())) (fun x2=>some (x2.1,x2.2.1,x2.2.2.1,()))):=rfl;show ∃b',_=some ((⟨b',(tokR fl l (s.length:Int)).1⟩:Y0),(tokR fl l (s.length:Int)).2.1,(tokR fl l (s.length:Int)).2.2,());refine Exists.imp (fun b h=>Eq.trans e0 h) ?_;rw [ht];unfold tokR;cases ha:allP (pcOf fl l (s.length:Int)) with
   |error q=>exact ⟨true,rfl⟩
   |ok t=>
    obtain ⟨g1,g2⟩:=qkg hz hs hc ha;simp only;rw [qxw g1 g2,q00];simp only;by_cases hy:synE t=0
    ·rw [hy,q0s,if_neg (fun h=>h rfl)];exact ⟨b2,rfl⟩
    ·rw [q16 hy,if_pos hy];exact ⟨true,rfl⟩
 ·rw [q16 hz,if_pos hz];exact ⟨true,rfl⟩
theorem qhz (F:List Fix1) (s:Tx) (hs:s.length≤1000) (hb:∀x,x∈s→0≤x∧x≤255):((full F s).2.2=0→(full F s).2.1=0∧synE (full F s).1=0∧(full F s).1.length≤4000∧GL (full F s).1)∧((full F s).2.2≠0→(full F s).1=[]∧0≤(full F s).2.1∧(full F s).2.1≤s.length):=by
 unfold full;by_cases hz:q2c F=0
 ·rw [if_neg (fun h=>h hz)];have hc:=qcz s hs hb;cases hr:lexL (s.length+1) s 0 with
  |error e=>rw [hr] at hc;obtain ⟨⟨h1,h2⟩,h3,h4⟩:=hc;exact ⟨fun h=>by have h:e.2=0:=h;omega,fun _=>⟨rfl,h1,by show e.1≤_;omega⟩⟩
  |ok l=>
   rw [hr] at hc;have H:=qkf hz hs hc;have ho:=Pz.all_ok H;show ((tokR F l (s.length:Int)).2.2=0→(tokR F l (s.length:Int)).2.1=0∧synE (tokR F l (s.length:Int)).1=0∧(tokR F l (s.length:Int)).1.length≤4000∧GL (tokR F l (s.length:Int)).1)∧
    ((tokR F l (s.length:Int)).2.2≠0→(tokR F l (s.length:Int)).1=[]∧0≤(tokR F l (s.length:Int)).2.1∧(tokR F l (s.length:Int)).2.1≤s.length)
   unfold tokR;cases ha:allP (pcOf F l (s.length:Int)) with
   |error q=>rw [ha] at ho;obtain ⟨⟨h1,h2⟩,h3,h4⟩:=ho;exact ⟨fun h=>by have h:q.2=0:=h;omega,fun _=>⟨rfl,h1,h2⟩⟩
   |ok t=>
    obtain ⟨g1,g2⟩:=qkg hz hs hc ha;simp only;by_cases hy:synE t=0
    ·rw [if_neg (fun h=>h hy)];exact ⟨fun _=>⟨rfl,hy,g1,g2⟩,fun h=>absurd rfl h⟩
    ·rw [if_pos hy];exact ⟨fun h=>absurd h (by decide),fun _=>⟨rfl,Int.le_refl _,by show (0:Int)≤_;omega⟩⟩
 ·rw [if_pos hz];exact ⟨fun h=>absurd h hz,fun _=>⟨rfl,Int.le_refl _,by show (0:Int)≤_;omega⟩⟩
theorem qwx (n:Bool) (l:List Fix1):∀(m k:Nat),k+m=21→k≤l.length→(∀j (h:j<l.length),j<k→l[j].1.length≤20)→∃r,loopR q3l (⟨n,l⟩,(k:Int),())=some (r,())∧(r=true→l.length≤20∧∀x,x∈l→x.1.length≤20):=by
 intro m
 induction m with
 |zero=>
  intro k hk hl hj;refine ⟨leI (lenI l) 20,q05 ?_,fun h=>?_⟩
  ·unfold q3l;simp only;have e:ltI (k:Int) 21=false:=zp (by omega);rw [e];cases ltI (k:Int) (lenI l)<;>rfl
  ·have h:((l.length:Nat):Int)≤20:=zU h;omega
 |succ m ih=>
  intro k hk hl hj;have e:ltI (k:Int) 21=true:=zt (by omega);by_cases hd:k<l.length
  ·have hc:ltI (k:Int) (lenI l)=true:=zt (show (k:Int)<((l.length:Nat):Int) by omega);have step:q3l (⟨n,l⟩,(k:Int),())=if 20<l[k].1.length then some (.inr (false,())) else some (.inl (⟨n,l⟩,((k+1:Nat):Int),())):=by
    unfold q3l;simp only;rw [hc,q04,e,q00,q04,q0j (zg hd),q00,q0f,add1 (by omega)];by_cases h:20<l[k].1.length
    ·rw [if_pos h,if_pos (show (20:Int)<lenI l[k].1 by show (20:Int)<((l[k].1.length:Nat):Int);omega)]
    ·rw [if_neg h,if_neg (show ¬(20:Int)<lenI l[k].1 by show ¬(20:Int)<((l[k].1.length:Nat):Int);omega)]
   by_cases h:20<l[k].1.length
   ·rw [if_pos h] at step;exact ⟨false,q05 step,(fun h=>by cases h)⟩
   ·rw [if_neg h] at step;rw [q0d step];refine ih (k+1) (by omega) hd fun j h1 h2=>?_;rcases Nat.lt_or_eq_of_le (Nat.le_of_lt_succ h2) with h3|h3
    ·exact hj j h1 h3
    ·subst h3;omega
  ·have hc:ltI (k:Int) (lenI l)=false:=zp (show ¬(k:Int)<((l.length:Nat):Int) by omega);refine ⟨leI (lenI l) 20,q05 ?_,fun _=>⟨by omega,fun x hx=>?_⟩⟩
   ·unfold q3l;simp only;rw [hc];rfl
   ·obtain ⟨j,h1,h2⟩:=List.getElem_of_mem hx;rw [←h2];exact hj j h1 (by omega)
theorem qwy (n:Bool) (l:List Fix1):∃r,q24 (⟨n,l⟩,())=some (r,())∧(r=true→l.length≤20∧∀x,x∈l→x.1.length≤20):=by rw [qlr];exact qwx n l 21 0 rfl (Nat.zero_le _) fun j _ h=>absurd h (by omega)
theorem qd0 (n:Bool) (l:List Fix1) (h:l.length≤20):q14 (⟨n,l⟩,())=some (⟨false,l⟩,()):=by rw [qls,q32 (by show ((0:Nat):Int)+((l.length:Nat):Int)≤_;omega),q00];rfl
theorem qbx (n:Bool) (l:List Fix1) (t:Bool) (X Y:Option (Bool×Unit)):∃r:Bool,(r=true→t=false∧l.length≤20∧∀x,x∈l→x.1.length≤20)∧bnd (some t) (fun x1=>bnd (cnd x1 (some true) (bnd (q24 (⟨n,l⟩,())) (fun x2=>some (notB x2.1)))) (fun x3=>cnd x3 X Y))=if r=true then Y else X:=by
 obtain ⟨r,h1,h2⟩:=qwy n l;rw [h1,q00,q00];cases t with
 |true=>exact ⟨false,(fun h=>by cases h),rfl⟩
 |false=>
  cases r with
  |true=>exact ⟨true,fun _=>⟨rfl,h2 rfl⟩,rfl⟩
  |false=>exact ⟨false,(fun h=>by cases h),rfl⟩
theorem z0o {l:List Fix1} (hg:∀x,x∈l→gF x) (h1:l.length≤20) (h2:∀x,x∈l→x.1.length≤20):gL l:=⟨hg,fun x hx=>by have:=h2 x hx;omega,by omega⟩
theorem qm2:bnd (q13 ()) (fun x4=>some (x4.1,()))=some (true,()):=by rw [qcv];rfl
theorem law_Fits (s:Tx) (hb:∀x,x∈s→0≤x∧x≤255) (n:Bool) (l:List Fix1) (hg:∀x,x∈l→gF x):f_law07_ParseFits (s,⟨n,l⟩,())=some (true,()):=by
 rw [qbi,qm2,qcv,q00];show bnd (some (ltI 600 (lenI s))) _=_;obtain ⟨r,h1,h2⟩:=qbx n l (ltI 600 (lenI s)) (some (true,())) (bnd (q14 (⟨n,l⟩,())) (fun x5=>bnd (f_au (s,x5.1,())) (fun x6=>cnd (eqI x6.2.2.1 0) (bnd (cnd (eqI x6.2.1 0) (bnd (f_bq (x6.1,())) (fun x7=>some (eqI x7.1 0))) (some false)) (fun x8=>some (x8,()))) (bnd (cnd (eqI (lenI x6.1.l) 0) (some (leI 0 x6.2.1)) (some false)) (fun x9=>bnd (cnd x9 (some (leI x6.2.1 (lenI s))) (some false)) (fun x10=>some (x10,())))))));refine Eq.trans h2 ?_;cases r with
 |false=>rfl
 |true=>
  obtain ⟨h3,h4,h5⟩:=h1 rfl;have hs:¬(600:Int)<((s.length:Nat):Int):=of_decide_eq_false h3;rw [if_pos rfl,qd0 n l h4,q00];obtain ⟨b,hp⟩:=q4x s (by omega) hb ⟨false,l⟩ (z0o hg h4 h5);obtain ⟨k1,k2⟩:=qhz l s (by omega) hb;rw [hp,q00];simp only;by_cases he:(full l s).2.2=0
  ·obtain ⟨g1,g2,g3,g4⟩:=k1 he;rw [he,g1,q0s,q04,q04,qxw g3 g4,q00,q00,g2];rfl
  ·obtain ⟨g1,g2,g3⟩:=k2 he;rw [q16 he,q02,g1];have e1:leI 0 (full l s).2.1=true:=zt g2;have e2:leI (full l s).2.1 (lenI s)=true:=zt g3;rw [e1,e2];rfl
end Fn
end Ev

namespace Ev
open Go
namespace Fn
open Pz
theorem qu5 (b1 b2:Bool) (l:List ND) (hl:l.length≤1000000):∀(m k:Nat),k+m=l.length→loopR l1_b9 (⟨b1,l⟩,⟨b2,l⟩,(k:Int),())=some (true,()):=by
 intro m
 induction m with
 |zero=>intro k hk;apply q05;unfold l1_b9;simp only;rw [q0f,if_neg (show ¬(k:Int)<lenI l by show ¬(k:Int)<((l.length:Nat):Int);omega)]
 |succ m ih=>
  intro k hk;have hc:k<l.length:=by omega
  have step:l1_b9 (⟨b1,l⟩,⟨b2,l⟩,(k:Int),())=some (.inl (⟨b1,l⟩,⟨b2,l⟩,((k+1:Nat):Int),())):=by unfold l1_b9;simp only;rw [q0f,if_pos (show (k:Int)<lenI l by show (k:Int)<((l.length:Nat):Int);omega),q0j (zg hc),q00,q00,q0s,qvh,q0s,q0s,add1 (by omega)];rfl
  rw [q0d step];exact ih (k+1) (by omega)
theorem qkh (b1 b2:Bool) (l:List ND) (hl:l.length≤1000000):f_b9 (⟨b1,l⟩,⟨b2,l⟩,())=some (true,()):=by rw [u_b9,q4a,q0s,q04];exact qu5 b1 b2 l hl l.length 0 (by omega)
theorem qm3 (l:List Fix1):q2c l=0∨q2c l=40∨q2c l=41:=by
 unfold q2c;split
 ·exact .inr (.inl rfl)
 ·split
  ·exact .inr (.inr rfl)
  ·exact .inl rfl
def qki (e:Int):Prop:=e=0∨e=74∨e=40∨e=41
theorem qpz (n:Nat) (s:Tx):lexL ((List.replicate n 32++s).length+1) (List.replicate n 32++s) 0=Pz.shL (n:Int) (lexL (s.length+1) s 0):=by have h:=qar (inn:=q1r) (sgn:=sgnL) (keyw:=q5d) (rd:=rdF) (List.replicate n 32++s).length (List.replicate n 32) s 0 (by rw [qwf,List.length_replicate]);have h2:=qaq (keyw:=q5d) (rd:=rdF) lxp s.length s (Nat.le_refl _) ((List.replicate n 32++s).length+1) (s.length+1) (0+((List.replicate n (32:Int)).length:Int)) (by rw [zh];omega) (by omega);have h3:=qet (inn:=q1r) (sgn:=sgnL) (keyw:=q5d) (rd:=rdF) (n:Int) (s.length+1) s 0;rw [List.length_replicate] at h2;rw [List.length_replicate] at h;exact h.trans (h2.trans h3)
theorem z0p (F:List Fix1) (l:List Tk) (n:Nat) (s:Tx):pcOf F (l.map (Pz.shT (n:Int))) ((List.replicate n (32:Int)++s).length:Int)=shC (n:Int) (pcOf F l (s.length:Int)):=by
 have e:(((List.replicate n (32:Int)++s).length:Nat):Int)=(s.length:Int)+(n:Int):=by rw [zh,List.length_replicate];omega
 unfold pcOf shC Pz.shT;rw [e]
theorem qm4 (F:List Fix1) (s:Tx) (hs:s.length≤500) (hb:∀x,x∈s→0≤x∧x≤255) (n:Nat):(qki (full F s).2.2∧full F (List.replicate n 32++s)=full F s)∨(¬qki (full F s).2.2∧full F (List.replicate n 32++s)=([],(full F s).2.1+(n:Int),(full F s).2.2)):=by
 unfold full;by_cases hz:q2c F=0
 ·rw [if_neg (fun h=>h hz),if_neg (fun h=>h hz),qpz];have hc:=qcz s (by omega) hb;cases hr:lexL (s.length+1) s 0 with
  |error e=>rw [hr] at hc;obtain ⟨_,h3,h4⟩:=hc;right;refine ⟨fun h=>?_,rfl⟩;have h:qki e.2:=h;unfold qki at h;omega
  |ok l=>
   rw [hr] at hc;have H:=qkf hz (by omega) hc;have ho:=Pz.all_ok H;show (qki (tokR F l (s.length:Int)).2.2∧tokR F (l.map (Pz.shT (n:Int))) ((List.replicate n (32:Int)++s).length:Int)=tokR F l (s.length:Int))∨
    (¬qki (tokR F l (s.length:Int)).2.2∧tokR F (l.map (Pz.shT (n:Int))) ((List.replicate n (32:Int)++s).length:Int)=([],(tokR F l (s.length:Int)).2.1+(n:Int),(tokR F l (s.length:Int)).2.2))
   unfold tokR;rw [z0p,z1u];cases ha:allP (pcOf F l (s.length:Int)) with
   |error q=>rw [ha] at ho;obtain ⟨_,h3,h4⟩:=ho;right;refine ⟨fun h=>?_,rfl⟩;have h:qki q.2:=h;unfold qki at h;omega
   |ok t=>
    left;refine ⟨?_,rfl⟩;simp only;split
    ·exact .inr (.inl rfl)
    ·exact .inl rfl
 ·rw [if_pos hz,if_pos hz];left;refine ⟨?_,rfl⟩;rcases qm3 F with h|h|h
  ·exact absurd h hz
  ·exact .inr (.inr (.inl h))
  ·exact .inr (.inr (.inr h))
theorem q7z {a b:Tx} (h1:∀x,x∈a→0≤x∧x≤255) (h2:∀x,x∈b→0≤x∧x≤255):∀x,x∈a++b→0≤x∧x≤255:=fun x hx=>(zO.1 hx).elim (h1 x) (h2 x)
theorem qu6 (n:Nat):∀x,x∈List.replicate n (32:Int)→0≤x∧x≤255:=fun x hx=>by rw [List.eq_of_mem_replicate hx];decide
theorem qm5 (s:Tx) (hs:s.length≤500) (hb:∀x,x∈s→0≤x∧x≤255) (v:Int) (hv:0≤v∧v≤255) (n:Bool) (l:List Fix1) (hg:gL l) (hf:l.length≤20) (b:Bool):∀(m k:Nat),k+m=(v % 20).toNat→loopR q1d (s,v,⟨n,l⟩,⟨b,(full l s).1⟩,(full l s).2.1,(full l s).2.2,List.replicate k 32,(k:Int),())=some (true,()):=by
 have hr:remI (cvI .i64 v) 20=some (v % 20):=by rw [qz8 (by omega) (by omega),qhl (by omega) (by decide)]
 intro m
 induction m with
 |zero=>
  intro k hk;have hk:(k:Int)=v % 20:=by omega
  have hj:k≤19:=by omega
  have hd:(List.replicate k (32:Int)++s).length≤1000:=by rw [zh,List.length_replicate];omega
  obtain ⟨b2,hp⟩:=q4x (List.replicate k 32++s) hd (q7z (qu6 k) hb) ⟨false,l⟩ hg;have hp:f_au (List.replicate k 32++s,⟨false,l⟩,())=some (⟨b2,(full l (List.replicate k 32++s)).1⟩,(full l (List.replicate k 32++s)).2.1,(full l (List.replicate k 32++s)).2.2,()):=hp;obtain ⟨k1,k2⟩:=qhz l s (by omega) hb;apply q05;unfold q1d;simp only;rw [hr,q00,q0f,if_neg (by omega),q32 (by
   show (((List.replicate k (32:Int)).length:Nat):Int)+((s.length:Nat):Int)≤_;rw [List.length_replicate];omega),q00,qd0 n l hf,q00]
  have ec:catS (List.replicate k 32) s=List.replicate k 32++s:=rfl;rw [ec,hp,q00];simp only;rcases qm4 l s hs hb k with ⟨h1,h2⟩|⟨h1,h2⟩
  ·rw [h2];have hl:(full l s).1.length≤1000000:=by
    by_cases he:(full l s).2.2=0
    ·have:=(k1 he).2.2.1;omega
    ·rw [(k2 he).1];simp
   rw [qkh _ _ _ hl,q0s,q0s];have hc:∀K:Bool→Option ((Y2×Int×Y1×Y0×Int×Int×Y2×Int×Unit)⊕Y6),bnd (cnd (eqI (full l s).2.2 0) (some true) (some (eqI (full l s).2.2 74))) (fun x13=>bnd (cnd x13 (some true) (some (eqI (full l s).2.2 40))) (fun x14=>bnd (cnd x14 (some true) (some (eqI (full l s).2.2 41))) K))=K true:=by intro K;rcases h1 with h|h|h|h<;>rw [h]<;>rfl
   rw [hc];rfl
  ·rw [h2];have hc:∀K:Bool→Option ((Y2×Int×Y1×Y0×Int×Int×Y2×Int×Unit)⊕Y6),bnd (cnd (eqI (full l s).2.2 0) (some true) (some (eqI (full l s).2.2 74))) (fun x13=>bnd (cnd x13 (some true) (some (eqI (full l s).2.2 40))) (fun x14=>bnd (cnd x14 (some true) (some (eqI (full l s).2.2 41))) K))=K false:=by intro K;rw [q16 (fun h=>h1 (.inl h)),q16 (fun h=>h1 (.inr (.inl h))),q16 (fun h=>h1 (.inr (.inr (.inl h)))),q16 (fun h=>h1 (.inr (.inr (.inr h))))];rfl
   have he:(full l s).2.2≠0:=fun h=>h1 (.inl h);obtain ⟨_,g2,g3⟩:=k2 he;have ha:addI .i64 (full l s).2.1 (lenI (List.replicate k (32:Int)))=(full l s).2.1+(k:Int):=by
    have e:lenI (List.replicate k (32:Int))=(k:Int):=by show (((List.replicate k (32:Int)).length:Nat):Int)=_;rw [List.length_replicate]
    rw [e,q2d (by omega) (by omega)]
   rw [hc,ha,q0s,q0s];rfl
 |succ m ih=>
  intro k hk;have hm:(k:Int)<v % 20:=by omega
  have step:q1d (s,v,⟨n,l⟩,⟨b,(full l s).1⟩,(full l s).2.1,(full l s).2.2,List.replicate k 32,(k:Int),())=some (.inl (s,v,⟨n,l⟩,⟨b,(full l s).1⟩,(full l s).2.1,(full l s).2.2,List.replicate (k+1) 32,((k+1:Nat):Int),())):=by
   unfold q1d;simp only;rw [hr,q00,q0f,if_pos hm,q32 (by
    show (((List.replicate k (32:Int)).length:Nat):Int)+((1:Nat):Int)≤_;rw [List.length_replicate];omega),q00,add1 (by omega)]
   have ec:catS (List.replicate k (32:Int)) [32]=List.replicate (k+1) 32:=by show List.replicate k (32:Int)++[32]=_;rw [List.replicate_succ']
   rw [ec]
  rw [q0d step];exact ih (k+1) (by omega)
theorem law_Blanks (s:Tx) (hb:∀x,x∈s→0≤x∧x≤255) (v:Int) (hv:0≤v∧v≤255) (n:Bool) (l:List Fix1) (hg:∀x,x∈l→gF x):f_law07_ParseBlanks (s,v,⟨n,l⟩,())=some (true,()):=by
 rw [q9d,qm2,qcv,q00];show bnd (some (ltI 500 (lenI s))) _=_;obtain ⟨r,h1,h2⟩:=qbx n l (ltI 500 (lenI s)) (some (true,())) (bnd (q14 (⟨n,l⟩,())) (fun x5=>bnd (f_au (s,x5.1,())) (fun x6=>loopR q1d (s,v,⟨n,l⟩,x6.1,x6.2.1,x6.2.2.1,([]:Y2),0,()))));refine Eq.trans h2 ?_;cases r with
 |false=>rfl
 |true=>obtain ⟨h3,h4,h5⟩:=h1 rfl;have hs:¬(500:Int)<((s.length:Nat):Int):=of_decide_eq_false h3;have hc:=z0o hg h4 h5;rw [if_pos rfl,qd0 n l h4,q00];obtain ⟨b,hp⟩:=q4x s (by omega) hb ⟨false,l⟩ hc;rw [hp,q00];exact qm5 s (by omega) hb v hv n l hc h4 b (v % 20).toNat 0 (by omega)
end Fn
end Ev

namespace Ev
open Go
namespace Fn
open Pz
theorem z28 {c:Int} (hc:c=40∨c=41) (z:Tx):oneL (c::z)=((6,[c],0),1,0):=by
 have e:∀k:Int,(bif q5d [c] then (6:Int) else k)=bif q5d [c] then 6 else k:=fun _=>rfl
 show oneC q1r sgnL q5d rdF c z=_;unfold oneC;rcases hc with rfl|rfl<;>rfl
theorem qxx {c:Int} (hc:c=40∨c=41) (f:Nat) (z:Tx) (a:Int):lexL (f+1) (c::z) a=eb (lexL f z (a+1)) fun l=>.ok ((6,[c],0,a)::l):=by
 have hb:Pz.blank false (c::z)=0:=qu4 z (by rcases hc with rfl|rfl<;>decide) (by rcases hc with rfl|rfl<;>decide);have ho:=z28 hc z
 conv=>lhs;unfold lexL lexP
 have ho:one q1r sgnL q5d rdF (c::z)=((6,[c],0),1,0):=ho;rw [hb,List.drop_zero,if_neg (by simp),ho,if_neg (by simp)];have e1:a+((0:Nat):Int)+((1:Nat):Int)=a+1:=by omega
 have e2:a+((0:Nat):Int)=a:=by omega
 simp only;rw [e1,e2];rfl
theorem z29 (f:Nat) (z:Tx) (a:Int):lexL (f+1) (10::z) a=lexL (f+1) z (a+1):=by have:=qar (inn:=q1r) (sgn:=sgnL) (keyw:=q5d) (rd:=rdF) f [10] z a (qu3 z (.inr rfl));exact this
theorem z0q (f:Nat) (a:Int):lexL (f+1) [] a=.ok []:=rfl
theorem qxy {s:Tx} {l:List Tk} (h:lexL (s.length+1) s 0=.ok l) (y:Tx) (f:Nat) (a:Int) (hf:s.length+y.length+3≤f):∃a',lexL (f+1) (40::(s++10::41::y)) a=eb (lexL (f-1) y a') fun r=>.ok ((6,[40],0,a)::(l.map (Pz.shT (a+1))++(6,[41],0,a'-1)::r)):=by
 have h1:lexL (s.length+1) s (a+1)=.ok (l.map (Pz.shT (a+1))):=by have:=qet (inn:=q1r) (sgn:=sgnL) (keyw:=q5d) (rd:=rdF) (a+1) (s.length+1) s 0;rw [Int.zero_add] at this;refine Eq.trans this ?_;have h:lexP q1r sgnL q5d rdF (s.length+1) s 0=.ok l:=h;rw [h];rfl
 have h2:=z0a (keyw:=q5d) (rd:=rdF) lxp (41::y) s.length s (Nat.le_refl _) (s.length+1) f (a+1) _ (by omega) (by simp only [ze];omega) h1;refine ⟨a+1+(s.length:Int)+1+1,?_⟩;obtain ⟨f,rfl⟩:∃g,f=g+1+1:=⟨f-2,by omega⟩;rw [qxx (.inl rfl)];have h2:lexL (f+1+1) (s++10::41::y) (a+1)=eb (lexL (f+1+1) (10::41::y) (a+1+(s.length:Int))) fun r=>.ok (l.map (Pz.shT (a+1))++r):=h2;rw [h2,z29,qxx (.inr rfl)];have e:a+1+(s.length:Int)+1+1-1=a+1+(s.length:Int)+1:=by omega
 rw [e];show _=eb (lexL (f+1) y (a+1+(s.length:Int)+1+1)) _;cases lexL (f+1) y (a+1+(s.length:Int)+1+1)<;>rfl
theorem qxz {F:List Fix1} {ls:List Tk} {e e':Int} (pre post:List Tk) {t:Tk} (h6:t.1=6) (hR:t.2.1=kR) (b:Int):Emb (pcOf F ls e) (pcOf F (pre++(ls.map (Pz.shT b)++t::post)) e') pre.length where
 g i hi:=by have hi:i<ls.length:=hi;refine ⟨ls[i],Pz.shT b ls[i],zg hi,?_,rfl,rfl,rfl⟩;show (pre++(ls.map (Pz.shT b)++t::post))[i+pre.length]?=_;rw [zK (by omega),Nat.add_sub_cancel,zV (by rw [zH];exact hi),zY,zg hi];rfl
 z:=by refine ⟨t,?_,h6,hR⟩;show (pre++(ls.map (Pz.shT b)++t::post))[ls.length+pre.length]?=_;rw [zK (by omega),Nat.add_sub_cancel,zK (by rw [zH];omega),zH,Nat.sub_self];rfl
 fx:=rfl
 cl:=rfl
 le:=by show ls.length≤(pre++(ls.map (Pz.shT b)++t::post)).length;rw [zh,zh,zH];omega
theorem qo7 {F:List Fix1} {s:Tx} (h:(full F s).2.2=0) (hs:s.length≤1000) (hb:∀x,x∈s→0≤x∧x≤255):q2c F=0∧∃ls,lexL (s.length+1) s 0=.ok ls∧ls.length≤s.length∧allP (pcOf F ls (s.length:Int))=.ok (full F s).1:=by
 revert h;unfold full;by_cases hz:q2c F=0
 ·rw [if_neg (fun h=>h hz)];have hc:=qcz s hs hb;cases hr:lexL (s.length+1) s 0 with
  |error e=>rw [hr] at hc;obtain ⟨_,h3,h4⟩:=hc;intro h;have h:e.2=0:=h;omega
  |ok l=>
   rw [hr] at hc;have ho:=Pz.all_ok (qkf hz hs hc);show (tokR F l (s.length:Int)).2.2=0→_∧∃ls,_=_∧_∧allP _=.ok (tokR F l (s.length:Int)).1;unfold tokR;cases ha:allP (pcOf F l (s.length:Int)) with
   |error q=>rw [ha] at ho;obtain ⟨_,h3,h4⟩:=ho;intro h;have h:q.2=0:=h;omega
   |ok t=>
    simp only;by_cases hy:synE t=0
    ·rw [if_neg (fun h=>h hy)];exact fun _=>⟨hz,l,rfl,hc.1,ha⟩
    ·rw [if_pos hy];exact fun h=>absurd h (by decide)
 ·rw [if_pos hz];exact fun h=>absurd h hz
theorem qu7 {F:List Fix1} {s t:Tx} (hs:s.length≤300) (ht:t.length≤300) (hd:∀x,x∈s→0≤x∧x≤255) (he:∀x,x∈t→0≤x∧x≤255) (h1:(full F s).2.2=0) (h2:(full F t).2.2=0):((full F (40::(s++10::41::40::(t++[10,41])))).2.2=73∨(full F (40::(s++10::41::40::(t++[10,41])))).2.2=74)∨((full F (40::(s++10::41::40::(t++[10,41])))).2.2=0∧(full F (40::(s++10::41::40::(t++[10,41])))).1=nd 6 [] [(full F s).1,(full F t).1]):=by
 obtain ⟨hz,ls,hg,ho,hj⟩:=qo7 h1 (by omega) hd;obtain ⟨_,lt,hl,hq,hm⟩:=qo7 h2 (by omega) he;generalize hX:40::(s++10::41::40::(t++[10,41]))=X;have hn:X.length=s.length+t.length+6:=by rw [←hX];simp only [ze,zh,List.length_nil];omega
 obtain ⟨a1,g1⟩:=qxy hg (40::(t++[10,41])) X.length 0 (by simp only [ze,zh,List.length_nil] at hn ⊢;omega);rw [hX] at g1;obtain ⟨f,hf⟩:∃f,X.length-1=f+1:=⟨X.length-2,by omega⟩;obtain ⟨a2,g2⟩:=qxy hl [] f a1 (by simp only [List.length_nil];omega);rw [hf] at g1;have g2:lexL (f+1) (40::(t++[10,41])) a1=eb (lexL (f-1) [] a2) fun r=>.ok ((6,[40],0,a1)::(lt.map (Pz.shT (a1+1))++(6,[41],0,a2-1)::r)):=g2;obtain ⟨k,hk⟩:∃k,f-1=k+1:=⟨f-2,by omega⟩;rw [hk,z0q] at g2;rw [g2] at g1;have g1:lexL (X.length+1) X 0=.ok ([((6:Int),([40]:Tx),(0:Int),(0:Int))]++(ls.map (Pz.shT (0+1))++((6:Int),([41]:Tx),(0:Int),a1-1)::((6,[40],0,a1)::(lt.map (Pz.shT (a1+1))++(6,[41],0,a2-1)::[])))):=g1;have key:=z07 (c1:=pcOf F ls (s.length:Int)) (c2:=pcOf F lt (t.length:Int)) (c3:=pcOf F ([((6:Int),([40]:Tx),(0:Int),(0:Int))]++(ls.map (Pz.shT (0+1))++((6:Int),([41]:Tx),(0:Int),a1-1)::((6,[40],0,a1)::(lt.map (Pz.shT (a1+1))++(6,[41],0,a2-1)::[])))) (X.length:Int)) hj hm
  (qxz [((6:Int),([40]:Tx),(0:Int),(0:Int))] _ rfl rfl (0+1))
  (by
   have:=qxz (F:=F) (ls:=lt) (e:=(t.length:Int)) (e':=(X.length:Int)) ([((6:Int),([40]:Tx),(0:Int),(0:Int))]++(ls.map (Pz.shT (0+1))++[((6:Int),([41]:Tx),(0:Int),a1-1),(6,[40],0,a1)])) [] (t:=((6:Int),([41]:Tx),(0:Int),a2-1)) rfl rfl (a1+1);have el:([((6:Int),([40]:Tx),(0:Int),(0:Int))]++(ls.map (Pz.shT (0+1))++[((6:Int),([41]:Tx),(0:Int),a1-1),(6,[40],0,a1)])).length=(pcOf F ls (s.length:Int)).l.length+3:=by show _=ls.length+3;simp only [ze,zh,zH,List.length_nil];omega
   rw [el] at this;simpa only [zu,List.cons_append,List.nil_append] using this)
  (t:=((6:Int),([40]:Tx),(0:Int),(0:Int))) rfl rfl rfl (u:=((6:Int),([40]:Tx),(0:Int),a1)) (by
   show ([((6:Int),([40]:Tx),(0:Int),(0:Int))]++(ls.map (Pz.shT (0+1))++((6:Int),([41]:Tx),(0:Int),a1-1)::((6,[40],0,a1)::(lt.map (Pz.shT (a1+1))++(6,[41],0,a2-1)::[]))))[ls.length+2]?=_;rw [zK (by simp),zK (by simp)];simp) rfl rfl (by
   show ([((6:Int),([40]:Tx),(0:Int),(0:Int))]++(ls.map (Pz.shT (0+1))++((6:Int),([41]:Tx),(0:Int),a1-1)::((6,[40],0,a1)::(lt.map (Pz.shT (a1+1))++(6,[41],0,a2-1)::[])))).length=ls.length+lt.length+4;simp only [ze,zh,zH,List.length_nil];omega)
 have hc:full F X=tokR F ([((6:Int),([40]:Tx),(0:Int),(0:Int))]++(ls.map (Pz.shT (0+1))++((6:Int),([41]:Tx),(0:Int),a1-1)::((6,[40],0,a1)::(lt.map (Pz.shT (a1+1))++(6,[41],0,a2-1)::[])))) (X.length:Int):=by unfold full;rw [if_neg (fun h=>h hz),g1]
 rw [hc];unfold tokR;rcases key with ⟨w,hw⟩|hw
 ·rw [hw];exact .inl (.inl rfl)
 ·rw [hw];simp only;by_cases hy:synE (nd 6 [] [(full F s).1,(full F t).1])=0
  ·rw [if_neg (fun h=>h hy)];exact .inr ⟨rfl,rfl⟩
  ·rw [if_pos hy];exact .inl (.inr rfl)
theorem z2u (q:Bool) (a b:Y0) (h:a.l.length+b.l.length≤100000):f_b8 ((6,[],0,0),⟨q,[a,b]⟩,())=some (⟨false,nd 6 [] [a.l,b.l]⟩,()):=by
 rw [u_b8];have s1:l1_b8 ((⟨q,[a,b]⟩:Sl Y0),0,⟨false,[((6:Int),([]:Tx),(0:Int),lenI [a,b])]⟩,())=some (.inl ((⟨q,[a,b]⟩:Sl Y0),1,⟨false,[((6:Int),([]:Tx),(0:Int),lenI [a,b])]++a.l⟩,())):=by unfold l1_b8;simp only;have e:ltI 0 (lenI [a,b])=true:=rfl;have e2:at? [a,b] 0=some a:=rfl;rw [e,q04,e2,q00,q32 (by show ((1:Nat):Int)+((a.l.length:Nat):Int)≤_;omega),q00];rfl
 have s2:l1_b8 ((⟨q,[a,b]⟩:Sl Y0),1,⟨false,[((6:Int),([]:Tx),(0:Int),lenI [a,b])]++a.l⟩,())=some (.inl ((⟨q,[a,b]⟩:Sl Y0),2,⟨false,[((6:Int),([]:Tx),(0:Int),lenI [a,b])]++a.l++b.l⟩,())):=by
  unfold l1_b8;simp only;have e:ltI 1 (lenI [a,b])=true:=rfl;have e2:at? [a,b] 1=some b:=rfl;rw [e,q04,e2,q00,q32 (by
   show ((([((6:Int),([]:Tx),(0:Int),lenI [a,b])]++a.l).length:Nat):Int)+((b.l.length:Nat):Int)≤_;rw [zh,List.length_singleton];omega),q00]
  rfl
 have s3:l1_b8 ((⟨q,[a,b]⟩:Sl Y0),2,⟨false,[((6:Int),([]:Tx),(0:Int),lenI [a,b])]++a.l++b.l⟩,())=some (.inr (⟨false,[((6:Int),([]:Tx),(0:Int),lenI [a,b])]++a.l++b.l⟩,())):=by unfold l1_b8;simp only;have e:ltI 2 (lenI [a,b])=false:=rfl;rw [e,q02]
 refine (q0d s1).trans ((q0d s2).trans ((q05 s3).trans ?_));unfold nd;simp only [List.flatten_cons,List.flatten_nil,zo,List.cons_append,List.nil_append];rfl
theorem law_Cuts (s t:Tx) (hc:∀x,x∈s→0≤x∧x≤255) (hd:∀x,x∈t→0≤x∧x≤255) (n:Bool) (l:List Fix1) (hg:∀x,x∈l→gF x):f_law07_ParseCuts (s,t,⟨n,l⟩,())=some (true,()):=by
 rw [qbj,qm2,qcv,q00];simp only;have hT:∀(u v:Bool) (K:Bool→Option (Bool×Unit)),bnd (cnd (notB true) (some true) (some u)) (fun x1=>bnd (cnd x1 (some true) (some v)) K)=bnd (some (u||v)) K:=fun u v K=>by cases u<;>rfl
 rw [hT];obtain ⟨r,h1,h2⟩:=qbx n l (ltI 300 (lenI s)||ltI 300 (lenI t)) (some (true,())) (bnd (q14 (⟨n,l⟩,())) (fun x6=>bnd (f_au (s,x6.1,())) (fun x7=>bnd (q14 (⟨n,l⟩,())) (fun x8=>bnd (f_au (t,x8.1,())) (fun x9=>bnd (cnd (notB (eqI x7.2.2.1 0)) (some true) (some (notB (eqI x9.2.2.1 0)))) (fun x10=>bnd (cnd x10 (some true) (some (ltI 100 (addI .i64 (lenI x7.1.l) (lenI x9.1.l))))) (fun x11=>cnd x11 (some (true,())) (bnd (fit (sumI (lenI ([40]:Y2)) (lenI s))) (fun _=>bnd (fit (sumI (lenI (catS ([40]:Y2) s)) (lenI ([10,41,40]:Y2)))) (fun _=>bnd (fit (sumI (lenI (catS (catS ([40]:Y2) s) ([10,41,40]:Y2))) (lenI t))) (fun _=>bnd (fit (sumI (lenI (catS (catS (catS ([40]:Y2) s) ([10,41,40]:Y2)) t)) (lenI ([10,41]:Y2)))) (fun _=>bnd (q14 (⟨n,l⟩,())) (fun x16=>bnd (f_au (catS (catS (catS (catS ([40]:Y2) s) ([10,41,40]:Y2)) t) ([10,41]:Y2),x16.1,())) (fun x17=>cnd (notB (eqI x17.2.2.1 0)) (bnd (cnd (eqI x17.2.2.1 73) (some true) (some (eqI x17.2.2.1 74))) (fun x18=>some (x18,()))) (bnd (f_b8 ((6,([]:Y2),0,0),⟨false,([x7.1,x9.1]:List Y0)⟩,())) (fun x19=>bnd (f_b9 (x17.1,x19.1,())) (fun x20=>some (x20.1,()))))))))))))))))));refine Eq.trans h2 ?_;cases r with
 |false=>rfl
 |true=>
  obtain ⟨h3,h4,h5⟩:=h1 rfl;obtain ⟨hl,hm⟩:=Bool.or_eq_false_iff.1 h3;have hs:¬(300:Int)<((s.length:Nat):Int):=of_decide_eq_false hl;have ht:¬(300:Int)<((t.length:Nat):Int):=of_decide_eq_false hm;have he:=z0o hg h4 h5;rw [if_pos rfl,qd0 n l h4,q00];obtain ⟨b1,hf⟩:=q4x s (by omega) hc ⟨false,l⟩ he;obtain ⟨b2,hj⟩:=q4x t (by omega) hd ⟨false,l⟩ he;have ex:catS (catS (catS (catS ([40]:Y2) s) ([10,41,40]:Y2)) t) ([10,41]:Y2)=40::(s++10::41::40::(t++[10,41])):=by unfold catS;simp only [zu,List.cons_append,List.nil_append]
  have hX:(40::(s++10::41::40::(t++[10,41]))).length≤1000:=by simp only [ze,zh,List.length_nil];omega
  have hn:∀x,x∈40::(s++10::41::40::(t++[10,41]))→0≤x∧x≤255:=by rw [←ex];unfold catS;exact q7z (q7z (q7z (q7z (by decide) hc) (by decide)) hd) (by decide)
  obtain ⟨b3,hk⟩:=q4x _ hX hn ⟨false,l⟩ he;have ll:∀a:Tx,lenI a=((a.length:Nat):Int):=fun _=>rfl;simp only at hf hj hk;rw [hf,q00,q00];simp only;rw [hj,q00];simp only;rw [ex];by_cases e1:(full l s).2.2=0
  ·by_cases e2:(full l t).2.2=0
   ·rw [e1,e2,q0s];have en:cnd (notB true) (some true) (some (notB true))=some false:=rfl;rw [en,q00,q02,q00];cases ho:ltI 100 (addI .i64 (lenI (full l s).1) (lenI (full l t).1)) with
    |true=>rfl
    |false=>
     obtain ⟨k1,_⟩:=qhz l s (by omega) hc;obtain ⟨k2,_⟩:=qhz l t (by omega) hd;have l1:=(k1 e1).2.2.1;have l2:=(k2 e2).2.2.1;rw [q02,q32 (by rw [ll,ll];show (_:Int)+_≤_;simp only [ze,List.length_nil];omega),q00,q32 (by rw [ll,ll];unfold catS;show (_:Int)+_≤_;simp only [zh,ze,List.length_nil];omega),q00,
      q32 (by rw [ll,ll];unfold catS;show (_:Int)+_≤_;simp only [zh,ze,List.length_nil];omega),q00,q32 (by rw [ll,ll];unfold catS;show (_:Int)+_≤_;simp only [zh,ze,List.length_nil];omega),q00,q00]
     simp only;rw [hk,q00];simp only;rcases qu7 (F:=l) (by omega) (by omega) hc hd e1 e2 with h|⟨h,h'⟩
     ·rcases h with h|h<;>rw [h]<;>rfl
     ·rw [h,q0s,h',z2u _ _ _ (by simp only;omega),q00];simp only;rw [qkh _ _ _ (by rw [q1m];simp only [List.flatten_cons,List.flatten_nil,zo,zh];omega)];rfl
   ·have e2':=q16 e2;rw [e1,q0s,e2'];rfl
  ·have e1':=q16 e1;rw [e1'];rfl
end Fn
end Ev

namespace Ev
open Go
namespace Fn
theorem good_tx {s:List Int} (h:good .str s):∀b,b∈s→0≤b∧b≤255:=fun b hb=>by have:=h.2 b hb;omega
theorem good_gF {x:Fix1} (h:good (.st (.pair .str (.pair (.int .i64) (.int .i64)))) x):gF x:=by obtain ⟨⟨h2,h3⟩,h1,h4⟩:=h;exact ⟨fun b hb=>by have:=h3 b hb;omega,h2,inK_i64.1 h1,inK_i64.1 h4⟩
theorem good_u8 {v:Int} (h:good (.int .u8) v):0≤v∧v≤255:=inK_u8.1 h
end Fn
end Ev

