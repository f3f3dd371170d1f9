/- What is missing, and what is left, in plain words. No statement of its own about the program. -/
import Derived.Test.YtnihgcgcdjdhiaaGreatDoorPlainB
namespace Ev
open Go
namespace Fn
def cnsT (L:List DD) (T:List ND):List CT:=match L.find? (q1e (hd T).1 (hd T).2.1 (hd T).2.2.2) with
 |some d=>d.2.2.l
 |none=>[]
theorem qbd (L:List DD) (T:List ND) (c:Tx):q2d L T c=((cnsT L T).find? fun x=>eqS x.1 c).map fun c=>c.2.l.map fun a=>argT (qzy T) a.l:=by unfold q2d conV cnsT;cases L.find? (q1e (hd T).1 (hd T).2.1 (hd T).2.2.2)<;>rfl
theorem qbe {L:List DD} {T:List ND} {c:CT} (h:c∈cnsT L T):∃As,q2d L T c.1=some As:=by
 rw [qbd];cases hf:(cnsT L T).find? fun x=>eqS x.1 c.1 with
 |none=>exact absurd (q12 c.1) (List.find?_eq_none.1 hf c h)
 |some x=>exact ⟨_,rfl⟩
theorem q22 {L:List DD} {T:List ND} {t:Tx} {As:List (List ND)} (h:q2d L T t=some As):∃c,c∈cnsT L T∧c.1=t:=by
 rw [qbd] at h;cases hf:(cnsT L T).find? fun x=>eqS x.1 t with
 |none=>rw [hf] at h;cases h
 |some x=>exact ⟨x,zK hf,eqS_eq.1 (List.find?_some (p:=fun x:CT=>eqS x.1 t) hf)⟩
abbrev TD:=List ND×Nat
def at_ (d:Nat) (As:List (List ND)):List TD:=As.map fun A=>(A,d)
def tvF (L:List DD):F→List TD→Prop
 |.nil,Ts=>Ts=[]
 |.cons _ _ _ _ _,[]=>False
 |.cons k _ _ ks r,(_,0)::Ts=>(k=54∧ks=.nil)∧tvF L r Ts
 |.cons k t _ ks r,(T,d+1)::Ts=>((cnsT L T=[]∧k=51∧ks=.nil)∨(k=53∧∃As,q2d L T t=some As∧tvF L ks (at_ d As)))∧tvF L r Ts
def ptF (L:List DD):F→List TD→Prop
 |.nil,Ts=>Ts=[]
 |.cons _ _ _ _ _,[]=>False
 |.cons k t n ks r,(T,d)::Ts=>(q0l k=true∨∃d',d=d'+1∧((k=23∧t=[]∧(hd T).2.1=[105,110,116]∧cnsT L T=[])∨(k=24∧n=0∧∃As,q2d L T t=some As∧ptF L ks (at_ d' As))))∧ptF L r Ts
theorem q9c (L:List DD):∀(g:F) (Ts:List TD),tvF L g Ts→g.cnt=Ts.length
 |.nil,Ts,h=>by have h:Ts=[]:=h;subst h;rfl
 |.cons _ _ _ _ _,[],h=>h.elim
 |.cons k t n ks r,(_,0)::Ts,h=>by show r.cnt+1=_;rw [q9c L r Ts h.2];rfl
 |.cons k t n ks r,(_,d+1)::Ts,h=>by show r.cnt+1=_;rw [q9c L r Ts h.2];rfl
theorem q6s (L:List DD):∀(g:F) (Ts:List TD),ptF L g Ts→g.cnt=Ts.length
 |.nil,Ts,h=>by have h:Ts=[]:=h;subst h;rfl
 |.cons _ _ _ _ _,[],h=>h.elim
 |.cons k t n ks r,(_,d)::Ts,h=>by show r.cnt+1=_;rw [q6s L r Ts h.2];rfl
theorem q8f (L:List DD):∀(f g:F) (As Ts:List TD),f.cnt=As.length→(tvF L (f.app g) (As++Ts)↔tvF L f As∧tvF L g Ts)
 |.nil,g,[],Ts,_=>⟨fun h=>⟨rfl,h⟩,fun h=>h.2⟩
 |.nil,_,_::_,_,h=>by cases h
 |.cons _ _ _ _ _,_,[],_,h=>by cases h
 |.cons k t n ks r,g,(T,0)::As,Ts,h=>by have ih:=q8f L r g As Ts (by have h:r.cnt+1=As.length+1:=h;omega);exact ⟨fun h=>⟨⟨h.1,(ih.1 h.2).1⟩,(ih.1 h.2).2⟩,fun h=>⟨h.1.1,ih.2 ⟨h.1.2,h.2⟩⟩⟩
 |.cons k t n ks r,g,(T,d+1)::As,Ts,h=>by have ih:=q8f L r g As Ts (by have h:r.cnt+1=As.length+1:=h;omega);exact ⟨fun h=>⟨⟨h.1,(ih.1 h.2).1⟩,(ih.1 h.2).2⟩,fun h=>⟨h.1.1,ih.2 ⟨h.1.2,h.2⟩⟩⟩
theorem qfb (L:List DD):∀(f g:F) (As Ts:List TD),f.cnt=As.length→(ptF L (f.app g) (As++Ts)↔ptF L f As∧ptF L g Ts)
 |.nil,g,[],Ts,_=>⟨fun h=>⟨rfl,h⟩,fun h=>h.2⟩
 |.nil,_,_::_,_,h=>by cases h
 |.cons _ _ _ _ _,_,[],_,h=>by cases h
 |.cons k t n ks r,g,(T,d)::As,Ts,h=>by have ih:=qfb L r g As Ts (by have h:r.cnt+1=As.length+1:=h;omega);exact ⟨fun h=>⟨⟨h.1,(ih.1 h.2).1⟩,(ih.1 h.2).2⟩,fun h=>⟨h.1.1,ih.2 ⟨h.1.2,h.2⟩⟩⟩
theorem qwp (L:List DD):∀(n:Nat) (Ts:List TD),Ts.length=n→ptF L (anyF n) Ts
 |0,[],_=>rfl
 |0,_::_,h=>by cases h
 |n+1,[],h=>by cases h
 |n+1,(T,d)::Ts,h=>⟨.inl rfl,qwp L n Ts (by simpa using h)⟩
theorem q4f (d:Nat) (As:List (List ND)):(at_ d As).length=As.length:=zm _
theorem qwq (L:List DD) (d:Nat) (one:∀T,∃k t n ks,tvF L (tr k t n ks) [(T,d)]):∀As:List (List ND),∃g,tvF L g (at_ d As)
 |[]=>⟨.nil,rfl⟩
 |A::As=>by obtain ⟨k,t,n,ks,h⟩:=one A;obtain ⟨g,hg⟩:=qwq L d one As;exact ⟨(tr k t n ks).app g,(q8f L _ g [(A,d)] (at_ d As) rfl).2 ⟨h,hg⟩⟩
theorem qwr (L:List DD):∀(d:Nat) (T:List ND),∃k t n ks,tvF L (tr k t n ks) [(T,d)]
 |0,T=>⟨54,[],0,.nil,⟨rfl,rfl⟩,rfl⟩
 |d+1,T=>by
  cases hc:cnsT L T with
  |nil=>exact ⟨51,[],0,.nil,.inl ⟨hc,rfl,rfl⟩,rfl⟩
  |cons c r=>obtain ⟨As,hA⟩:=qbe (L:=L) (T:=T) (c:=c) (by rw [hc];exact ze ..);obtain ⟨g,hg⟩:=qwq L d (qwr L d) As;exact ⟨53,c.1,0,g,.inr ⟨rfl,As,hA,hg⟩,rfl⟩
theorem z12 (L:List DD):∀Ts:List TD,∃g,tvF L g Ts
 |[]=>⟨.nil,rfl⟩
 |(T,d)::Ts=>by obtain ⟨k,t,n,ks,h⟩:=qwr L d T;obtain ⟨g,hg⟩:=z12 L Ts;exact ⟨(tr k t n ks).app g,(q8f L _ g [(T,d)] Ts rfl).2 ⟨h,hg⟩⟩
theorem qws {L:List DD} {T:List ND} {d:Nat} {g:F} (h:tvF L g [(T,d)]):∃k t n ks,g=tr k t n ks:=by
 cases g with
 |nil=>cases h
 |cons k t n ks r=>
  have hr:tvF L r []:=by cases d<;>exact h.2
  cases r with
  |nil=>exact ⟨k,t,n,ks,rfl⟩
  |cons _ _ _ _ _=>exact hr.elim
theorem qwt (c:Tx) (n n':Int) (ks ks':F) (h:ks'.cnt=ks.cnt):(q2l 24 c n ks 53 c n' ks').isSome=mt ks ks':=by
 have e:q2l 24 c n ks 53 c n' ks'=bif true&&(eqS c c&&decide (ks'.cnt=ks.cnt)) then q5g ks ks' else none:=rfl
 rw [e,q12,zA h];rfl
theorem qqc {L:List DD} {T:List ND} {d:Nat} {Ts:List TD} {As:List (List ND)} {c:Tx} (hA:q2d L T c=some As) {f g:F} (h:ptF L f ((T,d+1)::Ts)) (hu:q0t c As.length f=some g):ptF L g (at_ d As++Ts):=by
 cases f with
 |nil=>cases hu
 |cons k t n ks r=>
  have hu:(bif q0l k then some ((anyF As.length).app r) else bif eqI k 24&&eqS t c then some (ks.app r) else none)=some g:=hu;cases hw:q0l k with
  |true=>
   rw [hw] at hu;injection hu with hu;subst hu
   exact (qfb L _ _ _ _ (by rw [q5v,q4f])).2 ⟨qwp L _ _ (q4f d As),h.2⟩
  |false=>
   cases hk:eqI k 24&&eqS t c with
   |false=>rw [hw,hk] at hu;cases hu
   |true=>
    rw [hw,hk] at hu;injection hu with hu;subst hu
    rw [zd] at hk;have e1:k=24:=zt hk.1;have e2:=eqS_eq.1 hk.2;subst e1 e2;rcases h.1 with h1|⟨d',e,h1⟩
    ·rw [hw] at h1;cases h1
    ·injection e with e;subst e;rcases h1 with ⟨h1,_⟩|⟨_,_,As',a1,a2⟩
     ·exact absurd h1 (by decide)
     ·rw [hA] at a1;injection a1 with a1;subst a1
      exact (qfb L _ _ _ _ (q6s L _ _ a2)).2 ⟨a2,h.2⟩
theorem qwu {L:List DD} {Z:TD} {Ts:List TD} {f g:F} (h:ptF L f (Z::Ts)) (hu:q3f f=some g):ptF L g Ts:=by
 obtain ⟨T,d⟩:=Z;cases f with
 |nil=>cases hu
 |cons k t n ks r=>
  have hu:(bif q0l k then some r else none)=some g:=hu;cases hw:q0l k with
  |false=>rw [hw] at hu;cases hu
  |true=>rw [hw] at hu;injection hu with hu;subst hu;exact h.2
theorem qwv {L:List DD} {T:List ND} {d:Nat} {Ts:List TD} {c:Tx} {f:F} (h:ptF L f ((T,d)::Ts)) (hr:q0i 24 c 0 f=true):∃d',d=d'+1:=by
 cases f with
 |nil=>cases hr
 |cons k t n ks r=>
  have hr:(eqI k 24&&(eqS t c&&eqI n 0))=true:=hr;rw [zd] at hr;have e1:k=24:=zt hr.1;subst e1;rcases h.1 with h1|⟨d',e,_⟩
  ·cases h1
  ·exact ⟨d',e⟩
def dp:F→Nat
 |.nil=>0
 |.cons k _ _ ks r=>Nat.max (bif q0l k then 0 else dp ks+1) (dp r)
theorem qh8 (d:Nat) (As:List (List ND)):(at_ d As).map (·.1)=As:=by unfold at_;rw [zW];exact List.map_id _
theorem z36 {L:List DD} (he:∀T:List ND,(hd T).2.1=[105,110,116]→cnsT L T=[]):∀(f:F) (Ts:List (List ND)) (d:Nat),f.cnt=Ts.length→f.flat.all patQ=true→ofF L f Ts=true→dp f≤d→ptF L f (at_ d Ts)
 |.nil,[],_,_,_,_,_=>rfl
 |.nil,_::_,_,h,_,_,_=>by cases h
 |.cons _ _ _ _ _,[],_,h,_,_,_=>by cases h
 |.cons k t n ks r,T::Ts,d,hc,hQ,hg,hf=>by
  have hr:=z36 he r Ts d (by have hc:r.cnt+1=Ts.length+1:=hc;omega) (all_cons hQ).2.2 (qir hg) (by
   have hf:Nat.max (bif q0l k then 0 else dp ks+1) (dp r)≤d:=hf;exact Nat.le_trans (Nat.le_max_right _ _) hf)
  refine ⟨?_,hr⟩;cases hw:q0l k with
  |true=>exact .inl rfl
  |false=>
   have hf:Nat.max (bif q0l k then 0 else dp ks+1) (dp r)≤d:=hf;rw [hw] at hf;have h1:dp ks+1≤d:=Nat.le_trans (Nat.le_max_left _ _) hf;refine .inr ⟨d-1,by omega,?_⟩;have hP:=(all_cons hQ).1;unfold patQ patP at hP;simp only [zd] at hP;have k1:(21:Int)≤k:=zt hP.1.1;have k2:k≤(24:Int):=zt hP.1.2;unfold q0l at hw;rw [Bool.or_eq_false_iff] at hw;have n21:k≠21:=fun e=>by rw [e] at hw;cases hw.1
   have n22:k≠22:=fun e=>by rw [e] at hw;cases hw.2
   by_cases e23:k=23
   ·subst e23;have h:eqS t []=true:=hP.2.1;have ho:(ofN L T 23 t ks.cnt (fun As=>ofF L ks As)&&ofF L r Ts)=true:=hg;rw [zd] at ho;have ho:eqS (hd T).2.1 [105,110,116]=true:=ho.1;exact .inl ⟨rfl,eqS_eq.1 h,eqS_eq.1 ho,he T (eqS_eq.1 ho)⟩
   ·have e24:k=24:=by omega
    subst e24;have h:eqI n 0=true:=hP.2.2;obtain ⟨As,a1,a2,a3,a4⟩:=qlg (.inl rfl) hg;exact .inr ⟨rfl,zt h,As,a1,z36 he ks As (d-1) a2.symm (all_cons hQ).2.1 a3 (by omega)⟩
theorem qnq:∀f:F,dp f≤f.size
 |.nil=>Nat.le_refl _
 |.cons k t n ks r=>by
  have h1:=qnq ks;have h2:=qnq r;show Nat.max (bif q0l k then 0 else dp ks+1) (dp r)≤ks.size+r.size+1;apply Nat.max_le.2;constructor
  ·cases q0l k
   ·show dp ks+1≤_;omega
   ·exact Nat.zero_le _
  ·omega
end Fn
end Ev

namespace Ev
open Go
namespace Fn
def bump (Z:List TD):List TD:=Z
def wN (x:ND):Prop:=(x.1=21∧x.2.1=[]∧x.2.2.1=0∧x.2.2.2=0)∨(x.1=23∧x.2.1=[]∧0≤x.2.2.1∧x.2.2.1≤1000∧x.2.2.2=0)∨(x.1=24∧q2h x.2.1=true∧x.2.2.1=0)
def qh9 (L:List DD) (Z:List TD) (fs:List F) (w:SSN) (ok:Bool):Prop:=
 (ok=true→∃W:F,RowOf w W∧W.size≤mu fs Z.length∧GL W.flat∧ptF L W (bump Z)∧(∀x,x∈W.flat→wN x)∧∀g:F,g.cnt=Z.length→mt W g=true→∀f,f∈fs→mt f g=false)∧
 (ok=false→∀g:F,tvF L g Z→∃f,f∈fs∧mt f g=true)
def qiu (s:Sl DD) (M:Nat) (self:(SSN×SR×Sl DD×Unit)→Option (SSN×Bool×Sl DD×Unit)):Prop:=∀(types:SSN) (rows:SR) (Z:List TD) (fs:List F),types.l.map Sl.l=Z.map (·.1)→RS rows fs→q5x s.l (Z.map (·.1)) fs→(∀f,f∈fs→ptF s.l f Z)→qcc (Z.map (·.1))→mu fs Z.length≤M→∃w ok,self (types,rows,s,())=some (w,ok,s,())∧qh9 s.l Z fs w ok
def NoVD (L:List DD) (Z:List TD) (fs:List F) (c:Tx):Prop:=∀(n':Int) (ks' r':F),tvF L (.cons 53 c n' ks' r') Z→∃f,f∈fs∧mt f (.cons 53 c n' ks' r')=true
theorem z05 (a b:List TD):bump (a++b)=bump a++bump b:=rfl
theorem z37 (d:Nat) (As:List (List ND)):bump (at_ d As)=at_ d As:=rfl
theorem qqd (Z:List TD):(bump Z).length=Z.length:=rfl
theorem qbf {L:List DD} (hc:L.all q0u=true) {T:List ND} {c:Tx} {As:List (List ND)} (h:q2d L T c=some As):q2h c=true:=by
 obtain ⟨x,hx,rfl⟩:=q22 h;unfold cnsT at hx;cases hd:L.find? (q1e (hd T).1 (hd T).2.1 (hd T).2.2.2) with
 |none=>rw [hd] at hx;cases hx
 |some d=>rw [hd] at hx;exact (q4d hc (zK hd) hx).1
theorem z4j {L:List DD} {c:Tx} {n':Int} {ks' r':F} {T:List ND} {D:Nat} {Z:List TD} {As:List (List ND)} (hc:q2d L T c=some As) (h:tvF L (.cons 53 c n' ks' r') ((T,D+1)::Z)):tvF L ks' (at_ D As)∧tvF L r' Z:=by
 rcases h.1 with ⟨_,h2,_⟩|⟨_,As',h2,h3⟩
 ·cases h2
 ·rw [hc] at h2;injection h2 with h2;subst h2
  exact ⟨h3,h.2⟩
theorem qww {s:Sl DD} (hL:GD s.l) (hO:s.l.all q0u=true) {M:Nat} {self:(SSN×SR×Sl DD×Unit)→Option (SSN×Bool×Sl DD×Unit)} (hq:qiu s M self) {types:SSN} {rows:SR} {fs:List F} {b:Bool} {k:Int} {t:Tx} {n:Int} {ks:F} {tl:List SN} (h6:types.l=⟨b,(tr k t n ks).flat⟩::tl) {D:Nat} {Z:List TD} {Ts:List (List ND)} (hZ:Z.map (·.1)=Ts) (hP:tl.map Sl.l=Ts) (hR:RS rows fs) (he:q5x s.l ((tr k t n ks).flat::Ts) fs) (h7:∀f,f∈fs→ptF s.l f (((tr k t n ks).flat,D+1)::Z)) (ht:qcc ((tr k t n ks).flat::Ts)) (hmu:mu fs (Ts.length+1)≤M+1) (hM:M≤8000) {d:DD} (hd:s.l.find? (q1e k t (ks.cnt:Int))=some d) {i:Nat} {c:CT} (hc:d.2.2.l[i]?=some c) (hi:i≤1000) (hA:fs.any (q0i 24 c.1 0)=true):(l1_b8 self (types,⟨b,(tr k t n ks).flat⟩,d.2.2,lenI d.2.2.l,(i:Int),s,rows,())=some (.inl (types,⟨b,(tr k t n ks).flat⟩,d.2.2,lenI d.2.2.l,((i+1:Nat):Int),s,rows,()))∧NoVD s.l (((tr k t n ks).flat,D+1)::Z) fs c.1)∨(∃w,l1_b8 self (types,⟨b,(tr k t n ks).flat⟩,d.2.2,lenI d.2.2.l,(i:Int),s,rows,())=some (.inr (w,true,s,()))∧qh9 s.l (((tr k t n ks).flat,D+1)::Z) fs w true):=by
 have hT:=ht _ (ze ..);obtain ⟨nb,al,As,ha,hQ,ho,h8,h9,hS⟩:=qdc hL hO hd hT (zn hc) b;have hB:al.length=As.length:=by rw [←hQ,zm]
 have htll:tl.length=Ts.length:=by rw [←hP,zm]
 have hC:mu fs (Ts.length+1)=20*q1h fs+(Ts.length+1):=rfl;have hD:Z.length=Ts.length:=by rw [←hZ,zm]
 have hE:(at_ D As++Z).map (·.1)=As++Ts:=by rw [zE,qh8,hZ]
 have hl:(at_ D As++Z).length=As.length+Ts.length:=by rw [zp,q4f,hD]
 obtain ⟨nb1,hz⟩:=q0r false ⟨nb,al⟩ ⟨types.nil,tl⟩ (by show al.length+tl.length≤_;omega);have hz:f_ck (⟨false,[⟨nb,al⟩,⟨types.nil,tl⟩]⟩,())=some (⟨nb1,al++tl⟩,()):=hz;have hU:∀f,f∈fs→f≠.nil:=fun f hf e=>by have:=(he.2 f hf).1;rw [e] at this;exact absurd this (by show ¬(0=Ts.length+1);omega)
 obtain ⟨rows',hV,hR'⟩:=q90 c.1 As.length (by omega) rows fs hR hU (fun f hf=>(he.2 f hf).2.1) (fun f hf=>by have:=(he.2 f hf).2.2.1;omega) he.1;have hG:=q3m (q0t c.1 As.length) (fun f g hu=>by
  cases f with
  |nil=>cases hu
  |cons k t n ks r=>
   have hu:(bif q0l k then some ((anyF As.length).app r) else bif eqI k 24&&eqS t c.1 then some (ks.app r) else none)=some g:=hu;rw [q28];cases hw:q0l k with
   |true=>rw [hw] at hu;injection hu with hu;subst hu;rw [q4k,qb9];omega
   |false=>
    cases hk:eqI k 24&&eqS t c.1 with
    |false=>rw [hw,hk] at hu;cases hu
    |true=>rw [hw,hk] at hu;injection hu with hu;subst hu;rw [q4k];omega) fs
 obtain ⟨x,hx,hxr⟩:=zJ.1 hA;have hX:=hG.2 x hx (qcb hxr);have hj:(As++Ts).length=As.length+Ts.length:=zp;have hmu2:mu (fs.filterMap (q0t c.1 As.length)) (As++Ts).length+13≤mu fs (Ts.length+1):=by rw [hj,hC];show 20*q1h (fs.filterMap _)+(As.length+Ts.length)+13≤_;omega
 have hn:q5x s.l (As++Ts) (fs.filterMap (q0t c.1 As.length)):=by refine ⟨Nat.le_trans (qf7 _ _) he.1,fun g hg=>?_⟩;obtain ⟨f,hf,hu⟩:=zL.1 hg;obtain ⟨q1,q2,q3,q4⟩:=he.2 f hf;obtain ⟨p1,p2,p3,p4,_⟩:=qf8 ho rfl q4 q2 hu;have q1:f.cnt=Ts.length+1:=q1;have q3:f.size+mu fs (Ts.length+1)≤9999:=q3;exact ⟨by omega,p2,by omega,p4⟩
 obtain ⟨w,ok,hs,hF⟩:=hq ⟨nb1,al++tl⟩ rows' (at_ D As++Z) _ (by show (al++tl).map Sl.l=_;rw [zE,hQ,hP,hE]) hR' (by rw [hE];exact hn) (fun f' hH=>by
  obtain ⟨f,hf,hu⟩:=zL.1 hH;exact qqc ho (h7 f hf) hu) (fun T h=>by
  rw [hE] at h;rcases zo.1 h with h|h
  ·exact h9 T h
  ·exact ht T (zf _ h)) (by rw [hl,←hj];omega)
 have hY:lenI al=((As.length:Nat):Int):=by unfold lenI;rw [hB]
 have hv:cutL types.l 1 (lenI types.l)=some tl:=by rw [h6];exact cut1
 have hI:=add1 (show i≤1000000000 by omega);have h0:∀(n':Int) (ks' r':F),ks'.cnt=As.length→∀f,f∈fs→mt f (.cons 53 c.1 n' ks' r')=match q0t c.1 As.length f with|some g=>mt g (ks'.app r')|none=>false:=fun n' ks' r' hk f hf=>by obtain ⟨q1,q2,q3,q4⟩:=he.2 f hf;rw [qq7 c.1 n' ks' r' f q2 (fun k t n ks r e h=>(qlh ho rfl q4 k t n ks r e h).trans hk.symm) (hU f hf),hk]<;>(cases q0t c.1 As.length f<;>rfl)
 cases ok with
 |false=>
  refine .inl ⟨?_,fun n' ks' r' g1=>?_⟩
  ·unfold l1_b8;simp only [ltG hc,q02,q05 hc,q00,ha,hv,hz,hY,hV,hs,q01,hI]
  ·obtain ⟨a3,a4⟩:=z4j ho g1;have a2:ks'.cnt=As.length:=by rw [q9c _ _ _ a3,q4f]
   obtain ⟨f',hH,hm'⟩:=hF.2 rfl (ks'.app r') ((q8f s.l _ _ _ _ (q9c _ _ _ a3)).2 ⟨a3,a4⟩);obtain ⟨f,hf,hu⟩:=zL.1 hH;refine ⟨f,hf,?_⟩;rw [h0 n' ks' r' a2 f hf,hu];exact hm'
 |true=>
  obtain ⟨W,w1,w3,w4,w6,w7,w5⟩:=hF.1 rfl;rw [z05,z37] at w6;have w2:W.cnt=(As++Ts).length:=by rw [q6s _ _ _ w6,zp,q4f,qqd,hD,hj]
  rw [hl,←hj] at w3;obtain ⟨p,q,hW,hp⟩:=W.cut2 As.length (by rw [w2,hj];omega);subst hW;rw [F.app_cnt,hj] at w2;have w6':=(qfb s.l p q (at_ D As) (bump Z) (by rw [q4f];exact hp)).1 w6;have hJ:w.l.map Sl.l=p.trees++q.trees:=by rw [←qba];exact w1
  have hwl:w.l.length=As.length+Ts.length:=by have:=congrArg List.length hJ;rw [zm,zp,F.trees_len,F.trees_len] at this;omega
  have h5:(w.l.take As.length).map Sl.l=p.trees:=by rw [List.map_take,hJ,je (by rw [F.trees_len];omega),jc (by rw [F.trees_len];omega)]
  have hdr:(w.l.drop As.length).map Sl.l=q.trees:=by rw [List.map_drop,hJ,jj (by rw [F.trees_len];omega),List.drop_of_length_le (by rw [F.trees_len];omega),List.nil_append]
  have hsz:(p.app q).size=p.size+q.size:=qbb p q;obtain ⟨nb2,hK⟩:=qb8 24 c.1 0 0 ⟨w.nil,w.l.take As.length⟩ (by show (w.l.take As.length).length≤_;rw [zU];omega) (by
   show ((w.l.take As.length).map Sl.l).flatten.length≤_;rw [h5,F.trees_flat,F.len];omega)
  have hy:(24,c.1,0,((w.l.take As.length).length:Int))::((w.l.take As.length).map Sl.l).flatten=(tr 24 c.1 0 p).flat:=by rw [h5,F.trees_flat,q2c,zU,hwl,hp,Nat.min_eq_left (by omega)]
  have hK:f_e6 ((24,c.1,0,0),⟨w.nil,w.l.take As.length⟩,())=some (⟨nb2,(tr 24 c.1 0 p).flat⟩,()):=by rw [hK];exact congrArg (fun l=>some ((⟨nb2,l⟩:SN),())) hy
  obtain ⟨nb3,hN⟩:=q0r false ⟨false,[⟨nb2,(tr 24 c.1 0 p).flat⟩]⟩ ⟨w.nil,w.l.drop As.length⟩ (by show 1+(w.l.drop As.length).length≤_;rw [jb];omega);refine .inr ⟨⟨nb3,(⟨nb2,(tr 24 c.1 0 p).flat⟩:SN)::w.l.drop As.length⟩,?_,fun _=>⟨.cons 24 c.1 0 p q,?_,?_,?_,⟨.inr ⟨D,rfl,.inr ⟨rfl,rfl,As,ho,w6'.1⟩⟩,w6'.2⟩,?_,?_⟩,fun h=>by cases h⟩
  ·unfold l1_b8;simp only [ltG hc,q02,q05 hc,q00,ha,hv,hz,hY,hV,hs,qit w.l As.length (by omega),hK,qwh w.l As.length (by omega),hN];rfl
  ·show (tr 24 c.1 0 p).flat::(w.l.drop As.length).map Sl.l=(tr 24 c.1 0 p).flat::q.trees;rw [hdr]
  ·show p.size+q.size+1≤mu fs (Z.length+1);rw [hD];omega
  ·intro x hx;have hx:x∈(24,c.1,0,(p.cnt:Int))::(p.flat++q.flat):=hx;rcases zj.1 hx with rfl|hx
   ·exact ⟨hS.1,hS.2,by show rng 0;unfold rng;omega⟩
   ·exact w4 x (by rw [F.app_flat];exact hx)
  ·intro x hx;have hx:x∈(24,c.1,0,(p.cnt:Int))::(p.flat++q.flat):=hx;rcases zj.1 hx with rfl|hx
   ·exact .inr (.inr ⟨rfl,qbf hO ho,rfl⟩)
   ·exact w7 x (by rw [F.app_flat];exact hx)
  ·intro g hg hm f hf;obtain ⟨n',ks',r',rfl,e1,e2,e3⟩:=z03 hm;have hg:r'.cnt+1=Z.length+1:=hg;have hks:ks'.cnt=As.length:=by omega
   rw [h0 n' ks' r' hks f hf];cases hu:q0t c.1 As.length f with
   |none=>rfl
   |some f'=>exact w5 (ks'.app r') (by rw [F.app_cnt,hl];omega) (by rw [q5w _ _ _ _ (by omega),e2,e3];rfl) f' (zL.2 ⟨f,hf,hu⟩)
end Fn
end Ev

namespace Ev
open Go
namespace Fn
theorem qcw (s:Sl DD) (hL:GD s.l) (b:Bool) (k:Int) (t:Tx) (n:Int) (ks:F):∃(d:DD) (o:Bool),f_b6 (s,⟨b,(tr k t n ks).flat⟩,())=some (d,o,())∧cnsT s.l (tr k t n ks).flat=d.2.2.l∧(s.l.find? (q1e k t (ks.cnt:Int))=some d∨d.2.2.l=[]):=by
 have hx:(⟨b,(tr k t n ks).flat⟩:SN).l[0]?=some (k,t,n,(ks.cnt:Int)):=rfl;have hc:cnsT s.l (tr k t n ks).flat=match s.l.find? (q1e k t (ks.cnt:Int)) with|some d=>d.2.2.l|none=>[]:=rfl
 cases hd:s.l.find? (q1e k t (ks.cnt:Int)) with
 |none=>exact ⟨_,_,q7k s hL.1 _ _ hx hd,by rw [hc,hd],.inr rfl⟩
 |some d=>exact ⟨_,_,q4w s hL.1 _ _ hx hd,by rw [hc,hd],.inl rfl⟩
theorem qdd:∀m,∀y,y∈(anyF m).flat→y=(21,[],0,0)
 |0,y,hy=>by cases hy
 |m+1,y,hy=>by
  have hy:y∈((21:Int),([]:Tx),(0:Int),(0:Int))::(([]:List ND)++(anyF m).flat):=hy;rcases zj.1 hy with rfl|hy
  ·rfl
  ·exact qdd m y hy
theorem q8g {L:List DD} {T:List ND} {D:Nat} {Z:List TD} {fs:List F} {w:SSN} {q:F} (w1:RowOf w q) (w4:GL q.flat) (w6:ptF L q (bump Z)) (w7:∀x,x∈q.flat→wN x) (w5:∀g:F,g.cnt=Z.length→mt q g=true→∀f,f∈fs.filterMap q3f→mt f g=false) (he:∀f,f∈fs→f≠.nil) {kN:Int} {tN:Tx} {nN:Int} {ksN:F} (hj:GL (tr kN tN nN ksN).flat) {m:Nat} (hm:Z.length=m) (hl:ksN.size+q.size+1≤mu fs (m+1)) (hn:ptF L (tr kN tN nN ksN) [(T,D)]) (ho:∀x,x∈(tr kN tN nN ksN).flat→wN x) (hq:∀f,f∈fs→q21 f=false→∀k' t' n' ks' r',(q2l kN tN nN ksN k' t' n' ks').isSome=true→mt f (.cons k' t' n' ks' r')=false) (nb b:Bool):qh9 L ((T,D)::Z) fs ⟨nb,(⟨b,(tr kN tN nN ksN).flat⟩:SN)::w.l⟩ true:=by
 subst hm;refine ⟨fun _=>⟨.cons kN tN nN ksN q,?_,hl,?_,(qfb L (tr kN tN nN ksN) q [(T,D)] (bump Z) rfl).2 ⟨hn,w6⟩,?_,?_⟩,fun h=>by cases h⟩
 ·show (tr kN tN nN ksN).flat::w.l.map Sl.l=(tr kN tN nN ksN).flat::q.trees;rw [show w.l.map Sl.l=q.trees from w1]
 ·intro x hx;have hx:x∈(kN,tN,nN,(ksN.cnt:Int))::(ksN.flat++q.flat):=hx;have hc:GL ((kN,tN,nN,(ksN.cnt:Int))::ksN.flat):=by rw [←q2c];exact hj
  rcases zj.1 hx with rfl|hx
  ·exact hc _ (ze ..)
  ·rcases zo.1 hx with hx|hx
   ·exact hc _ (zf _ hx)
   ·exact w4 x hx
 ·intro x hx;have hx:x∈(kN,tN,nN,(ksN.cnt:Int))::(ksN.flat++q.flat):=hx;have hc:∀x,x∈(kN,tN,nN,(ksN.cnt:Int))::ksN.flat→wN x:=by rw [←q2c];exact ho
  rcases zj.1 hx with rfl|hx
  ·exact hc _ (ze ..)
  ·rcases zo.1 hx with hx|hx
   ·exact hc _ (zf _ hx)
   ·exact w7 x hx
 ·intro g hg hm f hf;cases g with
  |nil=>cases hm
  |cons k' t' n' ks' r'=>
   rw [q1a,zd] at hm;cases hw:q21 f with
   |false=>exact hq f hf hw k' t' n' ks' r' hm.1
   |true=>
    cases f with
    |nil=>exact absurd rfl (he _ hf)
    |cons k t n ks r=>have hw:q0l k=true:=hw;have hg:r'.cnt+1=Z.length+1:=hg;rw [q1a,q1x hw,Bool.true_and];refine w5 r' (by omega) hm.2 r (zL.2 ⟨_,hf,?_⟩);show (bif q0l k then some r else none)=_;rw [hw];rfl
theorem qlk {s:Sl DD} {self:(SSN×SR×Sl DD×Unit)→Option (SSN×Bool×Sl DD×Unit)} {types:SSN} {rows:SR} {fs:List F} (he:types.l=[]) (hR:RS rows fs) (hc:q5x s.l [] fs):∃w ok,g_b8 self (types,rows,s,())=some (w,ok,s,())∧qh9 s.l [] fs w ok:=by
 obtain ⟨tn,tl⟩:=types;have he:tl=[]:=he;subst he;refine ⟨⟨true,[]⟩,eqI (lenI rows.l) 0,?_,?_,?_⟩
 ·rw [u_b8];rfl
 ·intro h;have h0:(rows.l.length:Int)=0:=zt h;have hl:=hR.len;have:fs=[]:=zD (by omega);subst this;exact ⟨.nil,rfl,Nat.zero_le _,(fun x hx=>by cases hx),rfl,(fun x hx=>by cases hx),fun g _ _ f hf=>by cases hf⟩
 ·intro h g hg;have hg:=q9c _ _ _ hg;cases fs with
  |nil=>have hl:=hR.len;have hl:rows.l.length=0:=hl;unfold lenI at h;rw [hl] at h;cases h
  |cons f fs=>
   refine ⟨f,ze ..,?_⟩;have h1:f.cnt=0:=(hc.2 f (ze ..)).1;have h2:g.cnt=0:=hg;cases f with
   |cons k t n ks r=>exact absurd h1 (by show ¬(r.cnt+1=0);omega)
   |nil=>cases g with
    |cons k t n ks r=>exact absurd h2 (by show ¬(r.cnt+1=0);omega)
    |nil=>rfl
theorem qsj {s:Sl DD} (hL:GD s.l) (hW:s.l.all q0u=true) (hX:∀d,d∈s.l→∀c:CT,c∈d.2.2.l→d.2.2.l.find? (fun x=>eqS x.1 c.1)=some c) {M:Nat} {self:(SSN×SR×Sl DD×Unit)→Option (SSN×Bool×Sl DD×Unit)} (hq:qiu s M self) (hM:M≤8000):qiu s (M+1) (g_b8 self):=by
 intro types rows Z0 fs hE hR he hG hn hH;cases ht:types.l with
 |nil=>
  rw [ht] at hE;have:Z0=[]:=by
   cases Z0 with
   |nil=>rfl
   |cons z Z=>cases hE
  subst this;exact qlk ht hR he
 |cons T0 tl=>
  rw [ht] at hE;obtain ⟨b,T⟩:=T0;obtain ⟨T',D,Z,rfl⟩:∃T' D Z,Z0=(T',D)::Z:=by
   cases Z0 with
   |nil=>cases hE
   |cons z Z=>exact ⟨z.1,z.2,Z,rfl⟩
  injection hE with hV hT2;have hV:T=T':=hV;subst hV;replace he:q5x s.l (T::Z.map (·.1)) fs:=he;replace hn:qcc (T::Z.map (·.1)):=hn;clear hV;obtain ⟨k,t,n,ks,rfl⟩:=((q20 T).1 (hn T (ze ..))).2.2;replace hH:mu fs (Z.length+1)≤M+1:=hH;generalize hZ:Z.map (·.1)=Ts at*
  have hY:tl.map Sl.l=Ts:=hT2;have hv:Z.length=Ts.length:=by rw [←hZ,zm]
  replace hH:mu fs (Ts.length+1)≤M+1:=by rw [←hv];exact hH
  have htll:tl.length=Ts.length:=by rw [←hY,zm]
  have hI:mu fs (Ts.length+1)=20*q1h fs+(Ts.length+1):=rfl;have hy:∀f,f∈fs→f≠.nil:=fun f hf e=>by have:=(he.2 f hf).1;rw [e] at this;exact absurd this (by show ¬(0=Ts.length+1);omega)
  have hQ:∀f,f∈fs→f.flat.all patQ=true:=fun f hf=>(he.2 f hf).2.1;obtain ⟨d,o,h5,ho,hd⟩:=qcw s hL b k t n ks;have hcs:d.2.2.l.length≤1000:=by
   rcases hd with hd|hd
   ·exact (hL.2 d (zK hd)).2.1
   ·rw [hd];exact Nat.zero_le _
  have hop:=qlf d.2.2 hcs rows fs hR hy he.1;have hn0:eqI (lenI types.l) 0=false:=q2u (by rw [ht];show ((tl.length+1:Nat):Int)≠0;omega);have ha0:at? types.l 0=some ⟨b,(tr k t n ks).flat⟩:=by rw [ht];rfl
  have h6:cutL types.l 1 (lenI types.l)=some tl:=by rw [ht];exact cut1
  rw [u_b8];simp only [hn0,q01,ha0,q00,h5,hop];by_cases hA:ltI 0 (lenI d.2.2.l)=true∧(d.2.2.l.any fun c:CT=>!fs.any (q0i 24 c.1 0))=false
  ·
   obtain ⟨hz,hJ⟩:=hA;have hd:s.l.find? (q1e k t (ks.cnt:Int))=some d:=by
    rcases hd with hd|hd
    ·exact hd
    ·rw [hd] at hz;cases hz
   have hx:ltI (ixP (fun c:CT=>!fs.any (q0i 24 c.1 0)) 0 d.2.2.l) 0=true:=by rw [qps,hJ];rfl
   simp only [hz,q02,hx,q00];obtain ⟨D',rfl⟩:∃D',D=D'+1:=by
    cases hC:d.2.2.l with
    |nil=>rw [hC] at hz;cases hz
    |cons c0 r0=>
     have hb0:fs.any (q0i 24 c0.1 0)=true:=by
      cases hb:fs.any (q0i 24 c0.1 0) with
      |true=>rfl
      |false=>rw [zJ.2 ⟨c0,by rw [hC];exact ze ..,by rw [hb];rfl⟩] at hJ;cases hJ
     obtain ⟨f,hf,hr⟩:=zJ.1 hb0;exact qwv (hG f hf) hr
   have:=q1d (f:=l1_b8 self) (I:=fun z=>∃i:Nat,z=(types,⟨b,(tr k t n ks).flat⟩,d.2.2,lenI d.2.2.l,(i:Int),s,rows,())∧i≤d.2.2.l.length∧∀(j:Nat) c,j<i→d.2.2.l[j]?=some c→NoVD s.l (((tr k t n ks).flat,D'+1)::Z) fs c.1)
    (Q:=fun r=>∃w ok,r=(w,ok,s,())∧qh9 s.l (((tr k t n ks).flat,D'+1)::Z) fs w ok) (fun z=>((d.2.2.l.length:Int)-z.2.2.2.2.1).toNat) ?_ (types,⟨b,(tr k t n ks).flat⟩,d.2.2,lenI d.2.2.l,0,s,rows,()) ⟨0,rfl,Nat.zero_le _,fun j c hj=>by omega⟩
   ·obtain ⟨r,h1,w,ok,h2,h3⟩:=this;exact ⟨w,ok,by rw [h1,h2],h3⟩
   ·rintro z ⟨i,rfl,hi,hK⟩;by_cases h1:i<d.2.2.l.length
    ·obtain ⟨c,hc⟩:∃c,d.2.2.l[i]?=some c:=⟨_,zh h1⟩;have h7:fs.any (q0i 24 c.1 0)=true:=by
      cases hb:fs.any (q0i 24 c.1 0) with
      |true=>rfl
      |false=>rw [zJ.2 ⟨c,zn hc,by rw [hb];rfl⟩] at hJ;cases hJ
     rcases qww hL hW hq ht hZ hY hR he hG hn hH hM hd hc (by omega) h7 with ⟨g1,g2⟩|⟨w,g1,g2⟩
     ·refine .inl ⟨_,g1,⟨i+1,rfl,h1,fun j c' hj hN=>?_⟩,by simp only;omega⟩;by_cases hji:j=i
      ·subst hji;rw [hc] at hN;injection hN with hN;subst hN
       exact g2
      ·exact hK j c' (by omega) hN
     ·exact .inr ⟨_,g1,w,true,rfl,g2⟩
    ·obtain rfl:i=d.2.2.l.length:=by omega
     refine .inr ⟨(⟨true,[]⟩,false,s,()),?_,_,_,rfl,fun h=>(by cases h),fun _ g hg=>?_⟩
     ·unfold l1_b8;simp only [ltE,q01]
     ·cases g with
      |nil=>cases hg
      |cons k' t' n' ks' r'=>
       rcases hg.1 with ⟨h1,_⟩|⟨rfl,As,h2,h3⟩
       ·rw [ho] at h1;rw [h1] at hz;cases hz
       ·obtain ⟨c,hc,rfl⟩:=q22 h2;rw [ho] at hc;obtain ⟨j,hj,hje⟩:=jd.1 hc;exact hK j c hj (by rw [zh hj,hje]) n' ks' r' hg
  ·
   have hD:bnd (cnd (ltI 0 (lenI d.2.2.l)) (some (ltI (ixP (fun c:CT=>!fs.any (q0i 24 c.1 0)) 0 d.2.2.l) 0)) (some false)) (fun x3=>some x3)=some false:=by
    cases h0:ltI 0 (lenI d.2.2.l) with
    |false=>rfl
    |true=>
     rw [qps];cases h1:d.2.2.l.any fun c:CT=>!fs.any (q0i 24 c.1 0) with
     |true=>rfl
     |false=>exact absurd ⟨h0,h1⟩ hA
   have hD:cnd (ltI 0 (lenI d.2.2.l)) (some (ltI (ixP (fun c:CT=>!fs.any (q0i 24 c.1 0)) 0 d.2.2.l) 0)) (some false)=some false:=by
    cases h:cnd (ltI 0 (lenI d.2.2.l)) (some (ltI (ixP (fun c:CT=>!fs.any (q0i 24 c.1 0)) 0 d.2.2.l) 0)) (some false) with
    |none=>rw [h] at hD;cases hD
    |some y=>rw [h] at hD;exact hD
   obtain ⟨rows',hO,hR'⟩:=qf5 rows fs hR hy he.1;have hP:=q3m q3f (fun f g hu=>by
    cases f with
    |nil=>cases hu
    |cons k t n ks r=>
     have hu:(bif q0l k then some r else none)=some g:=hu;rw [q28];cases hw:q0l k with
     |true=>rw [hw] at hu;injection hu with hu;subst hu;omega
     |false=>rw [hw] at hu;cases hu) fs
   have hmu2:mu (fs.filterMap q3f) Ts.length+1≤mu fs (Ts.length+1):=by rw [hI];show 20*q1h (fs.filterMap q3f)+Ts.length+1≤_;have:=hP.1;omega
   have hB:q5x s.l Ts (fs.filterMap q3f):=by refine ⟨Nat.le_trans (qf7 _ _) he.1,fun g hg=>?_⟩;obtain ⟨f,hf,hu⟩:=zL.1 hg;obtain ⟨q1,q2,q3,q4⟩:=he.2 f hf;obtain ⟨p1,p2,p3,p4,_⟩:=qis q4 q2 hu;have q1:f.cnt=Ts.length+1:=q1;have q3:f.size+mu fs (Ts.length+1)≤9999:=q3;exact ⟨by omega,p2,by omega,p4⟩
   obtain ⟨w,ok,hs,hF⟩:=hq ⟨types.nil,tl⟩ rows' Z _ (by rw [hZ];exact hY) hR' (by rw [hZ];exact hB) (fun f' h9=>by obtain ⟨f,hf,hu⟩:=zL.1 h9;exact qwu (hG f hf) hu) (by rw [hZ];exact fun T h=>hn T (zf _ h)) (by rw [hv];omega);have hC:=qf3 rows fs hR hy he.1;simp only [hD,q00,q01,h6,hO,hs];cases ok with
   |false=>
    simp only [nF,q02];refine ⟨_,_,rfl,(fun h=>by cases h),fun _ g hg=>?_⟩;cases g with
    |nil=>cases hg
    |cons k' t' n' ks' r'=>
     have hg2:tvF s.l r' Z:=by cases D<;>exact hg.2
     obtain ⟨f',h9,hm'⟩:=hF.2 rfl r' hg2;obtain ⟨f,hf,hu⟩:=zL.1 h9;refine ⟨f,hf,?_⟩;cases f with
     |nil=>cases hu
     |cons kf tf nf ksf rf=>
      have hu:(bif q0l kf then some rf else none)=some f':=hu;cases hw:q0l kf with
      |false=>rw [hw] at hu;cases hu
      |true=>
       rw [hw] at hu;injection hu with hu;subst hu
       rw [q1a,q1x hw,Bool.true_and];exact hm'
   |true=>
    obtain ⟨q,w1,w3,w4,w6,w7,w5⟩:=hF.1 rfl;have w2:q.cnt=Ts.length:=by rw [q6s _ _ _ w6,qqd,hv]
    rw [hv] at w3;have hwl:w.l.length=Ts.length:=by have:=congrArg List.length (show w.l.map Sl.l=q.trees from w1);rw [zm,F.trees_len] at this;omega
    simp only [nT,q01,u_b3,q00,hC];cases hc:fs.any fun f=>!q21 f with
    |false=>
     obtain ⟨nb3,hS⟩:=q0r false ⟨false,[⟨false,[((21:Int),([]:Tx),(0:Int),(0:Int))]⟩]⟩ w (by show 1+w.l.length≤_;omega);simp only [nF,q02,q00,qli,hS];refine ⟨_,_,rfl,q8g (T:=(tr k t n ks).flat) (kN:=21) (tN:=[]) (nN:=0) (ksN:=.nil) w1 w4 w6 w7 w5 hy ?_ hv ?_ ?_ ?_ ?_ nb3 false⟩
     ·exact gAny
     ·show 0+q.size+1≤_;omega
     ·exact ⟨.inl rfl,rfl⟩
     ·intro x hx;rw [q2c] at hx;rcases zj.1 hx with rfl|hx
      ·exact .inl ⟨rfl,rfl,rfl,rfl⟩
      ·cases hx
     ·intro f hf hw;rw [zJ.2 ⟨f,hf,by rw [hw];rfl⟩] at hc;cases hc
    |true=>
     obtain ⟨x,hx,hl⟩:=zJ.1 hc;have hl:q21 x=false:=by
      cases h:q21 x with
      |false=>rfl
      |true=>rw [h] at hl;cases hl
     have hless:=hP.2 x hx (qf9 hl);have hmu3:mu (fs.filterMap q3f) Ts.length+21≤mu fs (Ts.length+1):=by rw [hI];show 20*q1h (fs.filterMap q3f)+Ts.length+21≤_;omega
     simp only [nT,q01];cases h0:ltI 0 (lenI d.2.2.l) with
     |true=>
      have hany:d.2.2.l.any (fun c:CT=>!fs.any (q0i 24 c.1 0))=true:=by
       cases h1:d.2.2.l.any fun c:CT=>!fs.any (q0i 24 c.1 0) with
       |true=>rfl
       |false=>exact absurd ⟨h0,h1⟩ hA
      obtain ⟨i,c,i1,i2,i3,_⟩:=q9z _ d.2.2.l 0 hany;rw [zN] at i1;have hd:s.l.find? (q1e k t (ks.cnt:Int))=some d:=by
       rcases hd with hd|hd
       ·exact hd
       ·rw [hd] at h0;cases h0
      have hm:=zK hd;have hT:=zn i2;have h8:c.2.l.length≤8:=(q4d hW hm hT).2.1;have hgc:=((hL.2 d hm).2.2 c hT).1;have hno:fs.any (q0i 24 c.1 0)=false:=by
       have i3:(!fs.any (q0i 24 c.1 0))=true:=i3;cases h:fs.any (q0i 24 c.1 0) with
       |false=>rfl
       |true=>rw [h] at i3;cases i3
      obtain ⟨nbs,hsm⟩:=q8e c.2.l.length (by omega);have hsm:f_bp (lenI c.2.l,())=some (⟨nbs,List.replicate c.2.l.length anyS⟩,()):=hsm;have htr:(List.replicate c.2.l.length anyS).map Sl.l=(anyF c.2.l.length).trees:=by rw [q6q,List.map_replicate];rfl
      obtain ⟨nbm,hmk⟩:=qb8 24 c.1 0 0 ⟨nbs,List.replicate c.2.l.length anyS⟩ (by show (List.replicate _ _).length≤_;rw [List.length_replicate];omega) (by
       show ((List.replicate _ _).map Sl.l).flatten.length≤_;rw [htr,F.trees_flat,F.len,q6r];omega)
      have hU:(24,c.1,0,((List.replicate c.2.l.length anyS).length:Int))::((List.replicate c.2.l.length anyS).map Sl.l).flatten=(tr 24 c.1 0 (anyF c.2.l.length)).flat:=by rw [htr,F.trees_flat,q2c,List.length_replicate,q5v]
      have hmk:f_e6 ((24,c.1,0,0),⟨nbs,List.replicate c.2.l.length anyS⟩,())=some (⟨nbm,(tr 24 c.1 0 (anyF c.2.l.length)).flat⟩,()):=by rw [hmk];exact congrArg (fun l=>some ((⟨nbm,l⟩:SN),())) hU
      obtain ⟨nb3,hS⟩:=q0r false ⟨false,[⟨nbm,(tr 24 c.1 0 (anyF c.2.l.length)).flat⟩]⟩ w (by show 1+w.l.length≤_;omega);simp only [q02,i1,q05 i2,q00,hsm,hmk,qli,hS];refine ⟨_,_,rfl,q8g (T:=(tr k t n ks).flat) (kN:=24) (tN:=c.1) (nN:=0) (ksN:=anyF c.2.l.length) w1 w4 w6 w7 w5 hy ?_ hv ?_ ?_ ?_ (qh5 hQ hno) nb3 nbm⟩
      ·intro x hx;rw [q2c] at hx;rcases zj.1 hx with rfl|hx
       ·exact ⟨hgc.1,hgc.2,by show rng 0;unfold rng;omega⟩
       ·rw [qdd _ x hx];exact gAny _ (zu.2 rfl)
      ·rw [q6r];omega
      ·have hcm2:c∈cnsT s.l (tr k t n ks).flat:=by rw [ho];exact hT
       obtain ⟨As,hAs⟩:=qbe hcm2;have hlA:As.length=c.2.l.length:=by have h1:=hAs;rw [qbd,ho] at h1;have h2:=hX d hm c hT;rw [h2] at h1;injection h1 with h1;rw [←h1,zm]
       obtain ⟨D',hD'⟩:∃D',D=D'+1:=by
        have hx0:=hG x hx;cases x with
        |nil=>cases hl
        |cons kx tx nx ksx rx=>
         have hl:q0l kx=false:=hl;rcases hx0.1 with h1|⟨d',e,_⟩
         ·rw [hl] at h1;cases h1
         ·exact ⟨d',e⟩
       exact ⟨.inr ⟨D',hD',.inr ⟨rfl,rfl,As,hAs,qwp _ _ _ (by rw [q4f];exact hlA)⟩⟩,rfl⟩
      ·intro x hx;rw [q2c] at hx;rcases zj.1 hx with rfl|hx
       ·exact .inr (.inr ⟨rfl,(q4d hW hm hT).1,rfl⟩)
       ·rw [qdd _ x hx];exact .inl ⟨rfl,rfl,rfl,rfl⟩
     |false=>
      obtain ⟨N,n1,n2,n3⟩:=qq9 s w rows fs hR hy he.1;obtain ⟨nb3,hS⟩:=q0r false ⟨false,[⟨false,[((23:Int),([]:Tx),(N:Int),(0:Int))]⟩]⟩ w (by show 1+w.l.length≤_;omega);simp only [q01,n3,q00,qli,hS];refine ⟨_,_,rfl,q8g (T:=(tr k t n ks).flat) (kN:=23) (tN:=[]) (nN:=(N:Int)) (ksN:=.nil) w1 w4 w6 w7 w5 hy ?_ hv ?_ ?_ ?_ (qh6 hQ n2) nb3 false⟩
      ·intro x hx;rw [q2c] at hx;rcases zj.1 hx with rfl|hx
       ·exact ⟨fun b hb=>(by cases hb),Nat.zero_le _,by show rng (N:Int);unfold rng;omega⟩
       ·cases hx
      ·show 0+q.size+1≤_;omega
      ·have hx0:=hG x hx;have hcn0:d.2.2.l=[]:=by
        cases hC:d.2.2.l with
        |nil=>rfl
        |cons c0 r0=>rw [hC] at h0;exact absurd h0 (by show ¬(ltI 0 ((r0.length+1:Nat):Int)=false);rw [show ltI 0 ((r0.length+1:Nat):Int)=true from zA (by omega)];exact Bool.noConfusion)
       cases x with
       |nil=>cases hl
       |cons kx tx nx ksx rx=>
        rcases hx0.1 with h1|⟨d',rfl,⟨_,_,h2,h3⟩|⟨_,_,As,h2,_⟩⟩
        ·have hl:q0l kx=false:=hl;rw [hl] at h1;cases h1
        ·exact ⟨.inr ⟨d',rfl,.inl ⟨rfl,rfl,h2,h3⟩⟩,rfl⟩
        ·obtain ⟨c0,hc0,_⟩:=q22 h2;rw [ho,hcn0] at hc0;cases hc0
      ·intro x hx;rw [q2c] at hx;rcases zj.1 hx with rfl|hx
       ·exact .inr (.inl ⟨rfl,rfl,by show (0:Int)≤(N:Int);omega,by show (N:Int)≤1000;omega,rfl⟩)
       ·cases hx
end Fn
end Ev

namespace Ev
open Go
namespace Fn
theorem qiv:∀(a b:List Tx),dupL (a++b)=false→dupL a=false∧dupL b=false
 |[],b,h=>⟨rfl,h⟩
 |x::a,b,h=>by
  have h1:=qw8 (n:=x) (l:=a++b) h;have h2:=qiv a b h1.2;refine ⟨?_,h2.2⟩;cases hd:dupL (x::a) with
  |false=>rfl
  |true=>
   exfalso;unfold dupL at hd;rw [Bool.or_eq_true] at hd;rcases hd with hd|hd
   ·refine h1.1 (zo.2 (.inl ?_))
    first|exact zt hd|(obtain ⟨y,hy,hc⟩:=zJ.1 hd;rw [eqS_eq.1 hc] at hy;exact hy)|(simp at hd;exact hd)
   ·rw [h2.1] at hd;cases hd
theorem qha:∀(l:List CT),dupL (l.map fun c=>c.1)=false→∀c,c∈l→l.find? (fun x=>eqS x.1 c.1)=some c
 |[],_,c,h=>by cases h
 |x::l,hd,c,h=>by
  have h1:=qw8 (n:=x.1) (l:=l.map fun c:CT=>c.1) hd;rcases zj.1 h with rfl|h
  ·exact jh (p:=fun x:CT=>eqS x.1 c.1) (q12 _)
  ·have:eqS x.1 c.1=false:=by
    cases he:eqS x.1 c.1 with
    |false=>rfl
    |true=>exact absurd (by rw [eqS_eq.1 he];exact zR.2 ⟨c,h,rfl⟩) h1.1
   rw [ji (by rw [this];exact zZ)];exact qha l h1.2 c h
theorem qhb:∀(L:List DD),dupL (q68 L)=false→∀d,d∈L→∀c:CT,c∈d.2.2.l→d.2.2.l.find? (fun x=>eqS x.1 c.1)=some c
 |[],_,d,h=>by cases h
 |x::L,hd,d,h=>by
  have hd:dupL ((x.2.2.l.map fun c=>c.1)++q68 L)=false:=hd;have h1:=qiv _ _ hd;rcases zj.1 h with rfl|h
  ·exact qha _ h1.1
  ·exact qhb L h1.2 d h
theorem qwx {s:Sl DD} (hL:GD s.l) (hf:s.l.all q0u=true) (hc:dupL (q68 s.l)=false):∀M,M≤8000→qiu s M (recN g_b8 (M+1))
 |0,_=>by
  intro types rows Z fs hT hR he hl hg hj;have h0:Z.length=0:=by unfold mu at hj;omega
  have:Z=[]:=zD h0;subst this;exact qlk (List.map_eq_nil_iff.1 hT) hR he
 |M+1,h=>qsj hL hf (qhb s.l hc) (qwx hL hf hc M (by omega)) (by omega)
theorem qsk {s:Sl DD} (hL:GD s.l) (hg:s.l.all q0u=true) (he:dupL (q68 s.l)=false) {types:SSN} {rows:SR} {Z:List TD} {fs:List F} (hT:types.l.map Sl.l=Z.map (·.1)) (hR:RS rows fs) (hc:q5x s.l (Z.map (·.1)) fs) (hj:∀f,f∈fs→ptF s.l f Z) (hf:qcc (Z.map (·.1))) (hl:mu fs Z.length≤8000):∃w ok,f_b8 (types,rows,s,())=some (w,ok,s,())∧qh9 s.l Z fs w ok:=by obtain ⟨w,ok,h,hF⟩:=qwx hL hg he 8000 (Nat.le_refl _) types rows Z fs hT hR hc hj hf hl;refine ⟨w,ok,q7c 8001 fun n hn=>?_,hF⟩;obtain ⟨k,rfl⟩:=Nat.le.dest hn;exact qnp h k
end Fn
end Ev

namespace Ev
open Go
namespace Fn
theorem qll (L:List DD):∀(f:F) (Z:List TD),ptF L f Z→ofF L f (Z.map (·.1))=true
 |.nil,Z,h=>by have h:Z=[]:=h;subst h;rfl
 |.cons _ _ _ _ _,[],h=>h.elim
 |.cons k t n ks r,(T,d)::Z,h=>by
  show (ofN L T k t ks.cnt (fun As=>ofF L ks As)&&ofF L r (Z.map (·.1)))=true;rw [qll L r Z h.2,Bool.and_true];rcases h.1 with h1|⟨d',rfl,⟨rfl,rfl,h2,_⟩|⟨rfl,rfl,As,h2,h3⟩⟩
  ·have h1:(eqI k 21||eqI k 22)=true:=h1;unfold ofN;rw [h1];rfl
  ·show eqS (hd T).2.1 [105,110,116]=true;rw [h2];rfl
  ·have h4:=qll L ks (at_ d' As) h3;rw [qh8] at h4;have h5:=q6s _ _ _ h3;rw [q4f] at h5;rw [qwg L T 24 (.inl rfl),h2];show (decide (As.length=ks.cnt)&&ofF L ks As)=true;rw [h4,zA h5.symm];rfl
theorem qwy {k:Int} {t:Tx} {n:Int} {c:Int} (h:wN (k,t,n,c)) (hk:Int):q1o k t n c hk true=0:=by
 rw [nodeE_zero];rcases h with ⟨h1,h2,h3,h4⟩|⟨h1,h2,h3,h4,h5⟩|⟨h1,h2,h3⟩
 ·have h1:k=21:=h1;have h2:t=[]:=h2;have h3:n=0:=h3;have h4:c=0:=h4;subst h1 h2 h3 h4;exact ⟨rfl,rfl,rfl,rfl,rfl,rfl⟩
 ·have h1:k=23:=h1;have h2:t=[]:=h2;have h3:0≤n:=h3;have h4:n≤1000:=h4;have h5:c=0:=h5;subst h1 h2 h5;refine ⟨rfl,rfl,rfl,?_,rfl,rfl⟩;show q8c n=true;exact zA (by omega)
 ·have h1:k=24:=h1;have h2:q2h t=true:=h2;have h3:n=0:=h3;subst h1 h3;refine ⟨rfl,rfl,rfl,rfl,?_,rfl⟩;unfold ql2;have e:q7j 24=2:=rfl;rw [e,h2];rfl
theorem qiw {k:Int} {t:Tx} {n:Int} {ks r:F} (h:∀x,x∈(F.cons k t n ks r).flat→wN x):wN (k,t,n,(ks.cnt:Int))∧(∀x,x∈ks.flat→wN x)∧∀x,x∈r.flat→wN x:=by have h:∀x,x∈(k,t,n,(ks.cnt:Int))::(ks.flat++r.flat)→wN x:=h;exact ⟨h _ (ze ..),fun x hx=>h x (zf _ (zo.2 (.inl hx))),fun x hx=>h x (zf _ (zo.2 (.inr hx)))⟩
theorem qwz:∀(f:F) (m odd:Bool),(∀x,x∈f.flat→wN x)→errF m true odd f=0
 |.nil,m,odd,_=>qpp m true odd
 |.cons k t n ks r,m,odd,h=>by obtain ⟨h1,h2,h3⟩:=qiw h;rw [errF_ok,Bool.true_or,errT_ok];exact ⟨⟨qwy h1 _,qwz ks _ _ h2⟩,qwz r m _ h3⟩
theorem qnr:∀f:F,(∀x,x∈f.flat→wN x)→qne f=[]
 |.nil,_=>rfl
 |.cons k t n ks r,h=>by obtain ⟨h1,h2,h3⟩:=qiw h;rw [q8y,qnr r h3,zG];unfold ql1;rw [qnr ks h2];rcases h1 with ⟨h1,_⟩|⟨h1,_⟩|⟨h1,_⟩<;>(have h1:k=_:=h1;subst h1;rfl)
theorem qx0 (L:List DD) (D:Nat):∀(f:F) (Z:List TD),ptF L f Z→(∀x,x∈f.flat→wN x)→(∀z,z∈Z→z.2≤D)→f.dep≤D+1
 |.nil,_,_,_,_=>Nat.zero_le _
 |.cons _ _ _ _ _,[],h,_,_=>h.elim
 |.cons k t n ks r,(T,d)::Z,h,hw,hz=>by
  obtain ⟨h1,h2,h3⟩:=qiw hw;have hr:=qx0 L D r Z h.2 h3 fun z hc=>hz z (zf _ hc);have hd:d≤D:=hz _ (ze ..);have hk:ks.dep≤D:=by
   have nil0:(ks.cnt:Int)=0→ks.dep≤D:=fun e=>by rw [qd9 e];exact Nat.zero_le _
   rcases h1 with ⟨_,_,_,h4⟩|⟨_,_,_,_,h4⟩|⟨h4,_,_⟩
   ·exact nil0 h4
   ·exact nil0 h4
   ·have h4:k=24:=h4;subst h4;rcases h.1 with h5|⟨d',e,⟨h5,_⟩|⟨_,_,As,_,h6⟩⟩
    ·cases h5
    ·cases h5
    ·have:=qx0 L d' ks (at_ d' As) h6 h2 fun z hc=>by obtain ⟨A,_,rfl⟩:=zR.1 hc;exact Nat.le_refl _
     omega
  show max (ks.dep+1) r.dep≤D+1;exact Nat.max_le.2 ⟨by omega,hr⟩
theorem witness {L:List DD} {T:List ND} {d:Nat} {k:Int} {t:Tx} {n:Int} {ks:F} (hd:d≤90) (h:ptF L (tr k t n ks) [(T,d)]) (hw:∀x,x∈(tr k t n ks).flat→wN x):qa4 L T (tr k t n ks).flat:=by
 obtain ⟨h1,h2,_⟩:=qiw hw;have hc:=qx0 L d _ _ h hw (fun z hz=>by
  rcases zj.1 hz with rfl|hz
  ·exact Nat.le_refl _
  ·cases hz)
 have hc:max (ks.dep+1) 0≤d+1:=hc;have hc:ks.dep+1≤d+1:=Nat.le_trans (Nat.le_max_left _ _) hc;refine ⟨k,t,n,ks,rfl,chkT_ok.2 ⟨by omega,errT_ok.2 ⟨qwy h1 _,qwz ks _ _ h2⟩,?_⟩,qll L _ _ h⟩;have hv:ql1 k t ks=[]:=by have:=qnr (tr k t n ks) hw;rw [q8y] at this;exact (List.append_eq_nil_iff.1 this).1
 unfold twT;have hp:q3k k=true:=by rcases h1 with ⟨h1,_⟩|⟨h1,_⟩|⟨h1,_⟩<;>(have h1:k=_:=h1;subst h1;rfl)
 rw [hp,hv];rfl
end Fn
end Ev

namespace Ev
open Go
namespace Fn
abbrev RA:=SN×Tx×Int×Sl Int
abbrev RO:=Rose RA
def RO.T (r:RO):List ND:=r.x.1.l
def RO.con (r:RO):Tx:=r.x.2.1
def RO.num (r:RO):Int:=r.x.2.2.1
def RO.nt (r:RO):List Int:=r.x.2.2.2.l
def RO.kids (r:RO):List RO:=r.s.l
abbrev SD:=RO×Nat
def on_ (d:Nat) (K:List RO):List SD:=K.map fun k=>(k,d)
theorem qfc (d:Nat) (K:List RO):(on_ d K).length=K.length:=zm _
theorem qqe (d:Nat) (K J:List RO):on_ d (K++J)=on_ d K++on_ d J:=zE
inductive Wf (L:List DD):Nat→RO→Prop
 |any (d:Nat) (r:RO) (h:r.con=[]) (h2:cnsT L r.T≠[]→r.nt=[]):Wf L d r
 |num (d:Nat) (r:RO) (h:r.con=[35]) (h2:cnsT L r.T=[]):Wf L (d+1) r
 |con (d:Nat) (r:RO) (As:List (List ND)) (h:q2h r.con=true) (h2:q2d L r.T r.con=some As) (h3:r.kids.map RO.T=As) (h4:∀k,k∈r.kids→Wf L d k):Wf L (d+1) r
def svF (L:List DD):F→List SD→Prop
 |.nil,Z=>Z=[]
 |.cons _ _ _ _ _,[]=>False
 |.cons k t n ks r,(s,d)::Z=>((s.con=[]∧tvF L (tr k t n ks) [(s.T,d)]∧(k=51→n∉s.nt))∨(s.con=[35]∧k=51∧ks=.nil∧n=s.num∧d≠0)∨(q2h s.con=true∧k=53∧t=s.con∧∃d',d=d'+1∧svF L ks (on_ d' s.kids)))∧svF L r Z
theorem q6t:q2h []=false:=by kernel_rfl
theorem q91:q2h [35]=false:=by kernel_rfl
theorem q2x (L:List DD):∀(g:F) (Z:List SD),svF L g Z→g.cnt=Z.length
 |.nil,Z,h=>by have h:Z=[]:=h;subst h;rfl
 |.cons _ _ _ _ _,[],h=>h.elim
 |.cons k t n ks r,(_,d)::Z,h=>by show r.cnt+1=_;rw [q2x L r Z h.2];rfl
theorem qx1 (L:List DD):∀(f g:F) (A Z:List SD),f.cnt=A.length→(svF L (f.app g) (A++Z)↔svF L f A∧svF L g Z)
 |.nil,g,[],Z,_=>⟨fun h=>⟨rfl,h⟩,fun h=>h.2⟩
 |.nil,_,_::_,_,h=>by cases h
 |.cons _ _ _ _ _,_,[],_,h=>by cases h
 |.cons k t n ks r,g,(s,d)::A,Z,h=>by have ih:=qx1 L r g A Z (by have h:r.cnt+1=A.length+1:=h;omega);exact ⟨fun h=>⟨⟨h.1,(ih.1 h.2).1⟩,(ih.1 h.2).2⟩,fun h=>⟨h.1.1,ih.2 ⟨h.1.2,h.2⟩⟩⟩
theorem q3n (L:List DD) (A Z:List SD) (g:F):svF L g (A++Z)↔∃p q:F,g=p.app q∧svF L p A∧svF L q Z:=by
 constructor
 ·intro h;have hc:=q2x L _ _ h;rw [zp] at hc;obtain ⟨p,q,e,hp⟩:=g.cut2 A.length (by omega);subst e;have:=(qx1 L p q A Z hp).1 h;exact ⟨p,q,rfl,this.1,this.2⟩
 ·rintro ⟨p,q,rfl,h1,h2⟩;exact (qx1 L p q A Z (q2x L _ _ h1)).2 ⟨h1,h2⟩
theorem qx2 {L:List DD} {d:Nat}:∀K:List RO,(∀k,k∈K→∃g,svF L g [(k,d)])→∃g,svF L g (on_ d K)
 |[],_=>⟨.nil,rfl⟩
 |k::K,h=>by obtain ⟨p,hp⟩:=h k (ze ..);obtain ⟨q,hq⟩:=qx2 K fun x hx=>h x (zf _ hx);exact ⟨p.app q,(q3n L [(k,d)] (on_ d K) _).2 ⟨p,q,rfl,hp,hq⟩⟩
theorem qx3 {L:List DD} {d:Nat} {r:RO} (h:Wf L d r):∃g,svF L g [(r,d)]:=by
 induction h with
 |any d r h h2=>
  by_cases hc:cnsT L r.T=[]
  ·cases d with
   |zero=>exact ⟨tr 54 [] 0 .nil,.inl ⟨h,⟨⟨rfl,rfl⟩,rfl⟩,fun e=>by cases e⟩,rfl⟩
   |succ d=>obtain ⟨N,_,hN⟩:=gap r.nt.length r.nt (Nat.le_refl _);exact ⟨tr 51 [] (N:Int) .nil,.inl ⟨h,⟨.inl ⟨hc,rfl,rfl⟩,rfl⟩,fun _=>hN⟩,rfl⟩
  ·obtain ⟨k,t,n,ks,hv⟩:=qwr L d r.T;refine ⟨tr k t n ks,.inl ⟨h,hv,fun _=>by rw [h2 hc];exact fun h=>by cases h⟩,rfl⟩
 |num d r h h2=>exact ⟨tr 51 [] r.num .nil,.inr (.inl ⟨h,rfl,rfl,rfl,Nat.succ_ne_zero d⟩),rfl⟩
 |con d r As h h2 h3 h4 ih=>obtain ⟨g,hg⟩:=qx2 r.kids ih;exact ⟨tr 53 r.con 0 g,.inr (.inr ⟨h,rfl,rfl,d,rfl,hg⟩),rfl⟩
theorem qfd {L:List DD} {s:RO} {d:Nat} {g:F} (h:svF L g [(s,d)]):∃k t n ks,g=tr k t n ks:=q4x g (q2x L _ _ h)
theorem z13 {L:List DD} {d:Nat}:∀(K:List RO),(∀k,k∈K→∀g,svF L g [(k,d)]→tvF L g [(k.T,d)])→∀g,svF L g (on_ d K)→tvF L g (at_ d (K.map RO.T))
 |[],_,g,h=>by
  cases g with
  |nil=>rfl
  |cons _ _ _ _ _=>exact h.elim
 |k::K,hk,g,h=>by obtain ⟨p,q,rfl,h1,h2⟩:=(q3n L [(k,d)] (on_ d K) g).1 h;exact (q8f L p q [(k.T,d)] (at_ d (K.map RO.T)) (q2x L _ _ h1)).2 ⟨hk k (ze ..) p h1,z13 K (fun x hx=>hk x (zf _ hx)) q h2⟩
theorem z5g {L:List DD} {d:Nat} {r:RO} (h:Wf L d r):∀g,svF L g [(r,d)]→tvF L g [(r.T,d)]:=by
 induction h with
 |any d r h h2=>
  intro g hg;obtain ⟨k,t,n,ks,rfl⟩:=qfd hg;rcases hg.1 with ⟨_,h1,_⟩|⟨h1,_⟩|⟨h1,_⟩
  ·exact h1
  ·rw [h] at h1;cases h1
  ·rw [h,q6t] at h1;cases h1
 |num d r h h2=>
  intro g hg;obtain ⟨k,t,n,ks,rfl⟩:=qfd hg;rcases hg.1 with ⟨h1,_⟩|⟨_,rfl,rfl,_⟩|⟨h1,_⟩
  ·rw [h] at h1;cases h1
  ·exact ⟨.inl ⟨h2,rfl,rfl⟩,rfl⟩
  ·rw [h,q91] at h1;cases h1
 |con d r As h h2 h3 h4 ih=>
  intro g hg;obtain ⟨k,t,n,ks,rfl⟩:=qfd hg;rcases hg.1 with ⟨h1,_⟩|⟨h1,_⟩|⟨_,rfl,rfl,d',e,h5⟩
  ·rw [h1,q6t] at h;cases h
  ·rw [h1,q91] at h;cases h
  ·injection e with e;subst e;refine ⟨.inr ⟨rfl,As,h2,?_⟩,rfl⟩;rw [←h3];exact z13 r.kids ih ks h5
theorem qlm {L:List DD} {s:RO} {d:Nat} (h:s.con=[]) (h2:s.nt=[]) (g:F):svF L g [(s,d)]↔tvF L g [(s.T,d)]:=by
 constructor
 ·intro hg;exact z5g (.any d s h fun _=>h2) g hg
 ·intro hg;obtain ⟨k,t,n,ks,rfl⟩:=qws hg;exact ⟨.inl ⟨h,hg,fun _=>by rw [h2];exact fun h=>by cases h⟩,rfl⟩
theorem qns {L:List DD} {d:Nat}:∀(K:List RO),(∀k,k∈K→k.con=[]∧k.nt=[])→∀g,svF L g (on_ d K)↔tvF L g (at_ d (K.map RO.T))
 |[],_,g=>by
  cases g with
  |nil=>exact ⟨fun _=>rfl,fun _=>rfl⟩
  |cons _ _ _ _ _=>exact ⟨fun h=>h.elim,fun h=>h.elim⟩
 |k::K,hk,g=>by
  have h0:=hk k (ze ..);have ih:=qns (L:=L) (d:=d) K fun x hx=>hk x (zf _ hx);constructor
  ·intro h;obtain ⟨p,q,rfl,h1,h2⟩:=(q3n L [(k,d)] (on_ d K) g).1 h;exact (q8f L p q [(k.T,d)] (at_ d (K.map RO.T)) (q2x L _ _ h1)).2 ⟨(qlm h0.1 h0.2 p).1 h1,(ih q).1 h2⟩
  ·intro h;have hc:=q9c L _ _ h;obtain ⟨p,q,rfl,hp⟩:=g.cut2 1 (by rw [hc,q4f];simp);have h1:=(q8f L p q [(k.T,d)] (at_ d (K.map RO.T)) hp).1 h;exact (q3n L [(k,d)] (on_ d K) _).2 ⟨p,q,rfl,(qlm h0.1 h0.2 p).2 h1.1,(ih q).2 h1.2⟩
end Fn
end Ev

namespace Ev
open Go
namespace Fn
def q6u (L:List DD) (d:Nat) (p:F) (s:RO) (out:List RO) (hit:Bool):Prop:=(∀m,m∈out→Wf L d m∧m.T=s.T)∧(∀g,(∃m,m∈out∧svF L g [(m,d)])↔svF L g [(s,d)]∧mt p g=false)∧(hit=true↔∃g,svF L g [(s,d)]∧mt p g=true)
def qbg (L:List DD) (d:Nat) (p:F) (s o:RO):Prop:=Wf L d o∧o.T=s.T∧∀g,svF L g [(o,d)]↔svF L g [(s,d)]∧mt p g=true
theorem qnt {k:Int} (h:q0l k=true) (t:Tx) (n:Int) (ks:F) {g:F} (hg:g.cnt=1):mt (tr k t n ks) g=true:=by obtain ⟨k',t',n',ks',rfl⟩:=q4x g hg;rw [q1a,q1x h];rfl
theorem qx4 {L:List DD} {d:Nat} {k:Int} (h:q0l k=true) (t:Tx) (n:Int) (ks:F) {s:RO} (hs:Wf L d s):q6u L d (tr k t n ks) s [] true:=by
 refine ⟨(fun m hm=>by cases hm),fun g=>⟨fun ⟨m,hm,_⟩=>(by cases hm),fun ⟨h1,h2⟩=>?_⟩,fun _=>?_,fun _=>rfl⟩
 ·rw [qnt h t n ks (q2x L _ _ h1)] at h2;cases h2
 ·obtain ⟨g,hg⟩:=qx3 hs;exact ⟨g,hg,qnt h t n ks (q2x L _ _ hg)⟩
theorem qx5 {L:List DD} {d:Nat} {k:Int} (h:q0l k=true) (t:Tx) (n:Int) (ks:F) {s:RO} (hs:Wf L d s):qbg L d (tr k t n ks) s s:=⟨hs,rfl,fun _g=>⟨fun hg=>⟨hg,qnt h t n ks (q2x L _ _ hg)⟩,fun hg=>hg.1⟩⟩
theorem z4k (N:Int) (ks:F) (k':Int) (t':Tx) (n':Int) (ks':F):mt (tr 23 [] N ks) (tr k' t' n' ks')=(eqI k' 51&&eqI n' N):=by
 rw [q1a];have e:q2l 23 [] N ks k' t' n' ks'=bif eqI k' 51&&eqI n' N then some [] else none:=rfl
 rw [e];cases eqI k' 51&&eqI n' N<;>rfl
theorem q4y (N:Int) (ks:F) (t':Tx) (n':Int) (ks':F):mt (tr 23 [] N ks) (tr 51 t' n' ks')=eqI n' N:=by rw [z4k];rfl
theorem q6v {L:List DD} {d:Nat} {s:RO} (hs:Wf L (d+1) s) (hc:cnsT L s.T=[]) {g:F}:svF L g [(s,d+1)]↔∃t n,g=tr 51 t n .nil∧((s.con=[]∧n∉s.nt)∨(s.con=[35]∧n=s.num)):=by
 constructor
 ·intro hg;obtain ⟨k,t,n,ks,rfl⟩:=qfd hg;rcases hg.1 with ⟨h1,h2,h3⟩|⟨h1,rfl,rfl,h2,_⟩|⟨h1,rfl,h3,d',e,h4⟩
  ·rcases h2.1 with ⟨_,rfl,rfl⟩|⟨_,As,h5,_⟩
   ·exact ⟨t,n,rfl,.inl ⟨h1,h3 rfl⟩⟩
   ·obtain ⟨c,he,_⟩:=q22 h5;rw [hc] at he;cases he
  ·exact ⟨t,n,rfl,.inr ⟨h1,h2⟩⟩
  ·exfalso;cases hs with
   |any _ _ h _=>rw [h,q6t] at h1;cases h1
   |num _ _ h _=>rw [h,q91] at h1;cases h1
   |con _ _ As _ h6 _ _=>obtain ⟨c,he,_⟩:=q22 h6;rw [hc] at he;cases he
 ·rintro ⟨t,n,rfl,⟨h1,h2⟩|⟨h1,h2⟩⟩
  ·exact ⟨.inl ⟨h1,⟨.inl ⟨hc,rfl,rfl⟩,rfl⟩,fun _=>h2⟩,rfl⟩
  ·exact ⟨.inr (.inl ⟨h1,rfl,rfl,h2,Nat.succ_ne_zero d⟩),rfl⟩
theorem qix {L:List DD} {d:Nat} {s:RO} (hs:Wf L (d+1) s) (hc:cnsT L s.T=[]) (ks:F) {N:Int} (h1:s.con=[35]) (h2:s.num=N):q6u L (d+1) (tr 23 [] N ks) s [] true:=by
 refine ⟨(fun m hm=>by cases hm),fun g=>⟨fun ⟨m,hm,_⟩=>(by cases hm),fun ⟨h3,h4⟩=>?_⟩,fun _=>?_,fun _=>rfl⟩
 ·obtain ⟨t,n,rfl,⟨h5,_⟩|⟨_,h5⟩⟩:=(q6v hs hc).1 h3
  ·rw [h1] at h5;cases h5
  ·rw [q4y,h5,h2,q1j] at h4;cases h4
 ·exact ⟨tr 51 [] N .nil,(q6v hs hc).2 ⟨[],N,rfl,.inr ⟨h1,h2.symm⟩⟩,by rw [q4y,q1j]⟩
theorem qcx {L:List DD} {d:Nat} {s:RO} (hs:Wf L (d+1) s) (hc:cnsT L s.T=[]) (ks:F) {N:Int} (h:(s.con=[35]∧s.num≠N)∨(s.con=[]∧N∈s.nt)):q6u L (d+1) (tr 23 [] N ks) s [s] false:=by
 have key:∀g,svF L g [(s,d+1)]→mt (tr 23 [] N ks) g=false:=by
  intro g hg;obtain ⟨t,n,rfl,h3⟩:=(q6v hs hc).1 hg;rw [q4y];have:n≠N:=by
   rintro rfl;rcases h with ⟨h4,h5⟩|⟨h4,h5⟩<;>rcases h3 with ⟨h6,h7⟩|⟨h6,h7⟩
   ·rw [h4] at h6;cases h6
   ·exact h5 h7.symm
   ·exact h7 h5
   ·rw [h4] at h6;cases h6
  exact q2u this
 refine ⟨fun m hm=>?_,fun g=>⟨fun ⟨m,hm,h2⟩=>?_,fun ⟨h2,_⟩=>⟨s,ze ..,h2⟩⟩,fun e=>(by cases e),fun ⟨g,h2,h3⟩=>by rw [key g h2] at h3;cases h3⟩
 ·rw [zu] at hm;subst hm;exact ⟨hs,rfl⟩
 ·rw [zu] at hm;subst hm;exact ⟨h2,key g h2⟩
theorem qln {L:List DD} {d:Nat} {s s':RO} (hs:Wf L (d+1) s) (hc:cnsT L s.T=[]) (ks:F) {N:Int} (h1:s.con=[]) (h2:N∉s.nt) (hT:s'.T=s.T) (he:s'.con=[]) (hn:∀x,x∈s'.nt↔x∈s.nt∨x=N):q6u L (d+1) (tr 23 [] N ks) s [s'] true:=by
 have hf:Wf L (d+1) s':=.any _ _ he fun h=>absurd (by rw [hT];exact hc) h;have hg:cnsT L s'.T=[]:=by rw [hT];exact hc
 refine ⟨fun m hm=>?_,fun g=>⟨fun ⟨m,hm,h3⟩=>?_,fun ⟨h3,h4⟩=>⟨s',ze ..,?_⟩⟩,fun _=>?_,fun _=>rfl⟩
 ·rw [zu] at hm;subst hm;exact ⟨hf,hT⟩
 ·rw [zu] at hm;subst hm;obtain ⟨t,n,rfl,⟨_,h5⟩|⟨h4,_⟩⟩:=(q6v hf hg).1 h3
  ·have h6:¬(n∈s.nt∨n=N):=fun h=>h5 ((hn n).2 h);refine ⟨(q6v hs hc).2 ⟨t,n,rfl,.inl ⟨h1,fun h=>h6 (.inl h)⟩⟩,?_⟩;rw [q4y,q2u (fun h=>h6 (.inr h))]
  ·rw [he] at h4;cases h4
 ·obtain ⟨t,n,rfl,⟨_,h5⟩|⟨h6,_⟩⟩:=(q6v hs hc).1 h3
  ·rw [q4y] at h4;refine (q6v hf hg).2 ⟨t,n,rfl,.inl ⟨he,fun h=>?_⟩⟩;rcases (hn n).1 h with h|h
   ·exact h5 h
   ·rw [h,q1j] at h4;cases h4
  ·rw [h1] at h6;cases h6
 ·exact ⟨tr 51 [] N .nil,(q6v hs hc).2 ⟨[],N,rfl,.inl ⟨h1,h2⟩⟩,by rw [q4y,q1j]⟩
theorem z06 {L:List DD} {d:Nat} {s o:RO} (hs:Wf L (d+1) s) (hc:cnsT L s.T=[]) (ks:F) {N:Int} (hit:∃g,svF L g [(s,d+1)]∧mt (tr 23 [] N ks) g=true) (h1:o.con=[35]) (h2:o.num=N) (hT:o.T=s.T):qbg L (d+1) (tr 23 [] N ks) s o:=by
 have he:cnsT L o.T=[]:=by rw [hT];exact hc
 have ho:Wf L (d+1) o:=.num _ _ h1 he;refine ⟨ho,hT,fun g=>⟨fun hg=>?_,fun ⟨hg,hm⟩=>?_⟩⟩
 ·obtain ⟨t,n,rfl,⟨h3,_⟩|⟨_,h3⟩⟩:=(q6v ho he).1 hg
  ·rw [h1] at h3;cases h3
  ·rw [h2] at h3;subst h3;obtain ⟨g0,hj,hf⟩:=hit;obtain ⟨t0,n0,rfl,h4⟩:=(q6v hs hc).1 hj;rw [q4y] at hf;have h5:n0=n:=zt hf;subst h5;exact ⟨(q6v hs hc).2 ⟨t,n0,rfl,h4⟩,by rw [q4y,q1j]⟩
 ·obtain ⟨t,n,rfl,_⟩:=(q6v hs hc).1 hg;rw [q4y] at hm;have h5:n=N:=zt hm;exact (q6v ho he).2 ⟨t,n,rfl,.inr ⟨h1,by rw [h2];exact h5⟩⟩
theorem q7s {L:List DD} {d:Nat} {s:RO} (h:q2h s.con=true) {g:F}:svF L g [(s,d+1)]↔∃n ks,g=tr 53 s.con n ks∧svF L ks (on_ d s.kids):=by
 constructor
 ·intro hg;obtain ⟨k,t,n,ks,rfl⟩:=qfd hg;rcases hg.1 with ⟨h1,_⟩|⟨h1,_⟩|⟨_,rfl,rfl,d',e,h4⟩
  ·rw [h1,q6t] at h;cases h
  ·rw [h1,q91] at h;cases h
  ·injection e with e;subst e;exact ⟨n,ks,rfl,h4⟩
 ·rintro ⟨n,ks,rfl,h4⟩;exact ⟨.inr (.inr ⟨h,rfl,rfl,d,rfl,h4⟩),rfl⟩
theorem qcy (t:Tx) (P:F) (t':Tx) (n':Int) (ks':F) (h:ks'.cnt=P.cnt):mt (tr 24 t 0 P) (tr 53 t' n' ks')=(eqS t' t&&mt P ks'):=by
 rw [q1a];have e:q2l 24 t 0 P 53 t' n' ks'=bif true&&(eqS t' t&&decide (ks'.cnt=P.cnt)) then q5g P ks' else none:=rfl
 rw [e,zA h];cases eqS t' t with
 |true=>show ((q5g P ks').isSome&&true)=_;rw [Bool.and_true];rfl
 |false=>rfl
theorem q4g (t:Tx) (P:F) (t':Tx) (n':Int) (ks':F) (h:t'≠t):mt (tr 24 t 0 P) (tr 53 t' n' ks')=false:=by
 rw [q1a];have e:q2l 24 t 0 P 53 t' n' ks'=bif true&&(eqS t' t&&decide (ks'.cnt=P.cnt)) then q5g P ks' else none:=rfl
 have:eqS t' t=false:=by
  cases h2:eqS t' t with
  |false=>rfl
  |true=>exact absurd (eqS_eq.1 h2) h
 rw [e,this];rfl
theorem qnu {L:List DD} {d:Nat} {s:RO} (hs:Wf L (d+1) s) (h:q2h s.con=true) (t:Tx) (P:F) (hc:s.con≠t):q6u L (d+1) (tr 24 t 0 P) s [s] false:=by
 have key:∀g,svF L g [(s,d+1)]→mt (tr 24 t 0 P) g=false:=by intro g hg;obtain ⟨n,ks,rfl,_⟩:=(q7s h).1 hg;exact q4g _ _ _ _ _ hc
 refine ⟨fun m hm=>?_,fun g=>⟨fun ⟨m,hm,h2⟩=>?_,fun ⟨h2,_⟩=>⟨s,ze ..,h2⟩⟩,fun e=>(by cases e),fun ⟨g,h2,h3⟩=>by rw [key g h2] at h3;cases h3⟩
 ·rw [zu] at hm;subst hm;exact ⟨hs,rfl⟩
 ·rw [zu] at hm;subst hm;exact ⟨h2,key g h2⟩
def KOut (L:List DD) (d:Nat) (O:List RO) (P:F) (K:List RO) (new:List (List RO)):Prop:=(∀l,l∈new→l.map RO.T=(O++K).map RO.T∧∀k,k∈l→Wf L d k)∧∀V,(∃l,l∈new∧svF L V (on_ d l))↔∃V1 V2:F,V=V1.app V2∧svF L V1 (on_ d O)∧svF L V2 (on_ d K)∧mt P V2=false
theorem z07 (L:List DD) (d:Nat) (O:List RO):KOut L d O .nil [] []:=by refine ⟨(fun l hl=>by cases hl),fun V=>⟨fun ⟨l,hl,_⟩=>(by cases hl),fun ⟨V1,V2,_,_,h1,h2⟩=>?_⟩⟩;have:mt .nil V2=true:=rfl;rw [this] at h2;cases h2
theorem F.app_assoc:∀f g h:F,(f.app g).app h=f.app (g.app h)
 |.nil,_,_=>rfl
 |.cons k t n ks r,g,h=>by show F.cons k t n ks ((r.app g).app h)=F.cons k t n ks (r.app (g.app h));rw [F.app_assoc r g h]
theorem qx6 {L:List DD} {d:Nat} {O:List RO} {kp:Int} {tp:Tx} {np:Int} {pp P:F} {k o:RO} {K:List RO} {m:List RO} {new:List (List RO)} (hO:∀x,x∈O→Wf L d x) (hK:∀x,x∈K→Wf L d x) (hm:q6u L d (tr kp tp np pp) k m true) (ho:qbg L d (tr kp tp np pp) k o) (hn:KOut L d (O++[o]) P K new) (_hPK:P.cnt=K.length):KOut L d O (.cons kp tp np pp P) (k::K) (m.map (fun x=>O++x::K)++new):=by
 constructor
 ·intro l hl;rcases zo.1 hl with hl|hl
  ·obtain ⟨x,hx,rfl⟩:=zR.1 hl;obtain ⟨h1,h2⟩:=hm.1 x hx;refine ⟨by rw [zE,zE,zV,zV,h2],fun y hy=>?_⟩;rcases zo.1 hy with hy|hy
   ·exact hO y hy
   ·rcases zj.1 hy with rfl|hy
    ·exact h1
    ·exact hK y hy
  ·obtain ⟨h1,h2⟩:=hn.1 l hl;refine ⟨?_,h2⟩;rw [h1];simp only [zE,zV,ho.2.1,zC,List.cons_append,List.nil_append]
 ·intro V;constructor
  ·rintro ⟨l,hl,hV⟩;rcases zo.1 hl with hl|hl
   ·obtain ⟨x,hx,rfl⟩:=zR.1 hl;rw [qqe] at hV;obtain ⟨V1,V2,rfl,a1,a2⟩:=(q3n L _ _ V).1 hV;obtain ⟨v,V3,rfl,b1,b2⟩:=(q3n L [(x,d)] (on_ d K) V2).1 a2;have h3:=(hm.2.1 v).1 ⟨x,hx,b1⟩;have hc:=q2x L _ _ h3.1;refine ⟨V1,v.app V3,rfl,a1,(q3n L [(k,d)] (on_ d K) _).2 ⟨v,V3,rfl,h3.1,b2⟩,?_⟩;have e:=q5w (tr kp tp np pp) v P V3 (by rw [hc];rfl);have e:mt (.cons kp tp np pp P) (v.app V3)=_:=e;rw [e,h3.2];rfl
   ·obtain ⟨V1,V2,rfl,a1,a2,a3⟩:=(hn.2 V).1 ⟨l,hl,hV⟩;rw [qqe] at a1;obtain ⟨V0,v,rfl,b1,b2⟩:=(q3n L _ _ V1).1 a1;have h3:=(ho.2.2 v).1 b2;have hc:=q2x L _ _ h3.1;refine ⟨V0,v.app V2,F.app_assoc _ _ _,b1,(q3n L [(k,d)] (on_ d K) _).2 ⟨v,V2,rfl,h3.1,a2⟩,?_⟩;have e:=q5w (tr kp tp np pp) v P V2 (by rw [hc];rfl);have e:mt (.cons kp tp np pp P) (v.app V2)=_:=e;rw [e,h3.2,a3];rfl
  ·rintro ⟨V1,V2,rfl,a1,a2,a3⟩;obtain ⟨v,V3,rfl,b1,b2⟩:=(q3n L [(k,d)] (on_ d K) V2).1 a2;have hc:=q2x L _ _ b1;have e:=q5w (tr kp tp np pp) v P V3 (by rw [hc];rfl);have e:mt (.cons kp tp np pp P) (v.app V3)=_:=e;rw [e] at a3;cases hv:mt (tr kp tp np pp) v with
   |false=>obtain ⟨x,hx,h4⟩:=(hm.2.1 v).2 ⟨b1,hv⟩;refine ⟨O++x::K,zo.2 (.inl (zR.2 ⟨x,hx,rfl⟩)),?_⟩;rw [qqe];exact (q3n L _ _ _).2 ⟨V1,v.app V3,rfl,a1,(q3n L [(x,d)] (on_ d K) _).2 ⟨v,V3,rfl,h4,b2⟩⟩
   |true=>rw [hv,Bool.true_and] at a3;obtain ⟨l,hl,h5⟩:=(hn.2 (V1.app (v.app V3))).2 ⟨V1.app v,V3,(F.app_assoc _ _ _).symm,by rw [qqe];exact (q3n L _ _ _).2 ⟨V1,v,rfl,a1,(ho.2.2 v).2 ⟨b1,hv⟩⟩,b2,a3⟩;exact ⟨l,zo.2 (.inr hl),h5⟩
def HitK (L:List DD) (d:Nat) (P:F) (K:List RO):Prop:=∃V,svF L V (on_ d K)∧mt P V=true
theorem qfe {L:List DD} {d:Nat} {kp:Int} {tp:Tx} {np:Int} {pp P:F} {k:RO} {K:List RO} (_hPK:P.cnt=K.length):HitK L d (.cons kp tp np pp P) (k::K)↔(∃v,svF L v [(k,d)]∧mt (tr kp tp np pp) v=true)∧HitK L d P K:=by
 constructor
 ·rintro ⟨V,h1,h2⟩;obtain ⟨v,V3,rfl,b1,b2⟩:=(q3n L [(k,d)] (on_ d K) V).1 h1;have hc:=q2x L _ _ b1;have e:=q5w (tr kp tp np pp) v P V3 (by rw [hc];rfl);have e:mt (.cons kp tp np pp P) (v.app V3)=_:=e;rw [e,zd] at h2;exact ⟨⟨v,b1,h2.1⟩,V3,b2,h2.2⟩
 ·rintro ⟨⟨v,b1,m1⟩,V3,b2,m2⟩;have hc:=q2x L _ _ b1;refine ⟨v.app V3,(q3n L [(k,d)] (on_ d K) _).2 ⟨v,V3,rfl,b1,b2⟩,?_⟩;have e:=q5w (tr kp tp np pp) v P V3 (by rw [hc];rfl);have e:mt (.cons kp tp np pp P) (v.app V3)=_:=e;rw [e,m1,m2];rfl
theorem qlo {L:List DD} {d:Nat} {s:RO} (_hs:Wf L (d+1) s) (h:q2h s.con=true) {As:List (List ND)} (hA:q2d L s.T s.con=some As) (hK:s.kids.map RO.T=As) (P:F) (hP:P.cnt=s.kids.length) {new:List (List RO)} (hn:KOut L d [] P s.kids new) (hh:HitK L d P s.kids) {out:List RO} (hc:∀m,m∈out→m.T=s.T∧m.con=s.con∧m.kids∈new) (he:∀l,l∈new→∃m,m∈out∧m.T=s.T∧m.con=s.con∧m.kids=l):q6u L (d+1) (tr 24 s.con 0 P) s out true:=by
 refine ⟨fun m hm=>?_,fun g=>⟨fun ⟨m,hm,h2⟩=>?_,fun ⟨h2,h3⟩=>?_⟩,fun _=>?_,fun _=>rfl⟩
 ·obtain ⟨h1,h2,h3⟩:=hc m hm;obtain ⟨h4,h5⟩:=hn.1 _ h3;exact ⟨.con _ _ As (by rw [h2];exact h) (by rw [h1,h2];exact hA) (by rw [h4,List.nil_append];exact hK) h5,h1⟩
 ·obtain ⟨h1,h4,h3⟩:=hc m hm;obtain ⟨n,ks,rfl,h5⟩:=(q7s (by rw [h4];exact h)).1 h2;obtain ⟨V1,V2,e,a1,a2,a3⟩:=(hn.2 ks).1 ⟨_,h3,h5⟩;have hf:V1=.nil:=by
   cases V1 with
   |nil=>rfl
   |cons _ _ _ _ _=>exact a1.elim
  subst hf;have e:ks=V2:=e;subst e;rw [h4];refine ⟨(q7s h).2 ⟨n,ks,rfl,a2⟩,?_⟩;rw [qcy _ _ _ _ _ (by rw [q2x L _ _ a2,qfc,hP]),a3,Bool.and_false]
 ·obtain ⟨n,ks,rfl,h5⟩:=(q7s h).1 h2;rw [qcy _ _ _ _ _ (by rw [q2x L _ _ h5,qfc,hP]),q12,Bool.true_and] at h3;obtain ⟨l,hl,h6⟩:=(hn.2 ks).2 ⟨.nil,ks,rfl,rfl,h5,h3⟩;obtain ⟨m,hm,h7,h8,h9⟩:=he l hl;refine ⟨m,hm,(q7s (by rw [h8];exact h)).2 ⟨n,ks,by rw [h8],by rw [h9];exact h6⟩⟩
 ·obtain ⟨V,h1,h2⟩:=hh;refine ⟨tr 53 s.con 0 V,(q7s h).2 ⟨0,V,rfl,h1⟩,?_⟩;rw [qcy _ _ _ _ _ (by rw [q2x L _ _ h1,qfc,hP]),q12,h2];rfl
theorem qnv {L:List DD} {d:Nat} {s:RO} (hs:Wf L (d+1) s) (h:q2h s.con=true) (P:F) (hP:P.cnt=s.kids.length) (hh:¬HitK L d P s.kids):q6u L (d+1) (tr 24 s.con 0 P) s [s] false:=by
 have key:∀g,svF L g [(s,d+1)]→mt (tr 24 s.con 0 P) g=false:=by
  intro g hg;obtain ⟨n,ks,rfl,h5⟩:=(q7s h).1 hg;rw [qcy _ _ _ _ _ (by rw [q2x L _ _ h5,qfc,hP]),q12,Bool.true_and];cases hm:mt P ks with
  |false=>rfl
  |true=>exact absurd ⟨ks,h5,hm⟩ hh
 refine ⟨fun m hm=>?_,fun g=>⟨fun ⟨m,hm,h2⟩=>?_,fun ⟨h2,_⟩=>⟨s,ze ..,h2⟩⟩,fun e=>(by cases e),fun ⟨g,h2,h3⟩=>by rw [key g h2] at h3;cases h3⟩
 ·rw [zu] at hm;subst hm;exact ⟨hs,rfl⟩
 ·rw [zu] at hm;subst hm;exact ⟨h2,key g h2⟩
def OfC (s:RO) (c:Tx) (As:List (List ND)) (x:RO):Prop:=x.T=s.T∧x.con=c∧x.kids.map RO.T=As∧∀k,k∈x.kids→k.con=[]∧k.nt=[]
theorem qx7 {L:List DD} (hc:L.all q0u=true) {d:Nat} {s x:RO} {c:Tx} {As:List (List ND)} (hA:q2d L s.T c=some As) (h:OfC s c As x):Wf L (d+1) x:=by obtain ⟨h1,h2,h3,h4⟩:=h;exact .con _ _ As (by rw [h2];exact qbf hc hA) (by rw [h1,h2];exact hA) h3 fun k hk=>.any _ _ (h4 k hk).1 fun _=>(h4 k hk).2
theorem qcz {L:List DD} (hc:L.all q0u=true) {d:Nat} {s x:RO} {c:Tx} {As:List (List ND)} (hA:q2d L s.T c=some As) (h:OfC s c As x) {g:F}:svF L g [(x,d+1)]↔∃n ks,g=tr 53 c n ks∧tvF L ks (at_ d As):=by
 obtain ⟨h1,h2,h3,h4⟩:=h;rw [q7s (by rw [h2];exact qbf hc hA),h2];constructor
 ·rintro ⟨n,ks,e,h5⟩;exact ⟨n,ks,e,by rw [←h3];exact (qns _ h4 ks).1 h5⟩
 ·rintro ⟨n,ks,e,h5⟩;exact ⟨n,ks,e,(qns _ h4 ks).2 (by rw [h3];exact h5)⟩
theorem qcd {L:List DD} {d:Nat} {s:RO} (h:s.con=[]) (h2:s.nt=[]) {c0:CT} (hc:c0∈cnsT L s.T) {g:F}:svF L g [(s,d+1)]↔∃c As n ks,q2d L s.T c=some As∧g=tr 53 c n ks∧tvF L ks (at_ d As):=by
 rw [qlm h h2];constructor
 ·intro hg;obtain ⟨k,t,n,ks,rfl⟩:=qws hg;rcases hg.1 with ⟨h3,_⟩|⟨rfl,As,h3,h4⟩
  ·rw [h3] at hc;cases hc
  ·exact ⟨t,As,n,ks,h3,rfl,h4⟩
 ·rintro ⟨c,As,n,ks,h3,rfl,h4⟩;exact ⟨.inr ⟨rfl,As,h3,h4⟩,rfl⟩
end Fn
end Ev

namespace Ev
open Go
namespace Fn
def InC (L:List DD) (d:Nat) (T:List ND) (c:Tx) (g:F):Prop:=∃As n ks,q2d L T c=some As∧g=tr 53 c n ks∧tvF L ks (at_ d As)
def qff (L:List DD) (d:Nat) (p:F) (s:RO) (cs:List CT) (out:List RO) (hit:Bool):Prop:=(∀m,m∈out→Wf L (d+1) m∧m.T=s.T)∧(∀g,(∃m,m∈out∧svF L g [(m,d+1)])↔∃c,c∈cs∧InC L d s.T c.1 g∧mt p g=false)∧(hit=true↔∃c,c∈cs∧∃g,InC L d s.T c.1 g∧mt p g=true)
theorem qsl (L:List DD) (d:Nat) (p:F) (s:RO):qff L d p s [] [] false:=⟨(fun m hm=>by cases hm),(fun g=>⟨fun ⟨m,hm,_⟩=>(by cases hm),fun ⟨c,hc,_⟩=>(by cases hc)⟩),(fun h=>by cases h),fun ⟨c,hc,_⟩=>by cases hc⟩
theorem qlp {L:List DD} (hc:L.all q0u=true) {d:Nat} {t:Tx} {P:F} {s x:RO} {cs:List CT} {c:CT} {out:List RO} {hit:Bool} (h:qff L d (tr 24 t 0 P) s cs out hit) {As:List (List ND)} (hA:q2d L s.T c.1=some As) (hx:OfC s c.1 As x) (he:c.1≠t):qff L d (tr 24 t 0 P) s (cs++[c]) (out++[x]) hit:=by
 obtain ⟨h1,h2,h3⟩:=h;refine ⟨fun m hm=>?_,fun g=>⟨?_,?_⟩,⟨fun hh=>?_,?_⟩⟩
 ·rcases zo.1 hm with hm|hm
  ·exact h1 m hm
  ·rw [zu] at hm;subst hm;exact ⟨qx7 hc hA hx,hx.1⟩
 ·rintro ⟨m,hm,hg⟩;rcases zo.1 hm with hm|hm
  ·obtain ⟨c',a1,a2⟩:=(h2 g).1 ⟨m,hm,hg⟩;exact ⟨c',zo.2 (.inl a1),a2⟩
  ·rw [zu] at hm;subst hm;obtain ⟨n,ks,rfl,h5⟩:=(qcz hc hA hx).1 hg;exact ⟨c,zo.2 (.inr (zu.2 rfl)),⟨As,n,ks,hA,rfl,h5⟩,q4g _ _ _ _ _ he⟩
 ·rintro ⟨c',a1,⟨As',n,ks,b1,rfl,b3⟩,a3⟩;rcases zo.1 a1 with a1|a1
  ·obtain ⟨m,hm,hg⟩:=(h2 _).2 ⟨c',a1,⟨As',n,ks,b1,rfl,b3⟩,a3⟩;exact ⟨m,zo.2 (.inl hm),hg⟩
  ·rw [zu] at a1;subst a1;rw [hA] at b1;injection b1 with b1;subst b1
   exact ⟨x,zo.2 (.inr (zu.2 rfl)),(qcz hc hA hx).2 ⟨n,ks,rfl,b3⟩⟩
 ·obtain ⟨c',a1,a2⟩:=h3.1 hh;exact ⟨c',zo.2 (.inl a1),a2⟩
 ·rintro ⟨c',a1,g,⟨As',n,ks,b1,rfl,b3⟩,a3⟩;rcases zo.1 a1 with a1|a1
  ·exact h3.2 ⟨c',a1,_,⟨As',n,ks,b1,rfl,b3⟩,a3⟩
  ·rw [zu] at a1;subst a1;rw [q4g _ _ _ _ _ he] at a3;cases a3
theorem qnw {L:List DD} (he:L.all q0u=true) {d:Nat} {t:Tx} {P:F} {s x:RO} {cs:List CT} {c:CT} {out m:List RO} {hit is:Bool} (h:qff L d (tr 24 t 0 P) s cs out hit) {As:List (List ND)} (hA:q2d L s.T c.1=some As) (hx:OfC s c.1 As x) (hm:q6u L (d+1) (tr 24 t 0 P) x m is) (hc:hit=false∨is=true):qff L d (tr 24 t 0 P) s (cs++[c]) (out++m) is:=by
 obtain ⟨h1,h2,h3⟩:=h;obtain ⟨k1,k2,k3⟩:=hm;refine ⟨fun y hy=>?_,fun g=>⟨?_,?_⟩,⟨fun hh=>?_,?_⟩⟩
 ·rcases zo.1 hy with hy|hy
  ·exact h1 y hy
  ·exact ⟨(k1 y hy).1,(k1 y hy).2.trans hx.1⟩
 ·rintro ⟨y,hy,hg⟩;rcases zo.1 hy with hy|hy
  ·obtain ⟨c',a1,a2⟩:=(h2 g).1 ⟨y,hy,hg⟩;exact ⟨c',zo.2 (.inl a1),a2⟩
  ·obtain ⟨a1,a2⟩:=(k2 g).1 ⟨y,hy,hg⟩;obtain ⟨n,ks,rfl,h5⟩:=(qcz he hA hx).1 a1;exact ⟨c,zo.2 (.inr (zu.2 rfl)),⟨As,n,ks,hA,rfl,h5⟩,a2⟩
 ·rintro ⟨c',a1,⟨As',n,ks,b1,rfl,b3⟩,a3⟩;rcases zo.1 a1 with a1|a1
  ·obtain ⟨y,hy,hg⟩:=(h2 _).2 ⟨c',a1,⟨As',n,ks,b1,rfl,b3⟩,a3⟩;exact ⟨y,zo.2 (.inl hy),hg⟩
  ·rw [zu] at a1;subst a1;rw [hA] at b1;injection b1 with b1;subst b1
   obtain ⟨y,hy,hg⟩:=(k2 _).2 ⟨(qcz he hA hx).2 ⟨n,ks,rfl,b3⟩,a3⟩;exact ⟨y,zo.2 (.inr hy),hg⟩
 ·obtain ⟨g,a1,a2⟩:=k3.1 hh;obtain ⟨n,ks,rfl,h5⟩:=(qcz he hA hx).1 a1;exact ⟨c,zo.2 (.inr (zu.2 rfl)),_,⟨As,n,ks,hA,rfl,h5⟩,a2⟩
 ·rintro ⟨c',a1,g,⟨As',n,ks,b1,rfl,b3⟩,a3⟩;rcases zo.1 a1 with a1|a1
  ·have hh:=h3.2 ⟨c',a1,_,⟨As',n,ks,b1,rfl,b3⟩,a3⟩;rcases hc with hc|hc
   ·rw [hc] at hh;cases hh
   ·exact hc
  ·rw [zu] at a1;subst a1;rw [hA] at b1;injection b1 with b1;subst b1
   exact k3.2 ⟨_,(qcz he hA hx).2 ⟨n,ks,rfl,b3⟩,a3⟩
theorem qnx {L:List DD} {d:Nat} {p:F} {s:RO} {out:List RO} {hit:Bool} (h1:s.con=[]) (h2:s.nt=[]) {c0:CT} (hc:c0∈cnsT L s.T) (h:qff L d p s (cnsT L s.T) out hit):q6u L (d+1) p s out hit:=by
 have key:∀g,svF L g [(s,d+1)]↔∃c,c∈cnsT L s.T∧InC L d s.T c.1 g:=fun g=>by
  rw [qcd h1 h2 hc];constructor
  ·rintro ⟨c,As,n,ks,a1,a2,a3⟩;obtain ⟨c',b1,rfl⟩:=q22 a1;exact ⟨c',b1,As,n,ks,a1,a2,a3⟩
  ·rintro ⟨c',b1,As,n,ks,a1,a2,a3⟩;exact ⟨_,As,n,ks,a1,a2,a3⟩
 refine ⟨h.1,fun g=>?_,?_⟩
 ·rw [h.2.1 g,key g];constructor
  ·rintro ⟨c,a1,a2,a3⟩;exact ⟨⟨c,a1,a2⟩,a3⟩
  ·rintro ⟨⟨c,a1,a2⟩,a3⟩;exact ⟨c,a1,a2,a3⟩
 ·rw [h.2.2];constructor
  ·rintro ⟨c,a1,g,a2,a3⟩;exact ⟨g,(key g).2 ⟨c,a1,a2⟩,a3⟩
  ·rintro ⟨g,a1,a3⟩;obtain ⟨c,b1,b2⟩:=(key g).1 a1;exact ⟨c,b1,g,b2,a3⟩
def qsm (L:List DD) (d:Nat) (P:F) (K O:List RO):Prop:=(∀o,o∈O→Wf L d o)∧O.map RO.T=K.map RO.T∧∀V,svF L V (on_ d O)↔svF L V (on_ d K)∧mt P V=true
theorem qx8 (L:List DD) (d:Nat):qsm L d .nil [] []:=⟨(fun o ho=>by cases ho),rfl,fun V=>⟨fun h=>⟨h,rfl⟩,fun h=>h.1⟩⟩
theorem qsn {L:List DD} {d:Nat} {kp:Int} {tp:Tx} {np:Int} {pp P:F} {k o:RO} {K O:List RO} (ho:qbg L d (tr kp tp np pp) k o) (hO:qsm L d P K O):qsm L d (.cons kp tp np pp P) (k::K) (o::O):=by
 refine ⟨fun x hx=>?_,by rw [zV,zV,ho.2.1,hO.2.1],fun V=>⟨fun h=>?_,fun ⟨h,h2⟩=>?_⟩⟩
 ·rcases zj.1 hx with rfl|hx
  ·exact ho.1
  ·exact hO.1 x hx
 ·obtain ⟨v,V3,rfl,b1,b2⟩:=(q3n L [(o,d)] (on_ d O) V).1 h;have h3:=(ho.2.2 v).1 b1;have h4:=(hO.2.2 V3).1 b2;have hc:=q2x L _ _ b1;have e:=q5w (tr kp tp np pp) v P V3 (by rw [hc];rfl);have e:mt (.cons kp tp np pp P) (v.app V3)=_:=e;exact ⟨(q3n L [(k,d)] (on_ d K) _).2 ⟨v,V3,rfl,h3.1,h4.1⟩,by rw [e,h3.2,h4.2];rfl⟩
 ·obtain ⟨v,V3,rfl,b1,b2⟩:=(q3n L [(k,d)] (on_ d K) V).1 h;have hc:=q2x L _ _ b1;have e:=q5w (tr kp tp np pp) v P V3 (by rw [hc];rfl);have e:mt (.cons kp tp np pp P) (v.app V3)=_:=e;rw [e,zd] at h2;exact (q3n L [(o,d)] (on_ d O) _).2 ⟨v,V3,rfl,(ho.2.2 v).2 ⟨b1,h2.1⟩,(hO.2.2 V3).2 ⟨b2,h2.2⟩⟩
theorem qqf {L:List DD} {d:Nat} {s o:RO} (h:q2h s.con=true) {As:List (List ND)} (hA:q2d L s.T s.con=some As) (hK:s.kids.map RO.T=As) (P:F) (hP:P.cnt=s.kids.length) {O:List RO} (hO:qsm L d P s.kids O) (h1:o.T=s.T) (h2:o.con=s.con) (h3:o.kids=O):qbg L (d+1) (tr 24 s.con 0 P) s o:=by
 refine ⟨.con _ _ As (by rw [h2];exact h) (by rw [h1,h2];exact hA) (by rw [h3,hO.2.1];exact hK) (by rw [h3];exact hO.1),h1,fun g=>?_⟩;rw [q7s (by rw [h2];exact h),q7s h,h2,h3];constructor
 ·rintro ⟨n,ks,rfl,h4⟩;obtain ⟨h5,h6⟩:=(hO.2.2 ks).1 h4;refine ⟨⟨n,ks,rfl,h5⟩,?_⟩;rw [qcy _ _ _ _ _ (by rw [q2x L _ _ h5,qfc,hP]),q12,h6];rfl
 ·rintro ⟨⟨n,ks,rfl,h5⟩,h6⟩;rw [qcy _ _ _ _ _ (by rw [q2x L _ _ h5,qfc,hP]),q12,Bool.true_and] at h6;exact ⟨n,ks,rfl,(hO.2.2 ks).2 ⟨h5,h6⟩⟩
theorem z08 {L:List DD} (he:L.all q0u=true) {d:Nat} {s x o:RO} {t:Tx} {P:F} (h1:s.con=[]) (h2:s.nt=[]) {As:List (List ND)} (hA:q2d L s.T t=some As) (hx:OfC s t As x) (ho:qbg L (d+1) (tr 24 t 0 P) x o):qbg L (d+1) (tr 24 t 0 P) s o:=by
 obtain ⟨c0,hc,_⟩:=q22 hA;refine ⟨ho.1,ho.2.1.trans hx.1,fun g=>?_⟩;rw [ho.2.2 g,qcz he hA hx,qcd h1 h2 hc];constructor
 ·rintro ⟨⟨n,ks,rfl,h5⟩,h6⟩;exact ⟨⟨t,As,n,ks,hA,rfl,h5⟩,h6⟩
 ·rintro ⟨⟨c,As',n,ks,a1,rfl,a3⟩,h6⟩;by_cases hc:c=t
  ·subst hc;rw [hA] at a1;injection a1 with a1;subst a1
   exact ⟨⟨n,ks,rfl,a3⟩,h6⟩
  ·rw [q4g _ _ _ _ _ hc] at h6;cases h6
end Fn
end Ev

namespace Ev
open Go
namespace Fn
def Use (L:List DD) (Z:List TD) (fs:List F) (q:F):Prop:=∃g,tvF L g Z∧mt q g=true∧∀f,f∈fs→mt f g=false
theorem tv_cons {L:List DD} {k:Int} {t:Tx} {n:Int} {ks r:F} {T:List ND} {d:Nat} {Z:List TD}:tvF L (.cons k t n ks r) ((T,d)::Z)↔tvF L (tr k t n ks) [(T,d)]∧tvF L r Z:=q8f L (tr k t n ks) r [(T,d)] Z rfl
theorem qqg {L:List DD} {T:List ND} {d:Nat} {Z:List TD} {g:F} (h:tvF L g ((T,d)::Z)):∃k t n ks r,g=.cons k t n ks r∧tvF L (tr k t n ks) [(T,d)]∧tvF L r Z:=by
 cases g with
 |nil=>cases h
 |cons k t n ks r=>exact ⟨k,t,n,ks,r,rfl,tv_cons.1 h⟩
def q4h (N:Int):F→Option F
 |.nil=>none
 |.cons k _ n ks r=>bif q0l k then some r else bif eqI k 23&&eqI n N then some (ks.app r) else none
def int0 (f:F):Prop:=∀x,x∈f.flat→x.1=23→x.2.2.2=0
theorem q3o {k:Int} {t:Tx} {n:Int} {ks r:F} (h:int0 (.cons k t n ks r)):(k=23→ks=.nil)∧int0 ks∧int0 r:=by have h:∀x,x∈(k,t,n,(ks.cnt:Int))::(ks.flat++r.flat)→x.1=23→x.2.2.2=0:=h;refine ⟨fun e=>qd9 (h _ (ze ..) e),fun x hx=>h x (zf _ (zo.2 (.inl hx))),fun x hx=>h x (zf _ (zo.2 (.inr hx)))⟩
theorem qqh {f g:F} (hf:int0 f) (hg:int0 g):int0 (f.app g):=fun x hx e=>by
 rw [F.app_flat] at hx;rcases zo.1 hx with hx|hx
 ·exact hf x hx e
 ·exact hg x hx e
theorem z09 (n:Nat):int0 (anyF n):=fun x hx e=>by rw [qdd n x hx] at e;cases e
theorem qde {L:List DD} {T:List ND} {d:Nat} {Z:List TD} {c:Tx} {As:List (List ND)} (hA:q2d L T c=some As) {f:F} (hf:ptF L f ((T,d+1)::Z)) (n':Int) {ks' r':F} (hk:ks'.cnt=As.length):mt f (.cons 53 c n' ks' r')=match q0t c As.length f with|some g=>mt g (ks'.app r')|none=>false:=by
 cases f with
 |nil=>cases hf
 |cons k t n ks r=>
  have hu:q0t c As.length (.cons k t n ks r)=bif q0l k then some ((anyF As.length).app r) else bif eqI k 24&&eqS t c then some (ks.app r) else none:=rfl
  rw [hu,q1a];rcases hf.1 with h1|⟨d',e,⟨rfl,rfl,_,h2⟩|⟨rfl,rfl,As',h2,h3⟩⟩
  ·rw [h1,q1x h1,Bool.true_and];show mt r r'=mt ((anyF As.length).app r) (ks'.app r');rw [q5w _ _ _ _ (by rw [q5v,hk]),qwf _ _ hk,Bool.true_and]
  ·obtain ⟨c0,he,_⟩:=q22 hA;rw [h2] at he;cases he
  ·have z1:q0l 24=false:=rfl;have z2:eqI 24 24=true:=rfl;rw [z1,z2,Bool.true_and,cond_false];cases ht:eqS t c with
   |true=>
    have hg:=eqS_eq.1 ht;subst hg;rw [hA] at h2;injection h2 with h2;subst h2
    have hc:=q6s _ _ _ h3;rw [q4f] at hc;show _=mt (ks.app r) (ks'.app r');rw [q5w _ _ _ _ (hc.trans hk.symm),qwt _ _ _ _ _ (hk.trans hc.symm)]
   |false=>
    have e:q2l 24 t 0 ks 53 c n' ks'=bif true&&(eqS c t&&decide (ks'.cnt=ks.cnt)) then q5g ks ks' else none:=rfl
    have:eqS c t=false:=by
     cases h:eqS c t with
     |false=>rfl
     |true=>rw [eqS_eq.1 h,q12] at ht;cases ht
    rw [e,this];rfl
theorem qny {L:List DD} {T:List ND} {d:Nat} {Z:List TD} {c:Tx} {As:List (List ND)} (hA:q2d L T c=some As) {fs:List F} (hg:∀f,f∈fs→ptF L f ((T,d+1)::Z)) {q q':F} (hq:ptF L q ((T,d+1)::Z)) (hu:q0t c As.length q=some q'):(∃n' ks' r',tvF L (.cons 53 c n' ks' r') ((T,d+1)::Z)∧mt q (.cons 53 c n' ks' r')=true∧∀f,f∈fs→mt f (.cons 53 c n' ks' r')=false)↔Use L (at_ d As++Z) (fs.filterMap (q0t c As.length)) q':=by
 constructor
 ·rintro ⟨n',ks',r',h1,h2,h3⟩;obtain ⟨h4,h5⟩:=z4j hA h1;have hk:ks'.cnt=As.length:=by rw [q9c _ _ _ h4,q4f]
  refine ⟨ks'.app r',(q8f L _ _ _ _ (q9c _ _ _ h4)).2 ⟨h4,h5⟩,?_,fun f' hj=>?_⟩
  ·rw [qde hA hq n' hk,hu] at h2;exact h2
  ·obtain ⟨f,hf,he⟩:=zL.1 hj;have:=h3 f hf;rw [qde hA (hg f hf) n' hk,he] at this;exact this
 ·rintro ⟨g,h1,h2,h3⟩;have hc:=q9c _ _ _ h1;rw [zp] at hc;obtain ⟨ks',r',rfl,hk⟩:=g.cut2 (at_ d As).length (by omega);obtain ⟨h4,h5⟩:=(q8f L ks' r' _ _ hk).1 h1;rw [q4f] at hk;refine ⟨0,ks',r',⟨.inr ⟨rfl,As,hA,h4⟩,h5⟩,?_,fun f hf=>?_⟩
  ·rw [qde hA hq 0 hk,hu];exact h2
  ·rw [qde hA (hg f hf) 0 hk];cases he:q0t c As.length f with
   |none=>rfl
   |some f'=>exact h3 f' (zL.2 ⟨f,hf,he⟩)
theorem z4l {L:List DD} {T:List ND} {d:Nat} {Z:List TD} {c:Tx} {n:Int} {ks r:F} {As:List (List ND)} (hA:q2d L T c=some As) {fs:List F} (hc:∀f,f∈fs→ptF L f ((T,d+1)::Z)) (hq:ptF L (.cons 24 c n ks r) ((T,d+1)::Z)):Use L ((T,d+1)::Z) fs (.cons 24 c n ks r)↔Use L (at_ d As++Z) (fs.filterMap (q0t c As.length)) (ks.app r):=by
 have hu:q0t c As.length (.cons 24 c n ks r)=some (ks.app r):=by
  have e:q0t c As.length (.cons 24 c n ks r)=bif eqS c c then some (ks.app r) else none:=rfl
  rw [e,q12];rfl
 have hn:n=0:=by
  rcases hq.1 with h1|⟨_,_,⟨h1,_⟩|⟨_,h1,_⟩⟩
  ·cases h1
  ·cases h1
  ·exact h1
 subst hn;rw [←qny hA hc hq hu];constructor
 ·rintro ⟨g,h1,h2,h3⟩;obtain ⟨n',ks',r',rfl,_⟩:=z03 h2;exact ⟨n',ks',r',h1,h2,h3⟩
 ·rintro ⟨n',ks',r',h1,h2,h3⟩;exact ⟨_,h1,h2,h3⟩
theorem z5h {N:Int} {ks r g:F} (h:mt (.cons 23 [] N ks r) g=true):∃t' ks' r',g=.cons 51 t' N ks' r'∧mt r r'=true:=by
 cases g with
 |nil=>cases h
 |cons k' t' n' ks' r'=>
  rw [q1a,zd] at h;have e:q2l 23 [] N ks k' t' n' ks'=bif eqI k' 51&&eqI n' N then some [] else none:=rfl
  rw [e] at h;cases hc:eqI k' 51&&eqI n' N with
  |false=>rw [hc] at h;cases h.1
  |true=>rw [zd] at hc;have e1:k'=51:=zt hc.1;have e2:n'=N:=zt hc.2;subst e1 e2;exact ⟨t',ks',r',rfl,h.2⟩
theorem z14 {L:List DD} {T:List ND} {d:Nat} {Z:List TD} (hc:cnsT L T=[]) {f:F} (hf:ptF L f ((T,d)::Z)) (h0:int0 f) (t':Tx) (N:Int) (ks' r':F):mt f (.cons 51 t' N ks' r')=match q4h N f with|some g=>mt g r'|none=>false:=by
 cases f with
 |nil=>cases hf
 |cons k t n ks r=>
  have hu:q4h N (.cons k t n ks r)=bif q0l k then some r else bif eqI k 23&&eqI n N then some (ks.app r) else none:=rfl
  rw [hu,q1a];rcases hf.1 with h1|⟨d',e,⟨rfl,rfl,_,_⟩|⟨rfl,rfl,As',h2,h3⟩⟩
  ·rw [h1,q1x h1,Bool.true_and];rfl
  ·have hg:=(q3o h0).1 rfl;subst hg;have z1:q0l 23=false:=rfl;have e:q2l 23 [] n .nil 51 t' N ks'=bif true&&eqI N n then some [] else none:=rfl
   have z2:(eqI 23 23&&eqI n N)=eqI n N:=rfl;rw [z1,e,z2,cond_false];by_cases hn:n=N
   ·subst hn;rw [q1j];rfl
   ·rw [q2u hn,q2u (fun h=>hn h.symm)];rfl
  ·obtain ⟨c0,he,_⟩:=q22 h2;rw [hc] at he;cases he
theorem z4m {L:List DD} {T:List ND} {d:Nat} {Z:List TD} (hc:cnsT L T=[]) {fs:List F} (he:∀f,f∈fs→ptF L f ((T,d)::Z)∧int0 f) {N:Int} {ks r:F} (hq:ptF L (.cons 23 [] N ks r) ((T,d)::Z)):Use L ((T,d)::Z) fs (.cons 23 [] N ks r)↔Use L Z (fs.filterMap (q4h N)) r:=by
 obtain ⟨d',rfl⟩:∃d',d=d'+1:=by
  rcases hq.1 with h1|⟨d',e,_⟩
  ·cases h1
  ·exact ⟨d',e⟩
 constructor
 ·rintro ⟨g,h1,h2,h3⟩;obtain ⟨t',ks',r',rfl,h4⟩:=z5h h2;refine ⟨r',h1.2,h4,fun f' hj=>?_⟩;obtain ⟨f,hf,hg⟩:=zL.1 hj;have:=h3 f hf;rw [z14 hc (he f hf).1 (he f hf).2,hg] at this;exact this
 ·rintro ⟨r',h1,h2,h3⟩;refine ⟨.cons 51 [] N .nil r',⟨.inl ⟨hc,rfl,rfl⟩,h1⟩,?_,fun f hf=>?_⟩
  ·rw [q1a,h2];have e:q2l 23 [] N ks 51 [] N .nil=bif true&&eqI N N then some [] else none:=rfl
   rw [e,q1j];rfl
  ·rw [z14 hc (he f hf).1 (he f hf).2];cases hg:q4h N f with
   |none=>rfl
   |some f'=>exact h3 f' (zL.2 ⟨f,hf,hg⟩)
theorem z0a {L:List DD} {T:List ND} {d:Nat} {Z:List TD} {fs:List F} (hl:∀f,f∈fs→ptF L f ((T,d)::Z)) {k:Int} (hw:q0l k=true) {t:Tx} {n:Int} {ks r:F} (hj:cnsT L T=[]∨∃c,c∈cnsT L T∧fs.any (q0i 24 c.1 0)=false):Use L ((T,d)::Z) fs (.cons k t n ks r)↔Use L Z (fs.filterMap q3f) r:=by
 constructor
 ·rintro ⟨g,h1,h2,h3⟩;obtain ⟨k',t',n',ks',r',rfl,h4,h5⟩:=qqg h1;rw [q1a,q1x hw,Bool.true_and] at h2;refine ⟨r',h5,h2,fun f' ho=>?_⟩;obtain ⟨f,hf,hg⟩:=zL.1 ho;have h6:=h3 f hf;cases f with
  |nil=>cases hg
  |cons kf tf nf ksf rf=>
   have hg:(bif q0l kf then some rf else none)=some f':=hg;cases he:q0l kf with
   |false=>rw [he] at hg;cases hg
   |true=>
    rw [he] at hg;injection hg with hg;subst hg
    rw [q1a,q1x he,Bool.true_and] at h6;exact h6
 ·rintro ⟨r',h1,h2,h3⟩
  have hv:∃k' t' n' ks',tvF L (tr k' t' n' ks') [(T,d)]∧∀f,f∈fs→q21 f=false→∀x,mt f (.cons k' t' n' ks' x)=false:=by
   cases d with
   |zero=>
    refine ⟨54,[],0,.nil,⟨⟨rfl,rfl⟩,rfl⟩,fun f hf he x=>?_⟩;have hp:=hl f hf;cases f with
    |nil=>cases he
    |cons kf tf nf ksf rf=>
     have he:q0l kf=false:=he;rcases hp.1 with h4|⟨d',e,_⟩
     ·rw [he] at h4;cases h4
     ·cases e
   |succ d=>
    rcases hj with hc|⟨c,hc,hm⟩
    ·obtain ⟨N,_,hN⟩:=qwi fs;refine ⟨51,[],(N:Int),.nil,⟨.inl ⟨hc,rfl,rfl⟩,rfl⟩,fun f hf he x=>?_⟩;have hp:=hl f hf;cases f with
     |nil=>cases he
     |cons kf tf nf ksf rf=>
      have he:q0l kf=false:=he;rcases hp.1 with h4|⟨d',e,⟨rfl,rfl,_,_⟩|⟨rfl,rfl,As',h5,_⟩⟩
      ·rw [he] at h4;cases h4
      ·have hr:q0i 23 [] (N:Int) (.cons 23 [] nf ksf rf)=false:=by
        cases h:q0i 23 [] (N:Int) (.cons 23 [] nf ksf rf) with
        |false=>rfl
        |true=>rw [zJ.2 ⟨_,hf,h⟩] at hN;cases hN
       have hr:eqI nf (N:Int)=false:=hr;rw [q1a];have e:q2l 23 [] nf ksf 51 [] (N:Int) .nil=bif true&&eqI (N:Int) nf then some [] else none:=rfl
       have:eqI (N:Int) nf=false:=by
        cases h:eqI (N:Int) nf with
        |false=>rfl
        |true=>have h:(N:Int)=nf:=zt h;rw [h,q1j] at hr;cases hr
       rw [e,this];rfl
      ·obtain ⟨c0,hn,_⟩:=q22 h5;rw [hc] at hn;cases hn
    ·obtain ⟨As,hA⟩:=qbe hc;obtain ⟨gk,hq⟩:=z12 L (at_ d As);refine ⟨53,c.1,0,gk,⟨.inr ⟨rfl,As,hA,hq⟩,rfl⟩,fun f hf he x=>?_⟩;have hp:=hl f hf;cases f with
     |nil=>cases he
     |cons kf tf nf ksf rf=>
      have he:q0l kf=false:=he;rcases hp.1 with h4|⟨d',e,⟨rfl,rfl,_,h5⟩|⟨rfl,rfl,As',h5,_⟩⟩
      ·rw [he] at h4;cases h4
      ·rw [h5] at hc;cases hc
      ·have hr:q0i 24 c.1 0 (.cons 24 tf 0 ksf rf)=false:=by
        cases h:q0i 24 c.1 0 (.cons 24 tf 0 ksf rf) with
        |false=>rfl
        |true=>rw [zJ.2 ⟨_,hf,h⟩] at hm;cases hm
       have hr:(true&&(eqS tf c.1&&true))=false:=hr;rw [Bool.true_and,Bool.and_true] at hr;have h6:=q4g tf ksf c.1 0 gk (fun e=>by rw [e,q12] at hr;cases hr);rw [q1a] at h6 ⊢;have h6:((q2l 24 tf 0 ksf 53 c.1 0 gk).isSome&&true)=false:=h6;rw [Bool.and_true] at h6;rw [h6];rfl
  obtain ⟨k',t',n',ks',hs,ht⟩:=hv;refine ⟨.cons k' t' n' ks' r',tv_cons.2 ⟨hs,h1⟩,by rw [q1a,q1x hw,h2];rfl,fun f hf=>?_⟩;cases he:q21 f with
  |false=>exact ht f hf he r'
  |true=>
   cases f with
   |nil=>exact absurd (hl _ hf) (by intro h;cases h)
   |cons kf tf nf ksf rf=>have he:q0l kf=true:=he;rw [q1a,q1x he,Bool.true_and];refine h3 rf (zL.2 ⟨_,hf,?_⟩);show (bif q0l kf then some rf else none)=_;rw [he];rfl
theorem z38 {L:List DD} {T:List ND} {d:Nat} {Z:List TD} {fs:List F} (he:∀f,f∈fs→ptF L f ((T,d+1)::Z)) {k:Int} (hw:q0l k=true) {t:Tx} {n:Int} {ks r:F} (hq:ptF L (.cons k t n ks r) ((T,d+1)::Z)) {c0:CT} (hf:c0∈cnsT L T):Use L ((T,d+1)::Z) fs (.cons k t n ks r)↔∃c,c∈cnsT L T∧∃As,q2d L T c.1=some As∧Use L (at_ d As++Z) (fs.filterMap (q0t c.1 As.length)) ((anyF As.length).app r):=by
 have hu:∀c m,q0t c m (.cons k t n ks r)=some ((anyF m).app r):=fun c m=>by
  have e:q0t c m (.cons k t n ks r)=bif q0l k then some ((anyF m).app r) else bif eqI k 24&&eqS t c then some (ks.app r) else none:=rfl
  rw [e,hw];rfl
 constructor
 ·rintro ⟨g,h1,h2,h3⟩;obtain ⟨k',t',n',ks',r',rfl,h4,h5⟩:=qqg h1;rcases h4.1 with ⟨h6,_⟩|⟨rfl,As,hA,h7⟩
  ·rw [h6] at hf;cases hf
  ·obtain ⟨c,hc,rfl⟩:=q22 hA;exact ⟨c,hc,As,hA,(qny hA he hq (hu _ _)).1 ⟨n',ks',r',h1,h2,h3⟩⟩
 ·rintro ⟨c,hc,As,hA,h⟩;obtain ⟨n',ks',r',h1,h2,h3⟩:=(qny hA he hq (hu _ _)).2 h;exact ⟨_,h1,h2,h3⟩
end Fn
end Ev

namespace Ev
open Go
namespace Fn
theorem qfg (b0 b:Bool) (L:List DD) (hL:GD L) (T:List ND) (hT:T.length≤4000) (ho:GL T) (a:SSN) (ha:a.l.length≤1000) (hg:∀x,x∈a.l→x.l.length≤4000∧GL x.l):∃ok:Bool,f_bn (⟨b0,L⟩,⟨b,T⟩,a,())=some (bif ok then 0 else 120,())∧(ok=true↔q4p L=true∧q26 T=true∧∀x,x∈a.l→qa4 L T x.l):=by
 have hX:∀x,x∈(⟨false,[((21:Int),([]:Tx),(0:Int),(0:Int))]⟩:SN)::a.l→∃c:Bool,f_av (⟨b0,L⟩,⟨b,T⟩,x,())=some (bif c then 0 else 120,())∧(c=true↔q4p L=true∧q26 T=true∧qa4 L T x.l):=by
  intro x hx;have:x.l.length≤4000∧GL x.l:=by
   rcases zj.1 hx with rfl|hx
   ·exact ⟨by show 1≤_;omega,gAny⟩
   ·exact hg x hx
  obtain ⟨c,c1,c3⟩:=qwn L hL T (by omega) ho x.l this.1 this.2;exact ⟨c,c1 b0 b x.nil,c3⟩
 have hm:fit (sumI (lenI [(⟨false,[((21:Int),([]:Tx),(0:Int),(0:Int))]⟩:SN)]) (lenI a.l))=some ():=q0g (by show 1+a.l.length≤_;omega);rw [u_bn,u_b3];simp only [q00,hm];generalize hn:(app [(⟨false,[((21:Int),([]:Tx),(0:Int),(0:Int))]⟩:SN)] a.l)=X;generalize ht:andB false (isE a.l)=nb;have he:X=(⟨false,[((21:Int),([]:Tx),(0:Int),(0:Int))]⟩:SN)::a.l:=hn.symm;have hu:X.length=a.l.length+1:=by rw [he];rfl
 rw [←he] at hX;have:=q1d (f:=l1_bn) (I:=fun z=>∃i:Nat,z=(⟨b0,L⟩,⟨b,T⟩,lenI X,(i:Int),⟨nb,X⟩,())∧i≤X.length∧∀(j:Nat) x,j<i→X[j]?=some x→q4p L=true∧q26 T=true∧qa4 L T x.l)
  (Q:=fun r=>∃ok:Bool,r=(bif ok then 0 else 120,())∧(ok=true↔q4p L=true∧q26 T=true∧∀x,x∈a.l→qa4 L T x.l)) (fun z=>((X.length:Int)-z.2.2.2.1).toNat) ?_ (⟨b0,L⟩,⟨b,T⟩,lenI X,0,⟨nb,X⟩,()) ⟨0,rfl,Nat.zero_le _,fun j x hj=>by omega⟩
 ·obtain ⟨r,h1,e,h2,h3⟩:=this;exact ⟨e,by rw [h1,h2],h3⟩
 ·rintro z ⟨i,rfl,hi,hc⟩;by_cases h1:i<X.length
  ·obtain ⟨x,hx⟩:∃x,X[i]?=some x:=⟨_,zh h1⟩;obtain ⟨c,c1,c2⟩:=hX x (zn hx);have hf:nth X i=some x:=hx;cases c with
   |true=>
    have e0:eqI (bif true then 0 else 120) 0=true:=rfl;refine .inl ⟨(⟨b0,L⟩,⟨b,T⟩,lenI X,((i+1:Nat):Int),⟨nb,X⟩,()),?_,⟨i+1,rfl,h1,fun j y hj hy=>?_⟩,by simp only;omega⟩
    ·unfold l1_bn;simp only [ltG hx,q02,q31 h1,q00,hf,c1,e0,nT,q01,add1 (show i≤1000000000 by omega)]
    ·by_cases hq:j=i
     ·subst hq;rw [hx] at hy;injection hy with hy;subst hy
      exact c2.1 rfl
     ·exact hc j y (by omega) hy
   |false=>
    have e0:eqI (bif false then 0 else 120) 0=false:=rfl;refine .inr ⟨(120,()),?_,false,rfl,fun h=>(by cases h),fun hh=>?_⟩;rotate_left
    ·have hl:=zn hx;rw [he] at hl;rcases zj.1 hl with rfl|hl
     ·exact absurd (c2.2 ⟨hh.1,hh.2.1,z4h L T⟩) zZ
     ·exact absurd (c2.2 ⟨hh.1,hh.2.1,hh.2.2 x hl⟩) zZ
    unfold l1_bn;simp only [ltG hx,q02,q31 h1,q00,hf,c1,e0,nF];rfl
  ·obtain rfl:i=X.length:=by omega
   refine .inr ⟨(0,()),?_,true,rfl,fun _=>?_,fun _=>rfl⟩
   ·unfold l1_bn;simp only [ltE,q01]
   ·have h0:=hc 0 ⟨false,[(21,[],0,0)]⟩ (by omega) (by rw [he];rfl);refine ⟨h0.1,h0.2.1,fun x hx=>?_⟩;obtain ⟨j,hj,hs⟩:=jd.1 hx;exact (hc (j+1) x (by omega) (by rw [he,List.getElem?_cons_succ,zh hj,hs])).2.2
theorem z4n {p:List ND} {L:List DD} {T:List ND} (h:qa4 L T p) (hl:p.length≤30):∃f:F,f.flat=p∧f.cnt=1∧f.trees=[p]∧f.flat.all patQ=true∧f.size≤30∧ofF L f [T]=true∧isP p:=by obtain ⟨k,t,n,ks,rfl,h2,h3⟩:=h;rw [q27] at hl;exact ⟨tr k t n ks,rfl,rfl,rfl,z5f h2,by rw [q8b];exact hl,h3,k,t,n,ks,rfl,h2⟩
theorem qnz {L:List DD} {T:List ND}:∀a:List SN,(∀x,x∈a→qa4 L T x.l∧x.l.length≤30)→∃fs:List F,fs.length=a.length∧a.map (fun x=>[x.l])=fs.map F.trees∧(∀f,f∈fs→f.cnt=1∧f.flat.all patQ=true∧f.size≤30∧ofF L f [T]=true∧∃x,x∈a∧x.l=f.flat∧isP x.l)∧(∀x,x∈a→∃f,f∈fs∧f.flat=x.l∧f.cnt=1)
 |[],_=>⟨[],rfl,rfl,(fun f hf=>by cases hf),fun x hx=>by cases hx⟩
 |x::a,h=>by
  obtain ⟨fs,h1,h2,h3,h4⟩:=qnz a fun y hy=>h y (zf _ hy);obtain ⟨f,f1,f2,f3,f4,f5,f6,f7⟩:=z4n (h x (ze ..)).1 (h x (ze ..)).2;refine ⟨f::fs,by rw [zw,zw,h1],?_,fun g hg=>?_,fun y hy=>?_⟩
  ·rw [zV,zV,h2,f3]
  ·rcases zj.1 hg with rfl|hg
   ·exact ⟨f2,f4,f5,f6,x,ze ..,f1.symm,f7⟩
   ·obtain ⟨q1,q2,q3,q4,y,q5,q6⟩:=h3 g hg;exact ⟨q1,q2,q3,q4,y,zf _ q5,q6⟩
  ·rcases zj.1 hy with rfl|hy
   ·exact ⟨f,ze ..,f1,f2⟩
   ·obtain ⟨g,q1,q2⟩:=h4 y hy;exact ⟨g,zf _ q1,q2⟩
theorem z39 {L:List DD} (hc:L.all q0u=true):∀T:List ND,(hd T).2.1=[105,110,116]→cnsT L T=[]:=by
 intro T hT;unfold cnsT;cases hf:L.find? (q1e (hd T).1 (hd T).2.1 (hd T).2.2.2) with
 |none=>rfl
 |some d=>exfalso;have hm:=zK hf;have hb:=List.find?_some hf;unfold q1e at hb;rw [zd,zd] at hb;have et:=eqS_eq.1 hb.2.1;have h1:=zS.1 hc d hm;unfold q0u at h1;rw [zd] at h1;have h2:=h1.1;rw [et,hT,z2z] at h2;cases h2
theorem qo0 {L:List DD} (hc:L.all q0u=true) {T:List ND} {f:F} (h1:f.cnt=1) (h2:f.flat.all patQ=true) (h3:f.size≤30) (h4:ofF L f [T]=true):ptF L f [(T,30)]:=z36 (z39 hc) f [T] 30 h1 h2 h4 (Nat.le_trans (qnq f) h3)
theorem qiy (b0 b1 b2:Bool) (L:List DD) (hL:GD L) (T:List ND) (hT:T.length≤4000) (ho:GL T) (a:List SN) (ha:a.length≤6) (hg:∀x,x∈a→x.l.length≤30∧GL x.l):∃(w:SN) (ok:Bool) (e:Int),f_b1 (⟨b0,L⟩,⟨b1,T⟩,⟨b2,a⟩,())=some (w,ok,e,())∧(¬(q4p L=true∧q26 T=true∧∀x,x∈a→qa4 L T x.l)→w.l=[]∧ok=false∧e=120)∧((q4p L=true∧q26 T=true∧∀x,x∈a→qa4 L T x.l)→e=0∧∃fs:List F,fs.length=a.length∧a.map Sl.l=fs.map F.flat∧(∀f,f∈fs→f.cnt=1∧f.flat.all patQ=true∧f.size≤30∧ofF L f [T]=true∧isP f.flat)∧(ok=true→∃k t n ks,w.l=(tr k t n ks).flat∧ks.size+1≤4000∧GL w.l∧qa4 L T w.l∧ptF L (tr k t n ks) [(T,30)]∧∀g:F,g.cnt=1→mt (tr k t n ks) g=true→∀f,f∈fs→mt f g=false)∧(ok=false→w.l=[]∧∀g:F,tvF L g [(T,30)]→∃f,f∈fs∧mt f g=true)):=by
 obtain ⟨okr,he,h0⟩:=qfg b0 b1 L hL T hT ho ⟨b2,a⟩ (by show a.length≤_;omega) (fun x hx=>⟨by have:=(hg x hx).1;omega,(hg x hx).2⟩);rw [u_b1];simp only [he,q00];cases okr with
 |false=>have:eqI (bif false then 0 else 120) 0=false:=rfl;simp only [this,nF,q02];exact ⟨_,_,_,rfl,fun _=>⟨rfl,rfl,rfl⟩,fun h=>absurd (h0.2 h) zZ⟩
 |true=>
  obtain ⟨h1,h2,h3⟩:=h0.1 rfl;have e00:eqI (bif true then 0 else 120) 0=true:=rfl;simp only [e00,nT,q01];obtain ⟨fs,r1,r2,r3,r4⟩:=qnz (L:=L) (T:=T) a fun x hx=>⟨h3 x hx,(hg x hx).1⟩;obtain ⟨nb,hc⟩:=qh7 ⟨b2,a⟩ (by show a.length≤_;omega);have hq:=qfa (m:=30) fs fun f hf=>(r3 f hf).2.2.1;have hu:mu fs 1≤3601:=by unfold mu;omega
  have hm:=(q4e h1).1;obtain ⟨w,ok,hf,hF⟩:=qsk (s:=⟨b0,L⟩) hL hm (q4e h1).2.2.1 (types:=⟨false,[⟨b1,T⟩]⟩) (rows:=⟨nb,a.map fun x=>(⟨false,[x]⟩:SSN)⟩) (Z:=[(T,30)]) (fs:=fs) rfl (by
   show (a.map fun x=>(⟨false,[x]⟩:SSN)).map (fun r=>r.l.map Sl.l)=_;rw [zW];exact r2) ⟨by omega,fun f hf=>by
    obtain ⟨q1,q2,q3,q4,_⟩:=r3 f hf;have hs:mu fs (([(T,30)]:List TD).map (·.1)).length=mu fs 1:=rfl;exact ⟨q1,q2,by omega,q4⟩⟩ (fun f hf=>by
    obtain ⟨q1,q2,q3,q4,_⟩:=r3 f hf;exact qo0 hm q1 q2 q3 q4) (fun T' hl=>by
    rcases zj.1 hl with rfl|hl
    ·exact h2
    ·cases hl) (by show mu fs 1≤8000;omega)
  simp only [hc,q00,hf];have hn:∀f,f∈fs→f.cnt=1∧f.flat.all patQ=true∧f.size≤30∧ofF L f [T]=true∧isP f.flat:=fun f hf=>by obtain ⟨q1,q2,q3,q4,x,q5,q6,q7⟩:=r3 f hf;exact ⟨q1,q2,q3,q4,by rw [←q6];exact q7⟩
  have hj:a.map Sl.l=fs.map F.flat:=by
   have h5:(a.map fun x=>[x.l]).map List.flatten=(fs.map F.trees).map List.flatten:=by rw [r2]
   rw [zW,zW] at h5;have e1:a.map Sl.l=a.map (List.flatten∘fun x:SN=>[x.l]):=zX fun x _=>by show x.l=[x.l].flatten;simp
   have e2:fs.map F.flat=fs.map (List.flatten∘F.trees):=zX fun f _=>(F.trees_flat f).symm;rw [e1,e2];exact h5
  cases ok with
  |false=>simp only [nF,q02];exact ⟨_,_,_,rfl,fun h=>absurd ⟨h1,h2,h3⟩ h,fun _=>⟨rfl,fs,r1,hj,hn,(fun h=>by cases h),fun _=>⟨rfl,hF.2 rfl⟩⟩⟩
  |true=>
   obtain ⟨W,w1,w3,w4,w6,w7,w5⟩:=hF.1 rfl;have w6:ptF L W [(T,30)]:=w6;have w2:W.cnt=1:=q6s _ _ _ w6;obtain ⟨kW,tW,nW,ksW,rfl⟩:=q4x W w2;have w1:w.l.map Sl.l=[(tr kW tW nW ksW).flat]:=w1;have w3:ksW.size+1≤mu fs 1:=by have h:ksW.size+0+1≤mu fs 1:=w3;omega
   cases hw:w.l with
   |nil=>rw [hw] at w1;cases w1
   |cons y r=>rw [hw] at w1;injection w1 with w8 _;have ht:at? (y::r) 0=some y:=rfl;simp only [nT,q01,ht,q00];refine ⟨_,_,_,rfl,fun h=>absurd ⟨h1,h2,h3⟩ h,fun _=>⟨rfl,fs,r1,hj,hn,fun _=>⟨kW,tW,nW,ksW,w8,by omega,by rw [w8];exact w4,by rw [w8];exact witness (by omega) w6 w7,w6,w5⟩,fun h=>by cases h⟩⟩
end Fn
end Ev

namespace Ev
open Go
namespace Fn
abbrev SS:=SN×Tx×Int×Sl Int×Sl RO
def jn (r:RO):SS:=(r.x.1,r.x.2.1,r.x.2.2.1,r.x.2.2.2,r.s)
def rn (z:SS):RO:=.node (z.1,z.2.1,z.2.2.1,z.2.2.2.1) z.2.2.2.2.nil z.2.2.2.2.l
theorem z5i (r:RO):rn (jn r)=r:=by cases r;rfl
theorem z5j (z:SS):jn (rn z)=z:=rfl
theorem ru (s:Sl RO):q0y PS (q0c PS s)=s:=qmf PS s
theorem qfh (b:Bool) (l:List RO):q0y PS (⟨b,l.map jn⟩:Sl SS)=(⟨b,l⟩:Sl RO):=ru ⟨b,l⟩
def setK (r:RO) (b:Bool) (l:List RO):RO:=.node r.x b l
theorem qfi (r:RO) (b:Bool) (l:List RO):(setK r b l).kids=l:=rfl
theorem z3a (b:Bool) (l:List Int) (v:Int) (hl:l.length≤1000000):f_cd (⟨b,l⟩,v,())=some (decide (v∈l),()):=by
 rw [u_cd];refine (q10 l1_cd (fun i=>(⟨b,l⟩,v,i,())) l hl (fun _ x=>bif eqI x v then some (true,()) else none) (false,()) (fun k x hx hk=>?_) ?_).trans ?_
 ·unfold l1_cd;simp only [ltG hx,q02,q05 hx,q00,add1 (show k≤1000000000 by omega)];cases eqI x v<;>rfl
 ·unfold l1_cd;simp only [ltE,q01]
 ·rw [q44 (fun x=>eqI x v) (true,()) (false,()) l 0];have:(l.any fun x=>eqI x v)=decide (v∈l):=by
   rw [←z0u v l];congr 1;funext x;by_cases h:x=v
   ·subst h;rfl
   ·rw [q2u h,q2u (fun e=>h e.symm)]
  rw [this];cases decide (v∈l)<;>rfl
theorem qx9 (s:Sl DD) (hL:s.l.length≤1000) (b:Bool) (k:Int) (t:Tx) (n:Int) (ks:F):∃nb,f_cc (s,⟨b,(tr k t n ks).flat⟩,())=some (⟨nb,cnsT s.l (tr k t n ks).flat⟩,()):=by
 have h0:at? (tr k t n ks).flat 0=some (k,t,n,(ks.cnt:Int)):=q05 (i:=0) rfl;rw [u_cc];have e:=q10 l1_cc (fun i=>(s,⟨b,(tr k t n ks).flat⟩,i,())) s.l (by omega) (fun _ d=>bif q1e k t (ks.cnt:Int) d then some (d.2.2,()) else none) (⟨true,[]⟩,()) (fun i d hd hi=>by
  unfold l1_cc q1e;simp only [ltG hd,q02,h0,q05 hd,q00,add1 (show i≤1000000000 by omega),q01];cases eqI k 32 with
  |false=>rfl
  |true=>
   cases eqS d.1 t with
   |false=>rfl
   |true=>cases eqI d.2.1 (ks.cnt:Int)<;>rfl) (by
  unfold l1_cc;simp only [ltE,q01])
 rw [qlc (q1e k t (ks.cnt:Int)) (fun d=>(d.2.2,())) (⟨true,[]⟩,()) s.l 0] at e;have hc:cnsT s.l (tr k t n ks).flat=match s.l.find? (q1e k t (ks.cnt:Int)) with|some d=>d.2.2.l|none=>[]:=rfl
 rw [hc];cases hf:s.l.find? (q1e k t (ks.cnt:Int)) with
 |none=>rw [hf] at e;exact ⟨true,e⟩
 |some d=>rw [hf] at e;exact ⟨d.2.2.nil,e⟩
theorem qxa {s:Sl DD} (hL:GD s.l) (hm:s.l.all q0u=true) (hn:dupL (s.l.map fun d=>d.1)=false) (b:Bool) {T:List ND} (hT:q26 T=true) (c:Tx) {As:List (List ND)} (hA:q2d s.l T c=some As):∃x:RO,f_cf (s,⟨b,T⟩,c,())=some (jn x,())∧x.T=T∧x.con=c∧x.kids.map RO.T=As∧As.length≤8∧(∀k,k∈x.kids→k.con=[]∧k.nt=[]∧q26 k.T=true)∧x.nt=[]∧∀k,k∈x.kids→k.kids=[]:=by
 obtain ⟨hl,_,k,t,n,ks,rfl⟩:=(q20 T).1 hT;rw [q27] at hl;rw [q8z] at hA;rw [u_cf,qsg s hL hn b k t n ks hl c,q00];cases hc:conV s.l k t (ks.cnt:Int) c with
 |none=>rw [hc] at hA;cases hA
 |some ct=>
  rw [hc] at hA;injection hA with hA;obtain ⟨d,m1,m2,m3,m4⟩:=qiq hc;obtain ⟨r1,r2,r3,r4,r5,r6⟩:=q4d hm m1 m2;generalize hg:ct.2.l.map (argS false ks.trees)=X;have ho:X.length=ct.2.l.length:=by rw [←hg,zm]
  have hj:X.map Sl.l=As:=by rw [←hA,←hg,zW];exact zX fun a _=>ql8 false ks.trees a
  have hs:∀A,A∈X→q26 A.l=true:=fun A he=>by rw [←hg] at he;obtain ⟨a,ha,rfl⟩:=zR.1 he;rw [ql8];exact qda hT (r3 a ha)
  have e:=q1z l1_cf (fun i (q:Sl SS)=>(⟨false,X⟩,i,([]:Tx),0,⟨b,(tr k t n ks).flat⟩,c,0,⟨true,[]⟩,⟨true,[]⟩,⟨true,[]⟩,⟨true,[]⟩,q,())) X
   (fun (q:Sl SS) A=>(⟨false,q.l++[(A,([]:Tx),(0:Int),(⟨true,[]⟩:Sl Int),q0y PS (⟨true,[]⟩:Sl SS))]⟩:Sl SS)) (fun q=>((⟨b,(tr k t n ks).flat⟩,c,0,⟨true,[]⟩,q0y PS q),())) (fun i q=>i≤X.length∧q.l.length=i) ⟨true,[]⟩ ⟨Nat.zero_le _,rfl⟩
   (fun i A q hx hi=>by obtain ⟨nb,ql⟩:=q;have h2:ql.length=i:=hi.2;have ht:=getL hx;have hf:∀z:SS,fit (sumI (lenI ql) (lenI [z]))=some ():=fun z=>q0g (by show ql.length+1≤_;omega);refine ⟨?_,ht,by show (ql++[_]).length=_;rw [zp,h2];rfl⟩;unfold l1_cf;simp only [ltG hx,q02,q05 hx,q00,hf,q13,add1 (show i≤1000000000 by omega)];rfl)
   (fun q _=>by unfold l1_cf;simp only [ltE,q01])
  rw [q8d (fun A:SN=>((A,([]:Tx),(0:Int),(⟨true,[]⟩:Sl Int),q0y PS (⟨true,[]⟩:Sl SS)):SS))] at e;let K:List RO:=X.map fun A=>(.node (A,[],0,⟨true,[]⟩) true []:RO);have hK:(X.map fun A:SN=>((A,([]:Tx),(0:Int),(⟨true,[]⟩:Sl Int),q0y PS (⟨true,[]⟩:Sl SS)):SS))=K.map jn:=by show _=(X.map _).map jn;rw [zW];rfl
  rw [List.nil_append,hK,qfh] at e;refine ⟨.node (⟨b,(tr k t n ks).flat⟩,c,0,⟨true,[]⟩) (true&&X.isEmpty) K,by subst hg;exact e,rfl,rfl,?_,by rw [←hj,zm,ho];exact r2,fun q hq=>?_,rfl,fun q hq=>?_⟩
  ·show K.map RO.T=As;rw [←hj];show (X.map _).map RO.T=_;rw [zW];rfl
  ·obtain ⟨A,he,rfl⟩:=zR.1 (show q∈X.map _ from hq);exact ⟨rfl,rfl,hs A he⟩
  ·obtain ⟨A,he,rfl⟩:=zR.1 (show q∈X.map _ from hq);rfl
theorem app3 {α:Type} (a b c:List α):app (app (app [] a) b) c=a++b++c:=rfl
theorem z4o (r k:RO) (i:Int):f_ch (jn r,i,jn k,())=bnd (cutL (r.kids.map jn) 0 i) fun x0=>bnd (fit (sumI (lenI ([]:List SS)) (lenI x0))) fun _=>bnd (fit (sumI (lenI (app ([]:List SS) x0)) (lenI [jn k]))) fun _=>bnd (cutL (r.kids.map jn) (addI .i64 i 1) (lenI (r.kids.map jn))) fun x3=>bnd (fit (sumI (lenI (app (app ([]:List SS) x0) [jn k])) (lenI x3))) fun _=>some ((r.x.1,r.x.2.1,r.x.2.2.1,r.x.2.2.2,q0y PS (⟨andB (andB (andB false (isE x0)) (isE [jn k])) (isE x3),app (app (app ([]:List SS) x0) [jn k]) x3⟩:Sl SS)),()):=by obtain ⟨⟨T,c,n,m⟩,b,l⟩:=r;obtain ⟨⟨T',c',n',m'⟩,b',l'⟩:=k;have e:=u_ch T c n m ⟨b,l⟩ i T' c' n' m' ⟨b',l'⟩;rw [ru] at e;exact e
theorem qiz (r k:RO) (O K:List RO) (k0:RO) (h:r.kids=O++k0::K) (hl:r.kids.length≤100000):f_ch (jn r,(O.length:Int),jn k,())=some (jn (setK r false (O++k::K)),()):=by
 rw [h,zp,zw] at hl;have hc:r.kids.map jn=O.map jn++jn k0::K.map jn:=by rw [h,zE,zV]
 have he:(O.map jn++jn k0::K.map jn).length=O.length+(K.length+1):=by rw [zp,zw,zm,zm]
 have c1:cutL (O.map jn++jn k0::K.map jn) 0 (O.length:Int)=some (O.map jn):=by have:=qit (O.map jn++jn k0::K.map jn) O.length (by omega);rw [this,je (by rw [zm];omega),jc (by rw [zm];omega)]
 have c2:cutL (O.map jn++jn k0::K.map jn) ((O.length+1:Nat):Int) (lenI (O.map jn++jn k0::K.map jn))=some (K.map jn):=by rw [qwh _ _ (by omega)];congr 1;rw [show O.length+1=(O.map jn).length+1 by rw [zm],List.drop_append];simp
 have f1:fit (sumI (lenI ([]:List SS)) (lenI (O.map jn)))=some ():=q0g (by show 0+(O.map jn).length≤_;rw [zm];omega);have f2:fit (sumI (lenI (app ([]:List SS) (O.map jn))) (lenI [jn k]))=some ():=q0g (by show (O.map jn).length+1≤_;rw [zm];omega);have f3:fit (sumI (lenI (app (app ([]:List SS) (O.map jn)) [jn k])) (lenI (K.map jn)))=some ():=q0g (by show (O.map jn++[jn k]).length+(K.map jn).length≤_;rw [zp,zm,zm];show O.length+1+K.length≤_;omega);rw [z4o,hc];simp only [c1,q00,f1,f2,add1 (show O.length≤1000000000 by omega),c2,f3];have e:app (app (app ([]:List SS) (O.map jn)) [jn k]) (K.map jn)=(O++k::K).map jn:=by rw [app3,zE,zV,zC];rfl
 rw [e,qfh];rfl
end Fn
end Ev

namespace Ev
open Go
namespace Fn
theorem qqi {L:List DD} (he:L.all q0u=true) {T:List ND} (hT:q26 T=true) {c:Tx} {As:List (List ND)} (hA:q2d L T c=some As):∀A,A∈As→q26 A=true:=by
 obtain ⟨hl,_,k,t,n,ks,rfl⟩:=(q20 T).1 hT;rw [q8z] at hA;cases hc:conV L k t (ks.cnt:Int) c with
 |none=>rw [hc] at hA;cases hA
 |some ct=>rw [hc] at hA;injection hA with hA;obtain ⟨d,m1,m2,m3,m4⟩:=qiq hc;obtain ⟨r1,r2,r3,r4,r5,r6⟩:=q4d he m1 m2;subst hA;intro A hA;obtain ⟨a,ha,rfl⟩:=zR.1 hA;exact qda hT (r3 a ha)
inductive NtB (B:Nat):RO→Prop
 |mk (r:RO) (h:r.nt.length≤B) (hk:∀k,k∈r.kids→NtB B k):NtB B r
theorem NtB.nt {B:Nat} {r:RO} (h:NtB B r):r.nt.length≤B:=by cases h;assumption
theorem NtB.kid {B:Nat} {r:RO} (h:NtB B r):∀k,k∈r.kids→NtB B k:=by cases h;assumption
theorem NtB.up {B:Nat} {r:RO} (h:NtB B r):NtB (B+1) r:=by
 induction h with
 |mk r h hk ih=>exact .mk r (by omega) ih
theorem NtB.set {B:Nat} {r:RO} (h:NtB B r) (b:Bool) {O K:List RO} {k o:RO} (hr:r.kids=O++k::K) (ho:NtB B o):NtB B (setK r b (O++o::K)):=by
 refine .mk _ h.nt fun x hx=>?_;rw [qfi] at hx;rcases zo.1 hx with hx|hx
 ·exact h.kid x (by rw [hr];exact zo.2 (.inl hx))
 ·rcases zj.1 hx with rfl|hx
  ·exact ho
  ·exact h.kid x (by rw [hr];exact zo.2 (.inr (zf _ hx)))
theorem NtB.mid {B:Nat} {r:RO} (h:NtB B r) {O K:List RO} {k:RO} (hr:r.kids=O++k::K):NtB B k:=h.kid k (by rw [hr];exact zo.2 (.inr (ze ..)))
abbrev z0b:=(Sl DD×SS×SN×Int×Unit)→Option (SS×Unit)
def qhc (s:Sl DD) (b:Bool) (l:List ND) (M:Nat) (self:z0b):Prop:=
 ∀(q:Nat) (kp:Int) (tp:Tx) (np:Int) (kk:F) (d:Nat) (k:RO),kk.size+1≤M→Sits l q (tr kp tp np kk)→ptF s.l (tr kp tp np kk) [(k.T,d)]→q26 k.T=true→Wf s.l d k→(∃g,svF s.l g [(k,d)]∧mt (tr kp tp np kk) g=true)→
  ∃o,self (s,jn k,⟨b,l⟩,(q:Int),())=some (jn o,())∧qbg s.l d (tr kp tp np kk) k o∧∀B,NtB B k→NtB B o
abbrev OS:=Sl DD×SN×Sl Int×Int×SN×Tx×Int×Sl Int×Sl SS×Tx×Int×SN×Sl Int×Sl SS×Unit
def oS (s:Sl DD) (b:Bool) (l:List ND) (fp:Bool) (PP:List Int) (i:Int) (r:RO):OS:=(s,⟨b,l⟩,⟨fp,PP⟩,i,r.x.1,r.x.2.1,r.x.2.2.1,r.x.2.2.2,⟨r.s.nil,r.kids.map jn⟩,[],0,⟨true,[]⟩,⟨true,[]⟩,⟨true,[]⟩,())
theorem qqj {PP:List Int} {i q1:Nat} {k:Int} {t:Tx} {n:Int} {ks r:F} (h:PP.drop i=(F.cons k t n ks r).pos q1):PP[i]?=some (q1:Int)∧PP.drop (i+1)=r.pos (q1+1+ks.size):=by
 constructor
 ·have:=congrArg List.head? h;rw [List.head?_drop] at this;exact this
 ·have:=congrArg List.tail h;rw [List.tail_drop] at this;exact this
theorem qxb {α β:Type} (f:α→β) (O K:List α) (k:α):at? ((O++k::K).map f) (O.length:Int)=some (f k):=q05 (by rw [zT,zY (Nat.le_refl _),Nat.sub_self];rfl)
theorem qxc (r:RO):((r.x.1,r.x.2.1,r.x.2.2.1,r.x.2.2.2,(⟨r.s.nil,r.kids⟩:Sl RO)):SS)=jn r:=by cases r;rfl
theorem qxd {s:Sl DD} {b:Bool} {l:List ND} {M:Nat} {self:z0b} (hc:qhc s b l M self) (d:Nat) (fp:Bool) (PP:List Int) (ho:PP.length≤10000):∀(P:F) (i q1:Nat) (O K:List RO) (r:RO),PP.drop i=P.pos q1→Sits l q1 P→r.kids=O++K→O.length=i→i+P.cnt=PP.length→P.cnt=K.length→ptF s.l P (at_ d (K.map RO.T))→(∀k,k∈K→q26 k.T=true∧Wf s.l d k)→HitK s.l d P K→P.size≤M→∃(O':List RO) (r':RO),loopR (l1_cg self) (oS s b l fp PP (i:Int) r)=some (jn r',())∧r'.x=r.x∧r'.kids=O++O'∧qsm s.l d P K O'∧∀B,NtB B r→NtB B r':=by
 intro P
 induction P with
 |nil=>intro i q1 O K r h1 s1 h2 h3 h4 h5 h6 h7 h8 h9;have hi:i=PP.length:=h4;have hK:K=[]:=zD h5.symm;subst hK;subst hi;refine ⟨[],r,q0b ?_,rfl,h2,qx8 _ _,fun _ h=>h⟩;unfold l1_cg oS;simp only [ltE,q01,ru,qfh,qxc]
 |cons kp tp np kk P _ ih=>
  intro i q1 O K r h1 s1 h2 h3 h4 h5 h6 h7 h8 h9;obtain ⟨hp,hg⟩:=qqj h1;cases K with
  |nil=>cases h5
  |cons k K=>
   have h4:i+(P.cnt+1)=PP.length:=h4;have h5:P.cnt+1=K.length+1:=h5;have h9:kk.size+P.size+1≤M:=h9;have hf:=(qfb s.l (tr kp tp np kk) P [(k.T,d)] (at_ d (K.map RO.T)) rfl).1 h6;have hk:=h7 k (ze ..);have hh:=(qfe (by omega)).1 h8;obtain ⟨o,hj,hl,hm⟩:=hc q1 kp tp np kk d k (by omega) s1.first hf.1 hk.1 hk.2 hh.1;subst h3;have he:=qiz r o O K k h2 (by rw [h2,zp,zw];omega);have hn:at? (r.kids.map jn) (O.length:Int)=some (jn k):=by rw [h2];exact qxb jn O K k
   have step:l1_cg self (oS s b l fp PP (O.length:Int) r)=some (.inl (oS s b l fp PP ((O.length+1:Nat):Int) (setK r false (O++o::K)))):=by unfold l1_cg oS;simp only [ltG hp,q02,hn,q05 hp,q00,hj,qfh,qxc,he,add1 (show O.length≤1000000000 by omega)];rfl
   obtain ⟨O',r',e1,e2,e3,e4,e5⟩:=ih (O.length+1) _ (O++[o]) K (setK r false (O++o::K)) hg s1.node.2.2.1 (by rw [qfi,zC];rfl) (by rw [zp];rfl) (by omega) (by omega) hf.2 (fun x hx=>h7 x (zf _ hx)) hh.2 (by omega);refine ⟨o::O',r',?_,e2,by rw [e3,zC];rfl,qsn hl e4,fun B hB=>e5 B (hB.set false h2 (hm B (hB.mid h2)))⟩;rw [q0h step];exact e1
theorem qxe {L:List DD} {d:Nat} {r:RO} (h:Wf L (d+1) r) {t:Tx} {As:List (List ND)} (hA:q2d L r.T t=some As) (he:r.con≠[]):∃Bs,q2h r.con=true∧q2d L r.T r.con=some Bs∧r.kids.map RO.T=Bs∧∀k,k∈r.kids→Wf L d k:=by
 cases h with
 |any _ _ h _=>exact absurd h he
 |num _ _ _ h2=>obtain ⟨c0,hc,_⟩:=q22 hA;rw [h2] at hc;cases hc
 |con _ _ Bs h1 h2 h3 h4=>exact ⟨Bs,h1,h2,h3,h4⟩
theorem z4p {L:List DD} {d:Nat} {r:RO} (h:Wf L d r) {t:Tx} {As:List (List ND)} (hA:q2d L r.T t=some As) (he:r.con=[]):r.nt=[]:=by
 obtain ⟨c0,hc,_⟩:=q22 hA;cases h with
 |any _ _ _ h2=>exact h2 fun e=>by rw [e] at hc;cases hc
 |num _ _ h1 _=>rw [h1] at he;cases he
 |con _ _ _ h1 _ _ _=>rw [he,q6t] at h1;cases h1
theorem qxf {x:RO} (h1:∀k,k∈x.kids→k.con=[]∧k.nt=[]∧q26 k.T=true) (h2:x.nt=[]∧∀k,k∈x.kids→k.kids=[]) (B:Nat):NtB B x:=.mk x (by rw [h2.1];exact Nat.zero_le _) fun k hk=>.mk k (by rw [(h1 k hk).2.1];exact Nat.zero_le _) fun y hy=>by rw [h2.2 k hk] at hy;cases hy
theorem qxg {s:Sl DD} (hL:GD s.l) (hm:s.l.all q0u=true) (hn:dupL (s.l.map fun d=>d.1)=false) {b:Bool} {l:List ND} (hl:l.length≤4000) {M:Nat} {self:z0b} (ho:qhc s b l M self):qhc s b l (M+1) (g_cg self):=by
 intro q kp tp np kk d r hM hs hB hT hW hit;have hf:=hs.node;have h0:at? l (q:Int)=some (kp,tp,np,(kk.cnt:Int)):=q05 hf.1;have hj:=qc7 b l (by omega) hs;have hC:=u_cg self s r.x.1 r.x.2.1 r.x.2.2.1 r.x.2.2.2 r.s ⟨b,l⟩ (q:Int);rw [show g_cg self (s,jn r,⟨b,l⟩,(q:Int),())=_ from hC];simp only [h0,q00];rcases hB.1 with h1|⟨d',rfl,⟨rfl,rfl,h2,h3⟩|⟨rfl,rfl,As,hA,h4⟩⟩
 ·have hw:(cnd (eqI kp 21) (some true) (some (eqI kp 22)):Option Bool)=some true:=by
   have h1:(eqI kp 21||eqI kp 22)=true:=h1;cases e:eqI kp 21 with
   |true=>rfl
   |false=>rw [e,Bool.false_or] at h1;rw [h1];rfl
  simp only [hw,q00,q02,ru];exact ⟨r,rfl,qx5 h1 tp np kk hW,fun _ h=>h⟩
 ·have z1:eqI 23 21=false:=rfl;have z2:eqI 23 22=false:=rfl;have z3:eqI 23 23=true:=rfl;simp only [z1,z2,z3,q01,q02,q00];refine ⟨.node (r.x.1,[35],np,⟨true,[]⟩) true [],rfl,z06 hW h3 kk hit rfl rfl rfl,fun B _=>.mk _ (Nat.zero_le _) fun k hk=>by cases hk⟩
 ·have z1:eqI 24 21=false:=rfl;have z2:eqI 24 22=false:=rfl;have z3:eqI 24 23=false:=rfl;simp only [z1,z2,z3,q01,q00];have hg:=q6s _ _ _ h4;rw [q4f] at hg;have hJ:=F.cnt_le kk;have hq:=hf.2.2.2;have hK:(kk.pos (q+1)).length=kk.cnt:=F.pos_len kk (q+1);have run:∀r0:RO,r0.kids.map RO.T=As→(∀k,k∈r0.kids→q26 k.T=true∧Wf s.l d' k)→HitK s.l d' kk r0.kids→∃(O':List RO) (r':RO),loopR (l1_cg self) (oS s b l false (kk.pos (q+1)) 0 r0)=some (jn r',())∧r'.x=r0.x∧r'.kids=O'∧qsm s.l d' kk r0.kids O'∧∀B,NtB B r0→NtB B r':=by
   intro r0 hu hD hE;have hN:r0.kids.length=As.length:=by rw [←hu,zm]
   exact qxd ho d' false (kk.pos (q+1)) (by omega) kk 0 (q+1) [] r0.kids r0 rfl hf.2.1 rfl rfl (by omega) (by omega) (by rw [hu];exact h4) hD hE (by omega)
  cases he:eqS r.x.2.1 ([]:Tx) with
  |true=>
   have ht:r.con=[]:=eqS_eq.1 he;have hv:=z4p hW hA ht;obtain ⟨x,x1,x2,x3,x4,x5,x6,x7⟩:=qxa hL hm hn r.x.1.nil hT tp hA;have x1:f_cf (s,r.x.1,tp,())=some (jn x,()):=x1;have hx:OfC r tp As x:=⟨x2,x3,x4,fun k hk=>⟨(x6 k hk).1,(x6 k hk).2.1⟩⟩;have hO:=qx7 hm hA hx (d:=d');have hy:q2h x.con=true:=by rw [x3];exact qbf hm hA
   have hF:kk.cnt=x.kids.length:=by rw [hg,←x4,zm]
   have hG:HitK s.l d' kk x.kids:=by
    obtain ⟨g,g1,g2⟩:=hit;obtain ⟨c0,hH,_⟩:=q22 hA;obtain ⟨c,As',n',ks',a1,rfl,a3⟩:=(qcd ht hv hH).1 g1;by_cases hc:c=tp
    ·subst hc;rw [hA] at a1;injection a1 with a1;subst a1
     obtain ⟨_,_,e,h5⟩:=(q7s hy).1 ((qcz hm hA hx).2 ⟨n',ks',rfl,a3⟩);injection e with e1 e2 e3 e4 e5;subst e4;refine ⟨_,h5,?_⟩;rw [qcy _ _ _ _ _ (by rw [q9c _ _ _ a3,q4f,hg]),q12] at g2;exact g2
    ·rw [q4g _ _ _ _ _ hc] at g2;cases g2
   simp only [q02,x1,q00];obtain ⟨O',r',e1,e2,e3,e4,e5⟩:=run x x4 (fun k hk=>⟨(x6 k hk).2.2,.any _ _ (x6 k hk).1 fun _=>(x6 k hk).2.1⟩) hG;refine ⟨r',?_,?_,fun B _=>e5 B (qxf x6 x7 B)⟩
   ·show bnd (f_bx (⟨b,l⟩,(q:Int),())) _=_;rw [hj,q00];exact e1
   ·have h7:qbg s.l (d'+1) (tr 24 x.con 0 kk) x r':=qqf hy (As:=As) (by rw [x2,x3];exact hA) x4 kk hF e4 (by show r'.x.1.l=x.x.1.l;rw [e2]) (by show r'.x.2.1=x.x.2.1;rw [e2]) e3;rw [x3] at h7;exact z08 hm ht hv hA hx h7
  |false=>
   have ht:r.con≠[]:=fun e=>by have e:r.x.2.1=[]:=e;rw [e] at he;cases he
   obtain ⟨Bs,w1,w2,w3,w4⟩:=qxe hW hA ht;obtain ⟨g,g1,g2⟩:=hit;obtain ⟨n',ks',rfl,h5⟩:=(q7s w1).1 g1;have hI:r.con=tp:=by
    by_cases h:r.con=tp
    ·exact h
    ·rw [q4g _ _ _ _ _ h] at g2;cases g2
   subst hI;rw [hA] at w2;injection w2 with w2;subst w2
   have hz:kk.cnt=r.kids.length:=by rw [hg,←w3,zm]
   rw [qcy _ _ _ _ _ (by rw [q2x _ _ _ h5,qfc,hz]),q12] at g2;simp only [q01,q00];obtain ⟨O',r',e1,e2,e3,e4,e5⟩:=run r w3 (fun k hk=>⟨qqi hm hT hA _ (by rw [←w3];exact zR.2 ⟨k,hk,rfl⟩),w4 k hk⟩) ⟨ks',h5,g2⟩;refine ⟨r',?_,qqf w1 hA w3 kk hz e4 (by show r'.x.1.l=r.x.1.l;rw [e2]) (by show r'.x.2.1=r.x.2.1;rw [e2]) e3,e5⟩;show bnd (f_bx (⟨b,l⟩,(q:Int),())) _=_;rw [hj,q00];exact e1
theorem qxh {K K':z0b} (h:∀x,lq (K x) (K' x)) (x:Sl DD×SS×SN×Int×Unit):lq (g_cg K x) (g_cg K' x):=by
 have l1:∀z,lq (l1_cg K z) (l1_cg K' z):=fun z=>by
  unfold l1_cg
  repeat' first|exact h _|exact q07 _|apply q98|apply q99|(intro _)|apply q65
 obtain ⟨a,⟨c1,c2,c3,c4,c5⟩,e,f,⟨⟩⟩:=x;rw [u_cg,u_cg]
 repeat' first|exact h _|exact q07 _|exact qbc l1 _|apply q98|apply q99|(intro _)|apply q65
theorem qxi:∀N,∀x,lq (recN g_cg N x) (recN g_cg (N+1) x)
 |0,_=>fun _ e=>by cases e
 |N+1,x=>qxh (qxi N) x
theorem qxj {N:Nat} {x:Sl DD×SS×SN×Int×Unit} {y:SS×Unit} (h:recN g_cg N x=some y):∀k,recN g_cg (N+k) x=some y
 |0=>h
 |k+1=>qxi (N+k) x y (qxj h k)
theorem z15 {s:Sl DD} (hL:GD s.l) (hc:s.l.all q0u=true) (hn:dupL (s.l.map fun d=>d.1)=false) (b:Bool) {l:List ND} (hl:l.length≤4000):∀M,qhc s b l M (recN g_cg M)
 |0=>fun q kp tp np kk d k hM=>by omega
 |M+1=>qxg hL hc hn hl (z15 hL hc hn b hl M)
theorem qxk {s:Sl DD} (hL:GD s.l) (hc:s.l.all q0u=true) (hn:dupL (s.l.map fun d=>d.1)=false) (b:Bool) {l:List ND} (hl:l.length≤4000) (M:Nat):qhc s b l M f_cg:=by intro q kp tp np kk d k hM hs he hT hW hit;obtain ⟨o,h1,h2,h3⟩:=z15 hL hc hn b hl M q kp tp np kk d k hM hs he hT hW hit;refine ⟨o,q7c M fun N hN=>?_,h2,h3⟩;obtain ⟨j,rfl⟩:=Nat.le.dest hN;exact qxj h1 j
end Fn
end Ev

namespace Ev
open Go
namespace Fn
abbrev qxl:=(Sl DD×SS×SN×Int×Unit)→Option (Sl SS×Bool×Unit)
def qhd (s:Sl DD) (b:Bool) (l:List ND) (B M:Nat) (self:qxl):Prop:=
 ∀(q:Nat) (kp:Int) (tp:Tx) (np:Int) (kk:F) (d:Nat) (k:RO),2*(kk.size+1)+(if k.con=[] then 1 else 0)≤M→Sits l q (tr kp tp np kk)→ptF s.l (tr kp tp np kk) [(k.T,d)]→q26 k.T=true→Wf s.l d k→NtB B k→
  ∃(nb:Bool) (out:List RO) (hit:Bool),self (s,jn k,⟨b,l⟩,(q:Int),())=some (⟨nb,out.map jn⟩,hit,())∧q6u s.l d (tr kp tp np kk) k out hit∧(∀m,m∈out→NtB (B+1) m)∧out.length≤60*kk.size+(if k.con=[] then 60 else 1)
abbrev L3T:=Sl DD×SN×Sl Int×Int×SN×Tx×Int×Sl Int×Sl SS×Sl SS×SN×Tx×Int×Sl Int×Sl SS×Unit
def l3S (s:Sl DD) (b:Bool) (l:List ND) (fp:Bool) (PP:List Int) (i:Int) (r0:RO) (out:Sl SS) (r:RO):L3T:=(s,⟨b,l⟩,⟨fp,PP⟩,i,r0.x.1,r0.x.2.1,r0.x.2.2.1,r0.x.2.2.2,⟨r0.s.nil,r0.kids.map jn⟩,out,r.x.1,r.x.2.1,r.x.2.2.1,r.x.2.2.2,⟨r.s.nil,r.kids.map jn⟩,())
abbrev L2T:=Sl DD×SN×Sl Int×Int×Sl SS×Bool×Int×SN×Tx×Int×Sl Int×Sl SS×Sl SS×SN×Tx×Int×Sl Int×Sl SS×Unit
def l2S (s:Sl DD) (b:Bool) (l:List ND) (fp:Bool) (PP:List Int) (i:Int) (m:Sl SS) (is:Bool) (j:Int) (r0:RO) (out:Sl SS) (r:RO):L2T:=(s,⟨b,l⟩,⟨fp,PP⟩,i,m,is,j,r0.x.1,r0.x.2.1,r0.x.2.2.1,r0.x.2.2.2,⟨r0.s.nil,r0.kids.map jn⟩,out,r.x.1,r.x.2.1,r.x.2.2.1,r.x.2.2.2,⟨r.s.nil,r.kids.map jn⟩,())
theorem z16 {s:Sl DD} {b:Bool} {l:List ND} {fp:Bool} {PP:List Int} {q1:Nat} {r0 r k:RO} {O K:List RO} (hr:r.kids=O++k::K) (hl:r.kids.length≤100000) (hp:PP[O.length]?=some (q1:Int)) (mb:Bool) (m:List RO) (is:Bool) (ob:Bool) (out:List SS) (ho:out.length+m.length≤1000000) (o:RO) (he:is=true→f_cg (s,jn k,⟨b,l⟩,(q1:Int),())=some (jn o,())):∃nb,loopR l2_ce (l2S s b l fp PP (O.length:Int) ⟨mb,m.map jn⟩ is 0 r0 ⟨ob,out⟩ r)=some (bif is then .inl (l3S s b l fp PP ((O.length+1:Nat):Int) r0 ⟨nb,out++(m.map fun y=>setK r false (O++y::K)).map jn⟩ (setK r false (O++o::K))) else .inr (⟨false,[jn r0]⟩,false,())):=by
 have hg:(m.map jn).length=m.length:=zm _;have hn:at? (r.kids.map jn) (O.length:Int)=some (jn k):=by rw [hr];exact qxb jn O K k
 have e:=q1z l2_ce (fun j (a:Sl SS)=>l2S s b l fp PP (O.length:Int) ⟨mb,m.map jn⟩ is j r0 a r) (m.map jn) (fun (a:Sl SS) x=>(⟨false,a.l++[jn (setK r false (O++rn x::K))]⟩:Sl SS))
  (fun a=>bif is then .inl (l3S s b l fp PP ((O.length+1:Nat):Int) r0 a (setK r false (O++o::K))) else .inr (⟨false,[jn r0]⟩,false,())) (fun j a=>j≤m.length∧a.l.length=out.length+j) ⟨ob,out⟩ ⟨Nat.zero_le _,rfl⟩
  (fun j x a hx hi=>by obtain ⟨nb,al⟩:=a;have h2:al.length=out.length+j:=hi.2;have hj:=getL hx;rw [hg] at hj;have hc:=qiz r (rn x) O K k hr hl;rw [z5j] at hc;have hf:∀z:SS,fit (sumI (lenI al) (lenI [z]))=some ():=fun z=>q0g (by show al.length+1≤_;omega);refine ⟨?_,hj,by show (al++[_]).length=_;rw [zp,h2];rfl⟩;unfold l2_ce l2S;simp only [ltG hx,q02,q05 hx,q00,qfh,qxc,hc,hf,q13,add1 (show j≤1000000000 by omega)];rfl)
  (fun a _=>by
   unfold l2_ce l2S;simp only [ltE,q01];cases is with
   |false=>simp only [nF,q02,qfh,qxc,cond_false]
   |true=>
    have hc:=qiz r o O K k hr hl;have hq:O.length≤1000000000:=by rw [hr,zp] at hl;omega
    simp only [nT,q01,hn,q00,q05 hp,he rfl,qfh,qxc,hc,add1 hq];rfl)
 rw [q8d (fun x=>jn (setK r false (O++rn x::K)))] at e;have hm:(m.map jn).map (fun x=>jn (setK r false (O++rn x::K)))=(m.map fun y=>setK r false (O++y::K)).map jn:=by rw [zW,zW];exact zX fun y _=>by show jn (setK r false (O++rn (jn y)::K))=_;rw [z5i];rfl
 rw [hm] at e;exact ⟨_,e⟩
theorem qxm {s:Sl DD} {b:Bool} {l:List ND} {B M:Nat} {self:qxl} (he:qhd s b l B M self) {M2:Nat} (hf:qhc s b l M2 f_cg) (d:Nat) (fp:Bool) (PP:List Int) (hG:PP.length≤10000) (r0:RO):∀(P:F) (i q1:Nat) (O K:List RO) (r:RO) (ob:Bool) (out:List SS),PP.drop i=P.pos q1→Sits l q1 P→r.kids=O++K→O.length=i→i+P.cnt=PP.length→P.cnt=K.length→ptF s.l P (at_ d (K.map RO.T))→(∀k,k∈K→q26 k.T=true∧Wf s.l d k)→(∀k,k∈O→Wf s.l d k)→2*P.size+1≤M→P.size≤M2→out.length+60*P.size≤1000000→NtB B r→∃(nb:Bool) (new:List RO) (hit:Bool),loopR (l3_ce self) (l3S s b l fp PP (i:Int) r0 ⟨ob,out⟩ r)=some (bif hit then (⟨nb,out++new.map jn⟩,true,()) else (⟨false,[jn r0]⟩,false,()))∧(hit=true↔HitK s.l d P K)∧(hit=true→∃nk,KOut s.l d O P K nk∧(∀m,m∈new→m.x=r.x∧m.kids∈nk)∧(∀kl,kl∈nk→∃m,m∈new∧m.x=r.x∧m.kids=kl))∧(∀m,m∈new→NtB (B+1) m)∧new.length≤60*P.size:=by
 intro P
 induction P with
 |nil=>intro i q1 O K r ob out h1 s1 h2 h3 h4 h5 h6 h7 h8 h9 hn ho hg;have hi:i=PP.length:=h4;have hK:K=[]:=zD h5.symm;subst hK;subst hi;refine ⟨ob,[],true,q0b ?_,⟨fun _=>⟨.nil,rfl,rfl⟩,fun _=>rfl⟩,fun _=>⟨[],z07 _ _ _,(fun m hm=>by cases hm),fun kl hk=>by cases hk⟩,(fun m hm=>by cases hm),Nat.zero_le _⟩;unfold l3_ce l3S;simp only [ltE,q01,List.map_nil,zG];rfl
 |cons kp tp np kk P _ ih=>
  intro i q1 O K r ob out h1 s1 h2 h3 h4 h5 h6 h7 h8 h9 hn ho hg;obtain ⟨hp,hw⟩:=qqj h1;cases K with
  |nil=>cases h5
  |cons k K=>
   have h4:i+(P.cnt+1)=PP.length:=h4;have h5:P.cnt+1=K.length+1:=h5;have h9:2*(kk.size+P.size+1)+1≤M:=h9;have hn:kk.size+P.size+1≤M2:=hn;have ho:out.length+60*(kk.size+P.size+1)≤1000000:=ho;have hq:=(qfb s.l (tr kp tp np kk) P [(k.T,d)] (at_ d (K.map RO.T)) rfl).1 h6;have hk:=h7 k (ze ..);obtain ⟨mb,m,is,hA,hs,hB,ht⟩:=he q1 kp tp np kk d k (by split<;>omega) s1.first hq.1 hk.1 hk.2 (hg.mid h2);have ht:m.length≤60*kk.size+60:=by split at ht<;>omega
   subst h3;have hu:r.kids.length≤100000:=by rw [h2,zp,zw];omega
   have hC:at? (r.kids.map jn) (O.length:Int)=some (jn k):=by rw [h2];exact qxb jn O K k
   have enter:∀z,loopR l2_ce (l2S s b l fp PP (O.length:Int) ⟨mb,m.map jn⟩ is 0 r0 ⟨ob,out⟩ r)=some z→l3_ce self (l3S s b l fp PP (O.length:Int) r0 ⟨ob,out⟩ r)=some z:=fun z hz=>by unfold l3_ce l3S;simp only [ltG hp,q02,hC,q05 hp,q00,hA];exact hz
   cases is with
   |false=>obtain ⟨nb,hc⟩:=z16 (s:=s) (b:=b) (l:=l) (fp:=fp) (r0:=r0) h2 hu hp mb m false ob out (by omega) k (fun h=>by cases h);refine ⟨nb,[],false,q0b (enter _ hc),⟨fun h=>(by cases h),fun h=>?_⟩,(fun h=>by cases h),(fun x hx=>by cases hx),Nat.zero_le _⟩;have:=((qfe (by omega)).1 h).1;exact absurd (hs.2.2.2 this) zZ
   |true=>
    have hj:=hs.2.2.1 rfl;obtain ⟨o,hD,hv,hE⟩:=hf q1 kp tp np kk d k (by omega) s1.first hq.1 hk.1 hk.2 hj;obtain ⟨nb,hc⟩:=z16 (s:=s) (b:=b) (l:=l) (fp:=fp) (r0:=r0) h2 hu hp mb m true ob out (by omega) o (fun _=>hD);have hF:(out++(m.map fun y=>setK r false (O++y::K)).map jn).length=out.length+m.length:=by rw [zp,zm,zm]
    obtain ⟨nb2,new,hit,e1,e2,e3,e4,e5⟩:=ih (O.length+1) _ (O++[o]) K (setK r false (O++o::K)) nb (out++(m.map fun y=>setK r false (O++y::K)).map jn) hw s1.node.2.2.1 (by rw [qfi,zC];rfl) (by rw [zp];rfl) (by omega) (by omega) hq.2
     (fun x hx=>h7 x (zf _ hx)) (fun x hx=>by
      rcases zo.1 hx with hx|hx
      ·exact h8 x hx
      ·rw [zu] at hx;subst hx;exact hv.1) (by omega) (by omega) (by rw [hF];omega) (hg.set false h2 (hE B (hg.mid h2)))
    refine ⟨nb2,(m.map fun y=>setK r false (O++y::K))++new,hit,?_,?_,fun hh=>?_,fun x hx=>?_,by rw [zp,zm];show m.length+new.length≤60*(kk.size+P.size+1);omega⟩
    ·rw [q0h (enter _ hc)];rw [zE,←zC];exact e1
    ·rw [e2,qfe (by omega)];exact ⟨fun h=>⟨hj,h⟩,fun h=>h.2⟩
    ·obtain ⟨nk,k1,k2,k3⟩:=e3 hh;refine ⟨m.map (fun x=>O++x::K)++nk,qx6 h8 (fun x hx=>(h7 x (zf _ hx)).2) hs hv k1 (by omega),fun x hx=>?_,fun kl hl=>?_⟩
     ·rcases zo.1 hx with hx|hx
      ·obtain ⟨y,hy,rfl⟩:=zR.1 hx;exact ⟨rfl,zo.2 (.inl (zR.2 ⟨y,hy,rfl⟩))⟩
      ·obtain ⟨a1,a2⟩:=k2 x hx;exact ⟨a1,zo.2 (.inr a2)⟩
     ·rcases zo.1 hl with hl|hl
      ·obtain ⟨y,hy,rfl⟩:=zR.1 hl;exact ⟨setK r false (O++y::K),zo.2 (.inl (zR.2 ⟨y,hy,rfl⟩)),rfl,rfl⟩
      ·obtain ⟨x,a1,a2,a3⟩:=k3 kl hl;exact ⟨x,zo.2 (.inr a1),a2,a3⟩
    ·rcases zo.1 hx with hx|hx
     ·obtain ⟨y,hy,rfl⟩:=zR.1 hx;exact hg.up.set false h2 (hB y hy)
     ·exact e4 x hx
end Fn
end Ev

namespace Ev
open Go
namespace Fn
theorem z17 {L:List DD} (hc:L.all q0u=true) (T:List ND):(cnsT L T).length≤60:=by
 unfold cnsT;cases hd:L.find? (q1e (hd T).1 (hd T).2.1 (hd T).2.2.2) with
 |none=>exact Nat.zero_le _
 |some d=>have h1:=zS.1 hc d (zK hd);unfold q0u at h1;simp only [zd] at h1;have h2:((d.2.2.l.length:Nat):Int)≤60:=zt h1.2.2.2.2.1;show d.2.2.l.length≤60;omega
theorem qqk:∀(L:List DD),dupL (q68 L)=false→∀d,d∈L→dupL (d.2.2.l.map fun c=>c.1)=false
 |[],_,d,h=>by cases h
 |x::L,hd,d,h=>by
  have hd:dupL ((x.2.2.l.map fun c=>c.1)++q68 L)=false:=hd;have h1:=qiv _ _ hd;rcases zj.1 h with rfl|h
  ·exact h1.1
  ·exact qqk L h1.2 d h
theorem z3b {L:List DD} (hc:dupL (q68 L)=false) (T:List ND):((cnsT L T).map fun c=>c.1).Nodup:=by
 unfold cnsT;cases hd:L.find? (q1e (hd T).1 (hd T).2.1 (hd T).2.2.2) with
 |none=>exact List.nodup_nil
 |some d=>exact (q8x _).1 (qqk L hc d (zK hd))
theorem qso {α:Type} {l:List α} (h:l.Nodup) {i:Nat} {x:α} (hx:l[i]?=some x):x∉l.take i:=by
 have h1:l.take (i+1)=l.take i++[x]:=by rw [List.take_add_one,hx];rfl
 have h2:(l.take (i+1)).Nodup:=h.sublist (List.take_sublist ..);rw [h1,List.nodup_append] at h2;exact fun hm=>h2.2.2 x hm x (zu.2 rfl) rfl
abbrev L1T:=Sl DD×SN×Int×Bool×Sl CT×Int×SN×Tx×Int×Sl Int×Sl SS×Int×Tx×Int×Int×Sl SS×Unit
def l1S (s:Sl DD) (b:Bool) (l:List ND) (q:Int) (hit:Bool) (cs:Sl CT) (i:Int) (r:RO) (x:ND) (out:Sl SS):L1T:=(s,⟨b,l⟩,q,hit,cs,i,r.x.1,r.x.2.1,r.x.2.2.1,r.x.2.2.2,⟨r.s.nil,r.kids.map jn⟩,x.1,x.2.1,x.2.2.1,x.2.2.2,out,())
theorem z0c {s:Sl DD} (hL:GD s.l) (hl:s.l.all q0u=true) (hn:dupL (s.l.map fun d=>d.1)=false) (hu:dupL (q68 s.l)=false) {b:Bool} {l:List ND} {B M:Nat} {self:qxl} (ho:qhd s b l B M self) {q:Nat} {tp:Tx} {kk:F} {d':Nat} {r:RO} (hM:2*(kk.size+1)≤M) (hQ:kk.size≤4000) (hs:Sits l q (tr 24 tp 0 kk)) (hF:ptF s.l (tr 24 tp 0 kk) [(r.T,d'+1)]) (hT:q26 r.T=true) (hG:r.con=[]) (hH:r.nt=[]) (nb0:Bool) {As:List (List ND)} (hA:q2d s.l r.T tp=some As):∃(nb:Bool) (out:List RO) (hit:Bool),loopR (l1_ce self) (l1S s b l (q:Int) false ⟨nb0,cnsT s.l r.T⟩ 0 r (24,tp,0,(kk.cnt:Int)) ⟨false,[]⟩)=some (⟨nb,out.map jn⟩,hit,())∧q6u s.l (d'+1) (tr 24 tp 0 kk) r out hit∧(∀m,m∈out→NtB (B+1) m)∧out.length≤60*kk.size+60:=by
 have hR:=z17 hl r.T;have hI:=z3b hu r.T;obtain ⟨c0,hz,_⟩:=q22 hA;generalize hC:cnsT s.l r.T=cs at*
 have:=q1d (f:=l1_ce self)
  (I:=fun z=>∃(i:Nat) (nb:Bool) (out:List RO) (hit:Bool),z=l1S s b l (q:Int) hit ⟨nb0,cs⟩ (i:Int) r (24,tp,0,(kk.cnt:Int)) ⟨nb,out.map jn⟩∧i≤cs.length∧qff s.l d' (tr 24 tp 0 kk) r (cs.take i) out hit∧(∀m,m∈out→NtB (B+1) m)∧
   out.length≤i+60*kk.size∧(tp∉(cs.take i).map (fun c=>c.1)→out.length≤i))
  (Q:=fun z=>∃(nb:Bool) (out:List RO) (hit:Bool),z=(⟨nb,out.map jn⟩,hit,())∧q6u s.l (d'+1) (tr 24 tp 0 kk) r out hit∧(∀m,m∈out→NtB (B+1) m)∧out.length≤60*kk.size+60)
  (fun z=>((cs.length:Int)-z.2.2.2.2.2.1).toNat) ?_ (l1S s b l (q:Int) false ⟨nb0,cs⟩ 0 r (24,tp,0,(kk.cnt:Int)) ⟨false,[]⟩)
  ⟨0,false,[],false,rfl,Nat.zero_le _,qsl _ _ _ _,(fun m hm=>by cases hm),Nat.zero_le _,fun _=>Nat.le_refl _⟩
 ·obtain ⟨z,h1,nb,out,hit,h2,h3⟩:=this;exact ⟨nb,out,hit,by rw [h1,h2],h3⟩
 ·rintro z ⟨i,nb,out,hit,rfl,hi,hg,hv,hJ,hj⟩;by_cases h1:i<cs.length
  ·obtain ⟨c,hc⟩:∃c,cs[i]?=some c:=⟨_,zh h1⟩;have hq:cs.take (i+1)=cs.take i++[c]:=by rw [List.take_add_one,hc];rfl
   have hK:c∈cnsT s.l r.T:=by rw [hC];exact zn hc
   obtain ⟨Bs,hB⟩:=qbe hK;obtain ⟨x,x1,x2,x3,x4,x5,x6,x7⟩:=qxa hL hl hn r.x.1.nil hT c.1 hB;have x1:f_cf (s,r.x.1,c.1,())=some (jn x,()):=x1;have hx:OfC r c.1 Bs x:=⟨x2,x3,x4,fun k hk=>⟨(x6 k hk).1,(x6 k hk).2.1⟩⟩;have jx:((jn x).1,(jn x).2.1,(jn x).2.2.1,(jn x).2.2.2.1,q0y PS (q0c PS (jn x).2.2.2.2))=jn x:=by rw [ru]
   have hS:(out.map jn).length=out.length:=zm _;cases he:eqS c.1 tp with
   |false=>
    have hN:c.1≠tp:=fun e=>by rw [e,q12] at he;cases he
    have hf:∀z:SS,fit (sumI (lenI (out.map jn)) (lenI [z]))=some ():=fun z=>q0g (by show (out.map jn).length+1≤_;omega);refine .inl ⟨l1S s b l (q:Int) hit ⟨nb0,cs⟩ ((i+1:Nat):Int) r (24,tp,0,(kk.cnt:Int)) ⟨false,(out++[x]).map jn⟩,?_,⟨i+1,false,out++[x],hit,rfl,h1,?_,fun m hm=>?_,by rw [zp];show out.length+1≤_;omega,fun ht=>?_⟩,by show ((cs.length:Int)-((i+1:Nat):Int)).toNat<((cs.length:Int)-(i:Int)).toNat;omega⟩
    ·unfold l1_ce l1S;simp only [ltG hc,q02,q05 hc,q00,x1,he,nF,jx,hf,qli,q13,add1 (show i≤1000000000 by omega),zE];rfl
    ·rw [hq];exact qlp hl hg hB hx hN
    ·rcases zo.1 hm with hm|hm
     ·exact hv m hm
     ·rw [zu] at hm;subst hm;exact qxf x6 x7 _
    ·have:out.length≤i:=hj fun hm=>ht (by rw [hq,zE];exact zo.2 (.inl hm));rw [zp];show out.length+1≤_;omega
   |true=>
    have hD:=eqS_eq.1 he;have ht:tp∉(cs.take i).map fun c=>c.1:=by have:=qso hI (i:=i) (x:=c.1) (by rw [zT,hc];rfl);rw [List.map_take,←hD];exact this
    have hU:=hj ht;have hO:=qx7 hl hB hx (d:=d');have hE:x.con≠[]:=fun e=>by have:=qbf hl hB;rw [←x3,e,q6t] at this;cases this
    have hP:ptF s.l (tr 24 tp 0 kk) [(x.T,d'+1)]:=by rw [x2];exact hF
    obtain ⟨mb,m,is,m1,m2,m3,m4⟩:=ho q 24 tp 0 kk (d'+1) x (by rw [if_neg hE];omega) hs hP (by rw [x2];exact hT) hO (qxf x6 x7 B);rw [if_neg hE] at m4;have hV:(m.map jn).length=m.length:=zm _;have hf:fit (sumI (lenI (out.map jn)) (lenI (m.map jn)))=some ():=q0g (by show (out.map jn).length+(m.map jn).length≤_;omega);have hh:hit=false:=by
     cases hh:hit with
     |false=>rfl
     |true=>
      obtain ⟨c',a1,g,⟨As',n',ks',b1,rfl,b3⟩,a3⟩:=hg.2.2.1 hh;by_cases e:c'.1=tp
      ·exact absurd (zR.2 ⟨c',a1,e⟩) ht
      ·rw [q4g _ _ _ _ _ e] at a3;cases a3
    refine .inl ⟨l1S s b l (q:Int) is ⟨nb0,cs⟩ ((i+1:Nat):Int) r (24,tp,0,(kk.cnt:Int)) ⟨andB nb (isE (m.map jn)),(out++m).map jn⟩,?_,⟨i+1,_,out++m,is,rfl,h1,?_,fun y hy=>?_,by rw [zp];omega,fun hw=>?_⟩,by show ((cs.length:Int)-((i+1:Nat):Int)).toNat<((cs.length:Int)-(i:Int)).toNat;omega⟩
    ·unfold l1_ce l1S;simp only [ltG hc,q02,q05 hc,q00,x1,he,nT,q01,jx,m1,hf,qli,add1 (show i≤1000000000 by omega),zE];rfl
    ·rw [hq];exact qnw hl hg hB hx m2 (.inl hh)
    ·rcases zo.1 hy with hy|hy
     ·exact hv y hy
     ·exact m3 y hy
    ·exact absurd (by rw [hq,zE];exact zo.2 (.inr (zu.2 hD.symm))) hw
  ·obtain rfl:i=cs.length:=by omega
   refine .inr ⟨(⟨nb,out.map jn⟩,hit,()),?_,nb,out,hit,rfl,?_,hv,by omega⟩
   ·unfold l1_ce l1S;simp only [ltE,q01]
   ·rw [List.take_length] at hg;rw [←hC] at hg hz;exact qnx hG hH hz hg
theorem qxn {s:Sl DD} (hL:GD s.l) (hz:s.l.all q0u=true) (hn:dupL (s.l.map fun d=>d.1)=false) (hC:dupL (q68 s.l)=false) {b:Bool} {l:List ND} (hl:l.length≤4000) {B:Nat} (hB:B≤1000) {M:Nat} {self:qxl} (hu:qhd s b l B M self):qhd s b l B (M+1) (g_ce self):=by
 intro q kp tp np kk d r hM hs hF hT hW ht;have hj:=hs.node;have h0:at? l (q:Int)=some (kp,tp,np,(kk.cnt:Int)):=q05 hj.1;have hv:=qc7 b l (by omega) hs;have hq:=hj.2.2.2;have hH:=u_ce self s r.x.1 r.x.2.1 r.x.2.2.1 r.x.2.2.2 r.s ⟨b,l⟩ (q:Int);rw [show g_ce self (s,jn r,⟨b,l⟩,(q:Int),())=_ from hH];simp only [h0,q00,ru];have jr:((r.x.1,r.x.2.1,r.x.2.2.1,r.x.2.2.2,r.s):SS)=jn r:=rfl;rcases hF.1 with h1|⟨d',rfl,⟨rfl,rfl,h2,h3⟩|⟨rfl,rfl,As,hA,h4⟩⟩
 ·have hw:(cnd (eqI kp 21) (some true) (some (eqI kp 22)):Option Bool)=some true:=by
   have h1:(eqI kp 21||eqI kp 22)=true:=h1;cases e:eqI kp 21 with
   |true=>rfl
   |false=>rw [e,Bool.false_or] at h1;rw [h1];rfl
  simp only [hw,q00,q02];exact ⟨true,[],true,rfl,qx4 h1 tp np kk hW,(fun m hm=>by cases hm),Nat.zero_le _⟩
 ·have z1:eqI 23 21=false:=rfl;have z2:eqI 23 22=false:=rfl;have z3:eqI 23 23=true:=rfl;simp only [z1,z2,z3,q01,q02,q00];have hD:=z3a r.x.2.2.2.nil r.x.2.2.2.l np (by have:=ht.nt;show r.nt.length≤_;omega);have hD:f_cd (r.x.2.2.2,np,())=some (decide (np∈r.nt),()):=hD;have hf:(60*kk.size+if r.con=[] then 60 else 1)≥1:=by split<;>omega
  cases he:eqS r.x.2.1 ([35]:Tx) with
  |true=>
   have hg:r.con=[35]:=eqS_eq.1 he;simp only [q02,q00];cases ho:eqI r.x.2.2.1 np with
   |true=>have ho:r.num=np:=zt ho;simp only [q02];exact ⟨true,[],true,rfl,qix hW h3 kk hg ho,(fun m hm=>by cases hm),Nat.zero_le _⟩
   |false=>
    simp only [q01];refine ⟨false,[r],false,rfl,qcx hW h3 kk (.inl ⟨hg,fun e=>?_⟩),fun m hm=>?_,hf⟩
    ·have e:r.x.2.2.1=np:=e;rw [e,q1j] at ho;cases ho
    ·rw [zu] at hm;subst hm;exact ht.up
  |false=>
   have hg:r.con=[]:=by
    cases hW with
    |any _ _ h _=>exact h
    |num _ _ h _=>have h:r.x.2.1=[35]:=h;rw [h] at he;cases he
    |con _ _ As h h6 _ _=>obtain ⟨c0,hG,_⟩:=q22 h6;rw [h3] at hG;cases hG
   simp only [q01,q00,hD];cases hd:decide (np∈r.nt) with
   |true=>simp only [q02];refine ⟨false,[r],false,rfl,qcx hW h3 kk (.inr ⟨hg,zt hd⟩),fun m hm=>?_,hf⟩;rw [zu] at hm;subst hm;exact ht.up
   |false=>
    have f1:fit (sumI (lenI ([]:List Int)) (lenI r.x.2.2.2.l))=some ():=q0g (by have:=ht.nt;show 0+r.nt.length≤_;omega);have f2:fit (sumI (lenI (app ([]:List Int) r.x.2.2.2.l)) (lenI [np]))=some ():=q0g (by have:=ht.nt;show r.nt.length+1≤_;omega);simp only [q01,f1,f2,q00];let r':RO:=.node (r.x.1,r.x.2.1,r.x.2.2.1,⟨andB (andB false (isE r.x.2.2.2.l)) (isE [np]),app (app ([]:List Int) r.x.2.2.2.l) [np]⟩) r.s.nil r.s.l;refine ⟨false,[r'],true,rfl,qln hW h3 kk hg (of_decide_eq_false hd) rfl hg (fun x=>?_),fun m hm=>?_,hf⟩
    ·show x∈app (app ([]:List Int) r.x.2.2.2.l) [np]↔_;rw [show app (app ([]:List Int) r.x.2.2.2.l) [np]=r.nt++[np] from rfl,zo,zu]
    ·rw [zu] at hm;subst hm;refine .mk _ ?_ fun k hk=>(ht.kid k hk).up;show (r.nt++[np]).length≤_;have:=ht.nt;rw [zp];show r.nt.length+1≤_;omega
 ·have z1:eqI 24 21=false:=rfl;have z2:eqI 24 22=false:=rfl;have z3:eqI 24 23=false:=rfl;simp only [z1,z2,z3,q01,q00];have hx:=q6s _ _ _ h4;rw [q4f] at hx;have hO:=F.cnt_le kk;have hP:(kk.pos (q+1)).length=kk.cnt:=F.pos_len kk (q+1);cases he:eqS r.x.2.1 ([]:Tx) with
  |true=>have hg:r.con=[]:=eqS_eq.1 he;have hI:=z4p hW hA hg;rw [if_pos hg] at hM ⊢;obtain ⟨kT,tT,nT',ksT,hJ⟩:=((q20 r.T).1 hT).2.2;have hc:=qx9 s hL.1 r.x.1.nil kT tT nT' ksT;rw [←hJ] at hc;obtain ⟨nb0,hc⟩:=hc;have hc:f_cc (s,r.x.1,())=some (⟨nb0,cnsT s.l r.T⟩,()):=hc;simp only [q02,hc,q00];exact z0c hL hz hn hC hu (by omega) (by omega) hs hF hT hg hI nb0 hA
  |false=>
   have hg:r.con≠[]:=fun e=>by have e:r.x.2.1=[]:=e;rw [e] at he;cases he
   obtain ⟨Bs,w1,w2,w3,w4⟩:=qxe hW hA hg;rw [if_neg hg] at hM ⊢;simp only [q01];cases hy:eqS r.x.2.1 tp with
   |false=>
    have hK:r.con≠tp:=fun e=>by have e:r.x.2.1=tp:=e;rw [e,q12] at hy;cases hy
    simp only [nF,q02];refine ⟨false,[r],false,rfl,qnu hW w1 tp kk hK,fun m hm=>?_,by show 1≤_;omega⟩;rw [zu] at hm;subst hm;exact ht.up
   |true=>
    have hy:r.con=tp:=eqS_eq.1 hy;subst hy;rw [hA] at w2;injection w2 with w2;subst w2
    have hE:kk.cnt=r.kids.length:=by rw [hx,←w3,zm]
    simp only [nT,q01,hv,q00];obtain ⟨nb,new,hit,e1,e2,e3,e4,e5⟩:=qxm hu (qxk hL hz hn b hl kk.size) d' false (kk.pos (q+1)) (by omega) r kk 0 (q+1) [] r.kids r false [] rfl hj.2.1 rfl rfl (by omega) hE (by rw [w3];exact h4)
     (fun k hk=>⟨qqi hz hT hA _ (by rw [←w3];exact zR.2 ⟨k,hk,rfl⟩),w4 k hk⟩) (fun k hk=>by cases hk) (by omega) (Nat.le_refl _) (by show 0+_≤_;omega) ht
    have e1:loopR (l3_ce self) (s,⟨b,l⟩,⟨false,kk.pos (q+1)⟩,0,r.x.1,r.x.2.1,r.x.2.2.1,r.x.2.2.2,q0c PS r.s,⟨false,[]⟩,r.x.1,r.x.2.1,r.x.2.2.1,r.x.2.2.2,q0c PS r.s,())=_:=e1;rw [e1];cases hit with
    |true=>
     obtain ⟨nk,k1,k2,k3⟩:=e3 rfl;refine ⟨nb,new,true,rfl,qlo hW w1 hA w3 kk hE k1 (e2.1 rfl) (fun m hm=>?_) (fun kl hN=>?_),e4,by omega⟩
     ·obtain ⟨a1,a2⟩:=k2 m hm;exact ⟨by show m.x.1.l=r.x.1.l;rw [a1],by show m.x.2.1=r.x.2.1;rw [a1],a2⟩
     ·obtain ⟨m,a1,a2,a3⟩:=k3 kl hN;exact ⟨m,a1,by show m.x.1.l=r.x.1.l;rw [a2],by show m.x.2.1=r.x.2.1;rw [a2],a3⟩
    |false=>refine ⟨false,[r],false,rfl,qnv hW w1 kk hE (fun h=>absurd (e2.2 h) zZ),fun m hm=>?_,by show 1≤_;omega⟩;rw [zu] at hm;subst hm;exact ht.up
theorem qxo {K K':qxl} (h:∀x,lq (K x) (K' x)) (x:Sl DD×SS×SN×Int×Unit):lq (g_ce K x) (g_ce K' x):=by
 have l1:∀z,lq (l1_ce K z) (l1_ce K' z):=fun z=>by
  unfold l1_ce
  repeat' first|with_reducible exact h _|with_reducible exact q07 _|with_reducible apply q98|with_reducible apply q99|(intro _)|with_reducible apply q65
 have l3:∀z,lq (l3_ce K z) (l3_ce K' z):=fun z=>by
  unfold l3_ce
  repeat' first|with_reducible exact h _|with_reducible exact q07 _|with_reducible apply q98|with_reducible apply q99|(intro _)|with_reducible apply q65
 obtain ⟨a,⟨c1,c2,c3,c4,c5⟩,e,f,⟨⟩⟩:=x;rw [u_ce,u_ce]
 repeat' first|with_reducible exact h _|with_reducible exact q07 _|with_reducible exact qbc l1 _|with_reducible exact qbc l3 _|with_reducible apply q98|with_reducible apply q99|(intro _)|with_reducible apply q65
theorem qxp:∀N,∀x,lq (recN g_ce N x) (recN g_ce (N+1) x)
 |0,_=>fun _ e=>by cases e
 |N+1,x=>qxo (qxp N) x
theorem qxq {N:Nat} {x:Sl DD×SS×SN×Int×Unit} {y:Sl SS×Bool×Unit} (h:recN g_ce N x=some y):∀k,recN g_ce (N+k) x=some y
 |0=>h
 |k+1=>qxp (N+k) x y (qxq h k)
theorem z18 {s:Sl DD} (hL:GD s.l) (he:s.l.all q0u=true) (hn:dupL (s.l.map fun d=>d.1)=false) (hc:dupL (q68 s.l)=false) (b:Bool) {l:List ND} (hl:l.length≤4000) {B:Nat} (hB:B≤1000):∀M,qhd s b l B M (recN g_ce M)
 |0=>fun q kp tp np kk d k hM=>by omega
 |M+1=>qxn hL he hn hc hl hB (z18 hL he hn hc b hl hB M)
theorem qxr {s:Sl DD} (hL:GD s.l) (he:s.l.all q0u=true) (hn:dupL (s.l.map fun d=>d.1)=false) (hc:dupL (q68 s.l)=false) (b:Bool) {l:List ND} (hl:l.length≤4000) {B:Nat} (hB:B≤1000) (M:Nat):qhd s b l B M f_ce:=by intro q kp tp np kk d k hM hs hf hT hW hg;obtain ⟨nb,out,hit,h1,h2⟩:=z18 hL he hn hc b hl hB M q kp tp np kk d k hM hs hf hT hW hg;refine ⟨nb,out,hit,q7c M fun N hN=>?_,h2⟩;obtain ⟨j,rfl⟩:=Nat.le.dest hN;exact qxq h1 j
end Fn
end Ev

namespace Ev
open Go
namespace Fn
theorem qo1 (N:Int) (s:SR) {i:Nat} {r:SSN} (hr:s.l[i]?=some r) (hi:i≤1000) {f:F} (hq:RowOf r f) (hn:f≠.nil) (hQ:f.flat.all patQ=true) (hk:f.size≤9999) (no:Bool) (o:List SSN) (ho:o.length≤1000):∃s',l1_bq (0,s,lenI s.l,(i:Int),23,[],N,0,⟨no,o⟩,())=some (.inl (0,s,lenI s.l,((i+1:Nat):Int),23,[],N,0,s',()))∧match q4h N f with
   |some g=>∃nb r',s'=⟨nb,o++[r']⟩∧RowOf r' g
   |none=>s'=⟨no,o⟩:=by
 cases f with
 |nil=>exact absurd rfl hn
 |cons k t n ks g=>
  have hg:(F.cons k t n ks g).size=ks.size+g.size+1:=rfl;obtain ⟨b,rest,e1,e2⟩:=hq.cons;obtain ⟨rn,rl⟩:=r;have e1:rl=_:=e1;subst e1;have hy:rest.length=g.cnt:=by rw [←F.trees_len,←e2,zm]
  have hz:g.cnt≤g.size:=F.cnt_le g;have hA:ks.cnt≤ks.size:=F.cnt_le ks;have h0:at? ((⟨b,(tr k t n ks).flat⟩:SN)::rest) 0=some ⟨b,(tr k t n ks).flat⟩:=rfl;have h1:at? (tr k t n ks).flat 0=some (k,t,n,(ks.cnt:Int)):=q05 (i:=0) rfl;have hw:=qb7 ⟨b,(tr k t n ks).flat⟩ (k,t,n,(ks.cnt:Int)) rfl;have hj:cutL ((⟨b,(tr k t n ks).flat⟩:SN)::rest) 1 (lenI ((⟨b,(tr k t n ks).flat⟩:SN)::rest))=some rest:=cut1;have hl:∀x:SSN,fit (sumI (lenI o) (lenI [x]))=some ():=fun x=>q0g (by show o.length+1≤_;omega);have he:=add1 (show i≤1000000000 by omega);have hP:=(all_cons hQ).1;unfold patQ at hP;simp only [zd] at hP;have hu:q4h N (.cons k t n ks g)=bif q0l k then some g else bif eqI k 23&&eqI n N then some (ks.app g) else none:=rfl
  rw [hu];cases hm:q0l k with
  |true=>
   obtain ⟨nb,hc⟩:=q8e 0 (by omega);have hc:f_bp (0,())=some (⟨nb,[]⟩,()):=hc;obtain ⟨nb',hs⟩:=q0r false ⟨nb,[]⟩ ⟨rn,rest⟩ (by show 0+rest.length≤_;omega);refine ⟨⟨false,o++[⟨nb',rest⟩]⟩,?_,false,⟨nb',rest⟩,rfl,e2⟩
   ·unfold l1_bq;simp only [ltG hr,q02,q05 hr,q00,h0,hw,hm,hc,hj,hs,hl,he,q13,app];rfl
  |false=>
   cases hf:eqI k 23 with
   |false=>refine ⟨⟨no,o⟩,?_,rfl⟩;unfold l1_bq;simp only [ltG hr,q02,q05 hr,q00,h0,hw,hm,h1,hf,q01,he]
   |true=>
    have ht:eqS t []=true:=by have:=hP.2.1;rw [hf] at this;exact this
    cases hv:eqI n N with
    |false=>refine ⟨⟨no,o⟩,?_,rfl⟩;unfold l1_bq;simp only [ltG hr,q02,q05 hr,q00,h0,hw,hm,h1,hf,ht,hv,q01,he]
    |true=>
     obtain ⟨nb,hx⟩:=q6n b k t n ks (by omega);obtain ⟨nb',hs⟩:=q0r false ⟨nb,ks.trees.map fun l=>(⟨b,l⟩:SN)⟩ ⟨rn,rest⟩ (by show (ks.trees.map _).length+rest.length≤_;rw [zm,F.trees_len];omega);refine ⟨⟨false,o++[⟨nb',(ks.trees.map fun l=>(⟨b,l⟩:SN))++rest⟩]⟩,?_,false,_,rfl,qf6 ?_ e2⟩
     ·unfold l1_bq;simp only [ltG hr,q02,q05 hr,q00,h0,hw,hm,h1,hf,ht,hv,q01,hx,hj,hs,hl,he,q13,app]
     ·rw [zW];exact List.map_id _
theorem qo2 (N:Int) (s:SR) (fs:List F) (h:RS s fs) (hn:∀f,f∈fs→f≠.nil) (hQ:∀f,f∈fs→f.flat.all patQ=true) (hk:∀f,f∈fs→f.size≤9999) (hl:fs.length≤1000):∃s',f_bq (s,(23,[],N,0),0,())=some (s',())∧RS s' (fs.filterMap (q4h N)):=by
 have he:=h.len;rw [u_bq];have:=q1d (f:=l1_bq) (I:=fun z=>∃(i:Nat) (o:SR),z=(0,s,lenI s.l,(i:Int),23,[],N,0,o,())∧i≤fs.length∧o.l.length≤i∧RS o ((fs.take i).filterMap (q4h N))) (Q:=fun r=>∃s',r=(s',())∧RS s' (fs.filterMap (q4h N))) (fun z=>((fs.length:Int)-z.2.2.2.1).toNat) ?_ (0,s,lenI s.l,0,23,[],N,0,⟨true,[]⟩,()) ⟨0,⟨true,[]⟩,rfl,Nat.zero_le _,Nat.zero_le _,rfl⟩
 ·obtain ⟨r,h1,s',h2,h3⟩:=this;exact ⟨s',by rw [h1,h2],h3⟩
 ·rintro z ⟨i,⟨no,o⟩,rfl,hi,ho,hR⟩;have ho:o.length≤i:=ho;by_cases h1:i<fs.length
  ·obtain ⟨r,hr⟩:∃r,s.l[i]?=some r:=⟨_,zh (by omega)⟩;obtain ⟨f,hf,hg⟩:=h.get hr;have hc:=zn hf;obtain ⟨s',g1,g2⟩:=qo1 N s hr (by omega) hg (hn f hc) (hQ f hc) (hk f hc) no o (by omega);refine .inl ⟨_,g1,⟨i+1,s',rfl,h1,?_,?_⟩,by simp only;omega⟩
   ·cases hu:q4h N f with
    |some g=>rw [hu] at g2;obtain ⟨nb,r',rfl,_⟩:=g2;show (o++[r']).length≤_;rw [zp];show o.length+1≤_;omega
    |none=>rw [hu] at g2;rw [g2];show o.length≤_;omega
   ·rw [qf4 hf,q45];cases hu:q4h N f with
    |some g=>rw [hu] at g2;obtain ⟨nb,r',rfl,hj⟩:=g2;exact hR.snoc hj
    |none=>rw [hu] at g2;rw [g2];show RS _ (_++[]);rw [zG];exact hR
  ·obtain rfl:i=fs.length:=by omega
   refine .inr ⟨(⟨no,o⟩,()),?_,_,rfl,?_⟩
   ·unfold l1_bq;rw [←he];simp only [ltE,q01]
   ·rw [List.take_length] at hR;exact hR
theorem z3c (c:CT) (s:SR) (fs:List F) (h:RS s fs) (hn:∀f,f∈fs→f≠.nil) (hQ:∀f,f∈fs→f.flat.all patQ=true) (hl:fs.length≤1000):f_be (c,s,())=some (fs.any (q0i 24 c.1 0),s,()):=by
 obtain ⟨cn,ca⟩:=c;have he:=h.len;have e:f_d9 (s,(cn,ca),())=some (ixP (q0i 24 cn 0) 0 fs,()):=by
  rw [u_d9];have hj:lenI s.l=lenI fs:=by unfold lenI;rw [he]
  refine q2i l1_d9 (fun i=>(s,(cn,ca),lenI s.l,i,())) (fun z=>(z,())) fs (by omega) (q0i 24 cn 0) (fun i f hf hi=>?_) ?_
  ·obtain ⟨r,hr⟩:∃r,s.l[i]?=some r:=⟨_,zh (by have:=getL hf;omega)⟩;obtain ⟨f',hc,hg⟩:=h.get hr;rw [hf] at hc;injection hc with hc;subst hc;have hm:=zn hf;cases f with
   |nil=>exact absurd rfl (hn _ hm)
   |cons k t n ks g=>
    obtain ⟨b,rest,e1,e2⟩:=hg.cons;obtain ⟨rn,rl⟩:=r;have e1:rl=_:=e1;subst e1;have h0:at? ((⟨b,(tr k t n ks).flat⟩:SN)::rest) 0=some ⟨b,(tr k t n ks).flat⟩:=rfl;have h1:at? (tr k t n ks).flat 0=some (k,t,n,(ks.cnt:Int)):=q05 (i:=0) rfl;have hP:=(all_cons (hQ _ hm)).1;unfold patQ at hP;simp only [zd] at hP;unfold l1_d9;simp only [ltG hr,q02,q05 hr,q00,u_bf,h0,h1,add1 (show i≤1000000000 by omega)];have hr:q0i 24 cn 0 (.cons k t n ks g)=(eqI k 24&&(eqS t cn&&eqI n 0)):=rfl;rw [hr];cases hk:eqI k 24 with
    |false=>rfl
    |true=>
     have ho:eqI n 0=true:=by have:=hP.2.2;rw [hk] at this;exact this
     rw [ho];cases eqS t cn<;>rfl
  ·unfold l1_d9;rw [hj];simp only [ltE,q01]
 rw [u_be,u_cn,e];simp only [q00,q3l]
theorem z5k (cs:Sl CT) (hc:cs.l.length≤1000) (s:SR) (fs:List F) (h:RS s fs) (hn:∀f,f∈fs→f≠.nil) (hQ:∀f,f∈fs→f.flat.all patQ=true) (hl:fs.length≤1000):f_co (cs,s,())=some (cs.l.any fun c:CT=>!fs.any (q0i 24 c.1 0),s,()):=by
 have e:f_d2 (cs,s,())=some (ixP (fun c:CT=>!fs.any (q0i 24 c.1 0)) 0 cs.l,s,()):=by
  rw [u_d2];refine q2i l1_d2 (fun i=>(cs,lenI cs.l,i,s,())) (fun z=>(z,s,())) cs.l (by omega) (fun c:CT=>!fs.any (q0i 24 c.1 0)) ?_ ?_
  ·intro i c hx hi;have hb:=z3c c s fs h hn hQ hl;obtain ⟨cn,ca⟩:=c;unfold l1_d2;simp only [ltG hx,q02,q05 hx,q00,u_bg,hb,add1 (show i≤1000000000 by omega)];cases fs.any (q0i 24 cn 0)<;>rfl
  ·unfold l1_d2;simp only [ltE,q01]
 rw [u_co,e];simp only [q00,q3l]
end Fn
end Ev

namespace Ev
open Go
namespace Fn
noncomputable def useB (L:List DD) (Z:List TD) (fs:List F) (q:F):Bool:=@decide (Use L Z fs q) (Classical.propDecidable _)
theorem useB_iff {L:List DD} {Z:List TD} {fs:List F} {q:F}:useB L Z fs q=true↔Use L Z fs q:=@decide_eq_true_iff _ (Classical.propDecidable _)
theorem qce {L:List DD} {Z Z':List TD} {fs fs':List F} {q q':F} (h:Use L Z fs q↔Use L Z' fs' q'):useB L Z fs q=useB L Z' fs' q':=by rw [Bool.eq_iff_iff,useB_iff,useB_iff];exact h
noncomputable def useC (L:List DD) (T:List ND) (d:Nat) (Z:List TD) (fs:List F) (qr:F) (c:CT):Bool:=match q2d L T c.1 with
 |some As=>useB L (at_ d As++Z) (fs.filterMap (q0t c.1 As.length)) ((anyF As.length).app qr)
 |none=>false
abbrev UseT:=(SSN×SR×SSN×Sl DD×Unit)→Option (Bool×Sl DD×Unit)
def mu2 (fs:List F) (q:F) (n:Nat):Nat:=20*(q1h fs+q.clo)+n
def UOk (L:List DD) (Z:List TD) (fs:List F) (q:F):Prop:=fs.length≤1000∧∀f,f∈q::fs→f.flat.all patQ=true∧f.size+mu2 fs q Z.length≤9999∧ptF L f Z∧int0 f
def z3d (s:Sl DD) (M:Nat) (self:UseT):Prop:=∀(types:SSN) (rows:SR) (qs:SSN) (Z:List TD) (fs:List F) (q:F),types.l.map Sl.l=Z.map (·.1)→RS rows fs→RowOf qs q→UOk s.l Z fs q→qcc (Z.map (·.1))→mu2 fs q Z.length≤M→self (types,rows,qs,s,())=some (useB s.l Z fs q,s,())
theorem qxs {L:List DD} {T:List ND} {d:Nat} {Z:List TD} {N:Int} {f g:F} (h:ptF L f ((T,d)::Z)) (h0:int0 f) (hu:q4h N f=some g):ptF L g Z∧int0 g∧g.size≤f.size∧g.clo≤f.clo∧(f.flat.all patQ=true→g.flat.all patQ=true):=by
 cases f with
 |nil=>cases hu
 |cons k t n ks r=>
  have hu:(bif q0l k then some r else bif eqI k 23&&eqI n N then some (ks.app r) else none)=some g:=hu;have hs:(F.cons k t n ks r).size=ks.size+r.size+1:=rfl;cases hw:q0l k with
  |true=>
   rw [hw] at hu;injection hu with hu;subst hu
   exact ⟨h.2,(q3o h0).2.2,by omega,by rw [q28];omega,fun hQ=>(all_cons hQ).2.2⟩
  |false=>
   cases hk:eqI k 23&&eqI n N with
   |false=>rw [hw,hk] at hu;cases hu
   |true=>
    rw [hw,hk] at hu;injection hu with hu;subst hu
    rw [zd] at hk;have e1:k=23:=zt hk.1;have hc:=(q3o h0).1 e1;subst hc;exact ⟨h.2,(q3o h0).2.2,by show r.size≤_;omega,by rw [q28];show r.clo≤_;omega,fun hQ=>(all_cons hQ).2.2⟩
theorem qsp {c:Tx} {m:Nat} {f g:F} (h0:int0 f) (hu:q0t c m f=some g):int0 g:=by
 cases f with
 |nil=>cases hu
 |cons k t n ks r=>
  have hu:(bif q0l k then some ((anyF m).app r) else bif eqI k 24&&eqS t c then some (ks.app r) else none)=some g:=hu;have h1:=q3o h0;cases hw:q0l k with
  |true=>rw [hw] at hu;injection hu with hu;subst hu;exact qqh (z09 m) h1.2.2
  |false=>
   cases hk:eqI k 24&&eqS t c with
   |false=>rw [hw,hk] at hu;cases hu
   |true=>rw [hw,hk] at hu;injection hu with hu;subst hu;exact qqh h1.2.1 h1.2.2
theorem qxt {f g:F} (h0:int0 f) (hu:q3f f=some g):int0 g:=by
 cases f with
 |nil=>cases hu
 |cons k t n ks r=>
  have hu:(bif q0l k then some r else none)=some g:=hu;cases hw:q0l k with
  |true=>rw [hw] at hu;injection hu with hu;subst hu;exact (q3o h0).2.2
  |false=>rw [hw] at hu;cases hu
theorem qfj (c:Tx) (m:Nat):∀f g,q0t c m f=some g→g.clo≤f.clo:=fun f g hu=>by
 cases f with
 |nil=>cases hu
 |cons k t n ks r=>
  have hu:(bif q0l k then some ((anyF m).app r) else bif eqI k 24&&eqS t c then some (ks.app r) else none)=some g:=hu;rw [q28];cases hw:q0l k with
  |true=>rw [hw] at hu;injection hu with hu;subst hu;rw [q4k,qb9];omega
  |false=>
   cases hk:eqI k 24&&eqS t c with
   |false=>rw [hw,hk] at hu;cases hu
   |true=>rw [hw,hk] at hu;injection hu with hu;subst hu;rw [q4k];omega
theorem z0d:∀f g,q3f f=some g→g.clo≤f.clo:=fun f g hu=>by
 cases f with
 |nil=>cases hu
 |cons k t n ks r=>
  have hu:(bif q0l k then some r else none)=some g:=hu;rw [q28];cases hw:q0l k with
  |true=>rw [hw] at hu;injection hu with hu;subst hu;omega
  |false=>rw [hw] at hu;cases hu
theorem qsq (N:Int):∀f g,q4h N f=some g→g.clo≤f.clo:=fun f g hu=>by
 cases f with
 |nil=>cases hu
 |cons k t n ks r=>
  have hu:(bif q0l k then some r else bif eqI k 23&&eqI n N then some (ks.app r) else none)=some g:=hu;rw [q28];cases hw:q0l k with
  |true=>rw [hw] at hu;injection hu with hu;subst hu;omega
  |false=>
   cases hk:eqI k 23&&eqI n N with
   |false=>rw [hw,hk] at hu;cases hu
   |true=>rw [hw,hk] at hu;injection hu with hu;subst hu;rw [q4k];omega
theorem qlq {L:List DD} {T:List ND} {d:Nat} {Z:List TD} {fs:List F} {q q':F} {c:Tx} {As:List (List ND)} (hA:q2d L T c=some As) (h8:As.length≤8) (h:UOk L ((T,d+1)::Z) fs q) (hq:q0t c As.length q=some q') (hc:q1h (fs.filterMap (q0t c As.length))+q'.clo+1≤q1h fs+q.clo):UOk L (at_ d As++Z) (fs.filterMap (q0t c As.length)) q'∧mu2 (fs.filterMap (q0t c As.length)) q' (at_ d As++Z).length+13≤mu2 fs q (Z.length+1):=by
 have hm:mu2 (fs.filterMap (q0t c As.length)) q' (at_ d As++Z).length+13≤mu2 fs q (Z.length+1):=by unfold mu2;rw [zp,q4f];omega
 refine ⟨⟨Nat.le_trans (qf7 _ _) h.1,fun g hg=>?_⟩,hm⟩;obtain ⟨f,hf,hu⟩:∃f,f∈q::fs∧q0t c As.length f=some g:=by
  rcases zj.1 hg with rfl|hg
  ·exact ⟨q,ze ..,hq⟩
  ·obtain ⟨f,hf,hu⟩:=zL.1 hg;exact ⟨f,zf _ hf,hu⟩
 obtain ⟨h1,h2,h3,h4⟩:=h.2 f hf;have ho:=qll L f _ h3;have ho:ofF L f (T::Z.map (·.1))=true:=ho;obtain ⟨p1,p2,p3,p4,_⟩:=qf8 hA rfl ho h1 hu;have h2:f.size+mu2 fs q (Z.length+1)≤9999:=h2;exact ⟨p2,by omega,qqc hA h3 hu,qsp h4 hu⟩
theorem qxu {s:Sl DD} {self:UseT} {types:SSN} {rows:SR} {qs:SSN} {fs:List F} {q:F} (he:types.l=[]) (hR:RS rows fs) (hu:UOk s.l [] fs q):g_bd self (types,rows,qs,s,())=some (useB s.l [] fs q,s,()):=by
 have h0:eqI (lenI types.l) 0=true:=by rw [he];rfl
 rw [u_bd];simp only [h0,q02];have hl:=hR.len;have hc:∀f,f∈q::fs→f=.nil:=fun f hf=>by
  have:=q6s _ _ _ (hu.2 f hf).2.2.1;cases f with
  |nil=>rfl
  |cons _ _ _ _ r=>exact absurd this (by show ¬(r.cnt+1=0);omega)
 have e:eqI (lenI rows.l) 0=useB s.l [] fs q:=by
  rw [Bool.eq_iff_iff,useB_iff];constructor
  ·intro h;have h:(rows.l.length:Int)=0:=zt h;have hg:fs=[]:=zD (by omega);subst hg;exact ⟨.nil,rfl,by rw [hc q (ze ..)];rfl,fun f hf=>by cases hf⟩
  ·rintro ⟨g,h1,h2,h3⟩;cases fs with
   |nil=>have hl:rows.l.length=0:=hl;unfold lenI;rw [hl];rfl
   |cons f fs=>have:=h3 f (ze ..);rw [hc f (zf _ (ze ..))] at this;cases this
 rw [e]
theorem z0e {s:Sl DD} (hL:GD s.l) (h9:s.l.all q0u=true) {M:Nat} {self:UseT} (hq:z3d s M self):z3d s (M+1) (g_bd self):=by
 intro types rows qs Z0 fs q hN hR hQR hU hn hmu;cases hM:types.l with
 |nil=>
  rw [hM] at hN;have:Z0=[]:=by
   cases Z0 with
   |nil=>rfl
   |cons z Z=>cases hN
  subst this;exact qxu hM hR hU
 |cons T0 tl=>
  rw [hM] at hN;obtain ⟨b,T⟩:=T0;obtain ⟨T',D,Z,rfl⟩:∃T' D Z,Z0=(T',D)::Z:=by
   cases Z0 with
   |nil=>cases hN
   |cons z Z=>exact ⟨z.1,z.2,Z,rfl⟩
  injection hN with hT1 hD;have hT1:T=T':=hT1;subst hT1;have hD:tl.map Sl.l=Z.map (·.1):=hD;have hn:qcc (T::Z.map (·.1)):=hn;have hT:=hn T (ze ..);obtain ⟨k,t,n,ks,rfl⟩:=((q20 T).1 hT).2.2;have htll:tl.length=Z.length:=by have:=congrArg List.length hD;rw [zm,zm] at this;exact this
  have hmu:mu2 fs q (Z.length+1)≤M+1:=hmu;have ht:=hU.2 q (ze ..);have hO:∀f,f∈fs→f≠.nil:=fun f hf e=>by have:=q6s _ _ _ (hU.2 f (zf _ hf)).2.2.1;rw [e] at this;exact absurd this (by show ¬(0=Z.length+1);omega)
  have hQ:∀f,f∈fs→f.flat.all patQ=true:=fun f hf=>(hU.2 f (zf _ hf)).1;have hC:∀f,f∈fs→ptF s.l f (((tr k t n ks).flat,D)::Z):=fun f hf=>(hU.2 f (zf _ hf)).2.2.1;have h0s:∀f,f∈fs→int0 f:=fun f hf=>(hU.2 f (zf _ hf)).2.2.2;have hsz:∀f,f∈fs→f.size≤9999:=fun f hf=>by have:=(hU.2 f (zf _ hf)).2.1;omega
  cases q with
  |nil=>exact absurd ht.2.2.1 (by intro h;cases h)
  |cons kq tq nq kk qr=>
   obtain ⟨bq,qrest,hq1,hP⟩:=hQR.cons;have hql:qrest.length=qr.cnt:=by rw [←F.trees_len,←hP,zm]
   have hqr:qr.cnt=Z.length:=q6s _ _ _ ht.2.2.1.2;have hsq:kk.size+qr.size+1+mu2 fs (.cons kq tq nq kk qr) (Z.length+1)≤9999:=ht.2.1;have hkc:=F.cnt_le kk;have hrc:=F.cnt_le qr;have hn0:eqI (lenI types.l) 0=false:=q2u (by rw [hM];show ((tl.length+1:Nat):Int)≠0;omega);have ha0:at? types.l 0=some ⟨b,(tr k t n ks).flat⟩:=by rw [hM];rfl
   have hv:cutL types.l 1 (lenI types.l)=some tl:=by rw [hM];exact cut1
   have hb0:at? qs.l 0=some ⟨bq,(tr kq tq nq kk).flat⟩:=by rw [hq1];rfl
   have hb1:at? (tr kq tq nq kk).flat 0=some (kq,tq,nq,(kk.cnt:Int)):=q05 (i:=0) rfl;have hS:cutL qs.l 1 (lenI qs.l)=some qrest:=by rw [hq1];exact cut1
   have hmz:∀x,mu2 x (.cons kq tq nq kk qr) (Z.length+1)=20*(q1h x+((bif q0l kq then 0 else 1)+kk.clo+qr.clo))+(Z.length+1):=fun x=>rfl;rw [u_bd];simp only [hn0,q01,ha0,q00,hb0,hb1];rcases ht.2.2.1.1 with hw|⟨D',rfl,⟨rfl,rfl,hint,hE⟩|⟨rfl,rfl,As,hA,h4⟩⟩
   ·
    have hk1:(cnd (eqI kq 24) (some true) (some (eqI kq 23)):Option Bool)=some false:=by
     have hw:(eqI kq 21||eqI kq 22)=true:=hw;rw [Bool.or_eq_true] at hw;rcases hw with hw|hw
     ·have:kq=21:=zt hw;subst this;rfl
     ·have:kq=22:=zt hw;subst this;rfl
    obtain ⟨d,o,hdec,hy,hd⟩:=qcw s hL b k t n ks;have hcs:d.2.2.l.length≤1000:=by rw [←hy];have:=z17 h9 (tr k t n ks).flat;omega
    have hop:=z5k d.2.2 hcs rows fs hR hO hQ hU.1;simp only [hk1,q00,q01,hdec];have rest:(cnsT s.l (tr k t n ks).flat=[]∨∃c,c∈cnsT s.l (tr k t n ks).flat∧fs.any (q0i 24 c.1 0)=false)→∃rows',f_bm (rows,())=some (rows',())∧self (⟨types.nil,tl⟩,rows',⟨qs.nil,qrest⟩,s,())=some (useB s.l (((tr k t n ks).flat,D)::Z) fs (.cons kq tq nq kk qr),s,()):=by
     intro hV;obtain ⟨rows',hm,hF⟩:=qf5 rows fs hR hO hU.1;have hG:=q3m q3f z0d fs;have hm':mu2 (fs.filterMap q3f) qr Z.length+1≤mu2 fs (.cons kq tq nq kk qr) (Z.length+1):=by rw [hmz];show 20*(q1h (fs.filterMap q3f)+qr.clo)+Z.length+1≤_;have:=hG.1;omega
     have hH:UOk s.l Z (fs.filterMap q3f) qr:=by
      refine ⟨Nat.le_trans (qf7 _ _) hU.1,fun g hg=>?_⟩;rcases zj.1 hg with rfl|hg
      ·exact ⟨(all_cons ht.1).2.2,by omega,ht.2.2.1.2,(q3o ht.2.2.2).2.2⟩
      ·obtain ⟨f,hf,hu⟩:=zL.1 hg;have ho:=qll s.l f _ (hC f hf);have ho:ofF s.l f ((tr k t n ks).flat::Z.map (·.1))=true:=ho;obtain ⟨p1,p2,p3,p4,_⟩:=qis ho (hQ f hf) hu;have h2:f.size+mu2 fs (.cons kq tq nq kk qr) (Z.length+1)≤9999:=(hU.2 f (zf _ hf)).2.1;exact ⟨p2,by omega,qwu (hC f hf) hu,qxt (h0s f hf) hu⟩
     refine ⟨rows',hm,?_⟩;rw [qce (z0a hC hw hV)];exact hq _ _ _ Z _ qr hD hF hP hH (fun T h=>hn T (zf _ h)) (by omega)
    cases he:eqI (lenI d.2.2.l) 0 with
    |true=>have h0:(d.2.2.l.length:Int)=0:=zt he;have:d.2.2.l=[]:=zD (by omega);obtain ⟨rows',hm,hs⟩:=rest (.inl (by rw [hy,this]));simp only [q02,hv,hm,hS,hs,q00]
    |false=>
     simp only [q01,hop,q00];cases hI:d.2.2.l.any fun c:CT=>!fs.any (q0i 24 c.1 0) with
     |true=>
      obtain ⟨c,hc,h6⟩:=zJ.1 hI;have h6:fs.any (q0i 24 c.1 0)=false:=by
       cases h:fs.any (q0i 24 c.1 0) with
       |false=>rfl
       |true=>rw [h] at h6;cases h6
      obtain ⟨rows',hm,hs⟩:=rest (.inr ⟨c,by rw [hy];exact hc,h6⟩);simp only [q02,hv,hm,hS,hs,q00]
     |false=>
      have hW:∀c,c∈d.2.2.l→fs.any (q0i 24 c.1 0)=true:=fun c hc=>by
       cases hb:fs.any (q0i 24 c.1 0) with
       |true=>rfl
       |false=>rw [zJ.2 ⟨c,hc,by rw [hb];rfl⟩] at hI;cases hI
      obtain ⟨c0,hE⟩:∃c0,c0∈d.2.2.l:=by
       cases hcl:d.2.2.l with
       |nil=>rw [hcl] at he;cases he
       |cons c0 r0=>exact ⟨c0,ze ..⟩
      obtain ⟨D',rfl⟩:∃D',D=D'+1:=by obtain ⟨f,hf,hr⟩:=zJ.1 (hW c0 hE);exact qwv (hC f hf) hr
      have hd:s.l.find? (q1e k t (ks.cnt:Int))=some d:=by
       rcases hd with hd|hd
       ·exact hd
       ·rw [hd] at hE;cases hE
      have hone:∀c,c∈d.2.2.l→q0s self (c,⟨b,(tr k t n ks).flat⟩,types,rows,qs,s,())=some (useC s.l (tr k t n ks).flat D' Z fs qr c,⟨b,(tr k t n ks).flat⟩,types,rows,qs,s,()):=by
       intro c hc;obtain ⟨nb,al,As,ha,hX,hJ,h8,hAt,hgc⟩:=qdc hL h9 hd hT hc b;have hK:al.length=As.length:=by rw [←hX,zm]
       obtain ⟨nb1,hz⟩:=q0r false ⟨nb,al⟩ ⟨types.nil,tl⟩ (by show al.length+tl.length≤_;omega);have hz:f_ck (⟨false,[⟨nb,al⟩,⟨types.nil,tl⟩]⟩,())=some (⟨nb1,al++tl⟩,()):=hz;obtain ⟨rows',hY,hF⟩:=q90 c.1 As.length (by omega) rows fs hR hO hQ hsz hU.1;obtain ⟨nbs,hsm⟩:=q8e As.length (by omega);obtain ⟨nb2,hj⟩:=q0r false ⟨nbs,List.replicate As.length anyS⟩ ⟨qs.nil,qrest⟩ (by show (List.replicate As.length anyS).length+qrest.length≤_;rw [List.length_replicate];omega);have hj:f_ck (⟨false,[⟨nbs,List.replicate As.length anyS⟩,⟨qs.nil,qrest⟩]⟩,())=some (⟨nb2,List.replicate As.length anyS++qrest⟩,()):=hj;have hlA:lenI al=((As.length:Nat):Int):=by unfold lenI;rw [hK]
       have h7:q0t c.1 As.length (.cons kq tq nq kk qr)=some ((anyF As.length).app qr):=by
        have e:q0t c.1 As.length (.cons kq tq nq kk qr)=bif q0l kq then some ((anyF As.length).app qr) else bif eqI kq 24&&eqS tq c.1 then some (kk.app qr) else none:=rfl
        rw [e,hw];rfl
       obtain ⟨x,hx,hxr⟩:=zJ.1 (hW c hc);have hless:=(q3m (q0t c.1 As.length) (qfj c.1 As.length) fs).2 x hx (qcb hxr);obtain ⟨hH,hm'⟩:=qlq hJ h8 hU h7 (by
        have:=qfj c.1 As.length _ _ h7;omega)
       have hB:RowOf ⟨nb2,List.replicate As.length anyS++qrest⟩ ((anyF As.length).app qr):=qf6 (by rw [q6q,List.map_replicate];rfl) hP;have hs:=hq ⟨nb1,al++tl⟩ rows' ⟨nb2,List.replicate As.length anyS++qrest⟩ (at_ D' As++Z) _ _ (by show (al++tl).map Sl.l=_;rw [zE,zE,hX,hD,qh8]) hF hB hH (fun T h=>by
        rw [zE,qh8] at h;rcases zo.1 h with h|h
        ·exact hAt T h
        ·exact hn T (zf _ h)) (by omega)
       obtain ⟨cn,ca⟩:=c;rw [q88];simp only [ha,q00,hv,hz,hlA,hY,hsm,hS,hj,hs,useC,hJ]
      have hix:q0p self (d.2.2,⟨b,(tr k t n ks).flat⟩,types,rows,qs,s,())=some (ixP (fun c:CT=>useC s.l (tr k t n ks).flat D' Z fs qr c) 0 d.2.2.l,⟨b,(tr k t n ks).flat⟩,types,rows,qs,s,()):=by
       rw [q7t];refine q2i (q1k self) (fun i=>(d.2.2,lenI d.2.2.l,i,⟨b,(tr k t n ks).flat⟩,types,rows,qs,s,())) (fun z=>(z,⟨b,(tr k t n ks).flat⟩,types,rows,qs,s,())) d.2.2.l (by omega) (fun c:CT=>useC s.l (tr k t n ks).flat D' Z fs qr c) (fun i c hx hi=>?_) ?_
       ·have ho:=hone c (zn hx);unfold q1k;simp only [ltG hx,q02,q05 hx,q00,ho,add1 (show i≤1000000000 by omega)];cases useC s.l (tr k t n ks).flat D' Z fs qr c<;>rfl
       ·unfold q1k;simp only [ltE,q01]
      simp only [q01,q64,hix,q00,q3l];congr 2;rw [Bool.eq_iff_iff,useB_iff,z38 hC hw ht.2.2.1 (c0:=c0) (by rw [hy];exact hE),hy];constructor
      ·intro h;obtain ⟨c,hc,hb⟩:=zJ.1 h;unfold useC at hb;cases hA:q2d s.l (tr k t n ks).flat c.1 with
       |none=>rw [hA] at hb;cases hb
       |some As=>rw [hA] at hb;exact ⟨c,hc,As,hA,useB_iff.1 hb⟩
      ·rintro ⟨c,hc,As,hA,hb⟩;refine zJ.2 ⟨c,hc,?_⟩;unfold useC;rw [hA];exact useB_iff.2 hb
   ·
    have z1:eqI 23 24=false:=rfl;have z2:eqI 23 23=true:=rfl;have hkk:kk=.nil:=(q3o ht.2.2.2).1 rfl;subst hkk;have hZ:f_b4 (s,⟨b,(tr k t n ks).flat⟩,([]:Tx),())=some (⟨true,[]⟩,false,()):=by
     refine qla s hL b k t n ks (by obtain ⟨hl,_⟩:=(q20 _).1 hT;rw [q27] at hl;omega) [] ?_;have e:=qbd s.l (tr k t n ks).flat [];rw [hE,q8z] at e;cases hcv:conV s.l k t (ks.cnt:Int) [] with
     |none=>rfl
     |some c=>rw [hcv] at e;cases e
    obtain ⟨nb1,hz⟩:=q0r false ⟨true,[]⟩ ⟨types.nil,tl⟩ (by show 0+tl.length≤_;omega);have hz:f_ck (⟨false,[⟨true,[]⟩,⟨types.nil,tl⟩]⟩,())=some (⟨nb1,tl⟩,()):=hz;obtain ⟨rows',hY,hF⟩:=qo2 nq rows fs hR hO hQ hsz hU.1;obtain ⟨nb2,h5⟩:=q6n bq 23 [] nq .nil (by show 0+1≤_;omega);have h5:f_bl (⟨bq,(tr 23 [] nq .nil).flat⟩,())=some (⟨nb2,[]⟩,()):=h5;obtain ⟨nb3,hj⟩:=q0r false ⟨nb2,[]⟩ ⟨qs.nil,qrest⟩ (by show 0+qrest.length≤_;omega);have hj:f_ck (⟨false,[⟨nb2,[]⟩,⟨qs.nil,qrest⟩]⟩,())=some (⟨nb3,qrest⟩,()):=hj;have hl0:lenI (([]:List SN))=0:=rfl;have hG:=q3m (q4h nq) (qsq nq) fs;have hm':mu2 (fs.filterMap (q4h nq)) qr Z.length+1≤mu2 fs (.cons 23 [] nq .nil qr) (Z.length+1):=by rw [hmz];show 20*(q1h (fs.filterMap (q4h nq))+qr.clo)+Z.length+1≤_;have:=hG.1;omega
    have hH:UOk s.l Z (fs.filterMap (q4h nq)) qr:=by
     refine ⟨Nat.le_trans (qf7 _ _) hU.1,fun g hg=>?_⟩;rcases zj.1 hg with rfl|hg
     ·exact ⟨(all_cons ht.1).2.2,by omega,ht.2.2.1.2,(q3o ht.2.2.2).2.2⟩
     ·obtain ⟨f,hf,hu⟩:=zL.1 hg;obtain ⟨p1,p2,p3,p4,p5⟩:=qxs (hC f hf) (h0s f hf) hu;have h2:f.size+mu2 fs (.cons 23 [] nq .nil qr) (Z.length+1)≤9999:=(hU.2 f (zf _ hf)).2.1;exact ⟨p5 (hQ f hf),by omega,p1,p2⟩
    have hs:=hq ⟨nb1,tl⟩ rows' ⟨nb3,qrest⟩ Z _ qr hD hF hP hH (fun T h=>hn T (zf _ h)) (by omega);simp only [z1,z2,q01,q00,q02,hZ,hv,hz,hl0,hY,h5,hS,hj,hs];rw [qce (z4m hE (fun f hf=>⟨hC f hf,h0s f hf⟩) ht.2.2.1)]
   ·
    have z1:eqI 24 24=true:=rfl;obtain ⟨c,hc,rfl⟩:=q22 hA;obtain ⟨d,hd,hcd⟩:∃d,s.l.find? (q1e k t (ks.cnt:Int))=some d∧c∈d.2.2.l:=by
     have e:cnsT s.l (tr k t n ks).flat=match s.l.find? (q1e k t (ks.cnt:Int)) with|some d=>d.2.2.l|none=>[]:=rfl
     rw [e] at hc;cases hf:s.l.find? (q1e k t (ks.cnt:Int)) with
     |none=>rw [hf] at hc;cases hc
     |some d=>rw [hf] at hc;exact ⟨d,rfl,hc⟩
    obtain ⟨nb,al,As',ha,hX,hJ,h8,hAt,hgc⟩:=qdc hL h9 hd hT hcd b;rw [hA] at hJ;injection hJ with hJ;subst hJ;have hK:al.length=As.length:=by rw [←hX,zm]
    have hcnt:=q6s _ _ _ h4;rw [q4f] at hcnt;obtain ⟨nb1,hz⟩:=q0r false ⟨nb,al⟩ ⟨types.nil,tl⟩ (by show al.length+tl.length≤_;omega);have hz:f_ck (⟨false,[⟨nb,al⟩,⟨types.nil,tl⟩]⟩,())=some (⟨nb1,al++tl⟩,()):=hz;obtain ⟨rows',hY,hF⟩:=q90 c.1 As.length (by omega) rows fs hR hO hQ hsz hU.1;obtain ⟨nb2,h5⟩:=q6n bq 24 c.1 0 kk (by omega);obtain ⟨nb3,hj⟩:=q0r false ⟨nb2,kk.trees.map fun l=>(⟨bq,l⟩:SN)⟩ ⟨qs.nil,qrest⟩ (by show (kk.trees.map _).length+qrest.length≤_;rw [zm,F.trees_len];omega);have hj:f_ck (⟨false,[⟨nb2,kk.trees.map fun l=>(⟨bq,l⟩:SN)⟩,⟨qs.nil,qrest⟩]⟩,())=some (⟨nb3,(kk.trees.map fun l=>(⟨bq,l⟩:SN))++qrest⟩,()):=hj;have hlA:lenI al=((As.length:Nat):Int):=by unfold lenI;rw [hK]
    have h7:q0t c.1 As.length (.cons 24 c.1 0 kk qr)=some (kk.app qr):=by
     have e:q0t c.1 As.length (.cons 24 c.1 0 kk qr)=bif eqS c.1 c.1 then some (kk.app qr) else none:=rfl
     rw [e,q12];rfl
    obtain ⟨hH,hm'⟩:=qlq hA h8 hU h7 (by
     have h1:=(q3m (q0t c.1 As.length) (qfj c.1 As.length) fs).1;rw [q4k,q28];show _≤q1h fs+(1+kk.clo+qr.clo);omega)
    have hB:RowOf ⟨nb3,(kk.trees.map fun l=>(⟨bq,l⟩:SN))++qrest⟩ (kk.app qr):=qf6 (by rw [zW];exact List.map_id _) hP;have hs:=hq ⟨nb1,al++tl⟩ rows' ⟨nb3,(kk.trees.map fun l=>(⟨bq,l⟩:SN))++qrest⟩ (at_ D' As++Z) _ _ (by show (al++tl).map Sl.l=_;rw [zE,zE,hX,hD,qh8]) hF hB hH (fun T h=>by
     rw [zE,qh8] at h;rcases zo.1 h with h|h
     ·exact hAt T h
     ·exact hn T (zf _ h)) (by omega)
    simp only [z1,q00,q02,ha,hv,hz,hlA,hY,h5,hS,hj,hs];rw [qce (z4l hA hC ht.2.2.1)]
theorem z4q {s:Sl DD} (hL:GD s.l) (hc:s.l.all q0u=true):∀M,z3d s M (recN g_bd (M+1))
 |0=>by
  intro types rows qs Z fs q hT hR hg hU he hf;have h0:Z.length=0:=by unfold mu2 at hf;omega
  have:Z=[]:=zD h0;subst this;exact qxu (List.map_eq_nil_iff.1 hT) hR hU
 |M+1=>z0e hL hc (z4q hL hc M)
theorem z0f {s:Sl DD} (hL:GD s.l) (he:s.l.all q0u=true) {types:SSN} {rows:SR} {qs:SSN} {Z:List TD} {fs:List F} {q:F} (hT:types.l.map Sl.l=Z.map (·.1)) (hR:RS rows fs) (hf:RowOf qs q) (hU:UOk s.l Z fs q) (hc:qcc (Z.map (·.1))):f_bd (types,rows,qs,s,())=some (useB s.l Z fs q,s,()):=by refine q7c (mu2 fs q Z.length+1) fun N hN=>?_;obtain ⟨M,rfl⟩:∃M,N=M+1:=⟨N-1,by omega⟩;exact z4q hL he M types rows qs Z fs q hT hR hf hU hc (by omega)
end Fn
end Ev

namespace Ev
open Go
namespace Fn
noncomputable def qlr (L:List DD) (T:List ND) (fs:List F) (i:Nat):Bool:=match fs[i]? with
 |some f=>!useB L [(T,30)] (fs.take i) f
 |none=>false
noncomputable def q23 (L:List DD) (T:List ND) (fs:List F) (k:Nat):List Int:=((List.range k).filter (qlr L T fs)).map fun (i:Nat)=>(i:Int)
theorem qfk (L:List DD) (T:List ND) (fs:List F) (k:Nat):q23 L T fs (k+1)=q23 L T fs k++(bif qlr L T fs k then [(k:Int)] else []):=by
 unfold q23;rw [List.range_succ,List.filter_append,zE];congr 1;cases h:qlr L T fs k with
 |true=>rw [List.filter_cons_of_pos h];rfl
 |false=>rw [List.filter_cons_of_neg (by rw [h];exact zZ)];rfl
theorem qcf (L:List DD) (T:List ND) (fs:List F) (k:Nat):(q23 L T fs k).length≤k:=by unfold q23;rw [zm];have:=List.length_filter_le (qlr L T fs) (List.range k);rw [List.length_range] at this;exact this
def LInv (L:List DD) (T:List ND) (fs:List F) (i:Nat) (R:List RO):Prop:=(∀r,r∈R→Wf L 30 r∧r.T=T∧NtB i r)∧∀g,(∃r,r∈R∧svF L g [(r,30)])↔tvF L g [(T,30)]∧∀f,f∈fs.take i→mt f g=false
theorem z3e {a b:Nat} (h:a+b≤2147483648):fit (sumI (a:Int) (b:Int))=some ():=qpj (by show (a:Int)+(b:Int)≤_;omega)
theorem z3f {s:Sl DD} (hL:GD s.l) (hF:s.l.all q0u=true) (hn:dupL (s.l.map fun d=>d.1)=false) (hu:dupL (q68 s.l)=false) {T:List ND} (hT:q26 T=true) (a:Sl SN) {fs:List F} {i:Nat} (hi:i≤100) {x:SN} (hx:a.l[i]?=some x) {k:Int} {t:Tx} {n:Int} {ks:F} (hf:fs[i]?=some (tr k t n ks)) (hv:x.l=(tr k t n ks).flat) (hK:ks.size+1≤30) (hG:ptF s.l (tr k t n ks) [(T,30)]) (lb:Bool) (R:List RO) (hR:LInv s.l T fs i R) (hM:R.length≤2000) (ob:Bool) (out:List Int) (ho:out=q23 s.l T fs i):∃(nb:Bool) (N:List RO) (ob':Bool),LInv s.l T fs (i+1) N∧loopR l1_cb (s,a,(i:Int),false,0,⟨lb,R.map jn⟩,⟨ob,out⟩,⟨false,[]⟩,())=some (bif decide (2000<N.length) then .inr (⟨true,[]⟩,⟨true,[]⟩,false,()) else .inl (s,a,((i+1:Nat):Int),⟨nb,N.map jn⟩,⟨ob',q23 s.l T fs (i+1)⟩,())):=by
 obtain ⟨xb,xl⟩:=x;have hv:xl=_:=hv;subst hv;have hw:(R.map jn).length=R.length:=zm _;have hH:fs.take (i+1)=fs.take i++[tr k t n ks]:=by rw [List.take_add_one,hf];rfl
 have hm:=qxr hL hF hn hu xb (l:=(tr k t n ks).flat) (by rw [q27];omega) (B:=i) (by omega) (2*(ks.size+1)+1);have:=q1d (f:=l1_cb)
  (I:=fun z=>∃(j:Nat) (nb:Bool) (N:List RO) (hit:Bool),z=(s,a,(i:Int),hit,(j:Int),⟨lb,R.map jn⟩,⟨ob,out⟩,⟨nb,N.map jn⟩,())∧j≤R.length∧N.length≤j*1860∧(∀r,r∈N→Wf s.l 30 r∧r.T=T∧NtB (i+1) r)∧
   (∀g,(∃r,r∈N∧svF s.l g [(r,30)])↔∃r,r∈R.take j∧svF s.l g [(r,30)]∧mt (tr k t n ks) g=false)∧(hit=true↔∃r,r∈R.take j∧∃g,svF s.l g [(r,30)]∧mt (tr k t n ks) g=true))
  (Q:=fun z=>∃(nb:Bool) (N:List RO) (ob':Bool),LInv s.l T fs (i+1) N∧z=(bif decide (2000<N.length) then .inr (⟨true,[]⟩,⟨true,[]⟩,false,()) else .inl (s,a,((i+1:Nat):Int),⟨nb,N.map jn⟩,⟨ob',q23 s.l T fs (i+1)⟩,())))
  (fun z=>((R.length:Int)-z.2.2.2.2.1).toNat) ?_ (s,a,(i:Int),false,0,⟨lb,R.map jn⟩,⟨ob,out⟩,⟨false,[]⟩,())
  ⟨0,false,[],false,rfl,Nat.zero_le _,Nat.zero_le _,(fun r hr=>by cases hr),(fun g=>⟨fun ⟨r,hr,_⟩=>(by cases hr),fun ⟨r,hr,_⟩=>(by cases hr)⟩),⟨fun h=>(by cases h),fun ⟨r,hr,_⟩=>(by cases hr)⟩⟩
 ·obtain ⟨z,h1,nb,N,ob',h2,h3⟩:=this;exact ⟨nb,N,ob',h2,by rw [h1,h3]⟩
 ·rintro z ⟨j,nb,N,hit,rfl,hj,hN,hD,ht,hz⟩;by_cases h1:j<R.length
  ·obtain ⟨r,hr⟩:∃r,R[j]?=some r:=⟨_,zh h1⟩;have hI:=zn hr;have hA:(R.map jn)[j]?=some (jn r):=by rw [zT,hr];rfl
   have hl:R.take (j+1)=R.take j++[r]:=by rw [List.take_add_one,hr];rfl
   obtain ⟨w1,w2,w3⟩:=hR.1 r hI;obtain ⟨mb,m,is,m1,m2,m3,m4⟩:=hm 0 k t n ks 30 r (by split<;>omega) (q6l k t n ks) (by rw [w2];exact hG) (by rw [w2];exact hT) w1 w3;have m1:f_ce (s,jn r,⟨xb,(tr k t n ks).flat⟩,0,())=some (⟨mb,m.map jn⟩,is,()):=m1;have m4:m.length≤1860:=by split at m4<;>omega
   have he:fit (sumI (lenI (N.map jn)) (lenI (m.map jn)))=some ():=z3e (by rw [zm,zm];omega);have hB:nth (R.map jn) j=some (jn r):=hA;have hJ:(cnd hit (some true) (some is):Option Bool)=some (hit||is):=by cases hit<;>rfl
   refine .inl ⟨(s,a,(i:Int),hit||is,((j+1:Nat):Int),⟨lb,R.map jn⟩,⟨ob,out⟩,⟨andB nb (isE (m.map jn)),(N++m).map jn⟩,()),?_,⟨j+1,_,N++m,hit||is,rfl,h1,by rw [zp];omega,fun y hy=>?_,fun g=>?_,?_⟩,by show ((R.length:Int)-((j+1:Nat):Int)).toNat<((R.length:Int)-(j:Int)).toNat;omega⟩
   ·unfold l1_cb;simp only [ltG hA,q02,q31 (getL hA),q00,hB,q05 hx,m1,he,hJ,add1 (show j≤1000000000 by omega),zE];rfl
   ·rcases zo.1 hy with hy|hy
    ·exact hD y hy
    ·exact ⟨(m2.1 y hy).1,(m2.1 y hy).2.trans w2,m3 y hy⟩
   ·constructor
    ·rintro ⟨y,hy,hg⟩;rcases zo.1 hy with hy|hy
     ·obtain ⟨r',a1,a2⟩:=(ht g).1 ⟨y,hy,hg⟩;exact ⟨r',by rw [hl];exact zo.2 (.inl a1),a2⟩
     ·exact ⟨r,by rw [hl];exact zo.2 (.inr (zu.2 rfl)),(m2.2.1 g).1 ⟨y,hy,hg⟩⟩
    ·rintro ⟨r',a1,a2⟩;rw [hl] at a1;rcases zo.1 a1 with a1|a1
     ·obtain ⟨y,hy,hg⟩:=(ht g).2 ⟨r',a1,a2⟩;exact ⟨y,zo.2 (.inl hy),hg⟩
     ·rw [zu] at a1;subst a1;obtain ⟨y,hy,hg⟩:=(m2.2.1 g).2 a2;exact ⟨y,zo.2 (.inr hy),hg⟩
   ·rw [Bool.or_eq_true,hz,m2.2.2];constructor
    ·rintro (⟨r',a1,a2⟩|h)
     ·exact ⟨r',by rw [hl];exact zo.2 (.inl a1),a2⟩
     ·exact ⟨r,by rw [hl];exact zo.2 (.inr (zu.2 rfl)),h⟩
    ·rintro ⟨r',a1,a2⟩;rw [hl] at a1;rcases zo.1 a1 with a1|a1
     ·exact .inl ⟨r',a1,a2⟩
     ·rw [zu] at a1;subst a1;exact .inr a2
  ·obtain rfl:j=R.length:=by omega
   rw [List.take_length] at ht hz;have hq:LInv s.l T fs (i+1) N:=by
    refine ⟨hD,fun g=>?_⟩;rw [ht g,hH];constructor
    ·rintro ⟨r,a1,a2,a3⟩;obtain ⟨b1,b2⟩:=(hR.2 g).1 ⟨r,a1,a2⟩;refine ⟨b1,fun f hf=>?_⟩;rcases zo.1 hf with hf|hf
     ·exact b2 f hf
     ·rw [zu] at hf;subst hf;exact a3
    ·rintro ⟨b1,b2⟩;obtain ⟨r,a1,a2⟩:=(hR.2 g).2 ⟨b1,fun f hf=>b2 f (zo.2 (.inl hf))⟩;exact ⟨r,a1,a2,b2 _ (zo.2 (.inr (zu.2 rfl)))⟩
   have hC:qlr s.l T fs i=!hit:=by
    unfold qlr;rw [hf];show (!useB s.l [(T,30)] (fs.take i) (tr k t n ks))=!hit;congr 1;rw [Bool.eq_iff_iff,useB_iff,hz];constructor
    ·rintro ⟨g,a1,a2,a3⟩;obtain ⟨r,b1,b2⟩:=(hR.2 g).2 ⟨a1,a3⟩;exact ⟨r,b1,g,b2,a2⟩
    ·rintro ⟨r,b1,g,b2,b3⟩;obtain ⟨a1,a3⟩:=(hR.2 g).1 ⟨r,b1,b2⟩;exact ⟨g,a1,b3,a3⟩
   have hO:out.length≤i:=by rw [ho];exact qcf ..
   have he:fit (sumI (lenI out) (lenI [(i:Int)]))=some ():=q0g (by show out.length+1≤_;omega);have hE:ltI ((R.length:Nat):Int) (lenI (R.map jn))=false:=by have:=ltE (R.map jn);rw [hw] at this;exact this
   have hs:ltI 2000 (lenI (N.map jn))=decide (2000<N.length):=by unfold ltI lenI;rw [zm];exact decide_eq_decide.2 (by omega)
   have hc:=qfk s.l T fs i;rw [hC,←ho] at hc;cases hit with
   |true=>
    have hc:q23 s.l T fs (i+1)=out:=by rw [hc];exact zG _
    refine .inr ⟨_,?_,nb,N,ob,hq,rfl⟩;unfold l1_cb;simp only [hE,q01,nT,q00,hs,hc,add1 (show i≤1000000000 by omega)];cases decide (2000<N.length)<;>rfl
   |false=>have hc:q23 s.l T fs (i+1)=out++[(i:Int)]:=hc;refine .inr ⟨_,?_,nb,N,false,hq,rfl⟩;unfold l1_cb;simp only [hE,q01,nF,q02,q00,he,hs,hc,q13,add1 (show i≤1000000000 by omega)];cases decide (2000<N.length)<;>rfl
theorem qxv (b0 b1:Bool) (L:List DD) (hL:GD L) (hd:q4p L=true) {T:List ND} (hT:q26 T=true) (a:Sl SN) (ha:a.l.length≤6) (fs:List F) (hm:a.l.map Sl.l=fs.map F.flat) (ht:∀f,f∈fs→f.cnt=1∧f.flat.all patQ=true∧f.size≤30∧ofF L f [T]=true):∃(left:Sl SS) (out:Sl Int) (ok:Bool),f_cb (⟨b0,L⟩,⟨b1,T⟩,a,())=some (left,out,ok,())∧(ok=true→out.l=q23 L T fs fs.length∧(left.l≠[]↔∃g,tvF L g [(T,30)]∧∀f,f∈fs→mt f g=false)):=by
 obtain ⟨hs,hn,hl,_⟩:=q4e hd;have ho:a.l.length=fs.length:=by have:=congrArg List.length hm;rw [zm,zm] at this;exact this
 let r0:RO:=.node (⟨b1,T⟩,[],0,⟨true,[]⟩) true [];have h0:LInv L T fs 0 [r0]:=by
  refine ⟨fun r hr=>?_,fun g=>?_⟩
  ·rw [zu] at hr;subst hr;exact ⟨.any _ _ rfl fun _=>rfl,rfl,.mk _ (Nat.zero_le _) fun k hk=>by cases hk⟩
  ·constructor
   ·rintro ⟨r,hr,hg⟩;rw [zu] at hr;subst hr;exact ⟨(qlm rfl rfl g).1 hg,fun f hf=>by cases hf⟩
   ·rintro ⟨hg,_⟩;exact ⟨r0,zu.2 rfl,(qlm (s:=r0) rfl rfl g).2 hg⟩
 rw [u_cb];have:=q1d (f:=l2_cb)
  (I:=fun z=>∃(i:Nat) (lb:Bool) (R:List RO) (ob:Bool),z=((⟨b0,L⟩:Sl DD),a,(i:Int),(⟨lb,R.map jn⟩:Sl SS),(⟨ob,q23 L T fs i⟩:Sl Int),())∧i≤fs.length∧LInv L T fs i R∧R.length≤2000)
  (Q:=fun z=>∃(left:Sl SS) (out:Sl Int) (ok:Bool),z=(left,out,ok,())∧(ok=true→out.l=q23 L T fs fs.length∧(left.l≠[]↔∃g,tvF L g [(T,30)]∧∀f,f∈fs→mt f g=false)))
  (fun z=>((fs.length:Int)-z.2.2.1).toNat) ?_ ((⟨b0,L⟩:Sl DD),a,0,(⟨false,[r0].map jn⟩:Sl SS),(⟨false,[]⟩:Sl Int),()) ⟨0,false,[r0],false,rfl,Nat.zero_le _,h0,by show 1≤2000;omega⟩
 ·obtain ⟨z,h1,left,out,ok,h2,h3⟩:=this;exact ⟨left,out,ok,by rw [←h2];exact h1,h3⟩
 ·rintro z ⟨i,lb,R,ob,rfl,hi,he,hu⟩;by_cases h1:i<fs.length
  ·obtain ⟨f,hf⟩:∃f,fs[i]?=some f:=⟨_,zh h1⟩;obtain ⟨x,hx⟩:∃x,a.l[i]?=some x:=⟨_,zh (by omega)⟩;have hv:x.l=f.flat:=by
    have e1:(a.l.map Sl.l)[i]?=some x.l:=by rw [zT,hx];rfl
    rw [hm,zT,hf] at e1;injection e1 with e1;exact e1.symm
   obtain ⟨q1,q2,q3,q4⟩:=ht f (zn hf);obtain ⟨k,t,n,ks,rfl⟩:=q4x f q1;have q3':ks.size+0+1≤30:=q3;obtain ⟨nb,N,ob',g1,g2⟩:=z3f (s:=⟨b0,L⟩) hL hs hn hl hT a (fs:=fs) (i:=i) (by omega) hx hf hv (by omega) (qo0 hs q1 q2 q3 q4) lb R he hu ob _ rfl;have hq:ltI (i:Int) (lenI a.l)=true:=ltG hx;have step:l2_cb ((⟨b0,L⟩:Sl DD),a,(i:Int),(⟨lb,R.map jn⟩:Sl SS),(⟨ob,q23 L T fs i⟩:Sl Int),())=some (bif decide (2000<N.length) then .inr (⟨true,[]⟩,⟨true,[]⟩,false,()) else .inl ((⟨b0,L⟩:Sl DD),a,((i+1:Nat):Int),⟨nb,N.map jn⟩,⟨ob',q23 L T fs (i+1)⟩,())):=by unfold l2_cb;simp only [hq,q02];exact g2
   cases hj:decide (2000<N.length) with
   |true=>rw [hj] at step;exact .inr ⟨_,step,_,_,false,rfl,fun h=>by cases h⟩
   |false=>rw [hj] at step;have:=of_decide_eq_false hj;exact .inl ⟨_,step,⟨i+1,nb,N,ob',rfl,h1,g1,by omega⟩,by show ((fs.length:Int)-((i+1:Nat):Int)).toNat<((fs.length:Int)-(i:Int)).toNat;omega⟩
  ·obtain rfl:i=fs.length:=by omega
   have hq:ltI ((fs.length:Nat):Int) (lenI a.l)=false:=by rw [←ho];exact ltE a.l
   refine .inr ⟨(⟨lb,R.map jn⟩,⟨ob,q23 L T fs fs.length⟩,true,()),?_,_,_,true,rfl,fun _=>⟨rfl,?_⟩⟩
   ·unfold l2_cb;simp only [hq,q01]
   ·have hc:=he.2;rw [List.take_length] at hc;constructor
    ·intro hw;cases R with
     |nil=>exact absurd rfl hw
     |cons r R=>obtain ⟨g,hg⟩:=qx3 (he.1 r (ze ..)).1;exact ⟨g,(hc g).1 ⟨r,ze ..,hg⟩⟩
    ·rintro ⟨g,hg⟩;obtain ⟨r,hr,_⟩:=(hc g).2 hg;intro e;have e:R.map jn=[]:=e;rw [List.map_eq_nil_iff.1 e] at hr;cases hr
end Fn
end Ev

namespace Ev
open Go
namespace Fn
end Fn
end Ev

namespace Ev
open Go
namespace Fn
theorem qfl:∀(f:F) (m odd:Bool),errF m true odd f=0→int0 f
 |.nil,_,_,_=>fun x hx=>by cases hx
 |.cons k t n ks r,m,odd,h=>by
  rw [errF_ok,Bool.true_or,errT_ok] at h;obtain ⟨⟨h1,h2⟩,h3⟩:=h;intro x hx hk;have hx:x∈(k,t,n,(ks.cnt:Int))::(ks.flat++r.flat):=hx;rcases zj.1 hx with rfl|hx
  ·have hk:k=23:=hk;subst hk;have hc:=(nodeE_zero.1 h1).2.2.1;exact (qvr hc).2.2.2.2 (by omega)
  ·rcases zo.1 hx with hx|hx
   ·exact qfl ks _ _ h2 x hx hk
   ·exact qfl r _ _ h3 x hx hk
theorem z0g {f:F} (h1:f.cnt=1) (h:isP f.flat):int0 f:=by obtain ⟨k,t,n,ks,e,h2⟩:=h;obtain ⟨k',t',n',ks',rfl⟩:=q4x f h1;obtain ⟨rfl,rfl,rfl,rfl⟩:=qle e;have h3:=(chkT_ok.1 h2).2.1;exact qfl (tr k' t' n' ks') false false (by rw [errF_ok,Bool.true_or];exact ⟨h3,rfl⟩)
theorem qfm:∀(fs:List F) (i:Nat),q1h (fs.take i)≤q1h fs
 |[],i=>by rw [List.take_nil];exact Nat.le_refl _
 |f::fs,0=>Nat.zero_le _
 |f::fs,i+1=>by have:=qfm fs i;show f.clo+q1h (fs.take i)≤f.clo+q1h fs;omega
theorem qxw {x:SN} {f:F} (h1:f.cnt=1) (h:x.l=f.flat):[x.l]=f.trees:=by obtain ⟨k,t,n,ks,rfl⟩:=q4x f h1;show [x.l]=[(tr k t n ks).flat];rw [h]
theorem qxx {a:List SN} {fs:List F} (hm:a.map Sl.l=fs.map F.flat) (h1:∀f,f∈fs→f.cnt=1) (nb:Bool) (i:Nat):RS ⟨nb,(a.take i).map fun x=>(⟨false,[x]⟩:SSN)⟩ (fs.take i):=by
 show ((a.take i).map fun x=>(⟨false,[x]⟩:SSN)).map (fun r=>r.l.map Sl.l)=(fs.take i).map F.trees;rw [zW,List.map_take,List.map_take];congr 1;apply List.ext_getElem?;intro j;rw [zT,zT];have e:(a.map Sl.l)[j]?=(fs.map F.flat)[j]?:=by rw [hm]
 rw [zT,zT] at e;cases ha:a[j]? with
 |none=>
  rw [ha] at e;cases hf:fs[j]? with
  |none=>rfl
  |some f=>rw [hf] at e;cases e
 |some x=>
  rw [ha] at e;cases hf:fs[j]? with
  |none=>rw [hf] at e;cases e
  |some f=>rw [hf] at e;injection e with e;exact congrArg some (qxw (h1 f (zn hf)) e)
theorem qls (b0 b1 b2:Bool) (L:List DD) (hL:GD L) (T:List ND) (hT:T.length≤4000) (hB:GL T) (a:List SN) (ha:a.length≤6) (hg:∀x,x∈a→x.l.length≤30∧GL x.l):∃(u:Sl Int) (e:Int),f_b2 (⟨b0,L⟩,⟨b1,T⟩,⟨b2,a⟩,())=some (u,e,())∧(¬(q4p L=true∧q26 T=true∧∀x,x∈a→qa4 L T x.l)→u.l=[]∧e=120)∧((q4p L=true∧q26 T=true∧∀x,x∈a→qa4 L T x.l)→e=0∧∀fs:List F,a.map Sl.l=fs.map F.flat→(∀f,f∈fs→f.cnt=1∧f.flat.all patQ=true∧f.size≤30∧ofF L f [T]=true∧isP f.flat)→u.l=q23 L T fs fs.length):=by
 obtain ⟨okr,he,h0⟩:=qfg b0 b1 L hL T hT hB ⟨b2,a⟩ (by show a.length≤_;omega) (fun x hx=>⟨by have:=(hg x hx).1;omega,(hg x hx).2⟩);rw [u_b2];simp only [he,q00];cases okr with
 |false=>have:eqI (bif false then 0 else 120) 0=false:=rfl;simp only [this,nF,q02];exact ⟨_,_,rfl,fun _=>⟨rfl,rfl⟩,fun h=>absurd (h0.2 h) zZ⟩
 |true=>
  obtain ⟨h1,h2,h3⟩:=h0.1 rfl;have e00:eqI (bif true then 0 else 120) 0=true:=rfl;simp only [e00,nT,q01];obtain ⟨fs,r1,r2,r3,r4⟩:=qnz (L:=L) (T:=T) a fun x hx=>⟨h3 x hx,(hg x hx).1⟩;have hy:=(q4e h1).1;have hm:a.map Sl.l=fs.map F.flat:=by
   have h5:(a.map fun x=>[x.l]).map List.flatten=(fs.map F.trees).map List.flatten:=by rw [r2]
   rw [zW,zW] at h5;have e1:a.map Sl.l=a.map (List.flatten∘fun x:SN=>[x.l]):=zX fun x _=>by show x.l=[x.l].flatten;simp
   have e2:fs.map F.flat=fs.map (List.flatten∘F.trees):=zX fun f _=>(F.trees_flat f).symm;rw [e1,e2];exact h5
  have hs:∀f,f∈fs→int0 f:=fun f hf=>by obtain ⟨q1,_,_,_,x,q5,q6,q7⟩:=r3 f hf;exact z0g q1 (by rw [←q6];exact q7)
  have hC:=qfa (m:=30) fs fun f hf=>(r3 f hf).2.2.1;have:=q1d (f:=l1_b2)
   (I:=fun z=>∃(i:Nat) (nb:Bool),z=((⟨b1,T⟩:SN),(⟨b2,a⟩:SSN),(⟨b2,a⟩:SSN),lenI a,(i:Int),(⟨b0,L⟩:Sl DD),(⟨nb,q23 L T fs i⟩:Sl Int),())∧i≤a.length)
   (Q:=fun z=>∃u:Sl Int,z=(u,0,())∧u.l=q23 L T fs fs.length) (fun z=>((a.length:Int)-z.2.2.2.2.1).toNat) ?_ ((⟨b1,T⟩:SN),(⟨b2,a⟩:SSN),(⟨b2,a⟩:SSN),lenI a,0,(⟨b0,L⟩:Sl DD),(⟨true,[]⟩:Sl Int),()) ⟨0,true,rfl,Nat.zero_le _⟩
  ·obtain ⟨z,g1,u,g2,g3⟩:=this;refine ⟨u,0,by rw [←g2];exact g1,fun h=>absurd ⟨h1,h2,h3⟩ h,fun _=>⟨rfl,fun fs' hD ht=>?_⟩⟩;have hE:fs=fs':=by
    apply List.ext_getElem?;intro j;have e:(fs.map F.flat)[j]?=(fs'.map F.flat)[j]?:=by rw [←hm,hD]
    rw [zT,zT] at e;cases hf:fs[j]? with
    |none=>
     rw [hf] at e;cases ho:fs'[j]? with
     |none=>rfl
     |some f=>rw [ho] at e;cases e
    |some f=>
     rw [hf] at e;cases ho:fs'[j]? with
     |none=>rw [ho] at e;cases e
     |some f'=>rw [ho] at e;injection e with e;obtain ⟨k,t,n,ks,rfl⟩:=q4x f (r3 f (zn hf)).1;obtain ⟨k',t',n',ks',rfl⟩:=q4x f' (ht f' (zn ho)).1;obtain ⟨rfl,rfl,rfl,rfl⟩:=qle e;rfl
   rw [←hE];exact g3
  ·rintro z ⟨i,nb,rfl,hi⟩;by_cases hu:i<a.length
   ·obtain ⟨x,hx⟩:∃x,a[i]?=some x:=⟨_,zh hu⟩;obtain ⟨f,hf⟩:∃f,fs[i]?=some f:=⟨_,zh (by omega)⟩;have hF:x.l=f.flat:=by
     have e1:(a.map Sl.l)[i]?=some x.l:=by rw [zT,hx];rfl
     rw [hm,zT,hf] at e1;injection e1 with e1;exact e1.symm
    have hz:=zn hf;obtain ⟨q1,q2,q3,q4,_⟩:=r3 f hz;have hq:=qit a i (by omega);obtain ⟨nb2,hl⟩:=qh7 ⟨b2,a.take i⟩ (by show (a.take i).length≤_;rw [zU];omega);have hI:(fs.take i).length≤6:=by rw [zU];omega
    have hJ:=qfm fs i;have hK:=qqb f;have hG:∀g:F,g.size≤30→g.size+mu2 (fs.take i) f 1≤9999:=fun g hM=>by unfold mu2;omega
    have hU:UOk L [(T,30)] (fs.take i) f:=by
     refine ⟨by omega,fun g hn=>?_⟩;have hn:g∈fs:=by
      rcases zj.1 hn with rfl|hn
      ·exact hz
      ·exact List.mem_of_mem_take hn
     obtain ⟨p1,p2,p3,p4,_⟩:=r3 g hn;exact ⟨p2,hG g p3,qo0 hy p1 p2 p3 p4,hs g hn⟩
    have hj:=z0f (s:=⟨b0,L⟩) hL hy (types:=⟨false,[⟨b1,T⟩]⟩) (rows:=⟨nb2,(a.take i).map fun x=>(⟨false,[x]⟩:SSN)⟩) (qs:=⟨false,[x]⟩) (Z:=[(T,30)]) (fs:=fs.take i) (q:=f) rfl (qxx hm (fun f hf=>(r3 f hf).1) nb2 i) (qxw q1 hF) hU (fun T' hv=>by
     rcases zj.1 hv with rfl|hv
     ·exact h2
     ·cases hv)
    have hH:qlr L T fs i=!useB L [(T,30)] (fs.take i) f:=by unfold qlr;rw [hf]
    have hc:=qfk L T fs i;rw [hH] at hc;have hN:(q23 L T fs i).length≤i:=qcf ..;have hw:fit (sumI (lenI (q23 L T fs i)) (lenI [(i:Int)]))=some ():=q0g (by show (q23 L T fs i).length+1≤_;omega);have hj:f_bd (⟨false,[⟨b1,T⟩]⟩,⟨nb2,(a.take i).map fun x=>(⟨false,[x]⟩:SSN)⟩,⟨false,[x]⟩,⟨b0,L⟩,())=some (useB L [(T,30)] (fs.take i) f,⟨b0,L⟩,()):=hj;cases hA:useB L [(T,30)] (fs.take i) f with
    |true=>
     rw [hA] at hc hj;have hc:q23 L T fs (i+1)=q23 L T fs i:=by rw [hc];exact zG _
     refine .inl ⟨((⟨b1,T⟩:SN),(⟨b2,a⟩:SSN),(⟨b2,a⟩:SSN),lenI a,((i+1:Nat):Int),(⟨b0,L⟩:Sl DD),(⟨nb,q23 L T fs i⟩:Sl Int),()),?_,⟨i+1,nb,by rw [hc],hu⟩,by show ((a.length:Int)-((i+1:Nat):Int)).toNat<((a.length:Int)-(i:Int)).toNat;omega⟩;unfold l1_b2;simp only [ltG hx,q02,q05 hx,q00,hq,hl,hj,nT,q01,add1 (show i≤1000000000 by omega)]
    |false=>rw [hA] at hc hj;have hc:q23 L T fs (i+1)=q23 L T fs i++[(i:Int)]:=hc;refine .inl ⟨((⟨b1,T⟩:SN),(⟨b2,a⟩:SSN),(⟨b2,a⟩:SSN),lenI a,((i+1:Nat):Int),(⟨b0,L⟩:Sl DD),(⟨false,q23 L T fs i++[(i:Int)]⟩:Sl Int),()),?_,⟨i+1,false,by rw [hc],hu⟩,by show ((a.length:Int)-((i+1:Nat):Int)).toNat<((a.length:Int)-(i:Int)).toNat;omega⟩;unfold l1_b2;simp only [ltG hx,q02,q05 hx,q00,hq,hl,hj,nF,hw,q13,add1 (show i≤1000000000 by omega)];rfl
   ·obtain rfl:i=a.length:=by omega
    refine .inr ⟨(⟨nb,q23 L T fs a.length⟩,0,()),?_,_,rfl,by rw [r1]⟩;unfold l1_b2;simp only [ltE,q01]
theorem z0h (b b':Bool) (l:List Int) (hl:l.length≤1000000):f_by (⟨b,l⟩,⟨b',l⟩,())=some (true,()):=by
 have e0:eqI (lenI l) (lenI l)=true:=q1j _;rw [u_by];simp only [e0,nT,q01];refine (q10 l1_by (fun i=>(⟨b,l⟩,⟨b',l⟩,i,())) l hl (fun _ _=>none) (true,()) (fun j x hx hj=>?_) ?_).trans ?_
 ·unfold l1_by
  simp only [ltG hx,q02,q05 hx,q00,q1j,nT,q01,add1 (show j≤1000000000 by omega)]
 ·unfold l1_by
  simp only [ltE,q01]
 ·congr 1;have:∀(l:List Int) (k:Nat),scan (fun _ _=>none) ((true,()):Bool×Unit) k l=(true,()):=by
   intro l
   induction l with
   |nil=>intro k;rfl
   |cons x l ih=>intro k;exact ih (k+1)
  exact this l 0
theorem law_Useless (b0 b1 b2:Bool) (L:List DD) (T:List ND) (a:List SN) (gd:gDin L) (gT:gL T) (ga:∀x,x∈a→gL x.l) (hz:a.length≤9223372036854775807):f_law12_PatUseless (⟨b0,L⟩,⟨b1,T⟩,⟨b2,a⟩,())=some (true,()):=by
 obtain ⟨c,hc,hb⟩:=z4g ⟨b0,L⟩ gd ⟨b1,T⟩ ⟨b2,a⟩ hz;rw [qaz,qz8];simp only [q00,nT,q01,hc];cases c with
 |false=>rfl
 |true=>
  obtain ⟨hL,fT,la,fa⟩:=hb rfl;have hL:GD L:=hL;have fT:fewN 30 T:=fT;have la:a.length≤6:=la;have fa:∀p,p∈a→fewN 30 p.l:=fa;have lT:=fT.1;have ht:=qwd gT fT;have o1:=qq5 b1 T (by omega);have hf:=fitD L hL.1;have e0:(⟨andB false (isE L),app ([]:List DD) L⟩:Sl DD)=⟨false,L⟩:=rfl;have hv:∀x,x∈a→x.l.length≤4000∧GL x.l:=fun x hx=>⟨by have:=(fa x hx).1;omega,qwd (ga x hx) (fa x hx)⟩;have he:=qwe ⟨b2,a⟩ (by show a.length≤_;omega) (fun x hx=>by have:=(hv x hx).1;omega);have he:q2w (⟨b2,a⟩,())=some (⟨false,a.map fun x=>(⟨false,x.l⟩:SN)⟩,()):=he;have hw:∀x,x∈(a.map fun x=>(⟨false,x.l⟩:SN))→x.l.length≤30∧GL x.l:=fun x hx=>by obtain ⟨y,hy,rfl⟩:=zR.1 hx;exact ⟨(fa y hy).1,(hv y hy).2⟩
  obtain ⟨w,ok,e,hm,ho,hj⟩:=qiy false false false L hL T (by omega) ht (a.map fun x=>(⟨false,x.l⟩:SN)) (by rw [zm];exact la) hw;obtain ⟨u,e',hu,ubad,ugood⟩:=qls false false false L hL T (by omega) ht (a.map fun x=>(⟨false,x.l⟩:SN)) (by rw [zm];exact la) hw;simp only [nT,q01,q00,hf,o1,e0,he,hm,hu];by_cases hg:q4p L=true∧q26 T=true∧∀x,x∈(a.map fun x=>(⟨false,x.l⟩:SN))→qa4 L T x.l
  ·obtain ⟨rfl,fs,g1,g2,g3,_⟩:=hj hg;obtain ⟨rfl,hn⟩:=ugood hg;have hn:=hn fs g2 g3;have hq:a.map Sl.l=fs.map F.flat:=by rw [←g2,zW];rfl
   obtain ⟨left,out,ok2,l1,l2⟩:=qxv b0 b1 L hL hg.1 hg.2.1 ⟨b2,a⟩ la fs hq (fun f hf=>⟨(g3 f hf).1,(g3 f hf).2.1,(g3 f hf).2.2.1,(g3 f hf).2.2.2.1⟩);have e00:eqI 0 0=true:=rfl;simp only [e00,nT,q01,l1,q00];cases ok2 with
   |false=>rfl
   |true=>
    obtain ⟨l3,_⟩:=l2 rfl;obtain ⟨ub,ul⟩:=u;obtain ⟨ob,ol⟩:=out;have hn:ul=_:=hn;have l3:ol=_:=l3;have hs:f_by (⟨ub,ul⟩,⟨ob,ol⟩,())=some (true,()):=by
     rw [hn,l3];refine z0h ub ob _ ?_;have:=qcf L T fs fs.length;have hl:fs.length≤6:=by rw [g1,zm];exact la
     omega
    simp only [nT,q01,hs,q00]
  ·obtain ⟨_,_,rfl⟩:=ho hg;obtain ⟨hA,rfl⟩:=ubad hg;have e1:eqI 120 120=true:=rfl;have e2:eqI 120 0=false:=rfl;have e3:eqI (lenI u.l) 0=true:=by rw [hA];rfl
   simp only [e1,e2,nT,nF,q01,q02,e3]
end Fn
end Ev

