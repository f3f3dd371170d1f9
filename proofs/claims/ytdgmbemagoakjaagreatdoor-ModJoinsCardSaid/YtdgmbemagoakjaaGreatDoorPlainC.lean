/- The parser does what the plain words say. No statement of its own about the program. -/
import Derived.Test.YtdgmbemagoakjaaGreatDoorPlainB
namespace Ev
open Go
namespace Fn
open Pz
theorem q8j(n:Bool)(l:List (List Int))(s:List Int)(hl:l.length<=1000000):iW (⟨n,l⟩,s,())=some (decide (s∈l),()):=by obtain⟨r,h1,h2⟩:=qj2 s n l hl l.length 0 om;rw[List.drop_zero] at h2;have h1:aM gw (⟨n,l⟩,s,ae l,0,())=some (r,()):=h1;rw[Pc,I7,h1,af];have:bJ 0 r=decide (s∈l):=decide_eq_decide.2 (by rw[h2]);rw[this]
section
variable (nb:Bool) (c:PC) (F:Y3)
abbrev S(a d w k:Int):Y7:=(⟨nb,c.l⟩,c.e,F,a,d,w,k,())
variable {nb c F}
theorem lF{a:Int}{i j:Nat}(h:aA .i64 (i:Int) a=(j:Int))(k d w:Int):cU (a,k,⟨true,[]⟩,S nb c F (i:Int) d w 0)=some (dL c j k,S nb c F (i:Int) d w 0):=by
 rw[Jd,h];simp only;rw[fY,aP,af,cd];unfold dL;by_cases hj:j<c.l.length
 ·have hl:(j:Int)<ae c.l:=by show(j:Int)<(c.l.length:Int);omega
  have hg:=ze hj;rw[if_pos hl,bR hg,hg,af,af];have e:ak c.l[j].1 k=decide (c.l[j].1=k):=by
   by_cases e:c.l[j].1=k
   ·rw[e,fY];exact(zo rfl).symm
   ·rw[eP e];exact(zn e).symm
  rw[e];show _=some (decide (c.l[j].1=k),S nb c F (i:Int) d w 0);cases decide (c.l[j].1=k)<;>rfl
 ·have hl:¬(j:Int)<ae c.l:=by show ¬(j:Int)<(c.l.length:Int);omega
  rw[if_neg hl,zU om];rfl
theorem mH{i:Nat}(h:i<=1000000){ks:List Tx}(hk:ks≠[])(hl:ks.length<=1000)(d w:Int):cU (0,6,⟨false,ks⟩,S nb c F (i:Int) d w 0)=some (dP c i ks,S nb c F (i:Int) d w 0):=by
 have h0:aA .i64 (i:Int) 0=(i:Int):=by rw[tH om om];omega
 have hd:ak (ae ks) 0=false:=eP (by
  show((ks.length:Nat):Int)≠0;have:=List.length_pos_iff.2 hk;omega)
 rw[Jd,h0];simp only;rw[fY,aP,af,cd,hd,aH];unfold dP;by_cases hj:i<c.l.length
 ·have hc:(i:Int)<ae c.l:=by show(i:Int)<(c.l.length:Int);omega
  have hg:=ze hj;rw[if_pos hc,bR hg,hg,af,af,af,q8j _ _ _ om,af];have e:ak c.l[i].1 6=decide (c.l[i].1=6):=by
   by_cases e:c.l[i].1=6
   ·rw[e,fY];rfl
   ·rw[eP e];exact(zn e).symm
  rw[e];show _=some (decide (c.l[i].1=6)&&decide (c.l[i].2.1∈ks),S nb c F (i:Int) d w 0);cases decide (c.l[i].1=6)<;>rfl
 ·have hc:¬(i:Int)<ae c.l:=by show ¬(i:Int)<(c.l.length:Int);omega
  rw[if_neg hc,zU om];rfl
theorem qy{er:Int}(he:er≠0)(a k:Int)(ks:Sl Tx)(i d w:Int):cU (a,k,ks,S nb c F i d w er)=some (false,S nb c F i d w er):=by rw[Jd,eP he];rfl
theorem BD{a:Int}(h:0<=a)(i d w er:Int):fL (a,S nb c F i d w er)=some (gG c a.toNat,S nb c F i d w er):=by
 obtain⟨j,rfl⟩:=Int.eq_ofNat_of_zero_le h;rw[Zm];simp only;rw[cd,Int.toNat_natCast];unfold gG;by_cases hj:j<c.l.length
 ·have hg:=ze hj;rw[if_pos (by show(j:Int)<(c.l.length:Int);omega),bR hg,hg,af]
 ·rw[if_neg (by show ¬(j:Int)<(c.l.length:Int);omega),zU om]
theorem Ho(x k i d w:Int):fy (x,k,S nb c F i d w 0)=some (⟨true,[]⟩,S nb c F i d x k):=by rw[Pm,fY];rfl
theorem z4q{er:Int}(he:er≠0)(x k i d w:Int):fy (x,k,S nb c F i d w er)=some (⟨true,[]⟩,S nb c F i d w er):=by rw[Pm,eP he];rfl
theorem zat{a:Int}(h:0<=a)(h2:a<=1000000):aA .i64 a 1=a+1:=tH om om
theorem oo{i:Nat}(h:i<=1000000):aA .i64 (i:Int) 0=(i:Int):=by rw[tH om om];omega
theorem Gb{i:Nat}{k:Int}{ks:List Tx}(h:dL c i k=true\/dP c i ks=true)(hi:c.l.length<=1000000)(d w er:Int):fA (S nb c F (i:Int) d w er)=some (((c.l[i]?).getD (0,[],0,0)),S nb c F ((i+1:Nat):Int) d w er):=by
 have hc:i<c.l.length:=h.elim sZ CA;have hg:=ze hc;rw[Zp];simp only;have e:cq .i64 (aA .i64 (i:Int) 1) 1=(i:Int):=by rw[tH om om,qL om om];omega
 rw[e,bR hg,af,hg,aO om];rfl
theorem Hp(i:Nat):((c.l[i]?).getD (0,[],0,0)).2.1=eW c i:=by unfold eW;cases c.l[i]?<;>rfl
theorem qyo(i:Nat):((c.l[i]?).getD (0,[],0,0)).2.2.1=num c i:=by unfold num;cases c.l[i]?<;>rfl
theorem Ug{i:Nat}(k:Int)(hi:i<c.l.length):ak ((c.l[i]?).getD (0,[],0,0)).1 k=dL c i k:=by
 unfold dL;rw[ze hi];show ak c.l[i].1 k=decide (c.l[i].1=k);by_cases e:c.l[i].1=k
 ·rw[e,fY];exact(zo rfl).symm
 ·rw[eP e];exact(zn e).symm
theorem z9r{i:Nat}(hi:i<=1000000)(s:Tx)(d w:Int):fc (s,S nb c F (i:Int) d w 0)=some (bif dP c i [s] then S nb c F ((i+1:Nat):Int) d w 0 else S nb c F ((i+1:Nat):Int) d (gG c i) 70):=by rw[Po,mH hi (by simp) (by simp),af];simp only;rw[BD om,af,Int.toNat_natCast];simp only;rw[Ho,af];simp only;cases dP c i [s]<;>simp only[ai,Bool.not_true,Bool.not_false,aP,aH,af,aO (show i<=1000000000 by omega),cond_true,cond_false]
theorem M5{er:Int}(he:er≠0){i:Int}(h0:0<=i)(hi:i<=1000000)(s:Tx)(d w:Int):fc (s,S nb c F i d w er)=some (S nb c F (i+1) d w er):=by rw[Po,qy he,af];simp only;rw[BD h0,af];simp only;rw[z4q he,af];simp only;simp only[ai,Bool.not_false,aP,af,zat h0 hi]
theorem z4r{er:Int}(he:er≠0){i:Int}(h0:0<=i)(d w:Int):iX (S nb c F i d w er)=some ([],S nb c F i d w er):=by rw[Pq];simp only[qy he,af,aH,BD h0,z4q he]
theorem qs9{i:Nat}(hi:i<=1000000)(d w:Int):kp (S nb c F (i:Int) d w 0)=some (wQ c i,S nb c F (i:Int) d w 0):=by rw[Pp];simp only[lF (oo hi),af,mH (ks:=[[40],[109,97,116,99,104]]) hi (by simp) (by simp)];unfold wQ;cases dL c i 3<;>cases dL c i 4<;>cases dL c i 1<;>cases dL c i 2<;>simp only[aP,aH,Bool.true_or,Bool.false_or]<;>rfl
theorem qsa{er:Int}(he:er≠0)(i d w:Int):kp (S nb c F i d w er)=some (false,S nb c F i d w er):=by rw[Pp];simp only[qy he,af,aH]
end
open Pz
def lens(kids:List (Sl Y0)):Nat:=(kids.map fun k=>k.l.length).sum
theorem qyp(q:Bool)(kids:List (Sl Y0))(hn:kids.length<=1000000)(_hs:lens kids<=1000000):∀(m k:Nat) (acc:List Y0),k+m=kids.length->acc.length+lens (kids.drop k)<=1000001->aM p6 (⟨q,kids⟩,(kids.length:Int),(k:Int),⟨false,acc⟩,())=some (⟨false,acc++((kids.drop k).map (·.l)).flatten⟩,()):=by
 intro m
 induction m with
 |zero=>intro k acc hk hl;apply bX;unfold p6;simp only;rw[cd,if_neg om,zw om];simp
 |succ m ih=>
  intro k acc hk hl;have hc:k<kids.length:=om
  have hd:=jk hc;have he:lens (kids.drop k)=kids[k].l.length+lens (kids.drop (k+1)):=by unfold lens;rw[hd,zI,List.sum_cons]
  have step:p6 (⟨q,kids⟩,(kids.length:Int),(k:Int),⟨false,acc⟩,())=some (.inl (⟨q,kids⟩,(kids.length:Int),((k+1:Nat):Int),⟨false,acc++kids[k].l⟩,())):=by
   unfold p6;simp only;rw[cd,if_pos om,bR (ze hc),af,fm (by
    show((acc.length:Nat):Int)+((kids[k].l.length:Nat):Int)<=_;omega),af,aO om]
   rfl
  rw[dC step,ih (k+1) _ om (by rw[zh];omega),hd,zI,List.flatten_cons,zC]
theorem qh4(k:Int)(s:Tx)(n z:Int)(q:Bool)(kids:List (Sl Y0))(hn:kids.length<=1000000)(hs:lens kids<=1000000):fp ((k,s,n,z),⟨q,kids⟩,())=some (⟨false,(k,s,n,(kids.length:Int))::(kids.map (·.l)).flatten⟩,()):=by have h:=qyp q kids hn hs kids.length 0 [(k,s,n,(kids.length:Int))] om (by rw[List.drop_zero,List.length_singleton];omega);rw[List.drop_zero] at h;rw[YQ];exact h
theorem Gc(k:Int)(s:Tx)(q:Bool)(kids:List (Sl Y0))(hn:kids.length<=1000000)(hs:lens kids<=1000000):cN (k,s,⟨q,kids⟩,())=some (⟨false,nd k s (kids.map (·.l))⟩,()):=by rw[Zq,qh4 _ _ _ _ _ _ hn hs,af];unfold nd;simp
theorem z7i(k:Int)(s:Tx)(q:Bool):cN (k,s,⟨q,[]⟩,())=some (⟨false,nd k s []⟩,()):=Gc k s q [] (by simp) (by simp[lens])
theorem Ql(k:Int)(s:Tx)(q:Bool)(a:(Sl Y0))(h:a.l.length<=1000000):cN (k,s,⟨q,[a]⟩,())=some (⟨false,nd k s [a.l]⟩,()):=Gc k s q [a] (by simp) (by simpa[lens] using h)
theorem vW(k:Int)(s:Tx)(q:Bool)(a b:(Sl Y0))(h:a.l.length+b.l.length<=1000000):cN (k,s,⟨q,[a,b]⟩,())=some (⟨false,nd k s [a.l,b.l]⟩,()):=Gc k s q [a,b] (by simp) (by simpa[lens] using h)
theorem Uh(k:Int)(s:Tx)(q:Bool)(a b d:(Sl Y0))(h:a.l.length+b.l.length+d.l.length<=1000000):cN (k,s,⟨q,[a,b,d]⟩,())=some (⟨false,nd k s [a.l,b.l,d.l]⟩,()):=Gc k s q [a,b,d] (by simp) (by simp only[lens,zI,List.map_nil,List.sum_cons,List.sum_nil];omega)
theorem z9s(k:Int)(n z:Int)(q:Bool):fp ((k,[],n,z),⟨q,[]⟩,())=some (⟨false,[(k,[],n,0)]⟩,()):=qh4 k [] n z q [] (by simp) (by simp[lens])
section
variable (nb:Bool) (c:PC) (F:Y3)
def Sm(lo:Nat)(B:Int)(d:Int)(r:PR (List ND×Nat))(o:Option Y4):Prop:=match r with
 |.ok x=>∃b,o=some (⟨b,x.1⟩,S nb c F (x.2:Int) d 0 0)
 |.error q=>∃v a d',o=some (v,S nb c F a d' q.1 q.2)/\q.2≠0/\((lo:Int)<=a/\a<=B)/\(v.l.length:Int)<=3*(a-lo)+1
def Sb(lo:Nat)(d:Int)(r:PR (Tx×Nat))(o:Option tK):Prop:=match r with
 |.ok x=>o=some (x.1,S nb c F (x.2:Int) d 0 0)
 |.error q=>∃v a,o=some (v,S nb c F a d q.1 q.2)/\q.2≠0/\((lo:Int)<=a/\a<=lo+3)
variable {nb c F}
theorem z9t(hn:c.l.length<=10000){i:Nat}(hi:i<=c.l.length)(d:Int):Sb nb c F i d (uf c i) (iX (S nb c F (i:Int) d 0 0)):=by
 have hc:i<=1000000:=om
 rw[Pq,lF (oo hc),af];simp only;rw[mH hc (by simp) (by simp),af];simp only;rw[lF (j:=i+1) (aO om),af];simp only;rw[mH hc (by simp) (by simp),af];simp only;have eL:dP c i [[40]]=dP c i [kL]:=rfl;unfold uf;rw[eL,aO (show i<=1000000000 by omega)];cases h1:dL c i 1 with
 |true=>rw[aP,Gb (ks:=[]) (.inl h1) om,af];simp only;rw[Hp];rfl
 |false=>
  rw[aH];cases h2:dP c i [kL] with
  |false=>simp only[aH,af];rw[BD om,af,Int.toNat_natCast];simp only;rw[Ho,af];exact⟨[],(i:Int),rfl,(by decide:(70:Int)≠0),by omega,by omega⟩
  |true=>
   rw[aP];cases h3:dL c (i+1) 5 with
   |true=>
    rw[aP,Gb (ks:=[]) (.inl h3) om,af];simp only;rw[z9r (i:=i+1+1) om,af,Hp];show Sb nb c F i d (eb (dY c (i+2) kR) fun a=>.ok (eW c (i+1),a)) _;unfold dY;have eR:dP c (i+1+1) [[41]]=dP c (i+2) [kR]:=rfl;rw[eR];cases h4:dP c (i+2) [kR] with
    |true=>rfl
    |false=>exact⟨_,((i+1+1+1:Nat):Int),rfl,(by decide:(70:Int)≠0),by omega,by omega⟩
   |false=>simp only[aP,aH,af];rw[BD om,af,Int.toNat_natCast];simp only;rw[Ho,af];exact⟨[],((i+1:Nat):Int),rfl,(by decide:(70:Int)≠0),by omega,by omega⟩
end
open Pz
section
variable (nb:Bool) (c:PC) (F:Y3)
def Er(lo:Nat)(B w er:Int)(o:Option Y4):Prop:=∃v a d',o=some (v,S nb c F a d' w er)/\((lo:Int)<=a/\a<=B)/\(v.l.length:Int)<=3*(a-lo)+1
structure Sf (sf:eh) (ps:PT) (d B:Int):Prop where
 err:∀{er:Int},er≠0->∀a dp w:Int,sf (S nb c F a dp w er)=some (⟨true,[]⟩,S nb c F a dp w er)
 ok:∀i,i<=c.l.length->Sm nb c F i B d (ps i) (sf (S nb c F (i:Int) d 0 0))
variable {nb c F} {E:Int} {Q:Tx→Prop} {N:Int→Prop}
theorem Sm.bind{SO lo:Nat}{B1 B d:Int}{A:List ND×Nat->Prop}{r:PR (List ND×Nat)}{o:Option Y4}{f:List ND×Nat->PR (List ND×Nat)}{K:Y4->Option Y4}(h:Sm nb c F SO B1 d r o)(ho:bL E A r)(h1:∀b x,A x->Sm nb c F lo B d (f x) (K (⟨b,x.1⟩,S nb c F (x.2:Int) d 0 0)))(h2:∀(v:(Sl Y0)) (a d' w er:Int),er≠0->((SO:Int)<=a/\a<=B1)->(v.l.length:Int)<=3*(a-SO)+1->Er nb c F lo B w er (K (v,S nb c F a d' w er))):Sm nb c F lo B d (eb r f) (ag o K):=by
 cases r with
 |ok x=>obtain⟨b,rfl⟩:=h;exact h1 b x ho
 |error q=>obtain⟨v,a,d',rfl,g1,g2,g3⟩:=h;obtain⟨v',a',Qm,e1,e2,e3⟩:=h2 v a d' q.1 q.2 g1 g2 g3;exact⟨v',a',Qm,e1,g1,e2,e3⟩
theorem Lp{lo i:Nat}{B d:Int}{s:Tx}{f:Nat->PR (List ND×Nat)}{K:Y7->Option Y4}(hi:i<=1000000)(h1:i<c.l.length->Sm nb c F lo B d (f (i+1)) (K (S nb c F ((i+1:Nat):Int) d 0 0)))(h2:∀w,Er nb c F lo B w 70 (K (S nb c F ((i+1:Nat):Int) d w 70))):Sm nb c F lo B d (eb (dY c i s) f) (ag (fc (s,S nb c F (i:Int) d 0 0)) K):=by
 rw[z9r hi,af];unfold dY;cases h:dP c i [s] with
 |true=>exact h1 (CA h)
 |false=>obtain⟨v',a',Qm,e1,e2,e3⟩:=h2 (gG c i);exact⟨v',a',Qm,e1,(by decide:(70:Int)≠0),e2,e3⟩
theorem Ui{lo i:Nat}{B d:Int}{f:Tx×Nat->PR (List ND×Nat)}{K:tK->Option Y4}(hn:c.l.length<=10000)(H:oe c E Q N)(hi:i<=c.l.length)(h1:∀x:Tx×Nat,i<x.2->x.2<=c.l.length->Sm nb c F lo B d (f x) (K (x.1,S nb c F (x.2:Int) d 0 0)))(h2:∀(v:Tx) (a w er:Int),er≠0->((i:Int)<=a/\a<=i+3)->Er nb c F lo B w er (K (v,S nb c F a d w er))):Sm nb c F lo B d (eb (uf c i) f) (ag (iX (S nb c F (i:Int) d 0 0)) K):=by
 have h:=z9t (nb:=nb) (F:=F) hn hi d;have ho:=Qd H i;cases hr:uf c i with
 |ok x=>rw[hr] at h ho;have h:iX (S nb c F (i:Int) d 0 0)=some (x.1,S nb c F (x.2:Int) d 0 0):=h;rw[h];exact h1 x ho.2.1 ho.2.2
 |error q=>rw[hr] at h;obtain⟨v,a,e,g1,g2⟩:=h;rw[e];obtain⟨v',a',Qm,e1,e2,e3⟩:=h2 v a q.1 q.2 g1 g2;exact⟨v',a',Qm,e1,g1,e2,e3⟩
variable {self:eh} {ps:PT} {d B:Int}
theorem qnx(hn:c.l.length<=10000)(hB:(c.l.length:Int)+3<=B)(hd:B<=100000)(H:oe c E Q N)(hs:Sf nb c F self ps d B)(ha:∀i,bL E (AN c Q N i) (ps i)){i:Nat}(hi:i<=c.l.length):Sm nb c F i (B+1) d (Bx c ps i) (mY self (S nb c F (i:Int) d 0 0)):=by
 have hc:i<=1000000:=om
 rw[Zr];simp only[mH (ks:=[[95]]) hc (by simp) (by simp),mH (ks:=[[40]]) hc (by simp) (by simp),lF (oo hc),lF (j:=i+1) (aO (show i<=1000000000 by omega)),af,aO (show i<=1000000000 by omega),z7i,z9s,wE];unfold Bx;have eA:dP c i [[95]]=dP c i [qw]:=rfl;have eL:dP c i [[40]]=dP c i [kL]:=rfl;rw[eA,eL];have hb:Sm nb c F i (B+1) d (eb (uf c i) fun s=>.ok (nd 22 s.1 [],s.2)) (ag (iX (S nb c F (i:Int) d 0 0)) fun x=>some (⟨false,nd 22 x.1 []⟩,x.2)):=by exact Ui hn H hi (fun x h1 h2=>⟨_,rfl⟩) fun v a w er he h=>⟨⟨false,nd 22 v []⟩,a,d,rfl,by omega,by rw[iz];simp only[List.flatten_nil,List.length_nil];omega⟩
 cases h1:dP c i [qw] with
 |true=>exact⟨_,rfl⟩
 |false=>
  cases h2:dL c i 3 with
  |true=>simp only[aP,aH,cond_true,cond_false];rw[Gb (ks:=[]) (.inl h2) om,af,qyo];exact⟨_,rfl⟩
  |false=>
   cases h3:dL c i 2 with
   |true=>simp only[aP,aH,cond_true,cond_false];rw[Gb (ks:=[]) (.inl h3) om,af,Hp];exact⟨_,rfl⟩
   |false=>
    cases h4:dP c i [kL] with
    |false=>exact hb
    |true=>
     have hl:=CA h4;cases h5:dL c (i+1) 5 with
     |true=>exact hb
     |false=>
      simp only[aP,aH,cond_true,cond_false,Bool.not_false,Bool.and_true];refine Sm.bind (hs.ok (i+1) hl) (ha (i+1)) (fun b x ⟨x1,x2,x3,x4⟩=>Lp om (fun _=>⟨_,rfl⟩) fun w=>⟨⟨b,x.1⟩,((x.2+1:Nat):Int),d,rfl,by omega,?_⟩) fun v a d' w er he h h'=>?_
      ·show(x.1.length:Int)<=_;omega
      ·simp only;rw[M5 he om om,af];exact⟨v,a+1,d',rfl,by omega,by omega⟩
def fu(kids:List (Sl Y0)):List (List ND):=kids.map (·.l)
theorem Uj(a:List (Sl Y0))(b:(Sl Y0)):fu (a++[b])=fu a++[b.l]:=by unfold fu;rw[zP];rfl
theorem M6(a:List (Sl Y0)):(fu a).length=a.length:=zA _
theorem Qn(a:List (Sl Y0)):lens a=(fu a).flatten.length:=by unfold lens fu;rw[List.length_flatten,zX];rfl
theorem M7(a:List (Sl Y0)):tot (fu a)=lens a+a.length:=by unfold tot;rw[Qn,M6]
theorem z2h(hn:c.l.length<=10000)(hB:(c.l.length:Int)+3<=B)(hk:B<=100000)(H:oe c E Q N)(hs:Sf nb c F self ps d B)(ha:∀i,bL E (AN c Q N i) (ps i))(s:Tx)(i0:Nat):∀(m f i:Nat) (q:Bool) (kids:List (Sl Y0)),i+m=c.l.length->m<f->i0<i->tot (fu kids)<=3*(i-i0-1)->Sm nb c F i0 (B+1) d (eb (Ct c ps f i (fu kids)) fun p=>.ok (nd 24 s p.1,p.2)) (aM (FA self) (s,⟨nb,c.l⟩,c.e,F,(i:Int),d,0,0,⟨q,kids⟩,())):=by
 intro m
 induction m using Nat.strongRecOn with
 |_ m ih=>
  intro f i q kids hm hf hq ht;obtain⟨f,rfl⟩:∃g,f=g+1:=⟨f-1,by omega⟩;have hi:i<=c.l.length:=om
  have hd:i<=1000000:=om
  have hl:=ht;rw[M7] at hl;have hu:(kids.length:Int)<=1000000:=om
  have eK:dP c i [[95],[40]]=dP c i [qw,kL]:=rfl;have step:FA self (s,⟨nb,c.l⟩,c.e,F,(i:Int),d,0,0,⟨q,kids⟩,())=
    bif dL c i 3||(dL c i 2||(dL c i 1||dP c i [qw,kL])) then ag (mY self (S nb c F (i:Int) d 0 0)) (fun x=>some (.inl (s,x.2.1,x.2.2.1,x.2.2.2.1,x.2.2.2.2.1,x.2.2.2.2.2.1,x.2.2.2.2.2.2.1,x.2.2.2.2.2.2.2.1,⟨aD q (ch [x.1]),app kids [x.1]⟩,())))
    else some (.inr (⟨false,nd 24 s (fu kids)⟩,S nb c F (i:Int) d 0 0)):=by
   have hc:∀x:(Sl Y0),fit (aW (ae kids) (ae [x]))=some ():=fun x=>fm (by
    show((kids.length:Nat):Int)+((1:Nat):Int)<=_;omega)
   unfold FA;simp only[mH (ks:=[[95],[40]]) hd (by simp) (by simp),lF (oo hd),af,hc,eK,Gc 24 s q kids om om];cases dL c i 3<;>cases dL c i 2<;>cases dL c i 1<;>cases dP c i [qw,kL]<;>rfl
  unfold Ct;cases hg:dL c i 3||(dL c i 2||(dL c i 1||dP c i [qw,kL])) with
  |false=>rw[hg] at step;rw[bX step];exact⟨_,rfl⟩
  |true=>
   rw[hg,cond_true] at step;rw[cond_true];have hp:=qnx hn hB hk H hs ha hi;have hj:=qkw H ha i;cases hr:Bx c ps i with
   |ok x=>rw[hr] at hp hj;obtain⟨b,hb⟩:=hp;obtain⟨x1,x2,x3,x4⟩:=hj;rw[hb,af] at step;rw[dC step];have:=ih (c.l.length-x.2) om f x.2 (aD q (ch [(⟨b,x.1⟩:(Sl Y0))])) (kids++[⟨b,x.1⟩]) om om om (by rw[Uj,Hm];simp only;omega);rw[Uj] at this;exact this
   |error e=>
    rw[hr] at hp;obtain⟨v,a,d',hv,he,h2,h3⟩:=hp;rw[hv,af] at step;rw[dC step];have fin:FA self (s,⟨nb,c.l⟩,c.e,F,a,d',e.1,e.2,⟨aD q (ch [v]),kids++[v]⟩,())=some (.inr (⟨false,nd 24 s (fu (kids++[v]))⟩,S nb c F a d' e.1 e.2)):=by
     unfold FA;have ho:lens (kids++[v])=lens kids+v.l.length:=by unfold lens;simp
     simp only[qy he,af,aH,Gc 24 s (aD q (ch [v])) (kids++[v]) (by rw[zh,List.length_singleton];omega) (by rw[ho];omega)];rfl
    refine⟨_,a,d',bX fin,he,by omega,?_⟩;show((nd 24 s (fu (kids++[v]))).length:Int)<=_;rw[iz,Uj,List.flatten_append,zh,<-Qn];simp only[List.flatten_cons,List.flatten_nil,zu];omega
theorem z7j(hn:c.l.length<=10000)(hB:(c.l.length:Int)+3<=B)(hc:B<=100000)(H:oe c E Q N)(hs:Sf nb c F self ps d B)(ha:∀i,bL E (AN c Q N i) (ps i)){i:Nat}(hi:i<=c.l.length):Sm nb c F i (B+1) d (mF c ps i) (Fl self (S nb c F (i:Int) d 0 0)):=by
 have hd:i<=1000000:=om
 rw[Zs,lF (oo hd),af,wE];unfold mF;cases h1:dL c i 2 with
 |false=>
  have h:=qnx hn hB hc H hs ha hi;simp only[aH,cond_false];cases hr:Bx c ps i with
  |ok x=>rw[hr] at h;obtain⟨b,hb⟩:=h;rw[hb,af];exact⟨b,rfl⟩
  |error e=>rw[hr] at h;obtain⟨v,a,d',hv,h2⟩:=h;rw[hv,af];exact⟨v,a,d',rfl,h2⟩
 |true=>have hl:=sZ h1;simp only[aP,cond_true];rw[Gb (ks:=[]) (.inl h1) om,af,Hp];exact z2h hn hB hc H hs ha (eW c i) i (c.l.length-(i+1)) _ (i+1) true [] om om om (Nat.zero_le _)
theorem z2i(hn:c.l.length<=10000)(H:oe c E Q N):∀(f n:Nat),f<=100->f<n->Sf nb c F (cM jK n) (lC c f) (100-(f:Int)) (c.l.length+3+f):=by
 intro f
 induction f with
 |zero=>
  intro n _ hc;obtain⟨n,rfl⟩:∃g,n=g+1:=⟨n-1,by omega⟩;refine⟨fun he a dp w=>?_,fun i hi=>?_⟩
  ·show jK _ _=_;rw[vD,eP he];rfl
  ·show Sm nb c F i _ _ _ (jK _ _);rw[vD,fY];simp only[ai,Bool.not_true,aH];have e:ak (100-((0:Nat):Int)) 100=true:=rfl;rw[e,aP,BD om,af,Int.toNat_natCast];simp only;rw[Ho,af];exact⟨_,(i:Int),_,rfl,(by decide:(73:Int)≠0),by omega,by simp only[List.length_nil];omega⟩
 |succ f ih=>
  intro n hd hc;obtain⟨n,rfl⟩:∃g,n=g+1:=⟨n-1,by omega⟩;have hs:=ih n om om;refine⟨fun he a dp w=>?_,fun i hi=>?_⟩
  ·show jK _ _=_;rw[vD,eP he];rfl
  ·show Sm nb c F i _ _ _ (jK _ _);rw[vD,fY];simp only[ai,Bool.not_true,aH];have e:ak (100-((f+1:Nat):Int)) 100=false:=eP om;have e2:aA .i64 (100-((f+1:Nat):Int)) 1=100-(f:Int):=by rw[tH om om];omega
   have e3:cq .i64 (100-(f:Int)) 1=100-((f+1:Nat):Int):=by rw[qL om om];omega
   rw[e,aH,e2];have h:=z7j hn om om H hs (TY H f) hi;show Sm nb c F i _ _ (mF c (lC c f) i) _;cases hr:mF c (lC c f) i with
   |ok x=>rw[hr] at h;obtain⟨b,hb⟩:=h;rw[hb,af];simp only;rw[e3];exact⟨b,rfl⟩
   |error e=>rw[hr] at h;obtain⟨v,a,d',hv,he,h2,h3⟩:=h;rw[hv,af];exact⟨v,a,_,rfl,he,by omega,h3⟩
theorem Qo{σ ρ:Type}{f g:σ->Option (σ⊕ρ)}(h:∀s,lq (f s) (g s))(s:σ):lq (aM f s) (aM g s):=by intro r hr;obtain⟨n,hn⟩:=Mx hr;exact z1l h n s r hn
theorem qyr{α β:Type}{G:(α->Option β)->α->Option β}(h:∀f g:α->Option β,(∀x,lq (f x) (g x))->∀x,lq (G f x) (G g x)):∀(n:Nat) (x:α),lq (cM G n x) (cM G (n+1) x)
 |0,_=>fun _ h=>by cases h
 |n+1,x=>h (cM G n) (cM G (n+1)) (qyr h n) x
theorem Uk{α β:Type}{G:(α->Option β)->α->Option β}(h:∀f g:α->Option β,(∀x,lq (f x) (g x))->∀x,lq (G f x) (G g x)){n:Nat}{x:α}{y:β}(e:cM G n x=some y):gq G x=some y:=by
 have up:∀k,cM G (n+k) x=some y:=by
  intro k
  induction k with
  |zero=>exact e
  |succ k ih=>exact qyr h (n+k) x y ih
 refine S7 n fun m hm=>?_;have:=up (m-n)
 rwa [Nat.add_sub_cancel' hm] at this
end
open Pz
section
variable {f g:eh} (h:∀x,lq (f x) (g x))
include h
theorem qsb(x:Y7):lq (mY f x) (mY g x):=by
 obtain⟨a0,a1,a2,a3,a4,a5,a6,u⟩:=x;rw[Zr,Zr]
 repeat' (first|with_reducible apply oH|with_reducible apply oI|with_reducible exact h _|with_reducible exact lR _|intro _)
theorem z7k(x):lq (FA f x) (FA g x):=by
 unfold FA
 repeat' (first|with_reducible apply oH|with_reducible apply oI|with_reducible exact qsb h _|with_reducible exact lR _|intro _)
theorem z9u(x:Y7):lq (Fl f x) (Fl g x):=by
 obtain⟨a0,a1,a2,a3,a4,a5,a6,u⟩:=x;rw[Zs,Zs]
 repeat' (first|with_reducible apply oH|with_reducible apply oI|with_reducible exact qsb h _|with_reducible exact Qo (z7k h) _|with_reducible exact lR _|intro _)
theorem z2j(x:Y7):lq (jK f x) (jK g x):=by
 obtain⟨a0,a1,a2,a3,a4,a5,a6,u⟩:=x;rw[vD,vD]
 repeat' (first|with_reducible apply oH|with_reducible apply oI|with_reducible exact z9u h _|with_reducible exact lR _|intro _)
theorem qny(x:tK):lq (sO f x) (sO g x):=by
 obtain⟨a0,a1,a2,a3,a4,a5,a6,a7,u⟩:=x;rw[TG,TG]
 repeat' (first|with_reducible apply oH|with_reducible apply oI|with_reducible exact h _|with_reducible exact lR _|intro _)
theorem qys(x):lq (Cj f x) (Cj g x):=by
 unfold Cj
 repeat' (first|with_reducible apply oH|with_reducible apply oI|with_reducible exact qny h _|with_reducible exact lR _|intro _)
theorem z2k(x:Y7):lq (Fm f x) (Fm g x):=by
 obtain⟨a0,a1,a2,a3,a4,a5,a6,u⟩:=x;rw[Zt,Zt]
 repeat' (first|with_reducible apply oH|with_reducible apply oI|with_reducible apply z6n|with_reducible exact h _|with_reducible exact Qo (qys h) _|with_reducible exact lR _|intro _)
theorem qyt(x:Y7):lq (vA f x) (vA g x):=by
 obtain⟨a0,a1,a2,a3,a4,a5,a6,u⟩:=x;rw[Zu,Zu]
 repeat' (first|with_reducible apply oH|with_reducible apply oI|with_reducible exact h _|with_reducible exact z2k h _|with_reducible exact lR _|intro _)
theorem z7l(x:Y4):lq (Bc f x) (Bc g x):=by
 unfold Bc
 repeat' (first|with_reducible apply oH|with_reducible apply oI|with_reducible exact qyt h _|with_reducible exact lR _|intro _)
theorem z4s(x:Y7):lq (wN f x) (wN g x):=by
 obtain⟨a0,a1,a2,a3,a4,a5,a6,u⟩:=x;rw[Zv,Zv]
 repeat' (first|with_reducible apply oH|with_reducible apply oI|with_reducible exact qyt h _|with_reducible exact Qo (z7l h) _|with_reducible exact lR _|intro _)
theorem z7m(x):lq (qQ f x) (qQ g x):=by
 unfold qQ
 repeat' (first|with_reducible apply oH|with_reducible apply oI|with_reducible exact z4s h _|with_reducible exact lR _|intro _)
theorem z9v(x:Y7):lq (Fq f x) (Fq g x):=by
 obtain⟨a0,a1,a2,a3,a4,a5,a6,u⟩:=x;rw[Zz,Zz]
 repeat' (first|with_reducible apply oH|with_reducible apply oI|with_reducible exact z4s h _|with_reducible exact Qo (z7m h) _|with_reducible exact lR _|intro _)
theorem z7n(x:Y7):lq (Ch f x) (Ch g x):=by
 obtain⟨a0,a1,a2,a3,a4,a5,a6,u⟩:=x;rw[ZA,ZA]
 repeat' (first|with_reducible apply oH|with_reducible apply oI|with_reducible exact h _|with_reducible exact z9v h _|with_reducible exact qny h _|with_reducible exact lR _|intro _)
theorem z7o(x:Y7):lq (Ci f x) (Ci g x):=by
 obtain⟨a0,a1,a2,a3,a4,a5,a6,u⟩:=x;rw[Ps,Ps]
 repeat' (first|with_reducible apply oH|with_reducible apply oI|with_reducible exact z7n h _|with_reducible exact lR _|intro _)
theorem z7p(x:Y7):lq (jL f x) (jL g x):=by
 obtain⟨a0,a1,a2,a3,a4,a5,a6,u⟩:=x;rw[vE,vE]
 repeat' (first|with_reducible apply oH|with_reducible apply oI|with_reducible exact z7o h _|with_reducible exact lR _|intro _)
end
section
variable {nb:Bool} {c:PC} {F:Y3} {E:Int} {Q:Tx→Prop} {N:Int→Prop}
theorem Sm.up{lo:Nat}{B d:Int}{r:PR (List ND×Nat)}{o o':Option Y4}(h:Sm nb c F lo B d r o)(hl:lq o o'):Sm nb c F lo B d r o':=by
 cases r with
 |ok x=>obtain⟨b,hb⟩:=h;exact⟨b,hl _ hb⟩
 |error q=>obtain⟨v,a,d',hv,h2⟩:=h;exact⟨v,a,d',hl _ hv,h2⟩
theorem z2l(hn:c.l.length<=10000)(H:oe c E Q N)(f:Nat)(hf:f<=100):Sf nb c F gO (lC c f) (100-(f:Int)) (c.l.length+3+f):=by have hs:=z2i (nb:=nb) (F:=F) hn H f (f+1) hf (Nat.lt_succ_self f);have up:∀x,lq (cM jK (f+1) x) (gO x):=fun x y e=>Uk (fun _ _ h=>z2j h) e;exact⟨fun he a dp w=>up _ _ (hs.err he a dp w),fun i hi=>(hs.ok i hi).up (up _)⟩
end
open Pz
section
variable {nb:Bool} {c:PC} {F:Y3} {E:Int} {Q:Tx→Prop} {N:Int→Prop}
variable {self:eh} {ps pp:PT} {d B:Int}
theorem Sm.eta{lo:Nat}{B d:Int}{r:PR (List ND×Nat)}{o:Option Y4}(h:Sm nb c F lo B d r o):Sm nb c F lo B d r (ag o fun x=>some (x.1,x.2.1,x.2.2.1,x.2.2.2.1,x.2.2.2.2.1,x.2.2.2.2.2.1,x.2.2.2.2.2.2.1,x.2.2.2.2.2.2.2.1,())):=by
 cases r with
 |ok x=>obtain⟨b,hb⟩:=h;rw[hb];exact⟨b,rfl⟩
 |error q=>obtain⟨v,a,d',hv,h2⟩:=h;rw[hv];exact⟨v,a,d',rfl,h2⟩
theorem Sm.wide{lo uy:Nat}{B B' d:Int}{r:PR (List ND×Nat)}{o:Option Y4}(h:Sm nb c F lo B d r o)(h1:uy<=lo)(h2:B<=B'):Sm nb c F uy B' d r o:=by
 cases r with
 |ok x=>exact h
 |error q=>obtain⟨v,a,d',hv,g1,g2,g3⟩:=h;exact⟨v,a,d',hv,g1,by omega,by omega⟩
theorem BE(hs:Sf nb c F self ps d B){er:Int}(he:er≠0){i:Int}(h0:0<=i)(hi:i<=1000000)(s:Tx)(dp w:Int):sO self (s,S nb c F i dp w er)=some (⟨true,[]⟩,S nb c F (i+1) dp w er):=by rw[TG,M5 he h0 hi,af];simp only;rw[hs.err he,af]
theorem Lq(hn:c.l.length<=10000)(hB:(c.l.length:Int)+3<=B)(hs:Sf nb c F self ps d B){i:Nat}(hi:i<=c.l.length)(s:Tx):Sm nb c F (i+1) B d (gR c ps i s) (sO self (s,S nb c F (i:Int) d 0 0)):=by rw[TG];unfold gR;refine Lp om (fun hl=>(hs.ok (i+1) hl).eta) fun w=>?_;simp only;rw[hs.err (by decide:(70:Int)≠0),af];exact⟨⟨true,[]⟩,((i+1:Nat):Int),d,rfl,by omega,by simp only[List.length_nil];omega⟩
noncomputable def Hq(x7:OL):Option Y4:=ag (fc (([101,110,100]:Y1),x7.1,x7.2.1,x7.2.2.1,x7.2.2.2.1,x7.2.2.2.2.1,x7.2.2.2.2.2.1,x7.2.2.2.2.2.2.1,())) (fun x8=>ag (cN (10,([]:Y1),x7.2.2.2.2.2.2.2.1,())) (fun x9=>some (x9.1,x8.1,x8.2.1,x8.2.2.1,x8.2.2.2.1,x8.2.2.2.2.1,x8.2.2.2.2.2.1,x8.2.2.2.2.2.2.1,())))
theorem z9w{lo j:Nat}{q:Bool}{kids:List (Sl Y0)}{B2:Int}(hn:c.l.length<=10000)(hB:(c.l.length:Int)+3<=B2)(hj:j<=c.l.length)(hd:lo<=j)(ht:tot (fu kids)<=3*(j-lo)):Sm nb c F lo B2 d (eb (dY c j F6) fun a2=>.ok (nd 10 [] (fu kids),a2)) (Hq (⟨nb,c.l⟩,c.e,F,(j:Int),d,0,0,⟨q,kids⟩,())):=by
 have hc:=ht;rw[M7] at hc;unfold Hq;refine Lp om (fun hl=>?_) fun w=>?_
 ·simp only;rw[Gc _ _ _ _ om om,af];exact⟨_,rfl⟩
 ·simp only;rw[Gc _ _ _ _ om om,af];refine⟨_,((j+1:Nat):Int),d,rfl,by omega,?_⟩;show((nd 10 [] (fu kids)).length:Int)<=_;rw[iz,<-Qn];omega
theorem qyu{lo:Nat}{q:Bool}{kids:List (Sl Y0)}{B2 a d' w er:Int}(hB:B2<=100000)(he:er≠0)(h1:(lo:Int)<=a)(h2:a+1<=B2)(ht:((lens kids:Nat):Int)<=3*(a-lo)+3)(hk:kids.length<=1000000):Er nb c F lo B2 w er (Hq (⟨nb,c.l⟩,c.e,F,a,d',w,er,⟨q,kids⟩,())):=by unfold Hq;simp only;rw[M5 he om om,af];rw[Gc _ _ _ _ om om,af];refine⟨_,a+1,d',rfl,by omega,?_⟩;show((nd 10 [] (fu kids)).length:Int)<=_;rw[iz,<-Qn];omega
theorem Er.sm{lo:Nat}{B d:Int}{q:Int×Int}{o:Option Y4}(h:Er nb c F lo B q.1 q.2 o)(hq:q.2≠0):Sm nb c F lo B d (.error q) o:=by obtain⟨v,a,d',e1,e2,e3⟩:=h;exact⟨v,a,d',e1,hq,e2,e3⟩
theorem z2m(hn:c.l.length<=10000)(hB:(c.l.length:Int)+3<=B)(hy:B<=90000)(H:oe c E Q N)(hs:Sf nb c F self ps d B)(ha:∀i,bL E (AN c Q N i) (ps i))(ho:Sf nb c F gO pp d B)(hu:∀i,bL E (AN c Q N i) (pp i))(i0:Nat):∀(m f i:Nat) (q:Bool) (kids:List (Sl Y0)),i+m=c.l.length->m<f->i0<=i->tot (fu kids)<=3*(i-i0)->Sm nb c F i0 (B+3) d (eb (By c ps pp f i (fu kids)) fun r=>eb (dY c r.2 F6) fun a2=>.ok (nd 10 [] r.1,a2)) (ag (aM (Cj self) (⟨nb,c.l⟩,c.e,F,(i:Int),d,0,0,⟨q,kids⟩,())) (bT Hq)):=by
 intro m
 induction m using Nat.strongRecOn with
 |_ m ih=>
  intro f i q kids hm hf hz ht;obtain⟨f,rfl⟩:∃g,f=g+1:=⟨f-1,by omega⟩;have hi:i<=c.l.length:=om
  have hA:i<=1000000:=om
  have hw:=ht;rw[M7] at hw;have hc:∀x y:(Sl Y0),fit (aW (ae kids) (ae [x,y]))=some ():=fun x y=>fm (by
   show((kids.length:Nat):Int)+((2:Nat):Int)<=_;omega)
  have step:Cj self (⟨nb,c.l⟩,c.e,F,(i:Int),d,0,0,⟨q,kids⟩,())=
    ag (gO (S nb c F (i:Int) d 0 0)) (fun x3=>ag (sO self (bF,x3.2.1,x3.2.2.1,x3.2.2.2.1,x3.2.2.2.2.1,x3.2.2.2.2.2.1,x3.2.2.2.2.2.2.1,x3.2.2.2.2.2.2.2.1,())) (fun x4=>ag (cU (0,6,⟨false,[mE]⟩,x4.2.1,x4.2.2.1,x4.2.2.2.1,x4.2.2.2.2.1,x4.2.2.2.2.2.1,x4.2.2.2.2.2.2.1,x4.2.2.2.2.2.2.2.1,())) (fun x6=>aq (ai x6.1) (some (.inr (.inl (x6.2.1,x6.2.2.1,x6.2.2.2.1,x6.2.2.2.2.1,x6.2.2.2.2.2.1,x6.2.2.2.2.2.2.1,x6.2.2.2.2.2.2.2.1,⟨aD q (ch [x3.1,x4.1]),app kids [x3.1,x4.1]⟩,())))) (some (.inl (x6.2.1,x6.2.2.1,x6.2.2.2.1,aA .i64 x6.2.2.2.2.1 1,x6.2.2.2.2.2.1,x6.2.2.2.2.2.2.1,x6.2.2.2.2.2.2.2.1,⟨aD q (ch [x3.1,x4.1]),app kids [x3.1,x4.1]⟩,())))))):=by
   unfold Cj;simp only;rw[fY,aP];simp only[hc,af];rfl
  have e2:∀x y:(Sl Y0),fu (kids++[x,y])=fu kids++[x.l,y.l]:=fun x y=>by unfold fu;rw[zP];rfl
  have e3:∀x y:(Sl Y0),lens (kids++[x,y])=lens kids+(x.l.length+y.l.length):=fun x y=>by unfold lens;rw[zP,List.sum_append];simp only[zI,List.map_nil,List.sum_cons,List.sum_nil];omega
  unfold By;have hp:=ho.ok i hi;have hd:=hu i;cases hr:pp i with
  |error e=>
   rw[hr] at hp;obtain⟨v,a,d',hv,he,h2,h3⟩:=hp;rw[hv,af] at step;simp only at step;rw[BE hs he om om,af] at step;simp only at step;rw[qy he,af] at step;rw[bX step,af];show Sm nb c F i0 (B+3) d (.error e) (Hq _);refine Er.sm (qyu (a:=a+1) om he om om ?_ ?_) he
   ·show((lens (kids++[v,(⟨true,[]⟩:(Sl Y0))]):Nat):Int)<=_;rw[e3];simp only[List.length_nil];omega
   ·show(kids++[v,(⟨true,[]⟩:(Sl Y0))]).length<=_;rw[zh];simp only[zf,List.length_nil];omega
  |ok p=>
   rw[hr] at hp hd;obtain⟨b,hb⟩:=hp;obtain⟨p1,p2,p3,p4⟩:=hd;rw[hb,af] at step;simp only at step;have hq:=Lq hn hB hs p2 bF;have hg:=ug H ha p.2 bF;show Sm nb c F i0 (B+3) d (eb (eb (gR c ps p.2 bF) _) _) _;cases hj:gR c ps p.2 bF with
   |error e=>
    rw[hj] at hq;obtain⟨v,a,d',hv,he,h2,h3⟩:=hq;rw[hv,af] at step;simp only at step;rw[qy he,af] at step;rw[bX step,af];show Sm nb c F i0 (B+3) d (.error e) (Hq _);refine Er.sm (qyu (a:=a) om he om om ?_ ?_) he
    ·show((lens (kids++[(⟨b,p.1⟩:(Sl Y0)),v]):Nat):Int)<=_;rw[e3];simp only;omega
    ·show(kids++[(⟨b,p.1⟩:(Sl Y0)),v]).length<=_;rw[zh];simp only[zf,List.length_nil];omega
   |ok y=>
    rw[hj] at hq hg;obtain⟨b2,hx⟩:=hq;obtain⟨y1,y2,y3,y4⟩:=hg;rw[hx,af] at step;simp only at step;rw[mH (ks:=[mE]) om (by simp) (by simp),af] at step;simp only at step;rw[wE,aO om] at step;have hk:tot (fu (kids++[(⟨b,p.1⟩:(Sl Y0)),⟨b2,y.1⟩]))<=3*(y.2-i0):=by rw[M7,e3,zh];simp only[zf,List.length_nil];omega
    show Sm nb c F i0 (B+3) d (eb (bif dP c y.2 [mE] then By c ps pp f (y.2+1) (fu kids++[p.1,y.1]) else .ok (fu kids++[p.1,y.1],y.2)) _) _;cases hK:dP c y.2 [mE] with
    |true=>have hl:=CA hK;rw[hK,aP] at step;rw[dC step,cond_true];have:=ih (c.l.length-(y.2+1)) om f (y.2+1) (aD q (ch [(⟨b,p.1⟩:(Sl Y0)),⟨b2,y.1⟩])) (kids++[(⟨b,p.1⟩:(Sl Y0)),⟨b2,y.1⟩]) om om om om;rw[e2] at this;exact this
    |false=>rw[hK,aH] at step;rw[bX step,af,cond_false];have:=z9w (nb:=nb) (F:=F) (d:=d) (q:=aD q (ch [(⟨b,p.1⟩:(Sl Y0)),⟨b2,y.1⟩])) (B2:=B+3) hn om y2 om hk;rw[e2] at this;exact this
theorem qyv(hn:c.l.length<=10000)(hB:(c.l.length:Int)+3<=B)(hc:B<=90000)(H:oe c E Q N)(hs:Sf nb c F self ps d B)(ha:∀i,bL E (AN c Q N i) (ps i))(hd:Sf nb c F gO pp d B)(hf:∀i,bL E (AN c Q N i) (pp i)){i:Nat}(hi:i<=c.l.length):Sm nb c F i (B+3) d (F7 c ps pp i) (Fm self (S nb c F (i:Int) d 0 0)):=by
 have hE:∀(v:(Sl Y0)) (a d' w er:Int),er≠0->((i:Int)<=a/\a<=B+1)->(v.l.length:Int)<=3*(a-i)+1->
   Er nb c F i (B+3) w er (ag (aM (Cj self) (⟨nb,c.l⟩,c.e,F,a,d',w,er,⟨false,[v]⟩,())) (bT Hq)):=by
  intro v a d' w er he h1 h2;have step:Cj self (⟨nb,c.l⟩,c.e,F,a,d',w,er,⟨false,[v]⟩,())=some (.inr (.inl (⟨nb,c.l⟩,c.e,F,a,d',w,er,⟨false,[v]⟩,()))):=by unfold Cj;simp only;rw[eP he,aH]
  rw[bX step,af];exact qyu om he om om (by simp only[lens,zI,List.map_nil,List.sum_cons,List.sum_nil];omega) (by simp)
 rw[Zt];unfold F7;refine Sm.bind (hs.ok i hi) (ha i) (fun b x ⟨x1,x2,x3,x4⟩=>?_) fun v a d' w er he h1 h2=>?_
 ·simp only;refine Lp om (fun hl=>?_) fun w=>?_
  ·have h:=z2m hn hB hc H hs ha hd hf i (c.l.length-(x.2+1)) (c.l.length+1) (x.2+1) false [⟨b,x.1⟩] om om om (by
    have:tot (fu [(⟨b,x.1⟩:(Sl Y0))])=x.1.length+1:=by simp[tot,fu]
    omega)
   exact h
  ·exact hE ⟨b,x.1⟩ ((x.2+1:Nat):Int) d w 70 dc om (by simp only;omega)
 ·simp only;rw[M5 he om om,af];exact hE v (a+1) d' w er he om om
theorem qsc(hn:c.l.length<=10000)(hB:(c.l.length:Int)+3<=B)(hc:B<=90000)(H:oe c E Q N)(hs:Sf nb c F self ps d B)(ha:∀i,bL E (AN c Q N i) (ps i))(hd:Sf nb c F gO pp d B)(hf:∀i,bL E (AN c Q N i) (pp i)){i:Nat}(hi:i<=c.l.length):Sm nb c F i (B+3) d (Cu c ps pp i) (vA self (S nb c F (i:Int) d 0 0)):=by
 have hg:i<=1000000:=om
 rw[Zu,qs9 hg,af,wE];simp only;unfold Cu;cases hb:wQ c i with
 |false=>simp only[aH,cond_false];rw[BD om,af,Int.toNat_natCast];simp only;rw[Ho,af];exact⟨⟨true,[]⟩,(i:Int),d,rfl,(by decide:(70:Int)≠0),by omega,by simp only[List.length_nil];omega⟩
 |true=>
  have hl:=qyj hb;simp only[aP,cond_true];have hj:fA (S nb c F (i:Int) d 0 0)=some (((c.l[i]?).getD (0,[],0,0)),S nb c F ((i+1:Nat):Int) d 0 0):=by refine Gb (k:=(c.l[i]'hl).1) (ks:=[]) (.inl ?_) om d 0 0;unfold dL;rw[ze hl];exact zo rfl
  rw[hj,af];simp only;rw[Ug _ hl,Ug _ hl,Ug _ hl,Ug _ hl,Hp,qyo,lF (j:=i+1) (oo om),af];simp only[z7i,z9s,af];cases h3:dL c i 3 with
  |true=>exact⟨_,rfl⟩
  |false=>
  cases h4:dL c i 4 with
  |true=>exact⟨_,rfl⟩
  |false=>
  cases h1:dL c i 1 with
  |true=>exact⟨_,rfl⟩
  |false=>
  cases h2:dL c i 2 with
  |true=>exact⟨_,rfl⟩
  |false=>
  simp only[aH,cond_false];rw[Cd];by_cases hm:eW c i=qy6
  ·rw[if_pos (show eW c i=[109,97,116,99,104] from hm),zo hm,cond_true];exact((qyv hn hB hc H hs ha hd hf hl).wide (Nat.le_succ i) (Int.le_refl _)).eta
  ·rw[if_neg (show ¬eW c i=[109,97,116,99,104] from hm),zn hm,cond_false];cases h5:dL c (i+1) 5 with
   |true=>simp only[aP,cond_true];rw[Gb (ks:=[]) (.inl h5) om,af,Hp];simp only;exact Lp (i:=i+2) om (fun _=>⟨_,rfl⟩) fun w=>⟨_,((i+2+1:Nat):Int),d,rfl,by omega,by simp only[iz,List.flatten_nil,List.length_nil];omega⟩
   |false=>simp only[aH,cond_false];refine Sm.bind (hs.ok (i+1) hl) (ha (i+1)) (fun b x ⟨x1,x2,x3,x4⟩=>Lp om (fun _=>⟨_,rfl⟩) fun w=>⟨⟨b,x.1⟩,((x.2+1:Nat):Int),d,rfl,by omega,by simp only;omega⟩) fun v a d' w er he h h'=>?_;simp only;rw[M5 he om om,af];exact⟨v,a+1,d',rfl,by omega,by omega⟩
theorem z2n(hn:c.l.length<=10000)(hB:(c.l.length:Int)+3<=B)(hg:B<=90000)(H:oe c E Q N)(hs:Sf nb c F self ps d B)(ha:∀i,bL E (AN c Q N i) (ps i))(hj:Sf nb c F gO pp d B)(hc:∀i,bL E (AN c Q N i) (pp i))(i0:Nat):∀(m f i:Nat) (b:Bool) (l:List ND),i+m=c.l.length->m<f->i0<=i->l.length+1<=3*(i-i0)->Sm nb c F i0 (B+3) d (F8 c ps pp f i l) (aM (Bc self) (⟨b,l⟩,S nb c F (i:Int) d 0 0)):=by
 intro m
 induction m using Nat.strongRecOn with
 |_ m ih=>
  intro f i b l hm hf ho ht;obtain⟨f,rfl⟩:∃g,f=g+1:=⟨f-1,by omega⟩;have hi:i<=c.l.length:=om
  have hk:i<=1000000:=om
  have step:Bc self (⟨b,l⟩,S nb c F (i:Int) d 0 0)=aq (wQ c i) (ag (vA self (S nb c F (i:Int) d 0 0)) (fun x3=>ag (cN (6,[],⟨false,[⟨b,l⟩,x3.1]⟩,())) (fun x4=>some (.inl (x4.1,x3.2.1,x3.2.2.1,x3.2.2.2.1,x3.2.2.2.2.1,x3.2.2.2.2.2.1,x3.2.2.2.2.2.2.1,x3.2.2.2.2.2.2.2.1,()))))) (some (.inr (⟨b,l⟩,S nb c F (i:Int) d 0 0))):=by unfold Bc;simp only;rw[qs9 hk,af]
  unfold F8;cases hb:wQ c i with
  |false=>rw[hb,aH] at step;rw[bX step];exact⟨b,rfl⟩
  |true=>
   rw[hb,aP] at step;rw[cond_true];have hp:=qsc hn hB hg H hs ha hj hc hi;have hd:=TZ H ha hc i;cases hr:Cu c ps pp i with
   |ok x=>
    rw[hr] at hp hd;obtain⟨b2,hl⟩:=hp;obtain⟨x1,x2,x3,x4⟩:=hd;rw[hl,af] at step;simp only at step;rw[vW _ _ _ _ _ (by simp only;omega),af] at step;rw[dC step];exact ih (c.l.length-x.2) om f x.2 false _ om om om (by
     rw[iz];simp only[List.flatten_cons,List.flatten_nil,zu,zh];omega)
   |error e=>
    rw[hr] at hp;obtain⟨v,a,d',hv,he,h2,h3⟩:=hp;rw[hv,af] at step;simp only at step;rw[vW _ _ _ _ _ (by simp only;omega),af] at step;rw[dC step];have fin:∀l':(Sl Y0),Bc self (l',S nb c F a d' e.1 e.2)=some (.inr (l',S nb c F a d' e.1 e.2)):=by intro l';unfold Bc;simp only;rw[qsa he,af,aH]
    refine⟨_,a,d',bX (fin _),he,by omega,?_⟩;simp only[iz,List.flatten_cons,List.flatten_nil,zu,zh];omega
theorem qyw(hn:c.l.length<=10000)(hB:(c.l.length:Int)+3<=B)(hd:B<=90000)(H:oe c E Q N)(hs:Sf nb c F self ps d B)(ha:∀i,bL E (AN c Q N i) (ps i))(hf:Sf nb c F gO pp d B)(hc:∀i,bL E (AN c Q N i) (pp i)){i:Nat}(hi:i<=c.l.length):Sm nb c F i (B+3) d (jO c ps pp i) (wN self (S nb c F (i:Int) d 0 0)):=by
 rw[Zv];unfold jO;refine Sm.bind (qsc hn hB hd H hs ha hf hc hi) (TZ H ha hc i) (fun b x ⟨x1,x2,x3,x4⟩=>z2n hn hB hd H hs ha hf hc i (c.l.length-x.2) (c.l.length+1) x.2 b x.1 om om om om) fun v a d' w er he h h'=>?_;have fin:Bc self (v,S nb c F a d' w er)=some (.inr (v,S nb c F a d' w er)):=by unfold Bc;simp only;rw[qsa he,af,aH]
 exact⟨v,a,d',bX fin,by omega,by omega⟩
end
open Pz
def Lr(l:List ay)(op:Tx):Bool:=(qT l op).isSome
def vX(l:List ay)(ops:List Tx):Option (List Int):=if 400<ops.length then none else match wP l ops with
 |none=>none
 |some fs=>MY fs
structure mI (c:PC) (F:Y3):Prop where
 g:gL F.l
 z:eH F.l=0
 fx:c.fx=Lr F.l
 cl:c.cl=vX F.l
theorem aab{lv sd:Nat->Int}{a b:Nat}{x:List Int}(h:Fx.B lv sd a b x):Bt a b x:=by
 induction h with
 |nil a=>exact Bt.leaf a
 |node a r b x y h1 h2 _ _ _ _ iO iP=>exact Bt.node a r b x y h1 h2 iO iP
theorem qyx{l:List ay}(hz:eH l=0){ops:List Tx}{x:List Int}(h:vX l ops=some x):Bt 0 ops.length x:=by
 unfold vX at h;split at h
 ·cases h
 ·cases hf:wP l ops with
  |none=>rw[hf] at h;cases h
  |some fs=>rw[hf] at h;obtain⟨f1,f2⟩:=q9a hf;obtain⟨_,hr,_⟩:=MW hz;have:=Fx.vR (lv:=iI fs) (sd:=dV fs) (n:=fs.length) (qs3 hr f2);have h:Fx.ix (iI fs) (dV fs) fs.length=some x:=h;rw[h] at this;rw[<-f1];exact aab this
theorem z2o{n1 n2:Bool}{l:List ay}(h:gL l)(hz:eH l=0)(ops:List Tx):∃q er,kZ (⟨n1,l⟩,⟨n2,ops⟩,())=some (match vX l ops with|none=>(⟨true,[]⟩,er,())|some x=>(⟨q,x⟩,0,()))/\er≠0:=by
 obtain⟨q,hq⟩:=quh n1 n2 h ops;rw[hq];unfold vS vX;rw[if_neg (by simpa using hz)];by_cases h4:400<ops.length
 ·rw[if_pos h4,if_pos h4];exact⟨q,40,rfl,by decide⟩
 ·rw[if_neg h4,if_neg h4];cases wP l ops with
  |none=>exact⟨q,42,rfl,by decide⟩
  |some fs=>
   simp only;cases MY fs with
   |none=>exact⟨q,43,rfl,by decide⟩
   |some x=>exact⟨q,1,rfl,by decide⟩
theorem qyy(L:List (List ND))(k:Nat):(L.drop k).flatten.length<=L.flatten.length:=by
 have h:L.flatten.length=((L.take k)++(L.drop k)).flatten.length:=by rw[List.take_append_drop]
 rw[h,List.flatten_append,zh];omega
theorem qyz(L:List (List ND))(k:Nat):(L.take k).flatten.length<=L.flatten.length:=by
 have h:L.flatten.length=((L.take k)++(L.drop k)).flatten.length:=by rw[List.take_append_drop]
 rw[h,List.flatten_append,zh];omega
theorem qz0{apps:List (Sl Y0)}{i:Nat}(h:i<apps.length):(fu apps)[i]?=some apps[i].l:=by unfold fu;rw[zV,ze h];rfl
theorem z7q{qa qo:Bool}{apps:List (Sl Y0)}{ops:List Tx}(hs:lens apps+3*ops.length<=100000):∀{a b:Nat} {x:List Int},Bt a b x->b<apps.length->b<=ops.length->∀(z:Sl Int) (n:Nat) (post:List Int),z.l.drop n=x++post->n+x.length<=1000000->∃q t,(∀m,x.length<=m->cM pD m (z,(n:Int),⟨qa,apps⟩,⟨qo,ops⟩,())=some (⟨q,t⟩,z,((n+x.length:Nat):Int),⟨qa,apps⟩,⟨qo,ops⟩,()))/\(∀f,x.length<=f->gX (fu apps) ops f (x++post)=(t,post)):=by
 have hP:∀a,a∈fu apps->∀d,d∈a->True:=fun _ _ _ _=>trivial;intro a b x h
 induction h with
 |leaf a=>
  intro h1 h2 z n post hz hn;have he:n<z.l.length:=by have:=congrArg List.length hz;simp only[zD,zh,zf,List.length_nil] at this;omega
  have hg:z.l[n]?=some (-1-(a:Int)):=by have:=congrArg (fun l=>l[0]?) hz;simpa using this
  refine⟨apps[a].nil,apps[a].l,fun m hm=>?_,fun f hf=>?_⟩
  ·simp only[zf,List.length_nil] at hm;obtain⟨m,rfl⟩:∃k,m=k+1:=⟨m-1,by omega⟩;show pD _ _=_;have e:cq .i64 (-1) (-1-(a:Int))=(a:Int):=by rw[qL om (by simp only[zf,List.length_nil] at hn;omega)];omega
   rw[Pr,bR hg,af,cd,if_pos om,e,bR (ze h1),af,aO om];rfl
  ·simp only[zf,List.length_nil] at hf;obtain⟨f,rfl⟩:∃k,f=k+1:=⟨f-1,by omega⟩;show(if -1-(a:Int)<0 then(((fu apps)[(-1-(-1-(a:Int))).toNat]?).getD [],post) else _)=_;rw[if_pos om];have e:(-1-(-1-(a:Int))).toNat=a:=om
   rw[e,qz0 h1];rfl
 |node a r b x y g1 g2 hx hy uM uN=>
  intro h1 h2 z n post hz hn;simp only[zf,zh] at hn;have hr:r<ops.length:=om
  have hl:=hy.le;have he:n<z.l.length:=by have:=congrArg List.length hz;simp only[zD,zh,zf] at this;omega
  have hg:z.l[n]?=some (r:Int):=by have:=congrArg (fun l=>l[0]?) hz;simpa using this
  have hd:z.l.drop (n+1)=x++(y++post):=by rw[<-List.drop_drop,hz];simp
  have hj:z.l.drop (n+1+x.length)=y++post:=by rw[<-List.drop_drop,hd,List.drop_left]
  obtain⟨q1,t1,r1,s1⟩:=uM om om z (n+1) (y++post) hd om;obtain⟨q2,t2,r2,s2⟩:=uN h1 h2 z (n+1+x.length) post hj om;obtain⟨t1',e1,l1,_⟩:=qyf (apps:=fu apps) (ops:=ops) (P:=fun _=>True) hP (fun _ _=>trivial) trivial hx (by rw[M6];omega) om x.length (y++post) (Nat.le_refl _);obtain⟨t2',e2,l2,_⟩:=qyf (apps:=fu apps) (ops:=ops) (P:=fun _=>True) hP (fun _ _=>trivial) trivial hy (by rw[M6];omega) om y.length post (Nat.le_refl _);rw[s1 x.length (Nat.le_refl _)] at e1;rw[s2 y.length (Nat.le_refl _)] at e2;obtain rfl:t1=t1':=congrArg Prod.fst e1;obtain rfl:t2=t2':=congrArg Prod.fst e2;have hc:=qye (apps:=fu apps) g1 g2 (by rw[M6];omega);have hk:(Bz (fu apps) a b).flatten.length<=lens apps:=by rw[Qn];unfold Bz;exact Nat.le_trans (qyy _ _) (qyz _ _)
  rw[hc,List.flatten_append,zh] at hk;refine⟨false,nd 6 [] [nd 6 [] [nd 3 ops[r] [],t1],t2],fun m hm=>?_,fun f hf=>?_⟩
  ·simp only[zf,zh] at hm;obtain⟨m,rfl⟩:∃k,m=k+1:=⟨m-1,by omega⟩;show pD _ _=_;rw[Pr,bR hg,af,cd,if_neg om,bR (ze hr),af,z7i,af,aO om,r1 m om,af];simp only;rw[vW _ _ _ _ _ (by simp only[iz,List.flatten_nil,List.length_nil];omega),af];simp only;rw[r2 m om,af];simp only;rw[vW _ _ _ _ _ (by simp only[iz,List.flatten_cons,List.flatten_nil,zu,zh,List.length_nil];omega),af];have e:n+1+x.length+y.length=n+((r:Int)::(x++y)).length:=by simp only[zf,zh];omega
   rw[e]
  ·simp only[zf,zh] at hf;obtain⟨f,rfl⟩:∃k,f=k+1:=⟨f-1,by omega⟩;show(if(r:Int)<0 then _ else(nd 6 [] [nd 6 [] [nd 3 ((ops[((r:Int)).toNat]?).getD []) [],(gX (fu apps) ops f ((x++y)++post)).1],(gX (fu apps) ops f (gX (fu apps) ops f ((x++y)++post)).2).1],(gX (fu apps) ops f (gX (fu apps) ops f ((x++y)++post)).2).2))=_;rw[if_neg om,zC,s1 f om];simp only;rw[s2 f om,Int.toNat_natCast,ze hr];rfl
section
variable {nb:Bool} {c:PC} {F:Y3} {E:Int} {Q:Tx→Prop} {N:Int→Prop}
theorem qz1(hF:mI c F)(op:Tx)(a d w k:Int):pB (op,S nb c F a d w k)=some (!c.fx op,S nb c F a d w k):=by obtain⟨fn,fl⟩:=F;rw[Zn,find_spec fn fl op hF.g.2.2,af,hF.fx];unfold Lr;simp only;cases qT fl op<;>rfl
theorem qz2(hF:mI c F)(q:Bool)(ops:List Tx)(ps:List Int)(hn:ops.length<=1000000)(hp:ps.length=ops.length)(a d w k:Int):∀(m i:Nat),i+m=ops.length->∃r,aM p8 (⟨q,ops⟩,(ops.length:Int),(i:Int),S nb c F a d w k)=some (r,S nb c F a d w k)/\(match vT c (ops.drop i) (ps.drop i) with|none=>r=-1|some p=>∃j:Nat,r=(j:Int)/\ps[j]?=some p):=by
 intro m
 induction m with
 |zero=>
  intro i hi;refine⟨-1,bX ?_,?_⟩
  ·unfold p8;simp only;rw[cd,if_neg om]
  ·rw[zw (show ops.length<=i by omega),zw (show ps.length<=i by omega)];rfl
 |succ m ih=>
  intro i hi;have hd:i<ops.length:=om
  have hc:i<ps.length:=om
  have step:p8 (⟨q,ops⟩,(ops.length:Int),(i:Int),S nb c F a d w k)=aq (!c.fx ops[i]) (some (.inr ((i:Int),S nb c F a d w k))) (some (.inl (⟨q,ops⟩,(ops.length:Int),((i+1:Nat):Int),S nb c F a d w k))):=by unfold p8;simp only;rw[cd,if_pos om,bR (ze hd),af,qz1 hF,af,aO om]
  rw[jk hd,jk hc];show ∃r,_/\(match(bif c.fx ops[i] then vT c (ops.drop (i+1)) (ps.drop (i+1)) else some ps[i]) with|none=>r=-1|some p=>∃j:Nat,r=(j:Int)/\ps[j]?=some p);cases hx:c.fx ops[i] with
  |false=>rw[hx] at step;exact⟨(i:Int),bX step,i,rfl,ze hc⟩
  |true=>rw[hx] at step;obtain⟨r,h1,h2⟩:=ih (i+1) om;exact⟨r,by rw[dC step,h1],h2⟩
end
open Pz
section
variable {nb:Bool} {c:PC} {F:Y3} {E:Int} {Q:Tx→Prop} {N:Int→Prop}
variable {self:eh} {ps pp:PT} {d B:Int}
theorem z7r(hn:c.l.length<=10000)(hB:(c.l.length:Int)+3<=B)(hu:B<=90000)(hF:mI c F){i0 i:Nat}{r:Row}(hr:RI c E Q N i0 i r)(hT:dL c i 5=false)(first:Int)(qp qa qo:Bool)(apps:List (Sl Y0))(ha:fu apps=r.apps):Sm nb c F i0 (B+3) d (lD c first r i) (aM (qQ self) (first,⟨nb,c.l⟩,c.e,F,(i:Int),d,0,0,⟨qp,r.at_⟩,⟨qa,apps⟩,⟨qo,r.ops⟩,())):=by
 have hi:=hr.le;have hm:=hr.m;have hv:=hr.n1;have hw:=hr.gt;have hy:apps.length=r.apps.length:=by rw[<-ha,M6]
 have hz:lens apps+apps.length<=3*(i-i0):=by rw[<-M7,ha];omega
 have hj:0<apps.length:=om
 have ho:bC apps 0=some 0:=by unfold bC;rw[if_pos om];rfl
 have he:nth apps 0=some apps[0]:=vN (ze hj);unfold lD;by_cases h0:r.ops=[]
 ·have step:qQ self (first,⟨nb,c.l⟩,c.e,F,(i:Int),d,0,0,⟨qp,r.at_⟩,⟨qa,apps⟩,⟨qo,r.ops⟩,())=some (.inr (apps[0],S nb c F (i:Int) d 0 0)):=by unfold qQ;simp only;rw[lF (oo om),af,hT,aH,h0];simp only;rw[fY];have e:ak (ae ([]:List Tx)) 0=true:=rfl;simp only[ai,Bool.not_true,aH,e,af,aP,ho,he]
  rw[bX step,if_pos h0];refine⟨apps[0].nil,?_⟩;rw[<-ha,qz0 hj];rfl
 ·rw[if_neg h0];obtain⟨j,hf,hd⟩:=qz2 (nb:=nb) hF qo r.ops r.at_ om hr.n2 (i:Int) d 0 0 r.ops.length 0 om;rw[List.drop_zero,List.drop_zero] at hd;have hq:=List.length_pos_iff.2 h0;have e1:ak (ae r.ops) 0=false:=eP (by
   show((r.ops.length:Nat):Int)≠0;omega)
  have hf:pC (⟨qo,r.ops⟩,S nb c F (i:Int) d 0 0)=some (j,S nb c F (i:Int) d 0 0):=by rw[Zo];exact hf
  obtain⟨qc,er,hg,hs⟩:=z2o (n1:=F.nil) (n2:=qo) hF.g hF.z r.ops;have hg:kZ (F,⟨qo,r.ops⟩,())=_:=hg;have step:qQ self (first,⟨nb,c.l⟩,c.e,F,(i:Int),d,0,0,⟨qp,r.at_⟩,⟨qa,apps⟩,⟨qo,r.ops⟩,())=
    aq (bJ 0 j) (ag (bC r.at_ j) (fun kr=>ag (nth r.at_ kr) (fun oq=>some (.inr (⟨true,[]⟩,S nb c F (i:Int) d oq 71)))))
     (ag (kZ (F,⟨qo,r.ops⟩,())) (fun wS=>aq (ai (ak wS.2.1 0)) (some (.inr (⟨true,[]⟩,S nb c F (i:Int) d first 72))) (ag (sR (wS.1,0,⟨qa,apps⟩,⟨qo,r.ops⟩,())) (fun x19=>some (.inr (x19.1,S nb c F (i:Int) d 0 0)))))):=by
   unfold qQ;simp only;rw[lF (oo om),af,hT,aH];simp only;rw[fY];simp only[ai,Bool.not_true,aH,e1,af,hf,Ho]
  cases hx:vT c r.ops r.at_ with
  |some p=>rw[hx] at hd;obtain⟨k,rfl,hk⟩:=hd;have ht:k<r.at_.length:=(zH.1 hk).1;rw[S9,if_pos om,mw ht,af,vN hk,af] at step;rw[bX step];exact⟨_,(i:Int),d,rfl,(by decide:(71:Int)≠0),by omega,by simp only[List.length_nil];omega⟩
  |none=>
   rw[hx] at hd;have hd:j=-1:=hd;subst hd;rw[S9,if_neg om,hg,af,<-hF.cl] at step;cases hc:c.cl r.ops with
   |none=>rw[hc] at step;simp only at step;rw[eP hs] at step;rw[bX step];exact⟨_,(i:Int),d,rfl,(by decide:(72:Int)≠0),by omega,by simp only[List.length_nil];omega⟩
   |some x=>
    rw[hc] at step;simp only at step;rw[fY] at step;have hl:Bt 0 r.ops.length x:=qyx hF.z (by rw[<-hF.cl];exact hc);have hA:x.length<=100000:=by
     have:∀{a b:Nat} {x:List Int},Bt a b x->x.length=2*(b-a)+1:=by
      intro a b x h
      induction h with
      |leaf a=>simp
      |node a r b x y h1 h2 h3 h4 iO iP=>have:=h4.le;simp only[zf,zh,iO,iP];omega
     have:=this hl;omega
    obtain⟨q,t,b1,b2⟩:=z7q (qa:=qa) (qo:=qo) (apps:=apps) (ops:=r.ops) om hl om (Nat.le_refl _) ⟨qc,x⟩ 0 [] (by simp) om;have b1:sR ((⟨qc,x⟩:Sl Int),(0:Int),(⟨qa,apps⟩:Sl (Sl Y0)),(⟨qo,r.ops⟩:Sl Y1),())=some (⟨q,t⟩,⟨qc,x⟩,((0+x.length:Nat):Int),⟨qa,apps⟩,⟨qo,r.ops⟩,()):=S7 x.length b1;have b2:=b2 x.length (Nat.le_refl _);rw[zu] at b2;rw[b1,af] at step;simp only[ai,Bool.not_true,aH] at step;rw[bX step];refine⟨q,?_⟩;show _=some ((⟨q,(gX r.apps r.ops x.length x).1⟩:(Sl Y0)),S nb c F (i:Int) d 0 0);rw[<-ha,b2]
theorem z2p(hn:c.l.length<=10000)(hB:(c.l.length:Int)+3<=B)(hC:B<=80000)(H:oe c E Q N)(hF:mI c F)(hs:Sf nb c F self ps d B)(ha:∀i,bL E (AN c Q N i) (ps i))(ht:Sf nb c F gO pp d B)(hk:∀i,bL E (AN c Q N i) (pp i))(i0:Nat)(first:Int):∀(m f i:Nat) (r:Row) (qp qa qo:Bool) (apps:List (Sl Y0)),i+m=c.l.length->m<f->RI c E Q N i0 i r->fu apps=r.apps->Sm nb c F i0 (B+3) d (eb (iy c ps pp f i r) fun z=>lD c first z.1 z.2) (aM (qQ self) (first,⟨nb,c.l⟩,c.e,F,(i:Int),d,0,0,⟨qp,r.at_⟩,⟨qa,apps⟩,⟨qo,r.ops⟩,())):=by
 intro m
 induction m using Nat.strongRecOn with
 |_ m ih=>
  intro f i r qp qa qo apps hm hf hr hc;obtain⟨f,rfl⟩:∃g,f=g+1:=⟨f-1,by omega⟩;have hi:i<=c.l.length:=om
  have hD:=hr.m;have hu:=hr.n1;have hw:=hr.n2;have hE:=hr.gt;have hG:apps.length=r.apps.length:=by rw[<-hc,M6]
  have hH:lens apps+apps.length<=3*(i-i0):=by rw[<-M7,hc];omega
  unfold iy;cases hT:dL c i 5 with
  |false=>exact z7r hn hB om hF hr hT first qp qa qo apps hc
  |true=>
   rw[cond_true];have hl:=sZ hT;have hx:∀x:Int,fit (aW (ae r.at_) (ae [x]))=some ():=fun x=>fm (by
    show((r.at_.length:Nat):Int)+((1:Nat):Int)<=_;omega)
   have hy:∀x:Tx,fit (aW (ae r.ops) (ae [x]))=some ():=fun x=>fm (by
    show((r.ops.length:Nat):Int)+((1:Nat):Int)<=_;omega)
   have hz:∀x:(Sl Y0),fit (aW (ae apps) (ae [x]))=some ():=fun x=>fm (by
    show((apps.length:Nat):Int)+((1:Nat):Int)<=_;omega)
   have step:qQ self (first,⟨nb,c.l⟩,c.e,F,(i:Int),d,0,0,⟨qp,r.at_⟩,⟨qa,apps⟩,⟨qo,r.ops⟩,())=
     ag (wN self (S nb c F ((i+1:Nat):Int) d 0 0)) (fun x8=>some (.inl (first,x8.2.1,x8.2.2.1,x8.2.2.2.1,x8.2.2.2.2.1,x8.2.2.2.2.2.1,x8.2.2.2.2.2.2.1,x8.2.2.2.2.2.2.2.1,⟨aD qp (ch [gG c i]),r.at_++[gG c i]⟩,⟨aD qa (ch [x8.1]),apps++[x8.1]⟩,⟨aD qo (ch [eW c i]),r.ops++[eW c i]⟩,()))):=by
    unfold qQ;simp only;rw[lF (oo om),af,hT,aP];simp only;rw[BD om,af,Int.toNat_natCast,hx,af];simp only;rw[Gb (ks:=[]) (.inl hT) om,af];simp only[Hp,hy,af,hz];rfl
   have hp:=qyw hn hB om H hs ha ht hk (show i+1<=c.l.length from hl);have ho:=Ua H ha hk (i+1);cases hq:jO c ps pp (i+1) with
   |ok x=>
    rw[hq] at hp ho;obtain⟨b,hb⟩:=hp;obtain⟨x1,x2,x3,x4⟩:=ho;rw[hb,af] at step;rw[dC step];refine ih (c.l.length-x.2) om f x.2 ⟨r.apps++[x.1],r.ops++[eW c i],r.at_++[gG c i]⟩ _ _ _ (apps++[⟨b,x.1⟩]) om om ?_ (by rw[Uj,hc]);refine⟨?_,?_,?_,by omega,x2,?_,?_,?_⟩
    ·simp only[zh,zf,List.length_nil,hu]
    ·simp only[zh,zf,List.length_nil,hw]
    ·simp only[Hm,zh,zf,List.length_nil];omega
    ·intro a ha;rcases zL.1 ha with ha|ha
     ·exact hr.g1 a ha
     ·rw[zB.1 ha];exact x4
    ·intro a ha;rcases zL.1 ha with ha|ha
     ·exact hr.g2 a ha
     ·rw[zB.1 ha];exact Cz H i
    ·intro a ha;rcases zL.1 ha with ha|ha
     ·exact hr.g3 a ha
     ·rw[zB.1 ha];exact TX H i
   |error e=>
    rw[hq] at hp;obtain⟨v,a,d',hv,he,h2,h3⟩:=hp;rw[hv,af] at step;rw[dC step];have hI:0<(apps++[v]).length:=by rw[zh,List.length_singleton];omega
    have hA:bC (apps++[v]) 0=some 0:=by unfold bC;rw[if_pos om];rfl
    have hg:0<apps.length:=om
    have hj:nth (apps++[v]) 0=some apps[0]:=by refine vN ?_;rw[ja hg,ze hg]
    have fin:qQ self (first,⟨nb,c.l⟩,c.e,F,a,d',e.1,e.2,⟨aD qp (ch [gG c i]),r.at_++[gG c i]⟩,⟨aD qa (ch [v]),apps++[v]⟩,⟨aD qo (ch [eW c i]),r.ops++[eW c i]⟩,())=some (.inr (apps[0],S nb c F a d' e.1 e.2)):=by unfold qQ;simp only;rw[qy he,af,aH];simp only;rw[eP he];simp only[ai,Bool.not_false,aP,af,hA,hj]
    refine⟨apps[0],a,d',bX fin,he,by omega,?_⟩;have h1:apps[0].l.length<=lens apps:=by
     have hd:apps=apps[0]::apps.drop 1:=by
      have:=jk hg
      rwa [List.drop_zero] at this
     have e:lens apps=apps[0].l.length+lens (apps.drop 1):=by
      conv=>lhs;rw[hd]
      unfold lens;rw[zI,List.sum_cons]
     omega
    omega
theorem z7s(hn:c.l.length<=10000)(hB:(c.l.length:Int)+3<=B)(hj:B<=80000)(H:oe c E Q N)(hF:mI c F)(hs:Sf nb c F self ps d B)(ha:∀i,bL E (AN c Q N i) (ps i))(hf:Sf nb c F gO pp d B)(hc:∀i,bL E (AN c Q N i) (pp i)){i:Nat}(hi:i<=c.l.length):Sm nb c F i (B+3) d (qx c ps pp i) (Fq self (S nb c F (i:Int) d 0 0)):=by
 rw[Zz,BD om,af,Int.toNat_natCast];simp only;unfold qx;have hp:=qyw hn hB om H hs ha hf hc hi;have hg:=Ua H ha hc i;cases hr:jO c ps pp i with
 |ok x=>
  rw[hr] at hp hg;obtain⟨b,hb⟩:=hp;obtain⟨x1,x2,x3,x4⟩:=hg;rw[hb,af];have e:tot [x.1]=x.1.length+1:=by unfold tot;simp
  refine z2p hn hB hj H hF hs ha hf hc i (gG c i) (c.l.length-x.2) (c.l.length+1) x.2 ⟨[x.1],[],[]⟩ true false true [⟨b,x.1⟩] om om ⟨rfl,rfl,?_,x1,x2,?_,(fun _ h=>absurd h (List.not_mem_nil)),(fun _ h=>absurd h (List.not_mem_nil))⟩ rfl
  ·simp only[e,List.length_nil];omega
  ·intro a ha;rw[zB.1 ha];exact x4
 |error e=>
  rw[hr] at hp;obtain⟨v,a,d',hv,he,h2,h3⟩:=hp;rw[hv,af];have hk:bC [v] 0=some 0:=by unfold bC;rw[if_pos (by simp)];rfl
  have hd:nth [v] 0=some v:=rfl;have fin:qQ self (gG c i,⟨nb,c.l⟩,c.e,F,a,d',e.1,e.2,⟨true,[]⟩,⟨false,[v]⟩,⟨true,[]⟩,())=some (.inr (v,S nb c F a d' e.1 e.2)):=by unfold qQ;simp only;rw[qy he,af,aH];simp only;rw[eP he];simp only[ai,Bool.not_false,aP,af,hk,hd]
  exact⟨v,a,d',bX fin,he,h2,h3⟩
end
open Pz
section
variable {nb:Bool} {c:PC} {F:Y3} {E:Int} {Q:Tx→Prop} {N:Int→Prop}
variable {self:eh} {ps pp:PT} {d B:Int}
theorem z2q(hn:c.l.length<=10000)(hB:(c.l.length:Int)+3<=B)(hc:B<=80000)(H:oe c E Q N)(hF:mI c F)(hs:Sf nb c F self ps d B)(ha:∀i,bL E (AN c Q N i) (ps i))(hd:Sf nb c F gO pp d B)(hf:∀i,bL E (AN c Q N i) (pp i)){i:Nat}(hi:i<=c.l.length):Sm nb c F i (B+3) d (Cv c ps pp i) (Ch self (S nb c F (i:Int) d 0 0)):=by
 have hg:i<=1000000:=om
 rw[ZA,mH (ks:=[[102,117,110],[108,101,116],[105,102],[114,97,105,115,101],[116,114,121]]) hg (by simp) (by simp),af,wE];simp only;unfold Cv;have eK:dP c i [[102,117,110],[108,101,116],[105,102],[114,97,105,115,101],[116,114,121]]=dP c i [Bv,jN,P9,Qa,Lm]:=rfl;rw[eK];cases hK:dP c i [Bv,jN,P9,Qa,Lm] with
 |false=>exact(z7s hn hB hc H hF hs ha hd hf hi).eta
 |true=>
  have hl:=CA hK;simp only[aP,cond_true];rw[Gb (k:=0) (.inr hK) om,af,Hp];simp only;have hk:i+1<=1000000:=om
  rw[Cd];by_cases h1:eW c i=Bv
  ·rw[if_pos (show eW c i=[102,117,110] from h1),zo h1,cond_true];refine Ui hn H hl (fun s s1 s2=>?_) fun v a w er he h2=>?_
   ·simp only;refine Sm.bind (Lq hn hB hs s2 bF) (ug H ha s.2 bF) (fun b x ⟨x1,x2,x3,x4⟩=>?_) fun v a d' w er he h h'=>?_
    ·simp only;rw[Ql _ _ _ _ (by simp only;omega),af];exact⟨_,rfl⟩
    ·simp only;rw[Ql _ _ _ _ om,af];refine⟨_,a,d',rfl,by omega,?_⟩;simp only[iz,List.flatten_cons,List.flatten_nil,zu];omega
   ·simp only;rw[BE hs he om om,af];simp only;rw[Ql _ _ _ _ (by simp),af];refine⟨_,a+1,d,rfl,by omega,?_⟩;simp only[iz,List.flatten_cons,List.flatten_nil,zu,List.length_nil];omega
  ·rw[if_neg (show ¬eW c i=[102,117,110] from h1),zn h1,cond_false,Cd];by_cases h2:eW c i=jN
   ·rw[if_pos (show eW c i=[108,101,116] from h2),zo h2,cond_true,mH (ks:=[[114,101,99]]) hk (by simp) (by simp),af];have eR:dP c (i+1) [[114,101,99]]=dP c (i+1) [gH]:=rfl;have hx:aq (dP c (i+1) [gH]) (some ((8:Int),S nb c F (aA .i64 ((i+1:Nat):Int) 1) d 0 0)) (some ((7:Int),S nb c F ((i+1:Nat):Int) d 0 0))=some ((bif dP c (i+1) [gH] then(8:Int) else 7),S nb c F ((bif dP c (i+1) [gH] then i+2 else i+1:Nat):Int) d 0 0):=by rw[aO om];cases dP c (i+1) [gH]<;>rfl
    have hj:i+1<=(bif dP c (i+1) [gH] then i+2 else i+1)/\(bif dP c (i+1) [gH] then i+2 else i+1)<=c.l.length:=by
     cases t2:dP c (i+1) [gH] with
     |true=>have:=CA t2;exact⟨by rw[cond_true];omega,by rw[cond_true];omega⟩
     |false=>exact⟨by rw[cond_false];omega,by rw[cond_false];omega⟩
    simp only;rw[eR,hx,af];simp only;generalize (bif dP c (i+1) [gH] then i+2 else i+1)=j at hj ⊢;generalize (bif dP c (i+1) [gH] then(8:Int) else 7)=k;obtain⟨j1,j2⟩:=hj;refine Ui hn H j2 (fun s s1 s2=>?_) fun v a w er he h2=>?_
    ·simp only;refine Sm.bind (Lq hn hB hs s2 Bw) (ug H ha s.2 Bw) (fun b x ⟨x1,x2,x3,x4⟩=>?_) fun v a d' w er he h h'=>?_
     ·simp only;refine Sm.bind (Lq hn hB hs x2 TV) (ug H ha x.2 TV) (fun b2 y ⟨y1,y2,y3,y4⟩=>?_) fun v a d' w er he h h'=>?_
      ·simp only;rw[vW _ _ _ _ _ (by simp only;omega),af];exact⟨_,rfl⟩
      ·simp only;rw[vW _ _ _ _ _ (by simp only;omega),af];refine⟨_,a,d',rfl,by omega,?_⟩;simp only[iz,List.flatten_cons,List.flatten_nil,zu,zh];omega
     ·simp only;rw[BE hs he om om,af];simp only;rw[vW _ _ _ _ _ (by simp only[List.length_nil];omega),af];refine⟨_,a+1,d',rfl,by omega,?_⟩;simp only[iz,List.flatten_cons,List.flatten_nil,zu];omega
    ·simp only;rw[BE hs he om om,af];simp only;rw[BE hs he om om,af];simp only;rw[vW _ _ _ _ _ (by simp),af];refine⟨_,a+1+1,d,rfl,by omega,?_⟩;simp only[iz,List.flatten_cons,List.flatten_nil,zu,List.length_nil];omega
   ·rw[if_neg (show ¬eW c i=[108,101,116] from h2),zn h2,cond_false,Cd];by_cases h3:eW c i=P9
    ·rw[if_pos (show eW c i=[105,102] from h3),zo h3,cond_true];refine Sm.bind (hs.ok (i+1) hl) (ha (i+1)) (fun b x ⟨x1,x2,x3,x4⟩=>?_) fun v a d' w er he h h'=>?_
     ·simp only;refine Sm.bind (Lq hn hB hs x2 z25) (ug H ha x.2 z25) (fun b2 y ⟨y1,y2,y3,y4⟩=>?_) fun v a d' w er he h h'=>?_
      ·simp only;refine Sm.bind (Lq hn hB hs y2 z26) (ug H ha y.2 z26) (fun b3 z ⟨z1,z2,z3,z4⟩=>?_) fun v a d' w er he h h'=>?_
       ·simp only;rw[Uh _ _ _ _ _ _ (by simp only;omega),af];exact⟨_,rfl⟩
       ·simp only;rw[Uh _ _ _ _ _ _ (by simp only;omega),af];refine⟨_,a,d',rfl,by omega,?_⟩;simp only[iz,List.flatten_cons,List.flatten_nil,zu,zh];omega
      ·simp only;rw[BE hs he om om,af];simp only;rw[Uh _ _ _ _ _ _ (by simp only[List.length_nil];omega),af];refine⟨_,a+1,d',rfl,by omega,?_⟩;simp only[iz,List.flatten_cons,List.flatten_nil,zu,zh];omega
     ·simp only;rw[BE hs he om om,af];simp only;rw[BE hs he om om,af];simp only;rw[Uh _ _ _ _ _ _ (by simp only[List.length_nil];omega),af];refine⟨_,a+1+1,d',rfl,by omega,?_⟩;simp only[iz,List.flatten_cons,List.flatten_nil,zu];omega
    ·rw[if_neg (show ¬eW c i=[105,102] from h3),zn h3,cond_false,Cd];by_cases h4:eW c i=Qa
     ·rw[if_pos (show eW c i=[114,97,105,115,101] from h4),zo h4,cond_true];refine Sm.bind (hs.ok (i+1) hl) (ha (i+1)) (fun b x ⟨x1,x2,x3,x4⟩=>?_) fun v a d' w er he h h'=>?_
      ·simp only;rw[Ql _ _ _ _ (by simp only;omega),af];exact⟨_,rfl⟩
      ·simp only;rw[Ql _ _ _ _ om,af];refine⟨_,a,d',rfl,by omega,?_⟩;simp only[iz,List.flatten_cons,List.flatten_nil,zu];omega
     ·rw[if_neg (show ¬eW c i=[114,97,105,115,101] from h4),zn h4,cond_false];refine Sm.bind (hs.ok (i+1) hl) (ha (i+1)) (fun b x ⟨x1,x2,x3,x4⟩=>?_) fun v a d' w er he h h'=>?_
      ·simp only;refine Lp om (fun hx=>?_) fun w=>?_
       ·simp only;refine Ui hn H hx (fun s s1 s2=>?_) fun v a w er he h2=>?_
        ·simp only;refine Sm.bind (Lq hn hB hs s2 bF) (ug H ha s.2 bF) (fun b2 y ⟨y1,y2,y3,y4⟩=>?_) fun v a d' w er he h h'=>?_
         ·simp only;rw[vW _ _ _ _ _ (by simp only;omega),af];exact⟨_,rfl⟩
         ·simp only;rw[vW _ _ _ _ _ (by simp only;omega),af];refine⟨_,a,d',rfl,by omega,?_⟩;simp only[iz,List.flatten_cons,List.flatten_nil,zu,zh];omega
        ·simp only;rw[BE hs he om om,af];simp only;rw[vW _ _ _ _ _ (by simp only[List.length_nil];omega),af];refine⟨_,a+1,d,rfl,by omega,?_⟩;simp only[iz,List.flatten_cons,List.flatten_nil,zu];omega
       ·simp only;rw[z4r dc om,af];simp only;rw[BE hs dc om om,af];simp only;rw[vW _ _ _ _ _ (by simp only[List.length_nil];omega),af];refine⟨_,((x.2+1:Nat):Int)+1,d,rfl,by omega,?_⟩;simp only[iz,List.flatten_cons,List.flatten_nil,zu];omega
      ·simp only;rw[M5 he om om,af];simp only;rw[z4r he om,af];simp only;rw[BE hs he om om,af];simp only;rw[vW _ _ _ _ _ (by simp only[List.length_nil];omega),af];refine⟨_,a+1+1,d',rfl,by omega,?_⟩;simp only[iz,List.flatten_cons,List.flatten_nil,zu];omega
theorem Sf.wide{sf:eh}{B':Int}(h:Sf nb c F sf ps d B)(hB:B<=B'):Sf nb c F sf ps d B':=⟨h.err,fun i hi=>(h.ok i hi).wide (Nat.le_refl _) hB⟩
theorem z4t{er:Int}(he:er≠0)(a dp w:Int):Ci self (S nb c F a dp w er)=some (⟨true,[]⟩,S nb c F a dp w er):=by rw[Ps,eP he];rfl
theorem z2r(hn:c.l.length<=10000)(H:oe c E Q N)(hF:mI c F):∀(f n:Nat),f<=100->f<n->Sf nb c F (cM jL n) (mG c f) (100-(f:Int)) (c.l.length+3+3*f):=by
 intro f
 induction f with
 |zero=>
  intro n _ hc;obtain⟨n,rfl⟩:∃g,n=g+1:=⟨n-1,by omega⟩;refine⟨fun he a dp w=>?_,fun i hi=>?_⟩
  ·show jL _ _=_;rw[vE,z4t he];rfl
  ·show Sm nb c F i _ _ _ (jL _ _);rw[vE,Ps,fY];simp only[ai,Bool.not_true,aH];have e:ak (100-((0:Nat):Int)) 100=true:=rfl;rw[e,aP,BD om,af,Int.toNat_natCast];simp only;rw[Ho,af];exact⟨_,(i:Int),_,rfl,(by decide:(73:Int)≠0),by omega,by simp only[List.length_nil];omega⟩
 |succ f ih=>
  intro n hd hc;obtain⟨n,rfl⟩:∃g,n=g+1:=⟨n-1,by omega⟩;have hs:=ih n om om;have hf:=(z2l (nb:=nb) (F:=F) hn H f om).wide (show(c.l.length:Int)+3+f<=c.l.length+3+3*f by omega);refine⟨fun he a dp w=>?_,fun i hi=>?_⟩
  ·show jL _ _=_;rw[vE,z4t he];rfl
  ·show Sm nb c F i _ _ _ (jL _ _);rw[vE,Ps,fY];simp only[ai,Bool.not_true,aH];have e:ak (100-((f+1:Nat):Int)) 100=false:=eP om;have e2:aA .i64 (100-((f+1:Nat):Int)) 1=100-(f:Int):=by rw[tH om om];omega
   have e3:cq .i64 (100-(f:Int)) 1=100-((f+1:Nat):Int):=by rw[qL om om];omega
   rw[e,aH,e2];have h:=z2q hn om om H hF hs (Ub H f) hf (TY H f) hi;show Sm nb c F i _ _ (Cv c (mG c f) (lC c f) i) _;cases hr:Cv c (mG c f) (lC c f) i with
   |ok x=>rw[hr] at h;obtain⟨b,hb⟩:=h;rw[hb,af,af];simp only;rw[e3];exact⟨b,rfl⟩
   |error e=>rw[hr] at h;obtain⟨v,a,d',hv,he,h2,h3⟩:=h;rw[hv,af,af];exact⟨v,a,_,rfl,he,by omega,h3⟩
theorem z2s(hn:c.l.length<=10000)(H:oe c E Q N)(hF:mI c F):Sm nb c F 0 20000 0 (mG c 100 0) (sS (S nb c F 0 0 0 0)):=by have hs:=(z2r (nb:=nb) (F:=F) hn H hF 100 101 (Nat.le_refl _) (Nat.lt_succ_self _)).ok 0 (Nat.zero_le _);have up:∀x,lq (cM jL 101 x) (sS x):=fun x y e=>Uk (fun _ _ h=>z7p h) e;exact((hs.up (up _)).wide (Nat.le_refl _) om)
theorem qq0(hn:c.l.length<=10000)(H:oe c E Q N)(hF:mI c F):∃b,iY (⟨nb,c.l⟩,c.e,F,())=(match lE c with
   |.error q=>some (⟨true,[]⟩,q.1,q.2,())
   |.ok l=>ag (im (⟨b,l⟩,())) fun x=>aq (ai (ak x.1 0)) (some (⟨true,[]⟩,0,74,())) (some (⟨b,l⟩,0,0,()))):=by
 obtain⟨fn,fl⟩:=F;have hz:eH fl=0:=hF.z;have h:=z2s (nb:=nb) hn H hF;have ho:=Ub H 100 0;rw[ZB,MU fn hF.g,hz,af];simp only;rw[fY];simp only[ai,Bool.not_true,aH];unfold lE;cases hr:mG c 100 0 with
 |error q=>rw[hr] at h;obtain⟨v,a,d',hv,he,h2,h3⟩:=h;have hv:sS (⟨nb,c.l⟩,c.e,⟨fn,fl⟩,0,0,0,0,())=_:=hv;rw[hv,af];simp only;rw[eP he];refine⟨true,?_⟩;simp only[aH,af];rw[eP he];rfl
 |ok x=>
  rw[hr] at h ho;obtain⟨b,hb⟩:=h;have hb:sS (⟨nb,c.l⟩,c.e,⟨fn,fl⟩,0,0,0,0,())=_:=hb;obtain⟨x1,x2,x3,x4⟩:=ho;rw[hb,af];simp only;rw[fY,aP,af,cd];refine⟨b,?_⟩;show _=(match(if x.2<c.l.length then(.error (gG c x.2,70):PR (List ND)) else .ok x.1) with|.error q=>_|.ok l=>_);by_cases hc:x.2<c.l.length
  ·rw[if_pos (show(x.2:Int)<ae c.l by show(x.2:Int)<((c.l.length:Nat):Int);omega),if_pos hc,BD om,af,Int.toNat_natCast];simp only;rw[Ho,af];rfl
  ·rw[if_neg (show ¬(x.2:Int)<ae c.l by show ¬(x.2:Int)<((c.l.length:Nat):Int);omega),if_neg hc,af];simp only;rw[fY];rfl
end
open Pz
theorem Ul{g:Y9->Option Y8}{p:Int->Bool}(hg:∀c,g (c,())=some (p c,()))(K:iH->Option (iH⊕Y9))(hK:∀s k,K (s,k,())=ag (aq (aE k (ae s)) (ag (bA s k) (fun x1=>ag (g (x1,())) (fun x2=>some x2.1))) (some false)) (fun x3=>aq x3 (some (Sum.inl (s,aA .i64 k 1,()))) (some (Sum.inr (k,())))))(s:Tx)(hs:s.length<=900000000):∀(m k:Nat),k+m=s.length->aM K (s,(k:Int),())=some (((k+cZ p (s.drop k):Nat):Int),()):=by
 intro m
 induction m with
 |zero=>intro k hk;apply bX;rw[hK,cd,if_neg (show ¬(k:Int)<ae s by show ¬(k:Int)<((s.length:Nat):Int);omega),af,aH,zw om];rfl
 |succ m ih=>
  intro k hk;have hc:k<s.length:=om
  have hd:=jk hc;have step:K (s,(k:Int),())=aq (p s[k]) (some (Sum.inl (s,((k+1:Nat):Int),()))) (some (Sum.inr ((k:Int),()))):=by rw[hK,cd,if_pos (show(k:Int)<ae s by show(k:Int)<((s.length:Nat):Int);omega),bR (ze hc),af,hg,af,af,aO om]
  rw[hd];unfold cZ;cases hp:p s[k] with
  |true=>rw[hp,aP] at step;rw[dC step,ih (k+1) om,cond_true];congr 3;omega
  |false=>rw[hp,aH] at step;rw[bX step,cond_false];rfl
theorem zau(s:Tx)(hs:s.length<=900000000):vr (s,())=some (((cZ fh s:Nat):Int),()):=by have h:=Ul qj3 G6 (fun _ _=>rfl) s hs s.length 0 om;rw[zO,List.drop_zero] at h;rw[YU];exact h
def fM(c:Int):Bool:=decide (c∈aN)
theorem zav(s:Tx)(hs:s.length<=900000000):vu (s,())=some (((cZ fM s:Nat):Int),()):=by have h:=Ul (p:=fM) Z6 G7 (fun _ _=>rfl) s hs s.length 0 om;rw[zO,List.drop_zero] at h;rw[YV];exact h
theorem zaw(s:Tx)(hs:s.length<=900000000):vv (s,())=some (((cZ gI s:Nat):Int),()):=by have h:=Ul (p:=gI) qdk G8 (fun _ _=>rfl) s hs s.length 0 om;rw[zO,List.drop_zero] at h;rw[YW];exact h
def iJ(c:Int):Bool:=ai (ak c 10)
theorem zax(s:Tx)(hs:s.length<=900000000):sJ (s,())=some (((cZ iJ s:Nat):Int),()):=by have h:=Ul (p:=iJ) YS G5 (fun _ _=>rfl) s hs s.length 0 om;rw[zO,List.drop_zero] at h;rw[YT];exact h
def oM(t:Tx):Bool:=decide (t∈qn)
theorem Qp(k:Int)(s:Tx){n:Nat}(hn:n<=s.length):nQ ((n:Int),k,s,())=some (((bif oM (s.take n) then 6 else k),s.take n,0,0),(n:Int),0,()):=by
 rw[YX,Hj hn,af,TM,af];unfold oM;cases decide (s.take n∈qn) with
 |true=>simp only[aP,af,Hj hn];rfl
 |false=>simp only[aH,af,Hj hn];rfl
theorem qul(x:Int):∃v,ml (x,())=some (v,())/\lA v:=by
 rw[Pd];have h1:fZ .u64 (dU .u64 x) 1=some (IntKind.u64.wrap (dU .u64 x*2 ^ min (1:Int).toNat IntKind.u64.bits)):=by unfold fZ;rw[if_neg dc]
 rw[h1,af];have h2:=qrk (a:=dU .i64 (IntKind.u64.wrap (dU .u64 x*2 ^ min (1:Int).toNat IntKind.u64.bits))) 1 dc;have h2:j7 .i64 (dU .i64 (IntKind.u64.wrap (dU .u64 x*2 ^ min (1:Int).toNat IntKind.u64.bits))) 1=_:=h2;rw[h2,af];refine⟨_,rfl,?_⟩;generalize IntKind.u64.wrap (dU .u64 x*2 ^ min (1:Int).toNat IntKind.u64.bits)=z;unfold dU lA;rw[qea];split<;>omega
theorem qz3(x:Int):∃t,ir (x,())=some (t,()):=by
 obtain⟨v,hv,h1,h2⟩:=qul x;have hf:Ap (v,10,())=some (rC v,()):=by show(bif decide ((10:Int)=10)&&(decide (-9223372036854775808<=v)&&decide (v<=9223372036854775807)) then some (rC v,()) else none)=_;rw[zo h1,zo h2];rfl
 have hl:=qn3 v;have hr:Ao (rC v,[45],[126],1,())=some (kM (rC v),()):=by show(bif (([45]:List Int)==[45])&&((([126]:List Int)==[126])&&(decide ((1:Int)=1)&&decide ((rC v).length<=1000))) then some (kM (rC v),()) else none)=_;rw[zo (show(rC v).length<=1000 by omega)];rfl
 rw[YR,hv,af];simp only;rw[hf,af];simp only;rw[hr,af];exact⟨_,rfl⟩
theorem qo0(s:Tx)(bl:Bool)(r:Tx)(hr:∀b,b∈r->0<=b/\b<=255)(_hl:r.length<=900000000):∀(m k:Nat) (n:Int),k+m=r.length->∃x e,aM jg (s,bl,n,r,(k:Int),())=some (x,e,())/\lA x:=by
 intro m
 induction m with
 |zero=>
  intro k n hk;have hd:¬(k:Int)<ae r:=by show ¬(k:Int)<((r.length:Nat):Int);omega
  have r0:lA 0:=⟨by decide,by decide⟩;have hx:∀z:Int,∃x e,(ag (ag (aq (aE 4611686018427387903 z) (some true) (some (aE z (-4611686018427387904)))) (fun x6=>ag (aq x6 (some true) (ag (ir (z,())) (fun x7=>some (ai (bx x7.1 s))))) (fun x8=>aq x8 (some (Sum.inr ((0:Int),(11:Int),()))) (some (Sum.inr (z,(0:Int),())))))) (fun y=>(some y:Option ((Y1×Bool×Int×Y1×Int×Unit)⊕wL))))=some (Sum.inr (x,e,()))/\lA x:=by
   intro z;obtain⟨t,ht⟩:=qz3 z;rw[ht,cd];by_cases h1:4611686018427387903<z
   ·rw[if_pos h1];exact⟨0,11,rfl,r0⟩
   ·rw[if_neg h1];have e:aE z (-4611686018427387904)=decide (z< -4611686018427387904):=rfl;rw[e];by_cases h2:z< -4611686018427387904
    ·rw[zo h2];exact⟨0,11,rfl,r0⟩
    ·rw[zn h2];cases h3:bx t s with
     |true=>exact⟨z,0,by simp only[af,aH,h3,ai,Bool.not_true],by omega,by omega⟩
     |false=>exact⟨0,11,by simp only[af,aH,aP,h3,ai,Bool.not_false],r0⟩
  cases bl with
  |true=>
   obtain⟨x,e,h1,h2⟩:=hx n;refine⟨x,e,bX ?_,h2⟩;unfold jg;simp only;rw[cd,if_neg hd];revert h1;cases hq:(ag (aq (aE 4611686018427387903 n) (some true) (some (aE n (-4611686018427387904)))) (fun x6=>ag (aq x6 (some true) (ag (ir (n,())) (fun x7=>some (ai (bx x7.1 s))))) (fun x8=>aq x8 (some (Sum.inr ((0:Int),(11:Int),()))) (some (Sum.inr (n,(0:Int),())))))) with
   |none=>intro h;cases h
   |some y=>intro h;exact Eq.trans hq h
  |false=>
   obtain⟨x,e,h1,h2⟩:=hx (cq .i64 0 n);refine⟨x,e,bX ?_,h2⟩;unfold jg;simp only;rw[cd,if_neg hd];revert h1;cases hq:(ag (aq (aE 4611686018427387903 (cq .i64 0 n)) (some true) (some (aE (cq .i64 0 n) (-4611686018427387904)))) (fun x6=>ag (aq x6 (some true) (ag (ir (cq .i64 0 n,())) (fun x7=>some (ai (bx x7.1 s))))) (fun x8=>aq x8 (some (Sum.inr ((0:Int),(11:Int),()))) (some (Sum.inr (cq .i64 0 n,(0:Int),())))))) with
   |none=>intro h;cases h
   |some y=>intro h;exact Eq.trans hq h
 |succ m ih=>
  intro k n hk;have hd:k<r.length:=om
  have hc:(k:Int)<ae r:=by show(k:Int)<((r.length:Nat):Int);omega
  have step:∀n,jg (s,bl,n,r,(k:Int),())=ag (aq (aE (da r (k:Int)) 48) (some true) (some (aE 57 (da r (k:Int))))) (fun x3=>ag (aq x3 (some true) (some (aE n (-461168601842738790)))) (fun x4=>aq x4 (some (Sum.inr (0,11,()))) (some (Sum.inl (s,bl,cq .i64 (oN .i64 10 n) (dU .i64 (cq .i32 (da r (k:Int)) 48)),r,eE r (k:Int),()))))):=by intro n;unfold jg;simp only;rw[cd,if_pos hc,cd,if_pos hc,af]
  have r0:lA 0:=⟨by decide,by decide⟩;have bad:∀n,jg (s,bl,n,r,(k:Int),())=some (Sum.inr (0,11,()))->∃x e,aM jg (s,bl,n,r,(k:Int),())=some (x,e,())/\lA x:=fun n h=>⟨0,11,bX h,r0⟩;obtain⟨a1,a2⟩:=Z7 hr hd;by_cases h1:127<r[k]
  ·refine bad n ?_;have:=a2 h1;rw[step,cd,if_neg om];have e:aE 57 (da r (k:Int))=true:=zo om;rw[e];rfl
  ·obtain⟨b1,b2⟩:=a1 om;have st:=step n;rw[b1,b2] at st;by_cases h2:r[k]<48
   ·refine bad n ?_;rw[st,cd,if_pos h2];rfl
   ·by_cases h3:57<r[k]
    ·refine bad n ?_;rw[st,cd,if_neg h2];have e:aE 57 r[k]=true:=zo h3;rw[e];rfl
    ·by_cases h4:n< -461168601842738790
     ·refine bad n ?_;rw[st,cd,if_neg h2];have e:aE 57 r[k]=false:=zn h3;have e2:aE n (-461168601842738790)=true:=zo h4;rw[e,e2];rfl
     ·rw[cd,if_neg h2] at st;have e:aE 57 r[k]=false:=zn h3;have e2:aE n (-461168601842738790)=false:=zn h4;rw[e,e2] at st;rw[dC st];exact ih (k+1) _ om
theorem qz4(s:Tx)(hs:∀b,b∈s->0<=b/\b<=255)(hl:s.length<=900000000):∃x e,pw (s,())=some (x,e,())/\lA x:=by
 rw[Zb,Za,YZ,Ph];have e1:ae ([126]:Tx)=((1:Nat):Int):=rfl;rw[e1,S9];have none:∃x e,aM jg (s,false,0,s,0,())=some (x,e,())/\lA x:=qo0 s false s hs hl s.length 0 0 om;by_cases h1:((1:Nat):Int)<=ae s
 ·have hd:1<=s.length:=by have:((1:Nat):Int)<=((s.length:Nat):Int):=h1;omega
  rw[if_pos h1,Hj hd,af,af,af,wE];cases h2:bx (s.take 1) [126] with
  |false=>exact none
  |true=>
   have hc:cg s ((1:Nat):Int) (ae s)=some (s.drop 1):=by unfold cg ae;rw[if_pos om];simp
   simp only[aP,hc,af];exact qo0 s true (s.drop 1) (fun b hb=>hs b (List.mem_of_mem_drop hb)) (by rw[zD];omega) (s.drop 1).length 0 0 om
 ·rw[if_neg h1,af,af,wE,aH,af,af];exact none
noncomputable def kC(s:Tx):Int×Int:=match pw (s,()) with
 |some x=>(x.1,x.2.1)
 |none=>(0,0)
theorem qz5(s:Tx)(hs:∀b,b∈s->0<=b/\b<=255)(hl:s.length<=900000000):pw (s,())=some ((kC s).1,(kC s).2,())/\lA (kC s).1:=by obtain⟨x,e,h1,h2⟩:=qz4 s hs hl;unfold kC;rw[h1];exact⟨rfl,h2⟩
open Pz
abbrev s4:Tx:=[48,49,50,51,52,53,54,55,56,57,97,98,99,100,101,102]
theorem z4u(c:Int):lQ c s4=cO c:=by
 by_cases h:c∈s4
 ·simp only[zt,List.not_mem_nil,or_false] at h;rcases h with rfl|rfl|rfl|rfl|rfl|rfl|rfl|rfl|rfl|rfl|rfl|rfl|rfl|rfl|rfl|rfl<;>rfl
 ·have h1:=(Ta c s4).1;have h2:¬0<=lQ c s4:=fun e=>h ((Z5 c s4).1 e);have h3:cO c=-1:=by
   simp only[zt,List.not_mem_nil,or_false,not_or] at h;unfold cO gI;rw[show(decide (48<=c)&&decide (c<=57))=false by
    rw[Bool.and_eq_false_iff];by_cases h4:48<=c
    ·exact .inr (zn om)
    ·exact .inl (zn h4),show(decide (97<=c)&&decide (c<=102))=false by
    rw[Bool.and_eq_false_iff];by_cases h4:97<=c
    ·exact .inr (zn om)
    ·exact .inl (zn h4)]
   rfl
  omega
theorem qz6(c:Int):cO c<=15:=by
 unfold cO gI;cases h:(decide (48<=c)&&decide (c<=57)) with
 |true=>simp only[zd,decide_eq_true_eq] at h;rw[cond_true];omega
 |false=>
  rw[cond_false];cases h2:(decide (97<=c)&&decide (c<=102)) with
  |true=>simp only[zd,decide_eq_true_eq] at h2;rw[cond_true];omega
  |false=>rw[cond_false];omega
theorem aac:∀x y:Fin 16,dU .u8 (oP .i64 ((x.val:Int)*16) (y.val:Int))=16*(x.val:Int)+(y.val:Int):=dc
theorem zay{x y:Int}(h1:0<=x)(h2:x<=15)(h3:0<=y)(h4:y<=15):dU .u8 (oP .i64 (x*16) y)=16*x+y:=by obtain⟨a,rfl⟩:=Int.eq_ofNat_of_zero_le h1;obtain⟨b,rfl⟩:=Int.eq_ofNat_of_zero_le h3;exact aac ⟨a,by omega⟩ ⟨b,by omega⟩
theorem sh4{x:Int}(h1:0<=x)(h2:x<=15):fZ .i64 x 4=some (x*16):=by have:=z1d (a:=x) 4 dc om om;exact this
abbrev QS:=Y1×Int×(Sl Int)×Unit
def fiQ(r:Unit⊕iH):Option iH:=bT (fun _=>some (([]:Y1),0,())) r
theorem qq1(s:Tx)(hs:s.length<=900000000):∀(m i:Nat) (q:Bool) (b:Tx),s.length-i<=m->b.length<=i->i<=s.length->ag (aM dO (s,(i:Int),⟨q,b⟩,())) fiQ=some ((qt (s.drop i) b i).1,((qt (s.drop i) b i).2:Int),()):=by
 intro m
 induction m using Nat.strongRecOn with
 |_ m ih=>
  intro i q b hm hb hi;by_cases ht:i<s.length
  ·have hd:=jk ht;have he:(i:Int)<ae s:=by show(i:Int)<((s.length:Nat):Int);omega
   have hk:=bR (ze ht);have hg:∀x:Int,fit (aW (ae b) (ae [x]))=some ():=fun x=>fm (by
    show((b.length:Nat):Int)+((1:Nat):Int)<=_;omega)
   rw[hd];generalize hc:s[i]=c;rw[hc] at hk;have hu:∀{l:Tx},dO (s,(i:Int),⟨q,b⟩,())=some (.inr (.inr ([],0,())))->qt (c::l) b i=([],0)->ag (aM dO (s,(i:Int),⟨q,b⟩,())) fiQ=some ((qt (c::l) b i).1,((qt (c::l) b i).2:Int),()):=by intro l h1 h2;rw[bX h1,h2];rfl
   by_cases hf:c=34
   ·have step:dO (s,(i:Int),⟨q,b⟩,())=some (.inr (.inr (b,((i+1:Nat):Int),()))):=by unfold dO;simp only;rw[cd,if_pos he,hk,af,rB,if_pos hf,af,aO om];rfl
    rw[bX step];unfold qt;rw[if_pos hf];rfl
   ·by_cases hr:c<32\/126<c
    ·have step:dO (s,(i:Int),⟨q,b⟩,())=some (.inr (.inr ([],0,()))):=by
      unfold dO;simp only;rw[cd,if_pos he,hk,af,rB,if_neg hf,cd];by_cases h1:c<32
      ·rw[if_pos h1];rfl
      ·rw[if_neg h1];have e:aE 126 c=true:=zo om;rw[e];rfl
     refine hu step ?_;unfold qt;rw[if_neg hf,if_pos hr]
    ·have e1:aE 126 c=false:=zn om;have e0:∀(x:Option Bool),aq (aE c 32) x (some (aE 126 c))=some false:=fun x=>by rw[cd,if_neg om,e1]
     by_cases hn:c=92
     ·by_cases ho:i+1<s.length
      ·have hB:=jk ho;have hj:=bR (ze ho);have hC:ak (aA .i64 (i:Int) 1) (ae s)=false:=eP (by
        rw[aO om];show((i+1:Nat):Int)≠((s.length:Nat):Int);omega)
       rw[hB];generalize hF:s[i+1]=e at hj ⊢;have base:dO (s,(i:Int),⟨q,b⟩,())=ag (ag (aq (ak e 34) (some (s,((i+1:Nat):Int),e,ak e 34,(⟨q,b⟩:Sl Int),())) (some (s,((i+1:Nat):Int),e,ak e 92,(⟨q,b⟩:Sl Int),()))) (fun x5=>ag (aq x5.2.2.2.1 (ag (bA x5.1 x5.2.1) (fun x6=>ag (fit (aW (ae x5.2.2.2.2.1.l) (ae ([x6]:Y1)))) (fun _=>some (Sum.inl (x5.1,x5.2.1,(⟨aD x5.2.2.2.2.1.nil (ch ([x6]:Y1)),app x5.2.2.2.2.1.l ([x6]:Y1)⟩:Sl Int),()))))) (ag (aq (ak x5.2.2.1 110) (ag (fit (aW (ae x5.2.2.2.2.1.l) (ae ([10]:Y1)))) (fun _=>some (Sum.inl (x5.1,x5.2.1,(⟨aD x5.2.2.2.2.1.nil (ch ([10]:Y1)),app x5.2.2.2.2.1.l ([10]:Y1)⟩:Sl Int),())))) (aq (ak x5.2.2.1 120) (aq (bJ (ae x5.1) (aA .i64 x5.2.1 2)) (some (Sum.inr (Sum.inr (Sum.inr (Sum.inr (Sum.inr (([]:Y1),(0:Int),()))))))) (ag (bA x5.1 (aA .i64 x5.2.1 1)) (fun x9=>ag (mj (s4,x9,())) (fun ku=>ag (bA x5.1 (aA .i64 x5.2.1 2)) (fun nk=>ag (mj (s4,nk,())) (fun lG=>ag (aq (aE ku.1 0) (some true) (some (aE lG.1 0))) (fun fi=>aq fi (some (Sum.inr (Sum.inr (Sum.inr (Sum.inr (Sum.inr (([]:Y1),(0:Int),()))))))) (ag (fZ .i64 ku.1 4) (fun kr=>ag (fit (aW (ae x5.2.2.2.2.1.l) (ae ([dU .u8 (oP .i64 kr lG.1)]:Y1)))) (fun _=>some (Sum.inl (x5.1,aA .i64 x5.2.1 2,(⟨aD x5.2.2.2.2.1.nil (ch ([dU .u8 (oP .i64 kr lG.1)]:Y1)),app x5.2.2.2.2.1.l ([dU .u8 (oP .i64 kr lG.1)]:Y1)⟩:Sl Int),())))))))))))) (some (Sum.inr (Sum.inr (Sum.inr (Sum.inr (Sum.inr (([]:Y1),(0:Int),()))))))))) (bT (fun(Gd:QS)=>some (Sum.inl (Gd.1,Gd.2.1,Gd.2.2.1,())))))) (bT (fun(wS:QS)=>some (Sum.inl (wS.1,wS.2.1,wS.2.2.1,())))))) (bT (fun(jQ:QS)=>some (Sum.inl (jQ.1,aA .i64 jQ.2.1 1,jQ.2.2.1,())))):=by unfold dO;simp only;rw[cd,if_pos he,hk,af,rB,if_neg hf,e0,af,aH,wE,rB,if_pos hn,hC,aH,aO om,hj,af]
       have fin:∀(v:Int) (j:Nat) (l:Tx),s.drop j=l->i+1<=j->j<=s.length->dO (s,(i:Int),⟨q,b⟩,())=some (.inl (s,(j:Int),⟨aD q (ch [v]),b++[v]⟩,()))->
         ag (aM dO (s,(i:Int),⟨q,b⟩,())) fiQ=some ((qt l (b++[v]) j).1,((qt l (b++[v]) j).2:Int),()):=by
        intro v j l hl h1 h2 h3;rw[dC h3,<-hl];exact ih (s.length-j) om j _ (b++[v]) (Nat.le_refl _) (by rw[zh,List.length_singleton];omega) h2
       have q0:qt (c::e::s.drop (i+1+1)) b i=if e=34\/e=92 then qt (s.drop (i+1+1)) (b++[e]) (i+2) else
         if e=110 then qt (s.drop (i+1+1)) (b++[10]) (i+2) else
         if e=120 then match s.drop (i+1+1) with
          |x::y::l3=>if cO x<0\/cO y<0 then([],0) else qt l3 (b++[16*cO x+cO y]) (i+4)
          |_=>([],0)
         else([],0):=by
        conv=>lhs;unfold qt
        rw[if_neg hf,if_neg hr,if_neg (fun h=>h hn)];rfl
       have a2:aA .i64 ((i+1:Nat):Int) 1=((i+2:Nat):Int):=aO om;by_cases Qq:e=34\/e=92
       ·have hq:(aq (ak e 34) (some (s,((i+1:Nat):Int),e,ak e 34,(⟨q,b⟩:Sl Int),())) (some (s,((i+1:Nat):Int),e,ak e 92,(⟨q,b⟩:Sl Int),())))=some (s,((i+1:Nat):Int),e,true,(⟨q,b⟩:Sl Int),()):=by rcases Qq with rfl|rfl<;>rfl
        rw[hq,af] at base;simp only[aP,hj,af,hg] at base;rw[q0,if_pos Qq];refine fin e (i+2) _ rfl om ho ?_;rw[base];show some (Sum.inl (s,aA .i64 ((i+1:Nat):Int) 1,_,()))=_;rw[a2];rfl
       ·have hq:(aq (ak e 34) (some (s,((i+1:Nat):Int),e,ak e 34,(⟨q,b⟩:Sl Int),())) (some (s,((i+1:Nat):Int),e,ak e 92,(⟨q,b⟩:Sl Int),())))=some (s,((i+1:Nat):Int),e,false,(⟨q,b⟩:Sl Int),()):=by rw[eP (fun h=>Qq (.inl h)),eP (fun h=>Qq (.inr h))];rfl
        rw[hq,af] at base;simp only[aH] at base;rw[q0,if_neg Qq];by_cases Ge:e=110
        ·rw[if_pos Ge];rw[Ge,fY,aP,hg,af,af] at base;refine fin 10 (i+2) _ rfl om ho ?_;rw[base];show some (Sum.inl (s,aA .i64 ((i+1:Nat):Int) 1,_,()))=_;rw[a2];rfl
        ·rw[if_neg Ge];rw[eP Ge,aH] at base;by_cases Gf:e=120
         ·rw[if_pos Gf];rw[Gf,fY,aP,S9] at base;have a3:aA .i64 ((i+1:Nat):Int) 2=((i+3:Nat):Int):=by rw[tH om om];omega
          rw[a3,a2] at base;by_cases hG:i+3<s.length
          ·have hx:i+1+1<s.length:=om
           have hy:i+1+1+1<s.length:=om
           have hw:=bR (i:=i+2) (ze hx);have hz:=bR (i:=i+3) (ze hy);rw[jk hx,jk hy];generalize s[i+1+1]=x at hw ⊢;generalize s[i+1+1+1]=y at hz ⊢;rw[if_neg (show ¬ae s<=((i+3:Nat):Int) by show ¬((s.length:Nat):Int)<=_;omega),hw,af,I8,af,hz,af,I8,af,z4u,z4u] at base;show _=some ((if cO x<0\/cO y<0 then(([]:Tx),0) else qt (s.drop (i+1+1+1+1)) (b++[16*cO x+cO y]) (i+4)).1,((if cO x<0\/cO y<0 then(([]:Tx),0) else qt (s.drop (i+1+1+1+1)) (b++[16*cO x+cO y]) (i+4)).2:Int),());by_cases hh:cO x<0\/cO y<0
           ·rw[if_pos hh];have hv:aq (aE (cO x) 0) (some true) (some (aE (cO y) 0))=some true:=by
             rw[cd];by_cases h1:cO x<0
             ·rw[if_pos h1]
             ·rw[if_neg h1];have:aE (cO y) 0=true:=zo om;rw[this]
            rw[hv,af,aP] at base;rw[bX base];rfl
           ·rw[if_neg hh];have hv:aq (aE (cO x) 0) (some true) (some (aE (cO y) 0))=some false:=by rw[cd,if_neg om];have:aE (cO y) 0=false:=zn om;rw[this]
            have hA:=qz6 x;have hD:=qz6 y;rw[hv,af,aH,sh4 om hA,af,zay om hA om hD,hg,af] at base;refine fin (16*cO x+cO y) (i+4) _ rfl om om ?_;rw[base];show some (Sum.inl (s,aA .i64 ((i+3:Nat):Int) 1,_,()))=_;rw[show aA .i64 ((i+3:Nat):Int) 1=((i+4:Nat):Int) from aO om];rfl
          ·rw[if_pos (show ae s<=((i+3:Nat):Int) by show((s.length:Nat):Int)<=_;omega)] at base;have hE:(s.drop (i+1+1)).length<=1:=by rw[zD];omega
           rw[bX base]
           match s.drop (i+1+1),hE with
           |[],_=>rfl
           |[x],_=>rfl
         ·rw[if_neg Gf];rw[eP Gf,aH] at base;rw[bX base];rfl
      ·have step:dO (s,(i:Int),⟨q,b⟩,())=some (.inr (.inl ())):=by unfold dO;simp only;rw[cd,if_pos he,hk,af,rB,if_neg hf,e0,af,aH,wE,rB,if_pos hn,aO om,rB,if_pos (show((i+1:Nat):Int)=ae s by show((i+1:Nat):Int)=((s.length:Nat):Int);omega)];rfl
       rw[bX step,zw om];unfold qt;rw[if_neg hf,if_neg hr,if_neg (fun h=>h hn)];rfl
     ·have step:dO (s,(i:Int),⟨q,b⟩,())=some (.inl (s,((i+1:Nat):Int),⟨aD q (ch [c]),b++[c]⟩,())):=by unfold dO;simp only;rw[cd,if_pos he,hk,af,rB,if_neg hf,e0,af,aH,wE,rB,if_neg hn,hg,af,af];show some (Sum.inl (s,aA .i64 (i:Int) 1,_,()))=_;rw[aO om];rfl
      rw[dC step];unfold qt;rw[if_neg hf,if_neg hr,if_pos hn];exact ih (s.length-(i+1)) om (i+1) _ (b++[c]) (Nat.le_refl _) (by rw[zh,List.length_singleton];omega) ht
  ·have step:dO (s,(i:Int),⟨q,b⟩,())=some (.inr (.inl ())):=by unfold dO;simp only;rw[cd,if_neg (show ¬(i:Int)<ae s by show ¬(i:Int)<((s.length:Nat):Int);omega)]
   rw[bX step,zw om];rfl
theorem qq2(s:Tx)(hs:s.length<=900000000)(h:1<=s.length):vz (s,())=some ((qt (s.drop 1) [] 1).1,((qt (s.drop 1) [] 1).2:Int),()):=by rw[Zc];exact qq1 s hs s.length 1 true [] om (Nat.zero_le _) h
noncomputable abbrev jm:=one fh fM oM kC
theorem z2t(s:Tx)(hb:∀b,b∈s->0<=b/\b<=255)(hs:s.length<=900000000)(hc:s≠[]):px (s,())=some (((jm s).1.1,(jm s).1.2.1,(jm s).1.2.2,0),((jm s).2.1:Int),(jm s).2.2,()):=by
 match s,hc with
 |c::l,_=>
  have ha:bA (c::l) 0=some c:=rfl;rw[Zd,ha,af,Z9,af];simp only;rw[zau _ om,af];simp only;rw[Qp _ _ (uh _ _),af,qdj,af];simp only;rw[af];simp only;rw[Qp _ _ (uh _ _),af,Z6,af];simp only;rw[zav _ om,af];simp only;rw[Qp _ _ (uh _ _),af];simp only;show _=some (((jP fh fM oM kC c l).1.1,(jP fh fM oM kC c l).1.2.1,(jP fh fM oM kC c l).1.2.2,0),((jP fh fM oM kC c l).2.1:Int),(jP fh fM oM kC c l).2.2,());unfold jP;show aq (M3 c) _ _=_;cases h1:M3 c with
  |true=>rfl
  |false=>
  rw[aH,cond_false];show aq (M4 c) _ _=_;cases h2:M4 c with
  |true=>rfl
  |false=>
  rw[aH,cond_false];show aq (fM c) _ _=_;cases h3:fM c with
  |true=>rfl
  |false=>
  rw[aH,cond_false];have k1:=Qp 6 (c::l) (n:=1) (by simp);have k1:nQ (1,6,c::l,())=_:=k1;rw[k1,af];simp only;have d:∀k:Int,ak c k=decide (c=k):=fun k=>by
   by_cases e:c=k
   ·rw[e,fY];exact(zo rfl).symm
   ·rw[eP e];exact(zn e).symm
  have hq:∀K:Bool->Option (Y0×Int×Int×Unit),ag (aq (ak c 40) (some true) (some (ak c 41))) (fun ku=>ag (aq ku (some true) (some (ak c 95))) K)=K (decide (c=40)||(decide (c=41)||decide (c=95))):=by intro K;rw[d,d,d];cases decide (c=40)<;>cases decide (c=41)<;>cases decide (c=95)<;>rfl
  rw[hq];cases h4:(decide (c=40)||(decide (c=41)||decide (c=95))) with
  |true=>rfl
  |false=>
  rw[aH,cond_false];have hp:sL (c::l,[59,59],())=some (decide (c=59)&&decide (l.head?=some 59),()):=by
   rw[YY,Ph];cases l with
   |nil=>have e:bJ (ae ([59,59]:Tx)) (ae [c])=false:=rfl;rw[e];cases decide (c=59)<;>rfl
   |cons e l2=>
    have e1:bJ (ae ([59,59]:Tx)) (ae (c::e::l2))=true:=zo (by
     show((2:Nat):Int)<=(((c::e::l2).length:Nat):Int);simp only[zf];omega)
    have e2:cg (c::e::l2) 0 (ae ([59,59]:Tx))=some [c,e]:=Hj (k:=2) (by simp only[zf];omega);rw[e1,aP,e2,af,af,af];have hh:decide ((e::l2).head?=some 59)=decide (e=59):=decide_eq_decide.2 (by simp);rw[hh];congr 2;unfold bx;rw[Bool.eq_iff_iff,beq_iff_eq,zd,decide_eq_true_eq,decide_eq_true_eq];simp
  rw[hp,af];simp only;cases h5:(decide (c=59)&&decide (l.head?=some 59)) with
  |true=>
   have hd:2<=(c::l).length:=by
    cases l with
    |nil=>simp at h5
    |cons e l2=>simp only[zf];omega
   have k2:=Qp 6 (c::l) hd;have k2:nQ (2,6,c::l,())=_:=k2;rw[k2,af];rfl
  |false=>
  rw[aH,cond_false,qdk,af];simp only;have he:∀K:Bool->Option (Y0×Int×Int×Unit),ag (aq (Cl c) (some true) (some (ak c 126))) K=K (gI c||decide (c=126)):=by intro K;rw[d];show ag (aq (gI c) _ _) K=_;cases gI c<;>rfl
  rw[he];cases h6:(gI c||decide (c=126)) with
  |true=>
   rw[aP,cond_true];have hf:cg (c::l) 1 (ae (c::l))=some l:=by unfold cg ae;rw[if_pos (by simp only[zf];omega)];simp
   have hj:l.length<=900000000:=by simp only[zf] at hs;omega
   rw[hf,af,zaw l om,af];simp only;have hk:=uh gI l;have hg:aA .i64 1 ((cZ gI l:Nat):Int)=((1+cZ gI l:Nat):Int):=by rw[tH om om];omega
   rw[hg,Hj (by simp only[zf];omega),af];obtain⟨r1,r2⟩:=qz5 ((c::l).take (1+cZ gI l)) (fun b h=>hb b (List.mem_of_mem_take h)) (by rw[zJ];omega);rw[r1,af];simp only;have e:ak (kC ((c::l).take (1+cZ gI l))).2 0=decide ((kC ((c::l).take (1+cZ gI l))).2=0):=by
    by_cases e:(kC ((c::l).take (1+cZ gI l))).2=0
    ·rw[e];rfl
    ·rw[eP e];exact(zn e).symm
   rw[wE,e];cases decide ((kC ((c::l).take (1+cZ gI l))).2=0)<;>rfl
  |false=>
  rw[aH,cond_false,d];cases h7:decide (c=34) with
  |false=>rfl
  |true=>
   rw[aP,cond_true,qq2 _ om (by simp),af];simp only[List.drop_succ_cons,List.drop_zero];have e1:ak ((qt l [] 1).2:Int) 0=decide ((qt l [] 1).2=0):=by
    by_cases e:(qt l [] 1).2=0
    ·rw[e];rfl
    ·rw[eP om];exact(zn e).symm
   have e2:aE 200 (ae (qt l [] 1).1)=decide (200<(qt l [] 1).1.length):=decide_eq_decide.2 (by
    show(200:Int)<(((qt l [] 1).1.length:Nat):Int)↔_;omega)
   rw[e1,e2];cases decide ((qt l [] 1).2=0)<;>cases decide (200<(qt l [] 1).1.length)<;>rfl
open Pz
theorem Ls:Ga fh fM where
 qK c h:=by
  unfold fh;rcases h with h|h
  ·have h:oJ c=true:=h;rw[h];rfl
  ·have h:my c=true:=h;rw[h];cases oJ c<;>rfl
 i10:=dc
 s10:=dc
noncomputable abbrev dT:=dG fh fM oM kC
theorem qz7:∀l:Tx,Pz.blank true l=cZ iJ l+Pz.blank false (l.drop (cZ iJ l))
 |[]=>rfl
 |c::l=>by
  by_cases h:c=10
  ·subst h;have e:cZ iJ (10::l)=0:=rfl;rw[e,List.drop_zero,zO];rfl
  ·have e:cZ iJ (c::l)=cZ iJ l+1:=by
    conv=>lhs;unfold cZ
    have:iJ c=true:=by unfold iJ ai;rw[eP h];rfl
    rw[this,cond_true]
   rw[e,List.drop_succ_cons]
   conv=>lhs;unfold Pz.blank
   rw[if_neg h,qz7 l];omega
theorem qz8{c:Int}(l:Tx)(h:c=32\/c=10):Pz.blank false ([c]++l)=1+Pz.blank false l:=by
 show Pz.blank false (c::l)=_
 conv=>lhs;unfold Pz.blank
 rw[if_pos h];omega
theorem z7t(l:Tx):Pz.blank false (35::l)=cZ iJ (35::l)+Pz.blank false ((35::l).drop (cZ iJ (35::l))):=by
 have e:cZ iJ (35::l)=cZ iJ l+1:=rfl
 conv=>lhs;unfold Pz.blank
 rw[if_neg dc,if_pos rfl,qz7 l,e,List.drop_succ_cons];omega
theorem z7u{c:Int}(l:Tx)(h:¬(c=32\/c=10))(h2:c≠35):Pz.blank false (c::l)=0:=by unfold Pz.blank;rw[if_neg h,if_neg h2]
def Qr(acc:List Tk)(b:Bool)(r:PR (List Tk)):rF:=match r with
 |.ok l=>(⟨b,acc++l⟩,0,0,())
 |.error e=>(⟨true,[]⟩,e.1,e.2,())
def wT(n r:Nat)(x:PR (List Tk)):Prop:=n+r<=4000\/∃l,x=.ok l/\n+l.length<=4000
theorem wT.le{n r:Nat}{x:PR (List Tk)}(h:wT n r x):n<=4000:=by rcases h with h|⟨l,_,h⟩<;>omega
theorem wT.mono{n r r':Nat}{x:PR (List Tk)}(h:wT n r x)(hr:r'<=r):wT n r' x:=by
 rcases h with h|h
 ·exact .inl om
 ·exact .inr h
theorem wT.lt{n r:Nat}{x:PR (List Tk)}{t:Tk}(h:wT n (r+1) (eb x fun l=>.ok (t::l))):n<4000/\wT (n+1) r x:=by
 rcases h with h|⟨l,h1,h2⟩
 ·exact⟨by omega,.inl om⟩
 ·obtain⟨l',e1,e2⟩:=eI h1;injection e2 with e2;subst e2;rw[zf] at h2;exact⟨by omega,.inr ⟨l',e1,by omega⟩⟩
theorem z2u(s:Tx)(hs:s.length<=900000000)(hb:∀x,x∈s->0<=x/\x<=255):∀(m i:Nat) (q:Bool) (acc:List Tk),s.length-i<=m->i<=s.length->wT acc.length (s.length-i) (dT (s.length-i+1) (s.drop i) (i:Int))->∃b,aM fB (s,(i:Int),⟨q,acc⟩,())=some (Qr acc b (dT (s.length-i+1) (s.drop i) (i:Int))):=by
 intro m
 induction m using Nat.strongRecOn with
 |_ m ih=>
  intro i q acc hm hi hg;by_cases hC:i<s.length
  ·have hd:=jk hC;have hj:aE (i:Int) (ae s)=true:=zo (show(i:Int)<((s.length:Nat):Int) by omega);have hq:=bR (ze hC);have hu:cg s (i:Int) (ae s)=some (s.drop i):=by unfold cg ae;rw[if_pos om];simp
   have hF:ak (i:Int) (ae s)=false:=eP (show(i:Int)≠((s.length:Nat):Int) by omega);have hG:(s.drop i).length=s.length-i:=zD;generalize hc:s[i]=c at hq hd;have e2:aq (ak c 32) (some true) (ag (some c) (fun x3=>some (ak x3 10)))=some (decide (c=32)||decide (c=10)):=by
    rw[af,rB];by_cases h1:c=32
    ·rw[if_pos h1,zo h1];rfl
    ·rw[if_neg h1,zn h1];by_cases h2:c=10
     ·subst h2;rfl
     ·rw[eP h2,zn h2];rfl
   by_cases hv:c=32\/c=10
   ·have step:jh (s,(i:Int),⟨q,acc⟩,())=some (.inl (s,((i+1:Nat):Int),⟨q,acc⟩,())):=by
     unfold jh;simp only;rw[hj,aP]
     conv=>lhs;arg 1;rw[hq,af]
     rw[e2,af];have:(decide (c=32)||decide (c=10))=true:=by rcases hv with h|h<;>rw[h]<;>rfl
     rw[this,aP,aO om]
    have ho:fB (s,(i:Int),⟨q,acc⟩,())=fB (s,((i+1:Nat):Int),⟨q,acc⟩,()):=by unfold fB;exact dC step
    have hk:dT (s.length-i+1) (s.drop i) (i:Int)=dT (s.length-(i+1)+1) (s.drop (i+1)) ((i+1:Nat):Int):=by rw[hd];have:=Ue (inn:=fh) (sgn:=fM) (keyw:=oM) (rd:=kC) (s.length-i) [c] (s.drop (i+1)) (i:Int) (qz8 _ hv);refine Eq.trans this ?_;rw[Qj Ls (s.drop (i+1)).length (s.drop (i+1)) (Nat.le_refl _) (s.length-i+1) (s.length-(i+1)+1) _ (by rw[zD];omega) (by rw[zD];omega)];rfl
    rw[hk] at hg;obtain⟨b,hw⟩:=ih (s.length-(i+1)) om (i+1) q acc (Nat.le_refl _) om (hg.mono om);refine⟨b,?_⟩;rw[S8,ho,<-S8,hw,hk]
   ·have nb:(decide (c=32)||decide (c=10))=false:=by rw[zn (fun h=>hv (.inl h)),zn (fun h=>hv (.inr h))];rfl
    by_cases hA:c=35
    ·subst hA;have hM:=uh iJ (s.drop i);have hH:1<=cZ iJ (s.drop i):=by rw[hd];exact Uc rfl
     have step:jh (s,(i:Int),⟨q,acc⟩,())=some (.inr (.inl (s,((i+cZ iJ (s.drop i):Nat):Int),⟨q,acc⟩,()))):=by
      unfold jh;simp only;rw[hj,aP]
      conv=>lhs;arg 1;rw[hq,af]
      rw[e2,af,nb,aH,aP,hq,af,af];have e35:ak 35 35=true:=rfl;rw[e35,aP,hu,af,zax _ om,af];simp only;rw[tH om om];congr 4
     have ho:fB (s,(i:Int),⟨q,acc⟩,())=some (.inl (s,((i+cZ iJ (s.drop i):Nat):Int),⟨q,acc⟩,())):=by unfold fB;exact bX step
     have hk:dT (s.length-i+1) (s.drop i) (i:Int)=dT (s.length-(i+cZ iJ (s.drop i))+1) (s.drop (i+cZ iJ (s.drop i))) ((i+cZ iJ (s.drop i):Nat):Int):=by
      have hI:Pz.blank false (s.drop i)=cZ iJ (s.drop i)+Pz.blank false ((s.drop i).drop (cZ iJ (s.drop i))):=by rw[hd];exact z7t _
      have hD:((s.drop i).take (cZ iJ (s.drop i))).length=cZ iJ (s.drop i):=by rw[zJ];omega
      have:=Ue (inn:=fh) (sgn:=fM) (keyw:=oM) (rd:=kC) (s.length-i) ((s.drop i).take (cZ iJ (s.drop i))) ((s.drop i).drop (cZ iJ (s.drop i))) (i:Int) (by rw[List.take_append_drop,hD];exact hI);rw[List.take_append_drop,hD] at this;refine Eq.trans this ?_;rw[List.drop_drop,Qj Ls (s.drop (i+cZ iJ (s.drop i))).length _ (Nat.le_refl _) (s.length-i+1) (s.length-(i+cZ iJ (s.drop i))+1) _ (by rw[zD];omega) (by rw[zD];omega)];rfl
     rw[hk] at hg;obtain⟨b,hw⟩:=ih (s.length-(i+cZ iJ (s.drop i))) om (i+cZ iJ (s.drop i)) q acc (Nat.le_refl _) om (hg.mono om);refine⟨b,?_⟩;rw[dC ho,hw,hk]
    ·have hJ:Pz.blank false (s.drop i)=0:=by rw[hd];exact z7u _ hv hA
     have hy:s.drop i≠[]:=by rw[hd];simp
     have hz:=z2t (s.drop i) (fun x hx=>hb x (List.mem_of_mem_drop hx)) om hy;have hE:(jm (s.drop i)).2.2=0->1<=(jm (s.drop i)).2.1/\(jm (s.drop i)).2.1<=(s.drop i).length:=Ud Ls (s.drop i);have hN:acc.length<=4000:=hg.le;have hB:∀x:Tk,fit (aW (ae acc) (ae [x]))=some ():=fun x=>fm (by
      show((acc.length:Nat):Int)+((1:Nat):Int)<=_;omega)
     have ht:dT (s.length-i+1) (s.drop i) (i:Int)=if(jm (s.drop i)).2.2≠0 then .error ((i:Int)+(0:Nat),(jm (s.drop i)).2.2) else
       eb (dT (s.length-i) ((s.drop i).drop (jm (s.drop i)).2.1) ((i:Int)+(0:Nat)+(jm (s.drop i)).2.1)) fun l=>.ok (BB (jm (s.drop i)).1 ((i:Int)+(0:Nat))::l):=by
      conv=>lhs;unfold dT dG
      rw[hJ,List.drop_zero,if_neg hy]
     generalize jm (s.drop i)=r at hz hE ht;obtain⟨⟨t1,t2,t3⟩,n,e⟩:=r;have ht:dT (s.length-i+1) (s.drop i) (i:Int)=if e≠0 then .error ((i:Int)+(0:Nat),e) else eb (dT (s.length-i) ((s.drop i).drop n) ((i:Int)+(0:Nat)+n)) fun l=>.ok (BB (t1,t2,t3) ((i:Int)+(0:Nat))::l):=ht
     have hl:e=0->acc.length<4000/\wT (acc.length+1) (s.length-i-1) (dT (s.length-i) ((s.drop i).drop n) ((i:Int)+(0:Nat)+n)):=fun he=>by rw[ht,if_neg (fun h=>h he),show s.length-i=s.length-i-1+1 by omega] at hg;rw[show s.length-i=s.length-i-1+1 by omega];exact hg.lt
     have base:jh (s,(i:Int),⟨q,acc⟩,())=aq (ai (ak e 0)) (some (.inr (.inr (⟨true,[]⟩,(i:Int),e,())))) (some (.inr (.inl (s,aA .i64 (i:Int) (n:Int),⟨aD q (ch [(t1,t2,t3,(i:Int))]),acc++[(t1,t2,t3,(i:Int))]⟩,())))):=by
      unfold jh;simp only;rw[hj,aP]
      conv=>lhs;arg 1;rw[hq,af]
      rw[e2,af,nb,aH,aP,hq,af,af,eP hA,aH,hF,aH,hu,af,hz,af];simp only;have hx:aq (ak e 0) (some (ak (ae acc) 4000)) (some false)=some false:=by
       by_cases he:e=0
       ·have hn:acc.length<4000:=(hl he).1;rw[show ak (ae acc) 4000=false from eP (show((acc.length:Nat):Int)≠4000 by omega)];cases ak e 0<;>rfl
       ·rw[eP he];rfl
      rw[hx,af,aH,af];simp only;rw[hB,af];rfl
     by_cases he:e=0
     ·subst he;obtain⟨n1,n2⟩:=hE rfl;rw[hG] at n2;have n2:n<=s.length-i:=n2;have n1:1<=n:=n1;have oa:ai (ak 0 0)=false:=rfl;rw[oa,aH,tH om om] at base;have ho:fB (s,(i:Int),⟨q,acc⟩,())=some (.inl (s,((i+n:Nat):Int),⟨aD q (ch [(t1,t2,t3,(i:Int))]),acc++[(t1,t2,t3,(i:Int))]⟩,())):=by unfold fB;exact bX base
      have hf:∀z,dT (s.length-i) (s.drop (i+n)) z=dT (s.length-(i+n)+1) (s.drop (i+n)) z:=fun z=>Qj Ls (s.drop (i+n)).length _ (Nat.le_refl _) (s.length-i) (s.length-(i+n)+1) z (by rw[zD];omega) (by rw[zD];omega);have ea:(i:Int)+((0:Nat):Int)+(n:Int)=((i+n:Nat):Int):=om
      obtain⟨hO,hl⟩:=hl rfl;rw[List.drop_drop,hf,ea] at hl;obtain⟨b,hw⟩:=ih (s.length-(i+n)) om (i+n) (aD q (ch [(t1,t2,t3,(i:Int))])) (acc++[(t1,t2,t3,(i:Int))]) (Nat.le_refl _) om (by rw[zh,List.length_singleton];exact hl.mono om);refine⟨b,?_⟩;rw[dC ho,hw,ht,if_neg (by simp)];rw[List.drop_drop,hf,ea];have e0:(i:Int)+((0:Nat):Int)=(i:Int):=om
      rw[e0];cases dT (s.length-(i+n)+1) (s.drop (i+n)) ((i+n:Nat):Int) with
      |error e=>rfl
      |ok l=>show some ((⟨b,acc++[(t1,t2,t3,(i:Int))]++l⟩:(Sl Y0)),(0:Int),(0:Int),())=some ((⟨b,acc++(BB (t1,t2,t3) (i:Int)::l)⟩:(Sl Y0)),(0:Int),(0:Int),());rw[zC];rfl
     ·have oa:ai (ak e 0)=true:=by rw[eP he];rfl
      rw[oa,aP] at base;have ho:fB (s,(i:Int),⟨q,acc⟩,())=some (.inr (⟨true,[]⟩,(i:Int),e,())):=by unfold fB;exact bX base
      refine⟨true,?_⟩;rw[bX ho,ht,if_pos he];show some ((⟨true,[]⟩:(Sl Y0)),(i:Int),e,())=some ((⟨true,[]⟩:(Sl Y0)),(i:Int)+((0:Nat):Int),e,());congr 3
  ·have hK:i=s.length:=om
   have hj:aE (i:Int) (ae s)=false:=zn (show ¬(i:Int)<((s.length:Nat):Int) by omega);have hL:ak (i:Int) (ae s)=true:=by rw[hK];exact fY _
   have step:jh (s,(i:Int),⟨q,acc⟩,())=some (.inr (.inr (⟨q,acc⟩,0,0,()))):=by unfold jh;simp only;rw[hj,aH,af,aH,aH,af,aH,hL,aP]
   have ho:fB (s,(i:Int),⟨q,acc⟩,())=some (.inr (⟨q,acc⟩,0,0,())):=by unfold fB;exact bX step
   refine⟨q,?_⟩;rw[bX ho,zw om];show _=some ((⟨q,acc++[]⟩:(Sl Y0)),(0:Int),(0:Int),());rw[zu]
theorem z2v(s:Tx)(hs:s.length<=900000000)(hb:∀x,x∈s->0<=x/\x<=255)(hN:wT 0 s.length (dT (s.length+1) s 0)):∃b,py (s,())=some (Qr [] b (dT (s.length+1) s 0)):=by obtain⟨b,h⟩:=z2u s hs hb s.length 0 true [] om (Nat.zero_le _) (by rw[Nat.sub_zero,List.drop_zero];exact hN);refine⟨b,?_⟩;rw[Ze];rw[Nat.sub_zero,List.drop_zero] at h;exact h
open Pz
def ot(F:List ay)(toks:List Tk)(e:Int):PC:=⟨toks,e,Lr F,vX F⟩
noncomputable def lH(t:List ND):Int:=match im (⟨true,t⟩,()) with
 |some x=>x.1
 |none=>0
noncomputable def tokR(F:List ay)(l:List Tk)(e:Int):List ND×Int×Int:=match lE (ot F l e) with
 |.error q=>([],q.1,q.2)
 |.ok t=>if lH t≠0 then([],0,74) else(t,0,0)
noncomputable def full(F:List ay)(s:Tx):List ND×Int×Int:=
 if eH F≠0 then([],0,eH F) else match dT (s.length+1) s 0 with
 |.error e=>([],e.1,e.2)
 |.ok l=>tokR F l (s.length:Int)
def QB(t:Tx):Prop:=(∀b,b∈t->0<=b/\b<=255)/\t.length<=1000000
theorem z4v{t:List ND}(hl:t.length<=4000)(hg:GL t)(b:Bool):im (⟨b,t⟩,())=some (lH t,()):=by
 have h:∃er,∀b,im (⟨b,t⟩,())=some (er,()):=by
  rcases z73 t with h|⟨kd,x,n,ks,rfl⟩
  ·exact⟨60,fun b=>qj9 b t hl h⟩
  ·have e:(tr kd x n ks).flat.length=ks.size+1:=by rw[F.len];rfl
   exact⟨_,fun b=>qud b kd x n ks om hg⟩
 obtain⟨er,h⟩:=h;have h1:=h true;unfold lH;rw[h1,h b]
theorem z2w(s:Tx)(hs:s.length<=1000)(hb:∀x,x∈s->0<=x/\x<=255):OkL lA 0 s.length (dT (s.length+1) s 0):=z4p (N:=lA) Ls ⟨by decide,by decide⟩ 1000 (fun t h1 h2=>(qz5 t h1 om).2) _ s 0 hs hb
theorem z7v{F:Y3}(hg:gL F.l)(hz:eH F.l=0)(toks:List Tk)(e:Int):mI (ot F.l toks e) F:=⟨hg,hz,rfl,rfl⟩
end Fn
end Ev