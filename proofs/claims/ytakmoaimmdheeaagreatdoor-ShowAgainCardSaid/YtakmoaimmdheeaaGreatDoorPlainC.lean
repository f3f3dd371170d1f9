/- The parser does what the plain words say. No statement of its own about the program. -/
import Derived.Test.YtakmoaimmdheeaaGreatDoorPlainB
namespace Ev
open Go
namespace Fn
open Pz
theorem qm4(n:Bool)(l:List (List Int))(s:List Int)(hl:l.length<=1000000):pJ (⟨n,l⟩,s,())=some (decide (s∈l),()):=by obtain⟨r,h1,h2⟩:=qk8 s n l hl l.length 0 om;rw[List.drop_zero] at h2;have h1:aX lR (⟨n,l⟩,s,ae l,0,())=some (r,()):=h1;rw[Kh,Kg,h1,af];have:cK 0 r=decide (s∈l):=decide_eq_decide.2 (by rw[h2]);rw[this]
section
variable (nb:Bool) (c:PC) (F:Y1)
abbrev S(a d w k:Int):Y5:=(⟨nb,c.l⟩,c.e,F,a,d,w,k,())
variable {nb c F}
theorem lZ{a:Int}{i j:Nat}(h:aG .i64 (i:Int) a=(j:Int))(k d w:Int):dM (a,k,⟨true,[]⟩,S nb c F (i:Int) d w 0)=some (aW c j k,S nb c F (i:Int) d w 0):=by
 rw[Ff,h];simp only;rw[iY,aU,af,bP];unfold aW;by_cases hj:j<c.l.length
 ·have hl:(j:Int)<ae c.l:=by show(j:Int)<(c.l.length:Int);omega
  have hg:=zg hj;rw[if_pos hl,dG hg,hg,af,af];have e:ag c.l[j].1 k=decide (c.l[j].1=k):=by
   by_cases e:c.l[j].1=k
   ·rw[e,iY];exact(zu rfl).symm
   ·rw[dx e];exact(zn e).symm
  rw[e];show _=some (decide (c.l[j].1=k),S nb c F (i:Int) d w 0);cases decide (c.l[j].1=k)<;>rfl
 ·have hl:¬(j:Int)<ae c.l:=by show ¬(j:Int)<(c.l.length:Int);omega
  rw[if_neg hl,zV om];rfl
theorem mW{i:Nat}(h:i<=1000000){ks:List Tx}(hk:ks≠[])(hl:ks.length<=1000)(d w:Int):dM (0,6,⟨false,ks⟩,S nb c F (i:Int) d w 0)=some (ct c i ks,S nb c F (i:Int) d w 0):=by
 have h0:aG .i64 (i:Int) 0=(i:Int):=by rw[pD om om];omega
 have he:ag (ae ks) 0=false:=dx (by
  show((ks.length:Nat):Int)≠0;have:=List.length_pos_iff.2 hk;omega)
 rw[Ff,h0];simp only;rw[iY,aU,af,bP,he,aD];unfold ct;by_cases hj:i<c.l.length
 ·have hc:(i:Int)<ae c.l:=by show(i:Int)<(c.l.length:Int);omega
  have hg:=zg hj;rw[if_pos hc,dG hg,hg,af,af,af,qm4 _ _ _ om,af];have e:ag c.l[i].1 6=decide (c.l[i].1=6):=by
   by_cases e:c.l[i].1=6
   ·rw[e,iY];rfl
   ·rw[dx e];exact(zn e).symm
  rw[e];show _=some (decide (c.l[i].1=6)&&decide (c.l[i].2.1∈ks),S nb c F (i:Int) d w 0);cases decide (c.l[i].1=6)<;>rfl
 ·have hc:¬(i:Int)<ae c.l:=by show ¬(i:Int)<(c.l.length:Int);omega
  rw[if_neg hc,zV om];rfl
theorem qH{er:Int}(he:er≠0)(a k:Int)(ks:Sl Tx)(i d w:Int):dM (a,k,ks,S nb c F i d w er)=some (false,S nb c F i d w er):=by rw[Ff,dx he];rfl
theorem yO{a:Int}(h:0<=a)(i d w er:Int):gB (a,S nb c F i d w er)=some (jB c a.toNat,S nb c F i d w er):=by
 obtain⟨j,rfl⟩:=Int.eq_ofNat_of_zero_le h;rw[Tu];simp only;rw[bP,Int.toNat_natCast];unfold jB;by_cases hj:j<c.l.length
 ·have hg:=zg hj;rw[if_pos (by show(j:Int)<(c.l.length:Int);omega),dG hg,hg,af]
 ·rw[if_neg (by show ¬(j:Int)<(c.l.length:Int);omega),zV om]
theorem DW(x k i d w:Int):gf (x,k,S nb c F i d w 0)=some (⟨true,[]⟩,S nb c F i d x k):=by rw[Kp,iY];rfl
theorem z5q{er:Int}(he:er≠0)(x k i d w:Int):gf (x,k,S nb c F i d w er)=some (⟨true,[]⟩,S nb c F i d w er):=by rw[Kp,dx he];rfl
theorem zch{a:Int}(h:0<=a)(h2:a<=1000000):aG .i64 a 1=a+1:=pD om om
theorem oK{i:Nat}(h:i<=1000000):aG .i64 (i:Int) 0=(i:Int):=by rw[pD om om];omega
theorem Cz{i:Nat}{k:Int}{ks:List Tx}(h:aW c i k=true\/ct c i ks=true)(hi:c.l.length<=1000000)(d w er:Int):gh (S nb c F (i:Int) d w er)=some (((c.l[i]?).getD (0,[],0,0)),S nb c F ((i+1:Nat):Int) d w er):=by
 have hc:i<c.l.length:=h.elim sH AK;have hg:=zg hc;rw[Tv];simp only;have e:bU .i64 (aG .i64 (i:Int) 1) 1=(i:Int):=by rw[pD om om,nv om om];omega
 rw[e,dG hg,af,hg,bK om];rfl
theorem DX(i:Nat):((c.l[i]?).getD (0,[],0,0)).2.1=dN c i:=by unfold dN;cases c.l[i]?<;>rfl
theorem qzg(i:Nat):((c.l[i]?).getD (0,[],0,0)).2.2.1=num c i:=by unfold num;cases c.l[i]?<;>rfl
theorem Og{i:Nat}(k:Int)(hi:i<c.l.length):ag ((c.l[i]?).getD (0,[],0,0)).1 k=aW c i k:=by
 unfold aW;rw[zg hi];show ag c.l[i].1 k=decide (c.l[i].1=k);by_cases e:c.l[i].1=k
 ·rw[e,iY];exact(zu rfl).symm
 ·rw[dx e];exact(zn e).symm
theorem zat{i:Nat}(hi:i<=1000000)(s:Tx)(d w:Int):fK (s,S nb c F (i:Int) d w 0)=some (bif ct c i [s] then S nb c F ((i+1:Nat):Int) d w 0 else S nb c F ((i+1:Nat):Int) d (jB c i) 70):=by rw[Kq,mW hi (by simp) (by simp),af];simp only;rw[yO om,af,Int.toNat_natCast];simp only;rw[DW,af];simp only;cases ct c i [s]<;>simp only[av,Bool.not_true,Bool.not_false,aU,aD,af,bK (show i<=1000000000 by omega),cond_true,cond_false]
theorem Io{er:Int}(he:er≠0){i:Int}(h0:0<=i)(hi:i<=1000000)(s:Tx)(d w:Int):fK (s,S nb c F i d w er)=some (S nb c F (i+1) d w er):=by rw[Kq,qH he,af];simp only;rw[yO h0,af];simp only;rw[z5q he,af];simp only;simp only[av,Bool.not_false,aU,af,zch h0 hi]
theorem z5r{er:Int}(he:er≠0){i:Int}(h0:0<=i)(d w:Int):jM (S nb c F i d w er)=some ([],S nb c F i d w er):=by rw[Ks];simp only[qH he,af,aD,yO h0,z5q he]
theorem qtl{i:Nat}(hi:i<=1000000)(d w:Int):la (S nb c F (i:Int) d w 0)=some (iD c i,S nb c F (i:Int) d w 0):=by rw[Kr];simp only[lZ (oK hi),af,mW (ks:=[[40],[109,97,116,99,104]]) hi (by simp) (by simp)];unfold iD;cases aW c i 3<;>cases aW c i 4<;>cases aW c i 1<;>cases aW c i 2<;>simp only[aU,aD,Bool.true_or,Bool.false_or]<;>rfl
theorem qtm{er:Int}(he:er≠0)(i d w:Int):la (S nb c F i d w er)=some (false,S nb c F i d w er):=by rw[Kr];simp only[qH he,af,aD]
end
open Pz
def lens(kids:List Y0):Nat:=(kids.map fun k=>k.l.length).sum
theorem qzh(q:Bool)(kids:List Y0)(hn:kids.length<=1000000)(_hs:lens kids<=1000000):∀(m k:Nat) (acc:List Y4),k+m=kids.length->acc.length+lens (kids.drop k)<=1000001->aX qg (⟨q,kids⟩,(kids.length:Int),(k:Int),⟨false,acc⟩,())=some (⟨false,acc++((kids.drop k).map (·.l)).flatten⟩,()):=by
 intro m
 induction m with
 |zero=>intro k acc hk hl;apply cw;unfold qg;simp only;rw[bP,if_neg om,zC om];simp
 |succ m ih=>
  intro k acc hk hl;have hc:k<kids.length:=om
  have hd:=kI hc;have he:lens (kids.drop k)=kids[k].l.length+lens (kids.drop (k+1)):=by unfold lens;rw[hd,zJ,List.sum_cons]
  have step:qg (⟨q,kids⟩,(kids.length:Int),(k:Int),⟨false,acc⟩,())=some (.inl (⟨q,kids⟩,(kids.length:Int),((k+1:Nat):Int),⟨false,acc++kids[k].l⟩,())):=by
   unfold qg;simp only;rw[bP,if_pos om,dG (zg hc),af,o4 (by
    show((acc.length:Nat):Int)+((kids[k].l.length:Nat):Int)<=_;omega),af,bK om]
   rfl
  rw[ew step,ih (k+1) _ om (by rw[zd];omega),hd,zJ,List.flatten_cons,zo]
theorem GI(k:Int)(s:Tx)(n z:Int)(q:Bool)(kids:List Y0)(hn:kids.length<=1000000)(hs:lens kids<=1000000):iN ((k,s,n,z),⟨q,kids⟩,())=some (⟨false,(k,s,n,(kids.length:Int))::(kids.map (·.l)).flatten⟩,()):=by have h:=qzh q kids hn hs kids.length 0 [(k,s,n,(kids.length:Int))] om (by rw[List.drop_zero,List.length_singleton];omega);rw[List.drop_zero] at h;rw[SH];exact h
theorem CA(k:Int)(s:Tx)(q:Bool)(kids:List Y0)(hn:kids.length<=1000000)(hs:lens kids<=1000000):dH (k,s,⟨q,kids⟩,())=some (⟨false,nd k s (kids.map (·.l))⟩,()):=by rw[Tw,GI _ _ _ _ _ _ hn hs,af];unfold nd;simp
theorem UM(k:Int)(s:Tx)(q:Bool):dH (k,s,⟨q,[]⟩,())=some (⟨false,nd k s []⟩,()):=CA k s q [] (by simp) (by simp[lens])
theorem KY(k:Int)(s:Tx)(q:Bool)(a:Y0)(h:a.l.length<=1000000):dH (k,s,⟨q,[a]⟩,())=some (⟨false,nd k s [a.l]⟩,()):=CA k s q [a] (by simp) (by simpa[lens] using h)
theorem uV(k:Int)(s:Tx)(q:Bool)(a b:Y0)(h:a.l.length+b.l.length<=1000000):dH (k,s,⟨q,[a,b]⟩,())=some (⟨false,nd k s [a.l,b.l]⟩,()):=CA k s q [a,b] (by simp) (by simpa[lens] using h)
theorem Oh(k:Int)(s:Tx)(q:Bool)(a b d:Y0)(h:a.l.length+b.l.length+d.l.length<=1000000):dH (k,s,⟨q,[a,b,d]⟩,())=some (⟨false,nd k s [a.l,b.l,d.l]⟩,()):=CA k s q [a,b,d] (by simp) (by simp only[lens,zJ,List.map_nil,List.sum_cons,List.sum_nil];omega)
theorem zau(k:Int)(n z:Int)(q:Bool):iN ((k,[],n,z),⟨q,[]⟩,())=some (⟨false,[(k,[],n,0)]⟩,()):=GI k [] n z q [] (by simp) (by simp[lens])
section
variable (nb:Bool) (c:PC) (F:Y1)
def Sm(lo:Nat)(B:Int)(d:Int)(r:PR (List ND×Nat))(o:Option Y3):Prop:=match r with
 |.ok x=>∃b,o=some (⟨b,x.1⟩,S nb c F (x.2:Int) d 0 0)
 |.error q=>∃v a d',o=some (v,S nb c F a d' q.1 q.2)/\q.2≠0/\((lo:Int)<=a/\a<=B)/\(v.l.length:Int)<=3*(a-lo)+1
def Sb(lo:Nat)(d:Int)(r:PR (Tx×Nat))(o:Option td):Prop:=match r with
 |.ok x=>o=some (x.1,S nb c F (x.2:Int) d 0 0)
 |.error q=>∃v a,o=some (v,S nb c F a d q.1 q.2)/\q.2≠0/\((lo:Int)<=a/\a<=lo+3)
variable {nb c F}
theorem zav(hn:c.l.length<=10000){i:Nat}(hi:i<=c.l.length)(d:Int):Sb nb c F i d (pf c i) (jM (S nb c F (i:Int) d 0 0)):=by
 have hc:i<=1000000:=om
 rw[Ks,lZ (oK hc),af];simp only;rw[mW hc (by simp) (by simp),af];simp only;rw[lZ (j:=i+1) (bK om),af];simp only;rw[mW hc (by simp) (by simp),af];simp only;have eL:ct c i [[40]]=ct c i [kL]:=rfl;unfold pf;rw[eL,bK (show i<=1000000000 by omega)];cases h1:aW c i 1 with
 |true=>rw[aU,Cz (ks:=[]) (.inl h1) om,af];simp only;rw[DX];rfl
 |false=>
  rw[aD];cases h2:ct c i [kL] with
  |false=>simp only[aD,af];rw[yO om,af,Int.toNat_natCast];simp only;rw[DW,af];exact⟨[],(i:Int),rfl,(by decide:(70:Int)≠0),by omega,by omega⟩
  |true=>
   rw[aU];cases h3:aW c (i+1) 5 with
   |true=>
    rw[aU,Cz (ks:=[]) (.inl h3) om,af];simp only;rw[zat (i:=i+1+1) om,af,DX];show Sb nb c F i d (eb (cY c (i+2) kR) fun a=>.ok (dN c (i+1),a)) _;unfold cY;have eR:ct c (i+1+1) [[41]]=ct c (i+2) [kR]:=rfl;rw[eR];cases h4:ct c (i+2) [kR] with
    |true=>rfl
    |false=>exact⟨_,((i+1+1+1:Nat):Int),rfl,(by decide:(70:Int)≠0),by omega,by omega⟩
   |false=>simp only[aU,aD,af];rw[yO om,af,Int.toNat_natCast];simp only;rw[DW,af];exact⟨[],((i+1:Nat):Int),rfl,(by decide:(70:Int)≠0),by omega,by omega⟩
end
open Pz
section
variable (nb:Bool) (c:PC) (F:Y1)
def Er(lo:Nat)(B w er:Int)(o:Option Y3):Prop:=∃v a d',o=some (v,S nb c F a d' w er)/\((lo:Int)<=a/\a<=B)/\(v.l.length:Int)<=3*(a-lo)+1
structure Sf (sf:eZ) (ps:PT) (d B:Int):Prop where
 err:∀{er:Int},er≠0->∀a dp w:Int,sf (S nb c F a dp w er)=some (⟨true,[]⟩,S nb c F a dp w er)
 ok:∀i,i<=c.l.length->Sm nb c F i B d (ps i) (sf (S nb c F (i:Int) d 0 0))
variable {nb c F} {E:Int} {Q:Tx→Prop} {N:Int→Prop}
theorem Sm.bind{Nc lo:Nat}{B1 B d:Int}{A:List ND×Nat->Prop}{r:PR (List ND×Nat)}{o:Option Y3}{f:List ND×Nat->PR (List ND×Nat)}{K:Y3->Option Y3}(h:Sm nb c F Nc B1 d r o)(ho:bQ E A r)(h1:∀b x,A x->Sm nb c F lo B d (f x) (K (⟨b,x.1⟩,S nb c F (x.2:Int) d 0 0)))(h2:∀(v:Y0) (a d' w er:Int),er≠0->((Nc:Int)<=a/\a<=B1)->(v.l.length:Int)<=3*(a-Nc)+1->Er nb c F lo B w er (K (v,S nb c F a d' w er))):Sm nb c F lo B d (eb r f) (aj o K):=by
 cases r with
 |ok x=>obtain⟨b,rfl⟩:=h;exact h1 b x ho
 |error q=>obtain⟨v,a,d',rfl,g1,g2,g3⟩:=h;obtain⟨v',a',KZ,e1,e2,e3⟩:=h2 v a d' q.1 q.2 g1 g2 g3;exact⟨v',a',KZ,e1,g1,e2,e3⟩
theorem GJ{lo i:Nat}{B d:Int}{s:Tx}{f:Nat->PR (List ND×Nat)}{K:Y5->Option Y3}(hi:i<=1000000)(h1:i<c.l.length->Sm nb c F lo B d (f (i+1)) (K (S nb c F ((i+1:Nat):Int) d 0 0)))(h2:∀w,Er nb c F lo B w 70 (K (S nb c F ((i+1:Nat):Int) d w 70))):Sm nb c F lo B d (eb (cY c i s) f) (aj (fK (s,S nb c F (i:Int) d 0 0)) K):=by
 rw[zat hi,af];unfold cY;cases h:ct c i [s] with
 |true=>exact h1 (AK h)
 |false=>obtain⟨v',a',KZ,e1,e2,e3⟩:=h2 (jB c i);exact⟨v',a',KZ,e1,(by decide:(70:Int)≠0),e2,e3⟩
theorem Oi{lo i:Nat}{B d:Int}{f:Tx×Nat->PR (List ND×Nat)}{K:td->Option Y3}(hn:c.l.length<=10000)(H:mV c E Q N)(hi:i<=c.l.length)(h1:∀x:Tx×Nat,i<x.2->x.2<=c.l.length->Sm nb c F lo B d (f x) (K (x.1,S nb c F (x.2:Int) d 0 0)))(h2:∀(v:Tx) (a w er:Int),er≠0->((i:Int)<=a/\a<=i+3)->Er nb c F lo B w er (K (v,S nb c F a d w er))):Sm nb c F lo B d (eb (pf c i) f) (aj (jM (S nb c F (i:Int) d 0 0)) K):=by
 have h:=zav (nb:=nb) (F:=F) hn hi d;have ho:=ey H i;cases hr:pf c i with
 |ok x=>rw[hr] at h ho;have h:jM (S nb c F (i:Int) d 0 0)=some (x.1,S nb c F (x.2:Int) d 0 0):=h;rw[h];exact h1 x ho.2.1 ho.2.2
 |error q=>rw[hr] at h;obtain⟨v,a,e,g1,g2⟩:=h;rw[e];obtain⟨v',a',KZ,e1,e2,e3⟩:=h2 v a q.1 q.2 g1 g2;exact⟨v',a',KZ,e1,g1,e2,e3⟩
variable {self:eZ} {ps:PT} {d B:Int}
theorem qox(hn:c.l.length<=10000)(hB:(c.l.length:Int)+3<=B)(hf:B<=100000)(H:mV c E Q N)(hs:Sf nb c F self ps d B)(ha:∀i,bQ E (AN c Q N i) (ps i)){i:Nat}(hi:i<=c.l.length):Sm nb c F i (B+1) d (qF c ps i) (ny self (S nb c F (i:Int) d 0 0)):=by
 have hc:i<=1000000:=om
 rw[Tz];simp only[mW (ks:=[[95]]) hc (by simp) (by simp),mW (ks:=[[40]]) hc (by simp) (by simp),lZ (oK hc),lZ (j:=i+1) (bK (show i<=1000000000 by omega)),af,bK (show i<=1000000000 by omega),UM,zau,tZ];unfold qF;have eA:ct c i [[95]]=ct c i [jr]:=rfl;have eL:ct c i [[40]]=ct c i [kL]:=rfl;rw[eA,eL];have hb:Sm nb c F i (B+1) d (eb (pf c i) fun s=>.ok (nd 22 s.1 [],s.2)) (aj (jM (S nb c F (i:Int) d 0 0)) fun x=>some (⟨false,nd 22 x.1 []⟩,x.2)):=by exact Oi hn H hi (fun x h1 h2=>⟨_,rfl⟩) fun v a w er he h=>⟨⟨false,nd 22 v []⟩,a,d,rfl,by omega,by rw[ju];simp only[List.flatten_nil,List.length_nil];omega⟩
 cases h1:ct c i [jr] with
 |true=>exact⟨_,rfl⟩
 |false=>
  cases h2:aW c i 3 with
  |true=>simp only[aU,aD,cond_true,cond_false];rw[Cz (ks:=[]) (.inl h2) om,af,qzg];exact⟨_,rfl⟩
  |false=>
   cases h3:aW c i 2 with
   |true=>simp only[aU,aD,cond_true,cond_false];rw[Cz (ks:=[]) (.inl h3) om,af,DX];exact⟨_,rfl⟩
   |false=>
    cases h4:ct c i [kL] with
    |false=>exact hb
    |true=>
     have hl:=AK h4;cases h5:aW c (i+1) 5 with
     |true=>exact hb
     |false=>
      simp only[aU,aD,cond_true,cond_false,Bool.not_false,Bool.and_true];refine Sm.bind (hs.ok (i+1) hl) (ha (i+1)) (fun b x ⟨x1,x2,x3,x4⟩=>GJ om (fun _=>⟨_,rfl⟩) fun w=>⟨⟨b,x.1⟩,((x.2+1:Nat):Int),d,rfl,by omega,?_⟩) fun v a d' w er he h h'=>?_
      ·show(x.1.length:Int)<=_;omega
      ·simp only;rw[Io he om om,af];exact⟨v,a+1,d',rfl,by omega,by omega⟩
def fM(kids:List Y0):List (List ND):=kids.map (·.l)
theorem Oj(a:List Y0)(b:Y0):fM (a++[b])=fM a++[b.l]:=by unfold fM;rw[zT];rfl
theorem GK(a:List Y0):(fM a).length=a.length:=zO _
theorem Ip(a:List Y0):lens a=(fM a).flatten.length:=by unfold lens fM;rw[List.length_flatten,jb];rfl
theorem Iq(a:List Y0):tot (fM a)=lens a+a.length:=by unfold tot;rw[Ip,GK]
theorem z3v(hn:c.l.length<=10000)(hB:(c.l.length:Int)+3<=B)(hl:B<=100000)(H:mV c E Q N)(hs:Sf nb c F self ps d B)(ha:∀i,bQ E (AN c Q N i) (ps i))(s:Tx)(i0:Nat):∀(m f i:Nat) (q:Bool) (kids:List Y0),i+m=c.l.length->m<f->i0<i->tot (fM kids)<=3*(i-i0-1)->Sm nb c F i0 (B+1) d (eb (uT c ps f i (fM kids)) fun p=>.ok (nd 24 s p.1,p.2)) (aX (Cc self) (s,⟨nb,c.l⟩,c.e,F,(i:Int),d,0,0,⟨q,kids⟩,())):=by
 intro m
 induction m using Nat.strongRecOn with
 |_ m ih=>
  intro f i q kids hm hf hu ht;obtain⟨f,rfl⟩:∃g,f=g+1:=⟨f-1,by omega⟩;have hi:i<=c.l.length:=om
  have hg:i<=1000000:=om
  have ho:=ht;rw[Iq] at ho;have hw:(kids.length:Int)<=1000000:=om
  have eK:ct c i [[95],[40]]=ct c i [jr,kL]:=rfl;have step:Cc self (s,⟨nb,c.l⟩,c.e,F,(i:Int),d,0,0,⟨q,kids⟩,())=
    bif aW c i 3||(aW c i 2||(aW c i 1||ct c i [jr,kL])) then aj (ny self (S nb c F (i:Int) d 0 0)) (fun x=>some (.inl (s,x.2.1,x.2.2.1,x.2.2.2.1,x.2.2.2.2.1,x.2.2.2.2.2.1,x.2.2.2.2.2.2.1,x.2.2.2.2.2.2.2.1,⟨aF q (cj [x.1]),app kids [x.1]⟩,())))
    else some (.inr (⟨false,nd 24 s (fM kids)⟩,S nb c F (i:Int) d 0 0)):=by
   have hc:∀x:Y0,fit (aQ (ae kids) (ae [x]))=some ():=fun x=>o4 (by
    show((kids.length:Nat):Int)+((1:Nat):Int)<=_;omega)
   unfold Cc;simp only[mW (ks:=[[95],[40]]) hg (by simp) (by simp),lZ (oK hg),af,hc,eK,CA 24 s q kids om om];cases aW c i 3<;>cases aW c i 2<;>cases aW c i 1<;>cases ct c i [jr,kL]<;>rfl
  unfold uT;cases hj:aW c i 3||(aW c i 2||(aW c i 1||ct c i [jr,kL])) with
  |false=>rw[hj] at step;rw[cw step];exact⟨_,rfl⟩
  |true=>
   rw[hj,cond_true] at step;rw[cond_true];have hp:=qox hn hB hl H hs ha hi;have hk:=UF H ha i;cases hr:qF c ps i with
   |ok x=>rw[hr] at hp hk;obtain⟨b,hb⟩:=hp;obtain⟨x1,x2,x3,x4⟩:=hk;rw[hb,af] at step;rw[ew step];have:=ih (c.l.length-x.2) om f x.2 (aF q (cj [(⟨b,x.1⟩:Y0)])) (kids++[⟨b,x.1⟩]) om om om (by rw[Oj,DV];simp only;omega);rw[Oj] at this;exact this
   |error e=>
    rw[hr] at hp;obtain⟨v,a,d',hv,he,h2,h3⟩:=hp;rw[hv,af] at step;rw[ew step];have fin:Cc self (s,⟨nb,c.l⟩,c.e,F,a,d',e.1,e.2,⟨aF q (cj [v]),kids++[v]⟩,())=some (.inr (⟨false,nd 24 s (fM (kids++[v]))⟩,S nb c F a d' e.1 e.2)):=by
     unfold Cc;have hq:lens (kids++[v])=lens kids+v.l.length:=by unfold lens;simp
     simp only[qH he,af,aD,CA 24 s (aF q (cj [v])) (kids++[v]) (by rw[zd,List.length_singleton];omega) (by rw[hq];omega)];rfl
    refine⟨_,a,d',cw fin,he,by omega,?_⟩;show((nd 24 s (fM (kids++[v]))).length:Int)<=_;rw[ju,Oj,List.flatten_append,zd,<-Ip];simp only[List.flatten_cons,List.flatten_nil,zt];omega
theorem z8o(hn:c.l.length<=10000)(hB:(c.l.length:Int)+3<=B)(hc:B<=100000)(H:mV c E Q N)(hs:Sf nb c F self ps d B)(ha:∀i,bQ E (AN c Q N i) (ps i)){i:Nat}(hi:i<=c.l.length):Sm nb c F i (B+1) d (kz c ps i) (B4 self (S nb c F (i:Int) d 0 0)):=by
 have he:i<=1000000:=om
 rw[TA,lZ (oK he),af,tZ];unfold kz;cases h1:aW c i 2 with
 |false=>
  have h:=qox hn hB hc H hs ha hi;simp only[aD,cond_false];cases hr:qF c ps i with
  |ok x=>rw[hr] at h;obtain⟨b,hb⟩:=h;rw[hb,af];exact⟨b,rfl⟩
  |error e=>rw[hr] at h;obtain⟨v,a,d',hv,h2⟩:=h;rw[hv,af];exact⟨v,a,d',rfl,h2⟩
 |true=>have hl:=sH h1;simp only[aU,cond_true];rw[Cz (ks:=[]) (.inl h1) om,af,DX];exact z3v hn hB hc H hs ha (dN c i) i (c.l.length-(i+1)) _ (i+1) true [] om om om (Nat.zero_le _)
theorem z3w(hn:c.l.length<=10000)(H:mV c E Q N):∀(f n:Nat),f<=100->f<n->Sf nb c F (cL kv n) (cW c f) (100-(f:Int)) (c.l.length+3+f):=by
 intro f
 induction f with
 |zero=>
  intro n _ hc;obtain⟨n,rfl⟩:∃g,n=g+1:=⟨n-1,by omega⟩;refine⟨fun he a dp w=>?_,fun i hi=>?_⟩
  ·show kv _ _=_;rw[uC,dx he];rfl
  ·show Sm nb c F i _ _ _ (kv _ _);rw[uC,iY];simp only[av,Bool.not_true,aD];have e:ag (100-((0:Nat):Int)) 100=true:=rfl;rw[e,aU,yO om,af,Int.toNat_natCast];simp only;rw[DW,af];exact⟨_,(i:Int),_,rfl,(by decide:(73:Int)≠0),by omega,by simp only[List.length_nil];omega⟩
 |succ f ih=>
  intro n hf hc;obtain⟨n,rfl⟩:∃g,n=g+1:=⟨n-1,by omega⟩;have hs:=ih n om om;refine⟨fun he a dp w=>?_,fun i hi=>?_⟩
  ·show kv _ _=_;rw[uC,dx he];rfl
  ·show Sm nb c F i _ _ _ (kv _ _);rw[uC,iY];simp only[av,Bool.not_true,aD];have e:ag (100-((f+1:Nat):Int)) 100=false:=dx om;have e2:aG .i64 (100-((f+1:Nat):Int)) 1=100-(f:Int):=by rw[pD om om];omega
   have e3:bU .i64 (100-(f:Int)) 1=100-((f+1:Nat):Int):=by rw[nv om om];omega
   rw[e,aD,e2];have h:=z8o hn om om H hs (Oa H f) hi;show Sm nb c F i _ _ (kz c (cW c f) i) _;cases hr:kz c (cW c f) i with
   |ok x=>rw[hr] at h;obtain⟨b,hb⟩:=h;rw[hb,af];simp only;rw[e3];exact⟨b,rfl⟩
   |error e=>rw[hr] at h;obtain⟨v,a,d',hv,he,h2,h3⟩:=h;rw[hv,af];exact⟨v,a,_,rfl,he,by omega,h3⟩
theorem Ol{σ ρ:Type}{f g:σ->Option (σ⊕ρ)}(h:∀s,lq (f s) (g s))(s:σ):lq (aX f s) (aX g s):=by intro r hr;obtain⟨n,hn⟩:=HV hr;exact z36 h n s r hn
theorem qzj{α β:Type}{G:(α->Option β)->α->Option β}(h:∀f g:α->Option β,(∀x,lq (f x) (g x))->∀x,lq (G f x) (G g x)):∀(n:Nat) (x:α),lq (cL G n x) (cL G (n+1) x)
 |0,_=>fun _ h=>by cases h
 |n+1,x=>h (cL G n) (cL G (n+1)) (qzj h n) x
theorem qzk{α β:Type}{G:(α->Option β)->α->Option β}(h:∀f g:α->Option β,(∀x,lq (f x) (g x))->∀x,lq (G f x) (G g x)){n:Nat}{x:α}{y:β}(e:cL G n x=some y):iM G x=some y:=by
 have up:∀k,cL G (n+k) x=some y:=by
  intro k
  induction k with
  |zero=>exact e
  |succ k ih=>exact qzj h (n+k) x y ih
 refine Dv n fun m hm=>?_;have:=up (m-n)
 rwa [Nat.add_sub_cancel' hm] at this
end
open Pz
section
variable {f g:eZ} (h:∀x,lq (f x) (g x))
include h
theorem qtn(x:Y5):lq (ny f x) (ny g x):=by
 obtain⟨a0,a1,a2,a3,a4,a5,a6,u⟩:=x;rw[Tz,Tz]
 repeat' (first|with_reducible apply sE|with_reducible apply sF|with_reducible exact h _|with_reducible exact oz _|intro _)
theorem z8p(x):lq (Cc f x) (Cc g x):=by
 unfold Cc
 repeat' (first|with_reducible apply sE|with_reducible apply sF|with_reducible exact qtn h _|with_reducible exact oz _|intro _)
theorem zaw(x:Y5):lq (B4 f x) (B4 g x):=by
 obtain⟨a0,a1,a2,a3,a4,a5,a6,u⟩:=x;rw[TA,TA]
 repeat' (first|with_reducible apply sE|with_reducible apply sF|with_reducible exact qtn h _|with_reducible exact Ol (z8p h) _|with_reducible exact oz _|intro _)
theorem z3x(x:Y5):lq (kv f x) (kv g x):=by
 obtain⟨a0,a1,a2,a3,a4,a5,a6,u⟩:=x;rw[uC,uC]
 repeat' (first|with_reducible apply sE|with_reducible apply sF|with_reducible exact zaw h _|with_reducible exact oz _|intro _)
theorem qoy(x:td):lq (su f x) (su g x):=by
 obtain⟨a0,a1,a2,a3,a4,a5,a6,a7,u⟩:=x;rw[NU,NU]
 repeat' (first|with_reducible apply sE|with_reducible apply sF|with_reducible exact h _|with_reducible exact oz _|intro _)
theorem qzl(x):lq (AD f x) (AD g x):=by
 unfold AD
 repeat' (first|with_reducible apply sE|with_reducible apply sF|with_reducible exact qoy h _|with_reducible exact oz _|intro _)
theorem z3y(x:Y5):lq (B5 f x) (B5 g x):=by
 obtain⟨a0,a1,a2,a3,a4,a5,a6,u⟩:=x;rw[TB,TB]
 repeat' (first|with_reducible apply sE|with_reducible apply sF|with_reducible apply z85|with_reducible exact h _|with_reducible exact Ol (qzl h) _|with_reducible exact oz _|intro _)
theorem qzm(x:Y5):lq (uA f x) (uA g x):=by
 obtain⟨a0,a1,a2,a3,a4,a5,a6,u⟩:=x;rw[TC,TC]
 repeat' (first|with_reducible apply sE|with_reducible apply sF|with_reducible exact h _|with_reducible exact z3y h _|with_reducible exact oz _|intro _)
theorem z8q(x:Y3):lq (yq f x) (yq g x):=by
 unfold yq
 repeat' (first|with_reducible apply sE|with_reducible apply sF|with_reducible exact qzm h _|with_reducible exact oz _|intro _)
theorem z5s(x:Y5):lq (vw f x) (vw g x):=by
 obtain⟨a0,a1,a2,a3,a4,a5,a6,u⟩:=x;rw[TD,TD]
 repeat' (first|with_reducible apply sE|with_reducible apply sF|with_reducible exact qzm h _|with_reducible exact Ol (z8q h) _|with_reducible exact oz _|intro _)
theorem z8r(x):lq (qQ f x) (qQ g x):=by
 unfold qQ
 repeat' (first|with_reducible apply sE|with_reducible apply sF|with_reducible exact z5s h _|with_reducible exact oz _|intro _)
theorem zax(x:Y5):lq (B9 f x) (B9 g x):=by
 obtain⟨a0,a1,a2,a3,a4,a5,a6,u⟩:=x;rw[TJ,TJ]
 repeat' (first|with_reducible apply sE|with_reducible apply sF|with_reducible exact z5s h _|with_reducible exact Ol (z8r h) _|with_reducible exact oz _|intro _)
theorem z8s(x:Y5):lq (AA f x) (AA g x):=by
 obtain⟨a0,a1,a2,a3,a4,a5,a6,u⟩:=x;rw[TK,TK]
 repeat' (first|with_reducible apply sE|with_reducible apply sF|with_reducible exact h _|with_reducible exact zax h _|with_reducible exact qoy h _|with_reducible exact oz _|intro _)
theorem z8t(x:Y5):lq (AB f x) (AB g x):=by
 obtain⟨a0,a1,a2,a3,a4,a5,a6,u⟩:=x;rw[Ku,Ku]
 repeat' (first|with_reducible apply sE|with_reducible apply sF|with_reducible exact z8s h _|with_reducible exact oz _|intro _)
theorem z8u(x:Y5):lq (kx f x) (kx g x):=by
 obtain⟨a0,a1,a2,a3,a4,a5,a6,u⟩:=x;rw[uD,uD]
 repeat' (first|with_reducible apply sE|with_reducible apply sF|with_reducible exact z8t h _|with_reducible exact oz _|intro _)
end
section
variable {nb:Bool} {c:PC} {F:Y1} {E:Int} {Q:Tx→Prop} {N:Int→Prop}
theorem Sm.up{lo:Nat}{B d:Int}{r:PR (List ND×Nat)}{o o':Option Y3}(h:Sm nb c F lo B d r o)(hl:lq o o'):Sm nb c F lo B d r o':=by
 cases r with
 |ok x=>obtain⟨b,hb⟩:=h;exact⟨b,hl _ hb⟩
 |error q=>obtain⟨v,a,d',hv,h2⟩:=h;exact⟨v,a,d',hl _ hv,h2⟩
theorem z3z(hn:c.l.length<=10000)(H:mV c E Q N)(f:Nat)(hf:f<=100):Sf nb c F iP (cW c f) (100-(f:Int)) (c.l.length+3+f):=by have hs:=z3w (nb:=nb) (F:=F) hn H f (f+1) hf (Nat.lt_succ_self f);have up:∀x,lq (cL kv (f+1) x) (iP x):=fun x y e=>qzk (fun _ _ h=>z3x h) e;exact⟨fun he a dp w=>up _ _ (hs.err he a dp w),fun i hi=>(hs.ok i hi).up (up _)⟩
end
open Pz
section
variable {nb:Bool} {c:PC} {F:Y1} {E:Int} {Q:Tx→Prop} {N:Int→Prop}
variable {self:eZ} {ps pp:PT} {d B:Int}
theorem Sm.eta{lo:Nat}{B d:Int}{r:PR (List ND×Nat)}{o:Option Y3}(h:Sm nb c F lo B d r o):Sm nb c F lo B d r (aj o fun x=>some (x.1,x.2.1,x.2.2.1,x.2.2.2.1,x.2.2.2.2.1,x.2.2.2.2.2.1,x.2.2.2.2.2.2.1,x.2.2.2.2.2.2.2.1,())):=by
 cases r with
 |ok x=>obtain⟨b,hb⟩:=h;rw[hb];exact⟨b,rfl⟩
 |error q=>obtain⟨v,a,d',hv,h2⟩:=h;rw[hv];exact⟨v,a,d',rfl,h2⟩
theorem Sm.wide{lo ve:Nat}{B B' d:Int}{r:PR (List ND×Nat)}{o:Option Y3}(h:Sm nb c F lo B d r o)(h1:ve<=lo)(h2:B<=B'):Sm nb c F ve B' d r o:=by
 cases r with
 |ok x=>exact h
 |error q=>obtain⟨v,a,d',hv,g1,g2,g3⟩:=h;exact⟨v,a,d',hv,g1,by omega,by omega⟩
theorem yP(hs:Sf nb c F self ps d B){er:Int}(he:er≠0){i:Int}(h0:0<=i)(hi:i<=1000000)(s:Tx)(dp w:Int):su self (s,S nb c F i dp w er)=some (⟨true,[]⟩,S nb c F (i+1) dp w er):=by rw[NU,Io he h0 hi,af];simp only;rw[hs.err he,af]
theorem GM(hn:c.l.length<=10000)(hB:(c.l.length:Int)+3<=B)(hs:Sf nb c F self ps d B){i:Nat}(hi:i<=c.l.length)(s:Tx):Sm nb c F (i+1) B d (eQ c ps i s) (su self (s,S nb c F (i:Int) d 0 0)):=by rw[NU];unfold eQ;refine GJ om (fun hl=>(hs.ok (i+1) hl).eta) fun w=>?_;simp only;rw[hs.err (by decide:(70:Int)≠0),af];exact⟨⟨true,[]⟩,((i+1:Nat):Int),d,rfl,by omega,by simp only[List.length_nil];omega⟩
noncomputable def DY(x7:JW):Option Y3:=aj (fK (([101,110,100]:Y2),x7.1,x7.2.1,x7.2.2.1,x7.2.2.2.1,x7.2.2.2.2.1,x7.2.2.2.2.2.1,x7.2.2.2.2.2.2.1,())) (fun x8=>aj (dH (10,([]:Y2),x7.2.2.2.2.2.2.2.1,())) (fun x9=>some (x9.1,x8.1,x8.2.1,x8.2.2.1,x8.2.2.2.1,x8.2.2.2.2.1,x8.2.2.2.2.2.1,x8.2.2.2.2.2.2.1,())))
theorem zay{lo j:Nat}{q:Bool}{kids:List Y0}{B2:Int}(hn:c.l.length<=10000)(hB:(c.l.length:Int)+3<=B2)(hj:j<=c.l.length)(he:lo<=j)(ht:tot (fM kids)<=3*(j-lo)):Sm nb c F lo B2 d (eb (cY c j eX) fun a2=>.ok (nd 10 [] (fM kids),a2)) (DY (⟨nb,c.l⟩,c.e,F,(j:Int),d,0,0,⟨q,kids⟩,())):=by
 have hc:=ht;rw[Iq] at hc;unfold DY;refine GJ om (fun hl=>?_) fun w=>?_
 ·simp only;rw[CA _ _ _ _ om om,af];exact⟨_,rfl⟩
 ·simp only;rw[CA _ _ _ _ om om,af];refine⟨_,((j+1:Nat):Int),d,rfl,by omega,?_⟩;show((nd 10 [] (fM kids)).length:Int)<=_;rw[ju,<-Ip];omega
theorem UN{lo:Nat}{q:Bool}{kids:List Y0}{B2 a d' w er:Int}(hB:B2<=100000)(he:er≠0)(h1:(lo:Int)<=a)(h2:a+1<=B2)(ht:((lens kids:Nat):Int)<=3*(a-lo)+3)(hk:kids.length<=1000000):Er nb c F lo B2 w er (DY (⟨nb,c.l⟩,c.e,F,a,d',w,er,⟨q,kids⟩,())):=by unfold DY;simp only;rw[Io he om om,af];rw[CA _ _ _ _ om om,af];refine⟨_,a+1,d',rfl,by omega,?_⟩;show((nd 10 [] (fM kids)).length:Int)<=_;rw[ju,<-Ip];omega
theorem Er.sm{lo:Nat}{B d:Int}{q:Int×Int}{o:Option Y3}(h:Er nb c F lo B q.1 q.2 o)(hq:q.2≠0):Sm nb c F lo B d (.error q) o:=by obtain⟨v,a,d',e1,e2,e3⟩:=h;exact⟨v,a,d',e1,hq,e2,e3⟩
theorem z40(hn:c.l.length<=10000)(hB:(c.l.length:Int)+3<=B)(hz:B<=90000)(H:mV c E Q N)(hs:Sf nb c F self ps d B)(ha:∀i,bQ E (AN c Q N i) (ps i))(hu:Sf nb c F iP pp d B)(hw:∀i,bQ E (AN c Q N i) (pp i))(i0:Nat):∀(m f i:Nat) (q:Bool) (kids:List Y0),i+m=c.l.length->m<f->i0<=i->tot (fM kids)<=3*(i-i0)->Sm nb c F i0 (B+3) d (eb (sG c ps pp f i (fM kids)) fun r=>eb (cY c r.2 eX) fun a2=>.ok (nd 10 [] r.1,a2)) (aj (aX (AD self) (⟨nb,c.l⟩,c.e,F,(i:Int),d,0,0,⟨q,kids⟩,())) (bR DY)):=by
 intro m
 induction m using Nat.strongRecOn with
 |_ m ih=>
  intro f i q kids hm hf hA ht;obtain⟨f,rfl⟩:∃g,f=g+1:=⟨f-1,by omega⟩;have hi:i<=c.l.length:=om
  have hC:i<=1000000:=om
  have hx:=ht;rw[Iq] at hx;have hc:∀x y:Y0,fit (aQ (ae kids) (ae [x,y]))=some ():=fun x y=>o4 (by
   show((kids.length:Nat):Int)+((2:Nat):Int)<=_;omega)
  have step:AD self (⟨nb,c.l⟩,c.e,F,(i:Int),d,0,0,⟨q,kids⟩,())=
    aj (iP (S nb c F (i:Int) d 0 0)) (fun x3=>aj (su self (gQ,x3.2.1,x3.2.2.1,x3.2.2.2.1,x3.2.2.2.2.1,x3.2.2.2.2.2.1,x3.2.2.2.2.2.2.1,x3.2.2.2.2.2.2.2.1,())) (fun x4=>aj (dM (0,6,⟨false,[gR]⟩,x4.2.1,x4.2.2.1,x4.2.2.2.1,x4.2.2.2.2.1,x4.2.2.2.2.2.1,x4.2.2.2.2.2.2.1,x4.2.2.2.2.2.2.2.1,())) (fun x6=>az (av x6.1) (some (.inr (.inl (x6.2.1,x6.2.2.1,x6.2.2.2.1,x6.2.2.2.2.1,x6.2.2.2.2.2.1,x6.2.2.2.2.2.2.1,x6.2.2.2.2.2.2.2.1,⟨aF q (cj [x3.1,x4.1]),app kids [x3.1,x4.1]⟩,())))) (some (.inl (x6.2.1,x6.2.2.1,x6.2.2.2.1,aG .i64 x6.2.2.2.2.1 1,x6.2.2.2.2.2.1,x6.2.2.2.2.2.2.1,x6.2.2.2.2.2.2.2.1,⟨aF q (cj [x3.1,x4.1]),app kids [x3.1,x4.1]⟩,())))))):=by
   unfold AD;simp only;rw[iY,aU];simp only[hc,af];rfl
  have e2:∀x y:Y0,fM (kids++[x,y])=fM kids++[x.l,y.l]:=fun x y=>by unfold fM;rw[zT];rfl
  have e3:∀x y:Y0,lens (kids++[x,y])=lens kids+(x.l.length+y.l.length):=fun x y=>by unfold lens;rw[zT,List.sum_append];simp only[zJ,List.map_nil,List.sum_cons,List.sum_nil];omega
  unfold sG;have hp:=hu.ok i hi;have hg:=hw i;cases hr:pp i with
  |error e=>
   rw[hr] at hp;obtain⟨v,a,d',hv,he,h2,h3⟩:=hp;rw[hv,af] at step;simp only at step;rw[yP hs he om om,af] at step;simp only at step;rw[qH he,af] at step;rw[cw step,af];show Sm nb c F i0 (B+3) d (.error e) (DY _);refine Er.sm (UN (a:=a+1) om he om om ?_ ?_) he
   ·show((lens (kids++[v,(⟨true,[]⟩:Y0)]):Nat):Int)<=_;rw[e3];simp only[List.length_nil];omega
   ·show(kids++[v,(⟨true,[]⟩:Y0)]).length<=_;rw[zd];simp only[zj,List.length_nil];omega
  |ok p=>
   rw[hr] at hp hg;obtain⟨b,hb⟩:=hp;obtain⟨p1,p2,p3,p4⟩:=hg;rw[hb,af] at step;simp only at step;have hq:=GM hn hB hs p2 gQ;have hj:=ck H ha p.2 gQ;show Sm nb c F i0 (B+3) d (eb (eb (eQ c ps p.2 gQ) _) _) _;cases ho:eQ c ps p.2 gQ with
   |error e=>
    rw[ho] at hq;obtain⟨v,a,d',hv,he,h2,h3⟩:=hq;rw[hv,af] at step;simp only at step;rw[qH he,af] at step;rw[cw step,af];show Sm nb c F i0 (B+3) d (.error e) (DY _);refine Er.sm (UN (a:=a) om he om om ?_ ?_) he
    ·show((lens (kids++[(⟨b,p.1⟩:Y0),v]):Nat):Int)<=_;rw[e3];simp only;omega
    ·show(kids++[(⟨b,p.1⟩:Y0),v]).length<=_;rw[zd];simp only[zj,List.length_nil];omega
   |ok y=>
    rw[ho] at hq hj;obtain⟨b2,hy⟩:=hq;obtain⟨y1,y2,y3,y4⟩:=hj;rw[hy,af] at step;simp only at step;rw[mW (ks:=[gR]) om (by simp) (by simp),af] at step;simp only at step;rw[tZ,bK om] at step;have hk:tot (fM (kids++[(⟨b,p.1⟩:Y0),⟨b2,y.1⟩]))<=3*(y.2-i0):=by rw[Iq,e3,zd];simp only[zj,List.length_nil];omega
    show Sm nb c F i0 (B+3) d (eb (bif ct c y.2 [gR] then sG c ps pp f (y.2+1) (fM kids++[p.1,y.1]) else .ok (fM kids++[p.1,y.1],y.2)) _) _;cases hK:ct c y.2 [gR] with
    |true=>have hl:=AK hK;rw[hK,aU] at step;rw[ew step,cond_true];have:=ih (c.l.length-(y.2+1)) om f (y.2+1) (aF q (cj [(⟨b,p.1⟩:Y0),⟨b2,y.1⟩])) (kids++[(⟨b,p.1⟩:Y0),⟨b2,y.1⟩]) om om om om;rw[e2] at this;exact this
    |false=>rw[hK,aD] at step;rw[cw step,af,cond_false];have:=zay (nb:=nb) (F:=F) (d:=d) (q:=aF q (cj [(⟨b,p.1⟩:Y0),⟨b2,y.1⟩])) (B2:=B+3) hn om y2 om hk;rw[e2] at this;exact this
theorem qzo(hn:c.l.length<=10000)(hB:(c.l.length:Int)+3<=B)(hc:B<=90000)(H:mV c E Q N)(hs:Sf nb c F self ps d B)(ha:∀i,bQ E (AN c Q N i) (ps i))(hf:Sf nb c F iP pp d B)(hg:∀i,bQ E (AN c Q N i) (pp i)){i:Nat}(hi:i<=c.l.length):Sm nb c F i (B+3) d (Cy c ps pp i) (B5 self (S nb c F (i:Int) d 0 0)):=by
 have hE:∀(v:Y0) (a d' w er:Int),er≠0->((i:Int)<=a/\a<=B+1)->(v.l.length:Int)<=3*(a-i)+1->
   Er nb c F i (B+3) w er (aj (aX (AD self) (⟨nb,c.l⟩,c.e,F,a,d',w,er,⟨false,[v]⟩,())) (bR DY)):=by
  intro v a d' w er he h1 h2;have step:AD self (⟨nb,c.l⟩,c.e,F,a,d',w,er,⟨false,[v]⟩,())=some (.inr (.inl (⟨nb,c.l⟩,c.e,F,a,d',w,er,⟨false,[v]⟩,()))):=by unfold AD;simp only;rw[dx he,aD]
  rw[cw step,af];exact UN om he om om (by simp only[lens,zJ,List.map_nil,List.sum_cons,List.sum_nil];omega) (by simp)
 rw[TB];unfold Cy;refine Sm.bind (hs.ok i hi) (ha i) (fun b x ⟨x1,x2,x3,x4⟩=>?_) fun v a d' w er he h1 h2=>?_
 ·simp only;refine GJ om (fun hl=>?_) fun w=>?_
  ·have h:=z40 hn hB hc H hs ha hf hg i (c.l.length-(x.2+1)) (c.l.length+1) (x.2+1) false [⟨b,x.1⟩] om om om (by
    have:tot (fM [(⟨b,x.1⟩:Y0)])=x.1.length+1:=by simp[tot,fM]
    omega)
   exact h
  ·exact hE ⟨b,x.1⟩ ((x.2+1:Nat):Int) d w 70 dc om (by simp only;omega)
 ·simp only;rw[Io he om om,af];exact hE v (a+1) d' w er he om om
theorem qto(hn:c.l.length<=10000)(hB:(c.l.length:Int)+3<=B)(hc:B<=90000)(H:mV c E Q N)(hs:Sf nb c F self ps d B)(ha:∀i,bQ E (AN c Q N i) (ps i))(hf:Sf nb c F iP pp d B)(hg:∀i,bQ E (AN c Q N i) (pp i)){i:Nat}(hi:i<=c.l.length):Sm nb c F i (B+3) d (oI c ps pp i) (uA self (S nb c F (i:Int) d 0 0)):=by
 have hj:i<=1000000:=om
 rw[TC,qtl hj,af,tZ];simp only;unfold oI;cases hb:iD c i with
 |false=>simp only[aD,cond_false];rw[yO om,af,Int.toNat_natCast];simp only;rw[DW,af];exact⟨⟨true,[]⟩,(i:Int),d,rfl,(by decide:(70:Int)≠0),by omega,by simp only[List.length_nil];omega⟩
 |true=>
  have hl:=qzb hb;simp only[aU,cond_true];have hk:gh (S nb c F (i:Int) d 0 0)=some (((c.l[i]?).getD (0,[],0,0)),S nb c F ((i+1:Nat):Int) d 0 0):=by refine Cz (k:=(c.l[i]'hl).1) (ks:=[]) (.inl ?_) om d 0 0;unfold aW;rw[zg hl];exact zu rfl
  rw[hk,af];simp only;rw[Og _ hl,Og _ hl,Og _ hl,Og _ hl,DX,qzg,lZ (j:=i+1) (oK om),af];simp only[UM,zau,af];cases h3:aW c i 3 with
  |true=>exact⟨_,rfl⟩
  |false=>
  cases h4:aW c i 4 with
  |true=>exact⟨_,rfl⟩
  |false=>
  cases h1:aW c i 1 with
  |true=>exact⟨_,rfl⟩
  |false=>
  cases h2:aW c i 2 with
  |true=>exact⟨_,rfl⟩
  |false=>
  simp only[aD,cond_false];rw[Bi];by_cases hm:dN c i=cX
  ·rw[if_pos (show dN c i=[109,97,116,99,104] from hm),zu hm,cond_true];exact((qzo hn hB hc H hs ha hf hg hl).wide (Nat.le_succ i) (Int.le_refl _)).eta
  ·rw[if_neg (show ¬dN c i=[109,97,116,99,104] from hm),zn hm,cond_false];cases h5:aW c (i+1) 5 with
   |true=>simp only[aU,cond_true];rw[Cz (ks:=[]) (.inl h5) om,af,DX];simp only;exact GJ (i:=i+2) om (fun _=>⟨_,rfl⟩) fun w=>⟨_,((i+2+1:Nat):Int),d,rfl,by omega,by simp only[ju,List.flatten_nil,List.length_nil];omega⟩
   |false=>simp only[aD,cond_false];refine Sm.bind (hs.ok (i+1) hl) (ha (i+1)) (fun b x ⟨x1,x2,x3,x4⟩=>GJ om (fun _=>⟨_,rfl⟩) fun w=>⟨⟨b,x.1⟩,((x.2+1:Nat):Int),d,rfl,by omega,by simp only;omega⟩) fun v a d' w er he h h'=>?_;simp only;rw[Io he om om,af];exact⟨v,a+1,d',rfl,by omega,by omega⟩
theorem z41(hn:c.l.length<=10000)(hB:(c.l.length:Int)+3<=B)(hj:B<=90000)(H:mV c E Q N)(hs:Sf nb c F self ps d B)(ha:∀i,bQ E (AN c Q N i) (ps i))(hk:Sf nb c F iP pp d B)(hc:∀i,bQ E (AN c Q N i) (pp i))(i0:Nat):∀(m f i:Nat) (b:Bool) (l:List ND),i+m=c.l.length->m<f->i0<=i->l.length+1<=3*(i-i0)->Sm nb c F i0 (B+3) d (vF c ps pp f i l) (aX (yq self) (⟨b,l⟩,S nb c F (i:Int) d 0 0)):=by
 intro m
 induction m using Nat.strongRecOn with
 |_ m ih=>
  intro f i b l hm hf hq ht;obtain⟨f,rfl⟩:∃g,f=g+1:=⟨f-1,by omega⟩;have hi:i<=c.l.length:=om
  have hl:i<=1000000:=om
  have step:yq self (⟨b,l⟩,S nb c F (i:Int) d 0 0)=az (iD c i) (aj (uA self (S nb c F (i:Int) d 0 0)) (fun x3=>aj (dH (6,[],⟨false,[⟨b,l⟩,x3.1]⟩,())) (fun x4=>some (.inl (x4.1,x3.2.1,x3.2.2.1,x3.2.2.2.1,x3.2.2.2.2.1,x3.2.2.2.2.2.1,x3.2.2.2.2.2.2.1,x3.2.2.2.2.2.2.2.1,()))))) (some (.inr (⟨b,l⟩,S nb c F (i:Int) d 0 0))):=by unfold yq;simp only;rw[qtl hl,af]
  unfold vF;cases hb:iD c i with
  |false=>rw[hb,aD] at step;rw[cw step];exact⟨b,rfl⟩
  |true=>
   rw[hb,aU] at step;rw[cond_true];have hp:=qto hn hB hj H hs ha hk hc hi;have hg:=fw H ha hc i;cases hr:oI c ps pp i with
   |ok x=>
    rw[hr] at hp hg;obtain⟨b2,ho⟩:=hp;obtain⟨x1,x2,x3,x4⟩:=hg;rw[ho,af] at step;simp only at step;rw[uV _ _ _ _ _ (by simp only;omega),af] at step;rw[ew step];exact ih (c.l.length-x.2) om f x.2 false _ om om om (by
     rw[ju];simp only[List.flatten_cons,List.flatten_nil,zt,zd];omega)
   |error e=>
    rw[hr] at hp;obtain⟨v,a,d',hv,he,h2,h3⟩:=hp;rw[hv,af] at step;simp only at step;rw[uV _ _ _ _ _ (by simp only;omega),af] at step;rw[ew step];have fin:∀l':Y0,yq self (l',S nb c F a d' e.1 e.2)=some (.inr (l',S nb c F a d' e.1 e.2)):=by intro l';unfold yq;simp only;rw[qtm he,af,aD]
    refine⟨_,a,d',cw (fin _),he,by omega,?_⟩;simp only[ju,List.flatten_cons,List.flatten_nil,zt,zd];omega
theorem qzp(hn:c.l.length<=10000)(hB:(c.l.length:Int)+3<=B)(hf:B<=90000)(H:mV c E Q N)(hs:Sf nb c F self ps d B)(ha:∀i,bQ E (AN c Q N i) (ps i))(hg:Sf nb c F iP pp d B)(hc:∀i,bQ E (AN c Q N i) (pp i)){i:Nat}(hi:i<=c.l.length):Sm nb c F i (B+3) d (gS c ps pp i) (vw self (S nb c F (i:Int) d 0 0)):=by
 rw[TD];unfold gS;refine Sm.bind (qto hn hB hf H hs ha hg hc hi) (fw H ha hc i) (fun b x ⟨x1,x2,x3,x4⟩=>z41 hn hB hf H hs ha hg hc i (c.l.length-x.2) (c.l.length+1) x.2 b x.1 om om om om) fun v a d' w er he h h'=>?_;have fin:yq self (v,S nb c F a d' w er)=some (.inr (v,S nb c F a d' w er)):=by unfold yq;simp only;rw[qtm he,af,aD]
 exact⟨v,a,d',cw fin,by omega,by omega⟩
end
open Pz
def yQ(l:List ar)(op:Tx):Bool:=(jq l op).isSome
def l0(l:List ar)(ops:List Tx):Option (List Int):=if 400<ops.length then none else match nH l ops with
 |none=>none
 |some fs=>Il fs
structure mX (c:PC) (F:Y1):Prop where
 g:gL F.l
 z:fb F.l=0
 fx:c.fx=yQ F.l
 cl:c.cl=l0 F.l
theorem UO{lv sd:Nat->Int}{a b:Nat}{x:List Int}(h:Fx.B lv sd a b x):Bt a b x:=by
 induction h with
 |nil a=>exact Bt.leaf a
 |node a r b x y h1 h2 _ _ _ _ il im=>exact Bt.node a r b x y h1 h2 il im
theorem Om{l:List ar}(hz:fb l=0){ops:List Tx}{x:List Int}(h:l0 l ops=some x):Bt 0 ops.length x:=by
 unfold l0 at h;split at h
 ·cases h
 ·cases hf:nH l ops with
  |none=>rw[hf] at h;cases h
  |some fs=>rw[hf] at h;obtain⟨f1,f2⟩:=KS hf;obtain⟨_,hr,_⟩:=N5 hz;have:=Fx.ky (lv:=gj fs) (sd:=dW fs) (n:=fs.length) (N8 hr f2);have h:Fx.fU (gj fs) (dW fs) fs.length=some x:=h;rw[h] at this;rw[<-f1];exact UO this
theorem z42{n1 n2:Bool}{l:List ar}(h:gL l)(hz:fb l=0)(ops:List Tx):∃q er,lP (⟨n1,l⟩,⟨n2,ops⟩,())=some (match l0 l ops with|none=>(⟨true,[]⟩,er,())|some x=>(⟨q,x⟩,0,()))/\er≠0:=by
 obtain⟨q,hq⟩:=qvx n1 n2 h ops;rw[hq];unfold uR l0;rw[if_neg (by simpa using hz)];by_cases h4:400<ops.length
 ·rw[if_pos h4,if_pos h4];exact⟨q,40,rfl,by decide⟩
 ·rw[if_neg h4,if_neg h4];cases nH l ops with
  |none=>exact⟨q,42,rfl,by decide⟩
  |some fs=>
   simp only;cases Il fs with
   |none=>exact⟨q,43,rfl,by decide⟩
   |some x=>exact⟨q,1,rfl,by decide⟩
theorem qzq(L:List (List ND))(k:Nat):(L.drop k).flatten.length<=L.flatten.length:=by
 have h:L.flatten.length=((L.take k)++(L.drop k)).flatten.length:=by rw[List.take_append_drop]
 rw[h,List.flatten_append,zd];omega
theorem qzr(L:List (List ND))(k:Nat):(L.take k).flatten.length<=L.flatten.length:=by
 have h:L.flatten.length=((L.take k)++(L.drop k)).flatten.length:=by rw[List.take_append_drop]
 rw[h,List.flatten_append,zd];omega
theorem qzs{apps:List Y0}{i:Nat}(h:i<apps.length):(fM apps)[i]?=some apps[i].l:=by unfold fM;rw[zY,zg h];rfl
theorem z8v{qa qo:Bool}{apps:List Y0}{ops:List Tx}(hs:lens apps+3*ops.length<=100000):∀{a b:Nat} {x:List Int},Bt a b x->b<apps.length->b<=ops.length->∀(z:Sl Int) (n:Nat) (post:List Int),z.l.drop n=x++post->n+x.length<=1000000->∃q t,(∀m,x.length<=m->cL p8 m (z,(n:Int),⟨qa,apps⟩,⟨qo,ops⟩,())=some (⟨q,t⟩,z,((n+x.length:Nat):Int),⟨qa,apps⟩,⟨qo,ops⟩,()))/\(∀f,x.length<=f->gW (fM apps) ops f (x++post)=(t,post)):=by
 have hP:∀a,a∈fM apps->∀d,d∈a->True:=fun _ _ _ _=>trivial;intro a b x h
 induction h with
 |leaf a=>
  intro h1 h2 z n post hz hn;have hj:n<z.l.length:=by have:=congrArg List.length hz;simp only[zH,zd,zj,List.length_nil] at this;omega
  have hg:z.l[n]?=some (-1-(a:Int)):=by have:=congrArg (fun l=>l[0]?) hz;simpa using this
  refine⟨apps[a].nil,apps[a].l,fun m hm=>?_,fun f hf=>?_⟩
  ·simp only[zj,List.length_nil] at hm;obtain⟨m,rfl⟩:∃k,m=k+1:=⟨m-1,by omega⟩;show p8 _ _=_;have e:bU .i64 (-1) (-1-(a:Int))=(a:Int):=by rw[nv om (by simp only[zj,List.length_nil] at hn;omega)];omega
   rw[Kt,dG hg,af,bP,if_pos om,e,dG (zg h1),af,bK om];rfl
  ·simp only[zj,List.length_nil] at hf;obtain⟨f,rfl⟩:∃k,f=k+1:=⟨f-1,by omega⟩;show(if -1-(a:Int)<0 then(((fM apps)[(-1-(-1-(a:Int))).toNat]?).getD [],post) else _)=_;rw[if_pos om];have e:(-1-(-1-(a:Int))).toNat=a:=om
   rw[e,qzs h1];rfl
 |node a r b x y g1 g2 hx hy tX tY=>
  intro h1 h2 z n post hz hn;simp only[zj,zd] at hn;have hr:r<ops.length:=om
  have ho:=hy.le;have hj:n<z.l.length:=by have:=congrArg List.length hz;simp only[zH,zd,zj] at this;omega
  have hg:z.l[n]?=some (r:Int):=by have:=congrArg (fun l=>l[0]?) hz;simpa using this
  have he:z.l.drop (n+1)=x++(y++post):=by rw[<-List.drop_drop,hz];simp
  have hk:z.l.drop (n+1+x.length)=y++post:=by rw[<-List.drop_drop,he,List.drop_left]
  obtain⟨q1,t1,r1,s1⟩:=tX om om z (n+1) (y++post) he om;obtain⟨q2,t2,r2,s2⟩:=tY h1 h2 z (n+1+x.length) post hk om;obtain⟨t1',e1,l1,_⟩:=UE (apps:=fM apps) (ops:=ops) (P:=fun _=>True) hP (fun _ _=>trivial) trivial hx (by rw[GK];omega) om x.length (y++post) (Nat.le_refl _);obtain⟨t2',e2,l2,_⟩:=UE (apps:=fM apps) (ops:=ops) (P:=fun _=>True) hP (fun _ _=>trivial) trivial hy (by rw[GK];omega) om y.length post (Nat.le_refl _);rw[s1 x.length (Nat.le_refl _)] at e1;rw[s2 y.length (Nat.le_refl _)] at e2;obtain rfl:t1=t1':=congrArg Prod.fst e1;obtain rfl:t2=t2':=congrArg Prod.fst e2;have hc:=qz7 (apps:=fM apps) g1 g2 (by rw[GK];omega);have hl:(yM (fM apps) a b).flatten.length<=lens apps:=by rw[Ip];unfold yM;exact Nat.le_trans (qzq _ _) (qzr _ _)
  rw[hc,List.flatten_append,zd] at hl;refine⟨false,nd 6 [] [nd 6 [] [nd 3 ops[r] [],t1],t2],fun m hm=>?_,fun f hf=>?_⟩
  ·simp only[zj,zd] at hm;obtain⟨m,rfl⟩:∃k,m=k+1:=⟨m-1,by omega⟩;show p8 _ _=_;rw[Kt,dG hg,af,bP,if_neg om,dG (zg hr),af,UM,af,bK om,r1 m om,af];simp only;rw[uV _ _ _ _ _ (by simp only[ju,List.flatten_nil,List.length_nil];omega),af];simp only;rw[r2 m om,af];simp only;rw[uV _ _ _ _ _ (by simp only[ju,List.flatten_cons,List.flatten_nil,zt,zd,List.length_nil];omega),af];have e:n+1+x.length+y.length=n+((r:Int)::(x++y)).length:=by simp only[zj,zd];omega
   rw[e]
  ·simp only[zj,zd] at hf;obtain⟨f,rfl⟩:∃k,f=k+1:=⟨f-1,by omega⟩;show(if(r:Int)<0 then _ else(nd 6 [] [nd 6 [] [nd 3 ((ops[((r:Int)).toNat]?).getD []) [],(gW (fM apps) ops f ((x++y)++post)).1],(gW (fM apps) ops f (gW (fM apps) ops f ((x++y)++post)).2).1],(gW (fM apps) ops f (gW (fM apps) ops f ((x++y)++post)).2).2))=_;rw[if_neg om,zo,s1 f om];simp only;rw[s2 f om,Int.toNat_natCast,zg hr];rfl
section
variable {nb:Bool} {c:PC} {F:Y1} {E:Int} {Q:Tx→Prop} {N:Int→Prop}
theorem qzt(hF:mX c F)(op:Tx)(a d w k:Int):pZ (op,S nb c F a d w k)=some (!c.fx op,S nb c F a d w k):=by obtain⟨fn,fl⟩:=F;rw[TE,find_spec fn fl op hF.g.2.2,af,hF.fx];unfold yQ;simp only;cases jq fl op<;>rfl
theorem qzu(hF:mX c F)(q:Bool)(ops:List Tx)(ps:List Int)(hn:ops.length<=1000000)(hp:ps.length=ops.length)(a d w k:Int):∀(m i:Nat),i+m=ops.length->∃r,aX ql (⟨q,ops⟩,(ops.length:Int),(i:Int),S nb c F a d w k)=some (r,S nb c F a d w k)/\(match yL c (ops.drop i) (ps.drop i) with|none=>r=-1|some p=>∃j:Nat,r=(j:Int)/\ps[j]?=some p):=by
 intro m
 induction m with
 |zero=>
  intro i hi;refine⟨-1,cw ?_,?_⟩
  ·unfold ql;simp only;rw[bP,if_neg om]
  ·rw[zC (show ops.length<=i by omega),zC (show ps.length<=i by omega)];rfl
 |succ m ih=>
  intro i hi;have he:i<ops.length:=om
  have hc:i<ps.length:=om
  have step:ql (⟨q,ops⟩,(ops.length:Int),(i:Int),S nb c F a d w k)=az (!c.fx ops[i]) (some (.inr ((i:Int),S nb c F a d w k))) (some (.inl (⟨q,ops⟩,(ops.length:Int),((i+1:Nat):Int),S nb c F a d w k))):=by unfold ql;simp only;rw[bP,if_pos om,dG (zg he),af,qzt hF,af,bK om]
  rw[kI he,kI hc];show ∃r,_/\(match(bif c.fx ops[i] then yL c (ops.drop (i+1)) (ps.drop (i+1)) else some ps[i]) with|none=>r=-1|some p=>∃j:Nat,r=(j:Int)/\ps[j]?=some p);cases hx:c.fx ops[i] with
  |false=>rw[hx] at step;exact⟨(i:Int),cw step,i,rfl,zg hc⟩
  |true=>rw[hx] at step;obtain⟨r,h1,h2⟩:=ih (i+1) om;exact⟨r,by rw[ew step,h1],h2⟩
end
open Pz
section
variable {nb:Bool} {c:PC} {F:Y1} {E:Int} {Q:Tx→Prop} {N:Int→Prop}
variable {self:eZ} {ps pp:PT} {d B:Int}
theorem z8w(hn:c.l.length<=10000)(hB:(c.l.length:Int)+3<=B)(hv:B<=90000)(hF:mX c F){i0 i:Nat}{r:Row}(hr:RI c E Q N i0 i r)(hT:aW c i 5=false)(first:Int)(qp qa qo:Bool)(apps:List Y0)(ha:fM apps=r.apps):Sm nb c F i0 (B+3) d (mU c first r i) (aX (qQ self) (first,⟨nb,c.l⟩,c.e,F,(i:Int),d,0,0,⟨qp,r.at_⟩,⟨qa,apps⟩,⟨qo,r.ops⟩,())):=by
 have hi:=hr.le;have hm:=hr.m;have hw:=hr.n1;have hy:=hr.gt;have hz:apps.length=r.apps.length:=by rw[<-ha,GK]
 have hA:lens apps+apps.length<=3*(i-i0):=by rw[<-Iq,ha];omega
 have hl:0<apps.length:=om
 have hq:bA apps 0=some 0:=by unfold bA;rw[if_pos om];rfl
 have hf:nth apps 0=some apps[0]:=vA (zg hl);unfold mU;by_cases h0:r.ops=[]
 ·have step:qQ self (first,⟨nb,c.l⟩,c.e,F,(i:Int),d,0,0,⟨qp,r.at_⟩,⟨qa,apps⟩,⟨qo,r.ops⟩,())=some (.inr (apps[0],S nb c F (i:Int) d 0 0)):=by unfold qQ;simp only;rw[lZ (oK om),af,hT,aD,h0];simp only;rw[iY];have e:ag (ae ([]:List Tx)) 0=true:=rfl;simp only[av,Bool.not_true,aD,e,af,aU,hq,hf]
  rw[cw step,if_pos h0];refine⟨apps[0].nil,?_⟩;rw[<-ha,qzs hl];rfl
 ·rw[if_neg h0];obtain⟨j,hg,he⟩:=qzu (nb:=nb) hF qo r.ops r.at_ om hr.n2 (i:Int) d 0 0 r.ops.length 0 om;rw[List.drop_zero,List.drop_zero] at he;have hs:=List.length_pos_iff.2 h0;have e1:ag (ae r.ops) 0=false:=dx (by
   show((r.ops.length:Nat):Int)≠0;omega)
  have hg:p7 (⟨qo,r.ops⟩,S nb c F (i:Int) d 0 0)=some (j,S nb c F (i:Int) d 0 0):=by rw[TF];exact hg
  obtain⟨qc,er,hj,ht⟩:=z42 (n1:=F.nil) (n2:=qo) hF.g hF.z r.ops;have hj:lP (F,⟨qo,r.ops⟩,())=_:=hj;have step:qQ self (first,⟨nb,c.l⟩,c.e,F,(i:Int),d,0,0,⟨qp,r.at_⟩,⟨qa,apps⟩,⟨qo,r.ops⟩,())=
    az (cK 0 j) (aj (bA r.at_ j) (fun K0=>aj (nth r.at_ K0) (fun x15=>some (.inr (⟨true,[]⟩,S nb c F (i:Int) d x15 71)))))
     (aj (lP (F,⟨qo,r.ops⟩,())) (fun Ir=>az (av (ag Ir.2.1 0)) (some (.inr (⟨true,[]⟩,S nb c F (i:Int) d first 72))) (aj (sx (Ir.1,0,⟨qa,apps⟩,⟨qo,r.ops⟩,())) (fun x19=>some (.inr (x19.1,S nb c F (i:Int) d 0 0)))))):=by
   unfold qQ;simp only;rw[lZ (oK om),af,hT,aD];simp only;rw[iY];simp only[av,Bool.not_true,aD,e1,af,hg,DW]
  cases hx:yL c r.ops r.at_ with
  |some p=>rw[hx] at he;obtain⟨k,rfl,hk⟩:=he;have hu:k<r.at_.length:=(zF.1 hk).1;rw[EU,if_pos om,nE hu,af,vA hk,af] at step;rw[cw step];exact⟨_,(i:Int),d,rfl,(by decide:(71:Int)≠0),by omega,by simp only[List.length_nil];omega⟩
  |none=>
   rw[hx] at he;have he:j=-1:=he;subst he;rw[EU,if_neg om,hj,af,<-hF.cl] at step;cases hc:c.cl r.ops with
   |none=>rw[hc] at step;simp only at step;rw[dx ht] at step;rw[cw step];exact⟨_,(i:Int),d,rfl,(by decide:(72:Int)≠0),by omega,by simp only[List.length_nil];omega⟩
   |some x=>
    rw[hc] at step;simp only at step;rw[iY] at step;have ho:Bt 0 r.ops.length x:=Om hF.z (by rw[<-hF.cl];exact hc);have hC:x.length<=100000:=by
     have:∀{a b:Nat} {x:List Int},Bt a b x->x.length=2*(b-a)+1:=by
      intro a b x h
      induction h with
      |leaf a=>simp
      |node a r b x y h1 h2 h3 h4 il im=>have:=h4.le;simp only[zj,zd,il,im];omega
     have:=this ho;omega
    obtain⟨q,t,b1,b2⟩:=z8v (qa:=qa) (qo:=qo) (apps:=apps) (ops:=r.ops) om ho om (Nat.le_refl _) ⟨qc,x⟩ 0 [] (by simp) om;have b1:sx ((⟨qc,x⟩:Sl Int),(0:Int),(⟨qa,apps⟩:Sl Y0),(⟨qo,r.ops⟩:Sl Y2),())=some (⟨q,t⟩,⟨qc,x⟩,((0+x.length:Nat):Int),⟨qa,apps⟩,⟨qo,r.ops⟩,()):=Dv x.length b1;have b2:=b2 x.length (Nat.le_refl _);rw[zt] at b2;rw[b1,af] at step;simp only[av,Bool.not_true,aD] at step;rw[cw step];refine⟨q,?_⟩;show _=some ((⟨q,(gW r.apps r.ops x.length x).1⟩:Y0),S nb c F (i:Int) d 0 0);rw[<-ha,b2]
theorem z43(hn:c.l.length<=10000)(hB:(c.l.length:Int)+3<=B)(hC:B<=80000)(H:mV c E Q N)(hF:mX c F)(hs:Sf nb c F self ps d B)(ha:∀i,bQ E (AN c Q N i) (ps i))(ht:Sf nb c F iP pp d B)(hk:∀i,bQ E (AN c Q N i) (pp i))(i0:Nat)(first:Int):∀(m f i:Nat) (r:Row) (qp qa qo:Bool) (apps:List Y0),i+m=c.l.length->m<f->RI c E Q N i0 i r->fM apps=r.apps->Sm nb c F i0 (B+3) d (eb (gT c ps pp f i r) fun z=>mU c first z.1 z.2) (aX (qQ self) (first,⟨nb,c.l⟩,c.e,F,(i:Int),d,0,0,⟨qp,r.at_⟩,⟨qa,apps⟩,⟨qo,r.ops⟩,())):=by
 intro m
 induction m using Nat.strongRecOn with
 |_ m ih=>
  intro f i r qp qa qo apps hm hf hr hc;obtain⟨f,rfl⟩:∃g,f=g+1:=⟨f-1,by omega⟩;have hi:i<=c.l.length:=om
  have hD:=hr.m;have hu:=hr.n1;have hw:=hr.n2;have hE:=hr.gt;have hG:apps.length=r.apps.length:=by rw[<-hc,GK]
  have hH:lens apps+apps.length<=3*(i-i0):=by rw[<-Iq,hc];omega
  unfold gT;cases hT:aW c i 5 with
  |false=>exact z8w hn hB om hF hr hT first qp qa qo apps hc
  |true=>
   rw[cond_true];have hl:=sH hT;have hx:∀x:Int,fit (aQ (ae r.at_) (ae [x]))=some ():=fun x=>o4 (by
    show((r.at_.length:Nat):Int)+((1:Nat):Int)<=_;omega)
   have hy:∀x:Tx,fit (aQ (ae r.ops) (ae [x]))=some ():=fun x=>o4 (by
    show((r.ops.length:Nat):Int)+((1:Nat):Int)<=_;omega)
   have hz:∀x:Y0,fit (aQ (ae apps) (ae [x]))=some ():=fun x=>o4 (by
    show((apps.length:Nat):Int)+((1:Nat):Int)<=_;omega)
   have step:qQ self (first,⟨nb,c.l⟩,c.e,F,(i:Int),d,0,0,⟨qp,r.at_⟩,⟨qa,apps⟩,⟨qo,r.ops⟩,())=
     aj (vw self (S nb c F ((i+1:Nat):Int) d 0 0)) (fun x8=>some (.inl (first,x8.2.1,x8.2.2.1,x8.2.2.2.1,x8.2.2.2.2.1,x8.2.2.2.2.2.1,x8.2.2.2.2.2.2.1,x8.2.2.2.2.2.2.2.1,⟨aF qp (cj [jB c i]),r.at_++[jB c i]⟩,⟨aF qa (cj [x8.1]),apps++[x8.1]⟩,⟨aF qo (cj [dN c i]),r.ops++[dN c i]⟩,()))):=by
    unfold qQ;simp only;rw[lZ (oK om),af,hT,aU];simp only;rw[yO om,af,Int.toNat_natCast,hx,af];simp only;rw[Cz (ks:=[]) (.inl hT) om,af];simp only[DX,hy,af,hz];rfl
   have hp:=qzp hn hB om H hs ha ht hk (show i+1<=c.l.length from hl);have ho:=Ob H ha hk (i+1);cases hq:gS c ps pp (i+1) with
   |ok x=>
    rw[hq] at hp ho;obtain⟨b,hb⟩:=hp;obtain⟨x1,x2,x3,x4⟩:=ho;rw[hb,af] at step;rw[ew step];refine ih (c.l.length-x.2) om f x.2 ⟨r.apps++[x.1],r.ops++[dN c i],r.at_++[jB c i]⟩ _ _ _ (apps++[⟨b,x.1⟩]) om om ?_ (by rw[Oj,hc]);refine⟨?_,?_,?_,by omega,x2,?_,?_,?_⟩
    ·simp only[zd,zj,List.length_nil,hu]
    ·simp only[zd,zj,List.length_nil,hw]
    ·simp only[DV,zd,zj,List.length_nil];omega
    ·intro a ha;rcases zN.1 ha with ha|ha
     ·exact hr.g1 a ha
     ·rw[zK.1 ha];exact x4
    ·intro a ha;rcases zN.1 ha with ha|ha
     ·exact hr.g2 a ha
     ·rw[zK.1 ha];exact AJ H i
    ·intro a ha;rcases zN.1 ha with ha|ha
     ·exact hr.g3 a ha
     ·rw[zK.1 ha];exact N9 H i
   |error e=>
    rw[hq] at hp;obtain⟨v,a,d',hv,he,h2,h3⟩:=hp;rw[hv,af] at step;rw[ew step];have hI:0<(apps++[v]).length:=by rw[zd,List.length_singleton];omega
    have hA:bA (apps++[v]) 0=some 0:=by unfold bA;rw[if_pos om];rfl
    have hg:0<apps.length:=om
    have hj:nth (apps++[v]) 0=some apps[0]:=by refine vA ?_;rw[zR hg,zg hg]
    have fin:qQ self (first,⟨nb,c.l⟩,c.e,F,a,d',e.1,e.2,⟨aF qp (cj [jB c i]),r.at_++[jB c i]⟩,⟨aF qa (cj [v]),apps++[v]⟩,⟨aF qo (cj [dN c i]),r.ops++[dN c i]⟩,())=some (.inr (apps[0],S nb c F a d' e.1 e.2)):=by unfold qQ;simp only;rw[qH he,af,aD];simp only;rw[dx he];simp only[av,Bool.not_false,aU,af,hA,hj]
    refine⟨apps[0],a,d',cw fin,he,by omega,?_⟩;have h1:apps[0].l.length<=lens apps:=by
     have hd:apps=apps[0]::apps.drop 1:=by
      have:=kI hg
      rwa [List.drop_zero] at this
     have e:lens apps=apps[0].l.length+lens (apps.drop 1):=by
      conv=>lhs;rw[hd]
      unfold lens;rw[zJ,List.sum_cons]
     omega
    omega
theorem z8x(hn:c.l.length<=10000)(hB:(c.l.length:Int)+3<=B)(hk:B<=80000)(H:mV c E Q N)(hF:mX c F)(hs:Sf nb c F self ps d B)(ha:∀i,bQ E (AN c Q N i) (ps i))(hg:Sf nb c F iP pp d B)(hc:∀i,bQ E (AN c Q N i) (pp i)){i:Nat}(hi:i<=c.l.length):Sm nb c F i (B+3) d (lY c ps pp i) (B9 self (S nb c F (i:Int) d 0 0)):=by
 rw[TJ,yO om,af,Int.toNat_natCast];simp only;unfold lY;have hp:=qzp hn hB om H hs ha hg hc hi;have hj:=Ob H ha hc i;cases hr:gS c ps pp i with
 |ok x=>
  rw[hr] at hp hj;obtain⟨b,hb⟩:=hp;obtain⟨x1,x2,x3,x4⟩:=hj;rw[hb,af];have e:tot [x.1]=x.1.length+1:=by unfold tot;simp
  refine z43 hn hB hk H hF hs ha hg hc i (jB c i) (c.l.length-x.2) (c.l.length+1) x.2 ⟨[x.1],[],[]⟩ true false true [⟨b,x.1⟩] om om ⟨rfl,rfl,?_,x1,x2,?_,(fun _ h=>absurd h (List.not_mem_nil)),(fun _ h=>absurd h (List.not_mem_nil))⟩ rfl
  ·simp only[e,List.length_nil];omega
  ·intro a ha;rw[zK.1 ha];exact x4
 |error e=>
  rw[hr] at hp;obtain⟨v,a,d',hv,he,h2,h3⟩:=hp;rw[hv,af];have hl:bA [v] 0=some 0:=by unfold bA;rw[if_pos (by simp)];rfl
  have hf:nth [v] 0=some v:=rfl;have fin:qQ self (jB c i,⟨nb,c.l⟩,c.e,F,a,d',e.1,e.2,⟨true,[]⟩,⟨false,[v]⟩,⟨true,[]⟩,())=some (.inr (v,S nb c F a d' e.1 e.2)):=by unfold qQ;simp only;rw[qH he,af,aD];simp only;rw[dx he];simp only[av,Bool.not_false,aU,af,hl,hf]
  exact⟨v,a,d',cw fin,he,h2,h3⟩
end
open Pz
section
variable {nb:Bool} {c:PC} {F:Y1} {E:Int} {Q:Tx→Prop} {N:Int→Prop}
variable {self:eZ} {ps pp:PT} {d B:Int}
theorem z44(hn:c.l.length<=10000)(hB:(c.l.length:Int)+3<=B)(hc:B<=80000)(H:mV c E Q N)(hF:mX c F)(hs:Sf nb c F self ps d B)(ha:∀i,bQ E (AN c Q N i) (ps i))(hf:Sf nb c F iP pp d B)(hg:∀i,bQ E (AN c Q N i) (pp i)){i:Nat}(hi:i<=c.l.length):Sm nb c F i (B+3) d (ph c ps pp i) (AA self (S nb c F (i:Int) d 0 0)):=by
 have hk:i<=1000000:=om
 rw[TK,mW (ks:=[[102,117,110],[108,101,116],[105,102],[114,97,105,115,101],[116,114,121]]) hk (by simp) (by simp),af,tZ];simp only;unfold ph;have eK:ct c i [[102,117,110],[108,101,116],[105,102],[114,97,105,115,101],[116,114,121]]=ct c i [ix,gm,pe,cU,iU]:=rfl;rw[eK];cases hK:ct c i [ix,gm,pe,cU,iU] with
 |false=>exact(z8x hn hB hc H hF hs ha hf hg hi).eta
 |true=>
  have hl:=AK hK;simp only[aU,cond_true];rw[Cz (k:=0) (.inr hK) om,af,DX];simp only;have hm:i+1<=1000000:=om
  rw[Bi];by_cases h1:dN c i=ix
  ·rw[if_pos (show dN c i=[102,117,110] from h1),zu h1,cond_true];refine Oi hn H hl (fun s s1 s2=>?_) fun v a w er he h2=>?_
   ·simp only;refine Sm.bind (GM hn hB hs s2 gQ) (ck H ha s.2 gQ) (fun b x ⟨x1,x2,x3,x4⟩=>?_) fun v a d' w er he h h'=>?_
    ·simp only;rw[KY _ _ _ _ (by simp only;omega),af];exact⟨_,rfl⟩
    ·simp only;rw[KY _ _ _ _ om,af];refine⟨_,a,d',rfl,by omega,?_⟩;simp only[ju,List.flatten_cons,List.flatten_nil,zt];omega
   ·simp only;rw[yP hs he om om,af];simp only;rw[KY _ _ _ _ (by simp),af];refine⟨_,a+1,d,rfl,by omega,?_⟩;simp only[ju,List.flatten_cons,List.flatten_nil,zt,List.length_nil];omega
  ·rw[if_neg (show ¬dN c i=[102,117,110] from h1),zn h1,cond_false,Bi];by_cases h2:dN c i=gm
   ·rw[if_pos (show dN c i=[108,101,116] from h2),zu h2,cond_true,mW (ks:=[[114,101,99]]) hm (by simp) (by simp),af];have eR:ct c (i+1) [[114,101,99]]=ct c (i+1) [gn]:=rfl;have hx:az (ct c (i+1) [gn]) (some ((8:Int),S nb c F (aG .i64 ((i+1:Nat):Int) 1) d 0 0)) (some ((7:Int),S nb c F ((i+1:Nat):Int) d 0 0))=some ((bif ct c (i+1) [gn] then(8:Int) else 7),S nb c F ((bif ct c (i+1) [gn] then i+2 else i+1:Nat):Int) d 0 0):=by rw[bK om];cases ct c (i+1) [gn]<;>rfl
    have hj:i+1<=(bif ct c (i+1) [gn] then i+2 else i+1)/\(bif ct c (i+1) [gn] then i+2 else i+1)<=c.l.length:=by
     cases t2:ct c (i+1) [gn] with
     |true=>have:=AK t2;exact⟨by rw[cond_true];omega,by rw[cond_true];omega⟩
     |false=>exact⟨by rw[cond_false];omega,by rw[cond_false];omega⟩
    simp only;rw[eR,hx,af];simp only;generalize (bif ct c (i+1) [gn] then i+2 else i+1)=j at hj ⊢;generalize (bif ct c (i+1) [gn] then(8:Int) else 7)=k;obtain⟨j1,j2⟩:=hj;refine Oi hn H j2 (fun s s1 s2=>?_) fun v a w er he h2=>?_
    ·simp only;refine Sm.bind (GM hn hB hs s2 vE) (ck H ha s.2 vE) (fun b x ⟨x1,x2,x3,x4⟩=>?_) fun v a d' w er he h h'=>?_
     ·simp only;refine Sm.bind (GM hn hB hs x2 uS) (ck H ha x.2 uS) (fun b2 y ⟨y1,y2,y3,y4⟩=>?_) fun v a d' w er he h h'=>?_
      ·simp only;rw[uV _ _ _ _ _ (by simp only;omega),af];exact⟨_,rfl⟩
      ·simp only;rw[uV _ _ _ _ _ (by simp only;omega),af];refine⟨_,a,d',rfl,by omega,?_⟩;simp only[ju,List.flatten_cons,List.flatten_nil,zt,zd];omega
     ·simp only;rw[yP hs he om om,af];simp only;rw[uV _ _ _ _ _ (by simp only[List.length_nil];omega),af];refine⟨_,a+1,d',rfl,by omega,?_⟩;simp only[ju,List.flatten_cons,List.flatten_nil,zt];omega
    ·simp only;rw[yP hs he om om,af];simp only;rw[yP hs he om om,af];simp only;rw[uV _ _ _ _ _ (by simp),af];refine⟨_,a+1+1,d,rfl,by omega,?_⟩;simp only[ju,List.flatten_cons,List.flatten_nil,zt,List.length_nil];omega
   ·rw[if_neg (show ¬dN c i=[108,101,116] from h2),zn h2,cond_false,Bi];by_cases h3:dN c i=pe
    ·rw[if_pos (show dN c i=[105,102] from h3),zu h3,cond_true];refine Sm.bind (hs.ok (i+1) hl) (ha (i+1)) (fun b x ⟨x1,x2,x3,x4⟩=>?_) fun v a d' w er he h h'=>?_
     ·simp only;refine Sm.bind (GM hn hB hs x2 iy) (ck H ha x.2 iy) (fun b2 y ⟨y1,y2,y3,y4⟩=>?_) fun v a d' w er he h h'=>?_
      ·simp only;refine Sm.bind (GM hn hB hs y2 iz) (ck H ha y.2 iz) (fun b3 z ⟨z1,z2,z3,z4⟩=>?_) fun v a d' w er he h h'=>?_
       ·simp only;rw[Oh _ _ _ _ _ _ (by simp only;omega),af];exact⟨_,rfl⟩
       ·simp only;rw[Oh _ _ _ _ _ _ (by simp only;omega),af];refine⟨_,a,d',rfl,by omega,?_⟩;simp only[ju,List.flatten_cons,List.flatten_nil,zt,zd];omega
      ·simp only;rw[yP hs he om om,af];simp only;rw[Oh _ _ _ _ _ _ (by simp only[List.length_nil];omega),af];refine⟨_,a+1,d',rfl,by omega,?_⟩;simp only[ju,List.flatten_cons,List.flatten_nil,zt,zd];omega
     ·simp only;rw[yP hs he om om,af];simp only;rw[yP hs he om om,af];simp only;rw[Oh _ _ _ _ _ _ (by simp only[List.length_nil];omega),af];refine⟨_,a+1+1,d',rfl,by omega,?_⟩;simp only[ju,List.flatten_cons,List.flatten_nil,zt];omega
    ·rw[if_neg (show ¬dN c i=[105,102] from h3),zn h3,cond_false,Bi];by_cases h4:dN c i=cU
     ·rw[if_pos (show dN c i=[114,97,105,115,101] from h4),zu h4,cond_true];refine Sm.bind (hs.ok (i+1) hl) (ha (i+1)) (fun b x ⟨x1,x2,x3,x4⟩=>?_) fun v a d' w er he h h'=>?_
      ·simp only;rw[KY _ _ _ _ (by simp only;omega),af];exact⟨_,rfl⟩
      ·simp only;rw[KY _ _ _ _ om,af];refine⟨_,a,d',rfl,by omega,?_⟩;simp only[ju,List.flatten_cons,List.flatten_nil,zt];omega
     ·rw[if_neg (show ¬dN c i=[114,97,105,115,101] from h4),zn h4,cond_false];refine Sm.bind (hs.ok (i+1) hl) (ha (i+1)) (fun b x ⟨x1,x2,x3,x4⟩=>?_) fun v a d' w er he h h'=>?_
      ·simp only;refine GJ om (fun hx=>?_) fun w=>?_
       ·simp only;refine Oi hn H hx (fun s s1 s2=>?_) fun v a w er he h2=>?_
        ·simp only;refine Sm.bind (GM hn hB hs s2 gQ) (ck H ha s.2 gQ) (fun b2 y ⟨y1,y2,y3,y4⟩=>?_) fun v a d' w er he h h'=>?_
         ·simp only;rw[uV _ _ _ _ _ (by simp only;omega),af];exact⟨_,rfl⟩
         ·simp only;rw[uV _ _ _ _ _ (by simp only;omega),af];refine⟨_,a,d',rfl,by omega,?_⟩;simp only[ju,List.flatten_cons,List.flatten_nil,zt,zd];omega
        ·simp only;rw[yP hs he om om,af];simp only;rw[uV _ _ _ _ _ (by simp only[List.length_nil];omega),af];refine⟨_,a+1,d,rfl,by omega,?_⟩;simp only[ju,List.flatten_cons,List.flatten_nil,zt];omega
       ·simp only;rw[z5r dc om,af];simp only;rw[yP hs dc om om,af];simp only;rw[uV _ _ _ _ _ (by simp only[List.length_nil];omega),af];refine⟨_,((x.2+1:Nat):Int)+1,d,rfl,by omega,?_⟩;simp only[ju,List.flatten_cons,List.flatten_nil,zt];omega
      ·simp only;rw[Io he om om,af];simp only;rw[z5r he om,af];simp only;rw[yP hs he om om,af];simp only;rw[uV _ _ _ _ _ (by simp only[List.length_nil];omega),af];refine⟨_,a+1+1,d',rfl,by omega,?_⟩;simp only[ju,List.flatten_cons,List.flatten_nil,zt];omega
theorem Sf.wide{sf:eZ}{B':Int}(h:Sf nb c F sf ps d B)(hB:B<=B'):Sf nb c F sf ps d B':=⟨h.err,fun i hi=>(h.ok i hi).wide (Nat.le_refl _) hB⟩
theorem z5t{er:Int}(he:er≠0)(a dp w:Int):AB self (S nb c F a dp w er)=some (⟨true,[]⟩,S nb c F a dp w er):=by rw[Ku,dx he];rfl
theorem z45(hn:c.l.length<=10000)(H:mV c E Q N)(hF:mX c F):∀(f n:Nat),f<=100->f<n->Sf nb c F (cL kx n) (cE c f) (100-(f:Int)) (c.l.length+3+3*f):=by
 intro f
 induction f with
 |zero=>
  intro n _ hc;obtain⟨n,rfl⟩:∃g,n=g+1:=⟨n-1,by omega⟩;refine⟨fun he a dp w=>?_,fun i hi=>?_⟩
  ·show kx _ _=_;rw[uD,z5t he];rfl
  ·show Sm nb c F i _ _ _ (kx _ _);rw[uD,Ku,iY];simp only[av,Bool.not_true,aD];have e:ag (100-((0:Nat):Int)) 100=true:=rfl;rw[e,aU,yO om,af,Int.toNat_natCast];simp only;rw[DW,af];exact⟨_,(i:Int),_,rfl,(by decide:(73:Int)≠0),by omega,by simp only[List.length_nil];omega⟩
 |succ f ih=>
  intro n hf hc;obtain⟨n,rfl⟩:∃g,n=g+1:=⟨n-1,by omega⟩;have hs:=ih n om om;have hg:=(z3z (nb:=nb) (F:=F) hn H f om).wide (show(c.l.length:Int)+3+f<=c.l.length+3+3*f by omega);refine⟨fun he a dp w=>?_,fun i hi=>?_⟩
  ·show kx _ _=_;rw[uD,z5t he];rfl
  ·show Sm nb c F i _ _ _ (kx _ _);rw[uD,Ku,iY];simp only[av,Bool.not_true,aD];have e:ag (100-((f+1:Nat):Int)) 100=false:=dx om;have e2:aG .i64 (100-((f+1:Nat):Int)) 1=100-(f:Int):=by rw[pD om om];omega
   have e3:bU .i64 (100-(f:Int)) 1=100-((f+1:Nat):Int):=by rw[nv om om];omega
   rw[e,aD,e2];have h:=z44 hn om om H hF hs (Oc H f) hg (Oa H f) hi;show Sm nb c F i _ _ (ph c (cE c f) (cW c f) i) _;cases hr:ph c (cE c f) (cW c f) i with
   |ok x=>rw[hr] at h;obtain⟨b,hb⟩:=h;rw[hb,af,af];simp only;rw[e3];exact⟨b,rfl⟩
   |error e=>rw[hr] at h;obtain⟨v,a,d',hv,he,h2,h3⟩:=h;rw[hv,af,af];exact⟨v,a,_,rfl,he,by omega,h3⟩
theorem z46(hn:c.l.length<=10000)(H:mV c E Q N)(hF:mX c F):Sm nb c F 0 20000 0 (cE c 100 0) (sy (S nb c F 0 0 0 0)):=by have hs:=(z45 (nb:=nb) (F:=F) hn H hF 100 101 (Nat.le_refl _) (Nat.lt_succ_self _)).ok 0 (Nat.zero_le _);have up:∀x,lq (cL kx 101 x) (sy x):=fun x y e=>qzk (fun _ _ h=>z8u h) e;exact((hs.up (up _)).wide (Nat.le_refl _) om)
theorem qic(hn:c.l.length<=10000)(H:mV c E Q N)(hF:mX c F):∃b,lg (⟨nb,c.l⟩,c.e,F,())=(match jt c with
   |.error q=>some (⟨true,[]⟩,q.1,q.2,())
   |.ok l=>aj (ga (⟨b,l⟩,())) fun x=>az (av (ag x.1 0)) (some (⟨true,[]⟩,0,74,())) (some (⟨b,l⟩,0,0,()))):=by
 obtain⟨fn,fl⟩:=F;have hz:fb fl=0:=hF.z;have h:=z46 (nb:=nb) hn H hF;have ho:=Oc H 100 0;rw[TM,Ik fn hF.g,hz,af];simp only;rw[iY];simp only[av,Bool.not_true,aD];unfold jt;cases hr:cE c 100 0 with
 |error q=>rw[hr] at h;obtain⟨v,a,d',hv,he,h2,h3⟩:=h;have hv:sy (⟨nb,c.l⟩,c.e,⟨fn,fl⟩,0,0,0,0,())=_:=hv;rw[hv,af];simp only;rw[dx he];refine⟨true,?_⟩;simp only[aD,af];rw[dx he];rfl
 |ok x=>
  rw[hr] at h ho;obtain⟨b,hb⟩:=h;have hb:sy (⟨nb,c.l⟩,c.e,⟨fn,fl⟩,0,0,0,0,())=_:=hb;obtain⟨x1,x2,x3,x4⟩:=ho;rw[hb,af];simp only;rw[iY,aU,af,bP];refine⟨b,?_⟩;show _=(match(if x.2<c.l.length then(.error (jB c x.2,70):PR (List ND)) else .ok x.1) with|.error q=>_|.ok l=>_);by_cases hc:x.2<c.l.length
  ·rw[if_pos (show(x.2:Int)<ae c.l by show(x.2:Int)<((c.l.length:Nat):Int);omega),if_pos hc,yO om,af,Int.toNat_natCast];simp only;rw[DW,af];rfl
  ·rw[if_neg (show ¬(x.2:Int)<ae c.l by show ¬(x.2:Int)<((c.l.length:Nat):Int);omega),if_neg hc,af];simp only;rw[iY];rfl
end
open Pz
theorem On{g:Y6->Option Y8}{p:Int->Bool}(hg:∀c,g (c,())=some (p c,()))(K:iJ->Option (iJ⊕Y6))(hK:∀s k,K (s,k,())=aj (az (aK k (ae s)) (aj (cZ s k) (fun x1=>aj (g (x1,())) (fun x2=>some x2.1))) (some false)) (fun x3=>az x3 (some (Sum.inl (s,aG .i64 k 1,()))) (some (Sum.inr (k,())))))(s:Tx)(hs:s.length<=900000000):∀(m k:Nat),k+m=s.length->aX K (s,(k:Int),())=some (((k+dZ p (s.drop k):Nat):Int),()):=by
 intro m
 induction m with
 |zero=>intro k hk;apply cw;rw[hK,bP,if_neg (show ¬(k:Int)<ae s by show ¬(k:Int)<((s.length:Nat):Int);omega),af,aD,zC om];rfl
 |succ m ih=>
  intro k hk;have hc:k<s.length:=om
  have hd:=kI hc;have step:K (s,(k:Int),())=az (p s[k]) (some (Sum.inl (s,((k+1:Nat):Int),()))) (some (Sum.inr ((k:Int),()))):=by rw[hK,bP,if_pos (show(k:Int)<ae s by show(k:Int)<((s.length:Nat):Int);omega),dG (zg hc),af,hg,af,af,bK om]
  rw[hd];unfold dZ;cases hp:p s[k] with
  |true=>rw[hp,aU] at step;rw[ew step,ih (k+1) om,cond_true];congr 3;omega
  |false=>rw[hp,aD] at step;rw[cw step,cond_false];rfl
theorem zci(s:Tx)(hs:s.length<=900000000):uu (s,())=some (((dZ eW s:Nat):Int),()):=by have h:=On qk9 DF (fun _ _=>rfl) s hs s.length 0 om;rw[zD,List.drop_zero] at h;rw[Tj];exact h
def df(c:Int):Bool:=decide (c∈bN)
theorem zcj(s:Tx)(hs:s.length<=900000000):uv (s,())=some (((dZ df s:Nat):Int),()):=by have h:=On (p:=df) Ul DG (fun _ _=>rfl) s hs s.length 0 om;rw[zD,List.drop_zero] at h;rw[Tl];exact h
theorem zck(s:Tx)(hs:s.length<=900000000):uw (s,())=some (((dZ gC s:Nat):Int),()):=by have h:=On (p:=gC) Uq DH (fun _ _=>rfl) s hs s.length 0 om;rw[zD,List.drop_zero] at h;rw[Tm];exact h
def jC(c:Int):Bool:=av (ag c 10)
theorem zcl(s:Tx)(hs:s.length<=900000000):si (s,())=some (((dZ jC s:Nat):Int),()):=by have h:=On (p:=jC) Th DE (fun _ _=>rfl) s hs s.length 0 om;rw[zD,List.drop_zero] at h;rw[Ti];exact h
def fB(t:Tx):Bool:=decide (t∈uL)
theorem K1(k:Int)(s:Tx){n:Nat}(hn:n<=s.length):ox ((n:Int),k,s,())=some (((bif fB (s.take n) then 6 else k),s.take n,0,0),(n:Int),0,()):=by
 rw[Tn,DQ hn,af,NX,af];unfold fB;cases decide (s.take n∈uL) with
 |true=>simp only[aU,af,DQ hn];rfl
 |false=>simp only[aD,af,DQ hn];rfl
theorem qvz(x:Int):∃v,lM (x,())=some (v,())/\mP v:=by
 rw[Kf];have h1:gZ .u64 (fS .u64 x) 1=some (IntKind.u64.wrap (fS .u64 x*2 ^ min (1:Int).toNat IntKind.u64.bits)):=by unfold gZ;rw[if_neg dc]
 rw[h1,af];have h2:=Z5 (a:=fS .i64 (IntKind.u64.wrap (fS .u64 x*2 ^ min (1:Int).toNat IntKind.u64.bits))) 1 dc;have h2:iK .i64 (fS .i64 (IntKind.u64.wrap (fS .u64 x*2 ^ min (1:Int).toNat IntKind.u64.bits))) 1=_:=h2;rw[h2,af];refine⟨_,rfl,?_⟩;generalize IntKind.u64.wrap (fS .u64 x*2 ^ min (1:Int).toNat IntKind.u64.bits)=z;unfold fS mP;rw[Uv];split<;>omega
theorem qzv(x:Int):∃t,iv (x,())=some (t,()):=by
 obtain⟨v,hv,h1,h2⟩:=qvz x;have hf:ui (v,10,())=some (kS v,()):=by show(bif decide ((10:Int)=10)&&(decide (-9223372036854775808<=v)&&decide (v<=9223372036854775807)) then some (kS v,()) else none)=_;rw[zu h1,zu h2];rfl
 have hl:=NB v;have hr:uh (kS v,[45],[126],1,())=some (gO (kS v),()):=by show(bif (([45]:List Int)==[45])&&((([126]:List Int)==[126])&&(decide ((1:Int)=1)&&decide ((kS v).length<=1000))) then some (gO (kS v),()) else none)=_;rw[zu (show(kS v).length<=1000 by omega)];rfl
 rw[Kk,hv,af];simp only;rw[hf,af];simp only;rw[hr,af];exact⟨_,rfl⟩
theorem qp0(s:Tx)(bl:Bool)(r:Tx)(hr:∀b,b∈r->0<=b/\b<=255)(_hl:r.length<=900000000):∀(m k:Nat) (n:Int),k+m=r.length->∃x e,aX fp (s,bl,n,r,(k:Int),())=some (x,e,())/\mP x:=by
 intro m
 induction m with
 |zero=>
  intro k n hk;have he:¬(k:Int)<ae r:=by show ¬(k:Int)<((r.length:Nat):Int);omega
  have r0:mP 0:=⟨by decide,by decide⟩;have hx:∀z:Int,∃x e,(aj (aj (az (aK 4611686018427387903 z) (some true) (some (aK z (-4611686018427387904)))) (fun x6=>aj (az x6 (some true) (aj (iv (z,())) (fun x7=>some (av (eU x7.1 s))))) (fun x8=>az x8 (some (Sum.inr ((0:Int),(11:Int),()))) (some (Sum.inr (z,(0:Int),())))))) (fun y=>(some y:Option ((Y2×Bool×Int×Y2×Int×Unit)⊕vu))))=some (Sum.inr (x,e,()))/\mP x:=by
   intro z;obtain⟨t,ht⟩:=qzv z;rw[ht,bP];by_cases h1:4611686018427387903<z
   ·rw[if_pos h1];exact⟨0,11,rfl,r0⟩
   ·rw[if_neg h1];have e:aK z (-4611686018427387904)=decide (z< -4611686018427387904):=rfl;rw[e];by_cases h2:z< -4611686018427387904
    ·rw[zu h2];exact⟨0,11,rfl,r0⟩
    ·rw[zn h2];cases h3:eU t s with
     |true=>exact⟨z,0,by simp only[af,aD,h3,av,Bool.not_true],by omega,by omega⟩
     |false=>exact⟨0,11,by simp only[af,aD,aU,h3,av,Bool.not_false],r0⟩
  cases bl with
  |true=>
   obtain⟨x,e,h1,h2⟩:=hx n;refine⟨x,e,cw ?_,h2⟩;unfold fp;simp only;rw[bP,if_neg he];revert h1;cases hq:(aj (az (aK 4611686018427387903 n) (some true) (some (aK n (-4611686018427387904)))) (fun x6=>aj (az x6 (some true) (aj (iv (n,())) (fun x7=>some (av (eU x7.1 s))))) (fun x8=>az x8 (some (Sum.inr ((0:Int),(11:Int),()))) (some (Sum.inr (n,(0:Int),())))))) with
   |none=>intro h;cases h
   |some y=>intro h;exact Eq.trans hq h
  |false=>
   obtain⟨x,e,h1,h2⟩:=hx (bU .i64 0 n);refine⟨x,e,cw ?_,h2⟩;unfold fp;simp only;rw[bP,if_neg he];revert h1;cases hq:(aj (az (aK 4611686018427387903 (bU .i64 0 n)) (some true) (some (aK (bU .i64 0 n) (-4611686018427387904)))) (fun x6=>aj (az x6 (some true) (aj (iv (bU .i64 0 n,())) (fun x7=>some (av (eU x7.1 s))))) (fun x8=>az x8 (some (Sum.inr ((0:Int),(11:Int),()))) (some (Sum.inr (bU .i64 0 n,(0:Int),())))))) with
   |none=>intro h;cases h
   |some y=>intro h;exact Eq.trans hq h
 |succ m ih=>
  intro k n hk;have he:k<r.length:=om
  have hc:(k:Int)<ae r:=by show(k:Int)<((r.length:Nat):Int);omega
  have step:∀n,fp (s,bl,n,r,(k:Int),())=aj (az (aK (dP r (k:Int)) 48) (some true) (some (aK 57 (dP r (k:Int))))) (fun x3=>aj (az x3 (some true) (some (aK n (-461168601842738790)))) (fun x4=>az x4 (some (Sum.inr (0,11,()))) (some (Sum.inl (s,bl,bU .i64 (mq .i64 10 n) (fS .i64 (bU .i32 (dP r (k:Int)) 48)),r,eV r (k:Int),()))))):=by intro n;unfold fp;simp only;rw[bP,if_pos hc,bP,if_pos hc,af]
  have r0:mP 0:=⟨by decide,by decide⟩;have bad:∀n,fp (s,bl,n,r,(k:Int),())=some (Sum.inr (0,11,()))->∃x e,aX fp (s,bl,n,r,(k:Int),())=some (x,e,())/\mP x:=fun n h=>⟨0,11,cw h,r0⟩;obtain⟨a1,a2⟩:=KJ hr he;by_cases h1:127<r[k]
  ·refine bad n ?_;have:=a2 h1;rw[step,bP,if_neg om];have e:aK 57 (dP r (k:Int))=true:=zu om;rw[e];rfl
  ·obtain⟨b1,b2⟩:=a1 om;have st:=step n;rw[b1,b2] at st;by_cases h2:r[k]<48
   ·refine bad n ?_;rw[st,bP,if_pos h2];rfl
   ·by_cases h3:57<r[k]
    ·refine bad n ?_;rw[st,bP,if_neg h2];have e:aK 57 r[k]=true:=zu h3;rw[e];rfl
    ·by_cases h4:n< -461168601842738790
     ·refine bad n ?_;rw[st,bP,if_neg h2];have e:aK 57 r[k]=false:=zn h3;have e2:aK n (-461168601842738790)=true:=zu h4;rw[e,e2];rfl
     ·rw[bP,if_neg h2] at st;have e:aK 57 r[k]=false:=zn h3;have e2:aK n (-461168601842738790)=false:=zn h4;rw[e,e2] at st;rw[ew st];exact ih (k+1) _ om
theorem qzw(s:Tx)(hs:∀b,b∈s->0<=b/\b<=255)(hl:s.length<=900000000):∃x e,oy (s,())=some (x,e,())/\mP x:=by
 rw[Ko,Kn,Km,Fe];have e1:ae ([126]:Tx)=((1:Nat):Int):=rfl;rw[e1,EU];have none:∃x e,aX fp (s,false,0,s,0,())=some (x,e,())/\mP x:=qp0 s false s hs hl s.length 0 0 om;by_cases h1:((1:Nat):Int)<=ae s
 ·have he:1<=s.length:=by have:((1:Nat):Int)<=((s.length:Nat):Int):=h1;omega
  rw[if_pos h1,DQ he,af,af,af,tZ];cases h2:eU (s.take 1) [126] with
  |false=>exact none
  |true=>
   have hc:cf s ((1:Nat):Int) (ae s)=some (s.drop 1):=by unfold cf ae;rw[if_pos om];simp
   simp only[aU,hc,af];exact qp0 s true (s.drop 1) (fun b hb=>hs b (List.mem_of_mem_drop hb)) (by rw[zH];omega) (s.drop 1).length 0 0 om
 ·rw[if_neg h1,af,af,tZ,aD,af,af];exact none
noncomputable def gV(s:Tx):Int×Int:=match oy (s,()) with
 |some x=>(x.1,x.2.1)
 |none=>(0,0)
theorem qzx(s:Tx)(hs:∀b,b∈s->0<=b/\b<=255)(hl:s.length<=900000000):oy (s,())=some ((gV s).1,(gV s).2,())/\mP (gV s).1:=by obtain⟨x,e,h1,h2⟩:=qzw s hs hl;unfold gV;rw[h1];exact⟨rfl,h2⟩
open Pz
abbrev sJ:Tx:=[48,49,50,51,52,53,54,55,56,57,97,98,99,100,101,102]
theorem z5u(c:Int):mn c sJ=cN c:=by
 by_cases h:c∈sJ
 ·simp only[zw,List.not_mem_nil,or_false] at h;rcases h with rfl|rfl|rfl|rfl|rfl|rfl|rfl|rfl|rfl|rfl|rfl|rfl|rfl|rfl|rfl|rfl<;>rfl
 ·have h1:=(NA c sJ).1;have h2:¬0<=mn c sJ:=fun e=>h ((Uk c sJ).1 e);have h3:cN c=-1:=by
   simp only[zw,List.not_mem_nil,or_false,not_or] at h;unfold cN gC;rw[show(decide (48<=c)&&decide (c<=57))=false by
    rw[Bool.and_eq_false_iff];by_cases h4:48<=c
    ·exact .inr (zn om)
    ·exact .inl (zn h4),show(decide (97<=c)&&decide (c<=102))=false by
    rw[Bool.and_eq_false_iff];by_cases h4:97<=c
    ·exact .inr (zn om)
    ·exact .inl (zn h4)]
   rfl
  omega
theorem qzy(c:Int):cN c<=15:=by
 unfold cN gC;cases h:(decide (48<=c)&&decide (c<=57)) with
 |true=>simp only[ze,decide_eq_true_eq] at h;rw[cond_true];omega
 |false=>
  rw[cond_false];cases h2:(decide (97<=c)&&decide (c<=102)) with
  |true=>simp only[ze,decide_eq_true_eq] at h2;rw[cond_true];omega
  |false=>rw[cond_false];omega
theorem UP:∀x y:Fin 16,fS .u8 (po .i64 ((x.val:Int)*16) (y.val:Int))=16*(x.val:Int)+(y.val:Int):=dc
theorem zcm{x y:Int}(h1:0<=x)(h2:x<=15)(h3:0<=y)(h4:y<=15):fS .u8 (po .i64 (x*16) y)=16*x+y:=by obtain⟨a,rfl⟩:=Int.eq_ofNat_of_zero_le h1;obtain⟨b,rfl⟩:=Int.eq_ofNat_of_zero_le h3;exact UP ⟨a,by omega⟩ ⟨b,by omega⟩
theorem sh4{x:Int}(h1:0<=x)(h2:x<=15):gZ .i64 x 4=some (x*16):=by have:=z2z (a:=x) 4 dc om om;exact this
abbrev QS:=Y2×Int×(Sl Int)×Unit
def UQ(r:Unit⊕iJ):Option iJ:=bR (fun _=>some (([]:Y2),0,())) r
theorem qr8(s:Tx)(hs:s.length<=900000000):∀(m i:Nat) (q:Bool) (b:Tx),s.length-i<=m->b.length<=i->i<=s.length->aj (aX eJ (s,(i:Int),⟨q,b⟩,())) UQ=some ((qt (s.drop i) b i).1,((qt (s.drop i) b i).2:Int),()):=by
 intro m
 induction m using Nat.strongRecOn with
 |_ m ih=>
  intro i q b hm hb hi;by_cases ht:i<s.length
  ·have hd:=kI ht;have he:(i:Int)<ae s:=by show(i:Int)<((s.length:Nat):Int);omega
   have hk:=dG (zg ht);have hg:∀x:Int,fit (aQ (ae b) (ae [x]))=some ():=fun x=>o4 (by
    show((b.length:Nat):Int)+((1:Nat):Int)<=_;omega)
   rw[hd];generalize hc:s[i]=c;rw[hc] at hk;have hu:∀{l:Tx},eJ (s,(i:Int),⟨q,b⟩,())=some (.inr (.inr ([],0,())))->qt (c::l) b i=([],0)->aj (aX eJ (s,(i:Int),⟨q,b⟩,())) UQ=some ((qt (c::l) b i).1,((qt (c::l) b i).2:Int),()):=by intro l h1 h2;rw[cw h1,h2];rfl
   by_cases hf:c=34
   ·have step:eJ (s,(i:Int),⟨q,b⟩,())=some (.inr (.inr (b,((i+1:Nat):Int),()))):=by unfold eJ;simp only;rw[bP,if_pos he,hk,af,jA,if_pos hf,af,bK om];rfl
    rw[cw step];unfold qt;rw[if_pos hf];rfl
   ·by_cases hr:c<32\/126<c
    ·have step:eJ (s,(i:Int),⟨q,b⟩,())=some (.inr (.inr ([],0,()))):=by
      unfold eJ;simp only;rw[bP,if_pos he,hk,af,jA,if_neg hf,bP];by_cases h1:c<32
      ·rw[if_pos h1];rfl
      ·rw[if_neg h1];have e:aK 126 c=true:=zu om;rw[e];rfl
     refine hu step ?_;unfold qt;rw[if_neg hf,if_pos hr]
    ·have e1:aK 126 c=false:=zn om;have e0:∀(x:Option Bool),az (aK c 32) x (some (aK 126 c))=some false:=fun x=>by rw[bP,if_neg om,e1]
     by_cases hn:c=92
     ·by_cases ho:i+1<s.length
      ·have hB:=kI ho;have hj:=dG (zg ho);have hC:ag (aG .i64 (i:Int) 1) (ae s)=false:=dx (by
        rw[bK om];show((i+1:Nat):Int)≠((s.length:Nat):Int);omega)
       rw[hB];generalize hF:s[i+1]=e at hj ⊢;have base:eJ (s,(i:Int),⟨q,b⟩,())=aj (aj (az (ag e 34) (some (s,((i+1:Nat):Int),e,ag e 34,(⟨q,b⟩:Sl Int),())) (some (s,((i+1:Nat):Int),e,ag e 92,(⟨q,b⟩:Sl Int),()))) (fun x5=>aj (az x5.2.2.2.1 (aj (cZ x5.1 x5.2.1) (fun x6=>aj (fit (aQ (ae x5.2.2.2.2.1.l) (ae ([x6]:Y2)))) (fun _=>some (Sum.inl (x5.1,x5.2.1,(⟨aF x5.2.2.2.2.1.nil (cj ([x6]:Y2)),app x5.2.2.2.2.1.l ([x6]:Y2)⟩:Sl Int),()))))) (aj (az (ag x5.2.2.1 110) (aj (fit (aQ (ae x5.2.2.2.2.1.l) (ae ([10]:Y2)))) (fun _=>some (Sum.inl (x5.1,x5.2.1,(⟨aF x5.2.2.2.2.1.nil (cj ([10]:Y2)),app x5.2.2.2.2.1.l ([10]:Y2)⟩:Sl Int),())))) (az (ag x5.2.2.1 120) (az (cK (ae x5.1) (aG .i64 x5.2.1 2)) (some (Sum.inr (Sum.inr (Sum.inr (Sum.inr (Sum.inr (([]:Y2),(0:Int),()))))))) (aj (cZ x5.1 (aG .i64 x5.2.1 1)) (fun x9=>aj (mG (sJ,x9,())) (fun Is=>aj (cZ x5.1 (aG .i64 x5.2.1 2)) (fun UR=>aj (mG (sJ,UR,())) (fun Oo=>aj (az (aK Is.1 0) (some true) (some (aK Oo.1 0))) (fun x13=>az x13 (some (Sum.inr (Sum.inr (Sum.inr (Sum.inr (Sum.inr (([]:Y2),(0:Int),()))))))) (aj (gZ .i64 Is.1 4) (fun K0=>aj (fit (aQ (ae x5.2.2.2.2.1.l) (ae ([fS .u8 (po .i64 K0 Oo.1)]:Y2)))) (fun _=>some (Sum.inl (x5.1,aG .i64 x5.2.1 2,(⟨aF x5.2.2.2.2.1.nil (cj ([fS .u8 (po .i64 K0 Oo.1)]:Y2)),app x5.2.2.2.2.1.l ([fS .u8 (po .i64 K0 Oo.1)]:Y2)⟩:Sl Int),())))))))))))) (some (Sum.inr (Sum.inr (Sum.inr (Sum.inr (Sum.inr (([]:Y2),(0:Int),()))))))))) (bR (fun(US:QS)=>some (Sum.inl (US.1,US.2.1,US.2.2.1,())))))) (bR (fun(Ir:QS)=>some (Sum.inl (Ir.1,Ir.2.1,Ir.2.2.1,())))))) (bR (fun(UT:QS)=>some (Sum.inl (UT.1,aG .i64 UT.2.1 1,UT.2.2.1,())))):=by unfold eJ;simp only;rw[bP,if_pos he,hk,af,jA,if_neg hf,e0,af,aD,tZ,jA,if_pos hn,hC,aD,bK om,hj,af]
       have fin:∀(v:Int) (j:Nat) (l:Tx),s.drop j=l->i+1<=j->j<=s.length->eJ (s,(i:Int),⟨q,b⟩,())=some (.inl (s,(j:Int),⟨aF q (cj [v]),b++[v]⟩,()))->
         aj (aX eJ (s,(i:Int),⟨q,b⟩,())) UQ=some ((qt l (b++[v]) j).1,((qt l (b++[v]) j).2:Int),()):=by
        intro v j l hl h1 h2 h3;rw[ew h3,<-hl];exact ih (s.length-j) om j _ (b++[v]) (Nat.le_refl _) (by rw[zd,List.length_singleton];omega) h2
       have q0:qt (c::e::s.drop (i+1+1)) b i=if e=34\/e=92 then qt (s.drop (i+1+1)) (b++[e]) (i+2) else
         if e=110 then qt (s.drop (i+1+1)) (b++[10]) (i+2) else
         if e=120 then match s.drop (i+1+1) with
          |x::y::l3=>if cN x<0\/cN y<0 then([],0) else qt l3 (b++[16*cN x+cN y]) (i+4)
          |_=>([],0)
         else([],0):=by
        conv=>lhs;unfold qt
        rw[if_neg hf,if_neg hr,if_neg (fun h=>h hn)];rfl
       have a2:aG .i64 ((i+1:Nat):Int) 1=((i+2:Nat):Int):=bK om;by_cases K2:e=34\/e=92
       ·have hq:(az (ag e 34) (some (s,((i+1:Nat):Int),e,ag e 34,(⟨q,b⟩:Sl Int),())) (some (s,((i+1:Nat):Int),e,ag e 92,(⟨q,b⟩:Sl Int),())))=some (s,((i+1:Nat):Int),e,true,(⟨q,b⟩:Sl Int),()):=by rcases K2 with rfl|rfl<;>rfl
        rw[hq,af] at base;simp only[aU,hj,af,hg] at base;rw[q0,if_pos K2];refine fin e (i+2) _ rfl om ho ?_;rw[base];show some (Sum.inl (s,aG .i64 ((i+1:Nat):Int) 1,_,()))=_;rw[a2];rfl
       ·have hq:(az (ag e 34) (some (s,((i+1:Nat):Int),e,ag e 34,(⟨q,b⟩:Sl Int),())) (some (s,((i+1:Nat):Int),e,ag e 92,(⟨q,b⟩:Sl Int),())))=some (s,((i+1:Nat):Int),e,false,(⟨q,b⟩:Sl Int),()):=by rw[dx (fun h=>K2 (.inl h)),dx (fun h=>K2 (.inr h))];rfl
        rw[hq,af] at base;simp only[aD] at base;rw[q0,if_neg K2];by_cases CB:e=110
        ·rw[if_pos CB];rw[CB,iY,aU,hg,af,af] at base;refine fin 10 (i+2) _ rfl om ho ?_;rw[base];show some (Sum.inl (s,aG .i64 ((i+1:Nat):Int) 1,_,()))=_;rw[a2];rfl
        ·rw[if_neg CB];rw[dx CB,aD] at base;by_cases CC:e=120
         ·rw[if_pos CC];rw[CC,iY,aU,EU] at base;have a3:aG .i64 ((i+1:Nat):Int) 2=((i+3:Nat):Int):=by rw[pD om om];omega
          rw[a3,a2] at base;by_cases hG:i+3<s.length
          ·have hx:i+1+1<s.length:=om
           have hy:i+1+1+1<s.length:=om
           have hw:=dG (i:=i+2) (zg hx);have hz:=dG (i:=i+3) (zg hy);rw[kI hx,kI hy];generalize s[i+1+1]=x at hw ⊢;generalize s[i+1+1+1]=y at hz ⊢;rw[if_neg (show ¬ae s<=((i+3:Nat):Int) by show ¬((s.length:Nat):Int)<=_;omega),hw,af,E7,af,hz,af,E7,af,z5u,z5u] at base;show _=some ((if cN x<0\/cN y<0 then(([]:Tx),0) else qt (s.drop (i+1+1+1+1)) (b++[16*cN x+cN y]) (i+4)).1,((if cN x<0\/cN y<0 then(([]:Tx),0) else qt (s.drop (i+1+1+1+1)) (b++[16*cN x+cN y]) (i+4)).2:Int),());by_cases hh:cN x<0\/cN y<0
           ·rw[if_pos hh];have hv:az (aK (cN x) 0) (some true) (some (aK (cN y) 0))=some true:=by
             rw[bP];by_cases h1:cN x<0
             ·rw[if_pos h1]
             ·rw[if_neg h1];have:aK (cN y) 0=true:=zu om;rw[this]
            rw[hv,af,aU] at base;rw[cw base];rfl
           ·rw[if_neg hh];have hv:az (aK (cN x) 0) (some true) (some (aK (cN y) 0))=some false:=by rw[bP,if_neg om];have:aK (cN y) 0=false:=zn om;rw[this]
            have hA:=qzy x;have hD:=qzy y;rw[hv,af,aD,sh4 om hA,af,zcm om hA om hD,hg,af] at base;refine fin (16*cN x+cN y) (i+4) _ rfl om om ?_;rw[base];show some (Sum.inl (s,aG .i64 ((i+3:Nat):Int) 1,_,()))=_;rw[show aG .i64 ((i+3:Nat):Int) 1=((i+4:Nat):Int) from bK om];rfl
          ·rw[if_pos (show ae s<=((i+3:Nat):Int) by show((s.length:Nat):Int)<=_;omega)] at base;have hE:(s.drop (i+1+1)).length<=1:=by rw[zH];omega
           rw[cw base]
           match s.drop (i+1+1),hE with
           |[],_=>rfl
           |[x],_=>rfl
         ·rw[if_neg CC];rw[dx CC,aD] at base;rw[cw base];rfl
      ·have step:eJ (s,(i:Int),⟨q,b⟩,())=some (.inr (.inl ())):=by unfold eJ;simp only;rw[bP,if_pos he,hk,af,jA,if_neg hf,e0,af,aD,tZ,jA,if_pos hn,bK om,jA,if_pos (show((i+1:Nat):Int)=ae s by show((i+1:Nat):Int)=((s.length:Nat):Int);omega)];rfl
       rw[cw step,zC om];unfold qt;rw[if_neg hf,if_neg hr,if_neg (fun h=>h hn)];rfl
     ·have step:eJ (s,(i:Int),⟨q,b⟩,())=some (.inl (s,((i+1:Nat):Int),⟨aF q (cj [c]),b++[c]⟩,())):=by unfold eJ;simp only;rw[bP,if_pos he,hk,af,jA,if_neg hf,e0,af,aD,tZ,jA,if_neg hn,hg,af,af];show some (Sum.inl (s,aG .i64 (i:Int) 1,_,()))=_;rw[bK om];rfl
      rw[ew step];unfold qt;rw[if_neg hf,if_neg hr,if_pos hn];exact ih (s.length-(i+1)) om (i+1) _ (b++[c]) (Nat.le_refl _) (by rw[zd,List.length_singleton];omega) ht
  ·have step:eJ (s,(i:Int),⟨q,b⟩,())=some (.inr (.inl ())):=by unfold eJ;simp only;rw[bP,if_neg (show ¬(i:Int)<ae s by show ¬(i:Int)<((s.length:Nat):Int);omega)]
   rw[cw step,zC om];rfl
theorem qr9(s:Tx)(hs:s.length<=900000000)(h:1<=s.length):uy (s,())=some ((qt (s.drop 1) [] 1).1,((qt (s.drop 1) [] 1).2:Int),()):=by rw[Tp];exact qr8 s hs s.length 1 true [] om (Nat.zero_le _) h
noncomputable abbrev iF:=one eW df fB gV
theorem z47(s:Tx)(hb:∀b,b∈s->0<=b/\b<=255)(hs:s.length<=900000000)(hc:s≠[]):pY (s,())=some (((iF s).1.1,(iF s).1.2.1,(iF s).1.2.2,0),((iF s).2.1:Int),(iF s).2.2,()):=by
 match s,hc with
 |c::l,_=>
  have ha:cZ (c::l) 0=some c:=rfl;rw[Tq,ha,af,Un,af];simp only;rw[zci _ om,af];simp only;rw[K1 _ _ (vG _ _),af,Uo,af];simp only;rw[af];simp only;rw[K1 _ _ (vG _ _),af,Ul,af];simp only;rw[zcj _ om,af];simp only;rw[K1 _ _ (vG _ _),af];simp only;show _=some (((fL eW df fB gV c l).1.1,(fL eW df fB gV c l).1.2.1,(fL eW df fB gV c l).1.2.2,0),((fL eW df fB gV c l).2.1:Int),(fL eW df fB gV c l).2.2,());unfold fL;show az (oJ c) _ _=_;cases h1:oJ c with
  |true=>rfl
  |false=>
  rw[aD,cond_false];show az (uU c) _ _=_;cases h2:uU c with
  |true=>rfl
  |false=>
  rw[aD,cond_false];show az (df c) _ _=_;cases h3:df c with
  |true=>rfl
  |false=>
  rw[aD,cond_false];have k1:=K1 6 (c::l) (n:=1) (by simp);have k1:ox (1,6,c::l,())=_:=k1;rw[k1,af];simp only;have d:∀k:Int,ag c k=decide (c=k):=fun k=>by
   by_cases e:c=k
   ·rw[e,iY];exact(zu rfl).symm
   ·rw[dx e];exact(zn e).symm
  have hq:∀K:Bool->Option (Y4×Int×Int×Unit),aj (az (ag c 40) (some true) (some (ag c 41))) (fun Is=>aj (az Is (some true) (some (ag c 95))) K)=K (decide (c=40)||(decide (c=41)||decide (c=95))):=by intro K;rw[d,d,d];cases decide (c=40)<;>cases decide (c=41)<;>cases decide (c=95)<;>rfl
  rw[hq];cases h4:(decide (c=40)||(decide (c=41)||decide (c=95))) with
  |true=>rfl
  |false=>
  rw[aD,cond_false];have hp:sq (c::l,[59,59],())=some (decide (c=59)&&decide (l.head?=some 59),()):=by
   rw[To,Fe];cases l with
   |nil=>have e:cK (ae ([59,59]:Tx)) (ae [c])=false:=rfl;rw[e];cases decide (c=59)<;>rfl
   |cons e l2=>
    have e1:cK (ae ([59,59]:Tx)) (ae (c::e::l2))=true:=zu (by
     show((2:Nat):Int)<=(((c::e::l2).length:Nat):Int);simp only[zj];omega)
    have e2:cf (c::e::l2) 0 (ae ([59,59]:Tx))=some [c,e]:=DQ (k:=2) (by simp only[zj];omega);rw[e1,aU,e2,af,af,af];have hh:decide ((e::l2).head?=some 59)=decide (e=59):=decide_eq_decide.2 (by simp);rw[hh];congr 2;unfold eU;rw[Bool.eq_iff_iff,beq_iff_eq,ze,decide_eq_true_eq,decide_eq_true_eq];simp
  rw[hp,af];simp only;cases h5:(decide (c=59)&&decide (l.head?=some 59)) with
  |true=>
   have he:2<=(c::l).length:=by
    cases l with
    |nil=>simp at h5
    |cons e l2=>simp only[zj];omega
   have k2:=K1 6 (c::l) he;have k2:ox (2,6,c::l,())=_:=k2;rw[k2,af];rfl
  |false=>
  rw[aD,cond_false,Uq,af];simp only;have hf:∀K:Bool->Option (Y4×Int×Int×Unit),aj (az (KK c) (some true) (some (ag c 126))) K=K (gC c||decide (c=126)):=by intro K;rw[d];show aj (az (gC c) _ _) K=_;cases gC c<;>rfl
  rw[hf];cases h6:(gC c||decide (c=126)) with
  |true=>
   rw[aU,cond_true];have hg:cf (c::l) 1 (ae (c::l))=some l:=by unfold cf ae;rw[if_pos (by simp only[zj];omega)];simp
   have hk:l.length<=900000000:=by simp only[zj] at hs;omega
   rw[hg,af,zck l om,af];simp only;have hl:=vG gC l;have hj:aG .i64 1 ((dZ gC l:Nat):Int)=((1+dZ gC l:Nat):Int):=by rw[pD om om];omega
   rw[hj,DQ (by simp only[zj];omega),af];obtain⟨r1,r2⟩:=qzx ((c::l).take (1+dZ gC l)) (fun b h=>hb b (List.mem_of_mem_take h)) (by rw[zQ];omega);rw[r1,af];simp only;have e:ag (gV ((c::l).take (1+dZ gC l))).2 0=decide ((gV ((c::l).take (1+dZ gC l))).2=0):=by
    by_cases e:(gV ((c::l).take (1+dZ gC l))).2=0
    ·rw[e];rfl
    ·rw[dx e];exact(zn e).symm
   rw[tZ,e];cases decide ((gV ((c::l).take (1+dZ gC l))).2=0)<;>rfl
  |false=>
  rw[aD,cond_false,d];cases h7:decide (c=34) with
  |false=>rfl
  |true=>
   rw[aU,cond_true,qr9 _ om (by simp),af];simp only[List.drop_succ_cons,List.drop_zero];have e1:ag ((qt l [] 1).2:Int) 0=decide ((qt l [] 1).2=0):=by
    by_cases e:(qt l [] 1).2=0
    ·rw[e];rfl
    ·rw[dx om];exact(zn e).symm
   have e2:aK 200 (ae (qt l [] 1).1)=decide (200<(qt l [] 1).1.length):=decide_eq_decide.2 (by
    show(200:Int)<(((qt l [] 1).1.length:Nat):Int)↔_;omega)
   rw[e1,e2];cases decide ((qt l [] 1).2=0)<;>cases decide (200<(qt l [] 1).1.length)<;>rfl
open Pz
theorem CD:GG eW df where
 oY c h:=by
  unfold eW;rcases h with h|h
  ·have h:yE c=true:=h;rw[h];rfl
  ·have h:AE c=true:=h;rw[h];cases yE c<;>rfl
 i10:=dc
 s10:=dc
noncomputable abbrev eE:=iE eW df fB gV
theorem qzz:∀l:Tx,Pz.blank true l=dZ jC l+Pz.blank false (l.drop (dZ jC l))
 |[]=>rfl
 |c::l=>by
  by_cases h:c=10
  ·subst h;have e:dZ jC (10::l)=0:=rfl;rw[e,List.drop_zero,zD];rfl
  ·have e:dZ jC (c::l)=dZ jC l+1:=by
    conv=>lhs;unfold dZ
    have:jC c=true:=by unfold jC av;rw[dx h];rfl
    rw[this,cond_true]
   rw[e,List.drop_succ_cons]
   conv=>lhs;unfold Pz.blank
   rw[if_neg h,qzz l];omega
theorem z00{c:Int}(l:Tx)(h:c=32\/c=10):Pz.blank false ([c]++l)=1+Pz.blank false l:=by
 show Pz.blank false (c::l)=_
 conv=>lhs;unfold Pz.blank
 rw[if_pos h];omega
theorem z8y(l:Tx):Pz.blank false (35::l)=dZ jC (35::l)+Pz.blank false ((35::l).drop (dZ jC (35::l))):=by
 have e:dZ jC (35::l)=dZ jC l+1:=rfl
 conv=>lhs;unfold Pz.blank
 rw[if_neg dc,if_pos rfl,qzz l,e,List.drop_succ_cons];omega
theorem z01{c:Int}(l:Tx)(h:¬(c=32\/c=10))(h2:c≠35):Pz.blank false (c::l)=0:=by unfold Pz.blank;rw[if_neg h,if_neg h2]
def K3(acc:List Tk)(b:Bool)(r:PR (List Tk)):pF:=match r with
 |.ok l=>(⟨b,acc++l⟩,0,0,())
 |.error e=>(⟨true,[]⟩,e.1,e.2,())
def yR(n r:Nat)(x:PR (List Tk)):Prop:=n+r<=4000\/∃l,x=.ok l/\n+l.length<=4000
theorem yR.le{n r:Nat}{x:PR (List Tk)}(h:yR n r x):n<=4000:=by rcases h with h|⟨l,_,h⟩<;>omega
theorem yR.mono{n r r':Nat}{x:PR (List Tk)}(h:yR n r x)(hr:r'<=r):yR n r' x:=by
 rcases h with h|h
 ·exact .inl om
 ·exact .inr h
theorem yR.lt{n r:Nat}{x:PR (List Tk)}{t:Tk}(h:yR n (r+1) (eb x fun l=>.ok (t::l))):n<4000/\yR (n+1) r x:=by
 rcases h with h|⟨l,h1,h2⟩
 ·exact⟨by omega,.inl om⟩
 ·obtain⟨l',e1,e2⟩:=gU h1;injection e2 with e2;subst e2;rw[zj] at h2;exact⟨by omega,.inr ⟨l',e1,by omega⟩⟩
theorem z48(s:Tx)(hs:s.length<=900000000)(hb:∀x,x∈s->0<=x/\x<=255):∀(m i:Nat) (q:Bool) (acc:List Tk),s.length-i<=m->i<=s.length->yR acc.length (s.length-i) (eE (s.length-i+1) (s.drop i) (i:Int))->∃b,aX gi (s,(i:Int),⟨q,acc⟩,())=some (K3 acc b (eE (s.length-i+1) (s.drop i) (i:Int))):=by
 intro m
 induction m using Nat.strongRecOn with
 |_ m ih=>
  intro i q acc hm hi hg;by_cases hC:i<s.length
  ·have hd:=kI hC;have hj:aK (i:Int) (ae s)=true:=zu (show(i:Int)<((s.length:Nat):Int) by omega);have hq:=dG (zg hC);have hu:cf s (i:Int) (ae s)=some (s.drop i):=by unfold cf ae;rw[if_pos om];simp
   have hF:ag (i:Int) (ae s)=false:=dx (show(i:Int)≠((s.length:Nat):Int) by omega);have hG:(s.drop i).length=s.length-i:=zH;generalize hc:s[i]=c at hq hd;have e2:az (ag c 32) (some true) (aj (some c) (fun x3=>some (ag x3 10)))=some (decide (c=32)||decide (c=10)):=by
    rw[af,jA];by_cases h1:c=32
    ·rw[if_pos h1,zu h1];rfl
    ·rw[if_neg h1,zn h1];by_cases h2:c=10
     ·subst h2;rfl
     ·rw[dx h2,zn h2];rfl
   by_cases hv:c=32\/c=10
   ·have step:jO (s,(i:Int),⟨q,acc⟩,())=some (.inl (s,((i+1:Nat):Int),⟨q,acc⟩,())):=by
     unfold jO;simp only;rw[hj,aU]
     conv=>lhs;arg 1;rw[hq,af]
     rw[e2,af];have:(decide (c=32)||decide (c=10))=true:=by rcases hv with h|h<;>rw[h]<;>rfl
     rw[this,aU,bK om]
    have ho:gi (s,(i:Int),⟨q,acc⟩,())=gi (s,((i+1:Nat):Int),⟨q,acc⟩,()):=by unfold gi;exact ew step
    have hk:eE (s.length-i+1) (s.drop i) (i:Int)=eE (s.length-(i+1)+1) (s.drop (i+1)) ((i+1:Nat):Int):=by rw[hd];have:=UK (inn:=eW) (sgn:=df) (keyw:=fB) (rd:=gV) (s.length-i) [c] (s.drop (i+1)) (i:Int) (z00 _ hv);refine Eq.trans this ?_;rw[UJ CD (s.drop (i+1)).length (s.drop (i+1)) (Nat.le_refl _) (s.length-i+1) (s.length-(i+1)+1) _ (by rw[zH];omega) (by rw[zH];omega)];rfl
    rw[hk] at hg;obtain⟨b,hw⟩:=ih (s.length-(i+1)) om (i+1) q acc (Nat.le_refl _) om (hg.mono om);refine⟨b,?_⟩;rw[Nx,ho,<-Nx,hw,hk]
   ·have nb:(decide (c=32)||decide (c=10))=false:=by rw[zn (fun h=>hv (.inl h)),zn (fun h=>hv (.inr h))];rfl
    by_cases hA:c=35
    ·subst hA;have hM:=vG jC (s.drop i);have hH:1<=dZ jC (s.drop i):=by rw[hd];exact GF rfl
     have step:jO (s,(i:Int),⟨q,acc⟩,())=some (.inr (.inl (s,((i+dZ jC (s.drop i):Nat):Int),⟨q,acc⟩,()))):=by
      unfold jO;simp only;rw[hj,aU]
      conv=>lhs;arg 1;rw[hq,af]
      rw[e2,af,nb,aD,aU,hq,af,af];have e35:ag 35 35=true:=rfl;rw[e35,aU,hu,af,zcl _ om,af];simp only;rw[pD om om];congr 4
     have ho:gi (s,(i:Int),⟨q,acc⟩,())=some (.inl (s,((i+dZ jC (s.drop i):Nat):Int),⟨q,acc⟩,())):=by unfold gi;exact cw step
     have hk:eE (s.length-i+1) (s.drop i) (i:Int)=eE (s.length-(i+dZ jC (s.drop i))+1) (s.drop (i+dZ jC (s.drop i))) ((i+dZ jC (s.drop i):Nat):Int):=by
      have hI:Pz.blank false (s.drop i)=dZ jC (s.drop i)+Pz.blank false ((s.drop i).drop (dZ jC (s.drop i))):=by rw[hd];exact z8y _
      have hD:((s.drop i).take (dZ jC (s.drop i))).length=dZ jC (s.drop i):=by rw[zQ];omega
      have:=UK (inn:=eW) (sgn:=df) (keyw:=fB) (rd:=gV) (s.length-i) ((s.drop i).take (dZ jC (s.drop i))) ((s.drop i).drop (dZ jC (s.drop i))) (i:Int) (by rw[List.take_append_drop,hD];exact hI);rw[List.take_append_drop,hD] at this;refine Eq.trans this ?_;rw[List.drop_drop,UJ CD (s.drop (i+dZ jC (s.drop i))).length _ (Nat.le_refl _) (s.length-i+1) (s.length-(i+dZ jC (s.drop i))+1) _ (by rw[zH];omega) (by rw[zH];omega)];rfl
     rw[hk] at hg;obtain⟨b,hw⟩:=ih (s.length-(i+dZ jC (s.drop i))) om (i+dZ jC (s.drop i)) q acc (Nat.le_refl _) om (hg.mono om);refine⟨b,?_⟩;rw[ew ho,hw,hk]
    ·have hJ:Pz.blank false (s.drop i)=0:=by rw[hd];exact z01 _ hv hA
     have hy:s.drop i≠[]:=by rw[hd];simp
     have hz:=z47 (s.drop i) (fun x hx=>hb x (List.mem_of_mem_drop hx)) om hy;have hE:(iF (s.drop i)).2.2=0->1<=(iF (s.drop i)).2.1/\(iF (s.drop i)).2.1<=(s.drop i).length:=Of CD (s.drop i);have hN:acc.length<=4000:=hg.le;have hB:∀x:Tk,fit (aQ (ae acc) (ae [x]))=some ():=fun x=>o4 (by
      show((acc.length:Nat):Int)+((1:Nat):Int)<=_;omega)
     have ht:eE (s.length-i+1) (s.drop i) (i:Int)=if(iF (s.drop i)).2.2≠0 then .error ((i:Int)+(0:Nat),(iF (s.drop i)).2.2) else
       eb (eE (s.length-i) ((s.drop i).drop (iF (s.drop i)).2.1) ((i:Int)+(0:Nat)+(iF (s.drop i)).2.1)) fun l=>.ok (yN (iF (s.drop i)).1 ((i:Int)+(0:Nat))::l):=by
      conv=>lhs;unfold eE iE
      rw[hJ,List.drop_zero,if_neg hy]
     generalize iF (s.drop i)=r at hz hE ht;obtain⟨⟨t1,t2,t3⟩,n,e⟩:=r;have ht:eE (s.length-i+1) (s.drop i) (i:Int)=if e≠0 then .error ((i:Int)+(0:Nat),e) else eb (eE (s.length-i) ((s.drop i).drop n) ((i:Int)+(0:Nat)+n)) fun l=>.ok (yN (t1,t2,t3) ((i:Int)+(0:Nat))::l):=ht
     have hl:e=0->acc.length<4000/\yR (acc.length+1) (s.length-i-1) (eE (s.length-i) ((s.drop i).drop n) ((i:Int)+(0:Nat)+n)):=fun he=>by rw[ht,if_neg (fun h=>h he),show s.length-i=s.length-i-1+1 by omega] at hg;rw[show s.length-i=s.length-i-1+1 by omega];exact hg.lt
     have base:jO (s,(i:Int),⟨q,acc⟩,())=az (av (ag e 0)) (some (.inr (.inr (⟨true,[]⟩,(i:Int),e,())))) (some (.inr (.inl (s,aG .i64 (i:Int) (n:Int),⟨aF q (cj [(t1,t2,t3,(i:Int))]),acc++[(t1,t2,t3,(i:Int))]⟩,())))):=by
      unfold jO;simp only;rw[hj,aU]
      conv=>lhs;arg 1;rw[hq,af]
      rw[e2,af,nb,aD,aU,hq,af,af,dx hA,aD,hF,aD,hu,af,hz,af];simp only;have hx:az (ag e 0) (some (ag (ae acc) 4000)) (some false)=some false:=by
       by_cases he:e=0
       ·have hn:acc.length<4000:=(hl he).1;rw[show ag (ae acc) 4000=false from dx (show((acc.length:Nat):Int)≠4000 by omega)];cases ag e 0<;>rfl
       ·rw[dx he];rfl
      rw[hx,af,aD,af];simp only;rw[hB,af];rfl
     by_cases he:e=0
     ·subst he;obtain⟨n1,n2⟩:=hE rfl;rw[hG] at n2;have n2:n<=s.length-i:=n2;have n1:1<=n:=n1;have o9:av (ag 0 0)=false:=rfl;rw[o9,aD,pD om om] at base;have ho:gi (s,(i:Int),⟨q,acc⟩,())=some (.inl (s,((i+n:Nat):Int),⟨aF q (cj [(t1,t2,t3,(i:Int))]),acc++[(t1,t2,t3,(i:Int))]⟩,())):=by unfold gi;exact cw base
      have hf:∀z,eE (s.length-i) (s.drop (i+n)) z=eE (s.length-(i+n)+1) (s.drop (i+n)) z:=fun z=>UJ CD (s.drop (i+n)).length _ (Nat.le_refl _) (s.length-i) (s.length-(i+n)+1) z (by rw[zH];omega) (by rw[zH];omega);have ea:(i:Int)+((0:Nat):Int)+(n:Int)=((i+n:Nat):Int):=om
      obtain⟨hO,hl⟩:=hl rfl;rw[List.drop_drop,hf,ea] at hl;obtain⟨b,hw⟩:=ih (s.length-(i+n)) om (i+n) (aF q (cj [(t1,t2,t3,(i:Int))])) (acc++[(t1,t2,t3,(i:Int))]) (Nat.le_refl _) om (by rw[zd,List.length_singleton];exact hl.mono om);refine⟨b,?_⟩;rw[ew ho,hw,ht,if_neg (by simp)];rw[List.drop_drop,hf,ea];have e0:(i:Int)+((0:Nat):Int)=(i:Int):=om
      rw[e0];cases eE (s.length-(i+n)+1) (s.drop (i+n)) ((i+n:Nat):Int) with
      |error e=>rfl
      |ok l=>show some ((⟨b,acc++[(t1,t2,t3,(i:Int))]++l⟩:Y0),(0:Int),(0:Int),())=some ((⟨b,acc++(yN (t1,t2,t3) (i:Int)::l)⟩:Y0),(0:Int),(0:Int),());rw[zo];rfl
     ·have o9:av (ag e 0)=true:=by rw[dx he];rfl
      rw[o9,aU] at base;have ho:gi (s,(i:Int),⟨q,acc⟩,())=some (.inr (⟨true,[]⟩,(i:Int),e,())):=by unfold gi;exact cw base
      refine⟨true,?_⟩;rw[cw ho,ht,if_pos he];show some ((⟨true,[]⟩:Y0),(i:Int),e,())=some ((⟨true,[]⟩:Y0),(i:Int)+((0:Nat):Int),e,());congr 3
  ·have hK:i=s.length:=om
   have hj:aK (i:Int) (ae s)=false:=zn (show ¬(i:Int)<((s.length:Nat):Int) by omega);have hL:ag (i:Int) (ae s)=true:=by rw[hK];exact iY _
   have step:jO (s,(i:Int),⟨q,acc⟩,())=some (.inr (.inr (⟨q,acc⟩,0,0,()))):=by unfold jO;simp only;rw[hj,aD,af,aD,aD,af,aD,hL,aU]
   have ho:gi (s,(i:Int),⟨q,acc⟩,())=some (.inr (⟨q,acc⟩,0,0,())):=by unfold gi;exact cw step
   refine⟨q,?_⟩;rw[cw ho,zC om];show _=some ((⟨q,acc++[]⟩:Y0),(0:Int),(0:Int),());rw[zt]
theorem qtp(s:Tx)(hs:s.length<=900000000)(hb:∀x,x∈s->0<=x/\x<=255)(hN:yR 0 s.length (eE (s.length+1) s 0)):∃b,uz (s,())=some (K3 [] b (eE (s.length+1) s 0)):=by obtain⟨b,h⟩:=z48 s hs hb s.length 0 true [] om (Nat.zero_le _) (by rw[Nat.sub_zero,List.drop_zero];exact hN);refine⟨b,?_⟩;rw[Tt];rw[Nat.sub_zero,List.drop_zero] at h;exact h
end Fn
end Ev