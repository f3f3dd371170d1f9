/- Documents, their texts, in plain words. -/
import Derived.Test.YtdgmbemagoakjaaGreatDoorPlainD
namespace Ev
open Go Ieee
namespace Fn
open Pz
variable{p:Int}{m q:Nat}
theorem z91{n:Nat}(h0:0<n)(h:n<2 ^ 53):n.log2<=52:=by have:=(Nat.log2_lt om).2 h;omega
theorem qsp(neg:Bool)(n:Nat):Toward.even.cut neg n 0=n:=by simp[Toward.cut,Nat.mod_one]
theorem qsq(h0:0<m)(hm:(m.log2:Int)+p<=52)(hp:0<=(m.log2:Int)+p)(hd:m.log2<=52):Ieee.double.nearest false m p=(m.log2+p+1022).toNat*2 ^ 52+m*2 ^ (52-m.log2):=by
 have e1:Ieee.double.leastPlace=-1074:=dc
 have e2:Ieee.double.binade=2 ^ 52:=rfl;have e3:(Ieee.double.fractionBits:Int)=52:=rfl;have e4:Ieee.double.infRung=2047*2 ^ 52:=dc
 unfold Format.nearest;rw[zj om,e1,e2,e3,e4];have l1:max (p+(m.log2:Int)-52) (-1074)=p+m.log2-52:=om
 simp only[l1];have l2:(p-(p+(m.log2:Int)-52)).toNat=52-m.log2:=om
 have l3:(p+(m.log2:Int)-52-p).toNat=0:=om
 have l4:(p+(m.log2:Int)-52- -1074).toNat=(m.log2+p+1022).toNat:=om
 rw[l2,l3,l4,qsp,Zs];unfold Format.word;simp only[Zu,if_false];have hc:m<2 ^ (m.log2+1):=JB;have hk:m*2 ^ (52-m.log2)<2 ^ 53:=by
  calc m*2 ^ (52-m.log2)<2 ^ (m.log2+1)*2 ^ (52-m.log2):=jR hc (Zk _)
   _=2 ^ 53:=by rw[<-Zc];congr 1;omega
 apply Zj;generalize (m.log2+p+1022).toNat=x at*
 generalize m*2 ^ (52-m.log2)=k at*
 omega
theorem zl1(h0:0<m)(hd:m.log2<=52):2 ^ 52<=m*2 ^ (52-m.log2)/\m*2 ^ (52-m.log2)<2 ^ 53:=by
 have hc:m<2 ^ (m.log2+1):=JB;have he:2 ^ m.log2<=m:=Nat.log2_self_le om;constructor
 ·calc 2 ^ 52=2 ^ m.log2*2 ^ (52-m.log2):=by rw[<-Zc];congr 1;omega
   _<=m*2 ^ (52-m.log2):=jt _ he
 ·calc m*2 ^ (52-m.log2)<2 ^ (m.log2+1)*2 ^ (52-m.log2):=jR hc (Zk _)
   _=2 ^ 53:=by rw[<-Zc];congr 1;omega
theorem qvu{n:Nat}(h0:0<n)(h:n<2 ^ 53):Ieee.double.read (Ieee.double.nearest false n 0)=.number false (n*2 ^ (52-n.log2)) ((n.log2:Int)-52):=by
 have hd:=z91 h0 h;rw[qsq h0 om om hd];obtain⟨k1,k2⟩:=zl1 h0 hd;have e1:Ieee.double.leastPlace=-1074:=dc
 have e2:Ieee.double.binade=2 ^ 52:=rfl;have e4:Ieee.double.infRung=2047*2 ^ 52:=dc
 have e5:Ieee.double.signWeight=2 ^ 63:=dc
 have e6:((n.log2:Int)+0+1022).toNat=n.log2+1022:=om
 rw[e6];unfold Format.read;rw[e1,e2,e4,e5];generalize hk:n*2 ^ (52-n.log2)=k at*
 have w1:((n.log2+1022)*2 ^ 52+k)<2 ^ 63:=om
 have w2:((n.log2+1022)*2 ^ 52+k) / 2 ^ 63=0:=JA w1;have w3:=Jf w1;simp only[w2,w3];rw[zj om,zu om];have w4:((n.log2+1022)*2 ^ 52+k) % 2 ^ 52=k-2 ^ 52:=om
 have w5:((n.log2+1022)*2 ^ 52+k) / 2 ^ 52=n.log2+1023:=om
 rw[w4,w5];have a1:2 ^ 52+(k-2 ^ 52)=k:=om
 have a2:(-1074:Int)+((n.log2+1023-1:Nat):Int)=n.log2-52:=om
 rw[a1,a2];rfl
theorem zl2{a k:Nat}(h:0<a):(a*2 ^ k).log2=a.log2+k:=by
 have h1:=Nat.log2_self_le (n:=a) om;have h2:a<2 ^ (a.log2+1):=JB;have hp:=Zk k;have hc:a*2 ^ k≠0:=by intro e;rcases Nat.mul_eq_zero.1 e with e|e<;>omega
 apply(Nat.log2_eq_iff hc).2;constructor
 ·rw[Zc];exact jt _ h1
 ·calc a*2 ^ k<2 ^ (a.log2+1)*2 ^ k:=jR h2 hp
   _=2 ^ (a.log2+k+1):=by rw[<-Zc];congr 1;omega
theorem qsr{n k:Nat}(h0:0<n)(h:n<2 ^ 53):Ieee.double.nearest false (n*2 ^ k) (-(k:Int))=Ieee.double.nearest false n 0:=by
 have hd:=z91 h0 h;have hl:=zl2 (a:=n) (k:=k) h0;have e1:Ieee.double.leastPlace=-1074:=dc
 have e3:(Ieee.double.fractionBits:Int)=52:=rfl;have hp:=Zk k;have hf:¬n*2 ^ k=0:=by intro e;rcases Nat.mul_eq_zero.1 e with e|e<;>omega
 unfold Format.nearest;rw[zj hf,zj om,hl,e1,e3];have l1:max (-(k:Int)+((n.log2+k:Nat):Int)-52) (-1074)=n.log2-52:=om
 have l2:max ((0:Int)+(n.log2:Int)-52) (-1074)=n.log2-52:=om
 simp only[l1,l2];congr 1;congr 1;congr 1;have r1:((0:Int)-((n.log2:Int)-52)).toNat=52-n.log2:=om
 have r2:(((n.log2:Int)-52)-0).toNat=0:=om
 rw[r1,r2,qsp];by_cases hc:k+n.log2<=52
 ·have r3:(-(k:Int)-((n.log2:Int)-52)).toNat=52-n.log2-k:=om
  have r4:((n.log2:Int)-52- -(k:Int)).toNat=0:=om
  rw[r3,r4,qsp,Zs,Zs,ZR,<-Zc];congr 2;omega
 ·have r3:(-(k:Int)-((n.log2:Int)-52)).toNat=0:=om
  have r4:((n.log2:Int)-52- -(k:Int)).toNat=k-(52-n.log2):=om
  rw[r3,r4,Nat.shiftLeft_zero,Zs];have hg:k=(52-n.log2)+(k-(52-n.log2)):=om
  generalize hj:k-(52-n.log2)=d at*
  have e:n*2 ^ k=n*2 ^ (52-n.log2)*2 ^ d:=by rw[ZR,<-Zc,<-hg]
  unfold Toward.cut;have he:min d ((n*2 ^ k).log2+2)=d:=by rw[hl];omega
  simp only[he];rw[Nat.one_shiftLeft,e,Nat.mul_div_cancel _ (Zk d),Nat.mul_mod_left];have hk:=Zk d;have a1:decide (2 ^ d<2*0)=false:=by simp
  have a2:(2 ^ d==2*0)=false:=by simp
  simp only[a1,a2,ZJ,Zo];rfl
theorem z92(n:Nat):cV (n:Int)=Ieee.double.nearest false n 0:=by
 unfold cV FloatKind.nearest FloatKind.encode FloatKind.format Format.write;have:decide ((n:Int)<0)=false:=by simp
 simp[this,Int.natAbs_natCast]
theorem uo:cV 0=0:=dc
theorem zej{n:Nat}(h:n<2 ^ 53):∃m k:Nat,Ieee.double.read (cV n)=.number false m (-(k:Int))/\m=n*2 ^ k/\k<=52\/(n=0/\Ieee.double.read (cV n)=.number false 0 (-1074)):=by
 by_cases h0:n=0
 ·subst h0;exact⟨0,0,.inr ⟨rfl,by decide⟩⟩
 ·have h0:0<n:=om
  have hd:=z91 h0 h;refine⟨n*2 ^ (52-n.log2),52-n.log2,.inl ⟨?_,rfl,by omega⟩⟩;rw[z92,qvu h0 h];congr 1;omega
theorem qkr(p:Int):Ieee.double.nearest false 0 p=0:=by simp[Format.nearest,Format.word]
theorem zo2{a b:Nat}{p:Nat}:Datum.sum (.number false (a*2 ^ p) (-(p:Int))) (.number false (b*2 ^ q) (-(q:Int)))=some (.number false ((a+b)*2 ^ max p q) (-((max p q:Nat):Int))):=by
 unfold Datum.sum;have hb:min (-(p:Int)) (-(q:Int))=-((max p q:Nat):Int):=om
 simp only[hb];have h1:(-(p:Int)- -((max p q:Nat):Int)).toNat=max p q-p:=om
 have h2:(-(q:Int)- -((max p q:Nat):Int)).toNat=max p q-q:=om
 rw[h1,h2];unfold signed;simp only[Zu,if_false,Zs];have e1:a*2 ^ p*2 ^ (max p q-p)=a*2 ^ max p q:=by rw[ZR,<-Zc];congr 2;omega
 have e2:b*2 ^ q*2 ^ (max p q-q)=b*2 ^ max p q:=by rw[ZR,<-Zc];congr 2;omega
 rw[e1,e2];have e3:((a*2 ^ max p q:Nat):Int)+((b*2 ^ max p q:Nat):Int)=(((a+b)*2 ^ max p q:Nat):Int):=by rw[jY];rfl
 rw[e3];have e4:decide ((((a+b)*2 ^ max p q:Nat):Int)<0)=false:=by apply zt;omega
 simp only[e4,Int.natAbs_natCast,Jz,ite_self]
theorem zek{a b:Nat}{p:Nat}:Datum.order (.number false (a*2 ^ p) (-(p:Int))) (.number false (b*2 ^ q) (-(q:Int)))=some (compare a b):=by
 unfold Datum.order;have hb:min (-(p:Int)) (-(q:Int))=-((max p q:Nat):Int):=om
 simp only[hb];have h1:(-(p:Int)- -((max p q:Nat):Int)).toNat=max p q-p:=om
 have h2:(-(q:Int)- -((max p q:Nat):Int)).toNat=max p q-q:=om
 rw[h1,h2];unfold signed;simp only[Zu,if_false,Zs];have e1:a*2 ^ p*2 ^ (max p q-p)=a*2 ^ max p q:=by rw[ZR,<-Zc];congr 2;omega
 have e2:b*2 ^ q*2 ^ (max p q-q)=b*2 ^ max p q:=by rw[ZR,<-Zc];congr 2;omega
 rw[e1,e2];generalize max p q=k;congr 1;have hk:=Zk k;rcases Za a b with h|h|h
 ·rw[Nat.compare_eq_lt.2 h];rw[Int.compare_eq_lt];exact Int.ofNat_lt.2 (jR h hk)
 ·subst h;rw[Nat.compare_eq_eq.2 rfl,Int.compare_eq_eq]
 ·rw[Nat.compare_eq_gt.2 h];rw[Int.compare_eq_gt];exact Int.ofNat_lt.2 (jR h hk)
theorem far:∃p:Nat,(p:Int)=1074:=⟨1074,rfl⟩
theorem XF{n:Nat}(h:n<2 ^ 53):∃p:Nat,Ieee.double.read (cV n)=.number false (n*2 ^ p) (-(p:Int)):=by
 obtain⟨m,k,h1|⟨h1,h2⟩⟩:=zej h
 ·exact⟨k,by rw[h1.1,h1.2.1]⟩
 ·have⟨p,hp⟩:=far;exact⟨p,by rw[h2,h1,Nat.zero_mul,hp]⟩
theorem XG{n:Nat}(h:n+m<2 ^ 53):ko (cV n) (cV m)=some (cV ((n+m:Nat):Int)):=by
 have⟨p,hp⟩:=XF (n:=n) om;have⟨q,hq⟩:=XF (n:=m) om;unfold ko Format.add;rw[hp,hq,zo2];simp only[ZT,zU];show Ieee.double.nearest false ((n+m)*2 ^ max p q) (-((max p q:Nat):Int))=_;rw[z92];by_cases h0:n+m=0
 ·rw[h0,Nat.zero_mul,qkr,qkr]
 ·exact qsr om h
theorem zl3{n:Nat}(hn:n<2 ^ 53)(hm:m<2 ^ 53):GC (cV n) (cV m)=decide (n<=m):=by
 have⟨p,hp⟩:=XF hn;have⟨q,hq⟩:=XF hm;unfold GC Format.order;rw[hp,hq,zek];rcases Za n m with h|h|h
 ·rw[Nat.compare_eq_lt.2 h,zw om];rfl
 ·rw[Nat.compare_eq_eq.2 h,zw om];rfl
 ·rw[Nat.compare_eq_gt.2 h,zt om];rfl
end Fn
end Ev
namespace Ev
open Go
namespace Fn
open Pz
variable{α:Type}{y:(Sl Y0)}{b bx:Bool}{a' c c' k n:Int}{L:List (Sl Y0)}{l:List ND}{fx:List af}{x:ND}{N i m q z:Nat}{s' t:Tx}{f:af}{self:lV}
theorem dQ(a b:Int){x y:Option α}(h:ah a b=false:=by rfl):aL (ah a b) x y=y:=by rw[h,aJ]
theorem uQ(a b:Int){x y:Option α}(h:ah a b=true:=by rfl):aL (ah a b) x y=x:=by rw[h,aM]
def ch(s:Tx):F:=tr 41 s 0 .nil
def cI:F:=tr 42 [] 0 .nil
def bH:List F->F
 |[]=>.nil
 |d::l=>d.app (bH l)
def CV(l:List F):F:=tr 45 [] 0 (bH l)
def CW:List F->F
 |[d]=>d
 |l=>CV l
def nC(l:List F):F:=tr 43 [] 2 (CW l)
def gi(l:List F):F:=tr 44 [] 0 (CW l)
def cf(d:F):F:=nC [cI,d]
def iG(s:Tx):Tx:=bif bX s then [40]++s++[41] else s
def fC(n:Int):Tx:=kr (o4 n)
def il(n:Int):Int:=if n<10 then 48+n else 87+n
def eW(c:Int):Tx:=if c=34\/c=92 then [92,c] else if c=10 then [92,110] else if c<32\/126<c then [92,120,il (c / 16),il (c % 16)] else [c]
def vV(s:Tx):Tx:=[34]++s.flatMap eW++[34]
def vW(qs:List (Tx×Tx)):Tx:=qs.flatMap fun q=>[32]++q.2
def cF(k:Int)(t:Tx)(n:Int)(qs:List (Tx×Tx)):Tx:=if k=21 then [95] else if k=22 then iG t else if k=23 then fC n else t++vW qs
def gY(k:Int)(c:Nat)(s:Tx):Tx:=if k≠21/\k≠22/\k≠23/\c≠0 then [40]++s++[41] else s
def bK:F->List (Tx×Tx)
 |.nil=>[]
 |.cons k t n ks r=>(cF k t n (bK ks),gY k ks.aq (cF k t n (bK ks)))::bK r
structure Pt where
 doc:F
 lk:Int
 lv:Int
 sd:Int
structure Dc where
 p:Pt
 b:Pt
 hd:Pt
 args:List F
 pt:Tx
def pA(b:Bool)(d:F):F:=bif b then CV [ch [40],d,ch [41]] else d
def D7(p:Pt)(lv sd s:Int):Bool:=decide (p.lk=2)&&(decide (p.lv<lv)||(decide (p.lv=lv)&&(decide (p.sd≠s)||decide (sd≠s))))
def uR(p:Pt)(lv sd s:Int):F:=pA (decide (p.lk=3)||D7 p lv sd s) p.doc
def fV(p:Pt):F:=pA (decide (p.lk≠0)) p.doc
def xq(p:Pt):F:=pA (decide (p.lk=2)||decide (p.lk=3)) p.doc
def rowOf(fx:List af)(k:Int):F->Option af
 |.cons k1 _ _ (.cons k2 op _ _ _) _=>if k=6/\k1=6/\k2=3 then lZ fx op else none
 |_=>none
def pz:Pt:=⟨.nil,0,0,0⟩
def dz:Dc:=⟨pz,pz,pz,[],[]⟩
def cJ(ds:List Dc)(i:Nat):Dc:=(ds[i]?).getD dz
def pT:List Dc->List F
 |p::e::r=>[cI,ch ([124,32]++(p.pt++[32,45,62])),cf e.p.doc]++pT r
 |_=>[]
def zh9:List Dc->F
 |a::p::e::r=>gi ([ch Pz.dB,cf a.p.doc,cI,ch Pz.eH]++([nC [cI,ch (p.pt++[32,45,62]),cf e.p.doc]]++(pT r++[cI,ch Pz.gI])))
 |_=>gi []
def mT(k:Int):Bool:=decide (k=5)||(decide (k=7)||(decide (k=8)||(decide (k=9)||(decide (k=11)||decide (k=12)))))
def MN(k:Int)(t:Tx)(a b c:F):F:=
 if k=5 then gi [ch ([102,117,110,32]++iG t++[32,45,62]),cf a] else
 if k=7 then gi [ch ([108,101,116,32]++iG t++[32,61]),cf a,cI,ch [105,110],cI,b] else
 if k=8 then gi [ch ([108,101,116,32,114,101,99,32]++iG t++[32,61]),cf a,cI,ch [105,110],cI,b] else
 if k=9 then gi [ch Pz.rC,cf a,cI,ch Pz.iY,cf b,cI,ch Pz.iZ,cf c] else
 if k=11 then gi [ch Pz.dA,cf a] else
 gi [ch Pz.kv,cf a,cI,ch ([119,105,116,104,32]++iG t++[32,45,62]),cf b]
def F3(f:af)(a b:Pt):F:=gi [uR a f.2.1 f.2.2 (-1),nC [cI,ch (f.1++[32]),uR b f.2.1 f.2.2 1]]
def MO(hd:Pt)(args:List F):F:=gi [xq hd,nC args]
def fe(fx:List af)(k:Int)(t:Tx)(n:Int)(ks:F)(ds:List Dc):F:=
 if k=1 then ch (fC n) else if k=2 then ch (vV t) else if k=3 then ch (iG t) else
 if mT k=true then MN k t (cJ ds 0).p.doc (cJ ds 1).p.doc (cJ ds 2).p.doc else
 if k=10 then zh9 ds else
 if k=6 then(match rowOf fx k ks with
  |some f=>F3 f (cJ ds 0).b (cJ ds 1).p
  |none=>MO (cJ ds 0).hd ((cJ ds 0).args++[cI,fV (cJ ds 1).p])) else ch t
def dX(fx:List af)(k:Int)(ks:F):Int:=if k=6 then(match rowOf fx k ks with|some _=>2|none=>1) else if mT k=true then 3 else 0
def qV(fx:List af)(k:Int)(t:Tx)(n:Int)(ks:F)(ds:List Dc):Pt:=⟨fe fx k t n ks ds,dX fx k ks,((rowOf fx k ks).getD ([],0,0)).2.1,((rowOf fx k ks).getD ([],0,0)).2.2⟩
def vX(fx:List af)(k:Int)(t:Tx)(n:Int)(ks:F)(ds:List Dc):Dc:=
 ⟨qV fx k t n ks ds,if k=6 then(cJ ds 1).p else pz,
  if dX fx k ks=1 then(cJ ds 0).hd else qV fx k t n ks ds,
  if dX fx k ks=1 then(cJ ds 0).args++[cI,fV (cJ ds 1).p] else [],cF k t n (bK ks)⟩
def dF(fx:List af):F->List Dc
 |.nil=>[]
 |.cons k t n ks r=>vX fx k t n ks (dF fx ks)::dF fx r
def dT(fx:List af)(k:Int)(t:Tx)(n:Int)(ks:F):Dc:=vX fx k t n ks (dF fx ks)
theorem zo3(fx:List af):∀f:F,(dF fx f).length=f.aq
 |.nil=>rfl
 |.cons k t n ks r=>by show(dF fx r).length+1=r.aq+1;rw[zo3 fx r]
theorem F.oB:∀f g:F,(f.app g).size=f.size+g.size
 |.nil,g=>(zW _).symm
 |.cons k t n ks r,g=>by show ks.size+(r.app g).size+1=ks.size+r.size+1+g.size;rw[r.oB g];omega
theorem F.xu:∀f g:F,(f.app g).aq=f.aq+g.aq
 |.nil,g=>(zW _).symm
 |.cons k t n ks r,g=>by show(r.app g).aq+1=r.aq+1+g.aq;rw[r.xu g];omega
theorem F.uq:∀f g:F,(f.app g).flat=f.flat++g.flat
 |.nil,g=>rfl
 |.cons k t n ks r,g=>by
  show _::(ks.flat++(r.app g).flat)=(_::(ks.flat++r.flat))++g.flat
  rw[r.uq g,jL,zk]
theorem F.qW:∀f:F,f.app .nil=f
 |.nil=>rfl
 |.cons k t n ks r=>by show F.cons k t n ks (r.app .nil)=_;rw[r.qW]
theorem F.pU:∀f g h:F,(f.app g).app h=f.app (g.app h)
 |.nil,_,_=>rfl
 |.cons k t n ks r,g,h=>by show F.cons k t n ks ((r.app g).app h)=F.cons k t n ks (r.app (g.app h));rw[r.pU g h]
theorem XH:∀a b:List F,bH (a++b)=(bH a).app (bH b)
 |[],_=>rfl
 |d::a,b=>by show d.app (bH (a++b))=(d.app (bH a)).app (bH b);rw[XH a b,F.pU]
theorem F4(a b:List F):(bH (a++b)).size=(bH a).size+(bH b).size:=by rw[XH,F.oB]
theorem gj(d:F)(l:List F):(bH (d::l)).size=d.size+(bH l).size:=F.oB _ _
theorem qo4:∀l:List F,(bH l).flat=(l.map F.flat).flatten
 |[]=>rfl
 |d::l=>by show(d.app (bH l)).flat=d.flat++(l.map F.flat).flatten;rw[F.uq,qo4 l]
theorem z17:∀l:List F,(∀d,d∈l->d.aq=1)->(bH l).aq=l.length
 |[],_=>rfl
 |d::l,h=>by show(d.app (bH l)).aq=l.length+1;rw[F.xu,z17 l fun x hx=>h x (zf _ hx),h d (zg ..)];omega
theorem XI(l:List F):(CW l).size<=(bH l).size+1:=by
 match l with
 |[]=>exact zm _
 |[d]=>rw[gj];show d.size<=_;omega
 |_::_::_=>exact zm _
theorem OX(l:List F):(nC l).size<=(bH l).size+2:=by have:=XI l;show(CW l).size+0+1<=_;omega
theorem XJ(l:List F):(gi l).size<=(bH l).size+2:=by have:=XI l;show(CW l).size+0+1<=_;omega
theorem mF(s:Tx):(ch s).size=1:=rfl
theorem rG:cI.size=1:=rfl
theorem kT:(bH []).size=0:=rfl
theorem qo5(b:Bool)(d:F):(pA b d).size<=d.size+3:=by
 cases b with
 |false=>show d.size<=_;omega
 |true=>show(bH [ch [40],d,ch [41]]).size+0+1<=_;rw[gj,gj,gj,mF,mF,kT];omega
theorem MP(d:F):(cf d).size<=d.size+3:=by have:=OX [cI,d];rw[gj,gj,rG,kT] at this;show(nC [cI,d]).size<=_;omega
theorem XK{ks:F}(h:(ks.aq:Int)=1):∃a b c d,ks=.cons a b c d .nil:=by
 match ks,h with
 |.nil,h=>cases h
 |.cons a b c d r,h=>have h:((r.aq+1:Nat):Int)=1:=h;exact⟨a,b,c,d,by rw[xh (f:=r) om]⟩
theorem gO{ks:F}{n:Nat}(h:ks.aq=n+1):∃a b c d r,ks=.cons a b c d r/\r.aq=n:=by
 match ks,h with
 |.nil,h=>exact absurd h (by show ¬(0:Nat)=n+1;omega)
 |.cons a b c d r,h=>
  have h:r.aq+1=n+1:=h
  grind
theorem A6{ks:F}(h:ks.aq=0):ks=.nil:=xh om
def CY(N:Nat)(x:Dc):Prop:=x.p.doc.size+5<=6*N/\x.hd.doc.size+(bH x.args).size+5<=6*N/\(x.b.doc.size=0\/x.b.doc.size+17<=6*N)
def HT(fx:List af):Bool->Bool->F->Prop
 |_,_,.nil=>True
 |m,eh,.cons k t n ks r=>((m&&eh)=false->CY (ks.size+1) (dT fx k t n ks))/\HT fx m (!eh) r
theorem z93(p:Pt):(fV p).size<=p.doc.size+3:=qo5 _ _
theorem qqq(p:Pt):(xq p).size<=p.doc.size+3:=qo5 _ _
theorem XL(p:Pt)(a b c:Int):(uR p a b c).size<=p.doc.size+3:=qo5 _ _
theorem zel{p:Pt}(h:p.doc.size+5<=6*N):CY N ⟨p,pz,p,[],t⟩:=⟨h,by rw[kT];omega,.inl rfl⟩
theorem z19(fx:List af)(t:Tx)(n:Int)(ks:F)(ds:List Dc)(h:k≠6):vX fx k t n ks ds=⟨qV fx k t n ks ds,pz,qV fx k t n ks ds,[],cF k t n (bK ks)⟩:=by
 have hl:dX fx k ks≠1:=by unfold dX;omega
 unfold vX
 grind
theorem qvv(fx:List af):∀(N:Nat) (r:F),r.size<=N->HT fx true true r->(bH (pT (dF fx r))).size<=6*r.size
 |_,.nil,_,_=>by show(bH []).size<=_;rw[kT];omega
 |_,.cons k t n ks .nil,_,_=>by show(bH []).size<=_;rw[kT];omega
 |0,.cons k t n ks (.cons k' t' n' cm r),h,_=>by have h:ks.size+(cm.size+r.size+1)+1<=0:=h;omega
 |N+1,.cons k t n ks (.cons k' t' n' cm r),h,hs=>by have h:ks.size+(cm.size+r.size+1)+1<=N+1:=h;have⟨_,h2,h3⟩:=hs;have h2:=(h2 rfl).1;have ih:=qvv fx N r om h3;show(bH ([cI,ch ([124,32]++((dT fx k t n ks).pt++[32,45,62])),cf (dT fx k' t' n' cm).p.doc]++pT (dF fx r))).size<=6*(ks.size+(cm.size+r.size+1)+1);have hu:=MP (dT fx k' t' n' cm).p.doc;rw[F4,gj,gj,gj,kT,rG,mF];omega
theorem z4i(k:Int)(t:Tx)(a b c:F):(MN k t a b c).size<=(if k=5\/k=11 then a.size+6 else if k=9 then a.size+b.size+c.size+16 else a.size+b.size+11):=by
 have ha:=MP a;have hb:=MP b;have hc:=MP c;unfold MN;have g:=XJ;by_cases h5:k=5
 ·rw[zu h5,zu (.inl h5)];refine je (g _) ?_;rw[gj,gj,kT,mF];omega
 by_cases he:k=11
 ·subst he;rw[zj dc,zj dc,zj dc,zj dc,zu rfl,zu (.inr rfl)];refine je (g _) ?_;rw[gj,gj,kT,mF];omega
 by_cases h9:k=9
 ·subst h9;rw[zj dc,zj dc,zj dc,zu rfl,zj dc,zu rfl];refine je (g _) ?_;simp[gj,kT,mF,rG];omega
 rw[zj h5,zj h9,zj he,zj (show ¬(k=5\/k=11) from fun h=>h.elim h5 he)];split
 ·refine je (g _) ?_;simp[gj,kT,mF,rG];omega
 split
 ·refine je (g _) ?_;simp[gj,kT,mF,rG];omega
 ·refine je (g _) ?_;simp[gj,kT,mF,rG];omega
theorem A7(h:mT k=true):k=5\/k=7\/k=8\/k=9\/k=11\/k=12:=by simpa[mT,Bool.or_eq_true,decide_eq_true_eq] using h
theorem XM(h:mT k=true):k≠1/\k≠2/\k≠3/\k≠6/\k≠10:=by rcases A7 h with h|h|h|h|h|h<;>subst h<;>decide
theorem XN(fx:List af)(t:Tx)(n:Int)(ks:F)(ds:List Dc)(h:mT k=true):fe fx k t n ks ds=MN k t (cJ ds 0).p.doc (cJ ds 1).p.doc (cJ ds 2).p.doc:=by
 have⟨h1,h2,h3,_⟩:=XM h;unfold fe
 grind
theorem z94(fx:List af){ks:F}(hv:bO k t n ks false=0)(hs:HT fx (ah k 10) false ks):CY (ks.size+1) (dT fx k t n ks):=by
 have⟨hn,hf⟩:=bE.1 hv;have⟨_,_,hk,_,_,_⟩:=bC.1 hn;have⟨c1,c2,c3,sF,c0⟩:=AU hk;have one:∀{a b d:_} {c:_} {r m:_},HT fx m false (.cons a b c d r)->CY (d.size+1) (dT fx a b c d)/\HT fx m true r:=fun h=>⟨h.1 (Bool.and_false _),h.2⟩;have two:∀{a b d:_} {c:_} {r:_},HT fx false true (.cons a b c d r)->CY (d.size+1) (dT fx a b c d)/\HT fx false false r:=fun h=>⟨h.1 rfl,h.2⟩;by_cases h6:k=6
 ·subst h6;obtain⟨a,b,c,d,r,rfl,hr⟩:=gO (ks:=ks) (n:=1) om;obtain⟨a',b',c',d',r',rfl,hc⟩:=gO (n:=0) hr;obtain rfl:=A6 hc;have rA:ah 6 10=false:=rfl;rw[rA] at hs;obtain⟨s1,hs⟩:=one hs;obtain⟨s2,_⟩:=two hs;have e0:cJ (dF fx (.cons a b c d (.cons a' b' c' d' .nil))) 0=dT fx a b c d:=rfl;have e1:cJ (dF fx (.cons a b c d (.cons a' b' c' d' .nil))) 1=dT fx a' b' c' d':=rfl;have hN:(F.cons a b c d (.cons a' b' c' d' .nil)).size+1=d.size+1+(d'.size+1)+1:=by show d.size+(d'.size+0+1)+1+1=_;omega
  rw[hN];generalize d.size+1=N0 at*
  have hp:1<=N0:=by have:=s1.1;omega
  have ha:=z93 (dT fx a' b' c' d').p;have hh:=qqq (dT fx a b c d).hd;obtain⟨p1,p2,p3⟩:=s1;obtain⟨q1,q2,q3⟩:=s2;have hj:(bH ((dT fx a b c d).args++[cI,fV (dT fx a' b' c' d').p])).size<=(bH (dT fx a b c d).args).size+1+((dT fx a' b' c' d').p.doc.size+3):=by rw[F4,gj,gj,kT,rG];omega
  unfold dT vX;have he:(fe fx 6 t n (.cons a b c d (.cons a' b' c' d' .nil)) (dF fx (.cons a b c d (.cons a' b' c' d' .nil)))).size+5<=6*(N0+(d'.size+1)+1):=by
   unfold fe;rw[zj dc,zj dc,zj dc,zj dc,zj dc,zu rfl,e0];cases hq:rowOf fx 6 (.cons a b c d (.cons a' b' c' d' .nil)) with
   |none=>have g1:=XJ [xq (dT fx a b c d).hd,nC ((dT fx a b c d).args++[cI,fV (dT fx a' b' c' d').p])];have g2:=OX ((dT fx a b c d).args++[cI,fV (dT fx a' b' c' d').p]);rw[gj,gj,kT] at g1;show(gi [xq (dT fx a b c d).hd,nC ((dT fx a b c d).args++[cI,fV (dT fx a' b' c' d').p])]).size+5<=_;omega
   |some f=>have g0:=XL (dT fx a b c d).b f.2.1 f.2.2 (-1);have g3:=XL (dT fx a' b' c' d').p f.2.1 f.2.2 1;have g1:=XJ [uR (dT fx a b c d).b f.2.1 f.2.2 (-1),nC [cI,ch (f.1++[32]),uR (dT fx a' b' c' d').p f.2.1 f.2.2 1]];have g2:=OX [cI,ch (f.1++[32]),uR (dT fx a' b' c' d').p f.2.1 f.2.2 1];rw[gj,gj,kT] at g1;rw[gj,gj,gj,kT,rG,mF] at g2;show(gi [uR (dT fx a b c d).b f.2.1 f.2.2 (-1),nC [cI,ch (f.1++[32]),uR (dT fx a' b' c' d').p f.2.1 f.2.2 1]]).size+5<=_;omega
  refine⟨he,?_,?_⟩
  ·by_cases hl:dX fx 6 (.cons a b c d (.cons a' b' c' d' .nil))=1
   ·grind
   ·rw[zj hl,zj hl];exact he
  grind
 ·have hg:dT fx k t n ks=⟨qV fx k t n ks (dF fx ks),pz,qV fx k t n ks (dF fx ks),[],cF k t n (bK ks)⟩:=z19 fx t n ks _ h6;rw[hg];refine zel ?_;show(fe fx k t n ks (dF fx ks)).size+5<=_;by_cases ho:mT k=true
  ·rw[XN fx t n ks _ ho];have hb:=z4i k t (cJ (dF fx ks) 0).p.doc (cJ (dF fx ks) 1).p.doc (cJ (dF fx ks) 2).p.doc;have rA:ah k 10=false:=by rcases A7 ho with h|h|h|h|h|h<;>subst h<;>rfl
   rw[rA] at hs;by_cases hA:k=5\/k=11
   ·rw[zu hA] at hb;obtain⟨a,b,c,d,rfl⟩:=XK (c1 hA);have⟨s1,_⟩:=one hs;have e0:cJ (dF fx (.cons a b c d .nil)) 0=dT fx a b c d:=rfl;rw[e0] at hb ⊢;have s1:=s1.1;show _+5<=6*((d.size+0+1)+1);omega
   ·rw[zj hA] at hb;by_cases h9:k=9
    ·rw[zu h9] at hb;obtain⟨a,b,c,d,r,rfl,hr⟩:=gO (ks:=ks) (n:=2) om;obtain⟨a',b',c',d',r',rfl,hc⟩:=gO (n:=1) hr;obtain⟨a2,b2,lh,d2,r2,rfl,hm⟩:=gO (n:=0) hc;obtain rfl:=A6 hm;obtain⟨s1,hs⟩:=one hs;obtain⟨s2,hs⟩:=two hs;obtain⟨s3,_⟩:=one hs;have e0:cJ (dF fx (.cons a b c d (.cons a' b' c' d' (.cons a2 b2 lh d2 .nil)))) 0=dT fx a b c d:=rfl;have e1:cJ (dF fx (.cons a b c d (.cons a' b' c' d' (.cons a2 b2 lh d2 .nil)))) 1=dT fx a' b' c' d':=rfl;have e2:cJ (dF fx (.cons a b c d (.cons a' b' c' d' (.cons a2 b2 lh d2 .nil)))) 2=dT fx a2 b2 lh d2:=rfl;rw[e0,e1,e2] at hb ⊢;have s1:=s1.1;have s2:=s2.1;have s3:=s3.1;show _+5<=6*((d.size+(d'.size+(d2.size+0+1)+1)+1)+1);omega
    ·rw[zj h9] at hb;have h2:k=6\/k=7\/k=8\/k=12:=by
      rcases A7 ho with h|h|h|h|h|h
      all_goals omega
     obtain⟨a,b,c,d,r,rfl,hr⟩:=gO (ks:=ks) (n:=1) om;obtain⟨a',b',c',d',r',rfl,hc⟩:=gO (n:=0) hr;obtain rfl:=A6 hc;obtain⟨s1,hs⟩:=one hs;have⟨s2,_⟩:=two hs;have e0:cJ (dF fx (.cons a b c d (.cons a' b' c' d' .nil))) 0=dT fx a b c d:=rfl;have e1:cJ (dF fx (.cons a b c d (.cons a' b' c' d' .nil))) 1=dT fx a' b' c' d':=rfl;rw[e0,e1] at hb ⊢;have s1:=s1.1;have s2:=s2.1;show _+5<=6*((d.size+(d'.size+0+1)+1)+1);omega
  ·unfold fe;by_cases g1:k=1
   ·rw[zu g1,mF];omega
   by_cases g2:k=2
   ·rw[zj g1,zu g2,mF];omega
   by_cases g3:k=3
   ·rw[zj g1,zj g2,zu g3,mF];omega
   rw[zj g1,zj g2,zj g3,zj ho];by_cases g10:k=10
   ·subst g10;rw[zu rfl];have⟨sF,Lk⟩:=sF rfl;obtain⟨a,b,c,d,r,rfl,hr⟩:=gO (ks:=ks) (n:=ks.aq-1) om;obtain⟨a',b',c',d',r',rfl,hc⟩:=gO (ks:=r) (n:=r.aq-1) om;have ht:(F.cons a' b' c' d' r').aq=r'.aq+1:=rfl;obtain⟨a2,b2,lh,d2,r2,rfl,hm⟩:=gO (ks:=r') (n:=r'.aq-1) om;have rA:ah 10 10=true:=rfl;obtain⟨s1,_,s3,s4⟩:=hs;have s1:=(s1 rfl).1;have s3:=(s3 rfl).1;have s5:=qvv fx r2.size r2 (zm _) s4;show(gi ([ch Pz.dB,cf (dT fx a b c d).p.doc,cI,ch Pz.eH]++([nC [cI,ch ((dT fx a' b' c' d').pt++[32,45,62]),cf (dT fx a2 b2 lh d2).p.doc]]++(pT (dF fx r2)++[cI,ch Pz.gI])))).size+5<=6*((d.size+(d'.size+(d2.size+r2.size+1)+1)+1)+1);have g:=XJ ([ch Pz.dB,cf (dT fx a b c d).p.doc,cI,ch Pz.eH]++([nC [cI,ch ((dT fx a' b' c' d').pt++[32,45,62]),cf (dT fx a2 b2 lh d2).p.doc]]++(pT (dF fx r2)++[cI,ch Pz.gI])));have g2:=OX [cI,ch ((dT fx a' b' c' d').pt++[32,45,62]),cf (dT fx a2 b2 lh d2).p.doc];have g3:=MP (dT fx a b c d).p.doc;have g4:=MP (dT fx a2 b2 lh d2).p.doc;simp only[F4,gj,kT,mF,rG] at g g2;omega
   rw[zj g10,zj h6,mF];omega
theorem XO(fx:List af):∀(f:F) (m eh:Bool),fc m false eh f=0->HT fx m eh f
 |.nil,_,_,_=>trivial
 |.cons k t n ks r,m,eh,h=>by have⟨h1,h2⟩:=cK.1 h;refine⟨fun hm=>?_,XO fx r m (!eh) h2⟩;rw[hm] at h1;exact z94 fx h1 (XO fx ks (ah k 10) false (bE.1 h1).2)
theorem z1a(fx:List af){ks:F}(hv:bO k t n ks false=0):(dT fx k t n ks).p.doc.size<=6*(ks.size+1):=by have:=(z94 fx hv (XO fx ks _ _ (bE.1 hv).2)).1;omega
def Ds(L:List (Sl Y0))(ds:List F):Prop:=gu L=ds.map F.flat/\∀d,d∈ds->d.aq=1
theorem Ds.len{ds:List F}(h:Ds L ds):L.length=ds.length:=by
 have:=jd List.length h.1
 rwa [MI,zI] at this
theorem zem{d:F}(h:d.aq=1):1<=d.size:=by have:=d.eJ;omega
theorem Tv:∀{ds:List F},(∀d,d∈ds->d.aq=1)->ds.length<=(bH ds).size
 |[],_=>zC _
 |d::ds,h=>by have:=Tv fun x hx=>h x (zf d hx);have:=zem (h d (zg ..));rw[gj,zn];omega
theorem Ds.lens{ds:List F}(h:Ds L ds):lens L=(bH ds).size:=by rw[OO,h.1,<-qo4,F.len]
theorem Ds.flat{ds:List F}(h:Ds L ds):(L.map (·.l)).flatten=(bH ds).flat:=by rw[qo4,<-h.1];rfl
theorem Ds.cat{ds:List F}(h:Ds L ds)(k:Int)(n:Int):(k,([]:Tx),n,(L.length:Int))::(L.map (·.l)).flatten=(tr k [] n (bH ds)).flat:=by rw[yW,h.flat,z17 ds h.2,h.len]
theorem Ds.nil:Ds [] []:=⟨rfl,nofun⟩
theorem Ds.cons{d:F}{ds:List F}(h1:y.l=d.flat)(h2:d.aq=1)(h:Ds L ds):Ds (y::L) (d::ds):=⟨by show y.l::gu L=d.flat::ds.map F.flat;rw[h1,h.1],fun x hx=>by rcases zA.1 hx with rfl|hx;exact h2;exact h.2 x hx⟩
theorem Ds.app{M:List (Sl Y0)}{ds es:List F}(h:Ds L ds)(g:Ds M es):Ds (L++M) (ds++es):=⟨by unfold gu;rw[jn,jn];exact congr (jd _ h.1) g.1,fun x hx=>(zD.1 hx).elim (h.2 x) (g.2 x)⟩
theorem Ds.get{ds:List F}(h:Ds (y::L) ds):∃d es,ds=d::es/\y.l=d.flat:=by
 match ds,h with
 |[],h=>cases h.1
 |d::es,h=>have:=h.1;injection this with a b;exact⟨d,es,rfl,a⟩
theorem XP(b:Bool){d:F}(h:d.aq=1):(pA b d).aq=1:=by cases b;exact h;rfl
theorem qvw{l:List F}(h:∀d,d∈l->d.aq=1):(CW l).aq=1:=by
 match l,h with
 |[],_=>rfl
 |[d],h=>exact h d (zg ..)
 |_::_::_,_=>rfl
theorem z1b(k n:Int){d:F}(h:d.aq=1):(k,([]:Tx),n,(1:Int))::([d.flat].flatten)=(tr k [] n d).flat:=by rw[yW,h];simp
theorem pV(s:Tx):nq (s,())=some (⟨false,(ch s).flat⟩,()):=by rw[abO,abN,Hy 41 s 0 0 true [] (by simp) (by simp[lens])];rfl
theorem CZ:nu ()=some (⟨false,cI.flat⟩,()):=by rw[abW,Hy 42 [] 0 0 true [] (by simp) (by simp[lens])];rfl
theorem qst(b:Bool){ds:List F}(h:Ds L ds)(hs:(bH ds).size<=100000):yE (⟨b,L⟩,())=some (⟨false,(CV ds).flat⟩,()):=by have hl:=h.len;have:=Tv h.2;rw[abT,Hy 45 [] 0 0 b L om (by rw[h.lens];omega),h.cat];rfl
theorem qvx(b:Bool){ds:List F}(h:Ds L ds)(hs:(bH ds).size<=100000):∃q,yF (⟨b,L⟩,())=some (⟨q,(CW ds).flat⟩,()):=by
 rw[abU];have hl:aa L=((ds.length:Nat):Int):=by show((L.length:Nat):Int)=_;rw[h.len]
 rw[hl]
 match ds,h,hs with
 |[d],h,_=>
  match L,h with
  |[y],h=>
   have⟨d',es,e,hy⟩:=h.get;injection e with e _;refine⟨y.nil,?_⟩;have h1:ah (([d].length:Nat):Int) 1=true:=rfl;have:fL [y] 0=some y:=rfl;rw[h1,aM,this];have⟨q,l⟩:=y;show some ((⟨q,l⟩:(Sl Y0)),())=some (⟨q,d.flat⟩,())
   grind
  |[],h=>exact absurd h.len (by simp)
  |_::_::_,h=>exact absurd h.len (by simp)
 |[],h,hs=>refine⟨false,?_⟩;rw[qst b h hs];rfl
 |d::e::ds,h,hs=>
  refine⟨false,?_⟩;have he:ah (((d::e::ds).length:Nat):Int) 1=false:=by rfl
  rw[he,aJ,qst b h hs];rfl
theorem XQ(b:Bool){ds:List F}(h:Ds L ds)(hs:(bH ds).size<=100000):pj (⟨b,L⟩,())=some (⟨false,(nC ds).flat⟩,()):=by have⟨q,e⟩:=qvx b h hs;have hz:=XI ds;rw[abY,e,ae,abX,Hy 43 [] 2 0 false [⟨q,(CW ds).flat⟩] (by simp) (by simp[lens,F.len];omega)];exact jd (fun z:List ND=>some ((⟨false,z⟩:(Sl Y0)),())) (z1b 43 2 (qvw h.2))
theorem F5(b:Bool){ds:List F}(h:Ds L ds)(hs:(bH ds).size<=100000):ph (⟨b,L⟩,())=some (⟨false,(gi ds).flat⟩,()):=by have⟨q,e⟩:=qvx b h hs;have hz:=XI ds;rw[abV,e,ae,abS,Hy 44 [] 0 0 false [⟨q,(CW ds).flat⟩] (by simp) (by simp[lens,F.len];omega)];exact jd (fun z:List ND=>some ((⟨false,z⟩:(Sl Y0)),())) (z1b 44 0 (qvw h.2))
theorem Ds.one{d:F}(h1:y.l=d.flat)(h2:d.aq=1):Ds [y] [d]:=.cons h1 h2 .nil
theorem C0(y:(Sl Y0)){d:F}(h1:y.l=d.flat)(h2:d.aq=1)(hs:d.size<=90000):sE (y,())=some (⟨false,(cf d).flat⟩,()):=by rw[abZ,CZ,ae];rw[XQ false (.cons (d:=cI) rfl rfl (.one h1 h2)) (by rw[gj,gj,kT,rG];omega)];rfl
theorem lj(a b:Tx):fw a b=a++b:=id (Eq.refl (a++b))
theorem qk4{s:Tx}(hs:∀b,b∈s->0<=b/\b<=255)(hl:s.length<=1000000):sD (s,())=some (iG s,()):=by
 rw[abR,W8 s hs,ae];unfold iG;cases bX s with
 |false=>rfl
 |true=>
  rw[aM,show aa ([40]:Y1)=((1:Nat):Int) from rfl,show aa s=((s.length:Nat):Int) from rfl,qK om,ae,lj,
   show aa ([40]++s)=(((1+s.length):Nat):Int) from by show((([40]++s).length:Nat):Int)=_;rw[zd];rfl,
   show aa ([41]:Y1)=((1:Nat):Int) from rfl,qK om,ae,lj]
  rfl
theorem qo6(h:rz n=true):nM n:=by have:=zZ h;unfold nM;omega
theorem z95(h:rz n=true):qv (n,())=some (n,()):=by have⟨v,hv,he⟩:=qqe n (qo6 h);rw[h] at he;rw[hv,show v=n from by simpa[ah] using he]
theorem XR(h:rz n=true):mr (n,())=some (fC n,()):=by
 have⟨h1,h2⟩:=qo6 h;have hf:Fc (n,10,())=some (o4 n,()):=by
  show(bif decide ((10:Int)=10)&&(decide (-9223372036854775808<=n)&&decide (n<=9223372036854775807)) then some (o4 n,()) else none)=_
  grind
 have hl:=Ws n;have hr:Fb (o4 n,[45],[126],1,())=some (kr (o4 n),()):=by
  show(bif (([45]:List Int)==[45])&&((([126]:List Int)==[126])&&(decide ((1:Int)=1)&&decide ((o4 n).length<=1000))) then some (kr (o4 n),()) else none)=_
  grind
 rw[Sz,z95 h,ae];rw[hf,ae];rw[hr];rfl
theorem qvy:∀f u,∀b,b∈dO f u->48<=b/\b<=57
 |0,_,b,h=>absurd h (zL)
 |f+1,u,b,h=>by
  unfold dO at h;split at h
  ·grind
  ·rcases zD.1 h with h|h
   ·exact qvy f _ b h
   grind
theorem z96:∀l:Tx,(∀b,b∈l->b≠45)->kr l=l
 |[],_=>rfl
 |b::l,h=>by unfold kr;rw[zj (h b (zg ..)),z96 l fun x hx=>h x (zf _ hx)]
theorem XS(n:Int):fC n=if n<0 then 126::dO 20 n.natAbs else dO 20 n.toNat:=by
 unfold fC o4;by_cases h:n<0
 ·rw[zu h,zu h];rfl
 ·rw[zj h,zj h];exact z96 _ fun b hb=>by have:=qvy _ _ b hb;omega
abbrev F6:Tx:=[48,49,50,51,52,53,54,55,56,57,97,98,99,100,101,102]
theorem zl4:∀c:Fin 256,lu .u8 (c.val:Int) 4=some ((c.val / 16:Nat):Int)/\bS F6 ((c.val / 16:Nat):Int) (bc .u8 ((c.val / 16:Nat):Int) 1)=some [il ((c.val / 16:Nat):Int)]/\bS F6 (mV .u8 (c.val:Int) 15) (bc .u8 (mV .u8 (c.val:Int) 15) 1)=some [il ((c.val % 16:Nat):Int)]:=by decide+kernel
theorem zo4(h0:0<=c)(h1:c<=255):lu .u8 c 4=some (c / 16)/\bS F6 (c / 16) (bc .u8 (c / 16) 1)=some [il (c / 16)]/\bS F6 (mV .u8 c 15) (bc .u8 (mV .u8 c 15) 1)=some [il (c % 16)]:=by obtain⟨n,rfl⟩:=jP h0;exact zl4 ⟨n,by omega⟩
theorem qya(t:Tx)(b nb:Bool)(acc:Tx)(h:acc.length+t.length<=1000000):∃q,kJ (t,b,⟨nb,acc⟩,())=some (aa t,true,⟨q,acc++t⟩,()):=by rw[Sx];have e:sC (b,⟨nb,acc⟩,())=some (true,⟨nb,acc⟩,()):=rfl;rw[e,ae];rw[show aa acc=((acc.length:Nat):Int) from rfl,show aa t=((t.length:Nat):Int) from rfl,qK om];exact⟨_,rfl⟩
theorem qyb(c:Int)(b nb:Bool)(acc:Tx)(h:acc.length+1<=1000000):∃q,yD (c,b,⟨nb,acc⟩,())=some (true,⟨q,acc++[c]⟩,()):=by rw[abP];have e:sC (b,⟨nb,acc⟩,())=some (true,⟨nb,acc⟩,()):=rfl;rw[e,ae];rw[show aa acc=((acc.length:Nat):Int) from rfl,show aa ([c]:Y1)=((1:Nat):Int) from rfl,qK om];exact⟨_,rfl⟩
theorem zen(c:Int):(eW c).length<=4:=by
 unfold eW
 grind
theorem zl5{s:Tx}(h:i<s.length):bS s (i:Int) ((i+1:Nat):Int)=some [s[i]]:=by unfold bS;rw[zu ⟨by omega,by omega,by omega⟩];congr 1;rw[jq,jq,Zq,lX h,Zr];rfl
theorem z4j{s:Tx}(hb:∀b,b∈s->0<=b/\b<=255)(hs:s.length<=100000):∀(m i:Nat) (nb:Bool) (acc:Tx),i+m=s.length->acc.length<=1+4*i->aI tG (s,(s.length:Int),(i:Int),true,⟨nb,acc⟩,())=some (acc++(s.drop i).flatMap eW++[34],()):=by
 intro m
 induction m with
 |zero=>
  intro i nb acc hi hl;have⟨q,e⟩:=qyb 34 true nb acc om;refine bG ?_;rw[qhv];simp only;rw[bf,zj om,e,ae];rw[show yC (true,⟨q,acc++[34]⟩,())=some (acc++[34],()) from rfl,ae]
  grind
 |succ m ih=>
  intro i nb acc hi hl;have he:i<s.length:=om
  have hd:=lX he;obtain⟨h0,h1⟩:=hb s[i] (jx he);have hq:=zen s[i];obtain⟨q,step⟩:∃q,tG (s,(s.length:Int),(i:Int),true,⟨nb,acc⟩,())=some (Sum.inl (s,(s.length:Int),((i+1:Nat):Int),true,⟨q,acc++eW s[i]⟩,())):=by
   rw[qhv];simp only;rw[bf,zu om,bJ (zh he),ae];have hf:=aG (k:=i) om;have hg:=zl5 he;generalize s[i]=c at*
   by_cases c1:c=34\/c=92
   ·have hc:eW c=[92,c]:=by unfold eW;rw[zu c1]
    have e0:aL (ah c 34) (some (s,(i:Int),c,(s.length:Int),(i:Int),ah c 34,true,(⟨nb,acc⟩:Sl Int),())) (some (s,(i:Int),c,(s.length:Int),(i:Int),ah c 92,true,(⟨nb,acc⟩:Sl Int),()))=some (s,(i:Int),c,(s.length:Int),(i:Int),true,true,(⟨nb,acc⟩:Sl Int),()):=by rcases c1 with rfl|rfl<;>rfl
    rw[e0,ae];have⟨q,e⟩:=qya ([92]++[c]) true nb acc (by show acc.length+2<=_;omega);rw[aM,hf,hg,ae,show aa ([92]:Y1)=((1:Nat):Int) from rfl,show aa ([c]:Tx)=((1:Nat):Int) from rfl,qK om,ae,lj,e];simp[ae]
    grind
   ·have hj:c≠34:=fun e=>c1 (.inl e);have hk:c≠92:=fun e=>c1 (.inr e);rw[cZ hj,aJ,ae];simp only;rw[cZ hk,aJ,kI];by_cases c2:c=10
    ·have hc:eW c=[92,110]:=by unfold eW;rw[zj c1,zu c2]
     have⟨q,e⟩:=qya [92,110] true nb acc (by show acc.length+2<=_;omega);rw[zu c2,e];simp[ae]
     grind
    ·rw[zj c2,bf];by_cases c3:c<32\/126<c
     ·have hc:eW c=[92,120,il (c / 16),il (c % 16)]:=by unfold eW;rw[zj c1,zj c2,zu c3]
      have e3:(if c<32 then some true else some (aZ 126 c))=some true:=by
       by_cases c4:c<32
       ·rw[zu c4]
       ·rw[zj c4];exact jd some (zw om)
      obtain⟨g1,g2,g3⟩:=zo4 h0 h1;obtain⟨q,e⟩:=qya ([92,120]++[il (c / 16)]++[il (c % 16)]) true nb acc (by show acc.length+4<=_;omega);rw[e3];simp only[ae,aM,g1];rw[g2];simp only[ae];rw[show aa ([92,120]:Y1)=((2:Nat):Int) from rfl,show aa ([il (c / 16)]:Tx)=((1:Nat):Int) from rfl,qK om];rw[g3];simp only[ae];rw[lj,show aa (([92,120]:Y1)++[il (c / 16)])=((3:Nat):Int) from rfl,show aa ([il (c % 16)]:Tx)=((1:Nat):Int) from rfl,qK om];rw[lj,e];simp only[ae]
      grind
     ·have hc:eW c=[c]:=by unfold eW;rw[zj c1,zj c2,zj c3]
      have e3:(if c<32 then some true else some (aZ 126 c))=some false:=by rw[zj om];exact jd some (zt om)
      obtain⟨q,e⟩:=qyb c true nb acc om;rw[e3];simp only[ae,aJ];rw[e];simp only[ae]
      grind
  rw[cY step,ih (i+1) q _ om (by rw[zd];omega),hd,jM,zk acc]
theorem z4k{s:Tx}(hb:∀b,b∈s->0<=b/\b<=255)(hs:s.length<=100000):Fe (s,())=some (vV s,()):=by have⟨q,e⟩:=qyb 34 false true [] dc;rw[abQ,e];exact z4j hb hs s.length 0 q [34] om dc
def TL(N:Nat)(l:List ND):Prop:=∀x,x∈l->x.2.1.length<=N
theorem XT(s:Tx):(iG s).length<=s.length+2:=by
 unfold iG;cases bX s with
 |false=>show s.length<=_;omega
 |true=>show([40]++s++[41]).length<=_;simp
theorem z1c(n:Int):(fC n).length<=21:=by unfold fC;rw[qs3];exact Ws n
theorem qsv(k:Int)(c:Nat)(s:Tx):(gY k c s).length<=s.length+2:=by
 unfold gY;split
 ·simp
 ·omega
theorem XU(k:Int)(t:Tx)(n:Int)(qs:List (Tx×Tx)):(cF k t n qs).length<=t.length+21+(vW qs).length:=by
 unfold cF;split
 ·show 1<=_;omega
 split
 ·have:=XT t;omega
 split
 ·have:=z1c n;omega
 grind
theorem qsw:∀(f:F),TL 1000 f.flat->(vW (bK f)).length<=1030*f.size
 |.nil,_=>zC _
 |.cons k t n ks r,h=>by
  have h1:=qsw ks fun x hx=>h x (zf _ (zN _ hx));have h2:=qsw r fun x hx=>h x (zf _ (zG _ hx));have h3:=h (k,t,n,(ks.aq:Int)) (zg ..);have h4:=XU k t n (bK ks);have h5:=qsv k ks.aq (cF k t n (bK ks));show((([32]:Tx)++gY k ks.aq (cF k t n (bK ks)))++vW (bK r)).length<=1030*(ks.size+r.size+1)
  grind
theorem qvz(k:Int)(t:Tx)(n:Int)(ks:F)(h:TL 1000 (tr k t n ks).flat):(cF k t n (bK ks)).length+3<=1030*(ks.size+1):=by have h1:=qsw ks fun x hx=>h x (by rw[yW];exact zf _ hx);have h3:t.length<=1000:=h (k,t,n,(ks.aq:Int)) (by exact zg ..);have h4:=XU k t n (bK ks);omega
theorem XV(pre:List α)(a:α)(post:List α):fL (pre++a::post) (pre.length:Int)=some a:=bJ (by rw[zM (zm _),jy];rfl)
theorem F7(a b:Tx)(h:a.length+b.length<=2000000):fit (bL (aa a) (aa b))=some ():=qK (a:=a.length) (b:=b.length) h
theorem ba.tl(h:TL N l){k:Nat}{f:F}(hs:ba l k f):TL N f.flat:=by have⟨post,e⟩:=hs;intro x hx;exact h x (jB (by rw[e];exact zN _ hx))
def zo5(self:qq)(b:Bool)(l:List ND)(N:Nat):Prop:=∀(q:Nat) (k:Int) (t:Tx) (n:Int) (ks r:F) (inner:Bool),ba l q (.cons k t n ks r)->bO k t n ks true=0->ks.size<N->
 self (⟨b,l⟩,(q:Int),inner,())=some (bif inner then gY k ks.aq (cF k t n (bK ks)) else cF k t n (bK ks),())
def XX(inner:Bool)(c:Int)(s:Tx):Tx:=bif inner&&aZ 0 c then [40]++s++[41] else s
theorem zeo{self:qq}(hl:l.length<=20000)(ht:TL 1000 l)(hp:zo5 self b l N)(inner nb:Bool)(kd:Int)(t:Tx)(n c:Int):∀(g:F) (q:Nat) (m eh:Bool) (pre:List Int) (s:Tx),ba l q g->q<=l.length->fc m true eh g=0->g.size<=N->pre.length+g.aq<=20000->s.length+1030*g.size<=1990000->aI (tH self) (⟨b,l⟩,inner,s,⟨nb,pre++g.pos q⟩,((pre.length+g.aq:Nat):Int),(pre.length:Int),kd,t,n,c,())=some (XX inner c (s++vW (bK g)),()):=by
 intro g
 induction g with
 |nil=>
  intro q m eh pre s _ _ _ _ _ hf;refine bG ?_;rw[qd7];rw[bf,zj (by show ¬(pre.length:Int)<((pre.length+0:Nat):Int);omega)];show _=some (Sum.inr (XX inner c (s++[]),()));rw[zv];unfold XX;cases inner with
  |false=>rfl
  |true=>
   cases aZ 0 c with
   |false=>rfl
   |true=>rw[aM,F7 [40] s (by show 1+s.length<=_;omega),ae,lj,F7 ([40]++s) [41] (by simp;omega),ae];rfl
 |cons k' t' n' cm r' _ ih=>
  intro q m eh pre s hs hq he hN hk hf;have hk:pre.length+(r'.aq+1)<=20000:=hk;have hN:cm.size+r'.size+1<=N:=hN;have hf:s.length+1030*(cm.size+r'.size+1)<=1990000:=hf;obtain⟨hm,hn⟩:=cK.1 he;obtain⟨g1,g2,g3,g4⟩:=hs.node;have hc:=hp q k' t' n' cm r' true hs hm om;have ho:=qvz k' t' n' cm (ba.tl ht hs.first);have hu:=qsv k' cm.aq (cF k' t' n' (bK cm));have hg:pre.length+(F.cons k' t' n' cm r').aq=(pre++[(q:Int)]).length+r'.aq:=by
   show pre.length+(r'.aq+1)=_
   grind
  have hj:pre++(F.cons k' t' n' cm r').pos q=(pre++[(q:Int)])++r'.pos (q+1+cm.size):=by
   show pre++(q:Int)::_=_
   grind
  have step:tH self (⟨b,l⟩,inner,s,⟨nb,pre++(F.cons k' t' n' cm r').pos q⟩,((pre.length+(F.cons k' t' n' cm r').aq:Nat):Int),(pre.length:Int),kd,t,n,c,())=
    some (Sum.inl (⟨b,l⟩,inner,s++([32]++gY k' cm.aq (cF k' t' n' (bK cm))),⟨nb,pre++(F.cons k' t' n' cm r').pos q⟩,((pre.length+(F.cons k' t' n' cm r').aq:Nat):Int),((pre.length+1:Nat):Int),kd,t,n,c,())):=by
   rw[qd7];simp only;rw[bf,zu (by show(pre.length:Int)<((pre.length+(r'.aq+1):Nat):Int);omega)];have ha:fL (pre++(F.cons k' t' n' cm r').pos q) (pre.length:Int)=some (q:Int):=XV pre (q:Int) _;rw[ha];simp only[ae];rw[hc];simp only[ae,zK];rw[F7 [32] _ (by show 1+_<=_;omega)];simp only[ae];rw[lj,F7 s _ (by rw[zd,zB];omega)];simp only[ae];rw[aG om,lj]
  rw[cY step,hg,hj,show pre.length+1=(pre++[(q:Int)]).length from by rw[zd];rfl];rw[ih (q+1+cm.size) m (!eh) (pre++[(q:Int)]) _ g3 om hn om (by rw[zd,zB];omega) (by rw[zd,zd,zB];omega)];rw[zk];rfl
theorem z97{b:Bool}{l:List ND}(hl:l.length<=1900)(hg:GL l)(ht:TL 1000 l):∀N:Nat,zo5 (dN vC N) b l N
 |0=>fun _ _ _ _ _ _ _ _ _ h=>absurd h (ZA _)
 |N+1=>by
  have ih:=z97 (b:=b) hl hg ht N;intro q k t n ks r inner hs he hN;obtain⟨g1,g2,g3,g4⟩:=hs.node;have hx:=hg.at g1;have hq:t.length<=1000:=ht _ (zH g1);have⟨hn,hf⟩:=bE.1 he;have⟨_,hm,hk,hj,_,_⟩:=bC.1 hn;show vC (dN vC N) (⟨b,l⟩,(q:Int),inner,())=_;rw[ab0,bJ g1,ae];rw[kI];by_cases k1:k=21
  ·subst k1;cases inner<;>rfl
  rw[zj k1,kI];by_cases k2:k=22
  ·subst k2;rw[zu rfl,qk4 (s:=t) hx.1 om];cases inner<;>rfl
  rw[zj k2,kI];by_cases k3:k=23
  ·subst k3;have hw:rz n=true:=hj;rw[zu rfl,XR hw,ae];cases inner<;>rfl
  have⟨nb,e⟩:=MB b l om hs;rw[zj k3,e,ae];simp only;have ho:aa (ks.pos (q+1))=(((([]:List Int).length+ks.aq:Nat)):Int):=by
   show(((ks.pos (q+1)).length:Nat):Int)=_;rw[F.nL]
   grind
  have hh:=zeo (N:=N) om ht ih inner nb k t n (ks.aq:Int) ks (q+1) (ah k 10) false [] t g2 om hf om (by show 0+ks.aq<=_;have:=ks.eJ;omega) om;rw[ho];refine jU hh ?_;have hT:cF k t n (bK ks)=t++vW (bK ks):=by unfold cF;rw[zj k1,zj k2,zj k3]
  unfold XX gY;rw[hT];cases inner with
  |false=>rfl
  |true=>
   by_cases hc:ks.aq=0
   ·have e1:aZ 0 (ks.aq:Int)=false:=zt om
    grind
   ·have e1:aZ 0 (ks.aq:Int)=true:=zw om
    grind
theorem z98(hl:l.length<=1900)(hg:GL l)(ht:TL 1000 l){ks r:F}(inner:Bool)(hs:ba l q (.cons k t n ks r))(he:bO k t n ks true=0):Fh (⟨b,l⟩,(q:Int),inner,())=some (bif inner then gY k ks.aq (cF k t n (bK ks)) else cF k t n (bK ks),()):=IV (ks.size+1) fun N hN=>z97 hl hg ht N q k t n ks r inner hs he hN
theorem Tw{k:Nat}(h:k<=1000000000):bc .i64 (k:Int) 2=((k+2:Nat):Int):=by unfold bc;rw[qe8];split<;>omega
theorem F8{m eh:Bool}{a:Int}{b:Tx}{d r:F}(h:fc m false eh (.cons a b c d r)=0)(hm:(m&&eh)=false):bO a b c d false=0/\fc m false (!eh) r=0:=by
 have⟨h1,h2⟩:=cK.1 h
 grind
theorem MQ{ks:F}(h:bO 6 t n ks false=0):∃a b c d a' b' c' d',ks=.cons a b c d (.cons a' b' c' d' .nil)/\bO a b c d false=0/\bO a' b' c' d' false=0:=by
 have⟨hn,hf⟩:=bE.1 h;have⟨_,_,hk,_,_,_⟩:=bC.1 hn;have⟨_,c2,_⟩:=AU hk;obtain⟨a,b,c,d,r,rfl,hr⟩:=gO (ks:=ks) (n:=1) om;obtain⟨a',b',c',d',r',rfl,hc⟩:=gO (n:=0) hr;obtain rfl:=A6 hc;have⟨e1,hf⟩:=F8 hf rfl;have⟨e2,_⟩:=F8 hf rfl
 grind
def lO(fx:List af)(k:Int)(ks:F):af:=(rowOf fx k ks).getD ([],0,0)
theorem zha(fx:List af)(h:k≠6)(ks:F):rowOf fx k ks=none:=by
 unfold rowOf
 grind
theorem XY(fx:List af){a:Int}(h:a≠6)(b:Tx)(c:Int)(d r:F):rowOf fx 6 (.cons a b c d r)=none:=by
 unfold rowOf
 grind
section
variable {b bx:Bool} {l:List ND} {fx:List af}
theorem qyc(hl:l.length<=1900)(hx:fx.length<=1000000){ks r:F}(hs:ba l q (.cons k t n ks r))(hv:bO k t n ks false=0):vD ((⟨b,l⟩,⟨bx,fx⟩),(q:Int),())=some (lO fx k ks,(rowOf fx k ks).isSome,()):=by
 have⟨g1,g2,g3,g4⟩:=hs.node;rw[ab1,bJ g1,ae];by_cases h6:k=6
 ·subst h6;obtain⟨a,s,c,d,a',s',c',d',rfl,e1,e2⟩:=MQ hv;have⟨p1,p2,p3,p4⟩:=g2.node;rw[show ai (ah 6 6)=false from rfl,aJ,aG om,bJ p1];simp[ae];by_cases ha:a=6
  ·subst ha;obtain⟨a1,s1,c1,d1,a2,s2,c2,d2,rfl,e3,e4⟩:=MQ e1;have⟨m1,m2,m3,m4⟩:=p2.node;rw[show ai (ah 6 6)=false from rfl,aJ,Tw om];rw[bJ m1];simp[ae];by_cases h3:a1=3
   ·subst h3;rw[Xc bx fx s1 hx];have hc:rowOf fx 6 (.cons 6 s c (.cons 3 s1 c1 d1 (.cons a2 s2 c2 d2 .nil)) (.cons a' s' c' d' .nil))=lZ fx s1:=by rfl
    unfold lO;rw[hc];cases lZ fx s1 with
    |none=>rfl
    |some f=>rfl
   ·have hc:rowOf fx 6 (.cons 6 s c (.cons a1 s1 c1 d1 (.cons a2 s2 c2 d2 .nil)) (.cons a' s' c' d' .nil))=none:=by
     show(if(6:Int)=6/\(6:Int)=6/\a1=3 then lZ fx s1 else none)=_
     grind
    rw[cZ h3,show ai false=true from rfl,aM];unfold lO;rw[hc];rfl
  ·rw[cZ ha,show ai false=true from rfl,aM,ae];unfold lO;rw[XY fx ha];rfl
 ·rw[cZ h6,show ai false=true from rfl,aM,ae,aM,ae,aM];unfold lO;rw[zha fx h6];rfl
theorem z99(h5:k≠5)(h7:k≠7)(h8:k≠8)(h9:k≠9)(hc:k≠11)(he:k≠12):mT k=false:=by
 unfold mT
 grind
theorem z9a(k:Int)(A B:Option α):aw (aL (ah k 5) (some (ah k 5,())) (aw (aL (ah k 7) (some (ah k 7,())) (aw (aL (ah k 8) (some (ah k 8,())) (aw (aL (ah k 9) (some (ah k 9,())) (aw (aL (ah k 11) (some (ah k 11,())) (some (ah k 12,()))) (fun x2=>some (x2.1,())))) (fun x3=>some (x3.1,())))) (fun x4=>some (x4.1,())))) (fun x5=>some (x5.1,())))) (fun x6=>aL x6.1 A B)=aL (mT k) A B:=by
 by_cases h5:k=5
 ·subst h5;rfl
 by_cases h7:k=7
 ·subst h7;rfl
 by_cases h8:k=8
 ·subst h8;rfl
 by_cases h9:k=9
 ·subst h9;rfl
 by_cases hc:k=11
 ·subst hc;rfl
 by_cases he:k=12
 ·subst he;rfl
 rw[cZ h5,cZ h7,cZ h8,cZ h9,cZ hc,cZ he,z99 h5 h7 h8 h9 hc he];rfl
theorem OY(hl:l.length<=1900)(hx:fx.length<=1000000){ks r:F}(hs:ba l q (.cons k t n ks r))(hv:bO k t n ks false=0):qA ((⟨b,l⟩,⟨bx,fx⟩),(q:Int),())=some (dX fx k ks,()):=by
 have⟨g1,g2,g3,g4⟩:=hs.node;rw[ab2,bJ g1,ae];rw[kI];unfold dX;by_cases h6:k=6
 ·rw[zu h6,zu h6,qyc hl hx hs hv,ae];cases rowOf fx k ks<;>rfl
 ·rw[zj h6,zj h6,z9a];cases mT k<;>rfl
def A8(self:lV)(b bx:Bool)(l:List ND)(fx:List af)(N:Nat):Prop:=∀(q:Nat) (k:Int) (t:Tx) (n:Int) (ks r:F),ba l q (.cons k t n ks r)->bO k t n ks false=0->ks.size<N->
 self ((q:Int),⟨b,l⟩,⟨bx,fx⟩,())=some (⟨false,(dT fx k t n ks).p.doc.flat⟩,⟨b,l⟩,⟨bx,fx⟩,())
theorem ba.small{ks r:F}(hl:l.length<=1900)(hs:ba l q (.cons k t n ks r)):ks.size+1<=1900:=by have⟨g1,g2,g3,g4⟩:=hs.node;omega
theorem Ah(hl:l.length<=1900){ks r:F}(hs:ba l q (.cons k t n ks r))(hv:bO k t n ks false=0):(dT fx k t n ks).p.doc.size<=12000:=by have:=z1a fx hv;have:=hs.small hl;omega
theorem zep(fx:List af)(k:Int)(t:Tx)(n:Int)(ks:F)(ds:List Dc):(fe fx k t n ks ds).aq=1:=by
 unfold fe;split
 ·rfl
 split
 ·rfl
 split
 ·rfl
 split
 ·unfold MN
  repeat (first|(split;rfl)|rfl)
 split
 ·unfold zh9;split<;>rfl
 split
 ·split<;>rfl
 ·rfl
theorem rH(fx:List af)(k:Int)(t:Tx)(n:Int)(ks:F):(dT fx k t n ks).p.doc.aq=1:=zep fx k t n ks _
theorem XZ(hl:l.length<=1900)(hp:A8 self b bx l fx N){ks r:F}(br:Bool)(hs:ba l q (.cons k t n ks r))(hv:bO k t n ks false=0)(hN:ks.size<N):Cm self ((q:Int),br,⟨b,l⟩,⟨bx,fx⟩,())=some (⟨false,(pA br (dT fx k t n ks).p.doc).flat⟩,⟨b,l⟩,⟨bx,fx⟩,()):=by
 have e:=hp q k t n ks r hs hv hN;have hz:=Ah (fx:=fx) hl hs hv;rw[qjh,e,ae];cases br with
 |false=>rfl
 |true=>rw[aM,pV];rw[pV];simp[ae];rw[qst false (.cons (d:=ch [40]) rfl rfl (.cons rfl (rH fx k t n ks) (.one (d:=ch [41]) rfl rfl))) (by rw[gj,gj,gj,kT,mF,mF];omega)];rfl
theorem qw0(hl:l.length<=1900)(hx:fx.length<=1000000)(hp:A8 self b bx l fx N){ks r:F}(op:Tx)(lv sd s:Int)(hs:ba l q (.cons k t n ks r))(hv:bO k t n ks false=0)(hN:ks.size<N):Hl self ((q:Int),(op,lv,sd),s,⟨b,l⟩,⟨bx,fx⟩,())=some (⟨false,(uR (dT fx k t n ks).p lv sd s).flat⟩,⟨b,l⟩,⟨bx,fx⟩,()):=by
 have he:(dT fx k t n ks).p.lk=dX fx k ks:=rfl;have hf:(dT fx k t n ks).p.lv=(lO fx k ks).2.1:=rfl;have hg:(dT fx k t n ks).p.sd=(lO fx k ks).2.2:=rfl;rw[qji,OY hl hx hs hv,ae];rw[kI];by_cases h3:dX fx k ks=3
 ·rw[zu h3];have e:=XZ hl hp true hs hv hN;rw[e];simp[ae];unfold uR
  grind
 ·rw[zj h3,ab3,qyc hl hx hs hv];simp[ae];have hc:aL (rowOf fx k ks).isSome (aL (aZ (lO fx k ks).2.1 lv) (some true) (aL (ah (lO fx k ks).2.1 lv) (aL (ai (ah (lO fx k ks).2.2 s)) (some true) (some (ai (ah sd s)))) (some false))) (some false)=some (D7 (dT fx k t n ks).p lv sd s):=by
   unfold D7;rw[he,hf,hg];cases hr:rowOf fx k ks with
   |none=>
    have:dX fx k ks≠2:=by
     unfold dX
     grind
    rw[zt this];rfl
   |some f=>
    have:dX fx k ks=2:=by
     unfold dX;rw[hr];by_cases h6:k=6
     ·rw[zu h6]
     ·rw[zha fx h6] at hr;cases hr
    rw[zw this];show aL true _ _=_;rw[aM,jV,bf];generalize (lO fx k ks).2.1=p1;generalize (lO fx k ks).2.2=p2;by_cases c1:p1<lv
    ·grind
    ·rw[zj c1,zt c1,kI];by_cases c2:p1=lv
     ·rw[zu c2,zw c2];by_cases c3:p2=s
      ·subst c3;rw[show ah p2 p2=true from cQ.2 rfl,show ai true=false from rfl,aJ,zt (fun h=>h rfl)];by_cases c4:sd=p2
       ·subst c4;rw[show ah sd sd=true from cQ.2 rfl,zt (fun h=>h rfl)];rfl
       ·rw[cZ c4,zw c4];rfl
      ·rw[cZ c3,show ai false=true from rfl,aM,zw c3];rfl
     grind
  rw[hc];simp[ae];have e:=XZ hl hp (D7 (dT fx k t n ks).p lv sd s) hs hv hN;rw[e];simp[ae];unfold uR
  grind
end
section
variable {b bx:Bool} {l:List ND} {fx:List af} {self:lV} {N:Nat}
theorem O0{ks:F}{i:Int}{cm r':F}{at_:Nat}(_:l.length<=1900)(hp:A8 self b bx l fx N)(hk:∃nb,lE (⟨b,l⟩,(q:Int),())=some (⟨nb,ks.pos (q+1)⟩,()))(hi:fL (ks.pos (q+1)) i=some (at_:Int))(hs:ba l at_ (.cons k t n cm r'))(hv:bO k t n cm false=0)(hN:cm.size<N):Hk self (i,(q:Int),⟨b,l⟩,⟨bx,fx⟩,())=some (⟨false,(dT fx k t n cm).p.doc.flat⟩,(q:Int),⟨b,l⟩,⟨bx,fx⟩,()):=by have⟨nb,e⟩:=hk;have e2:=hp at_ k t n cm r' hs hv hN;rw[qht,e,ae];rw[hi];simp[ae];rw[e2];simp[ae]
theorem X0{s:Tx}{p q:Tx}(hs:∀b,b∈s->0<=b/\b<=255)(hl:s.length<=1000)(hp:p.length<=100)(hq:q.length<=100){β:Type}(K:(Sl Y0)×Unit->Option β):aw (sD (s,())) (fun x=>aw (fit (bL (aa p) (aa x.1))) (fun _=>aw (fit (bL (aa (fw p x.1)) (aa q))) (fun _=>aw (nq (fw (fw p x.1) q,())) K)))=K (⟨false,(ch (p++iG s++q)).flat⟩,()):=by have hn:=XT s;rw[qk4 hs om,ae];rw[F7 p (iG s) om,ae,lj,F7 (p++iG s) q (by rw[zd];omega),ae,lj,pV,ae]
theorem HU{d:F}(h:d.size<=12000):(cf d).size<=12003:=je (MP d) om
theorem zeq(hl:l.length<=1900)(hg:GL l)(ht:TL 1000 l)(hp:A8 self b bx l fx N){ks r:F}(hs:ba l q (.cons k t n ks r))(hv:bO k t n ks false=0)(hN:ks.size<=N)(ho:mT k=true):qB self ((q:Int),⟨b,l⟩,⟨bx,fx⟩,())=some (⟨false,(dT fx k t n ks).p.doc.flat⟩,⟨b,l⟩,⟨bx,fx⟩,()):=by
 obtain⟨g1,g2,g3,g4⟩:=hs.node;have hx:=(hg.at g1).1;have he:t.length<=1000:=ht _ (zH g1);obtain⟨hn,hf⟩:=bE.1 hv;obtain⟨_,_,hk,_,_,_⟩:=bC.1 hn;obtain⟨c1,c2,c3,_,_⟩:=AU hk;have hc:=MB b l om hs;have hj:(dT fx k t n ks).p.doc=MN k t (cJ (dF fx ks) 0).p.doc (cJ (dF fx ks) 1).p.doc (cJ (dF fx ks) 2).p.doc:=XN fx t n ks _ ho;have rA:ah k 10=false:=by rcases A7 ho with h|h|h|h|h|h<;>subst h<;>rfl
 rw[rA] at hf;rw[FH,bJ g1,ae];simp only;rw[hj];by_cases hA:k=5\/k=11
 ·obtain⟨a,s,c,d,rfl⟩:=XK (c1 hA);obtain⟨v1,_⟩:=F8 hf rfl;have hq:d.size+0+1<=N:=hN;have k1:=O0 (i:=0) hl hp hc rfl g2 v1 om;have s1:=Ah (fx:=fx) hl g2 v1;have u1:=HU s1;have n0:(cJ (dF fx (.cons a s c d .nil)) 0).p.doc=(dT fx a s c d).p.doc:=rfl;rw[n0];rcases hA with rfl|rfl
  ·rw[dQ 5 1,dQ 5 2,dQ 5 3,uQ 5 5,X0 hx he dc dc,k1];simp only[ae];rw[C0 _ (d:=(dT fx a s c d).p.doc) rfl (rH fx a s c d) om];simp only[ae];rw[F5 false (.cons (d:=ch _) rfl rfl (.one (d:=cf _) rfl rfl)) (by simp only[gj,kT,mF];omega)];rfl
  ·rw[dQ 11 1,dQ 11 2,dQ 11 3,dQ 11 5,dQ 11 7,
    dQ 11 8,dQ 11 9,uQ 11 11,pV]
   simp only[ae];rw[k1];simp only[ae];rw[C0 _ (d:=(dT fx a s c d).p.doc) rfl (rH fx a s c d) om];simp[ae];rw[F5 false (.cons (d:=ch _) rfl rfl (.one (d:=cf _) rfl rfl)) (by simp only[gj,kT,mF];omega)];rfl
 by_cases h9:k=9
 ·subst h9;obtain⟨a,s,c,d,r1,rfl,hr⟩:=gO (ks:=ks) (n:=2) (by have:=c3 rfl;omega);obtain⟨a',s',c',d',r2,rfl,hm⟩:=gO (n:=1) hr;obtain⟨a2,s2,lh,d2,r3,rfl,hu⟩:=gO (n:=0) hm;obtain rfl:=A6 hu;obtain⟨v1,hf⟩:=F8 hf rfl;obtain⟨v2,hf⟩:=F8 hf rfl;obtain⟨v3,hf⟩:=F8 hf rfl;have hq:d.size+(d'.size+(d2.size+0+1)+1)+1<=N:=hN;obtain⟨_,_,p2,_⟩:=g2.node;obtain⟨_,_,p3,_⟩:=p2.node;have k1:=O0 (i:=0) hl hp hc rfl g2 v1 om;have k2:=O0 (i:=1) hl hp hc rfl p2 v2 om;have k3:=O0 (i:=2) hl hp hc rfl p3 v3 om;have s1:=Ah (fx:=fx) hl g2 v1;have s2':=Ah (fx:=fx) hl p2 v2;have s3:=Ah (fx:=fx) hl p3 v3;have u1:=HU s1;have u2:=HU s2';have u3:=HU s3;rw[dQ 9 1,dQ 9 2,dQ 9 3,dQ 9 5,dQ 9 7,
    dQ 9 8,uQ 9 9,pV]
  simp[ae];rw[k1];simp only[ae];rw[C0 _ (d:=(dT fx a s c d).p.doc) rfl (rH fx a s c d) om];simp only[ae];rw[CZ];simp only[ae];rw[pV];simp only[ae];rw[k2];simp only[ae];rw[C0 _ (d:=(dT fx a' s' c' d').p.doc) rfl (rH fx a' s' c' d') om];simp only[ae];rw[pV];simp only[ae];rw[k3];simp only[ae];rw[C0 _ (d:=(dT fx a2 s2 lh d2).p.doc) rfl (rH fx a2 s2 lh d2) om];simp only[ae];rw[F5 false (.cons (d:=ch _) rfl rfl (.cons (d:=cf _) rfl rfl (.cons (d:=cI) rfl rfl (.cons (d:=ch _) rfl rfl (.cons (d:=cf _) rfl rfl (.cons (d:=cI) rfl rfl (.cons (d:=ch _) rfl rfl (.one (d:=cf _) rfl rfl)))))))) (by simp only[gj,kT,mF,rG];omega)];rfl
 have h2:k=6\/k=7\/k=8\/k=12:=by
  rcases A7 ho with h|h|h|h|h|h
  all_goals omega
 obtain⟨a,s,c,d,r1,rfl,hr⟩:=gO (ks:=ks) (n:=1) (by have:=c2 h2;omega);obtain⟨a',s',c',d',r2,rfl,hm⟩:=gO (n:=0) hr;obtain rfl:=A6 hm;obtain⟨v1,hf⟩:=F8 hf rfl;obtain⟨v2,hf⟩:=F8 hf rfl;have hq:d.size+(d'.size+0+1)+1<=N:=hN;obtain⟨_,_,p2,_⟩:=g2.node;have k1:=O0 (i:=0) hl hp hc rfl g2 v1 om;have k2:=O0 (i:=1) hl hp hc rfl p2 v2 om;have s1:=Ah (fx:=fx) hl g2 v1;have s2':=Ah (fx:=fx) hl p2 v2;have u1:=HU s1;have u2:=HU s2';have n0:(cJ (dF fx (.cons a s c d (.cons a' s' c' d' .nil))) 0).p.doc=(dT fx a s c d).p.doc:=rfl;have n1:(cJ (dF fx (.cons a s c d (.cons a' s' c' d' .nil))) 1).p.doc=(dT fx a' s' c' d').p.doc:=rfl;rw[n0,n1];rcases A7 ho with h|h|h|h|h|h
 ·omega
 ·subst h;rw[dQ 7 1,dQ 7 2,dQ 7 3,dQ 7 5,uQ 7 7,X0 hx he dc dc,k1];simp only[ae];rw[C0 _ (d:=(dT fx a s c d).p.doc) rfl (rH fx a s c d) om];rw[CZ];rw[pV];rw[k2];simp only[ae];rw[F5 false (.cons (d:=ch _) rfl rfl (.cons (d:=cf _) rfl rfl (.cons (d:=cI) rfl rfl (.cons (d:=ch _) rfl rfl (.cons (d:=cI) rfl rfl (.one (d:=(dT fx a' s' c' d').p.doc) rfl (rH fx a' s' c' d'))))))) (by simp[gj,kT,mF,rG];omega)];rfl
 ·subst h;rw[dQ 8 1,dQ 8 2,dQ 8 3,dQ 8 5,dQ 8 7,uQ 8 8,X0 hx he dc dc,k1];simp[ae];rw[C0 _ (d:=(dT fx a s c d).p.doc) rfl (rH fx a s c d) om];rw[CZ];rw[pV];rw[k2];simp only[ae];rw[F5 false (.cons (d:=ch _) rfl rfl (.cons (d:=cf _) rfl rfl (.cons (d:=cI) rfl rfl (.cons (d:=ch _) rfl rfl (.cons (d:=cI) rfl rfl (.one (d:=(dT fx a' s' c' d').p.doc) rfl (rH fx a' s' c' d'))))))) (by simp only[gj,kT,mF,rG];omega)];rfl
 ·exact absurd h h9
 ·omega
 ·subst h;rw[dQ 12 1,dQ 12 2,dQ 12 3,dQ 12 5,dQ 12 7,
   dQ 12 8,dQ 12 9,dQ 12 11,uQ 12 12,pV]
  rw[k1];simp only[ae];rw[C0 _ (d:=(dT fx a s c d).p.doc) rfl (rH fx a s c d) om];rw[CZ];simp only[ae];rw[X0 hx he dc dc,k2];simp only[ae];rw[C0 _ (d:=(dT fx a' s' c' d').p.doc) rfl (rH fx a' s' c' d') om];simp only[ae];rw[F5 false (.cons (d:=ch _) rfl rfl (.cons (d:=cf _) rfl rfl (.cons (d:=cI) rfl rfl (.cons (d:=ch _) rfl rfl (.one (d:=cf _) rfl rfl))))) (by simp only[gj,kT,mF,rG];omega)];rfl
theorem zer(hl:l.length<=1900)(ht:TL 1000 l)(hx:fx.length<=1000000)(hj:∀f,f∈fx->f.1.length<=1000)(hp:A8 self b bx l fx N){ks r:F}(hs:ba l q (.cons 6 t n ks r))(hv:bO 6 t n ks false=0)(hN:ks.size<=N)(hr:rowOf fx 6 ks=some f):Hm self ((q:Int),⟨b,l⟩,⟨bx,fx⟩,())=some (⟨false,(dT fx 6 t n ks).p.doc.flat⟩,⟨b,l⟩,⟨bx,fx⟩,()):=by
 have _:=ht;obtain⟨g1,g2,g3,g4⟩:=hs.node;have hg:=qyc (b:=b) (bx:=bx) hl hx hs hv;have hG:lO fx 6 ks=f:=by unfold lO;rw[hr];rfl
 rw[hG,hr] at hg;obtain⟨nb,hc⟩:=MB b l om hs;have he:(dT fx 6 t n ks).p.doc=F3 f (cJ (dF fx ks) 0).b (cJ (dF fx ks) 1).p:=by show fe fx 6 t n ks _=_;unfold fe;rw[zj dc,zj dc,zj dc,zj dc,zj dc,zu rfl,hr]
 rw[he];obtain⟨a,s,c,d,a',s',c',d',rfl,v1,v2⟩:=MQ hv;have ha:a=6:=zF fun h=>by rw[XY fx h] at hr;cases hr
 subst ha;obtain⟨a1,s1,c1,d1,a2,s2,c2,d2,rfl,w1,w2⟩:=MQ v1;have hn:d1.size+(d2.size+0+1)+1+(d'.size+0+1)+1<=N:=hN;obtain⟨_,m2,p2,_⟩:=g2.node;obtain⟨_,_,n2,_⟩:=m2.node;obtain⟨nb2,hk⟩:=MB b l om g2;have ho:f.1.length<=1000:=by
  have h3:a1=3:=zF fun h=>by
   have:rowOf fx 6 (.cons 6 s c (.cons a1 s1 c1 d1 (.cons a2 s2 c2 d2 .nil)) (.cons a' s' c' d' .nil))=none:=zj (fun e=>h e.2.2)
   grind
  have:rowOf fx 6 (.cons 6 s c (.cons a1 s1 c1 d1 (.cons a2 s2 c2 d2 .nil)) (.cons a' s' c' d' .nil))=lZ fx s1:=zu ⟨rfl,rfl,h3⟩;rw[this] at hr;exact hj f (Hu hr).1
 have sl:=Ah (fx:=fx) hl n2 w2;have sr:=Ah (fx:=fx) hl p2 v2;have zl:=XL (dT fx a2 s2 c2 d2).p f.2.1 f.2.2 (-1);have zr:=XL (dT fx a' s' c' d').p f.2.1 f.2.2 1;have k1:=qw0 (b:=b) (bx:=bx) hl hx hp f.1 f.2.1 f.2.2 (-1) n2 w2 om;have k2:=qw0 (b:=b) (bx:=bx) hl hx hp f.1 f.2.1 f.2.2 1 p2 v2 om;rw[qjj,hg];simp only[ae];rw[hc];simp only[ae];have MR:fL ((F.cons 6 s c (.cons a1 s1 c1 d1 (.cons a2 s2 c2 d2 .nil)) (.cons a' s' c' d' .nil)).pos (q+1)) 0=some ((q+1:Nat):Int):=rfl;have AK:fL ((F.cons 6 s c (.cons a1 s1 c1 d1 (.cons a2 s2 c2 d2 .nil)) (.cons a' s' c' d' .nil)).pos (q+1)) 1=some ((q+1+1+(F.cons a1 s1 c1 d1 (.cons a2 s2 c2 d2 .nil)).size:Nat):Int):=rfl;have at2:fL ((F.cons a1 s1 c1 d1 (.cons a2 s2 c2 d2 .nil)).pos (q+1+1)) 1=some ((q+1+1+1+d1.size:Nat):Int):=rfl;rw[MR];simp only[ae];rw[hk];simp only[ae];rw[at2];simp only[ae];rw[k1];simp only[ae];rw[CZ];simp only[ae];rw[F7 f.1 [32] (by show f.1.length+1<=_;omega)];simp[ae];rw[pV];rw[AK];simp only[ae];rw[k2];simp only[ae];have hf:=XQ false (.cons (y:=⟨false,cI.flat⟩) (d:=cI) rfl rfl (.cons (y:=⟨false,(ch (f.1++[32])).flat⟩) (d:=ch (f.1++[32])) rfl rfl (.one (y:=⟨false,(uR (dT fx a' s' c' d').p f.2.1 f.2.2 1).flat⟩) (d:=uR (dT fx a' s' c' d').p f.2.1 f.2.2 1) rfl (XP _ (rH fx a' s' c' d'))))) (by simp only[gj,kT,mF,rG];omega);have hm:=OX [cI,ch (f.1++[32]),uR (dT fx a' s' c' d').p f.2.1 f.2.2 1];simp only[gj,kT,mF,rG] at hm;rw[show fw f.1 [32]=f.1++[32] from lj _ _,hf];simp only[ae];rw[F5 false (.cons (d:=uR (dT fx a2 s2 c2 d2).p f.2.1 f.2.2 (-1)) rfl (XP _ (rH fx a2 s2 c2 d2)) (.one (d:=nC _) rfl rfl)) (by simp only[gj,kT];omega)];simp only[ae];rfl
end
def mG(ps:List Pt):List F:=ps.reverse.flatMap fun p=>[cI,fV p]
theorem qo7(ps:List Pt)(p:Pt):mG (ps++[p])=[cI,fV p]++mG ps:=by
 unfold mG
 grind
def xv(fx:List af)(l:List ND)(N:Nat)(a:Int)(p:Pt):Prop:=∃(q:Nat) (k:Int) (t:Tx) (n:Int) (ks r:F),a=(q:Int)/\ba l q (.cons k t n ks r)/\bO k t n ks false=0/\ks.size<N/\p=(dT fx k t n ks).p
theorem xv.aq{a:Int}{p:Pt}(h:xv fx l N a p):p.doc.aq=1:=by obtain⟨q,k,t,n,ks,r,_,_,_,_,rfl⟩:=h;exact rH fx k t n ks
section
variable {b bx:Bool} {l:List ND} {fx:List af} {self:lV} {N:Nat}
theorem zo6(hl:l.length<=1900)(hx:fx.length<=1000000)(hp:A8 self b bx l fx N){ks r:F}(hs:ba l q (.cons k t n ks r))(hv:bO k t n ks false=0)(hN:ks.size<N)(na:Bool)(A:List Int)(ps:List Pt)(hy:A.length=ps.length)(hD:A.length<=20000)(ha:∀(i:Nat) a p,A[i]?=some a->ps[i]?=some p->xv fx l N a p):∀(m:Nat) (nr:Bool) (R:List (Sl Y0)) (es:List F),m<=A.length->Ds R es->(bH (es++mG (ps.take m))).size<=20000->aI (SA self) ((q:Int),dX fx k ks,((m:Nat):Int)-1,⟨b,l⟩,⟨bx,fx⟩,⟨na,A⟩,⟨nr,R⟩,())=some (Sum.inr (⟨false,(gi [xq (dT fx k t n ks).p,nC (es++mG (ps.take m))]).flat⟩,⟨b,l⟩,⟨bx,fx⟩,())):=by
 intro m
 induction m with
 |zero=>
  intro nr R es _ hR hf;have hz:mG (ps.take 0)=[]:=rfl;rw[hz,zv] at hf ⊢;have e:=XZ hl hp (decide (dX fx k ks=2)||decide (dX fx k ks=3)) hs hv hN;have e:Cm self ((q:Int),(decide (dX fx k ks=2)||decide (dX fx k ks=3)),⟨b,l⟩,⟨bx,fx⟩,())=some (⟨false,(xq (dT fx k t n ks).p).flat⟩,⟨b,l⟩,⟨bx,fx⟩,()):=e;have hj:aL (ah (dX fx k ks) 2) (some true) (some (ah (dX fx k ks) 3))=some (decide (dX fx k ks=2)||decide (dX fx k ks=3)):=by
   rw[kI];by_cases c:dX fx k ks=2
   ·grind
   ·rw[zj c,zt c];rfl
  have hd:=Ah (fx:=fx) hl hs hv;have hh:=qqq (dT fx k t n ks).p;have hn:=OX es;refine bG ?_;rw[q9o];simp only;rw[IX,zj om,hj,ae];rw[e];rw[XQ nr hR om];simp[ae];have hc:(xq (dT fx k t n ks).p).aq=1:=XP _ (rH fx k t n ks);rw[F5 false (.cons (y:=⟨false,(xq (dT fx k t n ks).p).flat⟩) (d:=xq (dT fx k t n ks).p) rfl hc (.one (d:=nC es) rfl rfl)) (by simp[gj,kT];omega)];simp[ae]
 |succ m ih=>
  intro nr R es hm hR hf;have ho:m<A.length:=om
  have hq:m<ps.length:=om
  have hA:A[m]?=some A[m]:=zh ho;have hP:ps[m]?=some ps[m]:=zh hq;have hg:=ha m _ _ hA hP;have he:=(List.take_append_getElem hq).symm;have hk:=hg.aq;have⟨q',k',t',n',cm,r',e1,ht,hu,hB,e2⟩:=hg;have e:=XZ hl hp (decide ((dT fx k' t' n' cm).p.lk≠0)) ht hu hB;rw[he,qo7,<-zk] at hf;have hC:Ds (R++[(⟨false,cI.flat⟩:(Sl Y0)),⟨false,(fV ps[m]).flat⟩]) (es++[cI,fV ps[m]]):=hR.app (.cons rfl rfl (.one rfl (XP _ hk)));have hw:(R.length:Nat)<=20000:=by have:=Tv hR.2;have:=hR.len;have hh:=F4 es ([cI,fV ps[m]]++mG (ps.take m));rw[zk] at hf;omega
  have e':=ih (aH nr (cB ([(⟨false,cI.flat⟩:(Sl Y0)),⟨false,(fV ps[m]).flat⟩]:List (Sl Y0)))) (R++[⟨false,cI.flat⟩,⟨false,(fV ps[m]).flat⟩]) (es++[cI,fV ps[m]]) om hC hf;have step:SA self ((q:Int),dX fx k ks,((m+1:Nat):Int)-1,⟨b,l⟩,⟨bx,fx⟩,⟨na,A⟩,⟨nr,R⟩,())=
    some (Sum.inl ((q:Int),dX fx k ks,((m:Nat):Int)-1,⟨b,l⟩,⟨bx,fx⟩,⟨na,A⟩,⟨aH nr (cB ([(⟨false,cI.flat⟩:(Sl Y0)),⟨false,(fV ps[m]).flat⟩]:List (Sl Y0))),R++[⟨false,cI.flat⟩,⟨false,(fV ps[m]).flat⟩]⟩,())):=by
   have hi:((m+1:Nat):Int)-1=(m:Int):=om
   rw[q9o];simp only;rw[hi,IX,zu om,CZ];simp[ae];rw[oL ho];simp[ae];rw[w8 hA];simp[ae];rw[e1,OY hl hx ht hu];simp only[ae];have hj:ai (ah (dX fx k' cm) 0)=decide ((dT fx k' t' n' cm).p.lk≠0):=by
    show ai (ah (dX fx k' cm) 0)=decide (dX fx k' cm≠0);by_cases c:dX fx k' cm=0
    ·rw[c];rfl
    ·rw[cZ c,zw c];rfl
   rw[hj,e];simp only[ae];rw[show aa R=((R.length:Nat):Int) from rfl,show aa ([(⟨false,cI.flat⟩:(Sl Y0)),⟨false,(pA (decide ((dT fx k' t' n' cm).p.lk≠0)) (dT fx k' t' n' cm).p.doc).flat⟩]:List (Sl Y0))=((2:Nat):Int) from rfl,qK om];simp only[ae];rw[show dx .i64 (m:Int) 1=(m:Int)-1 from oY om om,e2];rfl
  rw[cY step,e',he,qo7,zk]
theorem zhb{a:Int}{s:Tx}{d d':F}(h:dX fx 6 (.cons a s c d (.cons a' s' c' d' .nil))=1):(dT fx 6 t n (.cons a s c d (.cons a' s' c' d' .nil))).hd=(dT fx a s c d).hd/\(dT fx 6 t n (.cons a s c d (.cons a' s' c' d' .nil))).args=(dT fx a s c d).args++[cI,fV (dT fx a' s' c' d').p]:=⟨zu h,zu h⟩
theorem zhc{ks:F}(h:dX fx k ks≠1):(dT fx k t n ks).hd=(dT fx k t n ks).p/\(dT fx k t n ks).args=[]:=⟨zj h,zj h⟩
theorem zhd{ks:F}(h:dX fx k ks=1):k=6:=by refine zF fun h6=>?_;unfold dX at h;omega
theorem zq8(hl:l.length<=1900)(hx:fx.length<=1000000)(hp:A8 self b bx l fx N):∀(M:Nat) (q:Nat) (k:Int) (t:Tx) (n:Int) (ks r:F) (nb:Bool) (A:List Int) (ps:List Pt),ks.size<=M->ba l q (.cons k t n ks r)->bO k t n ks false=0->(dX fx k ks≠1->ks.size<N)->ks.size<=N->A.length=ps.length->A.length+ks.size<=1900->(∀(i:Nat) a p,A[i]?=some a->ps[i]?=some p->xv fx l N a p)->(bH ((dT fx k t n ks).args++mG ps)).size<=20000->aI (SB self) ((q:Int),⟨b,l⟩,⟨bx,fx⟩,⟨nb,A⟩,())=some (⟨false,(gi [xq (dT fx k t n ks).hd,nC ((dT fx k t n ks).args++mG ps)]).flat⟩,⟨b,l⟩,⟨bx,fx⟩,()):=by
 intro M
 induction M with
 |zero=>
  intro q k t n ks r nb A ps hM hs hv hj hm hc hn ha he;have hk:dX fx k ks≠1:=by intro h;have h6:=zhd h;subst h6;obtain⟨a,s,c,d,a',s',c',d',rfl,_⟩:=MQ hv;have hM:d.size+(d'.size+0+1)+1<=0:=hM;omega
  have⟨e1,e2⟩:=zhc (t:=t) (n:=n) hk;rw[e2] at he;have e:=zo6 hl hx hp hs hv (hj hk) nb A ps hc om ha A.length true [] [] (zm _) .nil (by rw[hc,jD];exact he);rw[hc,jD] at e;refine bG ?_;rw[q5o];rw[OY hl hx hs hv,ae,kI,zj hk,ae];rw[show dx .i64 (aa A) 1=((ps.length:Nat):Int)-1 from by rw[show aa A=((A.length:Nat):Int) from rfl,hc];exact oY om om,e,e1,e2]
 |succ M ih=>
  intro q k t n ks r nb A ps hM hs hv hj hm hc hn ha he;by_cases hk:dX fx k ks=1
  ·have h6:=zhd hk;subst h6;have⟨g1,g2,g3,g4⟩:=hs.node;have⟨nb2,hf⟩:=MB b l om hs;have hg:=OY (b:=b) (bx:=bx) hl hx hs hv;obtain⟨a,s,c,d,a',s',c',d',rfl,v1,v2⟩:=MQ hv;obtain⟨e1,e2⟩:=zhb (t:=t) (n:=n) hk;have hM:d.size+(d'.size+0+1)+1<=M+1:=hM;have hm:d.size+(d'.size+0+1)+1<=N:=hm;have hn:A.length+(d.size+(d'.size+0+1)+1)<=1900:=hn;have⟨_,_,p2,_⟩:=g2.node;have step:SB self ((q:Int),⟨b,l⟩,⟨bx,fx⟩,⟨nb,A⟩,())=some (Sum.inl (((q+1:Nat):Int),⟨b,l⟩,⟨bx,fx⟩,⟨aH nb (cB ([((q+1+1+d.size:Nat):Int)]:Y1)),A++[((q+1+1+d.size:Nat):Int)]⟩,())):=by rw[q5o];rw[hg,ae,kI,zu hk,hf];simp[ae];have MR:fL ((F.cons a s c d (.cons a' s' c' d' .nil)).pos (q+1)) 0=some ((q+1:Nat):Int):=rfl;have AK:fL ((F.cons a s c d (.cons a' s' c' d' .nil)).pos (q+1)) 1=some ((q+1+1+d.size:Nat):Int):=rfl;rw[AK];simp only[ae];rw[show aa A=((A.length:Nat):Int) from rfl,show aa ([((q+1+1+d.size:Nat):Int)]:Y1)=((1:Nat):Int) from rfl,qK om];simp[ae];rw[MR];rfl
   have hT:(dT fx a s c d).args++mG (ps++[(dT fx a' s' c' d').p])=(dT fx 6 t n (.cons a s c d (.cons a' s' c' d' .nil))).args++mG ps:=by rw[e2,qo7,zk]
   have e:=ih (q+1) a s c d (.cons a' s' c' d' .nil) (aH nb (cB ([((q+1+1+d.size:Nat):Int)]:Y1))) (A++[((q+1+1+d.size:Nat):Int)]) (ps++[(dT fx a' s' c' d').p]) om g2 v1 (fun _=>by omega) om (by rw[zd,zd,hc];rfl) (by rw[zd,zB];omega)
    (fun i x p h1 h2=>by
     by_cases hi:i<A.length
     ·rw[jE hi] at h1;rw[jE om] at h2;exact ha i x p h1 h2
     ·rw[zM om] at h1;rw[zM om] at h2;have ho:i-A.length=0:=by have:=(zT.1 h1).1;simp at this;omega
      rw[ho] at h1;rw[show i-ps.length=0 by omega] at h2;injection h1 with h1;injection h2 with h2;exact⟨q+1+1+d.size,a',s',c',d',.nil,h1.symm,p2,v2,by omega,h2.symm⟩)
    (by rw[hT];exact he)
   rw[cY step,e,hT,e1]
  ·have⟨e1,e2⟩:=zhc (t:=t) (n:=n) hk;rw[e2] at he;have e:=zo6 hl hx hp hs hv (hj hk) nb A ps hc om ha A.length true [] [] (zm _) .nil (by rw[hc,jD];exact he);rw[hc,jD] at e;refine bG ?_;rw[q5o];rw[OY hl hx hs hv,ae,kI,zj hk,ae];rw[show dx .i64 (aa A) 1=((ps.length:Nat):Int)-1 from by rw[show aa A=((A.length:Nat):Int) from rfl,hc];exact oY om om,e,e1,e2]
theorem zes(hl:l.length<=1900)(hx:fx.length<=1000000)(hp:A8 self b bx l fx N){ks r:F}(hs:ba l q (.cons 6 t n ks r))(hv:bO 6 t n ks false=0)(hN:ks.size<=N)(hr:dX fx 6 ks=1):Lj self ((q:Int),⟨b,l⟩,⟨bx,fx⟩,())=some (⟨false,(dT fx 6 t n ks).p.doc.flat⟩,⟨b,l⟩,⟨bx,fx⟩,()):=by
 have hz:=z94 fx hv (XO fx ks _ _ (bE.1 hv).2);have hf:=hs.small hl;have hc:rowOf fx 6 ks=none:=by
  cases h:rowOf fx 6 ks with
  |none=>rfl
  |some f=>
   unfold dX at hr
   grind
 have e:=zq8 (b:=b) (bx:=bx) hl hx hp ks.size q 6 t n ks r true [] [] (zm _) hs hv (fun h=>absurd hr h) hN rfl (by show 0+ks.size<=1900;omega) (fun i a p h=>by cases h) (by
  have hn:mG []=[]:=rfl;rw[hn,zv];have:=hz.2.1;omega)
 rw[qjk,e];have hn:mG []=[]:=rfl;rw[hn,zv];obtain⟨a,s,c,d,a',s',c',d',rfl,v1,v2⟩:=MQ hv;have⟨e1,e2⟩:=zhb (t:=t) (n:=n) hr;rw[e1,e2];have he:(dT fx 6 t n (.cons a s c d (.cons a' s' c' d' .nil))).p.doc=MO (dT fx a s c d).hd ((dT fx a s c d).args++[cI,fV (dT fx a' s' c' d').p]):=by show fe fx 6 t n _ _=_;unfold fe;rw[zj dc,zj dc,zj dc,zj dc,zj dc,zu rfl,hc];rfl
 rw[he];rfl
end
section
variable {b bx:Bool} {l:List ND} {fx:List af} {self:lV} {N:Nat}
theorem z9b{g:F}{e:Nat}(hs:ba l q g)(hf:fc true false true g=0)(hc:g.aq=2*(e+1)):∃a s c d a' s' c' d' r,g=.cons a s c d (.cons a' s' c' d' r)/\r.aq=2*e/\bO a s c d true=0/\bO a' s' c' d' false=0/\fc true false true r=0/\ba l (q+1+d.size) (.cons a' s' c' d' r)/\ba l (q+1+d.size+1+d'.size) r:=by
 obtain⟨a,s,c,d,r1,rfl,hr⟩:=gO (ks:=g) (n:=2*e+1) om;obtain⟨a',s',c',d',r,rfl,he⟩:=gO (n:=2*e) hr;have⟨h1,h2⟩:=cK.1 hf;have⟨h3,h4⟩:=cK.1 h2;have⟨_,_,p2,_⟩:=hs.node;have⟨_,_,p3,_⟩:=p2.node
 grind
theorem z9c(q:Nat)(a a':Int)(s s':Tx)(c c':Int)(d d' r:F)(pre:List Int):pre++(F.cons a s c d (.cons a' s' c' d' r)).pos q=(pre++[(q:Int),((q+1+d.size:Nat):Int)])++r.pos (q+1+d.size+1+d'.size):=by rw[zk];rfl
theorem zl6(pre:List α)(a b:α)(post:List α):fL (pre++a::b::post) ((pre.length+1:Nat):Int)=some b:=bJ (by rw[zM om,Zr];rfl)
theorem qqs(hl:l.length<=1900)(hg:GL l)(ht:TL 1000 l)(hp:A8 self b bx l fx N){a:Int}{s:Tx}{d d' r:F}(hs:ba l q (.cons a s c d (.cons a' s' c' d' r)))(v1:bO a s c d true=0)(v2:bO a' s' c' d' false=0)(p2:ba l (q+1+d.size) (.cons a' s' c' d' r))(hN:d'.size<N)(nb nr:Bool)(pre:List Int)(hn:pre.length<=100000)(R:List (Sl Y0))(es:List F)(hR:Ds R es)(ho:(bH es).size<=30000):∃Tz R',Mq self (⟨nb,pre++(F.cons a s c d (.cons a' s' c' d' r)).pos q⟩,(pre.length:Int),⟨b,l⟩,⟨bx,fx⟩,⟨nr,R⟩,())=some (Sum.inl (⟨nb,pre++(F.cons a s c d (.cons a' s' c' d' r)).pos q⟩,((pre.length+2:Nat):Int),⟨b,l⟩,⟨bx,fx⟩,⟨Tz,R'⟩,()))/\Ds R' (es++(if pre.length=1 then [nC [cI,ch ((dT fx a s c d).pt++[32,45,62]),cf (dT fx a' s' c' d').p.doc]] else [cI,ch ([124,32]++((dT fx a s c d).pt++[32,45,62])),cf (dT fx a' s' c' d').p.doc])):=by
 have hk:R.length<=30000:=by have:=Tv hR.2;have:=hR.len;omega
 have hf:=z98 (b:=b) hl hg ht false hs v1;have hq:cF a s c (bK d)=(dT fx a s c d).pt:=rfl;have hm:=qvz a s c d (ba.tl ht hs.first);have hv:=hs.small hl;have hd:=Ah (fx:=fx) hl p2 v2;have hu:=HU hd;have k2:=hp _ a' s' c' d' r p2 v2 hN;have he:=aG (k:=pre.length) om;have hc:=Tw (k:=pre.length) om;rw[q8k];simp only;have hj:aa (pre++(F.cons a s c d (.cons a' s' c' d' r)).pos q)=((pre.length+(r.aq+1+1):Nat):Int):=by show(((pre++(F.cons a s c d (.cons a' s' c' d' r)).pos q).length:Nat):Int)=_;rw[zd,F.nL];rfl
 rw[hj,bf,zu om];have a0:fL (pre++(F.cons a s c d (.cons a' s' c' d' r)).pos q) (pre.length:Int)=some (q:Int):=XV pre _ _;have a1:fL (pre++(F.cons a s c d (.cons a' s' c' d' r)).pos q) ((pre.length+1:Nat):Int)=some ((q+1+d.size:Nat):Int):=zl6 pre _ _ _;rw[a0];simp only[ae];rw[hf];simp only[ae,zE];rw[F7 (cF a s c (bK d)) [32,45,62] (by show _+3<=_;omega)];simp only[ae];rw[he,a1];simp only[ae];rw[k2];simp only[ae];rw[C0 _ (d:=(dT fx a' s' c' d').p.doc) rfl (rH fx a' s' c' d') om];simp only[ae];rw[kI,lj];by_cases h1:pre.length=1
 ·rw[zu om,zu h1,CZ];simp only[ae];rw[pV];simp only[ae];rw[XQ false (.cons (d:=cI) rfl rfl (.cons (d:=ch _) rfl rfl (.one (d:=cf (dT fx a' s' c' d').p.doc) rfl rfl))) (by simp only[gj,kT,mF,rG];omega)];simp only[ae];rw[show aa R=((R.length:Nat):Int) from rfl,show aa ([(⟨false,(nC [cI,ch (cF a s c (bK d)++[32,45,62]),cf (dT fx a' s' c' d').p.doc]).flat⟩:(Sl Y0))]:List (Sl Y0))=((1:Nat):Int) from rfl,qK om];simp only[ae];rw[hc];exact⟨_,_,rfl,hR.app (.one rfl rfl)⟩
 ·rw[zj om,zj h1,CZ];simp only[ae];rw[F7 [124,32] (cF a s c (bK d)++[32,45,62]) (by rw[zd];show 2+(_+3)<=_;omega)];simp only[ae];rw[lj,pV];simp only[ae];rw[show aa R=((R.length:Nat):Int) from rfl,show aa ([(⟨false,cI.flat⟩:(Sl Y0)),⟨false,(ch ([124,32]++(cF a s c (bK d)++[32,45,62]))).flat⟩,⟨false,(cf (dT fx a' s' c' d').p.doc).flat⟩]:List (Sl Y0))=((3:Nat):Int) from rfl,qK om];simp only[ae];rw[hc];exact⟨_,_,rfl,hR.app (.cons rfl rfl (.cons rfl rfl (.one rfl rfl)))⟩
theorem z9d(nb nr:Bool)(pos:List Int)(R:List (Sl Y0))(es:List F)(hR:Ds R es)(he:(bH es).size<=30000):Mq self (⟨nb,pos⟩,(pos.length:Int),⟨b,l⟩,⟨bx,fx⟩,⟨nr,R⟩,())=some (Sum.inr (⟨false,(gi (es++[cI,ch Pz.gI])).flat⟩,⟨b,l⟩,⟨bx,fx⟩,())):=by
 have hc:R.length<=30000:=by have:=Tv hR.2;have:=hR.len;omega
 rw[q8k];simp only;rw[show aa pos=((pos.length:Nat):Int) from rfl,bf,zj om,CZ];rw[pV];simp only[ae];rw[show aa R=((R.length:Nat):Int) from rfl,show aa ([(⟨false,cI.flat⟩:(Sl Y0)),⟨false,(ch [101,110,100]).flat⟩]:List (Sl Y0))=((2:Nat):Int) from rfl,qK om];simp only[ae];rw[show app R [(⟨false,cI.flat⟩:(Sl Y0)),⟨false,(ch [101,110,100]).flat⟩]=R++[(⟨false,cI.flat⟩:(Sl Y0)),⟨false,(ch [101,110,100]).flat⟩] from ue _ _,F5 _ (hR.app (.cons (d:=cI) rfl rfl (.one (d:=ch Pz.gI) rfl rfl))) (by rw[F4];simp only[gj,kT,mF,rG];omega)];simp only[ae]
theorem qw1(hl:l.length<=1900)(hg:GL l)(ht:TL 1000 l)(hp:A8 self b bx l fx N)(nb:Bool):∀(e:Nat) (g:F) (q:Nat) (pre:List Int) (nr:Bool) (R:List (Sl Y0)) (es:List F),g.aq=2*e->ba l q g->fc true false true g=0->g.size<=N->2<=pre.length->pre.length+g.aq<=100000->Ds R es->(bH (es++pT (dF fx g))).size<=30000->aI (Mq self) (⟨nb,pre++g.pos q⟩,(pre.length:Int),⟨b,l⟩,⟨bx,fx⟩,⟨nr,R⟩,())=some (⟨false,(gi (es++(pT (dF fx g)++[cI,ch Pz.gI]))).flat⟩,⟨b,l⟩,⟨bx,fx⟩,())
 |0,g,q,pre,nr,R,es,hc,_,_,_,_,_,hR,hj=>by obtain rfl:=A6 (ks:=g) om;have h0:pT (dF fx .nil)=[]:=rfl;rw[h0,zv] at hj;have hk:pre++F.nil.pos q=pre:=zv pre;rw[hk,h0,jF];exact bG (z9d nb nr pre R es hR hj)
 |e+1,g,q,pre,nr,R,es,hc,hs,hf,hN,ho,hq,hR,hj=>by
  obtain⟨a,s,c,d,a',s',c',d',r,rfl,hn,v1,v2,v3,q2,q3⟩:=z9b hs hf hc;have hN:d.size+(d'.size+r.size+1)+1<=N:=hN;have he:pT (dF fx (.cons a s c d (.cons a' s' c' d' r)))=[cI,ch ([124,32]++((dT fx a s c d).pt++[32,45,62])),cf (dT fx a' s' c' d').p.doc]++pT (dF fx r):=rfl;rw[he,<-zk] at hj;obtain⟨Tz,R',st,hm⟩:=qqs hl hg ht hp hs v1 v2 q2 om nb nr pre om R es hR (by rw[zk,F4] at hj;omega);rw[zj om] at hm;have e2:=qw1 hl hg ht hp nb e r (q+1+d.size+1+d'.size) (pre++[(q:Int),((q+1+d.size:Nat):Int)]) Tz R' _ hn q3 v3 om (by rw[zd];omega) (by rw[zd];show pre.length+2+_<=_;omega) hm hj;rw[cY st,z9c,show((pre.length+2:Nat):Int)=(((pre++[(q:Int),((q+1+d.size:Nat):Int)]).length:Nat):Int) from by rw[zd];rfl,e2,he]
  grind
theorem z9e(hl:l.length<=1900)(hg:GL l)(ht:TL 1000 l)(hp:A8 self b bx l fx N){ks r:F}(hs:ba l q (.cons 10 t n ks r))(hv:bO 10 t n ks false=0)(hN:ks.size<=N):Le self ((q:Int),⟨b,l⟩,⟨bx,fx⟩,())=some (⟨false,(dT fx 10 t n ks).p.doc.flat⟩,⟨b,l⟩,⟨bx,fx⟩,()):=by
 obtain⟨g1,g2,g3,g4⟩:=hs.node;obtain⟨hn,hf⟩:=bE.1 hv;obtain⟨_,_,hk,_,_,_⟩:=bC.1 hn;obtain⟨_,_,_,sF,_⟩:=AU hk;obtain⟨sF,Lk⟩:=sF rfl;obtain⟨nb,hc⟩:=MB b l om hs;have ho:=hs.small hl;have hq:=Ah (fx:=fx) hl hs hv;obtain⟨a,s,c,d,r0,rfl,hr⟩:=gO (ks:=ks) (n:=ks.aq-1) om;have hz:(F.cons a s c d r0).aq=r0.aq+1:=rfl;have rA:ah 10 10=true:=rfl;rw[rA] at hf;obtain⟨v0,hf⟩:=F8 hf rfl;have hN:d.size+r0.size+1<=N:=hN;have hw:=r0.eJ;have ho:d.size+r0.size+1+1<=1900:=ho;obtain⟨_,_,p0,_⟩:=g2.node;obtain⟨e,he⟩:∃e,r0.aq=2*(e+1):=⟨r0.aq / 2-1,by omega⟩;obtain⟨a1,s1,c1,d1,a2,s2,c2,d2,r1,rfl,hx,v1,v2,v3,q2,q3⟩:=z9b p0 hf he;have hN:d.size+(d1.size+(d2.size+r1.size+1)+1)+1<=N:=hN;have k0:=hp _ a s c d _ g2 v0 om;have d0:=Ah (fx:=fx) hl g2 v0;have u0:=HU d0;have hj:(dT fx 10 t n (.cons a s c d (.cons a1 s1 c1 d1 (.cons a2 s2 c2 d2 r1)))).p.doc=gi ([ch Pz.dB,cf (dT fx a s c d).p.doc,cI,ch Pz.eH]++([nC [cI,ch ((dT fx a1 s1 c1 d1).pt++[32,45,62]),cf (dT fx a2 s2 c2 d2).p.doc]]++(pT (dF fx r1)++[cI,ch Pz.gI]))):=by have h0:(dT fx 10 t n (.cons a s c d (.cons a1 s1 c1 d1 (.cons a2 s2 c2 d2 r1)))).p.doc=fe fx 10 t n (.cons a s c d (.cons a1 s1 c1 d1 (.cons a2 s2 c2 d2 r1))) (dF fx (.cons a s c d (.cons a1 s1 c1 d1 (.cons a2 s2 c2 d2 r1)))):=rfl;rw[h0];unfold fe;rw[zj dc,zj dc,zj dc,zj dc,zu rfl];rfl
 have hm:(bH ([ch Pz.dB,cf (dT fx a s c d).p.doc,cI,ch Pz.eH]++[nC [cI,ch ((dT fx a1 s1 c1 d1).pt++[32,45,62]),cf (dT fx a2 s2 c2 d2).p.doc]]++pT (dF fx r1))).size<=30000:=by rw[hj] at hq;have:(bH ([ch Pz.dB,cf (dT fx a s c d).p.doc,cI,ch Pz.eH]++([nC [cI,ch ((dT fx a1 s1 c1 d1).pt++[32,45,62]),cf (dT fx a2 s2 c2 d2).p.doc]]++(pT (dF fx r1)++[cI,ch Pz.gI])))).size+0+1+0+1<=12000:=hq;rw[<-zk,<-zk,F4] at this;omega
 rw[qhw,hc];simp only[ae];rw[pV];simp only[ae];have MR:fL ((F.cons a s c d (.cons a1 s1 c1 d1 (.cons a2 s2 c2 d2 r1))).pos (q+1)) 0=some ((q+1:Nat):Int):=rfl;rw[MR];simp only[ae];rw[k0];simp only[ae];rw[C0 _ (d:=(dT fx a s c d).p.doc) rfl (rH fx a s c d) om];simp only[ae];rw[CZ];simp only[ae];rw[pV];simp only[ae];have hy:Ds [(⟨false,(ch [109,97,116,99,104]).flat⟩:(Sl Y0)),⟨false,(cf (dT fx a s c d).p.doc).flat⟩,⟨false,cI.flat⟩,⟨false,(ch [119,105,116,104]).flat⟩] [ch Pz.dB,cf (dT fx a s c d).p.doc,cI,ch Pz.eH]:=.cons rfl rfl (.cons rfl rfl (.cons rfl rfl (.one rfl rfl)));obtain⟨Tz,R',st,hu⟩:=qqs hl hg ht hp p0 v1 v2 q2 om nb false [((q+1:Nat):Int)] (by show 1<=_;omega) _ _ hy (by rw[F4,F4] at hm;omega);rw[zu (show [((q+1:Nat):Int)].length=1 from rfl)] at hu;have st:Mq self (⟨nb,(F.cons a s c d (.cons a1 s1 c1 d1 (.cons a2 s2 c2 d2 r1))).pos (q+1)⟩,1,⟨b,l⟩,⟨bx,fx⟩,⟨false,[(⟨false,(ch [109,97,116,99,104]).flat⟩:(Sl Y0)),⟨false,(cf (dT fx a s c d).p.doc).flat⟩,⟨false,cI.flat⟩,⟨false,(ch [119,105,116,104]).flat⟩]⟩,())=_:=st;rw[cY st];have e2:=qw1 hl hg ht hp nb e r1 (q+1+1+d.size+1+d1.size+1+d2.size) ([((q+1:Nat):Int)]++[((q+1+1+d.size:Nat):Int),((q+1+1+d.size+1+d1.size:Nat):Int)]) Tz R' _ hx q3 v3 om (by show 2<=3;omega) (by show 3+_<=_;have:=r1.eJ;omega) hu hm;rw[hj];rw[z9c];refine jU e2 ?_;simp only[zk]
end
theorem z9f{b bx:Bool}{l:List ND}{fx:List af}(hl:l.length<=1900)(hg:GL l)(ht:TL 1000 l)(hx:fx.length<=1000000)(hq:∀f,f∈fx->f.1.length<=1000):∀N:Nat,A8 (dN qB N) b bx l fx N
 |0=>fun _ _ _ _ _ _ _ _ h=>absurd h (ZA _)
 |N+1=>by
  have hp:=z9f (b:=b) (bx:=bx) hl hg ht hx hq N;intro q k t n ks r hs hv hN;have hN:ks.size<=N:=om
  show qB (dN qB N) ((q:Int),⟨b,l⟩,⟨bx,fx⟩,())=_;by_cases ho:mT k=true
  ·exact zeq hl hg ht hp hs hv hN ho
  obtain⟨g1,g2,g3,g4⟩:=hs.node;have hu:=(hg.at g1).1;have hy:t.length<=1000:=ht _ (zH g1);obtain⟨hn,hf⟩:=bE.1 hv;obtain⟨_,_,hk,hj,_,_⟩:=bC.1 hn;have hm:(dT fx k t n ks).p.doc=fe fx k t n ks (dF fx ks):=rfl;have no:∀c:Int,mT c=true->ah k c=false:=fun c hc=>cZ fun e=>ho (e▸hc);by_cases k10:k=10
  ·subst k10;rw[FH,bJ g1,ae];simp only;have e:=z9e hl hg ht hp hs hv hN;rw[dQ 10 1,dQ 10 2,dQ 10 3,dQ 10 5,dQ 10 7,dQ 10 8,
    dQ 10 9,dQ 10 11,dQ 10 12,uQ 10 10,e]
   simp only[ae]
  by_cases k6:k=6
  ·subst k6;rw[FH,bJ g1,ae];simp only;rw[dQ 6 1,dQ 6 2,dQ 6 3,dQ 6 5,dQ 6 7,dQ 6 8,
    dQ 6 9,dQ 6 11,dQ 6 12,dQ 6 10,uQ 6 6,OY hl hx hs hv,ae]
   simp only;cases hr:rowOf fx 6 ks with
   |some f=>
    have he:dX fx 6 ks=2:=by unfold dX;rw[zu rfl,hr]
    have e:=zer hl ht hx hq hp hs hv hN hr;rw[he,uQ 2 2,e];simp only[ae]
   |none=>
    have he:dX fx 6 ks=1:=by unfold dX;rw[zu rfl,hr]
    have e:=zes hl hx hp hs hv hN he;rw[he,dQ 1 2,e];simp only[ae]
  rw[FH,bJ g1,ae,hm];simp only;unfold fe;rw[kI];by_cases k1:k=1
  ·subst k1;have hw:rz n=true:=hj;rw[zu rfl,zu rfl,XR hw];simp only[ae];rw[pV];simp only[ae]
  rw[zj k1,zj k1,kI];by_cases k2:k=2
  ·subst k2;rw[zu rfl,zu rfl,z4k (s:=t) hu om];simp only[ae];rw[pV];simp only[ae]
  rw[zj k2,zj k2,kI];by_cases k3:k=3
  ·subst k3;rw[zu rfl,zu rfl,qk4 (s:=t) hu om];simp only[ae];rw[pV];simp only[ae]
  rw[zj k3,zj k3,zj ho,zj k10,zj k6,no 5 rfl,aJ,no 7 rfl,aJ,no 8 rfl,aJ,no 9 rfl,aJ,no 11 rfl,aJ,no 12 rfl,aJ,cZ k10,aJ,cZ k6,aJ,pV];simp only[ae]
theorem z9g(hl:l.length<=1900)(hg:GL l)(ht:TL 1000 l)(hx:fx.length<=1000000)(hc:∀f,f∈fx->f.1.length<=1000){ks r:F}(hs:ba l q (.cons k t n ks r))(hv:bO k t n ks false=0):Fk ((q:Int),⟨b,l⟩,⟨bx,fx⟩,())=some (⟨false,(dT fx k t n ks).p.doc.flat⟩,⟨b,l⟩,⟨bx,fx⟩,()):=IV (ks.size+1) fun N hN=>z9f hl hg ht hx hc N q k t n ks r hs hv hN
theorem zet{s:Tx}{ks:F}{pat:Bool}(h:ua k s n ks pat=0):bO k s n ks pat=0:=by
 unfold ua at h;cases h1:aZ 100 ((ks.dep+1:Nat):Int) with
 |true=>rw[h1] at h;cases h
 |false=>
  rw[h1] at h;by_cases h2:bO k s n ks pat=0
  ·exact h2
  ·rw[cZ h2] at h;exact absurd h h2
theorem zo7(k:Int):aZ (lY k) 0=false->ku k=false->mT k=false->ah k 1=false->ah k 2=false->ah k 3=false->ah k 6=false->ah k 10=false->k=4:=by refine qqf (P:=fun k=>aZ (lY k) 0=false->ku k=false->mT k=false->ah k 1=false->ah k 2=false->ah k 3=false->ah k 6=false->ah k 10=false->k=4) dc dc dc dc dc dc dc dc dc dc dc dc dc dc dc dc ?_ k;intro a ha h;have e:∀c,c∈Xb->ah a c=false:=ha;unfold lY at h;rw[e 1 dc,e 6 dc,e 9 dc,e 10 dc,e 11 dc,e 21 dc,e 23 dc,e 3 dc,e 5 dc,e 7 dc,e 8 dc,e 12 dc,e 22 dc,e 4 dc,e 24 dc,e 2 dc] at h;cases h
theorem xw{s:List Int}(h:gE .str s):∀b,b∈s->0<=b/\b<=255:=fun b hb=>by have:=h.2 b hb;omega
theorem F9{x:af}(h:gE (.st (.pair .str (.pair (.int .i64) (.int .i64)))) x):gF x:=by obtain⟨⟨h2,h3⟩,h1,h4⟩:=h;exact⟨fun b hb=>by have:=h3 b hb;omega,h2,wJ.1 h1,wJ.1 h4⟩
def dW:F->Tx
 |.nil=>[]
 |.cons k t _ ks r=>(if k=41 then t else if k=42 then [32] else dW ks)++dW r
def gn:Nat->Tx->Nat
 |c,[]=>c
 |c,b::s=>gn (if b=10 then 0 else c+1) s
theorem z1f:∀(a:Tx) (c:Nat) (b:Tx),gn c (a++b)=gn (gn c a) b
 |[],_,_=>rfl
 |x::a,c,b=>z1f a (if x=10 then 0 else c+1) b
theorem z9h:∀(s:Tx) (c:Nat),gn c s<=c+s.length
 |[],_=>zm _
 |x::s,c=>by
  have:=z9h s (if x=10 then 0 else c+1);show gn (if x=10 then 0 else c+1) s<=c+(s.length+1)
  grind
theorem qo8:∀(s:Tx) (c:Nat),(∀b,b∈s->b≠10)->gn c s=c+s.length
 |[],_,_=>rfl
 |x::s,c,h=>by show gn (if x=10 then 0 else c+1) s=c+(s.length+1);rw[zj (h x (zg ..)),qo8 s (c+1) fun b hb=>h b (zf _ hb)];omega
def gM(W:Nat)(k:Int)(t:Tx)(n:Int)(kf:Bool->Nat->Nat->Tx)(z:Nat)(fl:Bool)(c i:Nat):Tx:=if k=41 then t else if k=42 then(bif fl then [32] else 10::List.replicate i 32) else if k=43 then kf fl c (i+n.toNat) else if k=44 then kf (fl||decide (c+z<=W)) c i else kf fl c i
def bA(W:Nat):F->Bool->Nat->Nat->Tx
 |.nil,_,_,_=>[]
 |.cons k t n ks r,fl,c,i=>gM W k t n (bA W ks) (dW ks).length fl c i++bA W r fl (gn c (gM W k t n (bA W ks) (dW ks).length fl c i)) i
def O3(k:Int)(t:Tx)(n:Int)(ks:F):Prop:=(k=41/\n=0/\ks=.nil/\∀c,c∈t->32<=c/\c<=126)\/(k=42/\t=[]/\n=0/\ks=.nil)\/(k=43/\t=[]/\n=2/\ks.aq=1)\/(k=44/\t=[]/\n=0/\ks.aq=1)\/(k=45/\t=[]/\n=0)
def ur:F->Prop
 |.nil=>True
 |.cons k t n ks r=>O3 k t n ks/\ur ks/\ur r
def ff:F->Nat->Nat
 |.nil,_=>0
 |.cons _ t _ ks r,i=>t.length+1+i+ff ks (i+2)+ff r i
theorem X4:∀(f:F) {i j:Nat},i<=j->ff f i<=ff f j
 |.nil,_,_,_=>zm _
 |.cons _ t _ ks r,i,j,h=>by have h1:=X4 ks (i:=i+2) (j:=j+2) om;have h2:=X4 r h;show t.length+1+i+ff ks (i+2)+ff r i<=t.length+1+j+ff ks (j+2)+ff r j;omega
theorem qo9:∀(f:F) (i:Nat),(dW f).length<=ff f i
 |.nil,_=>zm _
 |.cons k t n ks r,i=>by
  have h1:=qo9 ks (i+2);have h2:=qo9 r i;show((if k=41 then t else if k=42 then [32] else dW ks)++dW r).length<=t.length+1+i+ff ks (i+2)+ff r i
  grind
theorem qsy(W:Nat):∀(f:F) (fl:Bool) (c i:Nat),ur f->(bA W f fl c i).length<=ff f i
 |.nil,_,_,_,_=>zm _
 |.cons k t n ks r,fl,c,i,⟨hk,hc,hr⟩=>by
  have h2:=qsy W r fl (gn c (gM W k t n (bA W ks) (dW ks).length fl c i)) i hr;have h1:∀TA j,j<=i+2->(bA W ks TA c j).length<=ff ks (i+2):=fun TA j hj=>je (qsy W ks TA c j hc) (X4 ks hj);have h3:(gM W k t n (bA W ks) (dW ks).length fl c i).length<=t.length+1+i+ff ks (i+2):=by
   unfold gM;split
   ·omega
   split
   ·cases fl with
    |true=>show 1<=_;omega
    |false=>show(List.replicate i (32:Int)).length+1<=_;rw[jp];omega
   split
   ·rename_i he hf hg;rcases hk with h|h|h|h|h
    all_goals grind
   grind
  show(gM W k t n (bA W ks) (dW ks).length fl c i++bA W r fl (gn c (gM W k t n (bA W ks) (dW ks).length fl c i)) i).length<=t.length+1+i+ff ks (i+2)+ff r i
  grind
theorem TB(W:Nat):∀(f:F) (c i:Nat),bA W f true c i=dW f
 |.nil,_,_=>rfl
 |.cons k t n ks r,c,i=>by
  show gM W k t n (bA W ks) (dW ks).length true c i++bA W r true (gn c (gM W k t n (bA W ks) (dW ks).length true c i)) i=(if k=41 then t else if k=42 then [32] else dW ks)++dW r;rw[TB W r];refine jd (· ++dW r) ?_;unfold gM;split
  ·rfl
  split
  ·rfl
  split
  ·exact TB W ks c _
  split
  ·exact TB W ks c _
  ·exact TB W ks c _
theorem qsz{s:Tx}(b:Bool){c:Nat}(W:Int)(nn:Bool)(out:Tx)(hc:c+s.length<2 ^ 53)(hm:m<2 ^ 53)(ho:out.length+s.length<=2147483648):yI (s,b,(cV (c:Int),cV (m:Int)),W,⟨nn,out⟩,())=some (true,(cV ((c+s.length:Nat):Int),cV (m:Int)),W,⟨aH nn (cB s),out++s⟩,()):=by
 have h0:ko (cV (m:Int)) 0=some (cV (m:Int)):=by have:=XG (n:=m) (m:=0) om;rw[Nat.add_zero] at this;rw[<-this];rfl
 have h1:ko (cV (c:Int)) (cV (aa s))=some (cV ((c+s.length:Nat):Int)):=XG hc;have he:vE (b,(cV (c:Int),cV (m:Int)),W,⟨nn,out⟩,())=some (true,(cV (c:Int),cV (m:Int)),W,⟨nn,out⟩,()):=rfl;rw[aca,ab9,he];simp[ae];rw[im (by show((out.length:Nat):Int)+((s.length:Nat):Int)<=_;omega)];simp[ae];rw[h1,h0];rfl
theorem z1g(nn:Bool)(a b:Tx):aH (aH nn (cB a)) (cB b)=aH nn (cB (a++b)):=by cases nn<;>cases a<;>rfl
def qX:Tx->Nat
 |[]=>0
 |b::s=>(if b=10 then 1 else 0)+qX s
theorem z9i:∀a b:Tx,qX (a++b)=qX a+qX b
 |[],b=>(zW _).symm
 |x::a,b=>by show(if x=10 then 1 else 0)+qX (a++b)=(if x=10 then 1 else 0)+qX a+qX b;rw[z9i a b,jr]
theorem zhe:∀s:Tx,qX s<=s.length
 |[]=>zm _
 |x::s=>by have:=zhe s;show(if x=10 then 1 else 0)+qX s<=s.length+1;split<;>omega
theorem qt0:∀s:Tx,(∀b,b∈s->b≠10)->qX s=0
 |[],_=>rfl
 |x::s,h=>by show(if x=10 then 1 else 0)+qX s=0;rw[zj (h x (zg ..)),qt0 s fun b hb=>h b (zf _ hb)]
def HV:F->Bool
 |.nil=>false
 |.cons k _ _ ks r=>((decide (k=41)||decide (k=42))||HV ks)||HV r
def D8(k:Int)(ks:F):Bool:=(decide (k=41)||decide (k=42))||HV ks
theorem z9j(b:Bool){c:Nat}(W:Int)(nn:Bool)(out:Tx)(hi:i<=1000000)(hm:m+1<2 ^ 53)(ho:out.length+(i+1)<=2147483648):Cp ((i:Int),b,(cV (c:Int),cV (m:Int)),W,⟨nn,out⟩,())=some (true,(cV (i:Int),cV ((m+1:Nat):Int)),W,⟨aH nn (cB (10::List.replicate i 32)),out++10::List.replicate i 32⟩,()):=by
 have h1:ko (cV (m:Int)) 4607182418800017408=some (cV ((m+1:Nat):Int)):=by have:=XG (n:=m) (m:=1) hm;rw[<-this];exact jd (ko (cV (m:Int))) dc
 have he:vE (b,(cV (c:Int),cV (m:Int)),W,⟨nn,out⟩,())=some (true,(cV (c:Int),cV (m:Int)),W,⟨nn,out⟩,()):=rfl;have hf:Lv ([32],(i:Int),())=some (List.replicate i 32,()):=by show(bif (([32]:List Int)==[32])&&(decide (0<=(i:Int))&&decide ((i:Int)<=1000000)) then some (List.replicate (i:Int).toNat (32:Int),()) else none)=_;rw[zw (show 0<=(i:Int) by omega),zw (show(i:Int)<=1000000 by omega)];rfl
 have hz:(0:Nat)=cV ((0:Nat):Int):=uo.symm;have hc:=qsz (s:=List.replicate i 32) true (c:=0) (m:=m+1) W (aH nn (cB ([10]:Y1))) (out++[10]) (by rw[jp];omega) hm (by rw[zd,jp];show out.length+1+i<=_;omega);rw[<-hz,jp,zW] at hc;rw[acd,acb,he];simp[ae];rw[im (by show((out.length:Nat):Int)+((1:Nat):Int)<=_;omega)];simp[ae];rw[h1];rw[hf];simp only[ae];rw[ue,hc];rw[zk,z1g];rfl
theorem z9k(b:Bool){c W:Nat}(o:Sl Int)(hc:c+z<2 ^ 53)(hW:W<2 ^ 53):Cq ((z:Int),b,(cV (c:Int),cV (m:Int)),(W:Int),o,())=some (decide (c+z<=W),b,(cV (c:Int),cV (m:Int)),(W:Int),o,()):=by rw[ace,XG hc,ae,zl3 hc hW]
def TC(k:Int)(t:Tx):Nat:=t.length+if k=42 then 1 else 0
def C1(l:List ND):Nat:=(l.map fun x=>TC x.1 x.2.1).sum
theorem qt1(x:ND)(l:List ND):C1 (x::l)=TC x.1 x.2.1+C1 l:=by unfold C1;rw[zX,jW]
theorem zl7(a b:List ND):C1 (a++b)=C1 a+C1 b:=by unfold C1;rw[jn,Zy]
theorem X5:∀f:F,ur f->C1 f.flat=(dW f).length
 |.nil,_=>rfl
 |.cons k t n ks r,⟨hk,hc,hr⟩=>by
  show C1 ((k,t,n,(ks.aq:Int))::(ks.flat++r.flat))=((if k=41 then t else if k=42 then [32] else dW ks)++dW r).length;rw[qt1,zl7,X5 ks hc,X5 r hr,zd];unfold TC;rcases hk with ⟨h,_,e,_⟩|⟨h,e,_,e2⟩|⟨h,e,_⟩|⟨h,e,_⟩|⟨h,e,_⟩
  ·subst h;subst e;show t.length+0+(0+_)=_;rw[zu rfl];omega
  ·subst h;subst e;subst e2;show 0+1+(0+_)=_;rw[zj dc];show _=1+_;omega
  all_goals grind
theorem z9l(nb:Bool)(L:List ND)(hL:L.length<=1000000):∀(m k z:Nat),k+m=L.length->z+C1 (L.drop k)<=1000000000000->aI tJ ((z:Int),⟨nb,L⟩,aa L,(k:Int),())=some (((z+C1 (L.drop k):Nat):Int),()):=by
 intro m
 induction m with
 |zero=>intro k z hk hz;refine bG ?_;rw[qe1];simp only;rw[show aa L=((L.length:Nat):Int) from rfl,bf,zj om,zR om];rfl
 |succ m ih=>
  intro k z hk hz;have hf:k<L.length:=om
  have hd:=lX hf;rw[hd,qt1] at hz;have he:aa L[k].2.1=((L[k].2.1.length:Nat):Int):=rfl;have hc:TC L[k].1 L[k].2.1=L[k].2.1.length+if L[k].1=42 then 1 else 0:=rfl
  have step:tJ ((z:Int),⟨nb,L⟩,aa L,(k:Int),())=some (.inl (((z+TC L[k].1 L[k].2.1:Nat):Int),⟨nb,L⟩,aa L,((k+1:Nat):Int),())):=by
   rw[qe1];simp only;rw[show aa L=((L.length:Nat):Int) from rfl,bf,zu om,bJ (zh hf),ae,kI,he];have ha:bc .i64 (z:Int) (L[k].2.1.length:Int)=((z+L[k].2.1.length:Nat):Int):=by rw[pG om om];omega
   have hb:bc .i64 ((z+L[k].2.1.length:Nat):Int) 1=((z+(L[k].2.1.length+1):Nat):Int):=by rw[pG om om];omega
   by_cases h:L[k].1=42
   ·rw[zu h] at hc;rw[zu h,ha,hb,ae,hc];rw[aG om]
   ·rw[zj h] at hc;rw[zj h,ha,ae,hc];rw[aG om];rfl
  rw[cY step,ih (k+1) _ om om,hd,qt1];rw[jr]
theorem z9m(nb:Bool)(f:F)(hf:ur f)(hs:f.size<=1000000)(hv:(dW f).length<=1000000000000):Fo (⟨nb,f.flat⟩,())=some (((dW f).length:Int),()):=by have h:=z9l nb f.flat (by rw[f.len];exact hs) f.flat.length 0 0 (zW _) (by rw[jh,X5 f hf];omega);rw[jh,X5 f hf,zW] at h;rw[acf];exact h
def j5(t:Tx)(ks:F)(i:Nat):Nat:=t.length+1+i+ff ks (i+2)
def X6(self:qk)(b:Bool)(l:List ND)(W:Nat)(N:Nat):Prop:=∀(q:Nat) (k:Int) (t:Tx) (n:Int) (ks r:F) (i c m:Nat) (fl bd nn:Bool) (out:Tx),ba l q (.cons k t n ks r)->O3 k t n ks->ur ks->ks.size<N->i+2*(ks.size+1)<=1000000->
 c+j5 t ks i<=2 ^ 50->m+j5 t ks i<=2 ^ 50->out.length+j5 t ks i<=2147483648->
 self (⟨b,l⟩,(q:Int),(i:Int),fl,bd,(cV (c:Int),cV (m:Int)),(W:Int),⟨nn,out⟩,())=
  some (((q+1+ks.size:Nat):Int),bd||D8 k ks,(cV ((gn c (gM W k t n (bA W ks) (dW ks).length fl c i):Nat):Int),cV ((m+qX (gM W k t n (bA W ks) (dW ks).length fl c i):Nat):Int)),(W:Int),⟨aH nn (cB (gM W k t n (bA W ks) (dW ks).length fl c i)),out++gM W k t n (bA W ks) (dW ks).length fl c i⟩,())
theorem zl8(W:Nat){ks:F}(hk:O3 k t n ks)(hc:ur ks)(fl:Bool)(c i:Nat):(gM W k t n (bA W ks) (dW ks).length fl c i).length<=j5 t ks i:=by
 have:=qsy W (.cons k t n ks .nil) fl c i ⟨hk,hc,trivial⟩;have e:bA W (.cons k t n ks .nil) fl c i=gM W k t n (bA W ks) (dW ks).length fl c i++[]:=rfl
 rwa [e,zv] at this
section
variable {self:qk} {b:Bool} {l:List ND} {W N:Nat}
theorem z1h(hl:l.length<=10000)(hp:X6 self b l W N)(q:Int)(k:Int)(t:Tx)(n c0:Int)(tot i:Nat)(fl:Bool)(hc:tot<=10000)(hf:i+2*N<=1000000):∀(g:F) (at_ j c m:Nat) (bd nn:Bool) (out:Tx),ba l at_ g->ur g->g.size<=N->j+g.aq=tot->c+ff g i<=2 ^ 50->m+ff g i<=2 ^ 50->out.length+ff g i<=2147483648->aI (CG self) ((i:Int),fl,(at_:Int),(tot:Int),(j:Int),q,k,t,n,c0,⟨b,l⟩,bd,(cV (c:Int),cV (m:Int)),(W:Int),⟨nn,out⟩,())=some (((at_+g.size:Nat):Int),q,k,t,n,c0,⟨b,l⟩,bd||HV g,(cV ((gn c (bA W g fl c i):Nat):Int),cV ((m+qX (bA W g fl c i):Nat):Int)),(W:Int),⟨aH nn (cB (bA W g fl c i)),out++bA W g fl c i⟩,())
 |.nil,at_,j,c,m,bd,nn,out,_,_,_,hj,_,_,_=>by have hj:j+0=tot:=hj;refine bG ?_;unfold CG;simp only;rw[bf,zj om];have e:out++bA W .nil fl c i=out:=zv out;have e2:(bd||HV .nil)=bd:=Zo _;have e3:aH nn (cB (bA W .nil fl c i))=nn:=ZQ _;rw[e,e2,e3];rfl
 |.cons k1 t1 n1 gZ r,at_,j,c,m,bd,nn,out,hs,⟨hk,he,hr⟩,hN,hj,h1,h2,h3=>by
  have hN:gZ.size+r.size+1<=N:=hN;have hj:j+(r.aq+1)=tot:=hj;have h1:c+(j5 t1 gZ i+ff r i)<=2 ^ 50:=h1;have h2:m+(j5 t1 gZ i+ff r i)<=2 ^ 50:=h2;have h3:out.length+(j5 t1 gZ i+ff r i)<=2147483648:=h3;have⟨_,_,g3,_⟩:=hs.node;have hm:=zl8 W hk he fl c i;have e:=hp at_ k1 t1 n1 gZ r i c m fl bd nn out hs hk he om om om om om;have hg:=z9h (gM W k1 t1 n1 (bA W gZ) (dW gZ).length fl c i) c;have hn:=zhe (gM W k1 t1 n1 (bA W gZ) (dW gZ).length fl c i);have e2:=z1h hl hp q k t n c0 tot i fl hc hf r (at_+1+gZ.size) (j+1) (gn c (gM W k1 t1 n1 (bA W gZ) (dW gZ).length fl c i)) (m+qX (gM W k1 t1 n1 (bA W gZ) (dW gZ).length fl c i)) (bd||D8 k1 gZ) (aH nn (cB (gM W k1 t1 n1 (bA W gZ) (dW gZ).length fl c i))) (out++gM W k1 t1 n1 (bA W gZ) (dW gZ).length fl c i) g3 hr om om om om (by rw[zd];omega);have step:CG self ((i:Int),fl,(at_:Int),(tot:Int),(j:Int),q,k,t,n,c0,⟨b,l⟩,bd,(cV (c:Int),cV (m:Int)),(W:Int),⟨nn,out⟩,())=
    some (.inl ((i:Int),fl,((at_+1+gZ.size:Nat):Int),(tot:Int),((j+1:Nat):Int),q,k,t,n,c0,⟨b,l⟩,bd||D8 k1 gZ,(cV ((gn c (gM W k1 t1 n1 (bA W gZ) (dW gZ).length fl c i):Nat):Int),cV ((m+qX (gM W k1 t1 n1 (bA W gZ) (dW gZ).length fl c i):Nat):Int)),(W:Int),⟨aH nn (cB (gM W k1 t1 n1 (bA W gZ) (dW gZ).length fl c i)),out++gM W k1 t1 n1 (bA W gZ) (dW gZ).length fl c i⟩,())):=by
   unfold CG;simp only;rw[bf,zu om,e];simp only[ae];rw[aG om]
  rw[cY step,e2];have e3:bA W (.cons k1 t1 n1 gZ r) fl c i=gM W k1 t1 n1 (bA W gZ) (dW gZ).length fl c i++bA W r fl (gn c (gM W k1 t1 n1 (bA W gZ) (dW gZ).length fl c i)) i:=rfl;have e4:(bd||HV (.cons k1 t1 n1 gZ r))=((bd||D8 k1 gZ)||HV r):=(Bool.or_assoc bd (D8 k1 gZ) (HV r)).symm;rw[e3,e4,z1f,z9i,z1g,zk,show(F.cons k1 t1 n1 gZ r).size=gZ.size+r.size+1 from rfl,show at_+1+gZ.size+r.size=at_+(gZ.size+r.size+1) by omega,jr m]
end
section
variable {self:qk} {b:Bool} {l:List ND} {W N:Nat}
theorem zl9(hl:l.length<=10000)(hW:W<=1000000)(hp:X6 self b l W N)(q:Nat)(k:Int)(t:Tx)(n:Int)(ks r:F)(i c m:Nat)(fl bd nn:Bool)(out:Tx)(hs:ba l q (.cons k t n ks r))(hk:O3 k t n ks)(hg:ur ks)(hN:ks.size<=N)(hi:i+2*(N+1)<=1000000)(h1:c+j5 t ks i<=2 ^ 50)(h2:m+j5 t ks i<=2 ^ 50)(h3:out.length+j5 t ks i<=2147483648):sH self (⟨b,l⟩,(q:Int),(i:Int),fl,bd,(cV (c:Int),cV (m:Int)),(W:Int),⟨nn,out⟩,())=some (((q+1+ks.size:Nat):Int),bd||D8 k ks,(cV ((gn c (gM W k t n (bA W ks) (dW ks).length fl c i):Nat):Int),cV ((m+qX (gM W k t n (bA W ks) (dW ks).length fl c i):Nat):Int)),(W:Int),⟨aH nn (cB (gM W k t n (bA W ks) (dW ks).length fl c i)),out++gM W k t n (bA W ks) (dW ks).length fl c i⟩,()):=by
 obtain⟨g1,g2,g3,g4⟩:=hs.node;have ho:=ks.eJ;have ht:j5 t ks i=t.length+1+i+ff ks (i+2):=rfl;have hv:=X4 ks (i:=i) (j:=i+2) om;have kids:=fun(fl:Bool) (i':Nat) (hu:i'+2*N<=1000000)=>z1h hl hp (q:Int) k t n (ks.aq:Int) ks.aq i' fl om hu ks (q+1) 0;have hq:bc .i64 (q:Int) 1=((q+1:Nat):Int):=aG om;rw[acg,bJ g1,ae];simp only;rcases hk with ⟨rfl,e0,rfl,hc⟩|⟨rfl,rfl,e0,rfl⟩|⟨rfl,rfl,rfl,e0⟩|⟨rfl,rfl,e0,e1⟩|⟨rfl,rfl,e0⟩
 ·have e:gM W 41 t n (bA W .nil) (dW .nil).length fl c i=t:=zu rfl;have he:=qo8 t c fun b hb e=>by have:=hc b hb;omega
  rw[e,he];rw[uQ 41 41,qsz bd W nn out om om om];simp only[ae];have e2:=kids fl i om (c+t.length) m true (aH nn (cB t)) (out++t) g2 trivial hN (zW _) om (by show _+0<=_;omega) (by rw[zd];show _+0<=_;omega);have e2:aI (CG self) ((i:Int),fl,((q+1:Nat):Int),((0:Nat):Int),0,(q:Int),41,t,n,((0:Nat):Int),⟨b,l⟩,true,(cV ((c+t.length:Nat):Int),cV (m:Int)),(W:Int),⟨aH nn (cB t),out++t⟩,())=_:=e2;have e4:((F.nil.aq:Nat):Int)=((0:Nat):Int):=rfl;simp only[cd];rw[Ms,hq,e4,e2];simp only[ae];have e3:out++t++bA W .nil fl (c+t.length) i=out++t:=zv _;have e6:(bd||D8 41 .nil)=true:=JF _;have e7:aH (aH nn (cB t)) (cB (bA W .nil fl (c+t.length) i))=aH nn (cB t):=ZQ _;rw[e3,e6,e7,qt0 t fun b hb e=>by have:=hc b hb;omega];rfl
 ·have e4:((F.nil.aq:Nat):Int)=((0:Nat):Int):=rfl;have hw:j5 [] F.nil i=0+1+i+0:=rfl;rw[dQ 42 41,uQ 42 42];cases fl with
  |true=>have e:gM W 42 [] n (bA W .nil) (dW .nil).length true c i=[32]:=rfl;have he:gn c [32]=c+1:=rfl;rw[e,he,aM];have hj:=qsz (s:=[32]) bd (c:=c) (m:=m) W nn out (by show c+1<_;omega) om (by show _+1<=_;omega);rw[hj];have e2:=kids true i om (c+1) m true (aH nn (cB [32])) (out++[32]) g2 trivial hN (zW _) om (by show _+0<=_;omega) (by rw[zd];show _+1+0<=_;omega);simp only[cd,ae];rw[Ms,hq,e4];refine jU (jd (fun z=>aw z _) e2) ?_;simp only[ae];have e3:out++[32]++bA W .nil true (c+1) i=out++[32]:=zv _;have e6:(bd||D8 42 .nil)=true:=JF _;have e7:aH (aH nn (cB [32])) (cB (bA W .nil true (c+1) i))=aH nn (cB [32]):=ZQ _;rw[e3,e6,e7];rfl
  |false=>
   have e:gM W 42 [] n (bA W .nil) (dW .nil).length false c i=10::List.replicate i 32:=rfl;have he:gn c (10::List.replicate i 32)=i:=by show gn 0 (List.replicate i 32)=i;rw[qo8 _ _ (fun b hb e=>by rw[List.eq_of_mem_replicate hb] at e;cases e),jp,zW]
   rw[e,he,aJ];have hf:=z9j bd (c:=c) (m:=m) (i:=i) W nn out om om om;rw[hf];have e2:=kids false i om i (m+1) true (aH nn (cB (10::List.replicate i 32))) (out++10::List.replicate i 32) g2 trivial hN (zW _) (by show _+0<=_;omega) (by show _+0<=_;omega) (by rw[zd,zn,jp];show _+0<=_;omega);have e2:aI (CG self) ((i:Int),false,((q+1:Nat):Int),((0:Nat):Int),0,(q:Int),42,[],n,((0:Nat):Int),⟨b,l⟩,true,(cV (i:Int),cV ((m+1:Nat):Int)),(W:Int),⟨aH nn (cB (10::List.replicate i 32)),out++10::List.replicate i 32⟩,())=_:=e2;simp only[cd,ae];rw[Ms,hq,e4,e2];simp only[ae];have e3:(out++10::List.replicate i 32)++bA W .nil false i i=out++10::List.replicate i 32:=zv _;have e6:(bd||D8 42 .nil)=true:=JF _;have e7:aH (aH nn (cB (10::List.replicate i 32))) (cB (bA W .nil false i i))=aH nn (cB (10::List.replicate i 32)):=ZQ _;have e8:qX (10::List.replicate i 32)=1:=by show 1+qX (List.replicate i 32)=1;rw[qt0 _ fun b hb e=>by rw[List.eq_of_mem_replicate hb] at e;cases e]
   rw[e3,e6,e7,e8];rfl
 ·have e:gM W 43 [] 2 (bA W ks) (dW ks).length fl c i=bA W ks fl c (i+2):=rfl;have e2:=kids fl (i+2) om c m bd nn out g2 hg hN (zW _) om om om;have e2:aI (CG self) (((i+2:Nat):Int),fl,((q+1:Nat):Int),(ks.aq:Int),0,(q:Int),43,[],2,(ks.aq:Int),⟨b,l⟩,bd,(cV (c:Int),cV (m:Int)),(W:Int),⟨nn,out⟩,())=_:=e2;rw[Ms,hq,show bc .i64 (i:Int) 2=((i+2:Nat):Int) from by rw[pG om om];omega,e2];simp[ae];rfl
 ·have e:gM W 44 [] n (bA W ks) (dW ks).length fl c i=bA W ks (fl||decide (c+(dW ks).length<=W)) c i:=rfl;have hx:=qo9 ks (i+2);rw[e,dQ 44 41,dQ 44 42,dQ 44 43];have e2:=kids (fl||decide (c+(dW ks).length<=W)) i om c m bd nn out g2 hg hN (zW _) om om om;cases fl with
  |true=>have e2:aI (CG self) ((i:Int),true,((q+1:Nat):Int),(ks.aq:Int),0,(q:Int),44,[],n,(ks.aq:Int),⟨b,l⟩,bd,(cV (c:Int),cV (m:Int)),(W:Int),⟨nn,out⟩,())=_:=e2;rw[aM,Ms,hq,e2];rfl
  |false=>
   rw[Zn];have e2:aI (CG self) ((i:Int),decide (c+(dW ks).length<=W),((q+1:Nat):Int),(ks.aq:Int),0,(q:Int),44,[],n,(ks.aq:Int),⟨b,l⟩,bd,(cV (c:Int),cV (m:Int)),(W:Int),⟨nn,out⟩,())=_:=e2;have hc:bS l (q:Int) ((q+1+ks.size:Nat):Int)=some ((l.take (q+1+ks.size)).drop q):=by unfold bS;rw[zu om,jq,jq]
   have hd:(l.take (q+1+ks.size)).drop q=(tr 44 [] n ks).flat:=by rw[Zq,show q+1+ks.size-q=(tr 44 [] n ks).size by rw[CH];omega];exact hs.first.qM
   have hm:dW (tr 44 [] n ks)=dW ks:=by show(if(44:Int)=41 then [] else if(44:Int)=42 then [32] else dW ks)++[]=_;rw[zj dc,zj dc,zv]
   have hn:=z9m b (tr 44 [] n ks) ⟨.inr (.inr (.inr (.inl ⟨rfl,rfl,e0,e1⟩))),hg,trivial⟩ (by rw[CH];omega) (by rw[hm];omega);rw[hm] at hn;rw[aJ,OK b l hl,hs.ends];simp only[ae];rw[hc];simp[ae];rw[hd,hn];simp only[ae];rw[z9k bd ⟨nn,out⟩ om om];simp only[ae];rw[Ms,hq,e2];rfl
 ·have e:gM W 45 [] n (bA W ks) (dW ks).length fl c i=bA W ks fl c i:=rfl;have e2:=kids fl i om c m bd nn out g2 hg hN (zW _) om om om;have e2:aI (CG self) ((i:Int),fl,((q+1:Nat):Int),(ks.aq:Int),0,(q:Int),45,[],n,(ks.aq:Int),⟨b,l⟩,bd,(cV (c:Int),cV (m:Int)),(W:Int),⟨nn,out⟩,())=_:=e2;rw[dQ 45 41,dQ 45 42,dQ 45 43,dQ 45 44];simp[cd,ae];rw[Ms,hq,e2];rfl
theorem z9n(hl:l.length<=10000)(hW:W<=1000000):∀N:Nat,X6 (dN sH N) b l W N
 |0=>fun _ _ _ _ _ _ _ _ _ _ _ _ _ _ _ _ h=>absurd h (ZA _)
 |N+1=>by have ih:=z9n hl hW N;intro q k t n ks r i c m fl bd nn out hs hk hc hN hi h1 h2 h3;have he:X6 (dN sH N) b l W ks.size:=fun q' k' t' n' cm r' i' c' m' TA bd' nn' ac1 a1 a2 a3 a4=>ih q' k' t' n' cm r' i' c' m' TA bd' nn' ac1 a1 a2 a3 om;exact zl9 hl hW he q k t n ks r i c m fl bd nn out hs hk hc (zm _) hi h1 h2 h3
theorem zev(hl:l.length<=10000)(hW:W<=1000000){ks r:F}(i c m:Nat)(fl bd nn:Bool)(out:Tx)(hs:ba l q (.cons k t n ks r))(hk:O3 k t n ks)(hc:ur ks)(hi:i+2*(ks.size+1)<=1000000)(h1:c+j5 t ks i<=2 ^ 50)(h2:m+j5 t ks i<=2 ^ 50)(h3:out.length+j5 t ks i<=2147483648):Fq (⟨b,l⟩,(q:Int),(i:Int),fl,bd,(cV (c:Int),cV (m:Int)),(W:Int),⟨nn,out⟩,())=some (((q+1+ks.size:Nat):Int),bd||D8 k ks,(cV ((gn c (gM W k t n (bA W ks) (dW ks).length fl c i):Nat):Int),cV ((m+qX (gM W k t n (bA W ks) (dW ks).length fl c i):Nat):Int)),(W:Int),⟨aH nn (cB (gM W k t n (bA W ks) (dW ks).length fl c i)),out++gM W k t n (bA W ks) (dW ks).length fl c i⟩,()):=by exact IV (ks.size+1) fun N hN=>z9n hl hW N q k t n ks r i c m fl bd nn out hs hk hc hN hi h1 h2 h3
end
def okX(x:ND):Prop:=(x.1=41/\x.2.2.1=0/\x.2.2.2=0/\∀c,c∈x.2.1->32<=c/\c<=126)\/(x.1=42/\x.2.1=[]/\x.2.2.1=0/\x.2.2.2=0)\/(x.1=43/\x.2.1=[]/\x.2.2.1=2/\x.2.2.2=1)\/(x.1=44/\x.2.1=[]/\x.2.2.1=0/\x.2.2.2=1)\/(x.1=45/\x.2.1=[]/\x.2.2.1=0)
theorem ur.ok:∀{f:F},ur f->∀x,x∈f.flat->okX x
 |.nil,_,_,h=>by cases h
 |.cons k t n ks r,⟨hk,hc,hr⟩,x,hx=>by
  rcases zA.1 hx with rfl|hx
  ·rcases hk with ⟨h,a,e,c⟩|⟨h,a,c,e⟩|⟨h,a,c,e⟩|⟨h,a,c,e⟩|⟨h,a,c⟩
   ·subst e;exact .inl ⟨h,a,rfl,c⟩
   ·subst e;exact .inr (.inl ⟨h,a,c,rfl⟩)
   ·exact .inr (.inr (.inl ⟨h,a,c,jd Int.ofNat e⟩))
   ·exact .inr (.inr (.inr (.inl ⟨h,a,c,jd Int.ofNat e⟩)))
   ·exact .inr (.inr (.inr (.inr ⟨h,a,c⟩)))
  ·exact(zD.1 hx).elim (hc.ok x) (hr.ok x)
theorem qyd(ht:∀c,c∈t->32<=c/\c<=126)(_hl:t.length<=1000000):∀(m k:Nat),k+m=t.length->aI pQ (true,t,(k:Int),())=some (-1,()):=by
 intro m
 induction m with
 |zero=>intro k hk;refine bG ?_;rw[q7t];simp only;rw[show aa t=((t.length:Nat):Int) from rfl,bf,zj om]
 |succ m ih=>
  intro k hk;have he:k<t.length:=om
  have hc:=ht t[k] (jx he);have⟨h1,h2⟩:=(SS (fun b hb=>by have:=ht b hb;omega) he).1 om;have step:pQ (true,t,(k:Int),())=some (.inl (true,t,((k+1:Nat):Int),())):=by rw[q7t];have e:aZ (k:Int) (aa t)=true:=zw (show(k:Int)<((t.length:Nat):Int) by omega);rw[e,aM,aM,ae,aM,ae,h1,h2,ab4,bf,zj om,ae,ae,show aZ 126 t[k]=false from zt om];rfl
  rw[cY step];exact ih (k+1) om
theorem qoa(ht:∀c,c∈t->32<=c/\c<=126)(hl:t.length<=1000000):yG (t,())=some (false,()):=by have h:aI pQ (true,t,0,())=some (-1,()):=qyd ht hl t.length 0 (zW _);rw[ab7,ab6,ab5,h];rfl
theorem qye(h:okX x)(hl:x.2.1.length<=1000000):yH (x,())=some (true,()):=by
 have⟨k,t,n,c⟩:=x;rw[ab8];have hc:yG ([],())=some (false,()):=qoa nofun dc
 rcases h with ⟨h1,h2,h3,h4⟩|⟨h1,h2,h3,h4⟩|⟨h1,h2,h3,h4⟩|⟨h1,h2,h3,h4⟩|⟨h1,h2,h3⟩
 ·have h1:=h1;subst h1;subst h2;subst h3;have e:=qoa h4 hl;rw[uQ 41 41];simp[ae,cd];rw[e];rfl
 ·have h1:=h1;subst h1;subst h2;subst h3;subst h4;rw[dQ 42 41,uQ 42 42];simp only[ae,cd];rw[hc];rfl
 ·have h1:=h1;subst h1;subst h2;subst h3;subst h4;rw[dQ 43 41,dQ 43 42,uQ 43 43,show cD 0 2=true from rfl,aM];simp[ae,cd];rw[hc];rfl
 ·have h1:k=44:=h1;subst h1;subst h2;subst h3;subst h4;rw[dQ 44 41,dQ 44 42,dQ 44 43,uQ 44 44];simp[ae,cd];rw[hc];rfl
 ·have h1:=h1;subst h1;subst h2;subst h3;rw[dQ 45 41,dQ 45 42,dQ 45 43,dQ 45 44,uQ 45 45];simp[ae,cd];rw[hc];rw[mo];rfl
theorem qyf(b:Bool){ks:F}(hr:ur (tr k t n ks))(hs:ks.size+1<=4000)(ht:TL 1000000 (tr k t n ks).flat):Co (⟨b,(tr k t n ks).flat⟩,())=some (0,()):=by
 have he:(tr k t n ks).flat.length=ks.size+1:=(tr k t n ks).len;have loop:∀(m j:Nat),j+m=(tr k t n ks).flat.length->aI tI (⟨b,(tr k t n ks).flat⟩,aa (tr k t n ks).flat,(j:Int),())=some (0,()):=by
  generalize hL:(tr k t n ks).flat=L at*
  intro m
  induction m with
  |zero=>intro j hj;refine bG ?_;rw[qd8];simp only;rw[show aa L=((L.length:Nat):Int) from rfl,bf,zj om]
  |succ m ih=>
   intro j hj;have hc:j<L.length:=om
   have hm:=jx hc;have e:=qye (x:=L[j]) (hr.ok _ (by rw[hL];exact hm)) (ht _ hm);have step:tI (⟨b,L⟩,aa L,(j:Int),())=some (.inl (⟨b,L⟩,aa L,((j+1:Nat):Int),())):=by rw[qd8];simp only;rw[show aa L=((L.length:Nat):Int) from rfl,bf,zu om,bJ (zh hc),ae];rw[e,ae];show aL false _ _=_;rw[aJ,aG om]
   rw[cY step];exact ih (j+1) om
 rw[SC,SX b _ om,(Xa _).2 ⟨k,t,n,ks,rfl⟩];have c0:aZ 4000 (aa (tr k t n ks).flat)=false:=zt (by unfold aa;omega);rw[c0];exact loop _ 0 (zW _)
theorem z4l(b:Bool){ks:F}(hr:ur (tr k t n ks))(hs:ks.size+1<=4000)(ht:TL 1000000 (tr k t n ks).flat)(hv:j5 t ks 0<=2147483648):Cr (⟨b,(tr k t n ks).flat⟩,())=some (dW (tr k t n ks),0,()):=by have hc:=zev (b:=b) (l:=(tr k t n ks).flat) (W:=0) (by rw[(tr k t n ks).len,CH];omega) om (q:=0) 0 0 0 true false true [] (S1 k t n ks) hr.1 hr.2.1 om om om (by show 0+_<=_;omega);have e0:cV ((0:Nat):Int)=0:=uo;have hc:Fq (⟨b,(tr k t n ks).flat⟩,0,0,true,false,(0,0),0,⟨true,[]⟩,())=_:=hc;rw[SD,qyf b hr hs ht,ae];show aL false _ _=_;rw[aJ,hc];have e:bA 0 (tr k t n ks) true 0 0=gM 0 k t n (bA 0 ks) (dW ks).length true 0 0:=zv _;rw[TB] at e;rw[e];rfl
def pc(s:Tx):Prop:=∀c,c∈s->32<=c/\c<=126
theorem uu{a b:Tx}(h1:pc a)(h2:pc b):pc (a++b):=fun c hc=>(zD.1 hc).elim (h1 c) (h2 c)
theorem C2:pc []:=nofun
theorem A9{s:Tx}(h:32<=c/\c<=126)(hs:pc s):pc (c::s):=fun x hx=>by
 rcases zA.1 hx with rfl|hx
 ·exact h
 ·exact hs x hx
theorem oC{s:Tx}(h:s.all (fun c=>decide (32<=c)&&decide (c<=126))=true):pc s:=fun c hc=>by grind
theorem zla{s:Tx}(h:bX s=true):pc s:=fun c hc=>by unfold bX qH at h;simp only[ze] at h;have:=zZ (ju.1 h.1.2 c hc);unfold qG at this;simp[List.mem_cons,List.not_mem_nil,or_false] at this;omega
theorem zew(h:fy c=true):32<=c/\c<=126:=by
 unfold fy DR w9 SU at h;simp[Bool.or_eq_true,Bool.and_eq_true] at h;rcases h with (((h|h)|h)|h)|h
 ·have h1:=zZ h.1;have h2:=zZ h.2;omega
 ·have h1:=zZ h.1;have h2:=zZ h.2;omega
 ·have h1:=zZ h.1;have h2:=zZ h.2;omega
 ·have:=cQ.1 h;omega
 ·have:=cQ.1 h;omega
theorem X7{p:Int->Bool}{s:Tx}(h:AS p s=true):pc s:=fun c hc=>by unfold AS at h;simp only[ze] at h;exact zew (ju.1 h.1.1.1 c hc)
theorem TE{s:Tx}(h:aS s=true):pc s:=by
 rcases jk _ _▸h with h|h
 ·exact X7 h
 ·exact zla h
theorem qt2{s:Tx}(h:pc s):pc (iG s):=by
 unfold iG;cases bX s with
 |false=>exact h
 |true=>exact uu (uu (oC rfl) h) (oC rfl)
theorem qyg:∀(m n:Nat),pc (dO m n)
 |0,_=>C2
 |m+1,n=>by
  unfold dO;split
  ·exact A9 om C2
  ·exact uu (qyg m (n / 10)) (A9 om C2)
theorem z9o:∀{s:Tx},pc s->pc (kr s)
 |[],_=>C2
 |b::l,h=>by
  have hl:pc l:=fun c hc=>h c (zf _ hc);have hb:=h b (zg ..);unfold kr;split
  ·exact A9 dc hl
  ·exact A9 hb (z9o hl)
theorem zhf(n:Int):pc (fC n):=by
 unfold fC o4;refine z9o ?_;split
 ·exact A9 dc (qyg _ _)
 ·exact qyg _ _
theorem z9p(h:0<=n/\n<16):32<=il n/\il n<=126:=by unfold il;split<;>omega
theorem zlb(h:0<=c/\c<=255):pc (eW c):=by
 unfold eW;split
 ·rename_i e;exact A9 dc (A9 om C2)
 split
 ·exact oC rfl
 split
 ·exact A9 dc (A9 dc (A9 (z9p om) (A9 (z9p om) C2)))
 ·exact A9 om C2
theorem zex(c:Int):(eW c).length<=4:=by
 unfold eW
 grind
theorem z9q:∀{s:Tx},(∀b,b∈s->0<=b/\b<=255)->pc (s.flatMap eW)
 |[],_=>C2
 |b::l,h=>by exact uu (zlb (h b (zg ..))) (z9q fun c hc=>h c (zf _ hc))
theorem zo8{s:Tx}(h:∀b,b∈s->0<=b/\b<=255):pc (vV s):=uu (uu (oC rfl) (z9q h)) (oC rfl)
theorem z1i:∀s:Tx,(s.flatMap eW).length<=4*s.length
 |[]=>zm _
 |b::l=>by
  have:=z1i l;have:=zex b
  grind
theorem zlc(s:Tx):(vV s).length<=4*s.length+2:=by
 have:=z1i s;show([34]++s.flatMap eW++[34]).length<=_
 grind
def wz:F->Nat
 |.nil=>0
 |.cons _ t _ ks r=>4*t.length+30+wz ks+wz r
theorem qoc:∀f:F,(vW (bK f)).length<=wz f
 |.nil=>zC _
 |.cons k t n ks r=>by have h1:=qoc ks;have h2:=qoc r;have h4:=XU k t n (bK ks);have h5:=qsv k ks.aq (cF k t n (bK ks));have e:vW (bK (.cons k t n ks r))=([32]++gY k ks.aq (cF k t n (bK ks)))++vW (bK r):=jM;rw[e,zd,zd];show 1+_+_<=4*t.length+30+wz ks+wz r;omega
theorem z4m(k:Int)(t:Tx)(n:Int)(ks:F):(cF k t n (bK ks)).length+9<=4*t.length+30+wz ks:=by have h1:=qoc ks;have h4:=XU k t n (bK ks);omega
def xx(S:Tx->Prop):F->Prop
 |.nil=>True
 |.cons k t n ks r=>(O3 k t n ks/\(k=41->S t))/\xx S ks/\xx S r
theorem xx.rd{S:Tx->Prop}:∀{f:F},xx S f->ur f
 |.nil,_=>trivial
 |.cons _ _ _ _ _,⟨⟨h,_⟩,h2,h3⟩=>⟨h,h2.rd,h3.rd⟩
theorem xx.app{S:Tx->Prop}:∀{f g:F},xx S f->xx S g->xx S (f.app g)
 |.nil,_,_,h=>h
 |.cons _ _ _ _ _,_,⟨h1,h2,h3⟩,h=>⟨h1,h2,h3.app h⟩
def ct(S:Tx->Prop)(d:F):Prop:=xx S d/\d.aq=1
theorem ct.cat{S:Tx->Prop}:∀{l:List F},(∀d,d∈l->ct S d)->xx S (bH l)
 |[],_=>trivial
 |_::_,h=>(h _ (zg ..)).1.app (ct.cat fun x hx=>h x (zf _ hx))
def fW(S:Tx->Prop)(l:List F):Prop:=∀d,d∈l->ct S d
theorem fW.nil{S:Tx->Prop}:fW S []:=nofun
theorem fW.cons{S:Tx->Prop}{d:F}{l:List F}(h:ct S d)(hl:fW S l):fW S (d::l):=fun x hx=>by
 rcases zA.1 hx with rfl|hx
 ·exact h
 ·exact hl x hx
theorem fW.app{S:Tx->Prop}{a b:List F}(h:fW S a)(g:fW S b):fW S (a++b):=fun x hx=>(zD.1 hx).elim (h x) (g x)
section
variable {S:Tx→Prop}
theorem ct.tx{s:Tx}(h:S s)(hp:pc s):ct S (ch s):=⟨⟨⟨.inl ⟨rfl,rfl,rfl,hp⟩,fun _=>h⟩,trivial,trivial⟩,rfl⟩
theorem ct.ln:ct S cI:=⟨⟨⟨.inr (.inl ⟨rfl,rfl,rfl,rfl⟩),fun h=>absurd h dc⟩,trivial,trivial⟩,rfl⟩
theorem ct.MS{l:List F}(h:fW S l):ct S (CV l):=⟨⟨⟨.inr (.inr (.inr (.inr ⟨rfl,rfl,rfl⟩))),fun h=>absurd h dc⟩,ct.cat h,trivial⟩,rfl⟩
theorem ct.some{l:List F}(h:fW S l):ct S (CW l):=by
 match l,h with
 |[],h=>exact ct.MS h
 |[d],h=>exact h d (zg ..)
 |_::_::_,h=>exact ct.MS h
theorem ct.nest{l:List F}(h:fW S l):ct S (nC l):=⟨⟨⟨.inr (.inr (.inl ⟨rfl,rfl,rfl,(ct.some h).2⟩)),fun h=>absurd h dc⟩,(ct.some h).1,trivial⟩,rfl⟩
theorem ct.qY{l:List F}(h:fW S l):ct S (gi l):=⟨⟨⟨.inr (.inr (.inr (.inl ⟨rfl,rfl,rfl,(ct.some h).2⟩))),fun h=>absurd h dc⟩,(ct.some h).1,trivial⟩,rfl⟩
theorem ct.nD{d:F}(h:ct S d):ct S (cf d):=ct.nest (.cons ct.ln (.cons h .nil))
theorem ct.brk(hS:S [40]/\S [41])(b:Bool){d:F}(h:ct S d):ct S (pA b d):=by
 cases b with
 |false=>exact h
 |true=>exact ct.MS (.cons (ct.tx hS.1 (oC rfl)) (.cons h (.cons (ct.tx hS.2 (oC rfl)) .nil)))
end
structure C3 (S:Tx->Prop) (l:List ND) (fx:List af) (Z:Nat):Prop where
 small:∀s,pc s->s.length<=12->S s
 name:∀x,x∈l->pc x.2.1->∀p q:Tx,pc p->pc q->p.length<=12->q.length<=12->S (p++iG x.2.1++q)
 con:∀x,x∈l->pc x.2.1->S x.2.1
 quo:∀x,x∈l->S (vV x.2.1)
 num:∀n,S (fC n)
 op:∀f,f∈fx->S (f.1++[32])
 pat:∀k t n ks,4*t.length+30+wz ks<=Z->pc (cF k t n (bK ks))->S (cF k t n (bK ks)++[32,45,62])/\S ([124,32]++(cF k t n (bK ks)++[32,45,62]))
structure DcG (S:Tx->Prop) (x:Dc):Prop where
 p:ct S x.p.doc
 hd:ct S x.hd.doc
 args:fW S x.args
def DcB(S:Tx->Prop)(k:Int)(x:Dc):Prop:=DcG S x/\(k=6->ct S x.b.doc)
def X8(S:Tx->Prop)(fx:List af):Bool->Bool->F->Prop
 |_,_,.nil=>True
 |m,eh,.cons k t n ks r=>(((m&&eh)=false->DcB S k (dT fx k t n ks))/\((m&&eh)=true->S ((dT fx k t n ks).pt++[32,45,62])/\S ([124,32]++((dT fx k t n ks).pt++[32,45,62]))/\pc (dT fx k t n ks).pt))/\X8 S fx m (!eh) r
theorem qyh:∀(f:F) {m eh:Bool},fc m true eh f=0->pc (vW (bK f))
 |.nil,_,_,_=>C2
 |.cons k t n ks r,m,eh,h=>by
  have⟨h1,h2⟩:=cK.1 h;have⟨hn,hf⟩:=bE.1 h1;have⟨_,hp,_,_,hc,_⟩:=bC.1 hn;have kq:=qyh ks hf;have kC:=qyh r h2;have e:vW (bK (.cons k t n ks r))=([32]++gY k ks.aq (cF k t n (bK ks)))++vW (bK r):=jM;have hT:pc (cF k t n (bK ks)):=by
   unfold cF;split
   ·exact oC rfl
   split
   ·rename_i he;subst he;have:aS t=true:=by
     unfold uJ at hc;cases h:aS t with
     |true=>rfl
     |false=>rw[h] at hc;simp[lY,ah,ai] at hc
    exact qt2 (TE this)
   split
   ·exact zhf n
   ·rename_i hj he hk;have hg:k=24:=by
     have h1:cD 21 k=true:=by unfold ku at hp;cases h:cD 21 k with|true=>rfl|false=>rw[h] at hp;cases hp
     have h2:cD k 24=true:=by unfold ku at hp;cases h:cD k 24 with|true=>rfl|false=>rw[h,Bool.and_false] at hp;cases hp
     have h1:=zZ h1;have h2:=zZ h2;omega
    subst hg;have:fb t=true:=by
     unfold uJ at hc;cases h:fb t with
     |true=>rfl
     |false=>rw[h] at hc;simp[lY,ah,ai] at hc
    exact uu (X7 this) kq
  refine uu (uu (oC rfl) ?_) kC;unfold gY;split
  ·exact uu (uu (oC rfl) hT) (oC rfl)
  ·exact hT
theorem zld{ks:F}(h:bO k t n ks true=0):pc (cF k t n (bK ks)):=by
 have h':fc false true false (tr k t n ks)=0:=cK.2 ⟨h,rfl⟩;have:=qyh (tr k t n ks) h';have e:vW (bK (tr k t n ks))=([32]++gY k ks.aq (cF k t n (bK ks)))++[]:=jM;intro c hc;refine this c (zN _ (zG _ ?_));unfold gY
 grind
section
variable {S:Tx→Prop} {l:List ND} {fx:List af} {Z:Nat}
theorem D9(hk:k=3\/k=5\/k=7\/k=8\/k=12)(h:uJ k t=true):aS t=true:=by
 unfold uJ at h;cases hn:aS t with
 |true=>rfl
 |false=>rw[hn] at h;rcases hk with rfl|rfl|rfl|rfl|rfl<;>simp[lY,ah,ai] at h
theorem zhg(h:uJ 4 t=true):fb t=true:=by
 unfold uJ at h;cases hn:fb t with
 |true=>rfl
 |false=>rw[hn] at h;simp[lY,ah,ai] at h
theorem z9r(hS:C3 S l fx Z):∀(N:Nat) (r:F),r.size<=N->X8 S fx true true r->fW S (pT (dF fx r))
 |_,.nil,_,_=>fW.nil
 |_,.cons k t n ks .nil,_,_=>fW.nil
 |0,.cons k t n ks (.cons k' t' n' cm r),h,_=>by have h:ks.size+(cm.size+r.size+1)+1<=0:=h;omega
 |N+1,.cons k t n ks (.cons k' t' n' cm r),h,hs=>by have h:ks.size+(cm.size+r.size+1)+1<=N+1:=h;have⟨⟨_,h1⟩,⟨h2,_⟩,h3⟩:=hs;have⟨_,h1,hc⟩:=h1 rfl;have h2:=(h2 rfl).1.p;have ih:=z9r hS N r om h3;exact fW.app (.cons ct.ln (.cons (ct.tx h1 (uu (oC rfl) (uu hc (oC rfl)))) (.cons (ct.nD h2) .nil))) ih
theorem zhh(hS:C3 S l fx Z)(hB:∀f,f∈fx->bX f.1=true){ks:F}(hv:bO k t n ks false=0)(hg:GL l)(hm:∀x,x∈(tr k t n ks).flat->x∈l)(hs:X8 S fx (ah k 10) false ks):DcB S k (dT fx k t n ks):=by
 have⟨hn,hf⟩:=bE.1 hv;have⟨hC,hD,hk,_,hq,_⟩:=bC.1 hn;have⟨c1,c2,c3,sF,c0⟩:=AU hk;have hx:=hm _ (by rw[yW];exact zg ..);have kw:∀s:Tx,s.length<=12->s.all (fun c=>decide (32<=c)&&decide (c<=126))=true->ct S (ch s):=fun s h1 h2=>ct.tx (hS.small s (oC h2) h1) (oC h2);have ht:S [40]/\S [41]:=⟨hS.small _ (oC rfl) dc,hS.small _ (oC rfl) dc⟩;have nm:∀p q:Tx,aS t=true->p.length<=12->q.length<=12->p.all (fun c=>decide (32<=c)&&decide (c<=126))=true->q.all (fun c=>decide (32<=c)&&decide (c<=126))=true->ct S (ch (p++iG t++q)):=fun p q h1 h2 h3 h4 h5=>ct.tx (hS.name _ hx (TE h1) p q (oC h4) (oC h5) h2 h3) (uu (uu (oC h4) (qt2 (TE h1))) (oC h5));by_cases h6:k=6
 ·subst h6;obtain⟨a,b,c,d,r,rfl,hr⟩:=gO (ks:=ks) (n:=1) om;obtain⟨a',b',c',d',r',rfl,hu⟩:=gO (n:=0) hr;obtain rfl:=A6 hu;have⟨⟨s1,_⟩,⟨s2,_⟩,_⟩:=hs;have⟨s1,s1b⟩:=s1 rfl;have⟨s2,_⟩:=s2 rfl;have e0:cJ (dF fx (.cons a b c d (.cons a' b' c' d' .nil))) 0=dT fx a b c d:=rfl;have e1:cJ (dF fx (.cons a b c d (.cons a' b' c' d' .nil))) 1=dT fx a' b' c' d':=rfl;have he:ct S (fe fx 6 t n (.cons a b c d (.cons a' b' c' d' .nil)) (dF fx (.cons a b c d (.cons a' b' c' d' .nil)))):=by
   unfold fe;cases hj:rowOf fx 6 (.cons a b c d (.cons a' b' c' d' .nil)) with
   |none=>exact ct.qY (.cons (ct.brk ht _ s1.hd) (.cons (ct.nest (s1.args.app (.cons ct.ln (.cons (ct.brk ht _ s2.p) .nil)))) .nil))
   |some f=>
    have ha:=zF fun h=>by rw[XY fx h] at hj;cases hj
    subst ha;have hy:f∈fx:=by
     match d,hj with
     |.nil,h=>cases h
     |.cons a1 s1 c1 d1 rr,h=>
      have h:(if(6:Int)=6/\(6:Int)=6/\a1=3 then lZ fx s1 else none)=some f:=h;by_cases h3:a1=3
      ·rw[zu ⟨rfl,rfl,h3⟩] at h;exact(Hu h).1
      grind
    exact ct.qY (.cons (ct.brk ht _ (s1b rfl)) (.cons (ct.nest (.cons ct.ln (.cons (ct.tx (hS.op f hy) (uu (zla (hB f hy)) (oC rfl))) (.cons (ct.brk ht _ s2.p) .nil)))) .nil))
  refine⟨⟨he,?_,?_⟩,fun _=>?_⟩
  ·unfold dT vX;by_cases hl:dX fx 6 (.cons a b c d (.cons a' b' c' d' .nil))=1
   ·show ct S (if _ then _ else _:Pt).doc;rw[zu hl];exact s1.hd
   ·show ct S (if _ then _ else _:Pt).doc;rw[zj hl];exact he
  ·unfold dT vX;show fW S (if _ then _ else _);by_cases hl:dX fx 6 (.cons a b c d (.cons a' b' c' d' .nil))=1
   ·rw[zu hl,e0];exact s1.args.app (.cons ct.ln (.cons (ct.brk ht _ s2.p) .nil))
   ·rw[zj hl];exact fW.nil
  ·exact s2.p
 ·have hw:dT fx k t n ks=⟨qV fx k t n ks (dF fx ks),pz,qV fx k t n ks (dF fx ks),[],cF k t n (bK ks)⟩:=z19 fx t n ks _ h6;rw[hw];have he:ct S (fe fx k t n ks (dF fx ks)):=by
   by_cases ho:mT k=true
   ·rw[XN fx t n ks _ ho];have rA:ah k 10=false:=by rcases A7 ho with h|h|h|h|h|h<;>subst h<;>rfl
    rw[rA] at hs;by_cases hA:k=5\/k=11
    ·obtain⟨a,b,c,d,rfl⟩:=XK (c1 hA);have⟨⟨s1,_⟩,_⟩:=hs;have s1:=(s1 rfl).1.p;rcases hA with rfl|rfl
     ·exact ct.qY (.cons (nm [102,117,110,32] [32,45,62] (D9 (.inr (.inl rfl)) hq) dc dc rfl rfl) (.cons (ct.nD s1) .nil))
     ·exact ct.qY (.cons (kw Pz.dA dc rfl) (.cons (ct.nD s1) .nil))
    by_cases h9:k=9
    ·subst h9;obtain⟨a,b,c,d,r,rfl,hr⟩:=gO (ks:=ks) (n:=2) om;obtain⟨a',b',c',d',r',rfl,hu⟩:=gO (n:=1) hr;obtain⟨a2,b2,lh,d2,r2,rfl,hE⟩:=gO (n:=0) hu;have⟨⟨s1,_⟩,⟨s2,_⟩,⟨s3,_⟩,_⟩:=hs;have s1:=(s1 rfl).1.p;have s2:=(s2 rfl).1.p;have s3:=(s3 rfl).1.p;exact ct.qY (.cons (kw Pz.rC dc rfl) (.cons (ct.nD s1) (.cons ct.ln (.cons (kw Pz.iY dc rfl) (.cons (ct.nD s2) (.cons ct.ln (.cons (kw Pz.iZ dc rfl) (.cons (ct.nD s3) .nil))))))))
    have h2:k=6\/k=7\/k=8\/k=12:=by
     rcases A7 ho with h|h|h|h|h|h
     ·exact absurd (.inl h) hA
     ·exact .inr (.inl h)
     ·exact .inr (.inr (.inl h))
     ·exact absurd h h9
     ·exact absurd (.inr h) hA
     ·exact .inr (.inr (.inr h))
    obtain⟨a,b,c,d,r,rfl,hr⟩:=gO (ks:=ks) (n:=1) om;obtain⟨a',b',c',d',r',rfl,hu⟩:=gO (n:=0) hr;have⟨⟨s1,_⟩,⟨s2,_⟩,_⟩:=hs;have s1:=(s1 rfl).1.p;have s2:=(s2 rfl).1.p;rcases h2 with rfl|rfl|rfl|rfl
    ·exact absurd rfl h6
    ·exact ct.qY (.cons (nm [108,101,116,32] [32,61] (D9 (.inr (.inr (.inl rfl))) hq) dc dc rfl rfl) (.cons (ct.nD s1) (.cons ct.ln (.cons (kw [105,110] dc rfl) (.cons ct.ln (.cons s2 .nil))))))
    ·exact ct.qY (.cons (nm [108,101,116,32,114,101,99,32] [32,61] (D9 (.inr (.inr (.inr (.inl rfl)))) hq) dc dc rfl rfl) (.cons (ct.nD s1) (.cons ct.ln (.cons (kw [105,110] dc rfl) (.cons ct.ln (.cons s2 .nil))))))
    ·exact ct.qY (.cons (kw Pz.kv dc rfl) (.cons (ct.nD s1) (.cons ct.ln (.cons (nm [119,105,116,104,32] [32,45,62] (D9 (.inr (.inr (.inr (.inr rfl)))) hq) dc dc rfl rfl) (.cons (ct.nD s2) .nil)))))
   ·unfold fe;by_cases g1:k=1
    ·rw[zu g1];exact ct.tx (hS.num n) (zhf n)
    by_cases g2:k=2
    ·rw[zj g1,zu g2];exact ct.tx (hS.quo _ hx) (zo8 (hg _ hx).1)
    by_cases g3:k=3
    ·rw[zj g1,zj g2,zu g3];have hz:=D9 (.inl g3) hq;have:=hS.name _ hx (TE hz) [] [] C2 C2 dc dc;rw[zv] at this;exact ct.tx this (qt2 (TE hz))
    rw[zj g1,zj g2,zj g3];by_cases g10:k=10
    ·subst g10;have⟨sF,Lk⟩:=sF rfl;obtain⟨a,b,c,d,r,rfl,hr⟩:=gO (ks:=ks) (n:=ks.aq-1) om;obtain⟨a',b',c',d',r',rfl,hu⟩:=gO (ks:=r) (n:=r.aq-1) om;obtain⟨a2,b2,lh,d2,r2,rfl,hE⟩:=gO (ks:=r') (n:=r'.aq-1) om;have⟨⟨s1,_⟩,⟨_,s2⟩,⟨s3,_⟩,s4⟩:=hs;have s1:=(s1 rfl).1.p;have⟨s2,_,s2p⟩:=s2 rfl;have s3:=(s3 rfl).1.p;have s5:=z9r hS r2.size r2 (zm _) s4;exact ct.qY (fW.app (.cons (kw Pz.dB dc rfl) (.cons (ct.nD s1) (.cons ct.ln (.cons (kw Pz.eH dc rfl) .nil)))) (fW.app (.cons (ct.nest (.cons ct.ln (.cons (ct.tx s2 (uu s2p (oC rfl))) (.cons (ct.nD s3) .nil)))) .nil) (s5.app (.cons ct.ln (.cons (kw Pz.gI dc rfl) .nil)))))
    have k4:=zo7 k hC hD (by cases h:mT k with|true=>exact absurd h ho|false=>rfl) (cZ g1) (cZ g2) (cZ g3) (cZ h6) (cZ g10);subst k4;have hc:=X7 (zhg hq);exact ct.tx (hS.con _ hx hc) hc
  exact⟨⟨he,he,fW.nil⟩,fun e=>absurd e h6⟩
theorem rsF(hS:C3 S l fx Z)(hc:∀f,f∈fx->bX f.1=true)(hg:GL l):∀(f:F) (m eh:Bool),fc m false eh f=0->(∀x,x∈f.flat->x∈l)->wz f<=Z->X8 S fx m eh f
 |.nil,_,_,_,_,_=>trivial
 |.cons k t n ks r,m,eh,h,hm,hz=>by
  have hz:4*t.length+30+wz ks+wz r<=Z:=hz;have⟨h1,h2⟩:=cK.1 h;have he:∀x,x∈(tr k t n ks).flat->x∈l:=fun x hx=>hm x (by
   rw[yW] at hx;rcases zA.1 hx with rfl|hx
   ·exact zg ..
   ·exact zf _ (zN _ hx))
  refine⟨⟨fun hf=>?_,fun hj=>?_⟩,rsF hS hc hg r m (!eh) h2 (fun x hx=>hm x (zf _ (zG _ hx))) om⟩
  ·rw[hf] at h1;exact zhh hS hc h1 hg he (rsF hS hc hg ks (ah k 10) false (bE.1 h1).2 (fun x hx=>hm x (zf _ (zN _ hx))) om)
  ·rw[hj] at h1;have hp:=zld h1;have⟨a,b⟩:=hS.pat k t n ks om hp;exact⟨a,b,hp⟩
theorem zo9(hS:C3 S l fx Z)(hc:∀f,f∈fx->bX f.1=true)(hg:GL l){ks:F}(hv:bO k t n ks false=0)(hm:∀x,x∈(tr k t n ks).flat->x∈l)(hz:wz ks<=Z):ct S (dT fx k t n ks).p.doc:=(zhh hS hc hv hg hm (rsF hS hc hg ks _ _ (bE.1 hv).2 (fun x hx=>hm x (by rw[yW];exact zf _ hx)) om)).1.p
end
theorem zey{M Z:Nat}(ht:TL M l)(hf:∀f,f∈fx->f.1.length<=700):C3 (fun s=>s.length<=Z+4*M+800) l fx Z where
 small:=fun s _ h=>by omega
 name:=fun x hx _ p q _ _ hp hq=>by
  have:=ht x hx;have:=XT x.2.1
  grind
 con:=fun x hx _=>by have:=ht x hx;omega
 quo:=fun x hx=>by
  have:=ht x hx;have:=zlc x.2.1
  grind
 num:=fun n=>by have:=z1c n;omega
 op:=fun f h=>by
  have:=hf f h
  grind
 pat:=fun k t n ks hz _=>by
  have h:=z4m k t n ks
  grind
theorem z9s{B:Nat}:∀(f:F) (i:Nat),xx (fun s=>s.length<=B) f->ff f i<=f.size*(B+1+i+2*f.size)
 |.nil,_,_=>zC _
 |.cons k t n ks r,i,⟨⟨hk,hs⟩,h1,h2⟩=>by
  have i1:=z9s ks (i+2) h1;have i2:=z9s r i h2;have ht:t.length<=B:=by
   rcases hk with h|h|h|h|h
   all_goals grind
  have e:(F.cons k t n ks r).size=ks.size+r.size+1:=rfl;have m1:ks.size*(B+1+(i+2)+2*ks.size)<=ks.size*(B+1+i+2*(ks.size+r.size+1)):=Jp _ om;have m2:r.size*(B+1+i+2*r.size)<=r.size*(B+1+i+2*(ks.size+r.size+1)):=Jp _ om;have m3:(ks.size+r.size+1)*(B+1+i+2*(ks.size+r.size+1))=ks.size*(B+1+i+2*(ks.size+r.size+1))+r.size*(B+1+i+2*(ks.size+r.size+1))+(B+1+i+2*(ks.size+r.size+1)):=by grind
  show t.length+1+i+ff ks (i+2)+ff r i<=(F.cons k t n ks r).size*(B+1+i+2*(F.cons k t n ks r).size);rw[e,m3];omega
theorem TF(h:cT fx=0):∀f,f∈fx->iu f=true:=by
 unfold cT at h
 grind
theorem qqt(h:cT fx=0):∀f,f∈fx->bX f.1=true:=fun f hf=>by
 have:=TF h f hf;unfold iu at this
 grind
theorem xx.tl{B:Nat}:∀{f:F},xx (fun s=>s.length<=B) f->TL B f.flat
 |.nil,_,_,h=>by cases h
 |.cons k t n ks r,⟨⟨hk,hs⟩,h1,h2⟩,x,hx=>by
  have hx:x∈(k,t,n,(ks.aq:Int))::(ks.flat++r.flat):=hx;rcases zA.1 hx with rfl|hx
  ·rcases hk with h|h|h|h|h
   all_goals grind
  ·exact(zD.1 hx).elim (h1.tl x) (h2.tl x)
structure zhj (d:F):Prop where
 rd:ur d
 one:d.aq=1
 vol:d.size<=4000->ff d 0<=400000000
 len:(dW d).length<=d.size*90000
 tl:TL 1000000 d.flat
theorem qod{B:Nat}:∀f:F,xx (fun s=>s.length<=B) f->(dW f).length<=f.size*(B+1)
 |.nil,_=>zC _
 |.cons k t n ks r,⟨⟨hk,hs⟩,h1,h2⟩=>by
  have i1:=qod ks h1;have i2:=qod r h2;have ht:t.length<=B:=by
   rcases hk with h|h|h|h|h
   all_goals grind
  show((if k=41 then t else if k=42 then [32] else dW ks)++dW r).length<=(ks.size+r.size+1)*(B+1);rw[zd,jY,jY];have h:(if k=41 then t else if k=42 then [32] else dW ks).length<=ks.size*(B+1)+1*(B+1):=by
   split
   ·omega
   split
   ·show 1<=_;omega
   ·omega
  omega
theorem zle{ks:F}(hv:bO k t n ks false=0)(hc:cT fx=0)(hf:∀f,f∈fx->f.1.length<=700)(hg:GL (tr k t n ks).flat)(hZ:wz ks<=71000)(ht:TL 700 (tr k t n ks).flat):zhj (dT fx k t n ks).p.doc:=by
 have g:=zo9 (zey (Z:=71000) (fx:=fx) ht hf) (qqt hc) hg hv (fun x hx=>hx) hZ;refine⟨g.1.rd,g.2,fun hs=>je (z9s _ 0 g.1) ?_,je (qod _ g.1) (Jp _ dc),fun x hx=>?_⟩
 ·have h2:71000+4*700+800+1+0+2*(dT fx k t n ks).p.doc.size<=82601:=om
  exact je (Jw hs h2) dc
 ·have:=g.1.tl x hx;omega
theorem zez{d:F}(h:d.aq=1):∃k t n ks,d=tr k t n ks:=by
 match d,h with
 |.nil,h=>cases h
 |.cons k t n ks r,h=>have h:r.aq+1=1:=h;exact⟨k,t,n,ks,by rw[xh (f:=r) om]⟩
section
variable {fx:List af} {k:Int} {t:Tx} {n:Int} {ks:F}
theorem zlf(b nb:Bool)(hv:bO k t n ks false=0)(hc:cT fx=0)(hf:gL fx)(hj:∀f,f∈fx->f.1.length<=700)(hg:GL (tr k t n ks).flat)(hs:ks.size+1<=1900)(ht:TL 700 (tr k t n ks).flat)(he:iU (⟨b,(tr k t n ks).flat⟩,())=some (0,())):sG (⟨b,(tr k t n ks).flat⟩,⟨nb,fx⟩,())=some (⟨false,(dT fx k t n ks).p.doc.flat⟩,0,()):=by have hk:(tr k t n ks).flat.length=ks.size+1:=(tr k t n ks).len;have hd:=z9g (b:=b) (bx:=nb) (fx:=fx) (q:=0) om hg (fun x hx=>by have:=ht x hx;omega) hf.2.2 (fun f h=>by have:=hj f h;omega) (S1 k t n ks) hv;have hd:Fk (0,⟨b,(tr k t n ks).flat⟩,⟨nb,fx⟩,())=_:=hd;rw[Mr,he,ae];show aL false _ _=_;rw[aJ,FQ nb hf,hc,ae];show aL false _ _=_;rw[aJ,hd];simp only[ae]
theorem z9t(b nb:Bool)(hc:sG (⟨b,(tr k t n ks).flat⟩,⟨nb,fx⟩,())=some (⟨false,(dT fx k t n ks).p.doc.flat⟩,0,()))(he:zhj (dT fx k t n ks).p.doc)(h3:(dT fx k t n ks).p.doc.size<=4000):qC (⟨b,(tr k t n ks).flat⟩,⟨nb,fx⟩,())=some (dW (dT fx k t n ks).p.doc,0,()):=by rw[Mt,hc,ae];show aL false _ _=_;rw[aJ];obtain⟨h1,h2,h4,_,h5⟩:=he;obtain⟨k',t',n',cm,e⟩:=zez h2;have h4:=h4 h3;rw[e] at h1 h3 h4 h5 ⊢;have hv:j5 t' cm 0+0<=400000000:=h4;rw[z4l false h1 (by rw[CH] at h3;omega) h5 om];rfl
theorem zf0(b nb:Bool)(he:sG (⟨b,(tr k t n ks).flat⟩,⟨nb,fx⟩,())=some (⟨false,(dT fx k t n ks).p.doc.flat⟩,0,()))(h3:¬(dT fx k t n ks).p.doc.size<=4000):∃c,c≠0/\qC (⟨b,(tr k t n ks).flat⟩,⟨nb,fx⟩,())=some ([],c,()):=by
 generalize (dT fx k t n ks).p.doc=d at he h3;have hf:d.flat.length=d.size:=d.len;have hc:∃c:Int,c≠0/\Co (⟨false,d.flat⟩,())=some (c,()):=by refine⟨50,by decide,?_⟩;rw[SC];have c0:aZ 4000 (aa d.flat)=true:=zw (by unfold aa;omega);rw[c0,aM];rfl
 obtain⟨c,h1,h2⟩:=hc;refine⟨c,h1,?_⟩;rw[Mt,he,ae];show aL false _ _=_;rw[aJ,SD,h2,ae];simp only;rw[cZ h1];rfl
end
theorem en{a b:Tx}(h:a.length+b.length<=2147483648)(f:Unit->Option α):aw (fit (bL (aa a) (aa b))) f=f ():=by rw[im (by show((a.length:Nat):Int)+((b.length:Nat):Int)<=_;omega)];rfl
def Ai(b:Bool)(s:Tx):Tx:=bif b then [40]++s++[41] else s
theorem z1j(b:Bool)(s:Tx):(Ai b s).length<=s.length+2:=by
 cases b
 ·exact Je _ _
 ·show([40]++s++[41]).length<=_
  grind
def MU(i e:Bool)(a b:Tx):Tx:=Ai (i||e) (a++[32,45,62,32]++b)
def MW(i:Bool)(c:Nat)(s a:Tx):Tx:=Ai (i&&decide (0<c)) (s++a)
def j6(k:Int)(s:Tx)(n:Int)(c:Nat)(a b d:Tx)(i e:Bool):Tx:=if k=31 then [97+n] else if s=[45,62] then MU i e a b else MW i c s d
def eX:F->Nat->Tx
 |.nil,_=>[]
 |.cons k s n ks r,m=>
  match m with
  |0=>[32]++j6 k s n ks.aq (eX ks 2) (eX ks 4) (eX ks 0) true false++eX r 0
  |1=>j6 k s n ks.aq (eX ks 2) (eX ks 4) (eX ks 0) true false
  |2=>j6 k s n ks.aq (eX ks 2) (eX ks 4) (eX ks 0) false true
  |3=>j6 k s n ks.aq (eX ks 2) (eX ks 4) (eX ks 0) false false
  |_=>eX r 3
def oD(k:Int)(s:Tx)(n:Int)(ks:F)(i e:Bool):Tx:=j6 k s n ks.aq (eX ks 2) (eX ks 4) (eX ks 0) i e
theorem z1k{s:Tx}{c:Nat}{a b d:Tx}{i e:Bool}{B:Nat}(hs:s.length<=B)(ha:a.length+b.length<=z)(hd:d.length<=z):(j6 k s n c a b d i e).length<=z+(B+6):=by
 unfold j6;split
 ·show 1<=_;omega
 split
 ·have:=z1j (i||e) (a++[32,45,62,32]++b);rw[zd,zd] at this;have h4:([32,45,62,32]:Tx).length=4:=rfl;unfold MU;omega
 ·have:=z1j (i&&decide (0<c)) (s++d);rw[zd] at this;unfold MW;omega
theorem TH{B:Nat}:∀f:F,TL B f.flat->(eX f 0).length<=(B+7)*f.size/\(eX f 1).length<=(B+7)*f.size/\(eX f 2).length+(eX f 4).length<=(B+7)*f.size/\(eX f 3).length<=(B+7)*f.size
 |.nil,_=>⟨zC _,zC _,zC _,zC _⟩
 |.cons k s n ks r,h=>by
  have hs:s.length<=B:=h (k,s,n,(ks.aq:Int)) (zg);have hk:TL B ks.flat:=fun x hx=>h x (zf _ (zD.2 (.inl hx)));have hr:TL B r.flat:=fun x hx=>h x (zf _ (zD.2 (.inr hx)));obtain⟨a0,_,a2,_⟩:=TH ks hk;obtain⟨b0,_,b2,b3⟩:=TH r hr;have hz:(B+7)*(F.cons k s n ks r).size=(B+7)*ks.size+(B+7)*r.size+(B+7):=by
   show(B+7)*(ks.size+r.size+1)=_
   grind
  rw[hz];have q1:∀i e,(j6 k s n ks.aq (eX ks 2) (eX ks 4) (eX ks 0) i e).length<=(B+7)*ks.size+(B+6):=fun i e=>z1k hs a2 a0;have t1:=q1 true false;have t2:=q1 false true;have t3:=q1 false false;refine⟨?_,?_,?_,?_⟩
  ·show([32]++j6 k s n ks.aq (eX ks 2) (eX ks 4) (eX ks 0) true false++eX r 0).length<=_
   grind
  ·show(j6 k s n ks.aq (eX ks 2) (eX ks 4) (eX ks 0) true false).length<=_;omega
  ·show(j6 k s n ks.aq (eX ks 2) (eX ks 4) (eX ks 0) false true).length+(eX r 3).length<=_;omega
  ·show(j6 k s n ks.aq (eX ks 2) (eX ks 4) (eX ks 0) false false).length<=_;omega
theorem z9u{B:Nat}{s:Tx}{ks:F}(i e:Bool)(h:TL B (tr k s n ks).flat):(oD k s n ks i e).length<=(B+7)*(ks.size+1):=by have hs:s.length<=B:=h (k,s,n,(ks.aq:Int)) (zg);have hk:TL B ks.flat:=fun x hx=>h x (zf _ (zD.2 (.inl hx)));obtain⟨a0,_,a2,_⟩:=TH ks hk;have:(oD k s n ks i e).length<=(B+7)*ks.size+(B+6):=z1k hs a2 a0;rw[Nat.mul_add];omega
def OkT(x:ND):Prop:=(x.1=31->0<=x.2.2.1/\x.2.2.1<8)/\(x.1≠31->x.2.1=[45,62]->x.2.2.2=2)
theorem zhk(h:0<=n/\n<8):fR .u8 (bc .i64 97 n)=97+n:=by rw[pG om om,Wq];omega
theorem z1l{ks:F}(h:ks.aq=2):∃k s n a k' s' n' b,ks=.cons k s n a (.cons k' s' n' b .nil):=by
 match ks,h with
 |.nil,h=>cases h
 |.cons k s n a .nil,h=>cases h
 |.cons k s n a (.cons k' s' n' b r),h=>have h:r.aq+1+1=2:=h;exact⟨k,s,n,a,k',s',n',b,by rw[xh (f:=r) om]⟩
section
variable {b:Bool} {l:List ND}
def TI(self:qn)(b:Bool)(l:List ND)(N:Nat):Prop:=∀(q:Nat) (k:Int) (s:Tx) (n:Int) (ks r:F) (i e:Bool),ba l q (.cons k s n ks r)->ks.size<N->self (⟨b,l⟩,(q:Int),i,e,())=some (oD k s n ks i e,())
def TJ(l:List ND):Prop:=(∀x,x∈l->OkT x)/\TL 1000 l/\l.length<=1000
theorem z9w{s:Tx}{ks r:F}(hs:ba l q (.cons k s n ks r)):q+(ks.size+r.size+1)<=l.length:=by have⟨g1,_⟩:=hs.node;omega
theorem zf1(hl:TJ l){g:F}(hs:ba l q g)(hq:q<=l.length):(eX g 0).length<=1007000/\(eX g 2).length+(eX g 4).length<=1007000:=by have h:=hs.le hq;have⟨a,_,c,_⟩:=TH g (hs.tl hl.2.1);have h2:(1000+7)*g.size<=1007*1000:=Jw (zm _) (by have:=hl.2.2;omega);omega
theorem z9x(hl:TJ l){s:Tx}{ks r:F}(hs:ba l q (.cons k s n ks r))(i e:Bool):(oD k s n ks i e).length<=1007000:=by have h1:=hs.first;have h2:=z9u (B:=1000) i e (h1.tl hl.2.1);have h3:=z9w hs;have h4:(1000+7)*(ks.size+1)<=1007*1000:=Jw (zm _) (by have:=hl.2.2;omega);omega
theorem qw2(hl:TJ l){self:qn}(hp:TI self b l N)(nb i:Bool):∀(g:F) (q:Nat) (pre:List Int) (acc:Tx),ba l q g->q<=l.length->g.size<=N->pre.length+g.aq<=100000->acc.length+(eX g 0).length<=2000000000->aI (tB self) (⟨b,l⟩,i,⟨nb,pre++g.pos q⟩,acc,⟨nb,pre++g.pos q⟩,((pre.length+g.aq:Nat):Int),(pre.length:Int),())=some (Ai (i&&decide (0<pre.length+g.aq)) (acc++eX g 0),())
 |.nil,q,pre,acc,_,_,_,hf,he=>by
  refine bG ?_;rw[qd6];simp only;have e:pre++F.nil.pos q=pre:=zv pre;have e2:acc++eX .nil 0=acc:=zv acc;have e3:pre.length+F.nil.aq=pre.length:=rfl;rw[e,e2,e3,bf,zj om];have e4:aZ 0 (aa pre)=decide (0<pre.length):=jz.2 (by show(0:Int)<((pre.length:Nat):Int)↔_;omega);rw[e4];cases i with
  |false=>rfl
  |true=>
   cases decide (0<pre.length) with
   |false=>rfl
   |true=>rw[aM,en (by show 1+acc.length<=_;omega),en (by rw[lj,zd];show 1+acc.length+1<=_;omega)];rfl
 |.cons k s n ks r,q,pre,acc,hs,hq,hN,hf,he=>by
  have hN:ks.size+r.size+1<=N:=hN;have hf:pre.length+(r.aq+1)<=100000:=hf;have hg:eX (.cons k s n ks r) 0=[32]++oD k s n ks true false++eX r 0:=rfl;rw[hg] at he ⊢;rw[zd,zd] at he;have he:acc.length+(1+(oD k s n ks true false).length+(eX r 0).length)<=2000000000:=he;obtain⟨_,_,g3,_⟩:=hs.node;have e:=hp q k s n ks r true false hs om;have ih:=qw2 hl hp nb i r (q+1+ks.size) (pre++[(q:Int)]) (acc++([32]++oD k s n ks true false)) g3 om om (by rw[zd];show pre.length+1+_<=_;omega) (by rw[zd,zd];show _+(1+_)+_<=_;omega);have hj:pre++(F.cons k s n ks r).pos q=(pre++[(q:Int)])++r.pos (q+1+ks.size):=by rw[zk];rfl
  have hc:(pre++[(q:Int)]).length=pre.length+1:=by rw[zd];rfl
  have hk:pre.length+(F.cons k s n ks r).aq=(pre++[(q:Int)]).length+r.aq:=by rw[hc];show pre.length+(r.aq+1)=_;omega
  have step:tB self (⟨b,l⟩,i,⟨nb,pre++(F.cons k s n ks r).pos q⟩,acc,⟨nb,pre++(F.cons k s n ks r).pos q⟩,((pre.length+(F.cons k s n ks r).aq:Nat):Int),(pre.length:Int),())=some (.inl (⟨b,l⟩,i,⟨nb,pre++(F.cons k s n ks r).pos q⟩,acc++([32]++oD k s n ks true false),⟨nb,pre++(F.cons k s n ks r).pos q⟩,((pre.length+(F.cons k s n ks r).aq:Nat):Int),((pre.length+1:Nat):Int),())):=by rw[qd6];simp only;have a0:fL (pre++(F.cons k s n ks r).pos q) (pre.length:Int)=some (q:Int):=XV pre _ _;rw[bf,zu (by rw[hk];omega),a0];simp only[ae];rw[e];simp only[ae];rw[en (by show 1+_<=_;omega),en (by rw[lj,zd];show _+(1+_)<=_;omega),lj,lj,aG om]
  rw[cY step,hj]
  grind
theorem MR(a:Int)(r:List Int):fL (a::r) 0=some a:=rfl
theorem AK(a c:Int)(r:List Int):fL (a::c::r) 1=some c:=rfl
theorem zf2{ks:F}(hs:ba l q ks)(hc:ks.aq=2):∃(k:Int) (s:Tx) (n:Int) (a:F) (k':Int) (s':Tx) (n':Int) (c r:F) (q':Nat),ks.pos q=[(q:Int),(q':Int)]/\ba l q (.cons k s n a r)/\ba l q' (.cons k' s' n' c .nil)/\a.size<ks.size/\c.size<ks.size/\eX ks 2=oD k s n a false true/\eX ks 4=oD k' s' n' c false false:=by
 obtain⟨k,s,n,a,k',s',n',c,rfl⟩:=z1l hc;have⟨_,_,g3,_⟩:=hs.node;refine⟨k,s,n,a,k',s',n',c,_,q+1+a.size,rfl,hs,g3,?_,?_,rfl,rfl⟩
 ·show a.size<a.size+(c.size+0+1)+1;omega
 ·show c.size<a.size+(c.size+0+1)+1;omega
theorem z1m(hl:TJ l):∀N:Nat,TI (dN vB N) b l N
 |0=>fun _ _ _ _ _ _ _ _ _ h=>absurd h (ZA _)
 |N+1=>by
  have ih:=z1m hl N;intro q k s n ks r i e hs hN;obtain⟨g1,g2,g3,g4⟩:=hs.node;obtain⟨o1,o2⟩:=hl.1 _ (zH g1);show vB (dN vB N) (⟨b,l⟩,(q:Int),i,e,())=_;rw[abK,bJ g1,ae];rw[kI];unfold oD j6;by_cases h1:k=31
  ·rw[zu h1,zu h1,zhk (o1 h1)]
  rw[zj h1,zj h1];have⟨nb,e1⟩:=MB b l (by have:=hl.2.2;omega) hs;rw[e1,ae];rw[DI];by_cases h2:s=[45,62]
  ·rw[zu h2,zu h2];have hc:ks.aq=2:=by have h:(ks.aq:Int)=2:=o2 h1 h2;omega
   obtain⟨ka,sa,na,a,kc,sc,nc,c,r',q',p1,p2,p3,p4,p5,p6,p7⟩:=zf2 g2 hc;rw[p1,p6,p7,MR,ae,ih _ _ _ _ _ _ false true p2 om,ae];have z1:=z9x hl p2 false true;have z2:=z9x hl p3 false false;simp only;rw[en (by show _+4<=_;omega),AK,ae,ih _ _ _ _ _ _ false false p3 om,ae];simp only;have z3:(oD ka sa na a false true++[32,45,62,32]).length=(oD ka sa na a false true).length+4:=by rw[zd];rfl
   rw[lj,en (by rw[z3];omega),lj];have z4:(oD ka sa na a false true++[32,45,62,32]++oD kc sc nc c false false).length=(oD ka sa na a false true).length+4+(oD kc sc nc c false false).length:=by rw[zd,z3]
   have z5:aL i (some true) (some e)=some (i||e):=by cases i<;>rfl
   rw[z5,ae];unfold MU;cases i||e with
   |false=>rfl
   |true=>rw[aM,en (by rw[z4];show 1+_<=_;omega),en (by rw[lj,zd,z4];show 1+_+1<=_;omega)];rfl
  ·rw[zj h2];have he:s.length<=1000:=hl.2.1 _ (zH g1);have hb:=(zf1 hl g2 om).1;have:=ks.eJ;have hL:=hl.2.2;have h:=qw2 hl ih nb i ks (q+1) [] s g2 om om (by show 0+_<=_;omega) om;have e3:aa (ks.pos (q+1))=((([]:List Int).length+ks.aq:Nat):Int):=by
    show(((ks.pos (q+1)).length:Nat):Int)=_;rw[F.nL]
    grind
   rw[e3];refine jU h ?_;unfold MW
   simp_all
theorem z9y(hl:TJ l){s:Tx}{ks r:F}(hs:ba l q (.cons k s n ks r))(i e:Bool):Cl (⟨b,l⟩,(q:Int),i,e,())=some (oD k s n ks i e,()):=IV (ks.size+1) fun N hN=>z1m hl N q k s n ks r i e hs om
end
def qZ(k:Nat):Tx:=if k=0 then [32,61,32] else [32,124,32]
def Ga(c:CT):Tx:=bif decide (0<c.2.l.length) then [32,111,102] else []
theorem qyi(k:Nat):(qZ k).length=3:=by unfold qZ;split<;>rfl
theorem z9z(c:CT):(Ga c).length<=3:=by unfold Ga;cases decide (0<c.2.l.length)<;>decide
def Aj:Nat->Nat->Tx
 |_,0=>[]
 |k,m+1=>[32,97+(k:Int)]++Aj (k+1) m
theorem qw3:∀m k,(Aj k m).length=m*2
 |0,_=>rfl
 |m+1,k=>by show([32,97+(k:Int)]++Aj (k+1) m).length=_;rw[zd,qw3 m (k+1)];show 2+_=_;omega
theorem X9(t:Tx)(b nb:Bool)(acc:Tx)(h:acc.length+t.length<=2147483648):∃q,kJ (t,b,⟨nb,acc⟩,())=some (aa t,true,⟨q,acc++t⟩,()):=by rw[Sx];have e:sC (b,⟨nb,acc⟩,())=some (true,⟨nb,acc⟩,()):=rfl;rw[e,ae];simp only;rw[en h];exact⟨_,rfl⟩
theorem zf3{s:Tx}(hs:∀b,b∈s->0<=b/\b<=255)(hl:s.length<=1000000):yJ (s,())=some (iG s,()):=by
 rw[ach,W8 s hs,ae];simp only;unfold iG;cases bX s with
 |false=>rfl
 |true=>rw[aM,en (by show 1+_<=_;omega),en (by rw[lj,zd];show 1+_+1<=_;omega)];rfl
abbrev feed:Tx:=[59,59,10]
def lP(r:Bool):Tx:=bif r then [108,101,116,32,114,101,99,32] else [108,101,116,32]
theorem zf4(r:Bool):(lP r).length<=8:=by cases r<;>decide
def Ea(r:Bool)(nm s:Tx):Tx:=lP r++iG nm++[32,61,32]++s++feed
def mU(x:Int):Tx:=if x<0 then [105,110,102,105,120,108] else if 0<x then [105,110,102,105,120,114] else [105,110,102,105,120]
theorem za0(x:Int):(mU x).length<=6:=by unfold mU;split;decide;split<;>decide
def vY(f:af):Tx:=mU f.2.2++[32]++[48+f.2.1]++[32]++f.1++feed
theorem zf5{l:List af}{p:af->Prop}(hl:∀x,x∈l->p x)(hf:p f):∀x,x∈(cX l f).1->p x:=by
 unfold cX;split
 ·intro x hx;cases hx
 split
 ·intro x hx;cases hx
 ·intro x hx;rcases zD.1 ((Xn _ x).1 hx) with h|h
  ·exact hl x (gW.1 h).1
  grind
theorem za1(h:iu f=true):0<=f.2.1/\f.2.1<=9/\-1<=f.2.2/\f.2.2<=1:=by
 unfold iu at h
 grind
theorem zlg{x:Int}(h:-1<=x/\x<=1):fL ([([105,110,102,105,120,108]:Y1),([105,110,102,105,120]:Y1),([105,110,102,105,120,114]:Y1)]:List Y1) (bc .i64 x 1)=some (mU x):=by
 rw[pG om om];have:x=-1\/x=0\/x=1:=om
 rcases this with rfl|rfl|rfl<;>rfl
theorem zoa(h:0<=n/\n<=9):fR .u8 (bc .i64 48 n)=48+n:=by rw[pG om om,Wq];omega
def O4(s:Tx):Tx:=[111,112,101,110,32]++s++feed
theorem n0:ai false=true:=rfl
theorem n1:ai true=false:=rfl
theorem e0z:ah 0 0=true:=rfl
theorem zlh:aw (W1 ()) (fun x4=>some (x4.1,()))=some (true,()):=by rw[z0c];rfl
def dL(s:Tx):Prop:=∀b,b∈s->0<=b/\b<=255
theorem zf6{L:List DD}(h:iF L=0\/iF L=102):∀d,d∈L->A2 d=true:=by
 unfold iF at h;cases h1:L.all A2 with
 |true=>exact fun d hd=>ju.1 h1 d hd
 |false=>grind
theorem z1n{nm:Tx}{m:MX}(h:gX nm m=0):(iF m.aE=0\/iF m.aE=102)/\cT m.aU=0:=by
 unfold gX at h;cases h1:(!nB nm||(decide (60<m.opens.length)||(decide (200<m.lets.length)||((m.opens.any fun s=>!nB s)||m.lets.any fun x=>!gK x)))) with
 |true=>rw[h1] at h;cases h
 |false=>
  rw[h1,zE] at h;cases h2:(!(decide (iF m.aE=0)||decide (iF m.aE=102))||!decide (cT m.aU=0)) with
  |true=>rw[h2] at h;cases h
  |false=>grind
end Fn
end Ev