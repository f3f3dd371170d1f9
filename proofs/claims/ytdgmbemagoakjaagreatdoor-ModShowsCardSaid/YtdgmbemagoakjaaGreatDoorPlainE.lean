/- Documents, their texts, and what a module is written as, in plain words. -/
import Derived.Test.YtdgmbemagoakjaaGreatDoorPlainD
set_option linter.defProp false
namespace Ev
open Go Ieee
namespace Fn
def z9g{n:Nat}(h0:0<n)(h:n<2 ^ 53):n.log2<=52:=by have:=(Nat.log2_lt om).2 h;omega
def qtb(neg:Bool)(n:Nat):Toward.even.cut neg n 0=n:=by simp[Toward.cut,Nat.mod_one]
def qtc{m:Nat}{p:Int}(h0:0<m)(hm:(m.log2:Int)+p<=52)(hp:0<=(m.log2:Int)+p)(hd:m.log2<=52):Ieee.double.nearest false m p=(m.log2+p+1022).toNat*2 ^ 52+m*2 ^ (52-m.log2):=by
 have e1:Ieee.double.leastPlace=-1074:=dc
 have e2:Ieee.double.binade=2 ^ 52:=rfl;have e3:(Ieee.double.fractionBits:Int)=52:=rfl;have e4:Ieee.double.infRung=2047*2 ^ 52:=dc
 unfold Format.nearest;rw[if_neg om,e1,e2,e3,e4];have l1:max (p+(m.log2:Int)-52) (-1074)=p+m.log2-52:=om
 simp only[l1];have l2:(p-(p+(m.log2:Int)-52)).toNat=52-m.log2:=om
 have l3:(p+(m.log2:Int)-52-p).toNat=0:=om
 have l4:(p+(m.log2:Int)-52- -1074).toNat=(m.log2+p+1022).toNat:=om
 rw[l2,l3,l4,qtb,Nat.shiftLeft_eq];unfold Format.word;simp only[Bool.false_eq_true,if_false];have hc:m<2 ^ (m.log2+1):=Nat.lt_log2_self;have hk:m*2 ^ (52-m.log2)<2 ^ 53:=by
  calc m*2 ^ (52-m.log2)<2 ^ (m.log2+1)*2 ^ (52-m.log2):=Nat.mul_lt_mul_of_pos_right hc (Nat.two_pow_pos _)
   _=2 ^ 53:=by rw[<-Nat.pow_add];congr 1;omega
 have hx:(m.log2+p+1022).toNat<=1074:=om
 apply Nat.min_eq_left;generalize (m.log2+p+1022).toNat=x at*
 generalize m*2 ^ (52-m.log2)=k at*
 omega
def zhj{m:Nat}(h0:0<m)(hd:m.log2<=52):2 ^ 52<=m*2 ^ (52-m.log2)/\m*2 ^ (52-m.log2)<2 ^ 53:=by
 have hc:m<2 ^ (m.log2+1):=Nat.lt_log2_self;have he:2 ^ m.log2<=m:=Nat.log2_self_le om;constructor
 ·calc 2 ^ 52=2 ^ m.log2*2 ^ (52-m.log2):=by rw[<-Nat.pow_add];congr 1;omega
   _<=m*2 ^ (52-m.log2):=Nat.mul_le_mul_right _ he
 ·calc m*2 ^ (52-m.log2)<2 ^ (m.log2+1)*2 ^ (52-m.log2):=Nat.mul_lt_mul_of_pos_right hc (Nat.two_pow_pos _)
   _=2 ^ 53:=by rw[<-Nat.pow_add];congr 1;omega
def qwc{n:Nat}(h0:0<n)(h:n<2 ^ 53):Ieee.double.read (Ieee.double.nearest false n 0)=.number false (n*2 ^ (52-n.log2)) ((n.log2:Int)-52):=by
 have hd:=z9g h0 h;rw[qtc h0 om om hd];obtain⟨k1,k2⟩:=zhj h0 hd;have e1:Ieee.double.leastPlace=-1074:=dc
 have e2:Ieee.double.binade=2 ^ 52:=rfl;have e4:Ieee.double.infRung=2047*2 ^ 52:=dc
 have e5:Ieee.double.signWeight=2 ^ 63:=dc
 have e6:((n.log2:Int)+0+1022).toNat=n.log2+1022:=om
 rw[e6];unfold Format.read;rw[e1,e2,e4,e5];generalize hk:n*2 ^ (52-n.log2)=k at*
 have w1:((n.log2+1022)*2 ^ 52+k)<2 ^ 63:=om
 have w2:((n.log2+1022)*2 ^ 52+k) / 2 ^ 63=0:=Nat.div_eq_of_lt w1;have w3:((n.log2+1022)*2 ^ 52+k) % 2 ^ 63=(n.log2+1022)*2 ^ 52+k:=Nat.mod_eq_of_lt w1;simp only[w2,w3];rw[if_neg om,if_pos om];have w4:((n.log2+1022)*2 ^ 52+k) % 2 ^ 52=k-2 ^ 52:=om
 have w5:((n.log2+1022)*2 ^ 52+k) / 2 ^ 52=n.log2+1023:=om
 rw[w4,w5];have a1:2 ^ 52+(k-2 ^ 52)=k:=om
 have a2:(-1074:Int)+((n.log2+1023-1:Nat):Int)=n.log2-52:=om
 rw[a1,a2];rfl
def zhk{a k:Nat}(h:0<a):(a*2 ^ k).log2=a.log2+k:=by
 have h1:=Nat.log2_self_le (n:=a) om;have h2:a<2 ^ (a.log2+1):=Nat.lt_log2_self;have hp:=Nat.two_pow_pos k;have hc:a*2 ^ k≠0:=by intro e;rcases Nat.mul_eq_zero.1 e with e|e<;>omega
 apply(Nat.log2_eq_iff hc).2;constructor
 ·rw[Nat.pow_add];exact Nat.mul_le_mul_right _ h1
 ·calc a*2 ^ k<2 ^ (a.log2+1)*2 ^ k:=Nat.mul_lt_mul_of_pos_right h2 hp
   _=2 ^ (a.log2+k+1):=by rw[<-Nat.pow_add];congr 1;omega
def qtd{n k:Nat}(h0:0<n)(h:n<2 ^ 53):Ieee.double.nearest false (n*2 ^ k) (-(k:Int))=Ieee.double.nearest false n 0:=by
 have hd:=z9g h0 h;have hl:=zhk (a:=n) (k:=k) h0;have e1:Ieee.double.leastPlace=-1074:=dc
 have e3:(Ieee.double.fractionBits:Int)=52:=rfl;have hp:=Nat.two_pow_pos k;have hf:¬n*2 ^ k=0:=by intro e;rcases Nat.mul_eq_zero.1 e with e|e<;>omega
 unfold Format.nearest;rw[if_neg hf,if_neg om,hl,e1,e3];have l1:max (-(k:Int)+((n.log2+k:Nat):Int)-52) (-1074)=n.log2-52:=om
 have l2:max ((0:Int)+(n.log2:Int)-52) (-1074)=n.log2-52:=om
 simp only[l1,l2];congr 1;congr 1;congr 1;have r1:((0:Int)-((n.log2:Int)-52)).toNat=52-n.log2:=om
 have r2:(((n.log2:Int)-52)-0).toNat=0:=om
 rw[r1,r2,qtb];by_cases hc:k+n.log2<=52
 ·have r3:(-(k:Int)-((n.log2:Int)-52)).toNat=52-n.log2-k:=om
  have r4:((n.log2:Int)-52- -(k:Int)).toNat=0:=om
  rw[r3,r4,qtb,Nat.shiftLeft_eq,Nat.shiftLeft_eq,Nat.mul_assoc,<-Nat.pow_add];congr 2;omega
 ·have r3:(-(k:Int)-((n.log2:Int)-52)).toNat=0:=om
  have r4:((n.log2:Int)-52- -(k:Int)).toNat=k-(52-n.log2):=om
  rw[r3,r4,Nat.shiftLeft_zero,Nat.shiftLeft_eq];have hg:k=(52-n.log2)+(k-(52-n.log2)):=om
  generalize hj:k-(52-n.log2)=d at*
  have e:n*2 ^ k=n*2 ^ (52-n.log2)*2 ^ d:=by rw[Nat.mul_assoc,<-Nat.pow_add,<-hg]
  unfold Toward.cut;have he:min d ((n*2 ^ k).log2+2)=d:=by rw[hl];omega
  simp only[he];rw[Nat.one_shiftLeft,e,Nat.mul_div_cancel _ (Nat.two_pow_pos d),Nat.mul_mod_left];have hk:=Nat.two_pow_pos d;have a1:decide (2 ^ d<2*0)=false:=by simp
  have a2:(2 ^ d==2*0)=false:=by simp
  simp only[a1,a2,Bool.false_and,Bool.or_false];rfl
def z9h(n:Nat):cT (n:Int)=Ieee.double.nearest false n 0:=by
 unfold cT FloatKind.nearest FloatKind.encode FloatKind.format Format.write;have:decide ((n:Int)<0)=false:=by simp
 simp only[this,Int.natAbs_natCast]
def vh:cT 0=0:=dc
def zdc{n:Nat}(h:n<2 ^ 53):∃m k:Nat,Ieee.double.read (cT n)=.number false m (-(k:Int))/\m=n*2 ^ k/\k<=52\/(n=0/\Ieee.double.read (cT n)=.number false 0 (-1074)):=by
 by_cases h0:n=0
 ·subst h0;exact⟨0,0,.inr ⟨rfl,by decide⟩⟩
 ·have h0:0<n:=om
  have hd:=z9g h0 h;refine⟨n*2 ^ (52-n.log2),52-n.log2,.inl ⟨?_,rfl,by omega⟩⟩;rw[z9h,qwc h0 h];congr 1;omega
def qml(p:Int):Ieee.double.nearest false 0 p=0:=by simp[Format.nearest,Format.word]
def zjn{a b:Nat}{p q:Nat}:Datum.sum (.number false (a*2 ^ p) (-(p:Int))) (.number false (b*2 ^ q) (-(q:Int)))=some (.number false ((a+b)*2 ^ max p q) (-((max p q:Nat):Int))):=by
 unfold Datum.sum;have hb:min (-(p:Int)) (-(q:Int))=-((max p q:Nat):Int):=om
 simp only[hb];have h1:(-(p:Int)- -((max p q:Nat):Int)).toNat=max p q-p:=om
 have h2:(-(q:Int)- -((max p q:Nat):Int)).toNat=max p q-q:=om
 rw[h1,h2];unfold signed;simp only[Bool.false_eq_true,if_false,Nat.shiftLeft_eq];have e1:a*2 ^ p*2 ^ (max p q-p)=a*2 ^ max p q:=by rw[Nat.mul_assoc,<-Nat.pow_add];congr 2;omega
 have e2:b*2 ^ q*2 ^ (max p q-q)=b*2 ^ max p q:=by rw[Nat.mul_assoc,<-Nat.pow_add];congr 2;omega
 rw[e1,e2];have e3:((a*2 ^ max p q:Nat):Int)+((b*2 ^ max p q:Nat):Int)=(((a+b)*2 ^ max p q:Nat):Int):=by rw[Nat.add_mul];rfl
 rw[e3];have e4:decide ((((a+b)*2 ^ max p q:Nat):Int)<0)=false:=by apply zo;omega
 simp only[e4,Int.natAbs_natCast,Bool.and_self,ite_self]
def zdd{a b:Nat}{p q:Nat}:Datum.order (.number false (a*2 ^ p) (-(p:Int))) (.number false (b*2 ^ q) (-(q:Int)))=some (compare a b):=by
 unfold Datum.order;have hb:min (-(p:Int)) (-(q:Int))=-((max p q:Nat):Int):=om
 simp only[hb];have h1:(-(p:Int)- -((max p q:Nat):Int)).toNat=max p q-p:=om
 have h2:(-(q:Int)- -((max p q:Nat):Int)).toNat=max p q-q:=om
 rw[h1,h2];unfold signed;simp only[Bool.false_eq_true,if_false,Nat.shiftLeft_eq];have e1:a*2 ^ p*2 ^ (max p q-p)=a*2 ^ max p q:=by rw[Nat.mul_assoc,<-Nat.pow_add];congr 2;omega
 have e2:b*2 ^ q*2 ^ (max p q-q)=b*2 ^ max p q:=by rw[Nat.mul_assoc,<-Nat.pow_add];congr 2;omega
 rw[e1,e2];generalize max p q=k;congr 1;have hk:=Nat.two_pow_pos k;rcases Nat.lt_trichotomy a b with h|h|h
 ·rw[Nat.compare_eq_lt.2 h];rw[Int.compare_eq_lt];exact Int.ofNat_lt.2 (Nat.mul_lt_mul_of_pos_right h hk)
 ·subst h;rw[Nat.compare_eq_eq.2 rfl,Int.compare_eq_eq]
 ·rw[Nat.compare_eq_gt.2 h];rw[Int.compare_eq_gt];exact Int.ofNat_lt.2 (Nat.mul_lt_mul_of_pos_right h hk)
def far:∃p:Nat,(p:Int)=1074:=⟨1074,rfl⟩
def ZK{n:Nat}(h:n<2 ^ 53):∃p:Nat,Ieee.double.read (cT n)=.number false (n*2 ^ p) (-(p:Int)):=by
 obtain⟨m,k,h1|⟨h1,h2⟩⟩:=zdc h
 ·exact⟨k,by rw[h1.1,h1.2.1]⟩
 ·obtain⟨p,hp⟩:=far;exact⟨p,by rw[h2,h1,Nat.zero_mul,hp]⟩
def ZL{n m:Nat}(h:n+m<2 ^ 53):jL (cT n) (cT m)=some (cT ((n+m:Nat):Int)):=by
 obtain⟨p,hp⟩:=ZK (n:=n) om;obtain⟨q,hq⟩:=ZK (n:=m) om;unfold jL Format.add;rw[hp,hq,zjn];simp only[Option.map_some,zB];show Ieee.double.nearest false ((n+m)*2 ^ max p q) (-((max p q:Nat):Int))=_;rw[z9h];by_cases h0:n+m=0
 ·rw[h0,Nat.zero_mul,qml,qml]
 ·exact qtd om h
def zhl{n m:Nat}(hn:n<2 ^ 53)(hm:m<2 ^ 53):Ko (cT n) (cT m)=decide (n<=m):=by
 obtain⟨p,hp⟩:=ZK hn;obtain⟨q,hq⟩:=ZK hm;unfold Ko Format.order;rw[hp,hq,zdd];rcases Nat.lt_trichotomy n m with h|h|h
 ·rw[Nat.compare_eq_lt.2 h,zt om];rfl
 ·rw[Nat.compare_eq_eq.2 h,zt om];rfl
 ·rw[Nat.compare_eq_gt.2 h,zo om];rfl
end Fn
end Ev
namespace Ev
open Go
namespace Fn
def bA(a b:Int){α:Type}{x y:Option α}(h:ag a b=false:=by rfl):aP (ag a b) x y=y:=by rw[h,aI]
def lZ(a b:Int){α:Type}{x y:Option α}(h:ag a b=true:=by rfl):aP (ag a b) x y=x:=by rw[h,aK]
def bC(s:Tx):F:=tr 41 s 0 .nil
def bO:F:=tr 42 [] 0 .nil
def cf:List F->F
 |[]=>.nil
 |d::l=>d.app (cf l)
def E7(l:List F):F:=tr 45 [] 0 (cf l)
def Bf:List F->F
 |[d]=>d
 |l=>E7 l
def jX(l:List F):F:=tr 43 [] 2 (Bf l)
def eW(l:List F):F:=tr 44 [] 0 (Bf l)
def bf(d:F):F:=jX [bO,d]
def kA(s:Tx):Tx:=bif gJ s then [40]++s++[41] else s
def nX(n:Int):Tx:=jN (sn n)
def fQ(n:Int):Int:=if n<10 then 48+n else 87+n
def dU(c:Int):Tx:=if c=34\/c=92 then [92,c] else if c=10 then [92,110] else if c<32\/126<c then [92,120,fQ (c / 16),fQ (c % 16)] else [c]
def Bg(s:Tx):Tx:=[34]++s.flatMap dU++[34]
def yw(qs:List (Tx×Tx)):Tx:=qs.flatMap fun q=>[32]++q.2
def cm(k:Int)(t:Tx)(n:Int)(qs:List (Tx×Tx)):Tx:=if k=21 then [95] else if k=22 then kA t else if k=23 then nX n else t++yw qs
def iF(k:Int)(c:Nat)(s:Tx):Tx:=if k≠21/\k≠22/\k≠23/\c≠0 then [40]++s++[41] else s
def bH:F->List (Tx×Tx)
 |.nil=>[]
 |.cons k t n ks r=>(cm k t n (bH ks),iF k ks.av (cm k t n (bH ks)))::bH r
structure Pt where
 doc:F
 lk:Int
 lv:Int
 sd:Int
structure Dc where
 p:Pt
 b:Pt
 hd:Pt
 args:List F
 pt:Tx
def nY(b:Bool)(d:F):F:=bif b then E7 [bC [40],d,bC [41]] else d
def JW(p:Pt)(lv sd s:Int):Bool:=decide (p.lk=2)&&(decide (p.lv<lv)||(decide (p.lv=lv)&&(decide (p.sd≠s)||decide (sd≠s))))
def qg(p:Pt)(lv sd s:Int):F:=nY (decide (p.lk=3)||JW p lv sd s) p.doc
def gN(p:Pt):F:=nY (decide (p.lk≠0)) p.doc
def F3(p:Pt):F:=nY (decide (p.lk=2)||decide (p.lk=3)) p.doc
def rowOf(fx:List ak)(k:Int):F->Option ak
 |.cons k1 _ _ (.cons k2 op _ _ _) _=>if k=6/\k1=6/\k2=3 then kP fx op else none
 |_=>none
def pz:Pt:=⟨.nil,0,0,0⟩
def dz:Dc:=⟨pz,pz,pz,[],[]⟩
def cK(ds:List Dc)(i:Nat):Dc:=(ds[i]?).getD dz
def nZ:List Dc->List F
 |p::e::r=>[bO,bC ([124,32]++(p.pt++[32,45,62])),bf e.p.doc]++nZ r
 |_=>[]
def zf1:List Dc->F
 |a::p::e::r=>eW ([bC Pz.dP,bf a.p.doc,bO,bC Pz.eU]++([jX [bO,bC (p.pt++[32,45,62]),bf e.p.doc]]++(nZ r++[bO,bC Pz.jT])))
 |_=>eW []
def n5(k:Int):Bool:=decide (k=5)||(decide (k=7)||(decide (k=8)||(decide (k=9)||(decide (k=11)||decide (k=12)))))
def PV(k:Int)(t:Tx)(a b c:F):F:=
 if k=5 then eW [bC ([102,117,110,32]++kA t++[32,45,62]),bf a] else
 if k=7 then eW [bC ([108,101,116,32]++kA t++[32,61]),bf a,bO,bC [105,110],bO,b] else
 if k=8 then eW [bC ([108,101,116,32,114,101,99,32]++kA t++[32,61]),bf a,bO,bC [105,110],bO,b] else
 if k=9 then eW [bC Pz.ZA,bf a,bO,bC Pz.yp,bf b,bO,bC Pz.yq,bf c] else
 if k=11 then eW [bC Pz.ru,bf a] else
 eW [bC Pz.PF,bf a,bO,bC ([119,105,116,104,32]++kA t++[32,45,62]),bf b]
def PW(f:ak)(a b:Pt):F:=eW [qg a f.2.1 f.2.2 (-1),jX [bO,bC (f.1++[32]),qg b f.2.1 f.2.2 1]]
def PY(hd:Pt)(args:List F):F:=eW [F3 hd,jX args]
def eF(fx:List ak)(k:Int)(t:Tx)(n:Int)(ks:F)(ds:List Dc):F:=
 if k=1 then bC (nX n) else if k=2 then bC (Bg t) else if k=3 then bC (kA t) else
 if n5 k=true then PV k t (cK ds 0).p.doc (cK ds 1).p.doc (cK ds 2).p.doc else
 if k=10 then zf1 ds else
 if k=6 then(match rowOf fx k ks with
  |some f=>PW f (cK ds 0).b (cK ds 1).p
  |none=>PY (cK ds 0).hd ((cK ds 0).args++[bO,gN (cK ds 1).p])) else bC t
def cO(fx:List ak)(k:Int)(ks:F):Int:=if k=6 then(match rowOf fx k ks with|some _=>2|none=>1) else if n5 k=true then 3 else 0
def vi(fx:List ak)(k:Int)(t:Tx)(n:Int)(ks:F)(ds:List Dc):Pt:=⟨eF fx k t n ks ds,cO fx k ks,((rowOf fx k ks).getD ([],0,0)).2.1,((rowOf fx k ks).getD ([],0,0)).2.2⟩
def xk(fx:List ak)(k:Int)(t:Tx)(n:Int)(ks:F)(ds:List Dc):Dc:=
 ⟨vi fx k t n ks ds,if k=6 then(cK ds 1).p else pz,
  if cO fx k ks=1 then(cK ds 0).hd else vi fx k t n ks ds,
  if cO fx k ks=1 then(cK ds 0).args++[bO,gN (cK ds 1).p] else [],cm k t n (bH ks)⟩
def dF(fx:List ak):F->List Dc
 |.nil=>[]
 |.cons k t n ks r=>xk fx k t n ks (dF fx ks)::dF fx r
def dT(fx:List ak)(k:Int)(t:Tx)(n:Int)(ks:F):Dc:=xk fx k t n ks (dF fx ks)
def F.n9:∀f g:F,(f.app g).size=f.size+g.size
 |.nil,g=>(zC _).symm
 |.cons k t n ks r,g=>by show ks.size+(r.app g).size+1=ks.size+r.size+1+g.size;rw[r.n9 g];omega
def F.yx:∀f g:F,(f.app g).av=f.av+g.av
 |.nil,g=>(zC _).symm
 |.cons k t n ks r,g=>by show(r.app g).av+1=r.av+1+g.av;rw[r.yx g];omega
def F.vj:∀f g:F,(f.app g).flat=f.flat++g.flat
 |.nil,g=>rfl
 |.cons k t n ks r,g=>by
  show _::(ks.flat++(r.app g).flat)=(_::(ks.flat++r.flat))++g.flat
  rw[r.vj g,List.cons_append,zm]
def F.qh:∀f g h:F,(f.app g).app h=f.app (g.app h)
 |.nil,_,_=>rfl
 |.cons k t n ks r,g,h=>by show F.cons k t n ks ((r.app g).app h)=F.cons k t n ks (r.app (g.app h));rw[r.qh g h]
def z1m:∀a b:List F,cf (a++b)=(cf a).app (cf b)
 |[],_=>rfl
 |d::a,b=>by show d.app (cf (a++b))=(d.app (cf a)).app (cf b);rw[z1m a b,F.qh]
def BL(a b:List F):(cf (a++b)).size=(cf a).size+(cf b).size:=by rw[z1m,F.n9]
def eA(d:F)(l:List F):(cf (d::l)).size=d.size+(cf l).size:=F.n9 _ _
def qph:∀l:List F,(cf l).flat=(l.map F.flat).flatten
 |[]=>rfl
 |d::l=>by show(d.app (cf l)).flat=d.flat++(l.map F.flat).flatten;rw[F.vj,qph l]
def z1n:∀l:List F,(∀d,d∈l->d.av=1)->(cf l).av=l.length
 |[],_=>rfl
 |d::l,h=>by show(d.app (cf l)).av=l.length+1;rw[F.yx,z1n l fun x hx=>h x (zh _ hx),h d (zg ..)];omega
def Rt(l:List F):(Bf l).size<=(cf l).size+1:=by
 match l with
 |[]=>exact Nat.le_refl _
 |[d]=>rw[eA];show d.size<=_;omega
 |_::_::_=>exact Nat.le_refl _
def Lt(l:List F):(jX l).size<=(cf l).size+2:=by have:=Rt l;show(Bf l).size+0+1<=_;omega
def ZM(l:List F):(eW l).size<=(cf l).size+2:=by have:=Rt l;show(Bf l).size+0+1<=_;omega
def gR(s:Tx):(bC s).size=1:=rfl
def lO:bO.size=1:=rfl
def fD:(cf []).size=0:=rfl
def ZN(b:Bool)(d:F):(nY b d).size<=d.size+3:=by
 cases b with
 |false=>show d.size<=_;omega
 |true=>show(cf [bC [40],d,bC [41]]).size+0+1<=_;rw[eA,eA,eA,gR,gR,fD];omega
def PZ(d:F):(bf d).size<=d.size+3:=by have:=Lt [bO,d];rw[eA,eA,lO,fD] at this;show(jX [bO,d]).size<=_;omega
def ZO{ks:F}(h:(ks.av:Int)=1):∃a b c d,ks=.cons a b c d .nil:=by
 match ks,h with
 |.nil,h=>exact absurd h dc
 |.cons a b c d r,h=>have h:((r.av+1:Nat):Int)=1:=h;exact⟨a,b,c,d,by rw[U2 (f:=r) om]⟩
def iJ{ks:F}{n:Nat}(h:ks.av=n+1):∃a b c d r,ks=.cons a b c d r/\r.av=n:=by
 match ks,h with
 |.nil,h=>exact absurd h (by show ¬(0:Nat)=n+1;omega)
 |.cons a b c d r,h=>
  have h:r.av+1=n+1:=h
  grind
def Bh{ks:F}(h:ks.av=0):ks=.nil:=U2 om
def E8(N:Nat)(x:Dc):Prop:=x.p.doc.size+5<=6*N/\x.hd.doc.size+(cf x.args).size+5<=6*N/\(x.b.doc.size=0\/x.b.doc.size+17<=6*N)
def Lu(fx:List ak):Bool->Bool->F->Prop
 |_,_,.nil=>True
 |m,eD,.cons k t n ks r=>((m&&eD)=false->E8 (ks.size+1) (dT fx k t n ks))/\Lu fx m (!eD) r
def z9i(p:Pt):(gN p).size<=p.doc.size+3:=ZN _ _
def qrm(p:Pt):(F3 p).size<=p.doc.size+3:=ZN _ _
def Ru(p:Pt)(a b c:Int):(qg p a b c).size<=p.doc.size+3:=ZN _ _
def zde{N:Nat}{p:Pt}{t:Tx}(h:p.doc.size+5<=6*N):E8 N ⟨p,pz,p,[],t⟩:=⟨h,by show p.doc.size+(cf []).size+5<=_;rw[fD];omega,.inl rfl⟩
def z1p(fx:List ak){k:Int}(t:Tx)(n:Int)(ks:F)(ds:List Dc)(h:k≠6):xk fx k t n ks ds=⟨vi fx k t n ks ds,pz,vi fx k t n ks ds,[],cm k t n (bH ks)⟩:=by
 have hl:cO fx k ks≠1:=by unfold cO;omega
 unfold xk
 grind
def qwd(fx:List ak):∀(N:Nat) (r:F),r.size<=N->Lu fx true true r->(cf (nZ (dF fx r))).size<=6*r.size
 |_,.nil,_,_=>by show(cf []).size<=_;rw[fD];omega
 |_,.cons k t n ks .nil,_,_=>by show(cf []).size<=_;rw[fD];omega
 |0,.cons k t n ks (.cons k' t' n' bE r),h,_=>by have h:ks.size+(bE.size+r.size+1)+1<=0:=h;omega
 |N+1,.cons k t n ks (.cons k' t' n' bE r),h,hs=>by have h:ks.size+(bE.size+r.size+1)+1<=N+1:=h;obtain⟨_,h2,h3⟩:=hs;have h2:=(h2 rfl).1;have ih:=qwd fx N r om h3;show(cf ([bO,bC ([124,32]++((dT fx k t n ks).pt++[32,45,62])),bf (dT fx k' t' n' bE).p.doc]++nZ (dF fx r))).size<=6*(ks.size+(bE.size+r.size+1)+1);have hu:=PZ (dT fx k' t' n' bE).p.doc;rw[BL,eA,eA,eA,fD,lO,gR];omega
def z4m(k:Int)(t:Tx)(a b c:F):(PV k t a b c).size<=(if k=5\/k=11 then a.size+6 else if k=9 then a.size+b.size+c.size+16 else a.size+b.size+11):=by
 have ha:=PZ a;have hb:=PZ b;have hc:=PZ c;unfold PV;have g:∀l:List F,(eW l).size<=(cf l).size+2:=ZM;by_cases h5:k=5
 ·rw[if_pos h5,if_pos (.inl h5)];refine Nat.le_trans (g _) ?_;rw[eA,eA,fD,gR];omega
 by_cases he:k=11
 ·subst he;rw[if_neg dc,if_neg dc,if_neg dc,if_neg dc,if_pos rfl,if_pos (.inr rfl)];refine Nat.le_trans (g _) ?_;rw[eA,eA,fD,gR];omega
 by_cases h9:k=9
 ·subst h9;rw[if_neg dc,if_neg dc,if_neg dc,if_pos rfl,if_neg dc,if_pos rfl];refine Nat.le_trans (g _) ?_;simp only[eA,fD,gR,lO];omega
 rw[if_neg h5,if_neg h9,if_neg he,if_neg (show ¬(k=5\/k=11) from fun h=>h.elim h5 he),if_neg h9];split
 ·refine Nat.le_trans (g _) ?_;simp only[eA,fD,gR,lO];omega
 split
 ·refine Nat.le_trans (g _) ?_;simp only[eA,fD,gR,lO];omega
 ·refine Nat.le_trans (g _) ?_;simp only[eA,fD,gR,lO];omega
def E9{k:Int}(h:n5 k=true):k=5\/k=7\/k=8\/k=9\/k=11\/k=12:=by simpa[n5,Bool.or_eq_true,decide_eq_true_eq] using h
def zhm{k:Int}(h:n5 k=true):k≠1/\k≠2/\k≠3/\k≠6/\k≠10:=by rcases E9 h with h|h|h|h|h|h<;>subst h<;>decide
def ZP(fx:List ak){k:Int}(t:Tx)(n:Int)(ks:F)(ds:List Dc)(h:n5 k=true):eF fx k t n ks ds=PV k t (cK ds 0).p.doc (cK ds 1).p.doc (cK ds 2).p.doc:=by
 obtain⟨h1,h2,h3,_⟩:=zhm h;unfold eF
 grind
def Vk(fx:List ak){k:Int}{t:Tx}{n:Int}{ks:F}(hv:aX k t n ks false=0)(hs:Lu fx (ag k 10) false ks):E8 (ks.size+1) (dT fx k t n ks):=by
 obtain⟨hn,hf⟩:=bX.1 hv;obtain⟨_,_,hk,_,_,_⟩:=bT.1 hn;obtain⟨c1,c2,c3,oC,c0⟩:=Lo hk;have one:∀{a b d:_} {c:_} {r m:_},Lu fx m false (.cons a b c d r)->E8 (d.size+1) (dT fx a b c d)/\Lu fx m true r:=fun h=>⟨h.1 (Bool.and_false _),h.2⟩;have two:∀{a b d:_} {c:_} {r:_},Lu fx false true (.cons a b c d r)->E8 (d.size+1) (dT fx a b c d)/\Lu fx false false r:=fun h=>⟨h.1 rfl,h.2⟩;by_cases h6:k=6
 ·subst h6;obtain⟨a,b,c,d,r,rfl,hr⟩:=iJ (ks:=ks) (n:=1) (by have:=c2 (.inl rfl);omega);obtain⟨a',b',c',d',r',rfl,he⟩:=iJ (n:=0) hr;obtain rfl:=Bh he;have mN:ag 6 10=false:=rfl;rw[mN] at hs;obtain⟨s1,hs⟩:=one hs;obtain⟨s2,_⟩:=two hs;have e0:cK (dF fx (.cons a b c d (.cons a' b' c' d' .nil))) 0=dT fx a b c d:=rfl;have e1:cK (dF fx (.cons a b c d (.cons a' b' c' d' .nil))) 1=dT fx a' b' c' d':=rfl;have hN:(F.cons a b c d (.cons a' b' c' d' .nil)).size+1=d.size+1+(d'.size+1)+1:=by show d.size+(d'.size+0+1)+1+1=_;omega
  rw[hN];generalize d.size+1=N0 at*
  have hp:1<=N0:=by have:=s1.1;omega
  have ha:=z9i (dT fx a' b' c' d').p;have hh:=qrm (dT fx a b c d).hd;obtain⟨p1,p2,p3⟩:=s1;obtain⟨q1,q2,q3⟩:=s2;have hm:(cf ((dT fx a b c d).args++[bO,gN (dT fx a' b' c' d').p])).size<=(cf (dT fx a b c d).args).size+1+((dT fx a' b' c' d').p.doc.size+3):=by rw[BL,eA,eA,fD,lO];omega
  unfold dT xk;have hg:(eF fx 6 t n (.cons a b c d (.cons a' b' c' d' .nil)) (dF fx (.cons a b c d (.cons a' b' c' d' .nil)))).size+5<=6*(N0+(d'.size+1)+1):=by
   unfold eF;rw[if_neg dc,if_neg dc,if_neg dc,if_neg dc,if_neg dc,if_pos rfl,e0,e1];cases ht:rowOf fx 6 (.cons a b c d (.cons a' b' c' d' .nil)) with
   |none=>have g1:=ZM [F3 (dT fx a b c d).hd,jX ((dT fx a b c d).args++[bO,gN (dT fx a' b' c' d').p])];have g2:=Lt ((dT fx a b c d).args++[bO,gN (dT fx a' b' c' d').p]);rw[eA,eA,fD] at g1;show(eW [F3 (dT fx a b c d).hd,jX ((dT fx a b c d).args++[bO,gN (dT fx a' b' c' d').p])]).size+5<=_;omega
   |some f=>have g0:=Ru (dT fx a b c d).b f.2.1 f.2.2 (-1);have g3:=Ru (dT fx a' b' c' d').p f.2.1 f.2.2 1;have g1:=ZM [qg (dT fx a b c d).b f.2.1 f.2.2 (-1),jX [bO,bC (f.1++[32]),qg (dT fx a' b' c' d').p f.2.1 f.2.2 1]];have g2:=Lt [bO,bC (f.1++[32]),qg (dT fx a' b' c' d').p f.2.1 f.2.2 1];rw[eA,eA,fD] at g1;rw[eA,eA,eA,fD,lO,gR] at g2;show(eW [qg (dT fx a b c d).b f.2.1 f.2.2 (-1),jX [bO,bC (f.1++[32]),qg (dT fx a' b' c' d').p f.2.1 f.2.2 1]]).size+5<=_;omega
  refine⟨hg,?_,?_⟩
  ·by_cases hl:cO fx 6 (.cons a b c d (.cons a' b' c' d' .nil))=1
   ·grind
   ·rw[if_neg hl,if_neg hl,fD];exact hg
  grind
 ·have hj:dT fx k t n ks=⟨vi fx k t n ks (dF fx ks),pz,vi fx k t n ks (dF fx ks),[],cm k t n (bH ks)⟩:=z1p fx t n ks _ h6;rw[hj];refine zde ?_;show(eF fx k t n ks (dF fx ks)).size+5<=_;by_cases ho:n5 k=true
  ·rw[ZP fx t n ks _ ho];have hb:=z4m k t (cK (dF fx ks) 0).p.doc (cK (dF fx ks) 1).p.doc (cK (dF fx ks) 2).p.doc;have mN:ag k 10=false:=by rcases E9 ho with h|h|h|h|h|h<;>subst h<;>rfl
   rw[mN] at hs;by_cases hA:k=5\/k=11
   ·rw[if_pos hA] at hb;obtain⟨a,b,c,d,rfl⟩:=ZO (c1 hA);obtain⟨s1,_⟩:=one hs;have e0:cK (dF fx (.cons a b c d .nil)) 0=dT fx a b c d:=rfl;rw[e0] at hb ⊢;have s1:=s1.1;show _+5<=6*((d.size+0+1)+1);omega
   ·rw[if_neg hA] at hb;by_cases h9:k=9
    ·rw[if_pos h9] at hb;obtain⟨a,b,c,d,r,rfl,hr⟩:=iJ (ks:=ks) (n:=2) (by have:=c3 h9;omega);obtain⟨a',b',c',d',r',rfl,he⟩:=iJ (n:=1) hr;obtain⟨a2,b2,pv,d2,r2,rfl,hq⟩:=iJ (n:=0) he;obtain rfl:=Bh hq;obtain⟨s1,hs⟩:=one hs;obtain⟨s2,hs⟩:=two hs;obtain⟨s3,_⟩:=one hs;have e0:cK (dF fx (.cons a b c d (.cons a' b' c' d' (.cons a2 b2 pv d2 .nil)))) 0=dT fx a b c d:=rfl;have e1:cK (dF fx (.cons a b c d (.cons a' b' c' d' (.cons a2 b2 pv d2 .nil)))) 1=dT fx a' b' c' d':=rfl;have e2:cK (dF fx (.cons a b c d (.cons a' b' c' d' (.cons a2 b2 pv d2 .nil)))) 2=dT fx a2 b2 pv d2:=rfl;rw[e0,e1,e2] at hb ⊢;have s1:=s1.1;have s2:=s2.1;have s3:=s3.1;show _+5<=6*((d.size+(d'.size+(d2.size+0+1)+1)+1)+1);omega
    ·rw[if_neg h9] at hb;have h2:k=6\/k=7\/k=8\/k=12:=by
      rcases E9 ho with h|h|h|h|h|h
      all_goals omega
     obtain⟨a,b,c,d,r,rfl,hr⟩:=iJ (ks:=ks) (n:=1) (by have:=c2 h2;omega);obtain⟨a',b',c',d',r',rfl,he⟩:=iJ (n:=0) hr;obtain rfl:=Bh he;obtain⟨s1,hs⟩:=one hs;obtain⟨s2,_⟩:=two hs;have e0:cK (dF fx (.cons a b c d (.cons a' b' c' d' .nil))) 0=dT fx a b c d:=rfl;have e1:cK (dF fx (.cons a b c d (.cons a' b' c' d' .nil))) 1=dT fx a' b' c' d':=rfl;rw[e0,e1] at hb ⊢;have s1:=s1.1;have s2:=s2.1;show _+5<=6*((d.size+(d'.size+0+1)+1)+1);omega
  ·unfold eF;by_cases g1:k=1
   ·rw[if_pos g1,gR];omega
   by_cases g2:k=2
   ·rw[if_neg g1,if_pos g2,gR];omega
   by_cases g3:k=3
   ·rw[if_neg g1,if_neg g2,if_pos g3,gR];omega
   rw[if_neg g1,if_neg g2,if_neg g3,if_neg ho];by_cases g10:k=10
   ·subst g10;rw[if_pos rfl];obtain⟨oC,HE⟩:=oC rfl;obtain⟨a,b,c,d,r,rfl,hr⟩:=iJ (ks:=ks) (n:=ks.av-1) om;have hc:(F.cons a b c d r).av=r.av+1:=rfl;obtain⟨a',b',c',d',r',rfl,he⟩:=iJ (ks:=r) (n:=r.av-1) om;have hu:(F.cons a' b' c' d' r').av=r'.av+1:=rfl;obtain⟨a2,b2,pv,d2,r2,rfl,hq⟩:=iJ (ks:=r') (n:=r'.av-1) om;have mN:ag 10 10=true:=rfl;rw[mN] at hs;obtain⟨s1,_,s3,s4⟩:=hs;have s1:=(s1 rfl).1;have s3:=(s3 rfl).1;have s5:=qwd fx r2.size r2 (Nat.le_refl _) s4;show(eW ([bC Pz.dP,bf (dT fx a b c d).p.doc,bO,bC Pz.eU]++([jX [bO,bC ((dT fx a' b' c' d').pt++[32,45,62]),bf (dT fx a2 b2 pv d2).p.doc]]++(nZ (dF fx r2)++[bO,bC Pz.jT])))).size+5<=6*((d.size+(d'.size+(d2.size+r2.size+1)+1)+1)+1);have g:=ZM ([bC Pz.dP,bf (dT fx a b c d).p.doc,bO,bC Pz.eU]++([jX [bO,bC ((dT fx a' b' c' d').pt++[32,45,62]),bf (dT fx a2 b2 pv d2).p.doc]]++(nZ (dF fx r2)++[bO,bC Pz.jT])));have g2:=Lt [bO,bC ((dT fx a' b' c' d').pt++[32,45,62]),bf (dT fx a2 b2 pv d2).p.doc];have g3:=PZ (dT fx a b c d).p.doc;have g4:=PZ (dT fx a2 b2 pv d2).p.doc;simp only[BL,eA,fD,gR,lO] at g g2;omega
   rw[if_neg g10,if_neg h6,gR];omega
def Rv(fx:List ak):∀(f:F) (m eD:Bool),eC m false eD f=0->Lu fx m eD f
 |.nil,_,_,_=>trivial
 |.cons k t n ks r,m,eD,h=>by obtain⟨h1,h2⟩:=dD.1 h;refine⟨fun hm=>?_,Rv fx r m (!eD) h2⟩;rw[hm,Bool.or_false] at h1;exact Vk fx h1 (Rv fx ks (ag k 10) false (bX.1 h1).2)
def qte(fx:List ak){k:Int}{t:Tx}{n:Int}{ks:F}(hv:aX k t n ks false=0):(dT fx k t n ks).p.doc.size<=6*(ks.size+1):=by have:=(Vk fx hv (Rv fx ks _ _ (bX.1 hv).2)).1;omega
def z4n(q:Bool)(kids:List (Sl Y0))(hn:kids.length<=1000000)(_hs:lens kids<=1000000):∀(m k:Nat) (acc:List Y0),k+m=kids.length->acc.length+lens (kids.drop k)<=1000001->aD uO (⟨q,kids⟩,(k:Int),⟨false,acc⟩,())=some (⟨false,acc++((kids.drop k).map (·.l)).flatten⟩,()):=by
 intro m
 induction m with
 |zero=>intro k acc hk hl;apply bZ;rw[qhf];simp only;rw[show ae kids=((kids.length:Nat):Int) from rfl,bD,if_neg om,zw om];simp
 |succ m ih=>
  intro k acc hk hl;have hc:k<kids.length:=om
  have hd:=jW hc;have he:lens (kids.drop k)=kids[k].l.length+lens (kids.drop (k+1)):=by unfold lens;rw[hd,zN,List.sum_cons]
  have step:uO (⟨q,kids⟩,(k:Int),⟨false,acc⟩,())=some (.inl (⟨q,kids⟩,((k+1:Nat):Int),⟨false,acc++kids[k].l⟩,())):=by
   rw[qhf];simp only;rw[show ae kids=((kids.length:Nat):Int) from rfl,bD,if_pos om,aU (zf hc),af,vX (by
    show((acc.length:Nat):Int)+((kids[k].l.length:Nat):Int)<=_;omega),af,aB om]
   rfl
  rw[cU step,ih (k+1) _ om (by rw[zd];omega),hd,zN,List.flatten_cons,zm]
def ZQ(k:Int)(s:Tx)(n z:Int)(q:Bool)(kids:List (Sl Y0))(hn:kids.length<=1000000)(hs:lens kids<=1000000):pa ((k,s,n,z),⟨q,kids⟩,())=some (⟨false,(k,s,n,(kids.length:Int))::(kids.map (·.l)).flatten⟩,()):=by have h:=z4n q kids hn hs kids.length 0 [(k,s,n,(kids.length:Int))] om (by rw[List.drop_zero,List.length_singleton];omega);rw[List.drop_zero] at h;rw[ada];exact h
def Ds(L:List (Sl Y0))(ds:List F):Prop:=PU L=ds.map F.flat/\∀d,d∈ds->d.av=1
def Ds.len{L:List (Sl Y0)}{ds:List F}(h:Ds L ds):L.length=ds.length:=by
 have:=congrArg List.length h.1
 rwa [zha,zG] at this
def zdf{d:F}(h:d.av=1):1<=d.size:=by have:=d.cu;omega
def JX:∀{ds:List F},(∀d,d∈ds->d.av=1)->ds.length<=(cf ds).size
 |[],_=>Nat.zero_le _
 |d::ds,h=>by have:=JX fun x hx=>h x (zh d hx);have:=zdf (h d (zg ..));rw[eA,zu];omega
def Ds.lens{L:List (Sl Y0)}{ds:List F}(h:Ds L ds):lens L=(cf ds).size:=by rw[zd0,h.1,<-qph,F.len]
def Ds.flat{L:List (Sl Y0)}{ds:List F}(h:Ds L ds):(L.map (·.l)).flatten=(cf ds).flat:=by rw[qph,<-h.1];rfl
def Ds.cat{L:List (Sl Y0)}{ds:List F}(h:Ds L ds)(k:Int)(n:Int):(k,([]:Tx),n,(L.length:Int))::(L.map (·.l)).flatten=(tr k [] n (cf ds)).flat:=by rw[FR,h.flat,z1n ds h.2,h.len]
def Ds.nil:Ds [] []:=⟨rfl,fun _ h=>by cases h⟩
def Ds.cons{y:(Sl Y0)}{L:List (Sl Y0)}{d:F}{ds:List F}(h1:y.l=d.flat)(h2:d.av=1)(h:Ds L ds):Ds (y::L) (d::ds):=⟨by show y.l::PU L=d.flat::ds.map F.flat;rw[h1,h.1],fun x hx=>by rcases zk.1 hx with rfl|hx;exact h2;exact h.2 x hx⟩
def Ds.app{L M:List (Sl Y0)}{ds es:List F}(h:Ds L ds)(g:Ds M es):Ds (L++M) (ds++es):=⟨by unfold PU;rw[zQ,zQ];exact congr (congrArg _ h.1) g.1,fun x hx=>(zH.1 hx).elim (h.2 x) (g.2 x)⟩
def Ds.get{y:(Sl Y0)}{L:List (Sl Y0)}{ds:List F}(h:Ds (y::L) ds):∃d es,ds=d::es/\y.l=d.flat:=by
 match ds,h with
 |[],h=>cases h.1
 |d::es,h=>have:=h.1;injection this with a b;exact⟨d,es,rfl,a⟩
def Lv(b:Bool){d:F}(h:d.av=1):(nY b d).av=1:=by cases b;exact h;rfl
def ZR{l:List F}(h:∀d,d∈l->d.av=1):(Bf l).av=1:=by
 match l,h with
 |[],_=>rfl
 |[d],h=>exact h d (zg ..)
 |_::_::_,_=>rfl
def ZS(k n:Int){d:F}(h:d.av=1):(k,([]:Tx),n,(1:Int))::([d.flat].flatten)=(tr k [] n d).flat:=by rw[FR,h];simp
def qi(s:Tx):gY (s,())=some (⟨false,(bC s).flat⟩,()):=by rw[abS,abR,Vf 41 s 0 0 true [] (by simp) (by simp[lens])];rfl
def Fa:gZ ()=some (⟨false,bO.flat⟩,()):=by rw[ab1,Vf 42 [] 0 0 true [] (by simp) (by simp[lens])];rfl
def qtf(b:Bool){L:List (Sl Y0)}{ds:List F}(h:Ds L ds)(hs:(cf ds).size<=100000):o5 (⟨b,L⟩,())=some (⟨false,(E7 ds).flat⟩,()):=by have hl:=h.len;have:=JX h.2;rw[abY,Vf 45 [] 0 0 b L om (by rw[h.lens];omega),h.cat];rfl
def qwf(b:Bool){L:List (Sl Y0)}{ds:List F}(h:Ds L ds)(hs:(cf ds).size<=100000):∃q,sW (⟨b,L⟩,())=some (⟨q,(Bf ds).flat⟩,()):=by
 rw[abZ];have hl:ae L=((ds.length:Nat):Int):=by show((L.length:Nat):Int)=_;rw[h.len]
 simp only;rw[hl]
 match ds,h,hs with
 |[d],h,_=>
  match L,h with
  |[y],h=>
   obtain⟨d',es,e,hy⟩:=h.get;injection e with e _;subst e;refine⟨y.nil,?_⟩;have h1:ag (([d].length:Nat):Int) 1=true:=rfl;have:cM [y] 0=some y:=rfl;rw[h1,aK,this,af];show some (y,())=_;obtain⟨q,l⟩:=y;show some ((⟨q,l⟩:(Sl Y0)),())=some (⟨q,d.flat⟩,())
   grind
  |[],h=>exact absurd h.len (by simp)
  |_::_::_,h=>exact absurd h.len (by simp)
 |[],h,hs=>refine⟨false,?_⟩;show az (o5 (⟨b,L⟩,())) _=_;rw[qtf b h hs,af];rfl
 |d::e::ds,h,hs=>
  refine⟨false,?_⟩;have he:ag (((d::e::ds).length:Nat):Int) 1=false:=by rfl
  rw[he,aI,qtf b h hs,af];rfl
def ZT(b:Bool){L:List (Sl Y0)}{ds:List F}(h:Ds L ds)(hs:(cf ds).size<=100000):j6 (⟨b,L⟩,())=some (⟨false,(jX ds).flat⟩,()):=by obtain⟨q,e⟩:=qwf b h hs;have hz:=Rt ds;rw[ab3,e,af,ab2,Vf 43 [] 2 0 false [⟨q,(Bf ds).flat⟩] (by simp) (by simp[lens,F.len];omega)];simp only[af];exact congrArg (fun z:List ND=>some ((⟨false,z⟩:(Sl Y0)),())) (ZS 43 2 (ZR h.2))
def JY(b:Bool){L:List (Sl Y0)}{ds:List F}(h:Ds L ds)(hs:(cf ds).size<=100000):jR (⟨b,L⟩,())=some (⟨false,(eW ds).flat⟩,()):=by obtain⟨q,e⟩:=qwf b h hs;have hz:=Rt ds;rw[ab0,e,af,abX,Vf 44 [] 0 0 false [⟨q,(Bf ds).flat⟩] (by simp) (by simp[lens,F.len];omega)];simp only[af];exact congrArg (fun z:List ND=>some ((⟨false,z⟩:(Sl Y0)),())) (ZS 44 0 (ZR h.2))
def Ds.one{y:(Sl Y0)}{d:F}(h1:y.l=d.flat)(h2:d.av=1):Ds [y] [d]:=.cons h1 h2 .nil
def Fb(y:(Sl Y0)){d:F}(h1:y.l=d.flat)(h2:d.av=1)(hs:d.size<=90000):mI (y,())=some (⟨false,(bf d).flat⟩,()):=by rw[ab4,Fa,af];simp only;rw[ZT false (.cons (d:=bO) rfl rfl (.one h1 h2)) (by rw[eA,eA,fD,lO];omega),af];rfl
def vG(s:Tx):eO (s,())=some (⟨false,(bC s).flat⟩,()):=ac6 s
def F4:ic ()=some (⟨false,bO.flat⟩,()):=adf
def qwg(b:Bool){L:List (Sl Y0)}{ds:List F}(h:Ds L ds)(hs:(cf ds).size<=100000):∃q,AW (⟨b,L⟩,())=some (⟨q,(Bf ds).flat⟩,()):=by
 have hc:=h.len;have hf:=JX h.2;have mk:pa ((45,[],0,0),⟨b,L⟩,())=some (⟨false,(E7 ds).flat⟩,()):=by rw[ZQ 45 [] 0 0 b L om (by rw[h.lens];omega),h.cat];rfl
 rw[adb];have hl:ae L=((ds.length:Nat):Int):=by show((L.length:Nat):Int)=_;rw[h.len]
 simp only;rw[hl]
 match ds,h,hs,mk with
 |[d],h,_,_=>
  match L,h with
  |[y],h=>
   obtain⟨d',es,e,hy⟩:=h.get;injection e with e _;subst e;refine⟨y.nil,?_⟩;have h1:ag (([d].length:Nat):Int) 1=true:=rfl;have:cM [y] 0=some y:=rfl;rw[h1,aK,this,af];show some (y,())=_;obtain⟨q,l⟩:=y;show some ((⟨q,l⟩:(Sl Y0)),())=some (⟨q,d.flat⟩,())
   grind
  |[],h=>exact absurd h.len (by simp)
  |_::_::_,h=>exact absurd h.len (by simp)
 |[],h,hs,mk=>refine⟨false,?_⟩;show az (pa ((45,[],0,0),⟨b,L⟩,())) _=_;rw[mk,af];rfl
 |d::e::ds,h,hs,mk=>
  refine⟨false,?_⟩;have he:ag (((d::e::ds).length:Nat):Int) 1=false:=by rfl
  rw[he,aI,mk,af];rfl
def ZU(b:Bool){L:List (Sl Y0)}{ds:List F}(h:Ds L ds)(hs:(cf ds).size<=100000):pb (⟨b,L⟩,())=some (⟨false,(jX ds).flat⟩,()):=by obtain⟨q,e⟩:=qwg b h hs;have hz:=Rt ds;rw[adg,e,af];simp only;rw[ZQ 43 [] 2 0 false [⟨q,(Bf ds).flat⟩] (by simp) (by simp[lens,F.len];omega)];simp only[af];exact congrArg (fun z:List ND=>some ((⟨false,z⟩:(Sl Y0)),())) (ZS 43 2 (ZR h.2))
def J0(b:Bool){L:List (Sl Y0)}{ds:List F}(h:Ds L ds)(hs:(cf ds).size<=100000):kN (⟨b,L⟩,())=some (⟨false,(eW ds).flat⟩,()):=by obtain⟨q,e⟩:=qwg b h hs;have hz:=Rt ds;rw[ade,e,af];simp only;rw[ZQ 44 [] 0 0 false [⟨q,(Bf ds).flat⟩] (by simp) (by simp[lens,F.len];omega)];simp only[af];exact congrArg (fun z:List ND=>some ((⟨false,z⟩:(Sl Y0)),())) (ZS 44 0 (ZR h.2))
def BM(y:(Sl Y0)){d:F}(h1:y.l=d.flat)(h2:d.av=1)(hs:d.size<=90000):jx (y,())=some (⟨false,(bf d).flat⟩,()):=by rw[adh,F4,af];simp only;rw[ZU false (.cons (d:=bO) rfl rfl (.one h1 h2)) (by rw[eA,eA,fD,lO];omega),af];rfl
def dK(a b:Tx):cw a b=a++b:=id (Eq.refl (a++b))
def qlw{s:Tx}(hs:∀b,b∈s->0<=b/\b<=255)(hl:s.length<=1000000):mH (s,())=some (kA s,()):=by
 rw[abW,Zo s hs,af];simp only;unfold kA;cases gJ s with
 |false=>rfl
 |true=>
  rw[aK,show ae ([40]:Y1)=((1:Nat):Int) from rfl,show ae s=((s.length:Nat):Int) from rfl,il om,af,dK,
   show ae ([40]++s)=(((1+s.length):Nat):Int) from by show((([40]++s).length:Nat):Int)=_;rw[zd];rfl,
   show ae ([41]:Y1)=((1:Nat):Int) from rfl,il om,af,dK]
  rfl
def ZV{s:Tx}(hl:s.length<=1000000):jS (s,())=some (kA s,()):=by
 rw[ac5,qp7 s hl,af];simp only;unfold kA;cases gJ s with
 |false=>rfl
 |true=>
  rw[aK,show ae ([40]:Y1)=((1:Nat):Int) from rfl,show ae s=((s.length:Nat):Int) from rfl,il om,af,dK,
   show ae ([40]++s)=(((1+s.length):Nat):Int) from by show((([40]++s).length:Nat):Int)=_;rw[zd];rfl,
   show ae ([41]:Y1)=((1:Nat):Int) from rfl,il om,af,dK]
  rfl
def qi8{n:Int}(h:qf n=true):JI n:=by have:=zI h;unfold JI;omega
def z9j{n:Int}(h:qf n=true):oW (n,())=some (n,()):=by obtain⟨v,hv,he⟩:=qrb n (qi8 h);rw[h] at he;rw[hv,show v=n from by simpa[ag] using he]
def z1q{n:Int}(h:qf n=true):mG (n,())=some (nX n,()):=by
 obtain⟨h1,h2⟩:=qi8 h;have hf:DL (n,10,())=some (sn n,()):=by
  show(bif decide ((10:Int)=10)&&(decide (-9223372036854775808<=n)&&decide (n<=9223372036854775807)) then some (sn n,()) else none)=_
  grind
 have hl:=qou n;have hr:DK (sn n,[45],[126],1,())=some (jN (sn n),()):=by
  show(bif (([45]:List Int)==[45])&&((([126]:List Int)==[126])&&(decide ((1:Int)=1)&&decide ((sn n).length<=1000))) then some (jN (sn n),()) else none)=_
  grind
 rw[abT,z9j h,af];simp only;rw[hf,af];simp only;rw[hr,af];rfl
def qwh(f u:Nat):iX (f+1) u=if u<10 then [48+(u:Int)] else iX f (u / 10)++[48+((u % 10:Nat):Int)]:=rfl
def qwi:∀f u,∀b,b∈iX f u->48<=b/\b<=57
 |0,_,b,h=>absurd h (List.not_mem_nil)
 |f+1,u,b,h=>by
  unfold iX at h;split at h
  ·grind
  ·rcases zH.1 h with h|h
   ·exact qwi f _ b h
   grind
def z9k:∀l:Tx,(∀b,b∈l->b≠45)->jN l=l
 |[],_=>rfl
 |b::l,h=>by unfold jN;rw[if_neg (h b (zg ..)),z9k l fun x hx=>h x (zh _ hx)]
def zhn(n:Int):nX n=if n<0 then 126::iX 20 n.natAbs else iX 20 n.toNat:=by
 unfold nX sn;by_cases h:n<0
 ·rw[if_pos h,if_pos h];rfl
 ·rw[if_neg h,if_neg h];exact z9k _ fun b hb=>by have:=qwi _ _ b hb;omega
def Vl(n:Int)(s:Tx):Tx:=if n<0 then 126::s else s
def z9l(n:Int)(s:Tx)(hs:s≠[])(hl:s.length<=1000):aD p9 (n,s,0,())=some (Vl n s,()):=by
 refine bZ ?_;rw[qhe];have e1:bM s ([]:Y1)=false:=by
  show(s==[])=false
  grind
 simp only[e1,aI];rw[show aL 0 0=false from rfl,af,aI,bD];unfold Vl;by_cases h:n<0
 ·rw[if_pos h,if_pos h,show ae ([126]:Y1)=((1:Nat):Int) from rfl,show ae s=((s.length:Nat):Int) from rfl,il om,af];rfl
 grind
def qlx(n:Int):∀(f u:Nat) (s:Tx),u<10 ^ f->u<9223372036854775808->0<f->(s=[]\/0<u)->s.length+f<=100->aD p9 (n,s,(u:Int),())=some (Vl n (iX f u++s),())
 |0,_,_,_,_,h,_,_=>absurd h dc
 |f+1,u,s,hu,hg,_,hc,hl=>by
  have step:p9 (n,s,(u:Int),())=some (Sum.inl (n,[48+((u % 10:Nat):Int)]++s,((u / 10:Nat):Int),())):=by
   rw[qhe];have hx:az (aP (bM s ([]:Y1)) (some true) (some (aL 0 (u:Int)))) (fun x3=>some x3)=some true:=by
    rcases hc with hc|hc
    ·subst hc;rfl
    ·cases bM s ([]:Y1) with
     |true=>rfl
     |false=>rw[aI,af];exact congrArg some (zt om)
   have hx:aP (bM s ([]:Y1)) (some true) (some (aL 0 (u:Int)))=some true:=by
    cases h:aP (bM s ([]:Y1)) (some true) (some (aL 0 (u:Int))) with
    |none=>rw[h] at hx;cases hx
    |some a=>rw[h,af] at hx;exact hx
   simp only;rw[hx,af,aK,Mj om dc];simp only[af];have e2:dV .u8 (cE .u64 48 ((u:Int) % 10))=48+((u % 10:Nat):Int):=by
    have e3:cE .u64 48 ((u:Int) % 10)=48+(u:Int) % 10:=by unfold cE;rw[Ln];omega
    rw[e3];unfold dV IntKind.wrap;simp[IntKind.bits,IntKind.signed];omega
   rw[e2,show ae ([48+((u % 10:Nat):Int)]:Y1)=((1:Nat):Int) from rfl,show ae s=((s.length:Nat):Int) from rfl,il om,af];have e4:l7 .u64 (u:Int) 10=some ((u / 10:Nat):Int):=by unfold l7;rw[if_neg dc,Ln,Int.tdiv_eq_ediv_of_nonneg om];congr 1;omega
   rw[e4,af];rfl
  rw[cU step];by_cases he:u<10
  ·have e1:u / 10=0:=Nat.div_eq_of_lt he;have e2:u % 10=u:=Nat.mod_eq_of_lt he;rw[e1,e2];have:=z9l n ([48+(u:Int)]++s) (by simp) (by simp;omega);rw[show(((0:Nat):Int))=0 from rfl,this];rw[qwh,if_pos he]
  ·have hf:0<f:=by grind
   have hp:u / 10<10 ^ f:=om
   rw[qlx n f (u / 10) ([48+((u % 10:Nat):Int)]++s) hp om hf (.inr om) (by simp;omega)];rw[qwh,if_neg he,zm]
def qwk{n:Int}(h:qf n=true):re (n,())=some (nX n,()):=by
 have hb:=zI h;obtain⟨v,hv,he⟩:=qrh n (qi8 h);rw[h] at he;have hc:v=n:=by simpa[ag] using he
 subst hc;rw[ac8,hv,af,ac7];simp only;rw[bD,zhn];by_cases h0:v<0
 ·have e1:dV .u64 (gS .i64 0 v)=((v.natAbs:Nat):Int):=by rw[xH om om];unfold dV;rw[Ln];omega
  rw[if_pos h0,af,if_pos h0];simp only;rw[e1,qlx v 20 v.natAbs [] om om dc (.inl rfl) dc];unfold Vl
  grind
 ·have e1:dV .u64 v=((v.toNat:Nat):Int):=by unfold dV;rw[Ln];omega
  rw[if_neg h0,af,if_neg h0];simp only;rw[e1,qlx v 20 v.toNat [] om om dc (.inl rfl) dc];unfold Vl
  grind
abbrev vk:Tx:=[48,49,50,51,52,53,54,55,56,57,97,98,99,100,101,102]
def zho:∀c:Fin 256,la .u8 (c.val:Int) 4=some ((c.val / 16:Nat):Int)/\cI vk ((c.val / 16:Nat):Int) (cE .u8 ((c.val / 16:Nat):Int) 1)=some [fQ ((c.val / 16:Nat):Int)]/\cI vk (l9 .u8 (c.val:Int) 15) (cE .u8 (l9 .u8 (c.val:Int) 15) 1)=some [fQ ((c.val % 16:Nat):Int)]:=by decide+kernel
def z9m:∀c:Fin 16,cM vk (c.val:Int)=some (fQ (c.val:Int)):=by decide+kernel
def zjo{c:Int}(h0:0<=c)(h1:c<=255):la .u8 c 4=some (c / 16)/\cI vk (c / 16) (cE .u8 (c / 16) 1)=some [fQ (c / 16)]/\cI vk (l9 .u8 c 15) (cE .u8 (l9 .u8 c 15) 1)=some [fQ (c % 16)]:=by obtain⟨n,rfl⟩:=Int.eq_ofNat_of_zero_le h0;exact zho ⟨n,by omega⟩
def qz0(t:Tx)(b nb:Bool)(acc:Tx)(h:acc.length+t.length<=1000000):∃q,gX (t,b,⟨nb,acc⟩,())=some (ae t,true,⟨q,acc++t⟩,()):=by rw[Um];have e:o3 (b,⟨nb,acc⟩,())=some (true,⟨nb,acc⟩,()):=rfl;rw[e,af];simp only;rw[show ae acc=((acc.length:Nat):Int) from rfl,show ae t=((t.length:Nat):Int) from rfl,il om,af];exact⟨_,rfl⟩
def qz1(c:Int)(b nb:Bool)(acc:Tx)(h:acc.length+1<=1000000):∃q,wS (c,b,⟨nb,acc⟩,())=some (true,⟨q,acc++[c]⟩,()):=by rw[abU];have e:o3 (b,⟨nb,acc⟩,())=some (true,⟨nb,acc⟩,()):=rfl;rw[e,af];simp only;rw[show ae acc=((acc.length:Nat):Int) from rfl,show ae ([c]:Y1)=((1:Nat):Int) from rfl,il om,af];exact⟨_,rfl⟩
def z1r(c:Int):(dU c).length<=4:=by
 unfold dU
 grind
def z9n{s:Tx}{i:Nat}(h:i<s.length):cI s (i:Int) ((i+1:Nat):Int)=some [s[i]]:=by unfold cI;rw[if_pos ⟨by omega,by omega,by omega⟩];congr 1;rw[Int.toNat_natCast,Int.toNat_natCast,List.drop_take,jW h,Nat.add_sub_cancel_left];rfl
def z4o{s:Tx}(hb:∀b,b∈s->0<=b/\b<=255)(hs:s.length<=100000):∀(m i:Nat) (nb:Bool) (acc:Tx),i+m=s.length->acc.length<=1+4*i->aD ud (s,(s.length:Int),(i:Int),true,⟨nb,acc⟩,())=some (acc++(s.drop i).flatMap dU++[34],()):=by
 intro m
 induction m with
 |zero=>
  intro i nb acc hi hl;obtain⟨q,e⟩:=qz1 34 true nb acc om;refine bZ ?_;rw[qjn];simp only;rw[bD,if_neg om,e,af,zw om];simp only;show az (qS (true,⟨q,acc++[34]⟩,())) _=_;rw[show qS (true,⟨q,acc++[34]⟩,())=some (acc++[34],()) from rfl,af]
  grind
 |succ m ih=>
  intro i nb acc hi hl;have he:i<s.length:=om
  have hd:=jW he;obtain⟨h0,h1⟩:=hb s[i] (List.getElem_mem he);have hq:=z1r s[i];obtain⟨q,step⟩:∃q,ud (s,(s.length:Int),(i:Int),true,⟨nb,acc⟩,())=some (Sum.inl (s,(s.length:Int),((i+1:Nat):Int),true,⟨q,acc++dU s[i]⟩,())):=by
   rw[qjn];simp only;rw[bD,if_pos om,aU (zf he),af];have hf:=aB (k:=i) om;have hg:=z9n he;generalize s[i]=c at*
   by_cases c1:c=34\/c=92
   ·have hc:dU c=[92,c]:=by unfold dU;rw[if_pos c1]
    have e0:aP (ag c 34) (some (s,(i:Int),c,(s.length:Int),(i:Int),ag c 34,true,(⟨nb,acc⟩:Sl Int),())) (some (s,(i:Int),c,(s.length:Int),(i:Int),ag c 92,true,(⟨nb,acc⟩:Sl Int),()))=some (s,(i:Int),c,(s.length:Int),(i:Int),true,true,(⟨nb,acc⟩:Sl Int),()):=by rcases c1 with rfl|rfl<;>rfl
    rw[e0,af];simp only;obtain⟨q,e⟩:=qz0 ([92]++[c]) true nb acc (by show acc.length+2<=_;omega);rw[aK,hf,hg,af,show ae ([92]:Y1)=((1:Nat):Int) from rfl,show ae ([c]:Tx)=((1:Nat):Int) from rfl,il om,af,dK,e];simp only[af]
    grind
   ·have hj:c≠34:=fun e=>c1 (.inl e);have hk:c≠92:=fun e=>c1 (.inr e);rw[eB hj,aI,af];simp only;rw[eB hk,aI,gP];by_cases c2:c=10
    ·have hc:dU c=[92,110]:=by unfold dU;rw[if_neg c1,if_pos c2]
     obtain⟨q,e⟩:=qz0 [92,110] true nb acc (by show acc.length+2<=_;omega);rw[if_pos c2,e];simp only[af]
     grind
    ·rw[if_neg c2,bD];by_cases c3:c<32\/126<c
     ·have hc:dU c=[92,120,fQ (c / 16),fQ (c % 16)]:=by unfold dU;rw[if_neg c1,if_neg c2,if_pos c3]
      have e3:(if c<32 then some true else some (aL 126 c))=some true:=by
       by_cases c4:c<32
       ·rw[if_pos c4]
       ·rw[if_neg c4];exact congrArg some (zt om)
      obtain⟨g1,g2,g3⟩:=zjo h0 h1;obtain⟨q,e⟩:=qz0 ([92,120]++[fQ (c / 16)]++[fQ (c % 16)]) true nb acc (by show acc.length+4<=_;omega);rw[e3];simp only[af,aK,g1];rw[g2];simp only[af];rw[show ae ([92,120]:Y1)=((2:Nat):Int) from rfl,show ae ([fQ (c / 16)]:Tx)=((1:Nat):Int) from rfl,il om];simp only[af];rw[g3];simp only[af];rw[dK,show ae (([92,120]:Y1)++[fQ (c / 16)])=((3:Nat):Int) from rfl,show ae ([fQ (c % 16)]:Tx)=((1:Nat):Int) from rfl,il om];simp only[af];rw[dK,e];simp only[af]
      grind
     ·have hc:dU c=[c]:=by unfold dU;rw[if_neg c1,if_neg c2,if_neg c3]
      have e3:(if c<32 then some true else some (aL 126 c))=some false:=by rw[if_neg om];exact congrArg some (zo om)
      obtain⟨q,e⟩:=qz1 c true nb acc om;rw[e3];simp only[af,aI];rw[e];simp only[af]
      grind
  rw[cU step,ih (i+1) q _ om (by rw[zd];omega),hd,List.flatMap_cons,zm acc]
def z4p{s:Tx}(hb:∀b,b∈s->0<=b/\b<=255)(hs:s.length<=100000):wT (s,())=some (Bg s,()):=by obtain⟨q,e⟩:=qz1 34 false true [] dc;rw[abV,e,af];exact z4o hb hs s.length 0 q [34] om dc
def qz2{s:Tx}(hb:∀b,b∈s->0<=b/\b<=255)(hs:s.length<=100000):∀(m i:Nat) (acc:Tx),i+m=s.length->acc.length<=1+4*i->aD uN (s,vk,acc,(i:Int),())=some (acc++(s.drop i).flatMap dU++[34],()):=by
 intro m
 induction m with
 |zero=>
  intro i acc hi hl;refine bZ ?_;rw[qfv];simp only;rw[show ae s=((s.length:Nat):Int) from rfl,bD,if_neg om,zw om,show ae acc=((acc.length:Nat):Int) from rfl,show ae ([34]:Y1)=((1:Nat):Int) from rfl,il om,af,dK]
  grind
 |succ m ih=>
  intro i acc hi hl;have hg:i<s.length:=om
  have hd:=jW hg;obtain⟨h0,h1⟩:=hb s[i] (List.getElem_mem hg);have hq:=z1r s[i];have step:uN (s,vk,acc,(i:Int),())=some (Sum.inl (s,vk,acc++dU s[i],((i+1:Nat):Int),())):=by
   rw[qfv];simp only;rw[show ae s=((s.length:Nat):Int) from rfl,bD,if_pos om,aU (zf hg),af];have he:=aB (k:=i) om;have hf:=z9n hg;generalize s[i]=c at*
   rw[qy7 om om];have hj:ae acc=((acc.length:Nat):Int):=rfl;by_cases c1:c=34\/c=92
   ·have hc:dU c=[92,c]:=by unfold dU;rw[if_pos c1]
    have e0:aP (ag c 34) (some true) (some (ag c 92))=some true:=by rcases c1 with rfl|rfl<;>rfl
    rw[e0];simp only[af,aK];rw[he,hf];simp only[af];rw[show ae ([92]:Y1)=((1:Nat):Int) from rfl,show ae ([c]:Tx)=((1:Nat):Int) from rfl,il om];simp only[af];rw[dK,hj,show ae (([92]:Y1)++[c])=((2:Nat):Int) from rfl,il om];simp only[af];rw[he,hc,dK];rfl
   ·have hm:c≠34:=fun e=>c1 (.inl e);have hn:c≠92:=fun e=>c1 (.inr e);rw[eB hm,aI,eB hn];simp only[af,aI];rw[gP];by_cases c2:c=10
    ·have hc:dU c=[92,110]:=by unfold dU;rw[if_neg c1,if_pos c2]
     rw[if_pos c2,hj,show ae ([92,110]:Y1)=((2:Nat):Int) from rfl,il om];simp only[af];rw[he,hc,dK]
    ·rw[if_neg c2,XN];by_cases c3:c<32\/126<c
     ·have hc:dU c=[92,120,fQ (c / 16),fQ (c % 16)]:=by unfold dU;rw[if_neg c1,if_neg c2,if_pos c3]
      have e3:(if 32<=c then some (bJ c 126) else some false)=some false:=by
       by_cases c4:32<=c
       ·rw[if_pos c4];exact congrArg some (zo om)
       ·rw[if_neg c4]
      have d1:=z9m ⟨(c / 16).toNat,by omega⟩;have d2:=z9m ⟨(c % 16).toNat,by omega⟩;rw[show(((⟨(c / 16).toNat,by omega⟩:Fin 16).val:Nat):Int)=c / 16 from Int.toNat_of_nonneg om] at d1;rw[show(((⟨(c % 16).toNat,by omega⟩:Fin 16).val:Nat):Int)=c % 16 from Int.toNat_of_nonneg om] at d2;have hk:l7 .i64 c 16=some (c / 16):=zc4 h0 dc (mV.2 ⟨by omega,by omega⟩) dc;rw[e3];simp only[af,aI];rw[hk];simp only[af];rw[d1];simp only[af];rw[Mj h0 dc];simp only[af];rw[d2];simp only[af];rw[hj,show ae ([92,120,fQ (c / 16),fQ (c % 16)]:Y1)=((4:Nat):Int) from rfl,il om];simp only[af];rw[he,hc,dK]
     ·have hc:dU c=[c]:=by unfold dU;rw[if_neg c1,if_neg c2,if_neg c3]
      have e3:(if 32<=c then some (bJ c 126) else some false)=some true:=by rw[if_pos om];exact congrArg some (zt om)
      rw[e3];simp only[af,aK];rw[he,hf];simp only[af];rw[hj,show ae ([c]:Tx)=((1:Nat):Int) from rfl,il om];simp only[af];rw[he,hc,dK]
  rw[cU step,ih (i+1) _ om (by rw[zd];omega),hd,List.flatMap_cons,zm acc]
def qz3{s:Tx}(hb:∀b,b∈s->0<=b/\b<=255)(hs:s.length<=100000):AV (s,())=some (Bg s,()):=by rw[ac9];exact qz2 hb hs s.length 0 [34] om dc
def TL(N:Nat)(l:List ND):Prop:=∀x,x∈l->x.2.1.length<=N
def Rw(s:Tx):(kA s).length<=s.length+2:=by
 unfold kA;cases gJ s with
 |false=>show s.length<=_;omega
 |true=>show([40]++s++[41]).length<=_;simp
def z1s(n:Int):(nX n).length<=21:=by unfold nX;rw[qss];exact qou n
def ZW(k:Int)(c:Nat)(s:Tx):(iF k c s).length<=s.length+2:=by
 unfold iF;split
 ·simp
 ·omega
def ZX(k:Int)(t:Tx)(n:Int)(qs:List (Tx×Tx)):(cm k t n qs).length<=t.length+21+(yw qs).length:=by
 unfold cm;split
 ·show 1<=_;omega
 split
 ·have:=Rw t;omega
 split
 ·have:=z1s n;omega
 grind
def qtg:∀(f:F),TL 1000 f.flat->(yw (bH f)).length<=1030*f.size
 |.nil,_=>Nat.zero_le _
 |.cons k t n ks r,h=>by
  have h1:=qtg ks fun x hx=>h x (zh _ (List.mem_append_left _ hx));have h2:=qtg r fun x hx=>h x (zh _ (List.mem_append_right _ hx));have h3:t.length<=1000:=h (k,t,n,(ks.av:Int)) (zg ..);have h4:=ZX k t n (bH ks);have h5:=ZW k ks.av (cm k t n (bH ks));show((([32]:Tx)++iF k ks.av (cm k t n (bH ks)))++yw (bH r)).length<=1030*(ks.size+r.size+1)
  grind
def Vm(k:Int)(t:Tx)(n:Int)(ks:F)(h:TL 1000 (tr k t n ks).flat):(cm k t n (bH ks)).length+3<=1030*(ks.size+1):=by have h1:=qtg ks fun x hx=>h x (by rw[FR];exact zh _ hx);have h3:t.length<=1000:=h (k,t,n,(ks.av:Int)) (by rw[FR];exact zg ..);have h4:=ZX k t n (bH ks);omega
def P0{α:Type}(pre:List α)(a:α)(post:List α):cM (pre++a::post) (pre.length:Int)=some a:=aU (by rw[zO (Nat.le_refl _),Nat.sub_self];rfl)
def rA(a b:Tx)(h:a.length+b.length<=2000000):fit (bS (ae a) (ae b))=some ():=il (a:=a.length) (b:=b.length) h
def aJ.tl{N:Nat}{l:List ND}(h:TL N l){k:Nat}{f:F}(hs:aJ l k f):TL N f.flat:=by obtain⟨post,e⟩:=hs;intro x hx;exact h x (List.mem_of_mem_drop (by rw[e];exact List.mem_append_left _ hx))
def zjp(self:oT)(b:Bool)(l:List ND)(N:Nat):Prop:=∀(q:Nat) (k:Int) (t:Tx) (n:Int) (ks r:F) (inner:Bool),aJ l q (.cons k t n ks r)->aX k t n ks true=0->ks.size<N->
 self (⟨b,l⟩,(q:Int),inner,())=some (bif inner then iF k ks.av (cm k t n (bH ks)) else cm k t n (bH ks),())
def ZY(inner:Bool)(c:Int)(s:Tx):Tx:=bif inner&&aL 0 c then [40]++s++[41] else s
def zdg{self:oT}{b:Bool}{l:List ND}{N:Nat}(hl:l.length<=10000)(ht:TL 1000 l)(hp:zjp self b l N)(inner nb:Bool)(kd:Int)(t:Tx)(n c:Int):∀(g:F) (q:Nat) (m eD:Bool) (pre:List Int) (s:Tx),aJ l q g->q<=l.length->eC m true eD g=0->g.size<=N->pre.length+g.av<=10000->s.length+1030*g.size<=1100000->aD (ue self) (⟨b,l⟩,inner,s,⟨nb,pre++g.pos q⟩,((pre.length+g.av:Nat):Int),(pre.length:Int),kd,t,n,c,())=some (ZY inner c (s++yw (bH g)),()):=by
 intro g
 induction g with
 |nil=>
  intro q m eD pre s _ _ _ _ _ hc;refine bZ ?_;rw[qe4];simp only;rw[bD,if_neg (by show ¬(pre.length:Int)<((pre.length+0:Nat):Int);omega)];show _=some (Sum.inr (ZY inner c (s++[]),()));rw[zn];unfold ZY;cases inner with
  |false=>rfl
  |true=>
   rw[aK,af];cases aL 0 c with
   |false=>rfl
   |true=>have hc:s.length+0<=1100000:=hc;rw[aK,rA [40] s (by show 1+s.length<=_;omega),af,dK,rA ([40]++s) [41] (by simp;omega),af,dK];rfl
 |cons k' t' n' bE r' _ ih=>
  intro q m eD pre s hs hq he hN hk hc;have hk:pre.length+(r'.av+1)<=10000:=hk;have hN:bE.size+r'.size+1<=N:=hN;have hc:s.length+1030*(bE.size+r'.size+1)<=1100000:=hc;obtain⟨hm,hn⟩:=dD.1 he;rw[Bool.true_or] at hm;obtain⟨g1,g2,g3,g4⟩:=hs.node;have hf:=hp q k' t' n' bE r' true hs hm om;have ho:=Vm k' t' n' bE (aJ.tl ht hs.first);have hu:=ZW k' bE.av (cm k' t' n' (bH bE));have hg:pre.length+(F.cons k' t' n' bE r').av=(pre++[(q:Int)]).length+r'.av:=by
   show pre.length+(r'.av+1)=_
   grind
  have hj:pre++(F.cons k' t' n' bE r').pos q=(pre++[(q:Int)])++r'.pos (q+1+bE.size):=by
   show pre++(q:Int)::_=_
   grind
  have step:ue self (⟨b,l⟩,inner,s,⟨nb,pre++(F.cons k' t' n' bE r').pos q⟩,((pre.length+(F.cons k' t' n' bE r').av:Nat):Int),(pre.length:Int),kd,t,n,c,())=
    some (Sum.inl (⟨b,l⟩,inner,s++([32]++iF k' bE.av (cm k' t' n' (bH bE))),⟨nb,pre++(F.cons k' t' n' bE r').pos q⟩,((pre.length+(F.cons k' t' n' bE r').av:Nat):Int),((pre.length+1:Nat):Int),kd,t,n,c,())):=by
   rw[qe4];simp only;rw[bD,if_pos (by show(pre.length:Int)<((pre.length+(r'.av+1):Nat):Int);omega)];have ha:cM (pre++(F.cons k' t' n' bE r').pos q) (pre.length:Int)=some (q:Int):=P0 pre (q:Int) _;rw[ha];simp only[af];rw[hf];simp only[af,cond_true];rw[rA [32] _ (by show 1+_<=_;omega)];simp only[af];rw[dK,rA s _ (by rw[zd,List.length_singleton];omega)];simp only[af];rw[aB om,dK]
  rw[cU step,hg,hj,show pre.length+1=(pre++[(q:Int)]).length from by rw[zd];rfl];rw[ih (q+1+bE.size) m (!eD) (pre++[(q:Int)]) _ g3 om hn om (by rw[zd,List.length_singleton];omega) (by rw[zd,zd,List.length_singleton];omega)];rw[zm];rfl
def z9o{b:Bool}{l:List ND}(hl:l.length<=1000)(hg:GL l)(ht:TL 1000 l):∀N:Nat,zjp (bc wU N) b l N
 |0=>fun _ _ _ _ _ _ _ _ _ h=>absurd h (Nat.not_lt_zero _)
 |N+1=>by
  have ih:=z9o (b:=b) hl hg ht N;intro q k t n ks r inner hs he hN;obtain⟨g1,g2,g3,g4⟩:=hs.node;have hx:=hg.at g1;have hq:t.length<=1000:=ht _ (zv g1);obtain⟨hn,hf⟩:=bX.1 he;obtain⟨_,hm,hk,hj,_,_⟩:=bT.1 hn;show wU (bc wU N) (⟨b,l⟩,(q:Int),inner,())=_;rw[ab5,aU g1,af];simp only;rw[gP];by_cases k1:k=21
  ·subst k1;rw[if_pos rfl];cases inner<;>rfl
  rw[if_neg k1,gP];by_cases k2:k=22
  ·subst k2;rw[if_pos rfl,qlw (s:=t) hx.1 om,af];cases inner<;>rfl
  rw[if_neg k2,gP];by_cases k3:k=23
  ·subst k3;have hw:qf n=true:=hj;rw[if_pos rfl,z1q hw,af];cases inner<;>rfl
  obtain⟨nb,e⟩:=PE b l om hs;rw[if_neg k3,e,af];simp only;have ho:ae (ks.pos (q+1))=(((([]:List Int).length+ks.av:Nat)):Int):=by
   show(((ks.pos (q+1)).length:Nat):Int)=_;rw[F.dL]
   grind
  have hh:=zdg (N:=N) om ht ih inner nb k t n (ks.av:Int) ks (q+1) (ag k 10) false [] t g2 om hf om (by show 0+ks.av<=_;have:=ks.cu;omega) om;rw[ho];refine Eq.trans hh ?_;have hT:cm k t n (bH ks)=t++yw (bH ks):=by unfold cm;rw[if_neg k1,if_neg k2,if_neg k3]
  unfold ZY iF;rw[hT];cases inner with
  |false=>rfl
  |true=>
   by_cases hc:ks.av=0
   ·have e1:aL 0 (ks.av:Int)=false:=zo om
    grind
   ·have e1:aL 0 (ks.av:Int)=true:=zt om
    grind
def z9p{b:Bool}{l:List ND}(hl:l.length<=1000)(hg:GL l)(ht:TL 1000 l){q:Nat}{k:Int}{t:Tx}{n:Int}{ks r:F}(inner:Bool)(hs:aJ l q (.cons k t n ks r))(he:aX k t n ks true=0):AB (⟨b,l⟩,(q:Int),inner,())=some (bif inner then iF k ks.av (cm k t n (bH ks)) else cm k t n (bH ks),()):=vw (ks.size+1) fun N hN=>z9o hl hg ht N q k t n ks r inner hs he hN
def zf2(self:gI)(b:Bool)(l:List ND)(N:Nat):Prop:=∀(q:Nat) (k:Int) (t:Tx) (n:Int) (ks r:F),aJ l q (.cons k t n ks r)->aX k t n ks true=0->ks.size<N->
 self (⟨b,l⟩,(q:Int),())=some (cm k t n (bH ks),())
def z9q{k:Int}(h:ix k=true):k=21\/k=22\/k=23\/k=24:=by
 have h:(decide (21<=k)&&decide (k<=24))=true:=h
 grind
def z9r{self:gI}{b:Bool}{l:List ND}{N:Nat}(_hl:l.length<=10000)(ht:TL 1000 l)(hp:zf2 self b l N):∀(g:F) (q:Nat) (m eD:Bool) (pre:List Int) (s:Tx),aJ l q g->q<=l.length->eC m true eD g=0->g.size<=N->pre.length+g.av<=10000->s.length+1030*g.size<=1100000->aD (uP self) (⟨b,l⟩,s,⟨false,pre++g.pos q⟩,(pre.length:Int),())=some (s++yw (bH g),()):=by
 intro g
 induction g with
 |nil=>intro q m eD pre s _ _ _ _ _ hg;refine bZ ?_;rw[qc5];simp only;rw[show ae (pre++F.nil.pos q)=(((pre++([]:List Int)).length:Nat):Int) from rfl,zn,bD,if_neg om];show _=some (Sum.inr (s++[],()));rw[zn]
 |cons k' t' n' bE r' _ ih=>
  intro q m eD pre s hs hq he hN hv hg;have hv:pre.length+(r'.av+1)<=10000:=hv;have hN:bE.size+r'.size+1<=N:=hN;have hg:s.length+1030*(bE.size+r'.size+1)<=1100000:=hg;obtain⟨hj,hw⟩:=dD.1 he;rw[Bool.true_or] at hj;obtain⟨g1,g2,g3,g4⟩:=hs.node;obtain⟨hn,_⟩:=bX.1 hj;obtain⟨_,hl,hk,_,_,_⟩:=bT.1 hn;have hf:=hp q k' t' n' bE r' hs hj om;have hy:=Vm k' t' n' bE (aJ.tl ht hs.first);have hz:=ZW k' bE.av (cm k' t' n' (bH bE));have hm:pre++(F.cons k' t' n' bE r').pos q=(pre++[(q:Int)])++r'.pos (q+1+bE.size):=by
   show pre++(q:Int)::_=_
   grind
  have step:uP self (⟨b,l⟩,s,⟨false,pre++(F.cons k' t' n' bE r').pos q⟩,(pre.length:Int),())=
    some (Sum.inl (⟨b,l⟩,s++([32]++iF k' bE.av (cm k' t' n' (bH bE))),⟨false,pre++(F.cons k' t' n' bE r').pos q⟩,((pre.length+1:Nat):Int),())):=by
   rw[qc5];simp only;have ho:ae (pre++(F.cons k' t' n' bE r').pos q)=((pre.length+(r'.av+1):Nat):Int):=by show(((pre++(F.cons k' t' n' bE r').pos q).length:Nat):Int)=_;rw[zd,F.dL];rfl
   rw[ho,bD,if_pos om];have ha:cM (pre++(F.cons k' t' n' bE r').pos q) (pre.length:Int)=some (q:Int):=P0 pre (q:Int) _;rw[ha];simp only[af];rw[hf];simp only[af];rw[aU g1];simp only[af];have tail:∀u:Tx,u.length<=(cm k' t' n' (bH bE)).length+2->az (fit (bS (ae ([32]:Y1)) (ae u))) (fun _=>az (fit (bS (ae s) (ae (cw ([32]:Y1) u)))) (fun _=>some (Sum.inl ((⟨b,l⟩:(Sl Y0)),cw s (cw ([32]:Y1) u),(⟨false,pre++(F.cons k' t' n' bE r').pos q⟩:Sl Int),cE .i64 (pre.length:Int) 1,()))))=
     (some (Sum.inl (⟨b,l⟩,s++([32]++u),⟨false,pre++(F.cons k' t' n' bE r').pos q⟩,((pre.length+1:Nat):Int),())):Option (S8⊕ch)):=by
    intro u hu;rw[rA [32] u (by show 1+_<=_;omega),af,dK,rA s _ (by rw[zd,List.length_singleton];omega),af,aB om,dK]
   obtain⟨br,hx,hI⟩:∃br:Bool,aP (ag k' 24) (some (aL 0 (bE.av:Int))) (some false)=some br/\
     iF k' bE.av (cm k' t' n' (bH bE))=bif br then [40]++cm k' t' n' (bH bE)++[41] else cm k' t' n' (bH bE):=by
    rw[gP];by_cases k24:k'=24
    ·rw[if_pos k24];by_cases hc:bE.av=0
     ·refine⟨false,congrArg some (zo (by show ¬0<(bE.av:Int);omega)),?_⟩;unfold iF;rw[if_neg (fun h=>h.2.2.2 hc)];rfl
     ·refine⟨true,congrArg some (zt (by show 0<(bE.av:Int);omega)),?_⟩;unfold iF;rw[if_pos ⟨by omega,by omega,by omega,hc⟩];rfl
    ·rw[if_neg k24];refine⟨false,rfl,?_⟩;unfold iF;rw[if_neg (fun h=>by have:=z9q hl;omega)];rfl
   rw[hx];simp only[af];rw[hI];cases br with
   |false=>rw[aI];simp only[af];exact tail _ om
   |true=>rw[aK,rA [40] _ (by show 1+_<=_;omega)];simp only[af];rw[dK,rA ([40]++cm k' t' n' (bH bE)) [41] (by rw[zd,List.length_singleton,List.length_singleton];omega)];simp only[af];rw[dK];exact tail _ (by simp)
  rw[cU step,hm,show pre.length+1=(pre++[(q:Int)]).length from by rw[zd];rfl];rw[ih (q+1+bE.size) m (!eD) (pre++[(q:Int)]) _ g3 om hw om (by rw[zd,List.length_singleton];omega) (by rw[zd,zd,List.length_singleton];omega)];rw[zm];rfl
def z1u{b:Bool}{l:List ND}(hl:l.length<=1000)(hg:GL l)(ht:TL 1000 l):∀N:Nat,zf2 (bc AX N) b l N
 |0=>fun _ _ _ _ _ _ _ _ h=>absurd h (Nat.not_lt_zero _)
 |N+1=>by
  have ih:=z1u (b:=b) hl hg ht N;intro q k t n ks r hs he hN;obtain⟨g1,g2,g3,g4⟩:=hs.node;have hm:t.length<=1000:=ht _ (zv g1);obtain⟨hn,hf⟩:=bX.1 he;obtain⟨_,hj,hk,hc,_,_⟩:=bT.1 hn;show AX (bc AX N) (⟨b,l⟩,(q:Int),())=_;rw[adi,aU g1,af];simp only;rw[gP];by_cases k1:k=21
  ·subst k1;rw[if_pos rfl];rfl
  rw[if_neg k1,gP];by_cases k2:k=22
  ·subst k2;rw[if_pos rfl,ZV om,af];rfl
  rw[if_neg k2,gP];by_cases k3:k=23
  ·subst k3;have hw:qf n=true:=hc;rw[if_pos rfl,qwk hw,af];rfl
  rw[if_neg k3,yo b l om hs,af];simp only;refine Eq.trans (z9r (N:=N) om ht ih ks (q+1) (ag k 10) false [] t g2 om hf om (by show 0+ks.av<=_;have:=ks.cu;omega) om) ?_;unfold cm
  grind
def qwl{b:Bool}{l:List ND}(hl:l.length<=1000)(hg:GL l)(ht:TL 1000 l){q:Nat}{k:Int}{t:Tx}{n:Int}{ks r:F}(hs:aJ l q (.cons k t n ks r))(he:aX k t n ks true=0):AY (⟨b,l⟩,(q:Int),())=some (cm k t n (bH ks),()):=vw (ks.size+1) fun N hN=>z1u hl hg ht N q k t n ks r hs he hN
def J1{k:Nat}(h:k<=1000000000):cE .i64 (k:Int) 2=((k+2:Nat):Int):=by unfold cE;rw[qmh];split<;>omega
def vH{m eD:Bool}{a:Int}{b:Tx}{c:Int}{d r:F}(h:eC m false eD (.cons a b c d r)=0)(hm:(m&&eD)=false):aX a b c d false=0/\eC m false (!eD) r=0:=by
 obtain⟨h1,h2⟩:=dD.1 h
 grind
def xm{t:Tx}{n:Int}{ks:F}(h:aX 6 t n ks false=0):∃a b c d a' b' c' d',ks=.cons a b c d (.cons a' b' c' d' .nil)/\aX a b c d false=0/\aX a' b' c' d' false=0:=by
 obtain⟨hn,hf⟩:=bX.1 h;obtain⟨_,_,hk,_,_,_⟩:=bT.1 hn;obtain⟨_,c2,_⟩:=Lo hk;obtain⟨a,b,c,d,r,rfl,hr⟩:=iJ (ks:=ks) (n:=1) (by have:=c2 (.inl rfl);omega);obtain⟨a',b',c',d',r',rfl,hc⟩:=iJ (n:=0) hr;obtain rfl:=Bh hc;obtain⟨e1,hf⟩:=vH hf rfl;obtain⟨e2,_⟩:=vH hf rfl
 grind
def eH(fx:List ak)(k:Int)(ks:F):ak:=(rowOf fx k ks).getD ([],0,0)
def ZZ(fx:List ak){k:Int}(h:k≠6)(ks:F):rowOf fx k ks=none:=by
 unfold rowOf
 grind
def Vn(fx:List ak){a:Int}(h:a≠6)(b:Tx)(c:Int)(d r:F):rowOf fx 6 (.cons a b c d r)=none:=by
 unfold rowOf
 grind
section
variable {b bx:Bool} {l:List ND} {fx:List ak}
def qz4(hl:l.length<=1000)(hx:fx.length<=1000000){q:Nat}{k:Int}{t:Tx}{n:Int}{ks r:F}(hs:aJ l q (.cons k t n ks r))(hv:aX k t n ks false=0):o6 ((⟨b,l⟩,⟨bx,fx⟩),(q:Int),())=some (eH fx k ks,(rowOf fx k ks).isSome,()):=by
 obtain⟨g1,g2,g3,g4⟩:=hs.node;rw[ab6,aU g1,af];simp only;by_cases h6:k=6
 ·subst h6;obtain⟨a,s,c,d,a',s',c',d',rfl,e1,e2⟩:=xm hv;obtain⟨p1,p2,p3,p4⟩:=g2.node;rw[show ar (ag 6 6)=false from rfl,aI,aB om,aU p1,af];simp only[af];by_cases ha:a=6
  ·subst ha;obtain⟨a1,s1,c1,d1,a2,s2,c2,d2,rfl,e3,e4⟩:=xm e1;obtain⟨m1,m2,m3,m4⟩:=p2.node;rw[show ar (ag 6 6)=false from rfl,aI,J1 om];have m1:l[q+2]?=some (a1,s1,c1,(d1.av:Int)):=m1;rw[aU m1];simp only[af];by_cases h3:a1=3
   ·subst h3;rw[show ar (ag 3 3)=false from rfl,aI];rw[qvy bx fx s1 hx];have hc:rowOf fx 6 (.cons 6 s c (.cons 3 s1 c1 d1 (.cons a2 s2 c2 d2 .nil)) (.cons a' s' c' d' .nil))=kP fx s1:=by rfl
    unfold eH;rw[hc];cases kP fx s1 with
    |none=>rfl
    |some f=>rfl
   ·have hc:rowOf fx 6 (.cons 6 s c (.cons a1 s1 c1 d1 (.cons a2 s2 c2 d2 .nil)) (.cons a' s' c' d' .nil))=none:=by
     show(if(6:Int)=6/\(6:Int)=6/\a1=3 then kP fx s1 else none)=_
     grind
    rw[eB h3,show ar false=true from rfl,aK];unfold eH;rw[hc];rfl
  ·rw[eB ha,show ar false=true from rfl,aK,af,aK];unfold eH;rw[Vn fx ha];rfl
 ·rw[eB h6,show ar false=true from rfl,aK,af,aK,af,aK];unfold eH;rw[ZZ fx h6];rfl
def z9s{k:Int}(h5:k≠5)(h7:k≠7)(h8:k≠8)(h9:k≠9)(hc:k≠11)(he:k≠12):n5 k=false:=by
 unfold n5
 grind
def qwm{α:Type}(k:Int)(A B:Option α):az (aP (ag k 5) (some (ag k 5,())) (az (aP (ag k 7) (some (ag k 7,())) (az (aP (ag k 8) (some (ag k 8,())) (az (aP (ag k 9) (some (ag k 9,())) (az (aP (ag k 11) (some (ag k 11,())) (some (ag k 12,()))) (fun x2=>some (x2.1,())))) (fun x3=>some (x3.1,())))) (fun x4=>some (x4.1,())))) (fun x5=>some (x5.1,())))) (fun x6=>aP x6.1 A B)=aP (n5 k) A B:=by
 by_cases h5:k=5
 ·subst h5;rfl
 by_cases h7:k=7
 ·subst h7;rfl
 by_cases h8:k=8
 ·subst h8;rfl
 by_cases h9:k=9
 ·subst h9;rfl
 by_cases hc:k=11
 ·subst hc;rfl
 by_cases he:k=12
 ·subst he;rfl
 rw[eB h5,eB h7,eB h8,eB h9,eB hc,eB he,z9s h5 h7 h8 h9 hc he];rfl
def Rx(hl:l.length<=1000)(hx:fx.length<=1000000){q:Nat}{k:Int}{t:Tx}{n:Int}{ks r:F}(hs:aJ l q (.cons k t n ks r))(hv:aX k t n ks false=0):kH ((⟨b,l⟩,⟨bx,fx⟩),(q:Int),())=some (cO fx k ks,()):=by
 obtain⟨g1,g2,g3,g4⟩:=hs.node;rw[ab7,aU g1,af];simp only;rw[gP];unfold cO;by_cases h6:k=6
 ·rw[if_pos h6,if_pos h6,qz4 hl hx hs hv,af];simp only;cases rowOf fx k ks<;>rfl
 ·rw[if_neg h6,if_neg h6,qwm];cases n5 k<;>rfl
def BN(self:iI)(b bx:Bool)(l:List ND)(fx:List ak)(N:Nat):Prop:=∀(q:Nat) (k:Int) (t:Tx) (n:Int) (ks r:F),aJ l q (.cons k t n ks r)->aX k t n ks false=0->ks.size<N->
 self ((q:Int),⟨b,l⟩,⟨bx,fx⟩,())=some (⟨false,(dT fx k t n ks).p.doc.flat⟩,⟨b,l⟩,⟨bx,fx⟩,())
def aJ.small{k:Int}{t:Tx}{n:Int}{ks r:F}{q:Nat}(hl:l.length<=1000)(hs:aJ l q (.cons k t n ks r)):ks.size+1<=1000:=by obtain⟨g1,g2,g3,g4⟩:=hs.node;omega
def lP(hl:l.length<=1000){k:Int}{t:Tx}{n:Int}{ks r:F}{q:Nat}(hs:aJ l q (.cons k t n ks r))(hv:aX k t n ks false=0):(dT fx k t n ks).p.doc.size<=6000:=by have:=qte fx hv;have:=hs.small hl;omega
def zdh(fx:List ak)(k:Int)(t:Tx)(n:Int)(ks:F)(ds:List Dc):(eF fx k t n ks ds).av=1:=by
 unfold eF;split
 ·rfl
 split
 ·rfl
 split
 ·rfl
 split
 ·unfold PV
  repeat (first|(split;rfl)|rfl)
 split
 ·unfold zf1;split<;>rfl
 split
 ·split<;>rfl
 ·rfl
def iG(fx:List ak)(k:Int)(t:Tx)(n:Int)(ks:F):(dT fx k t n ks).p.doc.av=1:=zdh fx k t n ks _
def Z0{self:iI}{N:Nat}(hl:l.length<=1000)(hp:BN self b bx l fx N){q:Nat}{k:Int}{t:Tx}{n:Int}{ks r:F}(br:Bool)(hs:aJ l q (.cons k t n ks r))(hv:aX k t n ks false=0)(hN:ks.size<N):BG self ((q:Int),br,⟨b,l⟩,⟨bx,fx⟩,())=some (⟨false,(nY br (dT fx k t n ks).p.doc).flat⟩,⟨b,l⟩,⟨bx,fx⟩,()):=by
 have e:=hp q k t n ks r hs hv hN;have hz:=lP (fx:=fx) hl hs hv;rw[qlh,e,af];cases br with
 |false=>rfl
 |true=>rw[aK,qi];simp only[af];rw[qi];simp only[af];rw[qtf false (.cons (d:=bC [40]) rfl rfl (.cons rfl (iG fx k t n ks) (.one (d:=bC [41]) rfl rfl))) (by rw[eA,eA,eA,fD,gR,gR];omega)];rfl
def qwn{self:iI}{N:Nat}(hl:l.length<=1000)(hx:fx.length<=1000000)(hp:BN self b bx l fx N){q:Nat}{k:Int}{t:Tx}{n:Int}{ks r:F}(op:Tx)(lv sd s:Int)(hs:aJ l q (.cons k t n ks r))(hv:aX k t n ks false=0)(hN:ks.size<N):K6 self ((q:Int),(op,lv,sd),s,⟨b,l⟩,⟨bx,fx⟩,())=some (⟨false,(qg (dT fx k t n ks).p lv sd s).flat⟩,⟨b,l⟩,⟨bx,fx⟩,()):=by
 have he:(dT fx k t n ks).p.lk=cO fx k ks:=rfl;have hf:(dT fx k t n ks).p.lv=(eH fx k ks).2.1:=rfl;have hg:(dT fx k t n ks).p.sd=(eH fx k ks).2.2:=rfl;rw[qli,Rx hl hx hs hv,af];simp only;rw[gP];by_cases h3:cO fx k ks=3
 ·rw[if_pos h3];have e:=Z0 hl hp true hs hv hN;rw[e];simp only[af];unfold qg
  grind
 ·rw[if_neg h3,ab8,qz4 hl hx hs hv];simp only[af];have hc:aP (rowOf fx k ks).isSome (aP (aL (eH fx k ks).2.1 lv) (some true) (aP (ag (eH fx k ks).2.1 lv) (aP (ar (ag (eH fx k ks).2.2 s)) (some true) (some (ar (ag sd s)))) (some false))) (some false)=some (JW (dT fx k t n ks).p lv sd s):=by
   unfold JW;rw[he,hf,hg];cases hr:rowOf fx k ks with
   |none=>
    have:cO fx k ks≠2:=by
     unfold cO
     grind
    rw[zo this];rfl
   |some f=>
    have:cO fx k ks=2:=by
     unfold cO;rw[hr];by_cases h6:k=6
     ·rw[if_pos h6]
     ·rw[ZZ fx h6] at hr;cases hr
    rw[zt this];show aP true _ _=_;rw[aK,Bool.true_and,bD];generalize (eH fx k ks).2.1=p1;generalize (eH fx k ks).2.2=p2;by_cases c1:p1<lv
    ·grind
    ·rw[if_neg c1,zo c1,gP,Bool.false_or];by_cases c2:p1=lv
     ·rw[if_pos c2,zt c2,Bool.true_and];by_cases c3:p2=s
      ·subst c3;rw[show ag p2 p2=true from ct.2 rfl,show ar true=false from rfl,aI,zo (fun h=>h rfl),Bool.false_or];by_cases c4:sd=p2
       ·subst c4;rw[show ag sd sd=true from ct.2 rfl,zo (fun h=>h rfl)];rfl
       ·rw[eB c4,zt c4];rfl
      ·rw[eB c3,show ar false=true from rfl,aK,zt c3];rfl
     grind
  rw[hc];simp only[af];have e:=Z0 hl hp (JW (dT fx k t n ks).p lv sd s) hs hv hN;rw[e];simp only[af];unfold qg
  grind
end
section
variable {b bx:Bool} {l:List ND} {fx:List ak} {self:iI} {N:Nat}
def Ry{q:Nat}{ks:F}{z:Int}{i:Int}{k:Int}{t:Tx}{n:Int}{bE r':F}{at_:Nat}(hl:l.length<=1000)(hp:BN self b bx l fx N)(hk:∃nb,fM (⟨b,l⟩,(q:Int),())=some (⟨nb,ks.pos (q+1)⟩,()))(hi:cM (ks.pos (q+1)) i=some (at_:Int))(hs:aJ l at_ (.cons k t n bE r'))(hv:aX k t n bE false=0)(hN:bE.size<N):K5 self (i,(q:Int),⟨b,l⟩,⟨bx,fx⟩,())=some (⟨false,(dT fx k t n bE).p.doc.flat⟩,(q:Int),⟨b,l⟩,⟨bx,fx⟩,()):=by have _:=hl;have _:=z;obtain⟨nb,e⟩:=hk;have e2:=hp at_ k t n bE r' hs hv hN;rw[qjl,e,af];simp only;rw[hi];simp only[af];rw[e2];simp only[af]
def Z1{s:Tx}{p q:Tx}(hs:∀b,b∈s->0<=b/\b<=255)(hl:s.length<=1000)(hp:p.length<=100)(hq:q.length<=100){β:Type}(K:(Sl Y0)×Unit->Option β):az (mH (s,())) (fun x=>az (fit (bS (ae p) (ae x.1))) (fun _=>az (fit (bS (ae (cw p x.1)) (ae q))) (fun _=>az (gY (cw (cw p x.1) q,())) K)))=K (⟨false,(bC (p++kA s++q)).flat⟩,()):=by have hn:=Rw s;rw[qlw hs om,af];simp only;rw[rA p (kA s) om,af,dK,rA (p++kA s) q (by rw[zd];omega),af,dK,qi,af]
def vl{d:F}(h:d.size<=6000):(bf d).size<=6003:=Nat.le_trans (PZ d) om
def zdi(hl:l.length<=1000)(hg:GL l)(ht:TL 1000 l)(hp:BN self b bx l fx N){q:Nat}{k:Int}{t:Tx}{n:Int}{ks r:F}(hs:aJ l q (.cons k t n ks r))(hv:aX k t n ks false=0)(hN:ks.size<=N)(ho:n5 k=true):qT self ((q:Int),⟨b,l⟩,⟨bx,fx⟩,())=some (⟨false,(dT fx k t n ks).p.doc.flat⟩,⟨b,l⟩,⟨bx,fx⟩,()):=by
 obtain⟨g1,g2,g3,g4⟩:=hs.node;have hx:=(hg.at g1).1;have he:t.length<=1000:=ht _ (zv g1);obtain⟨hn,hf⟩:=bX.1 hv;obtain⟨_,_,hk,_,_,_⟩:=bT.1 hn;obtain⟨c1,c2,c3,_,_⟩:=Lo hk;have hc:=PE b l om hs;have hj:(dT fx k t n ks).p.doc=PV k t (cK (dF fx ks) 0).p.doc (cK (dF fx ks) 1).p.doc (cK (dF fx ks) 2).p.doc:=ZP fx t n ks _ ho;have mN:ag k 10=false:=by rcases E9 ho with h|h|h|h|h|h<;>subst h<;>rfl
 rw[mN] at hf;rw[Jf,aU g1,af];simp only;rw[hj];by_cases hA:k=5\/k=11
 ·obtain⟨a,s,c,d,rfl⟩:=ZO (c1 hA);obtain⟨v1,_⟩:=vH hf rfl;have hq:d.size+0+1<=N:=hN;have k1:=Ry (z:=0) (i:=0) hl hp hc rfl g2 v1 om;have s1:=lP (fx:=fx) hl g2 v1;have u1:=vl s1;have n0:(cK (dF fx (.cons a s c d .nil)) 0).p.doc=(dT fx a s c d).p.doc:=rfl;rw[n0];rcases hA with rfl|rfl
  ·rw[bA 5 1,bA 5 2,bA 5 3,lZ 5 5,Z1 hx he dc dc,k1];simp only[af];rw[Fb _ (d:=(dT fx a s c d).p.doc) rfl (iG fx a s c d) om];simp only[af];rw[JY false (.cons (d:=bC _) rfl rfl (.one (d:=bf _) rfl rfl)) (by simp only[eA,fD,gR];omega)];rfl
  ·rw[bA 11 1,bA 11 2,bA 11 3,bA 11 5,bA 11 7,
    bA 11 8,bA 11 9,lZ 11 11,qi]
   simp only[af];rw[k1];simp only[af];rw[Fb _ (d:=(dT fx a s c d).p.doc) rfl (iG fx a s c d) om];simp only[af];rw[JY false (.cons (d:=bC _) rfl rfl (.one (d:=bf _) rfl rfl)) (by simp only[eA,fD,gR];omega)];rfl
 by_cases h9:k=9
 ·subst h9;obtain⟨a,s,c,d,r1,rfl,hr⟩:=iJ (ks:=ks) (n:=2) (by have:=c3 rfl;omega);obtain⟨a',s',c',d',r2,rfl,hm⟩:=iJ (n:=1) hr;obtain⟨a2,s2,pv,d2,r3,rfl,hu⟩:=iJ (n:=0) hm;obtain rfl:=Bh hu;obtain⟨v1,hf⟩:=vH hf rfl;obtain⟨v2,hf⟩:=vH hf rfl;obtain⟨v3,hf⟩:=vH hf rfl;have hq:d.size+(d'.size+(d2.size+0+1)+1)+1<=N:=hN;obtain⟨_,_,p2,_⟩:=g2.node;obtain⟨_,_,p3,_⟩:=p2.node;have k1:=Ry (z:=0) (i:=0) hl hp hc rfl g2 v1 om;have k2:=Ry (z:=0) (i:=1) hl hp hc rfl p2 v2 om;have k3:=Ry (z:=0) (i:=2) hl hp hc rfl p3 v3 om;have s1:=lP (fx:=fx) hl g2 v1;have P1:=lP (fx:=fx) hl p2 v2;have s3:=lP (fx:=fx) hl p3 v3;have u1:=vl s1;have u2:=vl P1;have u3:=vl s3;rw[bA 9 1,bA 9 2,bA 9 3,bA 9 5,bA 9 7,
    bA 9 8,lZ 9 9,qi]
  simp only[af];rw[k1];simp only[af];rw[Fb _ (d:=(dT fx a s c d).p.doc) rfl (iG fx a s c d) om];simp only[af];rw[Fa];simp only[af];rw[qi];simp only[af];rw[k2];simp only[af];rw[Fb _ (d:=(dT fx a' s' c' d').p.doc) rfl (iG fx a' s' c' d') om];simp only[af];rw[qi];simp only[af];rw[k3];simp only[af];rw[Fb _ (d:=(dT fx a2 s2 pv d2).p.doc) rfl (iG fx a2 s2 pv d2) om];simp only[af];rw[JY false (.cons (d:=bC _) rfl rfl (.cons (d:=bf _) rfl rfl (.cons (d:=bO) rfl rfl (.cons (d:=bC _) rfl rfl (.cons (d:=bf _) rfl rfl (.cons (d:=bO) rfl rfl (.cons (d:=bC _) rfl rfl (.one (d:=bf _) rfl rfl)))))))) (by simp only[eA,fD,gR,lO];omega)];rfl
 have h2:k=6\/k=7\/k=8\/k=12:=by
  rcases E9 ho with h|h|h|h|h|h
  all_goals omega
 obtain⟨a,s,c,d,r1,rfl,hr⟩:=iJ (ks:=ks) (n:=1) (by have:=c2 h2;omega);obtain⟨a',s',c',d',r2,rfl,hm⟩:=iJ (n:=0) hr;obtain rfl:=Bh hm;obtain⟨v1,hf⟩:=vH hf rfl;obtain⟨v2,hf⟩:=vH hf rfl;have hq:d.size+(d'.size+0+1)+1<=N:=hN;obtain⟨_,_,p2,_⟩:=g2.node;have k1:=Ry (z:=0) (i:=0) hl hp hc rfl g2 v1 om;have k2:=Ry (z:=0) (i:=1) hl hp hc rfl p2 v2 om;have s1:=lP (fx:=fx) hl g2 v1;have P1:=lP (fx:=fx) hl p2 v2;have u1:=vl s1;have u2:=vl P1;have n0:(cK (dF fx (.cons a s c d (.cons a' s' c' d' .nil))) 0).p.doc=(dT fx a s c d).p.doc:=rfl;have n1:(cK (dF fx (.cons a s c d (.cons a' s' c' d' .nil))) 1).p.doc=(dT fx a' s' c' d').p.doc:=rfl;rw[n0,n1];rcases E9 ho with h|h|h|h|h|h
 ·omega
 ·subst h;rw[bA 7 1,bA 7 2,bA 7 3,bA 7 5,lZ 7 7,Z1 hx he dc dc,k1];simp only[af];rw[Fb _ (d:=(dT fx a s c d).p.doc) rfl (iG fx a s c d) om];simp only[af];rw[Fa];simp only[af];rw[qi];simp only[af];rw[k2];simp only[af];rw[JY false (.cons (d:=bC _) rfl rfl (.cons (d:=bf _) rfl rfl (.cons (d:=bO) rfl rfl (.cons (d:=bC _) rfl rfl (.cons (d:=bO) rfl rfl (.one (d:=(dT fx a' s' c' d').p.doc) rfl (iG fx a' s' c' d'))))))) (by simp only[eA,fD,gR,lO];omega)];rfl
 ·subst h;rw[bA 8 1,bA 8 2,bA 8 3,bA 8 5,bA 8 7,lZ 8 8,Z1 hx he dc dc,k1];simp only[af];rw[Fb _ (d:=(dT fx a s c d).p.doc) rfl (iG fx a s c d) om];simp only[af];rw[Fa];simp only[af];rw[qi];simp only[af];rw[k2];simp only[af];rw[JY false (.cons (d:=bC _) rfl rfl (.cons (d:=bf _) rfl rfl (.cons (d:=bO) rfl rfl (.cons (d:=bC _) rfl rfl (.cons (d:=bO) rfl rfl (.one (d:=(dT fx a' s' c' d').p.doc) rfl (iG fx a' s' c' d'))))))) (by simp only[eA,fD,gR,lO];omega)];rfl
 ·exact absurd h h9
 ·omega
 ·subst h;rw[bA 12 1,bA 12 2,bA 12 3,bA 12 5,bA 12 7,
   bA 12 8,bA 12 9,bA 12 11,lZ 12 12,qi]
  simp only[af];rw[k1];simp only[af];rw[Fb _ (d:=(dT fx a s c d).p.doc) rfl (iG fx a s c d) om];simp only[af];rw[Fa];simp only[af];rw[Z1 hx he dc dc,k2];simp only[af];rw[Fb _ (d:=(dT fx a' s' c' d').p.doc) rfl (iG fx a' s' c' d') om];simp only[af];rw[JY false (.cons (d:=bC _) rfl rfl (.cons (d:=bf _) rfl rfl (.cons (d:=bO) rfl rfl (.cons (d:=bC _) rfl rfl (.one (d:=bf _) rfl rfl))))) (by simp only[eA,fD,gR,lO];omega)];rfl
def zdj(hl:l.length<=1000)(ht:TL 1000 l)(hx:fx.length<=1000000)(hj:∀f,f∈fx->f.1.length<=1000)(hp:BN self b bx l fx N){q:Nat}{t:Tx}{n:Int}{ks r:F}(hs:aJ l q (.cons 6 t n ks r))(hv:aX 6 t n ks false=0)(hN:ks.size<=N){f:ak}(hr:rowOf fx 6 ks=some f):K7 self ((q:Int),⟨b,l⟩,⟨bx,fx⟩,())=some (⟨false,(dT fx 6 t n ks).p.doc.flat⟩,⟨b,l⟩,⟨bx,fx⟩,()):=by
 have _:=ht;obtain⟨g1,g2,g3,g4⟩:=hs.node;have hg:=qz4 (b:=b) (bx:=bx) hl hx hs hv;have hG:eH fx 6 ks=f:=by unfold eH;rw[hr];rfl
 rw[hG,hr] at hg;obtain⟨nb,hc⟩:=PE b l om hs;have he:(dT fx 6 t n ks).p.doc=PW f (cK (dF fx ks) 0).b (cK (dF fx ks) 1).p:=by show eF fx 6 t n ks _=_;unfold eF;rw[if_neg dc,if_neg dc,if_neg dc,if_neg dc,if_neg dc,if_pos rfl,hr]
 rw[he];obtain⟨a,s,c,d,a',s',c',d',rfl,v1,v2⟩:=xm hv;have ha:a=6:=zA fun h=>by rw[Vn fx h] at hr;cases hr
 subst ha;obtain⟨a1,s1,c1,d1,a2,s2,c2,d2,rfl,w1,w2⟩:=xm v1;have hn:d1.size+(d2.size+0+1)+1+(d'.size+0+1)+1<=N:=hN;obtain⟨_,m2,p2,_⟩:=g2.node;obtain⟨_,_,n2,_⟩:=m2.node;obtain⟨Zq,hk⟩:=PE b l om g2;have ho:f.1.length<=1000:=by
  have h3:a1=3:=zA fun h=>by
   have:rowOf fx 6 (.cons 6 s c (.cons a1 s1 c1 d1 (.cons a2 s2 c2 d2 .nil)) (.cons a' s' c' d' .nil))=none:=if_neg (fun e=>h e.2.2)
   grind
  have:rowOf fx 6 (.cons 6 s c (.cons a1 s1 c1 d1 (.cons a2 s2 c2 d2 .nil)) (.cons a' s' c' d' .nil))=kP fx s1:=if_pos ⟨rfl,rfl,h3⟩;rw[this] at hr;exact hj f (Zx hr).1
 have sl:=lP (fx:=fx) hl n2 w2;have sr:=lP (fx:=fx) hl p2 v2;have zl:=Ru (dT fx a2 s2 c2 d2).p f.2.1 f.2.2 (-1);have zr:=Ru (dT fx a' s' c' d').p f.2.1 f.2.2 1;have k1:=qwn (b:=b) (bx:=bx) hl hx hp f.1 f.2.1 f.2.2 (-1) n2 w2 om;have k2:=qwn (b:=b) (bx:=bx) hl hx hp f.1 f.2.1 f.2.2 1 p2 v2 om;rw[qlj,hg];simp only[af];rw[hc];simp only[af];have oa:cM ((F.cons 6 s c (.cons a1 s1 c1 d1 (.cons a2 s2 c2 d2 .nil)) (.cons a' s' c' d' .nil)).pos (q+1)) 0=some ((q+1:Nat):Int):=rfl;have my:cM ((F.cons 6 s c (.cons a1 s1 c1 d1 (.cons a2 s2 c2 d2 .nil)) (.cons a' s' c' d' .nil)).pos (q+1)) 1=some ((q+1+1+(F.cons a1 s1 c1 d1 (.cons a2 s2 c2 d2 .nil)).size:Nat):Int):=rfl;have P2:cM ((F.cons a1 s1 c1 d1 (.cons a2 s2 c2 d2 .nil)).pos (q+1+1)) 1=some ((q+1+1+1+d1.size:Nat):Int):=rfl;rw[oa];simp only[af];rw[hk];simp only[af];rw[P2];simp only[af];rw[k1];simp only[af];rw[Fa];simp only[af];rw[rA f.1 [32] (by show f.1.length+1<=_;omega)];simp only[af];rw[qi];simp only[af];rw[my];simp only[af];rw[k2];simp only[af];have hf:=ZT false (.cons (y:=⟨false,bO.flat⟩) (d:=bO) rfl rfl (.cons (y:=⟨false,(bC (f.1++[32])).flat⟩) (d:=bC (f.1++[32])) rfl rfl (.one (y:=⟨false,(qg (dT fx a' s' c' d').p f.2.1 f.2.2 1).flat⟩) (d:=qg (dT fx a' s' c' d').p f.2.1 f.2.2 1) rfl (Lv _ (iG fx a' s' c' d'))))) (by simp only[eA,fD,gR,lO];omega);have hm:=Lt [bO,bC (f.1++[32]),qg (dT fx a' s' c' d').p f.2.1 f.2.2 1];simp only[eA,fD,gR,lO] at hm;rw[show cw f.1 [32]=f.1++[32] from dK _ _,hf];simp only[af];rw[JY false (.cons (d:=qg (dT fx a2 s2 c2 d2).p f.2.1 f.2.2 (-1)) rfl (Lv _ (iG fx a2 s2 c2 d2)) (.one (d:=jX _) rfl rfl)) (by simp only[eA,fD];omega)];simp only[af];rfl
end
def lQ(ps:List Pt):List F:=ps.reverse.flatMap fun p=>[bO,gN p]
def qpk(ps:List Pt)(p:Pt):lQ (ps++[p])=[bO,gN p]++lQ ps:=by
 unfold lQ
 grind
def yz(fx:List ak)(l:List ND)(N:Nat)(a:Int)(p:Pt):Prop:=∃(q:Nat) (k:Int) (t:Tx) (n:Int) (ks r:F),a=(q:Int)/\aJ l q (.cons k t n ks r)/\aX k t n ks false=0/\ks.size<N/\p=(dT fx k t n ks).p
def yz.av{fx:List ak}{l:List ND}{N:Nat}{a:Int}{p:Pt}(h:yz fx l N a p):p.doc.av=1:=by obtain⟨q,k,t,n,ks,r,_,_,_,_,rfl⟩:=h;exact iG fx k t n ks
section
variable {b bx:Bool} {l:List ND} {fx:List ak} {self:iI} {N:Nat}
def zjq(hl:l.length<=1000)(hx:fx.length<=1000000)(hp:BN self b bx l fx N){q:Nat}{k:Int}{t:Tx}{n:Int}{ks r:F}(hs:aJ l q (.cons k t n ks r))(hv:aX k t n ks false=0)(hN:ks.size<N)(na:Bool)(A:List Int)(ps:List Pt)(hy:A.length=ps.length)(hD:A.length<=10000)(ha:∀(i:Nat) a p,A[i]?=some a->ps[i]?=some p->yz fx l N a p):∀(m:Nat) (nr:Bool) (R:List (Sl Y0)) (es:List F),m<=A.length->Ds R es->(cf (es++lQ (ps.take m))).size<=10000->aD (Uo self) ((q:Int),cO fx k ks,((m:Nat):Int)-1,⟨b,l⟩,⟨bx,fx⟩,⟨na,A⟩,⟨nr,R⟩,())=some (Sum.inr (⟨false,(eW [F3 (dT fx k t n ks).p,jX (es++lQ (ps.take m))]).flat⟩,⟨b,l⟩,⟨bx,fx⟩,())):=by
 intro m
 induction m with
 |zero=>
  intro nr R es _ hR hf;have hz:lQ (ps.take 0)=[]:=rfl;rw[hz,zn] at hf ⊢;have e:=Z0 hl hp (decide (cO fx k ks=2)||decide (cO fx k ks=3)) hs hv hN;have e:BG self ((q:Int),(decide (cO fx k ks=2)||decide (cO fx k ks=3)),⟨b,l⟩,⟨bx,fx⟩,())=some (⟨false,(F3 (dT fx k t n ks).p).flat⟩,⟨b,l⟩,⟨bx,fx⟩,()):=e;have hj:aP (ag (cO fx k ks) 2) (some true) (some (ag (cO fx k ks) 3))=some (decide (cO fx k ks=2)||decide (cO fx k ks=3)):=by
   rw[gP];by_cases c:cO fx k ks=2
   ·grind
   ·rw[if_neg c,zo c,Bool.false_or];rfl
  have hd:=lP (fx:=fx) hl hs hv;have hh:=qrm (dT fx k t n ks).p;have hn:=Lt es;refine bZ ?_;rw[qac];simp only;rw[XN,if_neg om,hj,af];rw[e];simp only[af];rw[ZT nr hR om];simp only[af];have hc:(F3 (dT fx k t n ks).p).av=1:=Lv _ (iG fx k t n ks);rw[JY false (.cons (y:=⟨false,(F3 (dT fx k t n ks).p).flat⟩) (d:=F3 (dT fx k t n ks).p) rfl hc (.one (d:=jX es) rfl rfl)) (by simp only[eA,fD];omega)];simp only[af]
 |succ m ih=>
  intro nr R es hm hR hf;have ho:m<A.length:=om
  have hq:m<ps.length:=om
  have hA:A[m]?=some A[m]:=zf ho;have hP:ps[m]?=some ps[m]:=zf hq;have hg:=ha m _ _ hA hP;have he:ps.take (m+1)=ps.take m++[ps[m]]:=(List.take_append_getElem hq).symm;have hk:=hg.av;obtain⟨q',k',t',n',bE,r',e1,ht,hu,hB,e2⟩:=hg;have e:=Z0 hl hp (decide ((dT fx k' t' n' bE).p.lk≠0)) ht hu hB;rw[he,qpk,<-zm] at hf;have hC:Ds (R++[(⟨false,bO.flat⟩:(Sl Y0)),⟨false,(gN ps[m]).flat⟩]) (es++[bO,gN ps[m]]):=hR.app (.cons rfl rfl (.one rfl (Lv _ hk)));have hw:(R.length:Nat)<=10000:=by have:=JX hR.2;have:=hR.len;have hh:=BL es ([bO,gN ps[m]]++lQ (ps.take m));rw[zm] at hf;omega
  have e':=ih (bP nr (eX ([(⟨false,bO.flat⟩:(Sl Y0)),⟨false,(gN ps[m]).flat⟩]:List (Sl Y0)))) (R++[⟨false,bO.flat⟩,⟨false,(gN ps[m]).flat⟩]) (es++[bO,gN ps[m]]) om hC hf;have step:Uo self ((q:Int),cO fx k ks,((m+1:Nat):Int)-1,⟨b,l⟩,⟨bx,fx⟩,⟨na,A⟩,⟨nr,R⟩,())=
    some (Sum.inl ((q:Int),cO fx k ks,((m:Nat):Int)-1,⟨b,l⟩,⟨bx,fx⟩,⟨na,A⟩,⟨bP nr (eX ([(⟨false,bO.flat⟩:(Sl Y0)),⟨false,(gN ps[m]).flat⟩]:List (Sl Y0))),R++[⟨false,bO.flat⟩,⟨false,(gN ps[m]).flat⟩]⟩,())):=by
   have hi:((m+1:Nat):Int)-1=(m:Int):=om
   rw[qac];simp only;rw[hi,XN,if_pos om,Fa];simp only[af];rw[vc ho];simp only[af];rw[z7y hA];simp only[af];rw[e1,Rx hl hx ht hu];simp only[af];have hj:ar (ag (cO fx k' bE) 0)=decide ((dT fx k' t' n' bE).p.lk≠0):=by
    show ar (ag (cO fx k' bE) 0)=decide (cO fx k' bE≠0);by_cases c:cO fx k' bE=0
    ·rw[c];rfl
    ·rw[eB c,zt c];rfl
   rw[hj,e];simp only[af];rw[show ae R=((R.length:Nat):Int) from rfl,show ae ([(⟨false,bO.flat⟩:(Sl Y0)),⟨false,(nY (decide ((dT fx k' t' n' bE).p.lk≠0)) (dT fx k' t' n' bE).p.doc).flat⟩]:List (Sl Y0))=((2:Nat):Int) from rfl,il om];simp only[af];rw[show gS .i64 (m:Int) 1=(m:Int)-1 from xH om om,e2];rfl
  rw[cU step,e',he,qpk,zm]
def Vo{t:Tx}{n:Int}{a a':Int}{s s':Tx}{c c':Int}{d d':F}(h:cO fx 6 (.cons a s c d (.cons a' s' c' d' .nil))=1):(dT fx 6 t n (.cons a s c d (.cons a' s' c' d' .nil))).hd=(dT fx a s c d).hd/\(dT fx 6 t n (.cons a s c d (.cons a' s' c' d' .nil))).args=(dT fx a s c d).args++[bO,gN (dT fx a' s' c' d').p]:=⟨if_pos h,if_pos h⟩
def Vp{k:Int}{t:Tx}{n:Int}{ks:F}(h:cO fx k ks≠1):(dT fx k t n ks).hd=(dT fx k t n ks).p/\(dT fx k t n ks).args=[]:=⟨if_neg h,if_neg h⟩
def Vq{k:Int}{ks:F}(h:cO fx k ks=1):k=6:=by refine zA fun h6=>?_;unfold cO at h;omega
def zkq(hl:l.length<=1000)(hx:fx.length<=1000000)(hp:BN self b bx l fx N):∀(M:Nat) (q:Nat) (k:Int) (t:Tx) (n:Int) (ks r:F) (nb:Bool) (A:List Int) (ps:List Pt),ks.size<=M->aJ l q (.cons k t n ks r)->aX k t n ks false=0->(cO fx k ks≠1->ks.size<N)->ks.size<=N->A.length=ps.length->A.length+ks.size<=1000->(∀(i:Nat) a p,A[i]?=some a->ps[i]?=some p->yz fx l N a p)->(cf ((dT fx k t n ks).args++lQ ps)).size<=10000->aD (Uq self) ((q:Int),⟨b,l⟩,⟨bx,fx⟩,⟨nb,A⟩,())=some (⟨false,(eW [F3 (dT fx k t n ks).hd,jX ((dT fx k t n ks).args++lQ ps)]).flat⟩,⟨b,l⟩,⟨bx,fx⟩,()):=by
 intro M
 induction M with
 |zero=>
  intro q k t n ks r nb A ps hM hs hv hj hm hc hn ha he;have hk:cO fx k ks≠1:=by intro h;have h6:=Vq h;subst h6;obtain⟨a,s,c,d,a',s',c',d',rfl,_⟩:=xm hv;have hM:d.size+(d'.size+0+1)+1<=0:=hM;omega
  obtain⟨e1,e2⟩:=Vp (t:=t) (n:=n) hk;rw[e2,List.nil_append] at he;have e:=zjq hl hx hp hs hv (hj hk) nb A ps hc om ha A.length true [] [] (Nat.le_refl _) .nil (by rw[hc,List.take_length,List.nil_append];exact he);rw[hc,List.take_length] at e;refine bZ ?_;rw[q5n];simp only;rw[Rx hl hx hs hv,af,gP,if_neg hk,af];simp only;rw[show gS .i64 (ae A) 1=((ps.length:Nat):Int)-1 from by rw[show ae A=((A.length:Nat):Int) from rfl,hc];exact xH om om,e,e1,e2]
 |succ M ih=>
  intro q k t n ks r nb A ps hM hs hv hj hm hc hn ha he;by_cases hk:cO fx k ks=1
  ·have h6:=Vq hk;subst h6;obtain⟨g1,g2,g3,g4⟩:=hs.node;obtain⟨Zq,hf⟩:=PE b l om hs;have hg:=Rx (b:=b) (bx:=bx) hl hx hs hv;obtain⟨a,s,c,d,a',s',c',d',rfl,v1,v2⟩:=xm hv;obtain⟨e1,e2⟩:=Vo (t:=t) (n:=n) hk;have hM:d.size+(d'.size+0+1)+1<=M+1:=hM;have hm:d.size+(d'.size+0+1)+1<=N:=hm;have hn:A.length+(d.size+(d'.size+0+1)+1)<=1000:=hn;obtain⟨_,_,p2,_⟩:=g2.node;have step:Uq self ((q:Int),⟨b,l⟩,⟨bx,fx⟩,⟨nb,A⟩,())=some (Sum.inl (((q+1:Nat):Int),⟨b,l⟩,⟨bx,fx⟩,⟨bP nb (eX ([((q+1+1+d.size:Nat):Int)]:Y1)),A++[((q+1+1+d.size:Nat):Int)]⟩,())):=by rw[q5n];simp only;rw[hg,af,gP,if_pos hk,hf];simp only[af];have oa:cM ((F.cons a s c d (.cons a' s' c' d' .nil)).pos (q+1)) 0=some ((q+1:Nat):Int):=rfl;have my:cM ((F.cons a s c d (.cons a' s' c' d' .nil)).pos (q+1)) 1=some ((q+1+1+d.size:Nat):Int):=rfl;rw[my];simp only[af];rw[show ae A=((A.length:Nat):Int) from rfl,show ae ([((q+1+1+d.size:Nat):Int)]:Y1)=((1:Nat):Int) from rfl,il om];simp only[af];rw[oa];simp only[af];rfl
   have hT:(dT fx a s c d).args++lQ (ps++[(dT fx a' s' c' d').p])=(dT fx 6 t n (.cons a s c d (.cons a' s' c' d' .nil))).args++lQ ps:=by rw[e2,qpk,zm]
   have e:=ih (q+1) a s c d (.cons a' s' c' d' .nil) (bP nb (eX ([((q+1+1+d.size:Nat):Int)]:Y1))) (A++[((q+1+1+d.size:Nat):Int)]) (ps++[(dT fx a' s' c' d').p]) om g2 v1 (fun _=>by omega) om (by rw[zd,zd,hc];rfl) (by rw[zd,List.length_singleton];omega)
    (fun i x p h1 h2=>by
     by_cases hi:i<A.length
     ·rw[List.getElem?_append_left hi] at h1;rw[List.getElem?_append_left om] at h2;exact ha i x p h1 h2
     ·rw[zO om] at h1;rw[zO om] at h2;have ho:i-A.length=0:=by have:=(zE.1 h1).1;simp at this;omega
      rw[ho] at h1;rw[show i-ps.length=0 by omega] at h2;injection h1 with h1;injection h2 with h2;exact⟨q+1+1+d.size,a',s',c',d',.nil,h1.symm,p2,v2,by omega,h2.symm⟩)
    (by rw[hT];exact he)
   rw[cU step,e,hT,e1]
  ·obtain⟨e1,e2⟩:=Vp (t:=t) (n:=n) hk;rw[e2,List.nil_append] at he;have e:=zjq hl hx hp hs hv (hj hk) nb A ps hc om ha A.length true [] [] (Nat.le_refl _) .nil (by rw[hc,List.take_length,List.nil_append];exact he);rw[hc,List.take_length] at e;refine bZ ?_;rw[q5n];simp only;rw[Rx hl hx hs hv,af,gP,if_neg hk,af];simp only;rw[show gS .i64 (ae A) 1=((ps.length:Nat):Int)-1 from by rw[show ae A=((A.length:Nat):Int) from rfl,hc];exact xH om om,e,e1,e2]
def zdk(hl:l.length<=1000)(hx:fx.length<=1000000)(hp:BN self b bx l fx N){q:Nat}{t:Tx}{n:Int}{ks r:F}(hs:aJ l q (.cons 6 t n ks r))(hv:aX 6 t n ks false=0)(hN:ks.size<=N)(hr:cO fx 6 ks=1):Mp self ((q:Int),⟨b,l⟩,⟨bx,fx⟩,())=some (⟨false,(dT fx 6 t n ks).p.doc.flat⟩,⟨b,l⟩,⟨bx,fx⟩,()):=by
 have hz:=Vk fx hv (Rv fx ks _ _ (bX.1 hv).2);have hf:=hs.small hl;have hc:rowOf fx 6 ks=none:=by
  cases h:rowOf fx 6 ks with
  |none=>rfl
  |some f=>
   unfold cO at hr
   grind
 have e:=zkq (b:=b) (bx:=bx) hl hx hp ks.size q 6 t n ks r true [] [] (Nat.le_refl _) hs hv (fun h=>absurd hr h) hN rfl (by show 0+ks.size<=1000;omega) (fun i a p h=>by cases h) (by
  have hn:lQ []=[]:=rfl;rw[hn,zn];have:=hz.2.1;omega)
 rw[qlk,e];have hn:lQ []=[]:=rfl;rw[hn,zn];obtain⟨a,s,c,d,a',s',c',d',rfl,v1,v2⟩:=xm hv;obtain⟨e1,e2⟩:=Vo (t:=t) (n:=n) hr;rw[e1,e2];have he:(dT fx 6 t n (.cons a s c d (.cons a' s' c' d' .nil))).p.doc=PY (dT fx a s c d).hd ((dT fx a s c d).args++[bO,gN (dT fx a' s' c' d').p]):=by show eF fx 6 t n _ _=_;unfold eF;rw[if_neg dc,if_neg dc,if_neg dc,if_neg dc,if_neg dc,if_pos rfl,hc];rfl
 rw[he];rfl
end
section
variable {b bx:Bool} {l:List ND} {fx:List ak} {self:iI} {N:Nat}
def Z2{q:Nat}{g:F}{e:Nat}(hs:aJ l q g)(hf:eC true false true g=0)(hc:g.av=2*(e+1)):∃a s c d a' s' c' d' r,g=.cons a s c d (.cons a' s' c' d' r)/\r.av=2*e/\aX a s c d true=0/\aX a' s' c' d' false=0/\eC true false true r=0/\aJ l (q+1+d.size) (.cons a' s' c' d' r)/\aJ l (q+1+d.size+1+d'.size) r:=by
 obtain⟨a,s,c,d,r1,rfl,hr⟩:=iJ (ks:=g) (n:=2*e+1) om;obtain⟨a',s',c',d',r,rfl,he⟩:=iJ (n:=2*e) hr;obtain⟨h1,h2⟩:=dD.1 hf;obtain⟨h3,h4⟩:=dD.1 h2;obtain⟨_,_,p2,_⟩:=hs.node;obtain⟨_,_,p3,_⟩:=p2.node
 grind
def qz5(q:Nat)(a a':Int)(s s':Tx)(c c':Int)(d d' r:F)(pre:List Int):pre++(F.cons a s c d (.cons a' s' c' d' r)).pos q=(pre++[(q:Int),((q+1+d.size:Nat):Int)])++r.pos (q+1+d.size+1+d'.size):=by rw[zm];rfl
def z9t{α:Type}(pre:List α)(a b:α)(post:List α):cM (pre++a::b::post) ((pre.length+1:Nat):Int)=some b:=aU (by rw[zO om,Nat.add_sub_cancel_left];rfl)
def qro(hl:l.length<=1000)(hg:GL l)(ht:TL 1000 l)(hp:BN self b bx l fx N){q:Nat}{a a':Int}{s s':Tx}{c c':Int}{d d' r:F}(hs:aJ l q (.cons a s c d (.cons a' s' c' d' r)))(v1:aX a s c d true=0)(v2:aX a' s' c' d' false=0)(p2:aJ l (q+1+d.size) (.cons a' s' c' d' r))(hN:d'.size<N)(nb nr:Bool)(pre:List Int)(hn:pre.length<=100000)(R:List (Sl Y0))(es:List F)(hR:Ds R es)(ho:(cf es).size<=30000):∃J2 R',Nf self (⟨nb,pre++(F.cons a s c d (.cons a' s' c' d' r)).pos q⟩,(pre.length:Int),⟨b,l⟩,⟨bx,fx⟩,⟨nr,R⟩,())=some (Sum.inl (⟨nb,pre++(F.cons a s c d (.cons a' s' c' d' r)).pos q⟩,((pre.length+2:Nat):Int),⟨b,l⟩,⟨bx,fx⟩,⟨J2,R'⟩,()))/\Ds R' (es++(if pre.length=1 then [jX [bO,bC ((dT fx a s c d).pt++[32,45,62]),bf (dT fx a' s' c' d').p.doc]] else [bO,bC ([124,32]++((dT fx a s c d).pt++[32,45,62])),bf (dT fx a' s' c' d').p.doc])):=by
 have hk:R.length<=30000:=by have:=JX hR.2;have:=hR.len;omega
 have hf:=z9p (b:=b) hl hg ht false hs v1;have hq:cm a s c (bH d)=(dT fx a s c d).pt:=rfl;have hm:=Vm a s c d (aJ.tl ht hs.first);have hv:=hs.small hl;have hd:=lP (fx:=fx) hl p2 v2;have hu:=vl hd;have k2:=hp _ a' s' c' d' r p2 v2 hN;have he:=aB (k:=pre.length) om;have hc:=J1 (k:=pre.length) om;rw[q89];simp only;have hj:ae (pre++(F.cons a s c d (.cons a' s' c' d' r)).pos q)=((pre.length+(r.av+1+1):Nat):Int):=by show(((pre++(F.cons a s c d (.cons a' s' c' d' r)).pos q).length:Nat):Int)=_;rw[zd,F.dL];rfl
 rw[hj,bD,if_pos om];have a0:cM (pre++(F.cons a s c d (.cons a' s' c' d' r)).pos q) (pre.length:Int)=some (q:Int):=P0 pre _ _;have a1:cM (pre++(F.cons a s c d (.cons a' s' c' d' r)).pos q) ((pre.length+1:Nat):Int)=some ((q+1+d.size:Nat):Int):=z9t pre _ _ _;rw[a0];simp only[af];rw[hf];simp only[af,cond_false];rw[rA (cm a s c (bH d)) [32,45,62] (by show _+3<=_;omega)];simp only[af];rw[he,a1];simp only[af];rw[k2];simp only[af];rw[Fb _ (d:=(dT fx a' s' c' d').p.doc) rfl (iG fx a' s' c' d') om];simp only[af];rw[gP,dK];by_cases h1:pre.length=1
 ·rw[if_pos om,if_pos h1,Fa];simp only[af];rw[qi];simp only[af];rw[ZT false (.cons (d:=bO) rfl rfl (.cons (d:=bC _) rfl rfl (.one (d:=bf (dT fx a' s' c' d').p.doc) rfl rfl))) (by simp only[eA,fD,gR,lO];omega)];simp only[af];rw[show ae R=((R.length:Nat):Int) from rfl,show ae ([(⟨false,(jX [bO,bC (cm a s c (bH d)++[32,45,62]),bf (dT fx a' s' c' d').p.doc]).flat⟩:(Sl Y0))]:List (Sl Y0))=((1:Nat):Int) from rfl,il om];simp only[af];rw[hc];exact⟨_,_,rfl,hR.app (.one rfl rfl)⟩
 ·rw[if_neg om,if_neg h1,Fa];simp only[af];rw[rA [124,32] (cm a s c (bH d)++[32,45,62]) (by rw[zd];show 2+(_+3)<=_;omega)];simp only[af];rw[dK,qi];simp only[af];rw[show ae R=((R.length:Nat):Int) from rfl,show ae ([(⟨false,bO.flat⟩:(Sl Y0)),⟨false,(bC ([124,32]++(cm a s c (bH d)++[32,45,62]))).flat⟩,⟨false,(bf (dT fx a' s' c' d').p.doc).flat⟩]:List (Sl Y0))=((3:Nat):Int) from rfl,il om];simp only[af];rw[hc];exact⟨_,_,rfl,hR.app (.cons rfl rfl (.cons rfl rfl (.one rfl rfl)))⟩
def z9u(nb nr:Bool)(pos:List Int)(R:List (Sl Y0))(es:List F)(hR:Ds R es)(he:(cf es).size<=30000):Nf self (⟨nb,pos⟩,(pos.length:Int),⟨b,l⟩,⟨bx,fx⟩,⟨nr,R⟩,())=some (Sum.inr (⟨false,(eW (es++[bO,bC Pz.jT])).flat⟩,⟨b,l⟩,⟨bx,fx⟩,())):=by
 have hc:R.length<=30000:=by have:=JX hR.2;have:=hR.len;omega
 rw[q89];simp only;rw[show ae pos=((pos.length:Nat):Int) from rfl,bD,if_neg om,Fa];simp only[af];rw[qi];simp only[af];rw[show ae R=((R.length:Nat):Int) from rfl,show ae ([(⟨false,bO.flat⟩:(Sl Y0)),⟨false,(bC [101,110,100]).flat⟩]:List (Sl Y0))=((2:Nat):Int) from rfl,il om];simp only[af];rw[show app R [(⟨false,bO.flat⟩:(Sl Y0)),⟨false,(bC [101,110,100]).flat⟩]=R++[(⟨false,bO.flat⟩:(Sl Y0)),⟨false,(bC [101,110,100]).flat⟩] from PB _ _,JY _ (hR.app (.cons (d:=bO) rfl rfl (.one (d:=bC Pz.jT) rfl rfl))) (by rw[BL];simp only[eA,fD,gR,lO];omega)];simp only[af]
def qwr(hl:l.length<=1000)(hg:GL l)(ht:TL 1000 l)(hp:BN self b bx l fx N)(nb:Bool):∀(e:Nat) (g:F) (q:Nat) (pre:List Int) (nr:Bool) (R:List (Sl Y0)) (es:List F),g.av=2*e->aJ l q g->eC true false true g=0->g.size<=N->2<=pre.length->pre.length+g.av<=100000->Ds R es->(cf (es++nZ (dF fx g))).size<=30000->aD (Nf self) (⟨nb,pre++g.pos q⟩,(pre.length:Int),⟨b,l⟩,⟨bx,fx⟩,⟨nr,R⟩,())=some (⟨false,(eW (es++(nZ (dF fx g)++[bO,bC Pz.jT]))).flat⟩,⟨b,l⟩,⟨bx,fx⟩,())
 |0,g,q,pre,nr,R,es,hc,_,_,_,_,_,hR,hj=>by obtain rfl:=Bh (ks:=g) om;have h0:nZ (dF fx .nil)=[]:=rfl;rw[h0,zn] at hj;have hk:pre++F.nil.pos q=pre:=zn pre;rw[hk,h0,List.nil_append];exact bZ (z9u nb nr pre R es hR hj)
 |e+1,g,q,pre,nr,R,es,hc,hs,hf,hN,hq,hm,hR,hj=>by
  obtain⟨a,s,c,d,a',s',c',d',r,rfl,ho,v1,v2,v3,q2,q3⟩:=Z2 hs hf hc;have hN:d.size+(d'.size+r.size+1)+1<=N:=hN;have hm:pre.length+(r.av+1+1)<=100000:=hm;have he:nZ (dF fx (.cons a s c d (.cons a' s' c' d' r)))=[bO,bC ([124,32]++((dT fx a s c d).pt++[32,45,62])),bf (dT fx a' s' c' d').p.doc]++nZ (dF fx r):=rfl;rw[he,<-zm] at hj;obtain⟨J2,R',st,hn⟩:=qro hl hg ht hp hs v1 v2 q2 om nb nr pre om R es hR (by rw[zm,BL] at hj;omega);rw[if_neg om] at hn;have e2:=qwr hl hg ht hp nb e r (q+1+d.size+1+d'.size) (pre++[(q:Int),((q+1+d.size:Nat):Int)]) J2 R' _ ho q3 v3 om (by rw[zd];omega) (by rw[zd];show pre.length+2+_<=_;omega) hn hj;rw[cU st,qz5,show((pre.length+2:Nat):Int)=(((pre++[(q:Int),((q+1+d.size:Nat):Int)]).length:Nat):Int) from by rw[zd];rfl,e2,he]
  grind
def z9v(hl:l.length<=1000)(hg:GL l)(ht:TL 1000 l)(hp:BN self b bx l fx N){q:Nat}{t:Tx}{n:Int}{ks r:F}(hs:aJ l q (.cons 10 t n ks r))(hv:aX 10 t n ks false=0)(hN:ks.size<=N):Mo self ((q:Int),⟨b,l⟩,⟨bx,fx⟩,())=some (⟨false,(dT fx 10 t n ks).p.doc.flat⟩,⟨b,l⟩,⟨bx,fx⟩,()):=by
 obtain⟨g1,g2,g3,g4⟩:=hs.node;obtain⟨hn,hf⟩:=bX.1 hv;obtain⟨_,_,hk,_,_,_⟩:=bT.1 hn;obtain⟨_,_,_,oC,_⟩:=Lo hk;obtain⟨oC,HE⟩:=oC rfl;obtain⟨nb,hc⟩:=PE b l om hs;have ho:=hs.small hl;have hq:=lP (fx:=fx) hl hs hv;obtain⟨a,s,c,d,r0,rfl,hr⟩:=iJ (ks:=ks) (n:=ks.av-1) om;have hz:(F.cons a s c d r0).av=r0.av+1:=rfl;have mN:ag 10 10=true:=rfl;rw[mN] at hf;obtain⟨v0,hf⟩:=vH hf rfl;have hN:d.size+r0.size+1<=N:=hN;have hw:=r0.cu;have ho:d.size+r0.size+1+1<=1000:=ho;obtain⟨_,_,p0,_⟩:=g2.node;obtain⟨e,he⟩:∃e,r0.av=2*(e+1):=⟨r0.av / 2-1,by omega⟩;obtain⟨a1,s1,c1,d1,a2,s2,c2,d2,r1,rfl,hx,v1,v2,v3,q2,q3⟩:=Z2 p0 hf he;have hN:d.size+(d1.size+(d2.size+r1.size+1)+1)+1<=N:=hN;have k0:=hp _ a s c d _ g2 v0 om;have d0:=lP (fx:=fx) hl g2 v0;have u0:=vl d0;have hj:(dT fx 10 t n (.cons a s c d (.cons a1 s1 c1 d1 (.cons a2 s2 c2 d2 r1)))).p.doc=eW ([bC Pz.dP,bf (dT fx a s c d).p.doc,bO,bC Pz.eU]++([jX [bO,bC ((dT fx a1 s1 c1 d1).pt++[32,45,62]),bf (dT fx a2 s2 c2 d2).p.doc]]++(nZ (dF fx r1)++[bO,bC Pz.jT]))):=by have h0:(dT fx 10 t n (.cons a s c d (.cons a1 s1 c1 d1 (.cons a2 s2 c2 d2 r1)))).p.doc=eF fx 10 t n (.cons a s c d (.cons a1 s1 c1 d1 (.cons a2 s2 c2 d2 r1))) (dF fx (.cons a s c d (.cons a1 s1 c1 d1 (.cons a2 s2 c2 d2 r1)))):=rfl;rw[h0];unfold eF;rw[if_neg dc,if_neg dc,if_neg dc,if_neg dc,if_pos rfl];rfl
 have hm:(cf ([bC Pz.dP,bf (dT fx a s c d).p.doc,bO,bC Pz.eU]++[jX [bO,bC ((dT fx a1 s1 c1 d1).pt++[32,45,62]),bf (dT fx a2 s2 c2 d2).p.doc]]++nZ (dF fx r1))).size<=30000:=by rw[hj] at hq;have:(cf ([bC Pz.dP,bf (dT fx a s c d).p.doc,bO,bC Pz.eU]++([jX [bO,bC ((dT fx a1 s1 c1 d1).pt++[32,45,62]),bf (dT fx a2 s2 c2 d2).p.doc]]++(nZ (dF fx r1)++[bO,bC Pz.jT])))).size+0+1+0+1<=6000:=hq;rw[<-zm,<-zm,BL] at this;omega
 rw[qjo,hc];simp only[af];rw[qi];simp only[af];have oa:cM ((F.cons a s c d (.cons a1 s1 c1 d1 (.cons a2 s2 c2 d2 r1))).pos (q+1)) 0=some ((q+1:Nat):Int):=rfl;rw[oa];simp only[af];rw[k0];simp only[af];rw[Fb _ (d:=(dT fx a s c d).p.doc) rfl (iG fx a s c d) om];simp only[af];rw[Fa];simp only[af];rw[qi];simp only[af];have hy:Ds [(⟨false,(bC [109,97,116,99,104]).flat⟩:(Sl Y0)),⟨false,(bf (dT fx a s c d).p.doc).flat⟩,⟨false,bO.flat⟩,⟨false,(bC [119,105,116,104]).flat⟩] [bC Pz.dP,bf (dT fx a s c d).p.doc,bO,bC Pz.eU]:=.cons rfl rfl (.cons rfl rfl (.cons rfl rfl (.one rfl rfl)));obtain⟨J2,R',st,hu⟩:=qro hl hg ht hp p0 v1 v2 q2 om nb false [((q+1:Nat):Int)] (by show 1<=_;omega) _ _ hy (by rw[BL,BL] at hm;omega);rw[if_pos (show [((q+1:Nat):Int)].length=1 from rfl)] at hu;have st:Nf self (⟨nb,(F.cons a s c d (.cons a1 s1 c1 d1 (.cons a2 s2 c2 d2 r1))).pos (q+1)⟩,1,⟨b,l⟩,⟨bx,fx⟩,⟨false,[(⟨false,(bC [109,97,116,99,104]).flat⟩:(Sl Y0)),⟨false,(bf (dT fx a s c d).p.doc).flat⟩,⟨false,bO.flat⟩,⟨false,(bC [119,105,116,104]).flat⟩]⟩,())=_:=st;rw[cU st];have e2:=qwr hl hg ht hp nb e r1 (q+1+1+d.size+1+d1.size+1+d2.size) ([((q+1:Nat):Int)]++[((q+1+1+d.size:Nat):Int),((q+1+1+d.size+1+d1.size:Nat):Int)]) J2 R' _ hx q3 v3 om (by show 2<=3;omega) (by show 3+_<=_;have:=r1.cu;omega) hu hm;rw[hj];rw[qz5];refine Eq.trans e2 ?_;simp only[zm]
end
def z9w{b bx:Bool}{l:List ND}{fx:List ak}(hl:l.length<=1000)(hg:GL l)(ht:TL 1000 l)(hx:fx.length<=1000000)(hq:∀f,f∈fx->f.1.length<=1000):∀N:Nat,BN (bc qT N) b bx l fx N
 |0=>fun _ _ _ _ _ _ _ _ h=>absurd h (Nat.not_lt_zero _)
 |N+1=>by
  have hp:=z9w (b:=b) (bx:=bx) hl hg ht hx hq N;intro q k t n ks r hs hv hN;have hN:ks.size<=N:=om
  show qT (bc qT N) ((q:Int),⟨b,l⟩,⟨bx,fx⟩,())=_;by_cases ho:n5 k=true
  ·exact zdi hl hg ht hp hs hv hN ho
  obtain⟨g1,g2,g3,g4⟩:=hs.node;have hu:=(hg.at g1).1;have hy:t.length<=1000:=ht _ (zv g1);obtain⟨hn,hf⟩:=bX.1 hv;obtain⟨_,_,hk,hj,_,_⟩:=bT.1 hn;have hm:(dT fx k t n ks).p.doc=eF fx k t n ks (dF fx ks):=rfl;have no:∀c:Int,n5 c=true->ag k c=false:=fun c hc=>eB fun e=>ho (e▸hc);by_cases k10:k=10
  ·subst k10;rw[Jf,aU g1,af];simp only;have e:=z9v hl hg ht hp hs hv hN;rw[bA 10 1,bA 10 2,bA 10 3,bA 10 5,bA 10 7,bA 10 8,
    bA 10 9,bA 10 11,bA 10 12,lZ 10 10,e]
   simp only[af]
  by_cases k6:k=6
  ·subst k6;rw[Jf,aU g1,af];simp only;rw[bA 6 1,bA 6 2,bA 6 3,bA 6 5,bA 6 7,bA 6 8,
    bA 6 9,bA 6 11,bA 6 12,bA 6 10,lZ 6 6,Rx hl hx hs hv,af]
   simp only;cases hr:rowOf fx 6 ks with
   |some f=>
    have he:cO fx 6 ks=2:=by unfold cO;rw[if_pos rfl,hr]
    have e:=zdj hl ht hx hq hp hs hv hN hr;rw[he,lZ 2 2,e];simp only[af]
   |none=>
    have he:cO fx 6 ks=1:=by unfold cO;rw[if_pos rfl,hr]
    have e:=zdk hl hx hp hs hv hN he;rw[he,bA 1 2,e];simp only[af]
  rw[Jf,aU g1,af,hm];simp only;unfold eF;rw[gP];by_cases k1:k=1
  ·subst k1;have hw:qf n=true:=hj;rw[if_pos rfl,if_pos rfl,z1q hw];simp only[af];rw[qi];simp only[af]
  rw[if_neg k1,if_neg k1,gP];by_cases k2:k=2
  ·subst k2;rw[if_pos rfl,if_pos rfl,z4p (s:=t) hu om];simp only[af];rw[qi];simp only[af]
  rw[if_neg k2,if_neg k2,gP];by_cases k3:k=3
  ·subst k3;rw[if_pos rfl,if_pos rfl,qlw (s:=t) hu om];simp only[af];rw[qi];simp only[af]
  rw[if_neg k3,if_neg k3,if_neg ho,if_neg k10,if_neg k6,no 5 rfl,aI,no 7 rfl,aI,no 8 rfl,aI,no 9 rfl,aI,no 11 rfl,aI,no 12 rfl,aI,eB k10,aI,eB k6,aI,qi];simp only[af]
def z9x{b bx:Bool}{l:List ND}{fx:List ak}(hl:l.length<=1000)(hg:GL l)(ht:TL 1000 l)(hx:fx.length<=1000000)(hc:∀f,f∈fx->f.1.length<=1000){q:Nat}{k:Int}{t:Tx}{n:Int}{ks r:F}(hs:aJ l q (.cons k t n ks r))(hv:aX k t n ks false=0):D1 ((q:Int),⟨b,l⟩,⟨bx,fx⟩,())=some (⟨false,(dT fx k t n ks).p.doc.flat⟩,⟨b,l⟩,⟨bx,fx⟩,()):=vw (ks.size+1) fun N hN=>z9w hl hg ht hx hc N q k t n ks r hs hv hN
section
variable {b bx:Bool} {l:List ND} {fx:List ak}
def Z3(hl:l.length<=1000)(hx:fx.length<=1000000){q:Nat}{k:Int}{t:Tx}{n:Int}{ks r:F}(hs:aJ l q (.cons k t n ks r))(hv:aX k t n ks false=0):pe (⟨b,l⟩,(q:Int),⟨bx,fx⟩,())=some (eH fx k ks,(rowOf fx k ks).isSome,()):=by
 obtain⟨g1,g2,g3,g4⟩:=hs.node;rw[adl,aU g1,af];simp only;by_cases h6:k=6
 ·subst h6;obtain⟨a,s,c,d,a',s',c',d',rfl,e1,e2⟩:=xm hv;obtain⟨p1,p2,p3,p4⟩:=g2.node;rw[lZ 6 6,aB om,aU p1,af];simp only[af];by_cases ha:a=6
  ·subst ha;obtain⟨a1,s1,c1,d1,a2,s2,c2,d2,rfl,e3,e4⟩:=xm e1;obtain⟨m1,m2,m3,m4⟩:=p2.node;rw[lZ 6 6,J1 om];have m1:l[q+2]?=some (a1,s1,c1,(d1.av:Int)):=m1;rw[aU m1];simp only[af];by_cases h3:a1=3
   ·subst h3;rw[lZ 3 3];rw[z4b bx fx s1 hx];have hc:rowOf fx 6 (.cons 6 s c (.cons 3 s1 c1 d1 (.cons a2 s2 c2 d2 .nil)) (.cons a' s' c' d' .nil))=kP fx s1:=by rfl
    unfold eH;rw[hc];cases kP fx s1 with
    |none=>rfl
    |some f=>rfl
   ·have hc:rowOf fx 6 (.cons 6 s c (.cons a1 s1 c1 d1 (.cons a2 s2 c2 d2 .nil)) (.cons a' s' c' d' .nil))=none:=by
     show(if(6:Int)=6/\(6:Int)=6/\a1=3 then kP fx s1 else none)=_
     grind
    rw[eB h3,aI];unfold eH;rw[hc];rfl
  ·rw[eB ha,aI,af,aI];unfold eH;rw[Vn fx ha];rfl
 ·rw[eB h6,aI,af,aI,af,aI];unfold eH;rw[ZZ fx h6];rfl
def Z4(hl:l.length<=1000)(hx:fx.length<=1000000){q:Nat}{k:Int}{t:Tx}{n:Int}{ks r:F}(hs:aJ l q (.cons k t n ks r))(hv:aX k t n ks false=0):mM (⟨b,l⟩,(q:Int),⟨bx,fx⟩,())=some (cO fx k ks,()):=by
 obtain⟨g1,g2,g3,g4⟩:=hs.node;rw[adm,aU g1,af];simp only;rw[gP];unfold cO;by_cases h6:k=6
 ·rw[if_pos h6,if_pos h6,Z3 hl hx hs hv,af];simp only;cases rowOf fx k ks<;>rfl
 ·rw[if_neg h6,if_neg h6,qwm];cases n5 k<;>rfl
def Fc(self:gH)(b bx:Bool)(l:List ND)(fx:List ak)(N:Nat):Prop:=∀(q:Nat) (k:Int) (t:Tx) (n:Int) (ks r:F),aJ l q (.cons k t n ks r)->aX k t n ks false=0->ks.size<N->
 self (⟨b,l⟩,(q:Int),⟨bx,fx⟩,())=some (⟨false,(dT fx k t n ks).p.doc.flat⟩,())
def qly{self:gH}{N:Nat}(hl:l.length<=1000)(hp:Fc self b bx l fx N){q:Nat}{k:Int}{t:Tx}{n:Int}{ks r:F}(br:Bool)(hs:aJ l q (.cons k t n ks r))(hv:aX k t n ks false=0)(hN:ks.size<N):EI self (⟨b,l⟩,(q:Int),⟨bx,fx⟩,br,())=some (⟨false,(nY br (dT fx k t n ks).p.doc).flat⟩,()):=by
 have e:=hp q k t n ks r hs hv hN;have hz:=lP (fx:=fx) hl hs hv;rw[qvn,e,af];cases br with
 |false=>rfl
 |true=>rw[show ar true=false from rfl,aI,vG];simp only[af];rw[vG];simp only[af];have hD:Ds [(⟨false,(bC [40]).flat⟩:(Sl Y0)),⟨false,(dT fx k t n ks).p.doc.flat⟩,⟨false,(bC [41]).flat⟩] [bC [40],(dT fx k t n ks).p.doc,bC [41]]:=.cons rfl rfl (.cons rfl (iG fx k t n ks) (.one rfl rfl));rw[ZQ 45 [] 0 0 false _ (by simp) (by rw[hD.lens];simp only[eA,fD,gR];omega),hD.cat];rfl
def qrp{self:gH}{N:Nat}(hl:l.length<=1000)(hx:fx.length<=1000000)(hp:Fc self b bx l fx N){q:Nat}{k:Int}{t:Tx}{n:Int}{ks r:F}(op:Tx)(lv sd s:Int)(hs:aJ l q (.cons k t n ks r))(hv:aX k t n ks false=0)(hN:ks.size<N):K8 self (⟨b,l⟩,(q:Int),⟨bx,fx⟩,(op,lv,sd),s,())=some (⟨false,(qg (dT fx k t n ks).p lv sd s).flat⟩,()):=by
 have he:(dT fx k t n ks).p.lk=cO fx k ks:=rfl;have hf:(dT fx k t n ks).p.lv=(eH fx k ks).2.1:=rfl;have hg:(dT fx k t n ks).p.sd=(eH fx k ks).2.2:=rfl;have hc:aP (rowOf fx k ks).isSome (aP (aL (eH fx k ks).2.1 lv) (some true) (aP (ag (eH fx k ks).2.1 lv) (aP (ar (ag (eH fx k ks).2.2 s)) (some true) (some (ar (ag sd s)))) (some false))) (some false)=some (JW (dT fx k t n ks).p lv sd s):=by
  unfold JW;rw[he,hf,hg];cases hr:rowOf fx k ks with
  |none=>
   have:cO fx k ks≠2:=by
    unfold cO
    grind
   rw[zo this];rfl
  |some f=>
   have:cO fx k ks=2:=by
    unfold cO;rw[hr];by_cases h6:k=6
    ·rw[if_pos h6]
    ·rw[ZZ fx h6] at hr;cases hr
   rw[zt this];show aP true _ _=_;rw[aK,Bool.true_and,bD];generalize (eH fx k ks).2.1=p1;generalize (eH fx k ks).2.2=p2;by_cases c1:p1<lv
   ·grind
   ·rw[if_neg c1,zo c1,gP,Bool.false_or];by_cases c2:p1=lv
    ·rw[if_pos c2,zt c2,Bool.true_and];by_cases c3:p2=s
     ·subst c3;rw[show ag p2 p2=true from ct.2 rfl,show ar true=false from rfl,aI,zo (fun h=>h rfl),Bool.false_or];by_cases c4:sd=p2
      ·subst c4;rw[show ag sd sd=true from ct.2 rfl,zo (fun h=>h rfl)];rfl
      ·rw[eB c4,zt c4];rfl
     ·rw[eB c3,show ar false=true from rfl,aK,zt c3];rfl
    grind
 rw[qvo,Z3 hl hx hs hv,af];simp only;rw[hc];simp only[af];have hb:aP (JW (dT fx k t n ks).p lv sd s) (some true) (az (mM (⟨b,l⟩,(q:Int),⟨bx,fx⟩,())) (fun x2=>some (ag x2.1 3)))=some (decide ((dT fx k t n ks).p.lk=3)||JW (dT fx k t n ks).p lv sd s):=by
  cases JW (dT fx k t n ks).p lv sd s with
  |true=>rw[aK,Bool.or_true]
  |false=>rw[aI,Z4 hl hx hs hv,af,Bool.or_false,he];rfl
 rw[hb];simp only[af];rw[qly hl hp _ hs hv hN];rfl
def J3(fx:List ak):Nat->F->Nat
 |q,.nil=>q
 |q,.cons k _ _ ks _=>if cO fx k ks=1 then J3 fx (q+1) ks else q
def Fe(ds:List F):List (Sl Y0):=ds.map fun d=>⟨false,d.flat⟩
def zjr{ds:List F}(h:∀d,d∈ds->d.av=1):Ds (Fe ds) ds:=⟨by unfold PU Fe;rw[zS];rfl,h⟩
def qrq{q:Nat}{k:Int}{t:Tx}{n:Int}{ks r:F}(M:Nat)(hM:ks.size<=M)(hs:aJ l q (.cons k t n ks r))(hv:aX k t n ks false=0):∃kh th nh l0 rh,aJ l (J3 fx q (.cons k t n ks r)) (.cons kh th nh l0 rh)/\aX kh th nh l0 false=0/\l0.size<=ks.size/\(cO fx k ks=1->l0.size<ks.size)/\(dT fx k t n ks).hd=(dT fx kh th nh l0).p/\(∀d,d∈(dT fx k t n ks).args->d.av=1):=by
 induction M generalizing q k t n ks r with
 |zero=>
  have hk:cO fx k ks≠1:=by intro h;have h6:=Vq h;subst h6;obtain⟨a,s,c,d,a',s',c',d',rfl,_⟩:=xm hv;have hM:d.size+(d'.size+0+1)+1<=0:=hM;omega
  obtain⟨e1,e2⟩:=Vp (t:=t) (n:=n) hk;refine⟨k,t,n,ks,r,?_,hv,Nat.le_refl _,fun h=>absurd h hk,e1,fun d hd=>by rw[e2] at hd;cases hd⟩;show aJ l (if cO fx k ks=1 then J3 fx (q+1) ks else q) _
  grind
 |succ M ih=>
  by_cases hk:cO fx k ks=1
  ·have h6:=Vq hk;subst h6;obtain⟨g1,g2,g3,g4⟩:=hs.node;obtain⟨a,s,c,d,a',s',c',d',rfl,v1,v2⟩:=xm hv;have hM:d.size+(d'.size+0+1)+1<=M+1:=hM;obtain⟨e1,e2⟩:=Vo (t:=t) (n:=n) hk;obtain⟨kh,th,nh,l0,rh,w1,w2,w3,w4,w5,w6⟩:=ih (q:=q+1) om g2 v1;refine⟨kh,th,nh,l0,rh,?_,w2,by show l0.size<=d.size+(d'.size+0+1)+1;omega,fun _=>by show l0.size<d.size+(d'.size+0+1)+1;omega,by rw[e1];exact w5,fun x hx=>?_⟩
   ·show aJ l (if _ then J3 fx (q+1) (.cons a s c d (.cons a' s' c' d' .nil)) else q) _
    grind
   ·rw[e2] at hx;rcases zH.1 hx with hx|hx
    ·exact w6 x hx
    ·rcases zk.1 hx with rfl|hx
     ·rfl
     ·rcases zk.1 hx with rfl|hx
      ·exact Lv _ (iG fx a' s' c' d')
      ·cases hx
  ·obtain⟨e1,e2⟩:=Vp (t:=t) (n:=n) hk;refine⟨k,t,n,ks,r,?_,hv,Nat.le_refl _,fun h=>absurd h hk,e1,fun d hd=>by rw[e2] at hd;cases hd⟩;show aJ l (if cO fx k ks=1 then J3 fx (q+1) ks else q) _
   grind
def qws{self:gH}{N:Nat}(hl:l.length<=1000)(hx:fx.length<=1000000)(hp:Fc self b bx l fx N):∀(M:Nat) (q:Nat) (k:Int) (t:Tx) (n:Int) (ks r:F),ks.size<M->aJ l q (.cons k t n ks r)->aX k t n ks false=0->ks.size<=N->bc (Na self) M (⟨b,l⟩,(q:Int),⟨bx,fx⟩,())=some (((J3 fx q (.cons k t n ks r):Nat):Int),⟨decide (cO fx k ks≠1),Fe (dT fx k t n ks).args⟩,())
 |0,_,_,_,_,_,_,h,_,_,_=>absurd h (Nat.not_lt_zero _)
 |M+1,q,k,t,n,ks,r,hM,hs,hv,hN=>by
  show Na self (bc (Na self) M) (⟨b,l⟩,(q:Int),⟨bx,fx⟩,())=_;have hc:=Z4 (b:=b) (bx:=bx) hl hx hs hv;rw[qvp,hc,af];simp only;have he:J3 fx q (.cons k t n ks r)=if cO fx k ks=1 then J3 fx (q+1) ks else q:=rfl
  by_cases hk:cO fx k ks=1
  ·have h6:=Vq hk;subst h6;obtain⟨g1,g2,g3,g4⟩:=hs.node;have hf:=yo b l om hs;have hj:=hs.small hl;have hz:=Vk fx hv (Rv fx ks _ _ (bX.1 hv).2);have hg:=(qrq (fx:=fx) ks.size (Nat.le_refl _) hs hv).choose_spec.choose_spec.choose_spec.choose_spec.choose_spec.2.2.2.2.2;obtain⟨a,s,c,d,a',s',c',d',rfl,v1,v2⟩:=xm hv;obtain⟨e1,e2⟩:=Vo (t:=t) (n:=n) hk;have hM:d.size+(d'.size+0+1)+1<M+1:=hM;have hN:d.size+(d'.size+0+1)+1<=N:=hN;obtain⟨_,_,p2,_⟩:=g2.node;have ih:=qws hl hx hp M (q+1) a s c d (.cons a' s' c' d' .nil) om g2 v1 om;have oa:cM ((F.cons a s c d (.cons a' s' c' d' .nil)).pos (q+1)) 0=some ((q+1:Nat):Int):=rfl;have my:cM ((F.cons a s c d (.cons a' s' c' d' .nil)).pos (q+1)) 1=some ((q+1+1+d.size:Nat):Int):=rfl;have hm:(Fe (dT fx a s c d).args).length<=10000:=by
    have h1:=JX hg;rw[e2,zd] at h1;have h2:=hz.2.1;rw[e2] at h2;have hj:d.size+(d'.size+0+1)+1+1<=1000:=hj;have h2:_+_+5<=6*(d.size+(d'.size+0+1)+1+1):=h2;show((dT fx a s c d).args.map _).length<=_
    grind
   rw[show ag (cO fx 6 (.cons a s c d (.cons a' s' c' d' .nil))) 1=true from ct.2 hk,show ar true=false from rfl,aI,hf];simp only[af];rw[oa];simp only[af];rw[ih];simp only[af];rw[F4];simp only[af];rw[show ae (Fe (dT fx a s c d).args)=(((Fe (dT fx a s c d).args).length:Nat):Int) from rfl,show ae ([(⟨false,bO.flat⟩:(Sl Y0))]:List (Sl Y0))=((1:Nat):Int) from rfl,il om];simp only[af];rw[my];simp only[af];rw[Z4 hl hx p2 v2];simp only[af];have hn:ar (ag (cO fx a' d') 0)=decide ((dT fx a' s' c' d').p.lk≠0):=by
    show ar (ag (cO fx a' d') 0)=decide (cO fx a' d'≠0);by_cases c:cO fx a' d'=0
    ·rw[c];rfl
    ·rw[eB c,zt c];rfl
   rw[hn,qly hl hp _ p2 v2 om];simp only[af];rw[PB,show ae (Fe (dT fx a s c d).args++[(⟨false,bO.flat⟩:(Sl Y0))])=(((Fe (dT fx a s c d).args).length+1:Nat):Int) from by show(((Fe (dT fx a s c d).args++[(⟨false,bO.flat⟩:(Sl Y0))]).length:Nat):Int)=_;rw[zd];rfl,
    show ae ([(⟨false,(nY (decide ((dT fx a' s' c' d').p.lk≠0)) (dT fx a' s' c' d').p.doc).flat⟩:(Sl Y0))]:List (Sl Y0))=((1:Nat):Int) from rfl,il om]
   simp only[af];rw[he,if_pos hk,e2,PB,JF,show decide (cO fx 6 (.cons a s c d (.cons a' s' c' d' .nil))≠1)=false from zo (fun h=>h hk)];unfold Fe;rw[zQ,zm];rfl
  ·obtain⟨e1,e2⟩:=Vp (t:=t) (n:=n) hk;rw[eB hk,show ar false=true from rfl,aK,he,if_neg hk,e2,zt hk];rfl
def z4q{self:gH}{N:Nat}(hl:l.length<=1000)(hx:fx.length<=1000000)(hp:Fc self b bx l fx N){q:Nat}{k:Int}{t:Tx}{n:Int}{ks r:F}(hs:aJ l q (.cons k t n ks r))(hv:aX k t n ks false=0)(hN:ks.size<=N):TY self (⟨b,l⟩,(q:Int),⟨bx,fx⟩,())=some (((J3 fx q (.cons k t n ks r):Nat):Int),⟨decide (cO fx k ks≠1),Fe (dT fx k t n ks).args⟩,()):=vw (ks.size+1) fun M hM=>qws hl hx hp M q k t n ks r om hs hv hN
end
section
variable {b bx:Bool} {l:List ND} {fx:List ak} {self:gH} {N:Nat}
def Z5{s:Tx}{p q:Tx}(hl:s.length<=1000)(hp:p.length<=100)(hq:q.length<=100){β:Type}(K:(Sl Y0)×Unit->Option β):az (jS (s,())) (fun x=>az (fit (bS (ae p) (ae x.1))) (fun _=>az (fit (bS (ae (cw p x.1)) (ae q))) (fun _=>az (eO (cw (cw p x.1) q,())) K)))=K (⟨false,(bC (p++kA s++q)).flat⟩,()):=by have hn:=Rw s;rw[ZV om,af];simp only;rw[rA p (kA s) om,af,dK,rA (p++kA s) q (by rw[zd];omega),af,dK,vG,af]
def z9y(hl:l.length<=1000)(ht:TL 1000 l)(hp:Fc self b bx l fx N){q:Nat}{k:Int}{t:Tx}{n:Int}{ks r:F}(hs:aJ l q (.cons k t n ks r))(hv:aX k t n ks false=0)(hN:ks.size<=N)(ho:n5 k=true):pf self (⟨b,l⟩,(q:Int),⟨bx,fx⟩,())=some (⟨false,(dT fx k t n ks).p.doc.flat⟩,()):=by
 obtain⟨g1,g2,g3,g4⟩:=hs.node;have he:t.length<=1000:=ht _ (zv g1);obtain⟨hn,hf⟩:=bX.1 hv;obtain⟨_,_,hk,_,_,_⟩:=bT.1 hn;obtain⟨c1,c2,c3,_,_⟩:=Lo hk;have hc:=yo b l om hs;have hg:(dT fx k t n ks).p.doc=PV k t (cK (dF fx ks) 0).p.doc (cK (dF fx ks) 1).p.doc (cK (dF fx ks) 2).p.doc:=ZP fx t n ks _ ho;have mN:ag k 10=false:=by rcases E9 ho with h|h|h|h|h|h<;>subst h<;>rfl
 rw[mN] at hf;rw[EN,aU g1,af,hc];simp only[af];rw[hg];by_cases hA:k=5\/k=11
 ·obtain⟨a,s,c,d,rfl⟩:=ZO (c1 hA);obtain⟨v1,_⟩:=vH hf rfl;have hm:d.size+0+1<=N:=hN;have k1:=hp _ a s c d _ g2 v1 om;have s1:=lP (fx:=fx) hl g2 v1;have u1:=vl s1;have oa:cM ((F.cons a s c d .nil).pos (q+1)) 0=some ((q+1:Nat):Int):=rfl;have n0:(cK (dF fx (.cons a s c d .nil)) 0).p.doc=(dT fx a s c d).p.doc:=rfl;rw[n0];rcases hA with rfl|rfl
  ·rw[bA 5 1,bA 5 2,bA 5 3,bA 5 4,lZ 5 5];rw[Z5 he dc dc];simp only;rw[oa];simp only[af];rw[k1];simp only[af];rw[BM _ (d:=(dT fx a s c d).p.doc) rfl (iG fx a s c d) om];simp only[af];rw[J0 false (.cons (d:=bC _) rfl rfl (.one (d:=bf _) rfl rfl)) (by simp only[eA,fD,gR];omega)];rfl
  ·rw[bA 11 1,bA 11 2,bA 11 3,bA 11 4,bA 11 5];rw[bA 11 7];simp only[af];rw[bA 11 8,bA 11 9,lZ 11 11];rw[vG];simp only[af];rw[oa];simp only[af];rw[k1];simp only[af];rw[BM _ (d:=(dT fx a s c d).p.doc) rfl (iG fx a s c d) om];simp only[af];rw[J0 false (.cons (d:=bC _) rfl rfl (.one (d:=bf _) rfl rfl)) (by simp only[eA,fD,gR];omega)];rfl
 by_cases h9:k=9
 ·subst h9;obtain⟨a,s,c,d,r1,rfl,hr⟩:=iJ (ks:=ks) (n:=2) (by have:=c3 rfl;omega);obtain⟨a',s',c',d',r2,rfl,hj⟩:=iJ (n:=1) hr;obtain⟨a2,s2,pv,d2,r3,rfl,hq⟩:=iJ (n:=0) hj;obtain rfl:=Bh hq;obtain⟨v1,hf⟩:=vH hf rfl;obtain⟨v2,hf⟩:=vH hf rfl;obtain⟨v3,hf⟩:=vH hf rfl;have hm:d.size+(d'.size+(d2.size+0+1)+1)+1<=N:=hN;obtain⟨_,_,p2,_⟩:=g2.node;obtain⟨_,_,p3,_⟩:=p2.node;have k1:=hp _ a s c d _ g2 v1 om;have k2:=hp _ a' s' c' d' _ p2 v2 om;have k3:=hp _ a2 s2 pv d2 _ p3 v3 om;have s1:=lP (fx:=fx) hl g2 v1;have P1:=lP (fx:=fx) hl p2 v2;have s3:=lP (fx:=fx) hl p3 v3;have u1:=vl s1;have u2:=vl P1;have u3:=vl s3;have oa:cM ((F.cons a s c d (.cons a' s' c' d' (.cons a2 s2 pv d2 .nil))).pos (q+1)) 0=some ((q+1:Nat):Int):=rfl;have my:cM ((F.cons a s c d (.cons a' s' c' d' (.cons a2 s2 pv d2 .nil))).pos (q+1)) 1=some ((q+1+1+d.size:Nat):Int):=rfl;have P2:cM ((F.cons a s c d (.cons a' s' c' d' (.cons a2 s2 pv d2 .nil))).pos (q+1)) 2=some ((q+1+1+d.size+1+d'.size:Nat):Int):=rfl;rw[bA 9 1,bA 9 2,bA 9 3,bA 9 4,bA 9 5];rw[bA 9 7];simp only[af];rw[bA 9 8,lZ 9 9];rw[vG];simp only[af];rw[oa];simp only[af];rw[k1];simp only[af];rw[BM _ (d:=(dT fx a s c d).p.doc) rfl (iG fx a s c d) om];simp only[af];rw[F4];simp only[af];rw[vG];simp only[af];rw[my];simp only[af];rw[k2];simp only[af];rw[BM _ (d:=(dT fx a' s' c' d').p.doc) rfl (iG fx a' s' c' d') om];simp only[af];rw[vG];simp only[af];rw[P2];simp only[af];rw[k3];simp only[af];rw[BM _ (d:=(dT fx a2 s2 pv d2).p.doc) rfl (iG fx a2 s2 pv d2) om];simp only[af];rw[J0 false (.cons (d:=bC _) rfl rfl (.cons (d:=bf _) rfl rfl (.cons (d:=bO) rfl rfl (.cons (d:=bC _) rfl rfl (.cons (d:=bf _) rfl rfl (.cons (d:=bO) rfl rfl (.cons (d:=bC _) rfl rfl (.one (d:=bf _) rfl rfl)))))))) (by simp only[eA,fD,gR,lO];omega)];rfl
 have h2:k=6\/k=7\/k=8\/k=12:=by
  rcases E9 ho with h|h|h|h|h|h
  all_goals omega
 obtain⟨a,s,c,d,r1,rfl,hr⟩:=iJ (ks:=ks) (n:=1) (by have:=c2 h2;omega);obtain⟨a',s',c',d',r2,rfl,hj⟩:=iJ (n:=0) hr;obtain rfl:=Bh hj;obtain⟨v1,hf⟩:=vH hf rfl;obtain⟨v2,hf⟩:=vH hf rfl;have hm:d.size+(d'.size+0+1)+1<=N:=hN;obtain⟨_,_,p2,_⟩:=g2.node;have k1:=hp _ a s c d _ g2 v1 om;have k2:=hp _ a' s' c' d' _ p2 v2 om;have s1:=lP (fx:=fx) hl g2 v1;have P1:=lP (fx:=fx) hl p2 v2;have u1:=vl s1;have u2:=vl P1;have n0:(cK (dF fx (.cons a s c d (.cons a' s' c' d' .nil))) 0).p.doc=(dT fx a s c d).p.doc:=rfl;have n1:(cK (dF fx (.cons a s c d (.cons a' s' c' d' .nil))) 1).p.doc=(dT fx a' s' c' d').p.doc:=rfl;have oa:cM ((F.cons a s c d (.cons a' s' c' d' .nil)).pos (q+1)) 0=some ((q+1:Nat):Int):=rfl;have my:cM ((F.cons a s c d (.cons a' s' c' d' .nil)).pos (q+1)) 1=some ((q+1+1+d.size:Nat):Int):=rfl;rw[n0,n1];rcases E9 ho with h|h|h|h|h|h
 ·omega
 ·subst h;rw[bA 7 1,bA 7 2,bA 7 3,bA 7 4,bA 7 5];rw[show ag 7 7=true from rfl,aK];simp only[af];rw[aK,show ag 7 8=false from rfl,aI];simp only[af];rw[Z5 he dc dc];simp only;rw[oa];simp only[af];rw[k1];simp only[af];rw[BM _ (d:=(dT fx a s c d).p.doc) rfl (iG fx a s c d) om];simp only[af];rw[F4];simp only[af];rw[vG];simp only[af];rw[my];simp only[af];rw[k2];simp only[af];rw[J0 false (.cons (d:=bC _) rfl rfl (.cons (d:=bf _) rfl rfl (.cons (d:=bO) rfl rfl (.cons (d:=bC _) rfl rfl (.cons (d:=bO) rfl rfl (.one (d:=(dT fx a' s' c' d').p.doc) rfl (iG fx a' s' c' d'))))))) (by simp only[eA,fD,gR,lO];omega)];rfl
 ·subst h;rw[bA 8 1,bA 8 2,bA 8 3,bA 8 4,bA 8 5];rw[bA 8 7];simp only[af];rw[show ag 8 8=true from rfl,aK,aK];simp only[af];rw[Z5 he dc dc];simp only;rw[oa];simp only[af];rw[k1];simp only[af];rw[BM _ (d:=(dT fx a s c d).p.doc) rfl (iG fx a s c d) om];simp only[af];rw[F4];simp only[af];rw[vG];simp only[af];rw[my];simp only[af];rw[k2];simp only[af];rw[J0 false (.cons (d:=bC _) rfl rfl (.cons (d:=bf _) rfl rfl (.cons (d:=bO) rfl rfl (.cons (d:=bC _) rfl rfl (.cons (d:=bO) rfl rfl (.one (d:=(dT fx a' s' c' d').p.doc) rfl (iG fx a' s' c' d'))))))) (by simp only[eA,fD,gR,lO];omega)];rfl
 ·exact absurd h h9
 ·omega
 ·subst h;rw[bA 12 1,bA 12 2,bA 12 3,bA 12 4,bA 12 5];rw[bA 12 7];simp only[af];rw[bA 12 8,bA 12 9,bA 12 11,lZ 12 12];rw[vG];simp only[af];rw[oa];simp only[af];rw[k1];simp only[af];rw[BM _ (d:=(dT fx a s c d).p.doc) rfl (iG fx a s c d) om];simp only[af];rw[F4];simp only[af];rw[Z5 he dc dc];simp only;rw[my];simp only[af];rw[k2];simp only[af];rw[BM _ (d:=(dT fx a' s' c' d').p.doc) rfl (iG fx a' s' c' d') om];simp only[af];rw[J0 false (.cons (d:=bC _) rfl rfl (.cons (d:=bf _) rfl rfl (.cons (d:=bO) rfl rfl (.cons (d:=bC _) rfl rfl (.one (d:=bf _) rfl rfl))))) (by simp only[eA,fD,gR,lO];omega)];rfl
end
section
variable {b bx:Bool} {l:List ND} {fx:List ak} {self:gH} {N:Nat}
def z9z(hl:l.length<=1000)(hx:fx.length<=1000000)(hj:∀f,f∈fx->f.1.length<=1000)(hp:Fc self b bx l fx N){q:Nat}{t:Tx}{n:Int}{ks r:F}(hs:aJ l q (.cons 6 t n ks r))(hv:aX 6 t n ks false=0)(hN:ks.size<=N){f:ak}(hr:rowOf fx 6 ks=some f):pf self (⟨b,l⟩,(q:Int),⟨bx,fx⟩,())=some (⟨false,(dT fx 6 t n ks).p.doc.flat⟩,()):=by
 obtain⟨g1,g2,g3,g4⟩:=hs.node;have hg:=Z3 (b:=b) (bx:=bx) hl hx hs hv;have hG:eH fx 6 ks=f:=by unfold eH;rw[hr];rfl
 rw[hG,hr] at hg;have hc:=yo b l om hs;have he:(dT fx 6 t n ks).p.doc=PW f (cK (dF fx ks) 0).b (cK (dF fx ks) 1).p:=by show eF fx 6 t n ks _=_;unfold eF;rw[if_neg dc,if_neg dc,if_neg dc,if_neg dc,if_neg dc,if_pos rfl,hr]
 rw[he];obtain⟨a,s,c,d,a',s',c',d',rfl,v1,v2⟩:=xm hv;have ha:a=6:=zA fun h=>by rw[Vn fx h] at hr;cases hr
 subst ha;obtain⟨a1,s1,c1,d1,a2,s2,c2,d2,rfl,w1,w2⟩:=xm v1;have hn:d1.size+(d2.size+0+1)+1+(d'.size+0+1)+1<=N:=hN;obtain⟨_,m2,p2,_⟩:=g2.node;obtain⟨_,_,n2,_⟩:=m2.node;have hk:=yo b l om g2;have ho:f.1.length<=1000:=by
  have h3:a1=3:=zA fun h=>by
   have:rowOf fx 6 (.cons 6 s c (.cons a1 s1 c1 d1 (.cons a2 s2 c2 d2 .nil)) (.cons a' s' c' d' .nil))=none:=if_neg (fun e=>h e.2.2)
   grind
  have:rowOf fx 6 (.cons 6 s c (.cons a1 s1 c1 d1 (.cons a2 s2 c2 d2 .nil)) (.cons a' s' c' d' .nil))=kP fx s1:=if_pos ⟨rfl,rfl,h3⟩;rw[this] at hr;exact hj f (Zx hr).1
 have sl:=lP (fx:=fx) hl n2 w2;have sr:=lP (fx:=fx) hl p2 v2;have zl:=Ru (dT fx a2 s2 c2 d2).p f.2.1 f.2.2 (-1);have zr:=Ru (dT fx a' s' c' d').p f.2.1 f.2.2 1;have k1:=qrp (b:=b) (bx:=bx) hl hx hp f.1 f.2.1 f.2.2 (-1) n2 w2 om;have k2:=qrp (b:=b) (bx:=bx) hl hx hp f.1 f.2.1 f.2.2 1 p2 v2 om;rw[EN,aU g1,af,hc];simp only[af];rw[bA 6 1,bA 6 2,bA 6 3,bA 6 4,bA 6 5,bA 6 7];simp only[af];rw[bA 6 8,bA 6 9,bA 6 11,bA 6 12,bA 6 10];rw[hg];simp only[af];rw[show(Option.isSome (some f))=true from rfl,aK];have oa:cM ((F.cons 6 s c (.cons a1 s1 c1 d1 (.cons a2 s2 c2 d2 .nil)) (.cons a' s' c' d' .nil)).pos (q+1)) 0=some ((q+1:Nat):Int):=rfl;have my:cM ((F.cons 6 s c (.cons a1 s1 c1 d1 (.cons a2 s2 c2 d2 .nil)) (.cons a' s' c' d' .nil)).pos (q+1)) 1=some ((q+1+1+(F.cons a1 s1 c1 d1 (.cons a2 s2 c2 d2 .nil)).size:Nat):Int):=rfl;have P2:cM ((F.cons a1 s1 c1 d1 (.cons a2 s2 c2 d2 .nil)).pos (q+1+1)) 1=some ((q+1+1+1+d1.size:Nat):Int):=rfl;rw[oa];simp only[af];rw[hk];simp only[af];rw[P2];simp only[af];rw[k1];simp only[af];rw[F4];simp only[af];rw[rA f.1 [32] (by show f.1.length+1<=_;omega)];simp only[af];rw[vG];simp only[af];rw[my];simp only[af];rw[k2];simp only[af];have hf:=ZU false (.cons (y:=⟨false,bO.flat⟩) (d:=bO) rfl rfl (.cons (y:=⟨false,(bC (f.1++[32])).flat⟩) (d:=bC (f.1++[32])) rfl rfl (.one (y:=⟨false,(qg (dT fx a' s' c' d').p f.2.1 f.2.2 1).flat⟩) (d:=qg (dT fx a' s' c' d').p f.2.1 f.2.2 1) rfl (Lv _ (iG fx a' s' c' d'))))) (by simp only[eA,fD,gR,lO];omega);have hm:=Lt [bO,bC (f.1++[32]),qg (dT fx a' s' c' d').p f.2.1 f.2.2 1];simp only[eA,fD,gR,lO] at hm;rw[show cw f.1 [32]=f.1++[32] from dK _ _,hf];simp only[af];rw[J0 false (.cons (d:=qg (dT fx a2 s2 c2 d2).p f.2.1 f.2.2 (-1)) rfl (Lv _ (iG fx a2 s2 c2 d2)) (.one (d:=jX _) rfl rfl)) (by simp only[eA,fD];omega)];simp only[af];rfl
def za0(hl:l.length<=1000)(hx:fx.length<=1000000)(hp:Fc self b bx l fx N){q:Nat}{t:Tx}{n:Int}{ks r:F}(hs:aJ l q (.cons 6 t n ks r))(hv:aX 6 t n ks false=0)(hN:ks.size<=N)(hr:cO fx 6 ks=1):pf self (⟨b,l⟩,(q:Int),⟨bx,fx⟩,())=some (⟨false,(dT fx 6 t n ks).p.doc.flat⟩,()):=by
 obtain⟨g1,g2,g3,g4⟩:=hs.node;have hc:rowOf fx 6 ks=none:=by
  cases h:rowOf fx 6 ks with
  |none=>rfl
  |some f=>
   unfold cO at hr
   grind
 have hk:=Z3 (b:=b) (bx:=bx) hl hx hs hv;rw[hc] at hk;have he:=yo b l om hs;have hz:=Vk fx hv (Rv fx ks _ _ (bX.1 hv).2);have ho:=hs.small hl;have hf:=z4q hl hx hp hs hv hN;obtain⟨kh,th,nh,l0,rh,w1,w2,w3,w4,w5,w6⟩:=qrq (fx:=fx) ks.size (Nat.le_refl _) hs hv;have w4:=w4 hr;have hm:=Z4 (b:=b) (bx:=bx) hl hx w1 w2;have hq:(dT fx kh th nh l0).p.lk=cO fx kh l0:=rfl;have e:=qly hl hp (decide (cO fx kh l0=2)||decide (cO fx kh l0=3)) w1 w2 om;have ht:=lP (fx:=fx) hl w1 w2;have hu:=hz.2.1;have hg:=ZU (decide (cO fx 6 ks≠1)) (zjr w6) om;have hw:=Lt (dT fx 6 t n ks).args;have hn:aP (ag (cO fx kh l0) 2) (some true) (some (ag (cO fx kh l0) 3))=some (decide (cO fx kh l0=2)||decide (cO fx kh l0=3)):=by
  rw[gP];by_cases c:cO fx kh l0=2
  ·grind
  ·rw[if_neg c,zo c,Bool.false_or];rfl
 have hj:(dT fx 6 t n ks).p.doc=PY (dT fx 6 t n ks).hd (dT fx 6 t n ks).args:=by obtain⟨a,s,c,d,a',s',c',d',rfl,v1,v2⟩:=xm hv;obtain⟨e1,e2⟩:=Vo (t:=t) (n:=n) hr;rw[e1,e2];show eF fx 6 t n _ _=_;unfold eF;rw[if_neg dc,if_neg dc,if_neg dc,if_neg dc,if_neg dc,if_pos rfl,hc];rfl
 rw[hj,w5];rw[EN,aU g1,af,he];simp only[af];rw[bA 6 1,bA 6 2,bA 6 3,bA 6 4,bA 6 5,bA 6 7];simp only[af];rw[bA 6 8,bA 6 9,bA 6 11,bA 6 12,bA 6 10];rw[hk];simp only[af];rw[show(Option.isSome (none:Option ak))=false from rfl,aI];rw[hf];simp only[af];rw[hm];simp only[af];rw[hn];simp only[af];rw[e];simp only[af];rw[hg];simp only[af];have hy:=ZN (decide (cO fx kh l0=2)||decide (cO fx kh l0=3)) (dT fx kh th nh l0).p.doc;rw[J0 false (.cons (d:=nY (decide (cO fx kh l0=2)||decide (cO fx kh l0=3)) (dT fx kh th nh l0).p.doc) rfl (Lv _ (iG fx kh th nh l0)) (.one (d:=jX (dT fx 6 t n ks).args) rfl rfl)) (by simp only[eA,fD];omega)];rfl
end
section
variable {b bx:Bool} {l:List ND} {fx:List ak} {self:gH} {N:Nat}
def qz6(hl:l.length<=1000)(hg:GL l)(ht:TL 1000 l)(hp:Fc self b bx l fx N){q:Nat}{a a':Int}{s s':Tx}{c c':Int}{d d' r:F}(hs:aJ l q (.cons a s c d (.cons a' s' c' d' r)))(v1:aX a s c d true=0)(v2:aX a' s' c' d' false=0)(p2:aJ l (q+1+d.size) (.cons a' s' c' d' r))(hN:d'.size<N)(nb nr:Bool)(pre:List Int)(hn:pre.length<=100000)(R:List (Sl Y0))(es:List F)(hR:Ds R es)(ho:(cf es).size<=30000):∃J2 R',qa self (⟨b,l⟩,⟨bx,fx⟩,⟨nb,pre++(F.cons a s c d (.cons a' s' c' d' r)).pos q⟩,(pre.length:Int),⟨nr,R⟩,())=some (Sum.inl (⟨b,l⟩,⟨bx,fx⟩,⟨nb,pre++(F.cons a s c d (.cons a' s' c' d' r)).pos q⟩,((pre.length+2:Nat):Int),⟨J2,R'⟩,()))/\Ds R' (es++[bO,bC ([124,32]++((dT fx a s c d).pt++[32,45,62])),bf (dT fx a' s' c' d').p.doc]):=by
 have hk:R.length<=30000:=by have:=JX hR.2;have:=hR.len;omega
 have hf:=qwl (b:=b) hl hg ht hs v1;have hq:cm a s c (bH d)=(dT fx a s c d).pt:=rfl;have hm:=Vm a s c d (aJ.tl ht hs.first);have hv:=hs.small hl;have hd:=lP (fx:=fx) hl p2 v2;have hu:=vl hd;have k2:=hp _ a' s' c' d' r p2 v2 hN;have hc:=aB (k:=pre.length) om;have he:=J1 (k:=pre.length) om;rw[qk2];simp only;have hj:ae (pre++(F.cons a s c d (.cons a' s' c' d' r)).pos q)=((pre.length+(r.av+1+1):Nat):Int):=by show(((pre++(F.cons a s c d (.cons a' s' c' d' r)).pos q).length:Nat):Int)=_;rw[zd,F.dL];rfl
 rw[hj,hc,bD,if_pos om,F4];have a0:cM (pre++(F.cons a s c d (.cons a' s' c' d' r)).pos q) (pre.length:Int)=some (q:Int):=P0 pre _ _;have a1:cM (pre++(F.cons a s c d (.cons a' s' c' d' r)).pos q) ((pre.length+1:Nat):Int)=some ((q+1+d.size:Nat):Int):=z9t pre _ _ _;rw[a0];simp only[af];rw[hf];simp only[af];rw[rA [124,32] (cm a s c (bH d)) (by show 2+_<=_;omega)];simp only[af];rw[dK,rA ([124,32]++cm a s c (bH d)) [32,45,62] (by rw[zd];show 2+_+3<=_;omega)];simp only[af];rw[dK,vG];simp only[af];rw[a1];simp only[af];rw[k2];simp only[af];rw[BM _ (d:=(dT fx a' s' c' d').p.doc) rfl (iG fx a' s' c' d') om];simp only[af];rw[show ae R=((R.length:Nat):Int) from rfl,show ae ([(⟨false,bO.flat⟩:(Sl Y0)),⟨false,(bC ([124,32]++cm a s c (bH d)++[32,45,62])).flat⟩,⟨false,(bf (dT fx a' s' c' d').p.doc).flat⟩]:List (Sl Y0))=((3:Nat):Int) from rfl,il om];simp only[af];rw[he];refine⟨_,_,rfl,hR.app (.cons rfl rfl (.cons ?_ rfl (.one rfl rfl)))⟩;rfl
def z4r(nb nr:Bool)(pos:List Int)(he:pos.length<=200000)(R:List (Sl Y0))(es:List F)(hR:Ds R es)(hf:(cf es).size<=30000):qa self (⟨b,l⟩,⟨bx,fx⟩,⟨nb,pos⟩,(pos.length:Int),⟨nr,R⟩,())=some (Sum.inr (⟨false,(eW (es++[bO,bC Pz.jT])).flat⟩,())):=by
 have hc:R.length<=30000:=by have:=JX hR.2;have:=hR.len;omega
 rw[qk2];simp only;rw[show ae pos=((pos.length:Nat):Int) from rfl,aB om,bD,if_neg om,F4];simp only[af];rw[vG];simp only[af];rw[show ae R=((R.length:Nat):Int) from rfl,show ae ([(⟨false,bO.flat⟩:(Sl Y0)),⟨false,(bC [101,110,100]).flat⟩]:List (Sl Y0))=((2:Nat):Int) from rfl,il om];simp only[af];rw[show app R [(⟨false,bO.flat⟩:(Sl Y0)),⟨false,(bC [101,110,100]).flat⟩]=R++[(⟨false,bO.flat⟩:(Sl Y0)),⟨false,(bC [101,110,100]).flat⟩] from PB _ _,J0 _ (hR.app (.cons (d:=bO) rfl rfl (.one (d:=bC Pz.jT) rfl rfl))) (by rw[BL];simp only[eA,fD,gR,lO];omega)];simp only[af]
def qrr(hl:l.length<=1000)(hg:GL l)(ht:TL 1000 l)(hp:Fc self b bx l fx N)(nb:Bool):∀(e:Nat) (g:F) (q:Nat) (pre:List Int) (nr:Bool) (R:List (Sl Y0)) (es:List F),g.av=2*e->aJ l q g->eC true false true g=0->g.size<=N->pre.length+g.av<=100000->Ds R es->(cf (es++nZ (dF fx g))).size<=30000->aD (qa self) (⟨b,l⟩,⟨bx,fx⟩,⟨nb,pre++g.pos q⟩,(pre.length:Int),⟨nr,R⟩,())=some (⟨false,(eW (es++(nZ (dF fx g)++[bO,bC Pz.jT]))).flat⟩,())
 |0,g,q,pre,nr,R,es,hc,_,_,_,hk,hR,hj=>by obtain rfl:=Bh (ks:=g) om;have h0:nZ (dF fx .nil)=[]:=rfl;rw[h0,zn] at hj;have hm:pre++F.nil.pos q=pre:=zn pre;rw[hm,h0,List.nil_append];exact bZ (z4r nb nr pre om R es hR hj)
 |e+1,g,q,pre,nr,R,es,hc,hs,hf,hN,hk,hR,hj=>by
  obtain⟨a,s,c,d,a',s',c',d',r,rfl,hn,v1,v2,v3,q2,q3⟩:=Z2 hs hf hc;have hN:d.size+(d'.size+r.size+1)+1<=N:=hN;have hk:pre.length+(r.av+1+1)<=100000:=hk;have he:nZ (dF fx (.cons a s c d (.cons a' s' c' d' r)))=[bO,bC ([124,32]++((dT fx a s c d).pt++[32,45,62])),bf (dT fx a' s' c' d').p.doc]++nZ (dF fx r):=rfl;rw[he,<-zm] at hj;obtain⟨J2,R',st,ho⟩:=qz6 hl hg ht hp hs v1 v2 q2 om nb nr pre om R es hR (by rw[zm,BL] at hj;omega);have e2:=qrr hl hg ht hp nb e r (q+1+d.size+1+d'.size) (pre++[(q:Int),((q+1+d.size:Nat):Int)]) J2 R' _ hn q3 v3 om (by rw[zd];show pre.length+2+_<=_;omega) ho hj;rw[cU st,qz5,show((pre.length+2:Nat):Int)=(((pre++[(q:Int),((q+1+d.size:Nat):Int)]).length:Nat):Int) from by rw[zd];rfl,e2,he]
  grind
def z4s(hl:l.length<=1000)(hg:GL l)(ht:TL 1000 l)(hp:Fc self b bx l fx N){q:Nat}{t:Tx}{n:Int}{ks r:F}(hs:aJ l q (.cons 10 t n ks r))(hv:aX 10 t n ks false=0)(hN:ks.size<=N):pf self (⟨b,l⟩,(q:Int),⟨bx,fx⟩,())=some (⟨false,(dT fx 10 t n ks).p.doc.flat⟩,()):=by
 obtain⟨g1,g2,g3,g4⟩:=hs.node;obtain⟨hn,hf⟩:=bX.1 hv;obtain⟨_,_,hk,_,_,_⟩:=bT.1 hn;obtain⟨_,_,_,oC,_⟩:=Lo hk;obtain⟨oC,HE⟩:=oC rfl;have hc:=yo b l om hs;have hm:=hs.small hl;have hw:=lP (fx:=fx) hl hs hv;obtain⟨a,s,c,d,r0,rfl,hr⟩:=iJ (ks:=ks) (n:=ks.av-1) om;have hC:(F.cons a s c d r0).av=r0.av+1:=rfl;have mN:ag 10 10=true:=rfl;rw[mN] at hf;obtain⟨v0,hf⟩:=vH hf rfl;have hN:d.size+r0.size+1<=N:=hN;have hy:=r0.cu;have hm:d.size+r0.size+1+1<=1000:=hm;obtain⟨_,_,p0,_⟩:=g2.node;obtain⟨e,he⟩:∃e,r0.av=2*(e+1):=⟨r0.av / 2-1,by omega⟩;obtain⟨a1,s1,c1,d1,a2,s2,c2,d2,r1,rfl,hz,v1,v2,v3,q2,q3⟩:=Z2 p0 hf he;have hN:d.size+(d1.size+(d2.size+r1.size+1)+1)+1<=N:=hN;have k0:=hp _ a s c d _ g2 v0 om;have k2:=hp _ a2 s2 c2 d2 _ q2 v2 om;have d0:=lP (fx:=fx) hl g2 v0;have u0:=vl d0;have dd2:=lP (fx:=fx) hl q2 v2;have u2:=vl dd2;have ho:=qwl (b:=b) hl hg ht p0 v1;have hD:cm a1 s1 c1 (bH d1)=(dT fx a1 s1 c1 d1).pt:=rfl;have hx:=Vm a1 s1 c1 d1 (aJ.tl ht p0.first);have hq:=p0.small hl;have hj:(dT fx 10 t n (.cons a s c d (.cons a1 s1 c1 d1 (.cons a2 s2 c2 d2 r1)))).p.doc=eW ([bC Pz.dP,bf (dT fx a s c d).p.doc,bO,bC Pz.eU]++([jX [bO,bC ((dT fx a1 s1 c1 d1).pt++[32,45,62]),bf (dT fx a2 s2 c2 d2).p.doc]]++(nZ (dF fx r1)++[bO,bC Pz.jT]))):=by have h0:(dT fx 10 t n (.cons a s c d (.cons a1 s1 c1 d1 (.cons a2 s2 c2 d2 r1)))).p.doc=eF fx 10 t n (.cons a s c d (.cons a1 s1 c1 d1 (.cons a2 s2 c2 d2 r1))) (dF fx (.cons a s c d (.cons a1 s1 c1 d1 (.cons a2 s2 c2 d2 r1)))):=rfl;rw[h0];unfold eF;rw[if_neg dc,if_neg dc,if_neg dc,if_neg dc,if_pos rfl];rfl
 have hu:(cf ([bC Pz.dP,bf (dT fx a s c d).p.doc,bO,bC Pz.eU]++[jX [bO,bC ((dT fx a1 s1 c1 d1).pt++[32,45,62]),bf (dT fx a2 s2 c2 d2).p.doc]]++nZ (dF fx r1))).size<=30000:=by rw[hj] at hw;have:(cf ([bC Pz.dP,bf (dT fx a s c d).p.doc,bO,bC Pz.eU]++([jX [bO,bC ((dT fx a1 s1 c1 d1).pt++[32,45,62]),bf (dT fx a2 s2 c2 d2).p.doc]]++(nZ (dF fx r1)++[bO,bC Pz.jT])))).size+0+1+0+1<=6000:=hw;rw[<-zm,<-zm,BL] at this;omega
 have hq:d1.size+1+(d2.size+r1.size+1)<=1000:=by have:d.size+(d1.size+(d2.size+r1.size+1)+1)+1+1<=1000:=hm;omega
 have oa:cM ((F.cons a s c d (.cons a1 s1 c1 d1 (.cons a2 s2 c2 d2 r1))).pos (q+1)) 0=some ((q+1:Nat):Int):=rfl;have my:cM ((F.cons a s c d (.cons a1 s1 c1 d1 (.cons a2 s2 c2 d2 r1))).pos (q+1)) 1=some ((q+1+1+d.size:Nat):Int):=rfl;have P2:cM ((F.cons a s c d (.cons a1 s1 c1 d1 (.cons a2 s2 c2 d2 r1))).pos (q+1)) 2=some ((q+1+1+d.size+1+d1.size:Nat):Int):=rfl;rw[EN,aU g1,af,hc];simp only[af];rw[bA 10 1,bA 10 2,bA 10 3,bA 10 4,bA 10 5,bA 10 7];simp only[af];rw[bA 10 8,bA 10 9,bA 10 11,bA 10 12,lZ 10 10];rw[vG];simp only[af];rw[oa];simp only[af];rw[k0];simp only[af];rw[BM _ (d:=(dT fx a s c d).p.doc) rfl (iG fx a s c d) om];simp only[af];rw[F4];simp only[af];rw[vG];simp only[af];rw[my];simp only[af];rw[ho];simp only[af];rw[rA (cm a1 s1 c1 (bH d1)) [32,45,62] (by show _+3<=_;omega)];simp only[af];rw[dK,vG];simp only[af];rw[P2];simp only[af];rw[k2];simp only[af];rw[BM _ (d:=(dT fx a2 s2 c2 d2).p.doc) rfl (iG fx a2 s2 c2 d2) om];simp only[af];rw[ZU false (.cons (d:=bO) rfl rfl (.cons (d:=bC _) rfl rfl (.one (d:=bf _) rfl rfl))) (by simp only[eA,fD,gR,lO];omega)];simp only[af];rw[show ae ([(⟨false,(bC [109,97,116,99,104]).flat⟩:(Sl Y0)),⟨false,(bf (dT fx a s c d).p.doc).flat⟩,⟨false,bO.flat⟩,⟨false,(bC [119,105,116,104]).flat⟩]:List (Sl Y0))=((4:Nat):Int) from rfl,
  show ae ([(⟨false,(jX [bO,bC (cm a1 s1 c1 (bH d1)++[32,45,62]),bf (dT fx a2 s2 c2 d2).p.doc]).flat⟩:(Sl Y0))]:List (Sl Y0))=((1:Nat):Int) from rfl,il dc]
 simp only[af];have hA:Ds [(⟨false,(bC [109,97,116,99,104]).flat⟩:(Sl Y0)),⟨false,(bf (dT fx a s c d).p.doc).flat⟩,⟨false,bO.flat⟩,⟨false,(bC [119,105,116,104]).flat⟩] [bC Pz.dP,bf (dT fx a s c d).p.doc,bO,bC Pz.eU]:=.cons rfl rfl (.cons rfl rfl (.cons rfl rfl (.one rfl rfl)));have hB:Ds ([(⟨false,(bC [109,97,116,99,104]).flat⟩:(Sl Y0)),⟨false,(bf (dT fx a s c d).p.doc).flat⟩,⟨false,bO.flat⟩,⟨false,(bC [119,105,116,104]).flat⟩]++[(⟨false,(jX [bO,bC (cm a1 s1 c1 (bH d1)++[32,45,62]),bf (dT fx a2 s2 c2 d2).p.doc]).flat⟩:(Sl Y0))]) ([bC Pz.dP,bf (dT fx a s c d).p.doc,bO,bC Pz.eU]++[jX [bO,bC ((dT fx a1 s1 c1 d1).pt++[32,45,62]),bf (dT fx a2 s2 c2 d2).p.doc]]):=hA.app (.one rfl rfl);have e2:=qrr hl hg ht hp false e r1 (q+1+1+d.size+1+d1.size+1+d2.size) [((q+1:Nat):Int),((q+1+1+d.size:Nat):Int),((q+1+1+d.size+1+d1.size:Nat):Int)] false _ _ hz q3 v3 om (by show 3+_<=_;have:=r1.cu;omega) hB hu;rw[hj];refine Eq.trans e2 ?_;simp only[zm]
def zjs(k:Int):aL (fX k) 0=false->ix k=false->n5 k=false->ag k 1=false->ag k 2=false->ag k 3=false->ag k 6=false->ag k 10=false->k=4:=by refine Zs (P:=fun k=>aL (fX k) 0=false->ix k=false->n5 k=false->ag k 1=false->ag k 2=false->ag k 3=false->ag k 6=false->ag k 10=false->k=4) dc dc dc dc dc dc dc dc dc dc dc dc dc dc dc dc ?_ k;intro a ha h;have e:∀c,c∈Zr->ag a c=false:=ha;unfold fX at h;rw[e 1 dc,e 6 dc,e 9 dc,e 10 dc,e 11 dc,e 21 dc,e 23 dc,e 3 dc,e 5 dc,e 7 dc,e 8 dc,e 12 dc,e 22 dc,e 4 dc,e 24 dc,e 2 dc] at h;cases h
def z1w(hl:l.length<=1000)(hg:GL l)(ht:TL 1000 l)(hx:fx.length<=1000000)(hm:∀f,f∈fx->f.1.length<=1000):∀N:Nat,Fc (bc pf N) b bx l fx N
 |0=>fun _ _ _ _ _ _ _ _ h=>absurd h (Nat.not_lt_zero _)
 |N+1=>by
  have hp:=z1w hl hg ht hx hm N;intro q k t n ks r hs hv hN;have hN:ks.size<=N:=om
  show pf (bc pf N) (⟨b,l⟩,(q:Int),⟨bx,fx⟩,())=_;by_cases ho:n5 k=true
  ·exact z9y hl ht hp hs hv hN ho
  obtain⟨g1,g2,g3,g4⟩:=hs.node;have hq:=(hg.at g1).1;have hz:t.length<=1000:=ht _ (zv g1);obtain⟨hn,hf⟩:=bX.1 hv;obtain⟨hu,hy,hk,he,_,_⟩:=bT.1 hn;have hj:(dT fx k t n ks).p.doc=eF fx k t n ks (dF fx ks):=rfl;by_cases k10:k=10
  ·subst k10;exact z4s hl hg ht hp hs hv hN
  by_cases k6:k=6
  ·subst k6;cases hr:rowOf fx 6 ks with
   |some f=>exact z9z hl hx hm hp hs hv hN hr
   |none=>exact za0 hl hx hp hs hv hN (by unfold cO;rw[if_pos rfl,hr])
  have no:∀c:Int,n5 c=true->k≠c:=fun c hc e=>ho (e▸hc);rw[EN,aU g1,af,yo b l om hs];simp only[af];rw[hj];unfold eF;rw[gP];by_cases k1:k=1
  ·subst k1;have hw:qf n=true:=he;rw[if_pos rfl,if_pos rfl,qwk hw];rfl
  rw[if_neg k1,if_neg k1,gP];by_cases k2:k=2
  ·subst k2;rw[if_pos rfl,if_pos rfl,qz3 (s:=t) hq om];rfl
  rw[if_neg k2,if_neg k2,gP];by_cases k3:k=3
  ·subst k3;rw[if_pos rfl,if_pos rfl,ZV (s:=t) om];rfl
  have k4:k=4:=zjs k hu hy (by cases h:n5 k with|true=>exact absurd h ho|false=>rfl) (eB k1) (eB k2) (eB k3) (eB k6) (eB k10);subst k4;rfl
def za1(hl:l.length<=1000)(hg:GL l)(ht:TL 1000 l)(hx:fx.length<=1000000)(hc:∀f,f∈fx->f.1.length<=1000){q:Nat}{k:Int}{t:Tx}{n:Int}{ks r:F}(hs:aJ l q (.cons k t n ks r))(hv:aX k t n ks false=0):EK (⟨b,l⟩,(q:Int),⟨bx,fx⟩,())=some (⟨false,(dT fx k t n ks).p.doc.flat⟩,()):=vw (ks.size+1) fun N hN=>z1w hl hg ht hx hc N q k t n ks r hs hv hN
end
def zdl{k:Int}{s:Tx}{n:Int}{ks:F}{pat:Bool}(h:nS k s n ks pat=0):aX k s n ks pat=0:=by
 unfold nS at h;cases h1:aL 100 ((ks.dep+1:Nat):Int) with
 |true=>rw[h1] at h;cases h
 |false=>
  rw[h1] at h;by_cases h2:aX k s n ks pat=0
  ·exact h2
  ·rw[eB h2] at h;exact absurd h h2
def z4t(b b2 n n2:Bool)(t:List ND)(fx:List ak)(ht:t.length<=100)(hg:GL t)(hf:gL fx):∃c,AU (⟨b,t⟩,⟨n,fx⟩,())=some (c,())/\((c≠0/\qU (⟨b2,t⟩,⟨n2,fx⟩,())=some (⟨true,[]⟩,c,()))\/(c=0/\∃k s m ks,t=(tr k s m ks).flat/\aX k s m ks false=0/\jc (⟨b2,t⟩,())=some (0,())/\iZ (⟨n2,fx⟩,())=some (0,())/\nS k s m ks false=0/\iD fx=0)):=by
 have hs:∃c,o9 (⟨b,t⟩,false,())=some (c,())/\qM (⟨b2,t⟩,false,())=some (c,())/\(c=0->∃k s m ks,t=(tr k s m ks).flat/\nS k s m ks false=0):=by
  rcases qym t with h|⟨k,s,m,ks,h⟩
  ·exact⟨60,qpa b t om false h,qlq b2 t om false h,fun e=>by cases e⟩
  ·subst h;have hl:ks.size+1<=4000:=by have:(tr k s m ks).flat.length=ks.size+1:=(tr k s m ks).len;omega
   exact⟨nS k s m ks false,qp9 b k s m ks false hl hg,qlp b2 k s m ks false hl hg,fun e=>⟨k,s,m,ks,rfl,e⟩⟩
 obtain⟨c,h1,h2,h3⟩:=hs;by_cases hc:c=0
 ·subst hc;obtain⟨k,s,m,ks,e,h⟩:=h3 rfl;have he:jc (⟨b2,t⟩,())=some (0,()):=by rw[EM,h2];rfl
  refine⟨iD fx,?_,?_⟩
  ·rw[Ux,h1,af];show aP false _ _=_;rw[aI,Zz n hf];rfl
  ·by_cases hc:iD fx=0
   ·exact .inr ⟨hc,k,s,m,ks,e,zdl h,he,by rw[Rn n2 hf,hc],h,hc⟩
   ·refine .inl ⟨hc,?_⟩;rw[Ng,he,af];show aP false _ _=_;rw[aI,Rn n2 hf,af];simp only;rw[eB hc];rfl
 ·refine⟨c,?_,.inl ⟨hc,?_⟩⟩
  ·rw[Ux,h1,af];simp only;rw[eB hc];rfl
  ·rw[Ng,EM,h2,af,af];simp only;rw[eB hc];rfl
def cS:F->Tx
 |.nil=>[]
 |.cons k t _ ks r=>(if k=41 then t else if k=42 then [32] else cS ks)++cS r
def fw:Nat->Tx->Nat
 |c,[]=>c
 |c,b::s=>fw (if b=10 then 0 else c+1) s
def z1x:∀(a:Tx) (c:Nat) (b:Tx),fw c (a++b)=fw (fw c a) b
 |[],_,_=>rfl
 |x::a,c,b=>z1x a (if x=10 then 0 else c+1) b
def za2:∀(s:Tx) (c:Nat),fw c s<=c+s.length
 |[],_=>Nat.le_refl _
 |x::s,c=>by
  have:=za2 s (if x=10 then 0 else c+1);show fw (if x=10 then 0 else c+1) s<=c+(s.length+1)
  grind
def qpl:∀(s:Tx) (c:Nat),(∀b,b∈s->b≠10)->fw c s=c+s.length
 |[],_,_=>rfl
 |x::s,c,h=>by show fw (if x=10 then 0 else c+1) s=c+(s.length+1);rw[if_neg (h x (zg ..)),qpl s (c+1) fun b hb=>h b (zh _ hb)];omega
def fR(W:Nat)(k:Int)(t:Tx)(n:Int)(kf:Bool->Nat->Nat->Tx)(z:Nat)(fl:Bool)(c i:Nat):Tx:=if k=41 then t else if k=42 then(bif fl then [32] else 10::List.replicate i 32) else if k=43 then kf fl c (i+n.toNat) else if k=44 then kf (fl||decide (c+z<=W)) c i else kf fl c i
def bF(W:Nat):F->Bool->Nat->Nat->Tx
 |.nil,_,_,_=>[]
 |.cons k t n ks r,fl,c,i=>fR W k t n (bF W ks) (cS ks).length fl c i++bF W r fl (fw c (fR W k t n (bF W ks) (cS ks).length fl c i)) i
def Rz(k:Int)(t:Tx)(n:Int)(ks:F):Prop:=(k=41/\n=0/\ks=.nil/\∀c,c∈t->32<=c/\c<=126)\/(k=42/\t=[]/\n=0/\ks=.nil)\/(k=43/\t=[]/\n=2/\ks.av=1)\/(k=44/\t=[]/\n=0/\ks.av=1)\/(k=45/\t=[]/\n=0)
def vm:F->Prop
 |.nil=>True
 |.cons k t n ks r=>Rz k t n ks/\vm ks/\vm r
def eI:F->Nat->Nat
 |.nil,_=>0
 |.cons _ t _ ks r,i=>t.length+1+i+eI ks (i+2)+eI r i
def Z6:∀(f:F) {i j:Nat},i<=j->eI f i<=eI f j
 |.nil,_,_,_=>Nat.le_refl _
 |.cons _ t _ ks r,i,j,h=>by have h1:=Z6 ks (i:=i+2) (j:=j+2) om;have h2:=Z6 r h;show t.length+1+i+eI ks (i+2)+eI r i<=t.length+1+j+eI ks (j+2)+eI r j;omega
def Vr:∀(f:F) (i:Nat),(cS f).length<=eI f i
 |.nil,_=>Nat.le_refl _
 |.cons k t n ks r,i=>by
  have h1:=Vr ks (i+2);have h2:=Vr r i;show((if k=41 then t else if k=42 then [32] else cS ks)++cS r).length<=t.length+1+i+eI ks (i+2)+eI r i
  grind
def qtj(W:Nat):∀(f:F) (fl:Bool) (c i:Nat),vm f->(bF W f fl c i).length<=eI f i
 |.nil,_,_,_,_=>Nat.le_refl _
 |.cons k t n ks r,fl,c,i,⟨hk,hc,hr⟩=>by
  have h2:=qtj W r fl (fw c (fR W k t n (bF W ks) (cS ks).length fl c i)) i hr;have h1:∀Vs j,j<=i+2->(bF W ks Vs c j).length<=eI ks (i+2):=fun Vs j hj=>Nat.le_trans (qtj W ks Vs c j hc) (Z6 ks hj);have h3:(fR W k t n (bF W ks) (cS ks).length fl c i).length<=t.length+1+i+eI ks (i+2):=by
   unfold fR;split
   ·omega
   split
   ·cases fl with
    |true=>show 1<=_;omega
    |false=>show(List.replicate i (32:Int)).length+1<=_;rw[List.length_replicate];omega
   split
   ·rename_i he hf hg;rcases hk with h|h|h|h|h
    all_goals grind
   grind
  show(fR W k t n (bF W ks) (cS ks).length fl c i++bF W r fl (fw c (fR W k t n (bF W ks) (cS ks).length fl c i)) i).length<=t.length+1+i+eI ks (i+2)+eI r i
  grind
def Vt(W:Nat):∀(f:F) (c i:Nat),bF W f true c i=cS f
 |.nil,_,_=>rfl
 |.cons k t n ks r,c,i=>by
  show fR W k t n (bF W ks) (cS ks).length true c i++bF W r true (fw c (fR W k t n (bF W ks) (cS ks).length true c i)) i=(if k=41 then t else if k=42 then [32] else cS ks)++cS r;rw[Vt W r];refine congrArg (· ++cS r) ?_;unfold fR;split
  ·rfl
  split
  ·rfl
  split
  ·exact Vt W ks c _
  split
  ·rw[Bool.true_or];exact Vt W ks c _
  ·exact Vt W ks c _
def qtk{s:Tx}(b:Bool){c m:Nat}(W:Int)(nn:Bool)(out:Tx)(hc:c+s.length<2 ^ 53)(hm:m<2 ^ 53)(ho:out.length+s.length<=2147483648):qX (s,b,(cT (c:Int),cT (m:Int)),W,⟨nn,out⟩,())=some (true,(cT ((c+s.length:Nat):Int),cT (m:Int)),W,⟨bP nn (eX s),out++s⟩,()):=by
 have h0:jL (cT (m:Int)) 0=some (cT (m:Int)):=by have:=ZL (n:=m) (m:=0) om;rw[Nat.add_zero] at this;rw[<-this];rfl
 have h1:jL (cT (c:Int)) (cT (ae s))=some (cT ((c+s.length:Nat):Int)):=ZL hc;have he:qW (b,(cT (c:Int),cT (m:Int)),W,⟨nn,out⟩,())=some (true,(cT (c:Int),cT (m:Int)),W,⟨nn,out⟩,()):=rfl;rw[ach,acg,he];simp only[af];rw[vX (by show((out.length:Nat):Int)+((s.length:Nat):Int)<=_;omega)];simp only[af];rw[h1,h0];rfl
def z1y(nn:Bool)(a b:Tx):bP (bP nn (eX a)) (eX b)=bP nn (eX (a++b)):=by cases nn<;>cases a<;>rfl
def rB:Tx->Nat
 |[]=>0
 |b::s=>(if b=10 then 1 else 0)+rB s
def za3:∀a b:Tx,rB (a++b)=rB a+rB b
 |[],b=>(zC _).symm
 |x::a,b=>by show(if x=10 then 1 else 0)+rB (a++b)=(if x=10 then 1 else 0)+rB a+rB b;rw[za3 a b,Nat.add_assoc]
def zf3:∀s:Tx,rB s<=s.length
 |[]=>Nat.le_refl _
 |x::s=>by have:=zf3 s;show(if x=10 then 1 else 0)+rB s<=s.length+1;split<;>omega
def qtl:∀s:Tx,(∀b,b∈s->b≠10)->rB s=0
 |[],_=>rfl
 |x::s,h=>by show(if x=10 then 1 else 0)+rB s=0;rw[if_neg (h x (zg ..)),qtl s fun b hb=>h b (zh _ hb)]
def Lw:F->Bool
 |.nil=>false
 |.cons k _ _ ks r=>((decide (k=41)||decide (k=42))||Lw ks)||Lw r
def F5(k:Int)(ks:F):Bool:=(decide (k=41)||decide (k=42))||Lw ks
def za4(b:Bool){c m i:Nat}(W:Int)(nn:Bool)(out:Tx)(hi:i<=1000000)(hm:m+1<2 ^ 53)(ho:out.length+(i+1)<=2147483648):sY ((i:Int),b,(cT (c:Int),cT (m:Int)),W,⟨nn,out⟩,())=some (true,(cT (i:Int),cT ((m+1:Nat):Int)),W,⟨bP nn (eX (10::List.replicate i 32)),out++10::List.replicate i 32⟩,()):=by
 have h1:jL (cT (m:Int)) 4607182418800017408=some (cT ((m+1:Nat):Int)):=by have:=ZL (n:=m) (m:=1) hm;rw[<-this];exact congrArg (jL (cT (m:Int))) dc
 have he:qW (b,(cT (c:Int),cT (m:Int)),W,⟨nn,out⟩,())=some (true,(cT (c:Int),cT (m:Int)),W,⟨nn,out⟩,()):=rfl;have hf:Ea ([32],(i:Int),())=some (List.replicate i 32,()):=by show(bif (([32]:List Int)==[32])&&(decide (0<=(i:Int))&&decide ((i:Int)<=1000000)) then some (List.replicate (i:Int).toNat (32:Int),()) else none)=_;rw[zt (show 0<=(i:Int) by omega),zt (show(i:Int)<=1000000 by omega),Int.toNat_natCast];rfl
 have hz:(0:Nat)=cT ((0:Nat):Int):=vh.symm;have hc:=qtk (s:=List.replicate i 32) true (c:=0) (m:=m+1) W (bP nn (eX ([10]:Y1))) (out++[10]) (by rw[List.length_replicate];omega) hm (by rw[zd,List.length_replicate];show out.length+1+i<=_;omega);rw[<-hz,List.length_replicate,zC] at hc;rw[acj,aci,he];simp only[af];rw[vX (by show((out.length:Nat):Int)+((1:Nat):Int)<=_;omega)];simp only[af];rw[h1];simp only[af];rw[hf];simp only[af];rw[PB,hc];simp only[af];rw[zm,z1y];rfl
def za5(b:Bool){c m z W:Nat}(o:Sl Int)(hc:c+z<2 ^ 53)(hW:W<2 ^ 53):sZ ((z:Int),b,(cT (c:Int),cT (m:Int)),(W:Int),o,())=some (decide (c+z<=W),b,(cT (c:Int),cT (m:Int)),(W:Int),o,()):=by rw[ack,ZL hc,af,zhl hc hW]
def Vu(k:Int)(t:Tx):Nat:=t.length+if k=42 then 1 else 0
def Ff(l:List ND):Nat:=(l.map fun x=>Vu x.1 x.2.1).sum
def qtm(x:ND)(l:List ND):Ff (x::l)=Vu x.1 x.2.1+Ff l:=by unfold Ff;rw[zN,List.sum_cons]
def zhp(a b:List ND):Ff (a++b)=Ff a+Ff b:=by unfold Ff;rw[zQ,List.sum_append]
def Z7:∀f:F,vm f->Ff f.flat=(cS f).length
 |.nil,_=>rfl
 |.cons k t n ks r,⟨hk,hc,hr⟩=>by
  show Ff ((k,t,n,(ks.av:Int))::(ks.flat++r.flat))=((if k=41 then t else if k=42 then [32] else cS ks)++cS r).length;rw[qtm,zhp,Z7 ks hc,Z7 r hr,zd];unfold Vu;rcases hk with ⟨h,_,e,_⟩|⟨h,e,_,e2⟩|⟨h,e,_⟩|⟨h,e,_⟩|⟨h,e,_⟩
  ·subst h;subst e;show t.length+0+(0+_)=_;rw[if_pos rfl];omega
  ·subst h;subst e;subst e2;show 0+1+(0+_)=_;rw[if_neg dc,if_pos rfl];show _=1+_;omega
  all_goals grind
def za6(nb:Bool)(L:List ND)(hL:L.length<=1000000):∀(m k z:Nat),k+m=L.length->z+Ff (L.drop k)<=1000000000000->aD ug ((z:Int),⟨nb,L⟩,ae L,(k:Int),())=some (((z+Ff (L.drop k):Nat):Int),()):=by
 intro m
 induction m with
 |zero=>intro k z hk hz;refine bZ ?_;rw[qez];simp only;rw[show ae L=((L.length:Nat):Int) from rfl,bD,if_neg om,zw om];rfl
 |succ m ih=>
  intro k z hk hz;have hf:k<L.length:=om
  have hd:=jW hf;rw[hd,qtm] at hz;have he:ae L[k].2.1=((L[k].2.1.length:Nat):Int):=rfl;have hc:Vu L[k].1 L[k].2.1=L[k].2.1.length+if L[k].1=42 then 1 else 0:=rfl
  have step:ug ((z:Int),⟨nb,L⟩,ae L,(k:Int),())=some (.inl (((z+Vu L[k].1 L[k].2.1:Nat):Int),⟨nb,L⟩,ae L,((k+1:Nat):Int),())):=by
   rw[qez];simp only;rw[show ae L=((L.length:Nat):Int) from rfl,bD,if_pos om,aU (zf hf),af,gP,he];have ha:cE .i64 (z:Int) (L[k].2.1.length:Int)=((z+L[k].2.1.length:Nat):Int):=by rw[Ch om om];omega
   have hb:cE .i64 ((z+L[k].2.1.length:Nat):Int) 1=((z+(L[k].2.1.length+1):Nat):Int):=by rw[Ch om om];omega
   by_cases h:L[k].1=42
   ·rw[if_pos h] at hc;rw[if_pos h,ha,hb,af,hc];simp only;rw[aB om]
   ·rw[if_neg h] at hc;rw[if_neg h,ha,af,hc];simp only;rw[aB om];rfl
  rw[cU step,ih (k+1) _ om om,hd,qtm];rw[Nat.add_assoc]
def za7(nb:Bool)(f:F)(hf:vm f)(hs:f.size<=1000000)(hv:(cS f).length<=1000000000000):wY (⟨nb,f.flat⟩,())=some (((cS f).length:Int),()):=by have h:=za6 nb f.flat (by rw[f.len];exact hs) f.flat.length 0 0 (zC _) (by rw[List.drop_zero,Z7 f hf];omega);rw[List.drop_zero,Z7 f hf,zC] at h;rw[acm];exact h
def iH(t:Tx)(ks:F)(i:Nat):Nat:=t.length+1+i+eI ks (i+2)
def Z8(self:nw)(b:Bool)(l:List ND)(W:Nat)(N:Nat):Prop:=∀(q:Nat) (k:Int) (t:Tx) (n:Int) (ks r:F) (i c m:Nat) (fl bd nn:Bool) (out:Tx),aJ l q (.cons k t n ks r)->Rz k t n ks->vm ks->ks.size<N->i+2*(ks.size+1)<=1000000->
 c+iH t ks i<=2 ^ 50->m+iH t ks i<=2 ^ 50->out.length+iH t ks i<=2147483648->
 self (⟨b,l⟩,(q:Int),(i:Int),fl,bd,(cT (c:Int),cT (m:Int)),(W:Int),⟨nn,out⟩,())=
  some (((q+1+ks.size:Nat):Int),bd||F5 k ks,(cT ((fw c (fR W k t n (bF W ks) (cS ks).length fl c i):Nat):Int),cT ((m+rB (fR W k t n (bF W ks) (cS ks).length fl c i):Nat):Int)),(W:Int),⟨bP nn (eX (fR W k t n (bF W ks) (cS ks).length fl c i)),out++fR W k t n (bF W ks) (cS ks).length fl c i⟩,())
def zhq(W:Nat){k:Int}{t:Tx}{n:Int}{ks:F}(hk:Rz k t n ks)(hc:vm ks)(fl:Bool)(c i:Nat):(fR W k t n (bF W ks) (cS ks).length fl c i).length<=iH t ks i:=by have:=qtj W (.cons k t n ks .nil) fl c i ⟨hk,hc,trivial⟩;have e:bF W (.cons k t n ks .nil) fl c i=fR W k t n (bF W ks) (cS ks).length fl c i++[]:=rfl;rw[e,zn] at this;exact this
section
variable {self:nw} {b:Bool} {l:List ND} {W N:Nat}
def z1z(hl:l.length<=10000)(hp:Z8 self b l W N)(q:Int)(k:Int)(t:Tx)(n c0:Int)(tot i:Nat)(fl:Bool)(hc:tot<=10000)(hf:i+2*N<=1000000):∀(g:F) (at_ j c m:Nat) (bd nn:Bool) (out:Tx),aJ l at_ g->vm g->g.size<=N->j+g.av=tot->c+eI g i<=2 ^ 50->m+eI g i<=2 ^ 50->out.length+eI g i<=2147483648->aD (BH self) ((i:Int),fl,(at_:Int),(tot:Int),(j:Int),q,k,t,n,c0,⟨b,l⟩,bd,(cT (c:Int),cT (m:Int)),(W:Int),⟨nn,out⟩,())=some (((at_+g.size:Nat):Int),q,k,t,n,c0,⟨b,l⟩,bd||Lw g,(cT ((fw c (bF W g fl c i):Nat):Int),cT ((m+rB (bF W g fl c i):Nat):Int)),(W:Int),⟨bP nn (eX (bF W g fl c i)),out++bF W g fl c i⟩,())
 |.nil,at_,j,c,m,bd,nn,out,_,_,_,hj,_,_,_=>by have hj:j+0=tot:=hj;refine bZ ?_;unfold BH;simp only;rw[bD,if_neg om];have e:out++bF W .nil fl c i=out:=zn out;have e2:(bd||Lw .nil)=bd:=Bool.or_false _;have e3:bP nn (eX (bF W .nil fl c i))=nn:=Bool.and_true _;rw[e,e2,e3];rfl
 |.cons k1 t1 n1 fY r,at_,j,c,m,bd,nn,out,hs,⟨hk,he,hr⟩,hN,hj,h1,h2,h3=>by
  have hN:fY.size+r.size+1<=N:=hN;have hj:j+(r.av+1)=tot:=hj;have h1:c+(iH t1 fY i+eI r i)<=2 ^ 50:=h1;have h2:m+(iH t1 fY i+eI r i)<=2 ^ 50:=h2;have h3:out.length+(iH t1 fY i+eI r i)<=2147483648:=h3;obtain⟨_,_,g3,_⟩:=hs.node;have hm:=zhq W hk he fl c i;have e:=hp at_ k1 t1 n1 fY r i c m fl bd nn out hs hk he om om om om om;have hg:=za2 (fR W k1 t1 n1 (bF W fY) (cS fY).length fl c i) c;have hn:=zf3 (fR W k1 t1 n1 (bF W fY) (cS fY).length fl c i);have e2:=z1z hl hp q k t n c0 tot i fl hc hf r (at_+1+fY.size) (j+1) (fw c (fR W k1 t1 n1 (bF W fY) (cS fY).length fl c i)) (m+rB (fR W k1 t1 n1 (bF W fY) (cS fY).length fl c i)) (bd||F5 k1 fY) (bP nn (eX (fR W k1 t1 n1 (bF W fY) (cS fY).length fl c i))) (out++fR W k1 t1 n1 (bF W fY) (cS fY).length fl c i) g3 hr om om om om (by rw[zd];omega);have step:BH self ((i:Int),fl,(at_:Int),(tot:Int),(j:Int),q,k,t,n,c0,⟨b,l⟩,bd,(cT (c:Int),cT (m:Int)),(W:Int),⟨nn,out⟩,())=
    some (.inl ((i:Int),fl,((at_+1+fY.size:Nat):Int),(tot:Int),((j+1:Nat):Int),q,k,t,n,c0,⟨b,l⟩,bd||F5 k1 fY,(cT ((fw c (fR W k1 t1 n1 (bF W fY) (cS fY).length fl c i):Nat):Int),cT ((m+rB (fR W k1 t1 n1 (bF W fY) (cS fY).length fl c i):Nat):Int)),(W:Int),⟨bP nn (eX (fR W k1 t1 n1 (bF W fY) (cS fY).length fl c i)),out++fR W k1 t1 n1 (bF W fY) (cS fY).length fl c i⟩,())):=by
   unfold BH;simp only;rw[bD,if_pos om,e];simp only[af];rw[aB om]
  rw[cU step,e2];have e3:bF W (.cons k1 t1 n1 fY r) fl c i=fR W k1 t1 n1 (bF W fY) (cS fY).length fl c i++bF W r fl (fw c (fR W k1 t1 n1 (bF W fY) (cS fY).length fl c i)) i:=rfl;have e4:(bd||Lw (.cons k1 t1 n1 fY r))=((bd||F5 k1 fY)||Lw r):=(Bool.or_assoc bd (F5 k1 fY) (Lw r)).symm;rw[e3,e4,z1x,za3,z1y,zm,show(F.cons k1 t1 n1 fY r).size=fY.size+r.size+1 from rfl,show at_+1+fY.size+r.size=at_+(fY.size+r.size+1) by omega,Nat.add_assoc m]
end
section
variable {self:nw} {b:Bool} {l:List ND} {W N:Nat}
def zhr(hl:l.length<=10000)(hW:W<=1000000)(hp:Z8 self b l W N)(q:Nat)(k:Int)(t:Tx)(n:Int)(ks r:F)(i c m:Nat)(fl bd nn:Bool)(out:Tx)(hs:aJ l q (.cons k t n ks r))(hk:Rz k t n ks)(hg:vm ks)(hN:ks.size<=N)(hi:i+2*(N+1)<=1000000)(h1:c+iH t ks i<=2 ^ 50)(h2:m+iH t ks i<=2 ^ 50)(h3:out.length+iH t ks i<=2147483648):ti self (⟨b,l⟩,(q:Int),(i:Int),fl,bd,(cT (c:Int),cT (m:Int)),(W:Int),⟨nn,out⟩,())=some (((q+1+ks.size:Nat):Int),bd||F5 k ks,(cT ((fw c (fR W k t n (bF W ks) (cS ks).length fl c i):Nat):Int),cT ((m+rB (fR W k t n (bF W ks) (cS ks).length fl c i):Nat):Int)),(W:Int),⟨bP nn (eX (fR W k t n (bF W ks) (cS ks).length fl c i)),out++fR W k t n (bF W ks) (cS ks).length fl c i⟩,()):=by
 obtain⟨g1,g2,g3,g4⟩:=hs.node;have ho:=ks.cu;have ht:iH t ks i=t.length+1+i+eI ks (i+2):=rfl;have hv:=Z6 ks (i:=i) (j:=i+2) om;have kids:=fun(fl:Bool) (i':Nat) (hu:i'+2*N<=1000000)=>z1z hl hp (q:Int) k t n (ks.av:Int) ks.av i' fl om hu ks (q+1) 0;have hq:cE .i64 (q:Int) 1=((q+1:Nat):Int):=aB om;rw[acn,aU g1,af];simp only;rcases hk with ⟨rfl,e0,rfl,hc⟩|⟨rfl,rfl,e0,rfl⟩|⟨rfl,rfl,rfl,e0⟩|⟨rfl,rfl,e0,e1⟩|⟨rfl,rfl,e0⟩
 ·have e:fR W 41 t n (bF W .nil) (cS .nil).length fl c i=t:=if_pos rfl;have he:fw c t=c+t.length:=qpl t c fun b hb e=>by have:=hc b hb;omega
  rw[e,he];rw[lZ 41 41,qtk bd W nn out om om om];simp only[af];have e2:=kids fl i om (c+t.length) m true (bP nn (eX t)) (out++t) g2 trivial hN (zC _) (by show _+0<=_;omega) (by show _+0<=_;omega) (by rw[zd];show _+0<=_;omega);have e2:aD (BH self) ((i:Int),fl,((q+1:Nat):Int),((0:Nat):Int),0,(q:Int),41,t,n,((0:Nat):Int),⟨b,l⟩,true,(cT ((c+t.length:Nat):Int),cT (m:Int)),(W:Int),⟨bP nn (eX t),out++t⟩,())=_:=e2;have e4:((F.nil.av:Nat):Int)=((0:Nat):Int):=rfl;simp only[cH];rw[Nh,hq,e4,e2];simp only[af];have e3:out++t++bF W .nil fl (c+t.length) i=out++t:=zn _;have e6:(bd||F5 41 .nil)=true:=Bool.or_true _;have e7:bP (bP nn (eX t)) (eX (bF W .nil fl (c+t.length) i))=bP nn (eX t):=Bool.and_true _;rw[e3,e6,e7,qtl t fun b hb e=>by have:=hc b hb;omega];rfl
 ·have e4:((F.nil.av:Nat):Int)=((0:Nat):Int):=rfl;have hw:iH [] F.nil i=0+1+i+0:=rfl;rw[bA 42 41,lZ 42 42];cases fl with
  |true=>have e:fR W 42 [] n (bF W .nil) (cS .nil).length true c i=[32]:=rfl;have he:fw c [32]=c+1:=rfl;rw[e,he,aK];have hj:=qtk (s:=[32]) bd (c:=c) (m:=m) W nn out (by show c+1<_;omega) om (by show _+1<=_;omega);rw[hj];simp only[af];have e2:=kids true i om (c+1) m true (bP nn (eX [32])) (out++[32]) g2 trivial hN (zC _) (by show _+0<=_;omega) (by show _+0<=_;omega) (by rw[zd];show _+1+0<=_;omega);have e2:aD (BH self) ((i:Int),true,((q+1:Nat):Int),((0:Nat):Int),0,(q:Int),42,[],n,((0:Nat):Int),⟨b,l⟩,true,(cT ((c+1:Nat):Int),cT (m:Int)),(W:Int),⟨bP nn (eX [32]),out++[32]⟩,())=_:=e2;simp only[cH,af];rw[Nh,hq,e4];refine Eq.trans (congrArg (fun z=>az z _) e2) ?_;simp only[af];have e3:out++[32]++bF W .nil true (c+1) i=out++[32]:=zn _;have e6:(bd||F5 42 .nil)=true:=Bool.or_true _;have e7:bP (bP nn (eX [32])) (eX (bF W .nil true (c+1) i))=bP nn (eX [32]):=Bool.and_true _;rw[e3,e6,e7];rfl
  |false=>
   have e:fR W 42 [] n (bF W .nil) (cS .nil).length false c i=10::List.replicate i 32:=rfl;have he:fw c (10::List.replicate i 32)=i:=by show fw 0 (List.replicate i 32)=i;rw[qpl _ _ (fun b hb e=>by rw[List.eq_of_mem_replicate hb] at e;cases e),List.length_replicate,zC]
   rw[e,he,aI];have hf:=za4 bd (c:=c) (m:=m) (i:=i) W nn out om om om;rw[hf];simp only[af];have e2:=kids false i om i (m+1) true (bP nn (eX (10::List.replicate i 32))) (out++10::List.replicate i 32) g2 trivial hN (zC _) (by show _+0<=_;omega) (by show _+0<=_;omega) (by rw[zd,zu,List.length_replicate];show _+0<=_;omega);have e2:aD (BH self) ((i:Int),false,((q+1:Nat):Int),((0:Nat):Int),0,(q:Int),42,[],n,((0:Nat):Int),⟨b,l⟩,true,(cT (i:Int),cT ((m+1:Nat):Int)),(W:Int),⟨bP nn (eX (10::List.replicate i 32)),out++10::List.replicate i 32⟩,())=_:=e2;simp only[cH,af];rw[Nh,hq,e4,e2];simp only[af];have e3:(out++10::List.replicate i 32)++bF W .nil false i i=out++10::List.replicate i 32:=zn _;have e6:(bd||F5 42 .nil)=true:=Bool.or_true _;have e7:bP (bP nn (eX (10::List.replicate i 32))) (eX (bF W .nil false i i))=bP nn (eX (10::List.replicate i 32)):=Bool.and_true _;have e8:rB (10::List.replicate i 32)=1:=by show 1+rB (List.replicate i 32)=1;rw[qtl _ fun b hb e=>by rw[List.eq_of_mem_replicate hb] at e;cases e]
   rw[e3,e6,e7,e8];rfl
 ·have e:fR W 43 [] 2 (bF W ks) (cS ks).length fl c i=bF W ks fl c (i+2):=rfl;rw[e];have e2:=kids fl (i+2) om c m bd nn out g2 hg hN (zC _) om om om;have e2:aD (BH self) (((i+2:Nat):Int),fl,((q+1:Nat):Int),(ks.av:Int),0,(q:Int),43,[],2,(ks.av:Int),⟨b,l⟩,bd,(cT (c:Int),cT (m:Int)),(W:Int),⟨nn,out⟩,())=_:=e2;rw[bA 43 41,bA 43 42,lZ 43 43];rw[Nh,hq,show cE .i64 (i:Int) 2=((i+2:Nat):Int) from by rw[Ch om om];omega,e2];simp only[af,cH];rfl
 ·have e:fR W 44 [] n (bF W ks) (cS ks).length fl c i=bF W ks (fl||decide (c+(cS ks).length<=W)) c i:=rfl;have hx:=Vr ks (i+2);rw[e,bA 44 41,bA 44 42,bA 44 43,lZ 44 44];have e2:=kids (fl||decide (c+(cS ks).length<=W)) i om c m bd nn out g2 hg hN (zC _) om om om;cases fl with
  |true=>have e2:aD (BH self) ((i:Int),true,((q+1:Nat):Int),(ks.av:Int),0,(q:Int),44,[],n,(ks.av:Int),⟨b,l⟩,bd,(cT (c:Int),cT (m:Int)),(W:Int),⟨nn,out⟩,())=_:=e2;rw[aK,Nh,hq,e2];simp only[af,cH,Bool.true_or];rfl
  |false=>
   rw[Bool.false_or] at e2;rw[Bool.false_or];have e2:aD (BH self) ((i:Int),decide (c+(cS ks).length<=W),((q+1:Nat):Int),(ks.av:Int),0,(q:Int),44,[],n,(ks.av:Int),⟨b,l⟩,bd,(cT (c:Int),cT (m:Int)),(W:Int),⟨nn,out⟩,())=_:=e2;have hc:cI l (q:Int) ((q+1+ks.size:Nat):Int)=some ((l.take (q+1+ks.size)).drop q):=by unfold cI;rw[if_pos om,Int.toNat_natCast,Int.toNat_natCast]
   have hd:(l.take (q+1+ks.size)).drop q=(tr 44 [] n ks).flat:=by rw[List.drop_take,show q+1+ks.size-q=(tr 44 [] n ks).size by rw[xh];omega];exact hs.first.rq
   have hm:cS (tr 44 [] n ks)=cS ks:=by show(if(44:Int)=41 then [] else if(44:Int)=42 then [32] else cS ks)++[]=_;rw[if_neg dc,if_neg dc,zn]
   have hn:=za7 b (tr 44 [] n ks) ⟨.inr (.inr (.inr (.inl ⟨rfl,rfl,e0,e1⟩))),hg,trivial⟩ (by rw[xh];omega) (by rw[hm];omega);rw[hm] at hn;rw[aI,Rl b l hl,hs.ends];simp only[af];rw[hc];simp only[af];rw[hd,hn];simp only[af];rw[za5 bd ⟨nn,out⟩ om om];simp only[af];rw[Nh,hq,e2];simp only[af,cH];rfl
 ·have e:fR W 45 [] n (bF W ks) (cS ks).length fl c i=bF W ks fl c i:=rfl;rw[e];have e2:=kids fl i om c m bd nn out g2 hg hN (zC _) om om om;have e2:aD (BH self) ((i:Int),fl,((q+1:Nat):Int),(ks.av:Int),0,(q:Int),45,[],n,(ks.av:Int),⟨b,l⟩,bd,(cT (c:Int),cT (m:Int)),(W:Int),⟨nn,out⟩,())=_:=e2;rw[bA 45 41,bA 45 42,bA 45 43,bA 45 44];simp only[cH,af];rw[Nh,hq,e2];simp only[af];rfl
def za8(hl:l.length<=10000)(hW:W<=1000000):∀N:Nat,Z8 (bc ti N) b l W N
 |0=>fun _ _ _ _ _ _ _ _ _ _ _ _ _ _ _ _ h=>absurd h (Nat.not_lt_zero _)
 |N+1=>by have ih:=za8 hl hW N;intro q k t n ks r i c m fl bd nn out hs hk hc hN hi h1 h2 h3;have he:Z8 (bc ti N) b l W ks.size:=fun q' k' t' n' bE r' i' c' m' Vs bd' nn' adB a1 a2 a3 a4=>ih q' k' t' n' bE r' i' c' m' Vs bd' nn' adB a1 a2 a3 om;exact zhr hl hW he q k t n ks r i c m fl bd nn out hs hk hc (Nat.le_refl _) hi h1 h2 h3
def zdn(hl:l.length<=10000)(hW:W<=1000000){q:Nat}{k:Int}{t:Tx}{n:Int}{ks r:F}(i c m:Nat)(fl bd nn:Bool)(out:Tx)(hs:aJ l q (.cons k t n ks r))(hk:Rz k t n ks)(hc:vm ks)(hi:i+2*(ks.size+1)<=1000000)(h1:c+iH t ks i<=2 ^ 50)(h2:m+iH t ks i<=2 ^ 50)(h3:out.length+iH t ks i<=2147483648):Ee (⟨b,l⟩,(q:Int),(i:Int),fl,bd,(cT (c:Int),cT (m:Int)),(W:Int),⟨nn,out⟩,())=some (((q+1+ks.size:Nat):Int),bd||F5 k ks,(cT ((fw c (fR W k t n (bF W ks) (cS ks).length fl c i):Nat):Int),cT ((m+rB (fR W k t n (bF W ks) (cS ks).length fl c i):Nat):Int)),(W:Int),⟨bP nn (eX (fR W k t n (bF W ks) (cS ks).length fl c i)),out++fR W k t n (bF W ks) (cS ks).length fl c i⟩,()):=by exact vw (ks.size+1) fun N hN=>za8 hl hW N q k t n ks r i c m fl bd nn out hs hk hc hN hi h1 h2 h3
end
def okX(x:ND):Prop:=(x.1=41/\x.2.2.1=0/\x.2.2.2=0/\∀c,c∈x.2.1->32<=c/\c<=126)\/(x.1=42/\x.2.1=[]/\x.2.2.1=0/\x.2.2.2=0)\/(x.1=43/\x.2.1=[]/\x.2.2.1=2/\x.2.2.2=1)\/(x.1=44/\x.2.1=[]/\x.2.2.1=0/\x.2.2.2=1)\/(x.1=45/\x.2.1=[]/\x.2.2.1=0)
def vm.ok:∀{f:F},vm f->∀x,x∈f.flat->okX x
 |.nil,_,_,h=>by cases h
 |.cons k t n ks r,⟨hk,hc,hr⟩,x,hx=>by
  have hx:x∈(k,t,n,(ks.av:Int))::(ks.flat++r.flat):=hx;rcases zk.1 hx with rfl|hx
  ·rcases hk with ⟨h,a,e,c⟩|⟨h,a,c,e⟩|⟨h,a,c,e⟩|⟨h,a,c,e⟩|⟨h,a,c⟩
   ·subst e;exact .inl ⟨h,a,rfl,c⟩
   ·subst e;exact .inr (.inl ⟨h,a,c,rfl⟩)
   ·exact .inr (.inr (.inl ⟨h,a,c,congrArg Int.ofNat e⟩))
   ·exact .inr (.inr (.inr (.inl ⟨h,a,c,congrArg Int.ofNat e⟩)))
   ·exact .inr (.inr (.inr (.inr ⟨h,a,c⟩)))
  ·exact(zH.1 hx).elim (hc.ok x) (hr.ok x)
def qz7{t:Tx}(ht:∀c,c∈t->32<=c/\c<=126)(_hl:t.length<=1000000):∀(m k:Nat),k+m=t.length->aD pR (true,t,(k:Int),())=some (-1,()):=by
 intro m
 induction m with
 |zero=>intro k hk;refine bZ ?_;rw[q7x];simp only;rw[show ae t=((t.length:Nat):Int) from rfl,bD,if_neg om]
 |succ m ih=>
  intro k hk;have he:k<t.length:=om
  have hc:=ht t[k] (List.getElem_mem he);obtain⟨h1,h2⟩:=(qyi (fun b hb=>by have:=ht b hb;omega) he).1 om;have step:pR (true,t,(k:Int),())=some (.inl (true,t,((k+1:Nat):Int),())):=by rw[q7x];simp only;have e:aL (k:Int) (ae t)=true:=zt (show(k:Int)<((t.length:Nat):Int) by omega);rw[e,aK,aK,af,aK,af,h1,h2,ab9,bD,if_neg om,af,af,show aL 126 t[k]=false from zo om];rfl
  rw[cU step];exact ih (k+1) om
def qpm{t:Tx}(ht:∀c,c∈t->32<=c/\c<=126)(hl:t.length<=1000000):sX (t,())=some (false,()):=by have h:aD pR (true,t,0,())=some (-1,()):=qz7 ht hl t.length 0 (zC _);rw[acd,acb,aca,h];rfl
def qz8{x:ND}(h:okX x)(hl:x.2.1.length<=1000000):qV (x,())=some (true,()):=by
 obtain⟨k,t,n,c⟩:=x;have hl:t.length<=1000000:=hl;rw[ace];have hc:sX ([],())=some (false,()):=qpm (fun _ h=>by cases h) dc;rcases h with ⟨h1,h2,h3,h4⟩|⟨h1,h2,h3,h4⟩|⟨h1,h2,h3,h4⟩|⟨h1,h2,h3,h4⟩|⟨h1,h2,h3⟩
 ·have h1:k=41:=h1;have h2:n=0:=h2;have h3:c=0:=h3;subst h1;subst h2;subst h3;have e:=qpm h4 hl;rw[lZ 41 41];simp only[af,cH];rw[e];rfl
 ·have h1:k=42:=h1;have h2:t=[]:=h2;have h3:n=0:=h3;have h4:c=0:=h4;subst h1;subst h2;subst h3;subst h4;rw[bA 42 41,lZ 42 42];simp only[af,cH];rw[hc];rfl
 ·have h1:k=43:=h1;have h2:t=[]:=h2;have h3:n=2:=h3;have h4:c=1:=h4;subst h1;subst h2;subst h3;subst h4;rw[bA 43 41,bA 43 42,lZ 43 43,show bJ 0 2=true from rfl,aK];simp only[af,cH];rw[hc];rfl
 ·have h1:k=44:=h1;have h2:t=[]:=h2;have h3:n=0:=h3;have h4:c=1:=h4;subst h1;subst h2;subst h3;subst h4;rw[bA 44 41,bA 44 42,bA 44 43,lZ 44 44];simp only[af,cH];rw[hc];rfl
 ·have h1:k=45:=h1;have h2:t=[]:=h2;have h3:n=0:=h3;subst h1;subst h2;subst h3;rw[bA 45 41,bA 45 42,bA 45 43,bA 45 44,lZ 45 45];simp only[af,cH];rw[hc];simp only[af];rw[GC];rfl
def qz9(b:Bool){k:Int}{t:Tx}{n:Int}{ks:F}(hr:vm (tr k t n ks))(hs:ks.size+1<=4000)(ht:TL 1000000 (tr k t n ks).flat):AE (⟨b,(tr k t n ks).flat⟩,())=some (0,()):=by
 have he:(tr k t n ks).flat.length=ks.size+1:=(tr k t n ks).len;have loop:∀(m j:Nat),j+m=(tr k t n ks).flat.length->aD uf (⟨b,(tr k t n ks).flat⟩,ae (tr k t n ks).flat,(j:Int),())=some (0,()):=by
  generalize hL:(tr k t n ks).flat=L at*
  intro m
  induction m with
  |zero=>intro j hj;refine bZ ?_;rw[qe5];simp only;rw[show ae L=((L.length:Nat):Int) from rfl,bD,if_neg om]
  |succ m ih=>
   intro j hj;have hc:j<L.length:=om
   have hm:L[j]∈L:=List.getElem_mem hc;have e:=qz8 (x:=L[j]) (hr.ok _ (by rw[hL];exact hm)) (ht _ hm);have step:uf (⟨b,L⟩,ae L,(j:Int),())=some (.inl (⟨b,L⟩,ae L,((j+1:Nat):Int),())):=by rw[qe5];simp only;rw[show ae L=((L.length:Nat):Int) from rfl,bD,if_pos om,aU (zf hc),af];have e:qV ((L[j].1,L[j].2.1,L[j].2.2.1,L[j].2.2.2),())=some (true,()):=e;rw[e,af];show aP false _ _=_;rw[aI,aB om]
   rw[cU step];exact ih (j+1) om
 rw[acf,UW b _ om,(Py _).2 ⟨k,t,n,ks,rfl⟩];have c0:aL 4000 (ae (tr k t n ks).flat)=false:=zo (by unfold ae;omega);rw[c0,aI];simp only[af];rw[show ar true=false from rfl,aI];exact loop _ 0 (zC _)
def z4u(b:Bool){k:Int}{t:Tx}{n:Int}{ks:F}(hr:vm (tr k t n ks))(hs:ks.size+1<=4000)(ht:TL 1000000 (tr k t n ks).flat)(hv:iH t ks 0<=2147483648):wZ (⟨b,(tr k t n ks).flat⟩,())=some (cS (tr k t n ks),0,()):=by have hc:=zdn (b:=b) (l:=(tr k t n ks).flat) (W:=0) (by rw[(tr k t n ks).len,xh];omega) om (q:=0) 0 0 0 true false true [] (JH k t n ks) hr.1 hr.2.1 om om om (by show 0+_<=_;omega);have e0:cT ((0:Nat):Int)=0:=vh;rw[e0] at hc;have hc:Ee (⟨b,(tr k t n ks).flat⟩,0,0,true,false,(0,0),0,⟨true,[]⟩,())=_:=hc;rw[aco,qz9 b hr hs ht,af];show aP false _ _=_;rw[aI,hc];have e:bF 0 (tr k t n ks) true 0 0=fR 0 k t n (bF 0 ks) (cS ks).length true 0 0:=zn _;rw[Vt] at e;rw[e];rfl
def pc(s:Tx):Prop:=∀c,c∈s->32<=c/\c<=126
def vn{a b:Tx}(h1:pc a)(h2:pc b):pc (a++b):=fun c hc=>(zH.1 hc).elim (h1 c) (h2 c)
def vI:pc []:=fun _ h=>by cases h
def BO{c:Int}{s:Tx}(h:32<=c/\c<=126)(hs:pc s):pc (c::s):=fun x hx=>by
 rcases zk.1 hx with rfl|hx
 ·exact h
 ·exact hs x hx
def od{s:Tx}(h:s.all (fun c=>decide (32<=c)&&decide (c<=126))=true):pc s:=fun c hc=>by grind
def zjt{s:Tx}(h:gJ s=true):pc s:=fun c hc=>by unfold gJ A9 at h;simp only[ze] at h;have:=zI (zL.1 h.1.2 c hc);unfold aR at this;simp only[zk,List.not_mem_nil,or_false] at this;omega
def zdo{c:Int}(h:j7 c=true):32<=c/\c<=126:=by
 unfold j7 pj lM E1 at h;simp only[Bool.or_eq_true,ze] at h;rcases h with (((h|h)|h)|h)|h
 ·have h1:=zI h.1;have h2:=zI h.2;omega
 ·have h1:=zI h.1;have h2:=zI h.2;omega
 ·have h1:=zI h.1;have h2:=zI h.2;omega
 ·have:=ct.1 h;omega
 ·have:=ct.1 h;omega
def qtn{p:Int->Bool}{s:Tx}(h:qe p s=true):pc s:=fun c hc=>by unfold qe at h;simp only[ze] at h;exact zdo (zL.1 h.1.1.1 c hc)
def Vv{s:Tx}(h:aW s=true):pc s:=by
 unfold aW at h;rcases Bool.or_eq_true _ _▸h with h|h
 ·exact qtn h
 ·exact zjt h
def qto{s:Tx}(h:pc s):pc (kA s):=by
 unfold kA;cases gJ s with
 |false=>exact h
 |true=>exact vn (vn (od rfl) h) (od rfl)
def qza:∀(m n:Nat),pc (iX m n)
 |0,_=>vI
 |m+1,n=>by
  unfold iX;split
  ·exact BO om vI
  ·exact vn (qza m (n / 10)) (BO om vI)
def za9:∀{s:Tx},pc s->pc (jN s)
 |[],_=>vI
 |b::l,h=>by
  have hl:pc l:=fun c hc=>h c (zh _ hc);have hb:=h b (zg ..);unfold jN;split
  ·exact BO dc hl
  ·exact BO hb (za9 hl)
def zf4(n:Int):pc (nX n):=by
 unfold nX sn;refine za9 ?_;split
 ·exact BO dc (qza _ _)
 ·exact qza _ _
def zaa{n:Int}(h:0<=n/\n<16):32<=fQ n/\fQ n<=126:=by unfold fQ;split<;>omega
def zhs{c:Int}(h:0<=c/\c<=255):pc (dU c):=by
 unfold dU;split
 ·rename_i e;exact BO dc (BO om vI)
 split
 ·exact od rfl
 split
 ·exact BO dc (BO dc (BO (zaa om) (BO (zaa om) vI)))
 ·exact BO om vI
def zdp(c:Int):(dU c).length<=4:=by
 unfold dU
 grind
def zab:∀{s:Tx},(∀b,b∈s->0<=b/\b<=255)->pc (s.flatMap dU)
 |[],_=>vI
 |b::l,h=>by rw[List.flatMap_cons];exact vn (zhs (h b (zg ..))) (zab fun c hc=>h c (zh _ hc))
def zju{s:Tx}(h:∀b,b∈s->0<=b/\b<=255):pc (Bg s):=vn (vn (od rfl) (zab h)) (od rfl)
def z20:∀s:Tx,(s.flatMap dU).length<=4*s.length
 |[]=>Nat.le_refl _
 |b::l=>by
  have:=z20 l;have:=zdp b
  grind
def zht(s:Tx):(Bg s).length<=4*s.length+2:=by
 have:=z20 s;show([34]++s.flatMap dU++[34]).length<=_
 grind
def qpo(N:Nat):∀(f:F),TL N f.flat->(yw (bH f)).length<=(N+30)*f.size
 |.nil,_=>Nat.zero_le _
 |.cons k t n ks r,h=>by
  have h:TL N ((k,t,n,(ks.av:Int))::(ks.flat++r.flat)):=h;have h1:=qpo N ks fun x hx=>h x (zh _ (List.mem_append_left _ hx));have h2:=qpo N r fun x hx=>h x (zh _ (List.mem_append_right _ hx));have h3:t.length<=N:=h _ (zg ..);have h4:=ZX k t n (bH ks);have h5:=ZW k ks.av (cm k t n (bH ks));have e:yw (bH (.cons k t n ks r))=([32]++iF k ks.av (cm k t n (bH ks)))++yw (bH r):=List.flatMap_cons;have em:(N+30)*(ks.size+r.size+1)=(N+30)*ks.size+(N+30)*r.size+(N+30):=by rw[Nat.mul_add,Nat.mul_add,Nat.mul_one]
  rw[e,zd,zd];show 1+_+_<=(N+30)*(ks.size+r.size+1);rw[em];omega
def z4v(N:Nat)(k:Int)(t:Tx)(n:Int)(ks:F)(h:TL N (tr k t n ks).flat):(cm k t n (bH ks)).length+9<=(N+30)*(ks.size+1):=by
 have h1:=qpo N ks fun x hx=>h x (by rw[FR];exact zh _ hx);have h3:t.length<=N:=h (k,t,n,(ks.av:Int)) (by rw[FR];exact zg ..);have h4:=ZX k t n (bH ks)
 grind
def Bi(S:Tx->Prop):F->Prop
 |.nil=>True
 |.cons k t n ks r=>(Rz k t n ks/\(k=41->S t))/\Bi S ks/\Bi S r
def Bi.rd{S:Tx->Prop}:∀{f:F},Bi S f->vm f
 |.nil,_=>trivial
 |.cons _ _ _ _ _,⟨⟨h,_⟩,h2,h3⟩=>⟨h,h2.rd,h3.rd⟩
def Bi.app{S:Tx->Prop}:∀{f g:F},Bi S f->Bi S g->Bi S (f.app g)
 |.nil,_,_,h=>h
 |.cons _ _ _ _ _,_,⟨h1,h2,h3⟩,h=>⟨h1,h2,h3.app h⟩
def cC(S:Tx->Prop)(d:F):Prop:=Bi S d/\d.av=1
def cC.cat{S:Tx->Prop}:∀{l:List F},(∀d,d∈l->cC S d)->Bi S (cf l)
 |[],_=>trivial
 |_::_,h=>(h _ (zg ..)).1.app (cC.cat fun x hx=>h x (zh _ hx))
def fy(S:Tx->Prop)(l:List F):Prop:=∀d,d∈l->cC S d
def fy.nil{S:Tx->Prop}:fy S []:=fun _ h=>by cases h
def fy.cons{S:Tx->Prop}{d:F}{l:List F}(h:cC S d)(hl:fy S l):fy S (d::l):=fun x hx=>by
 rcases zk.1 hx with rfl|hx
 ·exact h
 ·exact hl x hx
def fy.app{S:Tx->Prop}{a b:List F}(h:fy S a)(g:fy S b):fy S (a++b):=fun x hx=>(zH.1 hx).elim (h x) (g x)
section
variable {S:Tx→Prop}
def cC.tx{s:Tx}(h:S s)(hp:pc s):cC S (bC s):=⟨⟨⟨.inl ⟨rfl,rfl,rfl,hp⟩,fun _=>h⟩,trivial,trivial⟩,rfl⟩
def cC.ln:cC S bO:=⟨⟨⟨.inr (.inl ⟨rfl,rfl,rfl,rfl⟩),fun h=>absurd h dc⟩,trivial,trivial⟩,rfl⟩
def cC.P3{l:List F}(h:fy S l):cC S (E7 l):=⟨⟨⟨.inr (.inr (.inr (.inr ⟨rfl,rfl,rfl⟩))),fun h=>absurd h dc⟩,cC.cat h,trivial⟩,rfl⟩
def cC.some{l:List F}(h:fy S l):cC S (Bf l):=by
 match l,h with
 |[],h=>exact cC.P3 h
 |[d],h=>exact h d (zg ..)
 |_::_::_,h=>exact cC.P3 h
def cC.nest{l:List F}(h:fy S l):cC S (jX l):=⟨⟨⟨.inr (.inr (.inl ⟨rfl,rfl,rfl,(cC.some h).2⟩)),fun h=>absurd h dc⟩,(cC.some h).1,trivial⟩,rfl⟩
def cC.J4{l:List F}(h:fy S l):cC S (eW l):=⟨⟨⟨.inr (.inr (.inr (.inl ⟨rfl,rfl,rfl,(cC.some h).2⟩))),fun h=>absurd h dc⟩,(cC.some h).1,trivial⟩,rfl⟩
def cC.BP{d:F}(h:cC S d):cC S (bf d):=cC.nest (.cons cC.ln (.cons h .nil))
def cC.brk(hS:S [40]/\S [41])(b:Bool){d:F}(h:cC S d):cC S (nY b d):=by
 cases b with
 |false=>exact h
 |true=>exact cC.P3 (.cons (cC.tx hS.1 (od rfl)) (.cons h (.cons (cC.tx hS.2 (od rfl)) .nil)))
end
structure Fg (S:Tx->Prop) (l:List ND) (fx:List ak):Prop where
 small:∀s,pc s->s.length<=12->S s
 name:∀x,x∈l->pc x.2.1->∀p q:Tx,pc p->pc q->p.length<=12->q.length<=12->S (p++kA x.2.1++q)
 con:∀x,x∈l->pc x.2.1->S x.2.1
 quo:∀x,x∈l->S (Bg x.2.1)
 num:∀n,S (nX n)
 op:∀f,f∈fx->S (f.1++[32])
 pat:∀k t n ks,(∀x,x∈(tr k t n ks).flat->x∈l)->ks.size+1<=l.length->pc (cm k t n (bH ks))->S (cm k t n (bH ks)++[32,45,62])/\S ([124,32]++(cm k t n (bH ks)++[32,45,62]))
structure DcG (S:Tx->Prop) (x:Dc):Prop where
 p:cC S x.p.doc
 hd:cC S x.hd.doc
 args:fy S x.args
def DcB(S:Tx->Prop)(k:Int)(x:Dc):Prop:=DcG S x/\(k=6->cC S x.b.doc)
def Z9(S:Tx->Prop)(fx:List ak):Bool->Bool->F->Prop
 |_,_,.nil=>True
 |m,eD,.cons k t n ks r=>(((m&&eD)=false->DcB S k (dT fx k t n ks))/\((m&&eD)=true->S ((dT fx k t n ks).pt++[32,45,62])/\S ([124,32]++((dT fx k t n ks).pt++[32,45,62]))/\pc (dT fx k t n ks).pt))/\Z9 S fx m (!eD) r
def qzb:∀(f:F) {m eD:Bool},eC m true eD f=0->pc (yw (bH f))
 |.nil,_,_,_=>vI
 |.cons k t n ks r,m,eD,h=>by
  obtain⟨h1,h2⟩:=dD.1 h;rw[Bool.true_or] at h1;obtain⟨hn,hf⟩:=bX.1 h1;obtain⟨_,hp,_,_,hc,_⟩:=bT.1 hn;have mY:=qzb ks hf;have mZ:=qzb r h2;have e:yw (bH (.cons k t n ks r))=([32]++iF k ks.av (cm k t n (bH ks)))++yw (bH r):=List.flatMap_cons;rw[e];have hT:pc (cm k t n (bH ks)):=by
   unfold cm;split
   ·exact od rfl
   split
   ·rename_i he;subst he;have:aW t=true:=by
     unfold JL at hc;cases h:aW t with
     |true=>rfl
     |false=>rw[h] at hc;simp[fX,ag,ar] at hc
    exact qto (Vv this)
   split
   ·exact zf4 n
   ·rename_i hj he hk;have hg:k=24:=by
     have h1:bJ 21 k=true:=by unfold ix at hp;cases h:bJ 21 k with|true=>rfl|false=>rw[h] at hp;cases hp
     have h2:bJ k 24=true:=by unfold ix at hp;cases h:bJ k 24 with|true=>rfl|false=>rw[h,Bool.and_false] at hp;cases hp
     have h1:=zI h1;have h2:=zI h2;omega
    subst hg;have:gK t=true:=by
     unfold JL at hc;cases h:gK t with
     |true=>rfl
     |false=>rw[h] at hc;simp[fX,ag,ar] at hc
    exact vn (qtn this) mY
  refine vn (vn (od rfl) ?_) mZ;unfold iF;split
  ·exact vn (vn (od rfl) hT) (od rfl)
  ·exact hT
def zhu{k:Int}{t:Tx}{n:Int}{ks:F}(h:aX k t n ks true=0):pc (cm k t n (bH ks)):=by
 have h':eC false true false (tr k t n ks)=0:=dD.2 ⟨h,rfl⟩;have:=qzb (tr k t n ks) h';have e:yw (bH (tr k t n ks))=([32]++iF k ks.av (cm k t n (bH ks)))++[]:=List.flatMap_cons;rw[e] at this;intro c hc;refine this c (List.mem_append_left _ (List.mem_append_right _ ?_));unfold iF
 grind
section
variable {S:Tx→Prop} {l:List ND} {fx:List ak}
def Vw{k:Int}{t:Tx}(hk:k=3\/k=5\/k=7\/k=8\/k=12)(h:JL k t=true):aW t=true:=by
 unfold JL at h;cases hn:aW t with
 |true=>rfl
 |false=>rw[hn] at h;rcases hk with rfl|rfl|rfl|rfl|rfl<;>simp[fX,ag,ar] at h
def zjv{t:Tx}(h:JL 4 t=true):gK t=true:=by
 unfold JL at h;cases hn:gK t with
 |true=>rfl
 |false=>rw[hn] at h;simp[fX,ag,ar] at h
def zac(hS:Fg S l fx):∀(N:Nat) (r:F),r.size<=N->Z9 S fx true true r->fy S (nZ (dF fx r))
 |_,.nil,_,_=>fy.nil
 |_,.cons k t n ks .nil,_,_=>fy.nil
 |0,.cons k t n ks (.cons k' t' n' bE r),h,_=>by have h:ks.size+(bE.size+r.size+1)+1<=0:=h;omega
 |N+1,.cons k t n ks (.cons k' t' n' bE r),h,hs=>by have h:ks.size+(bE.size+r.size+1)+1<=N+1:=h;obtain⟨⟨_,h1⟩,⟨h2,_⟩,h3⟩:=hs;obtain⟨_,h1,hc⟩:=h1 rfl;have h2:=(h2 rfl).1.p;have ih:=zac hS N r om h3;exact fy.app (.cons cC.ln (.cons (cC.tx h1 (vn (od rfl) (vn hc (od rfl)))) (.cons (cC.BP h2) .nil))) ih
def zf5(hS:Fg S l fx)(hC:∀f,f∈fx->gJ f.1=true){k:Int}{t:Tx}{n:Int}{ks:F}(hv:aX k t n ks false=0)(hg:GL l)(hm:∀x,x∈(tr k t n ks).flat->x∈l)(hs:Z9 S fx (ag k 10) false ks):DcB S k (dT fx k t n ks):=by
 obtain⟨hn,hf⟩:=bX.1 hv;obtain⟨hD,hE,hk,_,hq,_⟩:=bT.1 hn;obtain⟨c1,c2,c3,oC,c0⟩:=Lo hk;have hx:(k,t,n,(ks.av:Int))∈l:=hm _ (by rw[FR];exact zg ..);have kw:∀s:Tx,s.length<=12->s.all (fun c=>decide (32<=c)&&decide (c<=126))=true->cC S (bC s):=fun s h1 h2=>cC.tx (hS.small s (od h2) h1) (od h2);have hu:S [40]/\S [41]:=⟨hS.small _ (od rfl) dc,hS.small _ (od rfl) dc⟩;have nm:∀p q:Tx,aW t=true->p.length<=12->q.length<=12->p.all (fun c=>decide (32<=c)&&decide (c<=126))=true->q.all (fun c=>decide (32<=c)&&decide (c<=126))=true->cC S (bC (p++kA t++q)):=fun p q h1 h2 h3 h4 h5=>cC.tx (hS.name _ hx (Vv h1) p q (od h4) (od h5) h2 h3) (vn (vn (od h4) (qto (Vv h1))) (od h5));by_cases h6:k=6
 ·subst h6;obtain⟨a,b,c,d,r,rfl,hr⟩:=iJ (ks:=ks) (n:=1) (by have:=c2 (.inl rfl);omega);obtain⟨a',b',c',d',r',rfl,ht⟩:=iJ (n:=0) hr;obtain rfl:=Bh ht;have mN:ag 6 10=false:=rfl;rw[mN] at hs;obtain⟨⟨s1,_⟩,⟨s2,_⟩,_⟩:=hs;obtain⟨s1,s1b⟩:=s1 rfl;obtain⟨s2,_⟩:=s2 rfl;have e0:cK (dF fx (.cons a b c d (.cons a' b' c' d' .nil))) 0=dT fx a b c d:=rfl;have e1:cK (dF fx (.cons a b c d (.cons a' b' c' d' .nil))) 1=dT fx a' b' c' d':=rfl;have he:cC S (eF fx 6 t n (.cons a b c d (.cons a' b' c' d' .nil)) (dF fx (.cons a b c d (.cons a' b' c' d' .nil)))):=by
   unfold eF;rw[if_neg dc,if_neg dc,if_neg dc,if_neg dc,if_neg dc,if_pos rfl,e0,e1];cases hj:rowOf fx 6 (.cons a b c d (.cons a' b' c' d' .nil)) with
   |none=>exact cC.J4 (.cons (cC.brk hu _ s1.hd) (.cons (cC.nest (s1.args.app (.cons cC.ln (.cons (cC.brk hu _ s2.p) .nil)))) .nil))
   |some f=>
    have ha:a=6:=zA fun h=>by rw[Vn fx h] at hj;cases hj
    subst ha;have hy:f∈fx:=by
     match d,hj with
     |.nil,h=>cases h
     |.cons a1 s1 c1 d1 rr,h=>
      have h:(if(6:Int)=6/\(6:Int)=6/\a1=3 then kP fx s1 else none)=some f:=h;by_cases h3:a1=3
      ·rw[if_pos ⟨rfl,rfl,h3⟩] at h;exact(Zx h).1
      grind
    exact cC.J4 (.cons (cC.brk hu _ (s1b rfl)) (.cons (cC.nest (.cons cC.ln (.cons (cC.tx (hS.op f hy) (vn (zjt (hC f hy)) (od rfl))) (.cons (cC.brk hu _ s2.p) .nil)))) .nil))
  refine⟨⟨he,?_,?_⟩,fun _=>?_⟩
  ·unfold dT xk;by_cases hl:cO fx 6 (.cons a b c d (.cons a' b' c' d' .nil))=1
   ·show cC S (if _ then _ else _:Pt).doc;rw[if_pos hl,e0];exact s1.hd
   ·show cC S (if _ then _ else _:Pt).doc;rw[if_neg hl];exact he
  ·unfold dT xk;show fy S (if _ then _ else _);by_cases hl:cO fx 6 (.cons a b c d (.cons a' b' c' d' .nil))=1
   ·rw[if_pos hl,e0,e1];exact s1.args.app (.cons cC.ln (.cons (cC.brk hu _ s2.p) .nil))
   ·rw[if_neg hl];exact fy.nil
  ·exact s2.p
 ·have hw:dT fx k t n ks=⟨vi fx k t n ks (dF fx ks),pz,vi fx k t n ks (dF fx ks),[],cm k t n (bH ks)⟩:=z1p fx t n ks _ h6;rw[hw];have he:cC S (eF fx k t n ks (dF fx ks)):=by
   by_cases ho:n5 k=true
   ·rw[ZP fx t n ks _ ho];have mN:ag k 10=false:=by rcases E9 ho with h|h|h|h|h|h<;>subst h<;>rfl
    rw[mN] at hs;have z:=vI;by_cases hA:k=5\/k=11
    ·obtain⟨a,b,c,d,rfl⟩:=ZO (c1 hA);obtain⟨⟨s1,_⟩,_⟩:=hs;have s1:=(s1 rfl).1.p;rcases hA with rfl|rfl
     ·exact cC.J4 (.cons (nm [102,117,110,32] [32,45,62] (Vw (.inr (.inl rfl)) hq) dc dc rfl rfl) (.cons (cC.BP s1) .nil))
     ·exact cC.J4 (.cons (kw Pz.ru dc rfl) (.cons (cC.BP s1) .nil))
    by_cases h9:k=9
    ·subst h9;obtain⟨a,b,c,d,r,rfl,hr⟩:=iJ (ks:=ks) (n:=2) (by have:=c3 rfl;omega);obtain⟨a',b',c',d',r',rfl,ht⟩:=iJ (n:=1) hr;obtain⟨a2,b2,pv,d2,r2,rfl,hz⟩:=iJ (n:=0) ht;obtain rfl:=Bh hz;obtain⟨⟨s1,_⟩,⟨s2,_⟩,⟨s3,_⟩,_⟩:=hs;have s1:=(s1 rfl).1.p;have s2:=(s2 rfl).1.p;have s3:=(s3 rfl).1.p;exact cC.J4 (.cons (kw Pz.ZA dc rfl) (.cons (cC.BP s1) (.cons cC.ln (.cons (kw Pz.yp dc rfl) (.cons (cC.BP s2) (.cons cC.ln (.cons (kw Pz.yq dc rfl) (.cons (cC.BP s3) .nil))))))))
    have h2:k=6\/k=7\/k=8\/k=12:=by
     rcases E9 ho with h|h|h|h|h|h
     ·exact absurd (.inl h) hA
     ·exact .inr (.inl h)
     ·exact .inr (.inr (.inl h))
     ·exact absurd h h9
     ·exact absurd (.inr h) hA
     ·exact .inr (.inr (.inr h))
    obtain⟨a,b,c,d,r,rfl,hr⟩:=iJ (ks:=ks) (n:=1) (by have:=c2 h2;omega);obtain⟨a',b',c',d',r',rfl,ht⟩:=iJ (n:=0) hr;obtain rfl:=Bh ht;obtain⟨⟨s1,_⟩,⟨s2,_⟩,_⟩:=hs;have s1:=(s1 rfl).1.p;have s2:=(s2 rfl).1.p;rcases h2 with rfl|rfl|rfl|rfl
    ·exact absurd rfl h6
    ·exact cC.J4 (.cons (nm [108,101,116,32] [32,61] (Vw (.inr (.inr (.inl rfl))) hq) dc dc rfl rfl) (.cons (cC.BP s1) (.cons cC.ln (.cons (kw [105,110] dc rfl) (.cons cC.ln (.cons s2 .nil))))))
    ·exact cC.J4 (.cons (nm [108,101,116,32,114,101,99,32] [32,61] (Vw (.inr (.inr (.inr (.inl rfl)))) hq) dc dc rfl rfl) (.cons (cC.BP s1) (.cons cC.ln (.cons (kw [105,110] dc rfl) (.cons cC.ln (.cons s2 .nil))))))
    ·exact cC.J4 (.cons (kw Pz.PF dc rfl) (.cons (cC.BP s1) (.cons cC.ln (.cons (nm [119,105,116,104,32] [32,45,62] (Vw (.inr (.inr (.inr (.inr rfl)))) hq) dc dc rfl rfl) (.cons (cC.BP s2) .nil)))))
   ·unfold eF;by_cases g1:k=1
    ·rw[if_pos g1];exact cC.tx (hS.num n) (zf4 n)
    by_cases g2:k=2
    ·rw[if_neg g1,if_pos g2];exact cC.tx (hS.quo _ hx) (zju (hg _ hx).1)
    by_cases g3:k=3
    ·rw[if_neg g1,if_neg g2,if_pos g3];have hB:=Vw (.inl g3) hq;have:=hS.name _ hx (Vv hB) [] [] vI vI dc dc;rw[zn] at this;exact cC.tx this (qto (Vv hB))
    rw[if_neg g1,if_neg g2,if_neg g3,if_neg ho];by_cases g10:k=10
    ·subst g10;rw[if_pos rfl];obtain⟨oC,HE⟩:=oC rfl;obtain⟨a,b,c,d,r,rfl,hr⟩:=iJ (ks:=ks) (n:=ks.av-1) om;have hc:(F.cons a b c d r).av=r.av+1:=rfl;obtain⟨a',b',c',d',r',rfl,ht⟩:=iJ (ks:=r) (n:=r.av-1) om;have hF:(F.cons a' b' c' d' r').av=r'.av+1:=rfl;obtain⟨a2,b2,pv,d2,r2,rfl,hz⟩:=iJ (ks:=r') (n:=r'.av-1) om;have mN:ag 10 10=true:=rfl;rw[mN] at hs;obtain⟨⟨s1,_⟩,⟨_,s2⟩,⟨s3,_⟩,s4⟩:=hs;have s1:=(s1 rfl).1.p;obtain⟨s2,_,s2p⟩:=s2 rfl;have s3:=(s3 rfl).1.p;have s5:=zac hS r2.size r2 (Nat.le_refl _) s4;exact cC.J4 (fy.app (.cons (kw Pz.dP dc rfl) (.cons (cC.BP s1) (.cons cC.ln (.cons (kw Pz.eU dc rfl) .nil)))) (fy.app (.cons (cC.nest (.cons cC.ln (.cons (cC.tx s2 (vn s2p (od rfl))) (.cons (cC.BP s3) .nil)))) .nil) (s5.app (.cons cC.ln (.cons (kw Pz.jT dc rfl) .nil)))))
    rw[if_neg g10,if_neg h6];have k4:k=4:=zjs k hD hE (by cases h:n5 k with|true=>exact absurd h ho|false=>rfl) (eB g1) (eB g2) (eB g3) (eB h6) (eB g10);subst k4;have hc:=qtn (zjv hq);exact cC.tx (hS.con _ hx hc) hc
  exact⟨⟨he,he,fy.nil⟩,fun e=>absurd e h6⟩
def rsF(hS:Fg S l fx)(hc:∀f,f∈fx->gJ f.1=true)(hg:GL l):∀(f:F) (m eD:Bool),eC m false eD f=0->(∀x,x∈f.flat->x∈l)->f.size<=l.length->Z9 S fx m eD f
 |.nil,_,_,_,_,_=>trivial
 |.cons k t n ks r,m,eD,h,hm,hz=>by
  have hz:ks.size+r.size+1<=l.length:=hz;obtain⟨h1,h2⟩:=dD.1 h;have hm:∀x,x∈(k,t,n,(ks.av:Int))::(ks.flat++r.flat)->x∈l:=hm;have he:∀x,x∈(tr k t n ks).flat->x∈l:=fun x hx=>hm x (by
   rw[FR] at hx;rcases zk.1 hx with rfl|hx
   ·exact zg ..
   ·exact zh _ (List.mem_append_left _ hx))
  refine⟨⟨fun hf=>?_,fun hj=>?_⟩,rsF hS hc hg r m (!eD) h2 (fun x hx=>hm x (zh _ (List.mem_append_right _ hx))) om⟩
  ·rw[hf,Bool.or_false] at h1;exact zf5 hS hc h1 hg he (rsF hS hc hg ks (ag k 10) false (bX.1 h1).2 (fun x hx=>hm x (zh _ (List.mem_append_left _ hx))) om)
  ·rw[hj,Bool.or_true] at h1;have hp:=zhu h1;obtain⟨a,b⟩:=hS.pat k t n ks he om hp;exact⟨a,b,hp⟩
def zf6(hS:Fg S l fx)(hc:∀f,f∈fx->gJ f.1=true)(hg:GL l){k:Int}{t:Tx}{n:Int}{ks:F}(hv:aX k t n ks false=0)(hm:∀x,x∈(tr k t n ks).flat->x∈l)(hz:ks.size+1<=l.length):cC S (dT fx k t n ks).p.doc:=(zf5 hS hc hv hg hm (rsF hS hc hg ks _ _ (bX.1 hv).2 (fun x hx=>hm x (by rw[FR];exact zh _ hx)) om)).1.p
end
def z21{M:Nat}{l:List ND}{fx:List ak}(ht:TL M l)(hf:∀f,f∈fx->f.1.length<=100)(hM:100<=M)(hl:1<=l.length):Fg (fun s=>s.length<=(M+30)*l.length+4*M) l fx where
 small:=fun s _ h=>by omega
 name:=fun x hx _ p q _ _ hp hq=>by
  have:=ht x hx;have:=Rw x.2.1
  grind
 con:=fun x hx _=>by have:=ht x hx;omega
 quo:=fun x hx=>by
  have:=ht x hx;have:=zht x.2.1
  grind
 num:=fun n=>by have:=z1s n;omega
 op:=fun f h=>by grind
 pat:=fun k t n ks hm hz _=>by
  have h:=z4v M k t n ks fun x hx=>ht x (hm x hx);have:(M+30)*(ks.size+1)<=(M+30)*l.length:=Nat.mul_le_mul_left _ hz
  grind
def z22{B:Nat}:∀(f:F) (i:Nat),Bi (fun s=>s.length<=B) f->eI f i<=f.size*(B+1+i+2*f.size)
 |.nil,_,_=>Nat.zero_le _
 |.cons k t n ks r,i,⟨⟨hk,hs⟩,h1,h2⟩=>by
  have i1:=z22 ks (i+2) h1;have i2:=z22 r i h2;have ht:t.length<=B:=by
   rcases hk with h|h|h|h|h
   all_goals grind
  have e:(F.cons k t n ks r).size=ks.size+r.size+1:=rfl;have m1:ks.size*(B+1+(i+2)+2*ks.size)<=ks.size*(B+1+i+2*(ks.size+r.size+1)):=Nat.mul_le_mul_left _ om;have m2:r.size*(B+1+i+2*r.size)<=r.size*(B+1+i+2*(ks.size+r.size+1)):=Nat.mul_le_mul_left _ om;have m3:(ks.size+r.size+1)*(B+1+i+2*(ks.size+r.size+1))=ks.size*(B+1+i+2*(ks.size+r.size+1))+r.size*(B+1+i+2*(ks.size+r.size+1))+(B+1+i+2*(ks.size+r.size+1)):=by grind
  show t.length+1+i+eI ks (i+2)+eI r i<=(F.cons k t n ks r).size*(B+1+i+2*(F.cons k t n ks r).size);rw[e,m3];omega
def qwu{fx:List ak}(h:iD fx=0):∀f,f∈fx->gQ f=true:=by
 unfold iD at h
 grind
def qrs{fx:List ak}(h:iD fx=0):∀f,f∈fx->gJ f.1=true:=fun f hf=>by
 have:=qwu h f hf;unfold gQ at this
 grind
def Bi.tl{B:Nat}:∀{f:F},Bi (fun s=>s.length<=B) f->TL B f.flat
 |.nil,_,_,h=>by cases h
 |.cons k t n ks r,⟨⟨hk,hs⟩,h1,h2⟩,x,hx=>by
  have hx:x∈(k,t,n,(ks.av:Int))::(ks.flat++r.flat):=hx;rcases zk.1 hx with rfl|hx
  ·rcases hk with h|h|h|h|h
   all_goals grind
  ·exact(zH.1 hx).elim (h1.tl x) (h2.tl x)
structure zad (d:F):Prop where
 rd:vm d
 one:d.av=1
 size:d.size<=3600
 vol:eI d 0<=800000000
 tl:TL 1000000 d.flat
def zhv{fx:List ak}{k:Int}{t:Tx}{n:Int}{ks:F}(hv:aX k t n ks false=0)(hc:iD fx=0)(hf:∀f,f∈fx->f.1.length<=100)(hg:GL (tr k t n ks).flat)(hs:ks.size+1<=600)(ht:TL 300 (tr k t n ks).flat):zad (dT fx k t n ks).p.doc:=by
 have he:(tr k t n ks).flat.length=ks.size+1:=(tr k t n ks).len;have g:=zf6 (z21 (fx:=fx) ht hf dc (by rw[he];omega)) (qrs hc) hg hv (fun x hx=>hx) (by rw[he];exact Nat.le_refl _);have hz:=qte fx hv;rw[he] at g;have hB:(300+30)*(ks.size+1)+4*300<=199200:=om
 have hv:=z22 _ 0 g.1;refine⟨g.1.rd,g.2,by omega,Nat.le_trans hv ?_,fun x hx=>?_⟩
 ·have h1:(dT fx k t n ks).p.doc.size<=3600:=om
  have h2:(300+30)*(ks.size+1)+4*300+1+0+2*(dT fx k t n ks).p.doc.size<=206401:=om
  exact Nat.le_trans (Nat.mul_le_mul h1 h2) dc
 ·have:=g.1.tl x hx;omega
def zhw{fx:List ak}{k:Int}{t:Tx}{n:Int}{ks:F}(hv:aX k t n ks false=0)(hc:iD fx=0)(hf:∀f,f∈fx->f.1.length<=100)(hg:GL (tr k t n ks).flat)(hs:ks.size+1<=60)(ht:TL 100 (tr k t n ks).flat):(cS (dT fx k t n ks).p.doc).length<=4000000:=by
 have he:(tr k t n ks).flat.length=ks.size+1:=(tr k t n ks).len;have g:=zf6 (z21 (fx:=fx) ht hf dc (by rw[he];omega)) (qrs hc) hg hv (fun x hx=>hx) (by rw[he];exact Nat.le_refl _);have hz:=qte fx hv;rw[he] at g;have hB:(100+30)*(ks.size+1)+4*100<=8200:=om
 have hv:=z22 _ 0 g.1;have h1:(dT fx k t n ks).p.doc.size<=360:=om
 have h2:(100+30)*(ks.size+1)+4*100+1+0+2*(dT fx k t n ks).p.doc.size<=8921:=om
 exact Nat.le_trans (Vr _ 0) (Nat.le_trans hv (Nat.le_trans (Nat.mul_le_mul h1 h2) dc))
section
variable {b:Bool} {l:List ND}
def zae(self:gI)(b:Bool)(l:List ND)(N:Nat):Prop:=∀(q:Nat) (k:Int) (t:Tx) (n:Int) (ks r:F),aJ l q (.cons k t n ks r)->ks.size<N->(cS (tr k t n ks)).length<=2147483648->self (⟨b,l⟩,(q:Int),())=some (cS (tr k t n ks),())
def z23(k:Int)(t:Tx)(n:Int)(ks:F):cS (tr k t n ks)=if k=41 then t else if k=42 then [32] else cS ks:=zn _
def qrt(k:Int)(t:Tx)(n:Int)(ks r:F):cS (.cons k t n ks r)=cS (tr k t n ks)++cS r:=by rw[z23];rfl
def qru{self:gI}{N:Nat}(hp:zae self b l N)(nb:Bool):∀(g:F) (q:Nat) (pre:List Int) (acc:Tx),aJ l q g->g.size<=N->pre.length+g.av<=100000->acc.length+(cS g).length<=2147483648->aD (qc self) (⟨b,l⟩,acc,⟨nb,pre++g.pos q⟩,(pre.length:Int),())=some (acc++cS g,())
 |.nil,q,pre,acc,_,_,_,_=>by refine bZ ?_;rw[qhh];simp only;have e:pre++F.nil.pos q=pre:=zn pre;have e2:acc++cS .nil=acc:=zn acc;rw[e,e2,show ae pre=((pre.length:Nat):Int) from rfl,bD,if_neg om]
 |.cons k t n ks r,q,pre,acc,hs,hN,hf,hl=>by
  have hN:ks.size+r.size+1<=N:=hN;have hf:pre.length+(r.av+1)<=100000:=hf;rw[qrt k t n ks r,zd] at hl;obtain⟨_,_,g3,_⟩:=hs.node;have e:=hp q k t n ks r hs om om;have ih:=qru hp nb r (q+1+ks.size) (pre++[(q:Int)]) (acc++cS (tr k t n ks)) g3 om (by rw[zd];show pre.length+1+_<=_;omega) (by rw[zd];omega);have hc:pre++(F.cons k t n ks r).pos q=(pre++[(q:Int)])++r.pos (q+1+ks.size):=by rw[zm];rfl
  have step:qc self (⟨b,l⟩,acc,⟨nb,pre++(F.cons k t n ks r).pos q⟩,(pre.length:Int),())=some (.inl (⟨b,l⟩,acc++cS (tr k t n ks),⟨nb,pre++(F.cons k t n ks r).pos q⟩,((pre.length+1:Nat):Int),())):=by
   rw[qhh];simp only;have he:ae (pre++(F.cons k t n ks r).pos q)=((pre.length+(r.av+1):Nat):Int):=by show(((pre++(F.cons k t n ks r).pos q).length:Nat):Int)=_;rw[zd,F.dL];rfl
   have a0:cM (pre++(F.cons k t n ks r).pos q) (pre.length:Int)=some (q:Int):=P0 pre _ _;rw[he,bD,if_pos om,a0];simp only[af];rw[e];simp only[af];rw[vX (by show((acc.length:Nat):Int)+(((cS (tr k t n ks)).length:Nat):Int)<=_;omega)];simp only[af];rw[dK,aB om]
  rw[cU step,hc];have ih:aD (qc self) (⟨b,l⟩,acc++cS (tr k t n ks),⟨nb,(pre++[(q:Int)])++r.pos (q+1+ks.size)⟩,(((pre++[(q:Int)]).length:Nat):Int),())=_:=ih;rw[show pre.length+1=(pre++[(q:Int)]).length from by rw[zd];rfl,ih,qrt k t n ks r,zm]
def qwv(hl:l.length<=10000):∀N:Nat,zae (bc A0 N) b l N
 |0=>fun _ _ _ _ _ _ _ h=>absurd h (Nat.not_lt_zero _)
 |N+1=>by
  have ih:=qwv hl N;intro q k t n ks r hs hN hv;obtain⟨g1,g2,g3,g4⟩:=hs.node;show A0 (bc A0 N) (⟨b,l⟩,(q:Int),())=_;rw[z23] at hv ⊢;rw[ado,aU g1,af];simp only;rw[gP];by_cases h1:k=41
  ·grind
  rw[if_neg h1,if_neg h1,gP];by_cases h2:k=42
  ·grind
  rw[if_neg h1,if_neg h2] at hv;rw[if_neg h2,if_neg h2,yo b l hl hs,af];simp only;have:=ks.cu;exact qru ih false ks (q+1) [] [] g2 om (by show 0+_<=_;omega) (by show 0+_<=_;omega)
def z4w(hl:l.length<=10000){q:Nat}{k:Int}{t:Tx}{n:Int}{ks r:F}(hs:aJ l q (.cons k t n ks r))(hv:(cS (tr k t n ks)).length<=2147483648):A1 (⟨b,l⟩,(q:Int),())=some (cS (tr k t n ks),()):=vw (ks.size+1) fun N hN=>qwv hl N q k t n ks r hs om hv
end
section
variable {b:Bool} {l:List ND} {W:Nat}
def z4x{k:Int}{t:Tx}{n:Int}{ks:F}(hs:ks.size+1<=4000)(hv:(cS (tr k t n ks)).length<=2147483648):A1 (⟨b,(tr k t n ks).flat⟩,0,())=some (cS (tr k t n ks),()):=by have hc:(tr k t n ks).flat.length=ks.size+1:=(tr k t n ks).len;exact z4w (b:=b) (q:=0) om (JH k t n ks) hv
def qzc(y:(Sl Y0))(i:Int)(k:Int){t:Tx}(n c:Int)(ht:pc t)(hl:t.length<=1000000):∀(m j:Nat),j+m=t.length->aD qb (y,i,(j:Int),k,t,n,c,())=some (Sum.inl (y,cE .i64 i 1,())):=by
 intro m
 induction m with
 |zero=>intro j hj;refine bZ ?_;rw[qfw];simp only;rw[show ae t=((t.length:Nat):Int) from rfl,bD,if_neg om]
 |succ m ih=>
  intro j hj;have he:j<t.length:=om
  have hc:=ht t[j] (List.getElem_mem he);have step:qb (y,i,(j:Int),k,t,n,c,())=some (.inl (y,i,((j+1:Nat):Int),k,t,n,c,())):=by rw[qfw];simp only;rw[show ae t=((t.length:Nat):Int) from rfl,bD,if_pos om,aU (zf he),af,bD,if_neg om,af,af,show aL 126 t[j]=false from zo om,aI,aB om]
  rw[cU step];exact ih (j+1) om
def qzd(nb:Bool){L:List ND}(hL:∀x,x∈L->okX x)(hT:TL 1000000 L)(hn:L.length<=100000):∀(m j:Nat),j+m=L.length->aD uR (⟨nb,L⟩,(j:Int),())=some (true,()):=by
 intro m
 induction m with
 |zero=>intro j hj;refine bZ ?_;rw[qfx];simp only;rw[show ae L=((L.length:Nat):Int) from rfl,bD,if_neg om]
 |succ m ih=>
  intro j hj;have hf:j<L.length:=om
  have hm:=List.getElem_mem hf;have hg:=hL _ hm;have he:=hT _ hm;have hk:=aU (zf hf);generalize L[j]=x at hg he hk;obtain⟨k,t,n,c⟩:=x;have he:t.length<=1000000:=he;have hc:uR (⟨nb,L⟩,(j:Int),())=some (.inl (⟨nb,L⟩,((j+1:Nat):Int),())):=by
   rw[qfx];simp only;rw[show ae L=((L.length:Nat):Int) from rfl,bD,if_pos om,hk,af];simp only;have inner:pc t->aD qb (⟨nb,L⟩,(j:Int),0,k,t,n,c,())=some (Sum.inl (⟨nb,L⟩,((j+1:Nat):Int),())):=fun hp=>by have:=qzc ⟨nb,L⟩ (j:Int) k n c hp he t.length 0 (zC _);rw[aB om] at this;exact this
   rcases hg with ⟨h1,h2,h3,h4⟩|⟨h1,h2,h3,h4⟩|⟨h1,h2,h3,h4⟩|⟨h1,h2,h3,h4⟩|⟨h1,h2,h3⟩
   ·have h1:k=41:=h1;have h2:n=0:=h2;have h3:c=0:=h3;have inner:=inner h4;subst h1;subst h2;subst h3;rw[show ag 41 41=true from rfl,show ag 41 43=false from rfl,show ag 41 44=false from rfl,show aL 41 41=false from rfl,show aL 45 41=false from rfl,show ag 0 0=true from rfl,show aL 0 0=false from rfl,show aL 40 0=false from rfl];simp only[aI,aK,af,ar,Bool.not_true,Bool.not_false];exact inner
   ·have h1:k=42:=h1;have h2:t=[]:=h2;have h3:n=0:=h3;have h4:c=0:=h4;subst h2;have inner:=inner vI;subst h1;subst h3;subst h4;rw[show ag 42 41=false from rfl,show ag 42 42=true from rfl,show ag 42 43=false from rfl,show ag 42 44=false from rfl,show aL 42 41=false from rfl,show aL 45 42=false from rfl,show ag 0 0=true from rfl,show aL 0 0=false from rfl,show aL 40 0=false from rfl,GF];simp only[aI,aK,af,ar,Bool.not_true,Bool.not_false];exact inner
   ·have h1:k=43:=h1;have h2:t=[]:=h2;have h3:n=2:=h3;have h4:c=1:=h4;subst h2;have inner:=inner vI;subst h1;subst h3;subst h4;rw[show ag 43 41=false from rfl,show ag 43 42=false from rfl,show ag 43 43=true from rfl,show aL 43 41=false from rfl,show aL 45 43=false from rfl,show ag 1 1=true from rfl,show aL 2 0=false from rfl,show aL 40 2=false from rfl,GF];simp only[aI,aK,af,ar,Bool.not_true,Bool.not_false];exact inner
   ·have h1:k=44:=h1;have h2:t=[]:=h2;have h3:n=0:=h3;have h4:c=1:=h4;subst h2;have inner:=inner vI;subst h1;subst h3;subst h4;rw[show ag 44 41=false from rfl,show ag 44 42=false from rfl,show ag 44 43=false from rfl,show ag 44 44=true from rfl,show aL 44 41=false from rfl,show aL 45 44=false from rfl,show ag 0 0=true from rfl,show ag 1 1=true from rfl,show aL 0 0=false from rfl,show aL 40 0=false from rfl,GF];simp only[aI,aK,af,ar,Bool.not_true,Bool.not_false];exact inner
   ·have h1:k=45:=h1;have h2:t=[]:=h2;have h3:n=0:=h3;subst h2;have inner:=inner vI;subst h1;subst h3;rw[show ag 45 41=false from rfl,show ag 45 42=false from rfl,show ag 45 43=false from rfl,show ag 45 44=false from rfl,show aL 45 41=false from rfl,show aL 45 45=false from rfl,show ag 0 0=true from rfl,show aL 0 0=false from rfl,show aL 40 0=false from rfl,GF];simp only[aI,aK,af,ar,Bool.not_true,Bool.not_false];exact inner
  rw[cU hc];exact ih (j+1) om
def z4y{k:Int}{t:Tx}{n:Int}{ks:F}(hr:vm (tr k t n ks))(hs:ks.size+1<=4000)(ht:TL 1000000 (tr k t n ks).flat):Je (⟨b,(tr k t n ks).flat⟩,())=some (true,()):=by have hc:(tr k t n ks).flat.length=ks.size+1:=(tr k t n ks).len;have c0:aL 4000 (ae (tr k t n ks).flat)=false:=zo (by unfold ae;omega);rw[adn,Zy b _ om,(Py _).2 ⟨k,t,n,ks,rfl⟩,c0,aI];simp only[af];rw[show ar true=false from rfl,aI];exact qzd b hr.ok ht om _ 0 (zC _)
end
def z24{d:F}(h:d.av=1):∃k t n ks,d=tr k t n ks:=by
 match d,h with
 |.nil,h=>cases h
 |.cons k t n ks r,h=>have h:r.av+1=1:=h;exact⟨k,t,n,ks,by rw[U2 (f:=r) om]⟩
section
variable {fx:List ak} {k:Int} {t:Tx} {n:Int} {ks:F}
def zhx(b nb:Bool)(hv:aX k t n ks false=0)(hc:iD fx=0)(hf:gL fx)(hj:∀f,f∈fx->f.1.length<=100)(hg:GL (tr k t n ks).flat)(hs:ks.size+1<=600)(ht:TL 300 (tr k t n ks).flat)(he:jc (⟨b,(tr k t n ks).flat⟩,())=some (0,())):qU (⟨b,(tr k t n ks).flat⟩,⟨nb,fx⟩,())=some (⟨false,(dT fx k t n ks).p.doc.flat⟩,0,()):=by have hk:(tr k t n ks).flat.length=ks.size+1:=(tr k t n ks).len;have hd:=z9x (b:=b) (bx:=nb) (fx:=fx) (q:=0) om hg (fun x hx=>by have:=ht x hx;omega) hf.2.2 (fun f h=>by have:=hj f h;omega) (JH k t n ks) hv;have hd:D1 (0,⟨b,(tr k t n ks).flat⟩,⟨nb,fx⟩,())=_:=hd;rw[Ng,he,af];show aP false _ _=_;rw[aI,Rn nb hf,hc,af];show aP false _ _=_;rw[aI,hd];simp only[af]
def zaf(b nb:Bool)(hc:qU (⟨b,(tr k t n ks).flat⟩,⟨nb,fx⟩,())=some (⟨false,(dT fx k t n ks).p.doc.flat⟩,0,()))(he:zad (dT fx k t n ks).p.doc):o7 (⟨b,(tr k t n ks).flat⟩,⟨nb,fx⟩,())=some (cS (dT fx k t n ks).p.doc,0,()):=by rw[Ur,hc,af];show aP false _ _=_;rw[aI];obtain⟨h1,h2,h3,h4,h5⟩:=he;obtain⟨k',t',n',bE,e⟩:=z24 h2;rw[e] at h1 h3 h4 h5 ⊢;have hv:iH t' bE 0+0<=800000000:=h4;rw[z4u false h1 (by rw[xh] at h3;omega) h5 om];rfl
def z4z(b nb:Bool)(hr:AU (⟨b,(tr k t n ks).flat⟩,⟨nb,fx⟩,())=some (0,()))(hd:EK (⟨b,(tr k t n ks).flat⟩,0,⟨nb,fx⟩,())=some (⟨false,(dT fx k t n ks).p.doc.flat⟩,()))(hc:zad (dT fx k t n ks).p.doc):tB (⟨b,(tr k t n ks).flat⟩,⟨nb,fx⟩,0,())=some (cS (dT fx k t n ks).p.doc,0,()):=by obtain⟨h1,h2,h3,h4,h5⟩:=hc;obtain⟨k',t',n',bE,e⟩:=z24 h2;rw[Uy,hr,af];show aP false _ _=_;rw[aI,hd,af];simp only;rw[e] at h1 h3 h4 h5 ⊢;have hv:iH t' bE 0+0<=800000000:=h4;have he:=Vr (tr k' t' n' bE) 0;rw[z4y h1 (by rw[xh] at h3;omega) h5,af];show aP false _ _=_;rw[aI,gP,if_pos (by rfl),z4x (by rw[xh] at h3;omega) om];rfl
def zag(b b2 n n2:Bool)(t:List ND)(fx:List ak)(ht:t.length<=60)(hT:TL 100 t)(hg:GL t)(hf:gL fx)(hj:∀f,f∈fx->f.1.length<=100):∃s c,o7 (⟨b2,t⟩,⟨n2,fx⟩,())=some (s,c,())/\tB (⟨b,t⟩,⟨n,fx⟩,0,())=some (s,c,())/\s.length<=4000000:=by
 obtain⟨c,e1,e2⟩:=z4t b b2 n n2 t fx om hg hf;rcases e2 with ⟨hc,e2⟩|⟨hc,k,s,m,ks,e,hv,e3,e4,ho,hk⟩
 ·refine⟨[],c,?_,?_,Nat.zero_le _⟩
  ·rw[Ur,e2,af];simp only;rw[eB hc];rfl
  ·rw[Uy,e1,af];simp only;rw[eB hc];rfl
 ·subst hc;subst e;have hn:(tr k s m ks).flat.length=ks.size+1:=(tr k s m ks).len;have he:=zhv hv hk hj hg om fun x hx=>by have:=hT x hx;omega
  have hl:=zhx b2 n2 hv hk hf hj hg om (fun x hx=>by have:=hT x hx;omega) e3;have hm:=za1 (b:=b) (bx:=n) (fx:=fx) (q:=0) om hg (fun x hx=>by have:=hT x hx;omega) (by have:=hf.2.2;omega) (fun f h=>by have:=hj f h;omega) (JH k s m ks) hv;have hm:EK (⟨b,(tr k s m ks).flat⟩,0,⟨n,fx⟩,())=_:=hm;exact⟨_,0,zaf b2 n2 hl he,z4z b n e1 hm he,zhw hv hk hj hg om hT⟩
end
def qi9{a b:ak}(h:fT a b=true):fT b a=false:=by
 cases h2:fT b a with
 |false=>rfl
 |true=>have:=KK _ _ _ h h2;rw[Q8] at this;cases this
def qww(a b c:ak)(h1:fT a b=false)(h2:fT b c=false):fT a c=false:=by
 cases h:fT a c with
 |false=>rfl
 |true=>
  exfalso;have h3:fT c a=false:=qi9 h;unfold fT at h1 h2 h h3;have h4:strLt b.1 a.1=false\/strLt b.1 a.1=true:=by cases strLt b.1 a.1<;>simp
  rcases h4 with h4|h4
  ·rw[KL _ _ h1 h4] at h;rw[h2] at h;cases h
  ·have:=KK _ _ _ h4 h;rw[h2] at this;cases this
def P4(l:List ak):Prop:=l.Pairwise fun a b=>fT a b=true
def qhp:∀(l m:List ak),P4 l->P4 m->(∀x,x∈l↔x∈m)->l=m
 |[],[],_,_,_=>rfl
 |[],y::m,_,_,h=>by have:=(h y).2 (zg ..);cases this
 |x::l,[],_,_,h=>by have:=(h x).1 (zg ..);cases this
 |x::l,y::m,h1,h2,h=>by
  obtain⟨a1,a2⟩:=List.pairwise_cons.1 h1;obtain⟨b1,b2⟩:=List.pairwise_cons.1 h2;have e:x=y:=by
   have hx:=(h x).1 (zg ..);have hy:=(h y).2 (zg ..);rcases zk.1 hx with hx|hx
   ·exact hx
   ·rcases zk.1 hy with hy|hy
    ·exact hy.symm
    ·have c1:=b1 x hx;have c2:=a1 y hy;rw[qi9 c1] at c2;cases c2
  subst e;congr 1;refine qhp l m a2 b2 fun z=>⟨fun hz=>?_,fun hz=>?_⟩
  ·rcases zk.1 ((h z).1 (zh _ hz)) with e|e
   ·have h3:=a1 z hz;unfold fT at h3;rw[e,Q8] at h3;cases h3
   ·exact e
  ·rcases zk.1 ((h z).2 (zh _ hz)) with e|e
   ·have h3:=b1 z hz;unfold fT at h3;rw[e,Q8] at h3;cases h3
   ·exact e
def qwx{l:List ak}(hp:l.Pairwise fun x y=>x.1≠y.1):P4 (F0 l):=by
 have h1:(F0 l).Pairwise fun x y=>x.1≠y.1:=((List.mergeSort_perm l _).pairwise_iff (fun h=>Ne.symm h)).2 hp;have h2:(F0 l).Pairwise fun a b=>(!fT b a)=true:=by
  refine List.pairwise_mergeSort (le:=fun a b=>!fT b a) (fun a b c h1 h2=>?_) (fun a b=>?_) l
  ·have h1:fT b a=false:=by simpa using h1
   have h2:fT c b=false:=by simpa using h2
   simp only[qww c b a h2 h1];rfl
  ·cases h:fT b a with
   |false=>rfl
   |true=>simp only[qi9 h];rfl
 refine(h1.and h2).imp ?_;rintro a b ⟨g1,g2⟩;have g2:fT b a=false:=by simpa using g2
 cases h:fT a b with
 |true=>rfl
 |false=>exact absurd (KL _ _ h g2) g1
def fZ(c:ak):List ak->List ak
 |[]=>[c]
 |y::r=>if fT y c=true then y::fZ c r else c::y::r
def qnb(c:ak):∀(o:List ak) (x:ak),x∈fZ c o↔x=c\/x∈o
 |[],x=>by simp[fZ]
 |y::r,x=>by
  unfold fZ;by_cases h:fT y c=true
  ·rw[if_pos h,zk,qnb c r x,zk];constructor
   ·rintro(h|h|h)
    ·exact .inr (.inl h)
    ·exact .inl h
    ·exact .inr (.inr h)
   ·rintro(h|h|h)
    ·exact .inr (.inl h)
    ·exact .inl h
    ·exact .inr (.inr h)
  ·rw[if_neg h,zk]
def z25(c:ak):∀o:List ak,(fZ c o).length=o.length+1
 |[]=>rfl
 |y::r=>by
  unfold fZ;by_cases h:fT y c=true
  ·rw[if_pos h,zu,z25 c r,zu]
  ·rw[if_neg h,zu]
def qpp(c:ak):∀o:List ak,(∀x,x∈o->x.1≠c.1)->P4 o->P4 (fZ c o)
 |[],_,_=>List.pairwise_singleton ..
 |y::r,hc,hs=>by
  obtain⟨h1,h2⟩:=List.pairwise_cons.1 hs;unfold fZ;by_cases h:fT y c=true
  ·rw[if_pos h];refine List.pairwise_cons.2 ⟨fun z hz=>?_,qpp c r (fun x hx=>hc x (zh _ hx)) h2⟩;rcases(qnb c r z).1 hz with rfl|hz
   ·exact h
   ·exact h1 z hz
  ·rw[if_neg h];have he:fT c y=true:=by
    cases hl:fT c y with
    |true=>rfl
    |false=>
     have h':fT y c=false:=by simpa using h
     exact absurd (KL _ _ h' hl) (hc y (zg ..))
   refine List.pairwise_cons.2 ⟨fun z hz=>?_,hs⟩;rcases zk.1 hz with rfl|hz
   ·exact he
   ·exact KK _ _ _ he (h1 z hz)
def qwy(A O:Sl ak)(i k:Nat)(c:ak)(hi:A.l[i]?=some c)(hO:O.l.length<=1000000)(hf:i<=1000000)(hk:k<=O.l.length):∃n,uL ((i:Int),(k:Int),A,O,())=match O.l[k]? with
   |some y=>if fT y c=true then some (.inl ((i:Int),((k+1:Nat):Int),A,O,())) else some (.inr (.inl (((i+1:Nat):Int),A,⟨n,O.l.take k++[c]++O.l.drop k⟩,())))
   |none=>some (.inr (.inl (((i+1:Nat):Int),A,⟨n,O.l.take k++[c]++O.l.drop k⟩,()))):=by
 have hc:i<A.l.length:=by
  rcases Nat.lt_or_ge i A.l.length with h|h
  ·exact h
  ·rw[zZ h] at hi;cases hi
 have oi:cD A.l (i:Int)=some i:=vc hc;have ni:nth A.l i=some c:=hi;have c1:df (ae O.l) (k:Int)=some k:=by unfold df ae;rw[if_pos om];simp
 have d1:cj O.l (k:Int)=O.l.drop k:=by unfold cj;simp
 have f1:∀a b:List ak,a.length<=2000000->b.length<=2000000->fit (bS (ae a) (ae b))=some ():=fun a b ha hb=>vX (by unfold bS ae;omega);have t1:(aH O.l k).length<=1000000:=by unfold aH;rw[zP];omega
 have t2:(app ([]:List ak) (aH O.l k)).length<=1000000:=t1;have t3:∀x:ak,(app (app ([]:List ak) (aH O.l k)) [x]).length<=1000001:=fun x=>by show(aH O.l k++[x]).length<=_;rw[zd];simp;omega
 have t4:(cj O.l (k:Int)).length<=1000000:=by rw[d1,zT];omega
 have aok:cE .i64 (k:Int) 1=((k+1:Nat):Int):=aB om;have aoi:cE .i64 (i:Int) 1=((i+1:Nat):Int):=aB om;cases hy:O.l[k]? with
 |some y=>
  have he:k<O.l.length:=by
   rcases Nat.lt_or_ge k O.l.length with h|h
   ·exact h
   ·rw[zZ h] at hy;cases hy
  have ok:cD O.l (k:Int)=some k:=vc he;have ny:nth O.l k=some y:=hy;have Vh:aL (k:Int) (ae O.l)=true:=zt (by unfold ae;omega);refine⟨false,?_⟩;rw[qjz];simp only;rw[Vh,aK,ok,af,ny,af,oi,af,ni,af];have hq:strLt y.1 c.1=fT y c:=rfl;rw[hq];cases hl:fT y c with
  |true=>rw[aok];rfl
  |false=>
   simp only[aI,af,c1,f1 _ _ (by show 0<=_;omega:([]:List ak).length<=2000000) (Nat.le_trans t1 om),
    f1 _ [c] (Nat.le_trans t2 om) (by simp),f1 _ _ (Nat.le_trans (t3 c) om) (Nat.le_trans t4 om),Bool.false_eq_true,if_false,ni,aoi]
   simp only[app,aH,d1,List.nil_append];rfl
 |none=>
  have hg:O.l.length<=k:=List.getElem?_eq_none_iff.1 hy;have Vh:aL (k:Int) (ae O.l)=false:=zo (by unfold ae;omega);refine⟨false,?_⟩;rw[qjz];simp only;rw[Vh];simp only[aI,af,c1,f1 _ _ (by show 0<=_;omega:([]:List ak).length<=2000000) (Nat.le_trans t1 om),
    f1 _ [c] (Nat.le_trans t2 om) (by simp),f1 _ _ (Nat.le_trans (t3 c) om) (Nat.le_trans t4 om),ni,oi,aoi]
  simp only[app,aH,d1,List.nil_append];rfl
def z50(A O:Sl ak)(i:Nat)(c:ak)(hi:A.l[i]?=some c)(hO:O.l.length<=1000000)(he:i<=1000000):∀(m k:Nat),k+m=O.l.length->∃n,aD uL ((i:Int),(k:Int),A,O,())=some (.inl (((i+1:Nat):Int),A,⟨n,O.l.take k++fZ c (O.l.drop k)⟩,())):=by
 intro m
 induction m with
 |zero=>intro k hk;obtain⟨n,hs⟩:=qwy A O i k c hi hO he om;rw[zZ om] at hs;refine⟨n,bZ ?_⟩;rw[hs,zw om,zn];rfl
 |succ m ih=>
  intro k hk;have hc:k<O.l.length:=om
  obtain⟨n,hs⟩:=qwy A O i k c hi hO he om;rw[zf hc] at hs;simp only at hs;rw[jW hc] at hs ⊢;unfold fZ;by_cases h:fT O.l[k] c=true
  ·rw[if_pos h] at hs ⊢;obtain⟨n',hn⟩:=ih (k+1) om;refine⟨n',?_⟩;rw[cU hs,hn,List.take_add_one,zf hc,Option.toList_some,zm,List.singleton_append]
  ·rw[if_neg h] at hs ⊢;refine⟨n,bZ ?_⟩;rw[hs,zm,List.singleton_append]
def z51(A:Sl ak)(hA:A.l.length<=1000):∀(m i:Nat) (O:Sl ak),i+m=A.l.length->O.l.length=i->∃n,aD nN ((i:Int),A,O,())=some (.inr (⟨n,(A.l.drop i).foldl (fun o c=>fZ c o) O.l⟩,0,())):=by
 intro m
 induction m with
 |zero=>intro i O hk hO;refine⟨O.nil,bZ ?_⟩;rw[qk0];simp only;rw[bD,if_neg (by show ¬(i:Int)<(A.l.length:Int);omega),zw om];rfl
 |succ m ih=>
  intro i O hk hO;have hc:i<A.l.length:=om
  obtain⟨n,hn⟩:=z50 A O i A.l[i] (zf hc) om om O.l.length 0 om;rw[List.take_zero,List.nil_append,List.drop_zero] at hn;have step:nN ((i:Int),A,O,())=some (.inl (((i+1:Nat):Int),A,⟨n,fZ A.l[i] O.l⟩,())):=by rw[qk0];simp only;rw[bD,if_pos (by show(i:Int)<(A.l.length:Int);omega)];exact hn
  obtain⟨n',he⟩:=ih (i+1) ⟨n,fZ A.l[i] O.l⟩ om (by show(fZ A.l[i] O.l).length=_;rw[z25,hO]);refine⟨n',?_⟩;rw[cU step,he,jW hc,List.foldl_cons]
def qwz:∀(l o:List ak) (x:ak),x∈l.foldl (fun o c=>fZ c o) o↔x∈l\/x∈o
 |[],o,x=>by simp
 |c::l,o,x=>by
  rw[List.foldl_cons,qwz l (fZ c o) x,qnb,zk];constructor
  ·rintro(h|h|h)
   ·exact .inl (.inr h)
   ·exact .inl (.inl h)
   ·exact .inr h
  ·rintro((h|h)|h)
   ·exact .inr (.inl h)
   ·exact .inl h
   ·exact .inr (.inr h)
def qmm:∀(l o:List ak),l.Pairwise (fun x y=>x.1≠y.1)->(∀x,x∈l->∀y,y∈o->y.1≠x.1)->P4 o->P4 (l.foldl (fun o c=>fZ c o) o)
 |[],o,_,_,h=>h
 |c::l,o,hp,hc,h=>by
  obtain⟨p1,p2⟩:=List.pairwise_cons.1 hp;rw[List.foldl_cons];refine qmm l (fZ c o) p2 (fun x hx y hy=>?_) (qpp c o (hc c (zg ..)) h);rcases(qnb c o y).1 hy with rfl|hy
  ·exact p1 x hx
  ·exact hc x (zh _ hx) y hy
def z52(n:Bool)(l:List ak)(f:ak)(hl:l.length<=400):∀(m k:Nat) (b:Bool) (acc:List ak),k+m=l.length->acc.length<=k+1->∃q,aD nO (⟨n,l⟩,(k:Int),f.1,f.2.1,f.2.2,⟨b,acc⟩,())=some (if 400<(acc++cL (l.drop k) f.1).length then(⟨true,[]⟩,40,()) else(⟨q,(acc++cL (l.drop k) f.1).foldl (fun o c=>fZ c o) []⟩,0,())):=by
 intro m
 induction m with
 |zero=>
  intro k b acc hk ha;have e:cL (l.drop k) f.1=[]:=by rw[zw om];rfl
  rw[e,zn];obtain⟨q,hq⟩:=z51 ⟨b,acc⟩ (by show acc.length<=1000;omega) acc.length 0 ⟨false,[]⟩ (by show 0+acc.length=acc.length;omega) rfl;rw[List.drop_zero] at hq;refine⟨q,?_⟩;have step:nO (⟨n,l⟩,(k:Int),f.1,f.2.1,f.2.2,⟨b,acc⟩,())=aP (aL 400 (ae acc)) (some (.inr (⟨true,[]⟩,40,()))) (aD nN (0,⟨b,acc⟩,⟨false,[]⟩,())):=by rw[qk1];simp only;rw[bD,if_neg (by show ¬(k:Int)<(l.length:Int);omega)]
  have hq:aD nN (0,⟨b,acc⟩,⟨false,[]⟩,())=_:=hq;rw[hq,bD] at step;by_cases h4:400<acc.length
  ·rw[if_pos (by unfold ae;omega)] at step;rw[if_pos h4];exact bZ step
  ·rw[if_neg (by unfold ae;omega)] at step;rw[if_neg h4];exact bZ step
 |succ m ih=>
  intro k b acc hk ha;have hc:k<l.length:=om
  have hx:=zf hc;have e:cL (l.drop k) f.1=(if bM l[k].1 f.1=true then [] else [l[k]])++cL (l.drop (k+1)) f.1:=by rw[jW hc];unfold cL;rw[List.filter_cons];cases bM l[k].1 f.1<;>rfl
  have step:nO (⟨n,l⟩,(k:Int),f.1,f.2.1,f.2.2,⟨b,acc⟩,())=if bM l[k].1 f.1=true then some (.inl (⟨n,l⟩,((k+1:Nat):Int),f.1,f.2.1,f.2.2,⟨b,acc⟩,())) else some (.inl (⟨n,l⟩,((k+1:Nat):Int),f.1,f.2.1,f.2.2,⟨bP b false,acc++[l[k]]⟩,())):=by
   rw[qk1];simp only;rw[bD,if_pos (by show(k:Int)<(l.length:Int);omega),aU hx,af];cases bM l[k].1 f.1 with
   |true=>rw[if_pos rfl];show az (aP (ar true) _ _) _=_;simp only[ar,Bool.not_true,aI,af];rw[aB om]
   |false=>rw[if_neg dc];show az (aP (ar false) _ _) _=_;simp only[ar,Bool.not_false,aK,af];rw[vX (by unfold bS ae;simp only[List.length_singleton];omega),af,af,aB om];rfl
  rw[e];cases he:bM l[k].1 f.1 with
  |true=>rw[he,if_pos rfl] at step;obtain⟨q,h1⟩:=ih (k+1) b acc om om;exact⟨q,by rw[cU step,h1,if_pos rfl,List.nil_append]⟩
  |false=>rw[he,if_neg dc] at step;obtain⟨q,h1⟩:=ih (k+1) (bP b false) (acc++[l[k]]) om (by rw[zd,List.length_singleton];omega);refine⟨q,?_⟩;have e2:(if false=true then([]:List ak) else [l[k]])=[l[k]]:=if_neg dc;rw[cU step,h1,e2,zm]
def zah(n:Bool){l:List ak}(h:gL l)(f:ak)(_hf:gF f)(hl:f.1.length<=1000000):∃q,AS (⟨n,l⟩,f,())=some (⟨q,(fV l f).1⟩,(fV l f).2,()):=by
 have e:AS (⟨n,l⟩,f,())=_:=ac1 ⟨n,l⟩ f.1 f.2.1 f.2.2;rw[e,Zz n h,af];unfold fV;by_cases hc:iD l=0
 ·have e0:ar (ag (iD l) 0)=false:=by rw[hc];rfl
  simp only[e0,aI];rw[if_neg (by simpa using hc)];obtain⟨k1,k2,k3⟩:=qt3 hc;have hr:qY ((f.1,f.2.1,f.2.2),())=some (gQ f,()):=qpb f hl;have dl:=qt5 l f.1;rw[hr,af];cases hf:gQ f with
  |false=>rw[if_pos (.inl rfl)];exact⟨true,rfl⟩
  |true=>
   simp only[ar,Bool.not_true,aI];obtain⟨q,h1⟩:=z52 n l f k1 l.length 0 false [f] om (by simp);rw[List.drop_zero] at h1;have h1:aD nO (⟨n,l⟩,0,f.1,f.2.1,f.2.2,⟨false,[(f.1,f.2.1,f.2.2)]⟩,())=_:=h1;rw[h1];have he:([f]++cL l f.1).length=(cL l f.1).length+1:=by rw[zd,List.length_singleton,Nat.add_comm]
   rw[he];by_cases h4:(cL l f.1).length=400
   ·rw[if_pos om,if_pos (.inr h4)];exact⟨true,rfl⟩
   ·rw[if_neg om,if_neg (by rintro(h|h);cases h;exact h4 h)];refine⟨q,?_⟩;have np:=z1b (ve.1 k3) f;have np2:([f]++cL l f.1).Pairwise fun x y=>x.1≠y.1:=by have:=(List.perm_append_comm (l₁:=cL l f.1) (l₂:=[f]));exact(this.pairwise_iff (fun h=>Ne.symm h)).1 np
    have:([f]++cL l f.1).foldl (fun o c=>fZ c o) []=F0 (cL l f.1++[f]):=by refine qhp _ _ (qmm _ _ np2 (fun x _ y hy=>by cases hy) List.Pairwise.nil) (qwx np) fun x=>?_;rw[qwz,qpe];simp only[zH,List.not_mem_nil,or_false];exact Or.comm
    rw[this]
 ·have e0:ar (ag (iD l) 0)=true:=by rw[eB hc];rfl
  simp only[e0,aK];rw[if_pos hc];exact⟨true,rfl⟩
def bI{α:Type}{a b:Tx}(h:a.length+b.length<=2147483648)(f:Unit->Option α):az (fit (bS (ae a) (ae b))) f=f ():=by rw[vX (by show((a.length:Nat):Int)+((b.length:Nat):Int)<=_;omega)];rfl
def Bj(b:Bool)(s:Tx):Tx:=bif b then [40]++s++[41] else s
def z26(b:Bool)(s:Tx):(Bj b s).length<=s.length+2:=by
 cases b
 ·exact Nat.le_add_right _ _
 ·show([40]++s++[41]).length<=_
  grind
def P5(i e:Bool)(a b:Tx):Tx:=Bj (i||e) (a++[32,45,62,32]++b)
def J5(i:Bool)(c:Nat)(s a:Tx):Tx:=Bj (i&&decide (0<c)) (s++a)
def kT(k:Int)(s:Tx)(n:Int)(c:Nat)(a b d:Tx)(i e:Bool):Tx:=if k=31 then [97+n] else if s=[45,62] then P5 i e a b else J5 i c s d
def eL:F->Nat->Tx
 |.nil,_=>[]
 |.cons k s n ks r,m=>
  match m with
  |0=>[32]++kT k s n ks.av (eL ks 2) (eL ks 4) (eL ks 0) true false++eL r 0
  |1=>kT k s n ks.av (eL ks 2) (eL ks 4) (eL ks 0) true false
  |2=>kT k s n ks.av (eL ks 2) (eL ks 4) (eL ks 0) false true
  |3=>kT k s n ks.av (eL ks 2) (eL ks 4) (eL ks 0) false false
  |_=>eL r 3
def jF(k:Int)(s:Tx)(n:Int)(ks:F)(i e:Bool):Tx:=kT k s n ks.av (eL ks 2) (eL ks 4) (eL ks 0) i e
def z27{k:Int}{s:Tx}{n:Int}{c:Nat}{a b d:Tx}{i e:Bool}{B z:Nat}(hs:s.length<=B)(ha:a.length+b.length<=z)(hd:d.length<=z):(kT k s n c a b d i e).length<=z+(B+6):=by
 unfold kT;split
 ·show 1<=_;omega
 split
 ·have:=z26 (i||e) (a++[32,45,62,32]++b);rw[zd,zd] at this;have h4:([32,45,62,32]:Tx).length=4:=rfl;unfold P5;omega
 ·have:=z26 (i&&decide (0<c)) (s++d);rw[zd] at this;unfold J5;omega
def qtp{B:Nat}:∀f:F,TL B f.flat->(eL f 0).length<=(B+7)*f.size/\(eL f 1).length<=(B+7)*f.size/\(eL f 2).length+(eL f 4).length<=(B+7)*f.size/\(eL f 3).length<=(B+7)*f.size
 |.nil,_=>⟨Nat.zero_le _,Nat.zero_le _,Nat.zero_le _,Nat.zero_le _⟩
 |.cons k s n ks r,h=>by
  have hs:s.length<=B:=h (k,s,n,(ks.av:Int)) (zg);have hk:TL B ks.flat:=fun x hx=>h x (zh _ (zH.2 (.inl hx)));have hr:TL B r.flat:=fun x hx=>h x (zh _ (zH.2 (.inr hx)));obtain⟨a0,_,a2,_⟩:=qtp ks hk;obtain⟨b0,_,b2,b3⟩:=qtp r hr;have hz:(B+7)*(F.cons k s n ks r).size=(B+7)*ks.size+(B+7)*r.size+(B+7):=by
   show(B+7)*(ks.size+r.size+1)=_
   grind
  rw[hz];have q1:∀i e,(kT k s n ks.av (eL ks 2) (eL ks 4) (eL ks 0) i e).length<=(B+7)*ks.size+(B+6):=fun i e=>z27 hs a2 a0;have t1:=q1 true false;have t2:=q1 false true;have t3:=q1 false false;refine⟨?_,?_,?_,?_⟩
  ·show([32]++kT k s n ks.av (eL ks 2) (eL ks 4) (eL ks 0) true false++eL r 0).length<=_
   grind
  ·show(kT k s n ks.av (eL ks 2) (eL ks 4) (eL ks 0) true false).length<=_;omega
  ·show(kT k s n ks.av (eL ks 2) (eL ks 4) (eL ks 0) false true).length+(eL r 3).length<=_;omega
  ·show(kT k s n ks.av (eL ks 2) (eL ks 4) (eL ks 0) false false).length<=_;omega
def zai{B:Nat}{k:Int}{s:Tx}{n:Int}{ks:F}(i e:Bool)(h:TL B (tr k s n ks).flat):(jF k s n ks i e).length<=(B+7)*(ks.size+1):=by have hs:s.length<=B:=h (k,s,n,(ks.av:Int)) (zg);have hk:TL B ks.flat:=fun x hx=>h x (zh _ (zH.2 (.inl hx)));obtain⟨a0,_,a2,_⟩:=qtp ks hk;have:(jF k s n ks i e).length<=(B+7)*ks.size+(B+6):=z27 hs a2 a0;rw[Nat.mul_add];omega
def OkT(x:ND):Prop:=(x.1=31->0<=x.2.2.1/\x.2.2.1<8)/\(x.1≠31->x.2.1=[45,62]->x.2.2.2=2)
def zf7{n:Int}(h:0<=n/\n<8):dV .u8 (cE .i64 97 n)=97+n:=by rw[Ch om om,XM];omega
def zaj{n:Int}(h:0<=n/\n<8):q9 (n,())=some ([97+n],()):=by
 rw[ac2,Ch om om];have:n=0\/n=1\/n=2\/n=3\/n=4\/n=5\/n=6\/n=7:=om
 rcases this with rfl|rfl|rfl|rfl|rfl|rfl|rfl|rfl<;>rfl
def zak(s:Tx)(b:Bool)(h:s.length<=2000000000):tv (s,b,())=some (Bj b s,()):=by
 rw[ac3];cases b with
 |false=>rfl
 |true=>rw[aK,bI (by show 1+s.length<=_;omega),bI (by rw[dK,zd];show 1+s.length+1<=_;omega)];rfl
def zdq{ks:F}(h:ks.av=2):∃k s n a k' s' n' b,ks=.cons k s n a (.cons k' s' n' b .nil):=by
 match ks,h with
 |.nil,h=>cases h
 |.cons k s n a .nil,h=>cases h
 |.cons k s n a (.cons k' s' n' b r),h=>have h:r.av+1+1=2:=h;exact⟨k,s,n,a,k',s',n',b,by rw[U2 (f:=r) om]⟩
section
variable {b:Bool} {l:List ND}
def Vx(self:oS)(b:Bool)(l:List ND)(N:Nat):Prop:=∀(q:Nat) (k:Int) (s:Tx) (n:Int) (ks r:F) (i e:Bool),aJ l q (.cons k s n ks r)->ks.size<N->self (⟨b,l⟩,(q:Int),i,e,())=some (jF k s n ks i e,())
def J6(l:List ND):Prop:=(∀x,x∈l->OkT x)/\TL 1000 l/\l.length<=1000
def Vy{q:Nat}{k:Int}{s:Tx}{n:Int}{ks r:F}(hs:aJ l q (.cons k s n ks r)):q+(ks.size+r.size+1)<=l.length:=by obtain⟨g1,_⟩:=hs.node;omega
def z28(hl:J6 l){q:Nat}{g:F}(hs:aJ l q g)(hq:q<=l.length):(eL g 0).length<=1007000/\(eL g 2).length+(eL g 4).length<=1007000:=by have h:=hs.le hq;obtain⟨a,_,c,_⟩:=qtp g (hs.tl hl.2.1);have h2:(1000+7)*g.size<=1007*1000:=Nat.mul_le_mul (Nat.le_refl _) (by have:=hl.2.2;omega);omega
def RA(hl:J6 l){q:Nat}{k:Int}{s:Tx}{n:Int}{ks r:F}(hs:aJ l q (.cons k s n ks r))(i e:Bool):(jF k s n ks i e).length<=1007000:=by have h1:=hs.first;have h2:=zai (B:=1000) i e (h1.tl hl.2.1);have h3:=Vy hs;have h4:(1000+7)*(ks.size+1)<=1007*1000:=Nat.mul_le_mul (Nat.le_refl _) (by have:=hl.2.2;omega);omega
def qx0(hl:J6 l){self:oS}{N:Nat}(hp:Vx self b l N)(nb i:Bool):∀(g:F) (q:Nat) (pre:List Int) (acc:Tx),aJ l q g->q<=l.length->g.size<=N->pre.length+g.av<=100000->acc.length+(eL g 0).length<=2000000000->aD (tY self) (⟨b,l⟩,i,⟨nb,pre++g.pos q⟩,acc,⟨nb,pre++g.pos q⟩,((pre.length+g.av:Nat):Int),(pre.length:Int),())=some (Bj (i&&decide (0<pre.length+g.av)) (acc++eL g 0),())
 |.nil,q,pre,acc,_,_,_,hf,he=>by
  refine bZ ?_;rw[qe3];simp only;have e:pre++F.nil.pos q=pre:=zn pre;have e2:acc++eL .nil 0=acc:=zn acc;have he:acc.length+0<=2000000000:=he;have e3:pre.length+F.nil.av=pre.length:=rfl;rw[e,e2,e3,bD,if_neg om];have e4:aL 0 (ae pre)=decide (0<pre.length):=decide_eq_decide.2 (by show(0:Int)<((pre.length:Nat):Int)↔_;omega);rw[e4];cases i with
  |false=>rfl
  |true=>
   rw[aK,af,Bool.true_and];cases decide (0<pre.length) with
   |false=>rfl
   |true=>rw[aK,bI (by show 1+acc.length<=_;omega),bI (by rw[dK,zd];show 1+acc.length+1<=_;omega)];rfl
 |.cons k s n ks r,q,pre,acc,hs,hq,hN,hf,he=>by
  have hN:ks.size+r.size+1<=N:=hN;have hf:pre.length+(r.av+1)<=100000:=hf;have hg:eL (.cons k s n ks r) 0=[32]++jF k s n ks true false++eL r 0:=rfl;have hb:=RA hl hs true false;rw[hg] at he ⊢;rw[zd,zd] at he;have he:acc.length+(1+(jF k s n ks true false).length+(eL r 0).length)<=2000000000:=he;obtain⟨_,_,g3,_⟩:=hs.node;have h3:=Vy hs;have e:=hp q k s n ks r true false hs om;have ih:=qx0 hl hp nb i r (q+1+ks.size) (pre++[(q:Int)]) (acc++([32]++jF k s n ks true false)) g3 om om (by rw[zd];show pre.length+1+_<=_;omega) (by rw[zd,zd];show _+(1+_)+_<=_;omega);have hj:pre++(F.cons k s n ks r).pos q=(pre++[(q:Int)])++r.pos (q+1+ks.size):=by rw[zm];rfl
  have hc:(pre++[(q:Int)]).length=pre.length+1:=by rw[zd];rfl
  have hk:pre.length+(F.cons k s n ks r).av=(pre++[(q:Int)]).length+r.av:=by rw[hc];show pre.length+(r.av+1)=_;omega
  have step:tY self (⟨b,l⟩,i,⟨nb,pre++(F.cons k s n ks r).pos q⟩,acc,⟨nb,pre++(F.cons k s n ks r).pos q⟩,((pre.length+(F.cons k s n ks r).av:Nat):Int),(pre.length:Int),())=some (.inl (⟨b,l⟩,i,⟨nb,pre++(F.cons k s n ks r).pos q⟩,acc++([32]++jF k s n ks true false),⟨nb,pre++(F.cons k s n ks r).pos q⟩,((pre.length+(F.cons k s n ks r).av:Nat):Int),((pre.length+1:Nat):Int),())):=by rw[qe3];simp only;have a0:cM (pre++(F.cons k s n ks r).pos q) (pre.length:Int)=some (q:Int):=P0 pre _ _;rw[bD,if_pos (by rw[hk,hc];omega),a0];simp only[af];rw[e];simp only[af];rw[bI (by show 1+_<=_;omega),bI (by rw[dK,zd];show _+(1+_)<=_;omega),dK,dK,aB om]
  rw[cU step,hj,hk]
  grind
def oa(a:Int)(r:List Int):cM (a::r) 0=some a:=rfl
def my(a c:Int)(r:List Int):cM (a::c::r) 1=some c:=rfl
def z29{q:Nat}{ks:F}(hs:aJ l q ks)(hc:ks.av=2):∃(k:Int) (s:Tx) (n:Int) (a:F) (k':Int) (s':Tx) (n':Int) (c r:F) (q':Nat),ks.pos q=[(q:Int),(q':Int)]/\aJ l q (.cons k s n a r)/\aJ l q' (.cons k' s' n' c .nil)/\a.size<ks.size/\c.size<ks.size/\eL ks 2=jF k s n a false true/\eL ks 4=jF k' s' n' c false false:=by
 obtain⟨k,s,n,a,k',s',n',c,rfl⟩:=zdq hc;obtain⟨_,_,g3,_⟩:=hs.node;refine⟨k,s,n,a,k',s',n',c,_,q+1+a.size,rfl,hs,g3,?_,?_,rfl,rfl⟩
 ·show a.size<a.size+(c.size+0+1)+1;omega
 ·show c.size<a.size+(c.size+0+1)+1;omega
def z2a(hl:J6 l):∀N:Nat,Vx (bc wQ N) b l N
 |0=>fun _ _ _ _ _ _ _ _ _ h=>absurd h (Nat.not_lt_zero _)
 |N+1=>by
  have ih:=z2a hl N;intro q k s n ks r i e hs hN;obtain⟨g1,g2,g3,g4⟩:=hs.node;obtain⟨o1,o2⟩:=hl.1 _ (zv g1);have h3:=Vy hs;show wQ (bc wQ N) (⟨b,l⟩,(q:Int),i,e,())=_;rw[abO,aU g1,af];simp only;rw[gP];unfold jF kT;by_cases h1:k=31
  ·rw[if_pos h1,if_pos h1,zf7 (o1 h1)]
  rw[if_neg h1,if_neg h1];obtain⟨nb,e1⟩:=PE b l (by have:=hl.2.2;omega) hs;rw[e1,af];simp only;rw[GB];by_cases h2:s=[45,62]
  ·rw[if_pos h2,if_pos h2];have hc:ks.av=2:=by have h:(ks.av:Int)=2:=o2 h1 h2;omega
   obtain⟨ka,sa,na,a,kc,sc,nc,c,r',q',p1,p2,p3,p4,p5,p6,p7⟩:=z29 g2 hc;rw[p1,p6,p7,oa,af,ih _ _ _ _ _ _ false true p2 om,af];have z1:=RA hl p2 false true;have z2:=RA hl p3 false false;simp only;rw[bI (by show _+4<=_;omega),my,af,ih _ _ _ _ _ _ false false p3 om,af];simp only;have z3:(jF ka sa na a false true++[32,45,62,32]).length=(jF ka sa na a false true).length+4:=by rw[zd];rfl
   rw[dK,bI (by rw[z3];omega),dK];have z4:(jF ka sa na a false true++[32,45,62,32]++jF kc sc nc c false false).length=(jF ka sa na a false true).length+4+(jF kc sc nc c false false).length:=by rw[zd,z3]
   have z5:aP i (some true) (some e)=some (i||e):=by cases i<;>rfl
   rw[z5,af];unfold P5;cases i||e with
   |false=>rfl
   |true=>rw[aK,bI (by rw[z4];show 1+_<=_;omega),bI (by rw[dK,zd,z4];show 1+_+1<=_;omega)];rfl
  ·rw[if_neg h2,if_neg h2];have he:s.length<=1000:=hl.2.1 _ (zv g1);have hb:=(z28 hl g2 om).1;have:=ks.cu;have hL:=hl.2.2;have h:=qx0 hl ih nb i ks (q+1) [] s g2 om om (by show 0+_<=_;omega) om;have e3:ae (ks.pos (q+1))=((([]:List Int).length+ks.av:Nat):Int):=by
    show(((ks.pos (q+1)).length:Nat):Int)=_;rw[F.dL]
    grind
   rw[e3];refine Eq.trans h ?_;unfold J5
   simp_all
def zal(hl:J6 l){q:Nat}{k:Int}{s:Tx}{n:Int}{ks r:F}(hs:aJ l q (.cons k s n ks r))(i e:Bool):sV (⟨b,l⟩,(q:Int),i,e,())=some (jF k s n ks i e,()):=vw (ks.size+1) fun N hN=>z2a hl N q k s n ks r i e hs om
def wI(w:Nat):Bool:=w==0
def wE(w:Nat):Bool:=w==1
def zjw(self:qF)(b:Bool)(l:List ND)(N:Nat):Prop:=∀(q:Nat) (k:Int) (s:Tx) (n:Int) (ks r:F) (w:Nat),aJ l q (.cons k s n ks r)->ks.size<N->w<3->self (⟨b,l⟩,(q:Int),(w:Int),())=some (jF k s n ks (wI w) (wE w),())
def qx1(hl:J6 l){self:qF}{N:Nat}(hp:zjw self b l N)(nb:Bool){w:Nat}(hw:w<3):∀(g:F) (q:Nat) (pre:List Int) (acc:Tx),aJ l q g->q<=l.length->g.size<=N->pre.length+g.av<=100000->acc.length+(eL g 0).length<=2000000000->aD (uM self) (⟨b,l⟩,(w:Int),⟨nb,pre++g.pos q⟩,acc,(pre.length:Int),())=some (Bj (wI w&&decide (0<pre.length+g.av)) (acc++eL g 0),())
 |.nil,q,pre,acc,_,_,_,hj,he=>by
  refine bZ ?_;rw[qhd];simp only;have e:pre++F.nil.pos q=pre:=zn pre;have e2:acc++eL .nil 0=acc:=zn acc;have he:acc.length+0<=2000000000:=he;have e3:pre.length+F.nil.av=pre.length:=rfl;rw[e,e2,e3,show ae pre=((pre.length:Nat):Int) from rfl,bD,if_neg om];have e4:aL 0 ((pre.length:Nat):Int)=decide (0<pre.length):=decide_eq_decide.2 (by show(0:Int)<((pre.length:Nat):Int)↔_;omega);have e5:aP (ag (w:Int) 0) (some (decide (0<pre.length))) (some false)=some (wI w&&decide (0<pre.length)):=by
   match w,hw with
   |0,_=>rfl
   |1,_=>rfl
   |2,_=>rfl
  rw[e4,e5,af,zak _ _ om];rfl
 |.cons k s n ks r,q,pre,acc,hs,hq,hN,hj,he=>by
  have hN:ks.size+r.size+1<=N:=hN;have hj:pre.length+(r.av+1)<=100000:=hj;have hg:eL (.cons k s n ks r) 0=[32]++jF k s n ks true false++eL r 0:=rfl;have hb:=RA hl hs true false;rw[hg] at he ⊢;rw[zd,zd] at he;have he:acc.length+(1+(jF k s n ks true false).length+(eL r 0).length)<=2000000000:=he;obtain⟨_,_,g3,_⟩:=hs.node;have h3:=Vy hs;have e:self (⟨b,l⟩,(q:Int),0,())=some (jF k s n ks true false,()):=hp q k s n ks r 0 hs om om;have ih:=qx1 hl hp nb hw r (q+1+ks.size) (pre++[(q:Int)]) (acc++([32]++jF k s n ks true false)) g3 om om (by rw[zd];show pre.length+1+_<=_;omega) (by rw[zd,zd];show _+(1+_)+_<=_;omega);have hk:pre++(F.cons k s n ks r).pos q=(pre++[(q:Int)])++r.pos (q+1+ks.size):=by rw[zm];rfl
  have hc:(pre++[(q:Int)]).length=pre.length+1:=by rw[zd];rfl
  have hm:pre.length+(F.cons k s n ks r).av=(pre++[(q:Int)]).length+r.av:=by rw[hc];show pre.length+(r.av+1)=_;omega
  have step:uM self (⟨b,l⟩,(w:Int),⟨nb,pre++(F.cons k s n ks r).pos q⟩,acc,(pre.length:Int),())=some (.inl (⟨b,l⟩,(w:Int),⟨nb,pre++(F.cons k s n ks r).pos q⟩,acc++([32]++jF k s n ks true false),((pre.length+1:Nat):Int),())):=by
   rw[qhd];simp only;have hf:ae (pre++(F.cons k s n ks r).pos q)=((pre.length+(r.av+1):Nat):Int):=by show(((pre++(F.cons k s n ks r).pos q).length:Nat):Int)=_;rw[zd,F.dL];rfl
   have a0:cM (pre++(F.cons k s n ks r).pos q) (pre.length:Int)=some (q:Int):=P0 pre _ _;rw[hf,bD,if_pos om,a0];simp only[af];rw[e];simp only[af];rw[bI (by show 1+_<=_;omega),bI (by rw[dK,zd];show _+(1+_)<=_;omega),dK,dK,aB om]
  rw[cU step,hk,hm]
  grind
def z2b(hl:J6 l):∀N:Nat,zjw (bc tA N) b l N
 |0=>fun _ _ _ _ _ _ _ _ h=>absurd h (Nat.not_lt_zero _)
 |N+1=>by
  have ih:=z2b hl N;intro q k s n ks r w hs hN hw;obtain⟨g1,g2,g3,g4⟩:=hs.node;obtain⟨o1,o2⟩:=hl.1 _ (zv g1);have h3:=Vy hs;show tA (bc tA N) (⟨b,l⟩,(q:Int),(w:Int),())=_;rw[ac4,aU g1,af];simp only;rw[gP];unfold jF kT;by_cases h1:k=31
  ·rw[if_pos h1,if_pos h1,zaj (o1 h1)];rfl
  rw[if_neg h1,if_neg h1,yo b l (by have:=hl.2.2;omega) hs,af];simp only;rw[GB];by_cases h2:s=[45,62]
  ·rw[if_pos h2,if_pos h2];have hc:ks.av=2:=by have h:(ks.av:Int)=2:=o2 h1 h2;omega
   obtain⟨ka,sa,na,a,kc,sc,nc,c,r',q',p1,p2,p3,p4,p5,p6,p7⟩:=z29 g2 hc;have i1:bc tA N (⟨b,l⟩,((q+1:Nat):Int),1,())=some (jF ka sa na a false true,()):=ih _ _ _ _ _ _ 1 p2 om om;have i2:bc tA N (⟨b,l⟩,(q':Int),2,())=some (jF kc sc nc c false false,()):=ih _ _ _ _ _ _ 2 p3 om om;rw[p1,p6,p7,oa,af,i1,af];have z1:=RA hl p2 false true;have z2:=RA hl p3 false false;simp only;rw[bI (by show _+4<=_;omega),my,af,i2,af];simp only;have z3:(jF ka sa na a false true++[32,45,62,32]).length=(jF ka sa na a false true).length+4:=by rw[zd];rfl
   rw[dK,bI (by rw[z3];omega),dK];have z4:(jF ka sa na a false true++[32,45,62,32]++jF kc sc nc c false false).length=(jF ka sa na a false true).length+4+(jF kc sc nc c false false).length:=by rw[zd,z3]
   have z5:aL (w:Int) 2=(wI w||wE w):=by
    match w,hw with
    |0,_=>rfl
    |1,_=>rfl
    |2,_=>rfl
   rw[z5,zak _ _ om];rfl
  ·rw[if_neg h2,if_neg h2];have he:s.length<=1000:=hl.2.1 _ (zv g1);have hb:=(z28 hl g2 om).1;have:=ks.cu;have hL:=hl.2.2;have h:=qx1 hl ih false hw ks (q+1) [] s g2 om om (by show 0+_<=_;omega) om;refine Eq.trans h ?_;unfold J5
   simp_all
def zam(hl:J6 l){q:Nat}{k:Int}{s:Tx}{n:Int}{ks r:F}(hs:aJ l q (.cons k s n ks r)){w:Nat}(hw:w<3):AT (⟨b,l⟩,(q:Int),(w:Int),())=some (jF k s n ks (wI w) (wE w),()):=vw (ks.size+1) fun N hN=>z2b hl N q k s n ks r w hs om hw
def zjx{p:Int}(hp:p<=8)(h:vE p l=true)(ht:TL 1000 l)(hl:l.length<=1000):∃k s n ks,l=(tr k s n ks).flat/\J6 l:=by
 unfold vE JU at h;simp only[ze,zL,Bool.not_eq_true',List.any_eq_false] at h;obtain⟨⟨h1,h2,h3⟩,h4⟩:=h;obtain⟨k,s,n,ks,rfl⟩:=(Py l).1 h2;refine⟨k,s,n,ks,rfl,fun x hx=>?_,ht,hl⟩;have a:=h3 x hx;have c:=h4 x hx;unfold lN at a;refine⟨fun e=>?_,fun e e2=>?_⟩
 ·rw[show ag x.1 31=true from zt e] at a c;simp only[cond_true,ze] at a c;obtain⟨_,_,a,_⟩:=a;have a:0<=x.2.2.1:=zI a;have c:¬p<=x.2.2.1:=fun h=>c ⟨trivial,zt h⟩;omega
 ·rw[eB e] at a;simp only[cond_false,ze] at a;obtain⟨_,_,a⟩:=a;rw[eE.2 e2] at a;exact zI a
end
def zdr{l:List ND}{p:Int}(hp:p<=8)(h:vE p l=true)(h2:TL 60 l)(hl:l.length<=60):∃s,(∀b,sV (⟨b,l⟩,0,true,false,())=some (s,()))/\(∀b,AT (⟨b,l⟩,0,0,())=some (s,()))/\s.length<=67*l.length:=by obtain⟨k,s,n,ks,rfl,hc⟩:=zjx hp h (fun x hx=>Nat.le_trans (h2 x hx) dc) om;have hz:(tr k s n ks).flat.length=ks.size+1:=(tr k s n ks).len;refine⟨jF k s n ks true false,fun b=>zal (b:=b) hc (JH k s n ks) true false,fun b=>zam (b:=b) hc (JH k s n ks) (w:=0) om,?_⟩;rw[hz];exact zai true false h2
noncomputable def Fh(l:List ND):Tx:=match sV (⟨true,l⟩,0,true,false,()) with
 |some x=>x.1
 |none=>[]
structure J7 (p:Int) (t:SN):Prop where
 ok:vE p t.l=true
 tl:TL 60 t.l
 len:t.l.length<=60
def qze{p:Int}(hp:p<=8){t:SN}(h:J7 p t):sV (t,0,true,false,())=some (Fh t.l,())/\AT (t,0,0,())=some (Fh t.l,())/\(Fh t.l).length<=4020:=by
 obtain⟨b,l⟩:=t;have h2:l.length<=60:=h.len;obtain⟨s,e1,e2,e3⟩:=zdr hp h.ok h.tl h2;have e:Fh l=s:=by unfold Fh;rw[e1]
 grind
noncomputable def BQ(l:List SN):Tx:=l.flatMap fun t=>[32]++Fh t.l
def z2c{p:Int}(hp:p<=8):∀l:List SN,(∀t,t∈l->J7 p t)->(BQ l).length<=l.length*4021
 |[],_=>Nat.zero_le _
 |t::r,h=>by
  have ih:=z2c hp r fun x hx=>h x (zh _ hx);have a:=(qze hp (h t (zg ..))).2.2;show(([32]++Fh t.l)++BQ r).length<=(r.length+1)*4021
  grind
def z53{p:Int}(hp:p<=8)(A:Sl SN)(hA:∀t,t∈A.l->J7 p t)(hL:A.l.length<=1000)(C:Sl CT)(n i:Int):∀(m k:Nat) (s:Tx),k+m=A.l.length->s.length+m*4021<=2000000000->aD tZ (s,C,n,i,A,ae A.l,(k:Int),())=some (.inl (s++BQ (A.l.drop k),C,n,cE .i64 i 1,())):=by
 intro m
 induction m with
 |zero=>intro k s hk hs;refine bZ ?_;rw[zw om];rw[qa9];simp only;rw[show ae A.l=((A.l.length:Nat):Int) from rfl,bD,if_neg om,show BQ []=[] from rfl,zn]
 |succ m ih=>
  intro k s hk hs;have hc:k<A.l.length:=om
  have hx:=zf hc;obtain⟨a1,a2,a3⟩:=qze hp (hA _ (List.getElem_mem hc));have step:tZ (s,C,n,i,A,ae A.l,(k:Int),())=some (.inl (s++([32]++Fh A.l[k].l),C,n,i,A,ae A.l,((k+1:Nat):Int),())):=by rw[qa9];simp only;rw[dM hx,aK,aU hx,af,a1,af];simp only;rw[bI (by show 1+_<=_;omega),bI (by rw[dK,zd];show _+(1+_)<=_;omega),dK,dK,aB om]
  rw[cU step,ih (k+1) _ om (by rw[zd,zd];show _+(1+_)+_<=_;omega),jW hc];show _=some (Sum.inl (s++(([32]++Fh A.l[k].l)++BQ (A.l.drop (k+1))),_));rw[zm]
def rR(k:Nat):Tx:=if k=0 then [32,61,32] else [32,124,32]
def vJ(c:CT):Tx:=bif decide (0<c.2.l.length) then [32,111,102] else []
noncomputable def Fi(k:Nat)(c:CT):Tx:=rR k++c.1++vJ c++BQ c.2.l
noncomputable def yA:Nat->List CT->Tx
 |_,[]=>[]
 |k,c::r=>Fi k c++yA (k+1) r
structure Bk (p:Int) (c:CT):Prop where
 nm:c.1.length<=60
 len:c.2.l.length<=8
 args:∀t,t∈c.2.l->J7 p t
def qtr(k:Nat):(rR k).length=3:=by unfold rR;split<;>rfl
def qzf(c:CT):(vJ c).length<=3:=by unfold vJ;cases decide (0<c.2.l.length)<;>decide
def qts{p:Int}(hp:p<=8)(k:Nat){c:CT}(h:Bk p c):(Fi k c).length<=32240:=by unfold Fi;rw[zd,zd,zd,qtr];have:=qzf c;have:=z2c hp c.2.l h.args;have:=h.nm;have:=h.len;omega
def z2d{p:Int}(hp:p<=8):∀(l:List CT) (k:Nat),(∀c,c∈l->Bk p c)->(yA k l).length<=l.length*32240
 |[],_,_=>Nat.zero_le _
 |c::r,k,h=>by
  have ih:=z2d hp r (k+1) fun x hx=>h x (zh _ hx);have a:=qts hp k (h c (zg ..));show(Fi k c++yA (k+1) r).length<=(r.length+1)*32240
  grind
def z54{p:Int}(hp:p<=8)(C:Sl CT)(hC:∀c,c∈C.l->Bk p c)(hL:C.l.length<=1000):∀(m k:Nat) (s:Tx),k+m=C.l.length->s.length+m*32240<=2000000000->aD ua (s,C,ae C.l,(k:Int),())=some (.inr (s++yA k (C.l.drop k),())):=by
 intro m
 induction m with
 |zero=>intro k s hk hs;refine bZ ?_;rw[zw om];rw[qaa];simp only;rw[show ae C.l=((C.l.length:Nat):Int) from rfl,bD,if_neg om,show yA k []=[] from rfl,zn]
 |succ m ih=>
  intro k s hk hs;have he:k<C.l.length:=om
  have hx:=zf he;have hc:=hC _ (List.getElem_mem he);generalize C.l[k]=c at hx hc;have n1:=hc.nm;have n2:=hc.len;have e0:(rR k++c.1).length=3+c.1.length:=by rw[zd,qtr]
  have e1:(aP (ag (k:Int) 0) (az (fit (bS (ae ([32,61,32]:Y1)) (ae c.1))) (fun _=>az (fit (bS (ae s) (ae (cw ([32,61,32]:Y1) c.1)))) (fun _=>some (cw s (cw ([32,61,32]:Y1) c.1),C,ae C.l,(k:Int),c.1,c.2,())))) (az (fit (bS (ae ([32,124,32]:Y1)) (ae c.1))) (fun _=>az (fit (bS (ae s) (ae (cw ([32,124,32]:Y1) c.1)))) (fun _=>some (cw s (cw ([32,124,32]:Y1) c.1),C,ae C.l,(k:Int),c.1,c.2,())))))=some (s++(rR k++c.1),C,ae C.l,(k:Int),c.1,c.2,()):=by
   rw[gP];unfold rR at e0 ⊢;by_cases h:k=0
   ·rw[if_pos om,if_pos h,bI (by show 3+_<=_;omega),bI (by rw[dK,zd];show _+(3+_)<=_;omega)];rfl
   ·rw[if_neg om,if_neg h,bI (by show 3+_<=_;omega),bI (by rw[dK,zd];show _+(3+_)<=_;omega)];rfl
  have e2:(aP (aL 0 (ae c.2.l)) (az (fit (bS (ae (s++(rR k++c.1))) (ae ([32,111,102]:Y1)))) (fun _=>some (cw (s++(rR k++c.1)) ([32,111,102]:Y1),C,ae C.l,(k:Int),c.1,c.2,()))) (some (s++(rR k++c.1),C,ae C.l,(k:Int),c.1,c.2,())))=some (s++(rR k++c.1)++vJ c,C,ae C.l,(k:Int),c.1,c.2,()):=by
   unfold vJ;rw[show aL 0 (ae c.2.l)=decide (0<c.2.l.length) from decide_eq_decide.2 (by show(0:Int)<((c.2.l.length:Nat):Int)↔_;omega)];cases decide (0<c.2.l.length) with
   |false=>rw[aI,cond_false,zn]
   |true=>rw[aK,bI (by rw[zd,e0];show _+3<=_;omega)];rfl
  have hf:=qzf c;have l1:(s++(rR k++c.1)++vJ c).length=s.length+(3+c.1.length)+(vJ c).length:=by rw[zd,zd,e0]
  have step:ua (s,C,ae C.l,(k:Int),())=some (.inl (s++Fi k c,C,ae C.l,((k+1:Nat):Int),())):=by
   rw[qaa];simp only;rw[dM hx,aK,aU hx,af,e1,af];simp only;rw[e2,af];simp only;have h:=z53 hp c.2 hc.args om C (ae C.l) (k:Int) c.2.l.length 0 (s++(rR k++c.1)++vJ c) om (by rw[l1];omega);refine Eq.trans h ?_;rw[aB om,List.drop_zero];unfold Fi
   grind
  have hz:=qts hp k hc;rw[cU step,ih (k+1) _ om (by rw[zd];omega)];have hd:C.l.drop k=c::C.l.drop (k+1):=by rw[jW he];rw[zf he] at hx;rw[zF hx]
  rw[hd];show _=some (Sum.inr (s++(Fi k c++yA (k+1) (C.l.drop (k+1))),()));rw[zm]
def Fj:Nat->Nat->Tx
 |_,0=>[]
 |k,m+1=>[32,97+(k:Int)]++Fj (k+1) m
def qx2:∀m k,(Fj k m).length=m*2
 |0,_=>rfl
 |m+1,k=>by show([32,97+(k:Int)]++Fj (k+1) m).length=_;rw[zd,qx2 m (k+1)];show 2+_=_;omega
structure rC (d:DD):Prop where
 nm:d.1.length<=60
 p0:0<=d.2.1
 p8:d.2.1<=8
 len:d.2.2.l.length<=60
 cons:∀c,c∈d.2.2.l->Bk d.2.1 c
noncomputable def vK(d:DD):Tx:=[116,121,112,101,32]++d.1++Fj 0 d.2.1.toNat++yA 0 d.2.2.l
def z2e{d:DD}(h:rC d):(vK d).length<=1940000:=by
 unfold vK;rw[zd,zd,zd,qx2];have:=z2d h.p8 d.2.2.l 0 h.cons;have:=h.nm;have:=h.p8;have:=h.len
 grind
def z55{d:DD}(h:rC d):∀(m k:Nat) (s:Tx),((k+m:Nat):Int)=d.2.1->s.length<=100+2*k->aD ub (s,d.2.1,(k:Int),d.1,d.2.1,d.2.2,())=some (s++Fj k m++yA 0 d.2.2.l,()):=by
 have p8:=h.p8;intro m
 induction m with
 |zero=>intro k s hk hs;refine bZ ?_;rw[qab];simp only;rw[bD,if_neg om];have hl:=h.len;have e:=z54 h.p8 d.2.2 h.cons om d.2.2.l.length 0 s om om;refine Eq.trans e ?_;rw[List.drop_zero,show Fj k 0=[] from rfl,zn]
 |succ m ih=>
  intro k s hk hs;have hv:=zf7 (n:=(k:Int)) om;have step:ub (s,d.2.1,(k:Int),d.1,d.2.1,d.2.2,())=some (.inl (s++[32,97+(k:Int)],d.2.1,((k+1:Nat):Int),d.1,d.2.1,d.2.2,())):=by rw[qab];simp only;rw[bD,if_pos om,hv,bI (by show 1+1<=_;omega),bI (by show s.length+2<=_;omega),aB om];rfl
  rw[cU step,ih (k+1) _ om (by rw[zd];show _+2<=_;omega)];show _=some (s++([32,97+(k:Int)]++Fj (k+1) m)++yA 0 d.2.2.l,())
  grind
def qzg{d:DD}(h:rC d):qR (d,())=some (vK d,()):=by have e:qR (d,())=_:=abP d.1 d.2.1 d.2.2;have hn:=h.nm;have h0:=h.p0;rw[e,bI (by show 5+_<=_;omega)];have h3:=z55 h d.2.1.toNat 0 ([116,121,112,101,32]++d.1) om (by rw[zd];show 5+_<=_;omega);exact h3
section
variable (X:Y3) (fd:Tx) (nm:Tx) (O:Sl Y1) (FF:Y3) (D:Sl Y2) (L:Sl Y5)
def z56{p:Int}(hp:p<=8){C:Sl CT}{c:CT}{q:Nat}(hq:C.l[q]?=some c)(hf:q<=1000)(hc:Bk p c)(i:Int)(sg:Tx)(dn:Tx)(dp:Int):∀(m k:Nat) (s:Tx),k+m=c.2.l.length->s.length+m*4024<=1900000000->aD uS (X,fd,s,i,sg,(q:Int),(k:Int),nm,O,FF,D,L,dn,dp,C,())=some (.inl (X,fd,s++((if k=0 then vJ c else [])++BQ (c.2.l.drop k)),i,sg,((q+1:Nat):Int),nm,O,FF,D,L,dn,dp,C,())):=by
 intro m
 induction m with
 |zero=>
  intro k s hk hs;refine bZ ?_;rw[zw om];rw[qhi];simp only;rw[aU hq,af,show ae c.2.l=((c.2.l.length:Nat):Int) from rfl,bD,if_neg om,aB om];have e:(if k=0 then vJ c else [])++BQ []=([]:Tx):=by
   rw[show BQ []=[] from rfl,zn];by_cases h:k=0
   ·rw[if_pos h];unfold vJ
    grind
   ·rw[if_neg h]
  rw[e,zn]
 |succ m ih=>
  intro k s hk hs;have he:k<c.2.l.length:=om
  have hx:=zf he;have hn:=hc.len;obtain⟨a1,a2,a3⟩:=qze hp (hc.args _ (List.getElem_mem he));generalize ht:c.2.l[k]=t at hx a1 a2 a3;have e1:(aP (ag (k:Int) 0) (az (fit (bS (ae s) (ae ([32,111,102]:Y1)))) (fun _=>some (X,fd,cw s ([32,111,102]:Y1),i,sg,(q:Int),(k:Int),nm,O,FF,D,L,dn,dp,C,()))) (some (X,fd,s,i,sg,(q:Int),(k:Int),nm,O,FF,D,L,dn,dp,C,())))=some (X,fd,s++(if k=0 then vJ c else []),i,sg,(q:Int),(k:Int),nm,O,FF,D,L,dn,dp,C,()):=by
   rw[gP];by_cases h:k=0
   ·rw[if_pos om,if_pos h,bI (by show _+3<=_;omega)];unfold vJ;rw[zt om];rfl
   ·rw[if_neg om,if_neg h,zn]
  have e2:(if k=0 then vJ c else([]:Tx)).length<=3:=by
   split
   ·exact qzf c
   ·exact Nat.zero_le _
  have step:uS (X,fd,s,i,sg,(q:Int),(k:Int),nm,O,FF,D,L,dn,dp,C,())=some (.inl (X,fd,s++(if k=0 then vJ c else [])++([32]++Fh t.l),i,sg,(q:Int),((k+1:Nat):Int),nm,O,FF,D,L,dn,dp,C,())):=by rw[qhi];simp only;rw[aU hq,af,dM hx,aK,e1,af];simp only;rw[aU hq,af,aU hx,af,a2,af];simp only;rw[bI (by show 1+_<=_;omega),bI (by rw[dK,zd,zd];show _+_+(1+_)<=_;omega),dK,dK,aB om]
  have hd:c.2.l.drop k=t::c.2.l.drop (k+1):=by rw[jW he,ht]
  rw[cU step,ih (k+1) _ om (by rw[zd,zd,zd];show _+_+(1+_)+_<=_;omega),hd,if_neg (Nat.succ_ne_zero k)];have e3:BQ (t::c.2.l.drop (k+1))=[32]++Fh t.l++BQ (c.2.l.drop (k+1)):=rfl;rw[e3];simp only[zm,List.nil_append]
def z57{p:Int}(hp:p<=8){C:Sl CT}(hC:∀c,c∈C.l->Bk p c)(hL:C.l.length<=1000)(hf:fd.length<=3)(dn:Tx)(dp:Int){i:Nat}(hi:i<=1000):∀(m k:Nat) (s:Tx),k+m=C.l.length->s.length+m*32240<=1800000000->aD uT (X,fd,s,(i:Int),rR k,(k:Int),nm,O,FF,D,L,dn,dp,C,())=some (.inr (.inl (X,fd,s++yA k (C.l.drop k)++fd,((i+1:Nat):Int),nm,O,FF,D,L,()))):=by
 intro m
 induction m with
 |zero=>intro k s hk hs;refine bZ ?_;rw[Nat.zero_mul] at hs;have hs:s.length<=1800000000:=hs;rw[zw om];rw[qhj];simp only;rw[show ae C.l=((C.l.length:Nat):Int) from rfl,bD,if_neg om,show yA k []=[] from rfl,zn,bI om,dK,aB om]
 |succ m ih=>
  intro k s hk hs;have he:k<C.l.length:=om
  have hx:=zf he;have hc:=hC _ (List.getElem_mem he);generalize ht:C.l[k]=c at hx hc;have n1:=hc.nm;have n2:=hc.len;have e0:(rR k++c.1).length=3+c.1.length:=by rw[zd,qtr]
  have step:uT (X,fd,s,(i:Int),rR k,(k:Int),nm,O,FF,D,L,dn,dp,C,())=some (.inl (X,fd,s++Fi k c,(i:Int),rR (k+1),((k+1:Nat):Int),nm,O,FF,D,L,dn,dp,C,())):=by
   rw[qhj];simp only;rw[dM hx,aK,aU hx,af,bI (by rw[qtr];omega),bI (by rw[dK,e0];omega)];have h:=z56 X fd nm O FF D L hp hx om hc (i:Int) [32,124,32] dn dp c.2.l.length 0 (s++(rR k++c.1)) om (by rw[zd,e0];omega);rw[if_pos rfl,List.drop_zero] at h;refine Eq.trans h ?_;have e4:s++(rR k++c.1)++(vJ c++BQ c.2.l)=s++Fi k c:=by
    unfold Fi
    grind
   rw[e4];rfl
  have hz:=qts hp k hc;rw[cU step,ih (k+1) _ om (by rw[zd];omega)];have hd:C.l.drop k=c::C.l.drop (k+1):=by rw[jW he,ht]
  rw[hd];have e5:yA k (c::C.l.drop (k+1))=Fi k c++yA (k+1) (C.l.drop (k+1)):=rfl
  grind
def z58{d:DD}(h:rC d)(hc:fd.length<=3){i:Nat}(hi:i<=1000):∀(m k:Nat) (s:Tx),((k+m:Nat):Int)=d.2.1->s.length+m*2<=1700000000->aD uU (X,fd,s,(i:Int),(k:Int),nm,O,FF,D,L,d.1,d.2.1,d.2.2,())=some (.inl (X,fd,s++Fj k m++yA 0 d.2.2.l++fd,((i+1:Nat):Int),nm,O,FF,D,L,())):=by
 have p8:=h.p8;intro m
 induction m with
 |zero=>intro k s hk hs;refine bZ ?_;rw[qhk];simp only;rw[bD,if_neg om];have hl:=h.len;have e:=z57 X fd nm O FF D L h.p8 h.cons om hc d.1 d.2.1 hi d.2.2.l.length 0 s om om;refine Eq.trans e ?_;rw[List.drop_zero,show Fj k 0=[] from rfl,zn]
 |succ m ih=>
  intro k s hk hs;have hv:=zaj (n:=(k:Int)) om;have step:uU (X,fd,s,(i:Int),(k:Int),nm,O,FF,D,L,d.1,d.2.1,d.2.2,())=some (.inl (X,fd,s++[32,97+(k:Int)],(i:Int),((k+1:Nat):Int),nm,O,FF,D,L,d.1,d.2.1,d.2.2,())):=by rw[qhk];simp only;rw[bD,if_pos om,hv,af];simp only;rw[bI (by show 1+1<=_;omega),bI (by show s.length+2<=_;omega),aB om];rfl
  rw[cU step,ih (k+1) _ om (by rw[zd];show _+2+_<=_;omega)];have e5:Fj k (m+1)=[32,97+(k:Int)]++Fj (k+1) m:=rfl;rw[e5];simp only[zm]
def zds{d:DD}(h:rC d)(hc:fd.length<=3){i:Nat}(hi:i<=1000)(s:Tx)(hs:s.length<=1600000000)(hx:D.l[i]?=some d):qd (X,fd,s,(i:Int),nm,O,FF,D,L,())=some (.inl (X,fd,s++(vK d++fd),((i+1:Nat):Int),nm,O,FF,D,L,())):=by
 have hn:=h.nm;have h8:=h.p8;rw[qhl];simp only;rw[dM hx,aK,aU hx,af,bI (by show 5+_<=_;omega),bI (by rw[dK,zd];show _+(5+_)<=_;omega)];have h0:=h.p0;have e:=z58 X fd nm O FF D L h hc hi d.2.1.toNat 0 (s++([116,121,112,101,32]++d.1)) om (by rw[zd,zd];show _+(5+_)+_<=_;omega);refine Eq.trans e ?_;unfold vK
 grind
end
def qnc(t:Tx)(b nb:Bool)(acc:Tx)(h:acc.length+t.length<=2147483648):∃q,gX (t,b,⟨nb,acc⟩,())=some (ae t,true,⟨q,acc++t⟩,()):=by rw[Um];have e:o3 (b,⟨nb,acc⟩,())=some (true,⟨nb,acc⟩,()):=rfl;rw[e,af];simp only;rw[bI h];exact⟨_,rfl⟩
def zdt{s:Tx}(hs:∀b,b∈s->0<=b/\b<=255)(hl:s.length<=1000000):tj (s,())=some (kA s,()):=by
 rw[acp,Zo s hs,af];simp only;unfold kA;cases gJ s with
 |false=>rfl
 |true=>rw[aK,bI (by show 1+_<=_;omega),bI (by rw[dK,zd];show 1+_+1<=_;omega)];rfl
abbrev feed:Tx:=[59,59,10]
def rD(r:Bool):Tx:=bif r then [108,101,116,32,114,101,99,32] else [108,101,116,32]
def z2f(r:Bool):(rD r).length<=8:=by cases r<;>decide
def z59(r:Bool)(nm s:Tx):Tx:=rD r++kA nm++[32,61,32]++s++feed
def zan{nm:Tx}(r:Bool)(s:Tx)(h:nm.length<=100):(rD r++kA nm).length<=110/\(rD r++kA nm++[32,61,32]).length<=113/\(rD r++kA nm++[32,61,32]++s).length<=113+s.length/\(z59 r nm s).length<=116+s.length:=by
 have a:=z2f r;have b:=Rw nm;unfold z59
 grind
structure Vz (x:LY):Prop where
 nb:∀b,b∈x.1->0<=b/\b<=255
 nm:x.1.length<=100
 len:x.2.2.l.length<=60
 tl:TL 100 x.2.2.l
 gl:GL x.2.2.l
section
variable {P R:Y3} (nm:Tx) (O:Sl Y1) (FF:Y3) (D:Sl Y2) (L:Sl Y5)
def z5a(hj:P.l=R.l)(he:gL R.l)(hf:∀f,f∈R.l->f.1.length<=100)(hL:∀x,x∈L.l->Vz x)(hn:L.l.length<=100):∀(m k:Nat) (s:Tx) (b q:Bool),k+m=L.l.length->s.length+m*4000200<=1200000000->∃(r:Tx) (c:Int),aD lY (P,L,ae L.l,(k:Int),b,⟨q,s⟩,())=some (.inr (.inr (.inr (r,c,()))))/\aD nP (R,feed,s,(k:Int),nm,O,FF,D,L,())=some (.inr (.inr (.inr (r,c,())))):=by
 intro m
 induction m with
 |zero=>
  intro k s b q hk hs;refine⟨bif aL 262144 (ae s) then [] else s,bif aL 262144 (ae s) then 240 else 0,bZ ?_,bZ ?_⟩
  ·rw[qad];simp only;rw[show ae L.l=((L.l.length:Nat):Int) from rfl,bD,if_neg om,acq,af];simp only;cases aL 262144 (ae s)<;>rfl
  ·rw[qbk];simp only;rw[show ae L.l=((L.l.length:Nat):Int) from rfl,bD,if_neg om];cases aL 262144 (ae s)<;>rfl
 |succ m ih=>
  intro k s b q hk hs;have hg:k<L.l.length:=om
  have hx:=zf hg;have hk:=hL _ (List.getElem_mem hg);generalize L.l[k]=x at hx hk;obtain⟨h1,h2,h3,h4,h5⟩:=hk;obtain⟨xn,xr,xb,xl⟩:=x;obtain⟨t,c,e1,e2,e3⟩:=zag xb xb R.nil P.nil xl R.l h3 h4 h5 he hf;have e1:o7 (⟨xb,xl⟩,P,())=some (t,c,()):=by rw[<-hj] at e1;exact e1
  have e2:tB (⟨xb,xl⟩,R,0,())=some (t,c,()):=e2;by_cases hc:c=0
  ·subst hc;have h2:xn.length<=100:=h2;obtain⟨z1,z2,z3,z4⟩:=zan (nm:=xn) xr t h2;have w1:=z2f xr;have w2:=Rw xn;have eb:=zdt h1 (by show xn.length<=_;omega);have en:=ZV (s:=xn) om;obtain⟨q2,ew⟩:=qnc (z59 xr xn t) b q s om;obtain⟨r,c,i1,i2⟩:=ih (k+1) (s++z59 xr xn t) true q2 om (by rw[zd];omega);have p1:lY (P,L,ae L.l,(k:Int),b,⟨q,s⟩,())=some (.inl (P,L,ae L.l,((k+1:Nat):Int),true,⟨q2,s++z59 xr xn t⟩,())):=by
    rw[qad];simp only;rw[dM hx,aK,aU hx,af];simp only;rw[e1,af];simp only;rw[show ar (ag 0 0)=false from rfl,aI];have e4:(aP xr (some (P,t,([108,101,116,32,114,101,99,32]:Y1),L,ae L.l,(k:Int),b,xn,xr,(⟨xb,xl⟩:Sl Y0),(⟨q,s⟩:Sl Int),())) (some (P,t,([108,101,116,32]:Y1),L,ae L.l,(k:Int),b,xn,xr,(⟨xb,xl⟩:Sl Y0),(⟨q,s⟩:Sl Int),())))=some (P,t,rD xr,L,ae L.l,(k:Int),b,xn,xr,(⟨xb,xl⟩:Sl Y0),(⟨q,s⟩:Sl Int),()):=by cases xr<;>rfl
    rw[e4,af];simp only;rw[eb,af];simp only[dK];rw[bI om,bI (by show _+3<=_;omega),bI om,bI (by show _+3<=_;omega)];have ew:gX (rD xr++kA xn++[32,61,32]++t++[59,59,10],b,⟨q,s⟩,())=_:=ew;rw[ew,af];simp only;rw[aB om]
   have p2:nP (R,feed,s,(k:Int),nm,O,FF,D,L,())=some (.inl (R,feed,s++z59 xr xn t,((k+1:Nat):Int),nm,O,FF,D,L,())):=by
    rw[qbk];simp only;rw[dM hx,aK,aU hx,af];simp only;rw[e2,af];simp only;rw[show ar (ag 0 0)=false from rfl,aI];have e4:(aP xr (some (R,feed,s,(k:Int),t,([108,101,116,32,114,101,99,32]:Y1),nm,O,FF,D,L,xn,xr,(⟨xb,xl⟩:Sl Y0),())) (some (R,feed,s,(k:Int),t,([108,101,116,32]:Y1),nm,O,FF,D,L,xn,xr,(⟨xb,xl⟩:Sl Y0),())))=some (R,feed,s,(k:Int),t,rD xr,nm,O,FF,D,L,xn,xr,(⟨xb,xl⟩:Sl Y0),()):=by cases xr<;>rfl
    rw[e4,af];simp only;rw[en,af];simp only[dK];rw[bI om,bI (by show _+3<=_;omega),bI om,bI (by show _+3<=_;omega)];have z5:(rD xr++kA xn++[32,61,32]++t++feed).length<=116+t.length:=z4;rw[bI om,aB om];rfl
   exact⟨r,c,by rw[cU p1];exact i1,by rw[cU p2];exact i2⟩
  ·refine⟨[],c,bZ ?_,bZ ?_⟩
   ·rw[qad];simp only;rw[dM hx,aK,aU hx,af];simp only;rw[e1,af];simp only;rw[eB hc];rfl
   ·rw[qbk];simp only;rw[dM hx,aK,aU hx,af];simp only;rw[e2,af];simp only;rw[eB hc];rfl
def qpt{r:Tx}{c:Int}(hD:∀d,d∈D.l->rC d)(hn:D.l.length<=100)(a0:Tx)(a1:Sl Y1)(a2:Y3)(T:Tx)(hp:∀b q,aD lY (P,L,ae L.l,0,b,⟨q,T⟩,())=some (.inr (.inr (.inr (r,c,())))))(hr:aD nP (R,feed,T,0,a0,a1,a2,D,L,())=some (.inr (.inr (.inr (r,c,()))))):∀(m k:Nat) (s:Tx) (b q:Bool),k+m=D.l.length->s++(D.l.drop k).flatMap (fun d=>vK d++feed)=T->s.length+m*1940010<=800000000->aD pT (P,D,ae D.l,(k:Int),a0,a1,a2,D,L,b,⟨q,s⟩,())=some (.inr (.inr (r,c,())))/\aD qd (R,feed,s,(k:Int),a0,a1,a2,D,L,())=some (.inr (.inr (r,c,()))):=by
 intro m
 induction m with
 |zero=>
  intro k s b q hk hT hs;rw[zw om,List.flatMap_nil,zn] at hT;subst hT;refine⟨bZ ?_,bZ ?_⟩
  ·rw[qf0];simp only;rw[show ae D.l=((D.l.length:Nat):Int) from rfl,bD,if_neg om];exact hp b q
  ·rw[qhl];simp only;rw[show ae D.l=((D.l.length:Nat):Int) from rfl,bD,if_neg om];exact hr
 |succ m ih=>
  intro k s b q hk hT hs;have hc:k<D.l.length:=om
  have hx:=zf hc;have hd:=hD _ (List.getElem_mem hc);rw[jW hc,List.flatMap_cons,<-zm] at hT;generalize D.l[k]=d at hx hd hT;have hl:=z2e hd;obtain⟨q2,ew⟩:=qnc (vK d++feed) b q s (by rw[zd];show _+(_+3)<=_;omega);obtain⟨i1,i2⟩:=ih (k+1) (s++(vK d++feed)) true q2 om hT (by rw[zd,zd];show _+(_+3)+_<=_;omega);have p1:pT (P,D,ae D.l,(k:Int),a0,a1,a2,D,L,b,⟨q,s⟩,())=some (.inl (P,D,ae D.l,((k+1:Nat):Int),a0,a1,a2,D,L,true,⟨q2,s++(vK d++feed)⟩,())):=by rw[qf0];simp only;have ed:qR ((d.1,d.2.1,d.2.2),())=some (vK d,()):=qzg hd;rw[dM hx,aK,aU hx,af,ed,af];simp only[dK];rw[bI (by show _+3<=_;omega)];have ew:gX (vK d++[59,59,10],b,⟨q,s⟩,())=_:=ew;rw[ew,af];simp only;rw[aB om]
  have p2:=zds R feed a0 a1 a2 D L hd (Nat.le_refl 3) (i:=k) om s om hx;exact⟨by rw[cU p1];exact i1,by rw[cU p2];exact i2⟩
end
def J8{σ ρ:Type}{f:σ->Option (σ⊕ρ)}(S:Nat->σ->Prop)(Q:ρ->Prop)(N:Nat)(hc:∀k s,k<N->S k s->(∃r,f s=some (.inr r)/\Q r)\/∃s',f s=some (.inl s')/\S (k+1) s')(he:∀s,S N s->∃r,f s=some (.inr r)/\Q r):∀(m k:Nat) (s:σ),k+m=N->S k s->∃r,aD f s=some r/\Q r
 |0,k,s,h,hs=>by obtain⟨r,h1,h2⟩:=he s (by rw[<-show k=N by omega];exact hs);exact⟨r,bZ h1,h2⟩
 |m+1,k,s,h,hs=>by
  rcases hc k s om hs with ⟨r,h1,h2⟩|⟨s',h1,h2⟩
  ·exact⟨r,bZ h1,h2⟩
  ·obtain⟨r,h3,h4⟩:=J8 S Q N hc he m (k+1) s' om h2;exact⟨r,by rw[cU h1,h3],h4⟩
def oe{α:Type}(l:List α)(k:Nat)(p:α->Prop):Prop:=∀j x,j<k->l[j]?=some x->p x
def oe.zero{α:Type}{l:List α}{p:α->Prop}:oe l 0 p:=fun _ _ h=>absurd h (Nat.not_lt_zero _)
def oe.next{α:Type}{l:List α}{k:Nat}{p:α->Prop}(h:oe l k p){x:α}(hx:l[k]?=some x)(hp:p x):oe l (k+1) p:=fun j y hj hy=>by
 by_cases e:j=k
 ·grind
 ·exact h j y om hy
def oe.all{α:Type}{l:List α}{k:Nat}{p:α->Prop}(h:oe l k p)(hk:l.length<=k):∀x,x∈l->p x:=fun x hx=>by obtain⟨j,hj⟩:=List.getElem?_of_mem hx;exact h j x (by have:=nV hj;omega) hj
def J9(t:SN):Prop:=t.l.length<=60/\TL 60 t.l
def P6(c:CT):Prop:=c.1.length<=60/\c.2.l.length<=10/\∀t,t∈c.2.l->J9 t
def Bl(d:DD):Prop:=d.1.length<=60/\d.2.2.l.length<=70/\∀c,c∈d.2.2.l->P6 c
section
variable (D:Sl DD)
def zhy{A:Sl SN}{a:Nat}{t:SN}(ha:A.l[a]?=some t)(he:a<=100)(n i c:Int)(nm:Tx):∃r,aD xT (D,n,i,c,(a:Int),0,nm,A,())=some r/\(r=.inr (.inr (.inr (false,())))\/(r=.inl (D,n,i,c,((a+1:Nat):Int),nm,A,())/\J9 t/\n<=300)):=by
 refine J8 (fun k s=>s=(D,n,i,c,(a:Int),(k:Int),nm,A,())/\oe t.l k fun x=>x.2.1.length<=60) _ (min t.l.length 61) ?_ ?_ (min t.l.length 61) 0 _ (zC _) ⟨rfl,oe.zero⟩
 ·rintro k s hk ⟨rfl,hf⟩;have hc:k<t.l.length:=om
  have hx:=zf hc;generalize t.l[k]=x at hx;rw[qjp];simp only;rw[aU ha,af,dM hx,aK,show aL (k:Int) 61=true from zt om,af,aK,af,aU hx,af];by_cases h:x.2.1.length<=60
  ·right;rw[show aL 60 (ae x.2.1)=false from zo (by unfold ae;omega),aI,aB om];exact⟨_,rfl,rfl,hf.next hx h⟩
  ·left;rw[show aL 60 (ae x.2.1)=true from zt (by unfold ae;omega),aK]
   grind
 ·rintro s ⟨rfl,hf⟩;rw[qjp];simp only;have e:aP (aL ((min t.l.length 61:Nat):Int) (ae t.l)) (some (aL ((min t.l.length 61:Nat):Int) 61)) (some false)=some false:=by
   by_cases h:t.l.length<=61
   ·rw[show aL ((min t.l.length 61:Nat):Int) (ae t.l)=false from zo (by unfold ae;omega)];rfl
   ·rw[show aL ((min t.l.length 61:Nat):Int) 61=false from zo om];cases aL ((min t.l.length 61:Nat):Int) (ae t.l)<;>rfl
  rw[aU ha,af,e,af,aI,af];by_cases h:t.l.length<=60
  ·rw[show aL 60 (ae t.l)=false from zo (by unfold ae;omega),aI,af];by_cases h2:n<=300
   ·rw[show aL 300 n=false from zo om,aI,aB om];exact⟨_,rfl,.inr ⟨rfl,⟨h,hf.all om⟩,h2⟩⟩
   ·rw[show aL 300 n=true from zt om,aK]
    grind
  ·rw[show aL 60 (ae t.l)=true from zt (by unfold ae;omega),aK,af,aK]
   grind
def zhz{A:Sl SN}(hA:A.l.length<=10)(i:Int){c:Nat}(hc:c<=1000)(nm:Tx){n:Int}(hn:0<=n/\n<=300):∃r,aD xU (D,n,i,(c:Int),0,nm,A,())=some r/\(r=.inr (.inr (false,()))\/∃n',r=.inl (D,n',i,((c+1:Nat):Int),())/\0<=n'/\n'<=300/\∀t,t∈A.l->J9 t):=by
 refine J8 (fun k s=>∃n,s=(D,n,i,(c:Int),(k:Int),nm,A,())/\0<=n/\n<=300/\oe A.l k J9) _ A.l.length ?_ ?_ A.l.length 0 _ (zC _) ⟨n,rfl,hn.1,hn.2,oe.zero⟩
 ·rintro k s hk ⟨n,rfl,h0,h3,hf⟩;have hx:=zf hk;generalize A.l[k]=t at hx;rw[qjq];simp only;rw[dM hx,aK,aU hx,af];obtain⟨r,e,h⟩:=zhy D hx om (cE .i64 n (ae t.l)) i (c:Int) nm;rw[e];rcases h with rfl|⟨rfl,h1,h2⟩
  ·exact .inl ⟨_,rfl,.inl rfl⟩
  ·have h6:=h1.1;have he:cE .i64 n (ae t.l)=n+ae t.l:=Ch (by unfold ae;omega) (by unfold ae;omega);rw[he] at h2 ⊢;exact .inr ⟨_,rfl,n+ae t.l,rfl,by unfold ae;omega,h2,hf.next hx h1⟩
 ·rintro s ⟨n,rfl,h0,h3,hf⟩;rw[qjq];simp only;rw[fm,aI,aB om];exact⟨_,rfl,.inr ⟨n,rfl,h0,h3,hf.all (Nat.le_refl _)⟩⟩
def zi0{i:Nat}{d:DD}(hi:D.l[i]?=some d)(hc:i<=1000)(hd:d.2.2.l.length<=70){n:Int}(hn:0<=n/\n<=300):∃r,aD xV (D,n,(i:Int),0,())=some r/\(r=.inr (false,())\/∃n',r=.inl (D,n',((i+1:Nat):Int),())/\0<=n'/\n'<=300/\∀c,c∈d.2.2.l->P6 c):=by
 refine J8 (fun k s=>∃n,s=(D,n,(i:Int),(k:Int),())/\0<=n/\n<=300/\oe d.2.2.l k P6) _ d.2.2.l.length ?_ ?_ d.2.2.l.length 0 _ (zC _) ⟨n,rfl,hn.1,hn.2,oe.zero⟩
 ·rintro k s hk ⟨n,rfl,h0,h3,hf⟩;have hx:=zf hk;generalize d.2.2.l[k]=c at hx;rw[qjr];simp only;rw[aU hi,af,dM hx,aK,af,aU hx,af];by_cases h1:c.1.length<=60
  ·rw[show aL 60 (ae c.1)=false from zo (by unfold ae;omega),aI,af];by_cases h2:c.2.l.length<=10
   ·rw[show aL 10 (ae c.2.l)=false from zo (by unfold ae;omega),aI];obtain⟨r,e,h⟩:=zhz D h2 (i:Int) (c:=k) om c.1 ⟨h0,h3⟩;rw[e];rcases h with rfl|⟨n',rfl,g1,g2,g3⟩
    ·grind
    ·exact .inr ⟨_,rfl,n',rfl,g1,g2,hf.next hx ⟨h1,h2,g3⟩⟩
   ·rw[show aL 10 (ae c.2.l)=true from zt (by unfold ae;omega),aK]
    grind
  ·rw[show aL 60 (ae c.1)=true from zt (by unfold ae;omega),aK,af,aK]
   grind
 ·rintro s ⟨n,rfl,h0,h3,hf⟩;rw[qjr];simp only;rw[aU hi,af,fm,aI,aB om];exact⟨_,rfl,.inr ⟨n,rfl,h0,h3,hf.all (Nat.le_refl _)⟩⟩
def zkr:∃r,Es (D,())=some (r,())/\(r=true->D.l.length<=70/\∀d,d∈D.l->Bl d):=by
 rw[acs];by_cases hD:D.l.length<=70
 ·rw[show aL 70 (ae D.l)=false from zo (by unfold ae;omega),aI];have h:∃r:Bool×Unit,aD xW (D,0,0,())=some r/\(r.1=true->∀d,d∈D.l->Bl d):=by
   refine J8 (fun k s=>∃n,s=(D,n,(k:Int),())/\0<=n/\n<=300/\oe D.l k Bl) _ D.l.length ?_ ?_ D.l.length 0 _ (zC _) ⟨0,rfl,by decide,by decide,oe.zero⟩
   ·rintro k s hk ⟨n,rfl,h0,h3,hf⟩;have hx:=zf hk;generalize D.l[k]=d at hx;rw[qjs];simp only;rw[dM hx,aK,aU hx,af];by_cases h1:d.2.2.l.length<=70
    ·rw[show aL 70 (ae d.2.2.l)=false from zo (by unfold ae;omega),aI,af,af];by_cases h2:d.1.length<=60
     ·rw[show aL 60 (ae d.1)=false from zo (by unfold ae;omega),aI];obtain⟨r,e,h⟩:=zi0 D hx om h1 ⟨h0,h3⟩;rw[e];rcases h with rfl|⟨n',rfl,g1,g2,g3⟩
      ·grind
      ·exact .inr ⟨_,rfl,n',rfl,g1,g2,hf.next hx ⟨h2,h1,g3⟩⟩
     ·rw[show aL 60 (ae d.1)=true from zt (by unfold ae;omega),aK]
      grind
    ·rw[show aL 70 (ae d.2.2.l)=true from zt (by unfold ae;omega),aK,af,aK]
     grind
   ·rintro s ⟨n,rfl,h0,h3,hf⟩;rw[qjs];simp only;rw[fm,aI];exact⟨_,rfl,fun _=>hf.all (Nat.le_refl _)⟩
  grind
 ·rw[show aL 70 (ae D.l)=true from zt (by unfold ae;omega),aK]
  grind
end
open Pz
def VA{α:Type}(p:α->Bool):∀(l:List α) (k:Nat),iE (fun _ x=>p x) k l=l.any p
 |[],_=>rfl
 |x::r,k=>by show(p x||iE (fun _ x=>p x) (k+1) r)=(p x||r.any p);rw[VA p r (k+1)]
def zi1(b:Bool)(l:List Tx)(hl:l.length<=1000000)(s:Tx):EF (⟨b,l⟩,s,())=some (decide (s∈l),()):=by
 rw[acZ];have e:=kZ yf (fun k=>(⟨b,l⟩,s,k,())) l hl (fun _ x=>bif bM x s then some (true,()) else none) (false,()) (fun k x hx hk=>by
  rw[qmg];simp only;rw[dM hx,aK,aU hx,af,aB om];cases bM x s<;>rfl) (by
  rw[qmg];simp only;rw[fm,aI])
 refine e.trans ?_;rw[BK (fun _ x=>bM x s),VA];have:l.any (fun x=>bM x s)=decide (s∈l):=by
  rw[Bool.eq_iff_iff,zX,decide_eq_true_eq];constructor
  ·rintro⟨x,h1,h2⟩;exact eE.1 h2▸h1
  ·exact fun h=>⟨s,h,eE.2 rfl⟩
 grind
def z2g(s:Tx)(hl:s.length<=1000000):xa (s,())=some (oE s,()):=by rw[acD,qw2 hl,af];have e:bJ (ae s) 60=decide (s.length<=60):=decide_eq_decide.2 (by unfold ae;omega);rw[e];unfold oE;cases gK s<;>rfl
def zi2{t:List ND}(hl:t.length<=60)(hg:GL t)(b:Bool):o9 (⟨b,t⟩,false,())=some (mO t,()):=by
 have h:∃c,o9 (⟨b,t⟩,false,())=some (c,())/\qM (⟨true,t⟩,false,())=some (c,()):=by
  rcases qym t with h|⟨k,s,m,ks,h⟩
  ·exact⟨60,qpa b t om false h,qlq true t om false h⟩
  ·subst h;have hl:ks.size+1<=4000:=by have:(tr k s m ks).flat.length=ks.size+1:=(tr k s m ks).len;omega
   exact⟨nS k s m ks false,qp9 b k s m ks false hl hg,qlp true k s m ks false hl hg⟩
 obtain⟨c,h1,h2⟩:=h;have h3:jc (⟨true,t⟩,())=some (c,()):=by rw[EM,h2];rfl
 unfold mO;rw[h3,h1]
def zdu(s:Tx)(rc b:Bool)(t:List ND)(hs:s.length<=1000000)(hl:t.length<=60)(hg:GL t):xd ((s,rc,⟨b,t⟩),())=some (gM (s,rc,t),()):=by
 rw[acY,qrg hs,af];unfold gM;simp only;rw[zi2 hl hg b];cases aW s with
 |false=>rfl
 |true=>
  rw[aK,af,af];simp only;rw[show ag (mO t) 0=decide (mO t=0) from rfl];cases hz:decide (mO t=0) with
  |false=>rfl
  |true=>
   rw[aK];cases rc with
   |false=>rfl
   |true=>
    cases t with
    |nil=>rw[z1l] at hz;cases hz
    |cons a r=>rfl
def zdv(s:Sl DD)(hL:GD s.l):AP (s,())=some (decide (mP s.l=0)||decide (mP s.l=102),()):=by rw[acO,qwb s hL,af];simp only;rw[show ag (mP s.l) 0=decide (mP s.l=0) from rfl,show ag (mP s.l) 102=decide (mP s.l=102) from rfl];cases decide (mP s.l=0)<;>rfl
section
variable (nm:Tx) (O:Sl Y1) (X:Y3) (D:Sl Y2) (L:Sl Y5)
def zao(hL:L.l.length<=1000):aD uH (0,nm,O,X,D,L,())=some (.inr (.inr (.inr (bif bB (L.l.map fun x=>x.1) then 241 else 0,())))):=by
 have h1:∀(i:Nat) (y:LY),L.l[i]?=some y->aD uG ((i:Int),0,nm,O,X,D,L,())=some (bif decide (y.1∈(L.l.take i).map fun x=>x.1) then .inr (.inr (.inr (.inr (241,())))) else .inl (((i+1:Nat):Int),nm,O,X,D,L,())):=by
  intro i y hy;have hi:=nV hy;have hc:(L.l.take i).length=i:=by rw[zP];omega
  have e:=kZ uG (fun k=>((i:Int),k,nm,O,X,D,L,())) (L.l.take i) om (fun _ x=>bif bM x.1 y.1 then some (.inr (.inr (.inr (.inr (241,()))))) else none) (.inl (((i+1:Nat):Int),nm,O,X,D,L,())) (fun k x hx hk=>by
   have hf:=nV hx;have he:L.l[k]?=some x:=by rw[List.getElem?_take] at hx;split at hx;exact hx;cases hx
   rw[qfq];simp only;rw[bD,if_pos om,aU he,af,aU hy,af,aB om];cases bM x.1 y.1<;>rfl) (by
   rw[qfq];simp only;rw[bD,if_neg om,aB om])
  refine e.trans ?_;rw[BK (fun _ (x:LY)=>bM x.1 y.1),VA];have:(L.l.take i).any (fun x=>bM x.1 y.1)=decide (y.1∈(L.l.take i).map fun x=>x.1):=by
   rw[Bool.eq_iff_iff,zX,decide_eq_true_eq,zV];constructor
   ·rintro⟨x,h1,h2⟩;exact⟨x,h1,eE.1 h2⟩
   ·rintro⟨x,h1,h2⟩;exact⟨x,h1,eE.2 h2⟩
  rw[this]
 have e:=kZ uH (fun k=>(k,nm,O,X,D,L,())) L.l om (fun i y=>bif decide (y.1∈(L.l.take i).map fun x=>x.1) then some (.inr (.inr (.inr (241,())))) else none) (.inr (.inr (.inr (0,())))) (fun k x hx hk=>by
  rw[qfr];simp only;rw[dM hx,aK,h1 k x hx];cases decide (x.1∈(L.l.take k).map fun x=>x.1)<;>rfl) (by
  rw[qfr];simp only;rw[fm,aI])
 refine e.trans ?_;rw[BK (fun i (y:LY)=>decide (y.1∈(L.l.take i).map fun x=>x.1)),Rr (key:=fun x=>x.1) _ L.l (fun k x _=>rfl)];cases bB (L.l.map fun x=>x.1)<;>rfl
def z5b(hL:L.l.length<=1000)(hO:O.l.length<=1000):aD uI (0,nm,O,X,D,L,())=some (.inr (.inr (bif bB (nm::O.l)||bB (L.l.map fun x=>x.1) then 241 else 0,()))):=by
 have e:=kZ uI (fun k=>(k,nm,O,X,D,L,())) O.l om (fun i y=>bif decide (y=nm)||decide (y∈O.l.take i) then some (.inr (.inr (241,()))) else none) (.inr (.inr (bif bB (L.l.map fun x=>x.1) then 241 else 0,()))) (fun k x hx hk=>by
  have hc:=nV hx;rw[qfs];simp only;rw[dM hx,aK,aU hx,af,aB om,show bM x nm=decide (x=nm) from by rw[Bool.eq_iff_iff,eE,decide_eq_true_eq]];cases decide (x=nm) with
  |true=>rfl
  |false=>
   rw[aI,qyh om,af,af,zi1 _ _ (by rw[zP];omega),af];cases decide (x∈O.l.take k)<;>rfl) (by
  rw[qfs];simp only;rw[fm,aI,zao nm O X D L hL])
 refine e.trans ?_;rw[BK (fun i (y:Tx)=>decide (y=nm)||decide (y∈O.l.take i))];have e2:∀(k:Nat) (l:List Tx),O.l.drop k=l->iE (fun i y=>decide (y=nm)||decide (y∈O.l.take i)) k l=iE (fun i y=>decide (y∈(nm::O.l).take i)) (k+1) l:=by
  intro k l
  induction l generalizing k with
  |nil=>intro _;rfl
  |cons x r ih=>
   intro h;unfold iE;have hr:O.l.drop (k+1)=r:=by rw[<-List.drop_drop,h];rfl
   grind
 have e3:iE (fun i y=>decide (y=nm)||decide (y∈O.l.take i)) 0 O.l=bB (nm::O.l):=by rw[e2 0 O.l rfl];have h:=Rr (key:=fun x:Tx=>x) (fun i y=>decide (y∈(nm::O.l).take i)) (nm::O.l) (fun k x _=>by rw[List.map_id']);rw[List.map_id'] at h;rw[<-h];rfl
 grind
def zdw(m:MX)(ho:O.l=m.opens)(hx:X.l=m.fP)(hd:D.l=m.eV)(hl:L.l.map er=m.lets)(hn:nm.length<=1000000)(G:GM m)(hc:∀x,x∈L.l->x.2.2.l.length<=60):EG ((nm,O,X,D,L),())=some (vg nm m,()):=by
 have hO:O.l.length<=1000:=by rw[ho];exact G.o
 have hL:L.l.length<=1000:=by have:=G.l;rw[<-hl,zG] at this;exact this
 have q1:aD uJ (0,nm,O,X,D,L,())=some (.inr (bif m.lets.any (fun x=>!gM x) then 240 else bif bB (nm::O.l)||bB (L.l.map fun x=>x.1) then 241 else 0,())):=by
  have e:=kZ uJ (fun k=>(k,nm,O,X,D,L,())) L.l om (fun _ x=>bif !gM (er x) then some (.inr (240,())) else none) (.inr (bif bB (nm::O.l)||bB (L.l.map fun x=>x.1) then 241 else 0,())) (fun k x hx hk=>by
   obtain⟨s,rc,b,t⟩:=x;have hm:=zv hx;obtain⟨g1,g2,g3⟩:=G.lg _ (by rw[<-hl];exact List.mem_map_of_mem hm);have hr:xd ((s,rc,⟨b,t⟩),())=_:=zdu s rc b t g1.2 (hc _ hm) g2;rw[qft];simp only;rw[dM hx,aK,aU hx,af,hr,af,aB om];have ee:er ((s,rc,(⟨b,t⟩:Sl ND)):LY)=(s,rc,t):=rfl;rw[ee];simp only[ar];cases gM (s,rc,t)<;>rfl) (by
   rw[qft];simp only;rw[fm,aI,z5b nm O X D L hL hO])
  refine e.trans ?_;rw[BK (fun _ (x:LY)=>!gM (er x)),VA,<-hl,List.any_map]
  grind
 have q2:aD uK (0,nm,O,X,D,L,())=some (bif m.opens.any (fun s=>!oE s)||m.lets.any (fun x=>!gM x) then 240 else bif bB (nm::O.l)||bB (L.l.map fun x=>x.1) then 241 else 0,()):=by
  have e:=kZ uK (fun k=>(k,nm,O,X,D,L,())) O.l om (fun _ s=>bif !oE s then some (240,()) else none) (bif m.lets.any (fun x=>!gM x) then 240 else bif bB (nm::O.l)||bB (L.l.map fun x=>x.1) then 241 else 0,()) (fun k x hx hk=>by
   have hm:=zv hx;rw[qfu];simp only;rw[dM hx,aK,aU hx,af,z2g x (G.og x (by rw[<-ho];exact hm)).2,af,aB om];simp only[ar];cases oE x<;>rfl) (by
   rw[qfu];simp only;rw[fm,aI,q1])
  refine e.trans ?_;rw[BK (fun _ (s:Tx)=>!oE s),VA,<-ho];cases O.l.any (fun s=>!oE s)<;>rfl
 have hh:EG ((nm,O,X,D,L),())=_:=ac0 nm O X D L;rw[hh,z2g nm hn,af,zdv D (by rw[hd];exact G.dg),Zz X.nil (by rw[hx];exact G.xg)];simp only[af];rw[q2];have a1:aL 60 (ae O.l)=decide (60<m.opens.length):=by rw[ho];exact decide_eq_decide.2 (by unfold ae;omega)
 have a2:aL 200 (ae L.l)=decide (200<m.lets.length):=by rw[<-hl,zG];exact decide_eq_decide.2 (by unfold ae;omega)
 have a3:ag (iD X.l) 0=decide (iD m.fP=0):=by rw[hx];rfl
 have a4:L.l.map (fun x=>x.1)=m.lets.map (fun x=>x.1):=by rw[<-hl,zS];rfl
 rw[a1,a2,a3,a4,ho,hd];unfold vg;simp only[ar];cases oE nm<;>cases decide (60<m.opens.length)<;>cases decide (200<m.lets.length)<;>cases decide (mP m.eV=0)<;>cases decide (mP m.eV=102)<;>cases decide (iD m.fP=0)<;>cases m.opens.any (fun s=>!oE s)<;>cases m.lets.any (fun x=>!gM x)<;>rfl
end
def F6{k:Nat}{α:Type}{l:List α}(h:l.length<=k):aL (k:Int) (ae l)=false:=zo (by unfold ae;omega)
def F7{k:Nat}{α:Type}{l:List α}(h:¬l.length<=k):aL (k:Int) (ae l)=true:=zt (by unfold ae;omega)
section
variable (nm:Tx) (O:Sl Y1) (X:Y3) (D:Sl Y2) (L:Sl Y5)
def zks:∃r,AJ ((nm,⟨true,([]:List (Y1×Int))⟩,D,X,⟨true,([]:List jQ)⟩),())=some (r,())/\(r=true->nm.length<=100/\X.l.length<=70/\(D.l.length<=70/\∀d,d∈D.l->Bl d)/\∀f,f∈X.l->f.1.length<=100):=by
 have hh:AJ ((nm,⟨true,([]:List (Y1×Int))⟩,D,X,⟨true,([]:List jQ)⟩),())=_:=acu nm ⟨true,[]⟩ D X ⟨true,[]⟩;rw[hh];by_cases h1:nm.length<=100
 ·have e1:aL 100 (ae nm)=false:=F6 h1;rw[e1,aI,af,show aL 70 (ae ([]:List (Y1×Int)))=false from rfl,aI];by_cases h2:X.l.length<=70
  ·have e2:aL 70 (ae X.l)=false:=F6 h2;rw[e2,af,aI,show aL 40 (ae ([]:List jQ))=false from rfl,af,aI];obtain⟨r,e,hr⟩:=zkr D;rw[e,af,af];cases r with
   |false=>exact⟨false,rfl,fun h=>by cases h⟩
   |true=>
    have h3:∃r:nq⊕Y8,aD xX (0,nm,⟨true,([]:List (Y1×Int))⟩,D,X,⟨true,([]:List jQ)⟩,())=some r/\(r=.inr (false,())\/(r=.inr (true,())/\∀f,f∈X.l->f.1.length<=100)):=by
     refine J8 (fun k s=>s=((k:Int),nm,⟨true,([]:List (Y1×Int))⟩,D,X,⟨true,([]:List jQ)⟩,())/\oe X.l k fun f=>f.1.length<=100) _ X.l.length ?_ ?_ X.l.length 0 _ (zC _) ⟨rfl,oe.zero⟩
     ·rintro k s hk ⟨rfl,hf⟩;have hx:=zf hk;generalize X.l[k]=x at hx;rw[qjt];simp only;rw[dM hx,aK,aU hx,af];by_cases h:x.1.length<=100
      ·have e4:aL 100 (ae x.1)=false:=F6 h;rw[e4,aI,aB om];exact .inr ⟨_,rfl,rfl,hf.next hx h⟩
      ·have e4:aL 100 (ae x.1)=true:=F7 h;rw[e4,aK]
       grind
     ·rintro s ⟨rfl,hf⟩;have e5:aD K9 (0,nm,⟨true,([]:List (Y1×Int))⟩,D,X,⟨true,([]:List jQ)⟩,())=some (.inr (.inr (true,()))):=bZ rfl;rw[qjt];simp only;rw[fm,aI,e5];exact⟨_,rfl,.inr ⟨rfl,hf.all (Nat.le_refl _)⟩⟩
    obtain⟨r3,e3,hc⟩:=h3;have e6:∀b,r3=.inr (b,())->aD ui (0,nm,⟨true,([]:List (Y1×Int))⟩,D,X,⟨true,([]:List jQ)⟩,())=some (b,()):=fun b hb=>by refine bZ ?_;rw[qsx];simp only;rw[show aL 0 (ae ([]:List (Y1×Int)))=false from rfl,aI,e3,hb]
    show ∃r,aD ui _=_/\_
    grind
  ·have e2:aL 70 (ae X.l)=true:=F7 h2;rw[e2];exact⟨false,rfl,fun h=>by cases h⟩
 ·have e1:aL 100 (ae nm)=true:=F7 h1;rw[e1];exact⟨false,rfl,fun h=>by cases h⟩
def Ka(x:LY):Prop:=x.1.length<=100/\x.2.2.l.length<=60/\TL 100 x.2.2.l
def zi3{i:Nat}{y:LY}(hy:L.l[i]?=some y)(hi:i<=1000)(hl:y.2.2.l.length<=60):∃r,aD xY ((i:Int),0,nm,O,X,D,L,())=some r/\(r=.inr (.inr (false,()))\/(r=.inl (((i+1:Nat):Int),nm,O,X,D,L,())/\TL 100 y.2.2.l)):=by
 refine J8 (fun k s=>s=((i:Int),(k:Int),nm,O,X,D,L,())/\oe y.2.2.l k fun x=>x.2.1.length<=100) _ y.2.2.l.length ?_ ?_ y.2.2.l.length 0 _ (zC _) ⟨rfl,oe.zero⟩
 ·rintro k s hk ⟨rfl,hf⟩;have hx:=zf hk;generalize y.2.2.l[k]=x at hx;rw[qju];simp only;rw[aU hy,af,dM hx,aK,af,aU hx,af];by_cases h:x.2.1.length<=100
  ·have e4:aL 100 (ae x.2.1)=false:=F6 h;rw[e4,aI,aB om];exact .inr ⟨_,rfl,rfl,hf.next hx h⟩
  ·have e4:aL 100 (ae x.2.1)=true:=F7 h;rw[e4,aK]
   grind
 ·rintro s ⟨rfl,hf⟩;rw[qju];simp only;rw[aU hy,af,fm,aI,aB om];exact⟨_,rfl,.inr ⟨rfl,hf.all (Nat.le_refl _)⟩⟩
def zi4(hL:L.l.length<=12):∃r,aD xZ (0,nm,O,X,D,L,())=some r/\(r=.inr (false,())\/(r=.inr (true,())/\∀x,x∈L.l->Ka x)):=by
 refine J8 (fun k s=>s=((k:Int),nm,O,X,D,L,())/\oe L.l k Ka) _ L.l.length ?_ ?_ L.l.length 0 _ (zC _) ⟨rfl,oe.zero⟩
 ·rintro k s hk ⟨rfl,hf⟩;have hx:=zf hk;generalize L.l[k]=x at hx;rw[qjv];simp only;rw[dM hx,aK,aU hx,af];by_cases h:x.1.length<=100
  ·have e4:aL 100 (ae x.1)=false:=F6 h;rw[e4,aI,af];by_cases h2:x.2.2.l.length<=60
   ·have e5:aL 60 (ae x.2.2.l)=false:=F6 h2;rw[e5,af,aI];obtain⟨r,e,hr⟩:=zi3 nm O X D L hx om h2;rw[e];rcases hr with rfl|⟨rfl,h3⟩
    ·grind
    ·exact .inr ⟨_,rfl,rfl,hf.next hx ⟨h,h2,h3⟩⟩
   ·have e5:aL 60 (ae x.2.2.l)=true:=F7 h2;rw[e5,af,aK]
    grind
  ·have e4:aL 100 (ae x.1)=true:=F7 h;rw[e4,aK,af,aK]
   grind
 ·rintro s ⟨rfl,hf⟩;rw[qjv];simp only;rw[fm,aI];exact⟨_,rfl,.inr ⟨rfl,hf.all (Nat.le_refl _)⟩⟩
structure P7:Prop where
 nm:nm.length<=100
 ol:O.l.length<=70
 oo:∀s,s∈O.l->s.length<=100
 xl:X.l.length<=20
 xo:∀f,f∈X.l->f.1.length<=100
 dl:D.l.length<=70
 dd:∀d,d∈D.l->Bl d
 ll:L.l.length<=12
 lt:∀x,x∈L.l->Ka x
def zkt:∃r,Et ((nm,O,X,D,L),())=some (r,())/\(r=true->P7 nm O X D L):=by
 have hh:Et ((nm,O,X,D,L),())=_:=acv nm O X D L;rw[hh];obtain⟨r,e,hr⟩:=zks nm X D;rw[e,af];cases r with
 |false=>exact⟨false,rfl,fun h=>by cases h⟩
 |true=>
  obtain⟨h1,h2,⟨h3,h4⟩,h5⟩:=hr rfl;rw[show aP (ar true) (some true) (some (aL 70 (ae O.l)))=some (aL 70 (ae O.l)) from rfl,af];by_cases h6:O.l.length<=70
  ·have e6:aL 70 (ae O.l)=false:=F6 h6;rw[e6,aI,af];by_cases h7:X.l.length<=20
   ·have e7:aL 20 (ae X.l)=false:=F6 h7;rw[e7,aI,af];by_cases h8:L.l.length<=12
    ·have e8:aL 12 (ae L.l)=false:=F6 h8;rw[e8,aI];obtain⟨r2,g,hg⟩:=zi4 nm O X D L h8;have h9:∃r:Y8,aD x7 (0,nm,O,X,D,L,())=some r/\(r.1=true->(∀s,s∈O.l->s.length<=100)/\∀x,x∈L.l->Ka x):=by
      refine J8 (fun k s=>s=((k:Int),nm,O,X,D,L,())/\oe O.l k fun s=>s.length<=100) _ O.l.length ?_ ?_ O.l.length 0 _ (zC _) ⟨rfl,oe.zero⟩
      ·rintro k s hk ⟨rfl,hf⟩;have hx:=zf hk;generalize O.l[k]=x at hx;rw[qjw];simp only;rw[dM hx,aK,aU hx,af];by_cases h:x.length<=100
       ·have e9:aL 100 (ae x)=false:=F6 h;rw[e9,aI,aB om];exact .inr ⟨_,rfl,rfl,hf.next hx h⟩
       ·have e9:aL 100 (ae x)=true:=F7 h;rw[e9,aK]
        grind
      ·rintro s ⟨rfl,hf⟩;rw[qjw];simp only;rw[fm,aI,g];rcases hg with rfl|⟨rfl,hg⟩
       ·grind
       ·exact⟨_,rfl,fun _=>⟨hf.all (Nat.le_refl _),hg⟩⟩
     obtain⟨⟨r3,u⟩,g3,hc⟩:=h9;exact⟨r3,g3,fun h=>⟨h1,h6,(hc h).1,h7,h5,h3,h4,h8,(hc h).2⟩⟩
    ·have e8:aL 12 (ae L.l)=true:=F7 h8;rw[e8];exact⟨false,rfl,fun h=>by cases h⟩
   ·have e7:aL 20 (ae X.l)=true:=F7 h7;rw[e7];exact⟨false,rfl,fun h=>by cases h⟩
  ·have e6:aL 70 (ae O.l)=true:=F7 h6;rw[e6];exact⟨false,rfl,fun h=>by cases h⟩
end
open Pz
def xp(x:Int):Tx:=if x<0 then [105,110,102,105,120,108] else if 0<x then [105,110,102,105,120,114] else [105,110,102,105,120]
def qx3(x:Int):(xp x).length<=6:=by unfold xp;split;decide;split<;>decide
def Bm(f:ak):Tx:=xp f.2.2++[32]++[48+f.2.1]++[32]++f.1++feed
def zdx{f:ak}(h:f.1.length<=100):(xp f.2.2++[32]).length<=7/\(xp f.2.2++[32]++[48+f.2.1]).length<=8/\(xp f.2.2++[32]++[48+f.2.1]++[32]).length<=9/\(xp f.2.2++[32]++[48+f.2.1]++[32]++f.1).length<=109/\(Bm f).length<=112:=by
 have:=qx3 f.2.2;unfold Bm
 grind
def zdy{l:List ak}{f:ak}{p:ak->Prop}(hl:∀x,x∈l->p x)(hf:p f):∀x,x∈(fV l f).1->p x:=by
 unfold fV;split
 ·intro x hx;cases hx
 split
 ·intro x hx;cases hx
 ·intro x hx;rcases zH.1 ((qpe _ x).1 hx) with h|h
  ·exact hl x (kS.1 h).1
  grind
structure zku (f:ak):Prop where
 ok:gQ f=true
 g:gF f
 len:f.1.length<=100
def zi5{f:ak}(h:gQ f=true):0<=f.2.1/\f.2.1<=9/\-1<=f.2.2/\f.2.2<=1:=by
 unfold gQ at h
 grind
def zi6{x:Int}(h:-1<=x/\x<=1):cM ([([105,110,102,105,120,108]:Y1),([105,110,102,105,120]:Y1),([105,110,102,105,120,114]:Y1)]:List Y1) (cE .i64 x 1)=some (xp x):=by
 rw[Ch om om];have:x=-1\/x=0\/x=1:=om
 rcases this with rfl|rfl|rfl<;>rfl
def zf8{n:Int}(h:0<=n/\n<=9):dV .u8 (cE .i64 48 n)=48+n:=by rw[Ch om om,XM];omega
section
variable (nm:Tx) (O:Sl Y1) (X:Y3) (D:Sl Y2) (L:Sl Y5)
structure All:Prop where
 ol:O.l.length<=100
 oo:∀s,s∈O.l->s.length<=100
 xl:X.l.length<=100
 xx:∀f,f∈X.l->zku f
 dl:D.l.length<=100
 dd:∀d,d∈D.l->rC d
 ll:L.l.length<=100
 lt:∀x,x∈L.l->Vz x
def z5c(H:All O X D L){qp qr:Bool}{A:List ak}(hA:gL A)(he:∀f,f∈A->f.1.length<=100)(s:Tx)(hs:s.length<=300000000):∃(r:Tx) (c:Int),(∀b q,aD pT (⟨qp,A⟩,D,ae D.l,0,nm,O,X,D,L,b,⟨q,s⟩,())=some (.inr (.inr (r,c,()))))/\aD qd (⟨qr,A⟩,feed,s,0,nm,O,X,D,L,())=some (.inr (.inr (r,c,()))):=by
 have hd:=H.dl;have hg:=H.ll;have hf:∀(l:List DD),(∀d,d∈l->rC d)->(l.flatMap (fun d=>vK d++feed)).length<=l.length*1940003:=by
  intro l
  induction l with
  |nil=>intro _;exact Nat.zero_le _
  |cons d r ih=>
   intro h;have:=ih fun x hx=>h x (zh _ hx);have:=z2e (h d (zg ..))
   grind
 have hT:=hf D.l H.dd;have hj:(s++D.l.flatMap (fun d=>vK d++feed)).length<=500000000:=by rw[zd];omega
 have hc:∀b q,∃(r:Tx) (c:Int),aD lY ((⟨qp,A⟩:Y3),L,ae L.l,((0:Nat):Int),b,⟨q,s++D.l.flatMap (fun d=>vK d++feed)⟩,())=some (.inr (.inr (.inr (r,c,()))))/\aD nP ((⟨qr,A⟩:Y3),feed,s++D.l.flatMap (fun d=>vK d++feed),((0:Nat):Int),nm,O,X,D,L,())=some (.inr (.inr (.inr (r,c,())))):=fun b q=>z5a (P:=⟨qp,A⟩) (R:=⟨qr,A⟩) nm O X D L rfl hA he H.lt H.ll L.l.length 0 _ b q (zC _) om;obtain⟨r,c,_,hr⟩:=hc false false;have hp:∀b q,aD lY ((⟨qp,A⟩:Y3),L,ae L.l,0,b,⟨q,s++D.l.flatMap (fun d=>vK d++feed)⟩,())=some (.inr (.inr (.inr (r,c,())))):=fun b q=>by
  obtain⟨r',c',h1,h2⟩:=hc b q
  grind
 refine⟨r,c,fun b q=>?_,?_⟩
 ·exact(qpt (P:=⟨qp,A⟩) (R:=⟨qr,A⟩) D L H.dd H.dl nm O X _ hp hr D.l.length 0 s b q (zC _) (by rw[List.drop_zero]) om).1
 ·exact(qpt (P:=⟨qp,A⟩) (R:=⟨qr,A⟩) D L H.dd H.dl nm O X _ hp hr D.l.length 0 s false false (zC _) (by rw[List.drop_zero]) om).2
def qzh(H:All O X D L):∀(m k:Nat) (s:Tx) (A:List ak) (qp qr b q:Bool),k+m=X.l.length->s.length+m*112<=290000000->gL A->(∀f,f∈A->f.1.length<=100)->(qp=true->A=[])->∃(r:Tx) (c:Int),aD uh (⟨qp,A⟩,X,ae X.l,(k:Int),nm,O,X,D,L,b,⟨q,s⟩,())=some (.inr (r,c,()))/\aD uV (⟨qr,A⟩,feed,s,(k:Int),nm,O,X,D,L,())=some (.inr (r,c,())):=by
 have hg:=H.xl;intro m
 induction m with
 |zero=>
  intro k s A qp qr b q hk hs hA hc hq;obtain⟨r,c,h1,h2⟩:=z5c nm O X D L H (qp:=qp) (qr:=qr) hA hc s om;refine⟨r,c,bZ ?_,bZ ?_⟩
  ·rw[qf1];simp only;rw[show ae X.l=((X.l.length:Nat):Int) from rfl,bD,if_neg om];exact h1 b q
  ·rw[qhm];simp only;rw[show ae X.l=((X.l.length:Nat):Int) from rfl,bD,if_neg om];exact h2
 |succ m ih=>
  intro k s A qp qr b q hk hs hA hc hq;have he:k<X.l.length:=om
  have hx:=zf he;have hf:=H.xx _ (List.getElem_mem he);generalize X.l[k]=f at hx hf;obtain⟨t,lv,sd⟩:=f;have hj:t.length<=100:=hf.len;obtain⟨z1,z2,z3,z4,z5⟩:=zdx (f:=(t,lv,sd)) hf.len;have z1:(xp sd++[32]).length<=7:=z1;have z2:(xp sd++[32]++[48+lv]).length<=8:=z2;have z3:(xp sd++[32]++[48+lv]++[32]).length<=9:=z3;have z4:(xp sd++[32]++[48+lv]++[32]++t).length<=109:=z4;have z6:=qx3 sd;have so:=zi5 hf.ok;have so:0<=lv/\lv<=9/\-1<=sd/\sd<=1:=so;obtain⟨p1,e1,g1⟩:=zcz qp hA hq (t,lv,sd) hf.g (by show t.length<=_;omega);obtain⟨p2,e2⟩:=zah qr hA (t,lv,sd) hf.g (by show t.length<=_;omega);obtain⟨q2,ew⟩:=qnc (Bm (t,lv,sd)) b q s om;obtain⟨r,c,i1,i2⟩:=ih (k+1) (s++Bm (t,lv,sd)) (fV A (t,lv,sd)).1 p1 p2 true q2 om (by rw[zd];omega) (zh9 hA hf.g (by show t.length<=_;omega)) (zdy hc hf.len) g1;have s1:uh (⟨qp,A⟩,X,ae X.l,(k:Int),nm,O,X,D,L,b,⟨q,s⟩,())=some (.inl (⟨p1,(fV A (t,lv,sd)).1⟩,X,ae X.l,((k+1:Nat):Int),nm,O,X,D,L,true,⟨q2,s++Bm (t,lv,sd)⟩,())):=by rw[qf1];simp only;rw[dM hx,aK,aU hx,af];simp only;rw[zi6 ⟨so.2.2.1,so.2.2.2⟩,af,zf8 ⟨so.1,so.2.1⟩];simp only[dK];rw[bI (by show _+1<=_;omega),bI (by show _+1<=_;omega),bI (by show _+1<=_;omega),bI om,bI (by show _+3<=_;omega)];have ew:gX (xp sd++[32]++[48+lv]++[32]++t++[59,59,10],b,⟨q,s⟩,())=_:=ew;rw[ew,af];simp only;rw[e1,af];simp only;rw[aB om]
  have s2:uV (⟨qr,A⟩,feed,s,(k:Int),nm,O,X,D,L,())=some (.inl (⟨p2,(fV A (t,lv,sd)).1⟩,feed,s++Bm (t,lv,sd),((k+1:Nat):Int),nm,O,X,D,L,())):=by
   rw[qhm];simp only;rw[dM hx,aK,aU hx,af];simp only;have w:(az (aP (aL sd 0) (some ((⟨qr,A⟩:Y3),feed,s,(k:Int),([105,110,102,105,120,108]:Y1),nm,O,X,D,L,t,lv,sd,())) (some ((⟨qr,A⟩:Y3),feed,s,(k:Int),([105,110,102,105,120]:Y1),nm,O,X,D,L,t,lv,sd,()))) fun x8=>aP (aL 0 x8.2.2.2.2.2.2.2.2.2.2.2.2.1) (some (x8.1,x8.2.1,x8.2.2.1,x8.2.2.2.1,([105,110,102,105,120,114]:Y1),x8.2.2.2.2.2.1,x8.2.2.2.2.2.2.1,x8.2.2.2.2.2.2.2.1,x8.2.2.2.2.2.2.2.2.1,x8.2.2.2.2.2.2.2.2.2.1,x8.2.2.2.2.2.2.2.2.2.2.1,x8.2.2.2.2.2.2.2.2.2.2.2.1,x8.2.2.2.2.2.2.2.2.2.2.2.2.1,())) (some (x8.1,x8.2.1,x8.2.2.1,x8.2.2.2.1,x8.2.2.2.2.1,x8.2.2.2.2.2.1,x8.2.2.2.2.2.2.1,x8.2.2.2.2.2.2.2.1,x8.2.2.2.2.2.2.2.2.1,x8.2.2.2.2.2.2.2.2.2.1,x8.2.2.2.2.2.2.2.2.2.2.1,x8.2.2.2.2.2.2.2.2.2.2.2.1,x8.2.2.2.2.2.2.2.2.2.2.2.2.1,())))=some ((⟨qr,A⟩:Y3),feed,s,(k:Int),xp sd,nm,O,X,D,L,t,lv,sd,()):=by
    have:sd=-1\/sd=0\/sd=1:=om
    rcases this with rfl|rfl|rfl<;>rfl
   rw[<-zhh,w,af];simp only;rw[zf8 ⟨so.1,so.2.1⟩];simp only[dK];rw[bI (by show _+1<=_;omega),bI (by show _+1<=_;omega),bI (by show _+1<=_;omega),bI om,bI (by show _+3<=_;omega)];have z7:(xp sd++[32]++[48+lv]++[32]++t++feed).length<=112:=z5;rw[bI om,e2,af];simp only;rw[aB om];rfl
  exact⟨r,c,by rw[cU s1];exact i1,by rw[cU s2];exact i2⟩
def RC(s:Tx):Tx:=[111,112,101,110,32]++s++feed
def qzi(H:All O X D L){fp fr:Bool}{A:List ak}(hA:gL A)(he:∀f,f∈A->f.1.length<=100)(hg:fp=true->A=[]):∀(m k:Nat) (s:Tx) (b q:Bool),k+m=O.l.length->s.length+m*108<=200000000->∃(r:Tx) (c:Int),aD pU (⟨fp,A⟩,O,ae O.l,(k:Int),nm,O,X,D,L,b,⟨q,s⟩,())=some (r,c,())/\aD uW (⟨fr,A⟩,feed,s,(k:Int),nm,O,X,D,L,())=some (r,c,()):=by
 have hl:=H.ol;have hm:=H.xl;intro m
 induction m with
 |zero=>
  intro k s b q hk hs;obtain⟨q1,hc,hj⟩:=z9f fp A hA.2.2 hg;obtain⟨r,c,h1,h2⟩:=qzh nm O X D L H X.l.length 0 s A q1 fr b q (zC _) om hA he hj;refine⟨r,c,bZ ?_,bZ ?_⟩
  ·rw[qf2];simp only;rw[show ae O.l=((O.l.length:Nat):Int) from rfl,bD,if_neg om,hc,af];exact h1
  ·rw[qhn];simp only;rw[show ae O.l=((O.l.length:Nat):Int) from rfl,bD,if_neg om];exact h2
 |succ m ih=>
  intro k s b q hk hs;have hf:k<O.l.length:=om
  have hx:=zf hf;have ho:=H.oo _ (List.getElem_mem hf);generalize O.l[k]=o at hx ho;have z1:([111,112,101,110,32]++o).length<=105:=by rw[zd];show 5+_<=_;omega
  have z2:(RC o).length<=108:=by unfold RC;rw[zd];show _+3<=_;omega
  have z3:([111,112,101,110,32]++o++feed).length<=108:=z2;obtain⟨q2,ew⟩:=qnc (RC o) b q s om;obtain⟨r,c,i1,i2⟩:=ih (k+1) (s++RC o) true q2 om (by rw[zd];omega);have s1:pU (⟨fp,A⟩,O,ae O.l,(k:Int),nm,O,X,D,L,b,⟨q,s⟩,())=some (.inl (⟨fp,A⟩,O,ae O.l,((k+1:Nat):Int),nm,O,X,D,L,true,⟨q2,s++RC o⟩,())):=by rw[qf2];simp only;rw[dM hx,aK,aU hx,af];simp only[dK];rw[bI (by show 5+_<=_;omega),bI (by show _+3<=_;omega)];have ew:gX ([111,112,101,110,32]++o++[59,59,10],b,⟨q,s⟩,())=_:=ew;rw[ew,af];simp only;rw[aB om]
  have s2:uW (⟨fr,A⟩,feed,s,(k:Int),nm,O,X,D,L,())=some (.inl (⟨fr,A⟩,feed,s++RC o,((k+1:Nat):Int),nm,O,X,D,L,())):=by rw[qhn];simp only;rw[dM hx,aK,aU hx,af];simp only[dK];rw[bI (by show 5+_<=_;omega),bI (by show _+3<=_;omega),bI om,aB om];rfl
  exact⟨r,c,by rw[cU s1];exact i1,by rw[cU s2];exact i2⟩
end
open Pz
def zkv{d:DD}(h:rz d=true)(hf:Bl d):rC d:=by unfold rz at h;simp only[ze,zL] at h;obtain⟨_,h1,h2,h3,h4,h5⟩:=h;have h1:0<=d.2.1:=zI h1;have h2:d.2.1<=8:=zI h2;have h4:((d.2.2.l.length:Nat):Int)<=60:=zI h4;obtain⟨f1,f2,f3⟩:=hf;refine⟨f1,h1,h2,by omega,fun c hc=>?_⟩;have a:=h5 c hc;obtain⟨g1,g2,g3⟩:=f3 c hc;unfold F1 at a;simp only[ze,zL] at a;obtain⟨_,a1,a2⟩:=a;have a1:((c.2.l.length:Nat):Int)<=8:=zI a1;exact⟨g1,by omega,fun t ht=>⟨a2 t ht,(g3 t ht).2,(g3 t ht).1⟩⟩
def zdz{L:List DD}(h:mP L=0\/mP L=102):∀d,d∈L->rz d=true:=by
 unfold mP at h;cases h1:L.all rz with
 |true=>exact fun d hd=>zL.1 h1 d hd
 |false=>grind
def ze0{nm:Tx}{m:MX}(h:vg nm m=0):(mP m.eV=0\/mP m.eV=102)/\iD m.fP=0:=by
 unfold vg at h;cases h1:(!oE nm||(decide (60<m.opens.length)||(decide (200<m.lets.length)||((m.opens.any fun s=>!oE s)||m.lets.any fun x=>!gM x)))) with
 |true=>rw[h1] at h;cases h
 |false=>
  rw[h1,cond_false] at h;cases h2:(!(decide (mP m.eV=0)||decide (mP m.eV=102))||!decide (iD m.fP=0)) with
  |true=>rw[h2] at h;cases h
  |false=>grind
def RD(s:Tx):Prop:=∀b,b∈s->0<=b/\b<=255
def ndG(t:List ND):Prop:=∀x,x∈t->PA x\/1000000<x.2.1.length
structure Kb (nm:Tx) (O:List Tx) (X:List ak) (D:List DD) (L:List LY):Prop where
 n:RD nm
 o:∀s,s∈O->RD s
 x:∀f,f∈X->gF f
 d:∀d,d∈D->RD d.1/\∀c,c∈d.2.2.l->RD c.1/\∀t,t∈c.2.l->ndG t.l
 l:∀x,x∈L->RD x.1/\ndG x.2.2.l
def zap{t:List ND}(h:ndG t){N:Nat}(hN:N<=1000000)(ht:TL N t):GL t:=fun x hx=>(h x hx).elim id fun e=>by have:=ht x hx;omega
section
variable {nm:Tx} {O:Sl Y1} {X:Y3} {D:Sl Y2} {L:Sl Y5}
def zkw(g:Kb nm O.l X.l D.l L.l)(f:P7 nm O X D L):GM ⟨O.l,X.l,D.l,L.l.map er⟩:=by
 have h1:=f.ol;have h2:=f.ll;have h3:=f.dl;have h4:=f.xl;refine⟨by show O.l.length<=1000;omega,by show(L.l.map er).length<=1000;rw[zG];omega,fun s hs=>⟨g.o s hs,?_⟩,⟨by show D.l.length<=1000;omega,fun d hd=>?_⟩,⟨g.x,fun x hx=>?_,by show X.l.length<=_;omega⟩,fun y hy=>?_⟩
 ·have:=f.oo s hs;omega
 ·obtain⟨e1,e2⟩:=g.d d hd;obtain⟨f1,f2,f3⟩:=f.dd d hd;refine⟨⟨e1,by omega⟩,by omega,fun c hc=>?_⟩;obtain⟨e3,e4⟩:=e2 c hc;obtain⟨f4,f5,f6⟩:=f3 c hc;refine⟨⟨e3,by omega⟩,by omega,fun t ht=>?_⟩;obtain⟨f7,f8⟩:=f6 t ht;exact⟨zap (e4 t ht) dc f8,by omega⟩
 ·have:=f.xo x hx;omega
 ·obtain⟨x,hx,rfl⟩:=zV.1 hy;obtain⟨e1,e2⟩:=g.l x hx;obtain⟨f1,f2,f3⟩:=f.lt x hx;exact⟨⟨e1,by show x.1.length<=_;omega⟩,zap e2 dc f3,by show x.2.2.l.length<=_;omega⟩
def zjy(g:Kb nm O.l X.l D.l L.l)(f:P7 nm O X D L)(hz:vg nm ⟨O.l,X.l,D.l,L.l.map er⟩=0):All O X D L:=by obtain⟨z1,z2⟩:=ze0 hz;have h1:=f.ol;have h2:=f.ll;have h3:=f.dl;have h4:=f.xl;refine⟨by omega,f.oo,by omega,fun x hx=>⟨qwu z2 x hx,g.x x hx,f.xo x hx⟩,by omega,fun d hd=>zkv (zdz z1 d hd) (f.dd d hd),by omega,fun x hx=>?_⟩;obtain⟨e1,e2⟩:=g.l x hx;obtain⟨f1,f2,f3⟩:=f.lt x hx;exact⟨e1,f1,f2,f3,zap e2 dc f3⟩
end
def zjz{α:Type}(t:Bool)(n:Bool)(l:List ak)(x:Option (Bool×Unit))(hx:x=some (t,()))(X Y:Option α):∃r:Bool,(r=true->t=true/\l.length<=20/\∀x,x∈l->x.1.length<=20)/\az (aP (ar true) (some true) (az x (fun x1=>some (ar x1.1)))) (fun x2=>az (aP x2 (some true) (az (Tt (⟨n,l⟩,())) (fun x3=>some (ar x3.1)))) (fun x4=>aP x4 X Y))=if r=true then Y else X:=by
 obtain⟨r,h1,h2⟩:=zdb n l;rw[h1,hx];cases t with
 |false=>exact⟨false,(fun h=>by cases h),rfl⟩
 |true=>
  cases r with
  |true=>exact⟨true,fun _=>⟨rfl,h2 rfl⟩,rfl⟩
  |false=>exact⟨false,(fun h=>by cases h),rfl⟩
def n0:ar false=true:=rfl
def n1:ar true=false:=rfl
def e0z:ag 0 0=true:=rfl
def zi7:az (Rj ()) (fun x4=>some (x4.1,()))=some (true,()):=by rw[z0y];rfl
def Bn(nm:Tx)(O:Sl Y1)(X:Y3)(D:Sl Y2)(L:Sl Y5)(n:Bool)(l:List ak)(g:Kb nm O.l X.l D.l L.l)(hg:∀x,x∈l->gF x):cA ((nm,O,X,D,L),⟨n,l⟩,())=some (true,()):=by
 have hh:cA ((nm,O,X,D,L),⟨n,l⟩,())=_:=qmr nm O X D L ⟨n,l⟩;rw[hh,zi7,z0y,af];simp only;obtain⟨t,ht,hf⟩:=zkt nm O X D L;obtain⟨r,h1,h2⟩:=zjz t n l _ ht (some (true,())) _;refine Eq.trans h2 ?_;cases r with
 |false=>rw[if_neg dc]
 |true=>
  rw[if_pos rfl];obtain⟨k1,k4,k5⟩:=h1 rfl;have F:=hf k1;have G:=zkw g F;have gl:=zkp hg k4 k5;have hc:=zd9 nm ⟨g.n,by have:=F.nm;omega⟩ O X D L ⟨O.l,X.l,D.l,L.l.map er⟩ rfl rfl rfl rfl G;have hr:=zdw nm O X D L ⟨O.l,X.l,D.l,L.l.map er⟩ rfl rfl rfl rfl (by have:=F.nm;omega) G (fun x hx=>(F.lt x hx).2.1);rw[z4l n l k4,af];simp only;rw[hr,hc];have hS:w7 ((nm,O,X,D,L),⟨false,l⟩,())=_:=acr nm O X D L ⟨false,l⟩;rw[hS,hc];simp only[af];by_cases hz:vg nm ⟨O.l,X.l,D.l,L.l.map er⟩=0
  ·have A:=zjy g F hz;rw[hz,Rn false gl];simp only[af,n1,aI,e0z,aK];rw[Zz n gl];simp only[af];by_cases hk:iD l=0
   ·rw[hk];simp only[e0z,n1,aI];have he:=A.ol;obtain⟨r,c,j1,j2⟩:=qzi nm O X D L A (fp:=false) (fr:=n) (A:=l) gl (fun f h=>by have:=k5 f h;omega) (fun h=>by cases h) O.l.length 0 [] false true (zC _) (by show 0+_<=_;omega);have j1:aD pU (⟨false,l⟩,O,ae O.l,0,nm,O,X,D,L,false,⟨true,[]⟩,())=some (r,c,()):=j1;have e3:EL ((nm,O,X,D,L),⟨n,l⟩,())=some (r,c,()):=by have e:EL ((nm,O,X,D,L),⟨n,l⟩,())=_:=adp nm O X D L ⟨n,l⟩;rw[e,bI dc];exact j2
    rw[j1,af];simp only;rw[e3,af];simp only;rw[GF,GC];rfl
   ·rw[eB hk];simp only[n0,aK,af];rw[GC];rfl
  ·rw[eB hz];simp only[n0,aK,aI,af];rw[GC,eB hz];rfl
abbrev NDt:Ty:=.st (.pair (.int .i64) (.pair .str (.pair (.int .i64) (.int .i64))))
abbrev DTt:Ty:=.st (.pair .str (.pair (.int .i64) (.sl (.st (.pair .str (.sl (.sl NDt)))))))
abbrev LTt:Ty:=.st (.pair .str (.pair .bool (.sl NDt)))
abbrev FXt:Ty:=.st (.pair .str (.pair (.int .i64) (.int .i64)))
abbrev MDt:Ty:=.st (.pair .str (.pair (.sl .str) (.pair (.sl FXt) (.pair (.sl DTt) (.sl LTt)))))
def RE{s:List Int}(h:mA .str s):RD s:=fun b hb=>by have:=h.2 b hb;omega
def yB{x:ak}(h:mA FXt x):gF x:=by obtain⟨⟨h2,h3⟩,h1,h4⟩:=h;exact⟨fun b hb=>by have:=h3 b hb;omega,h2,mV.1 h1,mV.1 h4⟩
def z2h{l:Sl ND}(h:mA (.sl NDt) l):ndG l.l:=fun x hx=>by
 obtain⟨_,h2,h3,_⟩:=h.2.2 x hx;by_cases hl:x.2.1.length<=1000000
 ·exact .inl ⟨RE h2,hl,mV.1 h3⟩
 ·exact .inr om
def Fk{nm:Tx}{O:Sl Tx}{X:Sl ak}{D:Sl DD}{L:Sl LY}(h:mA MDt (nm,O,X,D,L)):Kb nm O.l X.l D.l L.l:=by
 obtain⟨h1,h2,h3,h4,h5⟩:=h;refine⟨RE h1,fun s hs=>RE (h2.2.2 s hs),fun f hf=>yB (h3.2.2 f hf),fun d hd=>?_,fun x hx=>?_⟩
 ·obtain⟨g1,_,g3⟩:=h4.2.2 d hd;refine⟨RE g1,fun c hc=>?_⟩;obtain⟨k1,k2⟩:=g3.2.2 c hc;exact⟨RE k1,fun t ht=>z2h (k2.2.2 t ht)⟩
 ·obtain⟨g1,_,g3⟩:=h5.2.2 x hx;exact⟨RE g1,z2h g3⟩
end Fn
end Ev