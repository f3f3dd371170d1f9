/- Documents in plain words; both texts make these; the laws as data. No statement of its own about the program. -/
import Derived.Test.YtakmoaimmdheeaaGreatDoorPlainC
namespace Ev
open Go Ieee
namespace Fn
theorem UU{n:Nat}(h0:0<n)(h:n<2 ^ 53):n.log2<=52:=by have:=(Nat.log2_lt om).2 h;omega
theorem UW(neg:Bool)(n:Nat):Toward.even.cut neg n 0=n:=by simp[Toward.cut,Nat.mod_one]
theorem qm8{m:Nat}{p:Int}(h0:0<m)(hm:(m.log2:Int)+p<=52)(hp:0<=(m.log2:Int)+p)(hd:m.log2<=52):Ieee.double.nearest false m p=(m.log2+p+1022).toNat*2 ^ 52+m*2 ^ (52-m.log2):=by
 have e1:Ieee.double.leastPlace=-1074:=dc
 have e2:Ieee.double.binade=2 ^ 52:=rfl;have e3:(Ieee.double.fractionBits:Int)=52:=rfl;have e4:Ieee.double.infRung=2047*2 ^ 52:=dc
 unfold Format.nearest;rw[if_neg om,e1,e2,e3,e4];have l1:max (p+(m.log2:Int)-52) (-1074)=p+m.log2-52:=om
 simp only[l1];have l2:(p-(p+(m.log2:Int)-52)).toNat=52-m.log2:=om
 have l3:(p+(m.log2:Int)-52-p).toNat=0:=om
 have l4:(p+(m.log2:Int)-52- -1074).toNat=(m.log2+p+1022).toNat:=om
 rw[l2,l3,l4,UW,Nat.shiftLeft_eq];unfold Format.word;simp only[Bool.false_eq_true,if_false];have hc:m<2 ^ (m.log2+1):=Nat.lt_log2_self;have hk:m*2 ^ (52-m.log2)<2 ^ 53:=by
  calc m*2 ^ (52-m.log2)<2 ^ (m.log2+1)*2 ^ (52-m.log2):=Nat.mul_lt_mul_of_pos_right hc (Nat.two_pow_pos _)
   _=2 ^ 53:=by rw[<-Nat.pow_add];congr 1;omega
 have hx:(m.log2+p+1022).toNat<=1074:=om
 apply Nat.min_eq_left;generalize (m.log2+p+1022).toNat=x at*
 generalize m*2 ^ (52-m.log2)=k at*
 omega
theorem z8z{m:Nat}(h0:0<m)(hd:m.log2<=52):2 ^ 52<=m*2 ^ (52-m.log2)/\m*2 ^ (52-m.log2)<2 ^ 53:=by
 have hc:m<2 ^ (m.log2+1):=Nat.lt_log2_self;have he:2 ^ m.log2<=m:=Nat.log2_self_le om;constructor
 ·calc 2 ^ 52=2 ^ m.log2*2 ^ (52-m.log2):=by rw[<-Nat.pow_add];congr 1;omega
   _<=m*2 ^ (52-m.log2):=Nat.mul_le_mul_right _ he
 ·calc m*2 ^ (52-m.log2)<2 ^ (m.log2+1)*2 ^ (52-m.log2):=Nat.mul_lt_mul_of_pos_right hc (Nat.two_pow_pos _)
   _=2 ^ 53:=by rw[<-Nat.pow_add];congr 1;omega
theorem qp1{n:Nat}(h0:0<n)(h:n<2 ^ 53):Ieee.double.read (Ieee.double.nearest false n 0)=.number false (n*2 ^ (52-n.log2)) ((n.log2:Int)-52):=by
 have hd:=UU h0 h;rw[qm8 h0 om om hd];obtain⟨k1,k2⟩:=z8z h0 hd;have e1:Ieee.double.leastPlace=-1074:=dc
 have e2:Ieee.double.binade=2 ^ 52:=rfl;have e4:Ieee.double.infRung=2047*2 ^ 52:=dc
 have e5:Ieee.double.signWeight=2 ^ 63:=dc
 have e6:((n.log2:Int)+0+1022).toNat=n.log2+1022:=om
 rw[e6];unfold Format.read;rw[e1,e2,e4,e5];generalize hk:n*2 ^ (52-n.log2)=k at*
 have w1:((n.log2+1022)*2 ^ 52+k)<2 ^ 63:=om
 have w2:((n.log2+1022)*2 ^ 52+k) / 2 ^ 63=0:=Nat.div_eq_of_lt w1;have w3:((n.log2+1022)*2 ^ 52+k) % 2 ^ 63=(n.log2+1022)*2 ^ 52+k:=Nat.mod_eq_of_lt w1;simp only[w2,w3];rw[if_neg om,if_pos om];have w4:((n.log2+1022)*2 ^ 52+k) % 2 ^ 52=k-2 ^ 52:=om
 have w5:((n.log2+1022)*2 ^ 52+k) / 2 ^ 52=n.log2+1023:=om
 rw[w4,w5];have a1:2 ^ 52+(k-2 ^ 52)=k:=om
 have a2:(-1074:Int)+((n.log2+1023-1:Nat):Int)=n.log2-52:=om
 rw[a1,a2];rfl
theorem z90{a k:Nat}(h:0<a):(a*2 ^ k).log2=a.log2+k:=by
 have h1:=Nat.log2_self_le (n:=a) om;have h2:a<2 ^ (a.log2+1):=Nat.lt_log2_self;have hp:=Nat.two_pow_pos k;have hc:a*2 ^ k≠0:=by intro e;rcases Nat.mul_eq_zero.1 e with e|e<;>omega
 apply(Nat.log2_eq_iff hc).2;constructor
 ·rw[Nat.pow_add];exact Nat.mul_le_mul_right _ h1
 ·calc a*2 ^ k<2 ^ (a.log2+1)*2 ^ k:=Nat.mul_lt_mul_of_pos_right h2 hp
   _=2 ^ (a.log2+k+1):=by rw[<-Nat.pow_add];congr 1;omega
theorem qm9{n k:Nat}(h0:0<n)(h:n<2 ^ 53):Ieee.double.nearest false (n*2 ^ k) (-(k:Int))=Ieee.double.nearest false n 0:=by
 have hd:=UU h0 h;have hl:=z90 (a:=n) (k:=k) h0;have e1:Ieee.double.leastPlace=-1074:=dc
 have e3:(Ieee.double.fractionBits:Int)=52:=rfl;have hp:=Nat.two_pow_pos k;have hf:¬n*2 ^ k=0:=by intro e;rcases Nat.mul_eq_zero.1 e with e|e<;>omega
 unfold Format.nearest;rw[if_neg hf,if_neg om,hl,e1,e3];have l1:max (-(k:Int)+((n.log2+k:Nat):Int)-52) (-1074)=n.log2-52:=om
 have l2:max ((0:Int)+(n.log2:Int)-52) (-1074)=n.log2-52:=om
 simp only[l1,l2];congr 1;congr 1;congr 1;have r1:((0:Int)-((n.log2:Int)-52)).toNat=52-n.log2:=om
 have r2:(((n.log2:Int)-52)-0).toNat=0:=om
 rw[r1,r2,UW];by_cases hc:k+n.log2<=52
 ·have r3:(-(k:Int)-((n.log2:Int)-52)).toNat=52-n.log2-k:=om
  have r4:((n.log2:Int)-52- -(k:Int)).toNat=0:=om
  rw[r3,r4,UW,Nat.shiftLeft_eq,Nat.shiftLeft_eq,Nat.mul_assoc,<-Nat.pow_add];congr 2;omega
 ·have r3:(-(k:Int)-((n.log2:Int)-52)).toNat=0:=om
  have r4:((n.log2:Int)-52- -(k:Int)).toNat=k-(52-n.log2):=om
  rw[r3,r4,Nat.shiftLeft_zero,Nat.shiftLeft_eq];have hg:k=(52-n.log2)+(k-(52-n.log2)):=om
  generalize hj:k-(52-n.log2)=d at*
  have e:n*2 ^ k=n*2 ^ (52-n.log2)*2 ^ d:=by rw[Nat.mul_assoc,<-Nat.pow_add,<-hg]
  unfold Toward.cut;have he:min d ((n*2 ^ k).log2+2)=d:=by rw[hl];omega
  simp only[he];rw[Nat.one_shiftLeft,e,Nat.mul_div_cancel _ (Nat.two_pow_pos d),Nat.mul_mod_left];have hk:=Nat.two_pow_pos d;have a1:decide (2 ^ d<2*0)=false:=by simp
  have a2:(2 ^ d==2*0)=false:=by simp
  simp only[a1,a2,Bool.false_and,Bool.or_false];rfl
theorem z03(n:Nat):cR (n:Int)=Ieee.double.nearest false n 0:=by
 unfold cR FloatKind.nearest FloatKind.encode FloatKind.format Format.write;have:decide ((n:Int)<0)=false:=by simp
 simp only[this,Int.natAbs_natCast]
theorem l7:cR 0=0:=dc
theorem z49{n:Nat}(h:n<2 ^ 53):∃m k:Nat,Ieee.double.read (cR n)=.number false m (-(k:Int))/\m=n*2 ^ k/\k<=52\/(n=0/\Ieee.double.read (cR n)=.number false 0 (-1074)):=by
 by_cases h0:n=0
 ·subst h0;exact⟨0,0,.inr ⟨rfl,by decide⟩⟩
 ·have h0:0<n:=om
  have hd:=UU h0 h;refine⟨n*2 ^ (52-n.log2),52-n.log2,.inl ⟨?_,rfl,by omega⟩⟩;rw[z03,qp1 h0 h];congr 1;omega
theorem qfh(p:Int):Ieee.double.nearest false 0 p=0:=by simp[Format.nearest,Format.word]
theorem zaz{a b:Nat}{p q:Nat}:Datum.sum (.number false (a*2 ^ p) (-(p:Int))) (.number false (b*2 ^ q) (-(q:Int)))=some (.number false ((a+b)*2 ^ max p q) (-((max p q:Nat):Int))):=by
 unfold Datum.sum;have hb:min (-(p:Int)) (-(q:Int))=-((max p q:Nat):Int):=om
 simp only[hb];have h1:(-(p:Int)- -((max p q:Nat):Int)).toNat=max p q-p:=om
 have h2:(-(q:Int)- -((max p q:Nat):Int)).toNat=max p q-q:=om
 rw[h1,h2];unfold signed;simp only[Bool.false_eq_true,if_false,Nat.shiftLeft_eq];have e1:a*2 ^ p*2 ^ (max p q-p)=a*2 ^ max p q:=by rw[Nat.mul_assoc,<-Nat.pow_add];congr 2;omega
 have e2:b*2 ^ q*2 ^ (max p q-q)=b*2 ^ max p q:=by rw[Nat.mul_assoc,<-Nat.pow_add];congr 2;omega
 rw[e1,e2];have e3:((a*2 ^ max p q:Nat):Int)+((b*2 ^ max p q:Nat):Int)=(((a+b)*2 ^ max p q:Nat):Int):=by rw[Nat.add_mul];rfl
 rw[e3];have e4:decide ((((a+b)*2 ^ max p q:Nat):Int)<0)=false:=by apply zn;omega
 simp only[e4,Int.natAbs_natCast,Bool.and_self,ite_self]
theorem z4a{a b:Nat}{p q:Nat}:Datum.order (.number false (a*2 ^ p) (-(p:Int))) (.number false (b*2 ^ q) (-(q:Int)))=some (compare a b):=by
 unfold Datum.order;have hb:min (-(p:Int)) (-(q:Int))=-((max p q:Nat):Int):=om
 simp only[hb];have h1:(-(p:Int)- -((max p q:Nat):Int)).toNat=max p q-p:=om
 have h2:(-(q:Int)- -((max p q:Nat):Int)).toNat=max p q-q:=om
 rw[h1,h2];unfold signed;simp only[Bool.false_eq_true,if_false,Nat.shiftLeft_eq];have e1:a*2 ^ p*2 ^ (max p q-p)=a*2 ^ max p q:=by rw[Nat.mul_assoc,<-Nat.pow_add];congr 2;omega
 have e2:b*2 ^ q*2 ^ (max p q-q)=b*2 ^ max p q:=by rw[Nat.mul_assoc,<-Nat.pow_add];congr 2;omega
 rw[e1,e2];generalize max p q=k;congr 1;have hk:=Nat.two_pow_pos k;rcases Nat.lt_trichotomy a b with h|h|h
 ·rw[Nat.compare_eq_lt.2 h];rw[Int.compare_eq_lt];exact Int.ofNat_lt.2 (Nat.mul_lt_mul_of_pos_right h hk)
 ·subst h;rw[Nat.compare_eq_eq.2 rfl,Int.compare_eq_eq]
 ·rw[Nat.compare_eq_gt.2 h];rw[Int.compare_eq_gt];exact Int.ofNat_lt.2 (Nat.mul_lt_mul_of_pos_right h hk)
theorem far:∃p:Nat,(p:Int)=1074:=⟨1074,rfl⟩
theorem Oq{n:Nat}(h:n<2 ^ 53):∃p:Nat,Ieee.double.read (cR n)=.number false (n*2 ^ p) (-(p:Int)):=by
 obtain⟨m,k,h1|⟨h1,h2⟩⟩:=z49 h
 ·exact⟨k,by rw[h1.1,h1.2.1]⟩
 ·obtain⟨p,hp⟩:=far;exact⟨p,by rw[h2,h1,Nat.zero_mul,hp]⟩
theorem Ot{n m:Nat}(h:n+m<2 ^ 53):ic (cR n) (cR m)=some (cR ((n+m:Nat):Int)):=by
 obtain⟨p,hp⟩:=Oq (n:=n) om;obtain⟨q,hq⟩:=Oq (n:=m) om;unfold ic Format.add;rw[hp,hq,zaz];simp only[Option.map_some,zE];show Ieee.double.nearest false ((n+m)*2 ^ max p q) (-((max p q:Nat):Int))=_;rw[z03];by_cases h0:n+m=0
 ·rw[h0,Nat.zero_mul,qfh,qfh]
 ·exact qm9 om h
theorem z91{n m:Nat}(hn:n<2 ^ 53)(hm:m<2 ^ 53):C4 (cR n) (cR m)=decide (n<=m):=by
 obtain⟨p,hp⟩:=Oq hn;obtain⟨q,hq⟩:=Oq hm;unfold C4 Format.order;rw[hp,hq,z4a];rcases Nat.lt_trichotomy n m with h|h|h
 ·rw[Nat.compare_eq_lt.2 h,zu om];rfl
 ·rw[Nat.compare_eq_eq.2 h,zu om];rfl
 ·rw[Nat.compare_eq_gt.2 h,zn om];rfl
end Fn
end Ev
namespace Ev
open Go
namespace Fn
def cq(s:Tx):F:=tr 41 s 0 .nil
def cB:F:=tr 42 [] 0 .nil
def bD:List F->F
 |[]=>.nil
 |d::l=>d.app (bD l)
def yS(l:List F):F:=tr 45 [] 0 (bD l)
def yT:List F->F
 |[d]=>d
 |l=>yS l
def kJ(l:List F):F:=tr 43 [] 2 (yT l)
def fD(l:List F):F:=tr 44 [] 0 (yT l)
def cm(d:F):F:=kJ [cB,d]
def nI(s:Tx):Tx:=bif da s then [40]++s++[41] else s
def fi(n:Int):Tx:=gO (kS n)
def gD(n:Int):Int:=if n<10 then 48+n else 87+n
def eB(c:Int):Tx:=if c=34\/c=92 then [92,c] else if c=10 then [92,110] else if c<32\/126<c then [92,120,gD (c / 16),gD (c % 16)] else [c]
def sK(s:Tx):Tx:=[34]++s.flatMap eB++[34]
def sL(qs:List (Tx×Tx)):Tx:=qs.flatMap fun q=>[32]++q.2
def cy(k:Int)(t:Tx)(n:Int)(qs:List (Tx×Tx)):Tx:=if k=21 then [95] else if k=22 then nI t else if k=23 then fi n else t++sL qs
def gp(k:Int)(c:Nat)(s:Tx):Tx:=if k≠21/\k≠22/\k≠23/\c≠0 then [40]++s++[41] else s
def bL:F->List (Tx×Tx)
 |.nil=>[]
 |.cons k t n ks r=>(cy k t n (bL ks),gp k ks.au (cy k t n (bL ks)))::bL r
structure Pt where
 doc:F
 lk:Int
 lv:Int
 sd:Int
structure Dc where
 p:Pt
 b:Pt
 hd:Pt
 args:List F
 pt:Tx
def mY(b:Bool)(d:F):F:=bif b then yS [cq [40],d,cq [41]] else d
def sM(p:Pt)(lv sd s:Int):Bool:=decide (p.lk=2)&&(decide (p.lv<lv)||(decide (p.lv=lv)&&(decide (p.sd≠s)||decide (sd≠s))))
def qI(p:Pt)(lv sd s:Int):F:=mY (decide (p.lk=3)||sM p lv sd s) p.doc
def fy(p:Pt):F:=mY (decide (p.lk≠0)) p.doc
def tq(p:Pt):F:=mY (decide (p.lk=2)||decide (p.lk=3)) p.doc
def rowOf(fx:List ar)(k:Int):F->Option ar
 |.cons k1 _ _ (.cons k2 op _ _ _) _=>if k=6/\k1=6/\k2=3 then jq fx op else none
 |_=>none
def pz:Pt:=⟨.nil,0,0,0⟩
def dz:Dc:=⟨pz,pz,pz,[],[]⟩
def cF(ds:List Dc)(i:Nat):Dc:=(ds[i]?).getD dz
def nJ:List Dc->List F
 |p::e::r=>[cB,cq ([124,32]++(p.pt++[32,45,62])),cm e.p.doc]++nJ r
 |_=>[]
def z5v:List Dc->F
 |a::p::e::r=>fD ([cq Pz.cX,cm a.p.doc,cB,cq Pz.dX]++([kJ [cB,cq (p.pt++[32,45,62]),cm e.p.doc]]++(nJ r++[cB,cq Pz.eX])))
 |_=>fD []
def kK(k:Int):Bool:=decide (k=5)||(decide (k=7)||(decide (k=8)||(decide (k=9)||(decide (k=11)||decide (k=12)))))
def GO(k:Int)(t:Tx)(a b c:F):F:=
 if k=5 then fD [cq ([102,117,110,32]++nI t++[32,45,62]),cm a] else
 if k=7 then fD [cq ([108,101,116,32]++nI t++[32,61]),cm a,cB,cq [105,110],cB,b] else
 if k=8 then fD [cq ([108,101,116,32,114,101,99,32]++nI t++[32,61]),cm a,cB,cq [105,110],cB,b] else
 if k=9 then fD [cq Pz.pe,cm a,cB,cq Pz.iy,cm b,cB,cq Pz.iz,cm c] else
 if k=11 then fD [cq Pz.cU,cm a] else
 fD [cq Pz.iU,cm a,cB,cq ([119,105,116,104,32]++nI t++[32,45,62]),cm b]
def CE(f:ar)(a b:Pt):F:=fD [qI a f.2.1 f.2.2 (-1),kJ [cB,cq (f.1++[32]),qI b f.2.1 f.2.2 1]]
def GP(hd:Pt)(args:List F):F:=fD [tq hd,kJ args]
def eF(fx:List ar)(k:Int)(t:Tx)(n:Int)(ks:F)(ds:List Dc):F:=
 if k=1 then cq (fi n) else if k=2 then cq (sK t) else if k=3 then cq (nI t) else
 if kK k=true then GO k t (cF ds 0).p.doc (cF ds 1).p.doc (cF ds 2).p.doc else
 if k=10 then z5v ds else
 if k=6 then(match rowOf fx k ks with
  |some f=>CE f (cF ds 0).b (cF ds 1).p
  |none=>GP (cF ds 0).hd ((cF ds 0).args++[cB,fy (cF ds 1).p])) else cq t
def cO(fx:List ar)(k:Int)(ks:F):Int:=if k=6 then(match rowOf fx k ks with|some _=>2|none=>1) else if kK k=true then 3 else 0
def oL(fx:List ar)(k:Int)(t:Tx)(n:Int)(ks:F)(ds:List Dc):Pt:=⟨eF fx k t n ks ds,cO fx k ks,((rowOf fx k ks).getD ([],0,0)).2.1,((rowOf fx k ks).getD ([],0,0)).2.2⟩
def sN(fx:List ar)(k:Int)(t:Tx)(n:Int)(ks:F)(ds:List Dc):Dc:=
 ⟨oL fx k t n ks ds,if k=6 then(cF ds 1).p else pz,
  if cO fx k ks=1 then(cF ds 0).hd else oL fx k t n ks ds,
  if cO fx k ks=1 then(cF ds 0).args++[cB,fy (cF ds 1).p] else [],cy k t n (bL ks)⟩
def dF(fx:List ar):F->List Dc
 |.nil=>[]
 |.cons k t n ks r=>sN fx k t n ks (dF fx ks)::dF fx r
def dT(fx:List ar)(k:Int)(t:Tx)(n:Int)(ks:F):Dc:=sN fx k t n ks (dF fx ks)
theorem zb0(fx:List ar):∀f:F,(dF fx f).length=f.au
 |.nil=>rfl
 |.cons k t n ks r=>by show(dF fx r).length+1=r.au+1;rw[zb0 fx r]
theorem F.l9:∀f g:F,(f.app g).size=f.size+g.size
 |.nil,g=>(zD _).symm
 |.cons k t n ks r,g=>by show ks.size+(r.app g).size+1=ks.size+r.size+1+g.size;rw[r.l9 g];omega
theorem F.tu:∀f g:F,(f.app g).au=f.au+g.au
 |.nil,g=>(zD _).symm
 |.cons k t n ks r,g=>by show(r.app g).au+1=r.au+1+g.au;rw[r.tu g];omega
theorem F.qJ:∀f g:F,(f.app g).flat=f.flat++g.flat
 |.nil,g=>rfl
 |.cons k t n ks r,g=>by
  show _::(ks.flat++(r.app g).flat)=(_::(ks.flat++r.flat))++g.flat
  rw[r.qJ g,List.cons_append,zo]
theorem F.oM:∀f:F,f.app .nil=f
 |.nil=>rfl
 |.cons k t n ks r=>by show F.cons k t n ks (r.app .nil)=_;rw[r.oM]
theorem F.nK:∀f g h:F,(f.app g).app h=f.app (g.app h)
 |.nil,_,_=>rfl
 |.cons k t n ks r,g,h=>by show F.cons k t n ks ((r.app g).app h)=F.cons k t n ks (r.app (g.app h));rw[r.nK g h]
theorem Ou:∀a b:List F,bD (a++b)=(bD a).app (bD b)
 |[],_=>rfl
 |d::a,b=>by show d.app (bD (a++b))=(d.app (bD a)).app (bD b);rw[Ou a b,F.nK]
theorem CF(a b:List F):(bD (a++b)).size=(bD a).size+(bD b).size:=by rw[Ou,F.l9]
theorem fN(d:F)(l:List F):(bD (d::l)).size=d.size+(bD l).size:=F.l9 _ _
theorem UX:∀l:List F,(bD l).flat=(l.map F.flat).flatten
 |[]=>rfl
 |d::l=>by show(d.app (bD l)).flat=d.flat++(l.map F.flat).flatten;rw[F.qJ,UX l]
theorem qtq:∀l:List F,(∀d,d∈l->d.au=1)->(bD l).au=l.length
 |[],_=>rfl
 |d::l,h=>by show(d.app (bD l)).au=l.length+1;rw[F.tu,qtq l fun x hx=>h x (zh _ hx),h d (zf ..)];omega
theorem Ov(l:List F):(yT l).size<=(bD l).size+1:=by
 match l with
 |[]=>exact Nat.le_refl _
 |[d]=>rw[fN];show d.size<=_;omega
 |_::_::_=>exact Nat.le_refl _
theorem It(l:List F):(kJ l).size<=(bD l).size+2:=by have:=Ov l;show(yT l).size+0+1<=_;omega
theorem Ow(l:List F):(fD l).size<=(bD l).size+2:=by have:=Ov l;show(yT l).size+0+1<=_;omega
theorem kA(s:Tx):(cq s).size=1:=rfl
theorem pj:cB.size=1:=rfl
theorem jg:(bD []).size=0:=rfl
theorem UY(b:Bool)(d:F):(mY b d).size<=d.size+3:=by
 cases b with
 |false=>show d.size<=_;omega
 |true=>show(bD [cq [40],d,cq [41]]).size+0+1<=_;rw[fN,fN,fN,kA,kA,jg];omega
theorem GQ(d:F):(cm d).size<=d.size+3:=by have:=It [cB,d];rw[fN,fN,pj,jg] at this;show(kJ [cB,d]).size<=_;omega
theorem Ox{ks:F}(h:(ks.au:Int)=1):∃a b c d,ks=.cons a b c d .nil:=by
 match ks,h with
 |.nil,h=>exact absurd h dc
 |.cons a b c d r,h=>have h:((r.au+1:Nat):Int)=1:=h;exact⟨a,b,c,d,by rw[uN (f:=r) om]⟩
theorem fX{ks:F}{n:Nat}(h:ks.au=n+1):∃a b c d r,ks=.cons a b c d r/\r.au=n:=by
 match ks,h with
 |.nil,h=>exact absurd h (by show ¬(0:Nat)=n+1;omega)
 |.cons a b c d r,h=>have h:r.au+1=n+1:=h;exact⟨a,b,c,d,r,rfl,by omega⟩
theorem tw{ks:F}(h:ks.au=0):ks=.nil:=uN om
def yU(N:Nat)(x:Dc):Prop:=x.p.doc.size+5<=6*N/\x.hd.doc.size+(bD x.args).size+5<=6*N/\(x.b.doc.size=0\/x.b.doc.size+17<=6*N)
def DZ(fx:List ar):Bool->Bool->F->Prop
 |_,_,.nil=>True
 |m,dS,.cons k t n ks r=>((m&&dS)=false->yU (ks.size+1) (dT fx k t n ks))/\DZ fx m (!dS) r
theorem z04(p:Pt):(fy p).size<=p.doc.size+3:=UY _ _
theorem qkj(p:Pt):(tq p).size<=p.doc.size+3:=UY _ _
theorem Oy(p:Pt)(a b c:Int):(qI p a b c).size<=p.doc.size+3:=UY _ _
theorem z4b{N:Nat}{p:Pt}{t:Tx}(h:p.doc.size+5<=6*N):yU N ⟨p,pz,p,[],t⟩:=⟨h,by show p.doc.size+(bD []).size+5<=_;rw[jg];omega,.inl rfl⟩
theorem qts(fx:List ar){k:Int}(t:Tx)(n:Int)(ks:F)(ds:List Dc)(h:k≠6):sN fx k t n ks ds=⟨oL fx k t n ks ds,pz,oL fx k t n ks ds,[],cy k t n (bL ks)⟩:=by
 have hl:cO fx k ks≠1:=by unfold cO;rw[if_neg h];split<;>decide
 unfold sN;rw[if_neg h,if_neg hl,if_neg hl]
theorem qp2(fx:List ar):∀(N:Nat) (r:F),r.size<=N->DZ fx true true r->(bD (nJ (dF fx r))).size<=6*r.size
 |_,.nil,_,_=>by show(bD []).size<=_;rw[jg];omega
 |_,.cons k t n ks .nil,_,_=>by show(bD []).size<=_;rw[jg];omega
 |0,.cons k t n ks (.cons k' t' n' bO r),h,_=>by have h:ks.size+(bO.size+r.size+1)+1<=0:=h;omega
 |N+1,.cons k t n ks (.cons k' t' n' bO r),h,hs=>by have h:ks.size+(bO.size+r.size+1)+1<=N+1:=h;obtain⟨_,h2,h3⟩:=hs;have h2:=(h2 rfl).1;have ih:=qp2 fx N r om h3;show(bD ([cB,cq ([124,32]++((dT fx k t n ks).pt++[32,45,62])),cm (dT fx k' t' n' bO).p.doc]++nJ (dF fx r))).size<=6*(ks.size+(bO.size+r.size+1)+1);have hu:=GQ (dT fx k' t' n' bO).p.doc;rw[CF,fN,fN,fN,jg,pj,kA];omega
theorem qw0(k:Int)(t:Tx)(a b c:F):(GO k t a b c).size<=(if k=5\/k=11 then a.size+6 else if k=9 then a.size+b.size+c.size+16 else a.size+b.size+11):=by
 have ha:=GQ a;have hb:=GQ b;have hc:=GQ c;unfold GO;have g:∀l:List F,(fD l).size<=(bD l).size+2:=Ow;by_cases h5:k=5
 ·rw[if_pos h5,if_pos (.inl h5)];refine Nat.le_trans (g _) ?_;rw[fN,fN,jg,kA];omega
 by_cases he:k=11
 ·subst he;rw[if_neg dc,if_neg dc,if_neg dc,if_neg dc,if_pos rfl,if_pos (.inr rfl)];refine Nat.le_trans (g _) ?_;rw[fN,fN,jg,kA];omega
 by_cases h9:k=9
 ·subst h9;rw[if_neg dc,if_neg dc,if_neg dc,if_pos rfl,if_neg dc,if_pos rfl];refine Nat.le_trans (g _) ?_;simp only[fN,jg,kA,pj];omega
 rw[if_neg h5,if_neg h9,if_neg he,if_neg (show ¬(k=5\/k=11) from fun h=>h.elim h5 he),if_neg h9];split
 ·refine Nat.le_trans (g _) ?_;simp only[fN,jg,kA,pj];omega
 split
 ·refine Nat.le_trans (g _) ?_;simp only[fN,jg,kA,pj];omega
 ·refine Nat.le_trans (g _) ?_;simp only[fN,jg,kA,pj];omega
theorem yV{k:Int}(h:kK k=true):k=5\/k=7\/k=8\/k=9\/k=11\/k=12:=by simpa[kK,Bool.or_eq_true,decide_eq_true_eq] using h
theorem Oz{k:Int}(h:kK k=true):k≠1/\k≠2/\k≠3/\k≠6/\k≠10:=by rcases yV h with h|h|h|h|h|h<;>subst h<;>decide
theorem OA(fx:List ar){k:Int}(t:Tx)(n:Int)(ks:F)(ds:List Dc)(h:kK k=true):eF fx k t n ks ds=GO k t (cF ds 0).p.doc (cF ds 1).p.doc (cF ds 2).p.doc:=by obtain⟨h1,h2,h3,_⟩:=Oz h;unfold eF;rw[if_neg h1,if_neg h2,if_neg h3,if_pos h]
theorem UZ(fx:List ar){k:Int}{t:Tx}{n:Int}{ks:F}(hv:bI k t n ks false=0)(hs:DZ fx (ag k 10) false ks):yU (ks.size+1) (dT fx k t n ks):=by
 obtain⟨hn,hf⟩:=bG.1 hv;obtain⟨_,_,hk,_,_,_⟩:=bF.1 hn;obtain⟨c1,c2,c3,rY,c0⟩:=vD hk;have one:∀{a b d:_} {c:_} {r m:_},DZ fx m false (.cons a b c d r)->yU (d.size+1) (dT fx a b c d)/\DZ fx m true r:=fun h=>⟨h.1 (Bool.and_false _),h.2⟩;have two:∀{a b d:_} {c:_} {r:_},DZ fx false true (.cons a b c d r)->yU (d.size+1) (dT fx a b c d)/\DZ fx false false r:=fun h=>⟨h.1 rfl,h.2⟩;by_cases h6:k=6
 ·subst h6;obtain⟨a,b,c,d,r,rfl,hr⟩:=fX (ks:=ks) (n:=1) (by have:=c2 (.inl rfl);omega);obtain⟨a',b',c',d',r',rfl,he⟩:=fX (n:=0) hr;obtain rfl:=tw he;have lW:ag 6 10=false:=rfl;rw[lW] at hs;obtain⟨s1,hs⟩:=one hs;obtain⟨s2,_⟩:=two hs;have e0:cF (dF fx (.cons a b c d (.cons a' b' c' d' .nil))) 0=dT fx a b c d:=rfl;have e1:cF (dF fx (.cons a b c d (.cons a' b' c' d' .nil))) 1=dT fx a' b' c' d':=rfl;have hN:(F.cons a b c d (.cons a' b' c' d' .nil)).size+1=d.size+1+(d'.size+1)+1:=by show d.size+(d'.size+0+1)+1+1=_;omega
  rw[hN];generalize d.size+1=N0 at*
  have hp:1<=N0:=by have:=s1.1;omega
  have ha:=z04 (dT fx a' b' c' d').p;have hh:=qkj (dT fx a b c d).hd;obtain⟨p1,p2,p3⟩:=s1;obtain⟨q1,q2,q3⟩:=s2;have hm:(bD ((dT fx a b c d).args++[cB,fy (dT fx a' b' c' d').p])).size<=(bD (dT fx a b c d).args).size+1+((dT fx a' b' c' d').p.doc.size+3):=by rw[CF,fN,fN,jg,pj];omega
  unfold dT sN;have hg:(eF fx 6 t n (.cons a b c d (.cons a' b' c' d' .nil)) (dF fx (.cons a b c d (.cons a' b' c' d' .nil)))).size+5<=6*(N0+(d'.size+1)+1):=by
   unfold eF;rw[if_neg dc,if_neg dc,if_neg dc,if_neg dc,if_neg dc,if_pos rfl,e0,e1];cases ht:rowOf fx 6 (.cons a b c d (.cons a' b' c' d' .nil)) with
   |none=>have g1:=Ow [tq (dT fx a b c d).hd,kJ ((dT fx a b c d).args++[cB,fy (dT fx a' b' c' d').p])];have g2:=It ((dT fx a b c d).args++[cB,fy (dT fx a' b' c' d').p]);rw[fN,fN,jg] at g1;show(fD [tq (dT fx a b c d).hd,kJ ((dT fx a b c d).args++[cB,fy (dT fx a' b' c' d').p])]).size+5<=_;omega
   |some f=>have g0:=Oy (dT fx a b c d).b f.2.1 f.2.2 (-1);have g3:=Oy (dT fx a' b' c' d').p f.2.1 f.2.2 1;have g1:=Ow [qI (dT fx a b c d).b f.2.1 f.2.2 (-1),kJ [cB,cq (f.1++[32]),qI (dT fx a' b' c' d').p f.2.1 f.2.2 1]];have g2:=It [cB,cq (f.1++[32]),qI (dT fx a' b' c' d').p f.2.1 f.2.2 1];rw[fN,fN,jg] at g1;rw[fN,fN,fN,jg,pj,kA] at g2;show(fD [qI (dT fx a b c d).b f.2.1 f.2.2 (-1),kJ [cB,cq (f.1++[32]),qI (dT fx a' b' c' d').p f.2.1 f.2.2 1]]).size+5<=_;omega
  refine⟨hg,?_,?_⟩
  ·by_cases hl:cO fx 6 (.cons a b c d (.cons a' b' c' d' .nil))=1
   ·rw[if_pos hl,if_pos hl,e0,e1];show(dT fx a b c d).hd.doc.size+(bD ((dT fx a b c d).args++[cB,fy (dT fx a' b' c' d').p])).size+5<=_;omega
   ·rw[if_neg hl,if_neg hl,jg];exact hg
  ·rw[if_pos rfl,e1];exact .inr (by show(dT fx a' b' c' d').p.doc.size+17<=_;omega)
 ·have hj:dT fx k t n ks=⟨oL fx k t n ks (dF fx ks),pz,oL fx k t n ks (dF fx ks),[],cy k t n (bL ks)⟩:=qts fx t n ks _ h6;rw[hj];refine z4b ?_;show(eF fx k t n ks (dF fx ks)).size+5<=_;by_cases ho:kK k=true
  ·rw[OA fx t n ks _ ho];have hb:=qw0 k t (cF (dF fx ks) 0).p.doc (cF (dF fx ks) 1).p.doc (cF (dF fx ks) 2).p.doc;have lW:ag k 10=false:=by rcases yV ho with h|h|h|h|h|h<;>subst h<;>rfl
   rw[lW] at hs;by_cases hA:k=5\/k=11
   ·rw[if_pos hA] at hb;obtain⟨a,b,c,d,rfl⟩:=Ox (c1 hA);obtain⟨s1,_⟩:=one hs;have e0:cF (dF fx (.cons a b c d .nil)) 0=dT fx a b c d:=rfl;rw[e0] at hb ⊢;have s1:=s1.1;show _+5<=6*((d.size+0+1)+1);omega
   ·rw[if_neg hA] at hb;by_cases h9:k=9
    ·rw[if_pos h9] at hb;obtain⟨a,b,c,d,r,rfl,hr⟩:=fX (ks:=ks) (n:=2) (by have:=c3 h9;omega);obtain⟨a',b',c',d',r',rfl,he⟩:=fX (n:=1) hr;obtain⟨a2,b2,jh,d2,r2,rfl,hq⟩:=fX (n:=0) he;obtain rfl:=tw hq;obtain⟨s1,hs⟩:=one hs;obtain⟨s2,hs⟩:=two hs;obtain⟨s3,_⟩:=one hs;have e0:cF (dF fx (.cons a b c d (.cons a' b' c' d' (.cons a2 b2 jh d2 .nil)))) 0=dT fx a b c d:=rfl;have e1:cF (dF fx (.cons a b c d (.cons a' b' c' d' (.cons a2 b2 jh d2 .nil)))) 1=dT fx a' b' c' d':=rfl;have e2:cF (dF fx (.cons a b c d (.cons a' b' c' d' (.cons a2 b2 jh d2 .nil)))) 2=dT fx a2 b2 jh d2:=rfl;rw[e0,e1,e2] at hb ⊢;have s1:=s1.1;have s2:=s2.1;have s3:=s3.1;show _+5<=6*((d.size+(d'.size+(d2.size+0+1)+1)+1)+1);omega
    ·rw[if_neg h9] at hb;have h2:k=6\/k=7\/k=8\/k=12:=by
      rcases yV ho with h|h|h|h|h|h
      ·exact absurd (.inl h) hA
      ·exact .inr (.inl h)
      ·exact .inr (.inr (.inl h))
      ·exact absurd h h9
      ·exact absurd (.inr h) hA
      ·exact .inr (.inr (.inr h))
     obtain⟨a,b,c,d,r,rfl,hr⟩:=fX (ks:=ks) (n:=1) (by have:=c2 h2;omega);obtain⟨a',b',c',d',r',rfl,he⟩:=fX (n:=0) hr;obtain rfl:=tw he;obtain⟨s1,hs⟩:=one hs;obtain⟨s2,_⟩:=two hs;have e0:cF (dF fx (.cons a b c d (.cons a' b' c' d' .nil))) 0=dT fx a b c d:=rfl;have e1:cF (dF fx (.cons a b c d (.cons a' b' c' d' .nil))) 1=dT fx a' b' c' d':=rfl;rw[e0,e1] at hb ⊢;have s1:=s1.1;have s2:=s2.1;show _+5<=6*((d.size+(d'.size+0+1)+1)+1);omega
  ·unfold eF;by_cases g1:k=1
   ·rw[if_pos g1,kA];omega
   by_cases g2:k=2
   ·rw[if_neg g1,if_pos g2,kA];omega
   by_cases g3:k=3
   ·rw[if_neg g1,if_neg g2,if_pos g3,kA];omega
   rw[if_neg g1,if_neg g2,if_neg g3,if_neg ho];by_cases g10:k=10
   ·subst g10;rw[if_pos rfl];obtain⟨rY,J6⟩:=rY rfl;obtain⟨a,b,c,d,r,rfl,hr⟩:=fX (ks:=ks) (n:=ks.au-1) om;have hc:(F.cons a b c d r).au=r.au+1:=rfl;obtain⟨a',b',c',d',r',rfl,he⟩:=fX (ks:=r) (n:=r.au-1) om;have hu:(F.cons a' b' c' d' r').au=r'.au+1:=rfl;obtain⟨a2,b2,jh,d2,r2,rfl,hq⟩:=fX (ks:=r') (n:=r'.au-1) om;have lW:ag 10 10=true:=rfl;rw[lW] at hs;obtain⟨s1,_,s3,s4⟩:=hs;have s1:=(s1 rfl).1;have s3:=(s3 rfl).1;have s5:=qp2 fx r2.size r2 (Nat.le_refl _) s4;show(fD ([cq Pz.cX,cm (dT fx a b c d).p.doc,cB,cq Pz.dX]++([kJ [cB,cq ((dT fx a' b' c' d').pt++[32,45,62]),cm (dT fx a2 b2 jh d2).p.doc]]++(nJ (dF fx r2)++[cB,cq Pz.eX])))).size+5<=6*((d.size+(d'.size+(d2.size+r2.size+1)+1)+1)+1);have g:=Ow ([cq Pz.cX,cm (dT fx a b c d).p.doc,cB,cq Pz.dX]++([kJ [cB,cq ((dT fx a' b' c' d').pt++[32,45,62]),cm (dT fx a2 b2 jh d2).p.doc]]++(nJ (dF fx r2)++[cB,cq Pz.eX])));have g2:=It [cB,cq ((dT fx a' b' c' d').pt++[32,45,62]),cm (dT fx a2 b2 jh d2).p.doc];have g3:=GQ (dT fx a b c d).p.doc;have g4:=GQ (dT fx a2 b2 jh d2).p.doc;simp only[CF,fN,jg,kA,pj] at g g2;omega
   rw[if_neg g10,if_neg h6,kA];omega
theorem OB(fx:List ar):∀(f:F) (m dS:Bool),eD m false dS f=0->DZ fx m dS f
 |.nil,_,_,_=>trivial
 |.cons k t n ks r,m,dS,h=>by obtain⟨h1,h2⟩:=cJ.1 h;refine⟨fun hm=>?_,OB fx r m (!dS) h2⟩;rw[hm,Bool.or_false] at h1;exact UZ fx h1 (OB fx ks (ag k 10) false (bG.1 h1).2)
theorem qtt(fx:List ar){k:Int}{t:Tx}{n:Int}{ks:F}(hv:bI k t n ks false=0):(dT fx k t n ks).p.doc.size<=6*(ks.size+1):=by have:=(UZ fx hv (OB fx ks _ _ (bG.1 hv).2)).1;omega
def Ds(L:List Y0)(ds:List F):Prop:=fM L=ds.map F.flat/\∀d,d∈ds->d.au=1
theorem Ds.len{L:List Y0}{ds:List F}(h:Ds L ds):L.length=ds.length:=by
 have:=congrArg List.length h.1
 rwa [GK,zO] at this
theorem z4c{d:F}(h:d.au=1):1<=d.size:=by have:=d.eh;omega
theorem K4:∀{ds:List F},(∀d,d∈ds->d.au=1)->ds.length<=(bD ds).size
 |[],_=>Nat.zero_le _
 |d::ds,h=>by have:=K4 fun x hx=>h x (zh d hx);have:=z4c (h d (zf ..));rw[fN,zj];omega
theorem Ds.lens{L:List Y0}{ds:List F}(h:Ds L ds):lens L=(bD ds).size:=by rw[Ip,h.1,<-UX,F.len]
theorem Ds.flat{L:List Y0}{ds:List F}(h:Ds L ds):(L.map (·.l)).flatten=(bD ds).flat:=by rw[UX,<-h.1];rfl
theorem Ds.cat{L:List Y0}{ds:List F}(h:Ds L ds)(k:Int)(n:Int):(k,([]:Tx),n,(L.length:Int))::(L.map (·.l)).flatten=(tr k [] n (bD ds)).flat:=by rw[vC,h.flat,qtq ds h.2,h.len]
theorem Ds.nil:Ds [] []:=⟨rfl,fun _ h=>by cases h⟩
theorem Ds.cons{y:Y0}{L:List Y0}{d:F}{ds:List F}(h1:y.l=d.flat)(h2:d.au=1)(h:Ds L ds):Ds (y::L) (d::ds):=⟨by show y.l::fM L=d.flat::ds.map F.flat;rw[h1,h.1],fun x hx=>by rcases zw.1 hx with rfl|hx;exact h2;exact h.2 x hx⟩
theorem Ds.app{L M:List Y0}{ds es:List F}(h:Ds L ds)(g:Ds M es):Ds (L++M) (ds++es):=⟨by unfold fM;rw[zT,zT];exact congr (congrArg _ h.1) g.1,fun x hx=>(zN.1 hx).elim (h.2 x) (g.2 x)⟩
theorem Ds.get{y:Y0}{L:List Y0}{ds:List F}(h:Ds (y::L) ds):∃d es,ds=d::es/\y.l=d.flat:=by
 match ds,h with
 |[],h=>cases h.1
 |d::es,h=>have:=h.1;injection this with a b;exact⟨d,es,rfl,a⟩
theorem OC(b:Bool){d:F}(h:d.au=1):(mY b d).au=1:=by cases b;exact h;rfl
theorem qp3{l:List F}(h:∀d,d∈l->d.au=1):(yT l).au=1:=by
 match l,h with
 |[],_=>rfl
 |[d],h=>exact h d (zf ..)
 |_::_::_,_=>rfl
theorem qtu(k n:Int){d:F}(h:d.au=1):(k,([]:Tx),n,(1:Int))::([d.flat].flatten)=(tr k [] n d).flat:=by rw[vC,h];simp
theorem nL(s:Tx):gb (s,())=some (⟨false,(cq s).flat⟩,()):=by rw[SJ,SI,GI 41 s 0 0 true [] (by simp) (by simp[lens])];simp only[af];rfl
theorem yW:gd ()=some (⟨false,cB.flat⟩,()):=by rw[SS,GI 42 [] 0 0 true [] (by simp) (by simp[lens])];simp only[af];rfl
theorem U0(b:Bool){L:List Y0}{ds:List F}(h:Ds L ds)(hs:(bD ds).size<=100000):mK (⟨b,L⟩,())=some (⟨false,(yS ds).flat⟩,()):=by have hl:=h.len;have:=K4 h.2;rw[SP,GI 45 [] 0 0 b L om (by rw[h.lens];omega),h.cat];simp only[af];rfl
theorem qp4(b:Bool){L:List Y0}{ds:List F}(h:Ds L ds)(hs:(bD ds).size<=100000):∃q,pS (⟨b,L⟩,())=some (⟨q,(yT ds).flat⟩,()):=by
 rw[SQ];have hl:ae L=((ds.length:Nat):Int):=by show((L.length:Nat):Int)=_;rw[h.len]
 simp only;rw[hl]
 match ds,h,hs with
 |[d],h,_=>
  match L,h with
  |[y],h=>obtain⟨d',es,e,hy⟩:=h.get;injection e with e _;subst e;refine⟨y.nil,?_⟩;have h1:ag (([d].length:Nat):Int) 1=true:=rfl;have:cZ [y] 0=some y:=rfl;rw[h1,aU,this,af];show some (y,())=_;obtain⟨q,l⟩:=y;show some ((⟨q,l⟩:Y0),())=some (⟨q,d.flat⟩,());rw[show l=d.flat from hy]
  |[],h=>exact absurd h.len (by simp)
  |_::_::_,h=>exact absurd h.len (by simp)
 |[],h,hs=>refine⟨false,?_⟩;show aj (mK (⟨b,L⟩,())) _=_;rw[U0 b h hs,af];rfl
 |d::e::ds,h,hs=>
  refine⟨false,?_⟩;have he:ag (((d::e::ds).length:Nat):Int) 1=false:=by show((((ds.length+1+1:Nat)):Int)==1)=false;exact beq_eq_false_iff_ne.2 om
  rw[he,aD,U0 b h hs,af];rfl
theorem OD(b:Bool){L:List Y0}{ds:List F}(h:Ds L ds)(hs:(bD ds).size<=100000):jn (⟨b,L⟩,())=some (⟨false,(kJ ds).flat⟩,()):=by obtain⟨q,e⟩:=qp4 b h hs;have hz:=Ov ds;rw[SV,e,af,SU,GI 43 [] 2 0 false [⟨q,(yT ds).flat⟩] (by simp) (by simp[lens,F.len];omega)];simp only[af];exact congrArg (fun z:List ND=>some ((⟨false,z⟩:Y0),())) (qtu 43 2 (qp3 h.2))
theorem CG(b:Bool){L:List Y0}{ds:List F}(h:Ds L ds)(hs:(bD ds).size<=100000):iO (⟨b,L⟩,())=some (⟨false,(fD ds).flat⟩,()):=by obtain⟨q,e⟩:=qp4 b h hs;have hz:=Ov ds;rw[SR,e,af,SO,GI 44 [] 0 0 false [⟨q,(yT ds).flat⟩] (by simp) (by simp[lens,F.len];omega)];simp only[af];exact congrArg (fun z:List ND=>some ((⟨false,z⟩:Y0),())) (qtu 44 0 (qp3 h.2))
theorem Ds.one{y:Y0}{d:F}(h1:y.l=d.flat)(h2:d.au=1):Ds [y] [d]:=.cons h1 h2 .nil
theorem yX(y:Y0){d:F}(h1:y.l=d.flat)(h2:d.au=1)(hs:d.size<=90000):kZ (y,())=some (⟨false,(cm d).flat⟩,()):=by rw[SX,yW,af];simp only;rw[OD false (.cons (d:=cB) rfl rfl (.one h1 h2)) (by rw[fN,fN,jg,pj];omega),af];rfl
theorem tz(a b:Tx):fY a b=a++b:=id (Eq.refl (a++b))
theorem U1{s:Tx}(hs:∀b,b∈s->0<=b/\b<=255)(hl:s.length<=1000000):kY (s,())=some (nI s,()):=by
 rw[SN,Um s hs,af];simp only;unfold nI;cases da s with
 |false=>rfl
 |true=>
  rw[aU,show ae ([40]:Y2)=((1:Nat):Int) from rfl,show ae s=((s.length:Nat):Int) from rfl,o7 om,af,tz,
   show ae ([40]++s)=(((1+s.length):Nat):Int) from by show((([40]++s).length:Nat):Int)=_;rw[zd];rfl,
   show ae ([41]:Y2)=((1:Nat):Int) from rfl,o7 om,af,tz]
  rfl
theorem qig{n:Int}(h:oG n=true):mP n:=by have:=zM h;unfold mP;omega
theorem z06{n:Int}(h:oG n=true):lM (n,())=some (n,()):=by obtain⟨v,hv,he⟩:=qka n (qig h);rw[h] at he;rw[hv,show v=n from by simpa[ag] using he]
theorem OE{n:Int}(h:oG n=true):iv (n,())=some (fi n,()):=by
 obtain⟨h1,h2⟩:=qig h;have hf:ui (n,10,())=some (kS n,()):=by show(bif decide ((10:Int)=10)&&(decide (-9223372036854775808<=n)&&decide (n<=9223372036854775807)) then some (kS n,()) else none)=_;rw[zu h1,zu h2];rfl
 have hl:=NB n;have hr:uh (kS n,[45],[126],1,())=some (gO (kS n),()):=by show(bif (([45]:List Int)==[45])&&((([126]:List Int)==[126])&&(decide ((1:Int)=1)&&decide ((kS n).length<=1000))) then some (gO (kS n),()) else none)=_;rw[zu (show(kS n).length<=1000 by omega)];rfl
 rw[Kk,z06 h,af];simp only;rw[hf,af];simp only;rw[hr,af];rfl
theorem qp5:∀f u,∀b,b∈dL f u->48<=b/\b<=57
 |0,_,b,h=>absurd h (List.not_mem_nil)
 |f+1,u,b,h=>by
  unfold dL at h;split at h
  ·rw[zK] at h;omega
  ·rcases zN.1 h with h|h
   ·exact qp5 f _ b h
   ·rw[zK] at h;have:u % 10<10:=Nat.mod_lt _ dc;omega
theorem z07:∀l:Tx,(∀b,b∈l->b≠45)->gO l=l
 |[],_=>rfl
 |b::l,h=>by unfold gO;rw[if_neg (h b (zf ..)),z07 l fun x hx=>h x (zh _ hx)]
theorem OF(n:Int):fi n=if n<0 then 126::dL 20 n.natAbs else dL 20 n.toNat:=by
 unfold fi kS;by_cases h:n<0
 ·rw[if_pos h,if_pos h];rfl
 ·rw[if_neg h,if_neg h];exact z07 _ fun b hb=>by have:=qp5 _ _ b hb;omega
abbrev CH:Tx:=[48,49,50,51,52,53,54,55,56,57,97,98,99,100,101,102]
theorem z92:∀c:Fin 256,iK .u8 (c.val:Int) 4=some ((c.val / 16:Nat):Int)/\cf CH ((c.val / 16:Nat):Int) (aG .u8 ((c.val / 16:Nat):Int) 1)=some [gD ((c.val / 16:Nat):Int)]/\cf CH (jD .u8 (c.val:Int) 15) (aG .u8 (jD .u8 (c.val:Int) 15) 1)=some [gD ((c.val % 16:Nat):Int)]:=by decide+kernel
theorem zb1{c:Int}(h0:0<=c)(h1:c<=255):iK .u8 c 4=some (c / 16)/\cf CH (c / 16) (aG .u8 (c / 16) 1)=some [gD (c / 16)]/\cf CH (jD .u8 c 15) (aG .u8 (jD .u8 c 15) 1)=some [gD (c % 16)]:=by obtain⟨n,rfl⟩:=Int.eq_ofNat_of_zero_le h0;exact z92 ⟨n,by omega⟩
theorem U2(t:Tx)(b nb:Bool)(acc:Tx)(h:acc.length+t.length<=1000000):∃q,mI (t,b,⟨nb,acc⟩,())=some (ae t,true,⟨q,acc++t⟩,()):=by rw[SL];have e:oo (b,⟨nb,acc⟩,())=some (true,⟨nb,acc⟩,()):=rfl;rw[e,af];simp only;rw[show ae acc=((acc.length:Nat):Int) from rfl,show ae t=((t.length:Nat):Int) from rfl,o7 om,af];exact⟨_,rfl⟩
theorem U3(c:Int)(b nb:Bool)(acc:Tx)(h:acc.length+1<=1000000):∃q,pR (c,b,⟨nb,acc⟩,())=some (true,⟨q,acc++[c]⟩,()):=by rw[SK];have e:oo (b,⟨nb,acc⟩,())=some (true,⟨nb,acc⟩,()):=rfl;rw[e,af];simp only;rw[show ae acc=((acc.length:Nat):Int) from rfl,show ae ([c]:Y2)=((1:Nat):Int) from rfl,o7 om,af];exact⟨_,rfl⟩
theorem z4d(c:Int):(eB c).length<=4:=by
 unfold eB;split
 ·exact zB rfl
 split
 ·exact zB rfl
 split
 ·exact zB rfl
 ·exact zB rfl
theorem z93{s:Tx}{i:Nat}(h:i<s.length):cf s (i:Int) ((i+1:Nat):Int)=some [s[i]]:=by unfold cf;rw[if_pos ⟨by omega,by omega,by omega⟩];congr 1;rw[Int.toNat_natCast,Int.toNat_natCast,List.drop_take,kI h,Nat.add_sub_cancel_left];rfl
theorem qw1{s:Tx}(hb:∀b,b∈s->0<=b/\b<=255)(hs:s.length<=100000):∀(m i:Nat) (nb:Bool) (acc:Tx),i+m=s.length->acc.length<=1+4*i->aX qh (s,(s.length:Int),(i:Int),true,⟨nb,acc⟩,())=some (acc++(s.drop i).flatMap eB++[34],()):=by
 intro m
 induction m with
 |zero=>intro i nb acc hi hl;obtain⟨q,e⟩:=U3 34 true nb acc om;refine cw ?_;unfold qh;simp only;rw[bP,if_neg om,e,af,zC om];simp only;show aj (rS (true,⟨q,acc++[34]⟩,())) _=_;rw[show rS (true,⟨q,acc++[34]⟩,())=some (acc++[34],()) from rfl,af];show some (Sum.inr (acc++[34],()))=some (Sum.inr (acc++[]++[34],()));rw[zt]
 |succ m ih=>
  intro i nb acc hi hl;have hf:i<s.length:=om
  have hd:=kI hf;obtain⟨h0,h1⟩:=hb s[i] (List.getElem_mem hf);have hq:=z4d s[i];obtain⟨q,step⟩:∃q,qh (s,(s.length:Int),(i:Int),true,⟨nb,acc⟩,())=some (Sum.inl (s,(s.length:Int),((i+1:Nat):Int),true,⟨q,acc++eB s[i]⟩,())):=by
   unfold qh;simp only;rw[bP,if_pos om,dG (zg hf),af];have he:=bK (k:=i) om;have hg:=z93 hf;generalize s[i]=c at*
   by_cases c1:c=34\/c=92
   ·have hc:eB c=[92,c]:=by unfold eB;rw[if_pos c1]
    have e0:az (ag c 34) (some (s,(i:Int),c,(s.length:Int),(i:Int),ag c 34,true,(⟨nb,acc⟩:Sl Int),())) (some (s,(i:Int),c,(s.length:Int),(i:Int),ag c 92,true,(⟨nb,acc⟩:Sl Int),()))=some (s,(i:Int),c,(s.length:Int),(i:Int),true,true,(⟨nb,acc⟩:Sl Int),()):=by rcases c1 with rfl|rfl<;>rfl
    rw[e0,af];simp only;obtain⟨q,e⟩:=U2 ([92]++[c]) true nb acc (by show acc.length+2<=_;omega);rw[aU,he,hg,af,show ae ([92]:Y2)=((1:Nat):Int) from rfl,show ae ([c]:Tx)=((1:Nat):Int) from rfl,o7 om,af,tz,e];simp only[af];rw[he];exact⟨q,by rw[hc];rfl⟩
   ·have hj:c≠34:=fun e=>c1 (.inl e);have hk:c≠92:=fun e=>c1 (.inr e);rw[dx hj,aD,af];simp only;rw[dx hk,aD,jA];by_cases c2:c=10
    ·have hc:eB c=[92,110]:=by unfold eB;rw[if_neg c1,if_pos c2]
     obtain⟨q,e⟩:=U2 [92,110] true nb acc (by show acc.length+2<=_;omega);rw[if_pos c2,e];simp only[af];rw[he];exact⟨q,by rw[hc]⟩
    ·rw[if_neg c2,bP];by_cases c3:c<32\/126<c
     ·have hc:eB c=[92,120,gD (c / 16),gD (c % 16)]:=by unfold eB;rw[if_neg c1,if_neg c2,if_pos c3]
      have e3:(if c<32 then some true else some (aK 126 c))=some true:=by
       by_cases c4:c<32
       ·rw[if_pos c4]
       ·rw[if_neg c4];exact congrArg some (zu om)
      obtain⟨g1,g2,g3⟩:=zb1 h0 h1;obtain⟨q,e⟩:=U2 ([92,120]++[gD (c / 16)]++[gD (c % 16)]) true nb acc (by show acc.length+4<=_;omega);rw[e3];simp only[af,aU,g1];rw[g2];simp only[af];rw[show ae ([92,120]:Y2)=((2:Nat):Int) from rfl,show ae ([gD (c / 16)]:Tx)=((1:Nat):Int) from rfl,o7 om];simp only[af];rw[g3];simp only[af];rw[tz,show ae (([92,120]:Y2)++[gD (c / 16)])=((3:Nat):Int) from rfl,show ae ([gD (c % 16)]:Tx)=((1:Nat):Int) from rfl,o7 om];simp only[af];rw[tz,e];simp only[af];rw[he];exact⟨q,by rw[hc];rfl⟩
     ·have hc:eB c=[c]:=by unfold eB;rw[if_neg c1,if_neg c2,if_neg c3]
      have e3:(if c<32 then some true else some (aK 126 c))=some false:=by rw[if_neg om];exact congrArg some (zn om)
      obtain⟨q,e⟩:=U3 c true nb acc om;rw[e3];simp only[af,aD];rw[e];simp only[af];rw[he];exact⟨q,by rw[hc]⟩
  rw[ew step,ih (i+1) q _ om (by rw[zd];omega),hd,List.flatMap_cons,zo acc]
theorem qw2{s:Tx}(hb:∀b,b∈s->0<=b/\b<=255)(hs:s.length<=100000):rU (s,())=some (sK s,()):=by obtain⟨q,e⟩:=U3 34 false true [] dc;rw[SM,e,af];exact qw1 hb hs s.length 0 q [34] om dc
def TL(N:Nat)(l:List ND):Prop:=∀x,x∈l->x.2.1.length<=N
theorem U4(s:Tx):(nI s).length<=s.length+2:=by
 unfold nI;cases da s with
 |false=>show s.length<=_;omega
 |true=>show([40]++s++[41]).length<=_;simp
theorem qtv(n:Int):(fi n).length<=21:=by unfold fi;rw[Rv];exact NB n
theorem U5(k:Int)(c:Nat)(s:Tx):(gp k c s).length<=s.length+2:=by
 unfold gp;split
 ·simp
 ·omega
theorem OG(k:Int)(t:Tx)(n:Int)(qs:List (Tx×Tx)):(cy k t n qs).length<=t.length+21+(sL qs).length:=by
 unfold cy;split
 ·show 1<=_;omega
 split
 ·have:=U4 t;omega
 split
 ·have:=qtv n;omega
 ·rw[zd];omega
theorem U6:∀(f:F),TL 1000 f.flat->(sL (bL f)).length<=1030*f.size
 |.nil,_=>Nat.zero_le _
 |.cons k t n ks r,h=>by have h1:=U6 ks fun x hx=>h x (zh _ (List.mem_append_left _ hx));have h2:=U6 r fun x hx=>h x (zh _ (List.mem_append_right _ hx));have h3:t.length<=1000:=h (k,t,n,(ks.au:Int)) (zf ..);have h4:=OG k t n (bL ks);have h5:=U5 k ks.au (cy k t n (bL ks));show((([32]:Tx)++gp k ks.au (cy k t n (bL ks)))++sL (bL r)).length<=1030*(ks.size+r.size+1);rw[zd,zd,List.length_singleton];omega
theorem qp6(k:Int)(t:Tx)(n:Int)(ks:F)(h:TL 1000 (tr k t n ks).flat):(cy k t n (bL ks)).length+3<=1030*(ks.size+1):=by have h1:=U6 ks fun x hx=>h x (by rw[vC];exact zh _ hx);have h3:t.length<=1000:=h (k,t,n,(ks.au:Int)) (by rw[vC];exact zf ..);have h4:=OG k t n (bL ks);omega
theorem z5w{α:Type}(pre:List α)(a:α)(post:List α):cZ (pre++a::post) (pre.length:Int)=some a:=dG (by rw[zG (Nat.le_refl _),Nat.sub_self];rfl)
theorem CI(a b:Tx)(h:a.length+b.length<=2000000):fit (aQ (ae a) (ae b))=some ():=o7 (a:=a.length) (b:=b.length) h
theorem bE.tl{N:Nat}{l:List ND}(h:TL N l){k:Nat}{f:F}(hs:bE l k f):TL N f.flat:=by obtain⟨post,e⟩:=hs;intro x hx;exact h x (List.mem_of_mem_drop (by rw[e];exact List.mem_append_left _ hx))
def zb2(self:pI)(b:Bool)(l:List ND)(N:Nat):Prop:=∀(q:Nat) (k:Int) (t:Tx) (n:Int) (ks r:F) (inner:Bool),bE l q (.cons k t n ks r)->bI k t n ks true=0->ks.size<N->
 self (⟨b,l⟩,(q:Int),inner,())=some (bif inner then gp k ks.au (cy k t n (bL ks)) else cy k t n (bL ks),())
def OH(inner:Bool)(c:Int)(s:Tx):Tx:=bif inner&&aK 0 c then [40]++s++[41] else s
theorem z4e{self:pI}{b:Bool}{l:List ND}{N:Nat}(hl:l.length<=10000)(ht:TL 1000 l)(hp:zb2 self b l N)(inner nb:Bool)(kd:Int)(t:Tx)(n c:Int):∀(g:F) (q:Nat) (m dS:Bool) (pre:List Int) (s:Tx),bE l q g->q<=l.length->eD m true dS g=0->g.size<=N->pre.length+g.au<=10000->s.length+1030*g.size<=1100000->aX (qi self) (⟨b,l⟩,inner,s,⟨nb,pre++g.pos q⟩,((pre.length+g.au:Nat):Int),(pre.length:Int),kd,t,n,c,())=some (OH inner c (s++sL (bL g)),()):=by
 intro g
 induction g with
 |nil=>
  intro q m dS pre s _ _ _ _ _ hc;refine cw ?_;unfold qi;simp only;rw[bP,if_neg (by show ¬(pre.length:Int)<((pre.length+0:Nat):Int);omega)];show _=some (Sum.inr (OH inner c (s++[]),()));rw[zt];unfold OH;cases inner with
  |false=>rfl
  |true=>
   rw[aU,af];cases aK 0 c with
   |false=>rfl
   |true=>have hc:s.length+0<=1100000:=hc;rw[aU,CI [40] s (by show 1+s.length<=_;omega),af,tz,CI ([40]++s) [41] (by simp;omega),af,tz];rfl
 |cons k' t' n' bO r' _ ih=>
  intro q m dS pre s hs hq he hN hk hc;have hk:pre.length+(r'.au+1)<=10000:=hk;have hN:bO.size+r'.size+1<=N:=hN;have hc:s.length+1030*(bO.size+r'.size+1)<=1100000:=hc;obtain⟨hm,hn⟩:=cJ.1 he;rw[Bool.true_or] at hm;obtain⟨g1,g2,g3,g4⟩:=hs.node;have hf:=hp q k' t' n' bO r' true hs hm om;have ho:=qp6 k' t' n' bO (bE.tl ht hs.first);have hu:=U5 k' bO.au (cy k' t' n' (bL bO));have hg:pre.length+(F.cons k' t' n' bO r').au=(pre++[(q:Int)]).length+r'.au:=by show pre.length+(r'.au+1)=_;rw[zd,List.length_singleton];omega
  have hj:pre++(F.cons k' t' n' bO r').pos q=(pre++[(q:Int)])++r'.pos (q+1+bO.size):=by show pre++(q:Int)::_=_;rw[zo];rfl
  have step:qi self (⟨b,l⟩,inner,s,⟨nb,pre++(F.cons k' t' n' bO r').pos q⟩,((pre.length+(F.cons k' t' n' bO r').au:Nat):Int),(pre.length:Int),kd,t,n,c,())=
    some (Sum.inl (⟨b,l⟩,inner,s++([32]++gp k' bO.au (cy k' t' n' (bL bO))),⟨nb,pre++(F.cons k' t' n' bO r').pos q⟩,((pre.length+(F.cons k' t' n' bO r').au:Nat):Int),((pre.length+1:Nat):Int),kd,t,n,c,())):=by
   unfold qi;simp only;rw[bP,if_pos (by show(pre.length:Int)<((pre.length+(r'.au+1):Nat):Int);omega)];have ha:cZ (pre++(F.cons k' t' n' bO r').pos q) (pre.length:Int)=some (q:Int):=z5w pre (q:Int) _;rw[ha];simp only[af];rw[hf];simp only[af,cond_true];rw[CI [32] _ (by show 1+_<=_;omega)];simp only[af];rw[tz,CI s _ (by rw[zd,List.length_singleton];omega)];simp only[af];rw[bK om,tz]
  rw[ew step,hg,hj,show pre.length+1=(pre++[(q:Int)]).length from by rw[zd];rfl];rw[ih (q+1+bO.size) m (!dS) (pre++[(q:Int)]) _ g3 om hn om (by rw[zd,List.length_singleton];omega) (by rw[zd,zd,List.length_singleton];omega)];rw[zo];rfl
theorem z08{b:Bool}{l:List ND}(hl:l.length<=1000)(hg:GL l)(ht:TL 1000 l):∀N:Nat,zb2 (cL rV N) b l N
 |0=>fun _ _ _ _ _ _ _ _ _ h=>absurd h (Nat.not_lt_zero _)
 |N+1=>by
  have ih:=z08 (b:=b) hl hg ht N;intro q k t n ks r inner hs he hN;obtain⟨g1,g2,g3,g4⟩:=hs.node;have hx:=hg.at g1;have hq:t.length<=1000:=ht _ (zS g1);obtain⟨hn,hf⟩:=bG.1 he;obtain⟨_,hm,hk,hj,_,_⟩:=bF.1 hn;show rV (cL rV N) (⟨b,l⟩,(q:Int),inner,())=_;rw[SY,dG g1,af];simp only;rw[jA];by_cases k1:k=21
  ·subst k1;rw[if_pos rfl];cases inner<;>rfl
  rw[if_neg k1,jA];by_cases k2:k=22
  ·subst k2;rw[if_pos rfl,U1 (s:=t) hx.1 om,af];cases inner<;>rfl
  rw[if_neg k2,jA];by_cases k3:k=23
  ·subst k3;have hw:oG n=true:=hj;rw[if_pos rfl,OE hw,af];cases inner<;>rfl
  obtain⟨nb,e⟩:=Im b l om hs;rw[if_neg k3,e,af];simp only;have ho:ae (ks.pos (q+1))=(((([]:List Int).length+ks.au:Nat)):Int):=by show(((ks.pos (q+1)).length:Nat):Int)=_;rw[F.oE];show _=((0+ks.au:Nat):Int);rw[zD]
  have hh:=z4e (N:=N) om ht ih inner nb k t n (ks.au:Int) ks (q+1) (ag k 10) false [] t g2 om hf om (by show 0+ks.au<=_;have:=ks.eh;omega) om;rw[ho];refine Eq.trans hh ?_;have hT:cy k t n (bL ks)=t++sL (bL ks):=by unfold cy;rw[if_neg k1,if_neg k2,if_neg k3]
  unfold OH gp;rw[hT];cases inner with
  |false=>rfl
  |true=>
   by_cases hc:ks.au=0
   ·have e1:aK 0 (ks.au:Int)=false:=zn om;rw[e1,if_neg (fun h=>h.2.2.2 hc)];rfl
   ·have e1:aK 0 (ks.au:Int)=true:=zu om;rw[e1,if_pos ⟨k1,k2,k3,hc⟩];rfl
theorem z09{b:Bool}{l:List ND}(hl:l.length<=1000)(hg:GL l)(ht:TL 1000 l){q:Nat}{k:Int}{t:Tx}{n:Int}{ks r:F}(inner:Bool)(hs:bE l q (.cons k t n ks r))(he:bI k t n ks true=0):rW (⟨b,l⟩,(q:Int),inner,())=some (bif inner then gp k ks.au (cy k t n (bL ks)) else cy k t n (bL ks),()):=Dv (ks.size+1) fun N hN=>z08 hl hg ht N q k t n ks r inner hs he hN
theorem K5{k:Nat}(h:k<=1000000000):aG .i64 (k:Int) 2=((k+2:Nat):Int):=by unfold aG;rw[Uv];split<;>omega
theorem CJ{m dS:Bool}{a:Int}{b:Tx}{c:Int}{d r:F}(h:eD m false dS (.cons a b c d r)=0)(hm:(m&&dS)=false):bI a b c d false=0/\eD m false (!dS) r=0:=by obtain⟨h1,h2⟩:=cJ.1 h;rw[hm,Bool.or_false] at h1;exact⟨h1,h2⟩
theorem GR{t:Tx}{n:Int}{ks:F}(h:bI 6 t n ks false=0):∃a b c d a' b' c' d',ks=.cons a b c d (.cons a' b' c' d' .nil)/\bI a b c d false=0/\bI a' b' c' d' false=0:=by obtain⟨hn,hf⟩:=bG.1 h;obtain⟨_,_,hk,_,_,_⟩:=bF.1 hn;obtain⟨_,c2,_⟩:=vD hk;obtain⟨a,b,c,d,r,rfl,hr⟩:=fX (ks:=ks) (n:=1) (by have:=c2 (.inl rfl);omega);obtain⟨a',b',c',d',r',rfl,hc⟩:=fX (n:=0) hr;obtain rfl:=tw hc;obtain⟨e1,hf⟩:=CJ hf rfl;obtain⟨e2,_⟩:=CJ hf rfl;exact⟨a,b,c,d,a',b',c',d',rfl,e1,e2⟩
def jQ(fx:List ar)(k:Int)(ks:F):ar:=(rowOf fx k ks).getD ([],0,0)
theorem z5x(fx:List ar){k:Int}(h:k≠6)(ks:F):rowOf fx k ks=none:=by
 unfold rowOf;split
 ·rw[if_neg (fun e=>h e.1)]
 ·rfl
theorem K6(fx:List ar){a:Int}(h:a≠6)(b:Tx)(c:Int)(d r:F):rowOf fx 6 (.cons a b c d r)=none:=by
 unfold rowOf;split
 ·rename_i e;injection e with e1 e2 e3 e4 e5;subst e1;rw[if_neg (fun e=>h e.2.1)]
 ·rfl
section
variable {b bx:Bool} {l:List ND} {fx:List ar}
theorem U7(hl:l.length<=1000)(hx:fx.length<=1000000){q:Nat}{k:Int}{t:Tx}{n:Int}{ks r:F}(hs:bE l q (.cons k t n ks r))(hv:bI k t n ks false=0):mM ((⟨b,l⟩,⟨bx,fx⟩),(q:Int),())=some (jQ fx k ks,(rowOf fx k ks).isSome,()):=by
 obtain⟨g1,g2,g3,g4⟩:=hs.node;rw[SZ,dG g1,af];simp only;by_cases h6:k=6
 ·subst h6;obtain⟨a,s,c,d,a',s',c',d',rfl,e1,e2⟩:=GR hv;obtain⟨p1,p2,p3,p4⟩:=g2.node;rw[show av (ag 6 6)=false from rfl,aD,bK om,dG p1,af];simp only[af];by_cases ha:a=6
  ·subst ha;obtain⟨a1,s1,c1,d1,a2,s2,c2,d2,rfl,e3,e4⟩:=GR e1;obtain⟨m1,m2,m3,m4⟩:=p2.node;rw[show av (ag 6 6)=false from rfl,aD,K5 om];have m1:l[q+2]?=some (a1,s1,c1,(d1.au:Int)):=m1;rw[dG m1];simp only[af];by_cases h3:a1=3
   ·subst h3;rw[show av (ag 3 3)=false from rfl,aD];rw[find_spec bx fx s1 hx];have hc:rowOf fx 6 (.cons 6 s c (.cons 3 s1 c1 d1 (.cons a2 s2 c2 d2 .nil)) (.cons a' s' c' d' .nil))=jq fx s1:=by show(if(6:Int)=6/\(6:Int)=6/\(3:Int)=3 then jq fx s1 else none)=_;rw[if_pos ⟨rfl,rfl,rfl⟩]
    unfold jQ;rw[hc];cases jq fx s1 with
    |none=>rfl
    |some f=>rfl
   ·have hc:rowOf fx 6 (.cons 6 s c (.cons a1 s1 c1 d1 (.cons a2 s2 c2 d2 .nil)) (.cons a' s' c' d' .nil))=none:=by show(if(6:Int)=6/\(6:Int)=6/\a1=3 then jq fx s1 else none)=_;rw[if_neg (fun e=>h3 e.2.2)]
    rw[dx h3,show av false=true from rfl,aU];unfold jQ;rw[hc];rfl
  ·rw[dx ha,show av false=true from rfl,aU,af,aU];unfold jQ;rw[K6 fx ha];rfl
 ·rw[dx h6,show av false=true from rfl,aU,af,aU,af,aU];unfold jQ;rw[z5x fx h6];rfl
theorem z0a{k:Int}(h5:k≠5)(h7:k≠7)(h8:k≠8)(h9:k≠9)(hc:k≠11)(he:k≠12):kK k=false:=by unfold kK;rw[zn h5,zn h7,zn h8,zn h9,zn hc,zn he];rfl
theorem z0b{α:Type}(k:Int)(A B:Option α):aj (az (ag k 5) (some (ag k 5,())) (aj (az (ag k 7) (some (ag k 7,())) (aj (az (ag k 8) (some (ag k 8,())) (aj (az (ag k 9) (some (ag k 9,())) (aj (az (ag k 11) (some (ag k 11,())) (some (ag k 12,()))) (fun x2=>some (x2.1,())))) (fun x3=>some (x3.1,())))) (fun x4=>some (x4.1,())))) (fun x5=>some (x5.1,())))) (fun x6=>az x6.1 A B)=az (kK k) A B:=by
 by_cases h5:k=5
 ·subst h5;rfl
 by_cases h7:k=7
 ·subst h7;rfl
 by_cases h8:k=8
 ·subst h8;rfl
 by_cases h9:k=9
 ·subst h9;rfl
 by_cases hc:k=11
 ·subst hc;rfl
 by_cases he:k=12
 ·subst he;rfl
 rw[dx h5,dx h7,dx h8,dx h9,dx hc,dx he,z0a h5 h7 h8 h9 hc he];simp only[aD,af]
theorem Iu(hl:l.length<=1000)(hx:fx.length<=1000000){q:Nat}{k:Int}{t:Tx}{n:Int}{ks r:F}(hs:bE l q (.cons k t n ks r))(hv:bI k t n ks false=0):jo ((⟨b,l⟩,⟨bx,fx⟩),(q:Int),())=some (cO fx k ks,()):=by
 obtain⟨g1,g2,g3,g4⟩:=hs.node;rw[S0,dG g1,af];simp only;rw[jA];unfold cO;by_cases h6:k=6
 ·rw[if_pos h6,if_pos h6,U7 hl hx hs hv,af];simp only;cases rowOf fx k ks<;>rfl
 ·rw[if_neg h6,if_neg h6,z0b];cases kK k<;>rfl
def vH(self:jd)(b bx:Bool)(l:List ND)(fx:List ar)(N:Nat):Prop:=∀(q:Nat) (k:Int) (t:Tx) (n:Int) (ks r:F),bE l q (.cons k t n ks r)->bI k t n ks false=0->ks.size<N->
 self ((q:Int),⟨b,l⟩,⟨bx,fx⟩,())=some (⟨false,(dT fx k t n ks).p.doc.flat⟩,⟨b,l⟩,⟨bx,fx⟩,())
theorem bE.small{k:Int}{t:Tx}{n:Int}{ks r:F}{q:Nat}(hl:l.length<=1000)(hs:bE l q (.cons k t n ks r)):ks.size+1<=1000:=by obtain⟨g1,g2,g3,g4⟩:=hs.node;omega
theorem uW(hl:l.length<=1000){k:Int}{t:Tx}{n:Int}{ks r:F}{q:Nat}(hs:bE l q (.cons k t n ks r))(hv:bI k t n ks false=0):(dT fx k t n ks).p.doc.size<=6000:=by have:=qtt fx hv;have:=hs.small hl;omega
theorem z4f(fx:List ar)(k:Int)(t:Tx)(n:Int)(ks:F)(ds:List Dc):(eF fx k t n ks ds).au=1:=by
 unfold eF;split
 ·rfl
 split
 ·rfl
 split
 ·rfl
 split
 ·unfold GO
  repeat (first|(split;rfl)|rfl)
 split
 ·unfold z5v;split<;>rfl
 split
 ·split<;>rfl
 ·rfl
theorem pn(fx:List ar)(k:Int)(t:Tx)(n:Int)(ks:F):(dT fx k t n ks).p.doc.au=1:=z4f fx k t n ks _
theorem OI{self:jd}{N:Nat}(hl:l.length<=1000)(hp:vH self b bx l fx N){q:Nat}{k:Int}{t:Tx}{n:Int}{ks r:F}(br:Bool)(hs:bE l q (.cons k t n ks r))(hv:bI k t n ks false=0)(hN:ks.size<N):um self ((q:Int),br,⟨b,l⟩,⟨bx,fx⟩,())=some (⟨false,(mY br (dT fx k t n ks).p.doc).flat⟩,⟨b,l⟩,⟨bx,fx⟩,()):=by
 have e:=hp q k t n ks r hs hv hN;have hz:=uW (fx:=fx) hl hs hv;rw[qef,e,af];cases br with
 |false=>rfl
 |true=>rw[aU,nL];simp only[af];rw[nL];simp only[af];rw[U0 false (.cons (d:=cq [40]) rfl rfl (.cons rfl (pn fx k t n ks) (.one (d:=cq [41]) rfl rfl))) (by rw[fN,fN,fN,jg,kA,kA];omega)];simp only[af];rfl
theorem qp7{self:jd}{N:Nat}(hl:l.length<=1000)(hx:fx.length<=1000000)(hp:vH self b bx l fx N){q:Nat}{k:Int}{t:Tx}{n:Int}{ks r:F}(op:Tx)(lv sd s:Int)(hs:bE l q (.cons k t n ks r))(hv:bI k t n ks false=0)(hN:ks.size<N):Dz self ((q:Int),(op,lv,sd),s,⟨b,l⟩,⟨bx,fx⟩,())=some (⟨false,(qI (dT fx k t n ks).p lv sd s).flat⟩,⟨b,l⟩,⟨bx,fx⟩,()):=by
 have he:(dT fx k t n ks).p.lk=cO fx k ks:=rfl;have hf:(dT fx k t n ks).p.lv=(jQ fx k ks).2.1:=rfl;have hg:(dT fx k t n ks).p.sd=(jQ fx k ks).2.2:=rfl;rw[qeg,Iu hl hx hs hv,af];simp only;rw[jA];by_cases h3:cO fx k ks=3
 ·rw[if_pos h3];have e:=OI hl hp true hs hv hN;rw[e];simp only[af];unfold qI;rw[he,zu h3,Bool.true_or]
 ·rw[if_neg h3,S1,U7 hl hx hs hv];simp only[af];have hc:az (rowOf fx k ks).isSome (az (aK (jQ fx k ks).2.1 lv) (some true) (az (ag (jQ fx k ks).2.1 lv) (az (av (ag (jQ fx k ks).2.2 s)) (some true) (some (av (ag sd s)))) (some false))) (some false)=some (sM (dT fx k t n ks).p lv sd s):=by
   unfold sM;rw[he,hf,hg];cases hr:rowOf fx k ks with
   |none=>
    have:cO fx k ks≠2:=by
     unfold cO;rw[hr];split
     ·decide
     split<;>decide
    rw[zn this];rfl
   |some f=>
    have:cO fx k ks=2:=by
     unfold cO;rw[hr];by_cases h6:k=6
     ·rw[if_pos h6]
     ·rw[z5x fx h6] at hr;cases hr
    rw[zu this];show az true _ _=_;rw[aU,Bool.true_and,bP];generalize (jQ fx k ks).2.1=p1;generalize (jQ fx k ks).2.2=p2;by_cases c1:p1<lv
    ·rw[if_pos c1,zu c1];rfl
    ·rw[if_neg c1,zn c1,jA,Bool.false_or];by_cases c2:p1=lv
     ·rw[if_pos c2,zu c2,Bool.true_and];by_cases c3:p2=s
      ·subst c3;rw[show ag p2 p2=true from dB.2 rfl,show av true=false from rfl,aD,zn (fun h=>h rfl),Bool.false_or];by_cases c4:sd=p2
       ·subst c4;rw[show ag sd sd=true from dB.2 rfl,zn (fun h=>h rfl)];rfl
       ·rw[dx c4,zu c4];rfl
      ·rw[dx c3,show av false=true from rfl,aU,zu c3];rfl
     ·rw[if_neg c2,zn c2];rfl
  rw[hc];simp only[af];have e:=OI hl hp (sM (dT fx k t n ks).p lv sd s) hs hv hN;rw[e];simp only[af];unfold qI;rw[he,zn h3,Bool.false_or]
end
section
variable {b bx:Bool} {l:List ND} {fx:List ar} {self:jd} {N:Nat}
theorem Iv{q:Nat}{ks:F}{z:Int}{i:Int}{k:Int}{t:Tx}{n:Int}{bO r':F}{at_:Nat}(hl:l.length<=1000)(hp:vH self b bx l fx N)(hk:∃nb,gA (⟨b,l⟩,(q:Int),())=some (⟨nb,ks.pos (q+1)⟩,()))(hi:cZ (ks.pos (q+1)) i=some (at_:Int))(hs:bE l at_ (.cons k t n bO r'))(hv:bI k t n bO false=0)(hN:bO.size<N):Dy self (i,(q:Int),⟨b,l⟩,⟨bx,fx⟩,())=some (⟨false,(dT fx k t n bO).p.doc.flat⟩,(q:Int),⟨b,l⟩,⟨bx,fx⟩,()):=by have _:=hl;have _:=z;obtain⟨nb,e⟩:=hk;have e2:=hp at_ k t n bO r' hs hv hN;rw[qd1,e,af];simp only;rw[hi];simp only[af];rw[e2];simp only[af]
theorem OJ{s:Tx}{p q:Tx}(hs:∀b,b∈s->0<=b/\b<=255)(hl:s.length<=1000)(hp:p.length<=100)(hq:q.length<=100){β:Type}(K:Y0×Unit->Option β):aj (kY (s,())) (fun x=>aj (fit (aQ (ae p) (ae x.1))) (fun _=>aj (fit (aQ (ae (fY p x.1)) (ae q))) (fun _=>aj (gb (fY (fY p x.1) q,())) K)))=K (⟨false,(cq (p++nI s++q)).flat⟩,()):=by have hn:=U4 s;rw[U1 hs om,af];simp only;rw[CI p (nI s) om,af,tz,CI (p++nI s) q (by rw[zd];omega),af,tz,nL,af]
theorem D0{d:F}(h:d.size<=6000):(cm d).size<=6003:=Nat.le_trans (GQ d) om
theorem z4g(hl:l.length<=1000)(hg:GL l)(ht:TL 1000 l)(hp:vH self b bx l fx N){q:Nat}{k:Int}{t:Tx}{n:Int}{ks r:F}(hs:bE l q (.cons k t n ks r))(hv:bI k t n ks false=0)(hN:ks.size<=N)(ho:kK k=true):oq self ((q:Int),⟨b,l⟩,⟨bx,fx⟩,())=some (⟨false,(dT fx k t n ks).p.doc.flat⟩,⟨b,l⟩,⟨bx,fx⟩,()):=by
 obtain⟨g1,g2,g3,g4⟩:=hs.node;have hx:=(hg.at g1).1;have he:t.length<=1000:=ht _ (zS g1);obtain⟨hn,hf⟩:=bG.1 hv;obtain⟨_,_,hk,_,_,_⟩:=bF.1 hn;obtain⟨c1,c2,c3,_,_⟩:=vD hk;have hc:=Im b l om hs;have hj:(dT fx k t n ks).p.doc=GO k t (cF (dF fx ks) 0).p.doc (cF (dF fx ks) 1).p.doc (cF (dF fx ks) 2).p.doc:=OA fx t n ks _ ho;have lW:ag k 10=false:=by rcases yV ho with h|h|h|h|h|h<;>subst h<;>rfl
 rw[lW] at hf;rw[Cb,dG g1,af];simp only;rw[hj];by_cases hA:k=5\/k=11
 ·obtain⟨a,s,c,d,rfl⟩:=Ox (c1 hA);obtain⟨v1,_⟩:=CJ hf rfl;have hq:d.size+0+1<=N:=hN;have k1:=Iv (z:=0) (i:=0) hl hp hc rfl g2 v1 om;have s1:=uW (fx:=fx) hl g2 v1;have u1:=D0 s1;have n0:(cF (dF fx (.cons a s c d .nil)) 0).p.doc=(dT fx a s c d).p.doc:=rfl;rw[n0];rcases hA with rfl|rfl
  ·rw[show ag 5 1=false from rfl,aD,show ag 5 2=false from rfl,aD,show ag 5 3=false from rfl,aD,show ag 5 5=true from rfl,aU,OJ hx he dc dc,k1];simp only[af];rw[yX _ (d:=(dT fx a s c d).p.doc) rfl (pn fx a s c d) om];simp only[af];rw[CG false (.cons (d:=cq _) rfl rfl (.one (d:=cm _) rfl rfl)) (by simp only[fN,jg,kA];omega)];simp only[af];rfl
  ·rw[show ag 11 1=false from rfl,aD,show ag 11 2=false from rfl,aD,show ag 11 3=false from rfl,aD,show ag 11 5=false from rfl,aD,show ag 11 7=false from rfl,aD,
    show ag 11 8=false from rfl,aD,show ag 11 9=false from rfl,aD,show ag 11 11=true from rfl,aU,nL]
   simp only[af];rw[k1];simp only[af];rw[yX _ (d:=(dT fx a s c d).p.doc) rfl (pn fx a s c d) om];simp only[af];rw[CG false (.cons (d:=cq _) rfl rfl (.one (d:=cm _) rfl rfl)) (by simp only[fN,jg,kA];omega)];simp only[af];rfl
 by_cases h9:k=9
 ·subst h9;obtain⟨a,s,c,d,r1,rfl,hr⟩:=fX (ks:=ks) (n:=2) (by have:=c3 rfl;omega);obtain⟨a',s',c',d',r2,rfl,hm⟩:=fX (n:=1) hr;obtain⟨a2,s2,jh,d2,r3,rfl,hu⟩:=fX (n:=0) hm;obtain rfl:=tw hu;obtain⟨v1,hf⟩:=CJ hf rfl;obtain⟨v2,hf⟩:=CJ hf rfl;obtain⟨v3,hf⟩:=CJ hf rfl;have hq:d.size+(d'.size+(d2.size+0+1)+1)+1<=N:=hN;obtain⟨_,_,p2,_⟩:=g2.node;obtain⟨_,_,p3,_⟩:=p2.node;have k1:=Iv (z:=0) (i:=0) hl hp hc rfl g2 v1 om;have k2:=Iv (z:=0) (i:=1) hl hp hc rfl p2 v2 om;have k3:=Iv (z:=0) (i:=2) hl hp hc rfl p3 v3 om;have s1:=uW (fx:=fx) hl g2 v1;have U8:=uW (fx:=fx) hl p2 v2;have s3:=uW (fx:=fx) hl p3 v3;have u1:=D0 s1;have u2:=D0 U8;have u3:=D0 s3;rw[show ag 9 1=false from rfl,aD,show ag 9 2=false from rfl,aD,show ag 9 3=false from rfl,aD,show ag 9 5=false from rfl,aD,show ag 9 7=false from rfl,aD,
    show ag 9 8=false from rfl,aD,show ag 9 9=true from rfl,aU,nL]
  simp only[af];rw[k1];simp only[af];rw[yX _ (d:=(dT fx a s c d).p.doc) rfl (pn fx a s c d) om];simp only[af];rw[yW];simp only[af];rw[nL];simp only[af];rw[k2];simp only[af];rw[yX _ (d:=(dT fx a' s' c' d').p.doc) rfl (pn fx a' s' c' d') om];simp only[af];rw[nL];simp only[af];rw[k3];simp only[af];rw[yX _ (d:=(dT fx a2 s2 jh d2).p.doc) rfl (pn fx a2 s2 jh d2) om];simp only[af];rw[CG false (.cons (d:=cq _) rfl rfl (.cons (d:=cm _) rfl rfl (.cons (d:=cB) rfl rfl (.cons (d:=cq _) rfl rfl (.cons (d:=cm _) rfl rfl (.cons (d:=cB) rfl rfl (.cons (d:=cq _) rfl rfl (.one (d:=cm _) rfl rfl)))))))) (by simp only[fN,jg,kA,pj];omega)];simp only[af];rfl
 have h2:k=6\/k=7\/k=8\/k=12:=by
  rcases yV ho with h|h|h|h|h|h
  ·exact absurd (.inl h) hA
  ·exact .inr (.inl h)
  ·exact .inr (.inr (.inl h))
  ·exact absurd h h9
  ·exact absurd (.inr h) hA
  ·exact .inr (.inr (.inr h))
 obtain⟨a,s,c,d,r1,rfl,hr⟩:=fX (ks:=ks) (n:=1) (by have:=c2 h2;omega);obtain⟨a',s',c',d',r2,rfl,hm⟩:=fX (n:=0) hr;obtain rfl:=tw hm;obtain⟨v1,hf⟩:=CJ hf rfl;obtain⟨v2,hf⟩:=CJ hf rfl;have hq:d.size+(d'.size+0+1)+1<=N:=hN;obtain⟨_,_,p2,_⟩:=g2.node;have k1:=Iv (z:=0) (i:=0) hl hp hc rfl g2 v1 om;have k2:=Iv (z:=0) (i:=1) hl hp hc rfl p2 v2 om;have s1:=uW (fx:=fx) hl g2 v1;have U8:=uW (fx:=fx) hl p2 v2;have u1:=D0 s1;have u2:=D0 U8;have n0:(cF (dF fx (.cons a s c d (.cons a' s' c' d' .nil))) 0).p.doc=(dT fx a s c d).p.doc:=rfl;have n1:(cF (dF fx (.cons a s c d (.cons a' s' c' d' .nil))) 1).p.doc=(dT fx a' s' c' d').p.doc:=rfl;rw[n0,n1];rcases yV ho with h|h|h|h|h|h
 ·exact absurd (.inl h) hA
 ·subst h;rw[show ag 7 1=false from rfl,aD,show ag 7 2=false from rfl,aD,show ag 7 3=false from rfl,aD,show ag 7 5=false from rfl,aD,show ag 7 7=true from rfl,aU,OJ hx he dc dc,k1];simp only[af];rw[yX _ (d:=(dT fx a s c d).p.doc) rfl (pn fx a s c d) om];simp only[af];rw[yW];simp only[af];rw[nL];simp only[af];rw[k2];simp only[af];rw[CG false (.cons (d:=cq _) rfl rfl (.cons (d:=cm _) rfl rfl (.cons (d:=cB) rfl rfl (.cons (d:=cq _) rfl rfl (.cons (d:=cB) rfl rfl (.one (d:=(dT fx a' s' c' d').p.doc) rfl (pn fx a' s' c' d'))))))) (by simp only[fN,jg,kA,pj];omega)];simp only[af];rfl
 ·subst h;rw[show ag 8 1=false from rfl,aD,show ag 8 2=false from rfl,aD,show ag 8 3=false from rfl,aD,show ag 8 5=false from rfl,aD,show ag 8 7=false from rfl,aD,show ag 8 8=true from rfl,aU,OJ hx he dc dc,k1];simp only[af];rw[yX _ (d:=(dT fx a s c d).p.doc) rfl (pn fx a s c d) om];simp only[af];rw[yW];simp only[af];rw[nL];simp only[af];rw[k2];simp only[af];rw[CG false (.cons (d:=cq _) rfl rfl (.cons (d:=cm _) rfl rfl (.cons (d:=cB) rfl rfl (.cons (d:=cq _) rfl rfl (.cons (d:=cB) rfl rfl (.one (d:=(dT fx a' s' c' d').p.doc) rfl (pn fx a' s' c' d'))))))) (by simp only[fN,jg,kA,pj];omega)];simp only[af];rfl
 ·exact absurd h h9
 ·exact absurd (.inr h) hA
 ·subst h;rw[show ag 12 1=false from rfl,aD,show ag 12 2=false from rfl,aD,show ag 12 3=false from rfl,aD,show ag 12 5=false from rfl,aD,show ag 12 7=false from rfl,aD,
   show ag 12 8=false from rfl,aD,show ag 12 9=false from rfl,aD,show ag 12 11=false from rfl,aD,show ag 12 12=true from rfl,aU,nL]
  simp only[af];rw[k1];simp only[af];rw[yX _ (d:=(dT fx a s c d).p.doc) rfl (pn fx a s c d) om];simp only[af];rw[yW];simp only[af];rw[OJ hx he dc dc,k2];simp only[af];rw[yX _ (d:=(dT fx a' s' c' d').p.doc) rfl (pn fx a' s' c' d') om];simp only[af];rw[CG false (.cons (d:=cq _) rfl rfl (.cons (d:=cm _) rfl rfl (.cons (d:=cB) rfl rfl (.cons (d:=cq _) rfl rfl (.one (d:=cm _) rfl rfl))))) (by simp only[fN,jg,kA,pj];omega)];simp only[af];rfl
theorem z4h(hl:l.length<=1000)(ht:TL 1000 l)(hx:fx.length<=1000000)(hj:∀f,f∈fx->f.1.length<=1000)(hp:vH self b bx l fx N){q:Nat}{t:Tx}{n:Int}{ks r:F}(hs:bE l q (.cons 6 t n ks r))(hv:bI 6 t n ks false=0)(hN:ks.size<=N){f:ar}(hr:rowOf fx 6 ks=some f):DA self ((q:Int),⟨b,l⟩,⟨bx,fx⟩,())=some (⟨false,(dT fx 6 t n ks).p.doc.flat⟩,⟨b,l⟩,⟨bx,fx⟩,()):=by
 have _:=ht;obtain⟨g1,g2,g3,g4⟩:=hs.node;have hg:=U7 (b:=b) (bx:=bx) hl hx hs hv;have hG:jQ fx 6 ks=f:=by unfold jQ;rw[hr];rfl
 rw[hG,hr] at hg;obtain⟨nb,hc⟩:=Im b l om hs;have he:(dT fx 6 t n ks).p.doc=CE f (cF (dF fx ks) 0).b (cF (dF fx ks) 1).p:=by show eF fx 6 t n ks _=_;unfold eF;rw[if_neg dc,if_neg dc,if_neg dc,if_neg dc,if_neg dc,if_pos rfl,hr]
 rw[he];obtain⟨a,s,c,d,a',s',c',d',rfl,v1,v2⟩:=GR hv;have ha:a=6:=zA fun h=>by rw[K6 fx h] at hr;cases hr
 subst ha;obtain⟨a1,s1,c1,d1,a2,s2,c2,d2,rfl,w1,w2⟩:=GR v1;have hn:d1.size+(d2.size+0+1)+1+(d'.size+0+1)+1<=N:=hN;obtain⟨_,m2,p2,_⟩:=g2.node;obtain⟨_,_,n2,_⟩:=m2.node;obtain⟨Uu,hk⟩:=Im b l om g2;have ho:f.1.length<=1000:=by
  have h3:a1=3:=zA fun h=>by have:rowOf fx 6 (.cons 6 s c (.cons a1 s1 c1 d1 (.cons a2 s2 c2 d2 .nil)) (.cons a' s' c' d' .nil))=none:=if_neg (fun e=>h e.2.2);rw[this] at hr;cases hr
  have:rowOf fx 6 (.cons 6 s c (.cons a1 s1 c1 d1 (.cons a2 s2 c2 d2 .nil)) (.cons a' s' c' d' .nil))=jq fx s1:=if_pos ⟨rfl,rfl,h3⟩;rw[this] at hr;exact hj f (AI hr).1
 have sl:=uW (fx:=fx) hl n2 w2;have sr:=uW (fx:=fx) hl p2 v2;have zl:=Oy (dT fx a2 s2 c2 d2).p f.2.1 f.2.2 (-1);have zr:=Oy (dT fx a' s' c' d').p f.2.1 f.2.2 1;have k1:=qp7 (b:=b) (bx:=bx) hl hx hp f.1 f.2.1 f.2.2 (-1) n2 w2 om;have k2:=qp7 (b:=b) (bx:=bx) hl hx hp f.1 f.2.1 f.2.2 1 p2 v2 om;rw[qeh,hg];simp only[af];rw[hc];simp only[af];have K7:cZ ((F.cons 6 s c (.cons a1 s1 c1 d1 (.cons a2 s2 c2 d2 .nil)) (.cons a' s' c' d' .nil)).pos (q+1)) 0=some ((q+1:Nat):Int):=rfl;have Av:cZ ((F.cons 6 s c (.cons a1 s1 c1 d1 (.cons a2 s2 c2 d2 .nil)) (.cons a' s' c' d' .nil)).pos (q+1)) 1=some ((q+1+1+(F.cons a1 s1 c1 d1 (.cons a2 s2 c2 d2 .nil)).size:Nat):Int):=rfl;have at2:cZ ((F.cons a1 s1 c1 d1 (.cons a2 s2 c2 d2 .nil)).pos (q+1+1)) 1=some ((q+1+1+1+d1.size:Nat):Int):=rfl;rw[K7];simp only[af];rw[hk];simp only[af];rw[at2];simp only[af];rw[k1];simp only[af];rw[yW];simp only[af];rw[CI f.1 [32] (by show f.1.length+1<=_;omega)];simp only[af];rw[nL];simp only[af];rw[Av];simp only[af];rw[k2];simp only[af];have hf:=OD false (.cons (y:=⟨false,cB.flat⟩) (d:=cB) rfl rfl (.cons (y:=⟨false,(cq (f.1++[32])).flat⟩) (d:=cq (f.1++[32])) rfl rfl (.one (y:=⟨false,(qI (dT fx a' s' c' d').p f.2.1 f.2.2 1).flat⟩) (d:=qI (dT fx a' s' c' d').p f.2.1 f.2.2 1) rfl (OC _ (pn fx a' s' c' d'))))) (by simp only[fN,jg,kA,pj];omega);have hm:=It [cB,cq (f.1++[32]),qI (dT fx a' s' c' d').p f.2.1 f.2.2 1];simp only[fN,jg,kA,pj] at hm;rw[show fY f.1 [32]=f.1++[32] from tz _ _,hf];simp only[af];rw[CG false (.cons (d:=qI (dT fx a2 s2 c2 d2).p f.2.1 f.2.2 (-1)) rfl (OC _ (pn fx a2 s2 c2 d2)) (.one (d:=kJ _) rfl rfl)) (by simp only[fN,jg];omega)];simp only[af];rfl
end
def kB(ps:List Pt):List F:=ps.reverse.flatMap fun p=>[cB,fy p]
theorem U9(ps:List Pt)(p:Pt):kB (ps++[p])=[cB,fy p]++kB ps:=by unfold kB;rw[List.reverse_append,List.flatMap_append];rfl
def tA(fx:List ar)(l:List ND)(N:Nat)(a:Int)(p:Pt):Prop:=∃(q:Nat) (k:Int) (t:Tx) (n:Int) (ks r:F),a=(q:Int)/\bE l q (.cons k t n ks r)/\bI k t n ks false=0/\ks.size<N/\p=(dT fx k t n ks).p
theorem tA.au{fx:List ar}{l:List ND}{N:Nat}{a:Int}{p:Pt}(h:tA fx l N a p):p.doc.au=1:=by obtain⟨q,k,t,n,ks,r,_,_,_,_,rfl⟩:=h;exact pn fx k t n ks
section
variable {b bx:Bool} {l:List ND} {fx:List ar} {self:jd} {N:Nat}
theorem zb3(hl:l.length<=1000)(hx:fx.length<=1000000)(hp:vH self b bx l fx N){q:Nat}{k:Int}{t:Tx}{n:Int}{ks r:F}(hs:bE l q (.cons k t n ks r))(hv:bI k t n ks false=0)(hN:ks.size<N)(na:Bool)(A:List Int)(ps:List Pt)(hy:A.length=ps.length)(hD:A.length<=10000)(ha:∀(i:Nat) a p,A[i]?=some a->ps[i]?=some p->tA fx l N a p):∀(m:Nat) (nr:Bool) (R:List Y0) (es:List F),m<=A.length->Ds R es->(bD (es++kB (ps.take m))).size<=10000->aX (Kl self) ((q:Int),cO fx k ks,((m:Nat):Int)-1,⟨b,l⟩,⟨bx,fx⟩,⟨na,A⟩,⟨nr,R⟩,())=some (Sum.inr (⟨false,(fD [tq (dT fx k t n ks).p,kJ (es++kB (ps.take m))]).flat⟩,⟨b,l⟩,⟨bx,fx⟩,())):=by
 intro m
 induction m with
 |zero=>
  intro nr R es _ hR hf;have hz:kB (ps.take 0)=[]:=rfl;rw[hz,zt] at hf ⊢;have e:=OI hl hp (decide (cO fx k ks=2)||decide (cO fx k ks=3)) hs hv hN;have e:um self ((q:Int),(decide (cO fx k ks=2)||decide (cO fx k ks=3)),⟨b,l⟩,⟨bx,fx⟩,())=some (⟨false,(tq (dT fx k t n ks).p).flat⟩,⟨b,l⟩,⟨bx,fx⟩,()):=e;have hj:az (ag (cO fx k ks) 2) (some true) (some (ag (cO fx k ks) 3))=some (decide (cO fx k ks=2)||decide (cO fx k ks=3)):=by
   rw[jA];by_cases c:cO fx k ks=2
   ·rw[if_pos c,zu c];rfl
   ·rw[if_neg c,zn c,Bool.false_or];refine congrArg some ?_;by_cases c3:cO fx k ks=3
    ·rw[c3];rfl
    ·rw[dx c3,zn c3]
  have hd:=uW (fx:=fx) hl hs hv;have hh:=qkj (dT fx k t n ks).p;have hn:=It es;refine cw ?_;unfold Kl;simp only;rw[EU,if_neg om,hj,af];rw[e];simp only[af];rw[OD nr hR om];simp only[af];have hc:(tq (dT fx k t n ks).p).au=1:=OC _ (pn fx k t n ks);rw[CG false (.cons (y:=⟨false,(tq (dT fx k t n ks).p).flat⟩) (d:=tq (dT fx k t n ks).p) rfl hc (.one (d:=kJ es) rfl rfl)) (by simp only[fN,jg];omega)];simp only[af]
 |succ m ih=>
  intro nr R es hm hR hf;have ho:m<A.length:=om
  have hq:m<ps.length:=om
  have hA:A[m]?=some A[m]:=zg ho;have hP:ps[m]?=some ps[m]:=zg hq;have hg:=ha m _ _ hA hP;have he:ps.take (m+1)=ps.take m++[ps[m]]:=(List.take_append_getElem hq).symm;have hk:=hg.au;obtain⟨q',k',t',n',bO,r',e1,ht,hu,hB,e2⟩:=hg;have e:=OI hl hp (decide ((dT fx k' t' n' bO).p.lk≠0)) ht hu hB;rw[he,U9,<-zo] at hf;have hC:Ds (R++[(⟨false,cB.flat⟩:Y0),⟨false,(fy ps[m]).flat⟩]) (es++[cB,fy ps[m]]):=hR.app (.cons rfl rfl (.one rfl (OC _ hk)));have hw:(R.length:Nat)<=10000:=by have:=K4 hR.2;have:=hR.len;have hh:=CF es ([cB,fy ps[m]]++kB (ps.take m));rw[zo] at hf;omega
  have e':=ih (aF nr (cj ([(⟨false,cB.flat⟩:Y0),⟨false,(fy ps[m]).flat⟩]:List Y0))) (R++[⟨false,cB.flat⟩,⟨false,(fy ps[m]).flat⟩]) (es++[cB,fy ps[m]]) om hC hf;have step:Kl self ((q:Int),cO fx k ks,((m+1:Nat):Int)-1,⟨b,l⟩,⟨bx,fx⟩,⟨na,A⟩,⟨nr,R⟩,())=
    some (Sum.inl ((q:Int),cO fx k ks,((m:Nat):Int)-1,⟨b,l⟩,⟨bx,fx⟩,⟨na,A⟩,⟨aF nr (cj ([(⟨false,cB.flat⟩:Y0),⟨false,(fy ps[m]).flat⟩]:List Y0)),R++[⟨false,cB.flat⟩,⟨false,(fy ps[m]).flat⟩]⟩,())):=by
   have hi:((m+1:Nat):Int)-1=(m:Int):=om
   unfold Kl;simp only;rw[hi,EU,if_pos om,yW];simp only[af];rw[nE ho];simp only[af];rw[vA hA];simp only[af];rw[e1,Iu hl hx ht hu];simp only[af];have hj:av (ag (cO fx k' bO) 0)=decide ((dT fx k' t' n' bO).p.lk≠0):=by
    show av (ag (cO fx k' bO) 0)=decide (cO fx k' bO≠0);by_cases c:cO fx k' bO=0
    ·rw[c];rfl
    ·rw[dx c,zu c];rfl
   rw[hj,e];simp only[af];rw[show ae R=((R.length:Nat):Int) from rfl,show ae ([(⟨false,cB.flat⟩:Y0),⟨false,(mY (decide ((dT fx k' t' n' bO).p.lk≠0)) (dT fx k' t' n' bO).p.doc).flat⟩]:List Y0)=((2:Nat):Int) from rfl,o7 om];simp only[af];rw[show bU .i64 (m:Int) 1=(m:Int)-1 from nv om om,e2];rfl
  rw[ew step,e',he,U9,zo]
theorem z5y{t:Tx}{n:Int}{a a':Int}{s s':Tx}{c c':Int}{d d':F}(h:cO fx 6 (.cons a s c d (.cons a' s' c' d' .nil))=1):(dT fx 6 t n (.cons a s c d (.cons a' s' c' d' .nil))).hd=(dT fx a s c d).hd/\(dT fx 6 t n (.cons a s c d (.cons a' s' c' d' .nil))).args=(dT fx a s c d).args++[cB,fy (dT fx a' s' c' d').p]:=⟨if_pos h,if_pos h⟩
theorem z5z{k:Int}{t:Tx}{n:Int}{ks:F}(h:cO fx k ks≠1):(dT fx k t n ks).hd=(dT fx k t n ks).p/\(dT fx k t n ks).args=[]:=⟨if_neg h,if_neg h⟩
theorem z60{k:Int}{ks:F}(h:cO fx k ks=1):k=6:=by refine zA fun h6=>?_;unfold cO at h;rw[if_neg h6] at h;split at h<;>exact absurd h dc
theorem zcn(hl:l.length<=1000)(hx:fx.length<=1000000)(hp:vH self b bx l fx N):∀(M:Nat) (q:Nat) (k:Int) (t:Tx) (n:Int) (ks r:F) (nb:Bool) (A:List Int) (ps:List Pt),ks.size<=M->bE l q (.cons k t n ks r)->bI k t n ks false=0->(cO fx k ks≠1->ks.size<N)->ks.size<=N->A.length=ps.length->A.length+ks.size<=1000->(∀(i:Nat) a p,A[i]?=some a->ps[i]?=some p->tA fx l N a p)->(bD ((dT fx k t n ks).args++kB ps)).size<=10000->aX (Ib self) ((q:Int),⟨b,l⟩,⟨bx,fx⟩,⟨nb,A⟩,())=some (⟨false,(fD [tq (dT fx k t n ks).hd,kJ ((dT fx k t n ks).args++kB ps)]).flat⟩,⟨b,l⟩,⟨bx,fx⟩,()):=by
 intro M
 induction M with
 |zero=>
  intro q k t n ks r nb A ps hM hs hv hj hm hc hn ha he;have hk:cO fx k ks≠1:=by intro h;have h6:=z60 h;subst h6;obtain⟨a,s,c,d,a',s',c',d',rfl,_⟩:=GR hv;have hM:d.size+(d'.size+0+1)+1<=0:=hM;omega
  obtain⟨e1,e2⟩:=z5z (t:=t) (n:=n) hk;rw[e2,List.nil_append] at he;have e:=zb3 hl hx hp hs hv (hj hk) nb A ps hc om ha A.length true [] [] (Nat.le_refl _) .nil (by rw[hc,List.take_length,List.nil_append];exact he);rw[hc,List.take_length] at e;refine cw ?_;unfold Ib;simp only;rw[Iu hl hx hs hv,af,jA,if_neg hk,af];simp only;rw[show bU .i64 (ae A) 1=((ps.length:Nat):Int)-1 from by rw[show ae A=((A.length:Nat):Int) from rfl,hc];exact nv om om,e,e1,e2]
 |succ M ih=>
  intro q k t n ks r nb A ps hM hs hv hj hm hc hn ha he;by_cases hk:cO fx k ks=1
  ·have h6:=z60 hk;subst h6;obtain⟨g1,g2,g3,g4⟩:=hs.node;obtain⟨Uu,hf⟩:=Im b l om hs;have hg:=Iu (b:=b) (bx:=bx) hl hx hs hv;obtain⟨a,s,c,d,a',s',c',d',rfl,v1,v2⟩:=GR hv;obtain⟨e1,e2⟩:=z5y (t:=t) (n:=n) hk;have hM:d.size+(d'.size+0+1)+1<=M+1:=hM;have hm:d.size+(d'.size+0+1)+1<=N:=hm;have hn:A.length+(d.size+(d'.size+0+1)+1)<=1000:=hn;obtain⟨_,_,p2,_⟩:=g2.node;have step:Ib self ((q:Int),⟨b,l⟩,⟨bx,fx⟩,⟨nb,A⟩,())=some (Sum.inl (((q+1:Nat):Int),⟨b,l⟩,⟨bx,fx⟩,⟨aF nb (cj ([((q+1+1+d.size:Nat):Int)]:Y2)),A++[((q+1+1+d.size:Nat):Int)]⟩,())):=by unfold Ib;simp only;rw[hg,af,jA,if_pos hk,hf];simp only[af];have K7:cZ ((F.cons a s c d (.cons a' s' c' d' .nil)).pos (q+1)) 0=some ((q+1:Nat):Int):=rfl;have Av:cZ ((F.cons a s c d (.cons a' s' c' d' .nil)).pos (q+1)) 1=some ((q+1+1+d.size:Nat):Int):=rfl;rw[Av];simp only[af];rw[show ae A=((A.length:Nat):Int) from rfl,show ae ([((q+1+1+d.size:Nat):Int)]:Y2)=((1:Nat):Int) from rfl,o7 om];simp only[af];rw[K7];simp only[af];rfl
   have hT:(dT fx a s c d).args++kB (ps++[(dT fx a' s' c' d').p])=(dT fx 6 t n (.cons a s c d (.cons a' s' c' d' .nil))).args++kB ps:=by rw[e2,U9,zo]
   have e:=ih (q+1) a s c d (.cons a' s' c' d' .nil) (aF nb (cj ([((q+1+1+d.size:Nat):Int)]:Y2))) (A++[((q+1+1+d.size:Nat):Int)]) (ps++[(dT fx a' s' c' d').p]) om g2 v1 (fun _=>by omega) om (by rw[zd,zd,hc];rfl) (by rw[zd,List.length_singleton];omega)
    (fun i x p h1 h2=>by
     by_cases hi:i<A.length
     ·rw[zR hi] at h1;rw[zR om] at h2;exact ha i x p h1 h2
     ·rw[zG om] at h1;rw[zG om] at h2;have ho:i-A.length=0:=by have:=(zF.1 h1).1;simp at this;omega
      rw[ho] at h1;rw[show i-ps.length=0 by omega] at h2;injection h1 with h1;injection h2 with h2;exact⟨q+1+1+d.size,a',s',c',d',.nil,h1.symm,p2,v2,by omega,h2.symm⟩)
    (by rw[hT];exact he)
   rw[ew step,e,hT,e1]
  ·obtain⟨e1,e2⟩:=z5z (t:=t) (n:=n) hk;rw[e2,List.nil_append] at he;have e:=zb3 hl hx hp hs hv (hj hk) nb A ps hc om ha A.length true [] [] (Nat.le_refl _) .nil (by rw[hc,List.take_length,List.nil_append];exact he);rw[hc,List.take_length] at e;refine cw ?_;unfold Ib;simp only;rw[Iu hl hx hs hv,af,jA,if_neg hk,af];simp only;rw[show bU .i64 (ae A) 1=((ps.length:Nat):Int)-1 from by rw[show ae A=((A.length:Nat):Int) from rfl,hc];exact nv om om,e,e1,e2]
theorem z4i(hl:l.length<=1000)(hx:fx.length<=1000000)(hp:vH self b bx l fx N){q:Nat}{t:Tx}{n:Int}{ks r:F}(hs:bE l q (.cons 6 t n ks r))(hv:bI 6 t n ks false=0)(hN:ks.size<=N)(hr:cO fx 6 ks=1):E6 self ((q:Int),⟨b,l⟩,⟨bx,fx⟩,())=some (⟨false,(dT fx 6 t n ks).p.doc.flat⟩,⟨b,l⟩,⟨bx,fx⟩,()):=by
 have hz:=UZ fx hv (OB fx ks _ _ (bG.1 hv).2);have hf:=hs.small hl;have hc:rowOf fx 6 ks=none:=by
  cases h:rowOf fx 6 ks with
  |none=>rfl
  |some f=>unfold cO at hr;rw[if_pos rfl,h] at hr;exact absurd hr (show ¬(2:Int)=1 by decide)
 have e:=zcn (b:=b) (bx:=bx) hl hx hp ks.size q 6 t n ks r true [] [] (Nat.le_refl _) hs hv (fun h=>absurd hr h) hN rfl (by show 0+ks.size<=1000;omega) (fun i a p h=>by cases h) (by
  have hn:kB []=[]:=rfl;rw[hn,zt];have:=hz.2.1;omega)
 rw[qei,e];have hn:kB []=[]:=rfl;rw[hn,zt];obtain⟨a,s,c,d,a',s',c',d',rfl,v1,v2⟩:=GR hv;obtain⟨e1,e2⟩:=z5y (t:=t) (n:=n) hr;rw[e1,e2];have he:(dT fx 6 t n (.cons a s c d (.cons a' s' c' d' .nil))).p.doc=GP (dT fx a s c d).hd ((dT fx a s c d).args++[cB,fy (dT fx a' s' c' d').p]):=by show eF fx 6 t n _ _=_;unfold eF;rw[if_neg dc,if_neg dc,if_neg dc,if_neg dc,if_neg dc,if_pos rfl,hc];rfl
 rw[he];rfl
end
section
variable {b bx:Bool} {l:List ND} {fx:List ar} {self:jd} {N:Nat}
theorem z0c{q:Nat}{g:F}{e:Nat}(hs:bE l q g)(hf:eD true false true g=0)(hc:g.au=2*(e+1)):∃a s c d a' s' c' d' r,g=.cons a s c d (.cons a' s' c' d' r)/\r.au=2*e/\bI a s c d true=0/\bI a' s' c' d' false=0/\eD true false true r=0/\bE l (q+1+d.size) (.cons a' s' c' d' r)/\bE l (q+1+d.size+1+d'.size) r:=by obtain⟨a,s,c,d,r1,rfl,hr⟩:=fX (ks:=g) (n:=2*e+1) om;obtain⟨a',s',c',d',r,rfl,he⟩:=fX (n:=2*e) hr;obtain⟨h1,h2⟩:=cJ.1 hf;obtain⟨h3,h4⟩:=cJ.1 h2;obtain⟨_,_,p2,_⟩:=hs.node;obtain⟨_,_,p3,_⟩:=p2.node;exact⟨a,s,c,d,a',s',c',d',r,rfl,he,h1,h3,h4,p2,p3⟩
theorem z0d(q:Nat)(a a':Int)(s s':Tx)(c c':Int)(d d' r:F)(pre:List Int):pre++(F.cons a s c d (.cons a' s' c' d' r)).pos q=(pre++[(q:Int),((q+1+d.size:Nat):Int)])++r.pos (q+1+d.size+1+d'.size):=by rw[zo];rfl
theorem z94{α:Type}(pre:List α)(a b:α)(post:List α):cZ (pre++a::b::post) ((pre.length+1:Nat):Int)=some b:=dG (by rw[zG om,Nat.add_sub_cancel_left];rfl)
theorem qkl(hl:l.length<=1000)(hg:GL l)(ht:TL 1000 l)(hp:vH self b bx l fx N){q:Nat}{a a':Int}{s s':Tx}{c c':Int}{d d' r:F}(hs:bE l q (.cons a s c d (.cons a' s' c' d' r)))(v1:bI a s c d true=0)(v2:bI a' s' c' d' false=0)(p2:bE l (q+1+d.size) (.cons a' s' c' d' r))(hN:d'.size<N)(nb nr:Bool)(pre:List Int)(hn:pre.length<=100000)(R:List Y0)(es:List F)(hR:Ds R es)(ho:(bD es).size<=30000):∃K8 R',E9 self (⟨nb,pre++(F.cons a s c d (.cons a' s' c' d' r)).pos q⟩,(pre.length:Int),⟨b,l⟩,⟨bx,fx⟩,⟨nr,R⟩,())=some (Sum.inl (⟨nb,pre++(F.cons a s c d (.cons a' s' c' d' r)).pos q⟩,((pre.length+2:Nat):Int),⟨b,l⟩,⟨bx,fx⟩,⟨K8,R'⟩,()))/\Ds R' (es++(if pre.length=1 then [kJ [cB,cq ((dT fx a s c d).pt++[32,45,62]),cm (dT fx a' s' c' d').p.doc]] else [cB,cq ([124,32]++((dT fx a s c d).pt++[32,45,62])),cm (dT fx a' s' c' d').p.doc])):=by
 have hk:R.length<=30000:=by have:=K4 hR.2;have:=hR.len;omega
 have hf:=z09 (b:=b) hl hg ht false hs v1;have hq:cy a s c (bL d)=(dT fx a s c d).pt:=rfl;have hm:=qp6 a s c d (bE.tl ht hs.first);have hv:=hs.small hl;have hd:=uW (fx:=fx) hl p2 v2;have hu:=D0 hd;have k2:=hp _ a' s' c' d' r p2 v2 hN;have he:=bK (k:=pre.length) om;have hc:=K5 (k:=pre.length) om;unfold E9;simp only;have hj:ae (pre++(F.cons a s c d (.cons a' s' c' d' r)).pos q)=((pre.length+(r.au+1+1):Nat):Int):=by show(((pre++(F.cons a s c d (.cons a' s' c' d' r)).pos q).length:Nat):Int)=_;rw[zd,F.oE];rfl
 rw[hj,bP,if_pos om];have a0:cZ (pre++(F.cons a s c d (.cons a' s' c' d' r)).pos q) (pre.length:Int)=some (q:Int):=z5w pre _ _;have a1:cZ (pre++(F.cons a s c d (.cons a' s' c' d' r)).pos q) ((pre.length+1:Nat):Int)=some ((q+1+d.size:Nat):Int):=z94 pre _ _ _;rw[a0];simp only[af];rw[hf];simp only[af,cond_false];rw[CI (cy a s c (bL d)) [32,45,62] (by show _+3<=_;omega)];simp only[af];rw[he,a1];simp only[af];rw[k2];simp only[af];rw[yX _ (d:=(dT fx a' s' c' d').p.doc) rfl (pn fx a' s' c' d') om];simp only[af];rw[jA,tz];by_cases h1:pre.length=1
 ·rw[if_pos om,if_pos h1,yW];simp only[af];rw[nL];simp only[af];rw[OD false (.cons (d:=cB) rfl rfl (.cons (d:=cq _) rfl rfl (.one (d:=cm (dT fx a' s' c' d').p.doc) rfl rfl))) (by simp only[fN,jg,kA,pj];omega)];simp only[af];rw[show ae R=((R.length:Nat):Int) from rfl,show ae ([(⟨false,(kJ [cB,cq (cy a s c (bL d)++[32,45,62]),cm (dT fx a' s' c' d').p.doc]).flat⟩:Y0)]:List Y0)=((1:Nat):Int) from rfl,o7 om];simp only[af];rw[hc];exact⟨_,_,rfl,hR.app (.one rfl rfl)⟩
 ·rw[if_neg om,if_neg h1,yW];simp only[af];rw[CI [124,32] (cy a s c (bL d)++[32,45,62]) (by rw[zd];show 2+(_+3)<=_;omega)];simp only[af];rw[tz,nL];simp only[af];rw[show ae R=((R.length:Nat):Int) from rfl,show ae ([(⟨false,cB.flat⟩:Y0),⟨false,(cq ([124,32]++(cy a s c (bL d)++[32,45,62]))).flat⟩,⟨false,(cm (dT fx a' s' c' d').p.doc).flat⟩]:List Y0)=((3:Nat):Int) from rfl,o7 om];simp only[af];rw[hc];exact⟨_,_,rfl,hR.app (.cons rfl rfl (.cons rfl rfl (.one rfl rfl)))⟩
theorem z0e(nb nr:Bool)(pos:List Int)(R:List Y0)(es:List F)(hR:Ds R es)(he:(bD es).size<=30000):E9 self (⟨nb,pos⟩,(pos.length:Int),⟨b,l⟩,⟨bx,fx⟩,⟨nr,R⟩,())=some (Sum.inr (⟨false,(fD (es++[cB,cq Pz.eX])).flat⟩,⟨b,l⟩,⟨bx,fx⟩,())):=by
 have hc:R.length<=30000:=by have:=K4 hR.2;have:=hR.len;omega
 unfold E9;simp only;rw[show ae pos=((pos.length:Nat):Int) from rfl,bP,if_neg om,yW];simp only[af];rw[nL];simp only[af];rw[show ae R=((R.length:Nat):Int) from rfl,show ae ([(⟨false,cB.flat⟩:Y0),⟨false,(cq [101,110,100]).flat⟩]:List Y0)=((2:Nat):Int) from rfl,o7 om];simp only[af];rw[show app R [(⟨false,cB.flat⟩:Y0),⟨false,(cq [101,110,100]).flat⟩]=R++[(⟨false,cB.flat⟩:Y0),⟨false,(cq [101,110,100]).flat⟩] from N7 _ _,CG _ (hR.app (.cons (d:=cB) rfl rfl (.one (d:=cq Pz.eX) rfl rfl))) (by rw[CF];simp only[fN,jg,kA,pj];omega)];simp only[af]
theorem qp8(hl:l.length<=1000)(hg:GL l)(ht:TL 1000 l)(hp:vH self b bx l fx N)(nb:Bool):∀(e:Nat) (g:F) (q:Nat) (pre:List Int) (nr:Bool) (R:List Y0) (es:List F),g.au=2*e->bE l q g->eD true false true g=0->g.size<=N->2<=pre.length->pre.length+g.au<=100000->Ds R es->(bD (es++nJ (dF fx g))).size<=30000->aX (E9 self) (⟨nb,pre++g.pos q⟩,(pre.length:Int),⟨b,l⟩,⟨bx,fx⟩,⟨nr,R⟩,())=some (⟨false,(fD (es++(nJ (dF fx g)++[cB,cq Pz.eX]))).flat⟩,⟨b,l⟩,⟨bx,fx⟩,())
 |0,g,q,pre,nr,R,es,hc,_,_,_,_,_,hR,hj=>by obtain rfl:=tw (ks:=g) om;have h0:nJ (dF fx .nil)=[]:=rfl;rw[h0,zt] at hj;have hk:pre++F.nil.pos q=pre:=zt pre;rw[hk,h0,List.nil_append];exact cw (z0e nb nr pre R es hR hj)
 |e+1,g,q,pre,nr,R,es,hc,hs,hf,hN,hq,hm,hR,hj=>by obtain⟨a,s,c,d,a',s',c',d',r,rfl,ho,v1,v2,v3,q2,q3⟩:=z0c hs hf hc;have hN:d.size+(d'.size+r.size+1)+1<=N:=hN;have hm:pre.length+(r.au+1+1)<=100000:=hm;have he:nJ (dF fx (.cons a s c d (.cons a' s' c' d' r)))=[cB,cq ([124,32]++((dT fx a s c d).pt++[32,45,62])),cm (dT fx a' s' c' d').p.doc]++nJ (dF fx r):=rfl;rw[he,<-zo] at hj;obtain⟨K8,R',st,hn⟩:=qkl hl hg ht hp hs v1 v2 q2 om nb nr pre om R es hR (by rw[zo,CF] at hj;omega);rw[if_neg om] at hn;have e2:=qp8 hl hg ht hp nb e r (q+1+d.size+1+d'.size) (pre++[(q:Int),((q+1+d.size:Nat):Int)]) K8 R' _ ho q3 v3 om (by rw[zd];omega) (by rw[zd];show pre.length+2+_<=_;omega) hn hj;rw[ew st,z0d,show((pre.length+2:Nat):Int)=(((pre++[(q:Int),((q+1+d.size:Nat):Int)]).length:Nat):Int) from by rw[zd];rfl,e2,he];simp only[zo]
theorem z0f(hl:l.length<=1000)(hg:GL l)(ht:TL 1000 l)(hp:vH self b bx l fx N){q:Nat}{t:Tx}{n:Int}{ks r:F}(hs:bE l q (.cons 10 t n ks r))(hv:bI 10 t n ks false=0)(hN:ks.size<=N):E5 self ((q:Int),⟨b,l⟩,⟨bx,fx⟩,())=some (⟨false,(dT fx 10 t n ks).p.doc.flat⟩,⟨b,l⟩,⟨bx,fx⟩,()):=by
 obtain⟨g1,g2,g3,g4⟩:=hs.node;obtain⟨hn,hf⟩:=bG.1 hv;obtain⟨_,_,hk,_,_,_⟩:=bF.1 hn;obtain⟨_,_,_,rY,_⟩:=vD hk;obtain⟨rY,J6⟩:=rY rfl;obtain⟨nb,hc⟩:=Im b l om hs;have ho:=hs.small hl;have hq:=uW (fx:=fx) hl hs hv;obtain⟨a,s,c,d,r0,rfl,hr⟩:=fX (ks:=ks) (n:=ks.au-1) om;have hz:(F.cons a s c d r0).au=r0.au+1:=rfl;have lW:ag 10 10=true:=rfl;rw[lW] at hf;obtain⟨v0,hf⟩:=CJ hf rfl;have hN:d.size+r0.size+1<=N:=hN;have hw:=r0.eh;have ho:d.size+r0.size+1+1<=1000:=ho;obtain⟨_,_,p0,_⟩:=g2.node;obtain⟨e,he⟩:∃e,r0.au=2*(e+1):=⟨r0.au / 2-1,by omega⟩;obtain⟨a1,s1,c1,d1,a2,s2,c2,d2,r1,rfl,hx,v1,v2,v3,q2,q3⟩:=z0c p0 hf he;have hN:d.size+(d1.size+(d2.size+r1.size+1)+1)+1<=N:=hN;have k0:=hp _ a s c d _ g2 v0 om;have d0:=uW (fx:=fx) hl g2 v0;have u0:=D0 d0;have hj:(dT fx 10 t n (.cons a s c d (.cons a1 s1 c1 d1 (.cons a2 s2 c2 d2 r1)))).p.doc=fD ([cq Pz.cX,cm (dT fx a s c d).p.doc,cB,cq Pz.dX]++([kJ [cB,cq ((dT fx a1 s1 c1 d1).pt++[32,45,62]),cm (dT fx a2 s2 c2 d2).p.doc]]++(nJ (dF fx r1)++[cB,cq Pz.eX]))):=by have h0:(dT fx 10 t n (.cons a s c d (.cons a1 s1 c1 d1 (.cons a2 s2 c2 d2 r1)))).p.doc=eF fx 10 t n (.cons a s c d (.cons a1 s1 c1 d1 (.cons a2 s2 c2 d2 r1))) (dF fx (.cons a s c d (.cons a1 s1 c1 d1 (.cons a2 s2 c2 d2 r1)))):=rfl;rw[h0];unfold eF;rw[if_neg dc,if_neg dc,if_neg dc,if_neg dc,if_pos rfl];rfl
 have hm:(bD ([cq Pz.cX,cm (dT fx a s c d).p.doc,cB,cq Pz.dX]++[kJ [cB,cq ((dT fx a1 s1 c1 d1).pt++[32,45,62]),cm (dT fx a2 s2 c2 d2).p.doc]]++nJ (dF fx r1))).size<=30000:=by rw[hj] at hq;have:(bD ([cq Pz.cX,cm (dT fx a s c d).p.doc,cB,cq Pz.dX]++([kJ [cB,cq ((dT fx a1 s1 c1 d1).pt++[32,45,62]),cm (dT fx a2 s2 c2 d2).p.doc]]++(nJ (dF fx r1)++[cB,cq Pz.eX])))).size+0+1+0+1<=6000:=hq;rw[<-zo,<-zo,CF] at this;omega
 rw[qd2,hc];simp only[af];rw[nL];simp only[af];have K7:cZ ((F.cons a s c d (.cons a1 s1 c1 d1 (.cons a2 s2 c2 d2 r1))).pos (q+1)) 0=some ((q+1:Nat):Int):=rfl;rw[K7];simp only[af];rw[k0];simp only[af];rw[yX _ (d:=(dT fx a s c d).p.doc) rfl (pn fx a s c d) om];simp only[af];rw[yW];simp only[af];rw[nL];simp only[af];have hy:Ds [(⟨false,(cq [109,97,116,99,104]).flat⟩:Y0),⟨false,(cm (dT fx a s c d).p.doc).flat⟩,⟨false,cB.flat⟩,⟨false,(cq [119,105,116,104]).flat⟩] [cq Pz.cX,cm (dT fx a s c d).p.doc,cB,cq Pz.dX]:=.cons rfl rfl (.cons rfl rfl (.cons rfl rfl (.one rfl rfl)));obtain⟨K8,R',st,hu⟩:=qkl hl hg ht hp p0 v1 v2 q2 om nb false [((q+1:Nat):Int)] (by show 1<=_;omega) _ _ hy (by rw[CF,CF] at hm;omega);rw[if_pos (show [((q+1:Nat):Int)].length=1 from rfl)] at hu;have st:E9 self (⟨nb,(F.cons a s c d (.cons a1 s1 c1 d1 (.cons a2 s2 c2 d2 r1))).pos (q+1)⟩,1,⟨b,l⟩,⟨bx,fx⟩,⟨false,[(⟨false,(cq [109,97,116,99,104]).flat⟩:Y0),⟨false,(cm (dT fx a s c d).p.doc).flat⟩,⟨false,cB.flat⟩,⟨false,(cq [119,105,116,104]).flat⟩]⟩,())=_:=st;rw[ew st];have e2:=qp8 hl hg ht hp nb e r1 (q+1+1+d.size+1+d1.size+1+d2.size) ([((q+1:Nat):Int)]++[((q+1+1+d.size:Nat):Int),((q+1+1+d.size+1+d1.size:Nat):Int)]) K8 R' _ hx q3 v3 om (by show 2<=3;omega) (by show 3+_<=_;have:=r1.eh;omega) hu hm;rw[hj];rw[z0d];refine Eq.trans e2 ?_;simp only[zo]
end
theorem z0g{b bx:Bool}{l:List ND}{fx:List ar}(hl:l.length<=1000)(hg:GL l)(ht:TL 1000 l)(hx:fx.length<=1000000)(hq:∀f,f∈fx->f.1.length<=1000):∀N:Nat,vH (cL oq N) b bx l fx N
 |0=>fun _ _ _ _ _ _ _ _ h=>absurd h (Nat.not_lt_zero _)
 |N+1=>by
  have hp:=z0g (b:=b) (bx:=bx) hl hg ht hx hq N;intro q k t n ks r hs hv hN;have hN:ks.size<=N:=om
  show oq (cL oq N) ((q:Int),⟨b,l⟩,⟨bx,fx⟩,())=_;by_cases ho:kK k=true
  ·exact z4g hl hg ht hp hs hv hN ho
  obtain⟨g1,g2,g3,g4⟩:=hs.node;have hu:=(hg.at g1).1;have hy:t.length<=1000:=ht _ (zS g1);obtain⟨hn,hf⟩:=bG.1 hv;obtain⟨_,_,hk,hj,_,_⟩:=bF.1 hn;have hm:(dT fx k t n ks).p.doc=eF fx k t n ks (dF fx ks):=rfl;have no:∀c:Int,kK c=true->ag k c=false:=fun c hc=>dx fun e=>ho (e▸hc);by_cases k10:k=10
  ·subst k10;rw[Cb,dG g1,af];simp only;have e:=z0f hl hg ht hp hs hv hN;rw[show ag 10 1=false from rfl,aD,show ag 10 2=false from rfl,aD,show ag 10 3=false from rfl,aD,show ag 10 5=false from rfl,aD,show ag 10 7=false from rfl,aD,show ag 10 8=false from rfl,aD,
    show ag 10 9=false from rfl,aD,show ag 10 11=false from rfl,aD,show ag 10 12=false from rfl,aD,show ag 10 10=true from rfl,aU,e]
   simp only[af]
  by_cases k6:k=6
  ·subst k6;rw[Cb,dG g1,af];simp only;rw[show ag 6 1=false from rfl,aD,show ag 6 2=false from rfl,aD,show ag 6 3=false from rfl,aD,show ag 6 5=false from rfl,aD,show ag 6 7=false from rfl,aD,show ag 6 8=false from rfl,aD,
    show ag 6 9=false from rfl,aD,show ag 6 11=false from rfl,aD,show ag 6 12=false from rfl,aD,show ag 6 10=false from rfl,aD,show ag 6 6=true from rfl,aU,Iu hl hx hs hv,af]
   simp only;cases hr:rowOf fx 6 ks with
   |some f=>
    have he:cO fx 6 ks=2:=by unfold cO;rw[if_pos rfl,hr]
    have e:=z4h hl ht hx hq hp hs hv hN hr;rw[he,show ag 2 2=true from rfl,aU,e];simp only[af]
   |none=>
    have he:cO fx 6 ks=1:=by unfold cO;rw[if_pos rfl,hr]
    have e:=z4i hl hx hp hs hv hN he;rw[he,show ag 1 2=false from rfl,aD,e];simp only[af]
  rw[Cb,dG g1,af,hm];simp only;unfold eF;rw[jA];by_cases k1:k=1
  ·subst k1;have hw:oG n=true:=hj;rw[if_pos rfl,if_pos rfl,OE hw];simp only[af];rw[nL];simp only[af]
  rw[if_neg k1,if_neg k1,jA];by_cases k2:k=2
  ·subst k2;rw[if_pos rfl,if_pos rfl,qw2 (s:=t) hu om];simp only[af];rw[nL];simp only[af]
  rw[if_neg k2,if_neg k2,jA];by_cases k3:k=3
  ·subst k3;rw[if_pos rfl,if_pos rfl,U1 (s:=t) hu om];simp only[af];rw[nL];simp only[af]
  rw[if_neg k3,if_neg k3,if_neg ho,if_neg k10,if_neg k6,no 5 rfl,aD,no 7 rfl,aD,no 8 rfl,aD,no 9 rfl,aD,no 11 rfl,aD,no 12 rfl,aD,dx k10,aD,dx k6,aD,nL];simp only[af]
theorem z0h{b bx:Bool}{l:List ND}{fx:List ar}(hl:l.length<=1000)(hg:GL l)(ht:TL 1000 l)(hx:fx.length<=1000000)(hc:∀f,f∈fx->f.1.length<=1000){q:Nat}{k:Int}{t:Tx}{n:Int}{ks r:F}(hs:bE l q (.cons k t n ks r))(hv:bI k t n ks false=0):xA ((q:Int),⟨b,l⟩,⟨bx,fx⟩,())=some (⟨false,(dT fx k t n ks).p.doc.flat⟩,⟨b,l⟩,⟨bx,fx⟩,()):=Dv (ks.size+1) fun N hN=>z0g hl hg ht hx hc N q k t n ks r hs hv hN
section
variable {b bx:Bool} {l:List ND} {fx:List ar}
end
section
variable {b bx:Bool} {l:List ND} {fx:List ar} {self:RP} {N:Nat}
end
section
variable {b bx:Bool} {l:List ND} {fx:List ar} {self:RP} {N:Nat}
end
section
variable {b bx:Bool} {l:List ND} {fx:List ar} {self:RP} {N:Nat}
theorem zb4(k:Int):aK (jZ k) 0=false->iQ k=false->kK k=false->ag k 1=false->ag k 2=false->ag k 3=false->ag k 6=false->ag k 10=false->k=4:=by refine qkb (P:=fun k=>aK (jZ k) 0=false->iQ k=false->kK k=false->ag k 1=false->ag k 2=false->ag k 3=false->ag k 6=false->ag k 10=false->k=4) dc dc dc dc dc dc dc dc dc dc dc dc dc dc dc dc ?_ k;intro a ha h;have e:∀c,c∈N3->ag a c=false:=ha;unfold jZ at h;rw[e 1 dc,e 6 dc,e 9 dc,e 10 dc,e 11 dc,e 21 dc,e 23 dc,e 3 dc,e 5 dc,e 7 dc,e 8 dc,e 12 dc,e 22 dc,e 4 dc,e 24 dc,e 2 dc] at h;cases h
end
theorem z0i(b1 b2:Bool)(l:List ND)(hl:l.length<=1000000):∀(m k:Nat),k+m=l.length->aX qy (⟨b1,l⟩,⟨b2,l⟩,(k:Int),())=some (true,()):=by
 intro m
 induction m with
 |zero=>intro k hk;apply cw;unfold qy;simp only;rw[show ae l=((l.length:Nat):Int) from rfl,bP,if_neg om]
 |succ m ih=>
  intro k hk;have hc:k<l.length:=om
  have step:qy (⟨b1,l⟩,⟨b2,l⟩,(k:Int),())=some (.inl (⟨b1,l⟩,⟨b2,l⟩,((k+1:Nat):Int),())):=by unfold qy;simp only;rw[show ae l=((l.length:Nat):Int) from rfl,bP,if_pos om,dG (zg hc),af,af,iY,iY,iY,Nz,bK om];rfl
  rw[ew step];exact ih (k+1) om
theorem qp9(b1 b2:Bool)(l:List ND)(hl:l.length<=1000000):uB (⟨b1,l⟩,⟨b2,l⟩,())=some (true,()):=by rw[TQ,iY];exact z0i b1 b2 l hl l.length 0 (zD _)
theorem z0j(nb n:Bool)(t:List ND)(l:List ar):∀(m k:Nat),k+m=21->k<=l.length->(∀j (h:j<l.length),j<k->l[j].1.length<=20)->∃r,aX Ic (⟨nb,t⟩,⟨n,l⟩,(k:Int),())=some (Sum.inr (r,()))/\(r=true->t.length<=100/\l.length<=20/\∀x,x∈l->x.1.length<=20):=by
 have fin:∀k:Nat,az (aK (k:Int) (ae l)) (some (aK (k:Int) 21)) (some false)=some false->(∀j (h:j<l.length),j<k->l[j].1.length<=20)->(l.length<=20->l.length<=k)->
   ∃r,aX Ic (⟨nb,t⟩,⟨n,l⟩,(k:Int),())=some (Sum.inr (r,()))/\(r=true->t.length<=100/\l.length<=20/\∀x,x∈l->x.1.length<=20):=by
  intro k h hj hk;refine⟨cK (ae t) 100&&cK (ae l) 20,cw ?_,fun e=>?_⟩
  ·unfold Ic;simp only;rw[h,af,aD];cases cK (ae t) 100<;>rfl
  ·rw[ze] at e;have h1:((t.length:Nat):Int)<=100:=zM e.1;have h2:((l.length:Nat):Int)<=20:=zM e.2;refine⟨by omega,by omega,fun x hx=>?_⟩;obtain⟨j,he,rfl⟩:=jc.1 hx;exact hj j he (by have:=hk om;omega)
 intro m
 induction m with
 |zero=>intro k hk hl hj;have e:aK (k:Int) 21=false:=zn om;exact fin k (by rw[e];cases aK (k:Int) (ae l)<;>rfl) hj (fun h=>by omega)
 |succ m ih=>
  intro k hk hl hj;have e:aK (k:Int) 21=true:=zu om;by_cases hg:k<l.length
  ·have hc:aK (k:Int) (ae l)=true:=zu (show(k:Int)<((l.length:Nat):Int) by omega);have step:Ic (⟨nb,t⟩,⟨n,l⟩,(k:Int),())=if 20<l[k].1.length then some (.inr (.inr (false,()))) else some (.inl (⟨nb,t⟩,⟨n,l⟩,((k+1:Nat):Int),())):=by
    unfold Ic;simp only;rw[hc,aU,e,af,aU,dG (zg hg),af,bP,bK om];by_cases h:20<l[k].1.length
    ·rw[if_pos h,if_pos (show(20:Int)<ae l[k].1 by show(20:Int)<((l[k].1.length:Nat):Int);omega)]
    ·rw[if_neg h,if_neg (show ¬(20:Int)<ae l[k].1 by show ¬(20:Int)<((l[k].1.length:Nat):Int);omega)]
   by_cases h:20<l[k].1.length
   ·rw[if_pos h] at step;exact⟨false,cw step,fun h=>by cases h⟩
   ·rw[if_neg h] at step;rw[ew step];refine ih (k+1) om om fun j he hm=>?_;by_cases hf:j=k
    ·subst hf;omega
    ·exact hj j he om
  ·have hc:aK (k:Int) (ae l)=false:=zn (show ¬(k:Int)<((l.length:Nat):Int) by omega);exact fin k (by rw[hc];rfl) hj (fun _=>by omega)
theorem z0k(nb n:Bool)(t:List ND)(l:List ar):∀(m k:Nat),k+m=101->k<=t.length->(∀j (h:j<t.length),j<k->t[j].2.1.length<=60)->∃r,aX Ie (⟨nb,t⟩,⟨n,l⟩,(k:Int),())=some (r,())/\(r=true->t.length<=100/\TL 60 t/\l.length<=20/\∀x,x∈l->x.1.length<=20):=by
 have fin:∀k:Nat,az (aK (k:Int) (ae t)) (some (aK (k:Int) 101)) (some false)=some false->(∀j (h:j<t.length),j<k->t[j].2.1.length<=60)->(t.length<=100->t.length<=k)->
   ∃r,aX Ie (⟨nb,t⟩,⟨n,l⟩,(k:Int),())=some (r,())/\(r=true->t.length<=100/\TL 60 t/\l.length<=20/\∀x,x∈l->x.1.length<=20):=by
  intro k h hj hk;obtain⟨r,e1,e2⟩:=z0j nb n t l 21 0 rfl (Nat.zero_le _) fun j _ h=>absurd h om;refine⟨r,cw ?_,fun e=>?_⟩
  ·unfold Ie;simp only;rw[h,af,aD];exact e1
  ·obtain⟨h1,h2,h3⟩:=e2 e;refine⟨h1,fun x hx=>?_,h2,h3⟩;obtain⟨j,he,rfl⟩:=jc.1 hx;exact hj j he (by have:=hk h1;omega)
 intro m
 induction m with
 |zero=>intro k hk hl hj;have e:aK (k:Int) 101=false:=zn om;exact fin k (by rw[e];cases aK (k:Int) (ae t)<;>rfl) hj (fun h=>by omega)
 |succ m ih=>
  intro k hk hl hj;have e:aK (k:Int) 101=true:=zu om;by_cases hg:k<t.length
  ·have hc:aK (k:Int) (ae t)=true:=zu (show(k:Int)<((t.length:Nat):Int) by omega);have step:Ie (⟨nb,t⟩,⟨n,l⟩,(k:Int),())=if 60<t[k].2.1.length then some (.inr (false,())) else some (.inl (⟨nb,t⟩,⟨n,l⟩,((k+1:Nat):Int),())):=by
    unfold Ie;simp only;rw[hc,aU,e,af,aU,dG (zg hg),af,bP,bK om];by_cases h:60<t[k].2.1.length
    ·rw[if_pos h,if_pos (show(60:Int)<ae t[k].2.1 by show(60:Int)<((t[k].2.1.length:Nat):Int);omega)]
    ·rw[if_neg h,if_neg (show ¬(60:Int)<ae t[k].2.1 by show ¬(60:Int)<((t[k].2.1.length:Nat):Int);omega)]
   by_cases h:60<t[k].2.1.length
   ·rw[if_pos h] at step;exact⟨false,cw step,fun h=>by cases h⟩
   ·rw[if_neg h] at step;rw[ew step];refine ih (k+1) om om fun j he hm=>?_;by_cases hf:j=k
    ·subst hf;omega
    ·exact hj j he om
  ·have hc:aK (k:Int) (ae t)=false:=zn (show ¬(k:Int)<((t.length:Nat):Int) by omega);exact fin k (by rw[hc];rfl) hj (fun _=>by omega)
theorem qtx(nb n:Bool)(t:List ND)(l:List ar):∃r,Ia (⟨nb,t⟩,⟨n,l⟩,())=some (r,())/\(r=true->t.length<=100/\TL 60 t/\l.length<=20/\∀x,x∈l->x.1.length<=20):=by rw[qqu];exact z0k nb n t l 101 0 rfl (Nat.zero_le _) fun j _ h=>absurd h om
theorem z4j(n:Bool)(l:List ND)(h:l.length<=100):DC (⟨n,l⟩,())=some (⟨false,l⟩,()):=by rw[qi1,o4 (by show((0:Nat):Int)+((l.length:Nat):Int)<=_;omega),af];rfl
theorem qkm(n:Bool)(l:List ar)(h:l.length<=20):DD (⟨n,l⟩,())=some (⟨false,l⟩,()):=by rw[qlv,o4 (by show((0:Nat):Int)+((l.length:Nat):Int)<=_;omega),af];rfl
theorem qw3(nb n:Bool)(t:List ND)(l:List ar)(X Y:Option (Bool×Unit)):∃r:Bool,(r=true->t.length<=100/\TL 60 t/\l.length<=20/\∀x,x∈l->x.1.length<=20)/\aj (DB ()) (fun x0=>aj (az (av x0.1) (some true) (aj (Ia (⟨nb,t⟩,⟨n,l⟩,())) (fun x1=>some (av x1.1)))) (fun x2=>az x2 X Y))=if r=true then Y else X:=by
 obtain⟨r,h1,h2⟩:=qtx nb n t l;rw[Uj,af];simp only;rw[show av true=false from rfl,aD,h1];simp only[af];cases r with
 |true=>exact⟨true,fun _=>h2 rfl,rfl⟩
 |false=>exact⟨false,(fun h=>by cases h),rfl⟩
theorem zb5{l:List ar}(hg:∀x,x∈l->gF x)(h1:l.length<=20)(h2:∀x,x∈l->x.1.length<=20):gL l:=⟨hg,fun x hx=>by have:=h2 x hx;omega,by omega⟩
theorem z0l:aj (DB ()) (fun x4=>some (x4.1,()))=some (true,()):=by rw[Uj];rfl
theorem qty{k:Int}{s:Tx}{n:Int}{ks:F}{pat:Bool}(h:uO k s n ks pat=0):bI k s n ks pat=0:=by
 unfold uO at h;cases h1:aK 100 ((ks.dep+1:Nat):Int) with
 |true=>rw[h1] at h;cases h
 |false=>
  rw[h1] at h;by_cases h2:bI k s n ks pat=0
  ·exact h2
  ·rw[dx h2] at h;exact absurd h h2
theorem tB{s:List Int}(h:lK .str s):∀b,b∈s->0<=b/\b<=255:=fun b hb=>by have:=h.2 b hb;omega
theorem tC{x:ar}(h:lK (.st (.pair .str (.pair (.int .i64) (.int .i64)))) x):gF x:=by obtain⟨⟨h2,h3⟩,h1,h4⟩:=h;exact⟨fun b hb=>by have:=h3 b hb;omega,h2,nZ.1 h1,nZ.1 h4⟩
theorem CK{x:ND}(h:lK (.st (.pair (.int .i64) (.pair .str (.pair (.int .i64) (.int .i64))))) x):N4 x\/1000000<x.2.1.length:=by
 obtain⟨_,h2,h3,_⟩:=h;by_cases hl:x.2.1.length<=1000000
 ·exact .inl ⟨tB h2,hl,nZ.1 h3⟩
 ·exact .inr om
def eC:F->Tx
 |.nil=>[]
 |.cons k t _ ks r=>(if k=41 then t else if k=42 then [32] else eC ks)++eC r
def fO:Nat->Tx->Nat
 |c,[]=>c
 |c,b::s=>fO (if b=10 then 0 else c+1) s
theorem qtz:∀(a:Tx) (c:Nat) (b:Tx),fO c (a++b)=fO (fO c a) b
 |[],_,_=>rfl
 |x::a,c,b=>qtz a (if x=10 then 0 else c+1) b
theorem z0m:∀(s:Tx) (c:Nat),fO c s<=c+s.length
 |[],_=>Nat.le_refl _
 |x::s,c=>by
  have:=z0m s (if x=10 then 0 else c+1);show fO (if x=10 then 0 else c+1) s<=c+(s.length+1);split at this
  ·rename_i h;rw[if_pos h];omega
  ·rename_i h;rw[if_neg h];omega
theorem Va:∀(s:Tx) (c:Nat),(∀b,b∈s->b≠10)->fO c s=c+s.length
 |[],_,_=>rfl
 |x::s,c,h=>by show fO (if x=10 then 0 else c+1) s=c+(s.length+1);rw[if_neg (h x (zf ..)),Va s (c+1) fun b hb=>h b (zh _ hb)];omega
def gq(W:Nat)(k:Int)(t:Tx)(n:Int)(kf:Bool->Nat->Nat->Tx)(z:Nat)(fl:Bool)(c i:Nat):Tx:=if k=41 then t else if k=42 then(bif fl then [32] else 10::List.replicate i 32) else if k=43 then kf fl c (i+n.toNat) else if k=44 then kf (fl||decide (c+z<=W)) c i else kf fl c i
def bB(W:Nat):F->Bool->Nat->Nat->Tx
 |.nil,_,_,_=>[]
 |.cons k t n ks r,fl,c,i=>gq W k t n (bB W ks) (eC ks).length fl c i++bB W r fl (fO c (gq W k t n (bB W ks) (eC ks).length fl c i)) i
def Iw(k:Int)(t:Tx)(n:Int)(ks:F):Prop:=(k=41/\n=0/\ks=.nil/\∀c,c∈t->32<=c/\c<=126)\/(k=42/\t=[]/\n=0/\ks=.nil)\/(k=43/\t=[]/\n=2/\ks.au=1)\/(k=44/\t=[]/\n=0/\ks.au=1)\/(k=45/\t=[]/\n=0)
def RD:F->Prop
 |.nil=>True
 |.cons k t n ks r=>Iw k t n ks/\RD ks/\RD r
def eG:F->Nat->Nat
 |.nil,_=>0
 |.cons _ t _ ks r,i=>t.length+1+i+eG ks (i+2)+eG r i
theorem OK:∀(f:F) {i j:Nat},i<=j->eG f i<=eG f j
 |.nil,_,_,_=>Nat.le_refl _
 |.cons _ t _ ks r,i,j,h=>by have h1:=OK ks (i:=i+2) (j:=j+2) om;have h2:=OK r h;show t.length+1+i+eG ks (i+2)+eG r i<=t.length+1+j+eG ks (j+2)+eG r j;omega
theorem OL:∀(f:F) (i:Nat),(eC f).length<=eG f i
 |.nil,_=>Nat.le_refl _
 |.cons k t n ks r,i=>by
  have h1:=OL ks (i+2);have h2:=OL r i;show((if k=41 then t else if k=42 then [32] else eC ks)++eC r).length<=t.length+1+i+eG ks (i+2)+eG r i;rw[zd];split
  ·omega
  split
  ·show 1+_<=_;omega
  ·omega
theorem OM(W:Nat):∀(f:F) (fl:Bool) (c i:Nat),RD f->(bB W f fl c i).length<=eG f i
 |.nil,_,_,_,_=>Nat.le_refl _
 |.cons k t n ks r,fl,c,i,⟨hk,hc,hr⟩=>by
  have h2:=OM W r fl (fO c (gq W k t n (bB W ks) (eC ks).length fl c i)) i hr;have h1:∀K9 j,j<=i+2->(bB W ks K9 c j).length<=eG ks (i+2):=fun K9 j hj=>Nat.le_trans (OM W ks K9 c j hc) (OK ks hj);have h3:(gq W k t n (bB W ks) (eC ks).length fl c i).length<=t.length+1+i+eG ks (i+2):=by
   unfold gq;split
   ·omega
   split
   ·cases fl with
    |true=>show 1<=_;omega
    |false=>show(List.replicate i (32:Int)).length+1<=_;rw[List.length_replicate];omega
   split
   ·rename_i he hf hg;rcases hk with h|h|h|h|h
    ·exact absurd h.1 he
    ·exact absurd h.1 hf
    ·have:=h1 fl (i+n.toNat) (by rw[h.2.2.1];exact Nat.le_refl _);omega
    ·omega
    ·omega
   split
   ·have:=h1 (fl||decide (c+(eC ks).length<=W)) i om;omega
   ·have:=h1 fl i om;omega
  show(gq W k t n (bB W ks) (eC ks).length fl c i++bB W r fl (fO c (gq W k t n (bB W ks) (eC ks).length fl c i)) i).length<=t.length+1+i+eG ks (i+2)+eG r i;rw[zd];omega
theorem Vb{s:Tx}(b:Bool){c m:Nat}(W:Int)(nn:Bool)(out:Tx)(hc:c+s.length<2 ^ 53)(hm:m<2 ^ 53)(ho:out.length+s.length<=2147483648):ow (s,b,(cR (c:Int),cR (m:Int)),W,⟨nn,out⟩,())=some (true,(cR ((c+s.length:Nat):Int),cR (m:Int)),W,⟨aF nn (cj s),out++s⟩,()):=by
 have h0:ic (cR (m:Int)) 0=some (cR (m:Int)):=by have:=Ot (n:=m) (m:=0) om;rw[Nat.add_zero] at this;rw[<-this];exact congrArg (ic (cR (m:Int))) l7.symm
 have h1:ic (cR (c:Int)) (cR (ae s))=some (cR ((c+s.length:Nat):Int)):=Ot hc;have he:ou (b,(cR (c:Int),cR (m:Int)),W,⟨nn,out⟩,())=some (true,(cR (c:Int),cR (m:Int)),W,⟨nn,out⟩,()):=rfl;rw[S9,S8,he];simp only[af];rw[o4 (by show((out.length:Nat):Int)+((s.length:Nat):Int)<=_;omega)];simp only[af];rw[h1,h0];simp only[af];rw[N7]
theorem qu0(nn:Bool)(a b:Tx):aF (aF nn (cj a)) (cj b)=aF nn (cj (a++b)):=by cases nn<;>cases a<;>rfl
def oN:Tx->Nat
 |[]=>0
 |b::s=>(if b=10 then 1 else 0)+oN s
theorem z0n:∀a b:Tx,oN (a++b)=oN a+oN b
 |[],b=>(zD _).symm
 |x::a,b=>by show(if x=10 then 1 else 0)+oN (a++b)=(if x=10 then 1 else 0)+oN a+oN b;rw[z0n a b,Nat.add_assoc]
theorem z61:∀s:Tx,oN s<=s.length
 |[]=>Nat.le_refl _
 |x::s=>by have:=z61 s;show(if x=10 then 1 else 0)+oN s<=s.length+1;split<;>omega
theorem Vc:∀s:Tx,(∀b,b∈s->b≠10)->oN s=0
 |[],_=>rfl
 |x::s,h=>by show(if x=10 then 1 else 0)+oN s=0;rw[if_neg (h x (zf ..)),Vc s fun b hb=>h b (zh _ hb)]
def D1:F->Bool
 |.nil=>false
 |.cons k _ _ ks r=>((decide (k=41)||decide (k=42))||D1 ks)||D1 r
def AL(k:Int)(ks:F):Bool:=(decide (k=41)||decide (k=42))||D1 ks
theorem z0o(b:Bool){c m i:Nat}(W:Int)(nn:Bool)(out:Tx)(hi:i<=1000000)(hm:m+1<2 ^ 53)(ho:out.length+(i+1)<=2147483648):pU ((i:Int),b,(cR (c:Int),cR (m:Int)),W,⟨nn,out⟩,())=some (true,(cR (i:Int),cR ((m+1:Nat):Int)),W,⟨aF nn (cj (10::List.replicate i 32)),out++10::List.replicate i 32⟩,()):=by
 have h1:ic (cR (m:Int)) 4607182418800017408=some (cR ((m+1:Nat):Int)):=by have:=Ot (n:=m) (m:=1) hm;rw[<-this];exact congrArg (ic (cR (m:Int))) dc
 have he:ou (b,(cR (c:Int),cR (m:Int)),W,⟨nn,out⟩,())=some (true,(cR (c:Int),cR (m:Int)),W,⟨nn,out⟩,()):=rfl;have hf:xJ ([32],(i:Int),())=some (List.replicate i 32,()):=by show(bif (([32]:List Int)==[32])&&(decide (0<=(i:Int))&&decide ((i:Int)<=1000000)) then some (List.replicate (i:Int).toNat (32:Int),()) else none)=_;rw[zu (show 0<=(i:Int) by omega),zu (show(i:Int)<=1000000 by omega),Int.toNat_natCast];rfl
 have hz:(0:Nat)=cR ((0:Nat):Int):=l7.symm;have hc:=Vb (s:=List.replicate i 32) true (c:=0) (m:=m+1) W (aF nn (cj ([10]:Y2))) (out++[10]) (by rw[List.length_replicate];omega) hm (by rw[zd,List.length_replicate];show out.length+1+i<=_;omega);rw[<-hz,List.length_replicate,zD] at hc;rw[Tb,Ta,he];simp only[af];rw[o4 (by show((out.length:Nat):Int)+((1:Nat):Int)<=_;omega)];simp only[af];rw[h1];simp only[af];rw[hf];simp only[af];rw[N7,hc];simp only[af];rw[zo,qu0];rfl
theorem z0p(b:Bool){c m z W:Nat}(o:Sl Int)(hc:c+z<2 ^ 53)(hW:W<2 ^ 53):pV ((z:Int),b,(cR (c:Int),cR (m:Int)),(W:Int),o,())=some (decide (c+z<=W),b,(cR (c:Int),cR (m:Int)),(W:Int),o,()):=by rw[Tc,Ot hc,af,z91 hc hW]
def La(k:Int)(t:Tx):Nat:=t.length+if k=42 then 1 else 0
def yY(l:List ND):Nat:=(l.map fun x=>La x.1 x.2.1).sum
theorem Vd(x:ND)(l:List ND):yY (x::l)=La x.1 x.2.1+yY l:=by unfold yY;rw[zJ,List.sum_cons]
theorem z95(a b:List ND):yY (a++b)=yY a+yY b:=by unfold yY;rw[zT,List.sum_append]
theorem ON:∀f:F,RD f->yY f.flat=(eC f).length
 |.nil,_=>rfl
 |.cons k t n ks r,⟨hk,hc,hr⟩=>by
  show yY ((k,t,n,(ks.au:Int))::(ks.flat++r.flat))=((if k=41 then t else if k=42 then [32] else eC ks)++eC r).length;rw[Vd,z95,ON ks hc,ON r hr,zd];unfold La;rcases hk with ⟨h,_,e,_⟩|⟨h,e,_,e2⟩|⟨h,e,_⟩|⟨h,e,_⟩|⟨h,e,_⟩
  ·subst h;subst e;show t.length+0+(0+_)=_;rw[if_pos rfl];omega
  ·subst h;subst e;subst e2;show 0+1+(0+_)=_;rw[if_neg dc,if_pos rfl];show _=1+_;omega
  ·subst h;subst e;show 0+(if(43:Int)=42 then 1 else 0)+_=_;rw[if_neg dc,if_neg dc,if_neg dc];omega
  ·subst h;subst e;show 0+(if(44:Int)=42 then 1 else 0)+_=_;rw[if_neg dc,if_neg dc,if_neg dc];omega
  ·subst h;subst e;show 0+(if(45:Int)=42 then 1 else 0)+_=_;rw[if_neg dc,if_neg dc,if_neg dc];omega
theorem z0q(nb:Bool)(L:List ND)(hL:L.length<=1000000):∀(m k z:Nat),k+m=L.length->z+yY (L.drop k)<=1000000000000->aX qk ((z:Int),⟨nb,L⟩,ae L,(k:Int),())=some (((z+yY (L.drop k):Nat):Int),()):=by
 intro m
 induction m with
 |zero=>intro k z hk hz;refine cw ?_;unfold qk;simp only;rw[show ae L=((L.length:Nat):Int) from rfl,bP,if_neg om,zC om];rfl
 |succ m ih=>
  intro k z hk hz;have hf:k<L.length:=om
  have hd:=kI hf;rw[hd,Vd] at hz;have he:ae L[k].2.1=((L[k].2.1.length:Nat):Int):=rfl;have hc:La L[k].1 L[k].2.1=L[k].2.1.length+if L[k].1=42 then 1 else 0:=rfl
  have step:qk ((z:Int),⟨nb,L⟩,ae L,(k:Int),())=some (.inl (((z+La L[k].1 L[k].2.1:Nat):Int),⟨nb,L⟩,ae L,((k+1:Nat):Int),())):=by
   unfold qk;simp only;rw[show ae L=((L.length:Nat):Int) from rfl,bP,if_pos om,dG (zg hf),af,jA,he];have ha:aG .i64 (z:Int) (L[k].2.1.length:Int)=((z+L[k].2.1.length:Nat):Int):=by rw[pD om om];omega
   have hb:aG .i64 ((z+L[k].2.1.length:Nat):Int) 1=((z+(L[k].2.1.length+1):Nat):Int):=by rw[pD om om];omega
   by_cases h:L[k].1=42
   ·rw[if_pos h] at hc;rw[if_pos h,ha,hb,af,hc];simp only;rw[bK om]
   ·rw[if_neg h] at hc;rw[if_neg h,ha,af,hc];simp only;rw[bK om];rfl
  rw[ew step,ih (k+1) _ om om,hd,Vd];rw[Nat.add_assoc]
theorem z0r(nb:Bool)(f:F)(hf:RD f)(hs:f.size<=1000000)(hv:(eC f).length<=1000000000000):r9 (⟨nb,f.flat⟩,())=some (((eC f).length:Int),()):=by have h:=z0q nb f.flat (by rw[f.len];exact hs) f.flat.length 0 0 (zD _) (by rw[List.drop_zero,ON f hf];omega);rw[List.drop_zero,ON f hf,zD] at h;rw[Td];exact h
def iG(t:Tx)(ks:F)(i:Nat):Nat:=t.length+1+i+eG ks (i+2)
def OO(self:kU)(b:Bool)(l:List ND)(W:Nat)(N:Nat):Prop:=∀(q:Nat) (k:Int) (t:Tx) (n:Int) (ks r:F) (i c m:Nat) (fl bd nn:Bool) (out:Tx),bE l q (.cons k t n ks r)->Iw k t n ks->RD ks->ks.size<N->i+2*(ks.size+1)<=1000000->
 c+iG t ks i<=2 ^ 50->m+iG t ks i<=2 ^ 50->out.length+iG t ks i<=2147483648->
 self (⟨b,l⟩,(q:Int),(i:Int),fl,bd,(cR (c:Int),cR (m:Int)),(W:Int),⟨nn,out⟩,())=
  some (((q+1+ks.size:Nat):Int),bd||AL k ks,(cR ((fO c (gq W k t n (bB W ks) (eC ks).length fl c i):Nat):Int),cR ((m+oN (gq W k t n (bB W ks) (eC ks).length fl c i):Nat):Int)),(W:Int),⟨aF nn (cj (gq W k t n (bB W ks) (eC ks).length fl c i)),out++gq W k t n (bB W ks) (eC ks).length fl c i⟩,())
theorem z96(W:Nat){k:Int}{t:Tx}{n:Int}{ks:F}(hk:Iw k t n ks)(hc:RD ks)(fl:Bool)(c i:Nat):(gq W k t n (bB W ks) (eC ks).length fl c i).length<=iG t ks i:=by have:=OM W (.cons k t n ks .nil) fl c i ⟨hk,hc,trivial⟩;have e:bB W (.cons k t n ks .nil) fl c i=gq W k t n (bB W ks) (eC ks).length fl c i++[]:=rfl;rw[e,zt] at this;exact this
section
variable {self:kU} {b:Bool} {l:List ND} {W N:Nat}
theorem qu1(hl:l.length<=10000)(hp:OO self b l W N)(q:Int)(k:Int)(t:Tx)(n c0:Int)(tot i:Nat)(fl:Bool)(hc:tot<=10000)(hf:i+2*N<=1000000):∀(g:F) (at_ j c m:Nat) (bd nn:Bool) (out:Tx),bE l at_ g->RD g->g.size<=N->j+g.au=tot->c+eG g i<=2 ^ 50->m+eG g i<=2 ^ 50->out.length+eG g i<=2147483648->aX (vz self) ((i:Int),fl,(at_:Int),(tot:Int),(j:Int),q,k,t,n,c0,⟨b,l⟩,bd,(cR (c:Int),cR (m:Int)),(W:Int),⟨nn,out⟩,())=some (((at_+g.size:Nat):Int),q,k,t,n,c0,⟨b,l⟩,bd||D1 g,(cR ((fO c (bB W g fl c i):Nat):Int),cR ((m+oN (bB W g fl c i):Nat):Int)),(W:Int),⟨aF nn (cj (bB W g fl c i)),out++bB W g fl c i⟩,())
 |.nil,at_,j,c,m,bd,nn,out,_,_,_,hj,_,_,_=>by have hj:j+0=tot:=hj;refine cw ?_;unfold vz;simp only;rw[bP,if_neg om];have e:out++bB W .nil fl c i=out:=zt out;have e2:(bd||D1 .nil)=bd:=Bool.or_false _;have e3:aF nn (cj (bB W .nil fl c i))=nn:=Bool.and_true _;rw[e,e2,e3];rfl
 |.cons k1 t1 n1 gr r,at_,j,c,m,bd,nn,out,hs,⟨hk,he,hr⟩,hN,hj,h1,h2,h3=>by
  have hN:gr.size+r.size+1<=N:=hN;have hj:j+(r.au+1)=tot:=hj;have h1:c+(iG t1 gr i+eG r i)<=2 ^ 50:=h1;have h2:m+(iG t1 gr i+eG r i)<=2 ^ 50:=h2;have h3:out.length+(iG t1 gr i+eG r i)<=2147483648:=h3;obtain⟨_,_,g3,_⟩:=hs.node;have hm:=z96 W hk he fl c i;have e:=hp at_ k1 t1 n1 gr r i c m fl bd nn out hs hk he om om om om om;have hg:=z0m (gq W k1 t1 n1 (bB W gr) (eC gr).length fl c i) c;have hn:=z61 (gq W k1 t1 n1 (bB W gr) (eC gr).length fl c i);have e2:=qu1 hl hp q k t n c0 tot i fl hc hf r (at_+1+gr.size) (j+1) (fO c (gq W k1 t1 n1 (bB W gr) (eC gr).length fl c i)) (m+oN (gq W k1 t1 n1 (bB W gr) (eC gr).length fl c i)) (bd||AL k1 gr) (aF nn (cj (gq W k1 t1 n1 (bB W gr) (eC gr).length fl c i))) (out++gq W k1 t1 n1 (bB W gr) (eC gr).length fl c i) g3 hr om om om om (by rw[zd];omega);have step:vz self ((i:Int),fl,(at_:Int),(tot:Int),(j:Int),q,k,t,n,c0,⟨b,l⟩,bd,(cR (c:Int),cR (m:Int)),(W:Int),⟨nn,out⟩,())=
    some (.inl ((i:Int),fl,((at_+1+gr.size:Nat):Int),(tot:Int),((j+1:Nat):Int),q,k,t,n,c0,⟨b,l⟩,bd||AL k1 gr,(cR ((fO c (gq W k1 t1 n1 (bB W gr) (eC gr).length fl c i):Nat):Int),cR ((m+oN (gq W k1 t1 n1 (bB W gr) (eC gr).length fl c i):Nat):Int)),(W:Int),⟨aF nn (cj (gq W k1 t1 n1 (bB W gr) (eC gr).length fl c i)),out++gq W k1 t1 n1 (bB W gr) (eC gr).length fl c i⟩,())):=by
   unfold vz;simp only;rw[bP,if_pos om,e];simp only[af];rw[bK om]
  rw[ew step,e2];have e3:bB W (.cons k1 t1 n1 gr r) fl c i=gq W k1 t1 n1 (bB W gr) (eC gr).length fl c i++bB W r fl (fO c (gq W k1 t1 n1 (bB W gr) (eC gr).length fl c i)) i:=rfl;have e4:(bd||D1 (.cons k1 t1 n1 gr r))=((bd||AL k1 gr)||D1 r):=(Bool.or_assoc bd (AL k1 gr) (D1 r)).symm;rw[e3,e4,qtz,z0n,qu0,zo,show(F.cons k1 t1 n1 gr r).size=gr.size+r.size+1 from rfl,show at_+1+gr.size+r.size=at_+(gr.size+r.size+1) by omega,Nat.add_assoc m]
end
section
variable {self:kU} {b:Bool} {l:List ND} {W N:Nat}
theorem z97(hl:l.length<=10000)(hW:W<=1000000)(hp:OO self b l W N)(q:Nat)(k:Int)(t:Tx)(n:Int)(ks r:F)(i c m:Nat)(fl bd nn:Bool)(out:Tx)(hs:bE l q (.cons k t n ks r))(hk:Iw k t n ks)(hg:RD ks)(hN:ks.size<=N)(hi:i+2*(N+1)<=1000000)(h1:c+iG t ks i<=2 ^ 50)(h2:m+iG t ks i<=2 ^ 50)(h3:out.length+iG t ks i<=2147483648):pW self (⟨b,l⟩,(q:Int),(i:Int),fl,bd,(cR (c:Int),cR (m:Int)),(W:Int),⟨nn,out⟩,())=some (((q+1+ks.size:Nat):Int),bd||AL k ks,(cR ((fO c (gq W k t n (bB W ks) (eC ks).length fl c i):Nat):Int),cR ((m+oN (gq W k t n (bB W ks) (eC ks).length fl c i):Nat):Int)),(W:Int),⟨aF nn (cj (gq W k t n (bB W ks) (eC ks).length fl c i)),out++gq W k t n (bB W ks) (eC ks).length fl c i⟩,()):=by
 obtain⟨g1,g2,g3,g4⟩:=hs.node;have ho:=ks.eh;have ht:iG t ks i=t.length+1+i+eG ks (i+2):=rfl;have hv:=OK ks (i:=i) (j:=i+2) om;have kids:=fun(fl:Bool) (i':Nat) (hu:i'+2*N<=1000000)=>qu1 hl hp (q:Int) k t n (ks.au:Int) ks.au i' fl om hu ks (q+1) 0;have hq:aG .i64 (q:Int) 1=((q+1:Nat):Int):=bK om;rw[Te,dG g1,af];simp only;rcases hk with ⟨rfl,e0,rfl,hc⟩|⟨rfl,rfl,e0,rfl⟩|⟨rfl,rfl,rfl,e0⟩|⟨rfl,rfl,e0,e1⟩|⟨rfl,rfl,e0⟩
 ·have e:gq W 41 t n (bB W .nil) (eC .nil).length fl c i=t:=if_pos rfl;have he:fO c t=c+t.length:=Va t c fun b hb e=>by have:=hc b hb;omega
  rw[e,he];rw[show ag 41 41=true from rfl,aU,Vb bd W nn out om om om];simp only[af];have e2:=kids fl i om (c+t.length) m true (aF nn (cj t)) (out++t) g2 trivial hN (zD _) (by show _+0<=_;omega) (by show _+0<=_;omega) (by rw[zd];show _+0<=_;omega);have e2:aX (vz self) ((i:Int),fl,((q+1:Nat):Int),((0:Nat):Int),0,(q:Int),41,t,n,((0:Nat):Int),⟨b,l⟩,true,(cR ((c+t.length:Nat):Int),cR (m:Int)),(W:Int),⟨aF nn (cj t),out++t⟩,())=_:=e2;have e4:((F.nil.au:Nat):Int)=((0:Nat):Int):=rfl;simp only[bR];rw[Fb,hq,e4,e2];simp only[af];have e3:out++t++bB W .nil fl (c+t.length) i=out++t:=zt _;have e6:(bd||AL 41 .nil)=true:=Bool.or_true _;have e7:aF (aF nn (cj t)) (cj (bB W .nil fl (c+t.length) i))=aF nn (cj t):=Bool.and_true _;rw[e3,e6,e7,Vc t fun b hb e=>by have:=hc b hb;omega];rfl
 ·have e4:((F.nil.au:Nat):Int)=((0:Nat):Int):=rfl;have hw:iG [] F.nil i=0+1+i+0:=rfl;rw[show ag 42 41=false from rfl,aD,show ag 42 42=true from rfl,aU];cases fl with
  |true=>have e:gq W 42 [] n (bB W .nil) (eC .nil).length true c i=[32]:=rfl;have he:fO c [32]=c+1:=rfl;rw[e,he,aU];have hj:=Vb (s:=[32]) bd (c:=c) (m:=m) W nn out (by show c+1<_;omega) om (by show _+1<=_;omega);rw[hj];simp only[af];have e2:=kids true i om (c+1) m true (aF nn (cj [32])) (out++[32]) g2 trivial hN (zD _) (by show _+0<=_;omega) (by show _+0<=_;omega) (by rw[zd];show _+1+0<=_;omega);have e2:aX (vz self) ((i:Int),true,((q+1:Nat):Int),((0:Nat):Int),0,(q:Int),42,[],n,((0:Nat):Int),⟨b,l⟩,true,(cR ((c+1:Nat):Int),cR (m:Int)),(W:Int),⟨aF nn (cj [32]),out++[32]⟩,())=_:=e2;simp only[bR,af];rw[Fb,hq,e4];refine Eq.trans (congrArg (fun z=>aj z _) e2) ?_;simp only[af];have e3:out++[32]++bB W .nil true (c+1) i=out++[32]:=zt _;have e6:(bd||AL 42 .nil)=true:=Bool.or_true _;have e7:aF (aF nn (cj [32])) (cj (bB W .nil true (c+1) i))=aF nn (cj [32]):=Bool.and_true _;rw[e3,e6,e7];rfl
  |false=>
   have e:gq W 42 [] n (bB W .nil) (eC .nil).length false c i=10::List.replicate i 32:=rfl;have he:fO c (10::List.replicate i 32)=i:=by show fO 0 (List.replicate i 32)=i;rw[Va _ _ (fun b hb e=>by rw[List.eq_of_mem_replicate hb] at e;cases e),List.length_replicate,zD]
   rw[e,he,aD];have hf:=z0o bd (c:=c) (m:=m) (i:=i) W nn out om om om;rw[hf];simp only[af];have e2:=kids false i om i (m+1) true (aF nn (cj (10::List.replicate i 32))) (out++10::List.replicate i 32) g2 trivial hN (zD _) (by show _+0<=_;omega) (by show _+0<=_;omega) (by rw[zd,zj,List.length_replicate];show _+0<=_;omega);have e2:aX (vz self) ((i:Int),false,((q+1:Nat):Int),((0:Nat):Int),0,(q:Int),42,[],n,((0:Nat):Int),⟨b,l⟩,true,(cR (i:Int),cR ((m+1:Nat):Int)),(W:Int),⟨aF nn (cj (10::List.replicate i 32)),out++10::List.replicate i 32⟩,())=_:=e2;simp only[bR,af];rw[Fb,hq,e4,e2];simp only[af];have e3:(out++10::List.replicate i 32)++bB W .nil false i i=out++10::List.replicate i 32:=zt _;have e6:(bd||AL 42 .nil)=true:=Bool.or_true _;have e7:aF (aF nn (cj (10::List.replicate i 32))) (cj (bB W .nil false i i))=aF nn (cj (10::List.replicate i 32)):=Bool.and_true _;have e8:oN (10::List.replicate i 32)=1:=by show 1+oN (List.replicate i 32)=1;rw[Vc _ fun b hb e=>by rw[List.eq_of_mem_replicate hb] at e;cases e]
   rw[e3,e6,e7,e8];rfl
 ·have e:gq W 43 [] 2 (bB W ks) (eC ks).length fl c i=bB W ks fl c (i+2):=rfl;rw[e];have e2:=kids fl (i+2) om c m bd nn out g2 hg hN (zD _) om om om;have e2:aX (vz self) (((i+2:Nat):Int),fl,((q+1:Nat):Int),(ks.au:Int),0,(q:Int),43,[],2,(ks.au:Int),⟨b,l⟩,bd,(cR (c:Int),cR (m:Int)),(W:Int),⟨nn,out⟩,())=_:=e2;rw[show ag 43 41=false from rfl,aD,show ag 43 42=false from rfl,aD,show ag 43 43=true from rfl,aU];rw[Fb,hq,show aG .i64 (i:Int) 2=((i+2:Nat):Int) from by rw[pD om om];omega,e2];simp only[af,bR];rfl
 ·have e:gq W 44 [] n (bB W ks) (eC ks).length fl c i=bB W ks (fl||decide (c+(eC ks).length<=W)) c i:=rfl;have hx:=OL ks (i+2);rw[e,show ag 44 41=false from rfl,aD,show ag 44 42=false from rfl,aD,show ag 44 43=false from rfl,aD,show ag 44 44=true from rfl,aU];have e2:=kids (fl||decide (c+(eC ks).length<=W)) i om c m bd nn out g2 hg hN (zD _) om om om;cases fl with
  |true=>have e2:aX (vz self) ((i:Int),true,((q+1:Nat):Int),(ks.au:Int),0,(q:Int),44,[],n,(ks.au:Int),⟨b,l⟩,bd,(cR (c:Int),cR (m:Int)),(W:Int),⟨nn,out⟩,())=_:=e2;rw[aU,Fb,hq,e2];simp only[af,bR,Bool.true_or];rfl
  |false=>
   rw[Bool.false_or] at e2;rw[Bool.false_or];have e2:aX (vz self) ((i:Int),decide (c+(eC ks).length<=W),((q+1:Nat):Int),(ks.au:Int),0,(q:Int),44,[],n,(ks.au:Int),⟨b,l⟩,bd,(cR (c:Int),cR (m:Int)),(W:Int),⟨nn,out⟩,())=_:=e2;have hc:cf l (q:Int) ((q+1+ks.size:Nat):Int)=some ((l.take (q+1+ks.size)).drop q):=by unfold cf;rw[if_pos om,Int.toNat_natCast,Int.toNat_natCast]
   have hd:(l.take (q+1+ks.size)).drop q=(tr 44 [] n ks).flat:=by rw[List.drop_take,show q+1+ks.size-q=(tr 44 [] n ks).size by rw[yF];omega];exact hs.first.oH
   have hm:eC (tr 44 [] n ks)=eC ks:=by show(if(44:Int)=41 then [] else if(44:Int)=42 then [32] else eC ks)++[]=_;rw[if_neg dc,if_neg dc,zt]
   have hn:=z0r b (tr 44 [] n ks) ⟨.inr (.inr (.inr (.inl ⟨rfl,rfl,e0,e1⟩))),hg,trivial⟩ (by rw[yF];omega) (by rw[hm];omega);rw[hm] at hn;rw[aD,Ih b l hl,hs.ends];simp only[af];rw[hc];simp only[af];rw[hd,hn];simp only[af];rw[z0p bd ⟨nn,out⟩ om om];simp only[af];rw[Fb,hq,e2];simp only[af,bR];rfl
 ·have e:gq W 45 [] n (bB W ks) (eC ks).length fl c i=bB W ks fl c i:=rfl;rw[e];have e2:=kids fl i om c m bd nn out g2 hg hN (zD _) om om om;have e2:aX (vz self) ((i:Int),fl,((q+1:Nat):Int),(ks.au:Int),0,(q:Int),45,[],n,(ks.au:Int),⟨b,l⟩,bd,(cR (c:Int),cR (m:Int)),(W:Int),⟨nn,out⟩,())=_:=e2;rw[show ag 45 41=false from rfl,aD,show ag 45 42=false from rfl,aD,show ag 45 43=false from rfl,aD,show ag 45 44=false from rfl,aD];simp only[bR,af];rw[Fb,hq,e2];simp only[af];rfl
theorem z0s(hl:l.length<=10000)(hW:W<=1000000):∀N:Nat,OO (cL pW N) b l W N
 |0=>fun _ _ _ _ _ _ _ _ _ _ _ _ _ _ _ _ h=>absurd h (Nat.not_lt_zero _)
 |N+1=>by have ih:=z0s hl hW N;intro q k t n ks r i c m fl bd nn out hs hk hc hN hi h1 h2 h3;have he:OO (cL pW N) b l W ks.size:=fun q' k' t' n' bO r' i' c' m' K9 bd' nn' Ve a1 a2 a3 a4=>ih q' k' t' n' bO r' i' c' m' K9 bd' nn' Ve a1 a2 a3 om;exact z97 hl hW he q k t n ks r i c m fl bd nn out hs hk hc (Nat.le_refl _) hi h1 h2 h3
theorem z4l(hl:l.length<=10000)(hW:W<=1000000){q:Nat}{k:Int}{t:Tx}{n:Int}{ks r:F}(i c m:Nat)(fl bd nn:Bool)(out:Tx)(hs:bE l q (.cons k t n ks r))(hk:Iw k t n ks)(hc:RD ks)(hi:i+2*(ks.size+1)<=1000000)(h1:c+iG t ks i<=2 ^ 50)(h2:m+iG t ks i<=2 ^ 50)(h3:out.length+iG t ks i<=2147483648):ur (⟨b,l⟩,(q:Int),(i:Int),fl,bd,(cR (c:Int),cR (m:Int)),(W:Int),⟨nn,out⟩,())=some (((q+1+ks.size:Nat):Int),bd||AL k ks,(cR ((fO c (gq W k t n (bB W ks) (eC ks).length fl c i):Nat):Int),cR ((m+oN (gq W k t n (bB W ks) (eC ks).length fl c i):Nat):Int)),(W:Int),⟨aF nn (cj (gq W k t n (bB W ks) (eC ks).length fl c i)),out++gq W k t n (bB W ks) (eC ks).length fl c i⟩,()):=by exact Dv (ks.size+1) fun N hN=>z0s hl hW N q k t n ks r i c m fl bd nn out hs hk hc hN hi h1 h2 h3
end
def okX(x:ND):Prop:=(x.1=41/\x.2.2.1=0/\x.2.2.2=0/\∀c,c∈x.2.1->32<=c/\c<=126)\/(x.1=42/\x.2.1=[]/\x.2.2.1=0/\x.2.2.2=0)\/(x.1=43/\x.2.1=[]/\x.2.2.1=2/\x.2.2.2=1)\/(x.1=44/\x.2.1=[]/\x.2.2.1=0/\x.2.2.2=1)\/(x.1=45/\x.2.1=[]/\x.2.2.1=0)
theorem RD.ok:∀{f:F},RD f->∀x,x∈f.flat->okX x
 |.nil,_,_,h=>by cases h
 |.cons k t n ks r,⟨hk,hc,hr⟩,x,hx=>by
  have hx:x∈(k,t,n,(ks.au:Int))::(ks.flat++r.flat):=hx;rcases zw.1 hx with rfl|hx
  ·rcases hk with ⟨h,a,e,c⟩|⟨h,a,c,e⟩|⟨h,a,c,e⟩|⟨h,a,c,e⟩|⟨h,a,c⟩
   ·subst e;exact .inl ⟨h,a,rfl,c⟩
   ·subst e;exact .inr (.inl ⟨h,a,c,rfl⟩)
   ·exact .inr (.inr (.inl ⟨h,a,c,congrArg Int.ofNat e⟩))
   ·exact .inr (.inr (.inr (.inl ⟨h,a,c,congrArg Int.ofNat e⟩)))
   ·exact .inr (.inr (.inr (.inr ⟨h,a,c⟩)))
  ·exact(zN.1 hx).elim (hc.ok x) (hr.ok x)
theorem qre{t:Tx}(ht:∀c,c∈t->32<=c/\c<=126)(_hl:t.length<=1000000):∀(m k:Nat),k+m=t.length->aX nD (true,t,(k:Int),())=some (-1,()):=by
 intro m
 induction m with
 |zero=>intro k hk;refine cw ?_;unfold nD;simp only;rw[show ae t=((t.length:Nat):Int) from rfl,bP,if_neg om]
 |succ m ih=>
  intro k hk;have he:k<t.length:=om
  have hc:=ht t[k] (List.getElem_mem he);obtain⟨h1,h2⟩:=(KJ (fun b hb=>by have:=ht b hb;omega) he).1 om;have step:nD (true,t,(k:Int),())=some (.inl (true,t,((k+1:Nat):Int),())):=by unfold nD;simp only;have e:aK (k:Int) (ae t)=true:=zu (show(k:Int)<((t.length:Nat):Int) by omega);rw[e,aU,aU,af,aU,af,h1,h2,S2,bP,if_neg om,af,af,show aK 126 t[k]=false from zn om];rfl
  rw[ew step];exact ih (k+1) om
theorem qil{t:Tx}(ht:∀c,c∈t->32<=c/\c<=126)(hl:t.length<=1000000):pT (t,())=some (false,()):=by have h:aX nD (true,t,0,())=some (-1,()):=qre ht hl t.length 0 (zD _);rw[S5,S4,S3,h];rfl
theorem qrf{x:ND}(h:okX x)(hl:x.2.1.length<=1000000):ot (x,())=some (true,()):=by
 obtain⟨k,t,n,c⟩:=x;have hl:t.length<=1000000:=hl;rw[S6];have hc:pT ([],())=some (false,()):=qil (fun _ h=>by cases h) dc;rcases h with ⟨h1,h2,h3,h4⟩|⟨h1,h2,h3,h4⟩|⟨h1,h2,h3,h4⟩|⟨h1,h2,h3,h4⟩|⟨h1,h2,h3⟩
 ·have h1:k=41:=h1;have h2:n=0:=h2;have h3:c=0:=h3;subst h1;subst h2;subst h3;have e:=qil h4 hl;rw[show ag 41 41=true from rfl,aU];simp only[af,bR];rw[e];rfl
 ·have h1:k=42:=h1;have h2:t=[]:=h2;have h3:n=0:=h3;have h4:c=0:=h4;subst h1;subst h2;subst h3;subst h4;rw[show ag 42 41=false from rfl,aD,show ag 42 42=true from rfl,aU];simp only[af,bR];rw[hc];rfl
 ·have h1:k=43:=h1;have h2:t=[]:=h2;have h3:n=2:=h3;have h4:c=1:=h4;subst h1;subst h2;subst h3;subst h4;rw[show ag 43 41=false from rfl,aD,show ag 43 42=false from rfl,aD,show ag 43 43=true from rfl,aU,show cK 0 2=true from rfl,aU];simp only[af,bR];rw[hc];rfl
 ·have h1:k=44:=h1;have h2:t=[]:=h2;have h3:n=0:=h3;have h4:c=1:=h4;subst h1;subst h2;subst h3;subst h4;rw[show ag 44 41=false from rfl,aD,show ag 44 42=false from rfl,aD,show ag 44 43=false from rfl,aD,show ag 44 44=true from rfl,aU];simp only[af,bR];rw[hc];rfl
 ·have h1:k=45:=h1;have h2:t=[]:=h2;have h3:n=0:=h3;subst h1;subst h2;subst h3;rw[show ag 45 41=false from rfl,aD,show ag 45 42=false from rfl,aD,show ag 45 43=false from rfl,aD,show ag 45 44=false from rfl,aD,show ag 45 45=true from rfl,aU];simp only[af,bR];rw[hc];simp only[af];rw[iY];rfl
theorem qrg(b:Bool){k:Int}{t:Tx}{n:Int}{ks:F}(hr:RD (tr k t n ks))(hs:ks.size+1<=4000)(ht:TL 1000000 (tr k t n ks).flat):r7 (⟨b,(tr k t n ks).flat⟩,())=some (0,()):=by
 have he:(tr k t n ks).flat.length=ks.size+1:=(tr k t n ks).len;have loop:∀(m j:Nat),j+m=(tr k t n ks).flat.length->aX qj (⟨b,(tr k t n ks).flat⟩,ae (tr k t n ks).flat,(j:Int),())=some (0,()):=by
  generalize hL:(tr k t n ks).flat=L at*
  intro m
  induction m with
  |zero=>intro j hj;refine cw ?_;unfold qj;simp only;rw[show ae L=((L.length:Nat):Int) from rfl,bP,if_neg om]
  |succ m ih=>
   intro j hj;have hc:j<L.length:=om
   have hm:L[j]∈L:=List.getElem_mem hc;have e:=qrf (x:=L[j]) (hr.ok _ (by rw[hL];exact hm)) (ht _ hm);have step:qj (⟨b,L⟩,ae L,(j:Int),())=some (.inl (⟨b,L⟩,ae L,((j+1:Nat):Int),())):=by unfold qj;simp only;rw[show ae L=((L.length:Nat):Int) from rfl,bP,if_pos om,dG (zg hc),af];have e:ot ((L[j].1,L[j].2.1,L[j].2.2.1,L[j].2.2.2),())=some (true,()):=e;rw[e,af];show az false _ _=_;rw[aD,bK om]
   rw[ew step];exact ih (j+1) om
 rw[S7,NZ b _ om,(N1 _).2 ⟨k,t,n,ks,rfl⟩];have c0:aK 4000 (ae (tr k t n ks).flat)=false:=zn (by unfold ae;omega);rw[c0,aD];simp only[af];rw[show av true=false from rfl,aD];exact loop _ 0 (zD _)
theorem qpa(b:Bool){k:Int}{t:Tx}{n:Int}{ks:F}(hr:RD (tr k t n ks))(hs:ks.size+1<=4000)(ht:TL 1000000 (tr k t n ks).flat)(hv:iG t ks 0<=2147483648){W:Nat}(hW:1<=W/\W<=1000):sa (⟨b,(tr k t n ks).flat⟩,(W:Int),())=some (bB W (tr k t n ks) false 0 0,0,()):=by have hc:=z4l (b:=b) (l:=(tr k t n ks).flat) (W:=W) (by rw[(tr k t n ks).len,yF];omega) om (q:=0) 0 0 0 false false true [] (N2 k t n ks) hr.1 hr.2.1 om om om (by show 0+_<=_;omega);have e0:cR ((0:Nat):Int)=0:=l7;rw[e0] at hc;have hc:ur (⟨b,(tr k t n ks).flat⟩,0,0,false,false,(0,0),(W:Int),⟨true,[]⟩,())=_:=hc;rw[Tf,qrg b hr hs ht,af];show az false _ _=_;rw[aD,bP,if_neg om,af,show aK 1000 (W:Int)=false from zn om,aD,hc];have e:bB W (tr k t n ks) false 0 0=gq W k t n (bB W ks) (eC ks).length false 0 0:=zt _;rw[e];rfl
def pc(s:Tx):Prop:=∀c,c∈s->32<=c/\c<=126
theorem qK{a b:Tx}(h1:pc a)(h2:pc b):pc (a++b):=fun c hc=>(zN.1 hc).elim (h1 c) (h2 c)
theorem vI:pc []:=fun _ h=>by cases h
theorem vJ{c:Int}{s:Tx}(h:32<=c/\c<=126)(hs:pc s):pc (c::s):=fun x hx=>by
 rcases zw.1 hx with rfl|hx
 ·exact h
 ·exact hs x hx
theorem mc{s:Tx}(h:s.all (fun c=>decide (32<=c)&&decide (c<=126))=true):pc s:=fun c hc=>by have:=zU.1 h c hc;rw[ze] at this;exact⟨zM this.1,zM this.2⟩
theorem zb6{s:Tx}(h:da s=true):pc s:=fun c hc=>by unfold da oD at h;simp only[ze] at h;have:=zM (zU.1 h.1.2 c hc);unfold bN at this;simp only[zw,List.not_mem_nil,or_false] at this;omega
theorem z4m{c:Int}(h:eW c=true):32<=c/\c<=126:=by
 unfold eW yE AE KK at h;simp only[Bool.or_eq_true,ze] at h;rcases h with (((h|h)|h)|h)|h
 ·have h1:=zM h.1;have h2:=zM h.2;omega
 ·have h1:=zM h.1;have h2:=zM h.2;omega
 ·have h1:=zM h.1;have h2:=zM h.2;omega
 ·have:=dB.1 h;omega
 ·have:=dB.1 h;omega
theorem Vf{p:Int->Bool}{s:Tx}(h:vB p s=true):pc s:=fun c hc=>by unfold vB at h;simp only[ze] at h;exact z4m (zU.1 h.1.1.1 c hc)
theorem Lb{s:Tx}(h:aS s=true):pc s:=by
 unfold aS at h;rcases Bool.or_eq_true _ _▸h with h|h
 ·exact Vf h
 ·exact zb6 h
theorem Vg{s:Tx}(h:pc s):pc (nI s):=by
 unfold nI;cases da s with
 |false=>exact h
 |true=>exact qK (qK (mc rfl) h) (mc rfl)
theorem Vh:∀(m n:Nat),pc (dL m n)
 |0,_=>vI
 |m+1,n=>by
  unfold dL;split
  ·exact vJ om vI
  ·exact qK (Vh m (n / 10)) (vJ om vI)
theorem z0t:∀{s:Tx},pc s->pc (gO s)
 |[],_=>vI
 |b::l,h=>by
  have hl:pc l:=fun c hc=>h c (zh _ hc);have hb:=h b (zf ..);unfold gO;split
  ·exact vJ dc hl
  ·exact vJ hb (z0t hl)
theorem z62(n:Int):pc (fi n):=by
 unfold fi kS;refine z0t ?_;split
 ·exact vJ dc (Vh _ _)
 ·exact Vh _ _
theorem z0u{n:Int}(h:0<=n/\n<16):32<=gD n/\gD n<=126:=by unfold gD;split<;>omega
theorem z98{c:Int}(h:0<=c/\c<=255):pc (eB c):=by
 unfold eB;split
 ·rename_i e;exact vJ dc (vJ om vI)
 split
 ·exact mc rfl
 split
 ·exact vJ dc (vJ dc (vJ (z0u om) (vJ (z0u om) vI)))
 ·exact vJ om vI
theorem z4n(c:Int):(eB c).length<=4:=by
 unfold eB;split
 ·show 2<=4;omega
 split
 ·show 2<=4;omega
 split
 ·exact Nat.le_refl _
 ·show 1<=4;omega
theorem z0v:∀{s:Tx},(∀b,b∈s->0<=b/\b<=255)->pc (s.flatMap eB)
 |[],_=>vI
 |b::l,h=>by rw[List.flatMap_cons];exact qK (z98 (h b (zf ..))) (z0v fun c hc=>h c (zh _ hc))
theorem zb7{s:Tx}(h:∀b,b∈s->0<=b/\b<=255):pc (sK s):=qK (qK (mc rfl) (z0v h)) (mc rfl)
theorem qu2:∀s:Tx,(s.flatMap eB).length<=4*s.length
 |[]=>Nat.le_refl _
 |b::l=>by have:=qu2 l;have:=z4n b;rw[List.flatMap_cons,zd,zj];omega
theorem z99(s:Tx):(sK s).length<=4*s.length+2:=by have:=qu2 s;show([34]++s.flatMap eB++[34]).length<=_;rw[zd,zd];show 1+_+1<=_;omega
theorem Vi(N:Nat):∀(f:F),TL N f.flat->(sL (bL f)).length<=(N+30)*f.size
 |.nil,_=>Nat.zero_le _
 |.cons k t n ks r,h=>by
  have h:TL N ((k,t,n,(ks.au:Int))::(ks.flat++r.flat)):=h;have h1:=Vi N ks fun x hx=>h x (zh _ (List.mem_append_left _ hx));have h2:=Vi N r fun x hx=>h x (zh _ (List.mem_append_right _ hx));have h3:t.length<=N:=h _ (zf ..);have h4:=OG k t n (bL ks);have h5:=U5 k ks.au (cy k t n (bL ks));have e:sL (bL (.cons k t n ks r))=([32]++gp k ks.au (cy k t n (bL ks)))++sL (bL r):=List.flatMap_cons;have em:(N+30)*(ks.size+r.size+1)=(N+30)*ks.size+(N+30)*r.size+(N+30):=by rw[Nat.mul_add,Nat.mul_add,Nat.mul_one]
  rw[e,zd,zd];show 1+_+_<=(N+30)*(ks.size+r.size+1);rw[em];omega
theorem qw4(N:Nat)(k:Int)(t:Tx)(n:Int)(ks:F)(h:TL N (tr k t n ks).flat):(cy k t n (bL ks)).length+9<=(N+30)*(ks.size+1):=by have h1:=Vi N ks fun x hx=>h x (by rw[vC];exact zh _ hx);have h3:t.length<=N:=h (k,t,n,(ks.au:Int)) (by rw[vC];exact zf ..);have h4:=OG k t n (bL ks);rw[Nat.mul_add,Nat.mul_one];omega
def RS(S:Tx->Prop):F->Prop
 |.nil=>True
 |.cons k t n ks r=>(Iw k t n ks/\(k=41->S t))/\RS S ks/\RS S r
theorem RS.rd{S:Tx->Prop}:∀{f:F},RS S f->RD f
 |.nil,_=>trivial
 |.cons _ _ _ _ _,⟨⟨h,_⟩,h2,h3⟩=>⟨h,h2.rd,h3.rd⟩
theorem RS.app{S:Tx->Prop}:∀{f g:F},RS S f->RS S g->RS S (f.app g)
 |.nil,_,_,h=>h
 |.cons _ _ _ _ _,_,⟨h1,h2,h3⟩,h=>⟨h1,h2,h3.app h⟩
def GD(S:Tx->Prop)(d:F):Prop:=RS S d/\d.au=1
theorem GD.cat{S:Tx->Prop}:∀{l:List F},(∀d,d∈l->GD S d)->RS S (bD l)
 |[],_=>trivial
 |_::_,h=>(h _ (zf ..)).1.app (GD.cat fun x hx=>h x (zh _ hx))
def fE(S:Tx->Prop)(l:List F):Prop:=∀d,d∈l->GD S d
theorem fE.nil{S:Tx->Prop}:fE S []:=fun _ h=>by cases h
theorem fE.cons{S:Tx->Prop}{d:F}{l:List F}(h:GD S d)(hl:fE S l):fE S (d::l):=fun x hx=>by
 rcases zw.1 hx with rfl|hx
 ·exact h
 ·exact hl x hx
theorem fE.app{S:Tx->Prop}{a b:List F}(h:fE S a)(g:fE S b):fE S (a++b):=fun x hx=>(zN.1 hx).elim (h x) (g x)
section
variable {S:Tx→Prop}
theorem GD.tx{s:Tx}(h:S s)(hp:pc s):GD S (cq s):=⟨⟨⟨.inl ⟨rfl,rfl,rfl,hp⟩,fun _=>h⟩,trivial,trivial⟩,rfl⟩
theorem GD.ln:GD S cB:=⟨⟨⟨.inr (.inl ⟨rfl,rfl,rfl,rfl⟩),fun h=>absurd h dc⟩,trivial,trivial⟩,rfl⟩
theorem GD.GS{l:List F}(h:fE S l):GD S (yS l):=⟨⟨⟨.inr (.inr (.inr (.inr ⟨rfl,rfl,rfl⟩))),fun h=>absurd h dc⟩,GD.cat h,trivial⟩,rfl⟩
theorem GD.some{l:List F}(h:fE S l):GD S (yT l):=by
 match l,h with
 |[],h=>exact GD.GS h
 |[d],h=>exact h d (zf ..)
 |_::_::_,h=>exact GD.GS h
theorem GD.nest{l:List F}(h:fE S l):GD S (kJ l):=⟨⟨⟨.inr (.inr (.inl ⟨rfl,rfl,rfl,(GD.some h).2⟩)),fun h=>absurd h dc⟩,(GD.some h).1,trivial⟩,rfl⟩
theorem GD.oO{l:List F}(h:fE S l):GD S (fD l):=⟨⟨⟨.inr (.inr (.inr (.inl ⟨rfl,rfl,rfl,(GD.some h).2⟩))),fun h=>absurd h dc⟩,(GD.some h).1,trivial⟩,rfl⟩
theorem GD.ll{d:F}(h:GD S d):GD S (cm d):=GD.nest (.cons GD.ln (.cons h .nil))
theorem GD.brk(hS:S [40]/\S [41])(b:Bool){d:F}(h:GD S d):GD S (mY b d):=by
 cases b with
 |false=>exact h
 |true=>exact GD.GS (.cons (GD.tx hS.1 (mc rfl)) (.cons h (.cons (GD.tx hS.2 (mc rfl)) .nil)))
end
structure yZ (S:Tx->Prop) (l:List ND) (fx:List ar):Prop where
 small:∀s,pc s->s.length<=12->S s
 name:∀x,x∈l->pc x.2.1->∀p q:Tx,pc p->pc q->p.length<=12->q.length<=12->S (p++nI x.2.1++q)
 con:∀x,x∈l->pc x.2.1->S x.2.1
 quo:∀x,x∈l->S (sK x.2.1)
 num:∀n,S (fi n)
 op:∀f,f∈fx->S (f.1++[32])
 pat:∀k t n ks,(∀x,x∈(tr k t n ks).flat->x∈l)->ks.size+1<=l.length->pc (cy k t n (bL ks))->S (cy k t n (bL ks)++[32,45,62])/\S ([124,32]++(cy k t n (bL ks)++[32,45,62]))
structure DcG (S:Tx->Prop) (x:Dc):Prop where
 p:GD S x.p.doc
 hd:GD S x.hd.doc
 args:fE S x.args
def DcB(S:Tx->Prop)(k:Int)(x:Dc):Prop:=DcG S x/\(k=6->GD S x.b.doc)
def OP(S:Tx->Prop)(fx:List ar):Bool->Bool->F->Prop
 |_,_,.nil=>True
 |m,dS,.cons k t n ks r=>(((m&&dS)=false->DcB S k (dT fx k t n ks))/\((m&&dS)=true->S ((dT fx k t n ks).pt++[32,45,62])/\S ([124,32]++((dT fx k t n ks).pt++[32,45,62]))/\pc (dT fx k t n ks).pt))/\OP S fx m (!dS) r
theorem Vj:∀(f:F) {m dS:Bool},eD m true dS f=0->pc (sL (bL f))
 |.nil,_,_,_=>vI
 |.cons k t n ks r,m,dS,h=>by
  obtain⟨h1,h2⟩:=cJ.1 h;rw[Bool.true_or] at h1;obtain⟨hn,hf⟩:=bG.1 h1;obtain⟨_,hp,_,_,hc,_⟩:=bF.1 hn;have il:=Vj ks hf;have im:=Vj r h2;have e:sL (bL (.cons k t n ks r))=([32]++gp k ks.au (cy k t n (bL ks)))++sL (bL r):=List.flatMap_cons;rw[e];have hT:pc (cy k t n (bL ks)):=by
   unfold cy;split
   ·exact mc rfl
   split
   ·rename_i he;subst he;have:aS t=true:=by
     unfold qT at hc;cases h:aS t with
     |true=>rfl
     |false=>rw[h] at hc;simp[jZ,ag,av] at hc
    exact Vg (Lb this)
   split
   ·exact z62 n
   ·rename_i hj he hk;have hg:k=24:=by
     have h1:cK 21 k=true:=by unfold iQ at hp;cases h:cK 21 k with|true=>rfl|false=>rw[h] at hp;cases hp
     have h2:cK k 24=true:=by unfold iQ at hp;cases h:cK k 24 with|true=>rfl|false=>rw[h,Bool.and_false] at hp;cases hp
     have h1:=zM h1;have h2:=zM h2;omega
    subst hg;have:qB t=true:=by
     unfold qT at hc;cases h:qB t with
     |true=>rfl
     |false=>rw[h] at hc;simp[jZ,ag,av] at hc
    exact qK (Vf this) il
  refine qK (qK (mc rfl) ?_) im;unfold gp;split
  ·exact qK (qK (mc rfl) hT) (mc rfl)
  ·exact hT
theorem z9a{k:Int}{t:Tx}{n:Int}{ks:F}(h:bI k t n ks true=0):pc (cy k t n (bL ks)):=by
 have h':eD false true false (tr k t n ks)=0:=cJ.2 ⟨h,rfl⟩;have:=Vj (tr k t n ks) h';have e:sL (bL (tr k t n ks))=([32]++gp k ks.au (cy k t n (bL ks)))++[]:=List.flatMap_cons;rw[e] at this;intro c hc;refine this c (List.mem_append_left _ (List.mem_append_right _ ?_));unfold gp;split
 ·exact List.mem_append_left _ (List.mem_append_right _ hc)
 ·exact hc
section
variable {S:Tx→Prop} {l:List ND} {fx:List ar}
theorem AM{k:Int}{t:Tx}(hk:k=3\/k=5\/k=7\/k=8\/k=12)(h:qT k t=true):aS t=true:=by
 unfold qT at h;cases hn:aS t with
 |true=>rfl
 |false=>rw[hn] at h;rcases hk with rfl|rfl|rfl|rfl|rfl<;>simp[jZ,ag,av] at h
theorem z63{t:Tx}(h:qT 4 t=true):qB t=true:=by
 unfold qT at h;cases hn:qB t with
 |true=>rfl
 |false=>rw[hn] at h;simp[jZ,ag,av] at h
theorem z0w(hS:yZ S l fx):∀(N:Nat) (r:F),r.size<=N->OP S fx true true r->fE S (nJ (dF fx r))
 |_,.nil,_,_=>fE.nil
 |_,.cons k t n ks .nil,_,_=>fE.nil
 |0,.cons k t n ks (.cons k' t' n' bO r),h,_=>by have h:ks.size+(bO.size+r.size+1)+1<=0:=h;omega
 |N+1,.cons k t n ks (.cons k' t' n' bO r),h,hs=>by have h:ks.size+(bO.size+r.size+1)+1<=N+1:=h;obtain⟨⟨_,h1⟩,⟨h2,_⟩,h3⟩:=hs;obtain⟨_,h1,hc⟩:=h1 rfl;have h2:=(h2 rfl).1.p;have ih:=z0w hS N r om h3;exact fE.app (.cons GD.ln (.cons (GD.tx h1 (qK (mc rfl) (qK hc (mc rfl)))) (.cons (GD.ll h2) .nil))) ih
theorem z64(hS:yZ S l fx)(hC:∀f,f∈fx->da f.1=true){k:Int}{t:Tx}{n:Int}{ks:F}(hv:bI k t n ks false=0)(hg:GL l)(hm:∀x,x∈(tr k t n ks).flat->x∈l)(hs:OP S fx (ag k 10) false ks):DcB S k (dT fx k t n ks):=by
 obtain⟨hn,hf⟩:=bG.1 hv;obtain⟨hD,hE,hk,_,hq,_⟩:=bF.1 hn;obtain⟨c1,c2,c3,rY,c0⟩:=vD hk;have hx:(k,t,n,(ks.au:Int))∈l:=hm _ (by rw[vC];exact zf ..);have kw:∀s:Tx,s.length<=12->s.all (fun c=>decide (32<=c)&&decide (c<=126))=true->GD S (cq s):=fun s h1 h2=>GD.tx (hS.small s (mc h2) h1) (mc h2);have hu:S [40]/\S [41]:=⟨hS.small _ (mc rfl) dc,hS.small _ (mc rfl) dc⟩;have nm:∀p q:Tx,aS t=true->p.length<=12->q.length<=12->p.all (fun c=>decide (32<=c)&&decide (c<=126))=true->q.all (fun c=>decide (32<=c)&&decide (c<=126))=true->GD S (cq (p++nI t++q)):=fun p q h1 h2 h3 h4 h5=>GD.tx (hS.name _ hx (Lb h1) p q (mc h4) (mc h5) h2 h3) (qK (qK (mc h4) (Vg (Lb h1))) (mc h5));by_cases h6:k=6
 ·subst h6;obtain⟨a,b,c,d,r,rfl,hr⟩:=fX (ks:=ks) (n:=1) (by have:=c2 (.inl rfl);omega);obtain⟨a',b',c',d',r',rfl,ht⟩:=fX (n:=0) hr;obtain rfl:=tw ht;have lW:ag 6 10=false:=rfl;rw[lW] at hs;obtain⟨⟨s1,_⟩,⟨s2,_⟩,_⟩:=hs;obtain⟨s1,s1b⟩:=s1 rfl;obtain⟨s2,_⟩:=s2 rfl;have e0:cF (dF fx (.cons a b c d (.cons a' b' c' d' .nil))) 0=dT fx a b c d:=rfl;have e1:cF (dF fx (.cons a b c d (.cons a' b' c' d' .nil))) 1=dT fx a' b' c' d':=rfl;have he:GD S (eF fx 6 t n (.cons a b c d (.cons a' b' c' d' .nil)) (dF fx (.cons a b c d (.cons a' b' c' d' .nil)))):=by
   unfold eF;rw[if_neg dc,if_neg dc,if_neg dc,if_neg dc,if_neg dc,if_pos rfl,e0,e1];cases hj:rowOf fx 6 (.cons a b c d (.cons a' b' c' d' .nil)) with
   |none=>exact GD.oO (.cons (GD.brk hu _ s1.hd) (.cons (GD.nest (s1.args.app (.cons GD.ln (.cons (GD.brk hu _ s2.p) .nil)))) .nil))
   |some f=>
    have ha:a=6:=zA fun h=>by rw[K6 fx h] at hj;cases hj
    subst ha;have hy:f∈fx:=by
     match d,hj with
     |.nil,h=>cases h
     |.cons a1 s1 c1 d1 rr,h=>
      have h:(if(6:Int)=6/\(6:Int)=6/\a1=3 then jq fx s1 else none)=some f:=h;by_cases h3:a1=3
      ·rw[if_pos ⟨rfl,rfl,h3⟩] at h;exact(AI h).1
      ·rw[if_neg (fun e=>h3 e.2.2)] at h;cases h
    exact GD.oO (.cons (GD.brk hu _ (s1b rfl)) (.cons (GD.nest (.cons GD.ln (.cons (GD.tx (hS.op f hy) (qK (zb6 (hC f hy)) (mc rfl))) (.cons (GD.brk hu _ s2.p) .nil)))) .nil))
  refine⟨⟨he,?_,?_⟩,fun _=>?_⟩
  ·unfold dT sN;by_cases hl:cO fx 6 (.cons a b c d (.cons a' b' c' d' .nil))=1
   ·show GD S (if _ then _ else _:Pt).doc;rw[if_pos hl,e0];exact s1.hd
   ·show GD S (if _ then _ else _:Pt).doc;rw[if_neg hl];exact he
  ·unfold dT sN;show fE S (if _ then _ else _);by_cases hl:cO fx 6 (.cons a b c d (.cons a' b' c' d' .nil))=1
   ·rw[if_pos hl,e0,e1];exact s1.args.app (.cons GD.ln (.cons (GD.brk hu _ s2.p) .nil))
   ·rw[if_neg hl];exact fE.nil
  ·exact s2.p
 ·have hw:dT fx k t n ks=⟨oL fx k t n ks (dF fx ks),pz,oL fx k t n ks (dF fx ks),[],cy k t n (bL ks)⟩:=qts fx t n ks _ h6;rw[hw];have he:GD S (eF fx k t n ks (dF fx ks)):=by
   by_cases ho:kK k=true
   ·rw[OA fx t n ks _ ho];have lW:ag k 10=false:=by rcases yV ho with h|h|h|h|h|h<;>subst h<;>rfl
    rw[lW] at hs;have z:=vI;by_cases hA:k=5\/k=11
    ·obtain⟨a,b,c,d,rfl⟩:=Ox (c1 hA);obtain⟨⟨s1,_⟩,_⟩:=hs;have s1:=(s1 rfl).1.p;rcases hA with rfl|rfl
     ·exact GD.oO (.cons (nm [102,117,110,32] [32,45,62] (AM (.inr (.inl rfl)) hq) dc dc rfl rfl) (.cons (GD.ll s1) .nil))
     ·exact GD.oO (.cons (kw Pz.cU dc rfl) (.cons (GD.ll s1) .nil))
    by_cases h9:k=9
    ·subst h9;obtain⟨a,b,c,d,r,rfl,hr⟩:=fX (ks:=ks) (n:=2) (by have:=c3 rfl;omega);obtain⟨a',b',c',d',r',rfl,ht⟩:=fX (n:=1) hr;obtain⟨a2,b2,jh,d2,r2,rfl,hz⟩:=fX (n:=0) ht;obtain rfl:=tw hz;obtain⟨⟨s1,_⟩,⟨s2,_⟩,⟨s3,_⟩,_⟩:=hs;have s1:=(s1 rfl).1.p;have s2:=(s2 rfl).1.p;have s3:=(s3 rfl).1.p;exact GD.oO (.cons (kw Pz.pe dc rfl) (.cons (GD.ll s1) (.cons GD.ln (.cons (kw Pz.iy dc rfl) (.cons (GD.ll s2) (.cons GD.ln (.cons (kw Pz.iz dc rfl) (.cons (GD.ll s3) .nil))))))))
    have h2:k=6\/k=7\/k=8\/k=12:=by
     rcases yV ho with h|h|h|h|h|h
     ·exact absurd (.inl h) hA
     ·exact .inr (.inl h)
     ·exact .inr (.inr (.inl h))
     ·exact absurd h h9
     ·exact absurd (.inr h) hA
     ·exact .inr (.inr (.inr h))
    obtain⟨a,b,c,d,r,rfl,hr⟩:=fX (ks:=ks) (n:=1) (by have:=c2 h2;omega);obtain⟨a',b',c',d',r',rfl,ht⟩:=fX (n:=0) hr;obtain rfl:=tw ht;obtain⟨⟨s1,_⟩,⟨s2,_⟩,_⟩:=hs;have s1:=(s1 rfl).1.p;have s2:=(s2 rfl).1.p;rcases h2 with rfl|rfl|rfl|rfl
    ·exact absurd rfl h6
    ·exact GD.oO (.cons (nm [108,101,116,32] [32,61] (AM (.inr (.inr (.inl rfl))) hq) dc dc rfl rfl) (.cons (GD.ll s1) (.cons GD.ln (.cons (kw [105,110] dc rfl) (.cons GD.ln (.cons s2 .nil))))))
    ·exact GD.oO (.cons (nm [108,101,116,32,114,101,99,32] [32,61] (AM (.inr (.inr (.inr (.inl rfl)))) hq) dc dc rfl rfl) (.cons (GD.ll s1) (.cons GD.ln (.cons (kw [105,110] dc rfl) (.cons GD.ln (.cons s2 .nil))))))
    ·exact GD.oO (.cons (kw Pz.iU dc rfl) (.cons (GD.ll s1) (.cons GD.ln (.cons (nm [119,105,116,104,32] [32,45,62] (AM (.inr (.inr (.inr (.inr rfl)))) hq) dc dc rfl rfl) (.cons (GD.ll s2) .nil)))))
   ·unfold eF;by_cases g1:k=1
    ·rw[if_pos g1];exact GD.tx (hS.num n) (z62 n)
    by_cases g2:k=2
    ·rw[if_neg g1,if_pos g2];exact GD.tx (hS.quo _ hx) (zb7 (hg _ hx).1)
    by_cases g3:k=3
    ·rw[if_neg g1,if_neg g2,if_pos g3];have hB:=AM (.inl g3) hq;have:=hS.name _ hx (Lb hB) [] [] vI vI dc dc;rw[zt] at this;exact GD.tx this (Vg (Lb hB))
    rw[if_neg g1,if_neg g2,if_neg g3,if_neg ho];by_cases g10:k=10
    ·subst g10;rw[if_pos rfl];obtain⟨rY,J6⟩:=rY rfl;obtain⟨a,b,c,d,r,rfl,hr⟩:=fX (ks:=ks) (n:=ks.au-1) om;have hc:(F.cons a b c d r).au=r.au+1:=rfl;obtain⟨a',b',c',d',r',rfl,ht⟩:=fX (ks:=r) (n:=r.au-1) om;have hF:(F.cons a' b' c' d' r').au=r'.au+1:=rfl;obtain⟨a2,b2,jh,d2,r2,rfl,hz⟩:=fX (ks:=r') (n:=r'.au-1) om;have lW:ag 10 10=true:=rfl;rw[lW] at hs;obtain⟨⟨s1,_⟩,⟨_,s2⟩,⟨s3,_⟩,s4⟩:=hs;have s1:=(s1 rfl).1.p;obtain⟨s2,_,s2p⟩:=s2 rfl;have s3:=(s3 rfl).1.p;have s5:=z0w hS r2.size r2 (Nat.le_refl _) s4;exact GD.oO (fE.app (.cons (kw Pz.cX dc rfl) (.cons (GD.ll s1) (.cons GD.ln (.cons (kw Pz.dX dc rfl) .nil)))) (fE.app (.cons (GD.nest (.cons GD.ln (.cons (GD.tx s2 (qK s2p (mc rfl))) (.cons (GD.ll s3) .nil)))) .nil) (s5.app (.cons GD.ln (.cons (kw Pz.eX dc rfl) .nil)))))
    rw[if_neg g10,if_neg h6];have k4:k=4:=zb4 k hD hE (by cases h:kK k with|true=>exact absurd h ho|false=>rfl) (dx g1) (dx g2) (dx g3) (dx h6) (dx g10);subst k4;have hc:=Vf (z63 hq);exact GD.tx (hS.con _ hx hc) hc
  exact⟨⟨he,he,fE.nil⟩,fun e=>absurd e h6⟩
theorem Vk(hS:yZ S l fx)(hc:∀f,f∈fx->da f.1=true)(hg:GL l):∀(f:F) (m dS:Bool),eD m false dS f=0->(∀x,x∈f.flat->x∈l)->f.size<=l.length->OP S fx m dS f
 |.nil,_,_,_,_,_=>trivial
 |.cons k t n ks r,m,dS,h,hm,hz=>by
  have hz:ks.size+r.size+1<=l.length:=hz;obtain⟨h1,h2⟩:=cJ.1 h;have hm:∀x,x∈(k,t,n,(ks.au:Int))::(ks.flat++r.flat)->x∈l:=hm;have he:∀x,x∈(tr k t n ks).flat->x∈l:=fun x hx=>hm x (by
   rw[vC] at hx;rcases zw.1 hx with rfl|hx
   ·exact zf ..
   ·exact zh _ (List.mem_append_left _ hx))
  refine⟨⟨fun hf=>?_,fun hj=>?_⟩,Vk hS hc hg r m (!dS) h2 (fun x hx=>hm x (zh _ (List.mem_append_right _ hx))) om⟩
  ·rw[hf,Bool.or_false] at h1;exact z64 hS hc h1 hg he (Vk hS hc hg ks (ag k 10) false (bG.1 h1).2 (fun x hx=>hm x (zh _ (List.mem_append_left _ hx))) om)
  ·rw[hj,Bool.or_true] at h1;have hp:=z9a h1;obtain⟨a,b⟩:=hS.pat k t n ks he om hp;exact⟨a,b,hp⟩
theorem zb8(hS:yZ S l fx)(hc:∀f,f∈fx->da f.1=true)(hg:GL l){k:Int}{t:Tx}{n:Int}{ks:F}(hv:bI k t n ks false=0)(hm:∀x,x∈(tr k t n ks).flat->x∈l)(hz:ks.size+1<=l.length):GD S (dT fx k t n ks).p.doc:=(z64 hS hc hv hg hm (Vk hS hc hg ks _ _ (bG.1 hv).2 (fun x hx=>hm x (by rw[vC];exact zh _ hx)) om)).1.p
end
theorem z4o{M:Nat}{l:List ND}{fx:List ar}(ht:TL M l)(hf:∀f,f∈fx->f.1.length<=20)(hM:20<=M)(hl:1<=l.length):yZ (fun s=>s.length<=(M+30)*l.length+4*M) l fx where
 small:=fun s _ h=>by have:(M+30)*1<=(M+30)*l.length:=Nat.mul_le_mul_left _ hl;omega
 name:=fun x hx _ p q _ _ hp hq=>by have:=ht x hx;have:=U4 x.2.1;have:(M+30)*1<=(M+30)*l.length:=Nat.mul_le_mul_left _ hl;rw[zd,zd];omega
 con:=fun x hx _=>by have:=ht x hx;omega
 quo:=fun x hx=>by have:=ht x hx;have:=z99 x.2.1;have:(M+30)*1<=(M+30)*l.length:=Nat.mul_le_mul_left _ hl;omega
 num:=fun n=>by have:=qtv n;have:(M+30)*1<=(M+30)*l.length:=Nat.mul_le_mul_left _ hl;omega
 op:=fun f h=>by have:=hf f h;have:(M+30)*1<=(M+30)*l.length:=Nat.mul_le_mul_left _ hl;rw[zd];show _+1<=_;omega
 pat:=fun k t n ks hm hz _=>by
  have h:=qw4 M k t n ks fun x hx=>ht x (hm x hx);have:(M+30)*(ks.size+1)<=(M+30)*l.length:=Nat.mul_le_mul_left _ hz;refine⟨?_,?_⟩
  ·rw[zd];show _+3<=_;omega
  ·rw[zd,zd];show 2+(_+3)<=_;omega
theorem Vl{B:Nat}:∀(f:F) (i:Nat),RS (fun s=>s.length<=B) f->eG f i<=f.size*(B+1+i+2*f.size)
 |.nil,_,_=>Nat.zero_le _
 |.cons k t n ks r,i,⟨⟨hk,hs⟩,h1,h2⟩=>by
  have i1:=Vl ks (i+2) h1;have i2:=Vl r i h2;have ht:t.length<=B:=by
   rcases hk with h|h|h|h|h
   ·exact hs h.1
   all_goals rw[h.2.1];exact Nat.zero_le _
  have e:(F.cons k t n ks r).size=ks.size+r.size+1:=rfl;have m1:ks.size*(B+1+(i+2)+2*ks.size)<=ks.size*(B+1+i+2*(ks.size+r.size+1)):=Nat.mul_le_mul_left _ om;have m2:r.size*(B+1+i+2*r.size)<=r.size*(B+1+i+2*(ks.size+r.size+1)):=Nat.mul_le_mul_left _ om;have m3:(ks.size+r.size+1)*(B+1+i+2*(ks.size+r.size+1))=ks.size*(B+1+i+2*(ks.size+r.size+1))+r.size*(B+1+i+2*(ks.size+r.size+1))+(B+1+i+2*(ks.size+r.size+1)):=by rw[Nat.add_mul,Nat.add_mul,Nat.one_mul]
  show t.length+1+i+eG ks (i+2)+eG r i<=(F.cons k t n ks r).size*(B+1+i+2*(F.cons k t n ks r).size);rw[e,m3];omega
theorem OQ{fx:List ar}(h:fb fx=0):∀f,f∈fx->lj f=true:=by
 unfold fb at h;by_cases c:400<fx.length\/fx.any (fun x=>!lj x)=true
 ·rw[if_pos c] at h;cases h
 ·intro f hf;cases hr:lj f with
  |true=>rfl
  |false=>exact absurd (.inr (List.any_eq_true.2 ⟨f,hf,by rw[hr];rfl⟩)) c
theorem Vm{fx:List ar}(h:fb fx=0):∀f,f∈fx->da f.1=true:=fun f hf=>by have:=OQ h f hf;unfold lj at this;simp only[ze] at this;exact this.1.1
theorem RS.tl{B:Nat}:∀{f:F},RS (fun s=>s.length<=B) f->TL B f.flat
 |.nil,_,_,h=>by cases h
 |.cons k t n ks r,⟨⟨hk,hs⟩,h1,h2⟩,x,hx=>by
  have hx:x∈(k,t,n,(ks.au:Int))::(ks.flat++r.flat):=hx;rcases zw.1 hx with rfl|hx
  ·rcases hk with h|h|h|h|h
   ·exact hs h.1
   all_goals (show t.length<=B;rw[h.2.1];exact Nat.zero_le _)
  ·exact(zN.1 hx).elim (h1.tl x) (h2.tl x)
structure Lc (d:F):Prop where
 rd:RD d
 one:d.au=1
 size:d.size<=3600
 vol:eG d 0<=800000000
 tl:TL 1000000 d.flat
theorem z0y{fx:List ar}{k:Int}{t:Tx}{n:Int}{ks:F}(hv:bI k t n ks false=0)(hc:fb fx=0)(hf:∀f,f∈fx->f.1.length<=20)(hg:GL (tr k t n ks).flat)(hs:ks.size+1<=600)(ht:TL 300 (tr k t n ks).flat):Lc (dT fx k t n ks).p.doc:=by
 have he:(tr k t n ks).flat.length=ks.size+1:=(tr k t n ks).len;have g:=zb8 (z4o (fx:=fx) ht hf dc (by rw[he];omega)) (Vm hc) hg hv (fun x hx=>hx) (by rw[he];exact Nat.le_refl _);have hz:=qtt fx hv;rw[he] at g;have hB:(300+30)*(ks.size+1)+4*300<=199200:=om
 have hv:=Vl _ 0 g.1;refine⟨g.1.rd,g.2,by omega,Nat.le_trans hv ?_,fun x hx=>?_⟩
 ·have h1:(dT fx k t n ks).p.doc.size<=3600:=om
  have h2:(300+30)*(ks.size+1)+4*300+1+0+2*(dT fx k t n ks).p.doc.size<=206401:=om
  exact Nat.le_trans (Nat.mul_le_mul h1 h2) dc
 ·have:=g.1.tl x hx;omega
section
variable {b:Bool} {l:List ND}
variable {W:Nat}
end
section
variable {b:Bool} {l:List ND} {W:Nat}
end
theorem z4p{d:F}(h:d.au=1):∃k t n ks,d=tr k t n ks:=by
 match d,h with
 |.nil,h=>cases h
 |.cons k t n ks r,h=>have h:r.au+1=1:=h;exact⟨k,t,n,ks,by rw[uN (f:=r) om]⟩
noncomputable def D2(fx:List ar)(k:Int)(t:Tx)(n:Int)(ks:F)(W:Nat):Tx:=if W=0 then eC (dT fx k t n ks).p.doc else bB W (dT fx k t n ks).p.doc false 0 0
section
variable {fx:List ar} {k:Int} {t:Tx} {n:Int} {ks:F}
theorem z0z(b nb:Bool)(hv:bI k t n ks false=0)(hc:fb fx=0)(hf:gL fx)(hj:∀f,f∈fx->f.1.length<=20)(hg:GL (tr k t n ks).flat)(hs:ks.size+1<=600)(ht:TL 300 (tr k t n ks).flat)(he:ga (⟨b,(tr k t n ks).flat⟩,())=some (0,())):kr (⟨b,(tr k t n ks).flat⟩,⟨nb,fx⟩,())=some (⟨false,(dT fx k t n ks).p.doc.flat⟩,0,()):=by have hk:(tr k t n ks).flat.length=ks.size+1:=(tr k t n ks).len;have hd:=z0h (b:=b) (bx:=nb) (fx:=fx) (q:=0) om hg (fun x hx=>by have:=ht x hx;omega) hf.2.2 (fun f h=>by have:=hj f h;omega) (N2 k t n ks) hv;have hd:xA (0,⟨b,(tr k t n ks).flat⟩,⟨nb,fx⟩,())=_:=hd;rw[Fa,he,af];show az false _ _=_;rw[aD,Ik nb hf,hc,af];show az false _ _=_;rw[aD,hd];simp only[af]
theorem z10(b nb:Bool)(hc:kr (⟨b,(tr k t n ks).flat⟩,⟨nb,fx⟩,())=some (⟨false,(dT fx k t n ks).p.doc.flat⟩,0,()))(he:Lc (dT fx k t n ks).p.doc){W:Nat}(hW:1<=W/\W<=1000):ku (⟨b,(tr k t n ks).flat⟩,⟨nb,fx⟩,(W:Int),())=some (D2 fx k t n ks W,0,()):=by rw[Fc,hc,af];show az false _ _=_;rw[aD,bP,if_neg om,af,show aK 1000 (W:Int)=false from zn om,aD];unfold D2;rw[if_neg om];obtain⟨h1,h2,h3,h4,h5⟩:=he;obtain⟨k',t',n',bO,e⟩:=z4p h2;rw[e] at h1 h3 h4 h5 ⊢;have hv:iG t' bO 0+0<=800000000:=h4;rw[qpa false h1 (by rw[yF] at h3;omega) h5 om hW];rfl
end
theorem z11{fx:List ar}{k:Int}{t:Tx}{n:Int}{ks:F}(hc:Lc (dT fx k t n ks).p.doc)(W:Nat):(D2 fx k t n ks W).length<=800000000:=by
 unfold D2;split
 ·exact Nat.le_trans (OL _ 0) hc.vol
 ·exact Nat.le_trans (OM W _ _ _ 0 hc.rd) hc.vol
theorem z4q(b nb:Bool){t:List ND}{fx:List ar}{c:Int}(hc:c≠0)(h:kr (⟨b,t⟩,⟨nb,fx⟩,())=some (⟨true,[]⟩,c,()))(W:Int):ku (⟨b,t⟩,⟨nb,fx⟩,W,())=some ([],c,())/\sb (⟨b,t⟩,⟨nb,fx⟩,())=some ([],c,()):=by
 refine⟨?_,?_⟩
 ·rw[Fc,h,af];simp only;rw[dx hc];rfl
 ·rw[Tg,h,af];simp only;rw[dx hc];rfl
theorem z4r(b nb:Bool){fx:List ar}{k:Int}{t:Tx}{n:Int}{ks:F}(hc:kr (⟨b,(tr k t n ks).flat⟩,⟨nb,fx⟩,())=some (⟨false,(dT fx k t n ks).p.doc.flat⟩,0,()))(he:Lc (dT fx k t n ks).p.doc)(W:Int):(ku (⟨b,(tr k t n ks).flat⟩,⟨nb,fx⟩,W,())=some ([],80,())/\¬(1<=W/\W<=1000))\/∃w:Nat,W=(w:Int)/\1<=w/\w<=1000/\ku (⟨b,(tr k t n ks).flat⟩,⟨nb,fx⟩,W,())=some (D2 fx k t n ks w,0,()):=by
 by_cases hW:1<=W/\W<=1000
 ·obtain⟨w,rfl⟩:=Int.eq_ofNat_of_zero_le (show 0<=W by omega);obtain⟨x,y⟩:=hW;exact .inr ⟨w,rfl,by omega,by omega,z10 b nb hc he ⟨by omega,by omega⟩⟩
 ·refine .inl ⟨?_,hW⟩;have hw:az (aK W 1) (some true) (some (aK 1000 W))=some true:=by
   by_cases h:W<1
   ·rw[show aK W 1=true from zu h];rfl
   ·rw[show aK W 1=false from zn h,show aK 1000 W=true from zu om];rfl
  rw[Fc,hc,af];simp only;rw[show ag 0 0=true from rfl,show av true=false from rfl,aD,hw];rfl
end Fn
end Ev