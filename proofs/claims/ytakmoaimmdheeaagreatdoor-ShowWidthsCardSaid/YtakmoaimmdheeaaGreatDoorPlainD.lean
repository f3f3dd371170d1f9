/- Documents in plain words; both texts make these; the laws as data. No statement of its own about the program. -/
import Derived.Test.YtakmoaimmdheeaaGreatDoorPlainC
namespace Ev
open Go Ieee
namespace Fn
theorem qwi{n:Nat}(h0:0<n)(h:n<2 ^ 53):n.log2<=52:=by have:=(Nat.log2_lt (by omega)).2 h;omega
theorem qjq(neg:Bool)(n:Nat):Toward.even.cut neg n 0=n:=by simp[Toward.cut,Nat.mod_one]
theorem qjr{m:Nat}{p:Int}(h0:0<m)(hm:(m.log2:Int)+p<=52)(hp:0<=(m.log2:Int)+p)(hd:m.log2<=52):Ieee.double.nearest false m p=(m.log2+p+1022).toNat*2 ^ 52+m*2 ^ (52-m.log2):=by
 have e1:Ieee.double.leastPlace=-1074:=by decide
 have e2:Ieee.double.binade=2 ^ 52:=rfl;have e3:(Ieee.double.fractionBits:Int)=52:=rfl;have e4:Ieee.double.infRung=2047*2 ^ 52:=by decide
 unfold Format.nearest;rw[if_neg (by omega),e1,e2,e3,e4];have l1:max (p+(m.log2:Int)-52) (-1074)=p+m.log2-52:=by omega
 simp only[l1];have l2:(p-(p+(m.log2:Int)-52)).toNat=52-m.log2:=by omega
 have l3:(p+(m.log2:Int)-52-p).toNat=0:=by omega
 have l4:(p+(m.log2:Int)-52- -1074).toNat=(m.log2+p+1022).toNat:=by omega
 rw[l2,l3,l4,qjq,Nat.shiftLeft_eq];unfold Format.word;simp only[Bool.false_eq_true,if_false];have hc:m<2 ^ (m.log2+1):=Nat.lt_log2_self;have hk:m*2 ^ (52-m.log2)<2 ^ 53:=by
  calc m*2 ^ (52-m.log2)<2 ^ (m.log2+1)*2 ^ (52-m.log2):=Nat.mul_lt_mul_of_pos_right hc (Nat.two_pow_pos _)
   _=2 ^ 53:=by rw[<-Nat.pow_add];congr 1;omega
 have hx:(m.log2+p+1022).toNat<=1074:=by omega
 apply Nat.min_eq_left;generalize (m.log2+p+1022).toNat=x at*
 generalize m*2 ^ (52-m.log2)=k at*
 omega
theorem z39{m:Nat}(h0:0<m)(hd:m.log2<=52):2 ^ 52<=m*2 ^ (52-m.log2)/\m*2 ^ (52-m.log2)<2 ^ 53:=by
 have hc:m<2 ^ (m.log2+1):=Nat.lt_log2_self;have he:2 ^ m.log2<=m:=Nat.log2_self_le (by omega);constructor
 ·calc 2 ^ 52=2 ^ m.log2*2 ^ (52-m.log2):=by rw[<-Nat.pow_add];congr 1;omega
   _<=m*2 ^ (52-m.log2):=Nat.mul_le_mul_right _ he
 ·calc m*2 ^ (52-m.log2)<2 ^ (m.log2+1)*2 ^ (52-m.log2):=Nat.mul_lt_mul_of_pos_right hc (Nat.two_pow_pos _)
   _=2 ^ 53:=by rw[<-Nat.pow_add];congr 1;omega
theorem qm9{n:Nat}(h0:0<n)(h:n<2 ^ 53):Ieee.double.read (Ieee.double.nearest false n 0)=.number false (n*2 ^ (52-n.log2)) ((n.log2:Int)-52):=by
 have hd:=qwi h0 h;rw[qjr h0 (by omega) (by omega) hd];obtain⟨k1,k2⟩:=z39 h0 hd;have e1:Ieee.double.leastPlace=-1074:=by decide
 have e2:Ieee.double.binade=2 ^ 52:=rfl;have e4:Ieee.double.infRung=2047*2 ^ 52:=by decide
 have e5:Ieee.double.signWeight=2 ^ 63:=by decide
 have e6:((n.log2:Int)+0+1022).toNat=n.log2+1022:=by omega
 rw[e6];unfold Format.read;rw[e1,e2,e4,e5];generalize hk:n*2 ^ (52-n.log2)=k at*
 have w1:((n.log2+1022)*2 ^ 52+k)<2 ^ 63:=by omega
 have w2:((n.log2+1022)*2 ^ 52+k) / 2 ^ 63=0:=Nat.div_eq_of_lt w1;have w3:((n.log2+1022)*2 ^ 52+k) % 2 ^ 63=(n.log2+1022)*2 ^ 52+k:=Nat.mod_eq_of_lt w1;simp only[w2,w3];rw[if_neg (by omega),if_pos (by omega)];have w4:((n.log2+1022)*2 ^ 52+k) % 2 ^ 52=k-2 ^ 52:=by omega
 have w5:((n.log2+1022)*2 ^ 52+k) / 2 ^ 52=n.log2+1023:=by omega
 rw[w4,w5];have a1:2 ^ 52+(k-2 ^ 52)=k:=by omega
 have a2:(-1074:Int)+((n.log2+1023-1:Nat):Int)=n.log2-52:=by omega
 rw[a1,a2];rfl
theorem z3a{a k:Nat}(h:0<a):(a*2 ^ k).log2=a.log2+k:=by
 have h1:=Nat.log2_self_le (n:=a) (by omega);have h2:a<2 ^ (a.log2+1):=Nat.lt_log2_self;have hp:=Nat.two_pow_pos k;have hc:a*2 ^ k≠0:=by intro e;rcases Nat.mul_eq_zero.1 e with e|e<;>omega
 apply(Nat.log2_eq_iff hc).2;constructor
 ·rw[Nat.pow_add];exact Nat.mul_le_mul_right _ h1
 ·calc a*2 ^ k<2 ^ (a.log2+1)*2 ^ k:=Nat.mul_lt_mul_of_pos_right h2 hp
   _=2 ^ (a.log2+k+1):=by rw[<-Nat.pow_add];congr 1;omega
theorem qjs{n k:Nat}(h0:0<n)(h:n<2 ^ 53):Ieee.double.nearest false (n*2 ^ k) (-(k:Int))=Ieee.double.nearest false n 0:=by
 have hd:=qwi h0 h;have hl:=z3a (a:=n) (k:=k) h0;have e1:Ieee.double.leastPlace=-1074:=by decide
 have e3:(Ieee.double.fractionBits:Int)=52:=rfl;have hp:=Nat.two_pow_pos k;have hf:¬n*2 ^ k=0:=by intro e;rcases Nat.mul_eq_zero.1 e with e|e<;>omega
 unfold Format.nearest;rw[if_neg hf,if_neg (by omega),hl,e1,e3];have l1:max (-(k:Int)+((n.log2+k:Nat):Int)-52) (-1074)=n.log2-52:=by omega
 have l2:max ((0:Int)+(n.log2:Int)-52) (-1074)=n.log2-52:=by omega
 simp only[l1,l2];congr 1;congr 1;congr 1;have r1:((0:Int)-((n.log2:Int)-52)).toNat=52-n.log2:=by omega
 have r2:(((n.log2:Int)-52)-0).toNat=0:=by omega
 rw[r1,r2,qjq];by_cases hc:k+n.log2<=52
 ·have r3:(-(k:Int)-((n.log2:Int)-52)).toNat=52-n.log2-k:=by omega
  have r4:((n.log2:Int)-52- -(k:Int)).toNat=0:=by omega
  rw[r3,r4,qjq,Nat.shiftLeft_eq,Nat.shiftLeft_eq,Nat.mul_assoc,<-Nat.pow_add];congr 2;omega
 ·have r3:(-(k:Int)-((n.log2:Int)-52)).toNat=0:=by omega
  have r4:((n.log2:Int)-52- -(k:Int)).toNat=k-(52-n.log2):=by omega
  rw[r3,r4,Nat.shiftLeft_zero,Nat.shiftLeft_eq];have hg:k=(52-n.log2)+(k-(52-n.log2)):=by omega
  generalize hj:k-(52-n.log2)=d at*
  have e:n*2 ^ k=n*2 ^ (52-n.log2)*2 ^ d:=by rw[Nat.mul_assoc,<-Nat.pow_add,<-hg]
  unfold Toward.cut;have he:min d ((n*2 ^ k).log2+2)=d:=by rw[hl];omega
  simp only[he];rw[Nat.one_shiftLeft,e,Nat.mul_div_cancel _ (Nat.two_pow_pos d),Nat.mul_mod_left];have hk:=Nat.two_pow_pos d;have a1:decide (2 ^ d<2*0)=false:=by simp
  have a2:(2 ^ d==2*0)=false:=by simp
  simp only[a1,a2,Bool.false_and,Bool.or_false];rfl
theorem qwj(n:Nat):ofI (n:Int)=Ieee.double.nearest false n 0:=by
 unfold ofI FloatKind.nearest FloatKind.encode FloatKind.format Format.write;have:decide ((n:Int)<0)=false:=by simp
 simp only[this,Int.natAbs_natCast]
theorem ofI_zero:ofI 0=0:=by decide
theorem qzs{n:Nat}(h:n<2 ^ 53):∃m k:Nat,Ieee.double.read (ofI n)=.number false m (-(k:Int))/\m=n*2 ^ k/\k<=52\/(n=0/\Ieee.double.read (ofI n)=.number false 0 (-1074)):=by
 by_cases h0:n=0
 ·subst h0;exact⟨0,0,.inr ⟨rfl,by decide⟩⟩
 ·have h0:0<n:=by omega
  have hd:=qwi h0 h;refine⟨n*2 ^ (52-n.log2),52-n.log2,.inl ⟨?_,rfl,by omega⟩⟩;rw[qwj,qm9 h0 h];congr 1;omega
theorem qdt(p:Int):Ieee.double.nearest false 0 p=0:=by simp[Format.nearest,Format.word]
theorem z50{a b:Nat}{p q:Nat}:Datum.sum (.number false (a*2 ^ p) (-(p:Int))) (.number false (b*2 ^ q) (-(q:Int)))=some (.number false ((a+b)*2 ^ max p q) (-((max p q:Nat):Int))):=by
 unfold Datum.sum;have hb:min (-(p:Int)) (-(q:Int))=-((max p q:Nat):Int):=by omega
 simp only[hb];have h1:(-(p:Int)- -((max p q:Nat):Int)).toNat=max p q-p:=by omega
 have h2:(-(q:Int)- -((max p q:Nat):Int)).toNat=max p q-q:=by omega
 rw[h1,h2];unfold signed;simp only[Bool.false_eq_true,if_false,Nat.shiftLeft_eq];have e1:a*2 ^ p*2 ^ (max p q-p)=a*2 ^ max p q:=by rw[Nat.mul_assoc,<-Nat.pow_add];congr 2;omega
 have e2:b*2 ^ q*2 ^ (max p q-q)=b*2 ^ max p q:=by rw[Nat.mul_assoc,<-Nat.pow_add];congr 2;omega
 rw[e1,e2];have e3:((a*2 ^ max p q:Nat):Int)+((b*2 ^ max p q:Nat):Int)=(((a+b)*2 ^ max p q:Nat):Int):=by rw[Nat.add_mul];rfl
 rw[e3];have e4:decide ((((a+b)*2 ^ max p q:Nat):Int)<0)=false:=by apply zu;omega
 simp only[e4,Int.natAbs_natCast,Bool.and_self,ite_self]
theorem qzt{a b:Nat}{p q:Nat}:Datum.order (.number false (a*2 ^ p) (-(p:Int))) (.number false (b*2 ^ q) (-(q:Int)))=some (compare a b):=by
 unfold Datum.order;have hb:min (-(p:Int)) (-(q:Int))=-((max p q:Nat):Int):=by omega
 simp only[hb];have h1:(-(p:Int)- -((max p q:Nat):Int)).toNat=max p q-p:=by omega
 have h2:(-(q:Int)- -((max p q:Nat):Int)).toNat=max p q-q:=by omega
 rw[h1,h2];unfold signed;simp only[Bool.false_eq_true,if_false,Nat.shiftLeft_eq];have e1:a*2 ^ p*2 ^ (max p q-p)=a*2 ^ max p q:=by rw[Nat.mul_assoc,<-Nat.pow_add];congr 2;omega
 have e2:b*2 ^ q*2 ^ (max p q-q)=b*2 ^ max p q:=by rw[Nat.mul_assoc,<-Nat.pow_add];congr 2;omega
 rw[e1,e2];generalize max p q=k;congr 1;have hk:=Nat.two_pow_pos k;rcases Nat.lt_trichotomy a b with h|h|h
 ·rw[Nat.compare_eq_lt.2 h];rw[Int.compare_eq_lt];exact Int.ofNat_lt.2 (Nat.mul_lt_mul_of_pos_right h hk)
 ·subst h;rw[Nat.compare_eq_eq.2 rfl,Int.compare_eq_eq]
 ·rw[Nat.compare_eq_gt.2 h];rw[Int.compare_eq_gt];exact Int.ofNat_lt.2 (Nat.mul_lt_mul_of_pos_right h hk)
theorem far:∃p:Nat,(p:Int)=1074:=⟨1074,rfl⟩
theorem qe9{n:Nat}(h:n<2 ^ 53):∃p:Nat,Ieee.double.read (ofI n)=.number false (n*2 ^ p) (-(p:Int)):=by
 obtain⟨m,k,h1|⟨h1,h2⟩⟩:=qzs h
 ·exact⟨k,by rw[h1.1,h1.2.1]⟩
 ·obtain⟨p,hp⟩:=far;exact⟨p,by rw[h2,h1,Nat.zero_mul,hp]⟩
theorem qea{n m:Nat}(h:n+m<2 ^ 53):addF (ofI n) (ofI m)=some (ofI ((n+m:Nat):Int)):=by
 obtain⟨p,hp⟩:=qe9 (n:=n) (by omega);obtain⟨q,hq⟩:=qe9 (n:=m) (by omega);unfold addF Format.add;rw[hp,hq,z50];simp only[Option.map_some,zB];show Ieee.double.nearest false ((n+m)*2 ^ max p q) (-((max p q:Nat):Int))=_;rw[qwj];by_cases h0:n+m=0
 ·rw[h0,Nat.zero_mul,qdt,qdt]
 ·exact qjs (by omega) h
theorem z3b{n m:Nat}(hn:n<2 ^ 53)(hm:m<2 ^ 53):leF (ofI n) (ofI m)=decide (n<=m):=by
 obtain⟨p,hp⟩:=qe9 hn;obtain⟨q,hq⟩:=qe9 hm;unfold leF Format.order;rw[hp,hq,qzt];rcases Nat.lt_trichotomy n m with h|h|h
 ·rw[Nat.compare_eq_lt.2 h,zw (by omega)];rfl
 ·rw[Nat.compare_eq_eq.2 h,zw (by omega)];rfl
 ·rw[Nat.compare_eq_gt.2 h,zu (by omega)];rfl
end Fn
end Ev
namespace Ev
open Go
namespace Fn
def dTx(s:Tx):F:=tr 41 s 0 .nil
def dLn:F:=tr 42 [] 0 .nil
def catF:List F->F
 |[]=>.nil
 |d::l=>d.app (catF l)
def dCat(l:List F):F:=tr 45 [] 0 (catF l)
def qge:List F->F
 |[d]=>d
 |l=>dCat l
def q6c(l:List F):F:=tr 43 [] 2 (qge l)
def dGrp(l:List F):F:=tr 44 [] 0 (qge l)
def dUnd(d:F):F:=q6c [dLn,d]
def q8z(s:Tx):Tx:=bif opOk s then [40]++s++[41] else s
def numT(n:Int):Tx:=rep1 (q8t n)
def hexD(n:Int):Int:=if n<10 then 48+n else 87+n
def quoC(c:Int):Tx:=if c=34\/c=92 then [92,c] else if c=10 then [92,110] else if c<32\/126<c then [92,120,hexD (c / 16),hexD (c % 16)] else [c]
def quoT(s:Tx):Tx:=[34]++s.flatMap quoC++[34]
def qd9(qs:List (Tx×Tx)):Tx:=qs.flatMap fun q=>[32]++q.2
def patT(k:Int)(t:Tx)(n:Int)(qs:List (Tx×Tx)):Tx:=if k=21 then [95] else if k=22 then q8z t else if k=23 then numT n else t++qd9 qs
def patI(k:Int)(c:Nat)(s:Tx):Tx:=if k≠21/\k≠22/\k≠23/\c≠0 then [40]++s++[41] else s
def patL:F->List (Tx×Tx)
 |.nil=>[]
 |.cons k t n ks r=>(patT k t n (patL ks),patI k ks.cnt (patT k t n (patL ks)))::patL r
structure Pt where
 doc:F
 lk:Int
 lv:Int
 sd:Int
structure Dc where
 p:Pt
 b:Pt
 hd:Pt
 args:List F
 pt:Tx
def brkD(b:Bool)(d:F):F:=bif b then dCat [dTx [40],d,dTx [41]] else d
def qq9(p:Pt)(lv sd s:Int):Bool:=decide (p.lk=2)&&(decide (p.lv<lv)||(decide (p.lv=lv)&&(decide (p.sd≠s)||decide (sd≠s))))
def qam(p:Pt)(lv sd s:Int):F:=brkD (decide (p.lk=3)||qq9 p lv sd s) p.doc
def argD(p:Pt):F:=brkD (decide (p.lk≠0)) p.doc
def qh4(p:Pt):F:=brkD (decide (p.lk=2)||decide (p.lk=3)) p.doc
def rowOf(fx:List Fix1)(k:Int):F->Option Fix1
 |.cons k1 _ _ (.cons k2 op _ _ _) _=>if k=6/\k1=6/\k2=3 then q83 fx op else none
 |_=>none
def pz:Pt:=⟨.nil,0,0,0⟩
def dz:Dc:=⟨pz,pz,pz,[],[]⟩
def nthD(ds:List Dc)(i:Nat):Dc:=(ds[i]?).getD dz
def qan:List Dc->List F
 |p::e::r=>[dLn,dTx ([124,32]++(p.pt++[32,45,62])),dUnd e.p.doc]++qan r
 |_=>[]
def qwk:List Dc->F
 |a::p::e::r=>dGrp ([dTx Pz.kMatch,dUnd a.p.doc,dLn,dTx Pz.kWith]++([q6c [dLn,dTx (p.pt++[32,45,62]),dUnd e.p.doc]]++(qan r++[dLn,dTx Pz.kEnd])))
 |_=>dGrp []
def q50(k:Int):Bool:=decide (k=5)||(decide (k=7)||(decide (k=8)||(decide (k=9)||(decide (k=11)||decide (k=12)))))
def qo6(k:Int)(t:Tx)(a b c:F):F:=
 if k=5 then dGrp [dTx ([102,117,110,32]++q8z t++[32,45,62]),dUnd a] else
 if k=7 then dGrp [dTx ([108,101,116,32]++q8z t++[32,61]),dUnd a,dLn,dTx [105,110],dLn,b] else
 if k=8 then dGrp [dTx ([108,101,116,32,114,101,99,32]++q8z t++[32,61]),dUnd a,dLn,dTx [105,110],dLn,b] else
 if k=9 then dGrp [dTx Pz.kIf,dUnd a,dLn,dTx Pz.kThen,dUnd b,dLn,dTx Pz.kElse,dUnd c] else
 if k=11 then dGrp [dTx Pz.kRaise,dUnd a] else
 dGrp [dTx Pz.kTry,dUnd a,dLn,dTx ([119,105,116,104,32]++q8z t++[32,45,62]),dUnd b]
def rowD(f:Fix1)(a b:Pt):F:=dGrp [qam a f.2.1 f.2.2 (-1),q6c [dLn,dTx (f.1++[32]),qam b f.2.1 f.2.2 1]]
def appD(hd:Pt)(args:List F):F:=dGrp [qh4 hd,q6c args]
def docK(fx:List Fix1)(k:Int)(t:Tx)(n:Int)(ks:F)(ds:List Dc):F:=
 if k=1 then dTx (numT n) else if k=2 then dTx (quoT t) else if k=3 then dTx (q8z t) else
 if q50 k=true then qo6 k t (nthD ds 0).p.doc (nthD ds 1).p.doc (nthD ds 2).p.doc else
 if k=10 then qwk ds else
 if k=6 then(match rowOf fx k ks with
  |some f=>rowD f (nthD ds 0).b (nthD ds 1).p
  |none=>appD (nthD ds 0).hd ((nthD ds 0).args++[dLn,argD (nthD ds 1).p])) else dTx t
def lkK(fx:List Fix1)(k:Int)(ks:F):Int:=if k=6 then(match rowOf fx k ks with|some _=>2|none=>1) else if q50 k=true then 3 else 0
def ownP(fx:List Fix1)(k:Int)(t:Tx)(n:Int)(ks:F)(ds:List Dc):Pt:=⟨docK fx k t n ks ds,lkK fx k ks,((rowOf fx k ks).getD ([],0,0)).2.1,((rowOf fx k ks).getD ([],0,0)).2.2⟩
def oneD(fx:List Fix1)(k:Int)(t:Tx)(n:Int)(ks:F)(ds:List Dc):Dc:=
 ⟨ownP fx k t n ks ds,if k=6 then(nthD ds 1).p else pz,
  if lkK fx k ks=1 then(nthD ds 0).hd else ownP fx k t n ks ds,
  if lkK fx k ks=1 then(nthD ds 0).args++[dLn,argD (nthD ds 1).p] else [],patT k t n (patL ks)⟩
def dF(fx:List Fix1):F->List Dc
 |.nil=>[]
 |.cons k t n ks r=>oneD fx k t n ks (dF fx ks)::dF fx r
def dT(fx:List Fix1)(k:Int)(t:Tx)(n:Int)(ks:F):Dc:=oneD fx k t n ks (dF fx ks)
theorem F.app_size:∀f g:F,(f.app g).size=f.size+g.size
 |.nil,g=>(zE _).symm
 |.cons k t n ks r,g=>by show ks.size+(r.app g).size+1=ks.size+r.size+1+g.size;rw[r.app_size g];omega
theorem F.app_cnt:∀f g:F,(f.app g).cnt=f.cnt+g.cnt
 |.nil,g=>(zE _).symm
 |.cons k t n ks r,g=>by show(r.app g).cnt+1=r.cnt+1+g.cnt;rw[r.app_cnt g];omega
theorem F.app_flat:∀f g:F,(f.app g).flat=f.flat++g.flat
 |.nil,g=>rfl
 |.cons k t n ks r,g=>by
  show _::(ks.flat++(r.app g).flat)=(_::(ks.flat++r.flat))++g.flat
  rw[r.app_flat g,List.cons_append,zt]
theorem F.app_assoc:∀f g h:F,(f.app g).app h=f.app (g.app h)
 |.nil,_,_=>rfl
 |.cons k t n ks r,g,h=>by show F.cons k t n ks ((r.app g).app h)=F.cons k t n ks (r.app (g.app h));rw[r.app_assoc g h]
theorem qqa:∀a b:List F,catF (a++b)=(catF a).app (catF b)
 |[],_=>rfl
 |d::a,b=>by show d.app (catF (a++b))=(d.app (catF a)).app (catF b);rw[qqa a b,F.app_assoc]
theorem q1r(a b:List F):(catF (a++b)).size=(catF a).size+(catF b).size:=by rw[qqa,F.app_size]
theorem q07(d:F)(l:List F):(catF (d::l)).size=d.size+(catF l).size:=F.app_size _ _
theorem qgf:∀l:List F,(catF l).flat=(l.map F.flat).flatten
 |[]=>rfl
 |d::l=>by show(d.app (catF l)).flat=d.flat++(l.map F.flat).flatten;rw[F.app_flat,qgf l]
theorem qqb:∀l:List F,(∀d,d∈l->d.cnt=1)->(catF l).cnt=l.length
 |[],_=>rfl
 |d::l,h=>by show(d.app (catF l)).cnt=l.length+1;rw[F.app_cnt,qqb l fun x hx=>h x (zg _ hx),h d (ze ..)];omega
theorem q5x(l:List F):(qge l).size<=(catF l).size+1:=by
 match l with
 |[]=>exact Nat.le_refl _
 |[d]=>rw[q07];show d.size<=_;omega
 |_::_::_=>exact Nat.le_refl _
theorem q3r(l:List F):(q6c l).size<=(catF l).size+2:=by have:=q5x l;show(qge l).size+0+1<=_;omega
theorem q6n(l:List F):(dGrp l).size<=(catF l).size+2:=by have:=q5x l;show(qge l).size+0+1<=_;omega
theorem q10(s:Tx):(dTx s).size=1:=rfl
theorem q22:dLn.size=1:=rfl
theorem q0c:(catF []).size=0:=rfl
theorem qgg(b:Bool)(d:F):(brkD b d).size<=d.size+3:=by
 cases b with
 |false=>show d.size<=_;omega
 |true=>show(catF [dTx [40],d,dTx [41]]).size+0+1<=_;rw[q07,q07,q07,q10,q10,q0c];omega
theorem q3f(d:F):(dUnd d).size<=d.size+3:=by have:=q3r [dLn,d];rw[q07,q07,q22,q0c] at this;show(q6c [dLn,d]).size<=_;omega
theorem qwl{ks:F}(h:(ks.cnt:Int)=1):∃a b c d,ks=.cons a b c d .nil:=by
 match ks,h with
 |.nil,h=>exact absurd h (by decide)
 |.cons a b c d r,h=>have h:((r.cnt+1:Nat):Int)=1:=h;exact⟨a,b,c,d,by rw[qe8 (f:=r) (by omega)]⟩
theorem q23{ks:F}{n:Nat}(h:ks.cnt=n+1):∃a b c d r,ks=.cons a b c d r/\r.cnt=n:=by
 match ks,h with
 |.nil,h=>exact absurd h (by show ¬(0:Nat)=n+1;omega)
 |.cons a b c d r,h=>have h:r.cnt+1=n+1:=h;exact⟨a,b,c,d,r,rfl,by omega⟩
theorem q9v{ks:F}(h:ks.cnt=0):ks=.nil:=qe8 (by omega)
def DcOk(N:Nat)(x:Dc):Prop:=x.p.doc.size+5<=6*N/\x.hd.doc.size+(catF x.args).size+5<=6*N/\(x.b.doc.size=0\/x.b.doc.size+17<=6*N)
def SzF(fx:List Fix1):Bool->Bool->F->Prop
 |_,_,.nil=>True
 |m,odd,.cons k t n ks r=>((m&&odd)=false->DcOk (ks.size+1) (dT fx k t n ks))/\SzF fx m (!odd) r
theorem qwm(p:Pt):(argD p).size<=p.doc.size+3:=qgg _ _
theorem qi9(p:Pt):(qh4 p).size<=p.doc.size+3:=qgg _ _
theorem q9g(p:Pt)(a b c:Int):(qam p a b c).size<=p.doc.size+3:=qgg _ _
theorem qzu{N:Nat}{p:Pt}{t:Tx}(h:p.doc.size+5<=6*N):DcOk N ⟨p,pz,p,[],t⟩:=⟨h,by show p.doc.size+(catF []).size+5<=_;rw[q0c];omega,.inl rfl⟩
theorem qqc(fx:List Fix1){k:Int}(t:Tx)(n:Int)(ks:F)(ds:List Dc)(h:k≠6):oneD fx k t n ks ds=⟨ownP fx k t n ks ds,pz,ownP fx k t n ks ds,[],patT k t n (patL ks)⟩:=by
 have hl:lkK fx k ks≠1:=by unfold lkK;rw[if_neg h];split<;>decide
 unfold oneD;rw[if_neg h,if_neg hl,if_neg hl]
theorem qma(fx:List Fix1):∀(N:Nat) (r:F),r.size<=N->SzF fx true true r->(catF (qan (dF fx r))).size<=6*r.size
 |_,.nil,_,_=>by show(catF []).size<=_;rw[q0c];omega
 |_,.cons k t n ks .nil,_,_=>by show(catF []).size<=_;rw[q0c];omega
 |0,.cons k t n ks (.cons k' t' n' ks' r),h,_=>by have h:ks.size+(ks'.size+r.size+1)+1<=0:=h;omega
 |N+1,.cons k t n ks (.cons k' t' n' ks' r),h,hs=>by have h:ks.size+(ks'.size+r.size+1)+1<=N+1:=h;obtain⟨_,h2,h3⟩:=hs;have h2:=(h2 rfl).1;have ih:=qma fx N r (by omega) h3;show(catF ([dLn,dTx ([124,32]++((dT fx k t n ks).pt++[32,45,62])),dUnd (dT fx k' t' n' ks').p.doc]++qan (dF fx r))).size<=6*(ks.size+(ks'.size+r.size+1)+1);have hu:=q3f (dT fx k' t' n' ks').p.doc;rw[q1r,q07,q07,q07,q0c,q22,q10];omega
theorem qsn(k:Int)(t:Tx)(a b c:F):(qo6 k t a b c).size<=(if k=5\/k=11 then a.size+6 else if k=9 then a.size+b.size+c.size+16 else a.size+b.size+11):=by
 have ha:=q3f a;have hb:=q3f b;have hc:=q3f c;unfold qo6;have g:∀l:List F,(dGrp l).size<=(catF l).size+2:=q6n;by_cases h5:k=5
 ·rw[if_pos h5,if_pos (.inl h5)];refine Nat.le_trans (g _) ?_;rw[q07,q07,q0c,q10];omega
 by_cases he:k=11
 ·subst he;rw[if_neg (by decide),if_neg (by decide),if_neg (by decide),if_neg (by decide),if_pos rfl,if_pos (.inr rfl)];refine Nat.le_trans (g _) ?_;rw[q07,q07,q0c,q10];omega
 by_cases h9:k=9
 ·subst h9;rw[if_neg (by decide),if_neg (by decide),if_neg (by decide),if_pos rfl,if_neg (by decide),if_pos rfl];refine Nat.le_trans (g _) ?_;simp only[q07,q0c,q10,q22];omega
 rw[if_neg h5,if_neg h9,if_neg he,if_neg (show ¬(k=5\/k=11) from fun h=>h.elim h5 he),if_neg h9];split
 ·refine Nat.le_trans (g _) ?_;simp only[q07,q0c,q10,q22];omega
 split
 ·refine Nat.le_trans (g _) ?_;simp only[q07,q0c,q10,q22];omega
 ·refine Nat.le_trans (g _) ?_;simp only[q07,q0c,q10,q22];omega
theorem q4g{k:Int}(h:q50 k=true):k=5\/k=7\/k=8\/k=9\/k=11\/k=12:=by simpa[q50,Bool.or_eq_true,decide_eq_true_eq] using h
theorem z3c{k:Int}(h:q50 k=true):k≠1/\k≠2/\k≠3/\k≠6/\k≠10:=by rcases q4g h with h|h|h|h|h|h<;>subst h<;>decide
theorem qgh(fx:List Fix1){k:Int}(t:Tx)(n:Int)(ks:F)(ds:List Dc)(h:q50 k=true):docK fx k t n ks ds=qo6 k t (nthD ds 0).p.doc (nthD ds 1).p.doc (nthD ds 2).p.doc:=by obtain⟨h1,h2,h3,_⟩:=z3c h;unfold docK;rw[if_neg h1,if_neg h2,if_neg h3,if_pos h]
theorem qwn(fx:List Fix1){k:Int}{t:Tx}{n:Int}{ks:F}(hv:errT k t n ks false=0)(hs:SzF fx (eqI k 10) false ks):DcOk (ks.size+1) (dT fx k t n ks):=by
 obtain⟨hn,hf⟩:=errT_ok.1 hv;obtain⟨_,_,hk,_,_,_⟩:=nodeE_zero.1 hn;obtain⟨c1,c2,c3,c10,c0⟩:=qd6 hk;have one:∀{a b d:_} {c:_} {r m:_},SzF fx m false (.cons a b c d r)->DcOk (d.size+1) (dT fx a b c d)/\SzF fx m true r:=fun h=>⟨h.1 (Bool.and_false _),h.2⟩;have two:∀{a b d:_} {c:_} {r:_},SzF fx false true (.cons a b c d r)->DcOk (d.size+1) (dT fx a b c d)/\SzF fx false false r:=fun h=>⟨h.1 rfl,h.2⟩;by_cases h6:k=6
 ·subst h6;obtain⟨a,b,c,d,r,rfl,hr⟩:=q23 (ks:=ks) (n:=1) (by have:=c2 (.inl rfl);omega);obtain⟨a',b',c',d',r',rfl,he⟩:=q23 (n:=0) hr;obtain rfl:=q9v he;have e10:eqI 6 10=false:=rfl;rw[e10] at hs;obtain⟨s1,hs⟩:=one hs;obtain⟨s2,_⟩:=two hs;have e0:nthD (dF fx (.cons a b c d (.cons a' b' c' d' .nil))) 0=dT fx a b c d:=rfl;have e1:nthD (dF fx (.cons a b c d (.cons a' b' c' d' .nil))) 1=dT fx a' b' c' d':=rfl;have hN:(F.cons a b c d (.cons a' b' c' d' .nil)).size+1=d.size+1+(d'.size+1)+1:=by show d.size+(d'.size+0+1)+1+1=_;omega
  rw[hN];generalize d.size+1=N0 at*
  have hp:1<=N0:=by have:=s1.1;omega
  have ha:=qwm (dT fx a' b' c' d').p;have hh:=qi9 (dT fx a b c d).hd;obtain⟨p1,p2,p3⟩:=s1;obtain⟨q1,q2,q3⟩:=s2;have hm:(catF ((dT fx a b c d).args++[dLn,argD (dT fx a' b' c' d').p])).size<=(catF (dT fx a b c d).args).size+1+((dT fx a' b' c' d').p.doc.size+3):=by rw[q1r,q07,q07,q0c,q22];omega
  unfold dT oneD;have hg:(docK fx 6 t n (.cons a b c d (.cons a' b' c' d' .nil)) (dF fx (.cons a b c d (.cons a' b' c' d' .nil)))).size+5<=6*(N0+(d'.size+1)+1):=by
   unfold docK;rw[if_neg (by decide),if_neg (by decide),if_neg (by decide),if_neg (by decide),if_neg (by decide),if_pos rfl,e0,e1];cases ht:rowOf fx 6 (.cons a b c d (.cons a' b' c' d' .nil)) with
   |none=>have g1:=q6n [qh4 (dT fx a b c d).hd,q6c ((dT fx a b c d).args++[dLn,argD (dT fx a' b' c' d').p])];have g2:=q3r ((dT fx a b c d).args++[dLn,argD (dT fx a' b' c' d').p]);rw[q07,q07,q0c] at g1;show(dGrp [qh4 (dT fx a b c d).hd,q6c ((dT fx a b c d).args++[dLn,argD (dT fx a' b' c' d').p])]).size+5<=_;omega
   |some f=>have g0:=q9g (dT fx a b c d).b f.2.1 f.2.2 (-1);have g3:=q9g (dT fx a' b' c' d').p f.2.1 f.2.2 1;have g1:=q6n [qam (dT fx a b c d).b f.2.1 f.2.2 (-1),q6c [dLn,dTx (f.1++[32]),qam (dT fx a' b' c' d').p f.2.1 f.2.2 1]];have g2:=q3r [dLn,dTx (f.1++[32]),qam (dT fx a' b' c' d').p f.2.1 f.2.2 1];rw[q07,q07,q0c] at g1;rw[q07,q07,q07,q0c,q22,q10] at g2;show(dGrp [qam (dT fx a b c d).b f.2.1 f.2.2 (-1),q6c [dLn,dTx (f.1++[32]),qam (dT fx a' b' c' d').p f.2.1 f.2.2 1]]).size+5<=_;omega
  refine⟨hg,?_,?_⟩
  ·by_cases hl:lkK fx 6 (.cons a b c d (.cons a' b' c' d' .nil))=1
   ·rw[if_pos hl,if_pos hl,e0,e1];show(dT fx a b c d).hd.doc.size+(catF ((dT fx a b c d).args++[dLn,argD (dT fx a' b' c' d').p])).size+5<=_;omega
   ·rw[if_neg hl,if_neg hl,q0c];exact hg
  ·rw[if_pos rfl,e1];exact .inr (by show(dT fx a' b' c' d').p.doc.size+17<=_;omega)
 ·have hj:dT fx k t n ks=⟨ownP fx k t n ks (dF fx ks),pz,ownP fx k t n ks (dF fx ks),[],patT k t n (patL ks)⟩:=qqc fx t n ks _ h6;rw[hj];refine qzu ?_;show(docK fx k t n ks (dF fx ks)).size+5<=_;by_cases ho:q50 k=true
  ·rw[qgh fx t n ks _ ho];have hb:=qsn k t (nthD (dF fx ks) 0).p.doc (nthD (dF fx ks) 1).p.doc (nthD (dF fx ks) 2).p.doc;have e10:eqI k 10=false:=by rcases q4g ho with h|h|h|h|h|h<;>subst h<;>rfl
   rw[e10] at hs;by_cases hA:k=5\/k=11
   ·rw[if_pos hA] at hb;obtain⟨a,b,c,d,rfl⟩:=qwl (c1 hA);obtain⟨s1,_⟩:=one hs;have e0:nthD (dF fx (.cons a b c d .nil)) 0=dT fx a b c d:=rfl;rw[e0] at hb ⊢;have s1:=s1.1;show _+5<=6*((d.size+0+1)+1);omega
   ·rw[if_neg hA] at hb;by_cases h9:k=9
    ·rw[if_pos h9] at hb;obtain⟨a,b,c,d,r,rfl,hr⟩:=q23 (ks:=ks) (n:=2) (by have:=c3 h9;omega);obtain⟨a',b',c',d',r',rfl,he⟩:=q23 (n:=1) hr;obtain⟨a2,b2,c2',d2,r2,rfl,hq⟩:=q23 (n:=0) he;obtain rfl:=q9v hq;obtain⟨s1,hs⟩:=one hs;obtain⟨s2,hs⟩:=two hs;obtain⟨s3,_⟩:=one hs;have e0:nthD (dF fx (.cons a b c d (.cons a' b' c' d' (.cons a2 b2 c2' d2 .nil)))) 0=dT fx a b c d:=rfl;have e1:nthD (dF fx (.cons a b c d (.cons a' b' c' d' (.cons a2 b2 c2' d2 .nil)))) 1=dT fx a' b' c' d':=rfl;have e2:nthD (dF fx (.cons a b c d (.cons a' b' c' d' (.cons a2 b2 c2' d2 .nil)))) 2=dT fx a2 b2 c2' d2:=rfl;rw[e0,e1,e2] at hb ⊢;have s1:=s1.1;have s2:=s2.1;have s3:=s3.1;show _+5<=6*((d.size+(d'.size+(d2.size+0+1)+1)+1)+1);omega
    ·rw[if_neg h9] at hb;have h2:k=6\/k=7\/k=8\/k=12:=by
      rcases q4g ho with h|h|h|h|h|h
      ·exact absurd (.inl h) hA
      ·exact .inr (.inl h)
      ·exact .inr (.inr (.inl h))
      ·exact absurd h h9
      ·exact absurd (.inr h) hA
      ·exact .inr (.inr (.inr h))
     obtain⟨a,b,c,d,r,rfl,hr⟩:=q23 (ks:=ks) (n:=1) (by have:=c2 h2;omega);obtain⟨a',b',c',d',r',rfl,he⟩:=q23 (n:=0) hr;obtain rfl:=q9v he;obtain⟨s1,hs⟩:=one hs;obtain⟨s2,_⟩:=two hs;have e0:nthD (dF fx (.cons a b c d (.cons a' b' c' d' .nil))) 0=dT fx a b c d:=rfl;have e1:nthD (dF fx (.cons a b c d (.cons a' b' c' d' .nil))) 1=dT fx a' b' c' d':=rfl;rw[e0,e1] at hb ⊢;have s1:=s1.1;have s2:=s2.1;show _+5<=6*((d.size+(d'.size+0+1)+1)+1);omega
  ·unfold docK;by_cases g1:k=1
   ·rw[if_pos g1,q10];omega
   by_cases g2:k=2
   ·rw[if_neg g1,if_pos g2,q10];omega
   by_cases g3:k=3
   ·rw[if_neg g1,if_neg g2,if_pos g3,q10];omega
   rw[if_neg g1,if_neg g2,if_neg g3,if_neg ho];by_cases g10:k=10
   ·subst g10;rw[if_pos rfl];obtain⟨c10,c11⟩:=c10 rfl;obtain⟨a,b,c,d,r,rfl,hr⟩:=q23 (ks:=ks) (n:=ks.cnt-1) (by omega);have hc:(F.cons a b c d r).cnt=r.cnt+1:=rfl;obtain⟨a',b',c',d',r',rfl,he⟩:=q23 (ks:=r) (n:=r.cnt-1) (by omega);have hu:(F.cons a' b' c' d' r').cnt=r'.cnt+1:=rfl;obtain⟨a2,b2,c2',d2,r2,rfl,hq⟩:=q23 (ks:=r') (n:=r'.cnt-1) (by omega);have e10:eqI 10 10=true:=rfl;rw[e10] at hs;obtain⟨s1,_,s3,s4⟩:=hs;have s1:=(s1 rfl).1;have s3:=(s3 rfl).1;have s5:=qma fx r2.size r2 (Nat.le_refl _) s4;show(dGrp ([dTx Pz.kMatch,dUnd (dT fx a b c d).p.doc,dLn,dTx Pz.kWith]++([q6c [dLn,dTx ((dT fx a' b' c' d').pt++[32,45,62]),dUnd (dT fx a2 b2 c2' d2).p.doc]]++(qan (dF fx r2)++[dLn,dTx Pz.kEnd])))).size+5<=6*((d.size+(d'.size+(d2.size+r2.size+1)+1)+1)+1);have g:=q6n ([dTx Pz.kMatch,dUnd (dT fx a b c d).p.doc,dLn,dTx Pz.kWith]++([q6c [dLn,dTx ((dT fx a' b' c' d').pt++[32,45,62]),dUnd (dT fx a2 b2 c2' d2).p.doc]]++(qan (dF fx r2)++[dLn,dTx Pz.kEnd])));have g2:=q3r [dLn,dTx ((dT fx a' b' c' d').pt++[32,45,62]),dUnd (dT fx a2 b2 c2' d2).p.doc];have g3:=q3f (dT fx a b c d).p.doc;have g4:=q3f (dT fx a2 b2 c2' d2).p.doc;simp only[q1r,q07,q0c,q10,q22] at g g2;omega
   rw[if_neg g10,if_neg h6,q10];omega
theorem szF(fx:List Fix1):∀(f:F) (m odd:Bool),errF m false odd f=0->SzF fx m odd f
 |.nil,_,_,_=>trivial
 |.cons k t n ks r,m,odd,h=>by obtain⟨h1,h2⟩:=errF_ok.1 h;refine⟨fun hm=>?_,szF fx r m (!odd) h2⟩;rw[hm,Bool.or_false] at h1;exact qwn fx h1 (szF fx ks (eqI k 10) false (errT_ok.1 h1).2)
theorem qqd(fx:List Fix1){k:Int}{t:Tx}{n:Int}{ks:F}(hv:errT k t n ks false=0):(dT fx k t n ks).p.doc.size<=6*(ks.size+1):=by have:=(qwn fx hv (szF fx ks _ _ (errT_ok.1 hv).2)).1;omega
def Ds(L:List Y0)(ds:List F):Prop:=slY L=ds.map F.flat/\∀d,d∈ds->d.cnt=1
theorem Ds.len{L:List Y0}{ds:List F}(h:Ds L ds):L.length=ds.length:=by
 have:=congrArg List.length h.1
 rwa [z38,zJ] at this
theorem qzv{d:F}(h:d.cnt=1):1<=d.size:=by have:=d.cnt_le;omega
theorem qc2:∀{ds:List F},(∀d,d∈ds->d.cnt=1)->ds.length<=(catF ds).size
 |[],_=>Nat.zero_le _
 |d::ds,h=>by have:=qc2 fun x hx=>h x (zg d hx);have:=qzv (h d (ze ..));rw[q07,zm];omega
theorem Ds.lens{L:List Y0}{ds:List F}(h:Ds L ds):lens L=(catF ds).size:=by rw[qzr,h.1,<-qgf,F.len]
theorem Ds.flat{L:List Y0}{ds:List F}(h:Ds L ds):(L.map (·.l)).flatten=(catF ds).flat:=by rw[qgf,<-h.1];rfl
theorem Ds.cat{L:List Y0}{ds:List F}(h:Ds L ds)(k:Int)(n:Int):(k,([]:Tx),n,(L.length:Int))::(L.map (·.l)).flatten=(tr k [] n (catF ds)).flat:=by rw[q6y,h.flat,qqb ds h.2,h.len]
theorem Ds.nil:Ds [] []:=⟨rfl,fun _ h=>by cases h⟩
theorem Ds.cons{y:Y0}{L:List Y0}{d:F}{ds:List F}(h1:y.l=d.flat)(h2:d.cnt=1)(h:Ds L ds):Ds (y::L) (d::ds):=⟨by show y.l::slY L=d.flat::ds.map F.flat;rw[h1,h.1],fun x hx=>by rcases zn.1 hx with rfl|hx;exact h2;exact h.2 x hx⟩
theorem Ds.app{L M:List Y0}{ds es:List F}(h:Ds L ds)(g:Ds M es):Ds (L++M) (ds++es):=⟨by unfold slY;rw[zU,zU];exact congr (congrArg _ h.1) g.1,fun x hx=>(zO.1 hx).elim (h.2 x) (g.2 x)⟩
theorem Ds.get{y:Y0}{L:List Y0}{ds:List F}(h:Ds (y::L) ds):∃d es,ds=d::es/\y.l=d.flat:=by
 match ds,h with
 |[],h=>cases h.1
 |d::es,h=>have:=h.1;injection this with a b;exact⟨d,es,rfl,a⟩
theorem qeb(b:Bool){d:F}(h:d.cnt=1):(brkD b d).cnt=1:=by cases b;exact h;rfl
theorem qmb{l:List F}(h:∀d,d∈l->d.cnt=1):(qge l).cnt=1:=by
 match l,h with
 |[],_=>rfl
 |[d],h=>exact h d (ze ..)
 |_::_::_,_=>rfl
theorem qqe(k n:Int){d:F}(h:d.cnt=1):(k,([]:Tx),n,(1:Int))::([d.flat].flatten)=(tr k [] n d).flat:=by rw[q6y,h];simp
theorem q18(s:Tx):f_cp (s,())=some (⟨false,(dTx s).flat⟩,()):=by rw[u_cp,u_ag,q8y 41 s 0 0 true [] (by simp) (by simp[lens])];simp only[q00];rfl
theorem q3g:f_ae ()=some (⟨false,dLn.flat⟩,()):=by rw[u_ae,q8y 42 [] 0 0 true [] (by simp) (by simp[lens])];simp only[q00];rfl
theorem qjt(b:Bool){L:List Y0}{ds:List F}(h:Ds L ds)(hs:(catF ds).size<=100000):f_a9 (⟨b,L⟩,())=some (⟨false,(dCat ds).flat⟩,()):=by have hl:=h.len;have:=qc2 h.2;rw[u_a9,q8y 45 [] 0 0 b L (by omega) (by rw[h.lens];omega),h.cat];simp only[q00];rfl
theorem qmc(b:Bool){L:List Y0}{ds:List F}(h:Ds L ds)(hs:(catF ds).size<=100000):∃q,f_co (⟨b,L⟩,())=some (⟨q,(qge ds).flat⟩,()):=by
 rw[u_co];have hl:lenI L=((ds.length:Nat):Int):=by show((L.length:Nat):Int)=_;rw[h.len]
 simp only;rw[hl]
 match ds,h,hs with
 |[d],h,_=>
  match L,h with
  |[y],h=>obtain⟨d',es,e,hy⟩:=h.get;injection e with e _;subst e;refine⟨y.nil,?_⟩;have h1:eqI (([d].length:Nat):Int) 1=true:=rfl;have:at? [y] 0=some y:=rfl;rw[h1,q04,this,q00];show some (y,())=_;obtain⟨q,l⟩:=y;show some ((⟨q,l⟩:Y0),())=some (⟨q,d.flat⟩,());rw[show l=d.flat from hy]
  |[],h=>exact absurd h.len (by simp)
  |_::_::_,h=>exact absurd h.len (by simp)
 |[],h,hs=>refine⟨false,?_⟩;show bnd (f_a9 (⟨b,L⟩,())) _=_;rw[qjt b h hs,q00];rfl
 |d::e::ds,h,hs=>
  refine⟨false,?_⟩;have he:eqI (((d::e::ds).length:Nat):Int) 1=false:=by show((((ds.length+1+1:Nat)):Int)==1)=false;exact beq_eq_false_iff_ne.2 (by omega)
  rw[he,q01,qjt b h hs,q00];rfl
theorem qec(b:Bool){L:List Y0}{ds:List F}(h:Ds L ds)(hs:(catF ds).size<=100000):f_cn (⟨b,L⟩,())=some (⟨false,(q6c ds).flat⟩,()):=by obtain⟨q,e⟩:=qmc b h hs;have hz:=q5x ds;rw[u_cn,e,q00,u_af,q8y 43 [] 2 0 false [⟨q,(qge ds).flat⟩] (by simp) (by simp[lens,F.len];omega)];simp only[q00];exact congrArg (fun z:List ND=>some ((⟨false,z⟩:Y0),())) (qqe 43 2 (qmb h.2))
theorem q3s(b:Bool){L:List Y0}{ds:List F}(h:Ds L ds)(hs:(catF ds).size<=100000):f_cg (⟨b,L⟩,())=some (⟨false,(dGrp ds).flat⟩,()):=by obtain⟨q,e⟩:=qmc b h hs;have hz:=q5x ds;rw[u_cg,e,q00,u_ac,q8y 44 [] 0 0 false [⟨q,(qge ds).flat⟩] (by simp) (by simp[lens,F.len];omega)];simp only[q00];exact congrArg (fun z:List ND=>some ((⟨false,z⟩:Y0),())) (qqe 44 0 (qmb h.2))
theorem Ds.one{y:Y0}{d:F}(h1:y.l=d.flat)(h2:d.cnt=1):Ds [y] [d]:=.cons h1 h2 .nil
theorem q2p(y:Y0){d:F}(h1:y.l=d.flat)(h2:d.cnt=1)(hs:d.size<=90000):f_cq (y,())=some (⟨false,(dUnd d).flat⟩,()):=by rw[u_cq,q3g,q00];simp only;rw[qec false (.cons (d:=dLn) rfl rfl (.one h1 h2)) (by rw[q07,q07,q0c,q22];omega),q00];rfl
theorem q4r(a b:Tx):catS a b=a++b:=id (Eq.refl (a++b))
theorem qda{s:Tx}(hs:∀b,b∈s->0<=b/\b<=255)(hl:s.length<=1000000):f_cl (s,())=some (q8z s,()):=by
 rw[u_cl,qg3 s hs,q00];simp only;unfold q8z;cases opOk s with
 |false=>rfl
 |true=>
  rw[q04,show lenI ([40]:Y2)=((1:Nat):Int) from rfl,show lenI s=((s.length:Nat):Int) from rfl,q1d (by omega),q00,q4r,
   show lenI ([40]++s)=(((1+s.length):Nat):Int) from by show((([40]++s).length:Nat):Int)=_;rw[zh];rfl,
   show lenI ([41]:Y2)=((1:Nat):Int) from rfl,q1d (by omega),q00,q4r]
  rfl
theorem qgi{n:Int}(h:q4q n=true):rng n:=by have:=zK h;unfold rng;omega
theorem qwo{n:Int}(h:q4q n=true):f_e8 (n,())=some (n,()):=by obtain⟨v,hv,he⟩:=qi4 n (qgi h);rw[h] at he;rw[hv,show v=n from by simpa[eqI] using he]
theorem qqf{n:Int}(h:q4q n=true):f_e7 (n,())=some (numT n,()):=by
 obtain⟨h1,h2⟩:=qgi h;have hf:f_d1 (n,10,())=some (q8t n,()):=by show(bif decide ((10:Int)=10)&&(decide (-9223372036854775808<=n)&&decide (n<=9223372036854775807)) then some (q8t n,()) else none)=_;rw[zw h1,zw h2];rfl
 have hl:=qfy n;have hr:f_dh (q8t n,[45],[126],1,())=some (rep1 (q8t n),()):=by show(bif (([45]:List Int)==[45])&&((([126]:List Int)==[126])&&(decide ((1:Int)=1)&&decide ((q8t n).length<=1000))) then some (rep1 (q8t n),()) else none)=_;rw[zw (show(q8t n).length<=1000 by omega)];rfl
 rw[u_e7,qwo h,q00];simp only;rw[hf,q00];simp only;rw[hr,q00];rfl
abbrev digs:Tx:=[48,49,50,51,52,53,54,55,56,57,97,98,99,100,101,102]
theorem z3d:∀c:Fin 256,shrI .u8 (c.val:Int) 4=some ((c.val / 16:Nat):Int)/\cutL digs ((c.val / 16:Nat):Int) (addI .u8 ((c.val / 16:Nat):Int) 1)=some [hexD ((c.val / 16:Nat):Int)]/\cutL digs (andI .u8 (c.val:Int) 15) (addI .u8 (andI .u8 (c.val:Int) 15) 1)=some [hexD ((c.val % 16:Nat):Int)]:=by decide+kernel
theorem z51{c:Int}(h0:0<=c)(h1:c<=255):shrI .u8 c 4=some (c / 16)/\cutL digs (c / 16) (addI .u8 (c / 16) 1)=some [hexD (c / 16)]/\cutL digs (andI .u8 c 15) (addI .u8 (andI .u8 c 15) 1)=some [hexD (c % 16)]:=by obtain⟨n,rfl⟩:=Int.eq_ofNat_of_zero_le h0;exact z3d ⟨n,by omega⟩
theorem qo7(t:Tx)(b nb:Bool)(acc:Tx)(h:acc.length+t.length<=1000000):∃q,f_d6 (t,b,⟨nb,acc⟩,())=some (lenI t,true,⟨q,acc++t⟩,()):=by rw[u_d6];have e:f_d8 (b,⟨nb,acc⟩,())=some (true,⟨nb,acc⟩,()):=rfl;rw[e,q00];simp only;rw[show lenI acc=((acc.length:Nat):Int) from rfl,show lenI t=((t.length:Nat):Int) from rfl,q1d (by omega),q00];exact⟨_,rfl⟩
theorem qo8(c:Int)(b nb:Bool)(acc:Tx)(h:acc.length+1<=1000000):∃q,f_d4 (c,b,⟨nb,acc⟩,())=some (true,⟨q,acc++[c]⟩,()):=by rw[u_d4];have e:f_d8 (b,⟨nb,acc⟩,())=some (true,⟨nb,acc⟩,()):=rfl;rw[e,q00];simp only;rw[show lenI acc=((acc.length:Nat):Int) from rfl,show lenI ([c]:Y2)=((1:Nat):Int) from rfl,q1d (by omega),q00];exact⟨_,rfl⟩
theorem qzw(c:Int):(quoC c).length<=4:=by
 unfold quoC;split
 ·exact zA rfl
 split
 ·exact zA rfl
 split
 ·exact zA rfl
 ·exact zA rfl
theorem z3e{s:Tx}{i:Nat}(h:i<s.length):cutL s (i:Int) ((i+1:Nat):Int)=some [s[i]]:=by unfold cutL;rw[if_pos ⟨by omega,by omega,by omega⟩];congr 1;rw[Int.toNat_natCast,Int.toNat_natCast,List.drop_take,q17 h,Nat.add_sub_cancel_left];rfl
theorem qso{s:Tx}(hb:∀b,b∈s->0<=b/\b<=255)(hs:s.length<=100000):∀(m i:Nat) (nb:Bool) (acc:Tx),i+m=s.length->acc.length<=1+4*i->q0i l1_ar (s,(s.length:Int),(i:Int),true,⟨nb,acc⟩,())=some (acc++(s.drop i).flatMap quoC++[34],()):=by
 intro m
 induction m with
 |zero=>intro i nb acc hi hl;obtain⟨q,e⟩:=qo8 34 true nb acc (by omega);refine q09 ?_;unfold l1_ar;simp only;rw[q0h,if_neg (by omega),e,q00,zD (by omega)];simp only;show bnd (f_d2 (true,⟨q,acc++[34]⟩,())) _=_;rw[show f_d2 (true,⟨q,acc++[34]⟩,())=some (acc++[34],()) from rfl,q00];show some (Sum.inr (acc++[34],()))=some (Sum.inr (acc++[]++[34],()));rw[zo]
 |succ m ih=>
  intro i nb acc hi hl;have hf:i<s.length:=by omega
  have hd:=q17 hf;obtain⟨h0,h1⟩:=hb s[i] (List.getElem_mem hf);have hq:=qzw s[i];obtain⟨q,step⟩:∃q,l1_ar (s,(s.length:Int),(i:Int),true,⟨nb,acc⟩,())=some (Sum.inl (s,(s.length:Int),((i+1:Nat):Int),true,⟨q,acc++quoC s[i]⟩,())):=by
   unfold l1_ar;simp only;rw[q0h,if_pos (by omega),q0g (zj hf),q00];have he:=add1 (k:=i) (by omega);have hg:=z3e hf;generalize s[i]=c at*
   by_cases c1:c=34\/c=92
   ·have hc:quoC c=[92,c]:=by unfold quoC;rw[if_pos c1]
    have e0:cnd (eqI c 34) (some (s,(i:Int),c,(s.length:Int),(i:Int),eqI c 34,true,(⟨nb,acc⟩:Sl Int),())) (some (s,(i:Int),c,(s.length:Int),(i:Int),eqI c 92,true,(⟨nb,acc⟩:Sl Int),()))=some (s,(i:Int),c,(s.length:Int),(i:Int),true,true,(⟨nb,acc⟩:Sl Int),()):=by rcases c1 with rfl|rfl<;>rfl
    rw[e0,q00];simp only;obtain⟨q,e⟩:=qo7 ([92]++[c]) true nb acc (by show acc.length+2<=_;omega);rw[q04,he,hg,q00,show lenI ([92]:Y2)=((1:Nat):Int) from rfl,show lenI ([c]:Tx)=((1:Nat):Int) from rfl,q1d (by omega),q00,q4r,e];simp only[q00];rw[he];exact⟨q,by rw[hc];rfl⟩
   ·have hj:c≠34:=fun e=>c1 (.inl e);have hk:c≠92:=fun e=>c1 (.inr e);rw[q1j hj,q01,q00];simp only;rw[q1j hk,q01,q4d];by_cases c2:c=10
    ·have hc:quoC c=[92,110]:=by unfold quoC;rw[if_neg c1,if_pos c2]
     obtain⟨q,e⟩:=qo7 [92,110] true nb acc (by show acc.length+2<=_;omega);rw[if_pos c2,e];simp only[q00];rw[he];exact⟨q,by rw[hc]⟩
    ·rw[if_neg c2,q0h];by_cases c3:c<32\/126<c
     ·have hc:quoC c=[92,120,hexD (c / 16),hexD (c % 16)]:=by unfold quoC;rw[if_neg c1,if_neg c2,if_pos c3]
      have e3:(if c<32 then some true else some (ltI 126 c))=some true:=by
       by_cases c4:c<32
       ·rw[if_pos c4]
       ·rw[if_neg c4];exact congrArg some (zw (by omega))
      obtain⟨g1,g2,g3⟩:=z51 h0 h1;obtain⟨q,e⟩:=qo7 ([92,120]++[hexD (c / 16)]++[hexD (c % 16)]) true nb acc (by show acc.length+4<=_;omega);rw[e3];simp only[q00,q04,g1];rw[g2];simp only[q00];rw[show lenI ([92,120]:Y2)=((2:Nat):Int) from rfl,show lenI ([hexD (c / 16)]:Tx)=((1:Nat):Int) from rfl,q1d (by omega)];simp only[q00];rw[g3];simp only[q00];rw[q4r,show lenI (([92,120]:Y2)++[hexD (c / 16)])=((3:Nat):Int) from rfl,show lenI ([hexD (c % 16)]:Tx)=((1:Nat):Int) from rfl,q1d (by omega)];simp only[q00];rw[q4r,e];simp only[q00];rw[he];exact⟨q,by rw[hc];rfl⟩
     ·have hc:quoC c=[c]:=by unfold quoC;rw[if_neg c1,if_neg c2,if_neg c3]
      have e3:(if c<32 then some true else some (ltI 126 c))=some false:=by rw[if_neg (by omega)];exact congrArg some (zu (by omega))
      obtain⟨q,e⟩:=qo8 c true nb acc (by omega);rw[e3];simp only[q00,q01];rw[e];simp only[q00];rw[he];exact⟨q,by rw[hc]⟩
  rw[q0d step,ih (i+1) q _ (by omega) (by rw[zh];omega),hd,List.flatMap_cons,zt acc]
theorem qsp{s:Tx}(hb:∀b,b∈s->0<=b/\b<=255)(hs:s.length<=100000):f_ar (s,())=some (quoT s,()):=by obtain⟨q,e⟩:=qo8 34 false true [] (by decide);rw[u_ar,e,q00];exact qso hb hs s.length 0 q [34] (by omega) (by decide)
def TL(N:Nat)(l:List ND):Prop:=∀x,x∈l->x.2.1.length<=N
theorem qgj(s:Tx):(q8z s).length<=s.length+2:=by
 unfold q8z;cases opOk s with
 |false=>show s.length<=_;omega
 |true=>show([40]++s++[41]).length<=_;simp
theorem qqg(n:Int):(numT n).length<=21:=by unfold numT;rw[qjg];exact qfy n
theorem qju(k:Int)(c:Nat)(s:Tx):(patI k c s).length<=s.length+2:=by
 unfold patI;split
 ·simp
 ·omega
theorem qed(k:Int)(t:Tx)(n:Int)(qs:List (Tx×Tx)):(patT k t n qs).length<=t.length+21+(qd9 qs).length:=by
 unfold patT;split
 ·show 1<=_;omega
 split
 ·have:=qgj t;omega
 split
 ·have:=qqg n;omega
 ·rw[zh];omega
theorem qjv:∀(f:F),TL 1000 f.flat->(qd9 (patL f)).length<=1030*f.size
 |.nil,_=>Nat.zero_le _
 |.cons k t n ks r,h=>by have h1:=qjv ks fun x hx=>h x (zg _ (List.mem_append_left _ hx));have h2:=qjv r fun x hx=>h x (zg _ (List.mem_append_right _ hx));have h3:t.length<=1000:=h (k,t,n,(ks.cnt:Int)) (ze ..);have h4:=qed k t n (patL ks);have h5:=qju k ks.cnt (patT k t n (patL ks));show((([32]:Tx)++patI k ks.cnt (patT k t n (patL ks)))++qd9 (patL r)).length<=1030*(ks.size+r.size+1);rw[zh,zh,List.length_singleton];omega
theorem qmd(k:Int)(t:Tx)(n:Int)(ks:F)(h:TL 1000 (tr k t n ks).flat):(patT k t n (patL ks)).length+3<=1030*(ks.size+1):=by have h1:=qjv ks fun x hx=>h x (by rw[q6y];exact zg _ hx);have h3:t.length<=1000:=h (k,t,n,(ks.cnt:Int)) (by rw[q6y];exact ze ..);have h4:=qed k t n (patL ks);omega
theorem z10{α:Type}(pre:List α)(a:α)(post:List α):at? (pre++a::post) (pre.length:Int)=some a:=q0g (by rw[zM (Nat.le_refl _),Nat.sub_self];rfl)
theorem q84(a b:Tx)(h:a.length+b.length<=2000000):fit (sumI (lenI a) (lenI b))=some ():=q1d (a:=a.length) (b:=b.length) h
theorem Sits.tl{N:Nat}{l:List ND}(h:TL N l){k:Nat}{f:F}(hs:Sits l k f):TL N f.flat:=by obtain⟨post,e⟩:=hs;intro x hx;exact h x (List.mem_of_mem_drop (by rw[e];exact List.mem_append_left _ hx))
def z52(self:Yf25)(b:Bool)(l:List ND)(N:Nat):Prop:=∀(q:Nat) (k:Int) (t:Tx) (n:Int) (ks r:F) (inner:Bool),Sits l q (.cons k t n ks r)->errT k t n ks true=0->ks.size<N->
 self (⟨b,l⟩,(q:Int),inner,())=some (bif inner then patI k ks.cnt (patT k t n (patL ks)) else patT k t n (patL ks),())
def qqh(inner:Bool)(c:Int)(s:Tx):Tx:=bif inner&&ltI 0 c then [40]++s++[41] else s
theorem qzx{self:Yf25}{b:Bool}{l:List ND}{N:Nat}(hl:l.length<=10000)(ht:TL 1000 l)(hp:z52 self b l N)(inner nb:Bool)(kd:Int)(t:Tx)(n c:Int):∀(g:F) (q:Nat) (m odd:Bool) (pre:List Int) (s:Tx),Sits l q g->q<=l.length->errF m true odd g=0->g.size<=N->pre.length+g.cnt<=10000->s.length+1030*g.size<=1100000->q0i (l1_cm self) (⟨b,l⟩,inner,s,⟨nb,pre++g.pos q⟩,((pre.length+g.cnt:Nat):Int),(pre.length:Int),kd,t,n,c,())=some (qqh inner c (s++qd9 (patL g)),()):=by
 intro g
 induction g with
 |nil=>
  intro q m odd pre s _ _ _ _ _ hc;refine q09 ?_;unfold l1_cm;simp only;rw[q0h,if_neg (by show ¬(pre.length:Int)<((pre.length+0:Nat):Int);omega)];show _=some (Sum.inr (qqh inner c (s++[]),()));rw[zo];unfold qqh;cases inner with
  |false=>rfl
  |true=>
   rw[q04,q00];cases ltI 0 c with
   |false=>rfl
   |true=>have hc:s.length+0<=1100000:=hc;rw[q04,q84 [40] s (by show 1+s.length<=_;omega),q00,q4r,q84 ([40]++s) [41] (by simp;omega),q00,q4r];rfl
 |cons k' t' n' ks' r' _ ih=>
  intro q m odd pre s hs hq he hN hk hc;have hk:pre.length+(r'.cnt+1)<=10000:=hk;have hN:ks'.size+r'.size+1<=N:=hN;have hc:s.length+1030*(ks'.size+r'.size+1)<=1100000:=hc;obtain⟨hm,hn⟩:=errF_ok.1 he;rw[Bool.true_or] at hm;obtain⟨g1,g2,g3,g4⟩:=hs.node;have hf:=hp q k' t' n' ks' r' true hs hm (by omega);have ho:=qmd k' t' n' ks' (Sits.tl ht hs.first);have hu:=qju k' ks'.cnt (patT k' t' n' (patL ks'));have hg:pre.length+(F.cons k' t' n' ks' r').cnt=(pre++[(q:Int)]).length+r'.cnt:=by show pre.length+(r'.cnt+1)=_;rw[zh,List.length_singleton];omega
  have hj:pre++(F.cons k' t' n' ks' r').pos q=(pre++[(q:Int)])++r'.pos (q+1+ks'.size):=by show pre++(q:Int)::_=_;rw[zt];rfl
  have step:l1_cm self (⟨b,l⟩,inner,s,⟨nb,pre++(F.cons k' t' n' ks' r').pos q⟩,((pre.length+(F.cons k' t' n' ks' r').cnt:Nat):Int),(pre.length:Int),kd,t,n,c,())=
    some (Sum.inl (⟨b,l⟩,inner,s++([32]++patI k' ks'.cnt (patT k' t' n' (patL ks'))),⟨nb,pre++(F.cons k' t' n' ks' r').pos q⟩,((pre.length+(F.cons k' t' n' ks' r').cnt:Nat):Int),((pre.length+1:Nat):Int),kd,t,n,c,())):=by
   unfold l1_cm;simp only;rw[q0h,if_pos (by show(pre.length:Int)<((pre.length+(r'.cnt+1):Nat):Int);omega)];have ha:at? (pre++(F.cons k' t' n' ks' r').pos q) (pre.length:Int)=some (q:Int):=z10 pre (q:Int) _;rw[ha];simp only[q00];rw[hf];simp only[q00,cond_true];rw[q84 [32] _ (by show 1+_<=_;omega)];simp only[q00];rw[q4r,q84 s _ (by rw[zh,List.length_singleton];omega)];simp only[q00];rw[add1 (by omega),q4r]
  rw[q0d step,hg,hj,show pre.length+1=(pre++[(q:Int)]).length from by rw[zh];rfl];rw[ih (q+1+ks'.size) m (!odd) (pre++[(q:Int)]) _ g3 (by omega) hn (by omega) (by rw[zh,List.length_singleton];omega) (by rw[zh,zh,List.length_singleton];omega)];rw[zt];rfl
theorem qwp{b:Bool}{l:List ND}(hl:l.length<=1000)(hg:GL l)(ht:TL 1000 l):∀N:Nat,z52 (recN g_cm N) b l N
 |0=>fun _ _ _ _ _ _ _ _ _ h=>absurd h (Nat.not_lt_zero _)
 |N+1=>by
  have ih:=qwp (b:=b) hl hg ht N;intro q k t n ks r inner hs he hN;obtain⟨g1,g2,g3,g4⟩:=hs.node;have hx:=hg.at g1;have hq:t.length<=1000:=ht _ (zP g1);obtain⟨hn,hf⟩:=errT_ok.1 he;obtain⟨_,hm,hk,hj,_,_⟩:=nodeE_zero.1 hn;show g_cm (recN g_cm N) (⟨b,l⟩,(q:Int),inner,())=_;rw[u_cm,q0g g1,q00];simp only;rw[q4d];by_cases k1:k=21
  ·subst k1;rw[if_pos rfl];cases inner<;>rfl
  rw[if_neg k1,q4d];by_cases k2:k=22
  ·subst k2;rw[if_pos rfl,qda (s:=t) hx.1 (by omega),q00];cases inner<;>rfl
  rw[if_neg k2,q4d];by_cases k3:k=23
  ·subst k3;have hw:q4q n=true:=hj;rw[if_pos rfl,qqf hw,q00];cases inner<;>rfl
  obtain⟨nb,e⟩:=q7j b l (by omega) hs;rw[if_neg k3,e,q00];simp only;have ho:lenI (ks.pos (q+1))=(((([]:List Int).length+ks.cnt:Nat)):Int):=by show(((ks.pos (q+1)).length:Nat):Int)=_;rw[F.pos_len];show _=((0+ks.cnt:Nat):Int);rw[zE]
  have hh:=qzx (N:=N) (by omega) ht ih inner nb k t n (ks.cnt:Int) ks (q+1) (eqI k 10) false [] t g2 (by omega) hf (by omega) (by show 0+ks.cnt<=_;have:=ks.cnt_le;omega) (by omega);rw[ho];refine Eq.trans hh ?_;have hT:patT k t n (patL ks)=t++qd9 (patL ks):=by unfold patT;rw[if_neg k1,if_neg k2,if_neg k3]
  unfold qqh patI;rw[hT];cases inner with
  |false=>rfl
  |true=>
   by_cases hc:ks.cnt=0
   ·have e1:ltI 0 (ks.cnt:Int)=false:=zu (by omega);rw[e1,if_neg (fun h=>h.2.2.2 hc)];rfl
   ·have e1:ltI 0 (ks.cnt:Int)=true:=zw (by omega);rw[e1,if_pos ⟨k1,k2,k3,hc⟩];rfl
theorem qwq{b:Bool}{l:List ND}(hl:l.length<=1000)(hg:GL l)(ht:TL 1000 l){q:Nat}{k:Int}{t:Tx}{n:Int}{ks r:F}(inner:Bool)(hs:Sits l q (.cons k t n ks r))(he:errT k t n ks true=0):f_cm (⟨b,l⟩,(q:Int),inner,())=some (bif inner then patI k ks.cnt (patT k t n (patL ks)) else patT k t n (patL ks),()):=q6x (ks.size+1) fun N hN=>qwp hl hg ht N q k t n ks r inner hs he hN
theorem add2{k:Nat}(h:k<=1000000000):addI .i64 (k:Int) 2=((k+2:Nat):Int):=by unfold addI;rw[qdq];split<;>omega
theorem q4s{m odd:Bool}{a:Int}{b:Tx}{c:Int}{d r:F}(h:errF m false odd (.cons a b c d r)=0)(hm:(m&&odd)=false):errT a b c d false=0/\errF m false (!odd) r=0:=by obtain⟨h1,h2⟩:=errF_ok.1 h;rw[hm,Bool.or_false] at h1;exact⟨h1,h2⟩
theorem q85{t:Tx}{n:Int}{ks:F}(h:errT 6 t n ks false=0):∃a b c d a' b' c' d',ks=.cons a b c d (.cons a' b' c' d' .nil)/\errT a b c d false=0/\errT a' b' c' d' false=0:=by obtain⟨hn,hf⟩:=errT_ok.1 h;obtain⟨_,_,hk,_,_,_⟩:=nodeE_zero.1 hn;obtain⟨_,c2,_⟩:=qd6 hk;obtain⟨a,b,c,d,r,rfl,hr⟩:=q23 (ks:=ks) (n:=1) (by have:=c2 (.inl rfl);omega);obtain⟨a',b',c',d',r',rfl,hc⟩:=q23 (n:=0) hr;obtain rfl:=q9v hc;obtain⟨e1,hf⟩:=q4s hf rfl;obtain⟨e2,_⟩:=q4s hf rfl;exact⟨a,b,c,d,a',b',c',d',rfl,e1,e2⟩
def rowG(fx:List Fix1)(k:Int)(ks:F):Fix1:=(rowOf fx k ks).getD ([],0,0)
theorem z11(fx:List Fix1){k:Int}(h:k≠6)(ks:F):rowOf fx k ks=none:=by
 unfold rowOf;split
 ·rw[if_neg (fun e=>h e.1)]
 ·rfl
theorem qo9(fx:List Fix1){a:Int}(h:a≠6)(b:Tx)(c:Int)(d r:F):rowOf fx 6 (.cons a b c d r)=none:=by
 unfold rowOf;split
 ·rename_i e;injection e with e1 e2 e3 e4 e5;subst e1;rw[if_neg (fun e=>h e.2.1)]
 ·rfl
section
variable {b bx:Bool} {l:List ND} {fx:List Fix1}
theorem qoa(hl:l.length<=1000)(hx:fx.length<=1000000){q:Nat}{k:Int}{t:Tx}{n:Int}{ks r:F}(hs:Sits l q (.cons k t n ks r))(hv:errT k t n ks false=0):f_cj ((⟨b,l⟩,⟨bx,fx⟩),(q:Int),())=some (rowG fx k ks,(rowOf fx k ks).isSome,()):=by
 obtain⟨g1,g2,g3,g4⟩:=hs.node;rw[u_cj,q0g g1,q00];simp only;by_cases h6:k=6
 ·subst h6;obtain⟨a,s,c,d,a',s',c',d',rfl,e1,e2⟩:=q85 hv;obtain⟨p1,p2,p3,p4⟩:=g2.node;rw[show notB (eqI 6 6)=false from rfl,q01,add1 (by omega),q0g p1,q00];simp only[q00];by_cases ha:a=6
  ·subst ha;obtain⟨a1,s1,c1,d1,a2,s2,c2,d2,rfl,e3,e4⟩:=q85 e1;obtain⟨m1,m2,m3,m4⟩:=p2.node;rw[show notB (eqI 6 6)=false from rfl,q01,add2 (by omega)];have m1:l[q+2]?=some (a1,s1,c1,(d1.cnt:Int)):=m1;rw[q0g m1];simp only[q00];by_cases h3:a1=3
   ·subst h3;rw[show notB (eqI 3 3)=false from rfl,q01];rw[find_spec bx fx s1 hx];have hc:rowOf fx 6 (.cons 6 s c (.cons 3 s1 c1 d1 (.cons a2 s2 c2 d2 .nil)) (.cons a' s' c' d' .nil))=q83 fx s1:=by show(if(6:Int)=6/\(6:Int)=6/\(3:Int)=3 then q83 fx s1 else none)=_;rw[if_pos ⟨rfl,rfl,rfl⟩]
    unfold rowG;rw[hc];cases q83 fx s1 with
    |none=>rfl
    |some f=>rfl
   ·have hc:rowOf fx 6 (.cons 6 s c (.cons a1 s1 c1 d1 (.cons a2 s2 c2 d2 .nil)) (.cons a' s' c' d' .nil))=none:=by show(if(6:Int)=6/\(6:Int)=6/\a1=3 then q83 fx s1 else none)=_;rw[if_neg (fun e=>h3 e.2.2)]
    rw[q1j h3,show notB false=true from rfl,q04];unfold rowG;rw[hc];rfl
  ·rw[q1j ha,show notB false=true from rfl,q04,q00,q04];unfold rowG;rw[qo9 fx ha];rfl
 ·rw[q1j h6,show notB false=true from rfl,q04,q00,q04,q00,q04];unfold rowG;rw[z11 fx h6];rfl
theorem qwr{k:Int}(h5:k≠5)(h7:k≠7)(h8:k≠8)(h9:k≠9)(hc:k≠11)(he:k≠12):q50 k=false:=by unfold q50;rw[zu h5,zu h7,zu h8,zu h9,zu hc,zu he];rfl
theorem qws{α:Type}(k:Int)(A B:Option α):bnd (cnd (eqI k 5) (some (eqI k 5,())) (bnd (cnd (eqI k 7) (some (eqI k 7,())) (bnd (cnd (eqI k 8) (some (eqI k 8,())) (bnd (cnd (eqI k 9) (some (eqI k 9,())) (bnd (cnd (eqI k 11) (some (eqI k 11,())) (some (eqI k 12,()))) (fun x2=>some (x2.1,())))) (fun x3=>some (x3.1,())))) (fun x4=>some (x4.1,())))) (fun x5=>some (x5.1,())))) (fun x6=>cnd x6.1 A B)=cnd (q50 k) A B:=by
 by_cases h5:k=5
 ·subst h5;rfl
 by_cases h7:k=7
 ·subst h7;rfl
 by_cases h8:k=8
 ·subst h8;rfl
 by_cases h9:k=9
 ·subst h9;rfl
 by_cases hc:k=11
 ·subst hc;rfl
 by_cases he:k=12
 ·subst he;rfl
 rw[q1j h5,q1j h7,q1j h8,q1j h9,q1j hc,q1j he,qwr h5 h7 h8 h9 hc he];simp only[q01,q00]
theorem q7k(hl:l.length<=1000)(hx:fx.length<=1000000){q:Nat}{k:Int}{t:Tx}{n:Int}{ks r:F}(hs:Sits l q (.cons k t n ks r))(hv:errT k t n ks false=0):f_ci ((⟨b,l⟩,⟨bx,fx⟩),(q:Int),())=some (lkK fx k ks,()):=by
 obtain⟨g1,g2,g3,g4⟩:=hs.node;rw[u_ci,q0g g1,q00];simp only;rw[q4d];unfold lkK;by_cases h6:k=6
 ·rw[if_pos h6,if_pos h6,qoa hl hx hs hv,q00];simp only;cases rowOf fx k ks<;>rfl
 ·rw[if_neg h6,if_neg h6,qws];cases q50 k<;>rfl
def qe0(self:Yf1)(b bx:Bool)(l:List ND)(fx:List Fix1)(N:Nat):Prop:=∀(q:Nat) (k:Int) (t:Tx) (n:Int) (ks r:F),Sits l q (.cons k t n ks r)->errT k t n ks false=0->ks.size<N->
 self ((q:Int),⟨b,l⟩,⟨bx,fx⟩,())=some (⟨false,(dT fx k t n ks).p.doc.flat⟩,⟨b,l⟩,⟨bx,fx⟩,())
theorem Sits.small{k:Int}{t:Tx}{n:Int}{ks r:F}{q:Nat}(hl:l.length<=1000)(hs:Sits l q (.cons k t n ks r)):ks.size+1<=1000:=by obtain⟨g1,g2,g3,g4⟩:=hs.node;omega
theorem q2q(hl:l.length<=1000){k:Int}{t:Tx}{n:Int}{ks r:F}{q:Nat}(hs:Sits l q (.cons k t n ks r))(hv:errT k t n ks false=0):(dT fx k t n ks).p.doc.size<=6000:=by have:=qqd fx hv;have:=hs.small hl;omega
theorem qzy(fx:List Fix1)(k:Int)(t:Tx)(n:Int)(ks:F)(ds:List Dc):(docK fx k t n ks ds).cnt=1:=by
 unfold docK;split
 ·rfl
 split
 ·rfl
 split
 ·rfl
 split
 ·unfold qo6
  repeat (first|(split;rfl)|rfl)
 split
 ·unfold qwk;split<;>rfl
 split
 ·split<;>rfl
 ·rfl
theorem q2z(fx:List Fix1)(k:Int)(t:Tx)(n:Int)(ks:F):(dT fx k t n ks).p.doc.cnt=1:=qzy fx k t n ks _
theorem qc3{self:Yf1}{N:Nat}(hl:l.length<=1000)(hp:qe0 self b bx l fx N){q:Nat}{k:Int}{t:Tx}{n:Int}{ks r:F}(br:Bool)(hs:Sits l q (.cons k t n ks r))(hv:errT k t n ks false=0)(hN:ks.size<N):q0o self ((q:Int),br,⟨b,l⟩,⟨bx,fx⟩,())=some (⟨false,(brkD br (dT fx k t n ks).p.doc).flat⟩,⟨b,l⟩,⟨bx,fx⟩,()):=by
 have e:=hp q k t n ks r hs hv hN;have hz:=q2q (fx:=fx) hl hs hv;rw[qd0,e,q00];cases br with
 |false=>rfl
 |true=>rw[q04,q18];simp only[q00];rw[q18];simp only[q00];rw[qjt false (.cons (d:=dTx [40]) rfl rfl (.cons rfl (q2z fx k t n ks) (.one (d:=dTx [41]) rfl rfl))) (by rw[q07,q07,q07,q0c,q10,q10];omega)];simp only[q00];rfl
theorem qme{self:Yf1}{N:Nat}(hl:l.length<=1000)(hx:fx.length<=1000000)(hp:qe0 self b bx l fx N){q:Nat}{k:Int}{t:Tx}{n:Int}{ks r:F}(op:Tx)(lv sd s:Int)(hs:Sits l q (.cons k t n ks r))(hv:errT k t n ks false=0)(hN:ks.size<N):q0z self ((q:Int),(op,lv,sd),s,⟨b,l⟩,⟨bx,fx⟩,())=some (⟨false,(qam (dT fx k t n ks).p lv sd s).flat⟩,⟨b,l⟩,⟨bx,fx⟩,()):=by
 have he:(dT fx k t n ks).p.lk=lkK fx k ks:=rfl;have hf:(dT fx k t n ks).p.lv=(rowG fx k ks).2.1:=rfl;have hg:(dT fx k t n ks).p.sd=(rowG fx k ks).2.2:=rfl;rw[qd1,q7k hl hx hs hv,q00];simp only;rw[q4d];by_cases h3:lkK fx k ks=3
 ·rw[if_pos h3];have e:=qc3 hl hp true hs hv hN;rw[e];simp only[q00];unfold qam;rw[he,zw h3,Bool.true_or]
 ·rw[if_neg h3,u_ck,qoa hl hx hs hv];simp only[q00];have hc:cnd (rowOf fx k ks).isSome (cnd (ltI (rowG fx k ks).2.1 lv) (some true) (cnd (eqI (rowG fx k ks).2.1 lv) (cnd (notB (eqI (rowG fx k ks).2.2 s)) (some true) (some (notB (eqI sd s)))) (some false))) (some false)=some (qq9 (dT fx k t n ks).p lv sd s):=by
   unfold qq9;rw[he,hf,hg];cases hr:rowOf fx k ks with
   |none=>
    have:lkK fx k ks≠2:=by
     unfold lkK;rw[hr];split
     ·decide
     split<;>decide
    rw[zu this];rfl
   |some f=>
    have:lkK fx k ks=2:=by
     unfold lkK;rw[hr];by_cases h6:k=6
     ·rw[if_pos h6]
     ·rw[z11 fx h6] at hr;cases hr
    rw[zw this];show cnd true _ _=_;rw[q04,Bool.true_and,q0h];generalize (rowG fx k ks).2.1=p1;generalize (rowG fx k ks).2.2=p2;by_cases c1:p1<lv
    ·rw[if_pos c1,zw c1];rfl
    ·rw[if_neg c1,zu c1,q4d,Bool.false_or];by_cases c2:p1=lv
     ·rw[if_pos c2,zw c2,Bool.true_and];by_cases c3:p2=s
      ·subst c3;rw[show eqI p2 p2=true from eqI_eq.2 rfl,show notB true=false from rfl,q01,zu (fun h=>h rfl),Bool.false_or];by_cases c4:sd=p2
       ·subst c4;rw[show eqI sd sd=true from eqI_eq.2 rfl,zu (fun h=>h rfl)];rfl
       ·rw[q1j c4,zw c4];rfl
      ·rw[q1j c3,show notB false=true from rfl,q04,zw c3];rfl
     ·rw[if_neg c2,zu c2];rfl
  rw[hc];simp only[q00];have e:=qc3 hl hp (qq9 (dT fx k t n ks).p lv sd s) hs hv hN;rw[e];simp only[q00];unfold qam;rw[he,zu h3,Bool.false_or]
end
section
variable {b bx:Bool} {l:List ND} {fx:List Fix1} {self:Yf1} {N:Nat}
theorem qia{q:Nat}{ks:F}{z:Int}{i:Int}{k:Int}{t:Tx}{n:Int}{ks' r':F}{at_:Nat}(hl:l.length<=1000)(hp:qe0 self b bx l fx N)(hk:∃nb,f_e2 (⟨b,l⟩,(q:Int),())=some (⟨nb,ks.pos (q+1)⟩,()))(hi:at? (ks.pos (q+1)) i=some (at_:Int))(hs:Sits l at_ (.cons k t n ks' r'))(hv:errT k t n ks' false=0)(hN:ks'.size<N):q0f self (i,(q:Int),⟨b,l⟩,⟨bx,fx⟩,())=some (⟨false,(dT fx k t n ks').p.doc.flat⟩,(q:Int),⟨b,l⟩,⟨bx,fx⟩,()):=by have _:=hl;have _:=z;obtain⟨nb,e⟩:=hk;have e2:=hp at_ k t n ks' r' hs hv hN;rw[qbp,e,q00];simp only;rw[hi];simp only[q00];rw[e2];simp only[q00]
theorem qc4{s:Tx}{p q:Tx}(hs:∀b,b∈s->0<=b/\b<=255)(hl:s.length<=1000)(hp:p.length<=100)(hq:q.length<=100){β:Type}(K:Y0×Unit->Option β):bnd (f_cl (s,())) (fun x=>bnd (fit (sumI (lenI p) (lenI x.1))) (fun _=>bnd (fit (sumI (lenI (catS p x.1)) (lenI q))) (fun _=>bnd (f_cp (catS (catS p x.1) q,())) K)))=K (⟨false,(dTx (p++q8z s++q)).flat⟩,()):=by have hn:=qgj s;rw[qda hs (by omega),q00];simp only;rw[q84 p (q8z s) (by omega),q00,q4r,q84 (p++q8z s) q (by rw[zh];omega),q00,q4r,q18,q00]
theorem q5l{d:F}(h:d.size<=6000):(dUnd d).size<=6003:=Nat.le_trans (q3f d) (by omega)
theorem qzz(hl:l.length<=1000)(hg:GL l)(ht:TL 1000 l)(hp:qe0 self b bx l fx N){q:Nat}{k:Int}{t:Tx}{n:Int}{ks r:F}(hs:Sits l q (.cons k t n ks r))(hv:errT k t n ks false=0)(hN:ks.size<=N)(ho:q50 k=true):g_ch self ((q:Int),⟨b,l⟩,⟨bx,fx⟩,())=some (⟨false,(dT fx k t n ks).p.doc.flat⟩,⟨b,l⟩,⟨bx,fx⟩,()):=by
 obtain⟨g1,g2,g3,g4⟩:=hs.node;have hx:=(hg.at g1).1;have he:t.length<=1000:=ht _ (zP g1);obtain⟨hn,hf⟩:=errT_ok.1 hv;obtain⟨_,_,hk,_,_,_⟩:=nodeE_zero.1 hn;obtain⟨c1,c2,c3,_,_⟩:=qd6 hk;have hc:=q7j b l (by omega) hs;have hj:(dT fx k t n ks).p.doc=qo6 k t (nthD (dF fx ks) 0).p.doc (nthD (dF fx ks) 1).p.doc (nthD (dF fx ks) 2).p.doc:=qgh fx t n ks _ ho;have e10:eqI k 10=false:=by rcases q4g ho with h|h|h|h|h|h<;>subst h<;>rfl
 rw[e10] at hf;rw[u_ch,q0g g1,q00];simp only;rw[hj];by_cases hA:k=5\/k=11
 ·obtain⟨a,s,c,d,rfl⟩:=qwl (c1 hA);obtain⟨v1,_⟩:=q4s hf rfl;have hq:d.size+0+1<=N:=hN;have k1:=qia (z:=0) (i:=0) hl hp hc rfl g2 v1 (by omega);have s1:=q2q (fx:=fx) hl g2 v1;have u1:=q5l s1;have n0:(nthD (dF fx (.cons a s c d .nil)) 0).p.doc=(dT fx a s c d).p.doc:=rfl;rw[n0];rcases hA with rfl|rfl
  ·rw[show eqI 5 1=false from rfl,q01,show eqI 5 2=false from rfl,q01,show eqI 5 3=false from rfl,q01,show eqI 5 5=true from rfl,q04,qc4 hx he (by decide) (by decide),k1];simp only[q00];rw[q2p _ (d:=(dT fx a s c d).p.doc) rfl (q2z fx a s c d) (by omega)];simp only[q00];rw[q3s false (.cons (d:=dTx _) rfl rfl (.one (d:=dUnd _) rfl rfl)) (by simp only[q07,q0c,q10];omega)];simp only[q00];rfl
  ·rw[show eqI 11 1=false from rfl,q01,show eqI 11 2=false from rfl,q01,show eqI 11 3=false from rfl,q01,show eqI 11 5=false from rfl,q01,show eqI 11 7=false from rfl,q01,
    show eqI 11 8=false from rfl,q01,show eqI 11 9=false from rfl,q01,show eqI 11 11=true from rfl,q04,q18]
   simp only[q00];rw[k1];simp only[q00];rw[q2p _ (d:=(dT fx a s c d).p.doc) rfl (q2z fx a s c d) (by omega)];simp only[q00];rw[q3s false (.cons (d:=dTx _) rfl rfl (.one (d:=dUnd _) rfl rfl)) (by simp only[q07,q0c,q10];omega)];simp only[q00];rfl
 by_cases h9:k=9
 ·subst h9;obtain⟨a,s,c,d,r1,rfl,hr⟩:=q23 (ks:=ks) (n:=2) (by have:=c3 rfl;omega);obtain⟨a',s',c',d',r2,rfl,hm⟩:=q23 (n:=1) hr;obtain⟨a2,s2,c2',d2,r3,rfl,hu⟩:=q23 (n:=0) hm;obtain rfl:=q9v hu;obtain⟨v1,hf⟩:=q4s hf rfl;obtain⟨v2,hf⟩:=q4s hf rfl;obtain⟨v3,hf⟩:=q4s hf rfl;have hq:d.size+(d'.size+(d2.size+0+1)+1)+1<=N:=hN;obtain⟨_,_,p2,_⟩:=g2.node;obtain⟨_,_,p3,_⟩:=p2.node;have k1:=qia (z:=0) (i:=0) hl hp hc rfl g2 v1 (by omega);have k2:=qia (z:=0) (i:=1) hl hp hc rfl p2 v2 (by omega);have k3:=qia (z:=0) (i:=2) hl hp hc rfl p3 v3 (by omega);have s1:=q2q (fx:=fx) hl g2 v1;have s2':=q2q (fx:=fx) hl p2 v2;have s3:=q2q (fx:=fx) hl p3 v3;have u1:=q5l s1;have u2:=q5l s2';have u3:=q5l s3;rw[show eqI 9 1=false from rfl,q01,show eqI 9 2=false from rfl,q01,show eqI 9 3=false from rfl,q01,show eqI 9 5=false from rfl,q01,show eqI 9 7=false from rfl,q01,
    show eqI 9 8=false from rfl,q01,show eqI 9 9=true from rfl,q04,q18]
  simp only[q00];rw[k1];simp only[q00];rw[q2p _ (d:=(dT fx a s c d).p.doc) rfl (q2z fx a s c d) (by omega)];simp only[q00];rw[q3g];simp only[q00];rw[q18];simp only[q00];rw[k2];simp only[q00];rw[q2p _ (d:=(dT fx a' s' c' d').p.doc) rfl (q2z fx a' s' c' d') (by omega)];simp only[q00];rw[q18];simp only[q00];rw[k3];simp only[q00];rw[q2p _ (d:=(dT fx a2 s2 c2' d2).p.doc) rfl (q2z fx a2 s2 c2' d2) (by omega)];simp only[q00];rw[q3s false (.cons (d:=dTx _) rfl rfl (.cons (d:=dUnd _) rfl rfl (.cons (d:=dLn) rfl rfl (.cons (d:=dTx _) rfl rfl (.cons (d:=dUnd _) rfl rfl (.cons (d:=dLn) rfl rfl (.cons (d:=dTx _) rfl rfl (.one (d:=dUnd _) rfl rfl)))))))) (by simp only[q07,q0c,q10,q22];omega)];simp only[q00];rfl
 have h2:k=6\/k=7\/k=8\/k=12:=by
  rcases q4g ho with h|h|h|h|h|h
  ·exact absurd (.inl h) hA
  ·exact .inr (.inl h)
  ·exact .inr (.inr (.inl h))
  ·exact absurd h h9
  ·exact absurd (.inr h) hA
  ·exact .inr (.inr (.inr h))
 obtain⟨a,s,c,d,r1,rfl,hr⟩:=q23 (ks:=ks) (n:=1) (by have:=c2 h2;omega);obtain⟨a',s',c',d',r2,rfl,hm⟩:=q23 (n:=0) hr;obtain rfl:=q9v hm;obtain⟨v1,hf⟩:=q4s hf rfl;obtain⟨v2,hf⟩:=q4s hf rfl;have hq:d.size+(d'.size+0+1)+1<=N:=hN;obtain⟨_,_,p2,_⟩:=g2.node;have k1:=qia (z:=0) (i:=0) hl hp hc rfl g2 v1 (by omega);have k2:=qia (z:=0) (i:=1) hl hp hc rfl p2 v2 (by omega);have s1:=q2q (fx:=fx) hl g2 v1;have s2':=q2q (fx:=fx) hl p2 v2;have u1:=q5l s1;have u2:=q5l s2';have n0:(nthD (dF fx (.cons a s c d (.cons a' s' c' d' .nil))) 0).p.doc=(dT fx a s c d).p.doc:=rfl;have n1:(nthD (dF fx (.cons a s c d (.cons a' s' c' d' .nil))) 1).p.doc=(dT fx a' s' c' d').p.doc:=rfl;rw[n0,n1];rcases q4g ho with h|h|h|h|h|h
 ·exact absurd (.inl h) hA
 ·subst h;rw[show eqI 7 1=false from rfl,q01,show eqI 7 2=false from rfl,q01,show eqI 7 3=false from rfl,q01,show eqI 7 5=false from rfl,q01,show eqI 7 7=true from rfl,q04,qc4 hx he (by decide) (by decide),k1];simp only[q00];rw[q2p _ (d:=(dT fx a s c d).p.doc) rfl (q2z fx a s c d) (by omega)];simp only[q00];rw[q3g];simp only[q00];rw[q18];simp only[q00];rw[k2];simp only[q00];rw[q3s false (.cons (d:=dTx _) rfl rfl (.cons (d:=dUnd _) rfl rfl (.cons (d:=dLn) rfl rfl (.cons (d:=dTx _) rfl rfl (.cons (d:=dLn) rfl rfl (.one (d:=(dT fx a' s' c' d').p.doc) rfl (q2z fx a' s' c' d'))))))) (by simp only[q07,q0c,q10,q22];omega)];simp only[q00];rfl
 ·subst h;rw[show eqI 8 1=false from rfl,q01,show eqI 8 2=false from rfl,q01,show eqI 8 3=false from rfl,q01,show eqI 8 5=false from rfl,q01,show eqI 8 7=false from rfl,q01,show eqI 8 8=true from rfl,q04,qc4 hx he (by decide) (by decide),k1];simp only[q00];rw[q2p _ (d:=(dT fx a s c d).p.doc) rfl (q2z fx a s c d) (by omega)];simp only[q00];rw[q3g];simp only[q00];rw[q18];simp only[q00];rw[k2];simp only[q00];rw[q3s false (.cons (d:=dTx _) rfl rfl (.cons (d:=dUnd _) rfl rfl (.cons (d:=dLn) rfl rfl (.cons (d:=dTx _) rfl rfl (.cons (d:=dLn) rfl rfl (.one (d:=(dT fx a' s' c' d').p.doc) rfl (q2z fx a' s' c' d'))))))) (by simp only[q07,q0c,q10,q22];omega)];simp only[q00];rfl
 ·exact absurd h h9
 ·exact absurd (.inr h) hA
 ·subst h;rw[show eqI 12 1=false from rfl,q01,show eqI 12 2=false from rfl,q01,show eqI 12 3=false from rfl,q01,show eqI 12 5=false from rfl,q01,show eqI 12 7=false from rfl,q01,
   show eqI 12 8=false from rfl,q01,show eqI 12 9=false from rfl,q01,show eqI 12 11=false from rfl,q01,show eqI 12 12=true from rfl,q04,q18]
  simp only[q00];rw[k1];simp only[q00];rw[q2p _ (d:=(dT fx a s c d).p.doc) rfl (q2z fx a s c d) (by omega)];simp only[q00];rw[q3g];simp only[q00];rw[qc4 hx he (by decide) (by decide),k2];simp only[q00];rw[q2p _ (d:=(dT fx a' s' c' d').p.doc) rfl (q2z fx a' s' c' d') (by omega)];simp only[q00];rw[q3s false (.cons (d:=dTx _) rfl rfl (.cons (d:=dUnd _) rfl rfl (.cons (d:=dLn) rfl rfl (.cons (d:=dTx _) rfl rfl (.one (d:=dUnd _) rfl rfl))))) (by simp only[q07,q0c,q10,q22];omega)];simp only[q00];rfl
theorem z00(hl:l.length<=1000)(ht:TL 1000 l)(hx:fx.length<=1000000)(hj:∀f,f∈fx->f.1.length<=1000)(hp:qe0 self b bx l fx N){q:Nat}{t:Tx}{n:Int}{ks r:F}(hs:Sits l q (.cons 6 t n ks r))(hv:errT 6 t n ks false=0)(hN:ks.size<=N){f:Fix1}(hr:rowOf fx 6 ks=some f):q15 self ((q:Int),⟨b,l⟩,⟨bx,fx⟩,())=some (⟨false,(dT fx 6 t n ks).p.doc.flat⟩,⟨b,l⟩,⟨bx,fx⟩,()):=by
 have _:=ht;obtain⟨g1,g2,g3,g4⟩:=hs.node;have hg:=qoa (b:=b) (bx:=bx) hl hx hs hv;have hG:rowG fx 6 ks=f:=by unfold rowG;rw[hr];rfl
 rw[hG,hr] at hg;obtain⟨nb,hc⟩:=q7j b l (by omega) hs;have he:(dT fx 6 t n ks).p.doc=rowD f (nthD (dF fx ks) 0).b (nthD (dF fx ks) 1).p:=by show docK fx 6 t n ks _=_;unfold docK;rw[if_neg (by decide),if_neg (by decide),if_neg (by decide),if_neg (by decide),if_neg (by decide),if_pos rfl,hr]
 rw[he];obtain⟨a,s,c,d,a',s',c',d',rfl,v1,v2⟩:=q85 hv;have ha:a=6:=zC fun h=>by rw[qo9 fx h] at hr;cases hr
 subst ha;obtain⟨a1,s1,c1,d1,a2,s2,c2,d2,rfl,w1,w2⟩:=q85 v1;have hn:d1.size+(d2.size+0+1)+1+(d'.size+0+1)+1<=N:=hN;obtain⟨_,m2,p2,_⟩:=g2.node;obtain⟨_,_,n2,_⟩:=m2.node;obtain⟨nb2,hk⟩:=q7j b l (by omega) g2;have ho:f.1.length<=1000:=by
  have h3:a1=3:=zC fun h=>by have:rowOf fx 6 (.cons 6 s c (.cons a1 s1 c1 d1 (.cons a2 s2 c2 d2 .nil)) (.cons a' s' c' d' .nil))=none:=if_neg (fun e=>h e.2.2);rw[this] at hr;cases hr
  have:rowOf fx 6 (.cons 6 s c (.cons a1 s1 c1 d1 (.cons a2 s2 c2 d2 .nil)) (.cons a' s' c' d' .nil))=q83 fx s1:=if_pos ⟨rfl,rfl,h3⟩;rw[this] at hr;exact hj f (qg9 hr).1
 have sl:=q2q (fx:=fx) hl n2 w2;have sr:=q2q (fx:=fx) hl p2 v2;have zl:=q9g (dT fx a2 s2 c2 d2).p f.2.1 f.2.2 (-1);have zr:=q9g (dT fx a' s' c' d').p f.2.1 f.2.2 1;have k1:=qme (b:=b) (bx:=bx) hl hx hp f.1 f.2.1 f.2.2 (-1) n2 w2 (by omega);have k2:=qme (b:=b) (bx:=bx) hl hx hp f.1 f.2.1 f.2.2 1 p2 v2 (by omega);rw[qd2,hg];simp only[q00];rw[hc];simp only[q00];have at0:at? ((F.cons 6 s c (.cons a1 s1 c1 d1 (.cons a2 s2 c2 d2 .nil)) (.cons a' s' c' d' .nil)).pos (q+1)) 0=some ((q+1:Nat):Int):=rfl;have at1:at? ((F.cons 6 s c (.cons a1 s1 c1 d1 (.cons a2 s2 c2 d2 .nil)) (.cons a' s' c' d' .nil)).pos (q+1)) 1=some ((q+1+1+(F.cons a1 s1 c1 d1 (.cons a2 s2 c2 d2 .nil)).size:Nat):Int):=rfl;have at2:at? ((F.cons a1 s1 c1 d1 (.cons a2 s2 c2 d2 .nil)).pos (q+1+1)) 1=some ((q+1+1+1+d1.size:Nat):Int):=rfl;rw[at0];simp only[q00];rw[hk];simp only[q00];rw[at2];simp only[q00];rw[k1];simp only[q00];rw[q3g];simp only[q00];rw[q84 f.1 [32] (by show f.1.length+1<=_;omega)];simp only[q00];rw[q18];simp only[q00];rw[at1];simp only[q00];rw[k2];simp only[q00];have hf:=qec false (.cons (y:=⟨false,dLn.flat⟩) (d:=dLn) rfl rfl (.cons (y:=⟨false,(dTx (f.1++[32])).flat⟩) (d:=dTx (f.1++[32])) rfl rfl (.one (y:=⟨false,(qam (dT fx a' s' c' d').p f.2.1 f.2.2 1).flat⟩) (d:=qam (dT fx a' s' c' d').p f.2.1 f.2.2 1) rfl (qeb _ (q2z fx a' s' c' d'))))) (by simp only[q07,q0c,q10,q22];omega);have hm:=q3r [dLn,dTx (f.1++[32]),qam (dT fx a' s' c' d').p f.2.1 f.2.2 1];simp only[q07,q0c,q10,q22] at hm;rw[show catS f.1 [32]=f.1++[32] from q4r _ _,hf];simp only[q00];rw[q3s false (.cons (d:=qam (dT fx a2 s2 c2 d2).p f.2.1 f.2.2 (-1)) rfl (qeb _ (q2z fx a2 s2 c2 d2)) (.one (d:=q6c _) rfl rfl)) (by simp only[q07,q0c];omega)];simp only[q00];rfl
end
def revA(ps:List Pt):List F:=ps.reverse.flatMap fun p=>[dLn,argD p]
theorem qgk(ps:List Pt)(p:Pt):revA (ps++[p])=[dLn,argD p]++revA ps:=by unfold revA;rw[List.reverse_append,List.flatMap_append];rfl
def ArgAt(fx:List Fix1)(l:List ND)(N:Nat)(a:Int)(p:Pt):Prop:=∃(q:Nat) (k:Int) (t:Tx) (n:Int) (ks r:F),a=(q:Int)/\Sits l q (.cons k t n ks r)/\errT k t n ks false=0/\ks.size<N/\p=(dT fx k t n ks).p
theorem ArgAt.cnt{fx:List Fix1}{l:List ND}{N:Nat}{a:Int}{p:Pt}(h:ArgAt fx l N a p):p.doc.cnt=1:=by obtain⟨q,k,t,n,ks,r,_,_,_,_,rfl⟩:=h;exact q2z fx k t n ks
section
variable {b bx:Bool} {l:List ND} {fx:List Fix1} {self:Yf1} {N:Nat}
theorem z53(hl:l.length<=1000)(hx:fx.length<=1000000)(hp:qe0 self b bx l fx N){q:Nat}{k:Int}{t:Tx}{n:Int}{ks r:F}(hs:Sits l q (.cons k t n ks r))(hv:errT k t n ks false=0)(hN:ks.size<N)(na:Bool)(A:List Int)(ps:List Pt)(hy:A.length=ps.length)(hD:A.length<=10000)(ha:∀(i:Nat) a p,A[i]?=some a->ps[i]?=some p->ArgAt fx l N a p):∀(m:Nat) (nr:Bool) (R:List Y0) (es:List F),m<=A.length->Ds R es->(catF (es++revA (ps.take m))).size<=10000->q0i (q2c self) ((q:Int),lkK fx k ks,((m:Nat):Int)-1,⟨b,l⟩,⟨bx,fx⟩,⟨na,A⟩,⟨nr,R⟩,())=some (Sum.inr (⟨false,(dGrp [qh4 (dT fx k t n ks).p,q6c (es++revA (ps.take m))]).flat⟩,⟨b,l⟩,⟨bx,fx⟩,())):=by
 intro m
 induction m with
 |zero=>
  intro nr R es _ hR hf;have hz:revA (ps.take 0)=[]:=rfl;rw[hz,zo] at hf ⊢;have e:=qc3 hl hp (decide (lkK fx k ks=2)||decide (lkK fx k ks=3)) hs hv hN;have e:q0o self ((q:Int),(decide (lkK fx k ks=2)||decide (lkK fx k ks=3)),⟨b,l⟩,⟨bx,fx⟩,())=some (⟨false,(qh4 (dT fx k t n ks).p).flat⟩,⟨b,l⟩,⟨bx,fx⟩,()):=e;have hj:cnd (eqI (lkK fx k ks) 2) (some true) (some (eqI (lkK fx k ks) 3))=some (decide (lkK fx k ks=2)||decide (lkK fx k ks=3)):=by
   rw[q4d];by_cases c:lkK fx k ks=2
   ·rw[if_pos c,zw c];rfl
   ·rw[if_neg c,zu c,Bool.false_or];refine congrArg some ?_;by_cases c3:lkK fx k ks=3
    ·rw[c3];rfl
    ·rw[q1j c3,zu c3]
  have hd:=q2q (fx:=fx) hl hs hv;have hh:=qi9 (dT fx k t n ks).p;have hn:=q3r es;refine q09 ?_;unfold q2c;simp only;rw[qv7,if_neg (by omega),hj,q00];rw[e];simp only[q00];rw[qec nr hR (by omega)];simp only[q00];have hc:(qh4 (dT fx k t n ks).p).cnt=1:=qeb _ (q2z fx k t n ks);rw[q3s false (.cons (y:=⟨false,(qh4 (dT fx k t n ks).p).flat⟩) (d:=qh4 (dT fx k t n ks).p) rfl hc (.one (d:=q6c es) rfl rfl)) (by simp only[q07,q0c];omega)];simp only[q00]
 |succ m ih=>
  intro nr R es hm hR hf;have ho:m<A.length:=by omega
  have hq:m<ps.length:=by omega
  have hA:A[m]?=some A[m]:=zj ho;have hP:ps[m]?=some ps[m]:=zj hq;have hg:=ha m _ _ hA hP;have he:ps.take (m+1)=ps.take m++[ps[m]]:=(List.take_append_getElem hq).symm;have hk:=hg.cnt;obtain⟨q',k',t',n',ks',r',e1,ht,hu,hB,e2⟩:=hg;have e:=qc3 hl hp (decide ((dT fx k' t' n' ks').p.lk≠0)) ht hu hB;rw[he,qgk,<-zt] at hf;have hC:Ds (R++[(⟨false,dLn.flat⟩:Y0),⟨false,(argD ps[m]).flat⟩]) (es++[dLn,argD ps[m]]):=hR.app (.cons rfl rfl (.one rfl (qeb _ hk)));have hw:(R.length:Nat)<=10000:=by have:=qc2 hR.2;have:=hR.len;have hh:=q1r es ([dLn,argD ps[m]]++revA (ps.take m));rw[zt] at hf;omega
  have e':=ih (andB nr (isE ([(⟨false,dLn.flat⟩:Y0),⟨false,(argD ps[m]).flat⟩]:List Y0))) (R++[⟨false,dLn.flat⟩,⟨false,(argD ps[m]).flat⟩]) (es++[dLn,argD ps[m]]) (by omega) hC hf;have step:q2c self ((q:Int),lkK fx k ks,((m+1:Nat):Int)-1,⟨b,l⟩,⟨bx,fx⟩,⟨na,A⟩,⟨nr,R⟩,())=
    some (Sum.inl ((q:Int),lkK fx k ks,((m:Nat):Int)-1,⟨b,l⟩,⟨bx,fx⟩,⟨na,A⟩,⟨andB nr (isE ([(⟨false,dLn.flat⟩:Y0),⟨false,(argD ps[m]).flat⟩]:List Y0)),R++[⟨false,dLn.flat⟩,⟨false,(argD ps[m]).flat⟩]⟩,())):=by
   have hi:((m+1:Nat):Int)-1=(m:Int):=by omega
   unfold q2c;simp only;rw[hi,qv7,if_pos (by omega),q3g];simp only[q00];rw[q3q ho];simp only[q00];rw[z4i hA];simp only[q00];rw[e1,q7k hl hx ht hu];simp only[q00];have hj:notB (eqI (lkK fx k' ks') 0)=decide ((dT fx k' t' n' ks').p.lk≠0):=by
    show notB (eqI (lkK fx k' ks') 0)=decide (lkK fx k' ks'≠0);by_cases c:lkK fx k' ks'=0
    ·rw[c];rfl
    ·rw[q1j c,zw c];rfl
   rw[hj,e];simp only[q00];rw[show lenI R=((R.length:Nat):Int) from rfl,show lenI ([(⟨false,dLn.flat⟩:Y0),⟨false,(brkD (decide ((dT fx k' t' n' ks').p.lk≠0)) (dT fx k' t' n' ks').p.doc).flat⟩]:List Y0)=((2:Nat):Int) from rfl,q1d (by omega)];simp only[q00];rw[show subI .i64 (m:Int) 1=(m:Int)-1 from q3l (by omega) (by omega),e2];rfl
  rw[q0d step,e',he,qgk,zt]
theorem z12{t:Tx}{n:Int}{a a':Int}{s s':Tx}{c c':Int}{d d':F}(h:lkK fx 6 (.cons a s c d (.cons a' s' c' d' .nil))=1):(dT fx 6 t n (.cons a s c d (.cons a' s' c' d' .nil))).hd=(dT fx a s c d).hd/\(dT fx 6 t n (.cons a s c d (.cons a' s' c' d' .nil))).args=(dT fx a s c d).args++[dLn,argD (dT fx a' s' c' d').p]:=⟨if_pos h,if_pos h⟩
theorem z13{k:Int}{t:Tx}{n:Int}{ks:F}(h:lkK fx k ks≠1):(dT fx k t n ks).hd=(dT fx k t n ks).p/\(dT fx k t n ks).args=[]:=⟨if_neg h,if_neg h⟩
theorem z14{k:Int}{ks:F}(h:lkK fx k ks=1):k=6:=by refine zC fun h6=>?_;unfold lkK at h;rw[if_neg h6] at h;split at h<;>exact absurd h (by decide)
theorem z5u(hl:l.length<=1000)(hx:fx.length<=1000000)(hp:qe0 self b bx l fx N):∀(M:Nat) (q:Nat) (k:Int) (t:Tx) (n:Int) (ks r:F) (nb:Bool) (A:List Int) (ps:List Pt),ks.size<=M->Sits l q (.cons k t n ks r)->errT k t n ks false=0->(lkK fx k ks≠1->ks.size<N)->ks.size<=N->A.length=ps.length->A.length+ks.size<=1000->(∀(i:Nat) a p,A[i]?=some a->ps[i]?=some p->ArgAt fx l N a p)->(catF ((dT fx k t n ks).args++revA ps)).size<=10000->q0i (q1k self) ((q:Int),⟨b,l⟩,⟨bx,fx⟩,⟨nb,A⟩,())=some (⟨false,(dGrp [qh4 (dT fx k t n ks).hd,q6c ((dT fx k t n ks).args++revA ps)]).flat⟩,⟨b,l⟩,⟨bx,fx⟩,()):=by
 intro M
 induction M with
 |zero=>
  intro q k t n ks r nb A ps hM hs hv hj hm hc hn ha he;have hk:lkK fx k ks≠1:=by intro h;have h6:=z14 h;subst h6;obtain⟨a,s,c,d,a',s',c',d',rfl,_⟩:=q85 hv;have hM:d.size+(d'.size+0+1)+1<=0:=hM;omega
  obtain⟨e1,e2⟩:=z13 (t:=t) (n:=n) hk;rw[e2,List.nil_append] at he;have e:=z53 hl hx hp hs hv (hj hk) nb A ps hc (by omega) ha A.length true [] [] (Nat.le_refl _) .nil (by rw[hc,List.take_length,List.nil_append];exact he);rw[hc,List.take_length] at e;refine q09 ?_;unfold q1k;simp only;rw[q7k hl hx hs hv,q00,q4d,if_neg hk,q00];simp only;rw[show subI .i64 (lenI A) 1=((ps.length:Nat):Int)-1 from by rw[show lenI A=((A.length:Nat):Int) from rfl,hc];exact q3l (by omega) (by omega),e,e1,e2]
 |succ M ih=>
  intro q k t n ks r nb A ps hM hs hv hj hm hc hn ha he;by_cases hk:lkK fx k ks=1
  ·have h6:=z14 hk;subst h6;obtain⟨g1,g2,g3,g4⟩:=hs.node;obtain⟨nb2,hf⟩:=q7j b l (by omega) hs;have hg:=q7k (b:=b) (bx:=bx) hl hx hs hv;obtain⟨a,s,c,d,a',s',c',d',rfl,v1,v2⟩:=q85 hv;obtain⟨e1,e2⟩:=z12 (t:=t) (n:=n) hk;have hM:d.size+(d'.size+0+1)+1<=M+1:=hM;have hm:d.size+(d'.size+0+1)+1<=N:=hm;have hn:A.length+(d.size+(d'.size+0+1)+1)<=1000:=hn;obtain⟨_,_,p2,_⟩:=g2.node;have step:q1k self ((q:Int),⟨b,l⟩,⟨bx,fx⟩,⟨nb,A⟩,())=some (Sum.inl (((q+1:Nat):Int),⟨b,l⟩,⟨bx,fx⟩,⟨andB nb (isE ([((q+1+1+d.size:Nat):Int)]:Y2)),A++[((q+1+1+d.size:Nat):Int)]⟩,())):=by unfold q1k;simp only;rw[hg,q00,q4d,if_pos hk,hf];simp only[q00];have at0:at? ((F.cons a s c d (.cons a' s' c' d' .nil)).pos (q+1)) 0=some ((q+1:Nat):Int):=rfl;have at1:at? ((F.cons a s c d (.cons a' s' c' d' .nil)).pos (q+1)) 1=some ((q+1+1+d.size:Nat):Int):=rfl;rw[at1];simp only[q00];rw[show lenI A=((A.length:Nat):Int) from rfl,show lenI ([((q+1+1+d.size:Nat):Int)]:Y2)=((1:Nat):Int) from rfl,q1d (by omega)];simp only[q00];rw[at0];simp only[q00];rfl
   have hT:(dT fx a s c d).args++revA (ps++[(dT fx a' s' c' d').p])=(dT fx 6 t n (.cons a s c d (.cons a' s' c' d' .nil))).args++revA ps:=by rw[e2,qgk,zt]
   have e:=ih (q+1) a s c d (.cons a' s' c' d' .nil) (andB nb (isE ([((q+1+1+d.size:Nat):Int)]:Y2))) (A++[((q+1+1+d.size:Nat):Int)]) (ps++[(dT fx a' s' c' d').p]) (by omega) g2 v1 (fun _=>by omega) (by omega) (by rw[zh,zh,hc];rfl) (by rw[zh,List.length_singleton];omega)
    (fun i x p h1 h2=>by
     by_cases hi:i<A.length
     ·rw[zW hi] at h1;rw[zW (by omega)] at h2;exact ha i x p h1 h2
     ·rw[zM (by omega)] at h1;rw[zM (by omega)] at h2;have ho:i-A.length=0:=by have:=(zG.1 h1).1;simp at this;omega
      rw[ho] at h1;rw[show i-ps.length=0 by omega] at h2;injection h1 with h1;injection h2 with h2;exact⟨q+1+1+d.size,a',s',c',d',.nil,h1.symm,p2,v2,by omega,h2.symm⟩)
    (by rw[hT];exact he)
   rw[q0d step,e,hT,e1]
  ·obtain⟨e1,e2⟩:=z13 (t:=t) (n:=n) hk;rw[e2,List.nil_append] at he;have e:=z53 hl hx hp hs hv (hj hk) nb A ps hc (by omega) ha A.length true [] [] (Nat.le_refl _) .nil (by rw[hc,List.take_length,List.nil_append];exact he);rw[hc,List.take_length] at e;refine q09 ?_;unfold q1k;simp only;rw[q7k hl hx hs hv,q00,q4d,if_neg hk,q00];simp only;rw[show subI .i64 (lenI A) 1=((ps.length:Nat):Int)-1 from by rw[show lenI A=((A.length:Nat):Int) from rfl,hc];exact q3l (by omega) (by omega),e,e1,e2]
theorem z01(hl:l.length<=1000)(hx:fx.length<=1000000)(hp:qe0 self b bx l fx N){q:Nat}{t:Tx}{n:Int}{ks r:F}(hs:Sits l q (.cons 6 t n ks r))(hv:errT 6 t n ks false=0)(hN:ks.size<=N)(hr:lkK fx 6 ks=1):q16 self ((q:Int),⟨b,l⟩,⟨bx,fx⟩,())=some (⟨false,(dT fx 6 t n ks).p.doc.flat⟩,⟨b,l⟩,⟨bx,fx⟩,()):=by
 have hz:=qwn fx hv (szF fx ks _ _ (errT_ok.1 hv).2);have hf:=hs.small hl;have hc:rowOf fx 6 ks=none:=by
  cases h:rowOf fx 6 ks with
  |none=>rfl
  |some f=>unfold lkK at hr;rw[if_pos rfl,h] at hr;exact absurd hr (show ¬(2:Int)=1 by decide)
 have e:=z5u (b:=b) (bx:=bx) hl hx hp ks.size q 6 t n ks r true [] [] (Nat.le_refl _) hs hv (fun h=>absurd hr h) hN rfl (by show 0+ks.size<=1000;omega) (fun i a p h=>by cases h) (by
  have hn:revA []=[]:=rfl;rw[hn,zo];have:=hz.2.1;omega)
 rw[qd3,e];have hn:revA []=[]:=rfl;rw[hn,zo];obtain⟨a,s,c,d,a',s',c',d',rfl,v1,v2⟩:=q85 hv;obtain⟨e1,e2⟩:=z12 (t:=t) (n:=n) hr;rw[e1,e2];have he:(dT fx 6 t n (.cons a s c d (.cons a' s' c' d' .nil))).p.doc=appD (dT fx a s c d).hd ((dT fx a s c d).args++[dLn,argD (dT fx a' s' c' d').p]):=by show docK fx 6 t n _ _=_;unfold docK;rw[if_neg (by decide),if_neg (by decide),if_neg (by decide),if_neg (by decide),if_neg (by decide),if_pos rfl,hc];rfl
 rw[he];rfl
end
section
variable {b bx:Bool} {l:List ND} {fx:List Fix1} {self:Yf1} {N:Nat}
theorem qwt{q:Nat}{g:F}{e:Nat}(hs:Sits l q g)(hf:errF true false true g=0)(hc:g.cnt=2*(e+1)):∃a s c d a' s' c' d' r,g=.cons a s c d (.cons a' s' c' d' r)/\r.cnt=2*e/\errT a s c d true=0/\errT a' s' c' d' false=0/\errF true false true r=0/\Sits l (q+1+d.size) (.cons a' s' c' d' r)/\Sits l (q+1+d.size+1+d'.size) r:=by obtain⟨a,s,c,d,r1,rfl,hr⟩:=q23 (ks:=g) (n:=2*e+1) (by omega);obtain⟨a',s',c',d',r,rfl,he⟩:=q23 (n:=2*e) hr;obtain⟨h1,h2⟩:=errF_ok.1 hf;obtain⟨h3,h4⟩:=errF_ok.1 h2;obtain⟨_,_,p2,_⟩:=hs.node;obtain⟨_,_,p3,_⟩:=p2.node;exact⟨a,s,c,d,a',s',c',d',r,rfl,he,h1,h3,h4,p2,p3⟩
theorem qwu(q:Nat)(a a':Int)(s s':Tx)(c c':Int)(d d' r:F)(pre:List Int):pre++(F.cons a s c d (.cons a' s' c' d' r)).pos q=(pre++[(q:Int),((q+1+d.size:Nat):Int)])++r.pos (q+1+d.size+1+d'.size):=by rw[zt];rfl
theorem z3f{α:Type}(pre:List α)(a b:α)(post:List α):at? (pre++a::b::post) ((pre.length+1:Nat):Int)=some b:=q0g (by rw[zM (by omega),Nat.add_sub_cancel_left];rfl)
theorem qib(hl:l.length<=1000)(hg:GL l)(ht:TL 1000 l)(hp:qe0 self b bx l fx N){q:Nat}{a a':Int}{s s':Tx}{c c':Int}{d d' r:F}(hs:Sits l q (.cons a s c d (.cons a' s' c' d' r)))(v1:errT a s c d true=0)(v2:errT a' s' c' d' false=0)(p2:Sits l (q+1+d.size) (.cons a' s' c' d' r))(hN:d'.size<N)(nb nr:Bool)(pre:List Int)(hn:pre.length<=100000)(R:List Y0)(es:List F)(hR:Ds R es)(ho:(catF es).size<=30000):∃nr' R',q13 self (⟨nb,pre++(F.cons a s c d (.cons a' s' c' d' r)).pos q⟩,(pre.length:Int),⟨b,l⟩,⟨bx,fx⟩,⟨nr,R⟩,())=some (Sum.inl (⟨nb,pre++(F.cons a s c d (.cons a' s' c' d' r)).pos q⟩,((pre.length+2:Nat):Int),⟨b,l⟩,⟨bx,fx⟩,⟨nr',R'⟩,()))/\Ds R' (es++(if pre.length=1 then [q6c [dLn,dTx ((dT fx a s c d).pt++[32,45,62]),dUnd (dT fx a' s' c' d').p.doc]] else [dLn,dTx ([124,32]++((dT fx a s c d).pt++[32,45,62])),dUnd (dT fx a' s' c' d').p.doc])):=by
 have hk:R.length<=30000:=by have:=qc2 hR.2;have:=hR.len;omega
 have hf:=qwq (b:=b) hl hg ht false hs v1;have hq:patT a s c (patL d)=(dT fx a s c d).pt:=rfl;have hm:=qmd a s c d (Sits.tl ht hs.first);have hv:=hs.small hl;have hd:=q2q (fx:=fx) hl p2 v2;have hu:=q5l hd;have k2:=hp _ a' s' c' d' r p2 v2 hN;have he:=add1 (k:=pre.length) (by omega);have hc:=add2 (k:=pre.length) (by omega);unfold q13;simp only;have hj:lenI (pre++(F.cons a s c d (.cons a' s' c' d' r)).pos q)=((pre.length+(r.cnt+1+1):Nat):Int):=by show(((pre++(F.cons a s c d (.cons a' s' c' d' r)).pos q).length:Nat):Int)=_;rw[zh,F.pos_len];rfl
 rw[hj,q0h,if_pos (by omega)];have a0:at? (pre++(F.cons a s c d (.cons a' s' c' d' r)).pos q) (pre.length:Int)=some (q:Int):=z10 pre _ _;have a1:at? (pre++(F.cons a s c d (.cons a' s' c' d' r)).pos q) ((pre.length+1:Nat):Int)=some ((q+1+d.size:Nat):Int):=z3f pre _ _ _;rw[a0];simp only[q00];rw[hf];simp only[q00,cond_false];rw[q84 (patT a s c (patL d)) [32,45,62] (by show _+3<=_;omega)];simp only[q00];rw[he,a1];simp only[q00];rw[k2];simp only[q00];rw[q2p _ (d:=(dT fx a' s' c' d').p.doc) rfl (q2z fx a' s' c' d') (by omega)];simp only[q00];rw[q4d,q4r];by_cases h1:pre.length=1
 ·rw[if_pos (by omega),if_pos h1,q3g];simp only[q00];rw[q18];simp only[q00];rw[qec false (.cons (d:=dLn) rfl rfl (.cons (d:=dTx _) rfl rfl (.one (d:=dUnd (dT fx a' s' c' d').p.doc) rfl rfl))) (by simp only[q07,q0c,q10,q22];omega)];simp only[q00];rw[show lenI R=((R.length:Nat):Int) from rfl,show lenI ([(⟨false,(q6c [dLn,dTx (patT a s c (patL d)++[32,45,62]),dUnd (dT fx a' s' c' d').p.doc]).flat⟩:Y0)]:List Y0)=((1:Nat):Int) from rfl,q1d (by omega)];simp only[q00];rw[hc];exact⟨_,_,rfl,hR.app (.one rfl rfl)⟩
 ·rw[if_neg (by omega),if_neg h1,q3g];simp only[q00];rw[q84 [124,32] (patT a s c (patL d)++[32,45,62]) (by rw[zh];show 2+(_+3)<=_;omega)];simp only[q00];rw[q4r,q18];simp only[q00];rw[show lenI R=((R.length:Nat):Int) from rfl,show lenI ([(⟨false,dLn.flat⟩:Y0),⟨false,(dTx ([124,32]++(patT a s c (patL d)++[32,45,62]))).flat⟩,⟨false,(dUnd (dT fx a' s' c' d').p.doc).flat⟩]:List Y0)=((3:Nat):Int) from rfl,q1d (by omega)];simp only[q00];rw[hc];exact⟨_,_,rfl,hR.app (.cons rfl rfl (.cons rfl rfl (.one rfl rfl)))⟩
theorem qwv(nb nr:Bool)(pos:List Int)(R:List Y0)(es:List F)(hR:Ds R es)(he:(catF es).size<=30000):q13 self (⟨nb,pos⟩,(pos.length:Int),⟨b,l⟩,⟨bx,fx⟩,⟨nr,R⟩,())=some (Sum.inr (⟨false,(dGrp (es++[dLn,dTx Pz.kEnd])).flat⟩,⟨b,l⟩,⟨bx,fx⟩,())):=by
 have hc:R.length<=30000:=by have:=qc2 hR.2;have:=hR.len;omega
 unfold q13;simp only;rw[show lenI pos=((pos.length:Nat):Int) from rfl,q0h,if_neg (by omega),q3g];simp only[q00];rw[q18];simp only[q00];rw[show lenI R=((R.length:Nat):Int) from rfl,show lenI ([(⟨false,dLn.flat⟩:Y0),⟨false,(dTx [101,110,100]).flat⟩]:List Y0)=((2:Nat):Int) from rfl,q1d (by omega)];simp only[q00];rw[show app R [(⟨false,dLn.flat⟩:Y0),⟨false,(dTx [101,110,100]).flat⟩]=R++[(⟨false,dLn.flat⟩:Y0),⟨false,(dTx [101,110,100]).flat⟩] from qq5 _ _,q3s _ (hR.app (.cons (d:=dLn) rfl rfl (.one (d:=dTx Pz.kEnd) rfl rfl))) (by rw[q1r];simp only[q07,q0c,q10,q22];omega)];simp only[q00]
theorem qmf(hl:l.length<=1000)(hg:GL l)(ht:TL 1000 l)(hp:qe0 self b bx l fx N)(nb:Bool):∀(e:Nat) (g:F) (q:Nat) (pre:List Int) (nr:Bool) (R:List Y0) (es:List F),g.cnt=2*e->Sits l q g->errF true false true g=0->g.size<=N->2<=pre.length->pre.length+g.cnt<=100000->Ds R es->(catF (es++qan (dF fx g))).size<=30000->q0i (q13 self) (⟨nb,pre++g.pos q⟩,(pre.length:Int),⟨b,l⟩,⟨bx,fx⟩,⟨nr,R⟩,())=some (⟨false,(dGrp (es++(qan (dF fx g)++[dLn,dTx Pz.kEnd]))).flat⟩,⟨b,l⟩,⟨bx,fx⟩,())
 |0,g,q,pre,nr,R,es,hc,_,_,_,_,_,hR,hj=>by obtain rfl:=q9v (ks:=g) (by omega);have h0:qan (dF fx .nil)=[]:=rfl;rw[h0,zo] at hj;have hk:pre++F.nil.pos q=pre:=zo pre;rw[hk,h0,List.nil_append];exact q09 (qwv nb nr pre R es hR hj)
 |e+1,g,q,pre,nr,R,es,hc,hs,hf,hN,hq,hm,hR,hj=>by obtain⟨a,s,c,d,a',s',c',d',r,rfl,ho,v1,v2,v3,q2,q3⟩:=qwt hs hf hc;have hN:d.size+(d'.size+r.size+1)+1<=N:=hN;have hm:pre.length+(r.cnt+1+1)<=100000:=hm;have he:qan (dF fx (.cons a s c d (.cons a' s' c' d' r)))=[dLn,dTx ([124,32]++((dT fx a s c d).pt++[32,45,62])),dUnd (dT fx a' s' c' d').p.doc]++qan (dF fx r):=rfl;rw[he,<-zt] at hj;obtain⟨nr',R',st,hn⟩:=qib hl hg ht hp hs v1 v2 q2 (by omega) nb nr pre (by omega) R es hR (by rw[zt,q1r] at hj;omega);rw[if_neg (by omega)] at hn;have e2:=qmf hl hg ht hp nb e r (q+1+d.size+1+d'.size) (pre++[(q:Int),((q+1+d.size:Nat):Int)]) nr' R' _ ho q3 v3 (by omega) (by rw[zh];omega) (by rw[zh];show pre.length+2+_<=_;omega) hn hj;rw[q0d st,qwu,show((pre.length+2:Nat):Int)=(((pre++[(q:Int),((q+1+d.size:Nat):Int)]).length:Nat):Int) from by rw[zh];rfl,e2,he];simp only[zt]
theorem qww(hl:l.length<=1000)(hg:GL l)(ht:TL 1000 l)(hp:qe0 self b bx l fx N){q:Nat}{t:Tx}{n:Int}{ks r:F}(hs:Sits l q (.cons 10 t n ks r))(hv:errT 10 t n ks false=0)(hN:ks.size<=N):q12 self ((q:Int),⟨b,l⟩,⟨bx,fx⟩,())=some (⟨false,(dT fx 10 t n ks).p.doc.flat⟩,⟨b,l⟩,⟨bx,fx⟩,()):=by
 obtain⟨g1,g2,g3,g4⟩:=hs.node;obtain⟨hn,hf⟩:=errT_ok.1 hv;obtain⟨_,_,hk,_,_,_⟩:=nodeE_zero.1 hn;obtain⟨_,_,_,c10,_⟩:=qd6 hk;obtain⟨c10,c11⟩:=c10 rfl;obtain⟨nb,hc⟩:=q7j b l (by omega) hs;have ho:=hs.small hl;have hq:=q2q (fx:=fx) hl hs hv;obtain⟨a,s,c,d,r0,rfl,hr⟩:=q23 (ks:=ks) (n:=ks.cnt-1) (by omega);have hz:(F.cons a s c d r0).cnt=r0.cnt+1:=rfl;have e10:eqI 10 10=true:=rfl;rw[e10] at hf;obtain⟨v0,hf⟩:=q4s hf rfl;have hN:d.size+r0.size+1<=N:=hN;have hw:=r0.cnt_le;have ho:d.size+r0.size+1+1<=1000:=ho;obtain⟨_,_,p0,_⟩:=g2.node;obtain⟨e,he⟩:∃e,r0.cnt=2*(e+1):=⟨r0.cnt / 2-1,by omega⟩;obtain⟨a1,s1,c1,d1,a2,s2,c2,d2,r1,rfl,hx,v1,v2,v3,q2,q3⟩:=qwt p0 hf he;have hN:d.size+(d1.size+(d2.size+r1.size+1)+1)+1<=N:=hN;have k0:=hp _ a s c d _ g2 v0 (by omega);have d0:=q2q (fx:=fx) hl g2 v0;have u0:=q5l d0;have hj:(dT fx 10 t n (.cons a s c d (.cons a1 s1 c1 d1 (.cons a2 s2 c2 d2 r1)))).p.doc=dGrp ([dTx Pz.kMatch,dUnd (dT fx a s c d).p.doc,dLn,dTx Pz.kWith]++([q6c [dLn,dTx ((dT fx a1 s1 c1 d1).pt++[32,45,62]),dUnd (dT fx a2 s2 c2 d2).p.doc]]++(qan (dF fx r1)++[dLn,dTx Pz.kEnd]))):=by have h0:(dT fx 10 t n (.cons a s c d (.cons a1 s1 c1 d1 (.cons a2 s2 c2 d2 r1)))).p.doc=docK fx 10 t n (.cons a s c d (.cons a1 s1 c1 d1 (.cons a2 s2 c2 d2 r1))) (dF fx (.cons a s c d (.cons a1 s1 c1 d1 (.cons a2 s2 c2 d2 r1)))):=rfl;rw[h0];unfold docK;rw[if_neg (by decide),if_neg (by decide),if_neg (by decide),if_neg (by decide),if_pos rfl];rfl
 have hm:(catF ([dTx Pz.kMatch,dUnd (dT fx a s c d).p.doc,dLn,dTx Pz.kWith]++[q6c [dLn,dTx ((dT fx a1 s1 c1 d1).pt++[32,45,62]),dUnd (dT fx a2 s2 c2 d2).p.doc]]++qan (dF fx r1))).size<=30000:=by rw[hj] at hq;have:(catF ([dTx Pz.kMatch,dUnd (dT fx a s c d).p.doc,dLn,dTx Pz.kWith]++([q6c [dLn,dTx ((dT fx a1 s1 c1 d1).pt++[32,45,62]),dUnd (dT fx a2 s2 c2 d2).p.doc]]++(qan (dF fx r1)++[dLn,dTx Pz.kEnd])))).size+0+1+0+1<=6000:=hq;rw[<-zt,<-zt,q1r] at this;omega
 rw[qbq,hc];simp only[q00];rw[q18];simp only[q00];have at0:at? ((F.cons a s c d (.cons a1 s1 c1 d1 (.cons a2 s2 c2 d2 r1))).pos (q+1)) 0=some ((q+1:Nat):Int):=rfl;rw[at0];simp only[q00];rw[k0];simp only[q00];rw[q2p _ (d:=(dT fx a s c d).p.doc) rfl (q2z fx a s c d) (by omega)];simp only[q00];rw[q3g];simp only[q00];rw[q18];simp only[q00];have hy:Ds [(⟨false,(dTx [109,97,116,99,104]).flat⟩:Y0),⟨false,(dUnd (dT fx a s c d).p.doc).flat⟩,⟨false,dLn.flat⟩,⟨false,(dTx [119,105,116,104]).flat⟩] [dTx Pz.kMatch,dUnd (dT fx a s c d).p.doc,dLn,dTx Pz.kWith]:=.cons rfl rfl (.cons rfl rfl (.cons rfl rfl (.one rfl rfl)));obtain⟨nr',R',st,hu⟩:=qib hl hg ht hp p0 v1 v2 q2 (by omega) nb false [((q+1:Nat):Int)] (by show 1<=_;omega) _ _ hy (by rw[q1r,q1r] at hm;omega);rw[if_pos (show [((q+1:Nat):Int)].length=1 from rfl)] at hu;have st:q13 self (⟨nb,(F.cons a s c d (.cons a1 s1 c1 d1 (.cons a2 s2 c2 d2 r1))).pos (q+1)⟩,1,⟨b,l⟩,⟨bx,fx⟩,⟨false,[(⟨false,(dTx [109,97,116,99,104]).flat⟩:Y0),⟨false,(dUnd (dT fx a s c d).p.doc).flat⟩,⟨false,dLn.flat⟩,⟨false,(dTx [119,105,116,104]).flat⟩]⟩,())=_:=st;rw[q0d st];have e2:=qmf hl hg ht hp nb e r1 (q+1+1+d.size+1+d1.size+1+d2.size) ([((q+1:Nat):Int)]++[((q+1+1+d.size:Nat):Int),((q+1+1+d.size+1+d1.size:Nat):Int)]) nr' R' _ hx q3 v3 (by omega) (by show 2<=3;omega) (by show 3+_<=_;have:=r1.cnt_le;omega) hu hm;rw[hj];rw[qwu];refine Eq.trans e2 ?_;simp only[zt]
end
theorem qwx{b bx:Bool}{l:List ND}{fx:List Fix1}(hl:l.length<=1000)(hg:GL l)(ht:TL 1000 l)(hx:fx.length<=1000000)(hq:∀f,f∈fx->f.1.length<=1000):∀N:Nat,qe0 (recN g_ch N) b bx l fx N
 |0=>fun _ _ _ _ _ _ _ _ h=>absurd h (Nat.not_lt_zero _)
 |N+1=>by
  have hp:=qwx (b:=b) (bx:=bx) hl hg ht hx hq N;intro q k t n ks r hs hv hN;have hN:ks.size<=N:=by omega
  show g_ch (recN g_ch N) ((q:Int),⟨b,l⟩,⟨bx,fx⟩,())=_;by_cases ho:q50 k=true
  ·exact qzz hl hg ht hp hs hv hN ho
  obtain⟨g1,g2,g3,g4⟩:=hs.node;have hu:=(hg.at g1).1;have hy:t.length<=1000:=ht _ (zP g1);obtain⟨hn,hf⟩:=errT_ok.1 hv;obtain⟨_,_,hk,hj,_,_⟩:=nodeE_zero.1 hn;have hm:(dT fx k t n ks).p.doc=docK fx k t n ks (dF fx ks):=rfl;have no:∀c:Int,q50 c=true->eqI k c=false:=fun c hc=>q1j fun e=>ho (e▸hc);by_cases k10:k=10
  ·subst k10;rw[u_ch,q0g g1,q00];simp only;have e:=qww hl hg ht hp hs hv hN;rw[show eqI 10 1=false from rfl,q01,show eqI 10 2=false from rfl,q01,show eqI 10 3=false from rfl,q01,show eqI 10 5=false from rfl,q01,show eqI 10 7=false from rfl,q01,show eqI 10 8=false from rfl,q01,
    show eqI 10 9=false from rfl,q01,show eqI 10 11=false from rfl,q01,show eqI 10 12=false from rfl,q01,show eqI 10 10=true from rfl,q04,e]
   simp only[q00]
  by_cases k6:k=6
  ·subst k6;rw[u_ch,q0g g1,q00];simp only;rw[show eqI 6 1=false from rfl,q01,show eqI 6 2=false from rfl,q01,show eqI 6 3=false from rfl,q01,show eqI 6 5=false from rfl,q01,show eqI 6 7=false from rfl,q01,show eqI 6 8=false from rfl,q01,
    show eqI 6 9=false from rfl,q01,show eqI 6 11=false from rfl,q01,show eqI 6 12=false from rfl,q01,show eqI 6 10=false from rfl,q01,show eqI 6 6=true from rfl,q04,q7k hl hx hs hv,q00]
   simp only;cases hr:rowOf fx 6 ks with
   |some f=>
    have he:lkK fx 6 ks=2:=by unfold lkK;rw[if_pos rfl,hr]
    have e:=z00 hl ht hx hq hp hs hv hN hr;rw[he,show eqI 2 2=true from rfl,q04,e];simp only[q00]
   |none=>
    have he:lkK fx 6 ks=1:=by unfold lkK;rw[if_pos rfl,hr]
    have e:=z01 hl hx hp hs hv hN he;rw[he,show eqI 1 2=false from rfl,q01,e];simp only[q00]
  rw[u_ch,q0g g1,q00,hm];simp only;unfold docK;rw[q4d];by_cases k1:k=1
  ·subst k1;have hw:q4q n=true:=hj;rw[if_pos rfl,if_pos rfl,qqf hw];simp only[q00];rw[q18];simp only[q00]
  rw[if_neg k1,if_neg k1,q4d];by_cases k2:k=2
  ·subst k2;rw[if_pos rfl,if_pos rfl,qsp (s:=t) hu (by omega)];simp only[q00];rw[q18];simp only[q00]
  rw[if_neg k2,if_neg k2,q4d];by_cases k3:k=3
  ·subst k3;rw[if_pos rfl,if_pos rfl,qda (s:=t) hu (by omega)];simp only[q00];rw[q18];simp only[q00]
  rw[if_neg k3,if_neg k3,if_neg ho,if_neg k10,if_neg k6,no 5 rfl,q01,no 7 rfl,q01,no 8 rfl,q01,no 9 rfl,q01,no 11 rfl,q01,no 12 rfl,q01,q1j k10,q01,q1j k6,q01,q18];simp only[q00]
theorem qwy{b bx:Bool}{l:List ND}{fx:List Fix1}(hl:l.length<=1000)(hg:GL l)(ht:TL 1000 l)(hx:fx.length<=1000000)(hc:∀f,f∈fx->f.1.length<=1000){q:Nat}{k:Int}{t:Tx}{n:Int}{ks r:F}(hs:Sits l q (.cons k t n ks r))(hv:errT k t n ks false=0):f_ch ((q:Int),⟨b,l⟩,⟨bx,fx⟩,())=some (⟨false,(dT fx k t n ks).p.doc.flat⟩,⟨b,l⟩,⟨bx,fx⟩,()):=q6x (ks.size+1) fun N hN=>qwx hl hg ht hx hc N q k t n ks r hs hv hN
section
variable {b bx:Bool} {l:List ND} {fx:List Fix1}
end
section
variable {b bx:Bool} {l:List ND} {fx:List Fix1} {self:Yf6} {N:Nat}
end
section
variable {b bx:Bool} {l:List ND} {fx:List Fix1} {self:Yf6} {N:Nat}
end
section
variable {b bx:Bool} {l:List ND} {fx:List Fix1} {self:Yf6} {N:Nat}
theorem z5v(k:Int):ltI (q2o k) 0=false->q39 k=false->q50 k=false->eqI k 1=false->eqI k 2=false->eqI k 3=false->eqI k 6=false->eqI k 10=false->k=4:=by refine q9d (P:=fun k=>ltI (q2o k) 0=false->q39 k=false->q50 k=false->eqI k 1=false->eqI k 2=false->eqI k 3=false->eqI k 6=false->eqI k 10=false->k=4) (by decide) (by decide) (by decide) (by decide) (by decide) (by decide) (by decide) (by decide) (by decide) (by decide) (by decide) (by decide) (by decide) (by decide) (by decide) (by decide) ?_ k;intro a ha h;have e:∀c,c∈qq1->eqI a c=false:=ha;unfold q2o at h;rw[e 1 (by decide),e 6 (by decide),e 9 (by decide),e 10 (by decide),e 11 (by decide),e 21 (by decide),e 23 (by decide),e 3 (by decide),e 5 (by decide),e 7 (by decide),e 8 (by decide),e 12 (by decide),e 22 (by decide),e 4 (by decide),e 24 (by decide),e 2 (by decide)] at h;cases h
end
theorem qwz(nb n:Bool)(t:List ND)(l:List Fix1):∀(m k:Nat),k+m=21->k<=l.length->(∀j (h:j<l.length),j<k->l[j].1.length<=20)->∃r,q0i q4e (⟨nb,t⟩,⟨n,l⟩,(k:Int),())=some (Sum.inr (r,()))/\(r=true->t.length<=100/\l.length<=20/\∀x,x∈l->x.1.length<=20):=by
 have fin:∀k:Nat,cnd (ltI (k:Int) (lenI l)) (some (ltI (k:Int) 21)) (some false)=some false->(∀j (h:j<l.length),j<k->l[j].1.length<=20)->(l.length<=20->l.length<=k)->
   ∃r,q0i q4e (⟨nb,t⟩,⟨n,l⟩,(k:Int),())=some (Sum.inr (r,()))/\(r=true->t.length<=100/\l.length<=20/\∀x,x∈l->x.1.length<=20):=by
  intro k h hj hk;refine⟨leI (lenI t) 100&&leI (lenI l) 20,q09 ?_,fun e=>?_⟩
  ·unfold q4e;simp only;rw[h,q00,q01];cases leI (lenI t) 100<;>rfl
  ·rw[zd] at e;have h1:((t.length:Nat):Int)<=100:=zK e.1;have h2:((l.length:Nat):Int)<=20:=zK e.2;refine⟨by omega,by omega,fun x hx=>?_⟩;obtain⟨j,he,rfl⟩:=jc.1 hx;exact hj j he (by have:=hk (by omega);omega)
 intro m
 induction m with
 |zero=>intro k hk hl hj;have e:ltI (k:Int) 21=false:=zu (by omega);exact fin k (by rw[e];cases ltI (k:Int) (lenI l)<;>rfl) hj (fun h=>by omega)
 |succ m ih=>
  intro k hk hl hj;have e:ltI (k:Int) 21=true:=zw (by omega);by_cases hg:k<l.length
  ·have hc:ltI (k:Int) (lenI l)=true:=zw (show(k:Int)<((l.length:Nat):Int) by omega);have step:q4e (⟨nb,t⟩,⟨n,l⟩,(k:Int),())=if 20<l[k].1.length then some (.inr (.inr (false,()))) else some (.inl (⟨nb,t⟩,⟨n,l⟩,((k+1:Nat):Int),())):=by
    unfold q4e;simp only;rw[hc,q04,e,q00,q04,q0g (zj hg),q00,q0h,add1 (by omega)];by_cases h:20<l[k].1.length
    ·rw[if_pos h,if_pos (show(20:Int)<lenI l[k].1 by show(20:Int)<((l[k].1.length:Nat):Int);omega)]
    ·rw[if_neg h,if_neg (show ¬(20:Int)<lenI l[k].1 by show ¬(20:Int)<((l[k].1.length:Nat):Int);omega)]
   by_cases h:20<l[k].1.length
   ·rw[if_pos h] at step;exact⟨false,q09 step,fun h=>by cases h⟩
   ·rw[if_neg h] at step;rw[q0d step];refine ih (k+1) (by omega) (by omega) fun j he hm=>?_;by_cases hf:j=k
    ·subst hf;omega
    ·exact hj j he (by omega)
  ·have hc:ltI (k:Int) (lenI l)=false:=zu (show ¬(k:Int)<((l.length:Nat):Int) by omega);exact fin k (by rw[hc];rfl) hj (fun _=>by omega)
theorem qx0(nb n:Bool)(t:List ND)(l:List Fix1):∀(m k:Nat),k+m=101->k<=t.length->(∀j (h:j<t.length),j<k->t[j].2.1.length<=60)->∃r,q0i q4f (⟨nb,t⟩,⟨n,l⟩,(k:Int),())=some (r,())/\(r=true->t.length<=100/\TL 60 t/\l.length<=20/\∀x,x∈l->x.1.length<=20):=by
 have fin:∀k:Nat,cnd (ltI (k:Int) (lenI t)) (some (ltI (k:Int) 101)) (some false)=some false->(∀j (h:j<t.length),j<k->t[j].2.1.length<=60)->(t.length<=100->t.length<=k)->
   ∃r,q0i q4f (⟨nb,t⟩,⟨n,l⟩,(k:Int),())=some (r,())/\(r=true->t.length<=100/\TL 60 t/\l.length<=20/\∀x,x∈l->x.1.length<=20):=by
  intro k h hj hk;obtain⟨r,e1,e2⟩:=qwz nb n t l 21 0 rfl (Nat.zero_le _) fun j _ h=>absurd h (by omega);refine⟨r,q09 ?_,fun e=>?_⟩
  ·unfold q4f;simp only;rw[h,q00,q01];exact e1
  ·obtain⟨h1,h2,h3⟩:=e2 e;refine⟨h1,fun x hx=>?_,h2,h3⟩;obtain⟨j,he,rfl⟩:=jc.1 hx;exact hj j he (by have:=hk h1;omega)
 intro m
 induction m with
 |zero=>intro k hk hl hj;have e:ltI (k:Int) 101=false:=zu (by omega);exact fin k (by rw[e];cases ltI (k:Int) (lenI t)<;>rfl) hj (fun h=>by omega)
 |succ m ih=>
  intro k hk hl hj;have e:ltI (k:Int) 101=true:=zw (by omega);by_cases hg:k<t.length
  ·have hc:ltI (k:Int) (lenI t)=true:=zw (show(k:Int)<((t.length:Nat):Int) by omega);have step:q4f (⟨nb,t⟩,⟨n,l⟩,(k:Int),())=if 60<t[k].2.1.length then some (.inr (false,())) else some (.inl (⟨nb,t⟩,⟨n,l⟩,((k+1:Nat):Int),())):=by
    unfold q4f;simp only;rw[hc,q04,e,q00,q04,q0g (zj hg),q00,q0h,add1 (by omega)];by_cases h:60<t[k].2.1.length
    ·rw[if_pos h,if_pos (show(60:Int)<lenI t[k].2.1 by show(60:Int)<((t[k].2.1.length:Nat):Int);omega)]
    ·rw[if_neg h,if_neg (show ¬(60:Int)<lenI t[k].2.1 by show ¬(60:Int)<((t[k].2.1.length:Nat):Int);omega)]
   by_cases h:60<t[k].2.1.length
   ·rw[if_pos h] at step;exact⟨false,q09 step,fun h=>by cases h⟩
   ·rw[if_neg h] at step;rw[q0d step];refine ih (k+1) (by omega) (by omega) fun j he hm=>?_;by_cases hf:j=k
    ·subst hf;omega
    ·exact hj j he (by omega)
  ·have hc:ltI (k:Int) (lenI t)=false:=zu (show ¬(k:Int)<((t.length:Nat):Int) by omega);exact fin k (by rw[hc];rfl) hj (fun _=>by omega)
theorem z02(nb n:Bool)(t:List ND)(l:List Fix1):∃r,q57 (⟨nb,t⟩,⟨n,l⟩,())=some (r,())/\(r=true->t.length<=100/\TL 60 t/\l.length<=20/\∀x,x∈l->x.1.length<=20):=by rw[qns];exact qx0 nb n t l 101 0 rfl (Nat.zero_le _) fun j _ h=>absurd h (by omega)
theorem z03(n:Bool)(l:List ND)(h:l.length<=100):q2g (⟨n,l⟩,())=some (⟨false,l⟩,()):=by rw[qnt,qfx (by show((0:Nat):Int)+((l.length:Nat):Int)<=_;omega),q00];rfl
theorem qsq(n:Bool)(l:List Fix1)(h:l.length<=20):q1i (⟨n,l⟩,())=some (⟨false,l⟩,()):=by rw[qjj,qfx (by show((0:Nat):Int)+((l.length:Nat):Int)<=_;omega),q00];rfl
theorem qsr(nb n:Bool)(t:List ND)(l:List Fix1)(X Y:Option (Bool×Unit)):∃r:Bool,(r=true->t.length<=100/\TL 60 t/\l.length<=20/\∀x,x∈l->x.1.length<=20)/\bnd (q1q ()) (fun x0=>bnd (cnd (notB x0.1) (some true) (bnd (q57 (⟨nb,t⟩,⟨n,l⟩,())) (fun x1=>some (notB x1.1)))) (fun x2=>cnd x2 X Y))=if r=true then Y else X:=by
 obtain⟨r,h1,h2⟩:=z02 nb n t l;rw[qpx,q00];simp only;rw[show notB true=false from rfl,q01,h1];simp only[q00];cases r with
 |true=>exact⟨true,fun _=>h2 rfl,rfl⟩
 |false=>exact⟨false,(fun h=>by cases h),rfl⟩
theorem z5w{l:List Fix1}(hg:∀x,x∈l->gF x)(h1:l.length<=20)(h2:∀x,x∈l->x.1.length<=20):gL l:=⟨hg,fun x hx=>by have:=h2 x hx;omega,by omega⟩
theorem z3g:bnd (q1q ()) (fun x4=>some (x4.1,()))=some (true,()):=by rw[qpx];rfl
theorem z04{k:Int}{s:Tx}{n:Int}{ks:F}{pat:Bool}(h:chkT k s n ks pat=0):errT k s n ks pat=0:=by
 unfold chkT at h;cases h1:ltI 100 ((ks.dep+1:Nat):Int) with
 |true=>rw[h1] at h;cases h
 |false=>
  rw[h1] at h;by_cases h2:errT k s n ks pat=0
  ·exact h2
  ·rw[q1j h2] at h;exact absurd h h2
theorem qss(b b2 n n2:Bool)(t:List ND)(fx:List Fix1)(ht:t.length<=100)(hg:GL t)(hf:gL fx):∃c,f_cb (⟨b,t⟩,⟨n,fx⟩,())=some (c,())/\((c≠0/\f_cc (⟨b2,t⟩,⟨n2,fx⟩,())=some (⟨true,[]⟩,c,()))\/(c=0/\∃k s m ks,t=(tr k s m ks).flat/\errT k s m ks false=0/\f_dj (⟨b2,t⟩,())=some (0,())/\f_a0 (⟨n2,fx⟩,())=some (0,())/\chkT k s m ks false=0/\q8b fx=0)):=by
 have hs:∃c,f_c1 (⟨b,t⟩,false,())=some (c,())/\f_dn (⟨b2,t⟩,false,())=some (c,())/\(c=0->∃k s m ks,t=(tr k s m ks).flat/\chkT k s m ks false=0):=by
  rcases z2z t with h|⟨k,s,m,ks,h⟩
  ·exact⟨60,qo1 b t (by omega) false h,qs8 b2 t (by omega) false h,fun e=>by cases e⟩
  ·subst h;have hl:ks.size+1<=4000:=by have:(tr k s m ks).flat.length=ks.size+1:=(tr k s m ks).len;omega
   exact⟨chkT k s m ks false,qo0 b k s m ks false hl hg,qs7 b2 k s m ks false hl hg,fun e=>⟨k,s,m,ks,rfl,e⟩⟩
 obtain⟨c,h1,h2,h3⟩:=hs;by_cases hc:c=0
 ·subst hc;obtain⟨k,s,m,ks,e,h⟩:=h3 rfl;have he:f_dj (⟨b2,t⟩,())=some (0,()):=by rw[u_dj,h2];rfl
  refine⟨q8b fx,?_,?_⟩
  ·rw[u_cb,h1,q00];show cnd false _ _=_;rw[q01,qo4 n hf];rfl
  ·by_cases hc:q8b fx=0
   ·exact .inr ⟨hc,k,s,m,ks,e,z04 h,he,by rw[qd7 n2 hf,hc],h,hc⟩
   ·refine .inl ⟨hc,?_⟩;rw[u_cc,he,q00];show cnd false _ _=_;rw[q01,qd7 n2 hf,q00];simp only;rw[q1j hc];rfl
 ·refine⟨c,?_,.inl ⟨hc,?_⟩⟩
  ·rw[u_cb,h1,q00];simp only;rw[q1j hc];rfl
  ·rw[u_cc,u_dj,h2,q00,q00];simp only;rw[q1j hc];rfl
theorem z3h{s:List Int}(h:good .str s):∀b,b∈s->0<=b/\b<=255:=fun b hb=>by have:=h.2 b hb;omega
theorem good_gF{x:Fix1}(h:good (.st (.pair .str (.pair (.int .i64) (.int .i64)))) x):gF x:=by obtain⟨⟨h2,h3⟩,h1,h4⟩:=h;exact⟨fun b hb=>by have:=h3 b hb;omega,h2,inK_i64.1 h1,inK_i64.1 h4⟩
theorem good_nd{x:ND}(h:good (.st (.pair (.int .i64) (.pair .str (.pair (.int .i64) (.int .i64))))) x):qq2 x\/1000000<x.2.1.length:=by
 obtain⟨_,h2,h3,_⟩:=h;by_cases hl:x.2.1.length<=1000000
 ·exact .inl ⟨z3h h2,hl,inK_i64.1 h3⟩
 ·exact .inr (by omega)
def q0v:F->Tx
 |.nil=>[]
 |.cons k t _ ks r=>(if k=41 then t else if k=42 then [32] else q0v ks)++q0v r
def colN:Nat->Tx->Nat
 |c,[]=>c
 |c,b::s=>colN (if b=10 then 0 else c+1) s
theorem qqi:∀(a:Tx) (c:Nat) (b:Tx),colN c (a++b)=colN (colN c a) b
 |[],_,_=>rfl
 |x::a,c,b=>qqi a (if x=10 then 0 else c+1) b
theorem qx1:∀(s:Tx) (c:Nat),colN c s<=c+s.length
 |[],_=>Nat.le_refl _
 |x::s,c=>by
  have:=qx1 s (if x=10 then 0 else c+1);show colN (if x=10 then 0 else c+1) s<=c+(s.length+1);split at this
  ·rename_i h;rw[if_pos h];omega
  ·rename_i h;rw[if_neg h];omega
theorem qgl:∀(s:Tx) (c:Nat),(∀b,b∈s->b≠10)->colN c s=c+s.length
 |[],_,_=>rfl
 |x::s,c,h=>by show colN (if x=10 then 0 else c+1) s=c+(s.length+1);rw[if_neg (h x (ze ..)),qgl s (c+1) fun b hb=>h b (zg _ hb)];omega
def onL(W:Nat)(k:Int)(t:Tx)(n:Int)(kf:Bool->Nat->Nat->Tx)(z:Nat)(fl:Bool)(c i:Nat):Tx:=if k=41 then t else if k=42 then(bif fl then [32] else 10::List.replicate i 32) else if k=43 then kf fl c (i+n.toNat) else if k=44 then kf (fl||decide (c+z<=W)) c i else kf fl c i
def layT(W:Nat):F->Bool->Nat->Nat->Tx
 |.nil,_,_,_=>[]
 |.cons k t n ks r,fl,c,i=>onL W k t n (layT W ks) (q0v ks).length fl c i++layT W r fl (colN c (onL W k t n (layT W ks) (q0v ks).length fl c i)) i
def okN(k:Int)(t:Tx)(n:Int)(ks:F):Prop:=(k=41/\n=0/\ks=.nil/\∀c,c∈t->32<=c/\c<=126)\/(k=42/\t=[]/\n=0/\ks=.nil)\/(k=43/\t=[]/\n=2/\ks.cnt=1)\/(k=44/\t=[]/\n=0/\ks.cnt=1)\/(k=45/\t=[]/\n=0)
def RD:F->Prop
 |.nil=>True
 |.cons k t n ks r=>okN k t n ks/\RD ks/\RD r
def volT:F->Nat->Nat
 |.nil,_=>0
 |.cons _ t _ ks r,i=>t.length+1+i+volT ks (i+2)+volT r i
theorem qc5:∀(f:F) {i j:Nat},i<=j->volT f i<=volT f j
 |.nil,_,_,_=>Nat.le_refl _
 |.cons _ t _ ks r,i,j,h=>by have h1:=qc5 ks (i:=i+2) (j:=j+2) (by omega);have h2:=qc5 r h;show t.length+1+i+volT ks (i+2)+volT r i<=t.length+1+j+volT ks (j+2)+volT r j;omega
theorem qc6:∀(f:F) (i:Nat),(q0v f).length<=volT f i
 |.nil,_=>Nat.le_refl _
 |.cons k t n ks r,i=>by
  have h1:=qc6 ks (i+2);have h2:=qc6 r i;show((if k=41 then t else if k=42 then [32] else q0v ks)++q0v r).length<=t.length+1+i+volT ks (i+2)+volT r i;rw[zh];split
  ·omega
  split
  ·show 1+_<=_;omega
  ·omega
theorem qee(W:Nat):∀(f:F) (fl:Bool) (c i:Nat),RD f->(layT W f fl c i).length<=volT f i
 |.nil,_,_,_,_=>Nat.le_refl _
 |.cons k t n ks r,fl,c,i,⟨hk,hc,hr⟩=>by
  have h2:=qee W r fl (colN c (onL W k t n (layT W ks) (q0v ks).length fl c i)) i hr;have h1:∀fl' j,j<=i+2->(layT W ks fl' c j).length<=volT ks (i+2):=fun fl' j hj=>Nat.le_trans (qee W ks fl' c j hc) (qc5 ks hj);have h3:(onL W k t n (layT W ks) (q0v ks).length fl c i).length<=t.length+1+i+volT ks (i+2):=by
   unfold onL;split
   ·omega
   split
   ·cases fl with
    |true=>show 1<=_;omega
    |false=>show(List.replicate i (32:Int)).length+1<=_;rw[List.length_replicate];omega
   split
   ·rename_i he hf hg;rcases hk with h|h|h|h|h
    ·exact absurd h.1 he
    ·exact absurd h.1 hf
    ·have:=h1 fl (i+n.toNat) (by rw[h.2.2.1];exact Nat.le_refl _);omega
    ·omega
    ·omega
   split
   ·have:=h1 (fl||decide (c+(q0v ks).length<=W)) i (by omega);omega
   ·have:=h1 fl i (by omega);omega
  show(onL W k t n (layT W ks) (q0v ks).length fl c i++layT W r fl (colN c (onL W k t n (layT W ks) (q0v ks).length fl c i)) i).length<=t.length+1+i+volT ks (i+2)+volT r i;rw[zh];omega
theorem q9h(W:Nat):∀(f:F) (c i:Nat),layT W f true c i=q0v f
 |.nil,_,_=>rfl
 |.cons k t n ks r,c,i=>by
  show onL W k t n (layT W ks) (q0v ks).length true c i++layT W r true (colN c (onL W k t n (layT W ks) (q0v ks).length true c i)) i=(if k=41 then t else if k=42 then [32] else q0v ks)++q0v r;rw[q9h W r];refine congrArg (· ++q0v r) ?_;unfold onL;split
  ·rfl
  split
  ·rfl
  split
  ·exact q9h W ks c _
  split
  ·rw[Bool.true_or];exact q9h W ks c _
  ·exact q9h W ks c _
theorem qjw{s:Tx}(b:Bool){c m:Nat}(W:Int)(nn:Bool)(out:Tx)(hc:c+s.length<2 ^ 53)(hm:m<2 ^ 53)(ho:out.length+s.length<=2147483648):f_ak (s,b,(ofI (c:Int),ofI (m:Int)),W,⟨nn,out⟩,())=some (true,(ofI ((c+s.length:Nat):Int),ofI (m:Int)),W,⟨andB nn (isE s),out++s⟩,()):=by
 have h0:addF (ofI (m:Int)) 0=some (ofI (m:Int)):=by have:=qea (n:=m) (m:=0) (by omega);rw[Nat.add_zero] at this;rw[<-this];exact congrArg (addF (ofI (m:Int))) ofI_zero.symm
 have h1:addF (ofI (c:Int)) (ofI (lenI s))=some (ofI ((c+s.length:Nat):Int)):=qea hc;have he:f_d9 (b,(ofI (c:Int),ofI (m:Int)),W,⟨nn,out⟩,())=some (true,(ofI (c:Int),ofI (m:Int)),W,⟨nn,out⟩,()):=rfl;rw[u_ak,u_d7,he];simp only[q00];rw[qfx (by show((out.length:Nat):Int)+((s.length:Nat):Int)<=_;omega)];simp only[q00];rw[h1,h0];simp only[q00];rw[qq5]
theorem qqj(nn:Bool)(a b:Tx):andB (andB nn (isE a)) (isE b)=andB nn (isE (a++b)):=by cases nn<;>cases a<;>rfl
def nlN:Tx->Nat
 |[]=>0
 |b::s=>(if b=10 then 1 else 0)+nlN s
theorem qx2:∀a b:Tx,nlN (a++b)=nlN a+nlN b
 |[],b=>(zE _).symm
 |x::a,b=>by show(if x=10 then 1 else 0)+nlN (a++b)=(if x=10 then 1 else 0)+nlN a+nlN b;rw[qx2 a b,Nat.add_assoc]
theorem z15:∀s:Tx,nlN s<=s.length
 |[]=>Nat.le_refl _
 |x::s=>by have:=z15 s;show(if x=10 then 1 else 0)+nlN s<=s.length+1;split<;>omega
theorem qjx:∀s:Tx,(∀b,b∈s->b≠10)->nlN s=0
 |[],_=>rfl
 |x::s,h=>by show(if x=10 then 1 else 0)+nlN s=0;rw[if_neg (h x (ze ..)),qjx s fun b hb=>h b (zg _ hb)]
def wrF:F->Bool
 |.nil=>false
 |.cons k _ _ ks r=>((decide (k=41)||decide (k=42))||wrF ks)||wrF r
def wrT(k:Int)(ks:F):Bool:=(decide (k=41)||decide (k=42))||wrF ks
theorem qx3(b:Bool){c m i:Nat}(W:Int)(nn:Bool)(out:Tx)(hi:i<=1000000)(hm:m+1<2 ^ 53)(ho:out.length+(i+1)<=2147483648):f_ah ((i:Int),b,(ofI (c:Int),ofI (m:Int)),W,⟨nn,out⟩,())=some (true,(ofI (i:Int),ofI ((m+1:Nat):Int)),W,⟨andB nn (isE (10::List.replicate i 32)),out++10::List.replicate i 32⟩,()):=by
 have h1:addF (ofI (m:Int)) 4607182418800017408=some (ofI ((m+1:Nat):Int)):=by have:=qea (n:=m) (m:=1) hm;rw[<-this];exact congrArg (addF (ofI (m:Int))) (by decide)
 have he:f_d9 (b,(ofI (c:Int),ofI (m:Int)),W,⟨nn,out⟩,())=some (true,(ofI (c:Int),ofI (m:Int)),W,⟨nn,out⟩,()):=rfl;have hf:f_dg ([32],(i:Int),())=some (List.replicate i 32,()):=by show(bif (([32]:List Int)==[32])&&(decide (0<=(i:Int))&&decide ((i:Int)<=1000000)) then some (List.replicate (i:Int).toNat (32:Int),()) else none)=_;rw[zw (show 0<=(i:Int) by omega),zw (show(i:Int)<=1000000 by omega),Int.toNat_natCast];rfl
 have hz:(0:Nat)=ofI ((0:Nat):Int):=ofI_zero.symm;have hc:=qjw (s:=List.replicate i 32) true (c:=0) (m:=m+1) W (andB nn (isE ([10]:Y2))) (out++[10]) (by rw[List.length_replicate];omega) hm (by rw[zh,List.length_replicate];show out.length+1+i<=_;omega);rw[<-hz,List.length_replicate,zE] at hc;rw[u_ah,u_d5,he];simp only[q00];rw[qfx (by show((out.length:Nat):Int)+((1:Nat):Int)<=_;omega)];simp only[q00];rw[h1];simp only[q00];rw[hf];simp only[q00];rw[qq5,hc];simp only[q00];rw[zt,qqj];rfl
theorem qx4(b:Bool){c m z W:Nat}(o:Sl Int)(hc:c+z<2 ^ 53)(hW:W<2 ^ 53):f_ai ((z:Int),b,(ofI (c:Int),ofI (m:Int)),(W:Int),o,())=some (decide (c+z<=W),b,(ofI (c:Int),ofI (m:Int)),(W:Int),o,()):=by rw[u_ai,qea hc,q00,z3b hc hW]
def szN(k:Int)(t:Tx):Nat:=t.length+if k=42 then 1 else 0
def szL(l:List ND):Nat:=(l.map fun x=>szN x.1 x.2.1).sum
theorem qjy(x:ND)(l:List ND):szL (x::l)=szN x.1 x.2.1+szL l:=by unfold szL;rw[zI,List.sum_cons]
theorem z3i(a b:List ND):szL (a++b)=szL a+szL b:=by unfold szL;rw[zU,List.sum_append]
theorem qef:∀f:F,RD f->szL f.flat=(q0v f).length
 |.nil,_=>rfl
 |.cons k t n ks r,⟨hk,hc,hr⟩=>by
  show szL ((k,t,n,(ks.cnt:Int))::(ks.flat++r.flat))=((if k=41 then t else if k=42 then [32] else q0v ks)++q0v r).length;rw[qjy,z3i,qef ks hc,qef r hr,zh];unfold szN;rcases hk with ⟨h,_,e,_⟩|⟨h,e,_,e2⟩|⟨h,e,_⟩|⟨h,e,_⟩|⟨h,e,_⟩
  ·subst h;subst e;show t.length+0+(0+_)=_;rw[if_pos rfl];omega
  ·subst h;subst e;subst e2;show 0+1+(0+_)=_;rw[if_neg (by decide),if_pos rfl];show _=1+_;omega
  ·subst h;subst e;show 0+(if(43:Int)=42 then 1 else 0)+_=_;rw[if_neg (by decide),if_neg (by decide),if_neg (by decide)];omega
  ·subst h;subst e;show 0+(if(44:Int)=42 then 1 else 0)+_=_;rw[if_neg (by decide),if_neg (by decide),if_neg (by decide)];omega
  ·subst h;subst e;show 0+(if(45:Int)=42 then 1 else 0)+_=_;rw[if_neg (by decide),if_neg (by decide),if_neg (by decide)];omega
theorem qx5(nb:Bool)(L:List ND)(hL:L.length<=1000000):∀(m k z:Nat),k+m=L.length->z+szL (L.drop k)<=1000000000000->q0i l1_an ((z:Int),⟨nb,L⟩,lenI L,(k:Int),())=some (((z+szL (L.drop k):Nat):Int),()):=by
 intro m
 induction m with
 |zero=>intro k z hk hz;refine q09 ?_;unfold l1_an;simp only;rw[show lenI L=((L.length:Nat):Int) from rfl,q0h,if_neg (by omega),zD (by omega)];rfl
 |succ m ih=>
  intro k z hk hz;have hf:k<L.length:=by omega
  have hd:=q17 hf;rw[hd,qjy] at hz;have he:lenI L[k].2.1=((L[k].2.1.length:Nat):Int):=rfl;have hc:szN L[k].1 L[k].2.1=L[k].2.1.length+if L[k].1=42 then 1 else 0:=rfl
  have step:l1_an ((z:Int),⟨nb,L⟩,lenI L,(k:Int),())=some (.inl (((z+szN L[k].1 L[k].2.1:Nat):Int),⟨nb,L⟩,lenI L,((k+1:Nat):Int),())):=by
   unfold l1_an;simp only;rw[show lenI L=((L.length:Nat):Int) from rfl,q0h,if_pos (by omega),q0g (zj hf),q00,q4d,he];have ha:addI .i64 (z:Int) (L[k].2.1.length:Int)=((z+L[k].2.1.length:Nat):Int):=by rw[q81 (by omega) (by omega)];omega
   have hb:addI .i64 ((z+L[k].2.1.length:Nat):Int) 1=((z+(L[k].2.1.length+1):Nat):Int):=by rw[q81 (by omega) (by omega)];omega
   by_cases h:L[k].1=42
   ·rw[if_pos h] at hc;rw[if_pos h,ha,hb,q00,hc];simp only;rw[add1 (by omega)]
   ·rw[if_neg h] at hc;rw[if_neg h,ha,q00,hc];simp only;rw[add1 (by omega)];rfl
  rw[q0d step,ih (k+1) _ (by omega) (by omega),hd,qjy];rw[Nat.add_assoc]
theorem qx6(nb:Bool)(f:F)(hf:RD f)(hs:f.size<=1000000)(hv:(q0v f).length<=1000000000000):f_an (⟨nb,f.flat⟩,())=some (((q0v f).length:Int),()):=by have h:=qx5 nb f.flat (by rw[f.len];exact hs) f.flat.length 0 0 (zE _) (by rw[List.drop_zero,qef f hf];omega);rw[List.drop_zero,qef f hf,zE] at h;rw[u_an];exact h
def volN(t:Tx)(ks:F)(i:Nat):Nat:=t.length+1+i+volT ks (i+2)
def z05(self:Yf16)(b:Bool)(l:List ND)(W:Nat)(N:Nat):Prop:=∀(q:Nat) (k:Int) (t:Tx) (n:Int) (ks r:F) (i c m:Nat) (fl bd nn:Bool) (out:Tx),Sits l q (.cons k t n ks r)->okN k t n ks->RD ks->ks.size<N->i+2*(ks.size+1)<=1000000->
 c+volN t ks i<=2 ^ 50->m+volN t ks i<=2 ^ 50->out.length+volN t ks i<=2147483648->
 self (⟨b,l⟩,(q:Int),(i:Int),fl,bd,(ofI (c:Int),ofI (m:Int)),(W:Int),⟨nn,out⟩,())=
  some (((q+1+ks.size:Nat):Int),bd||wrT k ks,(ofI ((colN c (onL W k t n (layT W ks) (q0v ks).length fl c i):Nat):Int),ofI ((m+nlN (onL W k t n (layT W ks) (q0v ks).length fl c i):Nat):Int)),(W:Int),⟨andB nn (isE (onL W k t n (layT W ks) (q0v ks).length fl c i)),out++onL W k t n (layT W ks) (q0v ks).length fl c i⟩,())
theorem z3j(W:Nat){k:Int}{t:Tx}{n:Int}{ks:F}(hk:okN k t n ks)(hc:RD ks)(fl:Bool)(c i:Nat):(onL W k t n (layT W ks) (q0v ks).length fl c i).length<=volN t ks i:=by have:=qee W (.cons k t n ks .nil) fl c i ⟨hk,hc,trivial⟩;have e:layT W (.cons k t n ks .nil) fl c i=onL W k t n (layT W ks) (q0v ks).length fl c i++[]:=rfl;rw[e,zo] at this;exact this
section
variable {self:Yf16} {b:Bool} {l:List ND} {W N:Nat}
theorem qqk(hl:l.length<=10000)(hp:z05 self b l W N)(q:Int)(k:Int)(t:Tx)(n c0:Int)(tot i:Nat)(fl:Bool)(hc:tot<=10000)(hf:i+2*N<=1000000):∀(g:F) (at_ j c m:Nat) (bd nn:Bool) (out:Tx),Sits l at_ g->RD g->g.size<=N->j+g.cnt=tot->c+volT g i<=2 ^ 50->m+volT g i<=2 ^ 50->out.length+volT g i<=2147483648->q0i (q0p self) ((i:Int),fl,(at_:Int),(tot:Int),(j:Int),q,k,t,n,c0,⟨b,l⟩,bd,(ofI (c:Int),ofI (m:Int)),(W:Int),⟨nn,out⟩,())=some (((at_+g.size:Nat):Int),q,k,t,n,c0,⟨b,l⟩,bd||wrF g,(ofI ((colN c (layT W g fl c i):Nat):Int),ofI ((m+nlN (layT W g fl c i):Nat):Int)),(W:Int),⟨andB nn (isE (layT W g fl c i)),out++layT W g fl c i⟩,())
 |.nil,at_,j,c,m,bd,nn,out,_,_,_,hj,_,_,_=>by have hj:j+0=tot:=hj;refine q09 ?_;unfold q0p;simp only;rw[q0h,if_neg (by omega)];have e:out++layT W .nil fl c i=out:=zo out;have e2:(bd||wrF .nil)=bd:=Bool.or_false _;have e3:andB nn (isE (layT W .nil fl c i))=nn:=Bool.and_true _;rw[e,e2,e3];rfl
 |.cons k1 t1 n1 ks1 r,at_,j,c,m,bd,nn,out,hs,⟨hk,he,hr⟩,hN,hj,h1,h2,h3=>by
  have hN:ks1.size+r.size+1<=N:=hN;have hj:j+(r.cnt+1)=tot:=hj;have h1:c+(volN t1 ks1 i+volT r i)<=2 ^ 50:=h1;have h2:m+(volN t1 ks1 i+volT r i)<=2 ^ 50:=h2;have h3:out.length+(volN t1 ks1 i+volT r i)<=2147483648:=h3;obtain⟨_,_,g3,_⟩:=hs.node;have hm:=z3j W hk he fl c i;have e:=hp at_ k1 t1 n1 ks1 r i c m fl bd nn out hs hk he (by omega) (by omega) (by omega) (by omega) (by omega);have hg:=qx1 (onL W k1 t1 n1 (layT W ks1) (q0v ks1).length fl c i) c;have hn:=z15 (onL W k1 t1 n1 (layT W ks1) (q0v ks1).length fl c i);have e2:=qqk hl hp q k t n c0 tot i fl hc hf r (at_+1+ks1.size) (j+1) (colN c (onL W k1 t1 n1 (layT W ks1) (q0v ks1).length fl c i)) (m+nlN (onL W k1 t1 n1 (layT W ks1) (q0v ks1).length fl c i)) (bd||wrT k1 ks1) (andB nn (isE (onL W k1 t1 n1 (layT W ks1) (q0v ks1).length fl c i))) (out++onL W k1 t1 n1 (layT W ks1) (q0v ks1).length fl c i) g3 hr (by omega) (by omega) (by omega) (by omega) (by rw[zh];omega);have step:q0p self ((i:Int),fl,(at_:Int),(tot:Int),(j:Int),q,k,t,n,c0,⟨b,l⟩,bd,(ofI (c:Int),ofI (m:Int)),(W:Int),⟨nn,out⟩,())=
    some (.inl ((i:Int),fl,((at_+1+ks1.size:Nat):Int),(tot:Int),((j+1:Nat):Int),q,k,t,n,c0,⟨b,l⟩,bd||wrT k1 ks1,(ofI ((colN c (onL W k1 t1 n1 (layT W ks1) (q0v ks1).length fl c i):Nat):Int),ofI ((m+nlN (onL W k1 t1 n1 (layT W ks1) (q0v ks1).length fl c i):Nat):Int)),(W:Int),⟨andB nn (isE (onL W k1 t1 n1 (layT W ks1) (q0v ks1).length fl c i)),out++onL W k1 t1 n1 (layT W ks1) (q0v ks1).length fl c i⟩,())):=by
   unfold q0p;simp only;rw[q0h,if_pos (by omega),e];simp only[q00];rw[add1 (by omega)]
  rw[q0d step,e2];have e3:layT W (.cons k1 t1 n1 ks1 r) fl c i=onL W k1 t1 n1 (layT W ks1) (q0v ks1).length fl c i++layT W r fl (colN c (onL W k1 t1 n1 (layT W ks1) (q0v ks1).length fl c i)) i:=rfl;have e4:(bd||wrF (.cons k1 t1 n1 ks1 r))=((bd||wrT k1 ks1)||wrF r):=(Bool.or_assoc bd (wrT k1 ks1) (wrF r)).symm;rw[e3,e4,qqi,qx2,qqj,zt,show(F.cons k1 t1 n1 ks1 r).size=ks1.size+r.size+1 from rfl,show at_+1+ks1.size+r.size=at_+(ks1.size+r.size+1) by omega,Nat.add_assoc m]
end
section
variable {self:Yf16} {b:Bool} {l:List ND} {W N:Nat}
theorem z3k(hl:l.length<=10000)(hW:W<=1000000)(hp:z05 self b l W N)(q:Nat)(k:Int)(t:Tx)(n:Int)(ks r:F)(i c m:Nat)(fl bd nn:Bool)(out:Tx)(hs:Sits l q (.cons k t n ks r))(hk:okN k t n ks)(hg:RD ks)(hN:ks.size<=N)(hi:i+2*(N+1)<=1000000)(h1:c+volN t ks i<=2 ^ 50)(h2:m+volN t ks i<=2 ^ 50)(h3:out.length+volN t ks i<=2147483648):g_aj self (⟨b,l⟩,(q:Int),(i:Int),fl,bd,(ofI (c:Int),ofI (m:Int)),(W:Int),⟨nn,out⟩,())=some (((q+1+ks.size:Nat):Int),bd||wrT k ks,(ofI ((colN c (onL W k t n (layT W ks) (q0v ks).length fl c i):Nat):Int),ofI ((m+nlN (onL W k t n (layT W ks) (q0v ks).length fl c i):Nat):Int)),(W:Int),⟨andB nn (isE (onL W k t n (layT W ks) (q0v ks).length fl c i)),out++onL W k t n (layT W ks) (q0v ks).length fl c i⟩,()):=by
 obtain⟨g1,g2,g3,g4⟩:=hs.node;have ho:=ks.cnt_le;have ht:volN t ks i=t.length+1+i+volT ks (i+2):=rfl;have hv:=qc5 ks (i:=i) (j:=i+2) (by omega);have kids:=fun(fl:Bool) (i':Nat) (hu:i'+2*N<=1000000)=>qqk hl hp (q:Int) k t n (ks.cnt:Int) ks.cnt i' fl (by omega) hu ks (q+1) 0;have hq:addI .i64 (q:Int) 1=((q+1:Nat):Int):=add1 (by omega);rw[u_aj,q0g g1,q00];simp only;rcases hk with ⟨rfl,e0,rfl,hc⟩|⟨rfl,rfl,e0,rfl⟩|⟨rfl,rfl,rfl,e0⟩|⟨rfl,rfl,e0,e1⟩|⟨rfl,rfl,e0⟩
 ·have e:onL W 41 t n (layT W .nil) (q0v .nil).length fl c i=t:=if_pos rfl;have he:colN c t=c+t.length:=qgl t c fun b hb e=>by have:=hc b hb;omega
  rw[e,he];rw[show eqI 41 41=true from rfl,q04,qjw bd W nn out (by omega) (by omega) (by omega)];simp only[q00];have e2:=kids fl i (by omega) (c+t.length) m true (andB nn (isE t)) (out++t) g2 trivial hN (zE _) (by show _+0<=_;omega) (by show _+0<=_;omega) (by rw[zh];show _+0<=_;omega);have e2:q0i (q0p self) ((i:Int),fl,((q+1:Nat):Int),((0:Nat):Int),0,(q:Int),41,t,n,((0:Nat):Int),⟨b,l⟩,true,(ofI ((c+t.length:Nat):Int),ofI (m:Int)),(W:Int),⟨andB nn (isE t),out++t⟩,())=_:=e2;have e4:((F.nil.cnt:Nat):Int)=((0:Nat):Int):=rfl;simp only[sumE];rw[q1c,hq,e4,e2];simp only[q00];have e3:out++t++layT W .nil fl (c+t.length) i=out++t:=zo _;have e6:(bd||wrT 41 .nil)=true:=Bool.or_true _;have e7:andB (andB nn (isE t)) (isE (layT W .nil fl (c+t.length) i))=andB nn (isE t):=Bool.and_true _;rw[e3,e6,e7,qjx t fun b hb e=>by have:=hc b hb;omega];rfl
 ·have e4:((F.nil.cnt:Nat):Int)=((0:Nat):Int):=rfl;have hw:volN [] F.nil i=0+1+i+0:=rfl;rw[show eqI 42 41=false from rfl,q01,show eqI 42 42=true from rfl,q04];cases fl with
  |true=>have e:onL W 42 [] n (layT W .nil) (q0v .nil).length true c i=[32]:=rfl;have he:colN c [32]=c+1:=rfl;rw[e,he,q04];have hj:=qjw (s:=[32]) bd (c:=c) (m:=m) W nn out (by show c+1<_;omega) (by omega) (by show _+1<=_;omega);rw[hj];simp only[q00];have e2:=kids true i (by omega) (c+1) m true (andB nn (isE [32])) (out++[32]) g2 trivial hN (zE _) (by show _+0<=_;omega) (by show _+0<=_;omega) (by rw[zh];show _+1+0<=_;omega);have e2:q0i (q0p self) ((i:Int),true,((q+1:Nat):Int),((0:Nat):Int),0,(q:Int),42,[],n,((0:Nat):Int),⟨b,l⟩,true,(ofI ((c+1:Nat):Int),ofI (m:Int)),(W:Int),⟨andB nn (isE [32]),out++[32]⟩,())=_:=e2;simp only[sumE,q00];rw[q1c,hq,e4];refine Eq.trans (congrArg (fun z=>bnd z _) e2) ?_;simp only[q00];have e3:out++[32]++layT W .nil true (c+1) i=out++[32]:=zo _;have e6:(bd||wrT 42 .nil)=true:=Bool.or_true _;have e7:andB (andB nn (isE [32])) (isE (layT W .nil true (c+1) i))=andB nn (isE [32]):=Bool.and_true _;rw[e3,e6,e7];rfl
  |false=>
   have e:onL W 42 [] n (layT W .nil) (q0v .nil).length false c i=10::List.replicate i 32:=rfl;have he:colN c (10::List.replicate i 32)=i:=by show colN 0 (List.replicate i 32)=i;rw[qgl _ _ (fun b hb e=>by rw[List.eq_of_mem_replicate hb] at e;cases e),List.length_replicate,zE]
   rw[e,he,q01];have hf:=qx3 bd (c:=c) (m:=m) (i:=i) W nn out (by omega) (by omega) (by omega);rw[hf];simp only[q00];have e2:=kids false i (by omega) i (m+1) true (andB nn (isE (10::List.replicate i 32))) (out++10::List.replicate i 32) g2 trivial hN (zE _) (by show _+0<=_;omega) (by show _+0<=_;omega) (by rw[zh,zm,List.length_replicate];show _+0<=_;omega);have e2:q0i (q0p self) ((i:Int),false,((q+1:Nat):Int),((0:Nat):Int),0,(q:Int),42,[],n,((0:Nat):Int),⟨b,l⟩,true,(ofI (i:Int),ofI ((m+1:Nat):Int)),(W:Int),⟨andB nn (isE (10::List.replicate i 32)),out++10::List.replicate i 32⟩,())=_:=e2;simp only[sumE,q00];rw[q1c,hq,e4,e2];simp only[q00];have e3:(out++10::List.replicate i 32)++layT W .nil false i i=out++10::List.replicate i 32:=zo _;have e6:(bd||wrT 42 .nil)=true:=Bool.or_true _;have e7:andB (andB nn (isE (10::List.replicate i 32))) (isE (layT W .nil false i i))=andB nn (isE (10::List.replicate i 32)):=Bool.and_true _;have e8:nlN (10::List.replicate i 32)=1:=by show 1+nlN (List.replicate i 32)=1;rw[qjx _ fun b hb e=>by rw[List.eq_of_mem_replicate hb] at e;cases e]
   rw[e3,e6,e7,e8];rfl
 ·have e:onL W 43 [] 2 (layT W ks) (q0v ks).length fl c i=layT W ks fl c (i+2):=rfl;rw[e];have e2:=kids fl (i+2) (by omega) c m bd nn out g2 hg hN (zE _) (by omega) (by omega) (by omega);have e2:q0i (q0p self) (((i+2:Nat):Int),fl,((q+1:Nat):Int),(ks.cnt:Int),0,(q:Int),43,[],2,(ks.cnt:Int),⟨b,l⟩,bd,(ofI (c:Int),ofI (m:Int)),(W:Int),⟨nn,out⟩,())=_:=e2;rw[show eqI 43 41=false from rfl,q01,show eqI 43 42=false from rfl,q01,show eqI 43 43=true from rfl,q04];rw[q1c,hq,show addI .i64 (i:Int) 2=((i+2:Nat):Int) from by rw[q81 (by omega) (by omega)];omega,e2];simp only[q00,sumE];rfl
 ·have e:onL W 44 [] n (layT W ks) (q0v ks).length fl c i=layT W ks (fl||decide (c+(q0v ks).length<=W)) c i:=rfl;have hx:=qc6 ks (i+2);rw[e,show eqI 44 41=false from rfl,q01,show eqI 44 42=false from rfl,q01,show eqI 44 43=false from rfl,q01,show eqI 44 44=true from rfl,q04];have e2:=kids (fl||decide (c+(q0v ks).length<=W)) i (by omega) c m bd nn out g2 hg hN (zE _) (by omega) (by omega) (by omega);cases fl with
  |true=>have e2:q0i (q0p self) ((i:Int),true,((q+1:Nat):Int),(ks.cnt:Int),0,(q:Int),44,[],n,(ks.cnt:Int),⟨b,l⟩,bd,(ofI (c:Int),ofI (m:Int)),(W:Int),⟨nn,out⟩,())=_:=e2;rw[q04,q1c,hq,e2];simp only[q00,sumE,Bool.true_or];rfl
  |false=>
   rw[Bool.false_or] at e2;rw[Bool.false_or];have e2:q0i (q0p self) ((i:Int),decide (c+(q0v ks).length<=W),((q+1:Nat):Int),(ks.cnt:Int),0,(q:Int),44,[],n,(ks.cnt:Int),⟨b,l⟩,bd,(ofI (c:Int),ofI (m:Int)),(W:Int),⟨nn,out⟩,())=_:=e2;have hc:cutL l (q:Int) ((q+1+ks.size:Nat):Int)=some ((l.take (q+1+ks.size)).drop q):=by unfold cutL;rw[if_pos (by omega),Int.toNat_natCast,Int.toNat_natCast]
   have hd:(l.take (q+1+ks.size)).drop q=(tr 44 [] n ks).flat:=by rw[List.drop_take,show q+1+ks.size-q=(tr 44 [] n ks).size by rw[q49];omega];exact hs.first.flat_eq
   have hm:q0v (tr 44 [] n ks)=q0v ks:=by show(if(44:Int)=41 then [] else if(44:Int)=42 then [32] else q0v ks)++[]=_;rw[if_neg (by decide),if_neg (by decide),zo]
   have hn:=qx6 b (tr 44 [] n ks) ⟨.inr (.inr (.inr (.inl ⟨rfl,rfl,e0,e1⟩))),hg,trivial⟩ (by rw[q49];omega) (by rw[hm];omega);rw[hm] at hn;rw[q01,q9b b l hl,hs.ends];simp only[q00];rw[hc];simp only[q00];rw[hd,hn];simp only[q00];rw[qx4 bd ⟨nn,out⟩ (by omega) (by omega)];simp only[q00];rw[q1c,hq,e2];simp only[q00,sumE];rfl
 ·have e:onL W 45 [] n (layT W ks) (q0v ks).length fl c i=layT W ks fl c i:=rfl;rw[e];have e2:=kids fl i (by omega) c m bd nn out g2 hg hN (zE _) (by omega) (by omega) (by omega);have e2:q0i (q0p self) ((i:Int),fl,((q+1:Nat):Int),(ks.cnt:Int),0,(q:Int),45,[],n,(ks.cnt:Int),⟨b,l⟩,bd,(ofI (c:Int),ofI (m:Int)),(W:Int),⟨nn,out⟩,())=_:=e2;rw[show eqI 45 41=false from rfl,q01,show eqI 45 42=false from rfl,q01,show eqI 45 43=false from rfl,q01,show eqI 45 44=false from rfl,q01];simp only[sumE,q00];rw[q1c,hq,e2];simp only[q00];rfl
theorem qx7(hl:l.length<=10000)(hW:W<=1000000):∀N:Nat,z05 (recN g_aj N) b l W N
 |0=>fun _ _ _ _ _ _ _ _ _ _ _ _ _ _ _ _ h=>absurd h (Nat.not_lt_zero _)
 |N+1=>by have ih:=qx7 hl hW N;intro q k t n ks r i c m fl bd nn out hs hk hc hN hi h1 h2 h3;have he:z05 (recN g_aj N) b l W ks.size:=fun q' k' t' n' ks' r' i' c' m' fl' bd' nn' out' a1 a2 a3 a4=>ih q' k' t' n' ks' r' i' c' m' fl' bd' nn' out' a1 a2 a3 (by omega);exact z3k hl hW he q k t n ks r i c m fl bd nn out hs hk hc (Nat.le_refl _) hi h1 h2 h3
theorem qql(hl:l.length<=10000)(hW:W<=1000000){q:Nat}{k:Int}{t:Tx}{n:Int}{ks r:F}(i c m:Nat)(fl bd nn:Bool)(out:Tx)(hs:Sits l q (.cons k t n ks r))(hk:okN k t n ks)(hc:RD ks)(hi:i+2*(ks.size+1)<=1000000)(h1:c+volN t ks i<=2 ^ 50)(h2:m+volN t ks i<=2 ^ 50)(h3:out.length+volN t ks i<=2147483648):f_aj (⟨b,l⟩,(q:Int),(i:Int),fl,bd,(ofI (c:Int),ofI (m:Int)),(W:Int),⟨nn,out⟩,())=some (((q+1+ks.size:Nat):Int),bd||wrT k ks,(ofI ((colN c (onL W k t n (layT W ks) (q0v ks).length fl c i):Nat):Int),ofI ((m+nlN (onL W k t n (layT W ks) (q0v ks).length fl c i):Nat):Int)),(W:Int),⟨andB nn (isE (onL W k t n (layT W ks) (q0v ks).length fl c i)),out++onL W k t n (layT W ks) (q0v ks).length fl c i⟩,()):=by exact q6x (ks.size+1) fun N hN=>qx7 hl hW N q k t n ks r i c m fl bd nn out hs hk hc hN hi h1 h2 h3
end
def okX(x:ND):Prop:=(x.1=41/\x.2.2.1=0/\x.2.2.2=0/\∀c,c∈x.2.1->32<=c/\c<=126)\/(x.1=42/\x.2.1=[]/\x.2.2.1=0/\x.2.2.2=0)\/(x.1=43/\x.2.1=[]/\x.2.2.1=2/\x.2.2.2=1)\/(x.1=44/\x.2.1=[]/\x.2.2.1=0/\x.2.2.2=1)\/(x.1=45/\x.2.1=[]/\x.2.2.1=0)
theorem RD.ok:∀{f:F},RD f->∀x,x∈f.flat->okX x
 |.nil,_,_,h=>by cases h
 |.cons k t n ks r,⟨hk,hc,hr⟩,x,hx=>by
  have hx:x∈(k,t,n,(ks.cnt:Int))::(ks.flat++r.flat):=hx;rcases zn.1 hx with rfl|hx
  ·rcases hk with ⟨h,a,e,c⟩|⟨h,a,c,e⟩|⟨h,a,c,e⟩|⟨h,a,c,e⟩|⟨h,a,c⟩
   ·subst e;exact .inl ⟨h,a,rfl,c⟩
   ·subst e;exact .inr (.inl ⟨h,a,c,rfl⟩)
   ·exact .inr (.inr (.inl ⟨h,a,c,congrArg Int.ofNat e⟩))
   ·exact .inr (.inr (.inr (.inl ⟨h,a,c,congrArg Int.ofNat e⟩)))
   ·exact .inr (.inr (.inr (.inr ⟨h,a,c⟩)))
  ·exact(zO.1 hx).elim (hc.ok x) (hr.ok x)
theorem qob{t:Tx}(ht:∀c,c∈t->32<=c/\c<=126)(_hl:t.length<=1000000):∀(m k:Nat),k+m=t.length->q0i l1_di (true,t,(k:Int),())=some (-1,()):=by
 intro m
 induction m with
 |zero=>intro k hk;refine q09 ?_;unfold l1_di;simp only;rw[show lenI t=((t.length:Nat):Int) from rfl,q0h,if_neg (by omega)]
 |succ m ih=>
  intro k hk;have he:k<t.length:=by omega
  have hc:=ht t[k] (List.getElem_mem he);obtain⟨h1,h2⟩:=(qnu (fun b hb=>by have:=ht b hb;omega) he).1 (by omega);have step:l1_di (true,t,(k:Int),())=some (.inl (true,t,((k+1:Nat):Int),())):=by unfold l1_di;simp only;have e:ltI (k:Int) (lenI t)=true:=zw (show(k:Int)<((t.length:Nat):Int) by omega);rw[e,q04,q04,q00,q04,q00,h1,h2,u_am,q0h,if_neg (by omega),q00,q00,show ltI 126 t[k]=false from zu (by omega)];rfl
  rw[q0d step];exact ih (k+1) (by omega)
theorem qgm{t:Tx}(ht:∀c,c∈t->32<=c/\c<=126)(hl:t.length<=1000000):f_da (t,())=some (false,()):=by have h:q0i l1_di (true,t,0,())=some (-1,()):=qob ht hl t.length 0 (zE _);rw[u_da,u_df,u_di,h];rfl
theorem qoc{x:ND}(h:okX x)(hl:x.2.1.length<=1000000):f_al (x,())=some (true,()):=by
 obtain⟨k,t,n,c⟩:=x;have hl:t.length<=1000000:=hl;rw[u_al];have hc:f_da ([],())=some (false,()):=qgm (fun _ h=>by cases h) (by decide);rcases h with ⟨h1,h2,h3,h4⟩|⟨h1,h2,h3,h4⟩|⟨h1,h2,h3,h4⟩|⟨h1,h2,h3,h4⟩|⟨h1,h2,h3⟩
 ·have h1:k=41:=h1;have h2:n=0:=h2;have h3:c=0:=h3;subst h1;subst h2;subst h3;have e:=qgm h4 hl;rw[show eqI 41 41=true from rfl,q04];simp only[q00,sumE];rw[e];rfl
 ·have h1:k=42:=h1;have h2:t=[]:=h2;have h3:n=0:=h3;have h4:c=0:=h4;subst h1;subst h2;subst h3;subst h4;rw[show eqI 42 41=false from rfl,q01,show eqI 42 42=true from rfl,q04];simp only[q00,sumE];rw[hc];rfl
 ·have h1:k=43:=h1;have h2:t=[]:=h2;have h3:n=2:=h3;have h4:c=1:=h4;subst h1;subst h2;subst h3;subst h4;rw[show eqI 43 41=false from rfl,q01,show eqI 43 42=false from rfl,q01,show eqI 43 43=true from rfl,q04,show leI 0 2=true from rfl,q04];simp only[q00,sumE];rw[hc];rfl
 ·have h1:k=44:=h1;have h2:t=[]:=h2;have h3:n=0:=h3;have h4:c=1:=h4;subst h1;subst h2;subst h3;subst h4;rw[show eqI 44 41=false from rfl,q01,show eqI 44 42=false from rfl,q01,show eqI 44 43=false from rfl,q01,show eqI 44 44=true from rfl,q04];simp only[q00,sumE];rw[hc];rfl
 ·have h1:k=45:=h1;have h2:t=[]:=h2;have h3:n=0:=h3;subst h1;subst h2;subst h3;rw[show eqI 45 41=false from rfl,q01,show eqI 45 42=false from rfl,q01,show eqI 45 43=false from rfl,q01,show eqI 45 44=false from rfl,q01,show eqI 45 45=true from rfl,q04];simp only[q00,sumE];rw[hc];simp only[q00];rw[qyy];rfl
theorem qgn(b:Bool){k:Int}{t:Tx}{n:Int}{ks:F}(hr:RD (tr k t n ks))(hs:ks.size+1<=4000)(ht:TL 1000000 (tr k t n ks).flat):f_aa (⟨b,(tr k t n ks).flat⟩,())=some (0,()):=by
 have he:(tr k t n ks).flat.length=ks.size+1:=(tr k t n ks).len;have loop:∀(m j:Nat),j+m=(tr k t n ks).flat.length->q0i l1_aa (⟨b,(tr k t n ks).flat⟩,lenI (tr k t n ks).flat,(j:Int),())=some (0,()):=by
  generalize hL:(tr k t n ks).flat=L at*
  intro m
  induction m with
  |zero=>intro j hj;refine q09 ?_;unfold l1_aa;simp only;rw[show lenI L=((L.length:Nat):Int) from rfl,q0h,if_neg (by omega)]
  |succ m ih=>
   intro j hj;have hc:j<L.length:=by omega
   have hm:L[j]∈L:=List.getElem_mem hc;have e:=qoc (x:=L[j]) (hr.ok _ (by rw[hL];exact hm)) (ht _ hm);have step:l1_aa (⟨b,L⟩,lenI L,(j:Int),())=some (.inl (⟨b,L⟩,lenI L,((j+1:Nat):Int),())):=by unfold l1_aa;simp only;rw[show lenI L=((L.length:Nat):Int) from rfl,q0h,if_pos (by omega),q0g (zj hc),q00];have e:f_al ((L[j].1,L[j].2.1,L[j].2.2.1,L[j].2.2.2),())=some (true,()):=e;rw[e,q00];show cnd false _ _=_;rw[q01,add1 (by omega)]
   rw[q0d step];exact ih (j+1) (by omega)
 rw[u_aa,q9c b _ (by omega),(q7g _).2 ⟨k,t,n,ks,rfl⟩];have c0:ltI 4000 (lenI (tr k t n ks).flat)=false:=zu (by unfold lenI;omega);rw[c0,q01];simp only[q00];rw[show notB true=false from rfl,q01];exact loop _ 0 (zE _)
theorem qmg(b:Bool){k:Int}{t:Tx}{n:Int}{ks:F}(hr:RD (tr k t n ks))(hs:ks.size+1<=4000)(ht:TL 1000000 (tr k t n ks).flat)(hv:volN t ks 0<=2147483648){W:Nat}(hW:1<=W/\W<=1000):f_ad (⟨b,(tr k t n ks).flat⟩,(W:Int),())=some (layT W (tr k t n ks) false 0 0,0,()):=by have hc:=qql (b:=b) (l:=(tr k t n ks).flat) (W:=W) (by rw[(tr k t n ks).len,q49];omega) (by omega) (q:=0) 0 0 0 false false true [] (q7h k t n ks) hr.1 hr.2.1 (by omega) (by omega) (by omega) (by show 0+_<=_;omega);have e0:ofI ((0:Nat):Int)=0:=ofI_zero;rw[e0] at hc;have hc:f_aj (⟨b,(tr k t n ks).flat⟩,0,0,false,false,(0,0),(W:Int),⟨true,[]⟩,())=_:=hc;rw[u_ad,qgn b hr hs ht,q00];show cnd false _ _=_;rw[q01,q0h,if_neg (by omega),q00,show ltI 1000 (W:Int)=false from zu (by omega),q01,hc];have e:layT W (tr k t n ks) false 0 0=onL W k t n (layT W ks) (q0v ks).length false 0 0:=zo _;rw[e];rfl
theorem qst(b:Bool){k:Int}{t:Tx}{n:Int}{ks:F}(hr:RD (tr k t n ks))(hs:ks.size+1<=4000)(ht:TL 1000000 (tr k t n ks).flat)(hv:volN t ks 0<=2147483648):f_ab (⟨b,(tr k t n ks).flat⟩,())=some (q0v (tr k t n ks),0,()):=by have hc:=qql (b:=b) (l:=(tr k t n ks).flat) (W:=0) (by rw[(tr k t n ks).len,q49];omega) (by omega) (q:=0) 0 0 0 true false true [] (q7h k t n ks) hr.1 hr.2.1 (by omega) (by omega) (by omega) (by show 0+_<=_;omega);have e0:ofI ((0:Nat):Int)=0:=ofI_zero;rw[e0] at hc;have hc:f_aj (⟨b,(tr k t n ks).flat⟩,0,0,true,false,(0,0),0,⟨true,[]⟩,())=_:=hc;rw[u_ab,qgn b hr hs ht,q00];show cnd false _ _=_;rw[q01,hc];have e:layT 0 (tr k t n ks) true 0 0=onL 0 k t n (layT 0 ks) (q0v ks).length true 0 0:=zo _;rw[q9h] at e;rw[e];rfl
def pc(s:Tx):Prop:=∀c,c∈s->32<=c/\c<=126
theorem q5m{a b:Tx}(h1:pc a)(h2:pc b):pc (a++b):=fun c hc=>(zO.1 hc).elim (h1 c) (h2 c)
theorem q8c:pc []:=fun _ h=>by cases h
theorem q5p{c:Int}{s:Tx}(h:32<=c/\c<=126)(hs:pc s):pc (c::s):=fun x hx=>by
 rcases zn.1 hx with rfl|hx
 ·exact h
 ·exact hs x hx
theorem q3h{s:Tx}(h:s.all (fun c=>decide (32<=c)&&decide (c<=126))=true):pc s:=fun c hc=>by have:=zS.1 h c hc;rw[zd] at this;exact⟨zK this.1,zK this.2⟩
theorem z54{s:Tx}(h:opOk s=true):pc s:=fun c hc=>by unfold opOk allS at h;simp only[zd] at h;have:=zK (zS.1 h.1.2 c hc);unfold signsL at this;simp only[zn,List.not_mem_nil,or_false] at this;omega
theorem z06{c:Int}(h:q2d c=true):32<=c/\c<=126:=by
 unfold q2d q3y q3z q8w at h;simp only[Bool.or_eq_true,zd] at h;rcases h with (((h|h)|h)|h)|h
 ·have h1:=zK h.1;have h2:=zK h.2;omega
 ·have h1:=zK h.1;have h2:=zK h.2;omega
 ·have h1:=zK h.1;have h2:=zK h.2;omega
 ·have:=eqI_eq.1 h;omega
 ·have:=eqI_eq.1 h;omega
theorem qjz{p:Int->Bool}{s:Tx}(h:q4p p s=true):pc s:=fun c hc=>by unfold q4p at h;simp only[zd] at h;exact z06 (zS.1 h.1.1.1 c hc)
theorem qgo{s:Tx}(h:nameOk s=true):pc s:=by
 unfold nameOk at h;rcases Bool.or_eq_true _ _▸h with h|h
 ·exact qjz h
 ·exact z54 h
theorem qk0{s:Tx}(h:pc s):pc (q8z s):=by
 unfold q8z;cases opOk s with
 |false=>exact h
 |true=>exact q5m (q5m (q3h rfl) h) (q3h rfl)
theorem qod:∀(m n:Nat),pc (digN m n)
 |0,_=>q8c
 |m+1,n=>by
  unfold digN;split
  ·exact q5p (by omega) q8c
  ·exact q5m (qod m (n / 10)) (q5p (by omega) q8c)
theorem qx8:∀{s:Tx},pc s->pc (rep1 s)
 |[],_=>q8c
 |b::l,h=>by
  have hl:pc l:=fun c hc=>h c (zg _ hc);have hb:=h b (ze ..);unfold rep1;split
  ·exact q5p (by decide) hl
  ·exact q5p hb (qx8 hl)
theorem z16(n:Int):pc (numT n):=by
 unfold numT q8t;refine qx8 ?_;split
 ·exact q5p (by decide) (qod _ _)
 ·exact qod _ _
theorem qx9{n:Int}(h:0<=n/\n<16):32<=hexD n/\hexD n<=126:=by unfold hexD;split<;>omega
theorem z3l{c:Int}(h:0<=c/\c<=255):pc (quoC c):=by
 unfold quoC;split
 ·rename_i e;exact q5p (by decide) (q5p (by omega) q8c)
 split
 ·exact q3h rfl
 split
 ·exact q5p (by decide) (q5p (by decide) (q5p (qx9 (by omega)) (q5p (qx9 (by omega)) q8c)))
 ·exact q5p (by omega) q8c
theorem z07(c:Int):(quoC c).length<=4:=by
 unfold quoC;split
 ·show 2<=4;omega
 split
 ·show 2<=4;omega
 split
 ·exact Nat.le_refl _
 ·show 1<=4;omega
theorem qxa:∀{s:Tx},(∀b,b∈s->0<=b/\b<=255)->pc (s.flatMap quoC)
 |[],_=>q8c
 |b::l,h=>by rw[List.flatMap_cons];exact q5m (z3l (h b (ze ..))) (qxa fun c hc=>h c (zg _ hc))
theorem z55{s:Tx}(h:∀b,b∈s->0<=b/\b<=255):pc (quoT s):=q5m (q5m (q3h rfl) (qxa h)) (q3h rfl)
theorem qqm:∀s:Tx,(s.flatMap quoC).length<=4*s.length
 |[]=>Nat.le_refl _
 |b::l=>by have:=qqm l;have:=z07 b;rw[List.flatMap_cons,zh,zm];omega
theorem z3m(s:Tx):(quoT s).length<=4*s.length+2:=by have:=qqm s;show([34]++s.flatMap quoC++[34]).length<=_;rw[zh,zh];show 1+_+1<=_;omega
theorem qgp(N:Nat):∀(f:F),TL N f.flat->(qd9 (patL f)).length<=(N+30)*f.size
 |.nil,_=>Nat.zero_le _
 |.cons k t n ks r,h=>by
  have h:TL N ((k,t,n,(ks.cnt:Int))::(ks.flat++r.flat)):=h;have h1:=qgp N ks fun x hx=>h x (zg _ (List.mem_append_left _ hx));have h2:=qgp N r fun x hx=>h x (zg _ (List.mem_append_right _ hx));have h3:t.length<=N:=h _ (ze ..);have h4:=qed k t n (patL ks);have h5:=qju k ks.cnt (patT k t n (patL ks));have e:qd9 (patL (.cons k t n ks r))=([32]++patI k ks.cnt (patT k t n (patL ks)))++qd9 (patL r):=List.flatMap_cons;have em:(N+30)*(ks.size+r.size+1)=(N+30)*ks.size+(N+30)*r.size+(N+30):=by rw[Nat.mul_add,Nat.mul_add,Nat.mul_one]
  rw[e,zh,zh];show 1+_+_<=(N+30)*(ks.size+r.size+1);rw[em];omega
theorem qsu(N:Nat)(k:Int)(t:Tx)(n:Int)(ks:F)(h:TL N (tr k t n ks).flat):(patT k t n (patL ks)).length+9<=(N+30)*(ks.size+1):=by have h1:=qgp N ks fun x hx=>h x (by rw[q6y];exact zg _ hx);have h3:t.length<=N:=h (k,t,n,(ks.cnt:Int)) (by rw[q6y];exact ze ..);have h4:=qed k t n (patL ks);rw[Nat.mul_add,Nat.mul_one];omega
def RS(S:Tx->Prop):F->Prop
 |.nil=>True
 |.cons k t n ks r=>(okN k t n ks/\(k=41->S t))/\RS S ks/\RS S r
theorem RS.rd{S:Tx->Prop}:∀{f:F},RS S f->RD f
 |.nil,_=>trivial
 |.cons _ _ _ _ _,⟨⟨h,_⟩,h2,h3⟩=>⟨h,h2.rd,h3.rd⟩
theorem RS.app{S:Tx->Prop}:∀{f g:F},RS S f->RS S g->RS S (f.app g)
 |.nil,_,_,h=>h
 |.cons _ _ _ _ _,_,⟨h1,h2,h3⟩,h=>⟨h1,h2,h3.app h⟩
def GD(S:Tx->Prop)(d:F):Prop:=RS S d/\d.cnt=1
theorem GD.cat{S:Tx->Prop}:∀{l:List F},(∀d,d∈l->GD S d)->RS S (catF l)
 |[],_=>trivial
 |_::_,h=>(h _ (ze ..)).1.app (GD.cat fun x hx=>h x (zg _ hx))
def AllD(S:Tx->Prop)(l:List F):Prop:=∀d,d∈l->GD S d
theorem AllD.nil{S:Tx->Prop}:AllD S []:=fun _ h=>by cases h
theorem AllD.cons{S:Tx->Prop}{d:F}{l:List F}(h:GD S d)(hl:AllD S l):AllD S (d::l):=fun x hx=>by
 rcases zn.1 hx with rfl|hx
 ·exact h
 ·exact hl x hx
theorem AllD.app{S:Tx->Prop}{a b:List F}(h:AllD S a)(g:AllD S b):AllD S (a++b):=fun x hx=>(zO.1 hx).elim (h x) (g x)
section
variable {S:Tx→Prop}
theorem GD.tx{s:Tx}(h:S s)(hp:pc s):GD S (dTx s):=⟨⟨⟨.inl ⟨rfl,rfl,rfl,hp⟩,fun _=>h⟩,trivial,trivial⟩,rfl⟩
theorem GD.ln:GD S dLn:=⟨⟨⟨.inr (.inl ⟨rfl,rfl,rfl,rfl⟩),fun h=>absurd h (by decide)⟩,trivial,trivial⟩,rfl⟩
theorem GD.dcat{l:List F}(h:AllD S l):GD S (dCat l):=⟨⟨⟨.inr (.inr (.inr (.inr ⟨rfl,rfl,rfl⟩))),fun h=>absurd h (by decide)⟩,GD.cat h,trivial⟩,rfl⟩
theorem GD.some{l:List F}(h:AllD S l):GD S (qge l):=by
 match l,h with
 |[],h=>exact GD.dcat h
 |[d],h=>exact h d (ze ..)
 |_::_::_,h=>exact GD.dcat h
theorem GD.nest{l:List F}(h:AllD S l):GD S (q6c l):=⟨⟨⟨.inr (.inr (.inl ⟨rfl,rfl,rfl,(GD.some h).2⟩)),fun h=>absurd h (by decide)⟩,(GD.some h).1,trivial⟩,rfl⟩
theorem GD.grp{l:List F}(h:AllD S l):GD S (dGrp l):=⟨⟨⟨.inr (.inr (.inr (.inl ⟨rfl,rfl,rfl,(GD.some h).2⟩))),fun h=>absurd h (by decide)⟩,(GD.some h).1,trivial⟩,rfl⟩
theorem GD.und{d:F}(h:GD S d):GD S (dUnd d):=GD.nest (.cons GD.ln (.cons h .nil))
theorem GD.brk(hS:S [40]/\S [41])(b:Bool){d:F}(h:GD S d):GD S (brkD b d):=by
 cases b with
 |false=>exact h
 |true=>exact GD.dcat (.cons (GD.tx hS.1 (q3h rfl)) (.cons h (.cons (GD.tx hS.2 (q3h rfl)) .nil)))
end
structure TxOk (S:Tx->Prop) (l:List ND) (fx:List Fix1):Prop where
 small:∀s,pc s->s.length<=12->S s
 name:∀x,x∈l->pc x.2.1->∀p q:Tx,pc p->pc q->p.length<=12->q.length<=12->S (p++q8z x.2.1++q)
 con:∀x,x∈l->pc x.2.1->S x.2.1
 quo:∀x,x∈l->S (quoT x.2.1)
 num:∀n,S (numT n)
 op:∀f,f∈fx->S (f.1++[32])
 pat:∀k t n ks,(∀x,x∈(tr k t n ks).flat->x∈l)->ks.size+1<=l.length->pc (patT k t n (patL ks))->S (patT k t n (patL ks)++[32,45,62])/\S ([124,32]++(patT k t n (patL ks)++[32,45,62]))
structure DcG (S:Tx->Prop) (x:Dc):Prop where
 p:GD S x.p.doc
 hd:GD S x.hd.doc
 args:AllD S x.args
def DcB(S:Tx->Prop)(k:Int)(x:Dc):Prop:=DcG S x/\(k=6->GD S x.b.doc)
def RsF(S:Tx->Prop)(fx:List Fix1):Bool->Bool->F->Prop
 |_,_,.nil=>True
 |m,odd,.cons k t n ks r=>(((m&&odd)=false->DcB S k (dT fx k t n ks))/\((m&&odd)=true->S ((dT fx k t n ks).pt++[32,45,62])/\S ([124,32]++((dT fx k t n ks).pt++[32,45,62]))/\pc (dT fx k t n ks).pt))/\RsF S fx m (!odd) r
theorem qoe:∀(f:F) {m odd:Bool},errF m true odd f=0->pc (qd9 (patL f))
 |.nil,_,_,_=>q8c
 |.cons k t n ks r,m,odd,h=>by
  obtain⟨h1,h2⟩:=errF_ok.1 h;rw[Bool.true_or] at h1;obtain⟨hn,hf⟩:=errT_ok.1 h1;obtain⟨_,hp,_,_,hc,_⟩:=nodeE_zero.1 hn;have ih1:=qoe ks hf;have ih2:=qoe r h2;have e:qd9 (patL (.cons k t n ks r))=([32]++patI k ks.cnt (patT k t n (patL ks)))++qd9 (patL r):=List.flatMap_cons;rw[e];have hT:pc (patT k t n (patL ks)):=by
   unfold patT;split
   ·exact q3h rfl
   split
   ·rename_i he;subst he;have:nameOk t=true:=by
     unfold qbz at hc;cases h:nameOk t with
     |true=>rfl
     |false=>rw[h] at hc;simp[q2o,eqI,notB] at hc
    exact qk0 (qgo this)
   split
   ·exact z16 n
   ·rename_i hj he hk;have hg:k=24:=by
     have h1:leI 21 k=true:=by unfold q39 at hp;cases h:leI 21 k with|true=>rfl|false=>rw[h] at hp;cases hp
     have h2:leI k 24=true:=by unfold q39 at hp;cases h:leI k 24 with|true=>rfl|false=>rw[h,Bool.and_false] at hp;cases hp
     have h1:=zK h1;have h2:=zK h2;omega
    subst hg;have:q8d t=true:=by
     unfold qbz at hc;cases h:q8d t with
     |true=>rfl
     |false=>rw[h] at hc;simp[q2o,eqI,notB] at hc
    exact q5m (qjz this) ih1
  refine q5m (q5m (q3h rfl) ?_) ih2;unfold patI;split
  ·exact q5m (q5m (q3h rfl) hT) (q3h rfl)
  ·exact hT
theorem z3n{k:Int}{t:Tx}{n:Int}{ks:F}(h:errT k t n ks true=0):pc (patT k t n (patL ks)):=by
 have h':errF false true false (tr k t n ks)=0:=errF_ok.2 ⟨h,rfl⟩;have:=qoe (tr k t n ks) h';have e:qd9 (patL (tr k t n ks))=([32]++patI k ks.cnt (patT k t n (patL ks)))++[]:=List.flatMap_cons;rw[e] at this;intro c hc;refine this c (List.mem_append_left _ (List.mem_append_right _ ?_));unfold patI;split
 ·exact List.mem_append_left _ (List.mem_append_right _ hc)
 ·exact hc
section
variable {S:Tx→Prop} {l:List ND} {fx:List Fix1}
theorem qmh{k:Int}{t:Tx}(hk:k=3\/k=5\/k=7\/k=8\/k=12)(h:qbz k t=true):nameOk t=true:=by
 unfold qbz at h;cases hn:nameOk t with
 |true=>rfl
 |false=>rw[hn] at h;rcases hk with rfl|rfl|rfl|rfl|rfl<;>simp[q2o,eqI,notB] at h
theorem z56{t:Tx}(h:qbz 4 t=true):q8d t=true:=by
 unfold qbz at h;cases hn:q8d t with
 |true=>rfl
 |false=>rw[hn] at h;simp[q2o,eqI,notB] at h
theorem qxb(hS:TxOk S l fx):∀(N:Nat) (r:F),r.size<=N->RsF S fx true true r->AllD S (qan (dF fx r))
 |_,.nil,_,_=>AllD.nil
 |_,.cons k t n ks .nil,_,_=>AllD.nil
 |0,.cons k t n ks (.cons k' t' n' ks' r),h,_=>by have h:ks.size+(ks'.size+r.size+1)+1<=0:=h;omega
 |N+1,.cons k t n ks (.cons k' t' n' ks' r),h,hs=>by have h:ks.size+(ks'.size+r.size+1)+1<=N+1:=h;obtain⟨⟨_,h1⟩,⟨h2,_⟩,h3⟩:=hs;obtain⟨_,h1,hc⟩:=h1 rfl;have h2:=(h2 rfl).1.p;have ih:=qxb hS N r (by omega) h3;exact AllD.app (.cons GD.ln (.cons (GD.tx h1 (q5m (q3h rfl) (q5m hc (q3h rfl)))) (.cons (GD.und h2) .nil))) ih
theorem z17(hS:TxOk S l fx)(hC:∀f,f∈fx->opOk f.1=true){k:Int}{t:Tx}{n:Int}{ks:F}(hv:errT k t n ks false=0)(hg:GL l)(hm:∀x,x∈(tr k t n ks).flat->x∈l)(hs:RsF S fx (eqI k 10) false ks):DcB S k (dT fx k t n ks):=by
 obtain⟨hn,hf⟩:=errT_ok.1 hv;obtain⟨hD,hE,hk,_,hq,_⟩:=nodeE_zero.1 hn;obtain⟨c1,c2,c3,c10,c0⟩:=qd6 hk;have hx:(k,t,n,(ks.cnt:Int))∈l:=hm _ (by rw[q6y];exact ze ..);have kw:∀s:Tx,s.length<=12->s.all (fun c=>decide (32<=c)&&decide (c<=126))=true->GD S (dTx s):=fun s h1 h2=>GD.tx (hS.small s (q3h h2) h1) (q3h h2);have hu:S [40]/\S [41]:=⟨hS.small _ (q3h rfl) (by decide),hS.small _ (q3h rfl) (by decide)⟩;have nm:∀p q:Tx,nameOk t=true->p.length<=12->q.length<=12->p.all (fun c=>decide (32<=c)&&decide (c<=126))=true->q.all (fun c=>decide (32<=c)&&decide (c<=126))=true->GD S (dTx (p++q8z t++q)):=fun p q h1 h2 h3 h4 h5=>GD.tx (hS.name _ hx (qgo h1) p q (q3h h4) (q3h h5) h2 h3) (q5m (q5m (q3h h4) (qk0 (qgo h1))) (q3h h5));by_cases h6:k=6
 ·subst h6;obtain⟨a,b,c,d,r,rfl,hr⟩:=q23 (ks:=ks) (n:=1) (by have:=c2 (.inl rfl);omega);obtain⟨a',b',c',d',r',rfl,ht⟩:=q23 (n:=0) hr;obtain rfl:=q9v ht;have e10:eqI 6 10=false:=rfl;rw[e10] at hs;obtain⟨⟨s1,_⟩,⟨s2,_⟩,_⟩:=hs;obtain⟨s1,s1b⟩:=s1 rfl;obtain⟨s2,_⟩:=s2 rfl;have e0:nthD (dF fx (.cons a b c d (.cons a' b' c' d' .nil))) 0=dT fx a b c d:=rfl;have e1:nthD (dF fx (.cons a b c d (.cons a' b' c' d' .nil))) 1=dT fx a' b' c' d':=rfl;have he:GD S (docK fx 6 t n (.cons a b c d (.cons a' b' c' d' .nil)) (dF fx (.cons a b c d (.cons a' b' c' d' .nil)))):=by
   unfold docK;rw[if_neg (by decide),if_neg (by decide),if_neg (by decide),if_neg (by decide),if_neg (by decide),if_pos rfl,e0,e1];cases hj:rowOf fx 6 (.cons a b c d (.cons a' b' c' d' .nil)) with
   |none=>exact GD.grp (.cons (GD.brk hu _ s1.hd) (.cons (GD.nest (s1.args.app (.cons GD.ln (.cons (GD.brk hu _ s2.p) .nil)))) .nil))
   |some f=>
    have ha:a=6:=zC fun h=>by rw[qo9 fx h] at hj;cases hj
    subst ha;have hy:f∈fx:=by
     match d,hj with
     |.nil,h=>cases h
     |.cons a1 s1 c1 d1 rr,h=>
      have h:(if(6:Int)=6/\(6:Int)=6/\a1=3 then q83 fx s1 else none)=some f:=h;by_cases h3:a1=3
      ·rw[if_pos ⟨rfl,rfl,h3⟩] at h;exact(qg9 h).1
      ·rw[if_neg (fun e=>h3 e.2.2)] at h;cases h
    exact GD.grp (.cons (GD.brk hu _ (s1b rfl)) (.cons (GD.nest (.cons GD.ln (.cons (GD.tx (hS.op f hy) (q5m (z54 (hC f hy)) (q3h rfl))) (.cons (GD.brk hu _ s2.p) .nil)))) .nil))
  refine⟨⟨he,?_,?_⟩,fun _=>?_⟩
  ·unfold dT oneD;by_cases hl:lkK fx 6 (.cons a b c d (.cons a' b' c' d' .nil))=1
   ·show GD S (if _ then _ else _:Pt).doc;rw[if_pos hl,e0];exact s1.hd
   ·show GD S (if _ then _ else _:Pt).doc;rw[if_neg hl];exact he
  ·unfold dT oneD;show AllD S (if _ then _ else _);by_cases hl:lkK fx 6 (.cons a b c d (.cons a' b' c' d' .nil))=1
   ·rw[if_pos hl,e0,e1];exact s1.args.app (.cons GD.ln (.cons (GD.brk hu _ s2.p) .nil))
   ·rw[if_neg hl];exact AllD.nil
  ·exact s2.p
 ·have hw:dT fx k t n ks=⟨ownP fx k t n ks (dF fx ks),pz,ownP fx k t n ks (dF fx ks),[],patT k t n (patL ks)⟩:=qqc fx t n ks _ h6;rw[hw];have he:GD S (docK fx k t n ks (dF fx ks)):=by
   by_cases ho:q50 k=true
   ·rw[qgh fx t n ks _ ho];have e10:eqI k 10=false:=by rcases q4g ho with h|h|h|h|h|h<;>subst h<;>rfl
    rw[e10] at hs;have z:=q8c;by_cases hA:k=5\/k=11
    ·obtain⟨a,b,c,d,rfl⟩:=qwl (c1 hA);obtain⟨⟨s1,_⟩,_⟩:=hs;have s1:=(s1 rfl).1.p;rcases hA with rfl|rfl
     ·exact GD.grp (.cons (nm [102,117,110,32] [32,45,62] (qmh (.inr (.inl rfl)) hq) (by decide) (by decide) rfl rfl) (.cons (GD.und s1) .nil))
     ·exact GD.grp (.cons (kw Pz.kRaise (by decide) rfl) (.cons (GD.und s1) .nil))
    by_cases h9:k=9
    ·subst h9;obtain⟨a,b,c,d,r,rfl,hr⟩:=q23 (ks:=ks) (n:=2) (by have:=c3 rfl;omega);obtain⟨a',b',c',d',r',rfl,ht⟩:=q23 (n:=1) hr;obtain⟨a2,b2,c2',d2,r2,rfl,hz⟩:=q23 (n:=0) ht;obtain rfl:=q9v hz;obtain⟨⟨s1,_⟩,⟨s2,_⟩,⟨s3,_⟩,_⟩:=hs;have s1:=(s1 rfl).1.p;have s2:=(s2 rfl).1.p;have s3:=(s3 rfl).1.p;exact GD.grp (.cons (kw Pz.kIf (by decide) rfl) (.cons (GD.und s1) (.cons GD.ln (.cons (kw Pz.kThen (by decide) rfl) (.cons (GD.und s2) (.cons GD.ln (.cons (kw Pz.kElse (by decide) rfl) (.cons (GD.und s3) .nil))))))))
    have h2:k=6\/k=7\/k=8\/k=12:=by
     rcases q4g ho with h|h|h|h|h|h
     ·exact absurd (.inl h) hA
     ·exact .inr (.inl h)
     ·exact .inr (.inr (.inl h))
     ·exact absurd h h9
     ·exact absurd (.inr h) hA
     ·exact .inr (.inr (.inr h))
    obtain⟨a,b,c,d,r,rfl,hr⟩:=q23 (ks:=ks) (n:=1) (by have:=c2 h2;omega);obtain⟨a',b',c',d',r',rfl,ht⟩:=q23 (n:=0) hr;obtain rfl:=q9v ht;obtain⟨⟨s1,_⟩,⟨s2,_⟩,_⟩:=hs;have s1:=(s1 rfl).1.p;have s2:=(s2 rfl).1.p;rcases h2 with rfl|rfl|rfl|rfl
    ·exact absurd rfl h6
    ·exact GD.grp (.cons (nm [108,101,116,32] [32,61] (qmh (.inr (.inr (.inl rfl))) hq) (by decide) (by decide) rfl rfl) (.cons (GD.und s1) (.cons GD.ln (.cons (kw [105,110] (by decide) rfl) (.cons GD.ln (.cons s2 .nil))))))
    ·exact GD.grp (.cons (nm [108,101,116,32,114,101,99,32] [32,61] (qmh (.inr (.inr (.inr (.inl rfl)))) hq) (by decide) (by decide) rfl rfl) (.cons (GD.und s1) (.cons GD.ln (.cons (kw [105,110] (by decide) rfl) (.cons GD.ln (.cons s2 .nil))))))
    ·exact GD.grp (.cons (kw Pz.kTry (by decide) rfl) (.cons (GD.und s1) (.cons GD.ln (.cons (nm [119,105,116,104,32] [32,45,62] (qmh (.inr (.inr (.inr (.inr rfl)))) hq) (by decide) (by decide) rfl rfl) (.cons (GD.und s2) .nil)))))
   ·unfold docK;by_cases g1:k=1
    ·rw[if_pos g1];exact GD.tx (hS.num n) (z16 n)
    by_cases g2:k=2
    ·rw[if_neg g1,if_pos g2];exact GD.tx (hS.quo _ hx) (z55 (hg _ hx).1)
    by_cases g3:k=3
    ·rw[if_neg g1,if_neg g2,if_pos g3];have hB:=qmh (.inl g3) hq;have:=hS.name _ hx (qgo hB) [] [] q8c q8c (by decide) (by decide);rw[zo] at this;exact GD.tx this (qk0 (qgo hB))
    rw[if_neg g1,if_neg g2,if_neg g3,if_neg ho];by_cases g10:k=10
    ·subst g10;rw[if_pos rfl];obtain⟨c10,c11⟩:=c10 rfl;obtain⟨a,b,c,d,r,rfl,hr⟩:=q23 (ks:=ks) (n:=ks.cnt-1) (by omega);have hc:(F.cons a b c d r).cnt=r.cnt+1:=rfl;obtain⟨a',b',c',d',r',rfl,ht⟩:=q23 (ks:=r) (n:=r.cnt-1) (by omega);have hF:(F.cons a' b' c' d' r').cnt=r'.cnt+1:=rfl;obtain⟨a2,b2,c2',d2,r2,rfl,hz⟩:=q23 (ks:=r') (n:=r'.cnt-1) (by omega);have e10:eqI 10 10=true:=rfl;rw[e10] at hs;obtain⟨⟨s1,_⟩,⟨_,s2⟩,⟨s3,_⟩,s4⟩:=hs;have s1:=(s1 rfl).1.p;obtain⟨s2,_,s2p⟩:=s2 rfl;have s3:=(s3 rfl).1.p;have s5:=qxb hS r2.size r2 (Nat.le_refl _) s4;exact GD.grp (AllD.app (.cons (kw Pz.kMatch (by decide) rfl) (.cons (GD.und s1) (.cons GD.ln (.cons (kw Pz.kWith (by decide) rfl) .nil)))) (AllD.app (.cons (GD.nest (.cons GD.ln (.cons (GD.tx s2 (q5m s2p (q3h rfl))) (.cons (GD.und s3) .nil)))) .nil) (s5.app (.cons GD.ln (.cons (kw Pz.kEnd (by decide) rfl) .nil)))))
    rw[if_neg g10,if_neg h6];have k4:k=4:=z5v k hD hE (by cases h:q50 k with|true=>exact absurd h ho|false=>rfl) (q1j g1) (q1j g2) (q1j g3) (q1j h6) (q1j g10);subst k4;have hc:=qjz (z56 hq);exact GD.tx (hS.con _ hx hc) hc
  exact⟨⟨he,he,AllD.nil⟩,fun e=>absurd e h6⟩
theorem rsF(hS:TxOk S l fx)(hc:∀f,f∈fx->opOk f.1=true)(hg:GL l):∀(f:F) (m odd:Bool),errF m false odd f=0->(∀x,x∈f.flat->x∈l)->f.size<=l.length->RsF S fx m odd f
 |.nil,_,_,_,_,_=>trivial
 |.cons k t n ks r,m,odd,h,hm,hz=>by
  have hz:ks.size+r.size+1<=l.length:=hz;obtain⟨h1,h2⟩:=errF_ok.1 h;have hm:∀x,x∈(k,t,n,(ks.cnt:Int))::(ks.flat++r.flat)->x∈l:=hm;have he:∀x,x∈(tr k t n ks).flat->x∈l:=fun x hx=>hm x (by
   rw[q6y] at hx;rcases zn.1 hx with rfl|hx
   ·exact ze ..
   ·exact zg _ (List.mem_append_left _ hx))
  refine⟨⟨fun hf=>?_,fun hj=>?_⟩,rsF hS hc hg r m (!odd) h2 (fun x hx=>hm x (zg _ (List.mem_append_right _ hx))) (by omega)⟩
  ·rw[hf,Bool.or_false] at h1;exact z17 hS hc h1 hg he (rsF hS hc hg ks (eqI k 10) false (errT_ok.1 h1).2 (fun x hx=>hm x (zg _ (List.mem_append_left _ hx))) (by omega))
  ·rw[hj,Bool.or_true] at h1;have hp:=z3n h1;obtain⟨a,b⟩:=hS.pat k t n ks he (by omega) hp;exact⟨a,b,hp⟩
theorem z57(hS:TxOk S l fx)(hc:∀f,f∈fx->opOk f.1=true)(hg:GL l){k:Int}{t:Tx}{n:Int}{ks:F}(hv:errT k t n ks false=0)(hm:∀x,x∈(tr k t n ks).flat->x∈l)(hz:ks.size+1<=l.length):GD S (dT fx k t n ks).p.doc:=(z17 hS hc hv hg hm (rsF hS hc hg ks _ _ (errT_ok.1 hv).2 (fun x hx=>hm x (by rw[q6y];exact zg _ hx)) (by omega))).1.p
end
theorem z08{M:Nat}{l:List ND}{fx:List Fix1}(ht:TL M l)(hf:∀f,f∈fx->f.1.length<=20)(hM:20<=M)(hl:1<=l.length):TxOk (fun s=>s.length<=(M+30)*l.length+4*M) l fx where
 small:=fun s _ h=>by have:(M+30)*1<=(M+30)*l.length:=Nat.mul_le_mul_left _ hl;omega
 name:=fun x hx _ p q _ _ hp hq=>by have:=ht x hx;have:=qgj x.2.1;have:(M+30)*1<=(M+30)*l.length:=Nat.mul_le_mul_left _ hl;rw[zh,zh];omega
 con:=fun x hx _=>by have:=ht x hx;omega
 quo:=fun x hx=>by have:=ht x hx;have:=z3m x.2.1;have:(M+30)*1<=(M+30)*l.length:=Nat.mul_le_mul_left _ hl;omega
 num:=fun n=>by have:=qqg n;have:(M+30)*1<=(M+30)*l.length:=Nat.mul_le_mul_left _ hl;omega
 op:=fun f h=>by have:=hf f h;have:(M+30)*1<=(M+30)*l.length:=Nat.mul_le_mul_left _ hl;rw[zh];show _+1<=_;omega
 pat:=fun k t n ks hm hz _=>by
  have h:=qsu M k t n ks fun x hx=>ht x (hm x hx);have:(M+30)*(ks.size+1)<=(M+30)*l.length:=Nat.mul_le_mul_left _ hz;refine⟨?_,?_⟩
  ·rw[zh];show _+3<=_;omega
  ·rw[zh,zh];show 2+(_+3)<=_;omega
theorem qxc{B:Nat}:∀(f:F) (i:Nat),RS (fun s=>s.length<=B) f->volT f i<=f.size*(B+1+i+2*f.size)
 |.nil,_,_=>Nat.zero_le _
 |.cons k t n ks r,i,⟨⟨hk,hs⟩,h1,h2⟩=>by
  have i1:=qxc ks (i+2) h1;have i2:=qxc r i h2;have ht:t.length<=B:=by
   rcases hk with h|h|h|h|h
   ·exact hs h.1
   all_goals rw[h.2.1];exact Nat.zero_le _
  have e:(F.cons k t n ks r).size=ks.size+r.size+1:=rfl;have m1:ks.size*(B+1+(i+2)+2*ks.size)<=ks.size*(B+1+i+2*(ks.size+r.size+1)):=Nat.mul_le_mul_left _ (by omega);have m2:r.size*(B+1+i+2*r.size)<=r.size*(B+1+i+2*(ks.size+r.size+1)):=Nat.mul_le_mul_left _ (by omega);have m3:(ks.size+r.size+1)*(B+1+i+2*(ks.size+r.size+1))=ks.size*(B+1+i+2*(ks.size+r.size+1))+r.size*(B+1+i+2*(ks.size+r.size+1))+(B+1+i+2*(ks.size+r.size+1)):=by rw[Nat.add_mul,Nat.add_mul,Nat.one_mul]
  show t.length+1+i+volT ks (i+2)+volT r i<=(F.cons k t n ks r).size*(B+1+i+2*(F.cons k t n ks r).size);rw[e,m3];omega
theorem qxd{fx:List Fix1}(h:q8b fx=0):∀f,f∈fx->q2r f=true:=by
 unfold q8b at h;by_cases c:400<fx.length\/fx.any (fun x=>!q2r x)=true
 ·rw[if_pos c] at h;cases h
 ·intro f hf;cases hr:q2r f with
  |true=>rfl
  |false=>exact absurd (.inr (List.any_eq_true.2 ⟨f,hf,by rw[hr];rfl⟩)) c
theorem qsv{fx:List Fix1}(h:q8b fx=0):∀f,f∈fx->opOk f.1=true:=fun f hf=>by have:=qxd h f hf;unfold q2r at this;simp only[zd] at this;exact this.1.1
theorem RS.tl{B:Nat}:∀{f:F},RS (fun s=>s.length<=B) f->TL B f.flat
 |.nil,_,_,h=>by cases h
 |.cons k t n ks r,⟨⟨hk,hs⟩,h1,h2⟩,x,hx=>by
  have hx:x∈(k,t,n,(ks.cnt:Int))::(ks.flat++r.flat):=hx;rcases zn.1 hx with rfl|hx
  ·rcases hk with h|h|h|h|h
   ·exact hs h.1
   all_goals (show t.length<=B;rw[h.2.1];exact Nat.zero_le _)
  ·exact(zO.1 hx).elim (h1.tl x) (h2.tl x)
structure qmi (d:F):Prop where
 rd:RD d
 one:d.cnt=1
 size:d.size<=3600
 vol:volT d 0<=800000000
 tl:TL 1000000 d.flat
theorem z3o{fx:List Fix1}{k:Int}{t:Tx}{n:Int}{ks:F}(hv:errT k t n ks false=0)(hc:q8b fx=0)(hf:∀f,f∈fx->f.1.length<=20)(hg:GL (tr k t n ks).flat)(hs:ks.size+1<=600)(ht:TL 300 (tr k t n ks).flat):qmi (dT fx k t n ks).p.doc:=by
 have he:(tr k t n ks).flat.length=ks.size+1:=(tr k t n ks).len;have g:=z57 (z08 (fx:=fx) ht hf (by decide) (by rw[he];omega)) (qsv hc) hg hv (fun x hx=>hx) (by rw[he];exact Nat.le_refl _);have hz:=qqd fx hv;rw[he] at g;have hB:(300+30)*(ks.size+1)+4*300<=199200:=by omega
 have hv:=qxc _ 0 g.1;refine⟨g.1.rd,g.2,by omega,Nat.le_trans hv ?_,fun x hx=>?_⟩
 ·have h1:(dT fx k t n ks).p.doc.size<=3600:=by omega
  have h2:(300+30)*(ks.size+1)+4*300+1+0+2*(dT fx k t n ks).p.doc.size<=206401:=by omega
  exact Nat.le_trans (Nat.mul_le_mul h1 h2) (by decide)
 ·have:=g.1.tl x hx;omega
section
variable {b:Bool} {l:List ND}
theorem z09(k:Int)(t:Tx)(n:Int)(ks:F):q0v (tr k t n ks)=if k=41 then t else if k=42 then [32] else q0v ks:=zo _
variable {W:Nat}
end
section
variable {b:Bool} {l:List ND} {W:Nat}
end
theorem qqn{d:F}(h:d.cnt=1):∃k t n ks,d=tr k t n ks:=by
 match d,h with
 |.nil,h=>cases h
 |.cons k t n ks r,h=>have h:r.cnt+1=1:=h;exact⟨k,t,n,ks,by rw[qe8 (f:=r) (by omega)]⟩
noncomputable def q4t(fx:List Fix1)(k:Int)(t:Tx)(n:Int)(ks:F)(W:Nat):Tx:=if W=0 then q0v (dT fx k t n ks).p.doc else layT W (dT fx k t n ks).p.doc false 0 0
section
variable {fx:List Fix1} {k:Int} {t:Tx} {n:Int} {ks:F}
theorem z3p(b nb:Bool)(hv:errT k t n ks false=0)(hc:q8b fx=0)(hf:gL fx)(hj:∀f,f∈fx->f.1.length<=20)(hg:GL (tr k t n ks).flat)(hs:ks.size+1<=600)(ht:TL 300 (tr k t n ks).flat)(he:f_dj (⟨b,(tr k t n ks).flat⟩,())=some (0,())):f_cc (⟨b,(tr k t n ks).flat⟩,⟨nb,fx⟩,())=some (⟨false,(dT fx k t n ks).p.doc.flat⟩,0,()):=by have hk:(tr k t n ks).flat.length=ks.size+1:=(tr k t n ks).len;have hd:=qwy (b:=b) (bx:=nb) (fx:=fx) (q:=0) (by omega) hg (fun x hx=>by have:=ht x hx;omega) hf.2.2 (fun f h=>by have:=hj f h;omega) (q7h k t n ks) hv;have hd:f_ch (0,⟨b,(tr k t n ks).flat⟩,⟨nb,fx⟩,())=_:=hd;rw[u_cc,he,q00];show cnd false _ _=_;rw[q01,qd7 nb hf,hc,q00];show cnd false _ _=_;rw[q01,hd];simp only[q00]
theorem z3q(b nb:Bool)(hc:f_cc (⟨b,(tr k t n ks).flat⟩,⟨nb,fx⟩,())=some (⟨false,(dT fx k t n ks).p.doc.flat⟩,0,()))(he:qmi (dT fx k t n ks).p.doc){W:Nat}(hW:1<=W/\W<=1000):f_cf (⟨b,(tr k t n ks).flat⟩,⟨nb,fx⟩,(W:Int),())=some (q4t fx k t n ks W,0,()):=by rw[u_cf,hc,q00];show cnd false _ _=_;rw[q01,q0h,if_neg (by omega),q00,show ltI 1000 (W:Int)=false from zu (by omega),q01];unfold q4t;rw[if_neg (by omega)];obtain⟨h1,h2,h3,h4,h5⟩:=he;obtain⟨k',t',n',ks',e⟩:=qqn h2;rw[e] at h1 h3 h4 h5 ⊢;have hv:volN t' ks' 0+0<=800000000:=h4;rw[qmg false h1 (by rw[q49] at h3;omega) h5 (by omega) hW];rfl
theorem qxe(b nb:Bool)(hc:f_cc (⟨b,(tr k t n ks).flat⟩,⟨nb,fx⟩,())=some (⟨false,(dT fx k t n ks).p.doc.flat⟩,0,()))(he:qmi (dT fx k t n ks).p.doc):f_cd (⟨b,(tr k t n ks).flat⟩,⟨nb,fx⟩,())=some (q4t fx k t n ks 0,0,()):=by rw[u_cd,hc,q00];show cnd false _ _=_;rw[q01];unfold q4t;rw[if_pos rfl];obtain⟨h1,h2,h3,h4,h5⟩:=he;obtain⟨k',t',n',ks',e⟩:=qqn h2;rw[e] at h1 h3 h4 h5 ⊢;have hv:volN t' ks' 0+0<=800000000:=h4;rw[qst false h1 (by rw[q49] at h3;omega) h5 (by omega)];rfl
end
def q8e(s:Tx):Tx:=s.filter fun c=>!(decide (c=32)||decide (c=10))
theorem qgq(a b:Tx):q8e (a++b)=q8e a++q8e b:=List.filter_append ..
theorem qmj:∀n:Nat,q8e (List.replicate n 32)=[]
 |0=>rfl
 |n+1=>by rw[List.replicate_succ];exact qmj n
theorem qc7(W:Nat):∀(f:F) (fl:Bool) (c i:Nat),q8e (layT W f fl c i)=q8e (q0v f)
 |.nil,_,_,_=>rfl
 |.cons k t n ks r,fl,c,i=>by
  show q8e (onL W k t n (layT W ks) (q0v ks).length fl c i++layT W r fl (colN c (onL W k t n (layT W ks) (q0v ks).length fl c i)) i)=q8e ((if k=41 then t else if k=42 then [32] else q0v ks)++q0v r);rw[qgq,qgq,qc7 W r];refine congrArg (· ++q8e (q0v r)) ?_;unfold onL;by_cases h1:k=41
  ·rw[if_pos h1,if_pos h1]
  rw[if_neg h1,if_neg h1];by_cases h2:k=42
  ·rw[if_pos h2,if_pos h2];cases fl with
   |true=>rfl
   |false=>exact qmj i
  rw[if_neg h2,if_neg h2];split
  ·exact qc7 W ks _ _ _
  split
  ·exact qc7 W ks _ _ _
  ·exact qc7 W ks _ _ _
theorem qxf(s:Tx)(hs:s.length<=2147483648):∀(m k:Nat) (q:Bool) (acc:Tx),k+m=s.length->acc.length<=k->q0i q4l (s,(k:Int),⟨q,acc⟩,())=some (acc++q8e (s.drop k),()):=by
 intro m
 induction m with
 |zero=>intro k q acc hk _;refine q09 ?_;unfold q4l;simp only;rw[show lenI s=((s.length:Nat):Int) from rfl,q0h,if_neg (by omega),zD (by omega)];show some (Sum.inr (acc,()))=some (Sum.inr (acc++[],()));rw[zo]
 |succ m ih=>
  intro k q acc hk he;have hc:k<s.length:=by omega
  have hd:=q17 hc;have ha:addI .i64 (k:Int) 1=((k+1:Nat):Int):=by rw[q81 (by omega) (by omega)];omega
  have step:∃q',q4l (s,(k:Int),⟨q,acc⟩,())=some (.inl (s,((k+1:Nat):Int),⟨q',acc++q8e [s[k]]⟩,())):=by
   unfold q4l;simp only;rw[show lenI s=((s.length:Nat):Int) from rfl,q0h,if_pos (by omega),q0g (zj hc)];simp only[q00];by_cases h:s[k]=32
   ·refine⟨q,?_⟩;have e:q8e [s[k]]=[]:=by rw[h];rfl
    rw[e,h,show eqI 32 32=true from rfl];simp only[notB,Bool.not_true,q01,q00];rw[ha,zo]
   ·by_cases h2:s[k]=10
    ·refine⟨q,?_⟩;have e:q8e [s[k]]=[]:=by rw[h2];rfl
     rw[e,h2,show eqI 10 32=false from rfl,show eqI 10 10=true from rfl];simp only[notB,Bool.not_true,Bool.not_false,q04,q01,q00];rw[ha,zo]
    ·have e:q8e [s[k]]=[s[k]]:=by show List.filter _ [s[k]]=_;rw[List.filter_cons_of_pos (by rw[zu h,zu h2];rfl)];rfl
     rw[e,q1j h,q1j h2];simp only[notB,Bool.not_false,q04,q00];rw[qfx (by show((acc.length:Nat):Int)+((1:Nat):Int)<=_;omega)];simp only[q00];rw[ha,qq5];exact⟨_,rfl⟩
  obtain⟨q',step⟩:=step;have hf:(q8e [s[k]]).length<=1:=List.length_filter_le _ _;rw[q0d step,ih (k+1) q' _ (by omega) (by rw[zh];omega),hd,zt];refine congrArg (fun z=>some (acc++z,())) ?_;rw[<-qgq];rfl
theorem qxg(s:Tx)(hs:s.length<=2147483648):q1f (s,())=some (q8e s,()):=by rw[qlx];exact qxf s hs s.length 0 false [] (zE _) (Nat.le_refl _)
theorem z0a(fx:List Fix1){k:Int}{t:Tx}{n:Int}{ks:F}(hv:errT k t n ks false=0):∃k' t' n' ks',(dT fx k t n ks).p.doc=tr k' t' n' ks'/\(k'=41\/k'=44):=by
 obtain⟨hn,hf⟩:=errT_ok.1 hv;obtain⟨_,_,hk,_,_,_⟩:=nodeE_zero.1 hn;have hc:(dT fx k t n ks).p.doc=docK fx k t n ks (dF fx ks):=rfl;rw[hc];have tx:∀s,∃k' t' n' ks',dTx s=tr k' t' n' ks'/\(k'=41\/k'=44):=fun s=>⟨41,s,0,.nil,rfl,.inl rfl⟩;have gr:∀l,∃k' t' n' ks',dGrp l=tr k' t' n' ks'/\(k'=41\/k'=44):=fun l=>⟨44,[],0,qge l,rfl,.inr rfl⟩;unfold docK;split
 ·exact tx _
 split
 ·exact tx _
 split
 ·exact tx _
 split
 ·unfold qo6;split
  ·exact gr _
  split
  ·exact gr _
  split
  ·exact gr _
  split
  ·exact gr _
  split
  ·exact gr _
  ·exact gr _
 split
 ·unfold qwk;split
  ·exact gr _
  ·exact gr _
 split
 ·split
  ·exact gr _
  ·exact gr _
 ·exact tx _
theorem qsw(fx:List Fix1){k:Int}{t:Tx}{n:Int}{ks:F}(hv:errT k t n ks false=0){W:Nat}(h:(q4t fx k t n ks 0).length<=W):q4t fx k t n ks W=q4t fx k t n ks 0:=by
 unfold q4t at h ⊢;rw[if_pos rfl] at h ⊢;by_cases hW:W=0
 ·rw[if_pos hW]
 rw[if_neg hW];obtain⟨k',t',n',ks',e,hk⟩:=z0a fx hv;rw[e] at h ⊢;have e2:layT W (tr k' t' n' ks') false 0 0=onL W k' t' n' (layT W ks') (q0v ks').length false 0 0:=zo _;rw[z09] at h ⊢;rw[e2];rcases hk with rfl|rfl
 ·rfl
 ·rw[if_neg (by decide),if_neg (by decide)] at h ⊢;have e3:onL W 44 t' n' (layT W ks') (q0v ks').length false 0 0=layT W ks' (false||decide (0+(q0v ks').length<=W)) 0 0:=rfl;rw[e3,Bool.false_or,zw (by omega),q9h]
theorem qic(fx:List Fix1)(k:Int)(t:Tx)(n:Int)(ks:F)(W:Nat):q8e (q4t fx k t n ks W)=q8e (q4t fx k t n ks 0):=by
 unfold q4t;rw[if_pos rfl];split
 ·rfl
 ·exact qc7 W _ _ _ _
theorem qxh{fx:List Fix1}{k:Int}{t:Tx}{n:Int}{ks:F}(hc:qmi (dT fx k t n ks).p.doc)(W:Nat):(q4t fx k t n ks W).length<=800000000:=by
 unfold q4t;split
 ·exact Nat.le_trans (qc6 _ 0) hc.vol
 ·exact Nat.le_trans (qee W _ _ _ 0 hc.rd) hc.vol
theorem qk1(b nb:Bool){t:List ND}{fx:List Fix1}{c:Int}(hc:c≠0)(h:f_cc (⟨b,t⟩,⟨nb,fx⟩,())=some (⟨true,[]⟩,c,()))(W:Int):f_cf (⟨b,t⟩,⟨nb,fx⟩,W,())=some ([],c,())/\f_cd (⟨b,t⟩,⟨nb,fx⟩,())=some ([],c,()):=by
 refine⟨?_,?_⟩
 ·rw[u_cf,h,q00];simp only;rw[q1j hc];rfl
 ·rw[u_cd,h,q00];simp only;rw[q1j hc];rfl
theorem qk2(b nb:Bool){fx:List Fix1}{k:Int}{t:Tx}{n:Int}{ks:F}(hc:f_cc (⟨b,(tr k t n ks).flat⟩,⟨nb,fx⟩,())=some (⟨false,(dT fx k t n ks).p.doc.flat⟩,0,()))(he:qmi (dT fx k t n ks).p.doc)(W:Int):(f_cf (⟨b,(tr k t n ks).flat⟩,⟨nb,fx⟩,W,())=some ([],80,())/\¬(1<=W/\W<=1000))\/∃w:Nat,W=(w:Int)/\1<=w/\w<=1000/\f_cf (⟨b,(tr k t n ks).flat⟩,⟨nb,fx⟩,W,())=some (q4t fx k t n ks w,0,()):=by
 by_cases hW:1<=W/\W<=1000
 ·obtain⟨w,rfl⟩:=Int.eq_ofNat_of_zero_le (show 0<=W by omega);obtain⟨x,y⟩:=hW;exact .inr ⟨w,rfl,by omega,by omega,z3q b nb hc he ⟨by omega,by omega⟩⟩
 ·refine .inl ⟨?_,hW⟩;have hw:cnd (ltI W 1) (some true) (some (ltI 1000 W))=some true:=by
   by_cases h:W<1
   ·rw[show ltI W 1=true from zw h];rfl
   ·rw[show ltI W 1=false from zu h,show ltI 1000 W=true from zw (by omega)];rfl
  rw[u_cf,hc,q00];simp only;rw[show eqI 0 0=true from rfl,show notB true=false from rfl,q01,hw];rfl
theorem law_Widths(nb:Bool)(t:List ND)(hg:∀x,x∈t->qq2 x\/1000000<x.2.1.length)(n:Bool)(l:List Fix1)(hf:∀x,x∈l->gF x)(V W:Int):f_law08_ShowWidths (⟨nb,t⟩,⟨n,l⟩,V,W,())=some (true,()):=by
 rw[qbr,z3g];obtain⟨r,h1,h2⟩:=qsr nb n t l (some (true,())) (bnd (q2g (⟨nb,t⟩,())) (fun x4=>bnd (q1i (⟨n,l⟩,())) (fun x5=>bnd (f_cf (x4.1,x5.1,V,())) (fun x6=>bnd (q2g (⟨nb,t⟩,())) (fun x7=>bnd (q1i (⟨n,l⟩,())) (fun x8=>bnd (f_cf (x7.1,x8.1,W,())) (fun x9=>bnd (q2g (⟨nb,t⟩,())) (fun x10=>bnd (q1i (⟨n,l⟩,())) (fun x11=>bnd (f_cd (x10.1,x11.1,())) (fun x12=>bnd (cnd (notB (eqI x6.2.1 0)) (some true) (some (notB (eqI x9.2.1 0)))) (fun x13=>bnd (cnd x13 (some true) (some (notB (eqI x12.2.1 0)))) (fun x14=>cnd x14 (some (true,())) (bnd (q1f (x6.1,())) (fun x15=>bnd (q1f (x9.1,())) (fun x16=>bnd (cnd (eqS x15.1 x16.1) (bnd (q1f (x6.1,())) (fun x17=>bnd (q1f (x12.1,())) (fun x18=>some (eqS x17.1 x18.1)))) (some false)) (fun x19=>bnd (cnd x19 (cnd (ltI V (lenI x12.1)) (some true) (some (eqS x6.1 x12.1))) (some false)) (fun x20=>some (x20,()))))))))))))))))));refine Eq.trans h2 ?_;cases r with
 |false=>rfl
 |true=>
  obtain⟨h3,h4,h5,h6⟩:=h1 rfl;have hG:GL t:=fun x hx=>(hg x hx).elim id fun h=>by have:=h4 x hx;omega
  have hk:=z5w hf h5 h6;rw[if_pos rfl,z03 nb t h3,qsq n l h5];simp only[q00];obtain⟨c,e1,e2⟩:=qss nb false n false t l h3 hG hk;rcases e2 with ⟨hc,e2⟩|⟨hc,k,s,m,ks,e,hv,e3,e4,_,hl⟩
  ·rw[(qk1 false false hc e2 V).1];simp only[q00];rw[(qk1 false false hc e2 W).1];simp only[q00];rw[(qk1 false false hc e2 W).2];simp only[q00];rw[q1j hc];rfl
  ·subst hc;subst e;have hm:(tr k s m ks).flat.length=ks.size+1:=(tr k s m ks).len;have he:=z3o hv hl h6 hG (by omega) fun x hx=>by have:=h4 x hx;omega
   have hj:=z3p false false hv hl hk h6 hG (by omega) (fun x hx=>by have:=h4 x hx;omega) e3;have a2:=qxe false false hj he;rcases qk2 false false hj he V with ⟨a,_⟩|⟨v,rfl,_,_,a⟩
   ·rcases qk2 false false hj he W with ⟨b,_⟩|⟨w,_,_,_,b⟩
    all_goals
     rw[a];simp only[q00];rw[b];simp only[q00];rw[a2];rfl
   ·rcases qk2 false false hj he W with ⟨b,_⟩|⟨w,rfl,_,_,b⟩
    ·rw[a];simp only[q00];rw[b];simp only[q00];rw[a2];rfl
    ·have hb:=fun W=>qxg (q4t l k s m ks W) (by have:=qxh he W;omega);rw[a];simp only[q00];rw[b];simp only[q00];rw[a2];simp only[q00];rw[show eqI 0 0=true from rfl];simp only[notB,Bool.not_true,q01,q00];rw[hb v,hb w,hb 0];simp only[q00];rw[qic l k s m ks v,qic l k s m ks w,qps];simp only[q04,q00];by_cases hw:(q4t l k s m ks 0).length<=v
     ·rw[qsw l hv hw,qps];cases ltI (v:Int) (lenI (q4t l k s m ks 0))<;>rfl
     ·rw[show ltI (v:Int) (lenI (q4t l k s m ks 0))=true from zw (show(v:Int)<(((q4t l k s m ks 0).length:Nat):Int) by omega)];rfl
end Fn
end Ev