/- Layers 4 and 7 in plain words: fixities; a parser, a lexer; what the reference says of them. -/
import Derived.Test.YtdgmbemagoakjaaGreatDoorPlainA
import Derived.Laws.RangeAny
set_option linter.defProp false
namespace Ev
namespace Fx
section
variable (lv sd:Nat→Int)
def LB(o x:Nat):Prop:=lv o<lv x\/(lv o=lv x/\sd o<0/\sd x<0)
def RB(o x:Nat):Prop:=lv o<lv x\/(lv o=lv x/\0<sd o/\0<sd x)
inductive B:Nat->Nat->List Int->Prop
 |nil (a:Nat):B a a [-1-(a:Int)]
 |node (a r b:Nat) (x y:List Int):a<=r->r<b->(∀i,a<=i->i<r->LB lv sd r i)->(∀i,r<i->i<b->RB lv sd r i)->B a r x->B (r+1) b y->B a b ((r:Int)::(x++y))
variable {lv sd}
def RB.trans{a b c:Nat}(h1:RB lv sd a b)(h2:RB lv sd b c):RB lv sd a c:=by
 unfold RB at*
 omega
def lo:List (Nat×List Int)->Nat
 |[]=>0
 |(o,_)::_=>o+1
variable (lv sd)
def Inv:List (Nat×List Int)->List Int->Nat->Prop
 |[],cur,k=>B lv sd 0 k cur
 |(o,P)::S,cur,k=>o<k/\B lv sd (o+1) k cur/\(∀x,o<x->x<k->RB lv sd o x)/\(∀x,lo S<=x->x<o->LB lv sd o x)/\Inv S P o/\(∀p,p∈S->∀x,p.1<x->x<k->RB lv sd p.1 x)
variable {lv sd}
def Mid(lv sd:Nat->Int)(S:List (Nat×List Int))(k:Nat):Prop:=∀x,lo S<=x->x<k->LB lv sd k x
end
end Fx
end Ev

namespace Ev
namespace Fx
section
variable (lv sd:Nat→Int)
def U3(k:Nat):List (Nat×List Int)->List Int->Option (List (Nat×List Int)×List Int)
 |[],cur=>some ([],cur)
 |(o,P)::S,cur=>
  if lv o<lv k then some ((o,P)::S,cur)
  else if lv k<lv o then U3 k S ((o:Int)::(P++cur))
  else if sd o≠sd k\/sd k=0 then none
  else if 0<sd k then some ((o,P)::S,cur)
  else U3 k S ((o:Int)::(P++cur))
def Ra:Nat->Nat->List (Nat×List Int)->List Int->Option (List (Nat×List Int)×List Int)
 |0,_,S,cur=>some (S,cur)
 |m+1,k,S,cur=>match U3 lv sd k S cur with
  |none=>none
  |some (S',adr)=>Ra m (k+1) ((k,adr)::S') [-2-(k:Int)]
def Zw:List (Nat×List Int)->List Int->List Int
 |[],cur=>cur
 |(o,P)::S,cur=>Zw S ((o:Int)::(P++cur))
def z8b(n:Nat):Option (List Int):=match Ra lv sd n 0 [] [-1] with
 |none=>none
 |some (S,cur)=>some (Zw S cur)
variable {lv sd}
def rowOf:Nat->Nat->List Int
 |a,0=>[-1-(a:Int)]
 |a,m+1=>(-1-(a:Int))::(a:Int)::rowOf (a+1) m
end
end Fx
end Ev

namespace Ev
namespace Fx
section
variable {lv sd:Nat→Int}
def St(lv sd:Nat->Int)(low:Int)(a k:Nat)(first last n left right:Int):Prop:=
 (n=0/\left=0/\right=0/\first=-1/\∀i,a<=i->i<k->lv i≠low)\/
 (∃f l:Nat,first=(f:Int)/\last=(l:Int)/\a<=f/\f<=l/\l<k/\lv f=low/\lv l=low/\(∀i,a<=i->i<k->lv i=low->f<=i/\i<=l)/\1<=n/\(n=1->f=l)/\(1<n->f<l)/\
  (left=n↔∀i,a<=i->i<k->lv i=low->sd i<0)/\left<=n/\(right=n↔∀i,a<=i->i<k->lv i=low->0<sd i)/\right<=n)
end
end Fx
end Ev

namespace Ev
open Go
namespace Fn
abbrev ak:Type:=(List Int)×Int×Int
def gF(x:ak):Prop:=(∀b,b∈x.1->0<=b/\b<=255)/\x.1.length<=9223372036854775807/\(-9223372036854775808<=x.2.1/\x.2.1<=9223372036854775807)/\(-9223372036854775808<=x.2.2/\x.2.2<=9223372036854775807)
def gQ(x:ak):Bool:=gJ x.1&&decide (0<=x.2.1/\x.2.1<=9)&&decide (-1<=x.2.2/\x.2.2<=1)
def zeq(b:Bool)(n m:Int):az (aP b (some (bJ 0 n)) (some false)) (fun x1=>az (aP x1 (some (bJ n 9)) (some false)) (fun x2=>az (aP x2 (some (bJ (-1) m)) (some false)) (fun x3=>az (aP x3 (some (bJ m 1)) (some false)) (fun x4=>some (x4,())))))=some (b&&decide (0<=n/\n<=9)&&decide (-1<=m/\m<=1),()):=by
 have e1:decide (0<=n/\n<=9)=(bJ 0 n&&bJ n 9):=by unfold bJ;rw[Bool.decide_and]
 have e2:decide (-1<=m/\m<=1)=(bJ (-1) m&&bJ m 1):=by unfold bJ;rw[Bool.decide_and]
 rw[e1,e2];cases b<;>cases bJ 0 n<;>cases bJ n 9<;>cases bJ (-1) m<;>cases bJ m 1<;>rfl
def z8c(x:ak)(hx:gF x):nz (x,())=some (gQ x,()):=by obtain⟨s,n,m⟩:=x;rw[aaw,Zo s hx.1,af];exact zeq _ n m
def qrf(x:ak)(hx:gF x)(_:x.1.length<=1000000):nz (x,())=some (gQ x,()):=z8c x hx
def kP(l:List ak)(op:List Int):Option ak:=l.find? fun x=>decide (x.1=op)
def zki(x:ak)(op:List Int):sF (x,op,())=some (bM x.1 op,()):=aaA x.1 x.2.1 x.2.2 op
def zcp(n:Bool)(l:List ak)(op:List Int)(hl:l.length<=1000000):∀(m k:Nat),k+m=l.length->∃r,aD pK (⟨n,l⟩,op,(l.length:Int),(k:Int),())=some (r,())/\((r=-1/\kP (l.drop k) op=none)\/∃j x:_,r=((j:Nat):Int)/\l[j]?=some x/\kP (l.drop k) op=some x):=by
 intro m
 induction m with
 |zero=>intro k hk;refine⟨-1,bZ ?_,.inl ⟨rfl,by rw[zw om];rfl⟩⟩;rw[q6h];simp only;rw[bD,if_neg om]
 |succ m ih=>
  intro k hk;have hc:k<l.length:=om
  have hf:kP (l.drop k) op=if l[k].1=op then some l[k] else kP (l.drop (k+1)) op:=by
   rw[jW hc];unfold kP
   grind
  have step:pK (⟨n,l⟩,op,(l.length:Int),(k:Int),())=if l[k].1=op then some (.inr ((k:Int),())) else some (.inl (⟨n,l⟩,op,(l.length:Int),((k+1:Nat):Int),())):=by rw[q6h];simp only;rw[bD,if_pos om,aU (zf hc),af,zki,af,GB,aB om]
  by_cases h:l[k].1=op
  ·rw[if_pos h] at step hf;exact⟨k,bZ step,.inr ⟨k,l[k],rfl,zf hc,hf⟩⟩
  ·rw[if_neg h] at step hf;obtain⟨r,h1,h2⟩:=ih (k+1) om;rw[hf];exact⟨r,by rw[cU step,h1],h2⟩
def qvy(n:Bool)(l:List ak)(op:List Int)(hl:l.length<=1000000):nA (⟨n,l⟩,op,())=some (match kP l op with|some x=>(x,true,())|none=>(([],0,0),false,())):=by
 obtain⟨r,h1,h2⟩:=zcp n l op hl l.length 0 om;rw[List.drop_zero] at h2;have h1:aD pK (⟨n,l⟩,op,ae l,0,())=some (r,()):=h1;rw[aaC,aaB,h1,af,bD];rcases h2 with ⟨rfl,h2⟩|⟨j,x,rfl,h3,h4⟩
 ·grind
 ·rw[if_neg om,aU h3,af,h4]
def gL(l:List ak):Prop:=(∀x,x∈l->gF x)/\(∀x,x∈l->x.1.length<=1000000)/\l.length<=1000000
def gL.take{l:List ak}(h:gL l)(k:Nat):gL (l.take k):=⟨fun x hx=>h.1 x (List.mem_of_mem_take hx),fun x hx=>h.2.1 x (List.mem_of_mem_take hx),by rw[zP];have:=h.2.2;omega⟩
def z8d(n:Bool){l:List ak}(h:gL l):∀(m k:Nat),k+m=l.length->∃r,aD pJ (⟨n,l⟩,(l.length:Int),(k:Int),())=some (r,())/\(0<=r↔(l.drop k).any (fun x=>!gQ x)=true):=by
 intro m;have hl:=h.2.2
 induction m with
 |zero=>intro k hk;refine⟨-1,bZ ?_,by rw[zw om];simp⟩;rw[q6g];simp only;rw[bD,if_neg om]
 |succ m ih=>
  intro k hk;have he:k<l.length:=om
  rw[jW he];have hr:=qrf l[k] (h.1 _ (List.getElem_mem he)) (h.2.1 _ (List.getElem_mem he));have hc:sE (l[k],())=some (!gQ l[k],()):=by have:=aax l[k].1 l[k].2.1 l[k].2.2;have hr:nz ((l[k].1,l[k].2.1,l[k].2.2),())=some (gQ l[k],()):=hr;rw[hr,af] at this;exact this
  have step:pJ (⟨n,l⟩,(l.length:Int),(k:Int),())=if gQ l[k]=false then some (.inr ((k:Int),())) else some (.inl (⟨n,l⟩,(l.length:Int),((k+1:Nat):Int),())):=by rw[q6g];simp only;rw[bD,if_pos om,aU (zf he),af,hc,af,aB om];cases gQ l[k]<;>rfl
  cases hb:gQ l[k] with
  |false=>rw[if_pos hb] at step;exact⟨k,bZ step,by simp[hb,-List.getElem_cons_drop]⟩
  |true=>rw[if_neg (by rw[hb];decide)] at step;obtain⟨r,h1,h2⟩:=ih (k+1) om;exact⟨r,by rw[cU step,h1],by rw[h2];simp[hb,-List.getElem_cons_drop]⟩
def BJ(l:List ak)(k:Nat):Bool:=match l[k]? with
 |some x=>(kP (l.take k) x.1).isSome
 |none=>false
def nU(l:List ak):Nat->Nat->Bool
 |0,_=>false
 |m+1,k=>BJ l k||nU l m (k+1)
def iD(l:List ak):Int:=if 400<l.length\/l.any (fun x=>!gQ x)=true then 40 else if nU l l.length 0=true then 41 else 0
def zcq{x:ak}(h:gQ x=true):x.1≠[]:=by intro e;unfold gQ gJ A9 at h;rw[e] at h;simp at h
def Zx{l:List ak}{op:List Int}{x:ak}(h:kP l op=some x):x∈l/\x.1=op:=⟨List.mem_of_find?_eq_some h,by have:=List.find?_some h;simpa using this⟩
def z43(n1 n2:Bool){l:List ak}(h:gL l)(hr:∀x,x∈l->gQ x=true):∀(m k:Nat),k+m=l.length->aD tE (⟨n1,l⟩,⟨n2,l⟩,(l.length:Int),(k:Int),())=some (if nU l m k=true then 41 else 0,()):=by
 intro m;have hl:=h.2.2
 induction m with
 |zero=>intro k hk;refine bZ ?_;rw[qjh];simp only;rw[bD,if_neg om];rfl
 |succ m ih=>
  intro k hk;have hc:k<l.length:=om
  have hg:=zf hc;have hd:BJ l k=(kP (l.take k) l[k].1).isSome:=by unfold BJ;rw[hg]
  have hf:=qvy n1 (l.take k) l[k].1 (h.take k).2.2;have step:tE (⟨n1,l⟩,⟨n2,l⟩,(l.length:Int),(k:Int),())=if BJ l k=true then some (.inr (41,())) else some (.inl (⟨n1,l⟩,⟨n2,l⟩,(l.length:Int),((k+1:Nat):Int),())):=by
   rw[qjh];simp only;rw[bD,if_pos om,aU hg,af,qyh om,af,hf,af,aB om,hd];cases he:kP (l.take k) l[k].1 with
   |none=>rfl
   |some x=>have hx:=zcq (hr x (List.mem_of_mem_take (Zx he).1));have:bM x.1 []=false:=beq_eq_false_iff_ne.2 hx;simp only[this];rfl
  unfold nU;cases hb:BJ l k with
  |true=>rw[hb,if_pos rfl] at step;rw[bZ step];rfl
  |false=>rw[hb,if_neg Bool.false_ne_true] at step;rw[cU step,ih (k+1) om,Bool.false_or]
def Rn(n:Bool){l:List ak}(h:gL l):iZ (⟨n,l⟩,())=some (iD l,()):=by
 have hl:=h.2.2;obtain⟨r,h1,h2⟩:=z8d n h l.length 0 om;rw[List.drop_zero] at h2;have h1:aD pJ (⟨n,l⟩,ae l,0,())=some (r,()):=h1;rw[aaD,aaz,aay,h1,af,af];have hc:bJ 0 r=l.any (fun x=>!gQ x):=by rw[Bool.eq_iff_iff,<-h2];exact decide_eq_true_iff
 rw[hc,bD];unfold iD;by_cases h4:400<l.length
 ·rw[if_pos (by show(400:Int)<(l.length:Int);omega),af,if_pos (.inl h4)];rfl
 ·rw[if_neg (by show ¬(400:Int)<(l.length:Int);omega),af];cases ha:l.any (fun x=>!gQ x) with
  |true=>rw[if_pos (.inr rfl)];rfl
  |false=>
   rw[aI,if_neg (by simp[h4])];have hr:∀x,x∈l->gQ x=true:=fun x hx=>by grind
   exact z43 n n h hr l.length 0 om
def z16(l:List ak)(op:List Int):l.any (fun x=>decide (x.1=op))=(kP l op).isSome:=by
 unfold kP
 grind
def z17{l:List ak}{j:Nat}(hj:j<l.length):BJ l j=(l.take j).any (fun x=>decide (x.1=l[j].1)):=by unfold BJ;rw[zf hj,z16]
def qt3{l:List ak}(h:iD l=0):l.length<=400/\(∀x,x∈l->gQ x=true)/\nU l l.length 0=false:=by
 unfold iD at h
 grind
def qvz(l:List ak):∀(m k:Nat),nU l m k=false↔∀j,k<=j->j<k+m->BJ l j=false
 |0,k=>by simp[nU];intro j h1 h2;omega
 |m+1,k=>by
  unfold nU;rw[Bool.or_eq_false_iff,qvz l m (k+1)]
  grind
def ve{l:List ak}:nU l l.length 0=false↔l.Pairwise fun x y=>x.1≠y.1:=by
 rw[qvz,List.pairwise_iff_getElem];constructor
 ·intro h i j hi hj hc e;have:=h j om om;rw[z17 hj,List.any_eq_false] at this;have hm:l[i]∈l.take j:=by
   rw[List.mem_take_iff_getElem]
   grind
  grind
 ·intro h j _ hj;have hj:j<l.length:=om
  rw[z17 hj,List.any_eq_false];intro x hx;obtain⟨i,hi,rfl⟩:=List.mem_take_iff_getElem.1 hx
  grind
end Fn
open Fx (B Inv Mid lo U3 Ra Zw z8b)
namespace Fn
def lvF(fs:List ak)(i:Nat):Int:=match fs[i]? with
 |some x=>x.2.1
 |none=>0
def sdF(fs:List ak)(i:Nat):Int:=match fs[i]? with
 |some x=>x.2.2
 |none=>0
end Fn
open Fx (B Inv Mid lo U3 Ra Zw z8b)
namespace Fn
def PB{α:Type}(l m:List α):app l m=l++m:=Eq.trans (Eq.refl _) (Eq.refl _)
def zjc(fs:List ak):Option (List Int):=z8b (lvF fs) (sdF fs) fs.length
def z8e(l:List ak):List (List Int)->Option (List ak)
 |[]=>some []
 |op::r=>match kP l op with
  |none=>none
  |some x=>match z8e l r with
   |none=>none
   |some y=>some (x::y)
def qyn:AL ()=some (⟨false,vA⟩,()):=acw
def z8f(s:List Int)(n:Bool)(l:List (List Int))(hl:l.length<=1000000):∀(m k:Nat),k+m=l.length->aD uj (s,⟨n,l⟩,(k:Int),())=some (decide (s∈l.drop k),()):=by
 intro m
 induction m with
 |zero=>intro k hk;refine bZ ?_;rw[qjx];simp only;rw[bD,if_neg (by unfold ae;omega),zw om];simp
 |succ m ih=>
  intro k hk;have hc:k<l.length:=om
  rw[jW hc];have step:uj (s,⟨n,l⟩,(k:Int),())=if l[k]=s then some (.inr (true,())) else some (.inl (s,⟨n,l⟩,((k+1:Nat):Int),())):=by rw[qjx];simp only;rw[bD,if_pos (by unfold ae;omega),aU (zf hc),af,GB,aB om]
  by_cases h:l[k]=s
  ·rw[if_pos h] at step;rw[bZ step]
   grind
  ·rw[if_neg h] at step;rw[cU step,ih (k+1) om]
   grind
def qw0(s:List Int):Eu (s,())=some (decide (s∈vA),()):=by rw[acx,qyn,af];exact z8f s false vA dc 25 0 dc
def zh1(c:Int):∀(m k:Nat),k+m=16->∃r,aD nK (c,aR,(k:Int),())=some (r,())/\r<=5/\(r=5↔c∈aR.drop k):=by
 have he:aR.length=16:=rfl;intro m
 induction m with
 |zero=>
  intro k hk;rw[zw om];have last:∀(b1 b2 b3 b4:Bool),∃r:Int,(aP b1 (some (Sum.inr (1,()))) (aP b2 (some (Sum.inr (2,()))) (aP b3 (some (Sum.inr (3,()))) (aP b4 (some (Sum.inr (4,()))) (some (Sum.inr (0,())))))):Option ((Int×(List Int)×Int×Unit)⊕(Int×Unit)))=some (.inr (r,()))/\r<=5/\r≠5:=by intro b1 b2 b3 b4;cases b1<;>cases b2<;>cases b3<;>cases b4<;>exact⟨_,rfl,by decide,by decide⟩
  have two:∀(a b:Int) (b2:Bool),(aP (bJ a c) (some b2) (some false):Option Bool)=some (bJ a c&&b2):=fun a b b2=>by cases bJ a c<;>rfl
  have or2:∀(b1 b2:Bool),(aP b1 (some true) (some b2):Option Bool)=some (b1||b2):=fun b1 b2=>by cases b1<;>rfl
  obtain⟨r,h1,h2,h3⟩:=last (bJ 97 c&&bJ c 122) (bJ 65 c&&bJ c 90) (bJ 48 c&&bJ c 57) (ag c 95||ag c 39);refine⟨r,bZ ?_,h2,by simp[h3]⟩;rw[Zk];simp only;rw[bD,if_neg (by unfold ae;omega),two 97 0,two 65 0,two 48 0,or2];simp only[af];exact h1
 |succ m ih=>
  intro k hk;have hc:k<aR.length:=om
  rw[jW hc];have step:nK (c,aR,(k:Int),())=if aR[k]=c then some (.inr (5,())) else some (.inl (c,aR,((k+1:Nat):Int),())):=by rw[Zk];simp only;rw[bD,if_pos (by unfold ae;omega),aU (zf hc),af,gP,aB om]
  by_cases h:aR[k]=c
  ·rw[if_pos h] at step;exact⟨5,bZ step,by omega,by simp[h,-List.getElem_cons_drop]⟩
  ·rw[if_neg h] at step;obtain⟨r,h1,h2,h3⟩:=ih (k+1) om;have hn:c≠aR[k]:=fun e=>h e.symm;exact⟨r,by rw[cU step,h1],h2,by rw[h3];simp[hn,-List.getElem_cons_drop]⟩
def cg(c:Int):∃r,tn (c,())=some (r,())/\r<=5/\(r=5↔c∈aR):=by obtain⟨r,h1,h2,h3⟩:=zh1 c 16 0 rfl;exact⟨r,by rw[Uu];exact h1,h2,h3⟩
def z44(s:List Int)(hl:s.length<=1000000):∀(m k:Nat),k+m=s.length->aD nL (s,(k:Int),5,5,())=some (((k+vd (s.drop k):Nat):Int),()):=by
 intro m
 induction m with
 |zero=>intro k hk;refine bZ ?_;rw[Zl];simp only;rw[bD,if_neg (by unfold ae;omega),zw om];rfl
 |succ m ih=>
  intro k hk;have hc:k<s.length:=om
  rw[jW hc];obtain⟨r,h1,h2,h3⟩:=cg s[k];have c0:aL (k:Int) (ae s)=true:=zt (by unfold ae;omega);have step:nL (s,(k:Int),5,5,())=if s[k]∈aR then some (.inl (s,((k+1:Nat):Int),5,5,())) else some (.inr ((k:Int),())):=by
   rw[Zl];simp only[c0,aK,aU (zf hc),af,h1,aB (by omega:k<=1000000000)];by_cases hm:s[k]∈aR
   ·rw[if_pos hm];have:r=5:=h3.2 hm;subst this;rfl
   ·rw[if_neg hm];have:bJ 5 r=false:=zo (fun e=>hm (h3.1 om));simp only[this,aI,af]
  unfold vd;by_cases hm:s[k]∈aR
  ·rw[if_pos hm] at step ⊢;rw[cU step,ih (k+1) om];congr 2;omega
  ·rw[if_neg hm] at step ⊢;rw[bZ step];rfl
def qp7(s:List Int)(hl:s.length<=1000000):lL ((5,s,0,0),())=some (gJ s,()):=by
 rw[Ni];have c1:aL 0 0=false:=rfl;have c2:ag 5 3=false:=rfl;have c3:ag 0 0=true:=rfl;have c4:ag 5 1=false:=rfl;have c5:ag 5 2=false:=rfl;have c6:ag 5 4=false:=rfl;have c7:ag 5 5=true:=rfl;have hw:AK (s,0,5,5,())=some ((vd s:Int),()):=by
  rw[Uv];have:=z44 s hl s.length 0 om
  grind
 have he:ag (vd s:Int) (ae s)=s.all (fun b=>decide (b∈aR)):=by rw[Bool.eq_iff_iff,ct,<-z0z];unfold ae;omega
 have hn:bM s []=s.isEmpty:=by cases s<;>rfl
 simp only[c1,c2,c3,c4,c5,c6,c7,aI,aK,af,ar,hw,he,hn,qw0];unfold gJ A9;cases s.isEmpty<;>cases s.all (fun b=>decide (b∈aR))<;>cases decide (s∈vA)<;>rfl
def z8g(c:Int):∀(m k:Nat),k+m=16->aD nK (c,aR,(k:Int),())=some (bif decide (c∈aR.drop k) then 5 else bif pj c then 1 else bif lM c then 2 else bif E1 c then 3 else bif ag c 95||ag c 39 then 4 else 0,()):=by
 have he:aR.length=16:=rfl;intro m
 induction m with
 |zero=>intro k hk;rw[zw om];refine bZ ?_;rw[Zk];simp only;rw[bD,if_neg (by unfold ae;omega)];simp only[Ll,UU,af];show _=some (Sum.inr (bif decide (c∈[]) then _ else _,()));have:decide (c∈([]:List Int))=false:=rfl;rw[this];show(aP (pj c) _ (aP (lM c) _ (aP (E1 c) _ _)):Option _)=_;cases pj c<;>cases lM c<;>cases E1 c<;>cases (ag c 95||ag c 39)<;>rfl
 |succ m ih=>
  intro k hk;have hc:k<aR.length:=om
  rw[jW hc];have step:nK (c,aR,(k:Int),())=if aR[k]=c then some (.inr (5,())) else some (.inl (c,aR,((k+1:Nat):Int),())):=by rw[Zk];simp only;rw[bD,if_pos (by unfold ae;omega),aU (zf hc),af,gP,aB om]
  by_cases h:aR[k]=c
  ·rw[if_pos h] at step;rw[bZ step]
   grind
  ·rw[if_neg h] at step;have hn:c≠aR[k]:=fun e=>h e.symm;rw[cU step,ih (k+1) om]
   grind
def qw1(c:Int):tn (c,())=some (BI c,()):=by rw[Uu];exact z8g c 16 0 rfl
def qyo(s:List Int)(hl:s.length<=1000000):∀(m k:Nat),k+m=s.length->aD nL (s,(k:Int),1,4,())=some (((k+pn (s.drop k):Nat):Int),()):=by
 intro m
 induction m with
 |zero=>intro k hk;refine bZ ?_;rw[Zl];simp only;rw[bD,if_neg (by unfold ae;omega),zw om];rfl
 |succ m ih=>
  intro k hk;have hc:k<s.length:=om
  rw[jW hc];have c0:aL (k:Int) (ae s)=true:=zt (by unfold ae;omega);have step:nL (s,(k:Int),1,4,())=bif j7 s[k] then some (.inl (s,((k+1:Nat):Int),1,4,())) else some (.inr ((k:Int),())):=by rw[Zl];simp only[c0,aK,aU (zf hc),af,qw1,aB (by omega:k<=1000000000)];rw[<-z3o];cases bJ 1 (BI s[k])<;>cases bJ (BI s[k]) 4<;>rfl
  unfold pn;cases hm:j7 s[k] with
  |true=>rw[hm] at step;rw[cU step,ih (k+1) om];simp only[cond_true];congr 2;omega
  |false=>rw[hm] at step;rw[bZ step];rfl
def zer(k:Int)(p:Int->Bool)(hp:∀c,j7 c=true->ag (BI c) k=p c)(s:List Int)(hl:s.length<=1000000)(X:Option (Bool×Unit)):aP (ar (bM s ([]:List Int))) (az (cM s 0) (fun x1=>az (tn (x1,())) (fun x2=>aP (ag x2.1 k) (az (AK (s,0,1,4,())) (fun x3=>aP (ag x3.1 (ae s)) (az (Eu (s,())) (fun x4=>some (ar x4.1,()))) (some (false,())))) (some (false,()))))) X=bif s.isEmpty then X else some (qe p s,()):=by
 have hw:AK (s,0,1,4,())=some ((pn s:Int),()):=by
  rw[Uv];have:=qyo s hl s.length 0 om
  grind
 have he:ag (pn s:Int) (ae s)=s.all j7:=by rw[Bool.eq_iff_iff,ct,<-z10];unfold ae;omega
 cases s with
 |nil=>rfl
 |cons b r=>
  have hn:bM (b::r) []=false:=rfl;have h0:cM (b::r) 0=some b:=rfl;simp only[hn,ar,Bool.not_false,aK,h0,af,qw1,hw,he,qw0];have hi:List.isEmpty (b::r)=false:=rfl;rw[hi,cond_false];unfold qe;rw[hi];show _=some (_&&p b&&_,());cases hb:j7 b with
  |true=>rw[hp b hb];cases List.all (b::r) j7<;>cases p b<;>cases decide (b::r∈vA)<;>rfl
  |false=>
   have ha:List.all (b::r) j7=false:=by rw[List.all_cons,hb];rfl
   rw[ha];cases ag (BI b) k<;>rfl
def z45(s:List Int)(hl:s.length<=1000000):lL ((1,s,0,0),())=some (qe pj s,()):=by rw[Ni];have c1:aL 0 0=false:=rfl;have c3:ag 0 0=true:=rfl;have c4:ag 1 1=true:=rfl;simp only[c1,c3,c4,aI,aK,af];rw[zer 1 pj (fun c h=>z3p h) s hl];cases s<;>rfl
def qlr(s:List Int)(hl:s.length<=1000000):lL ((2,s,0,0),())=some (qe lM s,()):=by rw[Ni];have c1:aL 0 0=false:=rfl;have c3:ag 0 0=true:=rfl;have c4:ag 2 1=false:=rfl;have c5:ag 2 2=true:=rfl;simp only[c1,c3,c4,c5,aI,aK,af];rw[zer 2 lM (fun c h=>z3q h) s hl];cases s<;>rfl
def qrg{s:List Int}(hl:s.length<=1000000):AQ (s,())=some (aW s,()):=by rw[acP,z45 s hl,qp7 s hl];simp only[af,UU];rfl
def qw2{s:List Int}(hl:s.length<=1000000):AM (s,())=some (gK s,()):=by rw[acC,qlr s hl];rfl
def zjd(b:Bool)(l:List ND)(hl:l.length<=10000):∀(N m k:Nat),l.length-k<N->l.length-k=m->bc tq N (⟨b,l⟩,(k:Int),())=some (eP l k 1,()):=by
 intro N
 induction N with
 |zero=>intro m k h;exact absurd h (Nat.not_lt_zero _)
 |succ N ih=>
  intro m k hN hm;show tq (bc tq N) _=_;rw[acF];have c0:aL (k:Int) 0=false:=zo om;simp only[c0,aI];by_cases hg:k<l.length
  ·obtain⟨d,hd⟩:∃d,l[k]?=some d:=⟨_,zf hg⟩;have hc:l.drop k=d::l.drop (k+1):=by
    rw[jW hg]
    grind
   obtain⟨x,t,n,z⟩:=d;have c0:bJ (ae l) (k:Int)=false:=zo (by unfold ae;omega);have hf:=aU hd;by_cases hz:0<=z/\z<=(l.length:Int)
   ·have c1:aL z 0=false:=zo om;have c2:aL (ae l) z=false:=zo (by unfold ae;omega);have e3:=aB (show k<=1000000000 by omega);simp only[c0,aI,af,hf,c1,c2,e3];have he:eP l k 1=(skip l.length (l.drop (k+1)) z.toNat).elim (-1) fun r=>(l.length:Int)-(r.length:Int):=by
     unfold eP;rw[hc,Lm]
     grind
    rw[he];have loop:∀(j i q:Nat),(i:Int)+j=z->k<q->q<=l.length->
      aD (um (bc tq N)) (⟨b,l⟩,(k:Int),(q:Int),(i:Int),())=some ((skip l.length (l.drop q) j).elim (-1) fun r=>(l.length:Int)-(r.length:Int),()):=by
     intro j
     induction j with
     |zero=>
      intro i q h1 h2 h3;refine bZ ?_;rw[qjy];simp only[hf,af];rw[bD,if_neg om,Rk]
      grind
     |succ j ihj=>
      intro i q h1 h2 h3;have hi:=ih (l.length-q) q om rfl;have e:j+1=1+j:=om
      rw[e,z12];have step:um (bc tq N) (⟨b,l⟩,(k:Int),(q:Int),(i:Int),())=if eP l q 1<0 then some (.inr (-1,())) else some (.inl (⟨b,l⟩,(k:Int),eP l q 1,((i+1:Nat):Int),())):=by rw[qjy];simp only[hf,af];rw[bD,if_pos om];simp only[hi,af,aB (show i<=1000000000 by omega)];rw[bD]
      cases hs:skip l.length (l.drop q) 1 with
      |none=>rw[zcg hs,if_pos dc] at step;rw[bZ step];rfl
      |some r=>
       obtain⟨s1,s2,s3⟩:=zce _ hs;rw[zT] at s1 s2 s3;have hj:eP l q 1=((l.length-r.length:Nat):Int):=by unfold eP;rw[hs];show(l.length:Int)-(r.length:Int)=_;omega
       rw[hj,if_neg om] at step;rw[cU step,ihj (i+1) (l.length-r.length) om om om];show _=some ((skip l.length r j).elim _ _,());have:r=l.drop (l.length-r.length):=by rw[List.drop_drop] at s3;rw[show l.length-r.length=q+(l.length-q-r.length) by omega];exact s3
       rw[<-this]
    exact loop z.toNat 0 (k+1) om om om
   ·have he:eP l k 1=-1:=by
     unfold eP;rw[hc,Lm]
     grind
    rw[he];simp only[c0,aI,af,hf];cases h1:aL z 0 with
    |true=>simp only[aK,af]
    |false=>
     have c2:aL (ae l) z=true:=by have:=of_decide_eq_false h1;exact zt (by unfold ae;omega)
     simp only[aI,af,c2,aK]
  ·have he:eP l k 1=-1:=by unfold eP;rw[zw om];rfl
   have c0:bJ (ae l) (k:Int)=true:=zt (by unfold ae;omega);rw[he];simp only[c0,aK,af]
def qp8(b:Bool)(l:List ND)(hl:l.length<=10000)(k:Nat):AO (⟨b,l⟩,(k:Int),())=some (eP l k 1,()):=vw (l.length-k+1) fun N hN=>zjd b l hl N (l.length-k) k om rfl
def Zy(b:Bool)(l:List ND)(hl:l.length<=10000):q8 (⟨b,l⟩,())=some (yh l,()):=by rw[acG];have:=qp8 b l hl 0;have h0:((0:Nat):Int)=0:=rfl;rw[h0] at this;simp only[this,af,Ll];unfold yh aL ag ae;have e1:decide ((0:Int)<(l.length:Int))=decide (0<l.length):=decide_eq_decide.2 om;rw[e1];rfl
def yo(b:Bool)(l:List ND)(hl:l.length<=10000){k:Nat}{x:Int}{t:List Int}{n:Int}{ks r:F}(h:aJ l k (.cons x t n ks r)):dJ (⟨b,l⟩,(k:Int),())=some (⟨false,ks.pos (k+1)⟩,()):=by
 obtain⟨g1,g2,g3,g4⟩:=h.node;have he:=aU g1;rw[acQ,qp8 b l hl,h.ends];simp only[af];rw[bD,if_neg om,aB om];have loop:∀(g:F) (q i:Nat) (out:List Int),aJ l q g->out.length=i->i+g.av=ks.av->q<=l.length->
   aD uE (⟨b,l⟩,(k:Int),(q:Int),(i:Int),⟨false,out⟩,())=some (⟨false,out++g.pos q⟩,()):=by
  intro g
  induction g with
  |nil=>intro q i out hs ho hi hq;have hi:i+0=ks.av:=hi;refine bZ ?_;rw[qha];simp only[he,af];rw[bD,if_neg om];show _=some (Sum.inr ((⟨false,out++[]⟩:Sl Int),()));rw[zn]
  |cons x' t' n' bE r' _ ih=>
   intro q i out hs ho hi hq;have hi:i+(r'.av+1)=ks.av:=hi;have hc:=ks.cu;have s4:=hs.node;have step:uE (⟨b,l⟩,(k:Int),(q:Int),(i:Int),⟨false,out⟩,())=some (.inl (⟨b,l⟩,(k:Int),((q+1+bE.size:Nat):Int),((i+1:Nat):Int),⟨false,out++[(q:Int)]⟩,())):=by rw[qha];simp only[he,af];rw[bD,if_pos om];have hf:fit (bS (ae out) (ae [(q:Int)]))=some ():=il (by show out.length+1<=_;omega);rw[hf,af,qp8 b l hl,af,hs.ends,aB om,JF];rfl
   rw[cU step,ih _ _ _ s4.2.2.1 (by rw[zd,ho];rfl) om om,zm];rfl
 have:=loop ks (k+1) 0 [] g2 rfl om om;exact this
def PE(b:Bool)(l:List ND)(hl:l.length<=10000){k:Nat}{x:Int}{t:List Int}{n:Int}{ks r:F}(h:aJ l k (.cons x t n ks r)):∃nb,fM (⟨b,l⟩,(k:Int),())=some (⟨nb,ks.pos (k+1)⟩,()):=by
 obtain⟨g1,g2,g3,g4⟩:=h.node;have he:=aU g1;rw[abN,Rl b l hl,h.ends];simp only[af,he];rw[bD,if_neg om,aB om];have hc:=ks.cu;have loop:∀(g:F) (q i:Nat) (nb:Bool) (out:List Int),aJ l q g->out.length=i->i+g.av=ks.av->q<=l.length->
   ∃yi,aD tX (⟨b,l⟩,(q:Int),(ks.av:Int),⟨nb,out⟩,())=some (⟨yi,out++g.pos q⟩,()):=by
  intro g
  induction g with
  |nil=>intro q i nb out hs ho hi hq;have hi:i+0=ks.av:=hi;refine⟨nb,bZ ?_⟩;rw[qjk];simp only;rw[bD,if_neg (by unfold ae;omega)];show _=some (Sum.inr ((⟨nb,out++[]⟩:Sl Int),()));rw[zn]
  |cons x' t' n' bE r' _ ih=>
   intro q i nb out hs ho hi hq;have hi:i+(r'.av+1)=ks.av:=hi;have s4:=hs.node;have step:tX (⟨b,l⟩,(q:Int),(ks.av:Int),⟨nb,out⟩,())=some (.inl (⟨b,l⟩,((q+1+bE.size:Nat):Int),(ks.av:Int),⟨false,out++[(q:Int)]⟩,())):=by rw[qjk];simp only;rw[bD,if_pos (by unfold ae;omega)];have hf:fit (bS (ae out) (ae [(q:Int)]))=some ():=il (by show out.length+1<=_;omega);rw[hf,af,Rl b l hl,af,hs.ends,JF];rfl
   obtain⟨yi,h'⟩:=ih (q+1+bE.size) (i+1) false (out++[(q:Int)]) s4.2.2.1 (by rw[zd,ho];rfl) om om;refine⟨yi,?_⟩;rw[cU step,h',zm];rfl
 exact loop ks (k+1) 0 true [] g2 rfl om om
def z46(b:Bool)(l:List ND)(hl:l.length<=10000){k:Nat}{x:Int}{t:List Int}{n:Int}{ks:F}(h:aJ l k (tr x t n ks)):MK (⟨b,l⟩,(k:Int),())=some (((ks.dep+1:Nat):Int),()):=by
 refine vw (ks.size+1) ?_;refine F.jC (l:=l) (P:=fun k x t n ks=>∀N,ks.size+1<=N->bc o8 N (⟨b,l⟩,(k:Int),())=some (((ks.dep+1:Nat):Int),())) ?_ h;intro k x t n ks hs he N hN;obtain⟨N,rfl⟩:∃m,N=m+1:=⟨N-1,by omega⟩;show o8 (bc o8 N) _=_;rw[acR,yo b l hl hs,af];have ho:=hs.node.2.2.2;have hq:=ks.j8;have loop:∀(g:F) (q:Nat) (pre:List Int) (cR:Nat),g.rm (fun k x t n ks=>∀N,ks.size+1<=N->bc o8 N (⟨b,l⟩,(k:Int),())=some (((ks.dep+1:Nat):Int),())) q->
   g.size<=N->g.size<=10000->pre++g.pos q=ks.pos (k+1)->cR<=100000->
   aD (pW (bc o8 N)) (⟨b,l⟩,(cR:Int),⟨false,ks.pos (k+1)⟩,(pre.length:Int),())=some (((max cR g.dep+1:Nat):Int),()):=by
  intro g
  induction g with
  |nil=>intro q pre cR hE hz _ hp hm;have hp:pre++[]=ks.pos (k+1):=hp;rw[zn] at hp;refine bZ ?_;rw[qhb];simp only;rw[bD,if_neg (by rw[hp];unfold ae;omega),aB om];show _=some (Sum.inr (((max cR 0+1:Nat):Int),()));rw[Nat.max_zero]
  |cons x' t' n' bE r' _ ih=>
   intro q pre cR hE hz hj hp hm;have hj:bE.size+r'.size+1<=10000:=hj;have hz:bE.size+r'.size+1<=N:=hz;have hp:pre++(q:Int)::r'.pos (q+1+bE.size)=ks.pos (k+1):=hp;have hf:(ks.pos (k+1)).length=ks.av:=ks.dL _;have hn:=congrArg List.length hp;rw[zd,zu,hf] at hn;have hc:=ks.cu;have hg:(ks.pos (k+1))[pre.length]?=some (q:Int):=by rw[<-hp];simp
   have ht:=bE.j8;have step:pW (bc o8 N) (⟨b,l⟩,(cR:Int),⟨false,ks.pos (k+1)⟩,(pre.length:Int),())=some (.inl (⟨b,l⟩,((max cR (bE.dep+1):Nat):Int),⟨false,ks.pos (k+1)⟩,((pre.length+1:Nat):Int),())):=by
    rw[qhb];simp only;rw[bD,if_pos (by unfold ae;rw[hf];omega),aU hg,af,hE.1 N om,af,bD];have ea:=aB (show pre.length<=1000000000 by omega);by_cases hk:(cR:Int)<((bE.dep+1:Nat):Int)
    ·rw[if_pos hk,af,ea]
     grind
    ·rw[if_neg hk,af,ea]
     grind
   have hi:=ih (q+1+bE.size) (pre++[(q:Int)]) (max cR (bE.dep+1)) hE.2 om om (by rw[zm];exact hp) om;rw[zd] at hi;have hi:aD (pW (bc o8 N)) (⟨b,l⟩,((max cR (bE.dep+1):Nat):Int),⟨false,ks.pos (k+1)⟩,((pre.length+1:Nat):Int),())=_:=hi;rw[cU step,hi];show some (((max (max cR (bE.dep+1)) r'.dep+1:Nat):Int),())=some (((max cR (max (bE.dep+1) r'.dep)+1:Nat):Int),());rw[Nat.max_assoc]
 have:=loop ks (k+1) [] 0 he om om rfl om
 grind
def qrh(n:Int)(h:JI n):∃v,tp (n,())=some (v,())/\ag v n=qf n:=by
 obtain⟨h1,h2⟩:=h;have e0:dV .u64 n=n % 18446744073709551616:=Ln n;rw[acz,acy,e0,Mj om dc];simp only[af];rw[XN];by_cases hb:4611686018427387904<=n % 18446744073709551616 % 9223372036854775808
 ·rw[if_pos hb];refine⟨_,rfl,?_⟩;have e1:gS .u64 (n % 18446744073709551616 % 9223372036854775808) 4611686018427387904=n % 18446744073709551616 % 9223372036854775808-4611686018427387904:=by unfold gS;rw[Ln];omega
  rw[e1,qy7 om om,xH om om,Bool.eq_iff_iff,ct];unfold qf
  grind
 ·rw[if_neg hb];refine⟨_,rfl,?_⟩;rw[qy7 om om,Bool.eq_iff_iff,ct];unfold qf
  grind
def z8h:∀a:Int,ED (a,())=some (fX a,()):=by refine Zs (by kernel_rfl) (by kernel_rfl) (by kernel_rfl) (by kernel_rfl) (by kernel_rfl) (by kernel_rfl) (by kernel_rfl) (by kernel_rfl) (by kernel_rfl) (by kernel_rfl) (by kernel_rfl) (by kernel_rfl) (by kernel_rfl) (by kernel_rfl) (by kernel_rfl) (by kernel_rfl) (fun a h=>?_);have i1:ag a 1=false:=h 1 dc;have i2:ag a 2=false:=h 2 dc;have i3:ag a 3=false:=h 3 dc;have i4:ag a 4=false:=h 4 dc;have i5:ag a 5=false:=h 5 dc;have i6:ag a 6=false:=h 6 dc;have i7:ag a 7=false:=h 7 dc;have i8:ag a 8=false:=h 8 dc;have i9:ag a 9=false:=h 9 dc;have i10:ag a 10=false:=h 10 dc;have i11:ag a 11=false:=h 11 dc;have i12:ag a 12=false:=h 12 dc;have i21:ag a 21=false:=h 21 dc;have i22:ag a 22=false:=h 22 dc;have i23:ag a 23=false:=h 23 dc;have i24:ag a 24=false:=h 24 dc;rw[acT];unfold fX;simp only[i1,i2,i3,i4,i5,i6,i7,i8,i9,i10,i11,i12,i21,i22,i23,i24,aI,af];rfl
def zcr(c:Int)(hc:0<=c):∀a:Int,AR (a,c,())=some (rO a c,()):=by
 have he:AR (10,c,())=some (rO 10 c,()):=by rw[jB];show az (aP (bJ 3 c) (az (jK c 2) fun x4=>some (ag x4 1)) (some false)) (fun x5=>some (x5,()))=some (bJ 3 c&&ag (c % 2) 1,());rw[Mj hc dc];cases bJ 3 c<;>rfl
 refine Zs (by rw[jB];rfl) (by rw[jB];rfl) (by rw[jB];rfl) (by rw[jB];rfl) (by rw[jB];rfl) (by rw[jB];rfl) (by rw[jB];rfl) (by rw[jB];rfl) (by rw[jB];rfl) he (by rw[jB];rfl) (by rw[jB];rfl) (by rw[jB];rfl) (by rw[jB];rfl) (by rw[jB];rfl) (by rw[jB];rfl) (fun a h=>?_);have i1:ag a 1=false:=h 1 dc;have i2:ag a 2=false:=h 2 dc;have i3:ag a 3=false:=h 3 dc;have i4:ag a 4=false:=h 4 dc;have i5:ag a 5=false:=h 5 dc;have i6:ag a 6=false:=h 6 dc;have i7:ag a 7=false:=h 7 dc;have i8:ag a 8=false:=h 8 dc;have i9:ag a 9=false:=h 9 dc;have i10:ag a 10=false:=h 10 dc;have i11:ag a 11=false:=h 11 dc;have i12:ag a 12=false:=h 12 dc;have i21:ag a 21=false:=h 21 dc;have i22:ag a 22=false:=h 22 dc;have i23:ag a 23=false:=h 23 dc;have i24:ag a 24=false:=h 24 dc;rw[jB];unfold rO;simp only[i5,i11,i6,i7,i8,i12,i9,i10,i24,aI,af];rfl
def qri(a:Int):tu (a,())=some (ix a,()):=by rw[acS,Ll];rfl
def z47(b:Bool)(l:List ND)(hl:l.length<=10000){k:Nat}{kd:Int}{t:List Int}{n:Int}{ks r:F}(pat:Bool)(h:aJ l k (.cons kd t n ks r))(ht:t.length<=1000000)(hr:JI n):xc (⟨b,l⟩,(k:Int),pat,())=some (fU kd t n (ks.av:Int) ks.head pat,()):=by
 obtain⟨g1,g2,g3,g4⟩:=h.node;obtain⟨v,w1,w2⟩:=qrh n hr;rw[acU,aU g1];simp only[af,z8h,UU,qri,zcr (ks.av:Int) (Int.natCast_nonneg _),w1,w2,qrg ht,qw2 ht];by_cases h8:kd=8/\ks.av=0
 ·obtain⟨rfl,h0⟩:=h8;rw[h0];have e1:aL (fX 8) 0=false:=rfl;have e2:rO 8 ((0:Nat):Int)=false:=rfl;unfold fU;rw[e1,e2];simp only[aK,aI,ar,Bool.not_false,cond_true,cond_false];cases !fA (ix 8) pat<;>rfl
 ·have e8:=behind (kd:=kd) (l:=l) (k:=k) (ks:=ks) om g2 (fun e h=>h8 ⟨e,h⟩);simp only[e8,af,aK,aI];unfold fU yj;unfold Ba;generalize hT:(ag kd 8&&ar (ag ks.head 5))=T;cases aL (fX kd) 0 with
  |true=>rfl
  |false=>
   cases ar (fA (ix kd) pat) with
   |true=>rfl
   |false=>
    cases ar (rO kd (ks.av:Int)) with
    |true=>rfl
    |false=>
     simp only[aI,cond_false];have fin:(az (aP (ag (fX kd) 1) (some (ar (aW t))) (some false)) (fun x6=>az (aP x6 (some true) (aP (ag (fX kd) 2) (some (ar (gK t))) (some false))) (fun x8=>aP x8 (some ((62:Int),())) (some (0,())))):Option (Int×Unit))=
       some (bif ag (fX kd) 1&&ar (aW t) then 62 else bif ag (fX kd) 2&&ar (gK t) then 62 else 0,()):=by
      cases ag (fX kd) 1<;>cases aW t<;>cases ag (fX kd) 2<;>cases gK t<;>rfl
     simp only[fin];cases (ag kd 1||ag kd 23) with
     |true=>
      simp only[aK,aI,cond_true,ar,Bool.not_true];cases qf n with
      |false=>rfl
      |true=>
       simp only[aI,Bool.not_true,cond_true];cases h0:ag (fX kd) 0 with
       |true=>
        have h3:ag (fX kd) 3=false:=by rw[ct.1 h0];rfl
        simp only[h3,aI,cond_false];cases bM t []<;>cases T<;>rfl
       |false=>cases ag (fX kd) 3<;>cases aL 200 (ae t)<;>cases T<;>rfl
     |false=>
      simp only[aK,aI,cond_false,ar,Bool.not_false];cases ag n 0 with
      |false=>rfl
      |true=>
       simp only[aI,Bool.not_true,cond_true];cases h0:ag (fX kd) 0 with
       |true=>
        have h3:ag (fX kd) 3=false:=by rw[ct.1 h0];rfl
        simp only[h3,aI,cond_false];cases bM t []<;>cases T<;>rfl
       |false=>cases ag (fX kd) 3<;>cases aL 200 (ae t)<;>cases T<;>rfl
def z8i(b:Bool)(l:List ND)(hl:l.length<=10000)(hg:GL l){k:Nat}{kd:Int}{t:List Int}{n:Int}{ks:F}(h:aJ l k (tr kd t n ks)):∀pat N,ks.size+1<=N->bc nE N (⟨b,l⟩,(k:Int),pat,())=some (aX kd t n ks pat,()):=by
 refine F.jC (l:=l) (P:=fun k kd t n ks=>∀pat N,ks.size+1<=N->bc nE N (⟨b,l⟩,(k:Int),pat,())=some (aX kd t n ks pat,())) ?_ h;clear h k kd t n ks;intro k kd t n ks hs he pat N hN;obtain⟨N,rfl⟩:∃m,N=m+1:=⟨N-1,by omega⟩;show nE (bc nE N) _=_;obtain⟨g1,g2,g3,g4⟩:=hs.node;obtain⟨q1,q2,q3⟩:=hg.at g1;rw[acV,z47 b l hl pat hs q2 q3,yo b l hl hs];simp only[af];unfold aX;cases hE:ar (ag (fU kd t n (ks.av:Int) ks.head pat) 0) with
 |true=>rw[aK,cond_true]
 |false=>
  rw[aI,cond_false];have loop:∀(g:F) (q:Nat) (pre:List Int),g.rm (fun k kd t n ks=>∀pat N,ks.size+1<=N->bc nE N (⟨b,l⟩,(k:Int),pat,())=some (aX kd t n ks pat,())) q->
    g.size<=N->pre++g.pos q=ks.pos (k+1)->
    aD (pX (bc nE N)) (⟨b,l⟩,(k:Int),pat,⟨false,ks.pos (k+1)⟩,(pre.length:Int),())=some (eC (ag kd 10) pat (ag ((pre.length:Int) % 2) 1) g,()):=by
   intro g
   induction g with
   |nil=>intro q pre _ _ hp;have hp:pre++[]=ks.pos (k+1):=hp;rw[zn] at hp;refine bZ ?_;rw[qfm];simp only;rw[bD,if_neg (by rw[hp];unfold ae;omega),z14]
   |cons po t' n' bE r' _ ih=>
    intro q pre hE hz hp;have hz:bE.size+r'.size+1<=N:=hz;have hp:pre++(q:Int)::r'.pos (q+1+bE.size)=ks.pos (k+1):=hp;have hf:(ks.pos (k+1)).length=ks.av:=ks.dL _;have hn:=congrArg List.length hp;rw[zd,zu,hf] at hn;have hc:=ks.cu;have hk:(ks.pos (k+1))[pre.length]?=some (q:Int):=by rw[<-hp];simp
    rw[qp3];have hw:=hE.1 (pat||(ag kd 10&&ag ((pre.length:Int) % 2) 1)) N om;have step:pX (bc nE N) (⟨b,l⟩,(k:Int),pat,⟨false,ks.pos (k+1)⟩,(pre.length:Int),())=
      bif ar (ag (aX po t' n' bE (pat||(ag kd 10&&ag ((pre.length:Int) % 2) 1))) 0) then some (.inr (aX po t' n' bE (pat||(ag kd 10&&ag ((pre.length:Int) % 2) 1)),())) else some (.inl (⟨b,l⟩,(k:Int),pat,⟨false,ks.pos (k+1)⟩,((pre.length+1:Nat):Int),())):=by
     rw[qfm];simp only;rw[bD,if_pos (by unfold ae;rw[hf];omega),aU hk,af,aU g1,Mj om dc,aB om];cases pat with
     |true=>rw[Bool.true_or] at hw;simp only[aK,Bool.true_or,hw,af];cases ar (ag (aX po t' n' bE true) 0)<;>rfl
     |false=>
      cases hj:ag kd 10 with
      |true=>rw[hj,Bool.false_or,Bool.true_and] at hw;simp only[aI,Bool.false_or,Bool.true_and,hj,aK,hw,af];cases ar (ag (aX po t' n' bE (ag ((pre.length:Int) % 2) 1)) 0)<;>rfl
      |false=>rw[hj,Bool.false_or,Bool.false_and] at hw;simp only[aI,Bool.false_or,Bool.false_and,hj,hw,af];cases ar (ag (aX po t' n' bE false) 0)<;>rfl
    cases hm:ar (ag (aX po t' n' bE (pat||(ag kd 10&&ag ((pre.length:Int) % 2) 1))) 0) with
    |true=>rw[hm,cond_true] at step;rw[bZ step];rfl
    |false=>rw[hm,cond_false] at step;have hi:=ih (q+1+bE.size) (pre++[(q:Int)]) hE.2 om (by rw[zm];exact hp);rw[zd] at hi;have hi:aD (pX (bc nE N)) (⟨b,l⟩,(k:Int),pat,⟨false,ks.pos (k+1)⟩,((pre.length+1:Nat):Int),())=some (eC (ag kd 10) pat (ag (((pre.length+1:Nat):Int) % 2) 1) r',()):=hi;rw[cU step,hi,z88];rfl
  exact loop ks (k+1) [] he om rfl
def z48(b:Bool)(l:List ND)(hl:l.length<=10000)(hg:GL l){k:Nat}{kd:Int}{t:List Int}{n:Int}{ks:F}(pat:Bool)(h:aJ l k (tr kd t n ks)):MP (⟨b,l⟩,(k:Int),pat,())=some (aX kd t n ks pat,()):=vw (ks.size+1) fun N hN=>z8i b l hl hg h pat N hN
def zcs(b:Bool)(l:List ND)(hl:l.length<=10000){k:Nat}{kd:Int}{t:List Int}{n:Int}{ks:F}(h:aJ l k (tr kd t n ks)):∀N,ks.size+1<=N->bc nG N (⟨b,l⟩,(k:Int),())=some (⟨false,pq kd t ks⟩,()):=by
 refine F.jC (l:=l) (P:=fun k kd t _ ks=>∀N,ks.size+1<=N->bc nG N (⟨b,l⟩,(k:Int),())=some (⟨false,pq kd t ks⟩,())) ?_ h;clear h k kd t n ks;intro k kd t n ks hs he N hN;obtain⟨N,rfl⟩:∃m,N=m+1:=⟨N-1,by omega⟩;show nG (bc nG N) _=_;obtain⟨g1,g2,g3,g4⟩:=hs.node;rw[acW,aU g1];simp only[af];unfold pq;cases hm:ag kd 22 with
 |true=>rfl
 |false=>
  rw[aI,cond_false,yo b l hl hs,af];have loop:∀(g:F) (q:Nat) (pre:List Int) (out:List Tx),g.rm (fun k kd t _ ks=>∀N,ks.size+1<=N->bc nG N (⟨b,l⟩,(k:Int),())=some (⟨false,pq kd t ks⟩,())) q->
    g.size<=N->pre++g.pos q=ks.pos (k+1)->out.length+g.size<=1000000->
    aD (pY (bc nG N)) (⟨b,l⟩,⟨false,ks.pos (k+1)⟩,(pre.length:Int),⟨false,out⟩,())=some (⟨false,out++E3 g⟩,()):=by
   intro g
   induction g with
   |nil=>intro q pre out _ _ hp _;have hp:pre++[]=ks.pos (k+1):=hp;rw[zn] at hp;refine bZ ?_;rw[qhc];simp only;rw[bD,if_neg (by rw[hp];unfold ae;omega)];show _=some (Sum.inr ((⟨false,out++[]⟩:Sl Tx),()));rw[zn]
   |cons po t' n' bE r' _ ih=>
    intro q pre out hE hz hp ho;have hz:bE.size+r'.size+1<=N:=hz;have ho:out.length+(bE.size+r'.size+1)<=1000000:=ho;have hp:pre++(q:Int)::r'.pos (q+1+bE.size)=ks.pos (k+1):=hp;have hg:(ks.pos (k+1)).length=ks.av:=ks.dL _;have hk:=congrArg List.length hp;rw[zd,zu,hg] at hk;have hc:=ks.cu;have hj:(ks.pos (k+1))[pre.length]?=some (q:Int):=by rw[<-hp];simp
    have hv:(pq po t' bE).length<=bE.size+1:=by have:=Zu (tr po t' n' bE);have e:E3 (tr po t' n' bE)=pq po t' bE++[]:=U1 ..;rw[e,zn,xh] at this;exact this
    have hf:fit (bS (ae out) (ae (pq po t' bE)))=some ():=il om;have step:pY (bc nG N) (⟨b,l⟩,⟨false,ks.pos (k+1)⟩,(pre.length:Int),⟨false,out⟩,())=some (.inl (⟨b,l⟩,⟨false,ks.pos (k+1)⟩,((pre.length+1:Nat):Int),⟨false,out++pq po t' bE⟩,())):=by rw[qhc];simp only;rw[bD,if_pos (by unfold ae;rw[hg];omega),aU hj,af,hE.1 N om,af];simp only[hf,af,aB (show pre.length<=1000000000 by omega),z3s];rfl
    have hi:=ih (q+1+bE.size) (pre++[(q:Int)]) (out++pq po t' bE) hE.2 om (by rw[zm];exact hp) (by rw[zd];omega);rw[zd] at hi;have hi:aD (pY (bc nG N)) (⟨b,l⟩,⟨false,ks.pos (k+1)⟩,((pre.length+1:Nat):Int),⟨false,out++pq po t' bE⟩,())=_:=hi;rw[cU step,hi,zm];rfl
  exact loop ks (k+1) [] [] he om rfl (by show 0+ks.size<=_;omega)
def z8j(b:Bool)(l:List ND)(hl:l.length<=10000){k:Nat}{kd:Int}{t:List Int}{n:Int}{ks:F}(h:aJ l k (tr kd t n ks)):EE (⟨b,l⟩,(k:Int),())=some (⟨false,pq kd t ks⟩,()):=vw (ks.size+1) fun N hN=>zcs b l hl h N hN
def zkj(nb:Bool)(v:List Tx)(hv:v.length<=1000000)(i:Nat)(hi:i<v.length):∀(m j:Nat),j+m=i->∃r,aD nM ((i:Int),(j:Int),⟨nb,v⟩,())=some r/\((∃q,j<=q/\q<i/\v[q]?=v[i]?)/\r=.inr (true,())\/(∀q,j<=q->q<i->v[q]?≠v[i]?)/\r=.inl (((i+1:Nat):Int),⟨nb,v⟩,())):=by
 intro m
 induction m with
 |zero=>intro j hj;refine⟨_,bZ ?_,.inr ⟨fun q h1 h2=>by omega,rfl⟩⟩;rw[qfn];simp only;rw[bD,if_neg om,aB om]
 |succ m ih=>
  intro j hj;have hc:nM ((i:Int),(j:Int),⟨nb,v⟩,())=if v[i]=v[j] then some (.inr (.inr (true,()))) else some (.inl ((i:Int),((j+1:Nat):Int),⟨nb,v⟩,())):=by rw[qfn];simp only;rw[bD,if_pos om,vc hi,vc om];simp only[af,JK hi,JK (show j<v.length by omega)];rw[GB,aB om]
  by_cases h:v[i]=v[j]
  ·rw[if_pos h] at hc;exact⟨_,bZ hc,.inl ⟨⟨j,Nat.le_refl _,by omega,by rw[zf hi,zf om,h]⟩,rfl⟩⟩
  ·rw[if_neg h] at hc;obtain⟨r,h1,h2⟩:=ih (j+1) om;refine⟨r,by rw[cU hc,h1],?_⟩
   grind
def zh2(nb:Bool)(v:List Tx)(hv:v.length<=1000000):∀(m i:Nat),i+m=v.length->(∀a c:Nat,a<c->c<i->v[a]?≠v[c]?)->aD uF ((i:Int),⟨nb,v⟩,())=some (bB v,()):=by
 have hf:bB v=true↔∃a c:Nat,a<c/\c<v.length/\v[a]?=v[c]?:=by
  have key:v.Nodup↔∀i j:Nat,i<j->j<v.length->v[i]?≠v[j]?:=by
   unfold List.Nodup;rw[List.pairwise_iff_getElem]
   grind
  have:=(Zt v).trans key;constructor
  ·intro h;apply zA
   simp_all
  grind
 intro m
 induction m with
 |zero=>
  intro i hi hg;refine bZ ?_;rw[qfo];simp only;rw[bD,if_neg (by unfold ae;omega)];cases hd:bB v with
  |false=>rfl
  |true=>grind
 |succ m ih=>
  intro i hi hg;obtain⟨r,h1,h2⟩:=zkj nb v hv i om i 0 om;have h1:aD nM ((i:Int),0,⟨nb,v⟩,())=some r:=h1;have he:uF ((i:Int),⟨nb,v⟩,())=aD nM ((i:Int),0,⟨nb,v⟩,()):=by rw[qfo];simp only;rw[bD,if_pos (by unfold ae;omega)]
  rw[h1] at he;rcases h2 with ⟨⟨q,e1,e2,e3⟩,e4⟩|⟨e1,e2⟩
  ·subst e4;rw[bZ he,hf.2 ⟨q,i,e2,by omega,e3⟩]
  ·subst e2;rw[cU he,ih (i+1) om (fun a c h3 h4=>by
    by_cases hc:c=i
    ·subst hc;exact e1 a om h3
    ·exact hg a c h3 om)]
def z8k(b:Bool)(l:List ND)(hl:l.length<=10000){k:Nat}{kd:Int}{t:List Int}{n:Int}{ks:F}(h:aJ l k (tr kd t n ks)):∀N,ks.size+1<=N->bc nH N (⟨b,l⟩,(k:Int),())=some (rQ kd t ks,()):=by
 refine F.jC (l:=l) (P:=fun k kd t _ ks=>∀N,ks.size+1<=N->bc nH N (⟨b,l⟩,(k:Int),())=some (rQ kd t ks,())) ?_ h;clear h k kd t n ks;intro k kd t n ks hs he N hN;obtain⟨N,rfl⟩:∃m,N=m+1:=⟨N-1,by omega⟩;show nH (bc nH N) _=_;obtain⟨g1,g2,g3,g4⟩:=hs.node;rw[acX,aU g1];simp only[af,qri];unfold rQ;cases ix kd with
 |true=>
  rw[aK,cond_true,z8j b l hl hs,af];have hv:(pq kd t ks).length<=ks.size+1:=by have:=Zu (tr kd t n ks);have e:E3 (tr kd t n ks)=pq kd t ks++[]:=U1 ..;rw[e,zn,xh] at this;exact this
  exact zh2 false (pq kd t ks) om _ 0 (zC _) (fun a c h1 h2=>by omega)
 |false=>
  rw[aI,cond_false,yo b l hl hs,af];have loop:∀(g:F) (q:Nat) (pre:List Int),g.rm (fun k kd t _ ks=>∀N,ks.size+1<=N->bc nH N (⟨b,l⟩,(k:Int),())=some (rQ kd t ks,())) q->
    g.size<=N->pre++g.pos q=ks.pos (k+1)->
    aD (pZ (bc nH N)) (⟨b,l⟩,⟨false,ks.pos (k+1)⟩,(pre.length:Int),())=some (FW g,()):=by
   intro g
   induction g with
   |nil=>intro q pre _ _ hp;have hp:pre++[]=ks.pos (k+1):=hp;rw[zn] at hp;refine bZ ?_;rw[qfp];simp only;rw[bD,if_neg (by rw[hp];unfold ae;omega)];rfl
   |cons po t' n' bE r' _ ih=>
    intro q pre hE hz hp;have hz:bE.size+r'.size+1<=N:=hz;have hp:pre++(q:Int)::r'.pos (q+1+bE.size)=ks.pos (k+1):=hp;have hf:(ks.pos (k+1)).length=ks.av:=ks.dL _;have hj:=congrArg List.length hp;rw[zd,zu,hf] at hj;have hc:=ks.cu;have hg:(ks.pos (k+1))[pre.length]?=some (q:Int):=by rw[<-hp];simp
    have step:pZ (bc nH N) (⟨b,l⟩,⟨false,ks.pos (k+1)⟩,(pre.length:Int),())=
      aP (rQ po t' bE) (some (.inr (true,()))) (some (.inl (⟨b,l⟩,⟨false,ks.pos (k+1)⟩,((pre.length+1:Nat):Int),()))):=by
     rw[qfp];simp only;rw[bD,if_pos (by unfold ae;rw[hf];omega),aU hg,af,hE.1 N om,af,aB om]
    rw[qt1];cases ht:rQ po t' bE with
    |true=>rw[ht,aK] at step;rw[bZ step];rfl
    |false=>rw[ht,aI] at step;have hi:=ih (q+1+bE.size) (pre++[(q:Int)]) hE.2 om (by rw[zm];exact hp);rw[zd] at hi;have hi:aD (pZ (bc nH N)) (⟨b,l⟩,⟨false,ks.pos (k+1)⟩,((pre.length+1:Nat):Int),())=_:=hi;rw[cU step,hi];rfl
  exact loop ks (k+1) [] he om rfl
def z49(b:Bool)(l:List ND)(hl:l.length<=10000){k:Nat}{kd:Int}{t:List Int}{n:Int}{ks:F}(h:aJ l k (tr kd t n ks)):MQ (⟨b,l⟩,(k:Int),())=some (rQ kd t ks,()):=vw (ks.size+1) fun N hN=>z8k b l hl h N hN
def qp9(b:Bool)(kd:Int)(t:Tx)(n:Int)(ks:F)(pat:Bool)(hl:ks.size+1<=4000)(hg:GL (tr kd t n ks).flat):o9 (⟨b,(tr kd t n ks).flat⟩,pat,())=some (nS kd t n ks pat,()):=by
 have hc:(tr kd t n ks).flat.length=ks.size+1:=(tr kd t n ks).len;have hs:=JH kd t n ks;have hd:=z46 b _ om hs;have hw:=z48 b _ om hg pat hs;have ht:=z49 b _ om hs;have h0:((0:Nat):Int)=0:=rfl;rw[h0] at hw hd ht;rw[Uw,Zy b _ om,(Py _).2 ⟨kd,t,n,ks,rfl⟩];have c0:aL 4000 (ae (tr kd t n ks).flat)=false:=zo (by unfold ae;omega);simp only[c0,aI,af,nT,hw,hd,ht];unfold nS;cases aL 100 ((ks.dep+1:Nat):Int) with
 |true=>rfl
 |false=>
  rw[aI,cond_false];cases ar (ag (aX kd t n ks pat) 0) with
  |true=>rfl
  |false=>cases rQ kd t ks<;>rfl
def qpa(b:Bool)(l:List ND)(hl:l.length<=4000)(pat:Bool)(h:yh l=false):o9 (⟨b,l⟩,pat,())=some (60,()):=by rw[Uw,Zy b _ om,h];have c0:aL 4000 (ae l)=false:=zo (by unfold ae;omega);simp only[c0,aI,af,nF,aK]
def qpb(x:ak)(hl:x.1.length<=1000000):qY (x,())=some (gQ x,()):=by obtain⟨s,n,m⟩:=x;rw[acA,qp7 s hl,af];exact zeq _ n m
def z4a(n:Bool)(l:List ak)(op:List Int)(hl:l.length<=1000000):∀(m k:Nat),k+m=l.length->aD uQ (⟨n,l⟩,op,(k:Int),([]:List Int),0,0,())=some (match kP (l.drop k) op with|some x=>(x,true,())|none=>(([],0,0),false,())):=by
 intro m
 induction m with
 |zero=>intro k hk;refine bZ ?_;rw[qhg];simp only;rw[bD,if_neg (by unfold ae;omega),zw om];rfl
 |succ m ih=>
  intro k hk;have hc:k<l.length:=om
  have hf:kP (l.drop k) op=if l[k].1=op then some l[k] else kP (l.drop (k+1)) op:=by
   rw[jW hc];unfold kP
   grind
  have step:uQ (⟨n,l⟩,op,(k:Int),([]:List Int),0,0,())=if l[k].1=op then some (.inr (l[k],true,())) else some (.inl (⟨n,l⟩,op,((k+1:Nat):Int),([]:List Int),0,0,())):=by rw[qhg];simp only;rw[bD,if_pos (by unfold ae;omega),aU (zf hc),af,GB,af,aB om]
  by_cases h:l[k].1=op
  ·rw[if_pos h] at step hf;rw[bZ step,hf]
  ·rw[if_neg h] at step hf;rw[cU step,ih (k+1) om,hf]
def z4b(n:Bool)(l:List ak)(op:List Int)(hl:l.length<=1000000):Jd (⟨n,l⟩,op,())=some (match kP l op with|some x=>(x,true,())|none=>(([],0,0),false,())):=by rw[adk];exact z4a n l op hl l.length 0 om
def qw3(n:Bool){l:List ak}(hl:l.length<=1000000)(i:Nat)(hi:i<l.length):∀(m k:Nat) (tw:Bool),k+m=i->aD pV (⟨n,l⟩,tw,(i:Int),(k:Int),())=some (.inl (⟨n,l⟩,tw||((l.take i).drop k).any (fun x=>decide (x.1=l[i].1)),((i+1:Nat):Int),())):=by
 intro m
 induction m with
 |zero=>intro k tw hk;refine bZ ?_;rw[qf3];simp only;rw[bD,if_neg om,aB om,zw (by rw[zP];omega)];simp
 |succ m ih=>
  intro k tw hk;have he:k<(l.take i).length:=by rw[zP];omega
  have hc:k<l.length:=om
  have step:pV (⟨n,l⟩,tw,(i:Int),(k:Int),())=some (.inl (⟨n,l⟩,tw||decide (l[k].1=l[i].1),(i:Int),((k+1:Nat):Int),())):=by
   rw[qf3];simp only;rw[bD,if_pos om,aB om];cases tw with
   |true=>rw[aK];rfl
   |false=>
    rw[aI,aU (zf hc),af,aU (zf hi),af];have:bM l[k].1 l[i].1=decide (l[k].1=l[i].1):=by unfold bM;rw[Bool.eq_iff_iff];simp
    rw[this,Bool.false_or]
  rw[cU step,ih (k+1) _ om,jW he,List.any_cons,List.getElem_take,Bool.or_assoc]
def qyp(n:Bool){l:List ak}(h:gL l):∀(m k:Nat) (tw:Bool),k+m=l.length->aD uk (⟨n,l⟩,tw,(k:Int),())=some (if(l.drop k).any (fun x=>!gQ x)=true then 40 else if(tw||nU l m k)=true then 41 else 0,()):=by
 intro m;have hl:=h.2.2
 induction m with
 |zero=>intro k tw hk;refine bZ ?_;rw[qf4];simp only;rw[bD,if_neg (by unfold ae;omega),zw om];cases tw<;>rfl
 |succ m ih=>
  intro k tw hk;have hc:k<l.length:=om
  have hg:=zf hc;have hr:=qpb l[k] (h.2.1 _ (List.getElem_mem hc));have hd:BJ l k=(l.take k).any (fun x=>decide (x.1=l[k].1)):=by unfold BJ;rw[hg,z16]
  have he:=qw3 n hl k hc k 0 tw om;rw[List.drop_zero,<-hd] at he;have he:aD pV (⟨n,l⟩,tw,(k:Int),0,())=_:=he;have step:uk (⟨n,l⟩,tw,(k:Int),())=if gQ l[k]=false then some (.inr (40,())) else some (.inl (⟨n,l⟩,tw||BJ l k,((k+1:Nat):Int),())):=by
   rw[qf4];simp only;rw[bD,if_pos (by unfold ae;omega),aU hg,af,hr,af,zgk];cases gQ l[k] with
   |false=>rfl
   |true=>rw[aK,he];rfl
  rw[jW hc,List.any_cons];cases hb:gQ l[k] with
  |false=>rw[if_pos hb] at step;rw[bZ step];rfl
  |true=>
   rw[if_neg (by rw[hb];decide)] at step;rw[cU step,ih (k+1) _ om];show _=some (if((false||(l.drop (k+1)).any fun x=>!gQ x))=true then 40 else if(tw||(BJ l k||nU l m (k+1)))=true then 41 else 0,())
   grind
def Zz(n:Bool){l:List ak}(h:gL l):qZ (⟨n,l⟩,())=some (iD l,()):=by
 rw[acB,bD];unfold iD;by_cases h4:400<l.length
 ·rw[if_pos (by show(400:Int)<(l.length:Int);omega),if_pos (.inl h4)]
 ·rw[if_neg (by show ¬(400:Int)<(l.length:Int);omega)];have:=qyp n h l.length 0 false om;rw[List.drop_zero,Bool.false_or] at this;refine this.trans ?_;cases ha:l.any (fun x=>!gQ x) with
  |true=>rw[if_pos rfl,if_pos (.inr rfl)]
  |false=>simp only[Bool.false_eq_true,or_false,h4,if_false]
end Fn
end Ev
namespace Ev
namespace Pz
abbrev Tx:=List Int
abbrev ND:=Int×Tx×Int×Int
abbrev Tk:=Int×Tx×Int×Int
abbrev PR(α:Type):=Except (Int×Int) α
structure PC where
 l:List Tk
 e:Int
 fx:Tx->Bool
 cl:List Tx->Option (List Int)
def eb{α β:Type}(x:PR α)(f:α->PR β):PR β:=match x with
 |.ok a=>f a
 |.error e=>.error e
variable (c:PC)
def Bc(i:Nat):Int:=match c.l[i]? with
 |some t=>t.2.2.2
 |none=>c.e
def vD(i:Nat):Tx:=match c.l[i]? with
 |some t=>t.2.1
 |none=>[]
def num(i:Nat):Int:=match c.l[i]? with
 |some t=>t.2.2.1
 |none=>0
def pr(i:Nat)(k:Int):Bool:=match c.l[i]? with
 |some t=>decide (t.1=k)
 |none=>false
def Bd(i:Nat)(ks:List Tx):Bool:=match c.l[i]? with
 |some t=>decide (t.1=6)&&decide (t.2.1∈ks)
 |none=>false
def U4:Tx:=[102,117,110]
def U5:Tx:=[108,101,116]
def ZA:Tx:=[105,102]
def ru:Tx:=[114,97,105,115,101]
def PF:Tx:=[116,114,121]
def U6:Tx:=[114,101,99]
def Ro:Tx:=[45,62]
def kEq:Tx:=[61]
def kIn:Tx:=[105,110]
def yp:Tx:=[116,104,101,110]
def yq:Tx:=[101,108,115,101]
def dP:Tx:=[109,97,116,99,104]
def eU:Tx:=[119,105,116,104]
def jT:Tx:=[101,110,100]
def ads:Tx:=[124]
def kL:Tx:=[40]
def kR:Tx:=[41]
def U7:Tx:=[95]
def nd(k:Int)(s:Tx)(kids:List (List ND)):List ND:=(k,s,0,(kids.length:Int))::kids.flatten
def jD(i:Nat)(s:Tx):PR Nat:=bif Bd c i [s] then .ok (i+1) else .error (Bc c i,70)
def Rp(i:Nat):PR (Tx×Nat):=
 bif pr c i 1 then .ok (vD c i,i+1) else
 bif Bd c i [kL]&&pr c (i+1) 5 then eb (jD c (i+2) kR) fun a=>.ok (vD c (i+1),a) else
 bif Bd c i [kL] then .error (Bc c (i+1),70) else .error (Bc c i,70)
abbrev PT:=Nat->PR (List ND×Nat)
def ZB(self:PT):PT:=fun i=>
 bif Bd c i [U7] then .ok (nd 21 [] [],i+1) else
 bif pr c i 3 then .ok ([(23,[],num c i,0)],i+1) else
 bif pr c i 2 then .ok (nd 24 (vD c i) [],i+1) else
 bif Bd c i [kL]&&!pr c (i+1) 5 then eb (self (i+1)) fun p=>eb (jD c p.2 kR) fun a=>.ok (p.1,a) else
 eb (Rp c i) fun s=>.ok (nd 22 s.1 [],s.2)
def U8(self:PT):Nat->Nat->List (List ND)->PR (List (List ND)×Nat)
 |0,i,acc=>.ok (acc,i)
 |f+1,i,acc=>bif pr c i 3||(pr c i 2||(pr c i 1||Bd c i [U7,kL])) then eb (ZB c self i) fun p=>U8 self f p.2 (acc++[p.1]) else .ok (acc,i)
def PG(self:PT):PT:=fun i=>bif pr c i 2 then eb (U8 c self (c.l.length+1) (i+1) []) fun p=>.ok (nd 24 (vD c i) p.1,p.2) else ZB c self i
def PH:Nat->PT
 |0=>fun i=>.error (Bc c i,73)
 |d+1=>PG c (PH d)
def ry(self:PT)(i:Nat)(s:Tx):PR (List ND×Nat):=eb (jD c i s) self
def zes(i:Nat):Bool:=pr c i 3||(pr c i 4||(pr c i 1||(pr c i 2||Bd c i [kL,dP])))
def U9(self bL:PT):Nat->Nat->List (List ND)->PR (List (List ND)×Nat)
 |0,i,acc=>.ok (acc,i)
 |f+1,i,acc=>eb (bL i) fun p=>eb (ry c self p.2 Ro) fun b=>bif Bd c b.2 [ads] then U9 self bL f (b.2+1) (acc++[p.1,b.1]) else .ok (acc++[p.1,b.1],b.2)
def ZC(self bL:PT):PT:=fun i=>eb (self i) fun x=>eb (jD c x.2 eU) fun a=>eb (U9 c self bL (c.l.length+1) a [x.1]) fun r=>eb (jD c r.2 jT) fun a2=>.ok (nd 10 [] r.1,a2)
def ZD(self bL:PT):PT:=fun i=>
 bif zes c i then
  bif pr c i 3 then .ok ([(1,[],num c i,0)],i+1) else
  bif pr c i 4 then .ok (nd 2 (vD c i) [],i+1) else
  bif pr c i 1 then .ok (nd 3 (vD c i) [],i+1) else
  bif pr c i 2 then .ok (nd 4 (vD c i) [],i+1) else
  bif decide (vD c i=dP) then ZC c self bL (i+1) else
  bif pr c (i+1) 5 then eb (jD c (i+2) kR) fun a=>.ok (nd 3 (vD c (i+1)) [],a) else
  eb (self (i+1)) fun x=>eb (jD c x.2 kR) fun a=>.ok (x.1,a)
 else .error (Bc c i,70)
def ZE(self bL:PT):Nat->Nat->List ND->PR (List ND×Nat)
 |0,i,l=>.ok (l,i)
 |f+1,i,l=>bif zes c i then eb (ZD c self bL i) fun m=>ZE self bL f m.2 (nd 6 [] [l,m.1]) else .ok (l,i)
def JM(self bL:PT):PT:=fun i=>eb (ZD c self bL i) fun x=>ZE c self bL (c.l.length+1) x.2 x.1
structure Row where
 apps:List (List ND)
 ops:List Tx
 at_:List Int
def JN(self bL:PT):Nat->Nat->Row->PR (Row×Nat)
 |0,i,r=>.ok (r,i)
 |f+1,i,r=>bif pr c i 5 then eb (JM c self bL (i+1)) fun x=>JN self bL f x.2 ⟨r.apps++[x.1],r.ops++[vD c i],r.at_++[Bc c i]⟩ else .ok (r,i)
def mf(apps:List (List ND))(ops:List Tx):Nat->List Int->List ND×List Int
 |_,[]=>([],[])
 |0,x=>([],x)
 |f+1,k::x=>if k<0 then((apps[(-1-k).toNat]?).getD [],x) else
  let a:=mf apps ops f x;let b:=mf apps ops f a.2
  (nd 6 [] [nd 6 [] [nd 3 ((ops[k.toNat]?).getD []) [],a.1],b.1],b.2)
def Va:List Tx->List Int->Option Int
 |s::ops,p::ps=>bif c.fx s then Va ops ps else some p
 |_,_=>none
def PI(first:Int)(r:Row)(i:Nat):PR (List ND×Nat):=
 if r.ops=[] then .ok ((r.apps[0]?).getD [],i) else
 match Va c r.ops r.at_ with
 |some p=>.error (p,71)
 |none=>match c.cl r.ops with
  |none=>.error (first,72)
  |some x=>.ok ((mf r.apps r.ops x.length x).1,i)
def PJ(self bL:PT):PT:=fun i=>eb (JM c self bL i) fun x=>eb (JN c self bL (c.l.length+1) x.2 ⟨[x.1],[],[]⟩) fun r=>PI c (Bc c i) r.1 r.2
def zh3(self bL:PT):PT:=fun i=>
 bif Bd c i [U4,U5,ZA,ru,PF] then
  bif decide (vD c i=U4) then eb (Rp c (i+1)) fun s=>eb (ry c self s.2 Ro) fun x=>.ok (nd 5 s.1 [x.1],x.2) else
  bif decide (vD c i=U5) then eb (Rp c (bif Bd c (i+1) [U6] then i+2 else i+1)) fun s=>eb (ry c self s.2 kEq) fun x=>eb (ry c self x.2 kIn) fun y=>.ok (nd (bif Bd c (i+1) [U6] then 8 else 7) s.1 [x.1,y.1],y.2) else
  bif decide (vD c i=ZA) then eb (self (i+1)) fun x=>eb (ry c self x.2 yp) fun y=>eb (ry c self y.2 yq) fun z=>.ok (nd 9 [] [x.1,y.1,z.1],z.2) else
  bif decide (vD c i=ru) then eb (self (i+1)) fun x=>.ok (nd 11 [] [x.1],x.2) else
  eb (self (i+1)) fun x=>eb (jD c x.2 eU) fun a=>eb (Rp c a) fun s=>eb (ry c self s.2 Ro) fun y=>.ok (nd 12 s.1 [x.1,y.1],y.2)
 else PJ c self bL i
def PK:Nat->PT
 |0=>fun i=>.error (Bc c i,73)
 |d+1=>zh3 c (PK d) (PH c d)
def PL:PR (List ND):=eb (PK c 100 0) fun x=>if x.2<c.l.length then .error (Bc c x.2,70) else .ok x.1
end Pz
end Ev

namespace Ev
namespace Pz
section
variable (b:Int) (c:PC)
variable {b} {self Vb bL PM:PT}
end
end Pz
end Ev

namespace Ev
namespace Pz
inductive Bt:Nat->Nat->List Int->Prop
 |leaf (a:Nat):Bt a a [-1-(a:Int)]
 |node (a r b:Nat) (x y:List Int):a<=r->r<b->Bt a r x->Bt (r+1) b y->Bt a b ((r:Int)::(x++y))
def Bt.le{a b:Nat}{x:List Int}(h:Bt a b x):a<=b:=by
 cases h with
 |leaf=>exact Nat.le_refl _
 |node _ r _ _ _ h1 h2=>omega
def tot(l:List (List ND)):Nat:=l.flatten.length+l.length
def Rq(l:List (List ND))(a:List ND):tot (l++[a])=tot l+(a.length+1):=by
 unfold tot
 grind
def JO(k:Int)(s:Tx)(kids:List (List ND)):(nd k s kids).length=kids.flatten.length+1:=by simp[nd]
def JP(apps:List (List ND))(a b:Nat):List (List ND):=(apps.take (b+1)).drop a
def zh4{apps:List (List ND)}{a:Nat}(h:a<apps.length):JP apps a a=[apps[a]]:=by
 unfold JP;apply List.ext_getElem
 all_goals grind
def zh5{apps:List (List ND)}{a r b:Nat}(h1:a<=r)(h2:r<b)(h3:b<apps.length):JP apps a b=JP apps a r++JP apps (r+1) b:=by
 unfold JP;apply List.ext_getElem
 all_goals grind
def zje{apps:List (List ND)}{ops:List Tx}{P:ND->Prop}(hP:∀a,a∈apps->∀d,d∈a->P d)(hv:∀s,s∈ops->P (3,s,0,0))(hn:P (6,[],0,2)):∀{a b:Nat} {x:List Int},Bt a b x->b<apps.length->b<=ops.length->∀(f:Nat) (post:List Int),x.length<=f->∃t,mf apps ops f (x++post)=(t,post)/\t.length=(JP apps a b).flatten.length+3*(b-a)/\∀d,d∈t->P d:=by
 intro a b x h
 induction h with
 |leaf a=>
  intro h1 h2 f post hf;obtain⟨f,rfl⟩:∃g,f=g+1:=⟨f-1,by simp only[zu,List.length_nil] at hf;omega⟩;refine⟨apps[a],?_,?_,hP _ (List.getElem_mem h1)⟩
  ·show(if -1-(a:Int)<0 then((apps[(-1-(-1-(a:Int))).toNat]?).getD [],post) else _)=_
   grind
  ·rw[zh4 h1];simp
 |node a r b x y g1 g2 hx hy B9 Ca=>
  intro h1 h2 f post hf;simp only[zu,zd] at hf;obtain⟨f,rfl⟩:∃g,f=g+1:=⟨f-1,by omega⟩;obtain⟨t1,e1,l1,p1⟩:=B9 om om f (y++post) om;obtain⟨t2,e2,l2,p2⟩:=Ca h1 h2 f post om;have hr:r<ops.length:=om
  have hg:(ops[((r:Int)).toNat]?).getD []=ops[r]:=by grind
  refine⟨nd 6 [] [nd 6 [] [nd 3 (ops[r]) [],t1],t2],?_,?_,?_⟩
  ·show(if(r:Int)<0 then _ else(nd 6 [] [nd 6 [] [nd 3 ((ops[((r:Int)).toNat]?).getD []) [],(mf apps ops f ((x++y)++post)).1],(mf apps ops f (mf apps ops f ((x++y)++post)).2).1],(mf apps ops f (mf apps ops f ((x++y)++post)).2).2))=_
   grind
  ·have:=hy.le;rw[zh5 g1 g2 h1];simp only[JO,List.flatten_cons,List.flatten_nil,zd,List.flatten_append,List.length_nil];omega
  ·intro d hd;simp only[nd,List.flatten_cons,List.flatten_nil,zn,zu,List.length_nil,zk,zH,List.cons_append,List.nil_append] at hd
   grind
def EOk(E:Int)(e:Int×Int):Prop:=(0<=e.1/\e.1<=E)/\70<=e.2/\e.2<=73
def cB{α:Type}(E:Int)(A:α->Prop)(x:PR α):Prop:=match x with
 |.ok a=>A a
 |.error e=>EOk E e
def cB.eb{α β:Type}{E:Int}{A:α->Prop}{B:β->Prop}{x:PR α}{f:α->PR β}(hx:cB E A x)(h:∀a,A a->cB E B (f a)):cB E B (eb x f):=by
 cases x with
 |ok a=>exact h a hx
 |error e=>exact hx
def cB.bif{α:Type}{E:Int}{A:α->Prop}{t:Bool}{x y:PR α}(hx:t=true->cB E A x)(hy:t=false->cB E A y):cB E A (bif t then x else y):=by
 cases t with
 |true=>exact hx rfl
 |false=>exact hy rfl
def cB.ok{α:Type}{E:Int}{A:α->Prop}{a:α}(h:A a):cB E A (.ok a):=h
structure Inp (c:PC) (E:Int) (Q:Tx->Prop) (N:Int->Prop):Prop where
 tk:∀t,t∈c.l->Q t.2.1/\N t.2.2.1/\0<=t.2.2.2/\t.2.2.2<=E
 e0:0<=c.e
 e1:c.e<=E
 q0:Q []
 n0:N 0
 cl:∀ops x,c.cl ops=some x->Bt 0 ops.length x
section
variable {c:PC} {E:Int} {Q:Tx→Prop} {N:Int→Prop}
def GN(Q:Tx->Prop)(N:Int->Prop)(d:ND):Prop:=Q d.2.1/\N d.2.2.1
def eS(Q:Tx->Prop)(N:Int->Prop)(l:List ND):Prop:=∀d,d∈l->GN Q N d
variable (c Q N) in
def AN(i:Nat)(x:List ND×Nat):Prop:=i<x.2/\x.2<=c.l.length/\x.1.length+1<=3*(x.2-i)/\eS Q N x.1
def eS.nd{k:Int}{s:Tx}{kids:List (List ND)}(hi:N 0)(hs:Q s)(h:eS Q N kids.flatten):eS Q N (nd k s kids):=by
 intro d hd;unfold Pz.nd at hd;rcases zk.1 hd with hd|hd
 ·rw[hd];exact⟨hs,hi⟩
 ·exact h d hd
def eS.nil:eS Q N []:=fun _ h=>absurd h (List.not_mem_nil)
def eS.app{a b:List ND}(h1:eS Q N a)(h2:eS Q N b):eS Q N (a++b):=fun d hd=>(zH.1 hd).elim (h1 d) (h2 d)
def eS.one{a:List ND}(h1:eS Q N a):eS Q N [a].flatten:=by grind
def eS.two{a b:List ND}(h1:eS Q N a)(h2:eS Q N b):eS Q N [a,b].flatten:=by rw[List.flatten_cons];exact h1.app h2.one
def eS.three{a b d:List ND}(h1:eS Q N a)(h2:eS Q N b)(h3:eS Q N d):eS Q N [a,b,d].flatten:=by rw[List.flatten_cons];exact h1.app (h2.two h3)
def eS.snoc{l:List (List ND)}{a:List ND}(h1:eS Q N l.flatten)(h2:eS Q N a):eS Q N (l++[a]).flatten:=by rw[List.flatten_append];exact h1.app h2.one
variable (H:Inp c E Q N)
include H
def z8o(i:Nat):0<=Bc c i/\Bc c i<=E:=by
 unfold Bc;cases h:c.l[i]? with
 |none=>exact⟨H.e0,H.e1⟩
 |some t=>exact(H.tk t (zv h)).2.2
def PN{α:Type}{A:α->Prop}(i:Nat){k:Int}(h1:70<=k)(h2:k<=73):cB E A (.error (Bc c i,k):PR α):=⟨z8o H i,h1,h2⟩
def JR(i:Nat):Q (vD c i):=by
 unfold vD;cases h:c.l[i]? with
 |none=>exact H.q0
 |some t=>exact(H.tk t (zv h)).1
def zet(i:Nat):N (num c i):=by
 unfold num;cases h:c.l[i]? with
 |none=>exact H.n0
 |some t=>exact(H.tk t (zv h)).2.1
omit H in
def Lp{i:Nat}{k:Int}(h:pr c i k=true):i<c.l.length:=by
 unfold pr at h;cases e:c.l[i]? with
 |none=>rw[e] at h;cases h
 |some t=>exact(zE.1 e).1
omit H in
def z8p{i:Nat}{k:List Tx}(h:Bd c i k=true):i<c.l.length:=by
 unfold Bd at h;cases e:c.l[i]? with
 |none=>rw[e] at h;cases h
 |some t=>exact(zE.1 e).1
def Lq(i:Nat)(s:Tx):cB E (fun j=>j=i+1/\i<c.l.length) (jD c i s):=by unfold jD;exact cB.bif (fun h=>⟨rfl,z8p h⟩) fun _=>PN H i dc dc
def ZF(i:Nat):cB E (fun x=>Q x.1/\i<x.2/\x.2<=c.l.length) (Rp c i):=by unfold Rp;refine cB.bif (fun h=>⟨JR H i,Nat.lt_succ_self _,Lp h⟩) fun _=>cB.bif (fun h=>?_) fun _=>cB.bif (fun _=>PN H _ dc dc) fun _=>PN H _ dc dc;refine(Lq H (i+2) kR).eb fun a ha=>?_;exact⟨JR H _,by simp only;omega,by simp only;omega⟩
variable {self bL:PT}
def z1a(h:∀i,cB E (AN c Q N i) (self i))(i:Nat):cB E (AN c Q N i) (ZB c self i):=by
 unfold ZB;refine cB.bif (fun t=>?_) fun _=>cB.bif (fun t=>?_) fun _=>cB.bif (fun t=>?_) fun _=>cB.bif (fun t=>?_) fun _=>?_
 ·have:=z8p t;refine cB.ok ⟨Nat.lt_succ_self _,this,?_,eS.nd H.n0 H.q0 eS.nil⟩;show 2<=3*(i+1-i);omega
 ·have:=Lp t;refine cB.ok ⟨Nat.lt_succ_self _,this,?_,fun d hd=>?_⟩
  ·grind
  ·rw[zM.1 hd];exact⟨H.q0,zet H i⟩
 ·have:=Lp t;refine cB.ok ⟨Nat.lt_succ_self _,this,?_,eS.nd H.n0 (JR H i) eS.nil⟩;show 2<=3*(i+1-i);omega
 ·refine(h (i+1)).eb fun p hp=>(Lq H p.2 kR).eb fun a ha=>?_;obtain⟨h1,h2,h3,h4⟩:=hp;refine cB.ok ⟨by simp only;omega,by simp only;omega,?_,h4⟩
  grind
 ·refine(ZF H i).eb fun s hs=>?_;obtain⟨h1,h2,h3⟩:=hs;refine cB.ok ⟨h2,h3,?_,eS.nd H.n0 h1 eS.nil⟩;show 2<=3*(s.2-i);omega
def z8q(h:∀i,cB E (AN c Q N i) (self i)):∀(f i:Nat) (acc:List (List ND)),i<=c.l.length->eS Q N acc.flatten->cB E (fun x=>i<=x.2/\x.2<=c.l.length/\tot x.1<=tot acc+3*(x.2-i)/\eS Q N x.1.flatten) (U8 c self f i acc)
 |0,i,acc,hi,hg=>⟨Nat.le_refl _,hi,by simp only;omega,hg⟩
 |f+1,i,acc,hi,hg=>by
  unfold U8;refine cB.bif (fun t=>?_) fun _=>⟨Nat.le_refl _,hi,by simp only;omega,hg⟩;refine(z1a H h i).eb fun p hp=>?_;obtain⟨h1,h2,h3,h4⟩:=hp;have r:=z8q h f p.2 (acc++[p.1]) h2 (hg.snoc h4);revert r;cases U8 c self f p.2 (acc++[p.1]) with
  |error e=>exact id
  |ok x=>rintro⟨r1,r2,r3,r4⟩;rw[Rq] at r3;exact⟨by omega,r2,by omega,r4⟩
def zjf(h:∀i,cB E (AN c Q N i) (self i))(i:Nat):cB E (AN c Q N i) (PG c self i):=by
 unfold PG;refine cB.bif (fun t=>?_) fun _=>z1a H h i;refine(z8q H h _ (i+1) [] (Lp t) eS.nil).eb fun p hp=>?_;obtain⟨h1,h2,h3,h4⟩:=hp;refine cB.ok ⟨by simp only;omega,h2,?_,eS.nd H.n0 (JR H i) h4⟩;show(nd _ _ _).length+1<=_;rw[JO];have:tot ([]:List (List ND))=0:=rfl;unfold tot at h3
 grind
def z8r:∀(d i:Nat),cB E (AN c Q N i) (PH c d i)
 |0,i=>PN H i dc dc
 |d+1,i=>zjf H (z8r d) i
def PO(h:∀i,cB E (AN c Q N i) (self i))(i:Nat)(s:Tx):cB E (fun x=>AN c Q N (i+1) x) (ry c self i s):=by
 unfold ry;refine(Lq H i s).eb fun a ha=>?_
 grind
def z8s(h:∀i,cB E (AN c Q N i) (self i))(hp:∀i,cB E (AN c Q N i) (bL i)):∀(f i:Nat) (acc:List (List ND)),i<=c.l.length->eS Q N acc.flatten->cB E (fun x=>i<=x.2/\x.2<=c.l.length/\tot x.1<=tot acc+3*(x.2-i)/\eS Q N x.1.flatten) (U9 c self bL f i acc)
 |0,i,acc,hi,hg=>⟨Nat.le_refl _,hi,by simp only;omega,hg⟩
 |f+1,i,acc,hi,hg=>by
  unfold U9;refine(hp i).eb fun p ⟨p1,p2,p3,p4⟩=>(PO H h p.2 Ro).eb fun b ⟨b1,b2,b3,b4⟩=>?_;have e:acc++[p.1,b.1]=acc++[p.1]++[b.1]:=by simp
  refine cB.bif (fun t=>?_) fun _=>?_
  ·have:=z8p t;have r:=z8s h hp f (b.2+1) (acc++[p.1,b.1]) om (by rw[e];exact(hg.snoc p4).snoc b4);revert r;cases U9 c self bL f (b.2+1) (acc++[p.1,b.1]) with
   |error e=>exact id
   |ok x=>rintro⟨r1,r2,r3,r4⟩;rw[e,Rq,Rq] at r3;exact⟨by omega,r2,by omega,r4⟩
  ·refine cB.ok ⟨by simp only;omega,b2,?_,?_⟩
   ·simp only;rw[e,Rq,Rq];omega
   ·simp only;rw[e];exact(hg.snoc p4).snoc b4
def zcv(h:∀i,cB E (AN c Q N i) (self i))(hp:∀i,cB E (AN c Q N i) (bL i))(i:Nat):cB E (AN c Q N i) (ZC c self bL i):=by
 unfold ZC;refine(h i).eb fun x ⟨x1,x2,x3,x4⟩=>(Lq H x.2 eU).eb fun a ⟨a1,a2⟩=>?_;refine(z8s H h hp _ a [x.1] om x4.one).eb fun r ⟨r1,r2,r3,r4⟩=>(Lq H r.2 jT).eb fun b ⟨b1,b2⟩=>?_;refine cB.ok ⟨by simp only;omega,by simp only;omega,?_,eS.nd H.n0 H.q0 r4⟩;show(nd _ _ _).length+1<=_;rw[JO];have e:tot [x.1]=x.1.length+1:=by unfold tot;simp
 rw[e] at r3;unfold tot at r3;simp only at r3 ⊢;omega
def z8t(h:∀i,cB E (AN c Q N i) (self i))(hp:∀i,cB E (AN c Q N i) (bL i))(i:Nat):cB E (AN c Q N i) (ZD c self bL i):=by
 unfold ZD;refine cB.bif (fun _=>?_) fun _=>PN H i dc dc;refine cB.bif (fun t=>?_) fun _=>cB.bif (fun t=>?_) fun _=>cB.bif (fun t=>?_) fun _=>cB.bif (fun t=>?_) fun _=>cB.bif (fun t=>?_) fun _=>cB.bif (fun t=>?_) fun _=>?_
 ·have:=Lp t;refine cB.ok ⟨Nat.lt_succ_self _,this,?_,fun d hd=>?_⟩
  ·grind
  ·rw[zM.1 hd];exact⟨H.q0,zet H i⟩
 ·have:=Lp t;refine cB.ok ⟨Nat.lt_succ_self _,this,?_,eS.nd H.n0 (JR H i) eS.nil⟩;show 2<=3*(i+1-i);omega
 ·have:=Lp t;refine cB.ok ⟨Nat.lt_succ_self _,this,?_,eS.nd H.n0 (JR H i) eS.nil⟩;show 2<=3*(i+1-i);omega
 ·have:=Lp t;refine cB.ok ⟨Nat.lt_succ_self _,this,?_,eS.nd H.n0 (JR H i) eS.nil⟩;show 2<=3*(i+1-i);omega
 ·have r:=zcv H h hp (i+1);revert r;cases ZC c self bL (i+1) with
  |error e=>exact id
  |ok x=>rintro⟨r1,r2,r3,r4⟩;exact⟨by omega,r2,by omega,r4⟩
 ·refine(Lq H (i+2) kR).eb fun a ⟨a1,a2⟩=>?_;refine cB.ok ⟨by simp only;omega,by simp only;omega,?_,eS.nd H.n0 (JR H _) eS.nil⟩;show 2<=3*(a-i);omega
 ·refine(h (i+1)).eb fun x ⟨x1,x2,x3,x4⟩=>(Lq H x.2 kR).eb fun a ⟨a1,a2⟩=>?_;refine cB.ok ⟨by simp only;omega,by simp only;omega,?_,x4⟩
  grind
def z8u(h:∀i,cB E (AN c Q N i) (self i))(hp:∀i,cB E (AN c Q N i) (bL i))(i0:Nat):∀(f i:Nat) (l:List ND),AN c Q N i0 (l,i)->cB E (AN c Q N i0) (ZE c self bL f i l)
 |0,i,l,hl=>hl
 |f+1,i,l,hl=>by
  unfold ZE;refine cB.bif (fun _=>?_) fun _=>hl;refine(z8t H h hp i).eb fun m ⟨m1,m2,m3,m4⟩=>?_;obtain⟨l1,l2,l3,l4⟩:=hl;refine z8u h hp i0 f m.2 _ ⟨by simp only at*;omega,m2,?_,eS.nd H.n0 H.q0 (l4.two m4)⟩;show(nd _ _ _).length+1<=_;rw[JO]
  grind
def zeu(h:∀i,cB E (AN c Q N i) (self i))(hp:∀i,cB E (AN c Q N i) (bL i))(i:Nat):cB E (AN c Q N i) (JM c self bL i):=by unfold JM;exact(z8t H h hp i).eb fun x hx=>z8u H h hp i _ x.2 x.1 hx
omit H in
variable (c E Q N) in
structure RI (i0 i:Nat) (r:Row):Prop where
 n1:r.apps.length=r.ops.length+1
 n2:r.at_.length=r.ops.length
 m:tot r.apps+3*r.ops.length<=3*(i-i0)
 gt:i0<i
 le:i<=c.l.length
 g1:∀a,a∈r.apps->∀d,d∈a->GN Q N d
 g2:∀s,s∈r.ops->Q s
 g3:∀p,p∈r.at_->0<=p/\p<=E
def zev(h:∀i,cB E (AN c Q N i) (self i))(hp:∀i,cB E (AN c Q N i) (bL i))(i0:Nat):∀(f i:Nat) (r:Row),RI c E Q N i0 i r->cB E (fun x=>RI c E Q N i0 x.2 x.1) (JN c self bL f i r)
 |0,i,r,hr=>hr
 |f+1,i,r,hr=>by
  unfold JN;refine cB.bif (fun t=>?_) fun _=>hr;refine(zeu H h hp (i+1)).eb fun x ⟨x1,x2,x3,x4⟩=>zev h hp i0 f x.2 _ ?_;have:=hr.gt;have hm:=hr.m;refine⟨?_,?_,?_,by omega,x2,?_,?_,?_⟩
  ·simp only[zd,zu,List.length_nil,hr.n1]
  ·simp only[zd,zu,List.length_nil,hr.n2]
  ·simp only[Rq,zd,zu,List.length_nil];omega
  ·intro a ha;rcases zH.1 ha with ha|ha
   ·exact hr.g1 a ha
   ·rw[zM.1 ha];exact x4
  ·intro a ha;rcases zH.1 ha with ha|ha
   ·exact hr.g2 a ha
   ·rw[zM.1 ha];exact JR H i
  ·intro a ha;rcases zH.1 ha with ha|ha
   ·exact hr.g3 a ha
   ·rw[zM.1 ha];exact z8o H i
omit H in
def qw4:∀(ops:List Tx) (ps:List Int) (p:Int),Va c ops ps=some p->p∈ps
 |[],ps,p,h=>by cases ps<;>cases h
 |s::ops,[],p,h=>by cases h
 |s::ops,q::ps,p,h=>by
  have h:(bif c.fx s then Va c ops ps else some q)=some p:=h;cases e:c.fx s with
  |true=>rw[e] at h;exact zh _ (qw4 ops ps p h)
  |false=>rw[e] at h;injection h with h;rw[h];exact zg ..
def zh6{i0 i:Nat}{r:Row}(hr:RI c E Q N i0 i r){first:Int}(h1:0<=first/\first<=E):cB E (AN c Q N i0) (PI c first r i):=by
 have hm:=hr.m;have hn:=hr.n1;have hg:=hr.gt;unfold PI;by_cases h0:r.ops=[]
 ·rw[if_pos h0];have hl:r.apps.length=1:=by rw[hn,h0];rfl
  match ha:r.apps,hl with
  |[a],_=>
   rw[ha,h0] at hm;have e:tot [a]=a.length+1:=by unfold tot;simp
   rw[e] at hm;simp only[List.length_nil] at hm;refine cB.ok ⟨hg,hr.le,?_,hr.g1 a (by rw[ha];exact zM.2 rfl)⟩
   grind
 ·rw[if_neg h0];cases hf:Va c r.ops r.at_ with
  |some p=>exact⟨hr.g3 p (qw4 _ _ _ hf),(by decide:(70:Int)<=71),(by decide:(71:Int)<=73)⟩
  |none=>
   cases hc:c.cl r.ops with
   |none=>exact⟨h1,(by decide:(70:Int)<=72),(by decide:(72:Int)<=73)⟩
   |some x=>
    obtain⟨t,e1,e2,e3⟩:=zje (P:=GN Q N) hr.g1 (fun s hs=>⟨hr.g2 s hs,H.n0⟩) ⟨H.q0,H.n0⟩ (H.cl _ _ hc) om (Nat.le_refl _) x.length [] (Nat.le_refl _);rw[zn] at e1;show cB E (AN c Q N i0) (.ok ((mf r.apps r.ops x.length x).1,i));rw[e1];refine cB.ok ⟨hg,hr.le,?_,e3⟩;have es:JP r.apps 0 r.ops.length=r.apps:=by
     unfold JP
     grind
    rw[es] at e2;unfold tot at hm;simp only;omega
def zjg(h:∀i,cB E (AN c Q N i) (self i))(hp:∀i,cB E (AN c Q N i) (bL i))(i:Nat):cB E (AN c Q N i) (PJ c self bL i):=by
 unfold PJ;refine(zeu H h hp i).eb fun x ⟨x1,x2,x3,x4⟩=>(zev H h hp i _ x.2 ⟨[x.1],[],[]⟩ ?_).eb fun r hr=>zh6 H hr (z8o H i);have e:tot [x.1]=x.1.length+1:=by unfold tot;simp
 refine⟨rfl,rfl,?_,x1,x2,?_,(fun _ h=>absurd h (List.not_mem_nil)),(fun _ h=>absurd h (List.not_mem_nil))⟩
 ·grind
 ·intro a ha;rw[zM.1 ha];exact x4
def zh7(h:∀i,cB E (AN c Q N i) (self i))(hp:∀i,cB E (AN c Q N i) (bL i))(i:Nat):cB E (AN c Q N i) (zh3 c self bL i):=by
 unfold zh3;refine cB.bif (fun _=>?_) fun _=>zjg H h hp i;refine cB.bif (fun _=>?_) fun _=>cB.bif (fun _=>?_) fun _=>cB.bif (fun _=>?_) fun _=>cB.bif (fun _=>?_) fun _=>?_
 ·refine(ZF H (i+1)).eb fun s ⟨s1,s2,s3⟩=>(PO H h s.2 Ro).eb fun x ⟨x1,x2,x3,x4⟩=>?_;refine cB.ok ⟨by simp only;omega,x2,?_,eS.nd H.n0 s1 x4.one⟩;show(nd _ _ _).length+1<=_;rw[JO]
  grind
 ·refine(ZF H _).eb fun s ⟨s1,s2,s3⟩=>(PO H h s.2 kEq).eb fun x ⟨x1,x2,x3,x4⟩=>(PO H h x.2 kIn).eb fun y ⟨y1,y2,y3,y4⟩=>?_;have hs:i+1<s.2:=by grind
  refine cB.ok ⟨by simp only;omega,y2,?_,eS.nd H.n0 s1 (x4.two y4)⟩;show(nd _ _ _).length+1<=_;rw[JO]
  grind
 ·refine(h (i+1)).eb fun x ⟨x1,x2,x3,x4⟩=>(PO H h x.2 yp).eb fun y ⟨y1,y2,y3,y4⟩=>(PO H h y.2 yq).eb fun z ⟨z1,z2,z3,z4⟩=>?_;refine cB.ok ⟨by simp only;omega,z2,?_,eS.nd H.n0 H.q0 (x4.three y4 z4)⟩;show(nd _ _ _).length+1<=_;rw[JO]
  grind
 ·refine(h (i+1)).eb fun x ⟨x1,x2,x3,x4⟩=>?_;refine cB.ok ⟨by simp only;omega,x2,?_,eS.nd H.n0 H.q0 x4.one⟩;show(nd _ _ _).length+1<=_;rw[JO]
  grind
 ·refine(h (i+1)).eb fun x ⟨x1,x2,x3,x4⟩=>(Lq H x.2 eU).eb fun a ⟨a1,a2⟩=>(ZF H a).eb fun s ⟨s1,s2,s3⟩=>(PO H h s.2 Ro).eb fun y ⟨y1,y2,y3,y4⟩=>?_;refine cB.ok ⟨by simp only;omega,y2,?_,eS.nd H.n0 s1 (x4.two y4)⟩;show(nd _ _ _).length+1<=_;rw[JO]
  grind
def z8v:∀(d i:Nat),cB E (AN c Q N i) (PK c d i)
 |0,i=>PN H i dc dc
 |d+1,i=>zh7 H (z8v d) (z8r H d) i
def dB:cB E (fun l=>l.length+1<=3*c.l.length/\eS Q N l) (PL c):=by
 unfold PL;refine(z8v H 100 0).eb fun x ⟨x1,x2,x3,x4⟩=>?_;split
 ·exact PN H _ dc dc
 ·exact cB.ok ⟨by omega,x4⟩
end
end Pz
end Ev

namespace Ev
namespace Pz
structure Emb (c c':PC) (off:Nat):Prop where
 g:∀i,i<c.l.length->∃t t',c.l[i]?=some t/\c'.l[i+off]?=some t'/\t'.1=t.1/\t'.2.1=t.2.1/\t'.2.2.1=t.2.2.1
 z:∃t',c'.l[c.l.length+off]?=some t'/\t'.1=6/\t'.2.1=kR
 fx:c'.fx=c.fx
 cl:c'.cl=c.cl
 le:c.l.length<=c'.l.length
def RR{α β:Type}(S:α->β->Prop)(r:PR α)(r':PR β):Prop:=match r with
 |.error _=>True
 |.ok a=>(∃w,r'=.error (w,73))\/∃b,r'=.ok b/\S a b
def RR.bif{α β:Type}{S:α->β->Prop}{t t':Bool}{x y:PR α}{x' y':PR β}(ht:t'=t)(hx:t=true->RR S x x')(hy:t=false->RR S y y'):RR S (bif t then x else y) (bif t' then x' else y'):=by
 subst ht;cases t' with
 |true=>exact hx rfl
 |false=>exact hy rfl
def RR.ok{α β:Type}{S:α->β->Prop}{a:α}{b:β}(h:S a b):RR S (.ok a) (.ok b):=.inr ⟨b,rfl,h⟩
def RR.mono{α β:Type}{S T:α->β->Prop}{r:PR α}{r':PR β}(h:RR S r r')(h2:∀a b,S a b->T a b):RR T r r':=by
 cases r with
 |error e=>trivial
 |ok a=>
  rcases h with h|⟨b,hb,hs⟩
  ·exact .inl h
  ·exact .inr ⟨b,hb,h2 a b hs⟩
section
variable {c c':PC} {off:Nat} (H:Emb c c' off)
variable (c off) in
def SN{α:Type}(i:Nat)(x x':α×Nat):Prop:=x'.1=x.1/\x'.2=x.2+off/\i<x.2/\x.2<=c.l.length
include H
omit H in
variable {self Vb bL PM:PT}
omit H in
end
end Pz
end Ev

namespace Ev
namespace Pz
end Pz
end Ev

namespace Ev
namespace Pz
section
variable (FY FZ:Int→Bool) (kQ:Tx→Bool) (rd:Tx→Int×Int)
def PQ(p:Int->Bool):Tx->Nat
 |[]=>0
 |b::l=>bif p b then PQ p l+1 else 0
def zjh(c:Int):Bool:=decide (97<=c)&&decide (c<=122)
def zji(c:Int):Bool:=decide (65<=c)&&decide (c<=90)
def Vc(c:Int):Bool:=decide (48<=c)&&decide (c<=57)
def JS(c:Int):Int:=bif Vc c then c-48 else bif decide (97<=c)&&decide (c<=102) then c-87 else -1
def qt:Tx->Tx->Nat->Tx×Nat
 |[],_,_=>([],0)
 |c::l,b,i=>
  if c=34 then(b,i+1) else
  if c<32\/126<c then([],0) else
  if c≠92 then qt l (b++[c]) (i+1) else
  match l with
  |[]=>([],0)
  |d::l2=>
   if d=34\/d=92 then qt l2 (b++[d]) (i+2) else
   if d=110 then qt l2 (b++[10]) (i+2) else
   if d=120 then match l2 with
    |x::y::l3=>if JS x<0\/JS y<0 then([],0) else qt l3 (b++[16*JS x+JS y]) (i+4)
    |_=>([],0)
   else([],0)
abbrev T3:=Int×Tx×Int
def E4(n:Nat)(k:Int)(s:Tx):T3×Nat×Int:=((bif kQ (s.take n) then 6 else k,s.take n,0),n,0)
def JT(e:Int):T3×Nat×Int:=((0,[],0),0,e)
def adt(c:Int)(l:Tx):T3×Nat×Int:=
  bif zjh c then E4 kQ (PQ FY (c::l)) 1 (c::l) else
  bif zji c then E4 kQ (PQ FY (c::l)) 2 (c::l) else
  bif FZ c then E4 kQ (PQ FZ (c::l)) 5 (c::l) else
  bif decide (c=40)||(decide (c=41)||decide (c=95)) then E4 kQ 1 6 (c::l) else
  bif decide (c=59)&&decide (l.head?=some 59) then E4 kQ 2 6 (c::l) else
  bif Vc c||decide (c=126) then
   (bif decide ((rd ((c::l).take (1+PQ Vc l))).2=0) then((3,[],(rd ((c::l).take (1+PQ Vc l))).1),1+PQ Vc l,0) else JT 31) else
  bif decide (c=34) then
   (bif decide ((qt l [] 1).2=0)||decide (200<(qt l [] 1).1.length) then JT 32 else((4,(qt l [] 1).1,0),(qt l [] 1).2,0)) else
  JT 30
def one:Tx->T3×Nat×Int
 |[]=>JT 30
 |c::l=>adt FY FZ kQ rd c l
def yr:Bool->Tx->Nat
 |_,[]=>0
 |false,b::l=>if b=32\/b=10 then yr false l+1 else if b=35 then yr true l+1 else 0
 |true,b::l=>if b=10 then yr false l+1 else yr true l+1
def adu(t:T3)(a:Int):Tk:=(t.1,t.2.1,t.2.2,a)
def Vd:Nat->Tx->Int->PR (List Tk)
 |0,_,_=>.ok []
 |f+1,s,a=>
  if s.drop (yr false s)=[] then .ok [] else
  if(one FY FZ kQ rd (s.drop (yr false s))).2.2≠0 then .error (a+yr false s,(one FY FZ kQ rd (s.drop (yr false s))).2.2) else
  eb (Vd f ((s.drop (yr false s)).drop (one FY FZ kQ rd (s.drop (yr false s))).2.1) (a+yr false s+(one FY FZ kQ rd (s.drop (yr false s))).2.1)) fun l=>.ok (adu (one FY FZ kQ rd (s.drop (yr false s))).1 (a+yr false s)::l)
end
end Pz
end Ev

namespace Ev
namespace Pz
section
variable {FY FZ:Int→Bool} {kQ:Tx→Bool} {rd:Tx→Int×Int}
end
end Pz
end Ev

namespace Ev
namespace Pz
section
variable {FY FZ:Int→Bool} {kQ:Tx→Bool} {rd:Tx→Int×Int}
def shT(b:Int)(t:Tk):Tk:=(t.1,t.2.1,t.2.2.1,t.2.2.2+b)
def LA(b:Int):PR (List Tk)->PR (List Tk)
 |.ok l=>.ok (l.map (shT b))
 |.error e=>.error (e.1+b,e.2)
end
end Pz
end Ev

namespace Ev
open Go
namespace Fn
def zh8{a b:List Int}:bM a b=true↔a=b:=by simp[bM]
def cL(l:List ak)(op:List Int):List ak:=l.filter fun x=>!bM x.1 op
def F0(l:List ak):List ak:=l.mergeSort fun a b=>!fT b a
def fV(l:List ak)(f:ak):List ak×Int:=if iD l≠0 then([],iD l) else if gQ f=false\/(cL l f.1).length=400 then([],40) else(F0 (cL l f.1++[f]),0)
def Ve(x f:ak):nD (x,f,())=some (bM x.1 f.1,()):=abJ x.1 x.2.1 x.2.2 f.1 f.2.1 f.2.2
def z8w(n:Bool)(l:List ak)(f:ak)(hl:l.length<=1000000):∀(m k:Nat),k+m=l.length->(∀x,x∈l.take k->bM x.1 f.1=false)->∃r,aD pQ (⟨n,l⟩,f,(l.length:Int),(k:Int),())=some (r,())/\((r=-1/\∀x,x∈l->bM x.1 f.1=false)\/∃(j:Nat) (x:ak),r=(j:Int)/\l[j]?=some x/\bM x.1 f.1=true/\∀x,x∈l.take j->bM x.1 f.1=false):=by
 intro m
 induction m with
 |zero=>intro k hk ha;refine⟨-1,bZ ?_,.inl ⟨rfl,fun x hx=>ha x (by rw[zW om];exact hx)⟩⟩;rw[q6o];simp only;rw[bD,if_neg om]
 |succ m ih=>
  intro k hk ha;have hc:k<l.length:=om
  have step:pQ (⟨n,l⟩,f,(l.length:Int),(k:Int),())=aP (bM l[k].1 f.1) (some (.inr ((k:Int),()))) (some (.inl (⟨n,l⟩,f,(l.length:Int),((k+1:Nat):Int),()))):=by rw[q6o];simp only;rw[bD,if_pos om,aU (zf hc),af,Ve,af,aB om]
  cases h:bM l[k].1 f.1 with
  |true=>rw[h,aK] at step;exact⟨k,bZ step,.inr ⟨k,l[k],rfl,zf hc,h,ha⟩⟩
  |false=>
   rw[h,aI] at step;obtain⟨r,h1,h2⟩:=ih (k+1) om (fun x hx=>by
    rw[List.take_add_one,zf hc] at hx;rcases zH.1 hx with hx|hx
    ·exact ha x hx
    ·have:x=l[k]:=by simpa using hx
     rw[this];exact h)
   exact⟨r,by rw[cU step,h1],h2⟩
def qw6{l:List ak}{op:List Int}(h:∀x,x∈l->bM x.1 op=false):cL l op=l:=by
 unfold cL;rw[List.filter_eq_self]
 grind
def qw7{l:List ak}{op:List Int}{j:Nat}{x:ak}(h:l[j]?=some x):cL (l.take (j+1)) op=cL (l.take j) op++(if bM x.1 op=true then [] else [x]):=by
 unfold cL;rw[List.take_add_one,h,List.filter_append]
 grind
def zcw(f:ak)(b:Bool)(l:List ak)(hl:l.length<=1000000):∀(m j i:Nat) (a:List ak),j+m=l.length->a.length=l.length->i<=j->a.take i=cL (l.take j) f.1->a.drop j=l.drop j->aD tW (f,(i:Int),(j:Int),⟨b,a⟩,())=some (⟨b,cL l f.1⟩,()):=by
 intro m
 induction m with
 |zero=>
  intro j i a hj ha hi h1 h2;refine bZ ?_;rw[q7w];simp only;have c1:df (ae a) (i:Int)=some i:=by
   unfold df ae
   grind
  have lz:(fF a (i:Int) (([]:List Int),(0:Int),(0:Int))).length=a.length:=by
   unfold fF
   grind
  have c2:df (ae (fF a (i:Int) (([]:List Int),(0:Int),(0:Int)))) (i:Int)=some i:=by
   unfold df ae
   grind
  have tz:aH (fF a (i:Int) (([]:List Int),(0:Int),(0:Int))) i=a.take i:=by
   unfold aH fF
   grind
  rw[bD,if_neg (by unfold ae;omega),c1,af,c2,af,tz,h1,zW om]
 |succ m ih=>
  intro j i a hj ha hi h1 h2;have hc:j<l.length:=om
  have hx:a[j]?=some l[j]:=by have:=congrArg (fun z:List ak=>z[0]?) h2;simp only[List.getElem?_drop,Nat.add_zero] at this;rw[this,zf hc]
  have hd:a.drop (j+1)=l.drop (j+1):=by rw[<-List.drop_drop,<-List.drop_drop,h2]
  have dt:=qw7 (op:=f.1) (zf hc);have step:tW (f,(i:Int),(j:Int),⟨b,a⟩,())=if bM l[j].1 f.1=true then some (.inl (f,(i:Int),((j+1:Nat):Int),⟨b,a⟩,())) else some (.inl (f,((i+1:Nat):Int),((j+1:Nat):Int),⟨b,a.set i l[j]⟩,())):=by
   rw[q7w];simp only;have g:nD ((l[j].1,l[j].2.1,l[j].2.2),f,())=some (bM l[j].1 f.1,()):=Ve _ _;have oi:cD a (i:Int)=some i:=vc om;have ni:nth a i=some (a[i]' om):=z7y (zf om);rw[bD,if_pos (by unfold ae;omega),vc (by omega:j<a.length),af,z7y hx,af,g,af,oi,af,ni,af,af];cases bM l[j].1 f.1 with
   |true=>rw[if_pos rfl];show az (aP (ar true) _ _) _=_;simp only[ar,Bool.not_true,aI,af];rw[aB om]
   |false=>rw[if_neg dc];show az (aP (ar false) _ _) _=_;simp only[ar,Bool.not_false,aK,af];rw[aB om,aB om];rfl
  cases he:bM l[j].1 f.1 with
  |true=>rw[he,if_pos rfl] at step dt;rw[cU step];exact ih (j+1) i a om ha om (by rw[h1,dt,zn]) hd
  |false=>
   rw[he,if_neg dc] at step dt;rw[cU step];refine ih (j+1) (i+1) _ om (by rw[List.length_set];exact ha) om ?_ ?_
   ·rw[dt,<-h1,List.take_add_one,List.getElem?_set_self om,List.take_set_of_le om];rfl
   ·rw[List.drop_set_of_lt om];exact hd
def zcx(n:Bool)(f:ak)(l:List ak)(hl:l.length<=1000000):sU (f,⟨n,l⟩,())=some (⟨n,cL l f.1⟩,()):=by
 obtain⟨r,h1,h2⟩:=z8w n l f hl l.length 0 om (fun x hx=>by rw[List.take_zero] at hx;cases hx);have h1:aD pQ (⟨n,l⟩,f,ae l,0,())=some (r,()):=h1;have e:sU (f,⟨n,l⟩,())=_:=abL f.1 f.2.1 f.2.2 ⟨n,l⟩;have e2:wP (⟨n,l⟩,f,())=_:=abK ⟨n,l⟩ f.1 f.2.1 f.2.2;rw[e,e2,h1,af];rcases h2 with ⟨rfl,h2⟩|⟨j,x,rfl,h3,h4,h5⟩
 ·rw[GC,aK,qw6 h2]
 ·have hj:j<l.length:=by grind
  rw[eB om,aI,aB om];refine zcw f n l hl (l.length-(j+1)) (j+1) j l om rfl om ?_ rfl;rw[qw7 h3,if_pos h4,zn,qw6 h5]
def qt5(l:List ak)(op:List Int):(cL l op).length<=l.length:=List.length_filter_le ..
def kS{l:List ak}{op:List Int}{x:ak}:x∈cL l op↔x∈l/\x.1≠op:=by
 unfold cL;rw[List.mem_filter];have:(!bM x.1 op)=true↔x.1≠op:=by rw[Bool.not_eq_true',<-Bool.not_eq_true,zh8]
 rw[this]
def z8x{x:ak}(h:gF x):y0 x=true:=by unfold y0;simp only[ze,decide_eq_true_eq,zL];exact⟨⟨⟨h.1,h.2.1⟩,h.2.2.1⟩,h.2.2.2⟩
def z1b{l:List ak}(hp:l.Pairwise fun x y=>x.1≠y.1)(f:ak):(cL l f.1++[f]).Pairwise fun x y=>x.1≠y.1:=by rw[List.pairwise_append];refine⟨hp.sublist List.filter_sublist,List.pairwise_singleton ..,fun x hx y hy=>?_⟩;rw[zM.1 hy];exact(kS.1 hx).2
def z8y{l:List ak}(hp:l.Pairwise fun x y=>x.1≠y.1){x y:ak}(hx:x∈l)(hy:y∈l)(e:x.1=y.1):x=y:=by
 induction hp with
 |nil=>cases hx
 |cons h1 _ ih=>
  rcases zk.1 hx with ex|hx
  ·rcases zk.1 hy with ey|hy
   ·rw[ex,ey]
   ·rw[ex] at e;exact absurd e (h1 _ hy)
  ·rcases zk.1 hy with ey|hy
   ·rw[ey] at e;exact absurd e.symm (h1 _ hx)
   ·exact ih hx hy
def zcy{l:List ak}(hp:l.Pairwise fun x y=>x.1≠y.1):KM l=true:=by
 unfold KM;rw[zL];intro x hx;rw[zL];intro y hy;by_cases e:x.1=y.1
 ·rw[z8y hp hx hy e];simp
 ·simp[e]
def zcz(n:Bool){l:List ak}(h:gL l)(hn:n=true->l=[])(f:ak)(hf:gF f)(hl:f.1.length<=1000000):∃q,o4 (⟨n,l⟩,f,())=some (⟨q,(fV l f).1⟩,(fV l f).2,())/\(q=true->(fV l f).1=[]):=by
 have e:o4 (⟨n,l⟩,f,())=_:=abM ⟨n,l⟩ f.1 f.2.1 f.2.2;rw[e,Rn n h,af];unfold fV;by_cases hc:iD l=0
 ·have e0:ar (ag (iD l) 0)=false:=by rw[hc];rfl
  simp only[e0,aI];rw[if_neg (by simpa using hc)];obtain⟨k1,k2,k3⟩:=qt3 hc;have hg:∃q,nC (⟨n,l⟩,())=some (⟨q,l⟩,()):=by
   rw[Un];cases hj:n with
   |true=>rw[aK,hn hj];exact⟨_,rfl⟩
   |false=>rw[aI,vX (by simp only[bS,ae,List.length_nil];omega),af];exact⟨_,rfl⟩
  obtain⟨q,hg⟩:=hg;have hr:nz ((f.1,f.2.1,f.2.2),())=some (gQ f,()):=qrf f hf hl;have hd:sU ((f.1,f.2.1,f.2.2),⟨q,l⟩,())=some (⟨q,cL l f.1⟩,()):=zcx q f l om;have dl:=qt5 l f.1;rw[hg,af,hd,af,hr,af];by_cases he:gQ f=false\/(cL l f.1).length=400
  ·rw[if_pos he];refine⟨true,?_,fun _=>rfl⟩;have:az (aP (ar (gQ f)) (some true) (some (ag (ae (cL l f.1)) 400)))=fun g:Bool->Option (Sl ak×Int×Unit)=>g true:=by
    funext g;cases hk:gQ f with
    |false=>rfl
    |true=>
     rcases he with he|he
     ·rw[hk] at he;cases he
     ·simp only[ar,Bool.not_true,aI,af];rw[show ag (ae (cL l f.1)) 400=true by unfold ae;rw[he];rfl]
   rw[this];rfl
  ·rw[if_neg he];have h1:gQ f=true:=by
    cases hh:gQ f with
    |true=>rfl
    |false=>exact absurd (.inl hh) he
   have h2:(cL l f.1).length≠400:=fun hh=>he (.inr hh);have h3:ag (ae (cL l f.1)) 400=false:=eB (by unfold ae;omega);have np:=z1b (ve.1 k3) f;have hs:Ax (⟨bP q (eX [(f.1,f.2.1,f.2.2)]),app (cL l f.1) [(f.1,f.2.1,f.2.2)]⟩,())=some (⟨bP q false,F0 (cL l f.1++[f])⟩,()):=by
    unfold Ax;have g1:(app (cL l f.1) [(f.1,f.2.1,f.2.2)]).all y0=true:=by
     rw[zL];intro x hx;rcases zH.1 hx with hx|hx
     ·exact z8x (h.1 x (kS.1 hx).1)
     ·rw[zM.1 hx];exact z8x hf
    have g2:KM (app (cL l f.1) [(f.1,f.2.1,f.2.2)])=true:=zcy np;have g3:decide ((app (cL l f.1) [(f.1,f.2.1,f.2.2)]).length<4611686018427387904)=true:=zt (by
     show(cL l f.1++[_]).length<_;rw[zd,List.length_singleton];omega)
    simp only[g1,g2,g3];rfl
   refine⟨bP q false,?_,fun hh=>by cases q<;>cases hh⟩;rw[h1];simp only[ar,Bool.not_true,aI,af,h3];rw[vX (by unfold bS ae;simp only[List.length_singleton];omega),af,hs];rfl
 ·have e0:ar (ag (iD l) 0)=true:=by rw[eB hc];rfl
  simp only[e0,aK]
  simp_all
def qpe(l:List ak)(x:ak):x∈F0 l↔x∈l:=(List.mergeSort_perm l _).mem_iff
def z8z(l:List ak):(F0 l).length=l.length:=List.length_mergeSort l
def zh9{l:List ak}(h:gL l){f:ak}(hf:gF f)(hl:f.1.length<=1000000):gL (fV l f).1:=by
 unfold fV;by_cases hc:iD l=0
 ·rw[if_neg (by simpa using hc)];by_cases he:gQ f=false\/(cL l f.1).length=400
  ·rw[if_pos he];exact⟨(fun x hx=>by cases hx),(fun x hx=>by cases hx),Nat.zero_le _⟩
  ·rw[if_neg he];have dl:=qt5 l f.1;have:=(qt3 hc).1;have hm:∀x,x∈F0 (cL l f.1++[f])->x∈l\/x=f:=fun x hx=>by
    rcases zH.1 ((qpe _ x).1 hx) with hx|hx
    ·exact .inl (kS.1 hx).1
    grind
   refine⟨fun x hx=>?_,fun x hx=>?_,?_⟩
   ·rcases hm x hx with hx|rfl
    ·exact h.1 x hx
    ·exact hf
   ·rcases hm x hx with hx|rfl
    ·exact h.2.1 x hx
    ·exact hl
   ·show(F0 (cL l f.1++[f])).length<=_;rw[z8z,zd,List.length_singleton];omega
 ·rw[if_pos hc];exact⟨(fun x hx=>by cases hx),(fun x hx=>by cases hx),Nat.zero_le _⟩
end Fn
end Ev