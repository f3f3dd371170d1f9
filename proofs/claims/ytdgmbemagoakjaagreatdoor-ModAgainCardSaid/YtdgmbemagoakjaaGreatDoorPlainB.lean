/- Layers 4 and 7 in plain words: fixities; a parser, a lexer; what the reference says of them. -/
import Derived.Test.YtdgmbemagoakjaaGreatDoorPlainA
import Derived.Laws.RangeAny
namespace Ev
namespace Fx
variable{P cur x:List Int}{b k o q:Nat}
section
variable (lv sd:Nat→Int)
def LB(o x:Nat):Prop:=lv o<lv x\/(lv o=lv x/\sd o<0/\sd x<0)
def RB(o x:Nat):Prop:=lv o<lv x\/(lv o=lv x/\0<sd o/\0<sd x)
inductive B:Nat->Nat->List Int->Prop
 |nil (a:Nat):B a a [-1-(a:Int)]
 |node (a r b:Nat) (x y:List Int):a<=r->r<b->(∀i,a<=i->i<r->LB lv sd r i)->(∀i,r<i->i<b->RB lv sd r i)->B a r x->B (r+1) b y->B a b ((r:Int)::(x++y))
variable {lv sd}
theorem RB.trans{a c:Nat}(h1:RB lv sd a b)(h2:RB lv sd b c):RB lv sd a c:=by
 unfold RB at*
 omega
theorem qxw{a r:Nat}(hr:a<=r/\r<b)(hq:a<=q/\q<b)(h1:∀i,a<=i->i<r->LB lv sd r i)(h2:∀i,r<i->i<b->RB lv sd r i)(h3:∀i,a<=i->i<q->LB lv sd q i)(h4:∀i,q<i->i<b->RB lv sd q i):r=q:=by
 rcases Za r q with h|h|h
 ·have e1:=h2 q h hq.2;have e2:=h3 r hr.1 h;unfold RB at e1;unfold LB at e2;omega
 ·exact h
 ·have e1:=h4 r h hr.2;have e2:=h1 q hq.1 h;unfold RB at e1;unfold LB at e2;omega
theorem B.unique{a:Nat}{y:List Int}(h:B lv sd a b x)(h':B lv sd a b y):x=y:=by
 induction h generalizing y with
 |nil a=>cases h' with
  |nil=>rfl
  |node _ r _ _ _ h1 h2=>omega
 |node a r b x1 x2 h1 h2 h3 h4 _ _ kq kC=>
  cases h' with
  |nil=>omega
  |node _ q _ _ _ g1 g2 g3 g4 g5 g6=>obtain rfl:=qxw ⟨h1,h2⟩ ⟨g1,g2⟩ h3 h4 g3 g4;rw[kq g5,kC g6]
theorem B.CM{a:Nat}(h:B lv sd a b x)(h1:a<=o)(h2:o<k)(h3:k<b)(he:lv o=lv k)(hb:∀i,o<i->i<k->lv k<=lv i)(hl:¬(sd o<0/\sd k<0))(hr:¬(0<sd o/\0<sd k)):False:=by
 induction h with
 |nil a=>omega
 |node a r b x1 x2 g1 g2 g3 g4 _ _ kq kC=>
  rcases Za r o with h|h|h
  ·grind
  ·subst h;have:=g4 k h2 h3;unfold RB at this;omega
  ·rcases Za r k with h'|h'|h'
   ·have e1:=g3 o h1 h;have e2:=g4 k h' h3;have e3:=hb r h h';unfold LB at e1;unfold RB at e2;omega
   ·subst h';have:=g3 o h1 h;unfold LB at this;omega
   ·exact kq h1 h'
def lo:List (Nat×List Int)->Nat
 |[]=>0
 |(o,_)::_=>o+1
variable (lv sd)
def Inv:List (Nat×List Int)->List Int->Nat->Prop
 |[],cur,k=>B lv sd 0 k cur
 |(o,P)::S,cur,k=>o<k/\B lv sd (o+1) k cur/\(∀x,o<x->x<k->RB lv sd o x)/\(∀x,lo S<=x->x<o->LB lv sd o x)/\Inv S P o/\(∀p,p∈S->∀x,p.1<x->x<k->RB lv sd p.1 x)
variable {lv sd}
theorem Inv.B{S:List (Nat×List Int)}(h:Inv lv sd S cur k):Fx.B lv sd (lo S) k cur:=by
 cases S with
 |nil=>exact h
 |cons p S=>exact h.2.1
theorem Inv.pop{S:List (Nat×List Int)}(h:Inv lv sd ((o,P)::S) cur k):Inv lv sd S ((o:Int)::(P++cur)) k:=by
 have⟨h1,h2,h3,h4,h5,h6⟩:=h;have hb:=h5.B;cases S with
 |nil=>exact .node 0 o k P cur (zC _) h1 (fun i h7 h8=>h4 i h7 h8) h3 hb h2
 |cons p S=>have⟨o',P'⟩:=p;have⟨g1,g2,g3,g4,g5,g6⟩:=h5;refine⟨by omega,.node (o'+1) o k P cur om h1 (fun i h7 h8=>h4 i h7 h8) h3 hb h2,fun x h7 h8=>h6 _ (zg ..) x h7 h8,g4,g5,fun p hp=>h6 p (zf _ hp)⟩
def y0(lv sd:Nat->Int)(S:List (Nat×List Int))(k:Nat):Prop:=∀x,lo S<=x->x<k->LB lv sd k x
theorem y0.pop{S:List (Nat×List Int)}(h:Inv lv sd ((o,P)::S) cur k)(hm:y0 lv sd ((o,P)::S) k)(hc:lv k<lv o\/(lv k=lv o/\sd k<0/\sd o<0)):y0 lv sd S k:=by
 have⟨h1,h2,h3,h4,h5,h6⟩:=h;intro x hx hk;rcases Za x o with h|h|h
 ·have:=h4 x hx h;unfold LB at*
  omega
 ·subst h;unfold LB;omega
 ·exact hm x h hk
theorem Inv.push{S:List (Nat×List Int)}(h:Inv lv sd S cur k)(hm:y0 lv sd S k)(ht:∀p,S.head?=some p->RB lv sd p.1 k):Inv lv sd ((k,cur)::S) [-2-(k:Int)] (k+1):=by
 have all:∀p,p∈S->∀x,p.1<x->x<k->RB lv sd p.1 x:=by
  cases S with
  |nil=>intro p hp;cases hp
  |cons q S=>
   have⟨h1,h2,h3,h4,h5,h6⟩:=h;intro p hp
   grind
 refine⟨by omega,?_,fun x h1 h2=>by omega,hm,h,fun p hp x h1 h2=>?_⟩
 ·have:=B.nil (lv:=lv) (sd:=sd) (k+1)
  grind
 ·by_cases hx:x<k
  ·grind
  ·obtain rfl:x=k:=om
   cases S with
   |nil=>cases hp
   |cons q S=>
    have hq:=ht q rfl;rcases zA.1 hp with rfl|hp
    ·exact hq
    ·have:=all p (zf _ hp);have⟨g1,g2,g3,g4,g5,g6⟩:=h;have h7:p.1<q.1:=by
      cases S with
      |nil=>cases hp
      |cons q' S'=>
       have key:∀(S:List (Nat×List Int)) (c:List Int) (m:Nat),Inv lv sd S c m->∀p,p∈S->p.1<m:=by
        intro S
        induction S with
        |nil=>intro c m _ p hp;cases hp
        |cons s S ih=>
         intro c m h p hp;have⟨e1,_,_,_,e5,_⟩:=h
         grind
       exact key _ _ _ g5 p hp
     exact(this q.1 h7 g1).trans hq
theorem Inv.CM{n:Nat}{S:List (Nat×List Int)}(h:Inv lv sd ((o,P)::S) cur k)(hm:y0 lv sd ((o,P)::S) k)(hk:k<n)(he:lv o=lv k)(hl:¬(sd o<0/\sd k<0))(hr:¬(0<sd o/\0<sd k))(x:List Int):¬Fx.B lv sd 0 n x:=fun hb=>by have⟨h1,_⟩:=h;refine hb.CM (zC o) h1 hk he (fun i h3 h4=>?_) hl hr;have:=hm i h3 h4;unfold LB at this;omega
theorem y0.start{S:List (Nat×List Int)}(h:lo S=k):y0 lv sd S k:=fun x h1 h2=>by omega
end
end Fx
end Ev

namespace Ev
namespace Fx
variable{x:List Int}{b k:Nat}
section
variable (lv sd:Nat→Int)
def y5(k:Nat):List (Nat×List Int)->List Int->Option (List (Nat×List Int)×List Int)
 |[],cur=>some ([],cur)
 |(o,P)::S,cur=>
  if lv o<lv k then some ((o,P)::S,cur)
  else if lv k<lv o then y5 k S ((o:Int)::(P++cur))
  else if sd o≠sd k\/sd k=0 then none
  else if 0<sd k then some ((o,P)::S,cur)
  else y5 k S ((o:Int)::(P++cur))
def BF:Nat->Nat->List (Nat×List Int)->List Int->Option (List (Nat×List Int)×List Int)
 |0,_,S,cur=>some (S,cur)
 |m+1,k,S,cur=>match y5 lv sd k S cur with
  |none=>none
  |some (S',iD)=>BF m (k+1) ((k,iD)::S') [-2-(k:Int)]
def MA:List (Nat×List Int)->List Int->List Int
 |[],cur=>cur
 |(o,P)::S,cur=>MA S ((o:Int)::(P++cur))
def gH(n:Nat):Option (List Int):=match BF lv sd n 0 [] [-1] with
 |none=>none
 |some (S,cur)=>some (MA S cur)
variable {lv sd}
theorem ub(hs:∀o,o<=k->sd o=-1\/sd o=0\/sd o=1):∀(S:List (Nat×List Int)) (cur:List Int),Inv lv sd S cur k->y0 lv sd S k->match y5 lv sd k S cur with
  |none=>∀n,k<n->∀x,¬B lv sd 0 n x
  |some (S',iD)=>Inv lv sd S' iD k/\y0 lv sd S' k/\∀p,S'.head?=some p->RB lv sd p.1 k:=by
 intro S
 induction S with
 |nil=>intro cur h hm;exact⟨h,hm,fun p hp=>by cases hp⟩
 |cons s S ih=>
  have⟨o,P⟩:=s;intro cur h hm;have hc:=h.1;have h1:=hs o om;have h2:=hs k (zm _);unfold y5;by_cases c1:lv o<lv k
  ·rw[zu c1];refine⟨h,hm,fun p hp=>?_⟩;cases hp;exact .inl c1
  ·rw[zj c1];by_cases c2:lv k<lv o
   ·rw[zu c2];exact ih _ h.pop (hm.pop h (.inl c2))
   ·rw[zj c2];have he:lv o=lv k:=om
    by_cases c3:sd o≠sd k\/sd k=0
    ·rw[zu c3];intro n hn x;exact h.CM hm hn he om om x
    ·rw[zj c3];by_cases c4:0<sd k
     ·rw[zu c4];refine⟨h,hm,fun p hp=>?_⟩;cases hp;exact .inr ⟨he,(by show 0<sd o;omega),c4⟩
     ·rw[zj c4];exact ih _ h.pop (hm.pop h (.inr ⟨he.symm,by omega,by omega⟩))
theorem zd6{n:Nat}(hs:∀o,o<n->sd o=-1\/sd o=0\/sd o=1):∀(m k:Nat) (S:List (Nat×List Int)) (cur:List Int),k+m=n->Inv lv sd S cur k->lo S=k->match BF lv sd m k S cur with
  |none=>∀x,¬B lv sd 0 n x
  |some (S',iD)=>Inv lv sd S' iD n:=by
 intro m
 induction m with
 |zero=>
  intro k S cur hk h _;obtain rfl:k=n:=om
  exact h
 |succ m ih=>
  intro k S cur hk h hl;unfold BF;have hw:=ub (lv:=lv) (sd:=sd) (k:=k) (fun o ho=>hs o om) S cur h (y0.start hl);cases hc:y5 lv sd k S cur with
  |none=>rw[hc] at hw;exact hw n om
  |some q=>have⟨S',iD⟩:=q;rw[hc] at hw;have⟨g1,g2,g3⟩:=hw;exact ih (k+1) _ _ om (g1.push g2 g3) rfl
theorem qqi{n:Nat}:∀(S:List (Nat×List Int)) (cur:List Int),Inv lv sd S cur n->B lv sd 0 n (MA S cur)
 |[],_,h=>h
 |(_,_)::S,_,h=>qqi S _ h.pop
theorem mA{n:Nat}(hs:∀o,o<n->sd o=-1\/sd o=0\/sd o=1):match gH lv sd n with
  |none=>∀x,¬B lv sd 0 n x
  |some x=>B lv sd 0 n x:=by
 have h:=zd6 (lv:=lv) (sd:=sd) hs n 0 [] [-1] om (show B lv sd 0 0 [-1] from B.nil 0) rfl;unfold gH;cases hc:BF lv sd n 0 [] [-1] with
 |none=>rw[hc] at h;exact h
 |some q=>have⟨S,cur⟩:=q;rw[hc] at h;exact qqi S cur h
def rowOf:Nat->Nat->List Int
 |a,0=>[-1-(a:Int)]
 |a,m+1=>(-1-(a:Int))::(a:Int)::rowOf (a+1) m
theorem B.len{a:Nat}(h:B lv sd a b x):x.length=2*(b-a)+1:=by
 induction h with
 |nil a=>simp
 |node a r b x y h1 h2 _ _ _ _ kq kC=>grind
end
end Fx
end Ev

namespace Ev
namespace Fx
section
variable {lv sd:Nat→Int}
end
end Fx
end Ev

namespace Ev
open Go
namespace Fn
abbrev af:Type:=(List Int)×Int×Int
def gF(x:af):Prop:=(∀b,b∈x.1->0<=b/\b<=255)/\x.1.length<=9223372036854775807/\(-9223372036854775808<=x.2.1/\x.2.1<=9223372036854775807)/\(-9223372036854775808<=x.2.2/\x.2.2<=9223372036854775807)
def iu(x:af):Bool:=bX x.1&&decide (0<=x.2.1/\x.2.1<=9)&&decide (-1<=x.2.2/\x.2.2<=1)
theorem znh(b:Bool)(n m:Int):aw (aL b (some (cD 0 n)) (some false)) (fun x1=>aw (aL x1 (some (cD n 9)) (some false)) (fun x2=>aw (aL x2 (some (cD (-1) m)) (some false)) (fun x3=>aw (aL x3 (some (cD m 1)) (some false)) (fun x4=>some (x4,())))))=some (b&&decide (0<=n/\n<=9)&&decide (-1<=m/\m<=1),()):=by
 have e1:decide (0<=n/\n<=9)=(cD 0 n&&cD n 9):=by unfold cD;rw[Bool.decide_and]
 have e2:decide (-1<=m/\m<=1)=(cD (-1) m&&cD m 1):=by unfold cD;rw[Bool.decide_and]
 rw[e1,e2];cases b<;>cases cD 0 n<;>cases cD n 9<;>cases cD (-1) m<;>cases cD m 1<;>rfl
theorem z7e(x:af)(hx:gF x):vt (x,())=some (iu x,()):=by obtain⟨s,n,m⟩:=x;rw[aat,W8 s hx.1,ae];exact znh _ n m
theorem qqj(x:af)(hx:gF x)(_:x.1.length<=1000000):vt (x,())=some (iu x,()):=z7e x hx
variable{b j:Nat}
def lZ(l:List af)(op:List Int):Option af:=l.find? fun x=>decide (x.1=op)
theorem zpp(x:af)(op:List Int):yj (x,op,())=some (bW x.1 op,()):=aax x.1 x.2.1 x.2.2 op
theorem zd7(n:Bool)(l:List af)(op:List Int)(hl:l.length<=1000000):∀(m k:Nat),k+m=l.length->∃r,aI pJ (⟨n,l⟩,op,(l.length:Int),(k:Int),())=some (r,())/\((r=-1/\lZ (l.drop k) op=none)\/∃j x:_,r=((j:Nat):Int)/\l[j]?=some x/\lZ (l.drop k) op=some x):=by
 intro m
 induction m with
 |zero=>intro k hk;refine⟨-1,bG ?_,.inl ⟨rfl,by rw[zR om];rfl⟩⟩;rw[q6b];simp only;rw[bf,zj om]
 |succ m ih=>
  intro k hk;have hc:k<l.length:=om
  have hf:lZ (l.drop k) op=if l[k].1=op then some l[k] else lZ (l.drop (k+1)) op:=by
   rw[lX hc];unfold lZ
   grind
  have step:pJ (⟨n,l⟩,op,(l.length:Int),(k:Int),())=if l[k].1=op then some (.inr ((k:Int),())) else some (.inl (⟨n,l⟩,op,(l.length:Int),((k+1:Nat):Int),())):=by rw[q6b];simp only;rw[bf,zu om,bJ (zh hc),ae,zpp,ae,DI,aG om]
  by_cases h:l[k].1=op
  ·rw[zu h] at step hf;exact⟨k,bG step,.inr ⟨k,l[k],rfl,zh hc,hf⟩⟩
  ·rw[zj h] at step hf;have⟨r,h1,h2⟩:=ih (k+1) om;rw[hf];exact⟨r,by rw[cY step,h1],h2⟩
theorem Xc(n:Bool)(l:List af)(op:List Int)(hl:l.length<=1000000):o8 (⟨n,l⟩,op,())=some (match lZ l op with|some x=>(x,true,())|none=>(([],0,0),false,())):=by
 have⟨r,h1,h2⟩:=zd7 n l op hl l.length 0 om;rw[jh] at h2;have h1:aI pJ (⟨n,l⟩,op,aa l,0,())=some (r,()):=h1;rw[aaz,aay,h1,ae,bf];rcases h2 with ⟨rfl,h2⟩|⟨j,x,rfl,h3,h4⟩
 ·grind
 ·rw[zj om,bJ h3,ae,h4]
def gL(l:List af):Prop:=(∀x,x∈l->gF x)/\(∀x,x∈l->x.1.length<=1000000)/\l.length<=1000000
theorem gL.take{l:List af}(h:gL l)(k:Nat):gL (l.take k):=⟨fun x hx=>h.1 x (jK hx),fun x hx=>h.2.1 x (jK hx),by rw[jv];have:=h.2.2;omega⟩
theorem z7f(n:Bool){l:List af}(h:gL l):∀(m k:Nat),k+m=l.length->∃r,aI pI (⟨n,l⟩,(l.length:Int),(k:Int),())=some (r,())/\(0<=r↔(l.drop k).any (fun x=>!iu x)=true):=by
 intro m;have hl:=h.2.2
 induction m with
 |zero=>intro k hk;refine⟨-1,bG ?_,by rw[zR om];simp⟩;rw[q6a];simp only;rw[bf,zj om]
 |succ m ih=>
  intro k hk;have he:k<l.length:=om
  rw[lX he];have hr:=qqj l[k] (h.1 _ (jx he)) (h.2.1 _ (jx he));have hc:yi (l[k],())=some (!iu l[k],()):=by have:=aau l[k].1 l[k].2.1 l[k].2.2;rw[hr] at this;exact this
  have step:pI (⟨n,l⟩,(l.length:Int),(k:Int),())=if iu l[k]=false then some (.inr ((k:Int),())) else some (.inl (⟨n,l⟩,(l.length:Int),((k+1:Nat):Int),())):=by rw[q6a];simp only;rw[bf,zu om,bJ (zh he),ae,hc,ae,aG om];cases iu l[k]<;>rfl
  cases hb:iu l[k] with
  |false=>rw[zu hb] at step;exact⟨k,bG step,by simp[hb,-List.getElem_cons_drop]⟩
  |true=>rw[zj (by rw[hb];decide)] at step;have⟨r,h1,h2⟩:=ih (k+1) om;exact⟨r,by rw[cY step,h1],by rw[h2];simp[hb,-List.getElem_cons_drop]⟩
def Ht(l:List af)(k:Nat):Bool:=match l[k]? with
 |some x=>(lZ (l.take k) x.1).isSome
 |none=>false
def qN(l:List af):Nat->Nat->Bool
 |0,_=>false
 |m+1,k=>Ht l k||qN l m (k+1)
def cT(l:List af):Int:=if 400<l.length\/l.any (fun x=>!iu x)=true then 40 else if qN l l.length 0=true then 41 else 0
theorem zd8{x:af}(h:iu x=true):x.1≠[]:=by intro e;unfold iu bX qH at h;rw[e] at h;simp at h
theorem Hu{l:List af}{op:List Int}{x:af}(h:lZ l op=some x):x∈l/\x.1=op:=⟨List.mem_of_find?_eq_some h,by have:=List.find?_some h;simpa using this⟩
theorem z3x(n1 n2:Bool){l:List af}(h:gL l)(hr:∀x,x∈l->iu x=true):∀(m k:Nat),k+m=l.length->aI sP (⟨n1,l⟩,⟨n2,l⟩,(l.length:Int),(k:Int),())=some (if qN l m k=true then 41 else 0,()):=by
 intro m;have hl:=h.2.2
 induction m with
 |zero=>intro k hk;refine bG ?_;rw[qhp];simp only;rw[bf,zj om];rfl
 |succ m ih=>
  intro k hk;have hc:k<l.length:=om
  have hg:=zh hc;have hd:Ht l k=(lZ (l.take k) l[k].1).isSome:=by unfold Ht;rw[hg]
  have hf:=Xc n1 (l.take k) l[k].1 (h.take k).2.2;have step:sP (⟨n1,l⟩,⟨n2,l⟩,(l.length:Int),(k:Int),())=if Ht l k=true then some (.inr (41,())) else some (.inl (⟨n1,l⟩,⟨n2,l⟩,(l.length:Int),((k+1:Nat):Int),())):=by
   rw[qhp];simp only;rw[bf,zu om,bJ hg,ae,FK om,ae,hf,ae,aG om,hd];cases he:lZ (l.take k) l[k].1 with
   |none=>rfl
   |some x=>have hx:=zd8 (hr x (jK (Hu he).1));have:bW x.1 []=false:=ZP.2 hx;simp[this];rfl
  unfold qN;cases hb:Ht l k with
  |true=>rw[hb] at step;rw[bG step];rfl
  |false=>rw[hb] at step;rw[cY step,ih (k+1) om,Zn]
theorem FQ(n:Bool){l:List af}(h:gL l):iC (⟨n,l⟩,())=some (cT l,()):=by
 have⟨r,h1,h2⟩:=z7f n h l.length 0 om;rw[jh] at h2;have h1:aI pI (⟨n,l⟩,aa l,0,())=some (r,()):=h1;rw[aaA,aaw,aav,h1,ae,ae];have hc:cD 0 r=l.any (fun x=>!iu x):=by rw[Zh,<-h2];exact decide_eq_true_iff
 rw[hc,bf];unfold cT;by_cases h4:400<l.length
 ·rw[zu (by show(400:Int)<(l.length:Int);omega),ae,zu (.inl h4)];rfl
 ·rw[zj (by show ¬(400:Int)<(l.length:Int);omega),ae];cases ha:l.any (fun x=>!iu x) with
  |true=>rw[zu (.inr rfl)];rfl
  |false=>
   rw[aJ,zj (by simp[h4])];have hr:∀x,x∈l->iu x=true:=fun x hx=>by grind
   exact z3x n n h hr l.length 0 om
theorem zd9(l:List af)(op:List Int):l.any (fun x=>decide (x.1=op))=(lZ l op).isSome:=by
 unfold lZ
 grind
theorem z0i{l:List af}(hj:j<l.length):Ht l j=(l.take j).any (fun x=>decide (x.1=l[j].1)):=by unfold Ht;rw[zh hj,zd9]
theorem Hv{l:List af}(h:cT l=0):l.length<=400/\(∀x,x∈l->iu x=true)/\qN l l.length 0=false:=by
 unfold cT at h
 grind
theorem qvd(l:List af):∀(m k:Nat),qN l m k=false↔∀j,k<=j->j<k+m->Ht l j=false
 |0,k=>by simp[qN];intro j h1 h2;omega
 |m+1,k=>by
  unfold qN;rw[jc,qvd l m (k+1)]
  grind
theorem lK{l:List af}:qN l l.length 0=false↔l.Pairwise fun x y=>x.1≠y.1:=by
 rw[qvd,List.pairwise_iff_getElem];constructor
 ·intro h i j hi hj hc e;have:=h j om om;rw[z0i hj] at this;have hm:l[i]∈l.take j:=by
   rw[List.mem_take_iff_getElem]
   grind
  grind
 ·intro h j _ hj;have hj:j<l.length:=om
  rw[z0i hj,List.any_eq_false];intro x hx;obtain⟨i,hi,rfl⟩:=List.mem_take_iff_getElem.1 hx
  grind
theorem z0j{l:List af}(h1:l.length<=400)(h2:∀x,x∈l->iu x=true)(h3:l.Pairwise fun x y=>x.1≠y.1):cT l=0:=by
 unfold cT;rw[zj,zj (by rw[lK.2 h3];decide)]
 grind
theorem z7g{n:Nat}(h:n<=1000000):CD (⟨true,[]⟩,(n:Int),())=some (⟨decide ((n:Int)=0),[]⟩,()):=by
 unfold CD
 grind
def qO(ls:List (Sl Int)):Nat:=(ls.map fun s=>s.l.length).sum
theorem qve(s:Sl Int)(ls:List (Sl Int)):qO (s::ls)=s.l.length+qO ls:=by simp[qO]
theorem z7h(b:Bool)(ls:List (Sl Int))(hn:ls.length<=1000):∀(m k:Nat) (out:Sl Int),k+m=ls.length->out.l.length+qO (ls.drop k)<=1000000->∃q,aI tR (⟨b,ls⟩,(ls.length:Int),(k:Int),out,())=some (.inr (⟨q,out.l++((ls.drop k).map (·.l)).flatten⟩,())):=by
 intro m
 induction m with
 |zero=>intro k out hk ho;refine⟨out.nil,bG ?_⟩;rw[qb7];simp only;rw[bf,zj om,zR om];simp
 |succ m ih=>
  intro k out hk ho;have hc:k<ls.length:=om
  rw[lX hc,qve] at ho;obtain⟨q,hq⟩:=ih (k+1) ⟨aH out.nil (cB ls[k].l),out.l++ls[k].l⟩ om (by rw[zd];omega);refine⟨q,?_⟩;have step:tR (⟨b,ls⟩,(ls.length:Int),(k:Int),out,())=some (.inl (⟨b,ls⟩,(ls.length:Int),((k+1:Nat):Int),⟨aH out.nil (cB ls[k].l),out.l++ls[k].l⟩,())):=by rw[qb7];simp only;rw[bf,zu om,bJ (zh hc),ae,im (by unfold bL aa;omega),ae,aG om];rfl
  rw[cY step,hq,lX hc,zX,ja,zk]
theorem z7i(b:Bool)(ls:List (Sl Int))(hn:ls.length<=1000)(ht:qO ls<=1000000):∀(m k sz:Nat),k+m=ls.length->sz+qO (ls.drop k)=qO ls->∃q,aI tS (⟨b,ls⟩,(sz:Int),⟨b,ls⟩,(ls.length:Int),(k:Int),())=some (⟨q,(ls.map (·.l)).flatten⟩,()):=by
 intro m
 induction m with
 |zero=>intro k sz hk hs;obtain⟨q,hq⟩:=z7h b ls hn ls.length 0 ⟨decide ((sz:Int)=0),[]⟩ om (by simpa using ht);refine⟨q,bG ?_⟩;rw[qb8];simp only;rw[bf,zj om,z7g om];exact hq.trans (by rfl)
 |succ m ih=>
  intro k sz hk hs;have hc:k<ls.length:=om
  rw[lX hc,qve] at hs;have⟨q,hq⟩:=ih (k+1) (sz+ls[k].l.length) om om;refine⟨q,?_⟩;have ea:bc .i64 (sz:Int) (aa ls[k].l)=((sz+ls[k].l.length:Nat):Int):=by unfold aa;rw[pG om om];omega
  have c1:aZ ((sz+ls[k].l.length:Nat):Int) 0=false:=zt om;have step:tS (⟨b,ls⟩,(sz:Int),⟨b,ls⟩,(ls.length:Int),(k:Int),())=some (.inl (⟨b,ls⟩,((sz+ls[k].l.length:Nat):Int),⟨b,ls⟩,(ls.length:Int),((k+1:Nat):Int),())):=by rw[qb8];simp only;rw[bf,zu om,bJ (zh hc),ae,ea,c1,aJ,ae,aG om]
  rw[cY step,hq]
theorem qxx(b:Bool)(ls:List (Sl Int))(hn:ls.length<=1000)(ht:qO ls<=1000000):∃q,FC (⟨b,ls⟩,())=some (⟨q,(ls.map (·.l)).flatten⟩,()):=by rw[acH];exact z7i b ls hn ht ls.length 0 0 om (by rw[jh,zW])
theorem Xd{a:Nat}(h:b<=a)(ha:a<=1000000000):dx .i64 (a:Int) (b:Int)=((a-b:Nat):Int):=by rw[oY om om];omega
theorem zni(b1 b2:Bool)(O:List Int)(o:Int)(Q:List (Sl Int))(p2 p1:Sl Int)(hl:p2.l.length+p1.l.length<=100000)(hO:O.length<=1000)(hQ:Q.length<=1000):∃q,sK (⟨b1,O++[o]⟩,⟨b2,Q++[p2,p1]⟩,())=some (⟨b1,O⟩,⟨false,Q++[⟨q,o::(p2.l++p1.l)⟩]⟩,()):=by
 obtain⟨q,hq⟩:=qxx false [⟨false,[o]⟩,p2,p1] (by show 3<=1000;decide) (by simp[qO];omega);refine⟨q,?_⟩;have l1:aa (O++[o])=((O.length+1:Nat):Int):=by simp[aa]
 have l2:aa (Q++[p2,p1])=((Q.length+2:Nat):Int):=by simp[aa]
 have s1:dx .i64 ((O.length+1:Nat):Int) 1=(O.length:Int):=by rw[show(1:Int)=((1:Nat):Int) from rfl,Xd om om,Ju]
 have s2:dx .i64 ((Q.length+2:Nat):Int) 2=(Q.length:Int):=by rw[show(2:Int)=((2:Nat):Int) from rfl,Xd om om,Ju]
 have s3:dx .i64 ((Q.length+2:Nat):Int) 1=((Q.length+1:Nat):Int):=by rw[show(1:Int)=((1:Nat):Int) from rfl,Xd om om];rfl
 have g1:(O++[o])[O.length]?=some o:=by simp
 have g2:(Q++[p2,p1])[Q.length]?=some p2:=by simp
 have g3:(Q++[p2,p1])[Q.length+1]?=some p1:=by simp
 have k1:cj (O++[o]) (O.length:Int)=some O.length:=oL (by simp);have k2:cj (Q++[p2,p1]) (Q.length:Int)=some Q.length:=oL (by simp);have k3:cj (Q++[p2,p1]) ((Q.length+1:Nat):Int)=some (Q.length+1):=oL (by simp);have c1:dY ((O.length+1:Nat):Int) (O.length:Int)=some O.length:=by unfold dY;rw[zu om];rfl
 have c2:dY ((Q.length+2:Nat):Int) (Q.length:Int)=some Q.length:=by unfold dY;rw[zu om];rfl
 have t1:aP (O++[o]) O.length=O:=Jt;have t2:aP (Q++[p2,p1]) Q.length=Q:=Jt;have he:(([⟨false,[o]⟩,p2,p1]:List (Sl Int)).map (·.l)).flatten=o::(p2.l++p1.l):=by simp
 rw[he] at hq;have fo:∀x:Sl Int,fit (bL (aa Q) (aa [x]))=some ():=fun x=>im (by simp only[bL,aa,zB];omega);have hc:=hq;rw[acI];simp only[l1,l2,s1,s2,s3,k1,k2,k3,ae,w8 g1,w8 g2,w8 g3,hc,c1,c2,mo,aM,t1,t2,fo,cB,List.isEmpty_cons,aJ,app]
end Fn
open Fx (B Inv y0 lo y5 BF MA gH)
namespace Fn
variable{P cur:List Int}{i k o:Nat}{lv sd:Nat→Int}
def gV(fs:List af)(i:Nat):Int:=match fs[i]? with
 |some x=>x.2.1
 |none=>0
def eE(fs:List af)(i:Nat):Int:=match fs[i]? with
 |some x=>x.2.2
 |none=>0
theorem Xe{fs:List af}{x:af}(h:fs[i]?=some x):gV fs i=x.2.1:=by unfold gV;rw[h]
theorem S5{fs:List af}{x:af}(h:fs[i]?=some x):eE fs i=x.2.2:=by unfold eE;rw[h]
def xi(S:List (Nat×List Int))(cur:List Int)(op:List Int)(pt:List (Sl Int)):Prop:=op.reverse=S.map (fun p=>(p.1:Int))/\pt.reverse.map (·.l)=cur::S.map (·.2)
theorem xi.pop{S:List (Nat×List Int)}{op:List Int}{pt:List (Sl Int)}(h:xi ((o,P)::S) cur op pt):∃O Q p2 p1,op=O++[(o:Int)]/\pt=Q++[p2,p1]/\p2.l=P/\p1.l=cur/\O.length=S.length/\Q.length=S.length/\∀q,q.l=(o:Int)::(P++cur)->xi S ((o:Int)::(P++cur)) O (Q++[q]):=by
 have⟨h1,h2⟩:=h;cases hr:op.reverse with
 |nil=>rw[hr] at h1;cases h1
 |cons a O'=>
  rw[hr] at h1;injection h1 with h3 h4;cases hp:pt.reverse with
  |nil=>rw[hp] at h2;cases h2
  |cons p1 Q1=>
   rw[hp,zX] at h2;injection h2 with h5 h6;cases Q1 with
   |nil=>cases h6
   |cons p2 Q'=>
    injection h6 with h7 h8;have e1:op=O'.reverse++[(o:Int)]:=by simp_all
    have e2:pt=Q'.reverse++[p2,p1]:=by simp_all
    have n1:O'.length=S.length:=by have:=jd List.length h4;simpa using this
    have n2:Q'.length=S.length:=by have:=jd List.length h8;simpa using this
    refine⟨O'.reverse,Q'.reverse,p2,p1,e1,e2,h7,h5,by rw[Jl,n1],by rw[Jl,n2],fun q hq=>⟨by rw[List.reverse_reverse,h4],?_⟩⟩
    grind
theorem Inv.short:∀{S:List (Nat×List Int)} {cur:List Int} {k:Nat},Inv lv sd S cur k->S.length<=k
 |[],_,_,_=>zC _
 |(o,P)::S,cur,k,h=>by
  have:=Inv.short h.2.2.2.2.1;have h1:=h.1
  grind
theorem Inv.inside{S:List (Nat×List Int)}(h:Inv lv sd ((o,P)::S) cur k):P.length+cur.length<=2*k:=by
 have h1:=(Fx.Inv.B h.pop).len
 grind
theorem z7j(b1 b2:Bool){S:List (Nat×List Int)}(h:Inv lv sd ((o,P)::S) cur k)(hk:k<=400){op:List Int}{pt:List (Sl Int)}(hr:xi ((o,P)::S) cur op pt):∃uc b3 ud,sK (⟨b1,op⟩,⟨b2,pt⟩,())=some (⟨b1,uc⟩,⟨b3,ud⟩,())/\xi S ((o:Int)::(P++cur)) uc ud:=by
 have⟨O,Q,p2,p1,e1,e2,e3,e4,e5,e6,e7⟩:=hr.pop;have hs:=Inv.short h;rw[zn] at hs;have hi:=Inv.inside h;have⟨q,hq⟩:=zni b1 b2 O (o:Int) Q p2 p1 (by rw[e3,e4];omega) om om
 grind
theorem z3y(b0 b1:Bool){fs:List af}(hn:fs.length<=400)(hk:k<fs.length)(opt:List Int)(_hs:∀o,o<=k->eE fs o=-1\/eE fs o=0\/eE fs o=1):∀(S:List (Nat×List Int)) (cur:List Int) (op:List Int) (b2:Bool) (pt:List (Sl Int)),Inv (gV fs) (eE fs) S cur k->xi S cur op pt->∃uc b3 ud,aI tT ((k:Int),(fs.length:Int),(k:Int),⟨b0,fs⟩,opt,gV fs k,eE fs k,⟨b1,op⟩,⟨b2,pt⟩,())=some (match y5 (gV fs) (eE fs) k S cur with
    |none=>.inr (.inr (.inr (⟨true,[]⟩,43,())))
    |some _=>.inl ((k:Int),(fs.length:Int),(k:Int),⟨b0,fs⟩,⟨b1,uc⟩,⟨b3,ud⟩,()))/\
   ∀S' iD,y5 (gV fs) (eE fs) k S cur=some (S',iD)->xi S' iD uc ud:=by
 intro S
 induction S with
 |nil=>
  intro cur op b2 pt h hr;have e:op=[]:=by have:=hr.1;simpa using this
  subst e;refine⟨[],b2,pt,bG ?_,fun S' iD e=>?_⟩
  ·rfl
  ·injection e with e
   grind
 |cons s S ih=>
  have⟨o,P⟩:=s;intro cur op b2 pt h hr;have ho:=h.1;have hx:=zh (show o<fs.length by omega);have⟨O,Q,p2,p1,e1,e2,_,_,e5,_,_⟩:=hr.pop;have hc:=Inv.short h;rw[zn] at hc;have l1:aa op=((O.length+1:Nat):Int):=by rw[e1];simp[aa]
  have s1:dx .i64 ((O.length+1:Nat):Int) 1=(O.length:Int):=by rw[show(1:Int)=((1:Nat):Int) from rfl,Xd om om,Ju]
  have k1:cj op (O.length:Int)=some O.length:=oL (by rw[e1];simp);have g1:nth op O.length=some (o:Int):=w8 (by rw[e1];simp);have k2:cj fs (o:Int)=some o:=oL om;have g2:=w8 hx;have he:=Xe hx;have hf:=S5 hx;have c0:aZ 0 ((O.length+1:Nat):Int)=true:=zw om;obtain⟨uc,b3,ud,c1,c2⟩:=z7j b1 b2 h om hr;have body:tT ((k:Int),(fs.length:Int),(k:Int),⟨b0,fs⟩,opt,gV fs k,eE fs k,⟨b1,op⟩,⟨b2,pt⟩,())=
    if gV fs o<gV fs k then some (.inr (.inl ((k:Int),(fs.length:Int),(k:Int),⟨b0,fs⟩,⟨b1,op⟩,⟨b2,pt⟩,())))
    else if gV fs k<gV fs o then some (.inl ((k:Int),(fs.length:Int),(k:Int),⟨b0,fs⟩,opt,gV fs k,eE fs k,⟨b1,uc⟩,⟨b3,ud⟩,()))
    else if eE fs o≠eE fs k\/eE fs k=0 then some (.inr (.inr (.inr (.inr (⟨true,[]⟩,43,())))))
    else if 0<eE fs k then some (.inr (.inl ((k:Int),(fs.length:Int),(k:Int),⟨b0,fs⟩,⟨b1,op⟩,⟨b2,pt⟩,())))
    else some (.inl ((k:Int),(fs.length:Int),(k:Int),⟨b0,fs⟩,opt,gV fs k,eE fs k,⟨b1,uc⟩,⟨b3,ud⟩,())):=by
   rw[qs8];simp only[l1,s1,k1,g1,k2,g2,c0,aM,ae];rw[bf,<-he,<-hf];by_cases q1:gV fs o<gV fs k
   ·grind
   ·rw[zj q1,zj q1,bf];by_cases q2:gV fs k<gV fs o
    ·rw[zu q2,zu q2];simp[cd,c1,ae]
    ·rw[zj q2,zj q2];have e3:(aL (ai (ah (eE fs o) (eE fs k))) (some true) (some (ah (eE fs k) 0)):Option Bool)=some (decide (eE fs o≠eE fs k\/eE fs k=0)):=by
      rw[DH,kI];by_cases q3:eE fs o=eE fs k
      ·rw[zu q3];have:ah (eE fs k) 0=decide (eE fs o≠eE fs k\/eE fs k=0):=by rw[Zh,cQ];simp[q3]
       rw[this]
      grind
     rw[e3,ae,zjx];by_cases q3:eE fs o≠eE fs k\/eE fs k=0
     ·rw[zu q3,zu q3];rfl
     ·rw[zj q3,zj q3,bf];by_cases q4:0<eE fs k
      ·rw[zu q4,zu q4];rfl
      ·rw[zj q4,zj q4];simp[cd,c1,ae]
  unfold y5;by_cases q1:gV fs o<gV fs k
  ·rw[zu q1] at body ⊢;refine⟨op,b2,pt,bG body,fun S' iD e=>?_⟩
   grind
  ·rw[zj q1] at body ⊢;by_cases q2:gV fs k<gV fs o
   ·rw[zu q2] at body ⊢;have⟨op2,b4,pt2,d1,d2⟩:=ih _ uc b3 ud h.pop c2;exact⟨op2,b4,pt2,by rw[cY body];exact d1,d2⟩
   ·rw[zj q2] at body ⊢;by_cases q3:eE fs o≠eE fs k\/eE fs k=0
    ·rw[zu q3] at body ⊢;exact⟨op,b2,pt,bG body,fun S' iD e=>by cases e⟩
    ·rw[zj q3] at body ⊢;by_cases q4:0<eE fs k
     ·rw[zu q4] at body ⊢;refine⟨op,b2,pt,bG body,fun S' iD e=>?_⟩
      grind
     ·rw[zj q4] at body ⊢;have⟨op2,b4,pt2,d1,d2⟩:=ih _ uc b3 ud h.pop c2;exact⟨op2,b4,pt2,by rw[cY body];exact d1,d2⟩
theorem z7k(b1:Bool){n:Nat}(hn:n<=400):∀(S:List (Nat×List Int)) (cur:List Int) (op:List Int) (b2:Bool) (pt:List (Sl Int)),Inv lv sd S cur n->xi S cur op pt->∃q,aI tU (⟨b1,op⟩,⟨b2,pt⟩,())=some (.inr (.inr (⟨q,MA S cur⟩,0,()))):=by
 intro S
 induction S with
 |nil=>
  intro cur op b2 pt h hr;have e:op=[]:=by have:=hr.1;simpa using this
  subst e;obtain⟨c,hc⟩:∃c,pt=[c]/\c.l=cur:=by
   have:=hr.2;cases hp:pt.reverse with
   |nil=>rw[hp] at this;cases this
   |cons p1 Q=>simp_all
  obtain⟨rfl,he⟩:=hc;refine⟨c.nil,bG ?_⟩;rw[qhy];rw[<-he];rfl
 |cons s S ih=>
  have⟨o,P⟩:=s;intro cur op b2 pt h hr;have⟨uc,b3,ud,c1,c2⟩:=z7j b1 b2 h hn hr;have⟨O,Q,p2,p1,e1,e2,_,_,e5,_,_⟩:=hr.pop;have⟨q,hq⟩:=ih _ uc b3 ud h.pop c2;refine⟨q,?_⟩;have step:tU (⟨b1,op⟩,⟨b2,pt⟩,())=some (.inl (⟨b1,uc⟩,⟨b3,ud⟩,())):=by rw[qhy];rw[bf,zu (by rw[e1];unfold aa;rw[zd,zB];omega),c1,ae]
  rw[cY step,hq];rfl
end Fn
open Fx (B Inv y0 lo y5 BF MA gH)
namespace Fn
variable{α β:Type}{ks r:F}{n:Int}{cur t:List Int}{k:Nat}
theorem zda(f:α->Option β)(a:α):cd f (.inl a)=f a:=jU (Eq.refl _) (Eq.refl _)
theorem zdb(f:α->Option β)(b:β):cd f (.inr b)=some b:=jU (Eq.refl _) (Eq.refl _)
theorem ue(l m:List α):app l m=l++m:=jU (Eq.refl _) (Eq.refl _)
theorem zkb(x:α):cB [x]=false:=jU (Eq.refl _) (Eq.refl _)
theorem xi.push{S:List (Nat×List Int)}{op:List Int}{pt:List (Sl Int)}(h:xi S cur op pt)(k:Nat)(q:Sl Int):xi ((k,cur)::S) q.l (op++[(k:Int)]) (pt++[q]):=by
 have⟨h1,h2⟩:=h;refine⟨?_,?_⟩
 all_goals grind
theorem xi.len{S:List (Nat×List Int)}{op:List Int}{pt:List (Sl Int)}(h:xi S cur op pt):op.length=S.length/\pt.length=S.length+1:=by
 have⟨h1,h2⟩:=h;have e1:=jd List.length h1;have e2:=jd List.length h2
 grind
theorem z3z(b0:Bool){fs:List af}(hn:fs.length<=400)(hs:∀o,o<fs.length->eE fs o=-1\/eE fs o=0\/eE fs o=1):∀(m k:Nat) (S:List (Nat×List Int)) (cur:List Int) (b1:Bool) (op:List Int) (b2:Bool) (pt:List (Sl Int)),k+m=fs.length->Inv (gV fs) (eE fs) S cur k->lo S=k->xi S cur op pt->∃q,aI pR ((fs.length:Int),(k:Int),⟨b0,fs⟩,⟨b1,op⟩,⟨b2,pt⟩,())=some (match BF (gV fs) (eE fs) m k S cur with
   |none=>.inr (⟨true,[]⟩,43,())
   |some (S',iD)=>.inr (⟨q,MA S' iD⟩,0,())):=by
 intro m
 induction m with
 |zero=>
  intro k S cur b1 op b2 pt hk h hl hr;have h':Inv (gV fs) (eE fs) S cur fs.length:=by rw[<-hk];exact h
  have⟨q,hq⟩:=z7k b1 (n:=fs.length) hn S cur op b2 pt h' hr;refine⟨q,bG ?_⟩;rw[qcm];simp only;rw[bf,zj om,hq];rfl
 |succ m ih=>
  intro k S cur b1 op b2 pt hk h hl hr;have hc:k<fs.length:=om
  have hx:=zh hc;have hf:=Xe hx;have hg:=S5 hx;have⟨uc,b3,ud,w1,w2⟩:=z3y b0 b1 hn hc fs[k].1 (fun o ho=>hs o om) S cur op b2 pt h hr;rw[hf,hg] at w1;have hw:=Fx.ub (lv:=gV fs) (sd:=eE fs) (k:=k) (fun o ho=>hs o om) S cur h (y0.start hl);unfold BF;cases he:y5 (gV fs) (eE fs) k S cur with
  |none=>rw[he] at w1;refine⟨true,bG ?_⟩;rw[qcm];simp only;rw[bf,zu om,oL hc,ae,w8 hx,ae,w1,ae,zdb]
  |some z=>
   have⟨S',iD⟩:=z;rw[he] at w1 hw;have⟨g1,g2,g3⟩:=hw;have hj:=(w2 S' iD he).push k ⟨false,[-2-(k:Int)]⟩;have⟨n1,n2⟩:=(w2 S' iD he).len;have hm:=Inv.short g1;have⟨q,hq⟩:=ih (k+1) _ _ (aH b1 false) (uc++[(k:Int)]) (aH b3 false) (ud++[⟨false,[-2-(k:Int)]⟩]) om (g1.push g2 g3) rfl hj;refine⟨q,?_⟩;have e2:dx .i64 (-2) (k:Int)=-2-(k:Int):=oY om om;have f1:fit (bL (aa uc) (aa ([(k:Int)]:List Int)))=some ():=im (by simp[bL,aa];omega);have f2:fit (bL (aa ud) (aa ([⟨false,[-2-(k:Int)]⟩]:List (Sl Int))))=some ():=im (by simp[bL,aa];omega);have step:pR ((fs.length:Int),(k:Int),⟨b0,fs⟩,⟨b1,op⟩,⟨b2,pt⟩,())=some (.inl ((fs.length:Int),((k+1:Nat):Int),⟨b0,fs⟩,⟨aH b1 false,uc++[(k:Int)]⟩,⟨aH b3 false,ud++[⟨false,[-2-(k:Int)]⟩]⟩,())):=by rw[qcm];simp only;rw[bf,zu om,oL hc,ae,w8 hx,ae,w1,ae];rw[zda];simp[e2,f1,f2,ae,aG (by omega:k<=1000000000),ue,zkb]
   rw[cY step,hq]
def ON(fs:List af):Option (List Int):=gH (gV fs) (eE fs) fs.length
theorem znj(b0:Bool){fs:List af}(hn:fs.length<=400)(hs:∀o,o<fs.length->eE fs o=-1\/eE fs o=0\/eE fs o=1):∃q,aI pR (aa fs,0,⟨b0,fs⟩,⟨true,[]⟩,⟨false,[⟨false,[-1]⟩]⟩,())=some (.inr (match ON fs with|none=>(⟨true,[]⟩,43,())|some x=>(⟨q,x⟩,0,()))):=by
 have⟨q,hq⟩:=z3z b0 hn hs fs.length 0 [] [-1] true [] false [⟨false,[-1]⟩] om (show B _ _ 0 0 [-1] from B.nil 0) rfl ⟨rfl,rfl⟩;refine⟨q,?_⟩;refine jU hq ?_;unfold ON gH;cases BF (gV fs) (eE fs) fs.length 0 [] [-1] with
 |none=>rfl
 |some z=>rfl
def uK(l:List af):List (List Int)->Option (List af)
 |[]=>some []
 |op::r=>match lZ l op with
  |none=>none
  |some x=>match uK l r with
   |none=>none
   |some y=>some (x::y)
theorem Xf{l:List af}:∀{ops:List (List Int)} {fs:List af},uK l ops=some fs->fs.length=ops.length/\∀x,x∈fs->x∈l
 |[],fs,h=>by
  injection h with h
  grind
 |op::r,fs,h=>by
  unfold uK at h;split at h
  ·cases h
  ·rename_i x hx;split at h
   ·cases h
   ·rename_i y hy;cases h;have⟨h1,h2⟩:=Xf hy;refine⟨by rw[zn,zn,h1],fun z hz=>?_⟩;rcases zA.1 hz with rfl|hz
    ·exact(Hu hx).1
    ·exact h2 z hz
theorem Xg{l fs:List af}(hr:∀x,x∈l->iu x=true)(hm:∀x,x∈fs->x∈l)(o:Nat)(ho:o<fs.length):eE fs o=-1\/eE fs o=0\/eE fs o=1:=by
 rw[S5 (zh ho)];have:=hr _ (hm _ (jx ho));unfold iu at this
 grind
theorem zkc(n1 n2 b:Bool){l:List af}(hl:l.length<=1000000)(ops:List (List Int))(hn:ops.length<=400):∀(m k:Nat) (acc:List af),k+m=ops.length->acc.length=k->aI lI (⟨n1,l⟩,⟨n2,ops⟩,(ops.length:Int),(k:Int),⟨b,acc++List.replicate m (([]:List Int),0,0)⟩,())=(match uK l (ops.drop k) with
   |none=>some (⟨true,[]⟩,42,())
   |some r=>aI lI (⟨n1,l⟩,⟨n2,ops⟩,(ops.length:Int),(ops.length:Int),⟨b,acc++r⟩,())):=by
 intro m
 induction m with
 |zero=>
  intro k acc hk ha;rw[zR om];obtain rfl:k=ops.length:=om
  rfl
 |succ m ih=>
  intro k acc hk ha;have hc:k<ops.length:=om
  rw[lX hc];unfold uK;have hf:=Xc n1 l ops[k] hl;have hm:(acc++List.replicate (m+1) (([]:List Int),(0:Int),(0:Int))).length=ops.length:=by rw[zd,jp];omega
  cases hj:lZ l ops[k] with
  |none=>rw[hj] at hf;refine bG ?_;rw[qcn];simp only;rw[bf,zu om,bJ (zh hc),ae,hf];rfl
  |some x=>
   rw[hj] at hf;have he:(acc++List.replicate (m+1) (([]:List Int),(0:Int),(0:Int))).set k x=(acc++[x])++List.replicate m (([]:List Int),0,0):=by rw[List.set_append_right _ _ om,ha,jy,Jn,List.set_cons_zero,zk];rfl
   have hg:(acc++List.replicate (m+1) (([]:List Int),(0:Int),(0:Int)))[k]?=some (([]:List Int),0,0):=by rw[zM om,ha,jy];rfl
   have step:lI (⟨n1,l⟩,⟨n2,ops⟩,(ops.length:Int),(k:Int),⟨b,acc++List.replicate (m+1) (([]:List Int),0,0)⟩,())=
     some (.inl (⟨n1,l⟩,⟨n2,ops⟩,(ops.length:Int),((k+1:Nat):Int),⟨b,(acc++[x])++List.replicate m (([]:List Int),0,0)⟩,())):=by
    rw[qcn];simp only;rw[bf,zu om,bJ (zh hc),ae,hf,ae];rw[oL om,ae,w8 hg,ae,ae,aG om];show some (Sum.inl (_,_,_,_,(⟨b,(acc++List.replicate (m+1) (([]:List Int),(0:Int),(0:Int))).set k x⟩:Sl af),()))=_;rw[he]
   rw[cY step,ih (k+1) (acc++[x]) om (by rw[zd,ha];rfl)];cases uK l (ops.drop (k+1)) with
   |none=>rfl
   |some y=>show aI lI (_,_,_,_,(⟨b,(acc++[x])++y⟩:Sl af),())=aI lI (_,_,_,_,(⟨b,acc++x::y⟩:Sl af),());rw[zk];rfl
def y6(q:Bool)(l:List af)(ops:List (List Int)):Sl Int×Int×Unit:=
 if cT l≠0 then(⟨true,[]⟩,cT l,()) else if 400<ops.length then(⟨true,[]⟩,40,()) else match uK l ops with
  |none=>(⟨true,[]⟩,42,())
  |some fs=>match ON fs with
   |none=>(⟨true,[]⟩,43,())
   |some x=>(⟨q,x⟩,0,())
theorem z40(n1 n2:Bool){l:List af}(h:gL l)(ops:List (List Int)):∃q,vI (⟨n1,l⟩,⟨n2,ops⟩,())=some (y6 q l ops):=by
 rw[acJ,FQ n1 h,ae];by_cases hc:cT l=0
 ·have e0:ai (ah (cT l) 0)=false:=by rw[hc];rfl
  simp only[e0,aJ];rw[bf];by_cases h4:400<ops.length
  ·refine⟨true,?_⟩;unfold y6;rw[zu (by show(400:Int)<(ops.length:Int);omega),zj (by simp_all),zu h4]
  ·rw[zj (by show ¬(400:Int)<(ops.length:Int);omega)];have hg:wy (aa ops) (aa ops)=some ops.length:=by unfold wy aa;rw[zu om];rfl
   rw[hg,ae];have he:=zkc n1 n2 false h.2.2 ops om ops.length 0 [] om rfl;rw[jF,jh] at he;have he:aI lI (⟨n1,l⟩,⟨n2,ops⟩,aa ops,0,⟨false,rep ops.length (([]:List Int),0,0)⟩,())=_:=he;rw[he];have res:∀q,y6 q l ops=match uK l ops with
     |none=>(⟨true,[]⟩,42,())
     |some fs=>match ON fs with
      |none=>(⟨true,[]⟩,43,())
      |some x=>(⟨q,x⟩,0,()):=fun q=>by
    unfold y6
    grind
   cases hf:uK l ops with
   |none=>simp_all
   |some fs=>have⟨f1,f2⟩:=Xf hf;have⟨_,hr,_⟩:=Hv hc;have⟨q,hq⟩:=znj false (fs:=fs) om (Xg hr f2);refine⟨q,?_⟩;rw[res,hf];refine bG ?_;rw[qcn];simp[List.nil_append];rw[bf,zj om,hq]
 ·have e0:ai (ah (cT l) 0)=true:=by rw[cZ hc];rfl
  refine⟨true,?_⟩;simp[e0,aM];unfold y6;rw[zu hc]
theorem znk(b:Bool)(l:List ND)(hl:l.length<=10000):∀(N m k:Nat),l.length-k<N->l.length-k=m->dN qF N (⟨b,l⟩,(k:Int),())=some (fq l k 1,()):=by
 intro N
 induction N with
 |zero=>intro m k h;exact absurd h (ZA _)
 |succ N ih=>
  intro m k hN hm;show qF (dN qF N) _=_;rw[acN];have c0:aZ (k:Int) 0=false:=zt om;simp only[c0,aJ];by_cases hg:k<l.length
  ·obtain⟨d,hd⟩:∃d,l[k]?=some d:=⟨_,zh hg⟩;have hc:l.drop k=d::l.drop (k+1):=by
    rw[lX hg]
    grind
   obtain⟨x,t,n,z⟩:=d;have c0:cD (aa l) (k:Int)=false:=zt (by unfold aa;omega);have hf:=bJ hd;by_cases hz:0<=z/\z<=(l.length:Int)
   ·have c1:aZ z 0=false:=zt om;have c2:aZ (aa l) z=false:=zt (by unfold aa;omega);have e3:=aG (show k<=1000000000 by omega);simp only[c0,aJ,ae,hf,c1,c2,e3];have he:fq l k 1=(skip l.length (l.drop (k+1)) z.toNat).elim (-1) fun r=>(l.length:Int)-(r.length:Int):=by
     unfold fq;rw[hc,Mx]
     grind
    rw[he];have loop:∀(j i q:Nat),(i:Int)+j=z->k<q->q<=l.length->
      aI (tV (dN qF N)) (⟨b,l⟩,(k:Int),(q:Int),(i:Int),())=some ((skip l.length (l.drop q) j).elim (-1) fun r=>(l.length:Int)-(r.length:Int),()):=by
     intro j
     induction j with
     |zero=>
      intro i q h1 h2 h3;refine bG ?_;rw[qi0];simp[hf,ae];rw[bf,zj om,OJ]
      grind
     |succ j ihj=>
      intro i q h1 h2 h3;have hi:=ih (l.length-q) q om rfl;have e:j+1=1+j:=om
      rw[e,z0e];have step:tV (dN qF N) (⟨b,l⟩,(k:Int),(q:Int),(i:Int),())=if fq l q 1<0 then some (.inr (-1,())) else some (.inl (⟨b,l⟩,(k:Int),fq l q 1,((i+1:Nat):Int),())):=by rw[qi0];simp only[hf,ae];rw[bf,zu om];simp[hi,ae,aG (show i<=1000000000 by omega)];rw[bf]
      cases hs:skip l.length (l.drop q) 1 with
      |none=>rw[zcy hs] at step;rw[bG step];rfl
      |some r=>
       have⟨s1,s2,s3⟩:=zcw _ hs;rw[jf] at s1 s2 s3;have hj:fq l q 1=((l.length-r.length:Nat):Int):=by unfold fq;rw[hs];show(l.length:Int)-(r.length:Int)=_;omega
       rw[hj] at step;rw[cY step,ihj (i+1) (l.length-r.length) om om om];show _=some ((skip l.length r j).elim _ _,());have:r=l.drop (l.length-r.length):=by rw[jw] at s3;rw[show l.length-r.length=q+(l.length-q-r.length) by omega];exact s3
       rw[<-this]
    exact loop z.toNat 0 (k+1) om om om
   ·have he:fq l k 1=-1:=by
     unfold fq;rw[hc,Mx]
     grind
    rw[he];simp only[c0,aJ,ae,hf];cases h1:aZ z 0 with
    |true=>simp[aM,ae]
    |false=>
     have c2:aZ (aa l) z=true:=by have:=Ze h1;exact zw (by unfold aa;omega)
     simp only[aJ,ae,c2,aM]
  ·have he:fq l k 1=-1:=by unfold fq;rw[zR om];rfl
   have c0:cD (aa l) (k:Int)=true:=zw (by unfold aa;omega);rw[he];simp only[c0,aM,ae]
theorem qvg(b:Bool)(l:List ND)(hl:l.length<=10000)(k:Nat):FG (⟨b,l⟩,(k:Int),())=some (fq l k 1,()):=IV (l.length-k+1) fun N hN=>znk b l hl N (l.length-k) k om rfl
theorem zmh(b:Bool)(l:List ND)(hl:l.length<=10000){x:Int}(h:ba l k (.cons x t n ks r)):Sj (⟨b,l⟩,(k:Int),())=some (⟨false,ks.pos (k+1)⟩,()):=by
 obtain⟨g1,g2,g3,g4⟩:=h.node;have he:=bJ g1;rw[acO,qvg b l hl,h.ends];simp only[ae];rw[bf,zj om,aG om];have loop:∀(g:F) (q i:Nat) (out:List Int),ba l q g->out.length=i->i+g.aq=ks.aq->q<=l.length->
   aI tW (⟨b,l⟩,(k:Int),(q:Int),(i:Int),⟨false,out⟩,())=some (⟨false,out++g.pos q⟩,()):=by
  intro g
  induction g with
  |nil=>intro q i out hs ho hi hq;have hi:i+0=ks.aq:=hi;refine bG ?_;rw[qfm];simp[he,ae];rw[bf,zj om];show _=some (Sum.inr ((⟨false,out++[]⟩:Sl Int),()));rw[zv]
  |cons x' t' n' cm r' _ ih=>
   intro q i out hs ho hi hq;have hi:i+(r'.aq+1)=ks.aq:=hi;have hc:=ks.eJ;have s4:=hs.node;have step:tW (⟨b,l⟩,(k:Int),(q:Int),(i:Int),⟨false,out⟩,())=some (.inl (⟨b,l⟩,(k:Int),((q+1+cm.size:Nat):Int),((i+1:Nat):Int),⟨false,out++[(q:Int)]⟩,())):=by rw[qfm];simp[he,ae];rw[bf,zu om];have hf:fit (bL (aa out) (aa [(q:Int)]))=some ():=qK (by show out.length+1<=_;omega);rw[hf,ae,qvg b l hl,ae,hs.ends,aG om];rfl
   rw[cY step,ih _ _ _ s4.2.2.1 (by rw[zd,ho];rfl) om om,zk];rfl
 have:=loop ks (k+1) 0 [] g2 rfl om om;exact this
theorem MB(b:Bool)(l:List ND)(hl:l.length<=10000){x:Int}(h:ba l k (.cons x t n ks r)):∃nb,lE (⟨b,l⟩,(k:Int),())=some (⟨nb,ks.pos (k+1)⟩,()):=by
 obtain⟨g1,g2,g3,g4⟩:=h.node;have he:=bJ g1;rw[abJ,OK b l hl,h.ends];simp only[ae,he];rw[bf,zj om,aG om];have hc:=ks.eJ;have loop:∀(g:F) (q i:Nat) (nb:Bool) (out:List Int),ba l q g->out.length=i->i+g.aq=ks.aq->q<=l.length->
   ∃xa,aI tA (⟨b,l⟩,(q:Int),(ks.aq:Int),⟨nb,out⟩,())=some (⟨xa,out++g.pos q⟩,()):=by
  intro g
  induction g with
  |nil=>intro q i nb out hs ho hi hq;have hi:i+0=ks.aq:=hi;refine⟨nb,bG ?_⟩;rw[qhs];simp only;rw[bf,zj (by unfold aa;omega)];show _=some (Sum.inr ((⟨nb,out++[]⟩:Sl Int),()));rw[zv]
  |cons x' t' n' cm r' _ ih=>
   intro q i nb out hs ho hi hq;have hi:i+(r'.aq+1)=ks.aq:=hi;have s4:=hs.node;have step:tA (⟨b,l⟩,(q:Int),(ks.aq:Int),⟨nb,out⟩,())=some (.inl (⟨b,l⟩,((q+1+cm.size:Nat):Int),(ks.aq:Int),⟨false,out++[(q:Int)]⟩,())):=by rw[qhs];simp only;rw[bf,zu (by unfold aa;omega)];have hf:fit (bL (aa out) (aa [(q:Int)]))=some ():=qK (by show out.length+1<=_;omega);rw[hf,ae,OK b l hl,ae,hs.ends,SY];rfl
   obtain⟨xa,h'⟩:=ih (q+1+cm.size) (i+1) false (out++[(q:Int)]) s4.2.2.1 (by rw[zd,ho];rfl) om om;refine⟨xa,?_⟩;rw[cY step,h',zk];rfl
 exact loop ks (k+1) 0 true [] g2 rfl om om
end Fn
end Ev
namespace Ev
namespace Pz
variable{α β:Type}
abbrev Tx:=List Int
abbrev ND:=Int×Tx×Int×Int
abbrev Tk:=Int×Tx×Int×Int
abbrev PR(α:Type):=Except (Int×Int) α
structure PC where
 l:List Tk
 e:Int
 fx:Tx->Bool
 cl:List Tx->Option (List Int)
def eb(x:PR α)(f:α->PR β):PR β:=match x with
 |.ok a=>f a
 |.error e=>.error e
variable (c:PC)
def l0(i:Nat):Int:=match c.l[i]? with
 |some t=>t.2.2.2
 |none=>c.e
def dC(i:Nat):Tx:=match c.l[i]? with
 |some t=>t.2.1
 |none=>[]
def num(i:Nat):Int:=match c.l[i]? with
 |some t=>t.2.2.1
 |none=>0
def aX(i:Nat)(k:Int):Bool:=match c.l[i]? with
 |some t=>decide (t.1=k)
 |none=>false
def cy(i:Nat)(ks:List Tx):Bool:=match c.l[i]? with
 |some t=>decide (t.1=6)&&decide (t.2.1∈ks)
 |none=>false
def iX:Tx:=[102,117,110]
def cN:Tx:=[108,101,116]
def rC:Tx:=[105,102]
def dA:Tx:=[114,97,105,115,101]
def kv:Tx:=[116,114,121]
def eF:Tx:=[114,101,99]
def av:Tx:=[45,62]
def iv:Tx:=[61]
def y7:Tx:=[105,110]
def iY:Tx:=[116,104,101,110]
def iZ:Tx:=[101,108,115,101]
def dB:Tx:=[109,97,116,99,104]
def eH:Tx:=[119,105,116,104]
def gI:Tx:=[101,110,100]
def fA:Tx:=[124]
def kL:Tx:=[40]
def kR:Tx:=[41]
def kM:Tx:=[95]
def nd(k:Int)(s:Tx)(kids:List (List ND)):List ND:=(k,s,0,(kids.length:Int))::kids.flatten
def eQ(i:Nat)(s:Tx):PR Nat:=bif cy c i [s] then .ok (i+1) else .error (l0 c i,70)
def uf(i:Nat):PR (Tx×Nat):=
 bif aX c i 1 then .ok (dC c i,i+1) else
 bif cy c i [kL]&&aX c (i+1) 5 then eb (eQ c (i+2) kR) fun a=>.ok (dC c (i+1),a) else
 bif cy c i [kL] then .error (l0 c (i+1),70) else .error (l0 c i,70)
abbrev PT:=Nat->PR (List ND×Nat)
def uL(self:PT):PT:=fun i=>
 bif cy c i [kM] then .ok (nd 21 [] [],i+1) else
 bif aX c i 3 then .ok ([(23,[],num c i,0)],i+1) else
 bif aX c i 2 then .ok (nd 24 (dC c i) [],i+1) else
 bif cy c i [kL]&&!aX c (i+1) 5 then eb (self (i+1)) fun p=>eb (eQ c p.2 kR) fun a=>.ok (p.1,a) else
 eb (uf c i) fun s=>.ok (nd 22 s.1 [],s.2)
def AV(self:PT):Nat->Nat->List (List ND)->PR (List (List ND)×Nat)
 |0,i,acc=>.ok (acc,i)
 |f+1,i,acc=>bif aX c i 3||(aX c i 2||(aX c i 1||cy c i [kM,kL])) then eb (uL c self i) fun p=>AV self f p.2 (acc++[p.1]) else .ok (acc,i)
def nv(self:PT):PT:=fun i=>bif aX c i 2 then eb (AV c self (c.l.length+1) (i+1) []) fun p=>.ok (nd 24 (dC c i) p.1,p.2) else uL c self i
def dU:Nat->PT
 |0=>fun i=>.error (l0 c i,73)
 |d+1=>nv c (dU d)
def fO(self:PT)(i:Nat)(s:Tx):PR (List ND×Nat):=eb (eQ c i s) self
def j0(i:Nat):Bool:=aX c i 3||(aX c i 4||(aX c i 1||(aX c i 2||cy c i [kL,dB])))
def y8(self aT:PT):Nat->Nat->List (List ND)->PR (List (List ND)×Nat)
 |0,i,acc=>.ok (acc,i)
 |f+1,i,acc=>eb (aT i) fun p=>eb (fO c self p.2 av) fun b=>bif cy c b.2 [fA] then y8 self aT f (b.2+1) (acc++[p.1,b.1]) else .ok (acc++[p.1,b.1],b.2)
def S6(self aT:PT):PT:=fun i=>eb (self i) fun x=>eb (eQ c x.2 eH) fun a=>eb (y8 c self aT (c.l.length+1) a [x.1]) fun r=>eb (eQ c r.2 gI) fun a2=>.ok (nd 10 [] r.1,a2)
def rE(self aT:PT):PT:=fun i=>
 bif j0 c i then
  bif aX c i 3 then .ok ([(1,[],num c i,0)],i+1) else
  bif aX c i 4 then .ok (nd 2 (dC c i) [],i+1) else
  bif aX c i 1 then .ok (nd 3 (dC c i) [],i+1) else
  bif aX c i 2 then .ok (nd 4 (dC c i) [],i+1) else
  bif decide (dC c i=dB) then S6 c self aT (i+1) else
  bif aX c (i+1) 5 then eb (eQ c (i+2) kR) fun a=>.ok (nd 3 (dC c (i+1)) [],a) else
  eb (self (i+1)) fun x=>eb (eQ c x.2 kR) fun a=>.ok (x.1,a)
 else .error (l0 c i,70)
def CN(self aT:PT):Nat->Nat->List ND->PR (List ND×Nat)
 |0,i,l=>.ok (l,i)
 |f+1,i,l=>bif j0 c i then eb (rE c self aT i) fun m=>CN self aT f m.2 (nd 6 [] [l,m.1]) else .ok (l,i)
def mB(self aT:PT):PT:=fun i=>eb (rE c self aT i) fun x=>CN c self aT (c.l.length+1) x.2 x.1
structure Row where
 apps:List (List ND)
 ops:List Tx
 at_:List Int
def kN(self aT:PT):Nat->Nat->Row->PR (Row×Nat)
 |0,i,r=>.ok (r,i)
 |f+1,i,r=>bif aX c i 5 then eb (mB c self aT (i+1)) fun x=>kN self aT f x.2 ⟨r.apps++[x.1],r.ops++[dC c i],r.at_++[l0 c i]⟩ else .ok (r,i)
def nR(apps:List (List ND))(ops:List Tx):Nat->List Int->List ND×List Int
 |_,[]=>([],[])
 |0,x=>([],x)
 |f+1,k::x=>if k<0 then((apps[(-1-k).toNat]?).getD [],x) else
  let a:=nR apps ops f x;let b:=nR apps ops f a.2
  (nd 6 [] [nd 6 [] [nd 3 ((ops[k.toNat]?).getD []) [],a.1],b.1],b.2)
def CO:List Tx->List Int->Option Int
 |s::ops,p::ps=>bif c.fx s then CO ops ps else some p
 |_,_=>none
def qP(first:Int)(r:Row)(i:Nat):PR (List ND×Nat):=
 if r.ops=[] then .ok ((r.apps[0]?).getD [],i) else
 match CO c r.ops r.at_ with
 |some p=>.error (p,71)
 |none=>match c.cl r.ops with
  |none=>.error (first,72)
  |some x=>.ok ((nR r.apps r.ops x.length x).1,i)
def ug(self aT:PT):PT:=fun i=>eb (mB c self aT i) fun x=>eb (kN c self aT (c.l.length+1) x.2 ⟨[x.1],[],[]⟩) fun r=>qP c (l0 c i) r.1 r.2
def uh(self aT:PT):PT:=fun i=>
 bif cy c i [iX,cN,rC,dA,kv] then
  bif decide (dC c i=iX) then eb (uf c (i+1)) fun s=>eb (fO c self s.2 av) fun x=>.ok (nd 5 s.1 [x.1],x.2) else
  bif decide (dC c i=cN) then eb (uf c (bif cy c (i+1) [eF] then i+2 else i+1)) fun s=>eb (fO c self s.2 iv) fun x=>eb (fO c self x.2 y7) fun y=>.ok (nd (bif cy c (i+1) [eF] then 8 else 7) s.1 [x.1,y.1],y.2) else
  bif decide (dC c i=rC) then eb (self (i+1)) fun x=>eb (fO c self x.2 iY) fun y=>eb (fO c self y.2 iZ) fun z=>.ok (nd 9 [] [x.1,y.1,z.1],z.2) else
  bif decide (dC c i=dA) then eb (self (i+1)) fun x=>.ok (nd 11 [] [x.1],x.2) else
  eb (self (i+1)) fun x=>eb (eQ c x.2 eH) fun a=>eb (uf c a) fun s=>eb (fO c self s.2 av) fun y=>.ok (nd 12 s.1 [x.1,y.1],y.2)
 else ug c self aT i
def da:Nat->PT
 |0=>fun i=>.error (l0 c i,73)
 |d+1=>uh c (da d) (dU c d)
def pn:PR (List ND):=eb (da c 100 0) fun x=>if x.2<c.l.length then .error (l0 c x.2,70) else .ok x.1
end Pz
end Ev

namespace Ev
namespace Pz
section
variable (b:Int) (c:PC)
variable {b} {self S7 aT MD:PT}
end
end Pz
end Ev

namespace Ev
namespace Pz
variable{α β:Type}{E:Int}{x:List Int}{b i:Nat}
inductive Bt:Nat->Nat->List Int->Prop
 |leaf (a:Nat):Bt a a [-1-(a:Int)]
 |node (a r b:Nat) (x y:List Int):a<=r->r<b->Bt a r x->Bt (r+1) b y->Bt a b ((r:Int)::(x++y))
theorem Bt.le{a:Nat}(h:Bt a b x):a<=b:=by
 cases h with
 |leaf=>exact zm _
 |node _ r _ _ _ h1 h2=>omega
def tot(l:List (List ND)):Nat:=l.flatten.length+l.length
theorem Hw(l:List (List ND))(a:List ND):tot (l++[a])=tot l+(a.length+1):=by
 unfold tot
 grind
theorem kO(k:Int)(s:Tx)(kids:List (List ND)):(nd k s kids).length=kids.flatten.length+1:=by simp[nd]
def DV(apps:List (List ND))(a b:Nat):List (List ND):=(apps.take (b+1)).drop a
theorem zkd{apps:List (List ND)}{a:Nat}(h:a<apps.length):DV apps a a=[apps[a]]:=by
 unfold DV;apply Jd
 all_goals grind
theorem z7l{apps:List (List ND)}{a r:Nat}(h1:a<=r)(h2:r<b)(h3:b<apps.length):DV apps a b=DV apps a r++DV apps (r+1) b:=by
 unfold DV;apply Jd
 all_goals grind
theorem z7m{apps:List (List ND)}{ops:List Tx}{P:ND->Prop}(hP:∀a,a∈apps->∀d,d∈a->P d)(hv:∀s,s∈ops->P (3,s,0,0))(hn:P (6,[],0,2)):∀{a b:Nat} {x:List Int},Bt a b x->b<apps.length->b<=ops.length->∀(f:Nat) (post:List Int),x.length<=f->∃t,nR apps ops f (x++post)=(t,post)/\t.length=(DV apps a b).flatten.length+3*(b-a)/\∀d,d∈t->P d:=by
 intro a b x h
 induction h with
 |leaf a=>
  intro h1 h2 f post hf;obtain⟨f,rfl⟩:∃g,f=g+1:=⟨f-1,by simp[List.length_cons,List.length_nil] at hf;omega⟩;refine⟨apps[a],?_,?_,hP _ (jx h1)⟩
  ·show(if -1-(a:Int)<0 then((apps[(-1-(-1-(a:Int))).toNat]?).getD [],post) else _)=_
   grind
  ·rw[zkd h1];simp
 |node a r b x y g1 g2 hx hy xS xT=>
  intro h1 h2 f post hf;simp[List.length_cons,List.length_append] at hf;obtain⟨f,rfl⟩:∃g,f=g+1:=⟨f-1,by omega⟩;have⟨t1,e1,l1,p1⟩:=xS om om f (y++post) om;have⟨t2,e2,l2,p2⟩:=xT h1 h2 f post om;have hg:(ops[((r:Int)).toNat]?).getD []=ops[r]:=by grind
  refine⟨nd 6 [] [nd 6 [] [nd 3 (ops[r]) [],t1],t2],?_,?_,?_⟩
  ·show(if(r:Int)<0 then _ else(nd 6 [] [nd 6 [] [nd 3 ((ops[((r:Int)).toNat]?).getD []) [],(nR apps ops f ((x++y)++post)).1],(nR apps ops f (nR apps ops f ((x++y)++post)).2).1],(nR apps ops f (nR apps ops f ((x++y)++post)).2).2))=_
   grind
  ·have:=hy.le;rw[z7l g1 g2 h1];simp only[kO,ja,jm,zd,ZM,zQ];omega
  ·intro d hd;simp only[nd,ja,jm,zv,zn,zQ,zA,zD,jL,jF] at hd
   grind
def EOk(E:Int)(e:Int×Int):Prop:=(0<=e.1/\e.1<=E)/\70<=e.2/\e.2<=73
def bP(E:Int)(A:α->Prop)(x:PR α):Prop:=match x with
 |.ok a=>A a
 |.error e=>EOk E e
theorem bP.eb{A:α->Prop}{B:β->Prop}{x:PR α}{f:α->PR β}(hx:bP E A x)(h:∀a,A a->bP E B (f a)):bP E B (eb x f):=by
 cases x with
 |ok a=>exact h a hx
 |error e=>exact hx
theorem bP.bif{A:α->Prop}{t:Bool}{x y:PR α}(hx:t=true->bP E A x)(hy:t=false->bP E A y):bP E A (bif t then x else y):=by
 cases t with
 |true=>exact hx rfl
 |false=>exact hy rfl
theorem bP.ok{A:α->Prop}{a:α}(h:A a):bP E A (.ok a):=h
structure po (c:PC) (E:Int) (Q:Tx->Prop) (N:Int->Prop):Prop where
 tk:∀t,t∈c.l->Q t.2.1/\N t.2.2.1/\0<=t.2.2.2/\t.2.2.2<=E
 e0:0<=c.e
 e1:c.e<=E
 q0:Q []
 n0:N 0
 cl:∀ops x,c.cl ops=some x->Bt 0 ops.length x
section
variable {c:PC} {E:Int} {Q:Tx→Prop} {N:Int→Prop}
def GN(Q:Tx->Prop)(N:Int->Prop)(d:ND):Prop:=Q d.2.1/\N d.2.2.1
def fu(Q:Tx->Prop)(N:Int->Prop)(l:List ND):Prop:=∀d,d∈l->GN Q N d
variable (c Q N) in
def AN(i:Nat)(x:List ND×Nat):Prop:=i<x.2/\x.2<=c.l.length/\x.1.length+1<=3*(x.2-i)/\fu Q N x.1
theorem fu.nd{k:Int}{s:Tx}{kids:List (List ND)}(hi:N 0)(hs:Q s)(h:fu Q N kids.flatten):fu Q N (nd k s kids):=by
 intro d hd;rcases zA.1 hd with hd|hd
 ·rw[hd];exact⟨hs,hi⟩
 ·exact h d hd
theorem fu.nil:fu Q N []:=fun _ h=>absurd h (zL)
theorem fu.app{a b:List ND}(h1:fu Q N a)(h2:fu Q N b):fu Q N (a++b):=fun d hd=>(zD.1 hd).elim (h1 d) (h2 d)
theorem fu.one{a:List ND}(h1:fu Q N a):fu Q N [a].flatten:=by grind
theorem fu.two{a b:List ND}(h1:fu Q N a)(h2:fu Q N b):fu Q N [a,b].flatten:=by exact h1.app h2.one
theorem fu.three{a b d:List ND}(h1:fu Q N a)(h2:fu Q N b)(h3:fu Q N d):fu Q N [a,b,d].flatten:=by exact h1.app (h2.two h3)
theorem fu.snoc{l:List (List ND)}{a:List ND}(h1:fu Q N l.flatten)(h2:fu Q N a):fu Q N (l++[a]).flatten:=by rw[ZM];exact h1.app h2.one
variable (H:po c E Q N)
include H
theorem Xh(i:Nat):0<=l0 c i/\l0 c i<=E:=by
 unfold l0;cases h:c.l[i]? with
 |none=>exact⟨H.e0,H.e1⟩
 |some t=>exact(H.tk t (zH h)).2.2
theorem ME{A:α->Prop}(i:Nat){k:Int}(h1:70<=k)(h2:k<=73):bP E A (.error (l0 c i,k):PR α):=⟨Xh H i,h1,h2⟩
theorem DW(i:Nat):Q (dC c i):=by
 unfold dC;cases h:c.l[i]? with
 |none=>exact H.q0
 |some t=>exact(H.tk t (zH h)).1
theorem zgt(i:Nat):N (num c i):=by
 unfold num;cases h:c.l[i]? with
 |none=>exact H.n0
 |some t=>exact(H.tk t (zH h)).2.1
omit H in
theorem vL{k:Int}(h:aX c i k=true):i<c.l.length:=by
 unfold aX at h;cases e:c.l[i]? with
 |none=>rw[e] at h;cases h
 |some t=>exact(zT.1 e).1
omit H in
theorem DY{k:List Tx}(h:cy c i k=true):i<c.l.length:=by
 unfold cy at h;cases e:c.l[i]? with
 |none=>rw[e] at h;cases h
 |some t=>exact(zT.1 e).1
theorem dP(i:Nat)(s:Tx):bP E (fun j=>j=i+1/\i<c.l.length) (eQ c i s):=by exact bP.bif (fun h=>⟨rfl,DY h⟩) fun _=>ME H i dc dc
theorem eV(i:Nat):bP E (fun x=>Q x.1/\i<x.2/\x.2<=c.l.length) (uf c i):=by refine bP.bif (fun h=>⟨DW H i,jG _,vL h⟩) fun _=>bP.bif (fun h=>?_) fun _=>bP.bif (fun _=>ME H _ dc dc) fun _=>ME H _ dc dc;exact(dP H (i+2) kR).eb fun a ha=>(⟨DW H _,by simp only;omega,by simp only;omega⟩)
variable {self aT:PT}
theorem qsb(h:∀i,bP E (AN c Q N i) (self i))(i:Nat):bP E (AN c Q N i) (uL c self i):=by
 refine bP.bif (fun t=>?_) fun _=>bP.bif (fun t=>?_) fun _=>bP.bif (fun t=>?_) fun _=>bP.bif (fun t=>?_) fun _=>?_
 ·have:=DY t;refine bP.ok ⟨jG _,this,?_,fu.nd H.n0 H.q0 fu.nil⟩;show 2<=3*(i+1-i);omega
 ·have:=vL t;refine bP.ok ⟨jG _,this,?_,fun d hd=>?_⟩
  ·grind
  ·rw[zJ.1 hd];exact⟨H.q0,zgt H i⟩
 ·have:=vL t;refine bP.ok ⟨jG _,this,?_,fu.nd H.n0 (DW H i) fu.nil⟩;show 2<=3*(i+1-i);omega
 ·refine(h (i+1)).eb fun p hp=>(dP H p.2 kR).eb fun a ha=>?_;have⟨h1,h2,h3,h4⟩:=hp;refine bP.ok ⟨by simp only;omega,by simp only;omega,?_,h4⟩
  grind
 ·refine(eV H i).eb fun s hs=>?_;have⟨h1,h2,h3⟩:=hs;refine bP.ok ⟨h2,h3,?_,fu.nd H.n0 h1 fu.nil⟩;show 2<=3*(s.2-i);omega
theorem z7n(h:∀i,bP E (AN c Q N i) (self i)):∀(f i:Nat) (acc:List (List ND)),i<=c.l.length->fu Q N acc.flatten->bP E (fun x=>i<=x.2/\x.2<=c.l.length/\tot x.1<=tot acc+3*(x.2-i)/\fu Q N x.1.flatten) (AV c self f i acc)
 |0,i,acc,hi,hg=>⟨zm _,hi,by simp only;omega,hg⟩
 |f+1,i,acc,hi,hg=>by
  refine bP.bif (fun t=>?_) fun _=>⟨zm _,hi,by simp only;omega,hg⟩;refine(qsb H h i).eb fun p hp=>?_;have⟨h1,h2,h3,h4⟩:=hp;have r:=z7n h f p.2 (acc++[p.1]) h2 (hg.snoc h4);revert r;cases AV c self f p.2 (acc++[p.1]) with
  |error e=>exact id
  |ok x=>rintro⟨r1,r2,r3,r4⟩;rw[Hw] at r3;exact⟨by omega,r2,by omega,r4⟩
theorem vM(h:∀i,bP E (AN c Q N i) (self i))(i:Nat):bP E (AN c Q N i) (nv c self i):=by
 refine bP.bif (fun t=>?_) fun _=>qsb H h i;refine(z7n H h _ (i+1) [] (vL t) fu.nil).eb fun p hp=>?_;have⟨h1,h2,h3,h4⟩:=hp;refine bP.ok ⟨by simp only;omega,h2,?_,fu.nd H.n0 (DW H i) h4⟩;rw[kO];unfold tot at h3
 grind
theorem Xi:∀(d i:Nat),bP E (AN c Q N i) (dU c d i)
 |0,i=>ME H i dc dc
 |d+1,i=>vM H (Xi d) i
theorem bZ(h:∀i,bP E (AN c Q N i) (self i))(i:Nat)(s:Tx):bP E (fun x=>AN c Q N (i+1) x) (fO c self i s):=by
 refine(dP H i s).eb fun a ha=>?_
 grind
theorem lL(h:∀i,bP E (AN c Q N i) (self i))(hp:∀i,bP E (AN c Q N i) (aT i)):∀(f i:Nat) (acc:List (List ND)),i<=c.l.length->fu Q N acc.flatten->bP E (fun x=>i<=x.2/\x.2<=c.l.length/\tot x.1<=tot acc+3*(x.2-i)/\fu Q N x.1.flatten) (y8 c self aT f i acc)
 |0,i,acc,hi,hg=>⟨zm _,hi,by simp only;omega,hg⟩
 |f+1,i,acc,hi,hg=>by
  refine(hp i).eb fun p ⟨p1,p2,p3,p4⟩=>(bZ H h p.2 av).eb fun b ⟨b1,b2,b3,b4⟩=>?_;have e:acc++[p.1,b.1]=acc++[p.1]++[b.1]:=by simp
  refine bP.bif (fun t=>?_) fun _=>?_
  ·have:=DY t;have r:=lL h hp f (b.2+1) (acc++[p.1,b.1]) om (by rw[e];exact(hg.snoc p4).snoc b4);revert r;cases y8 c self aT f (b.2+1) (acc++[p.1,b.1]) with
   |error e=>exact id
   |ok x=>rintro⟨r1,r2,r3,r4⟩;rw[e,Hw,Hw] at r3;exact⟨by omega,r2,by omega,r4⟩
  ·refine bP.ok ⟨by simp only;omega,b2,?_,?_⟩
   ·simp only;rw[e,Hw,Hw];omega
   ·simp only;rw[e];exact(hg.snoc p4).snoc b4
theorem zdc(h:∀i,bP E (AN c Q N i) (self i))(hp:∀i,bP E (AN c Q N i) (aT i))(i:Nat):bP E (AN c Q N i) (S6 c self aT i):=by
 refine(h i).eb fun x ⟨x1,x2,x3,x4⟩=>(dP H x.2 eH).eb fun a ⟨a1,a2⟩=>?_;refine(lL H h hp _ a [x.1] om x4.one).eb fun r ⟨r1,r2,r3,r4⟩=>(dP H r.2 gI).eb fun b ⟨b1,b2⟩=>?_;refine bP.ok ⟨by simp only;omega,by simp only;omega,?_,fu.nd H.n0 H.q0 r4⟩;rw[kO];have e:tot [x.1]=x.1.length+1:=by unfold tot;simp
 rw[e] at r3;unfold tot at r3;omega
theorem fP(h:∀i,bP E (AN c Q N i) (self i))(hp:∀i,bP E (AN c Q N i) (aT i))(i:Nat):bP E (AN c Q N i) (rE c self aT i):=by
 refine bP.bif (fun _=>?_) fun _=>ME H i dc dc;refine bP.bif (fun t=>?_) fun _=>bP.bif (fun t=>?_) fun _=>bP.bif (fun t=>?_) fun _=>bP.bif (fun t=>?_) fun _=>bP.bif (fun t=>?_) fun _=>bP.bif (fun t=>?_) fun _=>?_
 ·have:=vL t;refine bP.ok ⟨jG _,this,?_,fun d hd=>?_⟩
  ·grind
  ·rw[zJ.1 hd];exact⟨H.q0,zgt H i⟩
 ·have:=vL t;refine bP.ok ⟨jG _,this,?_,fu.nd H.n0 (DW H i) fu.nil⟩;show 2<=3*(i+1-i);omega
 ·have:=vL t;refine bP.ok ⟨jG _,this,?_,fu.nd H.n0 (DW H i) fu.nil⟩;show 2<=3*(i+1-i);omega
 ·have:=vL t;refine bP.ok ⟨jG _,this,?_,fu.nd H.n0 (DW H i) fu.nil⟩;show 2<=3*(i+1-i);omega
 ·have r:=zdc H h hp (i+1);revert r;cases S6 c self aT (i+1) with
  |error e=>exact id
  |ok x=>rintro⟨r1,r2,r3,r4⟩;exact⟨by omega,r2,by omega,r4⟩
 ·refine(dP H (i+2) kR).eb fun a ⟨a1,a2⟩=>?_;refine bP.ok ⟨by simp only;omega,by simp only;omega,?_,fu.nd H.n0 (DW H _) fu.nil⟩;show 2<=3*(a-i);omega
 ·refine(h (i+1)).eb fun x ⟨x1,x2,x3,x4⟩=>(dP H x.2 kR).eb fun a ⟨a1,a2⟩=>?_;refine bP.ok ⟨by simp only;omega,by simp only;omega,?_,x4⟩
  grind
theorem z7o(h:∀i,bP E (AN c Q N i) (self i))(hp:∀i,bP E (AN c Q N i) (aT i))(i0:Nat):∀(f i:Nat) (l:List ND),AN c Q N i0 (l,i)->bP E (AN c Q N i0) (CN c self aT f i l)
 |0,i,l,hl=>hl
 |f+1,i,l,hl=>by
  refine bP.bif (fun _=>?_) fun _=>hl;refine(fP H h hp i).eb fun m ⟨m1,m2,m3,m4⟩=>?_;have⟨l1,l2,l3,l4⟩:=hl;refine z7o h hp i0 f m.2 _ ⟨by omega,m2,?_,fu.nd H.n0 H.q0 (l4.two m4)⟩;rw[kO]
  grind
theorem Xj(h:∀i,bP E (AN c Q N i) (self i))(hp:∀i,bP E (AN c Q N i) (aT i))(i:Nat):bP E (AN c Q N i) (mB c self aT i):=by exact(fP H h hp i).eb fun x hx=>z7o H h hp i _ x.2 x.1 hx
omit H in
variable (c E Q N) in
structure RI (i0 i:Nat) (r:Row):Prop where
 n1:r.apps.length=r.ops.length+1
 n2:r.at_.length=r.ops.length
 m:tot r.apps+3*r.ops.length<=3*(i-i0)
 gt:i0<i
 le:i<=c.l.length
 g1:∀a,a∈r.apps->∀d,d∈a->GN Q N d
 g2:∀s,s∈r.ops->Q s
 g3:∀p,p∈r.at_->0<=p/\p<=E
theorem zgu(h:∀i,bP E (AN c Q N i) (self i))(hp:∀i,bP E (AN c Q N i) (aT i))(i0:Nat):∀(f i:Nat) (r:Row),RI c E Q N i0 i r->bP E (fun x=>RI c E Q N i0 x.2 x.1) (kN c self aT f i r)
 |0,i,r,hr=>hr
 |f+1,i,r,hr=>by
  refine bP.bif (fun t=>?_) fun _=>hr;refine(Xj H h hp (i+1)).eb fun x ⟨x1,x2,x3,x4⟩=>zgu h hp i0 f x.2 _ ?_;have:=hr.gt;have hm:=hr.m;refine⟨?_,?_,?_,by omega,x2,?_,?_,?_⟩
  ·simp[List.length_append,List.length_cons,List.length_nil,hr.n1]
  ·simp[List.length_append,List.length_cons,List.length_nil,hr.n2]
  ·simp[Hw,List.length_append,List.length_cons,List.length_nil];omega
  ·intro a ha;rcases zD.1 ha with ha|ha
   ·exact hr.g1 a ha
   ·rw[zJ.1 ha];exact x4
  ·intro a ha;rcases zD.1 ha with ha|ha
   ·exact hr.g2 a ha
   ·rw[zJ.1 ha];exact DW H i
  ·intro a ha;rcases zD.1 ha with ha|ha
   ·exact hr.g3 a ha
   ·rw[zJ.1 ha];exact Xh H i
omit H in
theorem qvi:∀(ops:List Tx) (ps:List Int) (p:Int),CO c ops ps=some p->p∈ps
 |[],ps,p,h=>by cases ps<;>cases h
 |s::ops,[],p,h=>by cases h
 |s::ops,q::ps,p,h=>by
  have h:(bif c.fx s then CO c ops ps else some q)=some p:=h;cases e:c.fx s with
  |true=>rw[e] at h;exact zf _ (qvi ops ps p h)
  |false=>rw[e] at h;injection h with h;rw[h];exact zg ..
theorem zke{i0:Nat}{r:Row}(hr:RI c E Q N i0 i r){first:Int}(h1:0<=first/\first<=E):bP E (AN c Q N i0) (qP c first r i):=by
 have hm:=hr.m;have hn:=hr.n1;have hg:=hr.gt;unfold qP;by_cases h0:r.ops=[]
 ·rw[zu h0];have hl:r.apps.length=1:=by rw[hn,h0];rfl
  match ha:r.apps,hl with
  |[a],_=>
   have e:tot [a]=a.length+1:=by unfold tot;simp
   refine bP.ok ⟨hg,hr.le,?_,hr.g1 a (by rw[ha];exact zJ.2 rfl)⟩
   grind
 ·rw[zj h0];cases hf:CO c r.ops r.at_ with
  |some p=>exact⟨hr.g3 p (qvi _ _ _ hf),(by decide:(70:Int)<=71),(by decide:(71:Int)<=73)⟩
  |none=>
   cases hc:c.cl r.ops with
   |none=>exact⟨h1,(by decide:(70:Int)<=72),(by decide:(72:Int)<=73)⟩
   |some x=>
    have⟨t,e1,e2,e3⟩:=z7m (P:=GN Q N) hr.g1 (fun s hs=>⟨hr.g2 s hs,H.n0⟩) ⟨H.q0,H.n0⟩ (H.cl _ _ hc) om (zm _) x.length [] (zm _);rw[zv] at e1;show bP E (AN c Q N i0) (.ok ((nR r.apps r.ops x.length x).1,i));rw[e1];refine bP.ok ⟨hg,hr.le,?_,e3⟩;have es:DV r.apps 0 r.ops.length=r.apps:=by
     unfold DV
     grind
    rw[es] at e2;unfold tot at hm;simp only;omega
theorem znl(h:∀i,bP E (AN c Q N i) (self i))(hp:∀i,bP E (AN c Q N i) (aT i))(i:Nat):bP E (AN c Q N i) (ug c self aT i):=by
 refine(Xj H h hp i).eb fun x ⟨x1,x2,x3,x4⟩=>(zgu H h hp i _ x.2 ⟨[x.1],[],[]⟩ ?_).eb fun r hr=>zke H hr (Xh H i);have e:tot [x.1]=x.1.length+1:=by unfold tot;simp
 refine⟨rfl,rfl,?_,x1,x2,?_,(fun _ h=>absurd h (zL)),(fun _ h=>absurd h (zL))⟩
 ·grind
 ·intro a ha;rw[zJ.1 ha];exact x4
theorem zkf(h:∀i,bP E (AN c Q N i) (self i))(hp:∀i,bP E (AN c Q N i) (aT i))(i:Nat):bP E (AN c Q N i) (uh c self aT i):=by
 refine bP.bif (fun _=>?_) fun _=>znl H h hp i;refine bP.bif (fun _=>?_) fun _=>bP.bif (fun _=>?_) fun _=>bP.bif (fun _=>?_) fun _=>bP.bif (fun _=>?_) fun _=>?_
 ·refine(eV H (i+1)).eb fun s ⟨s1,s2,s3⟩=>(bZ H h s.2 av).eb fun x ⟨x1,x2,x3,x4⟩=>?_;refine bP.ok ⟨by simp only;omega,x2,?_,fu.nd H.n0 s1 x4.one⟩;rw[kO]
  grind
 ·refine(eV H _).eb fun s ⟨s1,s2,s3⟩=>(bZ H h s.2 iv).eb fun x ⟨x1,x2,x3,x4⟩=>(bZ H h x.2 y7).eb fun y ⟨y1,y2,y3,y4⟩=>?_;have hs:i+1<s.2:=by grind
  refine bP.ok ⟨by simp only;omega,y2,?_,fu.nd H.n0 s1 (x4.two y4)⟩;rw[kO]
  grind
 ·refine(h (i+1)).eb fun x ⟨x1,x2,x3,x4⟩=>(bZ H h x.2 iY).eb fun y ⟨y1,y2,y3,y4⟩=>(bZ H h y.2 iZ).eb fun z ⟨z1,z2,z3,z4⟩=>?_;refine bP.ok ⟨by simp only;omega,z2,?_,fu.nd H.n0 H.q0 (x4.three y4 z4)⟩;rw[kO]
  grind
 ·refine(h (i+1)).eb fun x ⟨x1,x2,x3,x4⟩=>?_;refine bP.ok ⟨by simp only;omega,x2,?_,fu.nd H.n0 H.q0 x4.one⟩;rw[kO]
  grind
 ·refine(h (i+1)).eb fun x ⟨x1,x2,x3,x4⟩=>(dP H x.2 eH).eb fun a ⟨a1,a2⟩=>(eV H a).eb fun s ⟨s1,s2,s3⟩=>(bZ H h s.2 av).eb fun y ⟨y1,y2,y3,y4⟩=>?_;refine bP.ok ⟨by simp only;omega,y2,?_,fu.nd H.n0 s1 (x4.two y4)⟩;rw[kO]
  grind
theorem lM:∀(d i:Nat),bP E (AN c Q N i) (da c d i)
 |0,i=>ME H i dc dc
 |d+1,i=>zkf H (lM d) (Xi H d) i
theorem cR:bP E (fun l=>l.length+1<=3*c.l.length/\fu Q N l) (pn c):=by
 refine(lM H 100 0).eb fun x ⟨x1,x2,x3,x4⟩=>?_;split
 ·exact ME H _ dc dc
 ·exact bP.ok ⟨by omega,x4⟩
end
end Pz
end Ev

namespace Ev
namespace Pz
variable{α β:Type}{i:Nat}
structure Emb (c c':PC) (off:Nat):Prop where
 g:∀i,i<c.l.length->∃t t',c.l[i]?=some t/\c'.l[i+off]?=some t'/\t'.1=t.1/\t'.2.1=t.2.1/\t'.2.2.1=t.2.2.1
 z:∃t',c'.l[c.l.length+off]?=some t'/\t'.1=6/\t'.2.1=kR
 fx:c'.fx=c.fx
 cl:c'.cl=c.cl
 le:c.l.length<=c'.l.length
def RR(S:α->β->Prop)(r:PR α)(r':PR β):Prop:=match r with
 |.error _=>True
 |.ok a=>(∃w,r'=.error (w,73))\/∃b,r'=.ok b/\S a b
theorem RR.bif{S:α->β->Prop}{t t':Bool}{x y:PR α}{x' y':PR β}(ht:t'=t)(hx:t=true->RR S x x')(hy:t=false->RR S y y'):RR S (bif t then x else y) (bif t' then x' else y'):=by
 subst ht;cases t' with
 |true=>exact hx rfl
 |false=>exact hy rfl
theorem RR.ok{S:α->β->Prop}{a:α}{b:β}(h:S a b):RR S (.ok a) (.ok b):=.inr ⟨b,rfl,h⟩
theorem RR.mono{S T:α->β->Prop}{r:PR α}{r':PR β}(h:RR S r r')(h2:∀a b,S a b->T a b):RR T r r':=by
 cases r with
 |error e=>trivial
 |ok a=>
  rcases h with h|⟨b,hb,hs⟩
  ·exact .inl h
  ·exact .inr ⟨b,hb,h2 a b hs⟩
section
variable {c c':PC} {off:Nat} (H:Emb c c' off)
variable (c off) in
def SN(i:Nat)(x x':α×Nat):Prop:=x'.1=x.1/\x'.2=x.2+off/\i<x.2/\x.2<=c.l.length
include H
omit H in
theorem z7p(h:j0 c i=true):i<c.l.length:=by
 unfold j0 at h;simp[Bool.or_eq_true] at h;rcases h with h|h|h|h|h
 ·exact vL h
 ·exact vL h
 ·exact vL h
 ·exact vL h
 ·exact DY h
variable {self S7 aT MD:PT}
omit H in
end
end Pz
end Ev

namespace Ev
namespace Pz
variable{α β:Type}{i:Nat}
theorem Xk{c:PC}{t:Tk}(h:c.l[i]?=some t)(k:Int):aX c i k=decide (t.1=k):=by unfold aX;rw[h]
theorem z7q{c:PC}{t:Tk}(h:c.l[i]?=some t)(ks:List Tx):cy c i ks=(decide (t.1=6)&&decide (t.2.1∈ks)):=by unfold cy;rw[h]
theorem z7r{c:PC}{t:Tk}(h:c.l[i]?=some t):dC c i=t.2.1:=by unfold dC;rw[h]
theorem qxy{c:PC}(h:c.l.length<=i)(k:Int):aX c i k=false:=by unfold aX;rw[jN h]
theorem zkg{c:PC}(h:c.l.length<=i)(ks:List Tx):cy c i ks=false:=by unfold cy;rw[jN h]
theorem qql{c:PC}(h:c.l.length<=i):j0 c i=false:=by unfold j0;simp only[qxy h,zkg h,Zo]
theorem iE{x:PR α}{f:α->PR β}{b:β}(h:eb x f=.ok b):∃a,x=.ok a/\f a=.ok b:=by
 cases x with
 |ok a=>exact⟨a,rfl,h⟩
 |error e=>cases h
end Pz
end Ev

namespace Ev
namespace Pz
variable{p:Int→Bool}
section
variable (inn sgn:Int→Bool) (keyw:Tx→Bool) (rd:Tx→Int×Int)
def eB(p:Int->Bool):Tx->Nat
 |[]=>0
 |b::l=>bif p b then eB p l+1 else 0
def qQ(c:Int):Bool:=decide (97<=c)&&decide (c<=122)
def y9(c:Int):Bool:=decide (65<=c)&&decide (c<=90)
def iw(c:Int):Bool:=decide (48<=c)&&decide (c<=57)
def cL(c:Int):Int:=bif iw c then c-48 else bif decide (97<=c)&&decide (c<=102) then c-87 else -1
def qt:Tx->Tx->Nat->Tx×Nat
 |[],_,_=>([],0)
 |c::l,b,i=>
  if c=34 then(b,i+1) else
  if c<32\/126<c then([],0) else
  if c≠92 then qt l (b++[c]) (i+1) else
  match l with
  |[]=>([],0)
  |d::l2=>
   if d=34\/d=92 then qt l2 (b++[d]) (i+2) else
   if d=110 then qt l2 (b++[10]) (i+2) else
   if d=120 then match l2 with
    |x::y::l3=>if cL x<0\/cL y<0 then([],0) else qt l3 (b++[16*cL x+cL y]) (i+4)
    |_=>([],0)
   else([],0)
abbrev T3:=Int×Tx×Int
def qR(n:Nat)(k:Int)(s:Tx):T3×Nat×Int:=((bif keyw (s.take n) then 6 else k,s.take n,0),n,0)
def ui(e:Int):T3×Nat×Int:=((0,[],0),0,e)
def gJ(c:Int)(l:Tx):T3×Nat×Int:=
  bif qQ c then qR keyw (eB inn (c::l)) 1 (c::l) else
  bif y9 c then qR keyw (eB inn (c::l)) 2 (c::l) else
  bif sgn c then qR keyw (eB sgn (c::l)) 5 (c::l) else
  bif decide (c=40)||(decide (c=41)||decide (c=95)) then qR keyw 1 6 (c::l) else
  bif decide (c=59)&&decide (l.head?=some 59) then qR keyw 2 6 (c::l) else
  bif iw c||decide (c=126) then
   (bif decide ((rd ((c::l).take (1+eB iw l))).2=0) then((3,[],(rd ((c::l).take (1+eB iw l))).1),1+eB iw l,0) else ui 31) else
  bif decide (c=34) then
   (bif decide ((qt l [] 1).2=0)||decide (200<(qt l [] 1).1.length) then ui 32 else((4,(qt l [] 1).1,0),(qt l [] 1).2,0)) else
  ui 30
def one:Tx->T3×Nat×Int
 |[]=>ui 30
 |c::l=>gJ inn sgn keyw rd c l
def blank:Bool->Tx->Nat
 |_,[]=>0
 |false,b::l=>if b=32\/b=10 then blank false l+1 else if b=35 then blank true l+1 else 0
 |true,b::l=>if b=10 then blank false l+1 else blank true l+1
def FR(t:T3)(a:Int):Tk:=(t.1,t.2.1,t.2.2,a)
def kx:Nat->Tx->Int->PR (List Tk)
 |0,_,_=>.ok []
 |f+1,s,a=>
  if s.drop (blank false s)=[] then .ok [] else
  if(one inn sgn keyw rd (s.drop (blank false s))).2.2≠0 then .error (a+blank false s,(one inn sgn keyw rd (s.drop (blank false s))).2.2) else
  eb (kx f ((s.drop (blank false s)).drop (one inn sgn keyw rd (s.drop (blank false s))).2.1) (a+blank false s+(one inn sgn keyw rd (s.drop (blank false s))).2.1)) fun l=>.ok (FR (one inn sgn keyw rd (s.drop (blank false s))).1 (a+blank false s)::l)
end
theorem AW(p:Int->Bool):∀l,eB p l<=l.length
 |[]=>zm _
 |b::l=>by
  have:=AW p l;unfold eB;cases p b with
  |true=>rw[zK,zn];omega
  |false=>rw[zE];omega
theorem MF{c:Int}{l:Tx}(h:p c=true):1<=eB p (c::l):=by
 unfold eB
 grind
theorem S8:∀(n:Nat) (s b:Tx) (i:Nat),s.length<=n->(qt s b i).2<=i+s.length/\((qt s b i).2≠0->i<(qt s b i).2)
 |_,[],b,i,_=>by show(0:Nat)<=_/\(0≠0->_);omega
 |0,c::l,b,i,h=>by simp at h
 |n+1,c::l,b,i,h=>by
  have hl:l.length<=n:=by simp_all
  have z:((([]:Tx),0):Tx×Nat).2<=i+(c::l).length/\(((([]:Tx),0):Tx×Nat).2≠0->i<((([]:Tx),0):Tx×Nat).2):=⟨zC _,fun h=>absurd rfl h⟩;unfold qt;split
  ·simp only[zn];exact⟨by omega,fun _=>by omega⟩
  split
  ·exact z
  split
  ·have:=S8 n l (b++[c]) (i+1) hl;rw[zn];exact⟨by omega,fun h=>by omega⟩
  cases l with
  |nil=>exact z
  |cons d l2=>
   simp[List.length_cons] at hl ⊢;split
   ·have:=S8 n l2 (b++[d]) (i+2) om;exact⟨by omega,fun h=>by omega⟩
   split
   ·have:=S8 n l2 (b++[10]) (i+2) om;exact⟨by omega,fun h=>by omega⟩
   split
   ·match l2,hl with
    |[],_=>exact⟨zC _,fun h=>absurd rfl h⟩
    |[x],_=>exact⟨zC _,fun h=>absurd rfl h⟩
    |x::y::l3,hl=>
     simp[List.length_cons] at hl ⊢;split
     ·exact⟨zC _,fun h=>absurd rfl h⟩
     ·have:=S8 n l3 (b++[16*cL x+cL y]) (i+4) om;exact⟨by omega,fun h=>by omega⟩
   ·exact⟨zC _,fun h=>absurd rfl h⟩
end Pz
end Ev

namespace Ev
namespace Pz
variable{N:Int→Prop}
structure MG (inn sgn:Int->Bool):Prop where
 ru:∀c,qQ c=true\/y9 c=true->inn c=true
 i10:inn 10=false
 s10:sgn 10=false
section
variable {inn sgn:Int→Bool} {keyw:Tx→Bool} {rd:Tx→Int×Int}
theorem qjx(H:MG inn sgn)(c:Int)(l:Tx)(P:T3×Nat×Int->Prop)(h1:∀n k,1<=n->n<=(c::l).length->P (qR keyw n k (c::l)))(h2:(iw c||decide (c=126))=true->(rd ((c::l).take (1+eB iw l))).2=0->P ((3,[],(rd ((c::l).take (1+eB iw l))).1),1+eB iw l,0))(h3:(qt l [] 1).2≠0->(qt l [] 1).1.length<=200->P ((4,(qt l [] 1).1,0),(qt l [] 1).2,0))(h4:∀e,30<=e/\e<=32->P (ui e)):P (gJ inn sgn keyw rd c l):=by
 unfold gJ;cases g1:qQ c with
 |true=>exact h1 _ _ (MF (H.ru c (.inl g1))) (AW _ _)
 |false=>
 cases g2:y9 c with
 |true=>exact h1 _ _ (MF (H.ru c (.inr g2))) (AW _ _)
 |false=>
 cases g3:sgn c with
 |true=>exact h1 _ _ (MF g3) (AW _ _)
 |false=>
 cases g4:(decide (c=40)||(decide (c=41)||decide (c=95))) with
 |true=>exact h1 1 6 (zm _) (by simp)
 |false=>
 cases g5:(decide (c=59)&&decide (l.head?=some 59)) with
 |true=>
  refine h1 2 6 om ?_;cases l with
  |nil=>simp at g5
  |cons e l2=>simp only[zn];omega
 |false=>
 cases g6:(iw c||decide (c=126)) with
 |true=>
  cases g7:decide ((rd ((c::l).take (1+eB iw l))).2=0) with
  |true=>exact h2 g6 (zZ g7)
  |false=>exact h4 31 dc
 |false=>
 cases g7:decide (c=34) with
 |false=>exact h4 30 dc
 |true=>
  cases g8:(decide ((qt l [] 1).2=0)||decide (200<(qt l [] 1).1.length)) with
  |true=>exact h4 32 dc
  |false=>grind
theorem Xl(H:MG inn sgn)(s:Tx):(one inn sgn keyw rd s).2.2=0->1<=(one inn sgn keyw rd s).2.1/\(one inn sgn keyw rd s).2.1<=s.length:=by
 cases s with
 |nil=>exact fun h=>absurd h (show ¬(30:Int)=0 by decide)
 |cons c l=>
  refine qjx H c l (fun r=>r.2.2=0->1<=r.2.1/\r.2.1<=(c::l).length) (fun n k g1 g2 _=>⟨g1,g2⟩) (fun _ _ _=>?_) (fun g _ _=>?_) fun e he h=>?_
  ·have:=AW iw l
   grind
  ·have:=S8 l.length l [] 1 (zm _)
   grind
  ·have h:e=0:=h;omega
theorem zkh(H:MG inn sgn)(s:Tx):(one inn sgn keyw rd s).2.2=0\/(30<=(one inn sgn keyw rd s).2.2/\(one inn sgn keyw rd s).2.2<=32):=by
 cases s with
 |nil=>exact .inr (show(30:Int)<=30/\(30:Int)<=32 by decide)
 |cons c l=>exact qjx H c l (fun r=>r.2.2=0\/(30<=r.2.2/\r.2.2<=32)) (fun n k g1 g2=>.inl rfl) (fun _ _=>.inl rfl) (fun g _=>.inl rfl) fun e he=>.inr he
theorem S9:∀(n:Nat) (s b:Tx) (i:Nat),s.length<=n->(∀x,x∈s->0<=x/\x<=255)->(∀x,x∈b->0<=x/\x<=255)->∀x,x∈(qt s b i).1->0<=x/\x<=255
 |_,[],b,i,_,_,_=>fun x h=>absurd h (zL)
 |0,c::l,b,i,h,_,_=>by simp at h
 |n+1,c::l,b,i,h,hs,hb=>by
  have hl:l.length<=n:=by simp_all
  have z:∀x,x∈((([]:Tx),0):Tx×Nat).1->0<=x/\x<=255:=fun x h=>absurd h (zL);have sn:∀{v:Int},0<=v/\v<=255->∀x,x∈b++[v]->0<=x/\x<=255:=fun hv x hx=>by grind
  have ht:∀x,x∈l->0<=x/\x<=255:=fun x hx=>hs x (zf _ hx);unfold qt;split
  ·exact hb
  split
  ·exact z
  split
  ·exact S9 n l _ _ hl ht (sn (hs c (zg ..)))
  cases l with
  |nil=>exact z
  |cons d l2=>
   simp[List.length_cons] at hl;have hc:∀x,x∈l2->0<=x/\x<=255:=fun x hx=>ht x (zf _ hx);simp only;split
   ·exact S9 n l2 _ _ om hc (sn (ht d (zg ..)))
   split
   ·exact S9 n l2 _ _ om hc (sn dc)
   split
   ·match l2,hl,hc with
    |[],_,_=>exact z
    |[x],_,_=>exact z
    |x::y::l3,hl,hc=>
     simp[List.length_cons] at hl;simp only;split
     ·exact z
     ·next hh=>
      have hx:∀c,cL c<=15:=fun c=>by
       unfold cL iw;cases h:(decide (48<=c)&&decide (c<=57)) with
       |true=>simp[Bool.and_eq_true,decide_eq_true_eq] at h;rw[zK];omega
       |false=>
        rw[zE];cases h2:(decide (97<=c)&&decide (c<=102)) with
        |true=>simp[Bool.and_eq_true,decide_eq_true_eq] at h2;rw[zK];omega
        |false=>rw[zE];omega
      have h1:=hx x;have h2:=hx y;exact S9 n l3 _ _ om (fun z hz=>hc z (zf _ (zf _ hz))) (sn om)
   ·exact z
theorem zdd(H:MG inn sgn)(n0:N 0)(s:Tx)(hs:∀x,x∈s->0<=x/\x<=255)(hN:∀t:Tx,(∀x,x∈t->0<=x/\x<=255)->t.length<=s.length->N (rd t).1):(∀x,x∈(one inn sgn keyw rd s).1.2.1->0<=x/\x<=255)/\(one inn sgn keyw rd s).1.2.1.length<=s.length+200/\N (one inn sgn keyw rd s).1.2.2:=by
 have z:∀x:Int,x∈([]:Tx)->0<=x/\x<=255:=fun x h=>absurd h (zL);cases s with
 |nil=>exact⟨z,zC _,n0⟩
 |cons c l=>
  refine qjx H c l (fun r=>(∀x,x∈r.1.2.1->0<=x/\x<=255)/\r.1.2.1.length<=(c::l).length+200/\N r.1.2.2) (fun n k g1 g2=>⟨fun x hx=>hs x (jK hx),?_,n0⟩) (fun _ _=>⟨z,zC _,hN _ (fun x hx=>hs x (jK hx)) ?_⟩)
   (fun g g2=>⟨S9 l.length l [] 1 (zm _) (fun x hx=>hs x (zf _ hx)) z,by simp only;omega,n0⟩) fun e he=>⟨z,zC _,n0⟩
  ·show((c::l).take n).length<=_
   grind
  grind
end
theorem Ta:∀(b:Bool) (s:Tx),blank b s<=s.length
 |b,[]=>by cases b<;>exact zm _
 |false,c::l=>by
  unfold blank;have h1:=Ta false l;have h2:=Ta true l
  grind
 |true,c::l=>by
  unfold blank;have h1:=Ta false l;have h2:=Ta true l
  grind
end Pz
end Ev

namespace Ev
namespace Pz
variable{N:Int→Prop}
section
variable {inn sgn:Int→Bool} {keyw:Tx→Bool} {rd:Tx→Int×Int}
theorem qsd(H:MG inn sgn):∀(n:Nat) (s:Tx),s.length<=n->∀(f f':Nat) (a:Int),s.length<f->s.length<f'->kx inn sgn keyw rd f s a=kx inn sgn keyw rd f' s a:=by
 intro n
 induction n with
 |zero=>
  intro s hs f f' a h1 h2;obtain⟨f,rfl⟩:∃g,f=g+1:=⟨f-1,by omega⟩;obtain⟨f',rfl⟩:∃g,f'=g+1:=⟨f'-1,by omega⟩;unfold kx
  grind
 |succ n ih=>
  intro s hs f f' a h1 h2;obtain⟨f,rfl⟩:∃g,f=g+1:=⟨f-1,by omega⟩;obtain⟨f',rfl⟩:∃g,f'=g+1:=⟨f'-1,by omega⟩;unfold kx;by_cases h0:s.drop (blank false s)=[]
  ·grind
  ·rw[zj h0];by_cases he:(one inn sgn keyw rd (s.drop (blank false s))).2.2≠0
   ·grind
   ·rw[zj he];have hl:=Xl (keyw:=keyw) (rd:=rd) H (s.drop (blank false s)) (Classical.not_not.1 he)
    grind
def shT(b:Int)(t:Tk):Tk:=(t.1,t.2.1,t.2.2.1,t.2.2.2+b)
def Ic(b:Int):PR (List Tk)->PR (List Tk)
 |.ok l=>.ok (l.map (shT b))
 |.error e=>.error (e.1+b,e.2)
theorem qse(f:Nat)(s z:Tx)(a:Int)(h:blank false (s++z)=s.length+blank false z):kx inn sgn keyw rd (f+1) (s++z) a=kx inn sgn keyw rd (f+1) z (a+(s.length:Int)):=by
 have e:(s++z).drop (s.length+blank false z)=z.drop (blank false z):=by rw[<-jw,ZZ]
 have e2:a+((s.length+blank false z:Nat):Int)=a+(s.length:Int)+(blank false z:Int):=om
 conv=>lhs;unfold kx
 conv=>rhs;unfold kx
 rw[h,e,e2]
def OkL(N:Int->Prop)(a:Int)(m:Nat)(r:PR (List Tk)):Prop:=match r with
 |.ok l=>l.length<=m/\∀t,t∈l->((∀x,x∈t.2.1->0<=x/\x<=255)/\t.2.1.length<=m+200/\N t.2.2.1)/\a<=t.2.2.2/\t.2.2.2<=a+m
 |.error e=>(a<=e.1/\e.1<=a+m)/\30<=e.2/\e.2<=32
theorem zgv(H:MG inn sgn)(n0:N 0)(M:Nat)(hN:∀t:Tx,(∀x,x∈t->0<=x/\x<=255)->t.length<=M->N (rd t).1):∀(f:Nat) (s:Tx) (a:Int),s.length<=M->(∀x,x∈s->0<=x/\x<=255)->OkL N a s.length (kx inn sgn keyw rd f s a)
 |0,s,a,_,_=>⟨zC _,fun t h=>absurd h (zL)⟩
 |f+1,s,a,hM,hs=>by
  have hb:=Ta false s;unfold kx;by_cases h0:s.drop (blank false s)=[]
  ·rw[zu h0];exact⟨zC _,fun t h=>absurd h (zL)⟩
  ·rw[zj h0];by_cases he:(one inn sgn keyw rd (s.drop (blank false s))).2.2≠0
   ·rw[zu he];exact⟨⟨by simp only;omega,by simp only;omega⟩,(zkh H _).resolve_left he⟩
   ·rw[zj he];have hc:=Classical.not_not.1 he;have hf:=Xl (keyw:=keyw) (rd:=rd) H (s.drop (blank false s)) hc;have hg:=zdd (keyw:=keyw) (rd:=rd) H n0 (s.drop (blank false s)) (fun x hx=>hs x (jB hx)) (fun t ht hl=>hN t ht (by rw[jf] at hl;omega));rw[jf] at hf hg;have hj:((s.drop (blank false s)).drop (one inn sgn keyw rd (s.drop (blank false s))).2.1).length=s.length-blank false s-(one inn sgn keyw rd (s.drop (blank false s))).2.1:=by rw[jf,jf]
    have r:=zgv H n0 M hN f ((s.drop (blank false s)).drop (one inn sgn keyw rd (s.drop (blank false s))).2.1) (a+(blank false s:Int)+((one inn sgn keyw rd (s.drop (blank false s))).2.1:Int)) om (fun x hx=>hs x (jB (jB hx)));revert r;cases kx inn sgn keyw rd f ((s.drop (blank false s)).drop (one inn sgn keyw rd (s.drop (blank false s))).2.1) (a+(blank false s:Int)+((one inn sgn keyw rd (s.drop (blank false s))).2.1:Int)) with
    |error e=>rintro⟨⟨r1,r2⟩,r3⟩;exact⟨⟨by omega,by omega⟩,r3⟩
    |ok l=>
     rintro⟨r1,r2⟩;refine⟨?_,fun t ht=>?_⟩
     ·grind
     ·rcases zA.1 ht with rfl|ht
      ·exact⟨⟨hg.1,je hg.2.1 om,hg.2.2⟩,by show a<=a+(blank false s:Int);omega,by show a+(blank false s:Int)<=_;omega⟩
      grind
end
end Pz
end Ev

namespace Ev
open Go
namespace Fn
variable{j:Nat}
theorem zki{a b:List Int}:bW a b=true↔a=b:=by simp[bW]
def ej(l:List af)(op:List Int):List af:=l.filter fun x=>!bW x.1 op
def AX(l:List af):List af:=l.mergeSort fun a b=>!DL b a
def cX(l:List af)(f:af):List af×Int:=if cT l≠0 then([],cT l) else if iu f=false\/(ej l f.1).length=400 then([],40) else(AX (ej l f.1++[f]),0)
theorem Tb(x f:af):qz (x,f,())=some (bW x.1 f.1,()):=abF x.1 x.2.1 x.2.2 f.1 f.2.1 f.2.2
theorem z7t(n:Bool)(l:List af)(f:af)(hl:l.length<=1000000):∀(m k:Nat),k+m=l.length->(∀x,x∈l.take k->bW x.1 f.1=false)->∃r,aI pP (⟨n,l⟩,f,(l.length:Int),(k:Int),())=some (r,())/\((r=-1/\∀x,x∈l->bW x.1 f.1=false)\/∃(j:Nat) (x:af),r=(j:Int)/\l[j]?=some x/\bW x.1 f.1=true/\∀x,x∈l.take j->bW x.1 f.1=false):=by
 intro m
 induction m with
 |zero=>intro k hk ha;refine⟨-1,bG ?_,.inl ⟨rfl,fun x hx=>ha x (by rw[jT om];exact hx)⟩⟩;rw[q6i];simp only;rw[bf,zj om]
 |succ m ih=>
  intro k hk ha;have hc:k<l.length:=om
  have step:pP (⟨n,l⟩,f,(l.length:Int),(k:Int),())=aL (bW l[k].1 f.1) (some (.inr ((k:Int),()))) (some (.inl (⟨n,l⟩,f,(l.length:Int),((k+1:Nat):Int),()))):=by rw[q6i];simp only;rw[bf,zu om,bJ (zh hc),ae,Tb,ae,aG om]
  cases h:bW l[k].1 f.1 with
  |true=>rw[h] at step;exact⟨k,bG step,.inr ⟨k,l[k],rfl,zh hc,h,ha⟩⟩
  |false=>
   rw[h] at step;have⟨r,h1,h2⟩:=ih (k+1) om (fun x hx=>by
    rw[Zl,zh hc] at hx;rcases zD.1 hx with hx|hx
    ·exact ha x hx
    ·have:x=l[k]:=by simp_all
     rw[this];exact h)
   exact⟨r,by rw[cY step,h1],h2⟩
theorem qvj{l:List af}{op:List Int}(h:∀x,x∈l->bW x.1 op=false):ej l op=l:=by
 unfold ej;rw[List.filter_eq_self]
 grind
theorem qvk{l:List af}{op:List Int}{x:af}(h:l[j]?=some x):ej (l.take (j+1)) op=ej (l.take j) op++(if bW x.1 op=true then [] else [x]):=by
 unfold ej;rw[Zl,h]
 grind
theorem zde(f:af)(b:Bool)(l:List af)(hl:l.length<=1000000):∀(m j i:Nat) (a:List af),j+m=l.length->a.length=l.length->i<=j->a.take i=ej (l.take j) f.1->a.drop j=l.drop j->aI tw (f,(i:Int),(j:Int),⟨b,a⟩,())=some (⟨b,ej l f.1⟩,()):=by
 intro m
 induction m with
 |zero=>
  intro j i a hj ha hi h1 h2;refine bG ?_;rw[q7s];simp only;have c1:dY (aa a) (i:Int)=some i:=by
   unfold dY aa
   grind
  have lz:(gb a (i:Int) (([]:List Int),(0:Int),(0:Int))).length=a.length:=by
   unfold gb
   grind
  have c2:dY (aa (gb a (i:Int) (([]:List Int),(0:Int),(0:Int)))) (i:Int)=some i:=by
   unfold dY aa
   grind
  have tz:aP (gb a (i:Int) (([]:List Int),(0:Int),(0:Int))) i=a.take i:=by
   unfold aP gb
   grind
  rw[bf,zj (by unfold aa;omega),c1,ae,c2,ae,tz,h1,jT om]
 |succ m ih=>
  intro j i a hj ha hi h1 h2;have hc:j<l.length:=om
  have hx:a[j]?=some l[j]:=by have:=jd (fun z:List af=>z[0]?) h2;simp[List.getElem?_drop,Nat.add_zero] at this;rw[this,zh hc]
  have hd:a.drop (j+1)=l.drop (j+1):=by rw[<-jw,<-jw,h2]
  have dt:=qvk (op:=f.1) (zh hc);have step:tw (f,(i:Int),(j:Int),⟨b,a⟩,())=if bW l[j].1 f.1=true then some (.inl (f,(i:Int),((j+1:Nat):Int),⟨b,a⟩,())) else some (.inl (f,((i+1:Nat):Int),((j+1:Nat):Int),⟨b,a.set i l[j]⟩,())):=by
   rw[q7s];simp only;have g:qz ((l[j].1,l[j].2.1,l[j].2.2),f,())=some (bW l[j].1 f.1,()):=Tb _ _;have oi:cj a (i:Int)=some i:=oL om;have ni:nth a i=some (a[i]' om):=w8 (zh om);rw[bf,zu (by unfold aa;omega),oL (by omega:j<a.length),ae,w8 hx,ae,g,ae,oi,ae,ni,ae];cases bW l[j].1 f.1 with
   |true=>rw[zu rfl];simp only[ai,zY,aJ,ae];rw[aG om]
   |false=>simp only[ai,jO,aM,ae];rw[aG om,aG om];rfl
  cases he:bW l[j].1 f.1 with
  |true=>rw[he,zu rfl] at step dt;rw[cY step];exact ih (j+1) i a om ha om (by rw[h1,dt,zv]) hd
  |false=>
   rw[he] at step dt;rw[cY step];refine ih (j+1) (i+1) _ om (by rw[List.length_set];exact ha) om ?_ ?_
   ·rw[dt,<-h1,Zl,List.getElem?_set_self om,List.take_set_of_le om];rfl
   ·rw[List.drop_set_of_lt om];exact hd
theorem zdf(n:Bool)(f:af)(l:List af)(hl:l.length<=1000000):Ck (f,⟨n,l⟩,())=some (⟨n,ej l f.1⟩,()):=by
 have⟨r,h1,h2⟩:=z7t n l f hl l.length 0 om (fun x hx=>by rw[List.take_zero] at hx;cases hx);have h1:aI pP (⟨n,l⟩,f,aa l,0,())=some (r,()):=h1;have e:Ck (f,⟨n,l⟩,())=_:=abH f.1 f.2.1 f.2.2 ⟨n,l⟩;have e2:Cj (⟨n,l⟩,f,())=_:=abG ⟨n,l⟩ f.1 f.2.1 f.2.2;rw[e,e2,h1,ae];rcases h2 with ⟨rfl,h2⟩|⟨j,x,rfl,h3,h4,h5⟩
 ·rw[mo,aM,qvj h2]
 ·have hj:j<l.length:=by grind
  rw[cZ om,aJ,aG om];refine zde f n l hl (l.length-(j+1)) (j+1) j l om rfl om ?_ rfl;rw[qvk h3,zu h4,zv,qvj h5]
theorem Xm(l:List af)(op:List Int):(ej l op).length<=l.length:=List.length_filter_le ..
theorem gW{l:List af}{op:List Int}{x:af}:x∈ej l op↔x∈l/\x.1≠op:=by
 unfold ej;rw[List.mem_filter];have:(!bW x.1 op)=true↔x.1≠op:=by rw[ZG,<-Bool.not_eq_true,zki]
 rw[this]
theorem z7u{x:af}(h:gF x):DJ x=true:=by unfold DJ;simp[Bool.and_eq_true,decide_eq_true_eq,List.all_eq_true];exact⟨⟨⟨h.1,h.2.1⟩,h.2.2.1⟩,h.2.2.2⟩
theorem qsf{l:List af}(hp:l.Pairwise fun x y=>x.1≠y.1)(f:af):(ej l f.1++[f]).Pairwise fun x y=>x.1≠y.1:=by rw[List.pairwise_append];refine⟨hp.sublist List.filter_sublist,List.pairwise_singleton ..,fun x hx y hy=>?_⟩;rw[zJ.1 hy];exact(gW.1 hx).2
theorem z7v{l:List af}(hp:l.Pairwise fun x y=>x.1≠y.1){x y:af}(hx:x∈l)(hy:y∈l)(e:x.1=y.1):x=y:=by
 induction hp with
 |nil=>cases hx
 |cons h1 _ ih=>
  rcases zA.1 hx with ex|hx
  ·rcases zA.1 hy with ey|hy
   ·rw[ex,ey]
   ·rw[ex] at e;exact absurd e (h1 _ hy)
  ·rcases zA.1 hy with ey|hy
   ·rw[ey] at e;exact absurd e.symm (h1 _ hx)
   ·exact ih hx hy
theorem zdg{l:List af}(hp:l.Pairwise fun x y=>x.1≠y.1):QH l=true:=by
 unfold QH;rw[ju];intro x hx;rw[ju];intro y hy;by_cases e:x.1=y.1
 ·rw[z7v hp hx hy e];simp
 ·simp[e]
theorem z0p(n:Bool){l:List af}(h:gL l)(hn:n=true->l=[])(f:af)(hf:gF f)(hl:f.1.length<=1000000):∃q,pf (⟨n,l⟩,f,())=some (⟨q,(cX l f).1⟩,(cX l f).2,())/\(q=true->(cX l f).1=[]):=by
 have e:pf (⟨n,l⟩,f,())=_:=abI ⟨n,l⟩ f.1 f.2.1 f.2.2;rw[e,FQ n h,ae];unfold cX;by_cases hc:cT l=0
 ·have e0:ai (ah (cT l) 0)=false:=by rw[hc];rfl
  simp only[e0,aJ];rw[zj (by simp_all)];have⟨k1,k2,k3⟩:=Hv hc;have hg:∃q,pe (⟨n,l⟩,())=some (⟨q,l⟩,()):=by
   rw[Sy];cases hj:n with
   |true=>rw[aM,hn hj];exact⟨_,rfl⟩
   |false=>rw[aJ,im (by simp only[bL,aa,zQ];omega)];exact⟨_,rfl⟩
  have⟨q,hg⟩:=hg;have hr:=qqj f hf hl;have hd:=zdf q f l om;have dl:=Xm l f.1;rw[hg,ae,hd,ae,hr,ae];by_cases he:iu f=false\/(ej l f.1).length=400
  ·rw[zu he];refine⟨true,?_,fun _=>rfl⟩;have:aw (aL (ai (iu f)) (some true) (some (ah (aa (ej l f.1)) 400)))=fun g:Bool->Option (Sl af×Int×Unit)=>g true:=by
    funext g;cases hk:iu f with
    |false=>rfl
    |true=>
     rcases he with he|he
     ·rw[hk] at he;cases he
     ·simp[ai,Bool.not_true,aJ,ae];rw[show ah (aa (ej l f.1)) 400=true by unfold aa;rw[he];rfl]
   rw[this];rfl
  ·rw[zj he];have h1:iu f=true:=by
    cases hh:iu f with
    |true=>rfl
    |false=>exact absurd (.inl hh) he
   have h3:ah (aa (ej l f.1)) 400=false:=cZ (by unfold aa;omega);have np:=qsf (lK.1 k3) f;have hs:E9 (⟨aH q (cB [(f.1,f.2.1,f.2.2)]),app (ej l f.1) [(f.1,f.2.1,f.2.2)]⟩,())=some (⟨aH q false,AX (ej l f.1++[f])⟩,()):=by
    unfold E9;have g1:(app (ej l f.1) [(f.1,f.2.1,f.2.2)]).all DJ=true:=by
     rw[ju];intro x hx;rcases zD.1 hx with hx|hx
     ·exact z7u (h.1 x (gW.1 hx).1)
     ·rw[zJ.1 hx];exact z7u hf
    have g2:QH (app (ej l f.1) [(f.1,f.2.1,f.2.2)])=true:=zdg np;have g3:decide ((app (ej l f.1) [(f.1,f.2.1,f.2.2)]).length<4611686018427387904)=true:=zw (by
     show(ej l f.1++[_]).length<_;rw[zd,zB];omega)
    simp only[g1,g2,g3];rfl
   refine⟨aH q false,?_,fun hh=>by cases q<;>cases hh⟩;rw[h1];simp[ai,Bool.not_true,aJ,ae,h3];rw[im (by unfold bL aa;simp;omega),ae,hs];rfl
 ·have e0:ai (ah (cT l) 0)=true:=by rw[cZ hc];rfl
  simp[e0,aM]
  simp_all
theorem Xn(l:List af)(x:af):x∈AX l↔x∈l:=(ZO l _).mem_iff
theorem qnv(l:List af):(AX l).length=l.length:=ZE l
theorem z7w{l:List af}(h:gL l){f:af}(hf:gF f)(hl:f.1.length<=1000000):gL (cX l f).1:=by
 unfold cX;by_cases hc:cT l=0
 ·rw[zj (by simpa using hc)];by_cases he:iu f=false\/(ej l f.1).length=400
  ·rw[zu he];exact⟨(fun x hx=>by cases hx),(fun x hx=>by cases hx),zC _⟩
  ·rw[zj he];have dl:=Xm l f.1;have:=(Hv hc).1;have hm:∀x,x∈AX (ej l f.1++[f])->x∈l\/x=f:=fun x hx=>by
    rcases zD.1 ((Xn _ x).1 hx) with hx|hx
    ·exact .inl (gW.1 hx).1
    grind
   refine⟨fun x hx=>?_,fun x hx=>?_,?_⟩
   ·rcases hm x hx with hx|rfl
    ·exact h.1 x hx
    ·exact hf
   ·rcases hm x hx with hx|rfl
    ·exact h.2.1 x hx
    ·exact hl
   ·show(AX (ej l f.1++[f])).length<=_;rw[qnv,zd,zB];omega
 ·rw[zu hc];exact⟨(fun x hx=>by cases hx),(fun x hx=>by cases hx),zC _⟩
theorem zkj{l:List af}(hl:l.length<400)(f:af):((cX l f).2=0↔cT l=0/\iu f=true)/\((cX l f).2=0->cX l f=(AX (ej l f.1++[f]),0)/\cT (cX l f).1=0/\(cX l f).1.length<=l.length+1):=by
 have dl:=Xm l f.1;unfold cX;by_cases hc:cT l=0
 ·rw[zj (by simpa using hc)];cases hr:iu f with
  |false=>grind
  |true=>
   rw[zj (by rintro(h|h);cases h;omega)];obtain⟨k1,k2,k3⟩:=Hv hc;have np:=qsf (lK.1 k3) f;have he:(AX (ej l f.1++[f])).length=(ej l f.1).length+1:=by rw[qnv,zd,zB]
   refine⟨⟨fun _=>⟨hc,rfl⟩,fun _=>rfl⟩,fun _=>⟨rfl,z0j (by show(AX _).length<=400;omega) (fun x hx=>?_) ?_,by show(AX _).length<=_;omega⟩⟩
   ·rcases zD.1 ((Xn _ x).1 hx) with hx|hx
    ·exact k2 x (gW.1 hx).1
    grind
   ·exact((ZO _ _).pairwise_iff (fun h=>Ne.symm h)).2 np
 grind
end Fn
end Ev