/- Layers 4 and 7 in plain words: fixities; a parser, a lexer; what the reference says of them. No statement of its own about the program. -/
import Derived.Test.YtakmoaimmdheeaaGreatDoorPlainA
import Derived.Laws.RangeAny
namespace Ev
namespace Fx
section
variable (lv sd:Nat→Int)
def LB(o x:Nat):Prop:=lv o<lv x\/(lv o=lv x/\sd o<0/\sd x<0)
def RB(o x:Nat):Prop:=lv o<lv x\/(lv o=lv x/\0<sd o/\0<sd x)
inductive B:Nat->Nat->List Int->Prop
 |nil (a:Nat):B a a [-1-(a:Int)]
 |node (a r b:Nat) (x y:List Int):a<=r->r<b->(∀i,a<=i->i<r->LB lv sd r i)->(∀i,r<i->i<b->RB lv sd r i)->B a r x->B (r+1) b y->B a b ((r:Int)::(x++y))
variable {lv sd}
theorem RB.trans{a b c:Nat}(h1:RB lv sd a b)(h2:RB lv sd b c):RB lv sd a c:=by
 unfold RB at*
 rcases h1 with h1|⟨h1,h3,h4⟩<;>rcases h2 with h2|⟨h2,h5,h6⟩
 ·exact .inl om
 ·exact .inl om
 ·exact .inl om
 ·exact .inr ⟨by omega,h3,h6⟩
theorem qr5{a b r q:Nat}(hr:a<=r/\r<b)(hq:a<=q/\q<b)(h1:∀i,a<=i->i<r->LB lv sd r i)(h2:∀i,r<i->i<b->RB lv sd r i)(h3:∀i,a<=i->i<q->LB lv sd q i)(h4:∀i,q<i->i<b->RB lv sd q i):r=q:=by
 rcases Nat.lt_trichotomy r q with h|h|h
 ·have e1:=h2 q h hq.2;have e2:=h3 r hr.1 h;unfold RB at e1;unfold LB at e2;omega
 ·exact h
 ·have e1:=h4 r h hr.2;have e2:=h1 q hq.1 h;unfold RB at e1;unfold LB at e2;omega
theorem B.unique{a b:Nat}{x y:List Int}(h:B lv sd a b x)(h':B lv sd a b y):x=y:=by
 induction h generalizing y with
 |nil a=>cases h' with
  |nil=>rfl
  |node _ r _ _ _ h1 h2=>omega
 |node a r b x1 x2 h1 h2 h3 h4 _ _ il im=>
  cases h' with
  |nil=>omega
  |node _ q _ _ _ g1 g2 g3 g4 g5 g6=>obtain rfl:=qr5 ⟨h1,h2⟩ ⟨g1,g2⟩ h3 h4 g3 g4;rw[il g5,im g6]
theorem B.yJ{a b:Nat}{x:List Int}(h:B lv sd a b x){o k:Nat}(h1:a<=o)(h2:o<k)(h3:k<b)(he:lv o=lv k)(hb:∀i,o<i->i<k->lv k<=lv i)(hl:¬(sd o<0/\sd k<0))(hr:¬(0<sd o/\0<sd k)):False:=by
 induction h with
 |nil a=>omega
 |node a r b x1 x2 g1 g2 g3 g4 _ _ il im=>
  rcases Nat.lt_trichotomy r o with h|h|h
  ·exact im om h3
  ·subst h;have:=g4 k h2 h3;unfold RB at this;omega
  ·rcases Nat.lt_trichotomy r k with h'|h'|h'
   ·have e1:=g3 o h1 h;have e2:=g4 k h' h3;have e3:=hb r h h';unfold LB at e1;unfold RB at e2;omega
   ·subst h';have:=g3 o h1 h;unfold LB at this;omega
   ·exact il h1 h'
def lo:List (Nat×List Int)->Nat
 |[]=>0
 |(o,_)::_=>o+1
variable (lv sd)
def Inv:List (Nat×List Int)->List Int->Nat->Prop
 |[],cur,k=>B lv sd 0 k cur
 |(o,P)::S,cur,k=>o<k/\B lv sd (o+1) k cur/\(∀x,o<x->x<k->RB lv sd o x)/\(∀x,lo S<=x->x<o->LB lv sd o x)/\Inv S P o/\(∀p,p∈S->∀x,p.1<x->x<k->RB lv sd p.1 x)
variable {lv sd}
theorem Inv.B{S:List (Nat×List Int)}{cur:List Int}{k:Nat}(h:Inv lv sd S cur k):Fx.B lv sd (lo S) k cur:=by
 cases S with
 |nil=>exact h
 |cons p S=>exact h.2.1
theorem Inv.pop{o k:Nat}{P cur:List Int}{S:List (Nat×List Int)}(h:Inv lv sd ((o,P)::S) cur k):Inv lv sd S ((o:Int)::(P++cur)) k:=by
 obtain⟨h1,h2,h3,h4,h5,h6⟩:=h;have hb:=h5.B;cases S with
 |nil=>exact .node 0 o k P cur (Nat.zero_le _) h1 (fun i h7 h8=>h4 i h7 h8) h3 hb h2
 |cons p S=>obtain⟨o',P'⟩:=p;obtain⟨g1,g2,g3,g4,g5,g6⟩:=h5;refine⟨by omega,.node (o'+1) o k P cur om h1 (fun i h7 h8=>h4 i h7 h8) h3 hb h2,fun x h7 h8=>h6 _ (zf ..) x h7 h8,g4,g5,fun p hp=>h6 p (zh _ hp)⟩
def uP(lv sd:Nat->Int)(S:List (Nat×List Int))(k:Nat):Prop:=∀x,lo S<=x->x<k->LB lv sd k x
theorem uP.pop{o k:Nat}{P cur:List Int}{S:List (Nat×List Int)}(h:Inv lv sd ((o,P)::S) cur k)(hm:uP lv sd ((o,P)::S) k)(hc:lv k<lv o\/(lv k=lv o/\sd k<0/\sd o<0)):uP lv sd S k:=by
 obtain⟨h1,h2,h3,h4,h5,h6⟩:=h;intro x hx hk;rcases Nat.lt_trichotomy x o with h|h|h
 ·have:=h4 x hx h;unfold LB at*
  omega
 ·subst h;unfold LB;omega
 ·exact hm x h hk
theorem Inv.push{k:Nat}{cur:List Int}{S:List (Nat×List Int)}(h:Inv lv sd S cur k)(hm:uP lv sd S k)(ht:∀p,S.head?=some p->RB lv sd p.1 k):Inv lv sd ((k,cur)::S) [-2-(k:Int)] (k+1):=by
 have all:∀p,p∈S->∀x,p.1<x->x<k->RB lv sd p.1 x:=by
  cases S with
  |nil=>intro p hp;cases hp
  |cons q S=>
   obtain⟨h1,h2,h3,h4,h5,h6⟩:=h;intro p hp;rcases zw.1 hp with rfl|hp
   ·exact h3
   ·exact h6 p hp
 refine⟨by omega,?_,fun x h1 h2=>by omega,hm,h,fun p hp x h1 h2=>?_⟩
 ·have:=B.nil (lv:=lv) (sd:=sd) (k+1);have e:(-1-((k+1:Nat):Int))=-2-(k:Int):=om
  rw[e] at this;exact this
 ·by_cases hx:x<k
  ·exact all p hp x h1 hx
  ·obtain rfl:x=k:=om
   cases S with
   |nil=>cases hp
   |cons q S=>
    have hq:=ht q rfl;rcases zw.1 hp with rfl|hp
    ·exact hq
    ·have:=all p (zh _ hp);obtain⟨g1,g2,g3,g4,g5,g6⟩:=h;have h7:p.1<q.1:=by
      cases S with
      |nil=>cases hp
      |cons q' S'=>
       clear this all ht hq h1
       have key:∀(S:List (Nat×List Int)) (c:List Int) (m:Nat),Inv lv sd S c m->∀p,p∈S->p.1<m:=by
        intro S
        induction S with
        |nil=>intro c m _ p hp;cases hp
        |cons s S ih=>
         intro c m h p hp;obtain⟨e1,_,_,_,e5,_⟩:=h;rcases zw.1 hp with rfl|hp
         ·exact e1
         ·have:=ih _ _ e5 p hp;omega
       exact key _ _ _ g5 p hp
     exact(this q.1 h7 g1).trans hq
theorem Inv.yJ{o k n:Nat}{P cur:List Int}{S:List (Nat×List Int)}(h:Inv lv sd ((o,P)::S) cur k)(hm:uP lv sd ((o,P)::S) k)(hk:k<n)(he:lv o=lv k)(hl:¬(sd o<0/\sd k<0))(hr:¬(0<sd o/\0<sd k))(x:List Int):¬Fx.B lv sd 0 n x:=fun hb=>by obtain⟨h1,_⟩:=h;refine hb.yJ (Nat.zero_le o) h1 hk he (fun i h3 h4=>?_) hl hr;have:=hm i h3 h4;unfold LB at this;omega
theorem uP.start{k:Nat}{S:List (Nat×List Int)}(h:lo S=k):uP lv sd S k:=fun x h1 h2=>by omega
end
end Fx
end Ev

namespace Ev
namespace Fx
section
variable (lv sd:Nat→Int)
def uQ(k:Nat):List (Nat×List Int)->List Int->Option (List (Nat×List Int)×List Int)
 |[],cur=>some ([],cur)
 |(o,P)::S,cur=>
  if lv o<lv k then some ((o,P)::S,cur)
  else if lv k<lv o then uQ k S ((o:Int)::(P++cur))
  else if sd o≠sd k\/sd k=0 then none
  else if 0<sd k then some ((o,P)::S,cur)
  else uQ k S ((o:Int)::(P++cur))
def vp:Nat->Nat->List (Nat×List Int)->List Int->Option (List (Nat×List Int)×List Int)
 |0,_,S,cur=>some (S,cur)
 |m+1,k,S,cur=>match uQ lv sd k S cur with
  |none=>none
  |some (S',gP)=>vp m (k+1) ((k,gP)::S') [-2-(k:Int)]
def GA:List (Nat×List Int)->List Int->List Int
 |[],cur=>cur
 |(o,P)::S,cur=>GA S ((o:Int)::(P++cur))
def fU(n:Nat):Option (List Int):=match vp lv sd n 0 [] [-1] with
 |none=>none
 |some (S,cur)=>some (GA S cur)
variable {lv sd}
theorem qC{k:Nat}(hs:∀o,o<=k->sd o=-1\/sd o=0\/sd o=1):∀(S:List (Nat×List Int)) (cur:List Int),Inv lv sd S cur k->uP lv sd S k->match uQ lv sd k S cur with
  |none=>∀n,k<n->∀x,¬B lv sd 0 n x
  |some (S',gP)=>Inv lv sd S' gP k/\uP lv sd S' k/\∀p,S'.head?=some p->RB lv sd p.1 k:=by
 intro S
 induction S with
 |nil=>intro cur h hm;exact⟨h,hm,fun p hp=>by cases hp⟩
 |cons s S ih=>
  obtain⟨o,P⟩:=s;intro cur h hm;have hc:o<k:=h.1;have h1:=hs o om;have h2:=hs k (Nat.le_refl _);unfold uQ;by_cases c1:lv o<lv k
  ·rw[if_pos c1];refine⟨h,hm,fun p hp=>?_⟩;injection hp with hp;subst hp;exact .inl c1
  ·rw[if_neg c1];by_cases c2:lv k<lv o
   ·rw[if_pos c2];exact ih _ h.pop (hm.pop h (.inl c2))
   ·rw[if_neg c2];have he:lv o=lv k:=om
    by_cases c3:sd o≠sd k\/sd k=0
    ·rw[if_pos c3];intro n hn x;exact h.yJ hm hn he om om x
    ·rw[if_neg c3];by_cases c4:0<sd k
     ·rw[if_pos c4];refine⟨h,hm,fun p hp=>?_⟩;injection hp with hp;subst hp;have e2:sd o=sd k:=om
      exact .inr ⟨he,(by show 0<sd o;omega),c4⟩
     ·rw[if_neg c4];exact ih _ h.pop (hm.pop h (.inr ⟨he.symm,by omega,by omega⟩))
theorem z3m{n:Nat}(hs:∀o,o<n->sd o=-1\/sd o=0\/sd o=1):∀(m k:Nat) (S:List (Nat×List Int)) (cur:List Int),k+m=n->Inv lv sd S cur k->lo S=k->match vp lv sd m k S cur with
  |none=>∀x,¬B lv sd 0 n x
  |some (S',gP)=>Inv lv sd S' gP n:=by
 intro m
 induction m with
 |zero=>
  intro k S cur hk h _;obtain rfl:k=n:=om
  exact h
 |succ m ih=>
  intro k S cur hk h hl;unfold vp;have hw:=qC (lv:=lv) (sd:=sd) (k:=k) (fun o ho=>hs o om) S cur h (uP.start hl);cases hc:uQ lv sd k S cur with
  |none=>rw[hc] at hw;exact hw n om
  |some q=>obtain⟨S',gP⟩:=q;rw[hc] at hw;obtain⟨g1,g2,g3⟩:=hw;exact ih (k+1) _ _ om (g1.push g2 g3) rfl
theorem qkg{n:Nat}:∀(S:List (Nat×List Int)) (cur:List Int),Inv lv sd S cur n->B lv sd 0 n (GA S cur)
 |[],_,h=>h
 |(_,_)::S,_,h=>qkg S _ h.pop
theorem ky{n:Nat}(hs:∀o,o<n->sd o=-1\/sd o=0\/sd o=1):match fU lv sd n with
  |none=>∀x,¬B lv sd 0 n x
  |some x=>B lv sd 0 n x:=by
 have h:=z3m (lv:=lv) (sd:=sd) hs n 0 [] [-1] om (show B lv sd 0 0 [-1] from B.nil 0) rfl;unfold fU;cases hc:vp lv sd n 0 [] [-1] with
 |none=>rw[hc] at h;exact h
 |some q=>obtain⟨S,cur⟩:=q;rw[hc] at h;exact qkg S cur h
def rowOf:Nat->Nat->List Int
 |a,0=>[-1-(a:Int)]
 |a,m+1=>(-1-(a:Int))::(a:Int)::rowOf (a+1) m
theorem B.len{a b:Nat}{x:List Int}(h:B lv sd a b x):x.length=2*(b-a)+1:=by
 induction h with
 |nil a=>simp
 |node a r b x y h1 h2 _ _ _ _ il im=>rw[zj,zd,il,im];omega
end
end Fx
end Ev

namespace Ev
namespace Fx
section
variable {lv sd:Nat→Int}
def St(lv sd:Nat->Int)(low:Int)(a k:Nat)(first last n left right:Int):Prop:=
 (n=0/\left=0/\right=0/\first=-1/\∀i,a<=i->i<k->lv i≠low)\/
 (∃f l:Nat,first=(f:Int)/\last=(l:Int)/\a<=f/\f<=l/\l<k/\lv f=low/\lv l=low/\(∀i,a<=i->i<k->lv i=low->f<=i/\i<=l)/\1<=n/\(n=1->f=l)/\(1<n->f<l)/\
  (left=n↔∀i,a<=i->i<k->lv i=low->sd i<0)/\left<=n/\(right=n↔∀i,a<=i->i<k->lv i=low->0<sd i)/\right<=n)
end
end Fx
end Ev

namespace Ev
open Go
namespace Fn
abbrev ar:Type:=(List Int)×Int×Int
def gF(x:ar):Prop:=(∀b,b∈x.1->0<=b/\b<=255)/\x.1.length<=9223372036854775807/\(-9223372036854775808<=x.2.1/\x.2.1<=9223372036854775807)/\(-9223372036854775808<=x.2.2/\x.2.2<=9223372036854775807)
def lj(x:ar):Bool:=da x.1&&decide (0<=x.2.1/\x.2.1<=9)&&decide (-1<=x.2.2/\x.2.2<=1)
theorem zao(b:Bool)(n m:Int):aj (az b (some (cK 0 n)) (some false)) (fun x1=>aj (az x1 (some (cK n 9)) (some false)) (fun x2=>aj (az x2 (some (cK (-1) m)) (some false)) (fun x3=>aj (az x3 (some (cK m 1)) (some false)) (fun x4=>some (x4,())))))=some (b&&decide (0<=n/\n<=9)&&decide (-1<=m/\m<=1),()):=by
 have e1:decide (0<=n/\n<=9)=(cK 0 n&&cK n 9):=by unfold cK;rw[Bool.decide_and]
 have e2:decide (-1<=m/\m<=1)=(cK (-1) m&&cK m 1):=by unfold cK;rw[Bool.decide_and]
 rw[e1,e2];cases b<;>cases cK 0 n<;>cases cK n 9<;>cases cK (-1) m<;>cases cK m 1<;>rfl
theorem qyz(x:ar)(hx:gF x):oi (x,())=some (lj x,()):=by obtain⟨s,n,m⟩:=x;rw[Sy,Um s hx.1,af];exact zao _ n m
theorem qvt(x:ar)(hx:gF x)(_:x.1.length<=1000000):oi (x,())=some (lj x,()):=qyz x hx
def jq(l:List ar)(op:List Int):Option ar:=l.find? fun x=>decide (x.1=op)
theorem zcg(x:ar)(op:List Int):pQ (x,op,())=some (eU x.1 op,()):=SC x.1 x.2.1 x.2.2 op
theorem z3n(n:Bool)(l:List ar)(op:List Int)(hl:l.length<=1000000):∀(m k:Nat),k+m=l.length->∃r,aX nC (⟨n,l⟩,op,(l.length:Int),(k:Int),())=some (r,())/\((r=-1/\jq (l.drop k) op=none)\/∃j x:_,r=((j:Nat):Int)/\l[j]?=some x/\jq (l.drop k) op=some x):=by
 intro m
 induction m with
 |zero=>intro k hk;refine⟨-1,cw ?_,.inl ⟨rfl,by rw[zC om];rfl⟩⟩;unfold nC;simp only;rw[bP,if_neg om]
 |succ m ih=>
  intro k hk;have hc:k<l.length:=om
  have hf:jq (l.drop k) op=if l[k].1=op then some l[k] else jq (l.drop (k+1)) op:=by rw[kI hc];unfold jq;rw[List.find?_cons];by_cases h:l[k].1=op<;>simp[h]
  have step:nC (⟨n,l⟩,op,(l.length:Int),(k:Int),())=if l[k].1=op then some (.inr ((k:Int),())) else some (.inl (⟨n,l⟩,op,(l.length:Int),((k+1:Nat):Int),())):=by unfold nC;simp only;rw[bP,if_pos om,dG (zg hc),af,zcg,af,Bi,bK om]
  by_cases h:l[k].1=op
  ·rw[if_pos h] at step hf;exact⟨k,cw step,.inr ⟨k,l[k],rfl,zg hc,hf⟩⟩
  ·rw[if_neg h] at step hf;obtain⟨r,h1,h2⟩:=ih (k+1) om;rw[hf];exact⟨r,by rw[ew step,h1],h2⟩
theorem find_spec(n:Bool)(l:List ar)(op:List Int)(hl:l.length<=1000000):kX (⟨n,l⟩,op,())=some (match jq l op with|some x=>(x,true,())|none=>(([],0,0),false,())):=by
 obtain⟨r,h1,h2⟩:=z3n n l op hl l.length 0 om;rw[List.drop_zero] at h2;have h1:aX nC (⟨n,l⟩,op,ae l,0,())=some (r,()):=h1;rw[SE,SD,h1,af,bP];rcases h2 with ⟨rfl,h2⟩|⟨j,x,rfl,h3,h4⟩
 ·rw[if_pos dc,h2]
 ·rw[if_neg om,dG h3,af,h4]
def gL(l:List ar):Prop:=(∀x,x∈l->gF x)/\(∀x,x∈l->x.1.length<=1000000)/\l.length<=1000000
theorem gL.take{l:List ar}(h:gL l)(k:Nat):gL (l.take k):=⟨fun x hx=>h.1 x (List.mem_of_mem_take hx),fun x hx=>h.2.1 x (List.mem_of_mem_take hx),by rw[zQ];have:=h.2.2;omega⟩
theorem qz0(n:Bool){l:List ar}(h:gL l):∀(m k:Nat),k+m=l.length->∃r,aX nB (⟨n,l⟩,(l.length:Int),(k:Int),())=some (r,())/\(0<=r↔(l.drop k).any (fun x=>!lj x)=true):=by
 intro m;have hl:=h.2.2
 induction m with
 |zero=>intro k hk;refine⟨-1,cw ?_,by rw[zC om];simp⟩;unfold nB;simp only;rw[bP,if_neg om]
 |succ m ih=>
  intro k hk;have he:k<l.length:=om
  rw[kI he];have hr:=qvt l[k] (h.1 _ (List.getElem_mem he)) (h.2.1 _ (List.getElem_mem he));have hc:pP (l[k],())=some (!lj l[k],()):=by have:=Sz l[k].1 l[k].2.1 l[k].2.2;have hr:oi ((l[k].1,l[k].2.1,l[k].2.2),())=some (lj l[k],()):=hr;rw[hr,af] at this;exact this
  have step:nB (⟨n,l⟩,(l.length:Int),(k:Int),())=if lj l[k]=false then some (.inr ((k:Int),())) else some (.inl (⟨n,l⟩,(l.length:Int),((k+1:Nat):Int),())):=by unfold nB;simp only;rw[bP,if_pos om,dG (zg he),af,hc,af,bK om];cases lj l[k]<;>rfl
  cases hb:lj l[k] with
  |false=>rw[if_pos hb] at step;exact⟨k,cw step,by simp[hb,-List.getElem_cons_drop]⟩
  |true=>rw[if_neg (by rw[hb];decide)] at step;obtain⟨r,h1,h2⟩:=ih (k+1) om;exact⟨r,by rw[ew step,h1],by rw[h2];simp[hb,-List.getElem_cons_drop]⟩
def KR(l:List ar)(k:Nat):Bool:=match l[k]? with
 |some x=>(jq (l.take k) x.1).isSome
 |none=>false
def yK(l:List ar):Nat->Nat->Bool
 |0,_=>false
 |m+1,k=>KR l k||yK l m (k+1)
def fb(l:List ar):Int:=if 400<l.length\/l.any (fun x=>!lj x)=true then 40 else if yK l l.length 0=true then 41 else 0
theorem z3o{x:ar}(h:lj x=true):x.1≠[]:=by intro e;unfold lj da oD at h;rw[e] at h;simp at h
theorem AI{l:List ar}{op:List Int}{x:ar}(h:jq l op=some x):x∈l/\x.1=op:=⟨List.mem_of_find?_eq_some h,by have:=List.find?_some h;simpa using this⟩
theorem qvu(n1 n2:Bool){l:List ar}(h:gL l)(hr:∀x,x∈l->lj x=true):∀(m k:Nat),k+m=l.length->aX qe (⟨n1,l⟩,⟨n2,l⟩,(l.length:Int),(k:Int),())=some (if yK l m k=true then 41 else 0,()):=by
 intro m;have hl:=h.2.2
 induction m with
 |zero=>intro k hk;refine cw ?_;unfold qe;simp only;rw[bP,if_neg om];rfl
 |succ m ih=>
  intro k hk;have hc:k<l.length:=om
  have hg:=zg hc;have hd:KR l k=(jq (l.take k) l[k].1).isSome:=by unfold KR;rw[hg]
  have hf:=find_spec n1 (l.take k) l[k].1 (h.take k).2.2;have step:qe (⟨n1,l⟩,⟨n2,l⟩,(l.length:Int),(k:Int),())=if KR l k=true then some (.inr (41,())) else some (.inl (⟨n1,l⟩,⟨n2,l⟩,(l.length:Int),((k+1:Nat):Int),())):=by
   unfold qe;simp only;rw[bP,if_pos om,dG hg,af,DQ om,af,hf,af,bK om,hd];cases he:jq (l.take k) l[k].1 with
   |none=>rfl
   |some x=>have hx:=z3o (hr x (List.mem_of_mem_take (AI he).1));have:eU x.1 []=false:=beq_eq_false_iff_ne.2 hx;simp only[this];rfl
  unfold yK;cases hb:KR l k with
  |true=>rw[hb,if_pos rfl] at step;rw[cw step];rfl
  |false=>rw[hb,if_neg Bool.false_ne_true] at step;rw[ew step,ih (k+1) om,Bool.false_or]
theorem Ik(n:Bool){l:List ar}(h:gL l):mH (⟨n,l⟩,())=some (fb l,()):=by
 have hl:=h.2.2;obtain⟨r,h1,h2⟩:=qz0 n h l.length 0 om;rw[List.drop_zero] at h2;have h1:aX nB (⟨n,l⟩,ae l,0,())=some (r,()):=h1;rw[SF,SB,SA,h1,af,af];have hc:cK 0 r=l.any (fun x=>!lj x):=by rw[Bool.eq_iff_iff,<-h2];exact decide_eq_true_iff
 rw[hc,bP];unfold fb;by_cases h4:400<l.length
 ·rw[if_pos (by show(400:Int)<(l.length:Int);omega),af,if_pos (.inl h4)];rfl
 ·rw[if_neg (by show ¬(400:Int)<(l.length:Int);omega),af];cases ha:l.any (fun x=>!lj x) with
  |true=>rw[if_pos (.inr rfl)];rfl
  |false=>
   rw[aD,if_neg (by simp[h4])];have hr:∀x,x∈l->lj x=true:=fun x hx=>by have:=List.any_eq_false.1 ha x hx;simpa using this
   exact qvu n n h hr l.length 0 om
theorem N5{l:List ar}(h:fb l=0):l.length<=400/\(∀x,x∈l->lj x=true)/\yK l l.length 0=false:=by
 unfold fb at h;split at h
 ·cases h
 ·rename_i h1;split at h
  ·cases h
  ·rename_i h2;refine⟨by have:¬400<l.length:=fun e=>h1 (.inl e);omega,fun x hx=>?_,by simpa using h2⟩;have:¬l.any (fun x=>!lj x)=true:=fun e=>h1 (.inr e);have:=List.any_eq_false.1 (Bool.eq_false_iff.2 this) x hx;simpa using this
theorem qz2{n:Nat}(h:n<=1000000):sv (⟨true,[]⟩,(n:Int),())=some (⟨decide ((n:Int)=0),[]⟩,()):=by unfold sv;have h1:decide (0<=(n:Int))=true:=zu om;have h2:decide ((n:Int)<=1000000)=true:=zu om;simp only[h1,h2];rfl
def lX(ls:List (Sl Int)):Nat:=(ls.map fun s=>s.l.length).sum
theorem qou(s:Sl Int)(ls:List (Sl Int)):lX (s::ls)=s.l.length+lX ls:=by simp[lX]
theorem qz3(b:Bool)(ls:List (Sl Int))(hn:ls.length<=1000):∀(m k:Nat) (out:Sl Int),k+m=ls.length->out.l.length+lX (ls.drop k)<=1000000->∃q,aX qm (⟨b,ls⟩,(ls.length:Int),(k:Int),out,())=some (.inr (⟨q,out.l++((ls.drop k).map (·.l)).flatten⟩,())):=by
 intro m
 induction m with
 |zero=>intro k out hk ho;refine⟨out.nil,cw ?_⟩;unfold qm;simp only;rw[bP,if_neg om,zC om];simp
 |succ m ih=>
  intro k out hk ho;have hc:k<ls.length:=om
  rw[kI hc,qou] at ho;obtain⟨q,hq⟩:=ih (k+1) ⟨aF out.nil (cj ls[k].l),out.l++ls[k].l⟩ om (by show(out.l++ls[k].l).length+_<=_;rw[zd];omega);refine⟨q,?_⟩;have step:qm (⟨b,ls⟩,(ls.length:Int),(k:Int),out,())=some (.inl (⟨b,ls⟩,(ls.length:Int),((k+1:Nat):Int),⟨aF out.nil (cj ls[k].l),out.l++ls[k].l⟩,())):=by unfold qm;simp only;rw[bP,if_pos om,dG (zg hc),af,o4 (by unfold aQ ae;omega),af,bK om];rfl
  rw[ew step,hq,kI hc,zJ,List.flatten_cons,zo]
theorem qz4(b:Bool)(ls:List (Sl Int))(hn:ls.length<=1000)(ht:lX ls<=1000000):∀(m k sz:Nat),k+m=ls.length->sz+lX (ls.drop k)=lX ls->∃q,aX qn (⟨b,ls⟩,(sz:Int),⟨b,ls⟩,(ls.length:Int),(k:Int),())=some (⟨q,(ls.map (·.l)).flatten⟩,()):=by
 intro m
 induction m with
 |zero=>
  intro k sz hk hs;rw[zC om] at hs;have hs:sz=lX ls:=by simpa[lX] using hs
  obtain⟨q,hq⟩:=qz3 b ls hn ls.length 0 ⟨decide ((sz:Int)=0),[]⟩ om (by rw[List.drop_zero];simpa using ht);refine⟨q,cw ?_⟩;unfold qn;simp only;rw[bP,if_neg om,qz2 om,af];exact hq.trans (by rw[List.drop_zero];rfl)
 |succ m ih=>
  intro k sz hk hs;have hc:k<ls.length:=om
  rw[kI hc,qou] at hs;obtain⟨q,hq⟩:=ih (k+1) (sz+ls[k].l.length) om om;refine⟨q,?_⟩;have ea:aG .i64 (sz:Int) (ae ls[k].l)=((sz+ls[k].l.length:Nat):Int):=by unfold ae;rw[pD om om];omega
  have c1:aK ((sz+ls[k].l.length:Nat):Int) 0=false:=zn om;have step:qn (⟨b,ls⟩,(sz:Int),⟨b,ls⟩,(ls.length:Int),(k:Int),())=some (.inl (⟨b,ls⟩,((sz+ls[k].l.length:Nat):Int),⟨b,ls⟩,(ls.length:Int),((k+1:Nat):Int),())):=by unfold qn;simp only;rw[bP,if_pos om,dG (zg hc),af,ea,c1,aD,af,bK om]
  rw[ew step,hq]
theorem qr6(b:Bool)(ls:List (Sl Int))(hn:ls.length<=1000)(ht:lX ls<=1000000):∃q,sw (⟨b,ls⟩,())=some (⟨q,(ls.map (·.l)).flatten⟩,()):=by rw[TG];exact qz4 b ls hn ht ls.length 0 0 om (by rw[List.drop_zero,zD])
theorem N6{a b:Nat}(h:b<=a)(ha:a<=1000000000):bU .i64 (a:Int) (b:Int)=((a-b:Nat):Int):=by rw[nv om om];omega
theorem zap(b1 b2:Bool)(O:List Int)(o:Int)(Q:List (Sl Int))(p2 p1:Sl Int)(hl:p2.l.length+p1.l.length<=100000)(hO:O.length<=1000)(hQ:Q.length<=1000):∃q,mN (⟨b1,O++[o]⟩,⟨b2,Q++[p2,p1]⟩,())=some (⟨b1,O⟩,⟨false,Q++[⟨q,o::(p2.l++p1.l)⟩]⟩,()):=by
 obtain⟨q,hq⟩:=qr6 false [⟨false,[o]⟩,p2,p1] (by show 3<=1000;decide) (by simp[lX];omega);refine⟨q,?_⟩;have l1:ae (O++[o])=((O.length+1:Nat):Int):=by simp[ae]
 have l2:ae (Q++[p2,p1])=((Q.length+2:Nat):Int):=by simp[ae]
 have s1:bU .i64 ((O.length+1:Nat):Int) 1=(O.length:Int):=by rw[show(1:Int)=((1:Nat):Int) from rfl,N6 om om,Nat.add_sub_cancel]
 have s2:bU .i64 ((Q.length+2:Nat):Int) 2=(Q.length:Int):=by rw[show(2:Int)=((2:Nat):Int) from rfl,N6 om om,Nat.add_sub_cancel]
 have s3:bU .i64 ((Q.length+2:Nat):Int) 1=((Q.length+1:Nat):Int):=by rw[show(1:Int)=((1:Nat):Int) from rfl,N6 om om];rfl
 have g1:(O++[o])[O.length]?=some o:=by simp
 have g2:(Q++[p2,p1])[Q.length]?=some p2:=by simp
 have g3:(Q++[p2,p1])[Q.length+1]?=some p1:=by simp
 have k1:bA (O++[o]) (O.length:Int)=some O.length:=nE (by simp);have k2:bA (Q++[p2,p1]) (Q.length:Int)=some Q.length:=nE (by simp);have k3:bA (Q++[p2,p1]) ((Q.length+1:Nat):Int)=some (Q.length+1):=nE (by simp);have c1:ef ((O.length+1:Nat):Int) (O.length:Int)=some O.length:=by unfold ef;rw[if_pos om];rfl
 have c2:ef ((Q.length+2:Nat):Int) (Q.length:Int)=some Q.length:=by unfold ef;rw[if_pos om];rfl
 have t1:aI (O++[o]) O.length=O:=List.take_left;have t2:aI (Q++[p2,p1]) Q.length=Q:=List.take_left;have he:(([⟨false,[o]⟩,p2,p1]:List (Sl Int)).map (·.l)).flatten=o::(p2.l++p1.l):=by simp
 rw[he] at hq;have fo:∀x:Sl Int,fit (aQ (ae Q) (ae [x]))=some ():=fun x=>o4 (by simp only[aQ,ae,List.length_singleton];omega);have hc:sw (⟨false,([⟨false,([o]:List Int)⟩,p2,p1]:List (Sl Int))⟩,())=some (⟨q,o::(p2.l++p1.l)⟩,()):=hq;rw[TH];simp only[l1,l2,s1,s2,s3,k1,k2,k3,af,vA g1,vA g2,vA g3,hc,c1,c2,iY,aU,t1,t2,fo,cj,List.isEmpty_cons,aD,app]
end Fn
open Fx (B Inv uP lo uQ vp GA fU)
namespace Fn
def gj(fs:List ar)(i:Nat):Int:=match fs[i]? with
 |some x=>x.2.1
 |none=>0
def dW(fs:List ar)(i:Nat):Int:=match fs[i]? with
 |some x=>x.2.2
 |none=>0
theorem DU{fs:List ar}{i:Nat}{x:ar}(h:fs[i]?=some x):gj fs i=x.2.1:=by unfold gj;rw[h]
theorem Cw{fs:List ar}{i:Nat}{x:ar}(h:fs[i]?=some x):dW fs i=x.2.2:=by unfold dW;rw[h]
def tp(S:List (Nat×List Int))(cur:List Int)(op:List Int)(pt:List (Sl Int)):Prop:=op.reverse=S.map (fun p=>(p.1:Int))/\pt.reverse.map (·.l)=cur::S.map (·.2)
theorem tp.pop{o:Nat}{P cur:List Int}{S:List (Nat×List Int)}{op:List Int}{pt:List (Sl Int)}(h:tp ((o,P)::S) cur op pt):∃O Q p2 p1,op=O++[(o:Int)]/\pt=Q++[p2,p1]/\p2.l=P/\p1.l=cur/\O.length=S.length/\Q.length=S.length/\∀q,q.l=(o:Int)::(P++cur)->tp S ((o:Int)::(P++cur)) O (Q++[q]):=by
 obtain⟨h1,h2⟩:=h;cases hr:op.reverse with
 |nil=>rw[hr] at h1;cases h1
 |cons a O'=>
  rw[hr,zJ] at h1;injection h1 with h3 h4;subst h3;cases hp:pt.reverse with
  |nil=>rw[hp] at h2;cases h2
  |cons p1 Q1=>
   rw[hp,zJ,zJ] at h2;injection h2 with h5 h6;cases Q1 with
   |nil=>cases h6
   |cons p2 Q'=>
    rw[zJ] at h6;injection h6 with h7 h8;have e1:op=O'.reverse++[(o:Int)]:=by have:=congrArg List.reverse hr;rw[List.reverse_reverse] at this;rw[this,List.reverse_cons]
    have e2:pt=Q'.reverse++[p2,p1]:=by have:=congrArg List.reverse hp;rw[List.reverse_reverse] at this;rw[this,List.reverse_cons,List.reverse_cons,zo];rfl
    have n1:O'.length=S.length:=by have:=congrArg List.length h4;simpa using this
    have n2:Q'.length=S.length:=by have:=congrArg List.length h8;simpa using this
    refine⟨O'.reverse,Q'.reverse,p2,p1,e1,e2,h7,h5,by rw[List.length_reverse,n1],by rw[List.length_reverse,n2],fun q hq=>⟨by rw[List.reverse_reverse,h4],?_⟩⟩;rw[List.reverse_append,List.reverse_reverse];show q.l::Q'.map (·.l)=_;rw[hq,h8]
theorem Inv.short{lv sd:Nat->Int}:∀{S:List (Nat×List Int)} {cur:List Int} {k:Nat},Inv lv sd S cur k->S.length<=k
 |[],_,_,_=>Nat.zero_le _
 |(o,P)::S,cur,k,h=>by have:=Inv.short h.2.2.2.2.1;have h1:=h.1;rw[zj];omega
theorem Inv.inside{lv sd:Nat->Int}{o k:Nat}{P cur:List Int}{S:List (Nat×List Int)}(h:Inv lv sd ((o,P)::S) cur k):P.length+cur.length<=2*k:=by have h1:=(Fx.Inv.B h.pop).len;rw[zj,zd] at h1;omega
theorem qz5(b1 b2:Bool){lv sd:Nat->Int}{o k:Nat}{P cur:List Int}{S:List (Nat×List Int)}(h:Inv lv sd ((o,P)::S) cur k)(hk:k<=400){op:List Int}{pt:List (Sl Int)}(hr:tp ((o,P)::S) cur op pt):∃qD b3 qE,mN (⟨b1,op⟩,⟨b2,pt⟩,())=some (⟨b1,qD⟩,⟨b3,qE⟩,())/\tp S ((o:Int)::(P++cur)) qD qE:=by obtain⟨O,Q,p2,p1,e1,e2,e3,e4,e5,e6,e7⟩:=hr.pop;have hs:=Inv.short h;rw[zj] at hs;have hi:=Inv.inside h;obtain⟨q,hq⟩:=zap b1 b2 O (o:Int) Q p2 p1 (by rw[e3,e4];omega) om om;refine⟨O,false,Q++[⟨q,(o:Int)::(p2.l++p1.l)⟩],by rw[e1,e2];exact hq,e7 _ (by rw[e3,e4])⟩
theorem qvv(b0 b1:Bool){fs:List ar}(hn:fs.length<=400){k:Nat}(hk:k<fs.length)(opt:List Int)(_hs:∀o,o<=k->dW fs o=-1\/dW fs o=0\/dW fs o=1):∀(S:List (Nat×List Int)) (cur:List Int) (op:List Int) (b2:Bool) (pt:List (Sl Int)),Inv (gj fs) (dW fs) S cur k->tp S cur op pt->∃qD b3 qE,aX qq ((k:Int),(fs.length:Int),(k:Int),⟨b0,fs⟩,opt,gj fs k,dW fs k,⟨b1,op⟩,⟨b2,pt⟩,())=some (match uQ (gj fs) (dW fs) k S cur with
    |none=>.inr (.inr (.inr (⟨true,[]⟩,43,())))
    |some _=>.inl ((k:Int),(fs.length:Int),(k:Int),⟨b0,fs⟩,⟨b1,qD⟩,⟨b3,qE⟩,()))/\
   ∀S' gP,uQ (gj fs) (dW fs) k S cur=some (S',gP)->tp S' gP qD qE:=by
 intro S
 induction S with
 |nil=>
  intro cur op b2 pt h hr;have e:op=[]:=by have:=hr.1;simpa using this
  subst e;refine⟨[],b2,pt,cw ?_,fun S' gP e=>?_⟩
  ·unfold qq;simp only;rw[bP,if_neg (by show ¬(0:Int)<(([]:List Int).length:Int);simp)];rfl
  ·injection e with e;injection e with e1 e2;subst e1 e2;exact hr
 |cons s S ih=>
  obtain⟨o,P⟩:=s;intro cur op b2 pt h hr;have ho:o<k:=h.1;have hx:=zg (show o<fs.length by omega);obtain⟨O,Q,p2,p1,e1,e2,_,_,e5,_,_⟩:=hr.pop;have hc:=Inv.short h;rw[zj] at hc;have l1:ae op=((O.length+1:Nat):Int):=by rw[e1];simp[ae]
  have s1:bU .i64 ((O.length+1:Nat):Int) 1=(O.length:Int):=by rw[show(1:Int)=((1:Nat):Int) from rfl,N6 om om,Nat.add_sub_cancel]
  have k1:bA op (O.length:Int)=some O.length:=nE (by rw[e1];simp);have g1:nth op O.length=some (o:Int):=vA (by rw[e1];simp);have k2:bA fs (o:Int)=some o:=nE om;have g2:nth fs o=some fs[o]:=vA hx;have he:=DU hx;have hf:=Cw hx;have c0:aK 0 ((O.length+1:Nat):Int)=true:=zu om;obtain⟨qD,b3,qE,c1,c2⟩:=qz5 b1 b2 h om hr;have body:qq ((k:Int),(fs.length:Int),(k:Int),⟨b0,fs⟩,opt,gj fs k,dW fs k,⟨b1,op⟩,⟨b2,pt⟩,())=
    if gj fs o<gj fs k then some (.inr (.inl ((k:Int),(fs.length:Int),(k:Int),⟨b0,fs⟩,⟨b1,op⟩,⟨b2,pt⟩,())))
    else if gj fs k<gj fs o then some (.inl ((k:Int),(fs.length:Int),(k:Int),⟨b0,fs⟩,opt,gj fs k,dW fs k,⟨b1,qD⟩,⟨b3,qE⟩,()))
    else if dW fs o≠dW fs k\/dW fs k=0 then some (.inr (.inr (.inr (.inr (⟨true,[]⟩,43,())))))
    else if 0<dW fs k then some (.inr (.inl ((k:Int),(fs.length:Int),(k:Int),⟨b0,fs⟩,⟨b1,op⟩,⟨b2,pt⟩,())))
    else some (.inl ((k:Int),(fs.length:Int),(k:Int),⟨b0,fs⟩,opt,gj fs k,dW fs k,⟨b1,qD⟩,⟨b3,qE⟩,())):=by
   unfold qq;simp only[l1,s1,k1,g1,k2,g2,c0,aU,af];rw[bP,<-he,<-hf];by_cases q1:gj fs o<gj fs k
   ·rw[if_pos q1,if_pos q1]
   ·rw[if_neg q1,if_neg q1,bP];by_cases q2:gj fs k<gj fs o
    ·rw[if_pos q2,if_pos q2,af];simp only[bR,c1,af]
    ·rw[if_neg q2,if_neg q2];have e3:(az (av (ag (dW fs o) (dW fs k))) (some true) (some (ag (dW fs k) 0)):Option Bool)=some (decide (dW fs o≠dW fs k\/dW fs k=0)):=by
      rw[tZ,jA];by_cases q3:dW fs o=dW fs k
      ·rw[if_pos q3];have:ag (dW fs k) 0=decide (dW fs o≠dW fs k\/dW fs k=0):=by rw[Bool.eq_iff_iff,dB];simp[q3]
       rw[this]
      ·rw[if_neg q3];simp[q3]
     rw[e3,af,z7y];by_cases q3:dW fs o≠dW fs k\/dW fs k=0
     ·rw[if_pos q3,if_pos q3,af];rfl
     ·rw[if_neg q3,if_neg q3,bP];by_cases q4:0<dW fs k
      ·rw[if_pos q4,if_pos q4,af];rfl
      ·rw[if_neg q4,if_neg q4,af];simp only[bR,c1,af]
  unfold uQ;by_cases q1:gj fs o<gj fs k
  ·rw[if_pos q1] at body ⊢;refine⟨op,b2,pt,cw body,fun S' gP e=>?_⟩;injection e with e;injection e with a1 a2;subst a1 a2;exact hr
  ·rw[if_neg q1] at body ⊢;by_cases q2:gj fs k<gj fs o
   ·rw[if_pos q2] at body ⊢;obtain⟨UC,b4,UD,d1,d2⟩:=ih _ qD b3 qE h.pop c2;exact⟨UC,b4,UD,by rw[ew body];exact d1,d2⟩
   ·rw[if_neg q2] at body ⊢;by_cases q3:dW fs o≠dW fs k\/dW fs k=0
    ·rw[if_pos q3] at body ⊢;exact⟨op,b2,pt,cw body,fun S' gP e=>by cases e⟩
    ·rw[if_neg q3] at body ⊢;by_cases q4:0<dW fs k
     ·rw[if_pos q4] at body ⊢;refine⟨op,b2,pt,cw body,fun S' gP e=>?_⟩;injection e with e;injection e with a1 a2;subst a1 a2;exact hr
     ·rw[if_neg q4] at body ⊢;obtain⟨UC,b4,UD,d1,d2⟩:=ih _ qD b3 qE h.pop c2;exact⟨UC,b4,UD,by rw[ew body];exact d1,d2⟩
theorem qz6(b1:Bool){lv sd:Nat->Int}{n:Nat}(hn:n<=400):∀(S:List (Nat×List Int)) (cur:List Int) (op:List Int) (b2:Bool) (pt:List (Sl Int)),Inv lv sd S cur n->tp S cur op pt->∃q,aX qu (⟨b1,op⟩,⟨b2,pt⟩,())=some (.inr (.inr (⟨q,GA S cur⟩,0,()))):=by
 intro S
 induction S with
 |nil=>
  intro cur op b2 pt h hr;have e:op=[]:=by have:=hr.1;simpa using this
  subst e;obtain⟨c,hc⟩:∃c,pt=[c]/\c.l=cur:=by
   have:=hr.2;cases hp:pt.reverse with
   |nil=>rw[hp] at this;cases this
   |cons p1 Q=>
    rw[hp] at this;injection this with h1 h2;obtain rfl:Q=[]:=by cases Q with
     |nil=>rfl
     |cons _ _=>cases h2
    refine⟨p1,?_,h1⟩;have:=congrArg List.reverse hp;rw[List.reverse_reverse] at this;exact this
  obtain⟨rfl,he⟩:=hc;refine⟨c.nil,cw ?_⟩;unfold qu;simp only;rw[bP,if_neg (by show ¬(0:Int)<(([]:List Int).length:Int);simp)];show some (Sum.inr (Sum.inr (Sum.inr (c,0,()))))=_;rw[<-he];rfl
 |cons s S ih=>
  obtain⟨o,P⟩:=s;intro cur op b2 pt h hr;obtain⟨qD,b3,qE,c1,c2⟩:=qz5 b1 b2 h hn hr;obtain⟨O,Q,p2,p1,e1,e2,_,_,e5,_,_⟩:=hr.pop;obtain⟨q,hq⟩:=ih _ qD b3 qE h.pop c2;refine⟨q,?_⟩;have step:qu (⟨b1,op⟩,⟨b2,pt⟩,())=some (.inl (⟨b1,qD⟩,⟨b3,qE⟩,())):=by unfold qu;simp only;rw[bP,if_pos (by rw[e1];unfold ae;rw[zd,List.length_singleton];omega),c1,af]
  rw[ew step,hq];rfl
end Fn
open Fx (B Inv uP lo uQ vp GA fU)
namespace Fn
theorem z3p{α β:Type}(f:α->Option β)(a:α):bR f (.inl a)=f a:=Eq.trans (Eq.refl _) (Eq.refl _)
theorem z3q{α β:Type}(f:α->Option β)(b:β):bR f (.inr b)=some b:=Eq.trans (Eq.refl _) (Eq.refl _)
theorem N7{α:Type}(l m:List α):app l m=l++m:=Eq.trans (Eq.refl _) (Eq.refl _)
theorem z8g{α:Type}(x:α):cj [x]=false:=Eq.trans (Eq.refl _) (Eq.refl _)
theorem tp.push{S:List (Nat×List Int)}{cur:List Int}{op:List Int}{pt:List (Sl Int)}(h:tp S cur op pt)(k:Nat)(q:Sl Int):tp ((k,cur)::S) q.l (op++[(k:Int)]) (pt++[q]):=by
 obtain⟨h1,h2⟩:=h;refine⟨?_,?_⟩
 ·rw[List.reverse_append];show(k:Int)::op.reverse=_;rw[h1];rfl
 ·rw[List.reverse_append];show q.l::pt.reverse.map (·.l)=_;rw[h2];rfl
theorem tp.len{S:List (Nat×List Int)}{cur:List Int}{op:List Int}{pt:List (Sl Int)}(h:tp S cur op pt):op.length=S.length/\pt.length=S.length+1:=by obtain⟨h1,h2⟩:=h;have e1:=congrArg List.length h1;have e2:=congrArg List.length h2;simp only[List.length_reverse,zO,zj] at e1 e2;exact⟨e1,e2⟩
theorem qvw(b0:Bool){fs:List ar}(hn:fs.length<=400)(hs:∀o,o<fs.length->dW fs o=-1\/dW fs o=0\/dW fs o=1):∀(m k:Nat) (S:List (Nat×List Int)) (cur:List Int) (b1:Bool) (op:List Int) (b2:Bool) (pt:List (Sl Int)),k+m=fs.length->Inv (gj fs) (dW fs) S cur k->lo S=k->tp S cur op pt->∃q,aX lT ((fs.length:Int),(k:Int),⟨b0,fs⟩,⟨b1,op⟩,⟨b2,pt⟩,())=some (match vp (gj fs) (dW fs) m k S cur with
   |none=>.inr (⟨true,[]⟩,43,())
   |some (S',gP)=>.inr (⟨q,GA S' gP⟩,0,())):=by
 intro m
 induction m with
 |zero=>
  intro k S cur b1 op b2 pt hk h hl hr;have h':Inv (gj fs) (dW fs) S cur fs.length:=by rw[<-hk];exact h
  obtain⟨q,hq⟩:=qz6 b1 (n:=fs.length) hn S cur op b2 pt h' hr;refine⟨q,cw ?_⟩;unfold lT;simp only;rw[bP,if_neg om,hq];rfl
 |succ m ih=>
  intro k S cur b1 op b2 pt hk h hl hr;have hc:k<fs.length:=om
  have hx:=zg hc;have hf:=DU hx;have hg:=Cw hx;obtain⟨qD,b3,qE,w1,w2⟩:=qvv b0 b1 hn hc fs[k].1 (fun o ho=>hs o om) S cur op b2 pt h hr;rw[hf,hg] at w1;have hw:=Fx.qC (lv:=gj fs) (sd:=dW fs) (k:=k) (fun o ho=>hs o om) S cur h (uP.start hl);unfold vp;cases he:uQ (gj fs) (dW fs) k S cur with
  |none=>rw[he] at w1;refine⟨true,cw ?_⟩;unfold lT;simp only;rw[bP,if_pos om,nE hc,af,vA hx,af,w1,af,z3q]
  |some z=>
   obtain⟨S',gP⟩:=z;rw[he] at w1 hw;obtain⟨g1,g2,g3⟩:=hw;have hj:=(w2 S' gP he).push k ⟨false,[-2-(k:Int)]⟩;obtain⟨n1,n2⟩:=(w2 S' gP he).len;have hm:=Inv.short g1;obtain⟨q,hq⟩:=ih (k+1) _ _ (aF b1 false) (qD++[(k:Int)]) (aF b3 false) (qE++[⟨false,[-2-(k:Int)]⟩]) om (g1.push g2 g3) rfl hj;refine⟨q,?_⟩;have e2:bU .i64 (-2) (k:Int)=-2-(k:Int):=nv om om;have f1:fit (aQ (ae qD) (ae ([(k:Int)]:List Int)))=some ():=o4 (by simp only[aQ,ae,List.length_singleton];omega);have f2:fit (aQ (ae qE) (ae ([⟨false,[-2-(k:Int)]⟩]:List (Sl Int))))=some ():=o4 (by simp only[aQ,ae,List.length_singleton];omega);have step:lT ((fs.length:Int),(k:Int),⟨b0,fs⟩,⟨b1,op⟩,⟨b2,pt⟩,())=some (.inl ((fs.length:Int),((k+1:Nat):Int),⟨b0,fs⟩,⟨aF b1 false,qD++[(k:Int)]⟩,⟨aF b3 false,qE++[⟨false,[-2-(k:Int)]⟩]⟩,())):=by unfold lT;simp only;rw[bP,if_pos om,nE hc,af,vA hx,af,w1,af];rw[z3p];simp only[e2,f1,f2,af,bK (by omega:k<=1000000000),N7,z8g]
   rw[ew step,hq]
def Il(fs:List ar):Option (List Int):=fU (gj fs) (dW fs) fs.length
theorem zaq(b0:Bool){fs:List ar}(hn:fs.length<=400)(hs:∀o,o<fs.length->dW fs o=-1\/dW fs o=0\/dW fs o=1):∃q,aX lT (ae fs,0,⟨b0,fs⟩,⟨true,[]⟩,⟨false,[⟨false,[-1]⟩]⟩,())=some (.inr (match Il fs with|none=>(⟨true,[]⟩,43,())|some x=>(⟨q,x⟩,0,()))):=by
 obtain⟨q,hq⟩:=qvw b0 hn hs fs.length 0 [] [-1] true [] false [⟨false,[-1]⟩] om (show B _ _ 0 0 [-1] from B.nil 0) rfl ⟨rfl,rfl⟩;refine⟨q,?_⟩;refine Eq.trans hq ?_;unfold Il fU;cases vp (gj fs) (dW fs) fs.length 0 [] [-1] with
 |none=>rfl
 |some z=>rfl
def nH(l:List ar):List (List Int)->Option (List ar)
 |[]=>some []
 |op::r=>match jq l op with
  |none=>none
  |some x=>match nH l r with
   |none=>none
   |some y=>some (x::y)
theorem KS{l:List ar}:∀{ops:List (List Int)} {fs:List ar},nH l ops=some fs->fs.length=ops.length/\∀x,x∈fs->x∈l
 |[],fs,h=>by injection h with h;subst h;exact⟨rfl,fun x hx=>by cases hx⟩
 |op::r,fs,h=>by
  unfold nH at h;split at h
  ·cases h
  ·rename_i x hx;split at h
   ·cases h
   ·rename_i y hy;injection h with h;subst h;obtain⟨h1,h2⟩:=KS hy;refine⟨by rw[zj,zj,h1],fun z hz=>?_⟩;rcases zw.1 hz with rfl|hz
    ·exact(AI hx).1
    ·exact h2 z hz
theorem N8{l fs:List ar}(hr:∀x,x∈l->lj x=true)(hm:∀x,x∈fs->x∈l)(o:Nat)(ho:o<fs.length):dW fs o=-1\/dW fs o=0\/dW fs o=1:=by rw[Cw (zg ho)];have:=hr _ (hm _ (List.getElem_mem ho));unfold lj at this;simp only[ze,decide_eq_true_eq] at this;omega
theorem z8h(n1 n2 b:Bool){l:List ar}(hl:l.length<=1000000)(ops:List (List Int))(hn:ops.length<=400):∀(m k:Nat) (acc:List ar),k+m=ops.length->acc.length=k->aX jf (⟨n1,l⟩,⟨n2,ops⟩,(ops.length:Int),(k:Int),⟨b,acc++List.replicate m (([]:List Int),0,0)⟩,())=(match nH l (ops.drop k) with
   |none=>some (⟨true,[]⟩,42,())
   |some r=>aX jf (⟨n1,l⟩,⟨n2,ops⟩,(ops.length:Int),(ops.length:Int),⟨b,acc++r⟩,())):=by
 intro m
 induction m with
 |zero=>
  intro k acc hk ha;rw[zC om];obtain rfl:k=ops.length:=om
  rfl
 |succ m ih=>
  intro k acc hk ha;have hc:k<ops.length:=om
  rw[kI hc];unfold nH;have hf:=find_spec n1 l ops[k] hl;have hm:(acc++List.replicate (m+1) (([]:List Int),(0:Int),(0:Int))).length=ops.length:=by rw[zd,List.length_replicate];omega
  cases hj:jq l ops[k] with
  |none=>rw[hj] at hf;refine cw ?_;unfold jf;simp only;rw[bP,if_pos om,dG (zg hc),af,hf,af];rfl
  |some x=>
   rw[hj] at hf;have he:(acc++List.replicate (m+1) (([]:List Int),(0:Int),(0:Int))).set k x=(acc++[x])++List.replicate m (([]:List Int),0,0):=by rw[List.set_append_right _ _ om,ha,Nat.sub_self,List.replicate_succ,List.set_cons_zero,zo];rfl
   have hg:(acc++List.replicate (m+1) (([]:List Int),(0:Int),(0:Int)))[k]?=some (([]:List Int),0,0):=by rw[zG om,ha,Nat.sub_self];rfl
   have step:jf (⟨n1,l⟩,⟨n2,ops⟩,(ops.length:Int),(k:Int),⟨b,acc++List.replicate (m+1) (([]:List Int),0,0)⟩,())=
     some (.inl (⟨n1,l⟩,⟨n2,ops⟩,(ops.length:Int),((k+1:Nat):Int),⟨b,(acc++[x])++List.replicate m (([]:List Int),0,0)⟩,())):=by
    unfold jf;simp only;rw[bP,if_pos om,dG (zg hc),af,hf,af];simp only[av,Bool.not_true,aD];rw[nE om,af,vA hg,af,af,bK om];show some (Sum.inl (_,_,_,_,(⟨b,(acc++List.replicate (m+1) (([]:List Int),(0:Int),(0:Int))).set k x⟩:Sl ar),()))=_;rw[he]
   rw[ew step,ih (k+1) (acc++[x]) om (by rw[zd,ha];rfl)];cases nH l (ops.drop (k+1)) with
   |none=>rfl
   |some y=>show aX jf (_,_,_,_,(⟨b,(acc++[x])++y⟩:Sl ar),())=aX jf (_,_,_,_,(⟨b,acc++x::y⟩:Sl ar),());rw[zo];rfl
def uR(q:Bool)(l:List ar)(ops:List (List Int)):Sl Int×Int×Unit:=
 if fb l≠0 then(⟨true,[]⟩,fb l,()) else if 400<ops.length then(⟨true,[]⟩,40,()) else match nH l ops with
  |none=>(⟨true,[]⟩,42,())
  |some fs=>match Il fs with
   |none=>(⟨true,[]⟩,43,())
   |some x=>(⟨q,x⟩,0,())
theorem qvx(n1 n2:Bool){l:List ar}(h:gL l)(ops:List (List Int)):∃q,lP (⟨n1,l⟩,⟨n2,ops⟩,())=some (uR q l ops):=by
 rw[TI,Ik n1 h,af];by_cases hc:fb l=0
 ·have e0:av (ag (fb l) 0)=false:=by rw[hc];rfl
  simp only[e0,aD];rw[bP];by_cases h4:400<ops.length
  ·refine⟨true,?_⟩;unfold uR;rw[if_pos (by show(400:Int)<(ops.length:Int);omega),if_neg (by simpa using hc),if_pos h4]
  ·rw[if_neg (by show ¬(400:Int)<(ops.length:Int);omega)];have hg:sV (ae ops) (ae ops)=some ops.length:=by unfold sV ae;rw[if_pos om];rfl
   rw[hg,af];have he:=z8h n1 n2 false h.2.2 ops om ops.length 0 [] om rfl;rw[List.nil_append,List.drop_zero] at he;have he:aX jf (⟨n1,l⟩,⟨n2,ops⟩,ae ops,0,⟨false,rep ops.length (([]:List Int),0,0)⟩,())=_:=he;rw[he];have res:∀q,uR q l ops=match nH l ops with
     |none=>(⟨true,[]⟩,42,())
     |some fs=>match Il fs with
      |none=>(⟨true,[]⟩,43,())
      |some x=>(⟨q,x⟩,0,()):=fun q=>by
    unfold uR;rw[if_neg (by simpa using hc),if_neg h4]
   cases hf:nH l ops with
   |none=>refine⟨true,?_⟩;rw[res,hf]
   |some fs=>obtain⟨f1,f2⟩:=KS hf;obtain⟨_,hr,_⟩:=N5 hc;obtain⟨q,hq⟩:=zaq false (fs:=fs) om (N8 hr f2);refine⟨q,?_⟩;rw[res,hf];refine cw ?_;unfold jf;simp only[List.nil_append];rw[bP,if_neg om,hq]
 ·have e0:av (ag (fb l) 0)=true:=by rw[dx hc];rfl
  refine⟨true,?_⟩;simp only[e0,aU];unfold uR;rw[if_pos hc]
theorem z8i(c:Int):∀(m k:Nat),k+m=16->∃r,aX qx (c,bN,(k:Int),())=some (r,())/\r<=5/\(r=5↔c∈bN.drop k):=by
 have he:bN.length=16:=rfl;intro m
 induction m with
 |zero=>
  intro k hk;rw[zC om];have last:∀(b1 b2 b3 b4:Bool),∃r:Int,(az b1 (some (Sum.inr (1,()))) (az b2 (some (Sum.inr (2,()))) (az b3 (some (Sum.inr (3,()))) (az b4 (some (Sum.inr (4,()))) (some (Sum.inr (0,())))))):Option ((Int×(List Int)×Int×Unit)⊕(Int×Unit)))=some (.inr (r,()))/\r<=5/\r≠5:=by intro b1 b2 b3 b4;cases b1<;>cases b2<;>cases b3<;>cases b4<;>exact⟨_,rfl,by decide,by decide⟩
  have two:∀(a b:Int) (b2:Bool),(az (cK a c) (some b2) (some false):Option Bool)=some (cK a c&&b2):=fun a b b2=>by cases cK a c<;>rfl
  have or2:∀(b1 b2:Bool),(az b1 (some true) (some b2):Option Bool)=some (b1||b2):=fun b1 b2=>by cases b1<;>rfl
  obtain⟨r,h1,h2,h3⟩:=last (cK 97 c&&cK c 122) (cK 65 c&&cK c 90) (cK 48 c&&cK c 57) (ag c 95||ag c 39);refine⟨r,cw ?_,h2,by simp[h3]⟩;unfold qx;simp only;rw[bP,if_neg (by unfold ae;omega),two 97 0,two 65 0,two 48 0,or2];simp only[af];exact h1
 |succ m ih=>
  intro k hk;have hc:k<bN.length:=om
  rw[kI hc];have step:qx (c,bN,(k:Int),())=if bN[k]=c then some (.inr (5,())) else some (.inl (c,bN,((k+1:Nat):Int),())):=by unfold qx;simp only;rw[bP,if_pos (by unfold ae;omega),dG (zg hc),af,jA,bK om]
  by_cases h:bN[k]=c
  ·rw[if_pos h] at step;exact⟨5,cw step,by omega,by simp[h,-List.getElem_cons_drop]⟩
  ·rw[if_neg h] at step;obtain⟨r,h1,h2,h3⟩:=ih (k+1) om;have hn:c≠bN[k]:=fun e=>h e.symm;exact⟨r,by rw[ew step,h1],h2,by rw[h3];simp[hn,-List.getElem_cons_drop]⟩
theorem bY(c:Int):∃r,Kd (c,())=some (r,())/\r<=5/\(r=5↔c∈bN):=by obtain⟨r,h1,h2,h3⟩:=z8i c 16 0 rfl;exact⟨r,by rw[TP];exact h1,h2,h3⟩
theorem zar(b:Bool)(l:List ND)(hl:l.length<=10000):∀(N m k:Nat),l.length-k<N->l.length-k=m->cL sA N (⟨b,l⟩,(k:Int),())=some (eO l k 1,()):=by
 intro N
 induction N with
 |zero=>intro m k h;exact absurd h (Nat.not_lt_zero _)
 |succ N ih=>
  intro m k hN hm;show sA (cL sA N) _=_;rw[TN];have c0:aK (k:Int) 0=false:=zn om;simp only[c0,aD];by_cases hg:k<l.length
  ·obtain⟨d,hd⟩:∃d,l[k]?=some d:=⟨_,zg hg⟩;have hc:l.drop k=d::l.drop (k+1):=by rw[kI hg];rw[zg hg] at hd;injection hd with hd;rw[hd]
   obtain⟨x,t,n,z⟩:=d;have c0:cK (ae l) (k:Int)=false:=zn (by unfold ae;omega);have hf:=dG hd;by_cases hz:0<=z/\z<=(l.length:Int)
   ·have c1:aK z 0=false:=zn om;have c2:aK (ae l) z=false:=zn (by unfold ae;omega);have e3:=bK (show k<=1000000000 by omega);simp only[c0,aD,af,hf,c1,c2,e3];have he:eO l k 1=(skip l.length (l.drop (k+1)) z.toNat).elim (-1) fun r=>(l.length:Int)-(r.length:Int):=by unfold eO;rw[hc,DR];rw[if_pos (show 0<=(x,t,n,z).2.2.2/\(x,t,n,z).2.2.2<=(l.length:Int) from hz),zD]
    rw[he];have loop:∀(j i q:Nat),(i:Int)+j=z->k<q->q<=l.length->
      aX (qv (cL sA N)) (⟨b,l⟩,(k:Int),(q:Int),(i:Int),())=some ((skip l.length (l.drop q) j).elim (-1) fun r=>(l.length:Int)-(r.length:Int),()):=by
     intro j
     induction j with
     |zero=>intro i q h1 h2 h3;refine cw ?_;unfold qv;simp only[hf,af];rw[bP,if_neg om,Ig];show _=some (Sum.inr ((l.length:Int)-((l.drop q).length:Int),()));rw[zH];congr 3;omega
     |succ j ihj=>
      intro i q h1 h2 h3;have hi:=ih (l.length-q) q om rfl;have e:j+1=1+j:=om
      rw[e,qta];have step:qv (cL sA N) (⟨b,l⟩,(k:Int),(q:Int),(i:Int),())=if eO l q 1<0 then some (.inr (-1,())) else some (.inl (⟨b,l⟩,(k:Int),eO l q 1,((i+1:Nat):Int),())):=by unfold qv;simp only[hf,af];rw[bP,if_pos om];simp only[hi,af,bK (show i<=1000000000 by omega)];rw[bP]
      cases hs:skip l.length (l.drop q) 1 with
      |none=>rw[z3d hs,if_pos dc] at step;rw[cw step];rfl
      |some r=>
       obtain⟨s1,s2,s3⟩:=z3b _ hs;rw[zH] at s1 s2 s3;have hj:eO l q 1=((l.length-r.length:Nat):Int):=by unfold eO;rw[hs];show(l.length:Int)-(r.length:Int)=_;omega
       rw[hj,if_neg om] at step;rw[ew step,ihj (i+1) (l.length-r.length) om om om];show _=some ((skip l.length r j).elim _ _,());have:r=l.drop (l.length-r.length):=by rw[List.drop_drop] at s3;rw[show l.length-r.length=q+(l.length-q-r.length) by omega];exact s3
       rw[<-this]
    exact loop z.toNat 0 (k+1) om om om
   ·have he:eO l k 1=-1:=by unfold eO;rw[hc,DR];rw[if_neg (show ¬(0<=(x,t,n,z).2.2.2/\(x,t,n,z).2.2.2<=(l.length:Int)) from hz)];rfl
    rw[he];simp only[c0,aD,af,hf];cases h1:aK z 0 with
    |true=>simp only[aU,af]
    |false=>
     have c2:aK (ae l) z=true:=by have:=of_decide_eq_false h1;exact zu (by unfold ae;omega)
     simp only[aD,af,c2,aU]
  ·have he:eO l k 1=-1:=by unfold eO;rw[zC om];rfl
   have c0:cK (ae l) (k:Int)=true:=zu (by unfold ae;omega);rw[he];simp only[c0,aU,af]
theorem qov(b:Bool)(l:List ND)(hl:l.length<=10000)(k:Nat):Ca (⟨b,l⟩,(k:Int),())=some (eO l k 1,()):=Dv (l.length-k+1) fun N hN=>zar b l hl N (l.length-k) k om rfl
theorem z9m(b:Bool)(l:List ND)(hl:l.length<=10000){k:Nat}{x:Int}{t:List Int}{n:Int}{ks r:F}(h:bE l k (.cons x t n ks r)):Kc (⟨b,l⟩,(k:Int),())=some (⟨false,ks.pos (k+1)⟩,()):=by
 obtain⟨g1,g2,g3,g4⟩:=h.node;have he:=dG g1;rw[TO,qov b l hl,h.ends];simp only[af];rw[bP,if_neg om,bK om];have loop:∀(g:F) (q i:Nat) (out:List Int),bE l q g->out.length=i->i+g.au=ks.au->q<=l.length->
   aX qw (⟨b,l⟩,(k:Int),(q:Int),(i:Int),⟨false,out⟩,())=some (⟨false,out++g.pos q⟩,()):=by
  intro g
  induction g with
  |nil=>intro q i out hs ho hi hq;have hi:i+0=ks.au:=hi;refine cw ?_;unfold qw;simp only[he,af];rw[bP,if_neg om];show _=some (Sum.inr ((⟨false,out++[]⟩:Sl Int),()));rw[zt]
  |cons x' t' n' bO r' _ ih=>
   intro q i out hs ho hi hq;have hi:i+(r'.au+1)=ks.au:=hi;have hc:=ks.eh;have s4:=hs.node;have step:qw (⟨b,l⟩,(k:Int),(q:Int),(i:Int),⟨false,out⟩,())=some (.inl (⟨b,l⟩,(k:Int),((q+1+bO.size:Nat):Int),((i+1:Nat):Int),⟨false,out++[(q:Int)]⟩,())):=by unfold qw;simp only[he,af];rw[bP,if_pos om];have hf:fit (aQ (ae out) (ae [(q:Int)]))=some ():=o7 (by show out.length+1<=_;omega);rw[hf,af,qov b l hl,af,hs.ends,bK om,KM];rfl
   rw[ew step,ih _ _ _ s4.2.2.1 (by rw[zd,ho];rfl) om om,zo];rfl
 have:=loop ks (k+1) 0 [] g2 rfl om om;exact this
theorem Im(b:Bool)(l:List ND)(hl:l.length<=10000){k:Nat}{x:Int}{t:List Int}{n:Int}{ks r:F}(h:bE l k (.cons x t n ks r)):∃nb,gA (⟨b,l⟩,(k:Int),())=some (⟨nb,ks.pos (k+1)⟩,()):=by
 obtain⟨g1,g2,g3,g4⟩:=h.node;have he:=dG g1;rw[SG,Ih b l hl,h.ends];simp only[af,he];rw[bP,if_neg om,bK om];have hc:=ks.eh;have loop:∀(g:F) (q i:Nat) (nb:Bool) (out:List Int),bE l q g->out.length=i->i+g.au=ks.au->q<=l.length->
   ∃tg,aX qf (⟨b,l⟩,(q:Int),(ks.au:Int),⟨nb,out⟩,())=some (⟨tg,out++g.pos q⟩,()):=by
  intro g
  induction g with
  |nil=>intro q i nb out hs ho hi hq;have hi:i+0=ks.au:=hi;refine⟨nb,cw ?_⟩;unfold qf;simp only;rw[bP,if_neg (by unfold ae;omega)];show _=some (Sum.inr ((⟨nb,out++[]⟩:Sl Int),()));rw[zt]
  |cons x' t' n' bO r' _ ih=>
   intro q i nb out hs ho hi hq;have hi:i+(r'.au+1)=ks.au:=hi;have s4:=hs.node;have step:qf (⟨b,l⟩,(q:Int),(ks.au:Int),⟨nb,out⟩,())=some (.inl (⟨b,l⟩,((q+1+bO.size:Nat):Int),(ks.au:Int),⟨false,out++[(q:Int)]⟩,())):=by unfold qf;simp only;rw[bP,if_pos (by unfold ae;omega)];have hf:fit (aQ (ae out) (ae [(q:Int)]))=some ():=o7 (by show out.length+1<=_;omega);rw[hf,af,Ih b l hl,af,hs.ends,KM];rfl
   obtain⟨tg,h'⟩:=ih (q+1+bO.size) (i+1) false (out++[(q:Int)]) s4.2.2.1 (by rw[zd,ho];rfl) om om;refine⟨tg,?_⟩;rw[ew step,h',zo];rfl
 exact loop ks (k+1) 0 true [] g2 rfl om om
end Fn
end Ev
namespace Ev
namespace Pz
abbrev Tx:=List Int
abbrev ND:=Int×Tx×Int×Int
abbrev Tk:=Int×Tx×Int×Int
abbrev PR(α:Type):=Except (Int×Int) α
structure PC where
 l:List Tk
 e:Int
 fx:Tx->Bool
 cl:List Tx->Option (List Int)
def eb{α β:Type}(x:PR α)(f:α->PR β):PR β:=match x with
 |.ok a=>f a
 |.error e=>.error e
variable (c:PC)
def jB(i:Nat):Int:=match c.l[i]? with
 |some t=>t.2.2.2
 |none=>c.e
def dN(i:Nat):Tx:=match c.l[i]? with
 |some t=>t.2.1
 |none=>[]
def num(i:Nat):Int:=match c.l[i]? with
 |some t=>t.2.2.1
 |none=>0
def aW(i:Nat)(k:Int):Bool:=match c.l[i]? with
 |some t=>decide (t.1=k)
 |none=>false
def ct(i:Nat)(ks:List Tx):Bool:=match c.l[i]? with
 |some t=>decide (t.1=6)&&decide (t.2.1∈ks)
 |none=>false
def ix:Tx:=[102,117,110]
def gm:Tx:=[108,101,116]
def pe:Tx:=[105,102]
def cU:Tx:=[114,97,105,115,101]
def iU:Tx:=[116,114,121]
def gn:Tx:=[114,101,99]
def gQ:Tx:=[45,62]
def vE:Tx:=[61]
def uS:Tx:=[105,110]
def iy:Tx:=[116,104,101,110]
def iz:Tx:=[101,108,115,101]
def cX:Tx:=[109,97,116,99,104]
def dX:Tx:=[119,105,116,104]
def eX:Tx:=[101,110,100]
def gR:Tx:=[124]
def kL:Tx:=[40]
def kR:Tx:=[41]
def jr:Tx:=[95]
def nd(k:Int)(s:Tx)(kids:List (List ND)):List ND:=(k,s,0,(kids.length:Int))::kids.flatten
def cY(i:Nat)(s:Tx):PR Nat:=bif ct c i [s] then .ok (i+1) else .error (jB c i,70)
def pf(i:Nat):PR (Tx×Nat):=
 bif aW c i 1 then .ok (dN c i,i+1) else
 bif ct c i [kL]&&aW c (i+1) 5 then eb (cY c (i+2) kR) fun a=>.ok (dN c (i+1),a) else
 bif ct c i [kL] then .error (jB c (i+1),70) else .error (jB c i,70)
abbrev PT:=Nat->PR (List ND×Nat)
def qF(self:PT):PT:=fun i=>
 bif ct c i [jr] then .ok (nd 21 [] [],i+1) else
 bif aW c i 3 then .ok ([(23,[],num c i,0)],i+1) else
 bif aW c i 2 then .ok (nd 24 (dN c i) [],i+1) else
 bif ct c i [kL]&&!aW c (i+1) 5 then eb (self (i+1)) fun p=>eb (cY c p.2 kR) fun a=>.ok (p.1,a) else
 eb (pf c i) fun s=>.ok (nd 22 s.1 [],s.2)
def uT(self:PT):Nat->Nat->List (List ND)->PR (List (List ND)×Nat)
 |0,i,acc=>.ok (acc,i)
 |f+1,i,acc=>bif aW c i 3||(aW c i 2||(aW c i 1||ct c i [jr,kL])) then eb (qF c self i) fun p=>uT self f p.2 (acc++[p.1]) else .ok (acc,i)
def kz(self:PT):PT:=fun i=>bif aW c i 2 then eb (uT c self (c.l.length+1) (i+1) []) fun p=>.ok (nd 24 (dN c i) p.1,p.2) else qF c self i
def cW:Nat->PT
 |0=>fun i=>.error (jB c i,73)
 |d+1=>kz c (cW d)
def eQ(self:PT)(i:Nat)(s:Tx):PR (List ND×Nat):=eb (cY c i s) self
def iD(i:Nat):Bool:=aW c i 3||(aW c i 4||(aW c i 1||(aW c i 2||ct c i [kL,cX])))
def sG(self aO:PT):Nat->Nat->List (List ND)->PR (List (List ND)×Nat)
 |0,i,acc=>.ok (acc,i)
 |f+1,i,acc=>eb (aO i) fun p=>eb (eQ c self p.2 gQ) fun b=>bif ct c b.2 [gR] then sG self aO f (b.2+1) (acc++[p.1,b.1]) else .ok (acc++[p.1,b.1],b.2)
def Cy(self aO:PT):PT:=fun i=>eb (self i) fun x=>eb (cY c x.2 dX) fun a=>eb (sG c self aO (c.l.length+1) a [x.1]) fun r=>eb (cY c r.2 eX) fun a2=>.ok (nd 10 [] r.1,a2)
def oI(self aO:PT):PT:=fun i=>
 bif iD c i then
  bif aW c i 3 then .ok ([(1,[],num c i,0)],i+1) else
  bif aW c i 4 then .ok (nd 2 (dN c i) [],i+1) else
  bif aW c i 1 then .ok (nd 3 (dN c i) [],i+1) else
  bif aW c i 2 then .ok (nd 4 (dN c i) [],i+1) else
  bif decide (dN c i=cX) then Cy c self aO (i+1) else
  bif aW c (i+1) 5 then eb (cY c (i+2) kR) fun a=>.ok (nd 3 (dN c (i+1)) [],a) else
  eb (self (i+1)) fun x=>eb (cY c x.2 kR) fun a=>.ok (x.1,a)
 else .error (jB c i,70)
def vF(self aO:PT):Nat->Nat->List ND->PR (List ND×Nat)
 |0,i,l=>.ok (l,i)
 |f+1,i,l=>bif iD c i then eb (oI c self aO i) fun m=>vF self aO f m.2 (nd 6 [] [l,m.1]) else .ok (l,i)
def gS(self aO:PT):PT:=fun i=>eb (oI c self aO i) fun x=>vF c self aO (c.l.length+1) x.2 x.1
structure Row where
 apps:List (List ND)
 ops:List Tx
 at_:List Int
def gT(self aO:PT):Nat->Nat->Row->PR (Row×Nat)
 |0,i,r=>.ok (r,i)
 |f+1,i,r=>bif aW c i 5 then eb (gS c self aO (i+1)) fun x=>gT self aO f x.2 ⟨r.apps++[x.1],r.ops++[dN c i],r.at_++[jB c i]⟩ else .ok (r,i)
def gW(apps:List (List ND))(ops:List Tx):Nat->List Int->List ND×List Int
 |_,[]=>([],[])
 |0,x=>([],x)
 |f+1,k::x=>if k<0 then((apps[(-1-k).toNat]?).getD [],x) else
  let a:=gW apps ops f x;let b:=gW apps ops f a.2
  (nd 6 [] [nd 6 [] [nd 3 ((ops[k.toNat]?).getD []) [],a.1],b.1],b.2)
def yL:List Tx->List Int->Option Int
 |s::ops,p::ps=>bif c.fx s then yL ops ps else some p
 |_,_=>none
def mU(first:Int)(r:Row)(i:Nat):PR (List ND×Nat):=
 if r.ops=[] then .ok ((r.apps[0]?).getD [],i) else
 match yL c r.ops r.at_ with
 |some p=>.error (p,71)
 |none=>match c.cl r.ops with
  |none=>.error (first,72)
  |some x=>.ok ((gW r.apps r.ops x.length x).1,i)
def lY(self aO:PT):PT:=fun i=>eb (gS c self aO i) fun x=>eb (gT c self aO (c.l.length+1) x.2 ⟨[x.1],[],[]⟩) fun r=>mU c (jB c i) r.1 r.2
def ph(self aO:PT):PT:=fun i=>
 bif ct c i [ix,gm,pe,cU,iU] then
  bif decide (dN c i=ix) then eb (pf c (i+1)) fun s=>eb (eQ c self s.2 gQ) fun x=>.ok (nd 5 s.1 [x.1],x.2) else
  bif decide (dN c i=gm) then eb (pf c (bif ct c (i+1) [gn] then i+2 else i+1)) fun s=>eb (eQ c self s.2 vE) fun x=>eb (eQ c self x.2 uS) fun y=>.ok (nd (bif ct c (i+1) [gn] then 8 else 7) s.1 [x.1,y.1],y.2) else
  bif decide (dN c i=pe) then eb (self (i+1)) fun x=>eb (eQ c self x.2 iy) fun y=>eb (eQ c self y.2 iz) fun z=>.ok (nd 9 [] [x.1,y.1,z.1],z.2) else
  bif decide (dN c i=cU) then eb (self (i+1)) fun x=>.ok (nd 11 [] [x.1],x.2) else
  eb (self (i+1)) fun x=>eb (cY c x.2 dX) fun a=>eb (pf c a) fun s=>eb (eQ c self s.2 gQ) fun y=>.ok (nd 12 s.1 [x.1,y.1],y.2)
 else lY c self aO i
def cE:Nat->PT
 |0=>fun i=>.error (jB c i,73)
 |d+1=>ph c (cE d) (cW c d)
def jt:PR (List ND):=eb (cE c 100 0) fun x=>if x.2<c.l.length then .error (jB c x.2,70) else .ok x.1
end Pz
end Ev

namespace Ev
namespace Pz
section
variable (b:Int) (c:PC)
variable {b} {self KT aO GB:PT}
end
end Pz
end Ev

namespace Ev
namespace Pz
inductive Bt:Nat->Nat->List Int->Prop
 |leaf (a:Nat):Bt a a [-1-(a:Int)]
 |node (a r b:Nat) (x y:List Int):a<=r->r<b->Bt a r x->Bt (r+1) b y->Bt a b ((r:Int)::(x++y))
theorem Bt.le{a b:Nat}{x:List Int}(h:Bt a b x):a<=b:=by
 cases h with
 |leaf=>exact Nat.le_refl _
 |node _ r _ _ _ h1 h2=>omega
def tot(l:List (List ND)):Nat:=l.flatten.length+l.length
theorem DV(l:List (List ND))(a:List ND):tot (l++[a])=tot l+(a.length+1):=by unfold tot;simp only[List.flatten_append,List.flatten_cons,List.flatten_nil,zd,zj,List.length_nil];omega
theorem ju(k:Int)(s:Tx)(kids:List (List ND)):(nd k s kids).length=kids.flatten.length+1:=by simp[nd]
def yM(apps:List (List ND))(a b:Nat):List (List ND):=(apps.take (b+1)).drop a
theorem z8j{apps:List (List ND)}{a:Nat}(h:a<apps.length):yM apps a a=[apps[a]]:=by
 unfold yM;apply List.ext_getElem
 ·simp only[zH,zQ,zj,List.length_nil];omega
 ·intro i h1 h2;simp only[zj,List.length_nil] at h2;obtain rfl:i=0:=om
  simp
theorem qz7{apps:List (List ND)}{a r b:Nat}(h1:a<=r)(h2:r<b)(h3:b<apps.length):yM apps a b=yM apps a r++yM apps (r+1) b:=by
 unfold yM;apply List.ext_getElem
 ·simp only[zd,zH,zQ];omega
 ·intro i g1 g2;simp only[zH,zQ] at g1;rw[List.getElem_append];split
  ·next h=>simp
  ·next h=>simp only[zH,zQ] at h;simp only[List.getElem_drop,List.getElem_take,zH,zQ];congr 1;omega
theorem UE{apps:List (List ND)}{ops:List Tx}{P:ND->Prop}(hP:∀a,a∈apps->∀d,d∈a->P d)(hv:∀s,s∈ops->P (3,s,0,0))(hn:P (6,[],0,2)):∀{a b:Nat} {x:List Int},Bt a b x->b<apps.length->b<=ops.length->∀(f:Nat) (post:List Int),x.length<=f->∃t,gW apps ops f (x++post)=(t,post)/\t.length=(yM apps a b).flatten.length+3*(b-a)/\∀d,d∈t->P d:=by
 intro a b x h
 induction h with
 |leaf a=>
  intro h1 h2 f post hf;obtain⟨f,rfl⟩:∃g,f=g+1:=⟨f-1,by simp only[zj,List.length_nil] at hf;omega⟩;refine⟨apps[a],?_,?_,hP _ (List.getElem_mem h1)⟩
  ·show(if -1-(a:Int)<0 then((apps[(-1-(-1-(a:Int))).toNat]?).getD [],post) else _)=_;rw[if_pos om];have e:(-1-(-1-(a:Int))).toNat=a:=om
   rw[e,zg h1];rfl
  ·rw[z8j h1];simp
 |node a r b x y g1 g2 hx hy tX tY=>
  intro h1 h2 f post hf;simp only[zj,zd] at hf;obtain⟨f,rfl⟩:∃g,f=g+1:=⟨f-1,by omega⟩;obtain⟨t1,e1,l1,p1⟩:=tX om om f (y++post) om;obtain⟨t2,e2,l2,p2⟩:=tY h1 h2 f post om;have hr:r<ops.length:=om
  have hg:(ops[((r:Int)).toNat]?).getD []=ops[r]:=by rw[Int.toNat_natCast,zg hr];rfl
  refine⟨nd 6 [] [nd 6 [] [nd 3 (ops[r]) [],t1],t2],?_,?_,?_⟩
  ·show(if(r:Int)<0 then _ else(nd 6 [] [nd 6 [] [nd 3 ((ops[((r:Int)).toNat]?).getD []) [],(gW apps ops f ((x++y)++post)).1],(gW apps ops f (gW apps ops f ((x++y)++post)).2).1],(gW apps ops f (gW apps ops f ((x++y)++post)).2).2))=_;rw[if_neg om,zo,e1];simp only;rw[e2,hg]
  ·have:=hy.le;rw[qz7 g1 g2 h1];simp only[ju,List.flatten_cons,List.flatten_nil,zd,List.flatten_append,List.length_nil];omega
  ·intro d hd;simp only[nd,List.flatten_cons,List.flatten_nil,zt,zj,List.length_nil,zw,zN,List.cons_append,List.nil_append] at hd;rcases hd with hd|hd|hd|hd|hd
   ·rw[hd];exact hn
   ·rw[hd];exact hn
   ·rw[hd];exact hv _ (List.getElem_mem hr)
   ·exact p1 d hd
   ·exact p2 d hd
def EOk(E:Int)(e:Int×Int):Prop:=(0<=e.1/\e.1<=E)/\70<=e.2/\e.2<=73
def bQ{α:Type}(E:Int)(A:α->Prop)(x:PR α):Prop:=match x with
 |.ok a=>A a
 |.error e=>EOk E e
theorem bQ.eb{α β:Type}{E:Int}{A:α->Prop}{B:β->Prop}{x:PR α}{f:α->PR β}(hx:bQ E A x)(h:∀a,A a->bQ E B (f a)):bQ E B (eb x f):=by
 cases x with
 |ok a=>exact h a hx
 |error e=>exact hx
theorem bQ.bif{α:Type}{E:Int}{A:α->Prop}{t:Bool}{x y:PR α}(hx:t=true->bQ E A x)(hy:t=false->bQ E A y):bQ E A (bif t then x else y):=by
 cases t with
 |true=>exact hx rfl
 |false=>exact hy rfl
theorem bQ.ok{α:Type}{E:Int}{A:α->Prop}{a:α}(h:A a):bQ E A (.ok a):=h
structure mV (c:PC) (E:Int) (Q:Tx->Prop) (N:Int->Prop):Prop where
 tk:∀t,t∈c.l->Q t.2.1/\N t.2.2.1/\0<=t.2.2.2/\t.2.2.2<=E
 e0:0<=c.e
 e1:c.e<=E
 q0:Q []
 n0:N 0
 cl:∀ops x,c.cl ops=some x->Bt 0 ops.length x
section
variable {c:PC} {E:Int} {Q:Tx→Prop} {N:Int→Prop}
def GN(Q:Tx->Prop)(N:Int->Prop)(d:ND):Prop:=Q d.2.1/\N d.2.2.1
def eT(Q:Tx->Prop)(N:Int->Prop)(l:List ND):Prop:=∀d,d∈l->GN Q N d
variable (c Q N) in
def AN(i:Nat)(x:List ND×Nat):Prop:=i<x.2/\x.2<=c.l.length/\x.1.length+1<=3*(x.2-i)/\eT Q N x.1
theorem eT.nd{k:Int}{s:Tx}{kids:List (List ND)}(hi:N 0)(hs:Q s)(h:eT Q N kids.flatten):eT Q N (nd k s kids):=by
 intro d hd;unfold Pz.nd at hd;rcases zw.1 hd with hd|hd
 ·rw[hd];exact⟨hs,hi⟩
 ·exact h d hd
theorem eT.nil:eT Q N []:=fun _ h=>absurd h (List.not_mem_nil)
theorem eT.app{a b:List ND}(h1:eT Q N a)(h2:eT Q N b):eT Q N (a++b):=fun d hd=>(zN.1 hd).elim (h1 d) (h2 d)
theorem eT.one{a:List ND}(h1:eT Q N a):eT Q N [a].flatten:=by rw[List.flatten_cons,List.flatten_nil,zt];exact h1
theorem eT.two{a b:List ND}(h1:eT Q N a)(h2:eT Q N b):eT Q N [a,b].flatten:=by rw[List.flatten_cons];exact h1.app h2.one
theorem eT.three{a b d:List ND}(h1:eT Q N a)(h2:eT Q N b)(h3:eT Q N d):eT Q N [a,b,d].flatten:=by rw[List.flatten_cons];exact h1.app (h2.two h3)
theorem eT.snoc{l:List (List ND)}{a:List ND}(h1:eT Q N l.flatten)(h2:eT Q N a):eT Q N (l++[a]).flatten:=by rw[List.flatten_append];exact h1.app h2.one
variable (H:mV c E Q N)
include H
theorem N9(i:Nat):0<=jB c i/\jB c i<=E:=by
 unfold jB;cases h:c.l[i]? with
 |none=>exact⟨H.e0,H.e1⟩
 |some t=>exact(H.tk t (zS h)).2.2
theorem GC{α:Type}{A:α->Prop}(i:Nat){k:Int}(h1:70<=k)(h2:k<=73):bQ E A (.error (jB c i,k):PR α):=⟨N9 H i,h1,h2⟩
theorem AJ(i:Nat):Q (dN c i):=by
 unfold dN;cases h:c.l[i]? with
 |none=>exact H.q0
 |some t=>exact(H.tk t (zS h)).1
theorem z5o(i:Nat):N (num c i):=by
 unfold num;cases h:c.l[i]? with
 |none=>exact H.n0
 |some t=>exact(H.tk t (zS h)).2.1
omit H in
theorem sH{i:Nat}{k:Int}(h:aW c i k=true):i<c.l.length:=by
 unfold aW at h;cases e:c.l[i]? with
 |none=>rw[e] at h;cases h
 |some t=>exact(zF.1 e).1
omit H in
theorem AK{i:Nat}{k:List Tx}(h:ct c i k=true):i<c.l.length:=by
 unfold ct at h;cases e:c.l[i]? with
 |none=>rw[e] at h;cases h
 |some t=>exact(zF.1 e).1
theorem dO(i:Nat)(s:Tx):bQ E (fun j=>j=i+1/\i<c.l.length) (cY c i s):=by unfold cY;exact bQ.bif (fun h=>⟨rfl,AK h⟩) fun _=>GC H i dc dc
theorem ey(i:Nat):bQ E (fun x=>Q x.1/\i<x.2/\x.2<=c.l.length) (pf c i):=by unfold pf;refine bQ.bif (fun h=>⟨AJ H i,Nat.lt_succ_self _,sH h⟩) fun _=>bQ.bif (fun h=>?_) fun _=>bQ.bif (fun _=>GC H _ dc dc) fun _=>GC H _ dc dc;refine(dO H (i+2) kR).eb fun a ha=>?_;exact⟨AJ H _,by simp only;omega,by simp only;omega⟩
variable {self aO:PT}
theorem UF(h:∀i,bQ E (AN c Q N i) (self i))(i:Nat):bQ E (AN c Q N i) (qF c self i):=by
 unfold qF;refine bQ.bif (fun t=>?_) fun _=>bQ.bif (fun t=>?_) fun _=>bQ.bif (fun t=>?_) fun _=>bQ.bif (fun t=>?_) fun _=>?_
 ·have:=AK t;refine bQ.ok ⟨Nat.lt_succ_self _,this,?_,eT.nd H.n0 H.q0 eT.nil⟩;show 2<=3*(i+1-i);omega
 ·have:=sH t;refine bQ.ok ⟨Nat.lt_succ_self _,this,?_,fun d hd=>?_⟩
  ·show 2<=3*(i+1-i);omega
  ·rw[zK.1 hd];exact⟨H.q0,z5o H i⟩
 ·have:=sH t;refine bQ.ok ⟨Nat.lt_succ_self _,this,?_,eT.nd H.n0 (AJ H i) eT.nil⟩;show 2<=3*(i+1-i);omega
 ·refine(h (i+1)).eb fun p hp=>(dO H p.2 kR).eb fun a ha=>?_;obtain⟨h1,h2,h3,h4⟩:=hp;refine bQ.ok ⟨by simp only;omega,by simp only;omega,?_,h4⟩;show p.1.length+1<=3*(a-i);omega
 ·refine(ey H i).eb fun s hs=>?_;obtain⟨h1,h2,h3⟩:=hs;refine bQ.ok ⟨h2,h3,?_,eT.nd H.n0 h1 eT.nil⟩;show 2<=3*(s.2-i);omega
theorem qz9(h:∀i,bQ E (AN c Q N i) (self i)):∀(f i:Nat) (acc:List (List ND)),i<=c.l.length->eT Q N acc.flatten->bQ E (fun x=>i<=x.2/\x.2<=c.l.length/\tot x.1<=tot acc+3*(x.2-i)/\eT Q N x.1.flatten) (uT c self f i acc)
 |0,i,acc,hi,hg=>⟨Nat.le_refl _,hi,by simp only;omega,hg⟩
 |f+1,i,acc,hi,hg=>by
  unfold uT;refine bQ.bif (fun t=>?_) fun _=>⟨Nat.le_refl _,hi,by simp only;omega,hg⟩;refine(UF H h i).eb fun p hp=>?_;obtain⟨h1,h2,h3,h4⟩:=hp;have r:=qz9 h f p.2 (acc++[p.1]) h2 (hg.snoc h4);revert r;cases uT c self f p.2 (acc++[p.1]) with
  |error e=>exact id
  |ok x=>rintro⟨r1,r2,r3,r4⟩;rw[DV] at r3;exact⟨by omega,r2,by omega,r4⟩
theorem sI(h:∀i,bQ E (AN c Q N i) (self i))(i:Nat):bQ E (AN c Q N i) (kz c self i):=by unfold kz;refine bQ.bif (fun t=>?_) fun _=>UF H h i;refine(qz9 H h _ (i+1) [] (sH t) eT.nil).eb fun p hp=>?_;obtain⟨h1,h2,h3,h4⟩:=hp;refine bQ.ok ⟨by simp only;omega,h2,?_,eT.nd H.n0 (AJ H i) h4⟩;show(nd _ _ _).length+1<=_;rw[ju];have:tot ([]:List (List ND))=0:=rfl;unfold tot at h3;simp only at h3 ⊢;simp only[List.flatten_nil,List.length_nil] at h3;omega
theorem Oa:∀(d i:Nat),bQ E (AN c Q N i) (cW c d i)
 |0,i=>GC H i dc dc
 |d+1,i=>sI H (Oa d) i
theorem ck(h:∀i,bQ E (AN c Q N i) (self i))(i:Nat)(s:Tx):bQ E (fun x=>AN c Q N (i+1) x) (eQ c self i s):=by unfold eQ;refine(dO H i s).eb fun a ha=>?_;rw[ha.1];exact h (i+1)
theorem jP(h:∀i,bQ E (AN c Q N i) (self i))(hp:∀i,bQ E (AN c Q N i) (aO i)):∀(f i:Nat) (acc:List (List ND)),i<=c.l.length->eT Q N acc.flatten->bQ E (fun x=>i<=x.2/\x.2<=c.l.length/\tot x.1<=tot acc+3*(x.2-i)/\eT Q N x.1.flatten) (sG c self aO f i acc)
 |0,i,acc,hi,hg=>⟨Nat.le_refl _,hi,by simp only;omega,hg⟩
 |f+1,i,acc,hi,hg=>by
  unfold sG;refine(hp i).eb fun p ⟨p1,p2,p3,p4⟩=>(ck H h p.2 gQ).eb fun b ⟨b1,b2,b3,b4⟩=>?_;have e:acc++[p.1,b.1]=acc++[p.1]++[b.1]:=by simp
  refine bQ.bif (fun t=>?_) fun _=>?_
  ·have:=AK t;have r:=jP h hp f (b.2+1) (acc++[p.1,b.1]) om (by rw[e];exact(hg.snoc p4).snoc b4);revert r;cases sG c self aO f (b.2+1) (acc++[p.1,b.1]) with
   |error e=>exact id
   |ok x=>rintro⟨r1,r2,r3,r4⟩;rw[e,DV,DV] at r3;exact⟨by omega,r2,by omega,r4⟩
  ·refine bQ.ok ⟨by simp only;omega,b2,?_,?_⟩
   ·simp only;rw[e,DV,DV];omega
   ·simp only;rw[e];exact(hg.snoc p4).snoc b4
theorem z3r(h:∀i,bQ E (AN c Q N i) (self i))(hp:∀i,bQ E (AN c Q N i) (aO i))(i:Nat):bQ E (AN c Q N i) (Cy c self aO i):=by
 unfold Cy;refine(h i).eb fun x ⟨x1,x2,x3,x4⟩=>(dO H x.2 dX).eb fun a ⟨a1,a2⟩=>?_;refine(jP H h hp _ a [x.1] om x4.one).eb fun r ⟨r1,r2,r3,r4⟩=>(dO H r.2 eX).eb fun b ⟨b1,b2⟩=>?_;refine bQ.ok ⟨by simp only;omega,by simp only;omega,?_,eT.nd H.n0 H.q0 r4⟩;show(nd _ _ _).length+1<=_;rw[ju];have e:tot [x.1]=x.1.length+1:=by unfold tot;simp
 rw[e] at r3;unfold tot at r3;simp only at r3 ⊢;omega
theorem fw(h:∀i,bQ E (AN c Q N i) (self i))(hp:∀i,bQ E (AN c Q N i) (aO i))(i:Nat):bQ E (AN c Q N i) (oI c self aO i):=by
 unfold oI;refine bQ.bif (fun _=>?_) fun _=>GC H i dc dc;refine bQ.bif (fun t=>?_) fun _=>bQ.bif (fun t=>?_) fun _=>bQ.bif (fun t=>?_) fun _=>bQ.bif (fun t=>?_) fun _=>bQ.bif (fun t=>?_) fun _=>bQ.bif (fun t=>?_) fun _=>?_
 ·have:=sH t;refine bQ.ok ⟨Nat.lt_succ_self _,this,?_,fun d hd=>?_⟩
  ·show 2<=3*(i+1-i);omega
  ·rw[zK.1 hd];exact⟨H.q0,z5o H i⟩
 ·have:=sH t;refine bQ.ok ⟨Nat.lt_succ_self _,this,?_,eT.nd H.n0 (AJ H i) eT.nil⟩;show 2<=3*(i+1-i);omega
 ·have:=sH t;refine bQ.ok ⟨Nat.lt_succ_self _,this,?_,eT.nd H.n0 (AJ H i) eT.nil⟩;show 2<=3*(i+1-i);omega
 ·have:=sH t;refine bQ.ok ⟨Nat.lt_succ_self _,this,?_,eT.nd H.n0 (AJ H i) eT.nil⟩;show 2<=3*(i+1-i);omega
 ·have r:=z3r H h hp (i+1);revert r;cases Cy c self aO (i+1) with
  |error e=>exact id
  |ok x=>rintro⟨r1,r2,r3,r4⟩;exact⟨by omega,r2,by omega,r4⟩
 ·refine(dO H (i+2) kR).eb fun a ⟨a1,a2⟩=>?_;refine bQ.ok ⟨by simp only;omega,by simp only;omega,?_,eT.nd H.n0 (AJ H _) eT.nil⟩;show 2<=3*(a-i);omega
 ·refine(h (i+1)).eb fun x ⟨x1,x2,x3,x4⟩=>(dO H x.2 kR).eb fun a ⟨a1,a2⟩=>?_;refine bQ.ok ⟨by simp only;omega,by simp only;omega,?_,x4⟩;show x.1.length+1<=3*(a-i);omega
theorem qza(h:∀i,bQ E (AN c Q N i) (self i))(hp:∀i,bQ E (AN c Q N i) (aO i))(i0:Nat):∀(f i:Nat) (l:List ND),AN c Q N i0 (l,i)->bQ E (AN c Q N i0) (vF c self aO f i l)
 |0,i,l,hl=>hl
 |f+1,i,l,hl=>by
  unfold vF;refine bQ.bif (fun _=>?_) fun _=>hl;refine(fw H h hp i).eb fun m ⟨m1,m2,m3,m4⟩=>?_;obtain⟨l1,l2,l3,l4⟩:=hl;refine qza h hp i0 f m.2 _ ⟨by simp only at*;omega,m2,?_,eT.nd H.n0 H.q0 (l4.two m4)⟩;show(nd _ _ _).length+1<=_;rw[ju];simp only[List.flatten_cons,List.flatten_nil,zt,zd];simp only at*
  omega
theorem Ob(h:∀i,bQ E (AN c Q N i) (self i))(hp:∀i,bQ E (AN c Q N i) (aO i))(i:Nat):bQ E (AN c Q N i) (gS c self aO i):=by unfold gS;exact(fw H h hp i).eb fun x hx=>qza H h hp i _ x.2 x.1 hx
omit H in
variable (c E Q N) in
structure RI (i0 i:Nat) (r:Row):Prop where
 n1:r.apps.length=r.ops.length+1
 n2:r.at_.length=r.ops.length
 m:tot r.apps+3*r.ops.length<=3*(i-i0)
 gt:i0<i
 le:i<=c.l.length
 g1:∀a,a∈r.apps->∀d,d∈a->GN Q N d
 g2:∀s,s∈r.ops->Q s
 g3:∀p,p∈r.at_->0<=p/\p<=E
theorem z5p(h:∀i,bQ E (AN c Q N i) (self i))(hp:∀i,bQ E (AN c Q N i) (aO i))(i0:Nat):∀(f i:Nat) (r:Row),RI c E Q N i0 i r->bQ E (fun x=>RI c E Q N i0 x.2 x.1) (gT c self aO f i r)
 |0,i,r,hr=>hr
 |f+1,i,r,hr=>by
  unfold gT;refine bQ.bif (fun t=>?_) fun _=>hr;refine(Ob H h hp (i+1)).eb fun x ⟨x1,x2,x3,x4⟩=>z5p h hp i0 f x.2 _ ?_;have:=hr.gt;have hm:=hr.m;refine⟨?_,?_,?_,by omega,x2,?_,?_,?_⟩
  ·simp only[zd,zj,List.length_nil,hr.n1]
  ·simp only[zd,zj,List.length_nil,hr.n2]
  ·simp only[DV,zd,zj,List.length_nil];omega
  ·intro a ha;rcases zN.1 ha with ha|ha
   ·exact hr.g1 a ha
   ·rw[zK.1 ha];exact x4
  ·intro a ha;rcases zN.1 ha with ha|ha
   ·exact hr.g2 a ha
   ·rw[zK.1 ha];exact AJ H i
  ·intro a ha;rcases zN.1 ha with ha|ha
   ·exact hr.g3 a ha
   ·rw[zK.1 ha];exact N9 H i
omit H in
theorem qow:∀(ops:List Tx) (ps:List Int) (p:Int),yL c ops ps=some p->p∈ps
 |[],ps,p,h=>by cases ps<;>cases h
 |s::ops,[],p,h=>by cases h
 |s::ops,q::ps,p,h=>by
  have h:(bif c.fx s then yL c ops ps else some q)=some p:=h;cases e:c.fx s with
  |true=>rw[e] at h;exact zh _ (qow ops ps p h)
  |false=>rw[e] at h;injection h with h;rw[h];exact zf ..
theorem z8k{i0 i:Nat}{r:Row}(hr:RI c E Q N i0 i r){first:Int}(h1:0<=first/\first<=E):bQ E (AN c Q N i0) (mU c first r i):=by
 have hm:=hr.m;have hn:=hr.n1;have hg:=hr.gt;unfold mU;by_cases h0:r.ops=[]
 ·rw[if_pos h0];have hl:r.apps.length=1:=by rw[hn,h0];rfl
  match ha:r.apps,hl with
  |[a],_=>
   rw[ha,h0] at hm;have e:tot [a]=a.length+1:=by unfold tot;simp
   rw[e] at hm;simp only[List.length_nil] at hm;refine bQ.ok ⟨hg,hr.le,?_,hr.g1 a (by rw[ha];exact zK.2 rfl)⟩;show a.length+1<=_;simp only;omega
 ·rw[if_neg h0];cases hf:yL c r.ops r.at_ with
  |some p=>exact⟨hr.g3 p (qow _ _ _ hf),(by decide:(70:Int)<=71),(by decide:(71:Int)<=73)⟩
  |none=>
   cases hc:c.cl r.ops with
   |none=>exact⟨h1,(by decide:(70:Int)<=72),(by decide:(72:Int)<=73)⟩
   |some x=>
    obtain⟨t,e1,e2,e3⟩:=UE (P:=GN Q N) hr.g1 (fun s hs=>⟨hr.g2 s hs,H.n0⟩) ⟨H.q0,H.n0⟩ (H.cl _ _ hc) om (Nat.le_refl _) x.length [] (Nat.le_refl _);rw[zt] at e1;show bQ E (AN c Q N i0) (.ok ((gW r.apps r.ops x.length x).1,i));rw[e1];refine bQ.ok ⟨hg,hr.le,?_,e3⟩;have es:yM r.apps 0 r.ops.length=r.apps:=by unfold yM;rw[List.drop_zero,zZ om]
    rw[es] at e2;unfold tot at hm;simp only;omega
theorem zas(h:∀i,bQ E (AN c Q N i) (self i))(hp:∀i,bQ E (AN c Q N i) (aO i))(i:Nat):bQ E (AN c Q N i) (lY c self aO i):=by
 unfold lY;refine(Ob H h hp i).eb fun x ⟨x1,x2,x3,x4⟩=>(z5p H h hp i _ x.2 ⟨[x.1],[],[]⟩ ?_).eb fun r hr=>z8k H hr (N9 H i);have e:tot [x.1]=x.1.length+1:=by unfold tot;simp
 refine⟨rfl,rfl,?_,x1,x2,?_,(fun _ h=>absurd h (List.not_mem_nil)),(fun _ h=>absurd h (List.not_mem_nil))⟩
 ·simp only[e,List.length_nil];omega
 ·intro a ha;rw[zK.1 ha];exact x4
theorem z8l(h:∀i,bQ E (AN c Q N i) (self i))(hp:∀i,bQ E (AN c Q N i) (aO i))(i:Nat):bQ E (AN c Q N i) (ph c self aO i):=by
 unfold ph;refine bQ.bif (fun _=>?_) fun _=>zas H h hp i;refine bQ.bif (fun _=>?_) fun _=>bQ.bif (fun _=>?_) fun _=>bQ.bif (fun _=>?_) fun _=>bQ.bif (fun _=>?_) fun _=>?_
 ·refine(ey H (i+1)).eb fun s ⟨s1,s2,s3⟩=>(ck H h s.2 gQ).eb fun x ⟨x1,x2,x3,x4⟩=>?_;refine bQ.ok ⟨by simp only;omega,x2,?_,eT.nd H.n0 s1 x4.one⟩;show(nd _ _ _).length+1<=_;rw[ju];simp only[List.flatten_cons,List.flatten_nil,zt];omega
 ·refine(ey H _).eb fun s ⟨s1,s2,s3⟩=>(ck H h s.2 vE).eb fun x ⟨x1,x2,x3,x4⟩=>(ck H h x.2 uS).eb fun y ⟨y1,y2,y3,y4⟩=>?_;have hs:i+1<s.2:=by revert s2;cases ct c (i+1) [gn]<;>simp only[cond_true,cond_false]<;>omega
  refine bQ.ok ⟨by simp only;omega,y2,?_,eT.nd H.n0 s1 (x4.two y4)⟩;show(nd _ _ _).length+1<=_;rw[ju];simp only[List.flatten_cons,List.flatten_nil,zt,zd];omega
 ·refine(h (i+1)).eb fun x ⟨x1,x2,x3,x4⟩=>(ck H h x.2 iy).eb fun y ⟨y1,y2,y3,y4⟩=>(ck H h y.2 iz).eb fun z ⟨z1,z2,z3,z4⟩=>?_;refine bQ.ok ⟨by simp only;omega,z2,?_,eT.nd H.n0 H.q0 (x4.three y4 z4)⟩;show(nd _ _ _).length+1<=_;rw[ju];simp only[List.flatten_cons,List.flatten_nil,zt,zd];omega
 ·refine(h (i+1)).eb fun x ⟨x1,x2,x3,x4⟩=>?_;refine bQ.ok ⟨by simp only;omega,x2,?_,eT.nd H.n0 H.q0 x4.one⟩;show(nd _ _ _).length+1<=_;rw[ju];simp only[List.flatten_cons,List.flatten_nil,zt];omega
 ·refine(h (i+1)).eb fun x ⟨x1,x2,x3,x4⟩=>(dO H x.2 dX).eb fun a ⟨a1,a2⟩=>(ey H a).eb fun s ⟨s1,s2,s3⟩=>(ck H h s.2 gQ).eb fun y ⟨y1,y2,y3,y4⟩=>?_;refine bQ.ok ⟨by simp only;omega,y2,?_,eT.nd H.n0 s1 (x4.two y4)⟩;show(nd _ _ _).length+1<=_;rw[ju];simp only[List.flatten_cons,List.flatten_nil,zt,zd];omega
theorem Oc:∀(d i:Nat),bQ E (AN c Q N i) (cE c d i)
 |0,i=>GC H i dc dc
 |d+1,i=>z8l H (Oc d) (Oa H d) i
theorem cM:bQ E (fun l=>l.length+1<=3*c.l.length/\eT Q N l) (jt c):=by
 unfold jt;refine(Oc H 100 0).eb fun x ⟨x1,x2,x3,x4⟩=>?_;split
 ·exact GC H _ dc dc
 ·exact bQ.ok ⟨by omega,x4⟩
end
end Pz
end Ev

namespace Ev
namespace Pz
structure Emb (c c':PC) (off:Nat):Prop where
 g:∀i,i<c.l.length->∃t t',c.l[i]?=some t/\c'.l[i+off]?=some t'/\t'.1=t.1/\t'.2.1=t.2.1/\t'.2.2.1=t.2.2.1
 z:∃t',c'.l[c.l.length+off]?=some t'/\t'.1=6/\t'.2.1=kR
 fx:c'.fx=c.fx
 cl:c'.cl=c.cl
 le:c.l.length<=c'.l.length
def RR{α β:Type}(S:α->β->Prop)(r:PR α)(r':PR β):Prop:=match r with
 |.error _=>True
 |.ok a=>(∃w,r'=.error (w,73))\/∃b,r'=.ok b/\S a b
theorem RR.bif{α β:Type}{S:α->β->Prop}{t t':Bool}{x y:PR α}{x' y':PR β}(ht:t'=t)(hx:t=true->RR S x x')(hy:t=false->RR S y y'):RR S (bif t then x else y) (bif t' then x' else y'):=by
 subst ht;cases t' with
 |true=>exact hx rfl
 |false=>exact hy rfl
theorem RR.ok{α β:Type}{S:α->β->Prop}{a:α}{b:β}(h:S a b):RR S (.ok a) (.ok b):=.inr ⟨b,rfl,h⟩
theorem RR.mono{α β:Type}{S T:α->β->Prop}{r:PR α}{r':PR β}(h:RR S r r')(h2:∀a b,S a b->T a b):RR T r r':=by
 cases r with
 |error e=>trivial
 |ok a=>
  rcases h with h|⟨b,hb,hs⟩
  ·exact .inl h
  ·exact .inr ⟨b,hb,h2 a b hs⟩
section
variable {c c':PC} {off:Nat} (H:Emb c c' off)
variable (c off) in
include H
omit H in
theorem qzb{i:Nat}(h:iD c i=true):i<c.l.length:=by
 unfold iD at h;simp only[Bool.or_eq_true] at h;rcases h with h|h|h|h|h
 ·exact sH h
 ·exact sH h
 ·exact sH h
 ·exact sH h
 ·exact AK h
variable {self KT aO GB:PT}
omit H in
end
end Pz
end Ev

namespace Ev
namespace Pz
theorem Od{c:PC}{i:Nat}{t:Tk}(h:c.l[i]?=some t)(k:Int):aW c i k=decide (t.1=k):=by unfold aW;rw[h]
theorem Oe{c:PC}{i:Nat}{t:Tk}(h:c.l[i]?=some t)(ks:List Tx):ct c i ks=(decide (t.1=6)&&decide (t.2.1∈ks)):=by unfold ct;rw[h]
theorem UG{c:PC}{i:Nat}{t:Tk}(h:c.l[i]?=some t):dN c i=t.2.1:=by unfold dN;rw[h]
theorem UH{c:PC}{i:Nat}(h:c.l.length<=i)(k:Int):aW c i k=false:=by unfold aW;rw[zV h]
theorem qzd{c:PC}{i:Nat}(h:c.l.length<=i)(ks:List Tx):ct c i ks=false:=by unfold ct;rw[zV h]
theorem qki{c:PC}{i:Nat}(h:c.l.length<=i):iD c i=false:=by unfold iD;simp only[UH h,qzd h,Bool.or_false]
theorem gU{α β:Type}{x:PR α}{f:α->PR β}{b:β}(h:eb x f=.ok b):∃a,x=.ok a/\f a=.ok b:=by
 cases x with
 |ok a=>exact⟨a,rfl,h⟩
 |error e=>cases h
end Pz
end Ev

namespace Ev
namespace Pz
section
variable (inn sgn:Int→Bool) (keyw:Tx→Bool) (rd:Tx→Int×Int)
def dZ(p:Int->Bool):Tx->Nat
 |[]=>0
 |b::l=>bif p b then dZ p l+1 else 0
def oJ(c:Int):Bool:=decide (97<=c)&&decide (c<=122)
def uU(c:Int):Bool:=decide (65<=c)&&decide (c<=90)
def gC(c:Int):Bool:=decide (48<=c)&&decide (c<=57)
def cN(c:Int):Int:=bif gC c then c-48 else bif decide (97<=c)&&decide (c<=102) then c-87 else -1
def qt:Tx->Tx->Nat->Tx×Nat
 |[],_,_=>([],0)
 |c::l,b,i=>
  if c=34 then(b,i+1) else
  if c<32\/126<c then([],0) else
  if c≠92 then qt l (b++[c]) (i+1) else
  match l with
  |[]=>([],0)
  |d::l2=>
   if d=34\/d=92 then qt l2 (b++[d]) (i+2) else
   if d=110 then qt l2 (b++[10]) (i+2) else
   if d=120 then match l2 with
    |x::y::l3=>if cN x<0\/cN y<0 then([],0) else qt l3 (b++[16*cN x+cN y]) (i+4)
    |_=>([],0)
   else([],0)
abbrev T3:=Int×Tx×Int
def jv(n:Nat)(k:Int)(s:Tx):T3×Nat×Int:=((bif keyw (s.take n) then 6 else k,s.take n,0),n,0)
def qG(e:Int):T3×Nat×Int:=((0,[],0),0,e)
def fL(c:Int)(l:Tx):T3×Nat×Int:=
  bif oJ c then jv keyw (dZ inn (c::l)) 1 (c::l) else
  bif uU c then jv keyw (dZ inn (c::l)) 2 (c::l) else
  bif sgn c then jv keyw (dZ sgn (c::l)) 5 (c::l) else
  bif decide (c=40)||(decide (c=41)||decide (c=95)) then jv keyw 1 6 (c::l) else
  bif decide (c=59)&&decide (l.head?=some 59) then jv keyw 2 6 (c::l) else
  bif gC c||decide (c=126) then
   (bif decide ((rd ((c::l).take (1+dZ gC l))).2=0) then((3,[],(rd ((c::l).take (1+dZ gC l))).1),1+dZ gC l,0) else qG 31) else
  bif decide (c=34) then
   (bif decide ((qt l [] 1).2=0)||decide (200<(qt l [] 1).1.length) then qG 32 else((4,(qt l [] 1).1,0),(qt l [] 1).2,0)) else
  qG 30
def one:Tx->T3×Nat×Int
 |[]=>qG 30
 |c::l=>fL inn sgn keyw rd c l
def blank:Bool->Tx->Nat
 |_,[]=>0
 |false,b::l=>if b=32\/b=10 then blank false l+1 else if b=35 then blank true l+1 else 0
 |true,b::l=>if b=10 then blank false l+1 else blank true l+1
def yN(t:T3)(a:Int):Tk:=(t.1,t.2.1,t.2.2,a)
def iE:Nat->Tx->Int->PR (List Tk)
 |0,_,_=>.ok []
 |f+1,s,a=>
  if s.drop (blank false s)=[] then .ok [] else
  if(one inn sgn keyw rd (s.drop (blank false s))).2.2≠0 then .error (a+blank false s,(one inn sgn keyw rd (s.drop (blank false s))).2.2) else
  eb (iE f ((s.drop (blank false s)).drop (one inn sgn keyw rd (s.drop (blank false s))).2.1) (a+blank false s+(one inn sgn keyw rd (s.drop (blank false s))).2.1)) fun l=>.ok (yN (one inn sgn keyw rd (s.drop (blank false s))).1 (a+blank false s)::l)
end
theorem vG(p:Int->Bool):∀l,dZ p l<=l.length
 |[]=>Nat.le_refl _
 |b::l=>by
  have:=vG p l;unfold dZ;cases p b with
  |true=>rw[cond_true,zj];omega
  |false=>rw[cond_false];omega
theorem GF{p:Int->Bool}{c:Int}{l:Tx}(h:p c=true):1<=dZ p (c::l):=by unfold dZ;rw[h,cond_true];omega
theorem KU:∀(n:Nat) (s b:Tx) (i:Nat),s.length<=n->(qt s b i).2<=i+s.length/\((qt s b i).2≠0->i<(qt s b i).2)
 |_,[],b,i,_=>by show(0:Nat)<=_/\(0≠0->_);exact⟨Nat.zero_le _,fun h=>absurd rfl h⟩
 |0,c::l,b,i,h=>by simp at h
 |n+1,c::l,b,i,h=>by
  have hl:l.length<=n:=by simpa using h
  have z:((([]:Tx),0):Tx×Nat).2<=i+(c::l).length/\(((([]:Tx),0):Tx×Nat).2≠0->i<((([]:Tx),0):Tx×Nat).2):=⟨Nat.zero_le _,fun h=>absurd rfl h⟩;unfold qt;split
  ·simp only[zj];exact⟨by omega,fun _=>by omega⟩
  split
  ·exact z
  split
  ·have:=KU n l (b++[c]) (i+1) hl;rw[zj];exact⟨by omega,fun h=>by have:=this.2 h;omega⟩
  cases l with
  |nil=>exact z
  |cons d l2=>
   simp only[zj] at hl ⊢;split
   ·have:=KU n l2 (b++[d]) (i+2) om;exact⟨by omega,fun h=>by have:=this.2 h;omega⟩
   split
   ·have:=KU n l2 (b++[10]) (i+2) om;exact⟨by omega,fun h=>by have:=this.2 h;omega⟩
   split
   ·match l2,hl with
    |[],_=>exact⟨Nat.zero_le _,fun h=>absurd rfl h⟩
    |[x],_=>exact⟨Nat.zero_le _,fun h=>absurd rfl h⟩
    |x::y::l3,hl=>
     simp only[zj] at hl ⊢;split
     ·exact⟨Nat.zero_le _,fun h=>absurd rfl h⟩
     ·have:=KU n l3 (b++[16*cN x+cN y]) (i+4) om;exact⟨by omega,fun h=>by have:=this.2 h;omega⟩
   ·exact⟨Nat.zero_le _,fun h=>absurd rfl h⟩
end Pz
end Ev

namespace Ev
namespace Pz
structure GG (inn sgn:Int->Bool):Prop where
 oY:∀c,oJ c=true\/uU c=true->inn c=true
 i10:inn 10=false
 s10:sgn 10=false
section
variable {inn sgn:Int→Bool} {keyw:Tx→Bool} {rd:Tx→Int×Int}
theorem UI(H:GG inn sgn)(c:Int)(l:Tx)(P:T3×Nat×Int->Prop)(h1:∀n k,1<=n->n<=(c::l).length->P (jv keyw n k (c::l)))(h2:(gC c||decide (c=126))=true->(rd ((c::l).take (1+dZ gC l))).2=0->P ((3,[],(rd ((c::l).take (1+dZ gC l))).1),1+dZ gC l,0))(h3:(qt l [] 1).2≠0->(qt l [] 1).1.length<=200->P ((4,(qt l [] 1).1,0),(qt l [] 1).2,0))(h4:∀e,30<=e/\e<=32->P (qG e)):P (fL inn sgn keyw rd c l):=by
 unfold fL;cases g1:oJ c with
 |true=>exact h1 _ _ (GF (H.oY c (.inl g1))) (vG _ _)
 |false=>
 cases g2:uU c with
 |true=>exact h1 _ _ (GF (H.oY c (.inr g2))) (vG _ _)
 |false=>
 cases g3:sgn c with
 |true=>exact h1 _ _ (GF g3) (vG _ _)
 |false=>
 cases g4:(decide (c=40)||(decide (c=41)||decide (c=95))) with
 |true=>exact h1 1 6 (Nat.le_refl _) (by simp)
 |false=>
 cases g5:(decide (c=59)&&decide (l.head?=some 59)) with
 |true=>
  refine h1 2 6 om ?_;cases l with
  |nil=>simp at g5
  |cons e l2=>simp only[zj];omega
 |false=>
 cases g6:(gC c||decide (c=126)) with
 |true=>
  simp only[cond_true,cond_false];cases g7:decide ((rd ((c::l).take (1+dZ gC l))).2=0) with
  |true=>exact h2 g6 (zM g7)
  |false=>exact h4 31 dc
 |false=>
 cases g7:decide (c=34) with
 |false=>exact h4 30 dc
 |true=>
  simp only[cond_true,cond_false];cases g8:(decide ((qt l [] 1).2=0)||decide (200<(qt l [] 1).1.length)) with
  |true=>exact h4 32 dc
  |false=>rw[Bool.or_eq_false_iff,decide_eq_false_iff_not,decide_eq_false_iff_not] at g8;exact h3 g8.1 om
theorem Of(H:GG inn sgn)(s:Tx):(one inn sgn keyw rd s).2.2=0->1<=(one inn sgn keyw rd s).2.1/\(one inn sgn keyw rd s).2.1<=s.length:=by
 cases s with
 |nil=>exact fun h=>absurd h (show ¬(30:Int)=0 by decide)
 |cons c l=>
  refine UI H c l (fun r=>r.2.2=0->1<=r.2.1/\r.2.1<=(c::l).length) (fun n k g1 g2 _=>⟨g1,g2⟩) (fun _ _ _=>?_) (fun g _ _=>?_) fun e he h=>?_
  ·have:=vG gC l;simp only[zj];omega
  ·have:=KU l.length l [] 1 (Nat.le_refl _);have h2:=this.2 g;simp only[zj];omega
  ·have h:e=0:=h;omega
theorem z8m(H:GG inn sgn)(s:Tx):(one inn sgn keyw rd s).2.2=0\/(30<=(one inn sgn keyw rd s).2.2/\(one inn sgn keyw rd s).2.2<=32):=by
 cases s with
 |nil=>exact .inr (show(30:Int)<=30/\(30:Int)<=32 by decide)
 |cons c l=>exact UI H c l (fun r=>r.2.2=0\/(30<=r.2.2/\r.2.2<=32)) (fun n k g1 g2=>.inl rfl) (fun _ _=>.inl rfl) (fun g _=>.inl rfl) fun e he=>.inr he
theorem KV:∀(n:Nat) (s b:Tx) (i:Nat),s.length<=n->(∀x,x∈s->0<=x/\x<=255)->(∀x,x∈b->0<=x/\x<=255)->∀x,x∈(qt s b i).1->0<=x/\x<=255
 |_,[],b,i,_,_,_=>fun x h=>absurd h (List.not_mem_nil)
 |0,c::l,b,i,h,_,_=>by simp at h
 |n+1,c::l,b,i,h,hs,hb=>by
  have hl:l.length<=n:=by simpa using h
  have z:∀x,x∈((([]:Tx),0):Tx×Nat).1->0<=x/\x<=255:=fun x h=>absurd h (List.not_mem_nil);have sn:∀{v:Int},0<=v/\v<=255->∀x,x∈b++[v]->0<=x/\x<=255:=fun hv x hx=>by
   rcases zN.1 hx with hx|hx
   ·exact hb x hx
   ·rw[zK.1 hx];exact hv
  have ht:∀x,x∈l->0<=x/\x<=255:=fun x hx=>hs x (zh _ hx);unfold qt;split
  ·exact hb
  split
  ·exact z
  split
  ·exact KV n l _ _ hl ht (sn (hs c (zf ..)))
  cases l with
  |nil=>exact z
  |cons d l2=>
   simp only[zj] at hl;have hc:∀x,x∈l2->0<=x/\x<=255:=fun x hx=>ht x (zh _ hx);simp only;split
   ·exact KV n l2 _ _ om hc (sn (ht d (zf ..)))
   split
   ·exact KV n l2 _ _ om hc (sn dc)
   split
   ·match l2,hl,hc with
    |[],_,_=>exact z
    |[x],_,_=>exact z
    |x::y::l3,hl,hc=>
     simp only[zj] at hl;simp only;split
     ·exact z
     ·next hh=>
      have hx:∀c,cN c<=15:=fun c=>by
       unfold cN gC;cases h:(decide (48<=c)&&decide (c<=57)) with
       |true=>simp only[ze,decide_eq_true_eq] at h;rw[cond_true];omega
       |false=>
        rw[cond_false];cases h2:(decide (97<=c)&&decide (c<=102)) with
        |true=>simp only[ze,decide_eq_true_eq] at h2;rw[cond_true];omega
        |false=>rw[cond_false];omega
      have h1:=hx x;have h2:=hx y;exact KV n l3 _ _ om (fun z hz=>hc z (zh _ (zh _ hz))) (sn om)
   ·exact z
theorem z3s(H:GG inn sgn){N:Int->Prop}(n0:N 0)(s:Tx)(hs:∀x,x∈s->0<=x/\x<=255)(hN:∀t:Tx,(∀x,x∈t->0<=x/\x<=255)->t.length<=s.length->N (rd t).1):(∀x,x∈(one inn sgn keyw rd s).1.2.1->0<=x/\x<=255)/\(one inn sgn keyw rd s).1.2.1.length<=s.length+200/\N (one inn sgn keyw rd s).1.2.2:=by
 have z:∀x:Int,x∈([]:Tx)->0<=x/\x<=255:=fun x h=>absurd h (List.not_mem_nil);cases s with
 |nil=>exact⟨z,Nat.zero_le _,n0⟩
 |cons c l=>
  refine UI H c l (fun r=>(∀x,x∈r.1.2.1->0<=x/\x<=255)/\r.1.2.1.length<=(c::l).length+200/\N r.1.2.2) (fun n k g1 g2=>⟨fun x hx=>hs x (List.mem_of_mem_take hx),?_,n0⟩) (fun _ _=>⟨z,Nat.zero_le _,hN _ (fun x hx=>hs x (List.mem_of_mem_take hx)) ?_⟩)
   (fun g g2=>⟨KV l.length l [] 1 (Nat.le_refl _) (fun x hx=>hs x (zh _ hx)) z,by simp only;omega,n0⟩) fun e he=>⟨z,Nat.zero_le _,n0⟩
  ·show((c::l).take n).length<=_;rw[zQ];omega
  ·rw[zQ];omega
end
theorem GH:∀(b:Bool) (s:Tx),blank b s<=s.length
 |b,[]=>by cases b<;>exact Nat.le_refl _
 |false,c::l=>by
  unfold blank;have h1:=GH false l;have h2:=GH true l;rw[zj];split
  ·omega
  ·split<;>omega
 |true,c::l=>by unfold blank;have h1:=GH false l;have h2:=GH true l;rw[zj];split<;>omega
end Pz
end Ev

namespace Ev
namespace Pz
section
variable {inn sgn:Int→Bool} {keyw:Tx→Bool} {rd:Tx→Int×Int}
theorem z3t{α β:Type}{x y:PR α}{f:α->PR β}(h:x=y):eb x f=eb y f:=by rw[h]
theorem UJ(H:GG inn sgn):∀(n:Nat) (s:Tx),s.length<=n->∀(f f':Nat) (a:Int),s.length<f->s.length<f'->iE inn sgn keyw rd f s a=iE inn sgn keyw rd f' s a:=by
 intro n
 induction n with
 |zero=>intro s hs f f' a h1 h2;obtain⟨f,rfl⟩:∃g,f=g+1:=⟨f-1,by omega⟩;obtain⟨f',rfl⟩:∃g,f'=g+1:=⟨f'-1,by omega⟩;have:s.drop (blank false s)=[]:=zC om;unfold iE;rw[if_pos this,if_pos this]
 |succ n ih=>
  intro s hs f f' a h1 h2;obtain⟨f,rfl⟩:∃g,f=g+1:=⟨f-1,by omega⟩;obtain⟨f',rfl⟩:∃g,f'=g+1:=⟨f'-1,by omega⟩;have hb:=GH false s;unfold iE;by_cases h0:s.drop (blank false s)=[]
  ·rw[if_pos h0,if_pos h0]
  ·rw[if_neg h0,if_neg h0];by_cases he:(one inn sgn keyw rd (s.drop (blank false s))).2.2≠0
   ·rw[if_pos he,if_pos he]
   ·rw[if_neg he,if_neg he];have hl:=Of (keyw:=keyw) (rd:=rd) H (s.drop (blank false s)) (Classical.not_not.1 he);rw[zH] at hl;exact z3t (ih _ (by rw[zH,zH];omega) f f' _ (by rw[zH,zH];omega) (by rw[zH,zH];omega))
def shT(b:Int)(t:Tk):Tk:=(t.1,t.2.1,t.2.2.1,t.2.2.2+b)
def Ea(b:Int):PR (List Tk)->PR (List Tk)
 |.ok l=>.ok (l.map (shT b))
 |.error e=>.error (e.1+b,e.2)
theorem UK(f:Nat)(s z:Tx)(a:Int)(h:blank false (s++z)=s.length+blank false z):iE inn sgn keyw rd (f+1) (s++z) a=iE inn sgn keyw rd (f+1) z (a+(s.length:Int)):=by
 have e:(s++z).drop (s.length+blank false z)=z.drop (blank false z):=by rw[<-List.drop_drop,List.drop_left]
 have e2:a+((s.length+blank false z:Nat):Int)=a+(s.length:Int)+(blank false z:Int):=om
 conv=>lhs;unfold iE
 conv=>rhs;unfold iE
 rw[h,e,e2]
def KX(N:Int->Prop)(a:Int)(m:Nat)(r:PR (List Tk)):Prop:=match r with
 |.ok l=>l.length<=m/\∀t,t∈l->((∀x,x∈t.2.1->0<=x/\x<=255)/\t.2.1.length<=m+200/\N t.2.2.1)/\a<=t.2.2.2/\t.2.2.2<=a+m
 |.error e=>(a<=e.1/\e.1<=a+m)/\30<=e.2/\e.2<=32
theorem UL(H:GG inn sgn){N:Int->Prop}(n0:N 0)(M:Nat)(hN:∀t:Tx,(∀x,x∈t->0<=x/\x<=255)->t.length<=M->N (rd t).1):∀(f:Nat) (s:Tx) (a:Int),s.length<=M->(∀x,x∈s->0<=x/\x<=255)->KX N a s.length (iE inn sgn keyw rd f s a)
 |0,s,a,_,_=>⟨Nat.zero_le _,fun t h=>absurd h (List.not_mem_nil)⟩
 |f+1,s,a,hM,hs=>by
  have hb:=GH false s;unfold iE;by_cases h0:s.drop (blank false s)=[]
  ·rw[if_pos h0];exact⟨Nat.zero_le _,fun t h=>absurd h (List.not_mem_nil)⟩
  ·rw[if_neg h0];by_cases he:(one inn sgn keyw rd (s.drop (blank false s))).2.2≠0
   ·rw[if_pos he];exact⟨⟨by simp only;omega,by simp only;omega⟩,(z8m H _).resolve_left he⟩
   ·rw[if_neg he];have hf:=Classical.not_not.1 he;have hj:=Of (keyw:=keyw) (rd:=rd) H (s.drop (blank false s)) hf;have hg:=z3s (keyw:=keyw) (rd:=rd) H n0 (s.drop (blank false s)) (fun x hx=>hs x (List.mem_of_mem_drop hx)) (fun t ht hl=>hN t ht (by rw[zH] at hl;omega));rw[zH] at hj hg;have hc:((s.drop (blank false s)).drop (one inn sgn keyw rd (s.drop (blank false s))).2.1).length=s.length-blank false s-(one inn sgn keyw rd (s.drop (blank false s))).2.1:=by rw[zH,zH]
    have r:=UL H n0 M hN f ((s.drop (blank false s)).drop (one inn sgn keyw rd (s.drop (blank false s))).2.1) (a+(blank false s:Int)+((one inn sgn keyw rd (s.drop (blank false s))).2.1:Int)) om (fun x hx=>hs x (List.mem_of_mem_drop (List.mem_of_mem_drop hx)));rw[hc] at r;revert r;cases iE inn sgn keyw rd f ((s.drop (blank false s)).drop (one inn sgn keyw rd (s.drop (blank false s))).2.1) (a+(blank false s:Int)+((one inn sgn keyw rd (s.drop (blank false s))).2.1:Int)) with
    |error e=>rintro⟨⟨r1,r2⟩,r3⟩;exact⟨⟨by omega,by omega⟩,r3⟩
    |ok l=>
     rintro⟨r1,r2⟩;refine⟨?_,fun t ht=>?_⟩
     ·show(_::l).length<=_;rw[zj];omega
     ·rcases zw.1 ht with rfl|ht
      ·exact⟨⟨hg.1,Nat.le_trans hg.2.1 om,hg.2.2⟩,by show a<=a+(blank false s:Int);omega,by show a+(blank false s:Int)<=_;omega⟩
      ·obtain⟨⟨q1,q2,q3⟩,q4,q5⟩:=r2 t ht;exact⟨⟨q1,by omega,q3⟩,by omega,by omega⟩
end
end Pz
end Ev

