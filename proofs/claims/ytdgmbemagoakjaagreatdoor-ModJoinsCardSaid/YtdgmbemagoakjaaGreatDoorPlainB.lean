/- Layers 4 and 7 in plain words: fixities; a parser, a lexer; what the reference says of them. No statement of its own about the program. -/
import Derived.Test.YtdgmbemagoakjaaGreatDoorPlainA
import Derived.Laws.RangeAny
namespace Ev
namespace Fx
section
variable (lv sd:Nat→Int)
def LB(o x:Nat):Prop:=lv o<lv x\/(lv o=lv x/\sd o<0/\sd x<0)
def RB(o x:Nat):Prop:=lv o<lv x\/(lv o=lv x/\0<sd o/\0<sd x)
inductive B:Nat->Nat->List Int->Prop
 |nil (a:Nat):B a a [-1-(a:Int)]
 |node (a r b:Nat) (x y:List Int):a<=r->r<b->(∀i,a<=i->i<r->LB lv sd r i)->(∀i,r<i->i<b->RB lv sd r i)->B a r x->B (r+1) b y->B a b ((r:Int)::(x++y))
variable {lv sd}
theorem RB.trans{a b c:Nat}(h1:RB lv sd a b)(h2:RB lv sd b c):RB lv sd a c:=by
 unfold RB at*
 rcases h1 with h1|⟨h1,h3,h4⟩<;>rcases h2 with h2|⟨h2,h5,h6⟩
 ·exact .inl om
 ·exact .inl om
 ·exact .inl om
 ·exact .inr ⟨by omega,h3,h6⟩
theorem B.Bu{a b:Nat}{x:List Int}(h:B lv sd a b x){o k:Nat}(h1:a<=o)(h2:o<k)(h3:k<b)(he:lv o=lv k)(hb:∀i,o<i->i<k->lv k<=lv i)(hl:¬(sd o<0/\sd k<0))(hr:¬(0<sd o/\0<sd k)):False:=by
 induction h with
 |nil a=>omega
 |node a r b x1 x2 g1 g2 g3 g4 _ _ iO iP=>
  rcases Nat.lt_trichotomy r o with h|h|h
  ·exact iP om h3
  ·subst h;have:=g4 k h2 h3;unfold RB at this;omega
  ·rcases Nat.lt_trichotomy r k with h'|h'|h'
   ·have e1:=g3 o h1 h;have e2:=g4 k h' h3;have e3:=hb r h h';unfold LB at e1;unfold RB at e2;omega
   ·subst h';have:=g3 o h1 h;unfold LB at this;omega
   ·exact iO h1 h'
def lo:List (Nat×List Int)->Nat
 |[]=>0
 |(o,_)::_=>o+1
variable (lv sd)
def Inv:List (Nat×List Int)->List Int->Nat->Prop
 |[],cur,k=>B lv sd 0 k cur
 |(o,P)::S,cur,k=>o<k/\B lv sd (o+1) k cur/\(∀x,o<x->x<k->RB lv sd o x)/\(∀x,lo S<=x->x<o->LB lv sd o x)/\Inv S P o/\(∀p,p∈S->∀x,p.1<x->x<k->RB lv sd p.1 x)
variable {lv sd}
theorem Inv.B{S:List (Nat×List Int)}{cur:List Int}{k:Nat}(h:Inv lv sd S cur k):Fx.B lv sd (lo S) k cur:=by
 cases S with
 |nil=>exact h
 |cons p S=>exact h.2.1
theorem Inv.pop{o k:Nat}{P cur:List Int}{S:List (Nat×List Int)}(h:Inv lv sd ((o,P)::S) cur k):Inv lv sd S ((o:Int)::(P++cur)) k:=by
 obtain⟨h1,h2,h3,h4,h5,h6⟩:=h;have hb:=h5.B;cases S with
 |nil=>exact .node 0 o k P cur (Nat.zero_le _) h1 (fun i h7 h8=>h4 i h7 h8) h3 hb h2
 |cons p S=>obtain⟨o',P'⟩:=p;obtain⟨g1,g2,g3,g4,g5,g6⟩:=h5;refine⟨by omega,.node (o'+1) o k P cur om h1 (fun i h7 h8=>h4 i h7 h8) h3 hb h2,fun x h7 h8=>h6 _ (zj ..) x h7 h8,g4,g5,fun p hp=>h6 p (zm _ hp)⟩
def vP(lv sd:Nat->Int)(S:List (Nat×List Int))(k:Nat):Prop:=∀x,lo S<=x->x<k->LB lv sd k x
theorem vP.pop{o k:Nat}{P cur:List Int}{S:List (Nat×List Int)}(h:Inv lv sd ((o,P)::S) cur k)(hm:vP lv sd ((o,P)::S) k)(hc:lv k<lv o\/(lv k=lv o/\sd k<0/\sd o<0)):vP lv sd S k:=by
 obtain⟨h1,h2,h3,h4,h5,h6⟩:=h;intro x hx hk;rcases Nat.lt_trichotomy x o with h|h|h
 ·have:=h4 x hx h;unfold LB at*
  omega
 ·subst h;unfold LB;omega
 ·exact hm x h hk
theorem Inv.push{k:Nat}{cur:List Int}{S:List (Nat×List Int)}(h:Inv lv sd S cur k)(hm:vP lv sd S k)(ht:∀p,S.head?=some p->RB lv sd p.1 k):Inv lv sd ((k,cur)::S) [-2-(k:Int)] (k+1):=by
 have all:∀p,p∈S->∀x,p.1<x->x<k->RB lv sd p.1 x:=by
  cases S with
  |nil=>intro p hp;cases hp
  |cons q S=>
   obtain⟨h1,h2,h3,h4,h5,h6⟩:=h;intro p hp;rcases zt.1 hp with rfl|hp
   ·exact h3
   ·exact h6 p hp
 refine⟨by omega,?_,fun x h1 h2=>by omega,hm,h,fun p hp x h1 h2=>?_⟩
 ·have:=B.nil (lv:=lv) (sd:=sd) (k+1);have e:(-1-((k+1:Nat):Int))=-2-(k:Int):=om
  rw[e] at this;exact this
 ·by_cases hx:x<k
  ·exact all p hp x h1 hx
  ·obtain rfl:x=k:=om
   cases S with
   |nil=>cases hp
   |cons q S=>
    have hq:=ht q rfl;rcases zt.1 hp with rfl|hp
    ·exact hq
    ·have:=all p (zm _ hp);obtain⟨g1,g2,g3,g4,g5,g6⟩:=h;have h7:p.1<q.1:=by
      cases S with
      |nil=>cases hp
      |cons q' S'=>
       clear this all ht hq h1
       have key:∀(S:List (Nat×List Int)) (c:List Int) (m:Nat),Inv lv sd S c m->∀p,p∈S->p.1<m:=by
        intro S
        induction S with
        |nil=>intro c m _ p hp;cases hp
        |cons s S ih=>
         intro c m h p hp;obtain⟨e1,_,_,_,e5,_⟩:=h;rcases zt.1 hp with rfl|hp
         ·exact e1
         ·have:=ih _ _ e5 p hp;omega
       exact key _ _ _ g5 p hp
     exact(this q.1 h7 g1).trans hq
theorem Inv.Bu{o k n:Nat}{P cur:List Int}{S:List (Nat×List Int)}(h:Inv lv sd ((o,P)::S) cur k)(hm:vP lv sd ((o,P)::S) k)(hk:k<n)(he:lv o=lv k)(hl:¬(sd o<0/\sd k<0))(hr:¬(0<sd o/\0<sd k))(x:List Int):¬Fx.B lv sd 0 n x:=fun hb=>by obtain⟨h1,_⟩:=h;refine hb.Bu (Nat.zero_le o) h1 hk he (fun i h3 h4=>?_) hl hr;have:=hm i h3 h4;unfold LB at this;omega
theorem vP.start{k:Nat}{S:List (Nat×List Int)}(h:lo S=k):vP lv sd S k:=fun x h1 h2=>by omega
end
end Fx
end Ev

namespace Ev
namespace Fx
section
variable (lv sd:Nat→Int)
def vQ(k:Nat):List (Nat×List Int)->List Int->Option (List (Nat×List Int)×List Int)
 |[],cur=>some ([],cur)
 |(o,P)::S,cur=>
  if lv o<lv k then some ((o,P)::S,cur)
  else if lv k<lv o then vQ k S ((o:Int)::(P++cur))
  else if sd o≠sd k\/sd k=0 then none
  else if 0<sd k then some ((o,P)::S,cur)
  else vQ k S ((o:Int)::(P++cur))
def wH:Nat->Nat->List (Nat×List Int)->List Int->Option (List (Nat×List Int)×List Int)
 |0,_,S,cur=>some (S,cur)
 |m+1,k,S,cur=>match vQ lv sd k S cur with
  |none=>none
  |some (S',fU)=>wH m (k+1) ((k,fU)::S') [-2-(k:Int)]
def Ll:List (Nat×List Int)->List Int->List Int
 |[],cur=>cur
 |(o,P)::S,cur=>Ll S ((o:Int)::(P++cur))
def ix(n:Nat):Option (List Int):=match wH lv sd n 0 [] [-1] with
 |none=>none
 |some (S,cur)=>some (Ll S cur)
variable {lv sd}
theorem qs{k:Nat}(hs:∀o,o<=k->sd o=-1\/sd o=0\/sd o=1):∀(S:List (Nat×List Int)) (cur:List Int),Inv lv sd S cur k->vP lv sd S k->match vQ lv sd k S cur with
  |none=>∀n,k<n->∀x,¬B lv sd 0 n x
  |some (S',fU)=>Inv lv sd S' fU k/\vP lv sd S' k/\∀p,S'.head?=some p->RB lv sd p.1 k:=by
 intro S
 induction S with
 |nil=>intro cur h hm;exact⟨h,hm,fun p hp=>by cases hp⟩
 |cons s S ih=>
  obtain⟨o,P⟩:=s;intro cur h hm;have hc:o<k:=h.1;have h1:=hs o om;have h2:=hs k (Nat.le_refl _);unfold vQ
  by_cases c1:lv o<lv k
  ·rw[if_pos c1];refine⟨h,hm,fun p hp=>?_⟩;injection hp with hp;subst hp;exact .inl c1
  ·rw[if_neg c1];by_cases c2:lv k<lv o
   ·rw[if_pos c2];exact ih _ h.pop (hm.pop h (.inl c2))
   ·rw[if_neg c2];have he:lv o=lv k:=om
    by_cases c3:sd o≠sd k\/sd k=0
    ·rw[if_pos c3];intro n hn x;exact h.Bu hm hn he om om x
    ·rw[if_neg c3];by_cases c4:0<sd k
     ·rw[if_pos c4];refine⟨h,hm,fun p hp=>?_⟩;injection hp with hp;subst hp;have e2:sd o=sd k:=om
      exact .inr ⟨he,(by show 0<sd o;omega),c4⟩
     ·rw[if_neg c4];exact ih _ h.pop (hm.pop h (.inr ⟨he.symm,by omega,by omega⟩))
theorem z1z{n:Nat}(hs:∀o,o<n->sd o=-1\/sd o=0\/sd o=1):∀(m k:Nat) (S:List (Nat×List Int)) (cur:List Int),k+m=n->Inv lv sd S cur k->lo S=k->match wH lv sd m k S cur with
  |none=>∀x,¬B lv sd 0 n x
  |some (S',fU)=>Inv lv sd S' fU n:=by
 intro m
 induction m with
 |zero=>
  intro k S cur hk h _;obtain rfl:k=n:=om
  exact h
 |succ m ih=>
  intro k S cur hk h hl;unfold wH;have hw:=qs (lv:=lv) (sd:=sd) (k:=k) (fun o ho=>hs o om) S cur h (vP.start hl);cases hc:vQ lv sd k S cur with
  |none=>rw[hc] at hw;exact hw n om
  |some q=>obtain⟨S',fU⟩:=q;rw[hc] at hw;obtain⟨g1,g2,g3⟩:=hw;exact ih (k+1) _ _ om (g1.push g2 g3) rfl
theorem qja{n:Nat}:∀(S:List (Nat×List Int)) (cur:List Int),Inv lv sd S cur n->B lv sd 0 n (Ll S cur)
 |[],_,h=>h
 |(_,_)::S,_,h=>qja S _ h.pop
theorem vR{n:Nat}(hs:∀o,o<n->sd o=-1\/sd o=0\/sd o=1):match ix lv sd n with
  |none=>∀x,¬B lv sd 0 n x
  |some x=>B lv sd 0 n x:=by
 have h:=z1z (lv:=lv) (sd:=sd) hs n 0 [] [-1] om (show B lv sd 0 0 [-1] from B.nil 0) rfl;unfold ix;cases hc:wH lv sd n 0 [] [-1] with
 |none=>rw[hc] at h;exact h
 |some q=>obtain⟨S,cur⟩:=q;rw[hc] at h;exact qja S cur h
theorem B.len{a b:Nat}{x:List Int}(h:B lv sd a b x):x.length=2*(b-a)+1:=by
 induction h with
 |nil a=>simp
 |node a r b x y h1 h2 _ _ _ _ iO iP=>rw[zf,zh,iO,iP];omega
end
end Fx
end Ev

namespace Ev
namespace Fx
section
variable {lv sd:Nat→Int}
def St(lv sd:Nat->Int)(low:Int)(a k:Nat)(first last n left right:Int):Prop:=
 (n=0/\left=0/\right=0/\first=-1/\∀i,a<=i->i<k->lv i≠low)\/
 (∃f l:Nat,first=(f:Int)/\last=(l:Int)/\a<=f/\f<=l/\l<k/\lv f=low/\lv l=low/\(∀i,a<=i->i<k->lv i=low->f<=i/\i<=l)/\1<=n/\(n=1->f=l)/\(1<n->f<l)/\
  (left=n↔∀i,a<=i->i<k->lv i=low->sd i<0)/\left<=n/\(right=n↔∀i,a<=i->i<k->lv i=low->0<sd i)/\right<=n)
end
end Fx
end Ev

namespace Ev
open Go
namespace Fn
abbrev ay:Type:=(List Int)×Int×Int
def gF(x:ay):Prop:=(∀b,b∈x.1->0<=b/\b<=255)/\x.1.length<=9223372036854775807/\(-9223372036854775808<=x.2.1/\x.2.1<=9223372036854775807)/\(-9223372036854775808<=x.2.2/\x.2.2<=9223372036854775807)
def gQ(x:ay):Bool:=sX x.1&&decide (0<=x.2.1/\x.2.1<=9)&&decide (-1<=x.2.2/\x.2.2<=1)
theorem z9h(b:Bool)(n m:Int):ag (aq b (some (bJ 0 n)) (some false)) (fun x1=>ag (aq x1 (some (bJ n 9)) (some false)) (fun x2=>ag (aq x2 (some (bJ (-1) m)) (some false)) (fun x3=>ag (aq x3 (some (bJ m 1)) (some false)) (fun x4=>some (x4,())))))=some (b&&decide (0<=n/\n<=9)&&decide (-1<=m/\m<=1),()):=by
 have e1:decide (0<=n/\n<=9)=(bJ 0 n&&bJ n 9):=by unfold bJ;rw[Bool.decide_and]
 have e2:decide (-1<=m/\m<=1)=(bJ (-1) m&&bJ m 1):=by unfold bJ;rw[Bool.decide_and]
 rw[e1,e2];cases b<;>cases bJ 0 n<;>cases bJ n 9<;>cases bJ (-1) m<;>cases bJ m 1<;>rfl
theorem qxw(x:ay)(hx:gF x):kO (x,())=some (gQ x,()):=by obtain⟨s,n,m⟩:=x;rw[Xw,qna s hx.1,af];exact z9h _ n m
theorem qjb(x:ay)(hx:gF x)(_:x.1.length<=1000000):kO (x,())=some (gQ x,()):=qxw x hx
def qT(l:List ay)(op:List Int):Option ay:=l.find? fun x=>decide (x.1=op)
theorem zas(x:ay)(op:List Int):o9 (x,op,())=some (bx x.1 op,()):=XA x.1 x.2.1 x.2.2 op
theorem z20(n:Bool)(l:List ay)(op:List Int)(hl:l.length<=1000000):∀(m k:Nat),k+m=l.length->∃r,aM na (⟨n,l⟩,op,(l.length:Int),(k:Int),())=some (r,())/\((r=-1/\qT (l.drop k) op=none)\/∃j x:_,r=((j:Nat):Int)/\l[j]?=some x/\qT (l.drop k) op=some x):=by
 intro m
 induction m with
 |zero=>intro k hk;refine⟨-1,bX ?_,.inl ⟨rfl,by rw[zw om];rfl⟩⟩;unfold na;simp only;rw[cd,if_neg om]
 |succ m ih=>
  intro k hk;have hc:k<l.length:=om
  have hf:qT (l.drop k) op=if l[k].1=op then some l[k] else qT (l.drop (k+1)) op:=by rw[jk hc];unfold qT;rw[List.find?_cons];by_cases h:l[k].1=op<;>simp[h]
  have step:na (⟨n,l⟩,op,(l.length:Int),(k:Int),())=if l[k].1=op then some (.inr ((k:Int),())) else some (.inl (⟨n,l⟩,op,(l.length:Int),((k+1:Nat):Int),())):=by unfold na;simp only;rw[cd,if_pos om,bR (ze hc),af,zas,af,Cd,aO om]
  by_cases h:l[k].1=op
  ·rw[if_pos h] at step hf;exact⟨k,bX step,.inr ⟨k,l[k],rfl,ze hc,hf⟩⟩
  ·rw[if_neg h] at step hf;obtain⟨r,h1,h2⟩:=ih (k+1) om;rw[hf];exact⟨r,by rw[dC step,h1],h2⟩
theorem find_spec(n:Bool)(l:List ay)(op:List Int)(hl:l.length<=1000000):kg (⟨n,l⟩,op,())=some (match qT l op with|some x=>(x,true,())|none=>(([],0,0),false,())):=by
 obtain⟨r,h1,h2⟩:=z20 n l op hl l.length 0 om;rw[List.drop_zero] at h2;have h1:aM na (⟨n,l⟩,op,ae l,0,())=some (r,()):=h1;rw[XD,XB,h1,af,cd];rcases h2 with ⟨rfl,h2⟩|⟨j,x,rfl,h3,h4⟩
 ·rw[if_pos dc,h2]
 ·rw[if_neg om,bR h3,af,h4]
def gL(l:List ay):Prop:=(∀x,x∈l->gF x)/\(∀x,x∈l->x.1.length<=1000000)/\l.length<=1000000
theorem gL.take{l:List ay}(h:gL l)(k:Nat):gL (l.take k):=⟨fun x hx=>h.1 x (List.mem_of_mem_take hx),fun x hx=>h.2.1 x (List.mem_of_mem_take hx),by rw[zJ];have:=h.2.2;omega⟩
theorem qxx(n:Bool){l:List ay}(h:gL l):∀(m k:Nat),k+m=l.length->∃r,aM mZ (⟨n,l⟩,(l.length:Int),(k:Int),())=some (r,())/\(0<=r↔(l.drop k).any (fun x=>!gQ x)=true):=by
 intro m;have hl:=h.2.2
 induction m with
 |zero=>intro k hk;refine⟨-1,bX ?_,by rw[zw om];simp⟩;unfold mZ;simp only;rw[cd,if_neg om]
 |succ m ih=>
  intro k hk;have hd:k<l.length:=om
  rw[jk hd];have hr:=qjb l[k] (h.1 _ (List.getElem_mem hd)) (h.2.1 _ (List.getElem_mem hd));have hc:o8 (l[k],())=some (!gQ l[k],()):=by have:=Xx l[k].1 l[k].2.1 l[k].2.2;have hr:kO ((l[k].1,l[k].2.1,l[k].2.2),())=some (gQ l[k],()):=hr;rw[hr,af] at this;exact this
  have step:mZ (⟨n,l⟩,(l.length:Int),(k:Int),())=if gQ l[k]=false then some (.inr ((k:Int),())) else some (.inl (⟨n,l⟩,(l.length:Int),((k+1:Nat):Int),())):=by unfold mZ;simp only;rw[cd,if_pos om,bR (ze hd),af,hc,af,aO om];cases gQ l[k]<;>rfl
  cases hb:gQ l[k] with
  |false=>rw[if_pos hb] at step;exact⟨k,bX step,by simp[hb,-List.getElem_cons_drop]⟩
  |true=>rw[if_neg (by rw[hb];decide)] at step;obtain⟨r,h1,h2⟩:=ih (k+1) om;exact⟨r,by rw[dC step,h1],by rw[h2];simp[hb,-List.getElem_cons_drop]⟩
def Hk(l:List ay)(k:Nat):Bool:=match l[k]? with
 |some x=>(qT (l.take k) x.1).isSome
 |none=>false
def od(l:List ay):Nat->Nat->Bool
 |0,_=>false
 |m+1,k=>Hk l k||od l m (k+1)
def eH(l:List ay):Int:=if 400<l.length\/l.any (fun x=>!gQ x)=true then 40 else if od l l.length 0=true then 41 else 0
theorem z21{x:ay}(h:gQ x=true):x.1≠[]:=by intro e;unfold gQ sX Bp at h;rw[e] at h;simp at h
theorem qnj{l:List ay}{op:List Int}{x:ay}(h:qT l op=some x):x∈l/\x.1=op:=⟨List.mem_of_find?_eq_some h,by have:=List.find?_some h;simpa using this⟩
theorem que(n1 n2:Bool){l:List ay}(h:gL l)(hr:∀x,x∈l->gQ x=true):∀(m k:Nat),k+m=l.length->aM pJ (⟨n1,l⟩,⟨n2,l⟩,(l.length:Int),(k:Int),())=some (if od l m k=true then 41 else 0,()):=by
 intro m;have hl:=h.2.2
 induction m with
 |zero=>intro k hk;refine bX ?_;unfold pJ;simp only;rw[cd,if_neg om];rfl
 |succ m ih=>
  intro k hk;have hc:k<l.length:=om
  have hg:=ze hc;have hd:Hk l k=(qT (l.take k) l[k].1).isSome:=by unfold Hk;rw[hg]
  have hf:=find_spec n1 (l.take k) l[k].1 (h.take k).2.2;have step:pJ (⟨n1,l⟩,⟨n2,l⟩,(l.length:Int),(k:Int),())=if Hk l k=true then some (.inr (41,())) else some (.inl (⟨n1,l⟩,⟨n2,l⟩,(l.length:Int),((k+1:Nat):Int),())):=by
   unfold pJ;simp only;rw[cd,if_pos om,bR hg,af,Hj om,af,hf,af,aO om,hd];cases he:qT (l.take k) l[k].1 with
   |none=>rfl
   |some x=>have hx:=z21 (hr x (List.mem_of_mem_take (qnj he).1));have:bx x.1 []=false:=beq_eq_false_iff_ne.2 hx;simp only[this];rfl
  unfold od;cases hb:Hk l k with
  |true=>rw[hb,if_pos rfl] at step;rw[bX step];rfl
  |false=>rw[hb,if_neg Bool.false_ne_true] at step;rw[dC step,ih (k+1) om,Bool.false_or]
theorem MU(n:Bool){l:List ay}(h:gL l):fK (⟨n,l⟩,())=some (eH l,()):=by
 have hl:=h.2.2;obtain⟨r,h1,h2⟩:=qxx n h l.length 0 om;rw[List.drop_zero] at h2;have h1:aM mZ (⟨n,l⟩,ae l,0,())=some (r,()):=h1;rw[XE,Xz,Xy,h1,af,af];have hc:bJ 0 r=l.any (fun x=>!gQ x):=by rw[Bool.eq_iff_iff,<-h2];exact decide_eq_true_iff
 rw[hc,cd];unfold eH;by_cases h4:400<l.length
 ·rw[if_pos (by show(400:Int)<(l.length:Int);omega),af,if_pos (.inl h4)];rfl
 ·rw[if_neg (by show ¬(400:Int)<(l.length:Int);omega),af];cases ha:l.any (fun x=>!gQ x) with
  |true=>rw[if_pos (.inr rfl)];rfl
  |false=>
   rw[aH,if_neg (by simp[h4])];have hr:∀x,x∈l->gQ x=true:=fun x hx=>by have:=List.any_eq_false.1 ha x hx;simpa using this
   exact que n n h hr l.length 0 om
theorem z22(l:List ay)(op:List Int):l.any (fun x=>decide (x.1=op))=(qT l op).isSome:=by unfold qT;rw[Bool.eq_iff_iff,jb,List.find?_isSome]
theorem qs1{l:List ay}{j:Nat}(hj:j<l.length):Hk l j=(l.take j).any (fun x=>decide (x.1=l[j].1)):=by unfold Hk;rw[ze hj,z22]
theorem MW{l:List ay}(h:eH l=0):l.length<=400/\(∀x,x∈l->gQ x=true)/\od l l.length 0=false:=by
 unfold eH at h;split at h
 ·cases h
 ·rename_i h1;split at h
  ·cases h
  ·rename_i h2;refine⟨by have:¬400<l.length:=fun e=>h1 (.inl e);omega,fun x hx=>?_,by simpa using h2⟩;have:¬l.any (fun x=>!gQ x)=true:=fun e=>h1 (.inr e);have:=List.any_eq_false.1 (Bool.eq_false_iff.2 this) x hx;simpa using this
theorem qnk(l:List ay):∀(m k:Nat),od l m k=false↔∀j,k<=j->j<k+m->Hk l j=false
 |0,k=>by simp[od];intro j h1 h2;omega
 |m+1,k=>by
  unfold od;rw[Bool.or_eq_false_iff,qnk l m (k+1)];constructor
  ·rintro⟨h1,h2⟩ j h3 h4;by_cases e:j=k
   ·subst e;exact h1
   ·exact h2 j om om
  ·intro h;exact⟨h k (Nat.le_refl _) om,fun j h1 h2=>h j om om⟩
theorem jl{l:List ay}:od l l.length 0=false↔l.Pairwise fun x y=>x.1≠y.1:=by
 rw[qnk,List.pairwise_iff_getElem];constructor
 ·intro h i j hi hj hc e;have:=h j om om;rw[qs1 hj,List.any_eq_false] at this;have hm:l[i]∈l.take j:=by rw[List.mem_take_iff_getElem];exact⟨i,by omega,rfl⟩
  have:=this _ hm;simp[e] at this
 ·intro h j _ hj;have hj:j<l.length:=om
  rw[qs1 hj,List.any_eq_false];intro x hx;obtain⟨i,hi,rfl⟩:=List.mem_take_iff_getElem.1 hx;have:=h i j om hj om;simpa using this
theorem qs2{l:List ay}(h1:l.length<=400)(h2:∀x,x∈l->gQ x=true)(h3:l.Pairwise fun x y=>x.1≠y.1):eH l=0:=by
 unfold eH;rw[if_neg,if_neg (by rw[jl.2 h3];decide)];rintro(h|h)
 ·omega
 ·obtain⟨x,hx,hr⟩:=jb.1 h;rw[h2 x hx] at hr;cases hr
theorem qxy{n:Nat}(h:n<=1000000):sP (⟨true,[]⟩,(n:Int),())=some (⟨decide ((n:Int)=0),[]⟩,()):=by unfold sP;have h1:decide (0<=(n:Int))=true:=zo om;have h2:decide ((n:Int)<=1000000)=true:=zo om;simp only[h1,h2];rfl
def lB(ls:List (Sl Int)):Nat:=(ls.map fun s=>s.l.length).sum
theorem qnl(s:Sl Int)(ls:List (Sl Int)):lB (s::ls)=s.l.length+lB ls:=by simp[lB]
theorem qxz(b:Bool)(ls:List (Sl Int))(hn:ls.length<=1000):∀(m k:Nat) (out:Sl Int),k+m=ls.length->out.l.length+lB (ls.drop k)<=1000000->∃q,aM p9 (⟨b,ls⟩,(ls.length:Int),(k:Int),out,())=some (.inr (⟨q,out.l++((ls.drop k).map (·.l)).flatten⟩,())):=by
 intro m
 induction m with
 |zero=>intro k out hk ho;refine⟨out.nil,bX ?_⟩;unfold p9;simp only;rw[cd,if_neg om,zw om];simp
 |succ m ih=>
  intro k out hk ho;have hc:k<ls.length:=om
  rw[jk hc,qnl] at ho;obtain⟨q,hq⟩:=ih (k+1) ⟨aD out.nil (ch ls[k].l),out.l++ls[k].l⟩ om (by show(out.l++ls[k].l).length+_<=_;rw[zh];omega);refine⟨q,?_⟩;have step:p9 (⟨b,ls⟩,(ls.length:Int),(k:Int),out,())=some (.inl (⟨b,ls⟩,(ls.length:Int),((k+1:Nat):Int),⟨aD out.nil (ch ls[k].l),out.l++ls[k].l⟩,())):=by unfold p9;simp only;rw[cd,if_pos om,bR (ze hc),af,fm (by unfold aW ae;omega),af,aO om];rfl
  rw[dC step,hq,jk hc,zI,List.flatten_cons,zC]
theorem qy0(b:Bool)(ls:List (Sl Int))(hn:ls.length<=1000)(ht:lB ls<=1000000):∀(m k sz:Nat),k+m=ls.length->sz+lB (ls.drop k)=lB ls->∃q,aM qb (⟨b,ls⟩,(sz:Int),⟨b,ls⟩,(ls.length:Int),(k:Int),())=some (⟨q,(ls.map (·.l)).flatten⟩,()):=by
 intro m
 induction m with
 |zero=>
  intro k sz hk hs;rw[zw om] at hs;have hs:sz=lB ls:=by simpa[lB] using hs
  obtain⟨q,hq⟩:=qxz b ls hn ls.length 0 ⟨decide ((sz:Int)=0),[]⟩ om (by rw[List.drop_zero];simpa using ht);refine⟨q,bX ?_⟩;unfold qb;simp only;rw[cd,if_neg om,qxy om,af];exact hq.trans (by rw[List.drop_zero];rfl)
 |succ m ih=>
  intro k sz hk hs;have hc:k<ls.length:=om
  rw[jk hc,qnl] at hs;obtain⟨q,hq⟩:=ih (k+1) (sz+ls[k].l.length) om om;refine⟨q,?_⟩;have ea:aA .i64 (sz:Int) (ae ls[k].l)=((sz+ls[k].l.length:Nat):Int):=by unfold ae;rw[tH om om];omega
  have c1:aE ((sz+ls[k].l.length:Nat):Int) 0=false:=zn om;have step:qb (⟨b,ls⟩,(sz:Int),⟨b,ls⟩,(ls.length:Int),(k:Int),())=some (.inl (⟨b,ls⟩,((sz+ls[k].l.length:Nat):Int),⟨b,ls⟩,(ls.length:Int),((k+1:Nat):Int),())):=by unfold qb;simp only;rw[cd,if_pos om,bR (ze hc),af,ea,c1,aH,af,aO om]
  rw[dC step,hq]
theorem qpx(b:Bool)(ls:List (Sl Int))(hn:ls.length<=1000)(ht:lB ls<=1000000):∃q,sQ (⟨b,ls⟩,())=some (⟨q,(ls.map (·.l)).flatten⟩,()):=by rw[Zw];exact qy0 b ls hn ht ls.length 0 0 om (by rw[List.drop_zero,zO])
theorem TU{a b:Nat}(h:b<=a)(ha:a<=1000000000):cq .i64 (a:Int) (b:Int)=((a-b:Nat):Int):=by rw[qL om om];omega
theorem z9i(b1 b2:Bool)(O:List Int)(o:Int)(Q:List (Sl Int))(p2 p1:Sl Int)(hl:p2.l.length+p1.l.length<=100000)(hO:O.length<=1000)(hQ:Q.length<=1000):∃q,mr (⟨b1,O++[o]⟩,⟨b2,Q++[p2,p1]⟩,())=some (⟨b1,O⟩,⟨false,Q++[⟨q,o::(p2.l++p1.l)⟩]⟩,()):=by
 obtain⟨q,hq⟩:=qpx false [⟨false,[o]⟩,p2,p1] (by show 3<=1000;decide) (by simp[lB];omega);refine⟨q,?_⟩;have l1:ae (O++[o])=((O.length+1:Nat):Int):=by simp[ae]
 have l2:ae (Q++[p2,p1])=((Q.length+2:Nat):Int):=by simp[ae]
 have s1:cq .i64 ((O.length+1:Nat):Int) 1=(O.length:Int):=by rw[show(1:Int)=((1:Nat):Int) from rfl,TU om om,Nat.add_sub_cancel]
 have s2:cq .i64 ((Q.length+2:Nat):Int) 2=(Q.length:Int):=by rw[show(2:Int)=((2:Nat):Int) from rfl,TU om om,Nat.add_sub_cancel]
 have s3:cq .i64 ((Q.length+2:Nat):Int) 1=((Q.length+1:Nat):Int):=by rw[show(1:Int)=((1:Nat):Int) from rfl,TU om om];rfl
 have g1:(O++[o])[O.length]?=some o:=by simp
 have g2:(Q++[p2,p1])[Q.length]?=some p2:=by simp
 have g3:(Q++[p2,p1])[Q.length+1]?=some p1:=by simp
 have k1:bC (O++[o]) (O.length:Int)=some O.length:=mw (by simp);have k2:bC (Q++[p2,p1]) (Q.length:Int)=some Q.length:=mw (by simp);have k3:bC (Q++[p2,p1]) ((Q.length+1:Nat):Int)=some (Q.length+1):=mw (by simp);have c1:cF ((O.length+1:Nat):Int) (O.length:Int)=some O.length:=by unfold cF;rw[if_pos om];rfl
 have c2:cF ((Q.length+2:Nat):Int) (Q.length:Int)=some Q.length:=by unfold cF;rw[if_pos om];rfl
 have t1:aF (O++[o]) O.length=O:=List.take_left;have t2:aF (Q++[p2,p1]) Q.length=Q:=List.take_left;have hd:(([⟨false,[o]⟩,p2,p1]:List (Sl Int)).map (·.l)).flatten=o::(p2.l++p1.l):=by simp
 rw[hd] at hq;have fo:∀x:Sl Int,fit (aW (ae Q) (ae [x]))=some ():=fun x=>fm (by simp only[aW,ae,List.length_singleton];omega);have hc:sQ (⟨false,([⟨false,([o]:List Int)⟩,p2,p1]:List (Sl Int))⟩,())=some (⟨q,o::(p2.l++p1.l)⟩,()):=hq;rw[Zx];simp only[l1,l2,s1,s2,s3,k1,k2,k3,af,vN g1,vN g2,vN g3,hc,c1,c2,fY,aP,t1,t2,fo,ch,List.isEmpty_cons,aH,app]
end Fn
open Fx (B Inv vP lo vQ wH Ll ix)
namespace Fn
def iI(fs:List ay)(i:Nat):Int:=match fs[i]? with
 |some x=>x.2.1
 |none=>0
def dV(fs:List ay)(i:Nat):Int:=match fs[i]? with
 |some x=>x.2.2
 |none=>0
theorem z4i{fs:List ay}{i:Nat}{x:ay}(h:fs[i]?=some x):iI fs i=x.2.1:=by unfold iI;rw[h]
theorem qy1{fs:List ay}{i:Nat}{x:ay}(h:fs[i]?=some x):dV fs i=x.2.2:=by unfold dV;rw[h]
def ue(S:List (Nat×List Int))(cur:List Int)(op:List Int)(pt:List (Sl Int)):Prop:=op.reverse=S.map (fun p=>(p.1:Int))/\pt.reverse.map (·.l)=cur::S.map (·.2)
theorem ue.pop{o:Nat}{P cur:List Int}{S:List (Nat×List Int)}{op:List Int}{pt:List (Sl Int)}(h:ue ((o,P)::S) cur op pt):∃O Q p2 p1,op=O++[(o:Int)]/\pt=Q++[p2,p1]/\p2.l=P/\p1.l=cur/\O.length=S.length/\Q.length=S.length/\∀q,q.l=(o:Int)::(P++cur)->ue S ((o:Int)::(P++cur)) O (Q++[q]):=by
 obtain⟨h1,h2⟩:=h;cases hr:op.reverse with
 |nil=>rw[hr] at h1;cases h1
 |cons a O'=>
  rw[hr,zI] at h1;injection h1 with h3 h4;subst h3;cases hp:pt.reverse with
  |nil=>rw[hp] at h2;cases h2
  |cons p1 Q1=>
   rw[hp,zI,zI] at h2;injection h2 with h5 h6;cases Q1 with
   |nil=>cases h6
   |cons p2 Q'=>
    rw[zI] at h6;injection h6 with h7 h8;have e1:op=O'.reverse++[(o:Int)]:=by have:=congrArg List.reverse hr;rw[List.reverse_reverse] at this;rw[this,List.reverse_cons]
    have e2:pt=Q'.reverse++[p2,p1]:=by have:=congrArg List.reverse hp;rw[List.reverse_reverse] at this;rw[this,List.reverse_cons,List.reverse_cons,zC];rfl
    have n1:O'.length=S.length:=by have:=congrArg List.length h4;simpa using this
    have n2:Q'.length=S.length:=by have:=congrArg List.length h8;simpa using this
    refine⟨O'.reverse,Q'.reverse,p2,p1,e1,e2,h7,h5,by rw[List.length_reverse,n1],by rw[List.length_reverse,n2],fun q hq=>⟨by rw[List.reverse_reverse,h4],?_⟩⟩;rw[List.reverse_append,List.reverse_reverse];show q.l::Q'.map (·.l)=_;rw[hq,h8]
theorem Inv.short{lv sd:Nat->Int}:∀{S:List (Nat×List Int)} {cur:List Int} {k:Nat},Inv lv sd S cur k->S.length<=k
 |[],_,_,_=>Nat.zero_le _
 |(o,P)::S,cur,k,h=>by have:=Inv.short h.2.2.2.2.1;have h1:=h.1;rw[zf];omega
theorem Inv.inside{lv sd:Nat->Int}{o k:Nat}{P cur:List Int}{S:List (Nat×List Int)}(h:Inv lv sd ((o,P)::S) cur k):P.length+cur.length<=2*k:=by have h1:=(Fx.Inv.B h.pop).len;rw[zf,zh] at h1;omega
theorem qy2(b1 b2:Bool){lv sd:Nat->Int}{o k:Nat}{P cur:List Int}{S:List (Nat×List Int)}(h:Inv lv sd ((o,P)::S) cur k)(hk:k<=400){op:List Int}{pt:List (Sl Int)}(hr:ue ((o,P)::S) cur op pt):∃qu b3 qv,mr (⟨b1,op⟩,⟨b2,pt⟩,())=some (⟨b1,qu⟩,⟨b3,qv⟩,())/\ue S ((o:Int)::(P++cur)) qu qv:=by obtain⟨O,Q,p2,p1,e1,e2,e3,e4,e5,e6,e7⟩:=hr.pop;have hs:=Inv.short h;rw[zf] at hs;have hi:=Inv.inside h;obtain⟨q,hq⟩:=z9i b1 b2 O (o:Int) Q p2 p1 (by rw[e3,e4];omega) om om;refine⟨O,false,Q++[⟨q,(o:Int)::(p2.l++p1.l)⟩],by rw[e1,e2];exact hq,e7 _ (by rw[e3,e4])⟩
theorem quf(b0 b1:Bool){fs:List ay}(hn:fs.length<=400){k:Nat}(hk:k<fs.length)(opt:List Int)(_hs:∀o,o<=k->dV fs o=-1\/dV fs o=0\/dV fs o=1):∀(S:List (Nat×List Int)) (cur:List Int) (op:List Int) (b2:Bool) (pt:List (Sl Int)),Inv (iI fs) (dV fs) S cur k->ue S cur op pt->∃qu b3 qv,aM qd ((k:Int),(fs.length:Int),(k:Int),⟨b0,fs⟩,opt,iI fs k,dV fs k,⟨b1,op⟩,⟨b2,pt⟩,())=some (match vQ (iI fs) (dV fs) k S cur with
    |none=>.inr (.inr (.inr (⟨true,[]⟩,43,())))
    |some _=>.inl ((k:Int),(fs.length:Int),(k:Int),⟨b0,fs⟩,⟨b1,qu⟩,⟨b3,qv⟩,()))/\
   ∀S' fU,vQ (iI fs) (dV fs) k S cur=some (S',fU)->ue S' fU qu qv:=by
 intro S
 induction S with
 |nil=>
  intro cur op b2 pt h hr;have e:op=[]:=by have:=hr.1;simpa using this
  subst e;refine⟨[],b2,pt,bX ?_,fun S' fU e=>?_⟩
  ·unfold qd;simp only;rw[cd,if_neg (by show ¬(0:Int)<(([]:List Int).length:Int);simp)];rfl
  ·injection e with e;injection e with e1 e2;subst e1 e2;exact hr
 |cons s S ih=>
  obtain⟨o,P⟩:=s;intro cur op b2 pt h hr;have ho:o<k:=h.1;have hx:=ze (show o<fs.length by omega);obtain⟨O,Q,p2,p1,e1,e2,_,_,e5,_,_⟩:=hr.pop;have hc:=Inv.short h;rw[zf] at hc;have l1:ae op=((O.length+1:Nat):Int):=by rw[e1];simp[ae]
  have s1:cq .i64 ((O.length+1:Nat):Int) 1=(O.length:Int):=by rw[show(1:Int)=((1:Nat):Int) from rfl,TU om om,Nat.add_sub_cancel]
  have k1:bC op (O.length:Int)=some O.length:=mw (by rw[e1];simp);have g1:nth op O.length=some (o:Int):=vN (by rw[e1];simp);have k2:bC fs (o:Int)=some o:=mw om;have g2:nth fs o=some fs[o]:=vN hx;have hd:=z4i hx;have he:=qy1 hx;have c0:aE 0 ((O.length+1:Nat):Int)=true:=zo om;obtain⟨qu,b3,qv,c1,c2⟩:=qy2 b1 b2 h om hr;have body:qd ((k:Int),(fs.length:Int),(k:Int),⟨b0,fs⟩,opt,iI fs k,dV fs k,⟨b1,op⟩,⟨b2,pt⟩,())=
    if iI fs o<iI fs k then some (.inr (.inl ((k:Int),(fs.length:Int),(k:Int),⟨b0,fs⟩,⟨b1,op⟩,⟨b2,pt⟩,())))
    else if iI fs k<iI fs o then some (.inl ((k:Int),(fs.length:Int),(k:Int),⟨b0,fs⟩,opt,iI fs k,dV fs k,⟨b1,qu⟩,⟨b3,qv⟩,()))
    else if dV fs o≠dV fs k\/dV fs k=0 then some (.inr (.inr (.inr (.inr (⟨true,[]⟩,43,())))))
    else if 0<dV fs k then some (.inr (.inl ((k:Int),(fs.length:Int),(k:Int),⟨b0,fs⟩,⟨b1,op⟩,⟨b2,pt⟩,())))
    else some (.inl ((k:Int),(fs.length:Int),(k:Int),⟨b0,fs⟩,opt,iI fs k,dV fs k,⟨b1,qu⟩,⟨b3,qv⟩,())):=by
   unfold qd;simp only[l1,s1,k1,g1,k2,g2,c0,aP,af];rw[cd,<-hd,<-he];by_cases q1:iI fs o<iI fs k
   ·rw[if_pos q1,if_pos q1]
   ·rw[if_neg q1,if_neg q1,cd];by_cases q2:iI fs k<iI fs o
    ·rw[if_pos q2,if_pos q2,af];simp only[bT,c1,af]
    ·rw[if_neg q2,if_neg q2];have e3:(aq (ai (ak (dV fs o) (dV fs k))) (some true) (some (ak (dV fs k) 0)):Option Bool)=some (decide (dV fs o≠dV fs k\/dV fs k=0)):=by
      rw[wE,rB];by_cases q3:dV fs o=dV fs k
      ·rw[if_pos q3];have:ak (dV fs k) 0=decide (dV fs o≠dV fs k\/dV fs k=0):=by rw[Bool.eq_iff_iff,cT];simp[q3]
       rw[this]
      ·rw[if_neg q3];simp[q3]
     rw[e3,af,z6g];by_cases q3:dV fs o≠dV fs k\/dV fs k=0
     ·rw[if_pos q3,if_pos q3,af];rfl
     ·rw[if_neg q3,if_neg q3,cd];by_cases q4:0<dV fs k
      ·rw[if_pos q4,if_pos q4,af];rfl
      ·rw[if_neg q4,if_neg q4,af];simp only[bT,c1,af]
  unfold vQ
  by_cases q1:iI fs o<iI fs k
  ·rw[if_pos q1] at body ⊢;refine⟨op,b2,pt,bX body,fun S' fU e=>?_⟩;injection e with e;injection e with a1 a2;subst a1 a2;exact hr
  ·rw[if_neg q1] at body ⊢;by_cases q2:iI fs k<iI fs o
   ·rw[if_pos q2] at body ⊢;obtain⟨op2,b4,pt2,d1,d2⟩:=ih _ qu b3 qv h.pop c2;exact⟨op2,b4,pt2,by rw[dC body];exact d1,d2⟩
   ·rw[if_neg q2] at body ⊢;by_cases q3:dV fs o≠dV fs k\/dV fs k=0
    ·rw[if_pos q3] at body ⊢;exact⟨op,b2,pt,bX body,fun S' fU e=>by cases e⟩
    ·rw[if_neg q3] at body ⊢;by_cases q4:0<dV fs k
     ·rw[if_pos q4] at body ⊢;refine⟨op,b2,pt,bX body,fun S' fU e=>?_⟩;injection e with e;injection e with a1 a2;subst a1 a2;exact hr
     ·rw[if_neg q4] at body ⊢;obtain⟨op2,b4,pt2,d1,d2⟩:=ih _ qu b3 qv h.pop c2;exact⟨op2,b4,pt2,by rw[dC body];exact d1,d2⟩
theorem qy3(b1:Bool){lv sd:Nat->Int}{n:Nat}(hn:n<=400):∀(S:List (Nat×List Int)) (cur:List Int) (op:List Int) (b2:Bool) (pt:List (Sl Int)),Inv lv sd S cur n->ue S cur op pt->∃q,aM qe (⟨b1,op⟩,⟨b2,pt⟩,())=some (.inr (.inr (⟨q,Ll S cur⟩,0,()))):=by
 intro S
 induction S with
 |nil=>
  intro cur op b2 pt h hr;have e:op=[]:=by have:=hr.1;simpa using this
  subst e;obtain⟨c,hc⟩:∃c,pt=[c]/\c.l=cur:=by
   have:=hr.2;cases hp:pt.reverse with
   |nil=>rw[hp] at this;cases this
   |cons p1 Q=>
    rw[hp] at this;injection this with h1 h2;obtain rfl:Q=[]:=by cases Q with
     |nil=>rfl
     |cons _ _=>cases h2
    refine⟨p1,?_,h1⟩;have:=congrArg List.reverse hp;rw[List.reverse_reverse] at this;exact this
  obtain⟨rfl,hd⟩:=hc;refine⟨c.nil,bX ?_⟩;unfold qe;simp only;rw[cd,if_neg (by show ¬(0:Int)<(([]:List Int).length:Int);simp)];show some (Sum.inr (Sum.inr (Sum.inr (c,0,()))))=_;rw[<-hd];rfl
 |cons s S ih=>
  obtain⟨o,P⟩:=s;intro cur op b2 pt h hr;obtain⟨qu,b3,qv,c1,c2⟩:=qy2 b1 b2 h hn hr;obtain⟨O,Q,p2,p1,e1,e2,_,_,e5,_,_⟩:=hr.pop;obtain⟨q,hq⟩:=ih _ qu b3 qv h.pop c2;refine⟨q,?_⟩;have step:qe (⟨b1,op⟩,⟨b2,pt⟩,())=some (.inl (⟨b1,qu⟩,⟨b3,qv⟩,())):=by unfold qe;simp only;rw[cd,if_pos (by rw[e1];unfold ae;rw[zh,List.length_singleton];omega),c1,af]
  rw[dC step,hq];rfl
end Fn
open Fx (B Inv vP lo vQ wH Ll ix)
namespace Fn
theorem z23{α β:Type}(f:α->Option β)(a:α):bT f (.inl a)=f a:=Eq.trans (Eq.refl _) (Eq.refl _)
theorem z24{α β:Type}(f:α->Option β)(b:β):bT f (.inr b)=some b:=Eq.trans (Eq.refl _) (Eq.refl _)
theorem kB{α:Type}(l m:List α):app l m=l++m:=Eq.trans (Eq.refl _) (Eq.refl _)
theorem z74{α:Type}(x:α):ch [x]=false:=Eq.trans (Eq.refl _) (Eq.refl _)
theorem ue.push{S:List (Nat×List Int)}{cur:List Int}{op:List Int}{pt:List (Sl Int)}(h:ue S cur op pt)(k:Nat)(q:Sl Int):ue ((k,cur)::S) q.l (op++[(k:Int)]) (pt++[q]):=by
 obtain⟨h1,h2⟩:=h;refine⟨?_,?_⟩
 ·rw[List.reverse_append];show(k:Int)::op.reverse=_;rw[h1];rfl
 ·rw[List.reverse_append];show q.l::pt.reverse.map (·.l)=_;rw[h2];rfl
theorem ue.len{S:List (Nat×List Int)}{cur:List Int}{op:List Int}{pt:List (Sl Int)}(h:ue S cur op pt):op.length=S.length/\pt.length=S.length+1:=by obtain⟨h1,h2⟩:=h;have e1:=congrArg List.length h1;have e2:=congrArg List.length h2;simp only[List.length_reverse,zA,zf] at e1 e2;exact⟨e1,e2⟩
theorem qug(b0:Bool){fs:List ay}(hn:fs.length<=400)(hs:∀o,o<fs.length->dV fs o=-1\/dV fs o=0\/dV fs o=1):∀(m k:Nat) (S:List (Nat×List Int)) (cur:List Int) (b1:Bool) (op:List Int) (b2:Bool) (pt:List (Sl Int)),k+m=fs.length->Inv (iI fs) (dV fs) S cur k->lo S=k->ue S cur op pt->∃q,aM lp ((fs.length:Int),(k:Int),⟨b0,fs⟩,⟨b1,op⟩,⟨b2,pt⟩,())=some (match wH (iI fs) (dV fs) m k S cur with
   |none=>.inr (⟨true,[]⟩,43,())
   |some (S',fU)=>.inr (⟨q,Ll S' fU⟩,0,())):=by
 intro m
 induction m with
 |zero=>
  intro k S cur b1 op b2 pt hk h hl hr;have h':Inv (iI fs) (dV fs) S cur fs.length:=by rw[<-hk];exact h
  obtain⟨q,hq⟩:=qy3 b1 (n:=fs.length) hn S cur op b2 pt h' hr;refine⟨q,bX ?_⟩;unfold lp;simp only;rw[cd,if_neg om,hq];rfl
 |succ m ih=>
  intro k S cur b1 op b2 pt hk h hl hr;have hc:k<fs.length:=om
  have hx:=ze hc;have he:=z4i hx;have hf:=qy1 hx;obtain⟨qu,b3,qv,w1,w2⟩:=quf b0 b1 hn hc fs[k].1 (fun o ho=>hs o om) S cur op b2 pt h hr;rw[he,hf] at w1;have hw:=Fx.qs (lv:=iI fs) (sd:=dV fs) (k:=k) (fun o ho=>hs o om) S cur h (vP.start hl);unfold wH;cases hd:vQ (iI fs) (dV fs) k S cur with
  |none=>rw[hd] at w1;refine⟨true,bX ?_⟩;unfold lp;simp only;rw[cd,if_pos om,mw hc,af,vN hx,af,w1,af,z24]
  |some z=>
   obtain⟨S',fU⟩:=z;rw[hd] at w1 hw;obtain⟨g1,g2,g3⟩:=hw;have hg:=(w2 S' fU hd).push k ⟨false,[-2-(k:Int)]⟩;obtain⟨n1,n2⟩:=(w2 S' fU hd).len;have hj:=Inv.short g1;obtain⟨q,hq⟩:=ih (k+1) _ _ (aD b1 false) (qu++[(k:Int)]) (aD b3 false) (qv++[⟨false,[-2-(k:Int)]⟩]) om (g1.push g2 g3) rfl hg;refine⟨q,?_⟩;have e2:cq .i64 (-2) (k:Int)=-2-(k:Int):=qL om om;have f1:fit (aW (ae qu) (ae ([(k:Int)]:List Int)))=some ():=fm (by simp only[aW,ae,List.length_singleton];omega);have f2:fit (aW (ae qv) (ae ([⟨false,[-2-(k:Int)]⟩]:List (Sl Int))))=some ():=fm (by simp only[aW,ae,List.length_singleton];omega);have step:lp ((fs.length:Int),(k:Int),⟨b0,fs⟩,⟨b1,op⟩,⟨b2,pt⟩,())=some (.inl ((fs.length:Int),((k+1:Nat):Int),⟨b0,fs⟩,⟨aD b1 false,qu++[(k:Int)]⟩,⟨aD b3 false,qv++[⟨false,[-2-(k:Int)]⟩]⟩,())):=by unfold lp;simp only;rw[cd,if_pos om,mw hc,af,vN hx,af,w1,af];rw[z23];simp only[e2,f1,f2,af,aO (by omega:k<=1000000000),kB,z74]
   rw[dC step,hq]
def MY(fs:List ay):Option (List Int):=ix (iI fs) (dV fs) fs.length
theorem z9j(b0:Bool){fs:List ay}(hn:fs.length<=400)(hs:∀o,o<fs.length->dV fs o=-1\/dV fs o=0\/dV fs o=1):∃q,aM lp (ae fs,0,⟨b0,fs⟩,⟨true,[]⟩,⟨false,[⟨false,[-1]⟩]⟩,())=some (.inr (match MY fs with|none=>(⟨true,[]⟩,43,())|some x=>(⟨q,x⟩,0,()))):=by
 obtain⟨q,hq⟩:=qug b0 hn hs fs.length 0 [] [-1] true [] false [⟨false,[-1]⟩] om (show B _ _ 0 0 [-1] from B.nil 0) rfl ⟨rfl,rfl⟩;refine⟨q,?_⟩;refine Eq.trans hq ?_;unfold MY ix;cases wH (iI fs) (dV fs) fs.length 0 [] [-1] with
 |none=>rfl
 |some z=>rfl
def wP(l:List ay):List (List Int)->Option (List ay)
 |[]=>some []
 |op::r=>match qT l op with
  |none=>none
  |some x=>match wP l r with
   |none=>none
   |some y=>some (x::y)
theorem q9a{l:List ay}:∀{ops:List (List Int)} {fs:List ay},wP l ops=some fs->fs.length=ops.length/\∀x,x∈fs->x∈l
 |[],fs,h=>by injection h with h;subst h;exact⟨rfl,fun x hx=>by cases hx⟩
 |op::r,fs,h=>by
  unfold wP at h;split at h
  ·cases h
  ·rename_i x hx;split at h
   ·cases h
   ·rename_i y hy;injection h with h;subst h;obtain⟨h1,h2⟩:=q9a hy;refine⟨by rw[zf,zf,h1],fun z hz=>?_⟩;rcases zt.1 hz with rfl|hz
    ·exact(qnj hx).1
    ·exact h2 z hz
theorem qs3{l fs:List ay}(hr:∀x,x∈l->gQ x=true)(hm:∀x,x∈fs->x∈l)(o:Nat)(ho:o<fs.length):dV fs o=-1\/dV fs o=0\/dV fs o=1:=by rw[qy1 (ze ho)];have:=hr _ (hm _ (List.getElem_mem ho));unfold gQ at this;simp only[zd,decide_eq_true_eq] at this;omega
theorem z75(n1 n2 b:Bool){l:List ay}(hl:l.length<=1000000)(ops:List (List Int))(hn:ops.length<=400):∀(m k:Nat) (acc:List ay),k+m=ops.length->acc.length=k->aM ia (⟨n1,l⟩,⟨n2,ops⟩,(ops.length:Int),(k:Int),⟨b,acc++List.replicate m (([]:List Int),0,0)⟩,())=(match wP l (ops.drop k) with
   |none=>some (⟨true,[]⟩,42,())
   |some r=>aM ia (⟨n1,l⟩,⟨n2,ops⟩,(ops.length:Int),(ops.length:Int),⟨b,acc++r⟩,())):=by
 intro m
 induction m with
 |zero=>
  intro k acc hk ha;rw[zw om];obtain rfl:k=ops.length:=om
  rfl
 |succ m ih=>
  intro k acc hk ha;have hc:k<ops.length:=om
  rw[jk hc];unfold wP;have hf:=find_spec n1 l ops[k] hl;have hj:(acc++List.replicate (m+1) (([]:List Int),(0:Int),(0:Int))).length=ops.length:=by rw[zh,List.length_replicate];omega
  cases hg:qT l ops[k] with
  |none=>rw[hg] at hf;refine bX ?_;unfold ia;simp only;rw[cd,if_pos om,bR (ze hc),af,hf,af];rfl
  |some x=>
   rw[hg] at hf;have hd:(acc++List.replicate (m+1) (([]:List Int),(0:Int),(0:Int))).set k x=(acc++[x])++List.replicate m (([]:List Int),0,0):=by rw[List.set_append_right _ _ om,ha,Nat.sub_self,List.replicate_succ,List.set_cons_zero,zC];rfl
   have he:(acc++List.replicate (m+1) (([]:List Int),(0:Int),(0:Int)))[k]?=some (([]:List Int),0,0):=by rw[zR om,ha,Nat.sub_self];rfl
   have step:ia (⟨n1,l⟩,⟨n2,ops⟩,(ops.length:Int),(k:Int),⟨b,acc++List.replicate (m+1) (([]:List Int),0,0)⟩,())=
     some (.inl (⟨n1,l⟩,⟨n2,ops⟩,(ops.length:Int),((k+1:Nat):Int),⟨b,(acc++[x])++List.replicate m (([]:List Int),0,0)⟩,())):=by
    unfold ia;simp only;rw[cd,if_pos om,bR (ze hc),af,hf,af];simp only[ai,Bool.not_true,aH];rw[mw om,af,vN he,af,af,aO om];show some (Sum.inl (_,_,_,_,(⟨b,(acc++List.replicate (m+1) (([]:List Int),(0:Int),(0:Int))).set k x⟩:Sl ay),()))=_;rw[hd]
   rw[dC step,ih (k+1) (acc++[x]) om (by rw[zh,ha];rfl)];cases wP l (ops.drop (k+1)) with
   |none=>rfl
   |some y=>show aM ia (_,_,_,_,(⟨b,(acc++[x])++y⟩:Sl ay),())=aM ia (_,_,_,_,(⟨b,acc++x::y⟩:Sl ay),());rw[zC];rfl
def vS(q:Bool)(l:List ay)(ops:List (List Int)):Sl Int×Int×Unit:=
 if eH l≠0 then(⟨true,[]⟩,eH l,()) else if 400<ops.length then(⟨true,[]⟩,40,()) else match wP l ops with
  |none=>(⟨true,[]⟩,42,())
  |some fs=>match MY fs with
   |none=>(⟨true,[]⟩,43,())
   |some x=>(⟨q,x⟩,0,())
theorem quh(n1 n2:Bool){l:List ay}(h:gL l)(ops:List (List Int)):∃q,kZ (⟨n1,l⟩,⟨n2,ops⟩,())=some (vS q l ops):=by
 rw[Zy,MU n1 h,af];by_cases hc:eH l=0
 ·have e0:ai (ak (eH l) 0)=false:=by rw[hc];rfl
  simp only[e0,aH];rw[cd];by_cases h4:400<ops.length
  ·refine⟨true,?_⟩;unfold vS;rw[if_pos (by show(400:Int)<(ops.length:Int);omega),if_neg (by simpa using hc),if_pos h4]
  ·rw[if_neg (by show ¬(400:Int)<(ops.length:Int);omega)];have he:tn (ae ops) (ae ops)=some ops.length:=by unfold tn ae;rw[if_pos om];rfl
   rw[he,af];have hd:=z75 n1 n2 false h.2.2 ops om ops.length 0 [] om rfl;rw[List.nil_append,List.drop_zero] at hd;have hd:aM ia (⟨n1,l⟩,⟨n2,ops⟩,ae ops,0,⟨false,rep ops.length (([]:List Int),0,0)⟩,())=_:=hd;rw[hd];have res:∀q,vS q l ops=match wP l ops with
     |none=>(⟨true,[]⟩,42,())
     |some fs=>match MY fs with
      |none=>(⟨true,[]⟩,43,())
      |some x=>(⟨q,x⟩,0,()):=fun q=>by
    unfold vS;rw[if_neg (by simpa using hc),if_neg h4]
   cases hf:wP l ops with
   |none=>refine⟨true,?_⟩;rw[res,hf]
   |some fs=>obtain⟨f1,f2⟩:=q9a hf;obtain⟨_,hr,_⟩:=MW hc;obtain⟨q,hq⟩:=z9j false (fs:=fs) om (qs3 hr f2);refine⟨q,?_⟩;rw[res,hf];refine bX ?_;unfold ia;simp only[List.nil_append];rw[cd,if_neg om,hq]
 ·have e0:ai (ak (eH l) 0)=true:=by rw[eP hc];rfl
  refine⟨true,?_⟩;simp only[e0,aP];unfold vS;rw[if_pos hc]
theorem qpy:A9 ()=some (⟨false,qn⟩,()):=ZE
theorem qy4(s:List Int)(n:Bool)(l:List (List Int))(hl:l.length<=1000000):∀(m k:Nat),k+m=l.length->aM qf (s,⟨n,l⟩,(k:Int),())=some (decide (s∈l.drop k),()):=by
 intro m
 induction m with
 |zero=>intro k hk;refine bX ?_;unfold qf;simp only;rw[cd,if_neg (by unfold ae;omega),zw om];simp
 |succ m ih=>
  intro k hk;have hc:k<l.length:=om
  rw[jk hc];have step:qf (s,⟨n,l⟩,(k:Int),())=if l[k]=s then some (.inr (true,())) else some (.inl (s,⟨n,l⟩,((k+1:Nat):Int),())):=by unfold qf;simp only;rw[cd,if_pos (by unfold ae;omega),bR (ze hc),af,Cd,aO om]
  by_cases h:l[k]=s
  ·rw[if_pos h] at step;rw[bX step];simp[h,-List.getElem_cons_drop]
  ·rw[if_neg h] at step;rw[dC step,ih (k+1) om];have:s≠l[k]:=fun e=>h e.symm;simp[this,-List.getElem_cons_drop]
theorem qnm(s:List Int):Fv (s,())=some (decide (s∈qn),()):=by rw[ZF,qpy,af];exact qy4 s false qn dc 25 0 dc
theorem z76(c:Int):∀(m k:Nat),k+m=16->∃r,aM ji (c,aN,(k:Int),())=some (r,())/\r<=5/\(r=5↔c∈aN.drop k):=by
 have hd:aN.length=16:=rfl;intro m
 induction m with
 |zero=>
  intro k hk;rw[zw om];have last:∀(b1 b2 b3 b4:Bool),∃r:Int,(aq b1 (some (Sum.inr (1,()))) (aq b2 (some (Sum.inr (2,()))) (aq b3 (some (Sum.inr (3,()))) (aq b4 (some (Sum.inr (4,()))) (some (Sum.inr (0,())))))):Option ((Int×(List Int)×Int×Unit)⊕(Int×Unit)))=some (.inr (r,()))/\r<=5/\r≠5:=by intro b1 b2 b3 b4;cases b1<;>cases b2<;>cases b3<;>cases b4<;>exact⟨_,rfl,by decide,by decide⟩
  have two:∀(a b:Int) (b2:Bool),(aq (bJ a c) (some b2) (some false):Option Bool)=some (bJ a c&&b2):=fun a b b2=>by cases bJ a c<;>rfl
  have or2:∀(b1 b2:Bool),(aq b1 (some true) (some b2):Option Bool)=some (b1||b2):=fun b1 b2=>by cases b1<;>rfl
  obtain⟨r,h1,h2,h3⟩:=last (bJ 97 c&&bJ c 122) (bJ 65 c&&bJ c 90) (bJ 48 c&&bJ c 57) (ak c 95||ak c 39);refine⟨r,bX ?_,h2,by simp[h3]⟩;unfold ji;simp only;rw[cd,if_neg (by unfold ae;omega),two 97 0,two 65 0,two 48 0,or2];simp only[af];exact h1
 |succ m ih=>
  intro k hk;have hc:k<aN.length:=om
  rw[jk hc];have step:ji (c,aN,(k:Int),())=if aN[k]=c then some (.inr (5,())) else some (.inl (c,aN,((k+1:Nat):Int),())):=by unfold ji;simp only;rw[cd,if_pos (by unfold ae;omega),bR (ze hc),af,rB,aO om]
  by_cases h:aN[k]=c
  ·rw[if_pos h] at step;exact⟨5,bX step,by omega,by simp[h,-List.getElem_cons_drop]⟩
  ·rw[if_neg h] at step;obtain⟨r,h1,h2,h3⟩:=ih (k+1) om;have hn:c≠aN[k]:=fun e=>h e.symm;exact⟨r,by rw[dC step,h1],h2,by rw[h3];simp[hn,-List.getElem_cons_drop]⟩
theorem bP(c:Int):∃r,pF (c,())=some (r,())/\r<=5/\(r=5↔c∈aN):=by obtain⟨r,h1,h2,h3⟩:=z76 c 16 0 rfl;exact⟨r,by rw[Pt];exact h1,h2,h3⟩
theorem qui(s:List Int)(hl:s.length<=1000000):∀(m k:Nat),k+m=s.length->aM jj (s,(k:Int),5,5,())=some (((k+qq (s.drop k):Nat):Int),()):=by
 intro m
 induction m with
 |zero=>intro k hk;refine bX ?_;unfold jj;simp only;rw[cd,if_neg (by unfold ae;omega),zw om];rfl
 |succ m ih=>
  intro k hk;have hc:k<s.length:=om
  rw[jk hc];obtain⟨r,h1,h2,h3⟩:=bP s[k];have c0:aE (k:Int) (ae s)=true:=zo (by unfold ae;omega);have step:jj (s,(k:Int),5,5,())=if s[k]∈aN then some (.inl (s,((k+1:Nat):Int),5,5,())) else some (.inr ((k:Int),())):=by
   unfold jj;simp only[c0,aP,bR (ze hc),af,h1,aO (by omega:k<=1000000000)];by_cases hm:s[k]∈aN
   ·rw[if_pos hm];have:r=5:=h3.2 hm;subst this;rfl
   ·rw[if_neg hm];have:bJ 5 r=false:=zn (fun e=>hm (h3.1 om));simp only[this,aH,af]
  unfold qq;by_cases hm:s[k]∈aN
  ·rw[if_pos hm] at step ⊢;rw[dC step,ih (k+1) om];congr 2;omega
  ·rw[if_neg hm] at step ⊢;rw[bX step];rfl
theorem z9k(s:List Int)(hl:s.length<=1000000):Ba ((5,s,0,0),())=some (sX s,()):=by
 rw[Pv];have c1:aE 0 0=false:=rfl;have c2:ak 5 3=false:=rfl;have c3:ak 0 0=true:=rfl;have c4:ak 5 1=false:=rfl;have c5:ak 5 2=false:=rfl;have c6:ak 5 4=false:=rfl;have c7:ak 5 5=true:=rfl;have hw:A8 (s,0,5,5,())=some ((qq s:Int),()):=by rw[Pu];have:=qui s hl s.length 0 om;rw[List.drop_zero,zO] at this;exact this
 have he:ak (qq s:Int) (ae s)=s.all (fun b=>decide (b∈aN)):=by rw[Bool.eq_iff_iff,cT,<-qrw];unfold ae;omega
 have hn:bx s []=s.isEmpty:=by cases s<;>rfl
 simp only[c1,c2,c3,c4,c5,c6,c7,aH,aP,af,ai,hw,he,hn,qnm];unfold sX Bp;cases s.isEmpty<;>cases s.all (fun b=>decide (b∈aN))<;>cases decide (s∈qn)<;>rfl
theorem qy5(c:Int):∀(m k:Nat),k+m=16->aM ji (c,aN,(k:Int),())=some (bif decide (c∈aN.drop k) then 5 else bif oJ c then 1 else bif my c then 2 else bif Cl c then 3 else bif ak c 95||ak c 39 then 4 else 0,()):=by
 have hd:aN.length=16:=rfl;intro m
 induction m with
 |zero=>intro k hk;rw[zw om];refine bX ?_;unfold ji;simp only;rw[cd,if_neg (by unfold ae;omega)];simp only[MP,Z8,af];show _=some (Sum.inr (bif decide (c∈[]) then _ else _,()));have:decide (c∈([]:List Int))=false:=rfl;rw[this];show(aq (oJ c) _ (aq (my c) _ (aq (Cl c) _ _)):Option _)=_;cases oJ c<;>cases my c<;>cases Cl c<;>cases (ak c 95||ak c 39)<;>rfl
 |succ m ih=>
  intro k hk;have hc:k<aN.length:=om
  rw[jk hc];have step:ji (c,aN,(k:Int),())=if aN[k]=c then some (.inr (5,())) else some (.inl (c,aN,((k+1:Nat):Int),())):=by unfold ji;simp only;rw[cd,if_pos (by unfold ae;omega),bR (ze hc),af,rB,aO om]
  by_cases h:aN[k]=c
  ·rw[if_pos h] at step;rw[bX step];simp[h,-List.getElem_cons_drop]
  ·rw[if_neg h] at step;have hn:c≠aN[k]:=fun e=>h e.symm;rw[dC step,ih (k+1) om];have:decide (c∈aN[k]::aN.drop (k+1))=decide (c∈aN.drop (k+1)):=by simp[hn,-List.getElem_cons_drop]
   rw[this]
theorem qnn(c:Int):pF (c,())=some (Cm c,()):=by rw[Pt];exact qy5 c 16 0 rfl
theorem qpz(s:List Int)(hl:s.length<=1000000):∀(m k:Nat),k+m=s.length->aM jj (s,(k:Int),1,4,())=some (((k+mz (s.drop k):Nat):Int),()):=by
 intro m
 induction m with
 |zero=>intro k hk;refine bX ?_;unfold jj;simp only;rw[cd,if_neg (by unfold ae;omega),zw om];rfl
 |succ m ih=>
  intro k hk;have hc:k<s.length:=om
  rw[jk hc];have c0:aE (k:Int) (ae s)=true:=zo (by unfold ae;omega);have step:jj (s,(k:Int),1,4,())=bif fh s[k] then some (.inl (s,((k+1:Nat):Int),1,4,())) else some (.inr ((k:Int),())):=by unfold jj;simp only[c0,aP,bR (ze hc),af,qnn,aO (by omega:k<=1000000000)];rw[<-qtw];cases bJ 1 (Cm s[k])<;>cases bJ (Cm s[k]) 4<;>rfl
  unfold mz;cases hm:fh s[k] with
  |true=>rw[hm] at step;rw[dC step,ih (k+1) om];simp only[cond_true];congr 2;omega
  |false=>rw[hm] at step;rw[bX step];rfl
theorem z9l(k:Int)(p:Int->Bool)(hp:∀c,fh c=true->ak (Cm c) k=p c)(s:List Int)(hl:s.length<=1000000)(X:Option (Bool×Unit)):aq (ai (bx s ([]:List Int))) (ag (bA s 0) (fun x1=>ag (pF (x1,())) (fun x2=>aq (ak x2.1 k) (ag (A8 (s,0,1,4,())) (fun x3=>aq (ak x3.1 (ae s)) (ag (Fv (s,())) (fun x4=>some (ai x4.1,()))) (some (false,())))) (some (false,()))))) X=bif s.isEmpty then X else some (wO p s,()):=by
 have hw:A8 (s,0,1,4,())=some ((mz s:Int),()):=by rw[Pu];have:=qpz s hl s.length 0 om;rw[List.drop_zero,zO] at this;exact this
 have he:ak (mz s:Int) (ae s)=s.all fh:=by rw[Bool.eq_iff_iff,cT,<-qrx];unfold ae;omega
 cases s with
 |nil=>rfl
 |cons b r=>
  have hn:bx (b::r) []=false:=rfl;have h0:bA (b::r) 0=some b:=rfl;simp only[hn,ai,Bool.not_false,aP,h0,af,qnn,hw,he,qnm];have hi:List.isEmpty (b::r)=false:=rfl;rw[hi,cond_false];unfold wO;rw[hi];show _=some (_&&p b&&_,());cases hb:fh b with
  |true=>rw[hp b hb];cases List.all (b::r) fh<;>cases p b<;>cases decide (b::r∈qn)<;>rfl
  |false=>
   have ha:List.all (b::r) fh=false:=by rw[List.all_cons,hb];rfl
   rw[ha];cases ak (Cm b) k<;>rfl
theorem quj(s:List Int)(hl:s.length<=1000000):Ba ((2,s,0,0),())=some (wO my s,()):=by rw[Pv];have c1:aE 0 0=false:=rfl;have c3:ak 0 0=true:=rfl;have c4:ak 2 1=false:=rfl;have c5:ak 2 2=true:=rfl;simp only[c1,c3,c4,c5,aH,aP,af];rw[z9l 2 my (fun c h=>qtx h) s hl];cases s<;>rfl
end Fn
end Ev
namespace Ev
namespace Pz
abbrev Tx:=List Int
abbrev ND:=Int×Tx×Int×Int
abbrev Tk:=Int×Tx×Int×Int
abbrev PR(α:Type):=Except (Int×Int) α
structure PC where
 l:List Tk
 e:Int
 fx:Tx->Bool
 cl:List Tx->Option (List Int)
def eb{α β:Type}(x:PR α)(f:α->PR β):PR β:=match x with
 |.ok a=>f a
 |.error e=>.error e
variable (c:PC)
def gG(i:Nat):Int:=match c.l[i]? with
 |some t=>t.2.2.2
 |none=>c.e
def eW(i:Nat):Tx:=match c.l[i]? with
 |some t=>t.2.1
 |none=>[]
def num(i:Nat):Int:=match c.l[i]? with
 |some t=>t.2.2.1
 |none=>0
def dL(i:Nat)(k:Int):Bool:=match c.l[i]? with
 |some t=>decide (t.1=k)
 |none=>false
def dP(i:Nat)(ks:List Tx):Bool:=match c.l[i]? with
 |some t=>decide (t.1=6)&&decide (t.2.1∈ks)
 |none=>false
def Bv:Tx:=[102,117,110]
def jN:Tx:=[108,101,116]
def P9:Tx:=[105,102]
def Qa:Tx:=[114,97,105,115,101]
def Lm:Tx:=[116,114,121]
def gH:Tx:=[114,101,99]
def bF:Tx:=[45,62]
def Bw:Tx:=[61]
def TV:Tx:=[105,110]
def z25:Tx:=[116,104,101,110]
def z26:Tx:=[101,108,115,101]
def qy6:Tx:=[109,97,116,99,104]
def TW:Tx:=[119,105,116,104]
def F6:Tx:=[101,110,100]
def mE:Tx:=[124]
def kL:Tx:=[40]
def kR:Tx:=[41]
def qw:Tx:=[95]
def nd(k:Int)(s:Tx)(kids:List (List ND)):List ND:=(k,s,0,(kids.length:Int))::kids.flatten
def dY(i:Nat)(s:Tx):PR Nat:=bif dP c i [s] then .ok (i+1) else .error (gG c i,70)
def uf(i:Nat):PR (Tx×Nat):=
 bif dL c i 1 then .ok (eW c i,i+1) else
 bif dP c i [kL]&&dL c (i+1) 5 then eb (dY c (i+2) kR) fun a=>.ok (eW c (i+1),a) else
 bif dP c i [kL] then .error (gG c (i+1),70) else .error (gG c i,70)
abbrev PT:=Nat->PR (List ND×Nat)
def Bx(self:PT):PT:=fun i=>
 bif dP c i [qw] then .ok (nd 21 [] [],i+1) else
 bif dL c i 3 then .ok ([(23,[],num c i,0)],i+1) else
 bif dL c i 2 then .ok (nd 24 (eW c i) [],i+1) else
 bif dP c i [kL]&&!dL c (i+1) 5 then eb (self (i+1)) fun p=>eb (dY c p.2 kR) fun a=>.ok (p.1,a) else
 eb (uf c i) fun s=>.ok (nd 22 s.1 [],s.2)
def Ct(self:PT):Nat->Nat->List (List ND)->PR (List (List ND)×Nat)
 |0,i,acc=>.ok (acc,i)
 |f+1,i,acc=>bif dL c i 3||(dL c i 2||(dL c i 1||dP c i [qw,kL])) then eb (Bx c self i) fun p=>Ct self f p.2 (acc++[p.1]) else .ok (acc,i)
def mF(self:PT):PT:=fun i=>bif dL c i 2 then eb (Ct c self (c.l.length+1) (i+1) []) fun p=>.ok (nd 24 (eW c i) p.1,p.2) else Bx c self i
def lC:Nat->PT
 |0=>fun i=>.error (gG c i,73)
 |d+1=>mF c (lC d)
def gR(self:PT)(i:Nat)(s:Tx):PR (List ND×Nat):=eb (dY c i s) self
def wQ(i:Nat):Bool:=dL c i 3||(dL c i 4||(dL c i 1||(dL c i 2||dP c i [kL,qy6])))
def By(self aQ:PT):Nat->Nat->List (List ND)->PR (List (List ND)×Nat)
 |0,i,acc=>.ok (acc,i)
 |f+1,i,acc=>eb (aQ i) fun p=>eb (gR c self p.2 bF) fun b=>bif dP c b.2 [mE] then By self aQ f (b.2+1) (acc++[p.1,b.1]) else .ok (acc++[p.1,b.1],b.2)
def F7(self aQ:PT):PT:=fun i=>eb (self i) fun x=>eb (dY c x.2 TW) fun a=>eb (By c self aQ (c.l.length+1) a [x.1]) fun r=>eb (dY c r.2 F6) fun a2=>.ok (nd 10 [] r.1,a2)
def Cu(self aQ:PT):PT:=fun i=>
 bif wQ c i then
  bif dL c i 3 then .ok ([(1,[],num c i,0)],i+1) else
  bif dL c i 4 then .ok (nd 2 (eW c i) [],i+1) else
  bif dL c i 1 then .ok (nd 3 (eW c i) [],i+1) else
  bif dL c i 2 then .ok (nd 4 (eW c i) [],i+1) else
  bif decide (eW c i=qy6) then F7 c self aQ (i+1) else
  bif dL c (i+1) 5 then eb (dY c (i+2) kR) fun a=>.ok (nd 3 (eW c (i+1)) [],a) else
  eb (self (i+1)) fun x=>eb (dY c x.2 kR) fun a=>.ok (x.1,a)
 else .error (gG c i,70)
def F8(self aQ:PT):Nat->Nat->List ND->PR (List ND×Nat)
 |0,i,l=>.ok (l,i)
 |f+1,i,l=>bif wQ c i then eb (Cu c self aQ i) fun m=>F8 self aQ f m.2 (nd 6 [] [l,m.1]) else .ok (l,i)
def jO(self aQ:PT):PT:=fun i=>eb (Cu c self aQ i) fun x=>F8 c self aQ (c.l.length+1) x.2 x.1
structure Row where
 apps:List (List ND)
 ops:List Tx
 at_:List Int
def iy(self aQ:PT):Nat->Nat->Row->PR (Row×Nat)
 |0,i,r=>.ok (r,i)
 |f+1,i,r=>bif dL c i 5 then eb (jO c self aQ (i+1)) fun x=>iy self aQ f x.2 ⟨r.apps++[x.1],r.ops++[eW c i],r.at_++[gG c i]⟩ else .ok (r,i)
def gX(apps:List (List ND))(ops:List Tx):Nat->List Int->List ND×List Int
 |_,[]=>([],[])
 |0,x=>([],x)
 |f+1,k::x=>if k<0 then((apps[(-1-k).toNat]?).getD [],x) else
  let a:=gX apps ops f x;let b:=gX apps ops f a.2
  (nd 6 [] [nd 6 [] [nd 3 ((ops[k.toNat]?).getD []) [],a.1],b.1],b.2)
def vT:List Tx->List Int->Option Int
 |s::ops,p::ps=>bif c.fx s then vT ops ps else some p
 |_,_=>none
def lD(first:Int)(r:Row)(i:Nat):PR (List ND×Nat):=
 if r.ops=[] then .ok ((r.apps[0]?).getD [],i) else
 match vT c r.ops r.at_ with
 |some p=>.error (p,71)
 |none=>match c.cl r.ops with
  |none=>.error (first,72)
  |some x=>.ok ((gX r.apps r.ops x.length x).1,i)
def qx(self aQ:PT):PT:=fun i=>eb (jO c self aQ i) fun x=>eb (iy c self aQ (c.l.length+1) x.2 ⟨[x.1],[],[]⟩) fun r=>lD c (gG c i) r.1 r.2
def Cv(self aQ:PT):PT:=fun i=>
 bif dP c i [Bv,jN,P9,Qa,Lm] then
  bif decide (eW c i=Bv) then eb (uf c (i+1)) fun s=>eb (gR c self s.2 bF) fun x=>.ok (nd 5 s.1 [x.1],x.2) else
  bif decide (eW c i=jN) then eb (uf c (bif dP c (i+1) [gH] then i+2 else i+1)) fun s=>eb (gR c self s.2 Bw) fun x=>eb (gR c self x.2 TV) fun y=>.ok (nd (bif dP c (i+1) [gH] then 8 else 7) s.1 [x.1,y.1],y.2) else
  bif decide (eW c i=P9) then eb (self (i+1)) fun x=>eb (gR c self x.2 z25) fun y=>eb (gR c self y.2 z26) fun z=>.ok (nd 9 [] [x.1,y.1,z.1],z.2) else
  bif decide (eW c i=Qa) then eb (self (i+1)) fun x=>.ok (nd 11 [] [x.1],x.2) else
  eb (self (i+1)) fun x=>eb (dY c x.2 TW) fun a=>eb (uf c a) fun s=>eb (gR c self s.2 bF) fun y=>.ok (nd 12 s.1 [x.1,y.1],y.2)
 else qx c self aQ i
def mG:Nat->PT
 |0=>fun i=>.error (gG c i,73)
 |d+1=>Cv c (mG d) (lC c d)
def lE:PR (List ND):=eb (mG c 100 0) fun x=>if x.2<c.l.length then .error (gG c x.2,70) else .ok x.1
end Pz
end Ev

namespace Ev
namespace Pz
def eS{α:Type}(b:Int):PR α->PR α
 |.ok a=>.ok a
 |.error e=>.error (e.1+b,e.2)
def fV(b:Int)(c:PC):PC:=⟨c.l.map fun t=>(t.1,t.2.1,t.2.2.1,t.2.2.2+b),c.e+b,c.fx,c.cl⟩
theorem vU{α β:Type}(b:Int)(x:PR α)(f:α->PR β):eS b (eb x f)=eb (eS b x) fun a=>eS b (f a):=by cases x<;>rfl
theorem F9{α:Type}(b:Int)(t:Bool)(x y:PR α):eS b (bif t then x else y)=bif t then eS b x else eS b y:=by cases t<;>rfl
section
variable (b:Int) (c:PC)
theorem Qb:(fV b c).l.length=c.l.length:=zA _
theorem Qc(i:Nat):(fV b c).l[i]?=(c.l[i]?).map fun t=>(t.1,t.2.1,t.2.2.1,t.2.2.2+b):=zV
theorem Hl(i:Nat):gG (fV b c) i=gG c i+b:=by unfold gG;rw[Qc];cases c.l[i]?<;>rfl
theorem MZ(i:Nat):eW (fV b c) i=eW c i:=by unfold eW;rw[Qc];cases c.l[i]?<;>rfl
theorem z4j(i:Nat):num (fV b c) i=num c i:=by unfold num;rw[Qc];cases c.l[i]?<;>rfl
theorem Cw(i:Nat)(k:Int):dL (fV b c) i k=dL c i k:=by unfold dL;rw[Qc];cases c.l[i]?<;>rfl
theorem Ln(i:Nat)(ks:List Tx):dP (fV b c) i ks=dP c i ks:=by unfold dP;rw[Qc];cases c.l[i]?<;>rfl
theorem qnr(i:Nat):wQ (fV b c) i=wQ c i:=by unfold wQ;rw[Cw,Cw,Cw,Cw,Ln]
theorem M0(i:Nat)(s:Tx):dY (fV b c) i s=eS b (dY c i s):=by unfold dY;rw[Ln,Hl,F9];rfl
theorem qy7(i:Nat):uf (fV b c) i=eS b (uf c i):=by unfold uf;simp only[Cw,Ln,Hl,MZ,M0,F9,vU];rfl
variable {b} {self cy aQ cE:PT}
theorem z4k(h:∀i,cy i=eS b (self i))(i:Nat)(s:Tx):gR (fV b c) cy i s=eS b (gR c self i s):=by unfold gR;rw[M0,vU];congr 1;funext a;exact h a
theorem qs4(h:∀i,cy i=eS b (self i))(i:Nat):Bx (fV b c) cy i=eS b (Bx c self i):=by unfold Bx;simp only[Cw,Ln,MZ,z4j,M0,qy7,h,F9,vU];rfl
theorem qy8(h:∀i,cy i=eS b (self i)):∀(f i:Nat) (acc:List (List ND)),Ct (fV b c) cy f i acc=eS b (Ct c self f i acc)
 |0,i,acc=>rfl
 |f+1,i,acc=>by unfold Ct;simp only[Cw,Ln,qs4 c h,qy8 h f,F9,vU];rfl
theorem z9m(h:∀i,cy i=eS b (self i))(i:Nat):mF (fV b c) cy i=eS b (mF c self i):=by unfold mF;simp only[Cw,MZ,Qb,qy8 c h,qs4 c h,F9,vU];rfl
theorem qy9:∀(d i:Nat),lC (fV b c) d i=eS b (lC c d i)
 |0,i=>by show Except.error (gG (fV b c) i,73)=_;rw[Hl];rfl
 |d+1,i=>z9m c (qy9 d) i
theorem qya(h:∀i,cy i=eS b (self i))(hp:∀i,cE i=eS b (aQ i)):∀(f i:Nat) (acc:List (List ND)),By (fV b c) cy cE f i acc=eS b (By c self aQ f i acc)
 |0,i,acc=>rfl
 |f+1,i,acc=>by unfold By;simp only[hp,Ln,z4k c h,qya h hp f,F9,vU];rfl
theorem z28(h:∀i,cy i=eS b (self i))(hp:∀i,cE i=eS b (aQ i))(i:Nat):F7 (fV b c) cy cE i=eS b (F7 c self aQ i):=by unfold F7;simp only[h,M0,Qb,qya c h hp,vU];rfl
theorem qyb(h:∀i,cy i=eS b (self i))(hp:∀i,cE i=eS b (aQ i))(i:Nat):Cu (fV b c) cy cE i=eS b (Cu c self aQ i):=by unfold Cu;simp only[qnr,Cw,MZ,z4j,Hl,h,M0,z28 c h hp,F9,vU];rfl
theorem qyc(h:∀i,cy i=eS b (self i))(hp:∀i,cE i=eS b (aQ i)):∀(f i:Nat) (l:List ND),F8 (fV b c) cy cE f i l=eS b (F8 c self aQ f i l)
 |0,i,l=>rfl
 |f+1,i,l=>by unfold F8;simp only[qnr,qyb c h hp,qyc h hp f,F9,vU];rfl
theorem z4l(h:∀i,cy i=eS b (self i))(hp:∀i,cE i=eS b (aQ i))(i:Nat):jO (fV b c) cy cE i=eS b (jO c self aQ i):=by unfold jO;simp only[Qb,qyb c h hp,qyc c h hp,vU]
def Cy(b:Int)(r:Row):Row:=⟨r.apps,r.ops,r.at_.map fun p=>p+b⟩
theorem z4m(h:∀i,cy i=eS b (self i))(hp:∀i,cE i=eS b (aQ i)):∀(f i:Nat) (r:Row),iy (fV b c) cy cE f i (Cy b r)=eb (eS b (iy c self aQ f i r)) fun z=>.ok (Cy b z.1,z.2)
 |0,i,r=>rfl
 |f+1,i,r=>by
  unfold iy;rw[Cw];cases dL c i 5 with
  |false=>rfl
  |true=>
   simp only[cond_true,z4l c h hp,MZ,Hl];cases hc:jO c self aQ (i+1) with
   |error e=>rfl
   |ok x=>
    show iy (fV b c) cy cE f x.2 ⟨r.apps++[x.1],r.ops++[eW c i],r.at_.map (fun p=>p+b)++[gG c i+b]⟩=_;have e:(⟨r.apps++[x.1],r.ops++[eW c i],r.at_.map (fun p=>p+b)++[gG c i+b]⟩:Row)=Cy b ⟨r.apps++[x.1],r.ops++[eW c i],r.at_++[gG c i]⟩:=by unfold Cy;rw[zP];rfl
    rw[e];exact z4m h hp f x.2 _
theorem qs5:∀(ops:List Tx) (ps:List Int),vT (fV b c) ops (ps.map fun p=>p+b)=(vT c ops ps).map fun p=>p+b
 |[],ps=>by cases ps<;>rfl
 |s::ops,[]=>rfl
 |s::ops,p::ps=>by show(bif c.fx s then vT (fV b c) ops (ps.map fun p=>p+b) else some (p+b))=_;rw[qs5 ops ps];show _=(bif c.fx s then vT c ops ps else some p).map fun p=>p+b;cases c.fx s<;>rfl
theorem z77(first:Int)(r:Row)(i:Nat):lD (fV b c) (first+b) (Cy b r) i=eS b (lD c first r i):=by
 unfold lD;have e1:(Cy b r).ops=r.ops:=rfl;have e2:(Cy b r).apps=r.apps:=rfl;have e3:(Cy b r).at_=r.at_.map fun p=>p+b:=rfl;have e4:(fV b c).cl=c.cl:=rfl;rw[e1,e2,e3,e4,qs5];by_cases h0:r.ops=[]
 ·rw[if_pos h0,if_pos h0];rfl
 ·rw[if_neg h0,if_neg h0];cases vT c r.ops r.at_ with
  |some p=>rfl
  |none=>show(match c.cl r.ops with|none=>_|some x=>_)=eS b (match c.cl r.ops with|none=>_|some x=>_);cases c.cl r.ops<;>rfl
theorem z9n(h:∀i,cy i=eS b (self i))(hp:∀i,cE i=eS b (aQ i))(i:Nat):qx (fV b c) cy cE i=eS b (qx c self aQ i):=by
 unfold qx;rw[z4l c h hp,Qb,vU];cases jO c self aQ i with
 |error e=>rfl
 |ok x=>
  have ho:iy (fV b c) cy cE (c.l.length+1) x.2 ⟨[x.1],[],[]⟩=eb (eS b (iy c self aQ (c.l.length+1) x.2 ⟨[x.1],[],[]⟩)) fun z=>.ok (Cy b z.1,z.2):=z4m c h hp (c.l.length+1) x.2 ⟨[x.1],[],[]⟩;show eb (iy (fV b c) cy cE (c.l.length+1) x.2 ⟨[x.1],[],[]⟩) _=eS b (eb (iy c self aQ (c.l.length+1) x.2 ⟨[x.1],[],[]⟩) _);rw[ho];cases iy c self aQ (c.l.length+1) x.2 ⟨[x.1],[],[]⟩ with
  |error e=>rfl
  |ok r=>show lD (fV b c) (gG (fV b c) i) (Cy b r.1) r.2=eS b (lD c (gG c i) r.1 r.2);rw[Hl,z77]
theorem z78(h:∀i,cy i=eS b (self i))(hp:∀i,cE i=eS b (aQ i))(i:Nat):Cv (fV b c) cy cE i=eS b (Cv c self aQ i):=by unfold Cv;simp only[Ln,MZ,qy7,z4k c h,M0,h,z9n c h hp,F9,vU];rfl
theorem qyd:∀(d i:Nat),mG (fV b c) d i=eS b (mG c d i)
 |0,i=>by show Except.error (gG (fV b c) i,73)=_;rw[Hl];rfl
 |d+1,i=>z78 c (qyd d) (qy9 c d) i
theorem z9o:lE (fV b c)=eS b (lE c):=by
 unfold lE;rw[qyd,vU];congr 1;funext x;rw[Qb,Hl];by_cases h:x.2<c.l.length
 ·rw[if_pos h,if_pos h];rfl
 ·rw[if_neg h,if_neg h];rfl
end
end Pz
end Ev

namespace Ev
namespace Pz
inductive Bt:Nat->Nat->List Int->Prop
 |leaf (a:Nat):Bt a a [-1-(a:Int)]
 |node (a r b:Nat) (x y:List Int):a<=r->r<b->Bt a r x->Bt (r+1) b y->Bt a b ((r:Int)::(x++y))
theorem Bt.le{a b:Nat}{x:List Int}(h:Bt a b x):a<=b:=by
 cases h with
 |leaf=>exact Nat.le_refl _
 |node _ r _ _ _ h1 h2=>omega
def tot(l:List (List ND)):Nat:=l.flatten.length+l.length
theorem Hm(l:List (List ND))(a:List ND):tot (l++[a])=tot l+(a.length+1):=by unfold tot;simp only[List.flatten_append,List.flatten_cons,List.flatten_nil,zh,zf,List.length_nil];omega
theorem iz(k:Int)(s:Tx)(kids:List (List ND)):(nd k s kids).length=kids.flatten.length+1:=by simp[nd]
def Bz(apps:List (List ND))(a b:Nat):List (List ND):=(apps.take (b+1)).drop a
theorem z79{apps:List (List ND)}{a:Nat}(h:a<apps.length):Bz apps a a=[apps[a]]:=by
 unfold Bz;apply List.ext_getElem
 ·simp only[zD,zJ,zf,List.length_nil];omega
 ·intro i h1 h2;simp only[zf,List.length_nil] at h2;obtain rfl:i=0:=om
  simp
theorem qye{apps:List (List ND)}{a r b:Nat}(h1:a<=r)(h2:r<b)(h3:b<apps.length):Bz apps a b=Bz apps a r++Bz apps (r+1) b:=by
 unfold Bz;apply List.ext_getElem
 ·simp only[zh,zD,zJ];omega
 ·intro i g1 g2;simp only[zD,zJ] at g1;rw[List.getElem_append];split
  ·next h=>simp
  ·next h=>simp only[zD,zJ] at h;simp only[List.getElem_drop,List.getElem_take,zD,zJ];congr 1;omega
theorem qyf{apps:List (List ND)}{ops:List Tx}{P:ND->Prop}(hP:∀a,a∈apps->∀d,d∈a->P d)(hv:∀s,s∈ops->P (3,s,0,0))(hn:P (6,[],0,2)):∀{a b:Nat} {x:List Int},Bt a b x->b<apps.length->b<=ops.length->∀(f:Nat) (post:List Int),x.length<=f->∃t,gX apps ops f (x++post)=(t,post)/\t.length=(Bz apps a b).flatten.length+3*(b-a)/\∀d,d∈t->P d:=by
 intro a b x h
 induction h with
 |leaf a=>
  intro h1 h2 f post hf;obtain⟨f,rfl⟩:∃g,f=g+1:=⟨f-1,by simp only[zf,List.length_nil] at hf;omega⟩;refine⟨apps[a],?_,?_,hP _ (List.getElem_mem h1)⟩
  ·show(if -1-(a:Int)<0 then((apps[(-1-(-1-(a:Int))).toNat]?).getD [],post) else _)=_;rw[if_pos om];have e:(-1-(-1-(a:Int))).toNat=a:=om
   rw[e,ze h1];rfl
  ·rw[z79 h1];simp
 |node a r b x y g1 g2 hx hy uM uN=>
  intro h1 h2 f post hf;simp only[zf,zh] at hf;obtain⟨f,rfl⟩:∃g,f=g+1:=⟨f-1,by omega⟩;obtain⟨t1,e1,l1,p1⟩:=uM om om f (y++post) om;obtain⟨t2,e2,l2,p2⟩:=uN h1 h2 f post om;have hr:r<ops.length:=om
  have hg:(ops[((r:Int)).toNat]?).getD []=ops[r]:=by rw[Int.toNat_natCast,ze hr];rfl
  refine⟨nd 6 [] [nd 6 [] [nd 3 (ops[r]) [],t1],t2],?_,?_,?_⟩
  ·show(if(r:Int)<0 then _ else(nd 6 [] [nd 6 [] [nd 3 ((ops[((r:Int)).toNat]?).getD []) [],(gX apps ops f ((x++y)++post)).1],(gX apps ops f (gX apps ops f ((x++y)++post)).2).1],(gX apps ops f (gX apps ops f ((x++y)++post)).2).2))=_;rw[if_neg om,zC,e1];simp only;rw[e2,hg]
  ·have:=hy.le;rw[qye g1 g2 h1];simp only[iz,List.flatten_cons,List.flatten_nil,zh,List.flatten_append,List.length_nil];omega
  ·intro d hd;simp only[nd,List.flatten_cons,List.flatten_nil,zu,zf,List.length_nil,zt,zL,List.cons_append,List.nil_append] at hd;rcases hd with hd|hd|hd|hd|hd
   ·rw[hd];exact hn
   ·rw[hd];exact hn
   ·rw[hd];exact hv _ (List.getElem_mem hr)
   ·exact p1 d hd
   ·exact p2 d hd
def EOk(E:Int)(e:Int×Int):Prop:=(0<=e.1/\e.1<=E)/\70<=e.2/\e.2<=73
def bL{α:Type}(E:Int)(A:α->Prop)(x:PR α):Prop:=match x with
 |.ok a=>A a
 |.error e=>EOk E e
theorem bL.eb{α β:Type}{E:Int}{A:α->Prop}{B:β->Prop}{x:PR α}{f:α->PR β}(hx:bL E A x)(h:∀a,A a->bL E B (f a)):bL E B (eb x f):=by
 cases x with
 |ok a=>exact h a hx
 |error e=>exact hx
theorem bL.bif{α:Type}{E:Int}{A:α->Prop}{t:Bool}{x y:PR α}(hx:t=true->bL E A x)(hy:t=false->bL E A y):bL E A (bif t then x else y):=by
 cases t with
 |true=>exact hx rfl
 |false=>exact hy rfl
theorem bL.ok{α:Type}{E:Int}{A:α->Prop}{a:α}(h:A a):bL E A (.ok a):=h
structure oe (c:PC) (E:Int) (Q:Tx->Prop) (N:Int->Prop):Prop where
 tk:∀t,t∈c.l->Q t.2.1/\N t.2.2.1/\0<=t.2.2.2/\t.2.2.2<=E
 e0:0<=c.e
 e1:c.e<=E
 q0:Q []
 n0:N 0
 cl:∀ops x,c.cl ops=some x->Bt 0 ops.length x
section
variable {c:PC} {E:Int} {Q:Tx→Prop} {N:Int→Prop}
def GN(Q:Tx->Prop)(N:Int->Prop)(d:ND):Prop:=Q d.2.1/\N d.2.2.1
def dW(Q:Tx->Prop)(N:Int->Prop)(l:List ND):Prop:=∀d,d∈l->GN Q N d
variable (c Q N) in
def AN(i:Nat)(x:List ND×Nat):Prop:=i<x.2/\x.2<=c.l.length/\x.1.length+1<=3*(x.2-i)/\dW Q N x.1
theorem dW.nd{k:Int}{s:Tx}{kids:List (List ND)}(hi:N 0)(hs:Q s)(h:dW Q N kids.flatten):dW Q N (nd k s kids):=by
 intro d hd;unfold Pz.nd at hd;rcases zt.1 hd with hd|hd
 ·rw[hd];exact⟨hs,hi⟩
 ·exact h d hd
theorem dW.nil:dW Q N []:=fun _ h=>absurd h (List.not_mem_nil)
theorem dW.app{a b:List ND}(h1:dW Q N a)(h2:dW Q N b):dW Q N (a++b):=fun d hd=>(zL.1 hd).elim (h1 d) (h2 d)
theorem dW.one{a:List ND}(h1:dW Q N a):dW Q N [a].flatten:=by rw[List.flatten_cons,List.flatten_nil,zu];exact h1
theorem dW.two{a b:List ND}(h1:dW Q N a)(h2:dW Q N b):dW Q N [a,b].flatten:=by rw[List.flatten_cons];exact h1.app h2.one
theorem dW.three{a b d:List ND}(h1:dW Q N a)(h2:dW Q N b)(h3:dW Q N d):dW Q N [a,b,d].flatten:=by rw[List.flatten_cons];exact h1.app (h2.two h3)
theorem dW.snoc{l:List (List ND)}{a:List ND}(h1:dW Q N l.flatten)(h2:dW Q N a):dW Q N (l++[a]).flatten:=by rw[List.flatten_append];exact h1.app h2.one
variable (H:oe c E Q N)
include H
theorem TX(i:Nat):0<=gG c i/\gG c i<=E:=by
 unfold gG;cases h:c.l[i]? with
 |none=>exact⟨H.e0,H.e1⟩
 |some t=>exact(H.tk t (zG h)).2.2
theorem Lo{α:Type}{A:α->Prop}(i:Nat){k:Int}(h1:70<=k)(h2:k<=73):bL E A (.error (gG c i,k):PR α):=⟨TX H i,h1,h2⟩
theorem Cz(i:Nat):Q (eW c i):=by
 unfold eW;cases h:c.l[i]? with
 |none=>exact H.q0
 |some t=>exact(H.tk t (zG h)).1
theorem z4n(i:Nat):N (num c i):=by
 unfold num;cases h:c.l[i]? with
 |none=>exact H.n0
 |some t=>exact(H.tk t (zG h)).2.1
omit H in
theorem sZ{i:Nat}{k:Int}(h:dL c i k=true):i<c.l.length:=by
 unfold dL at h;cases e:c.l[i]? with
 |none=>rw[e] at h;cases h
 |some t=>exact(zH.1 e).1
omit H in
theorem CA{i:Nat}{k:List Tx}(h:dP c i k=true):i<c.l.length:=by
 unfold dP at h;cases e:c.l[i]? with
 |none=>rw[e] at h;cases h
 |some t=>exact(zH.1 e).1
theorem Hn(i:Nat)(s:Tx):bL E (fun j=>j=i+1/\i<c.l.length) (dY c i s):=by unfold dY;exact bL.bif (fun h=>⟨rfl,CA h⟩) fun _=>Lo H i dc dc
theorem Qd(i:Nat):bL E (fun x=>Q x.1/\i<x.2/\x.2<=c.l.length) (uf c i):=by unfold uf;refine bL.bif (fun h=>⟨Cz H i,Nat.lt_succ_self _,sZ h⟩) fun _=>bL.bif (fun h=>?_) fun _=>bL.bif (fun _=>Lo H _ dc dc) fun _=>Lo H _ dc dc;refine(Hn H (i+2) kR).eb fun a ha=>?_;exact⟨Cz H _,by simp only;omega,by simp only;omega⟩
variable {self aQ:PT}
theorem qkw(h:∀i,bL E (AN c Q N i) (self i))(i:Nat):bL E (AN c Q N i) (Bx c self i):=by
 unfold Bx;refine bL.bif (fun t=>?_) fun _=>bL.bif (fun t=>?_) fun _=>bL.bif (fun t=>?_) fun _=>bL.bif (fun t=>?_) fun _=>?_
 ·have:=CA t;refine bL.ok ⟨Nat.lt_succ_self _,this,?_,dW.nd H.n0 H.q0 dW.nil⟩;show 2<=3*(i+1-i);omega
 ·have:=sZ t;refine bL.ok ⟨Nat.lt_succ_self _,this,?_,fun d hd=>?_⟩
  ·show 2<=3*(i+1-i);omega
  ·rw[zB.1 hd];exact⟨H.q0,z4n H i⟩
 ·have:=sZ t;refine bL.ok ⟨Nat.lt_succ_self _,this,?_,dW.nd H.n0 (Cz H i) dW.nil⟩;show 2<=3*(i+1-i);omega
 ·refine(h (i+1)).eb fun p hp=>(Hn H p.2 kR).eb fun a ha=>?_;obtain⟨h1,h2,h3,h4⟩:=hp;refine bL.ok ⟨by simp only;omega,by simp only;omega,?_,h4⟩;show p.1.length+1<=3*(a-i);omega
 ·refine(Qd H i).eb fun s hs=>?_;obtain⟨h1,h2,h3⟩:=hs;refine bL.ok ⟨h2,h3,?_,dW.nd H.n0 h1 dW.nil⟩;show 2<=3*(s.2-i);omega
theorem qyg(h:∀i,bL E (AN c Q N i) (self i)):∀(f i:Nat) (acc:List (List ND)),i<=c.l.length->dW Q N acc.flatten->bL E (fun x=>i<=x.2/\x.2<=c.l.length/\tot x.1<=tot acc+3*(x.2-i)/\dW Q N x.1.flatten) (Ct c self f i acc)
 |0,i,acc,hi,hg=>⟨Nat.le_refl _,hi,by simp only;omega,hg⟩
 |f+1,i,acc,hi,hg=>by
  unfold Ct;refine bL.bif (fun t=>?_) fun _=>⟨Nat.le_refl _,hi,by simp only;omega,hg⟩;refine(qkw H h i).eb fun p hp=>?_;obtain⟨h1,h2,h3,h4⟩:=hp;have r:=qyg h f p.2 (acc++[p.1]) h2 (hg.snoc h4);revert r;cases Ct c self f p.2 (acc++[p.1]) with
  |error e=>exact id
  |ok x=>rintro⟨r1,r2,r3,r4⟩;rw[Hm] at r3;exact⟨by omega,r2,by omega,r4⟩
theorem z9p(h:∀i,bL E (AN c Q N i) (self i))(i:Nat):bL E (AN c Q N i) (mF c self i):=by unfold mF;refine bL.bif (fun t=>?_) fun _=>qkw H h i;refine(qyg H h _ (i+1) [] (sZ t) dW.nil).eb fun p hp=>?_;obtain⟨h1,h2,h3,h4⟩:=hp;refine bL.ok ⟨by simp only;omega,h2,?_,dW.nd H.n0 (Cz H i) h4⟩;show(nd _ _ _).length+1<=_;rw[iz];have:tot ([]:List (List ND))=0:=rfl;unfold tot at h3;simp only at h3 ⊢;simp only[List.flatten_nil,List.length_nil] at h3;omega
theorem TY:∀(d i:Nat),bL E (AN c Q N i) (lC c d i)
 |0,i=>Lo H i dc dc
 |d+1,i=>z9p H (TY d) i
theorem ug(h:∀i,bL E (AN c Q N i) (self i))(i:Nat)(s:Tx):bL E (fun x=>AN c Q N (i+1) x) (gR c self i s):=by unfold gR;refine(Hn H i s).eb fun a ha=>?_;rw[ha.1];exact h (i+1)
theorem qyh(h:∀i,bL E (AN c Q N i) (self i))(hp:∀i,bL E (AN c Q N i) (aQ i)):∀(f i:Nat) (acc:List (List ND)),i<=c.l.length->dW Q N acc.flatten->bL E (fun x=>i<=x.2/\x.2<=c.l.length/\tot x.1<=tot acc+3*(x.2-i)/\dW Q N x.1.flatten) (By c self aQ f i acc)
 |0,i,acc,hi,hg=>⟨Nat.le_refl _,hi,by simp only;omega,hg⟩
 |f+1,i,acc,hi,hg=>by
  unfold By;refine(hp i).eb fun p ⟨p1,p2,p3,p4⟩=>(ug H h p.2 bF).eb fun b ⟨b1,b2,b3,b4⟩=>?_;have e:acc++[p.1,b.1]=acc++[p.1]++[b.1]:=by simp
  refine bL.bif (fun t=>?_) fun _=>?_
  ·have:=CA t;have r:=qyh h hp f (b.2+1) (acc++[p.1,b.1]) om (by rw[e];exact(hg.snoc p4).snoc b4);revert r;cases By c self aQ f (b.2+1) (acc++[p.1,b.1]) with
   |error e=>exact id
   |ok x=>rintro⟨r1,r2,r3,r4⟩;rw[e,Hm,Hm] at r3;exact⟨by omega,r2,by omega,r4⟩
  ·refine bL.ok ⟨by simp only;omega,b2,?_,?_⟩
   ·simp only;rw[e,Hm,Hm];omega
   ·simp only;rw[e];exact(hg.snoc p4).snoc b4
theorem z29(h:∀i,bL E (AN c Q N i) (self i))(hp:∀i,bL E (AN c Q N i) (aQ i))(i:Nat):bL E (AN c Q N i) (F7 c self aQ i):=by
 unfold F7;refine(h i).eb fun x ⟨x1,x2,x3,x4⟩=>(Hn H x.2 TW).eb fun a ⟨a1,a2⟩=>?_;refine(qyh H h hp _ a [x.1] om x4.one).eb fun r ⟨r1,r2,r3,r4⟩=>(Hn H r.2 F6).eb fun b ⟨b1,b2⟩=>?_;refine bL.ok ⟨by simp only;omega,by simp only;omega,?_,dW.nd H.n0 H.q0 r4⟩;show(nd _ _ _).length+1<=_;rw[iz];have e:tot [x.1]=x.1.length+1:=by unfold tot;simp
 rw[e] at r3;unfold tot at r3;simp only at r3 ⊢;omega
theorem TZ(h:∀i,bL E (AN c Q N i) (self i))(hp:∀i,bL E (AN c Q N i) (aQ i))(i:Nat):bL E (AN c Q N i) (Cu c self aQ i):=by
 unfold Cu;refine bL.bif (fun _=>?_) fun _=>Lo H i dc dc;refine bL.bif (fun t=>?_) fun _=>bL.bif (fun t=>?_) fun _=>bL.bif (fun t=>?_) fun _=>bL.bif (fun t=>?_) fun _=>bL.bif (fun t=>?_) fun _=>bL.bif (fun t=>?_) fun _=>?_
 ·have:=sZ t;refine bL.ok ⟨Nat.lt_succ_self _,this,?_,fun d hd=>?_⟩
  ·show 2<=3*(i+1-i);omega
  ·rw[zB.1 hd];exact⟨H.q0,z4n H i⟩
 ·have:=sZ t;refine bL.ok ⟨Nat.lt_succ_self _,this,?_,dW.nd H.n0 (Cz H i) dW.nil⟩;show 2<=3*(i+1-i);omega
 ·have:=sZ t;refine bL.ok ⟨Nat.lt_succ_self _,this,?_,dW.nd H.n0 (Cz H i) dW.nil⟩;show 2<=3*(i+1-i);omega
 ·have:=sZ t;refine bL.ok ⟨Nat.lt_succ_self _,this,?_,dW.nd H.n0 (Cz H i) dW.nil⟩;show 2<=3*(i+1-i);omega
 ·have r:=z29 H h hp (i+1);revert r;cases F7 c self aQ (i+1) with
  |error e=>exact id
  |ok x=>rintro⟨r1,r2,r3,r4⟩;exact⟨by omega,r2,by omega,r4⟩
 ·refine(Hn H (i+2) kR).eb fun a ⟨a1,a2⟩=>?_;refine bL.ok ⟨by simp only;omega,by simp only;omega,?_,dW.nd H.n0 (Cz H _) dW.nil⟩;show 2<=3*(a-i);omega
 ·refine(h (i+1)).eb fun x ⟨x1,x2,x3,x4⟩=>(Hn H x.2 kR).eb fun a ⟨a1,a2⟩=>?_;refine bL.ok ⟨by simp only;omega,by simp only;omega,?_,x4⟩;show x.1.length+1<=3*(a-i);omega
theorem qyi(h:∀i,bL E (AN c Q N i) (self i))(hp:∀i,bL E (AN c Q N i) (aQ i))(i0:Nat):∀(f i:Nat) (l:List ND),AN c Q N i0 (l,i)->bL E (AN c Q N i0) (F8 c self aQ f i l)
 |0,i,l,hl=>hl
 |f+1,i,l,hl=>by
  unfold F8;refine bL.bif (fun _=>?_) fun _=>hl;refine(TZ H h hp i).eb fun m ⟨m1,m2,m3,m4⟩=>?_;obtain⟨l1,l2,l3,l4⟩:=hl;refine qyi h hp i0 f m.2 _ ⟨by simp only at*;omega,m2,?_,dW.nd H.n0 H.q0 (l4.two m4)⟩;show(nd _ _ _).length+1<=_;rw[iz];simp only[List.flatten_cons,List.flatten_nil,zu,zh];simp only at*
  omega
theorem Ua(h:∀i,bL E (AN c Q N i) (self i))(hp:∀i,bL E (AN c Q N i) (aQ i))(i:Nat):bL E (AN c Q N i) (jO c self aQ i):=by unfold jO;exact(TZ H h hp i).eb fun x hx=>qyi H h hp i _ x.2 x.1 hx
omit H in
variable (c E Q N) in
structure RI (i0 i:Nat) (r:Row):Prop where
 n1:r.apps.length=r.ops.length+1
 n2:r.at_.length=r.ops.length
 m:tot r.apps+3*r.ops.length<=3*(i-i0)
 gt:i0<i
 le:i<=c.l.length
 g1:∀a,a∈r.apps->∀d,d∈a->GN Q N d
 g2:∀s,s∈r.ops->Q s
 g3:∀p,p∈r.at_->0<=p/\p<=E
theorem z4o(h:∀i,bL E (AN c Q N i) (self i))(hp:∀i,bL E (AN c Q N i) (aQ i))(i0:Nat):∀(f i:Nat) (r:Row),RI c E Q N i0 i r->bL E (fun x=>RI c E Q N i0 x.2 x.1) (iy c self aQ f i r)
 |0,i,r,hr=>hr
 |f+1,i,r,hr=>by
  unfold iy;refine bL.bif (fun t=>?_) fun _=>hr;refine(Ua H h hp (i+1)).eb fun x ⟨x1,x2,x3,x4⟩=>z4o h hp i0 f x.2 _ ?_;have:=hr.gt;have hm:=hr.m;refine⟨?_,?_,?_,by omega,x2,?_,?_,?_⟩
  ·simp only[zh,zf,List.length_nil,hr.n1]
  ·simp only[zh,zf,List.length_nil,hr.n2]
  ·simp only[Hm,zh,zf,List.length_nil];omega
  ·intro a ha;rcases zL.1 ha with ha|ha
   ·exact hr.g1 a ha
   ·rw[zB.1 ha];exact x4
  ·intro a ha;rcases zL.1 ha with ha|ha
   ·exact hr.g2 a ha
   ·rw[zB.1 ha];exact Cz H i
  ·intro a ha;rcases zL.1 ha with ha|ha
   ·exact hr.g3 a ha
   ·rw[zB.1 ha];exact TX H i
omit H in
theorem qns:∀(ops:List Tx) (ps:List Int) (p:Int),vT c ops ps=some p->p∈ps
 |[],ps,p,h=>by cases ps<;>cases h
 |s::ops,[],p,h=>by cases h
 |s::ops,q::ps,p,h=>by
  have h:(bif c.fx s then vT c ops ps else some q)=some p:=h;cases e:c.fx s with
  |true=>rw[e] at h;exact zm _ (qns ops ps p h)
  |false=>rw[e] at h;injection h with h;rw[h];exact zj ..
theorem z7a{i0 i:Nat}{r:Row}(hr:RI c E Q N i0 i r){first:Int}(h1:0<=first/\first<=E):bL E (AN c Q N i0) (lD c first r i):=by
 have hm:=hr.m;have hn:=hr.n1;have hg:=hr.gt;unfold lD;by_cases h0:r.ops=[]
 ·rw[if_pos h0];have hl:r.apps.length=1:=by rw[hn,h0];rfl
  match ha:r.apps,hl with
  |[a],_=>
   rw[ha,h0] at hm;have e:tot [a]=a.length+1:=by unfold tot;simp
   rw[e] at hm;simp only[List.length_nil] at hm;refine bL.ok ⟨hg,hr.le,?_,hr.g1 a (by rw[ha];exact zB.2 rfl)⟩;show a.length+1<=_;simp only;omega
 ·rw[if_neg h0];cases hf:vT c r.ops r.at_ with
  |some p=>exact⟨hr.g3 p (qns _ _ _ hf),(by decide:(70:Int)<=71),(by decide:(71:Int)<=73)⟩
  |none=>
   cases hc:c.cl r.ops with
   |none=>exact⟨h1,(by decide:(70:Int)<=72),(by decide:(72:Int)<=73)⟩
   |some x=>
    obtain⟨t,e1,e2,e3⟩:=qyf (P:=GN Q N) hr.g1 (fun s hs=>⟨hr.g2 s hs,H.n0⟩) ⟨H.q0,H.n0⟩ (H.cl _ _ hc) om (Nat.le_refl _) x.length [] (Nat.le_refl _);rw[zu] at e1;show bL E (AN c Q N i0) (.ok ((gX r.apps r.ops x.length x).1,i));rw[e1];refine bL.ok ⟨hg,hr.le,?_,e3⟩;have es:Bz r.apps 0 r.ops.length=r.apps:=by unfold Bz;rw[List.drop_zero,zT om]
    rw[es] at e2;unfold tot at hm;simp only;omega
theorem z9q(h:∀i,bL E (AN c Q N i) (self i))(hp:∀i,bL E (AN c Q N i) (aQ i))(i:Nat):bL E (AN c Q N i) (qx c self aQ i):=by
 unfold qx;refine(Ua H h hp i).eb fun x ⟨x1,x2,x3,x4⟩=>(z4o H h hp i _ x.2 ⟨[x.1],[],[]⟩ ?_).eb fun r hr=>z7a H hr (TX H i);have e:tot [x.1]=x.1.length+1:=by unfold tot;simp
 refine⟨rfl,rfl,?_,x1,x2,?_,(fun _ h=>absurd h (List.not_mem_nil)),(fun _ h=>absurd h (List.not_mem_nil))⟩
 ·simp only[e,List.length_nil];omega
 ·intro a ha;rw[zB.1 ha];exact x4
theorem z7b(h:∀i,bL E (AN c Q N i) (self i))(hp:∀i,bL E (AN c Q N i) (aQ i))(i:Nat):bL E (AN c Q N i) (Cv c self aQ i):=by
 unfold Cv;refine bL.bif (fun _=>?_) fun _=>z9q H h hp i;refine bL.bif (fun _=>?_) fun _=>bL.bif (fun _=>?_) fun _=>bL.bif (fun _=>?_) fun _=>bL.bif (fun _=>?_) fun _=>?_
 ·refine(Qd H (i+1)).eb fun s ⟨s1,s2,s3⟩=>(ug H h s.2 bF).eb fun x ⟨x1,x2,x3,x4⟩=>?_;refine bL.ok ⟨by simp only;omega,x2,?_,dW.nd H.n0 s1 x4.one⟩;show(nd _ _ _).length+1<=_;rw[iz];simp only[List.flatten_cons,List.flatten_nil,zu];omega
 ·refine(Qd H _).eb fun s ⟨s1,s2,s3⟩=>(ug H h s.2 Bw).eb fun x ⟨x1,x2,x3,x4⟩=>(ug H h x.2 TV).eb fun y ⟨y1,y2,y3,y4⟩=>?_;have hs:i+1<s.2:=by revert s2;cases dP c (i+1) [gH]<;>simp only[cond_true,cond_false]<;>omega
  refine bL.ok ⟨by simp only;omega,y2,?_,dW.nd H.n0 s1 (x4.two y4)⟩;show(nd _ _ _).length+1<=_;rw[iz];simp only[List.flatten_cons,List.flatten_nil,zu,zh];omega
 ·refine(h (i+1)).eb fun x ⟨x1,x2,x3,x4⟩=>(ug H h x.2 z25).eb fun y ⟨y1,y2,y3,y4⟩=>(ug H h y.2 z26).eb fun z ⟨z1,z2,z3,z4⟩=>?_;refine bL.ok ⟨by simp only;omega,z2,?_,dW.nd H.n0 H.q0 (x4.three y4 z4)⟩;show(nd _ _ _).length+1<=_;rw[iz];simp only[List.flatten_cons,List.flatten_nil,zu,zh];omega
 ·refine(h (i+1)).eb fun x ⟨x1,x2,x3,x4⟩=>?_;refine bL.ok ⟨by simp only;omega,x2,?_,dW.nd H.n0 H.q0 x4.one⟩;show(nd _ _ _).length+1<=_;rw[iz];simp only[List.flatten_cons,List.flatten_nil,zu];omega
 ·refine(h (i+1)).eb fun x ⟨x1,x2,x3,x4⟩=>(Hn H x.2 TW).eb fun a ⟨a1,a2⟩=>(Qd H a).eb fun s ⟨s1,s2,s3⟩=>(ug H h s.2 bF).eb fun y ⟨y1,y2,y3,y4⟩=>?_;refine bL.ok ⟨by simp only;omega,y2,?_,dW.nd H.n0 s1 (x4.two y4)⟩;show(nd _ _ _).length+1<=_;rw[iz];simp only[List.flatten_cons,List.flatten_nil,zu,zh];omega
theorem Ub:∀(d i:Nat),bL E (AN c Q N i) (mG c d i)
 |0,i=>Lo H i dc dc
 |d+1,i=>z7b H (Ub d) (TY H d) i
theorem cH:bL E (fun l=>l.length+1<=3*c.l.length/\dW Q N l) (lE c):=by
 unfold lE;refine(Ub H 100 0).eb fun x ⟨x1,x2,x3,x4⟩=>?_;split
 ·exact Lo H _ dc dc
 ·exact bL.ok ⟨by omega,x4⟩
end
end Pz
end Ev

namespace Ev
namespace Pz
structure Emb (c c':PC) (off:Nat):Prop where
 g:∀i,i<c.l.length->∃t t',c.l[i]?=some t/\c'.l[i+off]?=some t'/\t'.1=t.1/\t'.2.1=t.2.1/\t'.2.2.1=t.2.2.1
 z:∃t',c'.l[c.l.length+off]?=some t'/\t'.1=6/\t'.2.1=kR
 fx:c'.fx=c.fx
 cl:c'.cl=c.cl
 le:c.l.length<=c'.l.length
def RR{α β:Type}(S:α->β->Prop)(r:PR α)(r':PR β):Prop:=match r with
 |.error _=>True
 |.ok a=>(∃w,r'=.error (w,73))\/∃b,r'=.ok b/\S a b
theorem RR.bif{α β:Type}{S:α->β->Prop}{t t':Bool}{x y:PR α}{x' y':PR β}(ht:t'=t)(hx:t=true->RR S x x')(hy:t=false->RR S y y'):RR S (bif t then x else y) (bif t' then x' else y'):=by
 subst ht;cases t' with
 |true=>exact hx rfl
 |false=>exact hy rfl
theorem RR.ok{α β:Type}{S:α->β->Prop}{a:α}{b:β}(h:S a b):RR S (.ok a) (.ok b):=.inr ⟨b,rfl,h⟩
theorem RR.mono{α β:Type}{S T:α->β->Prop}{r:PR α}{r':PR β}(h:RR S r r')(h2:∀a b,S a b->T a b):RR T r r':=by
 cases r with
 |error e=>trivial
 |ok a=>
  rcases h with h|⟨b,hb,hs⟩
  ·exact .inl h
  ·exact .inr ⟨b,hb,h2 a b hs⟩
section
variable {c c':PC} {off:Nat} (H:Emb c c' off)
variable (c off) in
def SN{α:Type}(i:Nat)(x x':α×Nat):Prop:=x'.1=x.1/\x'.2=x.2+off/\i<x.2/\x.2<=c.l.length
include H
omit H in
theorem qyj{i:Nat}(h:wQ c i=true):i<c.l.length:=by
 unfold wQ at h;simp only[Bool.or_eq_true] at h;rcases h with h|h|h|h|h
 ·exact sZ h
 ·exact sZ h
 ·exact sZ h
 ·exact sZ h
 ·exact CA h
variable {self cy aQ cE:PT}
omit H in
end
end Pz
end Ev

namespace Ev
namespace Pz
theorem eI{α β:Type}{x:PR α}{f:α->PR β}{b:β}(h:eb x f=.ok b):∃a,x=.ok a/\f a=.ok b:=by
 cases x with
 |ok a=>exact⟨a,rfl,h⟩
 |error e=>cases h
end Pz
end Ev

namespace Ev
namespace Pz
section
variable (inn sgn:Int→Bool) (keyw:Tx→Bool) (rd:Tx→Int×Int)
def cZ(p:Int->Bool):Tx->Nat
 |[]=>0
 |b::l=>bif p b then cZ p l+1 else 0
def M3(c:Int):Bool:=decide (97<=c)&&decide (c<=122)
def M4(c:Int):Bool:=decide (65<=c)&&decide (c<=90)
def gI(c:Int):Bool:=decide (48<=c)&&decide (c<=57)
def cO(c:Int):Int:=bif gI c then c-48 else bif decide (97<=c)&&decide (c<=102) then c-87 else -1
def qt:Tx->Tx->Nat->Tx×Nat
 |[],_,_=>([],0)
 |c::l,b,i=>
  if c=34 then(b,i+1) else
  if c<32\/126<c then([],0) else
  if c≠92 then qt l (b++[c]) (i+1) else
  match l with
  |[]=>([],0)
  |d::l2=>
   if d=34\/d=92 then qt l2 (b++[d]) (i+2) else
   if d=110 then qt l2 (b++[10]) (i+2) else
   if d=120 then match l2 with
    |x::y::l3=>if cO x<0\/cO y<0 then([],0) else qt l3 (b++[16*cO x+cO y]) (i+4)
    |_=>([],0)
   else([],0)
abbrev T3:=Int×Tx×Int
def oh(n:Nat)(k:Int)(s:Tx):T3×Nat×Int:=((bif keyw (s.take n) then 6 else k,s.take n,0),n,0)
def BA(e:Int):T3×Nat×Int:=((0,[],0),0,e)
def jP(c:Int)(l:Tx):T3×Nat×Int:=
  bif M3 c then oh keyw (cZ inn (c::l)) 1 (c::l) else
  bif M4 c then oh keyw (cZ inn (c::l)) 2 (c::l) else
  bif sgn c then oh keyw (cZ sgn (c::l)) 5 (c::l) else
  bif decide (c=40)||(decide (c=41)||decide (c=95)) then oh keyw 1 6 (c::l) else
  bif decide (c=59)&&decide (l.head?=some 59) then oh keyw 2 6 (c::l) else
  bif gI c||decide (c=126) then
   (bif decide ((rd ((c::l).take (1+cZ gI l))).2=0) then((3,[],(rd ((c::l).take (1+cZ gI l))).1),1+cZ gI l,0) else BA 31) else
  bif decide (c=34) then
   (bif decide ((qt l [] 1).2=0)||decide (200<(qt l [] 1).1.length) then BA 32 else((4,(qt l [] 1).1,0),(qt l [] 1).2,0)) else
  BA 30
def one:Tx->T3×Nat×Int
 |[]=>BA 30
 |c::l=>jP inn sgn keyw rd c l
def blank:Bool->Tx->Nat
 |_,[]=>0
 |false,b::l=>if b=32\/b=10 then blank false l+1 else if b=35 then blank true l+1 else 0
 |true,b::l=>if b=10 then blank false l+1 else blank true l+1
def BB(t:T3)(a:Int):Tk:=(t.1,t.2.1,t.2.2,a)
def dG:Nat->Tx->Int->PR (List Tk)
 |0,_,_=>.ok []
 |f+1,s,a=>
  if s.drop (blank false s)=[] then .ok [] else
  if(one inn sgn keyw rd (s.drop (blank false s))).2.2≠0 then .error (a+blank false s,(one inn sgn keyw rd (s.drop (blank false s))).2.2) else
  eb (dG f ((s.drop (blank false s)).drop (one inn sgn keyw rd (s.drop (blank false s))).2.1) (a+blank false s+(one inn sgn keyw rd (s.drop (blank false s))).2.1)) fun l=>.ok (BB (one inn sgn keyw rd (s.drop (blank false s))).1 (a+blank false s)::l)
end
theorem uh(p:Int->Bool):∀l,cZ p l<=l.length
 |[]=>Nat.le_refl _
 |b::l=>by
  have:=uh p l;unfold cZ;cases p b with
  |true=>rw[cond_true,zf];omega
  |false=>rw[cond_false];omega
theorem Uc{p:Int->Bool}{c:Int}{l:Tx}(h:p c=true):1<=cZ p (c::l):=by unfold cZ;rw[h,cond_true];omega
theorem qh1{p:Int->Bool}{y:Tx}(hy:p 10=false):∀l,cZ p (l++10::y)=cZ p l
 |[]=>by show cZ p (10::y)=0;unfold cZ;rw[hy];rfl
 |b::l=>by show cZ p (b::(l++10::y))=_;unfold cZ;rw[qh1 hy l]
theorem Qe:∀(n:Nat) (s b:Tx) (i:Nat),s.length<=n->(qt s b i).2<=i+s.length/\((qt s b i).2≠0->i<(qt s b i).2)
 |_,[],b,i,_=>by show(0:Nat)<=_/\(0≠0->_);exact⟨Nat.zero_le _,fun h=>absurd rfl h⟩
 |0,c::l,b,i,h=>by simp at h
 |n+1,c::l,b,i,h=>by
  have hl:l.length<=n:=by simpa using h
  have z:((([]:Tx),0):Tx×Nat).2<=i+(c::l).length/\(((([]:Tx),0):Tx×Nat).2≠0->i<((([]:Tx),0):Tx×Nat).2):=⟨Nat.zero_le _,fun h=>absurd rfl h⟩;unfold qt;split
  ·simp only[zf];exact⟨by omega,fun _=>by omega⟩
  split
  ·exact z
  split
  ·have:=Qe n l (b++[c]) (i+1) hl;rw[zf];exact⟨by omega,fun h=>by have:=this.2 h;omega⟩
  cases l with
  |nil=>exact z
  |cons d l2=>
   simp only[zf] at hl ⊢;split
   ·have:=Qe n l2 (b++[d]) (i+2) om;exact⟨by omega,fun h=>by have:=this.2 h;omega⟩
   split
   ·have:=Qe n l2 (b++[10]) (i+2) om;exact⟨by omega,fun h=>by have:=this.2 h;omega⟩
   split
   ·match l2,hl with
    |[],_=>exact⟨Nat.zero_le _,fun h=>absurd rfl h⟩
    |[x],_=>exact⟨Nat.zero_le _,fun h=>absurd rfl h⟩
    |x::y::l3,hl=>
     simp only[zf] at hl ⊢;split
     ·exact⟨Nat.zero_le _,fun h=>absurd rfl h⟩
     ·have:=Qe n l3 (b++[16*cO x+cO y]) (i+4) om;exact⟨by omega,fun h=>by have:=this.2 h;omega⟩
   ·exact⟨Nat.zero_le _,fun h=>absurd rfl h⟩
theorem Qf(z:Tx):∀(n:Nat) (s b:Tx) (i:Nat),s.length<=n->(qt s b i).2≠0->qt (s++z) b i=qt s b i
 |_,[],b,i,_,h=>absurd rfl h
 |0,c::l,b,i,h,_=>by simp at h
 |n+1,c::l,b,i,h,hq=>by
  have hl:l.length<=n:=by simpa using h
  revert hq;show(qt (c::l) b i).2≠0->qt (c::(l++z)) b i=_;unfold qt;split
  ·exact fun _=>rfl
  split
  ·exact fun h=>absurd rfl h
  split
  ·exact fun h=>Qf z n l _ _ hl h
  cases l with
  |nil=>exact fun h=>absurd rfl h
  |cons d l2=>
   simp only[zf] at hl;simp only[List.cons_append];split
   ·exact fun h=>Qf z n l2 _ _ om h
   split
   ·exact fun h=>Qf z n l2 _ _ om h
   split
   ·match l2,hl with
    |[],_=>exact fun h=>absurd rfl h
    |[x],_=>exact fun h=>absurd rfl h
    |x::y::l3,hl=>
     simp only[zf] at hl;simp only[List.cons_append];split
     ·exact fun h=>absurd rfl h
     ·exact fun h=>Qf z n l3 _ _ om h
   ·exact fun h=>absurd rfl h
end Pz
end Ev

namespace Ev
namespace Pz
structure Ga (inn sgn:Int->Bool):Prop where
 qK:∀c,M3 c=true\/M4 c=true->inn c=true
 i10:inn 10=false
 s10:sgn 10=false
section
variable {inn sgn:Int→Bool} {keyw:Tx→Bool} {rd:Tx→Int×Int}
theorem qdq(H:Ga inn sgn)(c:Int)(l:Tx)(P:T3×Nat×Int->Prop)(h1:∀n k,1<=n->n<=(c::l).length->P (oh keyw n k (c::l)))(h2:(gI c||decide (c=126))=true->(rd ((c::l).take (1+cZ gI l))).2=0->P ((3,[],(rd ((c::l).take (1+cZ gI l))).1),1+cZ gI l,0))(h3:(qt l [] 1).2≠0->(qt l [] 1).1.length<=200->P ((4,(qt l [] 1).1,0),(qt l [] 1).2,0))(h4:∀e,30<=e/\e<=32->P (BA e)):P (jP inn sgn keyw rd c l):=by
 unfold jP;cases g1:M3 c with
 |true=>exact h1 _ _ (Uc (H.qK c (.inl g1))) (uh _ _)
 |false=>
 cases g2:M4 c with
 |true=>exact h1 _ _ (Uc (H.qK c (.inr g2))) (uh _ _)
 |false=>
 cases g3:sgn c with
 |true=>exact h1 _ _ (Uc g3) (uh _ _)
 |false=>
 cases g4:(decide (c=40)||(decide (c=41)||decide (c=95))) with
 |true=>exact h1 1 6 (Nat.le_refl _) (by simp)
 |false=>
 cases g5:(decide (c=59)&&decide (l.head?=some 59)) with
 |true=>
  refine h1 2 6 om ?_;cases l with
  |nil=>simp at g5
  |cons e l2=>simp only[zf];omega
 |false=>
 cases g6:(gI c||decide (c=126)) with
 |true=>
  simp only[cond_true,cond_false];cases g7:decide ((rd ((c::l).take (1+cZ gI l))).2=0) with
  |true=>exact h2 g6 (jc g7)
  |false=>exact h4 31 dc
 |false=>
 cases g7:decide (c=34) with
 |false=>exact h4 30 dc
 |true=>
  simp only[cond_true,cond_false];cases g8:(decide ((qt l [] 1).2=0)||decide (200<(qt l [] 1).1.length)) with
  |true=>exact h4 32 dc
  |false=>rw[Bool.or_eq_false_iff,decide_eq_false_iff_not,decide_eq_false_iff_not] at g8;exact h3 g8.1 om
theorem Ud(H:Ga inn sgn)(s:Tx):(one inn sgn keyw rd s).2.2=0->1<=(one inn sgn keyw rd s).2.1/\(one inn sgn keyw rd s).2.1<=s.length:=by
 cases s with
 |nil=>exact fun h=>absurd h (show ¬(30:Int)=0 by decide)
 |cons c l=>
  refine qdq H c l (fun r=>r.2.2=0->1<=r.2.1/\r.2.1<=(c::l).length) (fun n k g1 g2 _=>⟨g1,g2⟩) (fun _ _ _=>?_) (fun g _ _=>?_) fun e he h=>?_
  ·have:=uh gI l;simp only[zf];omega
  ·have:=Qe l.length l [] 1 (Nat.le_refl _);have h2:=this.2 g;simp only[zf];omega
  ·have h:e=0:=h;omega
theorem z7c(H:Ga inn sgn)(s:Tx):(one inn sgn keyw rd s).2.2=0\/(30<=(one inn sgn keyw rd s).2.2/\(one inn sgn keyw rd s).2.2<=32):=by
 cases s with
 |nil=>exact .inr (show(30:Int)<=30/\(30:Int)<=32 by decide)
 |cons c l=>exact qdq H c l (fun r=>r.2.2=0\/(30<=r.2.2/\r.2.2<=32)) (fun n k g1 g2=>.inl rfl) (fun _ _=>.inl rfl) (fun g _=>.inl rfl) fun e he=>.inr he
theorem Qg:∀(n:Nat) (s b:Tx) (i:Nat),s.length<=n->(∀x,x∈s->0<=x/\x<=255)->(∀x,x∈b->0<=x/\x<=255)->∀x,x∈(qt s b i).1->0<=x/\x<=255
 |_,[],b,i,_,_,_=>fun x h=>absurd h (List.not_mem_nil)
 |0,c::l,b,i,h,_,_=>by simp at h
 |n+1,c::l,b,i,h,hs,hb=>by
  have hl:l.length<=n:=by simpa using h
  have z:∀x,x∈((([]:Tx),0):Tx×Nat).1->0<=x/\x<=255:=fun x h=>absurd h (List.not_mem_nil);have sn:∀{v:Int},0<=v/\v<=255->∀x,x∈b++[v]->0<=x/\x<=255:=fun hv x hx=>by
   rcases zL.1 hx with hx|hx
   ·exact hb x hx
   ·rw[zB.1 hx];exact hv
  have ht:∀x,x∈l->0<=x/\x<=255:=fun x hx=>hs x (zm _ hx);unfold qt;split
  ·exact hb
  split
  ·exact z
  split
  ·exact Qg n l _ _ hl ht (sn (hs c (zj ..)))
  cases l with
  |nil=>exact z
  |cons d l2=>
   simp only[zf] at hl;have hc:∀x,x∈l2->0<=x/\x<=255:=fun x hx=>ht x (zm _ hx);simp only;split
   ·exact Qg n l2 _ _ om hc (sn (ht d (zj ..)))
   split
   ·exact Qg n l2 _ _ om hc (sn dc)
   split
   ·match l2,hl,hc with
    |[],_,_=>exact z
    |[x],_,_=>exact z
    |x::y::l3,hl,hc=>
     simp only[zf] at hl;simp only;split
     ·exact z
     ·next hh=>
      have hx:∀c,cO c<=15:=fun c=>by
       unfold cO gI;cases h:(decide (48<=c)&&decide (c<=57)) with
       |true=>simp only[zd,decide_eq_true_eq] at h;rw[cond_true];omega
       |false=>
        rw[cond_false];cases h2:(decide (97<=c)&&decide (c<=102)) with
        |true=>simp only[zd,decide_eq_true_eq] at h2;rw[cond_true];omega
        |false=>rw[cond_false];omega
      have h1:=hx x;have h2:=hx y;exact Qg n l3 _ _ om (fun z hz=>hc z (zm _ (zm _ hz))) (sn om)
   ·exact z
theorem z2a(H:Ga inn sgn){N:Int->Prop}(n0:N 0)(s:Tx)(hs:∀x,x∈s->0<=x/\x<=255)(hN:∀t:Tx,(∀x,x∈t->0<=x/\x<=255)->t.length<=s.length->N (rd t).1):(∀x,x∈(one inn sgn keyw rd s).1.2.1->0<=x/\x<=255)/\(one inn sgn keyw rd s).1.2.1.length<=s.length+200/\N (one inn sgn keyw rd s).1.2.2:=by
 have z:∀x:Int,x∈([]:Tx)->0<=x/\x<=255:=fun x h=>absurd h (List.not_mem_nil);cases s with
 |nil=>exact⟨z,Nat.zero_le _,n0⟩
 |cons c l=>
  refine qdq H c l (fun r=>(∀x,x∈r.1.2.1->0<=x/\x<=255)/\r.1.2.1.length<=(c::l).length+200/\N r.1.2.2) (fun n k g1 g2=>⟨fun x hx=>hs x (List.mem_of_mem_take hx),?_,n0⟩) (fun _ _=>⟨z,Nat.zero_le _,hN _ (fun x hx=>hs x (List.mem_of_mem_take hx)) ?_⟩)
   (fun g g2=>⟨Qg l.length l [] 1 (Nat.le_refl _) (fun x hx=>hs x (zm _ hx)) z,by simp only;omega,n0⟩) fun e he=>⟨z,Nat.zero_le _,n0⟩
  ·show((c::l).take n).length<=_;rw[zJ];omega
  ·rw[zJ];omega
theorem z7d(H:Ga inn sgn)(y s:Tx)(h0:(one inn sgn keyw rd s).2.2=0):one inn sgn keyw rd (s++10::y)=one inn sgn keyw rd s:=by
 cases s with
 |nil=>exact absurd h0 (show ¬(30:Int)=0 by decide)
 |cons c l=>
  revert h0;show(jP inn sgn keyw rd c l).2.2=0->jP inn sgn keyw rd c (l++10::y)=jP inn sgn keyw rd c l;have k:∀{n:Nat} {k:Int},n<=(c::l).length->oh keyw n k (c::(l++10::y))=oh keyw n k (c::l):=fun {n k} hn=>by
   have e:(c::(l++10::y)).take n=(c::l).take n:=by have:c::(l++10::y)=(c::l)++10::y:=rfl;rw[this,je hn]
   unfold oh;rw[e]
  have sp:∀{p:Int->Bool},p 10=false->cZ p (c::(l++10::y))=cZ p (c::l):=fun hp=>qh1 hp (c::l);have s5:decide ((l++10::y).head?=some 59)=decide (l.head?=some 59):=by
   cases l with
   |nil=>rfl
   |cons e l2=>rfl
  have sd:cZ gI (l++10::y)=cZ gI l:=qh1 rfl l;have td:(c::(l++10::y)).take (1+cZ gI l)=(c::l).take (1+cZ gI l):=by have:=uh gI l;have e:c::(l++10::y)=(c::l)++10::y:=rfl;rw[e,je (by simp only[zf];omega)]
  unfold jP;rw[sp H.i10,sp H.s10,s5,sd,td,k (uh _ _),k (uh _ _),k (uh _ _),k (show 1<=(c::l).length by simp)];cases M3 c with
  |true=>exact fun _=>rfl
  |false=>
  cases M4 c with
  |true=>exact fun _=>rfl
  |false=>
  cases sgn c with
  |true=>exact fun _=>rfl
  |false=>
  cases (decide (c=40)||(decide (c=41)||decide (c=95))) with
  |true=>exact fun _=>rfl
  |false=>
  cases g5:(decide (c=59)&&decide (l.head?=some 59)) with
  |true=>
   have hc:2<=(c::l).length:=by
    cases l with
    |nil=>simp at g5
    |cons e l2=>simp only[zf];omega
   rw[k hc];exact fun _=>rfl
  |false=>
  cases (gI c||decide (c=126)) with
  |true=>exact fun _=>rfl
  |false=>
  cases decide (c=34) with
  |false=>exact fun _=>rfl
  |true=>
   simp only[cond_true,cond_false];by_cases hq:(qt l [] 1).2=0
   ·rw[zo hq,Bool.true_or,cond_true];exact fun h=>absurd h dc
   ·rw[Qf (10::y) l.length l [] 1 (Nat.le_refl _) hq];exact fun _=>rfl
end
theorem BC:∀(b:Bool) (s:Tx),blank b s<=s.length
 |b,[]=>by cases b<;>exact Nat.le_refl _
 |false,c::l=>by
  unfold blank;have h1:=BC false l;have h2:=BC true l;rw[zf];split
  ·omega
  ·split<;>omega
 |true,c::l=>by unfold blank;have h1:=BC false l;have h2:=BC true l;rw[zf];split<;>omega
theorem Qh:∀(b:Bool) (s z:Tx),blank b s<s.length->blank b (s++z)=blank b s
 |b,[],z,h=>by simp at h
 |false,c::l,z,h=>by
  revert h;show blank false (c::l)<_->blank false (c::(l++z))=blank false (c::l);unfold blank;rw[zf];split
  ·intro h;rw[Qh false l z om]
  ·split
   ·intro h;rw[Qh true l z om]
   ·exact fun _=>rfl
 |true,c::l,z,h=>by
  revert h;show blank true (c::l)<_->blank true (c::(l++z))=blank true (c::l);unfold blank;rw[zf];split
  ·intro h;rw[Qh false l z om]
  ·intro h;rw[Qh true l z om]
theorem Qi:∀(b:Bool) (s y:Tx),blank b s=s.length->blank b (s++10::y)=s.length+blank false (10::y)
 |false,[],y,_=>by simp
 |true,[],y,_=>by simp[blank]
 |false,c::l,y,h=>by
  revert h;show blank false (c::l)=_->blank false (c::(l++10::y))=_;have h1:=BC false l;have h2:=BC true l
  conv=>lhs;unfold blank
  conv=>rhs;lhs;unfold blank
  rw[zf];split
  ·intro h;rw[Qi false l y om];omega
  ·split
   ·intro h;rw[Qi true l y om];omega
   ·intro h;omega
 |true,c::l,y,h=>by
  revert h;show blank true (c::l)=_->blank true (c::(l++10::y))=_;have h1:=BC false l;have h2:=BC true l
  conv=>lhs;unfold blank
  conv=>rhs;lhs;unfold blank
  rw[zf];split
  ·intro h;rw[Qi false l y om];omega
  ·intro h;rw[Qi true l y om];omega
end Pz
end Ev

namespace Ev
namespace Pz
section
variable {inn sgn:Int→Bool} {keyw:Tx→Bool} {rd:Tx→Int×Int}
theorem z2b{α β:Type}{x y:PR α}{f:α->PR β}(h:x=y):eb x f=eb y f:=by rw[h]
theorem Qj(H:Ga inn sgn):∀(n:Nat) (s:Tx),s.length<=n->∀(f f':Nat) (a:Int),s.length<f->s.length<f'->dG inn sgn keyw rd f s a=dG inn sgn keyw rd f' s a:=by
 intro n
 induction n with
 |zero=>intro s hs f f' a h1 h2;obtain⟨f,rfl⟩:∃g,f=g+1:=⟨f-1,by omega⟩;obtain⟨f',rfl⟩:∃g,f'=g+1:=⟨f'-1,by omega⟩;have:s.drop (blank false s)=[]:=zw om;unfold dG;rw[if_pos this,if_pos this]
 |succ n ih=>
  intro s hs f f' a h1 h2;obtain⟨f,rfl⟩:∃g,f=g+1:=⟨f-1,by omega⟩;obtain⟨f',rfl⟩:∃g,f'=g+1:=⟨f'-1,by omega⟩;have hb:=BC false s;unfold dG;by_cases h0:s.drop (blank false s)=[]
  ·rw[if_pos h0,if_pos h0]
  ·rw[if_neg h0,if_neg h0];by_cases he:(one inn sgn keyw rd (s.drop (blank false s))).2.2≠0
   ·rw[if_pos he,if_pos he]
   ·rw[if_neg he,if_neg he];have hl:=Ud (keyw:=keyw) (rd:=rd) H (s.drop (blank false s)) (Classical.not_not.1 he);rw[zD] at hl;exact z2b (ih _ (by rw[zD,zD];omega) f f' _ (by rw[zD,zD];omega) (by rw[zD,zD];omega))
def shT(b:Int)(t:Tk):Tk:=(t.1,t.2.1,t.2.2.1,t.2.2.2+b)
def Gw(b:Int):PR (List Tk)->PR (List Tk)
 |.ok l=>.ok (l.map (shT b))
 |.error e=>.error (e.1+b,e.2)
theorem qnu(b:Int):∀(f:Nat) (s:Tx) (a:Int),dG inn sgn keyw rd f s (a+b)=Gw b (dG inn sgn keyw rd f s a)
 |0,s,a=>rfl
 |f+1,s,a=>by
  unfold dG;by_cases h0:s.drop (blank false s)=[]
  ·rw[if_pos h0,if_pos h0];rfl
  ·rw[if_neg h0,if_neg h0];by_cases he:(one inn sgn keyw rd (s.drop (blank false s))).2.2≠0
   ·rw[if_pos he,if_pos he];show(.error _:PR (List Tk))=.error _;congr 2;omega
   ·rw[if_neg he,if_neg he];have e1:a+b+(blank false s:Int)+((one inn sgn keyw rd (s.drop (blank false s))).2.1:Int)=(a+(blank false s:Int)+((one inn sgn keyw rd (s.drop (blank false s))).2.1:Int))+b:=om
    have e2:a+b+(blank false s:Int)=a+(blank false s:Int)+b:=om
    rw[e1,qnu b f,e2];cases dG inn sgn keyw rd f ((s.drop (blank false s)).drop (one inn sgn keyw rd (s.drop (blank false s))).2.1) (a+(blank false s:Int)+((one inn sgn keyw rd (s.drop (blank false s))).2.1:Int))<;>rfl
theorem Ue(f:Nat)(s z:Tx)(a:Int)(h:blank false (s++z)=s.length+blank false z):dG inn sgn keyw rd (f+1) (s++z) a=dG inn sgn keyw rd (f+1) z (a+(s.length:Int)):=by
 have e:(s++z).drop (s.length+blank false z)=z.drop (blank false z):=by rw[<-List.drop_drop,List.drop_left]
 have e2:a+((s.length+blank false z:Nat):Int)=a+(s.length:Int)+(blank false z:Int):=om
 conv=>lhs;unfold dG
 conv=>rhs;unfold dG
 rw[h,e,e2]
theorem z7e(H:Ga inn sgn)(y:Tx):∀(n:Nat) (s:Tx),s.length<=n->∀(f f':Nat) (a:Int) (l:List Tk),s.length<f->s.length+y.length+1<f'->dG inn sgn keyw rd f s a=.ok l->dG inn sgn keyw rd f' (s++10::y) a=eb (dG inn sgn keyw rd f' (10::y) (a+(s.length:Int))) fun r=>.ok (l++r):=by
 intro n
 induction n using Nat.strongRecOn with
 |_ n ih=>
  intro s hs f f' a l h1 h2 hl;obtain⟨f,rfl⟩:∃g,f=g+1:=⟨f-1,by omega⟩;obtain⟨f',rfl⟩:∃g,f'=g+1:=⟨f'-1,by omega⟩;have hb:=BC false s
  conv at hl=>lhs;unfold dG
  by_cases h0:s.drop (blank false s)=[]
  ·rw[if_pos h0] at hl;injection hl with hl;have hd:=congrArg List.length h0;rw[zD,List.length_nil] at hd;rw[Ue f' s (10::y) a (Qi false s y om),<-hl];cases dG inn sgn keyw rd (f'+1) (10::y) (a+(s.length:Int))<;>rfl
  ·rw[if_neg h0] at hl;have hg:blank false s<s.length:=by
    rcases Nat.lt_or_ge (blank false s) s.length with h|h
    ·exact h
    ·exact absurd (zw h) h0
   by_cases he:(one inn sgn keyw rd (s.drop (blank false s))).2.2≠0
   ·rw[if_pos he] at hl;cases hl
   ·rw[if_neg he] at hl;have hc:=Classical.not_not.1 he;have hf:=Ud (keyw:=keyw) (rd:=rd) H (s.drop (blank false s)) hc;obtain⟨l2,g1,g2⟩:∃l2,dG inn sgn keyw rd f ((s.drop (blank false s)).drop (one inn sgn keyw rd (s.drop (blank false s))).2.1) (a+(blank false s:Int)+((one inn sgn keyw rd (s.drop (blank false s))).2.1:Int))=.ok l2/\l=BB (one inn sgn keyw rd (s.drop (blank false s))).1 (a+(blank false s:Int))::l2:=by
     revert hl;cases dG inn sgn keyw rd f ((s.drop (blank false s)).drop (one inn sgn keyw rd (s.drop (blank false s))).2.1) (a+(blank false s:Int)+((one inn sgn keyw rd (s.drop (blank false s))).2.1:Int)) with
     |error e=>intro h;cases h
     |ok l2=>intro h;injection h with h;exact⟨l2,rfl,h.symm⟩
    have hj:blank false (s++10::y)=blank false s:=Qh false s _ hg;have hm:(s++10::y).drop (blank false s)=s.drop (blank false s)++10::y:=jf hb;have hn:=z7d (keyw:=keyw) (rd:=rd) H y (s.drop (blank false s)) hc
    conv=>lhs;unfold dG
    rw[hj,hm,hn,if_neg (by simp),if_neg he,jf hf.2];generalize hk:(one inn sgn keyw rd (s.drop (blank false s))).2.1=k at*
    have ho:((s.drop (blank false s)).drop k).length=s.length-blank false s-k:=by rw[zD,zD]
    rw[zD] at hf;rw[ih ((s.drop (blank false s)).drop k).length om _ (Nat.le_refl _) f f' _ l2 om om g1];have e3:a+(blank false s:Int)+(k:Int)+((((s.drop (blank false s)).drop k).length:Nat):Int)=a+(s.length:Int):=om
    rw[e3,Qj H (10::y).length (10::y) (Nat.le_refl _) f' (f'+1) _ (by simp only[zf];omega) (by simp only[zf];omega),g2];cases dG inn sgn keyw rd (f'+1) (10::y) (a+(s.length:Int))<;>rfl
def OkL(N:Int->Prop)(a:Int)(m:Nat)(r:PR (List Tk)):Prop:=match r with
 |.ok l=>l.length<=m/\∀t,t∈l->((∀x,x∈t.2.1->0<=x/\x<=255)/\t.2.1.length<=m+200/\N t.2.2.1)/\a<=t.2.2.2/\t.2.2.2<=a+m
 |.error e=>(a<=e.1/\e.1<=a+m)/\30<=e.2/\e.2<=32
theorem z4p(H:Ga inn sgn){N:Int->Prop}(n0:N 0)(M:Nat)(hN:∀t:Tx,(∀x,x∈t->0<=x/\x<=255)->t.length<=M->N (rd t).1):∀(f:Nat) (s:Tx) (a:Int),s.length<=M->(∀x,x∈s->0<=x/\x<=255)->OkL N a s.length (dG inn sgn keyw rd f s a)
 |0,s,a,_,_=>⟨Nat.zero_le _,fun t h=>absurd h (List.not_mem_nil)⟩
 |f+1,s,a,hM,hs=>by
  have hb:=BC false s;unfold dG;by_cases h0:s.drop (blank false s)=[]
  ·rw[if_pos h0];exact⟨Nat.zero_le _,fun t h=>absurd h (List.not_mem_nil)⟩
  ·rw[if_neg h0];by_cases he:(one inn sgn keyw rd (s.drop (blank false s))).2.2≠0
   ·rw[if_pos he];exact⟨⟨by simp only;omega,by simp only;omega⟩,(z7c H _).resolve_left he⟩
   ·rw[if_neg he];have hd:=Classical.not_not.1 he;have hf:=Ud (keyw:=keyw) (rd:=rd) H (s.drop (blank false s)) hd;have hg:=z2a (keyw:=keyw) (rd:=rd) H n0 (s.drop (blank false s)) (fun x hx=>hs x (List.mem_of_mem_drop hx)) (fun t ht hl=>hN t ht (by rw[zD] at hl;omega));rw[zD] at hf hg;have hc:((s.drop (blank false s)).drop (one inn sgn keyw rd (s.drop (blank false s))).2.1).length=s.length-blank false s-(one inn sgn keyw rd (s.drop (blank false s))).2.1:=by rw[zD,zD]
    have r:=z4p H n0 M hN f ((s.drop (blank false s)).drop (one inn sgn keyw rd (s.drop (blank false s))).2.1) (a+(blank false s:Int)+((one inn sgn keyw rd (s.drop (blank false s))).2.1:Int)) om (fun x hx=>hs x (List.mem_of_mem_drop (List.mem_of_mem_drop hx)));rw[hc] at r;revert r;cases dG inn sgn keyw rd f ((s.drop (blank false s)).drop (one inn sgn keyw rd (s.drop (blank false s))).2.1) (a+(blank false s:Int)+((one inn sgn keyw rd (s.drop (blank false s))).2.1:Int)) with
    |error e=>rintro⟨⟨r1,r2⟩,r3⟩;exact⟨⟨by omega,by omega⟩,r3⟩
    |ok l=>
     rintro⟨r1,r2⟩;refine⟨?_,fun t ht=>?_⟩
     ·show(_::l).length<=_;rw[zf];omega
     ·rcases zt.1 ht with rfl|ht
      ·exact⟨⟨hg.1,Nat.le_trans hg.2.1 om,hg.2.2⟩,by show a<=a+(blank false s:Int);omega,by show a+(blank false s:Int)<=_;omega⟩
      ·obtain⟨⟨q1,q2,q3⟩,q4,q5⟩:=r2 t ht;exact⟨⟨q1,by omega,q3⟩,by omega,by omega⟩
end
end Pz
end Ev

namespace Ev
open Go
namespace Fn
theorem z7f{a b:List Int}:bx a b=true↔a=b:=by simp[bx]
def cP(l:List ay)(op:List Int):List ay:=l.filter fun x=>!bx x.1 op
def HM(a b:ay):Bool:=!uQ b a
def wR(l:List ay):List ay:=l.mergeSort fun a b=>!uQ b a
def dz(l:List ay)(f:ay):List ay×Int:=if eH l≠0 then([],eH l) else if gQ f=false\/(cP l f.1).length=400 then([],40) else(wR (cP l f.1++[f]),0)
theorem Qk(x f:ay):kV (x,f,())=some (bx x.1 f.1,()):=YM x.1 x.2.1 x.2.2 f.1 f.2.1 f.2.2
theorem qyl(n:Bool)(l:List ay)(f:ay)(hl:l.length<=1000000):∀(m k:Nat),k+m=l.length->(∀x,x∈l.take k->bx x.1 f.1=false)->∃r,aM nh (⟨n,l⟩,f,(l.length:Int),(k:Int),())=some (r,())/\((r=-1/\∀x,x∈l->bx x.1 f.1=false)\/∃(j:Nat) (x:ay),r=(j:Int)/\l[j]?=some x/\bx x.1 f.1=true/\∀x,x∈l.take j->bx x.1 f.1=false):=by
 intro m
 induction m with
 |zero=>intro k hk ha;refine⟨-1,bX ?_,.inl ⟨rfl,fun x hx=>ha x (by rw[zT om];exact hx)⟩⟩;unfold nh;simp only;rw[cd,if_neg om]
 |succ m ih=>
  intro k hk ha;have hc:k<l.length:=om
  have step:nh (⟨n,l⟩,f,(l.length:Int),(k:Int),())=aq (bx l[k].1 f.1) (some (.inr ((k:Int),()))) (some (.inl (⟨n,l⟩,f,(l.length:Int),((k+1:Nat):Int),()))):=by unfold nh;simp only;rw[cd,if_pos om,bR (ze hc),af,Qk,af,aO om]
  cases h:bx l[k].1 f.1 with
  |true=>rw[h,aP] at step;exact⟨k,bX step,.inr ⟨k,l[k],rfl,ze hc,h,ha⟩⟩
  |false=>
   rw[h,aH] at step;obtain⟨r,h1,h2⟩:=ih (k+1) om (fun x hx=>by
    rw[List.take_add_one,ze hc] at hx;rcases zL.1 hx with hx|hx
    ·exact ha x hx
    ·have:x=l[k]:=by simpa using hx
     rw[this];exact h)
   exact⟨r,by rw[dC step,h1],h2⟩
theorem qnv{l:List ay}{op:List Int}(h:∀x,x∈l->bx x.1 op=false):cP l op=l:=by unfold cP;rw[List.filter_eq_self];intro x hx;rw[h x hx];rfl
theorem qnw{l:List ay}{op:List Int}{j:Nat}{x:ay}(h:l[j]?=some x):cP (l.take (j+1)) op=cP (l.take j) op++(if bx x.1 op=true then [] else [x]):=by unfold cP;rw[List.take_add_one,h,List.filter_append];congr 1;cases hx:bx x.1 op<;>simp[hx]
theorem z2c(f:ay)(b:Bool)(l:List ay)(hl:l.length<=1000000):∀(m j i:Nat) (a:List ay),j+m=l.length->a.length=l.length->i<=j->a.take i=cP (l.take j) f.1->a.drop j=l.drop j->aM p5 (f,(i:Int),(j:Int),⟨b,a⟩,())=some (⟨b,cP l f.1⟩,()):=by
 intro m
 induction m with
 |zero=>
  intro j i a hj ha hi h1 h2;refine bX ?_;unfold p5;simp only;have c1:cF (ae a) (i:Int)=some i:=by unfold cF ae;rw[if_pos om];simp
  have lz:(dX a (i:Int) (([]:List Int),(0:Int),(0:Int))).length=a.length:=by unfold dX;rw[zh,zJ,List.length_replicate,Int.toNat_natCast];omega
  have c2:cF (ae (dX a (i:Int) (([]:List Int),(0:Int),(0:Int)))) (i:Int)=some i:=by unfold cF ae;rw[lz,if_pos om];simp
  have tz:aF (dX a (i:Int) (([]:List Int),(0:Int),(0:Int))) i=a.take i:=by unfold aF dX;rw[Int.toNat_natCast,je (by rw[zJ];omega),List.take_take,Nat.min_self]
  rw[cd,if_neg (by unfold ae;omega),c1,af,c2,af,tz,h1,zT om]
 |succ m ih=>
  intro j i a hj ha hi h1 h2;have hc:j<l.length:=om
  have hx:a[j]?=some l[j]:=by have:=congrArg (fun z:List ay=>z[0]?) h2;simp only[List.getElem?_drop,Nat.add_zero] at this;rw[this,ze hc]
  have hd:a.drop (j+1)=l.drop (j+1):=by rw[<-List.drop_drop,<-List.drop_drop,h2]
  have dt:=qnw (op:=f.1) (ze hc);have step:p5 (f,(i:Int),(j:Int),⟨b,a⟩,())=if bx l[j].1 f.1=true then some (.inl (f,(i:Int),((j+1:Nat):Int),⟨b,a⟩,())) else some (.inl (f,((i+1:Nat):Int),((j+1:Nat):Int),⟨b,a.set i l[j]⟩,())):=by
   unfold p5;simp only;have g:kV ((l[j].1,l[j].2.1,l[j].2.2),f,())=some (bx l[j].1 f.1,()):=Qk _ _;have oi:bC a (i:Int)=some i:=mw om;have ni:nth a i=some (a[i]' om):=vN (ze om);rw[cd,if_pos (by unfold ae;omega),mw (by omega:j<a.length),af,vN hx,af,g,af,oi,af,ni,af,af];cases bx l[j].1 f.1 with
   |true=>rw[if_pos rfl];show ag (aq (ai true) _ _) _=_;simp only[ai,Bool.not_true,aH,af];rw[aO om]
   |false=>rw[if_neg dc];show ag (aq (ai false) _ _) _=_;simp only[ai,Bool.not_false,aP,af];rw[aO om,aO om];rfl
  cases he:bx l[j].1 f.1 with
  |true=>rw[he,if_pos rfl] at step dt;rw[dC step];exact ih (j+1) i a om ha om (by rw[h1,dt,zu]) hd
  |false=>
   rw[he,if_neg dc] at step dt;rw[dC step];refine ih (j+1) (i+1) _ om (by rw[List.length_set];exact ha) om ?_ ?_
   ·rw[dt,<-h1,List.take_add_one,List.getElem?_set_self om,List.take_set_of_le om];rfl
   ·rw[List.drop_set_of_lt om];exact hd
theorem z2d(n:Bool)(f:ay)(l:List ay)(hl:l.length<=1000000):pv (f,⟨n,l⟩,())=some (⟨n,cP l f.1⟩,()):=by
 obtain⟨r,h1,h2⟩:=qyl n l f hl l.length 0 om (fun x hx=>by rw[List.take_zero] at hx;cases hx);have h1:aM nh (⟨n,l⟩,f,ae l,0,())=some (r,()):=h1;have e:pv (f,⟨n,l⟩,())=_:=YO f.1 f.2.1 f.2.2 ⟨n,l⟩;have e2:sE (⟨n,l⟩,f,())=_:=YN ⟨n,l⟩ f.1 f.2.1 f.2.2;rw[e,e2,h1,af];rcases h2 with ⟨rfl,h2⟩|⟨j,x,rfl,h3,h4,h5⟩
 ·rw[fY,aP,qnv h2]
 ·have hj:j<l.length:=by
   rcases Nat.lt_or_ge j l.length with h|h
   ·exact h
   ·rw[zU h] at h3;cases h3
  rw[eP om,aH,aO om];refine z2c f n l hl (l.length-(j+1)) (j+1) j l om rfl om ?_ rfl;rw[qnw h3,if_pos h4,zu,qnv h5]
theorem Uf(l:List ay)(op:List Int):(cP l op).length<=l.length:=List.length_filter_le ..
theorem gJ{l:List ay}{op:List Int}{x:ay}:x∈cP l op↔x∈l/\x.1≠op:=by
 unfold cP;rw[List.mem_filter];have:(!bx x.1 op)=true↔x.1≠op:=by rw[Bool.not_eq_true',<-Bool.not_eq_true,z7f]
 rw[this]
theorem qym{x:ay}(h:gF x):uP x=true:=by unfold uP;simp only[zd,decide_eq_true_eq,zS];exact⟨⟨⟨h.1,h.2.1⟩,h.2.2.1⟩,h.2.2.2⟩
theorem ql0{l:List ay}(hp:l.Pairwise fun x y=>x.1≠y.1)(f:ay):(cP l f.1++[f]).Pairwise fun x y=>x.1≠y.1:=by rw[List.pairwise_append];refine⟨hp.sublist List.filter_sublist,List.pairwise_singleton ..,fun x hx y hy=>?_⟩;rw[zB.1 hy];exact(gJ.1 hx).2
theorem qyn{l:List ay}(hp:l.Pairwise fun x y=>x.1≠y.1){x y:ay}(hx:x∈l)(hy:y∈l)(e:x.1=y.1):x=y:=by
 induction hp with
 |nil=>cases hx
 |cons h1 _ ih=>
  rcases zt.1 hx with ex|hx
  ·rcases zt.1 hy with ey|hy
   ·rw[ex,ey]
   ·rw[ex] at e;exact absurd e (h1 _ hy)
  ·rcases zt.1 hy with ey|hy
   ·rw[ey] at e;exact absurd e.symm (h1 _ hx)
   ·exact ih hx hy
theorem z2e{l:List ay}(hp:l.Pairwise fun x y=>x.1≠y.1):GZ l=true:=by
 unfold GZ;rw[zS];intro x hx;rw[zS];intro y hy;by_cases e:x.1=y.1
 ·rw[qyn hp hx hy e];simp
 ·simp[e]
theorem z2f(n:Bool){l:List ay}(h:gL l)(hn:n=true->l=[])(f:ay)(hf:gF f)(hl:f.1.length<=1000000):∃q,kW (⟨n,l⟩,f,())=some (⟨q,(dz l f).1⟩,(dz l f).2,())/\(q=true->(dz l f).1=[]):=by
 have e:kW (⟨n,l⟩,f,())=_:=YP ⟨n,l⟩ f.1 f.2.1 f.2.2;rw[e,MU n h,af];unfold dz;by_cases hc:eH l=0
 ·have e0:ai (ak (eH l) 0)=false:=by rw[hc];rfl
  simp only[e0,aH];rw[if_neg (by simpa using hc)];obtain⟨k1,k2,k3⟩:=MW hc;have hg:∃q,kU (⟨n,l⟩,())=some (⟨q,l⟩,()):=by
   rw[Pg];cases hj:n with
   |true=>rw[aP,hn hj];exact⟨_,rfl⟩
   |false=>rw[aH,fm (by simp only[aW,ae,List.length_nil];omega),af];exact⟨_,rfl⟩
  obtain⟨q,hg⟩:=hg;have hr:kO ((f.1,f.2.1,f.2.2),())=some (gQ f,()):=qjb f hf hl;have hd:pv ((f.1,f.2.1,f.2.2),⟨q,l⟩,())=some (⟨q,cP l f.1⟩,()):=z2d q f l om;have dl:=Uf l f.1;rw[hg,af,hd,af,hr,af];by_cases he:gQ f=false\/(cP l f.1).length=400
  ·rw[if_pos he];refine⟨true,?_,fun _=>rfl⟩;have:ag (aq (ai (gQ f)) (some true) (some (ak (ae (cP l f.1)) 400)))=fun g:Bool->Option (Sl ay×Int×Unit)=>g true:=by
    funext g;cases hk:gQ f with
    |false=>rfl
    |true=>
     rcases he with he|he
     ·rw[hk] at he;cases he
     ·simp only[ai,Bool.not_true,aH,af];rw[show ak (ae (cP l f.1)) 400=true by unfold ae;rw[he];rfl]
   rw[this];rfl
  ·rw[if_neg he];have h1:gQ f=true:=by
    cases hh:gQ f with
    |true=>rfl
    |false=>exact absurd (.inl hh) he
   have h2:(cP l f.1).length≠400:=fun hh=>he (.inr hh);have h3:ak (ae (cP l f.1)) 400=false:=eP (by unfold ae;omega);have np:=ql0 (jl.1 k3) f;have hs:vj (⟨aD q (ch [(f.1,f.2.1,f.2.2)]),app (cP l f.1) [(f.1,f.2.1,f.2.2)]⟩,())=some (⟨aD q false,wR (cP l f.1++[f])⟩,()):=by
    unfold vj;have g1:(app (cP l f.1) [(f.1,f.2.1,f.2.2)]).all uP=true:=by
     rw[zS];intro x hx;rcases zL.1 hx with hx|hx
     ·exact qym (h.1 x (gJ.1 hx).1)
     ·rw[zB.1 hx];exact qym hf
    have g2:GZ (app (cP l f.1) [(f.1,f.2.1,f.2.2)])=true:=z2e np;have g3:decide ((app (cP l f.1) [(f.1,f.2.1,f.2.2)]).length<4611686018427387904)=true:=zo (by
     show(cP l f.1++[_]).length<_;rw[zh,List.length_singleton];omega)
    simp only[g1,g2,g3];rfl
   refine⟨aD q false,?_,fun hh=>by cases q<;>cases hh⟩;rw[h1];simp only[ai,Bool.not_true,aH,af,h3];rw[fm (by unfold aW ae;simp only[List.length_singleton];omega),af,hs];rfl
 ·have e0:ai (ak (eH l) 0)=true:=by rw[eP hc];rfl
  simp only[e0,aP];rw[if_pos hc];exact⟨true,rfl,fun _=>rfl⟩
theorem qh2(l:List ay)(x:ay):x∈wR l↔x∈l:=(List.mergeSort_perm l _).mem_iff
theorem qh3(l:List ay):(wR l).length=l.length:=List.length_mergeSort l
theorem z7g{l:List ay}(h:gL l){f:ay}(hf:gF f)(hl:f.1.length<=1000000):gL (dz l f).1:=by
 unfold dz;by_cases hc:eH l=0
 ·rw[if_neg (by simpa using hc)];by_cases hd:gQ f=false\/(cP l f.1).length=400
  ·rw[if_pos hd];exact⟨(fun x hx=>by cases hx),(fun x hx=>by cases hx),Nat.zero_le _⟩
  ·rw[if_neg hd];have dl:=Uf l f.1;have:=(MW hc).1;have hm:∀x,x∈wR (cP l f.1++[f])->x∈l\/x=f:=fun x hx=>by
    rcases zL.1 ((qh2 _ x).1 hx) with hx|hx
    ·exact .inl (gJ.1 hx).1
    ·exact .inr (zB.1 hx)
   refine⟨fun x hx=>?_,fun x hx=>?_,?_⟩
   ·rcases hm x hx with hx|rfl
    ·exact h.1 x hx
    ·exact hf
   ·rcases hm x hx with hx|rfl
    ·exact h.2.1 x hx
    ·exact hl
   ·show(wR (cP l f.1++[f])).length<=_;rw[qh3,zh,List.length_singleton];omega
 ·rw[if_pos hc];exact⟨(fun x hx=>by cases hx),(fun x hx=>by cases hx),Nat.zero_le _⟩
theorem z7h{l:List ay}(hl:l.length<400)(f:ay):((dz l f).2=0↔eH l=0/\gQ f=true)/\((dz l f).2=0->dz l f=(wR (cP l f.1++[f]),0)/\eH (dz l f).1=0/\(dz l f).1.length<=l.length+1):=by
 have dl:=Uf l f.1;unfold dz;by_cases hc:eH l=0
 ·rw[if_neg (by simpa using hc)];cases hr:gQ f with
  |false=>rw[if_pos (.inl rfl)];exact⟨⟨(fun h=>by cases h),(fun h=>by cases h.2)⟩,(fun h=>by cases h)⟩
  |true=>
   rw[if_neg (by rintro(h|h);cases h;omega)];obtain⟨k1,k2,k3⟩:=MW hc;have np:=ql0 (jl.1 k3) f;have hd:(wR (cP l f.1++[f])).length=(cP l f.1).length+1:=by rw[qh3,zh,List.length_singleton]
   refine⟨⟨fun _=>⟨hc,rfl⟩,fun _=>rfl⟩,fun _=>⟨rfl,qs2 (by show(wR _).length<=400;omega) (fun x hx=>?_) ?_,by show(wR _).length<=_;omega⟩⟩
   ·rcases zL.1 ((qh2 _ x).1 hx) with hx|hx
    ·exact k2 x (gJ.1 hx).1
    ·rw[zB.1 hx];exact hr
   ·exact((List.mergeSort_perm _ _).pairwise_iff (fun h=>Ne.symm h)).2 np
 ·rw[if_pos hc];exact⟨⟨fun h=>absurd h hc,fun h=>absurd h.1 hc⟩,fun h=>absurd h hc⟩
end Fn
end Ev