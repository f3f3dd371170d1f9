/- Layers 4 and 7 in plain words: fixities; a parser, a lexer; what the reference says of them. No statement of its own about the program. -/
import Derived.Test.YtakmoaimmdheeaaGreatDoorPlainA
import Derived.Laws.RangeAny
namespace Ev
namespace Fx
section
variable (lv sd:Nat→Int)
def LB(o x:Nat):Prop:=lv o<lv x\/(lv o=lv x/\sd o<0/\sd x<0)
def RB(o x:Nat):Prop:=lv o<lv x\/(lv o=lv x/\0<sd o/\0<sd x)
inductive B:Nat->Nat->List Int->Prop
 |nil (a:Nat):B a a [-1-(a:Int)]
 |node (a r b:Nat) (x y:List Int):a<=r->r<b->(∀i,a<=i->i<r->LB lv sd r i)->(∀i,r<i->i<b->RB lv sd r i)->B a r x->B (r+1) b y->B a b ((r:Int)::(x++y))
variable {lv sd}
theorem RB.trans{a b c:Nat}(h1:RB lv sd a b)(h2:RB lv sd b c):RB lv sd a c:=by
 unfold RB at*
 rcases h1 with h1|⟨h1,h3,h4⟩<;>rcases h2 with h2|⟨h2,h5,h6⟩
 ·exact .inl (by omega)
 ·exact .inl (by omega)
 ·exact .inl (by omega)
 ·exact .inr ⟨by omega,h3,h6⟩
theorem B.le{a b:Nat}{x:List Int}(h:B lv sd a b x):a<=b:=by
 cases h with
 |nil=>exact Nat.le_refl _
 |node _ r _ _ _ h1 h2=>omega
def lo:List (Nat×List Int)->Nat
 |[]=>0
 |(o,_)::_=>o+1
variable (lv sd)
def Inv:List (Nat×List Int)->List Int->Nat->Prop
 |[],cur,k=>B lv sd 0 k cur
 |(o,P)::S,cur,k=>o<k/\B lv sd (o+1) k cur/\(∀x,o<x->x<k->RB lv sd o x)/\(∀x,lo S<=x->x<o->LB lv sd o x)/\Inv S P o/\(∀p,p∈S->∀x,p.1<x->x<k->RB lv sd p.1 x)
variable {lv sd}
theorem Inv.B{S:List (Nat×List Int)}{cur:List Int}{k:Nat}(h:Inv lv sd S cur k):Fx.B lv sd (lo S) k cur:=by
 cases S with
 |nil=>exact h
 |cons p S=>exact h.2.1
theorem Inv.pop{o k:Nat}{P cur:List Int}{S:List (Nat×List Int)}(h:Inv lv sd ((o,P)::S) cur k):Inv lv sd S ((o:Int)::(P++cur)) k:=by
 obtain⟨h1,h2,h3,h4,h5,h6⟩:=h;have hb:=h5.B;cases S with
 |nil=>exact .node 0 o k P cur (Nat.zero_le _) h1 (fun i h7 h8=>h4 i h7 h8) h3 hb h2
 |cons p S=>obtain⟨o',P'⟩:=p;obtain⟨g1,g2,g3,g4,g5,g6⟩:=h5;refine⟨by omega,.node (o'+1) o k P cur (by omega) h1 (fun i h7 h8=>h4 i h7 h8) h3 hb h2,fun x h7 h8=>h6 _ (ze ..) x h7 h8,g4,g5,fun p hp=>h6 p (zg _ hp)⟩
def Mid(lv sd:Nat->Int)(S:List (Nat×List Int))(k:Nat):Prop:=∀x,lo S<=x->x<k->LB lv sd k x
theorem Mid.pop{o k:Nat}{P cur:List Int}{S:List (Nat×List Int)}(h:Inv lv sd ((o,P)::S) cur k)(hm:Mid lv sd ((o,P)::S) k)(hc:lv k<lv o\/(lv k=lv o/\sd k<0/\sd o<0)):Mid lv sd S k:=by
 obtain⟨h1,h2,h3,h4,h5,h6⟩:=h;intro x hx hk;rcases Nat.lt_trichotomy x o with h|h|h
 ·have:=h4 x hx h;unfold LB at*
  omega
 ·subst h;unfold LB;omega
 ·exact hm x h hk
theorem Inv.push{k:Nat}{cur:List Int}{S:List (Nat×List Int)}(h:Inv lv sd S cur k)(hm:Mid lv sd S k)(ht:∀p,S.head?=some p->RB lv sd p.1 k):Inv lv sd ((k,cur)::S) [-2-(k:Int)] (k+1):=by
 have all:∀p,p∈S->∀x,p.1<x->x<k->RB lv sd p.1 x:=by
  cases S with
  |nil=>intro p hp;cases hp
  |cons q S=>
   obtain⟨h1,h2,h3,h4,h5,h6⟩:=h;intro p hp;rcases zn.1 hp with rfl|hp
   ·exact h3
   ·exact h6 p hp
 refine⟨by omega,?_,fun x h1 h2=>by omega,hm,h,fun p hp x h1 h2=>?_⟩
 ·have:=B.nil (lv:=lv) (sd:=sd) (k+1);have e:(-1-((k+1:Nat):Int))=-2-(k:Int):=by omega
  rw[e] at this;exact this
 ·by_cases hx:x<k
  ·exact all p hp x h1 hx
  ·obtain rfl:x=k:=by omega
   cases S with
   |nil=>cases hp
   |cons q S=>
    have hq:=ht q rfl;rcases zn.1 hp with rfl|hp
    ·exact hq
    ·have:=all p (zg _ hp);obtain⟨g1,g2,g3,g4,g5,g6⟩:=h;have h7:p.1<q.1:=by
      cases S with
      |nil=>cases hp
      |cons q' S'=>
       clear this all ht hq h1
       have key:∀(S:List (Nat×List Int)) (c:List Int) (m:Nat),Inv lv sd S c m->∀p,p∈S->p.1<m:=by
        intro S
        induction S with
        |nil=>intro c m _ p hp;cases hp
        |cons s S ih=>
         intro c m h p hp;obtain⟨e1,_,_,_,e5,_⟩:=h;rcases zn.1 hp with rfl|hp
         ·exact e1
         ·have:=ih _ _ e5 p hp;omega
       exact key _ _ _ g5 p hp
     exact(this q.1 h7 g1).trans hq
theorem Mid.start{k:Nat}{S:List (Nat×List Int)}(h:lo S=k):Mid lv sd S k:=fun x h1 h2=>by omega
end
end Fx
end Ev

namespace Ev
namespace Fx
section
variable (lv sd:Nat→Int)
def qs9(k:Nat):List (Nat×List Int)->List Int->Option (List (Nat×List Int)×List Int)
 |[],cur=>some ([],cur)
 |(o,P)::S,cur=>
  if lv o<lv k then some ((o,P)::S,cur)
  else if lv k<lv o then qs9 k S ((o:Int)::(P++cur))
  else if sd o≠sd k\/sd k=0 then none
  else if 0<sd k then some ((o,P)::S,cur)
  else qs9 k S ((o:Int)::(P++cur))
def qsa:Nat->Nat->List (Nat×List Int)->List Int->Option (List (Nat×List Int)×List Int)
 |0,_,S,cur=>some (S,cur)
 |m+1,k,S,cur=>match qs9 lv sd k S cur with
  |none=>none
  |some (S',cur')=>qsa m (k+1) ((k,cur')::S') [-2-(k:Int)]
def qjn:List (Nat×List Int)->List Int->List Int
 |[],cur=>cur
 |(o,P)::S,cur=>qjn S ((o:Int)::(P++cur))
def z0t(n:Nat):Option (List Int):=match qsa lv sd n 0 [] [-1] with
 |none=>none
 |some (S,cur)=>some (qjn S cur)
variable {lv sd}
def qvw:List Int->Nat->Option (List Int×List Int)
 |_,0=>none
 |[],_+1=>none
 |n::r,f+1=>if n<0 then some ([n],r) else match qvw r f with
  |none=>none
  |some (a,r')=>match qvw r' f with
   |none=>none
   |some (b,r'')=>some (a++n::b,r'')
def rowOf:Nat->Nat->List Int
 |a,0=>[-1-(a:Int)]
 |a,m+1=>(-1-(a:Int))::(a:Int)::rowOf (a+1) m
theorem qg8:∀(m a k:Nat),rowOf a (m+1+k)=rowOf a m++((a+m:Nat):Int)::rowOf (a+m+1) k
 |0,a,k=>by rw[show 0+1+k=k+1 by omega];rfl
 |m+1,a,k=>by rw[show m+1+1+k=(m+1+k)+1 by omega];show(-1-(a:Int))::(a:Int)::rowOf (a+1) (m+1+k)=(-1-(a:Int))::(a:Int)::(rowOf (a+1) m++((a+(m+1):Nat):Int)::rowOf (a+(m+1)+1) k);rw[qg8 m (a+1) k,show a+1+m=a+(m+1) by omega]
theorem B.len{a b:Nat}{x:List Int}(h:B lv sd a b x):x.length=2*(b-a)+1:=by
 induction h with
 |nil a=>simp
 |node a r b x y h1 h2 _ _ _ _ ih1 ih2=>rw[zm,zh,ih1,ih2];omega
theorem B.flat{a b:Nat}{x:List Int}(h:B lv sd a b x):∀(rest:List Int) (f:Nat),x.length<=f->qvw (x++rest) f=some (rowOf a (b-a),rest):=by
 induction h with
 |nil a=>intro rest f hf;obtain⟨f,rfl⟩:∃g,f=g+1:=⟨f-1,by simp at hf;omega⟩;show(if -1-(a:Int)<0 then _ else _)=_;rw[if_pos (by omega),Nat.sub_self];rfl
 |node a r b x y h1 h2 _ _ _ _ ih1 ih2=>
  intro rest f hf;simp only[zm,zh] at hf;obtain⟨f,rfl⟩:∃g,f=g+1:=⟨f-1,by omega⟩;show(if(r:Int)<0 then _ else _)=_;rw[if_neg (by omega)];show(match qvw ((x++y)++rest) f with|none=>none|some (c,r')=>match qvw r' f with|none=>none|some (d,r'')=>some (c++(r:Int)::d,r''))=_;rw[zt,ih1 (y++rest) f (by omega)];simp only;rw[ih2 rest f (by omega)];simp only;have e:b-a=(r-a)+1+(b-(r+1)):=by omega
  rw[e,qg8,show a+(r-a)=r by omega]
end
end Fx
end Ev

namespace Ev
namespace Fx
section
variable {lv sd:Nat→Int}
def St(lv sd:Nat->Int)(low:Int)(a k:Nat)(first last n left right:Int):Prop:=
 (n=0/\left=0/\right=0/\first=-1/\∀i,a<=i->i<k->lv i≠low)\/
 (∃f l:Nat,first=(f:Int)/\last=(l:Int)/\a<=f/\f<=l/\l<k/\lv f=low/\lv l=low/\(∀i,a<=i->i<k->lv i=low->f<=i/\i<=l)/\1<=n/\(n=1->f=l)/\(1<n->f<l)/\
  (left=n↔∀i,a<=i->i<k->lv i=low->sd i<0)/\left<=n/\(right=n↔∀i,a<=i->i<k->lv i=low->0<sd i)/\right<=n)
theorem St.start(lv sd:Nat->Int)(low:Int)(a:Nat)(last:Int):St lv sd low a a (-1) last 0 0 0:=.inl ⟨rfl,rfl,rfl,rfl,fun i h1 h2=>by omega⟩
theorem St.other{low:Int}{a k:Nat}{first last n left right:Int}(h:St lv sd low a k first last n left right)(hk:lv k≠low):St lv sd low a (k+1) first last n left right:=by
 have ext:∀{P:Nat->Prop},(∀i,a<=i->i<k->lv i=low->P i)↔(∀i,a<=i->i<k+1->lv i=low->P i):=fun {P}=>by
  constructor
  ·intro h i h1 h2 h3;by_cases e:i=k
   ·subst e;exact absurd h3 hk
   ·exact h i h1 (by omega) h3
  ·exact fun h i h1 h2 h3=>h i h1 (by omega) h3
 rcases h with ⟨h1,h2,h3,h4,h5⟩|⟨f,l,h1,h2,h3,h4,h5,h6,h7,h8,h9,hc,he,hf,hg,hj,hl⟩
 ·refine .inl ⟨h1,h2,h3,h4,fun i g1 g2=>?_⟩;by_cases e:i=k
  ·subst e;exact hk
  ·exact h5 i g1 (by omega)
 ·exact .inr ⟨f,l,h1,h2,h3,h4,by omega,h6,h7,ext.1 h8,h9,hc,he,hf.trans ext,hg,hj.trans ext,hl⟩
theorem St.low{low:Int}{a k:Nat}{first last n left right:Int}(h:St lv sd low a k first last n left right)(hc:a<=k)(hk:lv k=low):St lv sd low a (k+1) (if first<0 then(k:Int) else first) k (n+1) (if sd k<0 then left+1 else left) (if 0<sd k then right+1 else right):=by
 rcases h with ⟨h1,h2,h3,h4,h5⟩|⟨f,l,h1,h2,h3,h4,h5,h6,h7,h8,h9,hg,hj,he,hl,hf,hm⟩
 ·subst h1 h2 h3 h4;have only:∀i,a<=i->i<k+1->lv i=low->i=k:=fun i g1 g2 g3=>by
   by_cases e:i=k
   ·exact e
   ·exact absurd g3 (h5 i g1 (by omega))
  refine .inr ⟨k,k,by rw[if_pos (by omega)],rfl,hc,Nat.le_refl _,by omega,hk,hk,fun i g1 g2 g3=>by have:=only i g1 g2 g3;omega,by omega,fun _=>rfl,fun h=>by omega,?_,?_,?_,?_⟩
  ·by_cases hs:sd k<0
   ·rw[if_pos hs];exact⟨fun _ i g1 g2 g3=>by rw[only i g1 g2 g3];exact hs,fun _=>by omega⟩
   ·rw[if_neg hs];exact⟨fun h=>by omega,fun h=>absurd (h k hc (by omega) hk) hs⟩
  ·split<;>omega
  ·by_cases hs:0<sd k
   ·rw[if_pos hs];exact⟨fun _ i g1 g2 g3=>by rw[only i g1 g2 g3];exact hs,fun _=>by omega⟩
   ·rw[if_neg hs];exact⟨fun h=>by omega,fun h=>absurd (h k hc (by omega) hk) hs⟩
  ·split<;>omega
 ·have all:∀{P:Nat->Prop},P k->((∀i,a<=i->i<k->lv i=low->P i)↔(∀i,a<=i->i<k+1->lv i=low->P i)):=fun {P} hp=>by
   constructor
   ·intro h i h1 h2 h3;by_cases e:i=k
    ·subst e;exact hp
    ·exact h i h1 (by omega) h3
   ·exact fun h i h1 h2 h3=>h i h1 (by omega) h3
  refine .inr ⟨f,k,by rw[if_neg (by omega)];exact h1,rfl,h3,by omega,by omega,h6,hk,fun i g1 g2 g3=>?_,by omega,fun h=>by omega,fun _=>by omega,?_,?_,?_,?_⟩
  ·by_cases e:i=k
   ·subst e;omega
   ·have:=h8 i g1 (by omega) g3;omega
  ·by_cases hs:sd k<0
   ·rw[if_pos hs,<-all (P:=fun i=>sd i<0) hs,<-he];omega
   ·rw[if_neg hs];exact⟨fun h=>by omega,fun h=>absurd (h k hc (by omega) hk) hs⟩
  ·split<;>omega
  ·by_cases hs:0<sd k
   ·rw[if_pos hs,<-all (P:=fun i=>0<sd i) hs,<-hf];omega
   ·rw[if_neg hs];exact⟨fun h=>by omega,fun h=>absurd (h k hc (by omega) hk) hs⟩
  ·split<;>omega
end
end Fx
end Ev

namespace Ev
open Go
namespace Fn
abbrev Fix1:Type:=(List Int)×Int×Int
def gF(x:Fix1):Prop:=(∀b,b∈x.1->0<=b/\b<=255)/\x.1.length<=9223372036854775807/\(-9223372036854775808<=x.2.1/\x.2.1<=9223372036854775807)/\(-9223372036854775808<=x.2.2/\x.2.2<=9223372036854775807)
def q2r(x:Fix1):Bool:=opOk x.1&&decide (0<=x.2.1/\x.2.1<=9)&&decide (-1<=x.2.2/\x.2.2<=1)
theorem z0u(b:Bool)(n m:Int):bnd (cnd b (some (leI 0 n)) (some false)) (fun x1=>bnd (cnd x1 (some (leI n 9)) (some false)) (fun x2=>bnd (cnd x2 (some (leI (-1) m)) (some false)) (fun x3=>bnd (cnd x3 (some (leI m 1)) (some false)) (fun x4=>some (x4,())))))=some (b&&decide (0<=n/\n<=9)&&decide (-1<=m/\m<=1),()):=by
 have e1:decide (0<=n/\n<=9)=(leI 0 n&&leI n 9):=by unfold leI;rw[Bool.decide_and]
 have e2:decide (-1<=m/\m<=1)=(leI (-1) m&&leI m 1):=by unfold leI;rw[Bool.decide_and]
 rw[e1,e2];cases b<;>cases leI 0 n<;>cases leI n 9<;>cases leI (-1) m<;>cases leI m 1<;>rfl
theorem qvx(x:Fix1)(hx:gF x):f_a6 (x,())=some (q2r x,()):=by obtain⟨s,n,m⟩:=x;rw[u_a6,qg3 s hx.1,q00];exact z0u _ n m
theorem qsb(x:Fix1)(hx:gF x)(_:x.1.length<=1000000):f_a6 (x,())=some (q2r x,()):=qvx x hx
def q83(l:List Fix1)(op:List Int):Option Fix1:=l.find? fun x=>decide (x.1=op)
theorem z5r(x:Fix1)(op:List Int):f_a5 (x,op,())=some (eqS x.1 op,()):=u_a5 x.1 x.2.1 x.2.2 op
theorem qzj(n:Bool)(l:List Fix1)(op:List Int)(hl:l.length<=1000000):∀(m k:Nat),k+m=l.length->∃r,q0i l1_cy (⟨n,l⟩,op,(l.length:Int),(k:Int),())=some (r,())/\((r=-1/\q83 (l.drop k) op=none)\/∃j x:_,r=((j:Nat):Int)/\l[j]?=some x/\q83 (l.drop k) op=some x):=by
 intro m
 induction m with
 |zero=>intro k hk;refine⟨-1,q09 ?_,.inl ⟨rfl,by rw[zD (by omega)];rfl⟩⟩;unfold l1_cy;simp only;rw[q0h,if_neg (by omega)]
 |succ m ih=>
  intro k hk;have hc:k<l.length:=by omega
  have hf:q83 (l.drop k) op=if l[k].1=op then some l[k] else q83 (l.drop (k+1)) op:=by rw[q17 hc];unfold q83;rw[List.find?_cons];by_cases h:l[k].1=op<;>simp[h]
  have step:l1_cy (⟨n,l⟩,op,(l.length:Int),(k:Int),())=if l[k].1=op then some (.inr ((k:Int),())) else some (.inl (⟨n,l⟩,op,(l.length:Int),((k+1:Nat):Int),())):=by unfold l1_cy;simp only;rw[q0h,if_pos (by omega),q0g (zj hc),q00,z5r,q00,qcx,add1 (by omega)]
  by_cases h:l[k].1=op
  ·rw[if_pos h] at step hf;exact⟨k,q09 step,.inr ⟨k,l[k],rfl,zj hc,hf⟩⟩
  ·rw[if_neg h] at step hf;obtain⟨r,h1,h2⟩:=ih (k+1) (by omega);rw[hf];exact⟨r,by rw[q0d step,h1],h2⟩
theorem find_spec(n:Bool)(l:List Fix1)(op:List Int)(hl:l.length<=1000000):f_a4 (⟨n,l⟩,op,())=some (match q83 l op with|some x=>(x,true,())|none=>(([],0,0),false,())):=by
 obtain⟨r,h1,h2⟩:=qzj n l op hl l.length 0 (by omega);rw[List.drop_zero] at h2;have h1:q0i l1_cy (⟨n,l⟩,op,lenI l,0,())=some (r,()):=h1;rw[u_a4,u_cy,h1,q00,q0h];rcases h2 with ⟨rfl,h2⟩|⟨j,x,rfl,h3,h4⟩
 ·rw[if_pos (by decide),h2]
 ·rw[if_neg (by omega),q0g h3,q00,h4]
def gL(l:List Fix1):Prop:=(∀x,x∈l->gF x)/\(∀x,x∈l->x.1.length<=1000000)/\l.length<=1000000
theorem gL.take{l:List Fix1}(h:gL l)(k:Nat):gL (l.take k):=⟨fun x hx=>h.1 x (List.mem_of_mem_take hx),fun x hx=>h.2.1 x (List.mem_of_mem_take hx),by rw[zN];have:=h.2.2;omega⟩
theorem qvy(n:Bool){l:List Fix1}(h:gL l):∀(m k:Nat),k+m=l.length->∃r,q0i l1_cx (⟨n,l⟩,(l.length:Int),(k:Int),())=some (r,())/\(0<=r↔(l.drop k).any (fun x=>!q2r x)=true):=by
 intro m;have hl:=h.2.2
 induction m with
 |zero=>intro k hk;refine⟨-1,q09 ?_,by rw[zD (by omega)];simp⟩;unfold l1_cx;simp only;rw[q0h,if_neg (by omega)]
 |succ m ih=>
  intro k hk;have he:k<l.length:=by omega
  rw[q17 he];have hr:=qsb l[k] (h.1 _ (List.getElem_mem he)) (h.2.1 _ (List.getElem_mem he));have hc:f_a1 (l[k],())=some (!q2r l[k],()):=by have:=u_a1 l[k].1 l[k].2.1 l[k].2.2;have hr:f_a6 ((l[k].1,l[k].2.1,l[k].2.2),())=some (q2r l[k],()):=hr;rw[hr,q00] at this;exact this
  have step:l1_cx (⟨n,l⟩,(l.length:Int),(k:Int),())=if q2r l[k]=false then some (.inr ((k:Int),())) else some (.inl (⟨n,l⟩,(l.length:Int),((k+1:Nat):Int),())):=by unfold l1_cx;simp only;rw[q0h,if_pos (by omega),q0g (zj he),q00,hc,q00,add1 (by omega)];cases q2r l[k]<;>rfl
  cases hb:q2r l[k] with
  |false=>rw[if_pos hb] at step;exact⟨k,q09 step,by simp[hb,-List.getElem_cons_drop]⟩
  |true=>rw[if_neg (by rw[hb];decide)] at step;obtain⟨r,h1,h2⟩:=ih (k+1) (by omega);exact⟨r,by rw[q0d step,h1],by rw[h2];simp[hb,-List.getElem_cons_drop]⟩
def qjo(l:List Fix1)(k:Nat):Bool:=match l[k]? with
 |some x=>(q83 (l.take k) x.1).isSome
 |none=>false
def dupR(l:List Fix1):Nat->Nat->Bool
 |0,_=>false
 |m+1,k=>qjo l k||dupR l m (k+1)
def q8b(l:List Fix1):Int:=if 400<l.length\/l.any (fun x=>!q2r x)=true then 40 else if dupR l l.length 0=true then 41 else 0
theorem qzk{x:Fix1}(h:q2r x=true):x.1≠[]:=by intro e;unfold q2r opOk allS at h;rw[e] at h;simp at h
theorem qg9{l:List Fix1}{op:List Int}{x:Fix1}(h:q83 l op=some x):x∈l/\x.1=op:=⟨List.mem_of_find?_eq_some h,by have:=List.find?_some h;simpa using this⟩
theorem qsc(n1 n2:Bool){l:List Fix1}(h:gL l)(hr:∀x,x∈l->q2r x=true):∀(m k:Nat),k+m=l.length->q0i l1_a0 (⟨n1,l⟩,⟨n2,l⟩,(l.length:Int),(k:Int),())=some (if dupR l m k=true then 41 else 0,()):=by
 intro m;have hl:=h.2.2
 induction m with
 |zero=>intro k hk;refine q09 ?_;unfold l1_a0;simp only;rw[q0h,if_neg (by omega)];rfl
 |succ m ih=>
  intro k hk;have hc:k<l.length:=by omega
  have hg:=zj hc;have hd:qjo l k=(q83 (l.take k) l[k].1).isSome:=by unfold qjo;rw[hg]
  have hf:=find_spec n1 (l.take k) l[k].1 (h.take k).2.2;have step:l1_a0 (⟨n1,l⟩,⟨n2,l⟩,(l.length:Int),(k:Int),())=if qjo l k=true then some (.inr (41,())) else some (.inl (⟨n1,l⟩,⟨n2,l⟩,(l.length:Int),((k+1:Nat):Int),())):=by
   unfold l1_a0;simp only;rw[q0h,if_pos (by omega),q0g hg,q00,z2p (by omega),q00,hf,q00,add1 (by omega),hd];cases he:q83 (l.take k) l[k].1 with
   |none=>rfl
   |some x=>have hx:=qzk (hr x (List.mem_of_mem_take (qg9 he).1));have:eqS x.1 []=false:=beq_eq_false_iff_ne.2 hx;simp only[this];rfl
  unfold dupR;cases hb:qjo l k with
  |true=>rw[hb,if_pos rfl] at step;rw[q09 step];rfl
  |false=>rw[hb,if_neg Bool.false_ne_true] at step;rw[q0d step,ih (k+1) (by omega),Bool.false_or]
theorem qd7(n:Bool){l:List Fix1}(h:gL l):f_a0 (⟨n,l⟩,())=some (q8b l,()):=by
 have hl:=h.2.2;obtain⟨r,h1,h2⟩:=qvy n h l.length 0 (by omega);rw[List.drop_zero] at h2;have h1:q0i l1_cx (⟨n,l⟩,lenI l,0,())=some (r,()):=h1;rw[u_a0,u_cu,u_cx,h1,q00,q00];have hc:leI 0 r=l.any (fun x=>!q2r x):=by rw[Bool.eq_iff_iff,<-h2];exact decide_eq_true_iff
 rw[hc,q0h];unfold q8b;by_cases h4:400<l.length
 ·rw[if_pos (by show(400:Int)<(l.length:Int);omega),q00,if_pos (.inl h4)];rfl
 ·rw[if_neg (by show ¬(400:Int)<(l.length:Int);omega),q00];cases ha:l.any (fun x=>!q2r x) with
  |true=>rw[if_pos (.inr rfl)];rfl
  |false=>
   rw[q01,if_neg (by simp[h4])];have hr:∀x,x∈l->q2r x=true:=fun x hx=>by have:=List.any_eq_false.1 ha x hx;simpa using this
   exact qsc n n h hr l.length 0 (by omega)
theorem qzl(l:List Fix1)(op:List Int):l.any (fun x=>decide (x.1=op))=(q83 l op).isSome:=by unfold q83;rw[Bool.eq_iff_iff,List.any_eq_true,List.find?_isSome]
end Fn
open Fx (B Inv Mid lo qs9 qsa qjn z0t)
namespace Fn
def Rep(S:List (Nat×List Int))(cur:List Int)(op:List Int)(pt:List (Sl Int)):Prop:=op.reverse=S.map (fun p=>(p.1:Int))/\pt.reverse.map (·.l)=cur::S.map (·.2)
theorem Rep.pop{o:Nat}{P cur:List Int}{S:List (Nat×List Int)}{op:List Int}{pt:List (Sl Int)}(h:Rep ((o,P)::S) cur op pt):∃O Q p2 p1,op=O++[(o:Int)]/\pt=Q++[p2,p1]/\p2.l=P/\p1.l=cur/\O.length=S.length/\Q.length=S.length/\∀q,q.l=(o:Int)::(P++cur)->Rep S ((o:Int)::(P++cur)) O (Q++[q]):=by
 obtain⟨h1,h2⟩:=h;cases hr:op.reverse with
 |nil=>rw[hr] at h1;cases h1
 |cons a O'=>
  rw[hr,zI] at h1;injection h1 with h3 h4;subst h3;cases hp:pt.reverse with
  |nil=>rw[hp] at h2;cases h2
  |cons p1 Q1=>
   rw[hp,zI,zI] at h2;injection h2 with h5 h6;cases Q1 with
   |nil=>cases h6
   |cons p2 Q'=>
    rw[zI] at h6;injection h6 with h7 h8;have e1:op=O'.reverse++[(o:Int)]:=by have:=congrArg List.reverse hr;rw[List.reverse_reverse] at this;rw[this,List.reverse_cons]
    have e2:pt=Q'.reverse++[p2,p1]:=by have:=congrArg List.reverse hp;rw[List.reverse_reverse] at this;rw[this,List.reverse_cons,List.reverse_cons,zt];rfl
    have n1:O'.length=S.length:=by have:=congrArg List.length h4;simpa using this
    have n2:Q'.length=S.length:=by have:=congrArg List.length h8;simpa using this
    refine⟨O'.reverse,Q'.reverse,p2,p1,e1,e2,h7,h5,by rw[List.length_reverse,n1],by rw[List.length_reverse,n2],fun q hq=>⟨by rw[List.reverse_reverse,h4],?_⟩⟩;rw[List.reverse_append,List.reverse_reverse];show q.l::Q'.map (·.l)=_;rw[hq,h8]
theorem Inv.inside{lv sd:Nat->Int}{o k:Nat}{P cur:List Int}{S:List (Nat×List Int)}(h:Inv lv sd ((o,P)::S) cur k):P.length+cur.length<=2*k:=by have h1:=(Fx.Inv.B h.pop).len;rw[zm,zh] at h1;omega
end Fn
open Fx (B Inv Mid lo qs9 qsa qjn z0t)
namespace Fn
theorem qq5{α:Type}(l m:List α):app l m=l++m:=Eq.trans (Eq.refl _) (Eq.refl _)
theorem Rep.push{S:List (Nat×List Int)}{cur:List Int}{op:List Int}{pt:List (Sl Int)}(h:Rep S cur op pt)(k:Nat)(q:Sl Int):Rep ((k,cur)::S) q.l (op++[(k:Int)]) (pt++[q]):=by
 obtain⟨h1,h2⟩:=h;refine⟨?_,?_⟩
 ·rw[List.reverse_append];show(k:Int)::op.reverse=_;rw[h1];rfl
 ·rw[List.reverse_append];show q.l::pt.reverse.map (·.l)=_;rw[h2];rfl
theorem Rep.len{S:List (Nat×List Int)}{cur:List Int}{op:List Int}{pt:List (Sl Int)}(h:Rep S cur op pt):op.length=S.length/\pt.length=S.length+1:=by obtain⟨h1,h2⟩:=h;have e1:=congrArg List.length h1;have e2:=congrArg List.length h2;simp only[List.length_reverse,zJ,zm] at e1 e2;exact⟨e1,e2⟩
theorem qny:f_by ()=some (⟨false,q6b⟩,()):=u_by
theorem qvz(s:List Int)(n:Bool)(l:List (List Int))(hl:l.length<=1000000):∀(m k:Nat),k+m=l.length->q0i l1_bu (s,⟨n,l⟩,(k:Int),())=some (decide (s∈l.drop k),()):=by
 intro m
 induction m with
 |zero=>intro k hk;refine q09 ?_;unfold l1_bu;simp only;rw[q0h,if_neg (by unfold lenI;omega),zD (by omega)];simp
 |succ m ih=>
  intro k hk;have hc:k<l.length:=by omega
  rw[q17 hc];have step:l1_bu (s,⟨n,l⟩,(k:Int),())=if l[k]=s then some (.inr (true,())) else some (.inl (s,⟨n,l⟩,((k+1:Nat):Int),())):=by unfold l1_bu;simp only;rw[q0h,if_pos (by unfold lenI;omega),q0g (zj hc),q00,qcx,add1 (by omega)]
  by_cases h:l[k]=s
  ·rw[if_pos h] at step;rw[q09 step];simp[h,-List.getElem_cons_drop]
  ·rw[if_neg h] at step;rw[q0d step,ih (k+1) (by omega)];have:s≠l[k]:=fun e=>h e.symm;simp[this,-List.getElem_cons_drop]
theorem qm3(s:List Int):f_bu (s,())=some (decide (s∈q6b),()):=by rw[u_bu,qny,q00];exact qvz s false q6b (by decide) 25 0 (by decide)
theorem z30(c:Int):∀(m k:Nat),k+m=16->∃r,q0i l1_bw (c,signsL,(k:Int),())=some (r,())/\r<=5/\(r=5↔c∈signsL.drop k):=by
 have he:signsL.length=16:=rfl;intro m
 induction m with
 |zero=>
  intro k hk;rw[zD (by omega)];have last:∀(b1 b2 b3 b4:Bool),∃r:Int,(cnd b1 (some (Sum.inr (1,()))) (cnd b2 (some (Sum.inr (2,()))) (cnd b3 (some (Sum.inr (3,()))) (cnd b4 (some (Sum.inr (4,()))) (some (Sum.inr (0,())))))):Option ((Int×(List Int)×Int×Unit)⊕(Int×Unit)))=some (.inr (r,()))/\r<=5/\r≠5:=by intro b1 b2 b3 b4;cases b1<;>cases b2<;>cases b3<;>cases b4<;>exact⟨_,rfl,by decide,by decide⟩
  have two:∀(a b:Int) (b2:Bool),(cnd (leI a c) (some b2) (some false):Option Bool)=some (leI a c&&b2):=fun a b b2=>by cases leI a c<;>rfl
  have or2:∀(b1 b2:Bool),(cnd b1 (some true) (some b2):Option Bool)=some (b1||b2):=fun b1 b2=>by cases b1<;>rfl
  obtain⟨r,h1,h2,h3⟩:=last (leI 97 c&&leI c 122) (leI 65 c&&leI c 90) (leI 48 c&&leI c 57) (eqI c 95||eqI c 39);refine⟨r,q09 ?_,h2,by simp[h3]⟩;unfold l1_bw;simp only;rw[q0h,if_neg (by unfold lenI;omega),two 97 0,two 65 0,two 48 0,or2];simp only[q00];exact h1
 |succ m ih=>
  intro k hk;have hc:k<signsL.length:=by omega
  rw[q17 hc];have step:l1_bw (c,signsL,(k:Int),())=if signsL[k]=c then some (.inr (5,())) else some (.inl (c,signsL,((k+1:Nat):Int),())):=by unfold l1_bw;simp only;rw[q0h,if_pos (by unfold lenI;omega),q0g (zj hc),q00,q4d,add1 (by omega)]
  by_cases h:signsL[k]=c
  ·rw[if_pos h] at step;exact⟨5,q09 step,by omega,by simp[h,-List.getElem_cons_drop]⟩
  ·rw[if_neg h] at step;obtain⟨r,h1,h2,h3⟩:=ih (k+1) (by omega);have hn:c≠signsL[k]:=fun e=>h e.symm;exact⟨r,by rw[q0d step,h1],h2,by rw[h3];simp[hn,-List.getElem_cons_drop]⟩
theorem is_spec(c:Int):∃r,f_bw (c,())=some (r,())/\r<=5/\(r=5↔c∈signsL):=by obtain⟨r,h1,h2,h3⟩:=z30 c 16 0 rfl;exact⟨r,by rw[u_bw];exact h1,h2,h3⟩
theorem qsd(s:List Int)(hl:s.length<=1000000):∀(m k:Nat),k+m=s.length->q0i l1_bx (s,(k:Int),5,5,())=some (((k+pre5 (s.drop k):Nat):Int),()):=by
 intro m
 induction m with
 |zero=>intro k hk;refine q09 ?_;unfold l1_bx;simp only;rw[q0h,if_neg (by unfold lenI;omega),zD (by omega)];rfl
 |succ m ih=>
  intro k hk;have hc:k<s.length:=by omega
  rw[q17 hc];obtain⟨r,h1,h2,h3⟩:=is_spec s[k];have c0:ltI (k:Int) (lenI s)=true:=zw (by unfold lenI;omega);have step:l1_bx (s,(k:Int),5,5,())=if s[k]∈signsL then some (.inl (s,((k+1:Nat):Int),5,5,())) else some (.inr ((k:Int),())):=by
   unfold l1_bx;simp only[c0,q04,q0g (zj hc),q00,h1,add1 (by omega:k<=1000000000)];by_cases hm:s[k]∈signsL
   ·rw[if_pos hm];have:r=5:=h3.2 hm;subst this;rfl
   ·rw[if_neg hm];have:leI 5 r=false:=zu (fun e=>hm (h3.1 (by omega)));simp only[this,q01,q00]
  unfold pre5;by_cases hm:s[k]∈signsL
  ·rw[if_pos hm] at step ⊢;rw[q0d step,ih (k+1) (by omega)];congr 2;omega
  ·rw[if_neg hm] at step ⊢;rw[q09 step];rfl
theorem qm4(s:List Int)(hl:s.length<=1000000):f_bv ((5,s,0,0),())=some (opOk s,()):=by
 rw[u_bv];have c1:ltI 0 0=false:=rfl;have c2:eqI 5 3=false:=rfl;have c3:eqI 0 0=true:=rfl;have c4:eqI 5 1=false:=rfl;have c5:eqI 5 2=false:=rfl;have c6:eqI 5 4=false:=rfl;have c7:eqI 5 5=true:=rfl;have hw:f_bx (s,0,5,5,())=some ((pre5 s:Int),()):=by rw[u_bx];have:=qsd s hl s.length 0 (by omega);rw[List.drop_zero,zE] at this;exact this
 have he:eqI (pre5 s:Int) (lenI s)=s.all (fun b=>decide (b∈signsL)):=by rw[Bool.eq_iff_iff,eqI_eq,<-qpy];unfold lenI;omega
 have hn:eqS s []=s.isEmpty:=by cases s<;>rfl
 simp only[c1,c2,c3,c4,c5,c6,c7,q01,q04,q00,notB,hw,he,hn,qm3];unfold opOk allS;cases s.isEmpty<;>cases s.all (fun b=>decide (b∈signsL))<;>cases decide (s∈q6b)<;>rfl
theorem qw0(c:Int):∀(m k:Nat),k+m=16->q0i l1_bw (c,signsL,(k:Int),())=some (bif decide (c∈signsL.drop k) then 5 else bif q3y c then 1 else bif q3z c then 2 else bif q8w c then 3 else bif eqI c 95||eqI c 39 then 4 else 0,()):=by
 have he:signsL.length=16:=rfl;intro m
 induction m with
 |zero=>intro k hk;rw[zD (by omega)];refine q09 ?_;unfold l1_bw;simp only;rw[q0h,if_neg (by unfold lenI;omega)];simp only[q8x,qly,q00];show _=some (Sum.inr (bif decide (c∈[]) then _ else _,()));have:decide (c∈([]:List Int))=false:=rfl;rw[this];show(cnd (q3y c) _ (cnd (q3z c) _ (cnd (q8w c) _ _)):Option _)=_;cases q3y c<;>cases q3z c<;>cases q8w c<;>cases (eqI c 95||eqI c 39)<;>rfl
 |succ m ih=>
  intro k hk;have hc:k<signsL.length:=by omega
  rw[q17 hc];have step:l1_bw (c,signsL,(k:Int),())=if signsL[k]=c then some (.inr (5,())) else some (.inl (c,signsL,((k+1:Nat):Int),())):=by unfold l1_bw;simp only;rw[q0h,if_pos (by unfold lenI;omega),q0g (zj hc),q00,q4d,add1 (by omega)]
  by_cases h:signsL[k]=c
  ·rw[if_pos h] at step;rw[q09 step];simp[h,-List.getElem_cons_drop]
  ·rw[if_neg h] at step;have hn:c≠signsL[k]:=fun e=>h e.symm;rw[q0d step,ih (k+1) (by omega)];have:decide (c∈signsL[k]::signsL.drop (k+1))=decide (c∈signsL.drop (k+1)):=by simp[hn,-List.getElem_cons_drop]
   rw[this]
theorem qm5(c:Int):f_bw (c,())=some (qdz c,()):=by rw[u_bw];exact qw0 c 16 0 rfl
theorem qnz(s:List Int)(hl:s.length<=1000000):∀(m k:Nat),k+m=s.length->q0i l1_bx (s,(k:Int),1,4,())=some (((k+preI (s.drop k):Nat):Int),()):=by
 intro m
 induction m with
 |zero=>intro k hk;refine q09 ?_;unfold l1_bx;simp only;rw[q0h,if_neg (by unfold lenI;omega),zD (by omega)];rfl
 |succ m ih=>
  intro k hk;have hc:k<s.length:=by omega
  rw[q17 hc];have c0:ltI (k:Int) (lenI s)=true:=zw (by unfold lenI;omega);have step:l1_bx (s,(k:Int),1,4,())=bif q2d s[k] then some (.inl (s,((k+1:Nat):Int),1,4,())) else some (.inr ((k:Int),())):=by unfold l1_bx;simp only[c0,q04,q0g (zj hc),q00,qm5,add1 (by omega:k<=1000000000)];rw[<-qrt];cases leI 1 (qdz s[k])<;>cases leI (qdz s[k]) 4<;>rfl
  unfold preI;cases hm:q2d s[k] with
  |true=>rw[hm] at step;rw[q0d step,ih (k+1) (by omega)];simp only[cond_true];congr 2;omega
  |false=>rw[hm] at step;rw[q09 step];rfl
theorem z0v(k:Int)(p:Int->Bool)(hp:∀c,q2d c=true->eqI (qdz c) k=p c)(s:List Int)(hl:s.length<=1000000)(X:Option (Bool×Unit)):cnd (notB (eqS s ([]:List Int))) (bnd (at? s 0) (fun x1=>bnd (f_bw (x1,())) (fun x2=>cnd (eqI x2.1 k) (bnd (f_bx (s,0,1,4,())) (fun x3=>cnd (eqI x3.1 (lenI s)) (bnd (f_bu (s,())) (fun x4=>some (notB x4.1,()))) (some (false,())))) (some (false,()))))) X=bif s.isEmpty then X else some (q4p p s,()):=by
 have hw:f_bx (s,0,1,4,())=some ((preI s:Int),()):=by rw[u_bx];have:=qnz s hl s.length 0 (by omega);rw[List.drop_zero,zE] at this;exact this
 have he:eqI (preI s:Int) (lenI s)=s.all q2d:=by rw[Bool.eq_iff_iff,eqI_eq,<-qpz];unfold lenI;omega
 cases s with
 |nil=>rfl
 |cons b r=>
  have hn:eqS (b::r) []=false:=rfl;have h0:at? (b::r) 0=some b:=rfl;simp only[hn,notB,Bool.not_false,q04,h0,q00,qm5,hw,he,qm3];have hi:List.isEmpty (b::r)=false:=rfl;rw[hi,cond_false];unfold q4p;rw[hi];show _=some (_&&p b&&_,());cases hb:q2d b with
  |true=>rw[hp b hb];cases List.all (b::r) q2d<;>cases p b<;>cases decide (b::r∈q6b)<;>rfl
  |false=>
   have ha:List.all (b::r) q2d=false:=by rw[List.all_cons,hb];rfl
   rw[ha];cases eqI (qdz b) k<;>rfl
theorem qse(s:List Int)(hl:s.length<=1000000):f_bv ((1,s,0,0),())=some (q4p q3y s,()):=by rw[u_bv];have c1:ltI 0 0=false:=rfl;have c3:eqI 0 0=true:=rfl;have c4:eqI 1 1=true:=rfl;simp only[c1,c3,c4,q01,q04,q00];rw[z0v 1 q3y (fun c h=>qru h) s hl];cases s<;>rfl
theorem qsf(s:List Int)(hl:s.length<=1000000):f_bv ((2,s,0,0),())=some (q4p q3z s,()):=by rw[u_bv];have c1:ltI 0 0=false:=rfl;have c3:eqI 0 0=true:=rfl;have c4:eqI 2 1=false:=rfl;have c5:eqI 2 2=true:=rfl;simp only[c1,c3,c4,c5,q01,q04,q00];rw[z0v 2 q3z (fun c h=>qrv h) s hl];cases s<;>rfl
theorem qsg{s:List Int}(hl:s.length<=1000000):f_c4 (s,())=some (nameOk s,()):=by rw[u_c4,qse s hl,qm4 s hl];simp only[q00,qly];rfl
theorem qw1{s:List Int}(hl:s.length<=1000000):f_c2 (s,())=some (q8d s,()):=by rw[u_c2,qsf s hl];rfl
theorem z4u(b:Bool)(l:List ND)(hl:l.length<=10000):∀(N m k:Nat),l.length-k<N->l.length-k=m->recN g_br N (⟨b,l⟩,(k:Int),())=some (endZ l k 1,()):=by
 intro N
 induction N with
 |zero=>intro m k h;exact absurd h (Nat.not_lt_zero _)
 |succ N ih=>
  intro m k hN hm;show g_br (recN g_br N) _=_;rw[u_br];have c0:ltI (k:Int) 0=false:=zu (by omega);simp only[c0,q01];by_cases hg:k<l.length
  ·obtain⟨d,hd⟩:∃d,l[k]?=some d:=⟨_,zj hg⟩;have hc:l.drop k=d::l.drop (k+1):=by rw[q17 hg];rw[zj hg] at hd;injection hd with hd;rw[hd]
   obtain⟨x,t,n,z⟩:=d;have c0:leI (lenI l) (k:Int)=false:=zu (by unfold lenI;omega);have hf:=q0g hd;by_cases hz:0<=z/\z<=(l.length:Int)
   ·have c1:ltI z 0=false:=zu (by omega);have c2:ltI (lenI l) z=false:=zu (by unfold lenI;omega);have e3:=add1 (show k<=1000000000 by omega);simp only[c0,q01,q00,hf,c1,c2,e3];have he:endZ l k 1=(skip l.length (l.drop (k+1)) z.toNat).elim (-1) fun r=>(l.length:Int)-(r.length:Int):=by unfold endZ;rw[hc,q5j];rw[if_pos (show 0<=(x,t,n,z).2.2.2/\(x,t,n,z).2.2.2<=(l.length:Int) from hz),zE]
    rw[he];have loop:∀(j i q:Nat),(i:Int)+j=z->k<q->q<=l.length->
      q0i (l1_br (recN g_br N)) (⟨b,l⟩,(k:Int),(q:Int),(i:Int),())=some ((skip l.length (l.drop q) j).elim (-1) fun r=>(l.length:Int)-(r.length:Int),()):=by
     intro j
     induction j with
     |zero=>intro i q h1 h2 h3;refine q09 ?_;unfold l1_br;simp only[hf,q00];rw[q0h,if_neg (by omega),q7f];show _=some (Sum.inr ((l.length:Int)-((l.drop q).length:Int),()));rw[zR];congr 3;omega
     |succ j ihj=>
      intro i q h1 h2 h3;have hi:=ih (l.length-q) q (by omega) rfl;have e:j+1=1+j:=by omega
      rw[e,qq0];have step:l1_br (recN g_br N) (⟨b,l⟩,(k:Int),(q:Int),(i:Int),())=if endZ l q 1<0 then some (.inr (-1,())) else some (.inl (⟨b,l⟩,(k:Int),endZ l q 1,((i+1:Nat):Int),())):=by unfold l1_br;simp only[hf,q00];rw[q0h,if_pos (by omega)];simp only[hi,q00,add1 (show i<=1000000000 by omega)];rw[q0h]
      cases hs:skip l.length (l.drop q) 1 with
      |none=>rw[qza hs,if_pos (by decide)] at step;rw[q09 step];rfl
      |some r=>
       obtain⟨s1,s2,s3⟩:=qz8 _ hs;rw[zR] at s1 s2 s3;have hj:endZ l q 1=((l.length-r.length:Nat):Int):=by unfold endZ;rw[hs];show(l.length:Int)-(r.length:Int)=_;omega
       rw[hj,if_neg (by omega)] at step;rw[q0d step,ihj (i+1) (l.length-r.length) (by omega) (by omega) (by omega)];show _=some ((skip l.length r j).elim _ _,());have:r=l.drop (l.length-r.length):=by rw[List.drop_drop] at s3;rw[show l.length-r.length=q+(l.length-q-r.length) by omega];exact s3
       rw[<-this]
    exact loop z.toNat 0 (k+1) (by omega) (by omega) (by omega)
   ·have he:endZ l k 1=-1:=by unfold endZ;rw[hc,q5j];rw[if_neg (show ¬(0<=(x,t,n,z).2.2.2/\(x,t,n,z).2.2.2<=(l.length:Int)) from hz)];rfl
    rw[he];simp only[c0,q01,q00,hf];cases h1:ltI z 0 with
    |true=>simp only[q04,q00]
    |false=>
     have c2:ltI (lenI l) z=true:=by have:=of_decide_eq_false h1;exact zw (by unfold lenI;omega)
     simp only[q01,q00,c2,q04]
  ·have he:endZ l k 1=-1:=by unfold endZ;rw[zD (by omega)];rfl
   have c0:leI (lenI l) (k:Int)=true:=zw (by unfold lenI;omega);rw[he];simp only[c0,q04,q00]
theorem qga(b:Bool)(l:List ND)(hl:l.length<=10000)(k:Nat):f_br (⟨b,l⟩,(k:Int),())=some (endZ l k 1,()):=q6x (l.length-k+1) fun N hN=>z4u b l hl N (l.length-k) k (by omega) rfl
theorem qgb(b:Bool)(l:List ND)(hl:l.length<=10000):f_bt (⟨b,l⟩,())=some (q9u l,()):=by rw[u_bt];have:=qga b l hl 0;have h0:((0:Nat):Int)=0:=rfl;rw[h0] at this;simp only[this,q00,q8x];unfold q9u ltI eqI lenI;have e1:decide ((0:Int)<(l.length:Int))=decide (0<l.length):=decide_eq_decide.2 (by omega);rw[e1];rfl
theorem q9f(b:Bool)(l:List ND)(hl:l.length<=10000){k:Nat}{x:Int}{t:List Int}{n:Int}{ks r:F}(h:Sits l k (.cons x t n ks r)):f_bs (⟨b,l⟩,(k:Int),())=some (⟨false,ks.pos (k+1)⟩,()):=by
 obtain⟨g1,g2,g3,g4⟩:=h.node;have he:=q0g g1;rw[u_bs,qga b l hl,h.ends];simp only[q00];rw[q0h,if_neg (by omega),add1 (by omega)];have loop:∀(g:F) (q i:Nat) (out:List Int),Sits l q g->out.length=i->i+g.cnt=ks.cnt->q<=l.length->
   q0i l1_bs (⟨b,l⟩,(k:Int),(q:Int),(i:Int),⟨false,out⟩,())=some (⟨false,out++g.pos q⟩,()):=by
  intro g
  induction g with
  |nil=>intro q i out hs ho hi hq;have hi:i+0=ks.cnt:=hi;refine q09 ?_;unfold l1_bs;simp only[he,q00];rw[q0h,if_neg (by omega)];show _=some (Sum.inr ((⟨false,out++[]⟩:Sl Int),()));rw[zo]
  |cons x' t' n' ks' r' _ ih=>
   intro q i out hs ho hi hq;have hi:i+(r'.cnt+1)=ks.cnt:=hi;have hc:=ks.cnt_le;have s4:=hs.node;have step:l1_bs (⟨b,l⟩,(k:Int),(q:Int),(i:Int),⟨false,out⟩,())=some (.inl (⟨b,l⟩,(k:Int),((q+1+ks'.size:Nat):Int),((i+1:Nat):Int),⟨false,out++[(q:Int)]⟩,())):=by unfold l1_bs;simp only[he,q00];rw[q0h,if_pos (by omega)];have hf:fit (sumI (lenI out) (lenI [(q:Int)]))=some ():=q1d (by show out.length+1<=_;omega);rw[hf,q00,qga b l hl,q00,hs.ends,add1 (by omega),qbw];rfl
   rw[q0d step,ih _ _ _ s4.2.2.1 (by rw[zh,ho];rfl) (by omega) (by omega),zt];rfl
 have:=loop ks (k+1) 0 [] g2 rfl (by omega) (by omega);exact this
theorem q7j(b:Bool)(l:List ND)(hl:l.length<=10000){k:Nat}{x:Int}{t:List Int}{n:Int}{ks r:F}(h:Sits l k (.cons x t n ks r)):∃nb,f_e2 (⟨b,l⟩,(k:Int),())=some (⟨nb,ks.pos (k+1)⟩,()):=by
 obtain⟨g1,g2,g3,g4⟩:=h.node;have he:=q0g g1;rw[u_e2,q9b b l hl,h.ends];simp only[q00,he];rw[q0h,if_neg (by omega),add1 (by omega)];have hc:=ks.cnt_le;have loop:∀(g:F) (q i:Nat) (nb:Bool) (out:List Int),Sits l q g->out.length=i->i+g.cnt=ks.cnt->q<=l.length->
   ∃nb',q0i l1_e2 (⟨b,l⟩,(q:Int),(ks.cnt:Int),⟨nb,out⟩,())=some (⟨nb',out++g.pos q⟩,()):=by
  intro g
  induction g with
  |nil=>intro q i nb out hs ho hi hq;have hi:i+0=ks.cnt:=hi;refine⟨nb,q09 ?_⟩;unfold l1_e2;simp only;rw[q0h,if_neg (by unfold lenI;omega)];show _=some (Sum.inr ((⟨nb,out++[]⟩:Sl Int),()));rw[zo]
  |cons x' t' n' ks' r' _ ih=>
   intro q i nb out hs ho hi hq;have hi:i+(r'.cnt+1)=ks.cnt:=hi;have s4:=hs.node;have step:l1_e2 (⟨b,l⟩,(q:Int),(ks.cnt:Int),⟨nb,out⟩,())=some (.inl (⟨b,l⟩,((q+1+ks'.size:Nat):Int),(ks.cnt:Int),⟨false,out++[(q:Int)]⟩,())):=by unfold l1_e2;simp only;rw[q0h,if_pos (by unfold lenI;omega)];have hf:fit (sumI (lenI out) (lenI [(q:Int)]))=some ():=q1d (by show out.length+1<=_;omega);rw[hf,q00,q9b b l hl,q00,hs.ends,qbw];rfl
   obtain⟨nb',h'⟩:=ih (q+1+ks'.size) (i+1) false (out++[(q:Int)]) s4.2.2.1 (by rw[zh,ho];rfl) (by omega) (by omega);refine⟨nb',?_⟩;rw[q0d step,h',zt];rfl
 exact loop ks (k+1) 0 true [] g2 rfl (by omega) (by omega)
theorem qsh(b:Bool)(l:List ND)(hl:l.length<=10000){k:Nat}{x:Int}{t:List Int}{n:Int}{ks:F}(h:Sits l k (tr x t n ks)):f_bq (⟨b,l⟩,(k:Int),())=some (((ks.dep+1:Nat):Int),()):=by
 refine q6x (ks.size+1) ?_;refine F.each_one (l:=l) (P:=fun k x t n ks=>∀N,ks.size+1<=N->recN g_bq N (⟨b,l⟩,(k:Int),())=some (((ks.dep+1:Nat):Int),())) ?_ h;intro k x t n ks hs he N hN;obtain⟨N,rfl⟩:∃m,N=m+1:=⟨N-1,by omega⟩;show g_bq (recN g_bq N) _=_;rw[u_bq,q9f b l hl hs,q00];have ho:=hs.node.2.2.2;have hq:=ks.dep_le;have loop:∀(g:F) (q:Nat) (pre:List Int) (most:Nat),g.Each (fun k x t n ks=>∀N,ks.size+1<=N->recN g_bq N (⟨b,l⟩,(k:Int),())=some (((ks.dep+1:Nat):Int),())) q->
   g.size<=N->g.size<=10000->pre++g.pos q=ks.pos (k+1)->most<=100000->
   q0i (l1_bq (recN g_bq N)) (⟨b,l⟩,(most:Int),⟨false,ks.pos (k+1)⟩,(pre.length:Int),())=some (((max most g.dep+1:Nat):Int),()):=by
  intro g
  induction g with
  |nil=>intro q pre most hE hz _ hp hm;have hp:pre++[]=ks.pos (k+1):=hp;rw[zo] at hp;refine q09 ?_;unfold l1_bq;simp only;rw[q0h,if_neg (by rw[hp];unfold lenI;omega),add1 (by omega)];show _=some (Sum.inr (((max most 0+1:Nat):Int),()));rw[Nat.max_zero]
  |cons x' t' n' ks' r' _ ih=>
   intro q pre most hE hz hj hp hm;have hj:ks'.size+r'.size+1<=10000:=hj;have hz:ks'.size+r'.size+1<=N:=hz;have hp:pre++(q:Int)::r'.pos (q+1+ks'.size)=ks.pos (k+1):=hp;have hf:(ks.pos (k+1)).length=ks.cnt:=ks.pos_len _;have hn:=congrArg List.length hp;rw[zh,zm,hf] at hn;have hc:=ks.cnt_le;have hg:(ks.pos (k+1))[pre.length]?=some (q:Int):=by rw[<-hp];simp
   have ht:=ks'.dep_le;have step:l1_bq (recN g_bq N) (⟨b,l⟩,(most:Int),⟨false,ks.pos (k+1)⟩,(pre.length:Int),())=some (.inl (⟨b,l⟩,((max most (ks'.dep+1):Nat):Int),⟨false,ks.pos (k+1)⟩,((pre.length+1:Nat):Int),())):=by
    unfold l1_bq;simp only;rw[q0h,if_pos (by unfold lenI;rw[hf];omega),q0g hg,q00,hE.1 N (by omega),q00,q0h];have ea:=add1 (show pre.length<=1000000000 by omega);by_cases hk:(most:Int)<((ks'.dep+1:Nat):Int)
    ·rw[if_pos hk,q00,ea];have:max most (ks'.dep+1)=ks'.dep+1:=by omega
     rw[this]
    ·rw[if_neg hk,q00,ea];have:max most (ks'.dep+1)=most:=by omega
     rw[this]
   have hi:=ih (q+1+ks'.size) (pre++[(q:Int)]) (max most (ks'.dep+1)) hE.2 (by omega) (by omega) (by rw[zt];exact hp) (by omega);rw[zh] at hi;have hi:q0i (l1_bq (recN g_bq N)) (⟨b,l⟩,((max most (ks'.dep+1):Nat):Int),⟨false,ks.pos (k+1)⟩,((pre.length+1:Nat):Int),())=_:=hi;rw[q0d step,hi];show some (((max (max most (ks'.dep+1)) r'.dep+1:Nat):Int),())=some (((max most (max (ks'.dep+1) r'.dep)+1:Nat):Int),());rw[Nat.max_assoc]
 have:=loop ks (k+1) [] 0 he (by omega) (by omega) rfl (by omega);rw[Nat.zero_max] at this;exact this
theorem qsi(n:Int)(h:rng n):∃v,f_bo (n,())=some (v,())/\eqI v n=q4q n:=by
 obtain⟨h1,h2⟩:=h;have e0:cvI .u64 n=n % 18446744073709551616:=q6m n;rw[u_bo,u_bp,e0,qbj (by omega) (by decide)];simp only[q00];rw[qv7];by_cases hb:4611686018427387904<=n % 18446744073709551616 % 9223372036854775808
 ·rw[if_pos hb];refine⟨_,rfl,?_⟩;have e1:subI .u64 (n % 18446744073709551616 % 9223372036854775808) 4611686018427387904=n % 18446744073709551616 % 9223372036854775808-4611686018427387904:=by unfold subI;rw[q6m];omega
  rw[e1,qv6 (by omega) (by omega),q3l (by omega) (by omega),Bool.eq_iff_iff,eqI_eq];unfold q4q;rw[decide_eq_true_eq];omega
 ·rw[if_neg hb];refine⟨_,rfl,?_⟩;rw[qv6 (by omega) (by omega),Bool.eq_iff_iff,eqI_eq];unfold q4q;rw[decide_eq_true_eq];omega
theorem qw2:∀a:Int,f_c9 (a,())=some (q2o a,()):=by refine q9d (by kernel_rfl) (by kernel_rfl) (by kernel_rfl) (by kernel_rfl) (by kernel_rfl) (by kernel_rfl) (by kernel_rfl) (by kernel_rfl) (by kernel_rfl) (by kernel_rfl) (by kernel_rfl) (by kernel_rfl) (by kernel_rfl) (by kernel_rfl) (by kernel_rfl) (by kernel_rfl) (fun a h=>?_);have i1:eqI a 1=false:=h 1 (by decide);have i2:eqI a 2=false:=h 2 (by decide);have i3:eqI a 3=false:=h 3 (by decide);have i4:eqI a 4=false:=h 4 (by decide);have i5:eqI a 5=false:=h 5 (by decide);have i6:eqI a 6=false:=h 6 (by decide);have i7:eqI a 7=false:=h 7 (by decide);have i8:eqI a 8=false:=h 8 (by decide);have i9:eqI a 9=false:=h 9 (by decide);have i10:eqI a 10=false:=h 10 (by decide);have i11:eqI a 11=false:=h 11 (by decide);have i12:eqI a 12=false:=h 12 (by decide);have i21:eqI a 21=false:=h 21 (by decide);have i22:eqI a 22=false:=h 22 (by decide);have i23:eqI a 23=false:=h 23 (by decide);have i24:eqI a 24=false:=h 24 (by decide);rw[u_c9];unfold q2o;simp only[i1,i2,i3,i4,i5,i6,i7,i8,i9,i10,i11,i12,i21,i22,i23,i24,q01,q00];rfl
theorem qzm(c:Int)(hc:0<=c):∀a:Int,f_c6 (a,c,())=some (q5k a c,()):=by
 have he:f_c6 (10,c,())=some (q5k 10 c,()):=by rw[u_c6];show bnd (cnd (leI 3 c) (bnd (remI c 2) fun x4=>some (eqI x4 1)) (some false)) (fun x5=>some (x5,()))=some (leI 3 c&&eqI (c % 2) 1,());rw[qbj hc (by decide)];cases leI 3 c<;>rfl
 refine q9d (by rw[u_c6];rfl) (by rw[u_c6];rfl) (by rw[u_c6];rfl) (by rw[u_c6];rfl) (by rw[u_c6];rfl) (by rw[u_c6];rfl) (by rw[u_c6];rfl) (by rw[u_c6];rfl) (by rw[u_c6];rfl) he (by rw[u_c6];rfl) (by rw[u_c6];rfl) (by rw[u_c6];rfl) (by rw[u_c6];rfl) (by rw[u_c6];rfl) (by rw[u_c6];rfl) (fun a h=>?_);have i1:eqI a 1=false:=h 1 (by decide);have i2:eqI a 2=false:=h 2 (by decide);have i3:eqI a 3=false:=h 3 (by decide);have i4:eqI a 4=false:=h 4 (by decide);have i5:eqI a 5=false:=h 5 (by decide);have i6:eqI a 6=false:=h 6 (by decide);have i7:eqI a 7=false:=h 7 (by decide);have i8:eqI a 8=false:=h 8 (by decide);have i9:eqI a 9=false:=h 9 (by decide);have i10:eqI a 10=false:=h 10 (by decide);have i11:eqI a 11=false:=h 11 (by decide);have i12:eqI a 12=false:=h 12 (by decide);have i21:eqI a 21=false:=h 21 (by decide);have i22:eqI a 22=false:=h 22 (by decide);have i23:eqI a 23=false:=h 23 (by decide);have i24:eqI a 24=false:=h 24 (by decide);rw[u_c6];unfold q5k;simp only[i5,i11,i6,i7,i8,i12,i9,i10,i24,q01,q00];rfl
theorem qi7(a:Int):f_c3 (a,())=some (q39 a,()):=by rw[u_c3,q8x];rfl
theorem qsj(b:Bool)(l:List ND)(hl:l.length<=10000){k:Nat}{kd:Int}{t:List Int}{n:Int}{ks r:F}(pat:Bool)(h:Sits l k (.cons kd t n ks r))(ht:t.length<=1000000)(hr:rng n):f_c7 (⟨b,l⟩,(k:Int),pat,())=some (q1o kd t n (ks.cnt:Int) ks.head pat,()):=by
 obtain⟨g1,g2,g3,g4⟩:=h.node;obtain⟨v,w1,w2⟩:=qsi n hr;rw[u_c7,q0g g1];simp only[q00,qw2,qly,qi7,qzm (ks.cnt:Int) (Int.natCast_nonneg _),w1,w2,qsg ht,qw1 ht];by_cases h8:kd=8/\ks.cnt=0
 ·obtain⟨rfl,h0⟩:=h8;rw[h0];have e1:ltI (q2o 8) 0=false:=rfl;have e2:q5k 8 ((0:Nat):Int)=false:=rfl;unfold q1o;rw[e1,e2];simp only[q04,q01,notB,Bool.not_false,cond_true,cond_false];cases !eqB (q39 8) pat<;>rfl
 ·have e8:=behind (kd:=kd) (l:=l) (k:=k) (ks:=ks) (by omega) g2 (fun e h=>h8 ⟨e,h⟩);simp only[e8,q00,q04,q01];unfold q1o q6f;unfold q6z;generalize hT:(eqI kd 8&&notB (eqI ks.head 5))=T;cases ltI (q2o kd) 0 with
  |true=>rfl
  |false=>
   cases notB (eqB (q39 kd) pat) with
   |true=>rfl
   |false=>
    cases notB (q5k kd (ks.cnt:Int)) with
    |true=>rfl
    |false=>
     simp only[q01,cond_false];have fin:(bnd (cnd (eqI (q2o kd) 1) (some (notB (nameOk t))) (some false)) (fun x6=>bnd (cnd x6 (some true) (cnd (eqI (q2o kd) 2) (some (notB (q8d t))) (some false))) (fun x8=>cnd x8 (some ((62:Int),())) (some (0,())))):Option (Int×Unit))=
       some (bif eqI (q2o kd) 1&&notB (nameOk t) then 62 else bif eqI (q2o kd) 2&&notB (q8d t) then 62 else 0,()):=by
      cases eqI (q2o kd) 1<;>cases nameOk t<;>cases eqI (q2o kd) 2<;>cases q8d t<;>rfl
     simp only[fin];cases (eqI kd 1||eqI kd 23) with
     |true=>
      simp only[q04,q01,cond_true,notB,Bool.not_true];cases q4q n with
      |false=>rfl
      |true=>
       simp only[q01,Bool.not_true,cond_true];cases h0:eqI (q2o kd) 0 with
       |true=>
        have h3:eqI (q2o kd) 3=false:=by rw[eqI_eq.1 h0];rfl
        simp only[h3,q01,cond_false];cases eqS t []<;>cases T<;>rfl
       |false=>cases eqI (q2o kd) 3<;>cases ltI 200 (lenI t)<;>cases T<;>rfl
     |false=>
      simp only[q04,q01,cond_false,notB,Bool.not_false];cases eqI n 0 with
      |false=>rfl
      |true=>
       simp only[q01,Bool.not_true,cond_true];cases h0:eqI (q2o kd) 0 with
       |true=>
        have h3:eqI (q2o kd) 3=false:=by rw[eqI_eq.1 h0];rfl
        simp only[h3,q01,cond_false];cases eqS t []<;>cases T<;>rfl
       |false=>cases eqI (q2o kd) 3<;>cases ltI 200 (lenI t)<;>cases T<;>rfl
theorem qw3(b:Bool)(l:List ND)(hl:l.length<=10000)(hg:GL l){k:Nat}{kd:Int}{t:List Int}{n:Int}{ks:F}(h:Sits l k (tr kd t n ks)):∀pat N,ks.size+1<=N->recN g_c8 N (⟨b,l⟩,(k:Int),pat,())=some (errT kd t n ks pat,()):=by
 refine F.each_one (l:=l) (P:=fun k kd t n ks=>∀pat N,ks.size+1<=N->recN g_c8 N (⟨b,l⟩,(k:Int),pat,())=some (errT kd t n ks pat,())) ?_ h;clear h k kd t n ks;intro k kd t n ks hs he pat N hN;obtain⟨N,rfl⟩:∃m,N=m+1:=⟨N-1,by omega⟩;show g_c8 (recN g_c8 N) _=_;obtain⟨g1,g2,g3,g4⟩:=hs.node;obtain⟨q1,q2,q3⟩:=hg.at g1;rw[u_c8,qsj b l hl pat hs q2 q3,q9f b l hl hs];simp only[q00];unfold errT;cases hE:notB (eqI (q1o kd t n (ks.cnt:Int) ks.head pat) 0) with
 |true=>rw[q04,cond_true]
 |false=>
  rw[q01,cond_false];have loop:∀(g:F) (q:Nat) (pre:List Int),g.Each (fun k kd t n ks=>∀pat N,ks.size+1<=N->recN g_c8 N (⟨b,l⟩,(k:Int),pat,())=some (errT kd t n ks pat,())) q->
    g.size<=N->pre++g.pos q=ks.pos (k+1)->
    q0i (l1_c8 (recN g_c8 N)) (⟨b,l⟩,(k:Int),pat,⟨false,ks.pos (k+1)⟩,(pre.length:Int),())=some (errF (eqI kd 10) pat (eqI ((pre.length:Int) % 2) 1) g,()):=by
   intro g
   induction g with
   |nil=>intro q pre _ _ hp;have hp:pre++[]=ks.pos (k+1):=hp;rw[zo] at hp;refine q09 ?_;unfold l1_c8;simp only;rw[q0h,if_neg (by rw[hp];unfold lenI;omega),qq3]
   |cons kd' t' n' ks' r' _ ih=>
    intro q pre hE hz hp;have hz:ks'.size+r'.size+1<=N:=hz;have hp:pre++(q:Int)::r'.pos (q+1+ks'.size)=ks.pos (k+1):=hp;have hf:(ks.pos (k+1)).length=ks.cnt:=ks.pos_len _;have hn:=congrArg List.length hp;rw[zh,zm,hf] at hn;have hc:=ks.cnt_le;have hk:(ks.pos (k+1))[pre.length]?=some (q:Int):=by rw[<-hp];simp
    rw[qg5];have hw:=hE.1 (pat||(eqI kd 10&&eqI ((pre.length:Int) % 2) 1)) N (by omega);have step:l1_c8 (recN g_c8 N) (⟨b,l⟩,(k:Int),pat,⟨false,ks.pos (k+1)⟩,(pre.length:Int),())=
      bif notB (eqI (errT kd' t' n' ks' (pat||(eqI kd 10&&eqI ((pre.length:Int) % 2) 1))) 0) then some (.inr (errT kd' t' n' ks' (pat||(eqI kd 10&&eqI ((pre.length:Int) % 2) 1)),())) else some (.inl (⟨b,l⟩,(k:Int),pat,⟨false,ks.pos (k+1)⟩,((pre.length+1:Nat):Int),())):=by
     unfold l1_c8;simp only;rw[q0h,if_pos (by unfold lenI;rw[hf];omega),q0g hk,q00,q0g g1,qbj (by omega) (by decide),add1 (by omega)];cases pat with
     |true=>rw[Bool.true_or] at hw;simp only[q04,Bool.true_or,hw,q00];cases notB (eqI (errT kd' t' n' ks' true) 0)<;>rfl
     |false=>
      cases hj:eqI kd 10 with
      |true=>rw[hj,Bool.false_or,Bool.true_and] at hw;simp only[q01,Bool.false_or,Bool.true_and,hj,q04,hw,q00];cases notB (eqI (errT kd' t' n' ks' (eqI ((pre.length:Int) % 2) 1)) 0)<;>rfl
      |false=>rw[hj,Bool.false_or,Bool.false_and] at hw;simp only[q01,Bool.false_or,Bool.false_and,hj,hw,q00];cases notB (eqI (errT kd' t' n' ks' false) 0)<;>rfl
    cases hm:notB (eqI (errT kd' t' n' ks' (pat||(eqI kd 10&&eqI ((pre.length:Int) % 2) 1))) 0) with
    |true=>rw[hm,cond_true] at step;rw[q09 step];rfl
    |false=>rw[hm,cond_false] at step;have hi:=ih (q+1+ks'.size) (pre++[(q:Int)]) hE.2 (by omega) (by rw[zt];exact hp);rw[zh] at hi;have hi:q0i (l1_c8 (recN g_c8 N)) (⟨b,l⟩,(k:Int),pat,⟨false,ks.pos (k+1)⟩,((pre.length+1:Nat):Int),())=some (errF (eqI kd 10) pat (eqI (((pre.length+1:Nat):Int) % 2) 1) r',()):=hi;rw[q0d step,hi,qvu];rfl
  exact loop ks (k+1) [] he (by omega) rfl
theorem qsk(b:Bool)(l:List ND)(hl:l.length<=10000)(hg:GL l){k:Nat}{kd:Int}{t:List Int}{n:Int}{ks:F}(pat:Bool)(h:Sits l k (tr kd t n ks)):f_c8 (⟨b,l⟩,(k:Int),pat,())=some (errT kd t n ks pat,()):=q6x (ks.size+1) fun N hN=>qw3 b l hl hg h pat N hN
theorem qzn(b:Bool)(l:List ND)(hl:l.length<=10000){k:Nat}{kd:Int}{t:List Int}{n:Int}{ks:F}(h:Sits l k (tr kd t n ks)):∀N,ks.size+1<=N->recN g_c5 N (⟨b,l⟩,(k:Int),())=some (⟨false,q70 kd t ks⟩,()):=by
 refine F.each_one (l:=l) (P:=fun k kd t _ ks=>∀N,ks.size+1<=N->recN g_c5 N (⟨b,l⟩,(k:Int),())=some (⟨false,q70 kd t ks⟩,())) ?_ h;clear h k kd t n ks;intro k kd t n ks hs he N hN;obtain⟨N,rfl⟩:∃m,N=m+1:=⟨N-1,by omega⟩;show g_c5 (recN g_c5 N) _=_;obtain⟨g1,g2,g3,g4⟩:=hs.node;rw[u_c5,q0g g1];simp only[q00];unfold q70;cases hm:eqI kd 22 with
 |true=>rfl
 |false=>
  rw[q01,cond_false,q9f b l hl hs,q00];have loop:∀(g:F) (q:Nat) (pre:List Int) (out:List Tx),g.Each (fun k kd t _ ks=>∀N,ks.size+1<=N->recN g_c5 N (⟨b,l⟩,(k:Int),())=some (⟨false,q70 kd t ks⟩,())) q->
    g.size<=N->pre++g.pos q=ks.pos (k+1)->out.length+g.size<=1000000->
    q0i (l1_c5 (recN g_c5 N)) (⟨b,l⟩,⟨false,ks.pos (k+1)⟩,(pre.length:Int),⟨false,out⟩,())=some (⟨false,out++qg7 g⟩,()):=by
   intro g
   induction g with
   |nil=>intro q pre out _ _ hp _;have hp:pre++[]=ks.pos (k+1):=hp;rw[zo] at hp;refine q09 ?_;unfold l1_c5;simp only;rw[q0h,if_neg (by rw[hp];unfold lenI;omega)];show _=some (Sum.inr ((⟨false,out++[]⟩:Sl Tx),()));rw[zo]
   |cons kd' t' n' ks' r' _ ih=>
    intro q pre out hE hz hp ho;have hz:ks'.size+r'.size+1<=N:=hz;have ho:out.length+(ks'.size+r'.size+1)<=1000000:=ho;have hp:pre++(q:Int)::r'.pos (q+1+ks'.size)=ks.pos (k+1):=hp;have hg:(ks.pos (k+1)).length=ks.cnt:=ks.pos_len _;have hk:=congrArg List.length hp;rw[zh,zm,hg] at hk;have hc:=ks.cnt_le;have hj:(ks.pos (k+1))[pre.length]?=some (q:Int):=by rw[<-hp];simp
    have hv:(q70 kd' t' ks').length<=ks'.size+1:=by have:=qby (tr kd' t' n' ks');have e:qg7 (tr kd' t' n' ks')=q70 kd' t' ks'++[]:=q7i ..;rw[e,zo,q49] at this;exact this
    have hf:fit (sumI (lenI out) (lenI (q70 kd' t' ks')))=some ():=q1d (by omega);have step:l1_c5 (recN g_c5 N) (⟨b,l⟩,⟨false,ks.pos (k+1)⟩,(pre.length:Int),⟨false,out⟩,())=some (.inl (⟨b,l⟩,⟨false,ks.pos (k+1)⟩,((pre.length+1:Nat):Int),⟨false,out++q70 kd' t' ks'⟩,())):=by unfold l1_c5;simp only;rw[q0h,if_pos (by unfold lenI;rw[hg];omega),q0g hj,q00,hE.1 N (by omega),q00];simp only[hf,q00,add1 (show pre.length<=1000000000 by omega),qry];rfl
    have hi:=ih (q+1+ks'.size) (pre++[(q:Int)]) (out++q70 kd' t' ks') hE.2 (by omega) (by rw[zt];exact hp) (by rw[zh];omega);rw[zh] at hi;have hi:q0i (l1_c5 (recN g_c5 N)) (⟨b,l⟩,⟨false,ks.pos (k+1)⟩,((pre.length+1:Nat):Int),⟨false,out++q70 kd' t' ks'⟩,())=_:=hi;rw[q0d step,hi,zt];rfl
  exact loop ks (k+1) [] [] he (by omega) rfl (by show 0+ks.size<=_;omega)
theorem qw4(b:Bool)(l:List ND)(hl:l.length<=10000){k:Nat}{kd:Int}{t:List Int}{n:Int}{ks:F}(h:Sits l k (tr kd t n ks)):f_c5 (⟨b,l⟩,(k:Int),())=some (⟨false,q70 kd t ks⟩,()):=q6x (ks.size+1) fun N hN=>qzn b l hl h N hN
theorem z5s(nb:Bool)(v:List Tx)(hv:v.length<=1000000)(i:Nat)(hi:i<v.length):∀(m j:Nat),j+m=i->∃r,q0i l1_ca ((i:Int),(j:Int),⟨nb,v⟩,())=some r/\((∃q,j<=q/\q<i/\v[q]?=v[i]?)/\r=.inr (true,())\/(∀q,j<=q->q<i->v[q]?≠v[i]?)/\r=.inl (((i+1:Nat):Int),⟨nb,v⟩,())):=by
 intro m
 induction m with
 |zero=>intro j hj;refine⟨_,q09 ?_,.inr ⟨fun q h1 h2=>by omega,rfl⟩⟩;unfold l1_ca;simp only;rw[q0h,if_neg (by omega),add1 (by omega)]
 |succ m ih=>
  intro j hj;have hc:l1_ca ((i:Int),(j:Int),⟨nb,v⟩,())=if v[i]=v[j] then some (.inr (.inr (true,()))) else some (.inl ((i:Int),((j+1:Nat):Int),⟨nb,v⟩,())):=by unfold l1_ca;simp only;rw[q0h,if_pos (by omega),q3q hi,q3q (by omega)];simp only[q00,qbx hi,qbx (show j<v.length by omega)];rw[qcx,add1 (by omega)]
  by_cases h:v[i]=v[j]
  ·rw[if_pos h] at hc;exact⟨_,q09 hc,.inl ⟨⟨j,Nat.le_refl _,by omega,by rw[zj hi,zj (by omega),h]⟩,rfl⟩⟩
  ·rw[if_neg h] at hc;obtain⟨r,h1,h2⟩:=ih (j+1) (by omega);refine⟨r,by rw[q0d hc,h1],?_⟩;rcases h2 with ⟨⟨q,e1,e2,e3⟩,e4⟩|⟨e1,e2⟩
   ·exact .inl ⟨⟨q,by omega,e2,e3⟩,e4⟩
   ·refine .inr ⟨fun q h3 h4=>?_,e2⟩;by_cases hq:q=j
    ·subst hq;rw[zj hi,zj (by omega)];exact fun e=>h (zF e).symm
    ·exact e1 q (by omega) h4
theorem z31(nb:Bool)(v:List Tx)(hv:v.length<=1000000):∀(m i:Nat),i+m=v.length->(∀a c:Nat,a<c->c<i->v[a]?≠v[c]?)->q0i l2_ca ((i:Int),⟨nb,v⟩,())=some (dupL v,()):=by
 have hf:dupL v=true↔∃a c:Nat,a<c/\c<v.length/\v[a]?=v[c]?:=by
  have key:v.Nodup↔∀i j:Nat,i<j->j<v.length->v[i]?≠v[j]?:=by
   unfold List.Nodup;rw[List.pairwise_iff_getElem];constructor
   ·intro h i j hg hj e;rw[zj (show i<v.length by omega),zj hj] at e;exact h i j (by omega) hj hg (zF e)
   ·intro h i j hi hj hg e;exact h i j hg hj (by rw[zj hi,zj hj,e])
  have:=(q9e v).trans key;constructor
  ·intro h;apply zC;intro hn;have hh:dupL v=false:=this.2 fun i j hg hj e=>hn ⟨i,j,hg,hj,e⟩;rw[h] at hh;cases hh
  ·rintro⟨a,c,h1,h2,h3⟩;cases hd:dupL v with
   |true=>rfl
   |false=>exact absurd h3 (this.1 hd a c h1 h2)
 intro m
 induction m with
 |zero=>
  intro i hi hk;refine q09 ?_;unfold l2_ca;simp only;rw[q0h,if_neg (by unfold lenI;omega)];cases hd:dupL v with
  |false=>rfl
  |true=>obtain⟨a,c,h1,h2,h3⟩:=hf.1 hd;exact absurd h3 (hk a c h1 (by omega))
 |succ m ih=>
  intro i hi hk;obtain⟨r,h1,h2⟩:=z5s nb v hv i (by omega) i 0 (by omega);have h1:q0i l1_ca ((i:Int),0,⟨nb,v⟩,())=some r:=h1;have he:l2_ca ((i:Int),⟨nb,v⟩,())=q0i l1_ca ((i:Int),0,⟨nb,v⟩,()):=by unfold l2_ca;simp only;rw[q0h,if_pos (by unfold lenI;omega)]
  rw[h1] at he;rcases h2 with ⟨⟨q,e1,e2,e3⟩,e4⟩|⟨e1,e2⟩
  ·subst e4;rw[q09 he,hf.2 ⟨q,i,e2,by omega,e3⟩]
  ·subst e2;rw[q0d he,ih (i+1) (by omega) (fun a c h3 h4=>by
    by_cases hc:c=i
    ·subst hc;exact e1 a (by omega) h3
    ·exact hk a c h3 (by omega))]
theorem qw5(b:Bool)(l:List ND)(hl:l.length<=10000){k:Nat}{kd:Int}{t:List Int}{n:Int}{ks:F}(h:Sits l k (tr kd t n ks)):∀N,ks.size+1<=N->recN g_ca N (⟨b,l⟩,(k:Int),())=some (twT kd t ks,()):=by
 refine F.each_one (l:=l) (P:=fun k kd t _ ks=>∀N,ks.size+1<=N->recN g_ca N (⟨b,l⟩,(k:Int),())=some (twT kd t ks,())) ?_ h;clear h k kd t n ks;intro k kd t n ks hs he N hN;obtain⟨N,rfl⟩:∃m,N=m+1:=⟨N-1,by omega⟩;show g_ca (recN g_ca N) _=_;obtain⟨g1,g2,g3,g4⟩:=hs.node;rw[u_ca,q0g g1];simp only[q00,qi7];unfold twT;cases q39 kd with
 |true=>
  rw[q04,cond_true,qw4 b l hl hs,q00];have hv:(q70 kd t ks).length<=ks.size+1:=by have:=qby (tr kd t n ks);have e:qg7 (tr kd t n ks)=q70 kd t ks++[]:=q7i ..;rw[e,zo,q49] at this;exact this
  exact z31 false (q70 kd t ks) (by omega) _ 0 (zE _) (fun a c h1 h2=>by omega)
 |false=>
  rw[q01,cond_false,q9f b l hl hs,q00];have loop:∀(g:F) (q:Nat) (pre:List Int),g.Each (fun k kd t _ ks=>∀N,ks.size+1<=N->recN g_ca N (⟨b,l⟩,(k:Int),())=some (twT kd t ks,())) q->
    g.size<=N->pre++g.pos q=ks.pos (k+1)->
    q0i (l3_ca (recN g_ca N)) (⟨b,l⟩,⟨false,ks.pos (k+1)⟩,(pre.length:Int),())=some (twF g,()):=by
   intro g
   induction g with
   |nil=>intro q pre _ _ hp;have hp:pre++[]=ks.pos (k+1):=hp;rw[zo] at hp;refine q09 ?_;unfold l3_ca;simp only;rw[q0h,if_neg (by rw[hp];unfold lenI;omega)];rfl
   |cons kd' t' n' ks' r' _ ih=>
    intro q pre hE hz hp;have hz:ks'.size+r'.size+1<=N:=hz;have hp:pre++(q:Int)::r'.pos (q+1+ks'.size)=ks.pos (k+1):=hp;have hf:(ks.pos (k+1)).length=ks.cnt:=ks.pos_len _;have hj:=congrArg List.length hp;rw[zh,zm,hf] at hj;have hc:=ks.cnt_le;have hg:(ks.pos (k+1))[pre.length]?=some (q:Int):=by rw[<-hp];simp
    have step:l3_ca (recN g_ca N) (⟨b,l⟩,⟨false,ks.pos (k+1)⟩,(pre.length:Int),())=
      cnd (twT kd' t' ks') (some (.inr (true,()))) (some (.inl (⟨b,l⟩,⟨false,ks.pos (k+1)⟩,((pre.length+1:Nat):Int),()))):=by
     unfold l3_ca;simp only;rw[q0h,if_pos (by unfold lenI;rw[hf];omega),q0g hg,q00,hE.1 N (by omega),q00,add1 (by omega)]
    rw[qjm];cases ht:twT kd' t' ks' with
    |true=>rw[ht,q04] at step;rw[q09 step];rfl
    |false=>rw[ht,q01] at step;have hi:=ih (q+1+ks'.size) (pre++[(q:Int)]) hE.2 (by omega) (by rw[zt];exact hp);rw[zh] at hi;have hi:q0i (l3_ca (recN g_ca N)) (⟨b,l⟩,⟨false,ks.pos (k+1)⟩,((pre.length+1:Nat):Int),())=_:=hi;rw[q0d step,hi];rfl
  exact loop ks (k+1) [] he (by omega) rfl
theorem qsl(b:Bool)(l:List ND)(hl:l.length<=10000){k:Nat}{kd:Int}{t:List Int}{n:Int}{ks:F}(h:Sits l k (tr kd t n ks)):f_ca (⟨b,l⟩,(k:Int),())=some (twT kd t ks,()):=q6x (ks.size+1) fun N hN=>qw5 b l hl h N hN
theorem qo0(b:Bool)(kd:Int)(t:Tx)(n:Int)(ks:F)(pat:Bool)(hl:ks.size+1<=4000)(hg:GL (tr kd t n ks).flat):f_c1 (⟨b,(tr kd t n ks).flat⟩,pat,())=some (chkT kd t n ks pat,()):=by
 have hc:(tr kd t n ks).flat.length=ks.size+1:=(tr kd t n ks).len;have hs:=q7h kd t n ks;have hd:=qsh b _ (by omega) hs;have hw:=qsk b _ (by omega) hg pat hs;have ht:=qsl b _ (by omega) hs;have h0:((0:Nat):Int)=0:=rfl;rw[h0] at hw hd ht;rw[u_c1,qgb b _ (by omega),(q7g _).2 ⟨kd,t,n,ks,rfl⟩];have c0:ltI 4000 (lenI (tr kd t n ks).flat)=false:=zu (by unfold lenI;omega);simp only[c0,q01,q00,nT,hw,hd,ht];unfold chkT;cases ltI 100 ((ks.dep+1:Nat):Int) with
 |true=>rfl
 |false=>
  rw[q01,cond_false];cases notB (eqI (errT kd t n ks pat) 0) with
  |true=>rfl
  |false=>cases twT kd t ks<;>rfl
theorem qo1(b:Bool)(l:List ND)(hl:l.length<=4000)(pat:Bool)(h:q9u l=false):f_c1 (⟨b,l⟩,pat,())=some (60,()):=by rw[u_c1,qgb b _ (by omega),h];have c0:ltI 4000 (lenI l)=false:=zu (by unfold lenI;omega);simp only[c0,q01,q00,nF,q04]
theorem qo2(x:Fix1)(hl:x.1.length<=1000000):f_c0 (x,())=some (q2r x,()):=by obtain⟨s,n,m⟩:=x;rw[u_c0,qm4 s hl,q00];exact z0u _ n m
theorem qm6(n:Bool){l:List Fix1}(hl:l.length<=1000000)(i:Nat)(hi:i<l.length):∀(m k:Nat) (tw:Bool),k+m=i->q0i l1_bz (⟨n,l⟩,tw,(i:Int),(k:Int),())=some (.inl (⟨n,l⟩,tw||((l.take i).drop k).any (fun x=>decide (x.1=l[i].1)),((i+1:Nat):Int),())):=by
 intro m
 induction m with
 |zero=>intro k tw hk;refine q09 ?_;unfold l1_bz;simp only;rw[q0h,if_neg (by omega),add1 (by omega),zD (by rw[zN];omega)];simp
 |succ m ih=>
  intro k tw hk;have he:k<(l.take i).length:=by rw[zN];omega
  have hc:k<l.length:=by omega
  have step:l1_bz (⟨n,l⟩,tw,(i:Int),(k:Int),())=some (.inl (⟨n,l⟩,tw||decide (l[k].1=l[i].1),(i:Int),((k+1:Nat):Int),())):=by
   unfold l1_bz;simp only;rw[q0h,if_pos (by omega),add1 (by omega)];cases tw with
   |true=>rw[q04];rfl
   |false=>
    rw[q01,q0g (zj hc),q00,q0g (zj hi),q00];have:eqS l[k].1 l[i].1=decide (l[k].1=l[i].1):=by unfold eqS;rw[Bool.eq_iff_iff];simp
    rw[this,Bool.false_or]
  rw[q0d step,ih (k+1) _ (by omega),q17 he,List.any_cons,List.getElem_take,Bool.or_assoc]
theorem qo3(n:Bool){l:List Fix1}(h:gL l):∀(m k:Nat) (tw:Bool),k+m=l.length->q0i l2_bz (⟨n,l⟩,tw,(k:Int),())=some (if(l.drop k).any (fun x=>!q2r x)=true then 40 else if(tw||dupR l m k)=true then 41 else 0,()):=by
 intro m;have hl:=h.2.2
 induction m with
 |zero=>intro k tw hk;refine q09 ?_;unfold l2_bz;simp only;rw[q0h,if_neg (by unfold lenI;omega),zD (by omega)];cases tw<;>rfl
 |succ m ih=>
  intro k tw hk;have hc:k<l.length:=by omega
  have hg:=zj hc;have hr:=qo2 l[k] (h.2.1 _ (List.getElem_mem hc));have hd:qjo l k=(l.take k).any (fun x=>decide (x.1=l[k].1)):=by unfold qjo;rw[hg,qzl]
  have he:=qm6 n hl k hc k 0 tw (by omega);rw[List.drop_zero,<-hd] at he;have he:q0i l1_bz (⟨n,l⟩,tw,(k:Int),0,())=_:=he;have step:l2_bz (⟨n,l⟩,tw,(k:Int),())=if q2r l[k]=false then some (.inr (40,())) else some (.inl (⟨n,l⟩,tw||qjo l k,((k+1:Nat):Int),())):=by
   unfold l2_bz;simp only;rw[q0h,if_pos (by unfold lenI;omega),q0g hg,q00,hr,q00,z2i];cases q2r l[k] with
   |false=>rfl
   |true=>rw[q04,he];rfl
  rw[q17 hc,List.any_cons];cases hb:q2r l[k] with
  |false=>rw[if_pos hb] at step;rw[q09 step];rfl
  |true=>rw[if_neg (by rw[hb];decide)] at step;rw[q0d step,ih (k+1) _ (by omega)];show _=some (if((false||(l.drop (k+1)).any fun x=>!q2r x))=true then 40 else if(tw||(qjo l k||dupR l m (k+1)))=true then 41 else 0,());rw[Bool.false_or,Bool.or_assoc]
theorem qo4(n:Bool){l:List Fix1}(h:gL l):f_bz (⟨n,l⟩,())=some (q8b l,()):=by
 rw[u_bz,q0h];unfold q8b;by_cases h4:400<l.length
 ·rw[if_pos (by show(400:Int)<(l.length:Int);omega),if_pos (.inl h4)]
 ·rw[if_neg (by show ¬(400:Int)<(l.length:Int);omega)];have:=qo3 n h l.length 0 false (by omega);rw[List.drop_zero,Bool.false_or] at this;refine this.trans ?_;cases ha:l.any (fun x=>!q2r x) with
  |true=>rw[if_pos rfl,if_pos (.inr rfl)]
  |false=>simp only[Bool.false_eq_true,or_false,h4,if_false]
end Fn
end Ev
namespace Ev
namespace Pz
abbrev Tx:=List Int
abbrev ND:=Int×Tx×Int×Int
abbrev Tk:=Int×Tx×Int×Int
abbrev PR(α:Type):=Except (Int×Int) α
structure PC where
 l:List Tk
 e:Int
 fx:Tx->Bool
 cl:List Tx->Option (List Int)
def eb{α β:Type}(x:PR α)(f:α->PR β):PR β:=match x with
 |.ok a=>f a
 |.error e=>.error e
variable (c:PC)
def plc(i:Nat):Int:=match c.l[i]? with
 |some t=>t.2.2.2
 |none=>c.e
def txt(i:Nat):Tx:=match c.l[i]? with
 |some t=>t.2.1
 |none=>[]
def num(i:Nat):Int:=match c.l[i]? with
 |some t=>t.2.2.1
 |none=>0
def isT(i:Nat)(k:Int):Bool:=match c.l[i]? with
 |some t=>decide (t.1=k)
 |none=>false
def isK(i:Nat)(ks:List Tx):Bool:=match c.l[i]? with
 |some t=>decide (t.1=6)&&decide (t.2.1∈ks)
 |none=>false
def kFun:Tx:=[102,117,110]
def kLet:Tx:=[108,101,116]
def kIf:Tx:=[105,102]
def kRaise:Tx:=[114,97,105,115,101]
def kTry:Tx:=[116,114,121]
def kRec:Tx:=[114,101,99]
def qi8:Tx:=[45,62]
def kEq:Tx:=[61]
def kIn:Tx:=[105,110]
def kThen:Tx:=[116,104,101,110]
def kElse:Tx:=[101,108,115,101]
def kMatch:Tx:=[109,97,116,99,104]
def kWith:Tx:=[119,105,116,104]
def kEnd:Tx:=[101,110,100]
def kBar:Tx:=[124]
def kL:Tx:=[40]
def kR:Tx:=[41]
def kAny:Tx:=[95]
def nd(k:Int)(s:Tx)(kids:List (List ND)):List ND:=(k,s,0,(kids.length:Int))::kids.flatten
def keyP(i:Nat)(s:Tx):PR Nat:=bif isK c i [s] then .ok (i+1) else .error (plc c i,70)
def qsm(i:Nat):PR (Tx×Nat):=
 bif isT c i 1 then .ok (txt c i,i+1) else
 bif isK c i [kL]&&isT c (i+1) 5 then eb (keyP c (i+2) kR) fun a=>.ok (txt c (i+1),a) else
 bif isK c i [kL] then .error (plc c (i+1),70) else .error (plc c i,70)
abbrev PT:=Nat->PR (List ND×Nat)
def qq6(self:PT):PT:=fun i=>
 bif isK c i [kAny] then .ok (nd 21 [] [],i+1) else
 bif isT c i 3 then .ok ([(23,[],num c i,0)],i+1) else
 bif isT c i 2 then .ok (nd 24 (txt c i) [],i+1) else
 bif isK c i [kL]&&!isT c (i+1) 5 then eb (self (i+1)) fun p=>eb (keyP c p.2 kR) fun a=>.ok (p.1,a) else
 eb (qsm c i) fun s=>.ok (nd 22 s.1 [],s.2)
def qw6(self:PT):Nat->Nat->List (List ND)->PR (List (List ND)×Nat)
 |0,i,acc=>.ok (acc,i)
 |f+1,i,acc=>bif isT c i 3||(isT c i 2||(isT c i 1||isK c i [kAny,kL])) then eb (qq6 c self i) fun p=>qw6 self f p.2 (acc++[p.1]) else .ok (acc,i)
def patP(self:PT):PT:=fun i=>bif isT c i 2 then eb (qw6 c self (c.l.length+1) (i+1) []) fun p=>.ok (nd 24 (txt c i) p.1,p.2) else qq6 c self i
def dpat:Nat->PT
 |0=>fun i=>.error (plc c i,73)
 |d+1=>patP c (dpat d)
def behP(self:PT)(i:Nat)(s:Tx):PR (List ND×Nat):=eb (keyP c i s) self
def z0w(i:Nat):Bool:=isT c i 3||(isT c i 4||(isT c i 1||(isT c i 2||isK c i [kL,kMatch])))
def qw7(self selfp:PT):Nat->Nat->List (List ND)->PR (List (List ND)×Nat)
 |0,i,acc=>.ok (acc,i)
 |f+1,i,acc=>eb (selfp i) fun p=>eb (behP c self p.2 qi8) fun b=>bif isK c b.2 [kBar] then qw7 self selfp f (b.2+1) (acc++[p.1,b.1]) else .ok (acc++[p.1,b.1],b.2)
def qq7(self selfp:PT):PT:=fun i=>eb (self i) fun x=>eb (keyP c x.2 kWith) fun a=>eb (qw7 c self selfp (c.l.length+1) a [x.1]) fun r=>eb (keyP c r.2 kEnd) fun a2=>.ok (nd 10 [] r.1,a2)
def qzo(self selfp:PT):PT:=fun i=>
 bif z0w c i then
  bif isT c i 3 then .ok ([(1,[],num c i,0)],i+1) else
  bif isT c i 4 then .ok (nd 2 (txt c i) [],i+1) else
  bif isT c i 1 then .ok (nd 3 (txt c i) [],i+1) else
  bif isT c i 2 then .ok (nd 4 (txt c i) [],i+1) else
  bif decide (txt c i=kMatch) then qq7 c self selfp (i+1) else
  bif isT c (i+1) 5 then eb (keyP c (i+2) kR) fun a=>.ok (nd 3 (txt c (i+1)) [],a) else
  eb (self (i+1)) fun x=>eb (keyP c x.2 kR) fun a=>.ok (x.1,a)
 else .error (plc c i,70)
def qzp(self selfp:PT):Nat->Nat->List ND->PR (List ND×Nat)
 |0,i,l=>.ok (l,i)
 |f+1,i,l=>bif z0w c i then eb (qzo c self selfp i) fun m=>qzp self selfp f m.2 (nd 6 [] [l,m.1]) else .ok (l,i)
def appP(self selfp:PT):PT:=fun i=>eb (qzo c self selfp i) fun x=>qzp c self selfp (c.l.length+1) x.2 x.1
structure Row where
 apps:List (List ND)
 ops:List Tx
 at_:List Int
def opsP(self selfp:PT):Nat->Nat->Row->PR (Row×Nat)
 |0,i,r=>.ok (r,i)
 |f+1,i,r=>bif isT c i 5 then eb (appP c self selfp (i+1)) fun x=>opsP self selfp f x.2 ⟨r.apps++[x.1],r.ops++[txt c i],r.at_++[plc c i]⟩ else .ok (r,i)
def bld(apps:List (List ND))(ops:List Tx):Nat->List Int->List ND×List Int
 |_,[]=>([],[])
 |0,x=>([],x)
 |f+1,k::x=>if k<0 then((apps[(-1-k).toNat]?).getD [],x) else
  let a:=bld apps ops f x;let b:=bld apps ops f a.2
  (nd 6 [] [nd 6 [] [nd 3 ((ops[k.toNat]?).getD []) [],a.1],b.1],b.2)
def qw8:List Tx->List Int->Option Int
 |s::ops,p::ps=>bif c.fx s then qw8 ops ps else some p
 |_,_=>none
def rowE(first:Int)(r:Row)(i:Nat):PR (List ND×Nat):=
 if r.ops=[] then .ok ((r.apps[0]?).getD [],i) else
 match qw8 c r.ops r.at_ with
 |some p=>.error (p,71)
 |none=>match c.cl r.ops with
  |none=>.error (first,72)
  |some x=>.ok ((bld r.apps r.ops x.length x).1,i)
def rowP(self selfp:PT):PT:=fun i=>eb (appP c self selfp i) fun x=>eb (opsP c self selfp (c.l.length+1) x.2 ⟨[x.1],[],[]⟩) fun r=>rowE c (plc c i) r.1 r.2
def z32(self selfp:PT):PT:=fun i=>
 bif isK c i [kFun,kLet,kIf,kRaise,kTry] then
  bif decide (txt c i=kFun) then eb (qsm c (i+1)) fun s=>eb (behP c self s.2 qi8) fun x=>.ok (nd 5 s.1 [x.1],x.2) else
  bif decide (txt c i=kLet) then eb (qsm c (bif isK c (i+1) [kRec] then i+2 else i+1)) fun s=>eb (behP c self s.2 kEq) fun x=>eb (behP c self x.2 kIn) fun y=>.ok (nd (bif isK c (i+1) [kRec] then 8 else 7) s.1 [x.1,y.1],y.2) else
  bif decide (txt c i=kIf) then eb (self (i+1)) fun x=>eb (behP c self x.2 kThen) fun y=>eb (behP c self y.2 kElse) fun z=>.ok (nd 9 [] [x.1,y.1,z.1],z.2) else
  bif decide (txt c i=kRaise) then eb (self (i+1)) fun x=>.ok (nd 11 [] [x.1],x.2) else
  eb (self (i+1)) fun x=>eb (keyP c x.2 kWith) fun a=>eb (qsm c a) fun s=>eb (behP c self s.2 qi8) fun y=>.ok (nd 12 s.1 [x.1,y.1],y.2)
 else rowP c self selfp i
def dexp:Nat->PT
 |0=>fun i=>.error (plc c i,73)
 |d+1=>z32 c (dexp d) (dpat c d)
def allP:PR (List ND):=eb (dexp c 100 0) fun x=>if x.2<c.l.length then .error (plc c x.2,70) else .ok x.1
end Pz
end Ev

namespace Ev
namespace Pz
section
variable (b:Int) (c:PC)
variable {b} {self self' selfp selfp':PT}
end
end Pz
end Ev

namespace Ev
namespace Pz
inductive Bt:Nat->Nat->List Int->Prop
 |leaf (a:Nat):Bt a a [-1-(a:Int)]
 |node (a r b:Nat) (x y:List Int):a<=r->r<b->Bt a r x->Bt (r+1) b y->Bt a b ((r:Int)::(x++y))
theorem Bt.le{a b:Nat}{x:List Int}(h:Bt a b x):a<=b:=by
 cases h with
 |leaf=>exact Nat.le_refl _
 |node _ r _ _ _ h1 h2=>omega
def tot(l:List (List ND)):Nat:=l.flatten.length+l.length
theorem qd8(l:List (List ND))(a:List ND):tot (l++[a])=tot l+(a.length+1):=by unfold tot;simp only[List.flatten_append,List.flatten_cons,List.flatten_nil,zh,zm,List.length_nil];omega
theorem qc0(k:Int)(s:Tx)(kids:List (List ND)):(nd k s kids).length=kids.flatten.length+1:=by simp[nd]
def seg(apps:List (List ND))(a b:Nat):List (List ND):=(apps.take (b+1)).drop a
theorem z33{apps:List (List ND)}{a:Nat}(h:a<apps.length):seg apps a a=[apps[a]]:=by
 unfold seg;apply List.ext_getElem
 ·simp only[zR,zN,zm,List.length_nil];omega
 ·intro i h1 h2;simp only[zm,List.length_nil] at h2;obtain rfl:i=0:=by omega
  simp
theorem z34{apps:List (List ND)}{a r b:Nat}(h1:a<=r)(h2:r<b)(h3:b<apps.length):seg apps a b=seg apps a r++seg apps (r+1) b:=by
 unfold seg;apply List.ext_getElem
 ·simp only[zh,zR,zN];omega
 ·intro i g1 g2;simp only[zR,zN] at g1;rw[List.getElem_append];split
  ·next h=>simp
  ·next h=>simp only[zR,zN] at h;simp only[List.getElem_drop,List.getElem_take,zR,zN];congr 1;omega
theorem z4v{apps:List (List ND)}{ops:List Tx}{P:ND->Prop}(hP:∀a,a∈apps->∀d,d∈a->P d)(hv:∀s,s∈ops->P (3,s,0,0))(hn:P (6,[],0,2)):∀{a b:Nat} {x:List Int},Bt a b x->b<apps.length->b<=ops.length->∀(f:Nat) (post:List Int),x.length<=f->∃t,bld apps ops f (x++post)=(t,post)/\t.length=(seg apps a b).flatten.length+3*(b-a)/\∀d,d∈t->P d:=by
 intro a b x h
 induction h with
 |leaf a=>
  intro h1 h2 f post hf;obtain⟨f,rfl⟩:∃g,f=g+1:=⟨f-1,by simp only[zm,List.length_nil] at hf;omega⟩;refine⟨apps[a],?_,?_,hP _ (List.getElem_mem h1)⟩
  ·show(if -1-(a:Int)<0 then((apps[(-1-(-1-(a:Int))).toNat]?).getD [],post) else _)=_;rw[if_pos (by omega)];have e:(-1-(-1-(a:Int))).toNat=a:=by omega
   rw[e,zj h1];rfl
  ·rw[z33 h1];simp
 |node a r b x y g1 g2 hx hy ihx ihy=>
  intro h1 h2 f post hf;simp only[zm,zh] at hf;obtain⟨f,rfl⟩:∃g,f=g+1:=⟨f-1,by omega⟩;obtain⟨t1,e1,l1,p1⟩:=ihx (by omega) (by omega) f (y++post) (by omega);obtain⟨t2,e2,l2,p2⟩:=ihy h1 h2 f post (by omega);have hr:r<ops.length:=by omega
  have hg:(ops[((r:Int)).toNat]?).getD []=ops[r]:=by rw[Int.toNat_natCast,zj hr];rfl
  refine⟨nd 6 [] [nd 6 [] [nd 3 (ops[r]) [],t1],t2],?_,?_,?_⟩
  ·show(if(r:Int)<0 then _ else(nd 6 [] [nd 6 [] [nd 3 ((ops[((r:Int)).toNat]?).getD []) [],(bld apps ops f ((x++y)++post)).1],(bld apps ops f (bld apps ops f ((x++y)++post)).2).1],(bld apps ops f (bld apps ops f ((x++y)++post)).2).2))=_;rw[if_neg (by omega),zt,e1];simp only;rw[e2,hg]
  ·have:=hy.le;rw[z34 g1 g2 h1];simp only[qc0,List.flatten_cons,List.flatten_nil,zh,List.flatten_append,List.length_nil];omega
  ·intro d hd;simp only[nd,List.flatten_cons,List.flatten_nil,zo,zm,List.length_nil,zn,zO,List.cons_append,List.nil_append] at hd;rcases hd with hd|hd|hd|hd|hd
   ·rw[hd];exact hn
   ·rw[hd];exact hn
   ·rw[hd];exact hv _ (List.getElem_mem hr)
   ·exact p1 d hd
   ·exact p2 d hd
def EOk(E:Int)(e:Int×Int):Prop:=(0<=e.1/\e.1<=E)/\70<=e.2/\e.2<=73
def Oks{α:Type}(E:Int)(A:α->Prop)(x:PR α):Prop:=match x with
 |.ok a=>A a
 |.error e=>EOk E e
theorem Oks.eb{α β:Type}{E:Int}{A:α->Prop}{B:β->Prop}{x:PR α}{f:α->PR β}(hx:Oks E A x)(h:∀a,A a->Oks E B (f a)):Oks E B (eb x f):=by
 cases x with
 |ok a=>exact h a hx
 |error e=>exact hx
theorem Oks.bif{α:Type}{E:Int}{A:α->Prop}{t:Bool}{x y:PR α}(hx:t=true->Oks E A x)(hy:t=false->Oks E A y):Oks E A (bif t then x else y):=by
 cases t with
 |true=>exact hx rfl
 |false=>exact hy rfl
theorem Oks.ok{α:Type}{E:Int}{A:α->Prop}{a:α}(h:A a):Oks E A (.ok a):=h
structure Inp (c:PC) (E:Int) (Q:Tx->Prop) (N:Int->Prop):Prop where
 tk:∀t,t∈c.l->Q t.2.1/\N t.2.2.1/\0<=t.2.2.2/\t.2.2.2<=E
 e0:0<=c.e
 e1:c.e<=E
 q0:Q []
 n0:N 0
 cl:∀ops x,c.cl ops=some x->Bt 0 ops.length x
section
variable {c:PC} {E:Int} {Q:Tx→Prop} {N:Int→Prop}
def GN(Q:Tx->Prop)(N:Int->Prop)(d:ND):Prop:=Q d.2.1/\N d.2.2.1
def GLs(Q:Tx->Prop)(N:Int->Prop)(l:List ND):Prop:=∀d,d∈l->GN Q N d
variable (c Q N) in
def AN(i:Nat)(x:List ND×Nat):Prop:=i<x.2/\x.2<=c.l.length/\x.1.length+1<=3*(x.2-i)/\GLs Q N x.1
theorem GLs.nd{k:Int}{s:Tx}{kids:List (List ND)}(hi:N 0)(hs:Q s)(h:GLs Q N kids.flatten):GLs Q N (nd k s kids):=by
 intro d hd;unfold Pz.nd at hd;rcases zn.1 hd with hd|hd
 ·rw[hd];exact⟨hs,hi⟩
 ·exact h d hd
theorem GLs.nil:GLs Q N []:=fun _ h=>absurd h (List.not_mem_nil)
theorem GLs.app{a b:List ND}(h1:GLs Q N a)(h2:GLs Q N b):GLs Q N (a++b):=fun d hd=>(zO.1 hd).elim (h1 d) (h2 d)
theorem GLs.one{a:List ND}(h1:GLs Q N a):GLs Q N [a].flatten:=by rw[List.flatten_cons,List.flatten_nil,zo];exact h1
theorem GLs.two{a b:List ND}(h1:GLs Q N a)(h2:GLs Q N b):GLs Q N [a,b].flatten:=by rw[List.flatten_cons];exact h1.app h2.one
theorem GLs.three{a b d:List ND}(h1:GLs Q N a)(h2:GLs Q N b)(h3:GLs Q N d):GLs Q N [a,b,d].flatten:=by rw[List.flatten_cons];exact h1.app (h2.two h3)
theorem GLs.snoc{l:List (List ND)}{a:List ND}(h1:GLs Q N l.flatten)(h2:GLs Q N a):GLs Q N (l++[a]).flatten:=by rw[List.flatten_append];exact h1.app h2.one
variable (H:Inp c E Q N)
include H
theorem qw9(i:Nat):0<=plc c i/\plc c i<=E:=by
 unfold plc;cases h:c.l[i]? with
 |none=>exact⟨H.e0,H.e1⟩
 |some t=>exact(H.tk t (zP h)).2.2
theorem qgc{α:Type}{A:α->Prop}(i:Nat){k:Int}(h1:70<=k)(h2:k<=73):Oks E A (.error (plc c i,k):PR α):=⟨qw9 H i,h1,h2⟩
theorem qc1(i:Nat):Q (txt c i):=by
 unfold txt;cases h:c.l[i]? with
 |none=>exact H.q0
 |some t=>exact(H.tk t (zP h)).1
theorem z0x(i:Nat):N (num c i):=by
 unfold num;cases h:c.l[i]? with
 |none=>exact H.n0
 |some t=>exact(H.tk t (zP h)).2.1
omit H in
theorem qdr{i:Nat}{k:Int}(h:isT c i k=true):i<c.l.length:=by
 unfold isT at h;cases e:c.l[i]? with
 |none=>rw[e] at h;cases h
 |some t=>exact(zG.1 e).1
omit H in
theorem qwa{i:Nat}{k:List Tx}(h:isK c i k=true):i<c.l.length:=by
 unfold isK at h;cases e:c.l[i]? with
 |none=>rw[e] at h;cases h
 |some t=>exact(zG.1 e).1
theorem qds(i:Nat)(s:Tx):Oks E (fun j=>j=i+1/\i<c.l.length) (keyP c i s):=by unfold keyP;exact Oks.bif (fun h=>⟨rfl,qwa h⟩) fun _=>qgc H i (by decide) (by decide)
theorem qjp(i:Nat):Oks E (fun x=>Q x.1/\i<x.2/\x.2<=c.l.length) (qsm c i):=by unfold qsm;refine Oks.bif (fun h=>⟨qc1 H i,Nat.lt_succ_self _,qdr h⟩) fun _=>Oks.bif (fun h=>?_) fun _=>Oks.bif (fun _=>qgc H _ (by decide) (by decide)) fun _=>qgc H _ (by decide) (by decide);refine(qds H (i+2) kR).eb fun a ha=>?_;exact⟨qc1 H _,by simp only;omega,by simp only;omega⟩
variable {self selfp:PT}
theorem qq8(h:∀i,Oks E (AN c Q N i) (self i))(i:Nat):Oks E (AN c Q N i) (qq6 c self i):=by
 unfold qq6;refine Oks.bif (fun t=>?_) fun _=>Oks.bif (fun t=>?_) fun _=>Oks.bif (fun t=>?_) fun _=>Oks.bif (fun t=>?_) fun _=>?_
 ·have:=qwa t;refine Oks.ok ⟨Nat.lt_succ_self _,this,?_,GLs.nd H.n0 H.q0 GLs.nil⟩;show 2<=3*(i+1-i);omega
 ·have:=qdr t;refine Oks.ok ⟨Nat.lt_succ_self _,this,?_,fun d hd=>?_⟩
  ·show 2<=3*(i+1-i);omega
  ·rw[zQ.1 hd];exact⟨H.q0,z0x H i⟩
 ·have:=qdr t;refine Oks.ok ⟨Nat.lt_succ_self _,this,?_,GLs.nd H.n0 (qc1 H i) GLs.nil⟩;show 2<=3*(i+1-i);omega
 ·refine(h (i+1)).eb fun p hp=>(qds H p.2 kR).eb fun a ha=>?_;obtain⟨h1,h2,h3,h4⟩:=hp;refine Oks.ok ⟨by simp only;omega,by simp only;omega,?_,h4⟩;show p.1.length+1<=3*(a-i);omega
 ·refine(qjp H i).eb fun s hs=>?_;obtain⟨h1,h2,h3⟩:=hs;refine Oks.ok ⟨h2,h3,?_,GLs.nd H.n0 h1 GLs.nil⟩;show 2<=3*(s.2-i);omega
theorem qwb(h:∀i,Oks E (AN c Q N i) (self i)):∀(f i:Nat) (acc:List (List ND)),i<=c.l.length->GLs Q N acc.flatten->Oks E (fun x=>i<=x.2/\x.2<=c.l.length/\tot x.1<=tot acc+3*(x.2-i)/\GLs Q N x.1.flatten) (qw6 c self f i acc)
 |0,i,acc,hi,hg=>⟨Nat.le_refl _,hi,by simp only;omega,hg⟩
 |f+1,i,acc,hi,hg=>by
  unfold qw6;refine Oks.bif (fun t=>?_) fun _=>⟨Nat.le_refl _,hi,by simp only;omega,hg⟩;refine(qq8 H h i).eb fun p hp=>?_;obtain⟨h1,h2,h3,h4⟩:=hp;have r:=qwb h f p.2 (acc++[p.1]) h2 (hg.snoc h4);revert r;cases qw6 c self f p.2 (acc++[p.1]) with
  |error e=>exact id
  |ok x=>rintro⟨r1,r2,r3,r4⟩;rw[qd8] at r3;exact⟨by omega,r2,by omega,r4⟩
theorem z4w(h:∀i,Oks E (AN c Q N i) (self i))(i:Nat):Oks E (AN c Q N i) (patP c self i):=by unfold patP;refine Oks.bif (fun t=>?_) fun _=>qq8 H h i;refine(qwb H h _ (i+1) [] (qdr t) GLs.nil).eb fun p hp=>?_;obtain⟨h1,h2,h3,h4⟩:=hp;refine Oks.ok ⟨by simp only;omega,h2,?_,GLs.nd H.n0 (qc1 H i) h4⟩;show(nd _ _ _).length+1<=_;rw[qc0];have:tot ([]:List (List ND))=0:=rfl;unfold tot at h3;simp only at h3 ⊢;simp only[List.flatten_nil,List.length_nil] at h3;omega
theorem qwc:∀(d i:Nat),Oks E (AN c Q N i) (dpat c d i)
 |0,i=>qgc H i (by decide) (by decide)
 |d+1,i=>z4w H (qwc d) i
theorem qgd(h:∀i,Oks E (AN c Q N i) (self i))(i:Nat)(s:Tx):Oks E (fun x=>AN c Q N (i+1) x) (behP c self i s):=by unfold behP;refine(qds H i s).eb fun a ha=>?_;rw[ha.1];exact h (i+1)
theorem qwd(h:∀i,Oks E (AN c Q N i) (self i))(hp:∀i,Oks E (AN c Q N i) (selfp i)):∀(f i:Nat) (acc:List (List ND)),i<=c.l.length->GLs Q N acc.flatten->Oks E (fun x=>i<=x.2/\x.2<=c.l.length/\tot x.1<=tot acc+3*(x.2-i)/\GLs Q N x.1.flatten) (qw7 c self selfp f i acc)
 |0,i,acc,hi,hg=>⟨Nat.le_refl _,hi,by simp only;omega,hg⟩
 |f+1,i,acc,hi,hg=>by
  unfold qw7;refine(hp i).eb fun p ⟨p1,p2,p3,p4⟩=>(qgd H h p.2 qi8).eb fun b ⟨b1,b2,b3,b4⟩=>?_;have e:acc++[p.1,b.1]=acc++[p.1]++[b.1]:=by simp
  refine Oks.bif (fun t=>?_) fun _=>?_
  ·have:=qwa t;have r:=qwd h hp f (b.2+1) (acc++[p.1,b.1]) (by omega) (by rw[e];exact(hg.snoc p4).snoc b4);revert r;cases qw7 c self selfp f (b.2+1) (acc++[p.1,b.1]) with
   |error e=>exact id
   |ok x=>rintro⟨r1,r2,r3,r4⟩;rw[e,qd8,qd8] at r3;exact⟨by omega,r2,by omega,r4⟩
  ·refine Oks.ok ⟨by simp only;omega,b2,?_,?_⟩
   ·simp only;rw[e,qd8,qd8];omega
   ·simp only;rw[e];exact(hg.snoc p4).snoc b4
theorem qzq(h:∀i,Oks E (AN c Q N i) (self i))(hp:∀i,Oks E (AN c Q N i) (selfp i))(i:Nat):Oks E (AN c Q N i) (qq7 c self selfp i):=by
 unfold qq7;refine(h i).eb fun x ⟨x1,x2,x3,x4⟩=>(qds H x.2 kWith).eb fun a ⟨a1,a2⟩=>?_;refine(qwd H h hp _ a [x.1] (by omega) x4.one).eb fun r ⟨r1,r2,r3,r4⟩=>(qds H r.2 kEnd).eb fun b ⟨b1,b2⟩=>?_;refine Oks.ok ⟨by simp only;omega,by simp only;omega,?_,GLs.nd H.n0 H.q0 r4⟩;show(nd _ _ _).length+1<=_;rw[qc0];have e:tot [x.1]=x.1.length+1:=by unfold tot;simp
 rw[e] at r3;unfold tot at r3;simp only at r3 ⊢;omega
theorem qwe(h:∀i,Oks E (AN c Q N i) (self i))(hp:∀i,Oks E (AN c Q N i) (selfp i))(i:Nat):Oks E (AN c Q N i) (qzo c self selfp i):=by
 unfold qzo;refine Oks.bif (fun _=>?_) fun _=>qgc H i (by decide) (by decide);refine Oks.bif (fun t=>?_) fun _=>Oks.bif (fun t=>?_) fun _=>Oks.bif (fun t=>?_) fun _=>Oks.bif (fun t=>?_) fun _=>Oks.bif (fun t=>?_) fun _=>Oks.bif (fun t=>?_) fun _=>?_
 ·have:=qdr t;refine Oks.ok ⟨Nat.lt_succ_self _,this,?_,fun d hd=>?_⟩
  ·show 2<=3*(i+1-i);omega
  ·rw[zQ.1 hd];exact⟨H.q0,z0x H i⟩
 ·have:=qdr t;refine Oks.ok ⟨Nat.lt_succ_self _,this,?_,GLs.nd H.n0 (qc1 H i) GLs.nil⟩;show 2<=3*(i+1-i);omega
 ·have:=qdr t;refine Oks.ok ⟨Nat.lt_succ_self _,this,?_,GLs.nd H.n0 (qc1 H i) GLs.nil⟩;show 2<=3*(i+1-i);omega
 ·have:=qdr t;refine Oks.ok ⟨Nat.lt_succ_self _,this,?_,GLs.nd H.n0 (qc1 H i) GLs.nil⟩;show 2<=3*(i+1-i);omega
 ·have r:=qzq H h hp (i+1);revert r;cases qq7 c self selfp (i+1) with
  |error e=>exact id
  |ok x=>rintro⟨r1,r2,r3,r4⟩;exact⟨by omega,r2,by omega,r4⟩
 ·refine(qds H (i+2) kR).eb fun a ⟨a1,a2⟩=>?_;refine Oks.ok ⟨by simp only;omega,by simp only;omega,?_,GLs.nd H.n0 (qc1 H _) GLs.nil⟩;show 2<=3*(a-i);omega
 ·refine(h (i+1)).eb fun x ⟨x1,x2,x3,x4⟩=>(qds H x.2 kR).eb fun a ⟨a1,a2⟩=>?_;refine Oks.ok ⟨by simp only;omega,by simp only;omega,?_,x4⟩;show x.1.length+1<=3*(a-i);omega
theorem qwf(h:∀i,Oks E (AN c Q N i) (self i))(hp:∀i,Oks E (AN c Q N i) (selfp i))(i0:Nat):∀(f i:Nat) (l:List ND),AN c Q N i0 (l,i)->Oks E (AN c Q N i0) (qzp c self selfp f i l)
 |0,i,l,hl=>hl
 |f+1,i,l,hl=>by
  unfold qzp;refine Oks.bif (fun _=>?_) fun _=>hl;refine(qwe H h hp i).eb fun m ⟨m1,m2,m3,m4⟩=>?_;obtain⟨l1,l2,l3,l4⟩:=hl;refine qwf h hp i0 f m.2 _ ⟨by simp only at*;omega,m2,?_,GLs.nd H.n0 H.q0 (l4.two m4)⟩;show(nd _ _ _).length+1<=_;rw[qc0];simp only[List.flatten_cons,List.flatten_nil,zo,zh];simp only at*
  omega
theorem z0y(h:∀i,Oks E (AN c Q N i) (self i))(hp:∀i,Oks E (AN c Q N i) (selfp i))(i:Nat):Oks E (AN c Q N i) (appP c self selfp i):=by unfold appP;exact(qwe H h hp i).eb fun x hx=>qwf H h hp i _ x.2 x.1 hx
omit H in
variable (c E Q N) in
structure RI (i0 i:Nat) (r:Row):Prop where
 n1:r.apps.length=r.ops.length+1
 n2:r.at_.length=r.ops.length
 m:tot r.apps+3*r.ops.length<=3*(i-i0)
 gt:i0<i
 le:i<=c.l.length
 g1:∀a,a∈r.apps->∀d,d∈a->GN Q N d
 g2:∀s,s∈r.ops->Q s
 g3:∀p,p∈r.at_->0<=p/\p<=E
theorem z0z(h:∀i,Oks E (AN c Q N i) (self i))(hp:∀i,Oks E (AN c Q N i) (selfp i))(i0:Nat):∀(f i:Nat) (r:Row),RI c E Q N i0 i r->Oks E (fun x=>RI c E Q N i0 x.2 x.1) (opsP c self selfp f i r)
 |0,i,r,hr=>hr
 |f+1,i,r,hr=>by
  unfold opsP;refine Oks.bif (fun t=>?_) fun _=>hr;refine(z0y H h hp (i+1)).eb fun x ⟨x1,x2,x3,x4⟩=>z0z h hp i0 f x.2 _ ?_;have:=hr.gt;have hm:=hr.m;refine⟨?_,?_,?_,by omega,x2,?_,?_,?_⟩
  ·simp only[zh,zm,List.length_nil,hr.n1]
  ·simp only[zh,zm,List.length_nil,hr.n2]
  ·simp only[qd8,zh,zm,List.length_nil];omega
  ·intro a ha;rcases zO.1 ha with ha|ha
   ·exact hr.g1 a ha
   ·rw[zQ.1 ha];exact x4
  ·intro a ha;rcases zO.1 ha with ha|ha
   ·exact hr.g2 a ha
   ·rw[zQ.1 ha];exact qc1 H i
  ·intro a ha;rcases zO.1 ha with ha|ha
   ·exact hr.g3 a ha
   ·rw[zQ.1 ha];exact qw9 H i
omit H in
theorem qm7:∀(ops:List Tx) (ps:List Int) (p:Int),qw8 c ops ps=some p->p∈ps
 |[],ps,p,h=>by cases ps<;>cases h
 |s::ops,[],p,h=>by cases h
 |s::ops,q::ps,p,h=>by
  have h:(bif c.fx s then qw8 c ops ps else some q)=some p:=h;cases e:c.fx s with
  |true=>rw[e] at h;exact zg _ (qm7 ops ps p h)
  |false=>rw[e] at h;injection h with h;rw[h];exact ze ..
theorem z35{i0 i:Nat}{r:Row}(hr:RI c E Q N i0 i r){first:Int}(h1:0<=first/\first<=E):Oks E (AN c Q N i0) (rowE c first r i):=by
 have hm:=hr.m;have hn:=hr.n1;have hg:=hr.gt;unfold rowE;by_cases h0:r.ops=[]
 ·rw[if_pos h0];have hl:r.apps.length=1:=by rw[hn,h0];rfl
  match ha:r.apps,hl with
  |[a],_=>
   rw[ha,h0] at hm;have e:tot [a]=a.length+1:=by unfold tot;simp
   rw[e] at hm;simp only[List.length_nil] at hm;refine Oks.ok ⟨hg,hr.le,?_,hr.g1 a (by rw[ha];exact zQ.2 rfl)⟩;show a.length+1<=_;simp only;omega
 ·rw[if_neg h0];cases hf:qw8 c r.ops r.at_ with
  |some p=>exact⟨hr.g3 p (qm7 _ _ _ hf),(by decide:(70:Int)<=71),(by decide:(71:Int)<=73)⟩
  |none=>
   cases hc:c.cl r.ops with
   |none=>exact⟨h1,(by decide:(70:Int)<=72),(by decide:(72:Int)<=73)⟩
   |some x=>
    obtain⟨t,e1,e2,e3⟩:=z4v (P:=GN Q N) hr.g1 (fun s hs=>⟨hr.g2 s hs,H.n0⟩) ⟨H.q0,H.n0⟩ (H.cl _ _ hc) (by omega) (Nat.le_refl _) x.length [] (Nat.le_refl _);rw[zo] at e1;show Oks E (AN c Q N i0) (.ok ((bld r.apps r.ops x.length x).1,i));rw[e1];refine Oks.ok ⟨hg,hr.le,?_,e3⟩;have es:seg r.apps 0 r.ops.length=r.apps:=by unfold seg;rw[List.drop_zero,zX (by omega)]
    rw[es] at e2;unfold tot at hm;simp only;omega
theorem z4x(h:∀i,Oks E (AN c Q N i) (self i))(hp:∀i,Oks E (AN c Q N i) (selfp i))(i:Nat):Oks E (AN c Q N i) (rowP c self selfp i):=by
 unfold rowP;refine(z0y H h hp i).eb fun x ⟨x1,x2,x3,x4⟩=>(z0z H h hp i _ x.2 ⟨[x.1],[],[]⟩ ?_).eb fun r hr=>z35 H hr (qw9 H i);have e:tot [x.1]=x.1.length+1:=by unfold tot;simp
 refine⟨rfl,rfl,?_,x1,x2,?_,(fun _ h=>absurd h (List.not_mem_nil)),(fun _ h=>absurd h (List.not_mem_nil))⟩
 ·simp only[e,List.length_nil];omega
 ·intro a ha;rw[zQ.1 ha];exact x4
theorem z36(h:∀i,Oks E (AN c Q N i) (self i))(hp:∀i,Oks E (AN c Q N i) (selfp i))(i:Nat):Oks E (AN c Q N i) (z32 c self selfp i):=by
 unfold z32;refine Oks.bif (fun _=>?_) fun _=>z4x H h hp i;refine Oks.bif (fun _=>?_) fun _=>Oks.bif (fun _=>?_) fun _=>Oks.bif (fun _=>?_) fun _=>Oks.bif (fun _=>?_) fun _=>?_
 ·refine(qjp H (i+1)).eb fun s ⟨s1,s2,s3⟩=>(qgd H h s.2 qi8).eb fun x ⟨x1,x2,x3,x4⟩=>?_;refine Oks.ok ⟨by simp only;omega,x2,?_,GLs.nd H.n0 s1 x4.one⟩;show(nd _ _ _).length+1<=_;rw[qc0];simp only[List.flatten_cons,List.flatten_nil,zo];omega
 ·refine(qjp H _).eb fun s ⟨s1,s2,s3⟩=>(qgd H h s.2 kEq).eb fun x ⟨x1,x2,x3,x4⟩=>(qgd H h x.2 kIn).eb fun y ⟨y1,y2,y3,y4⟩=>?_;have hs:i+1<s.2:=by revert s2;cases isK c (i+1) [kRec]<;>simp only[cond_true,cond_false]<;>omega
  refine Oks.ok ⟨by simp only;omega,y2,?_,GLs.nd H.n0 s1 (x4.two y4)⟩;show(nd _ _ _).length+1<=_;rw[qc0];simp only[List.flatten_cons,List.flatten_nil,zo,zh];omega
 ·refine(h (i+1)).eb fun x ⟨x1,x2,x3,x4⟩=>(qgd H h x.2 kThen).eb fun y ⟨y1,y2,y3,y4⟩=>(qgd H h y.2 kElse).eb fun z ⟨z1,z2,z3,z4⟩=>?_;refine Oks.ok ⟨by simp only;omega,z2,?_,GLs.nd H.n0 H.q0 (x4.three y4 z4)⟩;show(nd _ _ _).length+1<=_;rw[qc0];simp only[List.flatten_cons,List.flatten_nil,zo,zh];omega
 ·refine(h (i+1)).eb fun x ⟨x1,x2,x3,x4⟩=>?_;refine Oks.ok ⟨by simp only;omega,x2,?_,GLs.nd H.n0 H.q0 x4.one⟩;show(nd _ _ _).length+1<=_;rw[qc0];simp only[List.flatten_cons,List.flatten_nil,zo];omega
 ·refine(h (i+1)).eb fun x ⟨x1,x2,x3,x4⟩=>(qds H x.2 kWith).eb fun a ⟨a1,a2⟩=>(qjp H a).eb fun s ⟨s1,s2,s3⟩=>(qgd H h s.2 qi8).eb fun y ⟨y1,y2,y3,y4⟩=>?_;refine Oks.ok ⟨by simp only;omega,y2,?_,GLs.nd H.n0 s1 (x4.two y4)⟩;show(nd _ _ _).length+1<=_;rw[qc0];simp only[List.flatten_cons,List.flatten_nil,zo,zh];omega
theorem qwg:∀(d i:Nat),Oks E (AN c Q N i) (dexp c d i)
 |0,i=>qgc H i (by decide) (by decide)
 |d+1,i=>z36 H (qwg d) (qwc H d) i
theorem all_ok:Oks E (fun l=>l.length+1<=3*c.l.length/\GLs Q N l) (allP c):=by
 unfold allP;refine(qwg H 100 0).eb fun x ⟨x1,x2,x3,x4⟩=>?_;split
 ·exact qgc H _ (by decide) (by decide)
 ·exact Oks.ok ⟨by omega,x4⟩
end
end Pz
end Ev

namespace Ev
namespace Pz
structure Emb (c c':PC) (off:Nat):Prop where
 g:∀i,i<c.l.length->∃t t',c.l[i]?=some t/\c'.l[i+off]?=some t'/\t'.1=t.1/\t'.2.1=t.2.1/\t'.2.2.1=t.2.2.1
 z:∃t',c'.l[c.l.length+off]?=some t'/\t'.1=6/\t'.2.1=kR
 fx:c'.fx=c.fx
 cl:c'.cl=c.cl
 le:c.l.length<=c'.l.length
def RR{α β:Type}(S:α->β->Prop)(r:PR α)(r':PR β):Prop:=match r with
 |.error _=>True
 |.ok a=>(∃w,r'=.error (w,73))\/∃b,r'=.ok b/\S a b
theorem RR.eb{α β α' β':Type}{S:α->β->Prop}{T:α'->β'->Prop}{r:PR α}{r':PR β}{f:α->PR α'}{f':β->PR β'}(h:RR S r r')(h2:∀a b,S a b->RR T (f a) (f' b)):RR T (eb r f) (eb r' f'):=by
 cases r with
 |error e=>trivial
 |ok a=>
  rcases h with ⟨w,rfl⟩|⟨b,rfl,hs⟩
  ·show RR T (f a) (.error (w,73));unfold RR;cases f a with
   |error e=>trivial
   |ok z=>exact .inl ⟨w,rfl⟩
  ·exact h2 a b hs
theorem RR.bif{α β:Type}{S:α->β->Prop}{t t':Bool}{x y:PR α}{x' y':PR β}(ht:t'=t)(hx:t=true->RR S x x')(hy:t=false->RR S y y'):RR S (bif t then x else y) (bif t' then x' else y'):=by
 subst ht;cases t' with
 |true=>exact hx rfl
 |false=>exact hy rfl
theorem RR.ok{α β:Type}{S:α->β->Prop}{a:α}{b:β}(h:S a b):RR S (.ok a) (.ok b):=.inr ⟨b,rfl,h⟩
theorem RR.mono{α β:Type}{S T:α->β->Prop}{r:PR α}{r':PR β}(h:RR S r r')(h2:∀a b,S a b->T a b):RR T r r':=by
 cases r with
 |error e=>trivial
 |ok a=>
  rcases h with h|⟨b,hb,hs⟩
  ·exact .inl h
  ·exact .inr ⟨b,hb,h2 a b hs⟩
section
variable {c c':PC} {off:Nat} (H:Emb c c' off)
variable (c off) in
include H
omit H in
variable {self self' selfp selfp':PT}
omit H in
end
end Pz
end Ev

namespace Ev
namespace Pz
theorem z5t{α β:Type}{x:PR α}{f:α->PR β}{b:β}(h:eb x f=.ok b):∃a,x=.ok a/\f a=.ok b:=by
 cases x with
 |ok a=>exact⟨a,rfl,h⟩
 |error e=>cases h
end Pz
end Ev

namespace Ev
namespace Pz
section
variable (inn sgn:Int→Bool) (keyw:Tx→Bool) (rd:Tx→Int×Int)
def qo5(p:Int->Bool):Tx->Nat
 |[]=>0
 |b::l=>bif p b then qo5 p l+1 else 0
def z4y(c:Int):Bool:=decide (97<=c)&&decide (c<=122)
def z4z(c:Int):Bool:=decide (65<=c)&&decide (c<=90)
def qm8(c:Int):Bool:=decide (48<=c)&&decide (c<=57)
def hexv(c:Int):Int:=bif qm8 c then c-48 else bif decide (97<=c)&&decide (c<=102) then c-87 else -1
def qt:Tx->Tx->Nat->Tx×Nat
 |[],_,_=>([],0)
 |c::l,b,i=>
  if c=34 then(b,i+1) else
  if c<32\/126<c then([],0) else
  if c≠92 then qt l (b++[c]) (i+1) else
  match l with
  |[]=>([],0)
  |d::l2=>
   if d=34\/d=92 then qt l2 (b++[d]) (i+2) else
   if d=110 then qt l2 (b++[10]) (i+2) else
   if d=120 then match l2 with
    |x::y::l3=>if hexv x<0\/hexv y<0 then([],0) else qt l3 (b++[16*hexv x+hexv y]) (i+4)
    |_=>([],0)
   else([],0)
abbrev T3:=Int×Tx×Int
def keyT(n:Nat)(k:Int)(s:Tx):T3×Nat×Int:=((bif keyw (s.take n) then 6 else k,s.take n,0),n,0)
def badT(e:Int):T3×Nat×Int:=((0,[],0),0,e)
def oneC(c:Int)(l:Tx):T3×Nat×Int:=
  bif z4y c then keyT keyw (qo5 inn (c::l)) 1 (c::l) else
  bif z4z c then keyT keyw (qo5 inn (c::l)) 2 (c::l) else
  bif sgn c then keyT keyw (qo5 sgn (c::l)) 5 (c::l) else
  bif decide (c=40)||(decide (c=41)||decide (c=95)) then keyT keyw 1 6 (c::l) else
  bif decide (c=59)&&decide (l.head?=some 59) then keyT keyw 2 6 (c::l) else
  bif qm8 c||decide (c=126) then
   (bif decide ((rd ((c::l).take (1+qo5 qm8 l))).2=0) then((3,[],(rd ((c::l).take (1+qo5 qm8 l))).1),1+qo5 qm8 l,0) else badT 31) else
  bif decide (c=34) then
   (bif decide ((qt l [] 1).2=0)||decide (200<(qt l [] 1).1.length) then badT 32 else((4,(qt l [] 1).1,0),(qt l [] 1).2,0)) else
  badT 30
def one:Tx->T3×Nat×Int
 |[]=>badT 30
 |c::l=>oneC inn sgn keyw rd c l
end
end Pz
end Ev

namespace Ev
namespace Pz
section
variable {inn sgn:Int→Bool} {keyw:Tx→Bool} {rd:Tx→Int×Int}
end
end Pz
end Ev

namespace Ev
namespace Pz
section
variable {inn sgn:Int→Bool} {keyw:Tx→Bool} {rd:Tx→Int×Int}
def shT(b:Int)(t:Tk):Tk:=(t.1,t.2.1,t.2.2.1,t.2.2.2+b)
def shL(b:Int):PR (List Tk)->PR (List Tk)
 |.ok l=>.ok (l.map (shT b))
 |.error e=>.error (e.1+b,e.2)
end
end Pz
end Ev

