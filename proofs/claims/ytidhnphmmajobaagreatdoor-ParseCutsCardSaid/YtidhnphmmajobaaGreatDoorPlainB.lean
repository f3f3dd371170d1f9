/- Layers 4 and 7 in plain words: fixities; a parser, a lexer. No statement of its own about the program. -/
import Derived.Test.YtidhnphmmajobaaGreatDoorPlainA
import Derived.Laws.RangeAny
namespace Ev
namespace Fx
section
variable (lv sd:Nat→Int)
def LB (o x:Nat):Prop:=lv o<lv x∨(lv o=lv x∧sd o<0∧sd x<0)
def RB (o x:Nat):Prop:=lv o<lv x∨(lv o=lv x∧0<sd o∧0<sd x)
inductive B:Nat→Nat→List Int→Prop
 |nil (a:Nat):B a a [-1-(a:Int)]
 |node (a r b:Nat) (x y:List Int):a≤r→r<b→(∀i,a≤i→i<r→LB lv sd r i)→(∀i,r<i→i<b→RB lv sd r i)→B a r x→B (r+1) b y→B a b ((r:Int)::(x++y))
variable {lv sd}
theorem RB.trans {a b c:Nat} (h1:RB lv sd a b) (h2:RB lv sd b c):RB lv sd a c:=by
 unfold RB at*
 rcases h1 with h1|⟨h1,h3,h4⟩<;>rcases h2 with h2|⟨h2,h5,h6⟩
 ·exact .inl (by omega)
 ·exact .inl (by omega)
 ·exact .inl (by omega)
 ·exact .inr ⟨by omega,h3,h6⟩
theorem B.le {a b:Nat} {x:List Int} (h:B lv sd a b x):a≤b:=by
 cases h with
 |nil=>exact Nat.le_refl _
 |node _ r _ _ _ h1 h2=>omega
theorem B.clash {a b:Nat} {x:List Int} (h:B lv sd a b x) {o k:Nat} (h1:a≤o) (h2:o<k) (h3:k<b) (he:lv o=lv k) (hb:∀i,o<i→i<k→lv k≤lv i) (hl:¬(sd o<0∧sd k<0)) (hr:¬(0<sd o∧0<sd k)):False:=by
 induction h with
 |nil a=>omega
 |node a r b x1 x2 g1 g2 g3 g4 _ _ ih1 ih2=>
  rcases Nat.lt_trichotomy r o with h|h|h
  ·exact ih2 (by omega) h3
  ·subst h;have:=g4 k h2 h3;unfold RB at this;omega
  ·rcases Nat.lt_trichotomy r k with h'|h'|h'
   ·have e1:=g3 o h1 h;have e2:=g4 k h' h3;have e3:=hb r h h';unfold LB at e1;unfold RB at e2;omega
   ·subst h';have:=g3 o h1 h;unfold LB at this;omega
   ·exact ih1 h1 h'
def lo:List (Nat×List Int)→Nat
 |[]=>0
 |(o,_)::_=>o+1
variable (lv sd)
def Inv:List (Nat×List Int)→List Int→Nat→Prop
 |[],cur,k=>B lv sd 0 k cur
 |(o,P)::S,cur,k=>o<k∧B lv sd (o+1) k cur∧(∀x,o<x→x<k→RB lv sd o x)∧(∀x,lo S≤x→x<o→LB lv sd o x)∧Inv S P o∧(∀p,p∈S→∀x,p.1<x→x<k→RB lv sd p.1 x)
variable {lv sd}
theorem Inv.B {S:List (Nat×List Int)} {cur:List Int} {k:Nat} (h:Inv lv sd S cur k):Fx.B lv sd (lo S) k cur:=by
 cases S with
 |nil=>exact h
 |cons p S=>exact h.2.1
theorem Inv.pop {o k:Nat} {P cur:List Int} {S:List (Nat×List Int)} (h:Inv lv sd ((o,P)::S) cur k):Inv lv sd S ((o:Int)::(P++cur)) k:=by
 obtain ⟨h1,h2,h3,h4,h5,h6⟩:=h;have hb:=h5.B;cases S with
 |nil=>exact .node 0 o k P cur (Nat.zero_le _) h1 (fun i h7 h8=>h4 i h7 h8) h3 hb h2
 |cons p S=>obtain ⟨o',P'⟩:=p;obtain ⟨g1,g2,g3,g4,g5,g6⟩:=h5;refine ⟨by omega,.node (o'+1) o k P cur (by omega) h1 (fun i h7 h8=>h4 i h7 h8) h3 hb h2,fun x h7 h8=>h6 _ (zj ..) x h7 h8,g4,g5,fun p hp=>h6 p (zm _ hp)⟩
def Mid (lv sd:Nat→Int) (S:List (Nat×List Int)) (k:Nat):Prop:=∀x,lo S≤x→x<k→LB lv sd k x
theorem Mid.pop {o k:Nat} {P cur:List Int} {S:List (Nat×List Int)} (h:Inv lv sd ((o,P)::S) cur k) (hm:Mid lv sd ((o,P)::S) k) (hc:lv k<lv o∨(lv k=lv o∧sd k<0∧sd o<0)):Mid lv sd S k:=by
 obtain ⟨h1,h2,h3,h4,h5,h6⟩:=h;intro x hx hk;rcases Nat.lt_trichotomy x o with h|h|h
 ·have:=h4 x hx h;unfold LB at*
  omega
 ·subst h;unfold LB;omega
 ·exact hm x h hk
theorem Inv.push {k:Nat} {cur:List Int} {S:List (Nat×List Int)} (h:Inv lv sd S cur k) (hm:Mid lv sd S k) (ht:∀p,S.head?=some p→RB lv sd p.1 k):Inv lv sd ((k,cur)::S) [-2-(k:Int)] (k+1):=by
 have all:∀p,p∈S→∀x,p.1<x→x<k→RB lv sd p.1 x:=by
  cases S with
  |nil=>intro p hp;cases hp
  |cons q S=>
   obtain ⟨h1,h2,h3,h4,h5,h6⟩:=h;intro p hp;rcases zn.1 hp with rfl|hp
   ·exact h3
   ·exact h6 p hp
 refine ⟨by omega,?_,fun x h1 h2=>by omega,hm,h,fun p hp x h1 h2=>?_⟩
 ·have:=B.nil (lv:=lv) (sd:=sd) (k+1);have e:(-1-((k+1:Nat):Int))=-2-(k:Int):=by omega
  rw [e] at this;exact this
 ·by_cases hx:x<k
  ·exact all p hp x h1 hx
  ·obtain rfl:x=k:=by omega
   cases S with
   |nil=>cases hp
   |cons q S=>
    have hq:=ht q rfl;rcases zn.1 hp with rfl|hp
    ·exact hq
    ·have:=all p (zm _ hp);obtain ⟨g1,g2,g3,g4,g5,g6⟩:=h;have h7:p.1<q.1:=by
      cases S with
      |nil=>cases hp
      |cons q' S'=>
       clear this all ht hq h1
       have key:∀(S:List (Nat×List Int)) (c:List Int) (m:Nat),Inv lv sd S c m→∀p,p∈S→p.1<m:=by
        intro S
        induction S with
        |nil=>intro c m _ p hp;cases hp
        |cons s S ih=>
         intro c m h p hp;obtain ⟨e1,_,_,_,e5,_⟩:=h;rcases zn.1 hp with rfl|hp
         ·exact e1
         ·have:=ih _ _ e5 p hp;omega
       exact key _ _ _ g5 p hp
     exact (this q.1 h7 g1).trans hq
theorem Inv.clash {o k n:Nat} {P cur:List Int} {S:List (Nat×List Int)} (h:Inv lv sd ((o,P)::S) cur k) (hm:Mid lv sd ((o,P)::S) k) (hk:k<n) (he:lv o=lv k) (hl:¬(sd o<0∧sd k<0)) (hr:¬(0<sd o∧0<sd k)) (x:List Int):¬Fx.B lv sd 0 n x:=fun hb=>by obtain ⟨h1,_⟩:=h;refine hb.clash (Nat.zero_le o) h1 hk he (fun i h3 h4=>?_) hl hr;have:=hm i h3 h4;unfold LB at this;omega
theorem Mid.start {k:Nat} {S:List (Nat×List Int)} (h:lo S=k):Mid lv sd S k:=fun x h1 h2=>by omega
end
end Fx
end Ev

namespace Ev
namespace Fx
section
variable (lv sd:Nat→Int)
def qbq (k:Nat):List (Nat×List Int)→List Int→Option (List (Nat×List Int)×List Int)
 |[],cur=>some ([],cur)
 |(o,P)::S,cur=>
  if lv o<lv k then some ((o,P)::S,cur)
  else if lv k<lv o then qbq k S ((o:Int)::(P++cur))
  else if sd o≠sd k∨sd k=0 then none
  else if 0<sd k then some ((o,P)::S,cur)
  else qbq k S ((o:Int)::(P++cur))
def qf8:Nat→Nat→List (Nat×List Int)→List Int→Option (List (Nat×List Int)×List Int)
 |0,_,S,cur=>some (S,cur)
 |m+1,k,S,cur=>match qbq lv sd k S cur with
  |none=>none
  |some (S',cur')=>qf8 m (k+1) ((k,cur')::S') [-2-(k:Int)]
def q9k:List (Nat×List Int)→List Int→List Int
 |[],cur=>cur
 |(o,P)::S,cur=>q9k S ((o:Int)::(P++cur))
def climbL (n:Nat):Option (List Int):=match qf8 lv sd n 0 [] [-1] with
 |none=>none
 |some (S,cur)=>some (q9k S cur)
variable {lv sd}
theorem waits_ok {k:Nat} (hs:∀o,o≤k→sd o=-1∨sd o=0∨sd o=1):∀(S:List (Nat×List Int)) (cur:List Int),Inv lv sd S cur k→Mid lv sd S k→match qbq lv sd k S cur with
  |none=>∀n,k<n→∀x,¬B lv sd 0 n x
  |some (S',cur')=>Inv lv sd S' cur' k∧Mid lv sd S' k∧∀p,S'.head?=some p→RB lv sd p.1 k:=by
 intro S
 induction S with
 |nil=>intro cur h hm;exact ⟨h,hm,fun p hp=>by cases hp⟩
 |cons s S ih=>
  obtain ⟨o,P⟩:=s;intro cur h hm;have hc:o<k:=h.1;have h1:=hs o (by omega);have h2:=hs k (Nat.le_refl _);unfold qbq;by_cases c1:lv o<lv k
  ·rw [if_pos c1];refine ⟨h,hm,fun p hp=>?_⟩;injection hp with hp;subst hp;exact .inl c1
  ·rw [if_neg c1];by_cases c2:lv k<lv o
   ·rw [if_pos c2];exact ih _ h.pop (hm.pop h (.inl c2))
   ·rw [if_neg c2];have he:lv o=lv k:=by omega
    by_cases c3:sd o≠sd k∨sd k=0
    ·rw [if_pos c3];intro n hn x;exact h.clash hm hn he (by omega) (by omega) x
    ·rw [if_neg c3];by_cases c4:0<sd k
     ·rw [if_pos c4];refine ⟨h,hm,fun p hp=>?_⟩;injection hp with hp;subst hp;have e2:sd o=sd k:=by omega
      exact .inr ⟨he,(by show 0<sd o;omega),c4⟩
     ·rw [if_neg c4];exact ih _ h.pop (hm.pop h (.inr ⟨he.symm,by omega,by omega⟩))
theorem qw3 {n:Nat} (hs:∀o,o<n→sd o=-1∨sd o=0∨sd o=1):∀(m k:Nat) (S:List (Nat×List Int)) (cur:List Int),k+m=n→Inv lv sd S cur k→lo S=k→match qf8 lv sd m k S cur with
  |none=>∀x,¬B lv sd 0 n x
  |some (S',cur')=>Inv lv sd S' cur' n:=by
 intro m
 induction m with
 |zero=>
  intro k S cur hk h _;obtain rfl:k=n:=by omega
  exact h
 |succ m ih=>
  intro k S cur hk h hl;unfold qf8;have hw:=waits_ok (lv:=lv) (sd:=sd) (k:=k) (fun o ho=>hs o (by omega)) S cur h (Mid.start hl);cases hc:qbq lv sd k S cur with
  |none=>rw [hc] at hw;exact hw n (by omega)
  |some q=>obtain ⟨S',cur'⟩:=q;rw [hc] at hw;obtain ⟨g1,g2,g3⟩:=hw;exact ih (k+1) _ _ (by omega) (g1.push g2 g3) rfl
theorem qga {n:Nat}:∀(S:List (Nat×List Int)) (cur:List Int),Inv lv sd S cur n→B lv sd 0 n (q9k S cur)
 |[],_,h=>h
 |(_,_)::S,_,h=>qga S _ h.pop
theorem climbL_ok {n:Nat} (hs:∀o,o<n→sd o=-1∨sd o=0∨sd o=1):match climbL lv sd n with
  |none=>∀x,¬B lv sd 0 n x
  |some x=>B lv sd 0 n x:=by
 have h:=qw3 (lv:=lv) (sd:=sd) hs n 0 [] [-1] (by omega) (show B lv sd 0 0 [-1] from B.nil 0) rfl;unfold climbL;cases hc:qf8 lv sd n 0 [] [-1] with
 |none=>rw [hc] at h;exact h
 |some q=>obtain ⟨S,cur⟩:=q;rw [hc] at h;exact qga S cur h
def qso:List Int→Nat→Option (List Int×List Int)
 |_,0=>none
 |[],_+1=>none
 |n::r,f+1=>if n<0 then some ([n],r) else match qso r f with
  |none=>none
  |some (a,r')=>match qso r' f with
   |none=>none
   |some (b,r'')=>some (a++n::b,r'')
def qk0:Nat→Nat→List Int
 |a,0=>[-1-(a:Int)]
 |a,m+1=>(-1-(a:Int))::(a:Int)::qk0 (a+1) m
theorem qem:∀(m a k:Nat),qk0 a (m+1+k)=qk0 a m++((a+m:Nat):Int)::qk0 (a+m+1) k
 |0,a,k=>by rw [show 0+1+k=k+1 by omega];rfl
 |m+1,a,k=>by rw [show m+1+1+k=(m+1+k)+1 by omega];show (-1-(a:Int))::(a:Int)::qk0 (a+1) (m+1+k)=(-1-(a:Int))::(a:Int)::(qk0 (a+1) m++((a+(m+1):Nat):Int)::qk0 (a+(m+1)+1) k);rw [qem m (a+1) k,show a+1+m=a+(m+1) by omega]
theorem B.len {a b:Nat} {x:List Int} (h:B lv sd a b x):x.length=2*(b-a)+1:=by
 induction h with
 |nil a=>simp
 |node a r b x y h1 h2 _ _ _ _ ih1 ih2=>rw [ze,zh,ih1,ih2];omega
theorem B.flat {a b:Nat} {x:List Int} (h:B lv sd a b x):∀(rest:List Int) (f:Nat),x.length≤f→qso (x++rest) f=some (qk0 a (b-a),rest):=by
 induction h with
 |nil a=>intro rest f hf;obtain ⟨f,rfl⟩:∃g,f=g+1:=⟨f-1,by simp at hf;omega⟩;show (if -1-(a:Int)<0 then _ else _)=_;rw [if_pos (by omega),Nat.sub_self];rfl
 |node a r b x y h1 h2 _ _ _ _ ih1 ih2=>
  intro rest f hf;simp only [ze,zh] at hf;obtain ⟨f,rfl⟩:∃g,f=g+1:=⟨f-1,by omega⟩;show (if (r:Int)<0 then _ else _)=_;rw [if_neg (by omega)];show (match qso ((x++y)++rest) f with|none=>none|some (c,r')=>match qso r' f with|none=>none|some (d,r'')=>some (c++(r:Int)::d,r''))=_;rw [zu,ih1 (y++rest) f (by omega)];simp only;rw [ih2 rest f (by omega)];simp only;have e:b-a=(r-a)+1+(b-(r+1)):=by omega
  rw [e,qem,show a+(r-a)=r by omega]
end
end Fx
end Ev

namespace Ev
namespace Fx
section
variable {lv sd:Nat→Int}
def St (lv sd:Nat→Int) (low:Int) (a k:Nat) (first last n left right:Int):Prop:=
 (n=0∧left=0∧right=0∧first=-1∧∀i,a≤i→i<k→lv i≠low)∨
 (∃f l:Nat,first=(f:Int)∧last=(l:Int)∧a≤f∧f≤l∧l<k∧lv f=low∧lv l=low∧(∀i,a≤i→i<k→lv i=low→f≤i∧i≤l)∧1≤n∧(n=1→f=l)∧(1<n→f<l)∧
  (left=n↔∀i,a≤i→i<k→lv i=low→sd i<0)∧left≤n∧(right=n↔∀i,a≤i→i<k→lv i=low→0<sd i)∧right≤n)
theorem St.start (lv sd:Nat→Int) (low:Int) (a:Nat) (last:Int):St lv sd low a a (-1) last 0 0 0:=.inl ⟨rfl,rfl,rfl,rfl,fun i h1 h2=>by omega⟩
theorem St.other {low:Int} {a k:Nat} {first last n left right:Int} (h:St lv sd low a k first last n left right) (hk:lv k≠low):St lv sd low a (k+1) first last n left right:=by
 have ext:∀{P:Nat→Prop},(∀i,a≤i→i<k→lv i=low→P i)↔(∀i,a≤i→i<k+1→lv i=low→P i):=fun {P}=>by
  constructor
  ·intro h i h1 h2 h3;by_cases e:i=k
   ·subst e;exact absurd h3 hk
   ·exact h i h1 (by omega) h3
  ·exact fun h i h1 h2 h3=>h i h1 (by omega) h3
 rcases h with ⟨h1,h2,h3,h4,h5⟩|⟨f,l,h1,h2,h3,h4,h5,h6,h7,h8,h9,hc,hd,he,hf,hg,hj⟩
 ·refine .inl ⟨h1,h2,h3,h4,fun i g1 g2=>?_⟩;by_cases e:i=k
  ·subst e;exact hk
  ·exact h5 i g1 (by omega)
 ·exact .inr ⟨f,l,h1,h2,h3,h4,by omega,h6,h7,ext.1 h8,h9,hc,hd,he.trans ext,hf,hg.trans ext,hj⟩
theorem St.low {low:Int} {a k:Nat} {first last n left right:Int} (h:St lv sd low a k first last n left right) (hc:a≤k) (hk:lv k=low):St lv sd low a (k+1) (if first<0 then (k:Int) else first) k (n+1) (if sd k<0 then left+1 else left) (if 0<sd k then right+1 else right):=by
 rcases h with ⟨h1,h2,h3,h4,h5⟩|⟨f,l,h1,h2,h3,h4,h5,h6,h7,h8,h9,hf,hg,hd,hj,he,hl⟩
 ·subst h1 h2 h3 h4;have only:∀i,a≤i→i<k+1→lv i=low→i=k:=fun i g1 g2 g3=>by
   by_cases e:i=k
   ·exact e
   ·exact absurd g3 (h5 i g1 (by omega))
  refine .inr ⟨k,k,by rw [if_pos (by omega)],rfl,hc,Nat.le_refl _,by omega,hk,hk,fun i g1 g2 g3=>by have:=only i g1 g2 g3;omega,by omega,fun _=>rfl,fun h=>by omega,?_,?_,?_,?_⟩
  ·by_cases hs:sd k<0
   ·rw [if_pos hs];exact ⟨fun _ i g1 g2 g3=>by rw [only i g1 g2 g3];exact hs,fun _=>by omega⟩
   ·rw [if_neg hs];exact ⟨fun h=>by omega,fun h=>absurd (h k hc (by omega) hk) hs⟩
  ·split<;>omega
  ·by_cases hs:0<sd k
   ·rw [if_pos hs];exact ⟨fun _ i g1 g2 g3=>by rw [only i g1 g2 g3];exact hs,fun _=>by omega⟩
   ·rw [if_neg hs];exact ⟨fun h=>by omega,fun h=>absurd (h k hc (by omega) hk) hs⟩
  ·split<;>omega
 ·have all:∀{P:Nat→Prop},P k→((∀i,a≤i→i<k→lv i=low→P i)↔(∀i,a≤i→i<k+1→lv i=low→P i)):=fun {P} hp=>by
   constructor
   ·intro h i h1 h2 h3;by_cases e:i=k
    ·subst e;exact hp
    ·exact h i h1 (by omega) h3
   ·exact fun h i h1 h2 h3=>h i h1 (by omega) h3
  refine .inr ⟨f,k,by rw [if_neg (by omega)];exact h1,rfl,h3,by omega,by omega,h6,hk,fun i g1 g2 g3=>?_,by omega,fun h=>by omega,fun _=>by omega,?_,?_,?_,?_⟩
  ·by_cases e:i=k
   ·subst e;omega
   ·have:=h8 i g1 (by omega) g3;omega
  ·by_cases hs:sd k<0
   ·rw [if_pos hs,←all (P:=fun i=>sd i<0) hs,←hd];omega
   ·rw [if_neg hs];exact ⟨fun h=>by omega,fun h=>absurd (h k hc (by omega) hk) hs⟩
  ·split<;>omega
  ·by_cases hs:0<sd k
   ·rw [if_pos hs,←all (P:=fun i=>0<sd i) hs,←he];omega
   ·rw [if_neg hs];exact ⟨fun h=>by omega,fun h=>absurd (h k hc (by omega) hk) hs⟩
  ·split<;>omega
end
end Fx
end Ev

namespace Ev
open Go
namespace Fn
abbrev Fix1:Type:=(List Int)×Int×Int
def gF (x:Fix1):Prop:=(∀b,b∈x.1→0≤b∧b≤255)∧x.1.length≤9223372036854775807∧(-9223372036854775808≤x.2.1∧x.2.1≤9223372036854775807)∧(-9223372036854775808≤x.2.2∧x.2.2≤9223372036854775807)
def q3t (x:Fix1):Bool:=opOk x.1&&decide (0≤x.2.1∧x.2.1≤9)&&decide (-1≤x.2.2∧x.2.2≤1)
theorem z1o (b:Bool) (n m:Int):bnd (cnd b (some (leI 0 n)) (some false)) (fun x1=>bnd (cnd x1 (some (leI n 9)) (some false)) (fun x2=>bnd (cnd x2 (some (leI (-1) m)) (some false)) (fun x3=>bnd (cnd x3 (some (leI m 1)) (some false)) (fun x4=>some (x4,())))))=some (b&&decide (0≤n∧n≤9)&&decide (-1≤m∧m≤1),()):=by
 have e1:decide (0≤n∧n≤9)=(leI 0 n&&leI n 9):=by unfold leI;rw [Bool.decide_and]
 have e2:decide (-1≤m∧m≤1)=(leI (-1) m&&leI m 1):=by unfold leI;rw [Bool.decide_and]
 rw [e1,e2];cases b<;>cases leI 0 n<;>cases leI n 9<;>cases leI (-1) m<;>cases leI m 1<;>rfl
theorem qsp (x:Fix1) (hx:gF x):f_a6 (x,())=some (q3t x,()):=by obtain ⟨s,n,m⟩:=x;rw [u_a6,qjt s hx.1,q00];exact z1o _ n m
theorem qpq (x:Fix1) (hx:gF x) (_:x.1.length≤1000000):f_a6 (x,())=some (q3t x,()):=qsp x hx
end Fn
end Ev

namespace Ev
open Go
namespace Fn
def qal (l:List Fix1) (op:List Int):Option Fix1:=l.find? fun x=>decide (x.1=op)
theorem z2n (x:Fix1) (op:List Int):f_a5 (x,op,())=some (eqS x.1 op,()):=u_a5 x.1 x.2.1 x.2.2 op
theorem qw4 (n:Bool) (l:List Fix1) (op:List Int) (hl:l.length≤1000000):∀(m k:Nat),k+m=l.length→∃r,loopR l1_bh (⟨n,l⟩,op,(l.length:Int),(k:Int),())=some (r,())∧((r=-1∧qal (l.drop k) op=none)∨∃j x:_,r=((j:Nat):Int)∧l[j]?=some x∧qal (l.drop k) op=some x):=by
 intro m
 induction m with
 |zero=>intro k hk;refine ⟨-1,q05 ?_,.inl ⟨rfl,by rw [zB (by omega)];rfl⟩⟩;unfold l1_bh;simp only;rw [q0f,if_neg (by omega)]
 |succ m ih=>
  intro k hk;have hc:k<l.length:=by omega
  have hf:qal (l.drop k) op=if l[k].1=op then some l[k] else qal (l.drop (k+1)) op:=by rw [q18 hc];unfold qal;rw [List.find?_cons];by_cases h:l[k].1=op<;>simp [h]
  have step:l1_bh (⟨n,l⟩,op,(l.length:Int),(k:Int),())=if l[k].1=op then some (.inr ((k:Int),())) else some (.inl (⟨n,l⟩,op,(l.length:Int),((k+1:Nat):Int),())):=by unfold l1_bh;simp only;rw [q0f,if_pos (by omega),q0j (zg hc),q00,z2n,q00,q6t,add1 (by omega)]
  by_cases h:l[k].1=op
  ·rw [if_pos h] at step hf;exact ⟨k,q05 step,.inr ⟨k,l[k],rfl,zg hc,hf⟩⟩
  ·rw [if_neg h] at step hf;obtain ⟨r,h1,h2⟩:=ih (k+1) (by omega);rw [hf];exact ⟨r,by rw [q0d step,h1],h2⟩
theorem find_spec (n:Bool) (l:List Fix1) (op:List Int) (hl:l.length≤1000000):f_a4 (⟨n,l⟩,op,())=some (match qal l op with|some x=>(x,true,())|none=>(([],0,0),false,())):=by
 obtain ⟨r,h1,h2⟩:=qw4 n l op hl l.length 0 (by omega);rw [List.drop_zero] at h2;have h1:loopR l1_bh (⟨n,l⟩,op,lenI l,0,())=some (r,()):=h1;rw [u_a4,u_bh,h1,q00,q0f];rcases h2 with ⟨rfl,h2⟩|⟨j,x,rfl,h3,h4⟩
 ·rw [if_pos (by decide),h2]
 ·rw [if_neg (by omega),q0j h3,q00,h4]
def gL (l:List Fix1):Prop:=(∀x,x∈l→gF x)∧(∀x,x∈l→x.1.length≤1000000)∧l.length≤1000000
theorem gL.take {l:List Fix1} (h:gL l) (k:Nat):gL (l.take k):=⟨fun x hx=>h.1 x (List.mem_of_mem_take hx),fun x hx=>h.2.1 x (List.mem_of_mem_take hx),by rw [zM];have:=h.2.2;omega⟩
theorem qsq (n:Bool) {l:List Fix1} (h:gL l):∀(m k:Nat),k+m=l.length→∃r,loopR l1_bg (⟨n,l⟩,(l.length:Int),(k:Int),())=some (r,())∧(0≤r↔(l.drop k).any (fun x=>!q3t x)=true):=by
 intro m;have hl:=h.2.2
 induction m with
 |zero=>intro k hk;refine ⟨-1,q05 ?_,by rw [zB (by omega)];simp⟩;unfold l1_bg;simp only;rw [q0f,if_neg (by omega)]
 |succ m ih=>
  intro k hk;have hd:k<l.length:=by omega
  rw [q18 hd];have hr:=qpq l[k] (h.1 _ (List.getElem_mem hd)) (h.2.1 _ (List.getElem_mem hd));have hc:f_a1 (l[k],())=some (!q3t l[k],()):=by have:=u_a1 l[k].1 l[k].2.1 l[k].2.2;have hr:f_a6 ((l[k].1,l[k].2.1,l[k].2.2),())=some (q3t l[k],()):=hr;rw [hr,q00] at this;exact this
  have step:l1_bg (⟨n,l⟩,(l.length:Int),(k:Int),())=if q3t l[k]=false then some (.inr ((k:Int),())) else some (.inl (⟨n,l⟩,(l.length:Int),((k+1:Nat):Int),())):=by unfold l1_bg;simp only;rw [q0f,if_pos (by omega),q0j (zg hd),q00,hc,q00,add1 (by omega)];cases q3t l[k]<;>rfl
  cases hb:q3t l[k] with
  |false=>rw [if_pos hb] at step;exact ⟨k,q05 step,by simp [hb,-List.getElem_cons_drop]⟩
  |true=>rw [if_neg (by rw [hb];decide)] at step;obtain ⟨r,h1,h2⟩:=ih (k+1) (by omega);exact ⟨r,by rw [q0d step,h1],by rw [h2];simp [hb,-List.getElem_cons_drop]⟩
def qsr (l:List Fix1) (k:Nat):Bool:=match l[k]? with
 |some x=>(qal (l.take k) x.1).isSome
 |none=>false
def dupR (l:List Fix1):Nat→Nat→Bool
 |0,_=>false
 |m+1,k=>qsr l k||dupR l m (k+1)
def q2c (l:List Fix1):Int:=if 400<l.length∨l.any (fun x=>!q3t x)=true then 40 else if dupR l l.length 0=true then 41 else 0
theorem qw5 {x:Fix1} (h:q3t x=true):x.1≠[]:=by intro e;unfold q3t opOk allS at h;rw [e] at h;simp at h
theorem qk1 {l:List Fix1} {op:List Int} {x:Fix1} (h:qal l op=some x):x∈l∧x.1=op:=⟨List.mem_of_find?_eq_some h,by have:=List.find?_some h;simpa using this⟩
theorem qpr (n1 n2:Bool) {l:List Fix1} (h:gL l) (hr:∀x,x∈l→q3t x=true):∀(m k:Nat),k+m=l.length→loopR l1_a0 (⟨n1,l⟩,⟨n2,l⟩,(l.length:Int),(k:Int),())=some (if dupR l m k=true then 41 else 0,()):=by
 intro m;have hl:=h.2.2
 induction m with
 |zero=>intro k hk;refine q05 ?_;unfold l1_a0;simp only;rw [q0f,if_neg (by omega)];rfl
 |succ m ih=>
  intro k hk;have hc:k<l.length:=by omega
  have hg:=zg hc;have hd:qsr l k=(qal (l.take k) l[k].1).isSome:=by unfold qsr;rw [hg]
  have hf:=find_spec n1 (l.take k) l[k].1 (h.take k).2.2;have step:l1_a0 (⟨n1,l⟩,⟨n2,l⟩,(l.length:Int),(k:Int),())=if qsr l k=true then some (.inr (41,())) else some (.inl (⟨n1,l⟩,⟨n2,l⟩,(l.length:Int),((k+1:Nat):Int),())):=by
   unfold l1_a0;simp only;rw [q0f,if_pos (by omega),q0j hg,q00,q9h (by omega),q00,hf,q00,add1 (by omega),hd];cases he:qal (l.take k) l[k].1 with
   |none=>rfl
   |some x=>have hx:=qw5 (hr x (List.mem_of_mem_take (qk1 he).1));have:eqS x.1 []=false:=beq_eq_false_iff_ne.2 hx;simp only [this];rfl
  unfold dupR;cases hb:qsr l k with
  |true=>rw [hb,if_pos rfl] at step;rw [q05 step];rfl
  |false=>rw [hb,if_neg Bool.false_ne_true] at step;rw [q0d step,ih (k+1) (by omega),Bool.false_or]
theorem qbr (n:Bool) {l:List Fix1} (h:gL l):f_a0 (⟨n,l⟩,())=some (q2c l,()):=by
 have hl:=h.2.2;obtain ⟨r,h1,h2⟩:=qsq n h l.length 0 (by omega);rw [List.drop_zero] at h2;have h1:loopR l1_bg (⟨n,l⟩,lenI l,0,())=some (r,()):=h1;rw [u_a0,u_bd,u_bg,h1,q00,q00];have hc:leI 0 r=l.any (fun x=>!q3t x):=by rw [Bool.eq_iff_iff,←h2];exact decide_eq_true_iff
 rw [hc,q0f];unfold q2c;by_cases h4:400<l.length
 ·rw [if_pos (by show (400:Int)<(l.length:Int);omega),q00,if_pos (.inl h4)];rfl
 ·rw [if_neg (by show ¬(400:Int)<(l.length:Int);omega),q00];cases ha:l.any (fun x=>!q3t x) with
  |true=>rw [if_pos (.inr rfl)];rfl
  |false=>
   rw [q02,if_neg (by simp [h4])];have hr:∀x,x∈l→q3t x=true:=fun x hx=>by have:=List.any_eq_false.1 ha x hx;simpa using this
   exact qpr n n h hr l.length 0 (by omega)
theorem qnt {l:List Fix1} (h:q2c l=0):l.length≤400∧(∀x,x∈l→q3t x=true)∧dupR l l.length 0=false:=by
 unfold q2c at h;split at h
 ·cases h
 ·rename_i h1;split at h
  ·cases h
  ·rename_i h2;refine ⟨by have:¬400<l.length:=fun e=>h1 (.inl e);omega,fun x hx=>?_,by simpa using h2⟩;have:¬l.any (fun x=>!q3t x)=true:=fun e=>h1 (.inr e);have:=List.any_eq_false.1 (Bool.eq_false_iff.2 this) x hx;simpa using this
end Fn
end Ev

namespace Ev
open Go
namespace Fn
theorem qss {n:Nat} (h:n≤1000000):f_be (⟨true,[]⟩,(n:Int),())=some (⟨decide ((n:Int)=0),[]⟩,()):=by unfold f_be;have h1:decide (0≤(n:Int))=true:=zt (by omega);have h2:decide ((n:Int)≤1000000)=true:=zt (by omega);simp only [h1,h2];rfl
def totL (ls:List (Sl Int)):Nat:=(ls.map fun s=>s.l.length).sum
theorem qk2 (s:Sl Int) (ls:List (Sl Int)):totL (s::ls)=s.l.length+totL ls:=by simp [totL]
theorem qst (b:Bool) (ls:List (Sl Int)) (hn:ls.length≤1000):∀(m k:Nat) (out:Sl Int),k+m=ls.length→out.l.length+totL (ls.drop k)≤1000000→∃q,loopR l1_bb (⟨b,ls⟩,(ls.length:Int),(k:Int),out,())=some (.inr (⟨q,out.l++((ls.drop k).map (·.l)).flatten⟩,())):=by
 intro m
 induction m with
 |zero=>intro k out hk ho;refine ⟨out.nil,q05 ?_⟩;unfold l1_bb;simp only;rw [q0f,if_neg (by omega),zB (by omega)];simp
 |succ m ih=>
  intro k out hk ho;have hc:k<ls.length:=by omega
  rw [q18 hc,qk2] at ho;obtain ⟨q,hq⟩:=ih (k+1) ⟨andB out.nil (isE ls[k].l),out.l++ls[k].l⟩ (by omega) (by show (out.l++ls[k].l).length+_≤_;rw [zh];omega);refine ⟨q,?_⟩;have step:l1_bb (⟨b,ls⟩,(ls.length:Int),(k:Int),out,())=some (.inl (⟨b,ls⟩,(ls.length:Int),((k+1:Nat):Int),⟨andB out.nil (isE ls[k].l),out.l++ls[k].l⟩,())):=by unfold l1_bb;simp only;rw [q0f,if_pos (by omega),q0j (zg hc),q00,q32 (by unfold sumI lenI;omega),q00,add1 (by omega)];rfl
  rw [q0d step,hq,q18 hc,zI,List.flatten_cons,zu]
theorem qsu (b:Bool) (ls:List (Sl Int)) (hn:ls.length≤1000) (ht:totL ls≤1000000):∀(m k sz:Nat),k+m=ls.length→sz+totL (ls.drop k)=totL ls→∃q,loopR l2_bb (⟨b,ls⟩,(sz:Int),⟨b,ls⟩,(ls.length:Int),(k:Int),())=some (⟨q,(ls.map (·.l)).flatten⟩,()):=by
 intro m
 induction m with
 |zero=>
  intro k sz hk hs;rw [zB (by omega)] at hs;have hs:sz=totL ls:=by simpa [totL] using hs
  obtain ⟨q,hq⟩:=qst b ls hn ls.length 0 ⟨decide ((sz:Int)=0),[]⟩ (by omega) (by rw [List.drop_zero];simpa using ht);refine ⟨q,q05 ?_⟩;unfold l2_bb;simp only;rw [q0f,if_neg (by omega),qss (by omega),q00];exact hq.trans (by rw [List.drop_zero];rfl)
 |succ m ih=>
  intro k sz hk hs;have hc:k<ls.length:=by omega
  rw [q18 hc,qk2] at hs;obtain ⟨q,hq⟩:=ih (k+1) (sz+ls[k].l.length) (by omega) (by omega);refine ⟨q,?_⟩;have ea:addI .i64 (sz:Int) (lenI ls[k].l)=((sz+ls[k].l.length:Nat):Int):=by unfold lenI;rw [q2d (by omega) (by omega)];omega
  have c1:ltI ((sz+ls[k].l.length:Nat):Int) 0=false:=zp (by omega);have step:l2_bb (⟨b,ls⟩,(sz:Int),⟨b,ls⟩,(ls.length:Int),(k:Int),())=some (.inl (⟨b,ls⟩,((sz+ls[k].l.length:Nat):Int),⟨b,ls⟩,(ls.length:Int),((k+1:Nat):Int),())):=by unfold l2_bb;simp only;rw [q0f,if_pos (by omega),q0j (zg hc),q00,ea,c1,q02,q00,add1 (by omega)]
  rw [q0d step,hq]
theorem qly (b:Bool) (ls:List (Sl Int)) (hn:ls.length≤1000) (ht:totL ls≤1000000):∃q,f_bb (⟨b,ls⟩,())=some (⟨q,(ls.map (·.l)).flatten⟩,()):=by rw [u_bb];exact qsu b ls hn ht ls.length 0 0 (by omega) (by rw [List.drop_zero,zJ])
theorem qhr {a b:Nat} (h:b≤a) (ha:a≤1000000000):subI .i64 (a:Int) (b:Int)=((a-b:Nat):Int):=by rw [q2e (by omega) (by omega)];omega
theorem z1p (b1 b2:Bool) (O:List Int) (o:Int) (Q:List (Sl Int)) (p2 p1:Sl Int) (hl:p2.l.length+p1.l.length≤100000) (hO:O.length≤1000) (hQ:Q.length≤1000):∃q,f_a3 (⟨b1,O++[o]⟩,⟨b2,Q++[p2,p1]⟩,())=some (⟨b1,O⟩,⟨false,Q++[⟨q,o::(p2.l++p1.l)⟩]⟩,()):=by
 obtain ⟨q,hq⟩:=qly false [⟨false,[o]⟩,p2,p1] (by show 3≤1000;decide) (by simp [totL];omega);refine ⟨q,?_⟩;have l1:lenI (O++[o])=((O.length+1:Nat):Int):=by simp [lenI]
 have l2:lenI (Q++[p2,p1])=((Q.length+2:Nat):Int):=by simp [lenI]
 have s1:subI .i64 ((O.length+1:Nat):Int) 1=(O.length:Int):=by rw [show (1:Int)=((1:Nat):Int) from rfl,qhr (by omega) (by omega),Nat.add_sub_cancel]
 have s2:subI .i64 ((Q.length+2:Nat):Int) 2=(Q.length:Int):=by rw [show (2:Int)=((2:Nat):Int) from rfl,qhr (by omega) (by omega),Nat.add_sub_cancel]
 have s3:subI .i64 ((Q.length+2:Nat):Int) 1=((Q.length+1:Nat):Int):=by rw [show (1:Int)=((1:Nat):Int) from rfl,qhr (by omega) (by omega)];rfl
 have g1:(O++[o])[O.length]?=some o:=by simp
 have g2:(Q++[p2,p1])[Q.length]?=some p2:=by simp
 have g3:(Q++[p2,p1])[Q.length+1]?=some p1:=by simp
 have k1:okAt (O++[o]) (O.length:Int)=some O.length:=q1l (by simp);have k2:okAt (Q++[p2,p1]) (Q.length:Int)=some Q.length:=q1l (by simp);have k3:okAt (Q++[p2,p1]) ((Q.length+1:Nat):Int)=some (Q.length+1):=q1l (by simp);have c1:cutN ((O.length+1:Nat):Int) (O.length:Int)=some O.length:=by unfold cutN;rw [if_pos (by omega)];rfl
 have c2:cutN ((Q.length+2:Nat):Int) (Q.length:Int)=some Q.length:=by unfold cutN;rw [if_pos (by omega)];rfl
 have t1:takeL (O++[o]) O.length=O:=List.take_left;have t2:takeL (Q++[p2,p1]) Q.length=Q:=List.take_left;have hd:(([⟨false,[o]⟩,p2,p1]:List (Sl Int)).map (·.l)).flatten=o::(p2.l++p1.l):=by simp
 rw [hd] at hq;have fo:∀x:Sl Int,fit (sumI (lenI Q) (lenI [x]))=some ():=fun x=>q32 (by simp only [sumI,lenI,List.length_singleton];omega);have hc:f_bb (⟨false,([⟨false,([o]:List Int)⟩,p2,p1]:List (Sl Int))⟩,())=some (⟨q,o::(p2.l++p1.l)⟩,()):=hq;rw [u_a3];simp only [l1,l2,s1,s2,s3,k1,k2,k3,q00,q7r g1,q7r g2,q7r g3,hc,c1,c2,q0s,q04,t1,t2,fo,isE,List.isEmpty_cons,q02,app]
end Fn
end Ev

namespace Ev
open Go
open Fx (B Inv Mid lo qbq qf8 q9k climbL)
namespace Fn
def lvF (fs:List Fix1) (i:Nat):Int:=match fs[i]? with
 |some x=>x.2.1
 |none=>0
def sdF (fs:List Fix1) (i:Nat):Int:=match fs[i]? with
 |some x=>x.2.2
 |none=>0
theorem qxg {fs:List Fix1} {i:Nat} {x:Fix1} (h:fs[i]?=some x):lvF fs i=x.2.1:=by unfold lvF;rw [h]
theorem qsv {fs:List Fix1} {i:Nat} {x:Fix1} (h:fs[i]?=some x):sdF fs i=x.2.2:=by unfold sdF;rw [h]
def Rep (S:List (Nat×List Int)) (cur:List Int) (op:List Int) (pt:List (Sl Int)):Prop:=op.reverse=S.map (fun p=>(p.1:Int))∧pt.reverse.map (·.l)=cur::S.map (·.2)
theorem Rep.pop {o:Nat} {P cur:List Int} {S:List (Nat×List Int)} {op:List Int} {pt:List (Sl Int)} (h:Rep ((o,P)::S) cur op pt):∃O Q p2 p1,op=O++[(o:Int)]∧pt=Q++[p2,p1]∧p2.l=P∧p1.l=cur∧O.length=S.length∧Q.length=S.length∧∀q,q.l=(o:Int)::(P++cur)→Rep S ((o:Int)::(P++cur)) O (Q++[q]):=by
 obtain ⟨h1,h2⟩:=h;cases hr:op.reverse with
 |nil=>rw [hr] at h1;cases h1
 |cons a O'=>
  rw [hr,zI] at h1;injection h1 with h3 h4;subst h3;cases hp:pt.reverse with
  |nil=>rw [hp] at h2;cases h2
  |cons p1 Q1=>
   rw [hp,zI,zI] at h2;injection h2 with h5 h6;cases Q1 with
   |nil=>cases h6
   |cons p2 Q'=>
    rw [zI] at h6;injection h6 with h7 h8;have e1:op=O'.reverse++[(o:Int)]:=by have:=congrArg List.reverse hr;rw [List.reverse_reverse] at this;rw [this,List.reverse_cons]
    have e2:pt=Q'.reverse++[p2,p1]:=by have:=congrArg List.reverse hp;rw [List.reverse_reverse] at this;rw [this,List.reverse_cons,List.reverse_cons,zu];rfl
    have n1:O'.length=S.length:=by have:=congrArg List.length h4;simpa using this
    have n2:Q'.length=S.length:=by have:=congrArg List.length h8;simpa using this
    refine ⟨O'.reverse,Q'.reverse,p2,p1,e1,e2,h7,h5,by rw [List.length_reverse,n1],by rw [List.length_reverse,n2],fun q hq=>⟨by rw [List.reverse_reverse,h4],?_⟩⟩;rw [List.reverse_append,List.reverse_reverse];show q.l::Q'.map (·.l)=_;rw [hq,h8]
theorem Inv.short {lv sd:Nat→Int}:∀{S:List (Nat×List Int)} {cur:List Int} {k:Nat},Inv lv sd S cur k→S.length≤k
 |[],_,_,_=>Nat.zero_le _
 |(o,P)::S,cur,k,h=>by have:=Inv.short h.2.2.2.2.1;have h1:=h.1;rw [ze];omega
theorem Inv.inside {lv sd:Nat→Int} {o k:Nat} {P cur:List Int} {S:List (Nat×List Int)} (h:Inv lv sd ((o,P)::S) cur k):P.length+cur.length≤2*k:=by have h1:=(Fx.Inv.B h.pop).len;rw [ze,zh] at h1;omega
theorem qsw (b1 b2:Bool) {lv sd:Nat→Int} {o k:Nat} {P cur:List Int} {S:List (Nat×List Int)} (h:Inv lv sd ((o,P)::S) cur k) (hk:k≤400) {op:List Int} {pt:List (Sl Int)} (hr:Rep ((o,P)::S) cur op pt):∃op' b3 pt',f_a3 (⟨b1,op⟩,⟨b2,pt⟩,())=some (⟨b1,op'⟩,⟨b3,pt'⟩,())∧Rep S ((o:Int)::(P++cur)) op' pt':=by obtain ⟨O,Q,p2,p1,e1,e2,e3,e4,e5,e6,e7⟩:=hr.pop;have hs:=Inv.short h;rw [ze] at hs;have hi:=Inv.inside h;obtain ⟨q,hq⟩:=z1p b1 b2 O (o:Int) Q p2 p1 (by rw [e3,e4];omega) (by omega) (by omega);refine ⟨O,false,Q++[⟨q,(o:Int)::(p2.l++p1.l)⟩],by rw [e1,e2];exact hq,e7 _ (by rw [e3,e4])⟩
theorem qps (b0 b1:Bool) {fs:List Fix1} (hn:fs.length≤400) {k:Nat} (hk:k<fs.length) (opt:List Int) (_hs:∀o,o≤k→sdF fs o=-1∨sdF fs o=0∨sdF fs o=1):∀(S:List (Nat×List Int)) (cur:List Int) (op:List Int) (b2:Bool) (pt:List (Sl Int)),Inv (lvF fs) (sdF fs) S cur k→Rep S cur op pt→∃op' b3 pt',loopR l1_a2 ((k:Int),(fs.length:Int),(k:Int),⟨b0,fs⟩,opt,lvF fs k,sdF fs k,⟨b1,op⟩,⟨b2,pt⟩,())=some (match qbq (lvF fs) (sdF fs) k S cur with
    |none=>.inr (.inr (.inr (⟨true,[]⟩,43,())))
    |some _=>.inl ((k:Int),(fs.length:Int),(k:Int),⟨b0,fs⟩,⟨b1,op'⟩,⟨b3,pt'⟩,()))∧
   ∀S' cur',qbq (lvF fs) (sdF fs) k S cur=some (S',cur')→Rep S' cur' op' pt':=by
 intro S
 induction S with
 |nil=>
  intro cur op b2 pt h hr;have e:op=[]:=by have:=hr.1;simpa using this
  subst e;refine ⟨[],b2,pt,q05 ?_,fun S' cur' e=>?_⟩
  ·unfold l1_a2;simp only;rw [q0f,if_neg (by show ¬(0:Int)<(([]:List Int).length:Int);simp)];rfl
  ·injection e with e;injection e with e1 e2;subst e1 e2;exact hr
 |cons s S ih=>
  obtain ⟨o,P⟩:=s;intro cur op b2 pt h hr;have ho:o<k:=h.1;have hx:=zg (show o<fs.length by omega);obtain ⟨O,Q,p2,p1,e1,e2,_,_,e5,_,_⟩:=hr.pop;have hc:=Inv.short h;rw [ze] at hc;have l1:lenI op=((O.length+1:Nat):Int):=by rw [e1];simp [lenI]
  have s1:subI .i64 ((O.length+1:Nat):Int) 1=(O.length:Int):=by rw [show (1:Int)=((1:Nat):Int) from rfl,qhr (by omega) (by omega),Nat.add_sub_cancel]
  have k1:okAt op (O.length:Int)=some O.length:=q1l (by rw [e1];simp);have g1:nth op O.length=some (o:Int):=q7r (by rw [e1];simp);have k2:okAt fs (o:Int)=some o:=q1l (by omega);have g2:nth fs o=some fs[o]:=q7r hx;have hd:=qxg hx;have he:=qsv hx;have c0:ltI 0 ((O.length+1:Nat):Int)=true:=zt (by omega);obtain ⟨op',b3,pt',c1,c2⟩:=qsw b1 b2 h (by omega) hr;have body:l1_a2 ((k:Int),(fs.length:Int),(k:Int),⟨b0,fs⟩,opt,lvF fs k,sdF fs k,⟨b1,op⟩,⟨b2,pt⟩,())=
    if lvF fs o<lvF fs k then some (.inr (.inl ((k:Int),(fs.length:Int),(k:Int),⟨b0,fs⟩,⟨b1,op⟩,⟨b2,pt⟩,())))
    else if lvF fs k<lvF fs o then some (.inl ((k:Int),(fs.length:Int),(k:Int),⟨b0,fs⟩,opt,lvF fs k,sdF fs k,⟨b1,op'⟩,⟨b3,pt'⟩,()))
    else if sdF fs o≠sdF fs k∨sdF fs k=0 then some (.inr (.inr (.inr (.inr (⟨true,[]⟩,43,())))))
    else if 0<sdF fs k then some (.inr (.inl ((k:Int),(fs.length:Int),(k:Int),⟨b0,fs⟩,⟨b1,op⟩,⟨b2,pt⟩,())))
    else some (.inl ((k:Int),(fs.length:Int),(k:Int),⟨b0,fs⟩,opt,lvF fs k,sdF fs k,⟨b1,op'⟩,⟨b3,pt'⟩,())):=by
   unfold l1_a2;simp only [l1,s1,k1,g1,k2,g2,c0,q04,q00];rw [q0f,←hd,←he];by_cases q1:lvF fs o<lvF fs k
   ·rw [if_pos q1,if_pos q1]
   ·rw [if_neg q1,if_neg q1,q0f];by_cases q2:lvF fs k<lvF fs o
    ·rw [if_pos q2,if_pos q2,q00];simp only [sumE,c1,q00]
    ·rw [if_neg q2,if_neg q2];have e3:(cnd (notB (eqI (sdF fs o) (sdF fs k))) (some true) (some (eqI (sdF fs k) 0)):Option Bool)=some (decide (sdF fs o≠sdF fs k∨sdF fs k=0)):=by
      rw [q4a,q67];by_cases q3:sdF fs o=sdF fs k
      ·rw [if_pos q3];have:eqI (sdF fs k) 0=decide (sdF fs o≠sdF fs k∨sdF fs k=0):=by rw [Bool.eq_iff_iff,eqI_eq];simp [q3]
       rw [this]
      ·rw [if_neg q3];simp [q3]
     rw [e3,q00,qz9];by_cases q3:sdF fs o≠sdF fs k∨sdF fs k=0
     ·rw [if_pos q3,if_pos q3,q00];rfl
     ·rw [if_neg q3,if_neg q3,q0f];by_cases q4:0<sdF fs k
      ·rw [if_pos q4,if_pos q4,q00];rfl
      ·rw [if_neg q4,if_neg q4,q00];simp only [sumE,c1,q00]
  unfold qbq;by_cases q1:lvF fs o<lvF fs k
  ·rw [if_pos q1] at body ⊢;refine ⟨op,b2,pt,q05 body,fun S' cur' e=>?_⟩;injection e with e;injection e with a1 a2;subst a1 a2;exact hr
  ·rw [if_neg q1] at body ⊢;by_cases q2:lvF fs k<lvF fs o
   ·rw [if_pos q2] at body ⊢;obtain ⟨op2,b4,pt2,d1,d2⟩:=ih _ op' b3 pt' h.pop c2;exact ⟨op2,b4,pt2,by rw [q0d body];exact d1,d2⟩
   ·rw [if_neg q2] at body ⊢;by_cases q3:sdF fs o≠sdF fs k∨sdF fs k=0
    ·rw [if_pos q3] at body ⊢;exact ⟨op,b2,pt,q05 body,fun S' cur' e=>by cases e⟩
    ·rw [if_neg q3] at body ⊢;by_cases q4:0<sdF fs k
     ·rw [if_pos q4] at body ⊢;refine ⟨op,b2,pt,q05 body,fun S' cur' e=>?_⟩;injection e with e;injection e with a1 a2;subst a1 a2;exact hr
     ·rw [if_neg q4] at body ⊢;obtain ⟨op2,b4,pt2,d1,d2⟩:=ih _ op' b3 pt' h.pop c2;exact ⟨op2,b4,pt2,by rw [q0d body];exact d1,d2⟩
theorem qsx (b1:Bool) {lv sd:Nat→Int} {n:Nat} (hn:n≤400):∀(S:List (Nat×List Int)) (cur:List Int) (op:List Int) (b2:Bool) (pt:List (Sl Int)),Inv lv sd S cur n→Rep S cur op pt→∃q,loopR l2_a2 (⟨b1,op⟩,⟨b2,pt⟩,())=some (.inr (.inr (⟨q,q9k S cur⟩,0,()))):=by
 intro S
 induction S with
 |nil=>
  intro cur op b2 pt h hr;have e:op=[]:=by have:=hr.1;simpa using this
  subst e;obtain ⟨c,hc⟩:∃c,pt=[c]∧c.l=cur:=by
   have:=hr.2;cases hp:pt.reverse with
   |nil=>rw [hp] at this;cases this
   |cons p1 Q=>
    rw [hp] at this;injection this with h1 h2;obtain rfl:Q=[]:=by cases Q with
     |nil=>rfl
     |cons _ _=>cases h2
    refine ⟨p1,?_,h1⟩;have:=congrArg List.reverse hp;rw [List.reverse_reverse] at this;exact this
  obtain ⟨rfl,hd⟩:=hc;refine ⟨c.nil,q05 ?_⟩;unfold l2_a2;simp only;rw [q0f,if_neg (by show ¬(0:Int)<(([]:List Int).length:Int);simp)];show some (Sum.inr (Sum.inr (Sum.inr (c,0,()))))=_;rw [←hd];rfl
 |cons s S ih=>
  obtain ⟨o,P⟩:=s;intro cur op b2 pt h hr;obtain ⟨op',b3,pt',c1,c2⟩:=qsw b1 b2 h hn hr;obtain ⟨O,Q,p2,p1,e1,e2,_,_,e5,_,_⟩:=hr.pop;obtain ⟨q,hq⟩:=ih _ op' b3 pt' h.pop c2;refine ⟨q,?_⟩;have step:l2_a2 (⟨b1,op⟩,⟨b2,pt⟩,())=some (.inl (⟨b1,op'⟩,⟨b3,pt'⟩,())):=by unfold l2_a2;simp only;rw [q0f,if_pos (by rw [e1];unfold lenI;rw [zh,List.length_singleton];omega),c1,q00]
  rw [q0d step,hq];rfl
end Fn
end Ev

namespace Ev
open Go
open Fx (B Inv Mid lo qbq qf8 q9k climbL)
namespace Fn
theorem qw6 {α β:Type} (f:α→Option β) (a:α):sumE f (.inl a)=f a:=Eq.trans (Eq.refl _) (Eq.refl _)
theorem qw7 {α β:Type} (f:α→Option β) (b:β):sumE f (.inr b)=some b:=Eq.trans (Eq.refl _) (Eq.refl _)
theorem z1q {α:Type} (l m:List α):app l m=l++m:=Eq.trans (Eq.refl _) (Eq.refl _)
theorem qzr {α:Type} (x:α):isE [x]=false:=Eq.trans (Eq.refl _) (Eq.refl _)
theorem Rep.push {S:List (Nat×List Int)} {cur:List Int} {op:List Int} {pt:List (Sl Int)} (h:Rep S cur op pt) (k:Nat) (q:Sl Int):Rep ((k,cur)::S) q.l (op++[(k:Int)]) (pt++[q]):=by
 obtain ⟨h1,h2⟩:=h;refine ⟨?_,?_⟩
 ·rw [List.reverse_append];show (k:Int)::op.reverse=_;rw [h1];rfl
 ·rw [List.reverse_append];show q.l::pt.reverse.map (·.l)=_;rw [h2];rfl
theorem Rep.len {S:List (Nat×List Int)} {cur:List Int} {op:List Int} {pt:List (Sl Int)} (h:Rep S cur op pt):op.length=S.length∧pt.length=S.length+1:=by obtain ⟨h1,h2⟩:=h;have e1:=congrArg List.length h1;have e2:=congrArg List.length h2;simp only [List.length_reverse,zH,ze] at e1 e2;exact ⟨e1,e2⟩
theorem qpt (b0:Bool) {fs:List Fix1} (hn:fs.length≤400) (hs:∀o,o<fs.length→sdF fs o=-1∨sdF fs o=0∨sdF fs o=1):∀(m k:Nat) (S:List (Nat×List Int)) (cur:List Int) (b1:Bool) (op:List Int) (b2:Bool) (pt:List (Sl Int)),k+m=fs.length→Inv (lvF fs) (sdF fs) S cur k→lo S=k→Rep S cur op pt→∃q,loopR l3_a2 ((fs.length:Int),(k:Int),⟨b0,fs⟩,⟨b1,op⟩,⟨b2,pt⟩,())=some (match qf8 (lvF fs) (sdF fs) m k S cur with
   |none=>.inr (⟨true,[]⟩,43,())
   |some (S',cur')=>.inr (⟨q,q9k S' cur'⟩,0,())):=by
 intro m
 induction m with
 |zero=>
  intro k S cur b1 op b2 pt hk h hl hr;have h':Inv (lvF fs) (sdF fs) S cur fs.length:=by rw [←hk];exact h
  obtain ⟨q,hq⟩:=qsx b1 (n:=fs.length) hn S cur op b2 pt h' hr;refine ⟨q,q05 ?_⟩;unfold l3_a2;simp only;rw [q0f,if_neg (by omega),hq];rfl
 |succ m ih=>
  intro k S cur b1 op b2 pt hk h hl hr;have hc:k<fs.length:=by omega
  have hx:=zg hc;have he:=qxg hx;have hf:=qsv hx;obtain ⟨op',b3,pt',w1,w2⟩:=qps b0 b1 hn hc fs[k].1 (fun o ho=>hs o (by omega)) S cur op b2 pt h hr;rw [he,hf] at w1;have hw:=Fx.waits_ok (lv:=lvF fs) (sd:=sdF fs) (k:=k) (fun o ho=>hs o (by omega)) S cur h (Mid.start hl);unfold qf8;cases hd:qbq (lvF fs) (sdF fs) k S cur with
  |none=>rw [hd] at w1;refine ⟨true,q05 ?_⟩;unfold l3_a2;simp only;rw [q0f,if_pos (by omega),q1l hc,q00,q7r hx,q00,w1,q00,qw7]
  |some z=>
   obtain ⟨S',cur'⟩:=z;rw [hd] at w1 hw;obtain ⟨g1,g2,g3⟩:=hw;have hg:=(w2 S' cur' hd).push k ⟨false,[-2-(k:Int)]⟩;obtain ⟨n1,n2⟩:=(w2 S' cur' hd).len;have hj:=Inv.short g1;obtain ⟨q,hq⟩:=ih (k+1) _ _ (andB b1 false) (op'++[(k:Int)]) (andB b3 false) (pt'++[⟨false,[-2-(k:Int)]⟩]) (by omega) (g1.push g2 g3) rfl hg;refine ⟨q,?_⟩;have e2:subI .i64 (-2) (k:Int)=-2-(k:Int):=q2e (by omega) (by omega);have f1:fit (sumI (lenI op') (lenI ([(k:Int)]:List Int)))=some ():=q32 (by simp only [sumI,lenI,List.length_singleton];omega);have f2:fit (sumI (lenI pt') (lenI ([⟨false,[-2-(k:Int)]⟩]:List (Sl Int))))=some ():=q32 (by simp only [sumI,lenI,List.length_singleton];omega);have step:l3_a2 ((fs.length:Int),(k:Int),⟨b0,fs⟩,⟨b1,op⟩,⟨b2,pt⟩,())=some (.inl ((fs.length:Int),((k+1:Nat):Int),⟨b0,fs⟩,⟨andB b1 false,op'++[(k:Int)]⟩,⟨andB b3 false,pt'++[⟨false,[-2-(k:Int)]⟩]⟩,())):=by unfold l3_a2;simp only;rw [q0f,if_pos (by omega),q1l hc,q00,q7r hx,q00,w1,q00];rw [qw6];simp only [e2,f1,f2,q00,add1 (by omega:k≤1000000000),z1q,qzr]
   rw [q0d step,hq]
def qgb (fs:List Fix1):Option (List Int):=climbL (lvF fs) (sdF fs) fs.length
theorem z1r (b0:Bool) {fs:List Fix1} (hn:fs.length≤400) (hs:∀o,o<fs.length→sdF fs o=-1∨sdF fs o=0∨sdF fs o=1):∃q,loopR l3_a2 (lenI fs,0,⟨b0,fs⟩,⟨true,[]⟩,⟨false,[⟨false,[-1]⟩]⟩,())=some (.inr (match qgb fs with|none=>(⟨true,[]⟩,43,())|some x=>(⟨q,x⟩,0,()))):=by
 obtain ⟨q,hq⟩:=qpt b0 hn hs fs.length 0 [] [-1] true [] false [⟨false,[-1]⟩] (by omega) (show B _ _ 0 0 [-1] from B.nil 0) rfl ⟨rfl,rfl⟩;refine ⟨q,?_⟩;refine Eq.trans hq ?_;unfold qgb climbL;cases qf8 (lvF fs) (sdF fs) fs.length 0 [] [-1] with
 |none=>rfl
 |some z=>rfl
def q4m (l:List Fix1):List (List Int)→Option (List Fix1)
 |[]=>some []
 |op::r=>match qal l op with
  |none=>none
  |some x=>match q4m l r with
   |none=>none
   |some y=>some (x::y)
theorem q7t {l:List Fix1}:∀{ops:List (List Int)} {fs:List Fix1},q4m l ops=some fs→fs.length=ops.length∧∀x,x∈fs→x∈l
 |[],fs,h=>by injection h with h;subst h;exact ⟨rfl,fun x hx=>by cases hx⟩
 |op::r,fs,h=>by
  unfold q4m at h;split at h
  ·cases h
  ·rename_i x hx;split at h
   ·cases h
   ·rename_i y hy;injection h with h;subst h;obtain ⟨h1,h2⟩:=q7t hy;refine ⟨by rw [ze,ze,h1],fun z hz=>?_⟩;rcases zn.1 hz with rfl|hz
    ·exact (qk1 hx).1
    ·exact h2 z hz
theorem qnu {l fs:List Fix1} (hr:∀x,x∈l→q3t x=true) (hm:∀x,x∈fs→x∈l) (o:Nat) (ho:o<fs.length):sdF fs o=-1∨sdF fs o=0∨sdF fs o=1:=by rw [qsv (zg ho)];have:=hr _ (hm _ (List.getElem_mem ho));unfold q3t at this;simp only [zd,decide_eq_true_eq] at this;omega
theorem qzs (n1 n2 b:Bool) {l:List Fix1} (hl:l.length≤1000000) (ops:List (List Int)) (hn:ops.length≤400):∀(m k:Nat) (acc:List Fix1),k+m=ops.length→acc.length=k→loopR l4_a2 (⟨n1,l⟩,⟨n2,ops⟩,(ops.length:Int),(k:Int),⟨b,acc++List.replicate m (([]:List Int),0,0)⟩,())=(match q4m l (ops.drop k) with
   |none=>some (⟨true,[]⟩,42,())
   |some r=>loopR l4_a2 (⟨n1,l⟩,⟨n2,ops⟩,(ops.length:Int),(ops.length:Int),⟨b,acc++r⟩,())):=by
 intro m
 induction m with
 |zero=>
  intro k acc hk ha;rw [zB (by omega)];obtain rfl:k=ops.length:=by omega
  rfl
 |succ m ih=>
  intro k acc hk ha;have hc:k<ops.length:=by omega
  rw [q18 hc];unfold q4m;have hf:=find_spec n1 l ops[k] hl;have hj:(acc++List.replicate (m+1) (([]:List Int),(0:Int),(0:Int))).length=ops.length:=by rw [zh,List.length_replicate];omega
  cases hg:qal l ops[k] with
  |none=>rw [hg] at hf;refine q05 ?_;unfold l4_a2;simp only;rw [q0f,if_pos (by omega),q0j (zg hc),q00,hf,q00];rfl
  |some x=>
   rw [hg] at hf;have hd:(acc++List.replicate (m+1) (([]:List Int),(0:Int),(0:Int))).set k x=(acc++[x])++List.replicate m (([]:List Int),0,0):=by rw [List.set_append_right _ _ (by omega),ha,Nat.sub_self,List.replicate_succ,List.set_cons_zero,zu];rfl
   have he:(acc++List.replicate (m+1) (([]:List Int),(0:Int),(0:Int)))[k]?=some (([]:List Int),0,0):=by rw [zK (by omega),ha,Nat.sub_self];rfl
   have step:l4_a2 (⟨n1,l⟩,⟨n2,ops⟩,(ops.length:Int),(k:Int),⟨b,acc++List.replicate (m+1) (([]:List Int),0,0)⟩,())=
     some (.inl (⟨n1,l⟩,⟨n2,ops⟩,(ops.length:Int),((k+1:Nat):Int),⟨b,(acc++[x])++List.replicate m (([]:List Int),0,0)⟩,())):=by
    unfold l4_a2;simp only;rw [q0f,if_pos (by omega),q0j (zg hc),q00,hf,q00];simp only [notB,Bool.not_true,q02];rw [q1l (by omega),q00,q7r he,q00,q00,add1 (by omega)];show some (Sum.inl (_,_,_,_,(⟨b,(acc++List.replicate (m+1) (([]:List Int),(0:Int),(0:Int))).set k x⟩:Sl Fix1),()))=_;rw [hd]
   rw [q0d step,ih (k+1) (acc++[x]) (by omega) (by rw [zh,ha];rfl)];cases q4m l (ops.drop (k+1)) with
   |none=>rfl
   |some y=>show loopR l4_a2 (_,_,_,_,(⟨b,(acc++[x])++y⟩:Sl Fix1),())=loopR l4_a2 (_,_,_,_,(⟨b,acc++x::y⟩:Sl Fix1),());rw [zu];rfl
def resC (q:Bool) (l:List Fix1) (ops:List (List Int)):Sl Int×Int×Unit:=
 if q2c l≠0 then (⟨true,[]⟩,q2c l,()) else if 400<ops.length then (⟨true,[]⟩,40,()) else match q4m l ops with
  |none=>(⟨true,[]⟩,42,())
  |some fs=>match qgb fs with
   |none=>(⟨true,[]⟩,43,())
   |some x=>(⟨q,x⟩,0,())
theorem qpu (n1 n2:Bool) {l:List Fix1} (h:gL l) (ops:List (List Int)):∃q,f_a2 (⟨n1,l⟩,⟨n2,ops⟩,())=some (resC q l ops):=by
 rw [u_a2,qbr n1 h,q00];by_cases hc:q2c l=0
 ·have e0:notB (eqI (q2c l) 0)=false:=by rw [hc];rfl
  simp only [e0,q02];rw [q0f];by_cases h4:400<ops.length
  ·refine ⟨true,?_⟩;unfold resC;rw [if_pos (by show (400:Int)<(ops.length:Int);omega),if_neg (by simpa using hc),if_pos h4]
  ·rw [if_neg (by show ¬(400:Int)<(ops.length:Int);omega)];have he:mkN (lenI ops) (lenI ops)=some ops.length:=by unfold mkN lenI;rw [if_pos (by omega)];rfl
   rw [he,q00];have hd:=qzs n1 n2 false h.2.2 ops (by omega) ops.length 0 [] (by omega) rfl;rw [List.nil_append,List.drop_zero] at hd;have hd:loopR l4_a2 (⟨n1,l⟩,⟨n2,ops⟩,lenI ops,0,⟨false,rep ops.length (([]:List Int),0,0)⟩,())=_:=hd;rw [hd];have res:∀q,resC q l ops=match q4m l ops with
     |none=>(⟨true,[]⟩,42,())
     |some fs=>match qgb fs with
      |none=>(⟨true,[]⟩,43,())
      |some x=>(⟨q,x⟩,0,()):=fun q=>by
    unfold resC;rw [if_neg (by simpa using hc),if_neg h4]
   cases hf:q4m l ops with
   |none=>refine ⟨true,?_⟩;rw [res,hf]
   |some fs=>obtain ⟨f1,f2⟩:=q7t hf;obtain ⟨_,hr,_⟩:=qnt hc;obtain ⟨q,hq⟩:=z1r false (fs:=fs) (by omega) (qnu hr f2);refine ⟨q,?_⟩;rw [res,hf];refine q05 ?_;unfold l4_a2;simp only [List.nil_append];rw [q0f,if_neg (by omega),hq]
 ·have e0:notB (eqI (q2c l) 0)=true:=by rw [q16 hc];rfl
  refine ⟨true,?_⟩;simp only [e0,q04];unfold resC;rw [if_pos hc]
end Fn
end Ev

namespace Ev
namespace Pz
abbrev Tx:=List Int
abbrev ND:=Int×Tx×Int×Int
abbrev Tk:=Int×Tx×Int×Int
abbrev PR (α:Type):=Except (Int×Int) α
structure PC where
 l:List Tk
 e:Int
 fx:Tx→Bool
 cl:List Tx→Option (List Int)
def eb {α β:Type} (x:PR α) (f:α→PR β):PR β:=match x with
 |.ok a=>f a
 |.error e=>.error e
variable (c:PC)
def plc (i:Nat):Int:=match c.l[i]? with
 |some t=>t.2.2.2
 |none=>c.e
def txt (i:Nat):Tx:=match c.l[i]? with
 |some t=>t.2.1
 |none=>[]
def num (i:Nat):Int:=match c.l[i]? with
 |some t=>t.2.2.1
 |none=>0
def isT (i:Nat) (k:Int):Bool:=match c.l[i]? with
 |some t=>decide (t.1=k)
 |none=>false
def isK (i:Nat) (ks:List Tx):Bool:=match c.l[i]? with
 |some t=>decide (t.1=6)&&decide (t.2.1∈ks)
 |none=>false
def kFun:Tx:=[102,117,110]
def kLet:Tx:=[108,101,116]
def kIf:Tx:=[105,102]
def qen:Tx:=[114,97,105,115,101]
def kTry:Tx:=[116,114,121]
def kRec:Tx:=[114,101,99]
def q44:Tx:=[45,62]
def kEq:Tx:=[61]
def kIn:Tx:=[105,110]
def qsy:Tx:=[116,104,101,110]
def qsz:Tx:=[101,108,115,101]
def qgc:Tx:=[109,97,116,99,104]
def qpv:Tx:=[119,105,116,104]
def kEnd:Tx:=[101,110,100]
def kBar:Tx:=[124]
def kL:Tx:=[40]
def kR:Tx:=[41]
def kAny:Tx:=[95]
def nd (k:Int) (s:Tx) (kids:List (List ND)):List ND:=(k,s,0,(kids.length:Int))::kids.flatten
def keyP (i:Nat) (s:Tx):PR Nat:=bif isK c i [s] then .ok (i+1) else .error (plc c i,70)
def q6v (i:Nat):PR (Tx×Nat):=
 bif isT c i 1 then .ok (txt c i,i+1) else
 bif isK c i [kL]&&isT c (i+1) 5 then eb (keyP c (i+2) kR) fun a=>.ok (txt c (i+1),a) else
 bif isK c i [kL] then .error (plc c (i+1),70) else .error (plc c i,70)
abbrev PT:=Nat→PR (List ND×Nat)
def q5l (self:PT):PT:=fun i=>
 bif isK c i [kAny] then .ok (nd 21 [] [],i+1) else
 bif isT c i 3 then .ok ([(23,[],num c i,0)],i+1) else
 bif isT c i 2 then .ok (nd 24 (txt c i) [],i+1) else
 bif isK c i [kL]&&!isT c (i+1) 5 then eb (self (i+1)) fun p=>eb (keyP c p.2 kR) fun a=>.ok (p.1,a) else
 eb (q6v c i) fun s=>.ok (nd 22 s.1 [],s.2)
def qbs (self:PT):Nat→Nat→List (List ND)→PR (List (List ND)×Nat)
 |0,i,acc=>.ok (acc,i)
 |f+1,i,acc=>bif isT c i 3||(isT c i 2||(isT c i 1||isK c i [kAny,kL])) then eb (q5l c self i) fun p=>qbs self f p.2 (acc++[p.1]) else .ok (acc,i)
def patP (self:PT):PT:=fun i=>bif isT c i 2 then eb (qbs c self (c.l.length+1) (i+1) []) fun p=>.ok (nd 24 (txt c i) p.1,p.2) else q5l c self i
def dpat:Nat→PT
 |0=>fun i=>.error (plc c i,73)
 |d+1=>patP c (dpat d)
def behP (self:PT) (i:Nat) (s:Tx):PR (List ND×Nat):=eb (keyP c i s) self
def q2x (i:Nat):Bool:=isT c i 3||(isT c i 4||(isT c i 1||(isT c i 2||isK c i [kL,qgc])))
def qam (self selfp:PT):Nat→Nat→List (List ND)→PR (List (List ND)×Nat)
 |0,i,acc=>.ok (acc,i)
 |f+1,i,acc=>eb (selfp i) fun p=>eb (behP c self p.2 q44) fun b=>bif isK c b.2 [kBar] then qam self selfp f (b.2+1) (acc++[p.1,b.1]) else .ok (acc++[p.1,b.1],b.2)
def q76 (self selfp:PT):PT:=fun i=>eb (self i) fun x=>eb (keyP c x.2 qpv) fun a=>eb (qam c self selfp (c.l.length+1) a [x.1]) fun r=>eb (keyP c r.2 kEnd) fun a2=>.ok (nd 10 [] r.1,a2)
def q7u (self selfp:PT):PT:=fun i=>
 bif q2x c i then
  bif isT c i 3 then .ok ([(1,[],num c i,0)],i+1) else
  bif isT c i 4 then .ok (nd 2 (txt c i) [],i+1) else
  bif isT c i 1 then .ok (nd 3 (txt c i) [],i+1) else
  bif isT c i 2 then .ok (nd 4 (txt c i) [],i+1) else
  bif decide (txt c i=qgc) then q76 c self selfp (i+1) else
  bif isT c (i+1) 5 then eb (keyP c (i+2) kR) fun a=>.ok (nd 3 (txt c (i+1)) [],a) else
  eb (self (i+1)) fun x=>eb (keyP c x.2 kR) fun a=>.ok (x.1,a)
 else .error (plc c i,70)
def q78 (self selfp:PT):Nat→Nat→List ND→PR (List ND×Nat)
 |0,i,l=>.ok (l,i)
 |f+1,i,l=>bif q2x c i then eb (q7u c self selfp i) fun m=>q78 self selfp f m.2 (nd 6 [] [l,m.1]) else .ok (l,i)
def appP (self selfp:PT):PT:=fun i=>eb (q7u c self selfp i) fun x=>q78 c self selfp (c.l.length+1) x.2 x.1
structure Row where
 apps:List (List ND)
 ops:List Tx
 at_:List Int
def opsP (self selfp:PT):Nat→Nat→Row→PR (Row×Nat)
 |0,i,r=>.ok (r,i)
 |f+1,i,r=>bif isT c i 5 then eb (appP c self selfp (i+1)) fun x=>opsP self selfp f x.2 ⟨r.apps++[x.1],r.ops++[txt c i],r.at_++[plc c i]⟩ else .ok (r,i)
def bld (apps:List (List ND)) (ops:List Tx):Nat→List Int→List ND×List Int
 |_,[]=>([],[])
 |0,x=>([],x)
 |f+1,k::x=>if k<0 then ((apps[(-1-k).toNat]?).getD [],x) else
  let a:=bld apps ops f x;let b:=bld apps ops f a.2
  (nd 6 [] [nd 6 [] [nd 3 ((ops[k.toNat]?).getD []) [],a.1],b.1],b.2)
def q79:List Tx→List Int→Option Int
 |s::ops,p::ps=>bif c.fx s then q79 ops ps else some p
 |_,_=>none
def rowE (first:Int) (r:Row) (i:Nat):PR (List ND×Nat):=
 if r.ops=[] then .ok ((r.apps[0]?).getD [],i) else
 match q79 c r.ops r.at_ with
 |some p=>.error (p,71)
 |none=>match c.cl r.ops with
  |none=>.error (first,72)
  |some x=>.ok ((bld r.apps r.ops x.length x).1,i)
def rowP (self selfp:PT):PT:=fun i=>eb (appP c self selfp i) fun x=>eb (opsP c self selfp (c.l.length+1) x.2 ⟨[x.1],[],[]⟩) fun r=>rowE c (plc c i) r.1 r.2
def q7a (self selfp:PT):PT:=fun i=>
 bif isK c i [kFun,kLet,kIf,qen,kTry] then
  bif decide (txt c i=kFun) then eb (q6v c (i+1)) fun s=>eb (behP c self s.2 q44) fun x=>.ok (nd 5 s.1 [x.1],x.2) else
  bif decide (txt c i=kLet) then eb (q6v c (bif isK c (i+1) [kRec] then i+2 else i+1)) fun s=>eb (behP c self s.2 kEq) fun x=>eb (behP c self x.2 kIn) fun y=>.ok (nd (bif isK c (i+1) [kRec] then 8 else 7) s.1 [x.1,y.1],y.2) else
  bif decide (txt c i=kIf) then eb (self (i+1)) fun x=>eb (behP c self x.2 qsy) fun y=>eb (behP c self y.2 qsz) fun z=>.ok (nd 9 [] [x.1,y.1,z.1],z.2) else
  bif decide (txt c i=qen) then eb (self (i+1)) fun x=>.ok (nd 11 [] [x.1],x.2) else
  eb (self (i+1)) fun x=>eb (keyP c x.2 qpv) fun a=>eb (q6v c a) fun s=>eb (behP c self s.2 q44) fun y=>.ok (nd 12 s.1 [x.1,y.1],y.2)
 else rowP c self selfp i
def dexp:Nat→PT
 |0=>fun i=>.error (plc c i,73)
 |d+1=>q7a c (dexp d) (dpat c d)
def allP:PR (List ND):=eb (dexp c 100 0) fun x=>if x.2<c.l.length then .error (plc c x.2,70) else .ok x.1
end Pz
end Ev

namespace Ev
namespace Pz
def shE {α:Type} (b:Int):PR α→PR α
 |.ok a=>.ok a
 |.error e=>.error (e.1+b,e.2)
def shC (b:Int) (c:PC):PC:=⟨c.l.map fun t=>(t.1,t.2.1,t.2.2.1,t.2.2.2+b),c.e+b,c.fx,c.cl⟩
theorem q6b {α β:Type} (b:Int) (x:PR α) (f:α→PR β):shE b (eb x f)=eb (shE b x) fun a=>shE b (f a):=by cases x<;>rfl
theorem q6w {α:Type} (b:Int) (t:Bool) (x y:PR α):shE b (bif t then x else y)=bif t then shE b x else shE b y:=by cases t<;>rfl
section
variable (b:Int) (c:PC)
theorem qk3:(shC b c).l.length=c.l.length:=zH _
theorem qk4 (i:Nat):(shC b c).l[i]?=(c.l[i]?).map fun t=>(t.1,t.2.1,t.2.2.1,t.2.2.2+b):=zY
theorem qcf (i:Nat):plc (shC b c) i=plc c i+b:=by unfold plc;rw [qk4];cases c.l[i]?<;>rfl
theorem qgd (i:Nat):txt (shC b c) i=txt c i:=by unfold txt;rw [qk4];cases c.l[i]?<;>rfl
theorem qxh (i:Nat):num (shC b c) i=num c i:=by unfold num;rw [qk4];cases c.l[i]?<;>rfl
theorem q8q (i:Nat) (k:Int):isT (shC b c) i k=isT c i k:=by unfold isT;rw [qk4];cases c.l[i]?<;>rfl
theorem qeo (i:Nat) (ks:List Tx):isK (shC b c) i ks=isK c i ks:=by unfold isK;rw [qk4];cases c.l[i]?<;>rfl
theorem qk5 (i:Nat):q2x (shC b c) i=q2x c i:=by unfold q2x;rw [q8q,q8q,q8q,q8q,qeo]
theorem qge (i:Nat) (s:Tx):keyP (shC b c) i s=shE b (keyP c i s):=by unfold keyP;rw [qeo,qcf,q6w];rfl
theorem qt0 (i:Nat):q6v (shC b c) i=shE b (q6v c i):=by unfold q6v;simp only [q8q,qeo,qcf,qgd,qge,q6w,q6b];rfl
variable {b} {self self' selfp selfp':PT}
theorem qxi (h:∀i,self' i=shE b (self i)) (i:Nat) (s:Tx):behP (shC b c) self' i s=shE b (behP c self i s):=by unfold behP;rw [qge,q6b];congr 1;funext a;exact h a
theorem qnv (h:∀i,self' i=shE b (self i)) (i:Nat):q5l (shC b c) self' i=shE b (q5l c self i):=by unfold q5l;simp only [q8q,qeo,qgd,qxh,qge,qt0,h,q6w,q6b];rfl
theorem qt1 (h:∀i,self' i=shE b (self i)):∀(f i:Nat) (acc:List (List ND)),qbs (shC b c) self' f i acc=shE b (qbs c self f i acc)
 |0,i,acc=>rfl
 |f+1,i,acc=>by unfold qbs;simp only [q8q,qeo,qnv c h,qt1 h f,q6w,q6b];rfl
theorem z1s (h:∀i,self' i=shE b (self i)) (i:Nat):patP (shC b c) self' i=shE b (patP c self i):=by unfold patP;simp only [q8q,qgd,qk3,qt1 c h,qnv c h,q6w,q6b];rfl
theorem qt2:∀(d i:Nat),dpat (shC b c) d i=shE b (dpat c d i)
 |0,i=>by show Except.error (plc (shC b c) i,73)=_;rw [qcf];rfl
 |d+1,i=>z1s c (qt2 d) i
theorem qt3 (h:∀i,self' i=shE b (self i)) (hp:∀i,selfp' i=shE b (selfp i)):∀(f i:Nat) (acc:List (List ND)),qam (shC b c) self' selfp' f i acc=shE b (qam c self selfp f i acc)
 |0,i,acc=>rfl
 |f+1,i,acc=>by unfold qam;simp only [hp,qeo,qxi c h,qt3 h hp f,q6w,q6b];rfl
theorem qw8 (h:∀i,self' i=shE b (self i)) (hp:∀i,selfp' i=shE b (selfp i)) (i:Nat):q76 (shC b c) self' selfp' i=shE b (q76 c self selfp i):=by unfold q76;simp only [h,qge,qk3,qt3 c h hp,q6b];rfl
theorem qt4 (h:∀i,self' i=shE b (self i)) (hp:∀i,selfp' i=shE b (selfp i)) (i:Nat):q7u (shC b c) self' selfp' i=shE b (q7u c self selfp i):=by unfold q7u;simp only [qk5,q8q,qgd,qxh,qcf,h,qge,qw8 c h hp,q6w,q6b];rfl
theorem qt5 (h:∀i,self' i=shE b (self i)) (hp:∀i,selfp' i=shE b (selfp i)):∀(f i:Nat) (l:List ND),q78 (shC b c) self' selfp' f i l=shE b (q78 c self selfp f i l)
 |0,i,l=>rfl
 |f+1,i,l=>by unfold q78;simp only [qk5,qt4 c h hp,qt5 h hp f,q6w,q6b];rfl
theorem qxj (h:∀i,self' i=shE b (self i)) (hp:∀i,selfp' i=shE b (selfp i)) (i:Nat):appP (shC b c) self' selfp' i=shE b (appP c self selfp i):=by unfold appP;simp only [qk3,qt4 c h hp,qt5 c h hp,q6b]
def shR (b:Int) (r:Row):Row:=⟨r.apps,r.ops,r.at_.map fun p=>p+b⟩
theorem qxk (h:∀i,self' i=shE b (self i)) (hp:∀i,selfp' i=shE b (selfp i)):∀(f i:Nat) (r:Row),opsP (shC b c) self' selfp' f i (shR b r)=eb (shE b (opsP c self selfp f i r)) fun z=>.ok (shR b z.1,z.2)
 |0,i,r=>rfl
 |f+1,i,r=>by
  unfold opsP;rw [q8q];cases isT c i 5 with
  |false=>rfl
  |true=>
   simp only [cond_true,qxj c h hp,qgd,qcf];cases hc:appP c self selfp (i+1) with
   |error e=>rfl
   |ok x=>
    show opsP (shC b c) self' selfp' f x.2 ⟨r.apps++[x.1],r.ops++[txt c i],r.at_.map (fun p=>p+b)++[plc c i+b]⟩=_;have e:(⟨r.apps++[x.1],r.ops++[txt c i],r.at_.map (fun p=>p+b)++[plc c i+b]⟩:Row)=shR b ⟨r.apps++[x.1],r.ops++[txt c i],r.at_++[plc c i]⟩:=by unfold shR;rw [zR];rfl
    rw [e];exact qxk h hp f x.2 _
theorem qnw:∀(ops:List Tx) (ps:List Int),q79 (shC b c) ops (ps.map fun p=>p+b)=(q79 c ops ps).map fun p=>p+b
 |[],ps=>by cases ps<;>rfl
 |s::ops,[]=>rfl
 |s::ops,p::ps=>by show (bif c.fx s then q79 (shC b c) ops (ps.map fun p=>p+b) else some (p+b))=_;rw [qnw ops ps];show _=(bif c.fx s then q79 c ops ps else some p).map fun p=>p+b;cases c.fx s<;>rfl
theorem qzt (first:Int) (r:Row) (i:Nat):rowE (shC b c) (first+b) (shR b r) i=shE b (rowE c first r i):=by
 unfold rowE;have e1:(shR b r).ops=r.ops:=rfl;have e2:(shR b r).apps=r.apps:=rfl;have e3:(shR b r).at_=r.at_.map fun p=>p+b:=rfl;have e4:(shC b c).cl=c.cl:=rfl;rw [e1,e2,e3,e4,qnw];by_cases h0:r.ops=[]
 ·rw [if_pos h0,if_pos h0];rfl
 ·rw [if_neg h0,if_neg h0];cases q79 c r.ops r.at_ with
  |some p=>rfl
  |none=>show (match c.cl r.ops with|none=>_|some x=>_)=shE b (match c.cl r.ops with|none=>_|some x=>_);cases c.cl r.ops<;>rfl
theorem z1t (h:∀i,self' i=shE b (self i)) (hp:∀i,selfp' i=shE b (selfp i)) (i:Nat):rowP (shC b c) self' selfp' i=shE b (rowP c self selfp i):=by
 unfold rowP;rw [qxj c h hp,qk3,q6b];cases appP c self selfp i with
 |error e=>rfl
 |ok x=>
  have ho:opsP (shC b c) self' selfp' (c.l.length+1) x.2 ⟨[x.1],[],[]⟩=eb (shE b (opsP c self selfp (c.l.length+1) x.2 ⟨[x.1],[],[]⟩)) fun z=>.ok (shR b z.1,z.2):=qxk c h hp (c.l.length+1) x.2 ⟨[x.1],[],[]⟩;show eb (opsP (shC b c) self' selfp' (c.l.length+1) x.2 ⟨[x.1],[],[]⟩) _=shE b (eb (opsP c self selfp (c.l.length+1) x.2 ⟨[x.1],[],[]⟩) _);rw [ho];cases opsP c self selfp (c.l.length+1) x.2 ⟨[x.1],[],[]⟩ with
  |error e=>rfl
  |ok r=>show rowE (shC b c) (plc (shC b c) i) (shR b r.1) r.2=shE b (rowE c (plc c i) r.1 r.2);rw [qcf,qzt]
theorem qzu (h:∀i,self' i=shE b (self i)) (hp:∀i,selfp' i=shE b (selfp i)) (i:Nat):q7a (shC b c) self' selfp' i=shE b (q7a c self selfp i):=by unfold q7a;simp only [qeo,qgd,qt0,qxi c h,qge,h,z1t c h hp,q6w,q6b];rfl
theorem qt6:∀(d i:Nat),dexp (shC b c) d i=shE b (dexp c d i)
 |0,i=>by show Except.error (plc (shC b c) i,73)=_;rw [qcf];rfl
 |d+1,i=>qzu c (qt6 d) (qt2 c d) i
theorem z1u:allP (shC b c)=shE b (allP c):=by
 unfold allP;rw [qt6,q6b];congr 1;funext x;rw [qk3,qcf];by_cases h:x.2<c.l.length
 ·rw [if_pos h,if_pos h];rfl
 ·rw [if_neg h,if_neg h];rfl
end
end Pz
end Ev

namespace Ev
namespace Pz
inductive Bt:Nat→Nat→List Int→Prop
 |leaf (a:Nat):Bt a a [-1-(a:Int)]
 |node (a r b:Nat) (x y:List Int):a≤r→r<b→Bt a r x→Bt (r+1) b y→Bt a b ((r:Int)::(x++y))
theorem Bt.le {a b:Nat} {x:List Int} (h:Bt a b x):a≤b:=by
 cases h with
 |leaf=>exact Nat.le_refl _
 |node _ r _ _ _ h1 h2=>omega
def tot (l:List (List ND)):Nat:=l.flatten.length+l.length
theorem q7v (l:List (List ND)) (a:List ND):tot (l++[a])=tot l+(a.length+1):=by unfold tot;simp only [List.flatten_append,List.flatten_cons,List.flatten_nil,zh,ze,List.length_nil];omega
theorem q1m (k:Int) (s:Tx) (kids:List (List ND)):(nd k s kids).length=kids.flatten.length+1:=by simp [nd]
def seg (apps:List (List ND)) (a b:Nat):List (List ND):=(apps.take (b+1)).drop a
theorem qzv {apps:List (List ND)} {a:Nat} (h:a<apps.length):seg apps a a=[apps[a]]:=by
 unfold seg;apply List.ext_getElem
 ·simp only [zw,zM,ze,List.length_nil];omega
 ·intro i h1 h2;simp only [ze,List.length_nil] at h2;obtain rfl:i=0:=by omega
  simp
theorem qt7 {apps:List (List ND)} {a r b:Nat} (h1:a≤r) (h2:r<b) (h3:b<apps.length):seg apps a b=seg apps a r++seg apps (r+1) b:=by
 unfold seg;apply List.ext_getElem
 ·simp only [zh,zw,zM];omega
 ·intro i g1 g2;simp only [zw,zM] at g1;rw [List.getElem_append];split
  ·next h=>simp
  ·next h=>simp only [zw,zM] at h;simp only [List.getElem_drop,List.getElem_take,zw,zM];congr 1;omega
theorem qt8 {apps:List (List ND)} {ops:List Tx} {P:ND→Prop} (hP:∀a,a∈apps→∀d,d∈a→P d) (hv:∀s,s∈ops→P (3,s,0,0)) (hn:P (6,[],0,2)):∀{a b:Nat} {x:List Int},Bt a b x→b<apps.length→b≤ops.length→∀(f:Nat) (post:List Int),x.length≤f→∃t,bld apps ops f (x++post)=(t,post)∧t.length=(seg apps a b).flatten.length+3*(b-a)∧∀d,d∈t→P d:=by
 intro a b x h
 induction h with
 |leaf a=>
  intro h1 h2 f post hf;obtain ⟨f,rfl⟩:∃g,f=g+1:=⟨f-1,by simp only [ze,List.length_nil] at hf;omega⟩;refine ⟨apps[a],?_,?_,hP _ (List.getElem_mem h1)⟩
  ·show (if -1-(a:Int)<0 then ((apps[(-1-(-1-(a:Int))).toNat]?).getD [],post) else _)=_;rw [if_pos (by omega)];have e:(-1-(-1-(a:Int))).toNat=a:=by omega
   rw [e,zg h1];rfl
  ·rw [qzv h1];simp
 |node a r b x y g1 g2 hx hy ihx ihy=>
  intro h1 h2 f post hf;simp only [ze,zh] at hf;obtain ⟨f,rfl⟩:∃g,f=g+1:=⟨f-1,by omega⟩;obtain ⟨t1,e1,l1,p1⟩:=ihx (by omega) (by omega) f (y++post) (by omega);obtain ⟨t2,e2,l2,p2⟩:=ihy h1 h2 f post (by omega);have hr:r<ops.length:=by omega
  have hg:(ops[((r:Int)).toNat]?).getD []=ops[r]:=by rw [Int.toNat_natCast,zg hr];rfl
  refine ⟨nd 6 [] [nd 6 [] [nd 3 (ops[r]) [],t1],t2],?_,?_,?_⟩
  ·show (if (r:Int)<0 then _ else (nd 6 [] [nd 6 [] [nd 3 ((ops[((r:Int)).toNat]?).getD []) [],(bld apps ops f ((x++y)++post)).1],(bld apps ops f (bld apps ops f ((x++y)++post)).2).1],(bld apps ops f (bld apps ops f ((x++y)++post)).2).2))=_;rw [if_neg (by omega),zu,e1];simp only;rw [e2,hg]
  ·have:=hy.le;rw [qt7 g1 g2 h1];simp only [q1m,List.flatten_cons,List.flatten_nil,zh,List.flatten_append,List.length_nil];omega
  ·intro d hd;simp only [nd,List.flatten_cons,List.flatten_nil,zo,ze,List.length_nil,zn,zO,List.cons_append,List.nil_append] at hd;rcases hd with hd|hd|hd|hd|hd
   ·rw [hd];exact hn
   ·rw [hd];exact hn
   ·rw [hd];exact hv _ (List.getElem_mem hr)
   ·exact p1 d hd
   ·exact p2 d hd
def EOk (E:Int) (e:Int×Int):Prop:=(0≤e.1∧e.1≤E)∧70≤e.2∧e.2≤73
def Oks {α:Type} (E:Int) (A:α→Prop) (x:PR α):Prop:=match x with
 |.ok a=>A a
 |.error e=>EOk E e
theorem Oks.eb {α β:Type} {E:Int} {A:α→Prop} {B:β→Prop} {x:PR α} {f:α→PR β} (hx:Oks E A x) (h:∀a,A a→Oks E B (f a)):Oks E B (eb x f):=by
 cases x with
 |ok a=>exact h a hx
 |error e=>exact hx
theorem Oks.bif {α:Type} {E:Int} {A:α→Prop} {t:Bool} {x y:PR α} (hx:t=true→Oks E A x) (hy:t=false→Oks E A y):Oks E A (bif t then x else y):=by
 cases t with
 |true=>exact hx rfl
 |false=>exact hy rfl
theorem Oks.ok {α:Type} {E:Int} {A:α→Prop} {a:α} (h:A a):Oks E A (.ok a):=h
structure Inp (c:PC) (E:Int) (Q:Tx→Prop) (N:Int→Prop):Prop where
 tk:∀t,t∈c.l→Q t.2.1∧N t.2.2.1∧0≤t.2.2.2∧t.2.2.2≤E
 e0:0≤c.e
 e1:c.e≤E
 q0:Q []
 n0:N 0
 cl:∀ops x,c.cl ops=some x→Bt 0 ops.length x
section
variable {c:PC} {E:Int} {Q:Tx→Prop} {N:Int→Prop}
def GN (Q:Tx→Prop) (N:Int→Prop) (d:ND):Prop:=Q d.2.1∧N d.2.2.1
def GLs (Q:Tx→Prop) (N:Int→Prop) (l:List ND):Prop:=∀d,d∈l→GN Q N d
variable (c Q N) in
def AN (i:Nat) (x:List ND×Nat):Prop:=i<x.2∧x.2≤c.l.length∧x.1.length+1≤3*(x.2-i)∧GLs Q N x.1
theorem GLs.nd {k:Int} {s:Tx} {kids:List (List ND)} (hi:N 0) (hs:Q s) (h:GLs Q N kids.flatten):GLs Q N (nd k s kids):=by
 intro d hd;unfold Pz.nd at hd;rcases zn.1 hd with hd|hd
 ·rw [hd];exact ⟨hs,hi⟩
 ·exact h d hd
theorem GLs.nil:GLs Q N []:=fun _ h=>absurd h (List.not_mem_nil)
theorem GLs.app {a b:List ND} (h1:GLs Q N a) (h2:GLs Q N b):GLs Q N (a++b):=fun d hd=>(zO.1 hd).elim (h1 d) (h2 d)
theorem GLs.one {a:List ND} (h1:GLs Q N a):GLs Q N [a].flatten:=by rw [List.flatten_cons,List.flatten_nil,zo];exact h1
theorem GLs.two {a b:List ND} (h1:GLs Q N a) (h2:GLs Q N b):GLs Q N [a,b].flatten:=by rw [List.flatten_cons];exact h1.app h2.one
theorem GLs.three {a b d:List ND} (h1:GLs Q N a) (h2:GLs Q N b) (h3:GLs Q N d):GLs Q N [a,b,d].flatten:=by rw [List.flatten_cons];exact h1.app (h2.two h3)
theorem GLs.snoc {l:List (List ND)} {a:List ND} (h1:GLs Q N l.flatten) (h2:GLs Q N a):GLs Q N (l++[a]).flatten:=by rw [List.flatten_append];exact h1.app h2.one
variable (H:Inp c E Q N)
include H
theorem qnx (i:Nat):0≤plc c i∧plc c i≤E:=by
 unfold plc;cases h:c.l[i]? with
 |none=>exact ⟨H.e0,H.e1⟩
 |some t=>exact (H.tk t (zQ h)).2.2
theorem qep {α:Type} {A:α→Prop} (i:Nat) {k:Int} (h1:70≤k) (h2:k≤73):Oks E A (.error (plc c i,k):PR α):=⟨qnx H i,h1,h2⟩
theorem q8r (i:Nat):Q (txt c i):=by
 unfold txt;cases h:c.l[i]? with
 |none=>exact H.q0
 |some t=>exact (H.tk t (zQ h)).1
theorem qxl (i:Nat):N (num c i):=by
 unfold num;cases h:c.l[i]? with
 |none=>exact H.n0
 |some t=>exact (H.tk t (zQ h)).2.1
omit H in
theorem q2p {i:Nat} {k:Int} (h:isT c i k=true):i<c.l.length:=by
 unfold isT at h;cases e:c.l[i]? with
 |none=>rw [e] at h;cases h
 |some t=>exact (zE.1 e).1
omit H in
theorem q4l {i:Nat} {k:List Tx} (h:isK c i k=true):i<c.l.length:=by
 unfold isK at h;cases e:c.l[i]? with
 |none=>rw [e] at h;cases h
 |some t=>exact (zE.1 e).1
theorem qcg (i:Nat) (s:Tx):Oks E (fun j=>j=i+1∧i<c.l.length) (keyP c i s):=by unfold keyP;exact Oks.bif (fun h=>⟨rfl,q4l h⟩) fun _=>qep H i (by decide) (by decide)
theorem qeq (i:Nat):Oks E (fun x=>Q x.1∧i<x.2∧x.2≤c.l.length) (q6v c i):=by unfold q6v;refine Oks.bif (fun h=>⟨q8r H i,Nat.lt_succ_self _,q2p h⟩) fun _=>Oks.bif (fun h=>?_) fun _=>Oks.bif (fun _=>qep H _ (by decide) (by decide)) fun _=>qep H _ (by decide) (by decide);refine (qcg H (i+2) kR).eb fun a ha=>?_;exact ⟨q8r H _,by simp only;omega,by simp only;omega⟩
variable {self selfp:PT}
theorem qhs (h:∀i,Oks E (AN c Q N i) (self i)) (i:Nat):Oks E (AN c Q N i) (q5l c self i):=by
 unfold q5l;refine Oks.bif (fun t=>?_) fun _=>Oks.bif (fun t=>?_) fun _=>Oks.bif (fun t=>?_) fun _=>Oks.bif (fun t=>?_) fun _=>?_
 ·have:=q4l t;refine Oks.ok ⟨Nat.lt_succ_self _,this,?_,GLs.nd H.n0 H.q0 GLs.nil⟩;show 2≤3*(i+1-i);omega
 ·have:=q2p t;refine Oks.ok ⟨Nat.lt_succ_self _,this,?_,fun d hd=>?_⟩
  ·show 2≤3*(i+1-i);omega
  ·rw [zN.1 hd];exact ⟨H.q0,qxl H i⟩
 ·have:=q2p t;refine Oks.ok ⟨Nat.lt_succ_self _,this,?_,GLs.nd H.n0 (q8r H i) GLs.nil⟩;show 2≤3*(i+1-i);omega
 ·refine (h (i+1)).eb fun p hp=>(qcg H p.2 kR).eb fun a ha=>?_;obtain ⟨h1,h2,h3,h4⟩:=hp;refine Oks.ok ⟨by simp only;omega,by simp only;omega,?_,h4⟩;show p.1.length+1≤3*(a-i);omega
 ·refine (qeq H i).eb fun s hs=>?_;obtain ⟨h1,h2,h3⟩:=hs;refine Oks.ok ⟨h2,h3,?_,GLs.nd H.n0 h1 GLs.nil⟩;show 2≤3*(s.2-i);omega
theorem qt9 (h:∀i,Oks E (AN c Q N i) (self i)):∀(f i:Nat) (acc:List (List ND)),i≤c.l.length→GLs Q N acc.flatten→Oks E (fun x=>i≤x.2∧x.2≤c.l.length∧tot x.1≤tot acc+3*(x.2-i)∧GLs Q N x.1.flatten) (qbs c self f i acc)
 |0,i,acc,hi,hg=>⟨Nat.le_refl _,hi,by simp only;omega,hg⟩
 |f+1,i,acc,hi,hg=>by
  unfold qbs;refine Oks.bif (fun t=>?_) fun _=>⟨Nat.le_refl _,hi,by simp only;omega,hg⟩;refine (qhs H h i).eb fun p hp=>?_;obtain ⟨h1,h2,h3,h4⟩:=hp;have r:=qt9 h f p.2 (acc++[p.1]) h2 (hg.snoc h4);revert r;cases qbs c self f p.2 (acc++[p.1]) with
  |error e=>exact id
  |ok x=>rintro ⟨r1,r2,r3,r4⟩;rw [q7v] at r3;exact ⟨by omega,r2,by omega,r4⟩
theorem z1v (h:∀i,Oks E (AN c Q N i) (self i)) (i:Nat):Oks E (AN c Q N i) (patP c self i):=by unfold patP;refine Oks.bif (fun t=>?_) fun _=>qhs H h i;refine (qt9 H h _ (i+1) [] (q2p t) GLs.nil).eb fun p hp=>?_;obtain ⟨h1,h2,h3,h4⟩:=hp;refine Oks.ok ⟨by simp only;omega,h2,?_,GLs.nd H.n0 (q8r H i) h4⟩;show (nd _ _ _).length+1≤_;rw [q1m];have:tot ([]:List (List ND))=0:=rfl;unfold tot at h3;simp only at h3 ⊢;simp only [List.flatten_nil,List.length_nil] at h3;omega
theorem qht:∀(d i:Nat),Oks E (AN c Q N i) (dpat c d i)
 |0,i=>qep H i (by decide) (by decide)
 |d+1,i=>z1v H (qht d) i
theorem q5m (h:∀i,Oks E (AN c Q N i) (self i)) (i:Nat) (s:Tx):Oks E (fun x=>AN c Q N (i+1) x) (behP c self i s):=by unfold behP;refine (qcg H i s).eb fun a ha=>?_;rw [ha.1];exact h (i+1)
theorem qta (h:∀i,Oks E (AN c Q N i) (self i)) (hp:∀i,Oks E (AN c Q N i) (selfp i)):∀(f i:Nat) (acc:List (List ND)),i≤c.l.length→GLs Q N acc.flatten→Oks E (fun x=>i≤x.2∧x.2≤c.l.length∧tot x.1≤tot acc+3*(x.2-i)∧GLs Q N x.1.flatten) (qam c self selfp f i acc)
 |0,i,acc,hi,hg=>⟨Nat.le_refl _,hi,by simp only;omega,hg⟩
 |f+1,i,acc,hi,hg=>by
  unfold qam;refine (hp i).eb fun p ⟨p1,p2,p3,p4⟩=>(q5m H h p.2 q44).eb fun b ⟨b1,b2,b3,b4⟩=>?_;have e:acc++[p.1,b.1]=acc++[p.1]++[b.1]:=by simp
  refine Oks.bif (fun t=>?_) fun _=>?_
  ·have:=q4l t;have r:=qta h hp f (b.2+1) (acc++[p.1,b.1]) (by omega) (by rw [e];exact (hg.snoc p4).snoc b4);revert r;cases qam c self selfp f (b.2+1) (acc++[p.1,b.1]) with
   |error e=>exact id
   |ok x=>rintro ⟨r1,r2,r3,r4⟩;rw [e,q7v,q7v] at r3;exact ⟨by omega,r2,by omega,r4⟩
  ·refine Oks.ok ⟨by simp only;omega,b2,?_,?_⟩
   ·simp only;rw [e,q7v,q7v];omega
   ·simp only;rw [e];exact (hg.snoc p4).snoc b4
theorem qw9 (h:∀i,Oks E (AN c Q N i) (self i)) (hp:∀i,Oks E (AN c Q N i) (selfp i)) (i:Nat):Oks E (AN c Q N i) (q76 c self selfp i):=by
 unfold q76;refine (h i).eb fun x ⟨x1,x2,x3,x4⟩=>(qcg H x.2 qpv).eb fun a ⟨a1,a2⟩=>?_;refine (qta H h hp _ a [x.1] (by omega) x4.one).eb fun r ⟨r1,r2,r3,r4⟩=>(qcg H r.2 kEnd).eb fun b ⟨b1,b2⟩=>?_;refine Oks.ok ⟨by simp only;omega,by simp only;omega,?_,GLs.nd H.n0 H.q0 r4⟩;show (nd _ _ _).length+1≤_;rw [q1m];have e:tot [x.1]=x.1.length+1:=by unfold tot;simp
 rw [e] at r3;unfold tot at r3;simp only at r3 ⊢;omega
theorem qhu (h:∀i,Oks E (AN c Q N i) (self i)) (hp:∀i,Oks E (AN c Q N i) (selfp i)) (i:Nat):Oks E (AN c Q N i) (q7u c self selfp i):=by
 unfold q7u;refine Oks.bif (fun _=>?_) fun _=>qep H i (by decide) (by decide);refine Oks.bif (fun t=>?_) fun _=>Oks.bif (fun t=>?_) fun _=>Oks.bif (fun t=>?_) fun _=>Oks.bif (fun t=>?_) fun _=>Oks.bif (fun t=>?_) fun _=>Oks.bif (fun t=>?_) fun _=>?_
 ·have:=q2p t;refine Oks.ok ⟨Nat.lt_succ_self _,this,?_,fun d hd=>?_⟩
  ·show 2≤3*(i+1-i);omega
  ·rw [zN.1 hd];exact ⟨H.q0,qxl H i⟩
 ·have:=q2p t;refine Oks.ok ⟨Nat.lt_succ_self _,this,?_,GLs.nd H.n0 (q8r H i) GLs.nil⟩;show 2≤3*(i+1-i);omega
 ·have:=q2p t;refine Oks.ok ⟨Nat.lt_succ_self _,this,?_,GLs.nd H.n0 (q8r H i) GLs.nil⟩;show 2≤3*(i+1-i);omega
 ·have:=q2p t;refine Oks.ok ⟨Nat.lt_succ_self _,this,?_,GLs.nd H.n0 (q8r H i) GLs.nil⟩;show 2≤3*(i+1-i);omega
 ·have r:=qw9 H h hp (i+1);revert r;cases q76 c self selfp (i+1) with
  |error e=>exact id
  |ok x=>rintro ⟨r1,r2,r3,r4⟩;exact ⟨by omega,r2,by omega,r4⟩
 ·refine (qcg H (i+2) kR).eb fun a ⟨a1,a2⟩=>?_;refine Oks.ok ⟨by simp only;omega,by simp only;omega,?_,GLs.nd H.n0 (q8r H _) GLs.nil⟩;show 2≤3*(a-i);omega
 ·refine (h (i+1)).eb fun x ⟨x1,x2,x3,x4⟩=>(qcg H x.2 kR).eb fun a ⟨a1,a2⟩=>?_;refine Oks.ok ⟨by simp only;omega,by simp only;omega,?_,x4⟩;show x.1.length+1≤3*(a-i);omega
theorem qtb (h:∀i,Oks E (AN c Q N i) (self i)) (hp:∀i,Oks E (AN c Q N i) (selfp i)) (i0:Nat):∀(f i:Nat) (l:List ND),AN c Q N i0 (l,i)→Oks E (AN c Q N i0) (q78 c self selfp f i l)
 |0,i,l,hl=>hl
 |f+1,i,l,hl=>by
  unfold q78;refine Oks.bif (fun _=>?_) fun _=>hl;refine (qhu H h hp i).eb fun m ⟨m1,m2,m3,m4⟩=>?_;obtain ⟨l1,l2,l3,l4⟩:=hl;refine qtb h hp i0 f m.2 _ ⟨by simp only at*;omega,m2,?_,GLs.nd H.n0 H.q0 (l4.two m4)⟩;show (nd _ _ _).length+1≤_;rw [q1m];simp only [List.flatten_cons,List.flatten_nil,zo,zh];simp only at*
  omega
theorem qny (h:∀i,Oks E (AN c Q N i) (self i)) (hp:∀i,Oks E (AN c Q N i) (selfp i)) (i:Nat):Oks E (AN c Q N i) (appP c self selfp i):=by unfold appP;exact (qhu H h hp i).eb fun x hx=>qtb H h hp i _ x.2 x.1 hx
omit H in
variable (c E Q N) in
structure RI (i0 i:Nat) (r:Row):Prop where
 n1:r.apps.length=r.ops.length+1
 n2:r.at_.length=r.ops.length
 m:tot r.apps+3*r.ops.length≤3*(i-i0)
 gt:i0<i
 le:i≤c.l.length
 g1:∀a,a∈r.apps→∀d,d∈a→GN Q N d
 g2:∀s,s∈r.ops→Q s
 g3:∀p,p∈r.at_→0≤p∧p≤E
theorem qxm (h:∀i,Oks E (AN c Q N i) (self i)) (hp:∀i,Oks E (AN c Q N i) (selfp i)) (i0:Nat):∀(f i:Nat) (r:Row),RI c E Q N i0 i r→Oks E (fun x=>RI c E Q N i0 x.2 x.1) (opsP c self selfp f i r)
 |0,i,r,hr=>hr
 |f+1,i,r,hr=>by
  unfold opsP;refine Oks.bif (fun t=>?_) fun _=>hr;refine (qny H h hp (i+1)).eb fun x ⟨x1,x2,x3,x4⟩=>qxm h hp i0 f x.2 _ ?_;have:=hr.gt;have hm:=hr.m;refine ⟨?_,?_,?_,by omega,x2,?_,?_,?_⟩
  ·simp only [zh,ze,List.length_nil,hr.n1]
  ·simp only [zh,ze,List.length_nil,hr.n2]
  ·simp only [q7v,zh,ze,List.length_nil];omega
  ·intro a ha;rcases zO.1 ha with ha|ha
   ·exact hr.g1 a ha
   ·rw [zN.1 ha];exact x4
  ·intro a ha;rcases zO.1 ha with ha|ha
   ·exact hr.g2 a ha
   ·rw [zN.1 ha];exact q8r H i
  ·intro a ha;rcases zO.1 ha with ha|ha
   ·exact hr.g3 a ha
   ·rw [zN.1 ha];exact qnx H i
omit H in
theorem qk6:∀(ops:List Tx) (ps:List Int) (p:Int),q79 c ops ps=some p→p∈ps
 |[],ps,p,h=>by cases ps<;>cases h
 |s::ops,[],p,h=>by cases h
 |s::ops,q::ps,p,h=>by
  have h:(bif c.fx s then q79 c ops ps else some q)=some p:=h;cases e:c.fx s with
  |true=>rw [e] at h;exact zm _ (qk6 ops ps p h)
  |false=>rw [e] at h;injection h with h;rw [h];exact zj ..
theorem qzw {i0 i:Nat} {r:Row} (hr:RI c E Q N i0 i r) {first:Int} (h1:0≤first∧first≤E):Oks E (AN c Q N i0) (rowE c first r i):=by
 have hm:=hr.m;have hn:=hr.n1;have hg:=hr.gt;unfold rowE;by_cases h0:r.ops=[]
 ·rw [if_pos h0];have hl:r.apps.length=1:=by rw [hn,h0];rfl
  match ha:r.apps,hl with
  |[a],_=>
   rw [ha,h0] at hm;have e:tot [a]=a.length+1:=by unfold tot;simp
   rw [e] at hm;simp only [List.length_nil] at hm;refine Oks.ok ⟨hg,hr.le,?_,hr.g1 a (by rw [ha];exact zN.2 rfl)⟩;show a.length+1≤_;simp only;omega
 ·rw [if_neg h0];cases hf:q79 c r.ops r.at_ with
  |some p=>exact ⟨hr.g3 p (qk6 _ _ _ hf),(by decide:(70:Int)≤71),(by decide:(71:Int)≤73)⟩
  |none=>
   cases hc:c.cl r.ops with
   |none=>exact ⟨h1,(by decide:(70:Int)≤72),(by decide:(72:Int)≤73)⟩
   |some x=>
    obtain ⟨t,e1,e2,e3⟩:=qt8 (P:=GN Q N) hr.g1 (fun s hs=>⟨hr.g2 s hs,H.n0⟩) ⟨H.q0,H.n0⟩ (H.cl _ _ hc) (by omega) (Nat.le_refl _) x.length [] (Nat.le_refl _);rw [zo] at e1;show Oks E (AN c Q N i0) (.ok ((bld r.apps r.ops x.length x).1,i));rw [e1];refine Oks.ok ⟨hg,hr.le,?_,e3⟩;have es:seg r.apps 0 r.ops.length=r.apps:=by unfold seg;rw [List.drop_zero,zW (by omega)]
    rw [es] at e2;unfold tot at hm;simp only;omega
theorem z1w (h:∀i,Oks E (AN c Q N i) (self i)) (hp:∀i,Oks E (AN c Q N i) (selfp i)) (i:Nat):Oks E (AN c Q N i) (rowP c self selfp i):=by
 unfold rowP;refine (qny H h hp i).eb fun x ⟨x1,x2,x3,x4⟩=>(qxm H h hp i _ x.2 ⟨[x.1],[],[]⟩ ?_).eb fun r hr=>qzw H hr (qnx H i);have e:tot [x.1]=x.1.length+1:=by unfold tot;simp
 refine ⟨rfl,rfl,?_,x1,x2,?_,(fun _ h=>absurd h (List.not_mem_nil)),(fun _ h=>absurd h (List.not_mem_nil))⟩
 ·simp only [e,List.length_nil];omega
 ·intro a ha;rw [zN.1 ha];exact x4
theorem qzx (h:∀i,Oks E (AN c Q N i) (self i)) (hp:∀i,Oks E (AN c Q N i) (selfp i)) (i:Nat):Oks E (AN c Q N i) (q7a c self selfp i):=by
 unfold q7a;refine Oks.bif (fun _=>?_) fun _=>z1w H h hp i;refine Oks.bif (fun _=>?_) fun _=>Oks.bif (fun _=>?_) fun _=>Oks.bif (fun _=>?_) fun _=>Oks.bif (fun _=>?_) fun _=>?_
 ·refine (qeq H (i+1)).eb fun s ⟨s1,s2,s3⟩=>(q5m H h s.2 q44).eb fun x ⟨x1,x2,x3,x4⟩=>?_;refine Oks.ok ⟨by simp only;omega,x2,?_,GLs.nd H.n0 s1 x4.one⟩;show (nd _ _ _).length+1≤_;rw [q1m];simp only [List.flatten_cons,List.flatten_nil,zo];omega
 ·refine (qeq H _).eb fun s ⟨s1,s2,s3⟩=>(q5m H h s.2 kEq).eb fun x ⟨x1,x2,x3,x4⟩=>(q5m H h x.2 kIn).eb fun y ⟨y1,y2,y3,y4⟩=>?_;have hs:i+1<s.2:=by revert s2;cases isK c (i+1) [kRec]<;>simp only [cond_true,cond_false]<;>omega
  refine Oks.ok ⟨by simp only;omega,y2,?_,GLs.nd H.n0 s1 (x4.two y4)⟩;show (nd _ _ _).length+1≤_;rw [q1m];simp only [List.flatten_cons,List.flatten_nil,zo,zh];omega
 ·refine (h (i+1)).eb fun x ⟨x1,x2,x3,x4⟩=>(q5m H h x.2 qsy).eb fun y ⟨y1,y2,y3,y4⟩=>(q5m H h y.2 qsz).eb fun z ⟨z1,z2,z3,z4⟩=>?_;refine Oks.ok ⟨by simp only;omega,z2,?_,GLs.nd H.n0 H.q0 (x4.three y4 z4)⟩;show (nd _ _ _).length+1≤_;rw [q1m];simp only [List.flatten_cons,List.flatten_nil,zo,zh];omega
 ·refine (h (i+1)).eb fun x ⟨x1,x2,x3,x4⟩=>?_;refine Oks.ok ⟨by simp only;omega,x2,?_,GLs.nd H.n0 H.q0 x4.one⟩;show (nd _ _ _).length+1≤_;rw [q1m];simp only [List.flatten_cons,List.flatten_nil,zo];omega
 ·refine (h (i+1)).eb fun x ⟨x1,x2,x3,x4⟩=>(qcg H x.2 qpv).eb fun a ⟨a1,a2⟩=>(qeq H a).eb fun s ⟨s1,s2,s3⟩=>(q5m H h s.2 q44).eb fun y ⟨y1,y2,y3,y4⟩=>?_;refine Oks.ok ⟨by simp only;omega,y2,?_,GLs.nd H.n0 s1 (x4.two y4)⟩;show (nd _ _ _).length+1≤_;rw [q1m];simp only [List.flatten_cons,List.flatten_nil,zo,zh];omega
theorem qhv:∀(d i:Nat),Oks E (AN c Q N i) (dexp c d i)
 |0,i=>qep H i (by decide) (by decide)
 |d+1,i=>qzx H (qhv d) (qht H d) i
theorem all_ok:Oks E (fun l=>l.length+1≤3*c.l.length∧GLs Q N l) (allP c):=by
 unfold allP;refine (qhv H 100 0).eb fun x ⟨x1,x2,x3,x4⟩=>?_;split
 ·exact qep H _ (by decide) (by decide)
 ·exact Oks.ok ⟨by omega,x4⟩
end
end Pz
end Ev

namespace Ev
namespace Pz
structure Emb (c c':PC) (off:Nat):Prop where
 g:∀i,i<c.l.length→∃t t',c.l[i]?=some t∧c'.l[i+off]?=some t'∧t'.1=t.1∧t'.2.1=t.2.1∧t'.2.2.1=t.2.2.1
 z:∃t',c'.l[c.l.length+off]?=some t'∧t'.1=6∧t'.2.1=kR
 fx:c'.fx=c.fx
 cl:c'.cl=c.cl
 le:c.l.length≤c'.l.length
def RR {α β:Type} (S:α→β→Prop) (r:PR α) (r':PR β):Prop:=match r with
 |.error _=>True
 |.ok a=>(∃w,r'=.error (w,73))∨∃b,r'=.ok b∧S a b
theorem RR.eb {α β α' β':Type} {S:α→β→Prop} {T:α'→β'→Prop} {r:PR α} {r':PR β} {f:α→PR α'} {f':β→PR β'} (h:RR S r r') (h2:∀a b,S a b→RR T (f a) (f' b)):RR T (eb r f) (eb r' f'):=by
 cases r with
 |error e=>trivial
 |ok a=>
  rcases h with ⟨w,rfl⟩|⟨b,rfl,hs⟩
  ·show RR T (f a) (.error (w,73));unfold RR;cases f a with
   |error e=>trivial
   |ok z=>exact .inl ⟨w,rfl⟩
  ·exact h2 a b hs
theorem RR.bif {α β:Type} {S:α→β→Prop} {t t':Bool} {x y:PR α} {x' y':PR β} (ht:t'=t) (hx:t=true→RR S x x') (hy:t=false→RR S y y'):RR S (bif t then x else y) (bif t' then x' else y'):=by
 subst ht;cases t' with
 |true=>exact hx rfl
 |false=>exact hy rfl
theorem RR.ok {α β:Type} {S:α→β→Prop} {a:α} {b:β} (h:S a b):RR S (.ok a) (.ok b):=.inr ⟨b,rfl,h⟩
theorem RR.err {α β:Type} {S:α→β→Prop} {e:Int×Int} {r':PR β}:RR S (.error e) r':=trivial
theorem RR.mono {α β:Type} {S T:α→β→Prop} {r:PR α} {r':PR β} (h:RR S r r') (h2:∀a b,S a b→T a b):RR T r r':=by
 cases r with
 |error e=>trivial
 |ok a=>
  rcases h with h|⟨b,hb,hs⟩
  ·exact .inl h
  ·exact .inr ⟨b,hb,h2 a b hs⟩
section
variable {c c':PC} {off:Nat} (H:Emb c c' off)
variable (c off) in
def SN {α:Type} (i:Nat) (x x':α×Nat):Prop:=x'.1=x.1∧x'.2=x.2+off∧i<x.2∧x.2≤c.l.length
include H
theorem q3m {i:Nat} (hi:i≤c.l.length) {k:Int} (hk:k≠6):isT c' (i+off) k=isT c i k:=by
 unfold isT;rcases Nat.lt_or_eq_of_le hi with h|rfl
 ·obtain ⟨t,t',e1,e2,e3,_⟩:=H.g i h;rw [e1,e2];show decide (t'.1=k)=decide (t.1=k);rw [e3]
 ·obtain ⟨t',e2,e3,_⟩:=H.z;have e1:c.l[c.l.length]?=none:=zP (Nat.le_refl _);rw [e1,e2];show decide (t'.1=k)=false;rw [e3];exact zp fun h=>hk h.symm
theorem qch {i:Nat} (hi:i≤c.l.length) {ks:List Tx} (hk:kR∉ks):isK c' (i+off) ks=isK c i ks:=by
 unfold isK;rcases Nat.lt_or_eq_of_le hi with h|rfl
 ·obtain ⟨t,t',e1,e2,e3,e4,_⟩:=H.g i h;rw [e1,e2];show (decide (t'.1=6)&&decide (t'.2.1∈ks))=(decide (t.1=6)&&decide (t.2.1∈ks));rw [e3,e4]
 ·obtain ⟨t',e2,e3,e4⟩:=H.z;have e1:c.l[c.l.length]?=none:=zP (Nat.le_refl _);rw [e1,e2];show (decide (t'.1=6)&&decide (t'.2.1∈ks))=false;rw [e4,zp hk,Bool.and_false]
theorem qzy {i:Nat} (hi:i<c.l.length) {ks:List Tx}:isK c' (i+off) ks=isK c i ks:=by unfold isK;obtain ⟨t,t',e1,e2,e3,e4,_⟩:=H.g i hi;rw [e1,e2];show (decide (t'.1=6)&&decide (t'.2.1∈ks))=(decide (t.1=6)&&decide (t.2.1∈ks));rw [e3,e4]
theorem qci {i:Nat} (hi:i<c.l.length):txt c' (i+off)=txt c i:=by unfold txt;obtain ⟨t,t',e1,e2,e3,e4,_⟩:=H.g i hi;rw [e1,e2];exact e4
theorem qxn {i:Nat} (hi:i<c.l.length):num c' (i+off)=num c i:=by unfold num;obtain ⟨t,t',e1,e2,e3,e4,e5⟩:=H.g i hi;rw [e1,e2];exact e5
theorem qk7 {i:Nat} (hi:i≤c.l.length):q2x c' (i+off)=q2x c i:=by unfold q2x;rw [q3m H hi (by decide),q3m H hi (by decide),q3m H hi (by decide),q3m H hi (by decide),qch H hi (by decide)]
omit H in
theorem qk8 {i:Nat} (h:q2x c i=true):i<c.l.length:=by
 unfold q2x at h;simp only [Bool.or_eq_true] at h;rcases h with h|h|h|h|h
 ·exact q2p h
 ·exact q2p h
 ·exact q2p h
 ·exact q2p h
 ·exact q4l h
theorem qcj (i:Nat) (s:Tx):RR (fun a b=>b=a+off∧a=i+1∧a≤c.l.length) (keyP c i s) (keyP c' (i+off) s):=by
 unfold keyP;cases h:isK c i [s] with
 |false=>exact RR.err
 |true=>have hi:=q4l h;rw [qzy H hi,h];refine RR.ok ⟨?_,rfl,hi⟩;omega
theorem qhw {i:Nat} (hi:i≤c.l.length):RR (SN c off i) (q6v c i) (q6v c' (i+off)):=by
 unfold q6v;rw [q3m H hi (by decide),qch H hi (by decide)];refine RR.bif rfl (fun h=>?_) fun _=>?_
 ·have:=q2p h;rw [qci H this];exact RR.ok ⟨rfl,by simp only;omega,Nat.lt_succ_self _,this⟩
 ·cases h:isK c i [kL] with
  |false=>exact RR.err
  |true=>
   have hl:=q4l h;have e:i+off+1=i+1+off:=by omega
   have e2:i+off+2=i+2+off:=by omega
   rw [Bool.true_and,Bool.true_and,e,e2,q3m H (show i+1≤c.l.length from hl) (by decide)];refine RR.bif rfl (fun h2=>?_) fun _=>RR.err;have hc:=q2p h2;rw [qci H hc];refine (qcj H (i+2) kR).eb fun a b ⟨h1,h2,h3⟩=>RR.ok ⟨rfl,h1,?_,h3⟩;simp only;omega
variable {self self' selfp selfp':PT}
theorem qnz (h:∀i,i≤c.l.length→RR (SN c off i) (self i) (self' (i+off))) {i:Nat} (hi:i≤c.l.length):RR (SN c off i) (q5l c self i) (q5l c' self' (i+off)):=by
 unfold q5l;rw [qch H hi (by decide),q3m H hi (by decide),q3m H hi (by decide)];refine RR.bif rfl (fun t=>?_) fun _=>RR.bif rfl (fun t=>?_) fun _=>RR.bif rfl (fun t=>?_) fun _=>?_
 ·exact RR.ok ⟨rfl,by simp only;omega,Nat.lt_succ_self _,q4l t⟩
 ·rw [qxn H (q2p t)];exact RR.ok ⟨rfl,by simp only;omega,Nat.lt_succ_self _,q2p t⟩
 ·rw [qci H (q2p t)];exact RR.ok ⟨rfl,by simp only;omega,Nat.lt_succ_self _,q2p t⟩
 ·have hb:RR (SN c off i) (eb (q6v c i) fun s=>.ok (nd 22 s.1 [],s.2)) (eb (q6v c' (i+off)) fun s=>.ok (nd 22 s.1 [],s.2)):=(qhw H hi).eb fun a b ⟨h1,h2,h3,h4⟩=>RR.ok ⟨by simp only [h1],h2,h3,h4⟩;rw [qch H hi (by decide)];cases t:isK c i [kL] with
  |false=>exact hb
  |true=>
   have hl:=q4l t;have e:i+off+1=i+1+off:=by omega
   rw [Bool.true_and,Bool.true_and,e,q3m H (show i+1≤c.l.length from hl) (by decide)];refine RR.bif rfl (fun _=>?_) fun _=>hb;refine (h (i+1) hl).eb fun p p' ⟨p1,p2,p3,p4⟩=>?_;rw [p2];refine (qcj H p.2 kR).eb fun a b ⟨h1,h2,h3⟩=>RR.ok ⟨p1,h1,?_,h3⟩;simp only;omega
theorem qzz (h:∀i,i≤c.l.length→RR (SN c off i) (self i) (self' (i+off))):∀(m f f' i:Nat) (acc:List (List ND)),i+m=c.l.length→m<f→m<f'→RR (fun x x'=>x'.1=x.1∧x'.2=x.2+off∧i≤x.2∧x.2≤c.l.length) (qbs c self f i acc) (qbs c' self' f' (i+off) acc):=by
 intro m
 induction m using Nat.strongRecOn with
 |_ m ih=>
  intro f f' i acc hm h1 h2;obtain ⟨f,rfl⟩:∃g,f=g+1:=⟨f-1,by omega⟩;obtain ⟨f',rfl⟩:∃g,f'=g+1:=⟨f'-1,by omega⟩;have hi:i≤c.l.length:=by omega
  unfold qbs;rw [q3m H hi (by decide),q3m H hi (by decide),q3m H hi (by decide),qch H hi (by decide)];refine RR.bif rfl (fun t=>?_) fun _=>RR.ok ⟨rfl,rfl,Nat.le_refl _,hi⟩;refine (qnz H h hi).eb fun p p' ⟨p1,p2,p3,p4⟩=>?_;rw [p1,p2];refine (ih (c.l.length-p.2) (by omega) f f' p.2 (acc++[p.1]) (by omega) (by omega) (by omega)).mono fun x x' ⟨x1,x2,x3,x4⟩=>⟨x1,x2,by omega,x4⟩
theorem z1x (h:∀i,i≤c.l.length→RR (SN c off i) (self i) (self' (i+off))) {i:Nat} (hi:i≤c.l.length):RR (SN c off i) (patP c self i) (patP c' self' (i+off)):=by
 unfold patP;rw [q3m H hi (by decide)];refine RR.bif rfl (fun t=>?_) fun _=>qnz H h hi;have hl:=q2p t;have hc:=H.le;have e:i+off+1=i+1+off:=by omega
 rw [qci H hl,e];refine (qzz H h (c.l.length-(i+1)) _ _ (i+1) [] (by omega) (by omega) (by omega)).eb fun x x' ⟨x1,x2,x3,x4⟩=>RR.ok ⟨by simp only [x1],x2,?_,x4⟩;simp only;omega
theorem qtc:∀(d d' i:Nat),i≤c.l.length→RR (SN c off i) (dpat c d i) (dpat c' d' (i+off))
 |0,_,i,_=>RR.err
 |d+1,0,i,_=>by
  unfold RR;split
  ·trivial
  ·exact .inl ⟨_,rfl⟩
 |d+1,d'+1,i,hi=>z1x H (fun j hj=>qtc d d' j hj) hi
theorem qer (h:∀i,i≤c.l.length→RR (SN c off i) (self i) (self' (i+off))) (i:Nat) (s:Tx):RR (SN c off i) (behP c self i s) (behP c' self' (i+off) s):=by unfold behP;refine (qcj H i s).eb fun a b ⟨h1,h2,h3⟩=>?_;rw [h1];exact (h a h3).mono fun x x' ⟨x1,x2,x3,x4⟩=>⟨x1,x2,by omega,x4⟩
theorem z00 (h:∀i,i≤c.l.length→RR (SN c off i) (self i) (self' (i+off))) (hp:∀i,i≤c.l.length→RR (SN c off i) (selfp i) (selfp' (i+off))):∀(m f f' i:Nat) (acc:List (List ND)),i+m=c.l.length→m<f→m<f'→RR (SN c off i) (qam c self selfp f i acc) (qam c' self' selfp' f' (i+off) acc):=by
 intro m
 induction m using Nat.strongRecOn with
 |_ m ih=>
  intro f f' i acc hm h1 h2;obtain ⟨f,rfl⟩:∃g,f=g+1:=⟨f-1,by omega⟩;obtain ⟨f',rfl⟩:∃g,f'=g+1:=⟨f'-1,by omega⟩;have hi:i≤c.l.length:=by omega
  unfold qam;refine (hp i hi).eb fun p p' ⟨p1,p2,p3,p4⟩=>?_;rw [p1,p2];refine (qer H h p.2 q44).eb fun b b' ⟨b1,b2,b3,b4⟩=>?_;rw [b1,b2];refine RR.bif (qch H b4 (by decide)) (fun t=>?_) fun _=>RR.ok ⟨rfl,rfl,by simp only;omega,b4⟩;have hl:=q4l t;have e:b.2+off+1=b.2+1+off:=by omega
  rw [e];refine (ih (c.l.length-(b.2+1)) (by omega) f f' (b.2+1) _ (by omega) (by omega) (by omega)).mono fun x x' ⟨x1,x2,x3,x4⟩=>⟨x1,x2,by omega,x4⟩
theorem qwa (h:∀i,i≤c.l.length→RR (SN c off i) (self i) (self' (i+off))) (hp:∀i,i≤c.l.length→RR (SN c off i) (selfp i) (selfp' (i+off))) {i:Nat} (hi:i≤c.l.length):RR (SN c off i) (q76 c self selfp i) (q76 c' self' selfp' (i+off)):=by unfold q76;have hc:=H.le;refine (h i hi).eb fun x x' ⟨x1,x2,x3,x4⟩=>?_;rw [x1,x2];refine (qcj H x.2 qpv).eb fun a b ⟨h1,h2,h3⟩=>?_;rw [h1];refine (z00 H h hp (c.l.length-a) _ _ a [x.1] (by omega) (by omega) (by omega)).eb fun r r' ⟨r1,r2,r3,r4⟩=>?_;rw [r1,r2];refine (qcj H r.2 kEnd).eb fun a2 b2 ⟨g1,g2,g3⟩=>RR.ok ⟨rfl,g1,?_,g3⟩;simp only;omega
theorem qtd (h:∀i,i≤c.l.length→RR (SN c off i) (self i) (self' (i+off))) (hp:∀i,i≤c.l.length→RR (SN c off i) (selfp i) (selfp' (i+off))) {i:Nat} (hi:i≤c.l.length):RR (SN c off i) (q7u c self selfp i) (q7u c' self' selfp' (i+off)):=by
 unfold q7u;rw [qk7 H hi];refine RR.bif rfl (fun t=>?_) fun _=>RR.err;have hl:=qk8 t;have e:i+off+1=i+1+off:=by omega
 have e2:i+off+2=i+2+off:=by omega
 rw [q3m H hi (by decide),q3m H hi (by decide),q3m H hi (by decide),q3m H hi (by decide),qci H hl,qxn H hl,e,e2,q3m H (show i+1≤c.l.length from hl) (by decide)];have one:∀v:List ND,RR (SN c off i) (.ok (v,i+1)) (.ok (v,i+1+off)):=fun v=>RR.ok ⟨rfl,rfl,Nat.lt_succ_self _,hl⟩;refine RR.bif rfl (fun _=>one _) fun _=>RR.bif rfl (fun _=>one _) fun _=>RR.bif rfl (fun _=>one _) fun _=>RR.bif rfl (fun _=>one _) fun _=>RR.bif rfl (fun _=>?_) fun _=>RR.bif rfl (fun t2=>?_) fun _=>?_
 ·exact (qwa H h hp hl).mono fun x x' ⟨x1,x2,x3,x4⟩=>⟨x1,x2,by omega,x4⟩
 ·rw [qci H (q2p t2)];refine (qcj H (i+2) kR).eb fun a b ⟨h1,h2,h3⟩=>RR.ok ⟨rfl,h1,?_,h3⟩;simp only;omega
 ·refine (h (i+1) hl).eb fun p p' ⟨p1,p2,p3,p4⟩=>?_;rw [p2];refine (qcj H p.2 kR).eb fun a b ⟨h1,h2,h3⟩=>RR.ok ⟨p1,h1,?_,h3⟩;simp only;omega
theorem z01 (h:∀i,i≤c.l.length→RR (SN c off i) (self i) (self' (i+off))) (hp:∀i,i≤c.l.length→RR (SN c off i) (selfp i) (selfp' (i+off))):∀(m f f' i:Nat) (l:List ND),i+m=c.l.length→m<f→m<f'→RR (fun x x'=>x'.1=x.1∧x'.2=x.2+off∧i≤x.2∧x.2≤c.l.length) (q78 c self selfp f i l) (q78 c' self' selfp' f' (i+off) l):=by
 intro m
 induction m using Nat.strongRecOn with
 |_ m ih=>
  intro f f' i l hm h1 h2;obtain ⟨f,rfl⟩:∃g,f=g+1:=⟨f-1,by omega⟩;obtain ⟨f',rfl⟩:∃g,f'=g+1:=⟨f'-1,by omega⟩;have hi:i≤c.l.length:=by omega
  unfold q78;rw [qk7 H hi];refine RR.bif rfl (fun t=>?_) fun _=>RR.ok ⟨rfl,rfl,Nat.le_refl _,hi⟩;refine (qtd H h hp hi).eb fun p p' ⟨p1,p2,p3,p4⟩=>?_;rw [p1,p2];refine (ih (c.l.length-p.2) (by omega) f f' p.2 _ (by omega) (by omega) (by omega)).mono fun x x' ⟨x1,x2,x3,x4⟩=>⟨x1,x2,by omega,x4⟩
theorem qxo (h:∀i,i≤c.l.length→RR (SN c off i) (self i) (self' (i+off))) (hp:∀i,i≤c.l.length→RR (SN c off i) (selfp i) (selfp' (i+off))) {i:Nat} (hi:i≤c.l.length):RR (SN c off i) (appP c self selfp i) (appP c' self' selfp' (i+off)):=by unfold appP;have hc:=H.le;refine (qtd H h hp hi).eb fun x x' ⟨x1,x2,x3,x4⟩=>?_;rw [x1,x2];exact (z01 H h hp (c.l.length-x.2) _ _ x.2 x.1 (by omega) (by omega) (by omega)).mono fun y y' ⟨y1,y2,y3,y4⟩=>⟨y1,y2,by omega,y4⟩
def Ro (r r':Row):Prop:=r'.apps=r.apps∧r'.ops=r.ops∧r'.at_.length=r.at_.length
omit H in
theorem z02 {r r':Row} (hr:Ro r r') (x:List ND) (s:Tx) (p p':Int):Ro ⟨r.apps++[x],r.ops++[s],r.at_++[p]⟩ ⟨r'.apps++[x],r'.ops++[s],r'.at_++[p']⟩:=by obtain ⟨h1,h2,h3⟩:=hr;refine ⟨by simp only [h1],by simp only [h2],?_⟩;simp only [zh,ze,List.length_nil,h3]
theorem z1y (h:∀i,i≤c.l.length→RR (SN c off i) (self i) (self' (i+off))) (hp:∀i,i≤c.l.length→RR (SN c off i) (selfp i) (selfp' (i+off))):∀(m f f' i:Nat) (r r':Row),Ro r r'→i+m=c.l.length→m<f→m<f'→RR (fun x x'=>Ro x.1 x'.1∧x'.2=x.2+off∧i≤x.2∧x.2≤c.l.length) (opsP c self selfp f i r) (opsP c' self' selfp' f' (i+off) r'):=by
 intro m
 induction m using Nat.strongRecOn with
 |_ m ih=>
  intro f f' i r r' hr hm h1 h2;obtain ⟨f,rfl⟩:∃g,f=g+1:=⟨f-1,by omega⟩;obtain ⟨f',rfl⟩:∃g,f'=g+1:=⟨f'-1,by omega⟩;have hi:i≤c.l.length:=by omega
  unfold opsP;rw [q3m H hi (by decide)];refine RR.bif rfl (fun t=>?_) fun _=>RR.ok ⟨hr,rfl,Nat.le_refl _,hi⟩;have hl:=q2p t;have e:i+off+1=i+1+off:=by omega
  rw [e,qci H hl];refine (qxo H h hp hl).eb fun p p' ⟨p1,p2,p3,p4⟩=>?_;rw [p1,p2];refine (ih (c.l.length-p.2) (by omega) f f' p.2 _ _ (z02 hr _ _ _ _) (by omega) (by omega) (by omega)).mono fun x x' ⟨x1,x2,x3,x4⟩=>⟨x1,x2,by omega,x4⟩
theorem qo0:∀(ops:List Tx) (ps ps':List Int),ps'.length=ps.length→q79 c ops ps=none→q79 c' ops ps'=none
 |[],ps,ps',_,_=>by cases ps'<;>rfl
 |s::ops,[],[],_,_=>rfl
 |s::ops,[],_::_,h,_=>by cases h
 |s::ops,_::_,[],h,_=>by cases h
 |s::ops,p::ps,p'::ps',h,h2=>by
  have h2:(bif c.fx s then q79 c ops ps else some p)=none:=h2;show (bif c'.fx s then q79 c' ops ps' else some p')=none;rw [H.fx];cases e:c.fx s with
  |true=>rw [e] at h2;exact qo0 ops ps ps' (by simpa using h) h2
  |false=>rw [e] at h2;cases h2
theorem z03 {r r':Row} (hr:Ro r r') (i0 i:Nat) (h0:i0<i) (hi:i≤c.l.length) (p p':Int):RR (SN c off i0) (rowE c p r i) (rowE c' p' r' (i+off)):=by
 obtain ⟨h1,h2,h3⟩:=hr;unfold rowE;rw [h1,h2];by_cases hn:r.ops=[]
 ·rw [if_pos hn,if_pos hn];exact RR.ok ⟨rfl,rfl,h0,hi⟩
 ·rw [if_neg hn,if_neg hn];cases hf:q79 c r.ops r.at_ with
  |some q=>exact RR.err
  |none=>
   rw [qo0 H r.ops r.at_ r'.at_ h3 hf,H.cl];cases hc:c.cl r.ops with
   |none=>exact RR.err
   |some x=>exact RR.ok ⟨rfl,rfl,h0,hi⟩
theorem z1z (h:∀i,i≤c.l.length→RR (SN c off i) (self i) (self' (i+off))) (hp:∀i,i≤c.l.length→RR (SN c off i) (selfp i) (selfp' (i+off))) {i:Nat} (hi:i≤c.l.length):RR (SN c off i) (rowP c self selfp i) (rowP c' self' selfp' (i+off)):=by unfold rowP;have hc:=H.le;refine (qxo H h hp hi).eb fun x x' ⟨x1,x2,x3,x4⟩=>?_;rw [x1,x2];refine (z1y H h hp (c.l.length-x.2) _ _ x.2 _ _ ⟨rfl,rfl,rfl⟩ (by omega) (by omega) (by omega)).eb fun r r' ⟨r1,r2,r3,r4⟩=>?_;rw [r2];exact z03 H r1 i r.2 (by omega) r4 _ _
theorem z04 (h:∀i,i≤c.l.length→RR (SN c off i) (self i) (self' (i+off))) (hp:∀i,i≤c.l.length→RR (SN c off i) (selfp i) (selfp' (i+off))) {i:Nat} (hi:i≤c.l.length):RR (SN c off i) (q7a c self selfp i) (q7a c' self' selfp' (i+off)):=by
 unfold q7a;rw [qch H hi (by decide)];refine RR.bif rfl (fun t=>?_) fun _=>z1z H h hp hi;have hl:=q4l t;have e:i+off+1=i+1+off:=by omega
 have e2:i+off+2=i+2+off:=by omega
 rw [qci H hl,e,e2,qch H (show i+1≤c.l.length from hl) (by decide)];refine RR.bif rfl (fun _=>?_) fun _=>RR.bif rfl (fun _=>?_) fun _=>RR.bif rfl (fun _=>?_) fun _=>RR.bif rfl (fun _=>?_) fun _=>?_
 ·refine (qhw H hl).eb fun s s' ⟨s1,s2,s3,s4⟩=>?_;rw [s1,s2];refine (qer H h s.2 q44).eb fun x x' ⟨x1,x2,x3,x4⟩=>RR.ok ⟨by simp only [x1],x2,?_,x4⟩;simp only;omega
 ·have hj:∃j,(bif isK c (i+1) [kRec] then i+2 else i+1)=j∧(bif isK c (i+1) [kRec] then i+2+off else i+1+off)=j+off∧i<j∧j≤c.l.length:=by
   cases t2:isK c (i+1) [kRec] with
   |true=>exact ⟨i+2,rfl,rfl,by omega,q4l t2⟩
   |false=>exact ⟨i+1,rfl,rfl,by omega,hl⟩
  obtain ⟨j,j1,j2,j3,j4⟩:=hj;rw [j1,j2];refine (qhw H j4).eb fun s s' ⟨s1,s2,s3,s4⟩=>?_;rw [s1,s2];refine (qer H h s.2 kEq).eb fun x x' ⟨x1,x2,x3,x4⟩=>?_;rw [x1,x2];refine (qer H h x.2 kIn).eb fun y y' ⟨y1,y2,y3,y4⟩=>RR.ok ⟨by simp only [y1],y2,?_,y4⟩;simp only;omega
 ·refine (h (i+1) hl).eb fun x x' ⟨x1,x2,x3,x4⟩=>?_;rw [x1,x2];refine (qer H h x.2 qsy).eb fun y y' ⟨y1,y2,y3,y4⟩=>?_;rw [y1,y2];refine (qer H h y.2 qsz).eb fun z z' ⟨z1,z2,z3,z4⟩=>RR.ok ⟨by simp only [z1],z2,?_,z4⟩;simp only;omega
 ·refine (h (i+1) hl).eb fun x x' ⟨x1,x2,x3,x4⟩=>RR.ok ⟨by simp only [x1],x2,?_,x4⟩;simp only;omega
 ·refine (h (i+1) hl).eb fun x x' ⟨x1,x2,x3,x4⟩=>?_;rw [x1,x2];refine (qcj H x.2 qpv).eb fun a b ⟨h1,h2,h3⟩=>?_;rw [h1];refine (qhw H h3).eb fun s s' ⟨s1,s2,s3,s4⟩=>?_;rw [s1,s2];refine (qer H h s.2 q44).eb fun y y' ⟨y1,y2,y3,y4⟩=>RR.ok ⟨by simp only [y1],y2,?_,y4⟩;simp only;omega
theorem qte:∀(d d' i:Nat),i≤c.l.length→RR (SN c off i) (dexp c d i) (dexp c' d' (i+off))
 |0,_,i,_=>RR.err
 |d+1,0,i,_=>by
  unfold RR;split
  ·trivial
  ·exact .inl ⟨_,rfl⟩
 |d+1,d'+1,i,hi=>z04 H (fun j hj=>qte d d' j hj) (fun j hj=>qtc H d d' j hj) hi
end
end Pz
end Ev

namespace Ev
namespace Pz
theorem z20 {c:PC} {i:Nat} {t:Tk} (h:c.l[i]?=some t) (k:Int):isT c i k=decide (t.1=k):=by unfold isT;rw [h]
theorem qo1 {c:PC} {i:Nat} {t:Tk} (h:c.l[i]?=some t) (ks:List Tx):isK c i ks=(decide (t.1=6)&&decide (t.2.1∈ks)):=by unfold isK;rw [h]
theorem z21 {c:PC} {i:Nat} {t:Tk} (h:c.l[i]?=some t):txt c i=t.2.1:=by unfold txt;rw [h]
theorem qtf {c:PC} {i:Nat} (h:c.l.length≤i) (k:Int):isT c i k=false:=by unfold isT;rw [zP h]
theorem z05 {c:PC} {i:Nat} (h:c.l.length≤i) (ks:List Tx):isK c i ks=false:=by unfold isK;rw [zP h]
theorem qpw {c:PC} {i:Nat} (h:c.l.length≤i):q2x c i=false:=by unfold q2x;simp only [qtf h,z05 h,Bool.or_false]
theorem qwb {c:PC} {i:Nat} {k:Int} (h:isT c i k=true) {j:Int} (hj:k≠j):isT c i j=false:=by
 unfold isT at*
 cases e:c.l[i]? with
 |none=>rfl
 |some t=>rw [e] at h;have h:=zU h;exact zp fun g=>hj (h.symm.trans g)
theorem qxp {c:PC} {i:Nat} {ks:List Tx} (h:isK c i ks=true) {j:Int} (hj:6≠j):isT c i j=false:=by
 unfold isK at h;unfold isT;cases e:c.l[i]? with
 |none=>rfl
 |some t=>rw [e] at h;have h:=zU (Bool.and_eq_true_iff.1 h).1;exact zp fun g=>hj (h.symm.trans g)
theorem z06 {α β:Type} {x:PR α} {f:α→PR β} {b:β} (h:eb x f=.ok b):∃a,x=.ok a∧f a=.ok b:=by
 cases x with
 |ok a=>exact ⟨a,rfl,h⟩
 |error e=>cases h
theorem qwc {c:PC} {d:Nat} {x:List ND×Nat} (h:dexp c d 0=.ok x):isT c 0 5=false:=by
 cases d with
 |zero=>cases h
 |succ d=>
  have h:q7a c (dexp c d) (dpat c d) 0=.ok x:=h;unfold q7a at h;cases e:isK c 0 [kFun,kLet,kIf,qen,kTry] with
  |true=>exact qxp e (by decide)
  |false=>
   rw [e] at h;have h:rowP c (dexp c d) (dpat c d) 0=.ok x:=h;unfold rowP at h;obtain ⟨a,ha,_⟩:=z06 h;unfold appP at ha;obtain ⟨b,hb,_⟩:=z06 ha;unfold q7u at hb;cases e2:q2x c 0 with
   |false=>rw [e2] at hb;cases hb
   |true=>
    unfold q2x at e2;simp only [Bool.or_eq_true] at e2;rcases e2 with h|h|h|h|h
    ·exact qwb h (by decide)
    ·exact qwb h (by decide)
    ·exact qwb h (by decide)
    ·exact qwb h (by decide)
    ·exact qxp h (by decide)
theorem qwd {c:PC} {l:List ND} (h:allP c=.ok l):∃j,dexp c 100 0=.ok (l,j)∧c.l.length≤j:=by
 unfold allP at h;obtain ⟨a,ha,hb⟩:=z06 h;by_cases hl:a.2<c.l.length
 ·rw [if_pos hl] at hb;cases hb
 ·rw [if_neg hl] at hb;injection hb with hb;exact ⟨a.2,by rw [ha,←hb],by omega⟩
theorem qtg {c c':PC} {off:Nat} {l:List ND} (H:Emb c c' (off+1)) (h:allP c=.ok l) {t:Tk} (ht:c'.l[off]?=some t) (h6:t.1=6) (hL:t.2.1=kL) (d:Nat) (selfp:PT):(∃w,q7u c' (dexp c' d) selfp off=.error (w,73))∨q7u c' (dexp c' d) selfp off=.ok (l,off+c.l.length+2):=by
 obtain ⟨j,h1,h2⟩:=qwd h;have ho:=qwc h1;have g1:∀k:Int,(6:Int)≠k→isT c' off k=false:=fun k hk=>by rw [z20 ht,h6];exact zp hk
 have g2:isK c' off [kL,qgc]=true:=by rw [qo1 ht,h6,hL];rfl
 have g3:q2x c' off=true:=by unfold q2x;rw [g2];simp only [Bool.or_true]
 have g4:decide (txt c' off=qgc)=false:=by rw [z21 ht,hL];decide
 have g5:isT c' (off+1) 5=false:=by have:=q3m H (Nat.zero_le _) (k:=5) (by decide);rw [zJ] at this;rw [this,ho]
 have r:=qte H 100 d 0 (Nat.zero_le _);rw [h1,zJ] at r;unfold q7u;rw [g3,g1 3 (by decide),g1 4 (by decide),g1 1 (by decide),g1 2 (by decide),g4,g5];simp only [cond_true,cond_false];rcases r with ⟨w,hw⟩|⟨b,hb,s1,s2,s3,s4⟩
 ·left;rw [hw];exact ⟨w,rfl⟩
 ·right;rw [hb];have s4:j≤c.l.length:=s4;have s2:b.2=j+(off+1):=s2;have s1:b.1=l:=s1;show eb (keyP c' b.2 kR) _=_;obtain ⟨t',z1,z2,z3⟩:=H.z;have ej:b.2=c.l.length+(off+1):=by omega
  unfold keyP;rw [ej,qo1 z1,z2,z3,s1];show (.ok (l,c.l.length+(off+1)+1):PR (List ND×Nat))=_;congr 2;omega
theorem z07 {c1 c2 c3:PC} {l m:List ND} (h1:allP c1=.ok l) (h2:allP c2=.ok m) (H1:Emb c1 c3 1) (H2:Emb c2 c3 (c1.l.length+3)) {t:Tk} (ht:c3.l[0]?=some t) (h6:t.1=6) (hL:t.2.1=kL) {u:Tk} (hu:c3.l[c1.l.length+2]?=some u) (g6:u.1=6) (gL:u.2.1=kL) (hn:c3.l.length=c1.l.length+c2.l.length+4):(∃w,allP c3=.error (w,73))∨allP c3=.ok (nd 6 [] [l,m]):=by
 have k0:isK c3 0 [kFun,kLet,kIf,qen,kTry]=false:=by rw [qo1 ht,h6,hL];decide
 unfold allP;show (∃w,eb (q7a c3 (dexp c3 99) (dpat c3 99) 0) _=_)∨eb (q7a c3 (dexp c3 99) (dpat c3 99) 0) _=_;unfold q7a;rw [k0];simp only [cond_false];unfold rowP appP;rcases qtg (off:=0) H1 h1 ht h6 hL 99 (dpat c3 99) with ⟨w,hw⟩|hw
 ·left;rw [hw];exact ⟨w,rfl⟩
 ·rw [hw];have e0:0+c1.l.length+2=c1.l.length+2:=by omega
  have e1:c3.l.length+1=(c3.l.length-1)+1+1:=by omega
  rw [e0,e1];show (∃w,eb (eb (q78 c3 (dexp c3 99) (dpat c3 99) (c3.l.length-1+1+1) (c1.l.length+2) l) _) _=_)∨eb (eb (q78 c3 (dexp c3 99) (dpat c3 99) (c3.l.length-1+1+1) (c1.l.length+2) l) _) _=_;have b1:q2x c3 (c1.l.length+2)=true:=by
   have:isK c3 (c1.l.length+2) [kL,qgc]=true:=by rw [qo1 hu,g6,gL];rfl
   unfold q2x;rw [this];simp only [Bool.or_true]
  rcases qtg (off:=c1.l.length+2) H2 h2 hu g6 gL 99 (dpat c3 99) with ⟨w,hw⟩|hw
  ·left;refine ⟨w,?_⟩;unfold q78;rw [b1,cond_true,hw];rfl
  ·right;unfold q78;rw [b1,cond_true,hw];have e3:c1.l.length+2+c2.l.length+2=c3.l.length:=by omega
   rw [e3];show eb (eb (q78 c3 (dexp c3 99) (dpat c3 99) (c3.l.length-1+1) c3.l.length (nd 6 [] [l,m])) _) _=_;unfold q78;rw [qpw (Nat.le_refl _),cond_false];show eb (eb (opsP c3 (dexp c3 99) (dpat c3 99) (c3.l.length-1+1+1) c3.l.length ⟨[nd 6 [] [l,m]],[],[]⟩) _) _=_;unfold opsP;rw [qtf (Nat.le_refl _),cond_false];show (if c3.l.length<c3.l.length then (.error (plc c3 c3.l.length,70):PR (List ND)) else .ok (nd 6 [] [l,m]))=_;rw [if_neg (by omega)]
end Pz
end Ev

namespace Ev
namespace Pz
section
variable (inn sgn:Int→Bool) (keyw:Tx→Bool) (rd:Tx→Int×Int)
def q17 (p:Int→Bool):Tx→Nat
 |[]=>0
 |b::l=>bif p b then q17 p l+1 else 0
def qgf (c:Int):Bool:=decide (97≤c)&&decide (c≤122)
def qgg (c:Int):Bool:=decide (65≤c)&&decide (c≤90)
def q1h (c:Int):Bool:=decide (48≤c)&&decide (c≤57)
def hexv (c:Int):Int:=bif q1h c then c-48 else bif decide (97≤c)&&decide (c≤102) then c-87 else -1
def qt:Tx→Tx→Nat→Tx×Nat
 |[],_,_=>([],0)
 |c::l,b,i=>
  if c=34 then (b,i+1) else
  if c<32∨126<c then ([],0) else
  if c≠92 then qt l (b++[c]) (i+1) else
  match l with
  |[]=>([],0)
  |d::l2=>
   if d=34∨d=92 then qt l2 (b++[d]) (i+2) else
   if d=110 then qt l2 (b++[10]) (i+2) else
   if d=120 then match l2 with
    |x::y::l3=>if hexv x<0∨hexv y<0 then ([],0) else qt l3 (b++[16*hexv x+hexv y]) (i+4)
    |_=>([],0)
   else ([],0)
abbrev T3:=Int×Tx×Int
def keyT (n:Nat) (k:Int) (s:Tx):T3×Nat×Int:=((bif keyw (s.take n) then 6 else k,s.take n,0),n,0)
def badT (e:Int):T3×Nat×Int:=((0,[],0),0,e)
def oneC (c:Int) (l:Tx):T3×Nat×Int:=
  bif qgf c then keyT keyw (q17 inn (c::l)) 1 (c::l) else
  bif qgg c then keyT keyw (q17 inn (c::l)) 2 (c::l) else
  bif sgn c then keyT keyw (q17 sgn (c::l)) 5 (c::l) else
  bif decide (c=40)||(decide (c=41)||decide (c=95)) then keyT keyw 1 6 (c::l) else
  bif decide (c=59)&&decide (l.head?=some 59) then keyT keyw 2 6 (c::l) else
  bif q1h c||decide (c=126) then
   (bif decide ((rd ((c::l).take (1+q17 q1h l))).2=0) then ((3,[],(rd ((c::l).take (1+q17 q1h l))).1),1+q17 q1h l,0) else badT 31) else
  bif decide (c=34) then
   (bif decide ((qt l [] 1).2=0)||decide (200<(qt l [] 1).1.length) then badT 32 else ((4,(qt l [] 1).1,0),(qt l [] 1).2,0)) else
  badT 30
def one:Tx→T3×Nat×Int
 |[]=>badT 30
 |c::l=>oneC inn sgn keyw rd c l
def blank:Bool→Tx→Nat
 |_,[]=>0
 |false,b::l=>if b=32∨b=10 then blank false l+1 else if b=35 then blank true l+1 else 0
 |true,b::l=>if b=10 then blank false l+1 else blank true l+1
def tkOf (t:T3) (a:Int):Tk:=(t.1,t.2.1,t.2.2,a)
def lexP:Nat→Tx→Int→PR (List Tk)
 |0,_,_=>.ok []
 |f+1,s,a=>
  if s.drop (blank false s)=[] then .ok [] else
  if (one inn sgn keyw rd (s.drop (blank false s))).2.2≠0 then .error (a+blank false s,(one inn sgn keyw rd (s.drop (blank false s))).2.2) else
  eb (lexP f ((s.drop (blank false s)).drop (one inn sgn keyw rd (s.drop (blank false s))).2.1) (a+blank false s+(one inn sgn keyw rd (s.drop (blank false s))).2.1)) fun l=>.ok (tkOf (one inn sgn keyw rd (s.drop (blank false s))).1 (a+blank false s)::l)
end
theorem q2q (p:Int→Bool):∀l,q17 p l≤l.length
 |[]=>Nat.le_refl _
 |b::l=>by
  have:=q2q p l;unfold q17;cases p b with
  |true=>rw [cond_true,ze];omega
  |false=>rw [cond_false];omega
theorem qan {p:Int→Bool} {c:Int} {l:Tx} (h:p c=true):1≤q17 p (c::l):=by unfold q17;rw [h,cond_true];omega
theorem qes {p:Int→Bool} {y:Tx} (hy:p 10=false):∀l,q17 p (l++10::y)=q17 p l
 |[]=>by show q17 p (10::y)=0;unfold q17;rw [hy];rfl
 |b::l=>by show q17 p (b::(l++10::y))=_;unfold q17;rw [qes hy l]
theorem qth:∀(n:Nat) (s b:Tx) (i:Nat),s.length≤n→(qt s b i).2≤i+s.length∧((qt s b i).2≠0→i<(qt s b i).2)
 |_,[],b,i,_=>by show (0:Nat)≤_∧(0≠0→_);exact ⟨Nat.zero_le _,fun h=>absurd rfl h⟩
 |0,c::l,b,i,h=>by simp at h
 |n+1,c::l,b,i,h=>by
  have hl:l.length≤n:=by simpa using h
  have z:((([]:Tx),0):Tx×Nat).2≤i+(c::l).length∧(((([]:Tx),0):Tx×Nat).2≠0→i<((([]:Tx),0):Tx×Nat).2):=⟨Nat.zero_le _,fun h=>absurd rfl h⟩;unfold qt;split
  ·simp only [ze];exact ⟨by omega,fun _=>by omega⟩
  split
  ·exact z
  split
  ·have:=qth n l (b++[c]) (i+1) hl;rw [ze];exact ⟨by omega,fun h=>by have:=this.2 h;omega⟩
  cases l with
  |nil=>exact z
  |cons d l2=>
   simp only [ze] at hl ⊢;split
   ·have:=qth n l2 (b++[d]) (i+2) (by omega);exact ⟨by omega,fun h=>by have:=this.2 h;omega⟩
   split
   ·have:=qth n l2 (b++[10]) (i+2) (by omega);exact ⟨by omega,fun h=>by have:=this.2 h;omega⟩
   split
   ·match l2,hl with
    |[],_=>exact ⟨Nat.zero_le _,fun h=>absurd rfl h⟩
    |[x],_=>exact ⟨Nat.zero_le _,fun h=>absurd rfl h⟩
    |x::y::l3,hl=>
     simp only [ze] at hl ⊢;split
     ·exact ⟨Nat.zero_le _,fun h=>absurd rfl h⟩
     ·have:=qth n l3 (b++[16*hexv x+hexv y]) (i+4) (by omega);exact ⟨by omega,fun h=>by have:=this.2 h;omega⟩
   ·exact ⟨Nat.zero_le _,fun h=>absurd rfl h⟩
theorem qk9 (z:Tx):∀(n:Nat) (s b:Tx) (i:Nat),s.length≤n→(qt s b i).2≠0→qt (s++z) b i=qt s b i
 |_,[],b,i,_,h=>absurd rfl h
 |0,c::l,b,i,h,_=>by simp at h
 |n+1,c::l,b,i,h,hq=>by
  have hl:l.length≤n:=by simpa using h
  revert hq;show (qt (c::l) b i).2≠0→qt (c::(l++z)) b i=_;unfold qt;split
  ·exact fun _=>rfl
  split
  ·exact fun h=>absurd rfl h
  split
  ·exact fun h=>qk9 z n l _ _ hl h
  cases l with
  |nil=>exact fun h=>absurd rfl h
  |cons d l2=>
   simp only [ze] at hl;simp only [List.cons_append];split
   ·exact fun h=>qk9 z n l2 _ _ (by omega) h
   split
   ·exact fun h=>qk9 z n l2 _ _ (by omega) h
   split
   ·match l2,hl with
    |[],_=>exact fun h=>absurd rfl h
    |[x],_=>exact fun h=>absurd rfl h
    |x::y::l3,hl=>
     simp only [ze] at hl;simp only [List.cons_append];split
     ·exact fun h=>absurd rfl h
     ·exact fun h=>qk9 z n l3 _ _ (by omega) h
   ·exact fun h=>absurd rfl h
end Pz
end Ev

namespace Ev
namespace Pz
structure LxP (inn sgn:Int→Bool):Prop where
 hin:∀c,qgf c=true∨qgg c=true→inn c=true
 i10:inn 10=false
 s10:sgn 10=false
section
variable {inn sgn:Int→Bool} {keyw:Tx→Bool} {rd:Tx→Int×Int}
theorem qbt (H:LxP inn sgn) (c:Int) (l:Tx) (P:T3×Nat×Int→Prop) (h1:∀n k,1≤n→n≤(c::l).length→P (keyT keyw n k (c::l))) (h2:(q1h c||decide (c=126))=true→(rd ((c::l).take (1+q17 q1h l))).2=0→P ((3,[],(rd ((c::l).take (1+q17 q1h l))).1),1+q17 q1h l,0)) (h3:(qt l [] 1).2≠0→(qt l [] 1).1.length≤200→P ((4,(qt l [] 1).1,0),(qt l [] 1).2,0)) (h4:∀e,30≤e∧e≤32→P (badT e)):P (oneC inn sgn keyw rd c l):=by
 unfold oneC;cases g1:qgf c with
 |true=>exact h1 _ _ (qan (H.hin c (.inl g1))) (q2q _ _)
 |false=>
 cases g2:qgg c with
 |true=>exact h1 _ _ (qan (H.hin c (.inr g2))) (q2q _ _)
 |false=>
 cases g3:sgn c with
 |true=>exact h1 _ _ (qan g3) (q2q _ _)
 |false=>
 cases g4:(decide (c=40)||(decide (c=41)||decide (c=95))) with
 |true=>exact h1 1 6 (Nat.le_refl _) (by simp)
 |false=>
 cases g5:(decide (c=59)&&decide (l.head?=some 59)) with
 |true=>
  refine h1 2 6 (by omega) ?_;cases l with
  |nil=>simp at g5
  |cons e l2=>simp only [ze];omega
 |false=>
 cases g6:(q1h c||decide (c=126)) with
 |true=>
  simp only [cond_true,cond_false];cases g7:decide ((rd ((c::l).take (1+q17 q1h l))).2=0) with
  |true=>exact h2 g6 (zU g7)
  |false=>exact h4 31 (by decide)
 |false=>
 cases g7:decide (c=34) with
 |false=>exact h4 30 (by decide)
 |true=>
  simp only [cond_true,cond_false];cases g8:(decide ((qt l [] 1).2=0)||decide (200<(qt l [] 1).1.length)) with
  |true=>exact h4 32 (by decide)
  |false=>rw [Bool.or_eq_false_iff,decide_eq_false_iff_not,decide_eq_false_iff_not] at g8;exact h3 g8.1 (by omega)
theorem qo2 (H:LxP inn sgn) (s:Tx):(one inn sgn keyw rd s).2.2=0→1≤(one inn sgn keyw rd s).2.1∧(one inn sgn keyw rd s).2.1≤s.length:=by
 cases s with
 |nil=>exact fun h=>absurd h (show ¬(30:Int)=0 by decide)
 |cons c l=>
  refine qbt H c l (fun r=>r.2.2=0→1≤r.2.1∧r.2.1≤(c::l).length) (fun n k g1 g2 _=>⟨g1,g2⟩) (fun _ _ _=>?_) (fun g _ _=>?_) fun e he h=>?_
  ·have:=q2q q1h l;simp only [ze];omega
  ·have:=qth l.length l [] 1 (Nat.le_refl _);have h2:=this.2 g;simp only [ze];omega
  ·have h:e=0:=h;omega
theorem z08 (H:LxP inn sgn) (s:Tx):(one inn sgn keyw rd s).2.2=0∨(30≤(one inn sgn keyw rd s).2.2∧(one inn sgn keyw rd s).2.2≤32):=by
 cases s with
 |nil=>exact .inr (show (30:Int)≤30∧(30:Int)≤32 by decide)
 |cons c l=>exact qbt H c l (fun r=>r.2.2=0∨(30≤r.2.2∧r.2.2≤32)) (fun n k g1 g2=>.inl rfl) (fun _ _=>.inl rfl) (fun g _=>.inl rfl) fun e he=>.inr he
theorem qao:∀(n:Nat) (s b:Tx) (i:Nat),s.length≤n→(∀x,x∈s→0≤x∧x≤255)→(∀x,x∈b→0≤x∧x≤255)→∀x,x∈(qt s b i).1→0≤x∧x≤255
 |_,[],b,i,_,_,_=>fun x h=>absurd h (List.not_mem_nil)
 |0,c::l,b,i,h,_,_=>by simp at h
 |n+1,c::l,b,i,h,hs,hb=>by
  have hl:l.length≤n:=by simpa using h
  have z:∀x,x∈((([]:Tx),0):Tx×Nat).1→0≤x∧x≤255:=fun x h=>absurd h (List.not_mem_nil);have sn:∀{v:Int},0≤v∧v≤255→∀x,x∈b++[v]→0≤x∧x≤255:=fun hv x hx=>by
   rcases zO.1 hx with hx|hx
   ·exact hb x hx
   ·rw [zN.1 hx];exact hv
  have ht:∀x,x∈l→0≤x∧x≤255:=fun x hx=>hs x (zm _ hx);unfold qt;split
  ·exact hb
  split
  ·exact z
  split
  ·exact qao n l _ _ hl ht (sn (hs c (zj ..)))
  cases l with
  |nil=>exact z
  |cons d l2=>
   simp only [ze] at hl;have hc:∀x,x∈l2→0≤x∧x≤255:=fun x hx=>ht x (zm _ hx);simp only;split
   ·exact qao n l2 _ _ (by omega) hc (sn (ht d (zj ..)))
   split
   ·exact qao n l2 _ _ (by omega) hc (sn (by decide))
   split
   ·match l2,hl,hc with
    |[],_,_=>exact z
    |[x],_,_=>exact z
    |x::y::l3,hl,hc=>
     simp only [ze] at hl;simp only;split
     ·exact z
     ·next hh=>
      have hx:∀c,hexv c≤15:=fun c=>by
       unfold hexv q1h;cases h:(decide (48≤c)&&decide (c≤57)) with
       |true=>simp only [zd,decide_eq_true_eq] at h;rw [cond_true];omega
       |false=>
        rw [cond_false];cases h2:(decide (97≤c)&&decide (c≤102)) with
        |true=>simp only [zd,decide_eq_true_eq] at h2;rw [cond_true];omega
        |false=>rw [cond_false];omega
      have h1:=hx x;have h2:=hx y;exact qao n l3 _ _ (by omega) (fun z hz=>hc z (zm _ (zm _ hz))) (sn (by omega))
   ·exact z
theorem qwe (H:LxP inn sgn) {N:Int→Prop} (n0:N 0) (s:Tx) (hs:∀x,x∈s→0≤x∧x≤255) (hN:∀t:Tx,(∀x,x∈t→0≤x∧x≤255)→t.length≤s.length→N (rd t).1):(∀x,x∈(one inn sgn keyw rd s).1.2.1→0≤x∧x≤255)∧(one inn sgn keyw rd s).1.2.1.length≤s.length+200∧N (one inn sgn keyw rd s).1.2.2:=by
 have z:∀x:Int,x∈([]:Tx)→0≤x∧x≤255:=fun x h=>absurd h (List.not_mem_nil);cases s with
 |nil=>exact ⟨z,Nat.zero_le _,n0⟩
 |cons c l=>
  refine qbt H c l (fun r=>(∀x,x∈r.1.2.1→0≤x∧x≤255)∧r.1.2.1.length≤(c::l).length+200∧N r.1.2.2) (fun n k g1 g2=>⟨fun x hx=>hs x (List.mem_of_mem_take hx),?_,n0⟩) (fun _ _=>⟨z,Nat.zero_le _,hN _ (fun x hx=>hs x (List.mem_of_mem_take hx)) ?_⟩)
   (fun g g2=>⟨qao l.length l [] 1 (Nat.le_refl _) (fun x hx=>hs x (zm _ hx)) z,by simp only;omega,n0⟩) fun e he=>⟨z,Nat.zero_le _,n0⟩
  ·show ((c::l).take n).length≤_;rw [zM];omega
  ·rw [zM];omega
theorem z09 (H:LxP inn sgn) (y s:Tx) (h0:(one inn sgn keyw rd s).2.2=0):one inn sgn keyw rd (s++10::y)=one inn sgn keyw rd s:=by
 cases s with
 |nil=>exact absurd h0 (show ¬(30:Int)=0 by decide)
 |cons c l=>
  revert h0;show (oneC inn sgn keyw rd c l).2.2=0→oneC inn sgn keyw rd c (l++10::y)=oneC inn sgn keyw rd c l;have k:∀{n:Nat} {k:Int},n≤(c::l).length→keyT keyw n k (c::(l++10::y))=keyT keyw n k (c::l):=fun {n k} hn=>by
   have e:(c::(l++10::y)).take n=(c::l).take n:=by have:c::(l++10::y)=(c::l)++10::y:=rfl;rw [this,ja hn]
   unfold keyT;rw [e]
  have sp:∀{p:Int→Bool},p 10=false→q17 p (c::(l++10::y))=q17 p (c::l):=fun hp=>qes hp (c::l);have s5:decide ((l++10::y).head?=some 59)=decide (l.head?=some 59):=by
   cases l with
   |nil=>rfl
   |cons e l2=>rfl
  have sd:q17 q1h (l++10::y)=q17 q1h l:=qes rfl l;have td:(c::(l++10::y)).take (1+q17 q1h l)=(c::l).take (1+q17 q1h l):=by have:=q2q q1h l;have e:c::(l++10::y)=(c::l)++10::y:=rfl;rw [e,ja (by simp only [ze];omega)]
  unfold oneC;rw [sp H.i10,sp H.s10,s5,sd,td,k (q2q _ _),k (q2q _ _),k (q2q _ _),k (show 1≤(c::l).length by simp)];cases qgf c with
  |true=>exact fun _=>rfl
  |false=>
  cases qgg c with
  |true=>exact fun _=>rfl
  |false=>
  cases sgn c with
  |true=>exact fun _=>rfl
  |false=>
  cases (decide (c=40)||(decide (c=41)||decide (c=95))) with
  |true=>exact fun _=>rfl
  |false=>
  cases g5:(decide (c=59)&&decide (l.head?=some 59)) with
  |true=>
   have hc:2≤(c::l).length:=by
    cases l with
    |nil=>simp at g5
    |cons e l2=>simp only [ze];omega
   rw [k hc];exact fun _=>rfl
  |false=>
  cases (q1h c||decide (c=126)) with
  |true=>exact fun _=>rfl
  |false=>
  cases decide (c=34) with
  |false=>exact fun _=>rfl
  |true=>
   simp only [cond_true,cond_false];by_cases hq:(qt l [] 1).2=0
   ·rw [zt hq,Bool.true_or,cond_true];exact fun h=>absurd h (by decide)
   ·rw [qk9 (10::y) l.length l [] 1 (Nat.le_refl _) hq];exact fun _=>rfl
end
theorem q3u:∀(b:Bool) (s:Tx),blank b s≤s.length
 |b,[]=>by cases b<;>exact Nat.le_refl _
 |false,c::l=>by
  unfold blank;have h1:=q3u false l;have h2:=q3u true l;rw [ze];split
  ·omega
  ·split<;>omega
 |true,c::l=>by unfold blank;have h1:=q3u false l;have h2:=q3u true l;rw [ze];split<;>omega
theorem qap:∀(b:Bool) (s z:Tx),blank b s<s.length→blank b (s++z)=blank b s
 |b,[],z,h=>by simp at h
 |false,c::l,z,h=>by
  revert h;show blank false (c::l)<_→blank false (c::(l++z))=blank false (c::l);unfold blank;rw [ze];split
  ·intro h;rw [qap false l z (by omega)]
  ·split
   ·intro h;rw [qap true l z (by omega)]
   ·exact fun _=>rfl
 |true,c::l,z,h=>by
  revert h;show blank true (c::l)<_→blank true (c::(l++z))=blank true (c::l);unfold blank;rw [ze];split
  ·intro h;rw [qap false l z (by omega)]
  ·intro h;rw [qap true l z (by omega)]
theorem q7w:∀(b:Bool) (s y:Tx),blank b s=s.length→blank b (s++10::y)=s.length+blank false (10::y)
 |false,[],y,_=>by simp
 |true,[],y,_=>by simp [blank]
 |false,c::l,y,h=>by
  revert h;show blank false (c::l)=_→blank false (c::(l++10::y))=_;have h1:=q3u false l;have h2:=q3u true l
  conv=>lhs;unfold blank
  conv=>rhs;lhs;unfold blank
  rw [ze];split
  ·intro h;rw [q7w false l y (by omega)];omega
  ·split
   ·intro h;rw [q7w true l y (by omega)];omega
   ·intro h;omega
 |true,c::l,y,h=>by
  revert h;show blank true (c::l)=_→blank true (c::(l++10::y))=_;have h1:=q3u false l;have h2:=q3u true l
  conv=>lhs;unfold blank
  conv=>rhs;lhs;unfold blank
  rw [ze];split
  ·intro h;rw [q7w false l y (by omega)];omega
  ·intro h;rw [q7w true l y (by omega)];omega
theorem qwf (n:Nat) (s:Tx):blank false (List.replicate n 32++s)=n+blank false s:=by
 induction n with
 |zero=>simp
 |succ n ih=>
  rw [List.replicate_succ];have e:blank false (32::(List.replicate n 32++s))=blank false (List.replicate n 32++s)+1:=by
   conv=>lhs;unfold blank
   rw [if_pos (.inl rfl)]
  show blank false (32::(List.replicate n 32++s))=_;rw [e,ih];omega
end Pz
end Ev

namespace Ev
namespace Pz
section
variable {inn sgn:Int→Bool} {keyw:Tx→Bool} {rd:Tx→Int×Int}
theorem qwg {α β:Type} {x y:PR α} {f:α→PR β} (h:x=y):eb x f=eb y f:=by rw [h]
theorem qaq (H:LxP inn sgn):∀(n:Nat) (s:Tx),s.length≤n→∀(f f':Nat) (a:Int),s.length<f→s.length<f'→lexP inn sgn keyw rd f s a=lexP inn sgn keyw rd f' s a:=by
 intro n
 induction n with
 |zero=>intro s hs f f' a h1 h2;obtain ⟨f,rfl⟩:∃g,f=g+1:=⟨f-1,by omega⟩;obtain ⟨f',rfl⟩:∃g,f'=g+1:=⟨f'-1,by omega⟩;have:s.drop (blank false s)=[]:=zB (by omega);unfold lexP;rw [if_pos this,if_pos this]
 |succ n ih=>
  intro s hs f f' a h1 h2;obtain ⟨f,rfl⟩:∃g,f=g+1:=⟨f-1,by omega⟩;obtain ⟨f',rfl⟩:∃g,f'=g+1:=⟨f'-1,by omega⟩;have hb:=q3u false s;unfold lexP;by_cases h0:s.drop (blank false s)=[]
  ·rw [if_pos h0,if_pos h0]
  ·rw [if_neg h0,if_neg h0];by_cases he:(one inn sgn keyw rd (s.drop (blank false s))).2.2≠0
   ·rw [if_pos he,if_pos he]
   ·rw [if_neg he,if_neg he];have hl:=qo2 (keyw:=keyw) (rd:=rd) H (s.drop (blank false s)) (Classical.not_not.1 he);rw [zw] at hl;exact qwg (ih _ (by rw [zw,zw];omega) f f' _ (by rw [zw,zw];omega) (by rw [zw,zw];omega))
def shT (b:Int) (t:Tk):Tk:=(t.1,t.2.1,t.2.2.1,t.2.2.2+b)
def shL (b:Int):PR (List Tk)→PR (List Tk)
 |.ok l=>.ok (l.map (shT b))
 |.error e=>.error (e.1+b,e.2)
theorem qet (b:Int):∀(f:Nat) (s:Tx) (a:Int),lexP inn sgn keyw rd f s (a+b)=shL b (lexP inn sgn keyw rd f s a)
 |0,s,a=>rfl
 |f+1,s,a=>by
  unfold lexP;by_cases h0:s.drop (blank false s)=[]
  ·rw [if_pos h0,if_pos h0];rfl
  ·rw [if_neg h0,if_neg h0];by_cases he:(one inn sgn keyw rd (s.drop (blank false s))).2.2≠0
   ·rw [if_pos he,if_pos he];show (.error _:PR (List Tk))=.error _;congr 2;omega
   ·rw [if_neg he,if_neg he];have e1:a+b+(blank false s:Int)+((one inn sgn keyw rd (s.drop (blank false s))).2.1:Int)=(a+(blank false s:Int)+((one inn sgn keyw rd (s.drop (blank false s))).2.1:Int))+b:=by omega
    have e2:a+b+(blank false s:Int)=a+(blank false s:Int)+b:=by omega
    rw [e1,qet b f,e2];cases lexP inn sgn keyw rd f ((s.drop (blank false s)).drop (one inn sgn keyw rd (s.drop (blank false s))).2.1) (a+(blank false s:Int)+((one inn sgn keyw rd (s.drop (blank false s))).2.1:Int))<;>rfl
theorem qar (f:Nat) (s z:Tx) (a:Int) (h:blank false (s++z)=s.length+blank false z):lexP inn sgn keyw rd (f+1) (s++z) a=lexP inn sgn keyw rd (f+1) z (a+(s.length:Int)):=by
 have e:(s++z).drop (s.length+blank false z)=z.drop (blank false z):=by rw [←List.drop_drop,List.drop_left]
 have e2:a+((s.length+blank false z:Nat):Int)=a+(s.length:Int)+(blank false z:Int):=by omega
 conv=>lhs;unfold lexP
 conv=>rhs;unfold lexP
 rw [h,e,e2]
theorem z0a (H:LxP inn sgn) (y:Tx):∀(n:Nat) (s:Tx),s.length≤n→∀(f f':Nat) (a:Int) (l:List Tk),s.length<f→s.length+y.length+1<f'→lexP inn sgn keyw rd f s a=.ok l→lexP inn sgn keyw rd f' (s++10::y) a=eb (lexP inn sgn keyw rd f' (10::y) (a+(s.length:Int))) fun r=>.ok (l++r):=by
 intro n
 induction n using Nat.strongRecOn with
 |_ n ih=>
  intro s hs f f' a l h1 h2 hl;obtain ⟨f,rfl⟩:∃g,f=g+1:=⟨f-1,by omega⟩;obtain ⟨f',rfl⟩:∃g,f'=g+1:=⟨f'-1,by omega⟩;have hb:=q3u false s
  conv at hl=>lhs;unfold lexP
  by_cases h0:s.drop (blank false s)=[]
  ·rw [if_pos h0] at hl;injection hl with hl;have hd:=congrArg List.length h0;rw [zw,List.length_nil] at hd;rw [qar f' s (10::y) a (q7w false s y (by omega)),←hl];cases lexP inn sgn keyw rd (f'+1) (10::y) (a+(s.length:Int))<;>rfl
  ·rw [if_neg h0] at hl;have hg:blank false s<s.length:=by
    rcases Nat.lt_or_ge (blank false s) s.length with h|h
    ·exact h
    ·exact absurd (zB h) h0
   by_cases he:(one inn sgn keyw rd (s.drop (blank false s))).2.2≠0
   ·rw [if_pos he] at hl;cases hl
   ·rw [if_neg he] at hl;have hc:=Classical.not_not.1 he;have hf:=qo2 (keyw:=keyw) (rd:=rd) H (s.drop (blank false s)) hc;obtain ⟨l2,g1,g2⟩:∃l2,lexP inn sgn keyw rd f ((s.drop (blank false s)).drop (one inn sgn keyw rd (s.drop (blank false s))).2.1) (a+(blank false s:Int)+((one inn sgn keyw rd (s.drop (blank false s))).2.1:Int))=.ok l2∧l=tkOf (one inn sgn keyw rd (s.drop (blank false s))).1 (a+(blank false s:Int))::l2:=by
     revert hl;cases lexP inn sgn keyw rd f ((s.drop (blank false s)).drop (one inn sgn keyw rd (s.drop (blank false s))).2.1) (a+(blank false s:Int)+((one inn sgn keyw rd (s.drop (blank false s))).2.1:Int)) with
     |error e=>intro h;cases h
     |ok l2=>intro h;injection h with h;exact ⟨l2,rfl,h.symm⟩
    have hj:blank false (s++10::y)=blank false s:=qap false s _ hg;have hm:(s++10::y).drop (blank false s)=s.drop (blank false s)++10::y:=jb hb;have hn:=z09 (keyw:=keyw) (rd:=rd) H y (s.drop (blank false s)) hc
    conv=>lhs;unfold lexP
    rw [hj,hm,hn,if_neg (by simp),if_neg he,jb hf.2];generalize hk:(one inn sgn keyw rd (s.drop (blank false s))).2.1=k at*
    have ho:((s.drop (blank false s)).drop k).length=s.length-blank false s-k:=by rw [zw,zw]
    rw [zw] at hf;rw [ih ((s.drop (blank false s)).drop k).length (by omega) _ (Nat.le_refl _) f f' _ l2 (by omega) (by omega) g1];have e3:a+(blank false s:Int)+(k:Int)+((((s.drop (blank false s)).drop k).length:Nat):Int)=a+(s.length:Int):=by omega
    rw [e3,qaq H (10::y).length (10::y) (Nat.le_refl _) f' (f'+1) _ (by simp only [ze];omega) (by simp only [ze];omega),g2];cases lexP inn sgn keyw rd (f'+1) (10::y) (a+(s.length:Int))<;>rfl
def OkL (N:Int→Prop) (a:Int) (m:Nat) (r:PR (List Tk)):Prop:=match r with
 |.ok l=>l.length≤m∧∀t,t∈l→((∀x,x∈t.2.1→0≤x∧x≤255)∧t.2.1.length≤m+200∧N t.2.2.1)∧a≤t.2.2.2∧t.2.2.2≤a+m
 |.error e=>(a≤e.1∧e.1≤a+m)∧30≤e.2∧e.2≤32
theorem qxq (H:LxP inn sgn) {N:Int→Prop} (n0:N 0) (M:Nat) (hN:∀t:Tx,(∀x,x∈t→0≤x∧x≤255)→t.length≤M→N (rd t).1):∀(f:Nat) (s:Tx) (a:Int),s.length≤M→(∀x,x∈s→0≤x∧x≤255)→OkL N a s.length (lexP inn sgn keyw rd f s a)
 |0,s,a,_,_=>⟨Nat.zero_le _,fun t h=>absurd h (List.not_mem_nil)⟩
 |f+1,s,a,hM,hs=>by
  have hb:=q3u false s;unfold lexP;by_cases h0:s.drop (blank false s)=[]
  ·rw [if_pos h0];exact ⟨Nat.zero_le _,fun t h=>absurd h (List.not_mem_nil)⟩
  ·rw [if_neg h0];by_cases he:(one inn sgn keyw rd (s.drop (blank false s))).2.2≠0
   ·rw [if_pos he];exact ⟨⟨by simp only;omega,by simp only;omega⟩,(z08 H _).resolve_left he⟩
   ·rw [if_neg he];have hd:=Classical.not_not.1 he;have hf:=qo2 (keyw:=keyw) (rd:=rd) H (s.drop (blank false s)) hd;have hg:=qwe (keyw:=keyw) (rd:=rd) H n0 (s.drop (blank false s)) (fun x hx=>hs x (List.mem_of_mem_drop hx)) (fun t ht hl=>hN t ht (by rw [zw] at hl;omega));rw [zw] at hf hg;have hc:((s.drop (blank false s)).drop (one inn sgn keyw rd (s.drop (blank false s))).2.1).length=s.length-blank false s-(one inn sgn keyw rd (s.drop (blank false s))).2.1:=by rw [zw,zw]
    have r:=qxq H n0 M hN f ((s.drop (blank false s)).drop (one inn sgn keyw rd (s.drop (blank false s))).2.1) (a+(blank false s:Int)+((one inn sgn keyw rd (s.drop (blank false s))).2.1:Int)) (by omega) (fun x hx=>hs x (List.mem_of_mem_drop (List.mem_of_mem_drop hx)));rw [hc] at r;revert r;cases lexP inn sgn keyw rd f ((s.drop (blank false s)).drop (one inn sgn keyw rd (s.drop (blank false s))).2.1) (a+(blank false s:Int)+((one inn sgn keyw rd (s.drop (blank false s))).2.1:Int)) with
    |error e=>rintro ⟨⟨r1,r2⟩,r3⟩;exact ⟨⟨by omega,by omega⟩,r3⟩
    |ok l=>
     rintro ⟨r1,r2⟩;refine ⟨?_,fun t ht=>?_⟩
     ·show (_::l).length≤_;rw [ze];omega
     ·rcases zn.1 ht with rfl|ht
      ·exact ⟨⟨hg.1,Nat.le_trans hg.2.1 (by omega),hg.2.2⟩,by show a≤a+(blank false s:Int);omega,by show a+(blank false s:Int)≤_;omega⟩
      ·obtain ⟨⟨q1,q2,q3⟩,q4,q5⟩:=r2 t ht;exact ⟨⟨q1,by omega,q3⟩,by omega,by omega⟩
end
end Pz
end Ev

