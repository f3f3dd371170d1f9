/- Documents in plain words; both texts make these; the laws as data. No statement of its own about the program. -/
import Derived.Test.YtakmoaimmdheeaaGreatDoorPlainC
namespace Ev
open Go Ieee
namespace Fn
end Fn
end Ev

namespace Ev
open Go
namespace Fn
def dTx (s:Tx):F:=tr 41 s 0 .nil
def dLn:F:=tr 42 [] 0 .nil
def catF:List F→F
 |[]=>.nil
 |d::l=>d.app (catF l)
def dCat (l:List F):F:=tr 45 [] 0 (catF l)
def qe6:List F→F
 |[d]=>d
 |l=>dCat l
def q4l (l:List F):F:=tr 43 [] 2 (qe6 l)
def dGrp (l:List F):F:=tr 44 [] 0 (qe6 l)
def dUnd (d:F):F:=q4l [dLn,d]
def q8d (s:Tx):Tx:=bif opOk s then [40]++s++[41] else s
def numT (n:Int):Tx:=rep1 (q8s n)
def hexD (n:Int):Int:=if n<10 then 48+n else 87+n
def quoC (c:Int):Tx:=if c=34∨c=92 then [92,c] else if c=10 then [92,110] else if c<32∨126<c then [92,120,hexD (c / 16),hexD (c % 16)] else [c]
def quoT (s:Tx):Tx:=[34]++s.flatMap quoC++[34]
def qod (qs:List (Tx×Tx)):Tx:=qs.flatMap fun q=>[32]++q.2
def patT (k:Int) (t:Tx) (n:Int) (qs:List (Tx×Tx)):Tx:=if k=21 then [95] else if k=22 then q8d t else if k=23 then numT n else t++qod qs
def patI (k:Int) (c:Nat) (s:Tx):Tx:=if k≠21∧k≠22∧k≠23∧c≠0 then [40]++s++[41] else s
def patL:F→List (Tx×Tx)
 |.nil=>[]
 |.cons k t n ks r=>(patT k t n (patL ks),patI k ks.cnt (patT k t n (patL ks)))::patL r
structure Pt where
 doc:F
 lk:Int
 lv:Int
 sd:Int
structure Dc where
 p:Pt
 b:Pt
 hd:Pt
 args:List F
 pt:Tx
def brkD (b:Bool) (d:F):F:=bif b then dCat [dTx [40],d,dTx [41]] else d
def qc5 (p:Pt) (lv sd s:Int):Bool:=decide (p.lk=2)&&(decide (p.lv<lv)||(decide (p.lv=lv)&&(decide (p.sd≠s)||decide (sd≠s))))
def q7k (p:Pt) (lv sd s:Int):F:=brkD (decide (p.lk=3)||qc5 p lv sd s) p.doc
def argD (p:Pt):F:=brkD (decide (p.lk≠0)) p.doc
def qh3 (p:Pt):F:=brkD (decide (p.lk=2)||decide (p.lk=3)) p.doc
def rowOf (fx:List Fix1) (k:Int):F→Option Fix1
 |.cons k1 _ _ (.cons k2 op _ _ _) _=>if k=6∧k1=6∧k2=3 then q51 fx op else none
 |_=>none
def pz:Pt:=⟨.nil,0,0,0⟩
def dz:Dc:=⟨pz,pz,pz,[],[]⟩
def nthD (ds:List Dc) (i:Nat):Dc:=(ds[i]?).getD dz
def q6k:List Dc→List F
 |p::e::r=>[dLn,dTx ([124,32]++(p.pt++[32,45,62])),dUnd e.p.doc]++q6k r
 |_=>[]
def z0i:List Dc→F
 |a::p::e::r=>dGrp ([dTx Pz.kMatch,dUnd a.p.doc,dLn,dTx Pz.kWith]++([q4l [dLn,dTx (p.pt++[32,45,62]),dUnd e.p.doc]]++(q6k r++[dLn,dTx Pz.kEnd])))
 |_=>dGrp []
def q4b (k:Int):Bool:=decide (k=5)||(decide (k=7)||(decide (k=8)||(decide (k=9)||(decide (k=11)||decide (k=12)))))
def qoe (k:Int) (t:Tx) (a b c:F):F:=
 if k=5 then dGrp [dTx ([102,117,110,32]++q8d t++[32,45,62]),dUnd a] else
 if k=7 then dGrp [dTx ([108,101,116,32]++q8d t++[32,61]),dUnd a,dLn,dTx [105,110],dLn,b] else
 if k=8 then dGrp [dTx ([108,101,116,32,114,101,99,32]++q8d t++[32,61]),dUnd a,dLn,dTx [105,110],dLn,b] else
 if k=9 then dGrp [dTx Pz.kIf,dUnd a,dLn,dTx Pz.kThen,dUnd b,dLn,dTx Pz.kElse,dUnd c] else
 if k=11 then dGrp [dTx Pz.kRaise,dUnd a] else
 dGrp [dTx Pz.kTry,dUnd a,dLn,dTx ([119,105,116,104,32]++q8d t++[32,45,62]),dUnd b]
def rowD (f:Fix1) (a b:Pt):F:=dGrp [q7k a f.2.1 f.2.2 (-1),q4l [dLn,dTx (f.1++[32]),q7k b f.2.1 f.2.2 1]]
def appD (hd:Pt) (args:List F):F:=dGrp [qh3 hd,q4l args]
def docK (fx:List Fix1) (k:Int) (t:Tx) (n:Int) (ks:F) (ds:List Dc):F:=
 if k=1 then dTx (numT n) else if k=2 then dTx (quoT t) else if k=3 then dTx (q8d t) else
 if q4b k=true then qoe k t (nthD ds 0).p.doc (nthD ds 1).p.doc (nthD ds 2).p.doc else
 if k=10 then z0i ds else
 if k=6 then (match rowOf fx k ks with
  |some f=>rowD f (nthD ds 0).b (nthD ds 1).p
  |none=>appD (nthD ds 0).hd ((nthD ds 0).args++[dLn,argD (nthD ds 1).p])) else dTx t
def lkK (fx:List Fix1) (k:Int) (ks:F):Int:=if k=6 then (match rowOf fx k ks with|some _=>2|none=>1) else if q4b k=true then 3 else 0
def ownP (fx:List Fix1) (k:Int) (t:Tx) (n:Int) (ks:F) (ds:List Dc):Pt:=⟨docK fx k t n ks ds,lkK fx k ks,((rowOf fx k ks).getD ([],0,0)).2.1,((rowOf fx k ks).getD ([],0,0)).2.2⟩
def oneD (fx:List Fix1) (k:Int) (t:Tx) (n:Int) (ks:F) (ds:List Dc):Dc:=
 ⟨ownP fx k t n ks ds,if k=6 then (nthD ds 1).p else pz,
  if lkK fx k ks=1 then (nthD ds 0).hd else ownP fx k t n ks ds,
  if lkK fx k ks=1 then (nthD ds 0).args++[dLn,argD (nthD ds 1).p] else [],patT k t n (patL ks)⟩
def dF (fx:List Fix1):F→List Dc
 |.nil=>[]
 |.cons k t n ks r=>oneD fx k t n ks (dF fx ks)::dF fx r
def dT (fx:List Fix1) (k:Int) (t:Tx) (n:Int) (ks:F):Dc:=oneD fx k t n ks (dF fx ks)
theorem F.app_size:∀f g:F,(f.app g).size=f.size+g.size
 |.nil,g=>(zH _).symm
 |.cons k t n ks r,g=>by show ks.size+(r.app g).size+1=ks.size+r.size+1+g.size;rw [r.app_size g];omega
theorem F.app_cnt:∀f g:F,(f.app g).cnt=f.cnt+g.cnt
 |.nil,g=>(zH _).symm
 |.cons k t n ks r,g=>by show (r.app g).cnt+1=r.cnt+1+g.cnt;rw [r.app_cnt g];omega
theorem F.app_flat:∀f g:F,(f.app g).flat=f.flat++g.flat
 |.nil,g=>rfl
 |.cons k t n ks r,g=>by
  show _::(ks.flat++(r.app g).flat)=(_::(ks.flat++r.flat))++g.flat
  rw [r.app_flat g,List.cons_append,zm]
theorem F.app_assoc:∀f g h:F,(f.app g).app h=f.app (g.app h)
 |.nil,_,_=>rfl
 |.cons k t n ks r,g,h=>by show F.cons k t n ks ((r.app g).app h)=F.cons k t n ks (r.app (g.app h));rw [r.app_assoc g h]
theorem qqe:∀a b:List F,catF (a++b)=(catF a).app (catF b)
 |[],_=>rfl
 |d::a,b=>by show d.app (catF (a++b))=(d.app (catF a)).app (catF b);rw [qqe a b,F.app_assoc]
theorem q17 (a b:List F):(catF (a++b)).size=(catF a).size+(catF b).size:=by rw [qqe,F.app_size]
theorem q05 (d:F) (l:List F):(catF (d::l)).size=d.size+(catF l).size:=F.app_size _ _
theorem qgj:∀l:List F,(catF l).flat=(l.map F.flat).flatten
 |[]=>rfl
 |d::l=>by show (d.app (catF l)).flat=d.flat++(l.map F.flat).flatten;rw [F.app_flat,qgj l]
theorem qqf:∀l:List F,(∀d,d∈l→d.cnt=1)→(catF l).cnt=l.length
 |[],_=>rfl
 |d::l,h=>by show (d.app (catF l)).cnt=l.length+1;rw [F.app_cnt,qqf l fun x hx=>h x (zj _ hx),h d (zf ..)];omega
theorem q41 (l:List F):(qe6 l).size≤(catF l).size+1:=by
 match l with
 |[]=>exact Nat.le_refl _
 |[d]=>rw [q05];show d.size≤_;omega
 |_::_::_=>exact Nat.le_refl _
theorem q2g (l:List F):(q4l l).size≤(catF l).size+2:=by have:=q41 l;show (qe6 l).size+0+1≤_;omega
theorem q6q (l:List F):(dGrp l).size≤(catF l).size+2:=by have:=q41 l;show (qe6 l).size+0+1≤_;omega
theorem q0p (s:Tx):(dTx s).size=1:=rfl
theorem q11:dLn.size=1:=rfl
theorem q08:(catF []).size=0:=rfl
theorem qc6 (b:Bool) (d:F):(brkD b d).size≤d.size+3:=by
 cases b with
 |false=>show d.size≤_;omega
 |true=>show (catF [dTx [40],d,dTx [41]]).size+0+1≤_;rw [q05,q05,q05,q0p,q0p,q08];omega
theorem q3p (d:F):(dUnd d).size≤d.size+3:=by have:=q2g [dLn,d];rw [q05,q05,q11,q08] at this;show (q4l [dLn,d]).size≤_;omega
end Fn
end Ev

namespace Ev
open Go
namespace Fn
theorem qwj {ks:F} (h:(ks.cnt:Int)=1):∃a b c d,ks=.cons a b c d .nil:=by
 match ks,h with
 |.nil,h=>exact absurd h (by decide)
 |.cons a b c d r,h=>have h:((r.cnt+1:Nat):Int)=1:=h;exact ⟨a,b,c,d,by rw [qjt (f:=r) (by omega)]⟩
theorem q2t {ks:F} {n:Nat} (h:ks.cnt=n+1):∃a b c d r,ks=.cons a b c d r∧r.cnt=n:=by
 match ks,h with
 |.nil,h=>exact absurd h (by show ¬(0:Nat)=n+1;omega)
 |.cons a b c d r,h=>have h:r.cnt+1=n+1:=h;exact ⟨a,b,c,d,r,rfl,by omega⟩
theorem q9y {ks:F} (h:ks.cnt=0):ks=.nil:=qjt (by omega)
def DcOk (N:Nat) (x:Dc):Prop:=x.p.doc.size+5≤6*N∧x.hd.doc.size+(catF x.args).size+5≤6*N∧(x.b.doc.size=0∨x.b.doc.size+17≤6*N)
def SzF (fx:List Fix1):Bool→Bool→F→Prop
 |_,_,.nil=>True
 |m,odd,.cons k t n ks r=>((m&&odd)=false→DcOk (ks.size+1) (dT fx k t n ks))∧SzF fx m (!odd) r
theorem qwk (p:Pt):(argD p).size≤p.doc.size+3:=qc6 _ _
theorem qib (p:Pt):(qh3 p).size≤p.doc.size+3:=qc6 _ _
theorem q64 (p:Pt) (a b c:Int):(q7k p a b c).size≤p.doc.size+3:=qc6 _ _
theorem qzi {N:Nat} {p:Pt} {t:Tx} (h:p.doc.size+5≤6*N):DcOk N ⟨p,pz,p,[],t⟩:=⟨h,by show p.doc.size+(catF []).size+5≤_;rw [q08];omega,.inl rfl⟩
theorem qzj (fx:List Fix1) {k:Int} (t:Tx) (n:Int) (ks:F) (ds:List Dc) (h:k≠6):oneD fx k t n ks ds=⟨ownP fx k t n ks ds,pz,ownP fx k t n ks ds,[],patT k t n (patL ks)⟩:=by
 have hl:lkK fx k ks≠1:=by unfold lkK;rw [if_neg h];split<;>decide
 unfold oneD;rw [if_neg h,if_neg hl,if_neg hl]
theorem qme (fx:List Fix1):∀(N:Nat) (r:F),r.size≤N→SzF fx true true r→(catF (q6k (dF fx r))).size≤6*r.size
 |_,.nil,_,_=>by show (catF []).size≤_;rw [q08];omega
 |_,.cons k t n ks .nil,_,_=>by show (catF []).size≤_;rw [q08];omega
 |0,.cons k t n ks (.cons k' t' n' ks' r),h,_=>by have h:ks.size+(ks'.size+r.size+1)+1≤0:=h;omega
 |N+1,.cons k t n ks (.cons k' t' n' ks' r),h,hs=>by have h:ks.size+(ks'.size+r.size+1)+1≤N+1:=h;obtain ⟨_,h2,h3⟩:=hs;have h2:=(h2 rfl).1;have ih:=qme fx N r (by omega) h3;show (catF ([dLn,dTx ([124,32]++((dT fx k t n ks).pt++[32,45,62])),dUnd (dT fx k' t' n' ks').p.doc]++q6k (dF fx r))).size≤6*(ks.size+(ks'.size+r.size+1)+1);have hu:=q3p (dT fx k' t' n' ks').p.doc;rw [q17,q05,q05,q05,q08,q11,q0p];omega
theorem qsn (k:Int) (t:Tx) (a b c:F):(qoe k t a b c).size≤(if k=5∨k=11 then a.size+6 else if k=9 then a.size+b.size+c.size+16 else a.size+b.size+11):=by
 have ha:=q3p a;have hb:=q3p b;have hc:=q3p c;unfold qoe;have g:∀l:List F,(dGrp l).size≤(catF l).size+2:=q6q;by_cases h5:k=5
 ·rw [if_pos h5,if_pos (.inl h5)];refine Nat.le_trans (g _) ?_;rw [q05,q05,q08,q0p];omega
 by_cases he:k=11
 ·subst he;rw [if_neg (by decide),if_neg (by decide),if_neg (by decide),if_neg (by decide),if_pos rfl,if_pos (.inr rfl)];refine Nat.le_trans (g _) ?_;rw [q05,q05,q08,q0p];omega
 by_cases h9:k=9
 ·subst h9;rw [if_neg (by decide),if_neg (by decide),if_neg (by decide),if_pos rfl,if_neg (by decide),if_pos rfl];refine Nat.le_trans (g _) ?_;simp only [q05,q08,q0p,q11];omega
 rw [if_neg h5,if_neg h9,if_neg he,if_neg (show ¬(k=5∨k=11) from fun h=>h.elim h5 he),if_neg h9];split
 ·refine Nat.le_trans (g _) ?_;simp only [q05,q08,q0p,q11];omega
 split
 ·refine Nat.le_trans (g _) ?_;simp only [q05,q08,q0p,q11];omega
 ·refine Nat.le_trans (g _) ?_;simp only [q05,q08,q0p,q11];omega
theorem q42 {k:Int} (h:q4b k=true):k=5∨k=7∨k=8∨k=9∨k=11∨k=12:=by simpa [q4b,Bool.or_eq_true,decide_eq_true_eq] using h
theorem z2k {k:Int} (h:q4b k=true):k≠1∧k≠2∧k≠3∧k≠6∧k≠10:=by rcases q42 h with h|h|h|h|h|h<;>subst h<;>decide
theorem qgk (fx:List Fix1) {k:Int} (t:Tx) (n:Int) (ks:F) (ds:List Dc) (h:q4b k=true):docK fx k t n ks ds=qoe k t (nthD ds 0).p.doc (nthD ds 1).p.doc (nthD ds 2).p.doc:=by obtain ⟨h1,h2,h3,_⟩:=z2k h;unfold docK;rw [if_neg h1,if_neg h2,if_neg h3,if_pos h]
theorem qmf (fx:List Fix1) {k:Int} {t:Tx} {n:Int} {ks:F} (hv:errT k t n ks false=0) (hs:SzF fx (eqI k 10) false ks):DcOk (ks.size+1) (dT fx k t n ks):=by
 obtain ⟨hn,hf⟩:=errT_ok.1 hv;obtain ⟨_,_,hk,_,_,_⟩:=nodeE_zero.1 hn;obtain ⟨c1,c2,c3,c10,c0⟩:=qap hk;have one:∀{a b d:_} {c:_} {r m:_},SzF fx m false (.cons a b c d r)→DcOk (d.size+1) (dT fx a b c d)∧SzF fx m true r:=fun h=>⟨h.1 (Bool.and_false _),h.2⟩;have two:∀{a b d:_} {c:_} {r:_},SzF fx false true (.cons a b c d r)→DcOk (d.size+1) (dT fx a b c d)∧SzF fx false false r:=fun h=>⟨h.1 rfl,h.2⟩;by_cases h6:k=6
 ·subst h6;obtain ⟨a,b,c,d,r,rfl,hr⟩:=q2t (ks:=ks) (n:=1) (by have:=c2 (.inl rfl);omega);obtain ⟨a',b',c',d',r',rfl,he⟩:=q2t (n:=0) hr;obtain rfl:=q9y he;have e10:eqI 6 10=false:=rfl;rw [e10] at hs;obtain ⟨s1,hs⟩:=one hs;obtain ⟨s2,_⟩:=two hs;have e0:nthD (dF fx (.cons a b c d (.cons a' b' c' d' .nil))) 0=dT fx a b c d:=rfl;have e1:nthD (dF fx (.cons a b c d (.cons a' b' c' d' .nil))) 1=dT fx a' b' c' d':=rfl;have hN:(F.cons a b c d (.cons a' b' c' d' .nil)).size+1=d.size+1+(d'.size+1)+1:=by show d.size+(d'.size+0+1)+1+1=_;omega
  rw [hN];generalize d.size+1=N0 at*
  have hp:1≤N0:=by have:=s1.1;omega
  have ha:=qwk (dT fx a' b' c' d').p;have hh:=qib (dT fx a b c d).hd;obtain ⟨p1,p2,p3⟩:=s1;obtain ⟨q1,q2,q3⟩:=s2;have hm:(catF ((dT fx a b c d).args++[dLn,argD (dT fx a' b' c' d').p])).size≤(catF (dT fx a b c d).args).size+1+((dT fx a' b' c' d').p.doc.size+3):=by rw [q17,q05,q05,q08,q11];omega
  unfold dT oneD;have hg:(docK fx 6 t n (.cons a b c d (.cons a' b' c' d' .nil)) (dF fx (.cons a b c d (.cons a' b' c' d' .nil)))).size+5≤6*(N0+(d'.size+1)+1):=by
   unfold docK;rw [if_neg (by decide),if_neg (by decide),if_neg (by decide),if_neg (by decide),if_neg (by decide),if_pos rfl,e0,e1];cases ht:rowOf fx 6 (.cons a b c d (.cons a' b' c' d' .nil)) with
   |none=>have g1:=q6q [qh3 (dT fx a b c d).hd,q4l ((dT fx a b c d).args++[dLn,argD (dT fx a' b' c' d').p])];have g2:=q2g ((dT fx a b c d).args++[dLn,argD (dT fx a' b' c' d').p]);rw [q05,q05,q08] at g1;show (dGrp [qh3 (dT fx a b c d).hd,q4l ((dT fx a b c d).args++[dLn,argD (dT fx a' b' c' d').p])]).size+5≤_;omega
   |some f=>have g0:=q64 (dT fx a b c d).b f.2.1 f.2.2 (-1);have g3:=q64 (dT fx a' b' c' d').p f.2.1 f.2.2 1;have g1:=q6q [q7k (dT fx a b c d).b f.2.1 f.2.2 (-1),q4l [dLn,dTx (f.1++[32]),q7k (dT fx a' b' c' d').p f.2.1 f.2.2 1]];have g2:=q2g [dLn,dTx (f.1++[32]),q7k (dT fx a' b' c' d').p f.2.1 f.2.2 1];rw [q05,q05,q08] at g1;rw [q05,q05,q05,q08,q11,q0p] at g2;show (dGrp [q7k (dT fx a b c d).b f.2.1 f.2.2 (-1),q4l [dLn,dTx (f.1++[32]),q7k (dT fx a' b' c' d').p f.2.1 f.2.2 1]]).size+5≤_;omega
  refine ⟨hg,?_,?_⟩
  ·by_cases hl:lkK fx 6 (.cons a b c d (.cons a' b' c' d' .nil))=1
   ·rw [if_pos hl,if_pos hl,e0,e1];show (dT fx a b c d).hd.doc.size+(catF ((dT fx a b c d).args++[dLn,argD (dT fx a' b' c' d').p])).size+5≤_;omega
   ·rw [if_neg hl,if_neg hl,q08];exact hg
  ·rw [if_pos rfl,e1];exact .inr (by show (dT fx a' b' c' d').p.doc.size+17≤_;omega)
 ·have hj:dT fx k t n ks=⟨ownP fx k t n ks (dF fx ks),pz,ownP fx k t n ks (dF fx ks),[],patT k t n (patL ks)⟩:=qzj fx t n ks _ h6;rw [hj];refine qzi ?_;show (docK fx k t n ks (dF fx ks)).size+5≤_;by_cases ho:q4b k=true
  ·rw [qgk fx t n ks _ ho];have hb:=qsn k t (nthD (dF fx ks) 0).p.doc (nthD (dF fx ks) 1).p.doc (nthD (dF fx ks) 2).p.doc;have e10:eqI k 10=false:=by rcases q42 ho with h|h|h|h|h|h<;>subst h<;>rfl
   rw [e10] at hs;by_cases hA:k=5∨k=11
   ·rw [if_pos hA] at hb;obtain ⟨a,b,c,d,rfl⟩:=qwj (c1 hA);obtain ⟨s1,_⟩:=one hs;have e0:nthD (dF fx (.cons a b c d .nil)) 0=dT fx a b c d:=rfl;rw [e0] at hb ⊢;have s1:=s1.1;show _+5≤6*((d.size+0+1)+1);omega
   ·rw [if_neg hA] at hb;by_cases h9:k=9
    ·rw [if_pos h9] at hb;obtain ⟨a,b,c,d,r,rfl,hr⟩:=q2t (ks:=ks) (n:=2) (by have:=c3 h9;omega);obtain ⟨a',b',c',d',r',rfl,he⟩:=q2t (n:=1) hr;obtain ⟨a2,b2,c2',d2,r2,rfl,hq⟩:=q2t (n:=0) he;obtain rfl:=q9y hq;obtain ⟨s1,hs⟩:=one hs;obtain ⟨s2,hs⟩:=two hs;obtain ⟨s3,_⟩:=one hs;have e0:nthD (dF fx (.cons a b c d (.cons a' b' c' d' (.cons a2 b2 c2' d2 .nil)))) 0=dT fx a b c d:=rfl;have e1:nthD (dF fx (.cons a b c d (.cons a' b' c' d' (.cons a2 b2 c2' d2 .nil)))) 1=dT fx a' b' c' d':=rfl;have e2:nthD (dF fx (.cons a b c d (.cons a' b' c' d' (.cons a2 b2 c2' d2 .nil)))) 2=dT fx a2 b2 c2' d2:=rfl;rw [e0,e1,e2] at hb ⊢;have s1:=s1.1;have s2:=s2.1;have s3:=s3.1;show _+5≤6*((d.size+(d'.size+(d2.size+0+1)+1)+1)+1);omega
    ·rw [if_neg h9] at hb;have h2:k=6∨k=7∨k=8∨k=12:=by
      rcases q42 ho with h|h|h|h|h|h
      ·exact absurd (.inl h) hA
      ·exact .inr (.inl h)
      ·exact .inr (.inr (.inl h))
      ·exact absurd h h9
      ·exact absurd (.inr h) hA
      ·exact .inr (.inr (.inr h))
     obtain ⟨a,b,c,d,r,rfl,hr⟩:=q2t (ks:=ks) (n:=1) (by have:=c2 h2;omega);obtain ⟨a',b',c',d',r',rfl,he⟩:=q2t (n:=0) hr;obtain rfl:=q9y he;obtain ⟨s1,hs⟩:=one hs;obtain ⟨s2,_⟩:=two hs;have e0:nthD (dF fx (.cons a b c d (.cons a' b' c' d' .nil))) 0=dT fx a b c d:=rfl;have e1:nthD (dF fx (.cons a b c d (.cons a' b' c' d' .nil))) 1=dT fx a' b' c' d':=rfl;rw [e0,e1] at hb ⊢;have s1:=s1.1;have s2:=s2.1;show _+5≤6*((d.size+(d'.size+0+1)+1)+1);omega
  ·unfold docK;by_cases g1:k=1
   ·rw [if_pos g1,q0p];omega
   by_cases g2:k=2
   ·rw [if_neg g1,if_pos g2,q0p];omega
   by_cases g3:k=3
   ·rw [if_neg g1,if_neg g2,if_pos g3,q0p];omega
   rw [if_neg g1,if_neg g2,if_neg g3,if_neg ho];by_cases g10:k=10
   ·subst g10;rw [if_pos rfl];obtain ⟨c10,c11⟩:=c10 rfl;obtain ⟨a,b,c,d,r,rfl,hr⟩:=q2t (ks:=ks) (n:=ks.cnt-1) (by omega);have hc:(F.cons a b c d r).cnt=r.cnt+1:=rfl;obtain ⟨a',b',c',d',r',rfl,he⟩:=q2t (ks:=r) (n:=r.cnt-1) (by omega);have hu:(F.cons a' b' c' d' r').cnt=r'.cnt+1:=rfl;obtain ⟨a2,b2,c2',d2,r2,rfl,hq⟩:=q2t (ks:=r') (n:=r'.cnt-1) (by omega);have e10:eqI 10 10=true:=rfl;rw [e10] at hs;obtain ⟨s1,_,s3,s4⟩:=hs;have s1:=(s1 rfl).1;have s3:=(s3 rfl).1;have s5:=qme fx r2.size r2 (Nat.le_refl _) s4;show (dGrp ([dTx Pz.kMatch,dUnd (dT fx a b c d).p.doc,dLn,dTx Pz.kWith]++([q4l [dLn,dTx ((dT fx a' b' c' d').pt++[32,45,62]),dUnd (dT fx a2 b2 c2' d2).p.doc]]++(q6k (dF fx r2)++[dLn,dTx Pz.kEnd])))).size+5≤6*((d.size+(d'.size+(d2.size+r2.size+1)+1)+1)+1);have g:=q6q ([dTx Pz.kMatch,dUnd (dT fx a b c d).p.doc,dLn,dTx Pz.kWith]++([q4l [dLn,dTx ((dT fx a' b' c' d').pt++[32,45,62]),dUnd (dT fx a2 b2 c2' d2).p.doc]]++(q6k (dF fx r2)++[dLn,dTx Pz.kEnd])));have g2:=q2g [dLn,dTx ((dT fx a' b' c' d').pt++[32,45,62]),dUnd (dT fx a2 b2 c2' d2).p.doc];have g3:=q3p (dT fx a b c d).p.doc;have g4:=q3p (dT fx a2 b2 c2' d2).p.doc;simp only [q17,q05,q08,q0p,q11] at g g2;omega
   rw [if_neg g10,if_neg h6,q0p];omega
theorem szF (fx:List Fix1):∀(f:F) (m odd:Bool),errF m false odd f=0→SzF fx m odd f
 |.nil,_,_,_=>trivial
 |.cons k t n ks r,m,odd,h=>by obtain ⟨h1,h2⟩:=errF_ok.1 h;refine ⟨fun hm=>?_,szF fx r m (!odd) h2⟩;rw [hm,Bool.or_false] at h1;exact qmf fx h1 (szF fx ks (eqI k 10) false (errT_ok.1 h1).2)
theorem qzk (fx:List Fix1) {k:Int} {t:Tx} {n:Int} {ks:F} (hv:errT k t n ks false=0):(dT fx k t n ks).p.doc.size≤6*(ks.size+1):=by have:=(qmf fx hv (szF fx ks _ _ (errT_ok.1 hv).2)).1;omega
end Fn
end Ev

namespace Ev
open Go
namespace Fn
theorem qso (q:Bool) (kids:List Y0) (hn:kids.length≤1000000) (_hs:lens kids≤1000000):∀(m k:Nat) (acc:List Y4),k+m=kids.length→acc.length+lens (kids.drop k)≤1000001→loopR l1_bv (⟨q,kids⟩,(k:Int),⟨false,acc⟩,())=some (⟨false,acc++((kids.drop k).map (·.l)).flatten⟩,()):=by
 intro m
 induction m with
 |zero=>intro k acc hk hl;apply q0a;unfold l1_bv;simp only;rw [show lenI kids=((kids.length:Nat):Int) from rfl,q0h,if_neg (by omega),zD (by omega)];simp
 |succ m ih=>
  intro k acc hk hl;have hc:k<kids.length:=by omega
  have hd:=q14 hc;have he:lens (kids.drop k)=kids[k].l.length+lens (kids.drop (k+1)):=by unfold lens;rw [hd,zI,List.sum_cons]
  have step:l1_bv (⟨q,kids⟩,(k:Int),⟨false,acc⟩,())=some (.inl (⟨q,kids⟩,((k+1:Nat):Int),⟨false,acc++kids[k].l⟩,())):=by
   unfold l1_bv;simp only;rw [show lenI kids=((kids.length:Nat):Int) from rfl,q0h,if_pos (by omega),q0d (zh hc),q00,qlv (by
    show ((acc.length:Nat):Int)+((kids[k].l.length:Nat):Int)≤_;omega),q00,add1 (by omega)]
   rfl
  rw [q0e step,ih (k+1) _ (by omega) (by rw [zg];omega),hd,zI,List.flatten_cons,zm]
theorem q9g (k:Int) (s:Tx) (n z:Int) (q:Bool) (kids:List Y0) (hn:kids.length≤1000000) (hs:lens kids≤1000000):f_bv ((k,s,n,z),⟨q,kids⟩,())=some (⟨false,(k,s,n,(kids.length:Int))::(kids.map (·.l)).flatten⟩,()):=by have h:=qso q kids hn hs kids.length 0 [(k,s,n,(kids.length:Int))] (by omega) (by rw [List.drop_zero,List.length_singleton];omega);rw [List.drop_zero] at h;rw [u_bv];exact h
def Ds (L:List Y0) (ds:List F):Prop:=slY L=ds.map F.flat∧∀d,d∈ds→d.cnt=1
theorem Ds.len {L:List Y0} {ds:List F} (h:Ds L ds):L.length=ds.length:=by
 have:=congrArg List.length h.1
 rwa [z2j,zJ] at this
theorem qzl {d:F} (h:d.cnt=1):1≤d.size:=by have:=d.cnt_le;omega
theorem q61:∀{ds:List F},(∀d,d∈ds→d.cnt=1)→ds.length≤(catF ds).size
 |[],_=>Nat.zero_le _
 |d::ds,h=>by have:=q61 fun x hx=>h x (zj d hx);have:=qzl (h d (zf ..));rw [q05,zn];omega
theorem Ds.lens {L:List Y0} {ds:List F} (h:Ds L ds):lens L=(catF ds).size:=by rw [qzh,h.1,←qgj,F.len]
theorem Ds.flat {L:List Y0} {ds:List F} (h:Ds L ds):(L.map (·.l)).flatten=(catF ds).flat:=by rw [qgj,←h.1];rfl
theorem Ds.cat {L:List Y0} {ds:List F} (h:Ds L ds) (k:Int) (n:Int):(k,([]:Tx),n,(L.length:Int))::(L.map (·.l)).flatten=(tr k [] n (catF ds)).flat:=by rw [qg4,h.flat,qqf ds h.2,h.len]
theorem Ds.nil:Ds [] []:=⟨rfl,fun _ h=>by cases h⟩
theorem Ds.cons {y:Y0} {L:List Y0} {d:F} {ds:List F} (h1:y.l=d.flat) (h2:d.cnt=1) (h:Ds L ds):Ds (y::L) (d::ds):=⟨by show y.l::slY L=d.flat::ds.map F.flat;rw [h1,h.1],fun x hx=>by rcases zo.1 hx with rfl|hx;exact h2;exact h.2 x hx⟩
theorem Ds.app {L M:List Y0} {ds es:List F} (h:Ds L ds) (g:Ds M es):Ds (L++M) (ds++es):=⟨by unfold slY;rw [zS,zS];exact congr (congrArg _ h.1) g.1,fun x hx=>(zP.1 hx).elim (h.2 x) (g.2 x)⟩
theorem Ds.get {y:Y0} {L:List Y0} {ds:List F} (h:Ds (y::L) ds):∃d es,ds=d::es∧y.l=d.flat:=by
 match ds,h with
 |[],h=>cases h.1
 |d::es,h=>have:=h.1;injection this with a b;exact ⟨d,es,rfl,a⟩
theorem q6r (b:Bool) {d:F} (h:d.cnt=1):(brkD b d).cnt=1:=by cases b;exact h;rfl
theorem qc7 {l:List F} (h:∀d,d∈l→d.cnt=1):(qe6 l).cnt=1:=by
 match l,h with
 |[],_=>rfl
 |[d],h=>exact h d (zf ..)
 |_::_::_,_=>rfl
theorem qef (k n:Int) {d:F} (h:d.cnt=1):(k,([]:Tx),n,(1:Int))::([d.flat].flatten)=(tr k [] n d).flat:=by rw [qg4,h];simp
theorem q1d (s:Tx):f_d6 (s,())=some (⟨false,(dTx s).flat⟩,()):=by rw [u_d6,u_ag,q8x 41 s 0 0 true [] (by simp) (by simp [lens])];simp only [q00];rfl
theorem q3q:f_ae ()=some (⟨false,dLn.flat⟩,()):=by rw [u_ae,q8x 42 [] 0 0 true [] (by simp) (by simp [lens])];simp only [q00];rfl
theorem qjx (b:Bool) {L:List Y0} {ds:List F} (h:Ds L ds) (hs:(catF ds).size≤100000):f_a9 (⟨b,L⟩,())=some (⟨false,(dCat ds).flat⟩,()):=by have hl:=h.len;have:=q61 h.2;rw [u_a9,q8x 45 [] 0 0 b L (by omega) (by rw [h.lens];omega),h.cat];simp only [q00];rfl
theorem qmg (b:Bool) {L:List Y0} {ds:List F} (h:Ds L ds) (hs:(catF ds).size≤100000):∃q,f_d5 (⟨b,L⟩,())=some (⟨q,(qe6 ds).flat⟩,()):=by
 rw [u_d5];have hl:lenI L=((ds.length:Nat):Int):=by show ((L.length:Nat):Int)=_;rw [h.len]
 simp only;rw [hl]
 match ds,h,hs with
 |[d],h,_=>
  match L,h with
  |[y],h=>obtain ⟨d',es,e,hy⟩:=h.get;injection e with e _;subst e;refine ⟨y.nil,?_⟩;have h1:eqI (([d].length:Nat):Int) 1=true:=rfl;have:at? [y] 0=some y:=rfl;rw [h1,q06,this,q00];show some (y,())=_;obtain ⟨q,l⟩:=y;show some ((⟨q,l⟩:Y0),())=some (⟨q,d.flat⟩,());rw [show l=d.flat from hy]
  |[],h=>exact absurd h.len (by simp)
  |_::_::_,h=>exact absurd h.len (by simp)
 |[],h,hs=>refine ⟨false,?_⟩;show bnd (f_a9 (⟨b,L⟩,())) _=_;rw [qjx b h hs,q00];rfl
 |d::e::ds,h,hs=>
  refine ⟨false,?_⟩;have he:eqI (((d::e::ds).length:Nat):Int) 1=false:=by show ((((ds.length+1+1:Nat)):Int)==1)=false;exact beq_eq_false_iff_ne.2 (by omega)
  rw [he,q01,qjx b h hs,q00];rfl
theorem qeg (b:Bool) {L:List Y0} {ds:List F} (h:Ds L ds) (hs:(catF ds).size≤100000):f_d4 (⟨b,L⟩,())=some (⟨false,(q4l ds).flat⟩,()):=by obtain ⟨q,e⟩:=qmg b h hs;have hz:=q41 ds;rw [u_d4,e,q00,u_af,q8x 43 [] 2 0 false [⟨q,(qe6 ds).flat⟩] (by simp) (by simp [lens,F.len];omega)];simp only [q00];exact congrArg (fun z:List ND=>some ((⟨false,z⟩:Y0),())) (qef 43 2 (qc7 h.2))
theorem q43 (b:Bool) {L:List Y0} {ds:List F} (h:Ds L ds) (hs:(catF ds).size≤100000):f_cx (⟨b,L⟩,())=some (⟨false,(dGrp ds).flat⟩,()):=by obtain ⟨q,e⟩:=qmg b h hs;have hz:=q41 ds;rw [u_cx,e,q00,u_ac,q8x 44 [] 0 0 false [⟨q,(qe6 ds).flat⟩] (by simp) (by simp [lens,F.len];omega)];simp only [q00];exact congrArg (fun z:List ND=>some ((⟨false,z⟩:Y0),())) (qef 44 0 (qc7 h.2))
theorem Ds.one {y:Y0} {d:F} (h1:y.l=d.flat) (h2:d.cnt=1):Ds [y] [d]:=.cons h1 h2 .nil
theorem q2r (y:Y0) {d:F} (h1:y.l=d.flat) (h2:d.cnt=1) (hs:d.size≤90000):f_d7 (y,())=some (⟨false,(dUnd d).flat⟩,()):=by rw [u_d7,q3q,q00];simp only;rw [qeg false (.cons (d:=dLn) rfl rfl (.one h1 h2)) (by rw [q05,q05,q08,q11];omega),q00];rfl
theorem q0y (s:Tx):f_cr (s,())=some (⟨false,(dTx s).flat⟩,()):=u_cr s
theorem q35:f_cp ()=some (⟨false,dLn.flat⟩,()):=u_cp
theorem qmh (b:Bool) {L:List Y0} {ds:List F} (h:Ds L ds) (hs:(catF ds).size≤100000):∃q,f_cm (⟨b,L⟩,())=some (⟨q,(qe6 ds).flat⟩,()):=by
 have hc:=h.len;have hf:=q61 h.2;have mk:f_bv ((45,[],0,0),⟨b,L⟩,())=some (⟨false,(dCat ds).flat⟩,()):=by rw [q9g 45 [] 0 0 b L (by omega) (by rw [h.lens];omega),h.cat];rfl
 rw [u_cm];have hl:lenI L=((ds.length:Nat):Int):=by show ((L.length:Nat):Int)=_;rw [h.len]
 simp only;rw [hl]
 match ds,h,hs,mk with
 |[d],h,_,_=>
  match L,h with
  |[y],h=>obtain ⟨d',es,e,hy⟩:=h.get;injection e with e _;subst e;refine ⟨y.nil,?_⟩;have h1:eqI (([d].length:Nat):Int) 1=true:=rfl;have:at? [y] 0=some y:=rfl;rw [h1,q06,this,q00];show some (y,())=_;obtain ⟨q,l⟩:=y;show some ((⟨q,l⟩:Y0),())=some (⟨q,d.flat⟩,());rw [show l=d.flat from hy]
  |[],h=>exact absurd h.len (by simp)
  |_::_::_,h=>exact absurd h.len (by simp)
 |[],h,hs,mk=>refine ⟨false,?_⟩;show bnd (f_bv ((45,[],0,0),⟨b,L⟩,())) _=_;rw [mk,q00];rfl
 |d::e::ds,h,hs,mk=>
  refine ⟨false,?_⟩;have he:eqI (((d::e::ds).length:Nat):Int) 1=false:=by show ((((ds.length+1+1:Nat)):Int)==1)=false;exact beq_eq_false_iff_ne.2 (by omega)
  rw [he,q01,mk,q00];rfl
theorem q9h (b:Bool) {L:List Y0} {ds:List F} (h:Ds L ds) (hs:(catF ds).size≤100000):f_cq (⟨b,L⟩,())=some (⟨false,(q4l ds).flat⟩,()):=by obtain ⟨q,e⟩:=qmh b h hs;have hz:=q41 ds;rw [u_cq,e,q00];simp only;rw [q9g 43 [] 2 0 false [⟨q,(qe6 ds).flat⟩] (by simp) (by simp [lens,F.len];omega)];simp only [q00];exact congrArg (fun z:List ND=>some ((⟨false,z⟩:Y0),())) (qef 43 2 (qc7 h.2))
theorem q2z (b:Bool) {L:List Y0} {ds:List F} (h:Ds L ds) (hs:(catF ds).size≤100000):f_cn (⟨b,L⟩,())=some (⟨false,(dGrp ds).flat⟩,()):=by obtain ⟨q,e⟩:=qmh b h hs;have hz:=q41 ds;rw [u_cn,e,q00];simp only;rw [q9g 44 [] 0 0 false [⟨q,(qe6 ds).flat⟩] (by simp) (by simp [lens,F.len];omega)];simp only [q00];exact congrArg (fun z:List ND=>some ((⟨false,z⟩:Y0),())) (qef 44 0 (qc7 h.2))
theorem q1n (y:Y0) {d:F} (h1:y.l=d.flat) (h2:d.cnt=1) (hs:d.size≤90000):f_cs (y,())=some (⟨false,(dUnd d).flat⟩,()):=by rw [u_cs,q35,q00];simp only;rw [q9h false (.cons (d:=dLn) rfl rfl (.one h1 h2)) (by rw [q05,q05,q08,q11];omega),q00];rfl
theorem q15 (a b:Tx):catS a b=a++b:=id (Eq.refl (a++b))
theorem qdb {s:Tx} (hs:∀b,b∈s→0≤b∧b≤255) (hl:s.length≤1000000):f_d2 (s,())=some (q8d s,()):=by
 rw [u_d2,qg3 s hs,q00];simp only;unfold q8d;cases opOk s with
 |false=>rfl
 |true=>
  rw [q06,show lenI ([40]:Y2)=((1:Nat):Int) from rfl,show lenI s=((s.length:Nat):Int) from rfl,q0o (by omega),q00,q15,
   show lenI ([40]++s)=(((1+s.length):Nat):Int) from by show ((([40]++s).length:Nat):Int)=_;rw [zg];rfl,
   show lenI ([41]:Y2)=((1:Nat):Int) from rfl,q0o (by omega),q00,q15]
  rfl
theorem qar {s:Tx} (hl:s.length≤1000000):f_ci (s,())=some (q8d s,()):=by
 rw [u_ci,qgc s hl,q00];simp only;unfold q8d;cases opOk s with
 |false=>rfl
 |true=>
  rw [q06,show lenI ([40]:Y2)=((1:Nat):Int) from rfl,show lenI s=((s.length:Nat):Int) from rfl,q0o (by omega),q00,q15,
   show lenI ([40]++s)=(((1+s.length):Nat):Int) from by show ((([40]++s).length:Nat):Int)=_;rw [zg];rfl,
   show lenI ([41]:Y2)=((1:Nat):Int) from rfl,q0o (by omega),q00,q15]
  rfl
theorem qas {n:Int} (h:q44 n=true):rng n:=by have:=zV h;unfold rng;omega
theorem qwl {n:Int} (h:q44 n=true):f_ep (n,())=some (n,()):=by obtain ⟨v,hv,he⟩:=qi2 n (qas h);rw [h] at he;rw [hv,show v=n from by simpa [eqI] using he]
theorem qqg {n:Int} (h:q44 n=true):f_eo (n,())=some (numT n,()):=by
 obtain ⟨h1,h2⟩:=qas h;have hf:f_di (n,10,())=some (q8s n,()):=by show (bif decide ((10:Int)=10)&&(decide (-9223372036854775808≤n)&&decide (n≤9223372036854775807)) then some (q8s n,()) else none)=_;rw [zw h1,zw h2];rfl
 have hl:=qfy n;have hr:f_dy (q8s n,[45],[126],1,())=some (rep1 (q8s n),()):=by show (bif (([45]:List Int)==[45])&&((([126]:List Int)==[126])&&(decide ((1:Int)=1)&&decide ((q8s n).length≤1000))) then some (rep1 (q8s n),()) else none)=_;rw [zw (show (q8s n).length≤1000 by omega)];rfl
 rw [u_eo,qwl h,q00];simp only;rw [hf,q00];simp only;rw [hr,q00];rfl
end Fn
end Ev

namespace Ev
open Go
namespace Fn
theorem qmi (f u:Nat):digN (f+1) u=if u<10 then [48+(u:Int)] else digN f (u / 10)++[48+((u % 10:Nat):Int)]:=rfl
theorem qmj:∀f u,∀b,b∈digN f u→48≤b∧b≤57
 |0,_,b,h=>absurd h (List.not_mem_nil)
 |f+1,u,b,h=>by
  unfold digN at h;split at h
  ·rw [zO] at h;omega
  ·rcases zP.1 h with h|h
   ·exact qmj f _ b h
   ·rw [zO] at h;have:u % 10<10:=Nat.mod_lt _ (by decide);omega
theorem qwm:∀l:Tx,(∀b,b∈l→b≠45)→rep1 l=l
 |[],_=>rfl
 |b::l,h=>by unfold rep1;rw [if_neg (h b (zf ..)),qwm l fun x hx=>h x (zj _ hx)]
theorem z2l (n:Int):numT n=if n<0 then 126::digN 20 n.natAbs else digN 20 n.toNat:=by
 unfold numT q8s;by_cases h:n<0
 ·rw [if_pos h,if_pos h];rfl
 ·rw [if_neg h,if_neg h];exact qwm _ fun b hb=>by have:=qmj _ _ b hb;omega
def qmk (n:Int) (s:Tx):Tx:=if n<0 then 126::s else s
theorem qwn (n:Int) (s:Tx) (hs:s≠[]) (hl:s.length≤1000):loopR l1_bo (n,s,0,())=some (qmk n s,()):=by
 refine q0a ?_;unfold l1_bo;have e1:eqS s ([]:Y2)=false:=by show (s==[])=false;exact beq_eq_false_iff_ne.2 hs
 simp only [e1,q01];rw [show ltI 0 0=false from rfl,q00,q01,q0h];unfold qmk;by_cases h:n<0
 ·rw [if_pos h,if_pos h,show lenI ([126]:Y2)=((1:Nat):Int) from rfl,show lenI s=((s.length:Nat):Int) from rfl,q0o (by omega),q00];rfl
 ·rw [if_neg h,if_neg h]
theorem qdc (n:Int):∀(f u:Nat) (s:Tx),u<10 ^ f→u<9223372036854775808→0<f→(s=[]∨0<u)→s.length+f≤100→loopR l1_bo (n,s,(u:Int),())=some (qmk n (digN f u++s),())
 |0,_,_,_,_,h,_,_=>absurd h (by decide)
 |f+1,u,s,hu,hg,_,hc,hl=>by
  have step:l1_bo (n,s,(u:Int),())=some (Sum.inl (n,[48+((u % 10:Nat):Int)]++s,((u / 10:Nat):Int),())):=by
   unfold l1_bo;have hx:bnd (cnd (eqS s ([]:Y2)) (some true) (some (ltI 0 (u:Int)))) (fun x3=>some x3)=some true:=by
    rcases hc with hc|hc
    ·subst hc;rfl
    ·cases eqS s ([]:Y2) with
     |true=>rfl
     |false=>rw [q01,q00];exact congrArg some (zw (by omega))
   have hx:cnd (eqS s ([]:Y2)) (some true) (some (ltI 0 (u:Int)))=some true:=by
    cases h:cnd (eqS s ([]:Y2)) (some true) (some (ltI 0 (u:Int))) with
    |none=>rw [h] at hx;cases hx
    |some a=>rw [h,q00] at hx;exact hx
   simp only;rw [hx,q00,q06,q82 (by omega) (by decide)];simp only [q00];have e2:cvI .u8 (addI .u64 48 ((u:Int) % 10))=48+((u % 10:Nat):Int):=by
    have e3:addI .u64 48 ((u:Int) % 10)=48+(u:Int) % 10:=by unfold addI;rw [q2s];omega
    rw [e3];unfold cvI IntKind.wrap;simp [IntKind.bits,IntKind.signed];omega
   rw [e2,show lenI ([48+((u % 10:Nat):Int)]:Y2)=((1:Nat):Int) from rfl,show lenI s=((s.length:Nat):Int) from rfl,q0o (by omega),q00];have e4:quoI .u64 (u:Int) 10=some ((u / 10:Nat):Int):=by unfold quoI;rw [if_neg (by decide),q2s,Int.tdiv_eq_ediv_of_nonneg (by omega)];congr 1;omega
   rw [e4,q00];rfl
  rw [q0e step];by_cases he:u<10
  ·have e1:u / 10=0:=Nat.div_eq_of_lt he;have e2:u % 10=u:=Nat.mod_eq_of_lt he;rw [e1,e2];have:=qwn n ([48+(u:Int)]++s) (by simp) (by simp;omega);rw [show (((0:Nat):Int))=0 from rfl,this];rw [qmi,if_pos he]
  ·have hf:0<f:=by
    rcases Nat.eq_zero_or_pos f with h0|h0
    ·subst h0;have:u<10 ^ 1:=hu;omega
    ·exact h0
   have hp:u / 10<10 ^ f:=by rw [Nat.pow_succ] at hu;omega
   rw [qdc n f (u / 10) ([48+((u % 10:Nat):Int)]++s) hp (by omega) hf (.inr (by omega)) (by simp;omega)];rw [qmi,if_neg he,zm]
theorem qml {n:Int} (h:q44 n=true):f_bo (n,())=some (numT n,()):=by
 have hb:=zV h;obtain ⟨v,hv,he⟩:=qi8 n (qas h);rw [h] at he;have hc:v=n:=by simpa [eqI] using he
 subst hc;rw [u_bo,hv,q00,u_br];simp only;rw [q0h,z2l];by_cases h0:v<0
 ·have e1:cvI .u64 (subI .i64 0 v)=((v.natAbs:Nat):Int):=by rw [q39 (by omega) (by omega)];unfold cvI;rw [q2s];omega
  rw [if_pos h0,q00,if_pos h0];simp only;rw [e1,qdc v 20 v.natAbs [] (by omega) (by omega) (by decide) (.inl rfl) (by decide)];unfold qmk;rw [if_pos h0,zt]
 ·have e1:cvI .u64 v=((v.toNat:Nat):Int):=by unfold cvI;rw [q2s];omega
  rw [if_neg h0,q00,if_neg h0];simp only;rw [e1,qdc v 20 v.toNat [] (by omega) (by omega) (by decide) (.inl rfl) (by decide)];unfold qmk;rw [if_neg h0,zt]
end Fn
end Ev

namespace Ev
open Go
namespace Fn
abbrev digs:Tx:=[48,49,50,51,52,53,54,55,56,57,97,98,99,100,101,102]
theorem z2m:∀c:Fin 256,shrI .u8 (c.val:Int) 4=some ((c.val / 16:Nat):Int)∧cutL digs ((c.val / 16:Nat):Int) (addI .u8 ((c.val / 16:Nat):Int) 1)=some [hexD ((c.val / 16:Nat):Int)]∧cutL digs (andI .u8 (c.val:Int) 15) (addI .u8 (andI .u8 (c.val:Int) 15) 1)=some [hexD ((c.val % 16:Nat):Int)]:=by decide+kernel
theorem qwo:∀c:Fin 16,at? digs (c.val:Int)=some (hexD (c.val:Int)):=by decide+kernel
theorem z3y {c:Int} (h0:0≤c) (h1:c≤255):shrI .u8 c 4=some (c / 16)∧cutL digs (c / 16) (addI .u8 (c / 16) 1)=some [hexD (c / 16)]∧cutL digs (andI .u8 c 15) (addI .u8 (andI .u8 c 15) 1)=some [hexD (c % 16)]:=by obtain ⟨n,rfl⟩:=Int.eq_ofNat_of_zero_le h0;exact z2m ⟨n,by omega⟩
theorem qof (t:Tx) (b nb:Bool) (acc:Tx) (h:acc.length+t.length≤1000000):∃q,f_dn (t,b,⟨nb,acc⟩,())=some (lenI t,true,⟨q,acc++t⟩,()):=by rw [u_dn];have e:f_dp (b,⟨nb,acc⟩,())=some (true,⟨nb,acc⟩,()):=rfl;rw [e,q00];simp only;rw [show lenI acc=((acc.length:Nat):Int) from rfl,show lenI t=((t.length:Nat):Int) from rfl,q0o (by omega),q00];exact ⟨_,rfl⟩
theorem qog (c:Int) (b nb:Bool) (acc:Tx) (h:acc.length+1≤1000000):∃q,f_dl (c,b,⟨nb,acc⟩,())=some (true,⟨q,acc++[c]⟩,()):=by rw [u_dl];have e:f_dp (b,⟨nb,acc⟩,())=some (true,⟨nb,acc⟩,()):=rfl;rw [e,q00];simp only;rw [show lenI acc=((acc.length:Nat):Int) from rfl,show lenI ([c]:Y2)=((1:Nat):Int) from rfl,q0o (by omega),q00];exact ⟨_,rfl⟩
theorem qqh (c:Int):(quoC c).length≤4:=by
 unfold quoC;split
 ·exact zA rfl
 split
 ·exact zA rfl
 split
 ·exact zA rfl
 ·exact zA rfl
theorem qwp {s:Tx} {i:Nat} (h:i<s.length):cutL s (i:Int) ((i+1:Nat):Int)=some [s[i]]:=by unfold cutL;rw [if_pos ⟨by omega,by omega,by omega⟩];congr 1;rw [Int.toNat_natCast,Int.toNat_natCast,List.drop_take,q14 h,Nat.add_sub_cancel_left];rfl
theorem qsp {s:Tx} (hb:∀b,b∈s→0≤b∧b≤255) (hs:s.length≤100000):∀(m i:Nat) (nb:Bool) (acc:Tx),i+m=s.length→acc.length≤1+4*i→loopR l1_ar (s,(s.length:Int),(i:Int),true,⟨nb,acc⟩,())=some (acc++(s.drop i).flatMap quoC++[34],()):=by
 intro m
 induction m with
 |zero=>intro i nb acc hi hl;obtain ⟨q,e⟩:=qog 34 true nb acc (by omega);refine q0a ?_;unfold l1_ar;simp only;rw [q0h,if_neg (by omega),e,q00,zD (by omega)];simp only;show bnd (f_dj (true,⟨q,acc++[34]⟩,())) _=_;rw [show f_dj (true,⟨q,acc++[34]⟩,())=some (acc++[34],()) from rfl,q00];show some (Sum.inr (acc++[34],()))=some (Sum.inr (acc++[]++[34],()));rw [zt]
 |succ m ih=>
  intro i nb acc hi hl;have hf:i<s.length:=by omega
  have hd:=q14 hf;obtain ⟨h0,h1⟩:=hb s[i] (List.getElem_mem hf);have hq:=qqh s[i];obtain ⟨q,step⟩:∃q,l1_ar (s,(s.length:Int),(i:Int),true,⟨nb,acc⟩,())=some (Sum.inl (s,(s.length:Int),((i+1:Nat):Int),true,⟨q,acc++quoC s[i]⟩,())):=by
   unfold l1_ar;simp only;rw [q0h,if_pos (by omega),q0d (zh hf),q00];have he:=add1 (k:=i) (by omega);have hg:=qwp hf;generalize s[i]=c at*
   by_cases c1:c=34∨c=92
   ·have hc:quoC c=[92,c]:=by unfold quoC;rw [if_pos c1]
    have e0:cnd (eqI c 34) (some (s,(i:Int),c,(s.length:Int),(i:Int),eqI c 34,true,(⟨nb,acc⟩:Sl Int),())) (some (s,(i:Int),c,(s.length:Int),(i:Int),eqI c 92,true,(⟨nb,acc⟩:Sl Int),()))=some (s,(i:Int),c,(s.length:Int),(i:Int),true,true,(⟨nb,acc⟩:Sl Int),()):=by rcases c1 with rfl|rfl<;>rfl
    rw [e0,q00];simp only;obtain ⟨q,e⟩:=qof ([92]++[c]) true nb acc (by show acc.length+2≤_;omega);rw [q06,he,hg,q00,show lenI ([92]:Y2)=((1:Nat):Int) from rfl,show lenI ([c]:Tx)=((1:Nat):Int) from rfl,q0o (by omega),q00,q15,e];simp only [q00];rw [he];exact ⟨q,by rw [hc];rfl⟩
   ·have hj:c≠34:=fun e=>c1 (.inl e);have hk:c≠92:=fun e=>c1 (.inr e);rw [q18 hj,q01,q00];simp only;rw [q18 hk,q01,q24];by_cases c2:c=10
    ·have hc:quoC c=[92,110]:=by unfold quoC;rw [if_neg c1,if_pos c2]
     obtain ⟨q,e⟩:=qof [92,110] true nb acc (by show acc.length+2≤_;omega);rw [if_pos c2,e];simp only [q00];rw [he];exact ⟨q,by rw [hc]⟩
    ·rw [if_neg c2,q0h];by_cases c3:c<32∨126<c
     ·have hc:quoC c=[92,120,hexD (c / 16),hexD (c % 16)]:=by unfold quoC;rw [if_neg c1,if_neg c2,if_pos c3]
      have e3:(if c<32 then some true else some (ltI 126 c))=some true:=by
       by_cases c4:c<32
       ·rw [if_pos c4]
       ·rw [if_neg c4];exact congrArg some (zw (by omega))
      obtain ⟨g1,g2,g3⟩:=z3y h0 h1;obtain ⟨q,e⟩:=qof ([92,120]++[hexD (c / 16)]++[hexD (c % 16)]) true nb acc (by show acc.length+4≤_;omega);rw [e3];simp only [q00,q06,g1];rw [g2];simp only [q00];rw [show lenI ([92,120]:Y2)=((2:Nat):Int) from rfl,show lenI ([hexD (c / 16)]:Tx)=((1:Nat):Int) from rfl,q0o (by omega)];simp only [q00];rw [g3];simp only [q00];rw [q15,show lenI (([92,120]:Y2)++[hexD (c / 16)])=((3:Nat):Int) from rfl,show lenI ([hexD (c % 16)]:Tx)=((1:Nat):Int) from rfl,q0o (by omega)];simp only [q00];rw [q15,e];simp only [q00];rw [he];exact ⟨q,by rw [hc];rfl⟩
     ·have hc:quoC c=[c]:=by unfold quoC;rw [if_neg c1,if_neg c2,if_neg c3]
      have e3:(if c<32 then some true else some (ltI 126 c))=some false:=by rw [if_neg (by omega)];exact congrArg some (zu (by omega))
      obtain ⟨q,e⟩:=qog c true nb acc (by omega);rw [e3];simp only [q00,q01];rw [e];simp only [q00];rw [he];exact ⟨q,by rw [hc]⟩
  rw [q0e step,ih (i+1) q _ (by omega) (by rw [zg];omega),hd,List.flatMap_cons,zm acc]
theorem qsq {s:Tx} (hb:∀b,b∈s→0≤b∧b≤255) (hs:s.length≤100000):f_ar (s,())=some (quoT s,()):=by obtain ⟨q,e⟩:=qog 34 false true [] (by decide);rw [u_ar,e,q00];exact qsp hb hs s.length 0 q [34] (by omega) (by decide)
theorem qoh {s:Tx} (hb:∀b,b∈s→0≤b∧b≤255) (hs:s.length≤100000):∀(m i:Nat) (acc:Tx),i+m=s.length→acc.length≤1+4*i→loopR l1_bz (s,digs,acc,(i:Int),())=some (acc++(s.drop i).flatMap quoC++[34],()):=by
 intro m
 induction m with
 |zero=>intro i acc hi hl;refine q0a ?_;unfold l1_bz;simp only;rw [show lenI s=((s.length:Nat):Int) from rfl,q0h,if_neg (by omega),zD (by omega),show lenI acc=((acc.length:Nat):Int) from rfl,show lenI ([34]:Y2)=((1:Nat):Int) from rfl,q0o (by omega),q00,q15];show some (Sum.inr (acc++[34],()))=some (Sum.inr (acc++[]++[34],()));rw [zt]
 |succ m ih=>
  intro i acc hi hl;have hg:i<s.length:=by omega
  have hd:=q14 hg;obtain ⟨h0,h1⟩:=hb s[i] (List.getElem_mem hg);have hq:=qqh s[i];have step:l1_bz (s,digs,acc,(i:Int),())=some (Sum.inl (s,digs,acc++quoC s[i],((i+1:Nat):Int),())):=by
   unfold l1_bz;simp only;rw [show lenI s=((s.length:Nat):Int) from rfl,q0h,if_pos (by omega),q0d (zh hg),q00];have he:=add1 (k:=i) (by omega);have hf:=qwp hg;generalize s[i]=c at*
   rw [qo0 (by omega) (by omega)];have hj:lenI acc=((acc.length:Nat):Int):=rfl;by_cases c1:c=34∨c=92
   ·have hc:quoC c=[92,c]:=by unfold quoC;rw [if_pos c1]
    have e0:cnd (eqI c 34) (some true) (some (eqI c 92))=some true:=by rcases c1 with rfl|rfl<;>rfl
    rw [e0];simp only [q00,q06];rw [he,hf];simp only [q00];rw [show lenI ([92]:Y2)=((1:Nat):Int) from rfl,show lenI ([c]:Tx)=((1:Nat):Int) from rfl,q0o (by omega)];simp only [q00];rw [q15,hj,show lenI (([92]:Y2)++[c])=((2:Nat):Int) from rfl,q0o (by omega)];simp only [q00];rw [he,hc,q15];rfl
   ·have hm:c≠34:=fun e=>c1 (.inl e);have hn:c≠92:=fun e=>c1 (.inr e);rw [q18 hm,q01,q18 hn];simp only [q00,q01];rw [q24];by_cases c2:c=10
    ·have hc:quoC c=[92,110]:=by unfold quoC;rw [if_neg c1,if_pos c2]
     rw [if_pos c2,hj,show lenI ([92,110]:Y2)=((2:Nat):Int) from rfl,q0o (by omega)];simp only [q00];rw [he,hc,q15]
    ·rw [if_neg c2,qpx];by_cases c3:c<32∨126<c
     ·have hc:quoC c=[92,120,hexD (c / 16),hexD (c % 16)]:=by unfold quoC;rw [if_neg c1,if_neg c2,if_pos c3]
      have e3:(if 32≤c then some (leI c 126) else some false)=some false:=by
       by_cases c4:32≤c
       ·rw [if_pos c4];exact congrArg some (zu (by omega))
       ·rw [if_neg c4]
      have d1:=qwo ⟨(c / 16).toNat,by omega⟩;have d2:=qwo ⟨(c % 16).toNat,by omega⟩;rw [show (((⟨(c / 16).toNat,by omega⟩:Fin 16).val:Nat):Int)=c / 16 from Int.toNat_of_nonneg (by omega)] at d1;rw [show (((⟨(c % 16).toNat,by omega⟩:Fin 16).val:Nat):Int)=c % 16 from Int.toNat_of_nonneg (by omega)] at d2;have hk:quoI .i64 c 16=some (c / 16):=qyo h0 (by decide) (inK_i64.2 ⟨by omega,by omega⟩) (by decide);rw [e3];simp only [q00,q01];rw [hk];simp only [q00];rw [d1];simp only [q00];rw [q82 h0 (by decide)];simp only [q00];rw [d2];simp only [q00];rw [hj,show lenI ([92,120,hexD (c / 16),hexD (c % 16)]:Y2)=((4:Nat):Int) from rfl,q0o (by omega)];simp only [q00];rw [he,hc,q15]
     ·have hc:quoC c=[c]:=by unfold quoC;rw [if_neg c1,if_neg c2,if_neg c3]
      have e3:(if 32≤c then some (leI c 126) else some false)=some true:=by rw [if_pos (by omega)];exact congrArg some (zw (by omega))
      rw [e3];simp only [q00,q06];rw [he,hf];simp only [q00];rw [hj,show lenI ([c]:Tx)=((1:Nat):Int) from rfl,q0o (by omega)];simp only [q00];rw [he,hc,q15]
  rw [q0e step,ih (i+1) _ (by omega) (by rw [zg];omega),hd,List.flatMap_cons,zm acc]
theorem qoi {s:Tx} (hb:∀b,b∈s→0≤b∧b≤255) (hs:s.length≤100000):f_bz (s,())=some (quoT s,()):=by rw [u_bz];exact qoh hb hs s.length 0 [34] (by omega) (by decide)
end Fn
end Ev

namespace Ev
open Go
namespace Fn
def TL (N:Nat) (l:List ND):Prop:=∀x,x∈l→x.2.1.length≤N
theorem qgl (s:Tx):(q8d s).length≤s.length+2:=by
 unfold q8d;cases opOk s with
 |false=>show s.length≤_;omega
 |true=>show ([40]++s++[41]).length≤_;simp
theorem qzm (n:Int):(numT n).length≤21:=by unfold numT;rw [qjm];exact qfy n
theorem qjy (k:Int) (c:Nat) (s:Tx):(patI k c s).length≤s.length+2:=by
 unfold patI;split
 ·simp
 ·omega
theorem qqi (k:Int) (t:Tx) (n:Int) (qs:List (Tx×Tx)):(patT k t n qs).length≤t.length+21+(qod qs).length:=by
 unfold patT;split
 ·show 1≤_;omega
 split
 ·have:=qgl t;omega
 split
 ·have:=qzm n;omega
 ·rw [zg];omega
theorem qjz:∀(f:F),TL 1000 f.flat→(qod (patL f)).length≤1030*f.size
 |.nil,_=>Nat.zero_le _
 |.cons k t n ks r,h=>by have h1:=qjz ks fun x hx=>h x (zj _ (List.mem_append_left _ hx));have h2:=qjz r fun x hx=>h x (zj _ (List.mem_append_right _ hx));have h3:t.length≤1000:=h (k,t,n,(ks.cnt:Int)) (zf ..);have h4:=qqi k t n (patL ks);have h5:=qjy k ks.cnt (patT k t n (patL ks));show ((([32]:Tx)++patI k ks.cnt (patT k t n (patL ks)))++qod (patL r)).length≤1030*(ks.size+r.size+1);rw [zg,zg,List.length_singleton];omega
theorem q8y (k:Int) (t:Tx) (n:Int) (ks:F) (h:TL 1000 (tr k t n ks).flat):(patT k t n (patL ks)).length+3≤1030*(ks.size+1):=by have h1:=qjz ks fun x hx=>h x (by rw [qg4];exact zj _ hx);have h3:t.length≤1000:=h (k,t,n,(ks.cnt:Int)) (by rw [qg4];exact zf ..);have h4:=qqi k t n (patL ks);omega
theorem qqj {α:Type} (pre:List α) (a:α) (post:List α):at? (pre++a::post) (pre.length:Int)=some a:=q0d (by rw [zL (Nat.le_refl _),Nat.sub_self];rfl)
theorem q30 (a b:Tx) (h:a.length+b.length≤2000000):fit (sumI (lenI a) (lenI b))=some ():=q0o (a:=a.length) (b:=b.length) h
theorem Sits.tl {N:Nat} {l:List ND} (h:TL N l) {k:Nat} {f:F} (hs:Sits l k f):TL N f.flat:=by obtain ⟨post,e⟩:=hs;intro x hx;exact h x (List.mem_of_mem_drop (by rw [e];exact List.mem_append_left _ hx))
def z3z (self:Yf25) (b:Bool) (l:List ND) (N:Nat):Prop:=∀(q:Nat) (k:Int) (t:Tx) (n:Int) (ks r:F) (inner:Bool),Sits l q (.cons k t n ks r)→errT k t n ks true=0→ks.size<N→
 self (⟨b,l⟩,(q:Int),inner,())=some (bif inner then patI k ks.cnt (patT k t n (patL ks)) else patT k t n (patL ks),())
def qqk (inner:Bool) (c:Int) (s:Tx):Tx:=bif inner&&ltI 0 c then [40]++s++[41] else s
theorem qzn {self:Yf25} {b:Bool} {l:List ND} {N:Nat} (hl:l.length≤10000) (ht:TL 1000 l) (hp:z3z self b l N) (inner nb:Bool) (kd:Int) (t:Tx) (n c:Int):∀(g:F) (q:Nat) (m odd:Bool) (pre:List Int) (s:Tx),Sits l q g→q≤l.length→errF m true odd g=0→g.size≤N→pre.length+g.cnt≤10000→s.length+1030*g.size≤1100000→loopR (l1_d3 self) (⟨b,l⟩,inner,s,⟨nb,pre++g.pos q⟩,((pre.length+g.cnt:Nat):Int),(pre.length:Int),kd,t,n,c,())=some (qqk inner c (s++qod (patL g)),()):=by
 intro g
 induction g with
 |nil=>
  intro q m odd pre s _ _ _ _ _ hc;refine q0a ?_;unfold l1_d3;simp only;rw [q0h,if_neg (by show ¬(pre.length:Int)<((pre.length+0:Nat):Int);omega)];show _=some (Sum.inr (qqk inner c (s++[]),()));rw [zt];unfold qqk;cases inner with
  |false=>rfl
  |true=>
   rw [q06,q00];cases ltI 0 c with
   |false=>rfl
   |true=>have hc:s.length+0≤1100000:=hc;rw [q06,q30 [40] s (by show 1+s.length≤_;omega),q00,q15,q30 ([40]++s) [41] (by simp;omega),q00,q15];rfl
 |cons k' t' n' ks' r' _ ih=>
  intro q m odd pre s hs hq he hN hk hc;have hk:pre.length+(r'.cnt+1)≤10000:=hk;have hN:ks'.size+r'.size+1≤N:=hN;have hc:s.length+1030*(ks'.size+r'.size+1)≤1100000:=hc;obtain ⟨hm,hn⟩:=errF_ok.1 he;rw [Bool.true_or] at hm;obtain ⟨g1,g2,g3,g4⟩:=hs.node;have hf:=hp q k' t' n' ks' r' true hs hm (by omega);have ho:=q8y k' t' n' ks' (Sits.tl ht hs.first);have hu:=qjy k' ks'.cnt (patT k' t' n' (patL ks'));have hg:pre.length+(F.cons k' t' n' ks' r').cnt=(pre++[(q:Int)]).length+r'.cnt:=by show pre.length+(r'.cnt+1)=_;rw [zg,List.length_singleton];omega
  have hj:pre++(F.cons k' t' n' ks' r').pos q=(pre++[(q:Int)])++r'.pos (q+1+ks'.size):=by show pre++(q:Int)::_=_;rw [zm];rfl
  have step:l1_d3 self (⟨b,l⟩,inner,s,⟨nb,pre++(F.cons k' t' n' ks' r').pos q⟩,((pre.length+(F.cons k' t' n' ks' r').cnt:Nat):Int),(pre.length:Int),kd,t,n,c,())=
    some (Sum.inl (⟨b,l⟩,inner,s++([32]++patI k' ks'.cnt (patT k' t' n' (patL ks'))),⟨nb,pre++(F.cons k' t' n' ks' r').pos q⟩,((pre.length+(F.cons k' t' n' ks' r').cnt:Nat):Int),((pre.length+1:Nat):Int),kd,t,n,c,())):=by
   unfold l1_d3;simp only;rw [q0h,if_pos (by show (pre.length:Int)<((pre.length+(r'.cnt+1):Nat):Int);omega)];have ha:at? (pre++(F.cons k' t' n' ks' r').pos q) (pre.length:Int)=some (q:Int):=qqj pre (q:Int) _;rw [ha];simp only [q00];rw [hf];simp only [q00,cond_true];rw [q30 [32] _ (by show 1+_≤_;omega)];simp only [q00];rw [q15,q30 s _ (by rw [zg,List.length_singleton];omega)];simp only [q00];rw [add1 (by omega),q15]
  rw [q0e step,hg,hj,show pre.length+1=(pre++[(q:Int)]).length from by rw [zg];rfl];rw [ih (q+1+ks'.size) m (!odd) (pre++[(q:Int)]) _ g3 (by omega) hn (by omega) (by rw [zg,List.length_singleton];omega) (by rw [zg,zg,List.length_singleton];omega)];rw [zm];rfl
theorem qwq {b:Bool} {l:List ND} (hl:l.length≤1000) (hg:GL l) (ht:TL 1000 l):∀N:Nat,z3z (recN g_d3 N) b l N
 |0=>fun _ _ _ _ _ _ _ _ _ h=>absurd h (Nat.not_lt_zero _)
 |N+1=>by
  have ih:=qwq (b:=b) hl hg ht N;intro q k t n ks r inner hs he hN;obtain ⟨g1,g2,g3,g4⟩:=hs.node;have hx:=hg.at g1;have hq:t.length≤1000:=ht _ (zM g1);obtain ⟨hn,hf⟩:=errT_ok.1 he;obtain ⟨_,hm,hk,hj,_,_⟩:=nodeE_zero.1 hn;show g_d3 (recN g_d3 N) (⟨b,l⟩,(q:Int),inner,())=_;rw [u_d3,q0d g1,q00];simp only;rw [q24];by_cases k1:k=21
  ·subst k1;rw [if_pos rfl];cases inner<;>rfl
  rw [if_neg k1,q24];by_cases k2:k=22
  ·subst k2;rw [if_pos rfl,qdb (s:=t) hx.1 (by omega),q00];cases inner<;>rfl
  rw [if_neg k2,q24];by_cases k3:k=23
  ·subst k3;have hw:q44 n=true:=hj;rw [if_pos rfl,qqg hw,q00];cases inner<;>rfl
  obtain ⟨nb,e⟩:=q7j b l (by omega) hs;rw [if_neg k3,e,q00];simp only;have ho:lenI (ks.pos (q+1))=(((([]:List Int).length+ks.cnt:Nat)):Int):=by show (((ks.pos (q+1)).length:Nat):Int)=_;rw [F.pos_len];show _=((0+ks.cnt:Nat):Int);rw [zH]
  have hh:=qzn (N:=N) (by omega) ht ih inner nb k t n (ks.cnt:Int) ks (q+1) (eqI k 10) false [] t g2 (by omega) hf (by omega) (by show 0+ks.cnt≤_;have:=ks.cnt_le;omega) (by omega);rw [ho];refine Eq.trans hh ?_;have hT:patT k t n (patL ks)=t++qod (patL ks):=by unfold patT;rw [if_neg k1,if_neg k2,if_neg k3]
  unfold qqk patI;rw [hT];cases inner with
  |false=>rfl
  |true=>
   by_cases hc:ks.cnt=0
   ·have e1:ltI 0 (ks.cnt:Int)=false:=zu (by omega);rw [e1,if_neg (fun h=>h.2.2.2 hc)];rfl
   ·have e1:ltI 0 (ks.cnt:Int)=true:=zw (by omega);rw [e1,if_pos ⟨k1,k2,k3,hc⟩];rfl
theorem qmm {b:Bool} {l:List ND} (hl:l.length≤1000) (hg:GL l) (ht:TL 1000 l) {q:Nat} {k:Int} {t:Tx} {n:Int} {ks r:F} (inner:Bool) (hs:Sits l q (.cons k t n ks r)) (he:errT k t n ks true=0):f_d3 (⟨b,l⟩,(q:Int),inner,())=some (bif inner then patI k ks.cnt (patT k t n (patL ks)) else patT k t n (patL ks),()):=q5r (ks.size+1) fun N hN=>qwq hl hg ht N q k t n ks r inner hs he hN
def z0j (self:Yf8) (b:Bool) (l:List ND) (N:Nat):Prop:=∀(q:Nat) (k:Int) (t:Tx) (n:Int) (ks r:F),Sits l q (.cons k t n ks r)→errT k t n ks true=0→ks.size<N→
 self (⟨b,l⟩,(q:Int),())=some (patT k t n (patL ks),())
theorem qwr {k:Int} (h:q3o k=true):k=21∨k=22∨k=23∨k=24:=by have h:(decide (21≤k)&&decide (k≤24))=true:=h;simp only [zd,decide_eq_true_eq] at h;omega
theorem qws {self:Yf8} {b:Bool} {l:List ND} {N:Nat} (_hl:l.length≤10000) (ht:TL 1000 l) (hp:z0j self b l N):∀(g:F) (q:Nat) (m odd:Bool) (pre:List Int) (s:Tx),Sits l q g→q≤l.length→errF m true odd g=0→g.size≤N→pre.length+g.cnt≤10000→s.length+1030*g.size≤1100000→loopR (l1_cj self) (⟨b,l⟩,s,⟨false,pre++g.pos q⟩,(pre.length:Int),())=some (s++qod (patL g),()):=by
 intro g
 induction g with
 |nil=>intro q m odd pre s _ _ _ _ _ hg;refine q0a ?_;unfold l1_cj;simp only;rw [show lenI (pre++F.nil.pos q)=(((pre++([]:List Int)).length:Nat):Int) from rfl,zt,q0h,if_neg (by omega)];show _=some (Sum.inr (s++[],()));rw [zt]
 |cons k' t' n' ks' r' _ ih=>
  intro q m odd pre s hs hq he hN hv hg;have hv:pre.length+(r'.cnt+1)≤10000:=hv;have hN:ks'.size+r'.size+1≤N:=hN;have hg:s.length+1030*(ks'.size+r'.size+1)≤1100000:=hg;obtain ⟨hj,hw⟩:=errF_ok.1 he;rw [Bool.true_or] at hj;obtain ⟨g1,g2,g3,g4⟩:=hs.node;obtain ⟨hn,_⟩:=errT_ok.1 hj;obtain ⟨_,hl,hk,_,_,_⟩:=nodeE_zero.1 hn;have hf:=hp q k' t' n' ks' r' hs hj (by omega);have hy:=q8y k' t' n' ks' (Sits.tl ht hs.first);have hz:=qjy k' ks'.cnt (patT k' t' n' (patL ks'));have hm:pre++(F.cons k' t' n' ks' r').pos q=(pre++[(q:Int)])++r'.pos (q+1+ks'.size):=by show pre++(q:Int)::_=_;rw [zm];rfl
  have step:l1_cj self (⟨b,l⟩,s,⟨false,pre++(F.cons k' t' n' ks' r').pos q⟩,(pre.length:Int),())=
    some (Sum.inl (⟨b,l⟩,s++([32]++patI k' ks'.cnt (patT k' t' n' (patL ks'))),⟨false,pre++(F.cons k' t' n' ks' r').pos q⟩,((pre.length+1:Nat):Int),())):=by
   unfold l1_cj;simp only;have ho:lenI (pre++(F.cons k' t' n' ks' r').pos q)=((pre.length+(r'.cnt+1):Nat):Int):=by show (((pre++(F.cons k' t' n' ks' r').pos q).length:Nat):Int)=_;rw [zg,F.pos_len];rfl
   rw [ho,q0h,if_pos (by omega)];have ha:at? (pre++(F.cons k' t' n' ks' r').pos q) (pre.length:Int)=some (q:Int):=qqj pre (q:Int) _;rw [ha];simp only [q00];rw [hf];simp only [q00];rw [q0d g1];simp only [q00];have tail:∀u:Tx,u.length≤(patT k' t' n' (patL ks')).length+2→bnd (fit (sumI (lenI ([32]:Y2)) (lenI u))) (fun _=>bnd (fit (sumI (lenI s) (lenI (catS ([32]:Y2) u)))) (fun _=>some (Sum.inl ((⟨b,l⟩:Y0),catS s (catS ([32]:Y2) u),(⟨false,pre++(F.cons k' t' n' ks' r').pos q⟩:Sl Int),addI .i64 (pre.length:Int) 1,()))))=
     (some (Sum.inl (⟨b,l⟩,s++([32]++u),⟨false,pre++(F.cons k' t' n' ks' r').pos q⟩,((pre.length+1:Nat):Int),())):Option (Y57⊕Y11)):=by
    intro u hu;rw [q30 [32] u (by show 1+_≤_;omega),q00,q15,q30 s _ (by rw [zg,List.length_singleton];omega),q00,add1 (by omega),q15]
   obtain ⟨br,hx,hI⟩:∃br:Bool,cnd (eqI k' 24) (some (ltI 0 (ks'.cnt:Int))) (some false)=some br∧
     patI k' ks'.cnt (patT k' t' n' (patL ks'))=bif br then [40]++patT k' t' n' (patL ks')++[41] else patT k' t' n' (patL ks'):=by
    rw [q24];by_cases k24:k'=24
    ·rw [if_pos k24];by_cases hc:ks'.cnt=0
     ·refine ⟨false,congrArg some (zu (by show ¬0<(ks'.cnt:Int);omega)),?_⟩;unfold patI;rw [if_neg (fun h=>h.2.2.2 hc)];rfl
     ·refine ⟨true,congrArg some (zw (by show 0<(ks'.cnt:Int);omega)),?_⟩;unfold patI;rw [if_pos ⟨by omega,by omega,by omega,hc⟩];rfl
    ·rw [if_neg k24];refine ⟨false,rfl,?_⟩;unfold patI;rw [if_neg (fun h=>by have:=qwr hl;omega)];rfl
   rw [hx];simp only [q00];rw [hI];cases br with
   |false=>rw [q01];simp only [q00];exact tail _ (by omega)
   |true=>rw [q06,q30 [40] _ (by show 1+_≤_;omega)];simp only [q00];rw [q15,q30 ([40]++patT k' t' n' (patL ks')) [41] (by rw [zg,List.length_singleton,List.length_singleton];omega)];simp only [q00];rw [q15];exact tail _ (by simp)
  rw [q0e step,hm,show pre.length+1=(pre++[(q:Int)]).length from by rw [zg];rfl];rw [ih (q+1+ks'.size) m (!odd) (pre++[(q:Int)]) _ g3 (by omega) hw (by omega) (by rw [zg,List.length_singleton];omega) (by rw [zg,zg,List.length_singleton];omega)];rw [zm];rfl
theorem qql {b:Bool} {l:List ND} (hl:l.length≤1000) (hg:GL l) (ht:TL 1000 l):∀N:Nat,z0j (recN g_cj N) b l N
 |0=>fun _ _ _ _ _ _ _ _ h=>absurd h (Nat.not_lt_zero _)
 |N+1=>by
  have ih:=qql (b:=b) hl hg ht N;intro q k t n ks r hs he hN;obtain ⟨g1,g2,g3,g4⟩:=hs.node;have hm:t.length≤1000:=ht _ (zM g1);obtain ⟨hn,hf⟩:=errT_ok.1 he;obtain ⟨_,hj,hk,hc,_,_⟩:=nodeE_zero.1 hn;show g_cj (recN g_cj N) (⟨b,l⟩,(q:Int),())=_;rw [u_cj,q0d g1,q00];simp only;rw [q24];by_cases k1:k=21
  ·subst k1;rw [if_pos rfl];rfl
  rw [if_neg k1,q24];by_cases k2:k=22
  ·subst k2;rw [if_pos rfl,qar (by omega),q00];rfl
  rw [if_neg k2,q24];by_cases k3:k=23
  ·subst k3;have hw:q44 n=true:=hc;rw [if_pos rfl,qml hw,q00];rfl
  rw [if_neg k3,q29 b l (by omega) hs,q00];simp only;refine Eq.trans (qws (N:=N) (by omega) ht ih ks (q+1) (eqI k 10) false [] t g2 (by omega) hf (by omega) (by show 0+ks.cnt≤_;have:=ks.cnt_le;omega) (by omega)) ?_;unfold patT;rw [if_neg k1,if_neg k2,if_neg k3]
theorem qgm {b:Bool} {l:List ND} (hl:l.length≤1000) (hg:GL l) (ht:TL 1000 l) {q:Nat} {k:Int} {t:Tx} {n:Int} {ks r:F} (hs:Sits l q (.cons k t n ks r)) (he:errT k t n ks true=0):f_cj (⟨b,l⟩,(q:Int),())=some (patT k t n (patL ks),()):=q5r (ks.size+1) fun N hN=>qql hl hg ht N q k t n ks r hs he hN
end Fn
end Ev

namespace Ev
open Go
namespace Fn
theorem add2 {k:Nat} (h:k≤1000000000):addI .i64 (k:Int) 2=((k+2:Nat):Int):=by unfold addI;rw [qdv];split<;>omega
theorem q1s {m odd:Bool} {a:Int} {b:Tx} {c:Int} {d r:F} (h:errF m false odd (.cons a b c d r)=0) (hm:(m&&odd)=false):errT a b c d false=0∧errF m false (!odd) r=0:=by obtain ⟨h1,h2⟩:=errF_ok.1 h;rw [hm,Bool.or_false] at h1;exact ⟨h1,h2⟩
theorem q31 {t:Tx} {n:Int} {ks:F} (h:errT 6 t n ks false=0):∃a b c d a' b' c' d',ks=.cons a b c d (.cons a' b' c' d' .nil)∧errT a b c d false=0∧errT a' b' c' d' false=0:=by obtain ⟨hn,hf⟩:=errT_ok.1 h;obtain ⟨_,_,hk,_,_,_⟩:=nodeE_zero.1 hn;obtain ⟨_,c2,_⟩:=qap hk;obtain ⟨a,b,c,d,r,rfl,hr⟩:=q2t (ks:=ks) (n:=1) (by have:=c2 (.inl rfl);omega);obtain ⟨a',b',c',d',r',rfl,hc⟩:=q2t (n:=0) hr;obtain rfl:=q9y hc;obtain ⟨e1,hf⟩:=q1s hf rfl;obtain ⟨e2,_⟩:=q1s hf rfl;exact ⟨a,b,c,d,a',b',c',d',rfl,e1,e2⟩
def rowG (fx:List Fix1) (k:Int) (ks:F):Fix1:=(rowOf fx k ks).getD ([],0,0)
theorem qqm (fx:List Fix1) {k:Int} (h:k≠6) (ks:F):rowOf fx k ks=none:=by
 unfold rowOf;split
 ·rw [if_neg (fun e=>h e.1)]
 ·rfl
theorem qk0 (fx:List Fix1) {a:Int} (h:a≠6) (b:Tx) (c:Int) (d r:F):rowOf fx 6 (.cons a b c d r)=none:=by
 unfold rowOf;split
 ·rename_i e;injection e with e1 e2 e3 e4 e5;subst e1;rw [if_neg (fun e=>h e.2.1)]
 ·rfl
section
variable {b bx:Bool} {l:List ND} {fx:List Fix1}
theorem qoj (hl:l.length≤1000) (hx:fx.length≤1000000) {q:Nat} {k:Int} {t:Tx} {n:Int} {ks r:F} (hs:Sits l q (.cons k t n ks r)) (hv:errT k t n ks false=0):f_d0 ((⟨b,l⟩,⟨bx,fx⟩),(q:Int),())=some (rowG fx k ks,(rowOf fx k ks).isSome,()):=by
 obtain ⟨g1,g2,g3,g4⟩:=hs.node;rw [u_d0,q0d g1,q00];simp only;by_cases h6:k=6
 ·subst h6;obtain ⟨a,s,c,d,a',s',c',d',rfl,e1,e2⟩:=q31 hv;obtain ⟨p1,p2,p3,p4⟩:=g2.node;rw [show notB (eqI 6 6)=false from rfl,q01,add1 (by omega),q0d p1,q00];simp only [q00];by_cases ha:a=6
  ·subst ha;obtain ⟨a1,s1,c1,d1,a2,s2,c2,d2,rfl,e3,e4⟩:=q31 e1;obtain ⟨m1,m2,m3,m4⟩:=p2.node;rw [show notB (eqI 6 6)=false from rfl,q01,add2 (by omega)];have m1:l[q+2]?=some (a1,s1,c1,(d1.cnt:Int)):=m1;rw [q0d m1];simp only [q00];by_cases h3:a1=3
   ·subst h3;rw [show notB (eqI 3 3)=false from rfl,q01];rw [find_spec bx fx s1 hx];have hc:rowOf fx 6 (.cons 6 s c (.cons 3 s1 c1 d1 (.cons a2 s2 c2 d2 .nil)) (.cons a' s' c' d' .nil))=q51 fx s1:=by show (if (6:Int)=6∧(6:Int)=6∧(3:Int)=3 then q51 fx s1 else none)=_;rw [if_pos ⟨rfl,rfl,rfl⟩]
    unfold rowG;rw [hc];cases q51 fx s1 with
    |none=>rfl
    |some f=>rfl
   ·have hc:rowOf fx 6 (.cons 6 s c (.cons a1 s1 c1 d1 (.cons a2 s2 c2 d2 .nil)) (.cons a' s' c' d' .nil))=none:=by show (if (6:Int)=6∧(6:Int)=6∧a1=3 then q51 fx s1 else none)=_;rw [if_neg (fun e=>h3 e.2.2)]
    rw [q18 h3,show notB false=true from rfl,q06];unfold rowG;rw [hc];rfl
  ·rw [q18 ha,show notB false=true from rfl,q06,q00,q06];unfold rowG;rw [qk0 fx ha];rfl
 ·rw [q18 h6,show notB false=true from rfl,q06,q00,q06,q00,q06];unfold rowG;rw [qqm fx h6];rfl
theorem qwt {k:Int} (h5:k≠5) (h7:k≠7) (h8:k≠8) (h9:k≠9) (hc:k≠11) (he:k≠12):q4b k=false:=by unfold q4b;rw [zu h5,zu h7,zu h8,zu h9,zu hc,zu he];rfl
theorem qmn {α:Type} (k:Int) (A B:Option α):bnd (cnd (eqI k 5) (some (eqI k 5,())) (bnd (cnd (eqI k 7) (some (eqI k 7,())) (bnd (cnd (eqI k 8) (some (eqI k 8,())) (bnd (cnd (eqI k 9) (some (eqI k 9,())) (bnd (cnd (eqI k 11) (some (eqI k 11,())) (some (eqI k 12,()))) (fun x2=>some (x2.1,())))) (fun x3=>some (x3.1,())))) (fun x4=>some (x4.1,())))) (fun x5=>some (x5.1,())))) (fun x6=>cnd x6.1 A B)=cnd (q4b k) A B:=by
 by_cases h5:k=5
 ·subst h5;rfl
 by_cases h7:k=7
 ·subst h7;rfl
 by_cases h8:k=8
 ·subst h8;rfl
 by_cases h9:k=9
 ·subst h9;rfl
 by_cases hc:k=11
 ·subst hc;rfl
 by_cases he:k=12
 ·subst he;rfl
 rw [q18 h5,q18 h7,q18 h8,q18 h9,q18 hc,q18 he,qwt h5 h7 h8 h9 hc he];simp only [q01,q00]
theorem q7l (hl:l.length≤1000) (hx:fx.length≤1000000) {q:Nat} {k:Int} {t:Tx} {n:Int} {ks r:F} (hs:Sits l q (.cons k t n ks r)) (hv:errT k t n ks false=0):f_cz ((⟨b,l⟩,⟨bx,fx⟩),(q:Int),())=some (lkK fx k ks,()):=by
 obtain ⟨g1,g2,g3,g4⟩:=hs.node;rw [u_cz,q0d g1,q00];simp only;rw [q24];unfold lkK;by_cases h6:k=6
 ·rw [if_pos h6,if_pos h6,qoj hl hx hs hv,q00];simp only;cases rowOf fx k ks<;>rfl
 ·rw [if_neg h6,if_neg h6,qmn];cases q4b k<;>rfl
def qe7 (self:Yf1) (b bx:Bool) (l:List ND) (fx:List Fix1) (N:Nat):Prop:=∀(q:Nat) (k:Int) (t:Tx) (n:Int) (ks r:F),Sits l q (.cons k t n ks r)→errT k t n ks false=0→ks.size<N→
 self ((q:Int),⟨b,l⟩,⟨bx,fx⟩,())=some (⟨false,(dT fx k t n ks).p.doc.flat⟩,⟨b,l⟩,⟨bx,fx⟩,())
theorem Sits.small {k:Int} {t:Tx} {n:Int} {ks r:F} {q:Nat} (hl:l.length≤1000) (hs:Sits l q (.cons k t n ks r)):ks.size+1≤1000:=by obtain ⟨g1,g2,g3,g4⟩:=hs.node;omega
theorem q0s (hl:l.length≤1000) {k:Int} {t:Tx} {n:Int} {ks r:F} {q:Nat} (hs:Sits l q (.cons k t n ks r)) (hv:errT k t n ks false=0):(dT fx k t n ks).p.doc.size≤6000:=by have:=qzk fx hv;have:=hs.small hl;omega
theorem qzo (fx:List Fix1) (k:Int) (t:Tx) (n:Int) (ks:F) (ds:List Dc):(docK fx k t n ks ds).cnt=1:=by
 unfold docK;split
 ·rfl
 split
 ·rfl
 split
 ·rfl
 split
 ·unfold qoe
  repeat (first|(split;rfl)|rfl)
 split
 ·unfold z0i;split<;>rfl
 split
 ·split<;>rfl
 ·rfl
theorem q0w (fx:List Fix1) (k:Int) (t:Tx) (n:Int) (ks:F):(dT fx k t n ks).p.doc.cnt=1:=qzo fx k t n ks _
theorem qc8 {self:Yf1} {N:Nat} (hl:l.length≤1000) (hp:qe7 self b bx l fx N) {q:Nat} {k:Int} {t:Tx} {n:Int} {ks r:F} (br:Bool) (hs:Sits l q (.cons k t n ks r)) (hv:errT k t n ks false=0) (hN:ks.size<N):q0n self ((q:Int),br,⟨b,l⟩,⟨bx,fx⟩,())=some (⟨false,(brkD br (dT fx k t n ks).p.doc).flat⟩,⟨b,l⟩,⟨bx,fx⟩,()):=by
 have e:=hp q k t n ks r hs hv hN;have hz:=q0s (fx:=fx) hl hs hv;rw [qd3,e,q00];cases br with
 |false=>rfl
 |true=>rw [q06,q1d];simp only [q00];rw [q1d];simp only [q00];rw [qjx false (.cons (d:=dTx [40]) rfl rfl (.cons rfl (q0w fx k t n ks) (.one (d:=dTx [41]) rfl rfl))) (by rw [q05,q05,q05,q08,q0p,q0p];omega)];simp only [q00];rfl
theorem qmo {self:Yf1} {N:Nat} (hl:l.length≤1000) (hx:fx.length≤1000000) (hp:qe7 self b bx l fx N) {q:Nat} {k:Int} {t:Tx} {n:Int} {ks r:F} (op:Tx) (lv sd s:Int) (hs:Sits l q (.cons k t n ks r)) (hv:errT k t n ks false=0) (hN:ks.size<N):q10 self ((q:Int),(op,lv,sd),s,⟨b,l⟩,⟨bx,fx⟩,())=some (⟨false,(q7k (dT fx k t n ks).p lv sd s).flat⟩,⟨b,l⟩,⟨bx,fx⟩,()):=by
 have he:(dT fx k t n ks).p.lk=lkK fx k ks:=rfl;have hf:(dT fx k t n ks).p.lv=(rowG fx k ks).2.1:=rfl;have hg:(dT fx k t n ks).p.sd=(rowG fx k ks).2.2:=rfl;rw [qd4,q7l hl hx hs hv,q00];simp only;rw [q24];by_cases h3:lkK fx k ks=3
 ·rw [if_pos h3];have e:=qc8 hl hp true hs hv hN;rw [e];simp only [q00];unfold q7k;rw [he,zw h3,Bool.true_or]
 ·rw [if_neg h3,u_d1,qoj hl hx hs hv];simp only [q00];have hc:cnd (rowOf fx k ks).isSome (cnd (ltI (rowG fx k ks).2.1 lv) (some true) (cnd (eqI (rowG fx k ks).2.1 lv) (cnd (notB (eqI (rowG fx k ks).2.2 s)) (some true) (some (notB (eqI sd s)))) (some false))) (some false)=some (qc5 (dT fx k t n ks).p lv sd s):=by
   unfold qc5;rw [he,hf,hg];cases hr:rowOf fx k ks with
   |none=>
    have:lkK fx k ks≠2:=by
     unfold lkK;rw [hr];split
     ·decide
     split<;>decide
    rw [zu this];rfl
   |some f=>
    have:lkK fx k ks=2:=by
     unfold lkK;rw [hr];by_cases h6:k=6
     ·rw [if_pos h6]
     ·rw [qqm fx h6] at hr;cases hr
    rw [zw this];show cnd true _ _=_;rw [q06,Bool.true_and,q0h];generalize (rowG fx k ks).2.1=p1;generalize (rowG fx k ks).2.2=p2;by_cases c1:p1<lv
    ·rw [if_pos c1,zw c1];rfl
    ·rw [if_neg c1,zu c1,q24,Bool.false_or];by_cases c2:p1=lv
     ·rw [if_pos c2,zw c2,Bool.true_and];by_cases c3:p2=s
      ·subst c3;rw [show eqI p2 p2=true from eqI_eq.2 rfl,show notB true=false from rfl,q01,zu (fun h=>h rfl),Bool.false_or];by_cases c4:sd=p2
       ·subst c4;rw [show eqI sd sd=true from eqI_eq.2 rfl,zu (fun h=>h rfl)];rfl
       ·rw [q18 c4,zw c4];rfl
      ·rw [q18 c3,show notB false=true from rfl,q06,zw c3];rfl
     ·rw [if_neg c2,zu c2];rfl
  rw [hc];simp only [q00];have e:=qc8 hl hp (qc5 (dT fx k t n ks).p lv sd s) hs hv hN;rw [e];simp only [q00];unfold q7k;rw [he,zu h3,Bool.false_or]
end
end Fn
end Ev

namespace Ev
open Go
namespace Fn
section
variable {b bx:Bool} {l:List ND} {fx:List Fix1} {self:Yf1} {N:Nat}
theorem qic {q:Nat} {ks:F} {z:Int} {i:Int} {k:Int} {t:Tx} {n:Int} {ks' r':F} {at_:Nat} (hl:l.length≤1000) (hp:qe7 self b bx l fx N) (hk:∃nb,f_ej (⟨b,l⟩,(q:Int),())=some (⟨nb,ks.pos (q+1)⟩,())) (hi:at? (ks.pos (q+1)) i=some (at_:Int)) (hs:Sits l at_ (.cons k t n ks' r')) (hv:errT k t n ks' false=0) (hN:ks'.size<N):q0g self (i,(q:Int),⟨b,l⟩,⟨bx,fx⟩,())=some (⟨false,(dT fx k t n ks').p.doc.flat⟩,(q:Int),⟨b,l⟩,⟨bx,fx⟩,()):=by have _:=hl;have _:=z;obtain ⟨nb,e⟩:=hk;have e2:=hp at_ k t n ks' r' hs hv hN;rw [qbt,e,q00];simp only;rw [hi];simp only [q00];rw [e2];simp only [q00]
theorem qc9 {s:Tx} {p q:Tx} (hs:∀b,b∈s→0≤b∧b≤255) (hl:s.length≤1000) (hp:p.length≤100) (hq:q.length≤100) {β:Type} (K:Y0×Unit→Option β):bnd (f_d2 (s,())) (fun x=>bnd (fit (sumI (lenI p) (lenI x.1))) (fun _=>bnd (fit (sumI (lenI (catS p x.1)) (lenI q))) (fun _=>bnd (f_d6 (catS (catS p x.1) q,())) K)))=K (⟨false,(dTx (p++q8d s++q)).flat⟩,()):=by have hn:=qgl s;rw [qdb hs (by omega),q00];simp only;rw [q30 p (q8d s) (by omega),q00,q15,q30 (p++q8d s) q (by rw [zg];omega),q00,q15,q1d,q00]
theorem q1l {d:F} (h:d.size≤6000):(dUnd d).size≤6003:=Nat.le_trans (q3p d) (by omega)
theorem qzp (hl:l.length≤1000) (hg:GL l) (ht:TL 1000 l) (hp:qe7 self b bx l fx N) {q:Nat} {k:Int} {t:Tx} {n:Int} {ks r:F} (hs:Sits l q (.cons k t n ks r)) (hv:errT k t n ks false=0) (hN:ks.size≤N) (ho:q4b k=true):g_cy self ((q:Int),⟨b,l⟩,⟨bx,fx⟩,())=some (⟨false,(dT fx k t n ks).p.doc.flat⟩,⟨b,l⟩,⟨bx,fx⟩,()):=by
 obtain ⟨g1,g2,g3,g4⟩:=hs.node;have hx:=(hg.at g1).1;have he:t.length≤1000:=ht _ (zM g1);obtain ⟨hn,hf⟩:=errT_ok.1 hv;obtain ⟨_,_,hk,_,_,_⟩:=nodeE_zero.1 hn;obtain ⟨c1,c2,c3,_,_⟩:=qap hk;have hc:=q7j b l (by omega) hs;have hj:(dT fx k t n ks).p.doc=qoe k t (nthD (dF fx ks) 0).p.doc (nthD (dF fx ks) 1).p.doc (nthD (dF fx ks) 2).p.doc:=qgk fx t n ks _ ho;have e10:eqI k 10=false:=by rcases q42 ho with h|h|h|h|h|h<;>subst h<;>rfl
 rw [e10] at hf;rw [u_cy,q0d g1,q00];simp only;rw [hj];by_cases hA:k=5∨k=11
 ·obtain ⟨a,s,c,d,rfl⟩:=qwj (c1 hA);obtain ⟨v1,_⟩:=q1s hf rfl;have hq:d.size+0+1≤N:=hN;have k1:=qic (z:=0) (i:=0) hl hp hc rfl g2 v1 (by omega);have s1:=q0s (fx:=fx) hl g2 v1;have u1:=q1l s1;have n0:(nthD (dF fx (.cons a s c d .nil)) 0).p.doc=(dT fx a s c d).p.doc:=rfl;rw [n0];rcases hA with rfl|rfl
  ·rw [show eqI 5 1=false from rfl,q01,show eqI 5 2=false from rfl,q01,show eqI 5 3=false from rfl,q01,show eqI 5 5=true from rfl,q06,qc9 hx he (by decide) (by decide),k1];simp only [q00];rw [q2r _ (d:=(dT fx a s c d).p.doc) rfl (q0w fx a s c d) (by omega)];simp only [q00];rw [q43 false (.cons (d:=dTx _) rfl rfl (.one (d:=dUnd _) rfl rfl)) (by simp only [q05,q08,q0p];omega)];simp only [q00];rfl
  ·rw [show eqI 11 1=false from rfl,q01,show eqI 11 2=false from rfl,q01,show eqI 11 3=false from rfl,q01,show eqI 11 5=false from rfl,q01,show eqI 11 7=false from rfl,q01,
    show eqI 11 8=false from rfl,q01,show eqI 11 9=false from rfl,q01,show eqI 11 11=true from rfl,q06,q1d]
   simp only [q00];rw [k1];simp only [q00];rw [q2r _ (d:=(dT fx a s c d).p.doc) rfl (q0w fx a s c d) (by omega)];simp only [q00];rw [q43 false (.cons (d:=dTx _) rfl rfl (.one (d:=dUnd _) rfl rfl)) (by simp only [q05,q08,q0p];omega)];simp only [q00];rfl
 by_cases h9:k=9
 ·subst h9;obtain ⟨a,s,c,d,r1,rfl,hr⟩:=q2t (ks:=ks) (n:=2) (by have:=c3 rfl;omega);obtain ⟨a',s',c',d',r2,rfl,hm⟩:=q2t (n:=1) hr;obtain ⟨a2,s2,c2',d2,r3,rfl,hu⟩:=q2t (n:=0) hm;obtain rfl:=q9y hu;obtain ⟨v1,hf⟩:=q1s hf rfl;obtain ⟨v2,hf⟩:=q1s hf rfl;obtain ⟨v3,hf⟩:=q1s hf rfl;have hq:d.size+(d'.size+(d2.size+0+1)+1)+1≤N:=hN;obtain ⟨_,_,p2,_⟩:=g2.node;obtain ⟨_,_,p3,_⟩:=p2.node;have k1:=qic (z:=0) (i:=0) hl hp hc rfl g2 v1 (by omega);have k2:=qic (z:=0) (i:=1) hl hp hc rfl p2 v2 (by omega);have k3:=qic (z:=0) (i:=2) hl hp hc rfl p3 v3 (by omega);have s1:=q0s (fx:=fx) hl g2 v1;have s2':=q0s (fx:=fx) hl p2 v2;have s3:=q0s (fx:=fx) hl p3 v3;have u1:=q1l s1;have u2:=q1l s2';have u3:=q1l s3;rw [show eqI 9 1=false from rfl,q01,show eqI 9 2=false from rfl,q01,show eqI 9 3=false from rfl,q01,show eqI 9 5=false from rfl,q01,show eqI 9 7=false from rfl,q01,
    show eqI 9 8=false from rfl,q01,show eqI 9 9=true from rfl,q06,q1d]
  simp only [q00];rw [k1];simp only [q00];rw [q2r _ (d:=(dT fx a s c d).p.doc) rfl (q0w fx a s c d) (by omega)];simp only [q00];rw [q3q];simp only [q00];rw [q1d];simp only [q00];rw [k2];simp only [q00];rw [q2r _ (d:=(dT fx a' s' c' d').p.doc) rfl (q0w fx a' s' c' d') (by omega)];simp only [q00];rw [q1d];simp only [q00];rw [k3];simp only [q00];rw [q2r _ (d:=(dT fx a2 s2 c2' d2).p.doc) rfl (q0w fx a2 s2 c2' d2) (by omega)];simp only [q00];rw [q43 false (.cons (d:=dTx _) rfl rfl (.cons (d:=dUnd _) rfl rfl (.cons (d:=dLn) rfl rfl (.cons (d:=dTx _) rfl rfl (.cons (d:=dUnd _) rfl rfl (.cons (d:=dLn) rfl rfl (.cons (d:=dTx _) rfl rfl (.one (d:=dUnd _) rfl rfl)))))))) (by simp only [q05,q08,q0p,q11];omega)];simp only [q00];rfl
 have h2:k=6∨k=7∨k=8∨k=12:=by
  rcases q42 ho with h|h|h|h|h|h
  ·exact absurd (.inl h) hA
  ·exact .inr (.inl h)
  ·exact .inr (.inr (.inl h))
  ·exact absurd h h9
  ·exact absurd (.inr h) hA
  ·exact .inr (.inr (.inr h))
 obtain ⟨a,s,c,d,r1,rfl,hr⟩:=q2t (ks:=ks) (n:=1) (by have:=c2 h2;omega);obtain ⟨a',s',c',d',r2,rfl,hm⟩:=q2t (n:=0) hr;obtain rfl:=q9y hm;obtain ⟨v1,hf⟩:=q1s hf rfl;obtain ⟨v2,hf⟩:=q1s hf rfl;have hq:d.size+(d'.size+0+1)+1≤N:=hN;obtain ⟨_,_,p2,_⟩:=g2.node;have k1:=qic (z:=0) (i:=0) hl hp hc rfl g2 v1 (by omega);have k2:=qic (z:=0) (i:=1) hl hp hc rfl p2 v2 (by omega);have s1:=q0s (fx:=fx) hl g2 v1;have s2':=q0s (fx:=fx) hl p2 v2;have u1:=q1l s1;have u2:=q1l s2';have n0:(nthD (dF fx (.cons a s c d (.cons a' s' c' d' .nil))) 0).p.doc=(dT fx a s c d).p.doc:=rfl;have n1:(nthD (dF fx (.cons a s c d (.cons a' s' c' d' .nil))) 1).p.doc=(dT fx a' s' c' d').p.doc:=rfl;rw [n0,n1];rcases q42 ho with h|h|h|h|h|h
 ·exact absurd (.inl h) hA
 ·subst h;rw [show eqI 7 1=false from rfl,q01,show eqI 7 2=false from rfl,q01,show eqI 7 3=false from rfl,q01,show eqI 7 5=false from rfl,q01,show eqI 7 7=true from rfl,q06,qc9 hx he (by decide) (by decide),k1];simp only [q00];rw [q2r _ (d:=(dT fx a s c d).p.doc) rfl (q0w fx a s c d) (by omega)];simp only [q00];rw [q3q];simp only [q00];rw [q1d];simp only [q00];rw [k2];simp only [q00];rw [q43 false (.cons (d:=dTx _) rfl rfl (.cons (d:=dUnd _) rfl rfl (.cons (d:=dLn) rfl rfl (.cons (d:=dTx _) rfl rfl (.cons (d:=dLn) rfl rfl (.one (d:=(dT fx a' s' c' d').p.doc) rfl (q0w fx a' s' c' d'))))))) (by simp only [q05,q08,q0p,q11];omega)];simp only [q00];rfl
 ·subst h;rw [show eqI 8 1=false from rfl,q01,show eqI 8 2=false from rfl,q01,show eqI 8 3=false from rfl,q01,show eqI 8 5=false from rfl,q01,show eqI 8 7=false from rfl,q01,show eqI 8 8=true from rfl,q06,qc9 hx he (by decide) (by decide),k1];simp only [q00];rw [q2r _ (d:=(dT fx a s c d).p.doc) rfl (q0w fx a s c d) (by omega)];simp only [q00];rw [q3q];simp only [q00];rw [q1d];simp only [q00];rw [k2];simp only [q00];rw [q43 false (.cons (d:=dTx _) rfl rfl (.cons (d:=dUnd _) rfl rfl (.cons (d:=dLn) rfl rfl (.cons (d:=dTx _) rfl rfl (.cons (d:=dLn) rfl rfl (.one (d:=(dT fx a' s' c' d').p.doc) rfl (q0w fx a' s' c' d'))))))) (by simp only [q05,q08,q0p,q11];omega)];simp only [q00];rfl
 ·exact absurd h h9
 ·exact absurd (.inr h) hA
 ·subst h;rw [show eqI 12 1=false from rfl,q01,show eqI 12 2=false from rfl,q01,show eqI 12 3=false from rfl,q01,show eqI 12 5=false from rfl,q01,show eqI 12 7=false from rfl,q01,
   show eqI 12 8=false from rfl,q01,show eqI 12 9=false from rfl,q01,show eqI 12 11=false from rfl,q01,show eqI 12 12=true from rfl,q06,q1d]
  simp only [q00];rw [k1];simp only [q00];rw [q2r _ (d:=(dT fx a s c d).p.doc) rfl (q0w fx a s c d) (by omega)];simp only [q00];rw [q3q];simp only [q00];rw [qc9 hx he (by decide) (by decide),k2];simp only [q00];rw [q2r _ (d:=(dT fx a' s' c' d').p.doc) rfl (q0w fx a' s' c' d') (by omega)];simp only [q00];rw [q43 false (.cons (d:=dTx _) rfl rfl (.cons (d:=dUnd _) rfl rfl (.cons (d:=dLn) rfl rfl (.cons (d:=dTx _) rfl rfl (.one (d:=dUnd _) rfl rfl))))) (by simp only [q05,q08,q0p,q11];omega)];simp only [q00];rfl
theorem qzq (hl:l.length≤1000) (ht:TL 1000 l) (hx:fx.length≤1000000) (hj:∀f,f∈fx→f.1.length≤1000) (hp:qe7 self b bx l fx N) {q:Nat} {t:Tx} {n:Int} {ks r:F} (hs:Sits l q (.cons 6 t n ks r)) (hv:errT 6 t n ks false=0) (hN:ks.size≤N) {f:Fix1} (hr:rowOf fx 6 ks=some f):q1b self ((q:Int),⟨b,l⟩,⟨bx,fx⟩,())=some (⟨false,(dT fx 6 t n ks).p.doc.flat⟩,⟨b,l⟩,⟨bx,fx⟩,()):=by
 have _:=ht;obtain ⟨g1,g2,g3,g4⟩:=hs.node;have hg:=qoj (b:=b) (bx:=bx) hl hx hs hv;have hG:rowG fx 6 ks=f:=by unfold rowG;rw [hr];rfl
 rw [hG,hr] at hg;obtain ⟨nb,hc⟩:=q7j b l (by omega) hs;have he:(dT fx 6 t n ks).p.doc=rowD f (nthD (dF fx ks) 0).b (nthD (dF fx ks) 1).p:=by show docK fx 6 t n ks _=_;unfold docK;rw [if_neg (by decide),if_neg (by decide),if_neg (by decide),if_neg (by decide),if_neg (by decide),if_pos rfl,hr]
 rw [he];obtain ⟨a,s,c,d,a',s',c',d',rfl,v1,v2⟩:=q31 hv;have ha:a=6:=zB fun h=>by rw [qk0 fx h] at hr;cases hr
 subst ha;obtain ⟨a1,s1,c1,d1,a2,s2,c2,d2,rfl,w1,w2⟩:=q31 v1;have hn:d1.size+(d2.size+0+1)+1+(d'.size+0+1)+1≤N:=hN;obtain ⟨_,m2,p2,_⟩:=g2.node;obtain ⟨_,_,n2,_⟩:=m2.node;obtain ⟨nb2,hk⟩:=q7j b l (by omega) g2;have ho:f.1.length≤1000:=by
  have h3:a1=3:=zB fun h=>by have:rowOf fx 6 (.cons 6 s c (.cons a1 s1 c1 d1 (.cons a2 s2 c2 d2 .nil)) (.cons a' s' c' d' .nil))=none:=if_neg (fun e=>h e.2.2);rw [this] at hr;cases hr
  have:rowOf fx 6 (.cons 6 s c (.cons a1 s1 c1 d1 (.cons a2 s2 c2 d2 .nil)) (.cons a' s' c' d' .nil))=q51 fx s1:=if_pos ⟨rfl,rfl,h3⟩;rw [this] at hr;exact hj f (qgb hr).1
 have sl:=q0s (fx:=fx) hl n2 w2;have sr:=q0s (fx:=fx) hl p2 v2;have zl:=q64 (dT fx a2 s2 c2 d2).p f.2.1 f.2.2 (-1);have zr:=q64 (dT fx a' s' c' d').p f.2.1 f.2.2 1;have k1:=qmo (b:=b) (bx:=bx) hl hx hp f.1 f.2.1 f.2.2 (-1) n2 w2 (by omega);have k2:=qmo (b:=b) (bx:=bx) hl hx hp f.1 f.2.1 f.2.2 1 p2 v2 (by omega);rw [qd5,hg];simp only [q00];rw [hc];simp only [q00];have at0:at? ((F.cons 6 s c (.cons a1 s1 c1 d1 (.cons a2 s2 c2 d2 .nil)) (.cons a' s' c' d' .nil)).pos (q+1)) 0=some ((q+1:Nat):Int):=rfl;have at1:at? ((F.cons 6 s c (.cons a1 s1 c1 d1 (.cons a2 s2 c2 d2 .nil)) (.cons a' s' c' d' .nil)).pos (q+1)) 1=some ((q+1+1+(F.cons a1 s1 c1 d1 (.cons a2 s2 c2 d2 .nil)).size:Nat):Int):=rfl;have at2:at? ((F.cons a1 s1 c1 d1 (.cons a2 s2 c2 d2 .nil)).pos (q+1+1)) 1=some ((q+1+1+1+d1.size:Nat):Int):=rfl;rw [at0];simp only [q00];rw [hk];simp only [q00];rw [at2];simp only [q00];rw [k1];simp only [q00];rw [q3q];simp only [q00];rw [q30 f.1 [32] (by show f.1.length+1≤_;omega)];simp only [q00];rw [q1d];simp only [q00];rw [at1];simp only [q00];rw [k2];simp only [q00];have hf:=qeg false (.cons (y:=⟨false,dLn.flat⟩) (d:=dLn) rfl rfl (.cons (y:=⟨false,(dTx (f.1++[32])).flat⟩) (d:=dTx (f.1++[32])) rfl rfl (.one (y:=⟨false,(q7k (dT fx a' s' c' d').p f.2.1 f.2.2 1).flat⟩) (d:=q7k (dT fx a' s' c' d').p f.2.1 f.2.2 1) rfl (q6r _ (q0w fx a' s' c' d'))))) (by simp only [q05,q08,q0p,q11];omega);have hm:=q2g [dLn,dTx (f.1++[32]),q7k (dT fx a' s' c' d').p f.2.1 f.2.2 1];simp only [q05,q08,q0p,q11] at hm;rw [show catS f.1 [32]=f.1++[32] from q15 _ _,hf];simp only [q00];rw [q43 false (.cons (d:=q7k (dT fx a2 s2 c2 d2).p f.2.1 f.2.2 (-1)) rfl (q6r _ (q0w fx a2 s2 c2 d2)) (.one (d:=q4l _) rfl rfl)) (by simp only [q05,q08];omega)];simp only [q00];rfl
end
end Fn
end Ev

namespace Ev
open Go
namespace Fn
def revA (ps:List Pt):List F:=ps.reverse.flatMap fun p=>[dLn,argD p]
theorem qgn (ps:List Pt) (p:Pt):revA (ps++[p])=[dLn,argD p]++revA ps:=by unfold revA;rw [List.reverse_append,List.flatMap_append];rfl
def ArgAt (fx:List Fix1) (l:List ND) (N:Nat) (a:Int) (p:Pt):Prop:=∃(q:Nat) (k:Int) (t:Tx) (n:Int) (ks r:F),a=(q:Int)∧Sits l q (.cons k t n ks r)∧errT k t n ks false=0∧ks.size<N∧p=(dT fx k t n ks).p
theorem ArgAt.cnt {fx:List Fix1} {l:List ND} {N:Nat} {a:Int} {p:Pt} (h:ArgAt fx l N a p):p.doc.cnt=1:=by obtain ⟨q,k,t,n,ks,r,_,_,_,_,rfl⟩:=h;exact q0w fx k t n ks
section
variable {b bx:Bool} {l:List ND} {fx:List Fix1} {self:Yf1} {N:Nat}
theorem z40 (hl:l.length≤1000) (hx:fx.length≤1000000) (hp:qe7 self b bx l fx N) {q:Nat} {k:Int} {t:Tx} {n:Int} {ks r:F} (hs:Sits l q (.cons k t n ks r)) (hv:errT k t n ks false=0) (hN:ks.size<N) (na:Bool) (A:List Int) (ps:List Pt) (hy:A.length=ps.length) (hD:A.length≤10000) (ha:∀(i:Nat) a p,A[i]?=some a→ps[i]?=some p→ArgAt fx l N a p):∀(m:Nat) (nr:Bool) (R:List Y0) (es:List F),m≤A.length→Ds R es→(catF (es++revA (ps.take m))).size≤10000→loopR (q2f self) ((q:Int),lkK fx k ks,((m:Nat):Int)-1,⟨b,l⟩,⟨bx,fx⟩,⟨na,A⟩,⟨nr,R⟩,())=some (Sum.inr (⟨false,(dGrp [qh3 (dT fx k t n ks).p,q4l (es++revA (ps.take m))]).flat⟩,⟨b,l⟩,⟨bx,fx⟩,())):=by
 intro m
 induction m with
 |zero=>
  intro nr R es _ hR hf;have hz:revA (ps.take 0)=[]:=rfl;rw [hz,zt] at hf ⊢;have e:=qc8 hl hp (decide (lkK fx k ks=2)||decide (lkK fx k ks=3)) hs hv hN;have e:q0n self ((q:Int),(decide (lkK fx k ks=2)||decide (lkK fx k ks=3)),⟨b,l⟩,⟨bx,fx⟩,())=some (⟨false,(qh3 (dT fx k t n ks).p).flat⟩,⟨b,l⟩,⟨bx,fx⟩,()):=e;have hj:cnd (eqI (lkK fx k ks) 2) (some true) (some (eqI (lkK fx k ks) 3))=some (decide (lkK fx k ks=2)||decide (lkK fx k ks=3)):=by
   rw [q24];by_cases c:lkK fx k ks=2
   ·rw [if_pos c,zw c];rfl
   ·rw [if_neg c,zu c,Bool.false_or];refine congrArg some ?_;by_cases c3:lkK fx k ks=3
    ·rw [c3];rfl
    ·rw [q18 c3,zu c3]
  have hd:=q0s (fx:=fx) hl hs hv;have hh:=qib (dT fx k t n ks).p;have hn:=q2g es;refine q0a ?_;unfold q2f;simp only;rw [qpx,if_neg (by omega),hj,q00];rw [e];simp only [q00];rw [qeg nr hR (by omega)];simp only [q00];have hc:(qh3 (dT fx k t n ks).p).cnt=1:=q6r _ (q0w fx k t n ks);rw [q43 false (.cons (y:=⟨false,(qh3 (dT fx k t n ks).p).flat⟩) (d:=qh3 (dT fx k t n ks).p) rfl hc (.one (d:=q4l es) rfl rfl)) (by simp only [q05,q08];omega)];simp only [q00]
 |succ m ih=>
  intro nr R es hm hR hf;have ho:m<A.length:=by omega
  have hq:m<ps.length:=by omega
  have hA:A[m]?=some A[m]:=zh ho;have hP:ps[m]?=some ps[m]:=zh hq;have hg:=ha m _ _ hA hP;have he:ps.take (m+1)=ps.take m++[ps[m]]:=(List.take_append_getElem hq).symm;have hk:=hg.cnt;obtain ⟨q',k',t',n',ks',r',e1,ht,hu,hB,e2⟩:=hg;have e:=qc8 hl hp (decide ((dT fx k' t' n' ks').p.lk≠0)) ht hu hB;rw [he,qgn,←zm] at hf;have hC:Ds (R++[(⟨false,dLn.flat⟩:Y0),⟨false,(argD ps[m]).flat⟩]) (es++[dLn,argD ps[m]]):=hR.app (.cons rfl rfl (.one rfl (q6r _ hk)));have hw:(R.length:Nat)≤10000:=by have:=q61 hR.2;have:=hR.len;have hh:=q17 es ([dLn,argD ps[m]]++revA (ps.take m));rw [zm] at hf;omega
  have e':=ih (andB nr (isE ([(⟨false,dLn.flat⟩:Y0),⟨false,(argD ps[m]).flat⟩]:List Y0))) (R++[⟨false,dLn.flat⟩,⟨false,(argD ps[m]).flat⟩]) (es++[dLn,argD ps[m]]) (by omega) hC hf;have step:q2f self ((q:Int),lkK fx k ks,((m+1:Nat):Int)-1,⟨b,l⟩,⟨bx,fx⟩,⟨na,A⟩,⟨nr,R⟩,())=
    some (Sum.inl ((q:Int),lkK fx k ks,((m:Nat):Int)-1,⟨b,l⟩,⟨bx,fx⟩,⟨na,A⟩,⟨andB nr (isE ([(⟨false,dLn.flat⟩:Y0),⟨false,(argD ps[m]).flat⟩]:List Y0)),R++[⟨false,dLn.flat⟩,⟨false,(argD ps[m]).flat⟩]⟩,())):=by
   have hi:((m+1:Nat):Int)-1=(m:Int):=by omega
   unfold q2f;simp only;rw [hi,qpx,if_pos (by omega),q3q];simp only [q00];rw [q40 ho];simp only [q00];rw [z3g hA];simp only [q00];rw [e1,q7l hl hx ht hu];simp only [q00];have hj:notB (eqI (lkK fx k' ks') 0)=decide ((dT fx k' t' n' ks').p.lk≠0):=by
    show notB (eqI (lkK fx k' ks') 0)=decide (lkK fx k' ks'≠0);by_cases c:lkK fx k' ks'=0
    ·rw [c];rfl
    ·rw [q18 c,zw c];rfl
   rw [hj,e];simp only [q00];rw [show lenI R=((R.length:Nat):Int) from rfl,show lenI ([(⟨false,dLn.flat⟩:Y0),⟨false,(brkD (decide ((dT fx k' t' n' ks').p.lk≠0)) (dT fx k' t' n' ks').p.doc).flat⟩]:List Y0)=((2:Nat):Int) from rfl,q0o (by omega)];simp only [q00];rw [show subI .i64 (m:Int) 1=(m:Int)-1 from q39 (by omega) (by omega),e2];rfl
  rw [q0e step,e',he,qgn,zm]
theorem qmp {t:Tx} {n:Int} {a a':Int} {s s':Tx} {c c':Int} {d d':F} (h:lkK fx 6 (.cons a s c d (.cons a' s' c' d' .nil))=1):(dT fx 6 t n (.cons a s c d (.cons a' s' c' d' .nil))).hd=(dT fx a s c d).hd∧(dT fx 6 t n (.cons a s c d (.cons a' s' c' d' .nil))).args=(dT fx a s c d).args++[dLn,argD (dT fx a' s' c' d').p]:=⟨if_pos h,if_pos h⟩
theorem qmq {k:Int} {t:Tx} {n:Int} {ks:F} (h:lkK fx k ks≠1):(dT fx k t n ks).hd=(dT fx k t n ks).p∧(dT fx k t n ks).args=[]:=⟨if_neg h,if_neg h⟩
theorem qmr {k:Int} {ks:F} (h:lkK fx k ks=1):k=6:=by refine zB fun h6=>?_;unfold lkK at h;rw [if_neg h6] at h;split at h<;>exact absurd h (by decide)
theorem z4n (hl:l.length≤1000) (hx:fx.length≤1000000) (hp:qe7 self b bx l fx N):∀(M:Nat) (q:Nat) (k:Int) (t:Tx) (n:Int) (ks r:F) (nb:Bool) (A:List Int) (ps:List Pt),ks.size≤M→Sits l q (.cons k t n ks r)→errT k t n ks false=0→(lkK fx k ks≠1→ks.size<N)→ks.size≤N→A.length=ps.length→A.length+ks.size≤1000→(∀(i:Nat) a p,A[i]?=some a→ps[i]?=some p→ArgAt fx l N a p)→(catF ((dT fx k t n ks).args++revA ps)).size≤10000→loopR (q1m self) ((q:Int),⟨b,l⟩,⟨bx,fx⟩,⟨nb,A⟩,())=some (⟨false,(dGrp [qh3 (dT fx k t n ks).hd,q4l ((dT fx k t n ks).args++revA ps)]).flat⟩,⟨b,l⟩,⟨bx,fx⟩,()):=by
 intro M
 induction M with
 |zero=>
  intro q k t n ks r nb A ps hM hs hv hj hm hc hn ha he;have hk:lkK fx k ks≠1:=by intro h;have h6:=qmr h;subst h6;obtain ⟨a,s,c,d,a',s',c',d',rfl,_⟩:=q31 hv;have hM:d.size+(d'.size+0+1)+1≤0:=hM;omega
  obtain ⟨e1,e2⟩:=qmq (t:=t) (n:=n) hk;rw [e2,List.nil_append] at he;have e:=z40 hl hx hp hs hv (hj hk) nb A ps hc (by omega) ha A.length true [] [] (Nat.le_refl _) .nil (by rw [hc,List.take_length,List.nil_append];exact he);rw [hc,List.take_length] at e;refine q0a ?_;unfold q1m;simp only;rw [q7l hl hx hs hv,q00,q24,if_neg hk,q00];simp only;rw [show subI .i64 (lenI A) 1=((ps.length:Nat):Int)-1 from by rw [show lenI A=((A.length:Nat):Int) from rfl,hc];exact q39 (by omega) (by omega),e,e1,e2]
 |succ M ih=>
  intro q k t n ks r nb A ps hM hs hv hj hm hc hn ha he;by_cases hk:lkK fx k ks=1
  ·have h6:=qmr hk;subst h6;obtain ⟨g1,g2,g3,g4⟩:=hs.node;obtain ⟨nb2,hf⟩:=q7j b l (by omega) hs;have hg:=q7l (b:=b) (bx:=bx) hl hx hs hv;obtain ⟨a,s,c,d,a',s',c',d',rfl,v1,v2⟩:=q31 hv;obtain ⟨e1,e2⟩:=qmp (t:=t) (n:=n) hk;have hM:d.size+(d'.size+0+1)+1≤M+1:=hM;have hm:d.size+(d'.size+0+1)+1≤N:=hm;have hn:A.length+(d.size+(d'.size+0+1)+1)≤1000:=hn;obtain ⟨_,_,p2,_⟩:=g2.node;have step:q1m self ((q:Int),⟨b,l⟩,⟨bx,fx⟩,⟨nb,A⟩,())=some (Sum.inl (((q+1:Nat):Int),⟨b,l⟩,⟨bx,fx⟩,⟨andB nb (isE ([((q+1+1+d.size:Nat):Int)]:Y2)),A++[((q+1+1+d.size:Nat):Int)]⟩,())):=by unfold q1m;simp only;rw [hg,q00,q24,if_pos hk,hf];simp only [q00];have at0:at? ((F.cons a s c d (.cons a' s' c' d' .nil)).pos (q+1)) 0=some ((q+1:Nat):Int):=rfl;have at1:at? ((F.cons a s c d (.cons a' s' c' d' .nil)).pos (q+1)) 1=some ((q+1+1+d.size:Nat):Int):=rfl;rw [at1];simp only [q00];rw [show lenI A=((A.length:Nat):Int) from rfl,show lenI ([((q+1+1+d.size:Nat):Int)]:Y2)=((1:Nat):Int) from rfl,q0o (by omega)];simp only [q00];rw [at0];simp only [q00];rfl
   have hT:(dT fx a s c d).args++revA (ps++[(dT fx a' s' c' d').p])=(dT fx 6 t n (.cons a s c d (.cons a' s' c' d' .nil))).args++revA ps:=by rw [e2,qgn,zm]
   have e:=ih (q+1) a s c d (.cons a' s' c' d' .nil) (andB nb (isE ([((q+1+1+d.size:Nat):Int)]:Y2))) (A++[((q+1+1+d.size:Nat):Int)]) (ps++[(dT fx a' s' c' d').p]) (by omega) g2 v1 (fun _=>by omega) (by omega) (by rw [zg,zg,hc];rfl) (by rw [zg,List.length_singleton];omega)
    (fun i x p h1 h2=>by
     by_cases hi:i<A.length
     ·rw [zW hi] at h1;rw [zW (by omega)] at h2;exact ha i x p h1 h2
     ·rw [zL (by omega)] at h1;rw [zL (by omega)] at h2;have ho:i-A.length=0:=by have:=(zF.1 h1).1;simp at this;omega
      rw [ho] at h1;rw [show i-ps.length=0 by omega] at h2;injection h1 with h1;injection h2 with h2;exact ⟨q+1+1+d.size,a',s',c',d',.nil,h1.symm,p2,v2,by omega,h2.symm⟩)
    (by rw [hT];exact he)
   rw [q0e step,e,hT,e1]
  ·obtain ⟨e1,e2⟩:=qmq (t:=t) (n:=n) hk;rw [e2,List.nil_append] at he;have e:=z40 hl hx hp hs hv (hj hk) nb A ps hc (by omega) ha A.length true [] [] (Nat.le_refl _) .nil (by rw [hc,List.take_length,List.nil_append];exact he);rw [hc,List.take_length] at e;refine q0a ?_;unfold q1m;simp only;rw [q7l hl hx hs hv,q00,q24,if_neg hk,q00];simp only;rw [show subI .i64 (lenI A) 1=((ps.length:Nat):Int)-1 from by rw [show lenI A=((A.length:Nat):Int) from rfl,hc];exact q39 (by omega) (by omega),e,e1,e2]
theorem qzr (hl:l.length≤1000) (hx:fx.length≤1000000) (hp:qe7 self b bx l fx N) {q:Nat} {t:Tx} {n:Int} {ks r:F} (hs:Sits l q (.cons 6 t n ks r)) (hv:errT 6 t n ks false=0) (hN:ks.size≤N) (hr:lkK fx 6 ks=1):q1c self ((q:Int),⟨b,l⟩,⟨bx,fx⟩,())=some (⟨false,(dT fx 6 t n ks).p.doc.flat⟩,⟨b,l⟩,⟨bx,fx⟩,()):=by
 have hz:=qmf fx hv (szF fx ks _ _ (errT_ok.1 hv).2);have hf:=hs.small hl;have hc:rowOf fx 6 ks=none:=by
  cases h:rowOf fx 6 ks with
  |none=>rfl
  |some f=>unfold lkK at hr;rw [if_pos rfl,h] at hr;exact absurd hr (show ¬(2:Int)=1 by decide)
 have e:=z4n (b:=b) (bx:=bx) hl hx hp ks.size q 6 t n ks r true [] [] (Nat.le_refl _) hs hv (fun h=>absurd hr h) hN rfl (by show 0+ks.size≤1000;omega) (fun i a p h=>by cases h) (by
  have hn:revA []=[]:=rfl;rw [hn,zt];have:=hz.2.1;omega)
 rw [qd6,e];have hn:revA []=[]:=rfl;rw [hn,zt];obtain ⟨a,s,c,d,a',s',c',d',rfl,v1,v2⟩:=q31 hv;obtain ⟨e1,e2⟩:=qmp (t:=t) (n:=n) hr;rw [e1,e2];have he:(dT fx 6 t n (.cons a s c d (.cons a' s' c' d' .nil))).p.doc=appD (dT fx a s c d).hd ((dT fx a s c d).args++[dLn,argD (dT fx a' s' c' d').p]):=by show docK fx 6 t n _ _=_;unfold docK;rw [if_neg (by decide),if_neg (by decide),if_neg (by decide),if_neg (by decide),if_neg (by decide),if_pos rfl,hc];rfl
 rw [he];rfl
end
end Fn
end Ev

namespace Ev
open Go
namespace Fn
section
variable {b bx:Bool} {l:List ND} {fx:List Fix1} {self:Yf1} {N:Nat}
theorem qk1 {q:Nat} {g:F} {e:Nat} (hs:Sits l q g) (hf:errF true false true g=0) (hc:g.cnt=2*(e+1)):∃a s c d a' s' c' d' r,g=.cons a s c d (.cons a' s' c' d' r)∧r.cnt=2*e∧errT a s c d true=0∧errT a' s' c' d' false=0∧errF true false true r=0∧Sits l (q+1+d.size) (.cons a' s' c' d' r)∧Sits l (q+1+d.size+1+d'.size) r:=by obtain ⟨a,s,c,d,r1,rfl,hr⟩:=q2t (ks:=g) (n:=2*e+1) (by omega);obtain ⟨a',s',c',d',r,rfl,he⟩:=q2t (n:=2*e) hr;obtain ⟨h1,h2⟩:=errF_ok.1 hf;obtain ⟨h3,h4⟩:=errF_ok.1 h2;obtain ⟨_,_,p2,_⟩:=hs.node;obtain ⟨_,_,p3,_⟩:=p2.node;exact ⟨a,s,c,d,a',s',c',d',r,rfl,he,h1,h3,h4,p2,p3⟩
theorem qok (q:Nat) (a a':Int) (s s':Tx) (c c':Int) (d d' r:F) (pre:List Int):pre++(F.cons a s c d (.cons a' s' c' d' r)).pos q=(pre++[(q:Int),((q+1+d.size:Nat):Int)])++r.pos (q+1+d.size+1+d'.size):=by rw [zm];rfl
theorem qwu {α:Type} (pre:List α) (a b:α) (post:List α):at? (pre++a::b::post) ((pre.length+1:Nat):Int)=some b:=q0d (by rw [zL (by omega),Nat.add_sub_cancel_left];rfl)
theorem qid (hl:l.length≤1000) (hg:GL l) (ht:TL 1000 l) (hp:qe7 self b bx l fx N) {q:Nat} {a a':Int} {s s':Tx} {c c':Int} {d d' r:F} (hs:Sits l q (.cons a s c d (.cons a' s' c' d' r))) (v1:errT a s c d true=0) (v2:errT a' s' c' d' false=0) (p2:Sits l (q+1+d.size) (.cons a' s' c' d' r)) (hN:d'.size<N) (nb nr:Bool) (pre:List Int) (hn:pre.length≤100000) (R:List Y0) (es:List F) (hR:Ds R es) (ho:(catF es).size≤30000):∃nr' R',q19 self (⟨nb,pre++(F.cons a s c d (.cons a' s' c' d' r)).pos q⟩,(pre.length:Int),⟨b,l⟩,⟨bx,fx⟩,⟨nr,R⟩,())=some (Sum.inl (⟨nb,pre++(F.cons a s c d (.cons a' s' c' d' r)).pos q⟩,((pre.length+2:Nat):Int),⟨b,l⟩,⟨bx,fx⟩,⟨nr',R'⟩,()))∧Ds R' (es++(if pre.length=1 then [q4l [dLn,dTx ((dT fx a s c d).pt++[32,45,62]),dUnd (dT fx a' s' c' d').p.doc]] else [dLn,dTx ([124,32]++((dT fx a s c d).pt++[32,45,62])),dUnd (dT fx a' s' c' d').p.doc])):=by
 have hk:R.length≤30000:=by have:=q61 hR.2;have:=hR.len;omega
 have hf:=qmm (b:=b) hl hg ht false hs v1;have hq:patT a s c (patL d)=(dT fx a s c d).pt:=rfl;have hm:=q8y a s c d (Sits.tl ht hs.first);have hv:=hs.small hl;have hd:=q0s (fx:=fx) hl p2 v2;have hu:=q1l hd;have k2:=hp _ a' s' c' d' r p2 v2 hN;have he:=add1 (k:=pre.length) (by omega);have hc:=add2 (k:=pre.length) (by omega);unfold q19;simp only;have hj:lenI (pre++(F.cons a s c d (.cons a' s' c' d' r)).pos q)=((pre.length+(r.cnt+1+1):Nat):Int):=by show (((pre++(F.cons a s c d (.cons a' s' c' d' r)).pos q).length:Nat):Int)=_;rw [zg,F.pos_len];rfl
 rw [hj,q0h,if_pos (by omega)];have a0:at? (pre++(F.cons a s c d (.cons a' s' c' d' r)).pos q) (pre.length:Int)=some (q:Int):=qqj pre _ _;have a1:at? (pre++(F.cons a s c d (.cons a' s' c' d' r)).pos q) ((pre.length+1:Nat):Int)=some ((q+1+d.size:Nat):Int):=qwu pre _ _ _;rw [a0];simp only [q00];rw [hf];simp only [q00,cond_false];rw [q30 (patT a s c (patL d)) [32,45,62] (by show _+3≤_;omega)];simp only [q00];rw [he,a1];simp only [q00];rw [k2];simp only [q00];rw [q2r _ (d:=(dT fx a' s' c' d').p.doc) rfl (q0w fx a' s' c' d') (by omega)];simp only [q00];rw [q24,q15];by_cases h1:pre.length=1
 ·rw [if_pos (by omega),if_pos h1,q3q];simp only [q00];rw [q1d];simp only [q00];rw [qeg false (.cons (d:=dLn) rfl rfl (.cons (d:=dTx _) rfl rfl (.one (d:=dUnd (dT fx a' s' c' d').p.doc) rfl rfl))) (by simp only [q05,q08,q0p,q11];omega)];simp only [q00];rw [show lenI R=((R.length:Nat):Int) from rfl,show lenI ([(⟨false,(q4l [dLn,dTx (patT a s c (patL d)++[32,45,62]),dUnd (dT fx a' s' c' d').p.doc]).flat⟩:Y0)]:List Y0)=((1:Nat):Int) from rfl,q0o (by omega)];simp only [q00];rw [hc];exact ⟨_,_,rfl,hR.app (.one rfl rfl)⟩
 ·rw [if_neg (by omega),if_neg h1,q3q];simp only [q00];rw [q30 [124,32] (patT a s c (patL d)++[32,45,62]) (by rw [zg];show 2+(_+3)≤_;omega)];simp only [q00];rw [q15,q1d];simp only [q00];rw [show lenI R=((R.length:Nat):Int) from rfl,show lenI ([(⟨false,dLn.flat⟩:Y0),⟨false,(dTx ([124,32]++(patT a s c (patL d)++[32,45,62]))).flat⟩,⟨false,(dUnd (dT fx a' s' c' d').p.doc).flat⟩]:List Y0)=((3:Nat):Int) from rfl,q0o (by omega)];simp only [q00];rw [hc];exact ⟨_,_,rfl,hR.app (.cons rfl rfl (.cons rfl rfl (.one rfl rfl)))⟩
theorem qwv (nb nr:Bool) (pos:List Int) (R:List Y0) (es:List F) (hR:Ds R es) (he:(catF es).size≤30000):q19 self (⟨nb,pos⟩,(pos.length:Int),⟨b,l⟩,⟨bx,fx⟩,⟨nr,R⟩,())=some (Sum.inr (⟨false,(dGrp (es++[dLn,dTx Pz.kEnd])).flat⟩,⟨b,l⟩,⟨bx,fx⟩,())):=by
 have hc:R.length≤30000:=by have:=q61 hR.2;have:=hR.len;omega
 unfold q19;simp only;rw [show lenI pos=((pos.length:Nat):Int) from rfl,q0h,if_neg (by omega),q3q];simp only [q00];rw [q1d];simp only [q00];rw [show lenI R=((R.length:Nat):Int) from rfl,show lenI ([(⟨false,dLn.flat⟩:Y0),⟨false,(dTx [101,110,100]).flat⟩]:List Y0)=((2:Nat):Int) from rfl,q0o (by omega)];simp only [q00];rw [show app R [(⟨false,dLn.flat⟩:Y0),⟨false,(dTx [101,110,100]).flat⟩]=R++[(⟨false,dLn.flat⟩:Y0),⟨false,(dTx [101,110,100]).flat⟩] from qqa _ _,q43 _ (hR.app (.cons (d:=dLn) rfl rfl (.one (d:=dTx Pz.kEnd) rfl rfl))) (by rw [q17];simp only [q05,q08,q0p,q11];omega)];simp only [q00]
theorem qms (hl:l.length≤1000) (hg:GL l) (ht:TL 1000 l) (hp:qe7 self b bx l fx N) (nb:Bool):∀(e:Nat) (g:F) (q:Nat) (pre:List Int) (nr:Bool) (R:List Y0) (es:List F),g.cnt=2*e→Sits l q g→errF true false true g=0→g.size≤N→2≤pre.length→pre.length+g.cnt≤100000→Ds R es→(catF (es++q6k (dF fx g))).size≤30000→loopR (q19 self) (⟨nb,pre++g.pos q⟩,(pre.length:Int),⟨b,l⟩,⟨bx,fx⟩,⟨nr,R⟩,())=some (⟨false,(dGrp (es++(q6k (dF fx g)++[dLn,dTx Pz.kEnd]))).flat⟩,⟨b,l⟩,⟨bx,fx⟩,())
 |0,g,q,pre,nr,R,es,hc,_,_,_,_,_,hR,hj=>by obtain rfl:=q9y (ks:=g) (by omega);have h0:q6k (dF fx .nil)=[]:=rfl;rw [h0,zt] at hj;have hk:pre++F.nil.pos q=pre:=zt pre;rw [hk,h0,List.nil_append];exact q0a (qwv nb nr pre R es hR hj)
 |e+1,g,q,pre,nr,R,es,hc,hs,hf,hN,hq,hm,hR,hj=>by obtain ⟨a,s,c,d,a',s',c',d',r,rfl,ho,v1,v2,v3,q2,q3⟩:=qk1 hs hf hc;have hN:d.size+(d'.size+r.size+1)+1≤N:=hN;have hm:pre.length+(r.cnt+1+1)≤100000:=hm;have he:q6k (dF fx (.cons a s c d (.cons a' s' c' d' r)))=[dLn,dTx ([124,32]++((dT fx a s c d).pt++[32,45,62])),dUnd (dT fx a' s' c' d').p.doc]++q6k (dF fx r):=rfl;rw [he,←zm] at hj;obtain ⟨nr',R',st,hn⟩:=qid hl hg ht hp hs v1 v2 q2 (by omega) nb nr pre (by omega) R es hR (by rw [zm,q17] at hj;omega);rw [if_neg (by omega)] at hn;have e2:=qms hl hg ht hp nb e r (q+1+d.size+1+d'.size) (pre++[(q:Int),((q+1+d.size:Nat):Int)]) nr' R' _ ho q3 v3 (by omega) (by rw [zg];omega) (by rw [zg];show pre.length+2+_≤_;omega) hn hj;rw [q0e st,qok,show ((pre.length+2:Nat):Int)=(((pre++[(q:Int),((q+1+d.size:Nat):Int)]).length:Nat):Int) from by rw [zg];rfl,e2,he];simp only [zm]
theorem qww (hl:l.length≤1000) (hg:GL l) (ht:TL 1000 l) (hp:qe7 self b bx l fx N) {q:Nat} {t:Tx} {n:Int} {ks r:F} (hs:Sits l q (.cons 10 t n ks r)) (hv:errT 10 t n ks false=0) (hN:ks.size≤N):q13 self ((q:Int),⟨b,l⟩,⟨bx,fx⟩,())=some (⟨false,(dT fx 10 t n ks).p.doc.flat⟩,⟨b,l⟩,⟨bx,fx⟩,()):=by
 obtain ⟨g1,g2,g3,g4⟩:=hs.node;obtain ⟨hn,hf⟩:=errT_ok.1 hv;obtain ⟨_,_,hk,_,_,_⟩:=nodeE_zero.1 hn;obtain ⟨_,_,_,c10,_⟩:=qap hk;obtain ⟨c10,c11⟩:=c10 rfl;obtain ⟨nb,hc⟩:=q7j b l (by omega) hs;have ho:=hs.small hl;have hq:=q0s (fx:=fx) hl hs hv;obtain ⟨a,s,c,d,r0,rfl,hr⟩:=q2t (ks:=ks) (n:=ks.cnt-1) (by omega);have hz:(F.cons a s c d r0).cnt=r0.cnt+1:=rfl;have e10:eqI 10 10=true:=rfl;rw [e10] at hf;obtain ⟨v0,hf⟩:=q1s hf rfl;have hN:d.size+r0.size+1≤N:=hN;have hw:=r0.cnt_le;have ho:d.size+r0.size+1+1≤1000:=ho;obtain ⟨_,_,p0,_⟩:=g2.node;obtain ⟨e,he⟩:∃e,r0.cnt=2*(e+1):=⟨r0.cnt / 2-1,by omega⟩;obtain ⟨a1,s1,c1,d1,a2,s2,c2,d2,r1,rfl,hx,v1,v2,v3,q2,q3⟩:=qk1 p0 hf he;have hN:d.size+(d1.size+(d2.size+r1.size+1)+1)+1≤N:=hN;have k0:=hp _ a s c d _ g2 v0 (by omega);have d0:=q0s (fx:=fx) hl g2 v0;have u0:=q1l d0;have hj:(dT fx 10 t n (.cons a s c d (.cons a1 s1 c1 d1 (.cons a2 s2 c2 d2 r1)))).p.doc=dGrp ([dTx Pz.kMatch,dUnd (dT fx a s c d).p.doc,dLn,dTx Pz.kWith]++([q4l [dLn,dTx ((dT fx a1 s1 c1 d1).pt++[32,45,62]),dUnd (dT fx a2 s2 c2 d2).p.doc]]++(q6k (dF fx r1)++[dLn,dTx Pz.kEnd]))):=by have h0:(dT fx 10 t n (.cons a s c d (.cons a1 s1 c1 d1 (.cons a2 s2 c2 d2 r1)))).p.doc=docK fx 10 t n (.cons a s c d (.cons a1 s1 c1 d1 (.cons a2 s2 c2 d2 r1))) (dF fx (.cons a s c d (.cons a1 s1 c1 d1 (.cons a2 s2 c2 d2 r1)))):=rfl;rw [h0];unfold docK;rw [if_neg (by decide),if_neg (by decide),if_neg (by decide),if_neg (by decide),if_pos rfl];rfl
 have hm:(catF ([dTx Pz.kMatch,dUnd (dT fx a s c d).p.doc,dLn,dTx Pz.kWith]++[q4l [dLn,dTx ((dT fx a1 s1 c1 d1).pt++[32,45,62]),dUnd (dT fx a2 s2 c2 d2).p.doc]]++q6k (dF fx r1))).size≤30000:=by rw [hj] at hq;have:(catF ([dTx Pz.kMatch,dUnd (dT fx a s c d).p.doc,dLn,dTx Pz.kWith]++([q4l [dLn,dTx ((dT fx a1 s1 c1 d1).pt++[32,45,62]),dUnd (dT fx a2 s2 c2 d2).p.doc]]++(q6k (dF fx r1)++[dLn,dTx Pz.kEnd])))).size+0+1+0+1≤6000:=hq;rw [←zm,←zm,q17] at this;omega
 rw [qbu,hc];simp only [q00];rw [q1d];simp only [q00];have at0:at? ((F.cons a s c d (.cons a1 s1 c1 d1 (.cons a2 s2 c2 d2 r1))).pos (q+1)) 0=some ((q+1:Nat):Int):=rfl;rw [at0];simp only [q00];rw [k0];simp only [q00];rw [q2r _ (d:=(dT fx a s c d).p.doc) rfl (q0w fx a s c d) (by omega)];simp only [q00];rw [q3q];simp only [q00];rw [q1d];simp only [q00];have hy:Ds [(⟨false,(dTx [109,97,116,99,104]).flat⟩:Y0),⟨false,(dUnd (dT fx a s c d).p.doc).flat⟩,⟨false,dLn.flat⟩,⟨false,(dTx [119,105,116,104]).flat⟩] [dTx Pz.kMatch,dUnd (dT fx a s c d).p.doc,dLn,dTx Pz.kWith]:=.cons rfl rfl (.cons rfl rfl (.cons rfl rfl (.one rfl rfl)));obtain ⟨nr',R',st,hu⟩:=qid hl hg ht hp p0 v1 v2 q2 (by omega) nb false [((q+1:Nat):Int)] (by show 1≤_;omega) _ _ hy (by rw [q17,q17] at hm;omega);rw [if_pos (show [((q+1:Nat):Int)].length=1 from rfl)] at hu;have st:q19 self (⟨nb,(F.cons a s c d (.cons a1 s1 c1 d1 (.cons a2 s2 c2 d2 r1))).pos (q+1)⟩,1,⟨b,l⟩,⟨bx,fx⟩,⟨false,[(⟨false,(dTx [109,97,116,99,104]).flat⟩:Y0),⟨false,(dUnd (dT fx a s c d).p.doc).flat⟩,⟨false,dLn.flat⟩,⟨false,(dTx [119,105,116,104]).flat⟩]⟩,())=_:=st;rw [q0e st];have e2:=qms hl hg ht hp nb e r1 (q+1+1+d.size+1+d1.size+1+d2.size) ([((q+1:Nat):Int)]++[((q+1+1+d.size:Nat):Int),((q+1+1+d.size+1+d1.size:Nat):Int)]) nr' R' _ hx q3 v3 (by omega) (by show 2≤3;omega) (by show 3+_≤_;have:=r1.cnt_le;omega) hu hm;rw [hj];rw [qok];refine Eq.trans e2 ?_;simp only [zm]
end
end Fn
end Ev

namespace Ev
open Go
namespace Fn
theorem qwx {b bx:Bool} {l:List ND} {fx:List Fix1} (hl:l.length≤1000) (hg:GL l) (ht:TL 1000 l) (hx:fx.length≤1000000) (hq:∀f,f∈fx→f.1.length≤1000):∀N:Nat,qe7 (recN g_cy N) b bx l fx N
 |0=>fun _ _ _ _ _ _ _ _ h=>absurd h (Nat.not_lt_zero _)
 |N+1=>by
  have hp:=qwx (b:=b) (bx:=bx) hl hg ht hx hq N;intro q k t n ks r hs hv hN;have hN:ks.size≤N:=by omega
  show g_cy (recN g_cy N) ((q:Int),⟨b,l⟩,⟨bx,fx⟩,())=_;by_cases ho:q4b k=true
  ·exact qzp hl hg ht hp hs hv hN ho
  obtain ⟨g1,g2,g3,g4⟩:=hs.node;have hu:=(hg.at g1).1;have hy:t.length≤1000:=ht _ (zM g1);obtain ⟨hn,hf⟩:=errT_ok.1 hv;obtain ⟨_,_,hk,hj,_,_⟩:=nodeE_zero.1 hn;have hm:(dT fx k t n ks).p.doc=docK fx k t n ks (dF fx ks):=rfl;have no:∀c:Int,q4b c=true→eqI k c=false:=fun c hc=>q18 fun e=>ho (e▸hc);by_cases k10:k=10
  ·subst k10;rw [u_cy,q0d g1,q00];simp only;have e:=qww hl hg ht hp hs hv hN;rw [show eqI 10 1=false from rfl,q01,show eqI 10 2=false from rfl,q01,show eqI 10 3=false from rfl,q01,show eqI 10 5=false from rfl,q01,show eqI 10 7=false from rfl,q01,show eqI 10 8=false from rfl,q01,
    show eqI 10 9=false from rfl,q01,show eqI 10 11=false from rfl,q01,show eqI 10 12=false from rfl,q01,show eqI 10 10=true from rfl,q06,e]
   simp only [q00]
  by_cases k6:k=6
  ·subst k6;rw [u_cy,q0d g1,q00];simp only;rw [show eqI 6 1=false from rfl,q01,show eqI 6 2=false from rfl,q01,show eqI 6 3=false from rfl,q01,show eqI 6 5=false from rfl,q01,show eqI 6 7=false from rfl,q01,show eqI 6 8=false from rfl,q01,
    show eqI 6 9=false from rfl,q01,show eqI 6 11=false from rfl,q01,show eqI 6 12=false from rfl,q01,show eqI 6 10=false from rfl,q01,show eqI 6 6=true from rfl,q06,q7l hl hx hs hv,q00]
   simp only;cases hr:rowOf fx 6 ks with
   |some f=>
    have he:lkK fx 6 ks=2:=by unfold lkK;rw [if_pos rfl,hr]
    have e:=qzq hl ht hx hq hp hs hv hN hr;rw [he,show eqI 2 2=true from rfl,q06,e];simp only [q00]
   |none=>
    have he:lkK fx 6 ks=1:=by unfold lkK;rw [if_pos rfl,hr]
    have e:=qzr hl hx hp hs hv hN he;rw [he,show eqI 1 2=false from rfl,q01,e];simp only [q00]
  rw [u_cy,q0d g1,q00,hm];simp only;unfold docK;rw [q24];by_cases k1:k=1
  ·subst k1;have hw:q44 n=true:=hj;rw [if_pos rfl,if_pos rfl,qqg hw];simp only [q00];rw [q1d];simp only [q00]
  rw [if_neg k1,if_neg k1,q24];by_cases k2:k=2
  ·subst k2;rw [if_pos rfl,if_pos rfl,qsq (s:=t) hu (by omega)];simp only [q00];rw [q1d];simp only [q00]
  rw [if_neg k2,if_neg k2,q24];by_cases k3:k=3
  ·subst k3;rw [if_pos rfl,if_pos rfl,qdb (s:=t) hu (by omega)];simp only [q00];rw [q1d];simp only [q00]
  rw [if_neg k3,if_neg k3,if_neg ho,if_neg k10,if_neg k6,no 5 rfl,q01,no 7 rfl,q01,no 8 rfl,q01,no 9 rfl,q01,no 11 rfl,q01,no 12 rfl,q01,q18 k10,q01,q18 k6,q01,q1d];simp only [q00]
theorem qwy {b bx:Bool} {l:List ND} {fx:List Fix1} (hl:l.length≤1000) (hg:GL l) (ht:TL 1000 l) (hx:fx.length≤1000000) (hc:∀f,f∈fx→f.1.length≤1000) {q:Nat} {k:Int} {t:Tx} {n:Int} {ks r:F} (hs:Sits l q (.cons k t n ks r)) (hv:errT k t n ks false=0):f_cy ((q:Int),⟨b,l⟩,⟨bx,fx⟩,())=some (⟨false,(dT fx k t n ks).p.doc.flat⟩,⟨b,l⟩,⟨bx,fx⟩,()):=q5r (ks.size+1) fun N hN=>qwx hl hg ht hx hc N q k t n ks r hs hv hN
end Fn
end Ev

namespace Ev
open Go
namespace Fn
section
variable {b bx:Bool} {l:List ND} {fx:List Fix1}
theorem qca (hl:l.length≤1000) (hx:fx.length≤1000000) {q:Nat} {k:Int} {t:Tx} {n:Int} {ks r:F} (hs:Sits l q (.cons k t n ks r)) (hv:errT k t n ks false=0):f_cl (⟨b,l⟩,(q:Int),⟨bx,fx⟩,())=some (rowG fx k ks,(rowOf fx k ks).isSome,()):=by
 obtain ⟨g1,g2,g3,g4⟩:=hs.node;rw [u_cl,q0d g1,q00];simp only;by_cases h6:k=6
 ·subst h6;obtain ⟨a,s,c,d,a',s',c',d',rfl,e1,e2⟩:=q31 hv;obtain ⟨p1,p2,p3,p4⟩:=g2.node;rw [show eqI 6 6=true from rfl,q06,add1 (by omega),q0d p1,q00];simp only [q00];by_cases ha:a=6
  ·subst ha;obtain ⟨a1,s1,c1,d1,a2,s2,c2,d2,rfl,e3,e4⟩:=q31 e1;obtain ⟨m1,m2,m3,m4⟩:=p2.node;rw [show eqI 6 6=true from rfl,q06,add2 (by omega)];have m1:l[q+2]?=some (a1,s1,c1,(d1.cnt:Int)):=m1;rw [q0d m1];simp only [q00];by_cases h3:a1=3
   ·subst h3;rw [show eqI 3 3=true from rfl,q06];rw [qsl bx fx s1 hx];have hc:rowOf fx 6 (.cons 6 s c (.cons 3 s1 c1 d1 (.cons a2 s2 c2 d2 .nil)) (.cons a' s' c' d' .nil))=q51 fx s1:=by show (if (6:Int)=6∧(6:Int)=6∧(3:Int)=3 then q51 fx s1 else none)=_;rw [if_pos ⟨rfl,rfl,rfl⟩]
    unfold rowG;rw [hc];cases q51 fx s1 with
    |none=>rfl
    |some f=>rfl
   ·have hc:rowOf fx 6 (.cons 6 s c (.cons a1 s1 c1 d1 (.cons a2 s2 c2 d2 .nil)) (.cons a' s' c' d' .nil))=none:=by show (if (6:Int)=6∧(6:Int)=6∧a1=3 then q51 fx s1 else none)=_;rw [if_neg (fun e=>h3 e.2.2)]
    rw [q18 h3,q01];unfold rowG;rw [hc];rfl
  ·rw [q18 ha,q01,q00,q01];unfold rowG;rw [qk0 fx ha];rfl
 ·rw [q18 h6,q01,q00,q01,q00,q01];unfold rowG;rw [qqm fx h6];rfl
theorem q9i (hl:l.length≤1000) (hx:fx.length≤1000000) {q:Nat} {k:Int} {t:Tx} {n:Int} {ks r:F} (hs:Sits l q (.cons k t n ks r)) (hv:errT k t n ks false=0):f_co (⟨b,l⟩,(q:Int),⟨bx,fx⟩,())=some (lkK fx k ks,()):=by
 obtain ⟨g1,g2,g3,g4⟩:=hs.node;rw [u_co,q0d g1,q00];simp only;rw [q24];unfold lkK;by_cases h6:k=6
 ·rw [if_pos h6,if_pos h6,qca hl hx hs hv,q00];simp only;cases rowOf fx k ks<;>rfl
 ·rw [if_neg h6,if_neg h6,qmn];cases q4b k<;>rfl
def q8z (self:Yf6) (b bx:Bool) (l:List ND) (fx:List Fix1) (N:Nat):Prop:=∀(q:Nat) (k:Int) (t:Tx) (n:Int) (ks r:F),Sits l q (.cons k t n ks r)→errT k t n ks false=0→ks.size<N→
 self (⟨b,l⟩,(q:Int),⟨bx,fx⟩,())=some (⟨false,(dT fx k t n ks).p.doc.flat⟩,())
theorem qdd {self:Yf6} {N:Nat} (hl:l.length≤1000) (hp:q8z self b bx l fx N) {q:Nat} {k:Int} {t:Tx} {n:Int} {ks r:F} (br:Bool) (hs:Sits l q (.cons k t n ks r)) (hv:errT k t n ks false=0) (hN:ks.size<N):q1i self (⟨b,l⟩,(q:Int),⟨bx,fx⟩,br,())=some (⟨false,(brkD br (dT fx k t n ks).p.doc).flat⟩,()):=by
 have e:=hp q k t n ks r hs hv hN;have hz:=q0s (fx:=fx) hl hs hv;rw [qm0,e,q00];cases br with
 |false=>rfl
 |true=>rw [show notB true=false from rfl,q01,q0y];simp only [q00];rw [q0y];simp only [q00];have hD:Ds [(⟨false,(dTx [40]).flat⟩:Y0),⟨false,(dT fx k t n ks).p.doc.flat⟩,⟨false,(dTx [41]).flat⟩] [dTx [40],(dT fx k t n ks).p.doc,dTx [41]]:=.cons rfl rfl (.cons rfl (q0w fx k t n ks) (.one rfl rfl));rw [q9g 45 [] 0 0 false _ (by simp) (by rw [hD.lens];simp only [q05,q08,q0p];omega),hD.cat];simp only [q00];rfl
theorem qie {self:Yf6} {N:Nat} (hl:l.length≤1000) (hx:fx.length≤1000000) (hp:q8z self b bx l fx N) {q:Nat} {k:Int} {t:Tx} {n:Int} {ks r:F} (op:Tx) (lv sd s:Int) (hs:Sits l q (.cons k t n ks r)) (hv:errT k t n ks false=0) (hN:ks.size<N):q3l self (⟨b,l⟩,(q:Int),⟨bx,fx⟩,(op,lv,sd),s,())=some (⟨false,(q7k (dT fx k t n ks).p lv sd s).flat⟩,()):=by
 have he:(dT fx k t n ks).p.lk=lkK fx k ks:=rfl;have hf:(dT fx k t n ks).p.lv=(rowG fx k ks).2.1:=rfl;have hg:(dT fx k t n ks).p.sd=(rowG fx k ks).2.2:=rfl;have hc:cnd (rowOf fx k ks).isSome (cnd (ltI (rowG fx k ks).2.1 lv) (some true) (cnd (eqI (rowG fx k ks).2.1 lv) (cnd (notB (eqI (rowG fx k ks).2.2 s)) (some true) (some (notB (eqI sd s)))) (some false))) (some false)=some (qc5 (dT fx k t n ks).p lv sd s):=by
  unfold qc5;rw [he,hf,hg];cases hr:rowOf fx k ks with
  |none=>
   have:lkK fx k ks≠2:=by
    unfold lkK;rw [hr];split
    ·decide
    split<;>decide
   rw [zu this];rfl
  |some f=>
   have:lkK fx k ks=2:=by
    unfold lkK;rw [hr];by_cases h6:k=6
    ·rw [if_pos h6]
    ·rw [qqm fx h6] at hr;cases hr
   rw [zw this];show cnd true _ _=_;rw [q06,Bool.true_and,q0h];generalize (rowG fx k ks).2.1=p1;generalize (rowG fx k ks).2.2=p2;by_cases c1:p1<lv
   ·rw [if_pos c1,zw c1];rfl
   ·rw [if_neg c1,zu c1,q24,Bool.false_or];by_cases c2:p1=lv
    ·rw [if_pos c2,zw c2,Bool.true_and];by_cases c3:p2=s
     ·subst c3;rw [show eqI p2 p2=true from eqI_eq.2 rfl,show notB true=false from rfl,q01,zu (fun h=>h rfl),Bool.false_or];by_cases c4:sd=p2
      ·subst c4;rw [show eqI sd sd=true from eqI_eq.2 rfl,zu (fun h=>h rfl)];rfl
      ·rw [q18 c4,zw c4];rfl
     ·rw [q18 c3,show notB false=true from rfl,q06,zw c3];rfl
    ·rw [if_neg c2,zu c2];rfl
 rw [qm1,qca hl hx hs hv,q00];simp only;rw [hc];simp only [q00];have hb:cnd (qc5 (dT fx k t n ks).p lv sd s) (some true) (bnd (f_co (⟨b,l⟩,(q:Int),⟨bx,fx⟩,())) (fun x2=>some (eqI x2.1 3)))=some (decide ((dT fx k t n ks).p.lk=3)||qc5 (dT fx k t n ks).p lv sd s):=by
  cases qc5 (dT fx k t n ks).p lv sd s with
  |true=>rw [q06,Bool.or_true]
  |false=>
   rw [q01,q9i hl hx hs hv,q00,Bool.or_false,he];refine congrArg some ?_;by_cases c:lkK fx k ks=3
   ·rw [c];rfl
   ·rw [zu c];exact q18 c
 rw [hb];simp only [q00];rw [qdd hl hp _ hs hv hN];simp only [q00];rfl
def qk2 (fx:List Fix1):Nat→F→Nat
 |q,.nil=>q
 |q,.cons k _ _ ks _=>if lkK fx k ks=1 then qk2 fx (q+1) ks else q
def mkY (ds:List F):List Y0:=ds.map fun d=>⟨false,d.flat⟩
theorem z41 {ds:List F} (h:∀d,d∈ds→d.cnt=1):Ds (mkY ds) ds:=⟨by unfold slY mkY;rw [zY];rfl,h⟩
theorem qif {q:Nat} {k:Int} {t:Tx} {n:Int} {ks r:F} (M:Nat) (hM:ks.size≤M) (hs:Sits l q (.cons k t n ks r)) (hv:errT k t n ks false=0):∃kh th nh ksh rh,Sits l (qk2 fx q (.cons k t n ks r)) (.cons kh th nh ksh rh)∧errT kh th nh ksh false=0∧ksh.size≤ks.size∧(lkK fx k ks=1→ksh.size<ks.size)∧(dT fx k t n ks).hd=(dT fx kh th nh ksh).p∧(∀d,d∈(dT fx k t n ks).args→d.cnt=1):=by
 induction M generalizing q k t n ks r with
 |zero=>
  have hk:lkK fx k ks≠1:=by intro h;have h6:=qmr h;subst h6;obtain ⟨a,s,c,d,a',s',c',d',rfl,_⟩:=q31 hv;have hM:d.size+(d'.size+0+1)+1≤0:=hM;omega
  obtain ⟨e1,e2⟩:=qmq (t:=t) (n:=n) hk;refine ⟨k,t,n,ks,r,?_,hv,Nat.le_refl _,fun h=>absurd h hk,e1,fun d hd=>by rw [e2] at hd;cases hd⟩;show Sits l (if lkK fx k ks=1 then qk2 fx (q+1) ks else q) _;rw [if_neg hk];exact hs
 |succ M ih=>
  by_cases hk:lkK fx k ks=1
  ·have h6:=qmr hk;subst h6;obtain ⟨g1,g2,g3,g4⟩:=hs.node;obtain ⟨a,s,c,d,a',s',c',d',rfl,v1,v2⟩:=q31 hv;have hM:d.size+(d'.size+0+1)+1≤M+1:=hM;obtain ⟨e1,e2⟩:=qmp (t:=t) (n:=n) hk;obtain ⟨kh,th,nh,ksh,rh,w1,w2,w3,w4,w5,w6⟩:=ih (q:=q+1) (by omega) g2 v1;refine ⟨kh,th,nh,ksh,rh,?_,w2,by show ksh.size≤d.size+(d'.size+0+1)+1;omega,fun _=>by show ksh.size<d.size+(d'.size+0+1)+1;omega,by rw [e1];exact w5,fun x hx=>?_⟩
   ·show Sits l (if _ then qk2 fx (q+1) (.cons a s c d (.cons a' s' c' d' .nil)) else q) _;rw [if_pos hk];exact w1
   ·rw [e2] at hx;rcases zP.1 hx with hx|hx
    ·exact w6 x hx
    ·rcases zo.1 hx with rfl|hx
     ·rfl
     ·rcases zo.1 hx with rfl|hx
      ·exact q6r _ (q0w fx a' s' c' d')
      ·cases hx
  ·obtain ⟨e1,e2⟩:=qmq (t:=t) (n:=n) hk;refine ⟨k,t,n,ks,r,?_,hv,Nat.le_refl _,fun h=>absurd h hk,e1,fun d hd=>by rw [e2] at hd;cases hd⟩;show Sits l (if lkK fx k ks=1 then qk2 fx (q+1) ks else q) _;rw [if_neg hk];exact hs
theorem qmt {self:Yf6} {N:Nat} (hl:l.length≤1000) (hx:fx.length≤1000000) (hp:q8z self b bx l fx N):∀(M:Nat) (q:Nat) (k:Int) (t:Tx) (n:Int) (ks r:F),ks.size<M→Sits l q (.cons k t n ks r)→errT k t n ks false=0→ks.size≤N→recN (q3z self) M (⟨b,l⟩,(q:Int),⟨bx,fx⟩,())=some (((qk2 fx q (.cons k t n ks r):Nat):Int),⟨decide (lkK fx k ks≠1),mkY (dT fx k t n ks).args⟩,())
 |0,_,_,_,_,_,_,h,_,_,_=>absurd h (Nat.not_lt_zero _)
 |M+1,q,k,t,n,ks,r,hM,hs,hv,hN=>by
  show q3z self (recN (q3z self) M) (⟨b,l⟩,(q:Int),⟨bx,fx⟩,())=_;have hc:=q9i (b:=b) (bx:=bx) hl hx hs hv;rw [qm2,hc,q00];simp only;have he:qk2 fx q (.cons k t n ks r)=if lkK fx k ks=1 then qk2 fx (q+1) ks else q:=rfl
  by_cases hk:lkK fx k ks=1
  ·have h6:=qmr hk;subst h6;obtain ⟨g1,g2,g3,g4⟩:=hs.node;have hf:=q29 b l (by omega) hs;have hj:=hs.small hl;have hz:=qmf fx hv (szF fx ks _ _ (errT_ok.1 hv).2);have hg:=(qif (fx:=fx) ks.size (Nat.le_refl _) hs hv).choose_spec.choose_spec.choose_spec.choose_spec.choose_spec.2.2.2.2.2;obtain ⟨a,s,c,d,a',s',c',d',rfl,v1,v2⟩:=q31 hv;obtain ⟨e1,e2⟩:=qmp (t:=t) (n:=n) hk;have hM:d.size+(d'.size+0+1)+1<M+1:=hM;have hN:d.size+(d'.size+0+1)+1≤N:=hN;obtain ⟨_,_,p2,_⟩:=g2.node;have ih:=qmt hl hx hp M (q+1) a s c d (.cons a' s' c' d' .nil) (by omega) g2 v1 (by omega);have at0:at? ((F.cons a s c d (.cons a' s' c' d' .nil)).pos (q+1)) 0=some ((q+1:Nat):Int):=rfl;have at1:at? ((F.cons a s c d (.cons a' s' c' d' .nil)).pos (q+1)) 1=some ((q+1+1+d.size:Nat):Int):=rfl;have hm:(mkY (dT fx a s c d).args).length≤10000:=by have h1:=q61 hg;rw [e2,zg] at h1;have h2:=hz.2.1;rw [e2] at h2;have hj:d.size+(d'.size+0+1)+1+1≤1000:=hj;have h2:_+_+5≤6*(d.size+(d'.size+0+1)+1+1):=h2;show ((dT fx a s c d).args.map _).length≤_;rw [zJ];omega
   rw [show eqI (lkK fx 6 (.cons a s c d (.cons a' s' c' d' .nil))) 1=true from eqI_eq.2 hk,show notB true=false from rfl,q01,hf];simp only [q00];rw [at0];simp only [q00];rw [ih];simp only [q00];rw [q35];simp only [q00];rw [show lenI (mkY (dT fx a s c d).args)=(((mkY (dT fx a s c d).args).length:Nat):Int) from rfl,show lenI ([(⟨false,dLn.flat⟩:Y0)]:List Y0)=((1:Nat):Int) from rfl,q0o (by omega)];simp only [q00];rw [at1];simp only [q00];rw [q9i hl hx p2 v2];simp only [q00];have hn:notB (eqI (lkK fx a' d') 0)=decide ((dT fx a' s' c' d').p.lk≠0):=by
    show notB (eqI (lkK fx a' d') 0)=decide (lkK fx a' d'≠0);by_cases c:lkK fx a' d'=0
    ·rw [c];rfl
    ·rw [q18 c,zw c];rfl
   rw [hn,qdd hl hp _ p2 v2 (by omega)];simp only [q00];rw [qqa,show lenI (mkY (dT fx a s c d).args++[(⟨false,dLn.flat⟩:Y0)])=(((mkY (dT fx a s c d).args).length+1:Nat):Int) from by show (((mkY (dT fx a s c d).args++[(⟨false,dLn.flat⟩:Y0)]).length:Nat):Int)=_;rw [zg];rfl,
    show lenI ([(⟨false,(brkD (decide ((dT fx a' s' c' d').p.lk≠0)) (dT fx a' s' c' d').p.doc).flat⟩:Y0)]:List Y0)=((1:Nat):Int) from rfl,q0o (by omega)]
   simp only [q00];rw [he,if_pos hk,e2,qqa,q9d,show decide (lkK fx 6 (.cons a s c d (.cons a' s' c' d' .nil))≠1)=false from zu (fun h=>h hk)];unfold mkY;rw [zS,zm];rfl
  ·obtain ⟨e1,e2⟩:=qmq (t:=t) (n:=n) hk;rw [q18 hk,show notB false=true from rfl,q06,he,if_neg hk,e2,zw hk];rfl
theorem qsr {self:Yf6} {N:Nat} (hl:l.length≤1000) (hx:fx.length≤1000000) (hp:q8z self b bx l fx N) {q:Nat} {k:Int} {t:Tx} {n:Int} {ks r:F} (hs:Sits l q (.cons k t n ks r)) (hv:errT k t n ks false=0) (hN:ks.size≤N):q5n self (⟨b,l⟩,(q:Int),⟨bx,fx⟩,())=some (((qk2 fx q (.cons k t n ks r):Nat):Int),⟨decide (lkK fx k ks≠1),mkY (dT fx k t n ks).args⟩,()):=q5r (ks.size+1) fun M hM=>qmt hl hx hp M q k t n ks r (by omega) hs hv hN
end
end Fn
end Ev

namespace Ev
open Go
namespace Fn
section
variable {b bx:Bool} {l:List ND} {fx:List Fix1} {self:Yf6} {N:Nat}
theorem q9j {s:Tx} {p q:Tx} (hl:s.length≤1000) (hp:p.length≤100) (hq:q.length≤100) {β:Type} (K:Y0×Unit→Option β):bnd (f_ci (s,())) (fun x=>bnd (fit (sumI (lenI p) (lenI x.1))) (fun _=>bnd (fit (sumI (lenI (catS p x.1)) (lenI q))) (fun _=>bnd (f_cr (catS (catS p x.1) q,())) K)))=K (⟨false,(dTx (p++q8d s++q)).flat⟩,()):=by have hn:=qgl s;rw [qar (by omega),q00];simp only;rw [q30 p (q8d s) (by omega),q00,q15,q30 (p++q8d s) q (by rw [zg];omega),q00,q15,q0y,q00]
theorem qwz (hl:l.length≤1000) (ht:TL 1000 l) (hp:q8z self b bx l fx N) {q:Nat} {k:Int} {t:Tx} {n:Int} {ks r:F} (hs:Sits l q (.cons k t n ks r)) (hv:errT k t n ks false=0) (hN:ks.size≤N) (ho:q4b k=true):g_ch self (⟨b,l⟩,(q:Int),⟨bx,fx⟩,())=some (⟨false,(dT fx k t n ks).p.doc.flat⟩,()):=by
 obtain ⟨g1,g2,g3,g4⟩:=hs.node;have he:t.length≤1000:=ht _ (zM g1);obtain ⟨hn,hf⟩:=errT_ok.1 hv;obtain ⟨_,_,hk,_,_,_⟩:=nodeE_zero.1 hn;obtain ⟨c1,c2,c3,_,_⟩:=qap hk;have hc:=q29 b l (by omega) hs;have hg:(dT fx k t n ks).p.doc=qoe k t (nthD (dF fx ks) 0).p.doc (nthD (dF fx ks) 1).p.doc (nthD (dF fx ks) 2).p.doc:=qgk fx t n ks _ ho;have e10:eqI k 10=false:=by rcases q42 ho with h|h|h|h|h|h<;>subst h<;>rfl
 rw [e10] at hf;rw [u_ch,q0d g1,q00,hc];simp only [q00];rw [hg];by_cases hA:k=5∨k=11
 ·obtain ⟨a,s,c,d,rfl⟩:=qwj (c1 hA);obtain ⟨v1,_⟩:=q1s hf rfl;have hm:d.size+0+1≤N:=hN;have k1:=hp _ a s c d _ g2 v1 (by omega);have s1:=q0s (fx:=fx) hl g2 v1;have u1:=q1l s1;have at0:at? ((F.cons a s c d .nil).pos (q+1)) 0=some ((q+1:Nat):Int):=rfl;have n0:(nthD (dF fx (.cons a s c d .nil)) 0).p.doc=(dT fx a s c d).p.doc:=rfl;rw [n0];rcases hA with rfl|rfl
  ·rw [show eqI 5 1=false from rfl,q01,show eqI 5 2=false from rfl,q01,show eqI 5 3=false from rfl,q01,show eqI 5 4=false from rfl,q01,show eqI 5 5=true from rfl,q06];rw [q9j he (by decide) (by decide)];simp only;rw [at0];simp only [q00];rw [k1];simp only [q00];rw [q1n _ (d:=(dT fx a s c d).p.doc) rfl (q0w fx a s c d) (by omega)];simp only [q00];rw [q2z false (.cons (d:=dTx _) rfl rfl (.one (d:=dUnd _) rfl rfl)) (by simp only [q05,q08,q0p];omega)];simp only [q00];rfl
  ·rw [show eqI 11 1=false from rfl,q01,show eqI 11 2=false from rfl,q01,show eqI 11 3=false from rfl,q01,show eqI 11 4=false from rfl,q01,show eqI 11 5=false from rfl,q01];rw [show eqI 11 7=false from rfl,q01];simp only [q00];rw [show eqI 11 8=false from rfl,q01,show eqI 11 9=false from rfl,q01,show eqI 11 11=true from rfl,q06];rw [q0y];simp only [q00];rw [at0];simp only [q00];rw [k1];simp only [q00];rw [q1n _ (d:=(dT fx a s c d).p.doc) rfl (q0w fx a s c d) (by omega)];simp only [q00];rw [q2z false (.cons (d:=dTx _) rfl rfl (.one (d:=dUnd _) rfl rfl)) (by simp only [q05,q08,q0p];omega)];simp only [q00];rfl
 by_cases h9:k=9
 ·subst h9;obtain ⟨a,s,c,d,r1,rfl,hr⟩:=q2t (ks:=ks) (n:=2) (by have:=c3 rfl;omega);obtain ⟨a',s',c',d',r2,rfl,hj⟩:=q2t (n:=1) hr;obtain ⟨a2,s2,c2',d2,r3,rfl,hq⟩:=q2t (n:=0) hj;obtain rfl:=q9y hq;obtain ⟨v1,hf⟩:=q1s hf rfl;obtain ⟨v2,hf⟩:=q1s hf rfl;obtain ⟨v3,hf⟩:=q1s hf rfl;have hm:d.size+(d'.size+(d2.size+0+1)+1)+1≤N:=hN;obtain ⟨_,_,p2,_⟩:=g2.node;obtain ⟨_,_,p3,_⟩:=p2.node;have k1:=hp _ a s c d _ g2 v1 (by omega);have k2:=hp _ a' s' c' d' _ p2 v2 (by omega);have k3:=hp _ a2 s2 c2' d2 _ p3 v3 (by omega);have s1:=q0s (fx:=fx) hl g2 v1;have s2':=q0s (fx:=fx) hl p2 v2;have s3:=q0s (fx:=fx) hl p3 v3;have u1:=q1l s1;have u2:=q1l s2';have u3:=q1l s3;have at0:at? ((F.cons a s c d (.cons a' s' c' d' (.cons a2 s2 c2' d2 .nil))).pos (q+1)) 0=some ((q+1:Nat):Int):=rfl;have at1:at? ((F.cons a s c d (.cons a' s' c' d' (.cons a2 s2 c2' d2 .nil))).pos (q+1)) 1=some ((q+1+1+d.size:Nat):Int):=rfl;have at2:at? ((F.cons a s c d (.cons a' s' c' d' (.cons a2 s2 c2' d2 .nil))).pos (q+1)) 2=some ((q+1+1+d.size+1+d'.size:Nat):Int):=rfl;rw [show eqI 9 1=false from rfl,q01,show eqI 9 2=false from rfl,q01,show eqI 9 3=false from rfl,q01,show eqI 9 4=false from rfl,q01,show eqI 9 5=false from rfl,q01];rw [show eqI 9 7=false from rfl,q01];simp only [q00];rw [show eqI 9 8=false from rfl,q01,show eqI 9 9=true from rfl,q06];rw [q0y];simp only [q00];rw [at0];simp only [q00];rw [k1];simp only [q00];rw [q1n _ (d:=(dT fx a s c d).p.doc) rfl (q0w fx a s c d) (by omega)];simp only [q00];rw [q35];simp only [q00];rw [q0y];simp only [q00];rw [at1];simp only [q00];rw [k2];simp only [q00];rw [q1n _ (d:=(dT fx a' s' c' d').p.doc) rfl (q0w fx a' s' c' d') (by omega)];simp only [q00];rw [q0y];simp only [q00];rw [at2];simp only [q00];rw [k3];simp only [q00];rw [q1n _ (d:=(dT fx a2 s2 c2' d2).p.doc) rfl (q0w fx a2 s2 c2' d2) (by omega)];simp only [q00];rw [q2z false (.cons (d:=dTx _) rfl rfl (.cons (d:=dUnd _) rfl rfl (.cons (d:=dLn) rfl rfl (.cons (d:=dTx _) rfl rfl (.cons (d:=dUnd _) rfl rfl (.cons (d:=dLn) rfl rfl (.cons (d:=dTx _) rfl rfl (.one (d:=dUnd _) rfl rfl)))))))) (by simp only [q05,q08,q0p,q11];omega)];simp only [q00];rfl
 have h2:k=6∨k=7∨k=8∨k=12:=by
  rcases q42 ho with h|h|h|h|h|h
  ·exact absurd (.inl h) hA
  ·exact .inr (.inl h)
  ·exact .inr (.inr (.inl h))
  ·exact absurd h h9
  ·exact absurd (.inr h) hA
  ·exact .inr (.inr (.inr h))
 obtain ⟨a,s,c,d,r1,rfl,hr⟩:=q2t (ks:=ks) (n:=1) (by have:=c2 h2;omega);obtain ⟨a',s',c',d',r2,rfl,hj⟩:=q2t (n:=0) hr;obtain rfl:=q9y hj;obtain ⟨v1,hf⟩:=q1s hf rfl;obtain ⟨v2,hf⟩:=q1s hf rfl;have hm:d.size+(d'.size+0+1)+1≤N:=hN;obtain ⟨_,_,p2,_⟩:=g2.node;have k1:=hp _ a s c d _ g2 v1 (by omega);have k2:=hp _ a' s' c' d' _ p2 v2 (by omega);have s1:=q0s (fx:=fx) hl g2 v1;have s2':=q0s (fx:=fx) hl p2 v2;have u1:=q1l s1;have u2:=q1l s2';have n0:(nthD (dF fx (.cons a s c d (.cons a' s' c' d' .nil))) 0).p.doc=(dT fx a s c d).p.doc:=rfl;have n1:(nthD (dF fx (.cons a s c d (.cons a' s' c' d' .nil))) 1).p.doc=(dT fx a' s' c' d').p.doc:=rfl;have at0:at? ((F.cons a s c d (.cons a' s' c' d' .nil)).pos (q+1)) 0=some ((q+1:Nat):Int):=rfl;have at1:at? ((F.cons a s c d (.cons a' s' c' d' .nil)).pos (q+1)) 1=some ((q+1+1+d.size:Nat):Int):=rfl;rw [n0,n1];rcases q42 ho with h|h|h|h|h|h
 ·exact absurd (.inl h) hA
 ·subst h;rw [show eqI 7 1=false from rfl,q01,show eqI 7 2=false from rfl,q01,show eqI 7 3=false from rfl,q01,show eqI 7 4=false from rfl,q01,show eqI 7 5=false from rfl,q01];rw [show eqI 7 7=true from rfl,q06];simp only [q00];rw [q06,show eqI 7 8=false from rfl,q01];simp only [q00];rw [q9j he (by decide) (by decide)];simp only;rw [at0];simp only [q00];rw [k1];simp only [q00];rw [q1n _ (d:=(dT fx a s c d).p.doc) rfl (q0w fx a s c d) (by omega)];simp only [q00];rw [q35];simp only [q00];rw [q0y];simp only [q00];rw [at1];simp only [q00];rw [k2];simp only [q00];rw [q2z false (.cons (d:=dTx _) rfl rfl (.cons (d:=dUnd _) rfl rfl (.cons (d:=dLn) rfl rfl (.cons (d:=dTx _) rfl rfl (.cons (d:=dLn) rfl rfl (.one (d:=(dT fx a' s' c' d').p.doc) rfl (q0w fx a' s' c' d'))))))) (by simp only [q05,q08,q0p,q11];omega)];simp only [q00];rfl
 ·subst h;rw [show eqI 8 1=false from rfl,q01,show eqI 8 2=false from rfl,q01,show eqI 8 3=false from rfl,q01,show eqI 8 4=false from rfl,q01,show eqI 8 5=false from rfl,q01];rw [show eqI 8 7=false from rfl,q01];simp only [q00];rw [show eqI 8 8=true from rfl,q06,q06];simp only [q00];rw [q9j he (by decide) (by decide)];simp only;rw [at0];simp only [q00];rw [k1];simp only [q00];rw [q1n _ (d:=(dT fx a s c d).p.doc) rfl (q0w fx a s c d) (by omega)];simp only [q00];rw [q35];simp only [q00];rw [q0y];simp only [q00];rw [at1];simp only [q00];rw [k2];simp only [q00];rw [q2z false (.cons (d:=dTx _) rfl rfl (.cons (d:=dUnd _) rfl rfl (.cons (d:=dLn) rfl rfl (.cons (d:=dTx _) rfl rfl (.cons (d:=dLn) rfl rfl (.one (d:=(dT fx a' s' c' d').p.doc) rfl (q0w fx a' s' c' d'))))))) (by simp only [q05,q08,q0p,q11];omega)];simp only [q00];rfl
 ·exact absurd h h9
 ·exact absurd (.inr h) hA
 ·subst h;rw [show eqI 12 1=false from rfl,q01,show eqI 12 2=false from rfl,q01,show eqI 12 3=false from rfl,q01,show eqI 12 4=false from rfl,q01,show eqI 12 5=false from rfl,q01];rw [show eqI 12 7=false from rfl,q01];simp only [q00];rw [show eqI 12 8=false from rfl,q01,show eqI 12 9=false from rfl,q01,show eqI 12 11=false from rfl,q01,show eqI 12 12=true from rfl,q06];rw [q0y];simp only [q00];rw [at0];simp only [q00];rw [k1];simp only [q00];rw [q1n _ (d:=(dT fx a s c d).p.doc) rfl (q0w fx a s c d) (by omega)];simp only [q00];rw [q35];simp only [q00];rw [q9j he (by decide) (by decide)];simp only;rw [at1];simp only [q00];rw [k2];simp only [q00];rw [q1n _ (d:=(dT fx a' s' c' d').p.doc) rfl (q0w fx a' s' c' d') (by omega)];simp only [q00];rw [q2z false (.cons (d:=dTx _) rfl rfl (.cons (d:=dUnd _) rfl rfl (.cons (d:=dLn) rfl rfl (.cons (d:=dTx _) rfl rfl (.one (d:=dUnd _) rfl rfl))))) (by simp only [q05,q08,q0p,q11];omega)];simp only [q00];rfl
end
end Fn
end Ev

namespace Ev
open Go
namespace Fn
section
variable {b bx:Bool} {l:List ND} {fx:List Fix1} {self:Yf6} {N:Nat}
theorem qx0 (hl:l.length≤1000) (hx:fx.length≤1000000) (hj:∀f,f∈fx→f.1.length≤1000) (hp:q8z self b bx l fx N) {q:Nat} {t:Tx} {n:Int} {ks r:F} (hs:Sits l q (.cons 6 t n ks r)) (hv:errT 6 t n ks false=0) (hN:ks.size≤N) {f:Fix1} (hr:rowOf fx 6 ks=some f):g_ch self (⟨b,l⟩,(q:Int),⟨bx,fx⟩,())=some (⟨false,(dT fx 6 t n ks).p.doc.flat⟩,()):=by
 obtain ⟨g1,g2,g3,g4⟩:=hs.node;have hg:=qca (b:=b) (bx:=bx) hl hx hs hv;have hG:rowG fx 6 ks=f:=by unfold rowG;rw [hr];rfl
 rw [hG,hr] at hg;have hc:=q29 b l (by omega) hs;have he:(dT fx 6 t n ks).p.doc=rowD f (nthD (dF fx ks) 0).b (nthD (dF fx ks) 1).p:=by show docK fx 6 t n ks _=_;unfold docK;rw [if_neg (by decide),if_neg (by decide),if_neg (by decide),if_neg (by decide),if_neg (by decide),if_pos rfl,hr]
 rw [he];obtain ⟨a,s,c,d,a',s',c',d',rfl,v1,v2⟩:=q31 hv;have ha:a=6:=zB fun h=>by rw [qk0 fx h] at hr;cases hr
 subst ha;obtain ⟨a1,s1,c1,d1,a2,s2,c2,d2,rfl,w1,w2⟩:=q31 v1;have hn:d1.size+(d2.size+0+1)+1+(d'.size+0+1)+1≤N:=hN;obtain ⟨_,m2,p2,_⟩:=g2.node;obtain ⟨_,_,n2,_⟩:=m2.node;have hk:=q29 b l (by omega) g2;have ho:f.1.length≤1000:=by
  have h3:a1=3:=zB fun h=>by have:rowOf fx 6 (.cons 6 s c (.cons a1 s1 c1 d1 (.cons a2 s2 c2 d2 .nil)) (.cons a' s' c' d' .nil))=none:=if_neg (fun e=>h e.2.2);rw [this] at hr;cases hr
  have:rowOf fx 6 (.cons 6 s c (.cons a1 s1 c1 d1 (.cons a2 s2 c2 d2 .nil)) (.cons a' s' c' d' .nil))=q51 fx s1:=if_pos ⟨rfl,rfl,h3⟩;rw [this] at hr;exact hj f (qgb hr).1
 have sl:=q0s (fx:=fx) hl n2 w2;have sr:=q0s (fx:=fx) hl p2 v2;have zl:=q64 (dT fx a2 s2 c2 d2).p f.2.1 f.2.2 (-1);have zr:=q64 (dT fx a' s' c' d').p f.2.1 f.2.2 1;have k1:=qie (b:=b) (bx:=bx) hl hx hp f.1 f.2.1 f.2.2 (-1) n2 w2 (by omega);have k2:=qie (b:=b) (bx:=bx) hl hx hp f.1 f.2.1 f.2.2 1 p2 v2 (by omega);rw [u_ch,q0d g1,q00,hc];simp only [q00];rw [show eqI 6 1=false from rfl,q01,show eqI 6 2=false from rfl,q01,show eqI 6 3=false from rfl,q01,show eqI 6 4=false from rfl,q01,show eqI 6 5=false from rfl,q01,show eqI 6 7=false from rfl,q01];simp only [q00];rw [show eqI 6 8=false from rfl,q01,show eqI 6 9=false from rfl,q01,show eqI 6 11=false from rfl,q01,show eqI 6 12=false from rfl,q01,show eqI 6 10=false from rfl,q01];rw [hg];simp only [q00];rw [show (Option.isSome (some f))=true from rfl,q06];have at0:at? ((F.cons 6 s c (.cons a1 s1 c1 d1 (.cons a2 s2 c2 d2 .nil)) (.cons a' s' c' d' .nil)).pos (q+1)) 0=some ((q+1:Nat):Int):=rfl;have at1:at? ((F.cons 6 s c (.cons a1 s1 c1 d1 (.cons a2 s2 c2 d2 .nil)) (.cons a' s' c' d' .nil)).pos (q+1)) 1=some ((q+1+1+(F.cons a1 s1 c1 d1 (.cons a2 s2 c2 d2 .nil)).size:Nat):Int):=rfl;have at2:at? ((F.cons a1 s1 c1 d1 (.cons a2 s2 c2 d2 .nil)).pos (q+1+1)) 1=some ((q+1+1+1+d1.size:Nat):Int):=rfl;rw [at0];simp only [q00];rw [hk];simp only [q00];rw [at2];simp only [q00];rw [k1];simp only [q00];rw [q35];simp only [q00];rw [q30 f.1 [32] (by show f.1.length+1≤_;omega)];simp only [q00];rw [q0y];simp only [q00];rw [at1];simp only [q00];rw [k2];simp only [q00];have hf:=q9h false (.cons (y:=⟨false,dLn.flat⟩) (d:=dLn) rfl rfl (.cons (y:=⟨false,(dTx (f.1++[32])).flat⟩) (d:=dTx (f.1++[32])) rfl rfl (.one (y:=⟨false,(q7k (dT fx a' s' c' d').p f.2.1 f.2.2 1).flat⟩) (d:=q7k (dT fx a' s' c' d').p f.2.1 f.2.2 1) rfl (q6r _ (q0w fx a' s' c' d'))))) (by simp only [q05,q08,q0p,q11];omega);have hm:=q2g [dLn,dTx (f.1++[32]),q7k (dT fx a' s' c' d').p f.2.1 f.2.2 1];simp only [q05,q08,q0p,q11] at hm;rw [show catS f.1 [32]=f.1++[32] from q15 _ _,hf];simp only [q00];rw [q2z false (.cons (d:=q7k (dT fx a2 s2 c2 d2).p f.2.1 f.2.2 (-1)) rfl (q6r _ (q0w fx a2 s2 c2 d2)) (.one (d:=q4l _) rfl rfl)) (by simp only [q05,q08];omega)];simp only [q00];rfl
theorem qx1 (hl:l.length≤1000) (hx:fx.length≤1000000) (hp:q8z self b bx l fx N) {q:Nat} {t:Tx} {n:Int} {ks r:F} (hs:Sits l q (.cons 6 t n ks r)) (hv:errT 6 t n ks false=0) (hN:ks.size≤N) (hr:lkK fx 6 ks=1):g_ch self (⟨b,l⟩,(q:Int),⟨bx,fx⟩,())=some (⟨false,(dT fx 6 t n ks).p.doc.flat⟩,()):=by
 obtain ⟨g1,g2,g3,g4⟩:=hs.node;have hc:rowOf fx 6 ks=none:=by
  cases h:rowOf fx 6 ks with
  |none=>rfl
  |some f=>unfold lkK at hr;rw [if_pos rfl,h] at hr;exact absurd hr (show ¬(2:Int)=1 by decide)
 have hk:=qca (b:=b) (bx:=bx) hl hx hs hv;rw [hc] at hk;have he:=q29 b l (by omega) hs;have hz:=qmf fx hv (szF fx ks _ _ (errT_ok.1 hv).2);have ho:=hs.small hl;have hf:=qsr hl hx hp hs hv hN;obtain ⟨kh,th,nh,ksh,rh,w1,w2,w3,w4,w5,w6⟩:=qif (fx:=fx) ks.size (Nat.le_refl _) hs hv;have w4:=w4 hr;have hm:=q9i (b:=b) (bx:=bx) hl hx w1 w2;have hq:(dT fx kh th nh ksh).p.lk=lkK fx kh ksh:=rfl;have e:=qdd hl hp (decide (lkK fx kh ksh=2)||decide (lkK fx kh ksh=3)) w1 w2 (by omega);have ht:=q0s (fx:=fx) hl w1 w2;have hu:=hz.2.1;have hg:=q9h (decide (lkK fx 6 ks≠1)) (z41 w6) (by omega);have hw:=q2g (dT fx 6 t n ks).args;have hn:cnd (eqI (lkK fx kh ksh) 2) (some true) (some (eqI (lkK fx kh ksh) 3))=some (decide (lkK fx kh ksh=2)||decide (lkK fx kh ksh=3)):=by
  rw [q24];by_cases c:lkK fx kh ksh=2
  ·rw [if_pos c,zw c];rfl
  ·rw [if_neg c,zu c,Bool.false_or];refine congrArg some ?_;by_cases c3:lkK fx kh ksh=3
   ·rw [c3];rfl
   ·rw [q18 c3,zu c3]
 have hj:(dT fx 6 t n ks).p.doc=appD (dT fx 6 t n ks).hd (dT fx 6 t n ks).args:=by obtain ⟨a,s,c,d,a',s',c',d',rfl,v1,v2⟩:=q31 hv;obtain ⟨e1,e2⟩:=qmp (t:=t) (n:=n) hr;rw [e1,e2];show docK fx 6 t n _ _=_;unfold docK;rw [if_neg (by decide),if_neg (by decide),if_neg (by decide),if_neg (by decide),if_neg (by decide),if_pos rfl,hc];rfl
 rw [hj,w5];rw [u_ch,q0d g1,q00,he];simp only [q00];rw [show eqI 6 1=false from rfl,q01,show eqI 6 2=false from rfl,q01,show eqI 6 3=false from rfl,q01,show eqI 6 4=false from rfl,q01,show eqI 6 5=false from rfl,q01,show eqI 6 7=false from rfl,q01];simp only [q00];rw [show eqI 6 8=false from rfl,q01,show eqI 6 9=false from rfl,q01,show eqI 6 11=false from rfl,q01,show eqI 6 12=false from rfl,q01,show eqI 6 10=false from rfl,q01];rw [hk];simp only [q00];rw [show (Option.isSome (none:Option Fix1))=false from rfl,q01];rw [hf];simp only [q00];rw [hm];simp only [q00];rw [hn];simp only [q00];rw [e];simp only [q00];rw [hg];simp only [q00];have hy:=qc6 (decide (lkK fx kh ksh=2)||decide (lkK fx kh ksh=3)) (dT fx kh th nh ksh).p.doc;rw [q2z false (.cons (d:=brkD (decide (lkK fx kh ksh=2)||decide (lkK fx kh ksh=3)) (dT fx kh th nh ksh).p.doc) rfl (q6r _ (q0w fx kh th nh ksh)) (.one (d:=q4l (dT fx 6 t n ks).args) rfl rfl)) (by simp only [q05,q08];omega)];simp only [q00];rfl
end
end Fn
end Ev

namespace Ev
open Go
namespace Fn
section
variable {b bx:Bool} {l:List ND} {fx:List Fix1} {self:Yf6} {N:Nat}
theorem qol (hl:l.length≤1000) (hg:GL l) (ht:TL 1000 l) (hp:q8z self b bx l fx N) {q:Nat} {a a':Int} {s s':Tx} {c c':Int} {d d' r:F} (hs:Sits l q (.cons a s c d (.cons a' s' c' d' r))) (v1:errT a s c d true=0) (v2:errT a' s' c' d' false=0) (p2:Sits l (q+1+d.size) (.cons a' s' c' d' r)) (hN:d'.size<N) (nb nr:Bool) (pre:List Int) (ho:pre.length≤100000) (R:List Y0) (es:List F) (hR:Ds R es) (hq:(catF es).size≤30000):∃nr' R',l1_ch self (⟨b,l⟩,⟨bx,fx⟩,⟨nb,pre++(F.cons a s c d (.cons a' s' c' d' r)).pos q⟩,(pre.length:Int),⟨nr,R⟩,())=some (Sum.inl (⟨b,l⟩,⟨bx,fx⟩,⟨nb,pre++(F.cons a s c d (.cons a' s' c' d' r)).pos q⟩,((pre.length+2:Nat):Int),⟨nr',R'⟩,()))∧Ds R' (es++[dLn,dTx ([124,32]++((dT fx a s c d).pt++[32,45,62])),dUnd (dT fx a' s' c' d').p.doc]):=by
 have hk:R.length≤30000:=by have:=q61 hR.2;have:=hR.len;omega
 have hf:=qgm (b:=b) hl hg ht hs v1;have hn:patT a s c (patL d)=(dT fx a s c d).pt:=rfl;have hm:=q8y a s c d (Sits.tl ht hs.first);have hv:=hs.small hl;have hd:=q0s (fx:=fx) hl p2 v2;have hu:=q1l hd;have k2:=hp _ a' s' c' d' r p2 v2 hN;have hc:=add1 (k:=pre.length) (by omega);have he:=add2 (k:=pre.length) (by omega);unfold l1_ch;simp only;have hj:lenI (pre++(F.cons a s c d (.cons a' s' c' d' r)).pos q)=((pre.length+(r.cnt+1+1):Nat):Int):=by show (((pre++(F.cons a s c d (.cons a' s' c' d' r)).pos q).length:Nat):Int)=_;rw [zg,F.pos_len];rfl
 rw [hj,hc,q0h,if_pos (by omega),q35];have a0:at? (pre++(F.cons a s c d (.cons a' s' c' d' r)).pos q) (pre.length:Int)=some (q:Int):=qqj pre _ _;have a1:at? (pre++(F.cons a s c d (.cons a' s' c' d' r)).pos q) ((pre.length+1:Nat):Int)=some ((q+1+d.size:Nat):Int):=qwu pre _ _ _;rw [a0];simp only [q00];rw [hf];simp only [q00];rw [q30 [124,32] (patT a s c (patL d)) (by show 2+_≤_;omega)];simp only [q00];rw [q15,q30 ([124,32]++patT a s c (patL d)) [32,45,62] (by rw [zg];show 2+_+3≤_;omega)];simp only [q00];rw [q15,q0y];simp only [q00];rw [a1];simp only [q00];rw [k2];simp only [q00];rw [q1n _ (d:=(dT fx a' s' c' d').p.doc) rfl (q0w fx a' s' c' d') (by omega)];simp only [q00];rw [show lenI R=((R.length:Nat):Int) from rfl,show lenI ([(⟨false,dLn.flat⟩:Y0),⟨false,(dTx ([124,32]++patT a s c (patL d)++[32,45,62])).flat⟩,⟨false,(dUnd (dT fx a' s' c' d').p.doc).flat⟩]:List Y0)=((3:Nat):Int) from rfl,q0o (by omega)];simp only [q00];rw [he];refine ⟨_,_,rfl,hR.app (.cons rfl rfl (.cons ?_ rfl (.one rfl rfl)))⟩;rw [←hn,zm]
theorem qss (nb nr:Bool) (pos:List Int) (he:pos.length≤200000) (R:List Y0) (es:List F) (hR:Ds R es) (hf:(catF es).size≤30000):l1_ch self (⟨b,l⟩,⟨bx,fx⟩,⟨nb,pos⟩,(pos.length:Int),⟨nr,R⟩,())=some (Sum.inr (⟨false,(dGrp (es++[dLn,dTx Pz.kEnd])).flat⟩,())):=by
 have hc:R.length≤30000:=by have:=q61 hR.2;have:=hR.len;omega
 unfold l1_ch;simp only;rw [show lenI pos=((pos.length:Nat):Int) from rfl,add1 (by omega),q0h,if_neg (by omega),q35];simp only [q00];rw [q0y];simp only [q00];rw [show lenI R=((R.length:Nat):Int) from rfl,show lenI ([(⟨false,dLn.flat⟩:Y0),⟨false,(dTx [101,110,100]).flat⟩]:List Y0)=((2:Nat):Int) from rfl,q0o (by omega)];simp only [q00];rw [show app R [(⟨false,dLn.flat⟩:Y0),⟨false,(dTx [101,110,100]).flat⟩]=R++[(⟨false,dLn.flat⟩:Y0),⟨false,(dTx [101,110,100]).flat⟩] from qqa _ _,q2z _ (hR.app (.cons (d:=dLn) rfl rfl (.one (d:=dTx Pz.kEnd) rfl rfl))) (by rw [q17];simp only [q05,q08,q0p,q11];omega)];simp only [q00]
theorem qig (hl:l.length≤1000) (hg:GL l) (ht:TL 1000 l) (hp:q8z self b bx l fx N) (nb:Bool):∀(e:Nat) (g:F) (q:Nat) (pre:List Int) (nr:Bool) (R:List Y0) (es:List F),g.cnt=2*e→Sits l q g→errF true false true g=0→g.size≤N→pre.length+g.cnt≤100000→Ds R es→(catF (es++q6k (dF fx g))).size≤30000→loopR (l1_ch self) (⟨b,l⟩,⟨bx,fx⟩,⟨nb,pre++g.pos q⟩,(pre.length:Int),⟨nr,R⟩,())=some (⟨false,(dGrp (es++(q6k (dF fx g)++[dLn,dTx Pz.kEnd]))).flat⟩,())
 |0,g,q,pre,nr,R,es,hc,_,_,_,hk,hR,hj=>by obtain rfl:=q9y (ks:=g) (by omega);have h0:q6k (dF fx .nil)=[]:=rfl;rw [h0,zt] at hj;have hm:pre++F.nil.pos q=pre:=zt pre;rw [hm,h0,List.nil_append];exact q0a (qss nb nr pre (by omega) R es hR hj)
 |e+1,g,q,pre,nr,R,es,hc,hs,hf,hN,hk,hR,hj=>by obtain ⟨a,s,c,d,a',s',c',d',r,rfl,hn,v1,v2,v3,q2,q3⟩:=qk1 hs hf hc;have hN:d.size+(d'.size+r.size+1)+1≤N:=hN;have hk:pre.length+(r.cnt+1+1)≤100000:=hk;have he:q6k (dF fx (.cons a s c d (.cons a' s' c' d' r)))=[dLn,dTx ([124,32]++((dT fx a s c d).pt++[32,45,62])),dUnd (dT fx a' s' c' d').p.doc]++q6k (dF fx r):=rfl;rw [he,←zm] at hj;obtain ⟨nr',R',st,ho⟩:=qol hl hg ht hp hs v1 v2 q2 (by omega) nb nr pre (by omega) R es hR (by rw [zm,q17] at hj;omega);have e2:=qig hl hg ht hp nb e r (q+1+d.size+1+d'.size) (pre++[(q:Int),((q+1+d.size:Nat):Int)]) nr' R' _ hn q3 v3 (by omega) (by rw [zg];show pre.length+2+_≤_;omega) ho hj;rw [q0e st,qok,show ((pre.length+2:Nat):Int)=(((pre++[(q:Int),((q+1+d.size:Nat):Int)]).length:Nat):Int) from by rw [zg];rfl,e2,he];simp only [zm]
theorem qst (hl:l.length≤1000) (hg:GL l) (ht:TL 1000 l) (hp:q8z self b bx l fx N) {q:Nat} {t:Tx} {n:Int} {ks r:F} (hs:Sits l q (.cons 10 t n ks r)) (hv:errT 10 t n ks false=0) (hN:ks.size≤N):g_ch self (⟨b,l⟩,(q:Int),⟨bx,fx⟩,())=some (⟨false,(dT fx 10 t n ks).p.doc.flat⟩,()):=by
 obtain ⟨g1,g2,g3,g4⟩:=hs.node;obtain ⟨hn,hf⟩:=errT_ok.1 hv;obtain ⟨_,_,hk,_,_,_⟩:=nodeE_zero.1 hn;obtain ⟨_,_,_,c10,_⟩:=qap hk;obtain ⟨c10,c11⟩:=c10 rfl;have hc:=q29 b l (by omega) hs;have hm:=hs.small hl;have hw:=q0s (fx:=fx) hl hs hv;obtain ⟨a,s,c,d,r0,rfl,hr⟩:=q2t (ks:=ks) (n:=ks.cnt-1) (by omega);have hC:(F.cons a s c d r0).cnt=r0.cnt+1:=rfl;have e10:eqI 10 10=true:=rfl;rw [e10] at hf;obtain ⟨v0,hf⟩:=q1s hf rfl;have hN:d.size+r0.size+1≤N:=hN;have hy:=r0.cnt_le;have hm:d.size+r0.size+1+1≤1000:=hm;obtain ⟨_,_,p0,_⟩:=g2.node;obtain ⟨e,he⟩:∃e,r0.cnt=2*(e+1):=⟨r0.cnt / 2-1,by omega⟩;obtain ⟨a1,s1,c1,d1,a2,s2,c2,d2,r1,rfl,hz,v1,v2,v3,q2,q3⟩:=qk1 p0 hf he;have hN:d.size+(d1.size+(d2.size+r1.size+1)+1)+1≤N:=hN;have k0:=hp _ a s c d _ g2 v0 (by omega);have k2:=hp _ a2 s2 c2 d2 _ q2 v2 (by omega);have d0:=q0s (fx:=fx) hl g2 v0;have u0:=q1l d0;have dd2:=q0s (fx:=fx) hl q2 v2;have u2:=q1l dd2;have ho:=qgm (b:=b) hl hg ht p0 v1;have hD:patT a1 s1 c1 (patL d1)=(dT fx a1 s1 c1 d1).pt:=rfl;have hx:=q8y a1 s1 c1 d1 (Sits.tl ht p0.first);have hq:=p0.small hl;have hj:(dT fx 10 t n (.cons a s c d (.cons a1 s1 c1 d1 (.cons a2 s2 c2 d2 r1)))).p.doc=dGrp ([dTx Pz.kMatch,dUnd (dT fx a s c d).p.doc,dLn,dTx Pz.kWith]++([q4l [dLn,dTx ((dT fx a1 s1 c1 d1).pt++[32,45,62]),dUnd (dT fx a2 s2 c2 d2).p.doc]]++(q6k (dF fx r1)++[dLn,dTx Pz.kEnd]))):=by have h0:(dT fx 10 t n (.cons a s c d (.cons a1 s1 c1 d1 (.cons a2 s2 c2 d2 r1)))).p.doc=docK fx 10 t n (.cons a s c d (.cons a1 s1 c1 d1 (.cons a2 s2 c2 d2 r1))) (dF fx (.cons a s c d (.cons a1 s1 c1 d1 (.cons a2 s2 c2 d2 r1)))):=rfl;rw [h0];unfold docK;rw [if_neg (by decide),if_neg (by decide),if_neg (by decide),if_neg (by decide),if_pos rfl];rfl
 have hu:(catF ([dTx Pz.kMatch,dUnd (dT fx a s c d).p.doc,dLn,dTx Pz.kWith]++[q4l [dLn,dTx ((dT fx a1 s1 c1 d1).pt++[32,45,62]),dUnd (dT fx a2 s2 c2 d2).p.doc]]++q6k (dF fx r1))).size≤30000:=by rw [hj] at hw;have:(catF ([dTx Pz.kMatch,dUnd (dT fx a s c d).p.doc,dLn,dTx Pz.kWith]++([q4l [dLn,dTx ((dT fx a1 s1 c1 d1).pt++[32,45,62]),dUnd (dT fx a2 s2 c2 d2).p.doc]]++(q6k (dF fx r1)++[dLn,dTx Pz.kEnd])))).size+0+1+0+1≤6000:=hw;rw [←zm,←zm,q17] at this;omega
 have hq:d1.size+1+(d2.size+r1.size+1)≤1000:=by have:d.size+(d1.size+(d2.size+r1.size+1)+1)+1+1≤1000:=hm;omega
 have at0:at? ((F.cons a s c d (.cons a1 s1 c1 d1 (.cons a2 s2 c2 d2 r1))).pos (q+1)) 0=some ((q+1:Nat):Int):=rfl;have at1:at? ((F.cons a s c d (.cons a1 s1 c1 d1 (.cons a2 s2 c2 d2 r1))).pos (q+1)) 1=some ((q+1+1+d.size:Nat):Int):=rfl;have at2:at? ((F.cons a s c d (.cons a1 s1 c1 d1 (.cons a2 s2 c2 d2 r1))).pos (q+1)) 2=some ((q+1+1+d.size+1+d1.size:Nat):Int):=rfl;rw [u_ch,q0d g1,q00,hc];simp only [q00];rw [show eqI 10 1=false from rfl,q01,show eqI 10 2=false from rfl,q01,show eqI 10 3=false from rfl,q01,show eqI 10 4=false from rfl,q01,show eqI 10 5=false from rfl,q01,show eqI 10 7=false from rfl,q01];simp only [q00];rw [show eqI 10 8=false from rfl,q01,show eqI 10 9=false from rfl,q01,show eqI 10 11=false from rfl,q01,show eqI 10 12=false from rfl,q01,show eqI 10 10=true from rfl,q06];rw [q0y];simp only [q00];rw [at0];simp only [q00];rw [k0];simp only [q00];rw [q1n _ (d:=(dT fx a s c d).p.doc) rfl (q0w fx a s c d) (by omega)];simp only [q00];rw [q35];simp only [q00];rw [q0y];simp only [q00];rw [at1];simp only [q00];rw [ho];simp only [q00];rw [q30 (patT a1 s1 c1 (patL d1)) [32,45,62] (by show _+3≤_;omega)];simp only [q00];rw [q15,q0y];simp only [q00];rw [at2];simp only [q00];rw [k2];simp only [q00];rw [q1n _ (d:=(dT fx a2 s2 c2 d2).p.doc) rfl (q0w fx a2 s2 c2 d2) (by omega)];simp only [q00];rw [q9h false (.cons (d:=dLn) rfl rfl (.cons (d:=dTx _) rfl rfl (.one (d:=dUnd _) rfl rfl))) (by simp only [q05,q08,q0p,q11];omega)];simp only [q00];rw [show lenI ([(⟨false,(dTx [109,97,116,99,104]).flat⟩:Y0),⟨false,(dUnd (dT fx a s c d).p.doc).flat⟩,⟨false,dLn.flat⟩,⟨false,(dTx [119,105,116,104]).flat⟩]:List Y0)=((4:Nat):Int) from rfl,
  show lenI ([(⟨false,(q4l [dLn,dTx (patT a1 s1 c1 (patL d1)++[32,45,62]),dUnd (dT fx a2 s2 c2 d2).p.doc]).flat⟩:Y0)]:List Y0)=((1:Nat):Int) from rfl,q0o (by decide)]
 simp only [q00];have hA:Ds [(⟨false,(dTx [109,97,116,99,104]).flat⟩:Y0),⟨false,(dUnd (dT fx a s c d).p.doc).flat⟩,⟨false,dLn.flat⟩,⟨false,(dTx [119,105,116,104]).flat⟩] [dTx Pz.kMatch,dUnd (dT fx a s c d).p.doc,dLn,dTx Pz.kWith]:=.cons rfl rfl (.cons rfl rfl (.cons rfl rfl (.one rfl rfl)));have hB:Ds ([(⟨false,(dTx [109,97,116,99,104]).flat⟩:Y0),⟨false,(dUnd (dT fx a s c d).p.doc).flat⟩,⟨false,dLn.flat⟩,⟨false,(dTx [119,105,116,104]).flat⟩]++[(⟨false,(q4l [dLn,dTx (patT a1 s1 c1 (patL d1)++[32,45,62]),dUnd (dT fx a2 s2 c2 d2).p.doc]).flat⟩:Y0)]) ([dTx Pz.kMatch,dUnd (dT fx a s c d).p.doc,dLn,dTx Pz.kWith]++[q4l [dLn,dTx ((dT fx a1 s1 c1 d1).pt++[32,45,62]),dUnd (dT fx a2 s2 c2 d2).p.doc]]):=hA.app (.one rfl rfl);have e2:=qig hl hg ht hp false e r1 (q+1+1+d.size+1+d1.size+1+d2.size) [((q+1:Nat):Int),((q+1+1+d.size:Nat):Int),((q+1+1+d.size+1+d1.size:Nat):Int)] false _ _ hz q3 v3 (by omega) (by show 3+_≤_;have:=r1.cnt_le;omega) hB hu;rw [hj];refine Eq.trans e2 ?_;simp only [zm]
theorem z4o (k:Int):ltI (q36 k) 0=false→q3o k=false→q4b k=false→eqI k 1=false→eqI k 2=false→eqI k 3=false→eqI k 6=false→eqI k 10=false→k=4:=by refine q9e (P:=fun k=>ltI (q36 k) 0=false→q3o k=false→q4b k=false→eqI k 1=false→eqI k 2=false→eqI k 3=false→eqI k 6=false→eqI k 10=false→k=4) (by decide) (by decide) (by decide) (by decide) (by decide) (by decide) (by decide) (by decide) (by decide) (by decide) (by decide) (by decide) (by decide) (by decide) (by decide) (by decide) ?_ k;intro a ha h;have e:∀c,c∈qq7→eqI a c=false:=ha;unfold q36 at h;rw [e 1 (by decide),e 6 (by decide),e 9 (by decide),e 10 (by decide),e 11 (by decide),e 21 (by decide),e 23 (by decide),e 3 (by decide),e 5 (by decide),e 7 (by decide),e 8 (by decide),e 12 (by decide),e 22 (by decide),e 4 (by decide),e 24 (by decide),e 2 (by decide)] at h;cases h
theorem qqn (hl:l.length≤1000) (hg:GL l) (ht:TL 1000 l) (hx:fx.length≤1000000) (hm:∀f,f∈fx→f.1.length≤1000):∀N:Nat,q8z (recN g_ch N) b bx l fx N
 |0=>fun _ _ _ _ _ _ _ _ h=>absurd h (Nat.not_lt_zero _)
 |N+1=>by
  have hp:=qqn hl hg ht hx hm N;intro q k t n ks r hs hv hN;have hN:ks.size≤N:=by omega
  show g_ch (recN g_ch N) (⟨b,l⟩,(q:Int),⟨bx,fx⟩,())=_;by_cases ho:q4b k=true
  ·exact qwz hl ht hp hs hv hN ho
  obtain ⟨g1,g2,g3,g4⟩:=hs.node;have hq:=(hg.at g1).1;have hz:t.length≤1000:=ht _ (zM g1);obtain ⟨hn,hf⟩:=errT_ok.1 hv;obtain ⟨hu,hy,hk,he,_,_⟩:=nodeE_zero.1 hn;have hj:(dT fx k t n ks).p.doc=docK fx k t n ks (dF fx ks):=rfl;by_cases k10:k=10
  ·subst k10;exact qst hl hg ht hp hs hv hN
  by_cases k6:k=6
  ·subst k6;cases hr:rowOf fx 6 ks with
   |some f=>exact qx0 hl hx hm hp hs hv hN hr
   |none=>exact qx1 hl hx hp hs hv hN (by unfold lkK;rw [if_pos rfl,hr])
  have no:∀c:Int,q4b c=true→k≠c:=fun c hc e=>ho (e▸hc);rw [u_ch,q0d g1,q00,q29 b l (by omega) hs];simp only [q00];rw [hj];unfold docK;rw [q24];by_cases k1:k=1
  ·subst k1;have hw:q44 n=true:=he;rw [if_pos rfl,if_pos rfl,qml hw];simp only [q00];rw [q0y];simp only [q00]
  rw [if_neg k1,if_neg k1,q24];by_cases k2:k=2
  ·subst k2;rw [if_pos rfl,if_pos rfl,qoi (s:=t) hq (by omega)];simp only [q00];rw [q0y];simp only [q00]
  rw [if_neg k2,if_neg k2,q24];by_cases k3:k=3
  ·subst k3;rw [if_pos rfl,if_pos rfl,qar (s:=t) (by omega)];simp only [q00];rw [q0y];simp only [q00]
  have k4:k=4:=z4o k hu hy (by cases h:q4b k with|true=>exact absurd h ho|false=>rfl) (q18 k1) (q18 k2) (q18 k3) (q18 k6) (q18 k10);subst k4;rw [if_neg k3,if_neg k3,if_neg ho,if_neg k10,if_neg k6,show eqI 4 4=true from rfl,q06,q0y];simp only [q00]
theorem qx2 (hl:l.length≤1000) (hg:GL l) (ht:TL 1000 l) (hx:fx.length≤1000000) (hc:∀f,f∈fx→f.1.length≤1000) {q:Nat} {k:Int} {t:Tx} {n:Int} {ks r:F} (hs:Sits l q (.cons k t n ks r)) (hv:errT k t n ks false=0):f_ch (⟨b,l⟩,(q:Int),⟨bx,fx⟩,())=some (⟨false,(dT fx k t n ks).p.doc.flat⟩,()):=q5r (ks.size+1) fun N hN=>qqn hl hg ht hx hc N q k t n ks r hs hv hN
end
end Fn
end Ev

namespace Ev
open Go
namespace Fn
theorem qx3 (b1 b2:Bool) (l:List ND) (hl:l.length≤1000000):∀(m k:Nat),k+m=l.length→loopR l1_bw (⟨b1,l⟩,⟨b2,l⟩,(k:Int),())=some (true,()):=by
 intro m
 induction m with
 |zero=>intro k hk;apply q0a;unfold l1_bw;simp only;rw [show lenI l=((l.length:Nat):Int) from rfl,q0h,if_neg (by omega)]
 |succ m ih=>
  intro k hk;have hc:k<l.length:=by omega
  have step:l1_bw (⟨b1,l⟩,⟨b2,l⟩,(k:Int),())=some (.inl (⟨b1,l⟩,⟨b2,l⟩,((k+1:Nat):Int),())):=by unfold l1_bw;simp only;rw [show lenI l=((l.length:Nat):Int) from rfl,q0h,if_pos (by omega),q0d (zh hc),q00,q00,q9b,q9b,q9b,qpy,add1 (by omega)];rfl
  rw [q0e step];exact ih (k+1) (by omega)
theorem qx4 (b1 b2:Bool) (l:List ND) (hl:l.length≤1000000):f_bw (⟨b1,l⟩,⟨b2,l⟩,())=some (true,()):=by rw [u_bw,q9b];exact qx3 b1 b2 l hl l.length 0 (zH _)
theorem qx5 (nb n:Bool) (t:List ND) (l:List Fix1):∀(m k:Nat),k+m=21→k≤l.length→(∀j (h:j<l.length),j<k→l[j].1.length≤20)→∃r,loopR q4p (⟨nb,t⟩,⟨n,l⟩,(k:Int),())=some (Sum.inr (r,()))∧(r=true→t.length≤100∧l.length≤20∧∀x,x∈l→x.1.length≤20):=by
 have fin:∀k:Nat,cnd (ltI (k:Int) (lenI l)) (some (ltI (k:Int) 21)) (some false)=some false→(∀j (h:j<l.length),j<k→l[j].1.length≤20)→(l.length≤20→l.length≤k)→
   ∃r,loopR q4p (⟨nb,t⟩,⟨n,l⟩,(k:Int),())=some (Sum.inr (r,()))∧(r=true→t.length≤100∧l.length≤20∧∀x,x∈l→x.1.length≤20):=by
  intro k h hj hk;refine ⟨leI (lenI t) 100&&leI (lenI l) 20,q0a ?_,fun e=>?_⟩
  ·unfold q4p;simp only;rw [h,q00,q01];cases leI (lenI t) 100<;>rfl
  ·rw [zd] at e;have h1:((t.length:Nat):Int)≤100:=zV e.1;have h2:((l.length:Nat):Int)≤20:=zV e.2;refine ⟨by omega,by omega,fun x hx=>?_⟩;obtain ⟨j,he,rfl⟩:=jc.1 hx;exact hj j he (by have:=hk (by omega);omega)
 intro m
 induction m with
 |zero=>intro k hk hl hj;have e:ltI (k:Int) 21=false:=zu (by omega);exact fin k (by rw [e];cases ltI (k:Int) (lenI l)<;>rfl) hj (fun h=>by omega)
 |succ m ih=>
  intro k hk hl hj;have e:ltI (k:Int) 21=true:=zw (by omega);by_cases hg:k<l.length
  ·have hc:ltI (k:Int) (lenI l)=true:=zw (show (k:Int)<((l.length:Nat):Int) by omega);have step:q4p (⟨nb,t⟩,⟨n,l⟩,(k:Int),())=if 20<l[k].1.length then some (.inr (.inr (false,()))) else some (.inl (⟨nb,t⟩,⟨n,l⟩,((k+1:Nat):Int),())):=by
    unfold q4p;simp only;rw [hc,q06,e,q00,q06,q0d (zh hg),q00,q0h,add1 (by omega)];by_cases h:20<l[k].1.length
    ·rw [if_pos h,if_pos (show (20:Int)<lenI l[k].1 by show (20:Int)<((l[k].1.length:Nat):Int);omega)]
    ·rw [if_neg h,if_neg (show ¬(20:Int)<lenI l[k].1 by show ¬(20:Int)<((l[k].1.length:Nat):Int);omega)]
   by_cases h:20<l[k].1.length
   ·rw [if_pos h] at step;exact ⟨false,q0a step,fun h=>by cases h⟩
   ·rw [if_neg h] at step;rw [q0e step];refine ih (k+1) (by omega) (by omega) fun j he hm=>?_;by_cases hf:j=k
    ·subst hf;omega
    ·exact hj j he (by omega)
  ·have hc:ltI (k:Int) (lenI l)=false:=zu (show ¬(k:Int)<((l.length:Nat):Int) by omega);exact fin k (by rw [hc];rfl) hj (fun _=>by omega)
theorem qx6 (nb n:Bool) (t:List ND) (l:List Fix1):∀(m k:Nat),k+m=101→k≤t.length→(∀j (h:j<t.length),j<k→t[j].2.1.length≤60)→∃r,loopR q4q (⟨nb,t⟩,⟨n,l⟩,(k:Int),())=some (r,())∧(r=true→t.length≤100∧TL 60 t∧l.length≤20∧∀x,x∈l→x.1.length≤20):=by
 have fin:∀k:Nat,cnd (ltI (k:Int) (lenI t)) (some (ltI (k:Int) 101)) (some false)=some false→(∀j (h:j<t.length),j<k→t[j].2.1.length≤60)→(t.length≤100→t.length≤k)→
   ∃r,loopR q4q (⟨nb,t⟩,⟨n,l⟩,(k:Int),())=some (r,())∧(r=true→t.length≤100∧TL 60 t∧l.length≤20∧∀x,x∈l→x.1.length≤20):=by
  intro k h hj hk;obtain ⟨r,e1,e2⟩:=qx5 nb n t l 21 0 rfl (Nat.zero_le _) fun j _ h=>absurd h (by omega);refine ⟨r,q0a ?_,fun e=>?_⟩
  ·unfold q4q;simp only;rw [h,q00,q01];exact e1
  ·obtain ⟨h1,h2,h3⟩:=e2 e;refine ⟨h1,fun x hx=>?_,h2,h3⟩;obtain ⟨j,he,rfl⟩:=jc.1 hx;exact hj j he (by have:=hk h1;omega)
 intro m
 induction m with
 |zero=>intro k hk hl hj;have e:ltI (k:Int) 101=false:=zu (by omega);exact fin k (by rw [e];cases ltI (k:Int) (lenI t)<;>rfl) hj (fun h=>by omega)
 |succ m ih=>
  intro k hk hl hj;have e:ltI (k:Int) 101=true:=zw (by omega);by_cases hg:k<t.length
  ·have hc:ltI (k:Int) (lenI t)=true:=zw (show (k:Int)<((t.length:Nat):Int) by omega);have step:q4q (⟨nb,t⟩,⟨n,l⟩,(k:Int),())=if 60<t[k].2.1.length then some (.inr (false,())) else some (.inl (⟨nb,t⟩,⟨n,l⟩,((k+1:Nat):Int),())):=by
    unfold q4q;simp only;rw [hc,q06,e,q00,q06,q0d (zh hg),q00,q0h,add1 (by omega)];by_cases h:60<t[k].2.1.length
    ·rw [if_pos h,if_pos (show (60:Int)<lenI t[k].2.1 by show (60:Int)<((t[k].2.1.length:Nat):Int);omega)]
    ·rw [if_neg h,if_neg (show ¬(60:Int)<lenI t[k].2.1 by show ¬(60:Int)<((t[k].2.1.length:Nat):Int);omega)]
   by_cases h:60<t[k].2.1.length
   ·rw [if_pos h] at step;exact ⟨false,q0a step,fun h=>by cases h⟩
   ·rw [if_neg h] at step;rw [q0e step];refine ih (k+1) (by omega) (by omega) fun j he hm=>?_;by_cases hf:j=k
    ·subst hf;omega
    ·exact hj j he (by omega)
  ·have hc:ltI (k:Int) (lenI t)=false:=zu (show ¬(k:Int)<((t.length:Nat):Int) by omega);exact fin k (by rw [hc];rfl) hj (fun _=>by omega)
theorem qzs (nb n:Bool) (t:List ND) (l:List Fix1):∃r,q3k (⟨nb,t⟩,⟨n,l⟩,())=some (r,())∧(r=true→t.length≤100∧TL 60 t∧l.length≤20∧∀x,x∈l→x.1.length≤20):=by rw [qo2];exact qx6 nb n t l 101 0 rfl (Nat.zero_le _) fun j _ h=>absurd h (by omega)
theorem qqo (n:Bool) (l:List ND) (h:l.length≤100):q2y (⟨n,l⟩,())=some (⟨false,l⟩,()):=by rw [qo3,qlv (by show ((0:Nat):Int)+((l.length:Nat):Int)≤_;omega),q00];rfl
theorem qsu (n:Bool) (l:List Fix1) (h:l.length≤20):q3y (⟨n,l⟩,())=some (⟨false,l⟩,()):=by rw [qjp,qlv (by show ((0:Nat):Int)+((l.length:Nat):Int)≤_;omega),q00];rfl
theorem qih (nb n:Bool) (t:List ND) (l:List Fix1) (X Y:Option (Bool×Unit)):∃r:Bool,(r=true→t.length≤100∧TL 60 t∧l.length≤20∧∀x,x∈l→x.1.length≤20)∧bnd (q16 ()) (fun x0=>bnd (cnd (notB x0.1) (some true) (bnd (q3k (⟨nb,t⟩,⟨n,l⟩,())) (fun x1=>some (notB x1.1)))) (fun x2=>cnd x2 X Y))=if r=true then Y else X:=by
 obtain ⟨r,h1,h2⟩:=qzs nb n t l;rw [qq3,q00];simp only;rw [show notB true=false from rfl,q01,h1];simp only [q00];cases r with
 |true=>exact ⟨true,fun _=>h2 rfl,rfl⟩
 |false=>exact ⟨false,(fun h=>by cases h),rfl⟩
theorem z4p {l:List Fix1} (hg:∀x,x∈l→gF x) (h1:l.length≤20) (h2:∀x,x∈l→x.1.length≤20):gL l:=⟨hg,fun x hx=>by have:=h2 x hx;omega,by omega⟩
theorem qx7:bnd (q16 ()) (fun x4=>some (x4.1,()))=some (true,()):=by rw [qq3];rfl
theorem qqp {k:Int} {s:Tx} {n:Int} {ks:F} {pat:Bool} (h:chkT k s n ks pat=0):errT k s n ks pat=0:=by
 unfold chkT at h;cases h1:ltI 100 ((ks.dep+1:Nat):Int) with
 |true=>rw [h1] at h;cases h
 |false=>
  rw [h1] at h;by_cases h2:errT k s n ks pat=0
  ·exact h2
  ·rw [q18 h2] at h;exact absurd h h2
theorem qsv (b b2 n n2:Bool) (t:List ND) (fx:List Fix1) (ht:t.length≤100) (hg:GL t) (hf:gL fx):∃c,f_ck (⟨b,t⟩,⟨n,fx⟩,())=some (c,())∧((c≠0∧f_ct (⟨b2,t⟩,⟨n2,fx⟩,())=some (⟨true,[]⟩,c,()))∨(c=0∧∃k s m ks,t=(tr k s m ks).flat∧errT k s m ks false=0∧f_e0 (⟨b2,t⟩,())=some (0,())∧f_a0 (⟨n2,fx⟩,())=some (0,())∧chkT k s m ks false=0∧qga fx=0)):=by
 have hs:∃c,f_c7 (⟨b,t⟩,false,())=some (c,())∧f_e4 (⟨b2,t⟩,false,())=some (c,())∧(c=0→∃k s m ks,t=(tr k s m ks).flat∧chkT k s m ks false=0):=by
  rcases qvw t with h|⟨k,s,m,ks,h⟩
  ·exact ⟨60,qgg b t (by omega) false h,qi6 b2 t (by omega) false h,fun e=>by cases e⟩
  ·subst h;have hl:ks.size+1≤4000:=by have:(tr k s m ks).flat.length=ks.size+1:=(tr k s m ks).len;omega
   exact ⟨chkT k s m ks false,qgf b k s m ks false hl hg,qi5 b2 k s m ks false hl hg,fun e=>⟨k,s,m,ks,rfl,e⟩⟩
 obtain ⟨c,h1,h2,h3⟩:=hs;by_cases hc:c=0
 ·subst hc;obtain ⟨k,s,m,ks,e,h⟩:=h3 rfl;have he:f_e0 (⟨b2,t⟩,())=some (0,()):=by rw [u_e0,h2];rfl
  refine ⟨qga fx,?_,?_⟩
  ·rw [u_ck,h1,q00];show cnd false _ _=_;rw [q01,qob n hf];rfl
  ·by_cases hc:qga fx=0
   ·exact .inr ⟨hc,k,s,m,ks,e,qqp h,he,by rw [qi7 n2 hf,hc],h,hc⟩
   ·refine .inl ⟨hc,?_⟩;rw [u_ct,he,q00];show cnd false _ _=_;rw [q01,qi7 n2 hf,q00];simp only;rw [q18 hc];rfl
 ·refine ⟨c,?_,.inl ⟨hc,?_⟩⟩
  ·rw [u_ck,h1,q00];simp only;rw [q18 hc];rfl
  ·rw [u_ct,u_e0,h2,q00,q00];simp only;rw [q18 hc];rfl
theorem law_Docs (nb:Bool) (t:List ND) (hg:∀x,x∈t→qm5 x∨1000000<x.2.1.length) (n:Bool) (l:List Fix1) (hf:∀x,x∈l→gF x):f_law08_ShowDocs (⟨nb,t⟩,⟨n,l⟩,())=some (true,()):=by
 rw [qe3,qx7];obtain ⟨r,h1,h2⟩:=qih nb n t l (some (true,())) (bnd (q2y (⟨nb,t⟩,())) (fun x4=>bnd (q3y (⟨n,l⟩,())) (fun x5=>bnd (f_ct (x4.1,x5.1,())) (fun x6=>bnd (f_ck (⟨nb,t⟩,⟨n,l⟩,())) (fun x7=>cnd (notB (eqI x7.1 0)) (bnd (cnd (eqI (lenI x6.1.l) 0) (some (eqI x6.2.1 x7.1)) (some false)) (fun x8=>some (x8,()))) (bnd (cnd (eqI x6.2.1 0) (bnd (f_ch (⟨nb,t⟩,0,⟨n,l⟩,())) (fun x9=>bnd (f_bw (x6.1,x9.1,())) (fun x10=>some x10.1))) (some false)) (fun x11=>some (x11,()))))))));refine Eq.trans h2 ?_;cases r with
 |false=>rfl
 |true=>
  obtain ⟨h3,h4,h5,h6⟩:=h1 rfl;have hG:GL t:=fun x hx=>(hg x hx).elim id fun h=>by have:=h4 x hx;omega
  have hj:=z4p hf h5 h6;rw [if_pos rfl,qqo nb t h3,q00,qsu n l h5,q00];simp only;obtain ⟨c,e1,e2⟩:=qsv nb false n false t l h3 hG hj;rcases e2 with ⟨hc,e2⟩|⟨hc,k,s,m,ks,e,hv,e3,e4,_,_⟩
  ·rw [e2,e1];simp only [q00];rw [q18 hc,q9b];rfl
  ·subst hc;subst e;have hs:=q8w k s m ks;have hd:=qwy (b:=false) (bx:=false) (fx:=l) (q:=0) (by omega) hG (fun x hx=>by have:=h4 x hx;omega) (by omega) (fun f hf=>by have:=h6 f hf;omega) hs hv;have he:=qx2 (b:=nb) (bx:=n) (fx:=l) (q:=0) (by omega) hG (fun x hx=>by have:=h4 x hx;omega) (by omega) (fun f hf=>by have:=h6 f hf;omega) hs hv;have hz:=q0s (fx:=l) (by omega) hs hv;have hd:f_cy (0,⟨false,(tr k s m ks).flat⟩,⟨false,l⟩,())=_:=hd;have he:f_ch (⟨nb,(tr k s m ks).flat⟩,0,⟨n,l⟩,())=_:=he;rw [u_ct,e3,q00];show bnd (cnd false _ _) _=_;rw [q01,e4,q00];show bnd (cnd false _ _) _=_;rw [q01,hd];simp only [q00];rw [e1];simp only [q00];rw [show eqI 0 0=true from rfl,show notB true=false from rfl,q01,q06,he];simp only [q00];rw [qx4 false false _ (by rw [F.len];omega)];rfl
theorem law_Pats (nb:Bool) (t:List ND) (hg:∀x,x∈t→qm5 x∨1000000<x.2.1.length):f_law08_ShowPats (⟨nb,t⟩,())=some (true,()):=by
 rw [qe4,qx7];obtain ⟨r,h1,h2⟩:=qih nb true t [] (some (true,())) (bnd (q2y (⟨nb,t⟩,())) (fun x4=>bnd (f_cv (x4.1,())) (fun x5=>bnd (f_c7 (⟨nb,t⟩,true,())) (fun x6=>cnd (notB (eqI x6.1 0)) (bnd (cnd (eqS x5.1 ([]:Y2)) (some (eqI x5.2.1 x6.1)) (some false)) (fun x7=>some (x7,()))) (bnd (cnd (eqI x5.2.1 0) (bnd (f_cj (⟨nb,t⟩,0,())) (fun x8=>some (eqS x5.1 x8.1))) (some false)) (fun x9=>some (x9,())))))));refine Eq.trans h2 ?_;cases r with
 |false=>rfl
 |true=>
  obtain ⟨h3,h4,_,_⟩:=h1 rfl;have hG:GL t:=fun x hx=>(hg x hx).elim id fun h=>by have:=h4 x hx;omega
  rw [if_pos rfl,qqo nb t h3,q00];simp only;rcases qvw t with h|⟨k,s,m,ks,h⟩
  ·rw [u_cv,u_e3,qi6 false t (by omega) true h,qgg nb t (by omega) true h];rfl
  ·subst h;have hf:(tr k s m ks).flat.length=ks.size+1:=(tr k s m ks).len;rw [u_cv,u_e3,qi5 false k s m ks true (by omega) hG,qgf nb k s m ks true (by omega) hG];simp only [q00];by_cases hc:chkT k s m ks true=0
   ·have hv:=qqp hc;have hs:=q8w k s m ks;have hp:=qmm (b:=false) (q:=0) (by omega) hG (fun x hx=>by have:=h4 x hx;omega) false hs hv;have he:=qgm (b:=nb) (q:=0) (by omega) hG (fun x hx=>by have:=h4 x hx;omega) hs hv;have hp:f_d3 (⟨false,(tr k s m ks).flat⟩,0,false,())=_:=hp;have he:f_cj (⟨nb,(tr k s m ks).flat⟩,0,())=_:=he;rw [hc,show eqI 0 0=true from rfl,show notB true=false from rfl,q01,hp];simp only [q00,cond_false];rw [show eqI 0 0=true from rfl,q06,he];simp only [q00];rw [qpy];rfl
   ·rw [q18 hc,show notB false=true from rfl,q06];simp only [q00];rw [q9b];rfl
end Fn
end Ev

namespace Ev
open Go
namespace Fn
theorem z2n {s:List Int} (h:good .str s):∀b,b∈s→0≤b∧b≤255:=fun b hb=>by have:=h.2 b hb;omega
theorem good_gF {x:Fix1} (h:good (.st (.pair .str (.pair (.int .i64) (.int .i64)))) x):gF x:=by obtain ⟨⟨h2,h3⟩,h1,h4⟩:=h;exact ⟨fun b hb=>by have:=h3 b hb;omega,h2,inK_i64.1 h1,inK_i64.1 h4⟩
theorem good_nd {x:ND} (h:good (.st (.pair (.int .i64) (.pair .str (.pair (.int .i64) (.int .i64))))) x):qm5 x∨1000000<x.2.1.length:=by
 obtain ⟨_,h2,h3,_⟩:=h;by_cases hl:x.2.1.length≤1000000
 ·exact .inl ⟨z2n h2,hl,inK_i64.1 h3⟩
 ·exact .inr (by omega)
end Fn
end Ev

