/- Layers 2 and 6 in plain words: names, trees, patterns. -/
import Derived.Test.YtdgmbemagoakjaaGreatDoorFnB
import Derived.Test.YtdgmbemagoakjaaGreatDoorAw
import Derived.Laws.RangeAny
namespace Ev
open Go
namespace Fn
def yV:List (List Int):=[[108,101,116],[114,101,99],[105,110],[102,117,110],[105,102],[116,104,101,110],[101,108,115,101],[109,97,116,99,104],[119,105,116,104],[101,110,100],[114,97,105,115,101],[116,114,121],[111,112,101,110],[116,121,112,101],[111,102],[105,110,102,105,120,108],[105,110,102,105,120,114],[105,110,102,105,120],[45,62],[61],[124],[40],[41],[95],[59,59]]
theorem z3i:JL ()=some (⟨false,yV⟩,()):=by kernel_rfl
variable{α:Type}{pat:Bool}{b c kd n x:Int}{t:List Int}{i k:Nat}
theorem aG(h:k<=1000000000):bc .i64 (k:Int) 1=((k+1:Nat):Int):=by rw[pG om om];omega
theorem lX{l:List α}(h:k<l.length):l.drop k=l[k]::l.drop (k+1):=Zg h
theorem oL{l:List α}(h:i<l.length):cj l (i:Int)=some i:=by unfold cj;rw[zu om];rfl
theorem w8{l:List α}{x:α}(h:l[i]?=some x):nth l i=some x:=h
theorem FK{l:List α}(h:k<=l.length):bS l 0 (k:Int)=some (l.take k):=by unfold bS;rw[zu om];rfl
theorem qqc(s:List Int)(n:Bool)(l:List (List Int))(hl:l.length<=1000000):∀(m k:Nat),k+m=l.length->∃r,aI lG (⟨n,l⟩,s,(l.length:Int),(k:Int),())=some (r,())/\(0<=r↔s∈l.drop k):=by
 intro m
 induction m with
 |zero=>intro k hk;refine⟨-1,bG ?_,by rw[zR om];simp⟩;rw[W3];simp only;rw[bf,zj om]
 |succ m ih=>
  intro k hk;have hc:k<l.length:=om
  rw[lX hc];have step:lG (⟨n,l⟩,s,(l.length:Int),(k:Int),())=if s=l[k] then some (.inr ((k:Int),())) else some (.inl (⟨n,l⟩,s,(l.length:Int),((k+1:Nat):Int),())):=by rw[W3];simp only;rw[bf,zu om,bJ (zh hc),ae,DI,aG om]
  by_cases h:s=l[k]
  ·rw[zu h] at step;exact⟨k,bG step,by simp[h,-List.getElem_cons_drop]⟩
  ·rw[zj h] at step;have⟨r,h1,h2⟩:=ih (k+1) om;exact⟨r,by rw[cY step,h1],by rw[h2];simp[h,-List.getElem_cons_drop]⟩
theorem W7(s:List Int):sA (s,())=some (decide (s∈yV),()):=by have⟨r,h1,h2⟩:=qqc s false yV dc 25 0 dc;rw[aao,z3i,ae,Su,Ss];have h1:aI lG (⟨false,yV⟩,s,aa yV,0,())=some (r,()):=h1;simp[h1,ae];have:cD 0 r=decide (s∈yV):=jz.2 (by rw[h2];rfl);rw[this]
def qG:List Int:=[33,36,37,38,42,43,45,47,58,60,61,62,63,64,94,124]
theorem qxs(c:Int):∀l:List Int,(0<=qh c l↔c∈l)
 |[]=>by simp[qh]
 |b::r=>by
  have ih:=qxs c r;unfold qh
  grind
theorem qnl(c:Int):qu (c,())=some (decide (c∈qG),()):=by rw[aar,Ml,ae];have:cD 0 (qh c qG)=decide (c∈qG):=jz.2 (qxs c qG);show some (cD 0 (qh c qG),())=_;rw[this]
def qH(s:List Int):Bool:=!s.isEmpty&&s.all fun b=>decide (b∈qG)
def bX(s:List Int):Bool:=qH s&&!decide (s∈yV)
theorem z74(h:b∈qG):0<=b/\b<=126:=by unfold qG at h;simp[List.mem_cons,List.not_mem_nil,or_false] at h;omega
theorem SS{s:List Int}(hs:∀b,b∈s->0<=b/\b<=255)(hk:k<s.length):(s[k]<=127->fh s (k:Int)=s[k]/\gP s (k:Int)=((k+1:Nat):Int))/\(127<s[k]->126<fh s (k:Int)):=by
 have hb:=hs _ (jx hk);have he:(mM s).size=s.length:=by show(s.map _).toArray.size=_;simp
 have hc:k<(mM s).size:=om
 have hg:(((mM s)[k]'hc).toNat:Int)=s[k]:=by
  have:(mM s)[k]'hc=UInt8.ofNat s[k].toNat:=by
   have h1:(mM s)[k]'hc=((s.map fun b=>UInt8.ofNat b.toNat).toArray)[k]'(by simp_all):=rfl
   grind
  rw[this,Zx];omega
 unfold fh gP;rw[jq];constructor
 ·intro h;have:=decode_ascii (mM s) k hc om
  grind
 ·intro h;have:=(decode_high (mM s) k hc om).1;omega
theorem zcu{s:List Int}(hs:∀b,b∈s->0<=b/\b<=255):∀(m k:Nat),k+m=s.length->aI sO (s,s,(k:Int),())=some ((s.drop k).all (fun b=>decide (b∈qG))&&!s.isEmpty,()):=by
 intro m
 induction m with
 |zero=>intro k hk;refine bG ?_;rw[qfi];simp only;rw[bf,zj (by unfold aa;omega),zR om];cases s<;>rfl
 |succ m ih=>
  intro k hk;have hc:k<s.length:=om
  rw[lX hc];have⟨h1,h2⟩:=SS hs hc;have c0:aZ (k:Int) (aa s)=true:=zw (by unfold aa;omega);have hb:=hs _ (jx hc);have step:sO (s,s,(k:Int),())=if s[k]∈qG then some (.inl (s,s,((k+1:Nat):Int),())) else some (.inr (false,())):=by
   rw[qfi];simp[c0,aM,ae];by_cases h:s[k]<=126
   ·have⟨e1,e2⟩:=h1 om;rw[e1,e2];have c1:aZ 126 s[k]=false:=zt om;have c2:fR .u8 s[k]=s[k]:=by rw[Wq];omega
    simp[c1,aJ,c2,qnl,ae,ai];by_cases hm:s[k]∈qG
    ·simp[hm,aJ]
    ·simp[hm,aM]
   ·have hm:s[k]∉qG:=fun e=>by have:=z74 e;omega
    rw[zj hm];have c1:aZ 126 (fh s (k:Int))=true:=by refine zw ?_;omega
    simp[c1,aM,ae]
  by_cases hm:s[k]∈qG
  ·rw[zu hm] at step;rw[cY step]
   grind
  ·rw[zj hm] at step;rw[bG step]
   grind
theorem zcv{s:List Int}(hs:∀b,b∈s->0<=b/\b<=255):EY (s,())=some (qH s,()):=by
 rw[aas];have:=zcu hs s.length 0 om
 rwa [jh,Bool.and_comm] at this
theorem W8(s:List Int)(hs:∀b,b∈s->0<=b/\b<=255):mq ((5,s,0,0),())=some (bX s,()):=by rw[Mm,zcv hs,W7];unfold bX;cases qH s<;>rfl
def DR(c:Int):Bool:=cD 97 c&&cD c 122
def w9(c:Int):Bool:=cD 65 c&&cD c 90
def SU(c:Int):Bool:=cD 48 c&&cD c 57
def fy(c:Int):Bool:=DR c||w9 c||SU c||ah c 95||ah c 39
theorem SV(a b:Bool):(aL a (some b) (some false):Option Bool)=some (a&&b):=by cases a<;>rfl
theorem zgs(a b:Bool):(aL a (some true) (some b):Option Bool)=some (a||b):=by cases a<;>rfl
theorem qjl(c:Int):vp (c,())=some (DR c,()):=by rw[aaj,SV];rfl
theorem qjm(c:Int):vq (c,())=some (w9 c,()):=by rw[aak,SV];rfl
theorem qjn(c:Int):sx (c,())=some (SU c,()):=by rw[aal,SV];rfl
theorem qqd(c:Int):sy (c,())=some (fy c,()):=by rw[aam,qjl,qjm,qjn];simp[ae,zgs];rfl
theorem z75(h:fy c=true):0<=c/\c<=126:=by unfold fy DR w9 SU cD at h;simp[Bool.or_eq_true,Bool.and_eq_true,decide_eq_true_eq,cQ] at h;omega
theorem z76{s:List Int}(hs:∀b,b∈s->0<=b/\b<=255):∀(m k:Nat),k+m=s.length->aI sM (s,s,(k:Int),())=some ((s.drop k).all fy&&!s.isEmpty,()):=by
 intro m
 induction m with
 |zero=>intro k hk;refine bG ?_;rw[qnk];simp only;rw[bf,zj (by unfold aa;omega),zR om];cases s<;>rfl
 |succ m ih=>
  intro k hk;have hc:k<s.length:=om
  rw[lX hc];have⟨h1,h2⟩:=SS hs hc;have c0:aZ (k:Int) (aa s)=true:=zw (by unfold aa;omega);have hb:=hs _ (jx hc);have step:sM (s,s,(k:Int),())=if fy s[k]=true then some (.inl (s,s,((k+1:Nat):Int),())) else some (.inr (false,())):=by
   rw[qnk];simp[c0,aM,ae];by_cases h:s[k]<=126
   ·have⟨e1,e2⟩:=h1 om;rw[e1,e2];have c1:aZ 126 s[k]=false:=zt om;have c2:fR .u8 s[k]=s[k]:=by rw[Wq];omega
    simp[c1,aJ,c2,qqd,ae,ai];cases fy s[k]<;>rfl
   ·have hm:¬fy s[k]=true:=fun e=>by have:=z75 e;omega
    rw[zj hm];have c1:aZ 126 (fh s (k:Int))=true:=by refine zw ?_;omega
    simp only[c1,aM,ae]
  rw[Jh];cases hm:fy s[k] with
  |true=>rw[hm] at step;rw[cY step,ih (k+1) om,jV]
  |false=>rw[hm] at step;rw[bG step,ZJ,ZJ]
theorem qv6{s:List Int}(hs:∀b,b∈s->0<=b/\b<=255):BN (s,())=some (s.all fy&&!s.isEmpty,()):=by rw[aan];exact z76 hs s.length 0 om
def acU:List Int->Nat
 |[]=>0
 |b::r=>bif fy b then acU r+1 else 0
def z77(p:Int->Bool):List Int->Bool
 |[]=>false
 |b::_=>p b
def AS(p:Int->Bool)(s:List Int):Bool:=s.all fy&&!s.isEmpty&&z77 p s&&!decide (s∈yV)
theorem z78(s:List Int)(a2 a3:Int)(hs:∀b,b∈s->0<=b/\b<=255):BP ((1,s,a2,a3),())=some (AS DR s,()):=by
 rw[aap,qv6 hs,W7];cases s with
 |nil=>rfl
 |cons b r=>have h0:fL (b::r) 0=some b:=rfl;rw[h0];simp only[ae,qjl];show _=some (_&&DR b&&_,());cases List.all (b::r) fy<;>cases DR b<;>cases decide (b::r∈yV)<;>rfl
theorem z79(s:List Int)(a2 a3:Int)(hs:∀b,b∈s->0<=b/\b<=255):BQ ((2,s,a2,a3),())=some (AS w9 s,()):=by
 rw[aaq,qv6 hs,W7];cases s with
 |nil=>rfl
 |cons b r=>have h0:fL (b::r) 0=some b:=rfl;rw[h0];simp only[ae,qjm];show _=some (_&&w9 b&&_,());cases List.all (b::r) fy<;>cases w9 b<;>cases decide (b::r∈yV)<;>rfl
theorem z3j(s:List Int)(hs:∀b,b∈s->0<=b/\b<=255):mq ((1,s,0,0),())=some (AS DR s,()):=by rw[Mm,z78 s 0 0 hs];rfl
theorem qjo(s:List Int)(hs:∀b,b∈s->0<=b/\b<=255):mq ((2,s,0,0),())=some (AS w9 s,()):=by rw[Mm,z79 s 0 0 hs];rfl
def aS(s:List Int):Bool:=AS DR s||bX s
def fb(s:List Int):Bool:=AS w9 s
theorem qv7{s:List Int}(hs:∀b,b∈s->0<=b/\b<=255):ym (s,())=some (aS s,()):=by rw[aaG,z3j s hs,W8 s hs];simp[ae,zgs];rfl
theorem z0d{s:List Int}(hs:∀b,b∈s->0<=b/\b<=255):yl (s,())=some (fb s,()):=by rw[aaB,qjo s hs];rfl
abbrev ND:=Int×List Int×Int×Int
inductive F where
 |nil:F
 |cons:Int->List Int->Int->F->F->F
def F.aq:F->Nat
 |.nil=>0
 |.cons _ _ _ _ r=>r.aq+1
def F.flat:F->List ND
 |.nil=>[]
 |.cons k t n ks r=>(k,t,n,(ks.aq:Int))::(ks.flat++r.flat)
def F.size:F->Nat
 |.nil=>0
 |.cons _ _ _ ks r=>ks.size+r.size+1
def F.dep:F->Nat
 |.nil=>0
 |.cons _ _ _ ks r=>max (ks.dep+1) r.dep
def F.app:F->F->F
 |.nil,g=>g
 |.cons k t n ks r,g=>.cons k t n ks (r.app g)
abbrev tr(k:Int)(t:List Int)(n:Int)(ks:F):F:=.cons k t n ks .nil
theorem F.len:∀f:F,f.flat.length=f.size
 |.nil=>rfl
 |.cons k t n ks r=>by show(_::(ks.flat++r.flat)).length=ks.size+r.size+1;rw[zn,zd,ks.len,r.len]
theorem F.eJ:∀f:F,f.aq<=f.size
 |.nil=>zm _
 |.cons k t n ks r=>by have:=r.eJ;show r.aq+1<=ks.size+r.size+1;omega
theorem F.qI:∀f:F,f.dep<=f.size
 |.nil=>zm _
 |.cons k t n ks r=>by have h1:=r.qI;have h2:=ks.qI;show max (ks.dep+1) r.dep<=ks.size+r.size+1;omega
theorem yW(k:Int)(t:List Int)(n:Int)(ks:F):(tr k t n ks).flat=(k,t,n,(ks.aq:Int))::ks.flat:=by show _::(ks.flat++[])=_;rw[zv]
theorem CH(k:Int)(t:List Int)(n:Int)(ks:F):(tr k t n ks).size=ks.size+1:=rfl
def skip(N:Nat):List ND->Nat->Option (List ND)
 |l,0=>some l
 |[],_+1=>none
 |d::r,c+1=>if 0<=d.2.2.2/\d.2.2.2<=(N:Int) then skip N r (c+d.2.2.2.toNat) else none
theorem OJ(N:Nat)(l:List ND):skip N l 0=some l:=by cases l<;>rfl
theorem Mx(N:Nat)(d:ND)(r:List ND)(c:Nat):skip N (d::r) (c+1)=if 0<=d.2.2.2/\d.2.2.2<=(N:Int) then skip N r (c+d.2.2.2.toNat) else none:=by rfl
theorem W9(N:Nat):∀(f:F) (c:Nat) (post:List ND),f.size<=N->skip N (f.flat++post) (f.aq+c)=skip N post c
 |.nil,c,post,_=>by show skip N post (0+c)=_;rw[zW]
 |.cons k t n ks r,c,post,h=>by
  have h:ks.size+r.size+1<=N:=h;have hc:=ks.eJ;show skip N ((k,t,n,(ks.aq:Int))::((ks.flat++r.flat)++post)) (r.aq+1+c)=_;have e:r.aq+1+c=(r.aq+c)+1:=om
  rw[e,Mx];rw[zu ⟨by show(0:Int)<=(ks.aq:Int);omega,by show(ks.aq:Int)<=N;omega⟩];rw[jq,zk,Jb (r.aq+c),W9 N ks _ _ om,W9 N r _ _ om]
theorem F.split:∀(g:F) (a c:Nat),g.aq=a+c->∃x y:F,x.aq=a/\y.aq=c/\g.flat=x.flat++y.flat
 |g,0,c,h=>⟨.nil,g,rfl,by omega,rfl⟩
 |.nil,a+1,c,h=>by have h:0=a+1+c:=h;omega
 |.cons k t n ks r,a+1,c,h=>by
  have h:r.aq+1=a+1+c:=h;have⟨x,y,h1,h2,h3⟩:=r.split a c om;refine⟨.cons k t n ks x,y,by show x.aq+1=_;omega,h2,?_⟩;show _::(ks.flat++r.flat)=_::(ks.flat++x.flat)++y.flat
  grind
theorem qjp(N:Nat):∀(l:List ND) (c:Nat) (rest:List ND),skip N l c=some rest->∃f:F,f.aq=c/\l=f.flat++rest
 |l,0,rest,h=>by rw[OJ] at h;injection h with h;exact⟨.nil,rfl,h⟩
 |[],c+1,rest,h=>by cases h
 |d::r,c+1,rest,h=>by
  have⟨k,t,n,z⟩:=d;have h:(if 0<=z/\z<=(N:Int) then skip N r (c+z.toNat) else none)=some rest:=h;by_cases hz:0<=z/\z<=(N:Int)
  ·rw[zu hz] at h;have⟨g,h1,h2⟩:=qjp N r _ rest h;have⟨x,y,h3,h4,h5⟩:=g.split z.toNat c om;refine⟨.cons k t n x y,by show y.aq+1=_;omega,?_⟩;show _=(k,t,n,(x.aq:Int))::(x.flat++y.flat)++rest
   grind
  grind
theorem z0e(N:Nat):∀(l:List ND) (a b:Nat),skip N l (a+b)=(skip N l a).bind fun r=>skip N r b
 |l,0,b=>by rw[OJ,zW];rfl
 |[],a+1,b=>by
  have e:a+1+b=(a+b)+1:=om
  rw[e];rfl
 |d::r,a+1,b=>by
  have e:a+1+b=(a+b)+1:=om
  rw[e,Mx,Mx];by_cases h:0<=d.2.2.2/\d.2.2.2<=(N:Int)
  ·rw[zu h,zu h];have e2:a+b+d.2.2.2.toNat=(a+d.2.2.2.toNat)+b:=om
   rw[e2];exact z0e N r _ b
  grind
theorem zcw(N:Nat){l:List ND}{c:Nat}{rest:List ND}(h:skip N l c=some rest):c<=l.length-rest.length/\rest.length<=l.length/\rest=l.drop (l.length-rest.length):=by
 have⟨f,h1,h2⟩:=qjp N l c rest h;have:=f.eJ;have h3:=f.len
 simp_all
def fq(l:List ND)(k c:Nat):Int:=(skip l.length (l.drop k) c).elim (-1) fun r=>(l.length:Int)-(r.length:Int)
theorem zcx(b:Bool)(l:List ND)(hl:l.length<=10000):∀(m k c:Nat),k+m=l.length->c<=k*10000->aI sR (⟨b,l⟩,(k:Int),((c+1:Nat):Int),())=some (fq l k (c+1),()):=by
 intro m
 induction m with
 |zero=>intro k c hk hc;refine bG ?_;rw[W4];have c0:cD (aa l) (k:Int)=true:=zw (by unfold aa;omega);simp[c0,aM,ae];unfold fq;rw[zR om];rfl
 |succ m ih=>
  intro k c hk hc;have hg:k<l.length:=om
  obtain⟨d,hd⟩:∃d,l[k]?=some d:=⟨_,zh hg⟩;have hf:l.drop k=d::l.drop (k+1):=by
   rw[lX hg]
   grind
  have⟨x,t,n,z⟩:=d;have c0:cD (aa l) (k:Int)=false:=zt (by unfold aa;omega);have hj:=bJ hd;by_cases hz:0<=z/\z<=(l.length:Int)
  ·have c1:aZ z 0=false:=zt om;have c2:aZ (aa l) z=false:=zt (by unfold aa;omega);have e1:dx .i64 z 1=z-1:=oY om om;have e2:bc .i64 ((c+1:Nat):Int) (z-1)=((c+z.toNat:Nat):Int):=by rw[pG om om];omega
   have e3:=aG (show k<=1000000000 by omega);have step:sR (⟨b,l⟩,(k:Int),((c+1:Nat):Int),())=if 0<c+z.toNat then some (.inl (⟨b,l⟩,((k+1:Nat):Int),((c+z.toNat:Nat):Int),())) else some (.inr (((k+1:Nat):Int),())):=by
    rw[W4];simp[c0,aJ,ae,hj,c1,c2,e1,e3];rw[bf]
    grind
   have he:fq l k (c+1)=(skip l.length (l.drop (k+1)) (c+z.toNat)).elim (-1) fun r=>(l.length:Int)-(r.length:Int):=by
    unfold fq;rw[hf,Mx]
    grind
   rw[he];by_cases h:0<c+z.toNat
   ·rw[zu h] at step;rw[cY step];obtain⟨c',hm⟩:∃c',c+z.toNat=c'+1:=⟨c+z.toNat-1,by omega⟩;rw[hm];exact ih (k+1) c' om om
   ·rw[zj h] at step;rw[bG step];have h0:c+z.toNat=0:=om
    rw[h0,OJ]
    grind
  ·have he:fq l k (c+1)=-1:=by
    unfold fq;rw[hf,Mx]
    grind
   rw[he];refine bG ?_;rw[W4];simp[c0,aJ,ae,hj];cases h1:aZ z 0 with
   |true=>simp[aM,ae]
   |false=>
    have c2:aZ (aa l) z=true:=by have:=Ze h1;exact zw (by unfold aa;omega)
    simp[aJ,ae,c2,aM]
theorem OK(b:Bool)(l:List ND)(hl:l.length<=10000)(k:Nat):n5 (⟨b,l⟩,(k:Int),())=some (fq l k 1,()):=by
 rw[aaH];have c0:aZ (k:Int) 0=false:=zt om;by_cases h:k<=l.length
 ·exact zcx b l hl (l.length-k) k 0 om om
 ·have he:fq l k 1=-1:=by unfold fq;rw[zR om];rfl
  rw[he];refine bG ?_;rw[W4];have c0:cD (aa l) (k:Int)=true:=zw (by unfold aa;omega);simp[c0,aM,ae]
theorem zcy{l:List ND}{c:Nat}(h:skip l.length (l.drop k) c=none):fq l k c=-1:=by unfold fq;rw[h];rfl
def DS(l:List ND):Bool:=decide (0<l.length)&&decide (fq l 0 1=(l.length:Int))
theorem SX(b:Bool)(l:List ND)(hl:l.length<=10000):n9 (⟨b,l⟩,())=some (DS l,()):=by rw[aaI];have:=OK b l hl 0;have h0:((0:Nat):Int)=0:=rfl;rw[h0] at this;simp[this,ae,SV];unfold DS aZ ah aa;have e1:decide ((0:Int)<(l.length:Int))=decide (0<l.length):=jz.2 om;rw[e1];rfl
theorem Xa(l:List ND):DS l=true↔∃k t n ks,l=(tr k t n ks).flat:=by
 unfold DS fq;rw[ze,zV,zV,jh];constructor
 ·rintro⟨h1,h2⟩;cases hs:skip l.length l 1 with
  |none=>rw[hs] at h2;have h2:(-1:Int)=l.length:=h2;omega
  |some r=>
   rw[hs] at h2;have h2:(l.length:Int)-(r.length:Int)=l.length:=h2;have hr:r=[]:=List.length_eq_zero_iff.1 om;subst hr;have⟨f,h3,h4⟩:=qjp _ _ _ _ hs;cases f with
   |nil=>cases h3
   |cons k t n ks r=>
    cases r with
    |nil=>exact⟨k,t,n,ks,by rw[h4,zv]⟩
    |cons _ _ _ _ _=>have h3:_+1+1=1:=h3;omega
 ·rintro⟨k,t,n,ks,rfl⟩;have hc:=(tr k t n ks).len;refine⟨by rw[hc,CH];omega,?_⟩;have:=W9 (tr k t n ks).flat.length (tr k t n ks) 0 [] om;rw[zv,OJ] at this;have e:(tr k t n ks).aq+0=1:=rfl
  grind
def ba(l:List ND)(k:Nat)(f:F):Prop:=∃post,l.drop k=f.flat++post
theorem ba.node{l:List ND}{ks r:F}(h:ba l k (.cons x t n ks r)):l[k]?=some (x,t,n,(ks.aq:Int))/\ba l (k+1) ks/\ba l (k+1+ks.size) r/\k+1+ks.size+r.size<=l.length:=by
 have⟨post,h⟩:=h;have h1:l[k]?=some (x,t,n,(ks.aq:Int)):=by rw[<-List.head?_drop,h];rfl
 have h2:l.drop (k+1)=(ks.flat++r.flat)++post:=by rw[<-jw,h];rfl
 refine⟨h1,⟨r.flat++post,by rw[h2,zk]⟩,⟨post,?_⟩,?_⟩
 ·rw[<-jw,h2,<-ks.len,zk,List.drop_left'];rfl
 ·have:=jd List.length h2;rw[jf,zd,zd,ks.len,r.len] at this
  grind
theorem ba.le{l:List ND}{f:F}(h:ba l k f)(hk:k<=l.length):k+f.size<=l.length:=by
 cases f with
 |nil=>exact hk
 |cons x t n ks r=>have:=h.node.2.2.2;show k+(ks.size+r.size+1)<=_;omega
theorem ba.first{l:List ND}{ks r:F}(h:ba l k (.cons x t n ks r)):ba l k (tr x t n ks):=by
 have⟨post,h⟩:=h;refine⟨r.flat++post,?_⟩;rw[h,yW];show _::(ks.flat++r.flat)++post=_
 grind
theorem ba.ends{l:List ND}{ks r:F}(h:ba l k (.cons x t n ks r)):fq l k 1=((k+1+ks.size:Nat):Int):=by have⟨g1,g2,g3,g4⟩:=h.node;have⟨post,h⟩:=h.first;unfold fq;have e:(tr x t n ks).aq+0=1:=rfl;have hs:=W9 l.length (tr x t n ks) 0 post (by rw[CH];omega);rw[e,OJ] at hs;rw[h,hs];show(l.length:Int)-(post.length:Int)=_;have:=jd List.length h;rw[jf,zd,(tr x t n ks).len,CH] at this;omega
def F.pos:Nat->F->List Int
 |_,.nil=>[]
 |k,.cons _ _ _ ks r=>(k:Int)::r.pos (k+1+ks.size)
theorem F.nL:∀(f:F) (k:Nat),(f.pos k).length=f.aq
 |.nil,_=>rfl
 |.cons _ _ _ ks r,k=>by show(_::r.pos _).length=r.aq+1;rw[zn,r.nL]
def F.CI(P:Nat->Int->List Int->Int->F->Prop):Nat->F->Prop
 |_,.nil=>True
 |k,.cons x t n ks r=>P k x t n ks/\r.CI P (k+1+ks.size)
theorem F.qJ{l:List ND}{P:Nat->Int->List Int->Int->F->Prop}(h:∀k x t n ks,ba l k (tr x t n ks)->ks.CI P (k+1)->P k x t n ks):∀(f:F) (k:Nat),ba l k f->f.CI P k
 |.nil,_,_=>trivial
 |.cons x t n ks r,k,hs=>⟨h k x t n ks hs.first (F.qJ h ks (k+1) hs.node.2.1),F.qJ h r _ hs.node.2.2.1⟩
theorem F.CJ{l:List ND}{P:Nat->Int->List Int->Int->F->Prop}(h:∀k x t n ks,ba l k (tr x t n ks)->ks.CI P (k+1)->P k x t n ks){ks:F}(hs:ba l k (tr x t n ks)):P k x t n ks:=(F.qJ h (tr x t n ks) k hs).1
theorem qK{a b:Nat}(h:a+b<=2000000):fit (bL (a:Int) (b:Int))=some ():=im (by show(a:Int)+(b:Int)<=_;omega)
theorem SY(b:Bool)(x:α):aH b (cB [x])=false:=by cases b<;>rfl
theorem zcz(a b:Nat):lB (a:Int) (b:Int)=((max a b:Nat):Int):=by unfold lB;split<;>omega
def DT:Nat->List Nat->List Nat
 |c+1,s=>(c+1)::s
 |0,[]=>[]
 |0,c::s=>DT (c-1) s
def toI(s:List Nat):List Int:=s.reverse.map fun(c:Nat)=>(c:Int)
theorem oM(s:List Nat):(toI s).length=s.length:=by unfold toI;rw[zI,Jl]
theorem FL(c:Nat)(s:List Nat):toI (c::s)=toI s++[(c:Int)]:=by unfold toI;rw[List.reverse_cons,jn];rfl
theorem qno(c:Nat)(s:List Nat):DT (c+1) s=(c+1)::s:=by cases s<;>rfl
theorem S0(b:Bool)(l:List ND)(ft ln k:Int)(hk:0<=k/\k<=1000000)(nb:Bool):∀(s:List Nat) (c:Nat),(∀x,x∈s->1<=x/\x<=1000000)->c<=1000000->s.length<=1000000->aI oq (ft,⟨b,l⟩,ln,k,⟨nb,toI (c::s)⟩,())=some (.inl (ft,⟨b,l⟩,ln,k+1,⟨nb,toI (DT c s)⟩,())):=by
 have hj:bc .i64 k 1=k+1:=pG om om;have done:∀(s:List Nat) (c:Nat),c+1<=1000000->s.length<=1000000->aI oq (ft,⟨b,l⟩,ln,k,⟨nb,toI ((c+1)::s)⟩,())=some (.inl (ft,⟨b,l⟩,ln,k+1,⟨nb,toI ((c+1)::s)⟩,())):=by
  intro s c hc hs;refine bG ?_;have e1:dx .i64 (aa (toI ((c+1)::s))) 1=(s.length:Int):=by unfold aa;rw[oM,zn,oY om om];omega
  have hg:nth (toI ((c+1)::s)) s.length=some ((c+1:Nat):Int):=by rw[FL];unfold nth;rw[zM (by rw[oM];exact zm _),oM,jy];rfl
  have c0:aZ 0 (aa (toI ((c+1)::s)))=true:=zw (by unfold aa;rw[oM,zn];omega);have c1:ah ((c+1:Nat):Int) 0=false:=by cases h:ah ((c+1:Nat):Int) 0 with
   |false=>rfl
   |true=>have:=cQ.1 h;omega
  rw[qch];simp only[c0,aM,e1,oL (show s.length<(toI ((c+1)::s)).length by rw[oM,zn];omega),ae,hg,c1,aJ,hj]
 have fS:aI oq (ft,⟨b,l⟩,ln,k,⟨nb,toI []⟩,())=some (.inl (ft,⟨b,l⟩,ln,k+1,⟨nb,toI []⟩,())):=by refine bG ?_;have c0:aZ 0 (aa (toI []))=false:=rfl;rw[qch];simp[c0,aJ,ae,hj]
 have step:∀(s:List Nat) (X:List Int),s.length<=1000000->(s=[]/\X=[]\/∃c r,s=c::r/\1<=c/\c<=1000000/\X=toI ((c-1)::r))->
   oq (ft,⟨b,l⟩,ln,k,⟨nb,toI (0::s)⟩,())=some (.inl (ft,⟨b,l⟩,ln,k,⟨nb,X⟩,())):=by
  intro s X hs hX;have e1:dx .i64 (aa (toI (0::s))) 1=(s.length:Int):=by unfold aa;rw[oM,zn,oY om om];omega
  have hg:nth (toI (0::s)) s.length=some 0:=by rw[FL];unfold nth;rw[zM (by rw[oM];exact zm _),oM,jy];rfl
  have c0:aZ 0 (aa (toI (0::s)))=true:=zw (by unfold aa;rw[oM,zn];omega);have c1:ah 0 0=true:=rfl;have he:dY (aa (toI (0::s))) (s.length:Int)=some s.length:=by unfold dY aa;rw[zu (by rw[oM,zn];omega),jq]
  have hl:aP (toI (0::s)) s.length=toI s:=by unfold aP;rw[FL,Zz (oM s)]
  rw[qch];simp only[c0,aM,e1,oL (show s.length<(toI (0::s)).length by rw[oM,zn];omega),ae,hg,c1,he,hl];rcases hX with ⟨rfl,rfl⟩|⟨c,r,rfl,h1,h2,rfl⟩
  ·rfl
  ·have hs:r.length+1<=1000000:=hs;have c2:aZ 0 (aa (toI (c::r)))=true:=zw (by unfold aa;rw[oM,zn];omega);have e2:dx .i64 (aa (toI (c::r))) 1=(r.length:Int):=by unfold aa;rw[oM,zn,oY om om];omega
   have hm:nth (toI (0::c::r)) r.length=some (c:Int):=by rw[FL,FL];unfold nth;rw[zk,zM (by rw[oM];exact zm _),oM,jy];rfl
   have hf:aP (kF (toI (0::c::r)) r.length ((c:Int)-1)) (c::r).length=toI ((c-1)::r):=by unfold aP kF;rw[FL,FL,FL,zk,List.set_append_right _ _ (by rw[oM];exact zm _),oM,jy];show List.take (r.length+1) (toI r++([(c:Int)-1]++[((0:Nat):Int)]))=_;rw[<-zk,Zz (by rw[zd,oM];rfl)];congr 2;omega
   have e3:dx .i64 (c:Int) 1=(c:Int)-1:=oY om om;simp only[c2,aM,e2,oL (show r.length<(toI (c::r)).length by rw[oM,zn];omega),ae,hm,e3,hf]
 intro s
 induction s with
 |nil=>
  intro c _ hc _;cases c with
  |zero=>rw[cY (step [] [] dc (.inl ⟨rfl,rfl⟩))];exact fS
  |succ c=>rw[qno];exact done [] c hc dc
 |cons d s ih=>
  intro c hx hc hs;have hd:=hx d (zg ..);have hs:s.length+1<=1000000:=hs;cases c with
  |zero=>rw[cY (step (d::s) (toI ((d-1)::s)) hs (.inr ⟨d,s,rfl,hd.1,hd.2,rfl⟩))];exact ih (d-1) (fun x h=>hx x (zf _ h)) om om
  |succ c=>rw[qno];exact done (d::s) c hc hs
theorem zd0(b:Bool)(l:List ND)(hl:l.length<=10000):∀(f:F) (q:Nat) (s:List Nat) (ft:Nat) (nb:Bool),ba l q f->q<=l.length->(∀x,x∈s->1<=x/\x<=1000000)->s.length<=q->ft<=100000->∃xa,aI lH ((ft:Int),⟨b,l⟩,(l.length:Int),(q:Int),⟨nb,toI (DT f.aq s)⟩,())=aI lH (((max ft (if f.aq=0 then 0 else s.length+1+f.dep):Nat):Int),⟨b,l⟩,(l.length:Int),((q+f.size:Nat):Int),⟨xa,toI (DT 0 s)⟩,()):=by
 intro f
 induction f with
 |nil=>intro q s ft nb _ _ _ _ _;refine⟨nb,?_⟩;show _=aI lH (((max ft 0:Nat):Int),_,_,((q+0:Nat):Int),_,());rw[Nat.max_zero];rfl
 |cons x t n ks r kq kC=>
  intro q s ft nb hs hq hx hj hm;have⟨g1,g2,g3,g4⟩:=hs.node;have hc:=ks.eJ;have hk:=r.eJ;have hn:=ks.qI;have e0:DT (F.cons x t n ks r).aq s=(r.aq+1)::s:=qno r.aq s;rw[e0];have hf:fit (bL (aa (toI ((r.aq+1)::s))) (aa [(ks.aq:Int)]))=some ():=qK (by rw[oM,zn,zB];omega);have hg:∀y,y∈(r.aq+1)::s->1<=y/\y<=1000000:=by grind
  have hp:=S0 b l ((max ft (s.length+2):Nat):Int) (l.length:Int) (q:Int) om false ((r.aq+1)::s) ks.aq hg om (by rw[zn];omega);have step:lH ((ft:Int),⟨b,l⟩,(l.length:Int),(q:Int),⟨nb,toI ((r.aq+1)::s)⟩,())=
    some (.inl (((max ft (s.length+2):Nat):Int),⟨b,l⟩,(l.length:Int),((q+1:Nat):Int),⟨false,toI (DT ks.aq ((r.aq+1)::s))⟩,())):=by
   rw[qci];simp only;rw[bf,zu om,bJ g1,ae];simp only[hf,ae,SY];have e1:lB (ft:Int) (bc .i64 (aa (toI ((r.aq+1)::s))) 1)=((max ft (s.length+2):Nat):Int):=by unfold aa;rw[oM,zn,aG om,zcz]
   have e2:app (toI ((r.aq+1)::s)) [(ks.aq:Int)]=toI (ks.aq::(r.aq+1)::s):=(FL _ _).symm;rw[e1,e2,hp];rfl
  rw[cY step];have⟨nb1,h1⟩:=kq (q+1) ((r.aq+1)::s) (max ft (s.length+2)) false g2 om hg (by rw[zn];omega) om;rw[h1];have e3:DT 0 ((r.aq+1)::s)=DT r.aq s:=rfl;rw[e3];have he:max (max ft (s.length+2)) (if ks.aq=0 then 0 else((r.aq+1)::s).length+1+ks.dep)=max ft (s.length+1+(ks.dep+1)):=by
   rw[zn];by_cases h0:ks.aq=0
   ·rw[zu h0];have:ks.dep=0:=by
     cases ks with
     |nil=>rfl
     |cons _ _ _ _ r=>exact absurd h0 (Jg _)
    omega
   ·rw[zj h0];omega
  rw[he];obtain⟨nb2,h2⟩:=kC (q+1+ks.size) s (max ft (s.length+1+(ks.dep+1))) nb1 g3 om hx om om;refine⟨nb2,?_⟩;rw[h2];have e4:q+1+ks.size+r.size=q+(F.cons x t n ks r).size:=by show _=q+(ks.size+r.size+1);omega
  rw[e4];have e5:max (max ft (s.length+1+(ks.dep+1))) (if r.aq=0 then 0 else s.length+1+r.dep)=max ft (if(F.cons x t n ks r).aq=0 then 0 else s.length+1+(F.cons x t n ks r).dep):=by
   show _=max ft (s.length+1+max (ks.dep+1) r.dep);by_cases h0:r.aq=0
   ·rw[zu h0];have:r.dep=0:=by
     cases r with
     |nil=>rfl
     |cons _ _ _ _ r=>exact absurd h0 (Jg _)
    omega
   ·rw[zj h0];omega
  rw[e5]
theorem S1(x:Int)(t:List Int)(n:Int)(ks:F):ba (tr x t n ks).flat 0 (tr x t n ks):=⟨[],by rw[zv];rfl⟩
theorem z7a(b:Bool)(x:Int)(t:List Int)(n:Int)(ks:F)(hl:ks.size+1<=10000):BT (⟨b,(tr x t n ks).flat⟩,())=some (((ks.dep+1:Nat):Int),()):=by
 have he:(tr x t n ks).flat.length=ks.size+1:=(tr x t n ks).len;have hs:=S1 x t n ks;have⟨g1,g2,g3,g4⟩:=hs.node;have hg:=ks.qI;have hc:=ks.eJ;rw[aaJ,SX b _ om,(Xa _).2 ⟨x,t,n,ks,rfl⟩];have hn:ai true=false:=rfl;simp only[ae,hn,aJ];generalize hL:(tr x t n ks).flat=L at*
 have hf:=qK (by show 0+1<=_;omega);have hp:=S0 b L ((1:Nat):Int) (L.length:Int) ((0:Nat):Int) om false [] ks.aq nofun om dc
 have step:lH (((0:Nat):Int),⟨b,L⟩,(L.length:Int),((0:Nat):Int),⟨true,[]⟩,())=
   some (.inl (((1:Nat):Int),⟨b,L⟩,(L.length:Int),((0+1:Nat):Int),⟨false,toI (DT ks.aq [])⟩,())):=by
  rw[qci];simp only;rw[bf,zu om,bJ g1,ae];simp only[SY];have e1:lB ((0:Nat):Int) (bc .i64 (aa ([]:List Int)) 1)=((1:Nat):Int):=rfl;have e2:app ([]:List Int) [(ks.aq:Int)]=toI (ks.aq::[]):=rfl;rw[e1,e2,hp];rfl
 obtain⟨nb1,h1⟩:=zd0 b L om ks 1 [] 1 false g2 om (fun _ h=>by cases h) dc dc;have S2:aI lH (0,⟨b,L⟩,aa L,0,⟨true,[]⟩,())=_:=cY step;rw[S2,h1];have e6:max 1 (if ks.aq=0 then 0 else([]:List Nat).length+1+ks.dep)=ks.dep+1:=by
  by_cases h0:ks.aq=0
  ·rw[zu h0];have:ks.dep=0:=by
    cases ks with
    |nil=>rfl
    |cons _ _ _ _ r=>exact absurd h0 (Jg _)
   omega
  grind
 rw[e6];refine bG ?_;rw[qci];simp only;rw[bf,zj om]
def rz(n:Int):Bool:=decide (-4611686018427387904<=n/\n<=4611686018427387903)
def nM(n:Int):Prop:=-9223372036854775808<=n/\n<=9223372036854775807
theorem qe8(n:Int):IntKind.i64.wrap n=if n % 18446744073709551616<9223372036854775808 then n % 18446744073709551616 else n % 18446744073709551616-18446744073709551616:=by
 unfold IntKind.wrap;show(if(true&&decide (n % 18446744073709551616>=9223372036854775808))=true then _ else _)=_;rw[jV];by_cases h:n % 18446744073709551616<9223372036854775808
 ·rw[zu h,zj (by simp;omega)];rfl
 ·rw[zj h,zu (by simp;omega)];rfl
theorem qkm(n:Int):IntKind.u64.wrap n=n % 18446744073709551616:=by rfl
theorem qqe(n:Int)(h:nM n):∃v,qv (n,())=some (v,())/\ah v n=rz n:=by
 obtain⟨h1,h2⟩:=h;rw[Sw];have e1:lr .u64 (fR .u64 n) 1=some (IntKind.u64.wrap (fR .u64 n*2)):=by rfl
 simp only[e1,ae];have e2:=z06 (a:=fR .i64 (IntKind.u64.wrap (fR .u64 n*2))) 1 dc;have e3:((1:Nat):Int)=1:=rfl;rw[e3] at e2;rw[e2];refine⟨_,rfl,?_⟩;unfold fR;rw[qe8,qkm,qkm];rw[Zh,cQ];unfold rz
 grind
def lY(k:Int):Int:=bif ah k 1||ah k 6||ah k 9||ah k 10||ah k 11||ah k 21||ah k 23 then 0 else bif ah k 3||ah k 5||ah k 7||ah k 8||ah k 12||ah k 22 then 1 else bif ah k 4||ah k 24 then 2 else bif ah k 2 then 3 else -1
def yX(k c:Int):Bool:=bif ah k 5||ah k 11 then ah c 1 else bif ah k 6||ah k 7||ah k 8||ah k 12 then ah c 2 else bif ah k 9 then ah c 3 else bif ah k 10 then cD 3 c&&ah (c % 2) 1 else bif ah k 24 then true else ah c 0
def ku(k:Int):Bool:=cD 21 k&&cD k 24
def AT(k:Int)(t:List Int)(hk:Int):Int:=bif ah k 8&&ai (ah hk 5) then 61 else bif ah (lY k) 1&&ai (aS t) then 62 else bif ah (lY k) 2&&ai (fb t) then 62 else 0
def yY(k:Int)(t:List Int)(hk:Int):Int:=bif ah (lY k) 0 then(bif bW t [] then AT k t hk else 61) else bif ah (lY k) 3 then(bif aZ 200 (aa t) then 61 else AT k t hk) else AT k t hk
def ir(k:Int)(t:List Int)(n c hk:Int)(pat:Bool):Int:=
 bif aZ (lY k) 0 then 61 else bif ai (ga (ku k) pat) then 61 else bif ai (yX k c) then 61 else
 bif ah k 1||ah k 23 then(bif rz n then yY k t hk else 61) else(bif ah n 0 then yY k t hk else 61)
def Xb:List Int:=[1,2,3,4,5,6,7,8,9,10,11,12,21,22,23,24]
theorem qqf{P:Int->Prop}(h1:P 1)(h2:P 2)(h3:P 3)(h4:P 4)(h5:P 5)(h6:P 6)(h7:P 7)(h8:P 8)(h9:P 9)(he:P 10)(hf:P 11)(hg:P 12)(hj:P 21)(hk:P 22)(hl:P 23)(hm:P 24)(ho:∀a,(∀c,c∈Xb->ah a c=false)->P a):∀a,P a:=by
 intro a;by_cases e1:a=1
 ·rw[e1];exact h1
 by_cases e2:a=2
 ·rw[e2];exact h2
 by_cases e3:a=3
 ·rw[e3];exact h3
 by_cases e4:a=4
 ·rw[e4];exact h4
 by_cases e5:a=5
 ·rw[e5];exact h5
 by_cases e6:a=6
 ·rw[e6];exact h6
 by_cases e7:a=7
 ·rw[e7];exact h7
 by_cases e8:a=8
 ·rw[e8];exact h8
 by_cases e9:a=9
 ·rw[e9];exact h9
 by_cases rA:a=10
 ·rw[rA];exact he
 by_cases S3:a=11
 ·rw[S3];exact hf
 by_cases S4:a=12
 ·rw[S4];exact hg
 by_cases yZ:a=21
 ·rw[yZ];exact hj
 by_cases xc:a=22
 ·rw[xc];exact hk
 by_cases e23:a=23
 ·rw[e23];exact hl
 by_cases e24:a=24
 ·rw[e24];exact hm
 refine ho a fun c hc=>cZ ?_;rintro rfl;simp only[Xb,zA,zL,Zt] at hc;omega
theorem rB(a:Int):vv (a,())=some (ku a,()):=by rw[aaK,SV];rfl
def F.head:F->Int
 |.nil=>0
 |.cons k _ _ _ _=>k
theorem behind{l:List ND}{ks:F}(hk:k<=1000000)(hs:ba l (k+1) ks)(hn:kd=8->ks.aq≠0):(aL (ah kd 8) (aw (fL l (bc .i64 (k:Int) 1)) fun x=>some (ai (ah x.1 5))) (some false):Option Bool)=some (ah kd 8&&ai (ah ks.head 5)):=by
 cases h:ah kd 8 with
 |false=>rfl
 |true=>
  have h8:=cQ.1 h;cases ks with
  |nil=>exact absurd rfl (hn h8)
  |cons x t n ks r=>rw[aM,aG om,bJ hs.node.1];rfl
theorem uH(a c:Int):BV (a,c,())=some (ah a c,()):=aaO a c
theorem cR(a:Int):EZ (a,())=some (true,()):=aaN a
theorem zn6(a:Int)(h:0<=a):BU (a,())=some (cD 3 a&&ah (a % 2) 1,()):=by rw[aaM,zcn h dc];cases cD 3 a<;>rfl
theorem zn7:gG (1,())=some (true,false,2,0,0,0,true,()):=by kernel_rfl
theorem zn8:gG (2,())=some (false,true,2,0,0,0,true,()):=by kernel_rfl
theorem zn9:gG (3,())=some (false,false,0,0,0,0,true,()):=by kernel_rfl
theorem zna:gG (4,())=some (false,false,1,0,0,0,true,()):=by kernel_rfl
theorem znb:gG (5,())=some (false,false,0,0,0,1,true,()):=by kernel_rfl
theorem znc:gG (6,())=some (false,false,2,0,0,2,true,()):=by kernel_rfl
theorem znd:gG (7,())=some (false,false,0,0,0,2,true,()):=by kernel_rfl
theorem zne:gG (8,())=some (false,false,0,0,0,2,true,()):=by kernel_rfl
theorem znf:gG (9,())=some (false,false,2,0,0,3,true,()):=by kernel_rfl
theorem zk2:gG (10,())=some (false,false,2,0,1,0,true,()):=by kernel_rfl
theorem zk3:gG (11,())=some (false,false,2,0,0,1,true,()):=by kernel_rfl
theorem zk4:gG (12,())=some (false,false,0,0,0,2,true,()):=by kernel_rfl
theorem zk5:gG (21,())=some (false,false,2,0,0,0,true,()):=by kernel_rfl
theorem zk6:gG (22,())=some (false,false,0,0,0,0,true,()):=by kernel_rfl
theorem zk7:gG (23,())=some (true,false,2,0,0,0,true,()):=by kernel_rfl
theorem zk8:gG (24,())=some (false,false,1,0,2,0,true,()):=by kernel_rfl
theorem z3k(a:Int)(h:∀c,c∈Xb->ah a c=false):gG (a,())=some (false,false,2,0,3,0,false,()):=by have i1:ah a 1=false:=h 1 dc;have i2:=h 2 dc;have i3:ah a 3=false:=h 3 dc;have i4:ah a 4=false:=h 4 dc;have i5:ah a 5=false:=h 5 dc;have i6:=h 6 dc;have i7:=h 7 dc;have i8:ah a 8=false:=h 8 dc;have i9:ah a 9=false:=h 9 dc;have i10:ah a 10=false:=h 10 dc;have i11:ah a 11=false:=h 11 dc;have i12:ah a 12=false:=h 12 dc;have i21:=h 21 dc;have i22:=h 22 dc;have i23:ah a 23=false:=h 23 dc;have i24:ah a 24=false:=h 24 dc;rw[aaL];simp only[i1,i2,i3,i4,i5,i6,i7,i8,i9,i10,i11,i12,i21,i22,i23,i24,aJ,ae]
theorem qL:ah 0 0=true:=id (Eq.refl true)
theorem xd:ah 0 1=false:=id (Eq.refl false)
theorem xe:ah 0 2=false:=id (Eq.refl false)
theorem rA:ah 1 0=false:=id (Eq.refl false)
theorem S3:ah 1 1=true:=id (Eq.refl true)
theorem S4:ah 1 2=false:=id (Eq.refl false)
theorem CK:ah 2 0=false:=id (Eq.refl false)
theorem yZ:ah 2 1=false:=id (Eq.refl false)
theorem xc:ah 2 2=true:=id (Eq.refl true)
theorem nT:ai true=false:=id (Eq.refl false)
theorem nF:ai false=true:=id (Eq.refl true)
theorem z7b(b:Bool)(l:List ND)(hl:l.length<=10000){ks:F}(pat:Bool)(ht:∀b,b∈t->0<=b/\b<=255)(hr:nM n):∀kd:Int,ba l k (tr kd t n ks)->BW (⟨b,l⟩,(k:Int),pat,())=some (ir kd t n (ks.aq:Int) ks.head pat,()):=by
 have⟨v,w1,w2⟩:=qqe n hr;have hc:=qv7 ht;have he:=z0d ht;have hf:=zn6 (ks.aq:Int) (Int.natCast_nonneg _);refine qqf ?k1 ?k2 ?k3 ?k4 ?k5 ?k6 ?k7 ?k8 ?k9 ?k10 ?k11 ?k12 ?k21 ?k22 ?k23 ?k24 (fun a h hs=>?_)
 case k1=>
  intro h;obtain⟨g1,g2,g3,g4⟩:=h.node;rw[iW,bJ g1,ae,zn7,ae];have e8:ah 1 8=false:=rfl;have ep:ku 1=false:=rfl;simp only[rB,ep,nT,nF,aM,aJ,ae,qL,xd,xe,CK,yZ,xc,uH,cR,hf,w1,w2,hc,he,e8];have hE:ir 1 t n (ks.aq:Int) ks.head pat=bif ai (ga false pat) then 61 else bif ai (ah (ks.aq:Int) 0) then 61 else bif rz n then(bif bW t [] then 0 else 61) else 61:=by rfl
  rw[hE];cases pat<;>cases a1:ah (ks.aq:Int) 0<;>cases a2:rz n<;>cases a3:bW t []<;>simp only[nT,nF,aM,aJ,ae,CK,yZ,xc,hc,he,ga,e8,ZF,jJ,zY,zK,zE,a3]<;>rfl
 case k2=>
  intro h;obtain⟨g1,g2,g3,g4⟩:=h.node;rw[iW,bJ g1,ae,zn8,ae];have e8:ah 2 8=false:=rfl;have ep:ku 2=false:=rfl;simp only[rB,ep,nT,nF,aM,aJ,ae,qL,xd,xe,xc,uH,cR,hf,w1,w2];have hE:ir 2 t n (ks.aq:Int) ks.head pat=bif ai (ga false pat) then 61 else bif ai (ah (ks.aq:Int) 0) then 61 else bif ah n 0 then(bif aZ 200 (aa t) then 61 else 0) else 61:=by rfl
  rw[hE];cases pat<;>cases a1:ah (ks.aq:Int) 0<;>cases a2:ah n 0<;>cases a3:aZ 200 (aa t)<;>simp only[nT,nF,aM,aJ,ae,CK,yZ,xc,hc,he,ga,e8,ZF,jJ,zY,zK,zE]<;>rfl
 case k3=>
  intro h;obtain⟨g1,g2,g3,g4⟩:=h.node;rw[iW,bJ g1,ae,zn9,ae];have e8:ah 3 8=false:=rfl;have ep:ku 3=false:=rfl;simp only[rB,ep,nT,nF,aM,aJ,ae,qL,xd,xe,uH,cR,hf,w1,w2,hc,he,e8];have hE:ir 3 t n (ks.aq:Int) ks.head pat=bif ai (ga false pat) then 61 else bif ai (ah (ks.aq:Int) 0) then 61 else bif ah n 0 then(bif aS t then 0 else 62) else 61:=by have kk:yX 3 (ks.aq:Int)=ah (ks.aq:Int) 0:=rfl;unfold ir yY AT;rw[kk];cases pat<;>cases ah (ks.aq:Int) 0<;>cases ah n 0<;>cases aS t<;>rfl
  rw[hE];cases pat<;>cases a1:ah (ks.aq:Int) 0<;>cases a2:ah n 0<;>cases a3:aS t<;>simp only[nT,nF,aM,aJ,ae,ga,ZF,jJ,zY,zK,zE]<;>rfl
 case k4=>
  intro h;obtain⟨g1,g2,g3,g4⟩:=h.node;rw[iW,bJ g1,ae,zna,ae];have e8:ah 4 8=false:=rfl;have ep:ku 4=false:=rfl;simp only[rB,ep,nT,nF,aM,aJ,ae,qL,xd,xe,rA,S3,S4,uH,cR,hf,w1,w2,hc,he,e8];have hE:ir 4 t n (ks.aq:Int) ks.head pat=bif ai (ga false pat) then 61 else bif ai (ah (ks.aq:Int) 0) then 61 else bif ah n 0 then(bif fb t then 0 else 62) else 61:=by have kk:yX 4 (ks.aq:Int)=ah (ks.aq:Int) 0:=rfl;unfold ir yY AT;rw[kk];cases pat<;>cases ah (ks.aq:Int) 0<;>cases ah n 0<;>cases fb t<;>rfl
  rw[hE];cases pat<;>cases a1:ah (ks.aq:Int) 0<;>cases a2:ah n 0<;>cases a3:fb t<;>simp only[nT,nF,aM,aJ,ae,ga,ZF,jJ,zY,zK,zE]<;>rfl
 case k5=>
  intro h;obtain⟨g1,g2,g3,g4⟩:=h.node;rw[iW,bJ g1,ae,znb,ae];have e8:ah 5 8=false:=rfl;have ep:ku 5=false:=rfl;simp only[rB,ep,nT,nF,aM,aJ,ae,qL,xd,xe,uH,cR,hf,w1,w2,hc,he,e8];have hE:ir 5 t n (ks.aq:Int) ks.head pat=bif ai (ga false pat) then 61 else bif ai (ah (ks.aq:Int) 1) then 61 else bif ah n 0 then(bif aS t then 0 else 62) else 61:=by have kk:yX 5 (ks.aq:Int)=ah (ks.aq:Int) 1:=rfl;unfold ir yY AT;rw[kk];cases pat<;>cases ah (ks.aq:Int) 1<;>cases ah n 0<;>cases aS t<;>rfl
  rw[hE];cases pat<;>cases a1:ah (ks.aq:Int) 1<;>cases a2:ah n 0<;>cases a3:aS t<;>simp only[nT,nF,aM,aJ,ae,ga,ZF,jJ,zY,zK,zE]<;>rfl
 case k6=>
  intro h;obtain⟨g1,g2,g3,g4⟩:=h.node;rw[iW,bJ g1,ae,znc,ae];have e8:ah 6 8=false:=rfl;have ep:ku 6=false:=rfl;simp only[rB,ep,nT,nF,aM,aJ,ae,qL,xd,xe,CK,yZ,xc,uH,cR,hf,w1,w2,hc,he,e8];have hE:ir 6 t n (ks.aq:Int) ks.head pat=bif ai (ga false pat) then 61 else bif ai (ah (ks.aq:Int) 2) then 61 else bif ah n 0 then(bif bW t [] then 0 else 61) else 61:=by rfl
  rw[hE];cases pat<;>cases a1:ah (ks.aq:Int) 2<;>cases a2:ah n 0<;>cases a3:bW t []<;>simp only[nT,nF,aM,aJ,ae,ga,ZF,jJ,zY,zK,zE]<;>rfl
 case k7=>
  intro h;obtain⟨g1,g2,g3,g4⟩:=h.node;rw[iW,bJ g1,ae,znd,ae];have e8:ah 7 8=false:=rfl;have ep:ku 7=false:=rfl;simp only[rB,ep,nT,nF,aM,aJ,ae,qL,xd,xe,uH,cR,hf,w1,w2,hc,he,e8];have hE:ir 7 t n (ks.aq:Int) ks.head pat=bif ai (ga false pat) then 61 else bif ai (ah (ks.aq:Int) 2) then 61 else bif ah n 0 then(bif aS t then 0 else 62) else 61:=by have kk:yX 7 (ks.aq:Int)=ah (ks.aq:Int) 2:=rfl;unfold ir yY AT;rw[kk];cases pat<;>cases ah (ks.aq:Int) 2<;>cases ah n 0<;>cases aS t<;>rfl
  rw[hE];cases pat<;>cases a1:ah (ks.aq:Int) 2<;>cases a2:ah n 0<;>cases a3:aS t<;>simp only[nT,nF,aM,aJ,ae,ga,ZF,jJ,zY,zK,zE]<;>rfl
 case k8=>
  intro h;obtain⟨g1,g2,g3,g4⟩:=h.node;rw[iW,bJ g1,ae,zne,ae];have e8:ah 8 8=true:=rfl;have ep:ku 8=false:=rfl;simp only[rB,ep,nT,nF,aM,aJ,ae,qL,xd,xe,uH,cR,hf,w1,w2,hc,he];have hE:ir 8 t n (ks.aq:Int) ks.head pat=bif ai (ga false pat) then 61 else bif ai (ah (ks.aq:Int) 2) then 61 else bif ah n 0 then(bif ah ks.head 5 then(bif aS t then 0 else 62) else 61) else 61:=by have kk:yX 8 (ks.aq:Int)=ah (ks.aq:Int) 2:=rfl;unfold ir yY AT;rw[kk];cases pat<;>cases ah (ks.aq:Int) 2<;>cases ah n 0<;>cases aS t<;>cases ah ks.head 5<;>rfl
  rw[hE];cases h2:ah (ks.aq:Int) 2 with
  |false=>cases pat<;>rfl
  |true=>have hb:=behind (kd:=8) (l:=l) (k:=k) (ks:=ks) om g2 (fun _ h0=>by have:=cQ.1 h2;omega);rw[show ah 8 8=true from rfl,aM] at hb;have hg:aw (fL l (bc .i64 (k:Int) 1)) (fun x=>some (ai (ah x.1 5)))=some (ai (ah ks.head 5)):=hb;cases pat<;>cases a1:ah n 0<;>cases a2:ah ks.head 5<;>cases a3:aS t<;>simp only[nT,nF,aM,aJ,ae,e8,hg,ga,jJ,JE,zY,a2]<;>rfl
 case k9=>
  intro h;obtain⟨g1,g2,g3,g4⟩:=h.node;rw[iW,bJ g1,ae,znf,ae];have e8:ah 9 8=false:=rfl;have ep:ku 9=false:=rfl;simp only[rB,ep,nT,nF,aM,aJ,ae,qL,xd,xe,CK,yZ,xc,uH,cR,hf,w1,w2,hc,he,e8];have hE:ir 9 t n (ks.aq:Int) ks.head pat=bif ai (ga false pat) then 61 else bif ai (ah (ks.aq:Int) 3) then 61 else bif ah n 0 then(bif bW t [] then 0 else 61) else 61:=by rfl
  rw[hE];cases pat<;>cases a1:ah (ks.aq:Int) 3<;>cases a2:ah n 0<;>cases a3:bW t []<;>simp only[nT,nF,aM,aJ,ae,ga,ZF,jJ,zY,zK,zE]<;>rfl
 case k10=>
  intro h;obtain⟨g1,g2,g3,g4⟩:=h.node;rw[iW,bJ g1,ae,zk2,ae];have e8:ah 10 8=false:=rfl;have ep:ku 10=false:=rfl;simp only[rB,ep,nT,nF,aM,aJ,ae,rA,S3,S4,CK,yZ,xc,uH,cR,hf,w1,w2,hc,he,e8];have hE:ir 10 t n (ks.aq:Int) ks.head pat=bif ai (ga false pat) then 61 else bif ai ((cD 3 (ks.aq:Int)&&ah ((ks.aq:Int) % 2) 1)) then 61 else bif ah n 0 then(bif bW t [] then 0 else 61) else 61:=by rfl
  rw[hE];cases pat<;>cases a1:cD 3 (ks.aq:Int)<;>cases a2:ah ((ks.aq:Int) % 2) 1<;>cases a3:ah n 0<;>cases a4:bW t []<;>simp only[nT,nF,aM,aJ,ae,ga,ZF,jJ,zY,jV,ZJ,zK,zE]<;>rfl
 case k11=>
  intro h;obtain⟨g1,g2,g3,g4⟩:=h.node;rw[iW,bJ g1,ae,zk3,ae];have e8:ah 11 8=false:=rfl;have ep:ku 11=false:=rfl;simp only[rB,ep,nT,nF,aM,aJ,ae,qL,xd,xe,CK,yZ,xc,uH,cR,hf,w1,w2,hc,he,e8];have hE:ir 11 t n (ks.aq:Int) ks.head pat=bif ai (ga false pat) then 61 else bif ai (ah (ks.aq:Int) 1) then 61 else bif ah n 0 then(bif bW t [] then 0 else 61) else 61:=by rfl
  rw[hE];cases pat<;>cases a1:ah (ks.aq:Int) 1<;>cases a2:ah n 0<;>cases a3:bW t []<;>simp only[nT,nF,aM,aJ,ae,ga,ZF,jJ,zY,zK,zE]<;>rfl
 case k12=>
  intro h;obtain⟨g1,g2,g3,g4⟩:=h.node;rw[iW,bJ g1,ae,zk4,ae];have e8:ah 12 8=false:=rfl;have ep:ku 12=false:=rfl;simp only[rB,ep,nT,nF,aM,aJ,ae,qL,xd,xe,uH,cR,hf,w1,w2,hc,he,e8];have hE:ir 12 t n (ks.aq:Int) ks.head pat=bif ai (ga false pat) then 61 else bif ai (ah (ks.aq:Int) 2) then 61 else bif ah n 0 then(bif aS t then 0 else 62) else 61:=by have kk:yX 12 (ks.aq:Int)=ah (ks.aq:Int) 2:=rfl;unfold ir yY AT;rw[kk];cases pat<;>cases ah (ks.aq:Int) 2<;>cases ah n 0<;>cases aS t<;>rfl
  rw[hE];cases pat<;>cases a1:ah (ks.aq:Int) 2<;>cases a2:ah n 0<;>cases a3:aS t<;>simp only[nT,nF,aM,aJ,ae,ga,ZF,jJ,zY,zK,zE]<;>rfl
 case k21=>
  intro h;obtain⟨g1,g2,g3,g4⟩:=h.node;rw[iW,bJ g1,ae,zk5,ae];have e8:ah 21 8=false:=rfl;have ep:ku 21=true:=rfl;simp only[rB,ep,nT,nF,aM,aJ,ae,qL,xd,xe,CK,yZ,xc,uH,cR,hf,w1,w2,hc,he,e8];have hE:ir 21 t n (ks.aq:Int) ks.head pat=bif ai (ga true pat) then 61 else bif ai (ah (ks.aq:Int) 0) then 61 else bif ah n 0 then(bif bW t [] then 0 else 61) else 61:=by rfl
  rw[hE];cases pat<;>cases a1:ah (ks.aq:Int) 0<;>cases a2:ah n 0<;>cases a3:bW t []<;>simp only[nT,nF,aM,aJ,ae,ga,ZF,zK,zE]<;>rfl
 case k22=>
  intro h;obtain⟨g1,g2,g3,g4⟩:=h.node;rw[iW,bJ g1,ae,zk6,ae];have e8:ah 22 8=false:=rfl;have ep:ku 22=true:=rfl;simp only[rB,ep,nT,nF,aM,aJ,ae,qL,xd,xe,uH,cR,hf,w1,w2,hc,he,e8];have hE:ir 22 t n (ks.aq:Int) ks.head pat=bif ai (ga true pat) then 61 else bif ai (ah (ks.aq:Int) 0) then 61 else bif ah n 0 then(bif aS t then 0 else 62) else 61:=by have kk:yX 22 (ks.aq:Int)=ah (ks.aq:Int) 0:=rfl;unfold ir yY AT;rw[kk];cases pat<;>cases ah (ks.aq:Int) 0<;>cases ah n 0<;>cases aS t<;>rfl
  rw[hE];cases pat<;>cases a1:ah (ks.aq:Int) 0<;>cases a2:ah n 0<;>cases a3:aS t<;>simp only[nT,nF,aM,aJ,ae,ga,ZF,zK,zE]<;>rfl
 case k23=>
  intro h;obtain⟨g1,g2,g3,g4⟩:=h.node;rw[iW,bJ g1,ae,zk7,ae];have e8:ah 23 8=false:=rfl;have ep:ku 23=true:=rfl;simp only[rB,ep,nT,nF,aM,aJ,ae,qL,xd,xe,CK,yZ,xc,uH,cR,hf,w1,w2,hc,he,e8];have hE:ir 23 t n (ks.aq:Int) ks.head pat=bif ai (ga true pat) then 61 else bif ai (ah (ks.aq:Int) 0) then 61 else bif rz n then(bif bW t [] then 0 else 61) else 61:=by rfl
  rw[hE];cases pat<;>cases a1:ah (ks.aq:Int) 0<;>cases a2:rz n<;>cases a3:bW t []<;>simp only[nT,nF,aM,aJ,ae,CK,yZ,xc,hc,he,ga,e8,ZF,zK,zE,a3]<;>rfl
 case k24=>
  intro h;obtain⟨g1,g2,g3,g4⟩:=h.node;rw[iW,bJ g1,ae,zk8,ae];have e8:ah 24 8=false:=rfl;have ep:ku 24=true:=rfl;simp only[rB,ep,nT,nF,aM,aJ,ae,rA,S3,S4,CK,yZ,xc,uH,cR,hf,w1,w2,hc,he,e8];have hE:ir 24 t n (ks.aq:Int) ks.head pat=bif ai (ga true pat) then 61 else bif ai (true) then 61 else bif ah n 0 then(bif fb t then 0 else 62) else 61:=by have kk:yX 24 (ks.aq:Int)=true:=rfl;unfold ir yY AT;rw[kk];cases pat<;>cases ah n 0<;>cases fb t<;>rfl
  rw[hE];cases pat<;>cases a1:ah n 0<;>cases a2:fb t<;>simp only[nT,nF,aM,aJ,ae,ga,ZF,zK,zE]<;>rfl
 obtain⟨g1,g2,g3,g4⟩:=hs.node;rw[iW,bJ g1,ae,z3k a h,ae];have hE:ir a t n (ks.aq:Int) ks.head pat=61:=by
  have hs:lY a=-1:=by unfold lY;rw[h 1 dc,h 6 dc,h 9 dc,h 10 dc,h 11 dc,h 21 dc,h 23 dc,h 3 dc,h 5 dc,h 7 dc,h 8 dc,h 12 dc,h 22 dc,h 4 dc,h 24 dc,h 2 dc];rfl
  unfold ir;rw[hs];rfl
 rw[hE];rfl
def FM(x:ND):Prop:=(∀b,b∈x.2.1->0<=b/\b<=255)/\x.2.1.length<=1000000/\nM x.2.2.1
def GL(l:List ND):Prop:=∀x,x∈l->FM x
theorem GL.at{l:List ND}(h:GL l){x:ND}(e:l[k]?=some x):FM x:=h x (zH e)
def fc:Bool->Bool->Bool->F->Int
 |_,_,_,.nil=>0
 |m,pat,eh,.cons kd t n ks r=>
  bif ai (ah (ir kd t n (ks.aq:Int) ks.head (pat||(m&&eh))) 0) then ir kd t n (ks.aq:Int) ks.head (pat||(m&&eh)) else
  bif ai (ah (fc (ah kd 10) (pat||(m&&eh)) false ks) 0) then fc (ah kd 10) (pat||(m&&eh)) false ks else fc m pat (!eh) r
def bO(kd:Int)(t:List Int)(n:Int)(ks:F)(pat:Bool):Int:=bif ai (ah (ir kd t n (ks.aq:Int) ks.head pat) 0) then ir kd t n (ks.aq:Int) ks.head pat else fc (ah kd 10) pat false ks
theorem zpj(m pat eh:Bool):fc m pat eh .nil=0:=id (Eq.refl _)
theorem qv8(m pat eh:Bool)(kd:Int)(t:List Int)(n:Int)(ks r:F):fc m pat eh (.cons kd t n ks r)=bif ai (ah (bO kd t n ks (pat||(m&&eh))) 0) then bO kd t n ks (pat||(m&&eh)) else fc m pat (!eh) r:=by
 conv=>lhs;unfold fc
 unfold bO;cases h:ai (ah (ir kd t n (ks.aq:Int) ks.head (pat||(m&&eh))) 0) with
 |true=>rw[zK,zK,h];rfl
 |false=>rw[zE,zE]
theorem zk9(i:Nat):ah (((i+1:Nat):Int) % 2) 1=!ah ((i:Int) % 2) 1:=by
 by_cases h:(i:Int) % 2=1
 ·have h2:((i+1:Nat):Int) % 2=0:=om
  rw[h,h2];rfl
 ·have h1:(i:Int) % 2=0:=om
  have h2:((i+1:Nat):Int) % 2=1:=om
  rw[h1,h2];rfl
def DU(to:Nat)(e:Int):Int×Int×Unit:=bif ah e 0 then((to:Int),0,()) else(0,e,())
theorem zd1(b b2:Bool)(l:List ND)(hl:l.length<=10000)(hg:GL l){k:Nat}{kd:Int}{t:List Int}{n:Int}{ks:F}(h:ba l k (tr kd t n ks)):∀pat N,ks.size+1<=N->dN oa N (⟨b,l⟩,(k:Int),pat,⟨b2,l⟩,())=some (DU (k+1+ks.size) (bO kd t n ks pat)):=by
 refine F.CJ (l:=l) (P:=fun k kd t n ks=>∀pat N,ks.size+1<=N->dN oa N (⟨b,l⟩,(k:Int),pat,⟨b2,l⟩,())=some (DU (k+1+ks.size) (bO kd t n ks pat))) ?_ h;intro k kd t n ks hs he pat N hN;obtain⟨N,rfl⟩:∃m,N=m+1:=⟨N-1,by omega⟩;show oa (dN oa N) _=_;have⟨g1,g2,g3,g4⟩:=hs.node;have⟨q1,q2,q3⟩:=hg.at g1;rw[aaQ,aaP,z7b b2 l hl pat q1 q3 kd hs];simp[ae];unfold bO;cases hE:ai (ah (ir kd t n (ks.aq:Int) ks.head pat) 0) with
 |true=>
  rw[aM,zK];unfold DU;have:ah (ir kd t n (ks.aq:Int) ks.head pat) 0=false:=by unfold ai at hE;simpa using hE
  rw[this,zE]
 |false=>
  rw[aJ,zE,bJ g1,ae,aG om];have loop:∀(g:F) (q i:Nat),g.CI (fun k kd t n ks=>∀pat N,ks.size+1<=N->dN oa N (⟨b,l⟩,(k:Int),pat,⟨b2,l⟩,())=some (DU (k+1+ks.size) (bO kd t n ks pat))) q->
    g.size<=N->i+g.aq=ks.aq->i<=1000000->
    aI (sS (dN oa N)) (⟨b,l⟩,(k:Int),pat,⟨b2,l⟩,(q:Int),(ks.aq:Int),(i:Int),())=some (DU (q+g.size) (fc (ah kd 10) pat (ah ((i:Int) % 2) 1) g)):=by
   intro g
   induction g with
   |nil=>intro q i _ _ hi _;have hi:i+0=ks.aq:=hi;refine bG ?_;rw[qkk];simp only;rw[bf,zj om];rfl
   |cons kd' t' n' cm r' _ ih=>
    intro q i hE hz hi hk;have hi:i+(r'.aq+1)=ks.aq:=hi;have hz:cm.size+r'.size+1<=N:=hz;have hc:=ks.eJ;have hj:aL pat (some true) (aw (fL l (k:Int)) (fun x3=>aL (ah x3.1 10) (aw (oS (i:Int) 2) (fun x4=>some (ah x4 1))) (some false)))=some (pat||(ah kd 10&&ah ((i:Int) % 2) 1)):=by rw[bJ g1];simp[ae];cases pat<;>cases ah kd 10<;>rfl
    rw[qv8];have hw:=hE.1 (pat||(ah kd 10&&ah ((i:Int) % 2) 1)) N om;generalize hv:bO kd' t' n' cm (pat||(ah kd 10&&ah ((i:Int) % 2) 1))=v at*
    have step:sS (dN oa N) (⟨b,l⟩,(k:Int),pat,⟨b2,l⟩,(q:Int),(ks.aq:Int),(i:Int),())=
      bif ah v 0 then some (.inl (⟨b,l⟩,(k:Int),pat,⟨b2,l⟩,((q+1+cm.size:Nat):Int),(ks.aq:Int),((i+1:Nat):Int),())) else some (.inr (0,v,())):=by
     rw[qkk];simp[hj,ae,hw];rw[bf,zu om,aG om];unfold DU;cases hf:ah v 0 with
     |true=>rfl
     |false=>show aL (ai (ah v 0)) _ _=_;rw[hf];rfl
    cases hf:ah v 0 with
    |true=>
     rw[hf] at step;rw[cY step,ih _ (i+1) hE.2 om om om,zk9];have e:q+1+cm.size+r'.size=q+(F.cons kd' t' n' cm r').size:=by show _=q+(cm.size+r'.size+1);omega
     rw[e];rfl
    |false=>rw[hf] at step;rw[bG step];show _=some (DU _ v);unfold DU;rw[hf];rfl
  exact loop ks (k+1) 0 he om om om
theorem z7c(b b2:Bool)(l:List ND)(hl:l.length<=10000)(hg:GL l){ks:F}(pat:Bool)(h:ba l k (tr kd t n ks)):E0 (⟨b,l⟩,(k:Int),pat,⟨b2,l⟩,())=some (DU (k+1+ks.size) (bO kd t n ks pat)):=IV (ks.size+1) fun N hN=>zd1 b b2 l hl hg h pat N hN
abbrev Tx:=List Int
def cM:List Tx->Bool
 |[]=>false
 |a::r=>decide (a∈r)||cM r
theorem qjs:∀l:List Tx,cM l=false↔l.Nodup
 |[]=>by simp[cM]
 |a::r=>by unfold cM;rw[ZS,<-qjs r,jc,jg]
def uI(l:List ND):List Tx:=l.filterMap fun x=>if x.1=22 then some x.2.1 else none
theorem z3l(a b:List ND):uI (a++b)=uI a++uI b:=List.filterMap_append ..
theorem qnp(x:ND)(l:List ND):uI (x::l)=(if x.1=22 then [x.2.1] else [])++uI l:=by
 show List.filterMap _ (x::l)=_;rw[List.filterMap_cons];by_cases h:x.1=22
 ·rw[zu h,zu h];rfl
 ·rw[zj h,zj h];rfl
theorem z3m(l:List ND):(uI l).length<=l.length:=List.length_filterMap_le _ _
theorem z3n(b:Bool)(l:List ND)(hl:l.length<=10000):∀(m k:Nat) (nb:Bool) (out:List Tx),k+m=l.length->out.length<=k->∃xa,aI pK (⟨b,l⟩,(l.length:Int),(k:Int),⟨nb,out⟩,())=some (⟨xa,out++uI (l.drop k)⟩,()):=by
 intro m
 induction m with
 |zero=>intro k nb out hk _;refine⟨nb,bG ?_⟩;rw[qcj];simp only;rw[bf,zj om,zR om];show _=some (Sum.inr ((⟨nb,out++[]⟩:Sl Tx),()));rw[zv]
 |succ m ih=>
  intro k nb out hk ho;have hc:k<l.length:=om
  rw[lX hc,qnp];have he:=bJ (zh hc);by_cases h:l[k].1=22
  ·have hf:fit (bL (aa out) (aa [l[k].2.1]))=some ():=qK (by show out.length+1<=_;omega);have step:pK (⟨b,l⟩,(l.length:Int),(k:Int),⟨nb,out⟩,())=some (.inl (⟨b,l⟩,(l.length:Int),((k+1:Nat):Int),⟨false,out++[l[k].2.1]⟩,())):=by rw[qcj];simp only;rw[bf,zu om,he,ae,kI,zu h,hf,ae,ae,SY,aG om];rfl
   have⟨xa,h'⟩:=ih (k+1) false (out++[l[k].2.1]) om (by rw[zd,zB];omega);refine⟨xa,?_⟩;rw[cY step,h',zu h,zk]
  ·have step:pK (⟨b,l⟩,(l.length:Int),(k:Int),⟨nb,out⟩,())=some (.inl (⟨b,l⟩,(l.length:Int),((k+1:Nat):Int),⟨nb,out⟩,())):=by rw[qcj];simp only;rw[bf,zu om,he,ae,kI,zj h,ae,aG om]
   have⟨xa,h'⟩:=ih (k+1) nb out om om;refine⟨xa,?_⟩;rw[cY step,h',zj h,jF]
theorem z3o(b:Bool)(l:List ND)(hl:l.length<=10000):∃nb,BZ (⟨b,l⟩,())=some (⟨nb,uI l⟩,()):=by exact z3n b l hl l.length 0 true [] om (zm _)
def xf:List Tx->Bool
 |[]=>false
 |[_]=>false
 |a::b::r=>decide (a=b)||xf (b::r)
theorem qxt:∀l:List Tx,xf l=true↔∃k,k+1<l.length/\l[k+1]?=l[k]?
 |[]=>by simp[xf]
 |[a]=>by simp[xf]
 |a::b::r=>by
  unfold xf;rw[jk,zV,qxt (b::r)];constructor
  ·rintro(h|⟨k,h1,h2⟩)
   ·exact⟨0,by simp,by simp[h]⟩
   ·exact⟨k+1,by simp_all,by simpa using h2⟩
  grind
theorem z0g(a b:Nat):bL (a:Int) (b:Int)=((a+b:Nat):Int):=by show(a:Int)+(b:Int)=_;omega
theorem My{l:List α}(h:i<l.length):nth l i=some l[i]:=by exact zh h
theorem z3p(k0:Nat)(nb:Bool):∀(m k k2:Nat) (s:List Tx),s.length<=1000000->k0+k2+m=s.length->1<=k2->k+1<=k0+k2->∃c:List Tx,aI pL ((k:Int),(k0:Int),(k2:Int),⟨nb,s⟩,())=some (.inr (⟨nb,c⟩,()))/\c.length<s.length:=by
 intro m
 induction m with
 |zero=>
  intro k k2 s hs h1 h2 h3;refine⟨(gb s (k:Int) []).take k,bG ?_,?_⟩
  ·have e1:aa (eN s (k0:Int))=(k2:Int):=by unfold aa eN;rw[jf];omega
   have ez:(gb s (k:Int) ([]:Tx)).length=s.length:=by unfold gb;rw[zd,jv,jp];omega
   rw[qa5];simp[e1];rw[bf,zj om];have c1:dY (aa s) (k:Int)=some k:=by unfold dY aa;rw[zu om,jq]
   have c2:dY (aa (gb s (k:Int) ([]:Tx))) (k:Int)=some k:=by unfold dY aa;rw[zu om,jq]
   rw[c1,ae,c2];rfl
  grind
 |succ m ih=>
  intro k k2 s hs h1 h2 h3;have e1:aa (eN s (k0:Int))=((k2+m+1:Nat):Int):=by unfold aa eN;rw[jf];omega
  have e2:dx .i64 (k2:Int) 1=((k2-1:Nat):Int):=by rw[oY om om];omega
  have l1:cD 0 (k2:Int)=true:=zw om;have l2:cD 0 ((k2-1:Nat):Int)=true:=zw om;have step:∃(k':Nat) (s':List Tx),pL ((k:Int),(k0:Int),(k2:Int),⟨nb,s⟩,())=some (.inl ((k':Int),(k0:Int),((k2+1:Nat):Int),⟨nb,s'⟩,()))/\s'.length=s.length/\k'+1<=k0+(k2+1):=by
   rw[qa5];simp[e1];rw[bf,zu om,e2,l1,l2,aM,aM,z0g,z0g,oL om,oL om];simp[ae,My (show k0+k2<s.length by omega),My (show k0+(k2-1)<s.length by omega)];cases bW s[k0+k2] s[k0+(k2-1)] with
   |true=>refine⟨k,s,?_,rfl,by omega⟩;simp[ai,Bool.not_true,aJ,ae,aG (show k2<=1000000000 by omega)]
   |false=>refine⟨k+1,s.set k s[k0+k2],?_,by rw[List.length_set],by omega⟩;simp[ai,Bool.not_false,aM,ae,oL (show k<s.length by omega),My (show k<s.length by omega),aG (show k2<=1000000000 by omega),aG (show k<=1000000000 by omega)];rfl
  have⟨k',s',h4,h5,h6⟩:=step;have⟨c,g1,g2⟩:=ih k' (k2+1) s' om om om h6;exact⟨c,by rw[cY h4,g1],by omega⟩
theorem qv9(nb:Bool)(s:List Tx)(hs:s.length<=1000000):∀(m k:Nat),k+m=s.length->1<=k->(∀j,j+1<k->s[j+1]?≠s[j]?)->∃c,aI sT ((k:Int),⟨nb,s⟩,())=some (⟨nb,c⟩,())/\decide (c.length<s.length)=xf s:=by
 intro m
 induction m with
 |zero=>
  intro k h1 h2 h3;refine⟨s,bG ?_,?_⟩
  ·rw[q6d];simp only;rw[bf,zj (by unfold aa;omega)]
  ·have:xf s=false:=by
    cases h:xf s with
    |false=>rfl
    |true=>
     have⟨j,g1,g2⟩:=(qxt s).1 h
     grind
   rw[this];exact zt (Nat.lt_irrefl _)
 |succ m ih=>
  intro k h1 h2 h3;have e2:dx .i64 (k:Int) 1=((k-1:Nat):Int):=by rw[oY om om];omega
  have hc:dY (aa s) (k:Int)=some k:=by unfold dY aa;rw[zu om,jq]
  by_cases he:s[k]=s[k-1]
  ·have⟨c,g1,g2⟩:=z3p k nb m k 1 s hs om (zm _) om;have g1:aI pL ((k:Int),(k:Int),1,⟨nb,s⟩,())=some (.inr (⟨nb,c⟩,())):=g1;refine⟨c,bG ?_,?_⟩
   ·rw[q6d];simp only;rw[bf,zu (by unfold aa;omega),e2,oL om,oL om];simp[ae,My (show k<s.length by omega),My (show k-1<s.length by omega),hc];rw[DI,zu he,g1]
   ·have:xf s=true:=(qxt s).2 ⟨k-1,by omega,by rw[show k-1+1=k by omega,zh om,zh om,he]⟩;rw[this];exact zw g2
  ·have step:sT ((k:Int),⟨nb,s⟩,())=some (.inl (((k+1:Nat):Int),⟨nb,s⟩,())):=by rw[q6d];simp only;rw[bf,zu (by unfold aa;omega),e2,oL om,oL om];simp only[ae,My (show k<s.length by omega),My (show k-1<s.length by omega)];rw[DI,zj he,aG om]
   have⟨c,g1,g2⟩:=ih (k+1) om om (fun j hj=>by
    by_cases hf:j+1=k
    ·have:j=k-1:=om
     subst this;rw[show k-1+1=k by omega,zh om,zh om];exact fun e=>he (jb e)
    ·exact h3 j om)
   exact⟨c,by rw[cY step,g1],g2⟩
theorem qva(nb:Bool)(s:List Tx)(hs:s.length<=1000000):∃c,B3 (⟨nb,s⟩,())=some (⟨nb,c⟩,())/\decide (c.length<s.length)=xf s:=by
 rw[aaS,bf];by_cases h:aa s<2
 ·rw[zu h];refine⟨s,rfl,?_⟩;have:xf s=false:=by
   have h:(s.length:Int)<2:=h
   match s,h with
   |[],_=>rfl
   |[a],_=>rfl
   |a::b::r,h=>simp at h;omega
  grind
 ·rw[zj h];have h:¬(s.length:Int)<2:=h;exact qv9 nb s hs (s.length-1) 1 om (zm _) (fun j hj=>by omega)
theorem qqg:∀l:List Tx,(l.Pairwise fun a b=>(!strLt b a)=true)->xf l=cM l
 |[],_=>rfl
 |[a],_=>by simp[xf,cM]
 |a::b::r,h=>by
  have ih:=qqg (b::r) (ZU.1 h).2;unfold xf
  conv=>rhs;unfold cM
  by_cases hc:a=b
  ·simp[hc]
  ·have hm:a∉b::r:=by
    intro hm;rcases zA.1 hm with e|e
    ·exact hc e
    ·have h1:=(ZU.1 h).1 b (zg ..);have h2:=(ZU.1 (ZU.1 h).2).1 a e;simp at h1 h2;exact hc (QG _ _ h2 h1)
   grind
theorem zd2{a b:List Tx}(h:a.Perm b):cM a=cM b:=by have:=h.nodup_iff;rw[<-qjs,<-qjs] at this;cases ha:cM a<;>cases hb:cM b<;>simp_all
theorem zng(nb:Bool)(s:List Tx)(hs:s.length<=1000000)(hg:∀x,x∈s->IY x=true):∃c xa,aw (B0 (⟨nb,s⟩,())) (fun x=>B3 (x.1,()))=some (⟨xa,c⟩,())/\decide (c.length<s.length)=cM s:=by
 have e:B0 (⟨nb,s⟩,())=some (⟨nb,s.mergeSort fun a b=>!strLt b a⟩,()):=by
  rw[<-zgo];show(bif s.all IY&&decide (s.length<4611686018427387904) then _ else none)=_
  grind
 have hc:(s.mergeSort fun a b=>!strLt b a).length=s.length:=ZE _;have⟨c,h1,h2⟩:=qva nb (s.mergeSort fun a b=>!strLt b a) om;rw[e];refine⟨c,nb,h1,?_⟩;rw[<-hc,h2,qqg,zd2 (ZO _ _)];refine List.pairwise_mergeSort (fun a b c h1 h2=>?_) (fun a b=>?_) _
 ·simp at h1 h2 ⊢;cases h3:strLt c a with
  |false=>rfl
  |true=>
   cases h4:strLt b c with
   |true=>rw[QF _ _ _ h4 h3] at h1;cases h1
   |false=>
    have e:=QG _ _ h2 h4
    grind
 ·cases h3:strLt b a with
  |false=>rfl
  |true=>
   cases h4:strLt a b with
   |false=>rfl
   |true=>have:=QF _ _ _ h3 h4;rw[qdv] at this;cases this
theorem ba.qM{l:List ND}{f:F}(h:ba l k f):(l.drop k).take f.size=f.flat:=by obtain⟨post,h⟩:=h;rw[h,<-f.len,Zz];rfl
theorem zd3(a c:List α)(h:a.length=c.length):uz a c=c:=by
 unfold uz
 grind
theorem zd4(b:Bool)(l:List ND)(hl:l.length<=10000){ks r:F}(h:ba l k (.cons kd t n ks r)):BY (⟨b,l⟩,(k:Int),())=some (⟨false,(tr kd t n ks).flat⟩,0,()):=by
 obtain⟨g1,g2,g3,g4⟩:=h.node;rw[aaR,OK b l hl,h.ends];have hs:dx .i64 ((k+1+ks.size:Nat):Int) (k:Int)=((ks.size+1:Nat):Int):=by rw[oY om om];omega
 have hm:wy ((ks.size+1:Nat):Int) ((ks.size+1:Nat):Int)=some (ks.size+1):=by unfold wy;rw[zu om,jq]
 have hc:bS l (k:Int) ((k+1+ks.size:Nat):Int)=some ((l.take (k+1+ks.size)).drop k):=by unfold bS;rw[zu om,jq,jq]
 have hd:(l.take (k+1+ks.size)).drop k=(tr kd t n ks).flat:=by rw[Zq,show k+1+ks.size-k=(tr kd t n ks).size by rw[CH];omega];exact h.first.qM
 simp only[ae];rw[bf,zj om];simp only[hs,hm,ae,hc,hd];rw[zd3];rw[(tr kd t n ks).len,CH];exact jp
theorem GL.sub{l:List ND}(hg:GL l){f:F}(h:ba l k f):GL f.flat:=by intro x hx;rw[<-h.qM] at hx;exact hg x (jB (jK hx))
theorem z3q{l:List ND}(hg:GL l):∀x,x∈uI l->IY x=true:=by
 intro x hx;obtain⟨d,h1,h2⟩:=List.mem_filterMap.1 hx;by_cases h:d.1=22
 ·rw[zu h] at h2;injection h2 with h2;subst h2;obtain⟨g1,g2,_⟩:=hg d h1;unfold IY
  grind
 grind
theorem qxu(b:Bool)(l:List ND)(hl:l.length<=10000)(hg:GL l){ks r:F}(h:ba l k (.cons kd t n ks r)):yo ((k:Int),⟨b,l⟩,())=some (cM (uI (tr kd t n ks).flat),()):=by
 obtain⟨g1,g2,g3,g4⟩:=h.node;rw[aaU,zd4 b l hl h];simp only[ae];have hc:(tr kd t n ks).flat.length<=10000:=by rw[(tr kd t n ks).len,CH];omega
 obtain⟨nb,h1⟩:=z3o false (tr kd t n ks).flat hc;have hn:=z3m (tr kd t n ks).flat
 obtain⟨c,xa,h2,h3⟩:=zng nb (uI (tr kd t n ks).flat) om (z3q (hg.sub h.first));have h4:B4 (⟨false,(tr kd t n ks).flat⟩,())=some (aa (uI (tr kd t n ks).flat),()):=by rw[aaT,h1];rfl
 rw[h1];simp only[ae,h4];cases hs:B0 (⟨nb,uI (tr kd t n ks).flat⟩,()) with
 |none=>rw[hs] at h2;cases h2
 |some x=>rw[hs,ae] at h2;simp only[ae,h2];rw[<-h3];congr 2;exact jz.2 (by unfold aa;omega)
def OL:F->List Tx
 |.nil=>[]
 |.cons kd t _ ks r=>(bif ah kd 22 then [t] else OL ks)++OL r
def OM(kd:Int)(t:Tx)(ks:F):List Tx:=bif ah kd 22 then [t] else OL ks
theorem z3t(kd:Int)(t:Tx)(n:Int)(ks r:F):OL (.cons kd t n ks r)=OM kd t ks++OL r:=id (Eq.refl _)
def FN:F->Bool
 |.nil=>false
 |.cons kd t _ ks r=>(bif ku kd then cM (OM kd t ks) else FN ks)||FN r
def CL(kd:Int)(t:Tx)(ks:F):Bool:=bif ku kd then cM (OM kd t ks) else FN ks
theorem z0h(kd:Int)(t:Tx)(n:Int)(ks r:F):FN (.cons kd t n ks r)=(CL kd t ks||FN r):=id (Eq.refl _)
theorem qjt{a:Int}:(bif ai (ah a 0) then a else b)=0↔a=0/\b=0:=by
 cases h:ah a 0 with
 |true=>have:=cQ.1 h;rw[nT,zE];omega
 |false=>
  have hn:a≠0:=fun e=>by rw[e] at h;cases h
  rw[nF,zK];omega
theorem bE{t:Tx}{ks:F}:bO kd t n ks pat=0↔ir kd t n (ks.aq:Int) ks.head pat=0/\fc (ah kd 10) pat false ks=0:=qjt
theorem cK{m eh:Bool}{t:Tx}{ks r:F}:fc m pat eh (.cons kd t n ks r)=0↔bO kd t n ks (pat||(m&&eh))=0/\fc m pat (!eh) r=0:=by rw[qv8];exact qjt
def Mz(k n:Int):Bool:=bif ah k 1||ah k 23 then rz n else ah n 0
def uJ(k:Int)(t:Tx):Bool:=(bif ah (lY k) 0 then bW t [] else bif ah (lY k) 3 then ai (aZ 200 (aa t)) else true)&&ai (ah (lY k) 1&&ai (aS t))&&ai (ah (lY k) 2&&ai (fb t))
def zka(k hk:Int):Bool:=ai (ah k 8&&ai (ah hk 5))
theorem z3u(k:Int)(t:Tx)(hk:Int):yY k t hk=0↔uJ k t=true/\zka k hk=true:=by unfold yY AT uJ zka;generalize (ah k 8&&ai (ah hk 5))=T;generalize ah (lY k) 0=s0;generalize ah (lY k) 1=s1;generalize ah (lY k) 2=s2;generalize ah (lY k) 3=s3;generalize bW t []=a;generalize aZ 200 (aa t)=c;generalize aS t=d;generalize fb t=e;revert T s0 s1 s2 s3 a c d e;decide
theorem bC{k:Int}{t:Tx}{hk:Int}:ir k t n c hk pat=0↔aZ (lY k) 0=false/\ku k=pat/\yX k c=true/\Mz k n=true/\uJ k t=true/\zka k hk=true:=by
 rw[<-z3u];have e:ir k t n c hk pat=bif aZ (lY k) 0 then 61 else bif ai (ga (ku k) pat) then 61 else bif ai (yX k c) then 61 else bif Mz k n then yY k t hk else 61:=by unfold ir Mz;cases (ah k 1||ah k 23)<;>rfl
 rw[e];cases aZ (lY k) 0 with
 |true=>simp
 |false=>
  have hp:ga (ku k) pat=true↔ku k=pat:=by cases ku k<;>cases pat<;>decide
  cases h1:ga (ku k) pat with
  |false=>
   have:ku k≠pat:=fun e=>by rw[hp.2 e] at h1;cases h1
   simp[nF,this]
  |true=>
   have:=hp.1 h1;cases yX k c with
   |false=>simp[nF]
   |true=>
    rw[nT];cases Mz k n with
    |false=>simp
    |true=>simp[this]
theorem AU{k:Int}(h:yX k c=true):(k=5\/k=11->c=1)/\(k=6\/k=7\/k=8\/k=12->c=2)/\(k=9->c=3)/\(k=10->3<=c/\c % 2=1)/\(k=1\/k=2\/k=3\/k=4\/k=21\/k=22\/k=23->c=0):=by
 refine⟨?_,?_,?_,?_,?_⟩
 ·rintro(rfl|rfl)<;>exact cQ.1 h
 ·rintro(rfl|rfl|rfl|rfl)<;>exact cQ.1 h
 ·rintro rfl;exact cQ.1 h
 ·rintro rfl;have h:(cD 3 c&&ah (c % 2) 1)=true:=h;rw[ze,cQ] at h;exact⟨zZ h.1,h.2⟩
 ·rintro(rfl|rfl|rfl|rfl|rfl|rfl|rfl)<;>exact cQ.1 h
theorem xh{f:F}(h:(f.aq:Int)=0):f=.nil:=by
 cases f with
 |nil=>rfl
 |cons _ _ _ _ r=>have h:((r.aq+1:Nat):Int)=0:=h;omega
theorem qgg:∀(f:F) (m pat eh:Bool),fc m pat eh f=0->uI f.flat=OL f
 |.nil,_,_,_,_=>rfl
 |.cons kd t n ks r,m,pat,eh,h=>by
  have⟨h1,h2⟩:=cK.1 h;have⟨h3,h4⟩:=bE.1 h1;have i1:=qgg ks _ _ _ h4;have i2:=qgg r _ _ _ h2;show uI ((kd,t,n,(ks.aq:Int))::(ks.flat++r.flat))=_;rw[qnp,z3l,i1,i2,z3t];unfold OM;by_cases hc:kd=22
  ·subst hc;have:=(AU (bC.1 h3).2.2.1).2.2.2.2 om;rw[xh this];rfl
  ·rw[zj hc,cZ hc];rfl
theorem qvb{t:Tx}{ks:F}(h:bO kd t n ks pat=0):uI (tr kd t n ks).flat=OM kd t ks:=by have h':fc false pat false (tr kd t n ks)=0:=cK.2 ⟨by rw[ZJ,Zo];exact h,rfl⟩;rw[qgg _ _ _ _ h'];exact zv _
theorem zd5(b:Bool)(l:List ND)(hl:l.length<=10000)(hg:GL l):∀(f:F) (q:Nat) (m pat eh:Bool),ba l q f->q<=l.length->fc m pat eh f=0->aI ot ((q:Int),⟨b,l⟩,())=bif FN f then some (63,()) else aI ot (((q+f.size:Nat):Int),⟨b,l⟩,()):=by
 intro f
 induction f with
 |nil=>intro q m pat eh _ _ _;rfl
 |cons kd t n ks r kq kC=>
  intro q m pat eh hs hq he;have⟨g1,g2,g3,g4⟩:=hs.node;have⟨h1,h2⟩:=cK.1 he;have⟨h3,h4⟩:=bE.1 h1;rw[z0h];have esz:q+(F.cons kd t n ks r).size=q+1+ks.size+r.size:=by show q+(ks.size+r.size+1)=_;omega
  rw[esz];have rest:=kC (q+1+ks.size) m pat (!eh) g3 om h2;cases hp:ku kd with
  |true=>
   have hT:CL kd t ks=cM (OM kd t ks):=by unfold CL;rw[hp];rfl
   have hc:=qxu b l hl hg hs;rw[qvb h1,<-hT] at hc;have step:ot ((q:Int),⟨b,l⟩,())=bif CL kd t ks then some (.inr (63,())) else some (.inl (((q+1+ks.size:Nat):Int),⟨b,l⟩,())):=by
    rw[qck];simp only;rw[bf,zu (by unfold aa;omega),bJ g1];simp[ae,rB,hp,nT,aJ,hc];cases CL kd t ks with
    |true=>rfl
    |false=>
     rw[aJ,OK b l hl,hs.ends];simp only[ae];have e1:dx .i64 ((q+1+ks.size:Nat):Int) 1=((q+ks.size:Nat):Int):=by rw[oY om om];omega
     rw[e1];show some (Sum.inl (bc .i64 ((q+ks.size:Nat):Int) 1,_,()))=_;rw[aG om,show q+ks.size+1=q+1+ks.size by omega];rfl
   cases ht:CL kd t ks with
   |true=>rw[ht] at step;rw[bG step];rfl
   |false=>rw[ht] at step;rw[cY step,rest];rfl
  |false=>
   have hT:CL kd t ks=FN ks:=by unfold CL;rw[hp];rfl
   have step:ot ((q:Int),⟨b,l⟩,())=some (.inl (((q+1:Nat):Int),⟨b,l⟩,())):=by rw[qck];simp only;rw[bf,zu (by unfold aa;omega),bJ g1];simp only[ae,rB,hp,nF,aM];show some (Sum.inl (bc .i64 (q:Int) 1,_,()))=_;rw[aG om]
   rw[cY step,kq (q+1) _ _ _ g2 om h4,hT];cases FN ks with
   |true=>rfl
   |false=>rw[zE,rest];rfl
def ua(kd:Int)(t:Tx)(n:Int)(ks:F)(pat:Bool):Int:=bif aZ 100 ((ks.dep+1:Nat):Int) then 60 else bif ai (ah (bO kd t n ks pat) 0) then bO kd t n ks pat else bif CL kd t ks then 63 else 0
theorem z3v(b:Bool)(kd:Int)(t:Tx)(n:Int)(ks:F)(pat:Bool)(hl:ks.size+1<=4000)(hg:GL (tr kd t n ks).flat):B5 (⟨b,(tr kd t n ks).flat⟩,pat,())=some (ua kd t n ks pat,()):=by
 have hc:(tr kd t n ks).flat.length=ks.size+1:=(tr kd t n ks).len;have hs:=S1 kd t n ks;rw[Mn,SX b _ om,(Xa _).2 ⟨kd,t,n,ks,rfl⟩,z7a b kd t n ks om];have hw:=z7c b b _ om hg pat hs;have h0:((0:Nat):Int)=0:=rfl;rw[h0] at hw;have c0:aZ 4000 (aa (tr kd t n ks).flat)=false:=zt (by unfold aa;omega);simp only[c0,aJ,ae,nT,hw];unfold ua;cases aZ 100 ((ks.dep+1:Nat):Int) with
 |true=>rfl
 |false=>
  rw[aJ,zE];unfold DU;cases hv:ah (bO kd t n ks pat) 0 with
  |false=>rw[zE];rw[hv];rfl
  |true=>
   rw[zK,nT,zE];have hz:=cQ.1 hv;have:=zd5 b (tr kd t n ks).flat om hg (tr kd t n ks) 0 false pat false hs om (cK.2 ⟨by rw[ZJ,Zo];exact hz,rfl⟩);rw[h0,z0h] at this;rw[this];have hf:FN .nil=false:=rfl;rw[hf,Zo];cases CL kd t ks with
   |true=>rfl
   |false=>rw[zE,zE];refine bG ?_;rw[qck];rw[bf,zj (by unfold aa;rw[hc,CH];omega)]
theorem z3w(b:Bool)(l:List ND)(hl:l.length<=4000)(pat:Bool)(h:DS l=false):B5 (⟨b,l⟩,pat,())=some (60,()):=by rw[Mn,SX b _ om,h];have c0:aZ 4000 (aa l)=false:=zt (by unfold aa;omega);simp[c0,aJ,ae,nF,aM]
theorem z7d(l:List ND):DS l=false\/∃kd t n ks,l=(tr kd t n ks).flat:=by
 cases h:DS l with
 |false=>exact .inl rfl
 |true=>exact .inr ((Xa l).1 h)
theorem qju(b:Bool)(kd:Int)(t:Tx)(n:Int)(ks:F)(hl:ks.size+1<=4000)(hg:GL (tr kd t n ks).flat):iU (⟨b,(tr kd t n ks).flat⟩,())=some (ua kd t n ks false,()):=by rw[Mp,z3v b kd t n ks false hl hg];rfl
theorem qqh(b:Bool)(l:List ND)(hl:l.length<=4000)(h:DS l=false):iU (⟨b,l⟩,())=some (60,()):=by rw[Mp,z3w b l hl false h];rfl
theorem FP{t:Tx}{ks:F}:ua kd t n ks pat=0↔ks.dep+1<=100/\bO kd t n ks pat=0/\CL kd t ks=false:=by
 unfold ua;cases h:aZ 100 ((ks.dep+1:Nat):Int) with
 |true=>
  have:=zZ h
  grind
 |false=>
  have:=Ze h;rw[zE,qjt]
  grind
end Fn
end Ev