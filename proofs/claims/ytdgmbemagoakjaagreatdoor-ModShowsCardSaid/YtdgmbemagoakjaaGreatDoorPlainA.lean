/- Layers 2 and 6 in plain words: names, trees, patterns. -/
import Derived.Test.YtdgmbemagoakjaaGreatDoorFnB
import Derived.Test.YtdgmbemagoakjaaGreatDoorAw
import Derived.Laws.RangeAny
set_option linter.defProp false
namespace Ev
open Go
namespace Fn
def vA:List (List Int):=[[108,101,116],[114,101,99],[105,110],[102,117,110],[105,102],[116,104,101,110],[101,108,115,101],[109,97,116,99,104],[119,105,116,104],[101,110,100],[114,97,105,115,101],[116,114,121],[111,112,101,110],[116,121,112,101],[111,102],[105,110,102,105,120,108],[105,110,102,105,120,114],[105,110,102,105,120],[45,62],[61],[124],[40],[41],[95],[59,59]]
def z3l:Cr ()=some (⟨false,vA⟩,()):=(adq 300).h () _ (by kernel_rfl)
def aB{k:Nat}(h:k<=1000000000):cE .i64 (k:Int) 1=((k+1:Nat):Int):=by rw[Ch om om];omega
def jW{α:Type}{l:List α}{k:Nat}(h:k<l.length):l.drop k=l[k]::l.drop (k+1):=List.drop_eq_getElem_cons h
def vc{α:Type}{l:List α}{i:Nat}(h:i<l.length):cD l (i:Int)=some i:=by unfold cD;rw[if_pos om];rfl
def z7y{α:Type}{l:List α}{i:Nat}{x:α}(h:l[i]?=some x):nth l i=some x:=h
def qyh{α:Type}{l:List α}{k:Nat}(h:k<=l.length):cI l 0 (k:Int)=some (l.take k):=by unfold cI;rw[if_pos om];rfl
def qr8(s:List Int)(n:Bool)(l:List (List Int))(hl:l.length<=1000000):∀(m k:Nat),k+m=l.length->∃r,aD nI (⟨n,l⟩,s,(l.length:Int),(k:Int),())=some (r,())/\(0<=r↔s∈l.drop k):=by
 intro m
 induction m with
 |zero=>intro k hk;refine⟨-1,bZ ?_,by rw[zw om];simp⟩;rw[qdw];simp only;rw[bD,if_neg om]
 |succ m ih=>
  intro k hk;have hc:k<l.length:=om
  rw[jW hc];have step:nI (⟨n,l⟩,s,(l.length:Int),(k:Int),())=if s=l[k] then some (.inr ((k:Int),())) else some (.inl (⟨n,l⟩,s,(l.length:Int),((k+1:Nat):Int),())):=by rw[qdw];simp only;rw[bD,if_pos om,aU (zf hc),af,GB,aB om]
  by_cases h:s=l[k]
  ·rw[if_pos h] at step;exact⟨k,bZ step,by simp[h,-List.getElem_cons_drop]⟩
  ·rw[if_neg h] at step;obtain⟨r,h1,h2⟩:=ih (k+1) om;exact⟨r,by rw[cU step,h1],by rw[h2];simp[h,-List.getElem_cons_drop]⟩
def qt0(s:List Int):oU (s,())=some (decide (s∈vA),()):=by obtain⟨r,h1,h2⟩:=qr8 s false vA dc 25 0 dc;rw[aap,z3l,af,Uk,Uj];have h1:aD nI (⟨false,vA⟩,s,ae vA,0,())=some (r,()):=h1;simp only[h1,af];have:bJ 0 r=decide (s∈vA):=decide_eq_decide.2 (by rw[h2];rfl);rw[this]
def aR:List Int:=[33,36,37,38,42,43,45,47,58,60,61,62,63,64,94,124]
def z7z(c:Int):∀l:List Int,(0<=qy c l↔c∈l)
 |[]=>by simp[qy]
 |b::r=>by
  have ih:=z7z c r;unfold qy
  grind
def z80(c:Int):oV (c,())=some (decide (c∈aR),()):=by rw[aat,aas,af];have:bJ 0 (qy c aR)=decide (c∈aR):=decide_eq_decide.2 (z7z c aR);show some (bJ 0 (qy c aR),())=_;rw[this]
def A9(s:List Int):Bool:=!s.isEmpty&&s.all fun b=>decide (b∈aR)
def gJ(s:List Int):Bool:=A9 s&&!decide (s∈vA)
def z81{b:Int}(h:b∈aR):0<=b/\b<=126:=by unfold aR at h;simp only[zk,List.not_mem_nil,or_false] at h;omega
def qyi{s:List Int}(hs:∀b,b∈s->0<=b/\b<=255){k:Nat}(hk:k<s.length):(s[k]<=127->fN s (k:Int)=s[k]/\gO s (k:Int)=((k+1:Nat):Int))/\(127<s[k]->126<fN s (k:Int)):=by
 have hb:=hs _ (List.getElem_mem hk);have he:(Bv s).size=s.length:=by show(s.map _).toArray.size=_;simp
 have hc:k<(Bv s).size:=om
 have hg:(((Bv s)[k]'hc).toNat:Int)=s[k]:=by
  have:(Bv s)[k]'hc=UInt8.ofNat s[k].toNat:=by
   have h1:(Bv s)[k]'hc=((s.map fun b=>UInt8.ofNat b.toNat).toArray)[k]'(by simpa using hk):=rfl
   grind
  rw[this,UInt8.toNat_ofNat',Nat.mod_eq_of_lt om];omega
 unfold fN gO;rw[Int.toNat_natCast,if_pos om];constructor
 ·intro h;have:=decode_ascii (Bv s) k hc om
  grind
 ·intro h;have:=(decode_high (Bv s) k hc om).1;omega
def zcc{s:List Int}(hs:∀b,b∈s->0<=b/\b<=255):∀(m k:Nat),k+m=s.length->aD tD (s,s,(k:Int),())=some ((s.drop k).all (fun b=>decide (b∈aR))&&!s.isEmpty,()):=by
 intro m
 induction m with
 |zero=>intro k hk;refine bZ ?_;rw[qh6];simp only;rw[bD,if_neg (by unfold ae;omega),zw om];cases s<;>rfl
 |succ m ih=>
  intro k hk;have hc:k<s.length:=om
  rw[jW hc];obtain⟨h1,h2⟩:=qyi hs hc;have c0:aL (k:Int) (ae s)=true:=zt (by unfold ae;omega);have hb:=hs _ (List.getElem_mem hc);have step:tD (s,s,(k:Int),())=if s[k]∈aR then some (.inl (s,s,((k+1:Nat):Int),())) else some (.inr (false,())):=by
   rw[qh6];simp only[c0,aK,af];by_cases h:s[k]<=126
   ·obtain⟨e1,e2⟩:=h1 om;rw[e1,e2];have c1:aL 126 s[k]=false:=zo om;have c2:dV .u8 s[k]=s[k]:=by rw[XM];omega
    simp only[c1,aI,c2,z80,af,ar];by_cases hm:s[k]∈aR
    ·rw[if_pos hm];simp[hm,aI]
    ·rw[if_neg hm];simp[hm,aK]
   ·have hm:s[k]∉aR:=fun e=>by have:=z81 e;omega
    rw[if_neg hm];have c1:aL 126 (fN s (k:Int))=true:=by refine zt ?_;omega
    simp only[c1,aK,af]
  by_cases hm:s[k]∈aR
  ·rw[if_pos hm] at step;rw[cU step,ih (k+1) om]
   grind
  ·rw[if_neg hm] at step;rw[bZ step]
   grind
def zcd{s:List Int}(hs:∀b,b∈s->0<=b/\b<=255):Am (s,())=some (A9 s,()):=by rw[aau];have:=zcc hs s.length 0 om;rw[List.drop_zero,Bool.and_comm] at this;exact this
def vd:List Int->Nat
 |[]=>0
 |b::r=>if b∈aR then vd r+1 else 0
def z0z:∀s:List Int,(vd s=s.length↔s.all (fun b=>decide (b∈aR))=true)
 |[]=>by simp[vd]
 |b::r=>by
  have ih:=z0z r;unfold vd
  grind
def Zo(s:List Int)(hs:∀b,b∈s->0<=b/\b<=255):j5 ((5,s,0,0),())=some (gJ s,()):=by rw[Nd,zcd hs,qt0];have c1:aL 0 0=false:=rfl;have c2:ag 5 3=false:=rfl;have c3:ag 0 0=true:=rfl;have c4:ag 5 1=false:=rfl;have c5:ag 5 2=false:=rfl;have c6:ag 5 4=false:=rfl;have c7:ag 5 5=true:=rfl;simp only[c1,c2,c3,c4,c5,c6,c7,aI,aK,af,ar,Bool.not_true,Bool.not_false];unfold gJ;cases A9 s<;>rfl
def pj(c:Int):Bool:=bJ 97 c&&bJ c 122
def lM(c:Int):Bool:=bJ 65 c&&bJ c 90
def E1(c:Int):Bool:=bJ 48 c&&bJ c 57
def j7(c:Int):Bool:=pj c||lM c||E1 c||ag c 95||ag c 39
def Ll(a b:Bool):(aP a (some b) (some false):Option Bool)=some (a&&b):=by cases a<;>rfl
def UU(a b:Bool):(aP a (some true) (some b):Option Bool)=some (a||b):=by cases a<;>rfl
def qr9(c:Int):qG (c,())=some (pj c,()):=by rw[aak,Ll];rfl
def qra(c:Int):qH (c,())=some (lM c,()):=by rw[aal,Ll];rfl
def z3m(c:Int):qI (c,())=some (E1 c,()):=by rw[aam,Ll];rfl
def z3n(c:Int):qJ (c,())=some (j7 c,()):=by rw[aan,qr9,qra,z3m];simp only[af,UU];rfl
def z82{c:Int}(h:j7 c=true):0<=c/\c<=126:=by unfold j7 pj lM E1 bJ at h;simp only[Bool.or_eq_true,ze,decide_eq_true_eq,ct] at h;omega
def z83{s:List Int}(hs:∀b,b∈s->0<=b/\b<=255):∀(m k:Nat),k+m=s.length->aD tC (s,s,(k:Int),())=some ((s.drop k).all j7&&!s.isEmpty,()):=by
 intro m
 induction m with
 |zero=>intro k hk;refine bZ ?_;rw[qp0];simp only;rw[bD,if_neg (by unfold ae;omega),zw om];cases s<;>rfl
 |succ m ih=>
  intro k hk;have hc:k<s.length:=om
  rw[jW hc];obtain⟨h1,h2⟩:=qyi hs hc;have c0:aL (k:Int) (ae s)=true:=zt (by unfold ae;omega);have hb:=hs _ (List.getElem_mem hc);have step:tC (s,s,(k:Int),())=if j7 s[k]=true then some (.inl (s,s,((k+1:Nat):Int),())) else some (.inr (false,())):=by
   rw[qp0];simp only[c0,aK,af];by_cases h:s[k]<=126
   ·obtain⟨e1,e2⟩:=h1 om;rw[e1,e2];have c1:aL 126 s[k]=false:=zo om;have c2:dV .u8 s[k]=s[k]:=by rw[XM];omega
    simp only[c1,aI,c2,z3n,af,ar];cases j7 s[k]<;>rfl
   ·have hm:¬j7 s[k]=true:=fun e=>by have:=z82 e;omega
    rw[if_neg hm];have c1:aL 126 (fN s (k:Int))=true:=by refine zt ?_;omega
    simp only[c1,aK,af]
  rw[List.all_cons];cases hm:j7 s[k] with
  |true=>rw[hm,if_pos rfl] at step;rw[cU step,ih (k+1) om,Bool.true_and]
  |false=>rw[hm,if_neg dc] at step;rw[bZ step,Bool.false_and,Bool.false_and]
def qvt{s:List Int}(hs:∀b,b∈s->0<=b/\b<=255):wc (s,())=some (s.all j7&&!s.isEmpty,()):=by rw[aao];exact z83 hs s.length 0 om
def BI(c:Int):Int:=bif decide (c∈aR) then 5 else bif pj c then 1 else bif lM c then 2 else bif E1 c then 3 else bif ag c 95||ag c 39 then 4 else 0
def qll{c:Int}(h:c∈aR):j7 c=false:=by unfold aR at h;simp only[zk,List.not_mem_nil,or_false] at h;rcases h with h|h|h|h|h|h|h|h|h|h|h|h|h|h|h|h<;>subst h<;>decide
def z3o(c:Int):(bJ 1 (BI c)&&bJ (BI c) 4)=j7 c:=by
 unfold BI;by_cases h:c∈aR
 ·rw[qll h];simp[h,bJ]
 ·simp only[h,decide_false,cond_false];unfold j7;cases pj c<;>cases lM c<;>cases E1 c<;>cases h1:ag c 95<;>cases ag c 39<;>rfl
def qyj{c:Int}(h:lM c=true):pj c=false:=by
 unfold lM pj bJ at*
 grind
def z3p{c:Int}(h:j7 c=true):ag (BI c) 1=pj c:=by
 unfold BI;have hs:c∉aR:=fun e=>by rw[qll e] at h;cases h
 simp only[hs,decide_false,cond_false];cases pj c<;>cases lM c<;>cases E1 c<;>cases (ag c 95||ag c 39)<;>rfl
def z3q{c:Int}(h:j7 c=true):ag (BI c) 2=lM c:=by
 unfold BI;have hs:c∉aR:=fun e=>by rw[qll e] at h;cases h
 simp only[hs,decide_false,cond_false];cases hg:lM c with
 |true=>rw[qyj hg];rfl
 |false=>cases pj c<;>cases E1 c<;>cases (ag c 95||ag c 39)<;>rfl
def pn:List Int->Nat
 |[]=>0
 |b::r=>bif j7 b then pn r+1 else 0
def zgr:∀s,pn s<=s.length
 |[]=>Nat.le_refl _
 |b::r=>by unfold pn;have:=zgr r;cases j7 b<;>simp<;>omega
def z10:∀s:List Int,(pn s=s.length↔s.all j7=true)
 |[]=>by simp[pn]
 |b::r=>by
  have ih:=z10 r;unfold pn;cases h:j7 b with
  |true=>simp only[cond_true,zu,List.all_cons,h,Bool.true_and,<-ih];omega
  |false=>simp[h]
def zgs(p:Int->Bool):List Int->Bool
 |[]=>false
 |b::_=>p b
def qe(p:Int->Bool)(s:List Int):Bool:=s.all j7&&!s.isEmpty&&zgs p s&&!decide (s∈vA)
def z84(s:List Int)(a2 a3:Int)(hs:∀b,b∈s->0<=b/\b<=255):we ((1,s,a2,a3),())=some (qe pj s,()):=by
 rw[aaq,qvt hs,qt0];simp only[af];cases s with
 |nil=>rfl
 |cons b r=>have h0:cM (b::r) 0=some b:=rfl;rw[h0];simp only[af,qr9];unfold qe;show _=some (_&&pj b&&_,());cases List.all (b::r) j7<;>cases pj b<;>cases decide (b::r∈vA)<;>rfl
def z85(s:List Int)(a2 a3:Int)(hs:∀b,b∈s->0<=b/\b<=255):wg ((2,s,a2,a3),())=some (qe lM s,()):=by
 rw[aar,qvt hs,qt0];simp only[af];cases s with
 |nil=>rfl
 |cons b r=>have h0:cM (b::r) 0=some b:=rfl;rw[h0];simp only[af,qra];unfold qe;show _=some (_&&lM b&&_,());cases List.all (b::r) j7<;>cases lM b<;>cases decide (b::r∈vA)<;>rfl
def z3r(s:List Int)(hs:∀b,b∈s->0<=b/\b<=255):j5 ((1,s,0,0),())=some (qe pj s,()):=by rw[Nd,z84 s 0 0 hs];rfl
def qlm(s:List Int)(hs:∀b,b∈s->0<=b/\b<=255):j5 ((2,s,0,0),())=some (qe lM s,()):=by rw[Nd,z85 s 0 0 hs];rfl
def aW(s:List Int):Bool:=qe pj s||gJ s
def gK(s:List Int):Bool:=qe lM s
def qvu{s:List Int}(hs:∀b,b∈s->0<=b/\b<=255):sH (s,())=some (aW s,()):=by rw[aaJ,z3r s hs,Zo s hs];simp only[af,UU];rfl
def z11{s:List Int}(hs:∀b,b∈s->0<=b/\b<=255):sG (s,())=some (gK s,()):=by rw[aaE,qlm s hs];rfl
abbrev ND:=Int×List Int×Int×Int
inductive F where
 |nil:F
 |cons:Int->List Int->Int->F->F->F
def F.av:F->Nat
 |.nil=>0
 |.cons _ _ _ _ r=>r.av+1
def F.flat:F->List ND
 |.nil=>[]
 |.cons k t n ks r=>(k,t,n,(ks.av:Int))::(ks.flat++r.flat)
def F.size:F->Nat
 |.nil=>0
 |.cons _ _ _ ks r=>ks.size+r.size+1
def F.dep:F->Nat
 |.nil=>0
 |.cons _ _ _ ks r=>max (ks.dep+1) r.dep
def F.app:F->F->F
 |.nil,g=>g
 |.cons k t n ks r,g=>.cons k t n ks (r.app g)
abbrev tr(k:Int)(t:List Int)(n:Int)(ks:F):F:=.cons k t n ks .nil
def F.len:∀f:F,f.flat.length=f.size
 |.nil=>rfl
 |.cons k t n ks r=>by show(_::(ks.flat++r.flat)).length=ks.size+r.size+1;rw[zu,zd,ks.len,r.len]
def F.cu:∀f:F,f.av<=f.size
 |.nil=>Nat.le_refl _
 |.cons k t n ks r=>by have:=r.cu;show r.av+1<=ks.size+r.size+1;omega
def F.j8:∀f:F,f.dep<=f.size
 |.nil=>Nat.le_refl _
 |.cons k t n ks r=>by have h1:=r.j8;have h2:=ks.j8;show max (ks.dep+1) r.dep<=ks.size+r.size+1;omega
def FR(k:Int)(t:List Int)(n:Int)(ks:F):(tr k t n ks).flat=(k,t,n,(ks.av:Int))::ks.flat:=by show _::(ks.flat++[])=_;rw[zn]
def xh(k:Int)(t:List Int)(n:Int)(ks:F):(tr k t n ks).size=ks.size+1:=rfl
def skip(N:Nat):List ND->Nat->Option (List ND)
 |l,0=>some l
 |[],_+1=>none
 |d::r,c+1=>if 0<=d.2.2.2/\d.2.2.2<=(N:Int) then skip N r (c+d.2.2.2.toNat) else none
def Rk(N:Nat)(l:List ND):skip N l 0=some l:=by cases l<;>rfl
def Lm(N:Nat)(d:ND)(r:List ND)(c:Nat):skip N (d::r) (c+1)=if 0<=d.2.2.2/\d.2.2.2<=(N:Int) then skip N r (c+d.2.2.2.toNat) else none:=by rfl
def Zp(N:Nat):∀(f:F) (c:Nat) (post:List ND),f.size<=N->skip N (f.flat++post) (f.av+c)=skip N post c
 |.nil,c,post,_=>by show skip N post (0+c)=_;rw[zC]
 |.cons k t n ks r,c,post,h=>by
  have h:ks.size+r.size+1<=N:=h;have hc:=ks.cu;show skip N ((k,t,n,(ks.av:Int))::((ks.flat++r.flat)++post)) (r.av+1+c)=_;have e:r.av+1+c=(r.av+c)+1:=om
  rw[e,Lm];rw[if_pos ⟨by show(0:Int)<=(ks.av:Int);omega,by show(ks.av:Int)<=N;omega⟩];show skip N _ (r.av+c+(ks.av:Int).toNat)=_;rw[Int.toNat_natCast,zm,Nat.add_comm (r.av+c),Zp N ks _ _ om,Zp N r _ _ om]
def F.split:∀(g:F) (a c:Nat),g.av=a+c->∃x y:F,x.av=a/\y.av=c/\g.flat=x.flat++y.flat
 |g,0,c,h=>⟨.nil,g,rfl,by omega,rfl⟩
 |.nil,a+1,c,h=>by have h:0=a+1+c:=h;omega
 |.cons k t n ks r,a+1,c,h=>by
  have h:r.av+1=a+1+c:=h;obtain⟨x,y,h1,h2,h3⟩:=r.split a c om;refine⟨.cons k t n ks x,y,by show x.av+1=_;omega,h2,?_⟩;show _::(ks.flat++r.flat)=_::(ks.flat++x.flat)++y.flat
  grind
def qln(N:Nat):∀(l:List ND) (c:Nat) (rest:List ND),skip N l c=some rest->∃f:F,f.av=c/\l=f.flat++rest
 |l,0,rest,h=>by rw[Rk] at h;injection h with h;exact⟨.nil,rfl,h⟩
 |[],c+1,rest,h=>by cases h
 |d::r,c+1,rest,h=>by
  obtain⟨k,t,n,z⟩:=d;rw[Lm] at h;have h:(if 0<=z/\z<=(N:Int) then skip N r (c+z.toNat) else none)=some rest:=h;by_cases hz:0<=z/\z<=(N:Int)
  ·rw[if_pos hz] at h;obtain⟨g,h1,h2⟩:=qln N r _ rest h;obtain⟨x,y,h3,h4,h5⟩:=g.split z.toNat c om;refine⟨.cons k t n x y,by show y.av+1=_;omega,?_⟩;show _=(k,t,n,(x.av:Int))::(x.flat++y.flat)++rest
   grind
  grind
def z12(N:Nat):∀(l:List ND) (a b:Nat),skip N l (a+b)=(skip N l a).bind fun r=>skip N r b
 |l,0,b=>by rw[Rk,zC];rfl
 |[],a+1,b=>by
  have e:a+1+b=(a+b)+1:=om
  rw[e];rfl
 |d::r,a+1,b=>by
  have e:a+1+b=(a+b)+1:=om
  rw[e,Lm,Lm];by_cases h:0<=d.2.2.2/\d.2.2.2<=(N:Int)
  ·rw[if_pos h,if_pos h];have e2:a+b+d.2.2.2.toNat=(a+d.2.2.2.toNat)+b:=om
   rw[e2];exact z12 N r _ b
  grind
def zce(N:Nat){l:List ND}{c:Nat}{rest:List ND}(h:skip N l c=some rest):c<=l.length-rest.length/\rest.length<=l.length/\rest=l.drop (l.length-rest.length):=by
 obtain⟨f,h1,h2⟩:=qln N l c rest h;have:=f.cu;have h3:=f.len
 simp_all
def eP(l:List ND)(k c:Nat):Int:=(skip l.length (l.drop k) c).elim (-1) fun r=>(l.length:Int)-(r.length:Int)
def zcf(b:Bool)(l:List ND)(hl:l.length<=10000):∀(m k c:Nat),k+m=l.length->c<=k*10000->aD tG (⟨b,l⟩,(k:Int),((c+1:Nat):Int),())=some (eP l k (c+1),()):=by
 intro m
 induction m with
 |zero=>intro k c hk hc;refine bZ ?_;rw[Zj];have c0:bJ (ae l) (k:Int)=true:=zt (by unfold ae;omega);simp only[c0,aK,af];unfold eP;rw[zw om];rfl
 |succ m ih=>
  intro k c hk hc;have hg:k<l.length:=om
  obtain⟨d,hd⟩:∃d,l[k]?=some d:=⟨_,zf hg⟩;have hf:l.drop k=d::l.drop (k+1):=by
   rw[jW hg]
   grind
  obtain⟨x,t,n,z⟩:=d;have c0:bJ (ae l) (k:Int)=false:=zo (by unfold ae;omega);have hj:=aU hd;by_cases hz:0<=z/\z<=(l.length:Int)
  ·have c1:aL z 0=false:=zo om;have c2:aL (ae l) z=false:=zo (by unfold ae;omega);have e1:gS .i64 z 1=z-1:=xH om om;have e2:cE .i64 ((c+1:Nat):Int) (z-1)=((c+z.toNat:Nat):Int):=by rw[Ch om om];omega
   have e3:=aB (show k<=1000000000 by omega);have step:tG (⟨b,l⟩,(k:Int),((c+1:Nat):Int),())=if 0<c+z.toNat then some (.inl (⟨b,l⟩,((k+1:Nat):Int),((c+z.toNat:Nat):Int),())) else some (.inr (((k+1:Nat):Int),())):=by
    rw[Zj];simp only[c0,aI,af,hj,c1,c2,e1,e2,e3];rw[bD]
    grind
   have he:eP l k (c+1)=(skip l.length (l.drop (k+1)) (c+z.toNat)).elim (-1) fun r=>(l.length:Int)-(r.length:Int):=by
    unfold eP;rw[hf,Lm]
    grind
   rw[he];by_cases h:0<c+z.toNat
   ·rw[if_pos h] at step;rw[cU step];obtain⟨c',hm⟩:∃c',c+z.toNat=c'+1:=⟨c+z.toNat-1,by omega⟩;rw[hm];exact ih (k+1) c' om om
   ·rw[if_neg h] at step;rw[bZ step];have h0:c+z.toNat=0:=om
    rw[h0,Rk]
    grind
  ·have he:eP l k (c+1)=-1:=by
    unfold eP;rw[hf,Lm]
    grind
   rw[he];refine bZ ?_;rw[Zj];simp only[c0,aI,af,hj];cases h1:aL z 0 with
   |true=>simp only[aK,af]
   |false=>
    have c2:aL (ae l) z=true:=by have:=of_decide_eq_false h1;exact zt (by unfold ae;omega)
    simp only[aI,af,c2,aK]
def Rl(b:Bool)(l:List ND)(hl:l.length<=10000)(k:Nat):kG (⟨b,l⟩,(k:Int),())=some (eP l k 1,()):=by
 rw[aaK];have c0:aL (k:Int) 0=false:=zo om;rw[c0,aI];by_cases h:k<=l.length
 ·exact zcf b l hl (l.length-k) k 0 om om
 ·have he:eP l k 1=-1:=by unfold eP;rw[zw om];rfl
  rw[he];refine bZ ?_;rw[Zj];have c0:bJ (ae l) (k:Int)=true:=zt (by unfold ae;omega);simp only[c0,aK,af]
def zcg{l:List ND}{k c:Nat}(h:skip l.length (l.drop k) c=none):eP l k c=-1:=by unfold eP;rw[h];rfl
def yh(l:List ND):Bool:=decide (0<l.length)&&decide (eP l 0 1=(l.length:Int))
def UW(b:Bool)(l:List ND)(hl:l.length<=10000):lJ (⟨b,l⟩,())=some (yh l,()):=by rw[aaL];have:=Rl b l hl 0;have h0:((0:Nat):Int)=0:=rfl;rw[h0] at this;simp only[this,af,Ll];unfold yh aL ag ae;have e1:decide ((0:Int)<(l.length:Int))=decide (0<l.length):=decide_eq_decide.2 om;rw[e1];rfl
def Py(l:List ND):yh l=true↔∃k t n ks,l=(tr k t n ks).flat:=by
 unfold yh eP;rw[ze,decide_eq_true_eq,decide_eq_true_eq,List.drop_zero];constructor
 ·rintro⟨h1,h2⟩;cases hs:skip l.length l 1 with
  |none=>rw[hs] at h2;have h2:(-1:Int)=l.length:=h2;omega
  |some r=>
   rw[hs] at h2;have h2:(l.length:Int)-(r.length:Int)=l.length:=h2;have hr:r=[]:=List.length_eq_zero_iff.1 om;subst hr;obtain⟨f,h3,h4⟩:=qln _ _ _ _ hs;cases f with
   |nil=>cases h3
   |cons k t n ks r=>
    cases r with
    |nil=>exact⟨k,t,n,ks,by rw[h4,zn]⟩
    |cons _ _ _ _ _=>have h3:_+1+1=1:=h3;omega
 ·rintro⟨k,t,n,ks,rfl⟩;have hc:=(tr k t n ks).len;refine⟨by rw[hc,xh];omega,?_⟩;have:=Zp (tr k t n ks).flat.length (tr k t n ks) 0 [] om;rw[zn,Rk] at this;have e:(tr k t n ks).av+0=1:=rfl
  grind
def aJ(l:List ND)(k:Nat)(f:F):Prop:=∃post,l.drop k=f.flat++post
def aJ.node{l:List ND}{k:Nat}{x:Int}{t:List Int}{n:Int}{ks r:F}(h:aJ l k (.cons x t n ks r)):l[k]?=some (x,t,n,(ks.av:Int))/\aJ l (k+1) ks/\aJ l (k+1+ks.size) r/\k+1+ks.size+r.size<=l.length:=by
 obtain⟨post,h⟩:=h;have h:l.drop k=(x,t,n,(ks.av:Int))::((ks.flat++r.flat)++post):=h;have h1:l[k]?=some (x,t,n,(ks.av:Int)):=by rw[<-List.head?_drop,h];rfl
 have h2:l.drop (k+1)=(ks.flat++r.flat)++post:=by rw[<-List.drop_drop,h];rfl
 refine⟨h1,⟨r.flat++post,by rw[h2,zm]⟩,⟨post,?_⟩,?_⟩
 ·rw[<-List.drop_drop,h2,<-ks.len,zm,List.drop_left'];rfl
 ·have:=congrArg List.length h2;rw[zT,zd,zd,ks.len,r.len] at this
  grind
def aJ.le{l:List ND}{k:Nat}{f:F}(h:aJ l k f)(hk:k<=l.length):k+f.size<=l.length:=by
 cases f with
 |nil=>exact hk
 |cons x t n ks r=>have:=h.node.2.2.2;show k+(ks.size+r.size+1)<=_;omega
def aJ.first{l:List ND}{k:Nat}{x:Int}{t:List Int}{n:Int}{ks r:F}(h:aJ l k (.cons x t n ks r)):aJ l k (tr x t n ks):=by
 obtain⟨post,h⟩:=h;refine⟨r.flat++post,?_⟩;rw[h,FR];show _::(ks.flat++r.flat)++post=_
 grind
def aJ.ends{l:List ND}{k:Nat}{x:Int}{t:List Int}{n:Int}{ks r:F}(h:aJ l k (.cons x t n ks r)):eP l k 1=((k+1+ks.size:Nat):Int):=by obtain⟨g1,g2,g3,g4⟩:=h.node;obtain⟨post,h⟩:=h.first;unfold eP;have e:(tr x t n ks).av+0=1:=rfl;have hs:=Zp l.length (tr x t n ks) 0 post (by rw[xh];omega);rw[e,Rk] at hs;rw[h,hs];show(l.length:Int)-(post.length:Int)=_;have:=congrArg List.length h;rw[zT,zd,(tr x t n ks).len,xh] at this;omega
def F.pos:Nat->F->List Int
 |_,.nil=>[]
 |k,.cons _ _ _ ks r=>(k:Int)::r.pos (k+1+ks.size)
def F.dL:∀(f:F) (k:Nat),(f.pos k).length=f.av
 |.nil,_=>rfl
 |.cons _ _ _ ks r,k=>by show(_::r.pos _).length=r.av+1;rw[zu,r.dL]
def F.rm(P:Nat->Int->List Int->Int->F->Prop):Nat->F->Prop
 |_,.nil=>True
 |k,.cons x t n ks r=>P k x t n ks/\r.rm P (k+1+ks.size)
def F.rn{l:List ND}{P:Nat->Int->List Int->Int->F->Prop}(h:∀k x t n ks,aJ l k (tr x t n ks)->ks.rm P (k+1)->P k x t n ks):∀(f:F) (k:Nat),aJ l k f->f.rm P k
 |.nil,_,_=>trivial
 |.cons x t n ks r,k,hs=>⟨h k x t n ks hs.first (F.rn h ks (k+1) hs.node.2.1),F.rn h r _ hs.node.2.2.1⟩
def F.jC{l:List ND}{P:Nat->Int->List Int->Int->F->Prop}(h:∀k x t n ks,aJ l k (tr x t n ks)->ks.rm P (k+1)->P k x t n ks){k:Nat}{x:Int}{t:List Int}{n:Int}{ks:F}(hs:aJ l k (tr x t n ks)):P k x t n ks:=(F.rn h (tr x t n ks) k hs).1
def il{a b:Nat}(h:a+b<=2000000):fit (bS (a:Int) (b:Int))=some ():=vX (by show(a:Int)+(b:Int)<=_;omega)
def z3s(x:Bool):bP false x=false:=id (Eq.refl false)
def JF{α:Type}(b:Bool)(x:α):bP b (eX [x])=false:=by cases b<;>rfl
def zch(a b:Nat):kD (a:Int) (b:Int)=((max a b:Nat):Int):=by unfold kD;split<;>omega
def FU:Nat->List Nat->List Nat
 |c+1,s=>(c+1)::s
 |0,[]=>[]
 |0,c::s=>FU (c-1) s
def toI(s:List Nat):List Int:=s.reverse.map fun(c:Nat)=>(c:Int)
def oD(s:List Nat):(toI s).length=s.length:=by unfold toI;rw[zG,List.length_reverse]
def JG(c:Nat)(s:List Nat):toI (c::s)=toI s++[(c:Int)]:=by unfold toI;rw[List.reverse_cons,zQ];rfl
def qp1(c:Nat)(s:List Nat):FU (c+1) s=(c+1)::s:=by cases s<;>rfl
def UX(b:Bool)(l:List ND)(cR ln k:Int)(hk:0<=k/\k<=1000000)(nb:Bool):∀(s:List Nat) (c:Nat),(∀x,x∈s->1<=x/\x<=1000000)->c<=1000000->s.length<=1000000->aD nJ (cR,⟨b,l⟩,ln,k,⟨nb,toI (c::s)⟩,())=some (.inl (cR,⟨b,l⟩,ln,k+1,⟨nb,toI (FU c s)⟩,())):=by
 have hj:cE .i64 k 1=k+1:=Ch om om;have done:∀(s:List Nat) (c:Nat),c+1<=1000000->s.length<=1000000->aD nJ (cR,⟨b,l⟩,ln,k,⟨nb,toI ((c+1)::s)⟩,())=some (.inl (cR,⟨b,l⟩,ln,k+1,⟨nb,toI ((c+1)::s)⟩,())):=by
  intro s c hc hs;refine bZ ?_;have e1:gS .i64 (ae (toI ((c+1)::s))) 1=(s.length:Int):=by unfold ae;rw[oD,zu,xH om om];omega
  have hg:nth (toI ((c+1)::s)) s.length=some ((c+1:Nat):Int):=by rw[JG];unfold nth;rw[zO (by rw[oD];exact Nat.le_refl _),oD,Nat.sub_self];rfl
  have c0:aL 0 (ae (toI ((c+1)::s)))=true:=zt (by unfold ae;rw[oD,zu];omega);have c1:ag ((c+1:Nat):Int) 0=false:=by cases h:ag ((c+1:Nat):Int) 0 with
   |false=>rfl
   |true=>have:=ct.1 h;omega
  rw[qdf];simp only[c0,aK,e1,vc (show s.length<(toI ((c+1)::s)).length by rw[oD,zu];omega),af,hg,c1,aI,hj]
 have fh:aD nJ (cR,⟨b,l⟩,ln,k,⟨nb,toI []⟩,())=some (.inl (cR,⟨b,l⟩,ln,k+1,⟨nb,toI []⟩,())):=by refine bZ ?_;have c0:aL 0 (ae (toI []))=false:=rfl;rw[qdf];simp only[c0,aI,af,hj]
 have step:∀(s:List Nat) (X:List Int),s.length<=1000000->(s=[]/\X=[]\/∃c r,s=c::r/\1<=c/\c<=1000000/\X=toI ((c-1)::r))->
   nJ (cR,⟨b,l⟩,ln,k,⟨nb,toI (0::s)⟩,())=some (.inl (cR,⟨b,l⟩,ln,k,⟨nb,X⟩,())):=by
  intro s X hs hX;have e1:gS .i64 (ae (toI (0::s))) 1=(s.length:Int):=by unfold ae;rw[oD,zu,xH om om];omega
  have hg:nth (toI (0::s)) s.length=some 0:=by rw[JG];unfold nth;rw[zO (by rw[oD];exact Nat.le_refl _),oD,Nat.sub_self];rfl
  have c0:aL 0 (ae (toI (0::s)))=true:=zt (by unfold ae;rw[oD,zu];omega);have c1:ag 0 0=true:=rfl;have he:df (ae (toI (0::s))) (s.length:Int)=some s.length:=by unfold df ae;rw[if_pos (by rw[oD,zu];omega),Int.toNat_natCast]
  have hl:aH (toI (0::s)) s.length=toI s:=by unfold aH;rw[JG,List.take_left' (oD s)]
  rw[qdf];simp only[c0,aK,e1,vc (show s.length<(toI (0::s)).length by rw[oD,zu];omega),af,hg,c1,he,hl];rcases hX with ⟨rfl,rfl⟩|⟨c,r,rfl,h1,h2,rfl⟩
  ·rfl
  ·have hs:r.length+1<=1000000:=hs;have c2:aL 0 (ae (toI (c::r)))=true:=zt (by unfold ae;rw[oD,zu];omega);have e2:gS .i64 (ae (toI (c::r))) 1=(r.length:Int):=by unfold ae;rw[oD,zu,xH om om];omega
   have hm:nth (toI (0::c::r)) r.length=some (c:Int):=by rw[JG,JG];unfold nth;rw[zm,zO (by rw[oD];exact Nat.le_refl _),oD,Nat.sub_self];rfl
   have hf:aH (jY (toI (0::c::r)) r.length ((c:Int)-1)) (c::r).length=toI ((c-1)::r):=by unfold aH jY;rw[JG,JG,JG,zm,List.set_append_right _ _ (by rw[oD];exact Nat.le_refl _),oD,Nat.sub_self];show List.take (r.length+1) (toI r++([(c:Int)-1]++[((0:Nat):Int)]))=_;rw[<-zm,List.take_left' (by rw[zd,oD];rfl)];congr 2;omega
   have e3:gS .i64 (c:Int) 1=(c:Int)-1:=xH om om;simp only[c2,aK,e2,vc (show r.length<(toI (c::r)).length by rw[oD,zu];omega),af,hm,e3,hf]
 intro s
 induction s with
 |nil=>
  intro c _ hc _;cases c with
  |zero=>rw[cU (step [] [] dc (.inl ⟨rfl,rfl⟩))];exact fh
  |succ c=>rw[qp1];exact done [] c hc dc
 |cons d s ih=>
  intro c hx hc hs;have hd:=hx d (zg ..);have hs:s.length+1<=1000000:=hs;cases c with
  |zero=>rw[cU (step (d::s) (toI ((d-1)::s)) hs (.inr ⟨d,s,rfl,hd.1,hd.2,rfl⟩))];exact ih (d-1) (fun x h=>hx x (zh _ h)) om om
  |succ c=>rw[qp1];exact done (d::s) c hc hs
def zci(b:Bool)(l:List ND)(hl:l.length<=10000):∀(f:F) (q:Nat) (s:List Nat) (cR:Nat) (nb:Bool),aJ l q f->q<=l.length->(∀x,x∈s->1<=x/\x<=1000000)->s.length<=q->cR<=100000->∃yi,aD kO ((cR:Int),⟨b,l⟩,(l.length:Int),(q:Int),⟨nb,toI (FU f.av s)⟩,())=aD kO (((max cR (if f.av=0 then 0 else s.length+1+f.dep):Nat):Int),⟨b,l⟩,(l.length:Int),((q+f.size:Nat):Int),⟨yi,toI (FU 0 s)⟩,()):=by
 intro f
 induction f with
 |nil=>intro q s cR nb _ _ _ _ _;refine⟨nb,?_⟩;show _=aD kO (((max cR 0:Nat):Int),_,_,((q+0:Nat):Int),_,());rw[Nat.max_zero,Nat.add_zero];rfl
 |cons x t n ks r mY mZ=>
  intro q s cR nb hs hq hx hj hm;obtain⟨g1,g2,g3,g4⟩:=hs.node;have hc:=ks.cu;have hk:=r.cu;have hn:=ks.j8;have ho:=r.j8;have e0:FU (F.cons x t n ks r).av s=(r.av+1)::s:=qp1 r.av s;rw[e0];have hf:fit (bS (ae (toI ((r.av+1)::s))) (ae [(ks.av:Int)]))=some ():=il (by rw[oD,zu,List.length_singleton];omega);have hg:∀y,y∈(r.av+1)::s->1<=y/\y<=1000000:=by grind
  have hp:=UX b l ((max cR (s.length+2):Nat):Int) (l.length:Int) (q:Int) om false ((r.av+1)::s) ks.av hg om (by rw[zu];omega);have step:kO ((cR:Int),⟨b,l⟩,(l.length:Int),(q:Int),⟨nb,toI ((r.av+1)::s)⟩,())=
    some (.inl (((max cR (s.length+2):Nat):Int),⟨b,l⟩,(l.length:Int),((q+1:Nat):Int),⟨false,toI (FU ks.av ((r.av+1)::s))⟩,())):=by
   rw[qdg];simp only;rw[bD,if_pos om,aU g1,af];simp only[hf,af,JF];have e1:kD (cR:Int) (cE .i64 (ae (toI ((r.av+1)::s))) 1)=((max cR (s.length+2):Nat):Int):=by unfold ae;rw[oD,zu,aB om,zch]
   have e2:app (toI ((r.av+1)::s)) [(ks.av:Int)]=toI (ks.av::(r.av+1)::s):=(JG _ _).symm;rw[e1,e2,hp];rfl
  rw[cU step];obtain⟨nb1,h1⟩:=mY (q+1) ((r.av+1)::s) (max cR (s.length+2)) false g2 om hg (by rw[zu];omega) om;rw[h1];have e3:FU 0 ((r.av+1)::s)=FU r.av s:=rfl;rw[e3];have he:max (max cR (s.length+2)) (if ks.av=0 then 0 else((r.av+1)::s).length+1+ks.dep)=max cR (s.length+1+(ks.dep+1)):=by
   rw[zu];by_cases h0:ks.av=0
   ·rw[if_pos h0];have:ks.dep=0:=by
     cases ks with
     |nil=>rfl
     |cons _ _ _ _ r=>exact absurd h0 (Nat.succ_ne_zero _)
    omega
   ·rw[if_neg h0];omega
  rw[he];obtain⟨Zq,h2⟩:=mZ (q+1+ks.size) s (max cR (s.length+1+(ks.dep+1))) nb1 g3 om hx om om;refine⟨Zq,?_⟩;rw[h2];have e4:q+1+ks.size+r.size=q+(F.cons x t n ks r).size:=by show _=q+(ks.size+r.size+1);omega
  rw[e4];have e5:max (max cR (s.length+1+(ks.dep+1))) (if r.av=0 then 0 else s.length+1+r.dep)=max cR (if(F.cons x t n ks r).av=0 then 0 else s.length+1+(F.cons x t n ks r).dep):=by
   have h9:(F.cons x t n ks r).av≠0:=Nat.succ_ne_zero _;rw[if_neg h9];show _=max cR (s.length+1+max (ks.dep+1) r.dep);by_cases h0:r.av=0
   ·rw[if_pos h0];have:r.dep=0:=by
     cases r with
     |nil=>rfl
     |cons _ _ _ _ r=>exact absurd h0 (Nat.succ_ne_zero _)
    omega
   ·rw[if_neg h0];omega
  rw[e5]
def JH(x:Int)(t:List Int)(n:Int)(ks:F):aJ (tr x t n ks).flat 0 (tr x t n ks):=⟨[],by rw[zn];rfl⟩
def z86(b:Bool)(x:Int)(t:List Int)(n:Int)(ks:F)(hl:ks.size+1<=10000):wj (⟨b,(tr x t n ks).flat⟩,())=some (((ks.dep+1:Nat):Int),()):=by
 have he:(tr x t n ks).flat.length=ks.size+1:=(tr x t n ks).len;have hs:=JH x t n ks;obtain⟨g1,g2,g3,g4⟩:=hs.node;have hg:=ks.j8;have hc:=ks.cu;rw[aaM,UW b _ om,(Py _).2 ⟨x,t,n,ks,rfl⟩];have hn:ar true=false:=rfl;simp only[af,hn,aI];generalize hL:(tr x t n ks).flat=L at*
 have hf:fit (bS (ae ([]:List Int)) (ae [(ks.av:Int)]))=some ():=il (by show 0+1<=_;omega);have hp:=UX b L ((1:Nat):Int) (L.length:Int) ((0:Nat):Int) om false [] ks.av (fun _ h=>by cases h) om dc;have step:kO (((0:Nat):Int),⟨b,L⟩,(L.length:Int),((0:Nat):Int),⟨true,[]⟩,())=
   some (.inl (((1:Nat):Int),⟨b,L⟩,(L.length:Int),((0+1:Nat):Int),⟨false,toI (FU ks.av [])⟩,())):=by
  rw[qdg];simp only;rw[bD,if_pos om,aU g1,af];simp only[hf,af,JF];have e1:kD ((0:Nat):Int) (cE .i64 (ae ([]:List Int)) 1)=((1:Nat):Int):=rfl;have e2:app ([]:List Int) [(ks.av:Int)]=toI (ks.av::[]):=rfl;rw[e1,e2,hp];rfl
 obtain⟨nb1,h1⟩:=zci b L om ks 1 [] 1 false g2 om (fun _ h=>by cases h) dc dc;have UY:aD kO (0,⟨b,L⟩,ae L,0,⟨true,[]⟩,())=_:=cU step;rw[UY,h1];have e6:max 1 (if ks.av=0 then 0 else([]:List Nat).length+1+ks.dep)=ks.dep+1:=by
  by_cases h0:ks.av=0
  ·rw[if_pos h0];have:ks.dep=0:=by
    cases ks with
    |nil=>rfl
    |cons _ _ _ _ r=>exact absurd h0 (Nat.succ_ne_zero _)
   omega
  grind
 rw[e6];refine bZ ?_;rw[qdg];simp only;rw[bD,if_neg om]
def qf(n:Int):Bool:=decide (-4611686018427387904<=n/\n<=4611686018427387903)
def JI(n:Int):Prop:=-9223372036854775808<=n/\n<=9223372036854775807
def qmh(n:Int):IntKind.i64.wrap n=if n % 18446744073709551616<9223372036854775808 then n % 18446744073709551616 else n % 18446744073709551616-18446744073709551616:=by
 unfold IntKind.wrap;show(if(true&&decide (n % 18446744073709551616>=9223372036854775808))=true then _ else _)=_;rw[Bool.true_and];by_cases h:n % 18446744073709551616<9223372036854775808
 ·rw[if_pos h,if_neg (by simp;omega)];rfl
 ·rw[if_neg h,if_pos (by simp;omega)];rfl
def Ln(n:Int):IntKind.u64.wrap n=n % 18446744073709551616:=by rfl
def qrb(n:Int)(h:JI n):∃v,oW (n,())=some (v,())/\ag v n=qf n:=by
 obtain⟨h1,h2⟩:=h;rw[aav];have e1:qj .u64 (dV .u64 n) 1=some (IntKind.u64.wrap (dV .u64 n*2)):=by rfl
 simp only[e1,af];have e2:=zc3 (a:=dV .i64 (IntKind.u64.wrap (dV .u64 n*2))) 1 dc;have e3:((1:Nat):Int)=1:=rfl;rw[e3] at e2;rw[e2];refine⟨_,rfl,?_⟩;unfold dV;rw[qmh,Ln,Ln];rw[Bool.eq_iff_iff,ct];unfold qf
 grind
def fX(k:Int):Int:=bif ag k 1||ag k 6||ag k 9||ag k 10||ag k 11||ag k 21||ag k 23 then 0 else bif ag k 3||ag k 5||ag k 7||ag k 8||ag k 12||ag k 22 then 1 else bif ag k 4||ag k 24 then 2 else bif ag k 2 then 3 else -1
def rO(k c:Int):Bool:=bif ag k 5||ag k 11 then ag c 1 else bif ag k 6||ag k 7||ag k 8||ag k 12 then ag c 2 else bif ag k 9 then ag c 3 else bif ag k 10 then bJ 3 c&&ag (c % 2) 1 else bif ag k 24 then true else ag c 0
def ix(k:Int):Bool:=bJ 21 k&&bJ k 24
def Ba(k:Int)(t:List Int)(hk:Int):Int:=bif ag k 8&&ar (ag hk 5) then 61 else bif ag (fX k) 1&&ar (aW t) then 62 else bif ag (fX k) 2&&ar (gK t) then 62 else 0
def yj(k:Int)(t:List Int)(hk:Int):Int:=bif ag (fX k) 0 then(bif bM t [] then Ba k t hk else 61) else bif ag (fX k) 3 then(bif aL 200 (ae t) then 61 else Ba k t hk) else Ba k t hk
def fU(k:Int)(t:List Int)(n c hk:Int)(pat:Bool):Int:=
 bif aL (fX k) 0 then 61 else bif ar (fA (ix k) pat) then 61 else bif ar (rO k c) then 61 else
 bif ag k 1||ag k 23 then(bif qf n then yj k t hk else 61) else(bif ag n 0 then yj k t hk else 61)
def Zr:List Int:=[1,2,3,4,5,6,7,8,9,10,11,12,21,22,23,24]
def Zs{P:Int->Prop}(h1:P 1)(h2:P 2)(h3:P 3)(h4:P 4)(h5:P 5)(h6:P 6)(h7:P 7)(h8:P 8)(h9:P 9)(he:P 10)(hf:P 11)(hg:P 12)(hj:P 21)(hk:P 22)(hl:P 23)(hm:P 24)(ho:∀a,(∀c,c∈Zr->ag a c=false)->P a):∀a,P a:=by
 intro a;by_cases e1:a=1
 ·rw[e1];exact h1
 by_cases e2:a=2
 ·rw[e2];exact h2
 by_cases e3:a=3
 ·rw[e3];exact h3
 by_cases e4:a=4
 ·rw[e4];exact h4
 by_cases e5:a=5
 ·rw[e5];exact h5
 by_cases e6:a=6
 ·rw[e6];exact h6
 by_cases e7:a=7
 ·rw[e7];exact h7
 by_cases e8:a=8
 ·rw[e8];exact h8
 by_cases e9:a=9
 ·rw[e9];exact h9
 by_cases mN:a=10
 ·rw[mN];exact he
 by_cases UZ:a=11
 ·rw[UZ];exact hf
 by_cases U0:a=12
 ·rw[U0];exact hg
 by_cases Bb:a=21
 ·rw[Bb];exact hj
 by_cases yk:a=22
 ·rw[yk];exact hk
 by_cases e23:a=23
 ·rw[e23];exact hl
 by_cases e24:a=24
 ·rw[e24];exact hm
 refine ho a fun c hc=>eB ?_;rintro rfl;simp only[Zr,zk,List.not_mem_nil,or_false] at hc;omega
def rP(a:Int):qL (a,())=some (ix a,()):=by rw[aaN,Ll];rfl
def F.head:F->Int
 |.nil=>0
 |.cons k _ _ _ _=>k
def behind{l:List ND}{k:Nat}{ks:F}{kd:Int}(hk:k<=1000000)(hs:aJ l (k+1) ks)(hn:kd=8->ks.av≠0):(aP (ag kd 8) (az (cM l (cE .i64 (k:Int) 1)) fun x=>some (ar (ag x.1 5))) (some false):Option Bool)=some (ag kd 8&&ar (ag ks.head 5)):=by
 cases h:ag kd 8 with
 |false=>rfl
 |true=>
  have h8:=ct.1 h;cases ks with
  |nil=>exact absurd rfl (hn h8)
  |cons x t n ks r=>rw[aK,aB om,aU hs.node.1];rfl
def vB(a c:Int):wm (a,c,())=some (ag a c,()):=aaR a c
def dB(a:Int):An (a,())=some (true,()):=aaQ a
def zj1(a:Int)(h:0<=a):wk (a,())=some (bJ 3 a&&ag (a % 2) 1,()):=by rw[aaP,Mj h dc];cases bJ 3 a<;>rfl
def zj2:fu (1,())=some (true,false,2,0,0,0,true,()):=by kernel_rfl
def zj3:fu (2,())=some (false,true,2,0,0,0,true,()):=by kernel_rfl
def zj4:fu (3,())=some (false,false,0,0,0,0,true,()):=by kernel_rfl
def zj5:fu (4,())=some (false,false,1,0,0,0,true,()):=by kernel_rfl
def zj6:fu (5,())=some (false,false,0,0,0,1,true,()):=by kernel_rfl
def zj7:fu (6,())=some (false,false,2,0,0,2,true,()):=by kernel_rfl
def zj8:fu (7,())=some (false,false,0,0,0,2,true,()):=by kernel_rfl
def zj9:fu (8,())=some (false,false,0,0,0,2,true,()):=by kernel_rfl
def zja:fu (9,())=some (false,false,2,0,0,3,true,()):=by kernel_rfl
def zgt:fu (10,())=some (false,false,2,0,1,0,true,()):=by kernel_rfl
def zgu:fu (11,())=some (false,false,2,0,0,1,true,()):=by kernel_rfl
def zgv:fu (12,())=some (false,false,0,0,0,2,true,()):=by kernel_rfl
def zgw:fu (21,())=some (false,false,2,0,0,0,true,()):=by kernel_rfl
def zgx:fu (22,())=some (false,false,0,0,0,0,true,()):=by kernel_rfl
def zgy:fu (23,())=some (true,false,2,0,0,0,true,()):=by kernel_rfl
def zgz:fu (24,())=some (false,false,1,0,2,0,true,()):=by kernel_rfl
def z3t(a:Int)(h:∀c,c∈Zr->ag a c=false):fu (a,())=some (false,false,2,0,3,0,false,()):=by have i1:ag a 1=false:=h 1 dc;have i2:ag a 2=false:=h 2 dc;have i3:ag a 3=false:=h 3 dc;have i4:ag a 4=false:=h 4 dc;have i5:ag a 5=false:=h 5 dc;have i6:ag a 6=false:=h 6 dc;have i7:ag a 7=false:=h 7 dc;have i8:ag a 8=false:=h 8 dc;have i9:ag a 9=false:=h 9 dc;have i10:ag a 10=false:=h 10 dc;have i11:ag a 11=false:=h 11 dc;have i12:ag a 12=false:=h 12 dc;have i21:ag a 21=false:=h 21 dc;have i22:ag a 22=false:=h 22 dc;have i23:ag a 23=false:=h 23 dc;have i24:ag a 24=false:=h 24 dc;rw[aaO];simp only[i1,i2,i3,i4,i5,i6,i7,i8,i9,i10,i11,i12,i21,i22,i23,i24,aI,af]
def xi:ag 0 0=true:=id (Eq.refl true)
def yl:ag 0 1=false:=id (Eq.refl false)
def ym:ag 0 2=false:=id (Eq.refl false)
def mN:ag 1 0=false:=id (Eq.refl false)
def UZ:ag 1 1=true:=id (Eq.refl true)
def U0:ag 1 2=false:=id (Eq.refl false)
def E2:ag 2 0=false:=id (Eq.refl false)
def Bb:ag 2 1=false:=id (Eq.refl false)
def yk:ag 2 2=true:=id (Eq.refl true)
def nT:ar true=false:=id (Eq.refl false)
def nF:ar false=true:=id (Eq.refl true)
def z87(b:Bool)(l:List ND)(hl:l.length<=10000){k:Nat}{t:List Int}{n:Int}{ks:F}(pat:Bool)(ht:∀b,b∈t->0<=b/\b<=255)(hr:JI n):∀kd:Int,aJ l k (tr kd t n ks)->wo (⟨b,l⟩,(k:Int),pat,())=some (fU kd t n (ks.av:Int) ks.head pat,()):=by
 obtain⟨v,w1,w2⟩:=qrb n hr;have hc:=qvu ht;have he:=z11 ht;have hf:=zj1 (ks.av:Int) (Int.natCast_nonneg _);refine Zs ?k1 ?k2 ?k3 ?k4 ?k5 ?k6 ?k7 ?k8 ?k9 ?k10 ?k11 ?k12 ?k21 ?k22 ?k23 ?k24 (fun a h hs=>?_)
 case k1=>
  intro h;obtain⟨g1,g2,g3,g4⟩:=h.node;rw[jA,aU g1,af,zj2,af];have e8:ag 1 8=false:=rfl;have ep:ix 1=false:=rfl;simp only[rP,ep,nT,nF,aK,aI,af,xi,yl,ym,E2,Bb,yk,vB,dB,hf,w1,w2,hc,he,e8];have hE:fU 1 t n (ks.av:Int) ks.head pat=bif ar (fA false pat) then 61 else bif ar (ag (ks.av:Int) 0) then 61 else bif qf n then(bif bM t [] then 0 else 61) else 61:=by rfl
  rw[hE];cases pat<;>cases a1:ag (ks.av:Int) 0<;>cases a2:qf n<;>cases a3:bM t []<;>simp only[nT,nF,aK,aI,af,E2,Bb,yk,hc,he,fA,e8,BEq.rfl,Bool.false_beq,Bool.not_true,cond_true,cond_false,a3]<;>rfl
 case k2=>
  intro h;obtain⟨g1,g2,g3,g4⟩:=h.node;rw[jA,aU g1,af,zj3,af];have e8:ag 2 8=false:=rfl;have ep:ix 2=false:=rfl;simp only[rP,ep,nT,nF,aK,aI,af,xi,yl,ym,yk,vB,dB,hf,w1,w2];have hE:fU 2 t n (ks.av:Int) ks.head pat=bif ar (fA false pat) then 61 else bif ar (ag (ks.av:Int) 0) then 61 else bif ag n 0 then(bif aL 200 (ae t) then 61 else 0) else 61:=by rfl
  rw[hE];cases pat<;>cases a1:ag (ks.av:Int) 0<;>cases a2:ag n 0<;>cases a3:aL 200 (ae t)<;>simp only[nT,nF,aK,aI,af,E2,Bb,yk,hc,he,fA,e8,BEq.rfl,Bool.false_beq,Bool.not_true,cond_true,cond_false]<;>rfl
 case k3=>
  intro h;obtain⟨g1,g2,g3,g4⟩:=h.node;rw[jA,aU g1,af,zj4,af];have e8:ag 3 8=false:=rfl;have ep:ix 3=false:=rfl;simp only[rP,ep,nT,nF,aK,aI,af,xi,yl,ym,vB,dB,hf,w1,w2,hc,he,e8];have hE:fU 3 t n (ks.av:Int) ks.head pat=bif ar (fA false pat) then 61 else bif ar (ag (ks.av:Int) 0) then 61 else bif ag n 0 then(bif aW t then 0 else 62) else 61:=by have kk:rO 3 (ks.av:Int)=ag (ks.av:Int) 0:=rfl;unfold fU yj Ba;rw[kk];cases pat<;>cases ag (ks.av:Int) 0<;>cases ag n 0<;>cases aW t<;>rfl
  rw[hE];cases pat<;>cases a1:ag (ks.av:Int) 0<;>cases a2:ag n 0<;>cases a3:aW t<;>simp only[nT,nF,aK,aI,af,fA,BEq.rfl,Bool.false_beq,Bool.not_true,cond_true,cond_false]<;>rfl
 case k4=>
  intro h;obtain⟨g1,g2,g3,g4⟩:=h.node;rw[jA,aU g1,af,zj5,af];have e8:ag 4 8=false:=rfl;have ep:ix 4=false:=rfl;simp only[rP,ep,nT,nF,aK,aI,af,xi,yl,ym,mN,UZ,U0,vB,dB,hf,w1,w2,hc,he,e8];have hE:fU 4 t n (ks.av:Int) ks.head pat=bif ar (fA false pat) then 61 else bif ar (ag (ks.av:Int) 0) then 61 else bif ag n 0 then(bif gK t then 0 else 62) else 61:=by have kk:rO 4 (ks.av:Int)=ag (ks.av:Int) 0:=rfl;unfold fU yj Ba;rw[kk];cases pat<;>cases ag (ks.av:Int) 0<;>cases ag n 0<;>cases gK t<;>rfl
  rw[hE];cases pat<;>cases a1:ag (ks.av:Int) 0<;>cases a2:ag n 0<;>cases a3:gK t<;>simp only[nT,nF,aK,aI,af,fA,BEq.rfl,Bool.false_beq,Bool.not_true,cond_true,cond_false]<;>rfl
 case k5=>
  intro h;obtain⟨g1,g2,g3,g4⟩:=h.node;rw[jA,aU g1,af,zj6,af];have e8:ag 5 8=false:=rfl;have ep:ix 5=false:=rfl;simp only[rP,ep,nT,nF,aK,aI,af,xi,yl,ym,vB,dB,hf,w1,w2,hc,he,e8];have hE:fU 5 t n (ks.av:Int) ks.head pat=bif ar (fA false pat) then 61 else bif ar (ag (ks.av:Int) 1) then 61 else bif ag n 0 then(bif aW t then 0 else 62) else 61:=by have kk:rO 5 (ks.av:Int)=ag (ks.av:Int) 1:=rfl;unfold fU yj Ba;rw[kk];cases pat<;>cases ag (ks.av:Int) 1<;>cases ag n 0<;>cases aW t<;>rfl
  rw[hE];cases pat<;>cases a1:ag (ks.av:Int) 1<;>cases a2:ag n 0<;>cases a3:aW t<;>simp only[nT,nF,aK,aI,af,fA,BEq.rfl,Bool.false_beq,Bool.not_true,cond_true,cond_false]<;>rfl
 case k6=>
  intro h;obtain⟨g1,g2,g3,g4⟩:=h.node;rw[jA,aU g1,af,zj7,af];have e8:ag 6 8=false:=rfl;have ep:ix 6=false:=rfl;simp only[rP,ep,nT,nF,aK,aI,af,xi,yl,ym,E2,Bb,yk,vB,dB,hf,w1,w2,hc,he,e8];have hE:fU 6 t n (ks.av:Int) ks.head pat=bif ar (fA false pat) then 61 else bif ar (ag (ks.av:Int) 2) then 61 else bif ag n 0 then(bif bM t [] then 0 else 61) else 61:=by rfl
  rw[hE];cases pat<;>cases a1:ag (ks.av:Int) 2<;>cases a2:ag n 0<;>cases a3:bM t []<;>simp only[nT,nF,aK,aI,af,fA,BEq.rfl,Bool.false_beq,Bool.not_true,cond_true,cond_false]<;>rfl
 case k7=>
  intro h;obtain⟨g1,g2,g3,g4⟩:=h.node;rw[jA,aU g1,af,zj8,af];have e8:ag 7 8=false:=rfl;have ep:ix 7=false:=rfl;simp only[rP,ep,nT,nF,aK,aI,af,xi,yl,ym,vB,dB,hf,w1,w2,hc,he,e8];have hE:fU 7 t n (ks.av:Int) ks.head pat=bif ar (fA false pat) then 61 else bif ar (ag (ks.av:Int) 2) then 61 else bif ag n 0 then(bif aW t then 0 else 62) else 61:=by have kk:rO 7 (ks.av:Int)=ag (ks.av:Int) 2:=rfl;unfold fU yj Ba;rw[kk];cases pat<;>cases ag (ks.av:Int) 2<;>cases ag n 0<;>cases aW t<;>rfl
  rw[hE];cases pat<;>cases a1:ag (ks.av:Int) 2<;>cases a2:ag n 0<;>cases a3:aW t<;>simp only[nT,nF,aK,aI,af,fA,BEq.rfl,Bool.false_beq,Bool.not_true,cond_true,cond_false]<;>rfl
 case k8=>
  intro h;obtain⟨g1,g2,g3,g4⟩:=h.node;rw[jA,aU g1,af,zj9,af];have e8:ag 8 8=true:=rfl;have ep:ix 8=false:=rfl;simp only[rP,ep,nT,nF,aK,aI,af,xi,yl,ym,vB,dB,hf,w1,w2,hc,he];have hE:fU 8 t n (ks.av:Int) ks.head pat=bif ar (fA false pat) then 61 else bif ar (ag (ks.av:Int) 2) then 61 else bif ag n 0 then(bif ag ks.head 5 then(bif aW t then 0 else 62) else 61) else 61:=by have kk:rO 8 (ks.av:Int)=ag (ks.av:Int) 2:=rfl;unfold fU yj Ba;rw[kk];cases pat<;>cases ag (ks.av:Int) 2<;>cases ag n 0<;>cases aW t<;>cases ag ks.head 5<;>rfl
  rw[hE];cases h2:ag (ks.av:Int) 2 with
  |false=>cases pat<;>rfl
  |true=>have hb:=behind (kd:=8) (l:=l) (k:=k) (ks:=ks) om g2 (fun _ h0=>by have:=ct.1 h2;omega);rw[show ag 8 8=true from rfl,aK] at hb;have hg:az (cM l (cE .i64 (k:Int) 1)) (fun x=>some (ar (ag x.1 5)))=some (ar (ag ks.head 5)):=hb;cases pat<;>cases a1:ag n 0<;>cases a2:ag ks.head 5<;>cases a3:aW t<;>simp only[nT,nF,aK,aI,af,e8,hg,fA,Bool.false_beq,beq_self_eq_true,Bool.not_true,a2]<;>rfl
 case k9=>
  intro h;obtain⟨g1,g2,g3,g4⟩:=h.node;rw[jA,aU g1,af,zja,af];have e8:ag 9 8=false:=rfl;have ep:ix 9=false:=rfl;simp only[rP,ep,nT,nF,aK,aI,af,xi,yl,ym,E2,Bb,yk,vB,dB,hf,w1,w2,hc,he,e8];have hE:fU 9 t n (ks.av:Int) ks.head pat=bif ar (fA false pat) then 61 else bif ar (ag (ks.av:Int) 3) then 61 else bif ag n 0 then(bif bM t [] then 0 else 61) else 61:=by rfl
  rw[hE];cases pat<;>cases a1:ag (ks.av:Int) 3<;>cases a2:ag n 0<;>cases a3:bM t []<;>simp only[nT,nF,aK,aI,af,fA,BEq.rfl,Bool.false_beq,Bool.not_true,cond_true,cond_false]<;>rfl
 case k10=>
  intro h;obtain⟨g1,g2,g3,g4⟩:=h.node;rw[jA,aU g1,af,zgt,af];have e8:ag 10 8=false:=rfl;have ep:ix 10=false:=rfl;simp only[rP,ep,nT,nF,aK,aI,af,mN,UZ,U0,E2,Bb,yk,vB,dB,hf,w1,w2,hc,he,e8];have hE:fU 10 t n (ks.av:Int) ks.head pat=bif ar (fA false pat) then 61 else bif ar ((bJ 3 (ks.av:Int)&&ag ((ks.av:Int) % 2) 1)) then 61 else bif ag n 0 then(bif bM t [] then 0 else 61) else 61:=by rfl
  rw[hE];cases pat<;>cases a1:bJ 3 (ks.av:Int)<;>cases a2:ag ((ks.av:Int) % 2) 1<;>cases a3:ag n 0<;>cases a4:bM t []<;>simp only[nT,nF,aK,aI,af,fA,BEq.rfl,Bool.false_beq,Bool.not_true,Bool.true_and,Bool.false_and,cond_true,cond_false]<;>rfl
 case k11=>
  intro h;obtain⟨g1,g2,g3,g4⟩:=h.node;rw[jA,aU g1,af,zgu,af];have e8:ag 11 8=false:=rfl;have ep:ix 11=false:=rfl;simp only[rP,ep,nT,nF,aK,aI,af,xi,yl,ym,E2,Bb,yk,vB,dB,hf,w1,w2,hc,he,e8];have hE:fU 11 t n (ks.av:Int) ks.head pat=bif ar (fA false pat) then 61 else bif ar (ag (ks.av:Int) 1) then 61 else bif ag n 0 then(bif bM t [] then 0 else 61) else 61:=by rfl
  rw[hE];cases pat<;>cases a1:ag (ks.av:Int) 1<;>cases a2:ag n 0<;>cases a3:bM t []<;>simp only[nT,nF,aK,aI,af,fA,BEq.rfl,Bool.false_beq,Bool.not_true,cond_true,cond_false]<;>rfl
 case k12=>
  intro h;obtain⟨g1,g2,g3,g4⟩:=h.node;rw[jA,aU g1,af,zgv,af];have e8:ag 12 8=false:=rfl;have ep:ix 12=false:=rfl;simp only[rP,ep,nT,nF,aK,aI,af,xi,yl,ym,vB,dB,hf,w1,w2,hc,he,e8];have hE:fU 12 t n (ks.av:Int) ks.head pat=bif ar (fA false pat) then 61 else bif ar (ag (ks.av:Int) 2) then 61 else bif ag n 0 then(bif aW t then 0 else 62) else 61:=by have kk:rO 12 (ks.av:Int)=ag (ks.av:Int) 2:=rfl;unfold fU yj Ba;rw[kk];cases pat<;>cases ag (ks.av:Int) 2<;>cases ag n 0<;>cases aW t<;>rfl
  rw[hE];cases pat<;>cases a1:ag (ks.av:Int) 2<;>cases a2:ag n 0<;>cases a3:aW t<;>simp only[nT,nF,aK,aI,af,fA,BEq.rfl,Bool.false_beq,Bool.not_true,cond_true,cond_false]<;>rfl
 case k21=>
  intro h;obtain⟨g1,g2,g3,g4⟩:=h.node;rw[jA,aU g1,af,zgw,af];have e8:ag 21 8=false:=rfl;have ep:ix 21=true:=rfl;simp only[rP,ep,nT,nF,aK,aI,af,xi,yl,ym,E2,Bb,yk,vB,dB,hf,w1,w2,hc,he,e8];have hE:fU 21 t n (ks.av:Int) ks.head pat=bif ar (fA true pat) then 61 else bif ar (ag (ks.av:Int) 0) then 61 else bif ag n 0 then(bif bM t [] then 0 else 61) else 61:=by rfl
  rw[hE];cases pat<;>cases a1:ag (ks.av:Int) 0<;>cases a2:ag n 0<;>cases a3:bM t []<;>simp only[nT,nF,aK,aI,af,fA,BEq.rfl,cond_true,cond_false]<;>rfl
 case k22=>
  intro h;obtain⟨g1,g2,g3,g4⟩:=h.node;rw[jA,aU g1,af,zgx,af];have e8:ag 22 8=false:=rfl;have ep:ix 22=true:=rfl;simp only[rP,ep,nT,nF,aK,aI,af,xi,yl,ym,vB,dB,hf,w1,w2,hc,he,e8];have hE:fU 22 t n (ks.av:Int) ks.head pat=bif ar (fA true pat) then 61 else bif ar (ag (ks.av:Int) 0) then 61 else bif ag n 0 then(bif aW t then 0 else 62) else 61:=by have kk:rO 22 (ks.av:Int)=ag (ks.av:Int) 0:=rfl;unfold fU yj Ba;rw[kk];cases pat<;>cases ag (ks.av:Int) 0<;>cases ag n 0<;>cases aW t<;>rfl
  rw[hE];cases pat<;>cases a1:ag (ks.av:Int) 0<;>cases a2:ag n 0<;>cases a3:aW t<;>simp only[nT,nF,aK,aI,af,fA,BEq.rfl,cond_true,cond_false]<;>rfl
 case k23=>
  intro h;obtain⟨g1,g2,g3,g4⟩:=h.node;rw[jA,aU g1,af,zgy,af];have e8:ag 23 8=false:=rfl;have ep:ix 23=true:=rfl;simp only[rP,ep,nT,nF,aK,aI,af,xi,yl,ym,E2,Bb,yk,vB,dB,hf,w1,w2,hc,he,e8];have hE:fU 23 t n (ks.av:Int) ks.head pat=bif ar (fA true pat) then 61 else bif ar (ag (ks.av:Int) 0) then 61 else bif qf n then(bif bM t [] then 0 else 61) else 61:=by rfl
  rw[hE];cases pat<;>cases a1:ag (ks.av:Int) 0<;>cases a2:qf n<;>cases a3:bM t []<;>simp only[nT,nF,aK,aI,af,E2,Bb,yk,hc,he,fA,e8,BEq.rfl,cond_true,cond_false,a3]<;>rfl
 case k24=>
  intro h;obtain⟨g1,g2,g3,g4⟩:=h.node;rw[jA,aU g1,af,zgz,af];have e8:ag 24 8=false:=rfl;have ep:ix 24=true:=rfl;simp only[rP,ep,nT,nF,aK,aI,af,mN,UZ,U0,E2,Bb,yk,vB,dB,hf,w1,w2,hc,he,e8];have hE:fU 24 t n (ks.av:Int) ks.head pat=bif ar (fA true pat) then 61 else bif ar (true) then 61 else bif ag n 0 then(bif gK t then 0 else 62) else 61:=by have kk:rO 24 (ks.av:Int)=true:=rfl;unfold fU yj Ba;rw[kk];cases pat<;>cases ag n 0<;>cases gK t<;>rfl
  rw[hE];cases pat<;>cases a1:ag n 0<;>cases a2:gK t<;>simp only[nT,nF,aK,aI,af,fA,BEq.rfl,cond_true,cond_false]<;>rfl
 obtain⟨g1,g2,g3,g4⟩:=hs.node;rw[jA,aU g1,af,z3t a h,af];have hE:fU a t n (ks.av:Int) ks.head pat=61:=by
  have hs:fX a=-1:=by unfold fX;rw[h 1 dc,h 6 dc,h 9 dc,h 10 dc,h 11 dc,h 21 dc,h 23 dc,h 3 dc,h 5 dc,h 7 dc,h 8 dc,h 12 dc,h 22 dc,h 4 dc,h 24 dc,h 2 dc];rfl
  unfold fU;rw[hs];rfl
 rw[hE];rfl
def PA(x:ND):Prop:=(∀b,b∈x.2.1->0<=b/\b<=255)/\x.2.1.length<=1000000/\JI x.2.2.1
def GL(l:List ND):Prop:=∀x,x∈l->PA x
def GL.at{l:List ND}(h:GL l){k:Nat}{x:ND}(e:l[k]?=some x):PA x:=h x (zv e)
def eC:Bool->Bool->Bool->F->Int
 |_,_,_,.nil=>0
 |m,pat,eD,.cons kd t n ks r=>
  bif ar (ag (fU kd t n (ks.av:Int) ks.head (pat||(m&&eD))) 0) then fU kd t n (ks.av:Int) ks.head (pat||(m&&eD)) else
  bif ar (ag (eC (ag kd 10) (pat||(m&&eD)) false ks) 0) then eC (ag kd 10) (pat||(m&&eD)) false ks else eC m pat (!eD) r
def aX(kd:Int)(t:List Int)(n:Int)(ks:F)(pat:Bool):Int:=bif ar (ag (fU kd t n (ks.av:Int) ks.head pat) 0) then fU kd t n (ks.av:Int) ks.head pat else eC (ag kd 10) pat false ks
def z14(m pat eD:Bool):eC m pat eD .nil=0:=id (Eq.refl _)
def qp3(m pat eD:Bool)(kd:Int)(t:List Int)(n:Int)(ks r:F):eC m pat eD (.cons kd t n ks r)=bif ar (ag (aX kd t n ks (pat||(m&&eD))) 0) then aX kd t n ks (pat||(m&&eD)) else eC m pat (!eD) r:=by
 conv=>lhs;unfold eC
 unfold aX;cases h:ar (ag (fU kd t n (ks.av:Int) ks.head (pat||(m&&eD))) 0) with
 |true=>rw[cond_true,cond_true,h];rfl
 |false=>rw[cond_false,cond_false]
def z88(i:Nat):ag (((i+1:Nat):Int) % 2) 1=!ag ((i:Int) % 2) 1:=by
 by_cases h:(i:Int) % 2=1
 ·have h2:((i+1:Nat):Int) % 2=0:=om
  rw[h,h2];rfl
 ·have h1:(i:Int) % 2=0:=om
  have h2:((i+1:Nat):Int) % 2=1:=om
  rw[h1,h2];rfl
def FV(to:Nat)(e:Int):Int×Int×Unit:=bif ag e 0 then((to:Int),0,()) else(0,e,())
def zcj(b b2:Bool)(l:List ND)(hl:l.length<=10000)(hg:GL l){k:Nat}{kd:Int}{t:List Int}{n:Int}{ks:F}(h:aJ l k (tr kd t n ks)):∀pat N,ks.size+1<=N->bc nB N (⟨b,l⟩,(k:Int),pat,⟨b2,l⟩,())=some (FV (k+1+ks.size) (aX kd t n ks pat)):=by
 refine F.jC (l:=l) (P:=fun k kd t n ks=>∀pat N,ks.size+1<=N->bc nB N (⟨b,l⟩,(k:Int),pat,⟨b2,l⟩,())=some (FV (k+1+ks.size) (aX kd t n ks pat))) ?_ h;clear h k kd t n ks;intro k kd t n ks hs he pat N hN;obtain⟨N,rfl⟩:∃m,N=m+1:=⟨N-1,by omega⟩;show nB (bc nB N) _=_;obtain⟨g1,g2,g3,g4⟩:=hs.node;obtain⟨q1,q2,q3⟩:=hg.at g1;rw[aaT,aaS,z87 b2 l hl pat q1 q3 kd hs];simp only[af];unfold aX;cases hE:ar (ag (fU kd t n (ks.av:Int) ks.head pat) 0) with
 |true=>
  rw[aK,cond_true];unfold FV;have:ag (fU kd t n (ks.av:Int) ks.head pat) 0=false:=by unfold ar at hE;simpa using hE
  rw[this,cond_false]
 |false=>
  rw[aI,cond_false,aU g1,af,aB om];have loop:∀(g:F) (q i:Nat),g.rm (fun k kd t n ks=>∀pat N,ks.size+1<=N->bc nB N (⟨b,l⟩,(k:Int),pat,⟨b2,l⟩,())=some (FV (k+1+ks.size) (aX kd t n ks pat))) q->
    g.size<=N->i+g.av=ks.av->i<=1000000->
    aD (tH (bc nB N)) (⟨b,l⟩,(k:Int),pat,⟨b2,l⟩,(q:Int),(ks.av:Int),(i:Int),())=some (FV (q+g.size) (eC (ag kd 10) pat (ag ((i:Int) % 2) 1) g)):=by
   intro g
   induction g with
   |nil=>intro q i _ _ hi _;have hi:i+0=ks.av:=hi;refine bZ ?_;rw[qme];simp only;rw[bD,if_neg om,z14];rfl
   |cons po t' n' bE r' _ ih=>
    intro q i hE hz hi hk;have hi:i+(r'.av+1)=ks.av:=hi;have hz:bE.size+r'.size+1<=N:=hz;have hc:=ks.cu;have hj:aP pat (some true) (az (cM l (k:Int)) (fun x3=>aP (ag x3.1 10) (az (jK (i:Int) 2) (fun x4=>some (ag x4 1))) (some false)))=some (pat||(ag kd 10&&ag ((i:Int) % 2) 1)):=by rw[aU g1,Mj om dc];simp only[af];cases pat<;>cases ag kd 10<;>rfl
    rw[qp3];have hw:=hE.1 (pat||(ag kd 10&&ag ((i:Int) % 2) 1)) N om;generalize hv:aX po t' n' bE (pat||(ag kd 10&&ag ((i:Int) % 2) 1))=v at*
    have step:tH (bc nB N) (⟨b,l⟩,(k:Int),pat,⟨b2,l⟩,(q:Int),(ks.av:Int),(i:Int),())=
      bif ag v 0 then some (.inl (⟨b,l⟩,(k:Int),pat,⟨b2,l⟩,((q+1+bE.size:Nat):Int),(ks.av:Int),((i+1:Nat):Int),())) else some (.inr (0,v,())):=by
     rw[qme];simp only[hj,af,hw];rw[bD,if_pos om,aB om];unfold FV;cases hf:ag v 0 with
     |true=>rfl
     |false=>show aP (ar (ag v 0)) _ _=_;rw[hf];rfl
    cases hf:ag v 0 with
    |true=>
     rw[hf,cond_true] at step;rw[cU step,ih _ (i+1) hE.2 om om om,z88];have e:q+1+bE.size+r'.size=q+(F.cons po t' n' bE r').size:=by show _=q+(bE.size+r'.size+1);omega
     rw[e];rfl
    |false=>rw[hf,cond_false] at step;rw[bZ step];show _=some (FV _ v);unfold FV;rw[hf];rfl
  have hc:=ks.cu;exact loop ks (k+1) 0 he om om om
def z89(b b2:Bool)(l:List ND)(hl:l.length<=10000)(hg:GL l){k:Nat}{kd:Int}{t:List Int}{n:Int}{ks:F}(pat:Bool)(h:aJ l k (tr kd t n ks)):CU (⟨b,l⟩,(k:Int),pat,⟨b2,l⟩,())=some (FV (k+1+ks.size) (aX kd t n ks pat)):=vw (ks.size+1) fun N hN=>zcj b b2 l hl hg h pat N hN
abbrev Tx:=List Int
def bB:List Tx->Bool
 |[]=>false
 |a::r=>decide (a∈r)||bB r
def Zt:∀l:List Tx,bB l=false↔l.Nodup
 |[]=>by simp[bB]
 |a::r=>by unfold bB;rw[List.nodup_cons,<-Zt r,Bool.or_eq_false_iff,decide_eq_false_iff_not]
def vC(l:List ND):List Tx:=l.filterMap fun x=>if x.1=22 then some x.2.1 else none
def z3u(a b:List ND):vC (a++b)=vC a++vC b:=List.filterMap_append ..
def qp4(x:ND)(l:List ND):vC (x::l)=(if x.1=22 then [x.2.1] else [])++vC l:=by
 show List.filterMap _ (x::l)=_;rw[List.filterMap_cons];by_cases h:x.1=22
 ·rw[if_pos h,if_pos h];rfl
 ·rw[if_neg h,if_neg h];rfl
def z3v(l:List ND):(vC l).length<=l.length:=List.length_filterMap_le _ _
def z3w(b:Bool)(l:List ND)(hl:l.length<=10000):∀(m k:Nat) (nb:Bool) (out:List Tx),k+m=l.length->out.length<=k->∃yi,aD pL (⟨b,l⟩,(l.length:Int),(k:Int),⟨nb,out⟩,())=some (⟨yi,out++vC (l.drop k)⟩,()):=by
 intro m
 induction m with
 |zero=>intro k nb out hk _;refine⟨nb,bZ ?_⟩;rw[qdh];simp only;rw[bD,if_neg om,zw om];show _=some (Sum.inr ((⟨nb,out++[]⟩:Sl Tx),()));rw[zn]
 |succ m ih=>
  intro k nb out hk ho;have hc:k<l.length:=om
  rw[jW hc,qp4];have he:=aU (zf hc);by_cases h:l[k].1=22
  ·have hf:fit (bS (ae out) (ae [l[k].2.1]))=some ():=il (by show out.length+1<=_;omega);have step:pL (⟨b,l⟩,(l.length:Int),(k:Int),⟨nb,out⟩,())=some (.inl (⟨b,l⟩,(l.length:Int),((k+1:Nat):Int),⟨false,out++[l[k].2.1]⟩,())):=by rw[qdh];simp only;rw[bD,if_pos om,he,af,gP,if_pos h,hf,af,af,JF,aB om];rfl
   obtain⟨yi,h'⟩:=ih (k+1) false (out++[l[k].2.1]) om (by rw[zd,List.length_singleton];omega);refine⟨yi,?_⟩;rw[cU step,h',if_pos h,zm]
  ·have step:pL (⟨b,l⟩,(l.length:Int),(k:Int),⟨nb,out⟩,())=some (.inl (⟨b,l⟩,(l.length:Int),((k+1:Nat):Int),⟨nb,out⟩,())):=by rw[qdh];simp only;rw[bD,if_pos om,he,af,gP,if_neg h,af,aB om]
   obtain⟨yi,h'⟩:=ih (k+1) nb out om om;refine⟨yi,?_⟩;rw[cU step,h',if_neg h,List.nil_append]
def z3x(b:Bool)(l:List ND)(hl:l.length<=10000):∃nb,wu (⟨b,l⟩,())=some (⟨nb,vC l⟩,()):=by rw[aaV];exact z3w b l hl l.length 0 true [] om (Nat.le_refl _)
def yn:List Tx->Bool
 |[]=>false
 |[_]=>false
 |a::b::r=>decide (a=b)||yn (b::r)
def qyk:∀l:List Tx,yn l=true↔∃k,k+1<l.length/\l[k+1]?=l[k]?
 |[]=>by simp[yn]
 |[a]=>by simp[yn]
 |a::b::r=>by
  unfold yn;rw[Bool.or_eq_true,decide_eq_true_eq,qyk (b::r)];constructor
  ·rintro(h|⟨k,h1,h2⟩)
   ·exact⟨0,by simp,by simp[h]⟩
   ·exact⟨k+1,by simpa using h1,by simpa using h2⟩
  grind
def z15(a b:Nat):bS (a:Int) (b:Int)=((a+b:Nat):Int):=by show(a:Int)+(b:Int)=_;omega
def JK{α:Type}{l:List α}{i:Nat}(h:i<l.length):nth l i=some l[i]:=by unfold nth;exact zf h
def z3y(k0:Nat)(nb:Bool):∀(m k k2:Nat) (s:List Tx),s.length<=1000000->k0+k2+m=s.length->1<=k2->k+1<=k0+k2->∃c:List Tx,aD pM ((k:Int),(k0:Int),(k2:Int),⟨nb,s⟩,())=some (.inr (⟨nb,c⟩,()))/\c.length<s.length:=by
 intro m
 induction m with
 |zero=>
  intro k k2 s hs h1 h2 h3;refine⟨(fF s (k:Int) []).take k,bZ ?_,?_⟩
  ·have e1:ae (cj s (k0:Int))=(k2:Int):=by unfold ae cj;rw[zT,Int.toNat_natCast];omega
   have ez:(fF s (k:Int) ([]:Tx)).length=s.length:=by unfold fF;rw[zd,zP,List.length_replicate,Int.toNat_natCast];omega
   rw[qat];simp only[e1];rw[bD,if_neg om];have c1:df (ae s) (k:Int)=some k:=by unfold df ae;rw[if_pos om,Int.toNat_natCast]
   have c2:df (ae (fF s (k:Int) ([]:Tx))) (k:Int)=some k:=by unfold df ae;rw[if_pos om,Int.toNat_natCast]
   rw[c1,af,c2,af];rfl
  grind
 |succ m ih=>
  intro k k2 s hs h1 h2 h3;have e1:ae (cj s (k0:Int))=((k2+m+1:Nat):Int):=by unfold ae cj;rw[zT,Int.toNat_natCast];omega
  have e2:gS .i64 (k2:Int) 1=((k2-1:Nat):Int):=by rw[xH om om];omega
  have l1:bJ 0 (k2:Int)=true:=zt om;have l2:bJ 0 ((k2-1:Nat):Int)=true:=zt om;have step:∃(k':Nat) (s':List Tx),pM ((k:Int),(k0:Int),(k2:Int),⟨nb,s⟩,())=some (.inl ((k':Int),(k0:Int),((k2+1:Nat):Int),⟨nb,s'⟩,()))/\s'.length=s.length/\k'+1<=k0+(k2+1):=by
   rw[qat];simp only[e1];rw[bD,if_pos om,e2,l1,l2,aK,aK,z15,z15,vc om,vc om];simp only[af,JK (show k0+k2<s.length by omega),JK (show k0+(k2-1)<s.length by omega)];cases bM s[k0+k2] s[k0+(k2-1)] with
   |true=>refine⟨k,s,?_,rfl,by omega⟩;simp only[ar,Bool.not_true,aI,af,aB (show k2<=1000000000 by omega)]
   |false=>refine⟨k+1,s.set k s[k0+k2],?_,by rw[List.length_set],by omega⟩;simp only[ar,Bool.not_false,aK,af,vc (show k<s.length by omega),JK (show k<s.length by omega),aB (show k2<=1000000000 by omega),aB (show k<=1000000000 by omega)];rfl
  obtain⟨k',s',h4,h5,h6⟩:=step;obtain⟨c,g1,g2⟩:=ih k' (k2+1) s' om om om h6;exact⟨c,by rw[cU h4,g1],by omega⟩
def qvv(nb:Bool)(s:List Tx)(hs:s.length<=1000000):∀(m k:Nat),k+m=s.length->1<=k->(∀j,j+1<k->s[j+1]?≠s[j]?)->∃c,aD tI ((k:Int),⟨nb,s⟩,())=some (⟨nb,c⟩,())/\decide (c.length<s.length)=yn s:=by
 intro m
 induction m with
 |zero=>
  intro k h1 h2 h3;refine⟨s,bZ ?_,?_⟩
  ·rw[q6j];simp only;rw[bD,if_neg (by unfold ae;omega)]
  ·have:yn s=false:=by
    cases h:yn s with
    |false=>rfl
    |true=>
     obtain⟨j,g1,g2⟩:=(qyk s).1 h
     grind
   rw[this];exact zo (Nat.lt_irrefl _)
 |succ m ih=>
  intro k h1 h2 h3;have e2:gS .i64 (k:Int) 1=((k-1:Nat):Int):=by rw[xH om om];omega
  have hc:df (ae s) (k:Int)=some k:=by unfold df ae;rw[if_pos om,Int.toNat_natCast]
  by_cases he:s[k]=s[k-1]
  ·obtain⟨c,g1,g2⟩:=z3y k nb m k 1 s hs om (Nat.le_refl _) om;have g1:aD pM ((k:Int),(k:Int),1,⟨nb,s⟩,())=some (.inr (⟨nb,c⟩,())):=g1;refine⟨c,bZ ?_,?_⟩
   ·rw[q6j];simp only;rw[bD,if_pos (by unfold ae;omega),e2,vc om,vc om];simp only[af,JK (show k<s.length by omega),JK (show k-1<s.length by omega),hc];rw[GB,if_pos he,g1]
   ·have:yn s=true:=(qyk s).2 ⟨k-1,by omega,by rw[show k-1+1=k by omega,zf om,zf om,he]⟩;rw[this];exact zt g2
  ·have step:tI ((k:Int),⟨nb,s⟩,())=some (.inl (((k+1:Nat):Int),⟨nb,s⟩,())):=by rw[q6j];simp only;rw[bD,if_pos (by unfold ae;omega),e2,vc om,vc om];simp only[af,JK (show k<s.length by omega),JK (show k-1<s.length by omega)];rw[GB,if_neg he,aB om]
   obtain⟨c,g1,g2⟩:=ih (k+1) om om (fun j hj=>by
    by_cases hf:j+1=k
    ·have:j=k-1:=om
     subst this;rw[show k-1+1=k by omega,zf om,zf om];exact fun e=>he (zF e)
    ·exact h3 j om)
   exact⟨c,by rw[cU step,g1],g2⟩
def qvw(nb:Bool)(s:List Tx)(hs:s.length<=1000000):∃c,wy (⟨nb,s⟩,())=some (⟨nb,c⟩,())/\decide (c.length<s.length)=yn s:=by
 rw[aaW,bD];by_cases h:ae s<2
 ·rw[if_pos h];refine⟨s,rfl,?_⟩;have:yn s=false:=by
   have h:(s.length:Int)<2:=h
   match s,h with
   |[],_=>rfl
   |[a],_=>rfl
   |a::b::r,h=>simp at h;omega
  grind
 ·rw[if_neg h];have h:¬(s.length:Int)<2:=h;exact qvv nb s hs (s.length-1) 1 om (Nat.le_refl _) (fun j hj=>by omega)
def qrc:∀l:List Tx,(l.Pairwise fun a b=>(!strLt b a)=true)->yn l=bB l
 |[],_=>rfl
 |[a],_=>by simp[yn,bB]
 |a::b::r,h=>by
  have ih:=qrc (b::r) (List.pairwise_cons.1 h).2;unfold yn;rw[ih]
  conv=>rhs;unfold bB
  by_cases hc:a=b
  ·simp[hc]
  ·have hm:a∉b::r:=by
    intro hm;rcases zk.1 hm with e|e
    ·exact hc e
    ·have h1:=(List.pairwise_cons.1 h).1 b (zg ..);have h2:=(List.pairwise_cons.1 (List.pairwise_cons.1 h).2).1 a e;simp only[Bool.not_eq_true'] at h1 h2;exact hc (KL _ _ h2 h1)
   grind
def zck{a b:List Tx}(h:a.Perm b):bB a=bB b:=by have:=h.nodup_iff;rw[<-Zt,<-Zt] at this;cases ha:bB a<;>cases hb:bB b<;>simp_all
def zjb(nb:Bool)(s:List Tx)(hs:s.length<=1000000)(hg:∀x,x∈s->yZ x=true):∃c yi,az (wv (⟨nb,s⟩,())) (fun x=>wy (x.1,()))=some (⟨yi,c⟩,())/\decide (c.length<s.length)=bB s:=by
 have e:wv (⟨nb,s⟩,())=some (⟨nb,s.mergeSort fun a b=>!strLt b a⟩,()):=by
  show(bif s.all yZ&&decide (s.length<4611686018427387904) then _ else none)=_
  grind
 have hc:(s.mergeSort fun a b=>!strLt b a).length=s.length:=List.length_mergeSort _;obtain⟨c,h1,h2⟩:=qvw nb (s.mergeSort fun a b=>!strLt b a) om;rw[e,af];refine⟨c,nb,h1,?_⟩;rw[<-hc,h2,qrc,zck (List.mergeSort_perm _ _)];refine List.pairwise_mergeSort (fun a b c h1 h2=>?_) (fun a b=>?_) _
 ·simp only[Bool.not_eq_true'] at h1 h2 ⊢;cases h3:strLt c a with
  |false=>rfl
  |true=>
   cases h4:strLt b c with
   |true=>rw[KK _ _ _ h4 h3] at h1;cases h1
   |false=>
    have e:=KL _ _ h2 h4
    grind
 ·cases h3:strLt b a with
  |false=>rfl
  |true=>
   cases h4:strLt a b with
   |false=>rfl
   |true=>have:=KK _ _ _ h3 h4;rw[Q8] at this;cases this
def aJ.rq{l:List ND}{k:Nat}{f:F}(h:aJ l k f):(l.drop k).take f.size=f.flat:=by obtain⟨post,h⟩:=h;rw[h,<-f.len,List.take_left'];rfl
def zcl{α:Type}(a c:List α)(h:a.length=c.length):rS a c=c:=by
 unfold rS
 grind
def zcm(b:Bool)(l:List ND)(hl:l.length<=10000){k:Nat}{kd:Int}{t:List Int}{n:Int}{ks r:F}(h:aJ l k (.cons kd t n ks r)):wq (⟨b,l⟩,(k:Int),())=some (⟨false,(tr kd t n ks).flat⟩,0,()):=by
 obtain⟨g1,g2,g3,g4⟩:=h.node;rw[aaU,Rl b l hl,h.ends];have hs:gS .i64 ((k+1+ks.size:Nat):Int) (k:Int)=((ks.size+1:Nat):Int):=by rw[xH om om];omega
 have hm:BR ((ks.size+1:Nat):Int) ((ks.size+1:Nat):Int)=some (ks.size+1):=by unfold BR;rw[if_pos om,Int.toNat_natCast]
 have hc:cI l (k:Int) ((k+1+ks.size:Nat):Int)=some ((l.take (k+1+ks.size)).drop k):=by unfold cI;rw[if_pos om,Int.toNat_natCast,Int.toNat_natCast]
 have hd:(l.take (k+1+ks.size)).drop k=(tr kd t n ks).flat:=by rw[List.drop_take,show k+1+ks.size-k=(tr kd t n ks).size by rw[xh];omega];exact h.first.rq
 simp only[af];rw[bD,if_neg om];simp only[hs,hm,af,hc,hd];rw[zcl];rw[(tr kd t n ks).len,xh];exact List.length_replicate
def GL.sub{l:List ND}(hg:GL l){k:Nat}{f:F}(h:aJ l k f):GL f.flat:=by intro x hx;rw[<-h.rq] at hx;exact hg x (List.mem_of_mem_drop (List.mem_of_mem_take hx))
def z3z{l:List ND}(hg:GL l):∀x,x∈vC l->yZ x=true:=by
 intro x hx;obtain⟨d,h1,h2⟩:=List.mem_filterMap.1 hx;by_cases h:d.1=22
 ·rw[if_pos h] at h2;injection h2 with h2;subst h2;obtain⟨g1,g2,_⟩:=hg d h1;unfold yZ
  grind
 grind
def qyl(b:Bool)(l:List ND)(hl:l.length<=10000)(hg:GL l){k:Nat}{kd:Int}{t:List Int}{n:Int}{ks r:F}(h:aJ l k (.cons kd t n ks r)):sJ ((k:Int),⟨b,l⟩,())=some (bB (vC (tr kd t n ks).flat),()):=by
 obtain⟨g1,g2,g3,g4⟩:=h.node;rw[aaY,zcm b l hl h];simp only[af];have hc:(tr kd t n ks).flat.length<=10000:=by rw[(tr kd t n ks).len,xh];omega
 obtain⟨nb,h1⟩:=z3x false (tr kd t n ks).flat hc;have hn:=z3v (tr kd t n ks).flat
 obtain⟨c,yi,h2,h3⟩:=zjb nb (vC (tr kd t n ks).flat) om (z3z (hg.sub h.first));have h4:wz (⟨false,(tr kd t n ks).flat⟩,())=some (ae (vC (tr kd t n ks).flat),()):=by rw[aaX,h1];rfl
 rw[h1];simp only[af,h4];cases hs:wv (⟨nb,vC (tr kd t n ks).flat⟩,()) with
 |none=>rw[hs] at h2;cases h2
 |some x=>rw[hs,af] at h2;simp only[af,h2];rw[<-h3];congr 2;exact decide_eq_decide.2 (by unfold ae;omega)
def E3:F->List Tx
 |.nil=>[]
 |.cons kd t _ ks r=>(bif ag kd 22 then [t] else E3 ks)++E3 r
def pq(kd:Int)(t:Tx)(ks:F):List Tx:=bif ag kd 22 then [t] else E3 ks
def U1(kd:Int)(t:Tx)(n:Int)(ks r:F):E3 (.cons kd t n ks r)=pq kd t ks++E3 r:=id (Eq.refl _)
def Zu:∀f:F,(E3 f).length<=f.size
 |.nil=>Nat.le_refl _
 |.cons kd t n ks r=>by
  have h1:=Zu ks;have h2:=Zu r;rw[U1,zd];show _<=ks.size+r.size+1;unfold pq;cases ag kd 22 with
  |true=>show 1+_<=_;omega
  |false=>show(E3 ks).length+_<=_;omega
def FW:F->Bool
 |.nil=>false
 |.cons kd t _ ks r=>(bif ix kd then bB (pq kd t ks) else FW ks)||FW r
def rQ(kd:Int)(t:Tx)(ks:F):Bool:=bif ix kd then bB (pq kd t ks) else FW ks
def qt1(kd:Int)(t:Tx)(n:Int)(ks r:F):FW (.cons kd t n ks r)=(rQ kd t ks||FW r):=id (Eq.refl _)
def qrd{a b:Int}:(bif ar (ag a 0) then a else b)=0↔a=0/\b=0:=by
 cases h:ag a 0 with
 |true=>have:=ct.1 h;rw[nT,cond_false];omega
 |false=>
  have hn:a≠0:=fun e=>by rw[e] at h;cases h
  rw[nF,cond_true];omega
def bX{kd:Int}{t:Tx}{n:Int}{ks:F}{pat:Bool}:aX kd t n ks pat=0↔fU kd t n (ks.av:Int) ks.head pat=0/\eC (ag kd 10) pat false ks=0:=qrd
def dD{m pat eD:Bool}{kd:Int}{t:Tx}{n:Int}{ks r:F}:eC m pat eD (.cons kd t n ks r)=0↔aX kd t n ks (pat||(m&&eD))=0/\eC m pat (!eD) r=0:=by rw[qp3];exact qrd
def Zv(k n:Int):Bool:=bif ag k 1||ag k 23 then qf n else ag n 0
def JL(k:Int)(t:Tx):Bool:=(bif ag (fX k) 0 then bM t [] else bif ag (fX k) 3 then ar (aL 200 (ae t)) else true)&&ar (ag (fX k) 1&&ar (aW t))&&ar (ag (fX k) 2&&ar (gK t))
def zh0(k hk:Int):Bool:=ar (ag k 8&&ar (ag hk 5))
def z40(k:Int)(t:Tx)(hk:Int):yj k t hk=0↔JL k t=true/\zh0 k hk=true:=by unfold yj Ba JL zh0;generalize (ag k 8&&ar (ag hk 5))=T;generalize ag (fX k) 0=s0;generalize ag (fX k) 1=s1;generalize ag (fX k) 2=s2;generalize ag (fX k) 3=s3;generalize bM t []=a;generalize aL 200 (ae t)=c;generalize aW t=d;generalize gK t=e;revert T s0 s1 s2 s3 a c d e;decide
def bT{k:Int}{t:Tx}{n c hk:Int}{pat:Bool}:fU k t n c hk pat=0↔aL (fX k) 0=false/\ix k=pat/\rO k c=true/\Zv k n=true/\JL k t=true/\zh0 k hk=true:=by
 rw[<-z40];have e:fU k t n c hk pat=bif aL (fX k) 0 then 61 else bif ar (fA (ix k) pat) then 61 else bif ar (rO k c) then 61 else bif Zv k n then yj k t hk else 61:=by unfold fU Zv;cases (ag k 1||ag k 23)<;>rfl
 rw[e];cases aL (fX k) 0 with
 |true=>simp
 |false=>
  have hp:fA (ix k) pat=true↔ix k=pat:=by cases ix k<;>cases pat<;>decide
  cases h1:fA (ix k) pat with
  |false=>
   have:ix k≠pat:=fun e=>by rw[hp.2 e] at h1;cases h1
   simp[nF,this]
  |true=>
   rw[nT,cond_false,cond_false];have:=hp.1 h1;cases rO k c with
   |false=>simp[nF]
   |true=>
    rw[nT,cond_false];cases Zv k n with
    |false=>simp
    |true=>simp[this]
def Lo{k c:Int}(h:rO k c=true):(k=5\/k=11->c=1)/\(k=6\/k=7\/k=8\/k=12->c=2)/\(k=9->c=3)/\(k=10->3<=c/\c % 2=1)/\(k=1\/k=2\/k=3\/k=4\/k=21\/k=22\/k=23->c=0):=by
 refine⟨?_,?_,?_,?_,?_⟩
 ·rintro(rfl|rfl)<;>exact ct.1 h
 ·rintro(rfl|rfl|rfl|rfl)<;>exact ct.1 h
 ·rintro rfl;exact ct.1 h
 ·rintro rfl;have h:(bJ 3 c&&ag (c % 2) 1)=true:=h;rw[ze,ct] at h;exact⟨zI h.1,h.2⟩
 ·rintro(rfl|rfl|rfl|rfl|rfl|rfl|rfl)<;>exact ct.1 h
def U2{f:F}(h:(f.av:Int)=0):f=.nil:=by
 cases f with
 |nil=>rfl
 |cons _ _ _ _ r=>have h:((r.av+1:Nat):Int)=0:=h;omega
def qi6:∀(f:F) (m pat eD:Bool),eC m pat eD f=0->vC f.flat=E3 f
 |.nil,_,_,_,_=>rfl
 |.cons kd t n ks r,m,pat,eD,h=>by
  obtain⟨h1,h2⟩:=dD.1 h;obtain⟨h3,h4⟩:=bX.1 h1;have i1:=qi6 ks _ _ _ h4;have i2:=qi6 r _ _ _ h2;show vC ((kd,t,n,(ks.av:Int))::(ks.flat++r.flat))=_;rw[qp4,z3u,i1,i2,U1];unfold pq;by_cases hc:kd=22
  ·subst hc;have:=(Lo (bT.1 h3).2.2.1).2.2.2.2 om;rw[U2 this,if_pos rfl];rfl
  ·rw[if_neg hc,eB hc];rfl
def qvx{kd:Int}{t:Tx}{n:Int}{ks:F}{pat:Bool}(h:aX kd t n ks pat=0):vC (tr kd t n ks).flat=pq kd t ks:=by have h':eC false pat false (tr kd t n ks)=0:=dD.2 ⟨by rw[Bool.false_and,Bool.or_false];exact h,rfl⟩;rw[qi6 _ _ _ _ h',U1];exact zn _
def zco(b:Bool)(l:List ND)(hl:l.length<=10000)(hg:GL l):∀(f:F) (q:Nat) (m pat eD:Bool),aJ l q f->q<=l.length->eC m pat eD f=0->aD lX ((q:Int),⟨b,l⟩,())=bif FW f then some (63,()) else aD lX (((q+f.size:Nat):Int),⟨b,l⟩,()):=by
 intro f
 induction f with
 |nil=>intro q m pat eD _ _ _;rfl
 |cons kd t n ks r mY mZ=>
  intro q m pat eD hs hq he;obtain⟨g1,g2,g3,g4⟩:=hs.node;obtain⟨h1,h2⟩:=dD.1 he;obtain⟨h3,h4⟩:=bX.1 h1;rw[qt1];have esz:q+(F.cons kd t n ks r).size=q+1+ks.size+r.size:=by show q+(ks.size+r.size+1)=_;omega
  rw[esz];have rest:=mZ (q+1+ks.size) m pat (!eD) g3 om h2;cases hp:ix kd with
  |true=>
   have hT:rQ kd t ks=bB (pq kd t ks):=by unfold rQ;rw[hp];rfl
   have hc:=qyl b l hl hg hs;rw[qvx h1,<-hT] at hc;have step:lX ((q:Int),⟨b,l⟩,())=bif rQ kd t ks then some (.inr (63,())) else some (.inl (((q+1+ks.size:Nat):Int),⟨b,l⟩,())):=by
    rw[qdi];simp only;rw[bD,if_pos (by unfold ae;omega),aU g1];simp only[af,rP,hp,nT,aI,hc];cases rQ kd t ks with
    |true=>rfl
    |false=>
     rw[aI,Rl b l hl,hs.ends];simp only[af];have e1:gS .i64 ((q+1+ks.size:Nat):Int) 1=((q+ks.size:Nat):Int):=by rw[xH om om];omega
     rw[e1];show some (Sum.inl (cE .i64 ((q+ks.size:Nat):Int) 1,_,()))=_;rw[aB om,show q+ks.size+1=q+1+ks.size by omega];rfl
   cases ht:rQ kd t ks with
   |true=>rw[ht,cond_true] at step;rw[bZ step];rfl
   |false=>rw[ht,cond_false] at step;rw[cU step,rest];rfl
  |false=>
   have hT:rQ kd t ks=FW ks:=by unfold rQ;rw[hp];rfl
   have step:lX ((q:Int),⟨b,l⟩,())=some (.inl (((q+1:Nat):Int),⟨b,l⟩,())):=by rw[qdi];simp only;rw[bD,if_pos (by unfold ae;omega),aU g1];simp only[af,rP,hp,nF,aK];show some (Sum.inl (cE .i64 (q:Int) 1,_,()))=_;rw[aB om]
   rw[cU step,mY (q+1) _ _ _ g2 om h4,hT];cases FW ks with
   |true=>rfl
   |false=>rw[cond_false,rest];rfl
def nS(kd:Int)(t:Tx)(n:Int)(ks:F)(pat:Bool):Int:=bif aL 100 ((ks.dep+1:Nat):Int) then 60 else bif ar (ag (aX kd t n ks pat) 0) then aX kd t n ks pat else bif rQ kd t ks then 63 else 0
def qlp(b:Bool)(kd:Int)(t:Tx)(n:Int)(ks:F)(pat:Bool)(hl:ks.size+1<=4000)(hg:GL (tr kd t n ks).flat):qM (⟨b,(tr kd t n ks).flat⟩,pat,())=some (nS kd t n ks pat,()):=by
 have hc:(tr kd t n ks).flat.length=ks.size+1:=(tr kd t n ks).len;have hs:=JH kd t n ks;rw[Ul,UW b _ om,(Py _).2 ⟨kd,t,n,ks,rfl⟩,z86 b kd t n ks om];have hw:=z89 b b _ om hg pat hs;have h0:((0:Nat):Int)=0:=rfl;rw[h0] at hw;have c0:aL 4000 (ae (tr kd t n ks).flat)=false:=zo (by unfold ae;omega);simp only[c0,aI,af,nT,hw];unfold nS;cases aL 100 ((ks.dep+1:Nat):Int) with
 |true=>rfl
 |false=>
  rw[aI,cond_false];unfold FV;cases hv:ag (aX kd t n ks pat) 0 with
  |false=>rw[cond_false,nF];show aP (ar (ag (aX kd t n ks pat) 0)) _ _=_;rw[hv];rfl
  |true=>
   rw[cond_true,nT,cond_false];show aD lX (0,_,())=_;have hz:=ct.1 hv;have:=zco b (tr kd t n ks).flat om hg (tr kd t n ks) 0 false pat false hs om (dD.2 ⟨by rw[Bool.false_and,Bool.or_false];exact hz,rfl⟩);rw[h0,qt1] at this;rw[this];have hf:FW .nil=false:=rfl;rw[hf,Bool.or_false];cases rQ kd t ks with
   |true=>rfl
   |false=>rw[cond_false,cond_false];refine bZ ?_;rw[qdi];simp only;rw[bD,if_neg (by unfold ae;rw[hc,xh];omega)]
def qlq(b:Bool)(l:List ND)(hl:l.length<=4000)(pat:Bool)(h:yh l=false):qM (⟨b,l⟩,pat,())=some (60,()):=by rw[Ul,UW b _ om,h];have c0:aL 4000 (ae l)=false:=zo (by unfold ae;omega);simp only[c0,aI,af,nF,aK]
def qym(l:List ND):yh l=false\/∃kd t n ks,l=(tr kd t n ks).flat:=by
 cases h:yh l with
 |false=>exact .inl rfl
 |true=>exact .inr ((Py l).1 h)
def z41(b:Bool)(kd:Int)(t:Tx)(n:Int)(ks:F)(hl:ks.size+1<=4000)(hg:GL (tr kd t n ks).flat):jc (⟨b,(tr kd t n ks).flat⟩,())=some (nS kd t n ks false,()):=by rw[EM,qlp b kd t n ks false hl hg];rfl
def qre(b:Bool)(l:List ND)(hl:l.length<=4000)(h:yh l=false):jc (⟨b,l⟩,())=some (60,()):=by rw[EM,qlq b l hl false h];rfl
end Fn
end Ev