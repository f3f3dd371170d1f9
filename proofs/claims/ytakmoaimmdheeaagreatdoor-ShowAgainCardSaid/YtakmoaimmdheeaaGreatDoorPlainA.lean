/- Layers 2 and 6 in plain words: names, trees, patterns. No statement of its own about the program. -/
import Derived.Test.YtakmoaimmdheeaaGreatDoorFnB
import Derived.Test.YtakmoaimmdheeaaGreatDoorAw
import Derived.Laws.RangeAny
namespace Ev
open Go
namespace Fn
theorem sE{α β:Type}{x y:Option α}{f g:α->Option β}(h:lq x y)(h2:∀a,lq (f a) (g a)):lq (aj x f) (aj y g):=by
 intro v e;cases hx:x with
 |none=>rw[hx] at e;cases e
 |some a=>rw[hx] at e;rw[h a hx];exact h2 a v e
theorem sF{α:Type}{c:Bool}{x y x' y':Option α}(h:lq x x')(h2:lq y y'):lq (az c x y) (az c x' y'):=by
 cases c with
 |true=>exact h
 |false=>exact h2
theorem z85{α β:Type}{f g:α->Option β}(h:∀a,lq (f a) (g a))(y:α⊕β):lq (bR f y) (bR g y):=by
 cases y with
 |inl a=>exact h a
 |inr b=>exact oz _
theorem z36{σ ρ:Type}{f g:σ->Option (σ⊕ρ)}(h:∀s,lq (f s) (g s))(n:Nat)(s:σ):lq (mr f n s) (aX g s):=fun r e=>JP n (TR h n s r e)
def uL:List (List Int):=[[108,101,116],[114,101,99],[105,110],[102,117,110],[105,102],[116,104,101,110],[101,108,115,101],[109,97,116,99,104],[119,105,116,104],[101,110,100],[114,97,105,115,101],[116,114,121],[111,112,101,110],[116,121,112,101],[111,102],[105,110,102,105,120,108],[105,110,102,105,120,114],[105,110,102,105,120],[45,62],[61],[124],[40],[41],[95],[59,59]]
theorem qve:wI ()=some (⟨false,uL⟩,()):=(TT 300).h () _ (by kernel_rfl)
theorem bK{k:Nat}(h:k<=1000000000):aG .i64 (k:Int) 1=((k+1:Nat):Int):=by rw[pD om om];omega
theorem kI{α:Type}{l:List α}{k:Nat}(h:k<l.length):l.drop k=l[k]::l.drop (k+1):=List.drop_eq_getElem_cons h
theorem nE{α:Type}{l:List α}{i:Nat}(h:i<l.length):bA l (i:Int)=some i:=by unfold bA;rw[if_pos om];rfl
theorem vA{α:Type}{l:List α}{i:Nat}{x:α}(h:l[i]?=some x):nth l i=some x:=h
theorem DQ{α:Type}{l:List α}{k:Nat}(h:k<=l.length):cf l 0 (k:Int)=some (l.take k):=by unfold cf;rw[if_pos om];rfl
theorem qk8(s:List Int)(n:Bool)(l:List (List Int))(hl:l.length<=1000000):∀(m k:Nat),k+m=l.length->∃r,aX lR (⟨n,l⟩,s,(l.length:Int),(k:Int),())=some (r,())/\(0<=r↔s∈l.drop k):=by
 intro m
 induction m with
 |zero=>intro k hk;refine⟨-1,cw ?_,by rw[zC om];simp⟩;unfold lR;simp only;rw[bP,if_neg om]
 |succ m ih=>
  intro k hk;have hc:k<l.length:=om
  rw[kI hc];have step:lR (⟨n,l⟩,s,(l.length:Int),(k:Int),())=if s=l[k] then some (.inr ((k:Int),())) else some (.inl (⟨n,l⟩,s,(l.length:Int),((k+1:Nat):Int),())):=by unfold lR;simp only;rw[bP,if_pos om,dG (zg hc),af,Bi,bK om]
  by_cases h:s=l[k]
  ·rw[if_pos h] at step;exact⟨k,cw step,by simp[h,-List.getElem_cons_drop]⟩
  ·rw[if_neg h] at step;obtain⟨r,h1,h2⟩:=ih (k+1) om;exact⟨r,by rw[ew step,h1],by rw[h2];simp[h,-List.getElem_cons_drop]⟩
theorem NX(s:List Int):mD (s,())=some (decide (s∈uL),()):=by obtain⟨r,h1,h2⟩:=qk8 s false uL dc 25 0 dc;rw[R5,qve,af,Kh,Kg];have h1:aX lR (⟨false,uL⟩,s,ae uL,0,())=some (r,()):=h1;simp only[h1,af];have:cK 0 r=decide (s∈uL):=decide_eq_decide.2 (by rw[h2];rfl);rw[this]
def bN:List Int:=[33,36,37,38,42,43,45,47,58,60,61,62,63,64,94,124]
theorem Uk(c:Int):∀l:List Int,(0<=mn c l↔c∈l)
 |[]=>by simp[mn]
 |b::r=>by
  have ih:=Uk c r;unfold mn;by_cases h:b=c
  ·rw[if_pos h];simp[h]
  ·rw[if_neg h];have:c≠b:=fun e=>h e.symm;simp only[zw,this,false_or];rw[<-ih];split<;>omega
theorem Ul(c:Int):lN (c,())=some (decide (c∈bN),()):=by rw[Se,E7,af];have:cK 0 (mn c bN)=decide (c∈bN):=decide_eq_decide.2 (Uk c bN);show some (cK 0 (mn c bN),())=_;rw[this]
def oD(s:List Int):Bool:=!s.isEmpty&&s.all fun b=>decide (b∈bN)
def da(s:List Int):Bool:=oD s&&!decide (s∈uL)
theorem qyp{b:Int}(h:b∈bN):0<=b/\b<=126:=by unfold bN at h;simp only[zw,List.not_mem_nil,or_false] at h;omega
theorem KJ{s:List Int}(hs:∀b,b∈s->0<=b/\b<=255){k:Nat}(hk:k<s.length):(s[k]<=127->dP s (k:Int)=s[k]/\eV s (k:Int)=((k+1:Nat):Int))/\(127<s[k]->126<dP s (k:Int)):=by
 have hb:=hs _ (List.getElem_mem hk);have he:(vc s).size=s.length:=by show(s.map _).toArray.size=_;simp
 have hc:k<(vc s).size:=om
 have hg:(((vc s)[k]'hc).toNat:Int)=s[k]:=by
  have:(vc s)[k]'hc=UInt8.ofNat s[k].toNat:=by have h1:(vc s)[k]'hc=((s.map fun b=>UInt8.ofNat b.toNat).toArray)[k]'(by simpa using hk):=rfl;rw[h1,List.getElem_toArray,List.getElem_map]
  rw[this,UInt8.toNat_ofNat',Nat.mod_eq_of_lt om];omega
 unfold dP eV;rw[Int.toNat_natCast,if_pos om];constructor
 ·intro h;have:=decode_ascii (vc s) k hc om;rw[this];exact⟨hg,by simp⟩
 ·intro h;have:=(decode_high (vc s) k hc om).1;omega
theorem z38{s:List Int}(hs:∀b,b∈s->0<=b/\b<=255):∀(m k:Nat),k+m=s.length->aX qb (s,s,(k:Int),())=some ((s.drop k).all (fun b=>decide (b∈bN))&&!s.isEmpty,()):=by
 intro m
 induction m with
 |zero=>intro k hk;refine cw ?_;unfold qb;simp only;rw[bP,if_neg (by unfold ae;omega),zC om];cases s<;>rfl
 |succ m ih=>
  intro k hk;have hc:k<s.length:=om
  rw[kI hc];obtain⟨h1,h2⟩:=KJ hs hc;have c0:aK (k:Int) (ae s)=true:=zu (by unfold ae;omega);have hb:=hs _ (List.getElem_mem hc);have step:qb (s,s,(k:Int),())=if s[k]∈bN then some (.inl (s,s,((k+1:Nat):Int),())) else some (.inr (false,())):=by
   unfold qb;simp only[c0,aU,af];by_cases h:s[k]<=126
   ·obtain⟨e1,e2⟩:=h1 om;rw[e1,e2];have c1:aK 126 s[k]=false:=zn om;have c2:fS .u8 s[k]=s[k]:=by rw[Z4];omega
    simp only[c1,aD,c2,Ul,af,av];by_cases hm:s[k]∈bN
    ·rw[if_pos hm];simp[hm,aD]
    ·rw[if_neg hm];simp[hm,aU]
   ·have hm:s[k]∉bN:=fun e=>by have:=qyp e;omega
    rw[if_neg hm];have c1:aK 126 (dP s (k:Int))=true:=by
     refine zu ?_;by_cases he:s[k]<=127
     ·rw[(h1 he).1];omega
     ·exact h2 om
    simp only[c1,aU,af]
  by_cases hm:s[k]∈bN
  ·rw[if_pos hm] at step;rw[ew step,ih (k+1) om];simp[hm,-List.getElem_cons_drop]
  ·rw[if_neg hm] at step;rw[cw step];simp[hm,-List.getElem_cons_drop]
theorem z39{s:List Int}(hs:∀b,b∈s->0<=b/\b<=255):ue (s,())=some (oD s,()):=by rw[Sg];have:=z38 hs s.length 0 om;rw[List.drop_zero,Bool.and_comm] at this;exact this
theorem Um(s:List Int)(hs:∀b,b∈s->0<=b/\b<=255):kW ((5,s,0,0),())=some (da s,()):=by rw[E8,z39 hs,NX];have c1:aK 0 0=false:=rfl;have c2:ag 5 3=false:=rfl;have c3:ag 0 0=true:=rfl;have c4:ag 5 1=false:=rfl;have c5:ag 5 2=false:=rfl;have c6:ag 5 4=false:=rfl;have c7:ag 5 5=true:=rfl;simp only[c1,c2,c3,c4,c5,c6,c7,aD,aU,af,av,Bool.not_true,Bool.not_false];unfold da;cases oD s<;>rfl
def yE(c:Int):Bool:=cK 97 c&&cK c 122
def AE(c:Int):Bool:=cK 65 c&&cK c 90
def KK(c:Int):Bool:=cK 48 c&&cK c 57
def eW(c:Int):Bool:=yE c||AE c||KK c||ag c 95||ag c 39
theorem KL(a b:Bool):(az a (some b) (some false):Option Bool)=some (a&&b):=by cases a<;>rfl
theorem z5n(a b:Bool):(az a (some true) (some b):Option Bool)=some (a||b):=by cases a<;>rfl
theorem Un(c:Int):oe (c,())=some (yE c,()):=by rw[R6,KL];rfl
theorem Uo(c:Int):oh (c,())=some (AE c,()):=by rw[R7,KL];rfl
theorem Uq(c:Int):mE (c,())=some (KK c,()):=by rw[R8,KL];rfl
theorem qk9(c:Int):mF (c,())=some (eW c,()):=by rw[R9,Un,Uo,Uq];simp only[af,z5n];rfl
theorem qyq{c:Int}(h:eW c=true):0<=c/\c<=126:=by unfold eW yE AE KK cK at h;simp only[Bool.or_eq_true,ze,decide_eq_true_eq,dB] at h;omega
theorem qyr{s:List Int}(hs:∀b,b∈s->0<=b/\b<=255):∀(m k:Nat),k+m=s.length->aX p9 (s,s,(k:Int),())=some ((s.drop k).all eW&&!s.isEmpty,()):=by
 intro m
 induction m with
 |zero=>intro k hk;refine cw ?_;unfold p9;simp only;rw[bP,if_neg (by unfold ae;omega),zC om];cases s<;>rfl
 |succ m ih=>
  intro k hk;have hc:k<s.length:=om
  rw[kI hc];obtain⟨h1,h2⟩:=KJ hs hc;have c0:aK (k:Int) (ae s)=true:=zu (by unfold ae;omega);have hb:=hs _ (List.getElem_mem hc);have step:p9 (s,s,(k:Int),())=if eW s[k]=true then some (.inl (s,s,((k+1:Nat):Int),())) else some (.inr (false,())):=by
   unfold p9;simp only[c0,aU,af];by_cases h:s[k]<=126
   ·obtain⟨e1,e2⟩:=h1 om;rw[e1,e2];have c1:aK 126 s[k]=false:=zn om;have c2:fS .u8 s[k]=s[k]:=by rw[Z4];omega
    simp only[c1,aD,c2,qk9,af,av];cases eW s[k]<;>rfl
   ·have hm:¬eW s[k]=true:=fun e=>by have:=qyq e;omega
    rw[if_neg hm];have c1:aK 126 (dP s (k:Int))=true:=by
     refine zu ?_;by_cases he:s[k]<=127
     ·rw[(h1 he).1];omega
     ·exact h2 om
    simp only[c1,aU,af]
  rw[List.all_cons];cases hm:eW s[k] with
  |true=>rw[hm,if_pos rfl] at step;rw[ew step,ih (k+1) om,Bool.true_and]
  |false=>rw[hm,if_neg dc] at step;rw[cw step,Bool.false_and,Bool.false_and]
theorem qoo{s:List Int}(hs:∀b,b∈s->0<=b/\b<=255):rE (s,())=some (s.all eW&&!s.isEmpty,()):=by rw[Sa];exact qyr hs s.length 0 om
def Ur:List Int->Nat
 |[]=>0
 |b::r=>bif eW b then Ur r+1 else 0
def z86(p:Int->Bool):List Int->Bool
 |[]=>false
 |b::_=>p b
def vB(p:Int->Bool)(s:List Int):Bool:=s.all eW&&!s.isEmpty&&z86 p s&&!decide (s∈uL)
theorem qys(s:List Int)(a2 a3:Int)(hs:∀b,b∈s->0<=b/\b<=255):rF ((1,s,a2,a3),())=some (vB yE s,()):=by
 rw[Sc,qoo hs,NX];simp only[af];cases s with
 |nil=>rfl
 |cons b r=>have h0:cZ (b::r) 0=some b:=rfl;rw[h0];simp only[af,Un];unfold vB;show _=some (_&&yE b&&_,());cases List.all (b::r) eW<;>cases yE b<;>cases decide (b::r∈uL)<;>rfl
theorem qyt(s:List Int)(a2 a3:Int)(hs:∀b,b∈s->0<=b/\b<=255):rG ((2,s,a2,a3),())=some (vB AE s,()):=by
 rw[Sd,qoo hs,NX];simp only[af];cases s with
 |nil=>rfl
 |cons b r=>have h0:cZ (b::r) 0=some b:=rfl;rw[h0];simp only[af,Uo];unfold vB;show _=some (_&&AE b&&_,());cases List.all (b::r) eW<;>cases AE b<;>cases decide (b::r∈uL)<;>rfl
theorem qvf(s:List Int)(hs:∀b,b∈s->0<=b/\b<=255):kW ((1,s,0,0),())=some (vB yE s,()):=by rw[E8,qys s 0 0 hs];have c1:aK 0 0=false:=rfl;have c2:ag 1 3=false:=rfl;have c3:ag 0 0=true:=rfl;have c4:ag 1 1=true:=rfl;simp only[c1,c2,c3,c4,aD,aU,af,av,Bool.not_true,Bool.not_false]
theorem qvg(s:List Int)(hs:∀b,b∈s->0<=b/\b<=255):kW ((2,s,0,0),())=some (vB AE s,()):=by rw[E8,qyt s 0 0 hs];have c1:aK 0 0=false:=rfl;have c2:ag 2 3=false:=rfl;have c3:ag 0 0=true:=rfl;have c4:ag 2 1=false:=rfl;have c5:ag 2 2=true:=rfl;simp only[c1,c2,c3,c4,c5,aD,aU,af,av,Bool.not_true,Bool.not_false]
def aS(s:List Int):Bool:=vB yE s||da s
def qB(s:List Int):Bool:=vB AE s
theorem qyu{s:List Int}(hs:∀b,b∈s->0<=b/\b<=255):rH (s,())=some (aS s,()):=by rw[Si,qvf s hs,Um s hs];simp only[af,z5n];rfl
theorem z3a{s:List Int}(hs:∀b,b∈s->0<=b/\b<=255):rI (s,())=some (qB s,()):=by rw[Sj,qvg s hs];rfl
abbrev ND:=Int×List Int×Int×Int
inductive F where
 |nil:F
 |cons:Int->List Int->Int->F->F->F
def F.au:F->Nat
 |.nil=>0
 |.cons _ _ _ _ r=>r.au+1
def F.flat:F->List ND
 |.nil=>[]
 |.cons k t n ks r=>(k,t,n,(ks.au:Int))::(ks.flat++r.flat)
def F.size:F->Nat
 |.nil=>0
 |.cons _ _ _ ks r=>ks.size+r.size+1
def F.dep:F->Nat
 |.nil=>0
 |.cons _ _ _ ks r=>max (ks.dep+1) r.dep
def F.app:F->F->F
 |.nil,g=>g
 |.cons k t n ks r,g=>.cons k t n ks (r.app g)
abbrev tr(k:Int)(t:List Int)(n:Int)(ks:F):F:=.cons k t n ks .nil
theorem F.len:∀f:F,f.flat.length=f.size
 |.nil=>rfl
 |.cons k t n ks r=>by show(_::(ks.flat++r.flat)).length=ks.size+r.size+1;rw[zj,zd,ks.len,r.len]
theorem F.eh:∀f:F,f.au<=f.size
 |.nil=>Nat.le_refl _
 |.cons k t n ks r=>by have:=r.eh;show r.au+1<=ks.size+r.size+1;omega
theorem F.lV:∀f:F,f.dep<=f.size
 |.nil=>Nat.le_refl _
 |.cons k t n ks r=>by have h1:=r.lV;have h2:=ks.lV;show max (ks.dep+1) r.dep<=ks.size+r.size+1;omega
theorem vC(k:Int)(t:List Int)(n:Int)(ks:F):(tr k t n ks).flat=(k,t,n,(ks.au:Int))::ks.flat:=by show _::(ks.flat++[])=_;rw[zt]
theorem yF(k:Int)(t:List Int)(n:Int)(ks:F):(tr k t n ks).size=ks.size+1:=rfl
def skip(N:Nat):List ND->Nat->Option (List ND)
 |l,0=>some l
 |[],_+1=>none
 |d::r,c+1=>if 0<=d.2.2.2/\d.2.2.2<=(N:Int) then skip N r (c+d.2.2.2.toNat) else none
theorem Ig(N:Nat)(l:List ND):skip N l 0=some l:=by cases l<;>rfl
theorem DR(N:Nat)(d:ND)(r:List ND)(c:Nat):skip N (d::r) (c+1)=if 0<=d.2.2.2/\d.2.2.2<=(N:Int) then skip N r (c+d.2.2.2.toNat) else none:=by conv=>lhs;unfold skip
theorem NY(N:Nat):∀(f:F) (c:Nat) (post:List ND),f.size<=N->skip N (f.flat++post) (f.au+c)=skip N post c
 |.nil,c,post,_=>by show skip N post (0+c)=_;rw[zD]
 |.cons k t n ks r,c,post,h=>by
  have h:ks.size+r.size+1<=N:=h;have hc:=ks.eh;show skip N ((k,t,n,(ks.au:Int))::((ks.flat++r.flat)++post)) (r.au+1+c)=_;have e:r.au+1+c=(r.au+c)+1:=om
  rw[e,DR];rw[if_pos ⟨by show(0:Int)<=(ks.au:Int);omega,by show(ks.au:Int)<=N;omega⟩];show skip N _ (r.au+c+(ks.au:Int).toNat)=_;rw[Int.toNat_natCast,zo,Nat.add_comm (r.au+c),NY N ks _ _ om,NY N r _ _ om]
theorem F.split:∀(g:F) (a c:Nat),g.au=a+c->∃x y:F,x.au=a/\y.au=c/\g.flat=x.flat++y.flat
 |g,0,c,h=>⟨.nil,g,rfl,by omega,rfl⟩
 |.nil,a+1,c,h=>by have h:0=a+1+c:=h;omega
 |.cons k t n ks r,a+1,c,h=>by
  have h:r.au+1=a+1+c:=h;obtain⟨x,y,h1,h2,h3⟩:=r.split a c om;refine⟨.cons k t n ks x,y,by show x.au+1=_;omega,h2,?_⟩;show _::(ks.flat++r.flat)=_::(ks.flat++x.flat)++y.flat
  rw[h3,List.cons_append,zo]
theorem Us(N:Nat):∀(l:List ND) (c:Nat) (rest:List ND),skip N l c=some rest->∃f:F,f.au=c/\l=f.flat++rest
 |l,0,rest,h=>by rw[Ig] at h;injection h with h;exact⟨.nil,rfl,h⟩
 |[],c+1,rest,h=>by cases h
 |d::r,c+1,rest,h=>by
  obtain⟨k,t,n,z⟩:=d;rw[DR] at h;have h:(if 0<=z/\z<=(N:Int) then skip N r (c+z.toNat) else none)=some rest:=h;by_cases hz:0<=z/\z<=(N:Int)
  ·rw[if_pos hz] at h;obtain⟨g,h1,h2⟩:=Us N r _ rest h;obtain⟨x,y,h3,h4,h5⟩:=g.split z.toNat c om;refine⟨.cons k t n x y,by show y.au+1=_;omega,?_⟩;show _=(k,t,n,(x.au:Int))::(x.flat++y.flat)++rest;rw[h2,h5,h3,Int.toNat_of_nonneg hz.1];rfl
  ·rw[if_neg hz] at h;cases h
theorem qta(N:Nat):∀(l:List ND) (a b:Nat),skip N l (a+b)=(skip N l a).bind fun r=>skip N r b
 |l,0,b=>by rw[Ig,zD];rfl
 |[],a+1,b=>by
  have e:a+1+b=(a+b)+1:=om
  rw[e];rfl
 |d::r,a+1,b=>by
  have e:a+1+b=(a+b)+1:=om
  rw[e,DR,DR];by_cases h:0<=d.2.2.2/\d.2.2.2<=(N:Int)
  ·rw[if_pos h,if_pos h];have e2:a+b+d.2.2.2.toNat=(a+d.2.2.2.toNat)+b:=om
   rw[e2];exact qta N r _ b
  ·rw[if_neg h,if_neg h];rfl
theorem z3b(N:Nat){l:List ND}{c:Nat}{rest:List ND}(h:skip N l c=some rest):c<=l.length-rest.length/\rest.length<=l.length/\rest=l.drop (l.length-rest.length):=by obtain⟨f,h1,h2⟩:=Us N l c rest h;have:=f.eh;have h3:=f.len;subst h2;rw[zd];refine⟨by omega,by omega,?_⟩;rw[show f.flat.length+rest.length-rest.length=f.flat.length by omega,List.drop_left'];rfl
def eO(l:List ND)(k c:Nat):Int:=(skip l.length (l.drop k) c).elim (-1) fun r=>(l.length:Int)-(r.length:Int)
theorem z3c(b:Bool)(l:List ND)(hl:l.length<=10000):∀(m k c:Nat),k+m=l.length->c<=k*10000->aX lQ (⟨b,l⟩,(k:Int),((c+1:Nat):Int),())=some (eO l k (c+1),()):=by
 intro m
 induction m with
 |zero=>intro k c hk hc;refine cw ?_;unfold lQ;have c0:cK (ae l) (k:Int)=true:=zu (by unfold ae;omega);simp only[c0,aU,af];unfold eO;rw[zC om];rfl
 |succ m ih=>
  intro k c hk hc;have hg:k<l.length:=om
  obtain⟨d,hd⟩:∃d,l[k]?=some d:=⟨_,zg hg⟩;have hf:l.drop k=d::l.drop (k+1):=by rw[kI hg];rw[zg hg] at hd;injection hd with hd;rw[hd]
  obtain⟨x,t,n,z⟩:=d;have c0:cK (ae l) (k:Int)=false:=zn (by unfold ae;omega);have hj:=dG hd;by_cases hz:0<=z/\z<=(l.length:Int)
  ·have c1:aK z 0=false:=zn om;have c2:aK (ae l) z=false:=zn (by unfold ae;omega);have e1:bU .i64 z 1=z-1:=nv om om;have e2:aG .i64 ((c+1:Nat):Int) (z-1)=((c+z.toNat:Nat):Int):=by rw[pD om om];omega
   have e3:=bK (show k<=1000000000 by omega);have step:lQ (⟨b,l⟩,(k:Int),((c+1:Nat):Int),())=if 0<c+z.toNat then some (.inl (⟨b,l⟩,((k+1:Nat):Int),((c+z.toNat:Nat):Int),())) else some (.inr (((k+1:Nat):Int),())):=by
    unfold lQ;simp only[c0,aD,af,hj,c1,c2,e1,e2,e3];rw[bP];by_cases h:0<c+z.toNat
    ·rw[if_pos h,if_pos om]
    ·rw[if_neg h,if_neg om]
   have he:eO l k (c+1)=(skip l.length (l.drop (k+1)) (c+z.toNat)).elim (-1) fun r=>(l.length:Int)-(r.length:Int):=by unfold eO;rw[hf,DR];rw[if_pos (show 0<=(x,t,n,z).2.2.2/\(x,t,n,z).2.2.2<=(l.length:Int) from hz)]
   rw[he];by_cases h:0<c+z.toNat
   ·rw[if_pos h] at step;rw[ew step];obtain⟨c',hm⟩:∃c',c+z.toNat=c'+1:=⟨c+z.toNat-1,by omega⟩;rw[hm];exact ih (k+1) c' om om
   ·rw[if_neg h] at step;rw[cw step];have h0:c+z.toNat=0:=om
    rw[h0,Ig];show some (((k+1:Nat):Int),())=some ((l.length:Int)-((l.drop (k+1)).length:Int),());rw[zH];congr 2;omega
  ·have he:eO l k (c+1)=-1:=by unfold eO;rw[hf,DR];rw[if_neg (show ¬(0<=(x,t,n,z).2.2.2/\(x,t,n,z).2.2.2<=(l.length:Int)) from hz)];rfl
   rw[he];refine cw ?_;unfold lQ;simp only[c0,aD,af,hj];cases h1:aK z 0 with
   |true=>simp only[aU,af]
   |false=>
    have c2:aK (ae l) z=true:=by have:=of_decide_eq_false h1;exact zu (by unfold ae;omega)
    simp only[aD,af,c2,aU]
theorem Ih(b:Bool)(l:List ND)(hl:l.length<=10000)(k:Nat):jL (⟨b,l⟩,(k:Int),())=some (eO l k 1,()):=by
 rw[R0];have c0:aK (k:Int) 0=false:=zn om;rw[c0,aD];by_cases h:k<=l.length
 ·exact z3c b l hl (l.length-k) k 0 om om
 ·have he:eO l k 1=-1:=by unfold eO;rw[zC om];rfl
  rw[he];refine cw ?_;unfold lQ;have c0:cK (ae l) (k:Int)=true:=zu (by unfold ae;omega);simp only[c0,aU,af]
theorem z3d{l:List ND}{k c:Nat}(h:skip l.length (l.drop k) c=none):eO l k c=-1:=by unfold eO;rw[h];rfl
def DS(l:List ND):Bool:=decide (0<l.length)&&decide (eO l 0 1=(l.length:Int))
theorem NZ(b:Bool)(l:List ND)(hl:l.length<=10000):kV (⟨b,l⟩,())=some (DS l,()):=by rw[R1];have:=Ih b l hl 0;have h0:((0:Nat):Int)=0:=rfl;rw[h0] at this;simp only[this,af,KL];unfold DS aK ag ae;have e1:decide ((0:Int)<(l.length:Int))=decide (0<l.length):=decide_eq_decide.2 om;rw[e1];rfl
theorem N1(l:List ND):DS l=true↔∃k t n ks,l=(tr k t n ks).flat:=by
 unfold DS eO;rw[ze,decide_eq_true_eq,decide_eq_true_eq,List.drop_zero];constructor
 ·rintro⟨h1,h2⟩;cases hs:skip l.length l 1 with
  |none=>rw[hs] at h2;have h2:(-1:Int)=l.length:=h2;omega
  |some r=>
   rw[hs] at h2;have h2:(l.length:Int)-(r.length:Int)=l.length:=h2;have hr:r=[]:=List.length_eq_zero_iff.1 om;subst hr;obtain⟨f,h3,h4⟩:=Us _ _ _ _ hs;cases f with
   |nil=>cases h3
   |cons k t n ks r=>
    cases r with
    |nil=>exact⟨k,t,n,ks,by rw[h4,zt]⟩
    |cons _ _ _ _ _=>have h3:_+1+1=1:=h3;omega
 ·rintro⟨k,t,n,ks,rfl⟩;have hc:=(tr k t n ks).len;refine⟨by rw[hc,yF];omega,?_⟩;have:=NY (tr k t n ks).flat.length (tr k t n ks) 0 [] om;rw[zt,Ig] at this;have e:(tr k t n ks).au+0=1:=rfl;rw[e] at this;rw[this];show((tr k t n ks).flat.length:Int)-((0:Nat):Int)=_;omega
def bE(l:List ND)(k:Nat)(f:F):Prop:=∃post,l.drop k=f.flat++post
theorem bE.node{l:List ND}{k:Nat}{x:Int}{t:List Int}{n:Int}{ks r:F}(h:bE l k (.cons x t n ks r)):l[k]?=some (x,t,n,(ks.au:Int))/\bE l (k+1) ks/\bE l (k+1+ks.size) r/\k+1+ks.size+r.size<=l.length:=by
 obtain⟨post,h⟩:=h;have h:l.drop k=(x,t,n,(ks.au:Int))::((ks.flat++r.flat)++post):=h;have h1:l[k]?=some (x,t,n,(ks.au:Int)):=by rw[<-List.head?_drop,h];rfl
 have h2:l.drop (k+1)=(ks.flat++r.flat)++post:=by rw[<-List.drop_drop,h];rfl
 refine⟨h1,⟨r.flat++post,by rw[h2,zo]⟩,⟨post,?_⟩,?_⟩
 ·rw[<-List.drop_drop,h2,<-ks.len,zo,List.drop_left'];rfl
 ·have:=congrArg List.length h2;rw[zH,zd,zd,ks.len,r.len] at this;have hc:k<l.length:=(zF.1 h1).1;omega
theorem bE.first{l:List ND}{k:Nat}{x:Int}{t:List Int}{n:Int}{ks r:F}(h:bE l k (.cons x t n ks r)):bE l k (tr x t n ks):=by obtain⟨post,h⟩:=h;refine⟨r.flat++post,?_⟩;rw[h,vC];show _::(ks.flat++r.flat)++post=_;rw[List.cons_append,List.cons_append,zo]
theorem bE.ends{l:List ND}{k:Nat}{x:Int}{t:List Int}{n:Int}{ks r:F}(h:bE l k (.cons x t n ks r)):eO l k 1=((k+1+ks.size:Nat):Int):=by obtain⟨g1,g2,g3,g4⟩:=h.node;obtain⟨post,h⟩:=h.first;unfold eO;have e:(tr x t n ks).au+0=1:=rfl;have hs:=NY l.length (tr x t n ks) 0 post (by rw[yF];omega);rw[e,Ig] at hs;rw[h,hs];show(l.length:Int)-(post.length:Int)=_;have:=congrArg List.length h;rw[zH,zd,(tr x t n ks).len,yF] at this;omega
def F.pos:Nat->F->List Int
 |_,.nil=>[]
 |k,.cons _ _ _ ks r=>(k:Int)::r.pos (k+1+ks.size)
theorem F.oE:∀(f:F) (k:Nat),(f.pos k).length=f.au
 |.nil,_=>rfl
 |.cons _ _ _ ks r,k=>by show(_::r.pos _).length=r.au+1;rw[zj,r.oE]
def F.yG(P:Nat->Int->List Int->Int->F->Prop):Nat->F->Prop
 |_,.nil=>True
 |k,.cons x t n ks r=>P k x t n ks/\r.yG P (k+1+ks.size)
theorem F.oF{l:List ND}{P:Nat->Int->List Int->Int->F->Prop}(h:∀k x t n ks,bE l k (tr x t n ks)->ks.yG P (k+1)->P k x t n ks):∀(f:F) (k:Nat),bE l k f->f.yG P k
 |.nil,_,_=>trivial
 |.cons x t n ks r,k,hs=>⟨h k x t n ks hs.first (F.oF h ks (k+1) hs.node.2.1),F.oF h r _ hs.node.2.2.1⟩
theorem F.yH{l:List ND}{P:Nat->Int->List Int->Int->F->Prop}(h:∀k x t n ks,bE l k (tr x t n ks)->ks.yG P (k+1)->P k x t n ks){k:Nat}{x:Int}{t:List Int}{n:Int}{ks:F}(hs:bE l k (tr x t n ks)):P k x t n ks:=(F.oF h (tr x t n ks) k hs).1
theorem o7{a b:Nat}(h:a+b<=2000000):fit (aQ (a:Int) (b:Int))=some ():=o4 (by show(a:Int)+(b:Int)<=_;omega)
theorem KM{α:Type}(b:Bool)(x:α):aF b (cj [x])=false:=by cases b<;>rfl
theorem z3e(a b:Nat):ji (a:Int) (b:Int)=((max a b:Nat):Int):=by unfold ji;split<;>omega
def AF:Nat->List Nat->List Nat
 |c+1,s=>(c+1)::s
 |0,[]=>[]
 |0,c::s=>AF (c-1) s
def toI(s:List Nat):List Int:=s.reverse.map fun(c:Nat)=>(c:Int)
theorem mo(s:List Nat):(toI s).length=s.length:=by unfold toI;rw[zO,List.length_reverse]
theorem Cu(c:Nat)(s:List Nat):toI (c::s)=toI s++[(c:Int)]:=by unfold toI;rw[List.reverse_cons,zT];rfl
theorem Ut(c:Nat)(s:List Nat):AF (c+1) s=(c+1)::s:=by cases s<;>rfl
theorem KN(b:Bool)(l:List ND)(eP ln k:Int)(hk:0<=k/\k<=1000000)(nb:Bool):∀(s:List Nat) (c:Nat),(∀x,x∈s->1<=x/\x<=1000000)->c<=1000000->s.length<=1000000->aX kH (eP,⟨b,l⟩,ln,k,⟨nb,toI (c::s)⟩,())=some (.inl (eP,⟨b,l⟩,ln,k+1,⟨nb,toI (AF c s)⟩,())):=by
 have hj:aG .i64 k 1=k+1:=pD om om;have done:∀(s:List Nat) (c:Nat),c+1<=1000000->s.length<=1000000->aX kH (eP,⟨b,l⟩,ln,k,⟨nb,toI ((c+1)::s)⟩,())=some (.inl (eP,⟨b,l⟩,ln,k+1,⟨nb,toI ((c+1)::s)⟩,())):=by
  intro s c hc hs;refine cw ?_;have e1:bU .i64 (ae (toI ((c+1)::s))) 1=(s.length:Int):=by unfold ae;rw[mo,zj,nv om om];omega
  have hg:nth (toI ((c+1)::s)) s.length=some ((c+1:Nat):Int):=by rw[Cu];unfold nth;rw[zG (by rw[mo];exact Nat.le_refl _),mo,Nat.sub_self];rfl
  have c0:aK 0 (ae (toI ((c+1)::s)))=true:=zu (by unfold ae;rw[mo,zj];omega);have c1:ag ((c+1:Nat):Int) 0=false:=by cases h:ag ((c+1:Nat):Int) 0 with
   |false=>rfl
   |true=>have:=dB.1 h;omega
  unfold kH;simp only[c0,aU,e1,nE (show s.length<(toI ((c+1)::s)).length by rw[mo,zj];omega),af,hg,c1,aD,hj]
 have fq:aX kH (eP,⟨b,l⟩,ln,k,⟨nb,toI []⟩,())=some (.inl (eP,⟨b,l⟩,ln,k+1,⟨nb,toI []⟩,())):=by refine cw ?_;have c0:aK 0 (ae (toI []))=false:=rfl;unfold kH;simp only[c0,aD,af,hj]
 have step:∀(s:List Nat) (X:List Int),s.length<=1000000->(s=[]/\X=[]\/∃c r,s=c::r/\1<=c/\c<=1000000/\X=toI ((c-1)::r))->
   kH (eP,⟨b,l⟩,ln,k,⟨nb,toI (0::s)⟩,())=some (.inl (eP,⟨b,l⟩,ln,k,⟨nb,X⟩,())):=by
  intro s X hs hX;have e1:bU .i64 (ae (toI (0::s))) 1=(s.length:Int):=by unfold ae;rw[mo,zj,nv om om];omega
  have hg:nth (toI (0::s)) s.length=some 0:=by rw[Cu];unfold nth;rw[zG (by rw[mo];exact Nat.le_refl _),mo,Nat.sub_self];rfl
  have c0:aK 0 (ae (toI (0::s)))=true:=zu (by unfold ae;rw[mo,zj];omega);have c1:ag 0 0=true:=rfl;have he:ef (ae (toI (0::s))) (s.length:Int)=some s.length:=by unfold ef ae;rw[if_pos (by rw[mo,zj];omega),Int.toNat_natCast]
  have hl:aI (toI (0::s)) s.length=toI s:=by unfold aI;rw[Cu,List.take_left' (mo s)]
  unfold kH;simp only[c0,aU,e1,nE (show s.length<(toI (0::s)).length by rw[mo,zj];omega),af,hg,c1,he,hl];rcases hX with ⟨rfl,rfl⟩|⟨c,r,rfl,h1,h2,rfl⟩
  ·have c2:aK 0 (ae (toI []))=false:=rfl;simp only[c2,aD,af];rfl
  ·have hs:r.length+1<=1000000:=hs;have c2:aK 0 (ae (toI (c::r)))=true:=zu (by unfold ae;rw[mo,zj];omega);have e2:bU .i64 (ae (toI (c::r))) 1=(r.length:Int):=by unfold ae;rw[mo,zj,nv om om];omega
   have hm:nth (toI (0::c::r)) r.length=some (c:Int):=by rw[Cu,Cu];unfold nth;rw[zo,zG (by rw[mo];exact Nat.le_refl _),mo,Nat.sub_self];rfl
   have hf:aI (ia (toI (0::c::r)) r.length ((c:Int)-1)) (c::r).length=toI ((c-1)::r):=by unfold aI ia;rw[Cu,Cu,Cu,zo,List.set_append_right _ _ (by rw[mo];exact Nat.le_refl _),mo,Nat.sub_self];show List.take (r.length+1) (toI r++([(c:Int)-1]++[((0:Nat):Int)]))=_;rw[<-zo,List.take_left' (by rw[zd,mo];rfl)];congr 2;omega
   have e3:bU .i64 (c:Int) 1=(c:Int)-1:=nv om om;simp only[c2,aU,e2,nE (show r.length<(toI (c::r)).length by rw[mo,zj];omega),af,hm,e3,hf]
 intro s
 induction s with
 |nil=>
  intro c _ hc _;cases c with
  |zero=>rw[ew (step [] [] dc (.inl ⟨rfl,rfl⟩))];exact fq
  |succ c=>rw[Ut];exact done [] c hc dc
 |cons d s ih=>
  intro c hx hc hs;have hd:=hx d (zf ..);have hs:s.length+1<=1000000:=hs;cases c with
  |zero=>rw[ew (step (d::s) (toI ((d-1)::s)) hs (.inr ⟨d,s,rfl,hd.1,hd.2,rfl⟩))];exact ih (d-1) (fun x h=>hx x (zh _ h)) om om
  |succ c=>rw[Ut];exact done (d::s) c hc hs
theorem z3f(b:Bool)(l:List ND)(hl:l.length<=10000):∀(f:F) (q:Nat) (s:List Nat) (eP:Nat) (nb:Bool),bE l q f->q<=l.length->(∀x,x∈s->1<=x/\x<=1000000)->s.length<=q->eP<=100000->∃tg,aX je ((eP:Int),⟨b,l⟩,(l.length:Int),(q:Int),⟨nb,toI (AF f.au s)⟩,())=aX je (((max eP (if f.au=0 then 0 else s.length+1+f.dep):Nat):Int),⟨b,l⟩,(l.length:Int),((q+f.size:Nat):Int),⟨tg,toI (AF 0 s)⟩,()):=by
 intro f
 induction f with
 |nil=>intro q s eP nb _ _ _ _ _;refine⟨nb,?_⟩;show _=aX je (((max eP 0:Nat):Int),_,_,((q+0:Nat):Int),_,());rw[Nat.max_zero,Nat.add_zero];rfl
 |cons x t n ks r il im=>
  intro q s eP nb hs hq hx hj hm;obtain⟨g1,g2,g3,g4⟩:=hs.node;have hc:=ks.eh;have hk:=r.eh;have hn:=ks.lV;have ho:=r.lV;have e0:AF (F.cons x t n ks r).au s=(r.au+1)::s:=Ut r.au s;rw[e0];have hf:fit (aQ (ae (toI ((r.au+1)::s))) (ae [(ks.au:Int)]))=some ():=o7 (by rw[mo,zj,List.length_singleton];omega);have hg:∀y,y∈(r.au+1)::s->1<=y/\y<=1000000:=by
   intro y hy;rcases zw.1 hy with rfl|hy
   ·omega
   ·exact hx y hy
  have hp:=KN b l ((max eP (s.length+2):Nat):Int) (l.length:Int) (q:Int) om false ((r.au+1)::s) ks.au hg om (by rw[zj];omega);have step:je ((eP:Int),⟨b,l⟩,(l.length:Int),(q:Int),⟨nb,toI ((r.au+1)::s)⟩,())=
    some (.inl (((max eP (s.length+2):Nat):Int),⟨b,l⟩,(l.length:Int),((q+1:Nat):Int),⟨false,toI (AF ks.au ((r.au+1)::s))⟩,())):=by
   unfold je;simp only;rw[bP,if_pos om,dG g1,af];simp only[hf,af,KM];have e1:ji (eP:Int) (aG .i64 (ae (toI ((r.au+1)::s))) 1)=((max eP (s.length+2):Nat):Int):=by unfold ae;rw[mo,zj,bK om,z3e]
   have e2:app (toI ((r.au+1)::s)) [(ks.au:Int)]=toI (ks.au::(r.au+1)::s):=(Cu _ _).symm;rw[e1,e2,hp];rfl
  rw[ew step];obtain⟨nb1,h1⟩:=il (q+1) ((r.au+1)::s) (max eP (s.length+2)) false g2 om hg (by rw[zj];omega) om;rw[h1];have e3:AF 0 ((r.au+1)::s)=AF r.au s:=rfl;rw[e3];have he:max (max eP (s.length+2)) (if ks.au=0 then 0 else((r.au+1)::s).length+1+ks.dep)=max eP (s.length+1+(ks.dep+1)):=by
   rw[zj];by_cases h0:ks.au=0
   ·rw[if_pos h0];have:ks.dep=0:=by
     cases ks with
     |nil=>rfl
     |cons _ _ _ _ r=>exact absurd h0 (Nat.succ_ne_zero _)
    omega
   ·rw[if_neg h0];omega
  rw[he];obtain⟨Uu,h2⟩:=im (q+1+ks.size) s (max eP (s.length+1+(ks.dep+1))) nb1 g3 om hx om om;refine⟨Uu,?_⟩;rw[h2];have e4:q+1+ks.size+r.size=q+(F.cons x t n ks r).size:=by show _=q+(ks.size+r.size+1);omega
  rw[e4];have e5:max (max eP (s.length+1+(ks.dep+1))) (if r.au=0 then 0 else s.length+1+r.dep)=max eP (if(F.cons x t n ks r).au=0 then 0 else s.length+1+(F.cons x t n ks r).dep):=by
   have h9:(F.cons x t n ks r).au≠0:=Nat.succ_ne_zero _;rw[if_neg h9];show _=max eP (s.length+1+max (ks.dep+1) r.dep);by_cases h0:r.au=0
   ·rw[if_pos h0];have:r.dep=0:=by
     cases r with
     |nil=>rfl
     |cons _ _ _ _ r=>exact absurd h0 (Nat.succ_ne_zero _)
    omega
   ·rw[if_neg h0];omega
  rw[e5]
theorem N2(x:Int)(t:List Int)(n:Int)(ks:F):bE (tr x t n ks).flat 0 (tr x t n ks):=⟨[],by rw[zt];rfl⟩
theorem qyv(b:Bool)(x:Int)(t:List Int)(n:Int)(ks:F)(hl:ks.size+1<=10000):rD (⟨b,(tr x t n ks).flat⟩,())=some (((ks.dep+1:Nat):Int),()):=by
 have he:(tr x t n ks).flat.length=ks.size+1:=(tr x t n ks).len;have hs:=N2 x t n ks;obtain⟨g1,g2,g3,g4⟩:=hs.node;have hg:=ks.lV;have hc:=ks.eh;rw[R2,NZ b _ om,(N1 _).2 ⟨x,t,n,ks,rfl⟩];have hn:av true=false:=rfl;simp only[af,hn,aD];generalize hL:(tr x t n ks).flat=L at*
 have hf:fit (aQ (ae ([]:List Int)) (ae [(ks.au:Int)]))=some ():=o7 (by show 0+1<=_;omega);have hp:=KN b L ((1:Nat):Int) (L.length:Int) ((0:Nat):Int) om false [] ks.au (fun _ h=>by cases h) om dc;have step:je (((0:Nat):Int),⟨b,L⟩,(L.length:Int),((0:Nat):Int),⟨true,[]⟩,())=
   some (.inl (((1:Nat):Int),⟨b,L⟩,(L.length:Int),((0+1:Nat):Int),⟨false,toI (AF ks.au [])⟩,())):=by
  unfold je;simp only;rw[bP,if_pos om,dG g1,af];simp only[hf,af,KM];have e1:ji ((0:Nat):Int) (aG .i64 (ae ([]:List Int)) 1)=((1:Nat):Int):=rfl;have e2:app ([]:List Int) [(ks.au:Int)]=toI (ks.au::[]):=rfl;rw[e1,e2,hp];rfl
 obtain⟨nb1,h1⟩:=z3f b L om ks 1 [] 1 false g2 om (fun _ h=>by cases h) dc dc;have KO:aX je (0,⟨b,L⟩,ae L,0,⟨true,[]⟩,())=_:=ew step;rw[KO,h1];have e6:max 1 (if ks.au=0 then 0 else([]:List Nat).length+1+ks.dep)=ks.dep+1:=by
  by_cases h0:ks.au=0
  ·rw[if_pos h0];have:ks.dep=0:=by
    cases ks with
    |nil=>rfl
    |cons _ _ _ _ r=>exact absurd h0 (Nat.succ_ne_zero _)
   omega
  ·rw[if_neg h0,List.length_nil];omega
 rw[e6];refine cw ?_;unfold je;simp only;rw[bP,if_neg om]
def oG(n:Int):Bool:=decide (-4611686018427387904<=n/\n<=4611686018427387903)
def mP(n:Int):Prop:=-9223372036854775808<=n/\n<=9223372036854775807
theorem Uv(n:Int):IntKind.i64.wrap n=if n % 18446744073709551616<9223372036854775808 then n % 18446744073709551616 else n % 18446744073709551616-18446744073709551616:=by
 unfold IntKind.wrap;show(if(true&&decide (n % 18446744073709551616>=9223372036854775808))=true then _ else _)=_;rw[Bool.true_and];by_cases h:n % 18446744073709551616<9223372036854775808
 ·rw[if_pos h,if_neg (by simp;omega)];rfl
 ·rw[if_neg h,if_pos (by simp;omega)];rfl
theorem qfe(n:Int):IntKind.u64.wrap n=n % 18446744073709551616:=by unfold IntKind.wrap;show(if(false&&_)=true then _ else _)=_;rw[Bool.false_and,if_neg dc];rfl
theorem qka(n:Int)(h:mP n):∃v,lM (n,())=some (v,())/\ag v n=oG n:=by
 obtain⟨h1,h2⟩:=h;rw[Kf];have e1:gZ .u64 (fS .u64 n) 1=some (IntKind.u64.wrap (fS .u64 n*2)):=by unfold gZ;rw[if_neg dc];rfl
 simp only[e1,af];have e2:=Z5 (a:=fS .i64 (IntKind.u64.wrap (fS .u64 n*2))) 1 dc;have e3:((1:Nat):Int)=1:=rfl;rw[e3] at e2;rw[e2];refine⟨_,rfl,?_⟩;unfold fS;rw[Uv,qfe,qfe];rw[Bool.eq_iff_iff,dB];unfold oG;rw[decide_eq_true_eq];show(ite _ _ _) / 2=n↔_;split<;>omega
def jZ(k:Int):Int:=bif ag k 1||ag k 6||ag k 9||ag k 10||ag k 11||ag k 21||ag k 23 then 0 else bif ag k 3||ag k 5||ag k 7||ag k 8||ag k 12||ag k 22 then 1 else bif ag k 4||ag k 24 then 2 else bif ag k 2 then 3 else -1
def mR(k c:Int):Bool:=bif ag k 5||ag k 11 then ag c 1 else bif ag k 6||ag k 7||ag k 8||ag k 12 then ag c 2 else bif ag k 9 then ag c 3 else bif ag k 10 then cK 3 c&&ag (c % 2) 1 else bif ag k 24 then true else ag c 0
def iQ(k:Int):Bool:=cK 21 k&&cK k 24
def nG(k:Int)(t:List Int)(hk:Int):Int:=bif ag k 8&&av (ag hk 5) then 61 else bif ag (jZ k) 1&&av (aS t) then 62 else bif ag (jZ k) 2&&av (qB t) then 62 else 0
def mT(k:Int)(t:List Int)(hk:Int):Int:=bif ag (jZ k) 0 then(bif eU t [] then nG k t hk else 61) else bif ag (jZ k) 3 then(bif aK 200 (ae t) then 61 else nG k t hk) else nG k t hk
def fF(k:Int)(t:List Int)(n c hk:Int)(pat:Bool):Int:=
 bif aK (jZ k) 0 then 61 else bif av (fQ (iQ k) pat) then 61 else bif av (mR k c) then 61 else
 bif ag k 1||ag k 23 then(bif oG n then mT k t hk else 61) else(bif ag n 0 then mT k t hk else 61)
def N3:List Int:=[1,2,3,4,5,6,7,8,9,10,11,12,21,22,23,24]
theorem qkb{P:Int->Prop}(h1:P 1)(h2:P 2)(h3:P 3)(h4:P 4)(h5:P 5)(h6:P 6)(h7:P 7)(h8:P 8)(h9:P 9)(he:P 10)(hf:P 11)(hg:P 12)(hj:P 21)(hk:P 22)(hl:P 23)(hm:P 24)(ho:∀a,(∀c,c∈N3->ag a c=false)->P a):∀a,P a:=by
 intro a;by_cases e1:a=1
 ·rw[e1];exact h1
 by_cases e2:a=2
 ·rw[e2];exact h2
 by_cases e3:a=3
 ·rw[e3];exact h3
 by_cases e4:a=4
 ·rw[e4];exact h4
 by_cases e5:a=5
 ·rw[e5];exact h5
 by_cases e6:a=6
 ·rw[e6];exact h6
 by_cases e7:a=7
 ·rw[e7];exact h7
 by_cases e8:a=8
 ·rw[e8];exact h8
 by_cases e9:a=9
 ·rw[e9];exact h9
 by_cases lW:a=10
 ·rw[lW];exact he
 by_cases KP:a=11
 ·rw[KP];exact hf
 by_cases KQ:a=12
 ·rw[KQ];exact hg
 by_cases uM:a=21
 ·rw[uM];exact hj
 by_cases th:a=22
 ·rw[th];exact hk
 by_cases e23:a=23
 ·rw[e23];exact hl
 by_cases e24:a=24
 ·rw[e24];exact hm
 refine ho a fun c hc=>dx ?_;rintro rfl;simp only[N3,zw,List.not_mem_nil,or_false] at hc;omega
theorem o8(a:Int):od (a,())=some (iQ a,()):=by rw[R3,KL];rfl
def F.head:F->Int
 |.nil=>0
 |.cons k _ _ _ _=>k
theorem behind{l:List ND}{k:Nat}{ks:F}{kd:Int}(hk:k<=1000000)(hs:bE l (k+1) ks)(hn:kd=8->ks.au≠0):(az (ag kd 8) (aj (cZ l (aG .i64 (k:Int) 1)) fun x=>some (av (ag x.1 5))) (some false):Option Bool)=some (ag kd 8&&av (ag ks.head 5)):=by
 cases h:ag kd 8 with
 |false=>rfl
 |true=>
  have h8:=dB.1 h;cases ks with
  |nil=>exact absurd rfl (hn h8)
  |cons x t n ks r=>rw[aU,bK om,dG hs.node.1];rfl
theorem qR(a c:Int):rK (a,c,())=some (ag a c,()):=Sp a c
theorem cM(a:Int):uf (a,())=some (true,()):=Sn a
theorem zad(a:Int)(h:0<=a):rJ (a,())=some (cK 3 a&&ag (a % 2) 1,()):=by rw[Sk,Z6 h dc];cases cK 3 a<;>rfl
theorem zae:fC (1,())=some (true,false,2,0,0,0,true,()):=by kernel_rfl
theorem zaf:fC (2,())=some (false,true,2,0,0,0,true,()):=by kernel_rfl
theorem zag:fC (3,())=some (false,false,0,0,0,0,true,()):=by kernel_rfl
theorem zah:fC (4,())=some (false,false,1,0,0,0,true,()):=by kernel_rfl
theorem zai:fC (5,())=some (false,false,0,0,0,1,true,()):=by kernel_rfl
theorem zaj:fC (6,())=some (false,false,2,0,0,2,true,()):=by kernel_rfl
theorem zak:fC (7,())=some (false,false,0,0,0,2,true,()):=by kernel_rfl
theorem zal:fC (8,())=some (false,false,0,0,0,2,true,()):=by kernel_rfl
theorem zam:fC (9,())=some (false,false,2,0,0,3,true,()):=by kernel_rfl
theorem z87:fC (10,())=some (false,false,2,0,1,0,true,()):=by kernel_rfl
theorem z88:fC (11,())=some (false,false,2,0,0,1,true,()):=by kernel_rfl
theorem z89:fC (12,())=some (false,false,0,0,0,2,true,()):=by kernel_rfl
theorem z8a:fC (21,())=some (false,false,2,0,0,0,true,()):=by kernel_rfl
theorem z8b:fC (22,())=some (false,false,0,0,0,0,true,()):=by kernel_rfl
theorem z8c:fC (23,())=some (true,false,2,0,0,0,true,()):=by kernel_rfl
theorem z8d:fC (24,())=some (false,false,1,0,2,0,true,()):=by kernel_rfl
theorem qvh(a:Int)(h:∀c,c∈N3->ag a c=false):fC (a,())=some (false,false,2,0,3,0,false,()):=by have i1:ag a 1=false:=h 1 dc;have i2:ag a 2=false:=h 2 dc;have i3:ag a 3=false:=h 3 dc;have i4:ag a 4=false:=h 4 dc;have i5:ag a 5=false:=h 5 dc;have i6:ag a 6=false:=h 6 dc;have i7:ag a 7=false:=h 7 dc;have i8:ag a 8=false:=h 8 dc;have i9:ag a 9=false:=h 9 dc;have i10:ag a 10=false:=h 10 dc;have i11:ag a 11=false:=h 11 dc;have i12:ag a 12=false:=h 12 dc;have i21:ag a 21=false:=h 21 dc;have i22:ag a 22=false:=h 22 dc;have i23:ag a 23=false:=h 23 dc;have i24:ag a 24=false:=h 24 dc;rw[R4];simp only[i1,i2,i3,i4,i5,i6,i7,i8,i9,i10,i11,i12,i21,i22,i23,i24,aD,af]
theorem o9:ag 0 0=true:=id (Eq.refl true)
theorem tj:ag 0 1=false:=id (Eq.refl false)
theorem tm:ag 0 2=false:=id (Eq.refl false)
theorem lW:ag 1 0=false:=id (Eq.refl false)
theorem KP:ag 1 1=true:=id (Eq.refl true)
theorem KQ:ag 1 2=false:=id (Eq.refl false)
theorem yI:ag 2 0=false:=id (Eq.refl false)
theorem uM:ag 2 1=false:=id (Eq.refl false)
theorem th:ag 2 2=true:=id (Eq.refl true)
theorem nT:av true=false:=id (Eq.refl false)
theorem nF:av false=true:=id (Eq.refl true)
theorem qyw(b:Bool)(l:List ND)(hl:l.length<=10000){k:Nat}{t:List Int}{n:Int}{ks:F}(pat:Bool)(ht:∀b,b∈t->0<=b/\b<=255)(hr:mP n):∀kd:Int,bE l k (tr kd t n ks)->rL (⟨b,l⟩,(k:Int),pat,())=some (fF kd t n (ks.au:Int) ks.head pat,()):=by
 obtain⟨v,w1,w2⟩:=qka n hr;have hc:=qyu ht;have he:=z3a ht;have hf:=zad (ks.au:Int) (Int.natCast_nonneg _);refine qkb ?k1 ?k2 ?k3 ?k4 ?k5 ?k6 ?k7 ?k8 ?k9 ?k10 ?k11 ?k12 ?k21 ?k22 ?k23 ?k24 (fun a h hs=>?_)
 case k1=>
  intro h;obtain⟨g1,g2,g3,g4⟩:=h.node;rw[iw,dG g1,af,zae,af];have e8:ag 1 8=false:=rfl;have ep:iQ 1=false:=rfl;simp only[o8,ep,nT,nF,aU,aD,af,o9,tj,tm,yI,uM,th,qR,cM,hf,w1,w2,hc,he,e8];have hE:fF 1 t n (ks.au:Int) ks.head pat=bif av (fQ false pat) then 61 else bif av (ag (ks.au:Int) 0) then 61 else bif oG n then(bif eU t [] then 0 else 61) else 61:=by have kk:mR 1 (ks.au:Int)=ag (ks.au:Int) 0:=rfl;unfold fF mT nG;rw[kk];cases pat<;>cases ag (ks.au:Int) 0<;>cases oG n<;>cases eU t []<;>rfl
  rw[hE];cases pat<;>cases a1:ag (ks.au:Int) 0<;>cases a2:oG n<;>cases a3:eU t []<;>simp only[nT,nF,aU,aD,af,yI,uM,th,hc,he,fQ,e8,BEq.rfl,Bool.false_beq,Bool.not_true,cond_true,cond_false,a3]<;>rfl
 case k2=>
  intro h;obtain⟨g1,g2,g3,g4⟩:=h.node;rw[iw,dG g1,af,zaf,af];have e8:ag 2 8=false:=rfl;have ep:iQ 2=false:=rfl;simp only[o8,ep,nT,nF,aU,aD,af,o9,tj,tm,th,qR,cM,hf,w1,w2];have hE:fF 2 t n (ks.au:Int) ks.head pat=bif av (fQ false pat) then 61 else bif av (ag (ks.au:Int) 0) then 61 else bif ag n 0 then(bif aK 200 (ae t) then 61 else 0) else 61:=by have kk:mR 2 (ks.au:Int)=ag (ks.au:Int) 0:=rfl;unfold fF mT nG;rw[kk];cases pat<;>cases ag (ks.au:Int) 0<;>cases ag n 0<;>cases aK 200 (ae t)<;>rfl
  rw[hE];cases pat<;>cases a1:ag (ks.au:Int) 0<;>cases a2:ag n 0<;>cases a3:aK 200 (ae t)<;>simp only[nT,nF,aU,aD,af,yI,uM,th,hc,he,fQ,e8,BEq.rfl,Bool.false_beq,Bool.not_true,cond_true,cond_false]<;>rfl
 case k3=>
  intro h;obtain⟨g1,g2,g3,g4⟩:=h.node;rw[iw,dG g1,af,zag,af];have e8:ag 3 8=false:=rfl;have ep:iQ 3=false:=rfl;simp only[o8,ep,nT,nF,aU,aD,af,o9,tj,tm,qR,cM,hf,w1,w2,hc,he,e8];have hE:fF 3 t n (ks.au:Int) ks.head pat=bif av (fQ false pat) then 61 else bif av (ag (ks.au:Int) 0) then 61 else bif ag n 0 then(bif aS t then 0 else 62) else 61:=by have kk:mR 3 (ks.au:Int)=ag (ks.au:Int) 0:=rfl;unfold fF mT nG;rw[kk];cases pat<;>cases ag (ks.au:Int) 0<;>cases ag n 0<;>cases aS t<;>rfl
  rw[hE];cases pat<;>cases a1:ag (ks.au:Int) 0<;>cases a2:ag n 0<;>cases a3:aS t<;>simp only[nT,nF,aU,aD,af,fQ,BEq.rfl,Bool.false_beq,Bool.not_true,cond_true,cond_false]<;>rfl
 case k4=>
  intro h;obtain⟨g1,g2,g3,g4⟩:=h.node;rw[iw,dG g1,af,zah,af];have e8:ag 4 8=false:=rfl;have ep:iQ 4=false:=rfl;simp only[o8,ep,nT,nF,aU,aD,af,o9,tj,tm,lW,KP,KQ,qR,cM,hf,w1,w2,hc,he,e8];have hE:fF 4 t n (ks.au:Int) ks.head pat=bif av (fQ false pat) then 61 else bif av (ag (ks.au:Int) 0) then 61 else bif ag n 0 then(bif qB t then 0 else 62) else 61:=by have kk:mR 4 (ks.au:Int)=ag (ks.au:Int) 0:=rfl;unfold fF mT nG;rw[kk];cases pat<;>cases ag (ks.au:Int) 0<;>cases ag n 0<;>cases qB t<;>rfl
  rw[hE];cases pat<;>cases a1:ag (ks.au:Int) 0<;>cases a2:ag n 0<;>cases a3:qB t<;>simp only[nT,nF,aU,aD,af,fQ,BEq.rfl,Bool.false_beq,Bool.not_true,cond_true,cond_false]<;>rfl
 case k5=>
  intro h;obtain⟨g1,g2,g3,g4⟩:=h.node;rw[iw,dG g1,af,zai,af];have e8:ag 5 8=false:=rfl;have ep:iQ 5=false:=rfl;simp only[o8,ep,nT,nF,aU,aD,af,o9,tj,tm,qR,cM,hf,w1,w2,hc,he,e8];have hE:fF 5 t n (ks.au:Int) ks.head pat=bif av (fQ false pat) then 61 else bif av (ag (ks.au:Int) 1) then 61 else bif ag n 0 then(bif aS t then 0 else 62) else 61:=by have kk:mR 5 (ks.au:Int)=ag (ks.au:Int) 1:=rfl;unfold fF mT nG;rw[kk];cases pat<;>cases ag (ks.au:Int) 1<;>cases ag n 0<;>cases aS t<;>rfl
  rw[hE];cases pat<;>cases a1:ag (ks.au:Int) 1<;>cases a2:ag n 0<;>cases a3:aS t<;>simp only[nT,nF,aU,aD,af,fQ,BEq.rfl,Bool.false_beq,Bool.not_true,cond_true,cond_false]<;>rfl
 case k6=>
  intro h;obtain⟨g1,g2,g3,g4⟩:=h.node;rw[iw,dG g1,af,zaj,af];have e8:ag 6 8=false:=rfl;have ep:iQ 6=false:=rfl;simp only[o8,ep,nT,nF,aU,aD,af,o9,tj,tm,yI,uM,th,qR,cM,hf,w1,w2,hc,he,e8];have hE:fF 6 t n (ks.au:Int) ks.head pat=bif av (fQ false pat) then 61 else bif av (ag (ks.au:Int) 2) then 61 else bif ag n 0 then(bif eU t [] then 0 else 61) else 61:=by have kk:mR 6 (ks.au:Int)=ag (ks.au:Int) 2:=rfl;unfold fF mT nG;rw[kk];cases pat<;>cases ag (ks.au:Int) 2<;>cases ag n 0<;>cases eU t []<;>rfl
  rw[hE];cases pat<;>cases a1:ag (ks.au:Int) 2<;>cases a2:ag n 0<;>cases a3:eU t []<;>simp only[nT,nF,aU,aD,af,fQ,BEq.rfl,Bool.false_beq,Bool.not_true,cond_true,cond_false]<;>rfl
 case k7=>
  intro h;obtain⟨g1,g2,g3,g4⟩:=h.node;rw[iw,dG g1,af,zak,af];have e8:ag 7 8=false:=rfl;have ep:iQ 7=false:=rfl;simp only[o8,ep,nT,nF,aU,aD,af,o9,tj,tm,qR,cM,hf,w1,w2,hc,he,e8];have hE:fF 7 t n (ks.au:Int) ks.head pat=bif av (fQ false pat) then 61 else bif av (ag (ks.au:Int) 2) then 61 else bif ag n 0 then(bif aS t then 0 else 62) else 61:=by have kk:mR 7 (ks.au:Int)=ag (ks.au:Int) 2:=rfl;unfold fF mT nG;rw[kk];cases pat<;>cases ag (ks.au:Int) 2<;>cases ag n 0<;>cases aS t<;>rfl
  rw[hE];cases pat<;>cases a1:ag (ks.au:Int) 2<;>cases a2:ag n 0<;>cases a3:aS t<;>simp only[nT,nF,aU,aD,af,fQ,BEq.rfl,Bool.false_beq,Bool.not_true,cond_true,cond_false]<;>rfl
 case k8=>
  intro h;obtain⟨g1,g2,g3,g4⟩:=h.node;rw[iw,dG g1,af,zal,af];have e8:ag 8 8=true:=rfl;have ep:iQ 8=false:=rfl;simp only[o8,ep,nT,nF,aU,aD,af,o9,tj,tm,qR,cM,hf,w1,w2,hc,he];have hE:fF 8 t n (ks.au:Int) ks.head pat=bif av (fQ false pat) then 61 else bif av (ag (ks.au:Int) 2) then 61 else bif ag n 0 then(bif ag ks.head 5 then(bif aS t then 0 else 62) else 61) else 61:=by have kk:mR 8 (ks.au:Int)=ag (ks.au:Int) 2:=rfl;unfold fF mT nG;rw[kk];cases pat<;>cases ag (ks.au:Int) 2<;>cases ag n 0<;>cases aS t<;>cases ag ks.head 5<;>rfl
  rw[hE];cases h2:ag (ks.au:Int) 2 with
  |false=>cases pat<;>rfl
  |true=>have hb:=behind (kd:=8) (l:=l) (k:=k) (ks:=ks) om g2 (fun _ h0=>by have:=dB.1 h2;omega);rw[show ag 8 8=true from rfl,aU] at hb;have hg:aj (cZ l (aG .i64 (k:Int) 1)) (fun x=>some (av (ag x.1 5)))=some (av (ag ks.head 5)):=hb;cases pat<;>cases a1:ag n 0<;>cases a2:ag ks.head 5<;>cases a3:aS t<;>simp only[nT,nF,aU,aD,af,e8,hg,fQ,Bool.false_beq,beq_self_eq_true,Bool.not_true,a2]<;>rfl
 case k9=>
  intro h;obtain⟨g1,g2,g3,g4⟩:=h.node;rw[iw,dG g1,af,zam,af];have e8:ag 9 8=false:=rfl;have ep:iQ 9=false:=rfl;simp only[o8,ep,nT,nF,aU,aD,af,o9,tj,tm,yI,uM,th,qR,cM,hf,w1,w2,hc,he,e8];have hE:fF 9 t n (ks.au:Int) ks.head pat=bif av (fQ false pat) then 61 else bif av (ag (ks.au:Int) 3) then 61 else bif ag n 0 then(bif eU t [] then 0 else 61) else 61:=by have kk:mR 9 (ks.au:Int)=ag (ks.au:Int) 3:=rfl;unfold fF mT nG;rw[kk];cases pat<;>cases ag (ks.au:Int) 3<;>cases ag n 0<;>cases eU t []<;>rfl
  rw[hE];cases pat<;>cases a1:ag (ks.au:Int) 3<;>cases a2:ag n 0<;>cases a3:eU t []<;>simp only[nT,nF,aU,aD,af,fQ,BEq.rfl,Bool.false_beq,Bool.not_true,cond_true,cond_false]<;>rfl
 case k10=>
  intro h;obtain⟨g1,g2,g3,g4⟩:=h.node;rw[iw,dG g1,af,z87,af];have e8:ag 10 8=false:=rfl;have ep:iQ 10=false:=rfl;simp only[o8,ep,nT,nF,aU,aD,af,lW,KP,KQ,yI,uM,th,qR,cM,hf,w1,w2,hc,he,e8];have hE:fF 10 t n (ks.au:Int) ks.head pat=bif av (fQ false pat) then 61 else bif av ((cK 3 (ks.au:Int)&&ag ((ks.au:Int) % 2) 1)) then 61 else bif ag n 0 then(bif eU t [] then 0 else 61) else 61:=by have kk:mR 10 (ks.au:Int)=(cK 3 (ks.au:Int)&&ag ((ks.au:Int) % 2) 1):=rfl;unfold fF mT nG;rw[kk];cases pat<;>cases cK 3 (ks.au:Int)<;>cases ag ((ks.au:Int) % 2) 1<;>cases ag n 0<;>cases eU t []<;>rfl
  rw[hE];cases pat<;>cases a1:cK 3 (ks.au:Int)<;>cases a2:ag ((ks.au:Int) % 2) 1<;>cases a3:ag n 0<;>cases a4:eU t []<;>simp only[nT,nF,aU,aD,af,fQ,BEq.rfl,Bool.false_beq,Bool.not_true,Bool.true_and,Bool.false_and,cond_true,cond_false]<;>rfl
 case k11=>
  intro h;obtain⟨g1,g2,g3,g4⟩:=h.node;rw[iw,dG g1,af,z88,af];have e8:ag 11 8=false:=rfl;have ep:iQ 11=false:=rfl;simp only[o8,ep,nT,nF,aU,aD,af,o9,tj,tm,yI,uM,th,qR,cM,hf,w1,w2,hc,he,e8];have hE:fF 11 t n (ks.au:Int) ks.head pat=bif av (fQ false pat) then 61 else bif av (ag (ks.au:Int) 1) then 61 else bif ag n 0 then(bif eU t [] then 0 else 61) else 61:=by have kk:mR 11 (ks.au:Int)=ag (ks.au:Int) 1:=rfl;unfold fF mT nG;rw[kk];cases pat<;>cases ag (ks.au:Int) 1<;>cases ag n 0<;>cases eU t []<;>rfl
  rw[hE];cases pat<;>cases a1:ag (ks.au:Int) 1<;>cases a2:ag n 0<;>cases a3:eU t []<;>simp only[nT,nF,aU,aD,af,fQ,BEq.rfl,Bool.false_beq,Bool.not_true,cond_true,cond_false]<;>rfl
 case k12=>
  intro h;obtain⟨g1,g2,g3,g4⟩:=h.node;rw[iw,dG g1,af,z89,af];have e8:ag 12 8=false:=rfl;have ep:iQ 12=false:=rfl;simp only[o8,ep,nT,nF,aU,aD,af,o9,tj,tm,qR,cM,hf,w1,w2,hc,he,e8];have hE:fF 12 t n (ks.au:Int) ks.head pat=bif av (fQ false pat) then 61 else bif av (ag (ks.au:Int) 2) then 61 else bif ag n 0 then(bif aS t then 0 else 62) else 61:=by have kk:mR 12 (ks.au:Int)=ag (ks.au:Int) 2:=rfl;unfold fF mT nG;rw[kk];cases pat<;>cases ag (ks.au:Int) 2<;>cases ag n 0<;>cases aS t<;>rfl
  rw[hE];cases pat<;>cases a1:ag (ks.au:Int) 2<;>cases a2:ag n 0<;>cases a3:aS t<;>simp only[nT,nF,aU,aD,af,fQ,BEq.rfl,Bool.false_beq,Bool.not_true,cond_true,cond_false]<;>rfl
 case k21=>
  intro h;obtain⟨g1,g2,g3,g4⟩:=h.node;rw[iw,dG g1,af,z8a,af];have e8:ag 21 8=false:=rfl;have ep:iQ 21=true:=rfl;simp only[o8,ep,nT,nF,aU,aD,af,o9,tj,tm,yI,uM,th,qR,cM,hf,w1,w2,hc,he,e8];have hE:fF 21 t n (ks.au:Int) ks.head pat=bif av (fQ true pat) then 61 else bif av (ag (ks.au:Int) 0) then 61 else bif ag n 0 then(bif eU t [] then 0 else 61) else 61:=by have kk:mR 21 (ks.au:Int)=ag (ks.au:Int) 0:=rfl;unfold fF mT nG;rw[kk];cases pat<;>cases ag (ks.au:Int) 0<;>cases ag n 0<;>cases eU t []<;>rfl
  rw[hE];cases pat<;>cases a1:ag (ks.au:Int) 0<;>cases a2:ag n 0<;>cases a3:eU t []<;>simp only[nT,nF,aU,aD,af,fQ,BEq.rfl,cond_true,cond_false]<;>rfl
 case k22=>
  intro h;obtain⟨g1,g2,g3,g4⟩:=h.node;rw[iw,dG g1,af,z8b,af];have e8:ag 22 8=false:=rfl;have ep:iQ 22=true:=rfl;simp only[o8,ep,nT,nF,aU,aD,af,o9,tj,tm,qR,cM,hf,w1,w2,hc,he,e8];have hE:fF 22 t n (ks.au:Int) ks.head pat=bif av (fQ true pat) then 61 else bif av (ag (ks.au:Int) 0) then 61 else bif ag n 0 then(bif aS t then 0 else 62) else 61:=by have kk:mR 22 (ks.au:Int)=ag (ks.au:Int) 0:=rfl;unfold fF mT nG;rw[kk];cases pat<;>cases ag (ks.au:Int) 0<;>cases ag n 0<;>cases aS t<;>rfl
  rw[hE];cases pat<;>cases a1:ag (ks.au:Int) 0<;>cases a2:ag n 0<;>cases a3:aS t<;>simp only[nT,nF,aU,aD,af,fQ,BEq.rfl,cond_true,cond_false]<;>rfl
 case k23=>
  intro h;obtain⟨g1,g2,g3,g4⟩:=h.node;rw[iw,dG g1,af,z8c,af];have e8:ag 23 8=false:=rfl;have ep:iQ 23=true:=rfl;simp only[o8,ep,nT,nF,aU,aD,af,o9,tj,tm,yI,uM,th,qR,cM,hf,w1,w2,hc,he,e8];have hE:fF 23 t n (ks.au:Int) ks.head pat=bif av (fQ true pat) then 61 else bif av (ag (ks.au:Int) 0) then 61 else bif oG n then(bif eU t [] then 0 else 61) else 61:=by have kk:mR 23 (ks.au:Int)=ag (ks.au:Int) 0:=rfl;unfold fF mT nG;rw[kk];cases pat<;>cases ag (ks.au:Int) 0<;>cases oG n<;>cases eU t []<;>rfl
  rw[hE];cases pat<;>cases a1:ag (ks.au:Int) 0<;>cases a2:oG n<;>cases a3:eU t []<;>simp only[nT,nF,aU,aD,af,yI,uM,th,hc,he,fQ,e8,BEq.rfl,cond_true,cond_false,a3]<;>rfl
 case k24=>
  intro h;obtain⟨g1,g2,g3,g4⟩:=h.node;rw[iw,dG g1,af,z8d,af];have e8:ag 24 8=false:=rfl;have ep:iQ 24=true:=rfl;simp only[o8,ep,nT,nF,aU,aD,af,lW,KP,KQ,yI,uM,th,qR,cM,hf,w1,w2,hc,he,e8];have hE:fF 24 t n (ks.au:Int) ks.head pat=bif av (fQ true pat) then 61 else bif av (true) then 61 else bif ag n 0 then(bif qB t then 0 else 62) else 61:=by have kk:mR 24 (ks.au:Int)=true:=rfl;unfold fF mT nG;rw[kk];cases pat<;>cases ag n 0<;>cases qB t<;>rfl
  rw[hE];cases pat<;>cases a1:ag n 0<;>cases a2:qB t<;>simp only[nT,nF,aU,aD,af,fQ,BEq.rfl,cond_true,cond_false]<;>rfl
 obtain⟨g1,g2,g3,g4⟩:=hs.node;rw[iw,dG g1,af,qvh a h,af];have hE:fF a t n (ks.au:Int) ks.head pat=61:=by
  have hs:jZ a=-1:=by unfold jZ;rw[h 1 dc,h 6 dc,h 9 dc,h 10 dc,h 11 dc,h 21 dc,h 23 dc,h 3 dc,h 5 dc,h 7 dc,h 8 dc,h 12 dc,h 22 dc,h 4 dc,h 24 dc,h 2 dc];rfl
  unfold fF;rw[hs];rfl
 rw[hE];rfl
def N4(x:ND):Prop:=(∀b,b∈x.2.1->0<=b/\b<=255)/\x.2.1.length<=1000000/\mP x.2.2.1
def GL(l:List ND):Prop:=∀x,x∈l->N4 x
theorem GL.at{l:List ND}(h:GL l){k:Nat}{x:ND}(e:l[k]?=some x):N4 x:=h x (zS e)
def eD:Bool->Bool->Bool->F->Int
 |_,_,_,.nil=>0
 |m,pat,dS,.cons kd t n ks r=>
  bif av (ag (fF kd t n (ks.au:Int) ks.head (pat||(m&&dS))) 0) then fF kd t n (ks.au:Int) ks.head (pat||(m&&dS)) else
  bif av (ag (eD (ag kd 10) (pat||(m&&dS)) false ks) 0) then eD (ag kd 10) (pat||(m&&dS)) false ks else eD m pat (!dS) r
def bI(kd:Int)(t:List Int)(n:Int)(ks:F)(pat:Bool):Int:=bif av (ag (fF kd t n (ks.au:Int) ks.head pat) 0) then fF kd t n (ks.au:Int) ks.head pat else eD (ag kd 10) pat false ks
theorem z3g(m pat dS:Bool):eD m pat dS .nil=0:=id (Eq.refl _)
theorem qop(m pat dS:Bool)(kd:Int)(t:List Int)(n:Int)(ks r:F):eD m pat dS (.cons kd t n ks r)=bif av (ag (bI kd t n ks (pat||(m&&dS))) 0) then bI kd t n ks (pat||(m&&dS)) else eD m pat (!dS) r:=by
 conv=>lhs;unfold eD
 unfold bI;cases h:av (ag (fF kd t n (ks.au:Int) ks.head (pat||(m&&dS))) 0) with
 |true=>rw[cond_true,cond_true,h];rfl
 |false=>rw[cond_false,cond_false]
theorem z8e(i:Nat):ag (((i+1:Nat):Int) % 2) 1=!ag ((i:Int) % 2) 1:=by
 by_cases h:(i:Int) % 2=1
 ·have h2:((i+1:Nat):Int) % 2=0:=om
  rw[h,h2];rfl
 ·have h1:(i:Int) % 2=0:=om
  have h2:((i+1:Nat):Int) % 2=1:=om
  rw[h1,h2];rfl
def AG(to:Nat)(e:Int):Int×Int×Unit:=bif ag e 0 then((to:Int),0,()) else(0,e,())
theorem z3h(b b2:Bool)(l:List ND)(hl:l.length<=10000)(hg:GL l){k:Nat}{kd:Int}{t:List Int}{n:Int}{ks:F}(h:bE l k (tr kd t n ks)):∀pat N,ks.size+1<=N->cL lO N (⟨b,l⟩,(k:Int),pat,⟨b2,l⟩,())=some (AG (k+1+ks.size) (bI kd t n ks pat)):=by
 refine F.yH (l:=l) (P:=fun k kd t n ks=>∀pat N,ks.size+1<=N->cL lO N (⟨b,l⟩,(k:Int),pat,⟨b2,l⟩,())=some (AG (k+1+ks.size) (bI kd t n ks pat))) ?_ h;clear h k kd t n ks;intro k kd t n ks hs he pat N hN;obtain⟨N,rfl⟩:∃m,N=m+1:=⟨N-1,by omega⟩;show lO (cL lO N) _=_;obtain⟨g1,g2,g3,g4⟩:=hs.node;obtain⟨q1,q2,q3⟩:=hg.at g1;rw[Sr,Sq,qyw b2 l hl pat q1 q3 kd hs];simp only[af];unfold bI;cases hE:av (ag (fF kd t n (ks.au:Int) ks.head pat) 0) with
 |true=>
  rw[aU,cond_true];unfold AG;have:ag (fF kd t n (ks.au:Int) ks.head pat) 0=false:=by unfold av at hE;simpa using hE
  rw[this,cond_false]
 |false=>
  rw[aD,cond_false,dG g1,af,bK om];have loop:∀(g:F) (q i:Nat),g.yG (fun k kd t n ks=>∀pat N,ks.size+1<=N->cL lO N (⟨b,l⟩,(k:Int),pat,⟨b2,l⟩,())=some (AG (k+1+ks.size) (bI kd t n ks pat))) q->
    g.size<=N->i+g.au=ks.au->i<=1000000->
    aX (qd (cL lO N)) (⟨b,l⟩,(k:Int),pat,⟨b2,l⟩,(q:Int),(ks.au:Int),(i:Int),())=some (AG (q+g.size) (eD (ag kd 10) pat (ag ((i:Int) % 2) 1) g)):=by
   intro g
   induction g with
   |nil=>intro q i _ _ hi _;have hi:i+0=ks.au:=hi;refine cw ?_;unfold qd;simp only;rw[bP,if_neg om,z3g];rfl
   |cons kd' t' n' bO r' _ ih=>
    intro q i hE hz hi hk;have hi:i+(r'.au+1)=ks.au:=hi;have hz:bO.size+r'.size+1<=N:=hz;have hc:=ks.eh;have hj:az pat (some true) (aj (cZ l (k:Int)) (fun x3=>az (ag x3.1 10) (aj (lB (i:Int) 2) (fun x4=>some (ag x4 1))) (some false)))=some (pat||(ag kd 10&&ag ((i:Int) % 2) 1)):=by rw[dG g1,Z6 om dc];simp only[af];cases pat<;>cases ag kd 10<;>rfl
    rw[qop];have hw:=hE.1 (pat||(ag kd 10&&ag ((i:Int) % 2) 1)) N om;generalize hv:bI kd' t' n' bO (pat||(ag kd 10&&ag ((i:Int) % 2) 1))=v at*
    have step:qd (cL lO N) (⟨b,l⟩,(k:Int),pat,⟨b2,l⟩,(q:Int),(ks.au:Int),(i:Int),())=
      bif ag v 0 then some (.inl (⟨b,l⟩,(k:Int),pat,⟨b2,l⟩,((q+1+bO.size:Nat):Int),(ks.au:Int),((i+1:Nat):Int),())) else some (.inr (0,v,())):=by
     unfold qd;simp only[hj,af,hw];rw[bP,if_pos om,bK om];unfold AG;cases hf:ag v 0 with
     |true=>rfl
     |false=>show az (av (ag v 0)) _ _=_;rw[hf];rfl
    cases hf:ag v 0 with
    |true=>
     rw[hf,cond_true] at step;rw[ew step,ih _ (i+1) hE.2 om om om,z8e];have e:q+1+bO.size+r'.size=q+(F.cons kd' t' n' bO r').size:=by show _=q+(bO.size+r'.size+1);omega
     rw[e];rfl
    |false=>rw[hf,cond_false] at step;rw[cw step];show _=some (AG _ v);unfold AG;rw[hf];rfl
  have hc:=ks.eh;exact loop ks (k+1) 0 he om om om
theorem qyx(b b2:Bool)(l:List ND)(hl:l.length<=10000)(hg:GL l){k:Nat}{kd:Int}{t:List Int}{n:Int}{ks:F}(pat:Bool)(h:bE l k (tr kd t n ks)):wZ (⟨b,l⟩,(k:Int),pat,⟨b2,l⟩,())=some (AG (k+1+ks.size) (bI kd t n ks pat)):=Dv (ks.size+1) fun N hN=>z3h b b2 l hl hg h pat N hN
abbrev Tx:=List Int
def iT:List Tx->Bool
 |[]=>false
 |a::r=>decide (a∈r)||iT r
theorem Uw:∀l:List Tx,iT l=false↔l.Nodup
 |[]=>by simp[iT]
 |a::r=>by unfold iT;rw[List.nodup_cons,<-Uw r,Bool.or_eq_false_iff,decide_eq_false_iff_not]
def qS(l:List ND):List Tx:=l.filterMap fun x=>if x.1=22 then some x.2.1 else none
theorem qvi(a b:List ND):qS (a++b)=qS a++qS b:=List.filterMap_append ..
theorem qi8(x:ND)(l:List ND):qS (x::l)=(if x.1=22 then [x.2.1] else [])++qS l:=by
 show List.filterMap _ (x::l)=_;rw[List.filterMap_cons];by_cases h:x.1=22
 ·rw[if_pos h,if_pos h];rfl
 ·rw[if_neg h,if_neg h];rfl
theorem qvj(l:List ND):(qS l).length<=l.length:=List.length_filterMap_le _ _
theorem qvk(b:Bool)(l:List ND)(hl:l.length<=10000):∀(m k:Nat) (nb:Bool) (out:List Tx),k+m=l.length->out.length<=k->∃tg,aX lS (⟨b,l⟩,(l.length:Int),(k:Int),⟨nb,out⟩,())=some (⟨tg,out++qS (l.drop k)⟩,()):=by
 intro m
 induction m with
 |zero=>intro k nb out hk _;refine⟨nb,cw ?_⟩;unfold lS;simp only;rw[bP,if_neg om,zC om];show _=some (Sum.inr ((⟨nb,out++[]⟩:Sl Tx),()));rw[zt]
 |succ m ih=>
  intro k nb out hk ho;have hc:k<l.length:=om
  rw[kI hc,qi8];have he:=dG (zg hc);by_cases h:l[k].1=22
  ·have hf:fit (aQ (ae out) (ae [l[k].2.1]))=some ():=o7 (by show out.length+1<=_;omega);have step:lS (⟨b,l⟩,(l.length:Int),(k:Int),⟨nb,out⟩,())=some (.inl (⟨b,l⟩,(l.length:Int),((k+1:Nat):Int),⟨false,out++[l[k].2.1]⟩,())):=by unfold lS;simp only;rw[bP,if_pos om,he,af,jA,if_pos h,hf,af,af,KM,bK om];rfl
   obtain⟨tg,h'⟩:=ih (k+1) false (out++[l[k].2.1]) om (by rw[zd,List.length_singleton];omega);refine⟨tg,?_⟩;rw[ew step,h',if_pos h,zo]
  ·have step:lS (⟨b,l⟩,(l.length:Int),(k:Int),⟨nb,out⟩,())=some (.inl (⟨b,l⟩,(l.length:Int),((k+1:Nat):Int),⟨nb,out⟩,())):=by unfold lS;simp only;rw[bP,if_pos om,he,af,jA,if_neg h,af,bK om]
   obtain⟨tg,h'⟩:=ih (k+1) nb out om om;refine⟨tg,?_⟩;rw[ew step,h',if_neg h,List.nil_append]
theorem qvl(b:Bool)(l:List ND)(hl:l.length<=10000):∃nb,rN (⟨b,l⟩,())=some (⟨nb,qS l⟩,()):=by rw[Su];exact qvk b l hl l.length 0 true [] om (Nat.le_refl _)
def tn:List Tx->Bool
 |[]=>false
 |[_]=>false
 |a::b::r=>decide (a=b)||tn (b::r)
theorem Ux:∀l:List Tx,tn l=true↔∃k,k+1<l.length/\l[k+1]?=l[k]?
 |[]=>by simp[tn]
 |[a]=>by simp[tn]
 |a::b::r=>by
  unfold tn;rw[Bool.or_eq_true,decide_eq_true_eq,Ux (b::r)];constructor
  ·rintro(h|⟨k,h1,h2⟩)
   ·exact⟨0,by simp,by simp[h]⟩
   ·exact⟨k+1,by simpa using h1,by simpa using h2⟩
  ·rintro⟨k,h1,h2⟩;cases k with
   |zero=>left;simpa using h2.symm
   |succ k=>right;exact⟨k,by simpa using h1,by simpa using h2⟩
theorem qtd(a b:Nat):aQ (a:Int) (b:Int)=((a+b:Nat):Int):=by show(a:Int)+(b:Int)=_;omega
theorem Gz{α:Type}{l:List α}{i:Nat}(h:i<l.length):nth l i=some l[i]:=by unfold nth;exact zg h
theorem qvm(k0:Nat)(nb:Bool):∀(m k k2:Nat) (s:List Tx),s.length<=1000000->k0+k2+m=s.length->1<=k2->k+1<=k0+k2->∃c:List Tx,aX nz ((k:Int),(k0:Int),(k2:Int),⟨nb,s⟩,())=some (.inr (⟨nb,c⟩,()))/\c.length<s.length:=by
 intro m
 induction m with
 |zero=>
  intro k k2 s hs h1 h2 h3;refine⟨(ib s (k:Int) []).take k,cw ?_,?_⟩
  ·have e1:ae (cQ s (k0:Int))=(k2:Int):=by unfold ae cQ;rw[zH,Int.toNat_natCast];omega
   have ez:(ib s (k:Int) ([]:Tx)).length=s.length:=by unfold ib;rw[zd,zQ,List.length_replicate,Int.toNat_natCast];omega
   unfold nz;simp only[e1];rw[bP,if_neg om];have c1:ef (ae s) (k:Int)=some k:=by unfold ef ae;rw[if_pos om,Int.toNat_natCast]
   have c2:ef (ae (ib s (k:Int) ([]:Tx))) (k:Int)=some k:=by unfold ef ae;rw[if_pos om,Int.toNat_natCast]
   rw[c1,af,c2,af];rfl
  ·rw[zQ];omega
 |succ m ih=>
  intro k k2 s hs h1 h2 h3;have e1:ae (cQ s (k0:Int))=((k2+m+1:Nat):Int):=by unfold ae cQ;rw[zH,Int.toNat_natCast];omega
  have e2:bU .i64 (k2:Int) 1=((k2-1:Nat):Int):=by rw[nv om om];omega
  have l1:cK 0 (k2:Int)=true:=zu om;have l2:cK 0 ((k2-1:Nat):Int)=true:=zu om;have step:∃(k':Nat) (s':List Tx),nz ((k:Int),(k0:Int),(k2:Int),⟨nb,s⟩,())=some (.inl ((k':Int),(k0:Int),((k2+1:Nat):Int),⟨nb,s'⟩,()))/\s'.length=s.length/\k'+1<=k0+(k2+1):=by
   unfold nz;simp only[e1];rw[bP,if_pos om,e2,l1,l2,aU,aU,qtd,qtd,nE om,nE om];simp only[af,Gz (show k0+k2<s.length by omega),Gz (show k0+(k2-1)<s.length by omega)];cases eU s[k0+k2] s[k0+(k2-1)] with
   |true=>refine⟨k,s,?_,rfl,by omega⟩;simp only[av,Bool.not_true,aD,af,bK (show k2<=1000000000 by omega)]
   |false=>refine⟨k+1,s.set k s[k0+k2],?_,by rw[List.length_set],by omega⟩;simp only[av,Bool.not_false,aU,af,nE (show k<s.length by omega),Gz (show k<s.length by omega),bK (show k2<=1000000000 by omega),bK (show k<=1000000000 by omega)];rfl
  obtain⟨k',s',h4,h5,h6⟩:=step;obtain⟨c,g1,g2⟩:=ih k' (k2+1) s' om om om h6;exact⟨c,by rw[ew h4,g1],by omega⟩
theorem qoq(nb:Bool)(s:List Tx)(hs:s.length<=1000000):∀(m k:Nat),k+m=s.length->1<=k->(∀j,j+1<k->s[j+1]?≠s[j]?)->∃c,aX nA ((k:Int),⟨nb,s⟩,())=some (⟨nb,c⟩,())/\decide (c.length<s.length)=tn s:=by
 intro m
 induction m with
 |zero=>
  intro k h1 h2 h3;refine⟨s,cw ?_,?_⟩
  ·unfold nA;simp only;rw[bP,if_neg (by unfold ae;omega)]
  ·have:tn s=false:=by
    cases h:tn s with
    |false=>rfl
    |true=>obtain⟨j,g1,g2⟩:=(Ux s).1 h;exact absurd g2 (h3 j om)
   rw[this];exact zn (Nat.lt_irrefl _)
 |succ m ih=>
  intro k h1 h2 h3;have e2:bU .i64 (k:Int) 1=((k-1:Nat):Int):=by rw[nv om om];omega
  have hc:ef (ae s) (k:Int)=some k:=by unfold ef ae;rw[if_pos om,Int.toNat_natCast]
  by_cases he:s[k]=s[k-1]
  ·obtain⟨c,g1,g2⟩:=qvm k nb m k 1 s hs om (Nat.le_refl _) om;have g1:aX nz ((k:Int),(k:Int),1,⟨nb,s⟩,())=some (.inr (⟨nb,c⟩,())):=g1;refine⟨c,cw ?_,?_⟩
   ·unfold nA;simp only;rw[bP,if_pos (by unfold ae;omega),e2,nE om,nE om];simp only[af,Gz (show k<s.length by omega),Gz (show k-1<s.length by omega),hc];rw[Bi,if_pos he,g1]
   ·have:tn s=true:=(Ux s).2 ⟨k-1,by omega,by rw[show k-1+1=k by omega,zg om,zg om,he]⟩;rw[this];exact zu g2
  ·have step:nA ((k:Int),⟨nb,s⟩,())=some (.inl (((k+1:Nat):Int),⟨nb,s⟩,())):=by unfold nA;simp only;rw[bP,if_pos (by unfold ae;omega),e2,nE om,nE om];simp only[af,Gz (show k<s.length by omega),Gz (show k-1<s.length by omega)];rw[Bi,if_neg he,bK om]
   obtain⟨c,g1,g2⟩:=ih (k+1) om om (fun j hj=>by
    by_cases hf:j+1=k
    ·have:j=k-1:=om
     subst this;rw[show k-1+1=k by omega,zg om,zg om];exact fun e=>he (zI e)
    ·exact h3 j om)
   exact⟨c,by rw[ew step,g1],g2⟩
theorem qor(nb:Bool)(s:List Tx)(hs:s.length<=1000000):∃c,rP (⟨nb,s⟩,())=some (⟨nb,c⟩,())/\decide (c.length<s.length)=tn s:=by
 rw[Sv,bP];by_cases h:ae s<2
 ·rw[if_pos h];refine⟨s,rfl,?_⟩;have:tn s=false:=by
   have h:(s.length:Int)<2:=h
   match s,h with
   |[],_=>rfl
   |[a],_=>rfl
   |a::b::r,h=>simp at h;omega
  rw[this];exact zn (Nat.lt_irrefl _)
 ·rw[if_neg h];have h:¬(s.length:Int)<2:=h;exact qoq nb s hs (s.length-1) 1 om (Nat.le_refl _) (fun j hj=>by omega)
theorem qkc:∀l:List Tx,(l.Pairwise fun a b=>(!strLt b a)=true)->tn l=iT l
 |[],_=>rfl
 |[a],_=>by simp[tn,iT]
 |a::b::r,h=>by
  have ih:=qkc (b::r) (List.pairwise_cons.1 h).2;unfold tn;rw[ih]
  conv=>rhs;unfold iT
  by_cases hc:a=b
  ·simp[hc]
  ·have hm:a∉b::r:=by
    intro hm;rcases zw.1 hm with e|e
    ·exact hc e
    ·have h1:=(List.pairwise_cons.1 h).1 b (zf ..);have h2:=(List.pairwise_cons.1 (List.pairwise_cons.1 h).2).1 a e;simp only[Bool.not_eq_true'] at h1 h2;exact hc (Ru _ _ h2 h1)
   rw[zn hc,zn hm]
theorem z3i{a b:List Tx}(h:a.Perm b):iT a=iT b:=by have:=h.nodup_iff;rw[<-Uw,<-Uw] at this;cases ha:iT a<;>cases hb:iT b<;>simp_all
theorem zan(nb:Bool)(s:List Tx)(hs:s.length<=1000000)(hg:∀x,x∈s->ua x=true):∃c tg,aj (rO (⟨nb,s⟩,())) (fun x=>rP (x.1,()))=some (⟨tg,c⟩,())/\decide (c.length<s.length)=iT s:=by
 have e:rO (⟨nb,s⟩,())=some (⟨nb,s.mergeSort fun a b=>!strLt b a⟩,()):=by show(bif s.all ua&&decide (s.length<4611686018427387904) then _ else none)=_;rw[zU.2 hg,zu (show s.length<4611686018427387904 by omega)];rfl
 have hc:(s.mergeSort fun a b=>!strLt b a).length=s.length:=List.length_mergeSort _;obtain⟨c,h1,h2⟩:=qor nb (s.mergeSort fun a b=>!strLt b a) om;rw[e,af];refine⟨c,nb,h1,?_⟩;rw[<-hc,h2,qkc,z3i (List.mergeSort_perm _ _)];refine List.pairwise_mergeSort (fun a b c h1 h2=>?_) (fun a b=>?_) _
 ·simp only[Bool.not_eq_true'] at h1 h2 ⊢;cases h3:strLt c a with
  |false=>rfl
  |true=>
   cases h4:strLt b c with
   |true=>rw[Rt _ _ _ h4 h3] at h1;cases h1
   |false=>have e:=Ru _ _ h2 h4;subst e;rw[h1] at h3;cases h3
 ·cases h3:strLt b a with
  |false=>rfl
  |true=>
   cases h4:strLt a b with
   |false=>rfl
   |true=>have:=Rt _ _ _ h3 h4;rw[Z7] at this;cases this
theorem bE.oH{l:List ND}{k:Nat}{f:F}(h:bE l k f):(l.drop k).take f.size=f.flat:=by obtain⟨post,h⟩:=h;rw[h,<-f.len,List.take_left'];rfl
theorem z3j{α:Type}(a c:List α)(h:a.length=c.length):pv a c=c:=by unfold pv;rw[h,List.take_length,<-h,List.drop_length,zt]
theorem z3k(b:Bool)(l:List ND)(hl:l.length<=10000){k:Nat}{kd:Int}{t:List Int}{n:Int}{ks r:F}(h:bE l k (.cons kd t n ks r)):rM (⟨b,l⟩,(k:Int),())=some (⟨false,(tr kd t n ks).flat⟩,0,()):=by
 obtain⟨g1,g2,g3,g4⟩:=h.node;rw[Ss,Ih b l hl,h.ends];have hs:bU .i64 ((k+1+ks.size:Nat):Int) (k:Int)=((ks.size+1:Nat):Int):=by rw[nv om om];omega
 have hm:sV ((ks.size+1:Nat):Int) ((ks.size+1:Nat):Int)=some (ks.size+1):=by unfold sV;rw[if_pos om,Int.toNat_natCast]
 have hc:cf l (k:Int) ((k+1+ks.size:Nat):Int)=some ((l.take (k+1+ks.size)).drop k):=by unfold cf;rw[if_pos om,Int.toNat_natCast,Int.toNat_natCast]
 have hd:(l.take (k+1+ks.size)).drop k=(tr kd t n ks).flat:=by rw[List.drop_take,show k+1+ks.size-k=(tr kd t n ks).size by rw[yF];omega];exact h.first.oH
 simp only[af];rw[bP,if_neg om];simp only[hs,hm,af,hc,hd];rw[z3j];rw[(tr kd t n ks).len,yF];exact List.length_replicate
theorem GL.sub{l:List ND}(hg:GL l){k:Nat}{f:F}(h:bE l k f):GL f.flat:=by intro x hx;rw[<-h.oH] at hx;exact hg x (List.mem_of_mem_drop (List.mem_of_mem_take hx))
theorem qvn{l:List ND}(hg:GL l):∀x,x∈qS l->ua x=true:=by
 intro x hx;obtain⟨d,h1,h2⟩:=List.mem_filterMap.1 hx;by_cases h:d.1=22
 ·rw[if_pos h] at h2;injection h2 with h2;subst h2;obtain⟨g1,g2,_⟩:=hg d h1;unfold ua;rw[ze,zU,decide_eq_true_eq];exact⟨fun b hb=>zu (g1 b hb),by omega⟩
 ·rw[if_neg h] at h2;cases h2
theorem qr4(b:Bool)(l:List ND)(hl:l.length<=10000)(hg:GL l){k:Nat}{kd:Int}{t:List Int}{n:Int}{ks r:F}(h:bE l k (.cons kd t n ks r)):pL ((k:Int),⟨b,l⟩,())=some (iT (qS (tr kd t n ks).flat),()):=by
 obtain⟨g1,g2,g3,g4⟩:=h.node;rw[Sx,z3k b l hl h];simp only[af];have hc:(tr kd t n ks).flat.length<=10000:=by rw[(tr kd t n ks).len,yF];omega
 obtain⟨nb,h1⟩:=qvl false (tr kd t n ks).flat hc;have hn:=qvj (tr kd t n ks).flat
 obtain⟨c,tg,h2,h3⟩:=zan nb (qS (tr kd t n ks).flat) om (qvn (hg.sub h.first));have h4:rQ (⟨false,(tr kd t n ks).flat⟩,())=some (ae (qS (tr kd t n ks).flat),()):=by rw[Sw,h1];rfl
 rw[h1];simp only[af,h4];cases hs:rO (⟨nb,qS (tr kd t n ks).flat⟩,()) with
 |none=>rw[hs] at h2;cases h2
 |some x=>rw[hs,af] at h2;simp only[af,h2];rw[<-h3];congr 2;exact decide_eq_decide.2 (by unfold ae;omega)
def Ii:F->List Tx
 |.nil=>[]
 |.cons kd t _ ks r=>(bif ag kd 22 then [t] else Ii ks)++Ii r
def Ij(kd:Int)(t:Tx)(ks:F):List Tx:=bif ag kd 22 then [t] else Ii ks
theorem qkd(kd:Int)(t:Tx)(n:Int)(ks r:F):Ii (.cons kd t n ks r)=Ij kd t ks++Ii r:=id (Eq.refl _)
def Cv:F->Bool
 |.nil=>false
 |.cons kd t _ ks r=>(bif iQ kd then iT (Ij kd t ks) else Cv ks)||Cv r
def AH(kd:Int)(t:Tx)(ks:F):Bool:=bif iQ kd then iT (Ij kd t ks) else Cv ks
theorem qte(kd:Int)(t:Tx)(n:Int)(ks r:F):Cv (.cons kd t n ks r)=(AH kd t ks||Cv r):=id (Eq.refl _)
theorem qke{a b:Int}:(bif av (ag a 0) then a else b)=0↔a=0/\b=0:=by
 cases h:ag a 0 with
 |true=>have:=dB.1 h;rw[nT,cond_false];exact⟨fun e=>⟨this,e⟩,fun e=>e.2⟩
 |false=>
  have hn:a≠0:=fun e=>by rw[e] at h;cases h
  rw[nF,cond_true];exact⟨fun e=>absurd e hn,fun e=>absurd e.1 hn⟩
theorem bG{kd:Int}{t:Tx}{n:Int}{ks:F}{pat:Bool}:bI kd t n ks pat=0↔fF kd t n (ks.au:Int) ks.head pat=0/\eD (ag kd 10) pat false ks=0:=qke
theorem cJ{m pat dS:Bool}{kd:Int}{t:Tx}{n:Int}{ks r:F}:eD m pat dS (.cons kd t n ks r)=0↔bI kd t n ks (pat||(m&&dS))=0/\eD m pat (!dS) r=0:=by rw[qop];exact qke
def DT(k n:Int):Bool:=bif ag k 1||ag k 23 then oG n else ag n 0
def qT(k:Int)(t:Tx):Bool:=(bif ag (jZ k) 0 then eU t [] else bif ag (jZ k) 3 then av (aK 200 (ae t)) else true)&&av (ag (jZ k) 1&&av (aS t))&&av (ag (jZ k) 2&&av (qB t))
def Uy(k hk:Int):Bool:=av (ag k 8&&av (ag hk 5))
theorem qvq(k:Int)(t:Tx)(hk:Int):mT k t hk=0↔qT k t=true/\Uy k hk=true:=by unfold mT nG qT Uy;generalize (ag k 8&&av (ag hk 5))=T;generalize ag (jZ k) 0=s0;generalize ag (jZ k) 1=s1;generalize ag (jZ k) 2=s2;generalize ag (jZ k) 3=s3;generalize eU t []=a;generalize aK 200 (ae t)=c;generalize aS t=d;generalize qB t=e;revert T s0 s1 s2 s3 a c d e;decide
theorem bF{k:Int}{t:Tx}{n c hk:Int}{pat:Bool}:fF k t n c hk pat=0↔aK (jZ k) 0=false/\iQ k=pat/\mR k c=true/\DT k n=true/\qT k t=true/\Uy k hk=true:=by
 rw[<-qvq];have e:fF k t n c hk pat=bif aK (jZ k) 0 then 61 else bif av (fQ (iQ k) pat) then 61 else bif av (mR k c) then 61 else bif DT k n then mT k t hk else 61:=by unfold fF DT;cases (ag k 1||ag k 23)<;>rfl
 rw[e];cases aK (jZ k) 0 with
 |true=>simp
 |false=>
  have hp:fQ (iQ k) pat=true↔iQ k=pat:=by cases iQ k<;>cases pat<;>decide
  cases h1:fQ (iQ k) pat with
  |false=>
   have:iQ k≠pat:=fun e=>by rw[hp.2 e] at h1;cases h1
   simp[nF,this]
  |true=>
   rw[nT,cond_false,cond_false];have:=hp.1 h1;cases mR k c with
   |false=>simp[nF]
   |true=>
    rw[nT,cond_false];cases DT k n with
    |false=>simp
    |true=>simp[this]
theorem vD{k c:Int}(h:mR k c=true):(k=5\/k=11->c=1)/\(k=6\/k=7\/k=8\/k=12->c=2)/\(k=9->c=3)/\(k=10->3<=c/\c % 2=1)/\(k=1\/k=2\/k=3\/k=4\/k=21\/k=22\/k=23->c=0):=by
 refine⟨?_,?_,?_,?_,?_⟩
 ·rintro(rfl|rfl)<;>exact dB.1 h
 ·rintro(rfl|rfl|rfl|rfl)<;>exact dB.1 h
 ·rintro rfl;exact dB.1 h
 ·rintro rfl;have h:(cK 3 c&&ag (c % 2) 1)=true:=h;rw[ze,dB] at h;exact⟨zM h.1,h.2⟩
 ·rintro(rfl|rfl|rfl|rfl|rfl|rfl|rfl)<;>exact dB.1 h
theorem uN{f:F}(h:(f.au:Int)=0):f=.nil:=by
 cases f with
 |nil=>rfl
 |cons _ _ _ _ r=>have h:((r.au+1:Nat):Int)=0:=h;omega
theorem Uz:∀(f:F) (m pat dS:Bool),eD m pat dS f=0->qS f.flat=Ii f
 |.nil,_,_,_,_=>rfl
 |.cons kd t n ks r,m,pat,dS,h=>by
  obtain⟨h1,h2⟩:=cJ.1 h;obtain⟨h3,h4⟩:=bG.1 h1;have i1:=Uz ks _ _ _ h4;have i2:=Uz r _ _ _ h2;show qS ((kd,t,n,(ks.au:Int))::(ks.flat++r.flat))=_;rw[qi8,qvi,i1,i2,qkd];unfold Ij;by_cases hc:kd=22
  ·subst hc;have:=(vD (bF.1 h3).2.2.1).2.2.2.2 om;rw[uN this,if_pos rfl];rfl
  ·rw[if_neg hc,dx hc];rfl
theorem qot{kd:Int}{t:Tx}{n:Int}{ks:F}{pat:Bool}(h:bI kd t n ks pat=0):qS (tr kd t n ks).flat=Ij kd t ks:=by have h':eD false pat false (tr kd t n ks)=0:=cJ.2 ⟨by rw[Bool.false_and,Bool.or_false];exact h,rfl⟩;rw[Uz _ _ _ _ h',qkd];exact zt _
theorem z3l(b:Bool)(l:List ND)(hl:l.length<=10000)(hg:GL l):∀(f:F) (q:Nat) (m pat dS:Bool),bE l q f->q<=l.length->eD m pat dS f=0->aX jN ((q:Int),⟨b,l⟩,())=bif Cv f then some (63,()) else aX jN (((q+f.size:Nat):Int),⟨b,l⟩,()):=by
 intro f
 induction f with
 |nil=>intro q m pat dS _ _ _;rfl
 |cons kd t n ks r il im=>
  intro q m pat dS hs hq he;obtain⟨g1,g2,g3,g4⟩:=hs.node;obtain⟨h1,h2⟩:=cJ.1 he;obtain⟨h3,h4⟩:=bG.1 h1;rw[qte];have esz:q+(F.cons kd t n ks r).size=q+1+ks.size+r.size:=by show q+(ks.size+r.size+1)=_;omega
  rw[esz];have rest:=im (q+1+ks.size) m pat (!dS) g3 om h2;cases hp:iQ kd with
  |true=>
   have hT:AH kd t ks=iT (Ij kd t ks):=by unfold AH;rw[hp];rfl
   have hc:=qr4 b l hl hg hs;rw[qot h1,<-hT] at hc;have step:jN ((q:Int),⟨b,l⟩,())=bif AH kd t ks then some (.inr (63,())) else some (.inl (((q+1+ks.size:Nat):Int),⟨b,l⟩,())):=by
    unfold jN;simp only;rw[bP,if_pos (by unfold ae;omega),dG g1];simp only[af,o8,hp,nT,aD,hc];cases AH kd t ks with
    |true=>rfl
    |false=>
     rw[aD,Ih b l hl,hs.ends];simp only[af];have e1:bU .i64 ((q+1+ks.size:Nat):Int) 1=((q+ks.size:Nat):Int):=by rw[nv om om];omega
     rw[e1];show some (Sum.inl (aG .i64 ((q+ks.size:Nat):Int) 1,_,()))=_;rw[bK om,show q+ks.size+1=q+1+ks.size by omega];rfl
   cases ht:AH kd t ks with
   |true=>rw[ht,cond_true] at step;rw[cw step];rfl
   |false=>rw[ht,cond_false] at step;rw[ew step,rest];rfl
  |false=>
   have hT:AH kd t ks=Cv ks:=by unfold AH;rw[hp];rfl
   have step:jN ((q:Int),⟨b,l⟩,())=some (.inl (((q+1:Nat):Int),⟨b,l⟩,())):=by unfold jN;simp only;rw[bP,if_pos (by unfold ae;omega),dG g1];simp only[af,o8,hp,nF,aU];show some (Sum.inl (aG .i64 (q:Int) 1,_,()))=_;rw[bK om]
   rw[ew step,il (q+1) _ _ _ g2 om h4,hT];cases Cv ks with
   |true=>rfl
   |false=>rw[cond_false,rest];rfl
def uO(kd:Int)(t:Tx)(n:Int)(ks:F)(pat:Bool):Int:=bif aK 100 ((ks.dep+1:Nat):Int) then 60 else bif av (ag (bI kd t n ks pat) 0) then bI kd t n ks pat else bif AH kd t ks then 63 else 0
theorem qvr(b:Bool)(kd:Int)(t:Tx)(n:Int)(ks:F)(pat:Bool)(hl:ks.size+1<=4000)(hg:GL (tr kd t n ks).flat):pM (⟨b,(tr kd t n ks).flat⟩,pat,())=some (uO kd t n ks pat,()):=by
 have hc:(tr kd t n ks).flat.length=ks.size+1:=(tr kd t n ks).len;have hs:=N2 kd t n ks;rw[Ki,NZ b _ om,(N1 _).2 ⟨kd,t,n,ks,rfl⟩,qyv b kd t n ks om];have hw:=qyx b b _ om hg pat hs;have h0:((0:Nat):Int)=0:=rfl;rw[h0] at hw;have c0:aK 4000 (ae (tr kd t n ks).flat)=false:=zn (by unfold ae;omega);simp only[c0,aD,af,nT,hw];unfold uO;cases aK 100 ((ks.dep+1:Nat):Int) with
 |true=>rfl
 |false=>
  rw[aD,cond_false];unfold AG;cases hv:ag (bI kd t n ks pat) 0 with
  |false=>rw[cond_false,nF];show az (av (ag (bI kd t n ks pat) 0)) _ _=_;rw[hv];rfl
  |true=>
   rw[cond_true,nT,cond_false];show aX jN (0,_,())=_;have hz:=dB.1 hv;have:=z3l b (tr kd t n ks).flat om hg (tr kd t n ks) 0 false pat false hs om (cJ.2 ⟨by rw[Bool.false_and,Bool.or_false];exact hz,rfl⟩);rw[h0,qte] at this;rw[this];have hf:Cv .nil=false:=rfl;rw[hf,Bool.or_false];cases AH kd t ks with
   |true=>rfl
   |false=>rw[cond_false,cond_false];refine cw ?_;unfold jN;simp only;rw[bP,if_neg (by unfold ae;rw[hc,yF];omega)]
theorem qvs(b:Bool)(l:List ND)(hl:l.length<=4000)(pat:Bool)(h:DS l=false):pM (⟨b,l⟩,pat,())=some (60,()):=by rw[Ki,NZ b _ om,h];have c0:aK 4000 (ae l)=false:=zn (by unfold ae;omega);simp only[c0,aD,af,nF,aU]
theorem qyy(l:List ND):DS l=false\/∃kd t n ks,l=(tr kd t n ks).flat:=by
 cases h:DS l with
 |false=>exact .inl rfl
 |true=>exact .inr ((N1 l).1 h)
theorem UA(b:Bool)(kd:Int)(t:Tx)(n:Int)(ks:F)(hl:ks.size+1<=4000)(hg:GL (tr kd t n ks).flat):ga (⟨b,(tr kd t n ks).flat⟩,())=some (uO kd t n ks false,()):=by rw[Kj,qvr b kd t n ks false hl hg];rfl
theorem qkf(b:Bool)(l:List ND)(hl:l.length<=4000)(h:DS l=false):ga (⟨b,l⟩,())=some (60,()):=by rw[Kj,qvs b l hl false h];rfl
end Fn
end Ev