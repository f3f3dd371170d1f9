/- Layers 2 and 6 in plain words: names, trees, patterns. No statement of its own about the program. -/
import Derived.Test.YtdgmbemagoakjaaGreatDoorFnB
import Derived.Test.YtdgmbemagoakjaaGreatDoorAw
import Derived.Laws.RangeAny
namespace Ev
open Go
namespace Fn
theorem oH{α β:Type}{x y:Option α}{f g:α->Option β}(h:lq x y)(h2:∀a,lq (f a) (g a)):lq (ag x f) (ag y g):=by
 intro v e;cases hx:x with
 |none=>rw[hx] at e;cases e
 |some a=>rw[hx] at e;rw[h a hx];exact h2 a v e
theorem oI{α:Type}{c:Bool}{x y x' y':Option α}(h:lq x x')(h2:lq y y'):lq (aq c x y) (aq c x' y'):=by
 cases c with
 |true=>exact h
 |false=>exact h2
theorem z6n{α β:Type}{f g:α->Option β}(h:∀a,lq (f a) (g a))(y:α⊕β):lq (bT f y) (bT g y):=by
 cases y with
 |inl a=>exact h a
 |inr b=>exact lR _
theorem z1l{σ ρ:Type}{f g:σ->Option (σ⊕ρ)}(h:∀s,lq (f s) (g s))(n:Nat)(s:σ):lq (lW f n s) (aM g s):=fun r e=>OA n (ZN h n s r e)
def qn:List (List Int):=[[108,101,116],[114,101,99],[105,110],[102,117,110],[105,102],[116,104,101,110],[101,108,115,101],[109,97,116,99,104],[119,105,116,104],[101,110,100],[114,97,105,115,101],[116,114,121],[111,112,101,110],[116,121,112,101],[111,102],[105,110,102,105,120,108],[105,110,102,105,120,114],[105,110,102,105,120],[45,62],[61],[124],[40],[41],[95],[59,59]]
theorem qtv:xW ()=some (⟨false,qn⟩,()):=(ZP 300).h () _ (by kernel_rfl)
theorem aO{k:Nat}(h:k<=1000000000):aA .i64 (k:Int) 1=((k+1:Nat):Int):=by rw[tH om om];omega
theorem jk{α:Type}{l:List α}{k:Nat}(h:k<l.length):l.drop k=l[k]::l.drop (k+1):=List.drop_eq_getElem_cons h
theorem mw{α:Type}{l:List α}{i:Nat}(h:i<l.length):bC l (i:Int)=some i:=by unfold bC;rw[if_pos om];rfl
theorem vN{α:Type}{l:List α}{i:Nat}{x:α}(h:l[i]?=some x):nth l i=some x:=h
theorem Hj{α:Type}{l:List α}{k:Nat}(h:k<=l.length):cg l 0 (k:Int)=some (l.take k):=by unfold cg;rw[if_pos om];rfl
theorem qj2(s:List Int)(n:Bool)(l:List (List Int))(hl:l.length<=1000000):∀(m k:Nat),k+m=l.length->∃r,aM gw (⟨n,l⟩,s,(l.length:Int),(k:Int),())=some (r,())/\(0<=r↔s∈l.drop k):=by
 intro m
 induction m with
 |zero=>intro k hk;refine⟨-1,bX ?_,by rw[zw om];simp⟩;unfold gw;simp only;rw[cd,if_neg om]
 |succ m ih=>
  intro k hk;have hc:k<l.length:=om
  rw[jk hc];have step:gw (⟨n,l⟩,s,(l.length:Int),(k:Int),())=if s=l[k] then some (.inr ((k:Int),())) else some (.inl (⟨n,l⟩,s,(l.length:Int),((k+1:Nat):Int),())):=by unfold gw;simp only;rw[cd,if_pos om,bR (ze hc),af,Cd,aO om]
  by_cases h:s=l[k]
  ·rw[if_pos h] at step;exact⟨k,bX step,by simp[h,-List.getElem_cons_drop]⟩
  ·rw[if_neg h] at step;obtain⟨r,h1,h2⟩:=ih (k+1) om;exact⟨r,by rw[dC step,h1],by rw[h2];simp[h,-List.getElem_cons_drop]⟩
theorem TM(s:List Int):mi (s,())=some (decide (s∈qn),()):=by obtain⟨r,h1,h2⟩:=qj2 s false qn dc 25 0 dc;rw[Xq,qtv,af,Pc,I7];have h1:aM gw (⟨false,qn⟩,s,ae qn,0,())=some (r,()):=h1;simp only[h1,af];have:bJ 0 r=decide (s∈qn):=decide_eq_decide.2 (by rw[h2];rfl);rw[this]
def aN:List Int:=[33,36,37,38,42,43,45,47,58,60,61,62,63,64,94,124]
theorem Z5(c:Int):∀l:List Int,(0<=lQ c l↔c∈l)
 |[]=>by simp[lQ]
 |b::r=>by
  have ih:=Z5 c r;unfold lQ;by_cases h:b=c
  ·rw[if_pos h];simp[h]
  ·rw[if_neg h];have:c≠b:=fun e=>h e.symm;simp only[zt,this,false_or];rw[<-ih];split<;>omega
theorem Z6(c:Int):kN (c,())=some (decide (c∈aN),()):=by rw[Xu,I8,af];have:bJ 0 (lQ c aN)=decide (c∈aN):=decide_eq_decide.2 (Z5 c aN);show some (bJ 0 (lQ c aN),())=_;rw[this]
def Bp(s:List Int):Bool:=!s.isEmpty&&s.all fun b=>decide (b∈aN)
def sX(s:List Int):Bool:=Bp s&&!decide (s∈qn)
theorem qxl{b:Int}(h:b∈aN):0<=b/\b<=126:=by unfold aN at h;simp only[zt,List.not_mem_nil,or_false] at h;omega
theorem Z7{s:List Int}(hs:∀b,b∈s->0<=b/\b<=255){k:Nat}(hk:k<s.length):(s[k]<=127->da s (k:Int)=s[k]/\eE s (k:Int)=((k+1:Nat):Int))/\(127<s[k]->126<da s (k:Int)):=by
 have hb:=hs _ (List.getElem_mem hk);have hd:(wm s).size=s.length:=by show(s.map _).toArray.size=_;simp
 have hc:k<(wm s).size:=om
 have hg:(((wm s)[k]'hc).toNat:Int)=s[k]:=by
  have:(wm s)[k]'hc=UInt8.ofNat s[k].toNat:=by have h1:(wm s)[k]'hc=((s.map fun b=>UInt8.ofNat b.toNat).toArray)[k]'(by simpa using hk):=rfl;rw[h1,List.getElem_toArray,List.getElem_map]
  rw[this,UInt8.toNat_ofNat',Nat.mod_eq_of_lt om];omega
 unfold da eE;rw[Int.toNat_natCast,if_pos om];constructor
 ·intro h;have:=decode_ascii (wm s) k hc om;rw[this];exact⟨hg,by simp⟩
 ·intro h;have:=(decode_high (wm s) k hc om).1;omega
theorem z1m{s:List Int}(hs:∀b,b∈s->0<=b/\b<=255):∀(m k:Nat),k+m=s.length->aM pI (s,s,(k:Int),())=some ((s.drop k).all (fun b=>decide (b∈aN))&&!s.isEmpty,()):=by
 intro m
 induction m with
 |zero=>intro k hk;refine bX ?_;unfold pI;simp only;rw[cd,if_neg (by unfold ae;omega),zw om];cases s<;>rfl
 |succ m ih=>
  intro k hk;have hc:k<s.length:=om
  rw[jk hc];obtain⟨h1,h2⟩:=Z7 hs hc;have c0:aE (k:Int) (ae s)=true:=zo (by unfold ae;omega);have hb:=hs _ (List.getElem_mem hc);have step:pI (s,s,(k:Int),())=if s[k]∈aN then some (.inl (s,s,((k+1:Nat):Int),())) else some (.inr (false,())):=by
   unfold pI;simp only[c0,aP,af];by_cases h:s[k]<=126
   ·obtain⟨e1,e2⟩:=h1 om;rw[e1,e2];have c1:aE 126 s[k]=false:=zn om;have c2:dU .u8 s[k]=s[k]:=by rw[z4e];omega
    simp only[c1,aH,c2,Z6,af,ai];by_cases hm:s[k]∈aN
    ·rw[if_pos hm];simp[hm,aH]
    ·rw[if_neg hm];simp[hm,aP]
   ·have hm:s[k]∉aN:=fun e=>by have:=qxl e;omega
    rw[if_neg hm];have c1:aE 126 (da s (k:Int))=true:=by
     refine zo ?_;by_cases hd:s[k]<=127
     ·rw[(h1 hd).1];omega
     ·exact h2 om
    simp only[c1,aP,af]
  by_cases hm:s[k]∈aN
  ·rw[if_pos hm] at step;rw[dC step,ih (k+1) om];simp[hm,-List.getElem_cons_drop]
  ·rw[if_neg hm] at step;rw[bX step];simp[hm,-List.getElem_cons_drop]
theorem z1n{s:List Int}(hs:∀b,b∈s->0<=b/\b<=255):uY (s,())=some (Bp s,()):=by rw[Xv];have:=z1m hs s.length 0 om;rw[List.drop_zero,Bool.and_comm] at this;exact this
def qq:List Int->Nat
 |[]=>0
 |b::r=>if b∈aN then qq r+1 else 0
theorem qrw:∀s:List Int,(qq s=s.length↔s.all (fun b=>decide (b∈aN))=true)
 |[]=>by simp[qq]
 |b::r=>by
  have ih:=qrw r;unfold qq;by_cases h:b∈aN
  ·rw[if_pos h,zf,List.all_cons];simp only[h,decide_true,Bool.true_and,<-ih];omega
  ·rw[if_neg h];simp[h]
theorem qna(s:List Int)(hs:∀b,b∈s->0<=b/\b<=255):il ((5,s,0,0),())=some (sX s,()):=by rw[Ja,z1n hs,TM];have c1:aE 0 0=false:=rfl;have c2:ak 5 3=false:=rfl;have c3:ak 0 0=true:=rfl;have c4:ak 5 1=false:=rfl;have c5:ak 5 2=false:=rfl;have c6:ak 5 4=false:=rfl;have c7:ak 5 5=true:=rfl;simp only[c1,c2,c3,c4,c5,c6,c7,aH,aP,af,ai,Bool.not_true,Bool.not_false];unfold sX;cases Bp s<;>rfl
def oJ(c:Int):Bool:=bJ 97 c&&bJ c 122
def my(c:Int):Bool:=bJ 65 c&&bJ c 90
def Cl(c:Int):Bool:=bJ 48 c&&bJ c 57
def fh(c:Int):Bool:=oJ c||my c||Cl c||ak c 95||ak c 39
theorem MP(a b:Bool):(aq a (some b) (some false):Option Bool)=some (a&&b):=by cases a<;>rfl
theorem Z8(a b:Bool):(aq a (some true) (some b):Option Bool)=some (a||b):=by cases a<;>rfl
theorem Z9(c:Int):nI (c,())=some (oJ c,()):=by rw[Xl,MP];rfl
theorem qdj(c:Int):nJ (c,())=some (my c,()):=by rw[Xm,MP];rfl
theorem qdk(c:Int):mg (c,())=some (Cl c,()):=by rw[Xn,MP];rfl
theorem qj3(c:Int):mh (c,())=some (fh c,()):=by rw[Xo,Z9,qdj,qdk];simp only[af,Z8];rfl
theorem qxn{c:Int}(h:fh c=true):0<=c/\c<=126:=by unfold fh oJ my Cl bJ at h;simp only[Bool.or_eq_true,zd,decide_eq_true_eq,cT] at h;omega
theorem qxo{s:List Int}(hs:∀b,b∈s->0<=b/\b<=255):∀(m k:Nat),k+m=s.length->aM pH (s,s,(k:Int),())=some ((s.drop k).all fh&&!s.isEmpty,()):=by
 intro m
 induction m with
 |zero=>intro k hk;refine bX ?_;unfold pH;simp only;rw[cd,if_neg (by unfold ae;omega),zw om];cases s<;>rfl
 |succ m ih=>
  intro k hk;have hc:k<s.length:=om
  rw[jk hc];obtain⟨h1,h2⟩:=Z7 hs hc;have c0:aE (k:Int) (ae s)=true:=zo (by unfold ae;omega);have hb:=hs _ (List.getElem_mem hc);have step:pH (s,s,(k:Int),())=if fh s[k]=true then some (.inl (s,s,((k+1:Nat):Int),())) else some (.inr (false,())):=by
   unfold pH;simp only[c0,aP,af];by_cases h:s[k]<=126
   ·obtain⟨e1,e2⟩:=h1 om;rw[e1,e2];have c1:aE 126 s[k]=false:=zn om;have c2:dU .u8 s[k]=s[k]:=by rw[z4e];omega
    simp only[c1,aH,c2,qj3,af,ai];cases fh s[k]<;>rfl
   ·have hm:¬fh s[k]=true:=fun e=>by have:=qxn e;omega
    rw[if_neg hm];have c1:aE 126 (da s (k:Int))=true:=by
     refine zo ?_;by_cases hd:s[k]<=127
     ·rw[(h1 hd).1];omega
     ·exact h2 om
    simp only[c1,aP,af]
  rw[List.all_cons];cases hm:fh s[k] with
  |true=>rw[hm,if_pos rfl] at step;rw[dC step,ih (k+1) om,Bool.true_and]
  |false=>rw[hm,if_neg dc] at step;rw[bX step,Bool.false_and,Bool.false_and]
theorem qnb{s:List Int}(hs:∀b,b∈s->0<=b/\b<=255):rP (s,())=some (s.all fh&&!s.isEmpty,()):=by rw[Xp];exact qxo hs s.length 0 om
def Cm(c:Int):Int:=bif decide (c∈aN) then 5 else bif oJ c then 1 else bif my c then 2 else bif Cl c then 3 else bif ak c 95||ak c 39 then 4 else 0
theorem qj4{c:Int}(h:c∈aN):fh c=false:=by unfold aN at h;simp only[zt,List.not_mem_nil,or_false] at h;rcases h with h|h|h|h|h|h|h|h|h|h|h|h|h|h|h|h<;>subst h<;>decide
theorem qtw(c:Int):(bJ 1 (Cm c)&&bJ (Cm c) 4)=fh c:=by
 unfold Cm;by_cases h:c∈aN
 ·rw[qj4 h];simp[h,bJ]
 ·simp only[h,decide_false,cond_false];unfold fh;cases oJ c<;>cases my c<;>cases Cl c<;>cases h1:ak c 95<;>cases ak c 39<;>rfl
theorem qpu{c:Int}(h:my c=true):oJ c=false:=by
 unfold my oJ bJ at*
 simp only[zd,decide_eq_true_eq,Bool.and_eq_false_iff,decide_eq_false_iff_not] at*
 omega
theorem qtx{c:Int}(h:fh c=true):ak (Cm c) 2=my c:=by
 unfold Cm;have hs:c∉aN:=fun e=>by rw[qj4 e] at h;cases h
 simp only[hs,decide_false,cond_false];cases hg:my c with
 |true=>rw[qpu hg];rfl
 |false=>cases oJ c<;>cases Cl c<;>cases (ak c 95||ak c 39)<;>rfl
def mz:List Int->Nat
 |[]=>0
 |b::r=>bif fh b then mz r+1 else 0
theorem z6o:∀s,mz s<=s.length
 |[]=>Nat.le_refl _
 |b::r=>by unfold mz;have:=z6o r;cases fh b<;>simp<;>omega
theorem qrx:∀s:List Int,(mz s=s.length↔s.all fh=true)
 |[]=>by simp[mz]
 |b::r=>by
  have ih:=qrx r;unfold mz;cases h:fh b with
  |true=>simp only[cond_true,zf,List.all_cons,h,Bool.true_and,<-ih];omega
  |false=>simp[h]
def z6p(p:Int->Bool):List Int->Bool
 |[]=>false
 |b::_=>p b
def wO(p:Int->Bool)(s:List Int):Bool:=s.all fh&&!s.isEmpty&&z6p p s&&!decide (s∈qn)
theorem qxp(s:List Int)(a2 a3:Int)(hs:∀b,b∈s->0<=b/\b<=255):rQ ((1,s,a2,a3),())=some (wO oJ s,()):=by
 rw[Xs,qnb hs,TM];simp only[af];cases s with
 |nil=>rfl
 |cons b r=>have h0:bA (b::r) 0=some b:=rfl;rw[h0];simp only[af,Z9];unfold wO;show _=some (_&&oJ b&&_,());cases List.all (b::r) fh<;>cases oJ b<;>cases decide (b::r∈qn)<;>rfl
theorem qxq(s:List Int)(a2 a3:Int)(hs:∀b,b∈s->0<=b/\b<=255):rR ((2,s,a2,a3),())=some (wO my s,()):=by
 rw[Xt,qnb hs,TM];simp only[af];cases s with
 |nil=>rfl
 |cons b r=>have h0:bA (b::r) 0=some b:=rfl;rw[h0];simp only[af,qdj];unfold wO;show _=some (_&&my b&&_,());cases List.all (b::r) fh<;>cases my b<;>cases decide (b::r∈qn)<;>rfl
theorem qty(s:List Int)(hs:∀b,b∈s->0<=b/\b<=255):il ((1,s,0,0),())=some (wO oJ s,()):=by rw[Ja,qxp s 0 0 hs];have c1:aE 0 0=false:=rfl;have c2:ak 1 3=false:=rfl;have c3:ak 0 0=true:=rfl;have c4:ak 1 1=true:=rfl;simp only[c1,c2,c3,c4,aH,aP,af,ai,Bool.not_true,Bool.not_false]
theorem qdl(s:List Int)(hs:∀b,b∈s->0<=b/\b<=255):il ((2,s,0,0),())=some (wO my s,()):=by rw[Ja,qxq s 0 0 hs];have c1:aE 0 0=false:=rfl;have c2:ak 2 3=false:=rfl;have c3:ak 0 0=true:=rfl;have c4:ak 2 1=false:=rfl;have c5:ak 2 2=true:=rfl;simp only[c1,c2,c3,c4,c5,aH,aP,af,ai,Bool.not_true,Bool.not_false]
def bK(s:List Int):Bool:=wO oJ s||sX s
def lx(s:List Int):Bool:=wO my s
theorem qnc{s:List Int}(hs:∀b,b∈s->0<=b/\b<=255):pb (s,())=some (bK s,()):=by rw[XK,qty s hs,qna s hs];simp only[af,Z8];rfl
theorem qry{s:List Int}(hs:∀b,b∈s->0<=b/\b<=255):pa (s,())=some (lx s,()):=by rw[XF,qdl s hs];rfl
abbrev ND:=Int×List Int×Int×Int
inductive F where
 |nil:F
 |cons:Int->List Int->Int->F->F->F
def F.aT:F->Nat
 |.nil=>0
 |.cons _ _ _ _ r=>r.aT+1
def F.flat:F->List ND
 |.nil=>[]
 |.cons k t n ks r=>(k,t,n,(ks.aT:Int))::(ks.flat++r.flat)
def F.size:F->Nat
 |.nil=>0
 |.cons _ _ _ ks r=>ks.size+r.size+1
def F.dep:F->Nat
 |.nil=>0
 |.cons _ _ _ ks r=>max (ks.dep+1) r.dep
abbrev tr(k:Int)(t:List Int)(n:Int)(ks:F):F:=.cons k t n ks .nil
theorem F.len:∀f:F,f.flat.length=f.size
 |.nil=>rfl
 |.cons k t n ks r=>by show(_::(ks.flat++r.flat)).length=ks.size+r.size+1;rw[zf,zh,ks.len,r.len]
theorem F.iv:∀f:F,f.aT<=f.size
 |.nil=>Nat.le_refl _
 |.cons k t n ks r=>by have:=r.iv;show r.aT+1<=ks.size+r.size+1;omega
theorem F.ly:∀f:F,f.dep<=f.size
 |.nil=>Nat.le_refl _
 |.cons k t n ks r=>by have h1:=r.ly;have h2:=ks.ly;show max (ks.dep+1) r.dep<=ks.size+r.size+1;omega
theorem z6q(k:Int)(t:List Int)(n:Int)(ks:F):(tr k t n ks).flat=(k,t,n,(ks.aT:Int))::ks.flat:=by show _::(ks.flat++[])=_;rw[zu]
theorem Li(k:Int)(t:List Int)(n:Int)(ks:F):(tr k t n ks).size=ks.size+1:=rfl
def skip(N:Nat):List ND->Nat->Option (List ND)
 |l,0=>some l
 |[],_+1=>none
 |d::r,c+1=>if 0<=d.2.2.2/\d.2.2.2<=(N:Int) then skip N r (c+d.2.2.2.toNat) else none
theorem TN(N:Nat)(l:List ND):skip N l 0=some l:=by cases l<;>rfl
theorem TO(N:Nat)(d:ND)(r:List ND)(c:Nat):skip N (d::r) (c+1)=if 0<=d.2.2.2/\d.2.2.2<=(N:Int) then skip N r (c+d.2.2.2.toNat) else none:=by conv=>lhs;unfold skip
theorem TP(N:Nat):∀(f:F) (c:Nat) (post:List ND),f.size<=N->skip N (f.flat++post) (f.aT+c)=skip N post c
 |.nil,c,post,_=>by show skip N post (0+c)=_;rw[zO]
 |.cons k t n ks r,c,post,h=>by
  have h:ks.size+r.size+1<=N:=h;have hc:=ks.iv;show skip N ((k,t,n,(ks.aT:Int))::((ks.flat++r.flat)++post)) (r.aT+1+c)=_;have e:r.aT+1+c=(r.aT+c)+1:=om
  rw[e,TO];rw[if_pos ⟨by show(0:Int)<=(ks.aT:Int);omega,by show(ks.aT:Int)<=N;omega⟩];show skip N _ (r.aT+c+(ks.aT:Int).toNat)=_;rw[Int.toNat_natCast,zC,Nat.add_comm (r.aT+c),TP N ks _ _ om,TP N r _ _ om]
theorem F.split:∀(g:F) (a c:Nat),g.aT=a+c->∃x y:F,x.aT=a/\y.aT=c/\g.flat=x.flat++y.flat
 |g,0,c,h=>⟨.nil,g,rfl,by omega,rfl⟩
 |.nil,a+1,c,h=>by have h:0=a+1+c:=h;omega
 |.cons k t n ks r,a+1,c,h=>by
  have h:r.aT+1=a+1+c:=h;obtain⟨x,y,h1,h2,h3⟩:=r.split a c om;refine⟨.cons k t n ks x,y,by show x.aT+1=_;omega,h2,?_⟩;show _::(ks.flat++r.flat)=_::(ks.flat++x.flat)++y.flat
  rw[h3,List.cons_append,zC]
theorem qj5(N:Nat):∀(l:List ND) (c:Nat) (rest:List ND),skip N l c=some rest->∃f:F,f.aT=c/\l=f.flat++rest
 |l,0,rest,h=>by rw[TN] at h;injection h with h;exact⟨.nil,rfl,h⟩
 |[],c+1,rest,h=>by cases h
 |d::r,c+1,rest,h=>by
  obtain⟨k,t,n,z⟩:=d;rw[TO] at h;have h:(if 0<=z/\z<=(N:Int) then skip N r (c+z.toNat) else none)=some rest:=h;by_cases hz:0<=z/\z<=(N:Int)
  ·rw[if_pos hz] at h;obtain⟨g,h1,h2⟩:=qj5 N r _ rest h;obtain⟨x,y,h3,h4,h5⟩:=g.split z.toNat c om;refine⟨.cons k t n x y,by show y.aT+1=_;omega,?_⟩;show _=(k,t,n,(x.aT:Int))::(x.flat++y.flat)++rest;rw[h2,h5,h3,Int.toNat_of_nonneg hz.1];rfl
  ·rw[if_neg hz] at h;cases h
def jM(l:List ND)(k c:Nat):Int:=(skip l.length (l.drop k) c).elim (-1) fun r=>(l.length:Int)-(r.length:Int)
theorem z1o(b:Bool)(l:List ND)(hl:l.length<=10000):∀(m k c:Nat),k+m=l.length->c<=k*10000->aM lh (⟨b,l⟩,(k:Int),((c+1:Nat):Int),())=some (jM l k (c+1),()):=by
 intro m
 induction m with
 |zero=>intro k c hk hc;refine bX ?_;unfold lh;have c0:bJ (ae l) (k:Int)=true:=zo (by unfold ae;omega);simp only[c0,aP,af];unfold jM;rw[zw om];rfl
 |succ m ih=>
  intro k c hk hc;have hg:k<l.length:=om
  obtain⟨d,hd⟩:∃d,l[k]?=some d:=⟨_,ze hg⟩;have hf:l.drop k=d::l.drop (k+1):=by rw[jk hg];rw[ze hg] at hd;injection hd with hd;rw[hd]
  obtain⟨x,t,n,z⟩:=d;have c0:bJ (ae l) (k:Int)=false:=zn (by unfold ae;omega);have hj:=bR hd;by_cases hz:0<=z/\z<=(l.length:Int)
  ·have c1:aE z 0=false:=zn om;have c2:aE (ae l) z=false:=zn (by unfold ae;omega);have e1:cq .i64 z 1=z-1:=qL om om;have e2:aA .i64 ((c+1:Nat):Int) (z-1)=((c+z.toNat:Nat):Int):=by rw[tH om om];omega
   have e3:=aO (show k<=1000000000 by omega);have step:lh (⟨b,l⟩,(k:Int),((c+1:Nat):Int),())=if 0<c+z.toNat then some (.inl (⟨b,l⟩,((k+1:Nat):Int),((c+z.toNat:Nat):Int),())) else some (.inr (((k+1:Nat):Int),())):=by
    unfold lh;simp only[c0,aH,af,hj,c1,c2,e1,e2,e3];rw[cd];by_cases h:0<c+z.toNat
    ·rw[if_pos h,if_pos om]
    ·rw[if_neg h,if_neg om]
   have he:jM l k (c+1)=(skip l.length (l.drop (k+1)) (c+z.toNat)).elim (-1) fun r=>(l.length:Int)-(r.length:Int):=by unfold jM;rw[hf,TO];rw[if_pos (show 0<=(x,t,n,z).2.2.2/\(x,t,n,z).2.2.2<=(l.length:Int) from hz)]
   rw[he];by_cases h:0<c+z.toNat
   ·rw[if_pos h] at step;rw[dC step];obtain⟨c',hm⟩:∃c',c+z.toNat=c'+1:=⟨c+z.toNat-1,by omega⟩;rw[hm];exact ih (k+1) c' om om
   ·rw[if_neg h] at step;rw[bX step];have h0:c+z.toNat=0:=om
    rw[h0,TN];show some (((k+1:Nat):Int),())=some ((l.length:Int)-((l.drop (k+1)).length:Int),());rw[zD];congr 2;omega
  ·have he:jM l k (c+1)=-1:=by unfold jM;rw[hf,TO];rw[if_neg (show ¬(0<=(x,t,n,z).2.2.2/\(x,t,n,z).2.2.2<=(l.length:Int)) from hz)];rfl
   rw[he];refine bX ?_;unfold lh;simp only[c0,aH,af,hj];cases h1:aE z 0 with
   |true=>simp only[aP,af]
   |false=>
    have c2:aE (ae l) z=true:=by have:=of_decide_eq_false h1;exact zo (by unfold ae;omega)
    simp only[aH,af,c2,aP]
theorem qkt(b:Bool)(l:List ND)(hl:l.length<=10000)(k:Nat):kh (⟨b,l⟩,(k:Int),())=some (jM l k 1,()):=by
 rw[XL];have c0:aE (k:Int) 0=false:=zn om;rw[c0,aH];by_cases h:k<=l.length
 ·exact z1o b l hl (l.length-k) k 0 om om
 ·have he:jM l k 1=-1:=by unfold jM;rw[zw om];rfl
  rw[he];refine bX ?_;unfold lh;have c0:bJ (ae l) (k:Int)=true:=zo (by unfold ae;omega);simp only[c0,aP,af]
def Cn(l:List ND):Bool:=decide (0<l.length)&&decide (jM l 0 1=(l.length:Int))
theorem TQ(b:Bool)(l:List ND)(hl:l.length<=10000):kl (⟨b,l⟩,())=some (Cn l,()):=by rw[XM];have:=qkt b l hl 0;have h0:((0:Nat):Int)=0:=rfl;rw[h0] at this;simp only[this,af,MP];unfold Cn aE ak ae;have e1:decide ((0:Int)<(l.length:Int))=decide (0<l.length):=decide_eq_decide.2 om;rw[e1];rfl
theorem qdm(l:List ND):Cn l=true↔∃k t n ks,l=(tr k t n ks).flat:=by
 unfold Cn jM;rw[zd,decide_eq_true_eq,decide_eq_true_eq,List.drop_zero];constructor
 ·rintro⟨h1,h2⟩;cases hs:skip l.length l 1 with
  |none=>rw[hs] at h2;have h2:(-1:Int)=l.length:=h2;omega
  |some r=>
   rw[hs] at h2;have h2:(l.length:Int)-(r.length:Int)=l.length:=h2;have hr:r=[]:=List.length_eq_zero_iff.1 om;subst hr;obtain⟨f,h3,h4⟩:=qj5 _ _ _ _ hs;cases f with
   |nil=>cases h3
   |cons k t n ks r=>
    cases r with
    |nil=>exact⟨k,t,n,ks,by rw[h4,zu]⟩
    |cons _ _ _ _ _=>have h3:_+1+1=1:=h3;omega
 ·rintro⟨k,t,n,ks,rfl⟩;have hc:=(tr k t n ks).len;refine⟨by rw[hc,Li];omega,?_⟩;have:=TP (tr k t n ks).flat.length (tr k t n ks) 0 [] om;rw[zu,TN] at this;have e:(tr k t n ks).aT+0=1:=rfl;rw[e] at this;rw[this];show((tr k t n ks).flat.length:Int)-((0:Nat):Int)=_;omega
def eC(l:List ND)(k:Nat)(f:F):Prop:=∃post,l.drop k=f.flat++post
theorem eC.node{l:List ND}{k:Nat}{x:Int}{t:List Int}{n:Int}{ks r:F}(h:eC l k (.cons x t n ks r)):l[k]?=some (x,t,n,(ks.aT:Int))/\eC l (k+1) ks/\eC l (k+1+ks.size) r/\k+1+ks.size+r.size<=l.length:=by
 obtain⟨post,h⟩:=h;have h:l.drop k=(x,t,n,(ks.aT:Int))::((ks.flat++r.flat)++post):=h;have h1:l[k]?=some (x,t,n,(ks.aT:Int)):=by rw[<-List.head?_drop,h];rfl
 have h2:l.drop (k+1)=(ks.flat++r.flat)++post:=by rw[<-List.drop_drop,h];rfl
 refine⟨h1,⟨r.flat++post,by rw[h2,zC]⟩,⟨post,?_⟩,?_⟩
 ·rw[<-List.drop_drop,h2,<-ks.len,zC,List.drop_left'];rfl
 ·have:=congrArg List.length h2;rw[zD,zh,zh,ks.len,r.len] at this;have hc:k<l.length:=(zH.1 h1).1;omega
theorem eC.first{l:List ND}{k:Nat}{x:Int}{t:List Int}{n:Int}{ks r:F}(h:eC l k (.cons x t n ks r)):eC l k (tr x t n ks):=by obtain⟨post,h⟩:=h;refine⟨r.flat++post,?_⟩;rw[h,z6q];show _::(ks.flat++r.flat)++post=_;rw[List.cons_append,List.cons_append,zC]
theorem eC.ends{l:List ND}{k:Nat}{x:Int}{t:List Int}{n:Int}{ks r:F}(h:eC l k (.cons x t n ks r)):jM l k 1=((k+1+ks.size:Nat):Int):=by obtain⟨g1,g2,g3,g4⟩:=h.node;obtain⟨post,h⟩:=h.first;unfold jM;have e:(tr x t n ks).aT+0=1:=rfl;have hs:=TP l.length (tr x t n ks) 0 post (by rw[Li];omega);rw[e,TN] at hs;rw[h,hs];show(l.length:Int)-(post.length:Int)=_;have:=congrArg List.length h;rw[zD,zh,(tr x t n ks).len,Li] at this;omega
def F.pos:Nat->F->List Int
 |_,.nil=>[]
 |k,.cons _ _ _ ks r=>(k:Int)::r.pos (k+1+ks.size)
def F.Bq(P:Nat->Int->List Int->Int->F->Prop):Nat->F->Prop
 |_,.nil=>True
 |k,.cons x t n ks r=>P k x t n ks/\r.Bq P (k+1+ks.size)
theorem F.n9{l:List ND}{P:Nat->Int->List Int->Int->F->Prop}(h:∀k x t n ks,eC l k (tr x t n ks)->ks.Bq P (k+1)->P k x t n ks):∀(f:F) (k:Nat),eC l k f->f.Bq P k
 |.nil,_,_=>trivial
 |.cons x t n ks r,k,hs=>⟨h k x t n ks hs.first (F.n9 h ks (k+1) hs.node.2.1),F.n9 h r _ hs.node.2.2.1⟩
theorem F.Br{l:List ND}{P:Nat->Int->List Int->Int->F->Prop}(h:∀k x t n ks,eC l k (tr x t n ks)->ks.Bq P (k+1)->P k x t n ks){k:Nat}{x:Int}{t:List Int}{n:Int}{ks:F}(hs:eC l k (tr x t n ks)):P k x t n ks:=(F.n9 h (tr x t n ks) k hs).1
theorem TR{a b:Nat}(h:a+b<=2000000):fit (aW (a:Int) (b:Int))=some ():=fm (by show(a:Int)+(b:Int)<=_;omega)
theorem TS{α:Type}(b:Bool)(x:α):aD b (ch [x])=false:=by cases b<;>rfl
theorem z1p(a b:Nat):ib (a:Int) (b:Int)=((max a b:Nat):Int):=by unfold ib;split<;>omega
def Co:Nat->List Nat->List Nat
 |c+1,s=>(c+1)::s
 |0,[]=>[]
 |0,c::s=>Co (c-1) s
def toI(s:List Nat):List Int:=s.reverse.map fun(c:Nat)=>(c:Int)
theorem lS(s:List Nat):(toI s).length=s.length:=by unfold toI;rw[zA,List.length_reverse]
theorem F3(c:Nat)(s:List Nat):toI (c::s)=toI s++[(c:Int)]:=by unfold toI;rw[List.reverse_cons,zP];rfl
theorem qgu(c:Nat)(s:List Nat):Co (c+1) s=(c+1)::s:=by cases s<;>rfl
theorem P4(b:Bool)(l:List ND)(dS ln k:Int)(hk:0<=k/\k<=1000000)(nb:Bool):∀(s:List Nat) (c:Nat),(∀x,x∈s->1<=x/\x<=1000000)->c<=1000000->s.length<=1000000->aM j4 (dS,⟨b,l⟩,ln,k,⟨nb,toI (c::s)⟩,())=some (.inl (dS,⟨b,l⟩,ln,k+1,⟨nb,toI (Co c s)⟩,())):=by
 have hj:aA .i64 k 1=k+1:=tH om om;have done:∀(s:List Nat) (c:Nat),c+1<=1000000->s.length<=1000000->aM j4 (dS,⟨b,l⟩,ln,k,⟨nb,toI ((c+1)::s)⟩,())=some (.inl (dS,⟨b,l⟩,ln,k+1,⟨nb,toI ((c+1)::s)⟩,())):=by
  intro s c hc hs;refine bX ?_;have e1:cq .i64 (ae (toI ((c+1)::s))) 1=(s.length:Int):=by unfold ae;rw[lS,zf,qL om om];omega
  have hg:nth (toI ((c+1)::s)) s.length=some ((c+1:Nat):Int):=by rw[F3];unfold nth;rw[zR (by rw[lS];exact Nat.le_refl _),lS,Nat.sub_self];rfl
  have c0:aE 0 (ae (toI ((c+1)::s)))=true:=zo (by unfold ae;rw[lS,zf];omega);have c1:ak ((c+1:Nat):Int) 0=false:=by cases h:ak ((c+1:Nat):Int) 0 with
   |false=>rfl
   |true=>have:=cT.1 h;omega
  unfold j4;simp only[c0,aP,e1,mw (show s.length<(toI ((c+1)::s)).length by rw[lS,zf];omega),af,hg,c1,aH,hj]
 have eM:aM j4 (dS,⟨b,l⟩,ln,k,⟨nb,toI []⟩,())=some (.inl (dS,⟨b,l⟩,ln,k+1,⟨nb,toI []⟩,())):=by refine bX ?_;have c0:aE 0 (ae (toI []))=false:=rfl;unfold j4;simp only[c0,aH,af,hj]
 have step:∀(s:List Nat) (X:List Int),s.length<=1000000->(s=[]/\X=[]\/∃c r,s=c::r/\1<=c/\c<=1000000/\X=toI ((c-1)::r))->
   j4 (dS,⟨b,l⟩,ln,k,⟨nb,toI (0::s)⟩,())=some (.inl (dS,⟨b,l⟩,ln,k,⟨nb,X⟩,())):=by
  intro s X hs hX;have e1:cq .i64 (ae (toI (0::s))) 1=(s.length:Int):=by unfold ae;rw[lS,zf,qL om om];omega
  have hg:nth (toI (0::s)) s.length=some 0:=by rw[F3];unfold nth;rw[zR (by rw[lS];exact Nat.le_refl _),lS,Nat.sub_self];rfl
  have c0:aE 0 (ae (toI (0::s)))=true:=zo (by unfold ae;rw[lS,zf];omega);have c1:ak 0 0=true:=rfl;have he:cF (ae (toI (0::s))) (s.length:Int)=some s.length:=by unfold cF ae;rw[if_pos (by rw[lS,zf];omega),Int.toNat_natCast]
  have hl:aF (toI (0::s)) s.length=toI s:=by unfold aF;rw[F3,List.take_left' (lS s)]
  unfold j4;simp only[c0,aP,e1,mw (show s.length<(toI (0::s)).length by rw[lS,zf];omega),af,hg,c1,he,hl];rcases hX with ⟨rfl,rfl⟩|⟨c,r,rfl,h1,h2,rfl⟩
  ·have c2:aE 0 (ae (toI []))=false:=rfl;simp only[c2,aH,af];rfl
  ·have hs:r.length+1<=1000000:=hs;have c2:aE 0 (ae (toI (c::r)))=true:=zo (by unfold ae;rw[lS,zf];omega);have e2:cq .i64 (ae (toI (c::r))) 1=(r.length:Int):=by unfold ae;rw[lS,zf,qL om om];omega
   have hm:nth (toI (0::c::r)) r.length=some (c:Int):=by rw[F3,F3];unfold nth;rw[zC,zR (by rw[lS];exact Nat.le_refl _),lS,Nat.sub_self];rfl
   have hf:aF (fD (toI (0::c::r)) r.length ((c:Int)-1)) (c::r).length=toI ((c-1)::r):=by unfold aF fD;rw[F3,F3,F3,zC,List.set_append_right _ _ (by rw[lS];exact Nat.le_refl _),lS,Nat.sub_self];show List.take (r.length+1) (toI r++([(c:Int)-1]++[((0:Nat):Int)]))=_;rw[<-zC,List.take_left' (by rw[zh,lS];rfl)];congr 2;omega
   have e3:cq .i64 (c:Int) 1=(c:Int)-1:=qL om om;simp only[c2,aP,e2,mw (show r.length<(toI (c::r)).length by rw[lS,zf];omega),af,hm,e3,hf]
 intro s
 induction s with
 |nil=>
  intro c _ hc _;cases c with
  |zero=>rw[dC (step [] [] dc (.inl ⟨rfl,rfl⟩))];exact eM
  |succ c=>rw[qgu];exact done [] c hc dc
 |cons d s ih=>
  intro c hx hc hs;have hd:=hx d (zj ..);have hs:s.length+1<=1000000:=hs;cases c with
  |zero=>rw[dC (step (d::s) (toI ((d-1)::s)) hs (.inr ⟨d,s,rfl,hd.1,hd.2,rfl⟩))];exact ih (d-1) (fun x h=>hx x (zm _ h)) om om
  |succ c=>rw[qgu];exact done (d::s) c hc hs
theorem z1q(b:Bool)(l:List ND)(hl:l.length<=10000):∀(f:F) (q:Nat) (s:List Nat) (dS:Nat) (nb:Bool),eC l q f->q<=l.length->(∀x,x∈s->1<=x/\x<=1000000)->s.length<=q->dS<=100000->∃Cp,aM gZ ((dS:Int),⟨b,l⟩,(l.length:Int),(q:Int),⟨nb,toI (Co f.aT s)⟩,())=aM gZ (((max dS (if f.aT=0 then 0 else s.length+1+f.dep):Nat):Int),⟨b,l⟩,(l.length:Int),((q+f.size:Nat):Int),⟨Cp,toI (Co 0 s)⟩,()):=by
 intro f
 induction f with
 |nil=>intro q s dS nb _ _ _ _ _;refine⟨nb,?_⟩;show _=aM gZ (((max dS 0:Nat):Int),_,_,((q+0:Nat):Int),_,());rw[Nat.max_zero,Nat.add_zero];rfl
 |cons x t n ks r iO iP=>
  intro q s dS nb hs hq hx hg hm;obtain⟨g1,g2,g3,g4⟩:=hs.node;have hc:=ks.iv;have hj:=r.iv;have hk:=ks.ly;have hn:=r.ly;have e0:Co (F.cons x t n ks r).aT s=(r.aT+1)::s:=qgu r.aT s;rw[e0];have hf:fit (aW (ae (toI ((r.aT+1)::s))) (ae [(ks.aT:Int)]))=some ():=TR (by rw[lS,zf,List.length_singleton];omega);have he:∀y,y∈(r.aT+1)::s->1<=y/\y<=1000000:=by
   intro y hy;rcases zt.1 hy with rfl|hy
   ·omega
   ·exact hx y hy
  have hp:=P4 b l ((max dS (s.length+2):Nat):Int) (l.length:Int) (q:Int) om false ((r.aT+1)::s) ks.aT he om (by rw[zf];omega);have step:gZ ((dS:Int),⟨b,l⟩,(l.length:Int),(q:Int),⟨nb,toI ((r.aT+1)::s)⟩,())=
    some (.inl (((max dS (s.length+2):Nat):Int),⟨b,l⟩,(l.length:Int),((q+1:Nat):Int),⟨false,toI (Co ks.aT ((r.aT+1)::s))⟩,())):=by
   unfold gZ;simp only;rw[cd,if_pos om,bR g1,af];simp only[hf,af,TS];have e1:ib (dS:Int) (aA .i64 (ae (toI ((r.aT+1)::s))) 1)=((max dS (s.length+2):Nat):Int):=by unfold ae;rw[lS,zf,aO om,z1p]
   have e2:app (toI ((r.aT+1)::s)) [(ks.aT:Int)]=toI (ks.aT::(r.aT+1)::s):=(F3 _ _).symm;rw[e1,e2,hp];rfl
  rw[dC step];obtain⟨nb1,h1⟩:=iO (q+1) ((r.aT+1)::s) (max dS (s.length+2)) false g2 om he (by rw[zf];omega) om;rw[h1];have e3:Co 0 ((r.aT+1)::s)=Co r.aT s:=rfl;rw[e3];have hd:max (max dS (s.length+2)) (if ks.aT=0 then 0 else((r.aT+1)::s).length+1+ks.dep)=max dS (s.length+1+(ks.dep+1)):=by
   rw[zf];by_cases h0:ks.aT=0
   ·rw[if_pos h0];have:ks.dep=0:=by
     cases ks with
     |nil=>rfl
     |cons _ _ _ _ r=>exact absurd h0 (Nat.succ_ne_zero _)
    omega
   ·rw[if_neg h0];omega
  rw[hd];obtain⟨nb2,h2⟩:=iP (q+1+ks.size) s (max dS (s.length+1+(ks.dep+1))) nb1 g3 om hx om om;refine⟨nb2,?_⟩;rw[h2];have e4:q+1+ks.size+r.size=q+(F.cons x t n ks r).size:=by show _=q+(ks.size+r.size+1);omega
  rw[e4];have e5:max (max dS (s.length+1+(ks.dep+1))) (if r.aT=0 then 0 else s.length+1+r.dep)=max dS (if(F.cons x t n ks r).aT=0 then 0 else s.length+1+(F.cons x t n ks r).dep):=by
   have h9:(F.cons x t n ks r).aT≠0:=Nat.succ_ne_zero _;rw[if_neg h9];show _=max dS (s.length+1+max (ks.dep+1) r.dep);by_cases h0:r.aT=0
   ·rw[if_pos h0];have:r.dep=0:=by
     cases r with
     |nil=>rfl
     |cons _ _ _ _ r=>exact absurd h0 (Nat.succ_ne_zero _)
    omega
   ·rw[if_neg h0];omega
  rw[e5]
theorem qnd(x:Int)(t:List Int)(n:Int)(ks:F):eC (tr x t n ks).flat 0 (tr x t n ks):=⟨[],by rw[zu];rfl⟩
theorem qxr(b:Bool)(x:Int)(t:List Int)(n:Int)(ks:F)(hl:ks.size+1<=10000):rU (⟨b,(tr x t n ks).flat⟩,())=some (((ks.dep+1:Nat):Int),()):=by
 have hd:(tr x t n ks).flat.length=ks.size+1:=(tr x t n ks).len;have hs:=qnd x t n ks;obtain⟨g1,g2,g3,g4⟩:=hs.node;have he:=ks.ly;have hc:=ks.iv;rw[XN,TQ b _ om,(qdm _).2 ⟨x,t,n,ks,rfl⟩];have hn:ai true=false:=rfl;simp only[af,hn,aH];generalize hL:(tr x t n ks).flat=L at*
 have hf:fit (aW (ae ([]:List Int)) (ae [(ks.aT:Int)]))=some ():=TR (by show 0+1<=_;omega);have hp:=P4 b L ((1:Nat):Int) (L.length:Int) ((0:Nat):Int) om false [] ks.aT (fun _ h=>by cases h) om dc;have step:gZ (((0:Nat):Int),⟨b,L⟩,(L.length:Int),((0:Nat):Int),⟨true,[]⟩,())=
   some (.inl (((1:Nat):Int),⟨b,L⟩,(L.length:Int),((0+1:Nat):Int),⟨false,toI (Co ks.aT [])⟩,())):=by
  unfold gZ;simp only;rw[cd,if_pos om,bR g1,af];simp only[hf,af,TS];have e1:ib ((0:Nat):Int) (aA .i64 (ae ([]:List Int)) 1)=((1:Nat):Int):=rfl;have e2:app ([]:List Int) [(ks.aT:Int)]=toI (ks.aT::[]):=rfl;rw[e1,e2,hp];rfl
 obtain⟨nb1,h1⟩:=z1q b L om ks 1 [] 1 false g2 om (fun _ h=>by cases h) dc dc;have P5:aM gZ (0,⟨b,L⟩,ae L,0,⟨true,[]⟩,())=_:=dC step;rw[P5,h1];have e6:max 1 (if ks.aT=0 then 0 else([]:List Nat).length+1+ks.dep)=ks.dep+1:=by
  by_cases h0:ks.aT=0
  ·rw[if_pos h0];have:ks.dep=0:=by
    cases ks with
    |nil=>rfl
    |cons _ _ _ _ r=>exact absurd h0 (Nat.succ_ne_zero _)
   omega
  ·rw[if_neg h0,List.length_nil];omega
 rw[e6];refine bX ?_;unfold gZ;simp only;rw[cd,if_neg om]
def Cq(n:Int):Bool:=decide (-4611686018427387904<=n/\n<=4611686018427387903)
def lA(n:Int):Prop:=-9223372036854775808<=n/\n<=9223372036854775807
theorem qea(n:Int):IntKind.i64.wrap n=if n % 18446744073709551616<9223372036854775808 then n % 18446744073709551616 else n % 18446744073709551616-18446744073709551616:=by
 unfold IntKind.wrap;show(if(true&&decide (n % 18446744073709551616>=9223372036854775808))=true then _ else _)=_;rw[Bool.true_and];by_cases h:n % 18446744073709551616<9223372036854775808
 ·rw[if_pos h,if_neg (by simp;omega)];rfl
 ·rw[if_neg h,if_pos (by simp;omega)];rfl
theorem qeb(n:Int):IntKind.u64.wrap n=n % 18446744073709551616:=by unfold IntKind.wrap;show(if(false&&_)=true then _ else _)=_;rw[Bool.false_and,if_neg dc];rfl
theorem qtz(n:Int)(h:lA n):∃v,ml (n,())=some (v,())/\ak v n=Cq n:=by
 obtain⟨h1,h2⟩:=h;rw[Pd];have e1:fZ .u64 (dU .u64 n) 1=some (IntKind.u64.wrap (dU .u64 n*2)):=by unfold fZ;rw[if_neg dc];rfl
 simp only[e1,af];have e2:=qrk (a:=dU .i64 (IntKind.u64.wrap (dU .u64 n*2))) 1 dc;have e3:((1:Nat):Int)=1:=rfl;rw[e3] at e2;rw[e2];refine⟨_,rfl,?_⟩;unfold dU;rw[qea,qeb,qeb];rw[Bool.eq_iff_iff,cT];unfold Cq;rw[decide_eq_true_eq];show(ite _ _ _) / 2=n↔_;split<;>omega
def oK(k:Int):Int:=bif ak k 1||ak k 6||ak k 9||ak k 10||ak k 11||ak k 21||ak k 23 then 0 else bif ak k 3||ak k 5||ak k 7||ak k 8||ak k 12||ak k 22 then 1 else bif ak k 4||ak k 24 then 2 else bif ak k 2 then 3 else -1
def mA(k c:Int):Bool:=bif ak k 5||ak k 11 then ak c 1 else bif ak k 6||ak k 7||ak k 8||ak k 12 then ak c 2 else bif ak k 9 then ak c 3 else bif ak k 10 then bJ 3 c&&ak (c % 2) 1 else bif ak k 24 then true else ak c 0
def jt(k:Int):Bool:=bJ 21 k&&bJ k 24
def nj(k:Int)(t:List Int)(hk:Int):Int:=bif ak k 8&&ai (ak hk 5) then 61 else bif ak (oK k) 1&&ai (bK t) then 62 else bif ak (oK k) 2&&ai (lx t) then 62 else 0
def mD(k:Int)(t:List Int)(hk:Int):Int:=bif ak (oK k) 0 then(bif bx t [] then nj k t hk else 61) else bif ak (oK k) 3 then(bif aE 200 (ae t) then 61 else nj k t hk) else nj k t hk
def eV(k:Int)(t:List Int)(n c hk:Int)(pat:Bool):Int:=
 bif aE (oK k) 0 then 61 else bif ai (eU (jt k) pat) then 61 else bif ai (mA k c) then 61 else
 bif ak k 1||ak k 23 then(bif Cq n then mD k t hk else 61) else(bif ak n 0 then mD k t hk else 61)
def qxs:List Int:=[1,2,3,4,5,6,7,8,9,10,11,12,21,22,23,24]
theorem qu0{P:Int->Prop}(h1:P 1)(h2:P 2)(h3:P 3)(h4:P 4)(h5:P 5)(h6:P 6)(h7:P 7)(h8:P 8)(h9:P 9)(hd:P 10)(he:P 11)(hf:P 12)(hg:P 21)(hj:P 22)(hk:P 23)(hl:P 24)(ho:∀a,(∀c,c∈qxs->ak a c=false)->P a):∀a,P a:=by
 intro a;by_cases e1:a=1
 ·rw[e1];exact h1
 by_cases e2:a=2
 ·rw[e2];exact h2
 by_cases e3:a=3
 ·rw[e3];exact h3
 by_cases e4:a=4
 ·rw[e4];exact h4
 by_cases e5:a=5
 ·rw[e5];exact h5
 by_cases e6:a=6
 ·rw[e6];exact h6
 by_cases e7:a=7
 ·rw[e7];exact h7
 by_cases e8:a=8
 ·rw[e8];exact h8
 by_cases e9:a=9
 ·rw[e9];exact h9
 by_cases P6:a=10
 ·rw[P6];exact hd
 by_cases P7:a=11
 ·rw[P7];exact he
 by_cases P8:a=12
 ·rw[P8];exact hf
 by_cases vO:a=21
 ·rw[vO];exact hg
 by_cases tY:a=22
 ·rw[tY];exact hj
 by_cases e23:a=23
 ·rw[e23];exact hk
 by_cases e24:a=24
 ·rw[e24];exact hl
 refine ho a fun c hc=>eP ?_;rintro rfl;simp only[qxs,zt,List.not_mem_nil,or_false] at hc;omega
theorem oL(a:Int):nL (a,())=some (jt a,()):=by rw[XO,MP];rfl
def F.head:F->Int
 |.nil=>0
 |.cons k _ _ _ _=>k
theorem behind{l:List ND}{k:Nat}{ks:F}{kd:Int}(hk:k<=1000000)(hs:eC l (k+1) ks)(hn:kd=8->ks.aT≠0):(aq (ak kd 8) (ag (bA l (aA .i64 (k:Int) 1)) fun x=>some (ai (ak x.1 5))) (some false):Option Bool)=some (ak kd 8&&ai (ak ks.head 5)):=by
 cases h:ak kd 8 with
 |false=>rfl
 |true=>
  have h8:=cT.1 h;cases ks with
  |nil=>exact absurd rfl (hn h8)
  |cons x t n ks r=>rw[aP,aO om,bR hs.node.1];rfl
theorem qR(a c:Int):rW (a,c,())=some (ak a c,()):=XS a c
theorem cH(a:Int):uZ (a,())=some (true,()):=XR a
theorem z96(a:Int)(h:0<=a):rV (a,())=some (bJ 3 a&&ak (a % 2) 1,()):=by rw[XQ,qrl h dc];cases bJ 3 a<;>rfl
theorem z97:eT (1,())=some (true,false,2,0,0,0,true,()):=by kernel_rfl
theorem z98:eT (2,())=some (false,true,2,0,0,0,true,()):=by kernel_rfl
theorem z99:eT (3,())=some (false,false,0,0,0,0,true,()):=by kernel_rfl
theorem z9a:eT (4,())=some (false,false,1,0,0,0,true,()):=by kernel_rfl
theorem z9b:eT (5,())=some (false,false,0,0,0,1,true,()):=by kernel_rfl
theorem z9c:eT (6,())=some (false,false,2,0,0,2,true,()):=by kernel_rfl
theorem z9d:eT (7,())=some (false,false,0,0,0,2,true,()):=by kernel_rfl
theorem z9e:eT (8,())=some (false,false,0,0,0,2,true,()):=by kernel_rfl
theorem z9f:eT (9,())=some (false,false,2,0,0,3,true,()):=by kernel_rfl
theorem z6r:eT (10,())=some (false,false,2,0,1,0,true,()):=by kernel_rfl
theorem z6s:eT (11,())=some (false,false,2,0,0,1,true,()):=by kernel_rfl
theorem z6t:eT (12,())=some (false,false,0,0,0,2,true,()):=by kernel_rfl
theorem z6u:eT (21,())=some (false,false,2,0,0,0,true,()):=by kernel_rfl
theorem z6v:eT (22,())=some (false,false,0,0,0,0,true,()):=by kernel_rfl
theorem z6w:eT (23,())=some (true,false,2,0,0,0,true,()):=by kernel_rfl
theorem z6x:eT (24,())=some (false,false,1,0,2,0,true,()):=by kernel_rfl
theorem qu1(a:Int)(h:∀c,c∈qxs->ak a c=false):eT (a,())=some (false,false,2,0,3,0,false,()):=by have i1:ak a 1=false:=h 1 dc;have i2:ak a 2=false:=h 2 dc;have i3:ak a 3=false:=h 3 dc;have i4:ak a 4=false:=h 4 dc;have i5:ak a 5=false:=h 5 dc;have i6:ak a 6=false:=h 6 dc;have i7:ak a 7=false:=h 7 dc;have i8:ak a 8=false:=h 8 dc;have i9:ak a 9=false:=h 9 dc;have i10:ak a 10=false:=h 10 dc;have i11:ak a 11=false:=h 11 dc;have i12:ak a 12=false:=h 12 dc;have i21:ak a 21=false:=h 21 dc;have i22:ak a 22=false:=h 22 dc;have i23:ak a 23=false:=h 23 dc;have i24:ak a 24=false:=h 24 dc;rw[XP];simp only[i1,i2,i3,i4,i5,i6,i7,i8,i9,i10,i11,i12,i21,i22,i23,i24,aH,af]
theorem oa:ak 0 0=true:=id (Eq.refl true)
theorem tZ:ak 0 1=false:=id (Eq.refl false)
theorem ua:ak 0 2=false:=id (Eq.refl false)
theorem P6:ak 1 0=false:=id (Eq.refl false)
theorem P7:ak 1 1=true:=id (Eq.refl true)
theorem P8:ak 1 2=false:=id (Eq.refl false)
theorem Bs:ak 2 0=false:=id (Eq.refl false)
theorem vO:ak 2 1=false:=id (Eq.refl false)
theorem tY:ak 2 2=true:=id (Eq.refl true)
theorem nT:ai true=false:=id (Eq.refl false)
theorem nF:ai false=true:=id (Eq.refl true)
theorem qxt(b:Bool)(l:List ND)(hl:l.length<=10000){k:Nat}{t:List Int}{n:Int}{ks:F}(pat:Bool)(ht:∀b,b∈t->0<=b/\b<=255)(hr:lA n):∀kd:Int,eC l k (tr kd t n ks)->rY (⟨b,l⟩,(k:Int),pat,())=some (eV kd t n (ks.aT:Int) ks.head pat,()):=by
 obtain⟨v,w1,w2⟩:=qtz n hr;have hc:=qnc ht;have hd:=qry ht;have he:=z96 (ks.aT:Int) (Int.natCast_nonneg _);refine qu0 ?k1 ?k2 ?k3 ?k4 ?k5 ?k6 ?k7 ?k8 ?k9 ?k10 ?k11 ?k12 ?k21 ?k22 ?k23 ?k24 (fun a h hs=>?_)
 case k1=>
  intro h;obtain⟨g1,g2,g3,g4⟩:=h.node;rw[gy,bR g1,af,z97,af];have e8:ak 1 8=false:=rfl;have ep:jt 1=false:=rfl;simp only[oL,ep,nT,nF,aP,aH,af,oa,tZ,ua,Bs,vO,tY,qR,cH,he,w1,w2,hc,hd,e8];have hE:eV 1 t n (ks.aT:Int) ks.head pat=bif ai (eU false pat) then 61 else bif ai (ak (ks.aT:Int) 0) then 61 else bif Cq n then(bif bx t [] then 0 else 61) else 61:=by have kk:mA 1 (ks.aT:Int)=ak (ks.aT:Int) 0:=rfl;unfold eV mD nj;rw[kk];cases pat<;>cases ak (ks.aT:Int) 0<;>cases Cq n<;>cases bx t []<;>rfl
  rw[hE];cases pat<;>cases a1:ak (ks.aT:Int) 0<;>cases a2:Cq n<;>cases a3:bx t []<;>simp only[nT,nF,aP,aH,af,Bs,vO,tY,hc,hd,eU,e8,BEq.rfl,Bool.false_beq,Bool.not_true,cond_true,cond_false,a3]<;>rfl
 case k2=>
  intro h;obtain⟨g1,g2,g3,g4⟩:=h.node;rw[gy,bR g1,af,z98,af];have e8:ak 2 8=false:=rfl;have ep:jt 2=false:=rfl;simp only[oL,ep,nT,nF,aP,aH,af,oa,tZ,ua,tY,qR,cH,he,w1,w2];have hE:eV 2 t n (ks.aT:Int) ks.head pat=bif ai (eU false pat) then 61 else bif ai (ak (ks.aT:Int) 0) then 61 else bif ak n 0 then(bif aE 200 (ae t) then 61 else 0) else 61:=by have kk:mA 2 (ks.aT:Int)=ak (ks.aT:Int) 0:=rfl;unfold eV mD nj;rw[kk];cases pat<;>cases ak (ks.aT:Int) 0<;>cases ak n 0<;>cases aE 200 (ae t)<;>rfl
  rw[hE];cases pat<;>cases a1:ak (ks.aT:Int) 0<;>cases a2:ak n 0<;>cases a3:aE 200 (ae t)<;>simp only[nT,nF,aP,aH,af,Bs,vO,tY,hc,hd,eU,e8,BEq.rfl,Bool.false_beq,Bool.not_true,cond_true,cond_false]<;>rfl
 case k3=>
  intro h;obtain⟨g1,g2,g3,g4⟩:=h.node;rw[gy,bR g1,af,z99,af];have e8:ak 3 8=false:=rfl;have ep:jt 3=false:=rfl;simp only[oL,ep,nT,nF,aP,aH,af,oa,tZ,ua,qR,cH,he,w1,w2,hc,hd,e8];have hE:eV 3 t n (ks.aT:Int) ks.head pat=bif ai (eU false pat) then 61 else bif ai (ak (ks.aT:Int) 0) then 61 else bif ak n 0 then(bif bK t then 0 else 62) else 61:=by have kk:mA 3 (ks.aT:Int)=ak (ks.aT:Int) 0:=rfl;unfold eV mD nj;rw[kk];cases pat<;>cases ak (ks.aT:Int) 0<;>cases ak n 0<;>cases bK t<;>rfl
  rw[hE];cases pat<;>cases a1:ak (ks.aT:Int) 0<;>cases a2:ak n 0<;>cases a3:bK t<;>simp only[nT,nF,aP,aH,af,eU,BEq.rfl,Bool.false_beq,Bool.not_true,cond_true,cond_false]<;>rfl
 case k4=>
  intro h;obtain⟨g1,g2,g3,g4⟩:=h.node;rw[gy,bR g1,af,z9a,af];have e8:ak 4 8=false:=rfl;have ep:jt 4=false:=rfl;simp only[oL,ep,nT,nF,aP,aH,af,oa,tZ,ua,P6,P7,P8,qR,cH,he,w1,w2,hc,hd,e8];have hE:eV 4 t n (ks.aT:Int) ks.head pat=bif ai (eU false pat) then 61 else bif ai (ak (ks.aT:Int) 0) then 61 else bif ak n 0 then(bif lx t then 0 else 62) else 61:=by have kk:mA 4 (ks.aT:Int)=ak (ks.aT:Int) 0:=rfl;unfold eV mD nj;rw[kk];cases pat<;>cases ak (ks.aT:Int) 0<;>cases ak n 0<;>cases lx t<;>rfl
  rw[hE];cases pat<;>cases a1:ak (ks.aT:Int) 0<;>cases a2:ak n 0<;>cases a3:lx t<;>simp only[nT,nF,aP,aH,af,eU,BEq.rfl,Bool.false_beq,Bool.not_true,cond_true,cond_false]<;>rfl
 case k5=>
  intro h;obtain⟨g1,g2,g3,g4⟩:=h.node;rw[gy,bR g1,af,z9b,af];have e8:ak 5 8=false:=rfl;have ep:jt 5=false:=rfl;simp only[oL,ep,nT,nF,aP,aH,af,oa,tZ,ua,qR,cH,he,w1,w2,hc,hd,e8];have hE:eV 5 t n (ks.aT:Int) ks.head pat=bif ai (eU false pat) then 61 else bif ai (ak (ks.aT:Int) 1) then 61 else bif ak n 0 then(bif bK t then 0 else 62) else 61:=by have kk:mA 5 (ks.aT:Int)=ak (ks.aT:Int) 1:=rfl;unfold eV mD nj;rw[kk];cases pat<;>cases ak (ks.aT:Int) 1<;>cases ak n 0<;>cases bK t<;>rfl
  rw[hE];cases pat<;>cases a1:ak (ks.aT:Int) 1<;>cases a2:ak n 0<;>cases a3:bK t<;>simp only[nT,nF,aP,aH,af,eU,BEq.rfl,Bool.false_beq,Bool.not_true,cond_true,cond_false]<;>rfl
 case k6=>
  intro h;obtain⟨g1,g2,g3,g4⟩:=h.node;rw[gy,bR g1,af,z9c,af];have e8:ak 6 8=false:=rfl;have ep:jt 6=false:=rfl;simp only[oL,ep,nT,nF,aP,aH,af,oa,tZ,ua,Bs,vO,tY,qR,cH,he,w1,w2,hc,hd,e8];have hE:eV 6 t n (ks.aT:Int) ks.head pat=bif ai (eU false pat) then 61 else bif ai (ak (ks.aT:Int) 2) then 61 else bif ak n 0 then(bif bx t [] then 0 else 61) else 61:=by have kk:mA 6 (ks.aT:Int)=ak (ks.aT:Int) 2:=rfl;unfold eV mD nj;rw[kk];cases pat<;>cases ak (ks.aT:Int) 2<;>cases ak n 0<;>cases bx t []<;>rfl
  rw[hE];cases pat<;>cases a1:ak (ks.aT:Int) 2<;>cases a2:ak n 0<;>cases a3:bx t []<;>simp only[nT,nF,aP,aH,af,eU,BEq.rfl,Bool.false_beq,Bool.not_true,cond_true,cond_false]<;>rfl
 case k7=>
  intro h;obtain⟨g1,g2,g3,g4⟩:=h.node;rw[gy,bR g1,af,z9d,af];have e8:ak 7 8=false:=rfl;have ep:jt 7=false:=rfl;simp only[oL,ep,nT,nF,aP,aH,af,oa,tZ,ua,qR,cH,he,w1,w2,hc,hd,e8];have hE:eV 7 t n (ks.aT:Int) ks.head pat=bif ai (eU false pat) then 61 else bif ai (ak (ks.aT:Int) 2) then 61 else bif ak n 0 then(bif bK t then 0 else 62) else 61:=by have kk:mA 7 (ks.aT:Int)=ak (ks.aT:Int) 2:=rfl;unfold eV mD nj;rw[kk];cases pat<;>cases ak (ks.aT:Int) 2<;>cases ak n 0<;>cases bK t<;>rfl
  rw[hE];cases pat<;>cases a1:ak (ks.aT:Int) 2<;>cases a2:ak n 0<;>cases a3:bK t<;>simp only[nT,nF,aP,aH,af,eU,BEq.rfl,Bool.false_beq,Bool.not_true,cond_true,cond_false]<;>rfl
 case k8=>
  intro h;obtain⟨g1,g2,g3,g4⟩:=h.node;rw[gy,bR g1,af,z9e,af];have e8:ak 8 8=true:=rfl;have ep:jt 8=false:=rfl;simp only[oL,ep,nT,nF,aP,aH,af,oa,tZ,ua,qR,cH,he,w1,w2,hc,hd];have hE:eV 8 t n (ks.aT:Int) ks.head pat=bif ai (eU false pat) then 61 else bif ai (ak (ks.aT:Int) 2) then 61 else bif ak n 0 then(bif ak ks.head 5 then(bif bK t then 0 else 62) else 61) else 61:=by have kk:mA 8 (ks.aT:Int)=ak (ks.aT:Int) 2:=rfl;unfold eV mD nj;rw[kk];cases pat<;>cases ak (ks.aT:Int) 2<;>cases ak n 0<;>cases bK t<;>cases ak ks.head 5<;>rfl
  rw[hE];cases h2:ak (ks.aT:Int) 2 with
  |false=>cases pat<;>rfl
  |true=>have hb:=behind (kd:=8) (l:=l) (k:=k) (ks:=ks) om g2 (fun _ h0=>by have:=cT.1 h2;omega);rw[show ak 8 8=true from rfl,aP] at hb;have hf:ag (bA l (aA .i64 (k:Int) 1)) (fun x=>some (ai (ak x.1 5)))=some (ai (ak ks.head 5)):=hb;cases pat<;>cases a1:ak n 0<;>cases a2:ak ks.head 5<;>cases a3:bK t<;>simp only[nT,nF,aP,aH,af,e8,hf,eU,Bool.false_beq,beq_self_eq_true,Bool.not_true,a2]<;>rfl
 case k9=>
  intro h;obtain⟨g1,g2,g3,g4⟩:=h.node;rw[gy,bR g1,af,z9f,af];have e8:ak 9 8=false:=rfl;have ep:jt 9=false:=rfl;simp only[oL,ep,nT,nF,aP,aH,af,oa,tZ,ua,Bs,vO,tY,qR,cH,he,w1,w2,hc,hd,e8];have hE:eV 9 t n (ks.aT:Int) ks.head pat=bif ai (eU false pat) then 61 else bif ai (ak (ks.aT:Int) 3) then 61 else bif ak n 0 then(bif bx t [] then 0 else 61) else 61:=by have kk:mA 9 (ks.aT:Int)=ak (ks.aT:Int) 3:=rfl;unfold eV mD nj;rw[kk];cases pat<;>cases ak (ks.aT:Int) 3<;>cases ak n 0<;>cases bx t []<;>rfl
  rw[hE];cases pat<;>cases a1:ak (ks.aT:Int) 3<;>cases a2:ak n 0<;>cases a3:bx t []<;>simp only[nT,nF,aP,aH,af,eU,BEq.rfl,Bool.false_beq,Bool.not_true,cond_true,cond_false]<;>rfl
 case k10=>
  intro h;obtain⟨g1,g2,g3,g4⟩:=h.node;rw[gy,bR g1,af,z6r,af];have e8:ak 10 8=false:=rfl;have ep:jt 10=false:=rfl;simp only[oL,ep,nT,nF,aP,aH,af,P6,P7,P8,Bs,vO,tY,qR,cH,he,w1,w2,hc,hd,e8];have hE:eV 10 t n (ks.aT:Int) ks.head pat=bif ai (eU false pat) then 61 else bif ai ((bJ 3 (ks.aT:Int)&&ak ((ks.aT:Int) % 2) 1)) then 61 else bif ak n 0 then(bif bx t [] then 0 else 61) else 61:=by have kk:mA 10 (ks.aT:Int)=(bJ 3 (ks.aT:Int)&&ak ((ks.aT:Int) % 2) 1):=rfl;unfold eV mD nj;rw[kk];cases pat<;>cases bJ 3 (ks.aT:Int)<;>cases ak ((ks.aT:Int) % 2) 1<;>cases ak n 0<;>cases bx t []<;>rfl
  rw[hE];cases pat<;>cases a1:bJ 3 (ks.aT:Int)<;>cases a2:ak ((ks.aT:Int) % 2) 1<;>cases a3:ak n 0<;>cases a4:bx t []<;>simp only[nT,nF,aP,aH,af,eU,BEq.rfl,Bool.false_beq,Bool.not_true,Bool.true_and,Bool.false_and,cond_true,cond_false]<;>rfl
 case k11=>
  intro h;obtain⟨g1,g2,g3,g4⟩:=h.node;rw[gy,bR g1,af,z6s,af];have e8:ak 11 8=false:=rfl;have ep:jt 11=false:=rfl;simp only[oL,ep,nT,nF,aP,aH,af,oa,tZ,ua,Bs,vO,tY,qR,cH,he,w1,w2,hc,hd,e8];have hE:eV 11 t n (ks.aT:Int) ks.head pat=bif ai (eU false pat) then 61 else bif ai (ak (ks.aT:Int) 1) then 61 else bif ak n 0 then(bif bx t [] then 0 else 61) else 61:=by have kk:mA 11 (ks.aT:Int)=ak (ks.aT:Int) 1:=rfl;unfold eV mD nj;rw[kk];cases pat<;>cases ak (ks.aT:Int) 1<;>cases ak n 0<;>cases bx t []<;>rfl
  rw[hE];cases pat<;>cases a1:ak (ks.aT:Int) 1<;>cases a2:ak n 0<;>cases a3:bx t []<;>simp only[nT,nF,aP,aH,af,eU,BEq.rfl,Bool.false_beq,Bool.not_true,cond_true,cond_false]<;>rfl
 case k12=>
  intro h;obtain⟨g1,g2,g3,g4⟩:=h.node;rw[gy,bR g1,af,z6t,af];have e8:ak 12 8=false:=rfl;have ep:jt 12=false:=rfl;simp only[oL,ep,nT,nF,aP,aH,af,oa,tZ,ua,qR,cH,he,w1,w2,hc,hd,e8];have hE:eV 12 t n (ks.aT:Int) ks.head pat=bif ai (eU false pat) then 61 else bif ai (ak (ks.aT:Int) 2) then 61 else bif ak n 0 then(bif bK t then 0 else 62) else 61:=by have kk:mA 12 (ks.aT:Int)=ak (ks.aT:Int) 2:=rfl;unfold eV mD nj;rw[kk];cases pat<;>cases ak (ks.aT:Int) 2<;>cases ak n 0<;>cases bK t<;>rfl
  rw[hE];cases pat<;>cases a1:ak (ks.aT:Int) 2<;>cases a2:ak n 0<;>cases a3:bK t<;>simp only[nT,nF,aP,aH,af,eU,BEq.rfl,Bool.false_beq,Bool.not_true,cond_true,cond_false]<;>rfl
 case k21=>
  intro h;obtain⟨g1,g2,g3,g4⟩:=h.node;rw[gy,bR g1,af,z6u,af];have e8:ak 21 8=false:=rfl;have ep:jt 21=true:=rfl;simp only[oL,ep,nT,nF,aP,aH,af,oa,tZ,ua,Bs,vO,tY,qR,cH,he,w1,w2,hc,hd,e8];have hE:eV 21 t n (ks.aT:Int) ks.head pat=bif ai (eU true pat) then 61 else bif ai (ak (ks.aT:Int) 0) then 61 else bif ak n 0 then(bif bx t [] then 0 else 61) else 61:=by have kk:mA 21 (ks.aT:Int)=ak (ks.aT:Int) 0:=rfl;unfold eV mD nj;rw[kk];cases pat<;>cases ak (ks.aT:Int) 0<;>cases ak n 0<;>cases bx t []<;>rfl
  rw[hE];cases pat<;>cases a1:ak (ks.aT:Int) 0<;>cases a2:ak n 0<;>cases a3:bx t []<;>simp only[nT,nF,aP,aH,af,eU,BEq.rfl,cond_true,cond_false]<;>rfl
 case k22=>
  intro h;obtain⟨g1,g2,g3,g4⟩:=h.node;rw[gy,bR g1,af,z6v,af];have e8:ak 22 8=false:=rfl;have ep:jt 22=true:=rfl;simp only[oL,ep,nT,nF,aP,aH,af,oa,tZ,ua,qR,cH,he,w1,w2,hc,hd,e8];have hE:eV 22 t n (ks.aT:Int) ks.head pat=bif ai (eU true pat) then 61 else bif ai (ak (ks.aT:Int) 0) then 61 else bif ak n 0 then(bif bK t then 0 else 62) else 61:=by have kk:mA 22 (ks.aT:Int)=ak (ks.aT:Int) 0:=rfl;unfold eV mD nj;rw[kk];cases pat<;>cases ak (ks.aT:Int) 0<;>cases ak n 0<;>cases bK t<;>rfl
  rw[hE];cases pat<;>cases a1:ak (ks.aT:Int) 0<;>cases a2:ak n 0<;>cases a3:bK t<;>simp only[nT,nF,aP,aH,af,eU,BEq.rfl,cond_true,cond_false]<;>rfl
 case k23=>
  intro h;obtain⟨g1,g2,g3,g4⟩:=h.node;rw[gy,bR g1,af,z6w,af];have e8:ak 23 8=false:=rfl;have ep:jt 23=true:=rfl;simp only[oL,ep,nT,nF,aP,aH,af,oa,tZ,ua,Bs,vO,tY,qR,cH,he,w1,w2,hc,hd,e8];have hE:eV 23 t n (ks.aT:Int) ks.head pat=bif ai (eU true pat) then 61 else bif ai (ak (ks.aT:Int) 0) then 61 else bif Cq n then(bif bx t [] then 0 else 61) else 61:=by have kk:mA 23 (ks.aT:Int)=ak (ks.aT:Int) 0:=rfl;unfold eV mD nj;rw[kk];cases pat<;>cases ak (ks.aT:Int) 0<;>cases Cq n<;>cases bx t []<;>rfl
  rw[hE];cases pat<;>cases a1:ak (ks.aT:Int) 0<;>cases a2:Cq n<;>cases a3:bx t []<;>simp only[nT,nF,aP,aH,af,Bs,vO,tY,hc,hd,eU,e8,BEq.rfl,cond_true,cond_false,a3]<;>rfl
 case k24=>
  intro h;obtain⟨g1,g2,g3,g4⟩:=h.node;rw[gy,bR g1,af,z6x,af];have e8:ak 24 8=false:=rfl;have ep:jt 24=true:=rfl;simp only[oL,ep,nT,nF,aP,aH,af,P6,P7,P8,Bs,vO,tY,qR,cH,he,w1,w2,hc,hd,e8];have hE:eV 24 t n (ks.aT:Int) ks.head pat=bif ai (eU true pat) then 61 else bif ai (true) then 61 else bif ak n 0 then(bif lx t then 0 else 62) else 61:=by have kk:mA 24 (ks.aT:Int)=true:=rfl;unfold eV mD nj;rw[kk];cases pat<;>cases ak n 0<;>cases lx t<;>rfl
  rw[hE];cases pat<;>cases a1:ak n 0<;>cases a2:lx t<;>simp only[nT,nF,aP,aH,af,eU,BEq.rfl,cond_true,cond_false]<;>rfl
 obtain⟨g1,g2,g3,g4⟩:=hs.node;rw[gy,bR g1,af,qu1 a h,af];have hE:eV a t n (ks.aT:Int) ks.head pat=61:=by
  have hs:oK a=-1:=by unfold oK;rw[h 1 dc,h 6 dc,h 9 dc,h 10 dc,h 11 dc,h 21 dc,h 23 dc,h 3 dc,h 5 dc,h 7 dc,h 8 dc,h 12 dc,h 22 dc,h 4 dc,h 24 dc,h 2 dc];rfl
  unfold eV;rw[hs];rfl
 rw[hE];rfl
def F4(x:ND):Prop:=(∀b,b∈x.2.1->0<=b/\b<=255)/\x.2.1.length<=1000000/\lA x.2.2.1
def GL(l:List ND):Prop:=∀x,x∈l->F4 x
theorem GL.at{l:List ND}(h:GL l){k:Nat}{x:ND}(e:l[k]?=some x):F4 x:=h x (zG e)
def iw:Bool->Bool->Bool->F->Int
 |_,_,_,.nil=>0
 |m,pat,kq,.cons kd t n ks r=>
  bif ai (ak (eV kd t n (ks.aT:Int) ks.head (pat||(m&&kq))) 0) then eV kd t n (ks.aT:Int) ks.head (pat||(m&&kq)) else
  bif ai (ak (iw (ak kd 10) (pat||(m&&kq)) false ks) 0) then iw (ak kd 10) (pat||(m&&kq)) false ks else iw m pat (!kq) r
def gP(kd:Int)(t:List Int)(n:Int)(ks:F)(pat:Bool):Int:=bif ai (ak (eV kd t n (ks.aT:Int) ks.head pat) 0) then eV kd t n (ks.aT:Int) ks.head pat else iw (ak kd 10) pat false ks
theorem z1r(m pat kq:Bool):iw m pat kq .nil=0:=id (Eq.refl _)
theorem qne(m pat kq:Bool)(kd:Int)(t:List Int)(n:Int)(ks r:F):iw m pat kq (.cons kd t n ks r)=bif ai (ak (gP kd t n ks (pat||(m&&kq))) 0) then gP kd t n ks (pat||(m&&kq)) else iw m pat (!kq) r:=by
 conv=>lhs;unfold iw
 unfold gP;cases h:ai (ak (eV kd t n (ks.aT:Int) ks.head (pat||(m&&kq))) 0) with
 |true=>rw[cond_true,cond_true,h];rfl
 |false=>rw[cond_false,cond_false]
theorem z6y(i:Nat):ak (((i+1:Nat):Int) % 2) 1=!ak ((i:Int) % 2) 1:=by
 by_cases h:(i:Int) % 2=1
 ·have h2:((i+1:Nat):Int) % 2=0:=om
  rw[h,h2];rfl
 ·have h1:(i:Int) % 2=0:=om
  have h2:((i+1:Nat):Int) % 2=1:=om
  rw[h1,h2];rfl
def Cr(to:Nat)(e:Int):Int×Int×Unit:=bif ak e 0 then((to:Int),0,()) else(0,e,())
theorem z1s(b b2:Bool)(l:List ND)(hl:l.length<=10000)(hg:GL l){k:Nat}{kd:Int}{t:List Int}{n:Int}{ks:F}(h:eC l k (tr kd t n ks)):∀pat N,ks.size+1<=N->cM kQ N (⟨b,l⟩,(k:Int),pat,⟨b2,l⟩,())=some (Cr (k+1+ks.size) (gP kd t n ks pat)):=by
 refine F.Br (l:=l) (P:=fun k kd t n ks=>∀pat N,ks.size+1<=N->cM kQ N (⟨b,l⟩,(k:Int),pat,⟨b2,l⟩,())=some (Cr (k+1+ks.size) (gP kd t n ks pat))) ?_ h;clear h k kd t n ks;intro k kd t n ks hs he pat N hN;obtain⟨N,rfl⟩:∃m,N=m+1:=⟨N-1,by omega⟩;show kQ (cM kQ N) _=_;obtain⟨g1,g2,g3,g4⟩:=hs.node;obtain⟨q1,q2,q3⟩:=hg.at g1;rw[XU,XT,qxt b2 l hl pat q1 q3 kd hs];simp only[af];unfold gP;cases hE:ai (ak (eV kd t n (ks.aT:Int) ks.head pat) 0) with
 |true=>
  rw[aP,cond_true];unfold Cr;have:ak (eV kd t n (ks.aT:Int) ks.head pat) 0=false:=by unfold ai at hE;simpa using hE
  rw[this,cond_false]
 |false=>
  rw[aH,cond_false,bR g1,af,aO om];have loop:∀(g:F) (q i:Nat),g.Bq (fun k kd t n ks=>∀pat N,ks.size+1<=N->cM kQ N (⟨b,l⟩,(k:Int),pat,⟨b2,l⟩,())=some (Cr (k+1+ks.size) (gP kd t n ks pat))) q->
    g.size<=N->i+g.aT=ks.aT->i<=1000000->
    aM (pL (cM kQ N)) (⟨b,l⟩,(k:Int),pat,⟨b2,l⟩,(q:Int),(ks.aT:Int),(i:Int),())=some (Cr (q+g.size) (iw (ak kd 10) pat (ak ((i:Int) % 2) 1) g)):=by
   intro g
   induction g with
   |nil=>intro q i _ _ hi _;have hi:i+0=ks.aT:=hi;refine bX ?_;unfold pL;simp only;rw[cd,if_neg om,z1r];rfl
   |cons kd' t' n' MQ r' _ ih=>
    intro q i hE hz hi hj;have hi:i+(r'.aT+1)=ks.aT:=hi;have hz:MQ.size+r'.size+1<=N:=hz;have hc:=ks.iv;have hf:aq pat (some true) (ag (bA l (k:Int)) (fun x3=>aq (ak x3.1 10) (ag (j6 (i:Int) 2) (fun x4=>some (ak x4 1))) (some false)))=some (pat||(ak kd 10&&ak ((i:Int) % 2) 1)):=by rw[bR g1,qrl om dc];simp only[af];cases pat<;>cases ak kd 10<;>rfl
    rw[qne];have hw:=hE.1 (pat||(ak kd 10&&ak ((i:Int) % 2) 1)) N om;generalize hv:gP kd' t' n' MQ (pat||(ak kd 10&&ak ((i:Int) % 2) 1))=v at*
    have step:pL (cM kQ N) (⟨b,l⟩,(k:Int),pat,⟨b2,l⟩,(q:Int),(ks.aT:Int),(i:Int),())=
      bif ak v 0 then some (.inl (⟨b,l⟩,(k:Int),pat,⟨b2,l⟩,((q+1+MQ.size:Nat):Int),(ks.aT:Int),((i+1:Nat):Int),())) else some (.inr (0,v,())):=by
     unfold pL;simp only[hf,af,hw];rw[cd,if_pos om,aO om];unfold Cr;cases hd:ak v 0 with
     |true=>rfl
     |false=>show aq (ai (ak v 0)) _ _=_;rw[hd];rfl
    cases hd:ak v 0 with
    |true=>
     rw[hd,cond_true] at step;rw[dC step,ih _ (i+1) hE.2 om om om,z6y];have e:q+1+MQ.size+r'.size=q+(F.cons kd' t' n' MQ r').size:=by show _=q+(MQ.size+r'.size+1);omega
     rw[e];rfl
    |false=>rw[hd,cond_false] at step;rw[bX step];show _=some (Cr _ v);unfold Cr;rw[hd];rfl
  have hc:=ks.iv;exact loop ks (k+1) 0 he om om om
theorem qxu(b b2:Bool)(l:List ND)(hl:l.length<=10000)(hg:GL l){k:Nat}{kd:Int}{t:List Int}{n:Int}{ks:F}(pat:Bool)(h:eC l k (tr kd t n ks)):yD (⟨b,l⟩,(k:Int),pat,⟨b2,l⟩,())=some (Cr (k+1+ks.size) (gP kd t n ks pat)):=S7 (ks.size+1) fun N hN=>z1s b b2 l hl hg h pat N hN
abbrev Tx:=List Int
def cw:List Tx->Bool
 |[]=>false
 |a::r=>decide (a∈r)||cw r
theorem qdn:∀l:List Tx,cw l=false↔l.Nodup
 |[]=>by simp[cw]
 |a::r=>by unfold cw;rw[List.nodup_cons,<-qdn r,Bool.or_eq_false_iff,decide_eq_false_iff_not]
def qS(l:List ND):List Tx:=l.filterMap fun x=>if x.1=22 then some x.2.1 else none
theorem qu2(a b:List ND):qS (a++b)=qS a++qS b:=List.filterMap_append ..
theorem qgv(x:ND)(l:List ND):qS (x::l)=(if x.1=22 then [x.2.1] else [])++qS l:=by
 show List.filterMap _ (x::l)=_;rw[List.filterMap_cons];by_cases h:x.1=22
 ·rw[if_pos h,if_pos h];rfl
 ·rw[if_neg h,if_neg h];rfl
theorem qu3(l:List ND):(qS l).length<=l.length:=List.length_filterMap_le _ _
theorem qu4(b:Bool)(l:List ND)(hl:l.length<=10000):∀(m k:Nat) (nb:Bool) (out:List Tx),k+m=l.length->out.length<=k->∃Cp,aM lj (⟨b,l⟩,(l.length:Int),(k:Int),⟨nb,out⟩,())=some (⟨Cp,out++qS (l.drop k)⟩,()):=by
 intro m
 induction m with
 |zero=>intro k nb out hk _;refine⟨nb,bX ?_⟩;unfold lj;simp only;rw[cd,if_neg om,zw om];show _=some (Sum.inr ((⟨nb,out++[]⟩:Sl Tx),()));rw[zu]
 |succ m ih=>
  intro k nb out hk ho;have hc:k<l.length:=om
  rw[jk hc,qgv];have hd:=bR (ze hc);by_cases h:l[k].1=22
  ·have hf:fit (aW (ae out) (ae [l[k].2.1]))=some ():=TR (by show out.length+1<=_;omega);have step:lj (⟨b,l⟩,(l.length:Int),(k:Int),⟨nb,out⟩,())=some (.inl (⟨b,l⟩,(l.length:Int),((k+1:Nat):Int),⟨false,out++[l[k].2.1]⟩,())):=by unfold lj;simp only;rw[cd,if_pos om,hd,af,rB,if_pos h,hf,af,af,TS,aO om];rfl
   obtain⟨Cp,h'⟩:=ih (k+1) false (out++[l[k].2.1]) om (by rw[zh,List.length_singleton];omega);refine⟨Cp,?_⟩;rw[dC step,h',if_pos h,zC]
  ·have step:lj (⟨b,l⟩,(l.length:Int),(k:Int),⟨nb,out⟩,())=some (.inl (⟨b,l⟩,(l.length:Int),((k+1:Nat):Int),⟨nb,out⟩,())):=by unfold lj;simp only;rw[cd,if_pos om,hd,af,rB,if_neg h,af,aO om]
   obtain⟨Cp,h'⟩:=ih (k+1) nb out om om;refine⟨Cp,?_⟩;rw[dC step,h',if_neg h,List.nil_append]
theorem qu5(b:Bool)(l:List ND)(hl:l.length<=10000):∃nb,r7 (⟨b,l⟩,())=some (⟨nb,qS l⟩,()):=by rw[XW];exact qu4 b l hl l.length 0 true [] om (Nat.le_refl _)
def ub:List Tx->Bool
 |[]=>false
 |[_]=>false
 |a::b::r=>decide (a=b)||ub (b::r)
theorem qpv:∀l:List Tx,ub l=true↔∃k,k+1<l.length/\l[k+1]?=l[k]?
 |[]=>by simp[ub]
 |[a]=>by simp[ub]
 |a::b::r=>by
  unfold ub;rw[Bool.or_eq_true,decide_eq_true_eq,qpv (b::r)];constructor
  ·rintro(h|⟨k,h1,h2⟩)
   ·exact⟨0,by simp,by simp[h]⟩
   ·exact⟨k+1,by simpa using h1,by simpa using h2⟩
  ·rintro⟨k,h1,h2⟩;cases k with
   |zero=>left;simpa using h2.symm
   |succ k=>right;exact⟨k,by simpa using h1,by simpa using h2⟩
theorem qrz(a b:Nat):aW (a:Int) (b:Int)=((a+b:Nat):Int):=by show(a:Int)+(b:Int)=_;omega
theorem Lj{α:Type}{l:List α}{i:Nat}(h:i<l.length):nth l i=some l[i]:=by unfold nth;exact ze h
theorem qu6(k0:Nat)(nb:Bool):∀(m k k2:Nat) (s:List Tx),s.length<=1000000->k0+k2+m=s.length->1<=k2->k+1<=k0+k2->∃c:List Tx,aM nc ((k:Int),(k0:Int),(k2:Int),⟨nb,s⟩,())=some (.inr (⟨nb,c⟩,()))/\c.length<s.length:=by
 intro m
 induction m with
 |zero=>
  intro k k2 s hs h1 h2 h3;refine⟨(dX s (k:Int) []).take k,bX ?_,?_⟩
  ·have e1:ae (cB s (k0:Int))=(k2:Int):=by unfold ae cB;rw[zD,Int.toNat_natCast];omega
   have ez:(dX s (k:Int) ([]:Tx)).length=s.length:=by unfold dX;rw[zh,zJ,List.length_replicate,Int.toNat_natCast];omega
   unfold nc
   simp only[e1];rw[cd,if_neg om];have c1:cF (ae s) (k:Int)=some k:=by unfold cF ae;rw[if_pos om,Int.toNat_natCast]
   have c2:cF (ae (dX s (k:Int) ([]:Tx))) (k:Int)=some k:=by unfold cF ae;rw[if_pos om,Int.toNat_natCast]
   rw[c1,af,c2,af];rfl
  ·rw[zJ];omega
 |succ m ih=>
  intro k k2 s hs h1 h2 h3;have e1:ae (cB s (k0:Int))=((k2+m+1:Nat):Int):=by unfold ae cB;rw[zD,Int.toNat_natCast];omega
  have e2:cq .i64 (k2:Int) 1=((k2-1:Nat):Int):=by rw[qL om om];omega
  have l1:bJ 0 (k2:Int)=true:=zo om;have l2:bJ 0 ((k2-1:Nat):Int)=true:=zo om;have step:∃(k':Nat) (s':List Tx),nc ((k:Int),(k0:Int),(k2:Int),⟨nb,s⟩,())=some (.inl ((k':Int),(k0:Int),((k2+1:Nat):Int),⟨nb,s'⟩,()))/\s'.length=s.length/\k'+1<=k0+(k2+1):=by
   unfold nc
   simp only[e1];rw[cd,if_pos om,e2,l1,l2,aP,aP,qrz,qrz,mw om,mw om];simp only[af,Lj (show k0+k2<s.length by omega),Lj (show k0+(k2-1)<s.length by omega)];cases bx s[k0+k2] s[k0+(k2-1)] with
   |true=>refine⟨k,s,?_,rfl,by omega⟩;simp only[ai,Bool.not_true,aH,af,aO (show k2<=1000000000 by omega)]
   |false=>refine⟨k+1,s.set k s[k0+k2],?_,by rw[List.length_set],by omega⟩;simp only[ai,Bool.not_false,aP,af,mw (show k<s.length by omega),Lj (show k<s.length by omega),aO (show k2<=1000000000 by omega),aO (show k<=1000000000 by omega)];rfl
  obtain⟨k',s',h4,h5,h6⟩:=step;obtain⟨c,g1,g2⟩:=ih k' (k2+1) s' om om om h6;exact⟨c,by rw[dC h4,g1],by omega⟩
theorem qnf(nb:Bool)(s:List Tx)(hs:s.length<=1000000):∀(m k:Nat),k+m=s.length->1<=k->(∀j,j+1<k->s[j+1]?≠s[j]?)->∃c,aM nf ((k:Int),⟨nb,s⟩,())=some (⟨nb,c⟩,())/\decide (c.length<s.length)=ub s:=by
 intro m
 induction m with
 |zero=>
  intro k h1 h2 h3;refine⟨s,bX ?_,?_⟩
  ·unfold nf
   simp only;rw[cd,if_neg (by unfold ae;omega)]
  ·have:ub s=false:=by
    cases h:ub s with
    |false=>rfl
    |true=>obtain⟨j,g1,g2⟩:=(qpv s).1 h;exact absurd g2 (h3 j om)
   rw[this];exact zn (Nat.lt_irrefl _)
 |succ m ih=>
  intro k h1 h2 h3;have e2:cq .i64 (k:Int) 1=((k-1:Nat):Int):=by rw[qL om om];omega
  have hc:cF (ae s) (k:Int)=some k:=by unfold cF ae;rw[if_pos om,Int.toNat_natCast]
  by_cases he:s[k]=s[k-1]
  ·obtain⟨c,g1,g2⟩:=qu6 k nb m k 1 s hs om (Nat.le_refl _) om;have g1:aM nc ((k:Int),(k:Int),1,⟨nb,s⟩,())=some (.inr (⟨nb,c⟩,())):=g1;refine⟨c,bX ?_,?_⟩
   ·unfold nf
    simp only;rw[cd,if_pos (by unfold ae;omega),e2,mw om,mw om];simp only[af,Lj (show k<s.length by omega),Lj (show k-1<s.length by omega),hc];rw[Cd,if_pos he,g1]
   ·have:ub s=true:=(qpv s).2 ⟨k-1,by omega,by rw[show k-1+1=k by omega,ze om,ze om,he]⟩;rw[this];exact zo g2
  ·have step:nf ((k:Int),⟨nb,s⟩,())=some (.inl (((k+1:Nat):Int),⟨nb,s⟩,())):=by
    unfold nf
    simp only;rw[cd,if_pos (by unfold ae;omega),e2,mw om,mw om];simp only[af,Lj (show k<s.length by omega),Lj (show k-1<s.length by omega)];rw[Cd,if_neg he,aO om]
   obtain⟨c,g1,g2⟩:=ih (k+1) om om (fun j hj=>by
    by_cases hd:j+1=k
    ·have:j=k-1:=om
     subst this;rw[show k-1+1=k by omega,ze om,ze om];exact fun e=>he (zK e)
    ·exact h3 j om)
   exact⟨c,by rw[dC step,g1],g2⟩
theorem qng(nb:Bool)(s:List Tx)(hs:s.length<=1000000):∃c,r9 (⟨nb,s⟩,())=some (⟨nb,c⟩,())/\decide (c.length<s.length)=ub s:=by
 rw[XX,cd];by_cases h:ae s<2
 ·rw[if_pos h];refine⟨s,rfl,?_⟩;have:ub s=false:=by
   have h:(s.length:Int)<2:=h
   match s,h with
   |[],_=>rfl
   |[a],_=>rfl
   |a::b::r,h=>simp at h;omega
  rw[this];exact zn (Nat.lt_irrefl _)
 ·rw[if_neg h];have h:¬(s.length:Int)<2:=h;exact qnf nb s hs (s.length-1) 1 om (Nat.le_refl _) (fun j hj=>by omega)
theorem qj6:∀l:List Tx,(l.Pairwise fun a b=>(!strLt b a)=true)->ub l=cw l
 |[],_=>rfl
 |[a],_=>by simp[ub,cw]
 |a::b::r,h=>by
  have ih:=qj6 (b::r) (List.pairwise_cons.1 h).2;unfold ub;rw[ih]
  conv=>rhs;unfold cw
  by_cases hc:a=b
  ·simp[hc]
  ·have hm:a∉b::r:=by
    intro hm;rcases zt.1 hm with e|e
    ·exact hc e
    ·have h1:=(List.pairwise_cons.1 h).1 b (zj ..);have h2:=(List.pairwise_cons.1 (List.pairwise_cons.1 h).2).1 a e;simp only[Bool.not_eq_true'] at h1 h2;exact hc (OC _ _ h2 h1)
   rw[zn hc,zn hm]
theorem z1t{a b:List Tx}(h:a.Perm b):cw a=cw b:=by have:=h.nodup_iff;rw[<-qdn,<-qdn] at this;cases ha:cw a<;>cases hb:cw b<;>simp_all
theorem z9g(nb:Bool)(s:List Tx)(hs:s.length<=1000000)(hg:∀x,x∈s->uO x=true):∃c Cp,ag (r8 (⟨nb,s⟩,())) (fun x=>r9 (x.1,()))=some (⟨Cp,c⟩,())/\decide (c.length<s.length)=cw s:=by
 have e:r8 (⟨nb,s⟩,())=some (⟨nb,s.mergeSort fun a b=>!strLt b a⟩,()):=by show(bif s.all uO&&decide (s.length<4611686018427387904) then _ else none)=_;rw[zS.2 hg,zo (show s.length<4611686018427387904 by omega)];rfl
 have hc:(s.mergeSort fun a b=>!strLt b a).length=s.length:=List.length_mergeSort _;obtain⟨c,h1,h2⟩:=qng nb (s.mergeSort fun a b=>!strLt b a) om;rw[e,af];refine⟨c,nb,h1,?_⟩;rw[<-hc,h2,qj6,z1t (List.mergeSort_perm _ _)];refine List.pairwise_mergeSort (fun a b c h1 h2=>?_) (fun a b=>?_) _
 ·simp only[Bool.not_eq_true'] at h1 h2 ⊢;cases h3:strLt c a with
  |false=>rfl
  |true=>
   cases h4:strLt b c with
   |true=>rw[OB _ _ _ h4 h3] at h1;cases h1
   |false=>have e:=OC _ _ h2 h4;subst e;rw[h1] at h3;cases h3
 ·cases h3:strLt b a with
  |false=>rfl
  |true=>
   cases h4:strLt a b with
   |false=>rfl
   |true=>have:=OB _ _ _ h3 h4;rw[WR] at this;cases this
theorem eC.uc{l:List ND}{k:Nat}{f:F}(h:eC l k f):(l.drop k).take f.size=f.flat:=by obtain⟨post,h⟩:=h;rw[h,<-f.len,List.take_left'];rfl
theorem z1u{α:Type}(a c:List α)(h:a.length=c.length):oQ a c=c:=by unfold oQ;rw[h,List.take_length,<-h,List.drop_length,zu]
theorem z1v(b:Bool)(l:List ND)(hl:l.length<=10000){k:Nat}{kd:Int}{t:List Int}{n:Int}{ks r:F}(h:eC l k (.cons kd t n ks r)):rZ (⟨b,l⟩,(k:Int),())=some (⟨false,(tr kd t n ks).flat⟩,0,()):=by
 obtain⟨g1,g2,g3,g4⟩:=h.node;rw[XV,qkt b l hl,h.ends];have hs:cq .i64 ((k+1+ks.size:Nat):Int) (k:Int)=((ks.size+1:Nat):Int):=by rw[qL om om];omega
 have hm:tn ((ks.size+1:Nat):Int) ((ks.size+1:Nat):Int)=some (ks.size+1):=by unfold tn;rw[if_pos om,Int.toNat_natCast]
 have hc:cg l (k:Int) ((k+1+ks.size:Nat):Int)=some ((l.take (k+1+ks.size)).drop k):=by unfold cg;rw[if_pos om,Int.toNat_natCast,Int.toNat_natCast]
 have hd:(l.take (k+1+ks.size)).drop k=(tr kd t n ks).flat:=by rw[List.drop_take,show k+1+ks.size-k=(tr kd t n ks).size by rw[Li];omega];exact h.first.uc
 simp only[af];rw[cd,if_neg om];simp only[hs,hm,af,hc,hd];rw[z1u];rw[(tr kd t n ks).len,Li];exact List.length_replicate
theorem GL.sub{l:List ND}(hg:GL l){k:Nat}{f:F}(h:eC l k f):GL f.flat:=by intro x hx;rw[<-h.uc] at hx;exact hg x (List.mem_of_mem_drop (List.mem_of_mem_take hx))
theorem qu7{l:List ND}(hg:GL l):∀x,x∈qS l->uO x=true:=by
 intro x hx;obtain⟨d,h1,h2⟩:=List.mem_filterMap.1 hx;by_cases h:d.1=22
 ·rw[if_pos h] at h2;injection h2 with h2;subst h2;obtain⟨g1,g2,_⟩:=hg d h1;unfold uO;rw[zd,zS,decide_eq_true_eq];exact⟨fun b hb=>zo (g1 b hb),by omega⟩
 ·rw[if_neg h] at h2;cases h2
theorem qpw(b:Bool)(l:List ND)(hl:l.length<=10000)(hg:GL l){k:Nat}{kd:Int}{t:List Int}{n:Int}{ks r:F}(h:eC l k (.cons kd t n ks r)):pe ((k:Int),⟨b,l⟩,())=some (cw (qS (tr kd t n ks).flat),()):=by
 obtain⟨g1,g2,g3,g4⟩:=h.node;rw[XZ,z1v b l hl h];simp only[af];have hc:(tr kd t n ks).flat.length<=10000:=by rw[(tr kd t n ks).len,Li];omega
 obtain⟨nb,h1⟩:=qu5 false (tr kd t n ks).flat hc;have hn:=qu3 (tr kd t n ks).flat
 obtain⟨c,Cp,h2,h3⟩:=z9g nb (qS (tr kd t n ks).flat) om (qu7 (hg.sub h.first));have h4:sa (⟨false,(tr kd t n ks).flat⟩,())=some (ae (qS (tr kd t n ks).flat),()):=by rw[XY,h1];rfl
 rw[h1];simp only[af,h4];cases hs:r8 (⟨nb,qS (tr kd t n ks).flat⟩,()) with
 |none=>rw[hs] at h2;cases h2
 |some x=>rw[hs,af] at h2;simp only[af,h2];rw[<-h3];congr 2;exact decide_eq_decide.2 (by unfold ae;omega)
def MR:F->List Tx
 |.nil=>[]
 |.cons kd t _ ks r=>(bif ak kd 22 then [t] else MR ks)++MR r
def MS(kd:Int)(t:Tx)(ks:F):List Tx:=bif ak kd 22 then [t] else MR ks
theorem qj7(kd:Int)(t:Tx)(n:Int)(ks r:F):MR (.cons kd t n ks r)=MS kd t ks++MR r:=id (Eq.refl _)
def F5:F->Bool
 |.nil=>false
 |.cons kd t _ ks r=>(bif jt kd then cw (MS kd t ks) else F5 ks)||F5 r
def Cs(kd:Int)(t:Tx)(ks:F):Bool:=bif jt kd then cw (MS kd t ks) else F5 ks
theorem qs0(kd:Int)(t:Tx)(n:Int)(ks r:F):F5 (.cons kd t n ks r)=(Cs kd t ks||F5 r):=id (Eq.refl _)
theorem qj8{a b:Int}:(bif ai (ak a 0) then a else b)=0↔a=0/\b=0:=by
 cases h:ak a 0 with
 |true=>have:=cT.1 h;rw[nT,cond_false];exact⟨fun e=>⟨this,e⟩,fun e=>e.2⟩
 |false=>
  have hn:a≠0:=fun e=>by rw[e] at h;cases h
  rw[nF,cond_true];exact⟨fun e=>absurd e hn,fun e=>absurd e.1 hn⟩
theorem ud{kd:Int}{t:Tx}{n:Int}{ks:F}{pat:Bool}:gP kd t n ks pat=0↔eV kd t n (ks.aT:Int) ks.head pat=0/\iw (ak kd 10) pat false ks=0:=qj8
theorem kA{m pat kq:Bool}{kd:Int}{t:Tx}{n:Int}{ks r:F}:iw m pat kq (.cons kd t n ks r)=0↔gP kd t n ks (pat||(m&&kq))=0/\iw m pat (!kq) r=0:=by rw[qne];exact qj8
def TT(k n:Int):Bool:=bif ak k 1||ak k 23 then Cq n else ak n 0
def qxv(k:Int)(t:Tx):Bool:=(bif ak (oK k) 0 then bx t [] else bif ak (oK k) 3 then ai (aE 200 (ae t)) else true)&&ai (ak (oK k) 1&&ai (bK t))&&ai (ak (oK k) 2&&ai (lx t))
def z6z(k hk:Int):Bool:=ai (ak k 8&&ai (ak hk 5))
theorem qua(k:Int)(t:Tx)(hk:Int):mD k t hk=0↔qxv k t=true/\z6z k hk=true:=by unfold mD nj qxv z6z;generalize (ak k 8&&ai (ak hk 5))=T;generalize ak (oK k) 0=s0;generalize ak (oK k) 1=s1;generalize ak (oK k) 2=s2;generalize ak (oK k) 3=s3;generalize bx t []=a;generalize aE 200 (ae t)=c;generalize bK t=d;generalize lx t=e;revert T s0 s1 s2 s3 a c d e;decide
theorem sY{k:Int}{t:Tx}{n c hk:Int}{pat:Bool}:eV k t n c hk pat=0↔aE (oK k) 0=false/\jt k=pat/\mA k c=true/\TT k n=true/\qxv k t=true/\z6z k hk=true:=by
 rw[<-qua];have e:eV k t n c hk pat=bif aE (oK k) 0 then 61 else bif ai (eU (jt k) pat) then 61 else bif ai (mA k c) then 61 else bif TT k n then mD k t hk else 61:=by unfold eV TT;cases (ak k 1||ak k 23)<;>rfl
 rw[e];cases aE (oK k) 0 with
 |true=>simp
 |false=>
  have hp:eU (jt k) pat=true↔jt k=pat:=by cases jt k<;>cases pat<;>decide
  cases h1:eU (jt k) pat with
  |false=>
   have:jt k≠pat:=fun e=>by rw[hp.2 e] at h1;cases h1
   simp[nF,this]
  |true=>
   rw[nT,cond_false,cond_false];have:=hp.1 h1;cases mA k c with
   |false=>simp[nF]
   |true=>
    rw[nT,cond_false];cases TT k n with
    |false=>simp
    |true=>simp[this]
theorem z71{k c:Int}(h:mA k c=true):(k=5\/k=11->c=1)/\(k=6\/k=7\/k=8\/k=12->c=2)/\(k=9->c=3)/\(k=10->3<=c/\c % 2=1)/\(k=1\/k=2\/k=3\/k=4\/k=21\/k=22\/k=23->c=0):=by
 refine⟨?_,?_,?_,?_,?_⟩
 ·rintro(rfl|rfl)<;>exact cT.1 h
 ·rintro(rfl|rfl|rfl|rfl)<;>exact cT.1 h
 ·rintro rfl;exact cT.1 h
 ·rintro rfl;have h:(bJ 3 c&&ak (c % 2) 1)=true:=h;rw[zd,cT] at h;exact⟨jc h.1,h.2⟩
 ·rintro(rfl|rfl|rfl|rfl|rfl|rfl|rfl)<;>exact cT.1 h
theorem z1x{f:F}(h:(f.aT:Int)=0):f=.nil:=by
 cases f with
 |nil=>rfl
 |cons _ _ _ _ r=>have h:((r.aT+1:Nat):Int)=0:=h;omega
theorem qay:∀(f:F) (m pat kq:Bool),iw m pat kq f=0->qS f.flat=MR f
 |.nil,_,_,_,_=>rfl
 |.cons kd t n ks r,m,pat,kq,h=>by
  obtain⟨h1,h2⟩:=kA.1 h;obtain⟨h3,h4⟩:=ud.1 h1;have i1:=qay ks _ _ _ h4;have i2:=qay r _ _ _ h2;show qS ((kd,t,n,(ks.aT:Int))::(ks.flat++r.flat))=_;rw[qgv,qu2,i1,i2,qj7];unfold MS;by_cases hc:kd=22
  ·subst hc;have:=(z71 (sY.1 h3).2.2.1).2.2.2.2 om;rw[z1x this,if_pos rfl];rfl
  ·rw[if_neg hc,eP hc];rfl
theorem qnh{kd:Int}{t:Tx}{n:Int}{ks:F}{pat:Bool}(h:gP kd t n ks pat=0):qS (tr kd t n ks).flat=MS kd t ks:=by have h':iw false pat false (tr kd t n ks)=0:=kA.2 ⟨by rw[Bool.false_and,Bool.or_false];exact h,rfl⟩;rw[qay _ _ _ _ h',qj7];exact zu _
theorem z1y(b:Bool)(l:List ND)(hl:l.length<=10000)(hg:GL l):∀(f:F) (q:Nat) (m pat kq:Bool),eC l q f->q<=l.length->iw m pat kq f=0->aM iZ ((q:Int),⟨b,l⟩,())=bif F5 f then some (63,()) else aM iZ (((q+f.size:Nat):Int),⟨b,l⟩,()):=by
 intro f
 induction f with
 |nil=>intro q m pat kq _ _ _;rfl
 |cons kd t n ks r iO iP=>
  intro q m pat kq hs hq he;obtain⟨g1,g2,g3,g4⟩:=hs.node;obtain⟨h1,h2⟩:=kA.1 he;obtain⟨h3,h4⟩:=ud.1 h1;rw[qs0];have W0:q+(F.cons kd t n ks r).size=q+1+ks.size+r.size:=by show q+(ks.size+r.size+1)=_;omega
  rw[W0];have rest:=iP (q+1+ks.size) m pat (!kq) g3 om h2;cases hp:jt kd with
  |true=>
   have hT:Cs kd t ks=cw (MS kd t ks):=by unfold Cs;rw[hp];rfl
   have hc:=qpw b l hl hg hs;rw[qnh h1,<-hT] at hc;have step:iZ ((q:Int),⟨b,l⟩,())=bif Cs kd t ks then some (.inr (63,())) else some (.inl (((q+1+ks.size:Nat):Int),⟨b,l⟩,())):=by
    unfold iZ;simp only;rw[cd,if_pos (by unfold ae;omega),bR g1];simp only[af,oL,hp,nT,aH,hc];cases Cs kd t ks with
    |true=>rfl
    |false=>
     rw[aH,qkt b l hl,hs.ends];simp only[af];have e1:cq .i64 ((q+1+ks.size:Nat):Int) 1=((q+ks.size:Nat):Int):=by rw[qL om om];omega
     rw[e1];show some (Sum.inl (aA .i64 ((q+ks.size:Nat):Int) 1,_,()))=_;rw[aO om,show q+ks.size+1=q+1+ks.size by omega];rfl
   cases ht:Cs kd t ks with
   |true=>rw[ht,cond_true] at step;rw[bX step];rfl
   |false=>rw[ht,cond_false] at step;rw[dC step,rest];rfl
  |false=>
   have hT:Cs kd t ks=F5 ks:=by unfold Cs;rw[hp];rfl
   have step:iZ ((q:Int),⟨b,l⟩,())=some (.inl (((q+1:Nat):Int),⟨b,l⟩,())):=by unfold iZ;simp only;rw[cd,if_pos (by unfold ae;omega),bR g1];simp only[af,oL,hp,nF,aP];show some (Sum.inl (aA .i64 (q:Int) 1,_,()))=_;rw[aO om]
   rw[dC step,iO (q+1) _ _ _ g2 om h4,hT];cases F5 ks with
   |true=>rfl
   |false=>rw[cond_false,rest];rfl
def Lk(kd:Int)(t:Tx)(n:Int)(ks:F)(pat:Bool):Int:=bif aE 100 ((ks.dep+1:Nat):Int) then 60 else bif ai (ak (gP kd t n ks pat) 0) then gP kd t n ks pat else bif Cs kd t ks then 63 else 0
theorem qub(b:Bool)(kd:Int)(t:Tx)(n:Int)(ks:F)(pat:Bool)(hl:ks.size+1<=4000)(hg:GL (tr kd t n ks).flat):sb (⟨b,(tr kd t n ks).flat⟩,pat,())=some (Lk kd t n ks pat,()):=by
 have hc:(tr kd t n ks).flat.length=ks.size+1:=(tr kd t n ks).len;have hs:=qnd kd t n ks;rw[Pe,TQ b _ om,(qdm _).2 ⟨kd,t,n,ks,rfl⟩,qxr b kd t n ks om];have hw:=qxu b b _ om hg pat hs;have h0:((0:Nat):Int)=0:=rfl;rw[h0] at hw;have c0:aE 4000 (ae (tr kd t n ks).flat)=false:=zn (by unfold ae;omega);simp only[c0,aH,af,nT,hw];unfold Lk;cases aE 100 ((ks.dep+1:Nat):Int) with
 |true=>rfl
 |false=>
  rw[aH,cond_false];unfold Cr;cases hv:ak (gP kd t n ks pat) 0 with
  |false=>rw[cond_false,nF];show aq (ai (ak (gP kd t n ks pat) 0)) _ _=_;rw[hv];rfl
  |true=>
   rw[cond_true,nT,cond_false];show aM iZ (0,_,())=_;have hz:=cT.1 hv;have:=z1y b (tr kd t n ks).flat om hg (tr kd t n ks) 0 false pat false hs om (kA.2 ⟨by rw[Bool.false_and,Bool.or_false];exact hz,rfl⟩);rw[h0,qs0] at this;rw[this];have hf:F5 .nil=false:=rfl;rw[hf,Bool.or_false];cases Cs kd t ks with
   |true=>rfl
   |false=>rw[cond_false,cond_false];refine bX ?_;unfold iZ;simp only;rw[cd,if_neg (by unfold ae;rw[hc,Li];omega)]
theorem quc(b:Bool)(l:List ND)(hl:l.length<=4000)(pat:Bool)(h:Cn l=false):sb (⟨b,l⟩,pat,())=some (60,()):=by rw[Pe,TQ b _ om,h];have c0:aE 4000 (ae l)=false:=zn (by unfold ae;omega);simp only[c0,aH,af,nF,aP]
theorem z73(l:List ND):Cn l=false\/∃kd t n ks,l=(tr kd t n ks).flat:=by
 cases h:Cn l with
 |false=>exact .inl rfl
 |true=>exact .inr ((qdm l).1 h)
theorem qud(b:Bool)(kd:Int)(t:Tx)(n:Int)(ks:F)(hl:ks.size+1<=4000)(hg:GL (tr kd t n ks).flat):im (⟨b,(tr kd t n ks).flat⟩,())=some (Lk kd t n ks false,()):=by rw[Pf,qub b kd t n ks false hl hg];rfl
theorem qj9(b:Bool)(l:List ND)(hl:l.length<=4000)(h:Cn l=false):im (⟨b,l⟩,())=some (60,()):=by rw[Pf,quc b l hl false h];rfl
end Fn
end Ev