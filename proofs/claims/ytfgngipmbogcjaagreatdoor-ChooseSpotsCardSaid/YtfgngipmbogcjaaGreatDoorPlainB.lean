/- Layer 12 in plain words: types, patterns, values, matching. No statement of its own about the program. -/
import Derived.Test.YtfgngipmbogcjaaGreatDoorPlainA
namespace Ev
open Go
namespace Fn
def nS(k:Int)(t:Tx)(c:Int)(d:DD):Bool:=af k 32&&(aM d.1 t&&af d.2.1 c)
def fX(L:List DD)(k:Int)(t:Tx)(c:Int)(cO:Tx):Option CT:=(L.find? (nS k t c)).bind fun d=>d.2.2.l.find? fun x=>aM x.1 cO
def fi(Ts:List (List ND))(a:List ND):List ND:=bif aA 4000 (aa (vY Ts a)) then [(31,[],0,0)] else vY Ts a
def dH(b:Bool)(Ts:List (List ND))(a:SN):SN:=bif aA 4000 (aa (a.l.foldl (iV Ts) ⟨b,[]⟩).l) then⟨false,[(31,[],0,0)]⟩ else a.l.foldl (iV Ts) ⟨b,[]⟩
theorem IM(b:Bool)(Ts:List (List ND))(a:SN):(dH b Ts a).l=fi Ts a.l:=by
 have h:=z7g Ts a.l ⟨b,[]⟩;rw[show([]:List ND)++vY Ts a.l=vY Ts a.l from rfl] at h;unfold dH fi;rw[h];cases aA 4000 (aa (vY Ts a.l)) with
 |true=>rfl
 |false=>exact h
theorem qyc(s:Sl DD)(hL:s.l.length<=1000)(t:SN)(x:ND)(hx:t.l[0]?=some x):w6 (s,t,())=some (fe (nS x.1 x.2.1 x.2.2.2) 0 s.l,()):=by
 have h0:aE t.l 0=some x:=aQ (i:=0) hx;rw[Vy];refine pE vz (fun k=>(s,t,aa s.l,k,())) (fun z=>(z,())) s.l om (nS x.1 x.2.1 x.2.2.2) ?_ ?_
 ·intro k d hd hk;obtain⟨n,p,cs⟩:=d;unfold vz nS;simp only[cJ hd,aG,aQ hd,aj,Vx,h0,aI (show k<=1000000000 by omega)];cases af x.1 32<;>cases aM n x.2.1<;>cases af p x.2.2.2<;>rfl
 ·unfold vz;simp only[dB,aD]
theorem ZM(cs:Sl CT)(hc:cs.l.length<=1000000)(cO:Tx):uu (cs,cO,())=some (fe (fun c:CT=>aM c.1 cO) 0 cs.l,()):=by
 rw[VA];refine pE vA (fun k=>(cs,cO,aa cs.l,k,())) (fun z=>(z,())) cs.l hc (fun c:CT=>aM c.1 cO) ?_ ?_
 ·intro k c hx hk;obtain⟨n,as⟩:=c;unfold vA;simp only[cJ hx,aG,aQ hx,aj,Vz,aI (show k<=1000000000 by omega)];cases aM n cO<;>rfl
 ·unfold vA;simp only[dB,aD]
theorem ZN{α:Type}{p:α->Bool}{l:List α}(h:l.any p=false):l.find? p=none:=by rw[List.find?_eq_none];intro x hx hp;have:=jx.2 ⟨x,hx,hp⟩;rw[h] at this;cases this
theorem qbf(s:Sl DD)(hL:s.l.length<=1000)(t:SN)(x:ND)(hx:t.l[0]?=some x){d:DD}(h:s.l.find? (nS x.1 x.2.1 x.2.2.2)=some d):p0 (s,t,())=some (d,true,()):=by
 have ha:s.l.any (nS x.1 x.2.1 x.2.2.2)=true:=by
  cases hb:s.l.any (nS x.1 x.2.1 x.2.2.2) with
  |true=>rfl
  |false=>rw[ZN hb] at h;cases h
 obtain⟨i,y,h1,h2,h3,h4⟩:=Kq (nS x.1 x.2.1 x.2.2.2) s.l 0 ha;rw[h4] at h;injection h with h;subst h;rw[zN] at h1;have hc:aA (i:Int) 0=false:=zm om;rw[Mr,qyc s hL t x hx,aj];simp only[h1,hc,aD,aQ h2,aj]
theorem qjz(s:Sl DD)(hL:s.l.length<=1000)(t:SN)(x:ND)(hx:t.l[0]?=some x)(h:s.l.find? (nS x.1 x.2.1 x.2.2.2)=none):p0 (s,t,())=some (([],0,⟨true,[]⟩),false,()):=by
 have ha:s.l.any (nS x.1 x.2.1 x.2.2.2)=false:=by
  cases hb:s.l.any (nS x.1 x.2.1 x.2.2.2) with
  |false=>rfl
  |true=>obtain⟨i,y,_,_,_,h4⟩:=Kq (nS x.1 x.2.1 x.2.2.2) s.l 0 hb;rw[h4] at h;cases h
 have hc:aA (-1) 0=true:=id (Eq.refl _);rw[Mr,qyc s hL t x hx,aj,qra _ _ _ ha];simp only[hc,aG]
theorem qye(b:Bool)(T:List ND):∀(l:List (List ND)) (i:Nat),bl b i (l++[T])=bl b i l++[(((i+l.length:Nat):Int),⟨b,T⟩)]
 |[],i=>by show [((i:Int),_)]=[(((i+0:Nat):Int),_)];rw[Nat.add_zero]
 |U::r,i=>by show _::bl b (i+1) (r++[T])=_::(bl b (i+1) r++_);rw[qye b T r (i+1),zw,show i+1+r.length=i+(r.length+1) by omega]
theorem qyf(b:Bool){Ts:List (List ND)}{k:Nat}{T:List ND}(h:Ts[k]?=some T):bl b 0 (Ts.take (k+1))=bl b 0 (Ts.take k)++[((k:Int),⟨b,T⟩)]:=by have hk:=fh h;rw[List.take_add_one,h];show bl b 0 (Ts.take k++[T])=_;rw[qye,zO,Nat.min_eq_left om,zN]
theorem ZO{ks:F}{n:Nat}(h:ks.size<=n):∀T,T∈ks.trees->T.length<=n:=by intro T hT;have:=(List.sublist_flatten_of_mem hT).length_le;rw[F.dF,F.len] at this;omega
theorem z5n(nb b:Bool)(Ts:List (List ND))(hT:Ts.length<=10000)(hf:∀T,T∈Ts->T.length<=4000)(as:Sl SN)(ha:as.l.length<=1000)(hg:∀a,a∈as.l->gA a):aH rR (⟨nb,bl b 0 Ts⟩,as,aa as.l,0,⟨true,[]⟩,())=some (.inr (⟨true&&as.l.isEmpty,as.l.map (dH true Ts)⟩,true,())):=by
 refine(tf rR (fun k a=>(⟨nb,bl b 0 Ts⟩,as,aa as.l,k,a,())) as.l (fun(a:Sl SN) x=>(⟨false,a.l++[dH true Ts x]⟩:Sl SN)) (fun a=>.inr (a,true,())) (fun k a=>k<=as.l.length/\a.l.length=k) ⟨true,[]⟩ ⟨Nat.zero_le _,rfl⟩ ?_ ?_).trans ?_
 ·intro k x a hx hi;obtain⟨na,al⟩:=a;have h2:al.length=k:=hi.2;have hk:=fh hx;obtain⟨bx,lx⟩:=x;have hj:=(hg _ (zj hx)).2;have hl:=qtz nb b bx Ts hT hf lx hj;have hc:∀y:SN,fit (aT (aa al) (aa [y]))=some ():=fun y=>iA (by show al.length+1<=_;omega);refine⟨?_,hk,by show(al++[_]).length=_;rw[zt,h2];rfl⟩;have he:=aI (show k<=1000000000 by omega);unfold rR dH;simp only[cJ hx,aG,aQ hx,aj,hl];cases aA 4000 (aa (lx.foldl (iV Ts) ⟨true,[]⟩).l)<;>simp only[aG,aD,aj,hc,uN,he,cond_true,cond_false]<;>rfl
 ·intro a _;unfold rR;simp only[dB,aD]
 ·rw[Qz];rfl
theorem ZP(s:Sl DD)(hL:GD s.l)(b:Bool)(k:Int)(t:Tx)(n:Int)(ks:F)(_hs:ks.size+1<=10000)(cO:Tx)(h:fX s.l k t (ks.aq:Int) cO=none):kI (s,⟨b,(tr k t n ks).flat⟩,cO,())=some (⟨true,[]⟩,false,()):=by
 have hx:(⟨b,(tr k t n ks).flat⟩:SN).l[0]?=some (k,t,n,(ks.aq:Int)):=rfl;rw[Ms];cases hd:s.l.find? (nS k t (ks.aq:Int)) with
 |none=>rw[qjz s hL.1 _ _ hx hd,aj];simp only[ZM ⟨true,[]⟩ (Nat.zero_le _) cO,aj,nF,aG]
 |some d=>
  have hc:=zZ hd;rw[qbf s hL.1 _ _ hx hd,aj];unfold fX at h;rw[hd] at h;have h:d.2.2.l.find? (fun x=>aM x.1 cO)=none:=h;have ha:d.2.2.l.any (fun c:CT=>aM c.1 cO)=false:=by
   cases hb:d.2.2.l.any (fun c:CT=>aM c.1 cO) with
   |false=>rfl
   |true=>obtain⟨i,y,_,_,_,h4⟩:=Kq (fun c:CT=>aM c.1 cO) d.2.2.l 0 hb;rw[h4] at h;cases h
  have he:aA (-1) 0=true:=id (Eq.refl _);have g2:=(hL.2 d hc).2.1;simp only[ZM d.2.2 om cO,aj,qra _ _ _ ha,he,nT,aD,aG]
theorem ZQ(s:Sl DD)(hL:GD s.l)(b:Bool)(k:Int)(t:Tx)(n:Int)(ks:F)(hs:ks.size+1<=4000)(cO:Tx)(c:CT)(h:fX s.l k t (ks.aq:Int) cO=some c):kI (s,⟨b,(tr k t n ks).flat⟩,cO,())=some (⟨true&&c.2.l.isEmpty,c.2.l.map (dH true ks.trees)⟩,true,()):=by
 have hx:(⟨b,(tr k t n ks).flat⟩:SN).l[0]?=some (k,t,n,(ks.aq:Int)):=rfl;have hk:(tr k t n ks).flat.length<=10000:=by rw[kO];omega
 have hl:=Cf k t n ks;obtain⟨nb,hc⟩:=Qr b _ hk hl;have hc:jG (⟨b,(tr k t n ks).flat⟩,0,())=some (⟨nb,ks.pos (0+1)⟩,()):=hc;have hq:=Ks hk ks 1 hl.node.2.1 (by rw[kO];omega);have ht:=F.cq ks;have hz:=F.eG ks;rw[Ms];unfold fX at h;cases hd:s.l.find? (nS k t (ks.aq:Int)) with
 |none=>rw[hd] at h;cases h
 |some d=>
  rw[hd] at h;have h:d.2.2.l.find? (fun x=>aM x.1 cO)=some c:=h;have hg:=zZ hd;obtain⟨g1,g2,g3⟩:=hL.2 d hg;have ha:d.2.2.l.any (fun c:CT=>aM c.1 cO)=true:=by
   cases hb:d.2.2.l.any (fun c:CT=>aM c.1 cO) with
   |true=>rfl
   |false=>rw[ZN hb] at h;cases h
  obtain⟨i,y,h1,h2,h3,h4⟩:=Kq (fun c:CT=>aM c.1 cO) d.2.2.l 0 ha;rw[h4] at h;injection h with h;subst h
  rw[zN] at h1;obtain⟨q1,q2,q3⟩:=g3 y (zj h2);have hu:aA (i:Int) 0=false:=zm om;rw[qbf s hL.1 _ _ hx hd,aj];simp only[ZM d.2.2 om cO,aj,h1,hu,nT,aD,hc];refine(tf vD (fun v a=>(⟨b,(tr k t n ks).flat⟩,(i:Int),⟨nb,ks.pos (0+1)⟩,aa (ks.pos (0+1)),v,d.1,d.2.1,d.2.2,a,())) (ks.iB 1)
   (fun(a:Sl (Int×SN)) e=>(⟨false,a.l++[((a.l.length:Int),⟨b,e.2⟩)]⟩:Sl (Int×SN))) (fun _=>(⟨true&&y.2.l.isEmpty,y.2.l.map (dH true ks.trees)⟩,true,())) (fun v a=>v<=ks.aq/\a.l=bl b 0 (ks.trees.take v)) ⟨true,[]⟩ ⟨Nat.zero_le _,rfl⟩ ?_ ?_)
  ·intro v e a hv hi;obtain⟨na,al⟩:=a;have hf:al=bl b 0 (ks.trees.take v):=hi.2;have hp:(ks.pos (0+1))[v]?=some e.1:=by rw[<-F.dD];exact getM hv
   have hm:ks.trees[v]?=some e.2:=by rw[<-F.dE ks 1];exact getM hv
   have hA:=fh hm;have hn:=hq e (zj hv);have he:al.length=v:=by rw[hf,Nw,zO];omega
   have hj:∀z:Int×SN,fit (aT (aa al) (aa [z]))=some ():=fun z=>iA (by show al.length+1<=_;omega);refine⟨?_,by omega,?_⟩
   ·unfold vD;simp only[cJ hp,aG,aQ hp,aj,hn.ends b,hn.cut,hj,uN,he,aI (show v<=1000000000 by omega)];rfl
   ·show al++[((al.length:Int),(⟨b,e.2⟩:SN))]=_;rw[qyf b hm,he,hf]
  ·intro a hi;obtain⟨na,al⟩:=a;have hw:(ks.iB 1).length=(ks.pos (0+1)).length:=by rw[<-F.dD ks 1,zA]
   have hy:(ks.iB 1).length=ks.trees.length:=by rw[<-F.dE ks 1,zA]
   have hf:al=bl b 0 ks.trees:=by have:=hi.2;rw[hy,List.take_length] at this;exact this
   have ho:=z5n na b ks.trees om (fun T hT=>by have:=ZO (Nat.le_refl ks.size) T hT;omega) y.2 q2 q3;rw[<-hf] at ho;unfold vD;simp only[hw,dB,aD,aQ h2,aj,ho]
theorem z1t{l:List ND}{e:Int×List ND}(h:z7f l e)(he:e.2.length<=1000000)(b:Bool):Bj (⟨b,l⟩,e.1,())=some (⟨false,e.2⟩,()):=by have hf:fit (aT (aa ([]:List ND)) (aa e.2))=some ():=iA (by show 0+e.2.length<=_;omega);rw[WG,h.Nu b,aj,h.cut,aj,hf,aj];rfl
theorem z1u(s:Sl DD)(nb b:Bool)(Ts:List (List ND))(hT:Ts.length<=10000)(hj:∀T,T∈Ts->T.length<=4000){i j:Nat}{d:DD}{c:CT}(hd:s.l[i]?=some d)(hc:d.2.2.l[j]?=some c)(ha:c.2.l.length<=1000)(hg:∀a,a∈c.2.l->gA a):aH sC (s,⟨nb,bl b 0 Ts⟩,(i:Int),(j:Int),0,⟨false,[]⟩,())=some (.inr (.inr (.inr (.inr (⟨false,c.2.l.map (dH false Ts)⟩,true,()))))):=by
 refine(tf sC (fun k a=>(s,⟨nb,bl b 0 Ts⟩,(i:Int),(j:Int),k,a,())) c.2.l (fun(a:Sl SN) x=>(⟨false,a.l++[dH false Ts x]⟩:Sl SN)) (fun a=>.inr (.inr (.inr (.inr (a,true,()))))) (fun k a=>k<=c.2.l.length/\a.l.length=k) ⟨false,[]⟩ ⟨Nat.zero_le _,rfl⟩ ?_ ?_).trans ?_
 ·intro k x a hx hi;obtain⟨na,al⟩:=a;have h2:al.length=k:=hi.2;have hk:=fh hx;obtain⟨bx,lx⟩:=x;have hl:=(hg _ (zj hx)).2;have hm:=qp4 nb b bx Ts hT hj lx hl;have he:∀y:SN,fit (aT (aa al) (aa [y]))=some ():=fun y=>iA (by show al.length+1<=_;omega);refine⟨?_,hk,by show(al++[_]).length=_;rw[zt,h2];rfl⟩;have hf:=aI (show k<=1000000000 by omega);unfold sC dH;simp only[aQ hd,aQ hc,cJ hx,aG,aQ hx,aj,hm];cases aA 4000 (aa (lx.foldl (iV Ts) ⟨false,[]⟩).l)<;>simp only[aG,aD,aj,he,uN,hf,cond_true,cond_false]<;>rfl
 ·intro a _;unfold sC;simp only[aQ hd,aQ hc,aj,dB,aD]
 ·rw[Qz];rfl
theorem qyg{α ρ:Type}(p:α->Bool)(g:α->ρ)(R:ρ)(l:List α)(k:Nat):scan (fun _ x=>bif p x then some (g x) else none) R k l=match l.find? p with|some x=>g x|none=>R:=by
 induction l generalizing k with
 |nil=>rfl
 |cons x r ih=>
  unfold scan;rw[List.find?_cons];cases p x with
  |false=>exact ih (k+1)
  |true=>rfl
theorem qyh(s:Sl DD)(hL:GD s.l)(t:SN)(cO:Tx)(nb b:Bool)(Ts:List (List ND))(hT:Ts.length<=10000)(he:∀T,T∈Ts->T.length<=4000){i:Nat}{d:DD}(hd:s.l[i]?=some d):aH sD (s,t,cO,⟨nb,bl b 0 Ts⟩,(i:Int),0,())=some (match d.2.2.l.find? (fun c:CT=>aM c.1 cO) with|some c=>.inr (.inr (.inr (⟨false,c.2.l.map (dH false Ts)⟩,true,())))|none=>.inl (s,t,cO,⟨nb,bl b 0 Ts⟩,(i:Int),())):=by
 obtain⟨g1,g2,g3⟩:=hL.2 d (zj hd);refine(kN sD (fun k=>(s,t,cO,⟨nb,bl b 0 Ts⟩,(i:Int),k,())) d.2.2.l om (fun _ c=>bif aM c.1 cO then some (.inr (.inr (.inr (⟨false,c.2.l.map (dH false Ts)⟩,true,())))) else none) (.inl (s,t,cO,⟨nb,bl b 0 Ts⟩,(i:Int),())) ?_ ?_).trans ?_
 ·intro j c hc hj;obtain⟨q1,q2,q3⟩:=g3 c (zj hc);unfold sD;simp only[aQ hd,cJ hc,aG,aQ hc,aj,z1u s nb b Ts hT he hd hc q2 q3,aI (show j<=1000000000 by omega)];cases aM c.1 cO<;>rfl
 ·unfold sD;simp only[aQ hd,aj,dB,aD]
 ·rw[qyg];cases d.2.2.l.find? (fun c:CT=>aM c.1 cO)<;>rfl
theorem qu0(s:Sl DD)(hL:GD s.l)(t:SN)(x:ND)(hx:t.l[0]?=some x)(cO:Tx)(nb b:Bool)(Ts:List (List ND))(hT:Ts.length<=10000)(hf:∀T,T∈Ts->T.length<=4000):aH sE (s,t,cO,⟨nb,bl b 0 Ts⟩,0,())=some (scan (fun _ d=>bif nS x.1 x.2.1 x.2.2.2 d then(match d.2.2.l.find? (fun c:CT=>aM c.1 cO) with|some c=>some (.inr (⟨false,c.2.l.map (dH false Ts)⟩,true,()))|none=>none) else none) (.inr (⟨true,[]⟩,false,())) 0 s.l):=by
 have h0:aE t.l 0=some x:=aQ (i:=0) hx;refine kN sE (fun k=>(s,t,cO,⟨nb,bl b 0 Ts⟩,k,())) s.l (by have:=hL.1;omega) _ _ ?_ ?_
 ·intro i d hd hi;have he:=aI (show i<=1000000000 by omega);have hc:=qyh s hL t cO nb b Ts hT hf hd;unfold sE nS;simp only[cJ hd,aG,aQ hd,h0,aj,hc];cases af x.1 32 with
  |false=>simp only[nF,aG,aj,Bool.false_and,cond_false];exact congrArg (fun z:Int=>some (Sum.inl (s,t,cO,(⟨nb,bl b 0 Ts⟩:Sl (Int×SN)),z,()))) he
  |true=>
   cases aM d.1 x.2.1 with
   |false=>simp only[nF,nT,aG,aD,aj,Bool.true_and,Bool.false_and,cond_false];exact congrArg (fun z:Int=>some (Sum.inl (s,t,cO,(⟨nb,bl b 0 Ts⟩:Sl (Int×SN)),z,()))) he
   |true=>
    cases af d.2.1 x.2.2.2 with
    |false=>simp only[nF,nT,aG,aD,aj,Bool.true_and,cond_false];exact congrArg (fun z:Int=>some (Sum.inl (s,t,cO,(⟨nb,bl b 0 Ts⟩:Sl (Int×SN)),z,()))) he
    |true=>
     simp only[nT,aD,aj,Bool.true_and,cond_true];cases d.2.2.l.find? (fun c:CT=>aM c.1 cO) with
     |none=>exact congrArg (fun z:Int=>some (Sum.inl (s,t,cO,(⟨nb,bl b 0 Ts⟩:Sl (Int×SN)),z,()))) he
     |some c=>rfl
 ·unfold sE;simp only[dB,aD]
theorem z7h{n:Tx}{l:List Tx}(h:bN (n::l)=false):n∉l/\bN l=false:=by unfold bN at h;rw[Bool.or_eq_false_iff] at h;exact⟨of_decide_eq_false h.1,h.2⟩
theorem qmw{ρ:Type}(k:Int)(t:Tx)(c:Int)(cO:Tx)(g:CT->ρ)(R:ρ):∀(L:List DD) (i:Nat),bN (L.map fun d=>d.1)=false->scan (fun _ d=>bif nS k t c d then(match d.2.2.l.find? (fun c:CT=>aM c.1 cO) with|some c=>some (g c)|none=>none) else none) R i L=match fX L k t c cO with|some c=>g c|none=>R
 |[],_,_=>rfl
 |d::r,i,h=>by
  obtain⟨h1,h2⟩:=z7h h;have ih:=qmw k t c cO g R r (i+1) h2;unfold scan fX;rw[List.find?_cons];cases hd:nS k t c d with
  |false=>simp only[cond_false];exact ih
  |true=>
   simp only[cond_true,Option.bind_some];cases hc:d.2.2.l.find? (fun x=>aM x.1 cO) with
   |some c=>rfl
   |none=>
    simp only;refine ih.trans ?_
    have hn:r.find? (nS k t c)=none:=by rw[List.find?_eq_none];intro d2 hm hp;refine h1 (zS.2 ⟨d2,hm,?_⟩);unfold nS at hd hp;simp only[zd] at hd hp;exact(bU.1 hp.2.1).trans (bU.1 hd.2.1).symm
    unfold fX;rw[hn];rfl
theorem qu1(s:Sl DD)(hL:GD s.l)(hn:bN (s.l.map fun d=>d.1)=false)(b:Bool)(k:Int)(t:Tx)(n:Int)(ks:F)(hs:ks.size+1<=4000)(cO:Tx):Bk (s,⟨b,(tr k t n ks).flat⟩,cO,())=some (match fX s.l k t (ks.aq:Int) cO with|some c=>(⟨false,c.2.l.map (dH false ks.trees)⟩,true,())|none=>(⟨true,[]⟩,false,())):=by
 have hx:(⟨b,(tr k t n ks).flat⟩:SN).l[0]?=some (k,t,n,(ks.aq:Int)):=rfl;have hl:(tr k t n ks).flat.length<=10000:=by rw[kO];omega
 have hm:=Cf k t n ks;have hc:=IK b _ hl hm;have hc:fV (⟨b,(tr k t n ks).flat⟩,0,())=some (⟨false,ks.pos (0+1)⟩,()):=hc;have ht:=Ks hl ks 1 hm.node.2.1 (by rw[kO];omega);have hu:=F.cq ks;have hA:=F.eG ks;have ho:∀T,T∈ks.trees->T.length<=4000:=fun T hT=>by have:=ZO (Nat.le_refl ks.size) T hT;omega
 rw[WI,hc,aj];refine(tf vO (fun v a=>(s,⟨b,(tr k t n ks).flat⟩,cO,⟨false,ks.pos (0+1)⟩,v,a,())) (ks.iB 1)
   (fun(a:Sl (Int×SN)) e=>(⟨false,a.l++[((a.l.length:Int),⟨false,e.2⟩)]⟩:Sl (Int×SN))) (fun _=>match fX s.l k t (ks.aq:Int) cO with|some c=>(⟨false,c.2.l.map (dH false ks.trees)⟩,true,())|none=>(⟨true,[]⟩,false,())) (fun v a=>v<=ks.aq/\a.l=bl false 0 (ks.trees.take v)) ⟨false,[]⟩ ⟨Nat.zero_le _,rfl⟩ ?_ ?_)
 ·intro v e a hv hi;obtain⟨na,al⟩:=a;have hf:al=bl false 0 (ks.trees.take v):=hi.2;have hp:(ks.pos (0+1))[v]?=some e.1:=by rw[<-F.dD];exact getM hv
  have hg:ks.trees[v]?=some e.2:=by rw[<-F.dE ks 1];exact getM hv
  have hB:=fh hg;have hw:=ht e (zj hv);have hj:=z1t hw (by have:=ho e.2 (zj hg);omega) b;have he:al.length=v:=by rw[hf,Nw,zO];omega
  have hk:∀z:Int×SN,fit (aT (aa al) (aa [z]))=some ():=fun z=>iA (by show al.length+1<=_;omega);refine⟨?_,by omega,?_⟩
  ·unfold vO;simp only[cJ hp,aG,aQ hp,aj,hj,hk,uN,he,aI (show v<=1000000000 by omega)];rfl
  ·show al++[((al.length:Int),(⟨false,e.2⟩:SN))]=_;rw[qyf false hg,he,hf]
 ·intro a hi;obtain⟨na,al⟩:=a;have hy:(ks.iB 1).length=(ks.pos (0+1)).length:=by rw[<-F.dD ks 1,zA]
  have hz:(ks.iB 1).length=ks.trees.length:=by rw[<-F.dE ks 1,zA]
  have hf:al=bl false 0 ks.trees:=by have:=hi.2;rw[hz,List.take_length] at this;exact this
  have hq:=qu0 s hL ⟨b,(tr k t n ks).flat⟩ _ hx cO na false ks.trees om ho;rw[<-hf,qmw k t (ks.aq:Int) cO _ _ s.l 0 hn] at hq;unfold vO;simp only[hy,dB,aD];refine hq.trans ?_;cases fX s.l k t (ks.aq:Int) cO<;>rfl
theorem ZR:∀(f g:F) (x y:List ND),f.flat++x=g.flat++y->f.aq=g.aq->f=g/\x=y
 |.nil,.nil,x,y,h,_=>⟨rfl,h⟩
 |.nil,.cons _ _ _ _ _,_,_,_,h=>by cases h
 |.cons _ _ _ _ _,.nil,_,_,_,h=>by cases h
 |.cons k t n ks r,.cons k' t' n' ks' r',x,y,h,hc=>by have h:(k,t,n,(ks.aq:Int))::((ks.flat++r.flat)++x)=(k',t',n',(ks'.aq:Int))::((ks'.flat++r'.flat)++y):=h;injection h with h1 h2;injection h1 with e1 h1;injection h1 with e2 h1;injection h1 with e3 e4;rw[zD,zD] at h2;obtain⟨g1,g2⟩:=ZR ks ks' _ _ h2 om;have hc:r.aq+1=r'.aq+1:=hc;obtain⟨g3,g4⟩:=ZR r r' _ _ g2 om;subst e1 e2 e3 g1 g3;exact⟨rfl,g4⟩
theorem Nx{k k':Int}{t t':Tx}{n n':Int}{ks ks':F}(h:(tr k t n ks).flat=(tr k' t' n' ks').flat):k=k'/\t=t'/\n=n'/\ks=ks':=by have:=(ZR (tr k t n ks) (tr k' t' n' ks') [] [] (by rw[zC,zC];exact h) rfl).1;injection this with h1 h2 h3 h4;exact⟨h1,h2,h3,h4⟩
open Classical in
noncomputable def ZS(T:List ND):List (List ND):=if h:∃ks:F,∃k t n,T=(tr k t n ks).flat then(Classical.choose h).trees else []
theorem z1v(k:Int)(t:Tx)(n:Int)(ks:F):ZS (tr k t n ks).flat=ks.trees:=by have h:∃ks':F,∃k' t' n',(tr k t n ks).flat=(tr k' t' n' ks').flat:=⟨ks,k,t,n,rfl⟩;unfold ZS;rw[dif_pos h];obtain⟨k',t',n',e⟩:=Classical.choose_spec h;rw[<-(Nx e).2.2.2]
def F.aL:F->List F
 |.nil=>[]
 |.cons k t n ks r=>tr k t n ks::r.aL
theorem F.bQ:∀f:F,f.aL.map F.flat=f.trees
 |.nil=>rfl
 |.cons k t n ks r=>by show _::_=_::_;rw[F.bQ r]
theorem F.cW(f:F):f.aL.length=f.aq:=by rw[<-F.eG,<-F.bQ,zA]
theorem F.cX:∀(f:F) (p:F),p∈f.aL->∃k t n ks,p=tr k t n ks/\ks.size+1<=f.size
 |.nil,_,h=>by cases h
 |.cons k t n ks r,p,h=>by
  rcases zu.1 h with h|h
  ·exact⟨k,t,n,ks,h,by show _<=ks.size+r.size+1;omega⟩
  ·obtain⟨k',t',n',ks',h1,h2⟩:=F.cX r p h;exact⟨k',t',n',ks',h1,by show _<=ks.size+r.size+1;omega⟩
theorem F.iW:∀f g:F,(f.app g).flat=f.flat++g.flat
 |.nil,_=>rfl
 |.cons k t n ks r,g=>by show _::(ks.flat++(r.app g).flat)=_::((ks.flat++r.flat)++g.flat);rw[F.iW r g,zD]
theorem F.fj:∀f g:F,(f.app g).aq=f.aq+g.aq
 |.nil,g=>(zN _).symm
 |.cons k t n ks r,g=>by show(r.app g).aq+1=r.aq+1+g.aq;rw[F.fj r g];omega
def IN(Fs:List F):F->F
 |.nil=>.nil
 |.cons k t n ks r=>(bif af k 31 then(if 0<=n then(Fs[n.toNat]?).getD (tr k t n ks) else tr k t n ks) else tr k t n (IN Fs ks)).app (IN Fs r)
theorem ZT(Fs:List F)(hF:∀f,f∈Fs->f.aq=1):∀f:F,(IN Fs f).aq=f.aq
 |.nil=>rfl
 |.cons k t n ks r=>by
  have h:(bif af k 31 then(if 0<=n then(Fs[n.toNat]?).getD (tr k t n ks) else tr k t n ks) else tr k t n (IN Fs ks)).aq=1:=by
   cases af k 31 with
   |false=>rfl
   |true=>
    rw[cond_true];split
    ·cases e:Fs[n.toNat]? with
     |none=>rfl
     |some f=>exact hF f (zj e)
    ·rfl
  unfold IN;rw[F.fj,h,ZT Fs hF r];show 1+r.aq=r.aq+1;omega
theorem z1w{x:ND}(h:fW x=true)(hc:af x.1 31=true):x.2.2.2=0:=by unfold fW at h;rw[hc,cond_true,zd] at h;exact aV.1 h.1
theorem ZU(Fs:List F)(hF:∀f,f∈Fs->f.aq=1):∀f:F,f.flat.all fW=true->vY (Fs.map F.flat) f.flat=(IN Fs f).flat
 |.nil,_=>rfl
 |.cons k t n ks r,h=>by
  have h:(fW (k,t,n,(ks.aq:Int))&&(ks.flat++r.flat).all fW)=true:=h;rw[zd,List.all_append,zd] at h;obtain⟨h1,h2,h3⟩:=h;have i1:=ZU Fs hF ks h2;have i2:=ZU Fs hF r h3;unfold IN;rw[F.iW,<-i2];show vY _ ((k,t,n,(ks.aq:Int))::(ks.flat++r.flat))=_;unfold vY at*
  rw[List.flatMap_cons,List.flatMap_append,<-zD];congr 1;unfold oh;cases hc:af k 31 with
  |false=>simp only[cond_false];rw[show oh (Fs.map F.flat)=fun x=>oh (Fs.map F.flat) x from rfl] at i1;unfold oh at i1;rw[i1,qg,ZT Fs hF];rfl
  |true=>
   have h0:=z1w h1 hc;obtain rfl:=Ko h0;simp only[cond_true];by_cases hn:0<=n
   ·rw[if_pos hn,if_pos hn,zU];cases Fs[n.toNat]? with
    |none=>rfl
    |some f=>show f.flat++[]=f.flat;rw[zC]
   ·rw[if_neg hn,if_neg hn];rfl
theorem oi:∀f:F,f.aq=1->∃k t n ks,f=tr k t n ks
 |.nil,h=>by cases h
 |.cons k t n ks r,h=>by
  have h:r.aq+1=1:=h;cases r with
  |nil=>exact⟨k,t,n,ks,rfl⟩
  |cons _ _ _ _ r'=>have h:r'.aq+1+1=1:=h;omega
theorem BA(T:List ND):jN T=true↔T.length<=4000/\T.all fW=true/\∃k t n ks,T=(tr k t n ks).flat:=by unfold jN;rw[zd,zd,decide_eq_true_eq,ED];exact⟨fun⟨a,b,c⟩=>⟨a,c,b⟩,fun⟨a,c,b⟩=>⟨a,b,c⟩⟩
theorem qyi{k:Int}{t:Tx}{n:Int}{ks:F}(h:jN (tr k t n ks).flat=true):∀T,T∈ks.trees->jN T=true:=by
 intro T hT;obtain⟨h1,h2,_⟩:=(BA _).1 h;rw[kO] at h1;have hs:=ZO (Nat.le_refl ks.size) T hT;rw[<-F.bQ] at hT;obtain⟨p,hp,e⟩:=zS.1 hT;obtain⟨k',t',n',ks',hc,_⟩:=F.cX ks p hp;refine(BA T).2 ⟨by omega,?_,⟨k',t',n',ks',by rw[<-e,hc]⟩⟩;rw[qg,List.all_cons,zd] at h2;have hm:∀x,x∈T->x∈ks.flat:=fun x hx=>by rw[<-F.dF,<-F.bQ];exact List.mem_flatten.2 ⟨T,zS.2 ⟨p,hp,e⟩,hx⟩
 exact zJ.2 fun x hx=>zJ.1 h2.2 x (hm x hx)
theorem QA{k:Int}{t:Tx}{n:Int}{ks:F}(h:jN (tr k t n ks).flat=true){a:List ND}(ha:jN a=true):jN (fi ks.trees a)=true:=by
 unfold fi;cases hb:aA 4000 (aa (vY ks.trees a)) with
 |true=>kernel_rfl
 |false=>
  rw[cond_false];have hb:¬(4000:Int)<((vY ks.trees a).length:Int):=of_decide_eq_false hb;obtain⟨a1,a2,k',t',n',ks',e⟩:=(BA a).1 ha;have hF:∀f,f∈ks.aL->f.aq=1:=fun f hf=>by obtain⟨_,_,_,_,h1,_⟩:=F.cX ks f hf;rw[h1];rfl
  refine(BA _).2 ⟨by omega,?_,?_⟩
  ·refine zJ.2 fun x hx=>?_;obtain⟨y,hy,hx⟩:=List.mem_flatMap.1 hx;have hc:=zJ.1 a2 y hy;unfold oh at hx;have single:x∈[y]->fW x=true:=fun hx=>by rw[zI] at hx;rw[hx];exact hc
   cases hq:af y.1 31 with
   |false=>rw[hq,cond_false] at hx;exact single hx
   |true=>
    rw[hq,cond_true] at hx;split at hx
    ·cases hT:ks.trees[y.2.2.1.toNat]? with
     |none=>rw[hT] at hx;exact single hx
     |some T=>rw[hT] at hx;have:=(BA T).1 (qyi h T (zj hT));exact zJ.1 this.2.1 x hx
    ·exact single hx
  ·subst e;rw[<-F.bQ,ZU ks.aL hF _ a2];obtain⟨k2,t2,n2,IP,e2⟩:=oi _ (ZT ks.aL hF (tr k' t' n' ks'));exact⟨k2,t2,n2,IP,by rw[e2]⟩
def hd(T:List ND):ND:=T.headD (0,[],0,0)
noncomputable def iC(L:List DD)(T:List ND)(cO:Tx):Option (List (List ND)):=(fX L (hd T).1 (hd T).2.1 (hd T).2.2.2 cO).map fun c=>c.2.l.map fun a=>fi (ZS T) a.l
noncomputable def FL(L:List DD)(T:List ND)(k:Int)(t:Tx)(c:Nat)(rec:List (List ND)->Bool):Bool:=
 bif af k 21||af k 22 then true else bif af k 23||af k 51 then aM (hd T).2.1 [105,110,116] else bif af k 52 then aM (hd T).2.1 [116,101,120,116] else
  bif af k 54 then af (hd T).1 31||(aM (hd T).2.1 [45,62]||aM (hd T).2.1 [114,101,102]) else
   match iC L T t with
   |none=>false
   |some As=>decide (As.length=c)&&rec As
noncomputable def iD(L:List DD):F->List (List ND)->Bool
 |.nil,_=>true
 |.cons _ _ _ _ _,[]=>false
 |.cons k t _ ks r,T::Ts=>FL L T k t ks.aq (fun As=>iD L ks As)&&iD L r Ts
theorem FM(L:List DD)(k:Int)(t:Tx)(n:Int)(ks:F)(T:List ND):iD L (tr k t n ks) [T]=FL L T k t ks.aq (fun As=>iD L ks As):=by show(FL L T k t ks.aq (fun As=>iD L ks As)&&true)=_;rw[Bool.and_true]
theorem Kt(L:List DD):∀(f:F) (As:List (List ND)),As.length=f.aq->iD L f As=(f.aL.zip As).all fun z=>iD L z.1 [z.2]
 |.nil,[],_=>rfl
 |.nil,_::_,h=>by cases h
 |.cons _ _ _ _ _,[],h=>by cases h
 |.cons k t n ks r,T::Ts,h=>by show(FL L T k t ks.aq (fun As=>iD L ks As)&&iD L r Ts)=(((tr k t n ks,T)::r.aL.zip Ts).all _);rw[List.all_cons,Kt L r Ts (by have h:Ts.length+1=r.aq+1:=h;omega),FM]
theorem Ny{L:List DD}{k:Int}{t:Tx}{c:Int}{cO:Tx}{x:CT}(h:fX L k t c cO=some x):∃d,d∈L/\x∈d.2.2.l/\nS k t c d=true/\aM x.1 cO=true:=by
 unfold fX at h;cases hd:L.find? (nS k t c) with
 |none=>rw[hd] at h;cases h
 |some d=>rw[hd] at h;have h:d.2.2.l.find? (fun x=>aM x.1 cO)=some x:=h;exact⟨d,zZ hd,zZ h,List.find?_some hd,List.find?_some (p:=fun x:CT=>aM x.1 cO) h⟩
theorem QB{L:List DD}(he:L.all iU=true){d:DD}(hd:d∈L){c:CT}(hc:c∈d.2.2.l):eJ c.1=true/\c.2.l.length<=8/\(∀a,a∈c.2.l->jN a.l=true)/\d.2.1<=8/\0<=d.2.1/\eJ d.1=true:=by have h1:=zJ.1 he d hd;unfold iU at h1;simp only[zd] at h1;obtain⟨g0,g1,g2,g3,g4,g5⟩:=h1;have h2:=zJ.1 g5 c hc;unfold Ci at h2;simp only[zd] at h2;have e1:aa c.2.l<=8:=zM h2.2.1;have e2:d.2.1<=8:=zM g2;have e3:0<=d.2.1:=zM g1;refine⟨h2.1,by unfold aa at e1;omega,fun a ha=>?_,e2,e3,g0⟩;have h3:=zJ.1 h2.2.2 a ha;unfold xq at h3;rw[zd] at h3;exact h3.1
theorem qmy{P:ND->Bool}{ks:F}(h:ks.flat.all P=true):∀p,p∈ks.aL->p.flat.all P=true:=by intro p hp;refine zJ.2 fun x hx=>zJ.1 h x ?_;rw[<-F.dF,<-F.bQ];exact List.mem_flatten.2 ⟨p.flat,zS.2 ⟨p,hp,rfl⟩,hx⟩
theorem Nz(L:List DD)(k:Int)(t:Tx)(n:Int)(ks:F)(cO:Tx):iC L (tr k t n ks).flat cO=(fX L k t (ks.aq:Int) cO).map fun c=>c.2.l.map fun a=>fi ks.trees a.l:=by unfold iC;rw[z1v];rfl
def xr(x:ND):Bool:=bf 21 x.1&&bf x.1 24
def xt(x:ND):Bool:=bf 51 x.1&&bf x.1 54
theorem NA(a b:Nat):af ((a:Nat):Int) ((b:Nat):Int)=decide (a=b):=by
 by_cases h:a=b
 ·subst h;rw[xL,zn rfl]
 ·rw[jW om,zm h]
theorem ZV{ks:F}{As:List (List ND)}{i:Nat}{z:F×List ND}(h:(ks.aL.zip As)[i]?=some z):ks.aL[i]?=some z.1/\As[i]?=some z.2:=by rw[List.getElem?_zip_eq_some] at h;exact h
theorem ZW(s:Sl DD)(hL:GD s.l)(hq:s.l.all iU=true):∀(M:Nat) (k:Int) (t:Tx) (n:Int) (ks:F),ks.size+1<=M->ks.size+1<=4000->(tr k t n ks).flat.all xr=true->∀(T:SN) (b2:Bool),jN T.l=true->∀N,M<=N->aU p4 N (s,T,⟨b2,(tr k t n ks).flat⟩,())=some (iD s.l (tr k t n ks) [T.l],()):=by
 intro M
 induction M with
 |zero=>intro k t n ks h;omega
 |succ M ih=>
  intro k t n ks hM hG hP T b2 hT N hN;obtain⟨b,T⟩:=T;cases N with
  |zero=>omega
  |succ N=>
   obtain⟨hs,hH,k',t',n',ks',ht⟩:=(BA T).1 hT;subst ht;rw[kO] at hs;have h0:aE (tr k t n ks).flat 0=some (k,t,n,(ks.aq:Int)):=aQ (i:=0) rfl;have h1:aE (tr k' t' n' ks').flat 0=some (k',t',n',(ks'.aq:Int)):=aQ (i:=0) rfl;show p4 (aU p4 N) _=_;rw[VE,FM];simp only[h0,h1,aj];rw[qg,List.all_cons,zd] at hP;have hj:=hP.1;unfold xr at hj;rw[zd] at hj;have k1:(21:Int)<=k:=zM hj.1;have k2:k<=(24:Int):=zM hj.2;unfold FL;rw[jW (show k≠51 by omega),jW (show k≠52 by omega),jW (show k≠54 by omega)];by_cases Kn:k=24
   ·subst Kn;have z1:af 24 21=false:=rfl;have z2:af 24 22=false:=rfl;have z3:af 24 23=false:=rfl;have z4:af 24 24=true:=rfl;simp only[z1,z2,z3,z4,aD,aG,cond_false,Bool.or_false];rw[qwy,h0,aj,Nz];obtain⟨NB,he⟩:=Nv b2 24 t n ks om;cases hc:fX s.l k' t' (ks'.aq:Int) t with
    |none=>rw[ZP s hL b k' t' n' ks' om t hc];simp only[aj,he,nF,aG,Option.map_none]
    |some c=>
     obtain⟨d,hu,hv,hI,hJ⟩:=Ny hc;obtain⟨r1,r2,r3,r4,r5,r6⟩:=QB hq hu hv;rw[ZQ s hL b k' t' n' ks' om t c hc];have hw:aa (c.2.l.map (dH true ks'.trees))=((c.2.l.length:Nat):Int):=by unfold aa;rw[zA]
     have hx:aa (ks.trees.map fun l=>(⟨b2,l⟩:SN))=((ks.aq:Nat):Int):=by unfold aa;rw[zA,F.eG]
     have hl:(c.2.l.map fun a=>fi ks'.trees a.l).length=c.2.l.length:=zA _;simp only[aj,he,nT,aD,hw,hx,NA,Option.map_some,hl];by_cases hk:c.2.l.length=ks.aq
     ·rw[zn hk];simp only[nT,aD,Bool.true_and];rw[Kt s.l ks _ (by rw[hl];exact hk)];have hm:(ks.aL.zip (c.2.l.map fun a=>fi ks'.trees a.l)).length=ks.aq:=by rw[List.length_zip,F.cW,hl,hk,Nat.min_self]
      have hy:=F.cq ks;refine(EG (kN (Qi (aU p4 N)) (fun i=>(s,⟨true&&c.2.l.isEmpty,c.2.l.map (dH true ks'.trees)⟩,⟨NB,ks.trees.map fun l=>(⟨b2,l⟩:SN)⟩,((ks.aq:Nat):Int),i,())) (ks.aL.zip (c.2.l.map fun a=>fi ks'.trees a.l)) om
       (fun _ z=>bif iD s.l z.1 [z.2] then none else some (false,())) (true,()) ?_ ?_) _).trans ?_
      ·intro i z hz hi;obtain⟨p,A⟩:=z;obtain⟨ho,hg⟩:=ZV hz;have hK:=fh hz;have hp:=zj ho;obtain⟨kp,tp,np,Ck,hA,hO⟩:=F.cX ks p hp;have hB:=qmy hP.2 p hp;subst hA;have hC:(ks.trees.map fun l=>(⟨b2,l⟩:SN))[i]?=some ⟨b2,(tr kp tp np Ck).flat⟩:=by rw[<-F.bQ];exact getM (getM ho)
       rw[zU] at hg;cases ha:c.2.l[i]? with
       |none=>rw[ha] at hg;cases hg
       |some a=>
        rw[ha] at hg;injection hg with hg;have hE:(c.2.l.map (dH true ks'.trees))[i]?=some (dH true ks'.trees a):=getM ha;have hF:jN (dH true ks'.trees a).l=true:=by rw[IM];exact QA hT (r3 a (zj ha))
        have hf:=ih kp tp np Ck om om hB (dH true ks'.trees a) b2 hF N om;rw[IM,show fi ks'.trees a.l=A from hg] at hf;have hn:aA (i:Int) ((ks.aq:Nat):Int)=true:=zn om;unfold Qi;simp only[hn,aG,aQ hC,aQ hE,aj,qsx,hf,aI (show i<=1000000000 by omega)];cases iD s.l (tr kp tp np Ck) [A]<;>rfl
      ·have hn:aA ((ks.aq:Nat):Int) ((ks.aq:Nat):Int)=false:=zm om;unfold Qi;simp only[hm,hn,aD]
      ·rw[FK];cases (ks.aL.zip (c.2.l.map fun a=>fi ks'.trees a.l)).all (fun z=>iD s.l z.1 [z.2])<;>rfl
     ·rw[zm hk];simp only[nF,aG,aj,Bool.false_and]
   ·rw[jW Kn];by_cases Nl:k=23
    ·subst Nl;rfl
    ·rw[jW Nl];by_cases sL:k=22
     ·subst sL;rfl
     ·have:k=21:=om
      subst this;rfl
theorem z8g(s:Sl DD)(hL:GD s.l)(hq:s.l.all iU=true):∀(M:Nat) (k:Int) (t:Tx) (n:Int) (ks:F),ks.size+1<=M->ks.size+1<=4000->(tr k t n ks).flat.all xt=true->∀(T:SN) (b2:Bool),jN T.l=true->∀N,M<=N->aU rA N (s,T,⟨b2,(tr k t n ks).flat⟩,())=some (iD s.l (tr k t n ks) [T.l],()):=by
 intro M
 induction M with
 |zero=>intro k t n ks h;omega
 |succ M ih=>
  intro k t n ks hM hG hP T b2 hT N hN;obtain⟨b,T⟩:=T;cases N with
  |zero=>omega
  |succ N=>
   obtain⟨hs,hH,k',t',n',ks',ht⟩:=(BA T).1 hT;subst ht;rw[kO] at hs;have h0:aE (tr k t n ks).flat 0=some (k,t,n,(ks.aq:Int)):=aQ (i:=0) rfl;have h1:aE (tr k' t' n' ks').flat 0=some (k',t',n',(ks'.aq:Int)):=aQ (i:=0) rfl;show rA (aU rA N) _=_;rw[WN,FM];simp only[h0,h1,aj];rw[qg,List.all_cons,zd] at hP;have hj:=hP.1;unfold xt at hj;rw[zd] at hj;have k1:(51:Int)<=k:=zM hj.1;have k2:k<=(54:Int):=zM hj.2;unfold FL;rw[jW (show k≠21 by omega),jW (show k≠22 by omega),jW (show k≠23 by omega)];by_cases Kn:k=53
   ·subst Kn;have z1:af 53 51=false:=rfl;have z2:af 53 52=false:=rfl;have z3:af 53 54=false:=rfl;simp only[z1,z2,z3,aD,cond_false,Bool.or_false];rw[qmg,h0,aj,Nz];obtain⟨NB,he⟩:=Nv b2 53 t n ks om;cases hc:fX s.l k' t' (ks'.aq:Int) t with
    |none=>rw[ZP s hL b k' t' n' ks' om t hc];simp only[aj,he,nF,aG,Option.map_none]
    |some c=>
     obtain⟨d,hu,hv,hI,hJ⟩:=Ny hc;obtain⟨r1,r2,r3,r4,r5,r6⟩:=QB hq hu hv;rw[ZQ s hL b k' t' n' ks' om t c hc];have hw:aa (c.2.l.map (dH true ks'.trees))=((c.2.l.length:Nat):Int):=by unfold aa;rw[zA]
     have hx:aa (ks.trees.map fun l=>(⟨b2,l⟩:SN))=((ks.aq:Nat):Int):=by unfold aa;rw[zA,F.eG]
     have hl:(c.2.l.map fun a=>fi ks'.trees a.l).length=c.2.l.length:=zA _;simp only[aj,he,nT,aD,hw,hx,NA,Option.map_some,hl];by_cases hk:c.2.l.length=ks.aq
     ·rw[zn hk];simp only[nT,aD,Bool.true_and];rw[Kt s.l ks _ (by rw[hl];exact hk)];have hm:(ks.aL.zip (c.2.l.map fun a=>fi ks'.trees a.l)).length=ks.aq:=by rw[List.length_zip,F.cW,hl,hk,Nat.min_self]
      have hy:=F.cq ks;refine(EG (kN (Ql (aU rA N)) (fun i=>(s,⟨true&&c.2.l.isEmpty,c.2.l.map (dH true ks'.trees)⟩,⟨NB,ks.trees.map fun l=>(⟨b2,l⟩:SN)⟩,((ks.aq:Nat):Int),i,())) (ks.aL.zip (c.2.l.map fun a=>fi ks'.trees a.l)) om
       (fun _ z=>bif iD s.l z.1 [z.2] then none else some (false,())) (true,()) ?_ ?_) _).trans ?_
      ·intro i z hz hi;obtain⟨p,A⟩:=z;obtain⟨ho,hg⟩:=ZV hz;have hK:=fh hz;have hp:=zj ho;obtain⟨kp,tp,np,Ck,hA,hO⟩:=F.cX ks p hp;have hB:=qmy hP.2 p hp;subst hA;have hC:(ks.trees.map fun l=>(⟨b2,l⟩:SN))[i]?=some ⟨b2,(tr kp tp np Ck).flat⟩:=by rw[<-F.bQ];exact getM (getM ho)
       rw[zU] at hg;cases ha:c.2.l[i]? with
       |none=>rw[ha] at hg;cases hg
       |some a=>
        rw[ha] at hg;injection hg with hg;have hE:(c.2.l.map (dH true ks'.trees))[i]?=some (dH true ks'.trees a):=getM ha;have hF:jN (dH true ks'.trees a).l=true:=by rw[IM];exact QA hT (r3 a (zj ha))
        have hf:=ih kp tp np Ck om om hB (dH true ks'.trees a) b2 hF N om;rw[IM,show fi ks'.trees a.l=A from hg] at hf;have hn:aA (i:Int) ((ks.aq:Nat):Int)=true:=zn om;unfold Ql;simp only[hn,aG,aQ hC,aQ hE,aj,qom,hf,aI (show i<=1000000000 by omega)];cases iD s.l (tr kp tp np Ck) [A]<;>rfl
      ·have hn:aA ((ks.aq:Nat):Int) ((ks.aq:Nat):Int)=false:=zm om;unfold Ql;simp only[hm,hn,aD]
      ·rw[FK];cases (ks.aL.zip (c.2.l.map fun a=>fi ks'.trees a.l)).all (fun z=>iD s.l z.1 [z.2])<;>rfl
     ·rw[zm hk];simp only[nF,aG,aj,Bool.false_and]
   ·by_cases ZX:k=51
    ·subst ZX;rfl
    ·rw[jW ZX];by_cases ZY:k=52
     ·subst ZY;rfl
     ·rw[jW ZY];have:k=54:=om
      subst this;have z3:af 54 54=true:=rfl;simp only[z3,aG,aD,cond_true,cond_false,Bool.or_false,hd,List.headD_cons,qg];cases af k' 31<;>cases aM t' [45,62]<;>cases aM t' [114,101,102]<;>rfl
theorem z8h(s:Sl DD)(hL:GD s.l)(hy:s.l.all iU=true)(hn:bN (s.l.map fun d=>d.1)=false)(b2:Bool)(l:List ND)(hl:l.length<=4000):∀(M:Nat) (q:Nat) (k:Int) (t:Tx) (n:Int) (ks:F),ks.size+1<=M->cg l q (tr k t n ks)->∀(T:SN),jN T.l=true->∀N,M<=N->aU uK N (s,T,⟨b2,l⟩,(q:Int),())=some (iD s.l (tr k t n ks) [T.l],()):=by
 intro M
 induction M with
 |zero=>intro q k t n ks h;omega
 |succ M ih=>
  intro q k t n ks hM hs T hT N hN;obtain⟨b,T⟩:=T;cases N with
  |zero=>omega
  |succ N=>
   obtain⟨hA,hR,k',t',n',ks',hB⟩:=(BA T).1 hT;subst hB;rw[kO] at hA;have hf:=hs.node;have h0:aE l (q:Int)=some (k,t,n,(ks.aq:Int)):=aQ hf.1;have h1:aE (tr k' t' n' ks').flat 0=some (k',t',n',(ks'.aq:Int)):=aQ (i:=0) rfl;have hg:=IK b2 l om hs;have hC:q+1<=l.length:=by have:=hf.2.2.2;omega
   have hE:=Ks om ks (q+1) hf.2.1 hC;show uK (aU uK N) _=_;rw[WJ,FM];unfold FL;simp only[h0,h1,aj]
   have cO:(ag (aE l (q:Int)) fun x7=>ag (Bk (s,⟨b,(tr k' t' n' ks').flat⟩,x7.2.1,())) fun x8=>ag (fV (⟨b2,l⟩,(q:Int),())) fun x9=>ag (ak (aw x8.2.1) (some true) (some (aw (af (aa x8.1.l) (aa x9.1.l))))) fun Nd=>
     ak Nd (some (false,())) (aH (sF (aU uK N)) (s,⟨b2,l⟩,x8.1,x9.1,0,())))=some (match iC s.l (tr k' t' n' ks').flat t with|none=>false|some As=>decide (As.length=ks.aq)&&iD s.l ks As,()):=by
    rw[h0,aj,Nz,qu1 s hL hn b k' t' n' ks' om t];cases hc:fX s.l k' t' (ks'.aq:Int) t with
    |none=>simp only[aj,hg,nF,aG,Option.map_none]
    |some c=>
     obtain⟨d,hF,hG,hS,hU⟩:=Ny hc;obtain⟨r1,r2,r3,r4,r5,r6⟩:=QB hy hF hG;have hH:aa (c.2.l.map (dH false ks'.trees))=((c.2.l.length:Nat):Int):=by unfold aa;rw[zA]
     have hq:aa (ks.pos (q+1))=((ks.aq:Nat):Int):=by unfold aa;rw[F.dG]
     have ht:(c.2.l.map fun a=>fi ks'.trees a.l).length=c.2.l.length:=zA _;simp only[aj,hg,nT,aD,hH,hq,NA,Option.map_some,ht];by_cases ho:c.2.l.length=ks.aq
     ·rw[zn ho];simp only[nT,aD,Bool.true_and];rw[Kt s.l ks _ (by rw[ht];exact ho)];have hu:(ks.aL.zip (c.2.l.map fun a=>fi ks'.trees a.l)).length=ks.aq:=by rw[List.length_zip,F.cW,ht,ho,Nat.min_self]
      have hI:=F.cq ks;have hV:=hf.2.2.2;refine(kN (sF (aU uK N)) (fun i=>(s,⟨b2,l⟩,⟨false,c.2.l.map (dH false ks'.trees)⟩,⟨false,ks.pos (q+1)⟩,i,())) (ks.aL.zip (c.2.l.map fun a=>fi ks'.trees a.l)) om
       (fun _ z=>bif iD s.l z.1 [z.2] then none else some (false,())) (true,()) ?_ ?_).trans ?_
      ·intro i z hz hi;obtain⟨p,A⟩:=z;obtain⟨hw,hk⟩:=ZV hz;have hW:=fh hz;have hp:=zj hw;obtain⟨kp,tp,np,Ck,hJ,hX⟩:=F.cX ks p hp;subst hJ
       have hY:(ks.iB (q+1)).length=ks.aq:=by rw[<-F.dG ks (q+1),<-F.dD,zA]
       obtain⟨e,he⟩:∃e,(ks.iB (q+1))[i]?=some e:=⟨_,ze om⟩;have hx:(ks.pos (q+1))[i]?=some e.1:=by rw[<-F.dD];exact getM he
       have hm:(ks.trees)[i]?=some e.2:=by rw[<-F.dE ks (q+1)];exact getM he
       rw[<-F.bQ,zU,hw] at hm;injection hm with hm;obtain⟨q2,k2,t2,n2,IP,hK,hO⟩:=(hE e (zj he)).ZI;rw[hK] at hm hx;obtain⟨u1,u2,u3,u4⟩:=Nx hm;subst u1 u2 u3 u4;rw[zU] at hk;cases ha:c.2.l[i]? with
       |none=>rw[ha] at hk;cases hk
       |some a=>
        rw[ha] at hk;injection hk with hk;have hP:(c.2.l.map (dH false ks'.trees))[i]?=some (dH false ks'.trees a):=getM ha;have hQ:jN (dH false ks'.trees a).l=true:=by rw[IM];exact QA hT (r3 a (zj ha))
        have hj:=ih q2 kp tp np Ck om hO (dH false ks'.trees a) hQ N om;rw[IM,show fi ks'.trees a.l=A from hk] at hj;have hv:aA (i:Int) ((ks.aq:Nat):Int)=true:=zn om;unfold sF;simp only[hq,hv,aG,aQ hx,aQ hP,aj,hj,aI (show i<=1000000000 by omega)];cases iD s.l (tr kp tp np Ck) [A]<;>rfl
      ·have hv:aA ((ks.aq:Nat):Int) ((ks.aq:Nat):Int)=false:=zm om;unfold sF;simp only[hu,hq,hv,aD]
      ·rw[FK];cases (ks.aL.zip (c.2.l.map fun a=>fi ks'.trees a.l)).all (fun z=>iD s.l z.1 [z.2])<;>rfl
     ·rw[zm ho];simp only[nF,aG,Bool.false_and]
   cases vT:af k 21 with
   |true=>rfl
   |false=>
    simp only[aD,aj];cases sL:af k 22 with
    |true=>rfl
    |false=>
     simp only[aD];cases Nl:af k 23 with
     |true=>rfl
     |false=>
      simp only[aD,aj];cases ZX:af k 51 with
      |true=>rfl
      |false=>
       simp only[aD,Bool.or_false,cond_false];cases ZY:af k 52 with
       |true=>rfl
       |false=>
        simp only[aD,cond_false];cases e54:af k 54 with
        |true=>simp only[aG,cond_true,h1,aj,show hd (tr k' t' n' ks').flat=(k',t',n',(ks'.aq:Int)) from rfl];cases af k' 31<;>cases aM t' [45,62]<;>cases aM t' [114,101,102]<;>rfl
        |false=>simp only[aD,cond_false];exact cO
def lH(x:ND):Bool:=bif af x.1 51 then aM x.2.1 []&&(af x.2.2.2 0&&s7 x.2.2.1) else bif af x.1 52 then af x.2.2.1 0&&(af x.2.2.2 0&&bf (aa x.2.1) 200) else
 bif af x.1 53 then af x.2.2.1 0&&eJ x.2.1 else bif af x.1 54 then aM x.2.1 []&&(af x.2.2.1 0&&af x.2.2.2 0) else false
def pF(l:List ND):Bool:=decide (l.length<=4000)&&(s6 l&&l.all lH)
theorem qu2(x:ND)(hx:IL x):uF (x,())=some (lH x,()):=by
 obtain⟨a,t,n,c⟩:=x;obtain⟨v,hv,hw⟩:=qhy n hx.2.2;have hc:=Zj (s:=t) hx.1;rw[V6];unfold lH;simp only[hv,hc,aj,hw];cases af a 51 with
 |true=>cases aM t []<;>cases af c 0<;>rfl
 |false=>
  cases af a 52 with
  |true=>cases af n 0<;>cases af c 0<;>rfl
  |false=>
   cases af a 53 with
   |true=>cases af n 0<;>rfl
   |false=>cases af a 54<;>rfl
theorem qyk(b:Bool)(l:List ND)(hl:l.length<=1000000)(hg:GL l):uH (⟨b,l⟩,())=some (!l.all lH,()):=by
 have e:aH rY (⟨b,l⟩,aa l,0,())=some (fe (fun x=>!lH x) 0 l,()):=by
  refine pE rY (fun k=>(⟨b,l⟩,aa l,k,())) (fun z=>(z,())) l hl (fun x=>!lH x) ?_ ?_
  ·intro k x hx hk;obtain⟨a,t,n,c⟩:=x;unfold rY;simp only[cJ hx,aG,aQ hx,aj,V7,qu2 _ (hg.at hx),aI (show k<=1000000000 by omega),aw];cases lH (a,t,n,c)<;>rfl
  ·unfold rY;simp only[dB,aD]
 rw[V9,V8];refine(EG e _).trans ?_;rw[xo,List.not_all_eq_any_not]
theorem ZZ(b:Bool)(l:List ND)(hl:l.length<=10000)(hg:GL l):rm (⟨b,l⟩,())=some (pF l,()):=by
 have hc:bf (aa l) 4000=decide (l.length<=4000):=by unfold bf aa;exact decide_eq_decide.2 om
 rw[Wa,qyk b l om hg,Kl b l hl];simp only[hc];unfold pF;cases decide (l.length<=4000)<;>cases s6 l<;>cases l.all lH<;>rfl
theorem z7i{x:ND}(h:lH x=true):xt x=true:=by
 unfold lH at h;unfold xt;by_cases h1:x.1=51
 ·rw[h1];rfl
 ·rw[jW h1,cond_false] at h;by_cases h2:x.1=52
  ·rw[h2];rfl
  ·rw[jW h2,cond_false] at h;by_cases h3:x.1=53
   ·rw[h3];rfl
   ·rw[jW h3,cond_false] at h;by_cases h4:x.1=54
    ·rw[h4];rfl
    ·rw[jW h4] at h;cases h
theorem Z0{m odd:Bool}:∀f:F,fM m true odd f=0->f.flat.all xr=true
 |.nil,_=>rfl
 |.cons k t n ks r,h=>by obtain⟨h1,h2⟩:=fG.1 h;rw[Bool.true_or] at h1;obtain⟨h3,h4⟩:=fF.1 h1;obtain⟨_,h5,_⟩:=eF.1 h3;show((k,t,n,(ks.aq:Int))::(ks.flat++r.flat)).all xr=true;rw[List.all_cons,List.all_append,Z0 ks h4,Z0 r h2,Bool.and_true,Bool.and_true];exact h5
termination_by structural f=>f
theorem z5p{k:Int}{t:Tx}{n:Int}{ks:F}(h:jZ k t n ks true=0):(tr k t n ks).flat.all xr=true:=by obtain⟨_,h2,_⟩:=qk.1 h;obtain⟨h3,h4⟩:=fF.1 h2;obtain⟨_,h5,_⟩:=eF.1 h3;rw[qg,List.all_cons,Z0 ks h4,Bool.and_true];exact h5
def Z1(p:List ND):Prop:=∃k t n ks,p=(tr k t n ks).flat/\jZ k t n ks true=0
theorem qrj(p:List ND)(hp:p.length<=4000)(hg:GL p):∃e:Int,(∀b,nE (⟨b,p⟩,())=some (e,()))/\(∀b,xf (⟨b,p⟩,true,())=some (e,()))/\(e=0↔Z1 p):=by
 rcases z5f p with h|⟨k,t,n,ks,h⟩
 ·refine⟨60,fun b=>z1m b p hp h,fun b=>qoy b p hp true h,fun e=>by omega,fun⟨k,t,n,ks,e,_⟩=>?_⟩;rw[(ED p).2 ⟨k,t,n,ks,e⟩] at h;cases h
 ·subst h;rw[kO] at hp;refine⟨jZ k t n ks true,fun b=>Zz b k t n ks hp hg,fun b=>qox b k t n ks true hp hg,fun e=>⟨k,t,n,ks,rfl,e⟩,fun⟨k',t',n',ks',e,h⟩=>?_⟩;obtain⟨u1,u2,u3,u4⟩:=Nx e;subst u1 u2 u3 u4;exact h
def NC(L:List DD)(T p:List ND):Prop:=∃k t n ks,p=(tr k t n ks).flat/\jZ k t n ks true=0/\iD L (tr k t n ks) [T]=true
theorem Ku{L:List DD}(h:qD L=true):L.all iU=true/\bN (L.map fun d=>d.1)=false/\bN (l7 L)=false/\L.length<=60:=by unfold qD at h;simp only[zd,Bool.not_eq_true'] at h;exact⟨h.2.1,h.2.2.1,h.2.2.2.1,zM h.1⟩
theorem z8i(s:Sl DD)(hL:GD s.l)(hc:s.l.all iU=true)(k:Int)(t:Tx)(n:Int)(ks:F)(hs:ks.size+1<=4000)(hP:(tr k t n ks).flat.all xr=true)(T:SN)(hT:jN T.l=true)(b:Bool):DE (s,T,⟨b,(tr k t n ks).flat⟩,())=some (iD s.l (tr k t n ks) [T.l],()):=tG (ks.size+1) fun N hN=>ZW s hL hc (ks.size+1) k t n ks (Nat.le_refl _) hs hP T b hT N hN
theorem z7j(s:Sl DD)(hL:GD s.l)(hc:s.l.all iU=true)(k:Int)(t:Tx)(n:Int)(ks:F)(hs:ks.size+1<=4000)(hP:(tr k t n ks).flat.all xt=true)(T:SN)(hT:jN T.l=true)(b:Bool):GQ (s,T,⟨b,(tr k t n ks).flat⟩,())=some (iD s.l (tr k t n ks) [T.l],()):=tG (ks.size+1) fun N hN=>z8g s hL hc (ks.size+1) k t n ks (Nat.le_refl _) hs hP T b hT N hN
theorem z7k(s:Sl DD)(hL:GD s.l)(hc:s.l.all iU=true)(hn:bN (s.l.map fun d=>d.1)=false)(k:Int)(t:Tx)(n:Int)(ks:F)(hs:ks.size+1<=4000)(T:SN)(hT:jN T.l=true)(b:Bool):Mj (s,T,⟨b,(tr k t n ks).flat⟩,0,())=some (iD s.l (tr k t n ks) [T.l],()):=tG (ks.size+1) fun N hN=>z8h s hL hc hn b _ (by rw[kO];exact hs) (ks.size+1) 0 k t n ks (Nat.le_refl _) (Cf k t n ks) T hT N hN
theorem qu3(L:List DD)(hL:GD L)(T:List ND)(hT:T.length<=10000)(hf:GL T)(p:List ND)(hp:p.length<=4000)(hg:GL p):∃c:Bool,(∀b0 b b',jX (⟨b0,L⟩,⟨b,T⟩,⟨b',p⟩,())=some (bif c then 0 else 120,()))/\(∀b0 b b',Ea (⟨b0,L⟩,⟨b,T⟩,⟨b',p⟩,())=some (c,()))/\(c=true↔qD L=true/\jN T=true/\NC L T p):=by
 obtain⟨e,e1,e2,e3⟩:=qrj p hp hg;have d1:∀b0,nG ((⟨b0,L⟩:Sl DD),())=some (Cj L,()):=fun b0=>ZG ⟨b0,L⟩ hL;have d2:∀b0,D6 ((⟨b0,L⟩:Sl DD),())=some (Cj L,()):=fun b0=>qmt ⟨b0,L⟩ hL;have t1:=fun b=>Nr b T hT hf;have t2:=fun b=>qfs b T hT hf;cases hd:qD L with
 |false=>
  have hc:=Qy L;rw[hd] at hc;refine⟨false,fun b0 b b'=>?_,fun b0 b b'=>?_,fun h=>(by cases h),fun h=>(by cases h.1)⟩
  ·rw[Eb,d1];simp only[aj,hc,nF,aG,cond_false]
  ·rw[Ec,d2];simp only[aj,hc,aD]
 |true=>
  have hc:=Qy L;rw[hd] at hc;cases ht:jN T with
  |false=>
   refine⟨false,fun b0 b b'=>?_,fun b0 b b'=>?_,fun h=>(by cases h),fun h=>(by cases h.2.1)⟩
   ·rw[Eb,d1,t1,ht];simp only[aj,hc,nT,aD,cond_false];rfl
   ·rw[Ec,d2,t2,ht];simp only[aj,hc,aG,aD]
  |true=>
   by_cases he:e=0
   ·obtain⟨k,t,n,ks,hk,hj⟩:=e3.1 he;subst hk he;rw[kO] at hp;obtain⟨q1,q2,q3,q4⟩:=Ku hd;have o1:=fun b0 b b'=>z8i (⟨b0,L⟩:Sl DD) hL q1 k t n ks hp (z5p hj) (⟨b,T⟩:SN) ht b';have o2:=fun b0 b b'=>z7k (⟨b0,L⟩:Sl DD) hL q1 q2 k t n ks hp (⟨b,T⟩:SN) ht b';refine⟨iD L (tr k t n ks) [T],fun b0 b b'=>?_,fun b0 b b'=>?_,fun h=>⟨rfl,rfl,k,t,n,ks,rfl,hj,h⟩,fun⟨_,_,k',t',n',ks',h1,_,h3⟩=>?_⟩
    ·rw[Eb,d1,t1,ht,e1,o1];simp only[aj,hc,nT,aD,cond_true,nR];cases iD L (tr k t n ks) [T]<;>rfl
    ·rw[Ec,d2,t2,ht,e2,o2];simp only[aj,hc,aG,nR]
    ·obtain⟨u1,u2,u3,u4⟩:=Nx h1;subst u1 u2 u3 u4;exact h3
   ·refine⟨false,fun b0 b b'=>?_,fun b0 b b'=>?_,fun h=>(by cases h),fun⟨_,_,k',t',n',ks',h1,h2,_⟩=>absurd (e3.2 ⟨k',t',n',ks',h1,h2⟩) he⟩
    ·rw[Eb,d1,t1,ht,e1];simp only[aj,hc,nT,aD,cond_true,nR,jW he,nF,aG,cond_false]
    ·rw[Ec,d2,t2,ht,e2];simp only[aj,hc,aG,aD,jW he]
theorem z1x{v:List ND}(h:pF v=true):∃k t n ks,v=(tr k t n ks).flat/\ks.size+1<=4000/\v.all lH=true:=by unfold pF at h;rw[zd,zd] at h;obtain⟨k,t,n,ks,e⟩:=(ED v).1 h.2.1;refine⟨k,t,n,ks,e,?_,h.2.2⟩;have:=zM h.1;rw[e,kO] at this;exact this
theorem qym(a c:SN)(ha:a.l.length<=1000000):xh (a,c,())=some (decide (a.l=c.l),()):=by
 rw[WK];have hl:af (aa a.l) (aa c.l)=decide (a.l.length=c.l.length):=NA _ _;rw[hl];by_cases hc:a.l.length=c.l.length
 ·rw[zn hc,nT,aD];have hz:(a.l.zip c.l).length=a.l.length:=by rw[List.length_zip];omega
  refine(kN vP (fun k=>(a,c,k,())) (a.l.zip c.l) om (fun _ z=>bif decide (z.1=z.2) then none else some (false,())) (true,()) ?_ ?_).trans ?_
  ·intro k z hx hk;obtain⟨x,y⟩:=z;rw[List.getElem?_zip_eq_some] at hx;obtain⟨h1,h2⟩:=hx;obtain⟨x1,x2,x3,x4⟩:=x;obtain⟨y1,y2,y3,y4⟩:=y;have he:aR (af x1 y1) (aR (aM x2 y2) (aR (af x3 y3) (af x4 y4)))=decide ((x1,x2,x3,x4)=(y1,y2,y3,y4)):=by
    by_cases e:(x1,x2,x3,x4)=(y1,y2,y3,y4)
    ·injection e with e1 e;injection e with e2 e;injection e with e3 e4;subst e1 e2 e3 e4;rw[xL,LQ,xL,xL,zn rfl];rfl
    ·rw[zm e];cases q1:af x1 y1<;>cases q2:aM x2 y2<;>cases q3:af x3 y3<;>cases q4:af x4 y4<;>first|rfl|exact absurd (by rw[aV.1 q1,bU.1 q2,aV.1 q3,aV.1 q4]) e
   unfold vP;simp only[cJ h1,aG,aQ h1,aQ h2,aj,he,aI (show k<=1000000000 by omega)];cases decide ((x1,x2,x3,x4)=(y1,y2,y3,y4))<;>rfl
  ·unfold vP;simp only[hz,dB,aD]
  ·rw[FK];have:(a.l.zip c.l).all (fun z=>decide (z.1=z.2))=decide (a.l=c.l):=by
    generalize a.l=u at*
    generalize c.l=v at*
    clear hz hl ha
    induction u generalizing v with
    |nil=>cases v with
     |nil=>rfl
     |cons _ _=>cases hc
    |cons x r ih=>cases v with
     |nil=>cases hc
     |cons y w=>
      rw[List.zip_cons_cons,List.all_cons,ih w (by simpa using hc)];by_cases e:x=y
      ·subst e;rw[zn rfl,Bool.true_and];exact decide_eq_decide.2 (by simp)
      ·rw[zm e,Bool.false_and];exact(zm (by intro h;injection h with h;exact e h)).symm
   rw[this];cases decide (a.l=c.l)<;>rfl
 ·rw[zm hc,nF,aG,zm (fun h=>hc (by rw[h]))]
theorem EJ(n:Bool)(l:List ND)(hl:l.length<=1000000):xc (⟨n,l⟩,())=some (⟨false,l⟩,()):=by have hf:fit (aT (aa ([]:List ND)) (aa l))=some ():=iA (by show 0+l.length<=_;omega);rw[qol,hf,aj,Zm];rfl
def gI(m:Nat)(l:List ND):Prop:=l.length<=m/\∀x,x∈l->x.2.1.length<=60
theorem z8j{k:Nat}(h:k<9223372036854775807):au .i64 (k:Int) 1=((k+1:Nat):Int):=by rw[Ft om om];omega
theorem z1y(a:Sl SN){i:Nat}{t:SN}(ht:a.l[i]?=some t)(hi:i<9223372036854775807):∃r,aH nO (a,(i:Int),0,())=some r/\(r=.inr (false,())\/(r=.inl (a,((i+1:Nat):Int),())/\gI 30 t.l)):=by
 refine J5 (f:=nO) (I:=fun s=>∃k:Nat,s=(a,(i:Int),(k:Int),())/\k<=31/\∀j x,j<k->t.l[j]?=some x->x.2.1.length<=60) (fun s=>(31-s.2.2.1).toNat) ?_ _ ⟨0,rfl,by omega,fun j x h=>by omega⟩;rintro s ⟨k,rfl,hk,hb⟩;have he:=aQ ht;by_cases h1:k<t.l.length/\k<31
 ·obtain⟨x,hx⟩:∃x,t.l[k]?=some x:=⟨_,ze h1.1⟩;have c1:aA (k:Int) (aa t.l)=true:=cJ hx;have c2:aA (k:Int) 31=true:=zn om;cases h2:aA 60 (aa x.2.1) with
  |true=>refine .inr ⟨.inr (false,()),?_,.inl rfl⟩;unfold nO;simp only[he,aj,c1,c2,aG,aQ hx,h2]
  |false=>
   refine .inl ⟨(a,(i:Int),((k+1:Nat):Int),()),?_,⟨k+1,rfl,by omega,fun j y hj hy=>?_⟩,by simp only;omega⟩
   ·unfold nO;simp only[he,aj,c1,c2,aG,aQ hx,h2,aD,aI (show k<=1000000000 by omega)]
   ·by_cases e:j=k
    ·subst e;rw[hx] at hy;injection hy with hy;subst hy
     have:=of_decide_eq_false h2;unfold aa at this;omega
    ·exact hb j y om hy
 ·refine .inr ?_;have hc:(ak (aA (k:Int) (aa t.l)) (some (aA (k:Int) 31)) (some false):Option Bool)=some false:=by
   by_cases e:k<t.l.length
   ·have:aA (k:Int) 31=false:=zm om;rw[this];cases aA (k:Int) (aa t.l)<;>rfl
   ·have:aA (k:Int) (aa t.l)=false:=zm (by unfold aa;omega);rw[this];rfl
  cases h3:aA 30 (aa t.l) with
  |true=>refine⟨.inr (false,()),?_,.inl rfl⟩;unfold nO;simp only[he,aj,hc,aD,h3,aG]
  |false=>
   have hf:t.l.length<=30:=by have:=of_decide_eq_false h3;unfold aa at this;omega
   refine⟨.inl (a,((i+1:Nat):Int),()),?_,.inr ⟨rfl,hf,fun x hx=>?_⟩⟩
   ·unfold nO;simp only[he,aj,hc,aD,h3,z8j hi]
   ·obtain⟨j,hj,e⟩:=List.getElem_of_mem hx;exact hb j x om (by rw[ze hj,e])
theorem QC(a:Sl SN)(ha:a.l.length<=9223372036854775807):∃c,uJ (a,())=some (c,())/\(c=true->a.l.length<=8/\∀t,t∈a.l->gI 30 t.l):=by
 rw[Wf];have:=J5 (f:=rZ) (I:=fun s=>∃k:Nat,s=(a,(k:Int),())/\k<=a.l.length/\∀j t,j<k->a.l[j]?=some t->gI 30 t.l) (Q:=fun r=>∃c,r=(c,())/\(c=true->a.l.length<=8/\∀t,t∈a.l->gI 30 t.l)) (fun s=>((a.l.length:Int)-s.2.1).toNat) ?_ (a,0,()) ⟨0,rfl,by omega,fun j x h=>by omega⟩
 ·obtain⟨r,h1,c,h2,h3⟩:=this;exact⟨c,by rw[h1,h2],h3⟩
 ·rintro s ⟨k,rfl,hk,hb⟩;by_cases h1:k<a.l.length
  ·obtain⟨t,ht⟩:∃t,a.l[k]?=some t:=⟨_,ze h1⟩;obtain⟨r,e,h⟩:=z1y a ht om;rcases h with h|⟨h,hf⟩
   ·subst h;refine .inr ⟨(false,()),?_,false,rfl,fun h=>by cases h⟩;unfold rZ;simp only[cJ ht,aG,e]
   ·subst h;refine .inl ⟨(a,((k+1:Nat):Int),()),?_,⟨k+1,rfl,by omega,fun j y hj hy=>?_⟩,by simp only;omega⟩
    ·unfold rZ;simp only[cJ ht,aG,e]
    ·by_cases e:j=k
     ·subst e;rw[ht] at hy;injection hy with hy;rw[<-hy];exact hf
     ·exact hb j y om hy
  ·have hc:k=a.l.length:=om
   subst hc;refine .inr ⟨(bf (aa a.l) 8,()),?_,_,rfl,fun h=>?_⟩
   ·unfold rZ;simp only[dB,aD]
   ·have:=zM h;refine⟨by unfold aa at this;omega,fun t ht=>?_⟩;obtain⟨j,hj,e⟩:=List.getElem_of_mem ht;exact hb j t hj (by rw[ze hj,e])
def IQ(c:CT):Prop:=c.1.length<=60/\c.2.l.length<=10/\∀t,t∈c.2.l->gI 60 t.l
def EK(d:DD):Prop:=d.1.length<=60/\d.2.2.l.length<=70/\∀c,c∈d.2.2.l->IQ c
theorem Z2(s:Sl DD)(n:Int)(i k:Int)(m:Nat)(hm:m<=1000000)(cn:Tx)(as:Sl SN){t:SN}(ht:as.l[m]?=some t):∃r,aH lV (s,n,i,k,(m:Int),0,cn,as,())=some r/\(r=.inr (.inr (.inr (false,())))\/(r=.inl (s,n,i,k,((m+1:Nat):Int),cn,as,())/\n<=300/\gI 60 t.l)):=by
 refine J5 (f:=lV) (I:=fun z=>∃h:Nat,z=(s,n,i,k,(m:Int),(h:Int),cn,as,())/\h<=61/\∀j x,j<h->t.l[j]?=some x->x.2.1.length<=60) (fun z=>(61-z.2.2.2.2.2.1).toNat) ?_ _ ⟨0,rfl,by omega,fun j x h=>by omega⟩;rintro z ⟨h,rfl,hk,hb⟩;have he:=aQ ht;by_cases h1:h<t.l.length/\h<61
 ·obtain⟨x,hx⟩:∃x,t.l[h]?=some x:=⟨_,ze h1.1⟩;have c1:aA (h:Int) (aa t.l)=true:=cJ hx;have c2:aA (h:Int) 61=true:=zn om;cases h2:aA 60 (aa x.2.1) with
  |true=>refine .inr ⟨.inr (.inr (.inr (false,()))),?_,.inl rfl⟩;unfold lV;simp only[he,aj,c1,c2,aG,aQ hx,h2]
  |false=>
   refine .inl ⟨(s,n,i,k,(m:Int),((h+1:Nat):Int),cn,as,()),?_,⟨h+1,rfl,by omega,fun j y hj hy=>?_⟩,by simp only;omega⟩
   ·unfold lV;simp only[he,aj,c1,c2,aG,aQ hx,h2,aD,aI (show h<=1000000000 by omega)]
   ·by_cases e:j=h
    ·subst e;rw[hx] at hy;injection hy with hy;subst hy
     have:=of_decide_eq_false h2;unfold aa at this;omega
    ·exact hb j y om hy
 ·refine .inr ?_;have hc:(ak (aA (h:Int) (aa t.l)) (some (aA (h:Int) 61)) (some false):Option Bool)=some false:=by
   by_cases e:h<t.l.length
   ·have:aA (h:Int) 61=false:=zm om;rw[this];cases aA (h:Int) (aa t.l)<;>rfl
   ·have:aA (h:Int) (aa t.l)=false:=zm (by unfold aa;omega);rw[this];rfl
  cases h3:aA 60 (aa t.l) with
  |true=>refine⟨.inr (.inr (.inr (false,()))),?_,.inl rfl⟩;unfold lV;simp only[he,aj,hc,aD,h3,aG]
  |false=>
   cases h4:aA 300 n with
   |true=>refine⟨.inr (.inr (.inr (false,()))),?_,.inl rfl⟩;unfold lV;simp only[he,aj,hc,aD,h3,h4,aG]
   |false=>
    have hf:t.l.length<=60:=by have:=of_decide_eq_false h3;unfold aa at this;omega
    have hn:¬(300:Int)<n:=of_decide_eq_false h4;refine⟨.inl (s,n,i,k,((m+1:Nat):Int),cn,as,()),?_,.inr ⟨rfl,by omega,hf,fun x hx=>?_⟩⟩
    ·unfold lV;simp only[he,aj,hc,aD,h3,h4,aI (show m<=1000000000 by omega)]
    ·obtain⟨j,hj,e⟩:=List.getElem_of_mem hx;exact hb j x om (by rw[ze hj,e])
theorem Z3(s:Sl DD)(n:Int)(hn:0<=n/\n<=300)(i:Int)(k:Nat)(hk:k<=1000000)(cn:Tx)(as:Sl SN)(ha:as.l.length<=10):∃r,aH px (s,n,i,(k:Int),0,cn,as,())=some r/\(r=.inr (.inr (false,()))\/∃n',r=.inl (s,n',i,((k+1:Nat):Int),())/\0<=n'/\n'<=300/\∀t,t∈as.l->gI 60 t.l):=by
 refine J5 (f:=px) (I:=fun z=>∃(n':Int) (m:Nat),z=(s,n',i,(k:Int),(m:Int),cn,as,())/\0<=n'/\n'<=300/\m<=as.l.length/\∀j t,j<m->as.l[j]?=some t->gI 60 t.l) (fun z=>((as.l.length:Int)-z.2.2.2.2.1).toNat) ?_ _ ⟨n,0,rfl,hn.1,hn.2,Nat.zero_le _,fun j x h=>by omega⟩;rintro z ⟨n',m,rfl,g1,g2,g3,hb⟩;by_cases h1:m<as.l.length
 ·obtain⟨t,ht⟩:∃t,as.l[m]?=some t:=⟨_,ze h1⟩;obtain⟨r,e,h⟩:=Z2 s (au .i64 n' (aa t.l)) i (k:Int) m om cn as ht;rcases h with h|⟨h,he,hf⟩
  ·subst h;refine .inr ⟨.inr (.inr (false,())),?_,.inl rfl⟩;unfold px;simp only[cJ ht,aG,aQ ht,aj,e]
  ·subst h;have hg:=hf.1;have hc:au .i64 n' (aa t.l)=n'+(t.l.length:Int):=Ft (by unfold aa;omega) (by unfold aa;omega);refine .inl ⟨(s,au .i64 n' (aa t.l),i,(k:Int),((m+1:Nat):Int),cn,as,()),?_,⟨_,m+1,rfl,by rw[hc];omega,he,by omega,fun j y hj hy=>?_⟩,by simp only;omega⟩
   ·unfold px;simp only[cJ ht,aG,aQ ht,aj,e]
   ·by_cases e:j=m
    ·subst e;rw[ht] at hy;injection hy with hy;rw[<-hy];exact hf
    ·exact hb j y om hy
 ·obtain rfl:m=as.l.length:=om
  refine .inr ⟨.inl (s,n',i,((k+1:Nat):Int),()),?_,.inr ⟨n',rfl,g1,g2,fun t ht=>?_⟩⟩
  ·unfold px;simp only[dB,aD,aI (show k<=1000000000 by omega)]
  ·obtain⟨j,hj,e⟩:=List.getElem_of_mem ht;exact hb j t hj (by rw[ze hj,e])
theorem Z4(s:Sl DD)(n:Int)(hn:0<=n/\n<=300){i:Nat}{d:DD}(hd:s.l[i]?=some d)(hi:i<=1000000)(he:d.2.2.l.length<=70):∃r,aH lW (s,n,(i:Int),0,())=some r/\(r=.inr (false,())\/∃n',r=.inl (s,n',((i+1:Nat):Int),())/\0<=n'/\n'<=300/\∀c,c∈d.2.2.l->IQ c):=by
 refine J5 (f:=lW) (I:=fun z=>∃(n':Int) (k:Nat),z=(s,n',(i:Int),(k:Int),())/\0<=n'/\n'<=300/\k<=d.2.2.l.length/\∀j c,j<k->d.2.2.l[j]?=some c->IQ c) (fun z=>((d.2.2.l.length:Int)-z.2.2.2.1).toNat) ?_ _ ⟨n,0,rfl,hn.1,hn.2,Nat.zero_le _,fun j x h=>by omega⟩;rintro z ⟨n',k,rfl,g1,g2,g3,hb⟩;by_cases h1:k<d.2.2.l.length
 ·obtain⟨c,hc⟩:∃c,d.2.2.l[k]?=some c:=⟨_,ze h1⟩;cases q1:aA 60 (aa c.1) with
  |true=>refine .inr ⟨.inr (false,()),?_,.inl rfl⟩;unfold lW;simp only[aQ hd,cJ hc,aG,aQ hc,aj,q1]
  |false=>
   cases q2:aA 10 (aa c.2.l) with
   |true=>refine .inr ⟨.inr (false,()),?_,.inl rfl⟩;unfold lW;simp only[aQ hd,cJ hc,aG,aQ hc,aj,q1,q2,aD]
   |false=>
    have l1:c.1.length<=60:=by have:=of_decide_eq_false q1;unfold aa at this;omega
    have l2:c.2.l.length<=10:=by have:=of_decide_eq_false q2;unfold aa at this;omega
    obtain⟨r,e,h⟩:=Z3 s n' ⟨g1,g2⟩ (i:Int) k om c.1 c.2 l2;rcases h with h|⟨n2,h,hg,hk,hf⟩
    ·subst h;refine .inr ⟨.inr (false,()),?_,.inl rfl⟩;unfold lW;simp only[aQ hd,cJ hc,aG,aQ hc,aj,q1,q2,aD,e]
    ·subst h;refine .inl ⟨(s,n2,(i:Int),((k+1:Nat):Int),()),?_,⟨_,k+1,rfl,hg,hk,by omega,fun j y hj hy=>?_⟩,by simp only;omega⟩
     ·unfold lW;simp only[aQ hd,cJ hc,aG,aQ hc,aj,q1,q2,aD,e]
     ·by_cases e:j=k
      ·subst e;rw[hc] at hy;injection hy with hy;rw[<-hy];exact⟨l1,l2,hf⟩
      ·exact hb j y om hy
 ·obtain rfl:k=d.2.2.l.length:=om
  refine .inr ⟨.inl (s,n',((i+1:Nat):Int),()),?_,.inr ⟨n',rfl,g1,g2,fun t ht=>?_⟩⟩
  ·unfold lW;simp only[aQ hd,aj,dB,aD,aI (show i<=1000000000 by omega)]
  ·obtain⟨j,hj,e⟩:=List.getElem_of_mem ht;exact hb j t hj (by rw[ze hj,e])
theorem qu4(s:Sl DD):∃c,DZ (s,())=some (c,())/\(c=true->s.l.length<=70/\∀d,d∈s.l->EK d):=by
 rw[Wg];cases q0:aA 70 (aa s.l) with
 |true=>exact⟨false,rfl,fun h=>by cases h⟩
 |false=>
  have l0:s.l.length<=70:=by have:=of_decide_eq_false q0;unfold aa at this;omega
  rw[aD];have:=J5 (f:=nP) (I:=fun z=>∃(n':Int) (i:Nat),z=(s,n',(i:Int),())/\0<=n'/\n'<=300/\i<=s.l.length/\∀j d,j<i->s.l[j]?=some d->EK d) (Q:=fun r=>∃c,r=(c,())/\(c=true->s.l.length<=70/\∀d,d∈s.l->EK d))
   (fun z=>((s.l.length:Int)-z.2.2.1).toNat) ?_ (s,0,0,()) ⟨0,0,rfl,by omega,by omega,Nat.zero_le _,fun j x h=>by omega⟩
  ·obtain⟨r,h1,c,h2,h3⟩:=this;exact⟨c,by rw[h1,h2],h3⟩
  ·rintro z ⟨n',i,rfl,g1,g2,g3,hb⟩;by_cases h1:i<s.l.length
   ·obtain⟨d,hd⟩:∃d,s.l[i]?=some d:=⟨_,ze h1⟩;cases q1:aA 70 (aa d.2.2.l) with
    |true=>refine .inr ⟨(false,()),?_,false,rfl,fun h=>by cases h⟩;unfold nP;simp only[aQ hd,cJ hd,aG,aj,q1]
    |false=>
     cases q2:aA 60 (aa d.1) with
     |true=>refine .inr ⟨(false,()),?_,false,rfl,fun h=>by cases h⟩;unfold nP;simp only[aQ hd,cJ hd,aG,aj,q1,q2,aD]
     |false=>
      have l1:d.2.2.l.length<=70:=by have:=of_decide_eq_false q1;unfold aa at this;omega
      have l2:d.1.length<=60:=by have:=of_decide_eq_false q2;unfold aa at this;omega
      obtain⟨r,e,h⟩:=Z4 s n' ⟨g1,g2⟩ hd om l1;rcases h with h|⟨n2,h,hc,he,hf⟩
      ·subst h;refine .inr ⟨(false,()),?_,false,rfl,fun h=>by cases h⟩;unfold nP;simp only[aQ hd,cJ hd,aG,aj,q1,q2,aD,e]
      ·subst h;refine .inl ⟨(s,n2,((i+1:Nat):Int),()),?_,⟨_,i+1,rfl,hc,he,by omega,fun j y hj hy=>?_⟩,by simp only;omega⟩
       ·unfold nP;simp only[aQ hd,cJ hd,aG,aj,q1,q2,aD,e]
       ·by_cases e:j=i
        ·subst e;rw[hd] at hy;injection hy with hy;rw[<-hy];exact⟨l2,l1,hf⟩
        ·exact hb j y om hy
   ·obtain rfl:i=s.l.length:=om
    refine .inr ⟨(true,()),?_,true,rfl,fun _=>⟨l0,fun t ht=>?_⟩⟩
    ·unfold nP;simp only[dB,aD]
    ·obtain⟨j,hj,e⟩:=List.getElem_of_mem ht;exact hb j t hj (by rw[ze hj,e])
def gW(s:Tx):Prop:=∀b,b∈s->0<=b/\b<=255
def gND(x:ND):Prop:=gW x.2.1/\Km x.2.2.1
def gL(l:List ND):Prop:=∀x,x∈l->gND x
def BB(L:List DD):Prop:=∀d,d∈L->gW d.1/\∀c,c∈d.2.2.l->gW c.1/\∀t,t∈c.2.l->gL t.l
theorem IS{m:Nat}{l:List ND}(hg:gL l)(hf:gI m l):GL l:=fun x hx=>⟨(hg x hx).1,by have:=hf.2 x hx;omega,(hg x hx).2⟩
theorem z7l{L:List DD}(hg:BB L)(hl:L.length<=70)(hf:∀d,d∈L->EK d):GD L:=by refine⟨by omega,fun d hd=>?_⟩;obtain⟨f1,f2,f3⟩:=hf d hd;obtain⟨g1,g2⟩:=hg d hd;refine⟨⟨g1,by omega⟩,by omega,fun c hc=>?_⟩;obtain⟨f4,f5,f6⟩:=f3 c hc;obtain⟨g3,g4⟩:=g2 c hc;refine⟨⟨g3,by omega⟩,by omega,fun t ht=>⟨IS (g4 t ht) (f6 t ht),?_⟩⟩;have:=(f6 t ht).1;omega
theorem z3i(s:Sl DD)(hg:BB s.l)(t:SN)(a:Sl SN)(ha:a.l.length<=9223372036854775807):∃c,Kd (s,t,a,())=some (c,())/\(c=true->GD s.l/\gI 30 t.l/\a.l.length<=6/\∀p,p∈a.l->gI 30 p.l):=by
 obtain⟨c1,e1,h1⟩:=qu4 s;obtain⟨c2,e2,h2⟩:=QC ⟨false,[t]⟩ (by show 1<=_;omega);obtain⟨c3,e3,h3⟩:=QC a ha;refine⟨c1&&(bf (aa s.l) 10&&(c2&&(c3&&bf (aa a.l) 6))),?_,fun h=>?_⟩
 ·rw[qok,e1];simp only[aj,e2,e3];cases c1<;>cases bf (aa s.l) 10<;>cases c2<;>cases c3<;>rfl
 ·simp only[zd] at h;obtain⟨q1,q2,q3,q4,q5⟩:=h;obtain⟨g1,g2⟩:=h1 q1;have q5:=zM q5;exact⟨z7l hg g1 g2,(h2 q3).2 t (zf ..),by unfold aa at q5;omega,(h3 q4).2⟩
theorem NF(L:List DD)(hL:L.length<=1000):fit (aT (aa ([]:List DD)) (aa L))=some ():=iA (by show 0+L.length<=_;omega)
theorem uP:GL [((21:Int),([]:Tx),(0:Int),(0:Int))]:=fun x hx=>by rw[zI] at hx;subst hx;exact⟨fun b hb=>(by cases hb),Nat.zero_le _,by show(-9223372036854775808:Int)<=0/\(0:Int)<=_;omega⟩
abbrev NM:=List (Tx×List ND)
def nU:F->F->Option NM
 |.nil,_=>some []
 |.cons _ _ _ _ _,.nil=>none
 |.cons k t n ks r,.cons k' t' n' ks' r'=>
  match(bif af k 21 then some [] else bif af k 22 then some [(t,(tr k' t' n' ks').flat)] else bif af k 23 then(bif af k' 51&&af n' n then some [] else none) else
   bif af k' 53&&(aM t' t&&decide (ks'.aq=ks.aq)) then nU ks ks' else none:Option NM) with
  |none=>none
  |some a=>match nU r r' with
   |none=>none
   |some b=>some (a++b)
def xu(k:Int)(t:Tx)(n:Int)(ks:F)(k':Int)(t':Tx)(n':Int)(ks':F):Option NM:=
 bif af k 21 then some [] else bif af k 22 then some [(t,(tr k' t' n' ks').flat)] else bif af k 23 then(bif af k' 51&&af n' n then some [] else none) else
  bif af k' 53&&(aM t' t&&decide (ks'.aq=ks.aq)) then nU ks ks' else none
theorem Z5(k:Int)(t:Tx)(n:Int)(ks r:F)(k':Int)(t':Tx)(n':Int)(ks' r':F):nU (.cons k t n ks r) (.cons k' t' n' ks' r')=match xu k t n ks k' t' n' ks' with|none=>none|some a=>match nU r r' with|none=>none|some b=>some (a++b):=rfl
theorem Z6(k:Int)(t:Tx)(n:Int)(ks:F)(k':Int)(t':Tx)(n':Int)(ks':F):nU (tr k t n ks) (tr k' t' n' ks')=xu k t n ks k' t' n' ks':=by
 show(match xu k t n ks k' t' n' ks' with|none=>none|some a=>match nU .nil .nil with|none=>none|some b=>some (a++b))=_;cases xu k t n ks k' t' n' ks' with
 |none=>rfl
 |some a=>show some (a++[])=some a;rw[zC]
def vZ(l:List (Tx×SN)):NM:=l.map fun e=>(e.1,e.2.l)
theorem z5q(a c:List (Tx×SN)):vZ (a++c)=vZ a++vZ c:=zE ..
theorem Z7(l:List ND)(hl:l.length<=1000000):rl (⟨false,l⟩,())=some (⟨false,l⟩,()):=by have hf:fit (aT (aa ([]:List ND)) (aa l))=some ():=iA (by show 0+l.length<=_;omega);rw[V4,aD,hf,aj,Zm];rfl
def gJ:F->F->Sl (Tx×SN)->Bool×Sl (Tx×SN)
 |.nil,_,out=>(true,out)
 |.cons _ _ _ _ _,.nil,out=>(false,out)
 |.cons k t n ks r,.cons k' t' n' ks' r',out=>
  match(bif af k 21 then(true,out) else bif af k 22 then(true,⟨false,out.l++[(t,⟨false,(tr k' t' n' ks').flat⟩)]⟩) else bif af k 23 then(af k' 51&&af n' n,out) else
   bif af k' 53&&(aM t' t&&decide (ks'.aq=ks.aq)) then gJ ks ks' out else(false,out):Bool×Sl (Tx×SN)) with
  |(false,o)=>(false,o)
  |(true,o)=>gJ r r' o
def lI(k:Int)(t:Tx)(n:Int)(ks:F)(k':Int)(t':Tx)(n':Int)(ks':F)(out:Sl (Tx×SN)):Bool×Sl (Tx×SN):=
 bif af k 21 then(true,out) else bif af k 22 then(true,⟨false,out.l++[(t,⟨false,(tr k' t' n' ks').flat⟩)]⟩) else bif af k 23 then(af k' 51&&af n' n,out) else
  bif af k' 53&&(aM t' t&&decide (ks'.aq=ks.aq)) then gJ ks ks' out else(false,out)
theorem Z8(k:Int)(t:Tx)(n:Int)(ks r:F)(k':Int)(t':Tx)(n':Int)(ks' r':F)(out:Sl (Tx×SN)):gJ (.cons k t n ks r) (.cons k' t' n' ks' r') out=match lI k t n ks k' t' n' ks' out with|(false,o)=>(false,o)|(true,o)=>gJ r r' o:=rfl
theorem z3j(k:Int)(t:Tx)(n:Int)(ks:F)(k':Int)(t':Tx)(n':Int)(ks':F)(out:Sl (Tx×SN)):gJ (tr k t n ks) (tr k' t' n' ks') out=lI k t n ks k' t' n' ks' out:=by show(match lI k t n ks k' t' n' ks' out with|(false,o)=>(false,o)|(true,o)=>gJ .nil .nil o)=_;generalize lI k t n ks k' t' n' ks' out=z;obtain⟨a,o⟩:=z;cases a<;>rfl
theorem Z9:∀(f g:F) (out:Sl (Tx×SN)),(gJ f g out).2.l.length<=out.l.length+f.size
 |.nil,_,out=>Nat.le_refl _
 |.cons _ _ _ _ _,.nil,out=>Nat.le_add_right _ _
 |.cons k t n ks r,.cons k' t' n' ks' r',out=>by
  rw[Z8];have h1:(lI k t n ks k' t' n' ks' out).2.l.length<=out.l.length+ks.size+1:=by
   unfold lI;cases af k 21 with
   |true=>show out.l.length<=_;omega
   |false=>
    cases af k 22 with
    |true=>show(out.l++[_]).length<=_;rw[zt];show out.l.length+1<=_;omega
    |false=>
     cases af k 23 with
     |true=>show out.l.length<=_;omega
     |false=>
      cases (af k' 53&&(aM t' t&&decide (ks'.aq=ks.aq))) with
      |true=>have:=Z9 ks ks' out;show(gJ ks ks' out).2.l.length<=_;omega
      |false=>show out.l.length<=_;omega
  generalize lI k t n ks k' t' n' ks' out=z at h1;obtain⟨a,o⟩:=z;have h1:o.l.length<=_:=h1;cases a with
  |false=>show o.l.length<=out.l.length+(ks.size+r.size+1);omega
  |true=>have:=Z9 r r' o;show(gJ r r' o).2.l.length<=out.l.length+(ks.size+r.size+1);omega
theorem qg1:∀(f g:F) (out:Sl (Tx×SN)),(gJ f g out).1=(nU f g).isSome/\∀ns,nU f g=some ns->vZ (gJ f g out).2.l=vZ out.l++ns
 |.nil,_,out=>⟨rfl,fun ns h=>by injection h with h;subst h;exact(zC _).symm⟩
 |.cons _ _ _ _ _,.nil,out=>⟨rfl,fun ns h=>by cases h⟩
 |.cons k t n ks r,.cons k' t' n' ks' r',out=>by
  rw[Z8,Z5];have h1:(lI k t n ks k' t' n' ks' out).1=(xu k t n ks k' t' n' ks').isSome/\∀ns,xu k t n ks k' t' n' ks'=some ns->vZ (lI k t n ks k' t' n' ks' out).2.l=vZ out.l++ns:=by
   unfold lI xu;cases af k 21 with
   |true=>exact⟨rfl,fun ns h=>by injection h with h;subst h;exact(zC _).symm⟩
   |false=>
    cases af k 22 with
    |true=>exact⟨rfl,fun ns h=>by injection h with h;subst h;exact z5q _ _⟩
    |false=>
     cases af k 23 with
     |true=>
      cases (af k' 51&&af n' n) with
      |true=>exact⟨rfl,fun ns h=>by injection h with h;subst h;exact(zC _).symm⟩
      |false=>exact⟨rfl,fun ns h=>by cases h⟩
     |false=>
      cases (af k' 53&&(aM t' t&&decide (ks'.aq=ks.aq))) with
      |true=>exact qg1 ks ks' out
      |false=>exact⟨rfl,fun ns h=>by cases h⟩
  generalize lI k t n ks k' t' n' ks' out=z at h1;obtain⟨a,o⟩:=z;obtain⟨h2,h3⟩:=h1;have h2:a=_:=h2;cases hm:xu k t n ks k' t' n' ks' with
  |none=>rw[hm] at h2;subst h2;exact⟨rfl,fun ns h=>by cases h⟩
  |some c=>
   rw[hm] at h2;subst h2;have h3:vZ o.l=vZ out.l++c:=h3 c hm;obtain⟨g1,g2⟩:=qg1 r r' o;cases hr:nU r r' with
   |none=>rw[hr] at g1;exact⟨g1,fun ns h=>by cases h⟩
   |some d=>rw[hr] at g1;refine⟨g1,fun ns h=>?_⟩;injection h with h;subst h;show vZ (gJ r r' o).2.l=_;rw[g2 d hr,h3,zD]
def qp7(self:(SN×SN×(Sl (Tx×SN))×Unit)->Option (Bool×(Sl (Tx×SN))×Unit))(p v:F):Prop:=∀(b:Bool) (out:Sl (Tx×SN)),out.l.length+p.size<=1000000->self (⟨b,p.flat⟩,⟨false,v.flat⟩,out,())=some ((gJ p v out).1,(gJ p v out).2,())
theorem qu5(self:(SN×SN×(Sl (Tx×SN))×Unit)->Option (Bool×(Sl (Tx×SN))×Unit))(b nv np:Bool)(VV PP:List SN)(hg:PP.length<=1000000):∀(f g:F) (i:Nat) (out:Sl (Tx×SN)),PP.drop i=f.trees.map (fun l=>(⟨b,l⟩:SN))->VV.drop i=g.trees.map (fun l=>(⟨false,l⟩:SN))->i+f.aq=PP.length->f.aq=g.aq->out.l.length+f.size<=1000000->(∀p,p∈f.aL->∀v,v∈g.aL->qp7 self p v)->aH (pr self) (⟨nv,VV⟩,⟨np,PP⟩,aa PP,(i:Int),out,())=some ((gJ f g out).1,(gJ f g out).2,()):=by
 intro f
 induction f with
 |nil=>
  intro g i out h1 h2 h3 h4 h5 h6;have h3:i+0=PP.length:=h3;have hi:i=PP.length:=om
  subst hi;refine dO ?_;unfold pr;simp only[dB,aD];rfl
 |cons k t n ks r _ ih=>
  intro g i out h1 h2 h3 h4 h5 h6;cases g with
  |nil=>cases h4
  |cons k' t' n' ks' r'=>
   have h3:i+(r.aq+1)=PP.length:=h3;have h4:r.aq+1=r'.aq+1:=h4;have h5:out.l.length+(ks.size+r.size+1)<=1000000:=h5;have hp:PP[i]?=some ⟨b,(tr k t n ks).flat⟩:=by have:=congrArg List.head? h1;rw[List.head?_drop] at this;exact this
   have hv:VV[i]?=some ⟨false,(tr k' t' n' ks').flat⟩:=by have:=congrArg List.head? h2;rw[List.head?_drop] at this;exact this
   have e1:self (⟨b,(tr k t n ks).flat⟩,⟨false,(tr k' t' n' ks').flat⟩,out,())=_:=h6 (tr k t n ks) (zf ..) (tr k' t' n' ks') (zf ..) b out (by show _+(ks.size+0+1)<=_;omega);have hc:(gJ (tr k t n ks) (tr k' t' n' ks') out).2.l.length<=out.l.length+(ks.size+0+1):=Z9 (tr k t n ks) (tr k' t' n' ks') out;have he:PP.drop (i+1)=r.trees.map (fun l=>(⟨b,l⟩:SN)):=by have:=congrArg List.tail h1;rw[List.tail_drop] at this;exact this
   have hf:VV.drop (i+1)=r'.trees.map (fun l=>(⟨false,l⟩:SN)):=by have:=congrArg List.tail h2;rw[List.tail_drop] at this;exact this
   rw[Z8];rw[z3j] at e1 hc;generalize lI k t n ks k' t' n' ks' out=z at e1 hc;obtain⟨a,o⟩:=z;have hc:o.l.length<=_:=hc;cases a with
   |false=>refine dO ?_;unfold pr;simp only[cJ hp,aG,aQ hp,aQ hv,aj,e1,nF]
   |true=>
    have step:pr self (⟨nv,VV⟩,⟨np,PP⟩,aa PP,(i:Int),out,())=some (.inl (⟨nv,VV⟩,⟨np,PP⟩,aa PP,((i+1:Nat):Int),o,())):=by unfold pr;simp only[cJ hp,aG,aQ hp,aQ hv,aj,e1,nT,aD,aI (show i<=1000000000 by omega)]
    rw[fE step];exact ih r' (i+1) o he hf om om om (fun p hp v hv=>h6 p (zg _ hp) v (zg _ hv))
theorem z5r:∀(M:Nat) (k:Int) (t:Tx) (n:Int) (ks:F),ks.size+1<=M->ks.size+1<=4000->∀(k':Int) (t':Tx) (n':Int) (ks':F),ks'.size+1<=4000->∀N,M<=N->qp7 (aU rq N) (tr k t n ks) (tr k' t' n' ks'):=by
 intro M
 induction M with
 |zero=>intro k t n ks h;omega
 |succ M ih=>
  intro k t n ks hM hs k' t' n' ks' hk N hN b out he;cases N with
  |zero=>omega
  |succ N=>
   have he:out.l.length+(ks.size+0+1)<=1000000:=he;have h0:aE (tr k t n ks).flat 0=some (k,t,n,(ks.aq:Int)):=aQ (i:=0) rfl;have h1:aE (tr k' t' n' ks').flat 0=some (k',t',n',(ks'.aq:Int)):=aQ (i:=0) rfl;show rq (aU rq N) _=_;rw[z3j,Wc];simp only[h0,h1,aj];unfold lI;cases e1:af k 21 with
   |true=>rfl
   |false=>
    simp only[aD,cond_false];cases e2:af k 22 with
    |true=>have hc:=Z7 (tr k' t' n' ks').flat (by rw[kO];omega);have hf:fit (aT (aa out.l) (aa [(t,(⟨false,(tr k' t' n' ks').flat⟩:SN))]))=some ():=iA (by show out.l.length+1<=_;omega);simp only[aG,cond_true,Wb,hc,aj,hf,uN,app]
    |false=>
     simp only[aD,cond_false];cases e3:af k 23 with
     |true=>simp only[aG,cond_true];cases af k' 51<;>simp only[aG,aD,Bool.true_and,Bool.false_and]
     |false=>
      simp only[aD,cond_false];cases e4:af k' 53 with
      |false=>rfl
      |true=>
       simp only[nT,aD,Bool.true_and];cases e5:aM t' t with
       |false=>rfl
       |true=>
        simp only[nT,aD,Bool.true_and,NA];by_cases e6:ks'.aq=ks.aq
        ·rw[zn e6];simp only[nT,aD,cond_true];obtain⟨nbv,hv⟩:=Nv false k' t' n' ks' om;obtain⟨NB,hp⟩:=Nv b k t n ks om;simp only[hv,hp,aj];have hg:(ks.trees.map fun l=>(⟨b,l⟩:SN)).length=ks.aq:=by rw[zA,F.eG]
         have hj:=F.cq ks;refine qu5 (aU rq N) b nbv NB _ _ om ks ks' 0 out rfl rfl (by rw[hg,zN]) e6.symm om ?_;intro p hp v hv;obtain⟨k1,t1,n1,ks1,q1,q2⟩:=F.cX ks p hp;obtain⟨k2,t2,n2,IP,q3,q4⟩:=F.cX ks' v hv;subst q1 q3;exact ih k1 t1 n1 ks1 om om k2 t2 n2 IP om N om
        ·rw[zm e6];rfl
theorem z1z(k:Int)(t:Tx)(n:Int)(ks:F)(hs:ks.size+1<=4000)(k':Int)(t':Tx)(n':Int)(ks':F)(he:ks'.size+1<=4000):qp7 DW (tr k t n ks) (tr k' t' n' ks'):=fun b out hc=>tG (ks.size+1) fun N hN=>z5r (ks.size+1) k t n ks (Nat.le_refl _) hs k' t' n' ks' he N hN b out hc
def sS(ns:NM):List (Tx×SN):=ns.map fun e=>(e.1,⟨false,e.2⟩)
theorem qmz(a:Sl SN)(ha:a.l.length<=1000)(hg:∀x,x∈a.l->x.l.length<=1000000):GK (a,())=some (⟨false,a.l.map fun x=>(⟨false,x.l⟩:SN)⟩,()):=by
 rw[qme];refine(tf Qj (fun k s=>(a,k,s,())) a.l (fun(s:Sl SN) x=>(⟨false,s.l++[⟨false,x.l⟩]⟩:Sl SN)) (fun s=>(s,())) (fun k s=>k<=a.l.length/\s.l.length=k) ⟨false,[]⟩ ⟨Nat.zero_le _,rfl⟩ ?_ ?_).trans ?_
 ·intro k x s hx hi;obtain⟨ns,sl⟩:=s;have h2:sl.length=k:=hi.2;have hk:=fh hx;obtain⟨bx,lx⟩:=x;have ho:=EJ bx lx (hg _ (zj hx));have hf:fit (aT (aa sl) (aa [(⟨false,lx⟩:SN)]))=some ():=iA (by show sl.length+1<=_;omega);refine⟨?_,hk,by show(sl++[_]).length=_;rw[zt,h2];rfl⟩;unfold Qj;simp only[cJ hx,aG,aQ hx,aj,ho,hf,uN,aI (show k<=1000000000 by omega)];rfl
 ·intro s _;unfold Qj;simp only[dB,aD]
 ·rw[Qz];rfl
end Fn
end Ev