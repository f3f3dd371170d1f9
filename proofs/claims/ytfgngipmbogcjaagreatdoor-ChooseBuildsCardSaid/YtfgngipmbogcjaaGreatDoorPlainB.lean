/- Layer 12 in plain words: types, patterns, values, matching. No statement of its own about the program. -/
import Derived.Test.YtfgngipmbogcjaaGreatDoorPlainA
namespace Ev
open Go
namespace Fn
def mV(k:Int)(t:Tx)(c:Int)(d:DD):Bool:=af k 32&&(aS d.1 t&&af d.2.1 c)
def fC(L:List DD)(k:Int)(t:Tx)(c:Int)(cF:Tx):Option CT:=(L.find? (mV k t c)).bind fun d=>d.2.2.l.find? fun x=>aS x.1 cF
def fD(Ts:List (List ND))(a:List ND):List ND:=bif aB 4000 (aa (uM Ts a)) then [(31,[],0,0)] else uM Ts a
def dM(b:Bool)(Ts:List (List ND))(a:SN):SN:=bif aB 4000 (aa (a.l.foldl (ix Ts) ⟨b,[]⟩).l) then⟨false,[(31,[],0,0)]⟩ else a.l.foldl (ix Ts) ⟨b,[]⟩
theorem Jr(b:Bool)(Ts:List (List ND))(a:SN):(dM b Ts a).l=fD Ts a.l:=by
 have h:=z49 Ts a.l ⟨b,[]⟩;rw[show([]:List ND)++uM Ts a.l=uM Ts a.l from rfl] at h;unfold dM fD;rw[h];cases aB 4000 (aa (uM Ts a.l)) with
 |true=>rfl
 |false=>exact h
theorem qw5(s:Sl DD)(hL:s.l.length<=1000)(t:SN)(x:ND)(hx:t.l[0]?=some x):vL (s,t,())=some (fg (mV x.1 x.2.1 x.2.2.2) 0 s.l,()):=by
 have h0:aJ t.l 0=some x:=aT (i:=0) hx;rw[Ue];refine ph ud (fun k=>(s,t,aa s.l,k,())) (fun z=>(z,())) s.l om (mV x.1 x.2.1 x.2.2.2) ?_ ?_
 ·intro k d hd hk;obtain⟨n,p,cs⟩:=d;unfold ud mV;simp only[cE hd,aI,aT hd,aj,Ud,h0,aH (show k<=1000000000 by omega)];cases af x.1 32<;>cases aS n x.2.1<;>cases af p x.2.2.2<;>rfl
 ·unfold ud;simp only[cQ,aF]
theorem XX(cs:Sl CT)(hc:cs.l.length<=1000000)(cF:Tx):sU (cs,cF,())=some (fg (fun c:CT=>aS c.1 cF) 0 cs.l,()):=by
 rw[Ug];refine ph ue (fun k=>(cs,cF,aa cs.l,k,())) (fun z=>(z,())) cs.l hc (fun c:CT=>aS c.1 cF) ?_ ?_
 ·intro k c hx hk;obtain⟨n,as⟩:=c;unfold ue;simp only[cE hx,aI,aT hx,aj,Uf,aH (show k<=1000000000 by omega)];cases aS n cF<;>rfl
 ·unfold ue;simp only[cQ,aF]
theorem XY{α:Type}{p:α->Bool}{l:List α}(h:l.any p=false):l.find? p=none:=by rw[List.find?_eq_none];intro x hx hp;have:=jl.2 ⟨x,hx,hp⟩;rw[h] at this;cases this
theorem qal(s:Sl DD)(hL:s.l.length<=1000)(t:SN)(x:ND)(hx:t.l[0]?=some x){d:DD}(h:s.l.find? (mV x.1 x.2.1 x.2.2.2)=some d):oG (s,t,())=some (d,true,()):=by
 have ha:s.l.any (mV x.1 x.2.1 x.2.2.2)=true:=by
  cases hb:s.l.any (mV x.1 x.2.1 x.2.2.2) with
  |true=>rfl
  |false=>rw[XY hb] at h;cases h
 obtain⟨i,y,h1,h2,h3,h4⟩:=Jo (mV x.1 x.2.1 x.2.2.2) s.l 0 ha;rw[h4] at h;injection h with h;subst h;rw[zL] at h1;have hc:aB (i:Int) 0=false:=zn om;rw[Lx,qw5 s hL t x hx,aj];simp only[h1,hc,aF,aT h2,aj]
theorem qid(s:Sl DD)(hL:s.l.length<=1000)(t:SN)(x:ND)(hx:t.l[0]?=some x)(h:s.l.find? (mV x.1 x.2.1 x.2.2.2)=none):oG (s,t,())=some (([],0,⟨true,[]⟩),false,()):=by
 have ha:s.l.any (mV x.1 x.2.1 x.2.2.2)=false:=by
  cases hb:s.l.any (mV x.1 x.2.1 x.2.2.2) with
  |false=>rfl
  |true=>obtain⟨i,y,_,_,_,h4⟩:=Jo (mV x.1 x.2.1 x.2.2.2) s.l 0 hb;rw[h4] at h;cases h
 have hc:aB (-1) 0=true:=id (Eq.refl _);rw[Lx,qw5 s hL t x hx,aj,qpb _ _ _ ha];simp only[hc,aI]
theorem qw7(b:Bool)(T:List ND):∀(l:List (List ND)) (i:Nat),bl b i (l++[T])=bl b i l++[(((i+l.length:Nat):Int),⟨b,T⟩)]
 |[],i=>by show [((i:Int),_)]=[(((i+0:Nat):Int),_)];rw[Nat.add_zero]
 |U::r,i=>by show _::bl b (i+1) (r++[T])=_::(bl b (i+1) r++_);rw[qw7 b T r (i+1),zw,show i+1+r.length=i+(r.length+1) by omega]
theorem qw8(b:Bool){Ts:List (List ND)}{k:Nat}{T:List ND}(h:Ts[k]?=some T):bl b 0 (Ts.take (k+1))=bl b 0 (Ts.take k)++[((k:Int),⟨b,T⟩)]:=by have hk:=fc h;rw[List.take_add_one,h];show bl b 0 (Ts.take k++[T])=_;rw[qw7,zJ,Nat.min_eq_left om,zL]
theorem PA{ks:F}{n:Nat}(h:ks.size<=n):∀T,T∈ks.trees->T.length<=n:=by intro T hT;have:=(List.sublist_flatten_of_mem hT).length_le;rw[F.fe,F.len] at this;omega
theorem z2p(nb b:Bool)(Ts:List (List ND))(hT:Ts.length<=10000)(hf:∀T,T∈Ts->T.length<=4000)(as:Sl SN)(ha:as.l.length<=1000)(hg:∀a,a∈as.l->gA a):aG qw (⟨nb,bl b 0 Ts⟩,as,aa as.l,0,⟨true,[]⟩,())=some (.inr (⟨true&&as.l.isEmpty,as.l.map (dM true Ts)⟩,true,())):=by
 refine(rG qw (fun k a=>(⟨nb,bl b 0 Ts⟩,as,aa as.l,k,a,())) as.l (fun(a:Sl SN) x=>(⟨false,a.l++[dM true Ts x]⟩:Sl SN)) (fun a=>.inr (a,true,())) (fun k a=>k<=as.l.length/\a.l.length=k) ⟨true,[]⟩ ⟨Nat.zero_le _,rfl⟩ ?_ ?_).trans ?_
 ·intro k x a hx hi;obtain⟨na,al⟩:=a;have h2:al.length=k:=hi.2;have hk:=fc hx;obtain⟨bx,lx⟩:=x;have hj:=(hg _ (zj hx)).2;have hl:=qrt nb b bx Ts hT hf lx hj;have hc:∀y:SN,fit (aK (aa al) (aa [y]))=some ():=fun y=>eM (by show al.length+1<=_;omega);refine⟨?_,hk,by show(al++[_]).length=_;rw[zm,h2];rfl⟩;have he:=aH (show k<=1000000000 by omega);unfold qw dM;simp only[cE hx,aI,aT hx,aj,hl];cases aB 4000 (aa (lx.foldl (ix Ts) ⟨true,[]⟩).l)<;>simp only[aI,aF,aj,hc,uD,he,cond_true,cond_false]<;>rfl
 ·intro a _;unfold qw;simp only[cQ,aF]
 ·rw[Pz];rfl
theorem ql8(s:Sl DD)(hL:GD s.l)(b:Bool)(k:Int)(t:Tx)(n:Int)(ks:F)(_hs:ks.size+1<=10000)(cF:Tx)(h:fC s.l k t (ks.aA:Int) cF=none):lV (s,⟨b,(tr k t n ks).flat⟩,cF,())=some (⟨true,[]⟩,false,()):=by
 have hx:(⟨b,(tr k t n ks).flat⟩:SN).l[0]?=some (k,t,n,(ks.aA:Int)):=rfl;rw[Ly];cases hd:s.l.find? (mV k t (ks.aA:Int)) with
 |none=>rw[qid s hL.1 _ _ hx hd,aj];simp only[XX ⟨true,[]⟩ (Nat.zero_le _) cF,aj,nF,aI]
 |some d=>
  have hc:=jf hd;rw[qal s hL.1 _ _ hx hd,aj];unfold fC at h;rw[hd] at h;have h:d.2.2.l.find? (fun x=>aS x.1 cF)=none:=h;have ha:d.2.2.l.any (fun c:CT=>aS c.1 cF)=false:=by
   cases hb:d.2.2.l.any (fun c:CT=>aS c.1 cF) with
   |false=>rfl
   |true=>obtain⟨i,y,_,_,_,h4⟩:=Jo (fun c:CT=>aS c.1 cF) d.2.2.l 0 hb;rw[h4] at h;cases h
  have he:aB (-1) 0=true:=id (Eq.refl _);have g2:=(hL.2 d hc).2.1;simp only[XX d.2.2 om cF,aj,qpb _ _ _ ha,he,nT,aF,aI]
theorem ql9(s:Sl DD)(hL:GD s.l)(b:Bool)(k:Int)(t:Tx)(n:Int)(ks:F)(hs:ks.size+1<=4000)(cF:Tx)(c:CT)(h:fC s.l k t (ks.aA:Int) cF=some c):lV (s,⟨b,(tr k t n ks).flat⟩,cF,())=some (⟨true&&c.2.l.isEmpty,c.2.l.map (dM true ks.trees)⟩,true,()):=by
 have hx:(⟨b,(tr k t n ks).flat⟩:SN).l[0]?=some (k,t,n,(ks.aA:Int)):=rfl;have hk:(tr k t n ks).flat.length<=10000:=by rw[pn];omega
 have hl:=Ey k t n ks;obtain⟨nb,hc⟩:=qkx b _ hk hl;have hc:kG (⟨b,(tr k t n ks).flat⟩,0,())=some (⟨nb,ks.pos (0+1)⟩,()):=hc;have hq:=Jq hk ks 1 hl.node.2.1 (by rw[pn];omega);have ht:=F.cv ks;have hz:=F.eV ks;rw[Ly];unfold fC at h;cases hd:s.l.find? (mV k t (ks.aA:Int)) with
 |none=>rw[hd] at h;cases h
 |some d=>
  rw[hd] at h;have h:d.2.2.l.find? (fun x=>aS x.1 cF)=some c:=h;have hg:=jf hd;obtain⟨g1,g2,g3⟩:=hL.2 d hg;have ha:d.2.2.l.any (fun c:CT=>aS c.1 cF)=true:=by
   cases hb:d.2.2.l.any (fun c:CT=>aS c.1 cF) with
   |true=>rfl
   |false=>rw[XY hb] at h;cases h
  obtain⟨i,y,h1,h2,h3,h4⟩:=Jo (fun c:CT=>aS c.1 cF) d.2.2.l 0 ha;rw[h4] at h;injection h with h;subst h
  rw[zL] at h1;obtain⟨q1,q2,q3⟩:=g3 y (zj h2);have hu:aB (i:Int) 0=false:=zn om;rw[qal s hL.1 _ _ hx hd,aj];simp only[XX d.2.2 om cF,aj,h1,hu,nT,aF,hc];refine(rG uh (fun v a=>(⟨b,(tr k t n ks).flat⟩,(i:Int),⟨nb,ks.pos (0+1)⟩,aa (ks.pos (0+1)),v,d.1,d.2.1,d.2.2,a,())) (ks.gF 1)
   (fun(a:Sl (Int×SN)) e=>(⟨false,a.l++[((a.l.length:Int),⟨b,e.2⟩)]⟩:Sl (Int×SN))) (fun _=>(⟨true&&y.2.l.isEmpty,y.2.l.map (dM true ks.trees)⟩,true,())) (fun v a=>v<=ks.aA/\a.l=bl b 0 (ks.trees.take v)) ⟨true,[]⟩ ⟨Nat.zero_le _,rfl⟩ ?_ ?_)
  ·intro v e a hv hi;obtain⟨na,al⟩:=a;have hf:al=bl b 0 (ks.trees.take v):=hi.2;have hp:(ks.pos (0+1))[v]?=some e.1:=by rw[<-F.dD];exact getM hv
   have hm:ks.trees[v]?=some e.2:=by rw[<-F.cX ks 1];exact getM hv
   have hA:=fc hm;have hn:=hq e (zj hv);have he:al.length=v:=by rw[hf,Mv,zJ];omega
   have hj:∀z:Int×SN,fit (aK (aa al) (aa [z]))=some ():=fun z=>eM (by show al.length+1<=_;omega);refine⟨?_,by omega,?_⟩
   ·unfold uh;simp only[cE hp,aI,aT hp,aj,hn.ends b,hn.cut,hj,uD,he,aH (show v<=1000000000 by omega)];rfl
   ·show al++[((al.length:Int),(⟨b,e.2⟩:SN))]=_;rw[qw8 b hm,he,hf]
  ·intro a hi;obtain⟨na,al⟩:=a;have hw:(ks.gF 1).length=(ks.pos (0+1)).length:=by rw[<-F.dD ks 1,zC]
   have hy:(ks.gF 1).length=ks.trees.length:=by rw[<-F.cX ks 1,zC]
   have hf:al=bl b 0 ks.trees:=by have:=hi.2;rw[hy,List.take_length] at this;exact this
   have ho:=z2p na b ks.trees om (fun T hT=>by have:=PA (Nat.le_refl ks.size) T hT;omega) y.2 q2 q3;rw[<-hf] at ho;unfold uh;simp only[hw,cQ,aF,aT h2,aj,ho]
theorem qpk{l:List ND}{e:Int×List ND}(h:z48 l e)(he:e.2.length<=1000000)(b:Bool):p9 (⟨b,l⟩,e.1,())=some (⟨false,e.2⟩,()):=by have hf:fit (aK (aa ([]:List ND)) (aa e.2))=some ():=eM (by show 0+e.2.length<=_;omega);rw[U7,h.Mu b,aj,h.cut,aj,hf,aj];rfl
theorem qzc(s:Sl DD)(nb b:Bool)(Ts:List (List ND))(hT:Ts.length<=10000)(hj:∀T,T∈Ts->T.length<=4000){i j:Nat}{d:DD}{c:CT}(hd:s.l[i]?=some d)(hc:d.2.2.l[j]?=some c)(ha:c.2.l.length<=1000)(hg:∀a,a∈c.2.l->gA a):aG qV (s,⟨nb,bl b 0 Ts⟩,(i:Int),(j:Int),0,⟨false,[]⟩,())=some (.inr (.inr (.inr (.inr (⟨false,c.2.l.map (dM false Ts)⟩,true,()))))):=by
 refine(rG qV (fun k a=>(s,⟨nb,bl b 0 Ts⟩,(i:Int),(j:Int),k,a,())) c.2.l (fun(a:Sl SN) x=>(⟨false,a.l++[dM false Ts x]⟩:Sl SN)) (fun a=>.inr (.inr (.inr (.inr (a,true,()))))) (fun k a=>k<=c.2.l.length/\a.l.length=k) ⟨false,[]⟩ ⟨Nat.zero_le _,rfl⟩ ?_ ?_).trans ?_
 ·intro k x a hx hi;obtain⟨na,al⟩:=a;have h2:al.length=k:=hi.2;have hk:=fc hx;obtain⟨bx,lx⟩:=x;have hl:=(hg _ (zj hx)).2;have hm:=qn8 nb b bx Ts hT hj lx hl;have he:∀y:SN,fit (aK (aa al) (aa [y]))=some ():=fun y=>eM (by show al.length+1<=_;omega);refine⟨?_,hk,by show(al++[_]).length=_;rw[zm,h2];rfl⟩;have hf:=aH (show k<=1000000000 by omega);unfold qV dM;simp only[aT hd,aT hc,cE hx,aI,aT hx,aj,hm];cases aB 4000 (aa (lx.foldl (ix Ts) ⟨false,[]⟩).l)<;>simp only[aI,aF,aj,he,uD,hf,cond_true,cond_false]<;>rfl
 ·intro a _;unfold qV;simp only[aT hd,aT hc,aj,cQ,aF]
 ·rw[Pz];rfl
theorem qla{α ρ:Type}(p:α->Bool)(g:α->ρ)(R:ρ)(l:List α)(k:Nat):scan (fun _ x=>bif p x then some (g x) else none) R k l=match l.find? p with|some x=>g x|none=>R:=by
 induction l generalizing k with
 |nil=>rfl
 |cons x r ih=>
  unfold scan;rw[List.find?_cons];cases p x with
  |false=>exact ih (k+1)
  |true=>rfl
theorem qw9(s:Sl DD)(hL:GD s.l)(t:SN)(cF:Tx)(nb b:Bool)(Ts:List (List ND))(hT:Ts.length<=10000)(he:∀T,T∈Ts->T.length<=4000){i:Nat}{d:DD}(hd:s.l[i]?=some d):aG qW (s,t,cF,⟨nb,bl b 0 Ts⟩,(i:Int),0,())=some (match d.2.2.l.find? (fun c:CT=>aS c.1 cF) with|some c=>.inr (.inr (.inr (⟨false,c.2.l.map (dM false Ts)⟩,true,())))|none=>.inl (s,t,cF,⟨nb,bl b 0 Ts⟩,(i:Int),())):=by
 obtain⟨g1,g2,g3⟩:=hL.2 d (zj hd);refine(j4 qW (fun k=>(s,t,cF,⟨nb,bl b 0 Ts⟩,(i:Int),k,())) d.2.2.l om (fun _ c=>bif aS c.1 cF then some (.inr (.inr (.inr (⟨false,c.2.l.map (dM false Ts)⟩,true,())))) else none) (.inl (s,t,cF,⟨nb,bl b 0 Ts⟩,(i:Int),())) ?_ ?_).trans ?_
 ·intro j c hc hj;obtain⟨q1,q2,q3⟩:=g3 c (zj hc);unfold qW;simp only[aT hd,cE hc,aI,aT hc,aj,qzc s nb b Ts hT he hd hc q2 q3,aH (show j<=1000000000 by omega)];cases aS c.1 cF<;>rfl
 ·unfold qW;simp only[aT hd,aj,cQ,aF]
 ·rw[qla];cases d.2.2.l.find? (fun c:CT=>aS c.1 cF)<;>rfl
theorem qru(s:Sl DD)(hL:GD s.l)(t:SN)(x:ND)(hx:t.l[0]?=some x)(cF:Tx)(nb b:Bool)(Ts:List (List ND))(hT:Ts.length<=10000)(hf:∀T,T∈Ts->T.length<=4000):aG qX (s,t,cF,⟨nb,bl b 0 Ts⟩,0,())=some (scan (fun _ d=>bif mV x.1 x.2.1 x.2.2.2 d then(match d.2.2.l.find? (fun c:CT=>aS c.1 cF) with|some c=>some (.inr (⟨false,c.2.l.map (dM false Ts)⟩,true,()))|none=>none) else none) (.inr (⟨true,[]⟩,false,())) 0 s.l):=by
 have h0:aJ t.l 0=some x:=aT (i:=0) hx;refine j4 qX (fun k=>(s,t,cF,⟨nb,bl b 0 Ts⟩,k,())) s.l (by have:=hL.1;omega) _ _ ?_ ?_
 ·intro i d hd hi;have he:=aH (show i<=1000000000 by omega);have hc:=qw9 s hL t cF nb b Ts hT hf hd;unfold qX mV;simp only[cE hd,aI,aT hd,h0,aj,hc];cases af x.1 32 with
  |false=>simp only[nF,aI,aj,Bool.false_and,cond_false];exact congrArg (fun z:Int=>some (Sum.inl (s,t,cF,(⟨nb,bl b 0 Ts⟩:Sl (Int×SN)),z,()))) he
  |true=>
   cases aS d.1 x.2.1 with
   |false=>simp only[nF,nT,aI,aF,aj,Bool.true_and,Bool.false_and,cond_false];exact congrArg (fun z:Int=>some (Sum.inl (s,t,cF,(⟨nb,bl b 0 Ts⟩:Sl (Int×SN)),z,()))) he
   |true=>
    cases af d.2.1 x.2.2.2 with
    |false=>simp only[nF,nT,aI,aF,aj,Bool.true_and,cond_false];exact congrArg (fun z:Int=>some (Sum.inl (s,t,cF,(⟨nb,bl b 0 Ts⟩:Sl (Int×SN)),z,()))) he
    |true=>
     simp only[nT,aF,aj,Bool.true_and,cond_true];cases d.2.2.l.find? (fun c:CT=>aS c.1 cF) with
     |none=>exact congrArg (fun z:Int=>some (Sum.inl (s,t,cF,(⟨nb,bl b 0 Ts⟩:Sl (Int×SN)),z,()))) he
     |some c=>rfl
 ·unfold qX;simp only[cQ,aF]
theorem z4a{n:Tx}{l:List Tx}(h:bK (n::l)=false):n∉l/\bK l=false:=by unfold bK at h;rw[Bool.or_eq_false_iff] at h;exact⟨of_decide_eq_false h.1,h.2⟩
theorem qlb{ρ:Type}(k:Int)(t:Tx)(c:Int)(cF:Tx)(g:CT->ρ)(R:ρ):∀(L:List DD) (i:Nat),bK (L.map fun d=>d.1)=false->scan (fun _ d=>bif mV k t c d then(match d.2.2.l.find? (fun c:CT=>aS c.1 cF) with|some c=>some (g c)|none=>none) else none) R i L=match fC L k t c cF with|some c=>g c|none=>R
 |[],_,_=>rfl
 |d::r,i,h=>by
  obtain⟨h1,h2⟩:=z4a h;have ih:=qlb k t c cF g R r (i+1) h2;unfold scan fC;rw[List.find?_cons];cases hd:mV k t c d with
  |false=>simp only[cond_false];exact ih
  |true=>
   simp only[cond_true,Option.bind_some];cases hc:d.2.2.l.find? (fun x=>aS x.1 cF) with
   |some c=>rfl
   |none=>
    simp only;refine ih.trans ?_
    have hn:r.find? (mV k t c)=none:=by rw[List.find?_eq_none];intro d2 hm hp;refine h1 (zW.2 ⟨d2,hm,?_⟩);unfold mV at hd hp;simp only[zd] at hd hp;exact(dU.1 hp.2.1).trans (dU.1 hd.2.1).symm
    unfold fC;rw[hn];rfl
theorem qgq(s:Sl DD)(hL:GD s.l)(hn:bK (s.l.map fun d=>d.1)=false)(b:Bool)(k:Int)(t:Tx)(n:Int)(ks:F)(hs:ks.size+1<=4000)(cF:Tx):kI (s,⟨b,(tr k t n ks).flat⟩,cF,())=some (match fC s.l k t (ks.aA:Int) cF with|some c=>(⟨false,c.2.l.map (dM false ks.trees)⟩,true,())|none=>(⟨true,[]⟩,false,())):=by
 have hx:(⟨b,(tr k t n ks).flat⟩:SN).l[0]?=some (k,t,n,(ks.aA:Int)):=rfl;have hl:(tr k t n ks).flat.length<=10000:=by rw[pn];omega
 have hm:=Ey k t n ks;have hc:=HP b _ hl hm;have hc:eI (⟨b,(tr k t n ks).flat⟩,0,())=some (⟨false,ks.pos (0+1)⟩,()):=hc;have ht:=Jq hl ks 1 hm.node.2.1 (by rw[pn];omega);have hu:=F.cv ks;have hA:=F.eV ks;have ho:∀T,T∈ks.trees->T.length<=4000:=fun T hT=>by have:=PA (Nat.le_refl ks.size) T hT;omega
 rw[U9,hc,aj];refine(rG ux (fun v a=>(s,⟨b,(tr k t n ks).flat⟩,cF,⟨false,ks.pos (0+1)⟩,v,a,())) (ks.gF 1)
   (fun(a:Sl (Int×SN)) e=>(⟨false,a.l++[((a.l.length:Int),⟨false,e.2⟩)]⟩:Sl (Int×SN))) (fun _=>match fC s.l k t (ks.aA:Int) cF with|some c=>(⟨false,c.2.l.map (dM false ks.trees)⟩,true,())|none=>(⟨true,[]⟩,false,())) (fun v a=>v<=ks.aA/\a.l=bl false 0 (ks.trees.take v)) ⟨false,[]⟩ ⟨Nat.zero_le _,rfl⟩ ?_ ?_)
 ·intro v e a hv hi;obtain⟨na,al⟩:=a;have hf:al=bl false 0 (ks.trees.take v):=hi.2;have hp:(ks.pos (0+1))[v]?=some e.1:=by rw[<-F.dD];exact getM hv
  have hg:ks.trees[v]?=some e.2:=by rw[<-F.cX ks 1];exact getM hv
  have hB:=fc hg;have hw:=ht e (zj hv);have hj:=qpk hw (by have:=ho e.2 (zj hg);omega) b;have he:al.length=v:=by rw[hf,Mv,zJ];omega
  have hk:∀z:Int×SN,fit (aK (aa al) (aa [z]))=some ():=fun z=>eM (by show al.length+1<=_;omega);refine⟨?_,by omega,?_⟩
  ·unfold ux;simp only[cE hp,aI,aT hp,aj,hj,hk,uD,he,aH (show v<=1000000000 by omega)];rfl
  ·show al++[((al.length:Int),(⟨false,e.2⟩:SN))]=_;rw[qw8 false hg,he,hf]
 ·intro a hi;obtain⟨na,al⟩:=a;have hy:(ks.gF 1).length=(ks.pos (0+1)).length:=by rw[<-F.dD ks 1,zC]
  have hz:(ks.gF 1).length=ks.trees.length:=by rw[<-F.cX ks 1,zC]
  have hf:al=bl false 0 ks.trees:=by have:=hi.2;rw[hz,List.take_length] at this;exact this
  have hq:=qru s hL ⟨b,(tr k t n ks).flat⟩ _ hx cF na false ks.trees om ho;rw[<-hf,qlb k t (ks.aA:Int) cF _ _ s.l 0 hn] at hq;unfold ux;simp only[hy,cQ,aF];refine hq.trans ?_;cases fC s.l k t (ks.aA:Int) cF<;>rfl
theorem XZ:∀(f g:F) (x y:List ND),f.flat++x=g.flat++y->f.aA=g.aA->f=g/\x=y
 |.nil,.nil,x,y,h,_=>⟨rfl,h⟩
 |.nil,.cons _ _ _ _ _,_,_,_,h=>by cases h
 |.cons _ _ _ _ _,.nil,_,_,_,h=>by cases h
 |.cons k t n ks r,.cons k' t' n' bP r',x,y,h,hc=>by have h:(k,t,n,(ks.aA:Int))::((ks.flat++r.flat)++x)=(k',t',n',(bP.aA:Int))::((bP.flat++r'.flat)++y):=h;injection h with h1 h2;injection h1 with e1 h1;injection h1 with e2 h1;injection h1 with e3 e4;rw[zD,zD] at h2;obtain⟨g1,g2⟩:=XZ ks bP _ _ h2 om;have hc:r.aA+1=r'.aA+1:=hc;obtain⟨g3,g4⟩:=XZ r r' _ _ g2 om;subst e1 e2 e3 g1 g3;exact⟨rfl,g4⟩
theorem PB{k k':Int}{t t':Tx}{n n':Int}{ks bP:F}(h:(tr k t n ks).flat=(tr k' t' n' bP).flat):k=k'/\t=t'/\n=n'/\ks=bP:=by have:=(XZ (tr k t n ks) (tr k' t' n' bP) [] [] (by rw[zE,zE];exact h) rfl).1;injection this with h1 h2 h3 h4;exact⟨h1,h2,h3,h4⟩
open Classical in
noncomputable def X0(T:List ND):List (List ND):=if h:∃ks:F,∃k t n,T=(tr k t n ks).flat then(Classical.choose h).trees else []
theorem qzd(k:Int)(t:Tx)(n:Int)(ks:F):X0 (tr k t n ks).flat=ks.trees:=by have h:∃bP:F,∃k' t' n',(tr k t n ks).flat=(tr k' t' n' bP).flat:=⟨ks,k,t,n,rfl⟩;unfold X0;rw[dif_pos h];obtain⟨k',t',n',e⟩:=Classical.choose_spec h;rw[<-(PB e).2.2.2]
def F.bY:F->List F
 |.nil=>[]
 |.cons k t n ks r=>tr k t n ks::r.bY
theorem F.cG:∀f:F,f.bY.map F.flat=f.trees
 |.nil=>rfl
 |.cons k t n ks r=>by show _::_=_::_;rw[F.cG r]
theorem F.iG(f:F):f.bY.length=f.aA:=by rw[<-F.eV,<-F.cG,zC]
theorem F.eX:∀(f:F) (p:F),p∈f.bY->∃k t n ks,p=tr k t n ks/\ks.size+1<=f.size
 |.nil,_,h=>by cases h
 |.cons k t n ks r,p,h=>by
  rcases zt.1 h with h|h
  ·exact⟨k,t,n,ks,h,by show _<=ks.size+r.size+1;omega⟩
  ·obtain⟨k',t',n',bP,h1,h2⟩:=F.eX r p h;exact⟨k',t',n',bP,h1,by show _<=ks.size+r.size+1;omega⟩
theorem F.ff:∀f g:F,(f.app g).flat=f.flat++g.flat
 |.nil,_=>rfl
 |.cons k t n ks r,g=>by show _::(ks.flat++(r.app g).flat)=_::((ks.flat++r.flat)++g.flat);rw[F.ff r g,zD]
theorem F.fq:∀f g:F,(f.app g).aA=f.aA+g.aA
 |.nil,g=>(zL _).symm
 |.cons k t n ks r,g=>by show(r.app g).aA+1=r.aA+1+g.aA;rw[F.fq r g];omega
def HS(Fs:List F):F->F
 |.nil=>.nil
 |.cons k t n ks r=>(bif af k 31 then(if 0<=n then(Fs[n.toNat]?).getD (tr k t n ks) else tr k t n ks) else tr k t n (HS Fs ks)).app (HS Fs r)
theorem X4(Fs:List F)(hF:∀f,f∈Fs->f.aA=1):∀f:F,(HS Fs f).aA=f.aA
 |.nil=>rfl
 |.cons k t n ks r=>by
  have h:(bif af k 31 then(if 0<=n then(Fs[n.toNat]?).getD (tr k t n ks) else tr k t n ks) else tr k t n (HS Fs ks)).aA=1:=by
   cases af k 31 with
   |false=>rfl
   |true=>
    rw[cond_true];split
    ·cases e:Fs[n.toNat]? with
     |none=>rfl
     |some f=>exact hF f (zj e)
    ·rfl
  unfold HS;rw[F.fq,h,X4 Fs hF r];show 1+r.aA=r.aA+1;omega
theorem qze{x:ND}(h:fN x=true)(hc:af x.1 31=true):x.2.2.2=0:=by unfold fN at h;rw[hc,cond_true,zd] at h;exact cu.1 h.1
theorem X5(Fs:List F)(hF:∀f,f∈Fs->f.aA=1):∀f:F,f.flat.all fN=true->uM (Fs.map F.flat) f.flat=(HS Fs f).flat
 |.nil,_=>rfl
 |.cons k t n ks r,h=>by
  have h:(fN (k,t,n,(ks.aA:Int))&&(ks.flat++r.flat).all fN)=true:=h;rw[zd,List.all_append,zd] at h;obtain⟨h1,h2,h3⟩:=h;have i1:=X5 Fs hF ks h2;have i2:=X5 Fs hF r h3;unfold HS;rw[F.ff,<-i2];show uM _ ((k,t,n,(ks.aA:Int))::(ks.flat++r.flat))=_;unfold uM at*
  rw[List.flatMap_cons,List.flatMap_append,<-zD];congr 1;unfold mU;cases hc:af k 31 with
  |false=>simp only[cond_false];rw[show mU (Fs.map F.flat)=fun x=>mU (Fs.map F.flat) x from rfl] at i1;unfold mU at i1;rw[i1,Du,X4 Fs hF];rfl
  |true=>
   have h0:=qze h1 hc;obtain rfl:=qpa h0;simp only[cond_true];by_cases hn:0<=n
   ·rw[if_pos hn,if_pos hn,zV];cases Fs[n.toNat]? with
    |none=>rfl
    |some f=>show f.flat++[]=f.flat;rw[zE]
   ·rw[if_neg hn,if_neg hn];rfl
theorem HT:∀f:F,f.aA=1->∃k t n ks,f=tr k t n ks
 |.nil,h=>by cases h
 |.cons k t n ks r,h=>by
  have h:r.aA+1=1:=h;cases r with
  |nil=>exact⟨k,t,n,ks,rfl⟩
  |cons _ _ _ _ r'=>have h:r'.aA+1+1=1:=h;omega
theorem DC(T:List ND):jS T=true↔T.length<=4000/\T.all fN=true/\∃k t n ks,T=(tr k t n ks).flat:=by unfold jS;rw[zd,zd,decide_eq_true_eq,Jm];exact⟨fun⟨a,b,c⟩=>⟨a,c,b⟩,fun⟨a,c,b⟩=>⟨a,b,c⟩⟩
theorem qwa{k:Int}{t:Tx}{n:Int}{ks:F}(h:jS (tr k t n ks).flat=true):∀T,T∈ks.trees->jS T=true:=by
 intro T hT;obtain⟨h1,h2,_⟩:=(DC _).1 h;rw[pn] at h1;have hs:=PA (Nat.le_refl ks.size) T hT;rw[<-F.cG] at hT;obtain⟨p,hp,e⟩:=zW.1 hT;obtain⟨k',t',n',bP,hc,_⟩:=F.eX ks p hp;refine(DC T).2 ⟨by omega,?_,⟨k',t',n',bP,by rw[<-e,hc]⟩⟩;rw[Du,List.all_cons,zd] at h2;have hm:∀x,x∈T->x∈ks.flat:=fun x hx=>by rw[<-F.fe,<-F.cG];exact List.mem_flatten.2 ⟨T,zW.2 ⟨p,hp,e⟩,hx⟩
 exact zO.2 fun x hx=>zO.1 h2.2 x (hm x hx)
theorem X6{k:Int}{t:Tx}{n:Int}{ks:F}(h:jS (tr k t n ks).flat=true){a:List ND}(ha:jS a=true):jS (fD ks.trees a)=true:=by
 unfold fD;cases hb:aB 4000 (aa (uM ks.trees a)) with
 |true=>kernel_rfl
 |false=>
  rw[cond_false];have hb:¬(4000:Int)<((uM ks.trees a).length:Int):=of_decide_eq_false hb;obtain⟨a1,a2,k',t',n',bP,e⟩:=(DC a).1 ha;have hF:∀f,f∈ks.bY->f.aA=1:=fun f hf=>by obtain⟨_,_,_,_,h1,_⟩:=F.eX ks f hf;rw[h1];rfl
  refine(DC _).2 ⟨by omega,?_,?_⟩
  ·refine zO.2 fun x hx=>?_;obtain⟨y,hy,hx⟩:=List.mem_flatMap.1 hx;have hc:=zO.1 a2 y hy;unfold mU at hx;have single:x∈[y]->fN x=true:=fun hx=>by rw[zS] at hx;rw[hx];exact hc
   cases hq:af y.1 31 with
   |false=>rw[hq,cond_false] at hx;exact single hx
   |true=>
    rw[hq,cond_true] at hx;split at hx
    ·cases hT:ks.trees[y.2.2.1.toNat]? with
     |none=>rw[hT] at hx;exact single hx
     |some T=>rw[hT] at hx;have:=(DC T).1 (qwa h T (zj hT));exact zO.1 this.2.1 x hx
    ·exact single hx
  ·subst e;rw[<-F.cG,X5 ks.bY hF _ a2];obtain⟨k2,t2,n2,ks2,e2⟩:=HT _ (X4 ks.bY hF (tr k' t' n' bP));exact⟨k2,t2,n2,ks2,by rw[e2]⟩
def hd(T:List ND):ND:=T.headD (0,[],0,0)
noncomputable def lB(L:List DD)(T:List ND)(cF:Tx):Option (List (List ND)):=(fC L (hd T).1 (hd T).2.1 (hd T).2.2.2 cF).map fun c=>c.2.l.map fun a=>fD (X0 T) a.l
noncomputable def HU(L:List DD)(T:List ND)(k:Int)(t:Tx)(c:Nat)(rec:List (List ND)->Bool):Bool:=
 bif af k 21||af k 22 then true else bif af k 23||af k 51 then aS (hd T).2.1 [105,110,116] else bif af k 52 then aS (hd T).2.1 [116,101,120,116] else
  bif af k 54 then af (hd T).1 31||(aS (hd T).2.1 [45,62]||aS (hd T).2.1 [114,101,102]) else
   match lB L T t with
   |none=>false
   |some As=>decide (As.length=c)&&rec As
noncomputable def lC(L:List DD):F->List (List ND)->Bool
 |.nil,_=>true
 |.cons _ _ _ _ _,[]=>false
 |.cons k t _ ks r,T::Ts=>HU L T k t ks.aA (fun As=>lC L ks As)&&lC L r Ts
theorem PE(L:List DD)(k:Int)(t:Tx)(n:Int)(ks:F)(T:List ND):lC L (tr k t n ks) [T]=HU L T k t ks.aA (fun As=>lC L ks As):=by show(HU L T k t ks.aA (fun As=>lC L ks As)&&true)=_;rw[Bool.and_true]
theorem PF(L:List DD):∀(f:F) (As:List (List ND)),As.length=f.aA->lC L f As=(f.bY.zip As).all fun z=>lC L z.1 [z.2]
 |.nil,[],_=>rfl
 |.nil,_::_,h=>by cases h
 |.cons _ _ _ _ _,[],h=>by cases h
 |.cons k t n ks r,T::Ts,h=>by show(HU L T k t ks.aA (fun As=>lC L ks As)&&lC L r Ts)=(((tr k t n ks,T)::r.bY.zip Ts).all _);rw[List.all_cons,PF L r Ts (by have h:Ts.length+1=r.aA+1:=h;omega),PE]
theorem X7{L:List DD}{k:Int}{t:Tx}{c:Int}{cF:Tx}{x:CT}(h:fC L k t c cF=some x):∃d,d∈L/\x∈d.2.2.l/\mV k t c d=true/\aS x.1 cF=true:=by
 unfold fC at h;cases hd:L.find? (mV k t c) with
 |none=>rw[hd] at h;cases h
 |some d=>rw[hd] at h;have h:d.2.2.l.find? (fun x=>aS x.1 cF)=some x:=h;exact⟨d,jf hd,jf h,List.find?_some hd,List.find?_some (p:=fun x:CT=>aS x.1 cF) h⟩
theorem X8{L:List DD}(he:L.all jT=true){d:DD}(hd:d∈L){c:CT}(hc:c∈d.2.2.l):gI c.1=true/\c.2.l.length<=8/\(∀a,a∈c.2.l->jS a.l=true)/\d.2.1<=8/\0<=d.2.1/\gI d.1=true:=by have h1:=zO.1 he d hd;unfold jT at h1;simp only[zd] at h1;obtain⟨g0,g1,g2,g3,g4,g5⟩:=h1;have h2:=zO.1 g5 c hc;unfold A1 at h2;simp only[zd] at h2;have e1:aa c.2.l<=8:=zP h2.2.1;have e2:d.2.1<=8:=zP g2;have e3:0<=d.2.1:=zP g1;refine⟨h2.1,by unfold aa at e1;omega,fun a ha=>?_,e2,e3,g0⟩;have h3:=zO.1 h2.2.2 a ha;unfold wb at h3;rw[zd] at h3;exact h3.1
theorem qwb{P:ND->Bool}{ks:F}(h:ks.flat.all P=true):∀p,p∈ks.bY->p.flat.all P=true:=by intro p hp;refine zO.2 fun x hx=>zO.1 h x ?_;rw[<-F.fe,<-F.cG];exact List.mem_flatten.2 ⟨p.flat,zW.2 ⟨p,hp,rfl⟩,hx⟩
theorem Mw(L:List DD)(k:Int)(t:Tx)(n:Int)(ks:F)(cF:Tx):lB L (tr k t n ks).flat cF=(fC L k t (ks.aA:Int) cF).map fun c=>c.2.l.map fun a=>fD ks.trees a.l:=by unfold lB;rw[qzd];rfl
def wc(x:ND):Bool:=a8 21 x.1&&a8 x.1 24
theorem X9(a b:Nat):af ((a:Nat):Int) ((b:Nat):Int)=decide (a=b):=by
 by_cases h:a=b
 ·subst h;rw[AP,zu rfl]
 ·rw[pD om,zn h]
theorem qwc{ks:F}{As:List (List ND)}{i:Nat}{z:F×List ND}(h:(ks.bY.zip As)[i]?=some z):ks.bY[i]?=some z.1/\As[i]?=some z.2:=by rw[List.getElem?_zip_eq_some] at h;exact h
theorem Ya(s:Sl DD)(hL:GD s.l)(hq:s.l.all jT=true):∀(M:Nat) (k:Int) (t:Tx) (n:Int) (ks:F),ks.size+1<=M->ks.size+1<=4000->(tr k t n ks).flat.all wc=true->∀(T:SN) (b2:Bool),jS T.l=true->∀N,M<=N->bB oH N (s,T,⟨b2,(tr k t n ks).flat⟩,())=some (lC s.l (tr k t n ks) [T.l],()):=by
 intro M
 induction M with
 |zero=>intro k t n ks h;omega
 |succ M ih=>
  intro k t n ks hM hG hP T b2 hT N hN;obtain⟨b,T⟩:=T;cases N with
  |zero=>omega
  |succ N=>
   obtain⟨hs,hH,k',t',n',bP,ht⟩:=(DC T).1 hT;subst ht;rw[pn] at hs;have h0:aJ (tr k t n ks).flat 0=some (k,t,n,(ks.aA:Int)):=aT (i:=0) rfl;have h1:aJ (tr k' t' n' bP).flat 0=some (k',t',n',(bP.aA:Int)):=aT (i:=0) rfl;show oH (bB oH N) _=_;rw[Uk,PE];simp only[h0,h1,aj];rw[Du,List.all_cons,zd] at hP;have hj:=hP.1;unfold wc at hj;rw[zd] at hj;have k1:(21:Int)<=k:=zP hj.1;have k2:k<=(24:Int):=zP hj.2;unfold HU;rw[pD (show k≠51 by omega),pD (show k≠52 by omega),pD (show k≠54 by omega)];by_cases Ps:k=24
   ·subst Ps;have z1:af 24 21=false:=rfl;have z2:af 24 22=false:=rfl;have z3:af 24 23=false:=rfl;have z4:af 24 24=true:=rfl;simp only[z1,z2,z3,z4,aF,aI,cond_false,Bool.or_false];rw[qus,h0,aj,Mw];obtain⟨nbp,he⟩:=qgo b2 24 t n ks om;cases hc:fC s.l k' t' (bP.aA:Int) t with
    |none=>rw[ql8 s hL b k' t' n' bP om t hc];simp only[aj,he,nF,aI,Option.map_none]
    |some c=>
     obtain⟨d,hu,hv,hI,hJ⟩:=X7 hc;obtain⟨r1,r2,r3,r4,r5,r6⟩:=X8 hq hu hv;rw[ql9 s hL b k' t' n' bP om t c hc];have hw:aa (c.2.l.map (dM true bP.trees))=((c.2.l.length:Nat):Int):=by unfold aa;rw[zC]
     have hx:aa (ks.trees.map fun l=>(⟨b2,l⟩:SN))=((ks.aA:Nat):Int):=by unfold aa;rw[zC,F.eV]
     have hl:(c.2.l.map fun a=>fD bP.trees a.l).length=c.2.l.length:=zC _;simp only[aj,he,nT,aF,hw,hx,X9,Option.map_some,hl];by_cases hk:c.2.l.length=ks.aA
     ·rw[zu hk];simp only[nT,aF,Bool.true_and];rw[PF s.l ks _ (by rw[hl];exact hk)];have hm:(ks.bY.zip (c.2.l.map fun a=>fD bP.trees a.l)).length=ks.aA:=by rw[List.length_zip,F.iG,hl,hk,Nat.min_self]
      have hy:=F.cv ks;refine(HQ (j4 (Pf (bB oH N)) (fun i=>(s,⟨true&&c.2.l.isEmpty,c.2.l.map (dM true bP.trees)⟩,⟨nbp,ks.trees.map fun l=>(⟨b2,l⟩:SN)⟩,((ks.aA:Nat):Int),i,())) (ks.bY.zip (c.2.l.map fun a=>fD bP.trees a.l)) om
       (fun _ z=>bif lC s.l z.1 [z.2] then none else some (false,())) (true,()) ?_ ?_) _).trans ?_
      ·intro i z hz hi;obtain⟨p,A⟩:=z;obtain⟨ho,hg⟩:=qwc hz;have hK:=fc hz;have hp:=zj ho;obtain⟨kp,tp,np,Js,hA,hO⟩:=F.eX ks p hp;have hB:=qwb hP.2 p hp;subst hA;have hC:(ks.trees.map fun l=>(⟨b2,l⟩:SN))[i]?=some ⟨b2,(tr kp tp np Js).flat⟩:=by rw[<-F.cG];exact getM (getM ho)
       rw[zV] at hg;cases ha:c.2.l[i]? with
       |none=>rw[ha] at hg;cases hg
       |some a=>
        rw[ha] at hg;injection hg with hg;have hE:(c.2.l.map (dM true bP.trees))[i]?=some (dM true bP.trees a):=getM ha;have hF:jS (dM true bP.trees a).l=true:=by rw[Jr];exact X6 hT (r3 a (zj ha))
        have hf:=ih kp tp np Js om om hB (dM true bP.trees a) b2 hF N om;rw[Jr,show fD bP.trees a.l=A from hg] at hf;have hn:aB (i:Int) ((ks.aA:Nat):Int)=true:=zu om;unfold Pf;simp only[hn,aI,aT hC,aT hE,aj,qqq,hf,aH (show i<=1000000000 by omega)];cases lC s.l (tr kp tp np Js) [A]<;>rfl
      ·have hn:aB ((ks.aA:Nat):Int) ((ks.aA:Nat):Int)=false:=zn om;unfold Pf;simp only[hm,hn,aF]
      ·rw[HR];cases (ks.bY.zip (c.2.l.map fun a=>fD bP.trees a.l)).all (fun z=>lC s.l z.1 [z.2])<;>rfl
     ·rw[zn hk];simp only[nF,aI,aj,Bool.false_and]
   ·rw[pD Ps];by_cases Mo:k=23
    ·subst Mo;rfl
    ·rw[pD Mo];by_cases rk:k=22
     ·subst rk;rfl
     ·have:k=21:=om
      subst this;rfl
theorem z55(s:Sl DD)(hL:GD s.l)(hy:s.l.all jT=true)(hn:bK (s.l.map fun d=>d.1)=false)(b2:Bool)(l:List ND)(hl:l.length<=4000):∀(M:Nat) (q:Nat) (k:Int) (t:Tx) (n:Int) (ks:F),ks.size+1<=M->cM l q (tr k t n ks)->∀(T:SN),jS T.l=true->∀N,M<=N->bB qc N (s,T,⟨b2,l⟩,(q:Int),())=some (lC s.l (tr k t n ks) [T.l],()):=by
 intro M
 induction M with
 |zero=>intro q k t n ks h;omega
 |succ M ih=>
  intro q k t n ks hM hs T hT N hN;obtain⟨b,T⟩:=T;cases N with
  |zero=>omega
  |succ N=>
   obtain⟨hA,hR,k',t',n',bP,hB⟩:=(DC T).1 hT;subst hB;rw[pn] at hA;have hf:=hs.node;have h0:aJ l (q:Int)=some (k,t,n,(ks.aA:Int)):=aT hf.1;have h1:aJ (tr k' t' n' bP).flat 0=some (k',t',n',(bP.aA:Int)):=aT (i:=0) rfl;have hg:=HP b2 l om hs;have hC:q+1<=l.length:=by have:=hf.2.2.2;omega
   have hE:=Jq om ks (q+1) hf.2.1 hC;show qc (bB qc N) _=_;rw[Va,PE];unfold HU;simp only[h0,h1,aj]
   have cF:(ag (aJ l (q:Int)) fun x7=>ag (kI (s,⟨b,(tr k' t' n' bP).flat⟩,x7.2.1,())) fun x8=>ag (eI (⟨b2,l⟩,(q:Int),())) fun x9=>ag (aq (av x8.2.1) (some true) (some (av (af (aa x8.1.l) (aa x9.1.l))))) fun Xs=>
     aq Xs (some (false,())) (aG (qY (bB qc N)) (s,⟨b2,l⟩,x8.1,x9.1,0,())))=some (match lB s.l (tr k' t' n' bP).flat t with|none=>false|some As=>decide (As.length=ks.aA)&&lC s.l ks As,()):=by
    rw[h0,aj,Mw,qgq s hL hn b k' t' n' bP om t];cases hc:fC s.l k' t' (bP.aA:Int) t with
    |none=>simp only[aj,hg,nF,aI,Option.map_none]
    |some c=>
     obtain⟨d,hF,hG,hS,hU⟩:=X7 hc;obtain⟨r1,r2,r3,r4,r5,r6⟩:=X8 hy hF hG;have hH:aa (c.2.l.map (dM false bP.trees))=((c.2.l.length:Nat):Int):=by unfold aa;rw[zC]
     have hq:aa (ks.pos (q+1))=((ks.aA:Nat):Int):=by unfold aa;rw[F.dX]
     have ht:(c.2.l.map fun a=>fD bP.trees a.l).length=c.2.l.length:=zC _;simp only[aj,hg,nT,aF,hH,hq,X9,Option.map_some,ht];by_cases ho:c.2.l.length=ks.aA
     ·rw[zu ho];simp only[nT,aF,Bool.true_and];rw[PF s.l ks _ (by rw[ht];exact ho)];have hu:(ks.bY.zip (c.2.l.map fun a=>fD bP.trees a.l)).length=ks.aA:=by rw[List.length_zip,F.iG,ht,ho,Nat.min_self]
      have hI:=F.cv ks;have hV:=hf.2.2.2;refine(j4 (qY (bB qc N)) (fun i=>(s,⟨b2,l⟩,⟨false,c.2.l.map (dM false bP.trees)⟩,⟨false,ks.pos (q+1)⟩,i,())) (ks.bY.zip (c.2.l.map fun a=>fD bP.trees a.l)) om
       (fun _ z=>bif lC s.l z.1 [z.2] then none else some (false,())) (true,()) ?_ ?_).trans ?_
      ·intro i z hz hi;obtain⟨p,A⟩:=z;obtain⟨hw,hk⟩:=qwc hz;have hW:=fc hz;have hp:=zj hw;obtain⟨kp,tp,np,Js,hJ,hX⟩:=F.eX ks p hp;subst hJ
       have hY:(ks.gF (q+1)).length=ks.aA:=by rw[<-F.dX ks (q+1),<-F.dD,zC]
       obtain⟨e,he⟩:∃e,(ks.gF (q+1))[i]?=some e:=⟨_,ze om⟩;have hx:(ks.pos (q+1))[i]?=some e.1:=by rw[<-F.dD];exact getM he
       have hm:(ks.trees)[i]?=some e.2:=by rw[<-F.cX ks (q+1)];exact getM he
       rw[<-F.cG,zV,hw] at hm;injection hm with hm;obtain⟨q2,k2,t2,n2,ks2,hK,hO⟩:=(hE e (zj he)).XT;rw[hK] at hm hx;obtain⟨u1,u2,u3,u4⟩:=PB hm;subst u1 u2 u3 u4;rw[zV] at hk;cases ha:c.2.l[i]? with
       |none=>rw[ha] at hk;cases hk
       |some a=>
        rw[ha] at hk;injection hk with hk;have hP:(c.2.l.map (dM false bP.trees))[i]?=some (dM false bP.trees a):=getM ha;have hQ:jS (dM false bP.trees a).l=true:=by rw[Jr];exact X6 hT (r3 a (zj ha))
        have hj:=ih q2 kp tp np Js om hO (dM false bP.trees a) hQ N om;rw[Jr,show fD bP.trees a.l=A from hk] at hj;have hv:aB (i:Int) ((ks.aA:Nat):Int)=true:=zu om;unfold qY;simp only[hq,hv,aI,aT hx,aT hP,aj,hj,aH (show i<=1000000000 by omega)];cases lC s.l (tr kp tp np Js) [A]<;>rfl
      ·have hv:aB ((ks.aA:Nat):Int) ((ks.aA:Nat):Int)=false:=zn om;unfold qY;simp only[hu,hq,hv,aF]
      ·rw[HR];cases (ks.bY.zip (c.2.l.map fun a=>fD bP.trees a.l)).all (fun z=>lC s.l z.1 [z.2])<;>rfl
     ·rw[zn ho];simp only[nF,aI,Bool.false_and]
   cases uG:af k 21 with
   |true=>rfl
   |false=>
    simp only[aF,aj];cases rk:af k 22 with
    |true=>rfl
    |false=>
     simp only[aF];cases Mo:af k 23 with
     |true=>rfl
     |false=>
      simp only[aF,aj];cases e51:af k 51 with
      |true=>rfl
      |false=>
       simp only[aF,Bool.or_false,cond_false];cases e52:af k 52 with
       |true=>rfl
       |false=>
        simp only[aF,cond_false];cases e54:af k 54 with
        |true=>simp only[aI,cond_true,h1,aj,show hd (tr k' t' n' bP).flat=(k',t',n',(bP.aA:Int)) from rfl];cases af k' 31<;>cases aS t' [45,62]<;>cases aS t' [114,101,102]<;>rfl
        |false=>simp only[aF,cond_false];exact cF
theorem Yc{m jR:Bool}:∀f:F,fL m true jR f=0->f.flat.all wc=true
 |.nil,_=>rfl
 |.cons k t n ks r,h=>by obtain⟨h1,h2⟩:=iF.1 h;rw[Bool.true_or] at h1;obtain⟨h3,h4⟩:=iE.1 h1;obtain⟨_,h5,_⟩:=fM.1 h3;show((k,t,n,(ks.aA:Int))::(ks.flat++r.flat)).all wc=true;rw[List.all_cons,List.all_append,Yc ks h4,Yc r h2,Bool.and_true,Bool.and_true];exact h5
termination_by structural f=>f
theorem z2s{k:Int}{t:Tx}{n:Int}{ks:F}(h:mG k t n ks true=0):(tr k t n ks).flat.all wc=true:=by obtain⟨_,h2,_⟩:=uK.1 h;obtain⟨h3,h4⟩:=iE.1 h2;obtain⟨_,h5,_⟩:=fM.1 h3;rw[Du,List.all_cons,Yc ks h4,Bool.and_true];exact h5
def isP(p:List ND):Prop:=∃k t n ks,p=(tr k t n ks).flat/\mG k t n ks true=0
theorem qzf(p:List ND)(hp:p.length<=4000)(hg:GL p):∃e:Int,(∀b,lR (⟨b,p⟩,())=some (e,()))/\(∀b,tg (⟨b,p⟩,true,())=some (e,()))/\(e=0↔isP p):=by
 rcases z2h p with h|⟨k,t,n,ks,h⟩
 ·refine⟨60,fun b=>qz5 b p hp h,fun b=>qn2 b p hp true h,fun e=>by omega,fun⟨k,t,n,ks,e,_⟩=>?_⟩;rw[(Jm p).2 ⟨k,t,n,ks,e⟩] at h;cases h
 ·subst h;rw[pn] at hp;refine⟨mG k t n ks true,fun b=>qz4 b k t n ks hp hg,fun b=>qn1 b k t n ks true hp hg,fun e=>⟨k,t,n,ks,rfl,e⟩,fun⟨k',t',n',bP,e,h⟩=>?_⟩;obtain⟨u1,u2,u3,u4⟩:=PB e;subst u1 u2 u3 u4;exact h
def PG(L:List DD)(T p:List ND):Prop:=∃k t n ks,p=(tr k t n ks).flat/\mG k t n ks true=0/\lC L (tr k t n ks) [T]=true
theorem PH{L:List DD}(h:pj L=true):L.all jT=true/\bK (L.map fun d=>d.1)=false/\bK (kY L)=false/\L.length<=60:=by unfold pj at h;simp only[zd,Bool.not_eq_true'] at h;exact⟨h.2.1,h.2.2.1,h.2.2.2.1,zP h.1⟩
theorem z56(s:Sl DD)(hL:GD s.l)(hc:s.l.all jT=true)(k:Int)(t:Tx)(n:Int)(ks:F)(hs:ks.size+1<=4000)(hP:(tr k t n ks).flat.all wc=true)(T:SN)(hT:jS T.l=true)(b:Bool):Co (s,T,⟨b,(tr k t n ks).flat⟩,())=some (lC s.l (tr k t n ks) [T.l],()):=xc (ks.size+1) fun N hN=>Ya s hL hc (ks.size+1) k t n ks (Nat.le_refl _) hs hP T b hT N hN
theorem z4b(s:Sl DD)(hL:GD s.l)(hc:s.l.all jT=true)(hn:bK (s.l.map fun d=>d.1)=false)(k:Int)(t:Tx)(n:Int)(ks:F)(hs:ks.size+1<=4000)(T:SN)(hT:jS T.l=true)(b:Bool):FV (s,T,⟨b,(tr k t n ks).flat⟩,0,())=some (lC s.l (tr k t n ks) [T.l],()):=xc (ks.size+1) fun N hN=>z55 s hL hc hn b _ (by rw[pn];exact hs) (ks.size+1) 0 k t n ks (Nat.le_refl _) (Ey k t n ks) T hT N hN
theorem qrv(L:List DD)(hL:GD L)(T:List ND)(hT:T.length<=10000)(hf:GL T)(p:List ND)(hp:p.length<=4000)(hg:GL p):∃c:Bool,(∀b0 b b',iU (⟨b0,L⟩,⟨b,T⟩,⟨b',p⟩,())=some (bif c then 0 else 120,()))/\(∀b0 b b',nv (⟨b0,L⟩,⟨b,T⟩,⟨b',p⟩,())=some (c,()))/\(c=true↔pj L=true/\jS T=true/\PG L T p):=by
 obtain⟨e,e1,e2,e3⟩:=qzf p hp hg;have d1:∀b0,oF ((⟨b0,L⟩:Sl DD),())=some (DB L,()):=fun b0=>qej ⟨b0,L⟩ hL;have d2:∀b0,y5 ((⟨b0,L⟩:Sl DD),())=some (DB L,()):=fun b0=>ql5 ⟨b0,L⟩ hL;have t1:=fun b=>Pw b T hT hf;have t2:=fun b=>qei b T hT hf;cases hd:pj L with
 |false=>
  have hc:=XR L;rw[hd] at hc;refine⟨false,fun b0 b b'=>?_,fun b0 b b'=>?_,fun h=>(by cases h),fun h=>(by cases h.1)⟩
  ·rw[C5,d1];simp only[aj,hc,nF,aI,cond_false]
  ·rw[C6,d2];simp only[aj,hc,aF]
 |true=>
  have hc:=XR L;rw[hd] at hc;cases ht:jS T with
  |false=>
   refine⟨false,fun b0 b b'=>?_,fun b0 b b'=>?_,fun h=>(by cases h),fun h=>(by cases h.2.1)⟩
   ·rw[C5,d1,t1,ht];simp only[aj,hc,nT,aF,cond_false];rfl
   ·rw[C6,d2,t2,ht];simp only[aj,hc,aI,aF]
  |true=>
   by_cases he:e=0
   ·obtain⟨k,t,n,ks,hk,hj⟩:=e3.1 he;subst hk he;rw[pn] at hp;obtain⟨q1,q2,q3,q4⟩:=PH hd;have o1:=fun b0 b b'=>z56 (⟨b0,L⟩:Sl DD) hL q1 k t n ks hp (z2s hj) (⟨b,T⟩:SN) ht b';have o2:=fun b0 b b'=>z4b (⟨b0,L⟩:Sl DD) hL q1 q2 k t n ks hp (⟨b,T⟩:SN) ht b';refine⟨lC L (tr k t n ks) [T],fun b0 b b'=>?_,fun b0 b b'=>?_,fun h=>⟨rfl,rfl,k,t,n,ks,rfl,hj,h⟩,fun⟨_,_,k',t',n',bP,h1,_,h3⟩=>?_⟩
    ·rw[C5,d1,t1,ht,e1,o1];simp only[aj,hc,nT,aF,cond_true,mE];cases lC L (tr k t n ks) [T]<;>rfl
    ·rw[C6,d2,t2,ht,e2,o2];simp only[aj,hc,aI,mE]
    ·obtain⟨u1,u2,u3,u4⟩:=PB h1;subst u1 u2 u3 u4;exact h3
   ·refine⟨false,fun b0 b b'=>?_,fun b0 b b'=>?_,fun h=>(by cases h),fun⟨_,_,k',t',n',bP,h1,h2,_⟩=>absurd (e3.2 ⟨k',t',n',bP,h1,h2⟩) he⟩
    ·rw[C5,d1,t1,ht,e1];simp only[aj,hc,nT,aF,cond_true,mE,pD he,nF,aI,cond_false]
    ·rw[C6,d2,t2,ht,e2];simp only[aj,hc,aI,aF,pD he]
theorem qwd(a c:SN)(ha:a.l.length<=1000000):z6 (a,c,())=some (decide (a.l=c.l),()):=by
 rw[Vk];have hl:af (aa a.l) (aa c.l)=decide (a.l.length=c.l.length):=X9 _ _;rw[hl];by_cases hc:a.l.length=c.l.length
 ·rw[zu hc,nT,aF];have hz:(a.l.zip c.l).length=a.l.length:=by rw[List.length_zip];omega
  refine(j4 uB (fun k=>(a,c,k,())) (a.l.zip c.l) om (fun _ z=>bif decide (z.1=z.2) then none else some (false,())) (true,()) ?_ ?_).trans ?_
  ·intro k z hx hk;obtain⟨x,y⟩:=z;rw[List.getElem?_zip_eq_some] at hx;obtain⟨h1,h2⟩:=hx;obtain⟨x1,x2,x3,x4⟩:=x;obtain⟨y1,y2,y3,y4⟩:=y;have he:aP (af x1 y1) (aP (aS x2 y2) (aP (af x3 y3) (af x4 y4)))=decide ((x1,x2,x3,x4)=(y1,y2,y3,y4)):=by
    by_cases e:(x1,x2,x3,x4)=(y1,y2,y3,y4)
    ·injection e with e1 e;injection e with e2 e;injection e with e3 e4;subst e1 e2 e3 e4;rw[AP,KO,AP,AP,zu rfl];rfl
    ·rw[zn e];cases q1:af x1 y1<;>cases q2:aS x2 y2<;>cases q3:af x3 y3<;>cases q4:af x4 y4<;>first|rfl|exact absurd (by rw[cu.1 q1,dU.1 q2,cu.1 q3,cu.1 q4]) e
   unfold uB;simp only[cE h1,aI,aT h1,aT h2,aj,he,aH (show k<=1000000000 by omega)];cases decide ((x1,x2,x3,x4)=(y1,y2,y3,y4))<;>rfl
  ·unfold uB;simp only[hz,cQ,aF]
  ·rw[HR];have:(a.l.zip c.l).all (fun z=>decide (z.1=z.2))=decide (a.l=c.l):=by
    generalize a.l=u at*
    generalize c.l=v at*
    clear hz hl ha
    induction u generalizing v with
    |nil=>cases v with
     |nil=>rfl
     |cons _ _=>cases hc
    |cons x r ih=>cases v with
     |nil=>cases hc
     |cons y w=>
      rw[List.zip_cons_cons,List.all_cons,ih w (by simpa using hc)];by_cases e:x=y
      ·subst e;rw[zu rfl,Bool.true_and];exact decide_eq_decide.2 (by simp)
      ·rw[zn e,Bool.false_and];exact(zn (by intro h;injection h with h;exact e h)).symm
   rw[this];cases decide (a.l=c.l)<;>rfl
 ·rw[zn hc,nF,aI,zn (fun h=>hc (by rw[h]))]
theorem qpm(n:Bool)(l:List ND)(hl:l.length<=1000000):Ei (⟨n,l⟩,())=some (⟨false,l⟩,()):=by have hf:fit (aK (aa ([]:List ND)) (aa l))=some ():=eM (by show 0+l.length<=_;omega);rw[qmr,hf,aj,qgi];rfl
def jU(m:Nat)(l:List ND):Prop:=l.length<=m/\∀x,x∈l->x.2.1.length<=60
theorem z57{k:Nat}(h:k<9223372036854775807):ar .i64 (k:Int) 1=((k+1:Nat):Int):=by rw[AO om om];omega
theorem qzh(a:Sl SN){i:Nat}{t:SN}(ht:a.l[i]?=some t)(hi:i<9223372036854775807):∃r,aG my (a,(i:Int),0,())=some r/\(r=.inr (false,())\/(r=.inl (a,((i+1:Nat):Int),())/\jU 30 t.l)):=by
 refine I8 (f:=my) (I:=fun s=>∃k:Nat,s=(a,(i:Int),(k:Int),())/\k<=31/\∀j x,j<k->t.l[j]?=some x->x.2.1.length<=60) (fun s=>(31-s.2.2.1).toNat) ?_ _ ⟨0,rfl,by omega,fun j x h=>by omega⟩;rintro s ⟨k,rfl,hk,hb⟩;have he:=aT ht;by_cases h1:k<t.l.length/\k<31
 ·obtain⟨x,hx⟩:∃x,t.l[k]?=some x:=⟨_,ze h1.1⟩;have c1:aB (k:Int) (aa t.l)=true:=cE hx;have c2:aB (k:Int) 31=true:=zu om;cases h2:aB 60 (aa x.2.1) with
  |true=>refine .inr ⟨.inr (false,()),?_,.inl rfl⟩;unfold my;simp only[he,aj,c1,c2,aI,aT hx,h2]
  |false=>
   refine .inl ⟨(a,(i:Int),((k+1:Nat):Int),()),?_,⟨k+1,rfl,by omega,fun j y hj hy=>?_⟩,by simp only;omega⟩
   ·unfold my;simp only[he,aj,c1,c2,aI,aT hx,h2,aF,aH (show k<=1000000000 by omega)]
   ·by_cases e:j=k
    ·subst e;rw[hx] at hy;injection hy with hy;subst hy
     have:=of_decide_eq_false h2;unfold aa at this;omega
    ·exact hb j y om hy
 ·refine .inr ?_;have hc:(aq (aB (k:Int) (aa t.l)) (some (aB (k:Int) 31)) (some false):Option Bool)=some false:=by
   by_cases e:k<t.l.length
   ·have:aB (k:Int) 31=false:=zn om;rw[this];cases aB (k:Int) (aa t.l)<;>rfl
   ·have:aB (k:Int) (aa t.l)=false:=zn (by unfold aa;omega);rw[this];rfl
  cases h3:aB 30 (aa t.l) with
  |true=>refine⟨.inr (false,()),?_,.inl rfl⟩;unfold my;simp only[he,aj,hc,aF,h3,aI]
  |false=>
   have hf:t.l.length<=30:=by have:=of_decide_eq_false h3;unfold aa at this;omega
   refine⟨.inl (a,((i+1:Nat):Int),()),?_,.inr ⟨rfl,hf,fun x hx=>?_⟩⟩
   ·unfold my;simp only[he,aj,hc,aF,h3,z57 hi]
   ·obtain⟨j,hj,e⟩:=List.getElem_of_mem hx;exact hb j x om (by rw[ze hj,e])
theorem qgr(a:Sl SN)(ha:a.l.length<=9223372036854775807):∃c,C1 (a,())=some (c,())/\(c=true->a.l.length<=8/\∀t,t∈a.l->jU 30 t.l):=by
 rw[UG];have:=I8 (f:=qD) (I:=fun s=>∃k:Nat,s=(a,(k:Int),())/\k<=a.l.length/\∀j t,j<k->a.l[j]?=some t->jU 30 t.l) (Q:=fun r=>∃c,r=(c,())/\(c=true->a.l.length<=8/\∀t,t∈a.l->jU 30 t.l)) (fun s=>((a.l.length:Int)-s.2.1).toNat) ?_ (a,0,()) ⟨0,rfl,by omega,fun j x h=>by omega⟩
 ·obtain⟨r,h1,c,h2,h3⟩:=this;exact⟨c,by rw[h1,h2],h3⟩
 ·rintro s ⟨k,rfl,hk,hb⟩;by_cases h1:k<a.l.length
  ·obtain⟨t,ht⟩:∃t,a.l[k]?=some t:=⟨_,ze h1⟩;obtain⟨r,e,h⟩:=qzh a ht om;rcases h with h|⟨h,hf⟩
   ·subst h;refine .inr ⟨(false,()),?_,false,rfl,fun h=>by cases h⟩;unfold qD;simp only[cE ht,aI,e]
   ·subst h;refine .inl ⟨(a,((k+1:Nat):Int),()),?_,⟨k+1,rfl,by omega,fun j y hj hy=>?_⟩,by simp only;omega⟩
    ·unfold qD;simp only[cE ht,aI,e]
    ·by_cases e:j=k
     ·subst e;rw[ht] at hy;injection hy with hy;rw[<-hy];exact hf
     ·exact hb j y om hy
  ·have hc:k=a.l.length:=om
   subst hc;refine .inr ⟨(a8 (aa a.l) 8,()),?_,_,rfl,fun h=>?_⟩
   ·unfold qD;simp only[cQ,aF]
   ·have:=zP h;refine⟨by unfold aa at this;omega,fun t ht=>?_⟩;obtain⟨j,hj,e⟩:=List.getElem_of_mem ht;exact hb j t hj (by rw[ze hj,e])
def HV(c:CT):Prop:=c.1.length<=60/\c.2.l.length<=10/\∀t,t∈c.2.l->jU 60 t.l
def DE(d:DD):Prop:=d.1.length<=60/\d.2.2.l.length<=70/\∀c,c∈d.2.2.l->HV c
theorem Yd(s:Sl DD)(n:Int)(i k:Int)(m:Nat)(hm:m<=1000000)(cn:Tx)(as:Sl SN){t:SN}(ht:as.l[m]?=some t):∃r,aG kS (s,n,i,k,(m:Int),0,cn,as,())=some r/\(r=.inr (.inr (.inr (false,())))\/(r=.inl (s,n,i,k,((m+1:Nat):Int),cn,as,())/\n<=300/\jU 60 t.l)):=by
 refine I8 (f:=kS) (I:=fun z=>∃h:Nat,z=(s,n,i,k,(m:Int),(h:Int),cn,as,())/\h<=61/\∀j x,j<h->t.l[j]?=some x->x.2.1.length<=60) (fun z=>(61-z.2.2.2.2.2.1).toNat) ?_ _ ⟨0,rfl,by omega,fun j x h=>by omega⟩;rintro z ⟨h,rfl,hk,hb⟩;have he:=aT ht;by_cases h1:h<t.l.length/\h<61
 ·obtain⟨x,hx⟩:∃x,t.l[h]?=some x:=⟨_,ze h1.1⟩;have c1:aB (h:Int) (aa t.l)=true:=cE hx;have c2:aB (h:Int) 61=true:=zu om;cases h2:aB 60 (aa x.2.1) with
  |true=>refine .inr ⟨.inr (.inr (.inr (false,()))),?_,.inl rfl⟩;unfold kS;simp only[he,aj,c1,c2,aI,aT hx,h2]
  |false=>
   refine .inl ⟨(s,n,i,k,(m:Int),((h+1:Nat):Int),cn,as,()),?_,⟨h+1,rfl,by omega,fun j y hj hy=>?_⟩,by simp only;omega⟩
   ·unfold kS;simp only[he,aj,c1,c2,aI,aT hx,h2,aF,aH (show h<=1000000000 by omega)]
   ·by_cases e:j=h
    ·subst e;rw[hx] at hy;injection hy with hy;subst hy
     have:=of_decide_eq_false h2;unfold aa at this;omega
    ·exact hb j y om hy
 ·refine .inr ?_;have hc:(aq (aB (h:Int) (aa t.l)) (some (aB (h:Int) 61)) (some false):Option Bool)=some false:=by
   by_cases e:h<t.l.length
   ·have:aB (h:Int) 61=false:=zn om;rw[this];cases aB (h:Int) (aa t.l)<;>rfl
   ·have:aB (h:Int) (aa t.l)=false:=zn (by unfold aa;omega);rw[this];rfl
  cases h3:aB 60 (aa t.l) with
  |true=>refine⟨.inr (.inr (.inr (false,()))),?_,.inl rfl⟩;unfold kS;simp only[he,aj,hc,aF,h3,aI]
  |false=>
   cases h4:aB 300 n with
   |true=>refine⟨.inr (.inr (.inr (false,()))),?_,.inl rfl⟩;unfold kS;simp only[he,aj,hc,aF,h3,h4,aI]
   |false=>
    have hf:t.l.length<=60:=by have:=of_decide_eq_false h3;unfold aa at this;omega
    have hn:¬(300:Int)<n:=of_decide_eq_false h4;refine⟨.inl (s,n,i,k,((m+1:Nat):Int),cn,as,()),?_,.inr ⟨rfl,by omega,hf,fun x hx=>?_⟩⟩
    ·unfold kS;simp only[he,aj,hc,aF,h3,h4,aH (show m<=1000000000 by omega)]
    ·obtain⟨j,hj,e⟩:=List.getElem_of_mem hx;exact hb j x om (by rw[ze hj,e])
theorem Ye(s:Sl DD)(n:Int)(hn:0<=n/\n<=300)(i:Int)(k:Nat)(hk:k<=1000000)(cn:Tx)(as:Sl SN)(ha:as.l.length<=10):∃r,aG nU (s,n,i,(k:Int),0,cn,as,())=some r/\(r=.inr (.inr (false,()))\/∃n',r=.inl (s,n',i,((k+1:Nat):Int),())/\0<=n'/\n'<=300/\∀t,t∈as.l->jU 60 t.l):=by
 refine I8 (f:=nU) (I:=fun z=>∃(n':Int) (m:Nat),z=(s,n',i,(k:Int),(m:Int),cn,as,())/\0<=n'/\n'<=300/\m<=as.l.length/\∀j t,j<m->as.l[j]?=some t->jU 60 t.l) (fun z=>((as.l.length:Int)-z.2.2.2.2.1).toNat) ?_ _ ⟨n,0,rfl,hn.1,hn.2,Nat.zero_le _,fun j x h=>by omega⟩;rintro z ⟨n',m,rfl,g1,g2,g3,hb⟩;by_cases h1:m<as.l.length
 ·obtain⟨t,ht⟩:∃t,as.l[m]?=some t:=⟨_,ze h1⟩;obtain⟨r,e,h⟩:=Yd s (ar .i64 n' (aa t.l)) i (k:Int) m om cn as ht;rcases h with h|⟨h,he,hf⟩
  ·subst h;refine .inr ⟨.inr (.inr (false,())),?_,.inl rfl⟩;unfold nU;simp only[cE ht,aI,aT ht,aj,e]
  ·subst h;have hg:=hf.1;have hc:ar .i64 n' (aa t.l)=n'+(t.l.length:Int):=AO (by unfold aa;omega) (by unfold aa;omega);refine .inl ⟨(s,ar .i64 n' (aa t.l),i,(k:Int),((m+1:Nat):Int),cn,as,()),?_,⟨_,m+1,rfl,by rw[hc];omega,he,by omega,fun j y hj hy=>?_⟩,by simp only;omega⟩
   ·unfold nU;simp only[cE ht,aI,aT ht,aj,e]
   ·by_cases e:j=m
    ·subst e;rw[ht] at hy;injection hy with hy;rw[<-hy];exact hf
    ·exact hb j y om hy
 ·obtain rfl:m=as.l.length:=om
  refine .inr ⟨.inl (s,n',i,((k+1:Nat):Int),()),?_,.inr ⟨n',rfl,g1,g2,fun t ht=>?_⟩⟩
  ·unfold nU;simp only[cQ,aF,aH (show k<=1000000000 by omega)]
  ·obtain⟨j,hj,e⟩:=List.getElem_of_mem ht;exact hb j t hj (by rw[ze hj,e])
theorem Yf(s:Sl DD)(n:Int)(hn:0<=n/\n<=300){i:Nat}{d:DD}(hd:s.l[i]?=some d)(hi:i<=1000000)(he:d.2.2.l.length<=70):∃r,aG kT (s,n,(i:Int),0,())=some r/\(r=.inr (false,())\/∃n',r=.inl (s,n',((i+1:Nat):Int),())/\0<=n'/\n'<=300/\∀c,c∈d.2.2.l->HV c):=by
 refine I8 (f:=kT) (I:=fun z=>∃(n':Int) (k:Nat),z=(s,n',(i:Int),(k:Int),())/\0<=n'/\n'<=300/\k<=d.2.2.l.length/\∀j c,j<k->d.2.2.l[j]?=some c->HV c) (fun z=>((d.2.2.l.length:Int)-z.2.2.2.1).toNat) ?_ _ ⟨n,0,rfl,hn.1,hn.2,Nat.zero_le _,fun j x h=>by omega⟩;rintro z ⟨n',k,rfl,g1,g2,g3,hb⟩;by_cases h1:k<d.2.2.l.length
 ·obtain⟨c,hc⟩:∃c,d.2.2.l[k]?=some c:=⟨_,ze h1⟩;cases q1:aB 60 (aa c.1) with
  |true=>refine .inr ⟨.inr (false,()),?_,.inl rfl⟩;unfold kT;simp only[aT hd,cE hc,aI,aT hc,aj,q1]
  |false=>
   cases q2:aB 10 (aa c.2.l) with
   |true=>refine .inr ⟨.inr (false,()),?_,.inl rfl⟩;unfold kT;simp only[aT hd,cE hc,aI,aT hc,aj,q1,q2,aF]
   |false=>
    have l1:c.1.length<=60:=by have:=of_decide_eq_false q1;unfold aa at this;omega
    have l2:c.2.l.length<=10:=by have:=of_decide_eq_false q2;unfold aa at this;omega
    obtain⟨r,e,h⟩:=Ye s n' ⟨g1,g2⟩ (i:Int) k om c.1 c.2 l2;rcases h with h|⟨n2,h,hg,hk,hf⟩
    ·subst h;refine .inr ⟨.inr (false,()),?_,.inl rfl⟩;unfold kT;simp only[aT hd,cE hc,aI,aT hc,aj,q1,q2,aF,e]
    ·subst h;refine .inl ⟨(s,n2,(i:Int),((k+1:Nat):Int),()),?_,⟨_,k+1,rfl,hg,hk,by omega,fun j y hj hy=>?_⟩,by simp only;omega⟩
     ·unfold kT;simp only[aT hd,cE hc,aI,aT hc,aj,q1,q2,aF,e]
     ·by_cases e:j=k
      ·subst e;rw[hc] at hy;injection hy with hy;rw[<-hy];exact⟨l1,l2,hf⟩
      ·exact hb j y om hy
 ·obtain rfl:k=d.2.2.l.length:=om
  refine .inr ⟨.inl (s,n',((i+1:Nat):Int),()),?_,.inr ⟨n',rfl,g1,g2,fun t ht=>?_⟩⟩
  ·unfold kT;simp only[aT hd,aj,cQ,aF,aH (show i<=1000000000 by omega)]
  ·obtain⟨j,hj,e⟩:=List.getElem_of_mem ht;exact hb j t hj (by rw[ze hj,e])
theorem qrw(s:Sl DD):∃c,C2 (s,())=some (c,())/\(c=true->s.l.length<=70/\∀d,d∈s.l->DE d):=by
 rw[UH];cases q0:aB 70 (aa s.l) with
 |true=>exact⟨false,rfl,fun h=>by cases h⟩
 |false=>
  have l0:s.l.length<=70:=by have:=of_decide_eq_false q0;unfold aa at this;omega
  rw[aF];have:=I8 (f:=mz) (I:=fun z=>∃(n':Int) (i:Nat),z=(s,n',(i:Int),())/\0<=n'/\n'<=300/\i<=s.l.length/\∀j d,j<i->s.l[j]?=some d->DE d) (Q:=fun r=>∃c,r=(c,())/\(c=true->s.l.length<=70/\∀d,d∈s.l->DE d))
   (fun z=>((s.l.length:Int)-z.2.2.1).toNat) ?_ (s,0,0,()) ⟨0,0,rfl,by omega,by omega,Nat.zero_le _,fun j x h=>by omega⟩
  ·obtain⟨r,h1,c,h2,h3⟩:=this;exact⟨c,by rw[h1,h2],h3⟩
  ·rintro z ⟨n',i,rfl,g1,g2,g3,hb⟩;by_cases h1:i<s.l.length
   ·obtain⟨d,hd⟩:∃d,s.l[i]?=some d:=⟨_,ze h1⟩;cases q1:aB 70 (aa d.2.2.l) with
    |true=>refine .inr ⟨(false,()),?_,false,rfl,fun h=>by cases h⟩;unfold mz;simp only[aT hd,cE hd,aI,aj,q1]
    |false=>
     cases q2:aB 60 (aa d.1) with
     |true=>refine .inr ⟨(false,()),?_,false,rfl,fun h=>by cases h⟩;unfold mz;simp only[aT hd,cE hd,aI,aj,q1,q2,aF]
     |false=>
      have l1:d.2.2.l.length<=70:=by have:=of_decide_eq_false q1;unfold aa at this;omega
      have l2:d.1.length<=60:=by have:=of_decide_eq_false q2;unfold aa at this;omega
      obtain⟨r,e,h⟩:=Yf s n' ⟨g1,g2⟩ hd om l1;rcases h with h|⟨n2,h,hc,he,hf⟩
      ·subst h;refine .inr ⟨(false,()),?_,false,rfl,fun h=>by cases h⟩;unfold mz;simp only[aT hd,cE hd,aI,aj,q1,q2,aF,e]
      ·subst h;refine .inl ⟨(s,n2,((i+1:Nat):Int),()),?_,⟨_,i+1,rfl,hc,he,by omega,fun j y hj hy=>?_⟩,by simp only;omega⟩
       ·unfold mz;simp only[aT hd,cE hd,aI,aj,q1,q2,aF,e]
       ·by_cases e:j=i
        ·subst e;rw[hd] at hy;injection hy with hy;rw[<-hy];exact⟨l2,l1,hf⟩
        ·exact hb j y om hy
   ·obtain rfl:i=s.l.length:=om
    refine .inr ⟨(true,()),?_,true,rfl,fun _=>⟨l0,fun t ht=>?_⟩⟩
    ·unfold mz;simp only[cQ,aF]
    ·obtain⟨j,hj,e⟩:=List.getElem_of_mem ht;exact hb j t hj (by rw[ze hj,e])
def gW(s:Tx):Prop:=∀b,b∈s->0<=b/\b<=255
def gND(x:ND):Prop:=gW x.2.1/\Jn x.2.2.1
def gL(l:List ND):Prop:=∀x,x∈l->gND x
def DF(L:List DD):Prop:=∀d,d∈L->gW d.1/\∀c,c∈d.2.2.l->gW c.1/\∀t,t∈c.2.l->gL t.l
theorem PI{m:Nat}{l:List ND}(hg:gL l)(hf:jU m l):GL l:=fun x hx=>⟨(hg x hx).1,by have:=hf.2 x hx;omega,(hg x hx).2⟩
theorem z4c{L:List DD}(hg:DF L)(hl:L.length<=70)(hf:∀d,d∈L->DE d):GD L:=by refine⟨by omega,fun d hd=>?_⟩;obtain⟨f1,f2,f3⟩:=hf d hd;obtain⟨g1,g2⟩:=hg d hd;refine⟨⟨g1,by omega⟩,by omega,fun c hc=>?_⟩;obtain⟨f4,f5,f6⟩:=f3 c hc;obtain⟨g3,g4⟩:=g2 c hc;refine⟨⟨g3,by omega⟩,by omega,fun t ht=>⟨PI (g4 t ht) (f6 t ht),?_⟩⟩;have:=(f6 t ht).1;omega
theorem z4d(s:Sl DD)(hg:DF s.l)(t:SN)(a:Sl SN)(ha:a.l.length<=9223372036854775807):∃c,Jg (s,t,a,())=some (c,())/\(c=true->GD s.l/\jU 30 t.l/\a.l.length<=6/\∀p,p∈a.l->jU 30 p.l):=by
 obtain⟨c1,e1,h1⟩:=qrw s;obtain⟨c2,e2,h2⟩:=qgr ⟨false,[t]⟩ (by show 1<=_;omega);obtain⟨c3,e3,h3⟩:=qgr a ha;refine⟨c1&&(a8 (aa s.l) 10&&(c2&&(c3&&a8 (aa a.l) 6))),?_,fun h=>?_⟩
 ·rw[qmq,e1];simp only[aj,e2,e3];cases c1<;>cases a8 (aa s.l) 10<;>cases c2<;>cases c3<;>rfl
 ·simp only[zd] at h;obtain⟨q1,q2,q3,q4,q5⟩:=h;obtain⟨g1,g2⟩:=h1 q1;have q5:=zP q5;exact⟨z4c hg g1 g2,(h2 q3).2 t (zf ..),by unfold aa at q5;omega,(h3 q4).2⟩
theorem Yg(L:List DD)(hL:L.length<=1000):fit (aK (aa ([]:List DD)) (aa L))=some ():=eM (by show 0+L.length<=_;omega)
theorem HW:GL [((21:Int),([]:Tx),(0:Int),(0:Int))]:=fun x hx=>by rw[zS] at hx;subst hx;exact⟨fun b hb=>(by cases hb),Nat.zero_le _,by show(-9223372036854775808:Int)<=0/\(0:Int)<=_;omega⟩
abbrev NM:=List (Tx×List ND)
def rn(ns:NM):List (Tx×SN):=ns.map fun e=>(e.1,⟨false,e.2⟩)
theorem qwe(a:Sl SN)(ha:a.l.length<=1000)(hg:∀x,x∈a.l->x.l.length<=1000000):Jh (a,())=some (⟨false,a.l.map fun x=>(⟨false,x.l⟩:SN)⟩,()):=by
 rw[qkq];refine(rG Pg (fun k s=>(a,k,s,())) a.l (fun(s:Sl SN) x=>(⟨false,s.l++[⟨false,x.l⟩]⟩:Sl SN)) (fun s=>(s,())) (fun k s=>k<=a.l.length/\s.l.length=k) ⟨false,[]⟩ ⟨Nat.zero_le _,rfl⟩ ?_ ?_).trans ?_
 ·intro k x s hx hi;obtain⟨ns,sl⟩:=s;have h2:sl.length=k:=hi.2;have hk:=fc hx;obtain⟨bx,lx⟩:=x;have ho:=qpm bx lx (hg _ (zj hx));have hf:fit (aK (aa sl) (aa [(⟨false,lx⟩:SN)]))=some ():=eM (by show sl.length+1<=_;omega);refine⟨?_,hk,by show(sl++[_]).length=_;rw[zm,h2];rfl⟩;unfold Pg;simp only[cE hx,aI,aT hx,aj,ho,hf,uD,aH (show k<=1000000000 by omega)];rfl
 ·intro s _;unfold Pg;simp only[cQ,aF]
 ·rw[Pz];rfl
end Fn
end Ev