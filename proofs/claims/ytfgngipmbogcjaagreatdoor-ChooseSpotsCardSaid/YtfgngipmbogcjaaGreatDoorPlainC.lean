/- Layer 13 in plain words: the choice, the reference, and the law. No statement of its own about the program. -/
import Derived.Test.YtfgngipmbogcjaaGreatDoorPlainB
namespace Ev
open Go
namespace Fn
abbrev bV:=Int×Tx×Int
abbrev aY:=List F×Int
abbrev cM:=Tx×List ND
def cZ:F->bV
 |.cons k t n _ _=>(k,t,n)
 |.nil=>(0,[],0)
def fq:F->List F
 |.cons _ _ _ ks _=>ks.aL
 |.nil=>[]
def NG(k:Int):Bool:=af k 21||af k 22
def dS(p:F):Bool:=NG (cZ p).1
def lJ:F:=tr 21 [] 0 .nil
def mW(r:aY)(i:Nat)(q:List F):aY:=(r.1.take i++(q++r.1.drop (i+1)),r.2)
def atR(r:aY)(i:Nat):F:=r.1.getD i lJ
def fN(i:Nat):List aY->List bV->List bV
 |[],acc=>acc
 |r::rs,acc=>fN i rs (bif dS (atR r i)||acc.contains (cZ (atR r i)) then acc else acc++[cZ (atR r i)])
def jO(i:Nat)(n:bV)(k:Nat)(r:aY):Option aY:=bif dS (atR r i) then some (mW r i (List.replicate k lJ)) else bif cZ (atR r i)==n then some (mW r i (fq (atR r i))) else none
def dW(i:Nat)(r:aY):Option aY:=bif dS (atR r i) then some (mW r i []) else none
def nj(a:Tx)(j:Nat):Tx:=bif aM a [] then sY j else a++[46]++sY j
noncomputable def kP(L:List DD)(c:cM)(n:bV):List cM:=((iC L c.2 n.2.1).getD []).zipIdx.map fun e=>(nj c.1 e.2,e.1)
def dZ(L:List DD)(T:List ND):Nat:=match L.find? (fun d=>aM d.1 (hd T).2.1) with
 |some d=>d.2.2.l.length
 |none=>0
def dT(sub:bV->F)(ls:List bV):F:=ls.foldr (fun n acc=>(tr n.1 n.2.1 n.2.2 .nil).app ((sub n).app acc)) .nil
noncomputable def cF(L:List DD):Nat->List cM->List aY->F
 |0,_,_=>.nil
 |m+1,av,rows=>match rows with
  |[]=>tr 62 [] 0 .nil
  |r0::_=>match r0.1.findIdx? (fun p=>!dS p) with
   |none=>tr 61 [] r0.2 .nil
   |some i=>tr 63 (av.getD i ([],[])).1 0 ((dT (fun n=>cF L m (av.take i++(kP L (av.getD i ([],[])) n++av.drop (i+1))) (rows.filterMap (jO i n (kP L (av.getD i ([],[])) n).length))) (fN i rows [])).app
     (bif Nat.beq (fN i rows []).length (dZ L (av.getD i ([],[])).2) then tr 62 [] 0 .nil else cF L m (av.take i++av.drop (i+1)) (rows.filterMap (dW i))))
def wt(p:F):Nat:=(p.flat.filter fun x=>!NG x.1).length
def pG(r:aY):Nat:=(r.1.map wt).sum
def mu(rows:List aY):Nat:=(rows.map pG).sum
theorem z7m:wt lJ=0:=rfl
theorem z5s(k:Nat):((List.replicate k lJ).map wt).sum=0:=by
 induction k with
 |zero=>rfl
 |succ k ih=>rw[List.replicate_succ,zQ,List.sum_cons,ih,z7m]
theorem qyo:∀f:F,(f.aL.map wt).sum=wt f
 |.nil=>rfl
 |.cons k t n ks r=>by have ih:=qyo r;show wt (tr k t n ks)+(r.aL.map wt).sum=_;rw[ih];unfold wt;show(((k,t,n,(ks.aq:Int))::(ks.flat++[])).filter _).length+_=(((k,t,n,(ks.aq:Int))::(ks.flat++r.flat)).filter _).length;rw[zC,List.filter_cons,List.filter_cons,List.filter_append];split<;>simp<;>omega
theorem qyp{p:F}(h:dS p=false)(hp:p.aq=1):((fq p).map wt).sum+1=wt p:=by obtain⟨k,t,n,ks,rfl⟩:=oi p hp;show(ks.aL.map wt).sum+1=_;rw[qyo];unfold wt;show _=(((k,t,n,(ks.aq:Int))::(ks.flat++[])).filter _).length;have h:NG k=false:=h;rw[zC,List.filter_cons];simp[h]
theorem QD{r:aY}{i:Nat}(h:i<r.1.length)(q:List F):pG (mW r i q)+wt (atR r i)=pG r+(q.map wt).sum:=by
 obtain⟨l,a⟩:=r;have h:i<l.length:=h;unfold pG mW atR;simp only[zE,List.sum_append];have e:l=l.take i++(l[i]::l.drop (i+1)):=by rw[List.getElem_cons_drop,List.take_append_drop]
 have e2:(l.map wt).sum=((l.take i).map wt).sum+(wt l[i]+((l.drop (i+1)).map wt).sum):=by
  conv=>lhs;rw[e]
  rw[zE,List.sum_append,zQ,List.sum_cons]
 rw[e2,List.getD_eq_getElem?_getD,ze h];simp only[Option.getD_some];omega
def jP(r:aY):Prop:=∀p,p∈r.1->p.aq=1
theorem NH{r:aY}{i:Nat}(h:i<r.1.length):atR r i∈r.1:=by unfold atR;rw[List.getD_eq_getElem?_getD,ze h];exact List.getElem_mem h
theorem NI{r:aY}{i:Nat}(hi:i<r.1.length)(ht:jP r)(hw:dS (atR r i)=false):0<pG r:=by have h1:=QD hi [];have h2:=qyp hw (ht _ (NH hi));simp at h1;omega
theorem z20{i:Nat}{n:bV}{k:Nat}{r r':aY}(hi:i<r.1.length)(ht:jP r)(h:jO i n k r=some r'):pG r'<=pG r/\(dS (atR r i)=false->pG r'<pG r):=by
 unfold jO at h;cases hw:dS (atR r i) with
 |true=>rw[hw,cond_true] at h;injection h with h;subst h;have h1:=QD hi (List.replicate k lJ);rw[z5s] at h1;exact⟨by omega,fun e=>by cases e⟩
 |false=>
  rw[hw,cond_false] at h;cases hl:(cZ (atR r i)==n) with
  |false=>rw[hl] at h;cases h
  |true=>rw[hl,cond_true] at h;injection h with h;subst h;have h1:=QD hi (fq (atR r i));have h2:=qyp hw (ht _ (NH hi));exact⟨by omega,fun _=>by omega⟩
theorem z7n{i:Nat}{r r':aY}(hi:i<r.1.length)(h:dW i r=some r'):pG r'<=pG r/\dS (atR r i)=true:=by
 unfold dW at h;cases hw:dS (atR r i) with
 |false=>rw[hw] at h;cases h
 |true=>rw[hw,cond_true] at h;injection h with h;subst h;have h1:=QD hi [];simp at h1;exact⟨by omega,rfl⟩
theorem z8k(nb:Bool)(xs:List (Sl SN))(hl:xs.length<=1000000)(hx:(xs.map fun x=>x.l.length).sum<=100000)(a0:Sl SN)(h0:a0.l=[]):aH rS (⟨nb,xs⟩,aa xs,0,a0,())=some (Sum.inr (xs.foldl (fun(a x:Sl SN)=>(⟨aR a.nil (dI x.l),app a.l x.l⟩:Sl SN)) a0,())):=by
 refine tf rS (fun k a=>(⟨nb,xs⟩,aa xs,k,a,())) xs (fun(a x:Sl SN)=>(⟨aR a.nil (dI x.l),app a.l x.l⟩:Sl SN)) (fun a=>Sum.inr (a,())) (fun k a=>k<=xs.length/\a.l.length+((xs.drop k).map fun x=>x.l.length).sum<=100000) a0 ⟨Nat.zero_le _,by rw[h0];simpa using hx⟩ ?_ ?_
 ·intro k x a hk hi;have he:=(zB.1 hk).1;have hd:xs.drop k=x::xs.drop (k+1):=by rw[sJ he];congr 1;exact(zB.1 hk).2
  have h2:=hi.2;rw[hd,zQ,List.sum_cons] at h2;have hc:fit (aT (aa a.l) (aa x.l))=some ():=iA (by show a.l.length+x.l.length<=_;omega);refine⟨?_,by omega,?_⟩
  ·unfold rS;simp only[cJ hk,aG,aQ hk,aj,hc,aI (show k<=1000000000 by omega)]
  ·show(a.l++x.l).length+_<=_;rw[zt];omega
 ·intro a _;unfold rS;simp only[dB,aD]
theorem z7o:∀(xs:List (Sl SN)) (a0:Sl SN),(xs.foldl (fun(a x:Sl SN)=>(⟨aR a.nil (dI x.l),app a.l x.l⟩:Sl SN)) a0).l=a0.l++(xs.map Sl.l).flatten
 |[],a=>by simp
 |x::xs,a=>by rw[List.foldl_cons,z7o xs];show(a.l++x.l)++_=_;simp
theorem qyq(nb:Bool)(xs:List (Sl SN))(hl:xs.length<=1000000)(hx:(xs.map fun x=>x.l.length).sum<=100000):∃b,oH (⟨nb,xs⟩,())=some (⟨b,(xs.map Sl.l).flatten⟩,()):=by
 have key:∃b,aH rT (⟨nb,xs⟩,0,⟨nb,xs⟩,aa xs,0,())=some (⟨b,(xs.map Sl.l).flatten⟩,()):=by
  refine⟨(xs.foldl (fun(a x:Sl SN)=>(⟨aR a.nil (dI x.l),app a.l x.l⟩:Sl SN)) ⟨decide ((((xs.map fun x=>x.l.length).sum:Nat):Int)=0),[]⟩).nil,?_⟩;refine(tf rT (fun k n=>(⟨nb,xs⟩,n,⟨nb,xs⟩,aa xs,k,())) xs (fun(n:Int) (x:Sl SN)=>n+aa x.l) (fun _=>(⟨(xs.foldl (fun(a x:Sl SN)=>(⟨aR a.nil (dI x.l),app a.l x.l⟩:Sl SN)) ⟨decide ((((xs.map fun x=>x.l.length).sum:Nat):Int)=0),[]⟩).nil,(xs.map Sl.l).flatten⟩,())) (fun k n=>k<=xs.length/\0<=n/\n+(((xs.drop k).map fun x=>x.l.length).sum:Nat)=((xs.map fun x=>x.l.length).sum:Nat)) 0 ⟨Nat.zero_le _,Int.le_refl _,by simp⟩ ?_ ?_)
  ·intro k x n hk hi;have he:=(zB.1 hk).1;have hd:xs.drop k=x::xs.drop (k+1):=by rw[sJ he];congr 1;exact(zB.1 hk).2
   have h2:=hi.2.2;rw[hd,zQ,List.sum_cons] at h2;have h3:=hi.2.1;have hn:au .i64 n (aa x.l)=n+aa x.l:=Ft (by unfold aa;omega) (by unfold aa;omega);have hc:aA (n+aa x.l) 0=false:=zm (by unfold aa;omega);refine⟨?_,by omega,by show 0<=n+aa x.l;unfold aa;omega,by show n+aa x.l+_=_;unfold aa;omega⟩;unfold rT;simp only[cJ hk,aG,aQ hk,aj,hn,hc,aD,aI (show k<=1000000000 by omega)]
  ·intro n hi;have h2:=hi.2.2;rw[List.drop_length] at h2;have h2:n=((xs.map fun x=>x.l.length).sum:Nat):=by simpa using h2
   subst h2;unfold rT;have hg:uA (⟨true,[]⟩,(((xs.map fun x=>x.l.length).sum:Nat):Int),())=some (⟨decide ((((xs.map fun x=>x.l.length).sum:Nat):Int)=0),[]⟩,()):=by unfold uA;have d1:decide ((0:Int)<=(((xs.map fun x=>x.l.length).sum:Nat):Int))=true:=zn om;have d2:decide ((((xs.map fun x=>x.l.length).sum:Nat):Int)<=1000000)=true:=zn om;rw[d1,d2];rfl
   simp only[dB,aD,hg,aj];rw[z8k nb xs hl hx _ rfl];have e:=z7o xs ⟨decide ((((xs.map fun x=>x.l.length).sum:Nat):Int)=0),[]⟩;rw[List.nil_append] at e;rw[<-e]
 obtain⟨b,e⟩:=key;exact⟨b,by rw[VP];exact e⟩
theorem z21(nb:Bool)(xs:List (Sl (Tx×SN)))(hl:xs.length<=1000000)(hx:(xs.map fun x=>x.l.length).sum<=100000)(a0:Sl (Tx×SN))(h0:a0.l=[]):aH rU (⟨nb,xs⟩,aa xs,0,a0,())=some (Sum.inr (xs.foldl (fun(a x:Sl (Tx×SN))=>(⟨aR a.nil (dI x.l),app a.l x.l⟩:Sl (Tx×SN))) a0,())):=by
 refine tf rU (fun k a=>(⟨nb,xs⟩,aa xs,k,a,())) xs (fun(a x:Sl (Tx×SN))=>(⟨aR a.nil (dI x.l),app a.l x.l⟩:Sl (Tx×SN))) (fun a=>Sum.inr (a,())) (fun k a=>k<=xs.length/\a.l.length+((xs.drop k).map fun x=>x.l.length).sum<=100000) a0 ⟨Nat.zero_le _,by rw[h0];simpa using hx⟩ ?_ ?_
 ·intro k x a hk hi;have he:=(zB.1 hk).1;have hd:xs.drop k=x::xs.drop (k+1):=by rw[sJ he];congr 1;exact(zB.1 hk).2
  have h2:=hi.2;rw[hd,zQ,List.sum_cons] at h2;have hc:fit (aT (aa a.l) (aa x.l))=some ():=iA (by show a.l.length+x.l.length<=_;omega);refine⟨?_,by omega,?_⟩
  ·unfold rU;simp only[cJ hk,aG,aQ hk,aj,hc,aI (show k<=1000000000 by omega)]
  ·show(a.l++x.l).length+_<=_;rw[zt];omega
 ·intro a _;unfold rU;simp only[dB,aD]
theorem qrk:∀(xs:List (Sl (Tx×SN))) (a0:Sl (Tx×SN)),(xs.foldl (fun(a x:Sl (Tx×SN))=>(⟨aR a.nil (dI x.l),app a.l x.l⟩:Sl (Tx×SN))) a0).l=a0.l++(xs.map Sl.l).flatten
 |[],a=>by simp
 |x::xs,a=>by rw[List.foldl_cons,qrk xs];show(a.l++x.l)++_=_;simp
theorem qdg(nb:Bool)(xs:List (Sl (Tx×SN)))(hl:xs.length<=1000000)(hx:(xs.map fun x=>x.l.length).sum<=100000):∃b,p6 (⟨nb,xs⟩,())=some (⟨b,(xs.map Sl.l).flatten⟩,()):=by
 have key:∃b,aH rV (⟨nb,xs⟩,0,⟨nb,xs⟩,aa xs,0,())=some (⟨b,(xs.map Sl.l).flatten⟩,()):=by
  refine⟨(xs.foldl (fun(a x:Sl (Tx×SN))=>(⟨aR a.nil (dI x.l),app a.l x.l⟩:Sl (Tx×SN))) ⟨decide ((((xs.map fun x=>x.l.length).sum:Nat):Int)=0),[]⟩).nil,?_⟩;refine(tf rV (fun k n=>(⟨nb,xs⟩,n,⟨nb,xs⟩,aa xs,k,())) xs (fun(n:Int) (x:Sl (Tx×SN))=>n+aa x.l) (fun _=>(⟨(xs.foldl (fun(a x:Sl (Tx×SN))=>(⟨aR a.nil (dI x.l),app a.l x.l⟩:Sl (Tx×SN))) ⟨decide ((((xs.map fun x=>x.l.length).sum:Nat):Int)=0),[]⟩).nil,(xs.map Sl.l).flatten⟩,())) (fun k n=>k<=xs.length/\0<=n/\n+(((xs.drop k).map fun x=>x.l.length).sum:Nat)=((xs.map fun x=>x.l.length).sum:Nat)) 0 ⟨Nat.zero_le _,Int.le_refl _,by simp⟩ ?_ ?_)
  ·intro k x n hk hi;have he:=(zB.1 hk).1;have hd:xs.drop k=x::xs.drop (k+1):=by rw[sJ he];congr 1;exact(zB.1 hk).2
   have h2:=hi.2.2;rw[hd,zQ,List.sum_cons] at h2;have h3:=hi.2.1;have hn:au .i64 n (aa x.l)=n+aa x.l:=Ft (by unfold aa;omega) (by unfold aa;omega);have hc:aA (n+aa x.l) 0=false:=zm (by unfold aa;omega);refine⟨?_,by omega,by show 0<=n+aa x.l;unfold aa;omega,by show n+aa x.l+_=_;unfold aa;omega⟩;unfold rV;simp only[cJ hk,aG,aQ hk,aj,hn,hc,aD,aI (show k<=1000000000 by omega)]
  ·intro n hi;have h2:=hi.2.2;rw[List.drop_length] at h2;have h2:n=((xs.map fun x=>x.l.length).sum:Nat):=by simpa using h2
   subst h2;unfold rV;have hg:uD (⟨true,[]⟩,(((xs.map fun x=>x.l.length).sum:Nat):Int),())=some (⟨decide ((((xs.map fun x=>x.l.length).sum:Nat):Int)=0),[]⟩,()):=by unfold uD;have d1:decide ((0:Int)<=(((xs.map fun x=>x.l.length).sum:Nat):Int))=true:=zn om;have d2:decide ((((xs.map fun x=>x.l.length).sum:Nat):Int)<=1000000)=true:=zn om;rw[d1,d2];rfl
   simp only[dB,aD,hg,aj];rw[z21 nb xs hl hx _ rfl];have e:=qrk xs ⟨decide ((((xs.map fun x=>x.l.length).sum:Nat):Int)=0),[]⟩;rw[List.nil_append] at e;rw[<-e]
 obtain⟨b,e⟩:=key;exact⟨b,by rw[VW];exact e⟩
theorem FN{σ ρ:Type}(f:σ->Option (σ⊕ρ))(N:Nat)(I:Nat->σ->Prop)(mX:ρ->Prop)(step:∀k s,k<N->I k s->∃q,f s=some q/\match q with|.inl s'=>I (k+1) s'|.inr r=>mX r)(hc:∀s,I N s->∃r,f s=some (.inr r)/\mX r){s0:σ}(h0:I 0 s0):∃r,aH f s0=some r/\mX r:=by
 have aux:∀(m k:Nat) (s:σ),k+m=N->I k s->∃r,aH f s=some r/\mX r:=by
  intro m
  induction m with
  |zero=>
   intro k s hk hi;obtain rfl:k=N:=om
   obtain⟨r,e,hp⟩:=hc s hi;exact⟨r,dO e,hp⟩
  |succ m ih=>
   intro k s hk hi;obtain⟨q,e,hq⟩:=step k s om hi;cases q with
   |inr r=>exact⟨r,dO e,hq⟩
   |inl s'=>rw[fE e];exact ih (k+1) s' om hq
 exact aux N 0 s0 om h0
theorem QE(b:Bool)(p:F)(hp:p.aq=1):mR (⟨b,p.flat⟩,())=some (dS p,()):=by obtain⟨k,t,n,ks,rfl⟩:=oi p hp;rw[VI];show ag (some (k,t,n,(ks.aq:Int))) _=_;simp only[aj];show ag (ak (af k 21) (some true) (ag (some (k,t,n,(ks.aq:Int))) _)) _=some (af k 21||af k 22,());simp only[aj];cases af k 21<;>rfl
theorem qi4(b:Bool)(p:F)(hp:p.aq=1):oG (⟨b,p.flat⟩,())=some (((cZ p).1,(cZ p).2.1,(cZ p).2.2,0),()):=by obtain⟨k,t,n,ks,rfl⟩:=oi p hp;rw[VM];rfl
theorem qyr(x):oI x=fU x:=rfl
theorem qg4(b:Bool)(p:F)(hp:p.aq=1)(hl:p.size<=10000):∃nb,oI (⟨b,p.flat⟩,())=some (⟨nb,(fq p).map fun q=>(⟨b,q.flat⟩:SN)⟩,()):=by obtain⟨k,t,n,ks,rfl⟩:=oi p hp;have h1:ks.size+1<=10000:=hl;obtain⟨nb,h⟩:=Nv b k t n ks h1;refine⟨nb,?_⟩;rw[qyr,h,<-F.bQ,zY];rfl
abbrev fk:=Sl SN×Int
def l8(d:fk):List (List ND)×Int:=(d.1.l.map Sl.l,d.2)
def qm(r:aY):List (List ND)×Int:=(r.1.map F.flat,r.2)
theorem Cl{α β γ:Type}{f:α->γ}{g:β->γ}{D:List α}{R:List β}(h:D.map f=R.map g){k:Nat}{r:β}(hr:R[k]?=some r):∃d,D[k]?=some d/\f d=g r:=by
 have e:(D.map f)[k]?=some (g r):=by rw[h,zU,hr];rfl
 rw[zU] at e;cases hd:D[k]? with
 |none=>rw[hd] at e;cases e
 |some d=>rw[hd] at e;injection e with e;exact⟨d,rfl,e⟩
theorem xS{α β γ:Type}{f:α->γ}{g:β->γ}{D:List α}{R:List β}(h:D.map f=R.map g):D.length=R.length:=by have:=congrArg List.length h;simpa using this
theorem qu6(b:Bool)(l:List SN)(ps:List F)(h:l.map Sl.l=ps.map F.flat)(ht:∀p,p∈ps->p.aq=1)(hl:ps.length<=1000000):rh (⟨b,l⟩,())=some (fe (fun p=>!dS p) 0 ps,()):=by
 rw[VK];have hc:aa l=aa ps:=by unfold aa;rw[xS h]
 refine pE vE (fun k=>(⟨b,l⟩,aa l,k,())) (fun z=>(z,())) ps hl (fun p=>!dS p) ?_ ?_
 ·intro k p hx hk;obtain⟨s,h1,h2⟩:=Cl h hx;obtain⟨sb,sl⟩:=s;have h2:sl=p.flat:=h2;subst h2;unfold vE;simp only[cJ h1,aG,aQ h1,aj,VJ,QE _ p (ht p (zj hx)),aI (show k<=1000000000 by omega),aw];cases dS p<;>rfl
 ·unfold vE;simp only[hc,dB,aD]
theorem qp8{α:Type}{l:List α}{k:Nat}(h:k<=l.length):bX l (k:Int) (aa l)=some (l.drop k):=by unfold bX aa;rw[if_pos om];simp
theorem qk4{d:fk}{r:aY}(h:l8 d=qm r){i:Nat}(hi:i<r.1.length){y:Sl SN}{q:List F}(hy:y.l.map Sl.l=q.map F.flat)(hs:r.1.length+q.length<=100000)(b0 b1 b2:Bool):bX d.1.l 0 (i:Int)=some (d.1.l.take i)/\bX d.1.l ((i+1:Nat):Int) (aa d.1.l)=some (d.1.l.drop (i+1))/\∃x:Sl SN,oH (⟨b0,[⟨b1,d.1.l.take i⟩,y,⟨b2,d.1.l.drop (i+1)⟩]⟩,())=some (x,())/\l8 (x,d.2)=qm (mW r i q):=by obtain⟨⟨db,dl⟩,da⟩:=d;obtain⟨l,a⟩:=r;have h1:dl.map Sl.l=l.map F.flat:=congrArg Prod.fst h;have h2:da=a:=congrArg Prod.snd h;have hc:dl.length=l.length:=xS h1;have hq:y.l.length=q.length:=xS hy;have hi:i<l.length:=hi;have hs:l.length+q.length<=100000:=hs;subst h2;refine⟨Ze (by show i<=dl.length;omega),qp8 (by show i+1<=dl.length;omega),?_⟩;obtain⟨b,e⟩:=qyq b0 [⟨b1,dl.take i⟩,y,⟨b2,dl.drop (i+1)⟩] (by simp) (by simp;omega);refine⟨_,e,?_⟩;unfold l8 qm mW;simp only[zE,List.map_take,List.map_drop,h1,hy,zQ,List.map_nil,List.flatten_cons,List.flatten_nil,zC]
theorem fD{d:fk}{r:aY}(h:l8 d=qm r){i:Nat}(hi:i<r.1.length):∃b,aE d.1.l (i:Int)=some (⟨b,(atR r i).flat⟩:SN):=by
 have h1:d.1.l.map Sl.l=r.1.map F.flat:=congrArg Prod.fst h;have h2:r.1[i]?=some (atR r i):=by unfold atR;rw[List.getD_eq_getElem?_getD,ze hi];rfl
 obtain⟨⟨sb,sl⟩,e1,e2⟩:=Cl h1 h2;have e2:sl=(atR r i).flat:=e2;subst e2;exact⟨sb,aQ e1⟩
def BC(i:Nat)(r:aY):Prop:=i<r.1.length/\r.1.length<=10000/\∀p,p∈r.1->p.aq=1/\p.size<=1000
theorem BC.at{i:Nat}{r:aY}(h:BC i r):(atR r i).aq=1/\(atR r i).size<=1000:=h.2.2 _ (NH h.1)
theorem qu7(p:F):(fq p).length<=p.size:=by
 cases p with
 |nil=>exact Nat.zero_le _
 |cons k t n ks r=>show ks.aL.length<=ks.size+r.size+1;rw[F.cW];have:=F.cq ks;omega
theorem qys(p:F)(n:bV):aR (af (cZ p).1 n.1) (aR (aM (cZ p).2.1 n.2.1) (aR (af (cZ p).2.2 n.2.2) (af 0 0)))=(cZ p==n):=by
 obtain⟨a,b,c⟩:=cZ p;obtain⟨a',b',c'⟩:=n;show _=((a==a')&&((b==b')&&(c==c')));have e0:af 0 0=true:=rfl;have e1:af a a'=(a==a'):=by unfold af;by_cases h:a=a'<;>simp[h]
 have e2:aM b b'=(b==b'):=by unfold aM;by_cases h:b=b'<;>simp[h]
 have e3:af c c'=(c==c'):=by unfold af;by_cases h:c=c'<;>simp[h]
 rw[e0,e1,e2,e3];cases (a==a')<;>cases (b==b')<;>cases (c==c')<;>rfl
theorem NJ{α β:Type}(f:α->Option β){R:List α}{k:Nat}{r:α}(h:R[k]?=some r):(R.take (k+1)).filterMap f=(R.take k).filterMap f++(f r).toList:=by rw[List.take_add_one,h,List.filterMap_append];show _++List.filterMap f [r]=_;rw[List.filterMap_cons];cases f r<;>rfl
theorem qu8(b:Bool)(D:List fk)(R:List aY)(hD:D.map l8=R.map qm)(hN:R.length<=100000)(i:Nat)(hi:i<=100000)(hq:∀r,r∈R->BC i r)(A:Sl SN)(n:bV)(kk:Nat)(hk:kk<=10000)(hA:A.l.map Sl.l=(List.replicate kk lJ).map F.flat):∃q,ri (A,n.1,n.2.1,n.2.2,0,⟨b,D⟩,(i:Int),())=some q/\∃D':Sl fk,q=(D',A,n.1,n.2.1,n.2.2,0,⟨b,D⟩,(i:Int),())/\D'.l.map l8=(R.filterMap (jO i n kk)).map qm:=by
 rw[VR];have hg:D.length=R.length:=xS hD;refine FN vG R.length
  (fun k s=>∃O:Sl fk,s=(⟨b,D⟩,aa D,(k:Int),A,n.1,n.2.1,n.2.2,0,⟨b,D⟩,(i:Int),O,())/\O.l.map l8=((R.take k).filterMap (jO i n kk)).map qm/\O.l.length<=k) _ ?_ ?_ ⟨⟨true,[]⟩,rfl,rfl,Nat.le_refl _⟩
 ·rintro k s hs ⟨⟨ob,ol⟩,rfl,h1,h2⟩;have hr:R[k]?=some R[k]:=ze hs;generalize R[k]=r at hr;have hc:=hq r (zj hr);obtain⟨d,hd,hj⟩:=Cl hD hr;obtain⟨pb,hu⟩:=fD hj hc.1;obtain⟨ht,hx⟩:=hc.at
  have hv:aA (k:Int) (aa D)=true:=cJ hd;have h2:ol.length<=k:=h2;have hf:∀x:fk,fit (aT (aa ol) (aa [x]))=some ():=fun x=>iA (by show ol.length+1<=_;omega);have ho:au .i64 (i:Int) 1=((i+1:Nat):Int):=aI om;have hm:au .i64 (k:Int) 1=((k+1:Nat):Int):=aI om;unfold vG;simp only[hv,aG,aQ hd,aj,hu,VQ,QE _ _ ht];cases hw:dS (atR r i) with
  |true=>
   obtain⟨c1,c2,x,c3,c4⟩:=qk4 hj hc.1 (q:=List.replicate kk lJ) hA (by rw[List.length_replicate];have:=hc.2.1;omega) false d.1.nil d.1.nil;simp only[aG,aj,c1,ho,c2,c3,hf,hm];refine⟨_,rfl,_,rfl,?_,?_⟩
   ·show(ol++[(x,d.2)]).map l8=_;rw[NJ _ hr,zE,zE,<-h1];unfold jO;rw[hw];show _++[l8 (x,d.2)]=_;rw[c4];rfl
   ·show(ol++[_]).length<=k+1;rw[zt];simp;omega
  |false=>
   obtain⟨nb,he⟩:=qg4 pb _ ht om;simp only[aD,aj,he,qi4 _ _ ht,qys];cases hl:(cZ (atR r i)==n) with
   |true=>
    have hy:=qu7 (atR r i);obtain⟨c1,c2,x,c3,c4⟩:=qk4 hj hc.1 (y:=⟨nb,(fq (atR r i)).map fun q=>(⟨pb,q.flat⟩:SN)⟩) (q:=fq (atR r i)) (by rw[zY];rfl) (by have:=hc.2.1;omega) false d.1.nil d.1.nil;simp only[aG,aj,c1,ho,c2,c3,hf,hm];refine⟨_,rfl,_,rfl,?_,?_⟩
    ·show(ol++[(x,d.2)]).map l8=_;rw[NJ _ hr,zE,zE,<-h1];unfold jO;rw[hw,hl];show _++[l8 (x,d.2)]=_;rw[c4];rfl
    ·show(ol++[_]).length<=k+1;rw[zt];simp;omega
   |false=>simp only[aD,aj,hm];refine⟨_,rfl,_,rfl,?_,by show ol.length<=_;omega⟩;rw[NJ _ hr,zE,<-h1];unfold jO;rw[hw,hl];simp
 ·rintro s ⟨O,rfl,h1,h2⟩;have hn:aA ((R.length:Nat):Int) (aa D)=false:=by rw[<-hg];exact dB D
  unfold vG;simp only[hn,aD];refine⟨_,rfl,O,rfl,?_⟩;rw[h1,List.take_length]
theorem z22(b:Bool)(D:List fk)(R:List aY)(hD:D.map l8=R.map qm)(hN:R.length<=100000)(i:Nat)(hi:i<=100000)(hl:∀r,r∈R->BC i r):∃q,rj (⟨b,D⟩,(i:Int),())=some q/\∃D':Sl fk,q=(D',⟨b,D⟩,(i:Int),())/\D'.l.map l8=(R.filterMap (dW i)).map qm:=by
 rw[VT];have he:D.length=R.length:=xS hD;refine FN vH R.length
  (fun k s=>∃O:Sl fk,s=(⟨b,D⟩,aa D,(k:Int),⟨b,D⟩,(i:Int),O,())/\O.l.map l8=((R.take k).filterMap (dW i)).map qm/\O.l.length<=k) _ ?_ ?_ ⟨⟨true,[]⟩,rfl,rfl,Nat.le_refl _⟩
 ·rintro k s hm ⟨⟨ob,ol⟩,rfl,h1,h2⟩;have hr:R[k]?=some R[k]:=ze hm;generalize R[k]=r at hr;have hc:=hl r (zj hr);obtain⟨d,hd,hj⟩:=Cl hD hr;obtain⟨pb,hn⟩:=fD hj hc.1;obtain⟨ht,hs⟩:=hc.at
  have ho:aA (k:Int) (aa D)=true:=cJ hd;have h2:ol.length<=k:=h2;have hf:∀x:fk,fit (aT (aa ol) (aa [x]))=some ():=fun x=>iA (by show ol.length+1<=_;omega);have hq:au .i64 (i:Int) 1=((i+1:Nat):Int):=aI om;have hk:au .i64 (k:Int) 1=((k+1:Nat):Int):=aI om;unfold vH;simp only[ho,aG,aQ hd,aj,hn,VS,QE _ _ ht];cases hw:dS (atR r i) with
  |true=>
   obtain⟨c1,c2,x,c3,c4⟩:=qk4 hj hc.1 (y:=⟨true,[]⟩) (q:=[]) rfl (by have:=hc.2.1;simp;omega) false d.1.nil d.1.nil;simp only[aG,aj,c1,hq,c2,c3,hf,hk];refine⟨_,rfl,_,rfl,?_,?_⟩
   ·show(ol++[(x,d.2)]).map l8=_;rw[NJ _ hr,zE,zE,<-h1];unfold dW;rw[hw];show _++[l8 (x,d.2)]=_;rw[c4];rfl
   ·show(ol++[_]).length<=k+1;rw[zt];simp;omega
  |false=>simp only[aD,aj,hk];refine⟨_,rfl,_,rfl,?_,by show ol.length<=_;omega⟩;rw[NJ _ hr,zE,<-h1];unfold dW;rw[hw];simp
 ·rintro s ⟨O,rfl,h1,h2⟩;have hg:aA ((R.length:Nat):Int) (aa D)=false:=by rw[<-he];exact dB D
  unfold vH;simp only[hg,aD];refine⟨_,rfl,O,rfl,?_⟩;rw[h1,List.take_length]
def dP(n:bV):ND:=(n.1,n.2.1,n.2.2,0)
theorem z23(b:Bool)(acc:List bV)(n:bV)(hl:acc.length<=1000000):p5 (⟨b,acc.map dP⟩,(n.1,n.2.1,n.2.2,0),())=some (acc.contains n,()):=by
 have e:w9 (⟨b,acc.map dP⟩,(n.1,n.2.1,n.2.2,0),())=some (fe (fun m=>n==m) 0 acc,()):=by
  rw[VN];have hc:aa (acc.map dP)=aa acc:=by unfold aa;rw[zA]
  refine pE vF (fun k=>(⟨b,acc.map dP⟩,aa (acc.map dP),k,n.1,n.2.1,n.2.2,0,())) (fun z=>(z,())) acc hl (fun m=>n==m) ?_ ?_
  ·intro k m hx hk;have hm:(acc.map dP)[k]?=some (dP m):=getM hx;have hb:aR (af n.1 m.1) (aR (aM n.2.1 m.2.1) (aR (af n.2.2 m.2.2) (af 0 0)))=(n==m):=by have:=qys (.cons n.1 n.2.1 n.2.2 .nil .nil) m;exact this
   unfold vF;simp only[cJ hm,aG,aQ hm,aj,dP,hb,aI (show k<=1000000000 by omega)];cases (n==m)<;>rfl
  ·unfold vF;simp only[hc,dB,aD]
 rw[VO,e,aj,xo];rw[List.contains_eq_any_beq]
theorem z5t(j:Nat)(hj:j<=1000000):uy ((j:Int),())=some (sY j,()):=by
 have h1:decide (-9223372036854775808<=(j:Int))=true:=zn om;have h2:decide ((j:Int)<=9223372036854775807)=true:=zn om;have e:w7 ((j:Int),10,())=some (sY j,()):=by unfold w7;rw[h1,h2];rfl
 rw[VG,VF,e];rfl
theorem qrl(a:Tx)(ha:a.length<=100000)(j:Nat)(hj:j<=1000000):mP (a,(j:Int),())=some (nj a j,()):=by rw[VH,z5t j hj];have hl:=TC (j:Int);have f1:fit (aT (aa a) (aa ([46]:Tx)))=some ():=iA (by show a.length+1<=_;omega);have f2:fit (aT (aa (Kz a ([46]:Tx))) (aa (sY (j:Int))))=some ():=iA (by show(a++[46]).length+_<=_;rw[zt];simp;omega);unfold nj;simp only[aj,f1,f2];cases aM a []<;>rfl
theorem qi5(i:Nat)(r:aY):∀(xs:List aY) (acc:List bV),fN i (xs++[r]) acc=(bif dS (atR r i)||(fN i xs acc).contains (cZ (atR r i)) then fN i xs acc else fN i xs acc++[cZ (atR r i)])
 |[],acc=>rfl
 |x::xs,acc=>by show fN i (xs++[r]) _=_;rw[qi5 i r xs];rfl
theorem QF(i:Nat):∀(xs:List aY) (acc:List bV),(fN i xs acc).length<=acc.length+xs.length
 |[],acc=>Nat.le_refl _
 |x::xs,acc=>by
  have:=QF i xs (bif dS (atR x i)||acc.contains (cZ (atR x i)) then acc else acc++[cZ (atR x i)]);refine Nat.le_trans this ?_;cases (dS (atR x i)||acc.contains (cZ (atR x i))) with
  |true=>show acc.length+xs.length<=acc.length+(xs.length+1);omega
  |false=>show(acc++[_]).length+xs.length<=acc.length+(xs.length+1);rw[zt];simp;omega
theorem qyt(self:nC)(b:Bool)(D:List fk)(R:List aY)(hD:D.map l8=R.map qm)(hN:R.length<=100000)(i:Nat)(ho:∀r,r∈R->BC i r)(av:Sl (Tx×SN))(l:Sl DD)(left:Int)(a:Tx)(T out:SN)(mX:(Bool×SN×Sl DD×Int×Unit)->Prop)(H:∀nb:Bool,∃q,aH (pn self) (av,aa ((fN i R []).map dP),0,l,left,(i:Int),a,T,out,⟨nb,(fN i R []).map dP⟩,⟨b,D⟩,())=some (Sum.inr q)/\mX q):∃q,aH (rX self) (av,⟨b,D⟩,aa D,0,l,left,⟨b,D⟩,(i:Int),a,T,out,⟨true,[]⟩,())=some q/\mX q:=by
 have hg:D.length=R.length:=xS hD;refine FN (rX self) R.length
  (fun k s=>∃nb:Bool,s=(av,⟨b,D⟩,aa D,(k:Int),l,left,⟨b,D⟩,(i:Int),a,T,out,⟨nb,(fN i (R.take k) []).map dP⟩,())) mX ?_ ?_ ⟨true,rfl⟩
 ·rintro k s hq ⟨nb,rfl⟩;have hr:R[k]?=some R[k]:=ze hq;generalize R[k]=r at hr;have hf:=ho r (zj hr);obtain⟨d,hd,hs⟩:=Cl hD hr;obtain⟨pb,hu⟩:=fD hs hf.1;obtain⟨ht,hy⟩:=hf.at
  have hv:aA (k:Int) (aa D)=true:=cJ hd;have hj:au .i64 (k:Int) 1=((k+1:Nat):Int):=aI om;have hx:R.take (k+1)=R.take k++[r]:=by rw[List.take_add_one,hr];rfl
  have hk:=QF i (R.take k) [];rw[zO] at hk;have hk:(fN i (R.take k) []).length<=k:=by simp at hk;omega
  have hl:∀x:ND,fit (aT (aa ((fN i (R.take k) []).map dP)) (aa [x]))=some ():=fun x=>iA (by show((fN i (R.take k) []).map dP).length+1<=_;rw[zA];omega);have hc:=z23 nb (fN i (R.take k) []) (cZ (atR r i)) om;unfold rX;simp only[hv,aG,aQ hd,aj,hu,qi4 _ _ ht,QE _ _ ht];have he:fN i (R.take (k+1)) []=(bif dS (atR r i)||(fN i (R.take k) []).contains (cZ (atR r i)) then fN i (R.take k) [] else fN i (R.take k) []++[cZ (atR r i)]):=by rw[hx,qi5]
  cases hw:dS (atR r i) with
  |true=>rw[hw] at he;have he:fN i (R.take (k+1)) []=fN i (R.take k) []:=he;simp only[aw,Bool.not_true,aD,aj,hj];exact⟨_,rfl,nb,by rw[he]⟩
  |false=>
   simp only[aw,Bool.not_false,aG,hc,aj];cases hn:(fN i (R.take k) []).contains (cZ (atR r i)) with
   |true=>rw[hw,hn] at he;have he:fN i (R.take (k+1)) []=fN i (R.take k) []:=he;simp only[Bool.not_true,aD,aj,hj];exact⟨_,rfl,nb,by rw[he]⟩
   |false=>rw[hw,hn] at he;have he:fN i (R.take (k+1)) []=fN i (R.take k) []++[cZ (atR r i)]:=he;simp only[Bool.not_false,aG,aj,hl,hj];refine⟨_,rfl,aR nb (dI [((cZ (atR r i)).1,(cZ (atR r i)).2.1,(cZ (atR r i)).2.2,(0:Int))]),?_⟩;rw[he,zE];rfl
 ·rintro s ⟨nb,rfl⟩;have hm:aA ((R.length:Nat):Int) (aa D)=false:=by rw[<-hg];exact dB D
  obtain⟨q,e,hp⟩:=H nb;refine⟨q,?_,hp⟩;rw[List.take_length];unfold rX;simp only[hm,aD];exact e
theorem qu9(b0 bT:Bool)(L:List DD)(hL:GD L)(hd:qD L=true)(k:Int)(t:Tx)(n:Int)(ks:F)(hs:ks.size+1<=4000)(hT:jN (tr k t n ks).flat=true)(hg:GL (tr k t n ks).flat)(cO:Tx):∃(A:Sl SN) (ok:Bool),nH (⟨b0,L⟩,⟨bT,(tr k t n ks).flat⟩,cO,())=some (A,ok,())/\A.l.map Sl.l=(iC L (tr k t n ks).flat cO).getD []:=by
 have d1:nG ((⟨b0,L⟩:Sl DD),())=some (Cj L,()):=ZG ⟨b0,L⟩ hL;have hf:=Qy L;rw[hd] at hf;have t1:=Nr bT (tr k t n ks).flat (by rw[kO];omega) hg;rw[hT] at t1;have e0:af (0:Int) 0=true:=rfl;have he:nH (⟨b0,L⟩,⟨bT,(tr k t n ks).flat⟩,cO,())=ag (kI (⟨b0,L⟩,⟨bT,(tr k t n ks).flat⟩,cO,())) fun x3=>some (x3.1,x3.2.1,()):=by rw[VU,d1,t1];simp only[aj,hf,nT,aD,cond_true,e0]
 rw[he,Nz];cases hc:fX L k t (ks.aq:Int) cO with
 |none=>rw[ZP ⟨b0,L⟩ hL bT k t n ks om cO hc];exact⟨⟨true,[]⟩,false,rfl,rfl⟩
 |some c=>rw[ZQ ⟨b0,L⟩ hL bT k t n ks hs cO c hc];refine⟨_,_,rfl,?_⟩;show(c.2.l.map (dH true ks.trees)).map Sl.l=c.2.l.map fun a=>fi ks.trees a.l;rw[zY];exact zW fun a _=>IM true ks.trees a
def mf(c:Tx×SN):cM:=(c.1,c.2.l)
def sN(a:Tx)(Ts:List (List ND)):List cM:=Ts.zipIdx.map fun e=>(nj a e.2,e.1)
theorem qyu(a:Tx)(Ts:List (List ND))(T:List ND):sN a (Ts++[T])=sN a Ts++[(nj a Ts.length,T)]:=by unfold sN;rw[List.zipIdx_append,zE];simp
theorem qyv(self:nC)(av:Sl (Tx×SN))(len idx:Int)(A:Sl SN)(Ts:List (List ND))(hA:A.l.map Sl.l=Ts)(hN:Ts.length<=100000)(l:Sl DD)(left at_:Int)(a:Tx)(ha:a.length<=100000)(T out labels:SN)(rows:Sl fk)(n1:Int)(n2:Tx)(n3 n4:Int)(mX:_->Prop)(H:∀(M:Sl (Tx×SN)) (Q:Sl SN),M.l.map mf=sN a Ts->Q.l.map Sl.l=(List.replicate Ts.length lJ).map F.flat->∃q,nN self (av,len,idx,A,aa A.l,(Ts.length:Int),l,left,at_,a,T,out,labels,rows,n1,n2,n3,n4,M,Q,())=some (Sum.inr q)/\mX q):∃q,aH (nN self) (av,len,idx,A,aa A.l,0,l,left,at_,a,T,out,labels,rows,n1,n2,n3,n4,⟨true,[]⟩,⟨true,[]⟩,())=some q/\mX q:=by
 have hc:A.l.length=Ts.length:=by rw[<-hA,zA]
 refine FN (nN self) Ts.length
  (fun k s=>∃(M:Sl (Tx×SN)) (Q:Sl SN),s=(av,len,idx,A,aa A.l,(k:Int),l,left,at_,a,T,out,labels,rows,n1,n2,n3,n4,M,Q,())/\M.l.map mf=sN a (Ts.take k)/\Q.l.map Sl.l=(List.replicate k lJ).map F.flat) mX ?_ ?_ ⟨⟨true,[]⟩,⟨true,[]⟩,rfl,rfl,rfl⟩
 ·rintro k s hg ⟨⟨mb,ml⟩,⟨qb,ql⟩,rfl,h1,h2⟩;have hk:A.l[k]?=some (A.l[k]' om):=ze om;generalize A.l[k]' om=x at hk;have hx:Ts[k]?=some x.l:=by rw[<-hA];exact getM hk
  have he:Ts.take (k+1)=Ts.take k++[x.l]:=by rw[List.take_add_one,hx];rfl
  have hj:ml.length=k:=by have:=congrArg List.length h1;unfold sN at this;simp at this;omega
  have hl:ql.length=k:=by have:=congrArg List.length h2;simp at this;omega
  have f1:∀y:Tx×SN,fit (aT (aa ml) (aa [y]))=some ():=fun y=>iA (by show ml.length+1<=_;omega);have f2:∀y:SN,fit (aT (aa ql) (aa [y]))=some ():=fun y=>iA (by show ql.length+1<=_;omega);have hf:au .i64 (k:Int) 1=((k+1:Nat):Int):=aI om;unfold nN;simp only[cJ hk,aG,aQ hk,aj,qrl a ha k om,f1,f2,hf];refine⟨_,rfl,_,_,rfl,?_,?_⟩
  ·show(ml++[(nj a k,x)]).map mf=_;rw[zE,h1,he,qyu,zO,Nat.min_eq_left om];rfl
  ·show(ql++[_]).map Sl.l=_;rw[zE,h2,List.replicate_succ',zE];rfl
 ·rintro s ⟨M,Q,rfl,h1,h2⟩;rw[List.take_length] at h1;exact H M Q h1 h2
def pH(T:List ND):Prop:=∃k t n ks,T=(tr k t n ks).flat/\ks.size+1<=4000/\jN T=true/\GL T
theorem z5u(Ts:List (List ND))(hT:∀T,T∈Ts->GL T)(a:List ND)(ha:GL a):GL (fi Ts a):=by
 have he:GL [((31:Int),([]:Tx),(0:Int),(0:Int))]:=fun x hx=>by rw[zI.1 hx];exact⟨fun b hb=>(by cases hb),Nat.zero_le _,uP _ (zI.2 rfl)|>.2.2⟩
 unfold fi;cases aA 4000 (aa (vY Ts a)) with
 |true=>exact he
 |false=>
  intro x hx;have hx:x∈a.flatMap (oh Ts):=hx;obtain⟨y,hy,hc⟩:=List.mem_flatMap.1 hx;unfold oh at hc;have own:x∈[y]->IL x:=fun h=>by rw[zI.1 h];exact ha y hy
  cases h1:af y.1 31 with
  |false=>rw[h1] at hc;exact own hc
  |true=>
   rw[h1,cond_true] at hc;split at hc
   ·cases h2:Ts[y.2.2.1.toNat]? with
    |none=>rw[h2] at hc;exact own hc
    |some T=>rw[h2] at hc;exact hT T (zj h2) x hc
   ·exact own hc
theorem z5v{k:Int}{t:Tx}{n:Int}{ks:F}(h:GL (tr k t n ks).flat):∀T,T∈ks.trees->GL T:=by intro T hT x hx;refine h x ?_;rw[qg];refine zg _ ?_;rw[<-F.dF];exact List.mem_flatten.2 ⟨T,hT,hx⟩
theorem qp9(L:List DD)(hL:GD L)(hg:L.all iU=true){T:List ND}(hT:pH T){cO:Tx}{As:List (List ND)}(h:iC L T cO=some As):As.length<=8/\eJ cO=true/\∀A,A∈As->pH A:=by
 obtain⟨k,t,n,ks,rfl,h1,h2,h3⟩:=hT;rw[Nz] at h;cases hc:fX L k t (ks.aq:Int) cO with
 |none=>rw[hc] at h;cases h
 |some c=>rw[hc] at h;injection h with h;subst h;obtain⟨d,hd,hf,_,he⟩:=Ny hc;obtain⟨q1,q2,q3⟩:=QB hg hd hf;refine⟨by rw[zA];exact q2,by rw[<-bU.1 he];exact q1,fun A hA=>?_⟩;obtain⟨a,ha,rfl⟩:=zS.1 hA;have ht:=QA h2 (q3.1 a ha);have hj:GL a.l:=(((hL.2 d hd).2.2 c hf).2.2 a ha).1;have hk:=z5u ks.trees (z5v h3) a.l hj;obtain⟨g1,g2,k',t',n',ks',e⟩:=(BA _).1 ht;refine⟨k',t',n',ks',e,?_,ht,hk⟩;rw[e,kO] at g1;exact g1
def oW(p:F):Prop:=∃k t n ks,p=tr k t n ks/\dU k t n ks true=0
theorem qrm{m odd:Bool}:∀f:F,fM m true odd f=0->∀q,q∈f.aL->oW q
 |.nil,_,q,h=>by cases h
 |.cons k t n ks r,h,q,hq=>by
  obtain⟨h1,h2⟩:=fG.1 h;rcases zu.1 hq with rfl|hq
  ·exact⟨k,t,n,ks,rfl,h1⟩
  ·exact qrm r h2 q hq
theorem qyw{p:F}(h:oW p):∀q,q∈fq p->oW q:=by obtain⟨k,t,n,ks,rfl,h⟩:=h;exact qrm ks (fF.1 h).2
theorem z24:oW lJ:=⟨21,[],0,.nil,rfl,by kernel_rfl⟩
theorem NK{p:F}(h:oW p):p.aq=1:=by obtain⟨k,t,n,ks,rfl,_⟩:=h;rfl
theorem QG{k:Int}{t:Tx}{n:Int}{ks:F}(h:dU k t n ks true=0)(hw:NG k=false):k=23/\t=[]/\ks=.nil\/k=24:=by
 obtain⟨h1,h2,h3,h4,h5,h6⟩:=eF.1 (fF.1 h).1;have hk:k=23\/k=24:=by unfold jH at h2;unfold NG at hw;simp only[zd,Bool.or_eq_false_iff] at h2 hw;have a1:21<=k:=zM h2.1;have a2:k<=24:=zM h2.2;have a3:¬k=21:=of_decide_eq_false hw.1;have a4:¬k=22:=of_decide_eq_false hw.2;omega
 rcases hk with rfl|rfl
 ·have h3:af (ks.aq:Int) 0=true:=h3;have h3:(ks.aq:Int)=0:=zM h3;have h5:(aM t []&&aw (af (fZ 23) 1&&aw (bK t))&&aw (af (fZ 23) 2&&aw (eJ t)))=true:=h5;rw[zd,zd] at h5;refine .inl ⟨rfl,bU.1 h5.1.1,?_⟩;cases ks with
  |nil=>rfl
  |cons a b c d r=>have:((r.aq+1:Nat):Int)=0:=h3;omega
 ·exact .inr rfl
def uQ(L:List DD)(p:F)(T:List ND):Prop:=oW p/\p.size<=1000/\iD L p [T]=true
theorem z5w(L:List DD)(T:List ND):uQ L lJ T:=⟨z24,by decide,rfl⟩
theorem qrn{L:List DD}(hL:GD L)(hg:L.all iU=true){p:F}{T:List ND}(hT:pH T)(h:uQ L p T)(hw:dS p=false):(fq p).length=((iC L T (cZ p).2.1).getD []).length/\∀z,z∈(fq p).zip ((iC L T (cZ p).2.1).getD [])->uQ L z.1 z.2:=by
 obtain⟨h1,h2,h3⟩:=h;have hk:=qyw h1;obtain⟨k,t,n,ks,rfl,he⟩:=h1;rw[FM] at h3;show ks.aL.length=((iC L T t).getD []).length/\∀z,z∈ks.aL.zip ((iC L T t).getD [])->uQ L z.1 z.2;have hj:∀q,q∈ks.aL->q.size<=1000:=fun q hq=>by obtain⟨k',t',n',ks',rfl,hs⟩:=F.cX ks q hq;have h2:ks.size+0+1<=1000:=h2;show ks'.size+0+1<=1000;omega
 rcases QG he hw with ⟨rfl,rfl,rfl⟩|rfl
 ·have hn:iC L T []=none:=by
   cases ha:iC L T [] with
   |none=>rfl
   |some As=>have hc:=(qp9 L hL hg hT ha).2.1;cases hc
  rw[hn];exact⟨rfl,fun z hz=>by cases hz⟩
 ·unfold FL at h3;cases ha:iC L T t with
  |none=>rw[ha] at h3;cases h3
  |some As=>rw[ha] at h3;have h3:(decide (As.length=ks.aq)&&iD L ks As)=true:=h3;rw[zd] at h3;have hf:As.length=ks.aq:=zM h3.1;refine⟨by show _=As.length;rw[F.cW,hf],fun z hz=>?_⟩;have h4:=h3.2;rw[Kt L ks As hf] at h4;exact⟨hk z.1 (List.of_mem_zip hz).1,hj z.1 (List.of_mem_zip hz).1,zJ.1 h4 z hz⟩
theorem uR{α:Type}(l:List α)(i j:Nat)(q:List α)(hi:i<l.length):(l.take i++(q++l.drop (i+1)))[j]?=if j<i then l[j]? else if j<i+q.length then q[j-i]? else l[j-q.length+1]?:=by
 have hc:(l.take i).length=i:=by rw[zO];omega
 by_cases h1:j<i
 ·rw[if_pos h1,jc om,List.getElem?_take,if_pos h1]
 ·rw[if_neg h1,zV om,hc];by_cases h2:j<i+q.length
  ·rw[if_pos h2,jc om]
  ·rw[if_neg h2,zV om,List.getElem?_drop];congr 1;omega
def kQ(L:List DD)(av:List cM)(r:aY):Prop:=r.1.length=av.length/\∀(j:Nat) (p:F) (c:cM),r.1[j]?=some p->av[j]?=some c->uQ L p c.2
theorem qg6{L:List DD}{av:List cM}{r:aY}(h:kQ L av r){i:Nat}(hi:i<av.length){q:List F}{more:List cM}(hq:q.length=more.length)(hz:∀(j:Nat) (p:F) (c:cM),q[j]?=some p->more[j]?=some c->uQ L p c.2):kQ L (av.take i++(more++av.drop (i+1))) (mW r i q):=by
 obtain⟨hl,hp⟩:=h;refine⟨?_,fun j p c h1 h2=>?_⟩
 ·show(r.1.take i++(q++r.1.drop (i+1))).length=_;simp only[zt,zO,zX];omega
 ·have h1:(r.1.take i++(q++r.1.drop (i+1)))[j]?=some p:=h1;rw[uR r.1 i j q om] at h1;rw[uR av i j more hi] at h2;rw[hq] at h1;by_cases c1:j<i
  ·rw[if_pos c1] at h1 h2;exact hp j p c h1 h2
  ·rw[if_neg c1] at h1 h2;by_cases c2:j<i+more.length
   ·rw[if_pos c2] at h1 h2;exact hz _ p c h1 h2
   ·rw[if_neg c2] at h1 h2;exact hp _ p c h1 h2
theorem qyx{L:List DD}{av:List cM}{r:aY}(h:kQ L av r){i:Nat}(hi:i<av.length):kQ L (av.take i++av.drop (i+1)) (mW r i []):=qg6 (more:=[]) h hi rfl fun j p c h1 _=>by simp at h1
theorem EL(L:List DD)(c:cM)(n:bV):kP L c n=sN c.1 ((iC L c.2 n.2.1).getD []):=rfl
theorem FO(a:Tx)(As:List (List ND)):(sN a As).length=As.length:=by unfold sN;simp
theorem QH{a:Tx}{As:List (List ND)}{j:Nat}{c:cM}(h:(sN a As)[j]?=some c):As[j]?=some c.2/\c.1=nj a j:=by
 unfold sN at h;rw[zU,List.getElem?_zipIdx] at h;cases hA:As[j]? with
 |none=>rw[hA] at h;cases h
 |some A=>rw[hA] at h;simp at h;subst h;exact⟨rfl,rfl⟩
theorem NL{r:aY}{i:Nat}(h:i<r.1.length):r.1[i]?=some (atR r i):=by unfold atR;rw[List.getD_eq_getElem?_getD,ze h];rfl
theorem qpa{L:List DD}(hL:GD L)(hf:L.all iU=true){av:List cM}(he:∀c,c∈av->pH c.2){r r':aY}(h:kQ L av r){i:Nat}{c:cM}(hc:av[i]?=some c){n:bV}(hr:jO i n (kP L c n).length r=some r'):kQ L (av.take i++(kP L c n++av.drop (i+1))) r':=by
 have hi:i<av.length:=(zB.1 hc).1;have hk:=h.1;have hg:=h.2 i _ c (NL (r:=r) om) hc;have hj:=he c (zj hc);unfold jO at hr;cases hw:dS (atR r i) with
 |true=>
  rw[hw,cond_true] at hr;injection hr with hr;subst hr;refine qg6 h hi (by rw[List.length_replicate]) fun j p c' h1 _=>?_;rw[List.getElem?_replicate] at h1;split at h1
  ·injection h1 with h1;subst h1;exact z5w L _
  ·cases h1
 |false=>
  rw[hw,cond_false] at hr;cases hl:(cZ (atR r i)==n) with
  |false=>rw[hl] at hr;cases hr
  |true=>rw[hl,cond_true] at hr;injection hr with hr;subst hr;obtain rfl:cZ (atR r i)=n:=eq_of_beq hl;obtain⟨k1,k2⟩:=qrn hL hf hj hg hw;rw[EL];refine qg6 h hi (by rw[FO];exact k1) fun j p c' h1 h2=>?_;obtain⟨h3,_⟩:=QH h2;exact k2 (p,c'.2) (List.mem_iff_getElem?.2 ⟨j,(List.getElem?_zip_eq_some (z:=(p,c'.2))).2 ⟨h1,h3⟩⟩)
theorem QI{L:List DD}(hL:GD L)(hf:L.all iU=true){av:List cM}(he:∀c,c∈av->pH c.2){i:Nat}{c:cM}(hc:av[i]?=some c)(n:bV):(kP L c n).length<=8/\∀d,d∈av.take i++(kP L c n++av.drop (i+1))->pH d.2:=by
 have hg:=he c (zj hc);have hm:(kP L c n).length<=8/\∀d,d∈kP L c n->pH d.2:=by
  rw[EL,FO];cases ha:iC L c.2 n.2.1 with
  |none=>exact⟨Nat.zero_le _,fun d hd=>by cases hd⟩
  |some As=>obtain⟨g1,_,g3⟩:=qp9 L hL hf hg ha;refine⟨g1,fun d hd=>?_⟩;obtain⟨j,hj⟩:=List.mem_iff_getElem?.1 hd;exact g3 _ (zj (QH hj).1)
 refine⟨hm.1,fun d hd=>?_⟩;rcases zL.1 hd with hd|hd
 ·exact he d (List.mem_of_mem_take hd)
 ·rcases zL.1 hd with hd|hd
  ·exact hm.2 d hd
  ·exact he d (List.mem_of_mem_drop hd)
structure Inv (L:List DD) (av:List cM) (R:List aY):Prop where
 rows:R.length<=1000
 row:∀r,r∈R->kQ L av r
 FP:∀c,c∈av->pH c.2
 place:∀c,c∈av->c.1.length+30*mu R<=90000
 wide:av.length+8*mu R<=9000
theorem kQ.tree{L:List DD}{av:List cM}{r:aY}(h:kQ L av r){p:F}(hp:p∈r.1):p.aq=1/\p.size<=1000:=by
 obtain⟨j,hj⟩:=List.mem_iff_getElem?.1 hp;have he:=(zB.1 hj).1;have hc:j<av.length:=by have:=h.1;omega
 obtain⟨h1,h2,_⟩:=h.2 j p av[j] hj (ze hc);exact⟨NK h1,h2⟩
theorem Inv.BC{L:List DD}{av:List cM}{R:List aY}(h:Inv L av R){i:Nat}(hi:i<av.length){r:aY}(hr:r∈R):BC i r:=by have hc:=h.row r hr;have hw:=h.wide;have hl:=hc.1;exact⟨by omega,by omega,fun p hp=>hc.tree hp⟩
theorem Inv.jP{L:List DD}{av:List cM}{R:List aY}(h:Inv L av R){r:aY}(hr:r∈R):jP r:=fun _ hp=>((h.row r hr).tree hp).1
theorem qcv(a:Tx)(j:Nat):(nj a j).length<=a.length+22:=by
 have:=TC (j:Int);unfold nj;cases aM a [] with
 |true=>show(sY (j:Int)).length<=_;omega
 |false=>show(a++[46]++sY (j:Int)).length<=_;simp;omega
theorem QJ{L:List DD}{av:List cM}{R:List aY}(h:Inv L av R){i:Nat}(hi:i<av.length)(n:bV)(k:Nat){r:aY}(hr:r∈R)(hw:dS (atR r i)=false):mu (R.filterMap (jO i n k))<mu R:=by
 have he:∀r,r∈R->i<r.1.length:=fun r hr=>by rw[(h.row r hr).1];exact hi
 have key:∀(S:List aY),(∀x,x∈S->x∈R)->mu (S.filterMap (jO i n k))<=mu S/\(r∈S->mu (S.filterMap (jO i n k))<mu S):=by
  intro S
  induction S with
  |nil=>exact fun _=>⟨Nat.le_refl _,fun h=>by cases h⟩
  |cons a S ih=>
   intro hS;obtain⟨g1,g2⟩:=ih fun x hx=>hS x (zg _ hx);have ha:=hS a (zf ..);have hm:mu (a::S)=pG a+mu S:=rfl;rw[List.filterMap_cons,hm];cases e:jO i n k a with
   |none=>
    show mu (S.filterMap (jO i n k))<=_/\(_->mu (S.filterMap (jO i n k))<_);refine⟨by omega,fun hc=>?_⟩;rcases zu.1 hc with rfl|hc
    ·have:=NI (he _ hr) (h.jP hr) hw;omega
    ·have:=g2 hc;omega
   |some a'=>
    have hf:=z20 (he _ ha) (h.jP ha) e;show pG a'+mu (S.filterMap (jO i n k))<=_/\(_->pG a'+mu (S.filterMap (jO i n k))<_);refine⟨by omega,fun hc=>?_⟩;rcases zu.1 hc with rfl|hc
    ·have:=hf.2 hw;omega
    ·have:=g2 hc;omega
 exact(key R fun _ h=>h).2 hr
theorem QK{L:List DD}{av:List cM}{R:List aY}(h:Inv L av R){i:Nat}(hi:i<av.length){r:aY}(hr:r∈R)(hw:dS (atR r i)=false):mu (R.filterMap (dW i))<mu R:=by
 have he:∀r,r∈R->i<r.1.length:=fun r hr=>by rw[(h.row r hr).1];exact hi
 have key:∀(S:List aY),(∀x,x∈S->x∈R)->mu (S.filterMap (dW i))<=mu S/\(r∈S->mu (S.filterMap (dW i))<mu S):=by
  intro S
  induction S with
  |nil=>exact fun _=>⟨Nat.le_refl _,fun h=>by cases h⟩
  |cons a S ih=>
   intro hS;obtain⟨g1,g2⟩:=ih fun x hx=>hS x (zg _ hx);have ha:=hS a (zf ..);have hm:mu (a::S)=pG a+mu S:=rfl;rw[List.filterMap_cons,hm];cases e:dW i a with
   |none=>
    show mu (S.filterMap (dW i))<=_/\(_->mu (S.filterMap (dW i))<_);refine⟨by omega,fun hc=>?_⟩;rcases zu.1 hc with rfl|hc
    ·have:=NI (he _ hr) (h.jP hr) hw;omega
    ·have:=g2 hc;omega
   |some a'=>
    have hf:=z7n (he _ ha) e;show pG a'+mu (S.filterMap (dW i))<=_/\(_->pG a'+mu (S.filterMap (dW i))<_);refine⟨by omega,fun hc=>?_⟩;rcases zu.1 hc with rfl|hc
    ·have:=hf.2;rw[hw] at this;cases this
    ·have:=g2 hc;omega
 exact(key R fun _ h=>h).2 hr
theorem qg8{L:List DD}(hL:GD L)(he:L.all iU=true){av:List cM}{R:List aY}(h:Inv L av R){i:Nat}{c:cM}(hc:av[i]?=some c)(n:bV){r:aY}(hr:r∈R)(hw:dS (atR r i)=false):Inv L (av.take i++(kP L c n++av.drop (i+1))) (R.filterMap (jO i n (kP L c n).length)):=by
 have hi:i<av.length:=(zB.1 hc).1;have hl:=QJ h hi n (kP L c n).length hr hw;obtain⟨m1,m2⟩:=QI hL he h.FP hc n;have hf:=h.wide;refine⟨Nat.le_trans (List.length_filterMap_le ..) h.rows,fun r' hk=>?_,m2,fun d hd=>?_,?_⟩
 ·obtain⟨r0,g1,g2⟩:=jA.1 hk;exact qpa hL he h.FP (h.row r0 g1) hc g2
 ·have hg:∀d,d∈av->d.1.length+30*mu (R.filterMap (jO i n (kP L c n).length))<=90000:=fun d hd=>by have:=h.place d hd;omega
  rcases zL.1 hd with hd|hd
  ·exact hg d (List.mem_of_mem_take hd)
  ·rcases zL.1 hd with hd|hd
   ·rw[EL] at hd;obtain⟨j,hj⟩:=List.mem_iff_getElem?.1 hd;rw[(QH hj).2];have:=qcv c.1 j;have:=h.place c (zj hc);omega
   ·exact hg d (List.mem_of_mem_drop hd)
 ·simp only[zt,zO,zX];omega
theorem qpb{L:List DD}{av:List cM}{R:List aY}(h:Inv L av R){i:Nat}(hi:i<av.length){r:aY}(hr:r∈R)(hw:dS (atR r i)=false):Inv L (av.take i++av.drop (i+1)) (R.filterMap (dW i)):=by
 have hg:=QK h hi hr hw;have hc:=h.wide;have hm:∀d,d∈av.take i++av.drop (i+1)->d∈av:=fun d hd=>by
  rcases zL.1 hd with hd|hd
  ·exact List.mem_of_mem_take hd
  ·exact List.mem_of_mem_drop hd
 refine⟨Nat.le_trans (List.length_filterMap_le ..) h.rows,fun r' hf=>?_,fun d hd=>h.FP d (hm d hd),fun d hd=>by have:=h.place d (hm d hd);omega,?_⟩
 ·obtain⟨r0,g1,g2⟩:=jA.1 hf;unfold dW at g2;cases he:dS (atR r0 i) with
  |false=>rw[he] at g2;cases g2
  |true=>rw[he,cond_true] at g2;injection g2 with g2;subst g2;exact qyx (h.row r0 g1) hi
 ·simp only[zt,zO,zX];omega
def jI(l:Sl DD)(T:F)(left:Nat):Bool×SN×Sl DD×Int×Unit:=if T.size<=left then(false,⟨false,T.flat⟩,l,((left-T.size:Nat):Int),()) else(true,⟨true,[]⟩,l,0,())
theorem QL(x:ND)(l:Sl DD)(left:Nat)(hl:left<=1000000):mT (x,l,(left:Int),())=some (if left=0 then(true,(0,[],0,0),l,0,()) else(false,x,l,((left-1:Nat):Int),())):=by
 obtain⟨a,b,c,d⟩:=x;rw[VL];by_cases h:left=0
 ·subst h;rfl
 ·have e:af (left:Int) 0=false:=zm om;have e2:cu .i64 (left:Int) 1=((left-1:Nat):Int):=by rw[qu om om];omega
  rw[if_neg h,e,aD,e2]
theorem z25(L:List DD)(hL:GD L)(b:Bool)(a:Tx)(bT:Bool)(x:ND)(T:List ND):∃z:Int,rk (⟨b,L⟩,a,⟨bT,x::T⟩,())=some (z,a,⟨bT,x::T⟩,())/\(bf 0 z=true->∃d:DD,aE L z=some d/\dZ L (x::T)=d.2.2.l.length)/\(bf 0 z=false->dZ L (x::T)=0):=by
 have e:aH rW (⟨b,L⟩,aa L,0,a,⟨bT,x::T⟩,())=some (fe (fun d:DD=>aM d.1 x.2.1) 0 L,a,⟨bT,x::T⟩,()):=by
  refine pE rW (fun k=>(⟨b,L⟩,aa L,k,a,⟨bT,x::T⟩,())) (fun z=>(z,a,⟨bT,x::T⟩,())) L (by have:=hL.1;omega) (fun d=>aM d.1 x.2.1) ?_ ?_
  ·intro k d hx hk;obtain⟨a0,a1,a2⟩:=d;have h0:aE (x::T) 0=some x:=rfl;unfold rW;simp only[cJ hx,aG,aQ hx,aj,VX,h0,aI (show k<=1000000000 by omega)];cases aM a0 x.2.1<;>rfl
  ·unfold rW;simp only[dB,aD]
 refine⟨_,by rw[VY];exact e,fun h=>?_,fun h=>?_⟩
 ·rw[xo] at h;obtain⟨i,d,h1,h2,h3,h4⟩:=Kq (fun d:DD=>aM d.1 x.2.1) L 0 h;rw[h1,zN];refine⟨d,aQ h2,?_⟩;unfold dZ;have h4:L.find? (fun d=>aM d.1 (hd (x::T)).2.1)=some d:=h4;rw[h4]
 ·rw[xo] at h;unfold dZ;have h4:L.find? (fun d=>aM d.1 (hd (x::T)).2.1)=none:=ZN h;rw[h4]
theorem F.lK:∀f g h:F,(f.app g).app h=f.app (g.app h)
 |.nil,_,_=>rfl
 |.cons k t n ks r,g,h=>by show F.cons k t n ks ((r.app g).app h)=F.cons k t n ks (r.app (g.app h));rw[F.lK r g h]
theorem F.v7:∀f:F,f.app .nil=f
 |.nil=>rfl
 |.cons k t n ks r=>by show F.cons k t n ks (r.app .nil)=_;rw[F.v7 r]
theorem F.eL:∀f g:F,(f.app g).size=f.size+g.size
 |.nil,g=>by show g.size=0+g.size;omega
 |.cons k t n ks r,g=>by have:=F.eL r g;show ks.size+(r.app g).size+1=ks.size+r.size+1+g.size;omega
theorem qi6(sub:bV->F):∀(ls:List bV) (n:bV),dT sub (ls++[n])=(dT sub ls).app ((tr n.1 n.2.1 n.2.2 .nil).app ((sub n).app .nil))
 |[],n=>rfl
 |m::ls,n=>by show(tr m.1 m.2.1 m.2.2 .nil).app ((sub m).app (dT sub (ls++[n])))=((tr m.1 m.2.1 m.2.2 .nil).app ((sub m).app (dT sub ls))).app _;rw[qi6 sub ls n,F.lK,F.lK]
theorem qpc(sub:bV->F)(ls:List bV)(n:bV):(dT sub (ls++[n])).size=(dT sub ls).size+1+(sub n).size/\(dT sub (ls++[n])).flat=(dT sub ls).flat++(dP n::(sub n).flat)/\(dT sub (ls++[n])).aq=(dT sub ls).aq+1+(sub n).aq:=by
 rw[qi6,F.v7];refine⟨?_,?_,?_⟩
 ·rw[F.eL,F.eL];show _+((0+0+1)+_)=_;omega
 ·rw[F.iW,F.iW];rfl
 ·rw[F.fj,F.fj];show _+((0+1)+_)=_;omega
theorem qpd(sub:bV->F)(ls:List bV)(k:Nat):(dT sub (ls.take k)).size<=(dT sub ls).size:=by
 have e:∀(a b:List bV),(dT sub a).size<=(dT sub (a++b)).size:=by
  intro a
  induction a with
  |nil=>intro b;exact Nat.zero_le _
  |cons x a ih=>intro b;show((tr x.1 x.2.1 x.2.2 .nil).app ((sub x).app (dT sub a))).size<=((tr x.1 x.2.1 x.2.2 .nil).app ((sub x).app (dT sub (a++b)))).size;have:=ih b;rw[F.eL,F.eL,F.eL,F.eL];omega
 have:=e (ls.take k) (ls.drop k)
 rwa [List.take_append_drop] at this
theorem qua(self:nC)(C:Sl (Tx×SN))(av:List cM)(hC:C.l.map mf=av)(hq:av.length<=9000)(b:Bool)(D:List fk)(R:List aY)(hD:D.map l8=R.map qm)(hN:R.length<=1000)(i:Nat)(hi:i<av.length)(hj:∀r,r∈R->BC i r)(A:Sl SN)(Ts:List (List ND))(hA:A.l.map Sl.l=Ts)(ht:Ts.length<=8)(l:Sl DD)(left:Nat)(len idx:Int)(a:Tx)(ha:a.length<=100000)(T:SN)(out:List ND)(hk:out.length+left<=1000000)(labels:SN)(n:bV)(Tn:F)(hc:∀(M:Sl (Tx×SN)) (D':Sl fk),M.l.map mf=av.take i++(sN a Ts++av.drop (i+1))->D'.l.map l8=(R.filterMap (jO i n Ts.length)).map qm->∀dQ:Nat,dQ<=1000000->self (M,D',l,(dQ:Int),())=some (jI l Tn dQ)):∃q,aH (nN self) (C,len,idx,A,aa A.l,0,l,(left:Int),(i:Int),a,T,⟨false,out⟩,labels,⟨b,D⟩,n.1,n.2.1,n.2.2,0,⟨true,[]⟩,⟨true,[]⟩,())=some q/\((left<1+Tn.size/\q=Sum.inr (Sum.inr (true,⟨true,[]⟩,l,0,())))\/(1+Tn.size<=left/\q=Sum.inl (C,len,au .i64 idx 1,l,((left-(1+Tn.size):Nat):Int),(i:Int),a,T,⟨false,out++(dP n::Tn.flat)⟩,labels,⟨b,D⟩,()))):=by
 refine qyv self C len idx A Ts hA om l left i a ha T ⟨false,out⟩ labels ⟨b,D⟩ n.1 n.2.1 n.2.2 0 _ ?_;intro M Q hM hQ;have hl:A.l.length=Ts.length:=by rw[<-hA,zA]
 have he:aA ((Ts.length:Nat):Int) (aa A.l)=false:=by rw[<-hl];exact dB A.l
 obtain⟨q,e1,D',rfl,hm⟩:=qu8 b D R hD om i om hj Q n Ts.length om hQ;have hn:=QL (n.1,n.2.1,n.2.2,0) l left om;unfold nN;simp only[he,aD,e1,aj,hn];by_cases h0:left=0
 ·rw[if_pos h0];simp only[aG];exact⟨_,rfl,.inl ⟨by omega,rfl⟩⟩
 ·rw[if_neg h0];have hf:C.l.length=av.length:=by rw[<-hC,zA]
  have hu:M.l.length=Ts.length:=by have:=congrArg List.length hM;rw[zA,FO] at this;exact this
  have f1:fit (aT (aa out) (aa [((n.1,n.2.1,n.2.2,0):ND)]))=some ():=iA (by show out.length+1<=_;omega);have c1:bX C.l 0 (i:Int)=some (C.l.take i):=Ze om;have ho:au .i64 (i:Int) 1=((i+1:Nat):Int):=aI om;have c2:bX C.l ((i+1:Nat):Int) (aa C.l)=some (C.l.drop (i+1)):=qp8 om;obtain⟨cb,ec⟩:=qdg false [⟨C.nil,C.l.take i⟩,M,⟨C.nil,C.l.drop (i+1)⟩] (by simp) (by simp;omega);have hg:(([⟨C.nil,C.l.take i⟩,M,⟨C.nil,C.l.drop (i+1)⟩]:List (Sl (Tx×SN))).map Sl.l).flatten.map mf=av.take i++(sN a Ts++av.drop (i+1)):=by simp only[zQ,List.map_nil,List.flatten_cons,List.flatten_nil,zC,zE,List.map_take,List.map_drop,hC,hM]
  generalize (([⟨C.nil,C.l.take i⟩,M,⟨C.nil,C.l.drop (i+1)⟩]:List (Sl (Tx×SN))).map Sl.l).flatten=X at ec hg;have hs:=hc ⟨cb,X⟩ D' hg hm (left-1) om;simp only[aD,f1,aj,c1,ho,c2,ec,hs];unfold jI;by_cases h1:Tn.size<=left-1
  ·rw[if_pos h1];have f2:fit (aT (aa (app out [((n.1,n.2.1,n.2.2,0):ND)])) (aa Tn.flat))=some ():=iA (by show(out++[_]).length+Tn.flat.length<=_;rw[zt,F.len];simp;omega);simp only[aD,f2,aj];refine⟨_,rfl,.inr ⟨by omega,?_⟩⟩;have e3:left-1-Tn.size=left-(1+Tn.size):=om
   have e4:app (app out [((n.1,n.2.1,n.2.2,0):ND)]) Tn.flat=out++(dP n::Tn.flat):=by show(out++[_])++_=_;rw[zD];rfl
   rw[e3,e4];rfl
  ·rw[if_neg h1];simp only[aG];exact⟨_,rfl,.inl ⟨by omega,rfl⟩⟩
theorem QM(sub:bV->F)(hc:∀n,(sub n).aq=1):∀ls:List bV,(dT sub ls).aq=2*ls.length
 |[]=>rfl
 |n::ls=>by show((tr n.1 n.2.1 n.2.2 .nil).app ((sub n).app (dT sub ls))).aq=_;rw[F.fj,F.fj,hc,QM sub hc ls,zw];show 0+1+_=_;omega
theorem qyy(self:nC)(C:Sl (Tx×SN))(av:List cM)(hC:C.l.map mf=av)(hK:av.length<=9000)(b:Bool)(D:List fk)(R:List aY)(hD:D.map l8=R.map qm)(hN:R.length<=1000)(i:Nat)(hi:i<av.length)(hB:∀r,r∈R->BC i r)(bL:Bool)(L:List DD)(hL:GD L)(hM:qD L=true)(l9:Nat)(hl0:l9<=1000000)(a:Tx)(ha:a.length<=90000)(bT:Bool)(T:List ND)(hT:pH T)(nb:Bool)(ls:List bV)(hls:ls.length<=1000)(sub:bV->F)(hO:∀n,(sub n).aq=1)(h8:∀n:bV,((iC L T n.2.1).getD []).length<=8)(he:∀n,n∈ls->∀(M:Sl (Tx×SN)) (D':Sl fk),M.l.map mf=av.take i++(sN a ((iC L T n.2.1).getD [])++av.drop (i+1))->D'.l.map l8=(R.filterMap (jO i n ((iC L T n.2.1).getD []).length)).map qm->∀dQ:Nat,dQ<=1000000->self (M,D',⟨bL,L⟩,(dQ:Int),())=some (jI ⟨bL,L⟩ (sub n) dQ))(hm:∀dQ:Nat,dQ<=1000000->self (⟨true,[]⟩,⟨true,[]⟩,⟨bL,L⟩,(dQ:Int),())=some (jI ⟨bL,L⟩ (tr 62 [] 0 .nil) dQ))(TA:F)(hP:TA.aq=1)(ht:∀(M:Sl (Tx×SN)) (D':Sl fk),M.l.map mf=av.take i++av.drop (i+1)->D'.l.map l8=(R.filterMap (dW i)).map qm->∀dQ:Nat,dQ<=1000000->self (M,D',⟨bL,L⟩,(dQ:Int),())=some (jI ⟨bL,L⟩ TA dQ))(h1:1<=l9):∃q,aH (pn self) (C,aa (ls.map dP),0,⟨bL,L⟩,((l9-1:Nat):Int),(i:Int),a,⟨bT,T⟩,⟨false,[(63,a,0,0)]⟩,⟨nb,ls.map dP⟩,⟨b,D⟩,())=some q/\q=Sum.inr (jI ⟨bL,L⟩ (tr 63 a 0 ((dT sub ls).app (bif Nat.beq ls.length (dZ L T) then tr 62 [] 0 .nil else TA))) l9):=by
 obtain⟨k0,t0,n0,ks0,hj,hQ,hR,hS⟩:=hT;generalize hc:(bif Nat.beq ls.length (dZ L T) then tr 62 [] 0 .nil else TA)=TL;have hu:TL.aq=1:=by rw[<-hc];cases Nat.beq ls.length (dZ L T) with|true=>rfl|false=>exact hP
 have v8:(tr 63 a 0 ((dT sub ls).app TL)).size=1+(dT sub ls).size+TL.size:=by show((dT sub ls).app TL).size+0+1=_;rw[F.eL];omega
 refine FN (pn self) ls.length
  (fun k s=>∃(out:List ND) (left:Nat),s=(C,aa (ls.map dP),(k:Int),⟨bL,L⟩,(left:Int),(i:Int),a,⟨bT,T⟩,⟨false,out⟩,⟨nb,ls.map dP⟩,⟨b,D⟩,())/\out=(63,a,0,0)::(dT sub (ls.take k)).flat/\left+1+(dT sub (ls.take k)).size=l9) _ ?_ ?_ ⟨_,_,rfl,rfl,by show l9-1+1+0=_;omega⟩
 ·rintro k s hk ⟨out,left,rfl,ho,hl⟩;have hn:ls[k]?=some ls[k]:=ze hk;have hE:ls[k]∈ls:=List.getElem_mem hk;generalize ls[k]=n at hn hE;have hv:(ls.map dP)[k]?=some (dP n):=getM hn;have hU:ls.take (k+1)=ls.take k++[n]:=by rw[List.take_add_one,hn];rfl
  obtain⟨s1,s2,s3⟩:=qpc sub (ls.take k) n;rw[<-hU] at s1 s2;have hle:=qpd sub ls (k+1);have hV:out.length=1+(dT sub (ls.take k)).size:=by rw[ho,zw,F.len];omega
  obtain⟨A,ok,eA,hA⟩:=qu9 bL bT L hL hM k0 t0 n0 ks0 hQ (by rw[<-hj];exact hR) (by rw[<-hj];exact hS) n.2.1;rw[<-hj] at eA hA;obtain⟨q,e,hq⟩:=qua self C av hC hK b D R hD hN i hi hB A _ hA (h8 n) ⟨bL,L⟩ left (aa (ls.map dP)) (k:Int) a om ⟨bT,T⟩ out om ⟨nb,ls.map dP⟩ n (sub n) (he n hE);have hW:au .i64 (k:Int) 1=((k+1:Nat):Int):=aI om;unfold pn;simp only[cJ hv,aG,vR (fh hv),aj,z70 hv];refine⟨q,?_,?_⟩
  ·show ag (nH (⟨bL,L⟩,⟨bT,T⟩,n.2.1,())) _=_;rw[eA,aj];exact e
  ·rcases hq with ⟨hX,rfl⟩|⟨hX,rfl⟩
   ·show Sum.inr _=_;unfold jI;rw[if_neg (by rw[v8];omega)]
   ·refine⟨_,_,by rw[hW],?_,?_⟩
    ·rw[ho,s2];rfl
    ·rw[s1];omega
 ·rintro s ⟨out,left,rfl,ho,hl⟩;rw[List.take_length] at ho hl;subst ho;obtain⟨x,T',hY⟩:∃x T',T=x::T':=⟨_,_,hj⟩;have hw:aA ((ls.length:Nat):Int) (aa (ls.map dP))=false:=by
   have:=dB (ls.map dP)
   rwa [zA] at this
  have h0:cB ((63,a,0,0)::(dT sub ls).flat) 0=some 0:=vR (i:=0) (by simp);have hZ:nth ((63,a,0,0)::(dT sub ls).flat:List ND) 0=some (63,a,0,0):=rfl;have h5:pK .i64 2 (aa (ls.map dP))=2*(ls.length:Int):=by
   have e:aa (ls.map dP)=(ls.length:Int):=by unfold aa;rw[zA]
   rw[e,z10 om om]
  have hk:au .i64 (2*(ls.length:Int)) 1=2*(ls.length:Int)+1:=Ft om om;have h6:(((dT sub ls).app TL).aq:Int)=2*(ls.length:Int)+1:=by rw[F.fj,QM sub hO,hu];omega
  have hx:∀y:ND,ff ((63,a,0,0)::(dT sub ls).flat) 0 y=y::(dT sub ls).flat:=fun _=>rfl;have hf:(tr 63 a 0 ((dT sub ls).app TL)).flat=(63,a,0,2*(ls.length:Int)+1)::((dT sub ls).flat++TL.flat):=by rw[qg,h6,F.iW]
  obtain⟨z,ez,hF,hG⟩:=z25 L hL bL a bT x T';rw[<-hY] at ez hF hG;have hb:af (aa (ls.map dP)) ((dZ L T:Nat):Int)=Nat.beq ls.length (dZ L T):=by
   have e:aa (ls.map dP)=(ls.length:Int):=by unfold aa;rw[zA]
   rw[e];unfold af;cases h:Nat.beq ls.length (dZ L T) with
   |true=>exact zn (by rw[zh h])
   |false=>
    have h7:¬((ls.length:Int)=((dZ L T:Nat):Int)):=by
     intro e;have e2:ls.length=dZ L T:=om
     rw[e2,Nat.beq_refl] at h;cases h
    exact zm h7
  have hH:C.l.length=av.length:=by rw[<-hC,zA]
  have c1:bX C.l 0 (i:Int)=some (C.l.take i):=Ze om;have hI:au .i64 (i:Int) 1=((i+1:Nat):Int):=aI om;have c2:bX C.l ((i+1:Nat):Int) (aa C.l)=some (C.l.drop (i+1)):=qp8 om;obtain⟨qa,ea,DA,rfl,h9⟩:=z22 b D R hD om i om hB;obtain⟨cb,ec⟩:=qdg false [⟨C.nil,C.l.take i⟩,⟨C.nil,C.l.drop (i+1)⟩] (by simp) (by simp;omega);have hJ:(([⟨C.nil,C.l.take i⟩,⟨C.nil,C.l.drop (i+1)⟩]:List (Sl (Tx×SN))).map Sl.l).flatten.map mf=av.take i++av.drop (i+1):=by simp only[zQ,List.map_nil,List.flatten_cons,List.flatten_nil,zC,zE,List.map_take,List.map_drop,hC]
  generalize (([⟨C.nil,C.l.take i⟩,⟨C.nil,C.l.drop (i+1)⟩]:List (Sl (Tx×SN))).map Sl.l).flatten=X at ec hJ;have sa:=ht ⟨cb,X⟩ DA hJ h9 left om;have sn:=hm left om;have fin:∀(q:Bool×SN×Sl DD×Int×Unit),q=jI ⟨bL,L⟩ TL left->ak q.1 (some (Sum.inr (Sum.inr (true,⟨true,[]⟩,q.2.2.1,q.2.2.2.1,())))) (ag (fit (aT (aa ((63,a,0,2*(ls.length:Int)+1)::(dT sub ls).flat:List ND)) (aa q.2.1.l))) fun _=>some (Sum.inr (Sum.inr (false,⟨aR false (dI q.2.1.l),app ((63,a,0,2*(ls.length:Int)+1)::(dT sub ls).flat) q.2.1.l⟩,q.2.2.1,q.2.2.2.1,()))))=
    (some (Sum.inr (Sum.inr (jI ⟨bL,L⟩ (tr 63 a 0 ((dT sub ls).app TL)) l9))):Option (LV⊕Qb)):=by
   intro q hq;subst hq;unfold jI;by_cases hs:TL.size<=left
   ·rw[if_pos hs,if_pos (by rw[v8];omega),hf];have f2:fit (aT (aa ((63,a,0,2*(ls.length:Int)+1)::(dT sub ls).flat:List ND)) (aa TL.flat))=some ():=iA (by show((_:ND)::_).length+TL.flat.length<=_;rw[zw,F.len,F.len];omega);simp only[aD,f2,aj];have e3:left-TL.size=l9-(tr 63 a 0 ((dT sub ls).app TL)).size:=by rw[v8];omega
    rw[e3];rfl
   ·rw[if_neg hs,if_neg (by rw[v8];omega)];rfl
  unfold pn;simp only[hw,aD,h0,aj,hZ,h5,hk,ez,hx];refine⟨_,?_,rfl⟩;cases hz:bf 0 z with
  |true=>
   obtain⟨d,hd1,hd2⟩:=hF hz;have hy:aa d.2.2.l=((dZ L T:Nat):Int):=by rw[hd2];rfl
   simp only[aG,hd1,aj,hy,hb];cases hg:Nat.beq ls.length (dZ L T) with
   |true=>rw[hg] at hc;have hc:tr 62 [] 0 .nil=TL:=hc;simp only[aG,sn,aj,hc];exact fin _ rfl
   |false=>rw[hg] at hc;have hc:TA=TL:=hc;simp only[aD,ea,aj,c1,hI,c2,ec,sa,hc];exact fin _ rfl
  |false=>
   have hf0:(0:Int)=((dZ L T:Nat):Int):=by rw[hG hz];rfl
   have hb0:af (aa (ls.map dP)) 0=Nat.beq ls.length (dZ L T):=by rw[<-hb,<-hf0]
   simp only[aD,aj,hb0];cases hg:Nat.beq ls.length (dZ L T) with
   |true=>rw[hg] at hc;have hc:tr 62 [] 0 .nil=TL:=hc;simp only[aG,sn,aj,hc];exact fin _ rfl
   |false=>rw[hg] at hc;have hc:TA=TL:=hc;simp only[aD,ea,aj,c1,hI,c2,ec,sa,hc];exact fin _ rfl
theorem qyz{α:Type}(p:α->Bool):∀(l:List α) (k:Nat),fe p k l=match l.findIdx? p with|some i=>((k+i:Nat):Int)|none=>-1
 |[],_=>rfl
 |x::l,k=>by
  unfold fe;rw[List.findIdx?_cons];cases h:p x with
  |true=>simp
  |false=>
   rw[cond_false,qyz p l (k+1)];cases l.findIdx? p with
   |none=>rfl
   |some i=>show((k+1+i:Nat):Int)=((k+(i+1):Nat):Int);congr 1;omega
theorem EM(L:List DD):∀(m:Nat) (av:List cM) (R:List aY),1<=m->(cF L m av R).aq=1
 |0,_,_,h=>by omega
 |m+1,av,[],_=>rfl
 |m+1,av,r0::rs,_=>by unfold cF;simp only;split<;>rfl
theorem z7p(bL:Bool)(L:List DD)(hL:GD L)(hu:qD L=true):∀(m:Nat) (av:List cM) (R:List aY),Inv L av R->mu R<m->∀N,m<=N->∀left:Nat,left<=1000000->∀(C:Sl (Tx×SN)) (D:Sl fk),C.l.map mf=av->D.l.map l8=R.map qm->aU p7 N (C,D,⟨bL,L⟩,(left:Int),())=some (jI ⟨bL,L⟩ (cF L m av R) left):=by
 have hv:=(Ku hu).1;intro m
 induction m with
 |zero=>intro av R _ h;omega
 |succ m ih=>
  intro av R he hX N hN left hj C D hC hD;cases N with
  |zero=>omega
  |succ N=>
   show p7 (aU p7 N) (C,D,⟨bL,L⟩,(left:Int),())=_;rw[VZ];obtain⟨db,dl⟩:=D;have hm:dl.length=R.length:=xS hD;cases R with
   |nil=>
    have e0:af (aa dl) 0=true:=zn (by unfold aa;rw[hm];rfl);have hn:=QL (62,[],0,0) ⟨bL,L⟩ left hj;have hT:cF L (m+1) av []=tr 62 [] 0 .nil:=rfl;rw[hT];simp only[e0,aG,hn,aj];unfold jI;by_cases h0:left=0
    ·subst h0;rfl
    ·rw[if_neg h0,if_pos (show(tr 62 [] 0 F.nil).size<=left by show 0+0+1<=left;omega)];rfl
   |cons r0 rs=>
    have e0:af (aa dl) 0=false:=zm (by unfold aa;rw[hm,zw];omega);have hH:(r0::rs)[0]?=some r0:=rfl;obtain⟨d,hd,hx⟩:=Cl hD hH;have hy:aE dl 0=some d:=aQ (i:=0) hd;obtain⟨⟨pb,pl⟩,da⟩:=d;have hI:pl.map Sl.l=r0.1.map F.flat:=congrArg Prod.fst hx;have hJ:da=r0.2:=congrArg Prod.snd hx;have hk:r0∈r0::rs:=zf ..;have hl:=he.row r0 hk;have hA:=he.wide;have hg:=qu6 pb pl r0.1 hI (fun p hp=>(hl.tree hp).1) (by have:=hl.1;omega);rw[qyz] at hg;cases hf:r0.1.findIdx? (fun p=>!dS p) with
    |none=>
     rw[hf] at hg;have hT:cF L (m+1) av (r0::rs)=tr 61 [] r0.2 .nil:=by show(match r0.1.findIdx? (fun p=>!dS p) with|none=>_|some i=>_)=_;rw[hf]
     have hB:aA (-1) 0=true:=id (Eq.refl _);have hn:=QL (61,[],da,0) ⟨bL,L⟩ left hj;rw[hT];simp only[e0,aD,hy,aj,hg,hB,aG,hn];unfold jI;by_cases h0:left=0
     ·subst h0;rfl
     ·rw[if_neg h0,if_pos (show(tr 61 [] r0.2 F.nil).size<=left by show 0+0+1<=left;omega),hJ];rfl
    |some i=>
     rw[hf] at hg;obtain⟨hs,hK,_⟩:=List.findIdx?_eq_some_iff_getElem.1 hf;have hi:i<av.length:=by rw[<-hl.1];exact hs
     have hw:dS (atR r0 i)=false:=by
      have e:atR r0 i=r0.1[i]:=by unfold atR;rw[List.getD_eq_getElem?_getD,ze hs];rfl
      rw[e];simpa using hK
     have hc:av[i]?=some av[i]:=ze hi;generalize hY:av[i]=c at hc;have hO:av.getD i ([],[])=c:=by rw[List.getD_eq_getElem?_getD,hc];rfl
     obtain⟨⟨a,⟨bT,T⟩⟩,hP,hQ⟩:=Cl (f:=mf) (g:=id) (R:=av) (by rw[List.map_id];exact hC) hc;obtain rfl:(a,T)=c:=hQ;have hT:cF L (m+1) av (r0::rs)=tr 63 a 0 ((dT (fun n=>cF L m (av.take i++(kP L (a,T) n++av.drop (i+1))) ((r0::rs).filterMap (jO i n (kP L (a,T) n).length))) (fN i (r0::rs) [])).app
       (bif Nat.beq (fN i (r0::rs) []).length (dZ L T) then tr 62 [] 0 .nil else cF L m (av.take i++av.drop (i+1)) ((r0::rs).filterMap (dW i)))):=by
      show(match r0.1.findIdx? (fun p=>!dS p) with|none=>_|some i=>_)=_;rw[hf];simp only[hO]
     have hE:1<=m:=by have:=NI (r:=r0) (i:=i) hs (he.jP hk) hw;have:mu (r0::rs)=pG r0+mu rs:=rfl;omega
     have hR:cF L m [] []=tr 62 [] 0 .nil:=by
      cases m with
      |zero=>omega
      |succ m=>rfl
     have hB:aA ((0+i:Nat):Int) 0=false:=zm om;have hz:((0+i:Nat):Int)=(i:Int):=om
     have hn:=QL (63,a,0,0) ⟨bL,L⟩ left hj;have hS:=aQ hP;have hF:=he.place _ (zj hc);have hF:a.length+30*mu (r0::rs)<=90000:=hF;rw[hT];simp only[e0,aD,hy,aj,hg,hz,hS,hn];by_cases h0:left=0
     ·subst h0;rw[if_pos rfl];unfold jI;rw[if_neg (by show ¬(_+0+1<=0);omega)];rfl
     ·rw[if_neg h0];simp only[aD];have hG:=he.rows;have hU:=QF i (r0::rs) [];have key:=qyt (aU p7 N) db dl (r0::rs) hD om i (fun r hr=>he.BC hi hr) C ⟨bL,L⟩ ((left-1:Nat):Int) a ⟨bT,T⟩ ⟨false,[(63,a,0,0)]⟩ (fun q=>q=_) (fun nb=>by
       obtain⟨q,e,hq⟩:=qyy (aU p7 N) C av hC om db dl (r0::rs) hD hG i hi (fun r hr=>he.BC hi hr) bL L hL hu left hj a om bT T (he.FP _ (zj hc)) nb (fN i (r0::rs) []) (by simp at hU hG ⊢;omega)
        (fun n=>cF L m (av.take i++(kP L (a,T) n++av.drop (i+1))) ((r0::rs).filterMap (jO i n (kP L (a,T) n).length))) (fun n=>EM L m _ _ hE)
        (fun n=>by have:=(QI hL hv he.FP hc n).1;rw[EL,FO] at this;exact this)
        (fun n _ M D' hM ht dQ ho=>by
         have hV:=QJ he hi n (kP L (a,T) n).length hk hw;have hW:(kP L (a,T) n).length=((iC L T n.2.1).getD []).length:=by rw[EL,FO]
         exact ih _ _ (qg8 hL hv he hc n hk hw) om N om dQ ho M D' hM (by rw[hW];exact ht))
        (fun dQ ho=>by rw[<-hR];exact ih [] [] ⟨Nat.zero_le _,fun _ h=>(by cases h),fun _ h=>(by cases h),fun _ h=>(by cases h),dc⟩ (show 0<m by omega) N om dQ ho ⟨true,[]⟩ ⟨true,[]⟩ rfl rfl)
        (cF L m (av.take i++av.drop (i+1)) ((r0::rs).filterMap (dW i))) (EM L m _ _ hE)
        (fun M D' hM ht dQ ho=>ih _ _ (qpb he hi hk hw) (by have:=QK he hi hk hw;omega) N om dQ ho M D' hM ht) om
       exact⟨_,by rw[e,hq],rfl⟩)
      obtain⟨q,e,hq⟩:=key;rw[<-hq];exact e
theorem z26(bL:Bool)(L:List DD)(hL:GD L)(he:qD L=true)(m:Nat)(av:List cM)(R:List aY)(hc:Inv L av R)(hf:mu R<m)(left:Nat)(hl:left<=1000000)(C:Sl (Tx×SN))(D:Sl fk)(hC:C.l.map mf=av)(hD:D.l.map l8=R.map qm):xa (C,D,⟨bL,L⟩,(left:Int),())=some (jI ⟨bL,L⟩ (cF L m av R) left):=tG m fun N hN=>z7p bL L hL he m av R hc hf N hN left hl C D hC hD
def jJ(fs:List F):List aY:=fs.zipIdx.map fun e=>([e.1],(e.2:Int))
theorem z5x(p:F):wt p<=p.size:=by unfold wt;rw[<-F.len];exact List.length_filter_le _ _
theorem qrp(m:Nat):∀(fs:List F) (k:Nat),(∀f,f∈fs->f.size<=m)->mu ((fs.zipIdx k).map fun e=>(([e.1],(e.2:Int)):aY))<=fs.length*m
 |[],_,_=>Nat.zero_le _
 |f::fs,k,h=>by have ih:=qrp m fs (k+1) fun g hg=>h g (zg _ hg);have h1:=h f (zf ..);have h2:=z5x f;rw[List.zipIdx_cons,zQ];show(wt f+0)+mu _<=_;rw[zw,Nat.succ_mul];omega
theorem IT(L:List DD)(T:List ND)(hT:pH T)(fs:List F)(h6:fs.length<=8)(hf:∀f,f∈fs->uQ L f T/\f.size<=30):Inv L [([],T)] (jJ fs)/\mu (jJ fs)<1000:=by
 have hk:mu (jJ fs)<=fs.length*30:=qrp 30 fs 0 fun f h=>(hf f h).2;have hg:fs.length*30<=8*30:=Nat.mul_le_mul_right _ h6;refine⟨⟨by unfold jJ;simp;omega,fun r hr=>?_,fun c hc=>?_,fun c hc=>?_,by show 1+8*_<=_;omega⟩,by omega⟩
 ·obtain⟨e,he,rfl⟩:=zS.1 hr;have hm:e.1∈fs:=by
   obtain⟨j,hj⟩:=List.mem_iff_getElem?.1 he;rw[List.getElem?_zipIdx] at hj;cases hx:fs[j]? with
   |none=>rw[hx] at hj;cases hj
   |some x=>rw[hx] at hj;injection hj with hj;rw[<-hj];exact zj hx
  refine⟨rfl,fun j p c h1 h2=>?_⟩;cases j with
  |zero=>injection h1 with h1;injection h2 with h2;subst h1 h2;exact(hf e.1 hm).1
  |succ j=>cases h1
 ·rw[zI.1 hc];exact hT
 ·rw[zI.1 hc];show 0+30*_<=_;omega
theorem qz0(fs:List F)(f:F):jJ (fs++[f])=jJ fs++[([f],(fs.length:Int))]:=by unfold jJ;rw[List.zipIdx_append,zE];simp
theorem z27(b0 b1 b2:Bool)(L:List DD)(hL:GD L)(ho:qD L=true)(T:List ND)(hT:pH T)(P:List SN)(fs:List F)(hP:P.map Sl.l=fs.map F.flat)(h6:fs.length<=8)(hf:∀f,f∈fs->uQ L f T/\f.size<=30)(hc:∀p,p∈P->jX (⟨b0,L⟩,⟨b1,T⟩,p,())=some (0,()))(he:jX (⟨b0,L⟩,⟨b1,T⟩,⟨false,[(21,[],0,0)]⟩,())=some (0,())):nI (⟨b0,L⟩,⟨b1,T⟩,⟨b2,P⟩,())=some (if(cF L 1000 [([],T)] (jJ fs)).size<=4000 then(⟨false,(cF L 1000 [([],T)] (jJ fs)).flat⟩,0,()) else(⟨true,[]⟩,131,())):=by
 have hg:P.length=fs.length:=xS hP;have nR:aw (af (0:Int) 0)=false:=id (Eq.refl _);rw[Mt]
 suffices H:∃q,aH kK (⟨b0,L⟩,⟨b1,T⟩,⟨b2,P⟩,aa P,0,0,⟨true,[]⟩,⟨true,[]⟩,())=some q/\q=(if(cF L 1000 [([],T)] (jJ fs)).size<=4000 then(⟨false,(cF L 1000 [([],T)] (jJ fs)).flat⟩,0,()) else(⟨true,[]⟩,131,())) by obtain⟨q,e,hq⟩:=H;exact e.trans (congrArg some hq)
 refine FN kK fs.length
  (fun k s=>∃O:Sl fk,s=(⟨b0,L⟩,⟨b1,T⟩,⟨b2,P⟩,aa P,(k:Int),0,O,⟨true,[]⟩,())/\O.l.map l8=(jJ (fs.take k)).map qm/\O.l.length=k)
  (fun q=>q=(if(cF L 1000 [([],T)] (jJ fs)).size<=4000 then(⟨false,(cF L 1000 [([],T)] (jJ fs)).flat⟩,0,()) else(⟨true,[]⟩,131,()))) ?_ ?_ (s0:=(⟨b0,L⟩,⟨b1,T⟩,⟨b2,P⟩,aa P,0,0,⟨true,[]⟩,⟨true,[]⟩,())) ⟨⟨true,[]⟩,rfl,rfl,rfl⟩
 ·rintro k s hk ⟨⟨ob,ol⟩,rfl,h1,h2⟩;have hj:fs[k]?=some fs[k]:=ze hk;generalize fs[k]=f at hj;obtain⟨x,hx,hl⟩:=Cl hP hj;have hl:x.l=f.flat:=hl;have h2:ol.length=k:=h2;have ht:fs.take (k+1)=fs.take k++[f]:=by rw[List.take_add_one,hj];rfl
  have f1:∀y:fk,fit (aT (aa ol) (aa [y]))=some ():=fun y=>iA (by show ol.length+1<=_;omega);unfold kK;simp only[cJ hx,aG,aQ hx,aj,hc x (zj hx),nR,aD,f1,aI (show k<=1000000000 by omega)];refine⟨_,rfl,_,rfl,?_,?_⟩
  ·show(ol++[((⟨false,[x]⟩:Sl SN),(k:Int))]).map l8=_;rw[zE,h1,ht,qz0,zE,zO,Nat.min_eq_left om];show _++[([x.l],(k:Int))]=_++[([f.flat],(k:Int))];rw[hl]
  ·show(ol++[_]).length=k+1;rw[zt,h2];rfl
 ·rintro s ⟨O,rfl,h1,h2⟩;rw[List.take_length] at h1;have hm:aA ((fs.length:Nat):Int) (aa P)=false:=by rw[<-hg];exact dB P
  obtain⟨hn,hu⟩:=IT L T hT fs h6 hf;have hb:=z26 b0 L hL ho 1000 [([],T)] (jJ fs) hn hu 4000 om ⟨false,[([],⟨b1,T⟩)]⟩ O rfl h1;have hb:xa (⟨false,[([],⟨b1,T⟩)]⟩,O,⟨b0,L⟩,4000,())=_:=hb;unfold kK;simp only[hm,aD,he,aj,nR,hb];unfold jI;by_cases hs:(cF L 1000 [([],T)] (jJ fs)).size<=4000
  ·rw[if_pos hs,if_pos hs];exact⟨_,rfl,rfl⟩
  ·rw[if_neg hs,if_neg hs];exact⟨_,rfl,rfl⟩
theorem qz1(b0 b1 b2:Bool)(L:List DD)(T:List ND)(P:List SN)(h6:P.length<=8)(ck:SN->Bool)(ca:Bool)(hg:∀p,p∈P->jX (⟨b0,L⟩,⟨b1,T⟩,p,())=some (bif ck p then 0 else 120,()))(he:jX (⟨b0,L⟩,⟨b1,T⟩,⟨false,[(21,[],0,0)]⟩,())=some (bif ca then 0 else 120,()))(hf:(P.all ck&&ca)=false):nI (⟨b0,L⟩,⟨b1,T⟩,⟨b2,P⟩,())=some (⟨true,[]⟩,120,()):=by
 have nR:aw (af (0:Int) 0)=false:=id (Eq.refl _);have FJ:aw (af (120:Int) 0)=true:=id (Eq.refl _);rw[Mt]
 suffices H:∃q,aH kK (⟨b0,L⟩,⟨b1,T⟩,⟨b2,P⟩,aa P,0,0,⟨true,[]⟩,⟨true,[]⟩,())=some q/\q=(⟨true,[]⟩,120,()) by obtain⟨q,e,hq⟩:=H;exact e.trans (congrArg some hq)
 refine FN kK P.length
  (fun k s=>∃O:Sl fk,s=(⟨b0,L⟩,⟨b1,T⟩,⟨b2,P⟩,aa P,(k:Int),0,O,⟨true,[]⟩,())/\(P.take k).all ck=true/\O.l.length=k) _ ?_ ?_ ⟨⟨true,[]⟩,rfl,rfl,rfl⟩
 ·rintro k s hk ⟨⟨ob,ol⟩,rfl,h1,h2⟩;have hx:P[k]?=some P[k]:=ze hk;generalize P[k]=x at hx;have h2:ol.length=k:=h2;have hl:P.take (k+1)=P.take k++[x]:=by rw[List.take_add_one,hx];rfl
  have f1:∀y:fk,fit (aT (aa ol) (aa [y]))=some ():=fun y=>iA (by show ol.length+1<=_;omega);unfold kK;simp only[cJ hx,aG,aQ hx,aj,hg x (zj hx)];cases hc:ck x with
  |false=>simp only[cond_false,FJ,aG];exact⟨_,rfl,rfl⟩
  |true=>
   simp only[cond_true,nR,aD,f1,aj,aI (show k<=1000000000 by omega)];refine⟨_,rfl,_,rfl,?_,?_⟩
   ·rw[hl,List.all_append,h1];simp[hc]
   ·show(ol++[_]).length=k+1;rw[zt,h2];rfl
 ·rintro s ⟨O,rfl,h1,h2⟩;rw[List.take_length] at h1;rw[h1,Bool.true_and] at hf;rw[hf] at he;have hj:aA ((P.length:Nat):Int) (aa P)=false:=dB P;unfold kK;simp only[hj,aD,he,aj,cond_false,FJ,aG];exact⟨_,rfl,rfl⟩
theorem z28{T:List ND}(h:jN T=true)(hg:GL T):pH T:=by obtain⟨g1,_,k,t,n,ks,e⟩:=(BA _).1 h;refine⟨k,t,n,ks,e,?_,h,hg⟩;rw[e,kO] at g1;exact g1
theorem qrq{L:List DD}{T:List ND}:∀P:List SN,(∀p,p∈P->NC L T p.l/\p.l.length<=30)->∃fs:List F,P.map Sl.l=fs.map F.flat/\∀f,f∈fs->uQ L f T/\f.size<=30
 |[],_=>⟨[],rfl,fun f h=>by cases h⟩
 |p::P,h=>by
  obtain⟨fs,h1,h2⟩:=qrq P fun q hq=>h q (zg _ hq);obtain⟨⟨k,t,n,ks,e,hc,ho⟩,hl⟩:=h p (zf ..);have hs:(tr k t n ks).size<=30:=by rw[<-F.len,<-e];exact hl
  refine⟨tr k t n ks::fs,by rw[zQ,zQ,h1,e],fun f hf=>?_⟩;rcases zu.1 hf with rfl|hf
  ·exact⟨⟨⟨k,t,n,ks,rfl,(qk.1 hc).2.1⟩,by omega,ho⟩,hs⟩
  ·exact h2 f hf
noncomputable def wa(L:List DD)(T p:List ND):Bool:=@decide (qD L=true/\jN T=true/\NC L T p) (Classical.propDecidable _)
theorem nn{L:List DD}{T p:List ND}:wa L T p=true↔qD L=true/\jN T=true/\NC L T p:=by unfold wa;exact @decide_eq_true_iff _ (Classical.propDecidable _)
theorem qrr(L:List DD)(hL:GD L)(T:List ND)(hT:T.length<=10000)(he:GL T)(p:List ND)(hp:p.length<=4000)(hg:GL p):(∀b0 b b',jX (⟨b0,L⟩,⟨b,T⟩,⟨b',p⟩,())=some (bif wa L T p then 0 else 120,()))/\(∀b0 b b',Ea (⟨b0,L⟩,⟨b,T⟩,⟨b',p⟩,())=some (wa L T p,())):=by
 obtain⟨c,h1,h2,h3⟩:=qu3 L hL T hT he p hp hg;have e:wa L T p=c:=by
  have:=nn (L:=L) (T:=T) (p:=p);cases hc:c with
  |true=>exact this.2 (h3.1 hc)
  |false=>
   cases hk:wa L T p with
   |false=>rfl
   |true=>have:=h3.2 (this.1 hk);rw[hc] at this;cases this
 rw[e];exact⟨h1,h2⟩
theorem qn0(L:List DD)(hL:GD L)(T:List ND)(hT:T.length<=4000)(hg:GL T)(P:List SN)(h6:P.length<=6)(hP:∀p,p∈P->p.l.length<=30/\GL p.l)(b0 b1 b2:Bool):((P.all (fun p=>wa L T p.l)&&wa L T [(21,[],0,0)])=false/\nI (⟨b0,L⟩,⟨b1,T⟩,⟨b2,P⟩,())=some (⟨true,[]⟩,120,()))\/((P.all (fun p=>wa L T p.l)&&wa L T [(21,[],0,0)])=true/\qD L=true/\pH T/\∃fs:List F,P.map Sl.l=fs.map F.flat/\(∀f,f∈fs->uQ L f T/\f.size<=30)/\nI (⟨b0,L⟩,⟨b1,T⟩,⟨b2,P⟩,())=some (if(cF L 1000 [([],T)] (jJ fs)).size<=4000 then(⟨false,(cF L 1000 [([],T)] (jJ fs)).flat⟩,0,()) else(⟨true,[]⟩,131,()))):=by
 have ca:=qrr L hL T om hg [(21,[],0,0)] (by show 1<=_;omega) uP;have cp:∀p,p∈P->jX (⟨b0,L⟩,⟨b1,T⟩,p,())=some (bif wa L T p.l then 0 else 120,()):=fun p hp=>by obtain⟨pb,pl⟩:=p;obtain⟨g1,g2⟩:=hP _ hp;exact(qrr L hL T om hg pl (by have g1:pl.length<=30:=g1;omega) g2).1 b0 b1 pb
 cases he:(P.all (fun p=>wa L T p.l)&&wa L T [(21,[],0,0)]) with
 |false=>exact .inl ⟨rfl,qz1 b0 b1 b2 L T P om (fun p=>wa L T p.l) _ cp (ca.1 b0 b1 false) he⟩
 |true=>
  have hc:=he;rw[zd] at hc;obtain⟨q1,q2⟩:=hc;obtain⟨hj,hk,_⟩:=nn.1 q2;have hf:=z28 hk hg;obtain⟨fs,f1,f2⟩:=qrq (L:=L) (T:=T) P fun p hp=>⟨(nn.1 (zJ.1 q1 p hp)).2.2,(hP p hp).1⟩;have hl:=xS f1;refine .inr ⟨rfl,hj,hf,fs,f1,f2,z27 b0 b1 b2 L hL hj T hf P fs f1 om f2 (fun p hp=>?_) ?_⟩
  ·rw[cp p hp,zJ.1 q1 p hp];rfl
  ·rw[ca.1 b0 b1 false,q2];rfl
theorem qk5{P:List SN}(fP:∀p,p∈P->gI 30 p.l)(gP:∀p,p∈P->gL p.l):∀p,p∈P.map (fun x=>(⟨false,x.l⟩:SN))->p.l.length<=30/\GL p.l:=fun p hp=>by obtain⟨x,hx,rfl⟩:=zS.1 hp;exact⟨(fP x hx).1,IS (gP x hx) (fP x hx)⟩
def dg(j:Nat):Int:=48+(j:Int)
def iE:List Nat->Tx
 |[]=>[]
 |j::l=>dg j::l.flatMap (fun k=>[46,dg k])
theorem z29{j:Nat}(h:j<10):sY (j:Int)=[dg j]:=by
 have h:j=0\/j=1\/j=2\/j=3\/j=4\/j=5\/j=6\/j=7\/j=8\/j=9:=om
 rcases h with rfl|rfl|rfl|rfl|rfl|rfl|rfl|rfl|rfl|rfl<;>rfl
theorem qrs(l:List Nat){j:Nat}(h:j<10):iE (l++[j])=nj (iE l) j:=by
 unfold nj;rw[z29 h];cases l with
 |nil=>rfl
 |cons a l=>
  have e:aM (iE (a::l)) []=false:=by
   cases h:aM (iE (a::l)) [] with
   |false=>rfl
   |true=>have:=bU.1 h;cases this
  rw[e,cond_false];show dg a::(l++[j]).flatMap _=(dg a::l.flatMap _)++[46]++[dg j];rw[List.flatMap_append];simp
theorem z5y:∀l:List Nat,(iE l).length<=2*l.length
 |[]=>Nat.le_refl _
 |j::l=>by
  have:∀m:List Nat,(m.flatMap fun k=>[46,dg k]).length=2*m.length:=by
   intro m
   induction m with
   |nil=>rfl
   |cons a m ih=>rw[List.flatMap_cons,zt,ih,zw];simp;omega
  show(dg j::l.flatMap (fun k=>[46,dg k])).length<=2*(l.length+1);rw[zw,this];omega
theorem qz2:∀l:List Int,∃h t,gR l=h::t
 |[]=>⟨[],[],rfl⟩
 |b::l=>by
  obtain⟨h,t,e⟩:=qz2 l;unfold gR;rw[e];by_cases hb:b=46
  ·rw[if_pos hb];exact⟨_,_,rfl⟩
  ·rw[if_neg hb];exact⟨_,_,rfl⟩
theorem qz3:∀a b:List Int,gR (a++46::b)=gR a++gR b
 |[],b=>by show gR (46::b)=_;unfold gR;rw[if_pos rfl];cases b<;>rfl
 |c::a,b=>by
  have ih:=qz3 a b;obtain⟨h,t,e⟩:=qz2 a;rw[List.cons_append]
  conv=>lhs;unfold gR
  conv=>rhs;lhs;unfold gR
  rw[ih,e];by_cases hc:c=46
  ·rw[if_pos hc,if_pos hc];rfl
  ·rw[if_neg hc,if_neg hc];rfl
theorem qz4(j:Nat):gR [dg j]=[[dg j]]:=by unfold gR;rw[if_neg (by unfold dg;omega)];rfl
theorem qpe:∀(l:List Nat) (j:Nat),gR (iE (j::l))=(j::l).map fun k=>[dg k]
 |[],j=>qz4 j
 |k::l,j=>by have ih:=qpe l k;show gR ([dg j]++46::iE (k::l))=_;rw[qz3,ih,qz4];rfl
theorem QN(l:List Nat)(h:∀k,k∈l->k<8):∃nb,qv (iE l)=(⟨nb,l.map fun(k:Nat)=>(k:Int)⟩,true,()):=by
 cases l with
 |nil=>exact⟨true,rfl⟩
 |cons j l=>
  have e1:¬iE (j::l)=[]:=fun e=>by cases e
  have e2:(gR (iE (j::l))).all GF=true:=by rw[qpe];refine zJ.2 fun x hx=>?_;obtain⟨k,hk,rfl⟩:=zS.1 hx;have:=h k hk;show(decide (48<=dg k)&&decide (dg k<56))=true;unfold dg;rw[zn om,zn om];rfl
  have e3:(gR (iE (j::l))).map mG=(j::l).map fun(k:Nat)=>(k:Int):=by rw[qpe,zY];refine zW fun k _=>?_;show dg k-48=_;unfold dg;omega
  refine⟨false,?_⟩;unfold qv;rw[if_neg e1,if_pos e2,e3]
theorem z5z{a b:List Nat}(ha:∀k,k∈a->k<8)(hb:∀k,k∈b->k<8)(h:iE a=iE b):a=b:=by obtain⟨n1,e1⟩:=QN a ha;obtain⟨n2,e2⟩:=QN b hb;rw[h,e2] at e1;have e3:(b.map fun(k:Nat)=>(k:Int))=a.map fun(k:Nat)=>(k:Int):=congrArg (fun s=>s.1.l) e1;exact((List.map_inj_right (f:=fun(k:Nat)=>(k:Int)) (fun x y e=>by have e:(x:Int)=(y:Int):=e;omega)).1 e3).symm
theorem z2a:∀(l:List Nat),(∀k,k∈l->k<8)->∀b,b∈iE l->0<=b/\b<=255
 |[],_,b,hb=>by cases hb
 |j::l,h,b,hb=>by
  have hj:∀k,k∈j::l->0<=dg k/\dg k<=255:=fun k hk=>by have:=h k hk;unfold dg;omega
  rcases zu.1 hb with rfl|hb
  ·exact hj j (zf ..)
  ·obtain⟨k,hk,hb⟩:=List.mem_flatMap.1 hb;rcases zu.1 hb with rfl|hb
   ·omega
   ·rw[zI.1 hb];exact hj k (zg _ hk)
def Ap(a b:List Nat):Prop:=¬a<+:b/\¬b<+:a
theorem Ap.symm{a b:List Nat}(h:Ap a b):Ap b a:=⟨h.2,h.1⟩
theorem Ap.snoc{a b:List Nat}(h:Ap a b)(j:Nat):Ap a (b++[j]):=by
 refine⟨fun h1=>?_,fun h1=>?_⟩
 ·rcases List.prefix_concat_iff.1 h1 with h2|h2
  ·exact h.2 (h2▸List.prefix_append b [j])
  ·exact h.1 h2
 ·exact h.2 ((List.prefix_append b [j]).trans h1)
theorem Ap.kids(p:List Nat){i j:Nat}(h:i≠j):Ap (p++[i]) (p++[j]):=by
 have key:∀a b:Nat,p++[a]<+:p++[b]->a=b:=fun a b h1=>by have h2:=(List.prefix_append_right_inj p).1 h1;have h3:=h2.eq_of_length rfl;injection h3
 exact⟨fun h1=>h (key _ _ h1),fun h1=>h (key _ _ h1).symm⟩
structure ft (av:List cM) (ps seen:List (List Nat)):Prop where
 place:av.map (fun c=>c.1)=ps.map iE
 IU:∀p,p∈ps->∀k,k∈p->k<8
 apart:ps.Pairwise Ap
 NN:∀s,s∈seen->∀k,k∈s->k<8
 fresh:∀s,s∈seen->∀p,p∈ps->¬p<+:s
def FQ(p:List Nat)(k:Nat):List (List Nat):=(List.range k).map fun j=>p++[j]
theorem qdi{α:Type}{r:α->α->Prop}{l:List α}(h:l.Pairwise r){i j:Nat}{a b:α}(hi:l[i]?=some a)(hj:l[j]?=some b)(hc:i<j):r a b:=by obtain⟨h1,rfl⟩:=zB.1 hi;obtain⟨h2,rfl⟩:=zB.1 hj;exact List.pairwise_iff_getElem.1 h i j h1 h2 hc
theorem ft.nV{av:List cM}{ps seen:List (List Nat)}(h:ft av ps seen){i j:Nat}{a b:List Nat}(hi:ps[i]?=some a)(hj:ps[j]?=some b)(hc:i≠j):Ap a b:=by
 rcases Nat.lt_or_gt_of_ne hc with h1|h1
 ·exact qdi h.apart hi hj h1
 ·exact(qdi h.apart hj hi h1).symm
theorem qz5{α:Type}{l:List α}{i:Nat}{x:α}(h:x∈l.take i++l.drop (i+1)):∃j,j≠i/\l[j]?=some x:=by
 rcases zL.1 h with h|h
 ·obtain⟨j,hj⟩:=List.mem_iff_getElem?.1 h;rw[List.getElem?_take] at hj;by_cases h1:j<i
  ·rw[if_pos h1] at hj;exact⟨j,by omega,hj⟩
  ·rw[if_neg h1] at hj;cases hj
 ·obtain⟨j,hj⟩:=List.mem_iff_getElem?.1 h;rw[List.getElem?_drop] at hj;exact⟨_,by omega,hj⟩
theorem qz6(a:Tx)(As:List (List ND)):(sN a As).map (fun c=>c.1)=(List.range As.length).map fun j=>nj a j:=by
 unfold sN;rw[zY];refine List.ext_getElem? fun j=>?_;rw[zU,zU,List.getElem?_zipIdx];by_cases h:j<As.length
 ·rw[ze h,List.getElem?_range h];show some (nj a (0+j))=some (nj a j);rw[zN]
 ·rw[jf om,jf (by rw[List.length_range];omega)];rfl
theorem ft.under{av:List cM}{ps seen:List (List Nat)}(h:ft av ps seen){i:Nat}{p:List Nat}(hp:ps[i]?=some p)(As:List (List ND))(h8:As.length<=8)(a:Tx)(ha:a=iE p):ft (av.take i++(sN a As++av.drop (i+1))) (ps.take i++(FQ p As.length++ps.drop (i+1))) (seen++[p]):=by
 subst ha;have hf:=zj hp;have he:∀q,q∈ps.take i++(FQ p As.length++ps.drop (i+1))->(∃j,j≠i/\ps[j]?=some q)\/∃j,j<As.length/\q=p++[j]:=fun q hq=>by
  rcases zL.1 hq with hq|hq
  ·exact .inl (qz5 (List.mem_append_left _ hq))
  ·rcases zL.1 hq with hq|hq
   ·obtain⟨j,hj,rfl⟩:=zS.1 hq;exact .inr ⟨j,List.mem_range.1 hj,rfl⟩
   ·exact .inl (qz5 (List.mem_append_right _ hq))
 refine⟨?_,fun q hq k hk=>?_,?_,fun s hs k hk=>?_,fun s hs q hq h1=>?_⟩
 ·have hg:=h.place;rw[zE,zE,zE,zE,List.map_take,List.map_drop,hg,<-List.map_take,<-List.map_drop,qz6];congr 2;unfold FQ;rw[zY];refine zW fun j hj=>?_;have:=List.mem_range.1 hj;exact(qrs p om).symm
 ·rcases he q hq with ⟨j,_,hj⟩|⟨j,hj,rfl⟩
  ·exact h.IU q (zj hj) k hk
  ·rcases zL.1 hk with hk|hk
   ·exact h.IU p hf k hk
   ·rw[zI.1 hk];omega
 ·have hl:∀q,q∈ps.take i->Ap q p:=fun q hq=>by
   obtain⟨j,hj⟩:=List.mem_iff_getElem?.1 hq;rw[List.getElem?_take] at hj;by_cases h1:j<i
   ·rw[if_pos h1] at hj;exact h.nV hj hp om
   ·rw[if_neg h1] at hj;cases hj
  have hr:∀q,q∈ps.drop (i+1)->Ap p q:=fun q hq=>by obtain⟨j,hj⟩:=List.mem_iff_getElem?.1 hq;rw[List.getElem?_drop] at hj;exact h.nV hp hj om
  have hc:(ps.take i++ps.drop (i+1)).Pairwise Ap:=by
   refine h.apart.sublist ?_;have:(ps.take i++ps.drop (i+1)).Sublist (ps.take i++ps.drop i):=List.Sublist.append (List.Sublist.refl _) (by
    rw[<-List.drop_drop];exact List.drop_sublist _ _)
   rwa [List.take_append_drop] at this
  rw[List.pairwise_append] at hc ⊢;refine⟨hc.1,?_,fun x hx y hy=>?_⟩
  ·rw[List.pairwise_append];refine⟨?_,hc.2.1,fun x hx y hy=>?_⟩
   ·unfold FQ;rw[List.pairwise_map];exact List.Pairwise.imp (fun hm=>Ap.kids p (Nat.ne_of_lt hm)) List.pairwise_lt_range
   ·obtain⟨j,_,rfl⟩:=zS.1 hx;exact((hr y hy).symm.snoc j).symm
  ·rcases zL.1 hy with hy|hy
   ·obtain⟨j,_,rfl⟩:=zS.1 hy;exact(hl x hx).snoc j
   ·exact hc.2.2 x hx y hy
 ·rcases zL.1 hs with hs|hs
  ·exact h.NN s hs k hk
  ·rw[zI.1 hs] at hk;exact h.IU p hf k hk
 ·rcases zL.1 hs with hs|hs
  ·rcases he q hq with ⟨j,_,hj⟩|⟨j,_,rfl⟩
   ·exact h.fresh s hs q (zj hj) h1
   ·exact h.fresh s hs p hf ((List.prefix_append p [j]).trans h1)
  ·rw[zI.1 hs] at h1;rcases he q hq with ⟨j,hn,hj⟩|⟨j,_,rfl⟩
   ·exact(h.nV hj hp hn).1 h1
   ·have:=h1.length_le;rw[zt] at this;exact absurd this (by show ¬p.length+1<=p.length;omega)
theorem ft.cut{av:List cM}{ps seen:List (List Nat)}(h:ft av ps seen){i:Nat}{p:List Nat}(hp:ps[i]?=some p):ft (av.take i++av.drop (i+1)) (ps.take i++ps.drop (i+1)) (seen++[p]):=h.under hp [] (Nat.zero_le _) _ rfl
def F.lN:F->Bool
 |.nil=>true
 |.cons _ _ _ _ _=>false
theorem F.wb{f:F}:f.lN=decide (f.aq=0):=by
 cases f with
 |nil=>rfl
 |cons k t n ks r=>
  have h:¬(F.cons k t n ks r).aq=0:=by show ¬r.aq+1=0;omega
  rw[zm h];rfl
theorem F.qn{f:F}(h:f.lN=true):f=.nil:=by
 cases f with
 |nil=>rfl
 |cons k t n ks r=>cases h
def uS:F->Bool->List Tx->Bool
 |.nil,_,_=>true
 |.cons k t _ ks r,odd,seen=>(bif odd||r.lN then(bif af k 63 then !(seen.contains t)&&uS ks false (seen++[t]) else true) else true)&&uS r (!odd) seen
def NO(k:Int)(t:Tx)(ks:F)(seen:List Tx):Bool:=bif af k 63 then !(seen.contains t)&&uS ks false (seen++[t]) else true
theorem QO(k:Int)(t:Tx)(n:Int)(ks r:F)(odd:Bool)(seen:List Tx):uS (.cons k t n ks r) odd seen=((bif odd||r.lN then NO k t ks seen else true)&&uS r (!odd) seen):=rfl
theorem Kv(k:Int)(t:Tx)(n:Int)(ks:F)(odd:Bool)(seen:List Tx):uS (tr k t n ks) odd seen=NO k t ks seen:=by
 rw[QO];have e:(odd||F.nil.lN)=true:=by cases odd<;>rfl
 rw[e,cond_true];show(_&&true)=_;rw[Bool.and_true]
theorem z2b(b:Bool)(l:List Tx)(t:Tx)(hl:l.length<=1000000):xi (⟨b,l⟩,t,())=some (l.contains t,()):=by
 rw[WL];have e:=kN vQ (fun k=>(⟨b,l⟩,t,k,())) l hl (fun _ x=>bif x==t then some (true,()) else none) (false,()) ?_ ?_
 ·rw[e,xR];have:(l.any fun x=>x==t)=l.contains t:=List.any_beq';rw[this];cases l.contains t<;>rfl
 ·intro k x hx hk;have hb:aM x t=(x==t):=by unfold aM;by_cases h:x=t<;>simp[h]
  unfold vQ;simp only[cJ hx,aG,aQ hx,aj,hb,aI (show k<=1000000000 by omega)];cases (x==t)<;>rfl
 ·unfold vQ;simp only[dB,aD]
theorem z2c{α:Type}{l:List α}{i:Nat}{x:α}{r:List α}(h:l.drop i=x::r):l[i]?=some x/\l.drop (i+1)=r:=by
 constructor
 ·have:(l.drop i)[0]?=some x:=by rw[h];rfl
  rwa [List.getElem?_drop,Nat.add_zero] at this
 ·rw[<-List.drop_drop,h];rfl
theorem qpf(a b:Int):af a b=decide (a=b):=rfl
theorem z60(i:Nat):af ((i:Int) % 2) 0=!af ((i:Int) % 2) 1:=by
 rw[qpf,qpf];by_cases h:(i:Int) % 2=1
 ·rw[zn h,zm om];rfl
 ·rw[zm h,zn om];rfl
theorem z7q(b:Bool)(l:List ND)(hl:l.length<=10000):∀(M:Nat) (q:Nat) (k:Int) (t:Tx) (n:Int) (ks:F),ks.size+1<=M->cg l q (tr k t n ks)->∀N,M<=N->∀(sb:Bool) (seen:List Tx),seen.length+M<=100000->aU qf N (⟨b,l⟩,(q:Int),⟨sb,seen⟩,())=some (uS (tr k t n ks) true seen,()):=by
 intro M
 induction M with
 |zero=>intro q k t n ks h;omega
 |succ M ih=>
  intro q k t n ks hM hs N hN sb seen hz;cases N with
  |zero=>omega
  |succ N=>
   have hf:=hs.node;have h0:aE l (q:Int)=some (k,t,n,(ks.aq:Int)):=aQ hf.1;have ht:=IK b l hl hs;have hB:=z2b sb seen t om;have hC:=F.cq ks;have hE:=hf.2.2.2;show qf (aU qf N) _=_;rw[WM,Kv];unfold NO;simp only[h0,aj];cases hk:af k 63 with
   |false=>simp only[nF,aG,cond_false]
   |true=>
    simp only[nT,aD,hB,aj,cond_true];cases hc:seen.contains t with
    |true=>rfl
    |false=>
     have f1:fit (aT (aa ([]:List Tx)) (aa seen))=some ():=iA (by show 0+seen.length<=_;omega);have f2:fit (aT (aa (app ([]:List Tx) seen)) (aa [t]))=some ():=iA (by show seen.length+1<=_;omega);simp only[aD,f1,f2,aj,ht,Bool.not_false,Bool.true_and];have loop:∀(g:F) (w i:Nat),cg l w g->i+g.aq=ks.aq->(ks.pos (q+1)).drop i=g.pos w->g.size<=M->
       aH (lY (aU qf N)) (⟨b,l⟩,⟨false,ks.pos (q+1)⟩,(i:Int),⟨false,seen++[t]⟩,())=some (uS g (af ((i:Int) % 2) 1) (seen++[t]),()):=by
      intro g
      induction g with
      |nil=>intro w i _ hi _ _;have hi:i+0=ks.aq:=hi;have hu:aA (i:Int) (aa (ks.pos (q+1)))=false:=zm (by unfold aa;rw[F.dG];omega);refine dO ?_;unfold lY;simp only[hu,aD];rfl
      |cons k' t' n' ks' r' _ NP=>
       intro w i hw hi hd hA;have hi:i+(r'.aq+1)=ks.aq:=hi;have hd:(ks.pos (q+1)).drop i=(w:Int)::r'.pos (w+1+ks'.size):=hd;have hA:ks'.size+r'.size+1<=M:=hA;obtain⟨d1,d2⟩:=z2c hd;have hv:aA (i:Int) (ks.aq:Int)=true:=zn om;have hn:aa (ks.pos (q+1))=(ks.aq:Int):=by unfold aa;rw[F.dG]
       have he:=ih w k' t' n' ks' om hw.first N om false (seen++[t]) (by rw[zt];simp;omega);have hg:=NP (w+1+ks'.size) (i+1) hw.node.2.2.1 om d2 om;have hq:eO (i:Int) 2=some ((i:Int) % 2):=Fu om dc;have hj:af (i:Int) (cu .i64 (ks.aq:Int) 1)=r'.lN:=by
        rw[qu om om,F.wb,qpf];by_cases h:r'.aq=0
        ·rw[zn h,zn om]
        ·rw[zm h,zm om]
       rw[Qt] at hg;rw[QO];rw[Kv] at he;have hx:ak (af ((i:Int) % 2) 1) (some true) (some r'.lN)=some (af ((i:Int) % 2) 1||r'.lN):=by cases af ((i:Int) % 2) 1<;>rfl
       cases hy:(af ((i:Int) % 2) 1||r'.lN) with
       |false=>
        have hm:lY (aU qf N) (⟨b,l⟩,⟨false,ks.pos (q+1)⟩,(i:Int),⟨false,seen++[t]⟩,())=some (.inl (⟨b,l⟩,⟨false,ks.pos (q+1)⟩,((i+1:Nat):Int),⟨false,seen++[t]⟩,())):=by unfold lY;simp only[hv,aG,hq,aj,hn,hj,hx,hy,aD,aI (show i<=1000000000 by omega)]
        rw[fE hm,hg];rfl
       |true=>
        cases ho:NO k' t' ks' (seen++[t]) with
        |false=>rw[ho] at he;refine dO ?_;unfold lY;simp only[hv,aG,hq,aj,hn,hj,hx,hy,aQ d1,he,nF];rfl
        |true=>
         rw[ho] at he;have hm:lY (aU qf N) (⟨b,l⟩,⟨false,ks.pos (q+1)⟩,(i:Int),⟨false,seen++[t]⟩,())=some (.inl (⟨b,l⟩,⟨false,ks.pos (q+1)⟩,((i+1:Nat):Int),⟨false,seen++[t]⟩,())):=by unfold lY;simp only[hv,aG,hq,aj,hn,hj,hx,hy,aQ d1,he,nT,aD,aI (show i<=1000000000 by omega)]
         rw[fE hm,hg];rfl
     have:=loop ks (q+1) 0 hf.2.1 om rfl om;exact this
theorem qz8(b:Bool)(T:F)(hT:T.aq=1)(hs:T.size<=4000):GO (⟨b,T.flat⟩,0,⟨true,[]⟩,())=some (uS T true [],()):=by obtain⟨k,t,n,ks,rfl⟩:=oi T hT;have hs:ks.size+0+1<=4000:=hs;exact tG (ks.size+1) fun N hN=>z7q b _ (by rw[kO];omega) (ks.size+1) 0 k t n ks (Nat.le_refl _) (Cf k t n ks) N hN true [] (by show 0+_<=_;omega)
def iX(k:Int)(t:Tx)(n:Int):Bool:=(af k 23&&aM t [])||(af k 24&&(af n 0&&eJ t))
def wc:F->Bool->Bool
 |.nil,_=>true
 |.cons k t n ks r,odd=>(bif odd||r.lN then(bif af k 61 then bf 0 n&&(aM t []&&ks.lN) else bif af k 62 then af n 0&&(aM t []&&ks.lN) else af k 63&&(af n 0&&((qv t).2.1&&(af ((ks.aq:Int) % 2) 1&&wc ks false)))) else iX k t n&&ks.lN)&&wc r (!odd)
def NQ(k:Int)(t:Tx)(n:Int)(ks:F):Bool:=bif af k 61 then bf 0 n&&(aM t []&&ks.lN) else bif af k 62 then af n 0&&(aM t []&&ks.lN) else af k 63&&(af n 0&&((qv t).2.1&&(af ((ks.aq:Int) % 2) 1&&wc ks false)))
theorem QP(k:Int)(t:Tx)(n:Int)(ks r:F)(odd:Bool):wc (.cons k t n ks r) odd=((bif odd||r.lN then NQ k t n ks else iX k t n&&ks.lN)&&wc r (!odd)):=rfl
theorem Kw(k:Int)(t:Tx)(n:Int)(ks:F)(odd:Bool):wc (tr k t n ks) odd=NQ k t n ks:=by
 rw[QP];have e:(odd||F.nil.lN)=true:=by cases odd<;>rfl
 rw[e,cond_true];show(_&&true)=_;rw[Bool.and_true]
theorem qn1(a:Int):af a a=true:=zn rfl
theorem z7r(b:Bool)(l:List ND)(hl:l.length<=10000)(hg:GL l):∀(M:Nat) (q:Nat) (k:Int) (t:Tx) (n:Int) (ks:F),ks.size+1<=M->cg l q (tr k t n ks)->NQ k t n ks=true->∀N,M<=N->aU nJ N (⟨b,l⟩,(q:Int),())=some (((q+1+ks.size:Nat):Int),true,()):=by
 intro M
 induction M with
 |zero=>intro q k t n ks h;omega
 |succ M ih=>
  intro q k t n ks hM hs hk N hN;cases N with
  |zero=>omega
  |succ N=>
   have he:=hs.node;have h0:aE l (q:Int)=some (k,t,n,(ks.aq:Int)):=aQ he.1;have hL:=hg.at he.1;have hO:t.length<=1000000:=hL.2.1;have hP:=F.cq ks;have hU:=he.2.2.2;have hQ:mU (t,())=some (qv t):=by unfold mU;show(bif decide (t.length<=1000000) then some (qv t) else none)=_;rw[zn hO,cond_true]
   have hR:au .i64 (q:Int) 1=((q+1:Nat):Int):=aI om;show nJ (aU nJ N) _=_;rw[V0];simp only[h0,aj,hQ,hR];unfold NQ at hk;cases hH:af k 61 with
   |true=>rw[hH,cond_true,zd,zd] at hk;obtain⟨c1,c2,c3⟩:=hk;obtain rfl:=F.qn c3;have e:af ((F.nil.aq:Nat):Int) 0=true:=id (Eq.refl _);simp only[aG,c1,c2,e];rfl
   |false=>
    rw[hH,cond_false] at hk;cases hI:af k 62 with
    |true=>rw[hI,cond_true,zd,zd] at hk;obtain⟨c1,c2,c3⟩:=hk;obtain rfl:=F.qn c3;have e:af ((F.nil.aq:Nat):Int) 0=true:=id (Eq.refl _);simp only[aG,aD,c1,c2,e];rfl
    |false=>
     rw[hI,cond_false,zd,zd,zd,zd] at hk;obtain⟨hS,c1,c2,c3,c4⟩:=hk;have hB:eO (ks.aq:Int) 2=some ((ks.aq:Int) % 2):=Fu om dc;simp only[aG,aD,hS,c1,c2,aj,hB,c3];have loop:∀(g:F) (w i:Nat),cg l w g->i+g.aq=ks.aq->wc g (af ((i:Int) % 2) 1)=true->g.size<=M->w<=l.length->
       aH (lU (aU nJ N)) (⟨b,l⟩,(w:Int),true,(i:Int),k,t,n,(ks.aq:Int),())=some (((w+g.size:Nat):Int),true,()):=by
      intro g
      induction g with
      |nil=>intro w i _ hi _ _ _;have hi:i+0=ks.aq:=hi;have hC:aA (i:Int) (ks.aq:Int)=false:=zm om;refine dO ?_;unfold lU;simp only[aG,hC,aj,aD];rfl
      |cons k' t' n' ks' r' _ NP=>
       intro w i hw hi hc hJ hV;have hi:i+(r'.aq+1)=ks.aq:=hi;have hJ:ks'.size+r'.size+1<=M:=hJ;have hy:=hw.node;have hE:=aQ hy.1;have hK:aA (i:Int) (ks.aq:Int)=true:=zn om;have hm:eO (i:Int) 2=some ((i:Int) % 2):=Fu om dc;have hq:cu .i64 (ks.aq:Int) 1=(ks.aq:Int)-1:=qu om om;have hu:aA (i:Int) ((ks.aq:Int)-1)=!r'.lN:=by
        rw[F.wb];by_cases h:r'.aq=0
        ·rw[zn h];exact zm om
        ·rw[zm h];exact zn om
       have hv:ak (af ((i:Int) % 2) 0) (some (aA (i:Int) ((ks.aq:Int)-1))) (some false)=some (!(af ((i:Int) % 2) 1||r'.lN)):=by rw[z60,hu];cases af ((i:Int) % 2) 1<;>cases r'.lN<;>rfl
       rw[QP,zd] at hc;obtain⟨hz,hT⟩:=hc;have hn:∀w2:Nat,w2=w+1+ks'.size->aH (lU (aU nJ N)) (⟨b,l⟩,(w2:Int),true,((i+1:Nat):Int),k,t,n,(ks.aq:Int),())=some (((w+(ks'.size+r'.size+1):Nat):Int),true,()):=by rintro _ rfl;have:=NP (w+1+ks'.size) (i+1) hy.2.2.1 om (by rw[Qt];exact hT) om (by have:=hy.2.2.2;omega);rw[this];congr 2;omega
       cases hA:(af ((i:Int) % 2) 1||r'.lN) with
       |true=>
        rw[hA,cond_true] at hz;have hx:=ih w k' t' n' ks' om hw.first hz N om;have hf:lU (aU nJ N) (⟨b,l⟩,(w:Int),true,(i:Int),k,t,n,(ks.aq:Int),())=some (.inl (⟨b,l⟩,((w+1+ks'.size:Nat):Int),true,((i+1:Nat):Int),k,t,n,(ks.aq:Int),())):=by unfold lU;simp only[aG,hK,aj,hm,hq,hv,hA,Bool.not_true,aD,hx,aI (show i<=1000000000 by omega)]
        rw[fE hf];exact hn _ rfl
       |false=>
        rw[hA,cond_false,zd] at hz;obtain⟨hj,hF⟩:=hz;obtain rfl:=F.qn hF;have hG:=Zj (hg.at hy.1).1;have e0:af ((F.nil.aq:Nat):Int) 0=true:=id (Eq.refl _);have ho:ak (aR (af k' 23) (aR (aM t' []) (aR (af n' n') (af ((F.nil.aq:Nat):Int) 0)))) (some true) (ak (aR (af k' 24) (aR (aM t' t') (aR (af n' 0) (af ((F.nil.aq:Nat):Int) 0)))) (ag (mN (t',())) (fun Nd=>some Nd.1)) (some false))=some true:=by have ht:aM t' t'=true:=bU.2 rfl;rw[hG,aj,e0,ht,qn1];unfold iX at hj;revert hj;cases af k' 23<;>cases aM t' []<;>cases af k' 24<;>cases af n' 0<;>cases eJ t'<;>intro hj<;>first|rfl|cases hj
        have hf:lU (aU nJ N) (⟨b,l⟩,(w:Int),true,(i:Int),k,t,n,(ks.aq:Int),())=some (.inl (⟨b,l⟩,((w+1:Nat):Int),true,((i+1:Nat):Int),k,t,n,(ks.aq:Int),())):=by unfold lU;simp only[aG,hK,aj,hm,hq,hv,hA,Bool.not_false,hE,ho,aI (show i<=1000000000 by omega),aI (show w<=1000000000 by omega)]
        rw[fE hf];exact hn _ rfl
     have:=loop ks (q+1) 0 he.2.1 om c4 om om;exact this
theorem qg9(b:Bool)(T:F)(hT:T.aq=1)(hs:T.size<=4000)(hg:GL T.flat)(hc:wc T true=true):oJ (⟨b,T.flat⟩,())=some (0,()):=by obtain⟨k,t,n,ks,rfl⟩:=oi T hT;have hs:ks.size+0+1<=4000:=hs;rw[Kw] at hc;have he:=kO k t n ks;have hw:=Kl b (tr k t n ks).flat om;rw[(ED _).2 ⟨k,t,n,ks,rfl⟩] at hw;have hp:DQ (⟨b,(tr k t n ks).flat⟩,0,())=some (((0+1+ks.size:Nat):Int),true,()):=tG (ks.size+1) fun N hN=>z7r b _ om hg (ks.size+1) 0 k t n ks (Nat.le_refl _) (Cf k t n ks) hc N hN;have h4:aA 4000 (aa (tr k t n ks).flat)=false:=zm (by unfold aa;omega);rw[V1];simp only[h4,aD,hw,aj,nT,hp]
def sO(r:aY):Prop:=(0<=r.2/\r.2<=1000)/\∀p,p∈r.1->GL p.flat
theorem qk7{r:aY}(h:sO r)(i:Nat){q:List F}(hq:∀p,p∈q->GL p.flat):sO (mW r i q):=by
 refine⟨h.1,fun p hp=>?_⟩;have hp:p∈r.1.take i++(q++r.1.drop (i+1)):=hp;rcases zL.1 hp with hp|hp
 ·exact h.2 p (List.mem_of_mem_take hp)
 ·rcases zL.1 hp with hp|hp
  ·exact hq p hp
  ·exact h.2 p (List.mem_of_mem_drop hp)
theorem z2d{p:F}(h:GL p.flat):∀q,q∈fq p->GL q.flat:=by
 cases p with
 |nil=>intro q hq;cases hq
 |cons k t n ks r=>intro q hq x hx;refine h x ?_;show x∈(k,t,n,(ks.aq:Int))::(ks.flat++r.flat);refine zg _ (List.mem_append_left _ ?_);rw[<-F.dF,<-F.bQ];exact List.mem_flatten.2 ⟨q.flat,zS.2 ⟨q,hq,rfl⟩,hx⟩
theorem qub{i:Nat}{n:bV}{k:Nat}{r r':aY}(hi:i<r.1.length)(h:sO r)(e:jO i n k r=some r'):sO r':=by
 unfold jO at e;cases hw:dS (atR r i) with
 |true=>rw[hw,cond_true] at e;injection e with e;subst e;exact qk7 h i fun p hp=>by rw[(List.mem_replicate.1 hp).2];exact uP
 |false=>
  rw[hw,cond_false] at e;cases hl:(cZ (atR r i)==n) with
  |false=>rw[hl] at e;cases e
  |true=>rw[hl,cond_true] at e;injection e with e;subst e;exact qk7 h i (z2d (h.2 _ (NH hi)))
theorem z2e{i:Nat}{r r':aY}(h:sO r)(e:dW i r=some r'):sO r':=by
 unfold dW at e;cases hw:dS (atR r i) with
 |false=>rw[hw] at e;cases e
 |true=>rw[hw,cond_true] at e;injection e with e;subst e;exact qk7 h i fun p hp=>by cases hp
theorem qcw(i:Nat):∀(rows:List aY) (acc:List bV) (n:bV),n∈fN i rows acc->n∈acc\/∃r,r∈rows/\dS (atR r i)=false/\cZ (atR r i)=n
 |[],acc,n,h=>.inl h
 |r::rs,acc,n,h=>by
  have h:n∈fN i rs (bif dS (atR r i)||acc.contains (cZ (atR r i)) then acc else acc++[cZ (atR r i)]):=h;rcases qcw i rs _ n h with h|⟨r',h1,h2⟩
  ·cases hw:dS (atR r i) with
   |true=>rw[hw] at h;exact .inl h
   |false=>
    rw[hw,Bool.false_or] at h;cases hc:acc.contains (cZ (atR r i)) with
    |true=>rw[hc] at h;exact .inl h
    |false=>
     rw[hc,cond_false] at h;rcases zL.1 h with h|h
     ·exact .inl h
     ·exact .inr ⟨r,zf ..,hw,(zI.1 h).symm⟩
  ·exact .inr ⟨r',zg _ h1,h2⟩
theorem QQ{p:F}(h:oW p)(hw:dS p=false):iX (cZ p).1 (cZ p).2.1 (cZ p).2.2=true:=by
 obtain⟨k,t,n,ks,rfl,he⟩:=h;have hk:=QG he hw;show iX k t n=true;unfold iX;rcases hk with ⟨rfl,rfl,_⟩|rfl
 ·rfl
 ·obtain⟨_,_,_,h4,h5,_⟩:=eF.1 (fF.1 he).1;have h4:af n 0=true:=h4;have h5:(true&&aw (af (fZ 24) 1&&aw (bK t))&&aw (af (fZ 24) 2&&aw (eJ t)))=true:=h5;have e1:af (fZ 24) 1=false:=id (Eq.refl _);have e2:af (fZ 24) 2=true:=id (Eq.refl _);have e3:af (24:Int) 23=false:=id (Eq.refl _);rw[e1,e2] at h5;have h6:eJ t=true:=by
   cases hc:eJ t with
   |true=>rfl
   |false=>rw[hc] at h5;cases h5
  rw[e3,qn1,h4,h6];rfl
def Good(T:F)(S:List Tx):Prop:=wc T true=true/\uS T true S=true/\GL T.flat
theorem qn2(sub:bV->F)(S:List Tx)(TL:F)(hc:TL.aq=1)(hG:Good TL S):∀ls:List bV,(∀n,n∈ls->(sub n).aq=1/\Good (sub n) S/\iX n.1 n.2.1 n.2.2=true/\IL (dP n))->wc ((dT sub ls).app TL) false=true/\uS ((dT sub ls).app TL) false S=true/\GL ((dT sub ls).app TL).flat
 |[],_=>by obtain⟨k,t,n,ks,rfl⟩:=oi TL hc;obtain⟨g1,g2,g3⟩:=hG;rw[Kw] at g1;rw[Kv] at g2;exact⟨by show wc (tr k t n ks) false=true;rw[Kw];exact g1,by show uS (tr k t n ks) false S=true;rw[Kv];exact g2,g3⟩
 |n::ls,h=>by
  obtain⟨i1,i2,i3⟩:=qn2 sub S TL hc hG ls fun m hm=>h m (zg _ hm);obtain⟨c1,⟨g1,g2,g3⟩,l1,l2⟩:=h n (zf ..);obtain⟨k,t,m,ks,e⟩:=oi (sub n) c1;have hk:(dT sub (n::ls)).app TL=.cons n.1 n.2.1 n.2.2 .nil (.cons k t m ks ((dT sub ls).app TL)):=by show((tr n.1 n.2.1 n.2.2 .nil).app ((sub n).app (dT sub ls))).app TL=_;rw[e];rfl
  rw[e,Kw] at g1;rw[e,Kv] at g2;rw[hk];refine⟨?_,?_,?_⟩
  ·rw[QP];show((iX n.1 n.2.1 n.2.2&&true)&&wc (.cons k t m ks ((dT sub ls).app TL)) true)=true;rw[QP,l1];show((true&&true)&&(NQ k t m ks&&wc ((dT sub ls).app TL) false))=true;rw[g1,i1];rfl
  ·rw[QO];show(true&&uS (.cons k t m ks ((dT sub ls).app TL)) true S)=true;rw[QO];show(true&&(NO k t ks S&&uS ((dT sub ls).app TL) false S))=true;rw[g2,i2];rfl
  ·rw[e] at g3;intro x hx;have hx:x∈(n.1,n.2.1,n.2.2,(0:Int))::(k,t,m,(ks.aq:Int))::(ks.flat++((dT sub ls).app TL).flat):=hx;rcases zu.1 hx with rfl|hx
   ·exact l2
   ·rcases zu.1 hx with rfl|hx
    ·exact g3 _ (by rw[qg];exact zf ..)
    ·rcases zL.1 hx with hx|hx
     ·exact g3 _ (by rw[qg];exact zg _ hx)
     ·exact i3 _ hx
theorem qn3{L:List DD}{m:Nat}{av:List cM}{r0:aY}{rs:List aY}{i:Nat}(hf:r0.1.findIdx? (fun p=>!dS p)=some i){c:cM}(hc:av[i]?=some c):cF L (m+1) av (r0::rs)=tr 63 c.1 0 ((dT (fun n=>cF L m (av.take i++(kP L c n++av.drop (i+1))) ((r0::rs).filterMap (jO i n (kP L c n).length))) (fN i (r0::rs) [])).app (bif Nat.beq (fN i (r0::rs) []).length (dZ L c.2) then tr 62 [] 0 .nil else cF L m (av.take i++av.drop (i+1)) ((r0::rs).filterMap (dW i)))):=by
 have he:av.getD i ([],[])=c:=by rw[List.getD_eq_getElem?_getD,hc];rfl
 show(match r0.1.findIdx? (fun p=>!dS p) with|none=>_|some i=>_)=_;rw[hf];simp only[he]
theorem qn4{L:List DD}{m:Nat}{av:List cM}{r0:aY}{rs:List aY}(hf:r0.1.findIdx? (fun p=>!dS p)=none):cF L (m+1) av (r0::rs)=tr 61 [] r0.2 .nil:=by show(match r0.1.findIdx? (fun p=>!dS p) with|none=>_|some i=>_)=_;rw[hf]
theorem qi8{av:List cM}{r0:aY}{i:Nat}(hl:r0.1.length=av.length)(hf:r0.1.findIdx? (fun p=>!dS p)=some i):i<av.length/\i<r0.1.length/\dS (atR r0 i)=false:=by
 obtain⟨hc,he,_⟩:=List.findIdx?_eq_some_iff_getElem.1 hf;refine⟨by omega,hc,?_⟩;have e:atR r0 i=r0.1[i]:=by unfold atR;rw[List.getD_eq_getElem?_getD,ze hc];rfl
 rw[e];simpa using he
theorem qz9(S:List Tx):Good (tr 62 [] 0 .nil) S:=⟨rfl,rfl,fun x hx=>by rw[zI.1 hx];exact⟨fun b hb=>(by cases hb),Nat.zero_le _,(uP _ (zI.2 rfl)).2.2⟩⟩
theorem z2f(L:List DD)(hL:GD L)(hF:L.all iU=true):∀(m:Nat) (av:List cM) (R:List aY) (ps seen:List (List Nat)),Inv L av R->mu R<m->ft av ps seen->(∀r,r∈R->sO r)->Good (cF L m av R) (seen.map iE):=by
 intro m
 induction m with
 |zero=>intro av R ps seen _ h;omega
 |succ m ih=>
  intro av R ps seen he hK hp hG;cases R with
  |nil=>exact qz9 _
  |cons r0 rs=>
   have hj:r0∈r0::rs:=zf ..;have hv:=he.row r0 hj;cases hf:r0.1.findIdx? (fun p=>!dS p) with
   |none=>
    rw[qn4 hf];have hg:=(hG r0 hj).1;refine⟨?_,rfl,fun x hx=>?_⟩
    ·rw[Kw];show(bf 0 r0.2&&true)=true;rw[show bf 0 r0.2=true from zn hg.1];rfl
    ·rw[zI.1 hx];exact⟨fun b hb=>(by cases hb),Nat.zero_le _,by show -9223372036854775808<=r0.2/\r0.2<=9223372036854775807;omega⟩
   |some i=>
    obtain⟨hi,hI,hw⟩:=qi8 hv.1 hf;have hc:av[i]?=some av[i]:=ze hi;generalize av[i]=c at hc;obtain⟨a,T⟩:=c;rw[qn3 hf hc];have hy:1<=m:=by have:=NI (r:=r0) (i:=i) hI (he.jP hj) hw;have:mu (r0::rs)=pG r0+mu rs:=rfl;omega
    obtain⟨p,hz,hm⟩:∃p,ps[i]?=some p/\a=iE p:=by
     have e:(ps.map iE)[i]?=some a:=by rw[<-hp.place,zU,hc];rfl
     rw[zU] at e;cases h:ps[i]? with
     |none=>rw[h] at e;cases e
     |some p=>rw[h] at e;injection e with e;exact⟨p,rfl,e.symm⟩
    have hu:=zj hz;have hS:seen.map iE++[a]=(seen++[p]).map iE:=by rw[zE,hm];rfl
    have ho:(seen.map iE).contains a=false:=by
     cases h:(seen.map iE).contains a with
     |false=>rfl
     |true=>obtain⟨s,hs,e⟩:=zS.1 (List.contains_iff_mem.1 h);rw[hm] at e;have:=z5z (hp.NN s hs) (hp.IU p hu) e;exact absurd (this▸List.prefix_refl p) (hp.fresh s hs p hu)
    have hk:∀r,r∈r0::rs->i<r.1.length:=fun r hr=>by rw[(he.row r hr).1];exact hi
    have hA:∀n:bV,Good (cF L m (av.take i++(kP L (a,T) n++av.drop (i+1))) ((r0::rs).filterMap (jO i n (kP L (a,T) n).length))) (seen.map iE++[a]):=fun n=>by have h8:=(QI hL hF he.FP hc n).1;rw[hS];refine ih _ _ _ _ (qg8 hL hF he hc n hj hw) (by have:=QJ he hi n (kP L (a,T) n).length hj hw;omega) (by rw[EL,FO] at h8;exact hp.under hz ((iC L T n.2.1).getD []) h8 a hm) fun r' hB=>?_;obtain⟨r,h1,h2⟩:=jA.1 hB;exact qub (hk r h1) (hG r h1) h2
    have hC:Good (cF L m (av.take i++av.drop (i+1)) ((r0::rs).filterMap (dW i))) (seen.map iE++[a]):=by rw[hS];refine ih _ _ _ _ (qpb he hi hj hw) (by have:=QK he hi hj hw;omega) (hp.cut hz) fun r' hB=>?_;obtain⟨r,h1,h2⟩:=jA.1 hB;exact z2e (hG r h1) h2
    have hJ:∀b:Bool,(bif b then tr 62 [] 0 .nil else cF L m (av.take i++av.drop (i+1)) ((r0::rs).filterMap (dW i))).aq=1/\Good (bif b then tr 62 [] 0 .nil else cF L m (av.take i++av.drop (i+1)) ((r0::rs).filterMap (dW i))) (seen.map iE++[a]):=fun b=>by
     cases b with
     |true=>exact⟨rfl,qz9 _⟩
     |false=>exact⟨EM L m _ _ hy,hC⟩
    obtain⟨t1,t2⟩:=hJ (Nat.beq (fN i (r0::rs) []).length (dZ L (a,T).2));obtain⟨q1,q2,q3⟩:=qn2 _ _ _ t1 t2 (fN i (r0::rs) []) fun n hn=>⟨EM L m _ _ hy,hA n,by
     rcases qcw i _ _ n hn with h|⟨r,h1,h2,h3⟩
     ·cases h
     ·have hq:=he.row r h1;have hH:=hq.2 i _ _ (NL (hk r h1)) hc;have ht:=(hG r h1).2 _ (NH (hk r h1));refine⟨by rw[<-h3];exact QQ hH.1 h2,?_⟩;rw[<-h3];obtain⟨k',t',n',ks',e⟩:=oi _ (NK hH.1);rw[e] at ht ⊢;exact ht (k',t',n',(ks'.aq:Int)) (by rw[qg];exact zf ..)⟩
    have hE:((((dT (fun n=>cF L m (av.take i++(kP L (a,T) n++av.drop (i+1))) ((r0::rs).filterMap (jO i n (kP L (a,T) n).length))) (fN i (r0::rs) [])).app (bif Nat.beq (fN i (r0::rs) []).length (dZ L (a,T).2) then tr 62 [] 0 .nil else cF L m (av.take i++av.drop (i+1)) ((r0::rs).filterMap (dW i)))).aq:Int) % 2)=1:=by rw[F.fj,t1,QM _ (fun n=>EM L m _ _ hy)];omega
    refine⟨?_,?_,?_⟩
    ·rw[Kw];have hl:(qv a).2.1=true:=by obtain⟨nb,e⟩:=QN p (hp.IU p hu);rw[hm,e]
     show(af 63 63&&(af 0 0&&((qv a).2.1&&(af _ 1&&wc _ false))))=true;rw[q1,hl,hE];rfl
    ·rw[Kv];show(!((seen.map iE).contains a)&&uS _ false (seen.map iE++[a]))=true;rw[ho,q2];rfl
    ·rw[qg];intro x hx;rcases zu.1 hx with rfl|hx
     ·refine⟨by rw[hm];exact z2a p (hp.IU p hu),?_,(uP _ (zI.2 rfl)).2.2⟩;have:=he.place _ (zj hc);have this:a.length+30*mu (r0::rs)<=90000:=this;show a.length<=1000000;omega
     ·exact q3 x hx
theorem z7s(T:List ND):ft [([],T)] [[]] []:=⟨rfl,fun p hp k hk=>(by rw[zI.1 hp] at hk;cases hk),List.pairwise_singleton _ _,fun s hs=>(by cases hs),fun s hs=>(by cases hs)⟩
theorem z8l{fs:List F}(h6:fs.length<=8)(hg:∀f,f∈fs->GL f.flat):∀r,r∈jJ fs->sO r:=fun r hr=>by
 obtain⟨e,he,rfl⟩:=zS.1 hr;obtain⟨j,hj⟩:=List.mem_iff_getElem?.1 he;rw[List.getElem?_zipIdx] at hj;cases hx:fs[j]? with
 |none=>rw[hx] at hj;cases hj
 |some x=>rw[hx] at hj;injection hj with hj;subst hj;have hc:=(zB.1 hx).1;refine⟨by show(0:Int)<=((0+j:Nat):Int)/\((0+j:Nat):Int)<=1000;omega,fun p hp=>?_⟩;rw[zI.1 hp];exact hg x (zj hx)
theorem qi9{L:List DD}(hL:GD L)(hk:qD L=true){T:List ND}(hT:pH T){P:List SN}{fs:List F}(hP:P.map Sl.l=fs.map F.flat)(h6:P.length<=6)(hg:∀p,p∈P->GL p.l)(hf:∀f,f∈fs->uQ L f T/\f.size<=30):Good (cF L 1000 [([],T)] (jJ fs)) []:=by have hl:=xS hP;obtain⟨hc,hm⟩:=IT L T hT fs om hf;refine z2f L hL (Ku hk).1 1000 [([],T)] (jJ fs) [[]] [] hc hm (z7s T) (z8l om fun f hn=>?_);obtain⟨j,hj⟩:=List.mem_iff_getElem?.1 hn;obtain⟨x,ho,he⟩:=Cl hP hj;have he:x.l=f.flat:=he;rw[<-he];exact hg x (zj ho)
theorem BD(b0 b1 b2:Bool)(L:List DD)(T:List ND)(P:List SN)(gd:BB L)(gT:gL T)(gP:∀p,p∈P->gL p.l)(hP:P.length<=9223372036854775807):cA (⟨b0,L⟩,⟨b1,T⟩,⟨b2,P⟩,())=some (true,()):=by
 obtain⟨c,hc,hb⟩:=z3i ⟨b0,L⟩ gd ⟨b1,T⟩ ⟨b2,P⟩ hP;rw[qb3,YP];simp only[aj,nT,aD,hc];cases c with
 |false=>rfl
 |true=>
  obtain⟨hL,fT,h6,fP⟩:=hb rfl;have hL:GD L:=hL;have fT:gI 30 T:=fT;have h6:P.length<=6:=h6;have fP:∀p,p∈P->gI 30 p.l:=fP;have lT:=fT.1;have hm:=IS gT fT;have o1:=EJ b1 T om;have hf:=NF L hL.1;have e0:(⟨aR false (dI L),app ([]:List DD) L⟩:Sl DD)=⟨false,L⟩:=rfl;have he:=qmz ⟨b2,P⟩ (by show P.length<=_;omega) (fun x hx=>by have:=(fP x hx).1;omega);have he:GK (⟨b2,P⟩,())=some (⟨false,P.map fun x=>(⟨false,x.l⟩:SN)⟩,()):=he;have hg:=qn0 L hL T om hm (P.map fun x=>(⟨false,x.l⟩:SN)) (by rw[zA];exact h6) (qk5 fP gP) false false false;have IV:af (120:Int) 0=false:=id (Eq.refl _);have z131:af (131:Int) 0=false:=id (Eq.refl _);have z0:af (0:Int) 0=true:=id (Eq.refl _);simp only[nT,aD,hf,aj,o1,he,e0];rcases hg with ⟨h1,h2⟩|⟨h1,hn,hk,fs,f1,f2,h2⟩
  ·simp only[h2,aj,IV,nF,aG];rfl
  ·rw[h2];by_cases hs:(cF L 1000 [([],T)] (jJ fs)).size<=4000
   ·obtain⟨g1,g2,g3⟩:=qi9 hL hn hk f1 (by rw[zA];exact h6) (fun p hp=>(qk5 fP gP p hp).2) f2;have hj:=EM L 1000 [([],T)] (jJ fs) om;have o2:=EJ false (cF L 1000 [([],T)] (jJ fs)).flat (by rw[F.len];omega);have ho:=qg9 false _ hj hs g3 g1;have hl:=qz8 false _ hj hs;rw[g2] at hl;rw[if_pos hs];simp only[aj,z0,nT,aD,o2,ho,aG,hl]
   ·rw[if_neg hs];simp only[aj,z131,nF,aG];rfl
theorem qia(b:Bool)(p v:List ND)(hp:p.length<=4000)(gp:GL p)(hv:v.length<=4000)(gv:GL v)(h:¬(Z1 p/\pF v=true)):nK (⟨b,p⟩,⟨false,v⟩,())=some (⟨true,[]⟩,false,()):=by
 obtain⟨e,e1,_,e3⟩:=qrj p hp gp;have hc:=ZZ false v om gv;rw[Mw,e1,aj];by_cases he:e=0
 ·have hf:pF v=false:=by
   cases hh:pF v with
   |false=>rfl
   |true=>exact absurd ⟨e3.1 he,hh⟩ h
  subst he;have e0:af (0:Int) 0=true:=id (Eq.refl _);simp only[e0,nT,aD,hc,hf,aj,nF,aG]
 ·simp only[jW he,nF,aG,aj]
theorem qa6(b:Bool){k:Int}{t:Tx}{n:Int}{ks:F}{k':Int}{t':Tx}{n':Int}{ks':F}(hp:ks.size+1<=4000)(gp:GL (tr k t n ks).flat)(hv:ks'.size+1<=4000)(gv:GL (tr k' t' n' ks').flat)(hc:jZ k t n ks true=0)(he:pF (tr k' t' n' ks').flat=true):∃A:Sl (Tx×SN),nK (⟨b,(tr k t n ks).flat⟩,⟨false,(tr k' t' n' ks').flat⟩,())=some (match nU (tr k t n ks) (tr k' t' n' ks') with|some _=>(A,true,())|none=>(⟨true,[]⟩,false,()))/\∀ns,nU (tr k t n ks) (tr k' t' n' ks')=some ns->vZ A.l=ns:=by
 have hg:=kO k t n ks;have hj:=kO k' t' n' ks';have e1:=Zz b k t n ks om gp;rw[hc] at e1;have hf:=ZZ false (tr k' t' n' ks').flat om gv;rw[he] at hf;have hm:=z1z k t n ks hp k' t' n' ks' hv b ⟨true,[]⟩ (by show 0+(ks.size+0+1)<=_;omega);obtain⟨r1,r2⟩:=qg1 (tr k t n ks) (tr k' t' n' ks') ⟨true,[]⟩;have e0:af (0:Int) 0=true:=id (Eq.refl _);refine⟨(gJ (tr k t n ks) (tr k' t' n' ks') ⟨true,[]⟩).2,?_,fun ns h=>by rw[r2 ns h];rfl⟩;rw[Mw,e1,aj];simp only[e0,nT,aD,hf,aj,hm,r1];cases nU (tr k t n ks) (tr k' t' n' ks') with
 |none=>rfl
 |some ns=>rfl
theorem qza{v:List ND}(h:pF v=true):v.length<=4000/\∃k t n ks,v=(tr k t n ks).flat:=by unfold pF at h;rw[zd,zd] at h;exact⟨zM h.1,(ED v).1 h.2.1⟩
theorem qga(v:List ND)(hv:v.length<=4000)(gv:GL v):qc (⟨false,v⟩,())=some (pF v,()):=by
 rw[Wd];cases h:pF v with
 |false=>rw[qia false [(21,[],0,0)] v (by show 1<=_;omega) uP hv gv (fun hh=>by rw[h] at hh;cases hh.2)];rfl
 |true=>obtain⟨_,k,t,n,ks,rfl⟩:=qza h;rw[kO] at hv;obtain⟨A,e,_⟩:=qa6 false (k:=21) (t:=[]) (n:=0) (ks:=.nil) dc uP hv gv (by kernel_rfl) h;have e2:nU (tr 21 [] 0 .nil) (tr k t n ks)=some []:=rfl;rw[e2] at e;exact(EG e _).trans rfl
def oo:F->List Nat->Option F
 |v,[]=>some v
 |v,j::l=>match(fq v)[j]? with
  |none=>none
  |some x=>oo x l
theorem QR{v x:F}(h:x∈fq v):x.aq=1/\x.size<=v.size/\∀y,y∈x.flat->y∈v.flat:=by
 cases v with
 |nil=>cases h
 |cons k t n ks r=>have h:x∈ks.aL:=h;obtain⟨k',t',n',ks',rfl,hs⟩:=F.cX ks x h;refine⟨rfl,by show ks'.size+0+1<=ks.size+r.size+1;omega,fun y hy=>?_⟩;show y∈(k,t,n,(ks.aq:Int))::(ks.flat++r.flat);refine zg _ (List.mem_append_left _ ?_);rw[<-F.dF,<-F.bQ];exact List.mem_flatten.2 ⟨_,zS.2 ⟨_,h,rfl⟩,hy⟩
theorem QT:∀(l:List Nat) (v x:F),v.aq=1->oo v l=some x->x.aq=1/\x.size<=v.size/\∀y,y∈x.flat->y∈v.flat
 |[],v,x,hv,h=>by injection h with h;subst h;exact⟨hv,Nat.le_refl _,fun _ h=>h⟩
 |j::l,v,x,hv,h=>by
  unfold oo at h;cases hk:(fq v)[j]? with
  |none=>rw[hk] at h;cases h
  |some w=>rw[hk] at h;obtain⟨g1,g2,g3⟩:=QR (zj hk);obtain⟨q1,q2,q3⟩:=QT l w x g1 h;exact⟨q1,by omega,fun y hy=>g3 y (q3 y hy)⟩
theorem qzb(b ok nb:Bool)(L:List Int)(hL:L.length<=1000000):∀(m:List Nat) (i:Nat) (w:F),w.aq=1->w.size<=4000->L.drop i=m.map (fun(k:Nat)=>(k:Int))->i<=L.length->aH pq (⟨b,w.flat⟩,ok,⟨nb,L⟩,aa L,(i:Int),())=some (match oo w m with|some x=>(⟨b,x.flat⟩,ok,())|none=>(⟨true,[]⟩,false,())):=by
 intro m
 induction m with
 |nil=>intro i w hw hs hd hi;have hz:L.length<=i:=List.drop_eq_nil_iff.1 hd;have hn:aA (i:Int) (aa L)=false:=zm (by unfold aa;omega);refine dO ?_;unfold pq;simp only[hn,aD];rfl
 |cons j m ih=>
  intro i w hw hs hd hi;obtain⟨k,t,n,ks,rfl⟩:=oi w hw;have hs:ks.size+0+1<=4000:=hs;have hf:L[i]?=some (j:Int):=by
   have:(L.drop i)[0]?=some (j:Int):=by rw[hd];rfl
   rwa [List.getElem?_drop,Nat.add_zero] at this
  have ht:L.drop (i+1)=m.map fun(k:Nat)=>(k:Int):=by rw[<-List.drop_drop,hd];rfl
  have hA:=fh hf;have hu:=kO k t n ks;have hq:=Cf k t n ks;obtain⟨nk,hk⟩:=Qr b _ om hq;have hk:jG (⟨b,(tr k t n ks).flat⟩,0,())=some (⟨nk,ks.pos (0+1)⟩,()):=hk;have hv:=Ks om ks 1 hq.node.2.1 om;have hg:(ks.pos (0+1)).length=ks.aq:=F.dG ks _;have hB:(fq (tr k t n ks)).length=ks.aq:=F.cW ks;unfold oo;by_cases hj:j<ks.aq
  ·obtain⟨e,he⟩:∃e,(ks.iB 1)[j]?=some e:=⟨_,ze (by
    have:(ks.iB 1).length=ks.aq:=by rw[<-hg,<-F.dD,zA]
    omega)⟩
   have hp:(ks.pos (0+1))[j]?=some e.1:=by rw[<-F.dD];exact getM he
   have hx:(fq (tr k t n ks))[j]?=some ((fq (tr k t n ks))[j]' om):=ze om;generalize (fq (tr k t n ks))[j]' om=x at hx;have hy:e.2=x.flat:=by
    have h1:ks.trees[j]?=some e.2:=by rw[<-F.dE ks 1];exact getM he
    have h2:ks.trees[j]?=some x.flat:=by rw[<-F.bQ];exact getM hx
    rw[h1] at h2;injection h2
   have ha:=hv e (zj he);obtain⟨g1,g2,_⟩:=QR (zj hx);have ho:bf (aa (ks.pos (0+1))) (j:Int)=false:=zm (by unfold aa;omega);have hc:=ha.ends b;have hl:=ha.cut;rw[hy] at hc hl;have hm:pq (⟨b,(tr k t n ks).flat⟩,ok,⟨nb,L⟩,aa L,(i:Int),())=some (.inl (⟨b,x.flat⟩,ok,⟨nb,L⟩,aa L,((i+1:Nat):Int),())):=by unfold pq;simp only[cJ hf,aG,aQ hf,aj,hk,ho,aD,aQ hp,hc,hl,aI (show i<=1000000000 by omega)]
   rw[fE hm,hx];exact ih (i+1) x g1 (by have g2:x.size<=ks.size+0+1:=g2;omega) ht om
  ·have hx:(fq (tr k t n ks))[j]?=none:=jf om;have ho:bf (aa (ks.pos (0+1))) (j:Int)=true:=zn (by unfold aa;omega);rw[hx];refine dO ?_;unfold pq;simp only[cJ hf,aG,aQ hf,aj,hk,ho]
theorem z61(t:Tx):∃(nb:Bool) (l:List Nat) (ok:Bool),qv t=(⟨nb,l.map fun(k:Nat)=>(k:Int)⟩,ok,())/\l.length<=(gR t).length:=by
 unfold qv;by_cases h1:t=[]
 ·rw[if_pos h1];exact⟨true,[],true,rfl,Nat.zero_le _⟩
 ·rw[if_neg h1];by_cases h2:(gR t).all GF=true
  ·rw[if_pos h2];refine⟨false,(gR t).map fun x=>(mG x).toNat,true,?_,by rw[zA];omega⟩;rw[zY];have:(gR t).map mG=(gR t).map ((fun(k:Nat)=>(k:Int))∘fun x=>(mG x).toNat):=by
    refine zW fun x hx=>?_;have hg:=zJ.1 h2 x hx
    match x,hg with
    |[c],hg=>have hg:(decide (48<=c)&&decide (c<56))=true:=hg;rw[zd] at hg;have a1:=zM hg.1;show c-48=(((c-48).toNat:Nat):Int);omega
    |[],hg=>cases hg
    |_::_::_,hg=>cases hg
   rw[this]
  ·rw[if_neg h2];exact⟨true,[],false,rfl,Nat.zero_le _⟩
theorem qzc:∀t:List Int,(gR t).length<=t.length+1
 |[]=>Nat.le_refl _
 |b::t=>by
  have ih:=qzc t;unfold gR;by_cases hb:b=46
  ·rw[if_pos hb,zw,zw];omega
  ·rw[if_neg hb];obtain⟨h,r,e⟩:=qz2 t;rw[e] at ih ⊢;rw[zw] at ih ⊢;rw[zw];omega
theorem qn5(b:Bool)(v:F)(hv:v.aq=1)(hs:v.size<=4000)(t:Tx)(ht:t.length<=900000):∃(nb:Bool) (l:List Nat) (ok:Bool),qv t=(⟨nb,l.map fun(k:Nat)=>(k:Int)⟩,ok,())/\p9 (⟨b,v.flat⟩,t,())=some (match oo v l with|some x=>(⟨b,x.flat⟩,ok,())|none=>(⟨true,[]⟩,false,())):=by
 obtain⟨nb,l,ok,e,hl⟩:=z61 t;have hc:=qzc t;refine⟨nb,l,ok,e,?_⟩;have hp:mU (t,())=some (qv t):=by unfold mU;show(bif decide (t.length<=1000000) then some (qv t) else none)=_;rw[zn om,cond_true]
 rw[V5,hp,aj,e];exact qzb b ok nb (l.map fun(k:Nat)=>(k:Int)) (by rw[zA];omega) l 0 v hv hs rfl (Nat.zero_le _)
theorem qib(b:Bool)(v:F)(hv:v.aq=1)(hs:v.size<=4000)(l:List Nat)(h8:∀k,k∈l->k<8)(hl:l.length<=400000):p9 (⟨b,v.flat⟩,iE l,())=some (match oo v l with|some x=>(⟨b,x.flat⟩,true,())|none=>(⟨true,[]⟩,false,())):=by have:=z5y l;obtain⟨nb,l',ok,e,h⟩:=qn5 b v hv hs (iE l) om;obtain⟨Zo,e2⟩:=QN l h8;rw[e] at e2;have e3:l'=l:=(List.map_inj_right (f:=fun(k:Nat)=>(k:Int)) (fun x y e=>by have e:(x:Int)=(y:Int):=e;omega)).1 (congrArg (fun s=>s.1.l) e2);have e4:ok=true:=congrArg (fun s=>s.2.1) e2;rw[h,e3,e4]
def j8:F->Nat->List (Tx×List Nat)
 |.nil,_=>[]
 |.cons k t _ ks r,i=>((bif af k 22 then [(t,[i])] else [])++(j8 ks 0).map fun e=>(e.1,i::e.2))++j8 r (i+1)
def qE:F->List (Tx×List Nat)
 |.nil=>[]
 |.cons k t _ ks _=>(bif af k 22 then [(t,[])] else [])++j8 ks 0
def mY(a:Tx)(l:List Nat):Tx:=l.foldl nj a
def nq(a:Tx)(l:List (Tx×List Nat)):List (Tx×Tx):=l.map fun e=>(e.1,mY a e.2)
theorem qpg(a:Tx)(x y:List (Tx×List Nat)):nq a (x++y)=nq a x++nq a y:=zE ..
theorem qzd(a:Tx)(i:Nat)(x:List (Tx×List Nat)):nq a (x.map fun e=>(e.1,i::e.2))=nq (nj a i) x:=by unfold nq;rw[zY];rfl
def j0(o:Sl (Tx×Tx))(l:List (Tx×Tx)):Sl (Tx×Tx):=⟨aR o.nil (dI l),o.l++l⟩
theorem qru(o:Sl (Tx×Tx))(x y:List (Tx×Tx)):j0 (j0 o x) y=j0 o (x++y):=by
 unfold j0;rw[zD];congr 1;cases x with
 |nil=>cases o.nil<;>rfl
 |cons a x=>cases o.nil<;>rfl
theorem z2g(o:Sl (Tx×Tx)):j0 o []=o:=by obtain⟨b,l⟩:=o;unfold j0;rw[zC];cases b<;>rfl
theorem QU:∀(f:F) (i:Nat),(j8 f i).length<=f.size
 |.nil,_=>Nat.le_refl _
 |.cons k t n ks r,i=>by
  have h1:=QU ks 0;have h2:=QU r (i+1);have h3:(bif af k 22 then [(t,[i])] else []:List (Tx×List Nat)).length<=1:=by cases af k 22<;>simp
  show(((bif af k 22 then [(t,[i])] else [])++(j8 ks 0).map fun e=>(e.1,i::e.2))++j8 r (i+1)).length<=ks.size+r.size+1;rw[zt,zt,zA];omega
def BE(k:Int)(t:Tx)(ks:F)(a:Tx):List (Tx×Tx):=(bif af k 22 then [(t,a)] else [])++nq a (j8 ks 0)
theorem z62(b:Bool):∀(M:Nat) (k:Int) (t:Tx) (n:Int) (ks:F),ks.size+1<=M->ks.size+1<=4000->∀N,M<=N->∀(a:Tx) (o:Sl (Tx×Tx)),a.length+30*M<=100000->o.l.length+ks.size+1<=100000->aU oK N (⟨b,(tr k t n ks).flat⟩,a,o,())=some (j0 o (BE k t ks a),()):=by
 intro M
 induction M with
 |zero=>intro k t n ks h;omega
 |succ M ih=>
  intro k t n ks hM h4 N hN a o ha ho;cases N with
  |zero=>omega
  |succ N=>
   have h0:aE (tr k t n ks).flat 0=some (k,t,n,(ks.aq:Int)):=aQ (i:=0) rfl;obtain⟨nb,hc⟩:=qg4 b (tr k t n ks) rfl (by show ks.size+0+1<=_;omega);have hc:oI (⟨b,(tr k t n ks).flat⟩,())=some (⟨nb,ks.aL.map fun q=>(⟨b,q.flat⟩:SN)⟩,()):=hc;have hn:=F.cq ks;show oK (aU oK N) _=_;rw[V2];have f1:fit (aT (aa o.l) (aa [(t,a)]))=some ():=iA (by show o.l.length+1<=_;omega);have loop:∀(g:F) (i:Nat) (o':Sl (Tx×Tx)),ks.aL.drop i=g.aL->i+g.aq=ks.aq->g.size<=M->o'.l.length+g.size<=100000->
     aH (po (aU oK N)) (a,⟨nb,ks.aL.map fun q=>(⟨b,q.flat⟩:SN)⟩,aa (ks.aL.map fun q=>(⟨b,q.flat⟩:SN)),(i:Int),o',())=some (j0 o' (nq a (j8 g i)),()):=by
    intro g
    induction g with
    |nil=>intro i o' hd hi _ _;have hi:i+0=ks.aq:=hi;have hj:aA (i:Int) (aa (ks.aL.map fun q=>(⟨b,q.flat⟩:SN)))=false:=zm (by unfold aa;rw[zA,F.cW];omega);refine dO ?_;unfold po;simp only[hj,aD];show _=some (Sum.inr (j0 o' [],()));rw[z2g]
    |cons k' t' n' ks' r' _ NP=>
     intro i o' hd hi hl hm;have hi:i+(r'.aq+1)=ks.aq:=hi;have hl:ks'.size+r'.size+1<=M:=hl;have hm:o'.l.length+(ks'.size+r'.size+1)<=100000:=hm;have hd:ks.aL.drop i=tr k' t' n' ks'::r'.aL:=hd;have hq:ks.aL[i]?=some (tr k' t' n' ks'):=by
      have:(ks.aL.drop i)[0]?=some (tr k' t' n' ks'):=by rw[hd];rfl
      rwa [List.getElem?_drop,Nat.add_zero] at this
     have hs:ks.aL.drop (i+1)=r'.aL:=by rw[<-List.drop_drop,hd];rfl
     have he:(ks.aL.map fun q=>(⟨b,q.flat⟩:SN))[i]?=some ⟨b,(tr k' t' n' ks').flat⟩:=getM hq;have ht:=qcv a i;have hf:=ih k' t' n' ks' om om N om (nj a i) o' om om;have hu:(BE k' t' ks' (nj a i)).length<=ks'.size+1:=by
      have h1:=QU ks' 0;unfold BE nq;rw[zt,zA];have h3:(bif af k' 22 then [(t',nj a i)] else []:List (Tx×Tx)).length<=1:=by cases af k' 22<;>simp
      omega
     have hg:po (aU oK N) (a,⟨nb,ks.aL.map fun q=>(⟨b,q.flat⟩:SN)⟩,aa (ks.aL.map fun q=>(⟨b,q.flat⟩:SN)),(i:Int),o',())=some (.inl (a,⟨nb,ks.aL.map fun q=>(⟨b,q.flat⟩:SN)⟩,aa (ks.aL.map fun q=>(⟨b,q.flat⟩:SN)),((i+1:Nat):Int),j0 o' (BE k' t' ks' (nj a i)),())):=by unfold po;simp only[cJ he,aG,aQ he,aj,qrl a om i om,hf,aI (show i<=1000000000 by omega)]
     rw[fE hg,NP (i+1) (j0 o' (BE k' t' ks' (nj a i))) hs om om (by show(o'.l++_).length+_<=_;rw[zt];omega),qru];refine congrArg (fun z=>some (j0 o' z,())) ?_;show _=nq a (((bif af k' 22 then [(t',[i])] else [])++(j8 ks' 0).map fun e=>(e.1,i::e.2))++j8 r' (i+1));rw[qpg,qpg,qzd];unfold BE;cases af k' 22<;>rfl
   simp only[h0,aj];have fin:∀o':Sl (Tx×Tx),o'.l.length<=o.l.length+1->aH (po (aU oK N)) (a,⟨nb,ks.aL.map fun q=>(⟨b,q.flat⟩:SN)⟩,aa (ks.aL.map fun q=>(⟨b,q.flat⟩:SN)),0,o',())=some (j0 o' (nq a (j8 ks 0)),()):=fun o' h=>loop ks 0 o' rfl om om om;unfold BE;cases hk:af k 22 with
   |true=>simp only[aG,f1,aj,hc,cond_true];rw[<-qru];exact fin (j0 o [(t,a)]) (by show(o.l++[(t,a)]).length<=_;rw[zt];simp)
   |false=>simp only[aD,aj,hc,cond_false];exact fin o om
theorem qph(b:Bool)(k:Int)(t:Tx)(n:Int)(ks:F)(hs:ks.size+1<=1000)(hg:GL (tr k t n ks).flat)(hc:jZ k t n ks true=0):∃nb,p8 (⟨b,(tr k t n ks).flat⟩,())=some (⟨nb,nq [] (qE (tr k t n ks))⟩,()):=by
 have e1:=Zz b k t n ks om hg;rw[hc] at e1;have e0:af (0:Int) 0=true:=id (Eq.refl _);have h1:DS (⟨b,(tr k t n ks).flat⟩,[],⟨true,[]⟩,())=some (j0 ⟨true,[]⟩ (BE k t ks []),()):=tG (ks.size+1) fun N hN=>z62 b (ks.size+1) k t n ks (Nat.le_refl _) om N hN [] ⟨true,[]⟩ (by show 0+30*(ks.size+1)<=100000;omega) (by show 0+ks.size+1<=100000;omega);refine⟨aR true (dI (BE k t ks [])),?_⟩;rw[V3,e1];simp only[aj,e0,nT,aD,h1];have e2:BE k t ks []=nq [] (qE (tr k t n ks)):=by unfold BE;show _=nq [] ((bif af k 22 then [(t,[])] else [])++j8 ks 0);rw[qpg];cases af k 22<;>rfl
 rw[e2];rfl
def QV(K:List F):List Nat->Option F
 |[]=>none
 |j::l=>match K[j]? with
  |none=>none
  |some x=>oo x l
theorem z3k:∀(f:F) (i:Nat) (e:Tx×List Nat),e∈j8 f i->∃j l,e.2=j::l
 |.nil,_,_,h=>by cases h
 |.cons k t n ks r,i,e,h=>by
  have h:e∈((bif af k 22 then [(t,[i])] else [])++(j8 ks 0).map fun e=>(e.1,i::e.2))++j8 r (i+1):=h;rcases zL.1 h with h|h
  ·rcases zL.1 h with h|h
   ·cases hc:af k 22 with
    |true=>rw[hc] at h;rw[zI.1 h];exact⟨i,[],rfl⟩
    |false=>rw[hc] at h;cases h
   ·obtain⟨e',_,rfl⟩:=zS.1 h;exact⟨i,e'.2,rfl⟩
  ·exact z3k r (i+1) e h
def giv(G:List F)(e:Tx×List Nat):Option (Tx×List ND):=(QV G e.2).map fun x=>(e.1,x.flat)
theorem qa7{m odd:Bool}:∀(f g:F) (ns:NM) (G:List F) (i:Nat),fM m true odd f=0->nU f g=some ns->G.drop i=g.aL->ns.map some=(j8 f i).map (giv G)
 |.nil,_,ns,_,_,_,h,_=>by injection h with h;subst h;rfl
 |.cons _ _ _ _ _,.nil,_,_,_,_,h,_=>by cases h
 |.cons k t n ks r,.cons k' t' n' ks' r',ns,G,i,he,h,hd=>by
  obtain⟨hf,hg⟩:=fG.1 he;rw[Bool.true_or] at hf;obtain⟨hn,hj⟩:=fF.1 hf;obtain⟨_,hk,hl,_⟩:=eF.1 hn;have hc:=(qxx hl).2.2.2.2;have hd:G.drop i=tr k' t' n' ks'::r'.aL:=hd;have hG:G[i]?=some (tr k' t' n' ks'):=by
   have:(G.drop i)[0]?=some (tr k' t' n' ks'):=by rw[hd];rfl
   rwa [List.getElem?_drop,Nat.add_zero] at this
  have hm:G.drop (i+1)=r'.aL:=by rw[<-List.drop_drop,hd];rfl
  rw[Z5] at h;cases h1:xu k t n ks k' t' n' ks' with
  |none=>rw[h1] at h;cases h
  |some a=>
   rw[h1] at h;cases h2:nU r r' with
   |none=>rw[h2] at h;cases h
   |some c=>
    rw[h2] at h;injection h with h;subst h;have i2:=qa7 (m:=m) (odd:=!odd) r r' c G (i+1) hg h2 hm;have key:a.map some=((bif af k 22 then [(t,[i])] else [])++(j8 ks 0).map fun e=>(e.1,i::e.2)).map (giv G):=by
     unfold xu at h1;cases e1:af k 21 with
     |true=>rw[e1] at h1;injection h1 with h1;subst h1;obtain rfl:=aV.1 e1;obtain rfl:=Ko (hc om);rfl
     |false=>
      rw[e1,cond_false] at h1;cases e2:af k 22 with
      |true=>rw[e2] at h1;injection h1 with h1;subst h1;obtain rfl:=Ko (hc (by have:=aV.1 e2;omega));show [some (t,(tr k' t' n' ks').flat)]=[(match G[i]? with|none=>none|some x=>oo x []).map fun(x:F)=>(t,x.flat)];rw[hG];rfl
      |false=>
       rw[e2,cond_false] at h1;cases e3:af k 23 with
       |true=>
        rw[e3,cond_true] at h1;obtain rfl:=Ko (hc (by have:=aV.1 e3;omega));cases e4:(af k' 51&&af n' n) with
        |true=>rw[e4] at h1;injection h1 with h1;subst h1;rfl
        |false=>rw[e4] at h1;cases h1
       |false=>
        rw[e3,cond_false] at h1;cases e5:(af k' 53&&(aM t' t&&decide (ks'.aq=ks.aq))) with
        |false=>rw[e5] at h1;cases h1
        |true=>
         rw[e5,cond_true] at h1;have i1:=qa7 (m:=af k 10) (odd:=false) ks ks' a ks'.aL 0 hj h1 rfl;rw[i1,cond_false,List.nil_append,zY];refine zW fun e ho=>?_;obtain⟨j,l,hq⟩:=z3k ks 0 e ho;obtain⟨nm,pt⟩:=e;obtain rfl:pt=j::l:=hq;show _=(QV G (i::j::l)).map fun x=>(nm,x.flat);have e6:QV G (i::j::l)=QV ks'.aL (j::l):=by show(match G[i]? with|none=>none|some x=>oo x (j::l))=_;rw[hG];rfl
         rw[e6];rfl
    show(a++c).map some=(((bif af k 22 then [(t,[i])] else [])++(j8 ks 0).map fun e=>(e.1,i::e.2))++j8 r (i+1)).map (giv G);rw[zE,zE,key,i2]
theorem qn6{k:Int}{t:Tx}{n:Int}{ks v:F}(hv:v.aq=1)(hc:jZ k t n ks true=0){ns:NM}(h:nU (tr k t n ks) v=some ns):ns.map some=(qE (tr k t n ks)).map fun e=>(oo v e.2).map fun x=>(e.1,x.flat):=by
 obtain⟨k',t',n',ks',rfl⟩:=oi v hv;have he:fM false true false (tr k t n ks)=0:=fG.2 ⟨by rw[Bool.true_or];exact(qk.1 hc).2.1,Zr _ _ _⟩;have:=qa7 (tr k t n ks) (tr k' t' n' ks') ns [tr k' t' n' ks'] 0 he h rfl;have e:j8 (tr k t n ks) 0=(qE (tr k t n ks)).map fun e=>(e.1,0::e.2):=by show((bif af k 22 then [(t,[0])] else [])++(j8 ks 0).map fun e=>(e.1,0::e.2))++[]=((bif af k 22 then [(t,[])] else [])++j8 ks 0).map fun(e:Tx×List Nat)=>(e.1,0::e.2);rw[zC,zE];cases af k 22<;>rfl
 rw[this,e,zY];rfl
theorem qpi:∀(f:F) (i:Nat),i+f.aq<=8->(∀x,x∈f.flat->x.2.2.2<=8)->∀e,e∈j8 f i->∀k,k∈e.2->k<8
 |.nil,_,_,_,_,h,_,_=>by cases h
 |.cons k t n ks r,i,hi,hx,e,h,d,hd=>by
  have hi:i+(r.aq+1)<=8:=hi;have hx:∀x,x∈(k,t,n,(ks.aq:Int))::(ks.flat++r.flat)->x.2.2.2<=8:=hx;have h:e∈((bif af k 22 then [(t,[i])] else [])++(j8 ks 0).map fun e=>(e.1,i::e.2))++j8 r (i+1):=h;have hk:(ks.aq:Int)<=8:=hx _ (zf ..);rcases zL.1 h with h|h
  ·rcases zL.1 h with h|h
   ·cases he:af k 22 with
    |true=>rw[he] at h;rw[zI.1 h] at hd;rw[zI.1 hd];omega
    |false=>rw[he] at h;cases h
   ·obtain⟨e',hf,rfl⟩:=zS.1 h;rcases zu.1 hd with rfl|hd
    ·omega
    ·exact qpi ks 0 om (fun x hc=>hx x (zg _ (List.mem_append_left _ hc))) e' hf d hd
  ·exact qpi r (i+1) om (fun x hc=>hx x (zg _ (List.mem_append_right _ hc))) e h d hd
theorem qk9:∀(f:F) (i:Nat) (e:Tx×List Nat),e∈j8 f i->e.2.length<=f.size
 |.nil,_,_,h=>by cases h
 |.cons k t n ks r,i,e,h=>by
  have h:e∈((bif af k 22 then [(t,[i])] else [])++(j8 ks 0).map fun e=>(e.1,i::e.2))++j8 r (i+1):=h;show _<=ks.size+r.size+1;rcases zL.1 h with h|h
  ·rcases zL.1 h with h|h
   ·cases hc:af k 22 with
    |true=>rw[hc] at h;rw[zI.1 h];show 1<=_;omega
    |false=>rw[hc] at h;cases h
   ·obtain⟨e',he,rfl⟩:=zS.1 h;have:=qk9 ks 0 e' he;show(i::e'.2).length<=_;rw[zw];omega
  ·have:=qk9 r (i+1) e h;omega
theorem z2i{k:Int}{t:Tx}{n:Int}{ks:F}{e:Tx×List Nat}(h:e∈qE (tr k t n ks)):e.2.length<=ks.size/\((∀x,x∈(tr k t n ks).flat->x.2.2.2<=8)->∀d,d∈e.2->d<8):=by
 have h:e∈(bif af k 22 then [(t,[])] else [])++j8 ks 0:=h;rcases zL.1 h with h|h
 ·cases hc:af k 22 with
  |true=>rw[hc] at h;rw[zI.1 h];exact⟨Nat.zero_le _,fun _ d hd=>by cases hd⟩
  |false=>rw[hc] at h;cases h
 ·refine⟨qk9 ks 0 e h,fun hx=>qpi ks 0 ?_ (fun x he=>hx x (by rw[qg];exact zg _ he)) e h⟩;have:=hx (k,t,n,(ks.aq:Int)) (by rw[qg];exact zf ..);have this:(ks.aq:Int)<=8:=this;omega
theorem qrv:∀(l p:List Nat),(∀d,d∈l->d<10)->mY (iE p) l=iE (p++l)
 |[],p,_=>by rw[zC];rfl
 |j::l,p,h=>by show mY (nj (iE p) j) l=_;rw[<-qrs p (h j (zf ..)),qrv l (p++[j]) fun d hd=>h d (zg _ hd),zD];rfl
theorem qrw:∀(l:List Nat) (a:Tx),(mY a l).length<=a.length+22*l.length
 |[],a=>Nat.le_refl _
 |j::l,a=>by have:=qrw l (nj a j);have:=qcv a j;show(mY (nj a j) l).length<=_;rw[zw];omega
theorem qze(v:F)(hv:v.aq=1)(hs:v.size<=4000)(hg:GL v.flat)(hc:pF v.flat=true)(t:Tx)(ht:t.length<=900000):∃(x:SN) (ok:Bool),oL (⟨false,v.flat⟩,t,())=some (x,ok,()):=by
 obtain⟨nb,l,ok,_,h⟩:=qn5 false v hv hs t ht;have he:=qga v.flat (by rw[F.len];exact hs) hg;rw[hc] at he;rw[Mx,h,aj,he,aj];cases hp:oo v l with
 |none=>exact⟨_,_,rfl⟩
 |some x=>
  cases ok with
  |false=>exact⟨_,_,rfl⟩
  |true=>have hx:=(QT l v x hv hp).2.1;have hf:=Z7 x.flat (by rw[F.len];omega);simp only[nT,aD,hf,aj];exact⟨_,_,rfl⟩
theorem quc(v:F)(hv:v.aq=1)(hs:v.size<=4000)(hg:GL v.flat)(hc:pF v.flat=true)(l:List Nat)(h8:∀k,k∈l->k<8)(hl:l.length<=400000){x:F}(hx:oo v l=some x):oL (⟨false,v.flat⟩,iE l,())=some (⟨false,x.flat⟩,true,()):=by have h:=qib false v hv hs l h8 hl;rw[hx] at h;have he:=qga v.flat (by rw[F.len];exact hs) hg;rw[hc] at he;have hj:=(QT l v x hv hx).2.1;have hf:=Z7 x.flat (by rw[F.len];omega);rw[Mx,h,aj,he,aj];simp only[nT,aD,hf,aj]
theorem qzf(b:Bool)(l:List ND)(hl:l.length<=1000000):Ke (⟨b,l⟩,())=some (l.any (fun x=>aA 8 x.2.2.2),()):=by
 rw[qmf];have e:=kN Qk (fun k=>(⟨b,l⟩,k,())) l hl (fun _ x=>bif aA 8 x.2.2.2 then some (true,()) else none) (false,()) ?_ ?_
 ·rw[e,xR];cases l.any (fun x=>aA 8 x.2.2.2)<;>rfl
 ·intro k x hx hk;unfold Qk;simp only[cJ hx,aG,aQ hx,aj,aI (show k<=1000000000 by omega)];cases aA 8 x.2.2.2<;>rfl
 ·unfold Qk;simp only[dB,aD]
theorem qud(b0 b1 ba bs:Bool){k:Int}{t:Tx}{n:Int}{ks v:F}(hQ:ks.size+1<=4000)(hv:v.aq=1)(hs:v.size<=4000)(hg:GL v.flat)(hl:pF v.flat=true)(hc:jZ k t n ks true=0){ns:NM}(hm:nU (tr k t n ks) v=some ns)(A:List (Tx×SN))(hA:vZ A=ns):aH Kg (⟨b0,(tr k t n ks).flat⟩,⟨b1,v.flat⟩,⟨ba,A⟩,⟨bs,nq [] (qE (tr k t n ks))⟩,0,())=some (true,()):=by
 have hL:=qn6 hv hc hm;have hw:=qzf b0 (tr k t n ks).flat (by rw[kO];omega);have ho:=EJ b1 v.flat (by rw[F.len];omega);generalize hM:(tr k t n ks).flat.any (fun x=>aA 8 x.2.2.2)=wd at hw
 suffices H:∃q,aH Kg (⟨b0,(tr k t n ks).flat⟩,⟨b1,v.flat⟩,⟨ba,A⟩,⟨bs,nq [] (qE (tr k t n ks))⟩,0,())=some q/\q=(true,()) by obtain⟨q,e,hq⟩:=H;exact e.trans (congrArg some hq)
 have hR:(qE (tr k t n ks)).length<=ks.size+1:=by
  have h1:=QU ks 0;have h3:(bif af k 22 then [(t,[])] else []:List (Tx×List Nat)).length<=1:=by cases af k 22<;>simp
  show((bif af k 22 then [(t,[])] else [])++j8 ks 0).length<=_;rw[zt];omega
 refine FN Kg (qE (tr k t n ks)).length (fun i s=>s=(⟨b0,(tr k t n ks).flat⟩,⟨b1,v.flat⟩,⟨ba,A⟩,⟨bs,nq [] (qE (tr k t n ks))⟩,(i:Int),())) _ ?_ ?_ rfl
 ·rintro i s hi rfl;have hx:(qE (tr k t n ks))[i]?=some (qE (tr k t n ks))[i]:=ze hi;generalize (qE (tr k t n ks))[i]=e at hx;obtain⟨nm,l⟩:=e;have hN:=zj hx;obtain⟨hB,ht⟩:=z2i hN;have hB:l.length<=ks.size:=hB;have hk:(nq [] (qE (tr k t n ks)))[i]?=some (nm,mY [] l):=by unfold nq;exact getM hx
  have he:(ns.map some)[i]?=some ((oo v l).map fun x=>(nm,x.flat)):=by rw[hL];exact getM hx
  obtain⟨x,hC,hj⟩:∃x,oo v l=some x/\ns[i]?=some (nm,x.flat):=by
   rw[zU] at he;cases hn:ns[i]? with
   |none=>rw[hn] at he;cases he
   |some z=>
    rw[hn] at he;injection he with he;cases hp:oo v l with
    |none=>rw[hp] at he;cases he
    |some x=>rw[hp] at he;injection he with he;exact⟨x,rfl,by rw[he]⟩
  obtain⟨⟨nm',⟨xb,xl⟩⟩,hE,hF⟩:∃e:Tx×SN,A[i]?=some e/\(e.1,e.2.l)=(nm,x.flat):=by
   rw[<-hA] at hj;unfold vZ at hj;rw[zU] at hj;cases hn:A[i]? with
   |none=>rw[hn] at hj;cases hj
   |some z=>rw[hn] at hj;injection hj with hj;exact⟨z,rfl,hj⟩
  obtain rfl:nm'=nm:=congrArg Prod.fst hF;obtain rfl:xl=x.flat:=congrArg Prod.snd hF;have hS:=(QT l v x hv hC).2.1;have hG:=qrw l [];have hG:(mY [] l).length<=0+22*l.length:=hG;have hH:aM nm' nm'=true:=bU.2 rfl;have hI:au .i64 (i:Int) 1=((i+1:Nat):Int):=aI om;unfold Kg;cases wd with
  |true=>
   obtain⟨y,ok,hy⟩:=qze v hv hs hg hl (mY [] l) om;cases hJ:aA 1 (aa (mY [] l)) with
   |true=>simp only[cJ hk,aG,aQ hk,aj,hJ,hw];exact⟨_,rfl,rfl⟩
   |false=>simp only[cJ hk,aG,aQ hk,aj,hJ,aD,ho,hy,aQ hE,hH,nT,hw,hI];exact⟨_,rfl,rfl⟩
  |false=>
   have hK:∀d,d∈l->d<8:=ht fun z hz=>by have:=List.any_eq_false.1 hM z hz;have h2:¬((8:Int)<z.2.2.2):=fun h=>this (zn h);omega
   have hO:mY [] l=iE l:=qrv l [] fun d hd=>by have:=hK d hd;omega
   have hy:=quc v hv hs hg hl l hK om hC;rw[<-hO] at hy;have hf:=qym ⟨false,x.flat⟩ ⟨xb,x.flat⟩ (by show x.flat.length<=_;rw[F.len];omega);have hf:xh (⟨false,x.flat⟩,⟨xb,x.flat⟩,())=some (true,()):=by rw[hf,zn rfl]
   have hP:(ak (aA 1 (aa (mY [] l))) (some false) (some false):Option Bool)=some false:=by cases aA 1 (aa (mY [] l))<;>rfl
   simp only[cJ hk,aG,aQ hk,aj,hw,hP,aD,ho,hy,aQ hE,hH,nT,nF,hf,hI];exact⟨_,rfl,rfl⟩
 ·rintro s rfl;have hu:aA (((qE (tr k t n ks)).length:Nat):Int) (aa (nq [] (qE (tr k t n ks))))=false:=by
   have:=dB (nq [] (qE (tr k t n ks)));unfold nq at this ⊢
   rwa [zA] at this
  unfold Kg;simp only[hu,aD];exact⟨_,rfl,rfl⟩
theorem xv(b0 b1:Bool)(p v:List ND)(gp:gL p)(gv:gL v):cN (⟨b0,p⟩,⟨b1,v⟩,())=some (true,()):=by
 obtain⟨c,e2,h2⟩:=QC ⟨false,[⟨b0,p⟩,⟨b1,v⟩]⟩ (by show 2<=_;omega);rw[q9t,YP];simp only[aj,nT,aD,e2];cases c with
 |false=>rfl
 |true=>
  have fa:=(h2 rfl).2;have fp:gI 30 p:=fa ⟨b0,p⟩ (zf ..);have fv:gI 30 v:=fa ⟨b1,v⟩ (zg _ (zf ..));have lp:=fp.1;have lv:=fv.1;have Gp:=IS gp fp;have Gv:=IS gv fv;have o1:=EJ b0 p om;have o2:=EJ b1 v om;simp only[nT,aD,o1,o2,aj];by_cases h:Z1 p/\pF v=true
  ·obtain⟨⟨k,t,n,ks,rfl,hc⟩,he⟩:=h;obtain⟨_,k',t',n',ks',rfl⟩:=qza he;have lp:(tr k t n ks).flat.length<=30:=lp;rw[kO] at lp lv;obtain⟨A,e,hA⟩:=qa6 false (k:=k) (t:=t) (n:=n) (ks:=ks) (k':=k') (t':=t') (n':=n') (ks':=ks') om Gp om Gv hc he;cases hm:nU (tr k t n ks) (tr k' t' n' ks') with
   |none=>rw[hm] at e;simp only[e,aj,nF,aG]
   |some ns=>
    rw[hm] at e;have hA:=hA ns hm;obtain⟨nb,hg⟩:=qph false k t n ks om Gp hc;have hj:=qn6 (v:=tr k' t' n' ks') rfl hc hm;have hf:aa (nq [] (qE (tr k t n ks)))=aa A.l:=by have h1:=congrArg List.length hj;rw[zA,zA,<-hA] at h1;unfold vZ at h1;rw[zA] at h1;unfold aa nq;rw[zA,h1]
    obtain⟨ba,A⟩:=A;simp only[e,aj,nT,aD,hg,hf,xL];exact qud b0 b1 ba nb om (v:=tr k' t' n' ks') rfl (by show ks'.size+0+1<=_;omega) Gv he hc hm A hA
  ·have e:=qia false p v om Gp om Gv h;simp only[e,aj,nF,aG]
def kY(p x:F):Bool:=(nU p x).isSome
def j4(xs:List F)(r:aY):Bool:=(r.1.zip xs).all fun z=>kY z.1 z.2
def kR(R:List aY)(xs:List F):Int:=match R.find? (j4 xs) with
 |some r=>r.2
 |none=>-1
theorem qpj{f:aY->Option aY}{xs xs':List F}:∀R:List aY,(∀r,r∈R->match f r with|none=>j4 xs r=false|some r'=>j4 xs' r'=j4 xs r/\r'.2=r.2)->kR (R.filterMap f) xs'=kR R xs
 |[],_=>rfl
 |r::R,h=>by
  have ih:=qpj R fun r' hc=>h r' (zg _ hc);have h0:=h r (zf ..);unfold kR at ih ⊢;rw[List.filterMap_cons];cases e:f r with
  |none=>rw[e] at h0;have h0:j4 xs r=false:=h0;rw[jB (by rw[h0];exact Bool.false_ne_true)];exact ih
  |some r'=>
   rw[e] at h0;obtain⟨h1,h2⟩:=h0;show(match(r'::R.filterMap f).find? (j4 xs') with|some r=>r.2|none=>-1)=_;rw[List.find?_cons,List.find?_cons,h1];cases j4 xs r with
   |true=>exact h2
   |false=>exact ih
theorem qn7:∀f g:F,f.aq=g.aq->(nU f g).isSome=(f.aL.zip g.aL).all fun z=>kY z.1 z.2
 |.nil,.nil,_=>rfl
 |.nil,.cons _ _ _ _ _,h=>by cases h
 |.cons _ _ _ _ _,.nil,h=>by cases h
 |.cons k t n ks r,.cons k' t' n' ks' r',h=>by
  have h:r.aq+1=r'.aq+1:=h;have ih:=qn7 r r' om;rw[Z5];show _=(((tr k t n ks,tr k' t' n' ks')::r.aL.zip r'.aL).all fun z=>kY z.1 z.2);rw[List.all_cons,<-ih];show _=(kY (tr k t n ks) (tr k' t' n' ks')&&_);unfold kY;rw[Z6];cases xu k t n ks k' t' n' ks' with
  |none=>rfl
  |some a=>
   cases nU r r' with
   |none=>rfl
   |some c=>rfl
theorem QW{p x:F}(hp:p.aq=1)(hx:x.aq=1)(hw:dS p=true):kY p x=true:=by
 obtain⟨k,t,n,ks,rfl⟩:=oi p hp;obtain⟨k',t',n',ks',rfl⟩:=oi x hx;have hw:(af k 21||af k 22)=true:=hw;unfold kY;rw[Z6];unfold xu;cases h1:af k 21 with
 |true=>rfl
 |false=>rw[h1,Bool.false_or] at hw;rw[hw];rfl
def gK(x:F)(n:bV):Bool:=(af (cZ x).1 51&&(af n.1 23&&af (cZ x).2.2 n.2.2))||(af (cZ x).1 53&&(af n.1 24&&aM (cZ x).2.1 n.2.1))
theorem z3l{p x:F}(hp:oW p)(hx:x.aq=1)(hw:dS p=false):kY p x=(gK x (cZ p)&&(decide ((fq p).length=(fq x).length)||af (cZ p).1 23)&&(af (cZ p).1 23||((fq p).zip (fq x)).all fun z=>kY z.1 z.2)):=by
 obtain⟨k,t,n,ks,rfl,he⟩:=hp;obtain⟨k',t',n',ks',rfl⟩:=oi x hx;have hk:=QG he hw;unfold kY;rw[Z6];show _=(((af k' 51&&(af k 23&&af n' n))||(af k' 53&&(af k 24&&aM t' t)))&&(decide (ks.aL.length=ks'.aL.length)||af k 23)&&(af k 23||(ks.aL.zip ks'.aL).all fun z=>kY z.1 z.2));unfold xu;rcases hk with ⟨rfl,rfl,rfl⟩|rfl
 ·have e1:af (23:Int) 21=false:=id (Eq.refl _);have e2:af (23:Int) 22=false:=id (Eq.refl _);have e3:af (23:Int) 23=true:=id (Eq.refl _);have e4:af (23:Int) 24=false:=id (Eq.refl _);simp only[e1,e2,e3,e4,cond_false,cond_true];cases af k' 51<;>cases af n' n<;>cases af k' 53<;>simp
 ·have e1:af (24:Int) 21=false:=id (Eq.refl _);have e2:af (24:Int) 22=false:=id (Eq.refl _);have e3:af (24:Int) 23=false:=id (Eq.refl _);have e4:af (24:Int) 24=true:=id (Eq.refl _);simp only[e1,e2,e3,e4,cond_false];rw[F.cW,F.cW];by_cases hc:ks'.aq=ks.aq
  ·have hm:=qn7 ks ks' hc.symm;rw[zn hc,zn hc.symm];cases af k' 53<;>cases aM t' t<;>simp[hm]
  ·rw[zm hc,zm (fun h=>hc h.symm)];cases af k' 53<;>cases aM t' t<;>simp
theorem z63{x:F}{a b:bV}(ha:iX a.1 a.2.1 a.2.2=true)(hb:iX b.1 b.2.1 b.2.2=true)(h1:gK x a=true)(h2:gK x b=true):a=b:=by
 obtain⟨a1,a2,a3⟩:=a;obtain⟨b1,b2,b3⟩:=b;have form:∀(k:Int) (t:Tx) (n:Int),iX k t n=true->k=23/\t=[]\/k=24/\n=0:=fun k t n h=>by
  unfold iX at h;rw[Bool.or_eq_true,zd,zd,zd] at h;rcases h with ⟨h,h'⟩|⟨h,h',_⟩
  ·exact .inl ⟨aV.1 h,bU.1 h'⟩
  ·exact .inr ⟨aV.1 h,aV.1 h'⟩
 have val:∀(k:Int) (t:Tx) (n:Int),gK x (k,t,n)=true->(cZ x).1=51/\k=23/\(cZ x).2.2=n\/(cZ x).1=53/\k=24/\(cZ x).2.1=t:=fun k t n h=>by
  unfold gK at h;simp only[Bool.or_eq_true,zd] at h;rcases h with ⟨h,h',hc⟩|⟨h,h',hc⟩
  ·exact .inl ⟨aV.1 h,aV.1 h',aV.1 hc⟩
  ·exact .inr ⟨aV.1 h,aV.1 h',bU.1 hc⟩
 have fa:=form a1 a2 a3 ha;have fb:=form b1 b2 b3 hb;rcases val a1 a2 a3 h1 with ⟨u1,u2,u3⟩|⟨u1,u2,u3⟩<;>rcases val b1 b2 b3 h2 with ⟨w1,w2,w3⟩|⟨w1,w2,w3⟩
 ·rcases fa with ⟨_,fa⟩|⟨fa,_⟩
  ·rcases fb with ⟨_,fb⟩|⟨fb,_⟩
   ·rw[u2,w2,fa,fb,<-u3,<-w3]
   ·omega
  ·omega
 ·omega
 ·omega
 ·rcases fa with ⟨fa,_⟩|⟨_,fa⟩
  ·omega
  ·rcases fb with ⟨fb,_⟩|⟨_,fb⟩
   ·omega
   ·rw[u2,w2,fa,fb,<-u3,<-w3]
theorem qrx{r:aY}{xs:List F}{i:Nat}{x:F}(hl:r.1.length=xs.length)(hx:xs[i]?=some x):j4 xs r=(((r.1.take i).zip (xs.take i)).all (fun z=>kY z.1 z.2)&&(kY (atR r i) x&&((r.1.drop (i+1)).zip (xs.drop (i+1))).all fun z=>kY z.1 z.2)):=by
 obtain⟨hi,hc⟩:=zB.1 hx;have he:i<r.1.length:=om
 have e1:r.1=r.1.take i++(atR r i::r.1.drop (i+1)):=by
  have:atR r i=r.1[i]:=by unfold atR;rw[List.getD_eq_getElem?_getD,ze he];rfl
  rw[this,List.getElem_cons_drop,List.take_append_drop]
 have e2:xs=xs.take i++(x::xs.drop (i+1)):=by rw[<-hc,List.getElem_cons_drop,List.take_append_drop]
 unfold j4
 conv=>lhs;rw[e1,e2]
 rw[List.zip_append (by rw[zO,zO];omega),List.all_append,List.zip_cons_cons,List.all_cons]
theorem qkb{r:aY}{xs:List F}{i:Nat}(hl:r.1.length=xs.length)(hi:i<xs.length){q ys:List F}(hq:q.length=ys.length):j4 (xs.take i++(ys++xs.drop (i+1))) (mW r i q)=(((r.1.take i).zip (xs.take i)).all (fun z=>kY z.1 z.2)&&((q.zip ys).all (fun z=>kY z.1 z.2)&&((r.1.drop (i+1)).zip (xs.drop (i+1))).all fun z=>kY z.1 z.2)):=by unfold j4 mW;show(((r.1.take i++(q++r.1.drop (i+1))).zip (xs.take i++(ys++xs.drop (i+1)))).all fun z=>kY z.1 z.2)=_;rw[List.zip_append (by rw[zO,zO];omega),List.all_append,List.zip_append hq,List.all_append]
theorem que{k:Nat}{ys:List F}(hy:∀y,y∈ys->y.aq=1):((List.replicate k lJ).zip ys).all (fun z=>kY z.1 z.2)=true:=zJ.2 fun z hz=>by obtain⟨h1,h2⟩:=List.of_mem_zip hz;rw[(List.mem_replicate.1 h1).2];exact QW rfl (hy _ h2) rfl
theorem z2j{x:F}:∀y,y∈fq x->y.aq=1:=fun _ h=>(QR h).1
theorem qzg{i:Nat}{n:bV}{x:F}{xs:List F}(hx:xs[i]?=some x)(hj:x.aq=1)(hn:iX n.1 n.2.1 n.2.2=true)(hm:gK x n=true)(R:List aY)(hR:∀r,r∈R->r.1.length=xs.length/\(atR r i).aq=1/\(dS (atR r i)=false->oW (atR r i)/\(cZ (atR r i)=n->(fq (atR r i)).length=(fq x).length/\((cZ (atR r i)).1=23->fq x=[])))):kR (R.filterMap (jO i n (fq x).length)) (xs.take i++(fq x++xs.drop (i+1)))=kR R xs:=by
 refine qpj R fun r hr=>?_;obtain⟨h1,h2,h3⟩:=hR r hr;have hi:=fh hx;have hc:=qrx h1 hx;unfold jO;cases hw:dS (atR r i) with
 |true=>have:=qkb h1 hi (q:=List.replicate (fq x).length lJ) (ys:=fq x) (by rw[List.length_replicate]);rw[que z2j] at this;rw[QW h2 hj hw] at hc;exact⟨by rw[this,hc],rfl⟩
 |false=>
  obtain⟨h4,h5⟩:=h3 hw;have he:=z3l h4 hj hw;cases hl:(cZ (atR r i)==n) with
  |false=>
   have hk:gK x (cZ (atR r i))=false:=by
    cases hh:gK x (cZ (atR r i)) with
    |false=>rfl
    |true=>have:=z63 (QQ h4 hw) hn hh hm;rw[this] at hl;simp at hl
   rw[hk] at he;show j4 xs r=false;rw[hc,he];simp
  |true=>
   have hf:=eq_of_beq hl;obtain⟨h6,h7⟩:=h5 hf;have:=qkb h1 hi (q:=fq (atR r i)) (ys:=fq x) h6;have hg:kY (atR r i) x=((fq (atR r i)).zip (fq x)).all fun z=>kY z.1 z.2:=by
    rw[he,hf,hm,zn h6,Bool.true_or,Bool.true_and,Bool.true_and];cases ho:af n.1 23 with
    |false=>rw[Bool.false_or]
    |true=>have:=h7 (by rw[hf];exact aV.1 ho);rw[this,List.zip_nil_right];rfl
   exact⟨by rw[this,hc,hg],rfl⟩
theorem z64{i:Nat}{x:F}{xs:List F}(hx:xs[i]?=some x)(he:x.aq=1)(R:List aY)(hR:∀r,r∈R->r.1.length=xs.length/\(atR r i).aq=1/\(dS (atR r i)=false->oW (atR r i)/\gK x (cZ (atR r i))=false)):kR (R.filterMap (dW i)) (xs.take i++xs.drop (i+1))=kR R xs:=by
 refine qpj R fun r hr=>?_;obtain⟨h1,h2,h3⟩:=hR r hr;have hi:=fh hx;have hc:=qrx h1 hx;unfold dW;cases hw:dS (atR r i) with
 |true=>have:=qkb h1 hi (q:=[]) (ys:=[]) rfl;rw[List.nil_append] at this;rw[QW h2 he hw] at hc;exact⟨by rw[this,hc];rfl,rfl⟩
 |false=>obtain⟨h4,h5⟩:=h3 hw;have hf:=z3l h4 he hw;rw[h5] at hf;show j4 xs r=false;rw[hc,hf];simp
def FR(L:List DD)(x:F)(T:List ND):Prop:=x.aq=1/\x.size<=4000/\x.flat.all lH=true/\iD L x [T]=true
theorem z65{L:List DD}{T:List ND}{x:F}(hx:FR L x T)(he:pH T)(hc:eJ (hd T).2.1=true):∃t n ks As,x=tr 53 t n ks/\iC L T t=some As/\As.length=ks.aq/\iD L ks As=true:=by
 obtain⟨h1,h2,h3,h4⟩:=hx;obtain⟨k,t,n,ks,rfl⟩:=oi x h1;obtain⟨kT,tT,nT',ksT,hf,hj,hg,hk⟩:=he;rw[FM] at h4;rw[qg,List.all_cons,zd] at h3;have h3:=h3.1;unfold lH at h3;have ci:eJ [105,110,116]=false:=by kernel_rfl
 have ct:eJ [116,101,120,116]=false:=by kernel_rfl
 have ca:eJ [45,62]=false:=by kernel_rfl
 have cr:eJ [114,101,102]=false:=by kernel_rfl
 have c0:eJ []=false:=by kernel_rfl
 have EN:∀s:Tx,eJ s=false->aM (hd T).2.1 s=true->False:=fun s h e=>by rw[bU.1 e,h] at hc;cases hc
 by_cases e1:k=51
 ·subst e1;have h4:aM (hd T).2.1 [105,110,116]=true:=h4;exact(EN _ ci h4).elim
 ·by_cases e2:k=52
  ·subst e2;have h4:aM (hd T).2.1 [116,101,120,116]=true:=h4;exact(EN _ ct h4).elim
  ·rw[jW e1,jW e2,cond_false,cond_false] at h3;by_cases e3:k=53
   ·subst e3;have h4:(match iC L T t with|none=>false|some As=>decide (As.length=ks.aq)&&iD L ks As)=true:=h4;cases ha:iC L T t with
    |none=>rw[ha] at h4;cases h4
    |some As=>rw[ha] at h4;have h4:(decide (As.length=ks.aq)&&iD L ks As)=true:=h4;rw[zd] at h4;exact⟨t,n,ks,As,rfl,ha,zM h4.1,h4.2⟩
   ·rw[jW e3,cond_false] at h3;by_cases e4:k=54
    ·subst e4;have h4:(af (hd T).1 31||(aM (hd T).2.1 [45,62]||aM (hd T).2.1 [114,101,102]))=true:=h4;rw[Bool.or_eq_true,Bool.or_eq_true] at h4;rcases h4 with h4|h4|h4
     ·obtain⟨_,g2,_⟩:=(BA _).1 hg;rw[hf] at h4 hc g2;have h4:af kT 31=true:=h4;have hc:eJ tT=true:=hc;rw[qg,List.all_cons,zd] at g2;have g2:=g2.1;unfold fW at g2;rw[h4,cond_true,zd,zd] at g2;have e:tT=[]:=bU.1 g2.2.1;rw[e,c0] at hc;cases hc
     ·exact(EN _ ca h4).elim
     ·exact(EN _ cr h4).elim
    ·rw[jW e4] at h3;cases h3
theorem qry{L:List DD}(he:bN (L.map fun d=>d.1)=false){T:List ND}{cO:Tx}{As:List (List ND)}(h:iC L T cO=some As){d:DD}(hf:L.find? (fun d=>aM d.1 (hd T).2.1)=some d):cO∈d.2.2.l.map fun c=>c.1:=by
 unfold iC at h;cases hc:fX L (hd T).1 (hd T).2.1 (hd T).2.2.2 cO with
 |none=>rw[hc] at h;cases h
 |some c=>
  obtain⟨d',g1,g2,g3,g4⟩:=Ny hc;unfold nS at g3;rw[zd,zd] at g3;have e1:d'.1=(hd T).2.1:=bU.1 g3.2.1;have m1:=zZ hf;have e2:d.1=(hd T).2.1:=bU.1 (List.find?_some (p:=fun d:DD=>aM d.1 (hd T).2.1) hf);have hg:=(Nn _).1 he;have:d'=d:=by
   obtain⟨i,hi⟩:=List.mem_iff_getElem?.1 g1;obtain⟨j,hj⟩:=List.mem_iff_getElem?.1 m1;have hk:(L.map fun d=>d.1)[i]?=some d'.1:=getM hi;have hl:(L.map fun d=>d.1)[j]?=some d.1:=getM hj;obtain⟨li,ei⟩:=zB.1 hk;obtain⟨lj,ej⟩:=zB.1 hl;have hm:i=j:=by
    rcases Nat.lt_trichotomy i j with h|h|h
    ·have:=List.pairwise_iff_getElem.1 hg i j li lj h;rw[ei,ej,e1,e2] at this;exact absurd rfl this
    ·exact h
    ·have:=List.pairwise_iff_getElem.1 hg j i lj li h;rw[ei,ej,e1,e2] at this;exact absurd rfl this
   rw[hm,hj] at hi;injection hi with hi;exact hi.symm
  subst this;exact zS.2 ⟨c,g2,bU.1 g4⟩
theorem z3m{α:Type}[DecidableEq α]:∀(l m:List α),l.Nodup->(∀x,x∈l->x∈m)->m.length<=l.length->∀x,x∈m->x∈l
 |[],m,_,_,hl,x,hx=>by have:m=[]:=zT (Nat.le_zero.1 hl);rw[this] at hx;cases hx
 |a::l,m,hn,hs,hl,x,hx=>by
  rw[List.nodup_cons] at hn;have ha:=hs a (zf ..);have hl:m.length<=l.length+1:=hl;have hc:=List.length_erase_of_mem ha;have ih:=z3m l (m.erase a) hn.2 (fun y hy=>(List.mem_erase_of_ne (fun(e:y=a)=>hn.1 (by rw[<-e];exact hy))).2 (hs y (zg _ hy))) om;by_cases he:x=a
  ·rw[he];exact zf ..
  ·exact zg _ (ih x ((List.mem_erase_of_ne he).2 hx))
theorem qrz{n:bV}(h:iX n.1 n.2.1 n.2.2=true):n.1=23/\n.2.1=[]\/n.1=24/\n.2.2=0:=by
 unfold iX at h;rw[Bool.or_eq_true,zd,zd,zd] at h;rcases h with ⟨h,h'⟩|⟨h,h',_⟩
 ·exact .inl ⟨aV.1 h,bU.1 h'⟩
 ·exact .inr ⟨aV.1 h,aV.1 h'⟩
theorem z2k{L:List DD}{p:F}{T:List ND}(h:uQ L p T)(hw:dS p=false)(hc:eJ (hd T).2.1=true):(cZ p).1=24/\(cZ p).2.2=0/\∃As,iC L T (cZ p).2.1=some As:=by
 have hf:=qrz (QQ h.1 hw);obtain⟨⟨k,t,n,ks,rfl,he⟩,_,ho⟩:=h;rw[FM] at ho;have ci:eJ [105,110,116]=false:=by kernel_rfl
 rcases QG he hw with ⟨rfl,rfl,rfl⟩|rfl
 ·have ho:aM (hd T).2.1 [105,110,116]=true:=ho;rw[bU.1 ho,ci] at hc;cases hc
 ·have hf:(24:Int)=23/\t=[]\/(24:Int)=24/\n=0:=hf;refine⟨rfl,?_,?_⟩
  ·rcases hf with ⟨h,_⟩|⟨_,h⟩
   ·omega
   ·exact h
  ·have ho:(match iC L T t with|none=>false|some As=>decide (As.length=ks.aq)&&iD L ks As)=true:=ho;cases ha:iC L T t with
   |none=>rw[ha] at ho;cases ho
   |some As=>exact⟨As,ha⟩
theorem z2l{L:List DD}(hs:L.all iU=true)(hk:bN (L.map fun d=>d.1)=false){T:List ND}(hl:pH T){x:F}(hx:FR L x T)(ls:List bV)(ht:ls≠[])(hq:ls.Nodup)(hu:∀n,n∈ls->∃p,uQ L p T/\dS p=false/\cZ p=n)(hj:ls.length=dZ L T):∃n,n∈ls/\gK x n=true:=by
 unfold dZ at hj;cases hf:L.find? (fun d=>aM d.1 (hd T).2.1) with
 |none=>rw[hf] at hj;exact absurd (zT hj) ht
 |some d=>
  rw[hf] at hj;have hj:ls.length=d.2.2.l.length:=hj;have m1:=zZ hf;have e2:d.1=(hd T).2.1:=bU.1 (List.find?_some (p:=fun d:DD=>aM d.1 (hd T).2.1) hf);have hr:=zJ.1 hs d m1;unfold iU at hr;rw[zd] at hr;have hc:eJ (hd T).2.1=true:=by rw[<-e2];exact hr.1
  obtain⟨t,n,ks,As,rfl,ha,_,_⟩:=z65 hx hl hc;have hn:=qry hk ha hf;have hg:∀m,m∈ls->m=(24,m.2.1,0)/\m.2.1∈d.2.2.l.map fun c=>c.1:=fun m hm=>by obtain⟨p,h1,h2,rfl⟩:=hu m hm;obtain⟨g1,g2,As',g3⟩:=z2k h1 h2 hc;refine⟨?_,qry hk g3 hf⟩;rw[<-g1,<-g2]
  have ho:(ls.map fun m=>m.2.1).Nodup:=by rw[List.nodup_iff_pairwise_ne] at hq ⊢;rw[List.pairwise_map];refine List.Pairwise.imp_of_mem (fun {a b} ha hb hv e=>hv ?_) hq;rw[(hg a ha).1,(hg b hb).1,e]
  have:=z3m (ls.map fun m=>m.2.1) (d.2.2.l.map fun c=>c.1) ho (fun y hy=>by obtain⟨m,hm,rfl⟩:=zS.1 hy;exact(hg m hm).2) (by rw[zA,zA];omega) t hn;obtain⟨m,hm,he⟩:=zS.1 this;refine⟨m,hm,?_⟩;rw[(hg m hm).1];have he:m.2.1=t:=he;show((af 53 51&&_)||(af 53 53&&(af 24 24&&aM t m.2.1)))=true;rw[he,bU.2 rfl];rfl
theorem qdj(i:Nat):∀(rows:List aY) (acc:List bV),acc.Nodup->(fN i rows acc).Nodup
 |[],_,h=>h
 |r::rs,acc,h=>by
  show(fN i rs (bif dS (atR r i)||acc.contains (cZ (atR r i)) then acc else acc++[cZ (atR r i)])).Nodup;refine qdj i rs _ ?_;cases dS (atR r i) with
  |true=>exact h
  |false=>
   rw[Bool.false_or];cases hc:acc.contains (cZ (atR r i)) with
   |true=>exact h
   |false=>
    rw[cond_false];have hn:cZ (atR r i)∉acc:=fun hm=>by rw[List.contains_iff_mem.2 hm] at hc;cases hc
    rw[List.nodup_append];exact⟨h,List.pairwise_singleton _ _,fun a ha b hb e=>by rw[zI.1 hb] at e;exact hn (e▸ha)⟩
theorem qic(i:Nat):∀(rows:List aY) (acc:List bV),(∀n,n∈acc->n∈fN i rows acc)/\∀r,r∈rows->dS (atR r i)=false->cZ (atR r i)∈fN i rows acc
 |[],_=>⟨fun _ h=>h,fun _ h=>by cases h⟩
 |r::rs,acc=>by
  obtain⟨i1,i2⟩:=qic i rs (bif dS (atR r i)||acc.contains (cZ (atR r i)) then acc else acc++[cZ (atR r i)]);have he:∀n,n∈acc->n∈(bif dS (atR r i)||acc.contains (cZ (atR r i)) then acc else acc++[cZ (atR r i)]):=fun n hn=>by
   cases (dS (atR r i)||acc.contains (cZ (atR r i))) with
   |true=>exact hn
   |false=>exact List.mem_append_left _ hn
  refine⟨fun n hn=>i1 n (he n hn),fun r' hf hw=>?_⟩;rcases zu.1 hf with rfl|hf
  ·refine i1 _ ?_;rw[hw,Bool.false_or];cases hc:acc.contains (cZ (atR r' i)) with
   |true=>exact List.contains_iff_mem.1 hc
   |false=>exact List.mem_append_right _ (zI.2 rfl)
  ·exact i2 r' hf hw
theorem z2m{L:List DD}(hL:GD L)(hj:L.all iU=true){T:List ND}(hg:pH T){x:F}(hx:FR L x T){n:bV}(hn:iX n.1 n.2.1 n.2.2=true)(hm:gK x n=true):(fq x).length=((iC L T n.2.1).getD []).length/\(∀(j:Nat) (y:F) (A:List ND),(fq x)[j]?=some y->((iC L T n.2.1).getD [])[j]?=some A->FR L y A)/\(n.1=23->fq x=[]):=by
 have ho:=hx;obtain⟨h1,h2,h3,h4⟩:=hx;obtain⟨k,t,m,ks,rfl⟩:=oi x h1;have he:=qrz hn;have hm:((af k 51&&(af n.1 23&&af m n.2.2))||(af k 53&&(af n.1 24&&aM t n.2.1)))=true:=hm;rw[Bool.or_eq_true,zd,zd,zd,zd] at hm;rw[qg,List.all_cons,zd] at h3;obtain⟨h3,h5⟩:=h3;rcases hm with ⟨m1,m2,m3⟩|⟨m1,m2,m3⟩
 ·obtain rfl:=aV.1 m1;have m2:=aV.1 m2;have ht:n.2.1=[]:=by
   rcases he with ⟨_,h⟩|⟨h,_⟩
   ·exact h
   ·omega
  have h3:(aM t []&&(af (ks.aq:Int) 0&&s7 m))=true:=h3;rw[zd,zd] at h3;obtain rfl:=Ko (aV.1 h3.2.1);have hf:iC L T []=none:=by
   cases ha:iC L T [] with
   |none=>rfl
   |some As=>have hc:=(qp9 L hL hj hg ha).2.1;cases hc
  rw[ht,hf];exact⟨rfl,fun j y A hy _=>(by cases hy),fun _=>rfl⟩
 ·obtain rfl:=aV.1 m1;have m2:=aV.1 m2;have m3:=bU.1 m3;rw[FM] at h4;have h4:(match iC L T t with|none=>false|some As=>decide (As.length=ks.aq)&&iD L ks As)=true:=h4;rw[<-m3];cases ha:iC L T t with
  |none=>rw[ha] at h4;cases h4
  |some As=>
   rw[ha] at h4;have h4:(decide (As.length=ks.aq)&&iD L ks As)=true:=h4;rw[zd] at h4;have hl:=zM h4.1;refine⟨by show ks.aL.length=As.length;rw[F.cW,hl],fun j y A hy hA=>?_,fun h=>by omega⟩;have hy:ks.aL[j]?=some y:=hy;have hA:As[j]?=some A:=hA;obtain⟨g1,g2,g3⟩:=QR (v:=tr 53 t m ks) (zj hy);have h6:=h4.2;rw[Kt L ks As hl] at h6;refine⟨g1,by omega,zJ.2 fun z hz=>?_,zJ.1 h6 (y,A) (List.mem_iff_getElem?.2 ⟨j,(List.getElem?_zip_eq_some (z:=(y,A))).2 ⟨hy,hA⟩⟩)⟩;have hk:z∈ks.flat:=by rw[<-F.dF,<-F.bQ];exact List.mem_flatten.2 ⟨y.flat,zS.2 ⟨y,zj hy,rfl⟩,hz⟩
   exact zJ.1 h5 z hk
theorem QX{l:List ND}:∀(f:F) (q i:Nat) (p:F),cg l q f->f.aL[i]?=some p->∃w:Nat,(f.pos q)[i]?=some (w:Int)/\cg l w p
 |.nil,_,_,_,_,h=>by cases h
 |.cons k t n ks r,q,0,p,hs,h=>by injection h with h;subst h;exact⟨q,rfl,hs.first⟩
 |.cons k t n ks r,q,i+1,p,hs,h=>by have h:r.aL[i]?=some p:=h;obtain⟨w,h1,h2⟩:=QX r _ i p hs.node.2.2.1 h;exact⟨w,h1,h2⟩
theorem qid(sub:bV->F)(hc:∀n,(sub n).aq=1)(TL:F)(he:TL.aq=1):∀ls:List bV,(∀(j:Nat) (n:bV),ls[j]?=some n->((dT sub ls).app TL).aL[2*j]?=some (tr n.1 n.2.1 n.2.2 .nil)/\((dT sub ls).app TL).aL[2*j+1]?=some (sub n))/\((dT sub ls).app TL).aL[2*ls.length]?=some TL
 |[]=>by obtain⟨k,t,n,ks,rfl⟩:=oi TL he;exact⟨fun j n h=>(by cases h),rfl⟩
 |m::ls=>by
  obtain⟨i1,i2⟩:=qid sub hc TL he ls;obtain⟨k,t,n,ks,e⟩:=oi (sub m) (hc m);have hk:(dT sub (m::ls)).app TL=.cons m.1 m.2.1 m.2.2 .nil (.cons k t n ks ((dT sub ls).app TL)):=by show((tr m.1 m.2.1 m.2.2 .nil).app ((sub m).app (dT sub ls))).app TL=_;rw[e];rfl
  have hf:((dT sub (m::ls)).app TL).aL=tr m.1 m.2.1 m.2.2 .nil::sub m::((dT sub ls).app TL).aL:=by rw[hk,e];rfl
  rw[hf];refine⟨fun j n h=>?_,?_⟩
  ·cases j with
   |zero=>injection h with h;subst h;exact⟨rfl,rfl⟩
   |succ j=>exact i1 j n h
  ·rw[zw];exact i2
theorem z2n(c v X:SN)(K:Sl Int)(to:Int)(i:Nat)(kp:Int)(hK:aE K.l (i:Int)=some kp)(nd:ND)(hc:aE c.l kp=some nd)(x:ND)(hx:aE X.l 0=some x)(k1:Int)(he:aE K.l (au .i64 (i:Int) 1)=some k1):pv (c,v,X,K,to,(i:Int),())=some (.inl (c,v,X,K,bif (af x.1 51&&(af nd.1 23&&af x.2.2.1 nd.2.2.1))||(af x.1 53&&(af nd.1 24&&aM x.2.1 nd.2.1)) then k1 else to,cu .i64 (i:Int) 2,())):=by have h0:bf 0 (i:Int)=true:=zn om;unfold pv;simp only[h0,aG,hK,hc,hx,he,aj];cases af x.1 51<;>cases af nd.1 23<;>cases af x.2.2.1 nd.2.2.1<;>cases af x.1 53<;>cases af nd.1 24<;>cases aM x.2.1 nd.2.1<;>rfl
def Kx(sub:bV->F)(TL x:F)(ls:List bV):F:=match ls.find? (gK x) with
 |some n=>sub n
 |none=>TL
theorem z2o(l:List ND)(bc bx nb:Bool)(v:SN)(x:F)(hx:x.aq=1)(sub:bV->F)(TL:F)(Kp:List Int)(ls:List bV)(hq:ls.length<=100000)(hf:∀(j:Nat) (n:bV),ls[j]?=some n->∃w1 w2:Nat,Kp[2*j]?=some (w1:Int)/\l[w1]?=some (n.1,n.2.1,n.2.2,0)/\Kp[2*j+1]?=some (w2:Int)/\cg l w2 (sub n)):∀(j:Nat) (to:Nat),j<=ls.length->cg l to (Kx sub TL x (ls.drop j))->∃w:Nat,aH pv (⟨bc,l⟩,v,⟨bx,x.flat⟩,⟨nb,Kp⟩,(to:Int),((2*j:Nat):Int)-2,())=some (Sum.inl (⟨bc,l⟩,v,(w:Int),()))/\cg l w (Kx sub TL x ls):=by
 obtain⟨k',t',n',ks',rfl⟩:=oi x hx;have hg:aE (tr k' t' n' ks').flat 0=some (k',t',n',(ks'.aq:Int)):=aQ (i:=0) rfl;intro j
 induction j with
 |zero=>intro to _ hs;refine⟨to,dO ?_,hs⟩;have h0:bf 0 (((2*0:Nat):Int)-2)=false:=zm om;unfold pv;simp only[h0,aD]
 |succ j ih=>
  intro to hj hs;have hn:ls[j]?=some ls[j]:=ze om;generalize hk:ls[j]=n at hn;obtain⟨w1,w2,g1,g2,g3,g4⟩:=hf j n hn;have hd:ls.drop j=n::ls.drop (j+1):=by rw[<-hk];exact List.drop_eq_getElem_cons om
  have hi:((2*(j+1):Nat):Int)-2=((2*j:Nat):Int):=om
  have hl:au .i64 ((2*j:Nat):Int) 1=((2*j+1:Nat):Int):=aI om;have ho:cu .i64 ((2*j:Nat):Int) 2=((2*j:Nat):Int)-2:=by rw[qu om om]
  have hc:=z2n ⟨bc,l⟩ v ⟨bx,(tr k' t' n' ks').flat⟩ ⟨nb,Kp⟩ (to:Int) (2*j) (w1:Int) (aQ g1) _ (aQ g2) _ hg (w2:Int) (by rw[hl];exact aQ g3);rw[ho] at hc;rw[hi,fE hc];have hb:((af k' 51&&(af n.1 23&&af n' n.2.2))||(af k' 53&&(af n.1 24&&aM t' n.2.1)))=gK (tr k' t' n' ks') n:=rfl;show ∃w:Nat,aH pv (⟨bc,l⟩,v,⟨bx,(tr k' t' n' ks').flat⟩,⟨nb,Kp⟩,bif ((af k' 51&&(af n.1 23&&af n' n.2.2))||(af k' 53&&(af n.1 24&&aM t' n.2.1))) then(w2:Int) else(to:Int),((2*j:Nat):Int)-2,())=_/\_;rw[hb];have he:Kx sub TL (tr k' t' n' ks') (ls.drop j)=bif gK (tr k' t' n' ks') n then sub n else Kx sub TL (tr k' t' n' ks') (ls.drop (j+1)):=by rw[hd];unfold Kx;rw[List.find?_cons];cases gK (tr k' t' n' ks') n<;>rfl
  cases hm:gK (tr k' t' n' ks') n with
  |true=>rw[hm,cond_true] at he;exact ih w2 om (by rw[he];exact g4)
  |false=>rw[hm,cond_false] at he;exact ih to om (by rw[he];exact hs)
theorem z8m(bc bv:Bool)(l:List ND)(hl:l.length<=4000)(v:F)(hv:v.aq=1)(hvs:v.size<=4000)(L:List DD)(hL:GD L)(hdo:qD L=true):∀(m:Nat) (av:List cM) (R:List aY) (ps seen:List (List Nat)) (xs:List F),Inv L av R->mu R<m->ft av ps seen->(∀p,p∈ps->p.length+mu R<=100000)->xs.length=av.length->(∀(j:Nat) (p:List Nat) (x:F),ps[j]?=some p->xs[j]?=some x->oo v p=some x)->(∀(j:Nat) (x:F) (c:cM),xs[j]?=some x->av[j]?=some c->FR L x c.2)->∀q:Nat,cg l q (cF L m av R)->aH pw (⟨bc,l⟩,⟨bv,v.flat⟩,(q:Int),())=some (kR R xs,()):=by
 have hI:=(Ku hdo).1;have aaa:=(Ku hdo).2.1;intro m
 induction m with
 |zero=>intro av R ps seen xs _ h;omega
 |succ m ih=>
  intro av R ps seen xs he hmu hp hJ hxl hK hG q hs;cases R with
  |nil=>have hs:cg l q (tr 62 [] 0 .nil):=hs;have h0:=aQ hs.node.1;have e1:af (62:Int) 63=false:=id (Eq.refl _);have e2:af (62:Int) 61=false:=id (Eq.refl _);refine dO ?_;unfold pw;simp only[h0,aj,e1,aD,e2];rfl
  |cons r0 rs=>
   have hg:r0∈r0::rs:=zf ..;have hM:=he.row r0 hg;cases hf:r0.1.findIdx? (fun p=>!dS p) with
   |none=>
    rw[qn4 hf] at hs;have h0:=aQ hs.node.1;have e1:af (61:Int) 63=false:=id (Eq.refl _);have e2:af (61:Int) 61=true:=id (Eq.refl _);have aab:=List.findIdx?_eq_none_iff.1 hf;have hr:j4 xs r0=true:=zJ.2 fun z hz=>by
     obtain⟨z1,z2⟩:=List.of_mem_zip hz;have hw:dS z.1=true:=by simpa using aab z.1 z1
     obtain⟨j,hj⟩:=List.mem_iff_getElem?.1 z2;have hjl:=fh hj;have hc:av[j]?=some (av[j]' om):=ze om;exact QW (hM.tree z1).1 (hG j _ _ hj hc).1 hw
    have ha:kR (r0::rs) xs=r0.2:=by unfold kR;rw[List.find?_cons,hr]
    refine dO ?_;unfold pw;simp only[h0,aj,e1,aD,e2,aG,ha]
   |some i=>
    obtain⟨hi,hi0,hw⟩:=qi8 hM.1 hf;have hc:av[i]?=some av[i]:=ze hi;generalize av[i]=c at hc;obtain⟨a,T⟩:=c;rw[qn3 hf hc] at hs;have hm1:1<=m:=by have:=NI (r:=r0) (i:=i) hi0 (he.jP hg) hw;have:mu (r0::rs)=pG r0+mu rs:=rfl;omega
    obtain⟨p,h6,hpa⟩:∃p,ps[i]?=some p/\a=iE p:=by
     have e:(ps.map iE)[i]?=some a:=by rw[<-hp.place,zU,hc];rfl
     rw[zU] at e;cases h:ps[i]? with
     |none=>rw[h] at e;cases e
     |some p=>rw[h] at e;injection e with e;exact⟨p,rfl,e.symm⟩
    have hpm:=zj h6;have hN:xs[i]?=some (xs[i]' om):=ze om;generalize xs[i]' om=x at hN;have hpx:=hK i p x h6 hN;have hO:=hG i x _ hN hc;have hO:FR L x T:=hO;have hx1:=hO.1;have hx:=he.FP _ (zj hc);have hx:pH T:=hx;have hC:∀r,r∈r0::rs->i<r.1.length:=fun r hr=>by rw[(he.row r hr).1];exact hi
    have ab9:ps.length=av.length:=by have:=congrArg List.length hp.place;rw[zA,zA] at this;exact this.symm
    generalize h7:fN i (r0::rs) []=ls at hs;have aac:∀n,n∈ls->∃r,r∈r0::rs/\dS (atR r i)=false/\cZ (atR r i)=n:=fun n hn=>by
     rw[<-h7] at hn;rcases qcw i _ _ n hn with h|h
     ·cases h
     ·exact h
    have hP:∀n,n∈ls->∃p,uQ L p T/\dS p=false/\cZ p=n:=fun n hn=>by obtain⟨r,h1,h2,h3⟩:=aac n hn;exact⟨atR r i,(he.row r h1).2 i _ _ (NL (hC r h1)) hc,h2,h3⟩
    have hQ:∀n,n∈ls->iX n.1 n.2.1 n.2.2=true:=fun n hn=>by obtain⟨p',h1,h2,h3⟩:=hP n hn;rw[<-h3];exact QQ h1.1 h2
    have hR:ls.Nodup:=by rw[<-h7];exact qdj i _ [] List.nodup_nil
    have hS:∀r,r∈r0::rs->dS (atR r i)=false->cZ (atR r i)∈ls:=fun r hr h=>by rw[<-h7];exact(qic i _ []).2 r hr h
    have aca:ls.length<=1000:=by
     have:=QF i (r0::rs) [];have:=he.rows;rw[h7] at*
     simp at*
     omega
    generalize hT:(fun n=>cF L m (av.take i++(kP L (a,T) n++av.drop (i+1))) ((r0::rs).filterMap (jO i n (kP L (a,T) n).length)))=sub at hs;generalize hTL:(bif Nat.beq ls.length (dZ L (a,T).2) then tr 62 [] 0 .nil else cF L m (av.take i++av.drop (i+1)) ((r0::rs).filterMap (dW i)))=TL at hs;have hsc:∀n,(sub n).aq=1:=fun n=>by rw[<-hT];exact EM L m _ _ hm1
    have hTc:TL.aq=1:=by
     rw[<-hTL];cases Nat.beq ls.length (dZ L (a,T).2) with
     |true=>rfl
     |false=>exact EM L m _ _ hm1
    have hq:=hs.node;have h0:=aQ hq.1;have e63:af (63:Int) 63=true:=id (Eq.refl _);have hA:=qib bv v hv hvs p (hp.IU p hpm) (by have:=hJ p hpm;omega);rw[hpx] at hA;rw[<-hpa] at hA;obtain⟨nb,hU⟩:=Qr bc l om hs;obtain⟨k1,k2⟩:=qid sub hsc TL hTc ls;have aad:((dT sub ls).app TL).aq=2*ls.length+1:=by rw[F.fj,QM sub hsc,hTc]
    have hV:(((dT sub ls).app TL).pos (q+1)).length=2*ls.length+1:=by rw[F.dG,aad]
    have hW:aa (((dT sub ls).app TL).pos (q+1))=((2*ls.length+1:Nat):Int):=by unfold aa;rw[hV]
    obtain⟨w0,d1,d2⟩:=QX _ (q+1) (2*ls.length) TL hq.2.1 k2;have hs1:cu .i64 ((2*ls.length+1:Nat):Int) 1=((2*ls.length:Nat):Int):=by rw[qu om om];omega
    have hs3:cu .i64 ((2*ls.length+1:Nat):Int) 3=((2*ls.length:Nat):Int)-2:=by rw[qu om om];omega
    obtain⟨w,hX,ht⟩:=z2o l bc bv nb ⟨bv,v.flat⟩ x hx1 sub TL (((dT sub ls).app TL).pos (q+1)) ls om (fun j n hj=>by
     obtain⟨g1,g2⟩:=k1 j n hj;obtain⟨w1,e1,e2⟩:=QX _ (q+1) (2*j) _ hq.2.1 g1;obtain⟨w2,e3,e4⟩:=QX _ (q+1) (2*j+1) _ hq.2.1 g2;exact⟨w1,w2,e1,e2.node.1,e3,e4⟩) ls.length w0 (Nat.le_refl _) (by
      rw[List.drop_length];exact d2)
    have hY:pw (⟨bc,l⟩,⟨bv,v.flat⟩,(q:Int),())=some (.inl (⟨bc,l⟩,⟨bv,v.flat⟩,(w:Int),())):=by unfold pw;simp only[h0,aj,e63,aG,hA,nT,aD,hU,hW,hs1,hs3,aQ d1];exact hX
    rw[fE hY];unfold Kx at ht;cases hZ:ls.find? (gK x) with
    |some n=>
     rw[hZ] at ht;have ht:cg l w (sub n):=ht;rw[<-hT] at ht;dsimp only at ht;have hnm:=zZ hZ;have hlm:gK x n=true:=List.find?_some hZ;obtain⟨v1,v2,v3⟩:=z2m hL hI hx hO (hQ n hnm) hlm;have h9:(kP L (a,T) n).length=(fq x).length:=by rw[EL,FO];exact v1.symm
     have h8:=(QI hL hI he.FP hc n).1;have hE:=qzg hN hx1 (hQ n hnm) hlm (r0::rs) fun r hr=>by have h5:=he.row r hr;have hH:=h5.2 i _ _ (NL (hC r hr)) hc;refine⟨by rw[h5.1,hxl],NK hH.1,fun hwr=>⟨hH.1,fun hln=>?_⟩⟩;have:=(qrn hL hI hx hH hwr).1;rw[hln] at this;exact⟨by rw[this,v1],fun h23=>v3 (by rw[<-hln];exact h23)⟩
     rw[<-hE];rw[h9] at ht;have aae:=QJ he hi n (fq x).length hg hw;refine ih _ _ (ps.take i++(FQ p ((iC L T n.2.1).getD []).length++ps.drop (i+1))) (seen++[p]) _ (by have:=qg8 hL hI he hc n hg hw;rwa [h9] at this) om (by rw[EL,FO] at h8;exact hp.under h6 _ h8 a hpa) (fun p' hm=>?_) ?_ (fun j p' y hj hy=>?_) (fun j y c' hy ho=>?_) w ht
     ·rcases zL.1 hm with hm|hm
      ·have:=hJ p' (List.mem_of_mem_take hm);omega
      ·rcases zL.1 hm with hm|hm
       ·obtain⟨j,_,rfl⟩:=zS.1 hm;have:=hJ p hpm;rw[zt];show p.length+1+_<=_;omega
       ·have:=hJ p' (List.mem_of_mem_drop hm);omega
     ·simp only[zt,zO,zX];rw[h9];omega
     ·rw[uR ps i j _ om] at hj;rw[uR xs i j _ om] at hy;have hpk:(FQ p ((iC L T n.2.1).getD []).length).length=(fq x).length:=by unfold FQ;rw[zA,List.length_range,v1]
      rw[hpk] at hj;by_cases c1:j<i
      ·rw[if_pos c1] at hj hy;exact hK j p' y hj hy
      ·rw[if_neg c1] at hj hy;by_cases c2:j<i+(fq x).length
       ·rw[if_pos c2] at hj hy;unfold FQ at hj;rw[zU,List.getElem?_range om] at hj;injection hj with hj;subst hj;have key:∀(p:List Nat) (u z:F) (d:Nat),oo u p=some x->(fq x)[d]?=some z->oo u (p++[d])=some z:=by
         intro p
         induction p with
         |nil=>intro u z d h1 h2;injection h1 with h1;subst h1;show(match(fq u)[d]? with|none=>none|some x=>oo x [])=some z;rw[h2];rfl
         |cons e p SX=>
          intro u z d h1 h2;unfold oo at h1;show(match(fq u)[e]? with|none=>none|some x=>oo x (p++[d]))=some z;cases hk:(fq u)[e]? with
          |none=>rw[hk] at h1;cases h1
          |some u'=>rw[hk] at h1;exact SX u' z d h1 h2
        exact key p v y (j-i) hpx hy
       ·rw[if_neg c2] at hj hy;exact hK _ p' y hj hy
     ·rw[uR xs i j _ om] at hy;rw[uR av i j _ hi,h9] at ho;by_cases c1:j<i
      ·rw[if_pos c1] at hy ho;exact hG j y c' hy ho
      ·rw[if_neg c1] at hy ho;by_cases c2:j<i+(fq x).length
       ·rw[if_pos c2] at hy ho;rw[EL] at ho;exact v2 (j-i) y c'.2 hy (QH ho).1
       ·rw[if_neg c2] at hy ho;exact hG _ y c' hy ho
    |none=>
     rw[hZ] at ht;have ht:cg l w TL:=ht;have hB:=List.find?_eq_none.1 hZ;have hF:Nat.beq ls.length (dZ L (a,T).2)=false:=by
      cases hb:Nat.beq ls.length (dZ L (a,T).2) with
      |false=>rfl
      |true=>
       have hne:ls≠[]:=fun h=>by have:=hS r0 hg hw;rw[h] at this;cases this
       obtain⟨n,h1,h2⟩:=z2l hI aaa hx hO ls hne hR hP (zh hb);exact absurd h2 (hB n h1)
     rw[hF,cond_false] at hTL;rw[<-hTL] at ht;have hE:=z64 hN hx1 (r0::rs) fun r hr=>by
      have h5:=he.row r hr;have hH:=h5.2 i _ _ (NL (hC r hr)) hc;refine⟨by rw[h5.1,hxl],NK hH.1,fun hwr=>⟨hH.1,?_⟩⟩;cases hh:gK x (cZ (atR r i)) with
      |false=>rfl
      |true=>exact absurd hh (hB _ (hS r hr hwr))
     rw[<-hE];have aae:=QK he hi hg hw;have EO:∀{α:Type} (u:List α) (j:Nat),i<u.length->(u.take i++u.drop (i+1))[j]?=if j<i then u[j]? else u[j+1]?:=fun u j hu=>by
      have:=uR u i j [] hu;rw[List.nil_append] at this;rw[this];by_cases c1:j<i
      ·rw[if_pos c1,if_pos c1]
      ·rw[if_neg c1,if_neg c1,if_neg (by simp;omega)];rfl
     refine ih _ _ (ps.take i++ps.drop (i+1)) (seen++[p]) _ (qpb he hi hg hw) om (hp.cut h6) (fun p' hm=>?_) ?_ (fun j p' y hj hy=>?_) (fun j y c' hy ho=>?_) w ht
     ·have:p'∈ps:=by
       rcases zL.1 hm with hm|hm
       ·exact List.mem_of_mem_take hm
       ·exact List.mem_of_mem_drop hm
      have:=hJ p' this;omega
     ·simp only[zt,zO,zX];omega
     ·rw[EO ps j om] at hj;rw[EO xs j om] at hy;by_cases c1:j<i
      ·rw[if_pos c1] at hj hy;exact hK j p' y hj hy
      ·rw[if_neg c1] at hj hy;exact hK _ p' y hj hy
     ·rw[EO xs j om] at hy;rw[EO av j hi] at ho;by_cases c1:j<i
      ·rw[if_pos c1] at hy ho;exact hG j y c' hy ho
      ·rw[if_neg c1] at hy ho;exact hG _ y c' hy ho
theorem z3n(v:F):∀(fs:List F) (k:Nat),fe (fun f=>kY f v) k fs=kR ((fs.zipIdx k).map fun e=>(([e.1],(e.2:Int)):aY)) [v]
 |[],_=>rfl
 |f::fs,k=>by
  have ih:=z3n v fs (k+1);have hr:j4 [v] (([f],(k:Int)):aY)=kY f v:=by show(kY f v&&true)=_;rw[Bool.and_true]
  unfold fe;rw[ih,List.zipIdx_cons,zQ];unfold kR;rw[List.find?_cons,hr];cases kY f v<;>rfl
theorem qzh{L:List DD}{T:List ND}(b:Bool)(P:List SN)(fs:List F)(hP:P.map Sl.l=fs.map F.flat)(h6:fs.length<=100)(hp:∀p,p∈P->NC L T p.l/\p.l.length<=30/\GL p.l)(v:F)(hv:v.aq=1)(hk:v.size<=4000)(gv:GL v.flat)(hc:pF v.flat=true)(hf:∀f,f∈fs->f.aq=1):Bn (⟨b,P⟩,⟨false,v.flat⟩,())=some (kR (jJ fs) [v],()):=by
 have he:P.length=fs.length:=xS hP;obtain⟨k',t',n',ks',rfl⟩:=oi v hv;have hk:ks'.size+0+1<=4000:=hk;have e:aH sG (⟨b,P⟩,⟨false,(tr k' t' n' ks').flat⟩,aa P,0,())=some (fe (fun f=>kY f (tr k' t' n' ks')) 0 fs,()):=by
  refine pE sG (fun k=>(⟨b,P⟩,⟨false,(tr k' t' n' ks').flat⟩,aa P,k,())) (fun z=>(z,())) fs om (fun f=>kY f (tr k' t' n' ks')) ?_ ?_
  ·intro j f hx hj;obtain⟨⟨sb,sl⟩,g1,g2⟩:=Cl hP hx;have g2:sl=f.flat:=g2;subst g2;obtain⟨⟨k,t,n,ks,q1,q2,_⟩,q4,q5⟩:=hp _ (zj g1);have q1:f.flat=(tr k t n ks).flat:=q1;have q4:f.flat.length<=30:=q4;have q5:GL f.flat:=q5;have hl:=hf f (zj hx);obtain⟨k2,t2,n2,IP,rfl⟩:=oi f hl;obtain⟨u1,u2,u3,u4⟩:=Nx q1;subst u1 u2 u3 u4;rw[kO] at q4;obtain⟨A,hA,_⟩:=qa6 sb (k:=k2) (t:=t2) (n:=n2) (ks:=IP) (k':=k') (t':=t') (n':=n') (ks':=ks') om q5 om gv q2 hc;unfold sG;simp only[cJ g1,aG,aQ g1,aj,WQ,hA,aI (show j<=1000000000 by omega)];unfold kY;cases nU (tr k2 t2 n2 IP) (tr k' t' n' ks')<;>rfl
  ·have hg:aA ((fs.length:Nat):Int) (aa P)=false:=by rw[<-he];exact dB P
   unfold sG;simp only[hg,aD]
 rw[WS,WR];refine(EG e _).trans ?_;rw[z3n];rfl
theorem qzi(b0 b1:Bool)(L:List DD)(hL:GD L)(hg:qD L=true){T:List ND}(he:pH T)(v:List ND)(hv:v.length<=4000)(gv:GL v):∃c:Bool,Bl (⟨b0,L⟩,⟨b1,T⟩,⟨false,v⟩,())=some (c,())/\(c=true->pF v=true/\∃x:F,v=x.flat/\FR L x T):=by
 obtain⟨kT,tT,nT',ksT,rfl,hn,hj,hl⟩:=he;have d1:nG ((⟨b0,L⟩:Sl DD),())=some (Cj L,()):=ZG ⟨b0,L⟩ hL;have hk:=Qy L;rw[hg] at hk;have t1:=Nr b1 (tr kT tT nT' ksT).flat (by rw[kO];omega) hl;rw[hj] at t1;have e0:af (0:Int) 0=true:=id (Eq.refl _);have hf:=ZZ false v om gv;rw[WO,d1,t1];simp only[aj,hk,aG,cond_true,e0,hf];cases hm:pF v with
 |false=>exact⟨false,rfl,fun h=>by cases h⟩
 |true=>obtain⟨k,t,n,ks,rfl,hs,hc⟩:=z1x hm;have hP:(tr k t n ks).flat.all xt=true:=zJ.2 fun z hz=>z7i (zJ.1 hc z hz);have hh:=z7j ⟨b0,L⟩ hL (Ku hg).1 k t n ks hs hP ⟨b1,(tr kT tT nT' ksT).flat⟩ hj false;simp only[aG,hh,aj];exact⟨_,rfl,fun h=>⟨trivial,tr k t n ks,rfl,rfl,by show ks.size+0+1<=4000;omega,hc,h⟩⟩
theorem qzj{L:List DD}(hL:GD L)(hm:qD L=true){T:List ND}(he:pH T)(fs:List F)(h6:fs.length<=8)(hf:∀f,f∈fs->uQ L f T/\f.size<=30)(hs:(cF L 1000 [([],T)] (jJ fs)).size<=4000)(hG:Good (cF L 1000 [([],T)] (jJ fs)) [])(x:F)(hx:FR L x T)(gx:GL x.flat)(hg:pF x.flat=true):uI (⟨false,(cF L 1000 [([],T)] (jJ fs)).flat⟩,⟨false,x.flat⟩,())=some (kR (jJ fs) [x],()):=by
 obtain⟨g1,_,g3⟩:=hG;have hj:=EM L 1000 [([],T)] (jJ fs) om;have hn:=qg9 false _ hj hs g3 g1;have hl:=qga x.flat (by rw[F.len];exact hx.2.1) gx;rw[hg] at hl;obtain⟨hk,ho⟩:=IT L T he fs h6 hf;have e0:af (0:Int) 0=true:=id (Eq.refl _);rw[We];simp only[hn,aj,e0,nT,aD,hl];exact z8m false false _ (by rw[F.len];exact hs) x hx.1 hx.2.1 L hL hm 1000 [([],T)] (jJ fs) [[]] [] [x] hk ho (z7s T) (fun p hp=>by rw[zI.1 hp];show 0+_<=_;omega) rfl (fun j p y hp hy=>by
   cases j with
   |zero=>injection hp with hp;injection hy with hy;subst hp hy;rfl
   |succ j=>cases hp) (fun j y c hy hc=>by
   cases j with
   |zero=>injection hy with hy;injection hc with hc;subst hy hc;exact hx
   |succ j=>cases hc) 0 ⟨[],by rw[zC];rfl⟩
theorem xw(b0 b1 b2 b3:Bool)(L:List DD)(T:List ND)(P:List SN)(v:List ND)(gd:BB L)(gT:gL T)(gP:∀p,p∈P->gL p.l)(hP:P.length<=9223372036854775807)(gv:gL v):cv (⟨b0,L⟩,⟨b1,T⟩,⟨b2,P⟩,⟨b3,v⟩,())=some (true,()):=by
 obtain⟨c,hc,hb⟩:=z3i ⟨b0,L⟩ gd ⟨b1,T⟩ ⟨b2,P⟩ hP;obtain⟨c2,e2,h2⟩:=QC ⟨false,[⟨b3,v⟩]⟩ (by show 1<=_;omega);rw[q9u,YP];simp only[aj,nT,aD,hc];cases c with
 |false=>rfl
 |true=>
  simp only[nT,aD,e2,aj];cases c2 with
  |false=>rfl
  |true=>
   obtain⟨hL,fT,h6,fP⟩:=hb rfl;have hL:GD L:=hL;have fT:gI 30 T:=fT;have h6:P.length<=6:=h6;have fP:∀p,p∈P->gI 30 p.l:=fP;have fv:gI 30 v:=(h2 rfl).2 ⟨b3,v⟩ (zf ..);have lT:=fT.1;have lv:=fv.1;have ht:=IS gT fT;have Gv:=IS gv fv;have o1:=EJ b1 T om;have o3:=EJ b3 v om;have hf:=NF L hL.1;have e0:(⟨aR false (dI L),app ([]:List DD) L⟩:Sl DD)=⟨false,L⟩:=rfl;have he:=qmz ⟨b2,P⟩ (by show P.length<=_;omega) (fun x hx=>by have:=(fP x hx).1;omega);have he:GK (⟨b2,P⟩,())=some (⟨false,P.map fun x=>(⟨false,x.l⟩:SN)⟩,()):=he;have hg:=qk5 fP gP;have hj:=qn0 L hL T om ht (P.map fun x=>(⟨false,x.l⟩:SN)) (by rw[zA];exact h6) hg false false false;have IV:af (120:Int) 0=false:=id (Eq.refl _);have z131:af (131:Int) 0=false:=id (Eq.refl _);have z0:af (0:Int) 0=true:=id (Eq.refl _);simp only[nT,aD,hf,aj,o1,he,e0];rcases hj with ⟨h1,h2⟩|⟨h1,hn,hk,fs,f1,f2,h2⟩
   ·simp only[h2,aj,IV,nF,aG]
   ·rw[h2];by_cases hs:(cF L 1000 [([],T)] (jJ fs)).size<=4000
    ·obtain⟨ch,hu,hv⟩:=qzi false false L hL hn hk v om Gv;rw[if_pos hs];simp only[aj,z0,nT,aD,o3,hu];cases ch with
     |false=>simp only[nF,aG]
     |true=>obtain⟨hm,x,rfl,hx⟩:=hv rfl;have ho:=xS f1;rw[zA] at ho;have hG:=qi9 hL hn hk f1 (by rw[zA];exact h6) (fun p hp=>(hg p hp).2) f2;have o2:=EJ false (cF L 1000 [([],T)] (jJ fs)).flat (by rw[F.len];omega);have hq:=qzj hL hn hk fs om f2 hs hG x hx Gv hm;rw[zd] at h1;have hl:=qzh (L:=L) (T:=T) false (P.map fun x=>(⟨false,x.l⟩:SN)) fs f1 om (fun p hp=>⟨(nn.1 (zJ.1 h1.1 p hp)).2.2,hg p hp⟩) x hx.1 hx.2.1 Gv hm (fun f hw=>NK (f2 f hw).1.1);simp only[nT,aD,o2,aj,hq,hl,xL]
    ·rw[if_neg hs];simp only[aj,z131,nF,aG]
abbrev tyN:Ty:=.st (.pair (.int .i64) (.pair .str (.pair (.int .i64) (.int .i64))))
abbrev tyC:Ty:=.st (.pair .str (.sl (.sl tyN)))
abbrev tyD:Ty:=.st (.pair .str (.pair (.int .i64) (.sl tyC)))
theorem qpk{s:Tx}(h:mE .str s):gW s:=fun b hb=>by have:=h.2 b hb;omega
theorem gM{s:SN}(h:mE (.sl tyN) s):gL s.l:=fun x hx=>by obtain⟨_,h2,h4,_⟩:=h.2.2 x hx;exact⟨qpk h2,CS.1 h4⟩
theorem we{s:Sl DD}(h:mE (.sl tyD) s):BB s.l:=fun d hd=>by obtain⟨h1,_,h3⟩:=h.2.2 d hd;refine⟨qpk h1,fun c hc=>?_⟩;obtain⟨h4,h5⟩:=h3.2.2 c hc;exact⟨qpk h4,fun t ht=>gM (h5.2.2 t ht)⟩
theorem nr{s:Sl SN}(h:mE (.sl (.sl tyN)) s):(∀x,x∈s.l->gL x.l)/\s.l.length<=9223372036854775807:=⟨fun x hx=>gM (h.2.2 x hx),h.1⟩
end Fn
end Ev