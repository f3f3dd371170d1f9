/- Layer 13 in plain words: the choice, the reference, and the law. No statement of its own about the program. -/
import Derived.Test.YtfgngipmbogcjaaGreatDoorPlainB
namespace Ev
open Go
namespace Fn
abbrev cI:=Int×Tx×Int
abbrev bI:=List F×Int
abbrev cY:=Tx×List ND
def fu:F->cI
 |.cons k t n _ _=>(k,t,n)
 |.nil=>(0,[],0)
def wF:F->List F
 |.cons _ _ _ ks _=>ks.bY
 |.nil=>[]
def Mx(k:Int):Bool:=af k 21||af k 22
def fE(p:F):Bool:=Mx (fu p).1
def iW:F:=tr 21 [] 0 .nil
def nB(r:bI)(i:Nat)(q:List F):bI:=(r.1.take i++(q++r.1.drop (i+1)),r.2)
def atR(r:bI)(i:Nat):F:=r.1.getD i iW
def ef(i:Nat):List bI->List cI->List cI
 |[],acc=>acc
 |r::rs,acc=>ef i rs (bif fE (atR r i)||acc.contains (fu (atR r i)) then acc else acc++[fu (atR r i)])
def iN(i:Nat)(n:cI)(k:Nat)(r:bI):Option bI:=bif fE (atR r i) then some (nB r i (List.replicate k iW)) else bif fu (atR r i)==n then some (nB r i (wF (atR r i))) else none
def dV(i:Nat)(r:bI):Option bI:=bif fE (atR r i) then some (nB r i []) else none
def wG(a:Tx)(j:Nat):Tx:=bif aS a [] then pF j else a++[46]++pF j
noncomputable def lD(L:List DD)(c:cY)(n:cI):List cY:=((lB L c.2 n.2.1).getD []).zipIdx.map fun e=>(wG c.1 e.2,e.1)
def dI(L:List DD)(T:List ND):Nat:=match L.find? (fun d=>aS d.1 (hd T).2.1) with
 |some d=>d.2.2.l.length
 |none=>0
def cZ(sub:cI->F)(ls:List cI):F:=ls.foldr (fun n acc=>(tr n.1 n.2.1 n.2.2 .nil).app ((sub n).app acc)) .nil
noncomputable def cN(L:List DD):Nat->List cY->List bI->F
 |0,_,_=>.nil
 |m+1,aw,rows=>match rows with
  |[]=>tr 62 [] 0 .nil
  |r0::_=>match r0.1.findIdx? (fun p=>!fE p) with
   |none=>tr 61 [] r0.2 .nil
   |some i=>tr 63 (aw.getD i ([],[])).1 0 ((cZ (fun n=>cN L m (aw.take i++(lD L (aw.getD i ([],[])) n++aw.drop (i+1))) (rows.filterMap (iN i n (lD L (aw.getD i ([],[])) n).length))) (ef i rows [])).app
     (bif Nat.beq (ef i rows []).length (dI L (aw.getD i ([],[])).2) then tr 62 [] 0 .nil else cN L m (aw.take i++aw.drop (i+1)) (rows.filterMap (dV i))))
def wt(p:F):Nat:=(p.flat.filter fun x=>!Mx x.1).length
def oU(r:bI):Nat:=(r.1.map wt).sum
def mu(rows:List bI):Nat:=(rows.map oU).sum
theorem z4e:wt iW=0:=rfl
theorem z2t(k:Nat):((List.replicate k iW).map wt).sum=0:=by
 induction k with
 |zero=>rfl
 |succ k ih=>rw[List.replicate_succ,zM,List.sum_cons,ih,z4e]
theorem qwg:∀f:F,(f.bY.map wt).sum=wt f
 |.nil=>rfl
 |.cons k t n ks r=>by have ih:=qwg r;show wt (tr k t n ks)+(r.bY.map wt).sum=_;rw[ih];unfold wt;show(((k,t,n,(ks.aA:Int))::(ks.flat++[])).filter _).length+_=(((k,t,n,(ks.aA:Int))::(ks.flat++r.flat)).filter _).length;rw[zE,List.filter_cons,List.filter_cons,List.filter_append];split<;>simp<;>omega
theorem qwh{p:F}(h:fE p=false)(hp:p.aA=1):((wF p).map wt).sum+1=wt p:=by obtain⟨k,t,n,ks,rfl⟩:=HT p hp;show(ks.bY.map wt).sum+1=_;rw[qwg];unfold wt;show _=(((k,t,n,(ks.aA:Int))::(ks.flat++[])).filter _).length;have h:Mx k=false:=h;rw[zE,List.filter_cons];simp[h]
theorem PJ{r:bI}{i:Nat}(h:i<r.1.length)(q:List F):oU (nB r i q)+wt (atR r i)=oU r+(q.map wt).sum:=by
 obtain⟨l,a⟩:=r;have h:i<l.length:=h;unfold oU nB atR;simp only[zA,List.sum_append];have e:l=l.take i++(l[i]::l.drop (i+1)):=by rw[List.getElem_cons_drop,List.take_append_drop]
 have e2:(l.map wt).sum=((l.take i).map wt).sum+(wt l[i]+((l.drop (i+1)).map wt).sum):=by
  conv=>lhs;rw[e]
  rw[zA,List.sum_append,zM,List.sum_cons]
 rw[e2,List.getD_eq_getElem?_getD,ze h];simp only[Option.getD_some];omega
def jV(r:bI):Prop:=∀p,p∈r.1->p.aA=1
theorem Yh{r:bI}{i:Nat}(h:i<r.1.length):atR r i∈r.1:=by unfold atR;rw[List.getD_eq_getElem?_getD,ze h];exact List.getElem_mem h
theorem PK{r:bI}{i:Nat}(hi:i<r.1.length)(ht:jV r)(hw:fE (atR r i)=false):0<oU r:=by have h1:=PJ hi [];have h2:=qwh hw (ht _ (Yh hi));simp at h1;omega
theorem qzi{i:Nat}{n:cI}{k:Nat}{r r':bI}(hi:i<r.1.length)(ht:jV r)(h:iN i n k r=some r'):oU r'<=oU r/\(fE (atR r i)=false->oU r'<oU r):=by
 unfold iN at h;cases hw:fE (atR r i) with
 |true=>rw[hw,cond_true] at h;injection h with h;subst h;have h1:=PJ hi (List.replicate k iW);rw[z2t] at h1;exact⟨by omega,fun e=>by cases e⟩
 |false=>
  rw[hw,cond_false] at h;cases hl:(fu (atR r i)==n) with
  |false=>rw[hl] at h;cases h
  |true=>rw[hl,cond_true] at h;injection h with h;subst h;have h1:=PJ hi (wF (atR r i));have h2:=qwh hw (ht _ (Yh hi));exact⟨by omega,fun _=>by omega⟩
theorem z4f{i:Nat}{r r':bI}(hi:i<r.1.length)(h:dV i r=some r'):oU r'<=oU r/\fE (atR r i)=true:=by
 unfold dV at h;cases hw:fE (atR r i) with
 |false=>rw[hw] at h;cases h
 |true=>rw[hw,cond_true] at h;injection h with h;subst h;have h1:=PJ hi [];simp at h1;exact⟨by omega,rfl⟩
theorem z58(nb:Bool)(xs:List (Sl SN))(hl:xs.length<=1000000)(hx:(xs.map fun x=>x.l.length).sum<=100000)(a0:Sl SN)(h0:a0.l=[]):aG qx (⟨nb,xs⟩,aa xs,0,a0,())=some (Sum.inr (xs.foldl (fun(a x:Sl SN)=>(⟨aP a.nil (cR x.l),app a.l x.l⟩:Sl SN)) a0,())):=by
 refine rG qx (fun k a=>(⟨nb,xs⟩,aa xs,k,a,())) xs (fun(a x:Sl SN)=>(⟨aP a.nil (cR x.l),app a.l x.l⟩:Sl SN)) (fun a=>Sum.inr (a,())) (fun k a=>k<=xs.length/\a.l.length+((xs.drop k).map fun x=>x.l.length).sum<=100000) a0 ⟨Nat.zero_le _,by rw[h0];simpa using hx⟩ ?_ ?_
 ·intro k x a hk hi;have he:=(zB.1 hk).1;have hd:xs.drop k=x::xs.drop (k+1):=by rw[rh he];congr 1;exact(zB.1 hk).2
  have h2:=hi.2;rw[hd,zM,List.sum_cons] at h2;have hc:fit (aK (aa a.l) (aa x.l))=some ():=eM (by show a.l.length+x.l.length<=_;omega);refine⟨?_,by omega,?_⟩
  ·unfold qx;simp only[cE hk,aI,aT hk,aj,hc,aH (show k<=1000000000 by omega)]
  ·show(a.l++x.l).length+_<=_;rw[zm];omega
 ·intro a _;unfold qx;simp only[cQ,aF]
theorem z4g:∀(xs:List (Sl SN)) (a0:Sl SN),(xs.foldl (fun(a x:Sl SN)=>(⟨aP a.nil (cR x.l),app a.l x.l⟩:Sl SN)) a0).l=a0.l++(xs.map Sl.l).flatten
 |[],a=>by simp
 |x::xs,a=>by rw[List.foldl_cons,z4g xs];show(a.l++x.l)++_=_;simp
theorem qwi(nb:Bool)(xs:List (Sl SN))(hl:xs.length<=1000000)(hx:(xs.map fun x=>x.l.length).sum<=100000):∃b,nr (⟨nb,xs⟩,())=some (⟨b,(xs.map Sl.l).flatten⟩,()):=by
 have key:∃b,aG qy (⟨nb,xs⟩,0,⟨nb,xs⟩,aa xs,0,())=some (⟨b,(xs.map Sl.l).flatten⟩,()):=by
  refine⟨(xs.foldl (fun(a x:Sl SN)=>(⟨aP a.nil (cR x.l),app a.l x.l⟩:Sl SN)) ⟨decide ((((xs.map fun x=>x.l.length).sum:Nat):Int)=0),[]⟩).nil,?_⟩;refine(rG qy (fun k n=>(⟨nb,xs⟩,n,⟨nb,xs⟩,aa xs,k,())) xs (fun(n:Int) (x:Sl SN)=>n+aa x.l) (fun _=>(⟨(xs.foldl (fun(a x:Sl SN)=>(⟨aP a.nil (cR x.l),app a.l x.l⟩:Sl SN)) ⟨decide ((((xs.map fun x=>x.l.length).sum:Nat):Int)=0),[]⟩).nil,(xs.map Sl.l).flatten⟩,())) (fun k n=>k<=xs.length/\0<=n/\n+(((xs.drop k).map fun x=>x.l.length).sum:Nat)=((xs.map fun x=>x.l.length).sum:Nat)) 0 ⟨Nat.zero_le _,Int.le_refl _,by simp⟩ ?_ ?_)
  ·intro k x n hk hi;have he:=(zB.1 hk).1;have hd:xs.drop k=x::xs.drop (k+1):=by rw[rh he];congr 1;exact(zB.1 hk).2
   have h2:=hi.2.2;rw[hd,zM,List.sum_cons] at h2;have h3:=hi.2.1;have hn:ar .i64 n (aa x.l)=n+aa x.l:=AO (by unfold aa;omega) (by unfold aa;omega);have hc:aB (n+aa x.l) 0=false:=zn (by unfold aa;omega);refine⟨?_,by omega,by show 0<=n+aa x.l;unfold aa;omega,by show n+aa x.l+_=_;unfold aa;omega⟩;unfold qy;simp only[cE hk,aI,aT hk,aj,hn,hc,aF,aH (show k<=1000000000 by omega)]
  ·intro n hi;have h2:=hi.2.2;rw[List.drop_length] at h2;have h2:n=((xs.map fun x=>x.l.length).sum:Nat):=by simpa using h2
   subst h2;unfold qy;have hg:s5 (⟨true,[]⟩,(((xs.map fun x=>x.l.length).sum:Nat):Int),())=some (⟨decide ((((xs.map fun x=>x.l.length).sum:Nat):Int)=0),[]⟩,()):=by
    unfold s5
    have d1:decide ((0:Int)<=(((xs.map fun x=>x.l.length).sum:Nat):Int))=true:=zu om;have d2:decide ((((xs.map fun x=>x.l.length).sum:Nat):Int)<=1000000)=true:=zu om;rw[d1,d2];rfl
   simp only[cQ,aF,hg,aj];rw[z58 nb xs hl hx _ rfl];have e:=z4g xs ⟨decide ((((xs.map fun x=>x.l.length).sum:Nat):Int)=0),[]⟩;rw[List.nil_append] at e;rw[<-e]
 obtain⟨b,e⟩:=key;exact⟨b,by rw[Uw];exact e⟩
theorem qzj(nb:Bool)(xs:List (Sl (Tx×SN)))(hl:xs.length<=1000000)(hx:(xs.map fun x=>x.l.length).sum<=100000)(a0:Sl (Tx×SN))(h0:a0.l=[]):aG qz (⟨nb,xs⟩,aa xs,0,a0,())=some (Sum.inr (xs.foldl (fun(a x:Sl (Tx×SN))=>(⟨aP a.nil (cR x.l),app a.l x.l⟩:Sl (Tx×SN))) a0,())):=by
 refine rG qz (fun k a=>(⟨nb,xs⟩,aa xs,k,a,())) xs (fun(a x:Sl (Tx×SN))=>(⟨aP a.nil (cR x.l),app a.l x.l⟩:Sl (Tx×SN))) (fun a=>Sum.inr (a,())) (fun k a=>k<=xs.length/\a.l.length+((xs.drop k).map fun x=>x.l.length).sum<=100000) a0 ⟨Nat.zero_le _,by rw[h0];simpa using hx⟩ ?_ ?_
 ·intro k x a hk hi;have he:=(zB.1 hk).1;have hd:xs.drop k=x::xs.drop (k+1):=by rw[rh he];congr 1;exact(zB.1 hk).2
  have h2:=hi.2;rw[hd,zM,List.sum_cons] at h2;have hc:fit (aK (aa a.l) (aa x.l))=some ():=eM (by show a.l.length+x.l.length<=_;omega);refine⟨?_,by omega,?_⟩
  ·unfold qz;simp only[cE hk,aI,aT hk,aj,hc,aH (show k<=1000000000 by omega)]
  ·show(a.l++x.l).length+_<=_;rw[zm];omega
 ·intro a _;unfold qz;simp only[cQ,aF]
theorem qpo:∀(xs:List (Sl (Tx×SN))) (a0:Sl (Tx×SN)),(xs.foldl (fun(a x:Sl (Tx×SN))=>(⟨aP a.nil (cR x.l),app a.l x.l⟩:Sl (Tx×SN))) a0).l=a0.l++(xs.map Sl.l).flatten
 |[],a=>by simp
 |x::xs,a=>by rw[List.foldl_cons,qpo xs];show(a.l++x.l)++_=_;simp
theorem qca(nb:Bool)(xs:List (Sl (Tx×SN)))(hl:xs.length<=1000000)(hx:(xs.map fun x=>x.l.length).sum<=100000):∃b,oJ (⟨nb,xs⟩,())=some (⟨b,(xs.map Sl.l).flatten⟩,()):=by
 have key:∃b,aG qA (⟨nb,xs⟩,0,⟨nb,xs⟩,aa xs,0,())=some (⟨b,(xs.map Sl.l).flatten⟩,()):=by
  refine⟨(xs.foldl (fun(a x:Sl (Tx×SN))=>(⟨aP a.nil (cR x.l),app a.l x.l⟩:Sl (Tx×SN))) ⟨decide ((((xs.map fun x=>x.l.length).sum:Nat):Int)=0),[]⟩).nil,?_⟩;refine(rG qA (fun k n=>(⟨nb,xs⟩,n,⟨nb,xs⟩,aa xs,k,())) xs (fun(n:Int) (x:Sl (Tx×SN))=>n+aa x.l) (fun _=>(⟨(xs.foldl (fun(a x:Sl (Tx×SN))=>(⟨aP a.nil (cR x.l),app a.l x.l⟩:Sl (Tx×SN))) ⟨decide ((((xs.map fun x=>x.l.length).sum:Nat):Int)=0),[]⟩).nil,(xs.map Sl.l).flatten⟩,())) (fun k n=>k<=xs.length/\0<=n/\n+(((xs.drop k).map fun x=>x.l.length).sum:Nat)=((xs.map fun x=>x.l.length).sum:Nat)) 0 ⟨Nat.zero_le _,Int.le_refl _,by simp⟩ ?_ ?_)
  ·intro k x n hk hi;have he:=(zB.1 hk).1;have hd:xs.drop k=x::xs.drop (k+1):=by rw[rh he];congr 1;exact(zB.1 hk).2
   have h2:=hi.2.2;rw[hd,zM,List.sum_cons] at h2;have h3:=hi.2.1;have hn:ar .i64 n (aa x.l)=n+aa x.l:=AO (by unfold aa;omega) (by unfold aa;omega);have hc:aB (n+aa x.l) 0=false:=zn (by unfold aa;omega);refine⟨?_,by omega,by show 0<=n+aa x.l;unfold aa;omega,by show n+aa x.l+_=_;unfold aa;omega⟩;unfold qA;simp only[cE hk,aI,aT hk,aj,hn,hc,aF,aH (show k<=1000000000 by omega)]
  ·intro n hi;have h2:=hi.2.2;rw[List.drop_length] at h2;have h2:n=((xs.map fun x=>x.l.length).sum:Nat):=by simpa using h2
   subst h2;unfold qA;have hg:s8 (⟨true,[]⟩,(((xs.map fun x=>x.l.length).sum:Nat):Int),())=some (⟨decide ((((xs.map fun x=>x.l.length).sum:Nat):Int)=0),[]⟩,()):=by unfold s8;have d1:decide ((0:Int)<=(((xs.map fun x=>x.l.length).sum:Nat):Int))=true:=zu om;have d2:decide ((((xs.map fun x=>x.l.length).sum:Nat):Int)<=1000000)=true:=zu om;rw[d1,d2];rfl
   simp only[cQ,aF,hg,aj];rw[qzj nb xs hl hx _ rfl];have e:=qpo xs ⟨decide ((((xs.map fun x=>x.l.length).sum:Nat):Int)=0),[]⟩;rw[List.nil_append] at e;rw[<-e]
 obtain⟨b,e⟩:=key;exact⟨b,by rw[UC];exact e⟩
theorem rJ{σ ρ:Type}(f:σ->Option (σ⊕ρ))(N:Nat)(I:Nat->σ->Prop)(eT:ρ->Prop)(step:∀k s,k<N->I k s->∃q,f s=some q/\match q with|.inl s'=>I (k+1) s'|.inr r=>eT r)(hc:∀s,I N s->∃r,f s=some (.inr r)/\eT r){s0:σ}(h0:I 0 s0):∃r,aG f s0=some r/\eT r:=by
 have aux:∀(m k:Nat) (s:σ),k+m=N->I k s->∃r,aG f s=some r/\eT r:=by
  intro m
  induction m with
  |zero=>
   intro k s hk hi;obtain rfl:k=N:=om
   obtain⟨r,e,hp⟩:=hc s hi;exact⟨r,dS e,hp⟩
  |succ m ih=>
   intro k s hk hi;obtain⟨q,e,hq⟩:=step k s om hi;cases q with
   |inr r=>exact⟨r,dS e,hq⟩
   |inl s'=>rw[gH e];exact ih (k+1) s' om hq
 exact aux N 0 s0 om h0
theorem EA(b:Bool)(p:F)(hp:p.aA=1):kH (⟨b,p.flat⟩,())=some (fE p,()):=by obtain⟨k,t,n,ks,rfl⟩:=HT p hp;rw[Uo];show ag (some (k,t,n,(ks.aA:Int))) _=_;simp only[aj];show ag (aq (af k 21) (some true) (ag (some (k,t,n,(ks.aA:Int))) _)) _=some (af k 21||af k 22,());simp only[aj];cases af k 21<;>rfl
theorem PL(b:Bool)(p:F)(hp:p.aA=1):lX (⟨b,p.flat⟩,())=some (((fu p).1,(fu p).2.1,(fu p).2.2,0),()):=by obtain⟨k,t,n,ks,rfl⟩:=HT p hp;rw[Ut];rfl
theorem qwj(x):p0 x=lU x:=rfl
theorem qna(b:Bool)(p:F)(hp:p.aA=1)(hl:p.size<=10000):∃nb,p0 (⟨b,p.flat⟩,())=some (⟨nb,(wF p).map fun q=>(⟨b,q.flat⟩:SN)⟩,()):=by obtain⟨k,t,n,ks,rfl⟩:=HT p hp;have h1:ks.size+1<=10000:=hl;obtain⟨nb,h⟩:=qgo b k t n ks h1;refine⟨nb,?_⟩;rw[qwj,h,<-F.cG,ja];rfl
abbrev cq:=Sl SN×Int
def fl(d:cq):List (List ND)×Int:=(d.1.l.map Sl.l,d.2)
def iK(r:bI):List (List ND)×Int:=(r.1.map F.flat,r.2)
theorem tx{α β γ:Type}{f:α->γ}{g:β->γ}{D:List α}{R:List β}(h:D.map f=R.map g){k:Nat}{r:β}(hr:R[k]?=some r):∃d,D[k]?=some d/\f d=g r:=by
 have e:(D.map f)[k]?=some (g r):=by rw[h,zV,hr];rfl
 rw[zV] at e;cases hd:D[k]? with
 |none=>rw[hd] at e;cases e
 |some d=>rw[hd] at e;injection e with e;exact⟨d,rfl,e⟩
theorem rK{α β γ:Type}{f:α->γ}{g:β->γ}{D:List α}{R:List β}(h:D.map f=R.map g):D.length=R.length:=by have:=congrArg List.length h;simpa using this
theorem qrx(b:Bool)(l:List SN)(ps:List F)(h:l.map Sl.l=ps.map F.flat)(ht:∀p,p∈ps->p.aA=1)(hl:ps.length<=1000000):pZ (⟨b,l⟩,())=some (fg (fun p=>!fE p) 0 ps,()):=by
 rw[Ur];have hc:aa l=aa ps:=by unfold aa;rw[rK h]
 refine ph ui (fun k=>(⟨b,l⟩,aa l,k,())) (fun z=>(z,())) ps hl (fun p=>!fE p) ?_ ?_
 ·intro k p hx hk;obtain⟨s,h1,h2⟩:=tx h hx;obtain⟨sb,sl⟩:=s;have h2:sl=p.flat:=h2;subst h2;unfold ui;simp only[cE h1,aI,aT h1,aj,Uq,EA _ p (ht p (zj hx)),aH (show k<=1000000000 by omega),av];cases fE p<;>rfl
 ·unfold ui;simp only[hc,cQ,aF]
theorem My{α:Type}{l:List α}{k:Nat}(h:k<=l.length):bG l (k:Int) (aa l)=some (l.drop k):=by unfold bG aa;rw[if_pos om];simp
theorem Yi{d:cq}{r:bI}(h:fl d=iK r){i:Nat}(hi:i<r.1.length){y:Sl SN}{q:List F}(hy:y.l.map Sl.l=q.map F.flat)(hs:r.1.length+q.length<=100000)(b0 b1 b2:Bool):bG d.1.l 0 (i:Int)=some (d.1.l.take i)/\bG d.1.l ((i+1:Nat):Int) (aa d.1.l)=some (d.1.l.drop (i+1))/\∃x:Sl SN,nr (⟨b0,[⟨b1,d.1.l.take i⟩,y,⟨b2,d.1.l.drop (i+1)⟩]⟩,())=some (x,())/\fl (x,d.2)=iK (nB r i q):=by obtain⟨⟨db,dl⟩,da⟩:=d;obtain⟨l,a⟩:=r;have h1:dl.map Sl.l=l.map F.flat:=congrArg Prod.fst h;have h2:da=a:=congrArg Prod.snd h;have hc:dl.length=l.length:=rK h1;have hq:y.l.length=q.length:=rK hy;have hi:i<l.length:=hi;have hs:l.length+q.length<=100000:=hs;subst h2;refine⟨Mi (by show i<=dl.length;omega),My (by show i+1<=dl.length;omega),?_⟩;obtain⟨b,e⟩:=qwi b0 [⟨b1,dl.take i⟩,y,⟨b2,dl.drop (i+1)⟩] (by simp) (by simp;omega);refine⟨_,e,?_⟩;unfold fl iK nB;simp only[zA,List.map_take,List.map_drop,h1,hy,zM,List.map_nil,List.flatten_cons,List.flatten_nil,zE]
theorem dW{d:cq}{r:bI}(h:fl d=iK r){i:Nat}(hi:i<r.1.length):∃b,aJ d.1.l (i:Int)=some (⟨b,(atR r i).flat⟩:SN):=by
 have h1:d.1.l.map Sl.l=r.1.map F.flat:=congrArg Prod.fst h;have h2:r.1[i]?=some (atR r i):=by unfold atR;rw[List.getD_eq_getElem?_getD,ze hi];rfl
 obtain⟨⟨sb,sl⟩,e1,e2⟩:=tx h1 h2;have e2:sl=(atR r i).flat:=e2;subst e2;exact⟨sb,aT e1⟩
def rL(i:Nat)(r:bI):Prop:=i<r.1.length/\r.1.length<=10000/\∀p,p∈r.1->p.aA=1/\p.size<=1000
theorem rL.at{i:Nat}{r:bI}(h:rL i r):(atR r i).aA=1/\(atR r i).size<=1000:=h.2.2 _ (Yh h.1)
theorem qgs(p:F):(wF p).length<=p.size:=by
 cases p with
 |nil=>exact Nat.zero_le _
 |cons k t n ks r=>show ks.bY.length<=ks.size+r.size+1;rw[F.iG];have:=F.cv ks;omega
theorem PM(p:F)(n:cI):aP (af (fu p).1 n.1) (aP (aS (fu p).2.1 n.2.1) (aP (af (fu p).2.2 n.2.2) (af 0 0)))=(fu p==n):=by
 obtain⟨a,b,c⟩:=fu p;obtain⟨a',b',c'⟩:=n;show _=((a==a')&&((b==b')&&(c==c')));have e0:af 0 0=true:=rfl;have e1:af a a'=(a==a'):=by unfold af;by_cases h:a=a'<;>simp[h]
 have e2:aS b b'=(b==b'):=by unfold aS;by_cases h:b=b'<;>simp[h]
 have e3:af c c'=(c==c'):=by unfold af;by_cases h:c=c'<;>simp[h]
 rw[e0,e1,e2,e3];cases (a==a')<;>cases (b==b')<;>cases (c==c')<;>rfl
theorem A2{α β:Type}(f:α->Option β){R:List α}{k:Nat}{r:α}(h:R[k]?=some r):(R.take (k+1)).filterMap f=(R.take k).filterMap f++(f r).toList:=by rw[List.take_add_one,h,List.filterMap_append];show _++List.filterMap f [r]=_;rw[List.filterMap_cons];cases f r<;>rfl
theorem qry(b:Bool)(D:List cq)(R:List bI)(hD:D.map fl=R.map iK)(hN:R.length<=100000)(i:Nat)(hi:i<=100000)(hq:∀r,r∈R->rL i r)(A:Sl SN)(n:cI)(kk:Nat)(hk:kk<=10000)(hA:A.l.map Sl.l=(List.replicate kk iW).map F.flat):∃q,p4 (A,n.1,n.2.1,n.2.2,0,⟨b,D⟩,(i:Int),())=some q/\∃D':Sl cq,q=(D',A,n.1,n.2.1,n.2.2,0,⟨b,D⟩,(i:Int),())/\D'.l.map fl=(R.filterMap (iN i n kk)).map iK:=by
 rw[Uy];have hg:D.length=R.length:=rK hD;refine rJ uk R.length
  (fun k s=>∃O:Sl cq,s=(⟨b,D⟩,aa D,(k:Int),A,n.1,n.2.1,n.2.2,0,⟨b,D⟩,(i:Int),O,())/\O.l.map fl=((R.take k).filterMap (iN i n kk)).map iK/\O.l.length<=k) _ ?_ ?_ ⟨⟨true,[]⟩,rfl,rfl,Nat.le_refl _⟩
 ·rintro k s hs ⟨⟨ob,ol⟩,rfl,h1,h2⟩;have hr:R[k]?=some R[k]:=ze hs;generalize R[k]=r at hr;have hc:=hq r (zj hr);obtain⟨d,hd,hj⟩:=tx hD hr;obtain⟨pb,hu⟩:=dW hj hc.1;obtain⟨ht,hx⟩:=hc.at
  have hv:aB (k:Int) (aa D)=true:=cE hd;have h2:ol.length<=k:=h2;have hf:∀x:cq,fit (aK (aa ol) (aa [x]))=some ():=fun x=>eM (by show ol.length+1<=_;omega);have ho:ar .i64 (i:Int) 1=((i+1:Nat):Int):=aH om;have hm:ar .i64 (k:Int) 1=((k+1:Nat):Int):=aH om;unfold uk;simp only[hv,aI,aT hd,aj,hu,Ux,EA _ _ ht];cases hw:fE (atR r i) with
  |true=>
   obtain⟨c1,c2,x,c3,c4⟩:=Yi hj hc.1 (q:=List.replicate kk iW) hA (by rw[List.length_replicate];have:=hc.2.1;omega) false d.1.nil d.1.nil;simp only[aI,aj,c1,ho,c2,c3,hf,hm];refine⟨_,rfl,_,rfl,?_,?_⟩
   ·show(ol++[(x,d.2)]).map fl=_;rw[A2 _ hr,zA,zA,<-h1];unfold iN;rw[hw];show _++[fl (x,d.2)]=_;rw[c4];rfl
   ·show(ol++[_]).length<=k+1;rw[zm];simp;omega
  |false=>
   obtain⟨nb,he⟩:=qna pb _ ht om;simp only[aF,aj,he,PL _ _ ht,PM];cases hl:(fu (atR r i)==n) with
   |true=>
    have hy:=qgs (atR r i);obtain⟨c1,c2,x,c3,c4⟩:=Yi hj hc.1 (y:=⟨nb,(wF (atR r i)).map fun q=>(⟨pb,q.flat⟩:SN)⟩) (q:=wF (atR r i)) (by rw[ja];rfl) (by have:=hc.2.1;omega) false d.1.nil d.1.nil;simp only[aI,aj,c1,ho,c2,c3,hf,hm];refine⟨_,rfl,_,rfl,?_,?_⟩
    ·show(ol++[(x,d.2)]).map fl=_;rw[A2 _ hr,zA,zA,<-h1];unfold iN;rw[hw,hl];show _++[fl (x,d.2)]=_;rw[c4];rfl
    ·show(ol++[_]).length<=k+1;rw[zm];simp;omega
   |false=>simp only[aF,aj,hm];refine⟨_,rfl,_,rfl,?_,by show ol.length<=_;omega⟩;rw[A2 _ hr,zA,<-h1];unfold iN;rw[hw,hl];simp
 ·rintro s ⟨O,rfl,h1,h2⟩;have hn:aB ((R.length:Nat):Int) (aa D)=false:=by rw[<-hg];exact cQ D
  unfold uk;simp only[hn,aF];refine⟨_,rfl,O,rfl,?_⟩;rw[h1,List.take_length]
theorem qzk(b:Bool)(D:List cq)(R:List bI)(hD:D.map fl=R.map iK)(hN:R.length<=100000)(i:Nat)(hi:i<=100000)(hl:∀r,r∈R->rL i r):∃q,p5 (⟨b,D⟩,(i:Int),())=some q/\∃D':Sl cq,q=(D',⟨b,D⟩,(i:Int),())/\D'.l.map fl=(R.filterMap (dV i)).map iK:=by
 rw[UA];have he:D.length=R.length:=rK hD;refine rJ um R.length
  (fun k s=>∃O:Sl cq,s=(⟨b,D⟩,aa D,(k:Int),⟨b,D⟩,(i:Int),O,())/\O.l.map fl=((R.take k).filterMap (dV i)).map iK/\O.l.length<=k) _ ?_ ?_ ⟨⟨true,[]⟩,rfl,rfl,Nat.le_refl _⟩
 ·rintro k s hm ⟨⟨ob,ol⟩,rfl,h1,h2⟩;have hr:R[k]?=some R[k]:=ze hm;generalize R[k]=r at hr;have hc:=hl r (zj hr);obtain⟨d,hd,hj⟩:=tx hD hr;obtain⟨pb,hn⟩:=dW hj hc.1;obtain⟨ht,hs⟩:=hc.at
  have ho:aB (k:Int) (aa D)=true:=cE hd;have h2:ol.length<=k:=h2;have hf:∀x:cq,fit (aK (aa ol) (aa [x]))=some ():=fun x=>eM (by show ol.length+1<=_;omega);have hq:ar .i64 (i:Int) 1=((i+1:Nat):Int):=aH om;have hk:ar .i64 (k:Int) 1=((k+1:Nat):Int):=aH om;unfold um;simp only[ho,aI,aT hd,aj,hn,Uz,EA _ _ ht];cases hw:fE (atR r i) with
  |true=>
   obtain⟨c1,c2,x,c3,c4⟩:=Yi hj hc.1 (y:=⟨true,[]⟩) (q:=[]) rfl (by have:=hc.2.1;simp;omega) false d.1.nil d.1.nil;simp only[aI,aj,c1,hq,c2,c3,hf,hk];refine⟨_,rfl,_,rfl,?_,?_⟩
   ·show(ol++[(x,d.2)]).map fl=_;rw[A2 _ hr,zA,zA,<-h1];unfold dV;rw[hw];show _++[fl (x,d.2)]=_;rw[c4];rfl
   ·show(ol++[_]).length<=k+1;rw[zm];simp;omega
  |false=>simp only[aF,aj,hk];refine⟨_,rfl,_,rfl,?_,by show ol.length<=_;omega⟩;rw[A2 _ hr,zA,<-h1];unfold dV;rw[hw];simp
 ·rintro s ⟨O,rfl,h1,h2⟩;have hg:aB ((R.length:Nat):Int) (aa D)=false:=by rw[<-he];exact cQ D
  unfold um;simp only[hg,aF];refine⟨_,rfl,O,rfl,?_⟩;rw[h1,List.take_length]
def bN(n:cI):ND:=(n.1,n.2.1,n.2.2,0)
theorem qzl(b:Bool)(acc:List cI)(n:cI)(hl:acc.length<=1000000):oI (⟨b,acc.map bN⟩,(n.1,n.2.1,n.2.2,0),())=some (acc.contains n,()):=by
 have e:vO (⟨b,acc.map bN⟩,(n.1,n.2.1,n.2.2,0),())=some (fg (fun m=>n==m) 0 acc,()):=by
  rw[Uu];have hc:aa (acc.map bN)=aa acc:=by unfold aa;rw[zC]
  refine ph uj (fun k=>(⟨b,acc.map bN⟩,aa (acc.map bN),k,n.1,n.2.1,n.2.2,0,())) (fun z=>(z,())) acc hl (fun m=>n==m) ?_ ?_
  ·intro k m hx hk;have hm:(acc.map bN)[k]?=some (bN m):=getM hx;have hb:aP (af n.1 m.1) (aP (aS n.2.1 m.2.1) (aP (af n.2.2 m.2.2) (af 0 0)))=(n==m):=by have:=PM (.cons n.1 n.2.1 n.2.2 .nil .nil) m;exact this
   unfold uj;simp only[cE hm,aI,aT hm,aj,bN,hb,aH (show k<=1000000000 by omega)];cases (n==m)<;>rfl
  ·unfold uj;simp only[hc,cQ,aF]
 rw[Uv,e,aj,wE];rw[List.contains_eq_any_beq]
theorem z2u(j:Nat)(hj:j<=1000000):sY ((j:Int),())=some (pF j,()):=by
 have h1:decide (-9223372036854775808<=(j:Int))=true:=zu om;have h2:decide ((j:Int)<=9223372036854775807)=true:=zu om;have e:vM ((j:Int),10,())=some (pF j,()):=by unfold vM;rw[h1,h2];rfl
 rw[Um,Ul,e];rfl
theorem qzm(a:Tx)(ha:a.length<=100000)(j:Nat)(hj:j<=1000000):lW (a,(j:Int),())=some (wG a j,()):=by rw[Un,z2u j hj];have hl:=O2 (j:Int);have f1:fit (aK (aa a) (aa ([46]:Tx)))=some ():=eM (by show a.length+1<=_;omega);have f2:fit (aK (aa (EC a ([46]:Tx))) (aa (pF (j:Int))))=some ():=eM (by show(a++[46]).length+_<=_;rw[zm];simp;omega);unfold wG;simp only[aj,f1,f2];cases aS a []<;>rfl
theorem Yj(i:Nat)(r:bI):∀(xs:List bI) (acc:List cI),ef i (xs++[r]) acc=(bif fE (atR r i)||(ef i xs acc).contains (fu (atR r i)) then ef i xs acc else ef i xs acc++[fu (atR r i)])
 |[],acc=>rfl
 |x::xs,acc=>by show ef i (xs++[r]) _=_;rw[Yj i r xs];rfl
theorem Mz(i:Nat):∀(xs:List bI) (acc:List cI),(ef i xs acc).length<=acc.length+xs.length
 |[],acc=>Nat.le_refl _
 |x::xs,acc=>by
  have:=Mz i xs (bif fE (atR x i)||acc.contains (fu (atR x i)) then acc else acc++[fu (atR x i)]);refine Nat.le_trans this ?_;cases (fE (atR x i)||acc.contains (fu (atR x i))) with
  |true=>show acc.length+xs.length<=acc.length+(xs.length+1);omega
  |false=>show(acc++[_]).length+xs.length<=acc.length+(xs.length+1);rw[zm];simp;omega
theorem qwk(self:lP)(b:Bool)(D:List cq)(R:List bI)(hD:D.map fl=R.map iK)(hN:R.length<=100000)(i:Nat)(ho:∀r,r∈R->rL i r)(aw:Sl (Tx×SN))(l:Sl DD)(left:Int)(a:Tx)(T out:SN)(eT:(Bool×SN×Sl DD×Int×Unit)->Prop)(H:∀nb:Bool,∃q,aG (nS self) (aw,aa ((ef i R []).map bN),0,l,left,(i:Int),a,T,out,⟨nb,(ef i R []).map bN⟩,⟨b,D⟩,())=some (Sum.inr q)/\eT q):∃q,aG (qC self) (aw,⟨b,D⟩,aa D,0,l,left,⟨b,D⟩,(i:Int),a,T,out,⟨true,[]⟩,())=some q/\eT q:=by
 have hg:D.length=R.length:=rK hD;refine rJ (qC self) R.length
  (fun k s=>∃nb:Bool,s=(aw,⟨b,D⟩,aa D,(k:Int),l,left,⟨b,D⟩,(i:Int),a,T,out,⟨nb,(ef i (R.take k) []).map bN⟩,())) eT ?_ ?_ ⟨true,rfl⟩
 ·rintro k s hq ⟨nb,rfl⟩;have hr:R[k]?=some R[k]:=ze hq;generalize R[k]=r at hr;have hf:=ho r (zj hr);obtain⟨d,hd,hs⟩:=tx hD hr;obtain⟨pb,hu⟩:=dW hs hf.1;obtain⟨ht,hy⟩:=hf.at
  have hv:aB (k:Int) (aa D)=true:=cE hd;have hj:ar .i64 (k:Int) 1=((k+1:Nat):Int):=aH om;have hx:R.take (k+1)=R.take k++[r]:=by rw[List.take_add_one,hr];rfl
  have hk:=Mz i (R.take k) [];rw[zJ] at hk;have hk:(ef i (R.take k) []).length<=k:=by simp at hk;omega
  have hl:∀x:ND,fit (aK (aa ((ef i (R.take k) []).map bN)) (aa [x]))=some ():=fun x=>eM (by show((ef i (R.take k) []).map bN).length+1<=_;rw[zC];omega);have hc:=qzl nb (ef i (R.take k) []) (fu (atR r i)) om;unfold qC;simp only[hv,aI,aT hd,aj,hu,PL _ _ ht,EA _ _ ht];have he:ef i (R.take (k+1)) []=(bif fE (atR r i)||(ef i (R.take k) []).contains (fu (atR r i)) then ef i (R.take k) [] else ef i (R.take k) []++[fu (atR r i)]):=by rw[hx,Yj]
  cases hw:fE (atR r i) with
  |true=>rw[hw] at he;have he:ef i (R.take (k+1)) []=ef i (R.take k) []:=he;simp only[av,Bool.not_true,aF,aj,hj];exact⟨_,rfl,nb,by rw[he]⟩
  |false=>
   simp only[av,Bool.not_false,aI,hc,aj];cases hn:(ef i (R.take k) []).contains (fu (atR r i)) with
   |true=>rw[hw,hn] at he;have he:ef i (R.take (k+1)) []=ef i (R.take k) []:=he;simp only[Bool.not_true,aF,aj,hj];exact⟨_,rfl,nb,by rw[he]⟩
   |false=>rw[hw,hn] at he;have he:ef i (R.take (k+1)) []=ef i (R.take k) []++[fu (atR r i)]:=he;simp only[Bool.not_false,aI,aj,hl,hj];refine⟨_,rfl,aP nb (cR [((fu (atR r i)).1,(fu (atR r i)).2.1,(fu (atR r i)).2.2,(0:Int))]),?_⟩;rw[he,zA];rfl
 ·rintro s ⟨nb,rfl⟩;have hm:aB ((R.length:Nat):Int) (aa D)=false:=by rw[<-hg];exact cQ D
  obtain⟨q,e,hp⟩:=H nb;refine⟨q,?_,hp⟩;rw[List.take_length];unfold qC;simp only[hm,aF];exact e
theorem qrz(b0 bT:Bool)(L:List DD)(hL:GD L)(hd:pj L=true)(k:Int)(t:Tx)(n:Int)(ks:F)(hs:ks.size+1<=4000)(hT:jS (tr k t n ks).flat=true)(hg:GL (tr k t n ks).flat)(cF:Tx):∃(A:Sl SN) (ok:Bool),lY (⟨b0,L⟩,⟨bT,(tr k t n ks).flat⟩,cF,())=some (A,ok,())/\A.l.map Sl.l=(lB L (tr k t n ks).flat cF).getD []:=by
 have d1:oF ((⟨b0,L⟩:Sl DD),())=some (DB L,()):=qej ⟨b0,L⟩ hL;have hf:=XR L;rw[hd] at hf;have t1:=Pw bT (tr k t n ks).flat (by rw[pn];omega) hg;rw[hT] at t1;have e0:af (0:Int) 0=true:=rfl;have he:lY (⟨b0,L⟩,⟨bT,(tr k t n ks).flat⟩,cF,())=ag (lV (⟨b0,L⟩,⟨bT,(tr k t n ks).flat⟩,cF,())) fun x3=>some (x3.1,x3.2.1,()):=by rw[UB,d1,t1];simp only[aj,hf,nT,aF,cond_true,e0]
 rw[he,Mw];cases hc:fC L k t (ks.aA:Int) cF with
 |none=>rw[ql8 ⟨b0,L⟩ hL bT k t n ks om cF hc];exact⟨⟨true,[]⟩,false,rfl,rfl⟩
 |some c=>rw[ql9 ⟨b0,L⟩ hL bT k t n ks hs cF c hc];refine⟨_,_,rfl,?_⟩;show(c.2.l.map (dM true ks.trees)).map Sl.l=c.2.l.map fun a=>fD ks.trees a.l;rw[ja];exact zY fun a _=>Jr true ks.trees a
def iB(c:Tx×SN):cY:=(c.1,c.2.l)
def po(a:Tx)(Ts:List (List ND)):List cY:=Ts.zipIdx.map fun e=>(wG a e.2,e.1)
theorem qlc(a:Tx)(Ts:List (List ND))(T:List ND):po a (Ts++[T])=po a Ts++[(wG a Ts.length,T)]:=by unfold po;rw[List.zipIdx_append,zA];simp
theorem qwl(self:lP)(aw:Sl (Tx×SN))(len idx:Int)(A:Sl SN)(Ts:List (List ND))(hA:A.l.map Sl.l=Ts)(hN:Ts.length<=100000)(l:Sl DD)(left at_:Int)(a:Tx)(ha:a.length<=100000)(T out labels:SN)(rows:Sl cq)(n1:Int)(n2:Tx)(n3 n4:Int)(eT:_->Prop)(H:∀(M:Sl (Tx×SN)) (Q:Sl SN),M.l.map iB=po a Ts->Q.l.map Sl.l=(List.replicate Ts.length iW).map F.flat->∃q,mw self (aw,len,idx,A,aa A.l,(Ts.length:Int),l,left,at_,a,T,out,labels,rows,n1,n2,n3,n4,M,Q,())=some (Sum.inr q)/\eT q):∃q,aG (mw self) (aw,len,idx,A,aa A.l,0,l,left,at_,a,T,out,labels,rows,n1,n2,n3,n4,⟨true,[]⟩,⟨true,[]⟩,())=some q/\eT q:=by
 have hc:A.l.length=Ts.length:=by rw[<-hA,zC]
 refine rJ (mw self) Ts.length
  (fun k s=>∃(M:Sl (Tx×SN)) (Q:Sl SN),s=(aw,len,idx,A,aa A.l,(k:Int),l,left,at_,a,T,out,labels,rows,n1,n2,n3,n4,M,Q,())/\M.l.map iB=po a (Ts.take k)/\Q.l.map Sl.l=(List.replicate k iW).map F.flat) eT ?_ ?_ ⟨⟨true,[]⟩,⟨true,[]⟩,rfl,rfl,rfl⟩
 ·rintro k s hg ⟨⟨mb,ml⟩,⟨qb,ql⟩,rfl,h1,h2⟩;have hk:A.l[k]?=some (A.l[k]' om):=ze om;generalize A.l[k]' om=x at hk;have hx:Ts[k]?=some x.l:=by rw[<-hA];exact getM hk
  have he:Ts.take (k+1)=Ts.take k++[x.l]:=by rw[List.take_add_one,hx];rfl
  have hj:ml.length=k:=by have:=congrArg List.length h1;unfold po at this;simp at this;omega
  have hl:ql.length=k:=by have:=congrArg List.length h2;simp at this;omega
  have f1:∀y:Tx×SN,fit (aK (aa ml) (aa [y]))=some ():=fun y=>eM (by show ml.length+1<=_;omega);have f2:∀y:SN,fit (aK (aa ql) (aa [y]))=some ():=fun y=>eM (by show ql.length+1<=_;omega);have hf:ar .i64 (k:Int) 1=((k+1:Nat):Int):=aH om;unfold mw;simp only[cE hk,aI,aT hk,aj,qzm a ha k om,f1,f2,hf];refine⟨_,rfl,_,_,rfl,?_,?_⟩
  ·show(ml++[(wG a k,x)]).map iB=_;rw[zA,h1,he,qlc,zJ,Nat.min_eq_left om];rfl
  ·show(ql++[_]).map Sl.l=_;rw[zA,h2,List.replicate_succ',zA];rfl
 ·rintro s ⟨M,Q,rfl,h1,h2⟩;rw[List.take_length] at h1;exact H M Q h1 h2
def rM(T:List ND):Prop:=∃k t n ks,T=(tr k t n ks).flat/\ks.size+1<=4000/\jS T=true/\GL T
theorem z2v(Ts:List (List ND))(hT:∀T,T∈Ts->GL T)(a:List ND)(ha:GL a):GL (fD Ts a):=by
 have he:GL [((31:Int),([]:Tx),(0:Int),(0:Int))]:=fun x hx=>by rw[zS.1 hx];exact⟨fun b hb=>(by cases hb),Nat.zero_le _,HW _ (zS.2 rfl)|>.2.2⟩
 unfold fD;cases aB 4000 (aa (uM Ts a)) with
 |true=>exact he
 |false=>
  intro x hx;have hx:x∈a.flatMap (mU Ts):=hx;obtain⟨y,hy,hc⟩:=List.mem_flatMap.1 hx;unfold mU at hc;have own:x∈[y]->Mp x:=fun h=>by rw[zS.1 h];exact ha y hy
  cases h1:af y.1 31 with
  |false=>rw[h1] at hc;exact own hc
  |true=>
   rw[h1,cond_true] at hc;split at hc
   ·cases h2:Ts[y.2.2.1.toNat]? with
    |none=>rw[h2] at hc;exact own hc
    |some T=>rw[h2] at hc;exact hT T (zj h2) x hc
   ·exact own hc
theorem z2w{k:Int}{t:Tx}{n:Int}{ks:F}(h:GL (tr k t n ks).flat):∀T,T∈ks.trees->GL T:=by intro T hT x hx;refine h x ?_;rw[Du];refine zh _ ?_;rw[<-F.fe];exact List.mem_flatten.2 ⟨T,hT,hx⟩
theorem qwm(L:List DD)(hL:GD L)(hg:L.all jT=true){T:List ND}(hT:rM T){cF:Tx}{As:List (List ND)}(h:lB L T cF=some As):As.length<=8/\gI cF=true/\∀A,A∈As->rM A:=by
 obtain⟨k,t,n,ks,rfl,h1,h2,h3⟩:=hT;rw[Mw] at h;cases hc:fC L k t (ks.aA:Int) cF with
 |none=>rw[hc] at h;cases h
 |some c=>rw[hc] at h;injection h with h;subst h;obtain⟨d,hd,hf,_,he⟩:=X7 hc;obtain⟨q1,q2,q3⟩:=X8 hg hd hf;refine⟨by rw[zC];exact q2,by rw[<-dU.1 he];exact q1,fun A hA=>?_⟩;obtain⟨a,ha,rfl⟩:=zW.1 hA;have ht:=X6 h2 (q3.1 a ha);have hj:GL a.l:=(((hL.2 d hd).2.2 c hf).2.2 a ha).1;have hk:=z2v ks.trees (z2w h3) a.l hj;obtain⟨g1,g2,k',t',n',bP,e⟩:=(DC _).1 ht;refine⟨k',t',n',bP,e,?_,ht,hk⟩;rw[e,pn] at g1;exact g1
def we(p:F):Prop:=∃k t n ks,p=tr k t n ks/\dH k t n ks true=0
theorem qpp{m jR:Bool}:∀f:F,fL m true jR f=0->∀q,q∈f.bY->we q
 |.nil,_,q,h=>by cases h
 |.cons k t n ks r,h,q,hq=>by
  obtain⟨h1,h2⟩:=iF.1 h;rcases zt.1 hq with rfl|hq
  ·exact⟨k,t,n,ks,rfl,h1⟩
  ·exact qpp r h2 q hq
theorem qwn{p:F}(h:we p):∀q,q∈wF p->we q:=by obtain⟨k,t,n,ks,rfl,h⟩:=h;exact qpp ks (iE.1 h).2
theorem qzn:we iW:=⟨21,[],0,.nil,rfl,by kernel_rfl⟩
theorem qzo{p:F}(h:we p):p.aA=1:=by obtain⟨k,t,n,ks,rfl,_⟩:=h;rfl
theorem qwo{k:Int}{t:Tx}{n:Int}{ks:F}(h:dH k t n ks true=0)(hw:Mx k=false):k=23/\t=[]/\ks=.nil\/k=24:=by
 obtain⟨h1,h2,h3,h4,h5,h6⟩:=fM.1 (iE.1 h).1;have hk:k=23\/k=24:=by unfold iJ at h2;unfold Mx at hw;simp only[zd,Bool.or_eq_false_iff] at h2 hw;have a1:21<=k:=zP h2.1;have a2:k<=24:=zP h2.2;have a3:¬k=21:=of_decide_eq_false hw.1;have a4:¬k=22:=of_decide_eq_false hw.2;omega
 rcases hk with rfl|rfl
 ·have h3:af (ks.aA:Int) 0=true:=h3;have h3:(ks.aA:Int)=0:=zP h3;have h5:(aS t []&&av (af (gJ 23) 1&&av (bF t))&&av (af (gJ 23) 2&&av (gI t)))=true:=h5;rw[zd,zd] at h5;refine .inl ⟨rfl,dU.1 h5.1.1,?_⟩;cases ks with
  |nil=>rfl
  |cons a b c d r=>have:((r.aA+1:Nat):Int)=0:=h3;omega
 ·exact .inr rfl
def Al(L:List DD)(p:F)(T:List ND):Prop:=we p/\p.size<=1000/\lC L p [T]=true
theorem z2x(L:List DD)(T:List ND):Al L iW T:=⟨qzn,by decide,rfl⟩
theorem qzp{L:List DD}(hL:GD L)(hg:L.all jT=true){p:F}{T:List ND}(hT:rM T)(h:Al L p T)(hw:fE p=false):(wF p).length=((lB L T (fu p).2.1).getD []).length/\∀z,z∈(wF p).zip ((lB L T (fu p).2.1).getD [])->Al L z.1 z.2:=by
 obtain⟨h1,h2,h3⟩:=h;have hk:=qwn h1;obtain⟨k,t,n,ks,rfl,he⟩:=h1;rw[PE] at h3;show ks.bY.length=((lB L T t).getD []).length/\∀z,z∈ks.bY.zip ((lB L T t).getD [])->Al L z.1 z.2;have hj:∀q,q∈ks.bY->q.size<=1000:=fun q hq=>by obtain⟨k',t',n',bP,rfl,hs⟩:=F.eX ks q hq;have h2:ks.size+0+1<=1000:=h2;show bP.size+0+1<=1000;omega
 rcases qwo he hw with ⟨rfl,rfl,rfl⟩|rfl
 ·have hn:lB L T []=none:=by
   cases ha:lB L T [] with
   |none=>rfl
   |some As=>have hc:=(qwm L hL hg hT ha).2.1;cases hc
  rw[hn];exact⟨rfl,fun z hz=>by cases hz⟩
 ·unfold HU at h3;cases ha:lB L T t with
  |none=>rw[ha] at h3;cases h3
  |some As=>rw[ha] at h3;have h3:(decide (As.length=ks.aA)&&lC L ks As)=true:=h3;rw[zd] at h3;have hf:As.length=ks.aA:=zP h3.1;refine⟨by show _=As.length;rw[F.iG,hf],fun z hz=>?_⟩;have h4:=h3.2;rw[PF L ks As hf] at h4;exact⟨hk z.1 (List.of_mem_zip hz).1,hj z.1 (List.of_mem_zip hz).1,zO.1 h4 z hz⟩
theorem MA{α:Type}(l:List α)(i j:Nat)(q:List α)(hi:i<l.length):(l.take i++(q++l.drop (i+1)))[j]?=if j<i then l[j]? else if j<i+q.length then q[j-i]? else l[j-q.length+1]?:=by
 have hc:(l.take i).length=i:=by rw[zJ];omega
 by_cases h1:j<i
 ·rw[if_pos h1,zZ om,List.getElem?_take,if_pos h1]
 ·rw[if_neg h1,zR om,hc];by_cases h2:j<i+q.length
  ·rw[if_pos h2,zZ om]
  ·rw[if_neg h2,zR om,List.getElem?_drop];congr 1;omega
def jW(L:List DD)(aw:List cY)(r:bI):Prop:=r.1.length=aw.length/\∀(j:Nat) (p:F) (c:cY),r.1[j]?=some p->aw[j]?=some c->Al L p c.2
theorem Yk{L:List DD}{aw:List cY}{r:bI}(h:jW L aw r){i:Nat}(hi:i<aw.length){q:List F}{more:List cY}(hq:q.length=more.length)(hz:∀(j:Nat) (p:F) (c:cY),q[j]?=some p->more[j]?=some c->Al L p c.2):jW L (aw.take i++(more++aw.drop (i+1))) (nB r i q):=by
 obtain⟨hl,hp⟩:=h;refine⟨?_,fun j p c h1 h2=>?_⟩
 ·show(r.1.take i++(q++r.1.drop (i+1))).length=_;simp only[zm,zJ,zT];omega
 ·have h1:(r.1.take i++(q++r.1.drop (i+1)))[j]?=some p:=h1;rw[MA r.1 i j q om] at h1;rw[MA aw i j more hi] at h2;rw[hq] at h1;by_cases c1:j<i
  ·rw[if_pos c1] at h1 h2;exact hp j p c h1 h2
  ·rw[if_neg c1] at h1 h2;by_cases c2:j<i+more.length
   ·rw[if_pos c2] at h1 h2;exact hz _ p c h1 h2
   ·rw[if_neg c2] at h1 h2;exact hp _ p c h1 h2
theorem qwp{L:List DD}{aw:List cY}{r:bI}(h:jW L aw r){i:Nat}(hi:i<aw.length):jW L (aw.take i++aw.drop (i+1)) (nB r i []):=Yk (more:=[]) h hi rfl fun j p c h1 _=>by simp at h1
theorem HX(L:List DD)(c:cY)(n:cI):lD L c n=po c.1 ((lB L c.2 n.2.1).getD []):=rfl
theorem EB(a:Tx)(As:List (List ND)):(po a As).length=As.length:=by unfold po;simp
theorem Yl{a:Tx}{As:List (List ND)}{j:Nat}{c:cY}(h:(po a As)[j]?=some c):As[j]?=some c.2/\c.1=wG a j:=by
 unfold po at h;rw[zV,List.getElem?_zipIdx] at h;cases hA:As[j]? with
 |none=>rw[hA] at h;cases h
 |some A=>rw[hA] at h;simp at h;subst h;exact⟨rfl,rfl⟩
theorem Ym{r:bI}{i:Nat}(h:i<r.1.length):r.1[i]?=some (atR r i):=by unfold atR;rw[List.getD_eq_getElem?_getD,ze h];rfl
theorem qnc{L:List DD}(hL:GD L)(hf:L.all jT=true){aw:List cY}(he:∀c,c∈aw->rM c.2){r r':bI}(h:jW L aw r){i:Nat}{c:cY}(hc:aw[i]?=some c){n:cI}(hr:iN i n (lD L c n).length r=some r'):jW L (aw.take i++(lD L c n++aw.drop (i+1))) r':=by
 have hi:i<aw.length:=(zB.1 hc).1;have hk:=h.1;have hg:=h.2 i _ c (Ym (r:=r) om) hc;have hj:=he c (zj hc);unfold iN at hr;cases hw:fE (atR r i) with
 |true=>
  rw[hw,cond_true] at hr;injection hr with hr;subst hr;refine Yk h hi (by rw[List.length_replicate]) fun j p c' h1 _=>?_;rw[List.getElem?_replicate] at h1;split at h1
  ·injection h1 with h1;subst h1;exact z2x L _
  ·cases h1
 |false=>
  rw[hw,cond_false] at hr;cases hl:(fu (atR r i)==n) with
  |false=>rw[hl] at hr;cases hr
  |true=>rw[hl,cond_true] at hr;injection hr with hr;subst hr;obtain rfl:fu (atR r i)=n:=eq_of_beq hl;obtain⟨k1,k2⟩:=qzp hL hf hj hg hw;rw[HX];refine Yk h hi (by rw[EB];exact k1) fun j p c' h1 h2=>?_;obtain⟨h3,_⟩:=Yl h2;exact k2 (p,c'.2) (List.mem_iff_getElem?.2 ⟨j,(List.getElem?_zip_eq_some (z:=(p,c'.2))).2 ⟨h1,h3⟩⟩)
theorem Yn{L:List DD}(hL:GD L)(hf:L.all jT=true){aw:List cY}(he:∀c,c∈aw->rM c.2){i:Nat}{c:cY}(hc:aw[i]?=some c)(n:cI):(lD L c n).length<=8/\∀d,d∈aw.take i++(lD L c n++aw.drop (i+1))->rM d.2:=by
 have hg:=he c (zj hc);have hm:(lD L c n).length<=8/\∀d,d∈lD L c n->rM d.2:=by
  rw[HX,EB];cases ha:lB L c.2 n.2.1 with
  |none=>exact⟨Nat.zero_le _,fun d hd=>by cases hd⟩
  |some As=>obtain⟨g1,_,g3⟩:=qwm L hL hf hg ha;refine⟨g1,fun d hd=>?_⟩;obtain⟨j,hj⟩:=List.mem_iff_getElem?.1 hd;exact g3 _ (zj (Yl hj).1)
 refine⟨hm.1,fun d hd=>?_⟩;rcases zU.1 hd with hd|hd
 ·exact he d (List.mem_of_mem_take hd)
 ·rcases zU.1 hd with hd|hd
  ·exact hm.2 d hd
  ·exact he d (List.mem_of_mem_drop hd)
structure Inv (L:List DD) (aw:List cY) (R:List bI):Prop where
 rows:R.length<=1000
 row:∀r,r∈R->jW L aw r
 HY:∀c,c∈aw->rM c.2
 place:∀c,c∈aw->c.1.length+30*mu R<=90000
 wide:aw.length+8*mu R<=9000
theorem jW.tree{L:List DD}{aw:List cY}{r:bI}(h:jW L aw r){p:F}(hp:p∈r.1):p.aA=1/\p.size<=1000:=by
 obtain⟨j,hj⟩:=List.mem_iff_getElem?.1 hp;have he:=(zB.1 hj).1;have hc:j<aw.length:=by have:=h.1;omega
 obtain⟨h1,h2,_⟩:=h.2 j p aw[j] hj (ze hc);exact⟨qzo h1,h2⟩
theorem Inv.rL{L:List DD}{aw:List cY}{R:List bI}(h:Inv L aw R){i:Nat}(hi:i<aw.length){r:bI}(hr:r∈R):rL i r:=by have hc:=h.row r hr;have hw:=h.wide;have hl:=hc.1;exact⟨by omega,by omega,fun p hp=>hc.tree hp⟩
theorem Inv.jV{L:List DD}{aw:List cY}{R:List bI}(h:Inv L aw R){r:bI}(hr:r∈R):jV r:=fun _ hp=>((h.row r hr).tree hp).1
theorem qs0(a:Tx)(j:Nat):(wG a j).length<=a.length+22:=by
 have:=O2 (j:Int);unfold wG;cases aS a [] with
 |true=>show(pF (j:Int)).length<=_;omega
 |false=>show(a++[46]++pF (j:Int)).length<=_;simp;omega
theorem Yo{L:List DD}{aw:List cY}{R:List bI}(h:Inv L aw R){i:Nat}(hi:i<aw.length)(n:cI)(k:Nat){r:bI}(hr:r∈R)(hw:fE (atR r i)=false):mu (R.filterMap (iN i n k))<mu R:=by
 have he:∀r,r∈R->i<r.1.length:=fun r hr=>by rw[(h.row r hr).1];exact hi
 have key:∀(S:List bI),(∀x,x∈S->x∈R)->mu (S.filterMap (iN i n k))<=mu S/\(r∈S->mu (S.filterMap (iN i n k))<mu S):=by
  intro S
  induction S with
  |nil=>exact fun _=>⟨Nat.le_refl _,fun h=>by cases h⟩
  |cons a S ih=>
   intro hS;obtain⟨g1,g2⟩:=ih fun x hx=>hS x (zh _ hx);have ha:=hS a (zf ..);have hm:mu (a::S)=oU a+mu S:=rfl;rw[List.filterMap_cons,hm];cases e:iN i n k a with
   |none=>
    show mu (S.filterMap (iN i n k))<=_/\(_->mu (S.filterMap (iN i n k))<_);refine⟨by omega,fun hc=>?_⟩;rcases zt.1 hc with rfl|hc
    ·have:=PK (he _ hr) (h.jV hr) hw;omega
    ·have:=g2 hc;omega
   |some a'=>
    have hf:=qzi (he _ ha) (h.jV ha) e;show oU a'+mu (S.filterMap (iN i n k))<=_/\(_->oU a'+mu (S.filterMap (iN i n k))<_);refine⟨by omega,fun hc=>?_⟩;rcases zt.1 hc with rfl|hc
    ·have:=hf.2 hw;omega
    ·have:=g2 hc;omega
 exact(key R fun _ h=>h).2 hr
theorem Yp{L:List DD}{aw:List cY}{R:List bI}(h:Inv L aw R){i:Nat}(hi:i<aw.length){r:bI}(hr:r∈R)(hw:fE (atR r i)=false):mu (R.filterMap (dV i))<mu R:=by
 have he:∀r,r∈R->i<r.1.length:=fun r hr=>by rw[(h.row r hr).1];exact hi
 have key:∀(S:List bI),(∀x,x∈S->x∈R)->mu (S.filterMap (dV i))<=mu S/\(r∈S->mu (S.filterMap (dV i))<mu S):=by
  intro S
  induction S with
  |nil=>exact fun _=>⟨Nat.le_refl _,fun h=>by cases h⟩
  |cons a S ih=>
   intro hS;obtain⟨g1,g2⟩:=ih fun x hx=>hS x (zh _ hx);have ha:=hS a (zf ..);have hm:mu (a::S)=oU a+mu S:=rfl;rw[List.filterMap_cons,hm];cases e:dV i a with
   |none=>
    show mu (S.filterMap (dV i))<=_/\(_->mu (S.filterMap (dV i))<_);refine⟨by omega,fun hc=>?_⟩;rcases zt.1 hc with rfl|hc
    ·have:=PK (he _ hr) (h.jV hr) hw;omega
    ·have:=g2 hc;omega
   |some a'=>
    have hf:=z4f (he _ ha) e;show oU a'+mu (S.filterMap (dV i))<=_/\(_->oU a'+mu (S.filterMap (dV i))<_);refine⟨by omega,fun hc=>?_⟩;rcases zt.1 hc with rfl|hc
    ·have:=hf.2;rw[hw] at this;cases this
    ·have:=g2 hc;omega
 exact(key R fun _ h=>h).2 hr
theorem qld{L:List DD}(hL:GD L)(he:L.all jT=true){aw:List cY}{R:List bI}(h:Inv L aw R){i:Nat}{c:cY}(hc:aw[i]?=some c)(n:cI){r:bI}(hr:r∈R)(hw:fE (atR r i)=false):Inv L (aw.take i++(lD L c n++aw.drop (i+1))) (R.filterMap (iN i n (lD L c n).length)):=by
 have hi:i<aw.length:=(zB.1 hc).1;have hl:=Yo h hi n (lD L c n).length hr hw;obtain⟨m1,m2⟩:=Yn hL he h.HY hc n;have hf:=h.wide;refine⟨Nat.le_trans (List.length_filterMap_le ..) h.rows,fun r' hk=>?_,m2,fun d hd=>?_,?_⟩
 ·obtain⟨r0,g1,g2⟩:=jB.1 hk;exact qnc hL he h.HY (h.row r0 g1) hc g2
 ·have hg:∀d,d∈aw->d.1.length+30*mu (R.filterMap (iN i n (lD L c n).length))<=90000:=fun d hd=>by have:=h.place d hd;omega
  rcases zU.1 hd with hd|hd
  ·exact hg d (List.mem_of_mem_take hd)
  ·rcases zU.1 hd with hd|hd
   ·rw[HX] at hd;obtain⟨j,hj⟩:=List.mem_iff_getElem?.1 hd;rw[(Yl hj).2];have:=qs0 c.1 j;have:=h.place c (zj hc);omega
   ·exact hg d (List.mem_of_mem_drop hd)
 ·simp only[zm,zJ,zT];omega
theorem qwr{L:List DD}{aw:List cY}{R:List bI}(h:Inv L aw R){i:Nat}(hi:i<aw.length){r:bI}(hr:r∈R)(hw:fE (atR r i)=false):Inv L (aw.take i++aw.drop (i+1)) (R.filterMap (dV i)):=by
 have hg:=Yp h hi hr hw;have hc:=h.wide;have hm:∀d,d∈aw.take i++aw.drop (i+1)->d∈aw:=fun d hd=>by
  rcases zU.1 hd with hd|hd
  ·exact List.mem_of_mem_take hd
  ·exact List.mem_of_mem_drop hd
 refine⟨Nat.le_trans (List.length_filterMap_le ..) h.rows,fun r' hf=>?_,fun d hd=>h.HY d (hm d hd),fun d hd=>by have:=h.place d (hm d hd);omega,?_⟩
 ·obtain⟨r0,g1,g2⟩:=jB.1 hf;unfold dV at g2;cases he:fE (atR r0 i) with
  |false=>rw[he] at g2;cases g2
  |true=>rw[he,cond_true] at g2;injection g2 with g2;subst g2;exact qwp (h.row r0 g1) hi
 ·simp only[zm,zJ,zT];omega
def iL(l:Sl DD)(T:F)(left:Nat):Bool×SN×Sl DD×Int×Unit:=if T.size<=left then(false,⟨false,T.flat⟩,l,((left-T.size:Nat):Int),()) else(true,⟨true,[]⟩,l,0,())
theorem PN(x:ND)(l:Sl DD)(left:Nat)(hl:left<=1000000):lz (x,l,(left:Int),())=some (if left=0 then(true,(0,[],0,0),l,0,()) else(false,x,l,((left-1:Nat):Int),())):=by
 obtain⟨a,b,c,d⟩:=x;rw[Us];by_cases h:left=0
 ·subst h;rfl
 ·have e:af (left:Int) 0=false:=zn om;have e2:dK .i64 (left:Int) 1=((left-1:Nat):Int):=by rw[vm om om];omega
  rw[if_neg h,e,aF,e2]
theorem qzq(L:List DD)(hL:GD L)(b:Bool)(a:Tx)(bT:Bool)(x:ND)(T:List ND):∃z:Int,p6 (⟨b,L⟩,a,⟨bT,x::T⟩,())=some (z,a,⟨bT,x::T⟩,())/\(a8 0 z=true->∃d:DD,aJ L z=some d/\dI L (x::T)=d.2.2.l.length)/\(a8 0 z=false->dI L (x::T)=0):=by
 have e:aG qB (⟨b,L⟩,aa L,0,a,⟨bT,x::T⟩,())=some (fg (fun d:DD=>aS d.1 x.2.1) 0 L,a,⟨bT,x::T⟩,()):=by
  refine ph qB (fun k=>(⟨b,L⟩,aa L,k,a,⟨bT,x::T⟩,())) (fun z=>(z,a,⟨bT,x::T⟩,())) L (by have:=hL.1;omega) (fun d=>aS d.1 x.2.1) ?_ ?_
  ·intro k d hx hk;obtain⟨a0,a1,a2⟩:=d;have h0:aJ (x::T) 0=some x:=rfl;unfold qB;simp only[cE hx,aI,aT hx,aj,UD,h0,aH (show k<=1000000000 by omega)];cases aS a0 x.2.1<;>rfl
  ·unfold qB;simp only[cQ,aF]
 refine⟨_,by rw[UE];exact e,fun h=>?_,fun h=>?_⟩
 ·rw[wE] at h;obtain⟨i,d,h1,h2,h3,h4⟩:=Jo (fun d:DD=>aS d.1 x.2.1) L 0 h;rw[h1,zL];refine⟨d,aT h2,?_⟩;unfold dI;have h4:L.find? (fun d=>aS d.1 (hd (x::T)).2.1)=some d:=h4;rw[h4]
 ·rw[wE] at h;unfold dI;have h4:L.find? (fun d=>aS d.1 (hd (x::T)).2.1)=none:=XY h;rw[h4]
theorem F.kK:∀f g h:F,(f.app g).app h=f.app (g.app h)
 |.nil,_,_=>rfl
 |.cons k t n ks r,g,h=>by show F.cons k t n ks ((r.app g).app h)=F.cons k t n ks (r.app (g.app h));rw[F.kK r g h]
theorem F.uN:∀f:F,f.app .nil=f
 |.nil=>rfl
 |.cons k t n ks r=>by show F.cons k t n ks (r.app .nil)=_;rw[F.uN r]
theorem F.dE:∀f g:F,(f.app g).size=f.size+g.size
 |.nil,g=>by show g.size=0+g.size;omega
 |.cons k t n ks r,g=>by have:=F.dE r g;show ks.size+(r.app g).size+1=ks.size+r.size+1+g.size;omega
theorem qgt(sub:cI->F):∀(ls:List cI) (n:cI),cZ sub (ls++[n])=(cZ sub ls).app ((tr n.1 n.2.1 n.2.2 .nil).app ((sub n).app .nil))
 |[],n=>rfl
 |m::ls,n=>by show(tr m.1 m.2.1 m.2.2 .nil).app ((sub m).app (cZ sub (ls++[n])))=((tr m.1 m.2.1 m.2.2 .nil).app ((sub m).app (cZ sub ls))).app _;rw[qgt sub ls n,F.kK,F.kK]
theorem qer(sub:cI->F)(ls:List cI)(n:cI):(cZ sub (ls++[n])).size=(cZ sub ls).size+1+(sub n).size/\(cZ sub (ls++[n])).flat=(cZ sub ls).flat++(bN n::(sub n).flat)/\(cZ sub (ls++[n])).aA=(cZ sub ls).aA+1+(sub n).aA:=by
 rw[qgt,F.uN];refine⟨?_,?_,?_⟩
 ·rw[F.dE,F.dE];show _+((0+0+1)+_)=_;omega
 ·rw[F.ff,F.ff];rfl
 ·rw[F.fq,F.fq];show _+((0+1)+_)=_;omega
theorem qes(sub:cI->F)(ls:List cI)(k:Nat):(cZ sub (ls.take k)).size<=(cZ sub ls).size:=by
 have e:∀(a b:List cI),(cZ sub a).size<=(cZ sub (a++b)).size:=by
  intro a
  induction a with
  |nil=>intro b;exact Nat.zero_le _
  |cons x a ih=>intro b;show((tr x.1 x.2.1 x.2.2 .nil).app ((sub x).app (cZ sub a))).size<=((tr x.1 x.2.1 x.2.2 .nil).app ((sub x).app (cZ sub (a++b)))).size;have:=ih b;rw[F.dE,F.dE,F.dE,F.dE];omega
 have:=e (ls.take k) (ls.drop k)
 rwa [List.take_append_drop] at this
theorem qs1(self:lP)(C:Sl (Tx×SN))(aw:List cY)(hC:C.l.map iB=aw)(hq:aw.length<=9000)(b:Bool)(D:List cq)(R:List bI)(hD:D.map fl=R.map iK)(hN:R.length<=1000)(i:Nat)(hi:i<aw.length)(hj:∀r,r∈R->rL i r)(A:Sl SN)(Ts:List (List ND))(hA:A.l.map Sl.l=Ts)(ht:Ts.length<=8)(l:Sl DD)(left:Nat)(len idx:Int)(a:Tx)(ha:a.length<=100000)(T:SN)(out:List ND)(hk:out.length+left<=1000000)(labels:SN)(n:cI)(Tn:F)(hc:∀(M:Sl (Tx×SN)) (D':Sl cq),M.l.map iB=aw.take i++(po a Ts++aw.drop (i+1))->D'.l.map fl=(R.filterMap (iN i n Ts.length)).map iK->∀dF:Nat,dF<=1000000->self (M,D',l,(dF:Int),())=some (iL l Tn dF)):∃q,aG (mw self) (C,len,idx,A,aa A.l,0,l,(left:Int),(i:Int),a,T,⟨false,out⟩,labels,⟨b,D⟩,n.1,n.2.1,n.2.2,0,⟨true,[]⟩,⟨true,[]⟩,())=some q/\((left<1+Tn.size/\q=Sum.inr (Sum.inr (true,⟨true,[]⟩,l,0,())))\/(1+Tn.size<=left/\q=Sum.inl (C,len,ar .i64 idx 1,l,((left-(1+Tn.size):Nat):Int),(i:Int),a,T,⟨false,out++(bN n::Tn.flat)⟩,labels,⟨b,D⟩,()))):=by
 refine qwl self C len idx A Ts hA om l left i a ha T ⟨false,out⟩ labels ⟨b,D⟩ n.1 n.2.1 n.2.2 0 _ ?_;intro M Q hM hQ;have hl:A.l.length=Ts.length:=by rw[<-hA,zC]
 have he:aB ((Ts.length:Nat):Int) (aa A.l)=false:=by rw[<-hl];exact cQ A.l
 obtain⟨q,e1,D',rfl,hm⟩:=qry b D R hD om i om hj Q n Ts.length om hQ;have hn:=PN (n.1,n.2.1,n.2.2,0) l left om;unfold mw;simp only[he,aF,e1,aj,hn];by_cases h0:left=0
 ·rw[if_pos h0];simp only[aI];exact⟨_,rfl,.inl ⟨by omega,rfl⟩⟩
 ·rw[if_neg h0];have hf:C.l.length=aw.length:=by rw[<-hC,zC]
  have hu:M.l.length=Ts.length:=by have:=congrArg List.length hM;rw[zC,EB] at this;exact this
  have f1:fit (aK (aa out) (aa [((n.1,n.2.1,n.2.2,0):ND)]))=some ():=eM (by show out.length+1<=_;omega);have c1:bG C.l 0 (i:Int)=some (C.l.take i):=Mi om;have ho:ar .i64 (i:Int) 1=((i+1:Nat):Int):=aH om;have c2:bG C.l ((i+1:Nat):Int) (aa C.l)=some (C.l.drop (i+1)):=My om;obtain⟨cb,ec⟩:=qca false [⟨C.nil,C.l.take i⟩,M,⟨C.nil,C.l.drop (i+1)⟩] (by simp) (by simp;omega);have hg:(([⟨C.nil,C.l.take i⟩,M,⟨C.nil,C.l.drop (i+1)⟩]:List (Sl (Tx×SN))).map Sl.l).flatten.map iB=aw.take i++(po a Ts++aw.drop (i+1)):=by simp only[zM,List.map_nil,List.flatten_cons,List.flatten_nil,zE,zA,List.map_take,List.map_drop,hC,hM]
  generalize (([⟨C.nil,C.l.take i⟩,M,⟨C.nil,C.l.drop (i+1)⟩]:List (Sl (Tx×SN))).map Sl.l).flatten=X at ec hg;have hs:=hc ⟨cb,X⟩ D' hg hm (left-1) om;simp only[aF,f1,aj,c1,ho,c2,ec,hs];unfold iL;by_cases h1:Tn.size<=left-1
  ·rw[if_pos h1];have f2:fit (aK (aa (app out [((n.1,n.2.1,n.2.2,0):ND)])) (aa Tn.flat))=some ():=eM (by show(out++[_]).length+Tn.flat.length<=_;rw[zm,F.len];simp;omega);simp only[aF,f2,aj];refine⟨_,rfl,.inr ⟨by omega,?_⟩⟩;have e3:left-1-Tn.size=left-(1+Tn.size):=om
   have e4:app (app out [((n.1,n.2.1,n.2.2,0):ND)]) Tn.flat=out++(bN n::Tn.flat):=by show(out++[_])++_=_;rw[zD];rfl
   rw[e3,e4];rfl
  ·rw[if_neg h1];simp only[aI];exact⟨_,rfl,.inl ⟨by omega,rfl⟩⟩
theorem Yq(sub:cI->F)(hc:∀n,(sub n).aA=1):∀ls:List cI,(cZ sub ls).aA=2*ls.length
 |[]=>rfl
 |n::ls=>by show((tr n.1 n.2.1 n.2.2 .nil).app ((sub n).app (cZ sub ls))).aA=_;rw[F.fq,F.fq,hc,Yq sub hc ls,zw];show 0+1+_=_;omega
theorem qws(self:lP)(C:Sl (Tx×SN))(aw:List cY)(hC:C.l.map iB=aw)(hK:aw.length<=9000)(b:Bool)(D:List cq)(R:List bI)(hD:D.map fl=R.map iK)(hN:R.length<=1000)(i:Nat)(hi:i<aw.length)(hB:∀r,r∈R->rL i r)(bL:Bool)(L:List DD)(hL:GD L)(hM:pj L=true)(kZ:Nat)(hl0:kZ<=1000000)(a:Tx)(ha:a.length<=90000)(bT:Bool)(T:List ND)(hT:rM T)(nb:Bool)(ls:List cI)(hls:ls.length<=1000)(sub:cI->F)(hO:∀n,(sub n).aA=1)(h8:∀n:cI,((lB L T n.2.1).getD []).length<=8)(he:∀n,n∈ls->∀(M:Sl (Tx×SN)) (D':Sl cq),M.l.map iB=aw.take i++(po a ((lB L T n.2.1).getD [])++aw.drop (i+1))->D'.l.map fl=(R.filterMap (iN i n ((lB L T n.2.1).getD []).length)).map iK->∀dF:Nat,dF<=1000000->self (M,D',⟨bL,L⟩,(dF:Int),())=some (iL ⟨bL,L⟩ (sub n) dF))(hm:∀dF:Nat,dF<=1000000->self (⟨true,[]⟩,⟨true,[]⟩,⟨bL,L⟩,(dF:Int),())=some (iL ⟨bL,L⟩ (tr 62 [] 0 .nil) dF))(TA:F)(hP:TA.aA=1)(ht:∀(M:Sl (Tx×SN)) (D':Sl cq),M.l.map iB=aw.take i++aw.drop (i+1)->D'.l.map fl=(R.filterMap (dV i)).map iK->∀dF:Nat,dF<=1000000->self (M,D',⟨bL,L⟩,(dF:Int),())=some (iL ⟨bL,L⟩ TA dF))(h1:1<=kZ):∃q,aG (nS self) (C,aa (ls.map bN),0,⟨bL,L⟩,((kZ-1:Nat):Int),(i:Int),a,⟨bT,T⟩,⟨false,[(63,a,0,0)]⟩,⟨nb,ls.map bN⟩,⟨b,D⟩,())=some q/\q=Sum.inr (iL ⟨bL,L⟩ (tr 63 a 0 ((cZ sub ls).app (bif Nat.beq ls.length (dI L T) then tr 62 [] 0 .nil else TA))) kZ):=by
 obtain⟨k0,t0,n0,ks0,hj,hQ,hR,hS⟩:=hT;generalize hc:(bif Nat.beq ls.length (dI L T) then tr 62 [] 0 .nil else TA)=TL;have hu:TL.aA=1:=by rw[<-hc];cases Nat.beq ls.length (dI L T) with|true=>rfl|false=>exact hP
 have od:(tr 63 a 0 ((cZ sub ls).app TL)).size=1+(cZ sub ls).size+TL.size:=by show((cZ sub ls).app TL).size+0+1=_;rw[F.dE];omega
 refine rJ (nS self) ls.length
  (fun k s=>∃(out:List ND) (left:Nat),s=(C,aa (ls.map bN),(k:Int),⟨bL,L⟩,(left:Int),(i:Int),a,⟨bT,T⟩,⟨false,out⟩,⟨nb,ls.map bN⟩,⟨b,D⟩,())/\out=(63,a,0,0)::(cZ sub (ls.take k)).flat/\left+1+(cZ sub (ls.take k)).size=kZ) _ ?_ ?_ ⟨_,_,rfl,rfl,by show kZ-1+1+0=_;omega⟩
 ·rintro k s hk ⟨out,left,rfl,ho,hl⟩;have hn:ls[k]?=some ls[k]:=ze hk;have hE:ls[k]∈ls:=List.getElem_mem hk;generalize ls[k]=n at hn hE;have hv:(ls.map bN)[k]?=some (bN n):=getM hn;have hU:ls.take (k+1)=ls.take k++[n]:=by rw[List.take_add_one,hn];rfl
  obtain⟨s1,s2,s3⟩:=qer sub (ls.take k) n;rw[<-hU] at s1 s2;have hle:=qes sub ls (k+1);have hV:out.length=1+(cZ sub (ls.take k)).size:=by rw[ho,zw,F.len];omega
  obtain⟨A,ok,eA,hA⟩:=qrz bL bT L hL hM k0 t0 n0 ks0 hQ (by rw[<-hj];exact hR) (by rw[<-hj];exact hS) n.2.1;rw[<-hj] at eA hA;obtain⟨q,e,hq⟩:=qs1 self C aw hC hK b D R hD hN i hi hB A _ hA (h8 n) ⟨bL,L⟩ left (aa (ls.map bN)) (k:Int) a om ⟨bT,T⟩ out om ⟨nb,ls.map bN⟩ n (sub n) (he n hE);have hW:ar .i64 (k:Int) 1=((k+1:Nat):Int):=aH om;unfold nS;simp only[cE hv,aI,ri (fc hv),aj,Pm hv];refine⟨q,?_,?_⟩
  ·show ag (lY (⟨bL,L⟩,⟨bT,T⟩,n.2.1,())) _=_;rw[eA,aj];exact e
  ·rcases hq with ⟨hX,rfl⟩|⟨hX,rfl⟩
   ·show Sum.inr _=_;unfold iL;rw[if_neg (by rw[od];omega)]
   ·refine⟨_,_,by rw[hW],?_,?_⟩
    ·rw[ho,s2];rfl
    ·rw[s1];omega
 ·rintro s ⟨out,left,rfl,ho,hl⟩;rw[List.take_length] at ho hl;subst ho;obtain⟨x,T',hY⟩:∃x T',T=x::T':=⟨_,_,hj⟩;have hw:aB ((ls.length:Nat):Int) (aa (ls.map bN))=false:=by
   have:=cQ (ls.map bN)
   rwa [zC] at this
  have h0:bZ ((63,a,0,0)::(cZ sub ls).flat) 0=some 0:=ri (i:=0) (by simp);have hZ:nth ((63,a,0,0)::(cZ sub ls).flat:List ND) 0=some (63,a,0,0):=rfl;have h5:oo .i64 2 (aa (ls.map bN))=2*(ls.length:Int):=by
   have e:aa (ls.map bN)=(ls.length:Int):=by unfold aa;rw[zC]
   rw[e,qyg om om]
  have hk:ar .i64 (2*(ls.length:Int)) 1=2*(ls.length:Int)+1:=AO om om;have h6:(((cZ sub ls).app TL).aA:Int)=2*(ls.length:Int)+1:=by rw[F.fq,Yq sub hO,hu];omega
  have hx:∀y:ND,eP ((63,a,0,0)::(cZ sub ls).flat) 0 y=y::(cZ sub ls).flat:=fun _=>rfl;have hf:(tr 63 a 0 ((cZ sub ls).app TL)).flat=(63,a,0,2*(ls.length:Int)+1)::((cZ sub ls).flat++TL.flat):=by rw[Du,h6,F.ff]
  obtain⟨z,ez,hF,hG⟩:=qzq L hL bL a bT x T';rw[<-hY] at ez hF hG;have hb:af (aa (ls.map bN)) ((dI L T:Nat):Int)=Nat.beq ls.length (dI L T):=by
   have e:aa (ls.map bN)=(ls.length:Int):=by unfold aa;rw[zC]
   rw[e];unfold af;cases h:Nat.beq ls.length (dI L T) with
   |true=>exact zu (by rw[zg h])
   |false=>
    have h7:¬((ls.length:Int)=((dI L T:Nat):Int)):=by
     intro e;have e2:ls.length=dI L T:=om
     rw[e2,Nat.beq_refl] at h;cases h
    exact zn h7
  have hH:C.l.length=aw.length:=by rw[<-hC,zC]
  have c1:bG C.l 0 (i:Int)=some (C.l.take i):=Mi om;have hI:ar .i64 (i:Int) 1=((i+1:Nat):Int):=aH om;have c2:bG C.l ((i+1:Nat):Int) (aa C.l)=some (C.l.drop (i+1)):=My om;obtain⟨qa,ea,DA,rfl,h9⟩:=qzk b D R hD om i om hB;obtain⟨cb,ec⟩:=qca false [⟨C.nil,C.l.take i⟩,⟨C.nil,C.l.drop (i+1)⟩] (by simp) (by simp;omega);have hJ:(([⟨C.nil,C.l.take i⟩,⟨C.nil,C.l.drop (i+1)⟩]:List (Sl (Tx×SN))).map Sl.l).flatten.map iB=aw.take i++aw.drop (i+1):=by simp only[zM,List.map_nil,List.flatten_cons,List.flatten_nil,zE,zA,List.map_take,List.map_drop,hC]
  generalize (([⟨C.nil,C.l.take i⟩,⟨C.nil,C.l.drop (i+1)⟩]:List (Sl (Tx×SN))).map Sl.l).flatten=X at ec hJ;have sa:=ht ⟨cb,X⟩ DA hJ h9 left om;have sn:=hm left om;have fin:∀(q:Bool×SN×Sl DD×Int×Unit),q=iL ⟨bL,L⟩ TL left->aq q.1 (some (Sum.inr (Sum.inr (true,⟨true,[]⟩,q.2.2.1,q.2.2.2.1,())))) (ag (fit (aK (aa ((63,a,0,2*(ls.length:Int)+1)::(cZ sub ls).flat:List ND)) (aa q.2.1.l))) fun _=>some (Sum.inr (Sum.inr (false,⟨aP false (cR q.2.1.l),app ((63,a,0,2*(ls.length:Int)+1)::(cZ sub ls).flat) q.2.1.l⟩,q.2.2.1,q.2.2.2.1,()))))=
    (some (Sum.inr (Sum.inr (iL ⟨bL,L⟩ (tr 63 a 0 ((cZ sub ls).app TL)) kZ))):Option (KW⊕O8)):=by
   intro q hq;subst hq;unfold iL;by_cases hs:TL.size<=left
   ·rw[if_pos hs,if_pos (by rw[od];omega),hf];have f2:fit (aK (aa ((63,a,0,2*(ls.length:Int)+1)::(cZ sub ls).flat:List ND)) (aa TL.flat))=some ():=eM (by show((_:ND)::_).length+TL.flat.length<=_;rw[zw,F.len,F.len];omega);simp only[aF,f2,aj];have e3:left-TL.size=kZ-(tr 63 a 0 ((cZ sub ls).app TL)).size:=by rw[od];omega
    rw[e3];rfl
   ·rw[if_neg hs,if_neg (by rw[od];omega)];rfl
  unfold nS;simp only[hw,aF,h0,aj,hZ,h5,hk,ez,hx];refine⟨_,?_,rfl⟩;cases hz:a8 0 z with
  |true=>
   obtain⟨d,hd1,hd2⟩:=hF hz;have hy:aa d.2.2.l=((dI L T:Nat):Int):=by rw[hd2];rfl
   simp only[aI,hd1,aj,hy,hb];cases hg:Nat.beq ls.length (dI L T) with
   |true=>rw[hg] at hc;have hc:tr 62 [] 0 .nil=TL:=hc;simp only[aI,sn,aj,hc];exact fin _ rfl
   |false=>rw[hg] at hc;have hc:TA=TL:=hc;simp only[aF,ea,aj,c1,hI,c2,ec,sa,hc];exact fin _ rfl
  |false=>
   have hf0:(0:Int)=((dI L T:Nat):Int):=by rw[hG hz];rfl
   have hb0:af (aa (ls.map bN)) 0=Nat.beq ls.length (dI L T):=by rw[<-hb,<-hf0]
   simp only[aF,aj,hb0];cases hg:Nat.beq ls.length (dI L T) with
   |true=>rw[hg] at hc;have hc:tr 62 [] 0 .nil=TL:=hc;simp only[aI,sn,aj,hc];exact fin _ rfl
   |false=>rw[hg] at hc;have hc:TA=TL:=hc;simp only[aF,ea,aj,c1,hI,c2,ec,sa,hc];exact fin _ rfl
theorem qwt{α:Type}(p:α->Bool):∀(l:List α) (k:Nat),fg p k l=match l.findIdx? p with|some i=>((k+i:Nat):Int)|none=>-1
 |[],_=>rfl
 |x::l,k=>by
  unfold fg;rw[List.findIdx?_cons];cases h:p x with
  |true=>simp
  |false=>
   rw[cond_false,qwt p l (k+1)];cases l.findIdx? p with
   |none=>rfl
   |some i=>show((k+1+i:Nat):Int)=((k+(i+1):Nat):Int);congr 1;omega
theorem PO(L:List DD):∀(m:Nat) (aw:List cY) (R:List bI),1<=m->(cN L m aw R).aA=1
 |0,_,_,h=>by omega
 |m+1,aw,[],_=>rfl
 |m+1,aw,r0::rs,_=>by unfold cN;simp only;split<;>rfl
theorem z4h(bL:Bool)(L:List DD)(hL:GD L)(hu:pj L=true):∀(m:Nat) (aw:List cY) (R:List bI),Inv L aw R->mu R<m->∀N,m<=N->∀left:Nat,left<=1000000->∀(C:Sl (Tx×SN)) (D:Sl cq),C.l.map iB=aw->D.l.map fl=R.map iK->bB oK N (C,D,⟨bL,L⟩,(left:Int),())=some (iL ⟨bL,L⟩ (cN L m aw R) left):=by
 have hv:=(PH hu).1;intro m
 induction m with
 |zero=>intro aw R _ h;omega
 |succ m ih=>
  intro aw R he hX N hN left hj C D hC hD;cases N with
  |zero=>omega
  |succ N=>
   show oK (bB oK N) (C,D,⟨bL,L⟩,(left:Int),())=_;rw[UF];obtain⟨db,dl⟩:=D;have hm:dl.length=R.length:=rK hD;cases R with
   |nil=>
    have e0:af (aa dl) 0=true:=zu (by unfold aa;rw[hm];rfl);have hn:=PN (62,[],0,0) ⟨bL,L⟩ left hj;have hT:cN L (m+1) aw []=tr 62 [] 0 .nil:=rfl;rw[hT];simp only[e0,aI,hn,aj];unfold iL;by_cases h0:left=0
    ·subst h0;rfl
    ·rw[if_neg h0,if_pos (show(tr 62 [] 0 F.nil).size<=left by show 0+0+1<=left;omega)];rfl
   |cons r0 rs=>
    have e0:af (aa dl) 0=false:=zn (by unfold aa;rw[hm,zw];omega);have hH:(r0::rs)[0]?=some r0:=rfl;obtain⟨d,hd,hx⟩:=tx hD hH;have hy:aJ dl 0=some d:=aT (i:=0) hd;obtain⟨⟨pb,pl⟩,da⟩:=d;have hI:pl.map Sl.l=r0.1.map F.flat:=congrArg Prod.fst hx;have hJ:da=r0.2:=congrArg Prod.snd hx;have hk:r0∈r0::rs:=zf ..;have hl:=he.row r0 hk;have hA:=he.wide;have hg:=qrx pb pl r0.1 hI (fun p hp=>(hl.tree hp).1) (by have:=hl.1;omega);rw[qwt] at hg;cases hf:r0.1.findIdx? (fun p=>!fE p) with
    |none=>
     rw[hf] at hg;have hT:cN L (m+1) aw (r0::rs)=tr 61 [] r0.2 .nil:=by show(match r0.1.findIdx? (fun p=>!fE p) with|none=>_|some i=>_)=_;rw[hf]
     have hB:aB (-1) 0=true:=id (Eq.refl _);have hn:=PN (61,[],da,0) ⟨bL,L⟩ left hj;rw[hT];simp only[e0,aF,hy,aj,hg,hB,aI,hn];unfold iL;by_cases h0:left=0
     ·subst h0;rfl
     ·rw[if_neg h0,if_pos (show(tr 61 [] r0.2 F.nil).size<=left by show 0+0+1<=left;omega),hJ];rfl
    |some i=>
     rw[hf] at hg;obtain⟨hs,hK,_⟩:=List.findIdx?_eq_some_iff_getElem.1 hf;have hi:i<aw.length:=by rw[<-hl.1];exact hs
     have hw:fE (atR r0 i)=false:=by
      have e:atR r0 i=r0.1[i]:=by unfold atR;rw[List.getD_eq_getElem?_getD,ze hs];rfl
      rw[e];simpa using hK
     have hc:aw[i]?=some aw[i]:=ze hi;generalize hY:aw[i]=c at hc;have hO:aw.getD i ([],[])=c:=by rw[List.getD_eq_getElem?_getD,hc];rfl
     obtain⟨⟨a,⟨bT,T⟩⟩,hP,hQ⟩:=tx (f:=iB) (g:=id) (R:=aw) (by rw[List.map_id];exact hC) hc;obtain rfl:(a,T)=c:=hQ;have hT:cN L (m+1) aw (r0::rs)=tr 63 a 0 ((cZ (fun n=>cN L m (aw.take i++(lD L (a,T) n++aw.drop (i+1))) ((r0::rs).filterMap (iN i n (lD L (a,T) n).length))) (ef i (r0::rs) [])).app
       (bif Nat.beq (ef i (r0::rs) []).length (dI L T) then tr 62 [] 0 .nil else cN L m (aw.take i++aw.drop (i+1)) ((r0::rs).filterMap (dV i)))):=by
      show(match r0.1.findIdx? (fun p=>!fE p) with|none=>_|some i=>_)=_;rw[hf];simp only[hO]
     have hE:1<=m:=by have:=PK (r:=r0) (i:=i) hs (he.jV hk) hw;have:mu (r0::rs)=oU r0+mu rs:=rfl;omega
     have hR:cN L m [] []=tr 62 [] 0 .nil:=by
      cases m with
      |zero=>omega
      |succ m=>rfl
     have hB:aB ((0+i:Nat):Int) 0=false:=zn om;have hz:((0+i:Nat):Int)=(i:Int):=om
     have hn:=PN (63,a,0,0) ⟨bL,L⟩ left hj;have hS:=aT hP;have hF:=he.place _ (zj hc);have hF:a.length+30*mu (r0::rs)<=90000:=hF;rw[hT];simp only[e0,aF,hy,aj,hg,hz,hS,hn];by_cases h0:left=0
     ·subst h0;rw[if_pos rfl];unfold iL;rw[if_neg (by show ¬(_+0+1<=0);omega)];rfl
     ·rw[if_neg h0];simp only[aF];have hG:=he.rows;have hU:=Mz i (r0::rs) [];have key:=qwk (bB oK N) db dl (r0::rs) hD om i (fun r hr=>he.rL hi hr) C ⟨bL,L⟩ ((left-1:Nat):Int) a ⟨bT,T⟩ ⟨false,[(63,a,0,0)]⟩ (fun q=>q=_) (fun nb=>by
       obtain⟨q,e,hq⟩:=qws (bB oK N) C aw hC om db dl (r0::rs) hD hG i hi (fun r hr=>he.rL hi hr) bL L hL hu left hj a om bT T (he.HY _ (zj hc)) nb (ef i (r0::rs) []) (by simp at hU hG ⊢;omega)
        (fun n=>cN L m (aw.take i++(lD L (a,T) n++aw.drop (i+1))) ((r0::rs).filterMap (iN i n (lD L (a,T) n).length))) (fun n=>PO L m _ _ hE)
        (fun n=>by have:=(Yn hL hv he.HY hc n).1;rw[HX,EB] at this;exact this)
        (fun n _ M D' hM ht dF ho=>by
         have hV:=Yo he hi n (lD L (a,T) n).length hk hw;have hW:(lD L (a,T) n).length=((lB L T n.2.1).getD []).length:=by rw[HX,EB]
         exact ih _ _ (qld hL hv he hc n hk hw) om N om dF ho M D' hM (by rw[hW];exact ht))
        (fun dF ho=>by rw[<-hR];exact ih [] [] ⟨Nat.zero_le _,fun _ h=>(by cases h),fun _ h=>(by cases h),fun _ h=>(by cases h),dc⟩ (show 0<m by omega) N om dF ho ⟨true,[]⟩ ⟨true,[]⟩ rfl rfl)
        (cN L m (aw.take i++aw.drop (i+1)) ((r0::rs).filterMap (dV i))) (PO L m _ _ hE)
        (fun M D' hM ht dF ho=>ih _ _ (qwr he hi hk hw) (by have:=Yp he hi hk hw;omega) N om dF ho M D' hM ht) om
       exact⟨_,by rw[e,hq],rfl⟩)
      obtain⟨q,e,hq⟩:=key;rw[<-hq];exact e
theorem qzr(bL:Bool)(L:List DD)(hL:GD L)(he:pj L=true)(m:Nat)(aw:List cY)(R:List bI)(hc:Inv L aw R)(hf:mu R<m)(left:Nat)(hl:left<=1000000)(C:Sl (Tx×SN))(D:Sl cq)(hC:C.l.map iB=aw)(hD:D.l.map fl=R.map iK):vP (C,D,⟨bL,L⟩,(left:Int),())=some (iL ⟨bL,L⟩ (cN L m aw R) left):=xc m fun N hN=>z4h bL L hL he m aw R hc hf N hN left hl C D hC hD
def la(fs:List F):List bI:=fs.zipIdx.map fun e=>([e.1],(e.2:Int))
theorem z2y(p:F):wt p<=p.size:=by unfold wt;rw[<-F.len];exact List.length_filter_le _ _
theorem qpq(m:Nat):∀(fs:List F) (k:Nat),(∀f,f∈fs->f.size<=m)->mu ((fs.zipIdx k).map fun e=>(([e.1],(e.2:Int)):bI))<=fs.length*m
 |[],_,_=>Nat.zero_le _
 |f::fs,k,h=>by have ih:=qpq m fs (k+1) fun g hg=>h g (zh _ hg);have h1:=h f (zf ..);have h2:=z2y f;rw[List.zipIdx_cons,zM];show(wt f+0)+mu _<=_;rw[zw,Nat.succ_mul];omega
theorem MB(L:List DD)(T:List ND)(hT:rM T)(fs:List F)(h6:fs.length<=8)(hf:∀f,f∈fs->Al L f T/\f.size<=30):Inv L [([],T)] (la fs)/\mu (la fs)<1000:=by
 have hk:mu (la fs)<=fs.length*30:=qpq 30 fs 0 fun f h=>(hf f h).2;have hg:fs.length*30<=8*30:=Nat.mul_le_mul_right _ h6;refine⟨⟨by unfold la;simp;omega,fun r hr=>?_,fun c hc=>?_,fun c hc=>?_,by show 1+8*_<=_;omega⟩,by omega⟩
 ·obtain⟨e,he,rfl⟩:=zW.1 hr;have hm:e.1∈fs:=by
   obtain⟨j,hj⟩:=List.mem_iff_getElem?.1 he;rw[List.getElem?_zipIdx] at hj;cases hx:fs[j]? with
   |none=>rw[hx] at hj;cases hj
   |some x=>rw[hx] at hj;injection hj with hj;rw[<-hj];exact zj hx
  refine⟨rfl,fun j p c h1 h2=>?_⟩;cases j with
  |zero=>injection h1 with h1;injection h2 with h2;subst h1 h2;exact(hf e.1 hm).1
  |succ j=>cases h1
 ·rw[zS.1 hc];exact hT
 ·rw[zS.1 hc];show 0+30*_<=_;omega
theorem qle(fs:List F)(f:F):la (fs++[f])=la fs++[([f],(fs.length:Int))]:=by unfold la;rw[List.zipIdx_append,zA];simp
theorem qzs(b0 b1 b2:Bool)(L:List DD)(hL:GD L)(ho:pj L=true)(T:List ND)(hT:rM T)(P:List SN)(fs:List F)(hP:P.map Sl.l=fs.map F.flat)(h6:fs.length<=8)(hf:∀f,f∈fs->Al L f T/\f.size<=30)(hc:∀p,p∈P->iU (⟨b0,L⟩,⟨b1,T⟩,p,())=some (0,()))(he:iU (⟨b0,L⟩,⟨b1,T⟩,⟨false,[(21,[],0,0)]⟩,())=some (0,())):lZ (⟨b0,L⟩,⟨b1,T⟩,⟨b2,P⟩,())=some (if(cN L 1000 [([],T)] (la fs)).size<=4000 then(⟨false,(cN L 1000 [([],T)] (la fs)).flat⟩,0,()) else(⟨true,[]⟩,131,())):=by
 have hg:P.length=fs.length:=rK hP;have mE:av (af (0:Int) 0)=false:=id (Eq.refl _);rw[Lz]
 suffices H:∃q,aG jO (⟨b0,L⟩,⟨b1,T⟩,⟨b2,P⟩,aa P,0,0,⟨true,[]⟩,⟨true,[]⟩,())=some q/\q=(if(cN L 1000 [([],T)] (la fs)).size<=4000 then(⟨false,(cN L 1000 [([],T)] (la fs)).flat⟩,0,()) else(⟨true,[]⟩,131,())) by obtain⟨q,e,hq⟩:=H;exact e.trans (congrArg some hq)
 refine rJ jO fs.length
  (fun k s=>∃O:Sl cq,s=(⟨b0,L⟩,⟨b1,T⟩,⟨b2,P⟩,aa P,(k:Int),0,O,⟨true,[]⟩,())/\O.l.map fl=(la (fs.take k)).map iK/\O.l.length=k)
  (fun q=>q=(if(cN L 1000 [([],T)] (la fs)).size<=4000 then(⟨false,(cN L 1000 [([],T)] (la fs)).flat⟩,0,()) else(⟨true,[]⟩,131,()))) ?_ ?_ (s0:=(⟨b0,L⟩,⟨b1,T⟩,⟨b2,P⟩,aa P,0,0,⟨true,[]⟩,⟨true,[]⟩,())) ⟨⟨true,[]⟩,rfl,rfl,rfl⟩
 ·rintro k s hk ⟨⟨ob,ol⟩,rfl,h1,h2⟩;have hj:fs[k]?=some fs[k]:=ze hk;generalize fs[k]=f at hj;obtain⟨x,hx,hl⟩:=tx hP hj;have hl:x.l=f.flat:=hl;have h2:ol.length=k:=h2;have ht:fs.take (k+1)=fs.take k++[f]:=by rw[List.take_add_one,hj];rfl
  have f1:∀y:cq,fit (aK (aa ol) (aa [y]))=some ():=fun y=>eM (by show ol.length+1<=_;omega);unfold jO;simp only[cE hx,aI,aT hx,aj,hc x (zj hx),mE,aF,f1,aH (show k<=1000000000 by omega)];refine⟨_,rfl,_,rfl,?_,?_⟩
  ·show(ol++[((⟨false,[x]⟩:Sl SN),(k:Int))]).map fl=_;rw[zA,h1,ht,qle,zA,zJ,Nat.min_eq_left om];show _++[([x.l],(k:Int))]=_++[([f.flat],(k:Int))];rw[hl]
  ·show(ol++[_]).length=k+1;rw[zm,h2];rfl
 ·rintro s ⟨O,rfl,h1,h2⟩;rw[List.take_length] at h1;have hm:aB ((fs.length:Nat):Int) (aa P)=false:=by rw[<-hg];exact cQ P
  obtain⟨hn,hu⟩:=MB L T hT fs h6 hf;have hb:=qzr b0 L hL ho 1000 [([],T)] (la fs) hn hu 4000 om ⟨false,[([],⟨b1,T⟩)]⟩ O rfl h1;have hb:vP (⟨false,[([],⟨b1,T⟩)]⟩,O,⟨b0,L⟩,4000,())=_:=hb;unfold jO;simp only[hm,aF,he,aj,mE,hb];unfold iL;by_cases hs:(cN L 1000 [([],T)] (la fs)).size<=4000
  ·rw[if_pos hs,if_pos hs];exact⟨_,rfl,rfl⟩
  ·rw[if_neg hs,if_neg hs];exact⟨_,rfl,rfl⟩
theorem qwu(b0 b1 b2:Bool)(L:List DD)(T:List ND)(P:List SN)(h6:P.length<=8)(ck:SN->Bool)(ca:Bool)(hg:∀p,p∈P->iU (⟨b0,L⟩,⟨b1,T⟩,p,())=some (bif ck p then 0 else 120,()))(he:iU (⟨b0,L⟩,⟨b1,T⟩,⟨false,[(21,[],0,0)]⟩,())=some (bif ca then 0 else 120,()))(hf:(P.all ck&&ca)=false):lZ (⟨b0,L⟩,⟨b1,T⟩,⟨b2,P⟩,())=some (⟨true,[]⟩,120,()):=by
 have mE:av (af (0:Int) 0)=false:=id (Eq.refl _);have Ez:av (af (120:Int) 0)=true:=id (Eq.refl _);rw[Lz]
 suffices H:∃q,aG jO (⟨b0,L⟩,⟨b1,T⟩,⟨b2,P⟩,aa P,0,0,⟨true,[]⟩,⟨true,[]⟩,())=some q/\q=(⟨true,[]⟩,120,()) by obtain⟨q,e,hq⟩:=H;exact e.trans (congrArg some hq)
 refine rJ jO P.length
  (fun k s=>∃O:Sl cq,s=(⟨b0,L⟩,⟨b1,T⟩,⟨b2,P⟩,aa P,(k:Int),0,O,⟨true,[]⟩,())/\(P.take k).all ck=true/\O.l.length=k) _ ?_ ?_ ⟨⟨true,[]⟩,rfl,rfl,rfl⟩
 ·rintro k s hk ⟨⟨ob,ol⟩,rfl,h1,h2⟩;have hx:P[k]?=some P[k]:=ze hk;generalize P[k]=x at hx;have h2:ol.length=k:=h2;have hl:P.take (k+1)=P.take k++[x]:=by rw[List.take_add_one,hx];rfl
  have f1:∀y:cq,fit (aK (aa ol) (aa [y]))=some ():=fun y=>eM (by show ol.length+1<=_;omega);unfold jO;simp only[cE hx,aI,aT hx,aj,hg x (zj hx)];cases hc:ck x with
  |false=>simp only[cond_false,Ez,aI];exact⟨_,rfl,rfl⟩
  |true=>
   simp only[cond_true,mE,aF,f1,aj,aH (show k<=1000000000 by omega)];refine⟨_,rfl,_,rfl,?_,?_⟩
   ·rw[hl,List.all_append,h1];simp[hc]
   ·show(ol++[_]).length=k+1;rw[zm,h2];rfl
 ·rintro s ⟨O,rfl,h1,h2⟩;rw[List.take_length] at h1;rw[h1,Bool.true_and] at hf;rw[hf] at he;have hj:aB ((P.length:Nat):Int) (aa P)=false:=cQ P;unfold jO;simp only[hj,aF,he,aj,cond_false,Ez,aI];exact⟨_,rfl,rfl⟩
theorem PQ(x):ti x=kH x:=rfl
theorem qlf(x):tj x=lX x:=rfl
theorem Yr{d:cq}{r:bI}(h:fl d=iK r){i:Nat}(hi:i<r.1.length){y:Sl SN}{q:List F}(hy:y.l.map Sl.l=q.map F.flat)(hs:r.1.length+q.length<=100000):∃x:cq,oO (d,(i:Int),y,())=some (x,())/\fl x=iK (nB r i q):=by obtain⟨⟨db,dl⟩,da⟩:=d;obtain⟨l,a⟩:=r;have h1:dl.map Sl.l=l.map F.flat:=congrArg Prod.fst h;have h2:da=a:=congrArg Prod.snd h;have hc:dl.length=l.length:=rK h1;have hq:y.l.length=q.length:=rK hy;have hi:i<l.length:=hi;have hs:l.length+q.length<=100000:=hs;subst h2;have c1:bG dl 0 (i:Int)=some (dl.take i):=Mi om;have he:ar .i64 (i:Int) 1=((i+1:Nat):Int):=aH om;have c2:bG dl ((i+1:Nat):Int) (aa dl)=some (dl.drop (i+1)):=My om;have f1:fit (aK (aa ([]:List SN)) (aa (dl.take i)))=some ():=eM (by show 0+(dl.take i).length<=_;rw[zJ];omega);have f2:fit (aK (aa (app ([]:List SN) (dl.take i))) (aa y.l))=some ():=eM (by show(dl.take i).length+y.l.length<=_;rw[zJ];omega);have f3:fit (aK (aa (app (app ([]:List SN) (dl.take i)) y.l)) (aa (dl.drop (i+1))))=some ():=eM (by show(dl.take i++y.l).length+(dl.drop (i+1)).length<=_;rw[zm,zJ,zT];omega);rw[Vb];simp only[c1,aj,f1,f2,he,c2,f3];refine⟨_,rfl,?_⟩;show(((([]:List SN)++dl.take i)++y.l++dl.drop (i+1)).map Sl.l,da)=((l.take i++(q++l.drop (i+1))).map F.flat,da);rw[List.nil_append];simp only[zA,List.map_take,List.map_drop,h1,hy,zD]
theorem qzt(b:Bool)(acc:List cI)(n:cI)(hl:acc.length<=1000000):vW (⟨b,acc.map bN⟩,(n.1,n.2.1,n.2.2,0),())=some (acc.any (fun m=>m==n),()):=by
 have hc:aa (acc.map bN)=aa acc:=by unfold aa;rw[zC]
 rw[Vc];have e:=j4 uy (fun k=>(⟨b,acc.map bN⟩,k,n.1,n.2.1,n.2.2,0,())) acc hl (fun _ m=>bif m==n then some (true,()) else none) (false,()) ?_ ?_
 ·rw[e,Aj];cases acc.any fun m=>m==n<;>rfl
 ·intro k m hx hk;have hm:(acc.map bN)[k]?=some (bN m):=getM hx;have hb:aP (af m.1 n.1) (aP (aS m.2.1 n.2.1) (aP (af m.2.2 n.2.2) (af 0 0)))=(m==n):=PM (.cons m.1 m.2.1 m.2.2 .nil .nil) n;unfold uy;simp only[cE hm,aI,aT hm,aj,bN,hb,aH (show k<=1000000000 by omega)];cases (m==n)<;>rfl
 ·have he:aB ((acc.length:Nat):Int) (aa (acc.map bN))=false:=by rw[hc];exact cQ acc
  unfold uy;simp only[he,aF]
theorem qnd(j:Nat)(hj:j<10):FY ((j:Int),())=some (pF j,()):=by
 have h:j=0\/j=1\/j=2\/j=3\/j=4\/j=5\/j=6\/j=7\/j=8\/j=9:=om
 rcases h with rfl|rfl|rfl|rfl|rfl|rfl|rfl|rfl|rfl|rfl<;>rfl
theorem qne(a:Tx)(ha:a.length<=100000)(j:Nat)(hj:j<10):tl (a,(j:Int),())=some (wG a j,()):=by rw[Vd,qnd j hj];have hl:=O2 (j:Int);have f1:fit (aK (aa a) (aa ([46]:Tx)))=some ():=eM (by show a.length+1<=_;omega);have f2:fit (aK (aa (EC a ([46]:Tx))) (aa (pF (j:Int))))=some ():=eM (by show(a++[46]).length+_<=_;rw[zm];simp;omega);unfold wG;simp only[aj,f1,f2];cases aS a []<;>rfl
theorem qgu(C M:Sl (Tx×SN))(i:Nat)(hi:i<C.l.length)(hs:C.l.length+M.l.length<=100000):∃x:Sl (Tx×SN),qd (C,(i:Int),M,())=some (x,())/\x.l=C.l.take i++(M.l++C.l.drop (i+1)):=by obtain⟨cb,dl⟩:=C;have hi:i<dl.length:=hi;have hs:dl.length+M.l.length<=100000:=hs;have c1:bG dl 0 (i:Int)=some (dl.take i):=Mi om;have hc:ar .i64 (i:Int) 1=((i+1:Nat):Int):=aH om;have c2:bG dl ((i+1:Nat):Int) (aa dl)=some (dl.drop (i+1)):=My om;have f1:fit (aK (aa ([]:List (Tx×SN))) (aa (dl.take i)))=some ():=eM (by show 0+(dl.take i).length<=_;rw[zJ];omega);have f2:fit (aK (aa (app ([]:List (Tx×SN)) (dl.take i))) (aa M.l))=some ():=eM (by show(dl.take i).length+M.l.length<=_;rw[zJ];omega);have f3:fit (aK (aa (app (app ([]:List (Tx×SN)) (dl.take i)) M.l)) (aa (dl.drop (i+1))))=some ():=eM (by show(dl.take i++M.l).length+(dl.drop (i+1)).length<=_;rw[zm,zJ,zT];omega);rw[Vf];simp only[c1,aj,f1,f2,hc,c2,f3];refine⟨_,rfl,?_⟩;show(([]:List (Tx×SN))++dl.take i)++M.l++dl.drop (i+1)=_;rw[List.nil_append,zD]
theorem qwv(L:List DD)(hL:GD L)(b bT:Bool)(x:ND)(T:List ND):vX (⟨b,L⟩,⟨bT,x::T⟩,())=some ((dI L (x::T):Int),()):=by
 rw[Vg];have h0:aJ (x::T) 0=some x:=rfl;have e:=j4 uA (fun k=>(⟨b,L⟩,⟨bT,x::T⟩,k,())) L (by have:=hL.1;omega) (fun _ d=>bif aS d.1 x.2.1 then some (aa d.2.2.l,()) else none) (0,()) ?_ ?_
 ·rw[e,qla (fun d:DD=>aS d.1 x.2.1) (fun d=>(aa d.2.2.l,()))];unfold dI;show _=some (((match L.find? (fun d=>aS d.1 x.2.1) with|some d=>d.2.2.l.length|none=>0:Nat):Int),());cases L.find? fun d=>aS d.1 x.2.1<;>rfl
 ·intro k d hx hk;obtain⟨d0,d1,d2⟩:=d;unfold uA;simp only[cE hx,aI,aT hx,aj,h0,aH (show k<=1000000000 by omega)];cases aS d0 x.2.1<;>rfl
 ·unfold uA;simp only[cQ,aF]
theorem qlg(b:Bool)(k:Int)(t:Tx)(n:Int)(ks:F)(hs:ks.size+1<=4000):∃q,tm (⟨b,(tr k t n ks).flat⟩,())=some q/\∃O:List SN,q=(⟨false,O⟩,())/\O.map Sl.l=ks.trees:=by
 have hj:(tr k t n ks).flat.length<=10000:=by rw[pn];omega
 have hk:=Ey k t n ks;have hc:=HP b _ hj hk;have hl:=Jq hj ks 1 hk.node.2.1 (by rw[pn];omega);have hm:=F.cv ks;have hn:=F.eV ks;have ho:=PA (Nat.le_refl ks.size);rw[Ve];have hc:eI (⟨b,(tr k t n ks).flat⟩,0,())=_:=hc;rw[hc,aj];refine rJ uz (ks.pos (0+1)).length (fun v s=>∃O:List SN,s=(⟨b,(tr k t n ks).flat⟩,⟨false,ks.pos (0+1)⟩,(v:Int),⟨false,O⟩,())/\O.map Sl.l=ks.trees.take v/\O.length=v) _ ?_ ?_ ⟨[],rfl,rfl,rfl⟩
 ·rintro v s hv ⟨O,rfl,h1,h2⟩;have hp:(ks.pos (0+1))[v]?=some (ks.pos (0+1))[v]:=ze hv;generalize (ks.pos (0+1))[v]=pv at hp;obtain⟨e,he,hq⟩:∃e,(ks.gF 1)[v]?=some e/\e.1=pv:=by
   rw[<-F.dD,zV] at hp;cases hx:(ks.gF 1)[v]? with
   |none=>rw[hx] at hp;cases hp
   |some e=>rw[hx] at hp;injection hp with hp;exact⟨e,rfl,hp⟩
  rw[<-hq] at hp;have hf:ks.trees[v]?=some e.2:=by rw[<-F.cX ks 1];exact getM he
  have hu:=fc hf;have hg:=qpk (hl e (zj he)) (by have:=ho e.2 (zj hf);omega) b;have f1:∀y:SN,fit (aK (aa O) (aa [y]))=some ():=fun y=>eM (by show O.length+1<=_;omega);unfold uz;simp only[cE hp,aI,aT hp,aj,hg,f1,aH (show v<=1000000000 by omega)];refine⟨_,rfl,_,rfl,?_,?_⟩
  ·show(O++[_]).map Sl.l=_;rw[zA,h1,List.take_add_one,hf];rfl
  ·show(O++[_]).length=v+1;rw[zm,h2];rfl
 ·rintro s ⟨O,rfl,h1,h2⟩;have ht:(ks.pos (0+1)).length=ks.aA:=F.dX ks _;unfold uz;simp only[cQ,aF];exact⟨_,rfl,O,rfl,by rw[h1,ht,<-hn,List.take_length]⟩
theorem qs2(x:ND)(b:Bool)(A:List SN)(hA:A.length<=100000)(hs:((A.map Sl.l).flatten).length<=100000):tn (x,⟨b,A⟩,())=some (⟨false,(x.1,x.2.1,x.2.2.1,(A.length:Int))::(A.map Sl.l).flatten⟩,()):=by
 obtain⟨a0,a1,a2,a3⟩:=x;rw[Vh]
 suffices H:∃q,aG qZ (⟨b,A⟩,0,⟨false,[(a0,a1,a2,aa A)]⟩,())=some q/\q=(⟨false,(a0,a1,a2,(A.length:Int))::(A.map Sl.l).flatten⟩,()) by obtain⟨q,e,hq⟩:=H;exact e.trans (congrArg some hq)
 refine rJ qZ A.length (fun k s=>s=(⟨b,A⟩,(k:Int),⟨false,(a0,a1,a2,(A.length:Int))::((A.take k).map Sl.l).flatten⟩,())) _ ?_ ?_ rfl
 ·rintro k s hk rfl;have hx:A[k]?=some A[k]:=ze hk;generalize A[k]=y at hx;have hc:A.take (k+1)=A.take k++[y]:=by rw[List.take_add_one,hx];rfl
  have he:((A.take (k+1)).map Sl.l).flatten.length<=((A.map Sl.l).flatten).length:=by
   conv=>rhs;rw[<-List.take_append_drop (k+1) A]
   rw[zA,List.flatten_append,zm];omega
  rw[hc,zA,List.flatten_append,zm] at he;have hy:([y].map Sl.l).flatten=y.l:=by simp
  rw[hy] at he;have f1:fit (aK (aa ((a0,a1,a2,(A.length:Int))::((A.take k).map Sl.l).flatten:List ND)) (aa y.l))=some ():=eM (by show((_:ND)::_).length+y.l.length<=_;rw[zw];omega);unfold qZ;simp only[cE hx,aI,aT hx,aj,f1,aH (show k<=1000000000 by omega)];refine⟨_,rfl,?_⟩;rw[hc,zA,List.flatten_append,hy];rfl
 ·rintro s rfl;unfold qZ;simp only[cQ,aF,List.take_length];exact⟨_,rfl,rfl⟩
theorem F.oe:∀f g:F,(f.app g).bY=f.bY++g.bY
 |.nil,_=>rfl
 |.cons k t n ks r,g=>by show tr k t n ks::(r.app g).bY=tr k t n ks::(r.bY++g.bY);rw[F.oe r g]
def Jt(f:F):Nat:=((f.bY.getLast?).map F.size).getD 0
theorem qww(A:F){T:F}(h:T.aA=1):Jt (A.app T)=T.size:=by obtain⟨k,t,n,ks,rfl⟩:=HT T h;unfold Jt;rw[F.oe];show(((A.bY++[tr k t n ks]).getLast?).map F.size).getD 0=_;simp
def PT:F->Bool
 |.cons _ _ _ ks _=>decide (4000<1+ks.size-Jt ks)||decide (4000<Jt ks)
 |.nil=>false
def fO(T:F):SN×Bool×Unit:=if T.size<=4000 then(⟨false,T.flat⟩,true,()) else if PT T=true then(⟨true,[]⟩,false,()) else(⟨false,T.flat⟩,false,())
theorem MC{T:F}(h:T.size<=4000):fO T=(⟨false,T.flat⟩,true,()):=if_pos h
theorem Ys{T:F}(h:¬T.size<=4000):(fO T).2.1=false:=by unfold fO;rw[if_neg h];split<;>rfl
theorem qng(b:Bool){p:F}(hc:p.aA=1)(hs:p.size<=1000):∃O:List SN,tm (⟨b,p.flat⟩,())=some (⟨false,O⟩,())/\O.map Sl.l=(wF p).map F.flat:=by obtain⟨k,t,n,ks,rfl⟩:=HT p hc;have hs:ks.size+0+1<=1000:=hs;obtain⟨q,e,O,rfl,h⟩:=qlg b k t n ks om;exact⟨O,e,by rw[h,<-F.cG];rfl⟩
theorem qs4(self:vw)(LL:Sl DD)(C:Sl (Tx×SN))(hB:C.l.length<=9000)(b:Bool)(D:List cq)(R:List bI)(hD:D.map fl=R.map iK)(hN:R.length<=1000)(i:Nat)(hi:i<C.l.length)(hx:∀r,r∈R->rL i r)(size:Nat)(hC:size<=4000)(S:Sl SN)(aA:Nat)(hy:aA<=8)(hS:S.l.map Sl.l=(List.replicate aA iW).map F.flat)(lb:Bool)(ls:List cI)(k:Nat)(hk:k<=1000)(n:cI)(hn:ls[k]?=some n)(any:Sl cq)(all:List SN)(hz:all.length<=100000)(M:Sl (Tx×SN))(hM:M.l.length<=8)(T:F)(he:∀(M':Sl (Tx×SN)) (D':Sl cq),M'.l=C.l.take i++(M.l++C.l.drop (i+1))->D'.l.map fl=(R.filterMap (iN i n aA)).map iK->self (LL,M',D',())=some (fO T)):∃q,aG (nZ self) (LL,C,⟨b,D⟩,(i:Int),(size:Int),(k:Int),S,0,⟨lb,ls.map bN⟩,any,⟨false,all⟩,M,⟨false,[]⟩,())=some q/\q=Sum.inr (if size+1+T.size<=4000 then Sum.inl (LL,C,⟨b,D⟩,(i:Int),((size+1+T.size:Nat):Int),((k+1:Nat):Int),⟨lb,ls.map bN⟩,any,⟨false,all++[⟨false,[bN n]⟩,⟨false,T.flat⟩]⟩,()) else Sum.inr (Sum.inr (Sum.inr (⟨true,[]⟩,false,())))):=by
 have hj:D.length=R.length:=rK hD;have hg:(ls.map bN)[k]?=some (bN n):=getM hn;refine rJ (nZ self) R.length
  (fun v s=>∃O:List cq,s=(LL,C,⟨b,D⟩,(i:Int),(size:Int),(k:Int),S,(v:Int),⟨lb,ls.map bN⟩,any,⟨false,all⟩,M,⟨false,O⟩,())/\O.map fl=((R.take v).filterMap (iN i n aA)).map iK/\O.length<=v) _ ?_ ?_ ⟨[],rfl,rfl,Nat.le_refl _⟩
 ·rintro v s hv ⟨O,rfl,h1,h2⟩;have hr:R[v]?=some R[v]:=ze hv;generalize R[v]=r at hr;have hc:=hx r (zj hr);obtain⟨d,hd,hm⟩:=tx hD hr;obtain⟨pb,hA⟩:=dW hm hc.1;obtain⟨ht,ho⟩:=hc.at
  have hf:∀x:cq,fit (aK (aa O) (aa [x]))=some ():=fun x=>eM (by show O.length+1<=_;omega);have hq:ar .i64 (v:Int) 1=((v+1:Nat):Int):=aH om;unfold nZ;simp only[cE hd,aI,aT hd,aj,hA,PQ,EA _ _ ht];cases hw:fE (atR r i) with
  |true=>
   obtain⟨x,e1,e2⟩:=Yr hm hc.1 (y:=S) (q:=List.replicate aA iW) hS (by rw[List.length_replicate];have:=hc.2.1;omega);simp only[aI,aj,e1,hf,hq];refine⟨_,rfl,_,rfl,?_,?_⟩
   ·show(O++[x]).map fl=_;rw[A2 _ hr,zA,zA,<-h1];unfold iN;rw[hw];show _++[fl x]=_;rw[e2];rfl
   ·show(O++[_]).length<=v+1;rw[zm];simp;omega
  |false=>
   simp only[aF,aj,qlf,PL _ _ ht,ri (fc hg),Pm hg,bN,PM];cases hl:(fu (atR r i)==n) with
   |true=>
    obtain⟨K,eK,hK⟩:=qng pb ht ho;have hE:=qgs (atR r i);obtain⟨x,e1,e2⟩:=Yr hm hc.1 (y:=⟨false,K⟩) (q:=wF (atR r i)) hK (by have:=hc.2.1;omega);simp only[aI,aj,eK,e1,hf,hq];refine⟨_,rfl,_,rfl,?_,?_⟩
    ·show(O++[x]).map fl=_;rw[A2 _ hr,zA,zA,<-h1];unfold iN;rw[hw,hl];show _++[fl x]=_;rw[e2];rfl
    ·show(O++[_]).length<=v+1;rw[zm];simp;omega
   |false=>simp only[aF,aj,hq];refine⟨_,rfl,_,rfl,?_,by omega⟩;rw[A2 _ hr,zA,<-h1];unfold iN;rw[hw,hl];simp
 ·rintro s ⟨O,rfl,h1,h2⟩;rw[List.take_length] at h1;have hu:aB ((R.length:Nat):Int) (aa D)=false:=by rw[<-hj];exact cQ D
  obtain⟨M',e1,e2⟩:=qgu C M i hi om;have hs:=he M' ⟨false,O⟩ e2 h1;have f1:∀x y:SN,fit (aK (aa all) (aa [x,y]))=some ():=fun x y=>eM (by show all.length+2<=_;omega);unfold nZ;simp only[hu,aF,e1,aj,hs,ri (fc hg),Pm hg,f1];by_cases hT:T.size<=4000
  ·have e3:ar .i64 1 (aa T.flat)=((1+T.size:Nat):Int):=by unfold aa;rw[F.len,AO om om];omega
   have e4:ar .i64 (size:Int) ((1+T.size:Nat):Int)=((size+1+T.size:Nat):Int):=by rw[AO om om];omega
   simp only[MC hT,av,Bool.not_true,aF,aj,e3,e4,aH (show k<=1000000000 by omega)];by_cases h3:size+1+T.size<=4000
   ·have e5:aB 4000 ((size+1+T.size:Nat):Int)=false:=zn om;rw[if_pos h3];simp only[e5,aF];exact⟨_,rfl,rfl⟩
   ·have e5:aB 4000 ((size+1+T.size:Nat):Int)=true:=zu om;rw[if_neg h3];simp only[e5,aI];exact⟨_,rfl,rfl⟩
  ·rw[if_neg om];simp only[Ys hT,av,Bool.not_false,aI,aj];exact⟨_,rfl,rfl⟩
theorem qs5(self:vw)(LL:Sl DD)(C:Sl (Tx×SN))(D:Sl cq)(i size k:Int)(A:Sl SN)(Ts:List (List ND))(hA:A.l.map Sl.l=Ts)(hN:Ts.length<=8)(fu:SN)(any:Sl cq)(all:Sl SN)(a:Tx)(ha:a.length<=90000)(T0:SN)(hc:aJ C.l i=some (a,T0))(eT:_->Prop)(H:∀(M:Sl (Tx×SN)) (Q:Sl SN),M.l.map iB=po a Ts->Q.l.map Sl.l=(List.replicate Ts.length iW).map F.flat->∃q,aG (nZ self) (LL,C,D,i,size,k,Q,0,fu,any,all,M,⟨false,[]⟩,())=some (Sum.inr q)/\eT q):∃q,aG (q7 self) (LL,C,D,i,size,k,A,0,fu,any,all,⟨false,[]⟩,⟨false,[]⟩,())=some q/\eT q:=by
 have he:A.l.length=Ts.length:=by rw[<-hA,zC]
 refine rJ (q7 self) Ts.length
  (fun v s=>∃(M:Sl (Tx×SN)) (Q:Sl SN),s=(LL,C,D,i,size,k,A,(v:Int),fu,any,all,M,Q,())/\M.l.map iB=po a (Ts.take v)/\Q.l.map Sl.l=(List.replicate v iW).map F.flat) eT ?_ ?_ ⟨⟨false,[]⟩,⟨false,[]⟩,rfl,rfl,rfl⟩
 ·rintro v s hv ⟨⟨mb,ml⟩,⟨qb,ql⟩,rfl,h1,h2⟩;have hk:A.l[v]?=some (A.l[v]' om):=ze om;generalize A.l[v]' om=x at hk;have hx:Ts[v]?=some x.l:=by rw[<-hA];exact getM hk
  have hg:Ts.take (v+1)=Ts.take v++[x.l]:=by rw[List.take_add_one,hx];rfl
  have hl:ml.length=v:=by have:=congrArg List.length h1;unfold po at this;simp at this;omega
  have hm:ql.length=v:=by have:=congrArg List.length h2;simp at this;omega
  have f1:∀y:Tx×SN,fit (aK (aa ml) (aa [y]))=some ():=fun y=>eM (by show ml.length+1<=_;omega);have f2:∀y:SN,fit (aK (aa ql) (aa [y]))=some ():=fun y=>eM (by show ql.length+1<=_;omega);have hj:ar .i64 (v:Int) 1=((v+1:Nat):Int):=aH om;unfold q7;simp only[cE hk,aI,aT hk,aj,hc,qne a om v om,f1,f2,hj];refine⟨_,rfl,_,_,rfl,?_,?_⟩
  ·show(ml++[(wG a v,x)]).map iB=_;rw[zA,h1,hg,qlc,zJ,Nat.min_eq_left om];rfl
  ·show(ql++[_]).map Sl.l=_;rw[zA,h2,List.replicate_succ',zA];rfl
 ·rintro s ⟨M,Q,rfl,h1,h2⟩;rw[List.take_length] at h1;have hf:aB ((Ts.length:Nat):Int) (aa A.l)=false:=by rw[<-he];exact cQ A.l
  obtain⟨q,e,hp⟩:=H M Q h1 h2;refine⟨q,?_,hp⟩;unfold q7;simp only[hf,aF];exact e
theorem qwx(bL:Bool)(L:List DD)(hL:GD L)(hc:bK (L.map fun d=>d.1)=false)(bT:Bool){T:List ND}(hT:rM T)(cF:Tx):∃(A:Sl SN) (ok:Bool),kI (⟨bL,L⟩,⟨bT,T⟩,cF,())=some (A,ok,())/\A.l.map Sl.l=(lB L T cF).getD []:=by
 obtain⟨k,t,n,ks,rfl,h1,_,_⟩:=hT;have e:=qgq ⟨bL,L⟩ hL hc bT k t n ks h1 cF;rw[Mw];have e:kI (⟨bL,L⟩,⟨bT,(tr k t n ks).flat⟩,cF,())=some (match fC L k t (ks.aA:Int) cF with|some c=>(⟨false,c.2.l.map (dM false ks.trees)⟩,true,())|none=>(⟨true,[]⟩,false,())):=e;rw[e];cases fC L k t (ks.aA:Int) cF with
 |none=>exact⟨_,_,rfl,rfl⟩
 |some c=>refine⟨_,_,rfl,?_⟩;show(c.2.l.map (dM false ks.trees)).map Sl.l=c.2.l.map fun a=>fD ks.trees a.l;rw[ja];exact zY fun a _=>Jr false ks.trees a
theorem qs6(self:vw)(bL:Bool)(L:List DD)(hL:GD L)(hJ:pj L=true)(C:Sl (Tx×SN))(aw:List cY)(hC:C.l.map iB=aw)(h7:aw.length<=9000)(b:Bool)(D:List cq)(R:List bI)(hD:D.map fl=R.map iK)(hN:R.length<=1000)(i:Nat)(hi:i<aw.length)(hK:∀r,r∈R->rL i r)(a:Tx)(ha:a.length<=90000)(bT:Bool)(T:List ND)(hc:aJ C.l (i:Int)=some (a,⟨bT,T⟩))(hT:rM T)(lb:Bool)(ls:List cI)(h9:ls.length<=1000)(sub:cI->F)(hO:∀n,(sub n).aA=1)(h8:∀n:cI,((lB L T n.2.1).getD []).length<=8)(hm:∀n,n∈ls->∀(M:Sl (Tx×SN)) (D':Sl cq),M.l.map iB=aw.take i++(po a ((lB L T n.2.1).getD [])++aw.drop (i+1))->D'.l.map fl=(R.filterMap (iN i n ((lB L T n.2.1).getD []).length)).map iK->self (⟨bL,L⟩,M,D',())=some (fO (sub n)))(any:Sl cq)(TA:F)(hP:TA.aA=1)(hv:∀M:Sl (Tx×SN),M.l.map iB=aw.take i++aw.drop (i+1)->self (⟨bL,L⟩,M,any,())=some (fO TA)):∃q,aG (n5 self) (⟨bL,L⟩,C,⟨b,D⟩,(i:Int),1,0,⟨lb,ls.map bN⟩,any,⟨false,[]⟩,())=some q/\q=Sum.inr (Sum.inr (fO (tr 63 a 0 ((cZ sub ls).app (bif Nat.beq ls.length (dI L T) then tr 62 [] 0 .nil else TA))))):=by
 have hw:=(PH hJ).2.1;have hB:C.l.length=aw.length:=by rw[<-hC,zC]
 generalize hg:(bif Nat.beq ls.length (dI L T) then tr 62 [] 0 .nil else TA)=TL;have ho:TL.aA=1:=by rw[<-hg];cases Nat.beq ls.length (dI L T) with|true=>rfl|false=>exact hP
 have od:(tr 63 a 0 ((cZ sub ls).app TL)).size=1+(cZ sub ls).size+TL.size:=by show((cZ sub ls).app TL).size+0+1=_;rw[F.dE];omega
 have hj:PT (tr 63 a 0 ((cZ sub ls).app TL))=(decide (4000<1+(cZ sub ls).size)||decide (4000<TL.size)):=by
  show(decide (4000<1+((cZ sub ls).app TL).size-Jt ((cZ sub ls).app TL))||decide (4000<Jt ((cZ sub ls).app TL)))=_;have e:1+((cZ sub ls).size+TL.size)-TL.size=1+(cZ sub ls).size:=om
  rw[qww _ ho,F.dE,e]
 have ht:(4000<1+(cZ sub ls).size\/4000<TL.size)->fO (tr 63 a 0 ((cZ sub ls).app TL))=(⟨true,[]⟩,false,()):=by
  intro h;have he:PT (tr 63 a 0 ((cZ sub ls).app TL))=true:=by
   rw[hj];rcases h with h|h
   ·rw[zu h,Bool.true_or]
   ·rw[zu h,Bool.or_true]
  unfold fO;rw[if_neg (by rw[od];omega),if_pos he]
 have hE:=F.cv TL;refine rJ (n5 self) ls.length
  (fun k s=>∃(all:List SN) (size:Nat),s=(⟨bL,L⟩,C,⟨b,D⟩,(i:Int),(size:Int),(k:Int),⟨lb,ls.map bN⟩,any,⟨false,all⟩,())/\(all.map Sl.l).flatten=(cZ sub (ls.take k)).flat/\all.length=2*k/\size=1+(cZ sub (ls.take k)).size/\size<=4000) _ ?_ ?_ ⟨[],1,rfl,rfl,rfl,rfl,by omega⟩
 ·rintro k s hk ⟨all,size,rfl,h1,h2,h3,h4⟩;have hn:ls[k]?=some ls[k]:=ze hk;have hF:ls[k]∈ls:=List.getElem_mem hk;generalize ls[k]=n at hn hF;have hx:(ls.map bN)[k]?=some (bN n):=getM hn;have hR:ls.take (k+1)=ls.take k++[n]:=by rw[List.take_add_one,hn];rfl
  obtain⟨s1,s2,_⟩:=qer sub (ls.take k) n;rw[<-hR] at s1 s2;have hle:=qes sub ls (k+1);obtain⟨A,ok,eA,hA⟩:=qwx bL L hL hw bT hT n.2.1;obtain⟨q,e,hq⟩:=qs5 self ⟨bL,L⟩ C ⟨b,D⟩ (i:Int) (size:Int) (k:Int) A _ hA (h8 n) ⟨lb,ls.map bN⟩ any ⟨false,all⟩ a ha ⟨bT,T⟩ hc _ (fun M Q hM hQ=>by
   have hS:M.l.length<=8:=by have:=congrArg List.length hM;rw[zC,EB] at this;rw[this];exact h8 n
   obtain⟨q,e,hq⟩:=qs4 self ⟨bL,L⟩ C om b D R hD hN i om hK size h4 Q _ (h8 n) hQ lb ls k om n hn any all om M hS (sub n) (fun M' D' hU hV=>hm n hF M' D' (by rw[hU];simp only[zA,List.map_take,List.map_drop,hC,hM]) hV);exact⟨_,by rw[e,hq],rfl⟩)
  unfold n5;simp only[cE hx,aI,hc,aj,ri (fc hx),Pm hx];refine⟨q,?_,?_⟩
  ·show ag (kI (⟨bL,L⟩,⟨bT,T⟩,n.2.1,())) _=_;rw[eA,aj];exact e
  ·by_cases h5:size+1+(sub n).size<=4000
   ·rw[if_pos h5] at hq;subst hq;refine⟨_,_,rfl,?_,?_,?_,h5⟩
    ·rw[zA,List.flatten_append,h1,s2];show _++([bN n]++((sub n).flat++[]))=_;rw[zE];rfl
    ·rw[zm,h2];show 2*k+2=_;omega
    ·rw[s1,h3];omega
   ·rw[if_neg h5] at hq;subst hq;show Sum.inr (Sum.inr _)=_;rw[ht (.inl om)]
 ·rintro s ⟨all,size,rfl,h1,h2,h3,h4⟩;rw[List.take_length] at h1 h3;obtain⟨x,T',hW⟩:∃x T',T=x::T':=by obtain⟨k0,t0,n0,ks0,hX,_⟩:=hT;exact⟨_,_,hX⟩
  have hy:aB ((ls.length:Nat):Int) (aa (ls.map bN))=false:=by
   have:=cQ (ls.map bN)
   rwa [zC] at this
  have hf:=qwv L hL bL bT x T';rw[<-hW] at hf;have hb:af (aa (ls.map bN)) ((dI L T:Nat):Int)=Nat.beq ls.length (dI L T):=by
   have e:aa (ls.map bN)=(ls.length:Int):=by unfold aa;rw[zC]
   rw[e];unfold af;cases h:Nat.beq ls.length (dI L T) with
   |true=>exact zu (by rw[zg h])
   |false=>
    have hY:¬((ls.length:Int)=((dI L T:Nat):Int)):=by
     intro e;have e2:ls.length=dI L T:=om
     rw[e2,Nat.beq_refl] at h;cases h
    exact zn hY
  have f1:∀y:SN,fit (aK (aa all) (aa [y]))=some ():=fun y=>eM (by show all.length+1<=_;omega);have hG:∀Z:SN,Z.l=TL.flat->TL.size<=4000->tn ((63,a,0,0),⟨false,all++[Z]⟩,())=some (⟨false,(tr 63 a 0 ((cZ sub ls).app TL)).flat⟩,()):=by
   intro Z hZ hl;have hH:((all++[Z]).map Sl.l).flatten=((cZ sub ls).app TL).flat:=by rw[zA,List.flatten_append,h1,F.ff];show _++(Z.l++[])=_;rw[zE,hZ]
   have hz:(all++[Z]).length=2*ls.length+1:=by rw[zm,h2];rfl
   have h0:((cZ sub ls).app TL).aA=2*ls.length+1:=by rw[F.fq,Yq sub hO,ho]
   rw[qs2 (63,a,0,0) false (all++[Z]) om (by rw[hH,F.ff,zm,F.len,F.len];omega),hH,Du,h0,hz]
  have hu:TL.size<=4000->((⟨false,(tr 63 a 0 ((cZ sub ls).app TL)).flat⟩,a8 (aa (tr 63 a 0 ((cZ sub ls).app TL)).flat) 4000,()):SN×Bool×Unit)=fO (tr 63 a 0 ((cZ sub ls).app TL)):=by
   intro hl;have h6:aa (tr 63 a 0 ((cZ sub ls).app TL)).flat=((tr 63 a 0 ((cZ sub ls).app TL)).size:Int):=by unfold aa;rw[F.len]
   rw[h6];unfold fO;by_cases hs:(tr 63 a 0 ((cZ sub ls).app TL)).size<=4000
   ·rw[if_pos hs];have:a8 (((tr 63 a 0 ((cZ sub ls).app TL)).size:Nat):Int) 4000=true:=zu om;rw[this]
   ·have he:¬PT (tr 63 a 0 ((cZ sub ls).app TL))=true:=by rw[hj,zn (show ¬4000<1+(cZ sub ls).size by omega),zn (show ¬4000<TL.size by omega)];exact fun h=>(by cases h)
    rw[if_neg hs,if_neg he];have:a8 (((tr 63 a 0 ((cZ sub ls).app TL)).size:Nat):Int) 4000=false:=zn om;rw[this]
  unfold n5;simp only[hy,aF,hc,aj,hf,hb];refine⟨_,?_,rfl⟩;cases hI:Nat.beq ls.length (dI L T) with
  |true=>
   rw[hI] at hg;have hg:tr 62 [] 0 .nil=TL:=hg;have hl:TL.size<=4000:=by rw[<-hg];decide
   simp only[aI,f1,aj,eO,hc];refine(HQ (hG ⟨false,[(62,[],0,0)]⟩ (by rw[<-hg];rfl) hl) _).trans ?_;exact congrArg (fun z=>some (Sum.inr (Sum.inr (Sum.inr z)))) (hu hl)
  |false=>
   rw[hI] at hg;have hg:TA=TL:=hg;obtain⟨M',e1,e2⟩:=qgu C ⟨true,[]⟩ i om (by show C.l.length+0<=_;omega);have hs:=hv M' (by rw[e2];simp only[zA,List.map_take,List.map_drop,hC,List.nil_append]);simp only[aF,e1,aj,hs];by_cases hl:TA.size<=4000
   ·simp only[MC hl,av,Bool.not_true,aF,f1,aj,eO,hc];rw[hg] at hl;refine(HQ (hG ⟨false,TA.flat⟩ (by rw[hg]) hl) _).trans ?_;exact congrArg (fun z=>some (Sum.inr (Sum.inr (Sum.inr z)))) (hu hl)
   ·simp only[Ys hl,av,Bool.not_false,aI,aj,eO];rw[ht (.inr (by rw[<-hg];omega))]
theorem qs7(self:vw)(LL:Sl DD)(C:Sl (Tx×SN))(b:Bool)(D:List cq)(R:List bI)(hD:D.map fl=R.map iK)(hN:R.length<=1000)(i:Nat)(hu:∀r,r∈R->rL i r)(eT:_->Prop)(H:∀any:List cq,any.map fl=(R.filterMap (dV i)).map iK->∃q,aG (n5 self) (LL,C,⟨b,D⟩,(i:Int),1,0,⟨false,(ef i R []).map bN⟩,⟨false,any⟩,⟨false,[]⟩,())=some (Sum.inr q)/\eT q):∃q,aG (q8 self) (LL,C,⟨b,D⟩,(i:Int),0,⟨false,[]⟩,⟨false,[]⟩,())=some q/\eT q:=by
 have hk:D.length=R.length:=rK hD;refine rJ (q8 self) R.length
  (fun v s=>∃O:List cq,s=(LL,C,⟨b,D⟩,(i:Int),(v:Int),⟨false,(ef i (R.take v) []).map bN⟩,⟨false,O⟩,())/\O.map fl=((R.take v).filterMap (dV i)).map iK/\O.length<=v) eT ?_ ?_ ⟨[],rfl,rfl,Nat.le_refl _⟩
 ·rintro v s hv ⟨O,rfl,h1,h2⟩;have hr:R[v]?=some R[v]:=ze hv;generalize R[v]=r at hr;have hf:=hu r (zj hr);obtain⟨d,hd,hq⟩:=tx hD hr;obtain⟨pb,hx⟩:=dW hq hf.1;obtain⟨ht,hA⟩:=hf.at
  have hl:ar .i64 (v:Int) 1=((v+1:Nat):Int):=aH om;have hy:R.take (v+1)=R.take v++[r]:=by rw[List.take_add_one,hr];rfl
  have hm:=Mz i (R.take v) [];rw[zJ] at hm;have hm:(ef i (R.take v) []).length<=v:=by simp at hm;omega
  have hn:∀x:ND,fit (aK (aa ((ef i (R.take v) []).map bN)) (aa [x]))=some ():=fun x=>eM (by show((ef i (R.take v) []).map bN).length+1<=_;rw[zC];omega);have hg:∀x:cq,fit (aK (aa O) (aa [x]))=some ():=fun x=>eM (by show O.length+1<=_;omega);have hs:=qzt false (ef i (R.take v) []) (fu (atR r i)) om;have he:ef i (R.take (v+1)) []=(bif fE (atR r i)||(ef i (R.take v) []).contains (fu (atR r i)) then ef i (R.take v) [] else ef i (R.take v) []++[fu (atR r i)]):=by rw[hy,Yj]
  have hz:(ef i (R.take v) []).any (fun m=>m==fu (atR r i))=(ef i (R.take v) []).contains (fu (atR r i)):=List.any_beq';rw[hz] at hs;unfold q8;simp only[cE hd,aI,aT hd,aj,hx,PQ,qlf,EA _ _ ht,PL _ _ ht];cases hw:fE (atR r i) with
  |true=>
   rw[hw] at he;have he:ef i (R.take (v+1)) []=ef i (R.take v) []:=he;obtain⟨x,e1,e2⟩:=Yr hq hf.1 (y:=⟨true,[]⟩) (q:=[]) rfl (by have:=hf.2.1;simp;omega);simp only[aI,aj,e1,hg,hl];refine⟨_,rfl,O++[x],by rw[he];rfl,?_,?_⟩
   ·rw[A2 _ hr,zA,zA,<-h1];unfold dV;rw[hw];show _++[fl x]=_;rw[e2];rfl
   ·rw[zm];simp;omega
  |false=>
   have hj:O.map fl=((R.take (v+1)).filterMap (dV i)).map iK:=by rw[A2 _ hr,zA,<-h1];unfold dV;rw[hw];simp
   simp only[aF,hs,aj];cases hc:(ef i (R.take v) []).contains (fu (atR r i)) with
   |true=>rw[hw,hc] at he;have he:ef i (R.take (v+1)) []=ef i (R.take v) []:=he;simp only[av,Bool.not_true,aF,aj,hl];exact⟨_,rfl,O,by rw[he],hj,by omega⟩
   |false=>rw[hw,hc] at he;have he:ef i (R.take (v+1)) []=ef i (R.take v) []++[fu (atR r i)]:=he;simp only[av,Bool.not_false,aI,aj,hn,hl];refine⟨_,rfl,O,?_,hj,by omega⟩;rw[he,zA];rfl
 ·rintro s ⟨O,rfl,h1,h2⟩;rw[List.take_length] at h1;have ho:aB ((R.length:Nat):Int) (aa D)=false:=by rw[<-hk];exact cQ D
  obtain⟨q,e,hp⟩:=H O h1;refine⟨q,?_,hp⟩;rw[List.take_length];unfold q8;simp only[ho,aF];exact e
theorem qev(self:vw)(LL:Sl DD)(C:Sl (Tx×SN))(D:Sl cq)(d:cq)(hd:aJ D.l 0=some d)(ps:List F)(hp:d.1.l.map Sl.l=ps.map F.flat)(ht:∀p,p∈ps->p.aA=1)(he:ps.length<=10000)(hC:C.l.length=ps.length)(n:Nat)(hn:n<=ps.length)(hw:∀(j:Nat) (p:F),j<n->ps[j]?=some p->fE p=true)(eT:_->Prop)(H:∃r,kV self (LL,C,D,(n:Int),())=some (.inr r)/\eT r):∃r,aG (kV self) (LL,C,D,0,())=some r/\eT r:=by
 refine rJ (kV self) n (fun v s=>s=(LL,C,D,(v:Int),())) eT ?_ ?_ rfl
 ·rintro v s hv rfl;have hx:ps[v]?=some ps[v]:=ze om;generalize ps[v]=p at hx;obtain⟨⟨sb,sl⟩,h1,h2⟩:=tx hp hx;have h2:sl=p.flat:=h2;subst h2;have hc:C.l[v]?=some (C.l[v]' om):=ze om;unfold kV;simp only[cE hc,aI,hd,aj,aT h1,PQ,EA _ p (ht p (zj hx)),hw v p hv hx,aH (show v<=1000000000 by omega)];exact⟨_,rfl,rfl⟩
 ·rintro s rfl;exact H
theorem z59(bL:Bool)(L:List DD)(hL:GD L)(hy:pj L=true):∀(m:Nat) (aw:List cY) (R:List bI),Inv L aw R->mu R<m->∀N,m<=N->∀(C:Sl (Tx×SN)) (D:Sl cq),C.l.map iB=aw->D.l.map fl=R.map iK->bB oP N (⟨bL,L⟩,C,D,())=some (fO (cN L m aw R)):=by
 have hz:=(PH hy).1;intro m
 induction m with
 |zero=>intro aw R _ h;omega
 |succ m ih=>
  intro aw R he hZ N hN C D hC hD;cases N with
  |zero=>omega
  |succ N=>
   show oP (bB oP N) (⟨bL,L⟩,C,D,())=_;rw[Vi];obtain⟨db,dl⟩:=D;have hn:dl.length=R.length:=rK hD;have hA:C.l.length=aw.length:=by rw[<-hC,zC]
   cases R with
   |nil=>have e0:af (aa dl) 0=true:=zu (by unfold aa;rw[hn];rfl);have hT:cN L (m+1) aw []=tr 62 [] 0 .nil:=rfl;rw[hT,MC (by show 0+0+1<=4000;omega)];simp only[e0,aI];rfl
   |cons r0 rs=>
    have e0:af (aa dl) 0=false:=zn (by unfold aa;rw[hn,zw];omega);have hH:(r0::rs)[0]?=some r0:=rfl;obtain⟨d,hd,hB⟩:=tx hD hH;have hs:aJ dl 0=some d:=aT (i:=0) hd;obtain⟨⟨pb,pl⟩,da⟩:=d;have ht:pl.map Sl.l=r0.1.map F.flat:=congrArg Prod.fst hB;have hI:da=r0.2:=congrArg Prod.snd hB;have hg:r0∈r0::rs:=zf ..;have hk:=he.row r0 hg;have hE:=he.wide;have h0:=hk.1;simp only[e0,aF]
    suffices H:∃q,aG (kV (bB oP N)) (⟨bL,L⟩,C,⟨db,dl⟩,0,())=some q/\q=fO (cN L (m+1) aw (r0::rs)) by obtain⟨q,e,hq⟩:=H;rw[e,hq]
    cases hf:r0.1.findIdx? (fun p=>!fE p) with
    |none=>
     have hT:cN L (m+1) aw (r0::rs)=tr 61 [] r0.2 .nil:=by show(match r0.1.findIdx? (fun p=>!fE p) with|none=>_|some i=>_)=_;rw[hf]
     have hu:=List.findIdx?_eq_none_iff.1 hf;refine qev _ ⟨bL,L⟩ C ⟨db,dl⟩ _ hs r0.1 ht (fun p hp=>(hk.tree hp).1) om om r0.1.length (Nat.le_refl _) (fun j p _ hj=>by have:=hu p (zj hj);simpa using this) _ ⟨_,?_,rfl⟩;have h1:aB ((r0.1.length:Nat):Int) (aa C.l)=false:=zn (by unfold aa;omega);have h2:af ((r0.1.length:Nat):Int) (aa C.l)=true:=zu (by unfold aa;omega);rw[hT,MC (by show 0+0+1<=4000;omega)];unfold kV;simp only[h1,aF,aj,h2,aI,hs,hI];rfl
    |some i=>
     obtain⟨ho,hJ,hK⟩:=List.findIdx?_eq_some_iff_getElem.1 hf;have hi:i<aw.length:=by rw[<-hk.1];exact ho
     have hw:fE (atR r0 i)=false:=by
      have e:atR r0 i=r0.1[i]:=by unfold atR;rw[List.getD_eq_getElem?_getD,ze ho];rfl
      rw[e];simpa using hJ
     have hc:aw[i]?=some aw[i]:=ze hi;generalize h5:aw[i]=c at hc;have hO:aw.getD i ([],[])=c:=by rw[List.getD_eq_getElem?_getD,hc];rfl
     obtain⟨⟨a,⟨bT,T⟩⟩,hP,hQ⟩:=tx (f:=iB) (g:=id) (R:=aw) (by rw[List.map_id];exact hC) hc;obtain rfl:(a,T)=c:=hQ;have hT:cN L (m+1) aw (r0::rs)=tr 63 a 0 ((cZ (fun n=>cN L m (aw.take i++(lD L (a,T) n++aw.drop (i+1))) ((r0::rs).filterMap (iN i n (lD L (a,T) n).length))) (ef i (r0::rs) [])).app
       (bif Nat.beq (ef i (r0::rs) []).length (dI L T) then tr 62 [] 0 .nil else cN L m (aw.take i++aw.drop (i+1)) ((r0::rs).filterMap (dV i)))):=by
      show(match r0.1.findIdx? (fun p=>!fE p) with|none=>_|some i=>_)=_;rw[hf];simp only[hO]
     have hF:1<=m:=by have:=PK (r:=r0) (i:=i) ho (he.jV hg) hw;have:mu (r0::rs)=oU r0+mu rs:=rfl;omega
     have hR:=aT hP;have hG:=he.place _ (zj hc);have hG:a.length+30*mu (r0::rs)<=90000:=hG;have hl:=he.rows;have hS:=Mz i (r0::rs) [];obtain⟨sp,hv,hm⟩:=tx ht (show r0.1[i]?=some (atR r0 i) from Ym ho);obtain⟨sb,sl⟩:=sp;have hm:sl=(atR r0 i).flat:=hm;subst hm;have hU:=(hk.tree (zj (Ym ho))).1;refine qev _ ⟨bL,L⟩ C ⟨db,dl⟩ _ hs r0.1 ht (fun p hp=>(hk.tree hp).1) om om i om (fun j p hj hp=>?_) _ ?_
     ·obtain⟨h6,hV⟩:=zB.1 hp;have:=hK j hj;rw[hV] at this;simpa using this
     ·have h1:aB (i:Int) (aa C.l)=true:=zu (by unfold aa;omega);have h2:af (i:Int) (aa C.l)=false:=zn (by unfold aa;omega);have key:=qs7 (bB oP N) ⟨bL,L⟩ C db dl (r0::rs) hD hl i (fun r hr=>he.rL hi hr) (fun q=>q=Sum.inr (fO (cN L (m+1) aw (r0::rs)))) (fun any hx=>by
       obtain⟨q,e,hq⟩:=qs6 (bB oP N) bL L hL hy C aw hC om db dl (r0::rs) hD hl i hi (fun r hr=>he.rL hi hr) a om bT T hR (he.HY _ (zj hc)) false (ef i (r0::rs) []) (by simp at hS hl ⊢;omega)
        (fun n=>cN L m (aw.take i++(lD L (a,T) n++aw.drop (i+1))) ((r0::rs).filterMap (iN i n (lD L (a,T) n).length))) (fun n=>PO L m _ _ hF)
        (fun n=>by have:=(Yn hL hz he.HY hc n).1;rw[HX,EB] at this;exact this)
        (fun n _ M D' hM hW=>by
         have hX:=Yo he hi n (lD L (a,T) n).length hg hw;have hY:(lD L (a,T) n).length=((lB L T n.2.1).getD []).length:=by rw[HX,EB]
         exact ih _ _ (qld hL hz he hc n hg hw) om N om M D' hM (by rw[hY];exact hW))
        ⟨false,any⟩ (cN L m (aw.take i++aw.drop (i+1)) ((r0::rs).filterMap (dV i))) (PO L m _ _ hF)
        (fun M hM=>ih _ _ (qwr he hi hg hw) (by have:=Yp he hi hg hw;omega) N om M ⟨false,any⟩ hM hx)
       rw[<-hT] at hq;exact⟨_,by rw[e,hq],rfl⟩)
      obtain⟨q,e,hq⟩:=key;unfold kV;simp only[h1,aI,hs,aj,aT hv,PQ,EA _ _ hU,hw,aF,h2];exact⟨_,by rw[e,hq],rfl⟩
theorem z2z(bL:Bool)(L:List DD)(hL:GD L)(he:pj L=true)(m:Nat)(aw:List cY)(R:List bI)(hc:Inv L aw R)(hf:mu R<m)(C:Sl (Tx×SN))(D:Sl cq)(hC:C.l.map iB=aw)(hD:D.l.map fl=R.map iK):C4 (⟨bL,L⟩,C,D,())=some (fO (cN L m aw R)):=xc m fun N hN=>z59 bL L hL he m aw R hc hf N hN C D hC hD
theorem qwy(b0 b1 b2:Bool)(L:List DD)(hL:GD L)(hm:pj L=true)(T:List ND)(hT:rM T)(P:List SN)(fs:List F)(hP:P.map Sl.l=fs.map F.flat)(h6:fs.length<=8)(hf:∀f,f∈fs->Al L f T/\f.size<=30):vY (⟨b0,L⟩,⟨b1,T⟩,⟨b2,P⟩,())=some (fO (cN L 1000 [([],T)] (la fs))):=by
 have hc:P.length=fs.length:=rK hP;rw[Vj]
 suffices H:∃q,aG q9 (⟨b0,L⟩,⟨b1,T⟩,⟨b2,P⟩,0,⟨false,[]⟩,())=some q/\q=fO (cN L 1000 [([],T)] (la fs)) by obtain⟨q,e,hq⟩:=H;exact e.trans (congrArg some hq)
 refine rJ q9 fs.length
  (fun k s=>∃O:List cq,s=(⟨b0,L⟩,⟨b1,T⟩,⟨b2,P⟩,(k:Int),⟨false,O⟩,())/\O.map fl=(la (fs.take k)).map iK/\O.length=k) _ ?_ ?_ ⟨[],rfl,rfl,rfl⟩
 ·rintro k s hk ⟨O,rfl,h1,h2⟩;have he:fs[k]?=some fs[k]:=ze hk;generalize fs[k]=f at he;obtain⟨x,hx,hg⟩:=tx hP he;have hg:x.l=f.flat:=hg;have hn:fs.take (k+1)=fs.take k++[f]:=by rw[List.take_add_one,he];rfl
  have f1:∀y:cq,fit (aK (aa O) (aa [y]))=some ():=fun y=>eM (by show O.length+1<=_;omega);unfold q9;simp only[cE hx,aI,aT hx,aj,f1,aH (show k<=1000000000 by omega)];refine⟨_,rfl,O++[((⟨false,[x]⟩:Sl SN),(k:Int))],rfl,?_,?_⟩
  ·rw[zA,h1,hn,qle,zA,zJ,Nat.min_eq_left om];show _++[([x.l],(k:Int))]=_++[([f.flat],(k:Int))];rw[hg]
  ·rw[zm,h2];rfl
 ·rintro s ⟨O,rfl,h1,h2⟩;rw[List.take_length] at h1;have hj:aB ((fs.length:Nat):Int) (aa P)=false:=by rw[<-hc];exact cQ P
  obtain⟨hl,ho⟩:=MB L T hT fs h6 hf;have hb:=z2z b0 L hL hm 1000 [([],T)] (la fs) hl ho ⟨false,[([],⟨b1,T⟩)]⟩ ⟨false,O⟩ rfl h1;unfold q9;simp only[hj,aF,hb,aj];exact⟨_,rfl,rfl⟩
theorem qzu{T:List ND}(h:jS T=true)(hg:GL T):rM T:=by obtain⟨g1,_,k,t,n,ks,e⟩:=(DC _).1 h;refine⟨k,t,n,ks,e,?_,h,hg⟩;rw[e,pn] at g1;exact g1
theorem qps{L:List DD}{T:List ND}:∀P:List SN,(∀p,p∈P->PG L T p.l/\p.l.length<=30)->∃fs:List F,P.map Sl.l=fs.map F.flat/\∀f,f∈fs->Al L f T/\f.size<=30
 |[],_=>⟨[],rfl,fun f h=>by cases h⟩
 |p::P,h=>by
  obtain⟨fs,h1,h2⟩:=qps P fun q hq=>h q (zh _ hq);obtain⟨⟨k,t,n,ks,e,hc,ho⟩,hl⟩:=h p (zf ..);have hs:(tr k t n ks).size<=30:=by rw[<-F.len,<-e];exact hl
  refine⟨tr k t n ks::fs,by rw[zM,zM,h1,e],fun f hf=>?_⟩;rcases zt.1 hf with rfl|hf
  ·exact⟨⟨⟨k,t,n,ks,rfl,(uK.1 hc).2.1⟩,by omega,ho⟩,hs⟩
  ·exact h2 f hf
noncomputable def lg(L:List DD)(T p:List ND):Bool:=@decide (pj L=true/\jS T=true/\PG L T p) (Classical.propDecidable _)
theorem oV{L:List DD}{T p:List ND}:lg L T p=true↔pj L=true/\jS T=true/\PG L T p:=by unfold lg;exact @decide_eq_true_iff _ (Classical.propDecidable _)
theorem PU(L:List DD)(hL:GD L)(T:List ND)(hT:T.length<=10000)(he:GL T)(p:List ND)(hp:p.length<=4000)(hg:GL p):(∀b0 b b',iU (⟨b0,L⟩,⟨b,T⟩,⟨b',p⟩,())=some (bif lg L T p then 0 else 120,()))/\(∀b0 b b',nv (⟨b0,L⟩,⟨b,T⟩,⟨b',p⟩,())=some (lg L T p,())):=by
 obtain⟨c,h1,h2,h3⟩:=qrv L hL T hT he p hp hg;have e:lg L T p=c:=by
  have:=oV (L:=L) (T:=T) (p:=p);cases hc:c with
  |true=>exact this.2 (h3.1 hc)
  |false=>
   cases hk:lg L T p with
   |false=>rfl
   |true=>have:=h3.2 (this.1 hk);rw[hc] at this;cases this
 rw[e];exact⟨h1,h2⟩
theorem Yt(L:Sl DD)(T:SN)(P:Sl SN)(C:SN)(e:Int)(ck:List ND->Bool)(hp:∀p,p∈P.l->nv (L,T,p,())=some (ck p.l,()))(ha:nv (L,T,⟨false,[(21,[],0,0)]⟩,())=some (ck [(21,[],0,0)],()))(hP:P.l.length<=1000)(hC:C.l.length<=1000000)(he:(P.l.all (fun p=>ck p.l)&&ck [(21,[],0,0)])=false->C.l=[]/\e=120)(hf:(P.l.all (fun p=>ck p.l)&&ck [(21,[],0,0)])=true->∃(X:SN) (ok:Bool),vY (L,T,P,())=some (X,ok,())/\(ok=false->C.l=[]/\e=131)/\(ok=true->e=0/\C.l=X.l)):aG C7 (L,T,P,C,e,-1,())=some (true,()):=by
 have hj:C.l=[]->af (aa C.l) 0=true:=fun h=>by rw[h];rfl
 have e1:a8 0 (-1)=false:=id (Eq.refl _);have e2:ar .i64 (-1) 1=0:=id (Eq.refl _);have e3:aB (-1) (aa P.l)=true:=zu (by unfold aa;omega);have e5:af (120:Int) 120=true:=id (Eq.refl _);cases hc:ck [(21,[],0,0)] with
 |false=>obtain⟨g1,g2⟩:=he (by rw[hc,Bool.and_false]);refine dS ?_;unfold C7;simp only[e3,aI,e1,aF,aj,ha,hc,av,Bool.not_false,hj g1,g2,e5]
 |true=>
  have hg:C7 (L,T,P,C,e,-1,())=some (Sum.inl (L,T,P,C,e,0,())):=by unfold C7;simp only[e3,aI,e1,aF,aj,ha,hc,av,Bool.not_true,e2]
  rw[gH hg]
  suffices H:∃q,aG C7 (L,T,P,C,e,0,())=some q/\q=(true,()) by obtain⟨q,e,hq⟩:=H;exact e.trans (congrArg some hq)
  refine rJ C7 P.l.length (fun k s=>s=(L,T,P,C,e,(k:Int),())/\(P.l.take k).all (fun p=>ck p.l)=true) _ ?_ ?_ ⟨rfl,rfl⟩
  ·rintro k s hk ⟨rfl,h2⟩;have hx:P.l[k]?=some P.l[k]:=ze hk;generalize P.l[k]=p at hx;have hl:=zj hx;have e4:a8 0 (k:Int)=true:=zu om;have hn:P.l.take (k+1)=P.l.take k++[p]:=by rw[List.take_add_one,hx];rfl
   unfold C7;simp only[cE hx,aI,e4,aT hx,aj,hp p hl];cases hm:ck p.l with
   |false=>
    obtain⟨g1,g2⟩:=he (by
     have:P.l.all (fun p=>ck p.l)=false:=by
      cases h:P.l.all (fun p=>ck p.l) with
      |false=>rfl
      |true=>have:=zO.1 h p hl;rw[hm] at this;cases this
     rw[this,Bool.false_and])
    simp only[av,Bool.not_false,aI,hj g1,aj,g2,e5];exact⟨_,rfl,rfl⟩
   |true=>simp only[av,Bool.not_true,aF,aH (show k<=1000000000 by omega)];refine⟨_,rfl,rfl,?_⟩;rw[hn,List.all_append,h2];show(true&&(ck p.l&&true))=true;rw[hm];rfl
  ·rintro s ⟨rfl,h2⟩;rw[List.take_length] at h2;obtain⟨X,ok,g1,g2,g3⟩:=hf (by rw[h2,hc];rfl);unfold C7;simp only[cQ,aF,g1,aj];cases ok with
   |false=>obtain⟨g4,g5⟩:=g2 rfl;have e6:af (131:Int) 131=true:=id (Eq.refl _);simp only[av,Bool.not_false,aI,hj g4,g5,aj,e6];exact⟨_,rfl,rfl⟩
   |true=>obtain⟨g4,g5⟩:=g3 rfl;have e6:af (0:Int) 0=true:=id (Eq.refl _);simp only[av,Bool.not_true,aF,g4,e6,aI,qwd C X hC,aj];exact⟨_,rfl,by rw[g5,zu rfl]⟩
theorem qwz(L:List DD)(hL:GD L)(T:List ND)(hT:T.length<=4000)(hg:GL T)(P:List SN)(h6:P.length<=6)(hP:∀p,p∈P->p.l.length<=30/\GL p.l)(b0 b1 b2:Bool):((P.all (fun p=>lg L T p.l)&&lg L T [(21,[],0,0)])=false/\lZ (⟨b0,L⟩,⟨b1,T⟩,⟨b2,P⟩,())=some (⟨true,[]⟩,120,()))\/((P.all (fun p=>lg L T p.l)&&lg L T [(21,[],0,0)])=true/\pj L=true/\rM T/\∃fs:List F,P.map Sl.l=fs.map F.flat/\(∀f,f∈fs->Al L f T/\f.size<=30)/\lZ (⟨b0,L⟩,⟨b1,T⟩,⟨b2,P⟩,())=some (if(cN L 1000 [([],T)] (la fs)).size<=4000 then(⟨false,(cN L 1000 [([],T)] (la fs)).flat⟩,0,()) else(⟨true,[]⟩,131,()))):=by
 have ca:=PU L hL T om hg [(21,[],0,0)] (by show 1<=_;omega) HW;have cp:∀p,p∈P->iU (⟨b0,L⟩,⟨b1,T⟩,p,())=some (bif lg L T p.l then 0 else 120,()):=fun p hp=>by obtain⟨pb,pl⟩:=p;obtain⟨g1,g2⟩:=hP _ hp;exact(PU L hL T om hg pl (by have g1:pl.length<=30:=g1;omega) g2).1 b0 b1 pb
 cases he:(P.all (fun p=>lg L T p.l)&&lg L T [(21,[],0,0)]) with
 |false=>exact .inl ⟨rfl,qwu b0 b1 b2 L T P om (fun p=>lg L T p.l) _ cp (ca.1 b0 b1 false) he⟩
 |true=>
  have hc:=he;rw[zd] at hc;obtain⟨q1,q2⟩:=hc;obtain⟨hj,hk,_⟩:=oV.1 q2;have hf:=qzu hk hg;obtain⟨fs,f1,f2⟩:=qps (L:=L) (T:=T) P fun p hp=>⟨(oV.1 (zO.1 q1 p hp)).2.2,(hP p hp).1⟩;have hl:=rK f1;refine .inr ⟨rfl,hj,hf,fs,f1,f2,qzs b0 b1 b2 L hL hj T hf P fs f1 om f2 (fun p hp=>?_) ?_⟩
  ·rw[cp p hp,zO.1 q1 p hp];rfl
  ·rw[ca.1 b0 b1 false,q2];rfl
theorem qzv{P:List SN}(fP:∀p,p∈P->jU 30 p.l)(gP:∀p,p∈P->gL p.l):∀p,p∈P.map (fun x=>(⟨false,x.l⟩:SN))->p.l.length<=30/\GL p.l:=fun p hp=>by obtain⟨x,hx,rfl⟩:=zW.1 hp;exact⟨(fP x hx).1,PI (gP x hx) (fP x hx)⟩
theorem tz(b0 b1 b2:Bool)(L:List DD)(T:List ND)(P:List SN)(gd:DF L)(gT:gL T)(gP:∀p,p∈P->gL p.l)(hP:P.length<=9223372036854775807):cA (⟨b0,L⟩,⟨b1,T⟩,⟨b2,P⟩,())=some (true,()):=by
 obtain⟨c,hc,hb⟩:=z4d ⟨b0,L⟩ gd ⟨b1,T⟩ ⟨b2,P⟩ hP;rw[q8b,qyj];simp only[aj,nT,aF,hc];cases c with
 |false=>rfl
 |true=>
  obtain⟨hL,fT,h6,fP⟩:=hb rfl;have hL:GD L:=hL;have fT:jU 30 T:=fT;have h6:P.length<=6:=h6;have fP:∀p,p∈P->jU 30 p.l:=fP;have lT:=fT.1;have hj:=PI gT fT;have o1:=qpm b1 T om;have hf:=Yg L hL.1;have e0:(⟨aP false (cR L),app ([]:List DD) L⟩:Sl DD)=⟨false,L⟩:=rfl;have he:=qwe ⟨b2,P⟩ (by show P.length<=_;omega) (fun x hx=>by have:=(fP x hx).1;omega);have he:Jh (⟨b2,P⟩,())=some (⟨false,P.map fun x=>(⟨false,x.l⟩:SN)⟩,()):=he;have hl:(P.map fun x=>(⟨false,x.l⟩:SN)).map Sl.l=P.map Sl.l:=by rw[ja];rfl
  have hm:(P.map fun x=>(⟨false,x.l⟩:SN)).all (fun p=>lg L T p.l)=P.all (fun p=>lg L T p.l):=by rw[List.all_map];rfl
  have hg:=qwz L hL T om hj (P.map fun x=>(⟨false,x.l⟩:SN)) (by rw[zC];exact h6) (qzv fP gP) false false false;rw[hm,hl] at hg;have cp:∀p,p∈P->nv (⟨b0,L⟩,⟨b1,T⟩,p,())=some (lg L T p.l,()):=fun p hp=>by have g1:=(fP p hp).1;have g2:=PI (gP p hp) (fP p hp);obtain⟨pb,pl⟩:=p;exact(PU L hL T om hj pl (by have g1:pl.length<=30:=g1;omega) g2).2 b0 b1 pb
  have ca:=(PU L hL T om hj [(21,[],0,0)] (by show 1<=_;omega) HW).2 b0 b1 false;simp only[nT,aF,hf,aj,o1,he,e0];rcases hg with ⟨h1,h2⟩|⟨h1,hn,hk,fs,f1,f2,h2⟩
  ·rw[h2,aj];exact Yt ⟨b0,L⟩ ⟨b1,T⟩ ⟨b2,P⟩ ⟨true,[]⟩ 120 (fun p=>lg L T p) cp ca (by show P.length<=_;omega) (by show 0<=_;omega) (fun _=>⟨rfl,rfl⟩) (fun h=>by have h:(P.all (fun p=>lg L T p.l)&&lg L T [(21,[],0,0)])=true:=h;rw[h1] at h;cases h)
  ·have ho:=rK f1;have hr:=qwy b0 b1 b2 L hL hn T hk P fs f1 om f2;rw[h2];by_cases hs:(cN L 1000 [([],T)] (la fs)).size<=4000
   ·rw[if_pos hs,aj];rw[MC hs] at hr;exact Yt ⟨b0,L⟩ ⟨b1,T⟩ ⟨b2,P⟩ ⟨false,(cN L 1000 [([],T)] (la fs)).flat⟩ 0 (fun p=>lg L T p) cp ca (by show P.length<=_;omega) (by show(F.flat _).length<=_;rw[F.len];omega)
     (fun h=>by have h:(P.all (fun p=>lg L T p.l)&&lg L T [(21,[],0,0)])=false:=h;rw[h1] at h;cases h)
     (fun _=>⟨_,_,hr,fun h=>(by cases h),fun _=>⟨rfl,rfl⟩⟩)
   ·rw[if_neg hs,aj];have hq:=Ys hs;exact Yt ⟨b0,L⟩ ⟨b1,T⟩ ⟨b2,P⟩ ⟨true,[]⟩ 131 (fun p=>lg L T p) cp ca (by show P.length<=_;omega) (by show 0<=_;omega)
     (fun h=>by have h:(P.all (fun p=>lg L T p.l)&&lg L T [(21,[],0,0)])=false:=h;rw[h1] at h;cases h)
     (fun _=>⟨(fO (cN L 1000 [([],T)] (la fs))).1,(fO (cN L 1000 [([],T)] (la fs))).2.1,hr,fun _=>⟨rfl,rfl⟩,fun h=>by rw[hq] at h;cases h⟩)
def dg(j:Nat):Int:=48+(j:Int)
def Ap(a b:List Nat):Prop:=¬a<+:b/\¬b<+:a
theorem Ap.symm{a b:List Nat}(h:Ap a b):Ap b a:=⟨h.2,h.1⟩
abbrev Yu:Ty:=.st (.pair (.int .i64) (.pair .str (.pair (.int .i64) (.int .i64))))
abbrev tyC:Ty:=.st (.pair .str (.sl (.sl Yu)))
abbrev tyD:Ty:=.st (.pair .str (.pair (.int .i64) (.sl tyC)))
theorem Yv{s:Tx}(h:lu .str s):gW s:=fun b hb=>by have:=h.2 b hb;omega
theorem oW{s:SN}(h:lu (.sl Yu) s):gL s.l:=fun x hx=>by obtain⟨_,h2,h4,_⟩:=h.2.2 x hx;exact⟨Yv h2,Bz.1 h4⟩
theorem DG{s:Sl DD}(h:lu (.sl tyD) s):DF s.l:=fun d hd=>by obtain⟨h1,_,h3⟩:=h.2.2 d hd;refine⟨Yv h1,fun c hc=>?_⟩;obtain⟨h4,h5⟩:=h3.2.2 c hc;exact⟨Yv h4,fun t ht=>oW (h5.2.2 t ht)⟩
theorem uO{s:Sl SN}(h:lu (.sl (.sl Yu)) s):(∀x,x∈s.l->gL x.l)/\s.l.length<=9223372036854775807:=⟨fun x hx=>oW (h.2.2 x hx),h.1⟩
end Fn
end Ev