/- Regions that draw their order are sound. -/
import Derived.Test.YtdgmbemagoakjaaGreatDoorEvG
namespace Ev
open Go
variable{listed:Array Bool}{ops:Array Oper}{z:Bool}{Q:Exit→Act→World→Prop}{kn:List (Nat×Bool)}{u:List (Nat×Obj)}{AF:List Nat}{all:List Oper}{d fr i rg t:Nat}{φ:Nat→Addr}{S':Nat→Bool}{X:Nat→Prop}{env:Nat→V}{o:Oper}{v v':V}{w:World}
structure En where
 i:Nat
 op:Oper
 sk:Bool
 kn:List (Nat×Bool)
 F:List Nat
 v:V
 u:List (Nat×Obj)
def En.app(e:En)(st:St):St:=bN {st with obj:=aj st.obj e.u} e.op.dst e.v
def fZ(S:Nat->Bool):List En->St->St
 |[],st=>st
 |e::r,st=>fZ S r (bif S e.i then e.app st else st)
theorem St.ext'{a b:St}(h1:∀t,a.env t=b.env t)(h2:∀id,a.obj id=b.obj id):a=b:=by
 obtain⟨e,o⟩:=a;obtain⟨e',o'⟩:=b;have:e=e':=funext h1;have:o=o':=funext h2
 subst_vars;rfl
theorem G4(e:En)(st:St):(e.app st).obj=aj st.obj e.u:=by unfold En.app bN;cases e.op.dst<;>rfl
theorem BD(e:En)(st:St)(t:Nat):(e.op.dst=some t/\(e.app st).env t=e.v)\/(e.op.dst≠some t/\(e.app st).env t=st.env t):=by
 unfold En.app bN;cases h:e.op.dst with
 |none=>exact .inr ⟨by simp,rfl⟩
 |some d=>
  by_cases ht:t=d
  ·subst ht;exact .inl ⟨rfl,gq⟩
  ·exact .inr ⟨fun e=>ht (by injection e with e;exact e.symm),nJ ht⟩
theorem zce{e e':En}(hd:∀d,e.op.dst=some d->e'.op.dst≠some d)(hk:∀id,id∈bU e.u->id∉bU e'.u)(st:St):e'.app (e.app st)=e.app (e'.app st):=by
 apply St.ext'
 ·intro t;rcases BD e' (e.app st) t with ⟨h1,h2⟩|⟨h1,h2⟩
  ·rw[h2];rcases BD e (e'.app st) t with ⟨h3,h4⟩|⟨h3,h4⟩
   ·grind
   ·rw[h4];rcases BD e' st t with ⟨_,h6⟩|⟨h5,_⟩
    all_goals grind
  ·rw[h2];rcases BD e (e'.app st) t with ⟨h3,h4⟩|⟨h3,h4⟩
   ·rw[h4];rcases BD e st t with ⟨_,h6⟩|⟨h5,_⟩
    all_goals grind
   ·rw[h4];rcases BD e st t with ⟨h5,_⟩|⟨_,h6⟩
    ·exact absurd h5 h3
    ·rw[h6];rcases BD e' st t with ⟨h7,_⟩|⟨_,h8⟩
     all_goals grind
 ·intro id;rw[G4,G4,G4,G4];by_cases h1:id∈bU e.u
  ·rw[iR (hk id h1),Qi (o':=aj st.obj e'.u) h1]
  ·rw[iR (u:=e.u) (o:=aj st.obj e'.u) h1];by_cases h2:id∈bU e'.u
   ·exact Qi h2
   ·rw[iR h2,iR h2,iR h1]
theorem Wg(S:Nat->Bool):∀(l m:List En) (st:St),fZ S (l++m) st=fZ S m (fZ S l st)
 |[],_,_=>rfl
 |_::l,m,_=>Wg S l m _
theorem qn7{S:Nat->Bool}:∀(l:List En) (st:St),(∀e,e∈l->S e.i=S' e.i)->fZ S l st=fZ S' l st
 |[],_,_=>rfl
 |e::l,st,h=>by show fZ S l (bif S e.i then e.app st else st)=fZ S' l (bif S' e.i then e.app st else st);rw[h e (zg ..)];exact qn7 l _ fun q hq=>h q (zf _ hq)
theorem qzy{S:Nat->Bool}{e:En}:∀(l:List En) (st:St),(∀q,q∈l->S q.i=true->(∀d,e.op.dst=some d->q.op.dst≠some d)/\∀id,id∈bU e.u->id∉bU q.u)->fZ S l (e.app st)=e.app (fZ S l st)
 |[],_,_=>rfl
 |q::l,st,h=>by
  show fZ S l (bif S q.i then q.app (e.app st) else e.app st)=e.app (fZ S l (bif S q.i then q.app st else st));have ih:=fun st=>qzy (S:=S) (e:=e) l st fun p hp=>h p (zf _ hp);cases hs:S q.i with
  |true=>obtain⟨h1,h2⟩:=h q (zg ..) hs;show fZ S l (q.app (e.app st))=e.app (fZ S l (q.app st));rw[zce h1 h2,ih]
  |false=>exact ih st
theorem zcf{S:Nat->Bool}{e:En}{l m:List En}(st:St)(hl:∀q,q∈l->S q.i=S' q.i)(hm:∀q,q∈m->S q.i=S' q.i)(h1:S e.i=false)(h2:S' e.i=true)(hp:∀q,q∈m->S q.i=true->(∀d,e.op.dst=some d->q.op.dst≠some d)/\∀id,id∈bU e.u->id∉bU q.u):fZ S' (l++e::m) st=e.app (fZ S (l++e::m) st):=by rw[Wg,Wg];show fZ S' m (bif S' e.i then e.app (fZ S' l st) else fZ S' l st)=e.app (fZ S m (bif S e.i then e.app (fZ S l st) else fZ S l st));rw[h1,h2,<-qn7 l st hl];show fZ S' m (e.app (fZ S l st))=e.app (fZ S m (fZ S l st));rw[<-qn7 m _ hm];exact qzy m _ hp
section
variable {C:Cx} {R:kX C.sigs}
def En.tr(e:En):Tr:=⟨e.i,e.op,e.F,bU e.u⟩
def lD(st:St)(kn:List (Nat×Bool)):Prop:=∀d b,uX d kn=some b->st.env d=.d .bool b
def zgm(all:List Oper)(st:St)(e:En):Prop:=∃j want oj dj,e.op.guard=some (j,want)/\all[j]?=some oj/\oj.dst=some dj/\((∃b,uX dj e.kn=some b/\b≠want)\/st.env dj=.undef)
def zgn(all:List Oper)(e:En):Prop:=e.op.guard=none\/∃j want oj dj,e.op.guard=some (j,want)/\all[j]?=some oj/\oj.dst=some dj/\uX dj e.kn=some want
def BE(C:Cx)(R:kX C.sigs)(rg:Nat)(all:List Oper)(st:St)(e:En):Prop:=
 (e.sk=true/\zgm all st e/\e.v=.undef/\e.u=[]/\e.F=[])\/
 (e.sk=false/\zgn all e/\e.F=rm C st e.op/\(Et e.op.op||Br st.obj e.F e.F)=true/\
  (dD lf C R (ij st.env e.kn (lT e.op.op.operands.toList)) (eP st.obj e.F) (lS rg e.i) e.op.type e.op.op).aD e.v e.u/\nK (lS rg e.i) st.obj e.u)
def EJ(C:Cx)(R:kX C.sigs)(rg:Nat)(all:List Oper):Nat->St->List En->Prop
 |_,_,[]=>True
 |i,st,e::r=>e.i=i/\BE C R rg all st e/\lD st e.kn/\PI e.op.dst e.kn=true/\EJ C R rg all (i+1) (e.app st) r
def ng:List En->St->St
 |[],st=>st
 |e::r,st=>ng r (e.app st)
theorem zcg{e:En}{st:St}(h:lD st kn)(hn:PI e.op.dst kn=true):lD (e.app st) kn:=by
 intro d b hd;rcases BD e st d with ⟨h1,_⟩|⟨_,h2⟩
 ·exfalso;unfold PI at hn
  grind
 ·rw[h2];exact h d b hd
theorem z3b{o:Nat->Obj}{ty:TypeId}{y:Bool}(he:env t=.lb y)(h:(dD lf C R env o fr ty (.move (.tmp t))).aD v u):v=.d .bool y:=by
 have hv:cE C env (.tmp t)=.d .bool y:=by show eI (env t)=_;rw[he];rfl
 simp[dD,hv,PB] at h
 simp_all
theorem z3c{o:Nat->Obj}{ty:TypeId}{q:Bool}{a b:Operand}(he:env t=.lb q)(hz:(bif q then a else b)=.const (.bool z))  (h:(dD lf C R env o fr ty (.pick (.tmp t) a b)).aD v u):v=.d .bool z:=by
 have hv:El C env (.tmp t)=.lb q:=he;simp[dD,hv] at h;rw[<-h.1];cases q with
 |true=>rw[zK] at hz ⊢;rw[hz];rfl
 |false=>rw[zE] at hz ⊢;rw[hz];rfl
theorem qq7{ts:List Nat}{b:Bool}(ht:bF t ts=true)(hk:uX t kn=some b):ij env kn ts t=.lb b:=by unfold ij;rw[ht,zK,hk]
theorem qum{st:St}(h:lD st kn)(hd:st.env d=.d .bool z):lD st ((d,z)::kn):=by
 intro t b ht;simp[uX] at ht;cases hq:Nat.beq d t with
 |true=>simp_all
 |false=>rw[hq] at ht;exact h t b ht
theorem qun(t:Nat)(l:List Nat):bF t (t::l)=true:=by simp[bF]
theorem zch{st:St}{ob:Nat->Obj}{ob':Nat->Obj}  (hg:(dD lf C R (ij st.env kn (lT o.op.operands.toList)) ob fr o.type o.op).aD v u) (h:lD (bN {st with obj:=ob'} o.dst v) kn):lD (bN {st with obj:=ob'} o.dst v) (Iq o kn):=by
 unfold Iq;split
 ·exact h
 ·rename_i d hd;have hc:(bN {st with obj:=ob'} o.dst v).env d=v:=by rw[hd];simp[bN,dR]
  split
  ·rename_i t ho;split
   ·rename_i y hy;rw[ho] at hg;have:=z3b (qq7 (by simpa[Op.operands,lT] using qun t []) hy) hg;exact qum h (by rw[hc,this])
   ·exact h
  ·rename_i c x y ho;split
   ·rename_i q hq;split
    ·rename_i z hz;rw[ho] at hg;have:=z3c (qq7 (by simpa[Op.operands,lT] using qun c _) hq) hz hg;exact qum h (by rw[hc,this])
    ·exact h
   ·exact h
  ·exact h
theorem zjn{γ δ:Type}{w:γ->δ}{k:(γ->δ)->St->Option δ}{y:δ}:∀(n i:Nat) (r:List Oper) (st:St) (kn:List (Nat×Bool)) (tr:List Tr),uY lf C R rg all n w i r st kn tr k=some y->lD st kn->∃es,es.map (·.op)=r/\EJ C R rg all i st es/\(rQ (iy all []) all ((es.map En.tr).reverse++tr)&&AG rg ((es.map En.tr).reverse++tr))=true/\k w (ng es st)=some y:=by
 intro n
 induction n with
 |zero=>intro i r st kn tr h;cases h
 |succ n ih=>
  intro i r st kn tr h hf;cases r with
  |nil=>
   have h:(bif rQ (iy all []) all tr&&AG rg tr then k w st else none)=some y:=h;cases hd:(rQ (iy all []) all tr&&AG rg tr) with
   |false=>rw[hd] at h;cases h
   |true=>rw[hd] at h;exact⟨[],rfl,trivial,hd,h⟩
  |cons o r=>
   unfold uY at h;simp at h;cases he:PI o.dst kn with
   |false=>rw[he] at h;cases h
   |true=>
    rw[he] at h;have more:∀(e:En),e.i=i->e.op=o->e.kn=kn->BE C R rg all st e->∀Ox,(lD (e.app st) kn->lD (e.app st) Ox)->uY lf C R rg all n w (i+1) r (e.app st) Ox (e.tr::tr) k=some y->
      ∃es,es.map (·.op)=o::r/\EJ C R rg all i st es/\(rQ (iy all []) all ((es.map En.tr).reverse++tr)&&AG rg ((es.map En.tr).reverse++tr))=true/\k w (ng es st)=some y:=by
     intro e h1 h2 h3 h4 Ox h6 h5;have⟨es,g1,g2,g3,g4⟩:=ih _ _ _ _ _ h5 (h6 (zcg hf (by rw[h2];exact he)));exact⟨e::es,by rw[zX,g1,h2],⟨h1,h4,by rw[h3];exact hf,by rw[h2,h3];exact he,g2⟩,by rw[zX,List.reverse_cons,zk];exact g3,g4⟩
    have run:(∀e:En,e.op=o->e.kn=kn->zgn all e)->(bif Et o.op||Br st.obj (rm C st o) (rm C st o) then(match dD lf C R (ij st.env kn (lT o.op.operands.toList)) (eP st.obj (rm C st o)) (lS rg i) o.type o.op with
      |.fail=>none
      |.nQ v u=>pB v fun v=>uW (lS rg i) st.obj u fun o'=>uY lf C R rg all n w (i+1) r (bN {st with obj:=o'} o.dst v) (Iq o kn) (⟨i,o,rm C st o,bU u⟩::tr) k
      |.dyn _ x out=>lf.b x fun y=>pB (out y).1 fun v=>uW (lS rg i) st.obj (out y).2 fun o'=>uY lf C R rg all n w (i+1) r (bN {st with obj:=o'} o.dst v) (Iq o kn) (⟨i,o,rm C st o,bU (out y).2⟩::tr) k) else none)=some y->
      ∃es,es.map (·.op)=o::r/\EJ C R rg all i st es/\(rQ (iy all []) all ((es.map En.tr).reverse++tr)&&AG rg ((es.map En.tr).reverse++tr))=true/\k w (ng es st)=some y:=by
     intro hw h;cases hc:(Et o.op||Br st.obj (rm C st o) (rm C st o)) with
     |false=>rw[hc] at h;cases h
     |true=>
      rw[hc] at h;have go:∀v u,(dD lf C R (ij st.env kn (lT o.op.operands.toList)) (eP st.obj (rm C st o)) (lS rg i) o.type o.op).aD v u->
        (pB v fun v=>uW (lS rg i) st.obj u fun o'=>uY lf C R rg all n w (i+1) r (bN {st with obj:=o'} o.dst v) (Iq o kn) (⟨i,o,rm C st o,bU u⟩::tr) k)=some y->
        ∃es,es.map (·.op)=o::r/\EJ C R rg all i st es/\(rQ (iy all []) all ((es.map En.tr).reverse++tr)&&AG rg ((es.map En.tr).reverse++tr))=true/\k w (ng es st)=some y:=by
       intro v u hg h;rw[z67] at h;have⟨h1,h2⟩:=qrw _ _ _ _ h;exact more ⟨i,o,false,kn,rm C st o,v,u⟩ rfl rfl rfl (.inr ⟨rfl,hw _ rfl rfl,rfl,hc,hg,h2⟩) _ (zch hg) h1
      generalize hp:dD lf C R (ij st.env kn (lT o.op.operands.toList)) (eP st.obj (rm C st o)) (lS rg i) o.type o.op=pk at h go;cases pk with
      |fail=>cases h
      |nQ v u=>exact go v u ⟨rfl,rfl⟩ h
      |dyn α x out=>obtain⟨q,h1,h2⟩:=Dx (x:=x) h;exact go (out q).1 (out q).2 ⟨q,h1,rfl⟩ h2
    have skip:(∀e:En,e.op=o->e.kn=kn->zgm all st e)->uY lf C R rg all n w (i+1) r (bN st o.dst .undef) kn (⟨i,o,[],[]⟩::tr) k=some y->
      ∃es,es.map (·.op)=o::r/\EJ C R rg all i st es/\(rQ (iy all []) all ((es.map En.tr).reverse++tr)&&AG rg ((es.map En.tr).reverse++tr))=true/\k w (ng es st)=some y:=fun hs h=>
     more ⟨i,o,true,kn,[],.undef,[]⟩ rfl rfl rfl (.inl ⟨rfl,hs _ rfl rfl,rfl,rfl,rfl⟩) kn (fun h=>h) h
    split at h
    ·rename_i hg;exact run (fun e h1 _=>.inl (by rw[h1];exact hg)) h
    ·rename_i j want hg;split at h
     ·rename_i oj hj;split at h
      ·rename_i dj hk;split at h
       ·rename_i b hb;cases hc:(bif want then b else !b) with
        |true=>
         rw[hc] at h;have:b=want:=by cases b<;>cases want<;>first|rfl|cases hc
         subst this;exact run (fun e h1 h2=>.inr ⟨j,b,oj,dj,by rw[h1];exact hg,hj,hk,by rw[h2];exact hb⟩) h
        |false=>
         rw[hc] at h;have:b≠want:=by cases b<;>cases want<;>first|(intro h;cases h;done)|cases hc
         exact skip (fun e h1 h2=>⟨j,want,oj,dj,by rw[h1];exact hg,hj,hk,.inl ⟨b,by rw[h2];exact hb,this⟩⟩) h
       ·split at h
        ·rename_i hu;exact skip (fun e h1 h2=>⟨j,want,oj,dj,by rw[h1];exact hg,hj,hk,.inr hu⟩) h
        ·rename_i x hx;have Ox:∀b,x=b->lD st ((dj,b)::kn):=by
          intro b e d b' hd;simp[uX] at hd;cases hq:Nat.beq dj d with
          |true=>simp_all
          |false=>rw[hq,zE] at hd;exact hf d b' hd
         cases x with
         |true=>exact ih i (o::r) st _ tr h (Ox true rfl)
         |false=>exact ih i (o::r) st _ tr h (Ox false rfl)
        ·cases h
      ·cases h
     ·cases h
end
inductive DF (all:List Oper):Nat->Nat->Prop where
 |IT {i:Nat} {o:Oper} {e:Edge} (h1:all[i]?=some o) (h2:e∈o.after.toList) (h3:Region.binds .any e=true):DF all i e.on
 |trans {i a:Nat} {o:Oper} {e:Edge} (h1:all[i]?=some o) (h2:e∈o.after.toList) (h3:Region.binds .any e=true) (h4:DF all e.on a):DF all i a
theorem qxm{a:Nat}(h:Nat.testBit (bit t) a=true):a=t:=by
 unfold bit at h;rw[Nat.testBit_shiftLeft,ze] at h;have⟨h1,h2⟩:=h;have h1:t<=a:=by simp_all
 have:a-t=0:=zF fun hn=>by
  obtain⟨m,hm⟩:∃m,a-t=m+1:=⟨a-t-1,by omega⟩
  grind
 omega
theorem qzz{acc:List Nat}(hc:∀i a,Nat.testBit (acc.getD i 0) a=true->DF all i a)(ho:all[i]?=some o):∀(l:List Edge) (s:Nat),(∀e,e∈l->e∈o.after.toList)->(∀a,Nat.testBit s a=true->DF all i a)->∀a,Nat.testBit (l.foldl (fun s e=>bif Region.binds .any e then s|||bit e.on|||acc.getD e.on 0 else s) s) a=true->DF all i a
 |[],s,_,hs,a,h=>hs a h
 |e::l,s,hl,hs,a,h=>by
  refine qzz hc ho l _ (fun q hq=>hl q (zf _ hq)) ?_ a h;intro a ha;replace ha:Nat.testBit (bif Region.binds .any e then s|||bit e.on|||acc.getD e.on 0 else s) a=true:=ha;cases hb:Region.binds .any e with
  |false=>rw[hb] at ha;exact hs a ha
  |true=>
   rw[hb,zK,Nat.testBit_or,Nat.testBit_or,jk,jk] at ha;rcases ha with (ha|ha)|ha
   ·exact hs a ha
   ·rw[qxm ha];exact .IT ho (hl e (zg ..)) hb
   ·exact .trans ho (hl e (zg ..)) hb (hc _ _ ha)
theorem qrz:∀(r pre:List Oper) (acc:List Nat),all=pre++r->acc.length=pre.length->(∀i a,Nat.testBit (acc.getD i 0) a=true->DF all i a)->∀i a,Nat.testBit ((iy r acc).getD i 0) a=true->DF all i a
 |[],pre,acc,_,_,hc=>hc
 |o::r,pre,acc,he,hf,hc=>by
  refine qrz r (pre++[o]) _ (by rw[he];simp) (by simp[hf]) ?_;have ho:all[pre.length]?=some o:=by rw[he];simp
  intro i a h;by_cases hi:i<acc.length
  ·grind
  ·by_cases hg:i=acc.length
   ·rw[List.getD_eq_getElem?_getD,zM om,hg,jy] at h;rw[hg,hf];exact qzz hc ho o.after.toList 0 (fun _ h=>h) (fun a h=>by simp at h) a h
   grind
theorem qje{S:Nat->Bool}(hS:∀i o,all[i]?=some o->S i=true->∀e,e∈o.after.toList->Region.binds .any e=true->S e.on=true){a:Nat}(h:DF all i a):S i=true->S a=true:=by
 induction h with
 |IT h1 h2 h3=>exact fun hi=>hS _ _ h1 hi _ h2 h3
 |trans h1 h2 h3 _ ih=>exact fun hi=>ih (hS _ _ h1 hi _ h2 h3)
theorem z6j{S:Nat->Bool}(hS:∀i o,all[i]?=some o->S i=true->∀e,e∈o.after.toList->Region.binds .any e=true->S e.on=true){a:Nat}(ho:all[i]?=some o)(hr:∀e,e∈o.after.toList->Region.binds .any e=true->S e.on=true)(h:DF all i a):S a=true:=by
 cases h with
 |IT h1 h2 h3=>rw[ho] at h1;injection h1 with h1;subst h1;exact hr _ h2 h3
 |trans h1 h2 h3 h4=>rw[ho] at h1;injection h1 with h1;subst h1;exact qje hS h4 (hr _ h2 h3)
theorem qup:∀{l:List Nat},Dm d l=true->d∉l
 |[],_=>by simp
 |b::r,h=>by
  simp only[Dm] at h;cases hb:Nat.beq b d with
  |true=>rw[hb] at h;cases h
  |false=>
   rw[hb] at h;have hr:=qup h;intro hm
   simp_all
theorem z6k{S:Nat->Bool}:∀(es:List En) (st bV:St),st.env t=bV.env t->(∀q,q∈es->S q.i≠S' q.i->q.op.dst≠some t)->(fZ S es st).env t=(fZ S' es bV).env t
 |[],_,_,h,_=>h
 |q::es,st,bV,h,hq=>by
  have hr:=fun p hp=>hq p (zf q hp);refine z6k es _ _ ?_ hr;by_cases e:S q.i=S' q.i
  ·rw[e];cases S' q.i with
   |false=>exact h
   |true=>
    rcases BD q st t with ⟨h1,h2⟩|⟨h1,h2⟩<;>rcases BD q bV t with ⟨h3,h4⟩|⟨h3,h4⟩
    all_goals grind
  ·have hd:=hq q (zg ..) e;have one:∀(b:Bool) (s:St),(bif b then q.app s else s).env t=s.env t:=by
    intro b s;cases b with
    |false=>rfl
    |true=>
     rcases BD q s t with ⟨h1,_⟩|⟨_,h2⟩
     all_goals grind
   rw[one,one,h]
theorem z6l{S:Nat->Bool}{id:Nat}:∀(es:List En) (st bV:St),st.obj id=bV.obj id->(∀q,q∈es->S q.i≠S' q.i->id∉bU q.u)->(fZ S es st).obj id=(fZ S' es bV).obj id
 |[],_,_,h,_=>h
 |q::es,st,bV,h,hq=>by
  have hr:=fun p hp=>hq p (zf q hp);refine z6l es _ _ ?_ hr;have aaf:∀s s':St,s.obj id=s'.obj id->(q.app s).obj id=(q.app s').obj id:=by
   intro s s' hs;rw[G4,G4];by_cases hk:id∈bU q.u
   ·exact Qi hk
   ·rw[iR hk,iR hk,hs]
  by_cases e:S q.i=S' q.i
  ·rw[e];cases S' q.i with
   |false=>exact h
   |true=>exact aaf st bV h
  ·have hd:=hq q (zg ..) e;have one:∀(b:Bool) (s:St),(bif b then q.app s else s).obj id=s.obj id:=by
    intro b s;cases b with
    |false=>rfl
    |true=>show(q.app s).obj id=s.obj id;rw[G4,iR hd]
   rw[one,one,h]
theorem Qx{a b:List Nat}(h:Io a b=true):∀x,x∈a->x∉b:=by intro x hx hb;have:=ju.1 h x hx;rw[cP.2 hb] at this;cases this
theorem qg9{d:Option Nat}{l:List Nat}(h:z59 d l=true):∀t,d=some t->t∉l:=by rintro t rfl;exact qup h
theorem qxn{b:Tr}{r:List Tr}:Vu AF all b r=true->∀a,a∈r->Es AF all a b=true:=by
 induction r with
 |nil=>intro _ a ha;cases ha
 |cons x r ih=>
  intro h a ha;simp[Vu,Bool.and_eq_true] at h
  grind
theorem Wh:∀(l1 l2:List Tr) (b:Tr),rQ AF all (l1++b::l2)=true->∀a,a∈l2->Es AF all a b=true
 |[],l2,b,h=>by simp[List.nil_append,rQ,Bool.and_eq_true] at h;exact qxn h.1
 |x::l1,l2,b,h=>by simp[List.cons_append,rQ,Bool.and_eq_true] at h;exact Wh l1 l2 b h.2
def Down(all:List Oper)(S:Nat->Bool):Prop:=∀i o,all[i]?=some o->S i=true->∀e,e∈o.after.toList->Region.binds .any e=true->S e.on=true
theorem zjo{S:Nat->Bool}(hS:Down all S){l1 l2:List En}{e:En}(ho:all[e.i]?=some o)(hr:∀ed,ed∈o.after.toList->Region.binds .any ed=true->S ed.on=true)(hk:S e.i=false)(hd:rQ (iy all []) all ((l1++e::l2).map En.tr).reverse=true)(h1:∀q,q∈l1->q.i<e.i)(h2:∀q,q∈l2->e.i<q.i):∀q,q∈l1++e::l2->S q.i≠decide (q.i<e.i)->(∀t,q.op.dst=some t->t∉N3 all e.op)/\(∀id,id∈bU q.u->id∉e.F/\id∉bU e.u):=by
 have hc:=qrz (all:=all) all [] [] rfl rfl (fun i a h=>by simp at h);intro q hq hf;rcases zD.1 hq with hq|hq
 ·
  have hg:=h1 q hq;have hj:S q.i=false:=by
   cases hs:S q.i with
   |false=>rfl
   |true=>rw[hs] at hf;simp[hg] at hf
  have hp:Es (iy all []) all q.tr e.tr=true:=by
   refine Wh (l2.map En.tr).reverse (l1.map En.tr).reverse e.tr ?_ q.tr ?_
   all_goals grind
  unfold Es at hp;rw[jk] at hp;rcases hp with hp|hp
  ·have:=z6j hS ho hr (hc _ _ hp);have this:S q.i=true:=this
   grind
  ·unfold Vt at hp;simp only[ze] at hp;obtain⟨⟨⟨a1,_⟩,a3⟩,_⟩:=hp;exact⟨fun t ht hm=>qg9 a1 t ht (zN _ hm),fun id he=>⟨fun h=>Qx a3 id he (zN _ h),fun h=>Qx a3 id he (zG _ h)⟩⟩
 ·rcases zA.1 hq with hq|hq
  ·grind
  ·
   have hg:=h2 q hq;have hj:S q.i=true:=by
    cases hs:S q.i with
    |true=>rfl
    |false=>rw[hs] at hf;simp at hf;omega
   have hp:Es (iy all []) all e.tr q.tr=true:=by
    obtain⟨m1,m2,rfl⟩:=Jr hq;refine Wh (m2.map En.tr).reverse ((l1++e::m1).map En.tr).reverse q.tr ?_ e.tr ?_
    all_goals grind
   unfold Es at hp;rw[jk] at hp;rcases hp with hp|hp
   ·have:=qje hS (hc _ _ hp) hj;have this:S e.i=true:=this
    grind
   ·unfold Vt at hp;simp only[ze] at hp;obtain⟨⟨⟨_,a2⟩,a3⟩,a4⟩:=hp;exact⟨fun t ht hm=>qg9 a2 t ht hm,fun id he=>⟨fun h=>Qx a4 id he h,fun h=>Qx a3 id h (zG _ he)⟩⟩
theorem qs0{S:Nat->Bool}:∀(l:List En) (st:St),(∀q,q∈l->S q.i=false)->fZ S l st=st
 |[],_,_=>rfl
 |q::l,st,h=>by show fZ S l (bif S q.i then q.app st else st)=st;rw[h q (zg ..)];exact qs0 l st fun p hp=>h p (zf _ hp)
theorem qxo{S:Nat->Bool}:∀(l:List En) (st:St),(∀q,q∈l->S q.i=true)->fZ S l st=ng l st
 |[],_,_=>rfl
 |q::l,st,h=>by show fZ S l (bif S q.i then q.app st else st)=ng l (q.app st);rw[h q (zg ..)];exact qxo l _ fun p hp=>h p (zf _ hp)
theorem zpn{S:Nat->Bool}(hS:Down all S){l1 l2:List En}{e:En}(ho:all[e.i]?=some o)(hr:∀ed,ed∈o.after.toList->Region.binds .any ed=true->S ed.on=true)(hg:S e.i=false)(hd:rQ (iy all []) all ((l1++e::l2).map En.tr).reverse=true)(h1:∀q,q∈l1->q.i<e.i)(h2:∀q,q∈l2->e.i<q.i)(st:St):(∀t,t∈N3 all e.op->(fZ S (l1++e::l2) st).env t=(ng l1 st).env t)/\(∀id,(id∈e.F\/id∈bU e.u)->(fZ S (l1++e::l2) st).obj id=(ng l1 st).obj id):=by
 have hj:=zjo hS ho hr hg hd h1 h2;have hc:fZ (fun i=>decide (i<e.i)) (l1++e::l2) st=ng l1 st:=by
  rw[Wg,qxo l1 st (fun q hq=>by simpa using h1 q hq)];refine qs0 _ _ fun q hq=>?_
  grind
 refine⟨fun t ht=>?_,fun id hl=>?_⟩
 ·rw[<-hc];exact z6k _ _ _ rfl fun q hq hf he=>(hj q hq hf).1 t he ht
 ·rw[<-hc];refine z6l _ _ _ rfl fun q hq hf hk=>?_
  grind
theorem qq8{o:Nat->Obj}:∀(F l:List Nat),Br o F l=true->∀id,id∈l->∀j,j∈Bq (o id)->j∈F
 |F,x::r,h,id,hi,j,hj=>by
  simp[Br,Bool.and_eq_true] at h;have key:∀(l m:List Nat),Vv l m=true->∀q,q∈l->q∈m:=by
   intro l m
   induction l with
   |nil=>intro _ q hq;cases hq
   |cons y l ih=>
    intro h q hq;simp[Vv,Bool.and_eq_true] at h;rcases zA.1 hq with hq|hq
    ·subst hq;exact cP.1 h.1
    ·exact ih h.2 q hq
  rcases zA.1 hi with hi|hi
  ·grind
  ·exact qq8 F r h.2 id hi j hj
theorem z6m(o:Nat->Obj):∀(n:Nat) (l:List Nat) (x:Nat),x∈l->x∈Vs o n l
 |0,_,_,h=>h
 |_+1,_,_,h=>zN _ h
theorem z00:∀{l:List V} {v:V} {id:Nat},v∈l->id∈gB v->id∈mf l
 |x::l,v,id,hv,hi=>by
  unfold mf;rcases zA.1 hv with rfl|hv
  ·grind
  ·exact zG _ (z00 hv hi)
theorem qn8:∀{l:List Operand} {t:Nat},t∈lT l->Operand.tmp t∈l
 |x::r,t,h=>by
  cases x<;>simp only[lT] at h<;>try exact zf _ (qn8 h)
  rcases zA.1 h with h|h
  ·grind
  ·exact zf _ (qn8 h)
theorem quq{C:Cx}{nt:Nat}{st:St}{a:Act}(hR:Rel C nt X φ st a w){ops:List Operand}(hk:∀d b,d∈lT ops->uX d kn=some b->st.env d=.d .bool b){F:List Nat}(hF:∀id,id∈mf (ops.map (cE C st.env))->id∈F)(hm:MRel C (Xr X φ st.obj F) φ (eP st.obj F) w):∀x,au φ (eP st.obj F) (ag (Xr X φ st.obj F) φ (eP st.obj F) w) w (cE C (ij st.env kn (lT ops)) x) (a.eval x):=by
 intro x;cases x with
 |tmp t=>
  show au φ _ _ w (eI (ij st.env kn (lT ops) t)) (a.tmps.getD t undef);unfold ij;cases hh:bF t (lT ops) with
  |false=>trivial
  |true=>
   have ht:=cP.1 hh;split
   ·rename_i b hb;have hz:=hR.env t;rw[hk t b ht hb] at hz;have:=uB hz;rw[this];exact EA
   ·exact qmv (fun id hi=>hF id (z00 (Zp (qn8 ht)) hi)) (PO (hR.env t))
 |const v=>exact qiz v
 |global g=>
  simp[cE,Act.eval];split
  ·rename_i e;exact hm.fT _ _ _ e
  ·trivial
 |func f=>
  simp[Ev.cE];cases h:Nat.blt f 1048576 with
  |false=>simp[au]
  |true=>exact⟨#[],(VD (zP h) #[]).symm,rfl⟩
section
variable {C:Cx} {R:kX C.sigs} {nt:Nat}
theorem qp3(hC:cS C)(hE:nW C)(HC:∀X φ o w,MRel C X φ o w->∀fr f,EE C R X φ o w fr f){st:St}{a:Act}(hR:Rel C nt X φ st a w){F:List Nat}  (hf:∀d b,d∈lT o.op.operands.toList->uX d kn=some b->st.env d=.d .bool b) (hF:∀id,id∈mf (o.op.operands.toList.map (cE C st.env))->id∈F) (hk:Br st.obj F F=true) (hg:(dD lf C R (ij st.env kn (lT o.op.operands.toList)) (eP st.obj F) fr o.type o.op).aD v u) (he:∀id,id∈bU u->id∉F->st.obj id=.none) (hn:nK fr (eP st.obj F) u) {K:Act->World->Prop} (hK:∀val w' φ',Comes C X φ φ' st.obj u w w' v val->K (a.put o.dst val) w'):o.wp C.P a w K Q:=by have hm:=hR.toMRel.restrict (F:=F) (fun id hi j hj=>qq8 F F hk id hi j hj);have hl:=zjd hC hE hm (quq hR hf hF hm) (HC _ _ _ _ hm fr) hg hn;exact hl.upon fun val w' φ' hc=>by have⟨iz,h⟩:=hc.ve hR.toMRel he;exact hK val w' iz h
end
theorem qkf{o o':Nat->Obj}(F:List Nat):∀(l:List Nat),(∀id,id∈l->o id=o' id)->Br o F l=Br o' F l
 |[],_=>rfl
 |x::l,h=>by simp[Br];rw[h x (zg ..),qkf F l fun id hi=>h id (zf _ hi)]
theorem z01:∀{u:List (Nat×Obj)} {id:Nat},id∈bU u->∃p,p∈u/\p.1=id
 |p::r,id,h=>by
  rcases zA.1 h with h|h
  ·grind
  ·have⟨q,h1,h2⟩:=z01 h
   grind
theorem qq9{F:List Nat}:∀{l:List Nat},Ip F fr l=true->∀id,id∈l->id∈F\/(fr<=id/\id<fr+16)
 |[],_,id,h=>by cases h
 |x::l,hk,id,h=>by
  simp only[Ip,ze,jk] at hk;rcases zA.1 h with h|h
  ·subst h;exact hk.1.imp cP.1 fun h=>⟨zP h.1,zP h.2⟩
  ·exact qq9 hk.2 id h
section
variable {C:Cx} {R:kX C.sigs} {nt:Nat}
theorem qur{st:St}(h:Et o.op=false):rm C st o=Vs st.obj 4 (mf (o.op.operands.toList.map (cE C st.env))):=by unfold rm;split<;>first|rfl|(rename_i e;rw[e] at h;cases h)
theorem z6n{o:Nat->Obj}{F:List Nat}(h:sure (eP o F) v=true)(hF:∀id,id∈gB v->id∈F):sure o v=true:=by
 cases v<;>simp[sure] at h ⊢<;>try exact h
 rename_i id off
 rwa [oH (hF id (by simp[gB]))] at h
theorem z3d{o:Nat->Obj}{F:List Nat}(h:(N2 (eP o F) v).aD v' u)(hF:∀id,id∈gB v->id∈F):(N2 o v).aD v' u:=by
 unfold N2 at h ⊢;split at h
 ·rw[eT] at h ⊢;exact⟨z6n h.1 hF,h.2⟩
 ·exact h
 ·rename_i id ver i path
  rwa [oH (hF id (by simp[gB]))] at h
 ·exact h
 ·cases h
theorem qky{o:Nat->Obj}{F:List Nat}{t:TypeId}{f:Nat}(h:(N1 C (eP o F) t v f).aD v' u)(hF:∀id,id∈gB v->id∈F):(N1 C o t v f).aD v' u:=by
 unfold N1 at h ⊢;cases hc:Po C.P t f with
 |none=>rw[hc] at h;cases h
 |some fd=>
  rw[hc] at h;simp at h ⊢;cases hk:xC C.P fd.type with
  |none=>rw[hk] at h;cases h
  |some p=>
   rw[hk] at h;rw[eT] at h ⊢;refine⟨h.1,?_⟩;replace h:=h.2;cases v<;>try exact h
   ·rename_i id off;simp at h ⊢
    rwa [oH (hF id (by simp[gB]))] at h
   ·rename_i id ver i path;simp at h ⊢
    rwa [oH (hF id (by simp[gB]))] at h
theorem qxp{st:St}(hl:Et o.op=true)(he:∀d b,d∈lT o.op.operands.toList->uX d kn=some b->st.env d=.d .bool b){F:List Nat}(hF:F=rm C st o)(hg:(dD lf C R (ij st.env kn (lT o.op.operands.toList)) (eP st.obj F) fr o.type o.op).aD v u):(dD lf C R st.env st.obj fr o.type o.op).aD v u:=by
 have hc:∀x,x∈o.op.operands.toList->cE C (ij st.env kn (lT o.op.operands.toList)) x=cE C st.env x:=by
  intro x hx;cases x with
  |tmp t=>
   have ht:t∈lT o.op.operands.toList:=by
    revert hx;generalize o.op.operands.toList=l;intro hx
    induction l with
    |nil=>cases hx
    |cons y r ih=>
     rcases zA.1 hx with h|h
     ·subst h;exact zg ..
     ·cases y<;>first|exact ih h|exact zf _ (ih h)
   show eI (ij st.env kn _ t)=eI (st.env t);unfold ij;rw[cP.2 ht];split
   ·rename_i b hb;rw[he t b ht hb];rfl
   ·rfl
  |_=>rfl
 have⟨i,op,ty,pos,after,guard⟩:=o;cases op<;>simp[Et] at hl<;>try (cases hl;done)
 ·rename_i x;simp[dD] at hg ⊢
  rwa [hc x (by simp[Op.operands])] at hg
 ·rename_i x;simp[dD] at hg ⊢
  rwa [hc x (by simp[Op.operands])] at hg
 ·rename_i x;simp[dD] at hg ⊢;rw[hc x (by simp[Op.operands])] at hg;exact z3d hg (fun id h=>by rw[hF];exact h)
 ·rename_i t x f;simp[dD] at hg ⊢;rw[hc x (by simp[Op.operands])] at hg;exact qky hg (fun id h=>by rw[hF];exact h)
theorem z6o(hC:cS C)(hE:nW C)(HC:∀X φ o w,MRel C X φ o w->∀fr f,EE C R X φ o w fr f){st0:St}{S:Nat->Bool}{l1 l2:List En}{e:En}{a:Act}  (ho:ops.toList[e.i]?=some e.op) (hS:Down ops.toList S) (hr:∀ed,ed∈e.op.after.toList->Region.binds .any ed=true->S ed.on=true) (hB:S e.i=false) (hd:rQ (iy ops.toList []) ops.toList ((l1++e::l2).map En.tr).reverse=true) (h1:∀q,q∈l1->q.i<e.i) (h2:∀q,q∈l2->e.i<q.i) (hD:Ip e.F (lS rg e.i) (bU e.u)=true) (hG:BE C R rg ops.toList (ng l1 st0) e) (hn:lD (ng l1 st0) e.kn) (hR:Rel C nt X φ (fZ S (l1++e::l2) st0) a w) {K:Act->World->Prop}  (hK:∀z w' φ',Comes C X φ φ' (fZ S (l1++e::l2) st0).obj e.u w w' e.v z->K (a.put e.op.dst z) w'):wpOp C.P ops Q e.i K a w:=by
 have⟨ag1,ag2⟩:=zpn hS ho hr hB hd h1 h2 st0;generalize fZ S (l1++e::l2) st0=st at*
 have hH:ops[e.i]?=some e.op:=by rw[<-ji];exact ho
 have G5:∀j want oj dj,e.op.guard=some (j,want)->ops.toList[j]?=some oj->oj.dst=some dj->dj∈N3 ops.toList e.op:=fun j want oj dj g1 g2 g3=>by
  unfold N3
  grind
 unfold wpOp;simp[hH];rcases hG with ⟨_,⟨j,want,oj,dj,g1,g2,g3,g4⟩,hv,hu,_⟩|⟨_,hw,hF,hA,hg,hf⟩
 ·have hz:=hR.env dj;rw[ag1 dj (G5 j want oj dj g1 g2 g3)] at hz;have hy:Region.wanted e.op (yielded ops a.tmps)=false:=by
   unfold Region.wanted;rw[g1];simp only;rcases g4 with ⟨b,hb,hI⟩|hJ
   ·rw[hn dj b hb] at hz;rw[qjd g2 g3 (uB hz)];cases b<;>cases want<;>first|rfl|exact absurd rfl hI
   ·rw[hJ] at hz;rw[qn4 g2 g3 hz];rfl
  rw[zj (by rw[hy];simp)];exact hK undef w φ (by rw[hu,hv];exact .same hR.toMRel rfl)
 ·have hy:Region.wanted e.op (yielded ops a.tmps)=true:=by
   unfold Region.wanted;rcases hw with hw|⟨j,want,oj,dj,g1,g2,g3,g4⟩
   ·rw[hw]
   ·have hz:=hR.env dj;rw[ag1 dj (G5 j want oj dj g1 g2 g3),hn dj want g4] at hz;rw[g1];simp only;rw[qjd g2 g3 (uB hz)];simp
  rw[zu hy];have lt:∀t,t∈lT e.op.op.operands.toList->st.env t=(ng l1 st0).env t:=fun t ht=>ag1 t (zN _ ht);have hq:e.op.op.operands.toList.map (cE C st.env)=e.op.op.operands.toList.map (cE C (ng l1 st0).env):=by
   apply List.map_congr_left;intro x hx;cases x with
   |tmp t=>
    have ht:t∈lT e.op.op.operands.toList:=by
     revert hx;generalize e.op.op.operands.toList=l;intro hx
     induction l with
     |nil=>cases hx
     |cons y r ih=>
      rcases zA.1 hx with h|h
      ·subst h;exact zg ..
      ·cases y<;>first|exact ih h|exact zf _ (ih h)
    show eI (st.env t)=eI ((ng l1 st0).env t);rw[lt t ht]
   |_=>rfl
  have hj:∀id,id∈e.F->st.obj id=(ng l1 st0).obj id:=fun id h=>ag2 id (.inl h);have eR:ij st.env e.kn (lT e.op.op.operands.toList)=ij (ng l1 st0).env e.kn (lT e.op.op.operands.toList):=funext fun t=>by
   unfold ij;cases hh:bF t (lT e.op.op.operands.toList) with
   |false=>rfl
   |true=>rw[lt t (cP.1 hh)]
  have oR:eP st.obj e.F=eP (ng l1 st0).obj e.F:=funext fun id=>by
   by_cases h:id∈e.F
   ·rw[oH h,oH h,hj id h]
   ·rw[xN h,xN h]
  cases hk:Et e.op.op with
  |true=>
   have hL:e.F=rm C st e.op:=by
    rw[hF];unfold rm;have one:∀x,x∈e.op.op.operands.toList->cE C st.env x=cE C (ng l1 st0).env x:=fun x hx=>by simp_all
    split
    ·rfl
    ·rfl
    ·rename_i x ex;rw[one x (by rw[ex];simp[Op.operands])]
    ·rename_i t x f ex;rw[one x (by rw[ex];simp[Op.operands])]
    ·rename_i h1 h2 h3 h4;exfalso;cases he:e.op.op<;>rw[he] at hk<;>simp only[Et] at hk<;>first|(cases hk;done)|exact h1 _ he|exact h2 _ he|exact h3 _ he|exact h4 _ _ _ he
   have hM:=qxp (fr:=lS rg e.i) hk (fun d b hs hb=>by rw[lt d hs];exact hn d b hb) hL (by rw[eR,oR];exact hg);have hN:nK (lS rg e.i) st.obj e.u:=fun p hp h3 h4=>by rw[ag2 p.1 (.inr (VU hp))];exact hf p hp h3 h4
   have hl:=zjd hC hE hR.toMRel (fun x=>hR.cE x) (HC _ _ _ _ hR.toMRel (lS rg e.i)) hM hN;exact .inl (hl.upon fun val w' φ' hc=>hK val w' φ' hc)
  |false=>
  rw[hk] at hA;rw[qur hk] at hF;refine .inl (qp3 hC hE HC hR ?_ ?_ ?_ (by rw[eR,oR];exact hg) ?_ ?_ hK)
  ·intro d b hs hb;rw[lt d hs];exact hn d b hb
  ·intro id hm;rw[hq] at hm;rw[hF];exact z6m _ _ _ _ hm
  ·rw[qkf e.F e.F (fun id h=>hj id h)];exact hA
  ·intro id hm hO;rw[ag2 id (.inr hm)];obtain⟨p,hp,rfl⟩:=z01 hm;rcases qq9 hD p.1 hm with h|⟨h3,h4⟩
   ·exact absurd h hO
   ·exact hf p hp h3 h4
  ·intro p hp h3 h4;by_cases h:p.1∈e.F
   ·rw[oH h,hj _ h];exact hf p hp h3 h4
   ·exact xN h
end
section
variable {C:Cx} {R:kX C.sigs} {nt:Nat}
theorem Rel.drawn{st:St}{a:Act}(h:Rel C nt X φ st a w):Rel C nt X φ st a {w with drawn:=w.drawn+1}:=by have hw:({w with drawn:=w.drawn+1}:World).heap=w.heap:=rfl;generalize ({w with drawn:=w.drawn+1}:World)=w' at hw;have hc:∀b,ag X φ st.obj w b->ag X φ st.obj w' b:=fun b hb=>⟨by rw[hw];exact hb.1,hb.2⟩;have keeps:∀x z,au φ st.obj (ag X φ st.obj w) w x z->au φ st.obj (ag X φ st.obj w') w' x z:=fun x z hx=>Bs hc (fun _ _=>by rw[hw]) (fun _=>Up.same fun _ n hr=>Ez (by rw[hw]) hr) x z hx;exact⟨⟨fun id=>Iw hc (fun _ _=>by rw[hw]) keeps rfl (fun _=>by rw[hw]) (h.ar id),h.inj,(fun i hi=>by rw[hw];exact h.sep i hi),(fun b hb=>by rw[hw];exact h.xs b hb),(fun id=>h.toMRel.lC id (fun _=>.same (by rw[hw])) (fun _ _=>by rw[hw])),fun g t x hg=>keeps _ _ (h.fT g t x hg),h.toMRel.rT (fun _ _=>by rw[hw])⟩,h.size,fun t=>keeps _ _ (h.env t),h.defers⟩
theorem qn9:∀(l1:List En) (i:Nat) (st:St) (e:En) (l2:List En),EJ C R rg all i st (l1++e::l2)->e.i=i+l1.length/\BE C R rg all (ng l1 st) e/\lD (ng l1 st) e.kn/\(∀q,q∈l1->q.i<i+l1.length)/\(∀q,q∈l2->i+l1.length<q.i)
 |[],i,st,e,l2,h=>by
  have⟨h1,h2,h3,_,h5⟩:=h;refine⟨h1,h2,h3,(fun q hq=>by cases hq),?_⟩;have key:∀(l:List En) (j:Nat) (s:St),EJ C R rg all j s l->∀q,q∈l->j<=q.i:=by
   intro l
   induction l with
   |nil=>intro _ _ _ q hq;cases hq
   |cons p l ih=>
    intro j s hr q hq;have⟨g1,_,_,_,g5⟩:=hr
    grind
  grind
 |p::l1,i,st,e,l2,h=>by
  have⟨h1,_,_,_,h5⟩:=h;have⟨g1,g2,g3,g4,g5⟩:=qn9 l1 (i+1) (p.app st) e l2 h5;simp only[zn];refine⟨by omega,g2,g3,fun q hq=>?_,fun q hq=>?_⟩
  all_goals grind
theorem qus:∀{l:List Tr},AG rg l=true->∀t,t∈l->N4 t.i t.op.after.toList=true/\Ip t.rd (lS rg t.i) t.wr=true
 |[],_,t,h=>by cases h
 |x::l,hk,t,h=>by
  simp[AG,Bool.and_eq_true] at hk;rcases zA.1 h with h|h
  ·subst h;exact hk.1
  ·exact qus hk.2 t h
theorem qut:∀{l:List Edge},N4 i l=true->∀e,e∈l->Region.binds .any e=true->e.on<i
 |[],_,e,h=>by cases h
 |x::l,hk,e,h=>by
  intro hb;simp[N4,Bool.and_eq_true,Bool.or_eq_true] at hk;rcases zA.1 h with h|h
  ·simp_all
  ·exact qut hk.2 e h hb
def mP(listed:Array Bool)(i:Nat):Bool:=listed.getD i false
theorem qna(hs:listed.size=ops.size):i∈Region.ready .any ops listed↔∃o,ops[i]?=some o/\mP listed i=false/\∀e,e∈o.after.toList->Region.binds .any e=true->mP listed e.on=true:=by
 unfold Region.ready;rw[List.mem_filter,List.mem_range,ze];constructor
 ·rintro⟨h1,h2,h3⟩;have ho:=ZL h1;refine⟨ops[i],ho,?_,?_⟩
  ·unfold mP
   grind
  ·rw[ho] at h3;simp only[ZT,JD] at h3;rw[<-Array.all_toList,ju] at h3;intro e he hb;have:=h3 e he;rw[hb] at this;simpa[mP] using this
 ·rintro⟨o,ho,h2,h3⟩;have h1:i<ops.size:=by grind
  refine⟨h1,?_,?_⟩
  ·unfold mP at h2
   grind
  ·rw[ho];simp only[ZT,JD];rw[<-Array.all_toList,ju];intro e he;cases hb:Region.binds .any e with
   |false=>rfl
   |true=>have:=h3 e he hb;simpa[mP] using this
theorem zjp{j:Nat}(hi:i<listed.size):mP (listed.setIfInBounds i true) j=(decide (i=j)||mP listed j):=by
 unfold mP;simp[Array.getD_eq_getD_getElem?,Array.getElem?_setIfInBounds]
 grind
def IU(listed:Array Bool):Nat:=listed.toList.countP (fun b=>!b)
theorem quu:∀(l:List Bool) (i:Nat),l[i]?=some false->(l.set i true).countP (fun b=>!b)+1=l.countP (fun b=>!b)
 |[],_,h=>by simp at h
 |b::l,0,h=>by grind
 |b::l,i+1,h=>by grind
theorem zjq(hi:i<listed.size)(h:mP listed i=false):IU (listed.setIfInBounds i true)+1=IU listed:=by
 unfold IU;rw[ZI];refine quu _ _ ?_;unfold mP at h
 simp_all
theorem z3e(h:IU listed=0)(hi:i<listed.size):mP listed i=true:=by unfold IU at h;rw[List.countP_eq_zero] at h;unfold mP;simp[Array.getD,hi];have:=h listed[i] (by simp);simpa using this
theorem z3f(hs:listed.size=ops.size)(hb:∀i o,ops[i]?=some o->∀e,e∈o.after.toList->Region.binds .any e=true->e.on<i)(h:Region.ready .any ops listed=[]):∀i,i<ops.size->mP listed i=true:=by
 intro i
 induction i using Nat.strongRecOn with
 |_ i ih=>
  intro hi;cases hl:mP listed i with
  |true=>rfl
  |false=>exfalso;have ho:=ZL hi;have:=(qna hs).2 ⟨_,ho,hl,fun e he hc=>by have:=hb i _ ho e he hc;exact ih _ this om⟩;rw[h] at this;cases this
end
theorem zmy{S:Nat->Bool}(hS:Down all S){l1 l2:List En}{e:En}(hf:S e.i=false)(hd:rQ (iy all []) all ((l1++e::l2).map En.tr).reverse=true):∀q,q∈l2->S q.i=true->(∀d,e.op.dst=some d->q.op.dst≠some d)/\∀id,id∈bU e.u->id∉bU q.u:=by
 have hc:=qrz (all:=all) all [] [] rfl rfl (fun i a h=>by simp at h);intro q hq he;have hp:Es (iy all []) all e.tr q.tr=true:=by
  obtain⟨m1,m2,rfl⟩:=Jr hq;refine Wh (m2.map En.tr).reverse ((l1++e::m1).map En.tr).reverse q.tr ?_ e.tr ?_
  all_goals grind
 unfold Es at hp;rw[jk] at hp;rcases hp with hp|hp
 ·have:=qje hS (hc _ _ hp) he;have this:S e.i=true:=this
  grind
 ·unfold Vt at hp;simp[Bool.and_eq_true] at hp;have⟨⟨⟨a1,_⟩,a3⟩,_⟩:=hp;refine⟨fun d hd hq=>?_,fun id h1 h2=>Qx a3 id h1 (zG _ h2)⟩;refine qg9 a1 d hd (zG _ ?_);have hq:q.tr.op.dst=some d:=hq;rw[hq];exact zg ..
section
variable {C:Cx} {R:kX C.sigs} {nt:Nat} {fi:Nat→Addr} {o0:Nat→Obj} {w0:World} {sk:List Nat}
theorem zci(hC:cS C)(hE:nW C)(HC:∀X φ o w,MRel C X φ o w->∀fr f,EE C R X φ o w fr f){st0:St}{es:List En}(hz:es.map (·.op)=ops.toList)(ht:EJ C R rg ops.toList 0 st0 es)(hd:rQ (iy ops.toList []) ops.toList (es.map En.tr).reverse=true)(hk:AG rg (es.map En.tr).reverse=true)(hv:wB nt ops.toList=true)(fin:Sound C nt X (HJ sk fi o0 w0) (ng es st0) (Q .normal)):∀(fuel:Nat) (listed:Array Bool) (X':Nat->Prop) (φ:Nat->Addr) (a:Act) (w:World),listed.size=ops.size->IU listed<=fuel->Down ops.toList (mP listed)->(∀b,X b->X' b)->Rel C nt X' φ (fZ (mP listed) es st0) a w->eU sk fi o0 w0 φ (fZ (mP listed) es st0).obj w->wpAny C.P .any ops Q fuel listed a w:=by
 have hw:es.length=ops.size:=by rw[<-zI (f:=(·.op)),hz,jA]
 have split:∀i,i<es.length->∃l1 e l2,es=l1++e::l2/\l1.length=i/\e.i=i/\ops.toList[i]?=some e.op/\BE C R rg ops.toList (ng l1 st0) e/\lD (ng l1 st0) e.kn/\(∀q,q∈l1->q.i<i)/\(∀q,q∈l2->i<q.i):=by
  intro i hi;refine⟨es.take i,es[i],es.drop (i+1),?_,?_,?_⟩
  ·simp_all
  ·grind
  ·have e1:es=es.take i++es[i]::es.drop (i+1):=by rw[<-Zg hi,jH]
   have hr:=ht;rw[e1] at hr;have⟨g1,g2,g3,g4,g5⟩:=qn9 _ _ _ _ _ hr;have e2:(es.take i).length=i:=by rw[jv];omega
   refine⟨by omega,?_,g2,g3,fun q hq=>by have:=g4 q hq;omega,fun q hq=>by have:=g5 q hq;omega⟩;rw[<-hz,jZ,zh hi];rfl
 have trs:∀e,e∈es->N4 e.i e.op.after.toList=true/\Ip e.F (lS rg e.i) (bU e.u)=true:=fun e he=>qus hk e.tr (List.mem_reverse.2 (Zp he));have back:∀i o,ops[i]?=some o->∀e,e∈o.after.toList->Region.binds .any e=true->e.on<i:=by
  intro i o ho ed he hb;have hi:i<es.length:=by
   rw[hw];rcases Nat.lt_or_ge i ops.size with h|h
   ·exact h
   ·rw[ZY h] at ho;cases ho
  have⟨l1,e,l2,h1,_,h2,h3,_⟩:=split i hi;rw[ji,ho] at h3;injection h3 with h3;have:=(trs e (by rw[h1];exact zG _ (zg ..))).1;rw[h2] at this;exact qut this ed (by rw[<-h3];exact he) hb
 have ilt:∀q,q∈es->q.i<ops.size:=by
  intro q hq;obtain⟨i,hi,rfl⟩:=List.mem_iff_getElem.1 hq
  grind
 have done:∀(listed:Array Bool) X' φ a w,listed.size=ops.size->(∀b,X b->X' b)->Rel C nt X' φ (fZ (mP listed) es st0) a w->eU sk fi o0 w0 φ (fZ (mP listed) es st0).obj w->Region.ready .any ops listed=[]->Q .normal a w:=by intro listed X' φ a w hs hX hR hJ hr;have hx:=z3f hs back hr;rw[qxo es st0 fun q hq=>hx _ (ilt q hq)] at hR hJ;exact fin X' φ a w hX hR hJ
 intro fuel
 induction fuel with
 |zero=>
  intro listed X' φ a w hs hu hD hX hR hJ;have hr:Region.ready .any ops listed=[]:=by
   rw[List.eq_nil_iff_forall_not_mem];intro i hi;have⟨o,ho,hl,_⟩:=(qna hs).1 hi;have:i<listed.size:=by
    rcases Nat.lt_or_ge i listed.size with h|h
    ·exact h
    ·rw[ZY om] at ho;cases ho
   rw[z3e om this] at hl;cases hl
  exact⟨hr,done listed X' φ a w hs hX hR hJ hr⟩
 |succ fuel ih=>
  intro listed X' φ a w hs hu hD hX hR hJ;refine⟨done listed X' φ a w hs hX hR hJ,fun i hi=>?_⟩;have⟨o,ho,hl,hf⟩:=(qna hs).1 hi;have hG:i<ops.size:=by
   rcases Nat.lt_or_ge i ops.size with h|h
   ·exact h
   ·rw[ZY h] at ho;cases ho
  have⟨l1,e,l2,h1,_,h2,h3,h4,h5,h6,h7⟩:=split i om;have hA:o=e.op:=by rw[ji,ho] at h3;injection h3
  subst h2 hA;have hy:e∈es:=by rw[h1];exact zG _ (zg ..)
  have hB:=(trs e hy).2;have hF:=qq3 hv e.op (zH h3);subst h1;refine z6o hC hE HC (l1:=l1) (l2:=l2) (st0:=st0) h3 hD hf hl hd h6 h7 hB h4 h5 hR fun z w' φ' hc=>?_;have hg:∀j,mP (listed.setIfInBounds e.i true) j=(decide (e.i=j)||mP listed j):=fun j=>zjp om;have hn:fZ (mP (listed.setIfInBounds e.i true)) (l1++e::l2) st0=e.app (fZ (mP listed) (l1++e::l2) st0):=by
   refine zcf st0 (fun q hq=>?_) (fun q hq=>?_) hl (by rw[hg];simp) (zmy hD hl hd)
   ·have:=h6 q hq;rw[hg,zt om,Zn]
   ·have:=h7 q hq;rw[hg,zt om,Zn]
  refine ih _ X' φ' _ w' (by simp_all) ?_ ?_ hX ?_ ?_
  ·have:=zjq (listed:=listed) (i:=e.i) om hl;omega
  ·intro j oj hj hm ed he hb;rw[hg] at hm ⊢;rw[jk] at hm ⊢;right;rcases hm with hm|hm
   ·have hm:=zZ hm;subst hm;rw[h3] at hj;cases hj;exact hf ed he hb
   ·exact hD j oj hj hm ed he hb
  ·rw[hn];exact hR.step hF hc
  ·rw[hn,G4];exact hJ.step hc
theorem zjr(hC:cS C)(hE:nW C)(hL:qxl C)(hm:C.P.follows .mixedOrders=true):z6f C:=by
 intro R hR nt sk fi o0 w0 rg ops n γ δ X Q wr st k y h hc hk X' φ a w hX he hJ;have⟨es,h1,h2,h3,h4⟩:=zjn n 0 ops.toList st [] [] h (fun d b hd=>by cases hd);rw[zv,ze] at h3;refine wp_region_any hm ?_;have hg:∀i,mP (Array.replicate ops.size false) i=false:=fun i=>by unfold mP;rw[jI,Array.getElem?_replicate];split<;>rfl
 have hf:=qs0 es st fun q _=>hg _;refine zci hC hE (hL R hR) h1 h2 h3.1 h3.2 hc (hk _ h4) ops.size _ X' φ a _ (by simp) ?_ ?_ hX ?_ ?_
 ·unfold IU;exact je List.countP_le_length (by simp)
 ·intro i o _ hs
  grind
 ·rw[hf];exact he.drawn
 ·rw[hf];exact⟨hJ.size,hJ.frame,hJ.news,hJ.still,hJ.up⟩
end
end Ev