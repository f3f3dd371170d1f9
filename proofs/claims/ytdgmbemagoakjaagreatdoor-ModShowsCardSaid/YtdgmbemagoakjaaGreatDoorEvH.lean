/- Regions that draw their order are sound. -/
import Derived.Test.YtdgmbemagoakjaaGreatDoorEvG
set_option linter.defProp false
namespace Ev
open Go
structure En where
 i:Nat
 op:Oper
 sk:Bool
 kn:List (Nat×Bool)
 F:List Nat
 v:V
 u:List (Nat×Obj)
def En.app(e:En)(st:St):St:=bK {st with obj:=aq st.obj e.u} e.op.dst e.v
def fc(S:Nat->Bool):List En->St->St
 |[],st=>st
 |e::r,st=>fc S r (bif S e.i then e.app st else st)
def St.ext'{a b:St}(h1:∀t,a.env t=b.env t)(h2:∀id,a.obj id=b.obj id):a=b:=by
 obtain⟨e,o⟩:=a;obtain⟨e',o'⟩:=b;have:e=e':=funext h1;have:o=o':=funext h2
 subst_vars;rfl
def KI(e:En)(st:St):(e.app st).obj=aq st.obj e.u:=by unfold En.app bK;cases e.op.dst<;>rfl
def Cf(e:En)(st:St)(t:Nat):(e.op.dst=some t/\(e.app st).env t=e.v)\/(e.op.dst≠some t/\(e.app st).env t=st.env t):=by
 unfold En.app bK;cases h:e.op.dst with
 |none=>exact .inr ⟨by simp,rfl⟩
 |some d=>
  by_cases ht:t=d
  ·subst ht;exact .inl ⟨rfl,eQ⟩
  ·exact .inr ⟨fun e=>ht (by injection e with e;exact e.symm),jI ht⟩
def zbw{e e':En}(hd:∀d,e.op.dst=some d->e'.op.dst≠some d)(hk:∀id,id∈bW e.u->id∉bW e'.u)(st:St):e'.app (e.app st)=e.app (e'.app st):=by
 apply St.ext'
 ·intro t;rcases Cf e' (e.app st) t with ⟨h1,h2⟩|⟨h1,h2⟩
  ·rw[h2];rcases Cf e (e'.app st) t with ⟨h3,h4⟩|⟨h3,h4⟩
   ·grind
   ·rw[h4];rcases Cf e' st t with ⟨_,h6⟩|⟨h5,_⟩
    all_goals grind
  ·rw[h2];rcases Cf e (e'.app st) t with ⟨h3,h4⟩|⟨h3,h4⟩
   ·rw[h4];rcases Cf e st t with ⟨_,h6⟩|⟨h5,_⟩
    all_goals grind
   ·rw[h4];rcases Cf e st t with ⟨h5,_⟩|⟨_,h6⟩
    ·exact absurd h5 h3
    ·rw[h6];rcases Cf e' st t with ⟨h7,_⟩|⟨_,h8⟩
     all_goals grind
 ·intro id;rw[KI,KI,KI,KI];by_cases h1:id∈bW e.u
  ·rw[iU (hk id h1),SB (o':=aq st.obj e'.u) h1]
  ·rw[iU (u:=e.u) (o:=aq st.obj e'.u) h1];by_cases h2:id∈bW e'.u
   ·exact SB h2
   ·rw[iU h2,iU h2,iU h1]
def XF(S:Nat->Bool):∀(l m:List En) (st:St),fc S (l++m) st=fc S m (fc S l st)
 |[],_,_=>rfl
 |_::l,m,_=>XF S l m _
def qom{S S':Nat->Bool}:∀(l:List En) (st:St),(∀e,e∈l->S e.i=S' e.i)->fc S l st=fc S' l st
 |[],_,_=>rfl
 |e::l,st,h=>by show fc S l (bif S e.i then e.app st else st)=fc S' l (bif S' e.i then e.app st else st);rw[h e (zg ..)];exact qom l _ fun q hq=>h q (zh _ hq)
def z0i{S:Nat->Bool}{e:En}:∀(l:List En) (st:St),(∀q,q∈l->S q.i=true->(∀d,e.op.dst=some d->q.op.dst≠some d)/\∀id,id∈bW e.u->id∉bW q.u)->fc S l (e.app st)=e.app (fc S l st)
 |[],_,_=>rfl
 |q::l,st,h=>by
  show fc S l (bif S q.i then q.app (e.app st) else e.app st)=e.app (fc S l (bif S q.i then q.app st else st));have ih:=fun st=>z0i (S:=S) (e:=e) l st fun p hp=>h p (zh _ hp);cases hs:S q.i with
  |true=>obtain⟨h1,h2⟩:=h q (zg ..) hs;show fc S l (q.app (e.app st))=e.app (fc S l (q.app st));rw[zbw h1 h2,ih]
  |false=>exact ih st
def zbx{S S':Nat->Bool}{e:En}{l m:List En}(st:St)(hl:∀q,q∈l->S q.i=S' q.i)(hm:∀q,q∈m->S q.i=S' q.i)(h1:S e.i=false)(h2:S' e.i=true)(hp:∀q,q∈m->S q.i=true->(∀d,e.op.dst=some d->q.op.dst≠some d)/\∀id,id∈bW e.u->id∉bW q.u):fc S' (l++e::m) st=e.app (fc S (l++e::m) st):=by rw[XF,XF];show fc S' m (bif S' e.i then e.app (fc S' l st) else fc S' l st)=e.app (fc S m (bif S e.i then e.app (fc S l st) else fc S l st));rw[h1,h2,<-qom l st hl];show fc S' m (e.app (fc S l st))=e.app (fc S m (fc S l st));rw[<-qom m _ hm];exact z0i m _ hp
section
variable {C:Cx} {R:jU C.sigs}
def En.tr(e:En):Tr:=⟨e.i,e.op,e.F,bW e.u⟩
def kF(st:St)(kn:List (Nat×Bool)):Prop:=∀d b,vQ d kn=some b->st.env d=.d .bool b
def zel(all:List Oper)(st:St)(e:En):Prop:=∃j want oj dj,e.op.guard=some (j,want)/\all[j]?=some oj/\oj.dst=some dj/\((∃b,vQ dj e.kn=some b/\b≠want)\/st.env dj=.undef)
def zem(all:List Oper)(e:En):Prop:=e.op.guard=none\/∃j want oj dj,e.op.guard=some (j,want)/\all[j]?=some oj/\oj.dst=some dj/\vQ dj e.kn=some want
def Cg(C:Cx)(R:jU C.sigs)(rg:Nat)(all:List Oper)(st:St)(e:En):Prop:=
 (e.sk=true/\zel all st e/\e.v=.undef/\e.u=[]/\e.F=[])\/
 (e.sk=false/\zem all e/\e.F=rI C st e.op/\(Gj e.op.op||B4 st.obj e.F e.F)=true/\
  (cZ lf C R (gB st.env e.kn (kV e.op.op.operands.toList)) (dR st.obj e.F) (kU rg e.i) e.op.type e.op.op).aN e.v e.u/\mU (kU rg e.i) st.obj e.u)
def Gz(C:Cx)(R:jU C.sigs)(rg:Nat)(all:List Oper):Nat->St->List En->Prop
 |_,_,[]=>True
 |i,st,e::r=>e.i=i/\Cg C R rg all st e/\kF st e.kn/\R2 e.op.dst e.kn=true/\Gz C R rg all (i+1) (e.app st) r
def mz:List En->St->St
 |[],st=>st
 |e::r,st=>mz r (e.app st)
def zby{e:En}{st:St}{kn:List (Nat×Bool)}(h:kF st kn)(hn:R2 e.op.dst kn=true):kF (e.app st) kn:=by
 intro d b hd;rcases Cf e st d with ⟨h1,_⟩|⟨_,h2⟩
 ·exfalso;rw[h1] at hn;unfold R2 at hn
  grind
 ·rw[h2];exact h d b hd
def z3d{env:Nat->V}{o:Nat->Obj}{fr:Nat}{ty:TypeId}{t:Nat}{y:Bool}(he:env t=.lb y){v:V}{u:List (Nat×Obj)}(h:(cZ lf C R env o fr ty (.move (.tmp t))).aN v u):v=.d .bool y:=by
 have hv:cG C env (.tmp t)=.d .bool y:=by show dO (env t)=_;rw[he];rfl
 simp only[cZ,hv,RW] at h
 simp_all
def z3e{env:Nat->V}{o:Nat->Obj}{fr:Nat}{ty:TypeId}{t:Nat}{q z:Bool}{a b:Operand}(he:env t=.lb q)(hz:(bif q then a else b)=.const (.bool z)){v:V}{u:List (Nat×Obj)}(h:(cZ lf C R env o fr ty (.pick (.tmp t) a b)).aN v u):v=.d .bool z:=by
 have hv:Ge C env (.tmp t)=.lb q:=he;simp only[cZ,hv] at h;rw[dW] at h;rw[<-h.1];cases q with
 |true=>rw[cond_true] at hz ⊢;rw[hz];rfl
 |false=>rw[cond_false] at hz ⊢;rw[hz];rfl
def qr2{env:Nat->V}{kn:List (Nat×Bool)}{ts:List Nat}{t:Nat}{b:Bool}(ht:bQ t ts=true)(hk:vQ t kn=some b):gB env kn ts t=.lb b:=by unfold gB;rw[ht,cond_true,hk]
def qv5{st:St}{kn:List (Nat×Bool)}{d:Nat}{z:Bool}(h:kF st kn)(hd:st.env d=.d .bool z):kF st ((d,z)::kn):=by
 intro t b ht;simp only[vQ] at ht;cases hq:Nat.beq d t with
 |true=>simp_all
 |false=>rw[hq,cond_false] at ht;exact h t b ht
def qv6(t:Nat)(l:List Nat):bQ t (t::l)=true:=by simp[bQ]
def zbz{st:St}{kn:List (Nat×Bool)}{o:Oper}{ob:Nat->Obj}{ob':Nat->Obj}{fr:Nat}{v:V}{u:List (Nat×Obj)}(hg:(cZ lf C R (gB st.env kn (kV o.op.operands.toList)) ob fr o.type o.op).aN v u)(h:kF (bK {st with obj:=ob'} o.dst v) kn):kF (bK {st with obj:=ob'} o.dst v) (LN o kn):=by
 unfold LN;split
 ·exact h
 ·rename_i d hd;have hc:(bK {st with obj:=ob'} o.dst v).env d=v:=by rw[hd];simp[bK,cy]
  split
  ·rename_i t ho;split
   ·rename_i y hy;rw[ho] at hg;have:=z3d (qr2 (by simpa[Op.operands,kV] using qv6 t []) hy) hg;exact qv5 h (by rw[hc,this])
   ·exact h
  ·rename_i c x y ho;split
   ·rename_i q hq;split
    ·rename_i z hz;rw[ho] at hg;have:=z3e (qr2 (by simpa[Op.operands,kV] using qv6 c _) hq) hz hg;exact qv5 h (by rw[hc,this])
    ·exact h
   ·exact h
  ·exact h
def zgc{rg:Nat}{all:List Oper}{γ δ:Type}{w:γ->δ}{k:(γ->δ)->St->Option δ}{y:δ}:∀(n i:Nat) (r:List Oper) (st:St) (kn:List (Nat×Bool)) (tr:List Tr),vR lf C R rg all n w i r st kn tr k=some y->kF st kn->∃es,es.map (·.op)=r/\Gz C R rg all i st es/\(rW (gV all []) all ((es.map En.tr).reverse++tr)&&Bz rg ((es.map En.tr).reverse++tr))=true/\k w (mz es st)=some y:=by
 intro n
 induction n with
 |zero=>intro i r st kn tr h;cases h
 |succ n ih=>
  intro i r st kn tr h hf;cases r with
  |nil=>
   have h:(bif rW (gV all []) all tr&&Bz rg tr then k w st else none)=some y:=h;cases hd:(rW (gV all []) all tr&&Bz rg tr) with
   |false=>rw[hd] at h;cases h
   |true=>rw[hd] at h;exact⟨[],rfl,trivial,hd,h⟩
  |cons o r=>
   unfold vR at h;simp only at h;cases he:R2 o.dst kn with
   |false=>rw[he] at h;cases h
   |true=>
    rw[he,cond_true] at h;have more:∀(e:En),e.i=i->e.op=o->e.kn=kn->Cg C R rg all st e->∀Q4,(kF (e.app st) kn->kF (e.app st) Q4)->vR lf C R rg all n w (i+1) r (e.app st) Q4 (e.tr::tr) k=some y->
      ∃es,es.map (·.op)=o::r/\Gz C R rg all i st es/\(rW (gV all []) all ((es.map En.tr).reverse++tr)&&Bz rg ((es.map En.tr).reverse++tr))=true/\k w (mz es st)=some y:=by
     intro e h1 h2 h3 h4 Q4 h6 h5;obtain⟨es,g1,g2,g3,g4⟩:=ih _ _ _ _ _ h5 (h6 (zby hf (by rw[h2];exact he)));exact⟨e::es,by rw[zN,g1,h2],⟨h1,h4,by rw[h3];exact hf,by rw[h2,h3];exact he,g2⟩,by rw[zN,List.reverse_cons,zm];exact g3,g4⟩
    have run:(∀e:En,e.op=o->e.kn=kn->zem all e)->(bif Gj o.op||B4 st.obj (rI C st o) (rI C st o) then(match cZ lf C R (gB st.env kn (kV o.op.operands.toList)) (dR st.obj (rI C st o)) (kU rg i) o.type o.op with
      |.fail=>none
      |.mW v u=>pB v fun v=>vP (kU rg i) st.obj u fun o'=>vR lf C R rg all n w (i+1) r (bK {st with obj:=o'} o.dst v) (LN o kn) (⟨i,o,rI C st o,bW u⟩::tr) k
      |.dyn _ x out=>lf.b x fun y=>pB (out y).1 fun v=>vP (kU rg i) st.obj (out y).2 fun o'=>vR lf C R rg all n w (i+1) r (bK {st with obj:=o'} o.dst v) (LN o kn) (⟨i,o,rI C st o,bW (out y).2⟩::tr) k) else none)=some y->
      ∃es,es.map (·.op)=o::r/\Gz C R rg all i st es/\(rW (gV all []) all ((es.map En.tr).reverse++tr)&&Bz rg ((es.map En.tr).reverse++tr))=true/\k w (mz es st)=some y:=by
     intro hw h;cases hc:(Gj o.op||B4 st.obj (rI C st o) (rI C st o)) with
     |false=>rw[hc] at h;cases h
     |true=>
      rw[hc,cond_true] at h;have go:∀v u,(cZ lf C R (gB st.env kn (kV o.op.operands.toList)) (dR st.obj (rI C st o)) (kU rg i) o.type o.op).aN v u->
        (pB v fun v=>vP (kU rg i) st.obj u fun o'=>vR lf C R rg all n w (i+1) r (bK {st with obj:=o'} o.dst v) (LN o kn) (⟨i,o,rI C st o,bW u⟩::tr) k)=some y->
        ∃es,es.map (·.op)=o::r/\Gz C R rg all i st es/\(rW (gV all []) all ((es.map En.tr).reverse++tr)&&Bz rg ((es.map En.tr).reverse++tr))=true/\k w (mz es st)=some y:=by
       intro v u hg h;rw[z6v] at h;obtain⟨h1,h2⟩:=qsj _ _ _ _ h;exact more ⟨i,o,false,kn,rI C st o,v,u⟩ rfl rfl rfl (.inr ⟨rfl,hw _ rfl rfl,rfl,hc,hg,h2⟩) _ (zbz hg) h1
      generalize hp:cZ lf C R (gB st.env kn (kV o.op.operands.toList)) (dR st.obj (rI C st o)) (kU rg i) o.type o.op=pk at h go;cases pk with
      |fail=>cases h
      |mW v u=>exact go v u ⟨rfl,rfl⟩ h
      |dyn α x out=>obtain⟨q,h1,h2⟩:=FG (x:=x) h;exact go (out q).1 (out q).2 ⟨q,h1,rfl⟩ h2
    have skip:(∀e:En,e.op=o->e.kn=kn->zel all st e)->vR lf C R rg all n w (i+1) r (bK st o.dst .undef) kn (⟨i,o,[],[]⟩::tr) k=some y->
      ∃es,es.map (·.op)=o::r/\Gz C R rg all i st es/\(rW (gV all []) all ((es.map En.tr).reverse++tr)&&Bz rg ((es.map En.tr).reverse++tr))=true/\k w (mz es st)=some y:=fun hs h=>
     more ⟨i,o,true,kn,[],.undef,[]⟩ rfl rfl rfl (.inl ⟨rfl,hs _ rfl rfl,rfl,rfl,rfl⟩) kn (fun h=>h) h
    split at h
    ·rename_i hg;exact run (fun e h1 _=>.inl (by rw[h1];exact hg)) h
    ·rename_i j want hg;split at h
     ·rename_i oj hj;split at h
      ·rename_i dj hk;split at h
       ·rename_i b hb;cases hc:(bif want then b else !b) with
        |true=>
         rw[hc] at h;have:b=want:=by cases b<;>cases want<;>first|rfl|cases hc
         subst this;exact run (fun e h1 h2=>.inr ⟨j,b,oj,dj,by rw[h1];exact hg,hj,hk,by rw[h2];exact hb⟩) h
        |false=>
         rw[hc] at h;have:b≠want:=by cases b<;>cases want<;>first|(intro h;cases h;done)|cases hc
         exact skip (fun e h1 h2=>⟨j,want,oj,dj,by rw[h1];exact hg,hj,hk,.inl ⟨b,by rw[h2];exact hb,this⟩⟩) h
       ·split at h
        ·rename_i hu;exact skip (fun e h1 h2=>⟨j,want,oj,dj,by rw[h1];exact hg,hj,hk,.inr hu⟩) h
        ·rename_i x hx;have Q4:∀b,x=b->kF st ((dj,b)::kn):=by
          intro b e d b' hd;simp only[vQ] at hd;cases hq:Nat.beq dj d with
          |true=>simp_all
          |false=>rw[hq,cond_false] at hd;exact hf d b' hd
         cases x with
         |true=>exact ih i (o::r) st _ tr h (Q4 true rfl)
         |false=>exact ih i (o::r) st _ tr h (Q4 false rfl)
        ·cases h
      ·cases h
     ·cases h
end
inductive FM (all:List Oper):Nat->Nat->Prop where
 |Mh {i:Nat} {o:Oper} {e:Edge} (h1:all[i]?=some o) (h2:e∈o.after.toList) (h3:Region.binds .any e=true):FM all i e.on
 |trans {i a:Nat} {o:Oper} {e:Edge} (h1:all[i]?=some o) (h2:e∈o.after.toList) (h3:Region.binds .any e=true) (h4:FM all e.on a):FM all i a
def qy3{t a:Nat}(h:Nat.testBit (bit t) a=true):a=t:=by
 unfold bit at h;rw[Nat.testBit_shiftLeft,ze] at h;obtain⟨h1,h2⟩:=h;have h1:t<=a:=by simpa using h1
 have:a-t=0:=zA fun hn=>by
  obtain⟨m,hm⟩:∃m,a-t=m+1:=⟨a-t-1,by omega⟩
  grind
 omega
def z0j{all:List Oper}{acc:List Nat}(hc:∀i a,Nat.testBit (acc.getD i 0) a=true->FM all i a){i:Nat}{o:Oper}(ho:all[i]?=some o):∀(l:List Edge) (s:Nat),(∀e,e∈l->e∈o.after.toList)->(∀a,Nat.testBit s a=true->FM all i a)->∀a,Nat.testBit (l.foldl (fun s e=>bif Region.binds .any e then s|||bit e.on|||acc.getD e.on 0 else s) s) a=true->FM all i a
 |[],s,_,hs,a,h=>hs a h
 |e::l,s,hl,hs,a,h=>by
  refine z0j hc ho l _ (fun q hq=>hl q (zh _ hq)) ?_ a h;intro a ha;replace ha:Nat.testBit (bif Region.binds .any e then s|||bit e.on|||acc.getD e.on 0 else s) a=true:=ha;cases hb:Region.binds .any e with
  |false=>rw[hb,cond_false] at ha;exact hs a ha
  |true=>
   rw[hb,cond_true,Nat.testBit_or,Nat.testBit_or,Bool.or_eq_true,Bool.or_eq_true] at ha;rcases ha with (ha|ha)|ha
   ·exact hs a ha
   ·rw[qy3 ha];exact .Mh ho (hl e (zg ..)) hb
   ·exact .trans ho (hl e (zg ..)) hb (hc _ _ ha)
def qsn{all:List Oper}:∀(r pre:List Oper) (acc:List Nat),all=pre++r->acc.length=pre.length->(∀i a,Nat.testBit (acc.getD i 0) a=true->FM all i a)->∀i a,Nat.testBit ((gV r acc).getD i 0) a=true->FM all i a
 |[],pre,acc,_,_,hc=>hc
 |o::r,pre,acc,he,hf,hc=>by
  refine qsn r (pre++[o]) _ (by rw[he];simp) (by simp[hf]) ?_;have ho:all[pre.length]?=some o:=by rw[he];simp
  intro i a h;by_cases hi:i<acc.length
  ·grind
  ·by_cases hg:i=acc.length
   ·rw[List.getD_eq_getElem?_getD,zO om,hg,Nat.sub_self] at h;rw[hg,hf];exact z0j hc ho o.after.toList 0 (fun _ h=>h) (fun a h=>by simp at h) a h
   grind
def qlc{all:List Oper}{S:Nat->Bool}(hS:∀i o,all[i]?=some o->S i=true->∀e,e∈o.after.toList->Region.binds .any e=true->S e.on=true){i a:Nat}(h:FM all i a):S i=true->S a=true:=by
 induction h with
 |Mh h1 h2 h3=>exact fun hi=>hS _ _ h1 hi _ h2 h3
 |trans h1 h2 h3 _ ih=>exact fun hi=>ih (hS _ _ h1 hi _ h2 h3)
def z7a{all:List Oper}{S:Nat->Bool}(hS:∀i o,all[i]?=some o->S i=true->∀e,e∈o.after.toList->Region.binds .any e=true->S e.on=true){i a:Nat}{o:Oper}(ho:all[i]?=some o)(hr:∀e,e∈o.after.toList->Region.binds .any e=true->S e.on=true)(h:FM all i a):S a=true:=by
 cases h with
 |Mh h1 h2 h3=>rw[ho] at h1;injection h1 with h1;subst h1;exact hr _ h2 h3
 |trans h1 h2 h3 h4=>rw[ho] at h1;injection h1 with h1;subst h1;exact qlc hS h4 (hr _ h2 h3)
def qv7{d:Nat}:∀{l:List Nat},Fu d l=true->d∉l
 |[],_=>by simp
 |b::r,h=>by
  simp only[Fu] at h;cases hb:Nat.beq b d with
  |true=>rw[hb] at h;cases h
  |false=>
   rw[hb] at h;have hr:=qv7 h;intro hm
   simp_all
def z7b{S S':Nat->Bool}{t:Nat}:∀(es:List En) (st bV:St),st.env t=bV.env t->(∀q,q∈es->S q.i≠S' q.i->q.op.dst≠some t)->(fc S es st).env t=(fc S' es bV).env t
 |[],_,_,h,_=>h
 |q::es,st,bV,h,hq=>by
  have hr:=fun p hp=>hq p (zh q hp);show(fc S es (bif S q.i then q.app st else st)).env t=(fc S' es (bif S' q.i then q.app bV else bV)).env t;refine z7b es _ _ ?_ hr;by_cases e:S q.i=S' q.i
  ·rw[e];cases S' q.i with
   |false=>exact h
   |true=>
    show(q.app st).env t=(q.app bV).env t;rcases Cf q st t with ⟨h1,h2⟩|⟨h1,h2⟩<;>rcases Cf q bV t with ⟨h3,h4⟩|⟨h3,h4⟩
    all_goals grind
  ·have hd:=hq q (zg ..) e;have one:∀(b:Bool) (s:St),(bif b then q.app s else s).env t=s.env t:=by
    intro b s;cases b with
    |false=>rfl
    |true=>
     rcases Cf q s t with ⟨h1,_⟩|⟨_,h2⟩
     all_goals grind
   rw[one,one,h]
def z7c{S S':Nat->Bool}{id:Nat}:∀(es:List En) (st bV:St),st.obj id=bV.obj id->(∀q,q∈es->S q.i≠S' q.i->id∉bW q.u)->(fc S es st).obj id=(fc S' es bV).obj id
 |[],_,_,h,_=>h
 |q::es,st,bV,h,hq=>by
  have hr:=fun p hp=>hq p (zh q hp);show(fc S es (bif S q.i then q.app st else st)).obj id=(fc S' es (bif S' q.i then q.app bV else bV)).obj id;refine z7c es _ _ ?_ hr;have aai:∀s s':St,s.obj id=s'.obj id->(q.app s).obj id=(q.app s').obj id:=by
   intro s s' hs;rw[KI,KI];by_cases hk:id∈bW q.u
   ·exact SB hk
   ·rw[iU hk,iU hk,hs]
  by_cases e:S q.i=S' q.i
  ·rw[e];cases S' q.i with
   |false=>exact h
   |true=>exact aai st bV h
  ·have hd:=hq q (zg ..) e;have one:∀(b:Bool) (s:St),(bif b then q.app s else s).obj id=s.obj id:=by
    intro b s;cases b with
    |false=>rfl
    |true=>show(q.app s).obj id=s.obj id;rw[KI,iU hd]
   rw[one,one,h]
def SX{a b:List Nat}(h:Gh a b=true):∀x,x∈a->x∉b:=by intro x hx hb;unfold Gh at h;have:=zL.1 h x hx;rw[cP.2 hb] at this;cases this
def qi5{d:Option Nat}{l:List Nat}(h:z5t d l=true):∀t,d=some t->t∉l:=by rintro t rfl;exact qv7 h
def qy4{yN:List Nat}{all:List Oper}{b:Tr}{r:List Tr}:WW yN all b r=true->∀a,a∈r->Gi yN all a b=true:=by
 induction r with
 |nil=>intro _ a ha;cases ha
 |cons x r ih=>
  intro h a ha;simp only[WW,ze] at h
  grind
def XG{yN:List Nat}{all:List Oper}:∀(l1 l2:List Tr) (b:Tr),rW yN all (l1++b::l2)=true->∀a,a∈l2->Gi yN all a b=true
 |[],l2,b,h=>by simp only[List.nil_append,rW,ze] at h;exact qy4 h.1
 |x::l1,l2,b,h=>by simp only[List.cons_append,rW,ze] at h;exact XG l1 l2 b h.2
def Down(all:List Oper)(S:Nat->Bool):Prop:=∀i o,all[i]?=some o->S i=true->∀e,e∈o.after.toList->Region.binds .any e=true->S e.on=true
def zgd{all:List Oper}{S:Nat->Bool}(hS:Down all S){l1 l2:List En}{e:En}{o:Oper}(ho:all[e.i]?=some o)(hr:∀ed,ed∈o.after.toList->Region.binds .any ed=true->S ed.on=true)(hk:S e.i=false)(hd:rW (gV all []) all ((l1++e::l2).map En.tr).reverse=true)(h1:∀q,q∈l1->q.i<e.i)(h2:∀q,q∈l2->e.i<q.i):∀q,q∈l1++e::l2->S q.i≠decide (q.i<e.i)->(∀t,q.op.dst=some t->t∉QD all e.op)/\(∀id,id∈bW q.u->id∉e.F/\id∉bW e.u):=by
 have hc:=qsn (all:=all) all [] [] rfl rfl (fun i a h=>by simp at h);intro q hq hf;rcases zH.1 hq with hq|hq
 ·
  have hg:=h1 q hq;have hj:S q.i=false:=by
   cases hs:S q.i with
   |false=>rfl
   |true=>rw[hs] at hf;simp[hg] at hf
  have hp:Gi (gV all []) all q.tr e.tr=true:=by
   refine XG (l2.map En.tr).reverse (l1.map En.tr).reverse e.tr ?_ q.tr ?_
   all_goals grind
  unfold Gi at hp;rw[Bool.or_eq_true] at hp;rcases hp with hp|hp
  ·have:=z7a hS ho hr (hc _ _ hp);have this:S q.i=true:=this
   grind
  ·unfold WV at hp;simp only[ze] at hp;obtain⟨⟨⟨a1,_⟩,a3⟩,_⟩:=hp;exact⟨fun t ht hm=>qi5 a1 t ht (List.mem_append_left _ hm),fun id he=>⟨fun h=>SX a3 id he (List.mem_append_left _ h),fun h=>SX a3 id he (List.mem_append_right _ h)⟩⟩
 ·rcases zk.1 hq with hq|hq
  ·grind
  ·
   have hg:=h2 q hq;have hj:S q.i=true:=by
    cases hs:S q.i with
    |true=>rfl
    |false=>rw[hs] at hf;simp at hf;omega
   have hp:Gi (gV all []) all e.tr q.tr=true:=by
    obtain⟨m1,m2,rfl⟩:=List.append_of_mem hq;refine XG (m2.map En.tr).reverse ((l1++e::m1).map En.tr).reverse q.tr ?_ e.tr ?_
    all_goals grind
   unfold Gi at hp;rw[Bool.or_eq_true] at hp;rcases hp with hp|hp
   ·have:=qlc hS (hc _ _ hp) hj;have this:S e.i=true:=this
    grind
   ·unfold WV at hp;simp only[ze] at hp;obtain⟨⟨⟨_,a2⟩,a3⟩,a4⟩:=hp;exact⟨fun t ht hm=>qi5 a2 t ht hm,fun id he=>⟨fun h=>SX a4 id he h,fun h=>SX a3 id h (List.mem_append_right _ he)⟩⟩
def qso{S:Nat->Bool}:∀(l:List En) (st:St),(∀q,q∈l->S q.i=false)->fc S l st=st
 |[],_,_=>rfl
 |q::l,st,h=>by show fc S l (bif S q.i then q.app st else st)=st;rw[h q (zg ..)];exact qso l st fun p hp=>h p (zh _ hp)
def qy5{S:Nat->Bool}:∀(l:List En) (st:St),(∀q,q∈l->S q.i=true)->fc S l st=mz l st
 |[],_,_=>rfl
 |q::l,st,h=>by show fc S l (bif S q.i then q.app st else st)=mz l (q.app st);rw[h q (zg ..)];exact qy5 l _ fun p hp=>h p (zh _ hp)
def zkf{all:List Oper}{S:Nat->Bool}(hS:Down all S){l1 l2:List En}{e:En}{o:Oper}(ho:all[e.i]?=some o)(hr:∀ed,ed∈o.after.toList->Region.binds .any ed=true->S ed.on=true)(hg:S e.i=false)(hd:rW (gV all []) all ((l1++e::l2).map En.tr).reverse=true)(h1:∀q,q∈l1->q.i<e.i)(h2:∀q,q∈l2->e.i<q.i)(st:St):(∀t,t∈QD all e.op->(fc S (l1++e::l2) st).env t=(mz l1 st).env t)/\(∀id,(id∈e.F\/id∈bW e.u)->(fc S (l1++e::l2) st).obj id=(mz l1 st).obj id):=by
 have hj:=zgd hS ho hr hg hd h1 h2;have hc:fc (fun i=>decide (i<e.i)) (l1++e::l2) st=mz l1 st:=by
  rw[XF,qy5 l1 st (fun q hq=>by simpa using h1 q hq)];refine qso _ _ fun q hq=>?_
  grind
 refine⟨fun t ht=>?_,fun id hl=>?_⟩
 ·rw[<-hc];exact z7b _ _ _ rfl fun q hq hf he=>(hj q hq hf).1 t he ht
 ·rw[<-hc];refine z7c _ _ _ rfl fun q hq hf hk=>?_
  grind
def qr3{o:Nat->Obj}:∀(F l:List Nat),B4 o F l=true->∀id,id∈l->∀j,j∈B3 (o id)->j∈F
 |F,x::r,h,id,hi,j,hj=>by
  simp only[B4,ze] at h;have key:∀(l m:List Nat),WX l m=true->∀q,q∈l->q∈m:=by
   intro l m
   induction l with
   |nil=>intro _ q hq;cases hq
   |cons y l ih=>
    intro h q hq;simp only[WX,ze] at h;rcases zk.1 hq with hq|hq
    ·subst hq;exact cP.1 h.1
    ·exact ih h.2 q hq
  rcases zk.1 hi with hi|hi
  ·grind
  ·exact qr3 F r h.2 id hi j hj
def z7d(o:Nat->Obj):∀(n:Nat) (l:List Nat) (x:Nat),x∈l->x∈WU o n l
 |0,_,_,h=>h
 |_+1,_,_,h=>List.mem_append_left _ h
def z0k:∀{l:List V} {v:V} {id:Nat},v∈l->id∈fi v->id∈iP l
 |x::l,v,id,hv,hi=>by
  unfold iP;rcases zk.1 hv with rfl|hv
  ·grind
  ·exact List.mem_append_right _ (z0k hv hi)
def qon:∀{l:List Operand} {t:Nat},t∈kV l->Operand.tmp t∈l
 |x::r,t,h=>by
  cases x<;>simp only[kV] at h<;>try exact zh _ (qon h)
  rcases zk.1 h with h|h
  ·grind
  ·exact zh _ (qon h)
def qv8{C:Cx}{nt:Nat}{X:Nat->Prop}{φ:Nat->Addr}{st:St}{a:Act}{w:World}(hR:Rel C nt X φ st a w){kn:List (Nat×Bool)}{ops:List Operand}(hk:∀d b,d∈kV ops->vQ d kn=some b->st.env d=.d .bool b){F:List Nat}(hF:∀id,id∈iP (ops.map (cG C st.env))->id∈F)(hm:MRel C (Xr X φ st.obj F) φ (dR st.obj F) w):∀x,ay φ (dR st.obj F) (aj (Xr X φ st.obj F) φ (dR st.obj F) w) w (cG C (gB st.env kn (kV ops)) x) (a.eval x):=by
 intro x;cases x with
 |tmp t=>
  show ay φ _ _ w (dO (gB st.env kn (kV ops) t)) (a.tmps.getD t undef);unfold gB;cases hh:bQ t (kV ops) with
  |false=>trivial
  |true=>
   rw[cond_true];have ht:=cP.1 hh;split
   ·rename_i b hb;have hz:=hR.env t;rw[hk t b ht hb] at hz;have:=vr hz;rw[this];exact Gp
   ·exact qo8 (fun id hi=>hF id (z0k (List.mem_map_of_mem (qon ht)) hi)) (R9 (hR.env t))
 |const v=>exact qkx v
 |global g=>
  simp only[cG,Act.eval];split
  ·rename_i e;exact hm.fe _ _ _ e
  ·trivial
 |func f=>
  simp only[Ev.cG];cases h:Nat.blt f 1048576 with
  |false=>simp[ay]
  |true=>exact⟨#[],(R7 (zD h) #[]).symm,rfl⟩
section
variable {C:Cx} {R:jU C.sigs} {nt:Nat}
def qq5(hC:cV C)(hE:mw C)(HC:∀X φ o w,MRel C X φ o w->∀fr f,Gt C R X φ o w fr f){X:Nat->Prop}{φ:Nat->Addr}{st:St}{a:Act}{w:World}(hR:Rel C nt X φ st a w){o:Oper}{kn:List (Nat×Bool)}{F:List Nat}{fr:Nat}(hf:∀d b,d∈kV o.op.operands.toList->vQ d kn=some b->st.env d=.d .bool b)(hF:∀id,id∈iP (o.op.operands.toList.map (cG C st.env))->id∈F)(hk:B4 st.obj F F=true){v:V}{u:List (Nat×Obj)}(hg:(cZ lf C R (gB st.env kn (kV o.op.operands.toList)) (dR st.obj F) fr o.type o.op).aN v u)(he:∀id,id∈bW u->id∉F->st.obj id=.none)(hn:mU fr (dR st.obj F) u){K:Act->World->Prop}{Q:Exit->Act->World->Prop}(hK:∀val w' φ',Comes C X φ φ' st.obj u w w' v val->K (a.put o.dst val) w'):o.wp C.P a w K Q:=by have hm:=hR.toMRel.restrict (F:=F) (fun id hi j hj=>qr3 F F hk id hi j hj);have hl:=zg3 hC hE hm (qv8 hR hf hF hm) (HC _ _ _ _ hm fr) hg hn;exact hl.upon fun val w' φ' hc=>by obtain⟨gW,h⟩:=hc.vT hR.toMRel he;exact hK val w' gW h
end
def qm8{o o':Nat->Obj}(F:List Nat):∀(l:List Nat),(∀id,id∈l->o id=o' id)->B4 o F l=B4 o' F l
 |[],_=>rfl
 |x::l,h=>by simp only[B4];rw[h x (zg ..),qm8 F l fun id hi=>h id (zh _ hi)]
def z0l:∀{u:List (Nat×Obj)} {id:Nat},id∈bW u->∃p,p∈u/\p.1=id
 |p::r,id,h=>by
  rcases zk.1 h with h|h
  ·grind
  ·obtain⟨q,h1,h2⟩:=z0l h
   grind
def qr4{F:List Nat}{fr:Nat}:∀{l:List Nat},LM F fr l=true->∀id,id∈l->id∈F\/(fr<=id/\id<fr+16)
 |[],_,id,h=>by cases h
 |x::l,hk,id,h=>by
  simp only[LM,ze,Bool.or_eq_true] at hk;rcases zk.1 h with h|h
  ·subst h;exact hk.1.imp cP.1 fun h=>⟨zD h.1,zD h.2⟩
  ·exact qr4 hk.2 id h
section
variable {C:Cx} {R:jU C.sigs} {nt:Nat}
def qv9{st:St}{o:Oper}(h:Gj o.op=false):rI C st o=WU st.obj 4 (iP (o.op.operands.toList.map (cG C st.env))):=by unfold rI;split<;>first|rfl|(rename_i e;rw[e] at h;cases h)
def z7e{o:Nat->Obj}{F:List Nat}{v:V}(h:sure (dR o F) v=true)(hF:∀id,id∈fi v->id∈F):sure o v=true:=by
 cases v<;>simp only[sure] at h ⊢<;>try exact h
 rename_i id off;rw[ow (hF id (by simp[fi]))] at h;exact h
def z3f{o:Nat->Obj}{F:List Nat}{v v':V}{u:List (Nat×Obj)}(h:(QC (dR o F) v).aN v' u)(hF:∀id,id∈fi v->id∈F):(QC o v).aN v' u:=by
 unfold QC at h ⊢;split at h
 ·rw[dX] at h ⊢;exact⟨z7e h.1 hF,h.2⟩
 ·exact h
 ·rename_i id ver i path;rw[ow (hF id (by simp[fi]))] at h;exact h
 ·exact h
 ·cases h
def qmp{o:Nat->Obj}{F:List Nat}{t:TypeId}{v v':V}{f:Nat}{u:List (Nat×Obj)}(h:(QB C (dR o F) t v f).aN v' u)(hF:∀id,id∈fi v->id∈F):(QB C o t v f).aN v' u:=by
 unfold QB at h ⊢;cases hc:RG C.P t f with
 |none=>rw[hc] at h;cases h
 |some fd=>
  rw[hc] at h;simp only at h ⊢;cases hk:yG C.P fd.type with
  |none=>rw[hk] at h;cases h
  |some p=>
   rw[hk] at h;simp only at h ⊢;rw[dX] at h ⊢;refine⟨h.1,?_⟩;replace h:=h.2;cases v<;>try exact h
   ·rename_i id off;simp only at h ⊢;rw[ow (hF id (by simp[fi]))] at h;exact h
   ·rename_i id ver i path;simp only at h ⊢;rw[ow (hF id (by simp[fi]))] at h;exact h
def qy6{st:St}{kn:List (Nat×Bool)}{o:Oper}{fr:Nat}(hl:Gj o.op=true)(he:∀d b,d∈kV o.op.operands.toList->vQ d kn=some b->st.env d=.d .bool b){F:List Nat}(hF:F=rI C st o){v:V}{u:List (Nat×Obj)}(hg:(cZ lf C R (gB st.env kn (kV o.op.operands.toList)) (dR st.obj F) fr o.type o.op).aN v u):(cZ lf C R st.env st.obj fr o.type o.op).aN v u:=by
 have hc:∀x,x∈o.op.operands.toList->cG C (gB st.env kn (kV o.op.operands.toList)) x=cG C st.env x:=by
  intro x hx;cases x with
  |tmp t=>
   have ht:t∈kV o.op.operands.toList:=by
    revert hx;generalize o.op.operands.toList=l;intro hx
    induction l with
    |nil=>cases hx
    |cons y r ih=>
     rcases zk.1 hx with h|h
     ·subst h;exact zg ..
     ·cases y<;>first|exact ih h|exact zh _ (ih h)
   show dO (gB st.env kn _ t)=dO (st.env t);unfold gB;rw[cP.2 ht,cond_true];split
   ·rename_i b hb;rw[he t b ht hb];rfl
   ·rfl
  |_=>rfl
 obtain⟨i,op,ty,pos,after,guard⟩:=o;cases op<;>simp only[Gj] at hl<;>try (cases hl;done)
 ·rename_i x;simp only[cZ] at hg ⊢;rw[hc x (by simp[Op.operands])] at hg;exact hg
 ·rename_i x;simp only[cZ] at hg ⊢;rw[hc x (by simp[Op.operands])] at hg;exact hg
 ·rename_i x;simp only[cZ] at hg ⊢;rw[hc x (by simp[Op.operands])] at hg;exact z3f hg (fun id h=>by rw[hF];exact h)
 ·rename_i t x f;simp only[cZ] at hg ⊢;rw[hc x (by simp[Op.operands])] at hg;exact qmp hg (fun id h=>by rw[hF];exact h)
def z7f(hC:cV C)(hE:mw C)(HC:∀X φ o w,MRel C X φ o w->∀fr f,Gt C R X φ o w fr f){ops:Array Oper}{rg:Nat}{X:Nat->Prop}{φ:Nat->Addr}{st0:St}{S:Nat->Bool}{l1 l2:List En}{e:En}{a:Act}{w:World}(ho:ops.toList[e.i]?=some e.op)(hS:Down ops.toList S)(hr:∀ed,ed∈e.op.after.toList->Region.binds .any ed=true->S ed.on=true)(hB:S e.i=false)(hd:rW (gV ops.toList []) ops.toList ((l1++e::l2).map En.tr).reverse=true)(h1:∀q,q∈l1->q.i<e.i)(h2:∀q,q∈l2->e.i<q.i)(hD:LM e.F (kU rg e.i) (bW e.u)=true)(hG:Cg C R rg ops.toList (mz l1 st0) e)(hn:kF (mz l1 st0) e.kn)(hR:Rel C nt X φ (fc S (l1++e::l2) st0) a w){K:Act->World->Prop}{Q:Exit->Act->World->Prop}(hK:∀z w' φ',Comes C X φ φ' (fc S (l1++e::l2) st0).obj e.u w w' e.v z->K (a.put e.op.dst z) w'):wpOp C.P ops Q e.i K a w:=by
 obtain⟨ag1,ag2⟩:=zkf hS ho hr hB hd h1 h2 st0;generalize fc S (l1++e::l2) st0=st at*
 have hH:ops[e.i]?=some e.op:=by rw[<-zJ];exact ho
 have KJ:∀j want oj dj,e.op.guard=some (j,want)->ops.toList[j]?=some oj->oj.dst=some dj->dj∈QD ops.toList e.op:=fun j want oj dj g1 g2 g3=>by
  unfold QD
  grind
 unfold wpOp;simp only[hH];rcases hG with ⟨_,⟨j,want,oj,dj,g1,g2,g3,g4⟩,hv,hu,_⟩|⟨_,hw,hF,hA,hg,hf⟩
 ·have hz:=hR.env dj;rw[ag1 dj (KJ j want oj dj g1 g2 g3)] at hz;have hy:Region.wanted e.op (yielded ops a.tmps)=false:=by
   unfold Region.wanted;rw[g1];simp only;rcases g4 with ⟨b,hb,hI⟩|hJ
   ·rw[hn dj b hb] at hz;rw[qlb g2 g3 (vr hz)];cases b<;>cases want<;>first|rfl|exact absurd rfl hI
   ·rw[hJ] at hz;rw[qoh g2 g3 hz];rfl
  rw[if_neg (by rw[hy];simp)];exact hK undef w φ (by rw[hu,hv];exact .same hR.toMRel rfl)
 ·have hy:Region.wanted e.op (yielded ops a.tmps)=true:=by
   unfold Region.wanted;rcases hw with hw|⟨j,want,oj,dj,g1,g2,g3,g4⟩
   ·rw[hw]
   ·have hz:=hR.env dj;rw[ag1 dj (KJ j want oj dj g1 g2 g3),hn dj want g4] at hz;rw[g1];simp only;rw[qlb g2 g3 (vr hz)];simp
  rw[if_pos hy];have lt:∀t,t∈kV e.op.op.operands.toList->st.env t=(mz l1 st0).env t:=fun t ht=>ag1 t (List.mem_append_left _ ht);have hq:e.op.op.operands.toList.map (cG C st.env)=e.op.op.operands.toList.map (cG C (mz l1 st0).env):=by
   apply ja;intro x hx;cases x with
   |tmp t=>
    have ht:t∈kV e.op.op.operands.toList:=by
     revert hx;generalize e.op.op.operands.toList=l;intro hx
     induction l with
     |nil=>cases hx
     |cons y r ih=>
      rcases zk.1 hx with h|h
      ·subst h;exact zg ..
      ·cases y<;>first|exact ih h|exact zh _ (ih h)
    show dO (st.env t)=dO ((mz l1 st0).env t);rw[lt t ht]
   |_=>rfl
  have hj:∀id,id∈e.F->st.obj id=(mz l1 st0).obj id:=fun id h=>ag2 id (.inl h);have eR:gB st.env e.kn (kV e.op.op.operands.toList)=gB (mz l1 st0).env e.kn (kV e.op.op.operands.toList):=funext fun t=>by
   unfold gB;cases hh:bQ t (kV e.op.op.operands.toList) with
   |false=>rfl
   |true=>rw[lt t (cP.1 hh)]
  have oR:dR st.obj e.F=dR (mz l1 st0).obj e.F:=funext fun id=>by
   by_cases h:id∈e.F
   ·rw[ow h,ow h,hj id h]
   ·rw[yT h,yT h]
  cases hk:Gj e.op.op with
  |true=>
   have hL:e.F=rI C st e.op:=by
    rw[hF];unfold rI;have one:∀x,x∈e.op.op.operands.toList->cG C st.env x=cG C (mz l1 st0).env x:=fun x hx=>by simp_all
    split
    ·rfl
    ·rfl
    ·rename_i x ex;rw[one x (by rw[ex];simp[Op.operands])]
    ·rename_i t x f ex;rw[one x (by rw[ex];simp[Op.operands])]
    ·rename_i h1 h2 h3 h4;exfalso;cases he:e.op.op<;>rw[he] at hk<;>simp only[Gj] at hk<;>first|(cases hk;done)|exact h1 _ he|exact h2 _ he|exact h3 _ he|exact h4 _ _ _ he
   have hM:=qy6 (fr:=kU rg e.i) hk (fun d b hs hb=>by rw[lt d hs];exact hn d b hb) hL (by rw[eR,oR];exact hg);have hN:mU (kU rg e.i) st.obj e.u:=fun p hp h3 h4=>by rw[ag2 p.1 (.inr (Xi hp))];exact hf p hp h3 h4
   have hl:=zg3 hC hE hR.toMRel (fun x=>hR.cG x) (HC _ _ _ _ hR.toMRel (kU rg e.i)) hM hN;exact .inl (hl.upon fun val w' φ' hc=>hK val w' φ' hc)
  |false=>
  rw[hk,Bool.false_or] at hA;rw[qv9 hk] at hF;refine .inl (qq5 hC hE HC hR ?_ ?_ ?_ (by rw[eR,oR];exact hg) ?_ ?_ hK)
  ·intro d b hs hb;rw[lt d hs];exact hn d b hb
  ·intro id hm;rw[hq] at hm;rw[hF];exact z7d _ _ _ _ hm
  ·rw[qm8 e.F e.F (fun id h=>hj id h)];exact hA
  ·intro id hm hO;rw[ag2 id (.inr hm)];obtain⟨p,hp,rfl⟩:=z0l hm;rcases qr4 hD p.1 hm with h|⟨h3,h4⟩
   ·exact absurd h hO
   ·exact hf p hp h3 h4
  ·intro p hp h3 h4;by_cases h:p.1∈e.F
   ·rw[ow h,hj _ h];exact hf p hp h3 h4
   ·exact yT h
end
section
variable {C:Cx} {R:jU C.sigs} {nt:Nat}
def Rel.drawn{X:Nat->Prop}{φ:Nat->Addr}{st:St}{a:Act}{w:World}(h:Rel C nt X φ st a w):Rel C nt X φ st a {w with drawn:=w.drawn+1}:=by have hw:({w with drawn:=w.drawn+1}:World).heap=w.heap:=rfl;generalize ({w with drawn:=w.drawn+1}:World)=w' at hw;have hc:∀b,aj X φ st.obj w b->aj X φ st.obj w' b:=fun b hb=>⟨by rw[hw];exact hb.1,hb.2⟩;have keeps:∀x z,ay φ st.obj (aj X φ st.obj w) w x z->ay φ st.obj (aj X φ st.obj w') w' x z:=fun x z hx=>BA hc (fun _ _=>by rw[hw]) (fun _=>Up.same fun _ n hr=>Gn (by rw[hw]) hr) x z hx;exact⟨⟨fun id=>LV hc (fun _ _=>by rw[hw]) keeps rfl (fun _=>by rw[hw]) (h.aw id),h.inj,(fun i hi=>by rw[hw];exact h.sep i hi),(fun b hb=>by rw[hw];exact h.xs b hb),(fun id=>h.toMRel.kE id (fun _=>.same (by rw[hw])) (fun _ _=>by rw[hw])),fun g t x hg=>keeps _ _ (h.fe g t x hg),h.toMRel.pC (fun _ _=>by rw[hw])⟩,h.size,fun t=>keeps _ _ (h.env t),h.defers⟩
def qoo{rg:Nat}{all:List Oper}:∀(l1:List En) (i:Nat) (st:St) (e:En) (l2:List En),Gz C R rg all i st (l1++e::l2)->e.i=i+l1.length/\Cg C R rg all (mz l1 st) e/\kF (mz l1 st) e.kn/\(∀q,q∈l1->q.i<i+l1.length)/\(∀q,q∈l2->i+l1.length<q.i)
 |[],i,st,e,l2,h=>by
  obtain⟨h1,h2,h3,_,h5⟩:=h;refine⟨h1,h2,h3,(fun q hq=>by cases hq),?_⟩;have key:∀(l:List En) (j:Nat) (s:St),Gz C R rg all j s l->∀q,q∈l->j<=q.i:=by
   intro l
   induction l with
   |nil=>intro _ _ _ q hq;cases hq
   |cons p l ih=>
    intro j s hr q hq;obtain⟨g1,_,_,_,g5⟩:=hr
    grind
  grind
 |p::l1,i,st,e,l2,h=>by
  obtain⟨h1,_,_,_,h5⟩:=h;obtain⟨g1,g2,g3,g4,g5⟩:=qoo l1 (i+1) (p.app st) e l2 h5;simp only[zu];refine⟨by omega,g2,g3,fun q hq=>?_,fun q hq=>?_⟩
  all_goals grind
def qva{rg:Nat}:∀{l:List Tr},Bz rg l=true->∀t,t∈l->QE t.i t.op.after.toList=true/\LM t.rd (kU rg t.i) t.wr=true
 |[],_,t,h=>by cases h
 |x::l,hk,t,h=>by
  simp only[Bz,ze] at hk;rcases zk.1 h with h|h
  ·subst h;exact hk.1
  ·exact qva hk.2 t h
def qvb{i:Nat}:∀{l:List Edge},QE i l=true->∀e,e∈l->Region.binds .any e=true->e.on<i
 |[],_,e,h=>by cases h
 |x::l,hk,e,h=>by
  intro hb;simp only[QE,ze,Bool.or_eq_true] at hk;rcases zk.1 h with h|h
  ·simp_all
  ·exact qvb hk.2 e h hb
def lE(listed:Array Bool)(i:Nat):Bool:=listed.getD i false
def qop{ops:Array Oper}{listed:Array Bool}(hs:listed.size=ops.size){i:Nat}:i∈Region.ready .any ops listed↔∃o,ops[i]?=some o/\lE listed i=false/\∀e,e∈o.after.toList->Region.binds .any e=true->lE listed e.on=true:=by
 unfold Region.ready;rw[List.mem_filter,List.mem_range,ze];constructor
 ·rintro⟨h1,h2,h3⟩;have ho:ops[i]?=some ops[i]:=Array.getElem?_eq_getElem h1;refine⟨ops[i],ho,?_,?_⟩
  ·unfold lE
   grind
  ·rw[ho] at h3;simp only[Option.map_some,Option.getD_some] at h3;rw[<-Array.all_toList,zL] at h3;intro e he hb;have:=h3 e he;rw[hb] at this;simpa[lE] using this
 ·rintro⟨o,ho,h2,h3⟩;have h1:i<ops.size:=by grind
  refine⟨h1,?_,?_⟩
  ·unfold lE at h2
   grind
  ·rw[ho];simp only[Option.map_some,Option.getD_some];rw[<-Array.all_toList,zL];intro e he;cases hb:Region.binds .any e with
   |false=>rfl
   |true=>have:=h3 e he hb;simpa[lE] using this
def zge{listed:Array Bool}{i j:Nat}(hi:i<listed.size):lE (listed.setIfInBounds i true) j=(decide (i=j)||lE listed j):=by
 unfold lE;simp only[Array.getD_eq_getD_getElem?,Array.getElem?_setIfInBounds]
 grind
def Mi(listed:Array Bool):Nat:=listed.toList.countP (fun b=>!b)
def qvc:∀(l:List Bool) (i:Nat),l[i]?=some false->(l.set i true).countP (fun b=>!b)+1=l.countP (fun b=>!b)
 |[],_,h=>by simp at h
 |b::l,0,h=>by grind
 |b::l,i+1,h=>by grind
def zgf{listed:Array Bool}{i:Nat}(hi:i<listed.size)(h:lE listed i=false):Mi (listed.setIfInBounds i true)+1=Mi listed:=by
 unfold Mi;rw[Array.toList_setIfInBounds];refine qvc _ _ ?_;unfold lE at h
 simp_all
def z3g{listed:Array Bool}(h:Mi listed=0){i:Nat}(hi:i<listed.size):lE listed i=true:=by unfold Mi at h;rw[List.countP_eq_zero] at h;unfold lE;simp only[Array.getD,hi,dif_pos];have:=h listed[i] (by simp);simpa using this
def z3h{ops:Array Oper}{listed:Array Bool}(hs:listed.size=ops.size)(hb:∀i o,ops[i]?=some o->∀e,e∈o.after.toList->Region.binds .any e=true->e.on<i)(h:Region.ready .any ops listed=[]):∀i,i<ops.size->lE listed i=true:=by
 intro i
 induction i using Nat.strongRecOn with
 |_ i ih=>
  intro hi;cases hl:lE listed i with
  |true=>rfl
  |false=>exfalso;have ho:ops[i]?=some ops[i]:=Array.getElem?_eq_getElem hi;have:i∈Region.ready .any ops listed:=(qop hs).2 ⟨_,ho,hl,fun e he hc=>by have:=hb i _ ho e he hc;exact ih _ this om⟩;rw[h] at this;cases this
end
def zir{all:List Oper}{S:Nat->Bool}(hS:Down all S){l1 l2:List En}{e:En}(hf:S e.i=false)(hd:rW (gV all []) all ((l1++e::l2).map En.tr).reverse=true):∀q,q∈l2->S q.i=true->(∀d,e.op.dst=some d->q.op.dst≠some d)/\∀id,id∈bW e.u->id∉bW q.u:=by
 have hc:=qsn (all:=all) all [] [] rfl rfl (fun i a h=>by simp at h);intro q hq he;have hp:Gi (gV all []) all e.tr q.tr=true:=by
  obtain⟨m1,m2,rfl⟩:=List.append_of_mem hq;refine XG (m2.map En.tr).reverse ((l1++e::m1).map En.tr).reverse q.tr ?_ e.tr ?_
  all_goals grind
 unfold Gi at hp;rw[Bool.or_eq_true] at hp;rcases hp with hp|hp
 ·have:=qlc hS (hc _ _ hp) he;have this:S e.i=true:=this
  grind
 ·unfold WV at hp;simp only[ze] at hp;obtain⟨⟨⟨a1,_⟩,a3⟩,_⟩:=hp;refine⟨fun d hd hq=>?_,fun id h1 h2=>SX a3 id h1 (List.mem_append_right _ h2)⟩;refine qi5 a1 d hd (List.mem_append_right _ ?_);have hq:q.tr.op.dst=some d:=hq;rw[hq];exact zg ..
section
variable {C:Cx} {R:jU C.sigs} {nt:Nat} {eJ:Nat→Addr} {o0:Nat→Obj} {w0:World} {sk:List Nat}
def zc0(hC:cV C)(hE:mw C)(HC:∀X φ o w,MRel C X φ o w->∀fr f,Gt C R X φ o w fr f){ops:Array Oper}{rg:Nat}{X:Nat->Prop}{Q:Exit->Act->World->Prop}{st0:St}{es:List En}(hz:es.map (·.op)=ops.toList)(ht:Gz C R rg ops.toList 0 st0 es)(hd:rW (gV ops.toList []) ops.toList (es.map En.tr).reverse=true)(hk:Bz rg (es.map En.tr).reverse=true)(hv:vO nt ops.toList=true)(fin:Sound C nt X (HJ sk eJ o0 w0) (mz es st0) (Q .normal)):∀(fuel:Nat) (listed:Array Bool) (X':Nat->Prop) (φ:Nat->Addr) (a:Act) (w:World),listed.size=ops.size->Mi listed<=fuel->Down ops.toList (lE listed)->(∀b,X b->X' b)->Rel C nt X' φ (fc (lE listed) es st0) a w->dC sk eJ o0 w0 φ (fc (lE listed) es st0).obj w->wpAny C.P .any ops Q fuel listed a w:=by
 have hw:es.length=ops.size:=by rw[<-zG (f:=(·.op)),hz,Array.length_toList]
 have split:∀i,i<es.length->∃l1 e l2,es=l1++e::l2/\l1.length=i/\e.i=i/\ops.toList[i]?=some e.op/\Cg C R rg ops.toList (mz l1 st0) e/\kF (mz l1 st0) e.kn/\(∀q,q∈l1->q.i<i)/\(∀q,q∈l2->i<q.i):=by
  intro i hi;refine⟨es.take i,es[i],es.drop (i+1),?_,?_,?_⟩
  ·simp_all
  ·grind
  ·have e1:es=es.take i++es[i]::es.drop (i+1):=by rw[<-List.drop_eq_getElem_cons hi,List.take_append_drop]
   have hr:=ht;rw[e1] at hr;obtain⟨g1,g2,g3,g4,g5⟩:=qoo _ _ _ _ _ hr;have e2:(es.take i).length=i:=by rw[zP];omega
   rw[e2] at g1 g4 g5;refine⟨by omega,?_,g2,g3,fun q hq=>by have:=g4 q hq;omega,fun q hq=>by have:=g5 q hq;omega⟩;rw[<-hz,zU,zf hi];rfl
 have trs:∀e,e∈es->QE e.i e.op.after.toList=true/\LM e.F (kU rg e.i) (bW e.u)=true:=fun e he=>qva hk e.tr (List.mem_reverse.2 (List.mem_map_of_mem he));have back:∀i o,ops[i]?=some o->∀e,e∈o.after.toList->Region.binds .any e=true->e.on<i:=by
  intro i o ho ed he hb;have hi:i<es.length:=by
   rw[hw];rcases Nat.lt_or_ge i ops.size with h|h
   ·exact h
   ·rw[zY h] at ho;cases ho
  obtain⟨l1,e,l2,h1,_,h2,h3,_⟩:=split i hi;rw[zJ,ho] at h3;injection h3 with h3;have:=(trs e (by rw[h1];exact List.mem_append_right _ (zg ..))).1;rw[h2] at this;exact qvb this ed (by rw[<-h3];exact he) hb
 have ilt:∀q,q∈es->q.i<ops.size:=by
  intro q hq;obtain⟨i,hi,rfl⟩:=List.mem_iff_getElem.1 hq
  grind
 have done:∀(listed:Array Bool) X' φ a w,listed.size=ops.size->(∀b,X b->X' b)->Rel C nt X' φ (fc (lE listed) es st0) a w->dC sk eJ o0 w0 φ (fc (lE listed) es st0).obj w->Region.ready .any ops listed=[]->Q .normal a w:=by intro listed X' φ a w hs hX hR hJ hr;have hx:=z3h hs back hr;rw[qy5 es st0 fun q hq=>hx _ (ilt q hq)] at hR hJ;exact fin X' φ a w hX hR hJ
 intro fuel
 induction fuel with
 |zero=>
  intro listed X' φ a w hs hu hD hX hR hJ;have hr:Region.ready .any ops listed=[]:=by
   rw[List.eq_nil_iff_forall_not_mem];intro i hi;obtain⟨o,ho,hl,_⟩:=(qop hs).1 hi;have:i<listed.size:=by
    rcases Nat.lt_or_ge i listed.size with h|h
    ·exact h
    ·rw[zY om] at ho;cases ho
   rw[z3g om this] at hl;cases hl
  exact⟨hr,done listed X' φ a w hs hX hR hJ hr⟩
 |succ fuel ih=>
  intro listed X' φ a w hs hu hD hX hR hJ;refine⟨done listed X' φ a w hs hX hR hJ,fun i hi=>?_⟩;obtain⟨o,ho,hl,hf⟩:=(qop hs).1 hi;have hG:i<ops.size:=by
   rcases Nat.lt_or_ge i ops.size with h|h
   ·exact h
   ·rw[zY h] at ho;cases ho
  obtain⟨l1,e,l2,h1,_,h2,h3,h4,h5,h6,h7⟩:=split i om;have hA:o=e.op:=by rw[zJ,ho] at h3;injection h3
  subst h2 hA;have hy:e∈es:=by rw[h1];exact List.mem_append_right _ (zg ..)
  have hB:=(trs e hy).2;have hF:SH nt e.op.dst:=qqy hv e.op (zv h3);subst h1;refine z7f hC hE HC (l1:=l1) (l2:=l2) (st0:=st0) h3 hD hf hl hd h6 h7 hB h4 h5 hR fun z w' φ' hc=>?_;have hg:∀j,lE (listed.setIfInBounds e.i true) j=(decide (e.i=j)||lE listed j):=fun j=>zge om;have hn:fc (lE (listed.setIfInBounds e.i true)) (l1++e::l2) st0=e.app (fc (lE listed) (l1++e::l2) st0):=by
   refine zbx st0 (fun q hq=>?_) (fun q hq=>?_) hl (by rw[hg];simp) (zir hD hl hd)
   ·have:=h6 q hq;rw[hg,zo om,Bool.false_or]
   ·have:=h7 q hq;rw[hg,zo om,Bool.false_or]
  refine ih _ X' φ' _ w' (by simpa using hs) ?_ ?_ hX ?_ ?_
  ·have:=zgf (listed:=listed) (i:=e.i) om hl;omega
  ·intro j oj hj hm ed he hb;rw[hg] at hm ⊢;rw[Bool.or_eq_true] at hm ⊢;right;rcases hm with hm|hm
   ·have hm:=zI hm;subst hm;rw[h3] at hj;injection hj with hj;subst hj;exact hf ed he hb
   ·exact hD j oj hj hm ed he hb
  ·rw[hn];exact hR.step hF hc
  ·rw[hn,KI];exact hJ.step hc
def zgg(hC:cV C)(hE:mw C)(hL:XE C)(hm:C.P.follows .mixedOrders=true):z76 C:=by
 intro R hR nt sk eJ o0 w0 rg ops n γ δ X Q wr st k y h hc hk X' φ a w hX he hJ;obtain⟨es,h1,h2,h3,h4⟩:=zgc n 0 ops.toList st [] [] h (fun d b hd=>by cases hd);rw[zn,ze] at h3;refine wp_region_any hm ?_;have hg:∀i,lE (Array.replicate ops.size false) i=false:=fun i=>by unfold lE;rw[Array.getD_eq_getD_getElem?,Array.getElem?_replicate];split<;>rfl
 have hf:fc (lE (Array.replicate ops.size false)) es st=st:=qso es st fun q _=>hg _;refine zc0 hC hE (hL R hR) h1 h2 h3.1 h3.2 hc (hk _ h4) ops.size _ X' φ a _ (by simp) ?_ ?_ hX ?_ ?_
 ·unfold Mi;exact Nat.le_trans List.countP_le_length (by simp)
 ·intro i o _ hs
  grind
 ·rw[hf];exact he.drawn
 ·rw[hf];exact⟨hJ.size,hJ.frame,hJ.news,hJ.still,hJ.up⟩
end
end Ev