/- Regions that draw their order are sound. No statement of its own about the program. -/
import Derived.Test.YtdgmbemagoakjaaGreatDoorEvG
namespace Ev
open Go
structure En where
 i:Nat
 op:Oper
 sk:Bool
 kn:List (Nat×Bool)
 F:List Nat
 v:V
 u:List (Nat×Obj)
def En.app(e:En)(st:St):St:=bG {st with obj:=ar st.obj e.u} e.op.dst e.v
def eB(S:Nat->Bool):List En->St->St
 |[],st=>st
 |e::r,st=>eB S r (bif S e.i then e.app st else st)
theorem St.ext'{a b:St}(h1:∀t,a.env t=b.env t)(h2:∀id,a.obj id=b.obj id):a=b:=by
 obtain⟨e,o⟩:=a;obtain⟨e',o'⟩:=b;have:e=e':=funext h1;have:o=o':=funext h2
 subst_vars;rfl
theorem GX(e:En)(st:St):(e.app st).obj=ar st.obj e.u:=by unfold En.app bG;cases e.op.dst<;>rfl
theorem xz(e:En)(st:St)(t:Nat):(e.op.dst=some t/\(e.app st).env t=e.v)\/(e.op.dst≠some t/\(e.app st).env t=st.env t):=by
 unfold En.app bG;cases h:e.op.dst with
 |none=>exact .inr ⟨by simp,rfl⟩
 |some d=>
  by_cases ht:t=d
  ·subst ht;exact .inl ⟨rfl,dM⟩
  ·exact .inr ⟨fun e=>ht (by injection e with e;exact e.symm),gM ht⟩
theorem z16{e e':En}(hd:∀d,e.op.dst=some d->e'.op.dst≠some d)(hk:∀id,id∈bO e.u->id∉bO e'.u)(st:St):e'.app (e.app st)=e.app (e'.app st):=by
 apply St.ext'
 ·intro t;rcases xz e' (e.app st) t with ⟨h1,h2⟩|⟨h1,h2⟩
  ·rw[h2];rcases xz e (e'.app st) t with ⟨h3,h4⟩|⟨h3,h4⟩
   ·exact absurd h1 (hd t h3)
   ·rw[h4];rcases xz e' st t with ⟨_,h6⟩|⟨h5,_⟩
    ·rw[h6]
    ·exact absurd h1 h5
  ·rw[h2];rcases xz e (e'.app st) t with ⟨h3,h4⟩|⟨h3,h4⟩
   ·rw[h4];rcases xz e st t with ⟨_,h6⟩|⟨h5,_⟩
    ·exact h6
    ·exact absurd h3 h5
   ·rw[h4];rcases xz e st t with ⟨h5,_⟩|⟨_,h6⟩
    ·exact absurd h5 h3
    ·rw[h6];rcases xz e' st t with ⟨h7,_⟩|⟨_,h8⟩
     ·exact absurd h7 h1
     ·rw[h8]
 ·intro id;rw[GX,GX,GX,GX];by_cases h1:id∈bO e.u
  ·rw[gj (hk id h1),Ob (o':=ar st.obj e'.u) h1]
  ·rw[gj (u:=e.u) (o:=ar st.obj e'.u) h1];by_cases h2:id∈bO e'.u
   ·exact Ob h2
   ·rw[gj h2,gj h2,gj h1]
theorem S1(S:Nat->Bool):∀(l m:List En) (st:St),eB S (l++m) st=eB S m (eB S l st)
 |[],_,_=>rfl
 |_::l,m,_=>S1 S l m _
theorem Wy{S S':Nat->Bool}:∀(l:List En) (st:St),(∀e,e∈l->S e.i=S' e.i)->eB S l st=eB S' l st
 |[],_,_=>rfl
 |e::l,st,h=>by show eB S l (bif S e.i then e.app st else st)=eB S' l (bif S' e.i then e.app st else st);rw[h e (zj ..)];exact Wy l _ fun q hq=>h q (zm _ hq)
theorem qrc{S:Nat->Bool}{e:En}:∀(l:List En) (st:St),(∀q,q∈l->S q.i=true->(∀d,e.op.dst=some d->q.op.dst≠some d)/\∀id,id∈bO e.u->id∉bO q.u)->eB S l (e.app st)=e.app (eB S l st)
 |[],_,_=>rfl
 |q::l,st,h=>by
  show eB S l (bif S q.i then q.app (e.app st) else e.app st)=e.app (eB S l (bif S q.i then q.app st else st));have ih:=fun st=>qrc (S:=S) (e:=e) l st fun p hp=>h p (zm _ hp);cases hs:S q.i with
  |true=>obtain⟨h1,h2⟩:=h q (zj ..) hs;show eB S l (q.app (e.app st))=e.app (eB S l (q.app st));rw[z16 h1 h2,ih]
  |false=>exact ih st
theorem z17{S S':Nat->Bool}{e:En}{l m:List En}(st:St)(hl:∀q,q∈l->S q.i=S' q.i)(hm:∀q,q∈m->S q.i=S' q.i)(h1:S e.i=false)(h2:S' e.i=true)(hp:∀q,q∈m->S q.i=true->(∀d,e.op.dst=some d->q.op.dst≠some d)/\∀id,id∈bO e.u->id∉bO q.u):eB S' (l++e::m) st=e.app (eB S (l++e::m) st):=by rw[S1,S1];show eB S' m (bif S' e.i then e.app (eB S' l st) else eB S' l st)=e.app (eB S m (bif S e.i then e.app (eB S l st) else eB S l st));rw[h1,h2,<-Wy l st hl];show eB S' m (e.app (eB S l st))=e.app (eB S m (eB S l st));rw[<-Wy m _ hm];exact qrc m _ hp
section
variable {C:Cx} {R:gY C.sigs}
def En.tr(e:En):Tr:=⟨e.i,e.op,e.F,bO e.u⟩
def iU(st:St)(kn:List (Nat×Bool)):Prop:=∀d b,q9 d kn=some b->st.env d=.d .bool b
def z4c(all:List Oper)(st:St)(e:En):Prop:=∃j want oj dj,e.op.guard=some (j,want)/\all[j]?=some oj/\oj.dst=some dj/\((∃b,q9 dj e.kn=some b/\b≠want)\/st.env dj=.undef)
def z4d(all:List Oper)(e:En):Prop:=e.op.guard=none\/∃j want oj dj,e.op.guard=some (j,want)/\all[j]?=some oj/\oj.dst=some dj/\q9 dj e.kn=some want
def xA(C:Cx)(R:gY C.sigs)(rg:Nat)(all:List Oper)(st:St)(e:En):Prop:=
 (e.sk=true/\z4c all st e/\e.v=.undef/\e.u=[]/\e.F=[])\/
 (e.sk=false/\z4d all e/\e.F=oB C st e.op/\(CP e.op.op||xm st.obj e.F e.F)=true/\
  (cL lf C R (fI st.env e.kn (jo e.op.op.operands.toList)) (dD st.obj e.F) (jn rg e.i) e.op.type e.op.op).aG e.v e.u/\j9 (jn rg e.i) st.obj e.u)
def C6(C:Cx)(R:gY C.sigs)(rg:Nat)(all:List Oper):Nat->St->List En->Prop
 |_,_,[]=>True
 |i,st,e::r=>e.i=i/\xA C R rg all st e/\iU st e.kn/\NG e.op.dst e.kn=true/\C6 C R rg all (i+1) (e.app st) r
def ke:List En->St->St
 |[],st=>st
 |e::r,st=>ke r (e.app st)
theorem z18{e:En}{st:St}{kn:List (Nat×Bool)}(h:iU st kn)(hn:NG e.op.dst kn=true):iU (e.app st) kn:=by
 intro d b hd;rcases xz e st d with ⟨h1,_⟩|⟨_,h2⟩
 ·exfalso;rw[h1] at hn;unfold NG at hn;simp only[hd] at hn;cases hn
 ·rw[h2];exact h d b hd
theorem qtn{env:Nat->V}{o:Nat->Obj}{fr:Nat}{ty:TypeId}{t:Nat}{y:Bool}(he:env t=.lb y){v:V}{u:List (Nat×Obj)}(h:(cL lf C R env o fr ty (.move (.tmp t))).aG v u):v=.d .bool y:=by
 have hv:cm C env (.tmp t)=.d .bool y:=by show dx (env t)=_;rw[he];rfl
 simp only[cL,hv,Nw] at h;rw[cY] at h;exact h.1.symm
theorem qto{env:Nat->V}{o:Nat->Obj}{fr:Nat}{ty:TypeId}{t:Nat}{q z:Bool}{a b:Operand}(he:env t=.lb q)(hz:(bif q then a else b)=.const (.bool z)){v:V}{u:List (Nat×Obj)}(h:(cL lf C R env o fr ty (.pick (.tmp t) a b)).aG v u):v=.d .bool z:=by
 have hv:CL C env (.tmp t)=.lb q:=he;simp only[cL,hv] at h;rw[cY] at h;rw[<-h.1];cases q with
 |true=>rw[cond_true] at hz ⊢;rw[hz];rfl
 |false=>rw[cond_false] at hz ⊢;rw[hz];rfl
theorem qix{env:Nat->V}{kn:List (Nat×Bool)}{ts:List Nat}{t:Nat}{b:Bool}(ht:bI t ts=true)(hk:q9 t kn=some b):fI env kn ts t=.lb b:=by unfold fI;rw[ht,cond_true,hk]
theorem qmq{st:St}{kn:List (Nat×Bool)}{d:Nat}{z:Bool}(h:iU st kn)(hd:st.env d=.d .bool z):iU st ((d,z)::kn):=by
 intro t b ht;simp only[q9] at ht;cases hq:Nat.beq d t with
 |true=>rw[hq,cond_true] at ht;injection ht with ht;have:=zg hq;subst this ht;exact hd
 |false=>rw[hq,cond_false] at ht;exact h t b ht
theorem qmr(t:Nat)(l:List Nat):bI t (t::l)=true:=by simp[bI]
theorem z19{st:St}{kn:List (Nat×Bool)}{o:Oper}{ob:Nat->Obj}{Wz:Nat->Obj}{fr:Nat}{v:V}{u:List (Nat×Obj)}(hg:(cL lf C R (fI st.env kn (jo o.op.operands.toList)) ob fr o.type o.op).aG v u)(h:iU (bG {st with obj:=Wz} o.dst v) kn):iU (bG {st with obj:=Wz} o.dst v) (H6 o kn):=by
 unfold H6;split
 ·exact h
 ·rename_i d hd;have hc:(bG {st with obj:=Wz} o.dst v).env d=v:=by rw[hd];simp[bG,ck]
  split
  ·rename_i t ho;split
   ·rename_i y hy;rw[ho] at hg;have:=qtn (qix (by simpa[Op.operands,jo] using qmr t []) hy) hg;exact qmq h (by rw[hc,this])
   ·exact h
  ·rename_i c x y ho;split
   ·rename_i q hq;split
    ·rename_i z hz;rw[ho] at hg;have:=qto (qix (by simpa[Op.operands,jo] using qmr c _) hq) hz hg;exact qmq h (by rw[hc,this])
    ·exact h
   ·exact h
  ·exact h
theorem z68{rg:Nat}{all:List Oper}{γ δ:Type}{w:γ->δ}{k:(γ->δ)->St->Option δ}{y:δ}:∀(n i:Nat) (r:List Oper) (st:St) (kn:List (Nat×Bool)) (tr:List Tr),re lf C R rg all n w i r st kn tr k=some y->iU st kn->∃es,es.map (·.op)=r/\C6 C R rg all i st es/\(oU (fS all []) all ((es.map En.tr).reverse++tr)&&wy rg ((es.map En.tr).reverse++tr))=true/\k w (ke es st)=some y:=by
 intro n
 induction n with
 |zero=>intro i r st kn tr h;cases h
 |succ n ih=>
  intro i r st kn tr h hf;cases r with
  |nil=>
   have h:(bif oU (fS all []) all tr&&wy rg tr then k w st else none)=some y:=h;cases hd:(oU (fS all []) all tr&&wy rg tr) with
   |false=>rw[hd] at h;cases h
   |true=>rw[hd] at h;exact⟨[],rfl,trivial,hd,h⟩
  |cons o r=>
   unfold re at h;simp only at h;cases he:NG o.dst kn with
   |false=>rw[he] at h;cases h
   |true=>
    rw[he,cond_true] at h;have more:∀(e:En),e.i=i->e.op=o->e.kn=kn->xA C R rg all st e->∀MB,(iU (e.app st) kn->iU (e.app st) MB)->re lf C R rg all n w (i+1) r (e.app st) MB (e.tr::tr) k=some y->
      ∃es,es.map (·.op)=o::r/\C6 C R rg all i st es/\(oU (fS all []) all ((es.map En.tr).reverse++tr)&&wy rg ((es.map En.tr).reverse++tr))=true/\k w (ke es st)=some y:=by
     intro e h1 h2 h3 h4 MB h6 h5;obtain⟨es,g1,g2,g3,g4⟩:=ih _ _ _ _ _ h5 (h6 (z18 hf (by rw[h2];exact he)));exact⟨e::es,by rw[zI,g1,h2],⟨h1,h4,by rw[h3];exact hf,by rw[h2,h3];exact he,g2⟩,by rw[zI,List.reverse_cons,zC];exact g3,g4⟩
    have run:(∀e:En,e.op=o->e.kn=kn->z4d all e)->(bif CP o.op||xm st.obj (oB C st o) (oB C st o) then(match cL lf C R (fI st.env kn (jo o.op.operands.toList)) (dD st.obj (oB C st o)) (jn rg i) o.type o.op with
      |.fail=>none
      |.kG v u=>mN v fun v=>q8 (jn rg i) st.obj u fun o'=>re lf C R rg all n w (i+1) r (bG {st with obj:=o'} o.dst v) (H6 o kn) (⟨i,o,oB C st o,bO u⟩::tr) k
      |.dyn _ x out=>lf.b x fun y=>mN (out y).1 fun v=>q8 (jn rg i) st.obj (out y).2 fun o'=>re lf C R rg all n w (i+1) r (bG {st with obj:=o'} o.dst v) (H6 o kn) (⟨i,o,oB C st o,bO (out y).2⟩::tr) k) else none)=some y->
      ∃es,es.map (·.op)=o::r/\C6 C R rg all i st es/\(oU (fS all []) all ((es.map En.tr).reverse++tr)&&wy rg ((es.map En.tr).reverse++tr))=true/\k w (ke es st)=some y:=by
     intro hw h;cases hc:(CP o.op||xm st.obj (oB C st o) (oB C st o)) with
     |false=>rw[hc] at h;cases h
     |true=>
      rw[hc,cond_true] at h;have go:∀v u,(cL lf C R (fI st.env kn (jo o.op.operands.toList)) (dD st.obj (oB C st o)) (jn rg i) o.type o.op).aG v u->
        (mN v fun v=>q8 (jn rg i) st.obj u fun o'=>re lf C R rg all n w (i+1) r (bG {st with obj:=o'} o.dst v) (H6 o kn) (⟨i,o,oB C st o,bO u⟩::tr) k)=some y->
        ∃es,es.map (·.op)=o::r/\C6 C R rg all i st es/\(oU (fS all []) all ((es.map En.tr).reverse++tr)&&wy rg ((es.map En.tr).reverse++tr))=true/\k w (ke es st)=some y:=by
       intro v u hg h;rw[We] at h;obtain⟨h1,h2⟩:=Wf _ _ _ _ h;exact more ⟨i,o,false,kn,oB C st o,v,u⟩ rfl rfl rfl (.inr ⟨rfl,hw _ rfl rfl,rfl,hc,hg,h2⟩) _ (z19 hg) h1
      generalize hp:cL lf C R (fI st.env kn (jo o.op.operands.toList)) (dD st.obj (oB C st o)) (jn rg i) o.type o.op=pk at h go;cases pk with
      |fail=>cases h
      |kG v u=>exact go v u ⟨rfl,rfl⟩ h
      |dyn α x out=>obtain⟨q,h1,h2⟩:=B4 (x:=x) h;exact go (out q).1 (out q).2 ⟨q,h1,rfl⟩ h2
    have skip:(∀e:En,e.op=o->e.kn=kn->z4c all st e)->re lf C R rg all n w (i+1) r (bG st o.dst .undef) kn (⟨i,o,[],[]⟩::tr) k=some y->
      ∃es,es.map (·.op)=o::r/\C6 C R rg all i st es/\(oU (fS all []) all ((es.map En.tr).reverse++tr)&&wy rg ((es.map En.tr).reverse++tr))=true/\k w (ke es st)=some y:=fun hs h=>
     more ⟨i,o,true,kn,[],.undef,[]⟩ rfl rfl rfl (.inl ⟨rfl,hs _ rfl rfl,rfl,rfl,rfl⟩) kn (fun h=>h) h
    split at h
    ·rename_i hg;exact run (fun e h1 _=>.inl (by rw[h1];exact hg)) h
    ·rename_i j want hg;split at h
     ·rename_i oj hj;split at h
      ·rename_i dj hk;split at h
       ·rename_i b hb;cases hc:(bif want then b else !b) with
        |true=>
         rw[hc] at h;have:b=want:=by cases b<;>cases want<;>first|rfl|cases hc
         subst this;exact run (fun e h1 h2=>.inr ⟨j,b,oj,dj,by rw[h1];exact hg,hj,hk,by rw[h2];exact hb⟩) h
        |false=>
         rw[hc] at h;have:b≠want:=by cases b<;>cases want<;>first|(intro h;cases h;done)|cases hc
         exact skip (fun e h1 h2=>⟨j,want,oj,dj,by rw[h1];exact hg,hj,hk,.inl ⟨b,by rw[h2];exact hb,this⟩⟩) h
       ·split at h
        ·rename_i hu;exact skip (fun e h1 h2=>⟨j,want,oj,dj,by rw[h1];exact hg,hj,hk,.inr hu⟩) h
        ·rename_i x hx;have MB:∀b,x=b->iU st ((dj,b)::kn):=by
          intro b e d b' hd;simp only[q9] at hd;cases hq:Nat.beq dj d with
          |true=>rw[hq,cond_true] at hd;injection hd with hd;have:=zg hq;subst this hd e;exact hx
          |false=>rw[hq,cond_false] at hd;exact hf d b' hd
         cases x with
         |true=>exact ih i (o::r) st _ tr h (MB true rfl)
         |false=>exact ih i (o::r) st _ tr h (MB false rfl)
        ·cases h
      ·cases h
     ·cases h
end
inductive Cc (all:List Oper):Nat->Nat->Prop where
 |IE {i:Nat} {o:Oper} {e:Edge} (h1:all[i]?=some o) (h2:e∈o.after.toList) (h3:Region.binds .any e=true):Cc all i e.on
 |trans {i a:Nat} {o:Oper} {e:Edge} (h1:all[i]?=some o) (h2:e∈o.after.toList) (h3:Region.binds .any e=true) (h4:Cc all e.on a):Cc all i a
theorem qpf{t a:Nat}(h:Nat.testBit (bit t) a=true):a=t:=by
 unfold bit at h;rw[Nat.testBit_shiftLeft,zd] at h;obtain⟨h1,h2⟩:=h;have h1:t<=a:=by simpa using h1
 have:a-t=0:=zM fun hn=>by obtain⟨m,hm⟩:∃m,a-t=m+1:=⟨a-t-1,by omega⟩;rw[hm,Nat.testBit_succ] at h2;simp at h2
 omega
theorem qrd{all:List Oper}{acc:List Nat}(hc:∀i a,Nat.testBit (acc.getD i 0) a=true->Cc all i a){i:Nat}{o:Oper}(ho:all[i]?=some o):∀(l:List Edge) (s:Nat),(∀e,e∈l->e∈o.after.toList)->(∀a,Nat.testBit s a=true->Cc all i a)->∀a,Nat.testBit (l.foldl (fun s e=>bif Region.binds .any e then s|||bit e.on|||acc.getD e.on 0 else s) s) a=true->Cc all i a
 |[],s,_,hs,a,h=>hs a h
 |e::l,s,hl,hs,a,h=>by
  refine qrd hc ho l _ (fun q hq=>hl q (zm _ hq)) ?_ a h;intro a ha;replace ha:Nat.testBit (bif Region.binds .any e then s|||bit e.on|||acc.getD e.on 0 else s) a=true:=ha;cases hb:Region.binds .any e with
  |false=>rw[hb,cond_false] at ha;exact hs a ha
  |true=>
   rw[hb,cond_true,Nat.testBit_or,Nat.testBit_or,Bool.or_eq_true,Bool.or_eq_true] at ha;rcases ha with (ha|ha)|ha
   ·exact hs a ha
   ·rw[qpf ha];exact .IE ho (hl e (zj ..)) hb
   ·exact .trans ho (hl e (zj ..)) hb (hc _ _ ha)
theorem WA{all:List Oper}:∀(r pre:List Oper) (acc:List Nat),all=pre++r->acc.length=pre.length->(∀i a,Nat.testBit (acc.getD i 0) a=true->Cc all i a)->∀i a,Nat.testBit ((fS r acc).getD i 0) a=true->Cc all i a
 |[],pre,acc,_,_,hc=>hc
 |o::r,pre,acc,hd,he,hc=>by
  refine WA r (pre++[o]) _ (by rw[hd];simp) (by simp[he]) ?_;have ho:all[pre.length]?=some o:=by rw[hd];simp
  intro i a h;by_cases hi:i<acc.length
  ·rw[List.getD_eq_getElem?_getD,ja hi,<-List.getD_eq_getElem?_getD] at h;exact hc i a h
  ·by_cases hf:i=acc.length
   ·rw[List.getD_eq_getElem?_getD,zR om,hf,Nat.sub_self] at h;rw[hf,he];exact qrd hc ho o.after.toList 0 (fun _ h=>h) (fun a h=>by simp at h) a h
   ·rw[List.getD_eq_getElem?_getD,zU (by simp;omega)] at h;simp at h
theorem WB{all:List Oper}{S:Nat->Bool}(hS:∀i o,all[i]?=some o->S i=true->∀e,e∈o.after.toList->Region.binds .any e=true->S e.on=true){i a:Nat}(h:Cc all i a):S i=true->S a=true:=by
 induction h with
 |IE h1 h2 h3=>exact fun hi=>hS _ _ h1 hi _ h2 h3
 |trans h1 h2 h3 _ ih=>exact fun hi=>ih (hS _ _ h1 hi _ h2 h3)
theorem qwy{all:List Oper}{S:Nat->Bool}(hS:∀i o,all[i]?=some o->S i=true->∀e,e∈o.after.toList->Region.binds .any e=true->S e.on=true){i a:Nat}{o:Oper}(ho:all[i]?=some o)(hr:∀e,e∈o.after.toList->Region.binds .any e=true->S e.on=true)(h:Cc all i a):S a=true:=by
 cases h with
 |IE h1 h2 h3=>rw[ho] at h1;injection h1 with h1;subst h1;exact hr _ h2 h3
 |trans h1 h2 h3 h4=>rw[ho] at h1;injection h1 with h1;subst h1;exact WB hS h4 (hr _ h2 h3)
theorem qms{d:Nat}:∀{l:List Nat},BS d l=true->d∉l
 |[],_=>by simp
 |b::r,h=>by
  simp only[BS] at h;cases hb:Nat.beq b d with
  |true=>rw[hb] at h;cases h
  |false=>
   rw[hb] at h;have hr:=qms h;intro hm;rcases zt.1 hm with hm|hm
   ·subst hm;rw[Nat.beq_refl] at hb;cases hb
   ·exact hr hm
theorem qwz{S S':Nat->Bool}{t:Nat}:∀(es:List En) (st bN:St),st.env t=bN.env t->(∀q,q∈es->S q.i≠S' q.i->q.op.dst≠some t)->(eB S es st).env t=(eB S' es bN).env t
 |[],_,_,h,_=>h
 |q::es,st,bN,h,hq=>by
  have hr:=fun p hp=>hq p (zm q hp);show(eB S es (bif S q.i then q.app st else st)).env t=(eB S' es (bif S' q.i then q.app bN else bN)).env t;refine qwz es _ _ ?_ hr;by_cases e:S q.i=S' q.i
  ·rw[e];cases S' q.i with
   |false=>exact h
   |true=>
    show(q.app st).env t=(q.app bN).env t;rcases xz q st t with ⟨h1,h2⟩|⟨h1,h2⟩<;>rcases xz q bN t with ⟨h3,h4⟩|⟨h3,h4⟩
    ·rw[h2,h4]
    ·exact absurd h1 h3
    ·exact absurd h3 h1
    ·rw[h2,h4,h]
  ·have hd:=hq q (zj ..) e;have one:∀(b:Bool) (s:St),(bif b then q.app s else s).env t=s.env t:=by
    intro b s;cases b with
    |false=>rfl
    |true=>
     rcases xz q s t with ⟨h1,_⟩|⟨_,h2⟩
     ·exact absurd h1 hd
     ·exact h2
   rw[one,one,h]
theorem qx0{S S':Nat->Bool}{id:Nat}:∀(es:List En) (st bN:St),st.obj id=bN.obj id->(∀q,q∈es->S q.i≠S' q.i->id∉bO q.u)->(eB S es st).obj id=(eB S' es bN).obj id
 |[],_,_,h,_=>h
 |q::es,st,bN,h,hq=>by
  have hr:=fun p hp=>hq p (zm q hp);show(eB S es (bif S q.i then q.app st else st)).obj id=(eB S' es (bif S' q.i then q.app bN else bN)).obj id;refine qx0 es _ _ ?_ hr;have WC:∀s s':St,s.obj id=s'.obj id->(q.app s).obj id=(q.app s').obj id:=by
   intro s s' hs;rw[GX,GX];by_cases hk:id∈bO q.u
   ·exact Ob hk
   ·rw[gj hk,gj hk,hs]
  by_cases e:S q.i=S' q.i
  ·rw[e];cases S' q.i with
   |false=>exact h
   |true=>exact WC st bN h
  ·have hd:=hq q (zj ..) e;have one:∀(b:Bool) (s:St),(bif b then q.app s else s).obj id=s.obj id:=by
    intro b s;cases b with
    |false=>rfl
    |true=>show(q.app s).obj id=s.obj id;rw[GX,gj hd]
   rw[one,one,h]
theorem Ov{a b:List Nat}(h:CN a b=true):∀x,x∈a->x∉b:=by intro x hx hb;unfold CN at h;have:=zS.1 h x hx;rw[cC.2 hb] at this;cases this
theorem WD{d:Option Nat}{l:List Nat}(h:Vc d l=true):∀t,d=some t->t∉l:=by rintro t rfl;exact qms h
theorem qpg{uC:List Nat}{all:List Oper}{b:Tr}{r:List Tr}:R2 uC all b r=true->∀a,a∈r->CO uC all a b=true:=by
 induction r with
 |nil=>intro _ a ha;cases ha
 |cons x r ih=>
  intro h a ha;simp only[R2,zd] at h;rcases zt.1 ha with ha|ha
  ·subst ha;exact h.1
  ·exact ih h.2 a ha
theorem S2{uC:List Nat}{all:List Oper}:∀(l1 l2:List Tr) (b:Tr),oU uC all (l1++b::l2)=true->∀a,a∈l2->CO uC all a b=true
 |[],l2,b,h=>by simp only[List.nil_append,oU,zd] at h;exact qpg h.1
 |x::l1,l2,b,h=>by simp only[List.cons_append,oU,zd] at h;exact S2 l1 l2 b h.2
def Down(all:List Oper)(S:Nat->Bool):Prop:=∀i o,all[i]?=some o->S i=true->∀e,e∈o.after.toList->Region.binds .any e=true->S e.on=true
theorem z69{all:List Oper}{S:Nat->Bool}(hS:Down all S){l1 l2:List En}{e:En}{o:Oper}(ho:all[e.i]?=some o)(hr:∀ed,ed∈o.after.toList->Region.binds .any ed=true->S ed.on=true)(hj:S e.i=false)(hd:oU (fS all []) all ((l1++e::l2).map En.tr).reverse=true)(h1:∀q,q∈l1->q.i<e.i)(h2:∀q,q∈l2->e.i<q.i):∀q,q∈l1++e::l2->S q.i≠decide (q.i<e.i)->(∀t,q.op.dst=some t->t∉L8 all e.op)/\(∀id,id∈bO q.u->id∉e.F/\id∉bO e.u):=by
 have he:=WA (all:=all) all [] [] rfl rfl (fun i a h=>by simp at h);intro q hq hc;rcases zL.1 hq with hq|hq
 ·
  have hk:=h1 q hq;have hg:S q.i=false:=by
   cases hs:S q.i with
   |false=>rfl
   |true=>rw[hs] at hc;simp[hk] at hc
  have hp:CO (fS all []) all q.tr e.tr=true:=by
   refine S2 (l2.map En.tr).reverse (l1.map En.tr).reverse e.tr ?_ q.tr ?_
   ·rw[zP,zI,List.reverse_append,List.reverse_cons,zC] at hd;exact hd
   ·exact List.mem_reverse.2 (List.mem_map_of_mem hq)
  unfold CO at hp;rw[Bool.or_eq_true] at hp;rcases hp with hp|hp
  ·have:=qwy hS ho hr (he _ _ hp);have this:S q.i=true:=this;rw[hg] at this;cases this
  ·unfold R1 at hp;simp only[zd] at hp;obtain⟨⟨⟨a1,_⟩,a3⟩,_⟩:=hp;exact⟨fun t ht hm=>WD a1 t ht (List.mem_append_left _ hm),fun id hf=>⟨fun h=>Ov a3 id hf (List.mem_append_left _ h),fun h=>Ov a3 id hf (List.mem_append_right _ h)⟩⟩
 ·rcases zt.1 hq with hq|hq
  ·subst hq;rw[hj] at hc;simp at hc
  ·
   have hk:=h2 q hq;have hg:S q.i=true:=by
    cases hs:S q.i with
    |true=>rfl
    |false=>rw[hs] at hc;simp at hc;omega
   have hp:CO (fS all []) all e.tr q.tr=true:=by
    obtain⟨m1,m2,rfl⟩:=List.append_of_mem hq;refine S2 (m2.map En.tr).reverse ((l1++e::m1).map En.tr).reverse q.tr ?_ e.tr ?_
    ·have e1:l1++e::(m1++q::m2)=(l1++e::m1)++q::m2:=by simp
     rw[e1,zP,zI,List.reverse_append,List.reverse_cons,zC] at hd;exact hd
    ·exact List.mem_reverse.2 (List.mem_map_of_mem (List.mem_append_right _ (zj ..)))
   unfold CO at hp;rw[Bool.or_eq_true] at hp;rcases hp with hp|hp
   ·have:=WB hS (he _ _ hp) hg;have this:S e.i=true:=this;rw[hj] at this;cases this
   ·unfold R1 at hp;simp only[zd] at hp;obtain⟨⟨⟨_,a2⟩,a3⟩,a4⟩:=hp;exact⟨fun t ht hm=>WD a2 t ht hm,fun id hf=>⟨fun h=>Ov a4 id hf h,fun h=>Ov a3 id h (List.mem_append_right _ hf)⟩⟩
theorem WE{S:Nat->Bool}:∀(l:List En) (st:St),(∀q,q∈l->S q.i=false)->eB S l st=st
 |[],_,_=>rfl
 |q::l,st,h=>by show eB S l (bif S q.i then q.app st else st)=st;rw[h q (zj ..)];exact WE l st fun p hp=>h p (zm _ hp)
theorem WG{S:Nat->Bool}:∀(l:List En) (st:St),(∀q,q∈l->S q.i=true)->eB S l st=ke l st
 |[],_,_=>rfl
 |q::l,st,h=>by show eB S l (bif S q.i then q.app st else st)=ke l (q.app st);rw[h q (zj ..)];exact WG l _ fun p hp=>h p (zm _ hp)
theorem zap{all:List Oper}{S:Nat->Bool}(hS:Down all S){l1 l2:List En}{e:En}{o:Oper}(ho:all[e.i]?=some o)(hr:∀ed,ed∈o.after.toList->Region.binds .any ed=true->S ed.on=true)(hj:S e.i=false)(hd:oU (fS all []) all ((l1++e::l2).map En.tr).reverse=true)(h1:∀q,q∈l1->q.i<e.i)(h2:∀q,q∈l2->e.i<q.i)(st:St):(∀t,t∈L8 all e.op->(eB S (l1++e::l2) st).env t=(ke l1 st).env t)/\(∀id,(id∈e.F\/id∈bO e.u)->(eB S (l1++e::l2) st).obj id=(ke l1 st).obj id):=by
 have hg:=z69 hS ho hr hj hd h1 h2;have hc:eB (fun i=>decide (i<e.i)) (l1++e::l2) st=ke l1 st:=by
  rw[S1,WG l1 st (fun q hq=>by simpa using h1 q hq)];refine WE _ _ fun q hq=>?_;rcases zt.1 hq with hq|hq
  ·subst hq;simp
  ·have:=h2 q hq;simp;omega
 refine⟨fun t ht=>?_,fun id hl=>?_⟩
 ·rw[<-hc];exact qwz _ _ _ rfl fun q hq he hf=>(hg q hq he).1 t hf ht
 ·rw[<-hc];refine qx0 _ _ _ rfl fun q hq he hk=>?_;obtain⟨g1,g2⟩:=(hg q hq he).2 id hk;exact hl.elim g1 g2
theorem qiy{o:Nat->Obj}:∀(F l:List Nat),xm o F l=true->∀id,id∈l->∀j,j∈xl (o id)->j∈F
 |F,x::r,h,id,hi,j,hj=>by
  simp only[xm,zd] at h;have key:∀(l m:List Nat),R3 l m=true->∀q,q∈l->q∈m:=by
   intro l m
   induction l with
   |nil=>intro _ q hq;cases hq
   |cons y l ih=>
    intro h q hq;simp only[R3,zd] at h;rcases zt.1 hq with hq|hq
    ·subst hq;exact cC.1 h.1
    ·exact ih h.2 q hq
  rcases zt.1 hi with hi|hi
  ·subst hi;exact key _ _ h.1 j hj
  ·exact qiy F r h.2 id hi j hj
theorem qx1(o:Nat->Obj):∀(n:Nat) (l:List Nat) (x:Nat),x∈l->x∈R0 o n l
 |0,_,_,h=>h
 |_+1,_,_,h=>List.mem_append_left _ h
theorem qre:∀{l:List V} {v:V} {id:Nat},v∈l->id∈ek v->id∈gh l
 |x::l,v,id,hv,hi=>by
  unfold gh;rcases zt.1 hv with rfl|hv
  ·exact List.mem_append_left _ hi
  ·exact List.mem_append_right _ (qre hv hi)
theorem WH:∀{l:List Operand} {t:Nat},t∈jo l->Operand.tmp t∈l
 |x::r,t,h=>by
  cases x<;>simp only[jo] at h<;>try exact zm _ (WH h)
  rcases zt.1 h with h|h
  ·subst h;exact zj ..
  ·exact zm _ (WH h)
theorem qmt{C:Cx}{nt:Nat}{X:Nat->Prop}{φ:Nat->Addr}{st:St}{a:Act}{w:World}(hR:Rel C nt X φ st a w){kn:List (Nat×Bool)}{ops:List Operand}(hk:∀d b,d∈jo ops->q9 d kn=some b->st.env d=.d .bool b){F:List Nat}(hF:∀id,id∈gh (ops.map (cm C st.env))->id∈F)(hm:MRel C (Xr X φ st.obj F) φ (dD st.obj F) w):∀x,av φ (dD st.obj F) (ah (Xr X φ st.obj F) φ (dD st.obj F) w) w (cm C (fI st.env kn (jo ops)) x) (a.eval x):=by
 intro x;cases x with
 |tmp t=>
  show av φ _ _ w (dx (fI st.env kn (jo ops) t)) (a.tmps.getD t undef);unfold fI;cases hh:bI t (jo ops) with
  |false=>trivial
  |true=>
   rw[cond_true];have ht:=cC.1 hh;split
   ·rename_i b hb;have hz:=hR.env t;rw[hk t b ht hb] at hz;have:=oE hz;rw[this];exact BZ
   ·exact qg3 (fun id hi=>hF id (qre (List.mem_map_of_mem (WH ht)) hi)) (NN (hR.env t))
 |const v=>exact Vo v
 |global g=>
  simp only[cm,Act.eval];split
  ·rename_i e;exact hm.eG _ _ _ e
  ·trivial
 |func f=>
  simp only[Ev.cm];cases h:Nat.blt f 1048576 with
  |false=>simp[av]
  |true=>exact⟨#[],(NL (zF h) #[]).symm,rfl⟩
section
variable {C:Cx} {R:gY C.sigs} {nt:Nat}
theorem qhu(hC:cu C)(hE:ka C)(HC:∀X φ o w,MRel C X φ o w->∀fr f,C1 C R X φ o w fr f){X:Nat->Prop}{φ:Nat->Addr}{st:St}{a:Act}{w:World}(hR:Rel C nt X φ st a w){o:Oper}{kn:List (Nat×Bool)}{F:List Nat}{fr:Nat}(he:∀d b,d∈jo o.op.operands.toList->q9 d kn=some b->st.env d=.d .bool b)(hF:∀id,id∈gh (o.op.operands.toList.map (cm C st.env))->id∈F)(hf:xm st.obj F F=true){v:V}{u:List (Nat×Obj)}(hg:(cL lf C R (fI st.env kn (jo o.op.operands.toList)) (dD st.obj F) fr o.type o.op).aG v u)(hd:∀id,id∈bO u->id∉F->st.obj id=.none)(hk:j9 fr (dD st.obj F) u){K:Act->World->Prop}{Q:Exit->Act->World->Prop}(hK:∀val w' φ',Comes C X φ φ' st.obj u w w' v val->K (a.put o.dst val) w'):o.wp C.P a w K Q:=by have hm:=hR.toMRel.restrict (F:=F) (fun id hi j hj=>qiy F F hf id hi j hj);have hl:=V5 hC hE hm (qmt hR he hF hm) (HC _ _ _ _ hm fr) hg hk;exact hl.upon fun val w' φ' hc=>by obtain⟨fT,h⟩:=hc.rl hR.toMRel hd;exact hK val w' fT h
end
theorem qe4{o o':Nat->Obj}(F:List Nat):∀(l:List Nat),(∀id,id∈l->o id=o' id)->xm o F l=xm o' F l
 |[],_=>rfl
 |x::l,h=>by simp only[xm];rw[h x (zj ..),qe4 F l fun id hi=>h id (zm _ hi)]
theorem qrf:∀{u:List (Nat×Obj)} {id:Nat},id∈bO u->∃p,p∈u/\p.1=id
 |p::r,id,h=>by
  rcases zt.1 h with h|h
  ·exact⟨p,zj ..,h.symm⟩
  ·obtain⟨q,h1,h2⟩:=qrf h;exact⟨q,zm _ h1,h2⟩
theorem qiz{F:List Nat}{fr:Nat}:∀{l:List Nat},H5 F fr l=true->∀id,id∈l->id∈F\/(fr<=id/\id<fr+16)
 |[],_,id,h=>by cases h
 |x::l,hk,id,h=>by
  simp only[H5,zd,Bool.or_eq_true] at hk;rcases zt.1 h with h|h
  ·subst h;exact hk.1.imp cC.1 fun h=>⟨zF h.1,zF h.2⟩
  ·exact qiz hk.2 id h
section
variable {C:Cx} {R:gY C.sigs} {nt:Nat}
theorem qmu{st:St}{o:Oper}(h:CP o.op=false):oB C st o=R0 st.obj 4 (gh (o.op.operands.toList.map (cm C st.env))):=by unfold oB;split<;>first|rfl|(rename_i e;rw[e] at h;cases h)
theorem qx2{o:Nat->Obj}{F:List Nat}{v:V}(h:sure (dD o F) v=true)(hF:∀id,id∈ek v->id∈F):sure o v=true:=by
 cases v<;>simp only[sure] at h ⊢<;>try exact h
 rename_i id off;rw[lO (hF id (by simp[ek]))] at h;exact h
theorem qtp{o:Nat->Obj}{F:List Nat}{v v':V}{u:List (Nat×Obj)}(h:(L7 (dD o F) v).aG v' u)(hF:∀id,id∈ek v->id∈F):(L7 o v).aG v' u:=by
 unfold L7 at h ⊢;split at h
 ·rw[df] at h ⊢;exact⟨qx2 h.1 hF,h.2⟩
 ·exact h
 ·rename_i id ver i path;rw[lO (hF id (by simp[ek]))] at h;exact h
 ·exact h
 ·cases h
theorem qen{o:Nat->Obj}{F:List Nat}{t:TypeId}{v v':V}{f:Nat}{u:List (Nat×Obj)}(h:(L6 C (dD o F) t v f).aG v' u)(hF:∀id,id∈ek v->id∈F):(L6 C o t v f).aG v' u:=by
 unfold L6 at h ⊢;cases hc:Nj C.P t f with
 |none=>rw[hc] at h;cases h
 |some fd=>
  rw[hc] at h;simp only at h ⊢;cases hk:uv C.P fd.type with
  |none=>rw[hk] at h;cases h
  |some p=>
   rw[hk] at h;simp only at h ⊢;rw[df] at h ⊢;refine⟨h.1,?_⟩;replace h:=h.2;cases v<;>try exact h
   ·rename_i id off;simp only at h ⊢;rw[lO (hF id (by simp[ek]))] at h;exact h
   ·rename_i id ver i path;simp only at h ⊢;rw[lO (hF id (by simp[ek]))] at h;exact h
theorem qpi{st:St}{kn:List (Nat×Bool)}{o:Oper}{fr:Nat}(hl:CP o.op=true)(hd:∀d b,d∈jo o.op.operands.toList->q9 d kn=some b->st.env d=.d .bool b){F:List Nat}(hF:F=oB C st o){v:V}{u:List (Nat×Obj)}(hg:(cL lf C R (fI st.env kn (jo o.op.operands.toList)) (dD st.obj F) fr o.type o.op).aG v u):(cL lf C R st.env st.obj fr o.type o.op).aG v u:=by
 have hc:∀x,x∈o.op.operands.toList->cm C (fI st.env kn (jo o.op.operands.toList)) x=cm C st.env x:=by
  intro x hx;cases x with
  |tmp t=>
   have ht:t∈jo o.op.operands.toList:=by
    revert hx;generalize o.op.operands.toList=l;intro hx
    induction l with
    |nil=>cases hx
    |cons y r ih=>
     rcases zt.1 hx with h|h
     ·subst h;exact zj ..
     ·cases y<;>first|exact ih h|exact zm _ (ih h)
   show dx (fI st.env kn _ t)=dx (st.env t);unfold fI;rw[cC.2 ht,cond_true];split
   ·rename_i b hb;rw[hd t b ht hb];rfl
   ·rfl
  |_=>rfl
 obtain⟨i,op,ty,pos,after,guard⟩:=o;cases op<;>simp only[CP] at hl<;>try (cases hl;done)
 ·rename_i x;simp only[cL] at hg ⊢;rw[hc x (by simp[Op.operands])] at hg;exact hg
 ·rename_i x;simp only[cL] at hg ⊢;rw[hc x (by simp[Op.operands])] at hg;exact hg
 ·rename_i x;simp only[cL] at hg ⊢;rw[hc x (by simp[Op.operands])] at hg;exact qtp hg (fun id h=>by rw[hF];exact h)
 ·rename_i t x f;simp only[cL] at hg ⊢;rw[hc x (by simp[Op.operands])] at hg;exact qen hg (fun id h=>by rw[hF];exact h)
theorem qx3(hC:cu C)(hE:ka C)(HC:∀X φ o w,MRel C X φ o w->∀fr f,C1 C R X φ o w fr f){ops:Array Oper}{rg:Nat}{X:Nat->Prop}{φ:Nat->Addr}{st0:St}{S:Nat->Bool}{l1 l2:List En}{e:En}{a:Act}{w:World}(ho:ops.toList[e.i]?=some e.op)(hS:Down ops.toList S)(hr:∀ed,ed∈e.op.after.toList->Region.binds .any ed=true->S ed.on=true)(hB:S e.i=false)(hd:oU (fS ops.toList []) ops.toList ((l1++e::l2).map En.tr).reverse=true)(h1:∀q,q∈l1->q.i<e.i)(h2:∀q,q∈l2->e.i<q.i)(hD:H5 e.F (jn rg e.i) (bO e.u)=true)(hG:xA C R rg ops.toList (ke l1 st0) e)(hq:iU (ke l1 st0) e.kn)(hR:Rel C nt X φ (eB S (l1++e::l2) st0) a w){K:Act->World->Prop}{Q:Exit->Act->World->Prop}(hK:∀z w' φ',Comes C X φ φ' (eB S (l1++e::l2) st0).obj e.u w w' e.v z->K (a.put e.op.dst z) w'):wpOp C.P ops Q e.i K a w:=by
 obtain⟨WI,WJ⟩:=zap hS ho hr hB hd h1 h2 st0;generalize eB S (l1++e::l2) st0=st at*
 have hH:ops[e.i]?=some e.op:=by rw[<-zN];exact ho
 have GY:∀j want oj dj,e.op.guard=some (j,want)->ops.toList[j]?=some oj->oj.dst=some dj->dj∈L8 ops.toList e.op:=fun j want oj dj g1 g2 g3=>by unfold L8;refine List.mem_append_right _ ?_;rw[g1];simp only;rw[g2];simp only;rw[g3];exact zj ..
 unfold wpOp;simp only[hH];rcases hG with ⟨_,⟨j,want,oj,dj,g1,g2,g3,g4⟩,hv,hu,_⟩|⟨_,hw,hF,hA,hg,hf⟩
 ·have hz:=hR.env dj;rw[WI dj (GY j want oj dj g1 g2 g3)] at hz;have hy:Region.wanted e.op (yielded ops a.tmps)=false:=by
   unfold Region.wanted;rw[g1];simp only;rcases g4 with ⟨b,hb,hI⟩|hJ
   ·rw[hq dj b hb] at hz;rw[Wn g2 g3 (oE hz)];cases b<;>cases want<;>first|rfl|exact absurd rfl hI
   ·rw[hJ] at hz;rw[qgc g2 g3 hz];rfl
  rw[if_neg (by rw[hy];simp)];exact hK undef w φ (by rw[hu,hv];exact .same hR.toMRel rfl)
 ·have hy:Region.wanted e.op (yielded ops a.tmps)=true:=by
   unfold Region.wanted;rcases hw with hw|⟨j,want,oj,dj,g1,g2,g3,g4⟩
   ·rw[hw]
   ·have hz:=hR.env dj;rw[WI dj (GY j want oj dj g1 g2 g3),hq dj want g4] at hz;rw[g1];simp only;rw[Wn g2 g3 (oE hz)];simp
  rw[if_pos hy];have lt:∀t,t∈jo e.op.op.operands.toList->st.env t=(ke l1 st0).env t:=fun t ht=>WI t (List.mem_append_left _ ht);have hn:e.op.op.operands.toList.map (cm C st.env)=e.op.op.operands.toList.map (cm C (ke l1 st0).env):=by
   apply jd;intro x hx;cases x with
   |tmp t=>
    have ht:t∈jo e.op.op.operands.toList:=by
     revert hx;generalize e.op.op.operands.toList=l;intro hx
     induction l with
     |nil=>cases hx
     |cons y r ih=>
      rcases zt.1 hx with h|h
      ·subst h;exact zj ..
      ·cases y<;>first|exact ih h|exact zm _ (ih h)
    show dx (st.env t)=dx ((ke l1 st0).env t);rw[lt t ht]
   |_=>rfl
  have hj:∀id,id∈e.F->st.obj id=(ke l1 st0).obj id:=fun id h=>WJ id (.inl h);have eR:fI st.env e.kn (jo e.op.op.operands.toList)=fI (ke l1 st0).env e.kn (jo e.op.op.operands.toList):=funext fun t=>by
   unfold fI;cases hh:bI t (jo e.op.op.operands.toList) with
   |false=>rfl
   |true=>rw[lt t (cC.1 hh)]
  have oR:dD st.obj e.F=dD (ke l1 st0).obj e.F:=funext fun id=>by
   by_cases h:id∈e.F
   ·rw[lO h,lO h,hj id h]
   ·rw[uH h,uH h]
  cases hk:CP e.op.op with
  |true=>
   have hL:e.F=oB C st e.op:=by
    rw[hF];unfold oB;have one:∀x,x∈e.op.op.operands.toList->cm C st.env x=cm C (ke l1 st0).env x:=fun x hx=>by have:=List.map_inj_left.1 hn x hx;exact this
    split
    ·rfl
    ·rfl
    ·rename_i x ex;rw[one x (by rw[ex];simp[Op.operands])]
    ·rename_i t x f ex;rw[one x (by rw[ex];simp[Op.operands])]
    ·rename_i h1 h2 h3 h4;exfalso;cases he:e.op.op<;>rw[he] at hk<;>simp only[CP] at hk<;>first|(cases hk;done)|exact h1 _ he|exact h2 _ he|exact h3 _ he|exact h4 _ _ _ he
   have hM:=qpi (fr:=jn rg e.i) hk (fun d b hs hb=>by rw[lt d hs];exact hq d b hb) hL (by rw[eR,oR];exact hg);have hN:j9 (jn rg e.i) st.obj e.u:=fun p hp h3 h4=>by rw[WJ p.1 (.inr (Sz hp))];exact hf p hp h3 h4
   have hl:=V5 hC hE hR.toMRel (fun x=>hR.cm x) (HC _ _ _ _ hR.toMRel (jn rg e.i)) hM hN;exact .inl (hl.upon fun val w' φ' hc=>hK val w' φ' hc)
  |false=>
  rw[hk,Bool.false_or] at hA;rw[qmu hk] at hF;refine .inl (qhu hC hE HC hR ?_ ?_ ?_ (by rw[eR,oR];exact hg) ?_ ?_ hK)
  ·intro d b hs hb;rw[lt d hs];exact hq d b hb
  ·intro id hm;rw[hn] at hm;rw[hF];exact qx1 _ _ _ _ hm
  ·rw[qe4 e.F e.F (fun id h=>hj id h)];exact hA
  ·intro id hm hO;rw[WJ id (.inr hm)];obtain⟨p,hp,rfl⟩:=qrf hm;rcases qiz hD p.1 hm with h|⟨h3,h4⟩
   ·exact absurd h hO
   ·exact hf p hp h3 h4
  ·intro p hp h3 h4;by_cases h:p.1∈e.F
   ·rw[lO h,hj _ h];exact hf p hp h3 h4
   ·exact uH h
end
section
variable {C:Cx} {R:gY C.sigs} {nt:Nat}
theorem Rel.drawn{X:Nat->Prop}{φ:Nat->Addr}{st:St}{a:Act}{w:World}(h:Rel C nt X φ st a w):Rel C nt X φ st a {w with drawn:=w.drawn+1}:=by have hw:({w with drawn:=w.drawn+1}:World).heap=w.heap:=rfl;generalize ({w with drawn:=w.drawn+1}:World)=w' at hw;have hc:∀b,ah X φ st.obj w b->ah X φ st.obj w' b:=fun b hb=>⟨by rw[hw];exact hb.1,hb.2⟩;have keeps:∀x z,av φ st.obj (ah X φ st.obj w) w x z->av φ st.obj (ah X φ st.obj w') w' x z:=fun x z hx=>wA hc (fun _ _=>by rw[hw]) (fun _=>Up.same fun _ n hr=>CU (by rw[hw]) hr) x z hx;exact⟨⟨fun id=>Ih hc (fun _ _=>by rw[hw]) keeps rfl (fun _=>by rw[hw]) (h.aw id),h.inj,(fun i hi=>by rw[hw];exact h.sep i hi),(fun b hb=>by rw[hw];exact h.xs b hb),(fun id=>h.toMRel.iT id (fun _=>.same (by rw[hw])) (fun _ _=>by rw[hw])),fun g t x hg=>keeps _ _ (h.eG g t x hg),h.toMRel.mP (fun _ _=>by rw[hw])⟩,h.size,fun t=>keeps _ _ (h.env t),h.defers⟩
theorem qgk{rg:Nat}{all:List Oper}:∀(l1:List En) (i:Nat) (st:St) (e:En) (l2:List En),C6 C R rg all i st (l1++e::l2)->e.i=i+l1.length/\xA C R rg all (ke l1 st) e/\iU (ke l1 st) e.kn/\(∀q,q∈l1->q.i<i+l1.length)/\(∀q,q∈l2->i+l1.length<q.i)
 |[],i,st,e,l2,h=>by
  obtain⟨h1,h2,h3,_,h5⟩:=h;refine⟨h1,h2,h3,(fun q hq=>by cases hq),?_⟩;have key:∀(l:List En) (j:Nat) (s:St),C6 C R rg all j s l->∀q,q∈l->j<=q.i:=by
   intro l
   induction l with
   |nil=>intro _ _ _ q hq;cases hq
   |cons p l ih=>
    intro j s hr q hq;obtain⟨g1,_,_,_,g5⟩:=hr;rcases zt.1 hq with hq|hq
    ·subst hq;omega
    ·have:=ih (j+1) _ g5 q hq;omega
  intro q hq;have:=key l2 (i+1) _ h5 q hq;simp only[List.length_nil];omega
 |p::l1,i,st,e,l2,h=>by
  obtain⟨h1,_,_,_,h5⟩:=h;obtain⟨g1,g2,g3,g4,g5⟩:=qgk l1 (i+1) (p.app st) e l2 h5;simp only[zf];refine⟨by omega,g2,g3,fun q hq=>?_,fun q hq=>?_⟩
  ·rcases zt.1 hq with hq|hq
   ·subst hq;omega
   ·have:=g4 q hq;omega
  ·have:=g5 q hq;omega
theorem qmv{rg:Nat}:∀{l:List Tr},wy rg l=true->∀t,t∈l->L9 t.i t.op.after.toList=true/\H5 t.rd (jn rg t.i) t.wr=true
 |[],_,t,h=>by cases h
 |x::l,hk,t,h=>by
  simp only[wy,zd] at hk;rcases zt.1 h with h|h
  ·subst h;exact hk.1
  ·exact qmv hk.2 t h
theorem qmw{i:Nat}:∀{l:List Edge},L9 i l=true->∀e,e∈l->Region.binds .any e=true->e.on<i
 |[],_,e,h=>by cases h
 |x::l,hk,e,h=>by
  intro hb;simp only[L9,zd,Bool.or_eq_true] at hk;rcases zt.1 h with h|h
  ·subst h;rw[hb] at hk;exact zF (hk.1.resolve_left (by simp))
  ·exact qmw hk.2 e h hb
def jH(listed:Array Bool)(i:Nat):Bool:=listed.getD i false
theorem WK{ops:Array Oper}{listed:Array Bool}(hs:listed.size=ops.size){i:Nat}:i∈Region.ready .any ops listed↔∃o,ops[i]?=some o/\jH listed i=false/\∀e,e∈o.after.toList->Region.binds .any e=true->jH listed e.on=true:=by
 unfold Region.ready;rw[List.mem_filter,List.mem_range,zd];constructor
 ·rintro⟨h1,h2,h3⟩;have ho:ops[i]?=some ops[i]:=Array.getElem?_eq_getElem h1;refine⟨ops[i],ho,?_,?_⟩
  ·unfold jH;have hl:i<listed.size:=om
   simp only[Array.getD,hl,dif_pos] at h2 ⊢;simpa using h2
  ·rw[ho] at h3;simp only[Option.map_some,Option.getD_some] at h3;rw[<-Array.all_toList,zS] at h3;intro e he hb;have:=h3 e he;rw[hb] at this;simpa[jH] using this
 ·rintro⟨o,ho,h2,h3⟩;have h1:i<ops.size:=by
   rcases Nat.lt_or_ge i ops.size with h|h
   ·exact h
   ·rw[zY h] at ho;cases ho
  refine⟨h1,?_,?_⟩
  ·unfold jH at h2;have hl:i<listed.size:=om
   simp only[Array.getD,hl,dif_pos] at h2 ⊢;simpa using h2
  ·rw[ho];simp only[Option.map_some,Option.getD_some];rw[<-Array.all_toList,zS];intro e he;cases hb:Region.binds .any e with
   |false=>rfl
   |true=>have:=h3 e he hb;simpa[jH] using this
theorem z6a{listed:Array Bool}{i j:Nat}(hi:i<listed.size):jH (listed.setIfInBounds i true) j=(decide (i=j)||jH listed j):=by
 unfold jH;simp only[Array.getD_eq_getD_getElem?,Array.getElem?_setIfInBounds];by_cases h:i=j
 ·subst h;simp[hi]
 ·simp[h]
def IF(listed:Array Bool):Nat:=listed.toList.countP (fun b=>!b)
theorem qe5:∀(l:List Bool) (i:Nat),l[i]?=some false->(l.set i true).countP (fun b=>!b)+1=l.countP (fun b=>!b)
 |[],_,h=>by simp at h
 |b::l,0,h=>by simp at h;subst h;simp
 |b::l,i+1,h=>by have:=qe5 l i (by simpa using h);simp only[List.set_cons_succ,List.countP_cons];omega
theorem z6b{listed:Array Bool}{i:Nat}(hi:i<listed.size)(h:jH listed i=false):IF (listed.setIfInBounds i true)+1=IF listed:=by unfold IF;rw[Array.toList_setIfInBounds];refine qe5 _ _ ?_;unfold jH at h;simp only[Array.getD,hi,dif_pos] at h;rw[zN,Array.getElem?_eq_getElem hi];exact congrArg some h
theorem qtq{listed:Array Bool}(h:IF listed=0){i:Nat}(hi:i<listed.size):jH listed i=true:=by unfold IF at h;rw[List.countP_eq_zero] at h;unfold jH;simp only[Array.getD,hi,dif_pos];have:=h listed[i] (by simp);simpa using this
theorem qtr{ops:Array Oper}{listed:Array Bool}(hs:listed.size=ops.size)(hb:∀i o,ops[i]?=some o->∀e,e∈o.after.toList->Region.binds .any e=true->e.on<i)(h:Region.ready .any ops listed=[]):∀i,i<ops.size->jH listed i=true:=by
 intro i
 induction i using Nat.strongRecOn with
 |_ i ih=>
  intro hi;cases hl:jH listed i with
  |true=>rfl
  |false=>exfalso;have ho:ops[i]?=some ops[i]:=Array.getElem?_eq_getElem hi;have:i∈Region.ready .any ops listed:=(WK hs).2 ⟨_,ho,hl,fun e he hc=>by have:=hb i _ ho e he hc;exact ih _ this om⟩;rw[h] at this;cases this
end
theorem z8w{all:List Oper}{S:Nat->Bool}(hS:Down all S){l1 l2:List En}{e:En}(he:S e.i=false)(hd:oU (fS all []) all ((l1++e::l2).map En.tr).reverse=true):∀q,q∈l2->S q.i=true->(∀d,e.op.dst=some d->q.op.dst≠some d)/\∀id,id∈bO e.u->id∉bO q.u:=by
 have hc:=WA (all:=all) all [] [] rfl rfl (fun i a h=>by simp at h);intro q hq hf;have hp:CO (fS all []) all e.tr q.tr=true:=by
  obtain⟨m1,m2,rfl⟩:=List.append_of_mem hq;refine S2 (m2.map En.tr).reverse ((l1++e::m1).map En.tr).reverse q.tr ?_ e.tr ?_
  ·have e1:l1++e::(m1++q::m2)=(l1++e::m1)++q::m2:=by simp
   rw[e1,zP,zI,List.reverse_append,List.reverse_cons,zC] at hd;exact hd
  ·exact List.mem_reverse.2 (List.mem_map_of_mem (List.mem_append_right _ (zj ..)))
 unfold CO at hp;rw[Bool.or_eq_true] at hp;rcases hp with hp|hp
 ·have:=WB hS (hc _ _ hp) hf;have this:S e.i=true:=this;rw[he] at this;cases this
 ·unfold R1 at hp;simp only[zd] at hp;obtain⟨⟨⟨a1,_⟩,a3⟩,_⟩:=hp;refine⟨fun d hd hq=>?_,fun id h1 h2=>Ov a3 id h1 (List.mem_append_right _ h2)⟩;refine WD a1 d hd (List.mem_append_right _ ?_);have hq:q.tr.op.dst=some d:=hq;rw[hq];exact zj ..
section
variable {C:Cx} {R:gY C.sigs} {nt:Nat} {dN:Nat→Addr} {o0:Nat→Obj} {w0:World} {sk:List Nat}
theorem z1a(hC:cu C)(hE:ka C)(HC:∀X φ o w,MRel C X φ o w->∀fr f,C1 C R X φ o w fr f){ops:Array Oper}{rg:Nat}{X:Nat->Prop}{Q:Exit->Act->World->Prop}{st0:St}{es:List En}(hz:es.map (·.op)=ops.toList)(ht:C6 C R rg ops.toList 0 st0 es)(hd:oU (fS ops.toList []) ops.toList (es.map En.tr).reverse=true)(hk:wy rg (es.map En.tr).reverse=true)(hv:q7 nt ops.toList=true)(fin:Sound C nt X (HJ sk dN o0 w0) (ke es st0) (Q .normal)):∀(fuel:Nat) (listed:Array Bool) (X':Nat->Prop) (φ:Nat->Addr) (a:Act) (w:World),listed.size=ops.size->IF listed<=fuel->Down ops.toList (jH listed)->(∀b,X b->X' b)->Rel C nt X' φ (eB (jH listed) es st0) a w->cW sk dN o0 w0 φ (eB (jH listed) es st0).obj w->wpAny C.P .any ops Q fuel listed a w:=by
 have hw:es.length=ops.size:=by rw[<-zA (f:=(·.op)),hz,Array.length_toList]
 have split:∀i,i<es.length->∃l1 e l2,es=l1++e::l2/\l1.length=i/\e.i=i/\ops.toList[i]?=some e.op/\xA C R rg ops.toList (ke l1 st0) e/\iU (ke l1 st0) e.kn/\(∀q,q∈l1->q.i<i)/\(∀q,q∈l2->i<q.i):=by
  intro i hi;refine⟨es.take i,es[i],es.drop (i+1),?_,?_,?_⟩
  ·rw[<-List.drop_eq_getElem_cons hi,List.take_append_drop]
  ·rw[zJ];omega
  ·have e1:es=es.take i++es[i]::es.drop (i+1):=by rw[<-List.drop_eq_getElem_cons hi,List.take_append_drop]
   have hr:=ht;rw[e1] at hr;obtain⟨g1,g2,g3,g4,g5⟩:=qgk _ _ _ _ _ hr;have e2:(es.take i).length=i:=by rw[zJ];omega
   rw[e2] at g1 g4 g5;refine⟨by omega,?_,g2,g3,fun q hq=>by have:=g4 q hq;omega,fun q hq=>by have:=g5 q hq;omega⟩;rw[<-hz,zV,ze hi];rfl
 have trs:∀e,e∈es->L9 e.i e.op.after.toList=true/\H5 e.F (jn rg e.i) (bO e.u)=true:=fun e he=>qmv hk e.tr (List.mem_reverse.2 (List.mem_map_of_mem he));have back:∀i o,ops[i]?=some o->∀e,e∈o.after.toList->Region.binds .any e=true->e.on<i:=by
  intro i o ho ed he hb;have hi:i<es.length:=by
   rw[hw];rcases Nat.lt_or_ge i ops.size with h|h
   ·exact h
   ·rw[zY h] at ho;cases ho
  obtain⟨l1,e,l2,h1,_,h2,h3,_⟩:=split i hi;rw[zN,ho] at h3;injection h3 with h3;have:=(trs e (by rw[h1];exact List.mem_append_right _ (zj ..))).1;rw[h2] at this;exact qmw this ed (by rw[<-h3];exact he) hb
 have ilt:∀q,q∈es->q.i<ops.size:=by
  intro q hq;obtain⟨i,hi,rfl⟩:=List.mem_iff_getElem.1 hq;obtain⟨l1,e,l2,h1,h0,h2,_⟩:=split i hi;have:es[i]=e:=by
   have:es[i]?=some e:=by rw[h1,zR om,h0,Nat.sub_self];rfl
   rw[ze hi] at this;injection this
  rw[this,h2];omega
 have done:∀(listed:Array Bool) X' φ a w,listed.size=ops.size->(∀b,X b->X' b)->Rel C nt X' φ (eB (jH listed) es st0) a w->cW sk dN o0 w0 φ (eB (jH listed) es st0).obj w->Region.ready .any ops listed=[]->Q .normal a w:=by intro listed X' φ a w hs hX hR hJ hr;have hx:=qtr hs back hr;rw[WG es st0 fun q hq=>hx _ (ilt q hq)] at hR hJ;exact fin X' φ a w hX hR hJ
 intro fuel
 induction fuel with
 |zero=>
  intro listed X' φ a w hs hu hD hX hR hJ;have hr:Region.ready .any ops listed=[]:=by
   rw[List.eq_nil_iff_forall_not_mem];intro i hi;obtain⟨o,ho,hl,_⟩:=(WK hs).1 hi;have:i<listed.size:=by
    rcases Nat.lt_or_ge i listed.size with h|h
    ·exact h
    ·rw[zY om] at ho;cases ho
   rw[qtq om this] at hl;cases hl
  exact⟨hr,done listed X' φ a w hs hX hR hJ hr⟩
 |succ fuel ih=>
  intro listed X' φ a w hs hu hD hX hR hJ;refine⟨done listed X' φ a w hs hX hR hJ,fun i hi=>?_⟩;obtain⟨o,ho,hl,hf⟩:=(WK hs).1 hi;have hG:i<ops.size:=by
   rcases Nat.lt_or_ge i ops.size with h|h
   ·exact h
   ·rw[zY h] at ho;cases ho
  obtain⟨l1,e,l2,h1,_,h2,h3,h4,h5,h6,h7⟩:=split i om;have hA:o=e.op:=by rw[zN,ho] at h3;injection h3
  subst h2 hA;have hy:e∈es:=by rw[h1];exact List.mem_append_right _ (zj ..)
  have hB:=(trs e hy).2;have hF:Og nt e.op.dst:=qit hv e.op (zG h3);subst h1;refine qx3 hC hE HC (l1:=l1) (l2:=l2) (st0:=st0) h3 hD hf hl hd h6 h7 hB h4 h5 hR fun z w' φ' hc=>?_;have hg:∀j,jH (listed.setIfInBounds e.i true) j=(decide (e.i=j)||jH listed j):=fun j=>z6a om;have hn:eB (jH (listed.setIfInBounds e.i true)) (l1++e::l2) st0=e.app (eB (jH listed) (l1++e::l2) st0):=by
   refine z17 st0 (fun q hq=>?_) (fun q hq=>?_) hl (by rw[hg];simp) (z8w hD hl hd)
   ·have:=h6 q hq;rw[hg,zn om,Bool.false_or]
   ·have:=h7 q hq;rw[hg,zn om,Bool.false_or]
  refine ih _ X' φ' _ w' (by simpa using hs) ?_ ?_ hX ?_ ?_
  ·have:=z6b (listed:=listed) (i:=e.i) om hl;omega
  ·intro j oj hj hm ed he hb;rw[hg] at hm ⊢;rw[Bool.or_eq_true] at hm ⊢;right;rcases hm with hm|hm
   ·have hm:=jc hm;subst hm;rw[h3] at hj;injection hj with hj;subst hj;exact hf ed he hb
   ·exact hD j oj hj hm ed he hb
  ·rw[hn];exact hR.step hF hc
  ·rw[hn,GX];exact hJ.step hc
theorem z6c(hC:cu C)(hE:ka C)(hL:S0 C)(hm:C.P.follows .mixedOrders=true):qwv C:=by
 intro R hR nt sk dN o0 w0 rg ops n γ δ X Q wr st k y h hc hk X' φ a w hX he hJ;obtain⟨es,h1,h2,h3,h4⟩:=z68 n 0 ops.toList st [] [] h (fun d b hd=>by cases hd);rw[zu,zd] at h3;refine wp_region_any hm ?_;have hf:∀i,jH (Array.replicate ops.size false) i=false:=fun i=>by unfold jH;rw[Array.getD_eq_getD_getElem?,Array.getElem?_replicate];split<;>rfl
 have hg:eB (jH (Array.replicate ops.size false)) es st=st:=WE es st fun q _=>hf _;refine z1a hC hE (hL R hR) h1 h2 h3.1 h3.2 hc (hk _ h4) ops.size _ X' φ a _ (by simp) ?_ ?_ hX ?_ ?_
 ·unfold IF;exact Nat.le_trans List.countP_le_length (by simp)
 ·intro i o _ hs;rw[hf] at hs;cases hs
 ·rw[hg];exact he.drawn
 ·rw[hg];exact⟨hJ.size,hJ.frame,hJ.news,hJ.still,hJ.up⟩
end
end Ev