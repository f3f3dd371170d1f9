/- Regions that draw their order are sound. No statement of its own about the program. -/
import Derived.Test.YtfgngipmbogcjaaGreatDoorEvG
namespace Ev
open Go
structure En where
 i:Nat
 op:Oper
 sk:Bool
 kn:List (Nat×Bool)
 F:List Nat
 v:V
 u:List (Nat×Obj)
def En.app(e:En)(st:St):St:=bE {st with obj:=ak st.obj e.u} e.op.dst e.v
def dB(S:Nat->Bool):List En->St->St
 |[],st=>st
 |e::r,st=>dB S r (bif S e.i then e.app st else st)
theorem St.ext'{a b:St}(h1:∀t,a.env t=b.env t)(h2:∀id,a.obj id=b.obj id):a=b:=by
 obtain⟨e,o⟩:=a;obtain⟨e',o'⟩:=b;have:e=e':=funext h1;have:o=o':=funext h2
 subst_vars;rfl
theorem wA(e:En)(st:St):(e.app st).obj=ak st.obj e.u:=by unfold En.app bE;cases e.op.dst<;>rfl
theorem sc(e:En)(st:St)(t:Nat):(e.op.dst=some t/\(e.app st).env t=e.v)\/(e.op.dst≠some t/\(e.app st).env t=st.env t):=by
 unfold En.app bE;cases h:e.op.dst with
 |none=>exact .inr ⟨by simp,rfl⟩
 |some d=>
  by_cases ht:t=d
  ·subst ht;exact .inl ⟨rfl,eL⟩
  ·exact .inr ⟨fun e=>ht (by injection e with e;exact e.symm),nH ht⟩
theorem qy8{e e':En}(hd:∀d,e.op.dst=some d->e'.op.dst≠some d)(hk:∀id,id∈bJ e.u->id∉bJ e'.u)(st:St):e'.app (e.app st)=e.app (e'.app st):=by
 apply St.ext'
 ·intro t;rcases sc e' (e.app st) t with ⟨h1,h2⟩|⟨h1,h2⟩
  ·rw[h2];rcases sc e (e'.app st) t with ⟨h3,h4⟩|⟨h3,h4⟩
   ·exact absurd h1 (hd t h3)
   ·rw[h4];rcases sc e' st t with ⟨_,h6⟩|⟨h5,_⟩
    ·rw[h6]
    ·exact absurd h1 h5
  ·rw[h2];rcases sc e (e'.app st) t with ⟨h3,h4⟩|⟨h3,h4⟩
   ·rw[h4];rcases sc e st t with ⟨_,h6⟩|⟨h5,_⟩
    ·exact h6
    ·exact absurd h3 h5
   ·rw[h4];rcases sc e st t with ⟨h5,_⟩|⟨_,h6⟩
    ·exact absurd h5 h3
    ·rw[h6];rcases sc e' st t with ⟨h7,_⟩|⟨_,h8⟩
     ·exact absurd h7 h1
     ·rw[h8]
 ·intro id;rw[wA,wA,wA,wA];by_cases h1:id∈bJ e.u
  ·rw[gS (hk id h1),Kl (o':=ak st.obj e'.u) h1]
  ·rw[gS (u:=e.u) (o:=ak st.obj e'.u) h1];by_cases h2:id∈bJ e'.u
   ·exact Kl h2
   ·rw[gS h2,gS h2,gS h1]
theorem KC(S:Nat->Bool):∀(l m:List En) (st:St),dB S (l++m) st=dB S m (dB S l st)
 |[],_,_=>rfl
 |_::l,m,_=>KC S l m _
theorem R0{S S':Nat->Bool}:∀(l:List En) (st:St),(∀e,e∈l->S e.i=S' e.i)->dB S l st=dB S' l st
 |[],_,_=>rfl
 |e::l,st,h=>by show dB S l (bif S e.i then e.app st else st)=dB S' l (bif S' e.i then e.app st else st);rw[h e (zf ..)];exact R0 l _ fun q hq=>h q (zh _ hq)
theorem qop{S:Nat->Bool}{e:En}:∀(l:List En) (st:St),(∀q,q∈l->S q.i=true->(∀d,e.op.dst=some d->q.op.dst≠some d)/\∀id,id∈bJ e.u->id∉bJ q.u)->dB S l (e.app st)=e.app (dB S l st)
 |[],_,_=>rfl
 |q::l,st,h=>by
  show dB S l (bif S q.i then q.app (e.app st) else e.app st)=e.app (dB S l (bif S q.i then q.app st else st));have ih:=fun st=>qop (S:=S) (e:=e) l st fun p hp=>h p (zh _ hp);cases hs:S q.i with
  |true=>obtain⟨h1,h2⟩:=h q (zf ..) hs;show dB S l (q.app (e.app st))=e.app (dB S l (q.app st));rw[qy8 h1 h2,ih]
  |false=>exact ih st
theorem qoq{S S':Nat->Bool}{e:En}{l m:List En}(st:St)(hl:∀q,q∈l->S q.i=S' q.i)(hm:∀q,q∈m->S q.i=S' q.i)(h1:S e.i=false)(h2:S' e.i=true)(hp:∀q,q∈m->S q.i=true->(∀d,e.op.dst=some d->q.op.dst≠some d)/\∀id,id∈bJ e.u->id∉bJ q.u):dB S' (l++e::m) st=e.app (dB S (l++e::m) st):=by rw[KC,KC];show dB S' m (bif S' e.i then e.app (dB S' l st) else dB S' l st)=e.app (dB S m (bif S e.i then e.app (dB S l st) else dB S l st));rw[h1,h2,<-R0 l st hl];show dB S' m (e.app (dB S l st))=e.app (dB S m (dB S l st));rw[<-R0 m _ hm];exact qop m _ hp
section
variable {C:Cx} {R:fI C.sigs}
def En.tr(e:En):Tr:=⟨e.i,e.op,e.F,bJ e.u⟩
def gE(st:St)(kn:List (Nat×Bool)):Prop:=∀d b,rq d kn=some b->st.env d=.d .bool b
def z0e(all:List Oper)(st:St)(e:En):Prop:=∃j want oj dj,e.op.guard=some (j,want)/\all[j]?=some oj/\oj.dst=some dj/\((∃b,rq dj e.kn=some b/\b≠want)\/st.env dj=.undef)
def z0f(all:List Oper)(e:En):Prop:=e.op.guard=none\/∃j want oj dj,e.op.guard=some (j,want)/\all[j]?=some oj/\oj.dst=some dj/\rq dj e.kn=some want
def OP(C:Cx)(R:fI C.sigs)(rg:Nat)(st:St)(e:En)(b:Bool):Prop:=
 e.sk=false/\e.op.guard=none/\e.F=jX C st e.op/\rR st.obj e.F e.F=true/\u7 e.op.op=false/\
  (∃vs,e.v=kA vs/\(DW lf C R (dY st.env e.kn (fS e.op.op.operands.toList)) (cS st.obj e.F) (fR rg e.i) e.op.op).gives (.fY (.bM::.d .bool b::vs)) e.u)/\jH (fR rg e.i) st.obj e.u
def vl(C:Cx)(R:fI C.sigs)(rg:Nat)(all:List Oper)(st:St)(e:En):Prop:=
 (e.sk=true/\z0e all st e/\e.v=.undef/\e.u=[]/\e.F=[])\/
 (e.sk=false/\z0f all e/\e.F=jX C st e.op/\(u7 e.op.op||rR st.obj e.F e.F)=true/\
  (cT lf C R (dY st.env e.kn (fS e.op.op.operands.toList)) (cS st.obj e.F) (fR rg e.i) e.op.type e.op.op).gives e.v e.u/\jH (fR rg e.i) st.obj e.u)\/OP C R rg st e false
def Fp(C:Cx)(R:fI C.sigs)(rg:Nat)(all:List Oper):Nat->St->List En->Prop
 |_,_,[]=>True
 |i,st,e::r=>e.i=i/\vl C R rg all st e/\gE st e.kn/\JV e.op.dst e.kn=true/\Fp C R rg all (i+1) (e.app st) r
def eY:List En->St->St
 |[],st=>st
 |e::r,st=>eY r (e.app st)
theorem qya{e:En}{st:St}{kn:List (Nat×Bool)}(h:gE st kn)(hn:JV e.op.dst kn=true):gE (e.app st) kn:=by
 intro d b hd;rcases sc e st d with ⟨h1,_⟩|⟨_,h2⟩
 ·exfalso;rw[h1] at hn;unfold JV at hn;simp only[hd] at hn;cases hn
 ·rw[h2];exact h d b hd
theorem qqm{env:Nat->V}{o:Nat->Obj}{fr:Nat}{ty:TypeId}{t:Nat}{y:Bool}(he:env t=.lb y){v:V}{u:List (Nat×Obj)}(h:(cT lf C R env o fr ty (.move (.tmp t))).gives v u):v=.d .bool y:=by
 have hv:bU C env (.tmp t)=.d .bool y:=by show dx (env t)=_;rw[he];rfl
 simp only[cT,hv,JK] at h;rw[df] at h;exact h.1.symm
theorem qqn{env:Nat->V}{o:Nat->Obj}{fr:Nat}{ty:TypeId}{t:Nat}{q z:Bool}{a b:Operand}(he:env t=.lb q)(hz:(bif q then a else b)=.const (.bool z)){v:V}{u:List (Nat×Obj)}(h:(cT lf C R env o fr ty (.pick (.tmp t) a b)).gives v u):v=.d .bool z:=by
 have hv:Ba C env (.tmp t)=.lb q:=he;simp only[cT,hv] at h;rw[df] at h;rw[<-h.1];cases q with
 |true=>rw[cond_true] at hz ⊢;rw[hz];rfl
 |false=>rw[cond_false] at hz ⊢;rw[hz];rfl
theorem qg7{env:Nat->V}{kn:List (Nat×Bool)}{ts:List Nat}{t:Nat}{b:Bool}(ht:bH t ts=true)(hk:rq t kn=some b):dY env kn ts t=.lb b:=by unfold dY;rw[ht,cond_true,hk]
theorem qkb{st:St}{kn:List (Nat×Bool)}{d:Nat}{z:Bool}(h:gE st kn)(hd:st.env d=.d .bool z):gE st ((d,z)::kn):=by
 intro t b ht;simp only[rq] at ht;cases hq:Nat.beq d t with
 |true=>rw[hq,cond_true] at ht;injection ht with ht;have:=zg hq;subst this ht;exact hd
 |false=>rw[hq,cond_false] at ht;exact h t b ht
theorem qkc(t:Nat)(l:List Nat):bH t (t::l)=true:=by simp[bH]
theorem qyb{st:St}{kn:List (Nat×Bool)}{o:Oper}{ob:Nat->Obj}{R1:Nat->Obj}{fr:Nat}{v:V}{u:List (Nat×Obj)}(hg:(cT lf C R (dY st.env kn (fS o.op.operands.toList)) ob fr o.type o.op).gives v u)(h:gE (bE {st with obj:=R1} o.dst v) kn):gE (bE {st with obj:=R1} o.dst v) (EP o kn):=by
 unfold EP;split
 ·exact h
 ·rename_i d hd;have hc:(bE {st with obj:=R1} o.dst v).env d=v:=by rw[hd];simp[bE,cP]
  split
  ·rename_i t ho;split
   ·rename_i y hy;rw[ho] at hg;have:=qqm (qg7 (by simpa[Op.operands,fS] using qkc t []) hy) hg;exact qkb h (by rw[hc,this])
   ·exact h
  ·rename_i c x y ho;split
   ·rename_i q hq;split
    ·rename_i z hz;rw[ho] at hg;have:=qqn (qg7 (by simpa[Op.operands,fS] using qkc c _) hq) hz hg;exact qkb h (by rw[hc,this])
    ·exact h
   ·exact h
  ·exact h
def KD(C:Cx)(R:fI C.sigs)(rg:Nat)(all:List Oper){γ δ:Type}(w:γ->δ)(k kp:(γ->δ)->St->Option δ)(y:δ)(i:Nat)(r:List Oper)(st:St)(tr:List Tr):Prop:=
 (∃es,es.map (·.op)=r/\Fp C R rg all i st es/\(mY (cH all []) all ((es.map En.tr).reverse++tr)&&u9 rg ((es.map En.tr).reverse++tr))=true/\k w (eY es st)=some y)\/
 (∃es e rest,es.map (·.op)++e.op::rest=r/\Fp C R rg all i st es/\e.i=i+es.length/\OP C R rg (eY es st) e true/\gE (eY es st) e.kn/\DX (cH all []) e.i ((es.map En.tr).reverse++tr)=true/\
  DY (cH all []) e.i (e.i+1) rest=true/\mY (cH all []) all (e.tr::((es.map En.tr).reverse++tr))=true/\u9 rg (e.tr::((es.map En.tr).reverse++tr))=true/\
  kp w {wT (cH all []) e.i ((es.map En.tr).reverse++tr) (eY es st) with obj:=ak (eY es st).obj e.u}=some y)
theorem z1r{rg:Nat}{all:List Oper}{γ δ:Type}{w:γ->δ}{k kp:(γ->δ)->St->Option δ}{y:δ}:∀(n i:Nat) (r:List Oper) (st:St) (kn:List (Nat×Bool)) (tr:List Tr),ru lf C R rg all n w i r st kn tr k kp=some y->gE st kn->KD C R rg all w k kp y i r st tr:=by
 intro n
 induction n with
 |zero=>intro i r st kn tr h;cases h
 |succ n ih=>
  intro i r st kn tr h he;cases r with
  |nil=>
   have h:(bif mY (cH all []) all tr&&u9 rg tr then k w st else none)=some y:=h;cases hd:(mY (cH all []) all tr&&u9 rg tr) with
   |false=>rw[hd] at h;cases h
   |true=>rw[hd] at h;exact .inl ⟨[],rfl,trivial,hd,h⟩
  |cons o r=>
   unfold ru at h;simp only at h;cases hf:JV o.dst kn with
   |false=>rw[hf] at h;cases h
   |true=>
    rw[hf,cond_true] at h;have more:∀(e:En),e.i=i->e.op=o->e.kn=kn->vl C R rg all st e->∀I3,(gE (e.app st) kn->gE (e.app st) I3)->ru lf C R rg all n w (i+1) r (e.app st) I3 (e.tr::tr) k kp=some y->
      KD C R rg all w k kp y i (o::r) st tr:=by
     intro e h1 h2 h3 h4 I3 h6 h5;rcases ih _ _ _ _ _ h5 (h6 (qya he (by rw[h2];exact hf))) with ⟨es,g1,g2,g3,g4⟩|⟨es,q,rest,g1,g2,g3,g4,g5,g6,g7,g8,g9,g10⟩
     ·exact .inl ⟨e::es,by rw[zM,g1,h2],⟨h1,h4,by rw[h3];exact he,by rw[h2,h3];exact hf,g2⟩,by rw[zM,List.reverse_cons,zD];exact g3,g4⟩
     ·have hl:((e::es).map En.tr).reverse++tr=(es.map En.tr).reverse++e.tr::tr:=by rw[zM,List.reverse_cons,zD];rfl
      refine .inr ⟨e::es,q,rest,by rw[zM,List.cons_append,g1,h2],⟨h1,h4,by rw[h3];exact he,by rw[h2,h3];exact hf,g2⟩,by rw[zw];omega,g4,g5,?_,g7,?_,?_,?_⟩
      ·rw[hl];exact g6
      ·rw[hl];exact g8
      ·rw[hl];exact g9
      ·rw[hl];exact g10
    have run:(∀e:En,e.op=o->e.kn=kn->z0f all e)->(bif u7 o.op||rR st.obj (jX C st o) (jX C st o) then(match cT lf C R (dY st.env kn (fS o.op.operands.toList)) (cS st.obj (jX C st o)) (fR rg i) o.type o.op with
      |.fail=>none
      |.lj v u=>mM v fun v=>pw (fR rg i) st.obj u fun o'=>ru lf C R rg all n w (i+1) r (bE {st with obj:=o'} o.dst v) (EP o kn) (⟨i,o,jX C st o,bJ u⟩::tr) k kp
      |.dyn _ x out=>lf.b x fun y=>mM (out y).1 fun v=>pw (fR rg i) st.obj (out y).2 fun o'=>ru lf C R rg all n w (i+1) r (bE {st with obj:=o'} o.dst v) (EP o kn) (⟨i,o,jX C st o,bJ (out y).2⟩::tr) k kp) else none)=some y->
      KD C R rg all w k kp y i (o::r) st tr:=by
     intro hw h;cases hc:(u7 o.op||rR st.obj (jX C st o) (jX C st o)) with
     |false=>rw[hc] at h;cases h
     |true=>
      rw[hc,cond_true] at h;have go:∀v u,(cT lf C R (dY st.env kn (fS o.op.operands.toList)) (cS st.obj (jX C st o)) (fR rg i) o.type o.op).gives v u->
        (mM v fun v=>pw (fR rg i) st.obj u fun o'=>ru lf C R rg all n w (i+1) r (bE {st with obj:=o'} o.dst v) (EP o kn) (⟨i,o,jX C st o,bJ u⟩::tr) k kp)=some y->
        KD C R rg all w k kp y i (o::r) st tr:=by
       intro v u hg h;rw[Kn] at h;obtain⟨h1,h2⟩:=Ko _ _ _ _ h;exact more ⟨i,o,false,kn,jX C st o,v,u⟩ rfl rfl rfl (.inr (.inl ⟨rfl,hw _ rfl rfl,rfl,hc,hg,h2⟩)) _ (qyb hg) h1
      generalize hp:cT lf C R (dY st.env kn (fS o.op.operands.toList)) (cS st.obj (jX C st o)) (fR rg i) o.type o.op=pk at h go;cases pk with
      |fail=>cases h
      |lj v u=>exact go v u ⟨rfl,rfl⟩ h
      |dyn α x out=>obtain⟨q,h1,h2⟩:=wu (x:=x) h;exact go (out q).1 (out q).2 ⟨q,h1,rfl⟩ h2
    have skip:(∀e:En,e.op=o->e.kn=kn->z0e all st e)->ru lf C R rg all n w (i+1) r (bE st o.dst .undef) kn (⟨i,o,[],[]⟩::tr) k kp=some y->
      KD C R rg all w k kp y i (o::r) st tr:=fun hs h=>
     more ⟨i,o,true,kn,[],.undef,[]⟩ rfl rfl rfl (.inl ⟨rfl,hs _ rfl rfl,rfl,rfl,rfl⟩) kn (fun h=>h) h
    cases ho:JR C.sigs o with
    |true=>
     rw[ho,cond_true] at h;split at h
     ·rename_i hg;cases hc:(rR st.obj (jX C st o) (jX C st o)&&!(u7 o.op)) with
      |false=>rw[hc] at h;cases h
      |true=>
       rw[hc,cond_true] at h;rw[zd] at hc;have ht:u7 o.op=false:=by simpa using hc.2
       split at h
       ·rename_i α x out hy;obtain⟨q,h1,h2⟩:=wu (x:=x) h;split at h2
        ·rename_i b vs hj;rw[Kn] at h2;obtain⟨h3,h4⟩:=Ko _ _ _ _ h2;have hv:(DW lf C R (dY st.env kn (fS o.op.operands.toList)) (cS st.obj (jX C st o)) (fR rg i) o.op).gives (.fY (.bM::.d .bool b::vs)) (out q).2:=by rw[hy];exact⟨q,h1,by rw[<-hj]⟩
         cases b with
         |false=>exact more ⟨i,o,false,kn,jX C st o,kA vs,(out q).2⟩ rfl rfl rfl (.inr (.inr ⟨rfl,hg,rfl,hc.1,ht,⟨vs,rfl,hv⟩,h4⟩)) kn (fun h=>h) h3
         |true=>
          replace h3:(bif DX (cH all []) i tr&&DY (cH all []) i (i+1) r&&mY (cH all []) all (⟨i,o,jX C st o,bJ (out q).2⟩::tr)&&u9 rg (⟨i,o,jX C st o,bJ (out q).2⟩::tr) then kp w {wT (cH all []) i tr st with obj:=ak st.obj (out q).2} else none)=some y:=h3;cases hk:(DX (cH all []) i tr&&DY (cH all []) i (i+1) r&&mY (cH all []) all (⟨i,o,jX C st o,bJ (out q).2⟩::tr)&&u9 rg (⟨i,o,jX C st o,bJ (out q).2⟩::tr)) with
          |false=>rw[hk] at h3;cases h3
          |true=>rw[hk,cond_true] at h3;simp only[zd] at hk;obtain⟨⟨⟨k1,k2⟩,k3⟩,k4⟩:=hk;exact .inr ⟨[],⟨i,o,false,kn,jX C st o,kA vs,(out q).2⟩,r,rfl,trivial,rfl,⟨rfl,hg,rfl,hc.1,ht,⟨vs,rfl,hv⟩,h4⟩,he,k1,k2,k3,k4,h3⟩
        ·cases h2
       ·cases h
     ·cases h
    |false=>
    rw[ho,cond_false] at h;split at h
    ·rename_i hg;exact run (fun e h1 _=>.inl (by rw[h1];exact hg)) h
    ·rename_i j want hg;split at h
     ·rename_i oj hm;split at h
      ·rename_i dj hn;split at h
       ·rename_i b hb;cases hc:(bif want then b else !b) with
        |true=>
         rw[hc] at h;have:b=want:=by cases b<;>cases want<;>first|rfl|cases hc
         subst this;exact run (fun e h1 h2=>.inr ⟨j,b,oj,dj,by rw[h1];exact hg,hm,hn,by rw[h2];exact hb⟩) h
        |false=>
         rw[hc] at h;have:b≠want:=by cases b<;>cases want<;>first|(intro h;cases h;done)|cases hc
         exact skip (fun e h1 h2=>⟨j,want,oj,dj,by rw[h1];exact hg,hm,hn,.inl ⟨b,by rw[h2];exact hb,this⟩⟩) h
       ·split at h
        ·rename_i hu;exact skip (fun e h1 h2=>⟨j,want,oj,dj,by rw[h1];exact hg,hm,hn,.inr hu⟩) h
        ·rename_i x hx;have I3:∀b,x=b->gE st ((dj,b)::kn):=by
          intro b e d b' hd;simp only[rq] at hd;cases hq:Nat.beq dj d with
          |true=>rw[hq,cond_true] at hd;injection hd with hd;have:=zg hq;subst this hd e;exact hx
          |false=>rw[hq,cond_false] at hd;exact he d b' hd
         cases x with
         |true=>exact ih i (o::r) st _ tr h (I3 true rfl)
         |false=>exact ih i (o::r) st _ tr h (I3 false rfl)
        ·cases h
      ·cases h
     ·cases h
end
inductive AN (all:List Oper):Nat->Nat->Prop where
 |Fq {i:Nat} {o:Oper} {e:Edge} (h1:all[i]?=some o) (h2:e∈o.after.toList) (h3:Region.binds .any e=true):AN all i e.on
 |trans {i a:Nat} {o:Oper} {e:Edge} (h1:all[i]?=some o) (h2:e∈o.after.toList) (h3:Region.binds .any e=true) (h4:AN all e.on a):AN all i a
theorem qml{t a:Nat}(h:Nat.testBit (bit t) a=true):a=t:=by
 unfold bit at h;rw[Nat.testBit_shiftLeft,zd] at h;obtain⟨h1,h2⟩:=h;have h1:t<=a:=by simpa using h1
 have:a-t=0:=zK fun hn=>by obtain⟨m,hm⟩:∃m,a-t=m+1:=⟨a-t-1,by omega⟩;rw[hm,Nat.testBit_succ] at h2;simp at h2
 omega
theorem qor{all:List Oper}{acc:List Nat}(hc:∀i a,Nat.testBit (acc.getD i 0) a=true->AN all i a){i:Nat}{o:Oper}(ho:all[i]?=some o):∀(l:List Edge) (s:Nat),(∀e,e∈l->e∈o.after.toList)->(∀a,Nat.testBit s a=true->AN all i a)->∀a,Nat.testBit (l.foldl (fun s e=>bif Region.binds .any e then s|||bit e.on|||acc.getD e.on 0 else s) s) a=true->AN all i a
 |[],s,_,hs,a,h=>hs a h
 |e::l,s,hl,hs,a,h=>by
  refine qor hc ho l _ (fun q hq=>hl q (zh _ hq)) ?_ a h;intro a ha;replace ha:Nat.testBit (bif Region.binds .any e then s|||bit e.on|||acc.getD e.on 0 else s) a=true:=ha;cases hb:Region.binds .any e with
  |false=>rw[hb,cond_false] at ha;exact hs a ha
  |true=>
   rw[hb,cond_true,Nat.testBit_or,Nat.testBit_or,Bool.or_eq_true,Bool.or_eq_true] at ha;rcases ha with (ha|ha)|ha
   ·exact hs a ha
   ·rw[qml ha];exact .Fq ho (hl e (zf ..)) hb
   ·exact .trans ho (hl e (zf ..)) hb (hc _ _ ha)
theorem OQ{all:List Oper}:∀(r pre:List Oper) (acc:List Nat),all=pre++r->acc.length=pre.length->(∀i a,Nat.testBit (acc.getD i 0) a=true->AN all i a)->∀i a,Nat.testBit ((cH r acc).getD i 0) a=true->AN all i a
 |[],pre,acc,_,_,hc=>hc
 |o::r,pre,acc,he,hf,hc=>by
  refine OQ r (pre++[o]) _ (by rw[he];simp) (by simp[hf]) ?_;have ho:all[pre.length]?=some o:=by rw[he];simp
  intro i a h;by_cases hi:i<acc.length
  ·rw[List.getD_eq_getElem?_getD,zZ hi,<-List.getD_eq_getElem?_getD] at h;exact hc i a h
  ·by_cases hg:i=acc.length
   ·rw[List.getD_eq_getElem?_getD,zR om,hg,Nat.sub_self] at h;rw[hg,hf];exact qor hc ho o.after.toList 0 (fun _ h=>h) (fun a h=>by simp at h) a h
   ·rw[List.getD_eq_getElem?_getD,jx (by simp;omega)] at h;simp at h
theorem R2{all:List Oper}{S:Nat->Bool}(hS:∀i o,all[i]?=some o->S i=true->∀e,e∈o.after.toList->Region.binds .any e=true->S e.on=true){i a:Nat}(h:AN all i a):S i=true->S a=true:=by
 induction h with
 |Fq h1 h2 h3=>exact fun hi=>hS _ _ h1 hi _ h2 h3
 |trans h1 h2 h3 _ ih=>exact fun hi=>ih (hS _ _ h1 hi _ h2 h3)
theorem R3{all:List Oper}{S:Nat->Bool}(hS:∀i o,all[i]?=some o->S i=true->∀e,e∈o.after.toList->Region.binds .any e=true->S e.on=true){i a:Nat}{o:Oper}(ho:all[i]?=some o)(hr:∀e,e∈o.after.toList->Region.binds .any e=true->S e.on=true)(h:AN all i a):S a=true:=by
 cases h with
 |Fq h1 h2 h3=>rw[ho] at h1;injection h1 with h1;subst h1;exact hr _ h2 h3
 |trans h1 h2 h3 h4=>rw[ho] at h1;injection h1 with h1;subst h1;exact R2 hS h4 (hr _ h2 h3)
theorem qke{d:Nat}:∀{l:List Nat},Av d l=true->d∉l
 |[],_=>by simp
 |b::r,h=>by
  simp only[Av] at h;cases hb:Nat.beq b d with
  |true=>rw[hb] at h;cases h
  |false=>
   rw[hb] at h;have hr:=qke h;intro hm;rcases zt.1 hm with hm|hm
   ·subst hm;rw[Nat.beq_refl] at hb;cases hb
   ·exact hr hm
theorem qu8{S S':Nat->Bool}{t:Nat}:∀(es:List En) (st bc:St),st.env t=bc.env t->(∀q,q∈es->S q.i≠S' q.i->q.op.dst≠some t)->(dB S es st).env t=(dB S' es bc).env t
 |[],_,_,h,_=>h
 |q::es,st,bc,h,hq=>by
  have hr:=fun p hp=>hq p (zh q hp);show(dB S es (bif S q.i then q.app st else st)).env t=(dB S' es (bif S' q.i then q.app bc else bc)).env t;refine qu8 es _ _ ?_ hr;by_cases e:S q.i=S' q.i
  ·rw[e];cases S' q.i with
   |false=>exact h
   |true=>
    show(q.app st).env t=(q.app bc).env t;rcases sc q st t with ⟨h1,h2⟩|⟨h1,h2⟩<;>rcases sc q bc t with ⟨h3,h4⟩|⟨h3,h4⟩
    ·rw[h2,h4]
    ·exact absurd h1 h3
    ·exact absurd h3 h1
    ·rw[h2,h4,h]
  ·have hd:=hq q (zf ..) e;have one:∀(b:Bool) (s:St),(bif b then q.app s else s).env t=s.env t:=by
    intro b s;cases b with
    |false=>rfl
    |true=>
     rcases sc q s t with ⟨h1,_⟩|⟨_,h2⟩
     ·exact absurd h1 hd
     ·exact h2
   rw[one,one,h]
theorem qu9{S S':Nat->Bool}{id:Nat}:∀(es:List En) (st bc:St),st.obj id=bc.obj id->(∀q,q∈es->S q.i≠S' q.i->id∉bJ q.u)->(dB S es st).obj id=(dB S' es bc).obj id
 |[],_,_,h,_=>h
 |q::es,st,bc,h,hq=>by
  have hr:=fun p hp=>hq p (zh q hp);show(dB S es (bif S q.i then q.app st else st)).obj id=(dB S' es (bif S' q.i then q.app bc else bc)).obj id;refine qu9 es _ _ ?_ hr;have R4:∀s s':St,s.obj id=s'.obj id->(q.app s).obj id=(q.app s').obj id:=by
   intro s s' hs;rw[wA,wA];by_cases hk:id∈bJ q.u
   ·exact Kl hk
   ·rw[gS hk,gS hk,hs]
  by_cases e:S q.i=S' q.i
  ·rw[e];cases S' q.i with
   |false=>exact h
   |true=>exact R4 st bc h
  ·have hd:=hq q (zf ..) e;have one:∀(b:Bool) (s:St),(bif b then q.app s else s).obj id=s.obj id:=by
    intro b s;cases b with
    |false=>rfl
    |true=>show(q.app s).obj id=s.obj id;rw[wA,gS hd]
   rw[one,one,h]
theorem KE{a b:List Nat}(h:Bd a b=true):∀x,x∈a->x∉b:=by intro x hx hb;unfold Bd at h;have:=zO.1 h x hx;rw[cy.2 hb] at this;cases this
theorem R5{d:Option Nat}{l:List Nat}(h:Qx d l=true):∀t,d=some t->t∉l:=by rintro t rfl;exact qke h
theorem qmm{gx:List Nat}{all:List Oper}{b:Tr}{r:List Tr}:NP gx all b r=true->∀a,a∈r->Be gx all a b=true:=by
 induction r with
 |nil=>intro _ a ha;cases ha
 |cons x r ih=>
  intro h a ha;simp only[NP,zd] at h;rcases zt.1 ha with ha|ha
  ·subst ha;exact h.1
  ·exact ih h.2 a ha
theorem OR{gx:List Nat}{all:List Oper}:∀(l1 l2:List Tr) (b:Tr),mY gx all (l1++b::l2)=true->∀a,a∈l2->Be gx all a b=true
 |[],l2,b,h=>by simp only[List.nil_append,mY,zd] at h;exact qmm h.1
 |x::l1,l2,b,h=>by simp only[List.cons_append,mY,zd] at h;exact OR l1 l2 b h.2
def Down(all:List Oper)(S:Nat->Bool):Prop:=∀i o,all[i]?=some o->S i=true->∀e,e∈o.after.toList->Region.binds .any e=true->S e.on=true
theorem z1s{all:List Oper}{S:Nat->Bool}(hS:Down all S){l1 l2:List En}{e:En}{o:Oper}(ho:all[e.i]?=some o)(hr:∀ed,ed∈o.after.toList->Region.binds .any ed=true->S ed.on=true)(hj:S e.i=false)(hd:mY (cH all []) all ((l1++e::l2).map En.tr).reverse=true)(h1:∀q,q∈l1->q.i<e.i)(h2:∀q,q∈l2->e.i<q.i):∀q,q∈l1++e::l2->S q.i≠decide (q.i<e.i)->(∀t,q.op.dst=some t->t∉Iq all e.op)/\(∀id,id∈bJ q.u->id∉e.F/\id∉bJ e.u):=by
 have he:=OQ (all:=all) all [] [] rfl rfl (fun i a h=>by simp at h);intro q hq hc;rcases zU.1 hq with hq|hq
 ·
  have hk:=h1 q hq;have hg:S q.i=false:=by
   cases hs:S q.i with
   |false=>rfl
   |true=>rw[hs] at hc;simp[hk] at hc
  have hp:Be (cH all []) all q.tr e.tr=true:=by
   refine OR (l2.map En.tr).reverse (l1.map En.tr).reverse e.tr ?_ q.tr ?_
   ·rw[zA,zM,List.reverse_append,List.reverse_cons,zD] at hd;exact hd
   ·exact List.mem_reverse.2 (List.mem_map_of_mem hq)
  unfold Be at hp;rw[Bool.or_eq_true] at hp;rcases hp with hp|hp
  ·have:=R3 hS ho hr (he _ _ hp);have this:S q.i=true:=this;rw[hg] at this;cases this
  ·unfold NO at hp;simp only[zd] at hp;obtain⟨⟨⟨a1,_⟩,a3⟩,_⟩:=hp;exact⟨fun t ht hm=>R5 a1 t ht (List.mem_append_left _ hm),fun id hf=>⟨fun h=>KE a3 id hf (List.mem_append_left _ h),fun h=>KE a3 id hf (List.mem_append_right _ h)⟩⟩
 ·rcases zt.1 hq with hq|hq
  ·subst hq;rw[hj] at hc;simp at hc
  ·
   have hk:=h2 q hq;have hg:S q.i=true:=by
    cases hs:S q.i with
    |true=>rfl
    |false=>rw[hs] at hc;simp at hc;omega
   have hp:Be (cH all []) all e.tr q.tr=true:=by
    obtain⟨m1,m2,rfl⟩:=List.append_of_mem hq;refine OR (m2.map En.tr).reverse ((l1++e::m1).map En.tr).reverse q.tr ?_ e.tr ?_
    ·have e1:l1++e::(m1++q::m2)=(l1++e::m1)++q::m2:=by simp
     rw[e1,zA,zM,List.reverse_append,List.reverse_cons,zD] at hd;exact hd
    ·exact List.mem_reverse.2 (List.mem_map_of_mem (List.mem_append_right _ (zf ..)))
   unfold Be at hp;rw[Bool.or_eq_true] at hp;rcases hp with hp|hp
   ·have:=R2 hS (he _ _ hp) hg;have this:S e.i=true:=this;rw[hj] at this;cases this
   ·unfold NO at hp;simp only[zd] at hp;obtain⟨⟨⟨_,a2⟩,a3⟩,a4⟩:=hp;exact⟨fun t ht hm=>R5 a2 t ht hm,fun id hf=>⟨fun h=>KE a4 id hf h,fun h=>KE a3 id h (List.mem_append_right _ hf)⟩⟩
theorem OT{S:Nat->Bool}:∀(l:List En) (st:St),(∀q,q∈l->S q.i=false)->dB S l st=st
 |[],_,_=>rfl
 |q::l,st,h=>by show dB S l (bif S q.i then q.app st else st)=st;rw[h q (zf ..)];exact OT l st fun p hp=>h p (zh _ hp)
theorem R6{S:Nat->Bool}:∀(l:List En) (st:St),(∀q,q∈l->S q.i=true)->dB S l st=eY l st
 |[],_,_=>rfl
 |q::l,st,h=>by show dB S l (bif S q.i then q.app st else st)=eY l (q.app st);rw[h q (zf ..)];exact R6 l _ fun p hp=>h p (zh _ hp)
theorem z3m{all:List Oper}{S:Nat->Bool}(hS:Down all S){l1 l2:List En}{e:En}{o:Oper}(ho:all[e.i]?=some o)(hr:∀ed,ed∈o.after.toList->Region.binds .any ed=true->S ed.on=true)(hj:S e.i=false)(hd:mY (cH all []) all ((l1++e::l2).map En.tr).reverse=true)(h1:∀q,q∈l1->q.i<e.i)(h2:∀q,q∈l2->e.i<q.i)(st:St):(∀t,t∈Iq all e.op->(dB S (l1++e::l2) st).env t=(eY l1 st).env t)/\(∀id,(id∈e.F\/id∈bJ e.u)->(dB S (l1++e::l2) st).obj id=(eY l1 st).obj id):=by
 have hg:=z1s hS ho hr hj hd h1 h2;have hc:dB (fun i=>decide (i<e.i)) (l1++e::l2) st=eY l1 st:=by
  rw[KC,R6 l1 st (fun q hq=>by simpa using h1 q hq)];refine OT _ _ fun q hq=>?_;rcases zt.1 hq with hq|hq
  ·subst hq;simp
  ·have:=h2 q hq;simp;omega
 refine⟨fun t ht=>?_,fun id hl=>?_⟩
 ·rw[<-hc];exact qu8 _ _ _ rfl fun q hq he hf=>(hg q hq he).1 t hf ht
 ·rw[<-hc];refine qu9 _ _ _ rfl fun q hq he hk=>?_;obtain⟨g1,g2⟩:=(hg q hq he).2 id hk;exact hl.elim g1 g2
theorem R7{o:Nat->Obj}:∀(F l:List Nat),rR o F l=true->∀id,id∈l->∀j,j∈wS (o id)->j∈F
 |F,x::r,h,id,hi,j,hj=>by
  simp only[rR,zd] at h;have key:∀(l m:List Nat),NQ l m=true->∀q,q∈l->q∈m:=by
   intro l m
   induction l with
   |nil=>intro _ q hq;cases hq
   |cons y l ih=>
    intro h q hq;simp only[NQ,zd] at h;rcases zt.1 hq with hq|hq
    ·subst hq;exact cy.1 h.1
    ·exact ih h.2 q hq
  rcases zt.1 hi with hi|hi
  ·subst hi;exact key _ _ h.1 j hj
  ·exact R7 F r h.2 id hi j hj
theorem qkf(o:Nat->Obj):∀(n:Nat) (l:List Nat) (x:Nat),x∈l->x∈NN o n l
 |0,_,_,h=>h
 |_+1,_,_,h=>List.mem_append_left _ h
theorem qos:∀{l:List V} {v:V} {id:Nat},v∈l->id∈eF v->id∈gl l
 |x::l,v,id,hv,hi=>by
  unfold gl;rcases zt.1 hv with rfl|hv
  ·exact List.mem_append_left _ hi
  ·exact List.mem_append_right _ (qos hv hi)
theorem R8:∀{l:List Operand} {t:Nat},t∈fS l->Operand.tmp t∈l
 |x::r,t,h=>by
  cases x<;>simp only[fS] at h<;>try exact zh _ (R8 h)
  rcases zt.1 h with h|h
  ·subst h;exact zf ..
  ·exact zh _ (R8 h)
theorem qc1{C:Cx}{nt:Fr}{X:Nat->Prop}{φ:Nat->Addr}{st:St}{a:Act}{w:World}(hR:Rel C nt X φ st a w){kn:List (Nat×Bool)}{ops:List Operand}(hk:∀d b,d∈fS ops->rq d kn=some b->st.env d=.d .bool b){F:List Nat}(hF:∀id,id∈gl (ops.map (bU C st.env))->id∈F)(hm:MRel C (Xr X φ st.obj F) φ (cS st.obj F) w):∀x,au φ (cS st.obj F) (ah (Xr X φ st.obj F) φ (cS st.obj F) w) w (bU C (dY st.env kn (fS ops)) x) (a.eval x):=by
 intro x;cases x with
 |tmp t=>
  show au φ _ _ w (dx (dY st.env kn (fS ops) t)) (a.tmps.getD t undef);unfold dY;cases hh:bH t (fS ops) with
  |false=>trivial
  |true=>
   rw[cond_true];have ht:=cy.1 hh;split
   ·rename_i b hb;have hz:=hR.env t;rw[hk t b ht hb] at hz;have:=oz hz;rw[this];exact tJ
   ·exact qdn (fun id hi=>hF id (qos (List.mem_map_of_mem (R8 ht)) hi)) (J0 (hR.env t))
 |const v=>exact QK v
 |global g=>
  simp only[bU,Act.eval];split
  ·rename_i e;exact hm.fp _ _ _ e
  ·trivial
 |func f=>
  simp only[Ev.bU];cases h:Nat.blt f 1048576 with
  |false=>simp[au]
  |true=>exact⟨#[],(JY (zF h) #[]).symm,rfl⟩
section
variable {C:Cx} {R:fI C.sigs} {nt:Fr}
theorem qf8(hC:cf C)(hE:jI C)(HC:∀X φ o w,MRel C X φ o w->∀fr f,rX C R X φ o w fr f){X:Nat->Prop}{φ:Nat->Addr}{st:St}{a:Act}{w:World}(hR:Rel C nt X φ st a w){o:Oper}{kn:List (Nat×Bool)}{F:List Nat}{fr:Nat}(hf:∀d b,d∈fS o.op.operands.toList->rq d kn=some b->st.env d=.d .bool b)(hF:∀id,id∈gl (o.op.operands.toList.map (bU C st.env))->id∈F)(hk:rR st.obj F F=true){v:V}{u:List (Nat×Obj)}(hg:(cT lf C R (dY st.env kn (fS o.op.operands.toList)) (cS st.obj F) fr o.type o.op).gives v u)(he:∀id,id∈bJ u->id∉F->st.obj id=.none)(hn:jH fr (cS st.obj F) u){K:Act->World->Prop}{Q:Exit->Act->World->Prop}(hK:∀val w' φ',Comes C X φ φ' st.obj u w w' v val->K (a.put o.dst val) w'):o.wp C.P a w K Q:=by have hm:=hR.toMRel.restrict (F:=F) (fun id hi j hj=>R7 F F hk id hi j hj);have hl:=Rr hC hE hm (qc1 hR hf hF hm) (HC _ _ _ _ hm fr) hg hn;exact hl.upon fun val w' φ' hc=>by obtain⟨fk,h⟩:=hc.iS hR.toMRel he;exact hK val w' fk h
theorem qe3(HC:∀X φ o w,MRel C X φ o w->∀fr f,rX C R X φ o w fr f){X:Nat->Prop}{φ:Nat->Addr}{st:St}{a:Act}{w:World}(hR:Rel C nt X φ st a w){o:Oper}{kn:List (Nat×Bool)}{F:List Nat}{fr:Nat}(hk:∀d b,d∈fS o.op.operands.toList->rq d kn=some b->st.env d=.d .bool b)(hF:∀id,id∈gl (o.op.operands.toList.map (bU C st.env))->id∈F)(hl:rR st.obj F F=true){b:Bool}{vs:List V}{u:List (Nat×Obj)}(hg:(DW lf C R (dY st.env kn (fS o.op.operands.toList)) (cS st.obj F) fr o.op).gives (.fY (.bM::.d .bool b::vs)) u)(hf:∀id,id∈bJ u->id∉F->st.obj id=.none)(hn:jH fr (cS st.obj F) u){K:Act->World->Prop}{Q:Exit->Act->World->Prop}(hK:b=false->∀val w' φ',Comes C X φ φ' st.obj u w w' (kA vs) val->K (a.put o.dst val) w')(hP:b=true->∀t v z w' φ',Comes C X φ φ' st.obj u w w' .bM z->Q (.panic (ni t v)) a w'):o.wp C.P a w K Q:=by
 have hm:=hR.toMRel.restrict (F:=F) (fun id hi j hj=>R7 F F hl id hi j hj);obtain⟨f',az,e1,e2⟩:=qob (q:=o) (qc1 hR hk hF hm) (HC _ _ _ _ hm fr) hg hn;show Oper.upon C.P o a K Q ((execOp a.eval o).run C.P w);rw[e1];refine Calls.mono e2 fun e w' he=>?_;obtain⟨val,φ',he,hc⟩:=he;obtain⟨z,hv,he⟩:=qk5 he hc.val;rcases he with ⟨hb,rfl⟩|⟨hb,t,v,rfl⟩
 ·obtain⟨fk,h⟩:=(hc.value hv).iS hR.toMRel hf;exact hK hb z w' fk h
 ·obtain⟨fk,h⟩:=(hc.value (v2:=.bM) (z2:=undef) trivial).iS hR.toMRel hf;exact hP hb t v _ w' fk h
end
theorem R9{o o':Nat->Obj}(F:List Nat):∀(l:List Nat),(∀id,id∈l->o id=o' id)->rR o F l=rR o' F l
 |[],_=>rfl
 |x::l,h=>by simp only[rR];rw[h x (zf ..),R9 F l fun id hi=>h id (zh _ hi)]
theorem Sa:∀{u:List (Nat×Obj)} {id:Nat},id∈bJ u->∃p,p∈u/\p.1=id
 |p::r,id,h=>by
  rcases zt.1 h with h|h
  ·exact⟨p,zf ..,h.symm⟩
  ·obtain⟨q,h1,h2⟩:=Sa h;exact⟨q,zh _ h1,h2⟩
theorem Sb{F:List Nat}{fr:Nat}:∀{l:List Nat},Bf F fr l=true->∀id,id∈l->id∈F\/(fr<=id/\id<fr+16)
 |[],_,id,h=>by cases h
 |x::l,hk,id,h=>by
  simp only[Bf,zd,Bool.or_eq_true] at hk;rcases zt.1 h with h|h
  ·subst h;exact hk.1.imp cy.1 fun h=>⟨zF h.1,zF h.2⟩
  ·exact Sb hk.2 id h
section
variable {C:Cx} {R:fI C.sigs} {nt:Fr}
theorem qc2{st:St}{o:Oper}(h:u7 o.op=false):jX C st o=NN st.obj 4 (gl (o.op.operands.toList.map (bU C st.env))):=by unfold jX;split<;>first|rfl|(rename_i e;rw[e] at h;cases h)
theorem qua{o:Nat->Obj}{F:List Nat}{v:V}(h:sure (cS o F) v=true)(hF:∀id,id∈eF v->id∈F):sure o v=true:=by
 cases v<;>simp only[sure] at h ⊢<;>try exact h
 rename_i id off;rw[lr (hF id (by simp[eF]))] at h;exact h
theorem qqo{o:Nat->Obj}{F:List Nat}{v v':V}{u:List (Nat×Obj)}(h:(Ip (cS o F) v).gives v' u)(hF:∀id,id∈eF v->id∈F):(Ip o v).gives v' u:=by
 unfold Ip at h ⊢;split at h
 ·rw[dC] at h ⊢;exact⟨qua h.1 hF,h.2⟩
 ·exact h
 ·rename_i id ver i path;rw[lr (hF id (by simp[eF]))] at h;exact h
 ·exact h
 ·cases h
theorem qce{o:Nat->Obj}{F:List Nat}{t:TypeId}{v v':V}{f:Nat}{u:List (Nat×Obj)}(h:(Io C (cS o F) t v f).gives v' u)(hF:∀id,id∈eF v->id∈F):(Io C o t v f).gives v' u:=by
 unfold Io at h ⊢;cases hc:Jy C.P t f with
 |none=>rw[hc] at h;cases h
 |some fd=>
  rw[hc] at h;simp only at h ⊢;cases hk:uV C.P fd.type with
  |none=>rw[hk] at h;cases h
  |some p=>
   rw[hk] at h;simp only at h ⊢;rw[dC] at h ⊢;refine⟨h.1,?_⟩;replace h:=h.2;cases v<;>try exact h
   ·rename_i id off;simp only at h ⊢;rw[lr (hF id (by simp[eF]))] at h;exact h
   ·rename_i id ver i path;simp only at h ⊢;rw[lr (hF id (by simp[eF]))] at h;exact h
theorem qmo{st:St}{kn:List (Nat×Bool)}{o:Oper}{fr:Nat}(hl:u7 o.op=true)(he:∀d b,d∈fS o.op.operands.toList->rq d kn=some b->st.env d=.d .bool b){F:List Nat}(hF:F=jX C st o){v:V}{u:List (Nat×Obj)}(hg:(cT lf C R (dY st.env kn (fS o.op.operands.toList)) (cS st.obj F) fr o.type o.op).gives v u):(cT lf C R st.env st.obj fr o.type o.op).gives v u:=by
 have hc:∀x,x∈o.op.operands.toList->bU C (dY st.env kn (fS o.op.operands.toList)) x=bU C st.env x:=by
  intro x hx;cases x with
  |tmp t=>
   have ht:t∈fS o.op.operands.toList:=by
    revert hx;generalize o.op.operands.toList=l;intro hx
    induction l with
    |nil=>cases hx
    |cons y r ih=>
     rcases zt.1 hx with h|h
     ·subst h;exact zf ..
     ·cases y<;>first|exact ih h|exact zh _ (ih h)
   show dx (dY st.env kn _ t)=dx (st.env t);unfold dY;rw[cy.2 ht,cond_true];split
   ·rename_i b hb;rw[he t b ht hb];rfl
   ·rfl
  |_=>rfl
 obtain⟨i,op,ty,pos,after,guard⟩:=o;cases op<;>simp only[u7] at hl<;>try (cases hl;done)
 ·rename_i x;simp only[cT] at hg ⊢;rw[hc x (by simp[Op.operands])] at hg;exact hg
 ·rename_i x;simp only[cT] at hg ⊢;rw[hc x (by simp[Op.operands])] at hg;exact hg
 ·rename_i x;simp only[cT] at hg ⊢;rw[hc x (by simp[Op.operands])] at hg;exact qqo hg (fun id h=>by rw[hF];exact h)
 ·rename_i t x f;simp only[cT] at hg ⊢;rw[hc x (by simp[Op.operands])] at hg;exact qce hg (fun id h=>by rw[hF];exact h)
theorem qg8(HC:∀X φ o w,MRel C X φ o w->∀fr f,rX C R X φ o w fr f){ops:Array Oper}{rg:Nat}{X:Nat->Prop}{φ:Nat->Addr}{st0:St}{S:Nat->Bool}{l1 l2:List En}{e:En}{a:Act}{w:World}(ho:ops.toList[e.i]?=some e.op)(hS:Down ops.toList S)(hr:∀ed,ed∈e.op.after.toList->Region.binds .any ed=true->S ed.on=true)(hk:S e.i=false)(hd:mY (cH ops.toList []) ops.toList ((l1++e::l2).map En.tr).reverse=true)(h1:∀q,q∈l1->q.i<e.i)(h2:∀q,q∈l2->e.i<q.i)(hl:Bf e.F (fR rg e.i) (bJ e.u)=true){b:Bool}(hm:OP C R rg (eY l1 st0) e b)(hn:gE (eY l1 st0) e.kn)(hR:Rel C nt X φ (dB S (l1++e::l2) st0) a w){K:Act->World->Prop}{Q:Exit->Act->World->Prop}(hK:b=false->∀z w' φ',Comes C X φ φ' (dB S (l1++e::l2) st0).obj e.u w w' e.v z->K (a.put e.op.dst z) w')(hP:b=true->∀t v z w' φ',Comes C X φ φ' (dB S (l1++e::l2) st0).obj e.u w w' .bM z->Q (.panic (ni t v)) a w'):wpOp C.P ops Q e.i K a w:=by
 obtain⟨KF,I4⟩:=z3m hS ho hr hk hd h1 h2 st0;generalize dB S (l1++e::l2) st0=st at*
 have hq:ops[e.i]?=some e.op:=by rw[<-zG];exact ho
 unfold wpOp;simp only[hq];obtain⟨_,hs,hF,hu,hw,⟨vs,hv,hg⟩,hf⟩:=hm;rw[if_pos (by unfold Region.wanted;rw[hs])];have lt:∀t,t∈fS e.op.op.operands.toList->st.env t=(eY l1 st0).env t:=fun t ht=>KF t (List.mem_append_left _ ht);have hj:e.op.op.operands.toList.map (bU C st.env)=e.op.op.operands.toList.map (bU C (eY l1 st0).env):=by
  apply zY;intro x hx;cases x with
  |tmp t=>
   have ht:t∈fS e.op.op.operands.toList:=by
    revert hx;generalize e.op.op.operands.toList=l;intro hx
    induction l with
    |nil=>cases hx
    |cons y r ih=>
     rcases zt.1 hx with h|h
     ·subst h;exact zf ..
     ·cases y<;>first|exact ih h|exact zh _ (ih h)
   show dx (st.env t)=dx ((eY l1 st0).env t);rw[lt t ht]
  |_=>rfl
 have hc:∀id,id∈e.F->st.obj id=(eY l1 st0).obj id:=fun id h=>I4 id (.inl h);have eR:dY st.env e.kn (fS e.op.op.operands.toList)=dY (eY l1 st0).env e.kn (fS e.op.op.operands.toList):=funext fun t=>by
  unfold dY;cases hh:bH t (fS e.op.op.operands.toList) with
  |false=>rfl
  |true=>rw[lt t (cy.1 hh)]
 have oR:cS st.obj e.F=cS (eY l1 st0).obj e.F:=funext fun id=>by
  by_cases h:id∈e.F
  ·rw[lr h,lr h,hc id h]
  ·rw[rA h,rA h]
 rw[qc2 hw] at hF;refine .inl (qe3 HC hR ?_ ?_ ?_ (by rw[eR,oR];exact hg) ?_ ?_ (by rw[<-hv];exact hK) hP)
 ·intro d b hy hb;rw[lt d hy];exact hn d b hb
 ·intro id he;rw[hj] at he;rw[hF];exact qkf _ _ _ _ he
 ·rw[R9 e.F e.F (fun id h=>hc id h)];exact hu
 ·intro id he hz;rw[I4 id (.inr he)];obtain⟨p,hp,rfl⟩:=Sa he;rcases Sb hl p.1 he with h|⟨h3,h4⟩
  ·exact absurd h hz
  ·exact hf p hp h3 h4
 ·intro p hp h3 h4;by_cases h:p.1∈e.F
  ·rw[lr h,hc _ h];exact hf p hp h3 h4
  ·exact rA h
theorem qkg(hC:cf C)(hE:jI C)(HC:∀X φ o w,MRel C X φ o w->∀fr f,rX C R X φ o w fr f){ops:Array Oper}{rg:Nat}{X:Nat->Prop}{φ:Nat->Addr}{st0:St}{S:Nat->Bool}{l1 l2:List En}{e:En}{a:Act}{w:World}(ho:ops.toList[e.i]?=some e.op)(hS:Down ops.toList S)(hr:∀ed,ed∈e.op.after.toList->Region.binds .any ed=true->S ed.on=true)(hB:S e.i=false)(hd:mY (cH ops.toList []) ops.toList ((l1++e::l2).map En.tr).reverse=true)(h1:∀q,q∈l1->q.i<e.i)(h2:∀q,q∈l2->e.i<q.i)(hG:Bf e.F (fR rg e.i) (bJ e.u)=true)(hn:vl C R rg ops.toList (eY l1 st0) e)(hq:gE (eY l1 st0) e.kn)(hR:Rel C nt X φ (dB S (l1++e::l2) st0) a w){K:Act->World->Prop}{Q:Exit->Act->World->Prop}(hK:∀z w' φ',Comes C X φ φ' (dB S (l1++e::l2) st0).obj e.u w w' e.v z->K (a.put e.op.dst z) w'):wpOp C.P ops Q e.i K a w:=by
 rcases or_assoc.2 hn with hn|hn;rotate_left
 ·exact qg8 HC ho hS hr hB hd h1 h2 hG hn hq hR (fun _=>hK) (fun h=>by cases h)
 obtain⟨KF,I4⟩:=z3m hS ho hr hB hd h1 h2 st0;generalize dB S (l1++e::l2) st0=st at*
 have hI:ops[e.i]?=some e.op:=by rw[<-zG];exact ho
 have Ec:∀j want oj dj,e.op.guard=some (j,want)->ops.toList[j]?=some oj->oj.dst=some dj->dj∈Iq ops.toList e.op:=fun j want oj dj g1 g2 g3=>by unfold Iq;refine List.mem_append_right _ ?_;rw[g1];simp only;rw[g2];simp only;rw[g3];exact zf ..
 unfold wpOp;simp only[hI];rcases hn with ⟨_,⟨j,want,oj,dj,g1,g2,g3,g4⟩,hv,hu,_⟩|⟨_,hw,hF,hH,hg,hf⟩
 ·have hz:=hR.env dj;rw[KF dj (Ec j want oj dj g1 g2 g3)] at hz;have hy:Region.wanted e.op (yielded ops a.tmps)=false:=by
   unfold Region.wanted;rw[g1];simp only;rcases g4 with ⟨b,hb,hJ⟩|hL
   ·rw[hq dj b hb] at hz;rw[RN g2 g3 (oz hz)];cases b<;>cases want<;>first|rfl|exact absurd rfl hJ
   ·rw[hL] at hz;rw[qdv g2 g3 hz];rfl
  rw[if_neg (by rw[hy];simp)];exact hK undef w φ (by rw[hu,hv];exact .same hR.toMRel rfl)
 ·have hy:Region.wanted e.op (yielded ops a.tmps)=true:=by
   unfold Region.wanted;rcases hw with hw|⟨j,want,oj,dj,g1,g2,g3,g4⟩
   ·rw[hw]
   ·have hz:=hR.env dj;rw[KF dj (Ec j want oj dj g1 g2 g3),hq dj want g4] at hz;rw[g1];simp only;rw[RN g2 g3 (oz hz)];simp
  rw[if_pos hy];have lt:∀t,t∈fS e.op.op.operands.toList->st.env t=(eY l1 st0).env t:=fun t ht=>KF t (List.mem_append_left _ ht);have hs:e.op.op.operands.toList.map (bU C st.env)=e.op.op.operands.toList.map (bU C (eY l1 st0).env):=by
   apply zY;intro x hx;cases x with
   |tmp t=>
    have ht:t∈fS e.op.op.operands.toList:=by
     revert hx;generalize e.op.op.operands.toList=l;intro hx
     induction l with
     |nil=>cases hx
     |cons y r ih=>
      rcases zt.1 hx with h|h
      ·subst h;exact zf ..
      ·cases y<;>first|exact ih h|exact zh _ (ih h)
    show dx (st.env t)=dx ((eY l1 st0).env t);rw[lt t ht]
   |_=>rfl
  have hj:∀id,id∈e.F->st.obj id=(eY l1 st0).obj id:=fun id h=>I4 id (.inl h);have eR:dY st.env e.kn (fS e.op.op.operands.toList)=dY (eY l1 st0).env e.kn (fS e.op.op.operands.toList):=funext fun t=>by
   unfold dY;cases hh:bH t (fS e.op.op.operands.toList) with
   |false=>rfl
   |true=>rw[lt t (cy.1 hh)]
  have oR:cS st.obj e.F=cS (eY l1 st0).obj e.F:=funext fun id=>by
   by_cases h:id∈e.F
   ·rw[lr h,lr h,hj id h]
   ·rw[rA h,rA h]
  cases hk:u7 e.op.op with
  |true=>
   have hM:e.F=jX C st e.op:=by
    rw[hF];unfold jX;have one:∀x,x∈e.op.op.operands.toList->bU C st.env x=bU C (eY l1 st0).env x:=fun x hx=>by have:=List.map_inj_left.1 hs x hx;exact this
    split
    ·rfl
    ·rfl
    ·rename_i x ex;rw[one x (by rw[ex];simp[Op.operands])]
    ·rename_i t x f ex;rw[one x (by rw[ex];simp[Op.operands])]
    ·rename_i h1 h2 h3 h4;exfalso;cases he:e.op.op<;>rw[he] at hk<;>simp only[u7] at hk<;>first|(cases hk;done)|exact h1 _ he|exact h2 _ he|exact h3 _ he|exact h4 _ _ _ he
   have hN:=qmo (fr:=fR rg e.i) hk (fun d b hA hb=>by rw[lt d hA];exact hq d b hb) hM (by rw[eR,oR];exact hg);have hO:jH (fR rg e.i) st.obj e.u:=fun p hp h3 h4=>by rw[I4 p.1 (.inr (Of hp))];exact hf p hp h3 h4
   have hl:=Rr hC hE hR.toMRel (fun x=>hR.bU x) (HC _ _ _ _ hR.toMRel (fR rg e.i)) hN hO;exact .inl (hl.upon fun val w' φ' hc=>hK val w' φ' hc)
  |false=>
  rw[hk,Bool.false_or] at hH;rw[qc2 hk] at hF;refine .inl (qf8 hC hE HC hR ?_ ?_ ?_ (by rw[eR,oR];exact hg) ?_ ?_ hK)
  ·intro d b hA hb;rw[lt d hA];exact hq d b hb
  ·intro id hm;rw[hs] at hm;rw[hF];exact qkf _ _ _ _ hm
  ·rw[R9 e.F e.F (fun id h=>hj id h)];exact hH
  ·intro id hm hP;rw[I4 id (.inr hm)];obtain⟨p,hp,rfl⟩:=Sa hm;rcases Sb hG p.1 hm with h|⟨h3,h4⟩
   ·exact absurd h hP
   ·exact hf p hp h3 h4
  ·intro p hp h3 h4;by_cases h:p.1∈e.F
   ·rw[lr h,hj _ h];exact hf p hp h3 h4
   ·exact rA h
end
section
variable {C:Cx} {R:fI C.sigs} {nt:Fr}
theorem Rel.drawn{X:Nat->Prop}{φ:Nat->Addr}{st:St}{a:Act}{w:World}(h:Rel C nt X φ st a w):Rel C nt X φ st a {w with drawn:=w.drawn+1}:=by have hw:({w with drawn:=w.drawn+1}:World).heap=w.heap:=rfl;generalize ({w with drawn:=w.drawn+1}:World)=w' at hw;have hc:∀b,ah X φ st.obj w b->ah X φ st.obj w' b:=fun b hb=>⟨by rw[hw];exact hb.1,hb.2⟩;have keeps:∀x z,au φ st.obj (ah X φ st.obj w) w x z->au φ st.obj (ah X φ st.obj w') w' x z:=fun x z hx=>AD hc (fun _ _=>by rw[hw]) (fun _=>Up.same fun _ n hr=>Bh (by rw[hw]) hr) x z hx;exact⟨⟨fun id=>EW hc (fun _ _=>by rw[hw]) keeps rfl (fun _=>by rw[hw]) (h.ay id),h.inj,(fun i hi=>by rw[hw];exact h.sep i hi),(fun b hb=>by rw[hw];exact h.xs b hb),(fun id=>h.toMRel.jJ id (fun _=>.same (by rw[hw])) (fun _ _=>by rw[hw])),fun g t x hg=>keeps _ _ (h.fp g t x hg),h.toMRel.tI (fun _ _=>by rw[hw])⟩,h.size,fun t=>keeps _ _ (h.env t),h.defers⟩
theorem OU{rg:Nat}{all:List Oper}:∀(l1:List En) (i:Nat) (st:St) (e:En) (l2:List En),Fp C R rg all i st (l1++e::l2)->e.i=i+l1.length/\vl C R rg all (eY l1 st) e/\gE (eY l1 st) e.kn/\(∀q,q∈l1->q.i<i+l1.length)/\(∀q,q∈l2->i+l1.length<q.i)
 |[],i,st,e,l2,h=>by
  obtain⟨h1,h2,h3,_,h5⟩:=h;refine⟨h1,h2,h3,(fun q hq=>by cases hq),?_⟩;have key:∀(l:List En) (j:Nat) (s:St),Fp C R rg all j s l->∀q,q∈l->j<=q.i:=by
   intro l
   induction l with
   |nil=>intro _ _ _ q hq;cases hq
   |cons p l ih=>
    intro j s hr q hq;obtain⟨g1,_,_,_,g5⟩:=hr;rcases zt.1 hq with hq|hq
    ·subst hq;omega
    ·have:=ih (j+1) _ g5 q hq;omega
  intro q hq;have:=key l2 (i+1) _ h5 q hq;simp only[List.length_nil];omega
 |p::l1,i,st,e,l2,h=>by
  obtain⟨h1,_,_,_,h5⟩:=h;obtain⟨g1,g2,g3,g4,g5⟩:=OU l1 (i+1) (p.app st) e l2 h5;simp only[zw];refine⟨by omega,g2,g3,fun q hq=>?_,fun q hq=>?_⟩
  ·rcases zt.1 hq with hq|hq
   ·subst hq;omega
   ·have:=g4 q hq;omega
  ·have:=g5 q hq;omega
theorem OV{rg:Nat}:∀{l:List Tr},u9 rg l=true->∀t,t∈l->AA t.i t.op.after.toList=true/\Bf t.rd (fR rg t.i) t.wr=true
 |[],_,t,h=>by cases h
 |x::l,hk,t,h=>by
  simp only[u9,zd] at hk;rcases zt.1 h with h|h
  ·subst h;exact hk.1
  ·exact OV hk.2 t h
theorem KG{i:Nat}:∀{l:List Edge},AA i l=true->∀e,e∈l->Region.binds .any e=true->e.on<i
 |[],_,e,h=>by cases h
 |x::l,hk,e,h=>by
  intro hb;simp only[AA,zd,Bool.or_eq_true] at hk;rcases zt.1 h with h|h
  ·subst h;rw[hb] at hk;exact zF (hk.1.resolve_left (by simp))
  ·exact KG hk.2 e h hb
def fy(listed:Array Bool)(i:Nat):Bool:=listed.getD i false
theorem OW{ops:Array Oper}{listed:Array Bool}(hs:listed.size=ops.size){i:Nat}:i∈Region.ready .any ops listed↔∃o,ops[i]?=some o/\fy listed i=false/\∀e,e∈o.after.toList->Region.binds .any e=true->fy listed e.on=true:=by
 unfold Region.ready;rw[List.mem_filter,List.mem_range,zd];constructor
 ·rintro⟨h1,h2,h3⟩;have ho:ops[i]?=some ops[i]:=Array.getElem?_eq_getElem h1;refine⟨ops[i],ho,?_,?_⟩
  ·unfold fy;have hl:i<listed.size:=om
   simp only[Array.getD,hl,dif_pos] at h2 ⊢;simpa using h2
  ·rw[ho] at h3;simp only[Option.map_some,Option.getD_some] at h3;rw[<-Array.all_toList,zO] at h3;intro e he hb;have:=h3 e he;rw[hb] at this;simpa[fy] using this
 ·rintro⟨o,ho,h2,h3⟩;have h1:i<ops.size:=by
   rcases Nat.lt_or_ge i ops.size with h|h
   ·exact h
   ·rw[zX h] at ho;cases ho
  refine⟨h1,?_,?_⟩
  ·unfold fy at h2;have hl:i<listed.size:=om
   simp only[Array.getD,hl,dif_pos] at h2 ⊢;simpa using h2
  ·rw[ho];simp only[Option.map_some,Option.getD_some];rw[<-Array.all_toList,zO];intro e he;cases hb:Region.binds .any e with
   |false=>rfl
   |true=>have:=h3 e he hb;simpa[fy] using this
theorem qub{listed:Array Bool}{i j:Nat}(hi:i<listed.size):fy (listed.setIfInBounds i true) j=(decide (i=j)||fy listed j):=by
 unfold fy;simp only[Array.getD_eq_getD_getElem?,Array.getElem?_setIfInBounds];by_cases h:i=j
 ·subst h;simp[hi]
 ·simp[h]
def Bx(listed:Array Bool):Nat:=listed.toList.countP (fun b=>!b)
theorem qc3:∀(l:List Bool) (i:Nat),l[i]?=some false->(l.set i true).countP (fun b=>!b)+1=l.countP (fun b=>!b)
 |[],_,h=>by simp at h
 |b::l,0,h=>by simp at h;subst h;simp
 |b::l,i+1,h=>by have:=qc3 l i (by simpa using h);simp only[List.set_cons_succ,List.countP_cons];omega
theorem quc{listed:Array Bool}{i:Nat}(hi:i<listed.size)(h:fy listed i=false):Bx (listed.setIfInBounds i true)+1=Bx listed:=by unfold Bx;rw[Array.toList_setIfInBounds];refine qc3 _ _ ?_;unfold fy at h;simp only[Array.getD,hi,dif_pos] at h;rw[zG,Array.getElem?_eq_getElem hi];exact congrArg some h
theorem qg9{listed:Array Bool}(h:Bx listed=0){i:Nat}(hi:i<listed.size):fy listed i=true:=by unfold Bx at h;rw[List.countP_eq_zero] at h;unfold fy;simp only[Array.getD,hi,dif_pos];have:=h listed[i] (by simp);simpa using this
theorem qga{ops:Array Oper}{listed:Array Bool}(hs:listed.size=ops.size)(hb:∀i o,ops[i]?=some o->∀e,e∈o.after.toList->Region.binds .any e=true->e.on<i)(h:Region.ready .any ops listed=[]):∀i,i<ops.size->fy listed i=true:=by
 intro i
 induction i using Nat.strongRecOn with
 |_ i ih=>
  intro hi;cases hl:fy listed i with
  |true=>rfl
  |false=>exfalso;have ho:ops[i]?=some ops[i]:=Array.getElem?_eq_getElem hi;have:i∈Region.ready .any ops listed:=(OW hs).2 ⟨_,ho,hl,fun e he hc=>by have:=hb i _ ho e he hc;exact ih _ this om⟩;rw[h] at this;cases this
end
theorem z0g{all:List Oper}{S:Nat->Bool}(hS:Down all S){l1 l2:List En}{e:En}(he:S e.i=false)(hd:mY (cH all []) all ((l1++e::l2).map En.tr).reverse=true):∀q,q∈l2->S q.i=true->(∀d,e.op.dst=some d->q.op.dst≠some d)/\∀id,id∈bJ e.u->id∉bJ q.u:=by
 have hc:=OQ (all:=all) all [] [] rfl rfl (fun i a h=>by simp at h);intro q hq hf;have hp:Be (cH all []) all e.tr q.tr=true:=by
  obtain⟨m1,m2,rfl⟩:=List.append_of_mem hq;refine OR (m2.map En.tr).reverse ((l1++e::m1).map En.tr).reverse q.tr ?_ e.tr ?_
  ·have e1:l1++e::(m1++q::m2)=(l1++e::m1)++q::m2:=by simp
   rw[e1,zA,zM,List.reverse_append,List.reverse_cons,zD] at hd;exact hd
  ·exact List.mem_reverse.2 (List.mem_map_of_mem (List.mem_append_right _ (zf ..)))
 unfold Be at hp;rw[Bool.or_eq_true] at hp;rcases hp with hp|hp
 ·have:=R2 hS (hc _ _ hp) hf;have this:S e.i=true:=this;rw[he] at this;cases this
 ·unfold NO at hp;simp only[zd] at hp;obtain⟨⟨⟨a1,_⟩,a3⟩,_⟩:=hp;refine⟨fun d hd hq=>?_,fun id h1 h2=>KE a3 id h1 (List.mem_append_right _ h2)⟩;refine R5 a1 d hd (List.mem_append_right _ ?_);have hq:q.tr.op.dst=some d:=hq;rw[hq];exact zf ..
section
variable {C:Cx} {R:fI C.sigs} {nt:Fr} {dA:Nat→Addr} {o0:Nat→Obj} {w0:World} {sk:List Nat}
theorem qyc(hC:cf C)(hE:jI C)(HC:∀X φ o w,MRel C X φ o w->∀fr f,rX C R X φ o w fr f){ops:Array Oper}{rg:Nat}{X:Nat->Prop}{Q:Exit->Act->World->Prop}{st0:St}{es:List En}(hz:es.map (·.op)=ops.toList)(ht:Fp C R rg ops.toList 0 st0 es)(hd:mY (cH ops.toList []) ops.toList (es.map En.tr).reverse=true)(hk:u9 rg (es.map En.tr).reverse=true)(hv:oZ nt.n ops.toList=true)(fin:Sound C nt X (HJ sk dA o0 w0) (eY es st0) (Q .normal)):∀(fuel:Nat) (listed:Array Bool) (X':Nat->Prop) (φ:Nat->Addr) (a:Act) (w:World),listed.size=ops.size->Bx listed<=fuel->Down ops.toList (fy listed)->(∀b,X b->X' b)->Rel C nt X' φ (dB (fy listed) es st0) a w->cL sk dA o0 w0 φ (dB (fy listed) es st0).obj w->wpAny C.P .any ops Q fuel listed a w:=by
 have hw:es.length=ops.size:=by rw[<-zC (f:=(·.op)),hz,Array.length_toList]
 have split:∀i,i<es.length->∃l1 e l2,es=l1++e::l2/\l1.length=i/\e.i=i/\ops.toList[i]?=some e.op/\vl C R rg ops.toList (eY l1 st0) e/\gE (eY l1 st0) e.kn/\(∀q,q∈l1->q.i<i)/\(∀q,q∈l2->i<q.i):=by
  intro i hi;refine⟨es.take i,es[i],es.drop (i+1),?_,?_,?_⟩
  ·rw[<-List.drop_eq_getElem_cons hi,List.take_append_drop]
  ·rw[zJ];omega
  ·have e1:es=es.take i++es[i]::es.drop (i+1):=by rw[<-List.drop_eq_getElem_cons hi,List.take_append_drop]
   have hr:=ht;rw[e1] at hr;obtain⟨g1,g2,g3,g4,g5⟩:=OU _ _ _ _ _ hr;have e2:(es.take i).length=i:=by rw[zJ];omega
   rw[e2] at g1 g4 g5;refine⟨by omega,?_,g2,g3,fun q hq=>by have:=g4 q hq;omega,fun q hq=>by have:=g5 q hq;omega⟩;rw[<-hz,zV,ze hi];rfl
 have KH:∀e,e∈es->AA e.i e.op.after.toList=true/\Bf e.F (fR rg e.i) (bJ e.u)=true:=fun e he=>OV hk e.tr (List.mem_reverse.2 (List.mem_map_of_mem he));have back:∀i o,ops[i]?=some o->∀e,e∈o.after.toList->Region.binds .any e=true->e.on<i:=by
  intro i o ho ed he hb;have hi:i<es.length:=by
   rw[hw];rcases Nat.lt_or_ge i ops.size with h|h
   ·exact h
   ·rw[zX h] at ho;cases ho
  obtain⟨l1,e,l2,h1,_,h2,h3,_⟩:=split i hi;rw[zG,ho] at h3;injection h3 with h3;have:=(KH e (by rw[h1];exact List.mem_append_right _ (zf ..))).1;rw[h2] at this;exact KG this ed (by rw[<-h3];exact he) hb
 have ilt:∀q,q∈es->q.i<ops.size:=by
  intro q hq;obtain⟨i,hi,rfl⟩:=jA.1 hq;obtain⟨l1,e,l2,h1,h0,h2,_⟩:=split i hi;have:es[i]=e:=by
   have:es[i]?=some e:=by rw[h1,zR om,h0,Nat.sub_self];rfl
   rw[ze hi] at this;injection this
  rw[this,h2];omega
 have done:∀(listed:Array Bool) X' φ a w,listed.size=ops.size->(∀b,X b->X' b)->Rel C nt X' φ (dB (fy listed) es st0) a w->cL sk dA o0 w0 φ (dB (fy listed) es st0).obj w->Region.ready .any ops listed=[]->Q .normal a w:=by intro listed X' φ a w hs hX hR hJ hr;have hx:=qga hs back hr;rw[R6 es st0 fun q hq=>hx _ (ilt q hq)] at hR hJ;exact fin X' φ a w hX hR hJ
 intro fuel
 induction fuel with
 |zero=>
  intro listed X' φ a w hs hu hD hX hR hJ;have hr:Region.ready .any ops listed=[]:=by
   rw[List.eq_nil_iff_forall_not_mem];intro i hi;obtain⟨o,ho,hl,_⟩:=(OW hs).1 hi;have:i<listed.size:=by
    rcases Nat.lt_or_ge i listed.size with h|h
    ·exact h
    ·rw[zX om] at ho;cases ho
   rw[qg9 om this] at hl;cases hl
  exact⟨hr,done listed X' φ a w hs hX hR hJ hr⟩
 |succ fuel ih=>
  intro listed X' φ a w hs hu hD hX hR hJ;refine⟨done listed X' φ a w hs hX hR hJ,fun i hi=>?_⟩;obtain⟨o,ho,hl,hf⟩:=(OW hs).1 hi;have hG:i<ops.size:=by
   rcases Nat.lt_or_ge i ops.size with h|h
   ·exact h
   ·rw[zX h] at ho;cases ho
  obtain⟨l1,e,l2,h1,_,h2,h3,h4,h5,h6,h7⟩:=split i om;have hA:o=e.op:=by rw[zG,ho] at h3;injection h3
  subst h2 hA;have hy:e∈es:=by rw[h1];exact List.mem_append_right _ (zf ..)
  have hB:=(KH e hy).2;have hF:IT nt.n e.op.dst:=RJ hv e.op (zj h3);subst h1;refine qkg hC hE HC (l1:=l1) (l2:=l2) (st0:=st0) h3 hD hf hl hd h6 h7 hB h4 h5 hR fun z w' φ' hc=>?_;have hg:∀j,fy (listed.setIfInBounds e.i true) j=(decide (e.i=j)||fy listed j):=fun j=>qub om;have hn:dB (fy (listed.setIfInBounds e.i true)) (l1++e::l2) st0=e.app (dB (fy listed) (l1++e::l2) st0):=by
   refine qoq st0 (fun q hq=>?_) (fun q hq=>?_) hl (by rw[hg];simp) (z0g hD hl hd)
   ·have:=h6 q hq;rw[hg,zn om,Bool.false_or]
   ·have:=h7 q hq;rw[hg,zn om,Bool.false_or]
  refine ih _ X' φ' _ w' (by simpa using hs) ?_ ?_ hX ?_ ?_
  ·have:=quc (listed:=listed) (i:=e.i) om hl;omega
  ·intro j oj hj hm ed he hb;rw[hg] at hm ⊢;rw[Bool.or_eq_true] at hm ⊢;right;rcases hm with hm|hm
   ·have hm:=zP hm;subst hm;rw[h3] at hj;injection hj with hj;subst hj;exact hf ed he hb
   ·exact hD j oj hj hm ed he hb
  ·rw[hn];exact hR.step hF hc
  ·rw[hn,wA];exact hJ.step hc
theorem qyd{u:List (Nat×Obj)}(h:cR (bJ u)=true):u=[]:=by
 cases u with
 |nil=>rfl
 |cons p r=>cases h
theorem qgb{gx:List Nat}{i:Nat}:∀{l:List Tr},DX gx i l=true->∀t,t∈l->Nat.testBit (gx.getD i 0) t.i=true\/cR t.wr=true
 |[],_,t,h=>by cases h
 |x::l,hk,t,h=>by
  simp only[DX,zd,Bool.or_eq_true] at hk;rcases zt.1 h with h|h
  ·subst h;exact hk.1
  ·exact qgb hk.2 t h
theorem qkh{gx:List Nat}{i:Nat}:∀{l:List Oper} {j:Nat},DY gx i j l=true->∀k o,l[k]?=some o->AA (j+k) o.after.toList=true/\Nat.testBit (gx.getD (j+k) 0) i=true
 |[],_,_,k,o,h=>by simp at h
 |x::l,j,hk,k,o,h=>by
  simp only[DY,zd] at hk;cases k with
  |zero=>simp only[List.getElem?_cons_zero,zH] at h;subst h;exact hk.1
  |succ k=>
   have:=qkh hk.2 k o (by simpa using h);have e:j+1+k=j+(k+1):=om
   rw[e] at this;exact this
theorem Sc(gx:List Nat)(i:Nat):∀(l:List Tr) (st:St) (t:Nat),(wT gx i l st).env t=.bM\/((wT gx i l st).env t=st.env t/\∀q,q∈l->Nat.testBit (gx.getD i 0) q.i=false->q.op.dst≠some t)
 |[],_,_=>.inr ⟨rfl,(fun _ h=>by cases h)⟩
 |x::r,st,t=>by
  simp only[wT];cases hb:Nat.testBit (gx.getD i 0) x.i with
  |true=>
   rcases Sc gx i r st t with h|⟨h1,h2⟩
   ·exact .inl h
   ·refine .inr ⟨h1,fun q hq hf=>?_⟩;rcases zt.1 hq with rfl|hq
    ·rw[hb] at hf;cases hf
    ·exact h2 q hq hf
  |false=>
   rw[cond_false];rcases IU (wT gx i r st) x.op.dst .bM t with ⟨h3,h4⟩|⟨h3,h4⟩
   ·exact .inl h4
   ·rcases Sc gx i r st t with h|⟨h1,h2⟩
    ·exact .inl (h4.trans h)
    ·refine .inr ⟨h4.trans h1,fun q hq hf=>?_⟩;rcases zt.1 hq with rfl|hq
     ·exact h3
     ·exact h2 q hq hf
theorem Sd{S:Nat->Bool}:∀(es:List En) (s1 s2:St) (T:Nat->Prop),(∀q,q∈es->S q.i=true\/(q.u=[]/\∀t,q.op.dst=some t->T t))->s1.obj=s2.obj->(∀t,¬T t->s1.env t=s2.env t)->(eY es s1).obj=(dB S es s2).obj/\∀t,¬T t->(eY es s1).env t=(dB S es s2).env t
 |[],_,_,_,_,h1,h2=>⟨h1,h2⟩
 |q::r,s1,s2,T,hq,h1,h2=>by
  have hr:∀p,p∈r->S p.i=true\/(p.u=[]/\∀t,p.op.dst=some t->T t):=fun p hp=>hq p (zh _ hp);show(eY r (q.app s1)).obj=(dB S r (bif S q.i then q.app s2 else s2)).obj/\∀t,¬T t->(eY r (q.app s1)).env t=(dB S r (bif S q.i then q.app s2 else s2)).env t;cases hS:S q.i with
  |true=>
   rw[cond_true];refine Sd r (q.app s1) (q.app s2) T hr (by rw[wA q s1,wA q s2,h1]) fun t ht=>?_;rcases sc q s1 t with ⟨g1,g2⟩|⟨g1,g2⟩
   ·rcases sc q s2 t with ⟨g3,g4⟩|⟨g3,g4⟩
    ·rw[g2,g4]
    ·exact absurd g1 g3
   ·rcases sc q s2 t with ⟨g3,g4⟩|⟨g3,g4⟩
    ·exact absurd g3 g1
    ·rw[g2,g4];exact h2 t ht
  |false=>
   rcases hq q (zf ..) with h|⟨h3,h4⟩
   ·rw[hS] at h;cases h
   ·rw[cond_false];refine Sd r (q.app s1) s2 T hr (by rw[wA q s1,h3];exact h1) fun t ht=>?_;rcases sc q s1 t with ⟨g1,g2⟩|⟨g1,g2⟩
    ·exact absurd (h4 t g1) ht
    ·rw[g2];exact h2 t ht
theorem qud(hC:cf C)(hE:jI C)(HC:∀X φ o w,MRel C X φ o w->∀fr f,rX C R X φ o w fr f){ops:Array Oper}{rg:Nat}{X:Nat->Prop}{Q:Exit->Act->World->Prop}{st0:St}{es:List En}{e:En}{rest:List Oper}(hA:es.map (·.op)++e.op::rest=ops.toList)(hy:Fp C R rg ops.toList 0 st0 es)(hL:e.i=es.length)(hp:OP C R rg (eY es st0) e true)(hO:gE (eY es st0) e.kn)(hP:DX (cH ops.toList []) e.i (es.map En.tr).reverse=true)(hQ:DY (cH ops.toList []) e.i (e.i+1) rest=true)(hd:mY (cH ops.toList []) ops.toList (e.tr::(es.map En.tr).reverse)=true)(hk:u9 rg (e.tr::(es.map En.tr).reverse)=true)(hG:oZ nt.n ops.toList=true)(fin:Sound C nt X (HJ sk dA o0 w0) {wT (cH ops.toList []) e.i (es.map En.tr).reverse (eY es st0) with obj:=ak (eY es st0).obj e.u} (fun a w=>∀t v,Q (.panic (ni t v)) a w)):
  ∀(fuel:Nat) (listed:Array Bool) (X':Nat->Prop) (φ:Nat->Addr) (a:Act) (w:World),listed.size=ops.size->Bx listed<=fuel->Down ops.toList (fy listed)->fy listed e.i=false->(∀b,X b->X' b)->
   Rel C nt X' φ (dB (fy listed) es st0) a w->cL sk dA o0 w0 φ (dB (fy listed) es st0).obj w->wpAny C.P .any ops Q fuel listed a w:=by
 have hS:es.length+1+rest.length=ops.size:=by have:=congrArg List.length hA;simp at this;omega
 have hz:=OQ (all:=ops.toList) ops.toList [] [] rfl rfl (fun i a h=>by simp at h);have hH:mY (cH ops.toList []) ops.toList (es.map En.tr).reverse=true:=by simp only[mY,zd] at hd;exact hd.2
 have hB:ops.toList[e.i]?=some e.op:=by rw[<-hA,hL];simp
 have split:∀i,i<es.length->∃l1 q l2,es=l1++q::l2/\q.i=i/\ops.toList[i]?=some q.op/\vl C R rg ops.toList (eY l1 st0) q/\gE (eY l1 st0) q.kn/\(∀p,p∈l1->p.i<i)/\(∀p,p∈l2->i<p.i):=by
  intro i hi;refine⟨es.take i,es[i],es.drop (i+1),?_,?_⟩
  ·rw[<-List.drop_eq_getElem_cons hi,List.take_append_drop]
  ·have e1:es=es.take i++es[i]::es.drop (i+1):=by rw[<-List.drop_eq_getElem_cons hi,List.take_append_drop]
   have hr:=hy;rw[e1] at hr;obtain⟨g1,g2,g3,g4,g5⟩:=OU _ _ _ _ _ hr;have e2:(es.take i).length=i:=by rw[zJ];omega
   rw[e2] at g1 g4 g5;refine⟨by omega,?_,g2,g3,fun q hq=>by have:=g4 q hq;omega,fun q hq=>by have:=g5 q hq;omega⟩;rw[<-hA,zZ (by simpa using hi),zV,ze hi];rfl
 have KH:∀q,q∈es->AA q.i q.op.after.toList=true/\Bf q.F (fR rg q.i) (bJ q.u)=true:=fun q hq=>OV hk q.tr (zh _ (List.mem_reverse.2 (List.mem_map_of_mem hq)));have tre:=OV hk e.tr (zf ..);have far:∀i o,ops.toList[i]?=some o->e.i<i->AA i o.after.toList=true/\Nat.testBit ((cH ops.toList []).getD i 0) e.i=true:=by
  intro i o ho hi;obtain⟨m,rfl⟩:∃m,i=e.i+1+m:=⟨i-(e.i+1),by omega⟩;refine qkh hQ m o ?_;rw[<-hA,zR (by simp;omega)] at ho;have:e.i+1+m-(es.map (·.op)).length=m+1:=by simp;omega
  rw[this] at ho;simpa using ho
 have back:∀i o,ops[i]?=some o->∀ed,ed∈o.after.toList->Region.binds .any ed=true->ed.on<i:=by
  intro i o ho ed he hb;rw[<-zG] at ho;rcases Nat.lt_trichotomy i e.i with hi|hi|hi
  ·obtain⟨l1,q,l2,h1,h2,h3,_⟩:=split i om;rw[ho] at h3;injection h3 with h3;have:=(KH q (by rw[h1];exact List.mem_append_right _ (zf ..))).1;rw[h2] at this;exact KG this ed (by rw[<-h3];exact he) hb
  ·subst hi;rw[hB] at ho;injection ho with ho;subst ho;exact KG tre.1 ed he hb
  ·exact KG (far i o ho hi).1 ed he hb
 have stuck:∀listed:Array Bool,listed.size=ops.size->fy listed e.i=false->Region.ready .any ops listed=[]->False:=by intro listed hs hf hr;have:=qga hs back hr e.i om;rw[hf] at this;cases this
 intro fuel
 induction fuel with
 |zero=>intro listed X' φ a w hs hu hD hf;have:=qg9 (listed:=listed) om (i:=e.i) om;rw[hf] at this;cases this
 |succ fuel ih=>
  intro listed X' φ a w hs hu hD hf hX hR hJ;refine⟨fun hr=>(stuck listed hs hf hr).elim,fun i hi=>?_⟩;obtain⟨o,ho,hl,hg⟩:=(OW hs).1 hi;have hY:i<ops.size:=by
   rcases Nat.lt_or_ge i ops.size with h|h
   ·exact h
   ·rw[zX h] at ho;cases ho
  rcases Nat.lt_trichotomy i e.i with hM|hT|hU
  ·obtain⟨l1,q,l2,h1,h2,h3,h4,h5,h6,h7⟩:=split i om;have hI:o=q.op:=by rw[zG,ho] at h3;injection h3
   subst h2 hI;have hK:q∈es:=by rw[h1];exact List.mem_append_right _ (zf ..)
   have hV:=(KH q hK).2;have hW:IT nt.n q.op.dst:=RJ hG q.op (zj h3);rw[h1] at hH hR hJ;refine qkg hC hE HC (l1:=l1) (l2:=l2) (st0:=st0) h3 hD hg hl hH h6 h7 hV h4 h5 hR fun z w' φ' hc=>?_;have hn:∀j,fy (listed.setIfInBounds q.i true) j=(decide (q.i=j)||fy listed j):=fun j=>qub om;have hw:dB (fy (listed.setIfInBounds q.i true)) (l1++q::l2) st0=q.app (dB (fy listed) (l1++q::l2) st0):=by
    refine qoq st0 (fun p hp=>?_) (fun p hp=>?_) hl (by rw[hn];simp) (z0g hD hl hH)
    ·have:=h6 p hp;rw[hn,zn om,Bool.false_or]
    ·have:=h7 p hp;rw[hn,zn om,Bool.false_or]
   refine ih _ X' φ' _ w' (by simpa using hs) ?_ ?_ ?_ hX ?_ ?_
   ·have:=quc (listed:=listed) (i:=q.i) om hl;omega
   ·intro j oj hj hv ed he hb;rw[hn] at hv ⊢;rw[Bool.or_eq_true] at hv ⊢;right;rcases hv with hv|hv
    ·have hv:=zP hv;subst hv;rw[h3] at hj;injection hj with hj;subst hj;exact hg ed he hb
    ·exact hD j oj hj hv ed he hb
   ·rw[hn,zn om,Bool.false_or];exact hf
   ·rw[h1,hw];exact hR.step hW hc
   ·rw[h1,hw,wA];exact hJ.step hc
  ·subst hT;have hI:o=e.op:=by rw[<-zG,hB] at ho;injection ho with ho;exact ho.symm
   subst hI;have hN:dB (fy listed) (es++[e]) st0=dB (fy listed) es st0:=by rw[KC];show(bif fy listed e.i then _ else _)=_;rw[hf];rfl
   have hM:∀p,p∈es->p.i<e.i:=fun p hp=>by
    obtain⟨j,hj,rfl⟩:=jA.1 hp;obtain⟨l1,q,l2,h1,h2,h3,h4,h5,h6,h7⟩:=split j hj;rw[hL];have hr:=hy;have e1:es=es.take j++es[j]::es.drop (j+1):=by rw[<-List.drop_eq_getElem_cons hj,List.take_append_drop]
    rw[e1] at hr;have:=(OU _ _ _ _ _ hr).1;rw[zJ] at this;omega
   refine qg8 HC (l1:=es) (l2:=[]) (st0:=st0) hB hD hg hl ?_ hM (fun _ h=>by cases h) tre.2 hp hO (by rw[hN];exact hR) (fun h=>by cases h) fun _ t v z w' φ' hc=>?_
   ·rw[zA,zM,List.map_nil,List.reverse_append];exact hd
   ·rw[hN] at hc;have hx:∀q,q∈es->fy listed q.i=true\/(q.u=[]/\∀t,q.op.dst=some t->∃p,p∈(es.map En.tr).reverse/\Nat.testBit ((cH ops.toList []).getD e.i 0) p.i=false/\p.op.dst=some t):=by
     intro q hq;have hm:q.tr∈(es.map En.tr).reverse:=List.mem_reverse.2 (List.mem_map_of_mem hq);cases hb:Nat.testBit ((cH ops.toList []).getD e.i 0) q.i with
     |true=>exact .inl (R3 hD hB hg (hz _ _ hb))
     |false=>
      refine .inr ⟨?_,fun t ht=>⟨q.tr,hm,hb,ht⟩⟩;rcases qgb hP q.tr hm with h|h
      ·have h:Nat.testBit ((cH ops.toList []).getD e.i 0) q.i=true:=h;rw[hb] at h;cases h
      ·exact qyd h
    obtain⟨f1,f2⟩:=Sd es st0 st0 (fun t=>∃p,p∈(es.map En.tr).reverse/\Nat.testBit ((cH ops.toList []).getD e.i 0) p.i=false/\p.op.dst=some t) hx rfl (fun _ _=>rfl);have hF:=hR.w6 hc;refine fin X' φ' a w' hX ⟨?_,hF.size,fun t=>?_,hF.defers⟩ ?_ t v
    ·rw[f1];exact hF.toMRel
    ·show au φ' (ak (eY es st0).obj e.u) _ w' ((wT (cH ops.toList []) e.i (es.map En.tr).reverse (eY es st0)).env t) _;rcases Sc (cH ops.toList []) e.i (es.map En.tr).reverse (eY es st0) t with h|⟨h3,h4⟩
     ·rw[h];trivial
     ·rw[h3,f1,f2 t fun⟨p,p1,p2,p3⟩=>h4 p p1 p2 p3];exact hF.env t
    ·show cL sk dA o0 w0 φ' (ak (eY es st0).obj e.u) w';rw[f1];exact hJ.step hc
  ·have hb:=(far i o (by rw[zG];exact ho) hU).2;have:=R3 hD (by rw[zG];exact ho) hg (hz _ _ hb);rw[hf] at this;cases this
theorem z1t(hC:cf C)(hE:jI C)(hL:ON C)(hm:C.P.follows .mixedOrders=true):qu5 C:=by
 intro R hR nt sk dA o0 w0 rg ops n γ δ X Q wr st k kp y h hc hk hl hn X' φ a w hX he hJ;have hf:∀i,fy (Array.replicate ops.size false) i=false:=fun i=>by unfold fy;rw[Array.getD_eq_getD_getElem?,Array.getElem?_replicate];split<;>rfl
 rcases z1r n 0 ops.toList st [] [] h (fun d b hd=>by cases hd) with ⟨es,h1,h2,h3,h4⟩|⟨es,e,rest,h1,h2,h3,h4,h5,h6,h7,h8,h9,hj⟩
 rotate_left
 ·rw[zE] at h6 h8 h9 hj;refine wp_region_any hm ?_;have hg:dB (fy (Array.replicate ops.size false)) es st=st:=OT es st fun q _=>hf _;refine qud hC hE (hL R hR) h1 h2 om h4 h5 h6 h7 h8 h9 hc ((hl _ hj).weaken fun a w hq t v=>hn a w t v hq) ops.size _ X' φ a _ (by simp) ?_ ?_ (hf _) hX ?_ ?_
  ·unfold Bx;exact Nat.le_trans List.countP_le_length (by simp)
  ·intro i o _ hs;rw[hf] at hs;cases hs
  ·rw[hg];exact he.drawn
  ·rw[hg];exact⟨hJ.size,hJ.frame,hJ.news,hJ.still,hJ.up⟩
 rw[zE,zd] at h3;refine wp_region_any hm ?_;have hg:dB (fy (Array.replicate ops.size false)) es st=st:=OT es st fun q _=>hf _;refine qyc hC hE (hL R hR) h1 h2 h3.1 h3.2 hc (hk _ h4) ops.size _ X' φ a _ (by simp) ?_ ?_ hX ?_ ?_
 ·unfold Bx;exact Nat.le_trans List.countP_le_length (by simp)
 ·intro i o _ hs;rw[hf] at hs;cases hs
 ·rw[hg];exact he.drawn
 ·rw[hg];exact⟨hJ.size,hJ.frame,hJ.news,hJ.still,hJ.up⟩
end
end Ev