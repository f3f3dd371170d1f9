/- Regions that draw their order are sound. No statement of its own about the program. -/
import Derived.Test.YtfgngipmbogcjaaGreatDoorEvG
namespace Ev
open Go
structure En where
 i:Nat
 op:Oper
 sk:Bool
 kn:List (Nat×Bool)
 F:List Nat
 v:V
 u:List (Nat×Obj)
def En.app(e:En)(st:St):St:=bF {st with obj:=ar st.obj e.u} e.op.dst e.v
def dM(S:Nat->Bool):List En->St->St
 |[],st=>st
 |e::r,st=>dM S r (bif S e.i then e.app st else st)
theorem St.ext'{a b:St}(h1:∀t,a.env t=b.env t)(h2:∀id,a.obj id=b.obj id):a=b:=by
 obtain⟨e,o⟩:=a;obtain⟨e',o'⟩:=b;have:e=e':=funext h1;have:o=o':=funext h2
 subst_vars;rfl
theorem xK(e:En)(st:St):(e.app st).obj=ar st.obj e.u:=by unfold En.app bF;cases e.op.dst<;>rfl
theorem tE(e:En)(st:St)(t:Nat):(e.op.dst=some t/\(e.app st).env t=e.v)\/(e.op.dst≠some t/\(e.app st).env t=st.env t):=by
 unfold En.app bF;cases h:e.op.dst with
 |none=>exact .inr ⟨by simp,rfl⟩
 |some d=>
  by_cases ht:t=d
  ·subst ht;exact .inl ⟨rfl,eY⟩
  ·exact .inr ⟨fun e=>ht (by injection e with e;exact e.symm),o6 ht⟩
theorem z0s{e e':En}(hd:∀d,e.op.dst=some d->e'.op.dst≠some d)(hk:∀id,id∈bO e.u->id∉bO e'.u)(st:St):e'.app (e.app st)=e.app (e'.app st):=by
 apply St.ext'
 ·intro t;rcases tE e' (e.app st) t with ⟨h1,h2⟩|⟨h1,h2⟩
  ·rw[h2];rcases tE e (e'.app st) t with ⟨h3,h4⟩|⟨h3,h4⟩
   ·exact absurd h1 (hd t h3)
   ·rw[h4];rcases tE e' st t with ⟨_,h6⟩|⟨h5,_⟩
    ·rw[h6]
    ·exact absurd h1 h5
  ·rw[h2];rcases tE e (e'.app st) t with ⟨h3,h4⟩|⟨h3,h4⟩
   ·rw[h4];rcases tE e st t with ⟨_,h6⟩|⟨h5,_⟩
    ·exact h6
    ·exact absurd h3 h5
   ·rw[h4];rcases tE e st t with ⟨h5,_⟩|⟨_,h6⟩
    ·exact absurd h5 h3
    ·rw[h6];rcases tE e' st t with ⟨h7,_⟩|⟨_,h8⟩
     ·exact absurd h7 h1
     ·rw[h8]
 ·intro id;rw[xK,xK,xK,xK];by_cases h1:id∈bO e.u
  ·rw[iM (hk id h1),Lo (o':=ar st.obj e'.u) h1]
  ·rw[iM (u:=e.u) (o:=ar st.obj e'.u) h1];by_cases h2:id∈bO e'.u
   ·exact Lo h2
   ·rw[iM h2,iM h2,iM h1]
theorem LF(S:Nat->Bool):∀(l m:List En) (st:St),dM S (l++m) st=dM S m (dM S l st)
 |[],_,_=>rfl
 |_::l,m,_=>LF S l m _
theorem S9{S S':Nat->Bool}:∀(l:List En) (st:St),(∀e,e∈l->S e.i=S' e.i)->dM S l st=dM S' l st
 |[],_,_=>rfl
 |e::l,st,h=>by show dM S l (bif S e.i then e.app st else st)=dM S' l (bif S' e.i then e.app st else st);rw[h e (zf ..)];exact S9 l _ fun q hq=>h q (zg _ hq)
theorem qqr{S:Nat->Bool}{e:En}:∀(l:List En) (st:St),(∀q,q∈l->S q.i=true->(∀d,e.op.dst=some d->q.op.dst≠some d)/\∀id,id∈bO e.u->id∉bO q.u)->dM S l (e.app st)=e.app (dM S l st)
 |[],_,_=>rfl
 |q::l,st,h=>by
  show dM S l (bif S q.i then q.app (e.app st) else e.app st)=e.app (dM S l (bif S q.i then q.app st else st));have ih:=fun st=>qqr (S:=S) (e:=e) l st fun p hp=>h p (zg _ hp);cases hs:S q.i with
  |true=>obtain⟨h1,h2⟩:=h q (zf ..) hs;show dM S l (q.app (e.app st))=e.app (dM S l (q.app st));rw[z0s h1 h2,ih]
  |false=>exact ih st
theorem qqs{S S':Nat->Bool}{e:En}{l m:List En}(st:St)(hl:∀q,q∈l->S q.i=S' q.i)(hm:∀q,q∈m->S q.i=S' q.i)(h1:S e.i=false)(h2:S' e.i=true)(hp:∀q,q∈m->S q.i=true->(∀d,e.op.dst=some d->q.op.dst≠some d)/\∀id,id∈bO e.u->id∉bO q.u):dM S' (l++e::m) st=e.app (dM S (l++e::m) st):=by rw[LF,LF];show dM S' m (bif S' e.i then e.app (dM S' l st) else dM S' l st)=e.app (dM S m (bif S e.i then e.app (dM S l st) else dM S l st));rw[h1,h2,<-S9 l st hl];show dM S' m (e.app (dM S l st))=e.app (dM S m (dM S l st));rw[<-S9 m _ hm];exact qqr m _ hp
section
variable {C:Cx} {R:gF C.sigs}
def En.tr(e:En):Tr:=⟨e.i,e.op,e.F,bO e.u⟩
def ix(st:St)(kn:List (Nat×Bool)):Prop:=∀d b,sT d kn=some b->st.env d=.d .bool b
def z37(all:List Oper)(st:St)(e:En):Prop:=∃j want oj dj,e.op.guard=some (j,want)/\all[j]?=some oj/\oj.dst=some dj/\((∃b,sT dj e.kn=some b/\b≠want)\/st.env dj=.undef)
def z38(all:List Oper)(e:En):Prop:=e.op.guard=none\/∃j want oj dj,e.op.guard=some (j,want)/\all[j]?=some oj/\oj.dst=some dj/\sT dj e.kn=some want
def PT(C:Cx)(R:gF C.sigs)(rg:Nat)(st:St)(e:En)(b:Bool):Prop:=
 e.sk=false/\e.op.guard=none/\e.F=kU C st e.op/\tn st.obj e.F e.F=true/\wy e.op.op=false/\
  (∃vs,e.v=lz vs/\(E7 lf C R (eH st.env e.kn (gQ e.op.op.operands.toList)) (cY st.obj e.F) (gO rg e.i) e.op.op).gives (.gV (.bP::.d .bool b::vs)) e.u)/\kC (gO rg e.i) st.obj e.u
def wJ(C:Cx)(R:gF C.sigs)(rg:Nat)(all:List Oper)(st:St)(e:En):Prop:=
 (e.sk=true/\z37 all st e/\e.v=.undef/\e.u=[]/\e.F=[])\/
 (e.sk=false/\z38 all e/\e.F=kU C st e.op/\(wy e.op.op||tn st.obj e.F e.F)=true/\
  (df lf C R (eH st.env e.kn (gQ e.op.op.operands.toList)) (cY st.obj e.F) (gO rg e.i) e.op.type e.op.op).gives e.v e.u/\kC (gO rg e.i) st.obj e.u)\/PT C R rg st e false
def GA(C:Cx)(R:gF C.sigs)(rg:Nat)(all:List Oper):Nat->St->List En->Prop
 |_,_,[]=>True
 |i,st,e::r=>e.i=i/\wJ C R rg all st e/\ix st e.kn/\KX e.op.dst e.kn=true/\GA C R rg all (i+1) (e.app st) r
def fm:List En->St->St
 |[],st=>st
 |e::r,st=>fm r (e.app st)
theorem z0u{e:En}{st:St}{kn:List (Nat×Bool)}(h:ix st kn)(hn:KX e.op.dst kn=true):ix (e.app st) kn:=by
 intro d b hd;rcases tE e st d with ⟨h1,_⟩|⟨_,h2⟩
 ·exfalso;rw[h1] at hn;unfold KX at hn;simp only[hd] at hn;cases hn
 ·rw[h2];exact h d b hd
theorem qst{env:Nat->V}{o:Nat->Obj}{fr:Nat}{ty:TypeId}{t:Nat}{y:Bool}(he:env t=.lb y){v:V}{u:List (Nat×Obj)}(h:(df lf C R env o fr ty (.move (.tmp t))).gives v u):v=.d .bool y:=by
 have hv:bZ C env (.tmp t)=.d .bool y:=by show dK (env t)=_;rw[he];rfl
 simp only[df,hv,KN] at h;rw[dJ] at h;exact h.1.symm
theorem qsu{env:Nat->V}{o:Nat->Obj}{fr:Nat}{ty:TypeId}{t:Nat}{q z:Bool}{a b:Operand}(he:env t=.lb q)(hz:(bif q then a else b)=.const (.bool z)){v:V}{u:List (Nat×Obj)}(h:(df lf C R env o fr ty (.pick (.tmp t) a b)).gives v u):v=.d .bool z:=by
 have hv:Cs C env (.tmp t)=.lb q:=he;simp only[df,hv] at h;rw[dJ] at h;rw[<-h.1];cases q with
 |true=>rw[cond_true] at hz ⊢;rw[hz];rfl
 |false=>rw[cond_false] at hz ⊢;rw[hz];rfl
theorem qhn{env:Nat->V}{kn:List (Nat×Bool)}{ts:List Nat}{t:Nat}{b:Bool}(ht:bM t ts=true)(hk:sT t kn=some b):eH env kn ts t=.lb b:=by unfold eH;rw[ht,cond_true,hk]
theorem qlz{st:St}{kn:List (Nat×Bool)}{d:Nat}{z:Bool}(h:ix st kn)(hd:st.env d=.d .bool z):ix st ((d,z)::kn):=by
 intro t b ht;simp only[sT] at ht;cases hq:Nat.beq d t with
 |true=>rw[hq,cond_true] at ht;injection ht with ht;have:=zh hq;subst this ht;exact hd
 |false=>rw[hq,cond_false] at ht;exact h t b ht
theorem qm0(t:Nat)(l:List Nat):bM t (t::l)=true:=by simp[bM]
theorem z0v{st:St}{kn:List (Nat×Bool)}{o:Oper}{ob:Nat->Obj}{Ta:Nat->Obj}{fr:Nat}{v:V}{u:List (Nat×Obj)}(hg:(df lf C R (eH st.env kn (gQ o.op.operands.toList)) ob fr o.type o.op).gives v u)(h:ix (bF {st with obj:=Ta} o.dst v) kn):ix (bF {st with obj:=Ta} o.dst v) (F5 o kn):=by
 unfold F5;split
 ·exact h
 ·rename_i d hd;have hc:(bF {st with obj:=Ta} o.dst v).env d=v:=by rw[hd];simp[bF,cV]
  split
  ·rename_i t ho;split
   ·rename_i y hy;rw[ho] at hg;have:=qst (qhn (by simpa[Op.operands,gQ] using qm0 t []) hy) hg;exact qlz h (by rw[hc,this])
   ·exact h
  ·rename_i c x y ho;split
   ·rename_i q hq;split
    ·rename_i z hz;rw[ho] at hg;have:=qsu (qhn (by simpa[Op.operands,gQ] using qm0 c _) hq) hz hg;exact qlz h (by rw[hc,this])
    ·exact h
   ·exact h
  ·exact h
def LG(C:Cx)(R:gF C.sigs)(rg:Nat)(all:List Oper){γ δ:Type}(w:γ->δ)(k kp:(γ->δ)->St->Option δ)(y:δ)(i:Nat)(r:List Oper)(st:St)(tr:List Tr):Prop:=
 (∃es,es.map (·.op)=r/\GA C R rg all i st es/\(ou (cL all []) all ((es.map En.tr).reverse++tr)&&wz rg ((es.map En.tr).reverse++tr))=true/\k w (fm es st)=some y)\/
 (∃es e rest,es.map (·.op)++e.op::rest=r/\GA C R rg all i st es/\e.i=i+es.length/\PT C R rg (fm es st) e true/\ix (fm es st) e.kn/\E8 (cL all []) e.i ((es.map En.tr).reverse++tr)=true/\
  E9 (cL all []) e.i (e.i+1) rest=true/\ou (cL all []) all (e.tr::((es.map En.tr).reverse++tr))=true/\wz rg (e.tr::((es.map En.tr).reverse++tr))=true/\
  kp w {yg (cL all []) e.i ((es.map En.tr).reverse++tr) (fm es st) with obj:=ar (fm es st).obj e.u}=some y)
theorem z4q{rg:Nat}{all:List Oper}{γ δ:Type}{w:γ->δ}{k kp:(γ->δ)->St->Option δ}{y:δ}:∀(n i:Nat) (r:List Oper) (st:St) (kn:List (Nat×Bool)) (tr:List Tr),sU lf C R rg all n w i r st kn tr k kp=some y->ix st kn->LG C R rg all w k kp y i r st tr:=by
 intro n
 induction n with
 |zero=>intro i r st kn tr h;cases h
 |succ n ih=>
  intro i r st kn tr h he;cases r with
  |nil=>
   have h:(bif ou (cL all []) all tr&&wz rg tr then k w st else none)=some y:=h;cases hd:(ou (cL all []) all tr&&wz rg tr) with
   |false=>rw[hd] at h;cases h
   |true=>rw[hd] at h;exact .inl ⟨[],rfl,trivial,hd,h⟩
  |cons o r=>
   unfold sU at h;simp only at h;cases hf:KX o.dst kn with
   |false=>rw[hf] at h;cases h
   |true=>
    rw[hf,cond_true] at h;have more:∀(e:En),e.i=i->e.op=o->e.kn=kn->wJ C R rg all st e->∀J0,(ix (e.app st) kn->ix (e.app st) J0)->sU lf C R rg all n w (i+1) r (e.app st) J0 (e.tr::tr) k kp=some y->
      LG C R rg all w k kp y i (o::r) st tr:=by
     intro e h1 h2 h3 h4 J0 h6 h5;rcases ih _ _ _ _ _ h5 (h6 (z0u he (by rw[h2];exact hf))) with ⟨es,g1,g2,g3,g4⟩|⟨es,q,rest,g1,g2,g3,g4,g5,g6,g7,g8,g9,g10⟩
     ·exact .inl ⟨e::es,by rw[zQ,g1,h2],⟨h1,h4,by rw[h3];exact he,by rw[h2,h3];exact hf,g2⟩,by rw[zQ,List.reverse_cons,zD];exact g3,g4⟩
     ·have hl:((e::es).map En.tr).reverse++tr=(es.map En.tr).reverse++e.tr::tr:=by rw[zQ,List.reverse_cons,zD];rfl
      refine .inr ⟨e::es,q,rest,by rw[zQ,List.cons_append,g1,h2],⟨h1,h4,by rw[h3];exact he,by rw[h2,h3];exact hf,g2⟩,by rw[zw];omega,g4,g5,?_,g7,?_,?_,?_⟩
      ·rw[hl];exact g6
      ·rw[hl];exact g8
      ·rw[hl];exact g9
      ·rw[hl];exact g10
    have run:(∀e:En,e.op=o->e.kn=kn->z38 all e)->(bif wy o.op||tn st.obj (kU C st o) (kU C st o) then(match df lf C R (eH st.env kn (gQ o.op.operands.toList)) (cY st.obj (kU C st o)) (gO rg i) o.type o.op with
      |.fail=>none
      |.mw v u=>nZ v fun v=>qI (gO rg i) st.obj u fun o'=>sU lf C R rg all n w (i+1) r (bF {st with obj:=o'} o.dst v) (F5 o kn) (⟨i,o,kU C st o,bO u⟩::tr) k kp
      |.dyn _ x out=>lf.b x fun y=>nZ (out y).1 fun v=>qI (gO rg i) st.obj (out y).2 fun o'=>sU lf C R rg all n w (i+1) r (bF {st with obj:=o'} o.dst v) (F5 o kn) (⟨i,o,kU C st o,bO (out y).2⟩::tr) k kp) else none)=some y->
      LG C R rg all w k kp y i (o::r) st tr:=by
     intro hw h;cases hc:(wy o.op||tn st.obj (kU C st o) (kU C st o)) with
     |false=>rw[hc] at h;cases h
     |true=>
      rw[hc,cond_true] at h;have go:∀v u,(df lf C R (eH st.env kn (gQ o.op.operands.toList)) (cY st.obj (kU C st o)) (gO rg i) o.type o.op).gives v u->
        (nZ v fun v=>qI (gO rg i) st.obj u fun o'=>sU lf C R rg all n w (i+1) r (bF {st with obj:=o'} o.dst v) (F5 o kn) (⟨i,o,kU C st o,bO u⟩::tr) k kp)=some y->
        LG C R rg all w k kp y i (o::r) st tr:=by
       intro v u hg h;rw[Lq] at h;obtain⟨h1,h2⟩:=Lr _ _ _ _ h;exact more ⟨i,o,false,kn,kU C st o,v,u⟩ rfl rfl rfl (.inr (.inl ⟨rfl,hw _ rfl rfl,rfl,hc,hg,h2⟩)) _ (z0v hg) h1
      generalize hp:df lf C R (eH st.env kn (gQ o.op.operands.toList)) (cY st.obj (kU C st o)) (gO rg i) o.type o.op=pk at h go;cases pk with
      |fail=>cases h
      |mw v u=>exact go v u ⟨rfl,rfl⟩ h
      |dyn α x out=>obtain⟨q,h1,h2⟩:=xF (x:=x) h;exact go (out q).1 (out q).2 ⟨q,h1,rfl⟩ h2
    have skip:(∀e:En,e.op=o->e.kn=kn->z37 all st e)->sU lf C R rg all n w (i+1) r (bF st o.dst .undef) kn (⟨i,o,[],[]⟩::tr) k kp=some y->
      LG C R rg all w k kp y i (o::r) st tr:=fun hs h=>
     more ⟨i,o,true,kn,[],.undef,[]⟩ rfl rfl rfl (.inl ⟨rfl,hs _ rfl rfl,rfl,rfl,rfl⟩) kn (fun h=>h) h
    cases ho:KT C.sigs o with
    |true=>
     rw[ho,cond_true] at h;split at h
     ·rename_i hg;cases hc:(tn st.obj (kU C st o) (kU C st o)&&!(wy o.op)) with
      |false=>rw[hc] at h;cases h
      |true=>
       rw[hc,cond_true] at h;rw[zd] at hc;have ht:wy o.op=false:=by simpa using hc.2
       split at h
       ·rename_i α x out hy;obtain⟨q,h1,h2⟩:=xF (x:=x) h;split at h2
        ·rename_i b vs hj;rw[Lq] at h2;obtain⟨h3,h4⟩:=Lr _ _ _ _ h2;have hv:(E7 lf C R (eH st.env kn (gQ o.op.operands.toList)) (cY st.obj (kU C st o)) (gO rg i) o.op).gives (.gV (.bP::.d .bool b::vs)) (out q).2:=by rw[hy];exact⟨q,h1,by rw[<-hj]⟩
         cases b with
         |false=>exact more ⟨i,o,false,kn,kU C st o,lz vs,(out q).2⟩ rfl rfl rfl (.inr (.inr ⟨rfl,hg,rfl,hc.1,ht,⟨vs,rfl,hv⟩,h4⟩)) kn (fun h=>h) h3
         |true=>
          replace h3:(bif E8 (cL all []) i tr&&E9 (cL all []) i (i+1) r&&ou (cL all []) all (⟨i,o,kU C st o,bO (out q).2⟩::tr)&&wz rg (⟨i,o,kU C st o,bO (out q).2⟩::tr) then kp w {yg (cL all []) i tr st with obj:=ar st.obj (out q).2} else none)=some y:=h3;cases hk:(E8 (cL all []) i tr&&E9 (cL all []) i (i+1) r&&ou (cL all []) all (⟨i,o,kU C st o,bO (out q).2⟩::tr)&&wz rg (⟨i,o,kU C st o,bO (out q).2⟩::tr)) with
          |false=>rw[hk] at h3;cases h3
          |true=>rw[hk,cond_true] at h3;simp only[zd] at hk;obtain⟨⟨⟨k1,k2⟩,k3⟩,k4⟩:=hk;exact .inr ⟨[],⟨i,o,false,kn,kU C st o,lz vs,(out q).2⟩,r,rfl,trivial,rfl,⟨rfl,hg,rfl,hc.1,ht,⟨vs,rfl,hv⟩,h4⟩,he,k1,k2,k3,k4,h3⟩
        ·cases h2
       ·cases h
     ·cases h
    |false=>
    rw[ho,cond_false] at h;split at h
    ·rename_i hg;exact run (fun e h1 _=>.inl (by rw[h1];exact hg)) h
    ·rename_i j want hg;split at h
     ·rename_i oj hm;split at h
      ·rename_i dj hn;split at h
       ·rename_i b hb;cases hc:(bif want then b else !b) with
        |true=>
         rw[hc] at h;have:b=want:=by cases b<;>cases want<;>first|rfl|cases hc
         subst this;exact run (fun e h1 h2=>.inr ⟨j,b,oj,dj,by rw[h1];exact hg,hm,hn,by rw[h2];exact hb⟩) h
        |false=>
         rw[hc] at h;have:b≠want:=by cases b<;>cases want<;>first|(intro h;cases h;done)|cases hc
         exact skip (fun e h1 h2=>⟨j,want,oj,dj,by rw[h1];exact hg,hm,hn,.inl ⟨b,by rw[h2];exact hb,this⟩⟩) h
       ·split at h
        ·rename_i hu;exact skip (fun e h1 h2=>⟨j,want,oj,dj,by rw[h1];exact hg,hm,hn,.inr hu⟩) h
        ·rename_i x hx;have J0:∀b,x=b->ix st ((dj,b)::kn):=by
          intro b e d b' hd;simp only[sT] at hd;cases hq:Nat.beq dj d with
          |true=>rw[hq,cond_true] at hd;injection hd with hd;have:=zh hq;subst this hd e;exact hx
          |false=>rw[hq,cond_false] at hd;exact he d b' hd
         cases x with
         |true=>exact ih i (o::r) st _ tr h (J0 true rfl)
         |false=>exact ih i (o::r) st _ tr h (J0 false rfl)
        ·cases h
      ·cases h
     ·cases h
end
inductive B5 (all:List Oper):Nat->Nat->Prop where
 |GB {i:Nat} {o:Oper} {e:Edge} (h1:all[i]?=some o) (h2:e∈o.after.toList) (h3:Region.binds .any e=true):B5 all i e.on
 |trans {i a:Nat} {o:Oper} {e:Edge} (h1:all[i]?=some o) (h2:e∈o.after.toList) (h3:Region.binds .any e=true) (h4:B5 all e.on a):B5 all i a
theorem qoe{t a:Nat}(h:Nat.testBit (bit t) a=true):a=t:=by
 unfold bit at h;rw[Nat.testBit_shiftLeft,zd] at h;obtain⟨h1,h2⟩:=h;have h1:t<=a:=by simpa using h1
 have:a-t=0:=zP fun hn=>by obtain⟨m,hm⟩:∃m,a-t=m+1:=⟨a-t-1,by omega⟩;rw[hm,Nat.testBit_succ] at h2;simp at h2
 omega
theorem qqt{all:List Oper}{acc:List Nat}(hc:∀i a,Nat.testBit (acc.getD i 0) a=true->B5 all i a){i:Nat}{o:Oper}(ho:all[i]?=some o):∀(l:List Edge) (s:Nat),(∀e,e∈l->e∈o.after.toList)->(∀a,Nat.testBit s a=true->B5 all i a)->∀a,Nat.testBit (l.foldl (fun s e=>bif Region.binds .any e then s|||bit e.on|||acc.getD e.on 0 else s) s) a=true->B5 all i a
 |[],s,_,hs,a,h=>hs a h
 |e::l,s,hl,hs,a,h=>by
  refine qqt hc ho l _ (fun q hq=>hl q (zg _ hq)) ?_ a h;intro a ha;replace ha:Nat.testBit (bif Region.binds .any e then s|||bit e.on|||acc.getD e.on 0 else s) a=true:=ha;cases hb:Region.binds .any e with
  |false=>rw[hb,cond_false] at ha;exact hs a ha
  |true=>
   rw[hb,cond_true,Nat.testBit_or,Nat.testBit_or,Bool.or_eq_true,Bool.or_eq_true] at ha;rcases ha with (ha|ha)|ha
   ·exact hs a ha
   ·rw[qoe ha];exact .GB ho (hl e (zf ..)) hb
   ·exact .trans ho (hl e (zf ..)) hb (hc _ _ ha)
theorem PU{all:List Oper}:∀(r pre:List Oper) (acc:List Nat),all=pre++r->acc.length=pre.length->(∀i a,Nat.testBit (acc.getD i 0) a=true->B5 all i a)->∀i a,Nat.testBit ((cL r acc).getD i 0) a=true->B5 all i a
 |[],pre,acc,_,_,hc=>hc
 |o::r,pre,acc,he,hf,hc=>by
  refine PU r (pre++[o]) _ (by rw[he];simp) (by simp[hf]) ?_;have ho:all[pre.length]?=some o:=by rw[he];simp
  intro i a h;by_cases hi:i<acc.length
  ·rw[List.getD_eq_getElem?_getD,jc hi,<-List.getD_eq_getElem?_getD] at h;exact hc i a h
  ·by_cases hg:i=acc.length
   ·rw[List.getD_eq_getElem?_getD,zV om,hg,Nat.sub_self] at h;rw[hg,hf];exact qqt hc ho o.after.toList 0 (fun _ h=>h) (fun a h=>by simp at h) a h
   ·rw[List.getD_eq_getElem?_getD,jf (by simp;omega)] at h;simp at h
theorem Tb{all:List Oper}{S:Nat->Bool}(hS:∀i o,all[i]?=some o->S i=true->∀e,e∈o.after.toList->Region.binds .any e=true->S e.on=true){i a:Nat}(h:B5 all i a):S i=true->S a=true:=by
 induction h with
 |GB h1 h2 h3=>exact fun hi=>hS _ _ h1 hi _ h2 h3
 |trans h1 h2 h3 _ ih=>exact fun hi=>ih (hS _ _ h1 hi _ h2 h3)
theorem Tc{all:List Oper}{S:Nat->Bool}(hS:∀i o,all[i]?=some o->S i=true->∀e,e∈o.after.toList->Region.binds .any e=true->S e.on=true){i a:Nat}{o:Oper}(ho:all[i]?=some o)(hr:∀e,e∈o.after.toList->Region.binds .any e=true->S e.on=true)(h:B5 all i a):S a=true:=by
 cases h with
 |GB h1 h2 h3=>rw[ho] at h1;injection h1 with h1;subst h1;exact hr _ h2 h3
 |trans h1 h2 h3 h4=>rw[ho] at h1;injection h1 with h1;subst h1;exact Tb hS h4 (hr _ h2 h3)
theorem qm2{d:Nat}:∀{l:List Nat},BJ d l=true->d∉l
 |[],_=>by simp
 |b::r,h=>by
  simp only[BJ] at h;cases hb:Nat.beq b d with
  |true=>rw[hb] at h;cases h
  |false=>
   rw[hb] at h;have hr:=qm2 h;intro hm;rcases zu.1 hm with hm|hm
   ·subst hm;rw[Nat.beq_refl] at hb;cases hb
   ·exact hr hm
theorem qwg{S S':Nat->Bool}{t:Nat}:∀(es:List En) (st bE:St),st.env t=bE.env t->(∀q,q∈es->S q.i≠S' q.i->q.op.dst≠some t)->(dM S es st).env t=(dM S' es bE).env t
 |[],_,_,h,_=>h
 |q::es,st,bE,h,hq=>by
  have hr:=fun p hp=>hq p (zg q hp);show(dM S es (bif S q.i then q.app st else st)).env t=(dM S' es (bif S' q.i then q.app bE else bE)).env t;refine qwg es _ _ ?_ hr;by_cases e:S q.i=S' q.i
  ·rw[e];cases S' q.i with
   |false=>exact h
   |true=>
    show(q.app st).env t=(q.app bE).env t;rcases tE q st t with ⟨h1,h2⟩|⟨h1,h2⟩<;>rcases tE q bE t with ⟨h3,h4⟩|⟨h3,h4⟩
    ·rw[h2,h4]
    ·exact absurd h1 h3
    ·exact absurd h3 h1
    ·rw[h2,h4,h]
  ·have hd:=hq q (zf ..) e;have one:∀(b:Bool) (s:St),(bif b then q.app s else s).env t=s.env t:=by
    intro b s;cases b with
    |false=>rfl
    |true=>
     rcases tE q s t with ⟨h1,_⟩|⟨_,h2⟩
     ·exact absurd h1 hd
     ·exact h2
   rw[one,one,h]
theorem qwh{S S':Nat->Bool}{id:Nat}:∀(es:List En) (st bE:St),st.obj id=bE.obj id->(∀q,q∈es->S q.i≠S' q.i->id∉bO q.u)->(dM S es st).obj id=(dM S' es bE).obj id
 |[],_,_,h,_=>h
 |q::es,st,bE,h,hq=>by
  have hr:=fun p hp=>hq p (zg q hp);show(dM S es (bif S q.i then q.app st else st)).obj id=(dM S' es (bif S' q.i then q.app bE else bE)).obj id;refine qwh es _ _ ?_ hr;have Td:∀s s':St,s.obj id=s'.obj id->(q.app s).obj id=(q.app s').obj id:=by
   intro s s' hs;rw[xK,xK];by_cases hk:id∈bO q.u
   ·exact Lo hk
   ·rw[iM hk,iM hk,hs]
  by_cases e:S q.i=S' q.i
  ·rw[e];cases S' q.i with
   |false=>exact h
   |true=>exact Td st bE h
  ·have hd:=hq q (zf ..) e;have one:∀(b:Bool) (s:St),(bif b then q.app s else s).obj id=s.obj id:=by
    intro b s;cases b with
    |false=>rfl
    |true=>show(q.app s).obj id=s.obj id;rw[xK,iM hd]
   rw[one,one,h]
theorem LH{a b:List Nat}(h:Cv a b=true):∀x,x∈a->x∉b:=by intro x hx hb;unfold Cv at h;have:=zJ.1 h x hx;rw[cH.2 hb] at this;cases this
theorem Te{d:Option Nat}{l:List Nat}(h:RE d l=true):∀t,d=some t->t∉l:=by rintro t rfl;exact qm2 h
theorem qof{ic:List Nat}{all:List Oper}{b:Tr}{r:List Tr}:OP ic all b r=true->∀a,a∈r->Cw ic all a b=true:=by
 induction r with
 |nil=>intro _ a ha;cases ha
 |cons x r ih=>
  intro h a ha;simp only[OP,zd] at h;rcases zu.1 ha with ha|ha
  ·subst ha;exact h.1
  ·exact ih h.2 a ha
theorem PV{ic:List Nat}{all:List Oper}:∀(l1 l2:List Tr) (b:Tr),ou ic all (l1++b::l2)=true->∀a,a∈l2->Cw ic all a b=true
 |[],l2,b,h=>by simp only[List.nil_append,ou,zd] at h;exact qof h.1
 |x::l1,l2,b,h=>by simp only[List.cons_append,ou,zd] at h;exact PV l1 l2 b h.2
def Down(all:List Oper)(S:Nat->Bool):Prop:=∀i o,all[i]?=some o->S i=true->∀e,e∈o.after.toList->Region.binds .any e=true->S e.on=true
theorem z4r{all:List Oper}{S:Nat->Bool}(hS:Down all S){l1 l2:List En}{e:En}{o:Oper}(ho:all[e.i]?=some o)(hr:∀ed,ed∈o.after.toList->Region.binds .any ed=true->S ed.on=true)(hj:S e.i=false)(hd:ou (cL all []) all ((l1++e::l2).map En.tr).reverse=true)(h1:∀q,q∈l1->q.i<e.i)(h2:∀q,q∈l2->e.i<q.i):∀q,q∈l1++e::l2->S q.i≠decide (q.i<e.i)->(∀t,q.op.dst=some t->t∉Jn all e.op)/\(∀id,id∈bO q.u->id∉e.F/\id∉bO e.u):=by
 have he:=PU (all:=all) all [] [] rfl rfl (fun i a h=>by simp at h);intro q hq hc;rcases zL.1 hq with hq|hq
 ·
  have hk:=h1 q hq;have hg:S q.i=false:=by
   cases hs:S q.i with
   |false=>rfl
   |true=>rw[hs] at hc;simp[hk] at hc
  have hp:Cw (cL all []) all q.tr e.tr=true:=by
   refine PV (l2.map En.tr).reverse (l1.map En.tr).reverse e.tr ?_ q.tr ?_
   ·rw[zE,zQ,List.reverse_append,List.reverse_cons,zD] at hd;exact hd
   ·exact List.mem_reverse.2 (List.mem_map_of_mem hq)
  unfold Cw at hp;rw[Bool.or_eq_true] at hp;rcases hp with hp|hp
  ·have:=Tc hS ho hr (he _ _ hp);have this:S q.i=true:=this;rw[hg] at this;cases this
  ·unfold OO at hp;simp only[zd] at hp;obtain⟨⟨⟨a1,_⟩,a3⟩,_⟩:=hp;exact⟨fun t ht hm=>Te a1 t ht (List.mem_append_left _ hm),fun id hf=>⟨fun h=>LH a3 id hf (List.mem_append_left _ h),fun h=>LH a3 id hf (List.mem_append_right _ h)⟩⟩
 ·rcases zu.1 hq with hq|hq
  ·subst hq;rw[hj] at hc;simp at hc
  ·
   have hk:=h2 q hq;have hg:S q.i=true:=by
    cases hs:S q.i with
    |true=>rfl
    |false=>rw[hs] at hc;simp at hc;omega
   have hp:Cw (cL all []) all e.tr q.tr=true:=by
    obtain⟨m1,m2,rfl⟩:=List.append_of_mem hq;refine PV (m2.map En.tr).reverse ((l1++e::m1).map En.tr).reverse q.tr ?_ e.tr ?_
    ·have e1:l1++e::(m1++q::m2)=(l1++e::m1)++q::m2:=by simp
     rw[e1,zE,zQ,List.reverse_append,List.reverse_cons,zD] at hd;exact hd
    ·exact List.mem_reverse.2 (List.mem_map_of_mem (List.mem_append_right _ (zf ..)))
   unfold Cw at hp;rw[Bool.or_eq_true] at hp;rcases hp with hp|hp
   ·have:=Tb hS (he _ _ hp) hg;have this:S e.i=true:=this;rw[hj] at this;cases this
   ·unfold OO at hp;simp only[zd] at hp;obtain⟨⟨⟨_,a2⟩,a3⟩,a4⟩:=hp;exact⟨fun t ht hm=>Te a2 t ht hm,fun id hf=>⟨fun h=>LH a4 id hf h,fun h=>LH a3 id h (List.mem_append_right _ hf)⟩⟩
theorem PX{S:Nat->Bool}:∀(l:List En) (st:St),(∀q,q∈l->S q.i=false)->dM S l st=st
 |[],_,_=>rfl
 |q::l,st,h=>by show dM S l (bif S q.i then q.app st else st)=st;rw[h q (zf ..)];exact PX l st fun p hp=>h p (zg _ hp)
theorem Tf{S:Nat->Bool}:∀(l:List En) (st:St),(∀q,q∈l->S q.i=true)->dM S l st=fm l st
 |[],_,_=>rfl
 |q::l,st,h=>by show dM S l (bif S q.i then q.app st else st)=fm l (q.app st);rw[h q (zf ..)];exact Tf l _ fun p hp=>h p (zg _ hp)
theorem z6s{all:List Oper}{S:Nat->Bool}(hS:Down all S){l1 l2:List En}{e:En}{o:Oper}(ho:all[e.i]?=some o)(hr:∀ed,ed∈o.after.toList->Region.binds .any ed=true->S ed.on=true)(hj:S e.i=false)(hd:ou (cL all []) all ((l1++e::l2).map En.tr).reverse=true)(h1:∀q,q∈l1->q.i<e.i)(h2:∀q,q∈l2->e.i<q.i)(st:St):(∀t,t∈Jn all e.op->(dM S (l1++e::l2) st).env t=(fm l1 st).env t)/\(∀id,(id∈e.F\/id∈bO e.u)->(dM S (l1++e::l2) st).obj id=(fm l1 st).obj id):=by
 have hg:=z4r hS ho hr hj hd h1 h2;have hc:dM (fun i=>decide (i<e.i)) (l1++e::l2) st=fm l1 st:=by
  rw[LF,Tf l1 st (fun q hq=>by simpa using h1 q hq)];refine PX _ _ fun q hq=>?_;rcases zu.1 hq with hq|hq
  ·subst hq;simp
  ·have:=h2 q hq;simp;omega
 refine⟨fun t ht=>?_,fun id hl=>?_⟩
 ·rw[<-hc];exact qwg _ _ _ rfl fun q hq he hf=>(hg q hq he).1 t hf ht
 ·rw[<-hc];refine qwh _ _ _ rfl fun q hq he hk=>?_;obtain⟨g1,g2⟩:=(hg q hq he).2 id hk;exact hl.elim g1 g2
theorem Tg{o:Nat->Obj}:∀(F l:List Nat),tn o F l=true->∀id,id∈l->∀j,j∈yf (o id)->j∈F
 |F,x::r,h,id,hi,j,hj=>by
  simp only[tn,zd] at h;have key:∀(l m:List Nat),OQ l m=true->∀q,q∈l->q∈m:=by
   intro l m
   induction l with
   |nil=>intro _ q hq;cases hq
   |cons y l ih=>
    intro h q hq;simp only[OQ,zd] at h;rcases zu.1 hq with hq|hq
    ·subst hq;exact cH.1 h.1
    ·exact ih h.2 q hq
  rcases zu.1 hi with hi|hi
  ·subst hi;exact key _ _ h.1 j hj
  ·exact Tg F r h.2 id hi j hj
theorem qm3(o:Nat->Obj):∀(n:Nat) (l:List Nat) (x:Nat),x∈l->x∈ON o n l
 |0,_,_,h=>h
 |_+1,_,_,h=>List.mem_append_left _ h
theorem qqu:∀{l:List V} {v:V} {id:Nat},v∈l->id∈eT v->id∈gZ l
 |x::l,v,id,hv,hi=>by
  unfold gZ;rcases zu.1 hv with rfl|hv
  ·exact List.mem_append_left _ hi
  ·exact List.mem_append_right _ (qqu hv hi)
theorem Th:∀{l:List Operand} {t:Nat},t∈gQ l->Operand.tmp t∈l
 |x::r,t,h=>by
  cases x<;>simp only[gQ] at h<;>try exact zg _ (Th h)
  rcases zu.1 h with h|h
  ·subst h;exact zf ..
  ·exact zg _ (Th h)
theorem qd5{C:Cx}{nt:Fr}{X:Nat->Prop}{φ:Nat->Addr}{st:St}{a:Act}{w:World}(hR:Rel C nt X φ st a w){kn:List (Nat×Bool)}{ops:List Operand}(hk:∀d b,d∈gQ ops->sT d kn=some b->st.env d=.d .bool b){F:List Nat}(hF:∀id,id∈gZ (ops.map (bZ C st.env))->id∈F)(hm:MRel C (Xr X φ st.obj F) φ (cY st.obj F) w):∀x,ay φ (cY st.obj F) (ah (Xr X φ st.obj F) φ (cY st.obj F) w) w (bZ C (eH st.env kn (gQ ops)) x) (a.eval x):=by
 intro x;cases x with
 |tmp t=>
  show ay φ _ _ w (dK (eH st.env kn (gQ ops) t)) (a.tmps.getD t undef);unfold eH;cases hh:bM t (gQ ops) with
  |false=>trivial
  |true=>
   rw[cond_true];have ht:=cH.1 hh;split
   ·rename_i b hb;have hz:=hR.env t;rw[hk t b ht hb] at hz;have:=pT hz;rw[this];exact u9
   ·exact qex (fun id hi=>hF id (qqu (List.mem_map_of_mem (Th ht)) hi)) (K2 (hR.env t))
 |const v=>exact RR v
 |global g=>
  simp only[bZ,Act.eval];split
  ·rename_i e;exact hm.fC _ _ _ e
  ·trivial
 |func f=>
  simp only[Ev.bZ];cases h:Nat.blt f 1048576 with
  |false=>simp[ay]
  |true=>exact⟨#[],(K0 (zH h) #[]).symm,rfl⟩
section
variable {C:Cx} {R:gF C.sigs} {nt:Fr}
theorem qgn(hC:cw C)(hE:kD C)(HC:∀X φ o w,MRel C X φ o w->∀fr f,tA C R X φ o w fr f){X:Nat->Prop}{φ:Nat->Addr}{st:St}{a:Act}{w:World}(hR:Rel C nt X φ st a w){o:Oper}{kn:List (Nat×Bool)}{F:List Nat}{fr:Nat}(hf:∀d b,d∈gQ o.op.operands.toList->sT d kn=some b->st.env d=.d .bool b)(hF:∀id,id∈gZ (o.op.operands.toList.map (bZ C st.env))->id∈F)(hk:tn st.obj F F=true){v:V}{u:List (Nat×Obj)}(hg:(df lf C R (eH st.env kn (gQ o.op.operands.toList)) (cY st.obj F) fr o.type o.op).gives v u)(he:∀id,id∈bO u->id∉F->st.obj id=.none)(hn:kC fr (cY st.obj F) u){K:Act->World->Prop}{Q:Exit->Act->World->Prop}(hK:∀val w' φ',Comes C X φ φ' st.obj u w w' v val->K (a.put o.dst val) w'):o.wp C.P a w K Q:=by have hm:=hR.toMRel.restrict (F:=F) (fun id hi j hj=>Tg F F hk id hi j hj);have hl:=Sy hC hE hm (qd5 hR hf hF hm) (HC _ _ _ _ hm fr) hg hn;exact hl.upon fun val w' φ' hc=>by obtain⟨fy,h⟩:=hc.jU hR.toMRel he;exact hK val w' fy h
theorem qfd(HC:∀X φ o w,MRel C X φ o w->∀fr f,tA C R X φ o w fr f){X:Nat->Prop}{φ:Nat->Addr}{st:St}{a:Act}{w:World}(hR:Rel C nt X φ st a w){o:Oper}{kn:List (Nat×Bool)}{F:List Nat}{fr:Nat}(hk:∀d b,d∈gQ o.op.operands.toList->sT d kn=some b->st.env d=.d .bool b)(hF:∀id,id∈gZ (o.op.operands.toList.map (bZ C st.env))->id∈F)(hl:tn st.obj F F=true){b:Bool}{vs:List V}{u:List (Nat×Obj)}(hg:(E7 lf C R (eH st.env kn (gQ o.op.operands.toList)) (cY st.obj F) fr o.op).gives (.gV (.bP::.d .bool b::vs)) u)(hf:∀id,id∈bO u->id∉F->st.obj id=.none)(hn:kC fr (cY st.obj F) u){K:Act->World->Prop}{Q:Exit->Act->World->Prop}(hK:b=false->∀val w' φ',Comes C X φ φ' st.obj u w w' (lz vs) val->K (a.put o.dst val) w')(hP:b=true->∀t v z w' φ',Comes C X φ φ' st.obj u w w' .bP z->Q (.panic (oC t v)) a w'):o.wp C.P a w K Q:=by
 have hm:=hR.toMRel.restrict (F:=F) (fun id hi j hj=>Tg F F hl id hi j hj);obtain⟨f',az,e1,e2⟩:=qqd (q:=o) (qd5 hR hk hF hm) (HC _ _ _ _ hm fr) hg hn;show Oper.upon C.P o a K Q ((execOp a.eval o).run C.P w);rw[e1];refine Calls.mono e2 fun e w' he=>?_;obtain⟨val,φ',he,hc⟩:=he;obtain⟨z,hv,he⟩:=qlt he hc.val;rcases he with ⟨hb,rfl⟩|⟨hb,t,v,rfl⟩
 ·obtain⟨fy,h⟩:=(hc.value hv).jU hR.toMRel hf;exact hK hb z w' fy h
 ·obtain⟨fy,h⟩:=(hc.value (v2:=.bP) (z2:=undef) trivial).jU hR.toMRel hf;exact hP hb t v _ w' fy h
end
theorem Ti{o o':Nat->Obj}(F:List Nat):∀(l:List Nat),(∀id,id∈l->o id=o' id)->tn o F l=tn o' F l
 |[],_=>rfl
 |x::l,h=>by simp only[tn];rw[h x (zf ..),Ti F l fun id hi=>h id (zg _ hi)]
theorem Tj:∀{u:List (Nat×Obj)} {id:Nat},id∈bO u->∃p,p∈u/\p.1=id
 |p::r,id,h=>by
  rcases zu.1 h with h|h
  ·exact⟨p,zf ..,h.symm⟩
  ·obtain⟨q,h1,h2⟩:=Tj h;exact⟨q,zg _ h1,h2⟩
theorem Tk{F:List Nat}{fr:Nat}:∀{l:List Nat},Cy F fr l=true->∀id,id∈l->id∈F\/(fr<=id/\id<fr+16)
 |[],_,id,h=>by cases h
 |x::l,hk,id,h=>by
  simp only[Cy,zd,Bool.or_eq_true] at hk;rcases zu.1 h with h|h
  ·subst h;exact hk.1.imp cH.1 fun h=>⟨zH h.1,zH h.2⟩
  ·exact Tk hk.2 id h
section
variable {C:Cx} {R:gF C.sigs} {nt:Fr}
theorem qd6{st:St}{o:Oper}(h:wy o.op=false):kU C st o=ON st.obj 4 (gZ (o.op.operands.toList.map (bZ C st.env))):=by unfold kU;split<;>first|rfl|(rename_i e;rw[e] at h;cases h)
theorem qwi{o:Nat->Obj}{F:List Nat}{v:V}(h:sure (cY o F) v=true)(hF:∀id,id∈eT v->id∈F):sure o v=true:=by
 cases v<;>simp only[sure] at h ⊢<;>try exact h
 rename_i id off;rw[mD (hF id (by simp[eT]))] at h;exact h
theorem qsv{o:Nat->Obj}{F:List Nat}{v v':V}{u:List (Nat×Obj)}(h:(Jm (cY o F) v).gives v' u)(hF:∀id,id∈eT v->id∈F):(Jm o v).gives v' u:=by
 unfold Jm at h ⊢;split at h
 ·rw[dN] at h ⊢;exact⟨qwi h.1 hF,h.2⟩
 ·exact h
 ·rename_i id ver i path;rw[mD (hF id (by simp[eT]))] at h;exact h
 ·exact h
 ·cases h
theorem qdo{o:Nat->Obj}{F:List Nat}{t:TypeId}{v v':V}{f:Nat}{u:List (Nat×Obj)}(h:(Jl C (cY o F) t v f).gives v' u)(hF:∀id,id∈eT v->id∈F):(Jl C o t v f).gives v' u:=by
 unfold Jl at h ⊢;cases hc:KC C.P t f with
 |none=>rw[hc] at h;cases h
 |some fd=>
  rw[hc] at h;simp only at h ⊢;cases hk:wm C.P fd.type with
  |none=>rw[hk] at h;cases h
  |some p=>
   rw[hk] at h;simp only at h ⊢;rw[dN] at h ⊢;refine⟨h.1,?_⟩;replace h:=h.2;cases v<;>try exact h
   ·rename_i id off;simp only at h ⊢;rw[mD (hF id (by simp[eT]))] at h;exact h
   ·rename_i id ver i path;simp only at h ⊢;rw[mD (hF id (by simp[eT]))] at h;exact h
theorem qoh{st:St}{kn:List (Nat×Bool)}{o:Oper}{fr:Nat}(hl:wy o.op=true)(he:∀d b,d∈gQ o.op.operands.toList->sT d kn=some b->st.env d=.d .bool b){F:List Nat}(hF:F=kU C st o){v:V}{u:List (Nat×Obj)}(hg:(df lf C R (eH st.env kn (gQ o.op.operands.toList)) (cY st.obj F) fr o.type o.op).gives v u):(df lf C R st.env st.obj fr o.type o.op).gives v u:=by
 have hc:∀x,x∈o.op.operands.toList->bZ C (eH st.env kn (gQ o.op.operands.toList)) x=bZ C st.env x:=by
  intro x hx;cases x with
  |tmp t=>
   have ht:t∈gQ o.op.operands.toList:=by
    revert hx;generalize o.op.operands.toList=l;intro hx
    induction l with
    |nil=>cases hx
    |cons y r ih=>
     rcases zu.1 hx with h|h
     ·subst h;exact zf ..
     ·cases y<;>first|exact ih h|exact zg _ (ih h)
   show dK (eH st.env kn _ t)=dK (st.env t);unfold eH;rw[cH.2 ht,cond_true];split
   ·rename_i b hb;rw[he t b ht hb];rfl
   ·rfl
  |_=>rfl
 obtain⟨i,op,ty,pos,after,guard⟩:=o;cases op<;>simp only[wy] at hl<;>try (cases hl;done)
 ·rename_i x;simp only[df] at hg ⊢;rw[hc x (by simp[Op.operands])] at hg;exact hg
 ·rename_i x;simp only[df] at hg ⊢;rw[hc x (by simp[Op.operands])] at hg;exact hg
 ·rename_i x;simp only[df] at hg ⊢;rw[hc x (by simp[Op.operands])] at hg;exact qsv hg (fun id h=>by rw[hF];exact h)
 ·rename_i t x f;simp only[df] at hg ⊢;rw[hc x (by simp[Op.operands])] at hg;exact qdo hg (fun id h=>by rw[hF];exact h)
theorem qho(HC:∀X φ o w,MRel C X φ o w->∀fr f,tA C R X φ o w fr f){ops:Array Oper}{rg:Nat}{X:Nat->Prop}{φ:Nat->Addr}{st0:St}{S:Nat->Bool}{l1 l2:List En}{e:En}{a:Act}{w:World}(ho:ops.toList[e.i]?=some e.op)(hS:Down ops.toList S)(hr:∀ed,ed∈e.op.after.toList->Region.binds .any ed=true->S ed.on=true)(hk:S e.i=false)(hd:ou (cL ops.toList []) ops.toList ((l1++e::l2).map En.tr).reverse=true)(h1:∀q,q∈l1->q.i<e.i)(h2:∀q,q∈l2->e.i<q.i)(hl:Cy e.F (gO rg e.i) (bO e.u)=true){b:Bool}(hm:PT C R rg (fm l1 st0) e b)(hn:ix (fm l1 st0) e.kn)(hR:Rel C nt X φ (dM S (l1++e::l2) st0) a w){K:Act->World->Prop}{Q:Exit->Act->World->Prop}(hK:b=false->∀z w' φ',Comes C X φ φ' (dM S (l1++e::l2) st0).obj e.u w w' e.v z->K (a.put e.op.dst z) w')(hP:b=true->∀t v z w' φ',Comes C X φ φ' (dM S (l1++e::l2) st0).obj e.u w w' .bP z->Q (.panic (oC t v)) a w'):wpOp C.P ops Q e.i K a w:=by
 obtain⟨LI,J1⟩:=z6s hS ho hr hk hd h1 h2 st0;generalize dM S (l1++e::l2) st0=st at*
 have hq:ops[e.i]?=some e.op:=by rw[<-zF];exact ho
 unfold wpOp;simp only[hq];obtain⟨_,hs,hF,hu,hw,⟨vs,hv,hg⟩,hf⟩:=hm;rw[if_pos (by unfold Region.wanted;rw[hs])];have lt:∀t,t∈gQ e.op.op.operands.toList->st.env t=(fm l1 st0).env t:=fun t ht=>LI t (List.mem_append_left _ ht);have hj:e.op.op.operands.toList.map (bZ C st.env)=e.op.op.operands.toList.map (bZ C (fm l1 st0).env):=by
  apply zW;intro x hx;cases x with
  |tmp t=>
   have ht:t∈gQ e.op.op.operands.toList:=by
    revert hx;generalize e.op.op.operands.toList=l;intro hx
    induction l with
    |nil=>cases hx
    |cons y r ih=>
     rcases zu.1 hx with h|h
     ·subst h;exact zf ..
     ·cases y<;>first|exact ih h|exact zg _ (ih h)
   show dK (st.env t)=dK ((fm l1 st0).env t);rw[lt t ht]
  |_=>rfl
 have hc:∀id,id∈e.F->st.obj id=(fm l1 st0).obj id:=fun id h=>J1 id (.inl h);have eR:eH st.env e.kn (gQ e.op.op.operands.toList)=eH (fm l1 st0).env e.kn (gQ e.op.op.operands.toList):=funext fun t=>by
  unfold eH;cases hh:bM t (gQ e.op.op.operands.toList) with
  |false=>rfl
  |true=>rw[lt t (cH.1 hh)]
 have oR:cY st.obj e.F=cY (fm l1 st0).obj e.F:=funext fun id=>by
  by_cases h:id∈e.F
  ·rw[mD h,mD h,hc id h]
  ·rw[sX h,sX h]
 rw[qd6 hw] at hF;refine .inl (qfd HC hR ?_ ?_ ?_ (by rw[eR,oR];exact hg) ?_ ?_ (by rw[<-hv];exact hK) hP)
 ·intro d b hy hb;rw[lt d hy];exact hn d b hb
 ·intro id he;rw[hj] at he;rw[hF];exact qm3 _ _ _ _ he
 ·rw[Ti e.F e.F (fun id h=>hc id h)];exact hu
 ·intro id he hz;rw[J1 id (.inr he)];obtain⟨p,hp,rfl⟩:=Tj he;rcases Tk hl p.1 he with h|⟨h3,h4⟩
  ·exact absurd h hz
  ·exact hf p hp h3 h4
 ·intro p hp h3 h4;by_cases h:p.1∈e.F
  ·rw[mD h,hc _ h];exact hf p hp h3 h4
  ·exact sX h
theorem qm4(hC:cw C)(hE:kD C)(HC:∀X φ o w,MRel C X φ o w->∀fr f,tA C R X φ o w fr f){ops:Array Oper}{rg:Nat}{X:Nat->Prop}{φ:Nat->Addr}{st0:St}{S:Nat->Bool}{l1 l2:List En}{e:En}{a:Act}{w:World}(ho:ops.toList[e.i]?=some e.op)(hS:Down ops.toList S)(hr:∀ed,ed∈e.op.after.toList->Region.binds .any ed=true->S ed.on=true)(hB:S e.i=false)(hd:ou (cL ops.toList []) ops.toList ((l1++e::l2).map En.tr).reverse=true)(h1:∀q,q∈l1->q.i<e.i)(h2:∀q,q∈l2->e.i<q.i)(hG:Cy e.F (gO rg e.i) (bO e.u)=true)(hn:wJ C R rg ops.toList (fm l1 st0) e)(hq:ix (fm l1 st0) e.kn)(hR:Rel C nt X φ (dM S (l1++e::l2) st0) a w){K:Act->World->Prop}{Q:Exit->Act->World->Prop}(hK:∀z w' φ',Comes C X φ φ' (dM S (l1++e::l2) st0).obj e.u w w' e.v z->K (a.put e.op.dst z) w'):wpOp C.P ops Q e.i K a w:=by
 rcases or_assoc.2 hn with hn|hn;rotate_left
 ·exact qho HC ho hS hr hB hd h1 h2 hG hn hq hR (fun _=>hK) (fun h=>by cases h)
 obtain⟨LI,J1⟩:=z6s hS ho hr hB hd h1 h2 st0;generalize dM S (l1++e::l2) st0=st at*
 have hI:ops[e.i]?=some e.op:=by rw[<-zF];exact ho
 have Fp:∀j want oj dj,e.op.guard=some (j,want)->ops.toList[j]?=some oj->oj.dst=some dj->dj∈Jn ops.toList e.op:=fun j want oj dj g1 g2 g3=>by unfold Jn;refine List.mem_append_right _ ?_;rw[g1];simp only;rw[g2];simp only;rw[g3];exact zf ..
 unfold wpOp;simp only[hI];rcases hn with ⟨_,⟨j,want,oj,dj,g1,g2,g3,g4⟩,hv,hu,_⟩|⟨_,hw,hF,hH,hg,hf⟩
 ·have hz:=hR.env dj;rw[LI dj (Fp j want oj dj g1 g2 g3)] at hz;have hy:Region.wanted e.op (yielded ops a.tmps)=false:=by
   unfold Region.wanted;rw[g1];simp only;rcases g4 with ⟨b,hb,hJ⟩|hL
   ·rw[hq dj b hb] at hz;rw[SU g2 g3 (pT hz)];cases b<;>cases want<;>first|rfl|exact absurd rfl hJ
   ·rw[hL] at hz;rw[qf5 g2 g3 hz];rfl
  rw[if_neg (by rw[hy];simp)];exact hK undef w φ (by rw[hu,hv];exact .same hR.toMRel rfl)
 ·have hy:Region.wanted e.op (yielded ops a.tmps)=true:=by
   unfold Region.wanted;rcases hw with hw|⟨j,want,oj,dj,g1,g2,g3,g4⟩
   ·rw[hw]
   ·have hz:=hR.env dj;rw[LI dj (Fp j want oj dj g1 g2 g3),hq dj want g4] at hz;rw[g1];simp only;rw[SU g2 g3 (pT hz)];simp
  rw[if_pos hy];have lt:∀t,t∈gQ e.op.op.operands.toList->st.env t=(fm l1 st0).env t:=fun t ht=>LI t (List.mem_append_left _ ht);have hs:e.op.op.operands.toList.map (bZ C st.env)=e.op.op.operands.toList.map (bZ C (fm l1 st0).env):=by
   apply zW;intro x hx;cases x with
   |tmp t=>
    have ht:t∈gQ e.op.op.operands.toList:=by
     revert hx;generalize e.op.op.operands.toList=l;intro hx
     induction l with
     |nil=>cases hx
     |cons y r ih=>
      rcases zu.1 hx with h|h
      ·subst h;exact zf ..
      ·cases y<;>first|exact ih h|exact zg _ (ih h)
    show dK (st.env t)=dK ((fm l1 st0).env t);rw[lt t ht]
   |_=>rfl
  have hj:∀id,id∈e.F->st.obj id=(fm l1 st0).obj id:=fun id h=>J1 id (.inl h);have eR:eH st.env e.kn (gQ e.op.op.operands.toList)=eH (fm l1 st0).env e.kn (gQ e.op.op.operands.toList):=funext fun t=>by
   unfold eH;cases hh:bM t (gQ e.op.op.operands.toList) with
   |false=>rfl
   |true=>rw[lt t (cH.1 hh)]
  have oR:cY st.obj e.F=cY (fm l1 st0).obj e.F:=funext fun id=>by
   by_cases h:id∈e.F
   ·rw[mD h,mD h,hj id h]
   ·rw[sX h,sX h]
  cases hk:wy e.op.op with
  |true=>
   have hM:e.F=kU C st e.op:=by
    rw[hF];unfold kU;have one:∀x,x∈e.op.op.operands.toList->bZ C st.env x=bZ C (fm l1 st0).env x:=fun x hx=>by have:=List.map_inj_left.1 hs x hx;exact this
    split
    ·rfl
    ·rfl
    ·rename_i x ex;rw[one x (by rw[ex];simp[Op.operands])]
    ·rename_i t x f ex;rw[one x (by rw[ex];simp[Op.operands])]
    ·rename_i h1 h2 h3 h4;exfalso;cases he:e.op.op<;>rw[he] at hk<;>simp only[wy] at hk<;>first|(cases hk;done)|exact h1 _ he|exact h2 _ he|exact h3 _ he|exact h4 _ _ _ he
   have hN:=qoh (fr:=gO rg e.i) hk (fun d b hA hb=>by rw[lt d hA];exact hq d b hb) hM (by rw[eR,oR];exact hg);have hO:kC (gO rg e.i) st.obj e.u:=fun p hp h3 h4=>by rw[J1 p.1 (.inr (Pf hp))];exact hf p hp h3 h4
   have hl:=Sy hC hE hR.toMRel (fun x=>hR.bZ x) (HC _ _ _ _ hR.toMRel (gO rg e.i)) hN hO;exact .inl (hl.upon fun val w' φ' hc=>hK val w' φ' hc)
  |false=>
  rw[hk,Bool.false_or] at hH;rw[qd6 hk] at hF;refine .inl (qgn hC hE HC hR ?_ ?_ ?_ (by rw[eR,oR];exact hg) ?_ ?_ hK)
  ·intro d b hA hb;rw[lt d hA];exact hq d b hb
  ·intro id hm;rw[hs] at hm;rw[hF];exact qm3 _ _ _ _ hm
  ·rw[Ti e.F e.F (fun id h=>hj id h)];exact hH
  ·intro id hm hP;rw[J1 id (.inr hm)];obtain⟨p,hp,rfl⟩:=Tj hm;rcases Tk hG p.1 hm with h|⟨h3,h4⟩
   ·exact absurd h hP
   ·exact hf p hp h3 h4
  ·intro p hp h3 h4;by_cases h:p.1∈e.F
   ·rw[mD h,hj _ h];exact hf p hp h3 h4
   ·exact sX h
end
section
variable {C:Cx} {R:gF C.sigs} {nt:Fr}
theorem Rel.drawn{X:Nat->Prop}{φ:Nat->Addr}{st:St}{a:Act}{w:World}(h:Rel C nt X φ st a w):Rel C nt X φ st a {w with drawn:=w.drawn+1}:=by have hw:({w with drawn:=w.drawn+1}:World).heap=w.heap:=rfl;generalize ({w with drawn:=w.drawn+1}:World)=w' at hw;have hc:∀b,ah X φ st.obj w b->ah X φ st.obj w' b:=fun b hb=>⟨by rw[hw];exact hb.1,hb.2⟩;have keeps:∀x z,ay φ st.obj (ah X φ st.obj w) w x z->ay φ st.obj (ah X φ st.obj w') w' x z:=fun x z hx=>BQ hc (fun _ _=>by rw[hw]) (fun _=>Up.same fun _ n hr=>CA (by rw[hw]) hr) x z hx;exact⟨⟨fun id=>Gb hc (fun _ _=>by rw[hw]) keeps rfl (fun _=>by rw[hw]) (h.aB id),h.inj,(fun i hi=>by rw[hw];exact h.sep i hi),(fun b hb=>by rw[hw];exact h.xs b hb),(fun id=>h.toMRel.kE id (fun _=>.same (by rw[hw])) (fun _ _=>by rw[hw])),fun g t x hg=>keeps _ _ (h.fC g t x hg),h.toMRel.u7 (fun _ _=>by rw[hw])⟩,h.size,fun t=>keeps _ _ (h.env t),h.defers⟩
theorem PY{rg:Nat}{all:List Oper}:∀(l1:List En) (i:Nat) (st:St) (e:En) (l2:List En),GA C R rg all i st (l1++e::l2)->e.i=i+l1.length/\wJ C R rg all (fm l1 st) e/\ix (fm l1 st) e.kn/\(∀q,q∈l1->q.i<i+l1.length)/\(∀q,q∈l2->i+l1.length<q.i)
 |[],i,st,e,l2,h=>by
  obtain⟨h1,h2,h3,_,h5⟩:=h;refine⟨h1,h2,h3,(fun q hq=>by cases hq),?_⟩;have key:∀(l:List En) (j:Nat) (s:St),GA C R rg all j s l->∀q,q∈l->j<=q.i:=by
   intro l
   induction l with
   |nil=>intro _ _ _ q hq;cases hq
   |cons p l ih=>
    intro j s hr q hq;obtain⟨g1,_,_,_,g5⟩:=hr;rcases zu.1 hq with hq|hq
    ·subst hq;omega
    ·have:=ih (j+1) _ g5 q hq;omega
  intro q hq;have:=key l2 (i+1) _ h5 q hq;simp only[List.length_nil];omega
 |p::l1,i,st,e,l2,h=>by
  obtain⟨h1,_,_,_,h5⟩:=h;obtain⟨g1,g2,g3,g4,g5⟩:=PY l1 (i+1) (p.app st) e l2 h5;simp only[zw];refine⟨by omega,g2,g3,fun q hq=>?_,fun q hq=>?_⟩
  ·rcases zu.1 hq with hq|hq
   ·subst hq;omega
   ·have:=g4 q hq;omega
  ·have:=g5 q hq;omega
theorem PZ{rg:Nat}:∀{l:List Tr},wz rg l=true->∀t,t∈l->BO t.i t.op.after.toList=true/\Cy t.rd (gO rg t.i) t.wr=true
 |[],_,t,h=>by cases h
 |x::l,hk,t,h=>by
  simp only[wz,zd] at hk;rcases zu.1 h with h|h
  ·subst h;exact hk.1
  ·exact PZ hk.2 t h
theorem LJ{i:Nat}:∀{l:List Edge},BO i l=true->∀e,e∈l->Region.binds .any e=true->e.on<i
 |[],_,e,h=>by cases h
 |x::l,hk,e,h=>by
  intro hb;simp only[BO,zd,Bool.or_eq_true] at hk;rcases zu.1 h with h|h
  ·subst h;rw[hb] at hk;exact zH (hk.1.resolve_left (by simp))
  ·exact LJ hk.2 e h hb
def fS(listed:Array Bool)(i:Nat):Bool:=listed.getD i false
theorem P0{ops:Array Oper}{listed:Array Bool}(hs:listed.size=ops.size){i:Nat}:i∈Region.ready .any ops listed↔∃o,ops[i]?=some o/\fS listed i=false/\∀e,e∈o.after.toList->Region.binds .any e=true->fS listed e.on=true:=by
 unfold Region.ready;rw[List.mem_filter,List.mem_range,zd];constructor
 ·rintro⟨h1,h2,h3⟩;have ho:ops[i]?=some ops[i]:=Array.getElem?_eq_getElem h1;refine⟨ops[i],ho,?_,?_⟩
  ·unfold fS;have hl:i<listed.size:=om
   simp only[Array.getD,hl,dif_pos] at h2 ⊢;simpa using h2
  ·rw[ho] at h3;simp only[Option.map_some,Option.getD_some] at h3;rw[<-Array.all_toList,zJ] at h3;intro e he hb;have:=h3 e he;rw[hb] at this;simpa[fS] using this
 ·rintro⟨o,ho,h2,h3⟩;have h1:i<ops.size:=by
   rcases Nat.lt_or_ge i ops.size with h|h
   ·exact h
   ·rw[ja h] at ho;cases ho
  refine⟨h1,?_,?_⟩
  ·unfold fS at h2;have hl:i<listed.size:=om
   simp only[Array.getD,hl,dif_pos] at h2 ⊢;simpa using h2
  ·rw[ho];simp only[Option.map_some,Option.getD_some];rw[<-Array.all_toList,zJ];intro e he;cases hb:Region.binds .any e with
   |false=>rfl
   |true=>have:=h3 e he hb;simpa[fS] using this
theorem qwj{listed:Array Bool}{i j:Nat}(hi:i<listed.size):fS (listed.setIfInBounds i true) j=(decide (i=j)||fS listed j):=by
 unfold fS;simp only[Array.getD_eq_getD_getElem?,Array.getElem?_setIfInBounds];by_cases h:i=j
 ·subst h;simp[hi]
 ·simp[h]
def CQ(listed:Array Bool):Nat:=listed.toList.countP (fun b=>!b)
theorem qd7:∀(l:List Bool) (i:Nat),l[i]?=some false->(l.set i true).countP (fun b=>!b)+1=l.countP (fun b=>!b)
 |[],_,h=>by simp at h
 |b::l,0,h=>by simp at h;subst h;simp
 |b::l,i+1,h=>by have:=qd7 l i (by simpa using h);simp only[List.set_cons_succ,List.countP_cons];omega
theorem qwk{listed:Array Bool}{i:Nat}(hi:i<listed.size)(h:fS listed i=false):CQ (listed.setIfInBounds i true)+1=CQ listed:=by unfold CQ;rw[Array.toList_setIfInBounds];refine qd7 _ _ ?_;unfold fS at h;simp only[Array.getD,hi,dif_pos] at h;rw[zF,Array.getElem?_eq_getElem hi];exact congrArg some h
theorem qhp{listed:Array Bool}(h:CQ listed=0){i:Nat}(hi:i<listed.size):fS listed i=true:=by unfold CQ at h;rw[List.countP_eq_zero] at h;unfold fS;simp only[Array.getD,hi,dif_pos];have:=h listed[i] (by simp);simpa using this
theorem qhq{ops:Array Oper}{listed:Array Bool}(hs:listed.size=ops.size)(hb:∀i o,ops[i]?=some o->∀e,e∈o.after.toList->Region.binds .any e=true->e.on<i)(h:Region.ready .any ops listed=[]):∀i,i<ops.size->fS listed i=true:=by
 intro i
 induction i using Nat.strongRecOn with
 |_ i ih=>
  intro hi;cases hl:fS listed i with
  |true=>rfl
  |false=>exfalso;have ho:ops[i]?=some ops[i]:=Array.getElem?_eq_getElem hi;have:i∈Region.ready .any ops listed:=(P0 hs).2 ⟨_,ho,hl,fun e he hc=>by have:=hb i _ ho e he hc;exact ih _ this om⟩;rw[h] at this;cases this
end
theorem z39{all:List Oper}{S:Nat->Bool}(hS:Down all S){l1 l2:List En}{e:En}(he:S e.i=false)(hd:ou (cL all []) all ((l1++e::l2).map En.tr).reverse=true):∀q,q∈l2->S q.i=true->(∀d,e.op.dst=some d->q.op.dst≠some d)/\∀id,id∈bO e.u->id∉bO q.u:=by
 have hc:=PU (all:=all) all [] [] rfl rfl (fun i a h=>by simp at h);intro q hq hf;have hp:Cw (cL all []) all e.tr q.tr=true:=by
  obtain⟨m1,m2,rfl⟩:=List.append_of_mem hq;refine PV (m2.map En.tr).reverse ((l1++e::m1).map En.tr).reverse q.tr ?_ e.tr ?_
  ·have e1:l1++e::(m1++q::m2)=(l1++e::m1)++q::m2:=by simp
   rw[e1,zE,zQ,List.reverse_append,List.reverse_cons,zD] at hd;exact hd
  ·exact List.mem_reverse.2 (List.mem_map_of_mem (List.mem_append_right _ (zf ..)))
 unfold Cw at hp;rw[Bool.or_eq_true] at hp;rcases hp with hp|hp
 ·have:=Tb hS (hc _ _ hp) hf;have this:S e.i=true:=this;rw[he] at this;cases this
 ·unfold OO at hp;simp only[zd] at hp;obtain⟨⟨⟨a1,_⟩,a3⟩,_⟩:=hp;refine⟨fun d hd hq=>?_,fun id h1 h2=>LH a3 id h1 (List.mem_append_right _ h2)⟩;refine Te a1 d hd (List.mem_append_right _ ?_);have hq:q.tr.op.dst=some d:=hq;rw[hq];exact zf ..
section
variable {C:Cx} {R:gF C.sigs} {nt:Fr} {dL:Nat→Addr} {o0:Nat→Obj} {w0:World} {sk:List Nat}
theorem z0w(hC:cw C)(hE:kD C)(HC:∀X φ o w,MRel C X φ o w->∀fr f,tA C R X φ o w fr f){ops:Array Oper}{rg:Nat}{X:Nat->Prop}{Q:Exit->Act->World->Prop}{st0:St}{es:List En}(hz:es.map (·.op)=ops.toList)(ht:GA C R rg ops.toList 0 st0 es)(hd:ou (cL ops.toList []) ops.toList (es.map En.tr).reverse=true)(hk:wz rg (es.map En.tr).reverse=true)(hv:qp nt.n ops.toList=true)(fin:Sound C nt X (HJ sk dL o0 w0) (fm es st0) (Q .normal)):∀(fuel:Nat) (listed:Array Bool) (X':Nat->Prop) (φ:Nat->Addr) (a:Act) (w:World),listed.size=ops.size->CQ listed<=fuel->Down ops.toList (fS listed)->(∀b,X b->X' b)->Rel C nt X' φ (dM (fS listed) es st0) a w->cS sk dL o0 w0 φ (dM (fS listed) es st0).obj w->wpAny C.P .any ops Q fuel listed a w:=by
 have hw:es.length=ops.size:=by rw[<-zA (f:=(·.op)),hz,Array.length_toList]
 have split:∀i,i<es.length->∃l1 e l2,es=l1++e::l2/\l1.length=i/\e.i=i/\ops.toList[i]?=some e.op/\wJ C R rg ops.toList (fm l1 st0) e/\ix (fm l1 st0) e.kn/\(∀q,q∈l1->q.i<i)/\(∀q,q∈l2->i<q.i):=by
  intro i hi;refine⟨es.take i,es[i],es.drop (i+1),?_,?_,?_⟩
  ·rw[<-List.drop_eq_getElem_cons hi,List.take_append_drop]
  ·rw[zO];omega
  ·have e1:es=es.take i++es[i]::es.drop (i+1):=by rw[<-List.drop_eq_getElem_cons hi,List.take_append_drop]
   have hr:=ht;rw[e1] at hr;obtain⟨g1,g2,g3,g4,g5⟩:=PY _ _ _ _ _ hr;have e2:(es.take i).length=i:=by rw[zO];omega
   rw[e2] at g1 g4 g5;refine⟨by omega,?_,g2,g3,fun q hq=>by have:=g4 q hq;omega,fun q hq=>by have:=g5 q hq;omega⟩;rw[<-hz,zU,ze hi];rfl
 have LK:∀e,e∈es->BO e.i e.op.after.toList=true/\Cy e.F (gO rg e.i) (bO e.u)=true:=fun e he=>PZ hk e.tr (List.mem_reverse.2 (List.mem_map_of_mem he));have back:∀i o,ops[i]?=some o->∀e,e∈o.after.toList->Region.binds .any e=true->e.on<i:=by
  intro i o ho ed he hb;have hi:i<es.length:=by
   rw[hw];rcases Nat.lt_or_ge i ops.size with h|h
   ·exact h
   ·rw[ja h] at ho;cases ho
  obtain⟨l1,e,l2,h1,_,h2,h3,_⟩:=split i hi;rw[zF,ho] at h3;injection h3 with h3;have:=(LK e (by rw[h1];exact List.mem_append_right _ (zf ..))).1;rw[h2] at this;exact LJ this ed (by rw[<-h3];exact he) hb
 have ilt:∀q,q∈es->q.i<ops.size:=by
  intro q hq;obtain⟨i,hi,rfl⟩:=jC.1 hq;obtain⟨l1,e,l2,h1,h0,h2,_⟩:=split i hi;have:es[i]=e:=by
   have:es[i]?=some e:=by rw[h1,zV om,h0,Nat.sub_self];rfl
   rw[ze hi] at this;injection this
  rw[this,h2];omega
 have done:∀(listed:Array Bool) X' φ a w,listed.size=ops.size->(∀b,X b->X' b)->Rel C nt X' φ (dM (fS listed) es st0) a w->cS sk dL o0 w0 φ (dM (fS listed) es st0).obj w->Region.ready .any ops listed=[]->Q .normal a w:=by intro listed X' φ a w hs hX hR hJ hr;have hx:=qhq hs back hr;rw[Tf es st0 fun q hq=>hx _ (ilt q hq)] at hR hJ;exact fin X' φ a w hX hR hJ
 intro fuel
 induction fuel with
 |zero=>
  intro listed X' φ a w hs hu hD hX hR hJ;have hr:Region.ready .any ops listed=[]:=by
   rw[List.eq_nil_iff_forall_not_mem];intro i hi;obtain⟨o,ho,hl,_⟩:=(P0 hs).1 hi;have:i<listed.size:=by
    rcases Nat.lt_or_ge i listed.size with h|h
    ·exact h
    ·rw[ja om] at ho;cases ho
   rw[qhp om this] at hl;cases hl
  exact⟨hr,done listed X' φ a w hs hX hR hJ hr⟩
 |succ fuel ih=>
  intro listed X' φ a w hs hu hD hX hR hJ;refine⟨done listed X' φ a w hs hX hR hJ,fun i hi=>?_⟩;obtain⟨o,ho,hl,hf⟩:=(P0 hs).1 hi;have hG:i<ops.size:=by
   rcases Nat.lt_or_ge i ops.size with h|h
   ·exact h
   ·rw[ja h] at ho;cases ho
  obtain⟨l1,e,l2,h1,_,h2,h3,h4,h5,h6,h7⟩:=split i om;have hA:o=e.op:=by rw[zF,ho] at h3;injection h3
  subst h2 hA;have hy:e∈es:=by rw[h1];exact List.mem_append_right _ (zf ..)
  have hB:=(LK e hy).2;have hF:JP nt.n e.op.dst:=SQ hv e.op (zj h3);subst h1;refine qm4 hC hE HC (l1:=l1) (l2:=l2) (st0:=st0) h3 hD hf hl hd h6 h7 hB h4 h5 hR fun z w' φ' hc=>?_;have hg:∀j,fS (listed.setIfInBounds e.i true) j=(decide (e.i=j)||fS listed j):=fun j=>qwj om;have hn:dM (fS (listed.setIfInBounds e.i true)) (l1++e::l2) st0=e.app (dM (fS listed) (l1++e::l2) st0):=by
   refine qqs st0 (fun q hq=>?_) (fun q hq=>?_) hl (by rw[hg];simp) (z39 hD hl hd)
   ·have:=h6 q hq;rw[hg,zm om,Bool.false_or]
   ·have:=h7 q hq;rw[hg,zm om,Bool.false_or]
  refine ih _ X' φ' _ w' (by simpa using hs) ?_ ?_ hX ?_ ?_
  ·have:=qwk (listed:=listed) (i:=e.i) om hl;omega
  ·intro j oj hj hm ed he hb;rw[hg] at hm ⊢;rw[Bool.or_eq_true] at hm ⊢;right;rcases hm with hm|hm
   ·have hm:=zM hm;subst hm;rw[h3] at hj;injection hj with hj;subst hj;exact hf ed he hb
   ·exact hD j oj hj hm ed he hb
  ·rw[hn];exact hR.step hF hc
  ·rw[hn,xK];exact hJ.step hc
theorem z0x{u:List (Nat×Obj)}(h:dI (bO u)=true):u=[]:=by
 cases u with
 |nil=>rfl
 |cons p r=>cases h
theorem qhr{ic:List Nat}{i:Nat}:∀{l:List Tr},E8 ic i l=true->∀t,t∈l->Nat.testBit (ic.getD i 0) t.i=true\/dI t.wr=true
 |[],_,t,h=>by cases h
 |x::l,hk,t,h=>by
  simp only[E8,zd,Bool.or_eq_true] at hk;rcases zu.1 h with h|h
  ·subst h;exact hk.1
  ·exact qhr hk.2 t h
theorem qm5{ic:List Nat}{i:Nat}:∀{l:List Oper} {j:Nat},E9 ic i j l=true->∀k o,l[k]?=some o->BO (j+k) o.after.toList=true/\Nat.testBit (ic.getD (j+k) 0) i=true
 |[],_,_,k,o,h=>by simp at h
 |x::l,j,hk,k,o,h=>by
  simp only[E9,zd] at hk;cases k with
  |zero=>simp only[List.getElem?_cons_zero,zK] at h;subst h;exact hk.1
  |succ k=>
   have:=qm5 hk.2 k o (by simpa using h);have e:j+1+k=j+(k+1):=om
   rw[e] at this;exact this
theorem Tl(ic:List Nat)(i:Nat):∀(l:List Tr) (st:St) (t:Nat),(yg ic i l st).env t=.bP\/((yg ic i l st).env t=st.env t/\∀q,q∈l->Nat.testBit (ic.getD i 0) q.i=false->q.op.dst≠some t)
 |[],_,_=>.inr ⟨rfl,(fun _ h=>by cases h)⟩
 |x::r,st,t=>by
  simp only[yg];cases hb:Nat.testBit (ic.getD i 0) x.i with
  |true=>
   rcases Tl ic i r st t with h|⟨h1,h2⟩
   ·exact .inl h
   ·refine .inr ⟨h1,fun q hq hf=>?_⟩;rcases zu.1 hq with rfl|hq
    ·rw[hb] at hf;cases hf
    ·exact h2 q hq hf
  |false=>
   rw[cond_false];rcases JR (yg ic i r st) x.op.dst .bP t with ⟨h3,h4⟩|⟨h3,h4⟩
   ·exact .inl h4
   ·rcases Tl ic i r st t with h|⟨h1,h2⟩
    ·exact .inl (h4.trans h)
    ·refine .inr ⟨h4.trans h1,fun q hq hf=>?_⟩;rcases zu.1 hq with rfl|hq
     ·exact h3
     ·exact h2 q hq hf
theorem Tm{S:Nat->Bool}:∀(es:List En) (s1 s2:St) (T:Nat->Prop),(∀q,q∈es->S q.i=true\/(q.u=[]/\∀t,q.op.dst=some t->T t))->s1.obj=s2.obj->(∀t,¬T t->s1.env t=s2.env t)->(fm es s1).obj=(dM S es s2).obj/\∀t,¬T t->(fm es s1).env t=(dM S es s2).env t
 |[],_,_,_,_,h1,h2=>⟨h1,h2⟩
 |q::r,s1,s2,T,hq,h1,h2=>by
  have hr:∀p,p∈r->S p.i=true\/(p.u=[]/\∀t,p.op.dst=some t->T t):=fun p hp=>hq p (zg _ hp);show(fm r (q.app s1)).obj=(dM S r (bif S q.i then q.app s2 else s2)).obj/\∀t,¬T t->(fm r (q.app s1)).env t=(dM S r (bif S q.i then q.app s2 else s2)).env t;cases hS:S q.i with
  |true=>
   rw[cond_true];refine Tm r (q.app s1) (q.app s2) T hr (by rw[xK q s1,xK q s2,h1]) fun t ht=>?_;rcases tE q s1 t with ⟨g1,g2⟩|⟨g1,g2⟩
   ·rcases tE q s2 t with ⟨g3,g4⟩|⟨g3,g4⟩
    ·rw[g2,g4]
    ·exact absurd g1 g3
   ·rcases tE q s2 t with ⟨g3,g4⟩|⟨g3,g4⟩
    ·exact absurd g3 g1
    ·rw[g2,g4];exact h2 t ht
  |false=>
   rcases hq q (zf ..) with h|⟨h3,h4⟩
   ·rw[hS] at h;cases h
   ·rw[cond_false];refine Tm r (q.app s1) s2 T hr (by rw[xK q s1,h3];exact h1) fun t ht=>?_;rcases tE q s1 t with ⟨g1,g2⟩|⟨g1,g2⟩
    ·exact absurd (h4 t g1) ht
    ·rw[g2];exact h2 t ht
theorem qwl(hC:cw C)(hE:kD C)(HC:∀X φ o w,MRel C X φ o w->∀fr f,tA C R X φ o w fr f){ops:Array Oper}{rg:Nat}{X:Nat->Prop}{Q:Exit->Act->World->Prop}{st0:St}{es:List En}{e:En}{rest:List Oper}(hA:es.map (·.op)++e.op::rest=ops.toList)(hy:GA C R rg ops.toList 0 st0 es)(hL:e.i=es.length)(hp:PT C R rg (fm es st0) e true)(hO:ix (fm es st0) e.kn)(hP:E8 (cL ops.toList []) e.i (es.map En.tr).reverse=true)(hQ:E9 (cL ops.toList []) e.i (e.i+1) rest=true)(hd:ou (cL ops.toList []) ops.toList (e.tr::(es.map En.tr).reverse)=true)(hk:wz rg (e.tr::(es.map En.tr).reverse)=true)(hG:qp nt.n ops.toList=true)(fin:Sound C nt X (HJ sk dL o0 w0) {yg (cL ops.toList []) e.i (es.map En.tr).reverse (fm es st0) with obj:=ar (fm es st0).obj e.u} (fun a w=>∀t v,Q (.panic (oC t v)) a w)):
  ∀(fuel:Nat) (listed:Array Bool) (X':Nat->Prop) (φ:Nat->Addr) (a:Act) (w:World),listed.size=ops.size->CQ listed<=fuel->Down ops.toList (fS listed)->fS listed e.i=false->(∀b,X b->X' b)->
   Rel C nt X' φ (dM (fS listed) es st0) a w->cS sk dL o0 w0 φ (dM (fS listed) es st0).obj w->wpAny C.P .any ops Q fuel listed a w:=by
 have hS:es.length+1+rest.length=ops.size:=by have:=congrArg List.length hA;simp at this;omega
 have hz:=PU (all:=ops.toList) ops.toList [] [] rfl rfl (fun i a h=>by simp at h);have hH:ou (cL ops.toList []) ops.toList (es.map En.tr).reverse=true:=by simp only[ou,zd] at hd;exact hd.2
 have hB:ops.toList[e.i]?=some e.op:=by rw[<-hA,hL];simp
 have split:∀i,i<es.length->∃l1 q l2,es=l1++q::l2/\q.i=i/\ops.toList[i]?=some q.op/\wJ C R rg ops.toList (fm l1 st0) q/\ix (fm l1 st0) q.kn/\(∀p,p∈l1->p.i<i)/\(∀p,p∈l2->i<p.i):=by
  intro i hi;refine⟨es.take i,es[i],es.drop (i+1),?_,?_⟩
  ·rw[<-List.drop_eq_getElem_cons hi,List.take_append_drop]
  ·have e1:es=es.take i++es[i]::es.drop (i+1):=by rw[<-List.drop_eq_getElem_cons hi,List.take_append_drop]
   have hr:=hy;rw[e1] at hr;obtain⟨g1,g2,g3,g4,g5⟩:=PY _ _ _ _ _ hr;have e2:(es.take i).length=i:=by rw[zO];omega
   rw[e2] at g1 g4 g5;refine⟨by omega,?_,g2,g3,fun q hq=>by have:=g4 q hq;omega,fun q hq=>by have:=g5 q hq;omega⟩;rw[<-hA,jc (by simpa using hi),zU,ze hi];rfl
 have LK:∀q,q∈es->BO q.i q.op.after.toList=true/\Cy q.F (gO rg q.i) (bO q.u)=true:=fun q hq=>PZ hk q.tr (zg _ (List.mem_reverse.2 (List.mem_map_of_mem hq)));have tre:=PZ hk e.tr (zf ..);have far:∀i o,ops.toList[i]?=some o->e.i<i->BO i o.after.toList=true/\Nat.testBit ((cL ops.toList []).getD i 0) e.i=true:=by
  intro i o ho hi;obtain⟨m,rfl⟩:∃m,i=e.i+1+m:=⟨i-(e.i+1),by omega⟩;refine qm5 hQ m o ?_;rw[<-hA,zV (by simp;omega)] at ho;have:e.i+1+m-(es.map (·.op)).length=m+1:=by simp;omega
  rw[this] at ho;simpa using ho
 have back:∀i o,ops[i]?=some o->∀ed,ed∈o.after.toList->Region.binds .any ed=true->ed.on<i:=by
  intro i o ho ed he hb;rw[<-zF] at ho;rcases Nat.lt_trichotomy i e.i with hi|hi|hi
  ·obtain⟨l1,q,l2,h1,h2,h3,_⟩:=split i om;rw[ho] at h3;injection h3 with h3;have:=(LK q (by rw[h1];exact List.mem_append_right _ (zf ..))).1;rw[h2] at this;exact LJ this ed (by rw[<-h3];exact he) hb
  ·subst hi;rw[hB] at ho;injection ho with ho;subst ho;exact LJ tre.1 ed he hb
  ·exact LJ (far i o ho hi).1 ed he hb
 have stuck:∀listed:Array Bool,listed.size=ops.size->fS listed e.i=false->Region.ready .any ops listed=[]->False:=by intro listed hs hf hr;have:=qhq hs back hr e.i om;rw[hf] at this;cases this
 intro fuel
 induction fuel with
 |zero=>intro listed X' φ a w hs hu hD hf;have:=qhp (listed:=listed) om (i:=e.i) om;rw[hf] at this;cases this
 |succ fuel ih=>
  intro listed X' φ a w hs hu hD hf hX hR hJ;refine⟨fun hr=>(stuck listed hs hf hr).elim,fun i hi=>?_⟩;obtain⟨o,ho,hl,hg⟩:=(P0 hs).1 hi;have hY:i<ops.size:=by
   rcases Nat.lt_or_ge i ops.size with h|h
   ·exact h
   ·rw[ja h] at ho;cases ho
  rcases Nat.lt_trichotomy i e.i with hM|hT|hU
  ·obtain⟨l1,q,l2,h1,h2,h3,h4,h5,h6,h7⟩:=split i om;have hI:o=q.op:=by rw[zF,ho] at h3;injection h3
   subst h2 hI;have hK:q∈es:=by rw[h1];exact List.mem_append_right _ (zf ..)
   have hV:=(LK q hK).2;have hW:JP nt.n q.op.dst:=SQ hG q.op (zj h3);rw[h1] at hH hR hJ;refine qm4 hC hE HC (l1:=l1) (l2:=l2) (st0:=st0) h3 hD hg hl hH h6 h7 hV h4 h5 hR fun z w' φ' hc=>?_;have hn:∀j,fS (listed.setIfInBounds q.i true) j=(decide (q.i=j)||fS listed j):=fun j=>qwj om;have hw:dM (fS (listed.setIfInBounds q.i true)) (l1++q::l2) st0=q.app (dM (fS listed) (l1++q::l2) st0):=by
    refine qqs st0 (fun p hp=>?_) (fun p hp=>?_) hl (by rw[hn];simp) (z39 hD hl hH)
    ·have:=h6 p hp;rw[hn,zm om,Bool.false_or]
    ·have:=h7 p hp;rw[hn,zm om,Bool.false_or]
   refine ih _ X' φ' _ w' (by simpa using hs) ?_ ?_ ?_ hX ?_ ?_
   ·have:=qwk (listed:=listed) (i:=q.i) om hl;omega
   ·intro j oj hj hv ed he hb;rw[hn] at hv ⊢;rw[Bool.or_eq_true] at hv ⊢;right;rcases hv with hv|hv
    ·have hv:=zM hv;subst hv;rw[h3] at hj;injection hj with hj;subst hj;exact hg ed he hb
    ·exact hD j oj hj hv ed he hb
   ·rw[hn,zm om,Bool.false_or];exact hf
   ·rw[h1,hw];exact hR.step hW hc
   ·rw[h1,hw,xK];exact hJ.step hc
  ·subst hT;have hI:o=e.op:=by rw[<-zF,hB] at ho;injection ho with ho;exact ho.symm
   subst hI;have hN:dM (fS listed) (es++[e]) st0=dM (fS listed) es st0:=by rw[LF];show(bif fS listed e.i then _ else _)=_;rw[hf];rfl
   have hM:∀p,p∈es->p.i<e.i:=fun p hp=>by
    obtain⟨j,hj,rfl⟩:=jC.1 hp;obtain⟨l1,q,l2,h1,h2,h3,h4,h5,h6,h7⟩:=split j hj;rw[hL];have hr:=hy;have e1:es=es.take j++es[j]::es.drop (j+1):=by rw[<-List.drop_eq_getElem_cons hj,List.take_append_drop]
    rw[e1] at hr;have:=(PY _ _ _ _ _ hr).1;rw[zO] at this;omega
   refine qho HC (l1:=es) (l2:=[]) (st0:=st0) hB hD hg hl ?_ hM (fun _ h=>by cases h) tre.2 hp hO (by rw[hN];exact hR) (fun h=>by cases h) fun _ t v z w' φ' hc=>?_
   ·rw[zE,zQ,List.map_nil,List.reverse_append];exact hd
   ·rw[hN] at hc;have hx:∀q,q∈es->fS listed q.i=true\/(q.u=[]/\∀t,q.op.dst=some t->∃p,p∈(es.map En.tr).reverse/\Nat.testBit ((cL ops.toList []).getD e.i 0) p.i=false/\p.op.dst=some t):=by
     intro q hq;have hm:q.tr∈(es.map En.tr).reverse:=List.mem_reverse.2 (List.mem_map_of_mem hq);cases hb:Nat.testBit ((cL ops.toList []).getD e.i 0) q.i with
     |true=>exact .inl (Tc hD hB hg (hz _ _ hb))
     |false=>
      refine .inr ⟨?_,fun t ht=>⟨q.tr,hm,hb,ht⟩⟩;rcases qhr hP q.tr hm with h|h
      ·have h:Nat.testBit ((cL ops.toList []).getD e.i 0) q.i=true:=h;rw[hb] at h;cases h
      ·exact z0x h
    obtain⟨f1,f2⟩:=Tm es st0 st0 (fun t=>∃p,p∈(es.map En.tr).reverse/\Nat.testBit ((cL ops.toList []).getD e.i 0) p.i=false/\p.op.dst=some t) hx rfl (fun _ _=>rfl);have hF:=hR.yo hc;refine fin X' φ' a w' hX ⟨?_,hF.size,fun t=>?_,hF.defers⟩ ?_ t v
    ·rw[f1];exact hF.toMRel
    ·show ay φ' (ar (fm es st0).obj e.u) _ w' ((yg (cL ops.toList []) e.i (es.map En.tr).reverse (fm es st0)).env t) _;rcases Tl (cL ops.toList []) e.i (es.map En.tr).reverse (fm es st0) t with h|⟨h3,h4⟩
     ·rw[h];trivial
     ·rw[h3,f1,f2 t fun⟨p,p1,p2,p3⟩=>h4 p p1 p2 p3];exact hF.env t
    ·show cS sk dL o0 w0 φ' (ar (fm es st0).obj e.u) w';rw[f1];exact hJ.step hc
  ·have hb:=(far i o (by rw[zF];exact ho) hU).2;have:=Tc hD (by rw[zF];exact ho) hg (hz _ _ hb);rw[hf] at this;cases this
theorem z4s(hC:cw C)(hE:kD C)(hL:PO C)(hm:C.P.follows .mixedOrders=true):qwd C:=by
 intro R hR nt sk dL o0 w0 rg ops n γ δ X Q wr st k kp y h hc hk hl hn X' φ a w hX he hJ;have hf:∀i,fS (Array.replicate ops.size false) i=false:=fun i=>by unfold fS;rw[Array.getD_eq_getD_getElem?,Array.getElem?_replicate];split<;>rfl
 rcases z4q n 0 ops.toList st [] [] h (fun d b hd=>by cases hd) with ⟨es,h1,h2,h3,h4⟩|⟨es,e,rest,h1,h2,h3,h4,h5,h6,h7,h8,h9,hj⟩
 rotate_left
 ·rw[zC] at h6 h8 h9 hj;refine wp_region_any hm ?_;have hg:dM (fS (Array.replicate ops.size false)) es st=st:=PX es st fun q _=>hf _;refine qwl hC hE (hL R hR) h1 h2 om h4 h5 h6 h7 h8 h9 hc ((hl _ hj).weaken fun a w hq t v=>hn a w t v hq) ops.size _ X' φ a _ (by simp) ?_ ?_ (hf _) hX ?_ ?_
  ·unfold CQ;exact Nat.le_trans List.countP_le_length (by simp)
  ·intro i o _ hs;rw[hf] at hs;cases hs
  ·rw[hg];exact he.drawn
  ·rw[hg];exact⟨hJ.size,hJ.frame,hJ.news,hJ.still,hJ.up⟩
 rw[zC,zd] at h3;refine wp_region_any hm ?_;have hg:dM (fS (Array.replicate ops.size false)) es st=st:=PX es st fun q _=>hf _;refine z0w hC hE (hL R hR) h1 h2 h3.1 h3.2 hc (hk _ h4) ops.size _ X' φ a _ (by simp) ?_ ?_ hX ?_ ?_
 ·unfold CQ;exact Nat.le_trans List.countP_le_length (by simp)
 ·intro i o _ hs;rw[hf] at hs;cases hs
 ·rw[hg];exact he.drawn
 ·rw[hg];exact⟨hJ.size,hJ.frame,hJ.news,hJ.still,hJ.up⟩
end
end Ev