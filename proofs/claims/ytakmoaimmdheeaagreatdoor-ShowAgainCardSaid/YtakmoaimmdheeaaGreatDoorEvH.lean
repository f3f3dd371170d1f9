/- Regions that draw their order are sound. No statement of its own about the program. -/
import Derived.Test.YtakmoaimmdheeaaGreatDoorEvG
namespace Ev
open Go
structure En where
 i:Nat
 op:Oper
 sk:Bool
 kn:List (Nat×Bool)
 F:List Nat
 v:V
 u:List (Nat×Obj)
def En.app(e:En)(st:St):St:=bC {st with obj:=ak st.obj e.u} e.op.dst e.v
def fh(S:Nat->Bool):List En->St->St
 |[],st=>st
 |e::r,st=>fh S r (bif S e.i then e.app st else st)
theorem St.ext'{a b:St}(h1:∀t,a.env t=b.env t)(h2:∀id,a.obj id=b.obj id):a=b:=by
 obtain⟨e,o⟩:=a;obtain⟨e',o'⟩:=b;have:e=e':=funext h1;have:o=o':=funext h2
 subst_vars;rfl
theorem Dt(e:En)(st:St):(e.app st).obj=ak st.obj e.u:=by unfold En.app bC;cases e.op.dst<;>rfl
theorem wh(e:En)(st:St)(t:Nat):(e.op.dst=some t/\(e.app st).env t=e.v)\/(e.op.dst≠some t/\(e.app st).env t=st.env t):=by
 unfold En.app bC;cases h:e.op.dst with
 |none=>exact .inr ⟨by simp,rfl⟩
 |some d=>
  by_cases ht:t=d
  ·subst ht;exact .inl ⟨rfl,eH⟩
  ·exact .inr ⟨fun e=>ht (by injection e with e;exact e.symm),iI ht⟩
theorem z2r{e e':En}(hd:∀d,e.op.dst=some d->e'.op.dst≠some d)(hk:∀id,id∈bW e.u->id∉bW e'.u)(st:St):e'.app (e.app st)=e.app (e'.app st):=by
 apply St.ext'
 ·intro t;rcases wh e' (e.app st) t with ⟨h1,h2⟩|⟨h1,h2⟩
  ·rw[h2];rcases wh e (e'.app st) t with ⟨h3,h4⟩|⟨h3,h4⟩
   ·exact absurd h1 (hd t h3)
   ·rw[h4];rcases wh e' st t with ⟨_,h6⟩|⟨h5,_⟩
    ·rw[h6]
    ·exact absurd h1 h5
  ·rw[h2];rcases wh e (e'.app st) t with ⟨h3,h4⟩|⟨h3,h4⟩
   ·rw[h4];rcases wh e st t with ⟨_,h6⟩|⟨h5,_⟩
    ·exact h6
    ·exact absurd h3 h5
   ·rw[h4];rcases wh e st t with ⟨h5,_⟩|⟨_,h6⟩
    ·exact absurd h5 h3
    ·rw[h6];rcases wh e' st t with ⟨h7,_⟩|⟨_,h8⟩
     ·exact absurd h7 h1
     ·rw[h8]
 ·intro id;rw[Dt,Dt,Dt,Dt];by_cases h1:id∈bW e.u
  ·rw[iq (hk id h1),Jt (o':=ak st.obj e'.u) h1]
  ·rw[iq (u:=e.u) (o:=ak st.obj e'.u) h1];by_cases h2:id∈bW e'.u
   ·exact Jt h2
   ·rw[iq h2,iq h2,iq h1]
theorem Nr(S:Nat->Bool):∀(l m:List En) (st:St),fh S (l++m) st=fh S m (fh S l st)
 |[],_,_=>rfl
 |_::l,m,_=>Nr S l m _
theorem Rc{S S':Nat->Bool}:∀(l:List En) (st:St),(∀e,e∈l->S e.i=S' e.i)->fh S l st=fh S' l st
 |[],_,_=>rfl
 |e::l,st,h=>by show fh S l (bif S e.i then e.app st else st)=fh S' l (bif S' e.i then e.app st else st);rw[h e (zf ..)];exact Rc l _ fun q hq=>h q (zh _ hq)
theorem ZB{S:Nat->Bool}{e:En}:∀(l:List En) (st:St),(∀q,q∈l->S q.i=true->(∀d,e.op.dst=some d->q.op.dst≠some d)/\∀id,id∈bW e.u->id∉bW q.u)->fh S l (e.app st)=e.app (fh S l st)
 |[],_,_=>rfl
 |q::l,st,h=>by
  show fh S l (bif S q.i then q.app (e.app st) else e.app st)=e.app (fh S l (bif S q.i then q.app st else st));have ih:=fun st=>ZB (S:=S) (e:=e) l st fun p hp=>h p (zh _ hp);cases hs:S q.i with
  |true=>obtain⟨h1,h2⟩:=h q (zf ..) hs;show fh S l (q.app (e.app st))=e.app (fh S l (q.app st));rw[z2r h1 h2,ih]
  |false=>exact ih st
theorem z2s{S S':Nat->Bool}{e:En}{l m:List En}(st:St)(hl:∀q,q∈l->S q.i=S' q.i)(hm:∀q,q∈m->S q.i=S' q.i)(h1:S e.i=false)(h2:S' e.i=true)(hp:∀q,q∈m->S q.i=true->(∀d,e.op.dst=some d->q.op.dst≠some d)/\∀id,id∈bW e.u->id∉bW q.u):fh S' (l++e::m) st=e.app (fh S (l++e::m) st):=by rw[Nr,Nr];show fh S' m (bif S' e.i then e.app (fh S' l st) else fh S' l st)=e.app (fh S m (bif S e.i then e.app (fh S l st) else fh S l st));rw[h1,h2,<-Rc l st hl];show fh S' m (e.app (fh S l st))=e.app (fh S m (fh S l st));rw[<-Rc m _ hm];exact ZB m _ hp
section
variable {C:Cx} {R:iX C.sigs}
def En.tr(e:En):Tr:=⟨e.i,e.op,e.F,bW e.u⟩
def jJ(st:St)(kn:List (Nat×Bool)):Prop:=∀d b,q8 d kn=some b->st.env d=.d .bool b
def ZC(all:List Oper)(st:St)(e:En):Prop:=∃j want oj dj,e.op.guard=some (j,want)/\all[j]?=some oj/\oj.dst=some dj/\((∃b,q8 dj e.kn=some b/\b≠want)\/st.env dj=.undef)
def ZD(all:List Oper)(e:En):Prop:=e.op.guard=none\/∃j want oj dj,e.op.guard=some (j,want)/\all[j]?=some oj/\oj.dst=some dj/\q8 dj e.kn=some want
def wi(C:Cx)(R:iX C.sigs)(rg:Nat)(all:List Oper)(st:St)(e:En):Prop:=
 (e.sk=true/\ZC all st e/\e.v=.undef/\e.u=[]/\e.F=[])\/
 (e.sk=false/\ZD all e/\e.F=oU C st e.op/\(A1 e.op.op||vY st.obj e.F e.F)=true/\
  (dE lf C R (gy st.env e.kn (jX e.op.op.operands.toList)) (ek st.obj e.F) (jW rg e.i) e.op.type e.op.op).aE e.v e.u/\kO (jW rg e.i) st.obj e.u)
def Bg(C:Cx)(R:iX C.sigs)(rg:Nat)(all:List Oper):Nat->St->List En->Prop
 |_,_,[]=>True
 |i,st,e::r=>e.i=i/\wi C R rg all st e/\jJ st e.kn/\I1 e.op.dst e.kn=true/\Bg C R rg all (i+1) (e.app st) r
def kQ:List En->St->St
 |[],st=>st
 |e::r,st=>kQ r (e.app st)
theorem z2t{e:En}{st:St}{kn:List (Nat×Bool)}(h:jJ st kn)(hn:I1 e.op.dst kn=true):jJ (e.app st) kn:=by
 intro d b hd;rcases wh e st d with ⟨h1,_⟩|⟨_,h2⟩
 ·exfalso;rw[h1] at hn;unfold I1 at hn;simp only[hd] at hn;cases hn
 ·rw[h2];exact h d b hd
theorem qv7{env:Nat->V}{o:Nat->Obj}{fr:Nat}{ty:TypeId}{t:Nat}{y:Bool}(he:env t=.lb y){v:V}{u:List (Nat×Obj)}(h:(dE lf C R env o fr ty (.move (.tmp t))).aE v u):v=.d .bool y:=by
 have hv:cv C env (.tmp t)=.d .bool y:=by show eg (env t)=_;rw[he];rfl
 simp only[dE,hv,IT] at h;rw[dR] at h;exact h.1.symm
theorem qv8{env:Nat->V}{o:Nat->Obj}{fr:Nat}{ty:TypeId}{t:Nat}{q z:Bool}{a b:Operand}(he:env t=.lb q)(hz:(bif q then a else b)=.const (.bool z)){v:V}{u:List (Nat×Obj)}(h:(dE lf C R env o fr ty (.pick (.tmp t) a b)).aE v u):v=.d .bool z:=by
 have hv:AW C env (.tmp t)=.lb q:=he;simp only[dE,hv] at h;rw[dR] at h;rw[<-h.1];cases q with
 |true=>rw[cond_true] at hz ⊢;rw[hz];rfl
 |false=>rw[cond_false] at hz ⊢;rw[hz];rfl
theorem ZE{env:Nat->V}{kn:List (Nat×Bool)}{ts:List Nat}{t:Nat}{b:Bool}(ht:bJ t ts=true)(hk:q8 t kn=some b):gy env kn ts t=.lb b:=by unfold gy;rw[ht,cond_true,hk]
theorem ZF{st:St}{kn:List (Nat×Bool)}{d:Nat}{z:Bool}(h:jJ st kn)(hd:st.env d=.d .bool z):jJ st ((d,z)::kn):=by
 intro t b ht;simp only[q8] at ht;cases hq:Nat.beq d t with
 |true=>rw[hq,cond_true] at ht;injection ht with ht;have:=zm hq;subst this ht;exact hd
 |false=>rw[hq,cond_false] at ht;exact h t b ht
theorem ZG(t:Nat)(l:List Nat):bJ t (t::l)=true:=by simp[bJ]
theorem z2u{st:St}{kn:List (Nat×Bool)}{o:Oper}{ob:Nat->Obj}{Re:Nat->Obj}{fr:Nat}{v:V}{u:List (Nat×Obj)}(hg:(dE lf C R (gy st.env kn (jX o.op.operands.toList)) ob fr o.type o.op).aE v u)(h:jJ (bC {st with obj:=Re} o.dst v) kn):jJ (bC {st with obj:=Re} o.dst v) (Ek o kn):=by
 unfold Ek;split
 ·exact h
 ·rename_i d hd;have hc:(bC {st with obj:=Re} o.dst v).env d=v:=by rw[hd];simp[bC,cu]
  split
  ·rename_i t ho;split
   ·rename_i y hy;rw[ho] at hg;have:=qv7 (ZE (by simpa[Op.operands,jX] using ZG t []) hy) hg;exact ZF h (by rw[hc,this])
   ·exact h
  ·rename_i c x y ho;split
   ·rename_i q hq;split
    ·rename_i z hz;rw[ho] at hg;have:=qv8 (ZE (by simpa[Op.operands,jX] using ZG c _) hq) hz hg;exact ZF h (by rw[hc,this])
    ·exact h
   ·exact h
  ·exact h
theorem z7q{rg:Nat}{all:List Oper}{γ δ:Type}{w:γ->δ}{k:(γ->δ)->St->Option δ}{y:δ}:∀(n i:Nat) (r:List Oper) (st:St) (kn:List (Nat×Bool)) (tr:List Tr),q9 lf C R rg all n w i r st kn tr k=some y->jJ st kn->∃es,es.map (·.op)=r/\Bg C R rg all i st es/\(py (gM all []) all ((es.map En.tr).reverse++tr)&&vh rg ((es.map En.tr).reverse++tr))=true/\k w (kQ es st)=some y:=by
 intro n
 induction n with
 |zero=>intro i r st kn tr h;cases h
 |succ n ih=>
  intro i r st kn tr h hf;cases r with
  |nil=>
   have h:(bif py (gM all []) all tr&&vh rg tr then k w st else none)=some y:=h;cases hd:(py (gM all []) all tr&&vh rg tr) with
   |false=>rw[hd] at h;cases h
   |true=>rw[hd] at h;exact⟨[],rfl,trivial,hd,h⟩
  |cons o r=>
   unfold q9 at h;simp only at h;cases he:I1 o.dst kn with
   |false=>rw[he] at h;cases h
   |true=>
    rw[he,cond_true] at h;have more:∀(e:En),e.i=i->e.op=o->e.kn=kn->wi C R rg all st e->∀HZ,(jJ (e.app st) kn->jJ (e.app st) HZ)->q9 lf C R rg all n w (i+1) r (e.app st) HZ (e.tr::tr) k=some y->
      ∃es,es.map (·.op)=o::r/\Bg C R rg all i st es/\(py (gM all []) all ((es.map En.tr).reverse++tr)&&vh rg ((es.map En.tr).reverse++tr))=true/\k w (kQ es st)=some y:=by
     intro e h1 h2 h3 h4 HZ h6 h5;obtain⟨es,g1,g2,g3,g4⟩:=ih _ _ _ _ _ h5 (h6 (z2t hf (by rw[h2];exact he)));exact⟨e::es,by rw[zJ,g1,h2],⟨h1,h4,by rw[h3];exact hf,by rw[h2,h3];exact he,g2⟩,by rw[zJ,List.reverse_cons,zo];exact g3,g4⟩
    have run:(∀e:En,e.op=o->e.kn=kn->ZD all e)->(bif A1 o.op||vY st.obj (oU C st o) (oU C st o) then(match dE lf C R (gy st.env kn (jX o.op.operands.toList)) (ek st.obj (oU C st o)) (jW rg i) o.type o.op with
      |.fail=>none
      |.lE v u=>ng v fun v=>q7 (jW rg i) st.obj u fun o'=>q9 lf C R rg all n w (i+1) r (bC {st with obj:=o'} o.dst v) (Ek o kn) (⟨i,o,oU C st o,bW u⟩::tr) k
      |.dyn _ x out=>lf.b x fun y=>ng (out y).1 fun v=>q7 (jW rg i) st.obj (out y).2 fun o'=>q9 lf C R rg all n w (i+1) r (bC {st with obj:=o'} o.dst v) (Ek o kn) (⟨i,o,oU C st o,bW (out y).2⟩::tr) k) else none)=some y->
      ∃es,es.map (·.op)=o::r/\Bg C R rg all i st es/\(py (gM all []) all ((es.map En.tr).reverse++tr)&&vh rg ((es.map En.tr).reverse++tr))=true/\k w (kQ es st)=some y:=by
     intro hw h;cases hc:(A1 o.op||vY st.obj (oU C st o) (oU C st o)) with
     |false=>rw[hc] at h;cases h
     |true=>
      rw[hc,cond_true] at h;have go:∀v u,(dE lf C R (gy st.env kn (jX o.op.operands.toList)) (ek st.obj (oU C st o)) (jW rg i) o.type o.op).aE v u->
        (ng v fun v=>q7 (jW rg i) st.obj u fun o'=>q9 lf C R rg all n w (i+1) r (bC {st with obj:=o'} o.dst v) (Ek o kn) (⟨i,o,oU C st o,bW u⟩::tr) k)=some y->
        ∃es,es.map (·.op)=o::r/\Bg C R rg all i st es/\(py (gM all []) all ((es.map En.tr).reverse++tr)&&vh rg ((es.map En.tr).reverse++tr))=true/\k w (kQ es st)=some y:=by
       intro v u hg h;rw[QP] at h;obtain⟨h1,h2⟩:=QQ _ _ _ _ h;exact more ⟨i,o,false,kn,oU C st o,v,u⟩ rfl rfl rfl (.inr ⟨rfl,hw _ rfl rfl,rfl,hc,hg,h2⟩) _ (z2u hg) h1
      generalize hp:dE lf C R (gy st.env kn (jX o.op.operands.toList)) (ek st.obj (oU C st o)) (jW rg i) o.type o.op=pk at h go;cases pk with
      |fail=>cases h
      |lE v u=>exact go v u ⟨rfl,rfl⟩ h
      |dyn α x out=>obtain⟨q,h1,h2⟩:=Al (x:=x) h;exact go (out q).1 (out q).2 ⟨q,h1,rfl⟩ h2
    have skip:(∀e:En,e.op=o->e.kn=kn->ZC all st e)->q9 lf C R rg all n w (i+1) r (bC st o.dst .undef) kn (⟨i,o,[],[]⟩::tr) k=some y->
      ∃es,es.map (·.op)=o::r/\Bg C R rg all i st es/\(py (gM all []) all ((es.map En.tr).reverse++tr)&&vh rg ((es.map En.tr).reverse++tr))=true/\k w (kQ es st)=some y:=fun hs h=>
     more ⟨i,o,true,kn,[],.undef,[]⟩ rfl rfl rfl (.inl ⟨rfl,hs _ rfl rfl,rfl,rfl,rfl⟩) kn (fun h=>h) h
    split at h
    ·rename_i hg;exact run (fun e h1 _=>.inl (by rw[h1];exact hg)) h
    ·rename_i j want hg;split at h
     ·rename_i oj hj;split at h
      ·rename_i dj hk;split at h
       ·rename_i b hb;cases hc:(bif want then b else !b) with
        |true=>
         rw[hc] at h;have:b=want:=by cases b<;>cases want<;>first|rfl|cases hc
         subst this;exact run (fun e h1 h2=>.inr ⟨j,b,oj,dj,by rw[h1];exact hg,hj,hk,by rw[h2];exact hb⟩) h
        |false=>
         rw[hc] at h;have:b≠want:=by cases b<;>cases want<;>first|(intro h;cases h;done)|cases hc
         exact skip (fun e h1 h2=>⟨j,want,oj,dj,by rw[h1];exact hg,hj,hk,.inl ⟨b,by rw[h2];exact hb,this⟩⟩) h
       ·split at h
        ·rename_i hu;exact skip (fun e h1 h2=>⟨j,want,oj,dj,by rw[h1];exact hg,hj,hk,.inr hu⟩) h
        ·rename_i x hx;have HZ:∀b,x=b->jJ st ((dj,b)::kn):=by
          intro b e d b' hd;simp only[q8] at hd;cases hq:Nat.beq dj d with
          |true=>rw[hq,cond_true] at hd;injection hd with hd;have:=zm hq;subst this hd e;exact hx
          |false=>rw[hq,cond_false] at hd;exact hf d b' hd
         cases x with
         |true=>exact ih i (o::r) st _ tr h (HZ true rfl)
         |false=>exact ih i (o::r) st _ tr h (HZ false rfl)
        ·cases h
      ·cases h
     ·cases h
end
inductive Aw (all:List Oper):Nat->Nat->Prop where
 |ES {i:Nat} {o:Oper} {e:Edge} (h1:all[i]?=some o) (h2:e∈o.after.toList) (h3:Region.binds .any e=true):Aw all i e.on
 |trans {i a:Nat} {o:Oper} {e:Edge} (h1:all[i]?=some o) (h2:e∈o.after.toList) (h3:Region.binds .any e=true) (h4:Aw all e.on a):Aw all i a
theorem qqp{t a:Nat}(h:Nat.testBit (bit t) a=true):a=t:=by
 unfold bit at h;rw[Nat.testBit_shiftLeft,ze] at h;obtain⟨h1,h2⟩:=h;have h1:t<=a:=by simpa using h1
 have:a-t=0:=zA fun hn=>by obtain⟨m,hm⟩:∃m,a-t=m+1:=⟨a-t-1,by omega⟩;rw[hm,Nat.testBit_succ] at h2;simp at h2
 omega
theorem ZH{all:List Oper}{acc:List Nat}(hc:∀i a,Nat.testBit (acc.getD i 0) a=true->Aw all i a){i:Nat}{o:Oper}(ho:all[i]?=some o):∀(l:List Edge) (s:Nat),(∀e,e∈l->e∈o.after.toList)->(∀a,Nat.testBit s a=true->Aw all i a)->∀a,Nat.testBit (l.foldl (fun s e=>bif Region.binds .any e then s|||bit e.on|||acc.getD e.on 0 else s) s) a=true->Aw all i a
 |[],s,_,hs,a,h=>hs a h
 |e::l,s,hl,hs,a,h=>by
  refine ZH hc ho l _ (fun q hq=>hl q (zh _ hq)) ?_ a h;intro a ha;replace ha:Nat.testBit (bif Region.binds .any e then s|||bit e.on|||acc.getD e.on 0 else s) a=true:=ha;cases hb:Region.binds .any e with
  |false=>rw[hb,cond_false] at ha;exact hs a ha
  |true=>
   rw[hb,cond_true,Nat.testBit_or,Nat.testBit_or,Bool.or_eq_true,Bool.or_eq_true] at ha;rcases ha with (ha|ha)|ha
   ·exact hs a ha
   ·rw[qqp ha];exact .ES ho (hl e (zf ..)) hb
   ·exact .trans ho (hl e (zf ..)) hb (hc _ _ ha)
theorem Rf{all:List Oper}:∀(r pre:List Oper) (acc:List Nat),all=pre++r->acc.length=pre.length->(∀i a,Nat.testBit (acc.getD i 0) a=true->Aw all i a)->∀i a,Nat.testBit ((gM r acc).getD i 0) a=true->Aw all i a
 |[],pre,acc,_,_,hc=>hc
 |o::r,pre,acc,he,hf,hc=>by
  refine Rf r (pre++[o]) _ (by rw[he];simp) (by simp[hf]) ?_;have ho:all[pre.length]?=some o:=by rw[he];simp
  intro i a h;by_cases hi:i<acc.length
  ·rw[List.getD_eq_getElem?_getD,zR hi,<-List.getD_eq_getElem?_getD] at h;exact hc i a h
  ·by_cases hg:i=acc.length
   ·rw[List.getD_eq_getElem?_getD,zG om,hg,Nat.sub_self] at h;rw[hg,hf];exact ZH hc ho o.after.toList 0 (fun _ h=>h) (fun a h=>by simp at h) a h
   ·rw[List.getD_eq_getElem?_getD,zV (by simp;omega)] at h;simp at h
theorem Rg{all:List Oper}{S:Nat->Bool}(hS:∀i o,all[i]?=some o->S i=true->∀e,e∈o.after.toList->Region.binds .any e=true->S e.on=true){i a:Nat}(h:Aw all i a):S i=true->S a=true:=by
 induction h with
 |ES h1 h2 h3=>exact fun hi=>hS _ _ h1 hi _ h2 h3
 |trans h1 h2 h3 _ ih=>exact fun hi=>ih (hS _ _ h1 hi _ h2 h3)
theorem qy3{all:List Oper}{S:Nat->Bool}(hS:∀i o,all[i]?=some o->S i=true->∀e,e∈o.after.toList->Region.binds .any e=true->S e.on=true){i a:Nat}{o:Oper}(ho:all[i]?=some o)(hr:∀e,e∈o.after.toList->Region.binds .any e=true->S e.on=true)(h:Aw all i a):S a=true:=by
 cases h with
 |ES h1 h2 h3=>rw[ho] at h1;injection h1 with h1;subst h1;exact hr _ h2 h3
 |trans h1 h2 h3 h4=>rw[ho] at h1;injection h1 with h1;subst h1;exact Rg hS h4 (hr _ h2 h3)
theorem ZI{d:Nat}:∀{l:List Nat},AX d l=true->d∉l
 |[],_=>by simp
 |b::r,h=>by
  simp only[AX] at h;cases hb:Nat.beq b d with
  |true=>rw[hb] at h;cases h
  |false=>
   rw[hb] at h;have hr:=ZI h;intro hm;rcases zw.1 hm with hm|hm
   ·subst hm;rw[Nat.beq_refl] at hb;cases hb
   ·exact hr hm
theorem ZJ{S S':Nat->Bool}{t:Nat}:∀(es:List En) (st bT:St),st.env t=bT.env t->(∀q,q∈es->S q.i≠S' q.i->q.op.dst≠some t)->(fh S es st).env t=(fh S' es bT).env t
 |[],_,_,h,_=>h
 |q::es,st,bT,h,hq=>by
  have hr:=fun p hp=>hq p (zh q hp);show(fh S es (bif S q.i then q.app st else st)).env t=(fh S' es (bif S' q.i then q.app bT else bT)).env t;refine ZJ es _ _ ?_ hr;by_cases e:S q.i=S' q.i
  ·rw[e];cases S' q.i with
   |false=>exact h
   |true=>
    show(q.app st).env t=(q.app bT).env t;rcases wh q st t with ⟨h1,h2⟩|⟨h1,h2⟩<;>rcases wh q bT t with ⟨h3,h4⟩|⟨h3,h4⟩
    ·rw[h2,h4]
    ·exact absurd h1 h3
    ·exact absurd h3 h1
    ·rw[h2,h4,h]
  ·have hd:=hq q (zf ..) e;have one:∀(b:Bool) (s:St),(bif b then q.app s else s).env t=s.env t:=by
    intro b s;cases b with
    |false=>rfl
    |true=>
     rcases wh q s t with ⟨h1,_⟩|⟨_,h2⟩
     ·exact absurd h1 hd
     ·exact h2
   rw[one,one,h]
theorem ZK{S S':Nat->Bool}{id:Nat}:∀(es:List En) (st bT:St),st.obj id=bT.obj id->(∀q,q∈es->S q.i≠S' q.i->id∉bW q.u)->(fh S es st).obj id=(fh S' es bT).obj id
 |[],_,_,h,_=>h
 |q::es,st,bT,h,hq=>by
  have hr:=fun p hp=>hq p (zh q hp);show(fh S es (bif S q.i then q.app st else st)).obj id=(fh S' es (bif S' q.i then q.app bT else bT)).obj id;refine ZK es _ _ ?_ hr;have Rh:∀s s':St,s.obj id=s'.obj id->(q.app s).obj id=(q.app s').obj id:=by
   intro s s' hs;rw[Dt,Dt];by_cases hk:id∈bW q.u
   ·exact Jt hk
   ·rw[iq hk,iq hk,hs]
  by_cases e:S q.i=S' q.i
  ·rw[e];cases S' q.i with
   |false=>exact h
   |true=>exact Rh st bT h
  ·have hd:=hq q (zf ..) e;have one:∀(b:Bool) (s:St),(bif b then q.app s else s).obj id=s.obj id:=by
    intro b s;cases b with
    |false=>rfl
    |true=>show(q.app s).obj id=s.obj id;rw[Dt,iq hd]
   rw[one,one,h]
theorem JK{a b:List Nat}(h:AZ a b=true):∀x,x∈a->x∉b:=by intro x hx hb;unfold AZ at h;have:=zU.1 h x hx;rw[cS.2 hb] at this;cases this
theorem Ri{d:Option Nat}{l:List Nat}(h:PK d l=true):∀t,d=some t->t∉l:=by rintro t rfl;exact ZI h
theorem qqq{tN:List Nat}{all:List Oper}{b:Tr}{r:List Tr}:My tN all b r=true->∀a,a∈r->A0 tN all a b=true:=by
 induction r with
 |nil=>intro _ a ha;cases ha
 |cons x r ih=>
  intro h a ha;simp only[My,ze] at h;rcases zw.1 ha with ha|ha
  ·subst ha;exact h.1
  ·exact ih h.2 a ha
theorem Ns{tN:List Nat}{all:List Oper}:∀(l1 l2:List Tr) (b:Tr),py tN all (l1++b::l2)=true->∀a,a∈l2->A0 tN all a b=true
 |[],l2,b,h=>by simp only[List.nil_append,py,ze] at h;exact qqq h.1
 |x::l1,l2,b,h=>by simp only[List.cons_append,py,ze] at h;exact Ns l1 l2 b h.2
def Down(all:List Oper)(S:Nat->Bool):Prop:=∀i o,all[i]?=some o->S i=true->∀e,e∈o.after.toList->Region.binds .any e=true->S e.on=true
theorem z7r{all:List Oper}{S:Nat->Bool}(hS:Down all S){l1 l2:List En}{e:En}{o:Oper}(ho:all[e.i]?=some o)(hr:∀ed,ed∈o.after.toList->Region.binds .any ed=true->S ed.on=true)(hj:S e.i=false)(hd:py (gM all []) all ((l1++e::l2).map En.tr).reverse=true)(h1:∀q,q∈l1->q.i<e.i)(h2:∀q,q∈l2->e.i<q.i):∀q,q∈l1++e::l2->S q.i≠decide (q.i<e.i)->(∀t,q.op.dst=some t->t∉Hp all e.op)/\(∀id,id∈bW q.u->id∉e.F/\id∉bW e.u):=by
 have he:=Rf (all:=all) all [] [] rfl rfl (fun i a h=>by simp at h);intro q hq hc;rcases zN.1 hq with hq|hq
 ·
  have hk:=h1 q hq;have hg:S q.i=false:=by
   cases hs:S q.i with
   |false=>rfl
   |true=>rw[hs] at hc;simp[hk] at hc
  have hp:A0 (gM all []) all q.tr e.tr=true:=by
   refine Ns (l2.map En.tr).reverse (l1.map En.tr).reverse e.tr ?_ q.tr ?_
   ·rw[zT,zJ,List.reverse_append,List.reverse_cons,zo] at hd;exact hd
   ·exact List.mem_reverse.2 (List.mem_map_of_mem hq)
  unfold A0 at hp;rw[Bool.or_eq_true] at hp;rcases hp with hp|hp
  ·have:=qy3 hS ho hr (he _ _ hp);have this:S q.i=true:=this;rw[hg] at this;cases this
  ·unfold Mx at hp;simp only[ze] at hp;obtain⟨⟨⟨a1,_⟩,a3⟩,_⟩:=hp;exact⟨fun t ht hm=>Ri a1 t ht (List.mem_append_left _ hm),fun id hf=>⟨fun h=>JK a3 id hf (List.mem_append_left _ h),fun h=>JK a3 id hf (List.mem_append_right _ h)⟩⟩
 ·rcases zw.1 hq with hq|hq
  ·subst hq;rw[hj] at hc;simp at hc
  ·
   have hk:=h2 q hq;have hg:S q.i=true:=by
    cases hs:S q.i with
    |true=>rfl
    |false=>rw[hs] at hc;simp at hc;omega
   have hp:A0 (gM all []) all e.tr q.tr=true:=by
    obtain⟨m1,m2,rfl⟩:=List.append_of_mem hq;refine Ns (m2.map En.tr).reverse ((l1++e::m1).map En.tr).reverse q.tr ?_ e.tr ?_
    ·have e1:l1++e::(m1++q::m2)=(l1++e::m1)++q::m2:=by simp
     rw[e1,zT,zJ,List.reverse_append,List.reverse_cons,zo] at hd;exact hd
    ·exact List.mem_reverse.2 (List.mem_map_of_mem (List.mem_append_right _ (zf ..)))
   unfold A0 at hp;rw[Bool.or_eq_true] at hp;rcases hp with hp|hp
   ·have:=Rg hS (he _ _ hp) hg;have this:S e.i=true:=this;rw[hj] at this;cases this
   ·unfold Mx at hp;simp only[ze] at hp;obtain⟨⟨⟨_,a2⟩,a3⟩,a4⟩:=hp;exact⟨fun t ht hm=>Ri a2 t ht hm,fun id hf=>⟨fun h=>JK a4 id hf h,fun h=>JK a3 id h (List.mem_append_right _ hf)⟩⟩
theorem Rj{S:Nat->Bool}:∀(l:List En) (st:St),(∀q,q∈l->S q.i=false)->fh S l st=st
 |[],_,_=>rfl
 |q::l,st,h=>by show fh S l (bif S q.i then q.app st else st)=st;rw[h q (zf ..)];exact Rj l st fun p hp=>h p (zh _ hp)
theorem Rk{S:Nat->Bool}:∀(l:List En) (st:St),(∀q,q∈l->S q.i=true)->fh S l st=kQ l st
 |[],_,_=>rfl
 |q::l,st,h=>by show fh S l (bif S q.i then q.app st else st)=kQ l (q.app st);rw[h q (zf ..)];exact Rk l _ fun p hp=>h p (zh _ hp)
theorem zcd{all:List Oper}{S:Nat->Bool}(hS:Down all S){l1 l2:List En}{e:En}{o:Oper}(ho:all[e.i]?=some o)(hr:∀ed,ed∈o.after.toList->Region.binds .any ed=true->S ed.on=true)(hj:S e.i=false)(hd:py (gM all []) all ((l1++e::l2).map En.tr).reverse=true)(h1:∀q,q∈l1->q.i<e.i)(h2:∀q,q∈l2->e.i<q.i)(st:St):(∀t,t∈Hp all e.op->(fh S (l1++e::l2) st).env t=(kQ l1 st).env t)/\(∀id,(id∈e.F\/id∈bW e.u)->(fh S (l1++e::l2) st).obj id=(kQ l1 st).obj id):=by
 have hg:=z7r hS ho hr hj hd h1 h2;have hc:fh (fun i=>decide (i<e.i)) (l1++e::l2) st=kQ l1 st:=by
  rw[Nr,Rk l1 st (fun q hq=>by simpa using h1 q hq)];refine Rj _ _ fun q hq=>?_;rcases zw.1 hq with hq|hq
  ·subst hq;simp
  ·have:=h2 q hq;simp;omega
 refine⟨fun t ht=>?_,fun id hl=>?_⟩
 ·rw[<-hc];exact ZJ _ _ _ rfl fun q hq he hf=>(hg q hq he).1 t hf ht
 ·rw[<-hc];refine ZK _ _ _ rfl fun q hq he hk=>?_;obtain⟨g1,g2⟩:=(hg q hq he).2 id hk;exact hl.elim g1 g2
theorem ZL{o:Nat->Obj}:∀(F l:List Nat),vY o F l=true->∀id,id∈l->∀j,j∈vX (o id)->j∈F
 |F,x::r,h,id,hi,j,hj=>by
  simp only[vY,ze] at h;have key:∀(l m:List Nat),z20 l m=true->∀q,q∈l->q∈m:=by
   intro l m
   induction l with
   |nil=>intro _ q hq;cases hq
   |cons y l ih=>
    intro h q hq;simp only[z20,ze] at h;rcases zw.1 hq with hq|hq
    ·subst hq;exact cS.1 h.1
    ·exact ih h.2 q hq
  rcases zw.1 hi with hi|hi
  ·subst hi;exact key _ _ h.1 j hj
  ·exact ZL F r h.2 id hi j hj
theorem qy6(o:Nat->Obj):∀(n:Nat) (l:List Nat) (x:Nat),x∈l->x∈Mw o n l
 |0,_,_,h=>h
 |_+1,_,_,h=>List.mem_append_left _ h
theorem ZM:∀{l:List V} {v:V} {id:Nat},v∈l->id∈fe v->id∈ij l
 |x::l,v,id,hv,hi=>by
  unfold ij;rcases zw.1 hv with rfl|hv
  ·exact List.mem_append_left _ hi
  ·exact List.mem_append_right _ (ZM hv hi)
theorem Rl:∀{l:List Operand} {t:Nat},t∈jX l->Operand.tmp t∈l
 |x::r,t,h=>by
  cases x<;>simp only[jX] at h<;>try exact zh _ (Rl h)
  rcases zw.1 h with h|h
  ·subst h;exact zf ..
  ·exact zh _ (Rl h)
theorem qo9{C:Cx}{nt:Nat}{X:Nat->Prop}{φ:Nat->Addr}{st:St}{a:Act}{w:World}(hR:Rel C nt X φ st a w){kn:List (Nat×Bool)}{ops:List Operand}(hk:∀d b,d∈jX ops->q8 d kn=some b->st.env d=.d .bool b){F:List Nat}(hF:∀id,id∈ij (ops.map (cv C st.env))->id∈F)(hm:MRel C (Xr X φ st.obj F) φ (ek st.obj F) w):∀x,aq φ (ek st.obj F) (ah (Xr X φ st.obj F) φ (ek st.obj F) w) w (cv C (gy st.env kn (jX ops)) x) (a.eval x):=by
 intro x;cases x with
 |tmp t=>
  show aq φ _ _ w (eg (gy st.env kn (jX ops) t)) (a.tmps.getD t undef);unfold gy;cases hh:bJ t (jX ops) with
  |false=>trivial
  |true=>
   rw[cond_true];have ht:=cS.1 hh;split
   ·rename_i b hb;have hz:=hR.env t;rw[hk t b ht hb] at hz;have:=oX hz;rw[this];exact Ai
   ·exact qhc (fun id hi=>hF id (ZM (List.mem_map_of_mem (Rl ht)) hi)) (I6 (hR.env t))
 |const v=>exact P0 v
 |global g=>
  simp only[cv,Act.eval];split
  ·rename_i e;exact hm.fk _ _ _ e
  ·trivial
 |func f=>
  simp only[Ev.cv];cases h:Nat.blt f 1048576 with
  |false=>simp[aq]
  |true=>exact⟨#[],(ME (zB h) #[]).symm,rfl⟩
section
variable {C:Cx} {R:iX C.sigs} {nt:Nat}
theorem qj8(hC:cD C)(hE:kP C)(HC:∀X φ o w,MRel C X φ o w->∀fr f,Bb C R X φ o w fr f){X:Nat->Prop}{φ:Nat->Addr}{st:St}{a:Act}{w:World}(hR:Rel C nt X φ st a w){o:Oper}{kn:List (Nat×Bool)}{F:List Nat}{fr:Nat}(hf:∀d b,d∈jX o.op.operands.toList->q8 d kn=some b->st.env d=.d .bool b)(hF:∀id,id∈ij (o.op.operands.toList.map (cv C st.env))->id∈F)(hk:vY st.obj F F=true){v:V}{u:List (Nat×Obj)}(hg:(dE lf C R (gy st.env kn (jX o.op.operands.toList)) (ek st.obj F) fr o.type o.op).aE v u)(he:∀id,id∈bW u->id∉F->st.obj id=.none)(hn:kO fr (ek st.obj F) u){K:Act->World->Prop}{Q:Exit->Act->World->Prop}(hK:∀val w' φ',Comes C X φ φ' st.obj u w w' v val->K (a.put o.dst val) w'):o.wp C.P a w K Q:=by have hm:=hR.toMRel.restrict (F:=F) (fun id hi j hj=>ZL F F hk id hi j hj);have hl:=QF hC hE hm (qo9 hR hf hF hm) (HC _ _ _ _ hm fr) hg hn;exact hl.upon fun val w' φ' hc=>by obtain⟨gN,h⟩:=hc.rk hR.toMRel he;exact hK val w' gN h
end
theorem ZN{o o':Nat->Obj}(F:List Nat):∀(l:List Nat),(∀id,id∈l->o id=o' id)->vY o F l=vY o' F l
 |[],_=>rfl
 |x::l,h=>by simp only[vY];rw[h x (zf ..),ZN F l fun id hi=>h id (zh _ hi)]
theorem ZO:∀{u:List (Nat×Obj)} {id:Nat},id∈bW u->∃p,p∈u/\p.1=id
 |p::r,id,h=>by
  rcases zw.1 h with h|h
  ·exact⟨p,zf ..,h.symm⟩
  ·obtain⟨q,h1,h2⟩:=ZO h;exact⟨q,zh _ h1,h2⟩
theorem ZP{F:List Nat}{fr:Nat}:∀{l:List Nat},Ej F fr l=true->∀id,id∈l->id∈F\/(fr<=id/\id<fr+16)
 |[],_,id,h=>by cases h
 |x::l,hk,id,h=>by
  simp only[Ej,ze,Bool.or_eq_true] at hk;rcases zw.1 h with h|h
  ·subst h;exact hk.1.imp cS.1 fun h=>⟨zB h.1,zB h.2⟩
  ·exact ZP hk.2 id h
section
variable {C:Cx} {R:iX C.sigs} {nt:Nat}
theorem qoa{st:St}{o:Oper}(h:A1 o.op=false):oU C st o=Mw st.obj 4 (ij (o.op.operands.toList.map (cv C st.env))):=by unfold oU;split<;>first|rfl|(rename_i e;rw[e] at h;cases h)
theorem qy7{o:Nat->Obj}{F:List Nat}{v:V}(h:sure (ek o F) v=true)(hF:∀id,id∈fe v->id∈F):sure o v=true:=by
 cases v<;>simp only[sure] at h ⊢<;>try exact h
 rename_i id off;rw[ml (hF id (by simp[fe]))] at h;exact h
theorem qv9{o:Nat->Obj}{F:List Nat}{v v':V}{u:List (Nat×Obj)}(h:(Ho (ek o F) v).aE v' u)(hF:∀id,id∈fe v->id∈F):(Ho o v).aE v' u:=by
 unfold Ho at h ⊢;split at h
 ·rw[dU] at h ⊢;exact⟨qy7 h.1 hF,h.2⟩
 ·exact h
 ·rename_i id ver i path;rw[ml (hF id (by simp[fe]))] at h;exact h
 ·exact h
 ·cases h
theorem qfn{o:Nat->Obj}{F:List Nat}{t:TypeId}{v v':V}{f:Nat}{u:List (Nat×Obj)}(h:(Hn C (ek o F) t v f).aE v' u)(hF:∀id,id∈fe v->id∈F):(Hn C o t v f).aE v' u:=by
 unfold Hn at h ⊢;cases hc:IG C.P t f with
 |none=>rw[hc] at h;cases h
 |some fd=>
  rw[hc] at h;simp only at h ⊢;cases hk:tH C.P fd.type with
  |none=>rw[hk] at h;cases h
  |some p=>
   rw[hk] at h;simp only at h ⊢;rw[dU] at h ⊢;refine⟨h.1,?_⟩;replace h:=h.2;cases v<;>try exact h
   ·rename_i id off;simp only at h ⊢;rw[ml (hF id (by simp[fe]))] at h;exact h
   ·rename_i id ver i path;simp only at h ⊢;rw[ml (hF id (by simp[fe]))] at h;exact h
theorem qqs{st:St}{kn:List (Nat×Bool)}{o:Oper}{fr:Nat}(hl:A1 o.op=true)(he:∀d b,d∈jX o.op.operands.toList->q8 d kn=some b->st.env d=.d .bool b){F:List Nat}(hF:F=oU C st o){v:V}{u:List (Nat×Obj)}(hg:(dE lf C R (gy st.env kn (jX o.op.operands.toList)) (ek st.obj F) fr o.type o.op).aE v u):(dE lf C R st.env st.obj fr o.type o.op).aE v u:=by
 have hc:∀x,x∈o.op.operands.toList->cv C (gy st.env kn (jX o.op.operands.toList)) x=cv C st.env x:=by
  intro x hx;cases x with
  |tmp t=>
   have ht:t∈jX o.op.operands.toList:=by
    revert hx;generalize o.op.operands.toList=l;intro hx
    induction l with
    |nil=>cases hx
    |cons y r ih=>
     rcases zw.1 hx with h|h
     ·subst h;exact zf ..
     ·cases y<;>first|exact ih h|exact zh _ (ih h)
   show eg (gy st.env kn _ t)=eg (st.env t);unfold gy;rw[cS.2 ht,cond_true];split
   ·rename_i b hb;rw[he t b ht hb];rfl
   ·rfl
  |_=>rfl
 obtain⟨i,op,ty,pos,after,guard⟩:=o;cases op<;>simp only[A1] at hl<;>try (cases hl;done)
 ·rename_i x;simp only[dE] at hg ⊢;rw[hc x (by simp[Op.operands])] at hg;exact hg
 ·rename_i x;simp only[dE] at hg ⊢;rw[hc x (by simp[Op.operands])] at hg;exact hg
 ·rename_i x;simp only[dE] at hg ⊢;rw[hc x (by simp[Op.operands])] at hg;exact qv9 hg (fun id h=>by rw[hF];exact h)
 ·rename_i t x f;simp only[dE] at hg ⊢;rw[hc x (by simp[Op.operands])] at hg;exact qfn hg (fun id h=>by rw[hF];exact h)
theorem qy8(hC:cD C)(hE:kP C)(HC:∀X φ o w,MRel C X φ o w->∀fr f,Bb C R X φ o w fr f){ops:Array Oper}{rg:Nat}{X:Nat->Prop}{φ:Nat->Addr}{st0:St}{S:Nat->Bool}{l1 l2:List En}{e:En}{a:Act}{w:World}(ho:ops.toList[e.i]?=some e.op)(hS:Down ops.toList S)(hr:∀ed,ed∈e.op.after.toList->Region.binds .any ed=true->S ed.on=true)(hB:S e.i=false)(hd:py (gM ops.toList []) ops.toList ((l1++e::l2).map En.tr).reverse=true)(h1:∀q,q∈l1->q.i<e.i)(h2:∀q,q∈l2->e.i<q.i)(hD:Ej e.F (jW rg e.i) (bW e.u)=true)(hG:wi C R rg ops.toList (kQ l1 st0) e)(hq:jJ (kQ l1 st0) e.kn)(hR:Rel C nt X φ (fh S (l1++e::l2) st0) a w){K:Act->World->Prop}{Q:Exit->Act->World->Prop}(hK:∀z w' φ',Comes C X φ φ' (fh S (l1++e::l2) st0).obj e.u w w' e.v z->K (a.put e.op.dst z) w'):wpOp C.P ops Q e.i K a w:=by
 obtain⟨Rm,Rn⟩:=zcd hS ho hr hB hd h1 h2 st0;generalize fh S (l1++e::l2) st0=st at*
 have hH:ops[e.i]?=some e.op:=by rw[<-zL];exact ho
 have Du:∀j want oj dj,e.op.guard=some (j,want)->ops.toList[j]?=some oj->oj.dst=some dj->dj∈Hp ops.toList e.op:=fun j want oj dj g1 g2 g3=>by unfold Hp;refine List.mem_append_right _ ?_;rw[g1];simp only;rw[g2];simp only;rw[g3];exact zf ..
 unfold wpOp;simp only[hH];rcases hG with ⟨_,⟨j,want,oj,dj,g1,g2,g3,g4⟩,hv,hu,_⟩|⟨_,hw,hF,hA,hg,hf⟩
 ·have hz:=hR.env dj;rw[Rm dj (Du j want oj dj g1 g2 g3)] at hz;have hy:Region.wanted e.op (yielded ops a.tmps)=false:=by
   unfold Region.wanted;rw[g1];simp only;rcases g4 with ⟨b,hb,hI⟩|hJ
   ·rw[hq dj b hb] at hz;rw[QZ g2 g3 (oX hz)];cases b<;>cases want<;>first|rfl|exact absurd rfl hI
   ·rw[hJ] at hz;rw[Zl g2 g3 hz];rfl
  rw[if_neg (by rw[hy];simp)];exact hK undef w φ (by rw[hu,hv];exact .same hR.toMRel rfl)
 ·have hy:Region.wanted e.op (yielded ops a.tmps)=true:=by
   unfold Region.wanted;rcases hw with hw|⟨j,want,oj,dj,g1,g2,g3,g4⟩
   ·rw[hw]
   ·have hz:=hR.env dj;rw[Rm dj (Du j want oj dj g1 g2 g3),hq dj want g4] at hz;rw[g1];simp only;rw[QZ g2 g3 (oX hz)];simp
  rw[if_pos hy];have lt:∀t,t∈jX e.op.op.operands.toList->st.env t=(kQ l1 st0).env t:=fun t ht=>Rm t (List.mem_append_left _ ht);have hn:e.op.op.operands.toList.map (cv C st.env)=e.op.op.operands.toList.map (cv C (kQ l1 st0).env):=by
   apply ja;intro x hx;cases x with
   |tmp t=>
    have ht:t∈jX e.op.op.operands.toList:=by
     revert hx;generalize e.op.op.operands.toList=l;intro hx
     induction l with
     |nil=>cases hx
     |cons y r ih=>
      rcases zw.1 hx with h|h
      ·subst h;exact zf ..
      ·cases y<;>first|exact ih h|exact zh _ (ih h)
    show eg (st.env t)=eg ((kQ l1 st0).env t);rw[lt t ht]
   |_=>rfl
  have hj:∀id,id∈e.F->st.obj id=(kQ l1 st0).obj id:=fun id h=>Rn id (.inl h);have eR:gy st.env e.kn (jX e.op.op.operands.toList)=gy (kQ l1 st0).env e.kn (jX e.op.op.operands.toList):=funext fun t=>by
   unfold gy;cases hh:bJ t (jX e.op.op.operands.toList) with
   |false=>rfl
   |true=>rw[lt t (cS.1 hh)]
  have oR:ek st.obj e.F=ek (kQ l1 st0).obj e.F:=funext fun id=>by
   by_cases h:id∈e.F
   ·rw[ml h,ml h,hj id h]
   ·rw[tT h,tT h]
  cases hk:A1 e.op.op with
  |true=>
   have hL:e.F=oU C st e.op:=by
    rw[hF];unfold oU;have one:∀x,x∈e.op.op.operands.toList->cv C st.env x=cv C (kQ l1 st0).env x:=fun x hx=>by have:=List.map_inj_left.1 hn x hx;exact this
    split
    ·rfl
    ·rfl
    ·rename_i x ex;rw[one x (by rw[ex];simp[Op.operands])]
    ·rename_i t x f ex;rw[one x (by rw[ex];simp[Op.operands])]
    ·rename_i h1 h2 h3 h4;exfalso;cases he:e.op.op<;>rw[he] at hk<;>simp only[A1] at hk<;>first|(cases hk;done)|exact h1 _ he|exact h2 _ he|exact h3 _ he|exact h4 _ _ _ he
   have hM:=qqs (fr:=jW rg e.i) hk (fun d b hs hb=>by rw[lt d hs];exact hq d b hb) hL (by rw[eR,oR];exact hg);have hN:kO (jW rg e.i) st.obj e.u:=fun p hp h3 h4=>by rw[Rn p.1 (.inr (MW hp))];exact hf p hp h3 h4
   have hl:=QF hC hE hR.toMRel (fun x=>hR.cv x) (HC _ _ _ _ hR.toMRel (jW rg e.i)) hM hN;exact .inl (hl.upon fun val w' φ' hc=>hK val w' φ' hc)
  |false=>
  rw[hk,Bool.false_or] at hA;rw[qoa hk] at hF;refine .inl (qj8 hC hE HC hR ?_ ?_ ?_ (by rw[eR,oR];exact hg) ?_ ?_ hK)
  ·intro d b hs hb;rw[lt d hs];exact hq d b hb
  ·intro id hm;rw[hn] at hm;rw[hF];exact qy6 _ _ _ _ hm
  ·rw[ZN e.F e.F (fun id h=>hj id h)];exact hA
  ·intro id hm hO;rw[Rn id (.inr hm)];obtain⟨p,hp,rfl⟩:=ZO hm;rcases ZP hD p.1 hm with h|⟨h3,h4⟩
   ·exact absurd h hO
   ·exact hf p hp h3 h4
  ·intro p hp h3 h4;by_cases h:p.1∈e.F
   ·rw[ml h,hj _ h];exact hf p hp h3 h4
   ·exact tT h
end
section
variable {C:Cx} {R:iX C.sigs} {nt:Nat}
theorem Rel.drawn{X:Nat->Prop}{φ:Nat->Addr}{st:St}{a:Act}{w:World}(h:Rel C nt X φ st a w):Rel C nt X φ st a {w with drawn:=w.drawn+1}:=by have hw:({w with drawn:=w.drawn+1}:World).heap=w.heap:=rfl;generalize ({w with drawn:=w.drawn+1}:World)=w' at hw;have hc:∀b,ah X φ st.obj w b->ah X φ st.obj w' b:=fun b hb=>⟨by rw[hw];exact hb.1,hb.2⟩;have keeps:∀x z,aq φ st.obj (ah X φ st.obj w) w x z->aq φ st.obj (ah X φ st.obj w') w' x z:=fun x z hx=>vj hc (fun _ _=>by rw[hw]) (fun _=>Up.same fun _ n hr=>A5 (by rw[hw]) hr) x z hx;exact⟨⟨fun id=>Ew hc (fun _ _=>by rw[hw]) keeps rfl (fun _=>by rw[hw]) (h.ay id),h.inj,(fun i hi=>by rw[hw];exact h.sep i hi),(fun b hb=>by rw[hw];exact h.xs b hb),(fun id=>h.toMRel.jI id (fun _=>.same (by rw[hw])) (fun _ _=>by rw[hw])),fun g t x hg=>keeps _ _ (h.fk g t x hg),h.toMRel.ni (fun _ _=>by rw[hw])⟩,h.size,fun t=>keeps _ _ (h.env t),h.defers⟩
theorem ZQ{rg:Nat}{all:List Oper}:∀(l1:List En) (i:Nat) (st:St) (e:En) (l2:List En),Bg C R rg all i st (l1++e::l2)->e.i=i+l1.length/\wi C R rg all (kQ l1 st) e/\jJ (kQ l1 st) e.kn/\(∀q,q∈l1->q.i<i+l1.length)/\(∀q,q∈l2->i+l1.length<q.i)
 |[],i,st,e,l2,h=>by
  obtain⟨h1,h2,h3,_,h5⟩:=h;refine⟨h1,h2,h3,(fun q hq=>by cases hq),?_⟩;have key:∀(l:List En) (j:Nat) (s:St),Bg C R rg all j s l->∀q,q∈l->j<=q.i:=by
   intro l
   induction l with
   |nil=>intro _ _ _ q hq;cases hq
   |cons p l ih=>
    intro j s hr q hq;obtain⟨g1,_,_,_,g5⟩:=hr;rcases zw.1 hq with hq|hq
    ·subst hq;omega
    ·have:=ih (j+1) _ g5 q hq;omega
  intro q hq;have:=key l2 (i+1) _ h5 q hq;simp only[List.length_nil];omega
 |p::l1,i,st,e,l2,h=>by
  obtain⟨h1,_,_,_,h5⟩:=h;obtain⟨g1,g2,g3,g4,g5⟩:=ZQ l1 (i+1) (p.app st) e l2 h5;simp only[zj];refine⟨by omega,g2,g3,fun q hq=>?_,fun q hq=>?_⟩
  ·rcases zw.1 hq with hq|hq
   ·subst hq;omega
   ·have:=g4 q hq;omega
  ·have:=g5 q hq;omega
theorem ZR{rg:Nat}:∀{l:List Tr},vh rg l=true->∀t,t∈l->Hq t.i t.op.after.toList=true/\Ej t.rd (jW rg t.i) t.wr=true
 |[],_,t,h=>by cases h
 |x::l,hk,t,h=>by
  simp only[vh,ze] at hk;rcases zw.1 h with h|h
  ·subst h;exact hk.1
  ·exact ZR hk.2 t h
theorem ZS{i:Nat}:∀{l:List Edge},Hq i l=true->∀e,e∈l->Region.binds .any e=true->e.on<i
 |[],_,e,h=>by cases h
 |x::l,hk,e,h=>by
  intro hb;simp only[Hq,ze,Bool.or_eq_true] at hk;rcases zw.1 h with h|h
  ·subst h;rw[hb] at hk;exact zB (hk.1.resolve_left (by simp))
  ·exact ZS hk.2 e h hb
def kp(listed:Array Bool)(i:Nat):Bool:=listed.getD i false
theorem Ro{ops:Array Oper}{listed:Array Bool}(hs:listed.size=ops.size){i:Nat}:i∈Region.ready .any ops listed↔∃o,ops[i]?=some o/\kp listed i=false/\∀e,e∈o.after.toList->Region.binds .any e=true->kp listed e.on=true:=by
 unfold Region.ready;rw[List.mem_filter,List.mem_range,ze];constructor
 ·rintro⟨h1,h2,h3⟩;have ho:ops[i]?=some ops[i]:=Array.getElem?_eq_getElem h1;refine⟨ops[i],ho,?_,?_⟩
  ·unfold kp;have hl:i<listed.size:=om
   simp only[Array.getD,hl,dif_pos] at h2 ⊢;simpa using h2
  ·rw[ho] at h3;simp only[Option.map_some,Option.getD_some] at h3;rw[<-Array.all_toList,zU] at h3;intro e he hb;have:=h3 e he;rw[hb] at this;simpa[kp] using this
 ·rintro⟨o,ho,h2,h3⟩;have h1:i<ops.size:=by
   rcases Nat.lt_or_ge i ops.size with h|h
   ·exact h
   ·rw[zX h] at ho;cases ho
  refine⟨h1,?_,?_⟩
  ·unfold kp at h2;have hl:i<listed.size:=om
   simp only[Array.getD,hl,dif_pos] at h2 ⊢;simpa using h2
  ·rw[ho];simp only[Option.map_some,Option.getD_some];rw[<-Array.all_toList,zU];intro e he;cases hb:Region.binds .any e with
   |false=>rfl
   |true=>have:=h3 e he hb;simpa[kp] using this
theorem z7s{listed:Array Bool}{i j:Nat}(hi:i<listed.size):kp (listed.setIfInBounds i true) j=(decide (i=j)||kp listed j):=by
 unfold kp;simp only[Array.getD_eq_getD_getElem?,Array.getElem?_setIfInBounds];by_cases h:i=j
 ·subst h;simp[hi]
 ·simp[h]
def ET(listed:Array Bool):Nat:=listed.toList.countP (fun b=>!b)
theorem ZT:∀(l:List Bool) (i:Nat),l[i]?=some false->(l.set i true).countP (fun b=>!b)+1=l.countP (fun b=>!b)
 |[],_,h=>by simp at h
 |b::l,0,h=>by simp at h;subst h;simp
 |b::l,i+1,h=>by have:=ZT l i (by simpa using h);simp only[List.set_cons_succ,List.countP_cons];omega
theorem z7t{listed:Array Bool}{i:Nat}(hi:i<listed.size)(h:kp listed i=false):ET (listed.setIfInBounds i true)+1=ET listed:=by unfold ET;rw[Array.toList_setIfInBounds];refine ZT _ _ ?_;unfold kp at h;simp only[Array.getD,hi,dif_pos] at h;rw[zL,Array.getElem?_eq_getElem hi];exact congrArg some h
theorem qva{listed:Array Bool}(h:ET listed=0){i:Nat}(hi:i<listed.size):kp listed i=true:=by unfold ET at h;rw[List.countP_eq_zero] at h;unfold kp;simp only[Array.getD,hi,dif_pos];have:=h listed[i] (by simp);simpa using this
theorem qvb{ops:Array Oper}{listed:Array Bool}(hs:listed.size=ops.size)(hb:∀i o,ops[i]?=some o->∀e,e∈o.after.toList->Region.binds .any e=true->e.on<i)(h:Region.ready .any ops listed=[]):∀i,i<ops.size->kp listed i=true:=by
 intro i
 induction i using Nat.strongRecOn with
 |_ i ih=>
  intro hi;cases hl:kp listed i with
  |true=>rfl
  |false=>exfalso;have ho:ops[i]?=some ops[i]:=Array.getElem?_eq_getElem hi;have:i∈Region.ready .any ops listed:=(Ro hs).2 ⟨_,ho,hl,fun e he hc=>by have:=hb i _ ho e he hc;exact ih _ this om⟩;rw[h] at this;cases this
end
theorem za3{all:List Oper}{S:Nat->Bool}(hS:Down all S){l1 l2:List En}{e:En}(he:S e.i=false)(hd:py (gM all []) all ((l1++e::l2).map En.tr).reverse=true):∀q,q∈l2->S q.i=true->(∀d,e.op.dst=some d->q.op.dst≠some d)/\∀id,id∈bW e.u->id∉bW q.u:=by
 have hc:=Rf (all:=all) all [] [] rfl rfl (fun i a h=>by simp at h);intro q hq hf;have hp:A0 (gM all []) all e.tr q.tr=true:=by
  obtain⟨m1,m2,rfl⟩:=List.append_of_mem hq;refine Ns (m2.map En.tr).reverse ((l1++e::m1).map En.tr).reverse q.tr ?_ e.tr ?_
  ·have e1:l1++e::(m1++q::m2)=(l1++e::m1)++q::m2:=by simp
   rw[e1,zT,zJ,List.reverse_append,List.reverse_cons,zo] at hd;exact hd
  ·exact List.mem_reverse.2 (List.mem_map_of_mem (List.mem_append_right _ (zf ..)))
 unfold A0 at hp;rw[Bool.or_eq_true] at hp;rcases hp with hp|hp
 ·have:=Rg hS (hc _ _ hp) hf;have this:S e.i=true:=this;rw[he] at this;cases this
 ·unfold Mx at hp;simp only[ze] at hp;obtain⟨⟨⟨a1,_⟩,a3⟩,_⟩:=hp;refine⟨fun d hd hq=>?_,fun id h1 h2=>JK a3 id h1 (List.mem_append_right _ h2)⟩;refine Ri a1 d hd (List.mem_append_right _ ?_);have hq:q.tr.op.dst=some d:=hq;rw[hq];exact zf ..
section
variable {C:Cx} {R:iX C.sigs} {nt:Nat} {eI:Nat→Addr} {o0:Nat→Obj} {w0:World} {sk:List Nat}
theorem z2v(hC:cD C)(hE:kP C)(HC:∀X φ o w,MRel C X φ o w->∀fr f,Bb C R X φ o w fr f){ops:Array Oper}{rg:Nat}{X:Nat->Prop}{Q:Exit->Act->World->Prop}{st0:St}{es:List En}(hz:es.map (·.op)=ops.toList)(ht:Bg C R rg ops.toList 0 st0 es)(hd:py (gM ops.toList []) ops.toList (es.map En.tr).reverse=true)(hk:vh rg (es.map En.tr).reverse=true)(hv:qZ nt ops.toList=true)(fin:Sound C nt X (HJ sk eI o0 w0) (kQ es st0) (Q .normal)):∀(fuel:Nat) (listed:Array Bool) (X':Nat->Prop) (φ:Nat->Addr) (a:Act) (w:World),listed.size=ops.size->ET listed<=fuel->Down ops.toList (kp listed)->(∀b,X b->X' b)->Rel C nt X' φ (fh (kp listed) es st0) a w->dV sk eI o0 w0 φ (fh (kp listed) es st0).obj w->wpAny C.P .any ops Q fuel listed a w:=by
 have hw:es.length=ops.size:=by rw[<-zO (f:=(·.op)),hz,Array.length_toList]
 have split:∀i,i<es.length->∃l1 e l2,es=l1++e::l2/\l1.length=i/\e.i=i/\ops.toList[i]?=some e.op/\wi C R rg ops.toList (kQ l1 st0) e/\jJ (kQ l1 st0) e.kn/\(∀q,q∈l1->q.i<i)/\(∀q,q∈l2->i<q.i):=by
  intro i hi;refine⟨es.take i,es[i],es.drop (i+1),?_,?_,?_⟩
  ·rw[<-List.drop_eq_getElem_cons hi,List.take_append_drop]
  ·rw[zQ];omega
  ·have e1:es=es.take i++es[i]::es.drop (i+1):=by rw[<-List.drop_eq_getElem_cons hi,List.take_append_drop]
   have hr:=ht;rw[e1] at hr;obtain⟨g1,g2,g3,g4,g5⟩:=ZQ _ _ _ _ _ hr;have e2:(es.take i).length=i:=by rw[zQ];omega
   rw[e2] at g1 g4 g5;refine⟨by omega,?_,g2,g3,fun q hq=>by have:=g4 q hq;omega,fun q hq=>by have:=g5 q hq;omega⟩;rw[<-hz,zY,zg hi];rfl
 have ZU:∀e,e∈es->Hq e.i e.op.after.toList=true/\Ej e.F (jW rg e.i) (bW e.u)=true:=fun e he=>ZR hk e.tr (List.mem_reverse.2 (List.mem_map_of_mem he));have back:∀i o,ops[i]?=some o->∀e,e∈o.after.toList->Region.binds .any e=true->e.on<i:=by
  intro i o ho ed he hb;have hi:i<es.length:=by
   rw[hw];rcases Nat.lt_or_ge i ops.size with h|h
   ·exact h
   ·rw[zX h] at ho;cases ho
  obtain⟨l1,e,l2,h1,_,h2,h3,_⟩:=split i hi;rw[zL,ho] at h3;injection h3 with h3;have:=(ZU e (by rw[h1];exact List.mem_append_right _ (zf ..))).1;rw[h2] at this;exact ZS this ed (by rw[<-h3];exact he) hb
 have ilt:∀q,q∈es->q.i<ops.size:=by
  intro q hq;obtain⟨i,hi,rfl⟩:=jc.1 hq;obtain⟨l1,e,l2,h1,h0,h2,_⟩:=split i hi;have:es[i]=e:=by
   have:es[i]?=some e:=by rw[h1,zG om,h0,Nat.sub_self];rfl
   rw[zg hi] at this;injection this
  rw[this,h2];omega
 have done:∀(listed:Array Bool) X' φ a w,listed.size=ops.size->(∀b,X b->X' b)->Rel C nt X' φ (fh (kp listed) es st0) a w->dV sk eI o0 w0 φ (fh (kp listed) es st0).obj w->Region.ready .any ops listed=[]->Q .normal a w:=by intro listed X' φ a w hs hX hR hJ hr;have hx:=qvb hs back hr;rw[Rk es st0 fun q hq=>hx _ (ilt q hq)] at hR hJ;exact fin X' φ a w hX hR hJ
 intro fuel
 induction fuel with
 |zero=>
  intro listed X' φ a w hs hu hD hX hR hJ;have hr:Region.ready .any ops listed=[]:=by
   rw[List.eq_nil_iff_forall_not_mem];intro i hi;obtain⟨o,ho,hl,_⟩:=(Ro hs).1 hi;have:i<listed.size:=by
    rcases Nat.lt_or_ge i listed.size with h|h
    ·exact h
    ·rw[zX om] at ho;cases ho
   rw[qva om this] at hl;cases hl
  exact⟨hr,done listed X' φ a w hs hX hR hJ hr⟩
 |succ fuel ih=>
  intro listed X' φ a w hs hu hD hX hR hJ;refine⟨done listed X' φ a w hs hX hR hJ,fun i hi=>?_⟩;obtain⟨o,ho,hl,hf⟩:=(Ro hs).1 hi;have hG:i<ops.size:=by
   rcases Nat.lt_or_ge i ops.size with h|h
   ·exact h
   ·rw[zX h] at ho;cases ho
  obtain⟨l1,e,l2,h1,_,h2,h3,h4,h5,h6,h7⟩:=split i om;have hA:o=e.op:=by rw[zL,ho] at h3;injection h3
  subst h2 hA;have hy:e∈es:=by rw[h1];exact List.mem_append_right _ (zf ..)
  have hB:=(ZU e hy).2;have hF:Jy nt e.op.dst:=Zi hv e.op (zS h3);subst h1;refine qy8 hC hE HC (l1:=l1) (l2:=l2) (st0:=st0) h3 hD hf hl hd h6 h7 hB h4 h5 hR fun z w' φ' hc=>?_;have hg:∀j,kp (listed.setIfInBounds e.i true) j=(decide (e.i=j)||kp listed j):=fun j=>z7s om;have hn:fh (kp (listed.setIfInBounds e.i true)) (l1++e::l2) st0=e.app (fh (kp listed) (l1++e::l2) st0):=by
   refine z2s st0 (fun q hq=>?_) (fun q hq=>?_) hl (by rw[hg];simp) (za3 hD hl hd)
   ·have:=h6 q hq;rw[hg,zn om,Bool.false_or]
   ·have:=h7 q hq;rw[hg,zn om,Bool.false_or]
  refine ih _ X' φ' _ w' (by simpa using hs) ?_ ?_ hX ?_ ?_
  ·have:=z7t (listed:=listed) (i:=e.i) om hl;omega
  ·intro j oj hj hm ed he hb;rw[hg] at hm ⊢;rw[Bool.or_eq_true] at hm ⊢;right;rcases hm with hm|hm
   ·have hm:=zM hm;subst hm;rw[h3] at hj;injection hj with hj;subst hj;exact hf ed he hb
   ·exact hD j oj hj hm ed he hb
  ·rw[hn];exact hR.step hF hc
  ·rw[hn,Dt];exact hJ.step hc
theorem z7u(hC:cD C)(hE:kP C)(hL:Nq C)(hm:C.P.follows .mixedOrders=true):Zp C:=by
 intro R hR nt sk eI o0 w0 rg ops n γ δ X Q wr st k y h hc hk X' φ a w hX he hJ;obtain⟨es,h1,h2,h3,h4⟩:=z7q n 0 ops.toList st [] [] h (fun d b hd=>by cases hd);rw[zt,ze] at h3;refine wp_region_any hm ?_;have hf:∀i,kp (Array.replicate ops.size false) i=false:=fun i=>by unfold kp;rw[Array.getD_eq_getD_getElem?,Array.getElem?_replicate];split<;>rfl
 have hg:fh (kp (Array.replicate ops.size false)) es st=st:=Rj es st fun q _=>hf _;refine z2v hC hE (hL R hR) h1 h2 h3.1 h3.2 hc (hk _ h4) ops.size _ X' φ a _ (by simp) ?_ ?_ hX ?_ ?_
 ·unfold ET;exact Nat.le_trans List.countP_le_length (by simp)
 ·intro i o _ hs;rw[hf] at hs;cases hs
 ·rw[hg];exact he.drawn
 ·rw[hg];exact⟨hJ.size,hJ.frame,hJ.news,hJ.still,hJ.up⟩
end
end Ev