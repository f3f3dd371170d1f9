/- Regions that draw their order are sound. No statement of its own about the program. -/
import Derived.Test.YtidhnphmmajobaaGreatDoorEvG
namespace Ev
open Go
structure En where
 i:Nat
 op:Oper
 sk:Bool
 kn:List (Nat×Bool)
 F:List Nat
 v:V
 u:List (Nat×Obj)
def En.app (e:En) (st:St):St:=putO {st with obj:=upds st.obj e.u} e.op.dst e.v
def fam (S:Nat→Bool):List En→St→St
 |[],st=>st
 |e::r,st=>fam S r (bif S e.i then e.app st else st)
theorem St.ext' {a b:St} (h1:∀t,a.env t=b.env t) (h2:∀id,a.obj id=b.obj id):a=b:=by
 obtain ⟨e,o⟩:=a;obtain ⟨e',o'⟩:=b;have:e=e':=funext h1;have:o=o':=funext h2
 subst_vars;rfl
theorem q7o (e:En) (st:St):(e.app st).obj=upds st.obj e.u:=by unfold En.app putO;cases e.op.dst<;>rfl
theorem q57 (e:En) (st:St) (t:Nat):(e.op.dst=some t∧(e.app st).env t=e.v)∨(e.op.dst≠some t∧(e.app st).env t=st.env t):=by
 unfold En.app putO;cases h:e.op.dst with
 |none=>exact .inr ⟨by simp,rfl⟩
 |some d=>
  by_cases ht:t=d
  ·subst ht;exact .inl ⟨rfl,q0g⟩
  ·exact .inr ⟨fun e=>ht (by injection e with e;exact e.symm),q1c ht⟩
theorem qva {e e':En} (hd:∀d,e.op.dst=some d→e'.op.dst≠some d) (hk:∀id,id∈q0h e.u→id∉q0h e'.u) (st:St):e'.app (e.app st)=e.app (e'.app st):=by
 apply St.ext'
 ·intro t;rcases q57 e' (e.app st) t with ⟨h1,h2⟩|⟨h1,h2⟩
  ·rw [h2];rcases q57 e (e'.app st) t with ⟨h3,h4⟩|⟨h3,h4⟩
   ·exact absurd h1 (hd t h3)
   ·rw [h4];rcases q57 e' st t with ⟨_,h6⟩|⟨h5,_⟩
    ·rw [h6]
    ·exact absurd h1 h5
  ·rw [h2];rcases q57 e (e'.app st) t with ⟨h3,h4⟩|⟨h3,h4⟩
   ·rw [h4];rcases q57 e st t with ⟨_,h6⟩|⟨h5,_⟩
    ·exact h6
    ·exact absurd h3 h5
   ·rw [h4];rcases q57 e st t with ⟨h5,_⟩|⟨_,h6⟩
    ·exact absurd h5 h3
    ·rw [h6];rcases q57 e' st t with ⟨h7,_⟩|⟨_,h8⟩
     ·exact absurd h7 h1
     ·rw [h8]
 ·intro id;rw [q7o,q7o,q7o,q7o];by_cases h1:id∈q0h e.u
  ·rw [q0t (hk id h1),qds (o':=upds st.obj e'.u) h1]
  ·rw [q0t (u:=e.u) (o:=upds st.obj e'.u) h1];by_cases h2:id∈q0h e'.u
   ·exact qds h2
   ·rw [q0t h2,q0t h2,q0t h1]
theorem q8a (S:Nat→Bool):∀(l m:List En) (st:St),fam S (l++m) st=fam S m (fam S l st)
 |[],_,_=>rfl
 |_::l,m,_=>q8a S l m _
theorem qe6 {S S':Nat→Bool}:∀(l:List En) (st:St),(∀e,e∈l→S e.i=S' e.i)→fam S l st=fam S' l st
 |[],_,_=>rfl
 |e::l,st,h=>by show fam S l (bif S e.i then e.app st else st)=fam S' l (bif S' e.i then e.app st else st);rw [h e (zj ..)];exact qe6 l _ fun q hq=>h q (zm _ hq)
theorem qn9 {S:Nat→Bool} {e:En}:∀(l:List En) (st:St),(∀q,q∈l→S q.i=true→(∀d,e.op.dst=some d→q.op.dst≠some d)∧∀id,id∈q0h e.u→id∉q0h q.u)→fam S l (e.app st)=e.app (fam S l st)
 |[],_,_=>rfl
 |q::l,st,h=>by
  show fam S l (bif S q.i then q.app (e.app st) else e.app st)=e.app (fam S l (bif S q.i then q.app st else st));have ih:=fun st=>qn9 (S:=S) (e:=e) l st fun p hp=>h p (zm _ hp);cases hs:S q.i with
  |true=>obtain ⟨h1,h2⟩:=h q (zj ..) hs;show fam S l (q.app (e.app st))=e.app (fam S l (q.app st));rw [qva h1 h2,ih]
  |false=>exact ih st
theorem qvb {S S':Nat→Bool} {e:En} {l m:List En} (st:St) (hl:∀q,q∈l→S q.i=S' q.i) (hm:∀q,q∈m→S q.i=S' q.i) (h1:S e.i=false) (h2:S' e.i=true) (hp:∀q,q∈m→S q.i=true→(∀d,e.op.dst=some d→q.op.dst≠some d)∧∀id,id∈q0h e.u→id∉q0h q.u):fam S' (l++e::m) st=e.app (fam S (l++e::m) st):=by rw [q8a,q8a];show fam S' m (bif S' e.i then e.app (fam S' l st) else fam S' l st)=e.app (fam S m (bif S e.i then e.app (fam S l st) else fam S l st));rw [h1,h2,←qe6 l st hl];show fam S' m (e.app (fam S l st))=e.app (fam S m (fam S l st));rw [←qe6 m _ hm];exact qn9 m _ hp
end Ev

namespace Ev
open Go
section
variable {C:Cx} {R:q1v C.sigs}
def En.tr (e:En):Tr:=⟨e.i,e.op,e.F,q0h e.u⟩
def KnOk (st:St) (kn:List (Nat×Bool)):Prop:=∀d b,q8y d kn=some b→st.env d=.d .bool b
def qx9 (all:List Oper) (st:St) (e:En):Prop:=∃j want oj dj,e.op.guard=some (j,want)∧all[j]?=some oj∧oj.dst=some dj∧((∃b,q8y dj e.kn=some b∧b≠want)∨st.env dj=.undef)
def qxa (all:List Oper) (e:En):Prop:=e.op.guard=none∨∃j want oj dj,e.op.guard=some (j,want)∧all[j]?=some oj∧oj.dst=some dj∧q8y dj e.kn=some want
def EnOk (C:Cx) (R:q1v C.sigs) (rg:Nat) (all:List Oper) (st:St) (e:En):Prop:=
 (e.sk=true∧qx9 all st e∧e.v=.undef∧e.u=[]∧e.F=[])∨
 (e.sk=false∧qxa all e∧e.F=q40 C st e.op∧(qgw e.op.op||q7f st.obj e.F e.F)=true∧
  (opPk lf C R (envR st.env e.kn (q3x e.op.op.operands.toList)) (objR st.obj e.F) (q1f rg e.i) e.op.type e.op.op).gives e.v e.u∧q4q (q1f rg e.i) st.obj e.u)
def qhf (C:Cx) (R:q1v C.sigs) (rg:Nat) (all:List Oper):Nat→St→List En→Prop
 |_,_,[]=>True
 |i,st,e::r=>e.i=i∧EnOk C R rg all st e∧KnOk st e.kn∧qqf e.op.dst e.kn=true∧qhf C R rg all (i+1) (e.app st) r
def q2i:List En→St→St
 |[],st=>st
 |e::r,st=>q2i r (e.app st)
theorem qvc {e:En} {st:St} {kn:List (Nat×Bool)} (h:KnOk st kn) (hn:qqf e.op.dst kn=true):KnOk (e.app st) kn:=by
 intro d b hd;rcases q57 e st d with ⟨h1,_⟩|⟨_,h2⟩
 ·exfalso;rw [h1] at hn;unfold qqf at hn;simp only [hd] at hn;cases hn
 ·rw [h2];exact h d b hd
theorem qp1 {env:Nat→V} {o:Nat→Obj} {fr:Nat} {ty:TypeId} {t:Nat} {y:Bool} (he:env t=.lb y) {v:V} {u:List (Nat×Obj)} (h:(opPk lf C R env o fr ty (.move (.tmp t))).gives v u):v=.d .bool y:=by
 have hv:opd C env (.tmp t)=.d .bool y:=by show unlb (env t)=_;rw [he];rfl
 simp only [opPk,hv,qi2] at h;rw [q0a] at h;exact h.1.symm
theorem qp2 {env:Nat→V} {o:Nat→Obj} {fr:Nat} {ty:TypeId} {t:Nat} {q z:Bool} {a b:Operand} (he:env t=.lb q) (hz:(bif q then a else b)=.const (.bool z)) {v:V} {u:List (Nat×Obj)} (h:(opPk lf C R env o fr ty (.pick (.tmp t) a b)).gives v u):v=.d .bool z:=by
 have hv:opdL C env (.tmp t)=.lb q:=he;simp only [opPk,hv] at h;rw [q0a] at h;rw [←h.1];cases q with
 |true=>rw [cond_true] at hz ⊢;rw [hz];rfl
 |false=>rw [cond_false] at hz ⊢;rw [hz];rfl
theorem qfz {env:Nat→V} {kn:List (Nat×Bool)} {ts:List Nat} {t:Nat} {b:Bool} (ht:hasN t ts=true) (hk:q8y t kn=some b):envR env kn ts t=.lb b:=by unfold envR;rw [ht,cond_true,hk]
theorem qje {st:St} {kn:List (Nat×Bool)} {d:Nat} {z:Bool} (h:KnOk st kn) (hd:st.env d=.d .bool z):KnOk st ((d,z)::kn):=by
 intro t b ht;simp only [q8y] at ht;cases hq:Nat.beq d t with
 |true=>rw [hq,cond_true] at ht;injection ht with ht;have:=zf hq;subst this ht;exact hd
 |false=>rw [hq,cond_false] at ht;exact h t b ht
theorem qjf (t:Nat) (l:List Nat):hasN t (t::l)=true:=by simp [hasN]
theorem qvd {st:St} {kn:List (Nat×Bool)} {o:Oper} {ob:Nat→Obj} {ob':Nat→Obj} {fr:Nat} {v:V} {u:List (Nat×Obj)} (hg:(opPk lf C R (envR st.env kn (q3x o.op.operands.toList)) ob fr o.type o.op).gives v u) (h:KnOk (putO {st with obj:=ob'} o.dst v) kn):KnOk (putO {st with obj:=ob'} o.dst v) (qkz o kn):=by
 unfold qkz;split
 ·exact h
 ·rename_i d hd;have hc:(putO {st with obj:=ob'} o.dst v).env d=v:=by rw [hd];simp [putO,upd]
  split
  ·rename_i t ho;split
   ·rename_i y hy;rw [ho] at hg;have:=qp1 (qfz (by simpa [Op.operands,q3x] using qjf t []) hy) hg;exact qje h (by rw [hc,this])
   ·exact h
  ·rename_i c x y ho;split
   ·rename_i q hq;split
    ·rename_i z hz;rw [ho] at hg;have:=qp2 (qfz (by simpa [Op.operands,q3x] using qjf c _) hq) hz hg;exact qje h (by rw [hc,this])
    ·exact h
   ·exact h
  ·exact h
theorem qz0 {rg:Nat} {all:List Oper} {γ δ:Type} {w:γ→δ} {k:(γ→δ)→St→Option δ} {y:δ}:∀(n i:Nat) (r:List Oper) (st:St) (kn:List (Nat×Bool)) (tr:List Tr),evF lf C R rg all n w i r st kn tr k=some y→KnOk st kn→∃es,es.map (·.op)=r∧qhf C R rg all i st es∧(q4g (befs all []) all ((es.map En.tr).reverse++tr)&&qcm rg ((es.map En.tr).reverse++tr))=true∧k w (q2i es st)=some y:=by
 intro n
 induction n with
 |zero=>intro i r st kn tr h;cases h
 |succ n ih=>
  intro i r st kn tr h hf;cases r with
  |nil=>
   have h:(bif q4g (befs all []) all tr&&qcm rg tr then k w st else none)=some y:=h;cases hd:(q4g (befs all []) all tr&&qcm rg tr) with
   |false=>rw [hd] at h;cases h
   |true=>rw [hd] at h;exact ⟨[],rfl,trivial,hd,h⟩
  |cons o r=>
   unfold evF at h;simp only at h;cases he:qqf o.dst kn with
   |false=>rw [he] at h;cases h
   |true=>
    rw [he,cond_true] at h;have more:∀(e:En),e.i=i→e.op=o→e.kn=kn→EnOk C R rg all st e→∀kn',(KnOk (e.app st) kn→KnOk (e.app st) kn')→evF lf C R rg all n w (i+1) r (e.app st) kn' (e.tr::tr) k=some y→
      ∃es,es.map (·.op)=o::r∧qhf C R rg all i st es∧(q4g (befs all []) all ((es.map En.tr).reverse++tr)&&qcm rg ((es.map En.tr).reverse++tr))=true∧k w (q2i es st)=some y:=by
     intro e h1 h2 h3 h4 kn' h6 h5;obtain ⟨es,g1,g2,g3,g4⟩:=ih _ _ _ _ _ h5 (h6 (qvc hf (by rw [h2];exact he)));exact ⟨e::es,by rw [zI,g1,h2],⟨h1,h4,by rw [h3];exact hf,by rw [h2,h3];exact he,g2⟩,by rw [zI,List.reverse_cons,zu];exact g3,g4⟩
    have run:(∀e:En,e.op=o→e.kn=kn→qxa all e)→(bif qgw o.op||q7f st.obj (q40 C st o) (q40 C st o) then (match opPk lf C R (envR st.env kn (q3x o.op.operands.toList)) (objR st.obj (q40 C st o)) (q1f rg i) o.type o.op with
      |.fail=>none
      |.nowU v u=>sqV v fun v=>sqF (q1f rg i) st.obj u fun o'=>evF lf C R rg all n w (i+1) r (putO {st with obj:=o'} o.dst v) (qkz o kn) (⟨i,o,q40 C st o,q0h u⟩::tr) k
      |.dyn _ x out=>lf.bnd x fun y=>sqV (out y).1 fun v=>sqF (q1f rg i) st.obj (out y).2 fun o'=>evF lf C R rg all n w (i+1) r (putO {st with obj:=o'} o.dst v) (qkz o kn) (⟨i,o,q40 C st o,q0h (out y).2⟩::tr) k) else none)=some y→
      ∃es,es.map (·.op)=o::r∧qhf C R rg all i st es∧(q4g (befs all []) all ((es.map En.tr).reverse++tr)&&qcm rg ((es.map En.tr).reverse++tr))=true∧k w (q2i es st)=some y:=by
     intro hw h;cases hc:(qgw o.op||q7f st.obj (q40 C st o) (q40 C st o)) with
     |false=>rw [hc] at h;cases h
     |true=>
      rw [hc,cond_true] at h;have go:∀v u,(opPk lf C R (envR st.env kn (q3x o.op.operands.toList)) (objR st.obj (q40 C st o)) (q1f rg i) o.type o.op).gives v u→
        (sqV v fun v=>sqF (q1f rg i) st.obj u fun o'=>evF lf C R rg all n w (i+1) r (putO {st with obj:=o'} o.dst v) (qkz o kn) (⟨i,o,q40 C st o,q0h u⟩::tr) k)=some y→
        ∃es,es.map (·.op)=o::r∧qhf C R rg all i st es∧(q4g (befs all []) all ((es.map En.tr).reverse++tr)&&qcm rg ((es.map En.tr).reverse++tr))=true∧k w (q2i es st)=some y:=by
       intro v u hg h;rw [qrj] at h;obtain ⟨h1,h2⟩:=qhb _ _ _ _ h;exact more ⟨i,o,false,kn,q40 C st o,v,u⟩ rfl rfl rfl (.inr ⟨rfl,hw _ rfl rfl,rfl,hc,hg,h2⟩) _ (qvd hg) h1
      generalize hp:opPk lf C R (envR st.env kn (q3x o.op.operands.toList)) (objR st.obj (q40 C st o)) (q1f rg i) o.type o.op=pk at h go;cases pk with
      |fail=>cases h
      |nowU v u=>exact go v u ⟨rfl,rfl⟩ h
      |dyn α x out=>obtain ⟨q,h1,h2⟩:=q4e (x:=x) h;exact go (out q).1 (out q).2 ⟨q,h1,rfl⟩ h2
    have skip:(∀e:En,e.op=o→e.kn=kn→qx9 all st e)→evF lf C R rg all n w (i+1) r (putO st o.dst .undef) kn (⟨i,o,[],[]⟩::tr) k=some y→
      ∃es,es.map (·.op)=o::r∧qhf C R rg all i st es∧(q4g (befs all []) all ((es.map En.tr).reverse++tr)&&qcm rg ((es.map En.tr).reverse++tr))=true∧k w (q2i es st)=some y:=fun hs h=>
     more ⟨i,o,true,kn,[],.undef,[]⟩ rfl rfl rfl (.inl ⟨rfl,hs _ rfl rfl,rfl,rfl,rfl⟩) kn (fun h=>h) h
    split at h
    ·rename_i hg;exact run (fun e h1 _=>.inl (by rw [h1];exact hg)) h
    ·rename_i j want hg;split at h
     ·rename_i oj hj;split at h
      ·rename_i dj hk;split at h
       ·rename_i b hb;cases hc:(bif want then b else !b) with
        |true=>
         rw [hc] at h;have:b=want:=by cases b<;>cases want<;>first|rfl|cases hc
         subst this;exact run (fun e h1 h2=>.inr ⟨j,b,oj,dj,by rw [h1];exact hg,hj,hk,by rw [h2];exact hb⟩) h
        |false=>
         rw [hc] at h;have:b≠want:=by cases b<;>cases want<;>first|(intro h;cases h;done)|cases hc
         exact skip (fun e h1 h2=>⟨j,want,oj,dj,by rw [h1];exact hg,hj,hk,.inl ⟨b,by rw [h2];exact hb,this⟩⟩) h
       ·split at h
        ·rename_i hu;exact skip (fun e h1 h2=>⟨j,want,oj,dj,by rw [h1];exact hg,hj,hk,.inr hu⟩) h
        ·rename_i x hx;have kn':∀b,x=b→KnOk st ((dj,b)::kn):=by
          intro b e d b' hd;simp only [q8y] at hd;cases hq:Nat.beq dj d with
          |true=>rw [hq,cond_true] at hd;injection hd with hd;have:=zf hq;subst this hd e;exact hx
          |false=>rw [hq,cond_false] at hd;exact hf d b' hd
         cases x with
         |true=>exact ih i (o::r) st _ tr h (kn' true rfl)
         |false=>exact ih i (o::r) st _ tr h (kn' false rfl)
        ·cases h
      ·cases h
     ·cases h
end
end Ev

namespace Ev
open Go
inductive Pre (all:List Oper):Nat→Nat→Prop where
 |edge {i:Nat} {o:Oper} {e:Edge} (h1:all[i]?=some o) (h2:e∈o.after.toList) (h3:Region.binds .any e=true):Pre all i e.on
 |trans {i a:Nat} {o:Oper} {e:Edge} (h1:all[i]?=some o) (h2:e∈o.after.toList) (h3:Region.binds .any e=true) (h4:Pre all e.on a):Pre all i a
theorem qln {t a:Nat} (h:Nat.testBit (bit t) a=true):a=t:=by
 unfold bit at h;rw [Nat.testBit_shiftLeft,zd] at h;obtain ⟨h1,h2⟩:=h;have h1:t≤a:=by simpa using h1
 have:a-t=0:=zG fun hn=>by obtain ⟨m,hm⟩:∃m,a-t=m+1:=⟨a-t-1,by omega⟩;rw [hm,Nat.testBit_succ] at h2;simp at h2
 omega
theorem qna {all:List Oper} {acc:List Nat} (hc:∀i a,Nat.testBit (acc.getD i 0) a=true→Pre all i a) {i:Nat} {o:Oper} (ho:all[i]?=some o):∀(l:List Edge) (s:Nat),(∀e,e∈l→e∈o.after.toList)→(∀a,Nat.testBit s a=true→Pre all i a)→∀a,Nat.testBit (l.foldl (fun s e=>bif Region.binds .any e then s|||bit e.on|||acc.getD e.on 0 else s) s) a=true→Pre all i a
 |[],s,_,hs,a,h=>hs a h
 |e::l,s,hl,hs,a,h=>by
  refine qna hc ho l _ (fun q hq=>hl q (zm _ hq)) ?_ a h;intro a ha;replace ha:Nat.testBit (bif Region.binds .any e then s|||bit e.on|||acc.getD e.on 0 else s) a=true:=ha;cases hb:Region.binds .any e with
  |false=>rw [hb,cond_false] at ha;exact hs a ha
  |true=>
   rw [hb,cond_true,Nat.testBit_or,Nat.testBit_or,Bool.or_eq_true,Bool.or_eq_true] at ha;rcases ha with (ha|ha)|ha
   ·exact hs a ha
   ·rw [qln ha];exact .edge ho (hl e (zj ..)) hb
   ·exact .trans ho (hl e (zj ..)) hb (hc _ _ ha)
theorem qhg {all:List Oper}:∀(r pre:List Oper) (acc:List Nat),all=pre++r→acc.length=pre.length→(∀i a,Nat.testBit (acc.getD i 0) a=true→Pre all i a)→∀i a,Nat.testBit ((befs r acc).getD i 0) a=true→Pre all i a
 |[],pre,acc,_,_,hc=>hc
 |o::r,pre,acc,hd,he,hc=>by
  refine qhg r (pre++[o]) _ (by rw [hd];simp) (by simp [he]) ?_;have ho:all[pre.length]?=some o:=by rw [hd];simp
  intro i a h;by_cases hi:i<acc.length
  ·rw [List.getD_eq_getElem?_getD,zV hi,←List.getD_eq_getElem?_getD] at h;exact hc i a h
  ·by_cases hf:i=acc.length
   ·rw [List.getD_eq_getElem?_getD,zK (by omega),hf,Nat.sub_self] at h;rw [hf,he];exact qna hc ho o.after.toList 0 (fun _ h=>h) (fun a h=>by simp at h) a h
   ·rw [List.getD_eq_getElem?_getD,zP (by simp;omega)] at h;simp at h
theorem qbe {all:List Oper} {S:Nat→Bool} (hS:∀i o,all[i]?=some o→S i=true→∀e,e∈o.after.toList→Region.binds .any e=true→S e.on=true) {i a:Nat} (h:Pre all i a):S i=true→S a=true:=by
 induction h with
 |edge h1 h2 h3=>exact fun hi=>hS _ _ h1 hi _ h2 h3
 |trans h1 h2 h3 _ ih=>exact fun hi=>ih (hS _ _ h1 hi _ h2 h3)
theorem qrv {all:List Oper} {S:Nat→Bool} (hS:∀i o,all[i]?=some o→S i=true→∀e,e∈o.after.toList→Region.binds .any e=true→S e.on=true) {i a:Nat} {o:Oper} (ho:all[i]?=some o) (hr:∀e,e∈o.after.toList→Region.binds .any e=true→S e.on=true) (h:Pre all i a):S a=true:=by
 cases h with
 |edge h1 h2 h3=>rw [ho] at h1;injection h1 with h1;subst h1;exact hr _ h2 h3
 |trans h1 h2 h3 h4=>rw [ho] at h1;injection h1 with h1;subst h1;exact qbe hS h4 (hr _ h2 h3)
end Ev

namespace Ev
open Go
theorem qjg {d:Nat}:∀{l:List Nat},qgl d l=true→d∉l
 |[],_=>by simp
 |b::r,h=>by
  simp only [qgl] at h;cases hb:Nat.beq b d with
  |true=>rw [hb] at h;cases h
  |false=>
   rw [hb] at h;have hr:=qjg h;intro hm;rcases zn.1 hm with hm|hm
   ·subst hm;rw [Nat.beq_refl] at hb;cases hb
   ·exact hr hm
theorem qrw {S S':Nat→Bool} {t:Nat}:∀(es:List En) (st st':St),st.env t=st'.env t→(∀q,q∈es→S q.i≠S' q.i→q.op.dst≠some t)→(fam S es st).env t=(fam S' es st').env t
 |[],_,_,h,_=>h
 |q::es,st,st',h,hq=>by
  have hr:=fun p hp=>hq p (zm q hp);show (fam S es (bif S q.i then q.app st else st)).env t=(fam S' es (bif S' q.i then q.app st' else st')).env t;refine qrw es _ _ ?_ hr;by_cases e:S q.i=S' q.i
  ·rw [e];cases S' q.i with
   |false=>exact h
   |true=>
    show (q.app st).env t=(q.app st').env t;rcases q57 q st t with ⟨h1,h2⟩|⟨h1,h2⟩<;>rcases q57 q st' t with ⟨h3,h4⟩|⟨h3,h4⟩
    ·rw [h2,h4]
    ·exact absurd h1 h3
    ·exact absurd h3 h1
    ·rw [h2,h4,h]
  ·have hd:=hq q (zj ..) e;have one:∀(b:Bool) (s:St),(bif b then q.app s else s).env t=s.env t:=by
    intro b s;cases b with
    |false=>rfl
    |true=>
     rcases q57 q s t with ⟨h1,_⟩|⟨_,h2⟩
     ·exact absurd h1 hd
     ·exact h2
   rw [one,one,h]
theorem qrx {S S':Nat→Bool} {id:Nat}:∀(es:List En) (st st':St),st.obj id=st'.obj id→(∀q,q∈es→S q.i≠S' q.i→id∉q0h q.u)→(fam S es st).obj id=(fam S' es st').obj id
 |[],_,_,h,_=>h
 |q::es,st,st',h,hq=>by
  have hr:=fun p hp=>hq p (zm q hp);show (fam S es (bif S q.i then q.app st else st)).obj id=(fam S' es (bif S' q.i then q.app st' else st')).obj id;refine qrx es _ _ ?_ hr;have upd1:∀s s':St,s.obj id=s'.obj id→(q.app s).obj id=(q.app s').obj id:=by
   intro s s' hs;rw [q7o,q7o];by_cases hk:id∈q0h q.u
   ·exact qds hk
   ·rw [q0t hk,q0t hk,hs]
  by_cases e:S q.i=S' q.i
  ·rw [e];cases S' q.i with
   |false=>exact h
   |true=>exact upd1 st st' h
  ·have hd:=hq q (zj ..) e;have one:∀(b:Bool) (s:St),(bif b then q.app s else s).obj id=s.obj id:=by
    intro b s;cases b with
    |false=>rfl
    |true=>show (q.app s).obj id=s.obj id;rw [q7o,q0t hd]
   rw [one,one,h]
end Ev

namespace Ev
open Go
theorem qad {a b:List Nat} (h:disj a b=true):∀x,x∈a→x∉b:=by intro x hx hb;unfold disj at h;have:=zT.1 h x hx;rw [hasN_iff.2 hb] at this;cases this
theorem q99 {d:Option Nat} {l:List Nat} (h:qqe d l=true):∀t,d=some t→t∉l:=by rintro t rfl;exact qjg h
theorem qlo {bef:List Nat} {all:List Oper} {b:Tr} {r:List Tr}:qgv bef all b r=true→∀a,a∈r→q6f bef all a b=true:=by
 induction r with
 |nil=>intro _ a ha;cases ha
 |cons x r ih=>
  intro h a ha;simp only [qgv,zd] at h;rcases zn.1 ha with ha|ha
  ·subst ha;exact h.1
  ·exact ih h.2 a ha
theorem q6r {bef:List Nat} {all:List Oper}:∀(l1 l2:List Tr) (b:Tr),q4g bef all (l1++b::l2)=true→∀a,a∈l2→q6f bef all a b=true
 |[],l2,b,h=>by simp only [List.nil_append,q4g,zd] at h;exact qlo h.1
 |x::l1,l2,b,h=>by simp only [List.cons_append,q4g,zd] at h;exact q6r l1 l2 b h.2
end Ev

namespace Ev
open Go
def Down (all:List Oper) (S:Nat→Bool):Prop:=∀i o,all[i]?=some o→S i=true→∀e,e∈o.after.toList→Region.binds .any e=true→S e.on=true
theorem qz1 {all:List Oper} {S:Nat→Bool} (hS:Down all S) {l1 l2:List En} {e:En} {o:Oper} (ho:all[e.i]?=some o) (hr:∀ed,ed∈o.after.toList→Region.binds .any ed=true→S ed.on=true) (hj:S e.i=false) (hd:q4g (befs all []) all ((l1++e::l2).map En.tr).reverse=true) (h1:∀q,q∈l1→q.i<e.i) (h2:∀q,q∈l2→e.i<q.i):∀q,q∈l1++e::l2→S q.i≠decide (q.i<e.i)→(∀t,q.op.dst=some t→t∉qf9 all e.op)∧(∀id,id∈q0h q.u→id∉e.F∧id∉q0h e.u):=by
 have he:=qhg (all:=all) all [] [] rfl rfl (fun i a h=>by simp at h);intro q hq hc;rcases zO.1 hq with hq|hq
 ·
  have hk:=h1 q hq;have hg:S q.i=false:=by
   cases hs:S q.i with
   |false=>rfl
   |true=>rw [hs] at hc;simp [hk] at hc
  have hp:q6f (befs all []) all q.tr e.tr=true:=by
   refine q6r (l2.map En.tr).reverse (l1.map En.tr).reverse e.tr ?_ q.tr ?_
   ·rw [zR,zI,List.reverse_append,List.reverse_cons,zu] at hd;exact hd
   ·exact List.mem_reverse.2 (List.mem_map_of_mem hq)
  unfold q6f at hp;rw [Bool.or_eq_true] at hp;rcases hp with hp|hp
  ·have:=qrv hS ho hr (he _ _ hp);have this:S q.i=true:=this;rw [hg] at this;cases this
  ·unfold qmf at hp;simp only [zd] at hp;obtain ⟨⟨⟨a1,_⟩,a3⟩,_⟩:=hp;exact ⟨fun t ht hm=>q99 a1 t ht (List.mem_append_left _ hm),fun id hf=>⟨fun h=>qad a3 id hf (List.mem_append_left _ h),fun h=>qad a3 id hf (List.mem_append_right _ h)⟩⟩
 ·rcases zn.1 hq with hq|hq
  ·subst hq;rw [hj] at hc;simp at hc
  ·
   have hk:=h2 q hq;have hg:S q.i=true:=by
    cases hs:S q.i with
    |true=>rfl
    |false=>rw [hs] at hc;simp at hc;omega
   have hp:q6f (befs all []) all e.tr q.tr=true:=by
    obtain ⟨m1,m2,rfl⟩:=List.append_of_mem hq;refine q6r (m2.map En.tr).reverse ((l1++e::m1).map En.tr).reverse q.tr ?_ e.tr ?_
    ·have e1:l1++e::(m1++q::m2)=(l1++e::m1)++q::m2:=by simp
     rw [e1,zR,zI,List.reverse_append,List.reverse_cons,zu] at hd;exact hd
    ·exact List.mem_reverse.2 (List.mem_map_of_mem (List.mem_append_right _ (zj ..)))
   unfold q6f at hp;rw [Bool.or_eq_true] at hp;rcases hp with hp|hp
   ·have:=qbe hS (he _ _ hp) hg;have this:S e.i=true:=this;rw [hj] at this;cases this
   ·unfold qmf at hp;simp only [zd] at hp;obtain ⟨⟨⟨_,a2⟩,a3⟩,a4⟩:=hp;exact ⟨fun t ht hm=>q99 a2 t ht hm,fun id hf=>⟨fun h=>qad a4 id hf h,fun h=>qad a3 id h (List.mem_append_right _ hf)⟩⟩
end Ev

namespace Ev
open Go
theorem qhh {S:Nat→Bool}:∀(l:List En) (st:St),(∀q,q∈l→S q.i=false)→fam S l st=st
 |[],_,_=>rfl
 |q::l,st,h=>by show fam S l (bif S q.i then q.app st else st)=st;rw [h q (zj ..)];exact qhh l st fun p hp=>h p (zm _ hp)
theorem qlp {S:Nat→Bool}:∀(l:List En) (st:St),(∀q,q∈l→S q.i=true)→fam S l st=q2i l st
 |[],_,_=>rfl
 |q::l,st,h=>by show fam S l (bif S q.i then q.app st else st)=q2i l (q.app st);rw [h q (zj ..)];exact qlp l _ fun p hp=>h p (zm _ hp)
theorem z2l {all:List Oper} {S:Nat→Bool} (hS:Down all S) {l1 l2:List En} {e:En} {o:Oper} (ho:all[e.i]?=some o) (hr:∀ed,ed∈o.after.toList→Region.binds .any ed=true→S ed.on=true) (hj:S e.i=false) (hd:q4g (befs all []) all ((l1++e::l2).map En.tr).reverse=true) (h1:∀q,q∈l1→q.i<e.i) (h2:∀q,q∈l2→e.i<q.i) (st:St):(∀t,t∈qf9 all e.op→(fam S (l1++e::l2) st).env t=(q2i l1 st).env t)∧(∀id,(id∈e.F∨id∈q0h e.u)→(fam S (l1++e::l2) st).obj id=(q2i l1 st).obj id):=by
 have hg:=qz1 hS ho hr hj hd h1 h2;have hc:fam (fun i=>decide (i<e.i)) (l1++e::l2) st=q2i l1 st:=by
  rw [q8a,qlp l1 st (fun q hq=>by simpa using h1 q hq)];refine qhh _ _ fun q hq=>?_;rcases zn.1 hq with hq|hq
  ·subst hq;simp
  ·have:=h2 q hq;simp;omega
 refine ⟨fun t ht=>?_,fun id hl=>?_⟩
 ·rw [←hc];exact qrw _ _ _ rfl fun q hq he hf=>(hg q hq he).1 t hf ht
 ·rw [←hc];refine qrx _ _ _ rfl fun q hq he hk=>?_;obtain ⟨g1,g2⟩:=(hg q hq he).2 id hk;exact hl.elim g1 g2
end Ev

namespace Ev
open Go
theorem qg0 {o:Nat→Obj}:∀(F l:List Nat),q7f o F l=true→∀id,id∈l→∀j,j∈idsO (o id)→j∈F
 |F,x::r,h,id,hi,j,hj=>by
  simp only [q7f,zd] at h;have key:∀(l m:List Nat),qum l m=true→∀q,q∈l→q∈m:=by
   intro l m
   induction l with
   |nil=>intro _ q hq;cases hq
   |cons y l ih=>
    intro h q hq;simp only [qum,zd] at h;rcases zn.1 hq with hq|hq
    ·subst hq;exact hasN_iff.1 h.1
    ·exact ih h.2 q hq
  rcases zn.1 hi with hi|hi
  ·subst hi;exact key _ _ h.1 j hj
  ·exact qg0 F r h.2 id hi j hj
theorem qry (o:Nat→Obj):∀(n:Nat) (l:List Nat) (x:Nat),x∈l→x∈qul o n l
 |0,_,_,h=>h
 |_+1,_,_,h=>List.mem_append_left _ h
theorem qnb:∀{l:List V} {v:V} {id:Nat},v∈l→id∈idsV v→id∈idsL l
 |x::l,v,id,hv,hi=>by
  unfold idsL;rcases zn.1 hv with rfl|hv
  ·exact List.mem_append_left _ hi
  ·exact List.mem_append_right _ (qnb hv hi)
theorem qe7:∀{l:List Operand} {t:Nat},t∈q3x l→Operand.tmp t∈l
 |x::r,t,h=>by
  cases x<;>simp only [q3x] at h<;>try exact zm _ (qe7 h)
  rcases zn.1 h with h|h
  ·subst h;exact zj ..
  ·exact zm _ (qe7 h)
end Ev

namespace Ev
open Go
theorem qjh {C:Cx} {nt:Nat} {X:Nat→Prop} {φ:Nat→Addr} {st:St} {a:Act} {w:World} (hR:Rel C nt X φ st a w) {kn:List (Nat×Bool)} {ops:List Operand} (hk:∀d b,d∈q3x ops→q8y d kn=some b→st.env d=.d .bool b) {F:List Nat} (hF:∀id,id∈idsL (ops.map (opd C st.env))→id∈F) (hm:MRel C (Xr X φ st.obj F) φ (objR st.obj F) w):∀x,q01 φ (objR st.obj F) (immB (Xr X φ st.obj F) φ (objR st.obj F) w) w (opd C (envR st.env kn (q3x ops)) x) (a.eval x):=by
 intro x;cases x with
 |tmp t=>
  show q01 φ _ _ w (unlb (envR st.env kn (q3x ops) t)) (a.tmps.getD t undef);unfold envR;cases hh:hasN t (q3x ops) with
  |false=>trivial
  |true=>
   rw [cond_true];have ht:=hasN_iff.1 hh;split
   ·rename_i b hb;have hz:=hR.env t;rw [hk t b ht hb] at hz;have:=q1s hz;rw [this];exact q6j
   ·exact qdt (fun id hi=>hF id (qnb (List.mem_map_of_mem (qe7 ht)) hi)) (q50 (hR.env t))
 |const v=>exact qay v
 |global g=>
  simp only [opd,Act.eval];split
  ·rename_i e;exact hm.globs _ _ _ e
  ·trivial
 |func f=>
  simp only [Ev.opd];cases h:Nat.blt f 1048576 with
  |false=>simp [q01]
  |true=>exact ⟨#[],(qml (zA h) #[]).symm,rfl⟩
end Ev

namespace Ev
open Go
section
variable {C:Cx} {R:q1v C.sigs} {nt:Nat}
theorem qf4 (hC:CxOk C) (hE:EqOk C) (HC:∀X φ o w,MRel C X φ o w→∀fr f,q6p C R X φ o w fr f) {X:Nat→Prop} {φ:Nat→Addr} {st:St} {a:Act} {w:World} (hR:Rel C nt X φ st a w) {o:Oper} {kn:List (Nat×Bool)} {F:List Nat} {fr:Nat} (he:∀d b,d∈q3x o.op.operands.toList→q8y d kn=some b→st.env d=.d .bool b) (hF:∀id,id∈idsL (o.op.operands.toList.map (opd C st.env))→id∈F) (hf:q7f st.obj F F=true) {v:V} {u:List (Nat×Obj)} (hg:(opPk lf C R (envR st.env kn (q3x o.op.operands.toList)) (objR st.obj F) fr o.type o.op).gives v u) (hd:∀id,id∈q0h u→id∉F→st.obj id=.none) (hk:q4q fr (objR st.obj F) u) {K:Act→World→Prop} {Q:Exit→Act→World→Prop} (hK:∀val w' φ',Comes C X φ φ' st.obj u w w' v val→K (a.put o.dst val) w'):o.wp C.P a w K Q:=by have hm:=hR.toMRel.restrict (F:=F) (fun id hi j hj=>qg0 F F hf id hi j hj);have hl:=qyr hC hE hm (qjh hR he hF hm) (HC _ _ _ _ hm fr) hg hk;exact hl.upon fun val w' φ' hc=>by obtain ⟨φ'',h⟩:=hc.unrestrict hR.toMRel hd;exact hK val w' φ'' h
end
end Ev

namespace Ev
open Go
theorem qc6 {o o':Nat→Obj} (F:List Nat):∀(l:List Nat),(∀id,id∈l→o id=o' id)→q7f o F l=q7f o' F l
 |[],_=>rfl
 |x::l,h=>by simp only [q7f];rw [h x (zj ..),qc6 F l fun id hi=>h id (zm _ hi)]
theorem qnc:∀{u:List (Nat×Obj)} {id:Nat},id∈q0h u→∃p,p∈u∧p.1=id
 |p::r,id,h=>by
  rcases zn.1 h with h|h
  ·exact ⟨p,zj ..,h.symm⟩
  ·obtain ⟨q,h1,h2⟩:=qnc h;exact ⟨q,zm _ h1,h2⟩
theorem qg1 {F:List Nat} {fr:Nat}:∀{l:List Nat},qd6 F fr l=true→∀id,id∈l→id∈F∨(fr≤id∧id<fr+16)
 |[],_,id,h=>by cases h
 |x::l,hk,id,h=>by
  simp only [qd6,zd,Bool.or_eq_true] at hk;rcases zn.1 h with h|h
  ·subst h;exact hk.1.imp hasN_iff.1 fun h=>⟨zA h.1,zA h.2⟩
  ·exact qg1 hk.2 id h
section
variable {C:Cx} {R:q1v C.sigs} {nt:Nat}
theorem qji {st:St} {o:Oper} (h:qgw o.op=false):q40 C st o=qul st.obj 4 (idsL (o.op.operands.toList.map (opd C st.env))):=by unfold q40;split<;>first|rfl|(rename_i e;rw [e] at h;cases h)
theorem qrz {o:Nat→Obj} {F:List Nat} {v:V} (h:sure (objR o F) v=true) (hF:∀id,id∈idsV v→id∈F):sure o v=true:=by
 cases v<;>simp only [sure] at h ⊢<;>try exact h
 rename_i id off;rw [q1y (hF id (by simp [idsV]))] at h;exact h
theorem qp3 {o:Nat→Obj} {F:List Nat} {v v':V} {u:List (Nat×Obj)} (h:(qof (objR o F) v).gives v' u) (hF:∀id,id∈idsV v→id∈F):(qof o v).gives v' u:=by
 unfold qof at h ⊢;split at h
 ·rw [q06] at h ⊢;exact ⟨qrz h.1 hF,h.2⟩
 ·exact h
 ·rename_i id ver i path;rw [q1y (hF id (by simp [idsV]))] at h;exact h
 ·exact h
 ·cases h
theorem qco {o:Nat→Obj} {F:List Nat} {t:TypeId} {v v':V} {f:Nat} {u:List (Nat×Obj)} (h:(q46 C (objR o F) t v f).gives v' u) (hF:∀id,id∈idsV v→id∈F):(q46 C o t v f).gives v' u:=by
 unfold q46 at h ⊢;cases hc:qd1 C.P t f with
 |none=>rw [hc] at h;cases h
 |some fd=>
  rw [hc] at h;simp only at h ⊢;cases hk:q72 C.P fd.type with
  |none=>rw [hk] at h;cases h
  |some p=>
   rw [hk] at h;simp only at h ⊢;rw [q06] at h ⊢;refine ⟨h.1,?_⟩;replace h:=h.2;cases v<;>try exact h
   ·rename_i id off;simp only at h ⊢;rw [q1y (hF id (by simp [idsV]))] at h;exact h
   ·rename_i id ver i path;simp only at h ⊢;rw [q1y (hF id (by simp [idsV]))] at h;exact h
theorem qlq {st:St} {kn:List (Nat×Bool)} {o:Oper} {fr:Nat} (hl:qgw o.op=true) (hd:∀d b,d∈q3x o.op.operands.toList→q8y d kn=some b→st.env d=.d .bool b) {F:List Nat} (hF:F=q40 C st o) {v:V} {u:List (Nat×Obj)} (hg:(opPk lf C R (envR st.env kn (q3x o.op.operands.toList)) (objR st.obj F) fr o.type o.op).gives v u):(opPk lf C R st.env st.obj fr o.type o.op).gives v u:=by
 have hc:∀x,x∈o.op.operands.toList→opd C (envR st.env kn (q3x o.op.operands.toList)) x=opd C st.env x:=by
  intro x hx;cases x with
  |tmp t=>
   have ht:t∈q3x o.op.operands.toList:=by
    revert hx;generalize o.op.operands.toList=l;intro hx
    induction l with
    |nil=>cases hx
    |cons y r ih=>
     rcases zn.1 hx with h|h
     ·subst h;exact zj ..
     ·cases y<;>first|exact ih h|exact zm _ (ih h)
   show unlb (envR st.env kn _ t)=unlb (st.env t);unfold envR;rw [hasN_iff.2 ht,cond_true];split
   ·rename_i b hb;rw [hd t b ht hb];rfl
   ·rfl
  |_=>rfl
 obtain ⟨i,op,ty,pos,after,guard⟩:=o;cases op<;>simp only [qgw] at hl<;>try (cases hl;done)
 ·rename_i x;simp only [opPk] at hg ⊢;rw [hc x (by simp [Op.operands])] at hg;exact hg
 ·rename_i x;simp only [opPk] at hg ⊢;rw [hc x (by simp [Op.operands])] at hg;exact hg
 ·rename_i x;simp only [opPk] at hg ⊢;rw [hc x (by simp [Op.operands])] at hg;exact qp3 hg (fun id h=>by rw [hF];exact h)
 ·rename_i t x f;simp only [opPk] at hg ⊢;rw [hc x (by simp [Op.operands])] at hg;exact qco hg (fun id h=>by rw [hF];exact h)
theorem qs0 (hC:CxOk C) (hE:EqOk C) (HC:∀X φ o w,MRel C X φ o w→∀fr f,q6p C R X φ o w fr f) {ops:Array Oper} {rg:Nat} {X:Nat→Prop} {φ:Nat→Addr} {st0:St} {S:Nat→Bool} {l1 l2:List En} {e:En} {a:Act} {w:World} (ho:ops.toList[e.i]?=some e.op) (hS:Down ops.toList S) (hr:∀ed,ed∈e.op.after.toList→Region.binds .any ed=true→S ed.on=true) (hB:S e.i=false) (hd:q4g (befs ops.toList []) ops.toList ((l1++e::l2).map En.tr).reverse=true) (h1:∀q,q∈l1→q.i<e.i) (h2:∀q,q∈l2→e.i<q.i) (hD:qd6 e.F (q1f rg e.i) (q0h e.u)=true) (hG:EnOk C R rg ops.toList (q2i l1 st0) e) (hq:KnOk (q2i l1 st0) e.kn) (hR:Rel C nt X φ (fam S (l1++e::l2) st0) a w) {K:Act→World→Prop} {Q:Exit→Act→World→Prop} (hK:∀z w' φ',Comes C X φ φ' (fam S (l1++e::l2) st0).obj e.u w w' e.v z→K (a.put e.op.dst z) w'):wpOp C.P ops Q e.i K a w:=by
 obtain ⟨ag1,ag2⟩:=z2l hS ho hr hB hd h1 h2 st0;generalize fam S (l1++e::l2) st0=st at*
 have hH:ops[e.i]?=some e.op:=by rw [←zF];exact ho
 have lookg:∀j want oj dj,e.op.guard=some (j,want)→ops.toList[j]?=some oj→oj.dst=some dj→dj∈qf9 ops.toList e.op:=fun j want oj dj g1 g2 g3=>by unfold qf9;refine List.mem_append_right _ ?_;rw [g1];simp only;rw [g2];simp only;rw [g3];exact zj ..
 unfold wpOp;simp only [hH];rcases hG with ⟨_,⟨j,want,oj,dj,g1,g2,g3,g4⟩,hv,hu,_⟩|⟨_,hw,hF,hA,hg,hf⟩
 ·have hz:=hR.env dj;rw [ag1 dj (lookg j want oj dj g1 g2 g3)] at hz;have hy:Region.wanted e.op (yielded ops a.tmps)=false:=by
   unfold Region.wanted;rw [g1];simp only;rcases g4 with ⟨b,hb,hI⟩|hJ
   ·rw [hq dj b hb] at hz;rw [qbd g2 g3 (q1s hz)];cases b<;>cases want<;>first|rfl|exact absurd rfl hI
   ·rw [hJ] at hz;rw [qe1 g2 g3 hz];rfl
  rw [if_neg (by rw [hy];simp)];exact hK undef w φ (by rw [hu,hv];exact .same hR.toMRel rfl)
 ·have hy:Region.wanted e.op (yielded ops a.tmps)=true:=by
   unfold Region.wanted;rcases hw with hw|⟨j,want,oj,dj,g1,g2,g3,g4⟩
   ·rw [hw]
   ·have hz:=hR.env dj;rw [ag1 dj (lookg j want oj dj g1 g2 g3),hq dj want g4] at hz;rw [g1];simp only;rw [qbd g2 g3 (q1s hz)];simp
  rw [if_pos hy];have lt:∀t,t∈q3x e.op.op.operands.toList→st.env t=(q2i l1 st0).env t:=fun t ht=>ag1 t (List.mem_append_left _ ht);have hn:e.op.op.operands.toList.map (opd C st.env)=e.op.op.operands.toList.map (opd C (q2i l1 st0).env):=by
   apply zX;intro x hx;cases x with
   |tmp t=>
    have ht:t∈q3x e.op.op.operands.toList:=by
     revert hx;generalize e.op.op.operands.toList=l;intro hx
     induction l with
     |nil=>cases hx
     |cons y r ih=>
      rcases zn.1 hx with h|h
      ·subst h;exact zj ..
      ·cases y<;>first|exact ih h|exact zm _ (ih h)
    show unlb (st.env t)=unlb ((q2i l1 st0).env t);rw [lt t ht]
   |_=>rfl
  have hj:∀id,id∈e.F→st.obj id=(q2i l1 st0).obj id:=fun id h=>ag2 id (.inl h);have eR:envR st.env e.kn (q3x e.op.op.operands.toList)=envR (q2i l1 st0).env e.kn (q3x e.op.op.operands.toList):=funext fun t=>by
   unfold envR;cases hh:hasN t (q3x e.op.op.operands.toList) with
   |false=>rfl
   |true=>rw [lt t (hasN_iff.1 hh)]
  have oR:objR st.obj e.F=objR (q2i l1 st0).obj e.F:=funext fun id=>by
   by_cases h:id∈e.F
   ·rw [q1y h,q1y h,hj id h]
   ·rw [q30 h,q30 h]
  cases hk:qgw e.op.op with
  |true=>
   have hL:e.F=q40 C st e.op:=by
    rw [hF];unfold q40;have one:∀x,x∈e.op.op.operands.toList→opd C st.env x=opd C (q2i l1 st0).env x:=fun x hx=>by have:=List.map_inj_left.1 hn x hx;exact this
    split
    ·rfl
    ·rfl
    ·rename_i x ex;rw [one x (by rw [ex];simp [Op.operands])]
    ·rename_i t x f ex;rw [one x (by rw [ex];simp [Op.operands])]
    ·rename_i h1 h2 h3 h4;exfalso;cases he:e.op.op<;>rw [he] at hk<;>simp only [qgw] at hk<;>first|(cases hk;done)|exact h1 _ he|exact h2 _ he|exact h3 _ he|exact h4 _ _ _ he
   have hM:=qlq (fr:=q1f rg e.i) hk (fun d b hs hb=>by rw [lt d hs];exact hq d b hb) hL (by rw [eR,oR];exact hg);have hN:q4q (q1f rg e.i) st.obj e.u:=fun p hp h3 h4=>by rw [ag2 p.1 (.inr (qa1 hp))];exact hf p hp h3 h4
   have hl:=qyr hC hE hR.toMRel (fun x=>hR.opd x) (HC _ _ _ _ hR.toMRel (q1f rg e.i)) hM hN;exact .inl (hl.upon fun val w' φ' hc=>hK val w' φ' hc)
  |false=>
  rw [hk,Bool.false_or] at hA;rw [qji hk] at hF;refine .inl (qf4 hC hE HC hR ?_ ?_ ?_ (by rw [eR,oR];exact hg) ?_ ?_ hK)
  ·intro d b hs hb;rw [lt d hs];exact hq d b hb
  ·intro id hm;rw [hn] at hm;rw [hF];exact qry _ _ _ _ hm
  ·rw [qc6 e.F e.F (fun id h=>hj id h)];exact hA
  ·intro id hm hO;rw [ag2 id (.inr hm)];obtain ⟨p,hp,rfl⟩:=qnc hm;rcases qg1 hD p.1 hm with h|⟨h3,h4⟩
   ·exact absurd h hO
   ·exact hf p hp h3 h4
  ·intro p hp h3 h4;by_cases h:p.1∈e.F
   ·rw [q1y h,hj _ h];exact hf p hp h3 h4
   ·exact q30 h
end
end Ev

namespace Ev
open Go
section
variable {C:Cx} {R:q1v C.sigs} {nt:Nat}
theorem Rel.drawn {X:Nat→Prop} {φ:Nat→Addr} {st:St} {a:Act} {w:World} (h:Rel C nt X φ st a w):Rel C nt X φ st a {w with drawn:=w.drawn+1}:=by have hw:({w with drawn:=w.drawn+1}:World).heap=w.heap:=rfl;generalize ({w with drawn:=w.drawn+1}:World)=w' at hw;have hc:∀b,immB X φ st.obj w b→immB X φ st.obj w' b:=fun b hb=>⟨by rw [hw];exact hb.1,hb.2⟩;have keeps:∀x z,q01 φ st.obj (immB X φ st.obj w) w x z→q01 φ st.obj (immB X φ st.obj w') w' x z:=fun x z hx=>q39 hc (fun _ _=>by rw [hw]) (fun _=>Up.same fun _ n hr=>q3j (by rw [hw]) hr) x z hx;exact ⟨⟨fun id=>q3b hc (fun _ _=>by rw [hw]) keeps rfl (fun _=>by rw [hw]) (h.objs id),h.inj,(fun i hi=>by rw [hw];exact h.sep i hi),(fun b hb=>by rw [hw];exact h.xs b hb),(fun id=>h.toMRel.els_keep id (fun _=>.same (by rw [hw])) (fun _ _=>by rw [hw])),fun g t x hg=>keeps _ _ (h.globs g t x hg),h.toMRel.gszUp (fun _ _=>by rw [hw])⟩,h.size,fun t=>keeps _ _ (h.env t),h.defers⟩
theorem qe8 {rg:Nat} {all:List Oper}:∀(l1:List En) (i:Nat) (st:St) (e:En) (l2:List En),qhf C R rg all i st (l1++e::l2)→e.i=i+l1.length∧EnOk C R rg all (q2i l1 st) e∧KnOk (q2i l1 st) e.kn∧(∀q,q∈l1→q.i<i+l1.length)∧(∀q,q∈l2→i+l1.length<q.i)
 |[],i,st,e,l2,h=>by
  obtain ⟨h1,h2,h3,_,h5⟩:=h;refine ⟨h1,h2,h3,(fun q hq=>by cases hq),?_⟩;have key:∀(l:List En) (j:Nat) (s:St),qhf C R rg all j s l→∀q,q∈l→j≤q.i:=by
   intro l
   induction l with
   |nil=>intro _ _ _ q hq;cases hq
   |cons p l ih=>
    intro j s hr q hq;obtain ⟨g1,_,_,_,g5⟩:=hr;rcases zn.1 hq with hq|hq
    ·subst hq;omega
    ·have:=ih (j+1) _ g5 q hq;omega
  intro q hq;have:=key l2 (i+1) _ h5 q hq;simp only [List.length_nil];omega
 |p::l1,i,st,e,l2,h=>by
  obtain ⟨h1,_,_,_,h5⟩:=h;obtain ⟨g1,g2,g3,g4,g5⟩:=qe8 l1 (i+1) (p.app st) e l2 h5;simp only [ze];refine ⟨by omega,g2,g3,fun q hq=>?_,fun q hq=>?_⟩
  ·rcases zn.1 hq with hq|hq
   ·subst hq;omega
   ·have:=g4 q hq;omega
  ·have:=g5 q hq;omega
theorem qjj {rg:Nat}:∀{l:List Tr},qcm rg l=true→∀t,t∈l→qog t.i t.op.after.toList=true∧qd6 t.rd (q1f rg t.i) t.wr=true
 |[],_,t,h=>by cases h
 |x::l,hk,t,h=>by
  simp only [qcm,zd] at hk;rcases zn.1 h with h|h
  ·subst h;exact hk.1
  ·exact qjj hk.2 t h
theorem qjk {i:Nat}:∀{l:List Edge},qog i l=true→∀e,e∈l→Region.binds .any e=true→e.on<i
 |[],_,e,h=>by cases h
 |x::l,hk,e,h=>by
  intro hb;simp only [qog,zd,Bool.or_eq_true] at hk;rcases zn.1 h with h|h
  ·subst h;rw [hb] at hk;exact zA (hk.1.resolve_left (by simp))
  ·exact qjk hk.2 e h hb
def lst (listed:Array Bool) (i:Nat):Bool:=listed.getD i false
theorem qe9 {ops:Array Oper} {listed:Array Bool} (hs:listed.size=ops.size) {i:Nat}:i∈Region.ready .any ops listed↔∃o,ops[i]?=some o∧lst listed i=false∧∀e,e∈o.after.toList→Region.binds .any e=true→lst listed e.on=true:=by
 unfold Region.ready;rw [List.mem_filter,List.mem_range,zd];constructor
 ·rintro ⟨h1,h2,h3⟩;have ho:ops[i]?=some ops[i]:=Array.getElem?_eq_getElem h1;refine ⟨ops[i],ho,?_,?_⟩
  ·unfold lst;have hl:i<listed.size:=by omega
   simp only [Array.getD,hl,dif_pos] at h2 ⊢;simpa using h2
  ·rw [ho] at h3;simp only [Option.map_some,Option.getD_some] at h3;rw [←Array.all_toList,zT] at h3;intro e he hb;have:=h3 e he;rw [hb] at this;simpa [lst] using this
 ·rintro ⟨o,ho,h2,h3⟩;have h1:i<ops.size:=by
   rcases Nat.lt_or_ge i ops.size with h|h
   ·exact h
   ·rw [zS h] at ho;cases ho
  refine ⟨h1,?_,?_⟩
  ·unfold lst at h2;have hl:i<listed.size:=by omega
   simp only [Array.getD,hl,dif_pos] at h2 ⊢;simpa using h2
  ·rw [ho];simp only [Option.map_some,Option.getD_some];rw [←Array.all_toList,zT];intro e he;cases hb:Region.binds .any e with
   |false=>rfl
   |true=>have:=h3 e he hb;simpa [lst] using this
theorem qz2 {listed:Array Bool} {i j:Nat} (hi:i<listed.size):lst (listed.setIfInBounds i true) j=(decide (i=j)||lst listed j):=by
 unfold lst;simp only [Array.getD_eq_getD_getElem?,Array.getElem?_setIfInBounds];by_cases h:i=j
 ·subst h;simp [hi]
 ·simp [h]
def unl (listed:Array Bool):Nat:=listed.toList.countP (fun b=>!b)
theorem qc7:∀(l:List Bool) (i:Nat),l[i]?=some false→(l.set i true).countP (fun b=>!b)+1=l.countP (fun b=>!b)
 |[],_,h=>by simp at h
 |b::l,0,h=>by simp at h;subst h;simp
 |b::l,i+1,h=>by have:=qc7 l i (by simpa using h);simp only [List.set_cons_succ,List.countP_cons];omega
theorem qz3 {listed:Array Bool} {i:Nat} (hi:i<listed.size) (h:lst listed i=false):unl (listed.setIfInBounds i true)+1=unl listed:=by unfold unl;rw [Array.toList_setIfInBounds];refine qc7 _ _ ?_;unfold lst at h;simp only [Array.getD,hi,dif_pos] at h;rw [zF,Array.getElem?_eq_getElem hi];exact congrArg some h
theorem qp4 {listed:Array Bool} (h:unl listed=0) {i:Nat} (hi:i<listed.size):lst listed i=true:=by unfold unl at h;rw [List.countP_eq_zero] at h;unfold lst;simp only [Array.getD,hi,dif_pos];have:=h listed[i] (by simp);simpa using this
theorem qp5 {ops:Array Oper} {listed:Array Bool} (hs:listed.size=ops.size) (hb:∀i o,ops[i]?=some o→∀e,e∈o.after.toList→Region.binds .any e=true→e.on<i) (h:Region.ready .any ops listed=[]):∀i,i<ops.size→lst listed i=true:=by
 intro i
 induction i using Nat.strongRecOn with
 |_ i ih=>
  intro hi;cases hl:lst listed i with
  |true=>rfl
  |false=>exfalso;have ho:ops[i]?=some ops[i]:=Array.getElem?_eq_getElem hi;have:i∈Region.ready .any ops listed:=(qe9 hs).2 ⟨_,ho,hl,fun e he hc=>by have:=hb i _ ho e he hc;exact ih _ this (by omega)⟩;rw [h] at this;cases this
end
end Ev

namespace Ev
open Go
theorem z18 {all:List Oper} {S:Nat→Bool} (hS:Down all S) {l1 l2:List En} {e:En} (he:S e.i=false) (hd:q4g (befs all []) all ((l1++e::l2).map En.tr).reverse=true):∀q,q∈l2→S q.i=true→(∀d,e.op.dst=some d→q.op.dst≠some d)∧∀id,id∈q0h e.u→id∉q0h q.u:=by
 have hc:=qhg (all:=all) all [] [] rfl rfl (fun i a h=>by simp at h);intro q hq hf;have hp:q6f (befs all []) all e.tr q.tr=true:=by
  obtain ⟨m1,m2,rfl⟩:=List.append_of_mem hq;refine q6r (m2.map En.tr).reverse ((l1++e::m1).map En.tr).reverse q.tr ?_ e.tr ?_
  ·have e1:l1++e::(m1++q::m2)=(l1++e::m1)++q::m2:=by simp
   rw [e1,zR,zI,List.reverse_append,List.reverse_cons,zu] at hd;exact hd
  ·exact List.mem_reverse.2 (List.mem_map_of_mem (List.mem_append_right _ (zj ..)))
 unfold q6f at hp;rw [Bool.or_eq_true] at hp;rcases hp with hp|hp
 ·have:=qbe hS (hc _ _ hp) hf;have this:S e.i=true:=this;rw [he] at this;cases this
 ·unfold qmf at hp;simp only [zd] at hp;obtain ⟨⟨⟨a1,_⟩,a3⟩,_⟩:=hp;refine ⟨fun d hd hq=>?_,fun id h1 h2=>qad a3 id h1 (List.mem_append_right _ h2)⟩;refine q99 a1 d hd (List.mem_append_right _ ?_);have hq:q.tr.op.dst=some d:=hq;rw [hq];exact zj ..
section
variable {C:Cx} {R:q1v C.sigs} {nt:Nat} {φ0:Nat→Addr} {o0:Nat→Obj} {w0:World} {sk:List Nat}
theorem qve (hC:CxOk C) (hE:EqOk C) (HC:∀X φ o w,MRel C X φ o w→∀fr f,q6p C R X φ o w fr f) {ops:Array Oper} {rg:Nat} {X:Nat→Prop} {Q:Exit→Act→World→Prop} {st0:St} {es:List En} (hz:es.map (·.op)=ops.toList) (ht:qhf C R rg ops.toList 0 st0 es) (hd:q4g (befs ops.toList []) ops.toList (es.map En.tr).reverse=true) (hk:qcm rg (es.map En.tr).reverse=true) (hv:q4y nt ops.toList=true) (fin:Sound C nt X (HJ sk φ0 o0 w0) (q2i es st0) (Q .normal)):∀(fuel:Nat) (listed:Array Bool) (X':Nat→Prop) (φ:Nat→Addr) (a:Act) (w:World),listed.size=ops.size→unl listed≤fuel→Down ops.toList (lst listed)→(∀b,X b→X' b)→Rel C nt X' φ (fam (lst listed) es st0) a w→Hist sk φ0 o0 w0 φ (fam (lst listed) es st0).obj w→wpAny C.P .any ops Q fuel listed a w:=by
 have hw:es.length=ops.size:=by rw [←zH (f:=(·.op)),hz,Array.length_toList]
 have split:∀i,i<es.length→∃l1 e l2,es=l1++e::l2∧l1.length=i∧e.i=i∧ops.toList[i]?=some e.op∧EnOk C R rg ops.toList (q2i l1 st0) e∧KnOk (q2i l1 st0) e.kn∧(∀q,q∈l1→q.i<i)∧(∀q,q∈l2→i<q.i):=by
  intro i hi;refine ⟨es.take i,es[i],es.drop (i+1),?_,?_,?_⟩
  ·rw [←List.drop_eq_getElem_cons hi,List.take_append_drop]
  ·rw [zM];omega
  ·have e1:es=es.take i++es[i]::es.drop (i+1):=by rw [←List.drop_eq_getElem_cons hi,List.take_append_drop]
   have hr:=ht;rw [e1] at hr;obtain ⟨g1,g2,g3,g4,g5⟩:=qe8 _ _ _ _ _ hr;have e2:(es.take i).length=i:=by rw [zM];omega
   rw [e2] at g1 g4 g5;refine ⟨by omega,?_,g2,g3,fun q hq=>by have:=g4 q hq;omega,fun q hq=>by have:=g5 q hq;omega⟩;rw [←hz,zY,zg hi];rfl
 have trs:∀e,e∈es→qog e.i e.op.after.toList=true∧qd6 e.F (q1f rg e.i) (q0h e.u)=true:=fun e he=>qjj hk e.tr (List.mem_reverse.2 (List.mem_map_of_mem he));have back:∀i o,ops[i]?=some o→∀e,e∈o.after.toList→Region.binds .any e=true→e.on<i:=by
  intro i o ho ed he hb;have hi:i<es.length:=by
   rw [hw];rcases Nat.lt_or_ge i ops.size with h|h
   ·exact h
   ·rw [zS h] at ho;cases ho
  obtain ⟨l1,e,l2,h1,_,h2,h3,_⟩:=split i hi;rw [zF,ho] at h3;injection h3 with h3;have:=(trs e (by rw [h1];exact List.mem_append_right _ (zj ..))).1;rw [h2] at this;exact qjk this ed (by rw [←h3];exact he) hb
 have ilt:∀q,q∈es→q.i<ops.size:=by
  intro q hq;obtain ⟨i,hi,rfl⟩:=List.mem_iff_getElem.1 hq;obtain ⟨l1,e,l2,h1,h0,h2,_⟩:=split i hi;have:es[i]=e:=by
   have:es[i]?=some e:=by rw [h1,zK (by omega),h0,Nat.sub_self];rfl
   rw [zg hi] at this;injection this
  rw [this,h2];omega
 have done:∀(listed:Array Bool) X' φ a w,listed.size=ops.size→(∀b,X b→X' b)→Rel C nt X' φ (fam (lst listed) es st0) a w→Hist sk φ0 o0 w0 φ (fam (lst listed) es st0).obj w→Region.ready .any ops listed=[]→Q .normal a w:=by intro listed X' φ a w hs hX hR hJ hr;have hx:=qp5 hs back hr;rw [qlp es st0 fun q hq=>hx _ (ilt q hq)] at hR hJ;exact fin X' φ a w hX hR hJ
 intro fuel
 induction fuel with
 |zero=>
  intro listed X' φ a w hs hu hD hX hR hJ;have hr:Region.ready .any ops listed=[]:=by
   rw [List.eq_nil_iff_forall_not_mem];intro i hi;obtain ⟨o,ho,hl,_⟩:=(qe9 hs).1 hi;have:i<listed.size:=by
    rcases Nat.lt_or_ge i listed.size with h|h
    ·exact h
    ·rw [zS (by omega)] at ho;cases ho
   rw [qp4 (by omega) this] at hl;cases hl
  exact ⟨hr,done listed X' φ a w hs hX hR hJ hr⟩
 |succ fuel ih=>
  intro listed X' φ a w hs hu hD hX hR hJ;refine ⟨done listed X' φ a w hs hX hR hJ,fun i hi=>?_⟩;obtain ⟨o,ho,hl,hf⟩:=(qe9 hs).1 hi;have hG:i<ops.size:=by
   rcases Nat.lt_or_ge i ops.size with h|h
   ·exact h
   ·rw [zS h] at ho;cases ho
  obtain ⟨l1,e,l2,h1,_,h2,h3,h4,h5,h6,h7⟩:=split i (by omega);have hA:o=e.op:=by rw [zF,ho] at h3;injection h3
  subst h2 hA;have hy:e∈es:=by rw [h1];exact List.mem_append_right _ (zj ..)
  have hB:=(trs e hy).2;have hF:qro nt e.op.dst:=qfv hv e.op (zQ h3);subst h1;refine qs0 hC hE HC (l1:=l1) (l2:=l2) (st0:=st0) h3 hD hf hl hd h6 h7 hB h4 h5 hR fun z w' φ' hc=>?_;have hg:∀j,lst (listed.setIfInBounds e.i true) j=(decide (e.i=j)||lst listed j):=fun j=>qz2 (by omega);have hn:fam (lst (listed.setIfInBounds e.i true)) (l1++e::l2) st0=e.app (fam (lst listed) (l1++e::l2) st0):=by
   refine qvb st0 (fun q hq=>?_) (fun q hq=>?_) hl (by rw [hg];simp) (z18 hD hl hd)
   ·have:=h6 q hq;rw [hg,zp (by omega),Bool.false_or]
   ·have:=h7 q hq;rw [hg,zp (by omega),Bool.false_or]
  refine ih _ X' φ' _ w' (by simpa using hs) ?_ ?_ hX ?_ ?_
  ·have:=qz3 (listed:=listed) (i:=e.i) (by omega) hl;omega
  ·intro j oj hj hm ed he hb;rw [hg] at hm ⊢;rw [Bool.or_eq_true] at hm ⊢;right;rcases hm with hm|hm
   ·have hm:=zU hm;subst hm;rw [h3] at hj;injection hj with hj;subst hj;exact hf ed he hb
   ·exact hD j oj hj hm ed he hb
  ·rw [hn];exact hR.step hF hc
  ·rw [hn,q7o];exact hJ.step hc
theorem qz4 (hC:CxOk C) (hE:EqOk C) (hL:qhd C) (hm:C.P.follows .mixedOrders=true):qrs C:=by
 intro R hR nt sk φ0 o0 w0 rg ops n γ δ X Q wr st k y h hc hk X' φ a w hX he hJ;obtain ⟨es,h1,h2,h3,h4⟩:=qz0 n 0 ops.toList st [] [] h (fun d b hd=>by cases hd);rw [zo,zd] at h3;refine wp_region_any hm ?_;have hf:∀i,lst (Array.replicate ops.size false) i=false:=fun i=>by unfold lst;rw [Array.getD_eq_getD_getElem?,Array.getElem?_replicate];split<;>rfl
 have hg:fam (lst (Array.replicate ops.size false)) es st=st:=qhh es st fun q _=>hf _;refine qve hC hE (hL R hR) h1 h2 h3.1 h3.2 hc (hk _ h4) ops.size _ X' φ a _ (by simp) ?_ ?_ hX ?_ ?_
 ·unfold unl;exact Nat.le_trans List.countP_le_length (by simp)
 ·intro i o _ hs;rw [hf] at hs;cases hs
 ·rw [hg];exact he.drawn
 ·rw [hg];exact ⟨hJ.size,hJ.frame,hJ.news,hJ.still,hJ.up⟩
end
end Ev

