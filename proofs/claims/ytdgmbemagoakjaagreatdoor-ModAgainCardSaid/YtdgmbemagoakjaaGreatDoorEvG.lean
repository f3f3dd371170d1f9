/- Regions, code, functions and calls are sound. -/
import Derived.Test.YtdgmbemagoakjaaGreatDoorEvE
import Derived.Tactics
import Derived.Scope
import Derived.ScopeJumps
namespace Ev
open Go
variable{γ δ:Type}{J:(Nat→Prop)→(Nat→Addr)→St→Act→World→Prop}{as:Act}{ops:Array Oper}{u:List (Nat×Obj)}{ts:List Nat}{ds l:List Oper}{vs:List V}{dj fr i j nt:Nat}{nf φ:Nat→Addr}{o:Nat→Obj}{X imm':Nat→Prop}{oj:Oper}{d:Option Tmp}{ps:PS}{P:Program}{ss st:St}{v:V}{z:Value}{w w' ws:World}
section
variable {C:Cx} {nt:Nat} {X:Nat→Prop} {φ φ':Nat→Addr} {st:St} {a:Act} {w w':World} {R:kX C.sigs}
theorem qzv(a:Act)(d:Option Tmp)(z:Value):(a.put d z).tmps.size=a.tmps.size:=by cases d<;>simp[Act.put]
theorem qn2(a:Act)(d:Option Tmp)(z:Value):(a.put d z).defers=a.defers:=by cases d<;>rfl
theorem qzw(a:Act)(d:Tmp)(z:Value)(h:d<a.tmps.size):(a.put (some d) z).tmps.getD d undef=z:=by simp[Act.put,h]
theorem Wb(a:Act)(d:Option Tmp)(z:Value)(t:Nat)(h:d≠some t):(a.put d z).tmps.getD t undef=a.tmps.getD t undef:=by
 cases d with
 |none=>rfl
 |some d=>have:d≠t:=fun e=>h (e▸rfl);simp[Act.put,Array.getElem?_setIfInBounds_ne this]
def zjk(nt:Nat)(d:Option Tmp):Prop:=∀t,d=some t->t<nt
theorem Qn(st:St)(d:Option Nat)(v:V)(t:Nat):(d=some t/\(bN st d v).env t=v)\/(d≠some t/\(bN st d v).env t=st.env t):=by
 cases d with
 |none=>exact .inr ⟨by simp,rfl⟩
 |some d=>
  by_cases h:t=d
  ·subst h;exact .inl ⟨rfl,gq⟩
  ·exact .inr ⟨fun e=>h (by injection e with e;exact e.symm),nJ h⟩
theorem wG(st:St)(d:Option Nat)(v:V):(bN st d v).obj=st.obj:=by cases d<;>rfl
theorem Rel.step(h:Rel C nt X φ st a w)(hd:zjk nt d)(hc:Comes C X φ φ' st.obj u w w' v z):Rel C nt X φ' (bN {st with obj:=aj st.obj u} d v) (a.put d z) w':=by
 have ho:(bN {st with obj:=aj st.obj u} d v).obj=aj st.obj u:=wG _ _ _;refine⟨by rw[ho];exact hc.mem,(qzv _ _ _).trans h.size,fun t=>?_,by rw[qn2];exact h.defers⟩;rw[ho];rcases Qn {st with obj:=aj st.obj u} d v t with ⟨h1,h2⟩|⟨h1,h2⟩
 ·rw[h2];subst h1;rw[qzw _ _ _ (by rw[h.size];exact hd t rfl)];exact hc.val
 ·rw[h2,Wb _ _ _ _ h1];exact hc.keeps _ _ (h.env t)
theorem Rel.put(h:Rel C nt X φ st a w)(hd:zjk nt d)(hv:au φ st.obj (ag X φ st.obj w) w v z):Rel C nt X φ (bN st d v) (a.put d z) w:=by
 have ho:(bN st d v).obj=st.obj:=wG _ _ _;refine⟨by rw[ho];exact h.toMRel,(qzv _ _ _).trans h.size,fun t=>?_,by rw[qn2];exact h.defers⟩;rw[ho];rcases Qn st d v t with ⟨h1,h2⟩|⟨h1,h2⟩
 ·rw[h2];subst h1
  rwa [qzw _ _ _ (by rw[h.size];exact hd t rfl)]
 ·rw[h2,Wb _ _ _ _ h1];exact h.env t
theorem Rel.fj(h:Rel C nt X φ st a w){d:Nat}(hv:∀z,au φ st.obj (ag X φ st.obj w) w (st.env d) z->au φ st.obj (ag X φ st.obj w) w v z):Rel C nt X φ (bN st (some d) v) a w:=by
 refine⟨h.toMRel,h.size,fun t=>?_,h.defers⟩;rcases Qn st (some d) v t with ⟨h1,h2⟩|⟨h1,h2⟩
 ·rw[h2];injection h1 with h1;subst h1;exact hv _ (h.env d)
 ·rw[h2];exact h.env t
theorem qq3:wB nt l=true->∀o,o∈l->zjk nt o.dst:=by
 induction l with
 |nil=>intro _ o ho;cases ho
 |cons p r ih=>
  intro h o ho;simp[wB,Bool.and_eq_true] at h;rcases zA.1 ho with rfl|ho
  ·intro t e
   simp_all
  ·exact ih h.2 o ho
def Sound(C:Cx)(nt:Nat)(X:Nat->Prop)(J:(Nat->Prop)->(Nat->Addr)->St->Act->World->Prop)(st:St)(P:Act->World->Prop):Prop:=∀X' φ a w,(∀b,X b->X' b)->Rel C nt X' φ st a w->J X' φ st a w->P a w
theorem Qo{Q:Exit->Act->World->Prop}:∀(l m:List Oper) (a:Act) (w:World),wpList P ops (Exit.then (wpList P ops Q m) Q) l a w->wpList P ops Q (l++m) a w
 |[],m,a,w,h=>h
 |o::l,m,a,w,h=>by
  show(if Region.wanted o (yielded ops a.tmps) then o.wp P a w (wpList P ops Q (l++m)) Q\/(o.asks P a w/\LetsOut Q) else wpList P ops Q (l++m) (a.put o.dst undef) w);have h:(if Region.wanted o (yielded ops a.tmps) then o.wp P a w (wpList P ops (Exit.then (wpList P ops Q m) Q) l) (Exit.then (wpList P ops Q m) Q)\/(o.asks P a w/\LetsOut (Exit.then (wpList P ops Q m) Q)) else wpList P ops (Exit.then (wpList P ops Q m) Q) l (a.put o.dst undef) w):=h;split
  ·rename_i hw;rw[zu hw] at h;refine h.imp (fun h=>?_) (fun h=>h);unfold Oper.wp at*
   generalize (execOp a.eval o).run P w=r at*
   cases r with
   |ok n w'=>
    cases n<;>simp[Oper.upon] at h ⊢<;>
     first
      |exact Qo l m _ _ h
      |exact Calls.mono h (fun e Oi he=>by cases e<;>first|exact Qo l m _ _ he|exact he)
      |exact Rows.mono h (fun _ _ he=>Qo l m _ _ he)
   |halt x w'=>cases x<;>simp[Oper.upon] at h ⊢<;>exact h
  ·rename_i hw;rw[zj hw] at h;exact Qo l m _ _ h
end
theorem quj{d:Nat}:∀{g r:List Oper} {p:Oper},Im d l=some (g,p,r)->l=g++p::r:=by
 induction l with
 |nil=>intro g r p h;cases h
 |cons o l ih=>
  intro g r p h;have key:(Im d l).map (fun q=>(o::q.1,q.2.1,q.2.2))=some (g,p,r)->o::l=g++p::r:=by
   intro h;rw[jj] at h
   grind
  simp[Im] at h
  grind
theorem qha{m:List Oper}:wB nt (l++m)=true->wB nt l=true/\wB nt m=true:=by
 induction l with
 |nil=>exact fun h=>⟨rfl,h⟩
 |cons o l ih=>
  intro h;simp[List.cons_append,wB,Bool.and_eq_true] at h ⊢
  grind
theorem qxj:Bp (some o) u=true->∀id,id∈bU u->o id=.none:=by
 induction u with
 |nil=>intro _ id hi;cases hi
 |cons q r ih=>
  have⟨i,x⟩:=q;intro h id hi;simp[Bp,Bool.and_eq_true] at h;rcases zA.1 hi with hi|hi
  all_goals grind
theorem qn3:∀(g:List Oper) (st:St),(Bo st g).obj=st.obj
 |[],_=>rfl
 |o::r,st=>by show(Bo (bN st o.dst .dZ) r).obj=_;rw[qn3 r,wG]
theorem quk:∀(g:List Oper) (st:St) (t:Nat),(Bo st g).env t=.dZ\/((Bo st g).env t=st.env t/\∀o,o∈g->o.dst≠some t)
 |[],_,_=>.inr ⟨rfl,(fun _ h=>by cases h)⟩
 |o::r,st,t=>by
  rcases quk r (bN st o.dst .dZ) t with h|⟨h1,h2⟩
  ·exact .inl h
  ·rcases Qn st o.dst .dZ t with ⟨h3,h4⟩|⟨h3,h4⟩
   ·exact .inl (h1.trans h4)
   ·refine .inr ⟨h1.trans h4,fun q hq=>?_⟩
    grind
section
variable {C:Cx} {nt:Nat} {X:Nat→Prop} {R:kX C.sigs}
structure xR (ds:List Oper) (nf:Nat->Addr) (ss:St) (as:Act) (ws:World) (φ:Nat->Addr) (st:St) (a:Act) (w:World):Prop where
 size:ws.heap.size<=w.heap.size
 same:∀b,b<ws.heap.size->w.heap[b]?=ws.heap[b]?
 cO:∀id,ss.obj id≠.none->st.obj id=ss.obj id/\φ id=nf id
 new:∀id,ss.obj id=.none->aV (φ id) (st.obj id)=true->ws.heap.size<=(φ id).block
 tmps:∀t,(∀o,o∈ds->o.dst≠some t)->a.tmps.getD t undef=as.tmps.getD t undef
 still:Bu ws w
theorem xR.step{φ':Nat->Addr}{a:Act}(h:xR ds nf ss as ws φ st a w){o:Oper}(ho:o∈ds)(hc:Comes C X φ φ' st.obj u w w' v z)(hn:Bp (some ss.obj) u=true):xR ds nf ss as ws φ' (bN {st with obj:=aj st.obj u} o.dst v) (a.put o.dst z) w':=by
 have hk:=qxj hn;have he:(bN {st with obj:=aj st.obj u} o.dst v).obj=aj st.obj u:=wG _ _ _;have cO:∀id,ss.obj id≠.none->aj st.obj u id=ss.obj id/\φ' id=nf id:=fun id hi=>by have⟨h1,h2⟩:=h.cO id hi;have hf:id∉bU u:=fun hm=>hi (hk id hm);exact⟨(iR hf).trans h1,(hc.xL id (by rw[h1];exact hi) hf).trans h2⟩
 refine⟨je h.size hc.size,fun b hb=>?_,by rw[he];exact cO,fun id hi hx=>?_,fun t ht=>?_,⟨hc.still.1.trans h.still.1,hc.still.2.trans h.still.2⟩⟩
 ·rw[hc.frame b (jo hb h.size),h.same b hb];rintro⟨id,h1,h2,h3⟩;have:=h.new id (hk id h1) h2;omega
 ·rw[he] at hx;rcases hc.news id hx with h1|⟨j,h1,h2⟩
  ·have:=h.size;omega
  ·by_cases hj:ss.obj j=.none
   ·have:=h.new j hj h1;omega
   ·exfalso;have⟨e1,e2⟩:=cO j hj;have⟨e3,e4⟩:=h.cO j hj;have hg:aV (φ' j) (aj st.obj u j)=true:=by rw[e1,e2,<-e3,<-e4];exact h1
    have:=hc.mem.inj j id hg hx (by rw[e2,<-e4];exact h2);subst this;exact hj hi
 ·rw[Wb _ _ _ _ (ht o ho)];exact h.tmps t ht
theorem xR.undef{a:Act}(h:xR ds nf ss as ws φ st a w){o:Oper}(ho:o∈ds)(v:V)(z:Value):xR ds nf ss as ws φ (bN st o.dst v) (a.put o.dst z) w:=⟨h.size,h.same,by rw[wG];exact h.cO,by rw[wG];exact h.new,fun t ht=>by rw[Wb _ _ _ _ (ht o ho)];exact h.tmps t ht,h.still⟩
theorem xR.fj{a:Act}(h:xR ds nf ss as ws φ st a w)(d:Option Nat)(v:V):xR ds nf ss as ws φ (bN st d v) a w:=⟨h.size,h.same,by rw[wG];exact h.cO,by rw[wG];exact h.new,h.tmps,h.still⟩
theorem xR.forget{g:List Oper}{p:Oper}{pd:Nat}(hk:p.dst=some pd){a:Act}(hs:Rel C nt X nf ss as ws)(he:Rel C nt X φ st a w)(h:xR (g++[p]) nf ss as ws φ st a w){y:Bool}(hy:eI (st.env pd)=.d .bool y):Rel C nt X nf (bN (Bo ss g) (some pd) (.d .bool y)) a w:=by
 have hc:(bN (Bo ss g) (some pd) (.d .bool y)).obj=ss.obj:=by rw[wG,qn3]
 have hf:∀b,ag X nf ss.obj ws b->ag X nf ss.obj w b:=fun b hb=>⟨jo hb.1 h.size,hb.2.1,hb.2.2⟩;have hj:∀b,ag X nf ss.obj ws b->w.heap[b]?=ws.heap[b]?:=fun b hb=>h.same b hb.1;have keeps:∀x z,au nf ss.obj (ag X nf ss.obj ws) ws x z->au nf ss.obj (ag X nf ss.obj w) w x z:=fun x z hx=>Bs hf hj (fun id=>Up.same fun hx n hr=>Ez (h.same _ (hs.sep id hx).1) hr) x z hx;refine⟨?_,he.size,fun t=>?_,he.defers⟩
 ·rw[hc];refine⟨fun id=>Iw hf hj keeps rfl (fun hx=>h.same _ (hs.sep id hx).1) (hs.ar id),hs.inj,fun i hi=>⟨jo (hs.sep i hi).1 h.size,(hs.sep i hi).2⟩,
   fun b hb=>jo (hs.xs b hb) h.size,fun id=>hs.lC id (fun hx=>.same (h.same _ (hs.sep id hx).1)) hj,fun g t x hg=>keeps _ _ (hs.fT g t x hg),hs.rT hj⟩
 ·rw[hc];rcases Qn (Bo ss g) (some pd) (.d .bool y) t with ⟨h1,h2⟩|⟨h1,h2⟩
  ·rw[h2];injection h1 with h1;subst h1;have:=PO (he.env pd);rw[hy] at this;have:=uB this;rw[this];exact EA
  ·rw[h2];rcases quk g ss t with h3|⟨h3,h4⟩
   ·rw[h3];trivial
   ·rw[h3,h.tmps t fun o ho=>?_]
    ·exact keeps _ _ (hs.env t)
    grind
theorem qjd{a:Act}{b:Bool}(hj:ops.toList[j]?=some oj)(hd:oj.dst=some dj)(h:a.tmps.getD dj undef=.bool b):yielded ops a.tmps j=some b:=by
 unfold yielded;rw[ji] at hj;have h':a.tmps[dj]?=some (.bool b):=by
  rw[jI] at h;cases e:a.tmps[dj]? with
  |none=>rw[e] at h;cases h
  |some z=>rw[e] at h;exact jd some h
 simp[hj,hd,h']
theorem qn4{a:Act}(hj:ops.toList[j]?=some oj)(hd:oj.dst=some dj)(h:a.tmps.getD dj undef=undef):yielded ops a.tmps j=none:=by
 unfold yielded;rw[ji] at hj;rw[jI] at h;simp[hj,Option.bind_some,hd];cases e:a.tmps[dj]? with
 |none=>rfl
 |some z=>rw[e] at h;subst h;rfl
structure sb (C:Cx) (nt:Nat) (g0:Option (Nat->Obj)) (r:List Oper) (J:(Nat->Prop)->(Nat->Addr)->St->Act->World->Prop):Prop where
 step:∀X φ st a w φ' u v z w' o,o∈r->J X φ st a w->Rel C nt X φ st a w->Comes C X φ φ' st.obj u w w' v z->Bp g0 u=true->J X φ' (bN {st with obj:=aj st.obj u} o.dst v) (a.put o.dst z) w'
 undef:∀X φ st a w o,o∈r->J X φ st a w->J X φ (bN st o.dst .undef) (a.put o.dst undef) w
 fj:∀X φ st a w d v,J X φ st a w->J X φ (bN st d v) a w
 forget:g0=none->∀X nf ss as ws φ st a w (g js:List Oper) (v:Option Nat×V),J X nf ss as ws->xR g nf ss as ws φ st a w->J X nf (bN (Bo ss js) v.1 v.2) a w
theorem sb.tail{g0:Option (Nat->Obj)}{r r':List Oper}(h:sb C nt g0 r J)(hs:∀o,o∈r'->o∈r):sb C nt g0 r' J:=⟨fun X φ st a w φ' u v z w' o ho=>h.step X φ st a w φ' u v z w' o (hs o ho),fun X φ st a w o ho=>h.undef X φ st a w o (hs o ho),h.fj,h.forget⟩
variable (hC:cS C) (hE:nW C) (HC:∀X φ o w,MRel C X φ o w→∀fr f,EE C R X φ o w fr f)
include hC hE HC
theorem qxk{rg:Nat}:∀(n:Nat) {γ δ:Type} (X:Nat->Prop) (Q:Exit->Act->World->Prop) (wr:γ->δ) (i:Nat) (r:List Oper) (st:St) (k:(γ->δ)->St->Option δ) (y:δ) (J:(Nat->Prop)->(Nat->Addr)->St->Act->World->Prop) (g0:Option (Nat->Obj)),rl lf C R rg ops.toList g0 n wr i r st k=some y->wB nt r=true->sb C nt g0 r J->(∀bV,k wr bV=some y->Sound C nt X J bV (Q .normal))->Sound C nt X J st (wpList C.P ops Q r):=by
 intro n
 induction n with
 |zero=>intro γ δ X Q wr i r st k y J g0 h;cases h
 |succ n ih=>
  intro γ δ X Q wr i r st k y J g0 h hd hJ hk;cases r with
  |nil=>exact hk st h
  |cons o r=>
   have hm:=qq3 hd o (zg ..);have hn:=(qha (l:=[o]) hd).2;have hs:=hJ.tail fun q hq=>zf _ hq;have runs:(match dD lf C R st.env st.obj (lS rg i) o.type o.op with
     |.fail=>none
     |.nQ v u=>bif Bp g0 u then pB v fun v=>uW (lS rg i) st.obj u fun o'=>rl lf C R rg ops.toList g0 n wr (i+1) r (bN {st with obj:=o'} o.dst v) k else none
     |.dyn _ x out=>lf.b x fun y=>bif Bp g0 (out y).2 then pB (out y).1 fun v=>uW (lS rg i) st.obj (out y).2 fun o'=>rl lf C R rg ops.toList g0 n wr (i+1) r (bN {st with obj:=o'} o.dst v) k else none)=some y->
     ∀X' φ a w,(∀b,X b->X' b)->Rel C nt X' φ st a w->J X' φ st a w->o.wp C.P a w (wpList C.P ops Q r) Q:=by
    intro h X' φ a w hX hR hj;have go:∀v u,(dD lf C R st.env st.obj (lS rg i) o.type o.op).aD v u->(bif Bp g0 u then pB v fun v=>uW (lS rg i) st.obj u fun o'=>rl lf C R rg ops.toList g0 n wr (i+1) r (bN {st with obj:=o'} o.dst v) k else none)=some y->
      o.wp C.P a w (wpList C.P ops Q r) Q:=by
     intro v u hg h;cases hb:Bp g0 u with
     |false=>rw[hb] at h;cases h
     |true=>rw[hb,zK,z67] at h;have⟨h1,h2⟩:=qrw _ _ _ _ h;have hl:=zjd hC hE hR.toMRel (fun x=>hR.cE x) (HC X' φ st.obj w hR.toMRel (lS rg i)) hg h2;exact hl.upon fun val w' φ' hc=>ih X Q wr (i+1) r _ k y J g0 h1 hn hs hk X' φ' _ w' hX (hR.step hm hc) (hJ.step X' φ st a w φ' u v val w' o (zg ..) hj hR hc hb)
    generalize hp:dD lf C R st.env st.obj (lS rg i) o.type o.op=pk at h go;cases pk with
    |fail=>cases h
    |nQ v u=>exact go v u ⟨rfl,rfl⟩ h
    |dyn α x out=>have⟨q,h1,h2⟩:=Dx (x:=x) h;exact go (out q).1 (out q).2 ⟨q,h1,rfl⟩ h2
   have G1:rl lf C R rg ops.toList g0 n wr (i+1) r (bN st o.dst .undef) k=some y->Sound C nt X J st (fun a w=>wpList C.P ops Q r (a.put o.dst undef) w):=by intro h X' φ a w hX hR hj;exact ih X Q wr (i+1) r _ k y J g0 h hn hs hk X' φ _ w hX (hR.put hm rfl) (hJ.undef X' φ st a w o (zg ..) hj)
   intro X' φ a w hX hR hj;show(if Region.wanted o (yielded ops a.tmps) then o.wp C.P a w (wpList C.P ops Q r) Q\/(o.asks C.P a w/\LetsOut Q) else wpList C.P ops Q r (a.put o.dst undef) w);unfold rl at h;simp only at h;split at h
   ·rename_i hg;rw[zu (by simp[Region.wanted,hg])]
    grind
   ·rename_i j want hg;split at h
    ·rename_i oj ht;split at h
     ·rename_i dj hu;split at h
      ·
       rename_i b hb;have hz:=hR.env dj;rw[hb] at hz;have hy:=qjd ht hu hz;have hw:Region.wanted o (yielded ops a.tmps)=(bif want then b else !b):=by
        unfold Region.wanted
        grind
       rw[hw];cases hc:(bif want then b else !b) with
       |true=>grind
       |false=>rw[hc] at h;exact G1 h X' φ a w hX hR hj
      ·
       rename_i hb;have hz:=hR.env dj;rw[hb] at hz;have hy:=qn4 ht hu hz;have hw:Region.wanted o (yielded ops a.tmps)=false:=by
        unfold Region.wanted
        grind
       rw[hw];exact G1 h X' φ a w hX hR hj
      ·rename_i x hb;split at h
       ·
        have rc:∀b,x=b->∀z,au φ st.obj (ag X' φ st.obj w) w (st.env dj) z->au φ st.obj (ag X' φ st.obj w) w (.lb b) z:=by intro b e z hz;rw[hb] at hz;subst e;exact uB hz
        cases x with
        |true=>exact ih X Q wr i (o::r) _ k y J _ h hd hJ hk X' φ a w hX (hR.fj (rc true rfl)) (hJ.fj X' φ st a w _ _ hj)
        |false=>exact ih X Q wr i (o::r) _ k y J _ h hd hJ hk X' φ a w hX (hR.fj (rc false rfl)) (hJ.fj X' φ st a w _ _ hj)
       ·cases hv:qz8 C dj (o::r)
        case true=>
         rw[hv] at h;have rc:∀b,x=b->∀z,au φ st.obj (ag X' φ st.obj w) w (st.env dj) z->au φ st.obj (ag X' φ st.obj w) w (.lb b) z:=by intro b e z hz;rw[hb] at hz;subst e;exact uB hz
         cases x with
         |true=>exact ih X Q wr i (o::r) _ k y J _ h hd hJ hk X' φ a w hX (hR.fj (rc true rfl)) (hJ.fj X' φ st a w _ _ hj)
         |false=>exact ih X Q wr i (o::r) _ k y J _ h hd hJ hk X' φ a w hX (hR.fj (rc false rfl)) (hJ.fj X' φ st a w _ _ hj)
        rw[hv] at h;split at h
        ·rename_i g p r' hA;split at h
         ·rename_i pd hB;have⟨yb,h1,h2⟩:=Dx h;have hD:=quj hA;show wpList C.P ops Q (o::r) a w;rw[hD] at hd hJ ⊢;have he:g++p::r'=(g++[p])++r':=by simp
          rw[he] at hd hJ ⊢;have⟨hF,hH⟩:=qha hd;refine Qo _ _ _ _ ?_;have rc:∀b,x=b->∀z,au φ st.obj (ag X' φ st.obj w) w (st.env dj) z->au φ st.obj (ag X' φ st.obj w) w (.lb b) z:=by intro b e z hz;rw[hb] at hz;subst e;exact uB hz
          have ru:rl (γ:=Bool) (δ:=Bool) lf C R rg ops.toList (some st.obj) n (fun x=>x) i (g++[p]) (bN st (some dj) (.lb x)) (fun w' bV=>zmn _ w' (eI (bV.env pd)))=some yb:=by cases x<;>exact h1
          refine ih X' (Exit.then (wpList C.P ops Q r') Q) (fun x=>x) i (g++[p]) _ _ yb (fun X2 fF st2 a2 w2=>X2=X'/\xR (g++[p]) φ st a w fF st2 a2 w2) (some st.obj) ru hF ?_ ?_ X' φ a w (fun _ h=>h) (hR.fj (rc x rfl)) ⟨rfl,?_⟩
          ·refine⟨fun X2 fF st2 a2 w2 φ' u v z w' q hq ⟨e,hG⟩ hx hc ho=>⟨e,hG.step hq hc ho⟩,fun X2 fF st2 a2 w2 q hq ⟨e,hG⟩=>⟨e,hG.undef hq _ _⟩,fun X2 fF st2 a2 w2 d v ⟨e,hG⟩=>⟨e,hG.fj d v⟩,nofun⟩
          ·intro bV hf X2 fF a2 w2 _ hx ⟨e,hG⟩;subst e;have hI:eI (bV.env pd)=.d .bool yb:=by
            revert hf;generalize eI (bV.env pd)=q;intro hq;cases q<;>try (cases hq;done)
            rename_i t d;cases t<;>try (cases hq;done)
            injection hq with hq;rw[<-hq]
           exact ih X Q wr _ r' _ k y J none h2 hH (hJ.tail fun q hq=>zG _ hq) hk X2 φ a2 w2 hX (hG.forget hB hR hx hI)
            (hJ.forget rfl X2 φ st a w fF bV a2 w2 (g++[p]) g (some pd,.d .bool yb) hj hG)
          ·exact⟨zm _,fun _ _=>rfl,fun _ _=>⟨rfl,rfl⟩,fun id h1 h2=>(by
            have:(bN st (some dj) (.lb x)).obj=st.obj:=wG _ _ _;rw[this,h1] at h2;cases h2),fun _ _=>rfl,⟨rfl,rfl⟩⟩
         ·cases h
        ·cases h
      ·cases h
     ·cases h
    ·cases h
end
inductive fN (nt:Nat):Code->AC->Prop where
 |skip:fN nt .skip .skip
 |label (l:Nat):fN nt (.label l) .skip
 |region (id:Nat) (ops:Array Oper) (d:Bool) (h:wB nt ops.toList=true):fN nt (.region id ops d) (.region id ops d)
 |seq {a b:Code} {a' b':AC} (ha:fN nt a a') (hb:fN nt b b'):fN nt (.seq a b) (.seq a' b')
 |cond {a b:Code} {a' b':AC} (c:Operand) (ts:List Nat) (ha:fN nt a a') (hb:fN nt b b'):fN nt (.cond c a b) (.cond c ts a' b')
 |block {b:Code} {b':AC} (id:Nat) (ts:List Nat) (hb:fN nt b b'):fN nt (.block id b) (.block id ts b')
 |loop {b:Code} {b':AC} (ts:List Nat) (hb:fN nt b b'):fN nt (.loop b) (.loop ts b')
 |exit (id:Nat):fN nt (.exit id) (.exit id)
 |goto (l:Nat):fN nt (.goto l) (.goto l)
 |ret:fN nt .ret .ret
 |scope {b:Code} {b':AC} (hb:fN nt b b'):fN nt (.scope b) (.scope b')
 |jump {b p r:Code} {p' r':AC} (l:Nat) (ts:List Nat) (h1:ahead l b=some p) (h2:findLabel b l=some r) (hp:fN nt p p') (hr:fN nt r r'):fN nt (.scope b) (.jump l ts p' r')
 |bad (c:Code):fN nt c .bad
def vf(P:Program):Code->(Exit->Act->World->Prop)->Act->World->Prop
 |.seq x y,Q=>vf P x (Exit.then (vf P y Q) Q)
 |.skip,Q=>Q .normal
 |.label _,Q=>Q .normal
 |c,Q=>c.wp P Q
theorem AJ:∀{c:Code} {Q:Exit->Act->World->Prop} {a:Act} {w:World},vf P c Q a w->c.wp P Q a w:=by
 intro c
 induction c with
 |seq x y xS xT=>intro Q a w h;refine wp_seq (wp_mono (xS h) fun e a w h=>?_);cases e<;>first|exact xT h|exact h
 |skip=>intro Q a w h;exact wp_skip h
 |label l=>intro Q a w h;exact wp_label h
 |_=>intro Q a w h;exact h
theorem IL:∀{c:Code} {Q Q':Exit->Act->World->Prop} {a:Act} {w:World},vf P c Q a w->(∀e a w,Q e a w->Q' e a w)->vf P c Q' a w:=by
 intro c
 induction c with
 |seq x y xS xT=>intro Q Q' a w h hq;refine xS (Q:=Exit.then (vf P y Q) Q) h fun e a w h=>?_;cases e<;>first|exact xT h hq|exact hq _ _ _ h
 |skip=>intro Q Q' a w h hq;exact hq _ _ _ h
 |label l=>intro Q Q' a w h hq;exact hq _ _ _ h
 |_=>intro Q Q' a w h hq;exact wp_mono h hq
theorem z6c{l:Nat}:∀(c:Code) {p r:Code} {Q:Exit->Act->World->Prop} {a:Act} {w:World},ahead l c=some p->findLabel c l=some r->vf P p (Exit.then (vf P r Q) Q) a w->vf P c Q a w:=by
 have none:∀c,ahead l c=none->findLabel c l=none:=by
  intro c
  induction c with
  |seq x y xS xT=>
   intro h;simp[ahead] at h;split at h
   ·cases h
   ·rename_i e;split at h
    ·cases h
    ·rename_i e2;simp[findLabel,xS e,xT e2]
  |label j=>
   intro h;simp[ahead] at h;have:¬j=l:=fun e=>by simp_all
   simp[findLabel,this]
  |_=>intro h;rfl
 have Qp:∀c p,ahead l c=some p->∃r,findLabel c l=some r:=by
  intro c
  induction c with
  |seq x y xS xT=>
   intro p h;simp[ahead] at h;split at h
   ·rename_i c' e;have⟨r,hr⟩:=xS _ e;exact⟨.seq r y,by simp[findLabel,hr]⟩
   ·rename_i e;split at h
    ·rename_i c' e2;have⟨r,hr⟩:=xT _ e2;exact⟨r,by simp[findLabel,none _ e,hr]⟩
    ·cases h
  |label j=>
   intro p h;simp[ahead] at h;cases hb:Nat.beq j l with
   |true=>exact⟨.skip,by rw[zo hb];simp[findLabel]⟩
   |false=>rw[hb] at h;cases h
  |_=>intro p h;cases h
 intro c
 induction c with
 |seq x y xS xT=>
  intro p r Q a w h1 h2 h;simp[ahead] at h1;split at h1
  ·rename_i c' e;cases h1;have⟨rx,hc⟩:=Qp _ _ e;simp[findLabel,hc,Option.some.injEq] at h2;subst h2;refine xS (Q:=Exit.then (vf P y Q) Q) e hc (IL h fun e a w h=>?_);cases e<;>exact h
  ·rename_i e;split at h1
   ·rename_i c' e2;cases h1;simp[findLabel,none _ e] at h2;refine IL (c:=x) h fun e a w h=>?_;cases e<;>first|exact xT e2 h2 h|exact h
   ·cases h1
 |label j=>
  intro p r Q a w h1 h2 h;simp[ahead] at h1;cases hb:Nat.beq j l with
  |true=>rw[hb] at h1;injection h1 with h1;have hb:=zo hb;simp[findLabel,hb,Option.some.injEq] at h2;subst h1 h2;exact h
  |false=>rw[hb] at h1;cases h1
 |_=>intro p r Q a w h1;cases h1
def Ex.to:Ex->Exit
 |.normal=>.normal
 |.exit id=>.exit id
 |.goto l=>.goto l
 |.ret=>.ret
theorem DB{p:Nat->Prop}(h:∃n,p n):∃n,p n/\∀m,p m->n<=m:=by
 have⟨n,hn⟩:=h
 induction n using Nat.strongRecOn with
 |_ n ih=>grind
theorem IM{σ ρ:Type}{f:σ->Option (σ⊕ρ)}{s:σ}{r:ρ}(h:aI f s=some r):∃n,oT f n s=some r:=by
 unfold aI at h;cases h1:oT f 300 s with
 |some a=>exact⟨300,by rw[h1] at h ⊢;exact h⟩
 |none=>
  split at h
  all_goals grind
section
variable {C:Cx} {nt:Nat} {R:kX C.sigs} {fi:Nat→Addr} {o0:Nat→Obj} {w0:World} {sk:List Nat}
abbrev HJ(sk:List Nat)(fi:Nat->Addr)(o0:Nat->Obj)(w0:World):(Nat->Prop)->(Nat->Addr)->St->Act->World->Prop:=fun _ φ st _ w=>eU sk fi o0 w0 φ st.obj w
theorem HJ.keeps(r:List Oper):sb C nt none r (HJ sk fi o0 w0):=by
 refine⟨fun X φ st a w φ' u v z w' o ho h hR hc _=>?_,fun X φ st a w o ho h=>?_,fun X φ st a w d v h=>?_,fun _ X nf ss as ws φ st a w g js v h hG=>?_⟩
 ·show eU sk fi o0 w0 φ' (bN {st with obj:=aj st.obj u} o.dst v).obj w';rw[wG];exact h.step hc
 ·show eU sk fi o0 w0 φ (bN st o.dst .undef).obj w;rw[wG];exact h
 ·show eU sk fi o0 w0 φ (bN st d v).obj w;rw[wG];exact h
 ·show eU sk fi o0 w0 nf (bN (Bo ss js) v.1 v.2).obj w;rw[wG,qn3];exact⟨je h.size hG.size,fun b hb hn=>by rw[hG.same b (jo hb h.size),h.frame b hb hn],h.news,⟨hG.still.1.trans h.still.1,hG.still.2.trans h.still.2⟩,fun id hi=>(h.up id hi).trans (Up.same fun _ n hr=>by refine Ez (hG.same _ ?_) hr;have⟨c,el,lo,he,h1,_⟩:=hr;exact(Array.getElem?_eq_some_iff.1 h1).1)⟩
def Qq(C:Cx)(nt:Nat)(J:(Nat->Prop)->(Nat->Addr)->St->Act->World->Prop)(X:Nat->Prop)(k:(δ:Type)->(γ->δ)->Ex->St->Option δ)(Q:(γ->Prop)->Exit->Act->World->Prop):Prop:=∀(δ:Type) (w:γ->δ) (e:Ex) (st:St) (y:δ),k δ w e st=some y->Sound C nt X J st (Q (fun g=>w g=y) e.to)
def DC(Q:(γ->Prop)->Exit->Act->World->Prop):Prop:=∀S S' e a w,(∀g,S g->S' g)->Q S e a w->Q S' e a w
def z6d(C:Cx)(nt:Nat)(R:kX C.sigs)(J:(Nat->Prop)->(Nat->Addr)->St->Act->World->Prop):Prop:=
 ∀(rg:Nat) (ops:Array Oper) (n:Nat) {γ δ:Type} (X:Nat->Prop) (Q:Exit->Act->World->Prop) (wr:γ->δ) (st:St) (k:(γ->δ)->St->Option δ) (y:δ),
  uY lf C R rg ops.toList n wr 0 ops.toList st [] [] k=some y->wB nt ops.toList=true->(∀bV,k wr bV=some y->Sound C nt X J bV (Q .normal))->
  Sound C nt X J st ((Code.region rg ops true).wp C.P Q)
theorem Sound.weaken{P P':Act->World->Prop}(h:Sound C nt X J st P)(hp:∀a w,P a w->P' a w):Sound C nt X J st P':=fun X' φ a w h1 h2 h3=>hp _ _ (h X' φ a w h1 h2 h3)
def BA(C:Cx)(nt:Nat)(sk:List Nat)(fi:Nat->Addr)(o0:Nat->Obj)(w0:World)(X:Nat->Prop)(ts:List Nat)(s:Shape)(c:ak s.bQ)(a:Act)(w:World):Prop:=∃X2 fF,(∀b,X b->X2 b)/\Rel C nt X2 fF (kH sk ts s c) a w/\eU sk fi o0 w0 fF (kH sk ts s c).obj w
theorem Wd{s:Shape}{w:ak s.bQ->δ}{aR:List (Nat×Nat)}{y:δ}(h:mg lf sk s w aR o vs=some y):∃ps c,Ik lf sk aR o s vs=some (ps,c)/\w c=y:=by
 unfold mg at h
 grind
def JQ(C:Cx)(nt:Nat)(sk:List Nat)(fi:Nat->Addr)(o0:Nat->Obj)(w0:World)(X:Nat->Prop)(ts:List Nat)(s:Shape)(wr:γ->δ)(Q:(γ->Prop)->Exit->Act->World->Prop):(ak s.bQ⊕δ->Prop)->Exit->Act->World->Prop
 |S,.normal,a,w=>∃c,S (.inl c)/\BA C nt sk fi o0 w0 X ts s c a w
 |S,e,a,w=>Q (fun g=>S (.inr (wr g))) e a w
theorem JQ.mono{s:Shape}{wr:γ->δ}{Q:(γ->Prop)->Exit->Act->World->Prop}(hQ:DC Q):DC (JQ C nt sk fi o0 w0 X ts s wr Q):=by intro S S' e a w hs h;cases e<;>first|exact hQ _ _ _ _ _ (fun g hg=>hs _ hg) h|exact(let ⟨c,h1,h2⟩:=h;⟨c,hs _ h1,h2⟩)
theorem qzx{s:Shape}{wr:γ->δ}{Q:(γ->Prop)->Exit->Act->World->Prop}(hQ:DC Q){y1:ak s.bQ⊕δ}{y:δ}{k:(δ:Type)->(γ->δ)->Ex->St->Option δ}(hk:Qq C nt (HJ sk fi o0 w0) X k Q)(h:cd (fun c=>xI sk ts s c fun st=>k δ wr .normal st) y1=some y)(e:Exit)(a:Act)(w:World)(hj:JQ C nt sk fi o0 w0 X ts s wr Q (fun g=>g=y1) e a w):Q (fun g=>wr g=y) e a w:=by
 cases y1 with
 |inl c=>
  have h:xI sk ts s c (fun st=>k δ wr .normal st)=some y:=h;rw[V7] at h;cases e with
  |normal=>have⟨c',h1,X2,fF,h2,h3,h4⟩:=hj;cases h1;exact hk δ wr .normal _ y h X2 fF a w h2 h3 h4
  |_=>exact hQ _ _ _ _ _ (fun g hg=>by cases hg) hj
 |inr d=>
  cases h;cases e with
  |normal=>have⟨c',h1,_⟩:=hj;cases h1
  |_=>exact hQ _ _ _ _ _ (fun g hg=>by injection hg) hj
theorem We{s:Shape}{dK:Type}{wr:γ->δ}{Q:(γ->Prop)->Exit->Act->World->Prop}{w':ak s.bQ⊕δ->dK}{bV:St}{y':dK}(BB:mj sk)(h:mg lf sk s (fun c=>w' (.inl c)) (uT 0 sk) bV.obj (ts.map fun t=>eI (bV.env t))=some y'):Sound C nt X (HJ sk fi o0 w0) bV (JQ C nt sk fi o0 w0 X ts s wr Q (fun g=>w' g=y') .normal):=by have⟨ps,c,h1,h2⟩:=Wd h;intro X' φ a w hX hR hJ;have⟨fF,X2,g1,g2,g3⟩:=Qm BB hR hJ h1;exact⟨c,h2,X2,fF,fun b hb=>g1 b (hX b hb),g2,g3⟩
variable (hC:cS C) (hE:nW C) (HC:∀X φ o w,MRel C X φ o w→∀fr f,EE C R X φ o w fr f) (HD:z6d C nt R (HJ sk fi o0 w0)) (BB:mj sk)
include hC hE HC HD BB
open Classical in
theorem zcd{c:Code}{ac:AC}(hA:fN nt c ac):∀(X:Nat->Prop) (st:St) (γ δ:Type) (w:γ->δ) (k:(δ:Type)->(γ->δ)->Ex->St->Option δ) (Q:(γ->Prop)->Exit->Act->World->Prop) (y:δ),DC Q->Qq C nt (HJ sk fi o0 w0) X k Q->ev lf C R sk ac st γ δ w k=some y->Sound C nt X (HJ sk fi o0 w0) st (vf C.P c (Q fun g=>w g=y)):=by
 induction hA with
 |skip=>intro X st γ δ w k Q y hQ hk h;exact hk δ w .normal st y h
 |label l=>intro X st γ δ w k Q y hQ hk h;exact hk δ w .normal st y h
 |region id ops d hd=>
  intro X st γ δ w k Q y hQ hk h;cases d with
  |true=>exact HD id ops _ X _ w st _ y h hd fun bV h'=>hk δ w .normal bV y h'
  |false=>refine(qxk hC hE HC (ops:=ops) (rg:=id) _ X (Q fun g=>w g=y) w 0 ops.toList st _ y (HJ sk fi o0 w0) none h hd (HJ.keeps _) fun bV h'=>hk δ w .normal bV y h').weaken fun a w h=>wp_region_list h
 |@seq ca cb a b ha hb rW mZ=>
  intro X st γ δ w k Q y hQ hk h;refine rW X st γ δ w _ (fun S e a w=>Exit.then (vf C.P cb (Q S)) (Q S) e a w) y ?_ ?_ h
  ·intro S S' e a w hs h;cases e<;>first|exact hQ _ _ _ _ _ hs h|exact IL h fun e a w h=>hQ _ _ _ _ _ hs h
  ·intro dK w' e bV y' h';cases e with
   |normal=>exact mZ X bV γ dK w' k Q y' hQ hk h'
   |exit id=>exact hk dK w' (.exit id) bV y' h'
   |goto l=>exact hk dK w' (.goto l) bV y' h'
   |ret=>exact hk dK w' .ret bV y' h'
 |@cond ca cb a b c ts ha hb rW mZ=>
  intro X st γ δ w k Q y hQ hk h X' φ act wd hX hR hJ;unfold ev at h;split at h
  ·rename_i x hx;have hz:=hR.cE c;rw[hx] at hz;have hz:=uB hz;have plain:aL x (ev lf C R sk a st γ δ w k) (ev lf C R sk b st γ δ w k)=some y->(Code.cond c ca cb).wp C.P (Q fun g=>w g=y) act wd:=by
    intro h;cases x with
    |true=>exact wp_cond_true hz (AJ (rW X st γ δ w k Q y hQ hk h X' φ act wd hX hR hJ))
    |false=>exact wp_cond_false hz (AJ (mZ X st γ δ w k Q y hQ hk h X' φ act wd hX hR hJ))
   cases hf:(wC a&&wC b) with
   |false=>rw[hf] at h;exact plain h
   |true=>
    rw[hf,zK,V6] at h;generalize N6 C sk st ts (qb a++qb b)=s at h;have both:∀(k':(dK:Type)->(ak s.bQ⊕δ->dK)->Ex->St->Option dK) (y1:ak s.bQ⊕δ),Qq C nt (HJ sk fi o0 w0) X k' (JQ C nt sk fi o0 w0 X ts s w Q)->
      aL x (ev lf C R sk a st (ak s.bQ⊕δ) (ak s.bQ⊕δ) (fun x=>x) k') (ev lf C R sk b st (ak s.bQ⊕δ) (ak s.bQ⊕δ) (fun x=>x) k')=some y1->
      (Code.cond c ca cb).wp C.P (JQ C nt sk fi o0 w0 X ts s w Q fun g=>g=y1) act wd:=by
     intro k' y1 hy h;cases x with
     |true=>exact wp_cond_true hz (AJ (rW X st _ _ (fun x=>x) k' _ y1 (JQ.mono hQ) hy h X' φ act wd hX hR hJ))
     |false=>exact wp_cond_false hz (AJ (mZ X st _ _ (fun x=>x) k' _ y1 (JQ.mono hQ) hy h X' φ act wd hX hR hJ))
    cases hl:(xH a||xH b) with
    |true=>
     rw[hl] at h;have⟨y1,h1,h2⟩:=Dx h;refine wp_mono (both _ y1 ?_ h1) fun e a w hj=>qzx hQ hk h2 e a w hj;intro dK w' e bV y' h';cases e with
     |normal=>exact We BB h'
     |exit id=>exact hk dK (fun g=>w' (.inr (w g))) (.exit id) bV y' h'
     |goto l=>exact hk dK (fun g=>w' (.inr (w g))) (.goto l) bV y' h'
     |ret=>exact hk dK (fun g=>w' (.inr (w g))) .ret bV y' h'
    |false=>
     rw[hl] at h;have⟨y1,h1,h2⟩:=Dx h
     have only:∀(cx:Code) (ax:AC),(∀(X:Nat->Prop) (st:St) (γ δ:Type) (w:γ->δ) (k:(δ:Type)->(γ->δ)->Ex->St->Option δ) (Q:(γ->Prop)->Exit->Act->World->Prop) (y:δ),
       DC Q->Qq C nt (HJ sk fi o0 w0) X k Q->ev lf C R sk ax st γ δ w k=some y->Sound C nt X (HJ sk fi o0 w0) st (vf C.P cx (Q fun g=>w g=y)))->
       ev lf C R sk ax st (ak s.bQ) (ak s.bQ) (fun x=>x) (fun _ w' e bV=>match e with
        |.normal=>mg lf sk s w' (uT 0 sk) bV.obj (ts.map fun t=>eI (bV.env t))
        |_=>none)=some y1->cx.wp C.P (Q fun g=>w g=y) act wd:=by
      intro cx ax ih h;have:=ih X st _ _ (fun x=>x) _ (fun S e a w=>match e with|.normal=>∃c,S c/\BA C nt sk fi o0 w0 X ts s c a w|_=>False) y1 ?_ ?_ h X' φ act wd hX hR hJ
      ·refine wp_mono (AJ this) fun e a2 w2 hj=>?_;cases e with
       |normal=>have⟨c',hc,X2,fF,g1,g2,g3⟩:=hj;subst hc;rw[V7] at h2;exact hk δ _ .normal _ y h2 X2 fF a2 w2 g1 g2 g3
       |_=>exact hj.elim
      ·intro S S' e a w hs h;cases e<;>first|exact h.elim|exact(let ⟨c,h1,h2⟩:=h;⟨c,hs _ h1,h2⟩)
      ·intro dK w' e bV y' h';cases e with
       |normal=>have⟨ps,cc,e1,e2⟩:=Wd h';intro X' φ a w hX hR hJ;have⟨fF,X2,g1,g2,g3⟩:=Qm BB hR hJ e1;exact⟨cc,e2,X2,fF,fun b hb=>g1 b (hX b hb),g2,g3⟩
       |_=>cases h'
     cases x with
     |true=>exact wp_cond_true hz (only ca a rW h1)
     |false=>exact wp_cond_false hz (only cb b mZ h1)
  ·cases h
 |@block cb b id ts hb ih=>
  intro X st γ δ w k Q y hQ hk h;have G2:∀{γ:Type} {Q:(γ->Prop)->Exit->Act->World->Prop},DC Q->DC (fun S=>Exit.inBlock id (Q S)):=by
   intro γ Q hQ S S' e a w hs h;cases e with
   |exit j=>
    show(if j=id then Q S' .normal a w else Q S' (.exit j) a w);have h:(if j=id then Q S .normal a w else Q S (.exit j) a w):=h;split
    ·rename_i e;rw[zu e] at h;exact hQ _ _ _ _ _ hs h
    ·rename_i e;rw[zj e] at h;exact hQ _ _ _ _ _ hs h
   |_=>exact hQ _ _ _ _ _ hs h
  unfold ev at h;cases hw:Nat.ble 2 (ways id b+(bif wC b then 1 else 0)) with
  |true=>
   rw[hw,zK,V6] at h;generalize N6 C sk st ts (qb b)=s at h;have⟨y1,h1,h2⟩:=Dx h;refine(ih X st _ _ (fun x=>x) _ (fun S=>Exit.inBlock id (JQ C nt sk fi o0 w0 X ts s w Q S)) y1 (G2 (JQ.mono hQ)) ?_ h1).weaken fun a wd hb=>wp_mono (wp_block (AJ hb)) fun e a wd hj=>qzx hQ hk h2 e a wd hj;intro dK w' e bV y' h';cases e with
   |normal=>exact We (wr:=w) (Q:=Q) BB h'
   |exit j=>
    show Sound C nt X _ bV (fun a wd=>if j=id then JQ C nt sk fi o0 w0 X ts s w Q (fun g=>w' g=y') .normal a wd else JQ C nt sk fi o0 w0 X ts s w Q (fun g=>w' g=y') (.exit j) a wd);simp at h';cases hj:Nat.beq j id with
    |true=>rw[hj] at h';have:=zo hj;simp[this];exact We (wr:=w) (Q:=Q) BB h'
    |false=>
     rw[hj] at h';have:¬j=id:=fun e=>by rw[e,JG] at hj;cases hj
     simp[this];exact hk dK (fun g=>w' (.inr (w g))) (.exit j) bV y' h'
   |goto l=>exact hk dK (fun g=>w' (.inr (w g))) (.goto l) bV y' h'
   |ret=>exact hk dK (fun g=>w' (.inr (w g))) .ret bV y' h'
  |false=>
   rw[hw] at h;refine(ih X st γ δ w _ (fun S=>Exit.inBlock id (Q S)) y (G2 hQ) ?_ h).weaken fun a wd hb=>wp_block (AJ hb);intro dK w' e bV y' h';cases e with
   |normal=>exact hk dK w' .normal bV y' h'
   |exit j=>
    show Sound C nt X _ bV (fun a wd=>if j=id then Q (fun g=>w' g=y') .normal a wd else Q (fun g=>w' g=y') (.exit j) a wd);simp at h';cases hj:Nat.beq j id with
    |true=>rw[hj] at h';have:=zo hj;simp[this];exact hk dK w' .normal bV y' h'
    |false=>
     rw[hj] at h';have:¬j=id:=fun e=>by rw[e,JG] at hj;cases hj
     simp[this];exact hk dK w' (.exit j) bV y' h'
   |goto l=>exact hk dK w' (.goto l) bV y' h'
   |ret=>exact hk dK w' .ret bV y' h'
 |@loop cb b ts hb ih=>
  intro X st γ δ w k Q y hQ hk h X' φ act wd hX hR hJ;unfold ev at h;rw[V6] at h;generalize N6 C sk st ts (qb b)=s at h;split at h
  ·rename_i p hp;have⟨n0,ho⟩:=IM h;generalize hn:(fun c=>xI sk ts s c fun st=>ev lf C R sk b st (ak s.bQ⊕δ) (ak s.bQ⊕δ) (fun x=>x) fun dK w' e bV=>match e with
     |.normal=>mg lf sk s (fun c=>w' (.inl c)) (uT 0 sk) bV.obj (ts.map fun t=>eI (bV.env t))
     |e=>k dK (fun g=>w' (.inr (w g))) e bV)=body at ho
   have⟨fF,X2,g1,g2,g3⟩:=Qm BB hR hJ hp;let Pn:Act->World->Nat->Prop:=fun a wd n=>∃cc,oT body n cc=some y/\BA C nt sk fi o0 w0 X ts s cc a wd;let I:Act->World->Prop:=fun a wd=>∃n,Pn a wd n;refine wp_loop I (fun a wd=>if h:I a wd then Classical.choose (DB h) else 0) ⟨n0,p.2,ho,X2,fF,fun b hb=>g1 b (hX b hb),g2,g3⟩ ?_;intro a wd hI;have hl:=ZD (DB hI);simp[dif_pos hI];generalize Classical.choose (DB hI)=n at hl;have⟨⟨cc,c1,X3,φ3,c2,c3,c4⟩,ht⟩:=hl;cases n with
   |zero=>cases c1
   |succ m=>
    simp[oT] at c1;have run:∀y1,body cc=some y1->cb.wp C.P (JQ C nt sk fi o0 w0 X ts s w Q fun g=>g=y1) a wd:=by
     intro y1 he;rw[<-hn] at he;have he:xI sk ts s cc _=some y1:=he;rw[V7] at he;refine AJ (ih X (kH sk ts s cc) _ _ (fun x=>x) _ (JQ C nt sk fi o0 w0 X ts s w Q) y1 (JQ.mono hQ) ?_ he X3 φ3 a wd c2 c3 c4);intro dK w' e bV y' h';cases e with
     |normal=>exact We BB h'
     |exit id=>exact hk dK (fun g=>w' (.inr (w g))) (.exit id) bV y' h'
     |goto l=>exact hk dK (fun g=>w' (.inr (w g))) (.goto l) bV y' h'
     |ret=>exact hk dK (fun g=>w' (.inr (w g))) .ret bV y' h'
    split at c1
    ·rename_i s' hu;refine wp_mono (run _ hu) fun e a2 w2 hj=>?_;cases e with
     |normal=>have⟨c',e1,e2⟩:=hj;injection e1 with e1;subst e1;have hm:I a2 w2:=⟨m,c',c1,e2⟩;refine⟨hm,?_⟩;rw[dif_pos hm];have:=(ZD (DB hm)).2 m ⟨c',c1,e2⟩;omega
     |_=>exact hQ _ _ _ _ _ (fun g hg=>by cases hg) hj
    ·rename_i r hr;cases c1;refine wp_mono (run _ hr) fun e a2 w2 hj=>?_;cases e with
     |normal=>have⟨c',e1,_⟩:=hj;cases e1
     |_=>exact hQ _ _ _ _ _ (fun g hg=>by injection hg) hj
    ·cases c1
  ·cases h
 |exit id=>intro X st γ δ w k Q y hQ hk h;exact(hk δ w (.exit id) st y h).weaken fun a w h=>wp_exit h
 |goto l=>intro X st γ δ w k Q y hQ hk h;exact(hk δ w (.goto l) st y h).weaken fun a w h=>wp_goto h
 |ret=>intro X st γ δ w k Q y hQ hk h;exact(hk δ w .ret st y h).weaken fun a w h=>wp_ret h
 |@scope cb b hb ih=>
  intro X st γ δ w k Q y hQ hk h;refine(ih X st γ δ w _ (fun S=>Exit.noGoto (Q S)) y ?_ ?_ h).weaken fun a wd hb=>wp_scope_straight (AJ hb)
  ·intro S S' e a w hs h;cases e<;>first|exact hQ _ _ _ _ _ hs h|exact h
  ·intro dK w' e bV y' h';cases e with
   |normal=>exact hk dK w' .normal bV y' h'
   |exit id=>exact hk dK w' (.exit id) bV y' h'
   |goto l=>cases h'
   |ret=>exact hk dK w' .ret bV y' h'
 |@jump cb cp cr p r l ts h1 h2 hp hr ihp ihr=>
  intro X st γ δ w k Q y hQ hk h;let body:(s:Shape)->(dK:Type)->(γ->dK)->ak s.bQ->Option (ak s.bQ⊕dK):=fun s δ w c=>xI sk ts s c fun st=>ev lf C R sk r st (ak s.bQ⊕δ) (ak s.bQ⊕δ) (fun x=>x) fun dK w' e bV=>match e with
     |.goto l'=>bif Nat.beq l' l then mg lf sk s (fun c=>w' (.inl c)) (uT 0 sk) bV.obj (ts.map fun t=>eI (bV.env t)) else none
     |e=>k dK (fun g=>w' (.inr (w g))) e bV
  let JJ:(γ->Prop)->Nat->Act->World->Prop:=fun S n a wd=>∃(s:Shape) (dK:Type) (w':γ->dK) (y':dK),(∀g,w' g=y'->S g)/\∃cc,oT (body s dK w') n cc=some y'/\BA C nt sk fi o0 w0 X ts s cc a wd;let J:(γ->Prop)->Act->World->Prop:=fun S a wd=>∃n,JJ S n a wd;let Q':(γ->Prop)->Exit->Act->World->Prop:=fun S e a wd=>match e with
   |.normal=>J S a wd
   |.goto _=>False
   |e=>Q S e a wd
  have mJ:∀S S' a wd,(∀g,S g->S' g)->J S a wd->J S' a wd:=fun S S' a wd hs ⟨n,s,dK,w',y',h1,h2⟩=>⟨n,s,dK,w',y',fun g hg=>hs g (h1 g hg),h2⟩;have mQ:DC Q':=by intro S S' e a w hs h;cases e<;>first|exact hQ _ _ _ _ _ hs h|exact mJ _ _ _ _ hs h|exact h.elim
  have hv:=ihp X st γ δ w _ Q' y mQ (fun dK w' e bV y' h'=>by
   cases e with
   |normal=>
    simp at h';rw[V6] at h';generalize N6 C sk bV ts (qb r)=s at h';split at h'
    ·rename_i p hp;have⟨n0,ho⟩:=IM h';intro X' φ a wd hX hR hJ;have⟨fF,X2,g1,g2,g3⟩:=Qm BB hR hJ hp;exact⟨n0,s,dK,w',y',fun _ h=>h,p.2,ho,X2,fF,fun b hb=>g1 b (hX b hb),g2,g3⟩
    ·cases h'
   |exit id=>exact hk dK w' (.exit id) bV y' h'
   |goto l=>cases h'
   |ret=>exact hk dK w' .ret bV y' h') h
  intro X' φ act wd hX hR hJ;replace hv:=hv X' φ act wd hX hR hJ;let μ:Act->World->Nat:=fun a wd=>if h:J (fun g=>w g=y) a wd then Classical.choose (DB h) else 0
  have pass:∀a wd,J (fun g=>w g=y) a wd->vf C.P cr (Exit.jump l (fun a' w'=>J (fun g=>w g=y) a' w'/\μ a' w'<μ a wd) (Q fun g=>w g=y)) a wd:=by
   intro a wd hI;have hl:=ZD (DB hI);have hμ:μ a wd=Classical.choose (DB hI):=dif_pos hI;rw[hμ];generalize Classical.choose (DB hI)=n at hl;have⟨⟨s,dK,w',y',hS,cc,c1,X3,φ3,c2,c3,c4⟩,ht⟩:=hl;cases n with
   |zero=>cases c1
   |succ m=>
    simp[oT] at c1;let Q2:(ak s.bQ⊕dK->Prop)->Exit->Act->World->Prop:=fun T e a wd=>match e with
     |.goto l'=>l'=l/\∃c,T (.inl c)/\BA C nt sk fi o0 w0 X ts s c a wd
     |e=>Q (fun g=>T (.inr (w' g))) e a wd
    have mQ2:DC Q2:=by intro S S' e a w hs h;cases e<;>first|exact hQ _ _ _ _ _ (fun g hg=>hs _ hg) h|exact(let ⟨c0,c,h1,h2⟩:=h;⟨c0,c,hs _ h1,h2⟩)
    have run:∀y1,body s dK w' cc=some y1->vf C.P cr (Q2 fun g=>g=y1) a wd:=by
     intro y1 he;have he:xI sk ts s cc _=some y1:=he;rw[V7] at he;refine ihr X (kH sk ts s cc) _ _ (fun x=>x) _ Q2 y1 mQ2 ?_ he X3 φ3 a wd c2 c3 c4;intro δ2 w2 e bV y2 h';cases e with
     |normal=>exact hk δ2 (fun g=>w2 (.inr (w' g))) .normal bV y2 h'
     |exit id=>exact hk δ2 (fun g=>w2 (.inr (w' g))) (.exit id) bV y2 h'
     |goto l'=>
      simp at h';cases hb:Nat.beq l' l with
      |false=>rw[hb] at h';cases h'
      |true=>rw[hb,zK] at h';have⟨ps,c,e1,e2⟩:=Wd h';intro X' φ a w hX hR hJ;have⟨fF,X2,g1,g2,g3⟩:=Qm BB hR hJ e1;exact⟨zo hb,c,e2,X2,fF,fun b hb=>g1 b (hX b hb),g2,g3⟩
     |ret=>exact hk δ2 (fun g=>w2 (.inr (w' g))) .ret bV y2 h'
    split at c1
    ·rename_i s' hu;refine IL (run _ hu) fun e a2 w2 hj=>?_;cases e with
     |goto l'=>have⟨e0,c',e1,e2⟩:=hj;injection e1 with e1;subst e1;have hB:JJ (fun g=>w g=y) m a2 w2:=⟨s,dK,w',y',hS,c',c1,e2⟩;have hm:J (fun g=>w g=y) a2 w2:=⟨m,hB⟩;refine⟨e0,hm,?_⟩;have afQ:μ a2 w2=Classical.choose (DB hm):=dif_pos hm;have:=(ZD (DB hm)).2 m hB;omega
     |_=>exact hQ _ _ _ _ _ (fun g hg=>by cases hg) hj
    ·rename_i r0 hD;cases c1;refine IL (run _ hD) fun e a2 w2 hj=>?_;cases e with
     |goto l'=>have⟨_,c',e1,_⟩:=hj;cases e1
     |_=>exact hQ _ _ _ _ _ (fun g hg=>hS g (by injection hg)) hj
    ·cases c1
  refine wp_scope_jumps l (J fun g=>w g=y) μ h2 (AJ (z6c cb h1 h2 (IL hv fun e a wd hq=>?_))) fun a wd hI=>AJ (pass a wd hI);cases e with
  |normal=>
   refine IL (pass a wd hq) fun e a2 w2 hj=>?_;cases e with
   |goto l'=>exact⟨hj.1,hj.2.1⟩
   |_=>exact hj
  |goto l'=>exact hq.elim
  |_=>exact hq
 |bad c=>intro X st γ δ w k Q y hQ hk h;cases h
end
theorem Ov{β:Type}(m:Nat):∀(n:Nat) (acc:List Nat) (k:List Nat->β),∃ts,Dr m n acc k=k ts
 |0,acc,k=>⟨acc,rfl⟩
 |n+1,acc,k=>by
  show ∃ts,(bif Nat.testBit m n then Dr m n (n::acc) k else Dr m n acc k)=k ts;cases Nat.testBit m n
  ·exact Ov m n acc k
  ·exact Ov m n (n::acc) k
theorem z6e{rt:Nat}:∀(n:Nat) (c:Code) (ex gt:List (Nat×Nat)) (m:Nat) (k:Nat->AC->Option γ) (y:γ),rP rt nt n c ex gt m k=some y->∃m' ac,fN nt c ac/\k m' ac=some y:=by
 intro n
 induction n with
 |zero=>intro c ex gt m k y h;exact⟨m,.bad,.bad c,h⟩
 |succ n ih=>
  intro c ex gt m k y h;cases c with
  |skip=>exact⟨m,.skip,.skip,h⟩
  |label l=>exact⟨m,.skip,.label l,h⟩
  |region id ops d=>
   have h:(bif wB nt ops.toList then nH (Z5 ops.toList m) fun m'=>k m' (.region id ops d) else k m .bad)=some y:=h;cases hd:wB nt ops.toList with
   |true=>rw[hd,zK,r9] at h;exact⟨_,_,.region id ops d hd,h⟩
   |false=>rw[hd] at h;exact⟨_,_,.bad _,h⟩
  |seq a b=>have⟨mb,b',h1,h2⟩:=ih _ _ _ _ _ _ h;have⟨ma,a',h3,h4⟩:=ih _ _ _ _ _ _ h2;exact⟨ma,_,.seq h3 h1,h4⟩
  |cond c a b=>have⟨ma,a',h1,h2⟩:=ih _ _ _ _ _ _ h;have⟨mb,b',h3,h4⟩:=ih _ _ _ _ _ _ h2;rw[r9] at h4;have⟨ts,e⟩:=Ov m nt [] (fun ts=>k (Z4 c|||ma|||mb) (.cond c ts a' b'));rw[e] at h4;exact⟨_,_,.cond c ts h1 h3,h4⟩
  |block id b=>have⟨mb,b',h1,h2⟩:=ih _ _ _ _ _ _ h;have⟨ts,e⟩:=Ov m nt [] (fun ts=>k mb (.block id ts b'));rw[e] at h2;exact⟨_,_,.block id ts h1,h2⟩
  |loop b=>have⟨m1,_,_,h2⟩:=ih _ _ _ _ _ _ h;have⟨m2,b',h3,h4⟩:=ih _ _ _ _ _ _ h2;have⟨ts,e⟩:=Ov m2 nt [] (fun ts=>k m2 (.loop ts b'));rw[e] at h4;exact⟨_,_,.loop ts h3,h4⟩
  |exit id=>exact⟨_,_,.exit id,h⟩
  |goto l=>exact⟨_,_,.goto l,h⟩
  |ret=>exact⟨_,_,.ret,h⟩
  |scope b=>
   have h:(match Vp b b with
    |none=>rP rt nt n b ex gt m fun mb b'=>k mb (.scope b')
    |some l=>match ahead l b,findLabel b l with
     |some p,some r=>rP rt nt n r ex ((l,0)::gt) m fun m1 _=>rP rt nt n r ex ((l,m1)::gt) m fun m2 r'=>rP rt nt n p ex gt m2 fun mp p'=>Dr m2 nt [] fun ts=>k mp (.jump l ts p' r')
     |_,_=>k m .bad)=some y:=h
   split at h
   ·have⟨mb,b',h1,h2⟩:=ih _ _ _ _ _ _ h;exact⟨_,_,.scope h1,h2⟩
   ·rename_i l _;split at h
    ·rename_i p r ep er;have⟨m1,_,_,h2⟩:=ih _ _ _ _ _ _ h;have⟨m2,r',h3,h4⟩:=ih _ _ _ _ _ _ h2;have⟨mp,p',h5,h6⟩:=ih _ _ _ _ _ _ h4;have⟨ts,e⟩:=Ov m2 nt [] (fun ts=>k mp (.jump l ts p' r'));rw[e] at h6;exact⟨_,_,.jump l ts ep er h5 h3,h6⟩
    ·exact⟨_,_,.bad _,h⟩
  |_=>exact⟨m,.bad,.bad _,h⟩
theorem qn5:∀(vs:List V) (i:Nat) (env:Nat->V) (t:Nat),(∀j,t=i+j->∀v,vs[j]?=some v->Eu env i vs t=v)/\((t<i\/i+vs.length<=t)->Eu env i vs t=env t)
 |[],i,env,t=>⟨fun j _ v h=>by simp at h,fun _=>rfl⟩
 |x::r,i,env,t=>by
  have⟨h1,h2⟩:=qn5 r (i+1) (dR env i x) t;refine⟨fun j hj v hv=>?_,fun hj=>?_⟩
  ·show Eu (dR env i x) (i+1) r t=v;cases j with
   |zero=>rw[h2 (.inl om),hj,Nat.add_zero,gq];simpa using hv
   |succ j=>exact h1 j om v (by simp_all)
  ·show Eu (dR env i x) (i+1) r t=env t;simp[List.length_cons] at hj;rw[h2 om,nJ om]
section
variable {C:Cx} {R:kX C.sigs}
def DE(l:List Value):Value:=match l with
 |[v]=>v
 |l=>.tuple l.toArray
theorem zjl(hC:cS C){a:Act}(h:Rel C nt X φ st a w):∀(rs:List ResultVar) (vs:List V),xJ lf C st rs=some vs->∃zs,cu φ st.obj (ag X φ st.obj w) w vs zs/\(rs.mapM fun(r:ResultVar)=>(match r with
   |.tmp t=>(pure (a.tmps.getD t undef):Sem Value)
   |.cell q t=>do loadVar t (<-asAddr (a.tmps.getD q undef)))).run C.P w=.ok zs w:=by
 intro rs
 induction rs with
 |nil=>intro vs h1;injection h1 with h1;subst h1;exact⟨[],rfl,by simp⟩
 |cons r rs ih=>
  intro vs h1;cases r with
  |tmp t=>
   simp[xJ] at h1;split at h1
   ·rename_i l h2;injection h1 with h1;subst h1;have⟨zs,h3,h4⟩:=ih _ h2;exact⟨a.tmps.getD t undef::zs,⟨_,_,rfl,PO (h.env t),h3⟩,by simp only[List.mapM_cons,Sem.run_bind,Sem.run_pure,Result.andThen_ok,h4]⟩
   ·cases h1
  |cell q t=>
   simp[xJ] at h1;split at h1
   ·rename_i v u hv;split at h1
    ·rename_i l h2;injection h1 with h1;subst h1;have⟨zs,h3,h4⟩:=ih _ h2;obtain⟨_,z,h5,h6⟩:=qtx (v:=v) (u:=u) hC h.toMRel (h.env q) (by rw[hv];exact⟨rfl,rfl⟩);refine⟨z::zs,⟨_,_,rfl,h6,h3⟩,?_⟩;have hl:(asAddr (a.tmps.getD q undef)>>=fun ad=>loadVar t ad).run C.P w=.ok z w:=by
      unfold Instr.loadAt at h5;generalize a.tmps.getD q undef=zq at h5 ⊢;cases zq with
      |pointer p=>cases p with
       |none=>exact absurd h5 (by simp[Instr.sureAddr,stuck])
       |some ad=>simpa[Instr.sureAddr,asAddr] using h5
      |_=>exact absurd h5 (by simp[Instr.sureAddr,stuck])
     simp only[List.mapM_cons,Sem.run_bind,Sem.run_pure]
     simp_all
    ·cases h1
   ·cases h1
def Qr(C:Cx)(i:Nat)(x:ak (bI C.sigs i).ins.bQ)(y:ak (bI C.sigs i).outs.bQ)(X:Nat->Prop)(φ:Nat->Addr)(w:World)(e:Ending)(w':World):Prop:=
 ∃fk φ' X',e=.returned (DE fk)/\(∀b,X b->X' b)/\MRel C X' φ' (bB (bI C.sigs i).outs y) w'/\
  cu φ' (bB (bI C.sigs i).outs y) (ag X' φ' (bB (bI C.sigs i).outs y) w') w' (fill eg cW (bI C.sigs i).outs y).1 fk/\
  eU (bI C.sigs i).bD φ (bB (bI C.sigs i).ins x) w φ' (bB (bI C.sigs i).outs y) w'
def qf(C:Cx)(i:Nat)(x:ak (bI C.sigs i).ins.bQ)(y:ak (bI C.sigs i).outs.bQ):Prop:=
 ∀X φ w zs,MRel C X φ (bB (bI C.sigs i).ins x) w->cu φ (bB (bI C.sigs i).ins x) (ag X φ (bB (bI C.sigs i).ins x) w) w (fill eg cW (bI C.sigs i).ins x).1 zs->
  (∃fn,C.P.funcs[(bI C.sigs i).f]?=some fn/\fn.body.isNone=false)/\Calls C.P (bI C.sigs i).f zs.toArray w (Qr C i x y X φ w)
theorem qul(hC:cS C)(hE:nW C)(HC:∀X φ o w,MRel C X φ o w->∀fr f,EE C R X φ o w fr f)(HD:∀nt sk fi o0 w0,z6d C nt R (HJ sk fi o0 w0)){x:ak (bI C.sigs i).ins.bQ}{y:ak (bI C.sigs i).outs.bQ}(h:N9 lf C R i x=some y):qf C i x y:=by
 intro X φ w zs hm hz;unfold N9 at h;simp only at h;split at h
 ·cases h
 ·rename_i fn hc;rw[ji] at hc;split at h
  ·cases h
  ·rename_i b hb;refine⟨⟨fn,hc,by rw[hb];rfl⟩,?_⟩;cases hn:(NV (bI C.sigs i).ins.ar.length (bI C.sigs i).bD&&Nat.ble (fill id (fun _=>0) (bI C.sigs i).ins x).1.length fn.ntmps) with
   |false=>rw[hn] at h;cases h
   |true=>
    rw[hn] at h;rw[ze] at hn;have⟨hl,hn⟩:=hn;have⟨m',ac,hA,ho⟩:=z6e _ _ _ _ _ _ _ h;have hu:=Bw hz;have hn:(fill eg cW (bI C.sigs i).ins x).1.length<=fn.ntmps:=zP hn;refine calls_of_wp hc hb ?_;let PR:ak (bI C.sigs i).outs.bQ->Act->World->Prop:=fun yy a wd=>a.defers=[]/\∃v,(results fn a.tmps).run C.P wd=.ok v wd/\Qr C i x yy X φ w (.returned v) wd;have hk:Qq C fn.ntmps (HJ (bI C.sigs i).bD φ (bB (bI C.sigs i).ins x) w) X (fun _ w e st=>match e with
     |.normal=>N8 lf C (bI C.sigs i).bD (bI C.sigs i).outs w st fn.results.toList
     |.ret=>N8 lf C (bI C.sigs i).bD (bI C.sigs i).outs w st fn.results.toList
     |_=>none) (fun S e a wd=>match e with|.normal=>∃yy,S yy/\PR yy a wd|.ret=>∃yy,S yy/\PR yy a wd|_=>False):=by
     have fin:∀(δ:Type) (wr:ak (bI C.sigs i).outs.bQ->δ) (st:St) (y':δ),N8 lf C (bI C.sigs i).bD (bI C.sigs i).outs wr st fn.results.toList=some y'->
       Sound C fn.ntmps X (HJ (bI C.sigs i).bD φ (bB (bI C.sigs i).ins x) w) st (fun a wd=>∃yy,wr yy=y'/\PR yy a wd):=by
      intro δ wr st y' hg X' fF a wd hX hR hJ;unfold N8 at hg;split at hg
      ·rename_i vs hv;have⟨ps,cc,hp,hw⟩:=Wd hg;have⟨hp,hx,he⟩:=qq0 hp;have⟨fk,r1,r2⟩:=zjl hC hR _ _ hv;obtain⟨q1,q2⟩:=qxi hR.toMRel hp r1;have⟨hj,_⟩:=Ql hp;refine⟨cc,hw,hR.defers,DE fk,?_,fk,_,_,rfl,fun b hb=>.inl (hX b hb),q1,q2,⟨hJ.size,hJ.frame,fun b hb=>hJ.news b (hj.nX hb),hJ.still,fun id hi=>(hJ.up id hi).trans (z69 hj (qzt hp _ (qn0 hi)) (qn1 hx id hi) (qjb he id hi))⟩⟩;have key:∀(q:Sem (List Value)),q.run C.P wd=.ok fk wd->((Functor.map List.toArray q)>>=fun vs=>(pure (if h:vs.size=1 then vs[0] else Value.tuple vs):Sem Value)).run C.P wd=.ok (DE fk) wd:=by
        intro q hq;rw[Sem.run_bind,Sem.run_map,hq]
        match fk with
        |[]=>rfl
        |[v]=>rfl
        |a::b::r=>rfl
       unfold results;rw[Array.mapM_eq_mapM_toList];exact key _ r2
      ·cases hg
     intro δ wr e st y' hg;cases e with
     |normal=>exact fin δ wr st y' hg
     |ret=>exact fin δ wr st y' hg
     |exit id=>cases hg
     |goto l=>cases hg
    have hQ:DC (fun(S:ak (bI C.sigs i).outs.bQ->Prop) e a wd=>match e with|.normal=>∃yy,S yy/\PR yy a wd|.ret=>∃yy,S yy/\PR yy a wd|_=>False):=by intro S S' e a wd hs h;cases e<;>first|exact h.elim|exact(let ⟨c,h1,h2⟩:=h;⟨c,hs _ h1,h2⟩)
    have hy:Rel C fn.ntmps X φ ⟨Eu (fun _=>.undef) 0 (fill eg cW (bI C.sigs i).ins x).1,bB (bI C.sigs i).ins x⟩
      {tmps:=zs.toArray++Array.replicate (fn.ntmps-zs.toArray.size) undef,defers:=[]} w:=by
     refine⟨hm,by simp;omega,fun t=>?_,rfl⟩;have⟨g1,g2⟩:=qn5 (fill eg cW (bI C.sigs i).ins x).1 0 (fun _=>.undef) t;by_cases ht:t<(fill eg cW (bI C.sigs i).ins x).1.length
     ·have⟨z,e1,e2⟩:=P6 hz (zh ht);have:=g1 t om _ (zh ht);show au φ _ _ w (Eu _ 0 _ t) _;rw[this];have e3:(zs.toArray++Array.replicate (fn.ntmps-zs.toArray.size) undef).getD t undef=z:=by
       have hB:t<zs.length:=om
       rw[jI,Array.getElem?_append_left (by simpa using hB)];simp[e1]
      rwa [e3]
     ·show au φ _ _ w (Eu _ 0 _ t) _;rw[g2 (.inr om)];have e3:(zs.toArray++Array.replicate (fn.ntmps-zs.toArray.size) undef).getD t undef=undef:=by
       rw[jI]
       grind
      exact e3
    have hf:=AJ (zcd hC hE HC (HD fn.ntmps _ φ (bB (bI C.sigs i).ins x) w) (z68 hl) hA X _ _ _ _ _ _ y hQ hk ho X φ _ w (fun _ h=>h) hy (eU.refl _ _ _ _));refine wp_mono hf fun e a wd hq=>?_;cases e with
    |normal=>have⟨yy,e1,h1,v,h2,h3⟩:=hq;subst e1;exact⟨h1,v,h2,h3⟩
    |ret=>have⟨yy,e1,h1,v,h2,h3⟩:=hq;subst e1;exact⟨h1,v,h2,h3⟩
    |_=>exact hq.elim
end
inductive Call (C:Cx):(i:Nat)->ak (bI C.sigs i).ins.bQ->ak (bI C.sigs i).outs.bQ->Prop where
 |mk (R:kX C.sigs) (h:∀j a b,R j a=some b->Call C j a b) (i:Nat) (x:ak (bI C.sigs i).ins.bQ) (y:ak (bI C.sigs i).outs.bQ) (e:N9 lf C R i x=some y):Call C i x y
 |ml (i:Nat) (x:ak (bI C.sigs i).ins.bQ) (y:ak (bI C.sigs i).outs.bQ) (h:qf C i x y):Call C i x y
def qxl(C:Cx):Prop:=∀R:kX C.sigs,(∀j a b,R j a=some b->qf C j a b)->∀X φ o w,MRel C X φ o w->∀fr f,EE C R X φ o w fr f
def z6f(C:Cx):Prop:=∀R:kX C.sigs,(∀j a b,R j a=some b->qf C j a b)->∀nt sk fi o0 w0,z6d C nt R (HJ sk fi o0 w0)
theorem Call.ok{C:Cx}(hC:cS C)(hE:nW C)(hL:qxl C)(hD:z6f C){x:ak (bI C.sigs i).ins.bQ}{y:ak (bI C.sigs i).outs.bQ}(h:Call C i x y):qf C i x y:=by
 induction h with
 |mk R h i x y e ih=>exact qul hC hE (hL R ih) (hD R ih) e
 |ml i x y h=>exact h
theorem IN{imm:Nat->Prop}:∀(t:Ty) (x:den t) (cs:List Value),AD t=false->az imm w t x cs->az imm' w t x cs
 |.unit,_,_,_,h=>h
 |.pair a b,x,_,hs,⟨c,d,e,h1,h2⟩=>by simp[AD,Bool.or_eq_false_iff] at hs;exact⟨c,d,e,IN a x.1 c hs.1 h1,IN b x.2 d hs.2 h2⟩
 |.st p,x,cs,hs,h=>IN p x cs hs h
 |.arr _ e,_,_,hs,⟨h1,h2⟩=>⟨h1,rq (fun x c h=>IN e x c hs h) h2⟩
 |.int _,_,_,_,h=>h
 |.bool,_,_,_,h=>h
 |.gz,_,_,hs,_=>by cases hs
 |.fY,_,_,hs,_=>by cases hs
 |.str,_,_,_,h=>h
 |.sl e,_,_,hs,_=>by cases hs
theorem z6g{imm:Nat->Prop}(t:Ty)(x:den t)(v:Value)(hs:AD t=false)(h:dS imm w t x v):dS imm' w t x v:=by
 cases t with
 |st p=>have⟨cs,h1,h2⟩:=h;exact⟨cs,h1,IN p x _ hs h2⟩
 |arr n e=>have⟨cs,h1,h2⟩:=h;exact⟨cs,h1,IN (.arr n e) x _ hs h2⟩
 |unit=>exact h
 |pair a b=>exact h
 |int k=>exact h
 |bool=>exact h
 |gz=>cases hs
 |fY=>cases hs
 |str=>exact h
 |sl e=>cases hs
theorem z6h{imm:Nat->Prop}(ρ κ:Nat->Nat)(s:Sh):PE s=false->∀r c z,au φ o imm w (nP ρ κ s r c).1 z->au φ o imm' w (nP ρ κ s r c).1 z:=by
 refine Sh.rec (motive_1:=fun s=>PE s=false->∀r c z,au φ o imm w (nP ρ κ s r c).1 z->au φ o imm' w (nP ρ κ s r c).1 z)
  (motive_2:=fun l=>AE l=false->∀r c zs,cu φ o imm w (gN ρ κ l r c).1 zs->cu φ o imm' w (gN ρ κ l r c).1 zs)
  ?_ ?_ ?_ ?_ ?_ ?_ ?_ ?_ ?_ ?_ ?_ ?_ ?_ ?_ ?_ ?_ ?_ ?_ s
 ·exact fun t hs r c z h=>z6g t _ _ hs h
 ·intro i _ r c z h;replace h:au φ o imm w (.cC (ρ i) (κ i)) z:=h;exact h
 ·intro i off _ r c z h;replace h:au φ o imm w (.ptr (ρ i) off) z:=h;exact h
 ·exact fun t hs r c z h=>by cases hs
 ·exact fun _ r c z h=>h
 ·exact fun f l ih hs r c z ⟨cz,h1,h2⟩=>⟨cz,h1,ih hs _ _ _ h2⟩
 ·exact fun _ r c z h=>h
 ·exact fun l ih hs r c z ⟨cz,h1,h2⟩=>⟨cz,h1,ih hs _ _ _ h2⟩
 ·exact fun l ih hs r c z ⟨cz,h1,h2⟩=>⟨cz,h1,ih hs _ _ _ h2⟩
 ·exact fun _ r c z h=>h
 ·exact fun _ r c z h=>h
 ·intro i _ r c z h;replace h:au φ o imm w (.ib (ρ i) c.1) z:=h;exact h
 ·intro i _ r c z h;replace h:au φ o imm w (.j8 (ρ i) (κ i) c.1) z:=h;exact h
 ·intro i _ r c z h;replace h:au φ o imm w (.it (ρ i)) z:=h;exact h
 ·exact fun a hs=>by cases hs
 ·exact fun t hs r c z h=>by cases hs
 ·exact fun _ r c z h=>h
 ·intro s l kq kC hs r c zs ⟨z,zr,e,h1,h2⟩;have hs:(PE s||AE l)=false:=hs;rw[jc] at hs;exact⟨z,zr,e,kq hs.1 _ _ _ h1,kC hs.2 _ _ _ h2⟩
theorem qn6(ρ κ:Nat->Nat):∀(l:List fG) (i:Nat) (r:List Ty) (c:ak (eC l r)) (j:Nat),i<=j->j<i+l.length->∃p,p∈mX ρ κ i l r c/\p.1=ρ j
 |[],i,r,c,j,h1,h2=>absurd h2 (by simp;omega)
 |s::l,i,r,c,j,h1,h2=>by
  by_cases hj:j=i
  ·subst hj;exact⟨_,zg ..,rfl⟩
  ·simp[List.length_cons] at h2;have⟨p,h3,h4⟩:=qn6 ρ κ l (i+1) r (nE ρ κ i s (eC l r) c).2 j om om;exact⟨p,zf _ h3,h4⟩
theorem qq5{imm:Nat->Prop}(ρ κ:Nat->Nat):∀(l:List Sh),AE l=false->∀r c zs,cu φ o imm w (gN ρ κ l r c).1 zs->cu φ o imm' w (gN ρ κ l r c).1 zs
 |[],_,_,_,_,h=>h
 |s::l,hs,r,c,zs,⟨z,zr,e,h1,h2⟩=>by have hs:(PE s||AE l)=false:=hs;rw[jc] at hs;exact⟨z,zr,e,z6h ρ κ s hs.1 _ _ _ h1,qq5 ρ κ l hs.2 _ _ _ h2⟩
theorem z6i:∀{l:List fG},xG l=false->∀(j:Nat) (sh:fG),l[j]?=some sh->xG [sh]=false
 |[],_,j,sh,h=>by simp at h
 |s::l,hs,j,sh,h=>by
  cases j with
  |zero=>simp[Option.some.injEq] at h;subst h;cases s<;>simp only[xG,jc] at hs ⊢<;>first|exact⟨hs.1,trivial⟩|rfl|trivial
  |succ j=>refine z6i (l:=l) ?_ j sh (by simp_all);cases s<;>simp[xG,Bool.or_eq_false_iff] at hs<;>first|exact hs.2|exact hs
theorem qkd{bD:List Nat}:∀(k i:Nat) (l:List fG),Eo bD k i l=true->k<=l.length/\∀j,j<k->(l[j]?=some .gone/\bF (i+j) bD=false)\/(l[j]?≠some .gone/\bF (i+j) bD=true)
 |0,i,l,_=>⟨zC _,fun j h=>absurd h om⟩
 |k+1,i,l,h=>by
  cases l with
  |nil=>cases h
  |cons s l=>
   have both:Eo bD k (i+1) l=true/\((s=.gone/\bF i bD=false)\/(s≠.gone/\bF i bD=true)):=by
    cases s with
    |gone=>
     simp[Eo,Bool.and_eq_true] at h;refine⟨h.2,.inl ⟨rfl,?_⟩⟩;cases hb:bF i bD with
     |false=>rfl
     |true=>exact absurd (iT.1 hb) (qj7 h.1)
    |box cs=>simp[Eo,Bool.and_eq_true] at h;exact⟨h.2,.inr ⟨by simp,h.1⟩⟩
    |vec t=>simp[Eo,Bool.and_eq_true] at h;exact⟨h.2,.inr ⟨by simp,h.1⟩⟩
    |iter=>simp[Eo,Bool.and_eq_true] at h;exact⟨h.2,.inr ⟨by simp,h.1⟩⟩
   have⟨h1,h2⟩:=qkd k (i+1) l both.1;refine⟨by simp;omega,fun j hj=>?_⟩;cases j with
   |zero=>simpa using both.2
   |succ j=>grind
theorem qhd:∀{l:List Nat},Vn ps l=true->∀i,i∈l->iP ((iP i ps.aR).getD 0) ps.cut=none
 |b::r,h,i,hi=>by
  simp[Vn,Bool.and_eq_true] at h;rcases zA.1 hi with rfl|hi
  ·exact V3 h.1
  ·exact qhd h.2 i hi
theorem qke{aR:List (Nat×Nat)}:∀(k:Nat),Vm o aR k=true->∀j,j<k->∃cO,iP j aR=some cO/\o cO≠.none
 |0,_,j,h=>absurd h om
 |k+1,h,j,hj=>by
  simp[Vm,Bool.and_eq_true] at h;by_cases e:j=k
  ·grind
  ·exact qke k h.2 j om
theorem qq6:∀{l:List Nat},Vl o l=true->∀id,id∈l->(∀cs,o id≠.box cs)/\(∀s p,o id≠.iter s p)
 |b::r,h,id,hi=>by
  simp[Vl,Bool.and_eq_true] at h;rcases zA.1 hi with hi|hi
  ·grind
  ·exact qq6 h.2 id hi
theorem qdt{C:Cx}{R:kX C.sigs}{f:Nat}:∀(l:List nG) (i:Nat),(Dq lf C R o fr f vs l i).aD v u->∃i ps c y,(bI C.sigs i).f=f/\pack lf o [] (bI C.sigs i).ins vs=some (ps,c)/\Vo o ps (bI C.sigs i).ins.ar.length (bI C.sigs i).outs (bI C.sigs i).bD=true/\R i c=some y/\v=Bn (fill (Dp ps.aR (bI C.sigs i).ins.ar.length fr) (Ep o ps.aR (bI C.sigs i).ins.ar.length (bI C.sigs i).bD) (bI C.sigs i).outs y).1/\u=(bif nU (bI C.sigs i).outs then eY o ps.bY else [])++(fill (Dp ps.aR (bI C.sigs i).ins.ar.length fr) (Ep o ps.aR (bI C.sigs i).ins.ar.length (bI C.sigs i).bD) (bI C.sigs i).outs y).2
 |[],i,h=>h.elim
 |s::r,i,h=>by
  unfold Dq at h;cases hb:Nat.beq s.f f with
  |false=>rw[hb] at h;exact qdt r (i+1) h
  |true=>
   rw[hb,zK] at h;split at h
   ·rename_i ps c hp;rw[eT,wD,ze] at h;have⟨⟨h1,h2⟩,y,h3,h4⟩:=h;simp[Prod.mk.injEq] at h4;exact⟨i,ps,c,y,zo h1,hp,h2,h3,h4.1.symm,h4.2.symm⟩
   ·exact qdt r (i+1) h
theorem z3a{imm:Nat->Prop}{zs:List Value}(h:cu φ o imm w vs zs):au φ o imm w (Bn vs) (DE zs):=by
 match vs,zs,h with
 |[],zs,h=>have h:zs=[]:=h;subst h;exact⟨#[],rfl,rfl⟩
 |[v],zs,⟨z,r,e,h1,h2⟩=>have h2:r=[]:=h2;subst e h2;exact h1
 |v::v'::vs,zs,⟨z,r,e,h1,z',r',e',h2,h3⟩=>subst e e';exact⟨(z::z'::r').toArray,rfl,z,z'::r',by simp,h1,z',r',rfl,h2,h3⟩
def ofk:Obj->Prop
 |.none=>False
 |_=>True
theorem qrx{id:Nat}:∀{ks:List Nat},id∈bU (eY o ks)->id∈ks
 |[],h=>by cases h
 |q::r,h=>by
  simp only[eY] at h;split at h
  ·rcases zA.1 h with h|h
   ·grind
   ·exact zf _ (qrx h)
  ·exact zf _ (qrx h)
theorem zmw{C:Cx}{X1:Nat->Prop}{qg:Nat->Addr}{Ow:Nat->Obj}{ins outs:Shape}{y:ak outs.bQ}{fk:List Value}{bD:List Nat}(hm:MRel C X φ o w)(hw:bR o ps ins.ar.length ins.ar Ow)(hL:Vo o ps ins.ar.length outs bD=true)(hf:nK fr o ((bif nU outs then eY o ps.bY else [])++(fill (Dp ps.aR ins.ar.length fr) (Ep o ps.aR ins.ar.length bD) outs y).2))(hX:∀b,XC X φ o Ow ps b->X1 b)(M1:MRel C X1 qg (bB outs y) w')(rv:cu qg (bB outs y) (ag X1 qg (bB outs y) w') w' (fill eg cW outs y).1 fk)(H:eU bD (gf φ ps) Ow w qg (bB outs y) w'):∃iz,Comes C X φ iz o ((bif nU outs then eY o ps.bY else [])++(fill (Dp ps.aR ins.ar.length fr) (Ep o ps.aR ins.ar.length bD) outs y).2) w w' (Bn (fill (Dp ps.aR ins.ar.length fr) (Ep o ps.aR ins.ar.length bD) outs y).1) (DE fk):=by
 generalize hk:ins.ar.length=k at*
 generalize dG:Dp ps.aR k fr=ρ at*
 generalize hκ:Ep o ps.aR k bD=κ at*
 unfold Vo at hL;simp only[ze] at hL;obtain⟨⟨⟨⟨hA,ht⟩,hB⟩,hG⟩,hH⟩:=hL;have hH:=zP hH;obtain⟨h7,ht⟩:=qkd _ _ _ ht;simp only[zW] at ht;have tied:∀j,j<k->(j,ρ j)∈ps.aR/\o (ρ j)≠.none:=fun j hj=>by
  obtain⟨cO,h1,h2⟩:=qke k hG j hj;have:ρ j=cO:=by
   rw[<-dG];unfold Dp;have hb:Nat.blt j k=true:=by rw[Jv];exact hj
   rw[hb,h1];rfl
  rw[this];exact⟨Oq h1,h2⟩
 have fresh:∀j,k<=j->ρ j=fr+(j-k):=fun j hj=>by
  rw[<-dG];unfold Dp;have hb:Nat.blt j k=false:=by
   cases e:Nat.blt j k with
   |false=>rfl
   |true=>rw[Jv] at e;omega
  rw[hb];rfl
 have G3:∀j,k<=j->j<outs.ar.length->o (ρ j)=.none:=fun j h1 h2=>by
  obtain⟨p,h3,h4⟩:=qn6 ρ κ outs.ar 0 [] (gN ρ κ outs.roots (eC outs.ar []) y).2 j (zC _) om;have:=hf p (zG _ h3)
  grind
 have inj:∀a b,0<=a->a<0+outs.ar.length->0<=b->b<0+outs.ar.length->ρ a=ρ b->a=b:=fun a b _ h1 _ h2 e=>by
  by_cases ha:a<k<;>by_cases hb:b<k
  ·have r1:=(hw.aR (tied a ha).1).2.2;have r2:=(hw.aR (tied b hb).1).2.2
   grind
  all_goals grind
 have hF:Comes C X φ φ o (bif nU outs then eY o ps.bY else []) w w .undef undef:=by
  cases nU outs with
  |true=>exact P5 hm ps.bY
  |false=>exact .same hm rfl
 generalize hz:aj o (bif nU outs then eY o ps.bY else [])=of;have Mf:MRel C X φ of w:=hz▸hF.mem;have ofs:∀id,(of id=o id)\/(∃t ver fz s,o id=.vec t ver fz s/\of id=.vec t ver true s):=fun id=>by
  rw[<-hz];cases nU outs with
  |true=>exact(GS (o:=o) ps.bY id).imp (fun h=>h.1) (fun h=>h)
  |false=>exact .inl rfl
 have ofx:∀id,aV (φ id) (of id)=true->of id=o id/\aV (φ id) (o id)=true:=fun id hx=>by
  rcases ofs id with h|⟨t,ver,fz,s,h1,h2⟩
  ·exact⟨h,h▸hx⟩
  ·rw[h2] at hx;have:=(Ey hx).2.1;simp at this
 have ofn:∀id,of id=.none↔o id=.none:=fun id=>by grind
 have ofl:∀id,id∉ps.bY->of id=o id:=fun id hi=>by
  rw[<-hz];cases nU outs with
  |false=>rfl
  |true=>show aj o (eY o ps.bY) id=o id;exact iR fun hk=>hi (qrx hk)
 have Qs:∀id,id∈ps.bY->aV (φ id) (of id)=true->nU outs=false:=fun id hi hx=>by
  cases ha:nU outs with
  |false=>rfl
  |true=>
   exfalso;rw[ha] at hB hz;simp only[zY,Zo] at hB;obtain⟨b1,b3⟩:=qq6 hB id hi;have hz:aj o (eY o ps.bY)=of:=hz;obtain⟨e1,e2⟩:=ofx id hx;cases he:o id with
   |box cs=>exact b1 cs he
   |iter s p=>exact b3 s p he
   |dead=>rw[he] at e2;simp[aV,Ev.live] at e2
   |none=>rw[he] at e2;exact nI e2
   |vec t ver fz s=>have hM:=qx9 hi he;obtain⟨t',aA,fz',s',_,h2⟩:=Dv hM;rw[<-hz,h2 o] at hx;have:=(Ey hx).2.1;simp at this
 have hY:(fill ρ κ outs y).2=mX ρ κ 0 outs.ar [] (gN eg cW outs.roots (eC outs.ar []) y).2:=jd (fun q=>mX ρ κ 0 outs.ar [] q) (V8 ρ κ eg cW outs.roots (eC outs.ar []) y);obtain⟨each,c2,c3⟩:=qjc ρ κ outs.ar 0 [] (gN eg cW outs.roots (eC outs.ar []) y).2 (fun _=>.none) of inj;rw[<-hY] at each c3;have c4:∀j,j<outs.ar.length->ρ j∈bU (fill ρ κ outs y).2:=fun j h=>
  have⟨_,_,_,_,_,_,h⟩:=each j (zC _) om
  h
 have hN:bB outs y=aj (fun _=>.none) (mX eg cW 0 outs.ar [] (gN eg cW outs.roots (eC outs.ar []) y).2):=rfl;rw[<-hN] at each c2;generalize hO:bB outs y=oc at*
 generalize hu:(fill ρ κ outs y).2=u1 at*
 have AK:∀j,j<outs.ar.length->∃sh r' c',outs.ar[j]?=some sh/\oc j=(nE eg cW j sh r' c').1/\aj of u1 (ρ j)=(nE ρ κ j sh r' c').1:=fun j hj=>by obtain⟨sh,r',c',h0,h1,h2,_⟩:=each j (zC _) om;exact⟨sh,r',c',h0,h1,h2⟩
 have dead:∀j,j<k->bF j bD=false->oc j=.dead/\aj of u1 (ρ j)=.dead:=fun j hj hn=>by
  obtain⟨sh,r',c',h1,h2,h3⟩:=AK j om;rcases ht j hj with ⟨g1,_⟩|⟨_,g2⟩
  ·rw[g1] at h1;injection h1 with h1;subst h1;exact⟨h2,h3⟩
  ·rw[hn] at g2;cases g2
 have live:∀j,j<k->bF j bD=true->oc j≠.dead/\ofk (of (ρ j))/\of (ρ j)=o (ρ j)/\gf φ ps j=φ (ρ j)/\qg j=φ (ρ j)/\∀a',a'=φ (ρ j)->Up w w' (φ (ρ j)) a' (o (ρ j)) (aj of u1 (ρ j)):=fun j hj hn=>by
  obtain⟨sh,r',c',h1,h2,h3⟩:=AK j om;have hC:sh≠.gone:=fun e=>by
   subst e;rcases ht j hj with ⟨_,g2⟩|⟨g1,_⟩
   ·rw[hn] at g2;cases g2
   ·exact g1 h1
  have hR:oc j≠.dead:=by rw[h2];cases sh<;>simp[nE] at hC ⊢
  have hZ:of (ρ j)=o (ρ j):=ofl _ (hw.bY (tied j hj).1);have hc:=H.up j (iT.1 hn);have hS:(iP j ps.aR).getD 0=ρ j:=(hw.aR (tied j hj).1).2.1;have hP:iP (ρ j) ps.cut=none:=by rw[<-hS];exact qhd hA j (iT.1 hn)
  have aae:κ j=zml (o (ρ j)):=by
   rw[<-hκ];unfold Ep;have hb:(Nat.blt j k&&bF j bD)=true:=by rw[hn,ZQ,Jv];exact hj
   rw[hb,zK,hS]
  refine⟨hR,?_⟩;rw[hZ];rcases EI (φ:=φ) hw (tied j hj).1 with hd|⟨⟨cs,mO,e1,e2⟩|⟨t',ver,s,e1,e2⟩|⟨_,_,e1,e2⟩,eZ⟩
  ·rw[hd] at hc;exfalso;cases hO:oc j<;>rw[hO] at hc<;>first|exact hc.elim|exact hR hO
  ·rw[e2] at hc;refine⟨by rw[e1];trivial,rfl,eZ,?_⟩;rw[h2] at hc;cases sh<;>first|exact hc.elim|exact(hC rfl).elim|skip
   have hc:qg j=gf φ ps j:=hc;refine⟨hc.trans eZ,fun a' ha=>?_⟩;rw[e1,h3,ha];exact rfl
  ·rw[e2,hP] at hc;refine⟨by rw[e1];trivial,rfl,eZ,?_⟩;rw[h2] at hc;cases sh<;>first|exact hc.elim|exact(hC rfl).elim|skip
   rcases hc with hc|⟨_,u2,u3,u4,u5,u6⟩
   ·exact absurd hc (Nat.lt_irrefl 0)
   ·subst u2;refine⟨u5.trans eZ,fun a' ha=>?_⟩;rw[e1,h3,ha];refine .inr ⟨?_,rfl,u3,u4,rfl,fun _=>⟨rfl,fun hn hs n hr=>?_⟩⟩
    ·rw[aae,e1];rfl
    ·have:=(u6 rfl).2 hn (by rw[eZ];exact hs) n (by rw[eZ];exact hr);rw[eZ] at this;exact this
  ·rw[e2] at hc;refine⟨by rw[e1];trivial,rfl,eZ,?_⟩;rw[h2] at hc;cases sh<;>first|exact hc.elim|exact(hC rfl).elim|skip
   have hc:qg j=gf φ ps j:=hc;refine⟨hc.trans eZ,fun a' ha=>?_⟩;rw[e1,h3,ha];exact rfl
 have IP:∀j a,j<outs.ar.length->aV a (aj of u1 (ρ j))=aV a (oc j):=fun j a hj=>by obtain⟨sh,r',c',h1,h2,h3⟩:=AK j hj;rw[h2,h3];cases sh<;>rfl
 have kept:∀id,(∀j,j<outs.ar.length->ρ j≠id)->aj of u1 id=of id/\id∉bU u1:=fun id h=>c3 id fun j _ hj=>h j om;have split:∀id,(∃j,j<outs.ar.length/\ρ j=id)\/(∀j,j<outs.ar.length->ρ j≠id):=fun id=>by
  by_cases h:∃j,j<outs.ar.length/\ρ j=id
  ·exact .inl h
  ·exact .inr fun j hj e=>h ⟨j,hj,e⟩
 have hD:∀j a,aV a (oc j)=true->j<outs.ar.length/\(k<=j\/bF j bD=true):=fun j a hx=>by
  have h1:j<outs.ar.length:=zF fun h=>by rw[c2 j (.inr om)] at hx;exact nI hx
  refine⟨h1,?_⟩;cases hn:bF j bD with
  |true=>exact .inr rfl
  |false=>refine .inl (zF fun h=>?_);rw[(dead j om hn).1] at hx;simp[aV,Ev.live] at hx
 generalize eZ:(fun id=>bif (Nat.ble fr id&&Nat.blt id (fr+(outs.ar.length-k))) then qg (id-fr+k) else φ id)=fF;have pN0:∀j,k<=j->j<outs.ar.length->fF (ρ j)=qg j:=fun j h1 h2=>by
  rw[<-eZ];simp only;rw[fresh j h1];have hb:(Nat.ble fr (fr+(j-k))&&Nat.blt (fr+(j-k)) (fr+(outs.ar.length-k)))=true:=by rw[ze,Nat.ble_eq,Jv];omega
  rw[hb,zK];congr 1;omega
 have pO:∀id,of id≠.none->fF id=φ id:=fun id hn=>by
  rw[<-eZ];simp only;have hb:(Nat.ble fr id&&Nat.blt id (fr+(outs.ar.length-k)))=false:=by
   cases e:(Nat.ble fr id&&Nat.blt id (fr+(outs.ar.length-k))) with
   |false=>rfl
   |true=>rw[ze,Nat.ble_eq,Jv] at e;have:=G3 (k+(id-fr)) om om;rw[fresh _ om,show fr+(k+(id-fr)-k)=id by omega] at this;exact absurd ((ofn id).2 this) hn
  rw[hb,zE]
 have pN:∀j,(k<=j\/bF j bD=true)->j<outs.ar.length->fF (ρ j)=qg j:=fun j h1 h2=>by
  by_cases hv:k<=j
  ·exact pN0 j hv h2
  ·have hn:=h1.resolve_left hv;obtain⟨_,l2,_,_,l5,_⟩:=live j om hn;rw[pO _ (fun e=>by rw[e] at l2;exact l2),l5]
 have Qt:∀b,qd (gf φ ps) Ow b->∃i,i<k/\aV (φ (ρ i)) (of (ρ i))=true/\(φ (ρ i)).block=b:=fun b ⟨i,h1,h2⟩=>by
  obtain⟨hE,g1,g2⟩:=hw.IH h1;have hT:xP ps i=ρ i:=(hw.aR (tied i hE).1).2.1;refine⟨i,hE,?_,by rw[<-hT];exact h2⟩;rw[<-hT];have h5:=hw.bY g1;rw[<-hz];cases ha:nU outs with
  |false=>exact g2
  |true=>
   show aV (φ (xP ps i)) (aj o (eY o ps.bY) (xP ps i))=true;rw[iR]
   ·exact g2
   ·intro hk;have key:∀ks:List Nat,xP ps i∈bU (eY o ks)->xP ps i∈ks:=by
     intro ks
     induction ks with
     |nil=>intro h;cases h
     |cons q r ih=>
      intro h;simp only[eY] at h;split at h
      ·rcases zA.1 h with h|h
       ·exact h▸zg ..
       ·exact zf _ (ih h)
      ·exact zf _ (ih h)
    exact h5 (key _ hk)
 have Qu:∀b,qd (gf φ ps) Ow b->qd φ of b:=fun b hb=>by obtain⟨i,_,h1,h2⟩:=Qt b hb;exact⟨ρ i,h1,h2⟩
 have free:∀id,(∀j,j<outs.ar.length->ρ j≠id)->aV (φ id) (of id)=true->¬qd (gf φ ps) Ow (φ id).block:=fun id hI hx ⟨i,h1,h2⟩=>by obtain⟨hE,g1,g2⟩:=hw.IH h1;have:=hm.inj _ _ g2 (ofx id hx).2 h2;have hr:=(hw.aR (tied i hE).1).2.1;exact hI i om (hr.symm.trans this)
 have BC:∀id,(∀j,j<outs.ar.length->ρ j≠id)->aV (φ id) (of id)=true->w'.heap[(φ id).block]?=w.heap[(φ id).block]?:=fun id hI hx=>H.frame _ (Mf.sep id hx).1 (free id hI hx);have Qv:∀id,(∀j,j<outs.ar.length->ρ j≠id)->aV (φ id) (of id)=true->X1 (φ id).block\/nU outs=false:=fun id hI hx=>by
  by_cases hl:id∈ps.bY
  ·exact .inr (Qs id hl hx)
  ·refine .inl (hX _ (.inr ⟨id,(ofx id hx).2,rfl,hl,fun⟨i,h1,h2⟩=>?_⟩));exact free id hI hx ⟨i,h1,by unfold gf;rw[h2]⟩
 have stays:∀b,ag X φ of w b->w'.heap[b]?=w.heap[b]?:=fun b hb=>H.frame b hb.1 fun h=>hb.2.2 (Qu b h);have news:∀id,aV (fF id) (aj of u1 id)=true->w.heap.size<=(fF id).block\/qd φ of (fF id).block:=fun id hx=>by
  rcases split id with ⟨j,hj,rfl⟩|h
  ·rw[IP j _ hj] at hx;rw[pN j (hD j _ hx).2 hj] at hx ⊢;exact(H.news _ ⟨j,hx,rfl⟩).imp (fun h=>h) (Qu _)
  ·rw[(kept id h).1] at hx;have hq:of id≠.none:=fun e=>by rw[e] at hx;exact nI hx
   rw[pO id hq] at hx ⊢;exact .inr ⟨id,hx,rfl⟩
 have imm:∀b,ag X φ of w b->ag X fF (aj of u1) w' b:=fun b ⟨h1,h2,h3⟩=>⟨jo h1 H.size,h2,fun⟨id,e1,e2⟩=>by
  rcases news id e1 with h|h
  ·omega
  ·exact h3 (e2▸h)⟩
 have Qw:nU outs=true->∀b,ag X1 qg oc w' b->ag X fF (aj of u1) w' b:=fun ha b ⟨h1,h2,h3⟩=>⟨h1,fun hx=>h2 (hX b (.inl hx)),fun⟨id,e1,e2⟩=>by
  rcases split id with ⟨j,hj,rfl⟩|h
  ·rw[IP j _ hj] at e1;rw[pN j (hD j _ e1).2 hj] at e2 e1;exact h3 ⟨j,e1,e2⟩
  ·rw[(kept id h).1] at e1;have hq:of id≠.none:=fun e=>by rw[e] at e1;exact nI e1
   rw[pO id hq] at e2 e1;rcases Qv id h e1 with h4|h4
   ·exact h2 (e2▸h4)
   ·rw[ha] at h4;cases h4⟩
 have GR:∀id,Up w w' (φ id) (fF id) (of id) (aj of u1 id):=fun id=>by
  rcases split id with ⟨j,hj,rfl⟩|h
  ·by_cases hv:j<k
   ·cases hn:bF j bD with
    |false=>rw[(dead j hv hn).2];cases of (ρ j)<;>trivial
    |true=>
     obtain⟨_,l2,l3,_,l5,l6⟩:=live j hv hn;have:=l6 (fF (ρ j)) ((pN j (.inr hn) hj).trans l5)
     rwa [<-l3] at this
   ·rw[(ofn _).2 (G3 j om hj)];trivial
  ·rw[(kept id h).1];by_cases hq:of id=.none
   ·rw[hq];trivial
   ·rw[pO id hq];exact Up.same fun hx n hr=>Ez (BC id h hx) hr
 have keeps:∀x z,au φ of (ag X φ of w) w x z->au fF (aj of u1) (ag X fF (aj of u1) w') w' x z:=fun x z hx=>Bs imm stays GR x z hx;have lk:∀i,V9 (κ i) (oc i) (aj of u1 (ρ i)):=fun i=>by
  by_cases hi:i<outs.ar.length
  ·obtain⟨sh,r',c',h1,h2,h3⟩:=AK i hi;rw[h2,h3];cases sh<;>first|trivial|exact⟨rfl,rfl⟩
  ·rw[c2 i (.inr om)];trivial
 have pk:∀i,oc i≠.none->oc i=.dead\/fF (ρ i)=qg i:=fun i hn=>by
  have hi:i<outs.ar.length:=zF fun h=>hn (c2 i (.inr om));cases hU:bF i bD with
  |true=>exact .inr (pN i (.inr hU) hi)
  |false=>
   by_cases hE:i<k
   ·exact .inl (dead i hE hU).1
   ·exact .inr (pN i (.inl om) hi)
 have pk':∀i,oc i≠.none->oc i≠.dead->fF (ρ i)=qg i:=fun i h1 h2=>(pk i h1).resolve_left h2;have IQ:nU outs=true->∀x z,au fF (aj of u1) (ag X1 qg oc w') w' x z->au fF (aj of u1) (ag X fF (aj of u1) w') w' x z:=fun ha x z hx=>Bs (Qw ha) (fun _ _=>rfl) (fun _=>Up.same fun _ _ h=>h) x z hx;have hV:nU outs=false->AE outs.roots=false/\xG outs.ar=false:=fun h=>by unfold nU at h;rwa [jc] at h
 have lists:∀(l:List Sh) (r:List Ty) (c:ak (kW l r)) (zs:List Value),(nU outs=false->AE l=false)->cu qg oc (ag X1 qg oc w') w' (gN eg cW l r c).1 zs->
   cu fF (aj of u1) (ag X fF (aj of u1) w') w' (gN ρ κ l r c).1 zs:=fun l r c zs hl h=>by
  have h2:=Wa (φ':=fF) lk pk' l r c zs h;cases ha:nU outs with
  |true=>exact EB (IQ ha) _ _ h2
  |false=>exact qq5 ρ κ l (hl ha) r c zs h2
 have main:Comes C X φ fF of u1 w w' (Bn (fill ρ κ outs y).1) (DE fk):=by
  refine⟨⟨fun id=>?_,fun i j hi hj e=>?_,fun i hi=>?_,fun b hb=>jo (Mf.xs b hb) H.size,fun id=>?_,fun g t x hg=>keeps _ _ (Mf.fT g t x hg),Mf.rT stays⟩,?_,GR,H.size,fun b hb hh=>?_,fun id hn hk=>pO id hn,news,H.still⟩
  ·rcases split id with ⟨j,hj,rfl⟩|h
   ·by_cases hv:j<k/\bF j bD=false
    ·rw[(dead j hv.1 hv.2).2];trivial
    ·have hK:=M1.ar j;obtain⟨sh,r',c',h1,h2,h3⟩:=AK j hj;have xU:=pN j (by
      cases hn:bF j bD with
      |true=>exact .inr rfl
      |false=>exact .inl (zF fun h=>hv ⟨by omega,hn⟩)) hj
     rw[h2] at hK;rw[h3];have hC:nU outs=false->xG [sh]=false:=fun ha=>z6i (hV ha).2 j sh h1;cases sh with
     |gone=>trivial
     |box l=>obtain⟨b1,cz,el,lo,hy,b2,b3,b4⟩:=hK;refine⟨by rw[xU];exact b1,cz,el,lo,hy,by rw[xU];exact b2,b3,lists l r' c' _ (fun ha=>?_) b4⟩;have:=hC ha;simpa[xG] using this
     |vec t=>
      obtain⟨b1,b2,b3⟩:=hK;refine⟨b1,b2,fun hn=>?_⟩;rw[xU];refine(b3 hn).imp (fun⟨b4,ec,b5,b6,b7,b8,b9⟩=>?_) fun g=>g;refine⟨b4,ec,?_,b6,b7,b8,fun h=>by cases h⟩;cases ha:nU outs with
      |true=>exact rq (j9 (Qw ha) (fun _ _=>rfl) t) b5
      |false=>have:=hC ha;exact rq (fun x c h=>IN t x c (by simpa[xG] using this) h) b5
     |iter=>obtain⟨s,n,b1,b2⟩:=hK;exact⟨s,n,by rw[xU];exact b1,b2⟩
   ·rw[(kept id h).1];by_cases hq:of id=.none
    ·rw[hq];trivial
    ·exact Iw imm stays keeps (pO id hq) (BC id h) (Mf.ar id)
  ·have mixed:∀a b,a<outs.ar.length->aV (qg a) (oc a)=true->(∀j,j<outs.ar.length->ρ j≠b)->aV (φ b) (of b)=true->(qg a).block=(φ b).block->False:=fun a b ha h6 hb hW e=>by
    rcases H.news _ ⟨a,h6,rfl⟩ with h|h
    ·have:=(Mf.sep b hW).1;omega
    ·exact free b hb hW (e▸h)
   rcases split i with ⟨i',hy,rfl⟩|h1<;>rcases split j with ⟨j',hJ,rfl⟩|h2
   ·rw[IP i' _ hy] at hi;rw[IP j' _ hJ] at hj;rw[pN i' (hD i' _ hi).2 hy] at hi e;rw[pN j' (hD j' _ hj).2 hJ] at hj e;rw[M1.inj i' j' hi hj e]
   ·rw[IP i' _ hy] at hi;rw[(kept j h2).1] at hj;have hq:of j≠.none:=fun e=>by rw[e] at hj;exact nI hj
    rw[pN i' (hD i' _ hi).2 hy] at hi e;rw[pO j hq] at hj e;exact(mixed i' j hy hi h2 hj e).elim
   ·rw[IP j' _ hJ] at hj;rw[(kept i h1).1] at hi;have hq:of i≠.none:=fun e=>by rw[e] at hi;exact nI hi
    rw[pN j' (hD j' _ hj).2 hJ] at hj e;rw[pO i hq] at hi e;exact(mixed j' i hJ hj h1 hi e.symm).elim
   ·rw[(kept i h1).1] at hi;rw[(kept j h2).1] at hj;have hq:of i≠.none:=fun e=>by rw[e] at hi;exact nI hi
    have hQ:of j≠.none:=fun e=>by rw[e] at hj;exact nI hj
    rw[pO i hq] at hi e;rw[pO j hQ] at hj e;exact Mf.inj i j hi hj e
  ·rcases split i with ⟨i',hy,rfl⟩|h1
   ·rw[IP i' _ hy] at hi;rw[pN i' (hD i' _ hi).2 hy] at hi ⊢;exact⟨(M1.sep i' hi).1,fun hx=>(M1.sep i' hi).2 (hX _ (.inl hx))⟩
   ·rw[(kept i h1).1] at hi;have hq:of i≠.none:=fun e=>by rw[e] at hi;exact nI hi
    rw[pO i hq] at hi ⊢;exact⟨jo (Mf.sep i hi).1 H.size,(Mf.sep i hi).2⟩
  ·rcases split id with ⟨j,hj,rfl⟩|h
   ·by_cases hv:j<k/\bF j bD=false
    ·rw[(dead j hv.1 hv.2).2];trivial
    ·have he:=M1.uA j;obtain⟨sh,r',c',h1,h2,h3⟩:=AK j hj;have xU:=pN j (by
      cases hn:bF j bD with
      |true=>exact .inr rfl
      |false=>exact .inl (zF fun h=>hv ⟨by omega,hn⟩)) hj
     rw[h2] at he;rw[h3,xU];cases sh with
     |gone=>trivial
     |box l=>exact fun hs=>he ((qq2 ρ κ l r' c').symm.trans hs)
     |vec t=>exact he
     |iter=>trivial
   ·rw[(kept id h).1];by_cases hq:of id=.none
    ·rw[hq];trivial
    ·rw[pO id hq];exact Mf.lC id (fun hx=>.same (BC id h hx)) stays
  ·exact z3a (lists outs.roots _ _ _ (fun ha=>(hV ha).1) rv)
  ·refine H.frame b hb fun ho=>?_;obtain⟨i,g1,g2,g3⟩:=Qt b ho;exact hh ⟨ρ i,c4 i om,g2,g3⟩
 rw[<-hz] at main;exact⟨fF,hF.trans main⟩
theorem zjm{C:Cx}(HN:∀i fn,C.P.funcs[(bI C.sigs i).f]?=some fn->(fn.name== "runtime.NumGoroutine")=false):qxl C:=by intro R hR X φ o w hm fr f vs zs v u hv hg hf;obtain⟨i,ps,c,y,hc,hp,he,hy,rfl,rfl⟩:=qdt _ _ hg;subst hc;obtain⟨q1,q2⟩:=qxi hm hp hv;obtain⟨hj,_⟩:=Ql hp;obtain⟨⟨fn,g1,g2⟩,g3⟩:=hR i c y hy _ _ w zs q1 q2;refine⟨⟨fn,g1,HN i fn g1,g2⟩,Calls.mono g3 fun e w' hb=>?_⟩;obtain⟨fk,qg,X1,rfl,hX,M1,rv,H⟩:=hb;obtain⟨fF,h⟩:=zmw hm hj he hf hX M1 rv H;exact⟨_,fF,rfl,h⟩
end Ev