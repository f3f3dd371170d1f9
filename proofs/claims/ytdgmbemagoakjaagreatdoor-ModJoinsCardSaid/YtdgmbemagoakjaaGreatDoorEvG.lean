/- Regions, code, functions and calls are sound. No statement of its own about the program. -/
import Derived.Test.YtdgmbemagoakjaaGreatDoorEvE
import Derived.Tactics
import Derived.Scope
import Derived.ScopeJumps
namespace Ev
open Go
section
variable {C:Cx} {nt:Nat} {X:Nat→Prop} {φ φ':Nat→Addr} {st:St} {a:Act} {w w':World} {R:gY C.sigs}
theorem qr9(a:Act)(d:Option Tmp)(z:Value):(a.put d z).tmps.size=a.tmps.size:=by cases d<;>simp[Act.put]
theorem qga(a:Act)(d:Option Tmp)(z:Value):(a.put d z).defers=a.defers:=by cases d<;>rfl
theorem qra(a:Act)(d:Tmp)(z:Value)(h:d<a.tmps.size):(a.put (some d) z).tmps.getD d undef=z:=by simp[Act.put,h]
theorem SU(a:Act)(d:Option Tmp)(z:Value)(t:Nat)(h:d≠some t):(a.put d z).tmps.getD t undef=a.tmps.getD t undef:=by
 cases d with
 |none=>rfl
 |some d=>have:d≠t:=fun e=>h (e▸rfl);simp[Act.put,Array.getElem?_setIfInBounds_ne this]
def Og(nt:Nat)(d:Option Tmp):Prop:=∀t,d=some t->t<nt
theorem Oh(st:St)(d:Option Nat)(v:V)(t:Nat):(d=some t/\(bG st d v).env t=v)\/(d≠some t/\(bG st d v).env t=st.env t):=by
 cases d with
 |none=>exact .inr ⟨by simp,rfl⟩
 |some d=>
  by_cases h:t=d
  ·subst h;exact .inl ⟨rfl,dM⟩
  ·exact .inr ⟨fun e=>h (by injection e with e;exact e.symm),gM h⟩
theorem tD(st:St)(d:Option Nat)(v:V):(bG st d v).obj=st.obj:=by cases d<;>rfl
theorem Rel.step(h:Rel C nt X φ st a w){u:List (Nat×Obj)}{v:V}{z:Value}{d:Option Tmp}(hd:Og nt d)(hc:Comes C X φ φ' st.obj u w w' v z):Rel C nt X φ' (bG {st with obj:=ar st.obj u} d v) (a.put d z) w':=by
 have ho:(bG {st with obj:=ar st.obj u} d v).obj=ar st.obj u:=tD _ _ _;refine⟨by rw[ho];exact hc.mem,(qr9 _ _ _).trans h.size,fun t=>?_,by rw[qga];exact h.defers⟩;rw[ho];rcases Oh {st with obj:=ar st.obj u} d v t with ⟨h1,h2⟩|⟨h1,h2⟩
 ·rw[h2];subst h1;rw[qra _ _ _ (by rw[h.size];exact hd t rfl)];exact hc.val
 ·rw[h2,SU _ _ _ _ h1];exact hc.keeps _ _ (h.env t)
theorem Rel.put(h:Rel C nt X φ st a w){v:V}{z:Value}{d:Option Tmp}(hd:Og nt d)(hv:av φ st.obj (ah X φ st.obj w) w v z):Rel C nt X φ (bG st d v) (a.put d z) w:=by
 have ho:(bG st d v).obj=st.obj:=tD _ _ _;refine⟨by rw[ho];exact h.toMRel,(qr9 _ _ _).trans h.size,fun t=>?_,by rw[qga];exact h.defers⟩;rw[ho];rcases Oh st d v t with ⟨h1,h2⟩|⟨h1,h2⟩
 ·rw[h2];subst h1;rw[qra _ _ _ (by rw[h.size];exact hd t rfl)];exact hv
 ·rw[h2,SU _ _ _ _ h1];exact h.env t
theorem Rel.dR(h:Rel C nt X φ st a w){v:V}{d:Nat}(hv:∀z,av φ st.obj (ah X φ st.obj w) w (st.env d) z->av φ st.obj (ah X φ st.obj w) w v z):Rel C nt X φ (bG st (some d) v) a w:=by
 refine⟨h.toMRel,h.size,fun t=>?_,h.defers⟩;rcases Oh st (some d) v t with ⟨h1,h2⟩|⟨h1,h2⟩
 ·rw[h2];injection h1 with h1;subst h1;exact hv _ (h.env d)
 ·rw[h2];exact h.env t
theorem qit{nt:Nat}{l:List Oper}:q7 nt l=true->∀o,o∈l->Og nt o.dst:=by
 induction l with
 |nil=>intro _ o ho;cases ho
 |cons p r ih=>
  intro h o ho;simp only[q7,zd] at h;rcases zt.1 ho with rfl|ho
  ·intro t e;have h1:=h.1;rw[e] at h1;exact zF h1
  ·exact ih h.2 o ho
def Sound(C:Cx)(nt:Nat)(X:Nat->Prop)(J:(Nat->Prop)->(Nat->Addr)->St->Act->World->Prop)(st:St)(P:Act->World->Prop):Prop:=∀X' φ a w,(∀b,X b->X' b)->Rel C nt X' φ st a w->J X' φ st a w->P a w
theorem Oi{P:Program}{ops:Array Oper}{Q:Exit->Act->World->Prop}:∀(l m:List Oper) (a:Act) (w:World),wpList P ops (Exit.then (wpList P ops Q m) Q) l a w->wpList P ops Q (l++m) a w
 |[],m,a,w,h=>h
 |o::l,m,a,w,h=>by
  show(if Region.wanted o (yielded ops a.tmps) then o.wp P a w (wpList P ops Q (l++m)) Q\/(o.asks P a w/\LetsOut Q) else wpList P ops Q (l++m) (a.put o.dst undef) w);have h:(if Region.wanted o (yielded ops a.tmps) then o.wp P a w (wpList P ops (Exit.then (wpList P ops Q m) Q) l) (Exit.then (wpList P ops Q m) Q)\/(o.asks P a w/\LetsOut (Exit.then (wpList P ops Q m) Q)) else wpList P ops (Exit.then (wpList P ops Q m) Q) l (a.put o.dst undef) w):=h;split
  ·rename_i hw;rw[if_pos hw] at h;refine h.imp (fun h=>?_) (fun h=>h);unfold Oper.wp at*
   generalize (execOp a.eval o).run P w=r at*
   cases r with
   |ok n w'=>
    cases n<;>simp only[Oper.upon] at h ⊢<;>
     first
      |exact Oi l m _ _ h
      |exact Calls.mono h (fun e Mp he=>by cases e<;>first|exact Oi l m _ _ he|exact he)
      |exact Rows.mono h (fun _ _ he=>Oi l m _ _ he)
   |halt x w'=>cases x<;>simp only[Oper.upon] at h ⊢<;>exact h
  ·rename_i hw;rw[if_neg hw] at h;exact Oi l m _ _ h
end
theorem qmm{d:Nat}{l:List Oper}:∀{g r:List Oper} {p:Oper},H2 d l=some (g,p,r)->l=g++p::r:=by
 induction l with
 |nil=>intro g r p h;cases h
 |cons o l ih=>
  intro g r p h;have key:(H2 d l).map (fun q=>(o::q.1,q.2.1,q.2.2))=some (g,p,r)->o::l=g++p::r:=by intro h;rw[Option.map_eq_some_iff] at h;obtain⟨q,h1,h2⟩:=h;obtain⟨q1,q2,q3⟩:=q;simp only[Prod.mk.injEq] at h2;obtain⟨rfl,rfl,rfl⟩:=h2;rw[ih h1];rfl
  simp only[H2] at h;split at h
  ·rename_i c _ _ _;cases hb:Nat.beq c d<;>rw[hb] at h
   ·exact key h
   ·injection h with h;simp only[Prod.mk.injEq] at h;obtain⟨rfl,rfl,rfl⟩:=h;rfl
  ·exact key h
theorem qbs{nt:Nat}{l m:List Oper}:q7 nt (l++m)=true->q7 nt l=true/\q7 nt m=true:=by
 induction l with
 |nil=>exact fun h=>⟨rfl,h⟩
 |cons o l ih=>intro h;simp only[List.cons_append,q7,zd] at h ⊢;obtain⟨h1,h2⟩:=ih h.2;exact⟨⟨h.1,h1⟩,h2⟩
theorem qpd{o:Nat->Obj}{u:List (Nat×Obj)}:xk (some o) u=true->∀id,id∈bO u->o id=.none:=by
 induction u with
 |nil=>intro _ id hi;cases hi
 |cons q r ih=>
  obtain⟨i,x⟩:=q;intro h id hi;simp only[xk,zd] at h;rcases zt.1 hi with hi|hi
  ·subst hi;have:=h.1;cases e:o id<;>rw[e] at this<;>first|rfl|cases this
  ·exact ih h.2 id hi
theorem Wm:∀(g:List Oper) (st:St),(xj st g).obj=st.obj
 |[],_=>rfl
 |o::r,st=>by show(xj (bG st o.dst .cX) r).obj=_;rw[Wm r,tD]
theorem qmn:∀(g:List Oper) (st:St) (t:Nat),(xj st g).env t=.cX\/((xj st g).env t=st.env t/\∀o,o∈g->o.dst≠some t)
 |[],_,_=>.inr ⟨rfl,(fun _ h=>by cases h)⟩
 |o::r,st,t=>by
  rcases qmn r (bG st o.dst .cX) t with h|⟨h1,h2⟩
  ·exact .inl h
  ·rcases Oh st o.dst .cX t with ⟨h3,h4⟩|⟨h3,h4⟩
   ·exact .inl (h1.trans h4)
   ·refine .inr ⟨h1.trans h4,fun q hq=>?_⟩;rcases zt.1 hq with rfl|hq
    ·exact h3
    ·exact h2 q hq
section
variable {C:Cx} {nt:Nat} {X:Nat→Prop} {R:gY C.sigs}
structure uL (ds:List Oper) (jq:Nat->Addr) (ss:St) (as:Act) (ws:World) (φ:Nat->Addr) (st:St) (a:Act) (w:World):Prop where
 size:ws.heap.size<=w.heap.size
 same:∀b,b<ws.heap.size->w.heap[b]?=ws.heap[b]?
 ct:∀id,ss.obj id≠.none->st.obj id=ss.obj id/\φ id=jq id
 new:∀id,ss.obj id=.none->aV (φ id) (st.obj id)=true->ws.heap.size<=(φ id).block
 tmps:∀t,(∀o,o∈ds->o.dst≠some t)->a.tmps.getD t undef=as.tmps.getD t undef
 still:tw ws w
theorem uL.step{ds:List Oper}{jq φ φ':Nat->Addr}{ss st:St}{as a:Act}{ws w w':World}(h:uL ds jq ss as ws φ st a w){u:List (Nat×Obj)}{v:V}{z:Value}{o:Oper}(ho:o∈ds)(hc:Comes C X φ φ' st.obj u w w' v z)(hn:xk (some ss.obj) u=true):uL ds jq ss as ws φ' (bG {st with obj:=ar st.obj u} o.dst v) (a.put o.dst z) w':=by
 have hk:∀id,id∈bO u->ss.obj id=.none:=qpd hn;have hd:(bG {st with obj:=ar st.obj u} o.dst v).obj=ar st.obj u:=tD _ _ _;have ct:∀id,ss.obj id≠.none->ar st.obj u id=ss.obj id/\φ' id=jq id:=fun id hi=>by obtain⟨h1,h2⟩:=h.ct id hi;have he:id∉bO u:=fun hm=>hi (hk id hm);exact⟨(gj he).trans h1,(hc.ny id (by rw[h1];exact hi) he).trans h2⟩
 refine⟨Nat.le_trans h.size hc.size,fun b hb=>?_,by rw[hd];exact ct,fun id hi hx=>?_,fun t ht=>?_,⟨hc.still.1.trans h.still.1,hc.still.2.trans h.still.2⟩⟩
 ·rw[hc.frame b (Nat.lt_of_lt_of_le hb h.size),h.same b hb];rintro⟨id,h1,h2,h3⟩;have:=h.new id (hk id h1) h2;omega
 ·rw[hd] at hx;rcases hc.news id hx with h1|⟨j,h1,h2⟩
  ·have:=h.size;omega
  ·by_cases hj:ss.obj j=.none
   ·have:=h.new j hj h1;omega
   ·exfalso;obtain⟨e1,e2⟩:=ct j hj;obtain⟨e3,e4⟩:=h.ct j hj;have hf:aV (φ' j) (ar st.obj u j)=true:=by rw[e1,e2,<-e3,<-e4];exact h1
    have:=hc.mem.inj j id hf hx (by rw[e2,<-e4];exact h2);subst this;exact hj hi
 ·rw[SU _ _ _ _ (ht o ho)];exact h.tmps t ht
theorem uL.undef{ds:List Oper}{jq φ:Nat->Addr}{ss st:St}{as a:Act}{ws w:World}(h:uL ds jq ss as ws φ st a w){o:Oper}(ho:o∈ds)(v:V)(z:Value):uL ds jq ss as ws φ (bG st o.dst v) (a.put o.dst z) w:=⟨h.size,h.same,by rw[tD];exact h.ct,by rw[tD];exact h.new,fun t ht=>by rw[SU _ _ _ _ (ht o ho)];exact h.tmps t ht,h.still⟩
theorem uL.dR{ds:List Oper}{jq φ:Nat->Addr}{ss st:St}{as a:Act}{ws w:World}(h:uL ds jq ss as ws φ st a w)(d:Option Nat)(v:V):uL ds jq ss as ws φ (bG st d v) a w:=⟨h.size,h.same,by rw[tD];exact h.ct,by rw[tD];exact h.new,h.tmps,h.still⟩
theorem uL.forget{g:List Oper}{p:Oper}{pd:Nat}(hj:p.dst=some pd){jq φ:Nat->Addr}{ss st:St}{as a:Act}{ws w:World}(hs:Rel C nt X jq ss as ws)(he:Rel C nt X φ st a w)(h:uL (g++[p]) jq ss as ws φ st a w){y:Bool}(hy:dx (st.env pd)=.d .bool y):Rel C nt X jq (bG (xj ss g) (some pd) (.d .bool y)) a w:=by
 have hc:(bG (xj ss g) (some pd) (.d .bool y)).obj=ss.obj:=by rw[tD,Wm]
 have hd:∀b,ah X jq ss.obj ws b->ah X jq ss.obj w b:=fun b hb=>⟨Nat.lt_of_lt_of_le hb.1 h.size,hb.2.1,hb.2.2⟩;have hf:∀b,ah X jq ss.obj ws b->w.heap[b]?=ws.heap[b]?:=fun b hb=>h.same b hb.1;have keeps:∀x z,av jq ss.obj (ah X jq ss.obj ws) ws x z->av jq ss.obj (ah X jq ss.obj w) w x z:=fun x z hx=>wA hd hf (fun id=>Up.same fun hx n hr=>CU (h.same _ (hs.sep id hx).1) hr) x z hx;refine⟨?_,he.size,fun t=>?_,he.defers⟩
 ·rw[hc];refine⟨fun id=>Ih hd hf keeps rfl (fun hx=>h.same _ (hs.sep id hx).1) (hs.aw id),hs.inj,fun i hi=>⟨Nat.lt_of_lt_of_le (hs.sep i hi).1 h.size,(hs.sep i hi).2⟩,
   fun b hb=>Nat.lt_of_lt_of_le (hs.xs b hb) h.size,fun id=>hs.iT id (fun hx=>.same (h.same _ (hs.sep id hx).1)) hf,fun g t x hg=>keeps _ _ (hs.eG g t x hg),hs.mP hf⟩
 ·rw[hc];rcases Oh (xj ss g) (some pd) (.d .bool y) t with ⟨h1,h2⟩|⟨h1,h2⟩
  ·rw[h2];injection h1 with h1;subst h1;have:=NN (he.env pd);rw[hy] at this;have:=oE this;rw[this];exact BZ
  ·rw[h2];rcases qmn g ss t with h3|⟨h3,h4⟩
   ·rw[h3];trivial
   ·rw[h3,h.tmps t fun o ho=>?_]
    ·exact keeps _ _ (hs.env t)
    ·rcases zL.1 ho with ho|ho
     ·exact h4 o ho
     ·rw[zB] at ho;subst ho;rw[hj];exact h1
theorem Wn{ops:Array Oper}{a:Act}{j dj:Nat}{oj:Oper}{b:Bool}(hj:ops.toList[j]?=some oj)(hd:oj.dst=some dj)(h:a.tmps.getD dj undef=.bool b):yielded ops a.tmps j=some b:=by
 unfold yielded;rw[zN] at hj;have h':a.tmps[dj]?=some (.bool b):=by
  rw[Array.getD_eq_getD_getElem?] at h;cases e:a.tmps[dj]? with
  |none=>rw[e] at h;cases h
  |some z=>rw[e] at h;exact congrArg some h
 simp[hj,hd,h']
theorem qgc{ops:Array Oper}{a:Act}{j dj:Nat}{oj:Oper}(hj:ops.toList[j]?=some oj)(hd:oj.dst=some dj)(h:a.tmps.getD dj undef=undef):yielded ops a.tmps j=none:=by
 unfold yielded;rw[zN] at hj;rw[Array.getD_eq_getD_getElem?] at h;simp only[hj,Option.bind_some,hd];cases e:a.tmps[dj]? with
 |none=>rfl
 |some z=>rw[e] at h;have h:z=undef:=h;subst h;rfl
structure mU (C:Cx) (nt:Nat) (g0:Option (Nat->Obj)) (r:List Oper) (J:(Nat->Prop)->(Nat->Addr)->St->Act->World->Prop):Prop where
 step:∀X φ st a w φ' u v z w' o,o∈r->J X φ st a w->Rel C nt X φ st a w->Comes C X φ φ' st.obj u w w' v z->xk g0 u=true->J X φ' (bG {st with obj:=ar st.obj u} o.dst v) (a.put o.dst z) w'
 undef:∀X φ st a w o,o∈r->J X φ st a w->J X φ (bG st o.dst .undef) (a.put o.dst undef) w
 dR:∀X φ st a w d v,J X φ st a w->J X φ (bG st d v) a w
 forget:g0=none->∀X jq ss as ws φ st a w (g js:List Oper) (v:Option Nat×V),J X jq ss as ws->uL g jq ss as ws φ st a w->J X jq (bG (xj ss js) v.1 v.2) a w
theorem mU.tail{g0:Option (Nat->Obj)}{r r':List Oper}{J:(Nat->Prop)->(Nat->Addr)->St->Act->World->Prop}(h:mU C nt g0 r J)(hs:∀o,o∈r'->o∈r):mU C nt g0 r' J:=⟨fun X φ st a w φ' u v z w' o ho=>h.step X φ st a w φ' u v z w' o (hs o ho),fun X φ st a w o ho=>h.undef X φ st a w o (hs o ho),h.dR,h.forget⟩
variable (hC:cu C) (hE:ka C) (HC:∀X φ o w,MRel C X φ o w→∀fr f,C1 C R X φ o w fr f)
include hC hE HC
theorem qpe{ops:Array Oper}{rg:Nat}:∀(n:Nat) {γ δ:Type} (X:Nat->Prop) (Q:Exit->Act->World->Prop) (wr:γ->δ) (i:Nat) (r:List Oper) (st:St) (k:(γ->δ)->St->Option δ) (y:δ) (J:(Nat->Prop)->(Nat->Addr)->St->Act->World->Prop) (g0:Option (Nat->Obj)),lM lf C R rg ops.toList g0 n wr i r st k=some y->q7 nt r=true->mU C nt g0 r J->(∀bN,k wr bN=some y->Sound C nt X J bN (Q .normal))->Sound C nt X J st (wpList C.P ops Q r):=by
 intro n
 induction n with
 |zero=>intro γ δ X Q wr i r st k y J g0 h;cases h
 |succ n ih=>
  intro γ δ X Q wr i r st k y J g0 h hd hJ hk;cases r with
  |nil=>exact hk st h
  |cons o r=>
   have hm:Og nt o.dst:=qit hd o (zj ..);have hn:q7 nt r=true:=(qbs (l:=[o]) hd).2;have hs:mU C nt g0 r J:=hJ.tail fun q hq=>zm _ hq;have runs:(match cL lf C R st.env st.obj (jn rg i) o.type o.op with
     |.fail=>none
     |.kG v u=>bif xk g0 u then mN v fun v=>q8 (jn rg i) st.obj u fun o'=>lM lf C R rg ops.toList g0 n wr (i+1) r (bG {st with obj:=o'} o.dst v) k else none
     |.dyn _ x out=>lf.b x fun y=>bif xk g0 (out y).2 then mN (out y).1 fun v=>q8 (jn rg i) st.obj (out y).2 fun o'=>lM lf C R rg ops.toList g0 n wr (i+1) r (bG {st with obj:=o'} o.dst v) k else none)=some y->
     ∀X' φ a w,(∀b,X b->X' b)->Rel C nt X' φ st a w->J X' φ st a w->o.wp C.P a w (wpList C.P ops Q r) Q:=by
    intro h X' φ a w hX hR hj;have go:∀v u,(cL lf C R st.env st.obj (jn rg i) o.type o.op).aG v u->(bif xk g0 u then mN v fun v=>q8 (jn rg i) st.obj u fun o'=>lM lf C R rg ops.toList g0 n wr (i+1) r (bG {st with obj:=o'} o.dst v) k else none)=some y->
      o.wp C.P a w (wpList C.P ops Q r) Q:=by
     intro v u hg h;cases hb:xk g0 u with
     |false=>rw[hb] at h;cases h
     |true=>rw[hb,cond_true,We] at h;obtain⟨h1,h2⟩:=Wf _ _ _ _ h;have hl:=V5 hC hE hR.toMRel (fun x=>hR.cm x) (HC X' φ st.obj w hR.toMRel (jn rg i)) hg h2;exact hl.upon fun val w' φ' hc=>ih X Q wr (i+1) r _ k y J g0 h1 hn hs hk X' φ' _ w' hX (hR.step hm hc) (hJ.step X' φ st a w φ' u v val w' o (zj ..) hj hR hc hb)
    generalize hp:cL lf C R st.env st.obj (jn rg i) o.type o.op=pk at h go;cases pk with
    |fail=>cases h
    |kG v u=>exact go v u ⟨rfl,rfl⟩ h
    |dyn α x out=>obtain⟨q,h1,h2⟩:=B4 (x:=x) h;exact go (out q).1 (out q).2 ⟨q,h1,rfl⟩ h2
   have GV:lM lf C R rg ops.toList g0 n wr (i+1) r (bG st o.dst .undef) k=some y->Sound C nt X J st (fun a w=>wpList C.P ops Q r (a.put o.dst undef) w):=by intro h X' φ a w hX hR hj;exact ih X Q wr (i+1) r _ k y J g0 h hn hs hk X' φ _ w hX (hR.put hm rfl) (hJ.undef X' φ st a w o (zj ..) hj)
   intro X' φ a w hX hR hj;show(if Region.wanted o (yielded ops a.tmps) then o.wp C.P a w (wpList C.P ops Q r) Q\/(o.asks C.P a w/\LetsOut Q) else wpList C.P ops Q r (a.put o.dst undef) w);unfold lM at h;simp only at h;split at h
   ·rename_i hg;rw[if_pos (by simp[Region.wanted,hg])];exact .inl (runs h X' φ a w hX hR hj)
   ·rename_i j want hg;split at h
    ·rename_i oj ht;split at h
     ·rename_i dj hu;split at h
      ·
       rename_i b hb;have hz:=hR.env dj;rw[hb] at hz;have hy:=Wn ht hu hz;have hw:Region.wanted o (yielded ops a.tmps)=(bif want then b else !b):=by unfold Region.wanted;rw[hg];simp only[hy];cases b<;>cases want<;>rfl
       rw[hw];cases hc:(bif want then b else !b) with
       |true=>rw[hc] at h;rw[if_pos rfl];exact .inl (runs h X' φ a w hX hR hj)
       |false=>rw[hc] at h;rw[if_neg (by simp)];exact GV h X' φ a w hX hR hj
      ·
       rename_i hb;have hz:=hR.env dj;rw[hb] at hz;have hy:=qgc ht hu hz;have hw:Region.wanted o (yielded ops a.tmps)=false:=by unfold Region.wanted;rw[hg];simp only[hy];rfl
       rw[hw,if_neg (by simp)];exact GV h X' φ a w hX hR hj
      ·rename_i x hb;split at h
       ·
        rename_i gs;have rc:∀b,x=b->∀z,av φ st.obj (ah X' φ st.obj w) w (st.env dj) z->av φ st.obj (ah X' φ st.obj w) w (.lb b) z:=by intro b e z hz;rw[hb] at hz;subst e;exact oE hz
        cases x with
        |true=>have h:lM lf C R rg ops.toList (some gs) n wr i (o::r) (bG st (some dj) (.lb true)) k=some y:=h;exact ih X Q wr i (o::r) _ k y J _ h hd hJ hk X' φ a w hX (hR.dR (rc true rfl)) (hJ.dR X' φ st a w _ _ hj)
        |false=>have h:lM lf C R rg ops.toList (some gs) n wr i (o::r) (bG st (some dj) (.lb false)) k=some y:=h;exact ih X Q wr i (o::r) _ k y J _ h hd hJ hk X' φ a w hX (hR.dR (rc false rfl)) (hJ.dR X' φ st a w _ _ hj)
       ·cases hv:qqj C dj (o::r)
        case true=>
         rw[hv,cond_true] at h;have rc:∀b,x=b->∀z,av φ st.obj (ah X' φ st.obj w) w (st.env dj) z->av φ st.obj (ah X' φ st.obj w) w (.lb b) z:=by intro b e z hz;rw[hb] at hz;subst e;exact oE hz
         cases x with
         |true=>have h:lM lf C R rg ops.toList none n wr i (o::r) (bG st (some dj) (.lb true)) k=some y:=h;exact ih X Q wr i (o::r) _ k y J _ h hd hJ hk X' φ a w hX (hR.dR (rc true rfl)) (hJ.dR X' φ st a w _ _ hj)
         |false=>have h:lM lf C R rg ops.toList none n wr i (o::r) (bG st (some dj) (.lb false)) k=some y:=h;exact ih X Q wr i (o::r) _ k y J _ h hd hJ hk X' φ a w hX (hR.dR (rc false rfl)) (hJ.dR X' φ st a w _ _ hj)
        rw[hv,cond_false] at h;split at h
        ·rename_i g p r' hA;split at h
         ·rename_i pd hB;obtain⟨yb,h1,h2⟩:=B4 h;have hD:=qmm hA;show wpList C.P ops Q (o::r) a w;rw[hD] at hd hJ ⊢;have he:g++p::r'=(g++[p])++r':=by simp
          rw[he] at hd hJ ⊢;obtain⟨hF,hH⟩:=qbs hd;refine Oi _ _ _ _ ?_;have rc:∀b,x=b->∀z,av φ st.obj (ah X' φ st.obj w) w (st.env dj) z->av φ st.obj (ah X' φ st.obj w) w (.lb b) z:=by intro b e z hz;rw[hb] at hz;subst e;exact oE hz
          have qK:lM (γ:=Bool) (δ:=Bool) lf C R rg ops.toList (some st.obj) n (fun x=>x) i (g++[p]) (bG st (some dj) (.lb x)) (fun w' bN=>z8n _ w' (dx (bN.env pd)))=some yb:=by cases x<;>exact h1
          refine ih X' (Exit.then (wpList C.P ops Q r') Q) (fun x=>x) i (g++[p]) _ _ yb (fun X2 ef st2 a2 w2=>X2=X'/\uL (g++[p]) φ st a w ef st2 a2 w2) (some st.obj) qK hF ?_ ?_ X' φ a w (fun _ h=>h) (hR.dR (rc x rfl)) ⟨rfl,?_⟩
          ·refine⟨fun X2 ef st2 a2 w2 φ' u v z w' q hq ⟨e,hG⟩ hx hc ho=>⟨e,hG.step hq hc ho⟩,fun X2 ef st2 a2 w2 q hq ⟨e,hG⟩=>⟨e,hG.undef hq _ _⟩,fun X2 ef st2 a2 w2 d v ⟨e,hG⟩=>⟨e,hG.dR d v⟩,fun e=>by cases e⟩
          ·intro bN hf X2 ef a2 w2 _ hx ⟨e,hG⟩;subst e;have hI:dx (bN.env pd)=.d .bool yb:=by
            revert hf;generalize dx (bN.env pd)=q;intro hq;cases q<;>try (cases hq;done)
            rename_i t d;cases t<;>try (cases hq;done)
            injection hq with hq;rw[<-hq]
           exact ih X Q wr _ r' _ k y J none h2 hH (hJ.tail fun q hq=>List.mem_append_right _ hq) hk X2 φ a2 w2 hX (hG.forget hB hR hx hI)
            (hJ.forget rfl X2 φ st a w ef bN a2 w2 (g++[p]) g (some pd,.d .bool yb) hj hG)
          ·exact⟨Nat.le_refl _,fun _ _=>rfl,fun _ _=>⟨rfl,rfl⟩,fun id h1 h2=>(by
            have:(bG st (some dj) (.lb x)).obj=st.obj:=tD _ _ _;rw[this,h1] at h2;cases h2),fun _ _=>rfl,⟨rfl,rfl⟩⟩
         ·cases h
        ·cases h
      ·cases h
     ·cases h
    ·cases h
end
inductive eO (nt:Nat):Code->AC->Prop where
 |skip:eO nt .skip .skip
 |label (l:Nat):eO nt (.label l) .skip
 |region (id:Nat) (ops:Array Oper) (d:Bool) (h:q7 nt ops.toList=true):eO nt (.region id ops d) (.region id ops d)
 |seq {a b:Code} {a' b':AC} (ha:eO nt a a') (hb:eO nt b b'):eO nt (.seq a b) (.seq a' b')
 |cond {a b:Code} {a' b':AC} (c:Operand) (ts:List Nat) (ha:eO nt a a') (hb:eO nt b b'):eO nt (.cond c a b) (.cond c ts a' b')
 |block {b:Code} {b':AC} (id:Nat) (ts:List Nat) (hb:eO nt b b'):eO nt (.block id b) (.block id ts b')
 |loop {b:Code} {b':AC} (ts:List Nat) (hb:eO nt b b'):eO nt (.loop b) (.loop ts b')
 |exit (id:Nat):eO nt (.exit id) (.exit id)
 |goto (l:Nat):eO nt (.goto l) (.goto l)
 |ret:eO nt .ret .ret
 |scope {b:Code} {b':AC} (hb:eO nt b b'):eO nt (.scope b) (.scope b')
 |jump {b p r:Code} {p' r':AC} (l:Nat) (ts:List Nat) (h1:ahead l b=some p) (h2:findLabel b l=some r) (hp:eO nt p p') (hr:eO nt r r'):eO nt (.scope b) (.jump l ts p' r')
 |bad (c:Code):eO nt c .bad
def rq(P:Program):Code->(Exit->Act->World->Prop)->Act->World->Prop
 |.seq x y,Q=>rq P x (Exit.then (rq P y Q) Q)
 |.skip,Q=>Q .normal
 |.label _,Q=>Q .normal
 |c,Q=>c.wp P Q
theorem wD{P:Program}:∀{c:Code} {Q:Exit->Act->World->Prop} {a:Act} {w:World},rq P c Q a w->c.wp P Q a w:=by
 intro c
 induction c with
 |seq x y uM uN=>intro Q a w h;refine wp_seq (wp_mono (uM h) fun e a w h=>?_);cases e<;>first|exact uN h|exact h
 |skip=>intro Q a w h;exact wp_skip h
 |label l=>intro Q a w h;exact wp_label h
 |_=>intro Q a w h;exact h
theorem IA{P:Program}:∀{c:Code} {Q Q':Exit->Act->World->Prop} {a:Act} {w:World},rq P c Q a w->(∀e a w,Q e a w->Q' e a w)->rq P c Q' a w:=by
 intro c
 induction c with
 |seq x y uM uN=>intro Q Q' a w h hq;refine uM (Q:=Exit.then (rq P y Q) Q) h fun e a w h=>?_;cases e<;>first|exact uN h hq|exact hq _ _ _ h
 |skip=>intro Q Q' a w h hq;exact hq _ _ _ h
 |label l=>intro Q Q' a w h hq;exact hq _ _ _ h
 |_=>intro Q Q' a w h hq;exact wp_mono h hq
theorem qws{P:Program}{l:Nat}:∀(c:Code) {p r:Code} {Q:Exit->Act->World->Prop} {a:Act} {w:World},ahead l c=some p->findLabel c l=some r->rq P p (Exit.then (rq P r Q) Q) a w->rq P c Q a w:=by
 have none:∀c,ahead l c=none->findLabel c l=none:=by
  intro c
  induction c with
  |seq x y uM uN=>
   intro h;simp only[ahead] at h;split at h
   ·cases h
   ·rename_i e;split at h
    ·cases h
    ·rename_i e2;simp only[findLabel,uM e,uN e2]
  |label j=>
   intro h;simp only[ahead] at h;have:¬j=l:=fun e=>by rw[e,Nat.beq_refl] at h;cases h
   simp[findLabel,this]
  |_=>intro h;rfl
 have Oj:∀c p,ahead l c=some p->∃r,findLabel c l=some r:=by
  intro c
  induction c with
  |seq x y uM uN=>
   intro p h;simp only[ahead] at h;split at h
   ·rename_i c' e;obtain⟨r,hr⟩:=uM _ e;exact⟨.seq r y,by simp only[findLabel,hr]⟩
   ·rename_i e;split at h
    ·rename_i c' e2;obtain⟨r,hr⟩:=uN _ e2;exact⟨r,by simp only[findLabel,none _ e,hr]⟩
    ·cases h
  |label j=>
   intro p h;simp only[ahead] at h;cases hb:Nat.beq j l with
   |true=>exact⟨.skip,by rw[zg hb];simp[findLabel]⟩
   |false=>rw[hb] at h;cases h
  |_=>intro p h;cases h
 intro c
 induction c with
 |seq x y uM uN=>
  intro p r Q a w h1 h2 h;simp only[ahead] at h1;split at h1
  ·rename_i c' e;injection h1 with h1;subst h1;obtain⟨rx,hc⟩:=Oj _ _ e;simp only[findLabel,hc,zE] at h2;subst h2;refine uM (Q:=Exit.then (rq P y Q) Q) e hc (IA h fun e a w h=>?_);cases e<;>exact h
  ·rename_i e;split at h1
   ·rename_i c' e2;injection h1 with h1;subst h1;simp only[findLabel,none _ e] at h2;refine IA (c:=x) h fun e a w h=>?_;cases e<;>first|exact uN e2 h2 h|exact h
   ·cases h1
 |label j=>
  intro p r Q a w h1 h2 h;simp only[ahead] at h1;cases hb:Nat.beq j l with
  |true=>rw[hb] at h1;injection h1 with h1;have hb:=zg hb;simp only[findLabel,hb,beq_self_eq_true,if_true,zE] at h2;subst h1 h2;exact h
  |false=>rw[hb] at h1;cases h1
 |_=>intro p r Q a w h1;cases h1
def Ex.to:Ex->Exit
 |.normal=>.normal
 |.exit id=>.exit id
 |.goto l=>.goto l
 |.ret=>.ret
theorem Ca{p:Nat->Prop}(h:∃n,p n):∃n,p n/\∀m,p m->n<=m:=by
 obtain⟨n,hn⟩:=h
 induction n using Nat.strongRecOn with
 |_ n ih=>
  by_cases hm:∃m,m<n/\p m
  ·obtain⟨m,h1,h2⟩:=hm;exact ih m h1 h2
  ·exact⟨n,hn,fun m hc=>zM fun hd=>hm ⟨m,by omega,hc⟩⟩
theorem Mx{σ ρ:Type}{f:σ->Option (σ⊕ρ)}{s:σ}{r:ρ}(h:aM f s=some r):∃n,lW f n s=some r:=by
 unfold aM at h;split at h
 ·rename_i hx;injection h with h;have:=Classical.choose_spec hx;rw[h] at this;exact this
 ·cases h
section
variable {C:Cx} {nt:Nat} {R:gY C.sigs} {dN:Nat→Addr} {o0:Nat→Obj} {w0:World} {sk:List Nat}
abbrev HJ(sk:List Nat)(dN:Nat->Addr)(o0:Nat->Obj)(w0:World):(Nat->Prop)->(Nat->Addr)->St->Act->World->Prop:=fun _ φ st _ w=>cW sk dN o0 w0 φ st.obj w
theorem HJ.keeps(r:List Oper):mU C nt none r (HJ sk dN o0 w0):=by
 refine⟨fun X φ st a w φ' u v z w' o ho h hR hc _=>?_,fun X φ st a w o ho h=>?_,fun X φ st a w d v h=>?_,fun _ X jq ss as ws φ st a w g js v h hG=>?_⟩
 ·show cW sk dN o0 w0 φ' (bG {st with obj:=ar st.obj u} o.dst v).obj w';rw[tD];exact h.step hc
 ·show cW sk dN o0 w0 φ (bG st o.dst .undef).obj w;rw[tD];exact h
 ·show cW sk dN o0 w0 φ (bG st d v).obj w;rw[tD];exact h
 ·show cW sk dN o0 w0 jq (bG (xj ss js) v.1 v.2).obj w;rw[tD,Wm];exact⟨Nat.le_trans h.size hG.size,fun b hb hn=>by rw[hG.same b (Nat.lt_of_lt_of_le hb h.size),h.frame b hb hn],h.news,⟨hG.still.1.trans h.still.1,hG.still.2.trans h.still.2⟩,fun id hi=>(h.up id hi).trans (Up.same fun _ n hr=>by refine CU (hG.same _ ?_) hr;obtain⟨c,el,lo,hd,h1,_⟩:=hr;exact(Array.getElem?_eq_some_iff.1 h1).1)⟩
def Ol(C:Cx)(nt:Nat)(J:(Nat->Prop)->(Nat->Addr)->St->Act->World->Prop)(X:Nat->Prop){γ:Type}(k:(δ:Type)->(γ->δ)->Ex->St->Option δ)(Q:(γ->Prop)->Exit->Act->World->Prop):Prop:=∀(δ:Type) (w:γ->δ) (e:Ex) (st:St) (y:δ),k δ w e st=some y->Sound C nt X J st (Q (fun g=>w g=y) e.to)
def Cb{γ:Type}(Q:(γ->Prop)->Exit->Act->World->Prop):Prop:=∀S S' e a w,(∀g,S g->S' g)->Q S e a w->Q S' e a w
def Wo(C:Cx)(nt:Nat)(R:gY C.sigs)(J:(Nat->Prop)->(Nat->Addr)->St->Act->World->Prop):Prop:=
 ∀(rg:Nat) (ops:Array Oper) (n:Nat) {γ δ:Type} (X:Nat->Prop) (Q:Exit->Act->World->Prop) (wr:γ->δ) (st:St) (k:(γ->δ)->St->Option δ) (y:δ),
  re lf C R rg ops.toList n wr 0 ops.toList st [] [] k=some y->q7 nt ops.toList=true->(∀bN,k wr bN=some y->Sound C nt X J bN (Q .normal))->
  Sound C nt X J st ((Code.region rg ops true).wp C.P Q)
theorem Sound.weaken{J:(Nat->Prop)->(Nat->Addr)->St->Act->World->Prop}{X:Nat->Prop}{st:St}{P P':Act->World->Prop}(h:Sound C nt X J st P)(hp:∀a w,P a w->P' a w):Sound C nt X J st P':=fun X' φ a w h1 h2 h3=>hp _ _ (h X' φ a w h1 h2 h3)
def xv(C:Cx)(nt:Nat)(sk:List Nat)(dN:Nat->Addr)(o0:Nat->Obj)(w0:World)(X:Nat->Prop)(ts:List Nat)(s:Shape)(c:aj s.aU)(a:Act)(w:World):Prop:=∃X2 ef,(∀b,X b->X2 b)/\Rel C nt X2 ef (ij sk ts s c) a w/\cW sk dN o0 w0 ef (ij sk ts s c).obj w
theorem SX{δ:Type}{s:Shape}{w:aj s.aU->δ}{aS:List (Nat×Nat)}{o:Nat->Obj}{vs:List V}{y:δ}(h:jB lf sk s w aS o vs=some y):∃ps c,HZ lf sk aS o s vs=some (ps,c)/\w c=y:=by
 unfold jB at h;split at h
 ·rename_i p e;injection h with h;exact⟨p.1,p.2,e,h⟩
 ·cases h
def JQ(C:Cx)(nt:Nat)(sk:List Nat)(dN:Nat->Addr)(o0:Nat->Obj)(w0:World)(X:Nat->Prop)(ts:List Nat)(s:Shape){γ δ:Type}(wr:γ->δ)(Q:(γ->Prop)->Exit->Act->World->Prop):(aj s.aU⊕δ->Prop)->Exit->Act->World->Prop
 |S,.normal,a,w=>∃c,S (.inl c)/\xv C nt sk dN o0 w0 X ts s c a w
 |S,e,a,w=>Q (fun g=>S (.inr (wr g))) e a w
theorem JQ.mono{X:Nat->Prop}{ts:List Nat}{s:Shape}{γ δ:Type}{wr:γ->δ}{Q:(γ->Prop)->Exit->Act->World->Prop}(hQ:Cb Q):Cb (JQ C nt sk dN o0 w0 X ts s wr Q):=by intro S S' e a w hs h;cases e<;>first|exact hQ _ _ _ _ _ (fun g hg=>hs _ hg) h|exact(let ⟨c,h1,h2⟩:=h;⟨c,hs _ h1,h2⟩)
theorem qrb{X:Nat->Prop}{ts:List Nat}{s:Shape}{γ δ:Type}{wr:γ->δ}{Q:(γ->Prop)->Exit->Act->World->Prop}(hQ:Cb Q){y1:aj s.aU⊕δ}{y:δ}{k:(δ:Type)->(γ->δ)->Ex->St->Option δ}(hk:Ol C nt (HJ sk dN o0 w0) X k Q)(h:bT (fun c=>tu sk ts s c fun st=>k δ wr .normal st) y1=some y)(e:Exit)(a:Act)(w:World)(hj:JQ C nt sk dN o0 w0 X ts s wr Q (fun g=>g=y1) e a w):Q (fun g=>wr g=y) e a w:=by
 cases y1 with
 |inl c=>
  have h:tu sk ts s c (fun st=>k δ wr .normal st)=some y:=h;rw[SQ] at h;cases e with
  |normal=>obtain⟨c',h1,X2,ef,h2,h3,h4⟩:=hj;injection h1 with h1;subst h1;exact hk δ wr .normal _ y h X2 ef a w h2 h3 h4
  |_=>exact hQ _ _ _ _ _ (fun g hg=>by cases hg) hj
 |inr d=>
  have h:some d=some y:=h;injection h with h;subst h;cases e with
  |normal=>obtain⟨c',h1,_⟩:=hj;cases h1
  |_=>exact hQ _ _ _ _ _ (fun g hg=>by injection hg) hj
theorem SY{X:Nat->Prop}{ts:List Nat}{s:Shape}{γ δ cQ:Type}{wr:γ->δ}{Q:(γ->Prop)->Exit->Act->World->Prop}{w':aj s.aU⊕δ->cQ}{bN:St}{y':cQ}(xw:jF sk)(h:jB lf sk s (fun c=>w' (.inl c)) (qW 0 sk) bN.obj (ts.map fun t=>dx (bN.env t))=some y'):Sound C nt X (HJ sk dN o0 w0) bN (JQ C nt sk dN o0 w0 X ts s wr Q (fun g=>w' g=y') .normal):=by obtain⟨ps,c,h1,h2⟩:=SX h;intro X' φ a w hX hR hJ;obtain⟨ef,X2,g1,g2,g3⟩:=Of xw hR hJ h1;exact⟨c,h2,X2,ef,fun b hb=>g1 b (hX b hb),g2,g3⟩
variable (hC:cu C) (hE:ka C) (HC:∀X φ o w,MRel C X φ o w→∀fr f,C1 C R X φ o w fr f) (HD:Wo C nt R (HJ sk dN o0 w0)) (xw:jF sk)
include hC hE HC HD xw
open Classical in
theorem z15{c:Code}{ac:AC}(hA:eO nt c ac):∀(X:Nat->Prop) (st:St) (γ δ:Type) (w:γ->δ) (k:(δ:Type)->(γ->δ)->Ex->St->Option δ) (Q:(γ->Prop)->Exit->Act->World->Prop) (y:δ),Cb Q->Ol C nt (HJ sk dN o0 w0) X k Q->ev lf C R sk ac st γ δ w k=some y->Sound C nt X (HJ sk dN o0 w0) st (rq C.P c (Q fun g=>w g=y)):=by
 induction hA with
 |skip=>intro X st γ δ w k Q y hQ hk h;exact hk δ w .normal st y h
 |label l=>intro X st γ δ w k Q y hQ hk h;exact hk δ w .normal st y h
 |region id ops d hd=>
  intro X st γ δ w k Q y hQ hk h;cases d with
  |true=>exact HD id ops _ X _ w st _ y h hd fun bN h'=>hk δ w .normal bN y h'
  |false=>refine(qpe hC hE HC (ops:=ops) (rg:=id) _ X (Q fun g=>w g=y) w 0 ops.toList st _ y (HJ sk dN o0 w0) none h hd (HJ.keeps _) fun bN h'=>hk δ w .normal bN y h').weaken fun a w h=>wp_region_list h
 |@seq ca cb a b ha hb nA jD=>
  intro X st γ δ w k Q y hQ hk h;refine nA X st γ δ w _ (fun S e a w=>Exit.then (rq C.P cb (Q S)) (Q S) e a w) y ?_ ?_ h
  ·intro S S' e a w hs h;cases e<;>first|exact hQ _ _ _ _ _ hs h|exact IA h fun e a w h=>hQ _ _ _ _ _ hs h
  ·intro cQ w' e bN y' h';cases e with
   |normal=>exact jD X bN γ cQ w' k Q y' hQ hk h'
   |exit id=>exact hk cQ w' (.exit id) bN y' h'
   |goto l=>exact hk cQ w' (.goto l) bN y' h'
   |ret=>exact hk cQ w' .ret bN y' h'
 |@cond ca cb a b c ts ha hb nA jD=>
  intro X st γ δ w k Q y hQ hk h X' φ act wd hX hR hJ;unfold ev at h;split at h
  ·rename_i x hx;have hz:=hR.cm c;rw[hx] at hz;have hz:=oE hz;have plain:aq x (ev lf C R sk a st γ δ w k) (ev lf C R sk b st γ δ w k)=some y->(Code.cond c ca cb).wp C.P (Q fun g=>w g=y) act wd:=by
    intro h;cases x with
    |true=>exact wp_cond_true hz (wD (nA X st γ δ w k Q y hQ hk h X' φ act wd hX hR hJ))
    |false=>exact wp_cond_false hz (wD (jD X st γ δ w k Q y hQ hk h X' φ act wd hX hR hJ))
   cases hf:(tq a&&tq b) with
   |false=>rw[hf] at h;exact plain h
   |true=>
    rw[hf,cond_true,SP] at h;generalize Mb C sk st ts (nw a++nw b)=s at h;have both:∀(k':(cQ:Type)->(aj s.aU⊕δ->cQ)->Ex->St->Option cQ) (y1:aj s.aU⊕δ),Ol C nt (HJ sk dN o0 w0) X k' (JQ C nt sk dN o0 w0 X ts s w Q)->
      aq x (ev lf C R sk a st (aj s.aU⊕δ) (aj s.aU⊕δ) (fun x=>x) k') (ev lf C R sk b st (aj s.aU⊕δ) (aj s.aU⊕δ) (fun x=>x) k')=some y1->
      (Code.cond c ca cb).wp C.P (JQ C nt sk dN o0 w0 X ts s w Q fun g=>g=y1) act wd:=by
     intro k' y1 hy h;cases x with
     |true=>exact wp_cond_true hz (wD (nA X st _ _ (fun x=>x) k' _ y1 (JQ.mono hQ) hy h X' φ act wd hX hR hJ))
     |false=>exact wp_cond_false hz (wD (jD X st _ _ (fun x=>x) k' _ y1 (JQ.mono hQ) hy h X' φ act wd hX hR hJ))
    cases hl:(uB a||uB b) with
    |true=>
     rw[hl,cond_true] at h;obtain⟨y1,h1,h2⟩:=B4 h;refine wp_mono (both _ y1 ?_ h1) fun e a w hj=>qrb hQ hk h2 e a w hj;intro cQ w' e bN y' h';cases e with
     |normal=>exact SY xw h'
     |exit id=>exact hk cQ (fun g=>w' (.inr (w g))) (.exit id) bN y' h'
     |goto l=>exact hk cQ (fun g=>w' (.inr (w g))) (.goto l) bN y' h'
     |ret=>exact hk cQ (fun g=>w' (.inr (w g))) .ret bN y' h'
    |false=>
     rw[hl,cond_false] at h;obtain⟨y1,h1,h2⟩:=B4 h
     have only:∀(cx:Code) (ax:AC),(∀(X:Nat->Prop) (st:St) (γ δ:Type) (w:γ->δ) (k:(δ:Type)->(γ->δ)->Ex->St->Option δ) (Q:(γ->Prop)->Exit->Act->World->Prop) (y:δ),
       Cb Q->Ol C nt (HJ sk dN o0 w0) X k Q->ev lf C R sk ax st γ δ w k=some y->Sound C nt X (HJ sk dN o0 w0) st (rq C.P cx (Q fun g=>w g=y)))->
       ev lf C R sk ax st (aj s.aU) (aj s.aU) (fun x=>x) (fun _ w' e bN=>match e with
        |.normal=>jB lf sk s w' (qW 0 sk) bN.obj (ts.map fun t=>dx (bN.env t))
        |_=>none)=some y1->cx.wp C.P (Q fun g=>w g=y) act wd:=by
      intro cx ax ih h;have:=ih X st _ _ (fun x=>x) _ (fun S e a w=>match e with|.normal=>∃c,S c/\xv C nt sk dN o0 w0 X ts s c a w|_=>False) y1 ?_ ?_ h X' φ act wd hX hR hJ
      ·refine wp_mono (wD this) fun e a2 w2 hj=>?_;cases e with
       |normal=>obtain⟨c',hc,X2,ef,g1,g2,g3⟩:=hj;subst hc;have h2:tu sk ts s c' (fun st=>k δ w .normal st)=some y:=h2;rw[SQ] at h2;exact hk δ _ .normal _ y h2 X2 ef a2 w2 g1 g2 g3
       |_=>exact hj.elim
      ·intro S S' e a w hs h;cases e<;>first|exact h.elim|exact(let ⟨c,h1,h2⟩:=h;⟨c,hs _ h1,h2⟩)
      ·intro cQ w' e bN y' h';cases e with
       |normal=>obtain⟨ps,cc,e1,e2⟩:=SX h';intro X' φ a w hX hR hJ;obtain⟨ef,X2,g1,g2,g3⟩:=Of xw hR hJ e1;exact⟨cc,e2,X2,ef,fun b hb=>g1 b (hX b hb),g2,g3⟩
       |_=>cases h'
     cases x with
     |true=>exact wp_cond_true hz (only ca a nA h1)
     |false=>exact wp_cond_false hz (only cb b jD h1)
  ·cases h
 |@block cb b id ts hb ih=>
  intro X st γ δ w k Q y hQ hk h;have GW:∀{γ:Type} {Q:(γ->Prop)->Exit->Act->World->Prop},Cb Q->Cb (fun S=>Exit.inBlock id (Q S)):=by
   intro γ Q hQ S S' e a w hs h;cases e with
   |exit j=>
    show(if j=id then Q S' .normal a w else Q S' (.exit j) a w);have h:(if j=id then Q S .normal a w else Q S (.exit j) a w):=h;split
    ·rename_i e;rw[if_pos e] at h;exact hQ _ _ _ _ _ hs h
    ·rename_i e;rw[if_neg e] at h;exact hQ _ _ _ _ _ hs h
   |_=>exact hQ _ _ _ _ _ hs h
  unfold ev at h;cases hw:Nat.ble 2 (ways id b+(bif tq b then 1 else 0)) with
  |true=>
   rw[hw,cond_true,SP] at h;generalize Mb C sk st ts (nw b)=s at h;obtain⟨y1,h1,h2⟩:=B4 h;refine(ih X st _ _ (fun x=>x) _ (fun S=>Exit.inBlock id (JQ C nt sk dN o0 w0 X ts s w Q S)) y1 (GW (JQ.mono hQ)) ?_ h1).weaken fun a wd hb=>wp_mono (wp_block (wD hb)) fun e a wd hj=>qrb hQ hk h2 e a wd hj;intro cQ w' e bN y' h';cases e with
   |normal=>exact SY (wr:=w) (Q:=Q) xw h'
   |exit j=>
    show Sound C nt X _ bN (fun a wd=>if j=id then JQ C nt sk dN o0 w0 X ts s w Q (fun g=>w' g=y') .normal a wd else JQ C nt sk dN o0 w0 X ts s w Q (fun g=>w' g=y') (.exit j) a wd);simp only at h';cases hj:Nat.beq j id with
    |true=>rw[hj,cond_true] at h';have:=zg hj;simp only[this,if_true];exact SY (wr:=w) (Q:=Q) xw h'
    |false=>
     rw[hj,cond_false] at h';have:¬j=id:=fun e=>by rw[e,Nat.beq_refl] at hj;cases hj
     simp only[this,if_false];exact hk cQ (fun g=>w' (.inr (w g))) (.exit j) bN y' h'
   |goto l=>exact hk cQ (fun g=>w' (.inr (w g))) (.goto l) bN y' h'
   |ret=>exact hk cQ (fun g=>w' (.inr (w g))) .ret bN y' h'
  |false=>
   rw[hw,cond_false] at h;refine(ih X st γ δ w _ (fun S=>Exit.inBlock id (Q S)) y (GW hQ) ?_ h).weaken fun a wd hb=>wp_block (wD hb);intro cQ w' e bN y' h';cases e with
   |normal=>exact hk cQ w' .normal bN y' h'
   |exit j=>
    show Sound C nt X _ bN (fun a wd=>if j=id then Q (fun g=>w' g=y') .normal a wd else Q (fun g=>w' g=y') (.exit j) a wd);simp only at h';cases hj:Nat.beq j id with
    |true=>rw[hj,cond_true] at h';have:=zg hj;simp only[this,if_true];exact hk cQ w' .normal bN y' h'
    |false=>
     rw[hj,cond_false] at h';have:¬j=id:=fun e=>by rw[e,Nat.beq_refl] at hj;cases hj
     simp only[this,if_false];exact hk cQ w' (.exit j) bN y' h'
   |goto l=>exact hk cQ w' (.goto l) bN y' h'
   |ret=>exact hk cQ w' .ret bN y' h'
 |@loop cb b ts hb ih=>
  intro X st γ δ w k Q y hQ hk h X' φ act wd hX hR hJ;unfold ev at h;rw[SP] at h;generalize Mb C sk st ts (nw b)=s at h;split at h
  ·rename_i p hp;obtain⟨n0,ho⟩:=Mx h;generalize hn:(fun c=>tu sk ts s c fun st=>ev lf C R sk b st (aj s.aU⊕δ) (aj s.aU⊕δ) (fun x=>x) fun cQ w' e bN=>match e with
     |.normal=>jB lf sk s (fun c=>w' (.inl c)) (qW 0 sk) bN.obj (ts.map fun t=>dx (bN.env t))
     |e=>k cQ (fun g=>w' (.inr (w g))) e bN)=body at ho
   obtain⟨ef,X2,g1,g2,g3⟩:=Of xw hR hJ hp;let Pn:Act->World->Nat->Prop:=fun a wd n=>∃cc,lW body n cc=some y/\xv C nt sk dN o0 w0 X ts s cc a wd;let I:Act->World->Prop:=fun a wd=>∃n,Pn a wd n;refine wp_loop I (fun a wd=>if h:I a wd then Classical.choose (Ca h) else 0) ⟨n0,p.2,ho,X2,ef,fun b hb=>g1 b (hX b hb),g2,g3⟩ ?_;intro a wd hI;have hl:=Classical.choose_spec (Ca hI);simp only[dif_pos hI];generalize Classical.choose (Ca hI)=n at hl;obtain⟨⟨cc,c1,X3,Wp,c2,c3,c4⟩,ht⟩:=hl;cases n with
   |zero=>cases c1
   |succ m=>
    simp only[lW] at c1;have run:∀y1,body cc=some y1->cb.wp C.P (JQ C nt sk dN o0 w0 X ts s w Q fun g=>g=y1) a wd:=by
     intro y1 he;rw[<-hn] at he;have he:tu sk ts s cc _=some y1:=he;rw[SQ] at he;refine wD (ih X (ij sk ts s cc) _ _ (fun x=>x) _ (JQ C nt sk dN o0 w0 X ts s w Q) y1 (JQ.mono hQ) ?_ he X3 Wp a wd c2 c3 c4);intro cQ w' e bN y' h';cases e with
     |normal=>exact SY xw h'
     |exit id=>exact hk cQ (fun g=>w' (.inr (w g))) (.exit id) bN y' h'
     |goto l=>exact hk cQ (fun g=>w' (.inr (w g))) (.goto l) bN y' h'
     |ret=>exact hk cQ (fun g=>w' (.inr (w g))) .ret bN y' h'
    split at c1
    ·rename_i s' hu;refine wp_mono (run _ hu) fun e a2 w2 hj=>?_;cases e with
     |normal=>obtain⟨c',e1,e2⟩:=hj;injection e1 with e1;subst e1;have hm:I a2 w2:=⟨m,c',c1,e2⟩;refine⟨hm,?_⟩;rw[dif_pos hm];have:=(Classical.choose_spec (Ca hm)).2 m ⟨c',c1,e2⟩;omega
     |_=>exact hQ _ _ _ _ _ (fun g hg=>by cases hg) hj
    ·rename_i r hr;injection c1 with c1;subst c1;refine wp_mono (run _ hr) fun e a2 w2 hj=>?_;cases e with
     |normal=>obtain⟨c',e1,_⟩:=hj;cases e1
     |_=>exact hQ _ _ _ _ _ (fun g hg=>by injection hg) hj
    ·cases c1
  ·cases h
 |exit id=>intro X st γ δ w k Q y hQ hk h;exact(hk δ w (.exit id) st y h).weaken fun a w h=>wp_exit h
 |goto l=>intro X st γ δ w k Q y hQ hk h;exact(hk δ w (.goto l) st y h).weaken fun a w h=>wp_goto h
 |ret=>intro X st γ δ w k Q y hQ hk h;exact(hk δ w .ret st y h).weaken fun a w h=>wp_ret h
 |@scope cb b hb ih=>
  intro X st γ δ w k Q y hQ hk h;refine(ih X st γ δ w _ (fun S=>Exit.noGoto (Q S)) y ?_ ?_ h).weaken fun a wd hb=>wp_scope_straight (wD hb)
  ·intro S S' e a w hs h;cases e<;>first|exact hQ _ _ _ _ _ hs h|exact h
  ·intro cQ w' e bN y' h';cases e with
   |normal=>exact hk cQ w' .normal bN y' h'
   |exit id=>exact hk cQ w' (.exit id) bN y' h'
   |goto l=>cases h'
   |ret=>exact hk cQ w' .ret bN y' h'
 |@jump cb cp cr p r l ts h1 h2 hp hr ihp ihr=>
  intro X st γ δ w k Q y hQ hk h;let body:(s:Shape)->(cQ:Type)->(γ->cQ)->aj s.aU->Option (aj s.aU⊕cQ):=fun s δ w c=>tu sk ts s c fun st=>ev lf C R sk r st (aj s.aU⊕δ) (aj s.aU⊕δ) (fun x=>x) fun cQ w' e bN=>match e with
     |.goto l'=>bif Nat.beq l' l then jB lf sk s (fun c=>w' (.inl c)) (qW 0 sk) bN.obj (ts.map fun t=>dx (bN.env t)) else none
     |e=>k cQ (fun g=>w' (.inr (w g))) e bN
  let JJ:(γ->Prop)->Nat->Act->World->Prop:=fun S n a wd=>∃(s:Shape) (cQ:Type) (w':γ->cQ) (y':cQ),(∀g,w' g=y'->S g)/\∃cc,lW (body s cQ w') n cc=some y'/\xv C nt sk dN o0 w0 X ts s cc a wd;let J:(γ->Prop)->Act->World->Prop:=fun S a wd=>∃n,JJ S n a wd;let Q':(γ->Prop)->Exit->Act->World->Prop:=fun S e a wd=>match e with
   |.normal=>J S a wd
   |.goto _=>False
   |e=>Q S e a wd
  have mJ:∀S S' a wd,(∀g,S g->S' g)->J S a wd->J S' a wd:=fun S S' a wd hs ⟨n,s,cQ,w',y',h1,h2⟩=>⟨n,s,cQ,w',y',fun g hg=>hs g (h1 g hg),h2⟩;have mQ:Cb Q':=by intro S S' e a w hs h;cases e<;>first|exact hQ _ _ _ _ _ hs h|exact mJ _ _ _ _ hs h|exact h.elim
  have hv:=ihp X st γ δ w _ Q' y mQ (fun cQ w' e bN y' h'=>by
   cases e with
   |normal=>
    simp only at h';rw[SP] at h';generalize Mb C sk bN ts (nw r)=s at h';split at h'
    ·rename_i p hp;obtain⟨n0,ho⟩:=Mx h';intro X' φ a wd hX hR hJ;obtain⟨ef,X2,g1,g2,g3⟩:=Of xw hR hJ hp;exact⟨n0,s,cQ,w',y',fun _ h=>h,p.2,ho,X2,ef,fun b hb=>g1 b (hX b hb),g2,g3⟩
    ·cases h'
   |exit id=>exact hk cQ w' (.exit id) bN y' h'
   |goto l=>cases h'
   |ret=>exact hk cQ w' .ret bN y' h') h
  intro X' φ act wd hX hR hJ;replace hv:=hv X' φ act wd hX hR hJ;let μ:Act->World->Nat:=fun a wd=>if h:J (fun g=>w g=y) a wd then Classical.choose (Ca h) else 0
  have pass:∀a wd,J (fun g=>w g=y) a wd->rq C.P cr (Exit.jump l (fun a' w'=>J (fun g=>w g=y) a' w'/\μ a' w'<μ a wd) (Q fun g=>w g=y)) a wd:=by
   intro a wd hI;have hl:=Classical.choose_spec (Ca hI);have hμ:μ a wd=Classical.choose (Ca hI):=dif_pos hI;rw[hμ];generalize Classical.choose (Ca hI)=n at hl;obtain⟨⟨s,cQ,w',y',hS,cc,c1,X3,Wp,c2,c3,c4⟩,ht⟩:=hl;cases n with
   |zero=>cases c1
   |succ m=>
    simp only[lW] at c1;let Q2:(aj s.aU⊕cQ->Prop)->Exit->Act->World->Prop:=fun T e a wd=>match e with
     |.goto l'=>l'=l/\∃c,T (.inl c)/\xv C nt sk dN o0 w0 X ts s c a wd
     |e=>Q (fun g=>T (.inr (w' g))) e a wd
    have mQ2:Cb Q2:=by intro S S' e a w hs h;cases e<;>first|exact hQ _ _ _ _ _ (fun g hg=>hs _ hg) h|exact(let ⟨c0,c,h1,h2⟩:=h;⟨c0,c,hs _ h1,h2⟩)
    have run:∀y1,body s cQ w' cc=some y1->rq C.P cr (Q2 fun g=>g=y1) a wd:=by
     intro y1 he;have he:tu sk ts s cc _=some y1:=he;rw[SQ] at he;refine ihr X (ij sk ts s cc) _ _ (fun x=>x) _ Q2 y1 mQ2 ?_ he X3 Wp a wd c2 c3 c4;intro Wq w2 e bN y2 h';cases e with
     |normal=>exact hk Wq (fun g=>w2 (.inr (w' g))) .normal bN y2 h'
     |exit id=>exact hk Wq (fun g=>w2 (.inr (w' g))) (.exit id) bN y2 h'
     |goto l'=>
      simp only at h';cases hb:Nat.beq l' l with
      |false=>rw[hb] at h';cases h'
      |true=>rw[hb,cond_true] at h';obtain⟨ps,c,e1,e2⟩:=SX h';intro X' φ a w hX hR hJ;obtain⟨ef,X2,g1,g2,g3⟩:=Of xw hR hJ e1;exact⟨zg hb,c,e2,X2,ef,fun b hb=>g1 b (hX b hb),g2,g3⟩
     |ret=>exact hk Wq (fun g=>w2 (.inr (w' g))) .ret bN y2 h'
    split at c1
    ·rename_i s' hu;refine IA (run _ hu) fun e a2 w2 hj=>?_;cases e with
     |goto l'=>obtain⟨e0,c',e1,e2⟩:=hj;injection e1 with e1;subst e1;have hB:JJ (fun g=>w g=y) m a2 w2:=⟨s,cQ,w',y',hS,c',c1,e2⟩;have hm:J (fun g=>w g=y) a2 w2:=⟨m,hB⟩;refine⟨e0,hm,?_⟩;have Wr:μ a2 w2=Classical.choose (Ca hm):=dif_pos hm;rw[Wr];have:=(Classical.choose_spec (Ca hm)).2 m hB;omega
     |_=>exact hQ _ _ _ _ _ (fun g hg=>by cases hg) hj
    ·rename_i r0 hD;injection c1 with c1;subst c1;refine IA (run _ hD) fun e a2 w2 hj=>?_;cases e with
     |goto l'=>obtain⟨_,c',e1,_⟩:=hj;cases e1
     |_=>exact hQ _ _ _ _ _ (fun g hg=>hS g (by injection hg)) hj
    ·cases c1
  refine wp_scope_jumps l (J fun g=>w g=y) μ h2 (wD (qws cb h1 h2 (IA hv fun e a wd hq=>?_))) fun a wd hI=>wD (pass a wd hI);cases e with
  |normal=>
   refine IA (pass a wd hq) fun e a2 w2 hj=>?_;cases e with
   |goto l'=>exact⟨hj.1,hj.2.1⟩
   |_=>exact hj
  |goto l'=>exact hq.elim
  |_=>exact hq
 |bad c=>intro X st γ δ w k Q y hQ hk h;cases h
end
theorem My{β:Type}(m:Nat):∀(n:Nat) (acc:List Nat) (k:List Nat->β),∃ts,uA m n acc k=k ts
 |0,acc,k=>⟨acc,rfl⟩
 |n+1,acc,k=>by
  show ∃ts,(bif Nat.testBit m n then uA m n (n::acc) k else uA m n acc k)=k ts;cases Nat.testBit m n
  ·exact My m n acc k
  ·exact My m n (n::acc) k
theorem qwu{γ:Type}{rt nt:Nat}:∀(n:Nat) (c:Code) (ex gt:List (Nat×Nat)) (m:Nat) (k:Nat->AC->Option γ) (y:γ),kx rt nt n c ex gt m k=some y->∃m' ac,eO nt c ac/\k m' ac=some y:=by
 intro n
 induction n with
 |zero=>intro c ex gt m k y h;exact⟨m,.bad,.bad c,h⟩
 |succ n ih=>
  intro c ex gt m k y h;cases c with
  |skip=>exact⟨m,.skip,.skip,h⟩
  |label l=>exact⟨m,.skip,.label l,h⟩
  |region id ops d=>
   have h:(bif q7 nt ops.toList then jZ (U9 ops.toList m) fun m'=>k m' (.region id ops d) else k m .bad)=some y:=h;cases hd:q7 nt ops.toList with
   |true=>rw[hd,cond_true,oG] at h;exact⟨_,_,.region id ops d hd,h⟩
   |false=>rw[hd,cond_false] at h;exact⟨_,_,.bad _,h⟩
  |seq a b=>have h:(kx rt nt n b ex gt m fun mb b'=>kx rt nt n a ex gt mb fun ma a'=>k ma (.seq a' b'))=some y:=h;obtain⟨mb,b',h1,h2⟩:=ih _ _ _ _ _ _ h;obtain⟨ma,a',h3,h4⟩:=ih _ _ _ _ _ _ h2;exact⟨ma,_,.seq h3 h1,h4⟩
  |cond c a b=>have h:(kx rt nt n a ex gt m fun ma a'=>kx rt nt n b ex gt m fun mb b'=>jZ (RW c|||ma|||mb) fun m'=>uA m nt [] fun ts=>k m' (.cond c ts a' b'))=some y:=h;obtain⟨ma,a',h1,h2⟩:=ih _ _ _ _ _ _ h;obtain⟨mb,b',h3,h4⟩:=ih _ _ _ _ _ _ h2;rw[oG] at h4;obtain⟨ts,e⟩:=My m nt [] (fun ts=>k (RW c|||ma|||mb) (.cond c ts a' b'));rw[e] at h4;exact⟨_,_,.cond c ts h1 h3,h4⟩
  |block id b=>have h:(kx rt nt n b ((id,m)::ex) gt m fun mb b'=>uA m nt [] fun ts=>k mb (.block id ts b'))=some y:=h;obtain⟨mb,b',h1,h2⟩:=ih _ _ _ _ _ _ h;obtain⟨ts,e⟩:=My m nt [] (fun ts=>k mb (.block id ts b'));rw[e] at h2;exact⟨_,_,.block id ts h1,h2⟩
  |loop b=>have h:(kx rt nt n b ex gt 0 fun m1 _=>kx rt nt n b ex gt m1 fun m2 b'=>uA m2 nt [] fun ts=>k m2 (.loop ts b'))=some y:=h;obtain⟨m1,_,_,h2⟩:=ih _ _ _ _ _ _ h;obtain⟨m2,b',h3,h4⟩:=ih _ _ _ _ _ _ h2;obtain⟨ts,e⟩:=My m2 nt [] (fun ts=>k m2 (.loop ts b'));rw[e] at h4;exact⟨_,_,.loop ts h3,h4⟩
  |exit id=>exact⟨_,_,.exit id,h⟩
  |goto l=>exact⟨_,_,.goto l,h⟩
  |ret=>exact⟨_,_,.ret,h⟩
  |scope b=>
   have h:(match RX b b with
    |none=>kx rt nt n b ex gt m fun mb b'=>k mb (.scope b')
    |some l=>match ahead l b,findLabel b l with
     |some p,some r=>kx rt nt n r ex ((l,0)::gt) m fun m1 _=>kx rt nt n r ex ((l,m1)::gt) m fun m2 r'=>kx rt nt n p ex gt m2 fun mp p'=>uA m2 nt [] fun ts=>k mp (.jump l ts p' r')
     |_,_=>k m .bad)=some y:=h
   split at h
   ·obtain⟨mb,b',h1,h2⟩:=ih _ _ _ _ _ _ h;exact⟨_,_,.scope h1,h2⟩
   ·rename_i l _;split at h
    ·rename_i p r ep er;obtain⟨m1,_,_,h2⟩:=ih _ _ _ _ _ _ h;obtain⟨m2,r',h3,h4⟩:=ih _ _ _ _ _ _ h2;obtain⟨mp,p',h5,h6⟩:=ih _ _ _ _ _ _ h4;obtain⟨ts,e⟩:=My m2 nt [] (fun ts=>k mp (.jump l ts p' r'));rw[e] at h6;exact⟨_,_,.jump l ts ep er h5 h3,h6⟩
    ·exact⟨_,_,.bad _,h⟩
  |_=>exact⟨m,.bad,.bad _,h⟩
theorem qgd:∀(vs:List V) (i:Nat) (env:Nat->V) (t:Nat),(∀j,t=i+j->∀v,vs[j]?=some v->CQ env i vs t=v)/\((t<i\/i+vs.length<=t)->CQ env i vs t=env t)
 |[],i,env,t=>⟨fun j _ v h=>by simp at h,fun _=>rfl⟩
 |x::r,i,env,t=>by
  obtain⟨h1,h2⟩:=qgd r (i+1) (ck env i x) t;refine⟨fun j hj v hv=>?_,fun hj=>?_⟩
  ·show CQ (ck env i x) (i+1) r t=v;cases j with
   |zero=>rw[h2 (.inl om),hj,Nat.add_zero,dM];simpa using hv
   |succ j=>exact h1 j om v (by simpa using hv)
  ·show CQ (ck env i x) (i+1) r t=env t;simp only[zf] at hj;rw[h2 om,gM om]
section
variable {C:Cx} {R:gY C.sigs}
def xx(l:List Value):Value:=match l with
 |[v]=>v
 |l=>.tuple l.toArray
theorem z66(hC:cu C){nt:Nat}{X:Nat->Prop}{φ:Nat->Addr}{st:St}{a:Act}{w:World}(h:Rel C nt X φ st a w):∀(rs:List ResultVar) (vs:List V),uD lf C st rs=some vs->∃zs,bV φ st.obj (ah X φ st.obj w) w vs zs/\(rs.mapM fun(r:ResultVar)=>(match r with
   |.tmp t=>(pure (a.tmps.getD t undef):Sem Value)
   |.cell q t=>do loadVar t (<-asAddr (a.tmps.getD q undef)))).run C.P w=.ok zs w:=by
 intro rs
 induction rs with
 |nil=>intro vs h1;injection h1 with h1;subst h1;exact⟨[],rfl,by simp⟩
 |cons r rs ih=>
  intro vs h1;cases r with
  |tmp t=>
   simp only[uD] at h1;split at h1
   ·rename_i l h2;injection h1 with h1;subst h1;obtain⟨zs,h3,h4⟩:=ih _ h2;exact⟨a.tmps.getD t undef::zs,⟨_,_,rfl,NN (h.env t),h3⟩,by simp only[List.mapM_cons,Sem.run_bind,Sem.run_pure,Result.andThen_ok,h4]⟩
   ·cases h1
  |cell q t=>
   simp only[uD] at h1;split at h1
   ·rename_i v u hv;split at h1
    ·rename_i l h2;injection h1 with h1;subst h1;obtain⟨zs,h3,h4⟩:=ih _ h2;obtain⟨_,z,h5,h6⟩:=qlv (v:=v) (u:=u) hC h.toMRel (h.env q) (by rw[hv];exact⟨rfl,rfl⟩);refine⟨z::zs,⟨_,_,rfl,h6,h3⟩,?_⟩;have hl:(asAddr (a.tmps.getD q undef)>>=fun ad=>loadVar t ad).run C.P w=.ok z w:=by
      unfold Instr.loadAt at h5;generalize a.tmps.getD q undef=zq at h5 ⊢;cases zq with
      |pointer p=>cases p with
       |none=>exact absurd h5 (by simp[Instr.sureAddr,stuck])
       |some ad=>simpa[Instr.sureAddr,asAddr] using h5
      |_=>exact absurd h5 (by simp[Instr.sureAddr,stuck])
     rw[Sem.run_bind] at hl;simp only[List.mapM_cons,Sem.run_bind,Sem.run_pure];rw[hl];simp only[Result.andThen_ok,h4]
    ·cases h1
   ·cases h1
def Om(C:Cx)(i:Nat)(x:aj (aR C.sigs i).ins.aU)(y:aj (aR C.sigs i).outs.aU)(X:Nat->Prop)(φ:Nat->Addr)(w:World)(e:Ending)(w':World):Prop:=
 ∃dF φ' X',e=.returned (xx dF)/\(∀b,X b->X' b)/\MRel C X' φ' (bf (aR C.sigs i).outs y) w'/\
  bV φ' (bf (aR C.sigs i).outs y) (ah X' φ' (bf (aR C.sigs i).outs y) w') w' (fill cv bS (aR C.sigs i).outs y).1 dF/\
  cW (aR C.sigs i).bH φ (bf (aR C.sigs i).ins x) w φ' (bf (aR C.sigs i).outs y) w'
def nC(C:Cx)(i:Nat)(x:aj (aR C.sigs i).ins.aU)(y:aj (aR C.sigs i).outs.aU):Prop:=
 ∀X φ w zs,MRel C X φ (bf (aR C.sigs i).ins x) w->bV φ (bf (aR C.sigs i).ins x) (ah X φ (bf (aR C.sigs i).ins x) w) w (fill cv bS (aR C.sigs i).ins x).1 zs->
  (∃fn,C.P.funcs[(aR C.sigs i).f]?=some fn/\fn.body.isNone=false)/\Calls C.P (aR C.sigs i).f zs.toArray w (Om C i x y X φ w)
theorem qmo(hC:cu C)(hE:ka C)(HC:∀X φ o w,MRel C X φ o w->∀fr f,C1 C R X φ o w fr f)(HD:∀nt sk dN o0 w0,Wo C nt R (HJ sk dN o0 w0)){i:Nat}{x:aj (aR C.sigs i).ins.aU}{y:aj (aR C.sigs i).outs.aU}(h:Me lf C R i x=some y):nC C i x y:=by
 intro X φ w zs hm hz;unfold Me at h;simp only at h;split at h
 ·cases h
 ·rename_i fn hc;rw[zN] at hc;split at h
  ·cases h
  ·rename_i b hb;refine⟨⟨fn,hc,by rw[hb];rfl⟩,?_⟩;cases hn:(L0 (aR C.sigs i).ins.aw.length (aR C.sigs i).bH&&Nat.ble (fill id (fun _=>0) (aR C.sigs i).ins x).1.length fn.ntmps) with
   |false=>rw[hn] at h;cases h
   |true=>
    rw[hn,cond_true] at h;rw[zd] at hn;obtain⟨hl,hn⟩:=hn;obtain⟨m',ac,hA,ho⟩:=qwu _ _ _ _ _ _ _ h;have hu:=GQ hz;have hn:(fill cv bS (aR C.sigs i).ins x).1.length<=fn.ntmps:=zF hn;have hB:zs.length<=fn.ntmps:=om
    refine calls_of_wp hc hb ?_;let PR:aj (aR C.sigs i).outs.aU->Act->World->Prop:=fun yy a wd=>a.defers=[]/\∃v,(results fn a.tmps).run C.P wd=.ok v wd/\Om C i x yy X φ w (.returned v) wd;have hk:Ol C fn.ntmps (HJ (aR C.sigs i).bH φ (bf (aR C.sigs i).ins x) w) X (fun _ w e st=>match e with
     |.normal=>Md lf C (aR C.sigs i).bH (aR C.sigs i).outs w st fn.results.toList
     |.ret=>Md lf C (aR C.sigs i).bH (aR C.sigs i).outs w st fn.results.toList
     |_=>none) (fun S e a wd=>match e with|.normal=>∃yy,S yy/\PR yy a wd|.ret=>∃yy,S yy/\PR yy a wd|_=>False):=by
     have fin:∀(δ:Type) (wr:aj (aR C.sigs i).outs.aU->δ) (st:St) (y':δ),Md lf C (aR C.sigs i).bH (aR C.sigs i).outs wr st fn.results.toList=some y'->
       Sound C fn.ntmps X (HJ (aR C.sigs i).bH φ (bf (aR C.sigs i).ins x) w) st (fun a wd=>∃yy,wr yy=y'/\PR yy a wd):=by
      intro δ wr st y' hg X' ef a wd hX hR hJ;unfold Md at hg;split at hg
      ·rename_i vs hv;obtain⟨ps,cc,hp,hw⟩:=SX hg;obtain⟨hp,hx,hd⟩:=qip hp;obtain⟨dF,r1,r2⟩:=z66 hC hR _ _ hv;obtain⟨q1,q2⟩:=Wi hR.toMRel hp r1;obtain⟨hj,_⟩:=Oe hp;refine⟨cc,hw,hR.defers,xx dF,?_,dF,_,_,rfl,fun b hb=>.inl (hX b hb),q1,q2,⟨hJ.size,hJ.frame,fun b hb=>hJ.news b (hj.kK hb),hJ.still,fun id hi=>(hJ.up id hi).trans (qwo hj (qr7 hp _ (qg8 hi)) (Wj hx id hi) (Wk hd id hi))⟩⟩;have key:∀(q:Sem (List Value)),q.run C.P wd=.ok dF wd->((Functor.map List.toArray q)>>=fun vs=>(pure (if h:vs.size=1 then vs[0] else Value.tuple vs):Sem Value)).run C.P wd=.ok (xx dF) wd:=by
        intro q hq;rw[Sem.run_bind,Sem.run_map,hq]
        match dF with
        |[]=>rfl
        |[v]=>rfl
        |a::b::r=>rfl
       unfold results;rw[Array.mapM_eq_mapM_toList];exact key _ r2
      ·cases hg
     intro δ wr e st y' hg;cases e with
     |normal=>exact fin δ wr st y' hg
     |ret=>exact fin δ wr st y' hg
     |exit id=>cases hg
     |goto l=>cases hg
    have hQ:Cb (fun(S:aj (aR C.sigs i).outs.aU->Prop) e a wd=>match e with|.normal=>∃yy,S yy/\PR yy a wd|.ret=>∃yy,S yy/\PR yy a wd|_=>False):=by intro S S' e a wd hs h;cases e<;>first|exact h.elim|exact(let ⟨c,h1,h2⟩:=h;⟨c,hs _ h1,h2⟩)
    have hy:Rel C fn.ntmps X φ ⟨CQ (fun _=>.undef) 0 (fill cv bS (aR C.sigs i).ins x).1,bf (aR C.sigs i).ins x⟩
      {tmps:=zs.toArray++Array.replicate (fn.ntmps-zs.toArray.size) undef,defers:=[]} w:=by
     refine⟨hm,by simp;omega,fun t=>?_,rfl⟩;obtain⟨g1,g2⟩:=qgd (fill cv bS (aR C.sigs i).ins x).1 0 (fun _=>.undef) t;by_cases ht:t<(fill cv bS (aR C.sigs i).ins x).1.length
     ·obtain⟨z,e1,e2⟩:=NZ hz (ze ht);have:=g1 t om _ (ze ht);show av φ _ _ w (CQ _ 0 _ t) _;rw[this];have e3:(zs.toArray++Array.replicate (fn.ntmps-zs.toArray.size) undef).getD t undef=z:=by
       have he:t<zs.length:=om
       rw[Array.getD_eq_getD_getElem?,Array.getElem?_append_left (by simpa using he)];simp[e1]
      rw[e3];exact e2
     ·show av φ _ _ w (CQ _ 0 _ t) _;rw[g2 (.inr om)];have e3:(zs.toArray++Array.replicate (fn.ntmps-zs.toArray.size) undef).getD t undef=undef:=by
       have he:zs.length<=t:=om
       rw[Array.getD_eq_getD_getElem?,Array.getElem?_append_right (by simpa using he)];simp only[Array.getElem?_replicate];split<;>rfl
      exact e3
    have hf:=wD (z15 hC hE HC (HD fn.ntmps _ φ (bf (aR C.sigs i).ins x) w) (qwn hl) hA X _ _ _ _ _ _ y hQ hk ho X φ _ w (fun _ h=>h) hy (cW.refl _ _ _ _));refine wp_mono hf fun e a wd hq=>?_;cases e with
    |normal=>obtain⟨yy,e1,h1,v,h2,h3⟩:=hq;subst e1;exact⟨h1,v,h2,h3⟩
    |ret=>obtain⟨yy,e1,h1,v,h2,h3⟩:=hq;subst e1;exact⟨h1,v,h2,h3⟩
    |_=>exact hq.elim
end
inductive Call (C:Cx):(i:Nat)->aj (aR C.sigs i).ins.aU->aj (aR C.sigs i).outs.aU->Prop where
 |mk (R:gY C.sigs) (h:∀j a b,R j a=some b->Call C j a b) (i:Nat) (x:aj (aR C.sigs i).ins.aU) (y:aj (aR C.sigs i).outs.aU) (e:Me lf C R i x=some y):Call C i x y
 |jG (i:Nat) (x:aj (aR C.sigs i).ins.aU) (y:aj (aR C.sigs i).outs.aU) (h:nC C i x y):Call C i x y
def S0(C:Cx):Prop:=∀R:gY C.sigs,(∀j a b,R j a=some b->nC C j a b)->∀X φ o w,MRel C X φ o w->∀fr f,C1 C R X φ o w fr f
def qwv(C:Cx):Prop:=∀R:gY C.sigs,(∀j a b,R j a=some b->nC C j a b)->∀nt sk dN o0 w0,Wo C nt R (HJ sk dN o0 w0)
theorem Call.ok{C:Cx}(hC:cu C)(hE:ka C)(hL:S0 C)(hD:qwv C){i:Nat}{x:aj (aR C.sigs i).ins.aU}{y:aj (aR C.sigs i).outs.aU}(h:Call C i x y):nC C i x y:=by
 induction h with
 |mk R h i x y e ih=>exact qmo hC hE (hL R ih) (hD R ih) e
 |jG i x y h=>exact h
theorem IB{imm imm':Nat->Prop}{w:World}:∀(t:Ty) (x:den t) (cs:List Value),tp t=false->az imm w t x cs->az imm' w t x cs
 |.unit,_,_,_,h=>h
 |.pair a b,x,_,hs,⟨c,d,e,h1,h2⟩=>by simp only[tp,Bool.or_eq_false_iff] at hs;exact⟨c,d,e,IB a x.1 c hs.1 h1,IB b x.2 d hs.2 h2⟩
 |.st p,x,cs,hs,h=>IB p x cs hs h
 |.arr _ e,_,_,hs,⟨h1,h2⟩=>⟨h1,mO (fun x c h=>IB e x c hs h) h2⟩
 |.int _,_,_,_,h=>h
 |.bool,_,_,_,h=>h
 |.ej,_,_,hs,_=>by cases hs
 |.cJ,_,_,hs,_=>by cases hs
 |.str,_,_,_,h=>h
 |.sl e,_,_,hs,_=>by cases hs
theorem Ws{imm imm':Nat->Prop}{w:World}(t:Ty)(x:den t)(v:Value)(hs:tp t=false)(h:ba imm w t x v):ba imm' w t x v:=by
 cases t with
 |st p=>obtain⟨cs,h1,h2⟩:=h;exact⟨cs,h1,IB p x _ hs h2⟩
 |arr n e=>obtain⟨cs,h1,h2⟩:=h;exact⟨cs,h1,IB (.arr n e) x _ hs h2⟩
 |unit=>exact h
 |pair a b=>exact h
 |int k=>exact h
 |bool=>exact h
 |ej=>cases hs
 |cJ=>cases hs
 |str=>exact h
 |sl e=>cases hs
 |ks e=>cases hs
theorem qww{imm imm':Nat->Prop}{w:World}{φ:Nat->Addr}{o:Nat->Obj}(ρ κ:Nat->Nat)(s:Sh):Nz s=false->∀r c z,av φ o imm w (jW ρ κ s r c).1 z->av φ o imm' w (jW ρ κ s r c).1 z:=by
 refine Sh.rec (motive_1:=fun s=>Nz s=false->∀r c z,av φ o imm w (jW ρ κ s r c).1 z->av φ o imm' w (jW ρ κ s r c).1 z)
  (motive_2:=fun l=>wv l=false->∀r c zs,bV φ o imm w (eX ρ κ l r c).1 zs->bV φ o imm' w (eX ρ κ l r c).1 zs)
  ?_ ?_ ?_ ?_ ?_ ?_ ?_ ?_ ?_ ?_ ?_ ?_ ?_ ?_ ?_ ?_ ?_ ?_ ?_ ?_ s
 ·exact fun t hs r c z h=>Ws t _ _ hs h
 ·intro i _ r c z h;replace h:av φ o imm w (.aX (ρ i) (κ i)) z:=h;show av φ o imm' w (.aX (ρ i) (κ i)) z;unfold av at h ⊢;exact h
 ·intro i off _ r c z h;replace h:av φ o imm w (.ptr (ρ i) off) z:=h;show av φ o imm' w (.ptr (ρ i) off) z;unfold av at h ⊢;exact h
 ·exact fun t hs r c z h=>by cases hs
 ·exact fun _ r c z h=>h
 ·exact fun f l ih hs r c z ⟨cz,h1,h2⟩=>⟨cz,h1,ih hs _ _ _ h2⟩
 ·exact fun _ r c z h=>h
 ·exact fun l ih hs r c z ⟨cz,h1,h2⟩=>⟨cz,h1,ih hs _ _ _ h2⟩
 ·exact fun l ih hs r c z ⟨cz,h1,h2⟩=>⟨cz,h1,ih hs _ _ _ h2⟩
 ·intro i _ r c z h;replace h:av φ o imm w (.mp (ρ i)) z:=h;show av φ o imm' w (.mp (ρ i)) z;unfold av at h ⊢;exact h
 ·exact fun _ r c z h=>h
 ·exact fun _ r c z h=>h
 ·exact fun _ r c z h=>h
 ·intro i _ r c z h;replace h:av φ o imm w (.cG (ρ i) c.1) z:=h;show av φ o imm' w (.cG (ρ i) c.1) z;unfold av at h ⊢;exact h
 ·intro i _ r c z h;replace h:av φ o imm w (.gb (ρ i) (κ i) c.1) z:=h;show av φ o imm' w (.gb (ρ i) (κ i) c.1) z;unfold av at h ⊢;exact h
 ·intro i _ r c z h;replace h:av φ o imm w (.it (ρ i)) z:=h;show av φ o imm' w (.it (ρ i)) z;unfold av at h ⊢;exact h
 ·exact fun a hs=>by cases hs
 ·exact fun t hs r c z h=>by cases hs
 ·exact fun _ r c z h=>h
 ·intro s l iO iP hs r c zs ⟨z,zr,e,h1,h2⟩;have hs:(Nz s||wv l)=false:=hs;rw[Bool.or_eq_false_iff] at hs;exact⟨z,zr,e,iO hs.1 _ _ _ h1,iP hs.2 _ _ _ h2⟩
theorem qmp(ρ κ:Nat->Nat)(i:Nat)(s:ft)(r:List Ty)(c:aj (LW s r)):(eY ρ κ i s r c).2=(eY cv bS i s r c).2:=by
 cases s with
 |box l=>exact Od ρ κ cv bS l r c
 |vec t=>rfl
 |map k v=>rfl
 |gone=>rfl
 |iter=>rfl
theorem Wt(ρ κ:Nat->Nat):∀(l:List ft) (i:Nat) (r:List Ty) (c:aj (bQ l r)) (o1 o2:Nat->Obj),(∀a b,i<=a->a<i+l.length->i<=b->b<i+l.length->ρ a=ρ b->a=b)->(∀j,(j<i\/i+l.length<=j)->ar o1 (fH cv bS i l r c) j=o1 j)/\(∀id,(∀j,i<=j->j<i+l.length->ρ j≠id)->ar o2 (fH ρ κ i l r c) id=o2 id/\id∉bO (fH ρ κ i l r c))/\(∀j,i<=j->j<i+l.length->ρ j∈bO (fH ρ κ i l r c))
 |[],i,r,c,o1,o2,_=>⟨fun _ _=>rfl,fun _ _=>⟨rfl,(fun h=>by cases h)⟩,fun j h1 h2=>absurd h2 (by simp;omega)⟩
 |s::l,i,r,c,o1,o2,cA=>by
  have e2:=qmp ρ κ i s (bQ l r) c;simp only[zf] at cA;obtain⟨a2,a3,a4⟩:=Wt ρ κ l (i+1) r (eY cv bS i s (bQ l r) c).2 (ck o1 i (eY cv bS i s (bQ l r) c).1) (ck o2 (ρ i) (eY ρ κ i s (bQ l r) c).1)
   (fun a b h1 h2 h3 h4 e=>cA a b om om om om e)
  have f1:∀j,ar o1 (fH cv bS i (s::l) r c) j=ar (ck o1 i (eY cv bS i s (bQ l r) c).1) (fH cv bS (i+1) l r (eY cv bS i s (bQ l r) c).2) j:=fun _=>rfl;have f2:∀id,ar o2 (fH ρ κ i (s::l) r c) id=ar (ck o2 (ρ i) (eY ρ κ i s (bQ l r) c).1) (fH ρ κ (i+1) l r (eY cv bS i s (bQ l r) c).2) id:=fun id=>(congrArg (fun q=>ar (ck o2 (ρ i) (eY ρ κ i s (bQ l r) c).1) (fH ρ κ (i+1) l r q) id) e2);have f3:bO (fH ρ κ i (s::l) r c)=ρ i::bO (fH ρ κ (i+1) l r (eY cv bS i s (bQ l r) c).2):=congrArg (fun q=>ρ i::bO (fH ρ κ (i+1) l r q)) e2;refine⟨fun j hj=>?_,fun id hc=>?_,fun j h1 h2=>?_⟩
  ·rw[f1];simp only[zf] at hj;rw[a2 j om,gM om]
  ·rw[f2,f3];simp only[zf] at hc;obtain⟨b1,b2⟩:=a3 id (fun q h1 h2=>hc q om om);have hd:id≠ρ i:=fun e=>hc i (Nat.le_refl _) om e.symm;exact⟨by rw[b1,gM hd],fun h=>by
    rcases zt.1 h with h|h
    ·exact hd h
    ·exact b2 h⟩
  ·rw[f3];simp only[zf] at h2;by_cases he:j=i
   ·subst he;exact zj ..
   ·exact zm _ (a4 j om om)
theorem qgg(ρ κ:Nat->Nat):∀(l:List ft) (i:Nat) (r:List Ty) (c:aj (bQ l r)) (j:Nat),i<=j->j<i+l.length->∃p,p∈fH ρ κ i l r c/\p.1=ρ j
 |[],i,r,c,j,h1,h2=>absurd h2 (by simp;omega)
 |s::l,i,r,c,j,h1,h2=>by
  by_cases hj:j=i
  ·subst hj;exact⟨_,zj ..,rfl⟩
  ·simp only[zf] at h2;obtain⟨p,h3,h4⟩:=qgg ρ κ l (i+1) r (eY ρ κ i s (bQ l r) c).2 j om om;exact⟨p,zm _ h3,h4⟩
theorem qgh(ρ κ:Nat->Nat):∀(l:List ft) (i:Nat) (r:List Ty) (c:aj (bQ l r)) (o1 o2:Nat->Obj),(∀a b,i<=a->a<i+l.length->i<=b->b<i+l.length->ρ a=ρ b->a=b)->∀j sh,i<=j->l[j-i]?=some sh->∃r' c',ar o1 (fH cv bS i l r c) j=(eY cv bS j sh r' c').1/\ar o2 (fH ρ κ i l r c) (ρ j)=(eY ρ κ j sh r' c').1
 |[],i,r,c,o1,o2,_=>fun j sh _ h=>by simp at h
 |s::l,i,r,c,o1,o2,cA=>by
  intro j sh h1 h2;have e2:=qmp ρ κ i s (bQ l r) c;simp only[zf] at cA;have On:∀a b,i+1<=a->a<i+1+l.length->i+1<=b->b<i+1+l.length->ρ a=ρ b->a=b:=fun a b h1 h2 h3 h4 e=>cA a b om om om om e;obtain⟨a2,a3,_⟩:=Wt ρ κ l (i+1) r (eY cv bS i s (bQ l r) c).2 (ck o1 i (eY cv bS i s (bQ l r) c).1) (ck o2 (ρ i) (eY ρ κ i s (bQ l r) c).1) On;have f1:∀j,ar o1 (fH cv bS i (s::l) r c) j=ar (ck o1 i (eY cv bS i s (bQ l r) c).1) (fH cv bS (i+1) l r (eY cv bS i s (bQ l r) c).2) j:=fun _=>rfl;have f2:∀id,ar o2 (fH ρ κ i (s::l) r c) id=ar (ck o2 (ρ i) (eY ρ κ i s (bQ l r) c).1) (fH ρ κ (i+1) l r (eY cv bS i s (bQ l r) c).2) id:=fun id=>(congrArg (fun q=>ar (ck o2 (ρ i) (eY ρ κ i s (bQ l r) c).1) (fH ρ κ (i+1) l r q) id) e2);by_cases hc:j=i
  ·subst hc;rw[Nat.sub_self] at h2;simp only[List.getElem?_cons_zero,zE] at h2;subst h2;refine⟨bQ l r,c,?_,?_⟩
   ·rw[f1,a2 j (.inl om),dM]
   ·rw[f2,(a3 (ρ j) (fun q hq hd e=>by have:=cA q j om om om om e;omega)).1,dM]
  ·rw[show j-i=(j-(i+1))+1 by omega] at h2;obtain⟨r',c',g1,g2⟩:=qgh ρ κ l (i+1) r (eY cv bS i s (bQ l r) c).2 (ck o1 i (eY cv bS i s (bQ l r) c).1) (ck o2 (ρ i) (eY ρ κ i s (bQ l r) c).1) On j sh om (by simpa using h2);exact⟨r',c',by rw[f1];exact g1,by rw[f2];exact g2⟩
theorem qiv{imm imm':Nat->Prop}{w:World}{φ:Nat->Addr}{o:Nat->Obj}(ρ κ:Nat->Nat):∀(l:List Sh),wv l=false->∀r c zs,bV φ o imm w (eX ρ κ l r c).1 zs->bV φ o imm' w (eX ρ κ l r c).1 zs
 |[],_,_,_,_,h=>h
 |s::l,hs,r,c,zs,⟨z,zr,e,h1,h2⟩=>by have hs:(Nz s||wv l)=false:=hs;rw[Bool.or_eq_false_iff] at hs;exact⟨z,zr,e,qww ρ κ s hs.1 _ _ _ h1,qiv ρ κ l hs.2 _ _ _ h2⟩
theorem qwx:∀{l:List ft},qZ l=false->∀(j:Nat) (sh:ft),l[j]?=some sh->qZ [sh]=false
 |[],_,j,sh,h=>by simp at h
 |s::l,hs,j,sh,h=>by
  cases j with
  |zero=>simp only[List.getElem?_cons_zero,zE] at h;subst h;cases s<;>simp only[qZ,Bool.or_eq_false_iff] at hs ⊢<;>first|exact⟨hs.1,trivial⟩|rfl|trivial
  |succ j=>refine qwx (l:=l) ?_ j sh (by simpa using h);cases s<;>simp only[qZ,Bool.or_eq_false_iff] at hs<;>first|exact hs.2|exact hs
theorem qe2{bH:List Nat}:∀(k i:Nat) (l:List ft),BU bH k i l=true->k<=l.length/\∀j,j<k->(l[j]?=some .gone/\bI (i+j) bH=false)\/(l[j]?≠some .gone/\bI (i+j) bH=true)
 |0,i,l,_=>⟨Nat.zero_le _,fun j h=>absurd h om⟩
 |k+1,i,l,h=>by
  cases l with
  |nil=>cases h
  |cons s l=>
   have both:BU bH k (i+1) l=true/\((s=.gone/\bI i bH=false)\/(s≠.gone/\bI i bH=true)):=by
    cases s with
    |gone=>
     simp only[BU,zd] at h;refine⟨h.2,.inl ⟨rfl,?_⟩⟩;cases hb:bI i bH with
     |false=>rfl
     |true=>exact absurd (gp.1 hb) (VW h.1)
    |box cs=>simp only[BU,zd] at h;exact⟨h.2,.inr ⟨by simp,h.1⟩⟩
    |vec t=>simp only[BU,zd] at h;exact⟨h.2,.inr ⟨by simp,h.1⟩⟩
    |map kt vt=>simp only[BU,zd] at h;exact⟨h.2,.inr ⟨by simp,h.1⟩⟩
    |iter=>simp only[BU,zd] at h;exact⟨h.2,.inr ⟨by simp,h.1⟩⟩
   obtain⟨h1,h2⟩:=qe2 k (i+1) l both.1;refine⟨by simp;omega,fun j hj=>?_⟩;cases j with
   |zero=>simpa using both.2
   |succ j=>have:=h2 j om;rw[show i+1+j=i+(j+1) by omega] at this;simpa using this
theorem qbv{ps:PS}:∀{l:List Nat},RU ps l=true->∀i,i∈l->gf ((gf i ps.aS).getD 0) ps.cut=none
 |b::r,h,i,hi=>by
  simp only[RU,zd] at h;rcases zt.1 hi with rfl|hi
  ·exact SL h.1
  ·exact qbv h.2 i hi
theorem qe3{o:Nat->Obj}{aS:List (Nat×Nat)}:∀(k:Nat),RT o aS k=true->∀j,j<k->∃ct,gf j aS=some ct/\o ct≠.none
 |0,_,j,h=>absurd h om
 |k+1,h,j,hj=>by
  simp only[RT,zd] at h;by_cases e:j=k
  ·subst e;have h1:=h.1;split at h1
   ·rename_i ct ho;refine⟨ct,ho,fun e=>?_⟩;rw[e] at h1;cases h1
   ·cases h1
  ·exact qe3 k h.2 j om
theorem qiw{o:Nat->Obj}:∀{l:List Nat},RQ o l=true->∀id,id∈l->(∀cs,o id≠.box cs)/\(∀k v m,o id≠.map k v m)/\(∀s p,o id≠.iter s p)
 |b::r,h,id,hi=>by
  simp only[RQ,zd] at h;rcases zt.1 hi with hi|hi
  ·subst hi;have h1:=h.1;exact⟨fun cs e=>(by rw[e] at h1;cases h1),(fun k v m e=>(by rw[e] at h1;cases h1)),fun s p e=>(by rw[e] at h1;cases h1)⟩
  ·exact qiw h.2 id hi
theorem Wu{C:Cx}{R:gY C.sigs}{o:Nat->Obj}{fr f:Nat}{vs:List V}{v:V}{u:List (Nat×Obj)}:∀(l:List jY) (i:Nat),(BW lf C R o fr f vs l i).aG v u->∃i ps c y,(aR C.sigs i).f=f/\pack lf o [] (aR C.sigs i).ins vs=some (ps,c)/\RV o ps (aR C.sigs i).ins.aw.length (aR C.sigs i).outs (aR C.sigs i).bH=true/\R i c=some y/\v=xi (fill (BV ps.aS (aR C.sigs i).ins.aw.length fr) (CM o ps.aS (aR C.sigs i).ins.aw.length (aR C.sigs i).bH) (aR C.sigs i).outs y).1/\u=(bif kv (aR C.sigs i).outs then dH o ps.bY else [])++(fill (BV ps.aS (aR C.sigs i).ins.aw.length fr) (CM o ps.aS (aR C.sigs i).ins.aw.length (aR C.sigs i).bH) (aR C.sigs i).outs y).2
 |[],i,h=>h.elim
 |s::r,i,h=>by
  unfold BW at h;cases hb:Nat.beq s.f f with
  |false=>rw[hb] at h;exact Wu r (i+1) h
  |true=>
   rw[hb,cond_true] at h;split at h
   ·rename_i ps c hp;rw[df,lN,zd] at h;obtain⟨⟨h1,h2⟩,y,h3,h4⟩:=h;simp only[Prod.mk.injEq] at h4;exact⟨i,ps,c,y,zg h1,hp,h2,h3,h4.1.symm,h4.2.symm⟩
   ·exact Wu r (i+1) h
theorem qtm{φ:Nat->Addr}{o:Nat->Obj}{imm:Nat->Prop}{w:World}{vs:List V}{zs:List Value}(h:bV φ o imm w vs zs):av φ o imm w (xi vs) (xx zs):=by
 match vs,zs,h with
 |[],zs,h=>have h:zs=[]:=h;subst h;exact⟨#[],rfl,rfl⟩
 |[v],zs,⟨z,r,e,h1,h2⟩=>have h2:r=[]:=h2;subst e h2;exact h1
 |v::v'::vs,zs,⟨z,r,e,h1,z',r',e',h2,h3⟩=>subst e e';exact⟨(z::z'::r').toArray,rfl,z,z'::r',by simp,h1,z',r',rfl,h2,h3⟩
def ofk:Obj->Prop
 |.none=>False
 |_=>True
theorem Wv{o:Nat->Obj}{id:Nat}:∀{ks:List Nat},id∈bO (dH o ks)->id∈ks
 |[],h=>by cases h
 |q::r,h=>by
  simp only[dH] at h;split at h
  ·rcases zt.1 h with h|h
   ·exact h▸zj ..
   ·exact zm _ (Wv h)
  ·exact zm _ (Wv h)
theorem z8v{C:Cx}{X X1:Nat->Prop}{φ mV:Nat->Addr}{o Mz:Nat->Obj}{w w':World}{ps:PS}{fr:Nat}{ins outs:Shape}{y:aj outs.aU}{dF:List Value}{bH:List Nat}(hm:MRel C X φ o w)(hw:bM o ps ins.aw.length ins.aw Mz)(hL:RV o ps ins.aw.length outs bH=true)(hf:j9 fr o ((bif kv outs then dH o ps.bY else [])++(fill (BV ps.aS ins.aw.length fr) (CM o ps.aS ins.aw.length bH) outs y).2))(hX:∀b,XC X φ o Mz ps b->X1 b)(M1:MRel C X1 mV (bf outs y) w')(rv:bV mV (bf outs y) (ah X1 mV (bf outs y) w') w' (fill cv bS outs y).1 dF)(H:cW bH (eN φ ps) Mz w mV (bf outs y) w'):∃fT,Comes C X φ fT o ((bif kv outs then dH o ps.bY else [])++(fill (BV ps.aS ins.aw.length fr) (CM o ps.aS ins.aw.length bH) outs y).2) w w' (xi (fill (BV ps.aS ins.aw.length fr) (CM o ps.aS ins.aw.length bH) outs y).1) (xx dF):=by
 generalize hk:ins.aw.length=k at*
 generalize cA:BV ps.aS k fr=ρ at*
 generalize hκ:CM o ps.aS k bH=κ at*
 unfold RV at hL;simp only[zd] at hL;obtain⟨⟨⟨⟨hB,ht⟩,hC⟩,hG⟩,hH⟩:=hL;have hH:=zF hH;obtain⟨h6,ht⟩:=qe2 _ _ _ ht;simp only[zO] at ht;have tied:∀j,j<k->(j,ρ j)∈ps.aS/\o (ρ j)≠.none:=fun j hj=>by
  obtain⟨ct,h1,h2⟩:=qe3 k hG j hj;have:ρ j=ct:=by
   rw[<-cA];unfold BV;have hb:Nat.blt j k=true:=by rw[Nat.blt_eq];exact hj
   rw[hb,h1];rfl
  rw[this];exact⟨Iv h1,h2⟩
 have fresh:∀j,k<=j->ρ j=fr+(j-k):=fun j hj=>by
  rw[<-cA];unfold BV;have hb:Nat.blt j k=false:=by
   cases e:Nat.blt j k with
   |false=>rfl
   |true=>rw[Nat.blt_eq] at e;omega
  rw[hb];rfl
 have tE:∀j,k<=j->j<outs.aw.length->o (ρ j)=.none:=fun j h1 h2=>by obtain⟨p,h3,h4⟩:=qgg ρ κ outs.aw 0 [] (eX ρ κ outs.roots (bQ outs.aw []) y).2 j (Nat.zero_le _) om;have:=hf p (List.mem_append_right _ h3);rw[h4,fresh j h1] at this;rw[fresh j h1];exact this om om
 have inj:∀a b,0<=a->a<0+outs.aw.length->0<=b->b<0+outs.aw.length->ρ a=ρ b->a=b:=fun a b _ h1 _ h2 e=>by
  by_cases ha:a<k<;>by_cases hb:b<k
  ·have r1:=(hw.aS (tied a ha).1).2.2;have r2:=(hw.aS (tied b hb).1).2.2;rw[e,r2] at r1;injection r1 with r1;exact r1.symm
  ·exact absurd (e▸tE b om om) (tied a ha).2
  ·exact absurd (e.symm▸tE a om om) (tied b hb).2
  ·rw[fresh a om,fresh b om] at e;omega
 have hF:Comes C X φ φ o (bif kv outs then dH o ps.bY else []) w w .undef undef:=by
  cases kv outs with
  |true=>exact NV hm ps.bY
  |false=>exact .same hm rfl
 generalize hz:ar o (bif kv outs then dH o ps.bY else [])=of;have Mf:MRel C X φ of w:=hz▸hF.mem;have ofs:∀id,(of id=o id)\/(∃t ver fz s,o id=.vec t ver fz s/\of id=.vec t ver true s):=fun id=>by
  rw[<-hz];cases kv outs with
  |true=>exact(GO (o:=o) ps.bY id).imp (fun h=>h.1) (fun h=>h)
  |false=>exact .inl rfl
 have Ww:∀id,aV (φ id) (of id)=true->of id=o id/\aV (φ id) (o id)=true:=fun id hx=>by
  rcases ofs id with h|⟨t,ver,fz,s,h1,h2⟩
  ·exact⟨h,h▸hx⟩
  ·rw[h2] at hx;have:=(CS hx).2.1;simp at this
 have ofn:∀id,of id=.none↔o id=.none:=fun id=>by
  rcases ofs id with h|⟨t,ver,fz,s,h1,h2⟩
  ·rw[h]
  ·rw[h1,h2];simp
 have ofl:∀id,id∉ps.bY->of id=o id:=fun id hi=>by
  rw[<-hz];cases kv outs with
  |false=>rfl
  |true=>show ar o (dH o ps.bY) id=o id;exact gj fun hk=>hi (Wv hk)
 have Oo:∀id,id∈ps.bY->aV (φ id) (of id)=true->kv outs=false:=fun id hi hx=>by
  cases ha:kv outs with
  |false=>rfl
  |true=>
   exfalso;rw[ha] at hC hz;simp only[Bool.not_true,Bool.or_false] at hC;obtain⟨b1,b2,b3⟩:=qiw hC id hi;have hz:ar o (dH o ps.bY)=of:=hz;obtain⟨e1,e2⟩:=Ww id hx;cases he:o id with
   |box cs=>exact b1 cs he
   |map k v m=>exact b2 k v m he
   |iter s p=>exact b3 s p he
   |dead=>rw[he] at e2;simp[aV,Ev.live] at e2
   |none=>rw[he] at e2;exact ky e2
   |vec t ver fz s=>have hM:=Vx hi he;obtain⟨t',aB,fz',s',_,h2⟩:=B0 hM;rw[<-hz,h2 o] at hx;have:=(CS hx).2.1;simp at this
 have hY:(fill ρ κ outs y).2=fH ρ κ 0 outs.aw [] (eX cv bS outs.roots (bQ outs.aw []) y).2:=congrArg (fun q=>fH ρ κ 0 outs.aw [] q) (Od ρ κ cv bS outs.roots (bQ outs.aw []) y);have each:=qgh ρ κ outs.aw 0 [] (eX cv bS outs.roots (bQ outs.aw []) y).2 (fun _=>.none) of inj;obtain⟨c2,c3,c4⟩:=Wt ρ κ outs.aw 0 [] (eX cv bS outs.roots (bQ outs.aw []) y).2 (fun _=>.none) of inj;rw[<-hY] at each c3 c4;have hN:bf outs y=ar (fun _=>.none) (fH cv bS 0 outs.aw [] (eX cv bS outs.roots (bQ outs.aw []) y).2):=rfl;rw[<-hN] at each c2;generalize hO:bf outs y=oc at*
 generalize hu:(fill ρ κ outs y).2=u1 at*
 have MA:∀j,j<outs.aw.length->∃sh r' c',outs.aw[j]?=some sh/\oc j=(eY cv bS j sh r' c').1/\ar of u1 (ρ j)=(eY ρ κ j sh r' c').1:=fun j hj=>by obtain⟨r',c',h1,h2⟩:=each j outs.aw[j] (Nat.zero_le _) (by rw[Nat.sub_zero];exact ze hj);exact⟨_,r',c',ze hj,h1,h2⟩
 have dead:∀j,j<k->bI j bH=false->oc j=.dead/\ar of u1 (ρ j)=.dead:=fun j hj hn=>by
  obtain⟨sh,r',c',h1,h2,h3⟩:=MA j om;rcases ht j hj with ⟨g1,_⟩|⟨_,g2⟩
  ·rw[g1] at h1;injection h1 with h1;subst h1;exact⟨h2,h3⟩
  ·rw[hn] at g2;cases g2
 have live:∀j,j<k->bI j bH=true->oc j≠.dead/\ofk (of (ρ j))/\of (ρ j)=o (ρ j)/\eN φ ps j=φ (ρ j)/\mV j=φ (ρ j)/\∀a',a'=φ (ρ j)->Up w w' (φ (ρ j)) a' (o (ρ j)) (ar of u1 (ρ j)):=fun j hj hn=>by
  obtain⟨sh,r',c',h1,h2,h3⟩:=MA j om;have hA:sh≠.gone:=fun e=>by
   subst e;rcases ht j hj with ⟨_,g2⟩|⟨g1,_⟩
   ·rw[hn] at g2;cases g2
   ·exact g1 h1
  have hR:oc j≠.dead:=by rw[h2];cases sh<;>simp[eY] at hA ⊢
  have hZ:of (ρ j)=o (ρ j):=ofl _ (hw.bY (tied j hj).1);have hc:=H.up j (gp.1 hn);have hS:(gf j ps.aS).getD 0=ρ j:=(hw.aS (tied j hj).1).2.1;have hP:gf (ρ j) ps.cut=none:=by rw[<-hS];exact qbv hB j (gp.1 hn)
  have Wx:κ j=z8l (o (ρ j)):=by
   rw[<-hκ];unfold CM;have hb:(Nat.blt j k&&bI j bH)=true:=by rw[hn,Bool.and_true,Nat.blt_eq];exact hj
   rw[hb,cond_true,hS]
  refine⟨hR,?_⟩;rw[hZ];rcases B9 (φ:=φ) hw (tied j hj).1 with hd|⟨⟨cs,jE,e1,e2⟩|⟨t',ver,s,e1,e2⟩|⟨kt,vt,m,e1,e2⟩|⟨_,_,e1,e2⟩,cR⟩
  ·rw[hd] at hc;exfalso;cases hO:oc j<;>rw[hO] at hc<;>first|exact hc.elim|exact hR hO
  ·rw[e2] at hc;refine⟨by rw[e1];trivial,rfl,cR,?_⟩;rw[h2] at hc;cases sh<;>first|exact hc.elim|exact(hA rfl).elim|skip
   have hc:mV j=eN φ ps j:=hc;refine⟨hc.trans cR,fun a' ha=>?_⟩;rw[e1,h3,ha];exact rfl
  ·rw[e2,hP] at hc;refine⟨by rw[e1];trivial,rfl,cR,?_⟩;rw[h2] at hc;cases sh<;>first|exact hc.elim|exact(hA rfl).elim|skip
   rcases hc with hc|⟨_,u2,u3,u4,u5,u6⟩
   ·exact absurd hc (Nat.lt_irrefl 0)
   ·subst u2;refine⟨u5.trans cR,fun a' ha=>?_⟩;rw[e1,h3,ha];refine .inr ⟨?_,rfl,u3,u4,rfl,fun _=>⟨rfl,fun hn hs n hr=>?_⟩⟩
    ·rw[Wx,e1];rfl
    ·have:=(u6 rfl).2 hn (by rw[cR];exact hs) n (by rw[cR];exact hr);rw[cR] at this;exact this
  ·rw[e2] at hc;refine⟨by rw[e1];trivial,rfl,cR,?_⟩;rw[h2] at hc;cases sh<;>first|exact hc.elim|exact(hA rfl).elim|skip
   have hc:mV j=eN φ ps j:=hc;refine⟨hc.trans cR,fun a' ha=>?_⟩;rw[e1,h3,ha];exact rfl
  ·rw[e2] at hc;refine⟨by rw[e1];trivial,rfl,cR,?_⟩;rw[h2] at hc;cases sh<;>first|exact hc.elim|exact(hA rfl).elim|skip
   have hc:mV j=eN φ ps j:=hc;refine⟨hc.trans cR,fun a' ha=>?_⟩;rw[e1,h3,ha];exact rfl
 have IC:∀j a,j<outs.aw.length->aV a (ar of u1 (ρ j))=aV a (oc j):=fun j a hj=>by obtain⟨sh,r',c',h1,h2,h3⟩:=MA j hj;rw[h2,h3];cases sh<;>rfl
 have kept:∀id,(∀j,j<outs.aw.length->ρ j≠id)->ar of u1 id=of id/\id∉bO u1:=fun id h=>c3 id fun j _ hj=>h j om;have split:∀id,(∃j,j<outs.aw.length/\ρ j=id)\/(∀j,j<outs.aw.length->ρ j≠id):=fun id=>by
  by_cases h:∃j,j<outs.aw.length/\ρ j=id
  ·exact .inl h
  ·exact .inr fun j hj e=>h ⟨j,hj,e⟩
 have hD:∀j a,aV a (oc j)=true->j<outs.aw.length/\(k<=j\/bI j bH=true):=fun j a hx=>by
  have h1:j<outs.aw.length:=zM fun h=>by rw[c2 j (.inr om)] at hx;exact ky hx
  refine⟨h1,?_⟩;cases hn:bI j bH with
  |true=>exact .inr rfl
  |false=>refine .inl (zM fun h=>?_);rw[(dead j om hn).1] at hx;simp[aV,Ev.live] at hx
 generalize cR:(fun id=>bif (Nat.ble fr id&&Nat.blt id (fr+(outs.aw.length-k))) then mV (id-fr+k) else φ id)=ef;have pN0:∀j,k<=j->j<outs.aw.length->ef (ρ j)=mV j:=fun j h1 h2=>by
  rw[<-cR];simp only;rw[fresh j h1];have hb:(Nat.ble fr (fr+(j-k))&&Nat.blt (fr+(j-k)) (fr+(outs.aw.length-k)))=true:=by rw[zd,Nat.ble_eq,Nat.blt_eq];omega
  rw[hb,cond_true];congr 1;omega
 have pO:∀id,of id≠.none->ef id=φ id:=fun id hn=>by
  rw[<-cR];simp only;have hb:(Nat.ble fr id&&Nat.blt id (fr+(outs.aw.length-k)))=false:=by
   cases e:(Nat.ble fr id&&Nat.blt id (fr+(outs.aw.length-k))) with
   |false=>rfl
   |true=>rw[zd,Nat.ble_eq,Nat.blt_eq] at e;have:=tE (k+(id-fr)) om om;rw[fresh _ om,show fr+(k+(id-fr)-k)=id by omega] at this;exact absurd ((ofn id).2 this) hn
  rw[hb,cond_false]
 have pN:∀j,(k<=j\/bI j bH=true)->j<outs.aw.length->ef (ρ j)=mV j:=fun j h1 h2=>by
  by_cases hv:k<=j
  ·exact pN0 j hv h2
  ·have hn:=h1.resolve_left hv;obtain⟨_,l2,_,_,l5,_⟩:=live j om hn;rw[pO _ (fun e=>by rw[e] at l2;exact l2),l5]
 have Oq:∀b,lZ (eN φ ps) Mz b->∃i,i<k/\aV (φ (ρ i)) (of (ρ i))=true/\(φ (ρ i)).block=b:=fun b ⟨i,h1,h2⟩=>by
  obtain⟨hE,g1,g2⟩:=hw.Iw h1;have hT:uK ps i=ρ i:=(hw.aS (tied i hE).1).2.1;refine⟨i,hE,?_,by rw[<-hT];exact h2⟩;rw[<-hT];have h0:=hw.bY g1;rw[<-hz];cases ha:kv outs with
  |false=>exact g2
  |true=>
   show aV (φ (uK ps i)) (ar o (dH o ps.bY) (uK ps i))=true;rw[gj]
   ·exact g2
   ·intro hk;have key:∀ks:List Nat,uK ps i∈bO (dH o ks)->uK ps i∈ks:=by
     intro ks
     induction ks with
     |nil=>intro h;cases h
     |cons q r ih=>
      intro h;simp only[dH] at h;split at h
      ·rcases zt.1 h with h|h
       ·exact h▸zj ..
       ·exact zm _ (ih h)
      ·exact zm _ (ih h)
    exact h0 (key _ hk)
 have Ot:∀b,lZ (eN φ ps) Mz b->lZ φ of b:=fun b hb=>by obtain⟨i,_,h1,h2⟩:=Oq b hb;exact⟨ρ i,h1,h2⟩
 have free:∀id,(∀j,j<outs.aw.length->ρ j≠id)->aV (φ id) (of id)=true->¬lZ (eN φ ps) Mz (φ id).block:=fun id hI hx ⟨i,h1,h2⟩=>by obtain⟨hE,g1,g2⟩:=hw.Iw h1;have:=hm.inj _ _ g2 (Ww id hx).2 h2;have hr:=(hw.aS (tied i hE).1).2.1;exact hI i om (hr.symm.trans this)
 have xy:∀id,(∀j,j<outs.aw.length->ρ j≠id)->aV (φ id) (of id)=true->w'.heap[(φ id).block]?=w.heap[(φ id).block]?:=fun id hI hx=>H.frame _ (Mf.sep id hx).1 (free id hI hx);have Ou:∀id,(∀j,j<outs.aw.length->ρ j≠id)->aV (φ id) (of id)=true->X1 (φ id).block\/kv outs=false:=fun id hI hx=>by
  by_cases hl:id∈ps.bY
  ·exact .inr (Oo id hl hx)
  ·refine .inl (hX _ (.inr ⟨id,(Ww id hx).2,rfl,hl,fun⟨i,h1,h2⟩=>?_⟩));exact free id hI hx ⟨i,h1,by unfold eN;rw[h2]⟩
 have stays:∀b,ah X φ of w b->w'.heap[b]?=w.heap[b]?:=fun b hb=>H.frame b hb.1 fun h=>hb.2.2 (Ot b h);have news:∀id,aV (ef id) (ar of u1 id)=true->w.heap.size<=(ef id).block\/lZ φ of (ef id).block:=fun id hx=>by
  rcases split id with ⟨j,hj,rfl⟩|h
  ·rw[IC j _ hj] at hx;rw[pN j (hD j _ hx).2 hj] at hx ⊢;exact(H.news _ ⟨j,hx,rfl⟩).imp (fun h=>h) (Ot _)
  ·rw[(kept id h).1] at hx;have hq:of id≠.none:=fun e=>by rw[e] at hx;exact ky hx
   rw[pO id hq] at hx ⊢;exact .inr ⟨id,hx,rfl⟩
 have imm:∀b,ah X φ of w b->ah X ef (ar of u1) w' b:=fun b ⟨h1,h2,h3⟩=>⟨Nat.lt_of_lt_of_le h1 H.size,h2,fun⟨id,e1,e2⟩=>by
  rcases news id e1 with h|h
  ·omega
  ·exact h3 (e2▸h)⟩
 have C5:kv outs=true->∀b,ah X1 mV oc w' b->ah X ef (ar of u1) w' b:=fun ha b ⟨h1,h2,h3⟩=>⟨h1,fun hx=>h2 (hX b (.inl hx)),fun⟨id,e1,e2⟩=>by
  rcases split id with ⟨j,hj,rfl⟩|h
  ·rw[IC j _ hj] at e1;rw[pN j (hD j _ e1).2 hj] at e2 e1;exact h3 ⟨j,e1,e2⟩
  ·rw[(kept id h).1] at e1;have hq:of id≠.none:=fun e=>by rw[e] at e1;exact ky e1
   rw[pO id hq] at e2 e1;rcases Ou id h e1 with h4|h4
   ·exact h2 (e2▸h4)
   ·rw[ha] at h4;cases h4⟩
 have GK:∀id,Up w w' (φ id) (ef id) (of id) (ar of u1 id):=fun id=>by
  rcases split id with ⟨j,hj,rfl⟩|h
  ·by_cases hv:j<k
   ·cases hn:bI j bH with
    |false=>rw[(dead j hv hn).2];cases of (ρ j)<;>trivial
    |true=>
     obtain⟨_,l2,l3,_,l5,l6⟩:=live j hv hn;have:=l6 (ef (ρ j)) ((pN j (.inr hn) hj).trans l5)
     rwa [<-l3] at this
   ·rw[(ofn _).2 (tE j om hj)];trivial
  ·rw[(kept id h).1];by_cases hq:of id=.none
   ·rw[hq];trivial
   ·rw[pO id hq];exact Up.same fun hx n hr=>CU (xy id h hx) hr
 have keeps:∀x z,av φ of (ah X φ of w) w x z->av ef (ar of u1) (ah X ef (ar of u1) w') w' x z:=fun x z hx=>wA imm stays GK x z hx;have lk:∀i,SR (κ i) (oc i) (ar of u1 (ρ i)):=fun i=>by
  by_cases hi:i<outs.aw.length
  ·obtain⟨sh,r',c',h1,h2,h3⟩:=MA i hi;rw[h2,h3];cases sh<;>first|trivial|exact⟨rfl,rfl⟩
  ·rw[c2 i (.inr om)];trivial
 have pk:∀i,oc i≠.none->oc i=.dead\/ef (ρ i)=mV i:=fun i hn=>by
  have hi:i<outs.aw.length:=zM fun h=>hn (c2 i (.inr om));cases hU:bI i bH with
  |true=>exact .inr (pN i (.inr hU) hi)
  |false=>
   by_cases hE:i<k
   ·exact .inl (dead i hE hU).1
   ·exact .inr (pN i (.inl om) hi)
 have pk':∀i,oc i≠.none->oc i≠.dead->ef (ρ i)=mV i:=fun i h1 h2=>(pk i h1).resolve_left h2;have ID:kv outs=true->∀x z,av ef (ar of u1) (ah X1 mV oc w') w' x z->av ef (ar of u1) (ah X ef (ar of u1) w') w' x z:=fun ha x z hx=>wA (C5 ha) (fun _ _=>rfl) (fun _=>Up.same fun _ _ h=>h) x z hx;have hV:kv outs=false->wv outs.roots=false/\qZ outs.aw=false:=fun h=>by unfold kv at h;rwa [Bool.or_eq_false_iff] at h
 have lists:∀(l:List Sh) (r:List Ty) (c:aj (gK l r)) (zs:List Value),(kv outs=false->wv l=false)->bV mV oc (ah X1 mV oc w') w' (eX cv bS l r c).1 zs->
   bV ef (ar of u1) (ah X ef (ar of u1) w') w' (eX ρ κ l r c).1 zs:=fun l r c zs hl h=>by
  have h2:=SS (φ':=ef) lk pk' l r c zs h;cases ha:kv outs with
  |true=>exact Ig (ID ha) _ _ h2
  |false=>exact qiv ρ κ l (hl ha) r c zs h2
 have main:Comes C X φ ef of u1 w w' (xi (fill ρ κ outs y).1) (xx dF):=by
  refine⟨⟨fun id=>?_,fun i j hi hj e=>?_,fun i hi=>?_,fun b hb=>Nat.lt_of_lt_of_le (Mf.xs b hb) H.size,fun id=>?_,fun g t x hg=>keeps _ _ (Mf.eG g t x hg),Mf.mP stays⟩,?_,GK,H.size,fun b hb hh=>?_,fun id hn hk=>pO id hn,news,H.still⟩
  ·rcases split id with ⟨j,hj,rfl⟩|h
   ·by_cases hv:j<k/\bI j bH=false
    ·rw[(dead j hv.1 hv.2).2];trivial
    ·have hJ:=M1.aw j;obtain⟨sh,r',c',h1,h2,h3⟩:=MA j hj;have ry:=pN j (by
      cases hn:bI j bH with
      |true=>exact .inr rfl
      |false=>exact .inl (zM fun h=>hv ⟨by omega,hn⟩)) hj
     rw[h2] at hJ;rw[h3];have hA:kv outs=false->qZ [sh]=false:=fun ha=>qwx (hV ha).2 j sh h1;cases sh with
     |gone=>trivial
     |box l=>obtain⟨b1,cz,el,lo,hy,b2,b3,b4⟩:=hJ;refine⟨by rw[ry];exact b1,cz,el,lo,hy,by rw[ry];exact b2,b3,lists l r' c' _ (fun ha=>?_) b4⟩;have:=hA ha;simpa[qZ] using this
     |vec t=>
      obtain⟨b1,b2,b3⟩:=hJ;refine⟨b1,b2,fun hn=>?_⟩;rw[ry];refine(b3 hn).imp (fun⟨b4,ec,b5,b6,b7,b8,b9⟩=>?_) fun g=>g;refine⟨b4,ec,?_,b6,b7,b8,fun h=>by cases h⟩;cases ha:kv outs with
      |true=>exact mO (fW (C5 ha) (fun _ _=>rfl) t) b5
      |false=>have:=hA ha;exact mO (fun x c h=>IB t x c (by simpa[qZ] using this) h) b5
     |map kt vt=>
      obtain⟨es,clock,b1,b2⟩:=hJ;refine⟨es,clock,by rw[ry];exact b1,?_⟩;cases ha:kv outs with
      |true=>exact GJ (rh (C5 ha) (fun _ _=>rfl) _) (rh (C5 ha) (fun _ _=>rfl) _) b2
      |false=>have:=hA ha;simp only[qZ,Bool.or_false,Bool.or_eq_false_iff] at this;exact GJ (fun x v h=>Ws _ x v this.1 h) (fun x v h=>Ws _ x v this.2 h) b2
     |iter=>obtain⟨s,n,b1,b2⟩:=hJ;exact⟨s,n,by rw[ry];exact b1,b2⟩
   ·rw[(kept id h).1];by_cases hq:of id=.none
    ·rw[hq];trivial
    ·exact Ih imm stays keeps (pO id hq) (xy id h) (Mf.aw id)
  ·have mixed:∀a b,a<outs.aw.length->aV (mV a) (oc a)=true->(∀j,j<outs.aw.length->ρ j≠b)->aV (φ b) (of b)=true->(mV a).block=(φ b).block->False:=fun a b ha h5 hb hW e=>by
    rcases H.news _ ⟨a,h5,rfl⟩ with h|h
    ·have:=(Mf.sep b hW).1;omega
    ·exact free b hb hW (e▸h)
   rcases split i with ⟨i',hy,rfl⟩|h1<;>rcases split j with ⟨j',hK,rfl⟩|h2
   ·rw[IC i' _ hy] at hi;rw[IC j' _ hK] at hj;rw[pN i' (hD i' _ hi).2 hy] at hi e;rw[pN j' (hD j' _ hj).2 hK] at hj e;rw[M1.inj i' j' hi hj e]
   ·rw[IC i' _ hy] at hi;rw[(kept j h2).1] at hj;have hq:of j≠.none:=fun e=>by rw[e] at hj;exact ky hj
    rw[pN i' (hD i' _ hi).2 hy] at hi e;rw[pO j hq] at hj e;exact(mixed i' j hy hi h2 hj e).elim
   ·rw[IC j' _ hK] at hj;rw[(kept i h1).1] at hi;have hq:of i≠.none:=fun e=>by rw[e] at hi;exact ky hi
    rw[pN j' (hD j' _ hj).2 hK] at hj e;rw[pO i hq] at hi e;exact(mixed j' i hK hj h1 hi e.symm).elim
   ·rw[(kept i h1).1] at hi;rw[(kept j h2).1] at hj;have hq:of i≠.none:=fun e=>by rw[e] at hi;exact ky hi
    have hQ:of j≠.none:=fun e=>by rw[e] at hj;exact ky hj
    rw[pO i hq] at hi e;rw[pO j hQ] at hj e;exact Mf.inj i j hi hj e
  ·rcases split i with ⟨i',hy,rfl⟩|h1
   ·rw[IC i' _ hy] at hi;rw[pN i' (hD i' _ hi).2 hy] at hi ⊢;exact⟨(M1.sep i' hi).1,fun hx=>(M1.sep i' hi).2 (hX _ (.inl hx))⟩
   ·rw[(kept i h1).1] at hi;have hq:of i≠.none:=fun e=>by rw[e] at hi;exact ky hi
    rw[pO i hq] at hi ⊢;exact⟨Nat.lt_of_lt_of_le (Mf.sep i hi).1 H.size,(Mf.sep i hi).2⟩
  ·rcases split id with ⟨j,hj,rfl⟩|h
   ·by_cases hv:j<k/\bI j bH=false
    ·rw[(dead j hv.1 hv.2).2];trivial
    ·have he:=M1.oD j;obtain⟨sh,r',c',h1,h2,h3⟩:=MA j hj;have ry:=pN j (by
      cases hn:bI j bH with
      |true=>exact .inr rfl
      |false=>exact .inl (zM fun h=>hv ⟨by omega,hn⟩)) hj
     rw[h2] at he;rw[h3,ry];cases sh with
     |gone=>trivial
     |box l=>exact fun hs=>he ((qis ρ κ l r' c').symm.trans hs)
     |vec t=>exact he
     |map kt vt=>trivial
     |iter=>trivial
   ·rw[(kept id h).1];by_cases hq:of id=.none
    ·rw[hq];trivial
    ·rw[pO id hq];exact Mf.iT id (fun hx=>.same (xy id h hx)) stays
  ·exact qtm (lists outs.roots _ _ _ (fun ha=>(hV ha).1) rv)
  ·refine H.frame b hb fun ho=>?_;obtain⟨i,g1,g2,g3⟩:=Oq b ho;exact hh ⟨ρ i,c4 i (Nat.zero_le _) om,g2,g3⟩
 rw[<-hz] at main;exact⟨ef,hF.trans main⟩
theorem z67{C:Cx}(HN:∀i fn,C.P.funcs[(aR C.sigs i).f]?=some fn->(fn.name== "runtime.NumGoroutine")=false):S0 C:=by intro R hR X φ o w hm fr f vs zs v u hv hg hf;obtain⟨i,ps,c,y,hc,hp,hd,hy,rfl,rfl⟩:=Wu _ _ hg;subst hc;obtain⟨q1,q2⟩:=Wi hm hp hv;obtain⟨he,_⟩:=Oe hp;obtain⟨⟨fn,g1,g2⟩,g3⟩:=hR i c y hy _ _ w zs q1 q2;refine⟨⟨fn,g1,HN i fn g1,g2⟩,Calls.mono g3 fun e w' hb=>?_⟩;obtain⟨dF,mV,X1,rfl,hX,M1,rv,H⟩:=hb;obtain⟨ef,h⟩:=z8v hm he hd hf hX M1 rv H;exact⟨_,ef,rfl,h⟩
end Ev