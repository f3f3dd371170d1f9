/- Regions, code, functions and calls are sound. No statement of its own about the program. -/
import Derived.Test.YtakmoaimmdheeaaGreatDoorEvE
import Derived.Tactics
import Derived.Scope
import Derived.ScopeJumps
namespace Ev
open Go
section
variable {C:Cx} {nt:Nat} {X:Nat→Prop} {φ φ':Nat→Addr} {st:St} {a:Act} {w w':World} {R:iX C.sigs}
theorem Zf(a:Act)(d:Option Tmp)(z:Value):(a.put d z).tmps.size=a.tmps.size:=by cases d<;>simp[Act.put]
theorem Zg(a:Act)(d:Option Tmp)(z:Value):(a.put d z).defers=a.defers:=by cases d<;>rfl
theorem Zh(a:Act)(d:Tmp)(z:Value)(h:d<a.tmps.size):(a.put (some d) z).tmps.getD d undef=z:=by simp[Act.put,h]
theorem Ni(a:Act)(d:Option Tmp)(z:Value)(t:Nat)(h:d≠some t):(a.put d z).tmps.getD t undef=a.tmps.getD t undef:=by
 cases d with
 |none=>rfl
 |some d=>have:d≠t:=fun e=>h (e▸rfl);simp[Act.put,Array.getElem?_setIfInBounds_ne this]
def Jy(nt:Nat)(d:Option Tmp):Prop:=∀t,d=some t->t<nt
theorem Jz(st:St)(d:Option Nat)(v:V)(t:Nat):(d=some t/\(bC st d v).env t=v)\/(d≠some t/\(bC st d v).env t=st.env t):=by
 cases d with
 |none=>exact .inr ⟨by simp,rfl⟩
 |some d=>
  by_cases h:t=d
  ·subst h;exact .inl ⟨rfl,eH⟩
  ·exact .inr ⟨fun e=>h (by injection e with e;exact e.symm),iI h⟩
theorem s8(st:St)(d:Option Nat)(v:V):(bC st d v).obj=st.obj:=by cases d<;>rfl
theorem Rel.step(h:Rel C nt X φ st a w){u:List (Nat×Obj)}{v:V}{z:Value}{d:Option Tmp}(hd:Jy nt d)(hc:Comes C X φ φ' st.obj u w w' v z):Rel C nt X φ' (bC {st with obj:=ak st.obj u} d v) (a.put d z) w':=by
 have ho:(bC {st with obj:=ak st.obj u} d v).obj=ak st.obj u:=s8 _ _ _;refine⟨by rw[ho];exact hc.mem,(Zf _ _ _).trans h.size,fun t=>?_,by rw[Zg];exact h.defers⟩;rw[ho];rcases Jz {st with obj:=ak st.obj u} d v t with ⟨h1,h2⟩|⟨h1,h2⟩
 ·rw[h2];subst h1;rw[Zh _ _ _ (by rw[h.size];exact hd t rfl)];exact hc.val
 ·rw[h2,Ni _ _ _ _ h1];exact hc.keeps _ _ (h.env t)
theorem Rel.put(h:Rel C nt X φ st a w){v:V}{z:Value}{d:Option Tmp}(hd:Jy nt d)(hv:aq φ st.obj (ah X φ st.obj w) w v z):Rel C nt X φ (bC st d v) (a.put d z) w:=by
 have ho:(bC st d v).obj=st.obj:=s8 _ _ _;refine⟨by rw[ho];exact h.toMRel,(Zf _ _ _).trans h.size,fun t=>?_,by rw[Zg];exact h.defers⟩;rw[ho];rcases Jz st d v t with ⟨h1,h2⟩|⟨h1,h2⟩
 ·rw[h2];subst h1;rw[Zh _ _ _ (by rw[h.size];exact hd t rfl)];exact hv
 ·rw[h2,Ni _ _ _ _ h1];exact h.env t
theorem Rel.eN(h:Rel C nt X φ st a w){v:V}{d:Nat}(hv:∀z,aq φ st.obj (ah X φ st.obj w) w (st.env d) z->aq φ st.obj (ah X φ st.obj w) w v z):Rel C nt X φ (bC st (some d) v) a w:=by
 refine⟨h.toMRel,h.size,fun t=>?_,h.defers⟩;rcases Jz st (some d) v t with ⟨h1,h2⟩|⟨h1,h2⟩
 ·rw[h2];injection h1 with h1;subst h1;exact hv _ (h.env d)
 ·rw[h2];exact h.env t
theorem Zi{nt:Nat}{l:List Oper}:qZ nt l=true->∀o,o∈l->Jy nt o.dst:=by
 induction l with
 |nil=>intro _ o ho;cases ho
 |cons p r ih=>
  intro h o ho;simp only[qZ,ze] at h;rcases zw.1 ho with rfl|ho
  ·intro t e;have h1:=h.1;rw[e] at h1;exact zB h1
  ·exact ih h.2 o ho
def Sound(C:Cx)(nt:Nat)(X:Nat->Prop)(J:(Nat->Prop)->(Nat->Addr)->St->Act->World->Prop)(st:St)(P:Act->World->Prop):Prop:=∀X' φ a w,(∀b,X b->X' b)->Rel C nt X' φ st a w->J X' φ st a w->P a w
theorem JA{P:Program}{ops:Array Oper}{Q:Exit->Act->World->Prop}:∀(l m:List Oper) (a:Act) (w:World),wpList P ops (Exit.then (wpList P ops Q m) Q) l a w->wpList P ops Q (l++m) a w
 |[],m,a,w,h=>h
 |o::l,m,a,w,h=>by
  show(if Region.wanted o (yielded ops a.tmps) then o.wp P a w (wpList P ops Q (l++m)) Q\/(o.asks P a w/\LetsOut Q) else wpList P ops Q (l++m) (a.put o.dst undef) w);have h:(if Region.wanted o (yielded ops a.tmps) then o.wp P a w (wpList P ops (Exit.then (wpList P ops Q m) Q) l) (Exit.then (wpList P ops Q m) Q)\/(o.asks P a w/\LetsOut (Exit.then (wpList P ops Q m) Q)) else wpList P ops (Exit.then (wpList P ops Q m) Q) l (a.put o.dst undef) w):=h;split
  ·rename_i hw;rw[if_pos hw] at h;refine h.imp (fun h=>?_) (fun h=>h);unfold Oper.wp at*
   generalize (execOp a.eval o).run P w=r at*
   cases r with
   |ok n w'=>
    cases n<;>simp only[Oper.upon] at h ⊢<;>
     first
      |exact JA l m _ _ h
      |exact Calls.mono h (fun e HH he=>by cases e<;>first|exact JA l m _ _ he|exact he)
      |exact Rows.mono h (fun _ _ he=>JA l m _ _ he)
   |halt x w'=>cases x<;>simp only[Oper.upon] at h ⊢<;>exact h
  ·rename_i hw;rw[if_neg hw] at h;exact JA l m _ _ h
end
theorem qo2{d:Nat}{l:List Oper}:∀{g r:List Oper} {p:Oper},Ei d l=some (g,p,r)->l=g++p::r:=by
 induction l with
 |nil=>intro g r p h;cases h
 |cons o l ih=>
  intro g r p h;have key:(Ei d l).map (fun q=>(o::q.1,q.2.1,q.2.2))=some (g,p,r)->o::l=g++p::r:=by intro h;rw[Option.map_eq_some_iff] at h;obtain⟨q,h1,h2⟩:=h;obtain⟨q1,q2,q3⟩:=q;simp only[Prod.mk.injEq] at h2;obtain⟨rfl,rfl,rfl⟩:=h2;rw[ih h1];rfl
  simp only[Ei] at h;split at h
  ·rename_i c _ _ _;cases hb:Nat.beq c d<;>rw[hb] at h
   ·exact key h
   ·injection h with h;simp only[Prod.mk.injEq] at h;obtain⟨rfl,rfl,rfl⟩:=h;rfl
  ·exact key h
theorem Zj{nt:Nat}{l m:List Oper}:qZ nt (l++m)=true->qZ nt l=true/\qZ nt m=true:=by
 induction l with
 |nil=>exact fun h=>⟨rfl,h⟩
 |cons o l ih=>intro h;simp only[List.cons_append,qZ,ze] at h ⊢;obtain⟨h1,h2⟩:=ih h.2;exact⟨⟨h.1,h1⟩,h2⟩
theorem qqn{o:Nat->Obj}{u:List (Nat×Obj)}:vW (some o) u=true->∀id,id∈bW u->o id=.none:=by
 induction u with
 |nil=>intro _ id hi;cases hi
 |cons q r ih=>
  obtain⟨i,x⟩:=q;intro h id hi;simp only[vW,ze] at h;rcases zw.1 hi with hi|hi
  ·subst hi;have:=h.1;cases e:o id<;>rw[e] at this<;>first|rfl|cases this
  ·exact ih h.2 id hi
theorem QY:∀(g:List Oper) (st:St),(vV st g).obj=st.obj
 |[],_=>rfl
 |o::r,st=>by show(vV (bC st o.dst .dQ) r).obj=_;rw[QY r,s8]
theorem Zk:∀(g:List Oper) (st:St) (t:Nat),(vV st g).env t=.dQ\/((vV st g).env t=st.env t/\∀o,o∈g->o.dst≠some t)
 |[],_,_=>.inr ⟨rfl,(fun _ h=>by cases h)⟩
 |o::r,st,t=>by
  rcases Zk r (bC st o.dst .dQ) t with h|⟨h1,h2⟩
  ·exact .inl h
  ·rcases Jz st o.dst .dQ t with ⟨h3,h4⟩|⟨h3,h4⟩
   ·exact .inl (h1.trans h4)
   ·refine .inr ⟨h1.trans h4,fun q hq=>?_⟩;rcases zw.1 hq with rfl|hq
    ·exact h3
    ·exact h2 q hq
section
variable {C:Cx} {nt:Nat} {X:Nat→Prop} {R:iX C.sigs}
structure tW (ds:List Oper) (jY:Nat->Addr) (ss:St) (as:Act) (ws:World) (φ:Nat->Addr) (st:St) (a:Act) (w:World):Prop where
 size:ws.heap.size<=w.heap.size
 same:∀b,b<ws.heap.size->w.heap[b]?=ws.heap[b]?
 cC:∀id,ss.obj id≠.none->st.obj id=ss.obj id/\φ id=jY id
 new:∀id,ss.obj id=.none->aP (φ id) (st.obj id)=true->ws.heap.size<=(φ id).block
 tmps:∀t,(∀o,o∈ds->o.dst≠some t)->a.tmps.getD t undef=as.tmps.getD t undef
 still:tR ws w
theorem tW.step{ds:List Oper}{jY φ φ':Nat->Addr}{ss st:St}{as a:Act}{ws w w':World}(h:tW ds jY ss as ws φ st a w){u:List (Nat×Obj)}{v:V}{z:Value}{o:Oper}(ho:o∈ds)(hc:Comes C X φ φ' st.obj u w w' v z)(hn:vW (some ss.obj) u=true):tW ds jY ss as ws φ' (bC {st with obj:=ak st.obj u} o.dst v) (a.put o.dst z) w':=by
 have hk:∀id,id∈bW u->ss.obj id=.none:=qqn hn;have he:(bC {st with obj:=ak st.obj u} o.dst v).obj=ak st.obj u:=s8 _ _ _;have cC:∀id,ss.obj id≠.none->ak st.obj u id=ss.obj id/\φ' id=jY id:=fun id hi=>by obtain⟨h1,h2⟩:=h.cC id hi;have hf:id∉bW u:=fun hm=>hi (hk id hm);exact⟨(iq hf).trans h1,(hc.nU id (by rw[h1];exact hi) hf).trans h2⟩
 refine⟨Nat.le_trans h.size hc.size,fun b hb=>?_,by rw[he];exact cC,fun id hi hx=>?_,fun t ht=>?_,⟨hc.still.1.trans h.still.1,hc.still.2.trans h.still.2⟩⟩
 ·rw[hc.frame b (Nat.lt_of_lt_of_le hb h.size),h.same b hb];rintro⟨id,h1,h2,h3⟩;have:=h.new id (hk id h1) h2;omega
 ·rw[he] at hx;rcases hc.news id hx with h1|⟨j,h1,h2⟩
  ·have:=h.size;omega
  ·by_cases hj:ss.obj j=.none
   ·have:=h.new j hj h1;omega
   ·exfalso;obtain⟨e1,e2⟩:=cC j hj;obtain⟨e3,e4⟩:=h.cC j hj;have hg:aP (φ' j) (ak st.obj u j)=true:=by rw[e1,e2,<-e3,<-e4];exact h1
    have:=hc.mem.inj j id hg hx (by rw[e2,<-e4];exact h2);subst this;exact hj hi
 ·rw[Ni _ _ _ _ (ht o ho)];exact h.tmps t ht
theorem tW.undef{ds:List Oper}{jY φ:Nat->Addr}{ss st:St}{as a:Act}{ws w:World}(h:tW ds jY ss as ws φ st a w){o:Oper}(ho:o∈ds)(v:V)(z:Value):tW ds jY ss as ws φ (bC st o.dst v) (a.put o.dst z) w:=⟨h.size,h.same,by rw[s8];exact h.cC,by rw[s8];exact h.new,fun t ht=>by rw[Ni _ _ _ _ (ht o ho)];exact h.tmps t ht,h.still⟩
theorem tW.eN{ds:List Oper}{jY φ:Nat->Addr}{ss st:St}{as a:Act}{ws w:World}(h:tW ds jY ss as ws φ st a w)(d:Option Nat)(v:V):tW ds jY ss as ws φ (bC st d v) a w:=⟨h.size,h.same,by rw[s8];exact h.cC,by rw[s8];exact h.new,h.tmps,h.still⟩
theorem tW.forget{g:List Oper}{p:Oper}{pd:Nat}(hk:p.dst=some pd){jY φ:Nat->Addr}{ss st:St}{as a:Act}{ws w:World}(hs:Rel C nt X jY ss as ws)(he:Rel C nt X φ st a w)(h:tW (g++[p]) jY ss as ws φ st a w){y:Bool}(hy:eg (st.env pd)=.d .bool y):Rel C nt X jY (bC (vV ss g) (some pd) (.d .bool y)) a w:=by
 have hc:(bC (vV ss g) (some pd) (.d .bool y)).obj=ss.obj:=by rw[s8,QY]
 have hf:∀b,ah X jY ss.obj ws b->ah X jY ss.obj w b:=fun b hb=>⟨Nat.lt_of_lt_of_le hb.1 h.size,hb.2.1,hb.2.2⟩;have hj:∀b,ah X jY ss.obj ws b->w.heap[b]?=ws.heap[b]?:=fun b hb=>h.same b hb.1;have keeps:∀x z,aq jY ss.obj (ah X jY ss.obj ws) ws x z->aq jY ss.obj (ah X jY ss.obj w) w x z:=fun x z hx=>vj hf hj (fun id=>Up.same fun hx n hr=>A5 (h.same _ (hs.sep id hx).1) hr) x z hx;refine⟨?_,he.size,fun t=>?_,he.defers⟩
 ·rw[hc];refine⟨fun id=>Ew hf hj keeps rfl (fun hx=>h.same _ (hs.sep id hx).1) (hs.ay id),hs.inj,fun i hi=>⟨Nat.lt_of_lt_of_le (hs.sep i hi).1 h.size,(hs.sep i hi).2⟩,
   fun b hb=>Nat.lt_of_lt_of_le (hs.xs b hb) h.size,fun id=>hs.jI id (fun hx=>.same (h.same _ (hs.sep id hx).1)) hj,fun g t x hg=>keeps _ _ (hs.fk g t x hg),hs.ni hj⟩
 ·rw[hc];rcases Jz (vV ss g) (some pd) (.d .bool y) t with ⟨h1,h2⟩|⟨h1,h2⟩
  ·rw[h2];injection h1 with h1;subst h1;have:=I6 (he.env pd);rw[hy] at this;have:=oX this;rw[this];exact Ai
  ·rw[h2];rcases Zk g ss t with h3|⟨h3,h4⟩
   ·rw[h3];trivial
   ·rw[h3,h.tmps t fun o ho=>?_]
    ·exact keeps _ _ (hs.env t)
    ·rcases zN.1 ho with ho|ho
     ·exact h4 o ho
     ·rw[zK] at ho;subst ho;rw[hk];exact h1
theorem QZ{ops:Array Oper}{a:Act}{j dj:Nat}{oj:Oper}{b:Bool}(hj:ops.toList[j]?=some oj)(hd:oj.dst=some dj)(h:a.tmps.getD dj undef=.bool b):yielded ops a.tmps j=some b:=by
 unfold yielded;rw[zL] at hj;have h':a.tmps[dj]?=some (.bool b):=by
  rw[Array.getD_eq_getD_getElem?] at h;cases e:a.tmps[dj]? with
  |none=>rw[e] at h;cases h
  |some z=>rw[e] at h;exact congrArg some h
 simp[hj,hd,h']
theorem Zl{ops:Array Oper}{a:Act}{j dj:Nat}{oj:Oper}(hj:ops.toList[j]?=some oj)(hd:oj.dst=some dj)(h:a.tmps.getD dj undef=undef):yielded ops a.tmps j=none:=by
 unfold yielded;rw[zL] at hj;rw[Array.getD_eq_getD_getElem?] at h;simp only[hj,Option.bind_some,hd];cases e:a.tmps[dj]? with
 |none=>rfl
 |some z=>rw[e] at h;have h:z=undef:=h;subst h;rfl
structure np (C:Cx) (nt:Nat) (g0:Option (Nat->Obj)) (r:List Oper) (J:(Nat->Prop)->(Nat->Addr)->St->Act->World->Prop):Prop where
 step:∀X φ st a w φ' u v z w' o,o∈r->J X φ st a w->Rel C nt X φ st a w->Comes C X φ φ' st.obj u w w' v z->vW g0 u=true->J X φ' (bC {st with obj:=ak st.obj u} o.dst v) (a.put o.dst z) w'
 undef:∀X φ st a w o,o∈r->J X φ st a w->J X φ (bC st o.dst .undef) (a.put o.dst undef) w
 eN:∀X φ st a w d v,J X φ st a w->J X φ (bC st d v) a w
 forget:g0=none->∀X jY ss as ws φ st a w (g js:List Oper) (v:Option Nat×V),J X jY ss as ws->tW g jY ss as ws φ st a w->J X jY (bC (vV ss js) v.1 v.2) a w
theorem np.tail{g0:Option (Nat->Obj)}{r r':List Oper}{J:(Nat->Prop)->(Nat->Addr)->St->Act->World->Prop}(h:np C nt g0 r J)(hs:∀o,o∈r'->o∈r):np C nt g0 r' J:=⟨fun X φ st a w φ' u v z w' o ho=>h.step X φ st a w φ' u v z w' o (hs o ho),fun X φ st a w o ho=>h.undef X φ st a w o (hs o ho),h.eN,h.forget⟩
variable (hC:cD C) (hE:kP C) (HC:∀X φ o w,MRel C X φ o w→∀fr f,Bb C R X φ o w fr f)
include hC hE HC
theorem qqo{ops:Array Oper}{rg:Nat}:∀(n:Nat) {γ δ:Type} (X:Nat->Prop) (Q:Exit->Act->World->Prop) (wr:γ->δ) (i:Nat) (r:List Oper) (st:St) (k:(γ->δ)->St->Option δ) (y:δ) (J:(Nat->Prop)->(Nat->Addr)->St->Act->World->Prop) (g0:Option (Nat->Obj)),mi lf C R rg ops.toList g0 n wr i r st k=some y->qZ nt r=true->np C nt g0 r J->(∀bT,k wr bT=some y->Sound C nt X J bT (Q .normal))->Sound C nt X J st (wpList C.P ops Q r):=by
 intro n
 induction n with
 |zero=>intro γ δ X Q wr i r st k y J g0 h;cases h
 |succ n ih=>
  intro γ δ X Q wr i r st k y J g0 h hd hJ hk;cases r with
  |nil=>exact hk st h
  |cons o r=>
   have hm:Jy nt o.dst:=Zi hd o (zf ..);have hn:qZ nt r=true:=(Zj (l:=[o]) hd).2;have hs:np C nt g0 r J:=hJ.tail fun q hq=>zh _ hq;have runs:(match dE lf C R st.env st.obj (jW rg i) o.type o.op with
     |.fail=>none
     |.lE v u=>bif vW g0 u then ng v fun v=>q7 (jW rg i) st.obj u fun o'=>mi lf C R rg ops.toList g0 n wr (i+1) r (bC {st with obj:=o'} o.dst v) k else none
     |.dyn _ x out=>lf.b x fun y=>bif vW g0 (out y).2 then ng (out y).1 fun v=>q7 (jW rg i) st.obj (out y).2 fun o'=>mi lf C R rg ops.toList g0 n wr (i+1) r (bC {st with obj:=o'} o.dst v) k else none)=some y->
     ∀X' φ a w,(∀b,X b->X' b)->Rel C nt X' φ st a w->J X' φ st a w->o.wp C.P a w (wpList C.P ops Q r) Q:=by
    intro h X' φ a w hX hR hj;have go:∀v u,(dE lf C R st.env st.obj (jW rg i) o.type o.op).aE v u->(bif vW g0 u then ng v fun v=>q7 (jW rg i) st.obj u fun o'=>mi lf C R rg ops.toList g0 n wr (i+1) r (bC {st with obj:=o'} o.dst v) k else none)=some y->
      o.wp C.P a w (wpList C.P ops Q r) Q:=by
     intro v u hg h;cases hb:vW g0 u with
     |false=>rw[hb] at h;cases h
     |true=>rw[hb,cond_true,QP] at h;obtain⟨h1,h2⟩:=QQ _ _ _ _ h;have hl:=QF hC hE hR.toMRel (fun x=>hR.cv x) (HC X' φ st.obj w hR.toMRel (jW rg i)) hg h2;exact hl.upon fun val w' φ' hc=>ih X Q wr (i+1) r _ k y J g0 h1 hn hs hk X' φ' _ w' hX (hR.step hm hc) (hJ.step X' φ st a w φ' u v val w' o (zf ..) hj hR hc hb)
    generalize hp:dE lf C R st.env st.obj (jW rg i) o.type o.op=pk at h go;cases pk with
    |fail=>cases h
    |lE v u=>exact go v u ⟨rfl,rfl⟩ h
    |dyn α x out=>obtain⟨q,h1,h2⟩:=Al (x:=x) h;exact go (out q).1 (out q).2 ⟨q,h1,rfl⟩ h2
   have Dq:mi lf C R rg ops.toList g0 n wr (i+1) r (bC st o.dst .undef) k=some y->Sound C nt X J st (fun a w=>wpList C.P ops Q r (a.put o.dst undef) w):=by intro h X' φ a w hX hR hj;exact ih X Q wr (i+1) r _ k y J g0 h hn hs hk X' φ _ w hX (hR.put hm rfl) (hJ.undef X' φ st a w o (zf ..) hj)
   intro X' φ a w hX hR hj;show(if Region.wanted o (yielded ops a.tmps) then o.wp C.P a w (wpList C.P ops Q r) Q\/(o.asks C.P a w/\LetsOut Q) else wpList C.P ops Q r (a.put o.dst undef) w);unfold mi at h;simp only at h;split at h
   ·rename_i hg;rw[if_pos (by simp[Region.wanted,hg])];exact .inl (runs h X' φ a w hX hR hj)
   ·rename_i j want hg;split at h
    ·rename_i oj ht;split at h
     ·rename_i dj hu;split at h
      ·
       rename_i b hb;have hz:=hR.env dj;rw[hb] at hz;have hy:=QZ ht hu hz;have hw:Region.wanted o (yielded ops a.tmps)=(bif want then b else !b):=by unfold Region.wanted;rw[hg];simp only[hy];cases b<;>cases want<;>rfl
       rw[hw];cases hc:(bif want then b else !b) with
       |true=>rw[hc] at h;rw[if_pos rfl];exact .inl (runs h X' φ a w hX hR hj)
       |false=>rw[hc] at h;rw[if_neg (by simp)];exact Dq h X' φ a w hX hR hj
      ·
       rename_i hb;have hz:=hR.env dj;rw[hb] at hz;have hy:=Zl ht hu hz;have hw:Region.wanted o (yielded ops a.tmps)=false:=by unfold Region.wanted;rw[hg];simp only[hy];rfl
       rw[hw,if_neg (by simp)];exact Dq h X' φ a w hX hR hj
      ·rename_i x hb;split at h
       ·
        rename_i gs;have rc:∀b,x=b->∀z,aq φ st.obj (ah X' φ st.obj w) w (st.env dj) z->aq φ st.obj (ah X' φ st.obj w) w (.lb b) z:=by intro b e z hz;rw[hb] at hz;subst e;exact oX hz
        cases x with
        |true=>have h:mi lf C R rg ops.toList (some gs) n wr i (o::r) (bC st (some dj) (.lb true)) k=some y:=h;exact ih X Q wr i (o::r) _ k y J _ h hd hJ hk X' φ a w hX (hR.eN (rc true rfl)) (hJ.eN X' φ st a w _ _ hj)
        |false=>have h:mi lf C R rg ops.toList (some gs) n wr i (o::r) (bC st (some dj) (.lb false)) k=some y:=h;exact ih X Q wr i (o::r) _ k y J _ h hd hJ hk X' φ a w hX (hR.eN (rc false rfl)) (hJ.eN X' φ st a w _ _ hj)
       ·cases hv:Xb C dj (o::r)
        case true=>
         rw[hv,cond_true] at h;have rc:∀b,x=b->∀z,aq φ st.obj (ah X' φ st.obj w) w (st.env dj) z->aq φ st.obj (ah X' φ st.obj w) w (.lb b) z:=by intro b e z hz;rw[hb] at hz;subst e;exact oX hz
         cases x with
         |true=>have h:mi lf C R rg ops.toList none n wr i (o::r) (bC st (some dj) (.lb true)) k=some y:=h;exact ih X Q wr i (o::r) _ k y J _ h hd hJ hk X' φ a w hX (hR.eN (rc true rfl)) (hJ.eN X' φ st a w _ _ hj)
         |false=>have h:mi lf C R rg ops.toList none n wr i (o::r) (bC st (some dj) (.lb false)) k=some y:=h;exact ih X Q wr i (o::r) _ k y J _ h hd hJ hk X' φ a w hX (hR.eN (rc false rfl)) (hJ.eN X' φ st a w _ _ hj)
        rw[hv,cond_false] at h;split at h
        ·rename_i g p r' hA;split at h
         ·rename_i pd hB;obtain⟨yb,h1,h2⟩:=Al h;have hD:=qo2 hA;show wpList C.P ops Q (o::r) a w;rw[hD] at hd hJ ⊢;have he:g++p::r'=(g++[p])++r':=by simp
          rw[he] at hd hJ ⊢;obtain⟨hF,hH⟩:=Zj hd;refine JA _ _ _ _ ?_;have rc:∀b,x=b->∀z,aq φ st.obj (ah X' φ st.obj w) w (st.env dj) z->aq φ st.obj (ah X' φ st.obj w) w (.lb b) z:=by intro b e z hz;rw[hb] at hz;subst e;exact oX hz
          have oY:mi (γ:=Bool) (δ:=Bool) lf C R rg ops.toList (some st.obj) n (fun x=>x) i (g++[p]) (bC st (some dj) (.lb x)) (fun w' bT=>Xa _ w' (eg (bT.env pd)))=some yb:=by cases x<;>exact h1
          refine ih X' (Exit.then (wpList C.P ops Q r') Q) (fun x=>x) i (g++[p]) _ _ yb (fun X2 eY st2 a2 w2=>X2=X'/\tW (g++[p]) φ st a w eY st2 a2 w2) (some st.obj) oY hF ?_ ?_ X' φ a w (fun _ h=>h) (hR.eN (rc x rfl)) ⟨rfl,?_⟩
          ·refine⟨fun X2 eY st2 a2 w2 φ' u v z w' q hq ⟨e,hG⟩ hx hc ho=>⟨e,hG.step hq hc ho⟩,fun X2 eY st2 a2 w2 q hq ⟨e,hG⟩=>⟨e,hG.undef hq _ _⟩,fun X2 eY st2 a2 w2 d v ⟨e,hG⟩=>⟨e,hG.eN d v⟩,fun e=>by cases e⟩
          ·intro bT hf X2 eY a2 w2 _ hx ⟨e,hG⟩;subst e;have hI:eg (bT.env pd)=.d .bool yb:=by
            revert hf;generalize eg (bT.env pd)=q;intro hq;cases q<;>try (cases hq;done)
            rename_i t d;cases t<;>try (cases hq;done)
            injection hq with hq;rw[<-hq]
           exact ih X Q wr _ r' _ k y J none h2 hH (hJ.tail fun q hq=>List.mem_append_right _ hq) hk X2 φ a2 w2 hX (hG.forget hB hR hx hI)
            (hJ.forget rfl X2 φ st a w eY bT a2 w2 (g++[p]) g (some pd,.d .bool yb) hj hG)
          ·exact⟨Nat.le_refl _,fun _ _=>rfl,fun _ _=>⟨rfl,rfl⟩,fun id h1 h2=>(by
            have:(bC st (some dj) (.lb x)).obj=st.obj:=s8 _ _ _;rw[this,h1] at h2;cases h2),fun _ _=>rfl,⟨rfl,rfl⟩⟩
         ·cases h
        ·cases h
      ·cases h
     ·cases h
    ·cases h
end
inductive fu (nt:Nat):Code->AC->Prop where
 |skip:fu nt .skip .skip
 |label (l:Nat):fu nt (.label l) .skip
 |region (id:Nat) (ops:Array Oper) (d:Bool) (h:qZ nt ops.toList=true):fu nt (.region id ops d) (.region id ops d)
 |seq {a b:Code} {a' b':AC} (ha:fu nt a a') (hb:fu nt b b'):fu nt (.seq a b) (.seq a' b')
 |cond {a b:Code} {a' b':AC} (c:Operand) (ts:List Nat) (ha:fu nt a a') (hb:fu nt b b'):fu nt (.cond c a b) (.cond c ts a' b')
 |block {b:Code} {b':AC} (id:Nat) (ts:List Nat) (hb:fu nt b b'):fu nt (.block id b) (.block id ts b')
 |loop {b:Code} {b':AC} (ts:List Nat) (hb:fu nt b b'):fu nt (.loop b) (.loop ts b')
 |exit (id:Nat):fu nt (.exit id) (.exit id)
 |goto (l:Nat):fu nt (.goto l) (.goto l)
 |ret:fu nt .ret .ret
 |scope {b:Code} {b':AC} (hb:fu nt b b'):fu nt (.scope b) (.scope b')
 |jump {b p r:Code} {p' r':AC} (l:Nat) (ts:List Nat) (h1:ahead l b=some p) (h2:findLabel b l=some r) (hp:fu nt p p') (hr:fu nt r r'):fu nt (.scope b) (.jump l ts p' r')
 |bad (c:Code):fu nt c .bad
def rm(P:Program):Code->(Exit->Act->World->Prop)->Act->World->Prop
 |.seq x y,Q=>rm P x (Exit.then (rm P y Q) Q)
 |.skip,Q=>Q .normal
 |.label _,Q=>Q .normal
 |c,Q=>c.wp P Q
theorem vm{P:Program}:∀{c:Code} {Q:Exit->Act->World->Prop} {a:Act} {w:World},rm P c Q a w->c.wp P Q a w:=by
 intro c
 induction c with
 |seq x y tX tY=>intro Q a w h;refine wp_seq (wp_mono (tX h) fun e a w h=>?_);cases e<;>first|exact tY h|exact h
 |skip=>intro Q a w h;exact wp_skip h
 |label l=>intro Q a w h;exact wp_label h
 |_=>intro Q a w h;exact h
theorem EN{P:Program}:∀{c:Code} {Q Q':Exit->Act->World->Prop} {a:Act} {w:World},rm P c Q a w->(∀e a w,Q e a w->Q' e a w)->rm P c Q' a w:=by
 intro c
 induction c with
 |seq x y tX tY=>intro Q Q' a w h hq;refine tX (Q:=Exit.then (rm P y Q) Q) h fun e a w h=>?_;cases e<;>first|exact tY h hq|exact hq _ _ _ h
 |skip=>intro Q Q' a w h hq;exact hq _ _ _ h
 |label l=>intro Q Q' a w h hq;exact hq _ _ _ h
 |_=>intro Q Q' a w h hq;exact wp_mono h hq
theorem qxx{P:Program}{l:Nat}:∀(c:Code) {p r:Code} {Q:Exit->Act->World->Prop} {a:Act} {w:World},ahead l c=some p->findLabel c l=some r->rm P p (Exit.then (rm P r Q) Q) a w->rm P c Q a w:=by
 have none:∀c,ahead l c=none->findLabel c l=none:=by
  intro c
  induction c with
  |seq x y tX tY=>
   intro h;simp only[ahead] at h;split at h
   ·cases h
   ·rename_i e;split at h
    ·cases h
    ·rename_i e2;simp only[findLabel,tX e,tY e2]
  |label j=>
   intro h;simp only[ahead] at h;have:¬j=l:=fun e=>by rw[e,Nat.beq_refl] at h;cases h
   simp[findLabel,this]
  |_=>intro h;rfl
 have JB:∀c p,ahead l c=some p->∃r,findLabel c l=some r:=by
  intro c
  induction c with
  |seq x y tX tY=>
   intro p h;simp only[ahead] at h;split at h
   ·rename_i c' e;obtain⟨r,hr⟩:=tX _ e;exact⟨.seq r y,by simp only[findLabel,hr]⟩
   ·rename_i e;split at h
    ·rename_i c' e2;obtain⟨r,hr⟩:=tY _ e2;exact⟨r,by simp only[findLabel,none _ e,hr]⟩
    ·cases h
  |label j=>
   intro p h;simp only[ahead] at h;cases hb:Nat.beq j l with
   |true=>exact⟨.skip,by rw[zm hb];simp[findLabel]⟩
   |false=>rw[hb] at h;cases h
  |_=>intro p h;cases h
 intro c
 induction c with
 |seq x y tX tY=>
  intro p r Q a w h1 h2 h;simp only[ahead] at h1;split at h1
  ·rename_i c' e;injection h1 with h1;subst h1;obtain⟨rx,hc⟩:=JB _ _ e;simp only[findLabel,hc,zE] at h2;subst h2;refine tX (Q:=Exit.then (rm P y Q) Q) e hc (EN h fun e a w h=>?_);cases e<;>exact h
  ·rename_i e;split at h1
   ·rename_i c' e2;injection h1 with h1;subst h1;simp only[findLabel,none _ e] at h2;refine EN (c:=x) h fun e a w h=>?_;cases e<;>first|exact tY e2 h2 h|exact h
   ·cases h1
 |label j=>
  intro p r Q a w h1 h2 h;simp only[ahead] at h1;cases hb:Nat.beq j l with
  |true=>rw[hb] at h1;injection h1 with h1;have hb:=zm hb;simp only[findLabel,hb,beq_self_eq_true,if_true,zE] at h2;subst h1 h2;exact h
  |false=>rw[hb] at h1;cases h1
 |_=>intro p r Q a w h1;cases h1
def Ex.to:Ex->Exit
 |.normal=>.normal
 |.exit id=>.exit id
 |.goto l=>.goto l
 |.ret=>.ret
theorem Ar{p:Nat->Prop}(h:∃n,p n):∃n,p n/\∀m,p m->n<=m:=by
 obtain⟨n,hn⟩:=h
 induction n using Nat.strongRecOn with
 |_ n ih=>
  by_cases hm:∃m,m<n/\p m
  ·obtain⟨m,h1,h2⟩:=hm;exact ih m h1 h2
  ·exact⟨n,hn,fun m hc=>zA fun he=>hm ⟨m,by omega,hc⟩⟩
theorem HV{σ ρ:Type}{f:σ->Option (σ⊕ρ)}{s:σ}{r:ρ}(h:aX f s=some r):∃n,mr f n s=some r:=by
 unfold aX at h;split at h
 ·rename_i hx;injection h with h;have:=Classical.choose_spec hx;rw[h] at this;exact this
 ·cases h
section
variable {C:Cx} {nt:Nat} {R:iX C.sigs} {eI:Nat→Addr} {o0:Nat→Obj} {w0:World} {sk:List Nat}
abbrev HJ(sk:List Nat)(eI:Nat->Addr)(o0:Nat->Obj)(w0:World):(Nat->Prop)->(Nat->Addr)->St->Act->World->Prop:=fun _ φ st _ w=>dV sk eI o0 w0 φ st.obj w
theorem HJ.keeps(r:List Oper):np C nt none r (HJ sk eI o0 w0):=by
 refine⟨fun X φ st a w φ' u v z w' o ho h hR hc _=>?_,fun X φ st a w o ho h=>?_,fun X φ st a w d v h=>?_,fun _ X jY ss as ws φ st a w g js v h hG=>?_⟩
 ·show dV sk eI o0 w0 φ' (bC {st with obj:=ak st.obj u} o.dst v).obj w';rw[s8];exact h.step hc
 ·show dV sk eI o0 w0 φ (bC st o.dst .undef).obj w;rw[s8];exact h
 ·show dV sk eI o0 w0 φ (bC st d v).obj w;rw[s8];exact h
 ·show dV sk eI o0 w0 jY (bC (vV ss js) v.1 v.2).obj w;rw[s8,QY];exact⟨Nat.le_trans h.size hG.size,fun b hb hn=>by rw[hG.same b (Nat.lt_of_lt_of_le hb h.size),h.frame b hb hn],h.news,⟨hG.still.1.trans h.still.1,hG.still.2.trans h.still.2⟩,fun id hi=>(h.up id hi).trans (Up.same fun _ n hr=>by refine A5 (hG.same _ ?_) hr;obtain⟨c,el,lo,he,h1,_⟩:=hr;exact(Array.getElem?_eq_some_iff.1 h1).1)⟩
def JC(C:Cx)(nt:Nat)(J:(Nat->Prop)->(Nat->Addr)->St->Act->World->Prop)(X:Nat->Prop){γ:Type}(k:(δ:Type)->(γ->δ)->Ex->St->Option δ)(Q:(γ->Prop)->Exit->Act->World->Prop):Prop:=∀(δ:Type) (w:γ->δ) (e:Ex) (st:St) (y:δ),k δ w e st=some y->Sound C nt X J st (Q (fun g=>w g=y) e.to)
def Au{γ:Type}(Q:(γ->Prop)->Exit->Act->World->Prop):Prop:=∀S S' e a w,(∀g,S g->S' g)->Q S e a w->Q S' e a w
def Q0(C:Cx)(nt:Nat)(R:iX C.sigs)(J:(Nat->Prop)->(Nat->Addr)->St->Act->World->Prop):Prop:=
 ∀(rg:Nat) (ops:Array Oper) (n:Nat) {γ δ:Type} (X:Nat->Prop) (Q:Exit->Act->World->Prop) (wr:γ->δ) (st:St) (k:(γ->δ)->St->Option δ) (y:δ),
  q9 lf C R rg ops.toList n wr 0 ops.toList st [] [] k=some y->qZ nt ops.toList=true->(∀bT,k wr bT=some y->Sound C nt X J bT (Q .normal))->
  Sound C nt X J st ((Code.region rg ops true).wp C.P Q)
theorem Sound.weaken{J:(Nat->Prop)->(Nat->Addr)->St->Act->World->Prop}{X:Nat->Prop}{st:St}{P P':Act->World->Prop}(h:Sound C nt X J st P)(hp:∀a w,P a w->P' a w):Sound C nt X J st P':=fun X' φ a w h1 h2 h3=>hp _ _ (h X' φ a w h1 h2 h3)
def wb(C:Cx)(nt:Nat)(sk:List Nat)(eI:Nat->Addr)(o0:Nat->Obj)(w0:World)(X:Nat->Prop)(ts:List Nat)(s:Shape)(c:ai s.aN)(a:Act)(w:World):Prop:=∃X2 eY,(∀b,X b->X2 b)/\Rel C nt X2 eY (jm sk ts s c) a w/\dV sk eI o0 w0 eY (jm sk ts s c).obj w
theorem Nk{δ:Type}{s:Shape}{w:ai s.aN->δ}{aL:List (Nat×Nat)}{o:Nat->Obj}{vs:List V}{y:δ}(h:ke lf sk s w aL o vs=some y):∃ps c,Eg lf sk aL o s vs=some (ps,c)/\w c=y:=by
 unfold ke at h;split at h
 ·rename_i p e;injection h with h;exact⟨p.1,p.2,e,h⟩
 ·cases h
def JQ(C:Cx)(nt:Nat)(sk:List Nat)(eI:Nat->Addr)(o0:Nat->Obj)(w0:World)(X:Nat->Prop)(ts:List Nat)(s:Shape){γ δ:Type}(wr:γ->δ)(Q:(γ->Prop)->Exit->Act->World->Prop):(ai s.aN⊕δ->Prop)->Exit->Act->World->Prop
 |S,.normal,a,w=>∃c,S (.inl c)/\wb C nt sk eI o0 w0 X ts s c a w
 |S,e,a,w=>Q (fun g=>S (.inr (wr g))) e a w
theorem JQ.mono{X:Nat->Prop}{ts:List Nat}{s:Shape}{γ δ:Type}{wr:γ->δ}{Q:(γ->Prop)->Exit->Act->World->Prop}(hQ:Au Q):Au (JQ C nt sk eI o0 w0 X ts s wr Q):=by intro S S' e a w hs h;cases e<;>first|exact hQ _ _ _ _ _ (fun g hg=>hs _ hg) h|exact(let ⟨c,h1,h2⟩:=h;⟨c,hs _ h1,h2⟩)
theorem Zn{X:Nat->Prop}{ts:List Nat}{s:Shape}{γ δ:Type}{wr:γ->δ}{Q:(γ->Prop)->Exit->Act->World->Prop}(hQ:Au Q){y1:ai s.aN⊕δ}{y:δ}{k:(δ:Type)->(γ->δ)->Ex->St->Option δ}(hk:JC C nt (HJ sk eI o0 w0) X k Q)(h:bR (fun c=>sY sk ts s c fun st=>k δ wr .normal st) y1=some y)(e:Exit)(a:Act)(w:World)(hj:JQ C nt sk eI o0 w0 X ts s wr Q (fun g=>g=y1) e a w):Q (fun g=>wr g=y) e a w:=by
 cases y1 with
 |inl c=>
  have h:sY sk ts s c (fun st=>k δ wr .normal st)=some y:=h;rw[Nf] at h;cases e with
  |normal=>obtain⟨c',h1,X2,eY,h2,h3,h4⟩:=hj;injection h1 with h1;subst h1;exact hk δ wr .normal _ y h X2 eY a w h2 h3 h4
  |_=>exact hQ _ _ _ _ _ (fun g hg=>by cases hg) hj
 |inr d=>
  have h:some d=some y:=h;injection h with h;subst h;cases e with
  |normal=>obtain⟨c',h1,_⟩:=hj;cases h1
  |_=>exact hQ _ _ _ _ _ (fun g hg=>by injection hg) hj
theorem Nl{X:Nat->Prop}{ts:List Nat}{s:Shape}{γ δ dI:Type}{wr:γ->δ}{Q:(γ->Prop)->Exit->Act->World->Prop}{w':ai s.aN⊕δ->dI}{bT:St}{y':dI}(wc:ko sk)(h:ke lf sk s (fun c=>w' (.inl c)) (qV 0 sk) bT.obj (ts.map fun t=>eg (bT.env t))=some y'):Sound C nt X (HJ sk eI o0 w0) bT (JQ C nt sk eI o0 w0 X ts s wr Q (fun g=>w' g=y') .normal):=by obtain⟨ps,c,h1,h2⟩:=Nk h;intro X' φ a w hX hR hJ;obtain⟨eY,X2,g1,g2,g3⟩:=Jx wc hR hJ h1;exact⟨c,h2,X2,eY,fun b hb=>g1 b (hX b hb),g2,g3⟩
variable (hC:cD C) (hE:kP C) (HC:∀X φ o w,MRel C X φ o w→∀fr f,Bb C R X φ o w fr f) (HD:Q0 C nt R (HJ sk eI o0 w0)) (wc:ko sk)
include hC hE HC HD wc
open Classical in
theorem z2q{c:Code}{ac:AC}(hA:fu nt c ac):∀(X:Nat->Prop) (st:St) (γ δ:Type) (w:γ->δ) (k:(δ:Type)->(γ->δ)->Ex->St->Option δ) (Q:(γ->Prop)->Exit->Act->World->Prop) (y:δ),Au Q->JC C nt (HJ sk eI o0 w0) X k Q->ev lf C R sk ac st γ δ w k=some y->Sound C nt X (HJ sk eI o0 w0) st (rm C.P c (Q fun g=>w g=y)):=by
 induction hA with
 |skip=>intro X st γ δ w k Q y hQ hk h;exact hk δ w .normal st y h
 |label l=>intro X st γ δ w k Q y hQ hk h;exact hk δ w .normal st y h
 |region id ops d hd=>
  intro X st γ δ w k Q y hQ hk h;cases d with
  |true=>exact HD id ops _ X _ w st _ y h hd fun bT h'=>hk δ w .normal bT y h'
  |false=>refine(qqo hC hE HC (ops:=ops) (rg:=id) _ X (Q fun g=>w g=y) w 0 ops.toList st _ y (HJ sk eI o0 w0) none h hd (HJ.keeps _) fun bT h'=>hk δ w .normal bT y h').weaken fun a w h=>wp_region_list h
 |@seq ca cb a b ha hb nW kh=>
  intro X st γ δ w k Q y hQ hk h;refine nW X st γ δ w _ (fun S e a w=>Exit.then (rm C.P cb (Q S)) (Q S) e a w) y ?_ ?_ h
  ·intro S S' e a w hs h;cases e<;>first|exact hQ _ _ _ _ _ hs h|exact EN h fun e a w h=>hQ _ _ _ _ _ hs h
  ·intro dI w' e bT y' h';cases e with
   |normal=>exact kh X bT γ dI w' k Q y' hQ hk h'
   |exit id=>exact hk dI w' (.exit id) bT y' h'
   |goto l=>exact hk dI w' (.goto l) bT y' h'
   |ret=>exact hk dI w' .ret bT y' h'
 |@cond ca cb a b c ts ha hb nW kh=>
  intro X st γ δ w k Q y hQ hk h X' φ act wd hX hR hJ;unfold ev at h;split at h
  ·rename_i x hx;have hz:=hR.cv c;rw[hx] at hz;have hz:=oX hz;have plain:az x (ev lf C R sk a st γ δ w k) (ev lf C R sk b st γ δ w k)=some y->(Code.cond c ca cb).wp C.P (Q fun g=>w g=y) act wd:=by
    intro h;cases x with
    |true=>exact wp_cond_true hz (vm (nW X st γ δ w k Q y hQ hk h X' φ act wd hX hR hJ))
    |false=>exact wp_cond_false hz (vm (kh X st γ δ w k Q y hQ hk h X' φ act wd hX hR hJ))
   cases hf:(sX a&&sX b) with
   |false=>rw[hf] at h;exact plain h
   |true=>
    rw[hf,cond_true,Nd] at h;generalize Hr C sk st ts (nR a++nR b)=s at h;have both:∀(k':(dI:Type)->(ai s.aN⊕δ->dI)->Ex->St->Option dI) (y1:ai s.aN⊕δ),JC C nt (HJ sk eI o0 w0) X k' (JQ C nt sk eI o0 w0 X ts s w Q)->
      az x (ev lf C R sk a st (ai s.aN⊕δ) (ai s.aN⊕δ) (fun x=>x) k') (ev lf C R sk b st (ai s.aN⊕δ) (ai s.aN⊕δ) (fun x=>x) k')=some y1->
      (Code.cond c ca cb).wp C.P (JQ C nt sk eI o0 w0 X ts s w Q fun g=>g=y1) act wd:=by
     intro k' y1 hy h;cases x with
     |true=>exact wp_cond_true hz (vm (nW X st _ _ (fun x=>x) k' _ y1 (JQ.mono hQ) hy h X' φ act wd hX hR hJ))
     |false=>exact wp_cond_false hz (vm (kh X st _ _ (fun x=>x) k' _ y1 (JQ.mono hQ) hy h X' φ act wd hX hR hJ))
    cases hl:(tM a||tM b) with
    |true=>
     rw[hl,cond_true] at h;obtain⟨y1,h1,h2⟩:=Al h;refine wp_mono (both _ y1 ?_ h1) fun e a w hj=>Zn hQ hk h2 e a w hj;intro dI w' e bT y' h';cases e with
     |normal=>exact Nl wc h'
     |exit id=>exact hk dI (fun g=>w' (.inr (w g))) (.exit id) bT y' h'
     |goto l=>exact hk dI (fun g=>w' (.inr (w g))) (.goto l) bT y' h'
     |ret=>exact hk dI (fun g=>w' (.inr (w g))) .ret bT y' h'
    |false=>
     rw[hl,cond_false] at h;obtain⟨y1,h1,h2⟩:=Al h
     have only:∀(cx:Code) (ax:AC),(∀(X:Nat->Prop) (st:St) (γ δ:Type) (w:γ->δ) (k:(δ:Type)->(γ->δ)->Ex->St->Option δ) (Q:(γ->Prop)->Exit->Act->World->Prop) (y:δ),
       Au Q->JC C nt (HJ sk eI o0 w0) X k Q->ev lf C R sk ax st γ δ w k=some y->Sound C nt X (HJ sk eI o0 w0) st (rm C.P cx (Q fun g=>w g=y)))->
       ev lf C R sk ax st (ai s.aN) (ai s.aN) (fun x=>x) (fun _ w' e bT=>match e with
        |.normal=>ke lf sk s w' (qV 0 sk) bT.obj (ts.map fun t=>eg (bT.env t))
        |_=>none)=some y1->cx.wp C.P (Q fun g=>w g=y) act wd:=by
      intro cx ax ih h;have:=ih X st _ _ (fun x=>x) _ (fun S e a w=>match e with|.normal=>∃c,S c/\wb C nt sk eI o0 w0 X ts s c a w|_=>False) y1 ?_ ?_ h X' φ act wd hX hR hJ
      ·refine wp_mono (vm this) fun e a2 w2 hj=>?_;cases e with
       |normal=>obtain⟨c',hc,X2,eY,g1,g2,g3⟩:=hj;subst hc;have h2:sY sk ts s c' (fun st=>k δ w .normal st)=some y:=h2;rw[Nf] at h2;exact hk δ _ .normal _ y h2 X2 eY a2 w2 g1 g2 g3
       |_=>exact hj.elim
      ·intro S S' e a w hs h;cases e<;>first|exact h.elim|exact(let ⟨c,h1,h2⟩:=h;⟨c,hs _ h1,h2⟩)
      ·intro dI w' e bT y' h';cases e with
       |normal=>obtain⟨ps,cc,e1,e2⟩:=Nk h';intro X' φ a w hX hR hJ;obtain⟨eY,X2,g1,g2,g3⟩:=Jx wc hR hJ e1;exact⟨cc,e2,X2,eY,fun b hb=>g1 b (hX b hb),g2,g3⟩
       |_=>cases h'
     cases x with
     |true=>exact wp_cond_true hz (only ca a nW h1)
     |false=>exact wp_cond_false hz (only cb b kh h1)
  ·cases h
 |@block cb b id ts hb ih=>
  intro X st γ δ w k Q y hQ hk h;have Dr:∀{γ:Type} {Q:(γ->Prop)->Exit->Act->World->Prop},Au Q->Au (fun S=>Exit.inBlock id (Q S)):=by
   intro γ Q hQ S S' e a w hs h;cases e with
   |exit j=>
    show(if j=id then Q S' .normal a w else Q S' (.exit j) a w);have h:(if j=id then Q S .normal a w else Q S (.exit j) a w):=h;split
    ·rename_i e;rw[if_pos e] at h;exact hQ _ _ _ _ _ hs h
    ·rename_i e;rw[if_neg e] at h;exact hQ _ _ _ _ _ hs h
   |_=>exact hQ _ _ _ _ _ hs h
  unfold ev at h;cases hw:Nat.ble 2 (ways id b+(bif sX b then 1 else 0)) with
  |true=>
   rw[hw,cond_true,Nd] at h;generalize Hr C sk st ts (nR b)=s at h;obtain⟨y1,h1,h2⟩:=Al h;refine(ih X st _ _ (fun x=>x) _ (fun S=>Exit.inBlock id (JQ C nt sk eI o0 w0 X ts s w Q S)) y1 (Dr (JQ.mono hQ)) ?_ h1).weaken fun a wd hb=>wp_mono (wp_block (vm hb)) fun e a wd hj=>Zn hQ hk h2 e a wd hj;intro dI w' e bT y' h';cases e with
   |normal=>exact Nl (wr:=w) (Q:=Q) wc h'
   |exit j=>
    show Sound C nt X _ bT (fun a wd=>if j=id then JQ C nt sk eI o0 w0 X ts s w Q (fun g=>w' g=y') .normal a wd else JQ C nt sk eI o0 w0 X ts s w Q (fun g=>w' g=y') (.exit j) a wd);simp only at h';cases hj:Nat.beq j id with
    |true=>rw[hj,cond_true] at h';have:=zm hj;simp only[this,if_true];exact Nl (wr:=w) (Q:=Q) wc h'
    |false=>
     rw[hj,cond_false] at h';have:¬j=id:=fun e=>by rw[e,Nat.beq_refl] at hj;cases hj
     simp only[this,if_false];exact hk dI (fun g=>w' (.inr (w g))) (.exit j) bT y' h'
   |goto l=>exact hk dI (fun g=>w' (.inr (w g))) (.goto l) bT y' h'
   |ret=>exact hk dI (fun g=>w' (.inr (w g))) .ret bT y' h'
  |false=>
   rw[hw,cond_false] at h;refine(ih X st γ δ w _ (fun S=>Exit.inBlock id (Q S)) y (Dr hQ) ?_ h).weaken fun a wd hb=>wp_block (vm hb);intro dI w' e bT y' h';cases e with
   |normal=>exact hk dI w' .normal bT y' h'
   |exit j=>
    show Sound C nt X _ bT (fun a wd=>if j=id then Q (fun g=>w' g=y') .normal a wd else Q (fun g=>w' g=y') (.exit j) a wd);simp only at h';cases hj:Nat.beq j id with
    |true=>rw[hj,cond_true] at h';have:=zm hj;simp only[this,if_true];exact hk dI w' .normal bT y' h'
    |false=>
     rw[hj,cond_false] at h';have:¬j=id:=fun e=>by rw[e,Nat.beq_refl] at hj;cases hj
     simp only[this,if_false];exact hk dI w' (.exit j) bT y' h'
   |goto l=>exact hk dI w' (.goto l) bT y' h'
   |ret=>exact hk dI w' .ret bT y' h'
 |@loop cb b ts hb ih=>
  intro X st γ δ w k Q y hQ hk h X' φ act wd hX hR hJ;unfold ev at h;rw[Nd] at h;generalize Hr C sk st ts (nR b)=s at h;split at h
  ·rename_i p hp;obtain⟨n0,ho⟩:=HV h;generalize hn:(fun c=>sY sk ts s c fun st=>ev lf C R sk b st (ai s.aN⊕δ) (ai s.aN⊕δ) (fun x=>x) fun dI w' e bT=>match e with
     |.normal=>ke lf sk s (fun c=>w' (.inl c)) (qV 0 sk) bT.obj (ts.map fun t=>eg (bT.env t))
     |e=>k dI (fun g=>w' (.inr (w g))) e bT)=body at ho
   obtain⟨eY,X2,g1,g2,g3⟩:=Jx wc hR hJ hp;let Pn:Act->World->Nat->Prop:=fun a wd n=>∃cc,mr body n cc=some y/\wb C nt sk eI o0 w0 X ts s cc a wd;let I:Act->World->Prop:=fun a wd=>∃n,Pn a wd n;refine wp_loop I (fun a wd=>if h:I a wd then Classical.choose (Ar h) else 0) ⟨n0,p.2,ho,X2,eY,fun b hb=>g1 b (hX b hb),g2,g3⟩ ?_;intro a wd hI;have hl:=Classical.choose_spec (Ar hI);simp only[dif_pos hI];generalize Classical.choose (Ar hI)=n at hl;obtain⟨⟨cc,c1,X3,Q3,c2,c3,c4⟩,ht⟩:=hl;cases n with
   |zero=>cases c1
   |succ m=>
    simp only[mr] at c1;have run:∀y1,body cc=some y1->cb.wp C.P (JQ C nt sk eI o0 w0 X ts s w Q fun g=>g=y1) a wd:=by
     intro y1 he;rw[<-hn] at he;have he:sY sk ts s cc _=some y1:=he;rw[Nf] at he;refine vm (ih X (jm sk ts s cc) _ _ (fun x=>x) _ (JQ C nt sk eI o0 w0 X ts s w Q) y1 (JQ.mono hQ) ?_ he X3 Q3 a wd c2 c3 c4);intro dI w' e bT y' h';cases e with
     |normal=>exact Nl wc h'
     |exit id=>exact hk dI (fun g=>w' (.inr (w g))) (.exit id) bT y' h'
     |goto l=>exact hk dI (fun g=>w' (.inr (w g))) (.goto l) bT y' h'
     |ret=>exact hk dI (fun g=>w' (.inr (w g))) .ret bT y' h'
    split at c1
    ·rename_i s' hu;refine wp_mono (run _ hu) fun e a2 w2 hj=>?_;cases e with
     |normal=>obtain⟨c',e1,e2⟩:=hj;injection e1 with e1;subst e1;have hm:I a2 w2:=⟨m,c',c1,e2⟩;refine⟨hm,?_⟩;rw[dif_pos hm];have:=(Classical.choose_spec (Ar hm)).2 m ⟨c',c1,e2⟩;omega
     |_=>exact hQ _ _ _ _ _ (fun g hg=>by cases hg) hj
    ·rename_i r hr;injection c1 with c1;subst c1;refine wp_mono (run _ hr) fun e a2 w2 hj=>?_;cases e with
     |normal=>obtain⟨c',e1,_⟩:=hj;cases e1
     |_=>exact hQ _ _ _ _ _ (fun g hg=>by injection hg) hj
    ·cases c1
  ·cases h
 |exit id=>intro X st γ δ w k Q y hQ hk h;exact(hk δ w (.exit id) st y h).weaken fun a w h=>wp_exit h
 |goto l=>intro X st γ δ w k Q y hQ hk h;exact(hk δ w (.goto l) st y h).weaken fun a w h=>wp_goto h
 |ret=>intro X st γ δ w k Q y hQ hk h;exact(hk δ w .ret st y h).weaken fun a w h=>wp_ret h
 |@scope cb b hb ih=>
  intro X st γ δ w k Q y hQ hk h;refine(ih X st γ δ w _ (fun S=>Exit.noGoto (Q S)) y ?_ ?_ h).weaken fun a wd hb=>wp_scope_straight (vm hb)
  ·intro S S' e a w hs h;cases e<;>first|exact hQ _ _ _ _ _ hs h|exact h
  ·intro dI w' e bT y' h';cases e with
   |normal=>exact hk dI w' .normal bT y' h'
   |exit id=>exact hk dI w' (.exit id) bT y' h'
   |goto l=>cases h'
   |ret=>exact hk dI w' .ret bT y' h'
 |@jump cb cp cr p r l ts h1 h2 hp hr ihp ihr=>
  intro X st γ δ w k Q y hQ hk h;let body:(s:Shape)->(dI:Type)->(γ->dI)->ai s.aN->Option (ai s.aN⊕dI):=fun s δ w c=>sY sk ts s c fun st=>ev lf C R sk r st (ai s.aN⊕δ) (ai s.aN⊕δ) (fun x=>x) fun dI w' e bT=>match e with
     |.goto l'=>bif Nat.beq l' l then ke lf sk s (fun c=>w' (.inl c)) (qV 0 sk) bT.obj (ts.map fun t=>eg (bT.env t)) else none
     |e=>k dI (fun g=>w' (.inr (w g))) e bT
  let JJ:(γ->Prop)->Nat->Act->World->Prop:=fun S n a wd=>∃(s:Shape) (dI:Type) (w':γ->dI) (y':dI),(∀g,w' g=y'->S g)/\∃cc,mr (body s dI w') n cc=some y'/\wb C nt sk eI o0 w0 X ts s cc a wd;let J:(γ->Prop)->Act->World->Prop:=fun S a wd=>∃n,JJ S n a wd;let Q':(γ->Prop)->Exit->Act->World->Prop:=fun S e a wd=>match e with
   |.normal=>J S a wd
   |.goto _=>False
   |e=>Q S e a wd
  have mJ:∀S S' a wd,(∀g,S g->S' g)->J S a wd->J S' a wd:=fun S S' a wd hs ⟨n,s,dI,w',y',h1,h2⟩=>⟨n,s,dI,w',y',fun g hg=>hs g (h1 g hg),h2⟩;have mQ:Au Q':=by intro S S' e a w hs h;cases e<;>first|exact hQ _ _ _ _ _ hs h|exact mJ _ _ _ _ hs h|exact h.elim
  have hv:=ihp X st γ δ w _ Q' y mQ (fun dI w' e bT y' h'=>by
   cases e with
   |normal=>
    simp only at h';rw[Nd] at h';generalize Hr C sk bT ts (nR r)=s at h';split at h'
    ·rename_i p hp;obtain⟨n0,ho⟩:=HV h';intro X' φ a wd hX hR hJ;obtain⟨eY,X2,g1,g2,g3⟩:=Jx wc hR hJ hp;exact⟨n0,s,dI,w',y',fun _ h=>h,p.2,ho,X2,eY,fun b hb=>g1 b (hX b hb),g2,g3⟩
    ·cases h'
   |exit id=>exact hk dI w' (.exit id) bT y' h'
   |goto l=>cases h'
   |ret=>exact hk dI w' .ret bT y' h') h
  intro X' φ act wd hX hR hJ;replace hv:=hv X' φ act wd hX hR hJ;let μ:Act->World->Nat:=fun a wd=>if h:J (fun g=>w g=y) a wd then Classical.choose (Ar h) else 0
  have pass:∀a wd,J (fun g=>w g=y) a wd->rm C.P cr (Exit.jump l (fun a' w'=>J (fun g=>w g=y) a' w'/\μ a' w'<μ a wd) (Q fun g=>w g=y)) a wd:=by
   intro a wd hI;have hl:=Classical.choose_spec (Ar hI);have hμ:μ a wd=Classical.choose (Ar hI):=dif_pos hI;rw[hμ];generalize Classical.choose (Ar hI)=n at hl;obtain⟨⟨s,dI,w',y',hS,cc,c1,X3,Q3,c2,c3,c4⟩,ht⟩:=hl;cases n with
   |zero=>cases c1
   |succ m=>
    simp only[mr] at c1;let Q2:(ai s.aN⊕dI->Prop)->Exit->Act->World->Prop:=fun T e a wd=>match e with
     |.goto l'=>l'=l/\∃c,T (.inl c)/\wb C nt sk eI o0 w0 X ts s c a wd
     |e=>Q (fun g=>T (.inr (w' g))) e a wd
    have mQ2:Au Q2:=by intro S S' e a w hs h;cases e<;>first|exact hQ _ _ _ _ _ (fun g hg=>hs _ hg) h|exact(let ⟨c0,c,h1,h2⟩:=h;⟨c0,c,hs _ h1,h2⟩)
    have run:∀y1,body s dI w' cc=some y1->rm C.P cr (Q2 fun g=>g=y1) a wd:=by
     intro y1 he;have he:sY sk ts s cc _=some y1:=he;rw[Nf] at he;refine ihr X (jm sk ts s cc) _ _ (fun x=>x) _ Q2 y1 mQ2 ?_ he X3 Q3 a wd c2 c3 c4;intro Q4 w2 e bT y2 h';cases e with
     |normal=>exact hk Q4 (fun g=>w2 (.inr (w' g))) .normal bT y2 h'
     |exit id=>exact hk Q4 (fun g=>w2 (.inr (w' g))) (.exit id) bT y2 h'
     |goto l'=>
      simp only at h';cases hb:Nat.beq l' l with
      |false=>rw[hb] at h';cases h'
      |true=>rw[hb,cond_true] at h';obtain⟨ps,c,e1,e2⟩:=Nk h';intro X' φ a w hX hR hJ;obtain⟨eY,X2,g1,g2,g3⟩:=Jx wc hR hJ e1;exact⟨zm hb,c,e2,X2,eY,fun b hb=>g1 b (hX b hb),g2,g3⟩
     |ret=>exact hk Q4 (fun g=>w2 (.inr (w' g))) .ret bT y2 h'
    split at c1
    ·rename_i s' hu;refine EN (run _ hu) fun e a2 w2 hj=>?_;cases e with
     |goto l'=>obtain⟨e0,c',e1,e2⟩:=hj;injection e1 with e1;subst e1;have hB:JJ (fun g=>w g=y) m a2 w2:=⟨s,dI,w',y',hS,c',c1,e2⟩;have hm:J (fun g=>w g=y) a2 w2:=⟨m,hB⟩;refine⟨e0,hm,?_⟩;have Q5:μ a2 w2=Classical.choose (Ar hm):=dif_pos hm;rw[Q5];have:=(Classical.choose_spec (Ar hm)).2 m hB;omega
     |_=>exact hQ _ _ _ _ _ (fun g hg=>by cases hg) hj
    ·rename_i r0 hD;injection c1 with c1;subst c1;refine EN (run _ hD) fun e a2 w2 hj=>?_;cases e with
     |goto l'=>obtain⟨_,c',e1,_⟩:=hj;cases e1
     |_=>exact hQ _ _ _ _ _ (fun g hg=>hS g (by injection hg)) hj
    ·cases c1
  refine wp_scope_jumps l (J fun g=>w g=y) μ h2 (vm (qxx cb h1 h2 (EN hv fun e a wd hq=>?_))) fun a wd hI=>vm (pass a wd hI);cases e with
  |normal=>
   refine EN (pass a wd hq) fun e a2 w2 hj=>?_;cases e with
   |goto l'=>exact⟨hj.1,hj.2.1⟩
   |_=>exact hj
  |goto l'=>exact hq.elim
  |_=>exact hq
 |bad c=>intro X st γ δ w k Q y hQ hk h;cases h
end
theorem HX{β:Type}(m:Nat):∀(n:Nat) (acc:List Nat) (k:List Nat->β),∃ts,tL m n acc k=k ts
 |0,acc,k=>⟨acc,rfl⟩
 |n+1,acc,k=>by
  show ∃ts,(bif Nat.testBit m n then tL m n (n::acc) k else tL m n acc k)=k ts;cases Nat.testBit m n
  ·exact HX m n acc k
  ·exact HX m n (n::acc) k
theorem qxz{γ:Type}{rt nt:Nat}:∀(n:Nat) (c:Code) (ex gt:List (Nat×Nat)) (m:Nat) (k:Nat->AC->Option γ) (y:γ),ly rt nt n c ex gt m k=some y->∃m' ac,fu nt c ac/\k m' ac=some y:=by
 intro n
 induction n with
 |zero=>intro c ex gt m k y h;exact⟨m,.bad,.bad c,h⟩
 |succ n ih=>
  intro c ex gt m k y h;cases c with
  |skip=>exact⟨m,.skip,.skip,h⟩
  |label l=>exact⟨m,.skip,.label l,h⟩
  |region id ops d=>
   have h:(bif qZ nt ops.toList then kF (PH ops.toList m) fun m'=>k m' (.region id ops d) else k m .bad)=some y:=h;cases hd:qZ nt ops.toList with
   |true=>rw[hd,cond_true,o3] at h;exact⟨_,_,.region id ops d hd,h⟩
   |false=>rw[hd,cond_false] at h;exact⟨_,_,.bad _,h⟩
  |seq a b=>have h:(ly rt nt n b ex gt m fun mb b'=>ly rt nt n a ex gt mb fun ma a'=>k ma (.seq a' b'))=some y:=h;obtain⟨mb,b',h1,h2⟩:=ih _ _ _ _ _ _ h;obtain⟨ma,a',h3,h4⟩:=ih _ _ _ _ _ _ h2;exact⟨ma,_,.seq h3 h1,h4⟩
  |cond c a b=>have h:(ly rt nt n a ex gt m fun ma a'=>ly rt nt n b ex gt m fun mb b'=>kF (Ms c|||ma|||mb) fun m'=>tL m nt [] fun ts=>k m' (.cond c ts a' b'))=some y:=h;obtain⟨ma,a',h1,h2⟩:=ih _ _ _ _ _ _ h;obtain⟨mb,b',h3,h4⟩:=ih _ _ _ _ _ _ h2;rw[o3] at h4;obtain⟨ts,e⟩:=HX m nt [] (fun ts=>k (Ms c|||ma|||mb) (.cond c ts a' b'));rw[e] at h4;exact⟨_,_,.cond c ts h1 h3,h4⟩
  |block id b=>have h:(ly rt nt n b ((id,m)::ex) gt m fun mb b'=>tL m nt [] fun ts=>k mb (.block id ts b'))=some y:=h;obtain⟨mb,b',h1,h2⟩:=ih _ _ _ _ _ _ h;obtain⟨ts,e⟩:=HX m nt [] (fun ts=>k mb (.block id ts b'));rw[e] at h2;exact⟨_,_,.block id ts h1,h2⟩
  |loop b=>have h:(ly rt nt n b ex gt 0 fun m1 _=>ly rt nt n b ex gt m1 fun m2 b'=>tL m2 nt [] fun ts=>k m2 (.loop ts b'))=some y:=h;obtain⟨m1,_,_,h2⟩:=ih _ _ _ _ _ _ h;obtain⟨m2,b',h3,h4⟩:=ih _ _ _ _ _ _ h2;obtain⟨ts,e⟩:=HX m2 nt [] (fun ts=>k m2 (.loop ts b'));rw[e] at h4;exact⟨_,_,.loop ts h3,h4⟩
  |exit id=>exact⟨_,_,.exit id,h⟩
  |goto l=>exact⟨_,_,.goto l,h⟩
  |ret=>exact⟨_,_,.ret,h⟩
  |scope b=>
   have h:(match Mt b b with
    |none=>ly rt nt n b ex gt m fun mb b'=>k mb (.scope b')
    |some l=>match ahead l b,findLabel b l with
     |some p,some r=>ly rt nt n r ex ((l,0)::gt) m fun m1 _=>ly rt nt n r ex ((l,m1)::gt) m fun m2 r'=>ly rt nt n p ex gt m2 fun mp p'=>tL m2 nt [] fun ts=>k mp (.jump l ts p' r')
     |_,_=>k m .bad)=some y:=h
   split at h
   ·obtain⟨mb,b',h1,h2⟩:=ih _ _ _ _ _ _ h;exact⟨_,_,.scope h1,h2⟩
   ·rename_i l _;split at h
    ·rename_i p r ep er;obtain⟨m1,_,_,h2⟩:=ih _ _ _ _ _ _ h;obtain⟨m2,r',h3,h4⟩:=ih _ _ _ _ _ _ h2;obtain⟨mp,p',h5,h6⟩:=ih _ _ _ _ _ _ h4;obtain⟨ts,e⟩:=HX m2 nt [] (fun ts=>k mp (.jump l ts p' r'));rw[e] at h6;exact⟨_,_,.jump l ts ep er h5 h3,h6⟩
    ·exact⟨_,_,.bad _,h⟩
  |_=>exact⟨m,.bad,.bad _,h⟩
theorem Zo:∀(vs:List V) (i:Nat) (env:Nat->V) (t:Nat),(∀j,t=i+j->∀v,vs[j]?=some v->A2 env i vs t=v)/\((t<i\/i+vs.length<=t)->A2 env i vs t=env t)
 |[],i,env,t=>⟨fun j _ v h=>by simp at h,fun _=>rfl⟩
 |x::r,i,env,t=>by
  obtain⟨h1,h2⟩:=Zo r (i+1) (cu env i x) t;refine⟨fun j hj v hv=>?_,fun hj=>?_⟩
  ·show A2 (cu env i x) (i+1) r t=v;cases j with
   |zero=>rw[h2 (.inl om),hj,Nat.add_zero,eH];simpa using hv
   |succ j=>exact h1 j om v (by simpa using hv)
  ·show A2 (cu env i x) (i+1) r t=env t;simp only[zj] at hj;rw[h2 om,iI om]
section
variable {C:Cx} {R:iX C.sigs}
def we(l:List Value):Value:=match l with
 |[v]=>v
 |l=>.tuple l.toArray
theorem z7o(hC:cD C){nt:Nat}{X:Nat->Prop}{φ:Nat->Addr}{st:St}{a:Act}{w:World}(h:Rel C nt X φ st a w):∀(rs:List ResultVar) (vs:List V),tO lf C st rs=some vs->∃zs,cd φ st.obj (ah X φ st.obj w) w vs zs/\(rs.mapM fun(r:ResultVar)=>(match r with
   |.tmp t=>(pure (a.tmps.getD t undef):Sem Value)
   |.cell q t=>do loadVar t (<-asAddr (a.tmps.getD q undef)))).run C.P w=.ok zs w:=by
 intro rs
 induction rs with
 |nil=>intro vs h1;injection h1 with h1;subst h1;exact⟨[],rfl,by simp⟩
 |cons r rs ih=>
  intro vs h1;cases r with
  |tmp t=>
   simp only[tO] at h1;split at h1
   ·rename_i l h2;injection h1 with h1;subst h1;obtain⟨zs,h3,h4⟩:=ih _ h2;exact⟨a.tmps.getD t undef::zs,⟨_,_,rfl,I6 (h.env t),h3⟩,by simp only[List.mapM_cons,Sem.run_bind,Sem.run_pure,Result.andThen_ok,h4]⟩
   ·cases h1
  |cell q t=>
   simp only[tO] at h1;split at h1
   ·rename_i v u hv;split at h1
    ·rename_i l h2;injection h1 with h1;subst h1;obtain⟨zs,h3,h4⟩:=ih _ h2;obtain⟨_,z,h5,h6⟩:=XK (v:=v) (u:=u) hC h.toMRel (h.env q) (by rw[hv];exact⟨rfl,rfl⟩);refine⟨z::zs,⟨_,_,rfl,h6,h3⟩,?_⟩;have hl:(asAddr (a.tmps.getD q undef)>>=fun ad=>loadVar t ad).run C.P w=.ok z w:=by
      unfold Instr.loadAt at h5;generalize a.tmps.getD q undef=zq at h5 ⊢;cases zq with
      |pointer p=>cases p with
       |none=>exact absurd h5 (by simp[Instr.sureAddr,stuck])
       |some ad=>simpa[Instr.sureAddr,asAddr] using h5
      |_=>exact absurd h5 (by simp[Instr.sureAddr,stuck])
     rw[Sem.run_bind] at hl;simp only[List.mapM_cons,Sem.run_bind,Sem.run_pure];rw[hl];simp only[Result.andThen_ok,h4]
    ·cases h1
   ·cases h1
def JD(C:Cx)(i:Nat)(x:ai (aM C.sigs i).ins.aN)(y:ai (aM C.sigs i).outs.aN)(X:Nat->Prop)(φ:Nat->Addr)(w:World)(e:Ending)(w':World):Prop:=
 ∃en φ' X',e=.returned (we en)/\(∀b,X b->X' b)/\MRel C X' φ' (aV (aM C.sigs i).outs y) w'/\
  cd φ' (aV (aM C.sigs i).outs y) (ah X' φ' (aV (aM C.sigs i).outs y) w') w' (fill cH bX (aM C.sigs i).outs y).1 en/\
  dV (aM C.sigs i).bH φ (aV (aM C.sigs i).ins x) w φ' (aV (aM C.sigs i).outs y) w'
def nY(C:Cx)(i:Nat)(x:ai (aM C.sigs i).ins.aN)(y:ai (aM C.sigs i).outs.aN):Prop:=
 ∀X φ w zs,MRel C X φ (aV (aM C.sigs i).ins x) w->cd φ (aV (aM C.sigs i).ins x) (ah X φ (aV (aM C.sigs i).ins x) w) w (fill cH bX (aM C.sigs i).ins x).1 zs->
  (∃fn,C.P.funcs[(aM C.sigs i).f]?=some fn/\fn.body.isNone=false)/\Calls C.P (aM C.sigs i).f zs.toArray w (JD C i x y X φ w)
theorem qo4(hC:cD C)(hE:kP C)(HC:∀X φ o w,MRel C X φ o w->∀fr f,Bb C R X φ o w fr f)(HD:∀nt sk eI o0 w0,Q0 C nt R (HJ sk eI o0 w0)){i:Nat}{x:ai (aM C.sigs i).ins.aN}{y:ai (aM C.sigs i).outs.aN}(h:Hu lf C R i x=some y):nY C i x y:=by
 intro X φ w zs hm hz;unfold Hu at h;simp only at h;split at h
 ·cases h
 ·rename_i fn hc;rw[zL] at hc;split at h
  ·cases h
  ·rename_i b hb;refine⟨⟨fn,hc,by rw[hb];rfl⟩,?_⟩;cases hn:(Hi (aM C.sigs i).ins.ay.length (aM C.sigs i).bH&&Nat.ble (fill id (fun _=>0) (aM C.sigs i).ins x).1.length fn.ntmps) with
   |false=>rw[hn] at h;cases h
   |true=>
    rw[hn,cond_true] at h;rw[ze] at hn;obtain⟨ho,hn⟩:=hn;obtain⟨m',ac,hA,hu⟩:=qxz _ _ _ _ _ _ _ h;have hv:=Dl hz;have hn:(fill cH bX (aM C.sigs i).ins x).1.length<=fn.ntmps:=zB hn;have hD:zs.length<=fn.ntmps:=om
    refine calls_of_wp hc hb ?_;let PR:ai (aM C.sigs i).outs.aN->Act->World->Prop:=fun yy a wd=>a.defers=[]/\∃v,(results fn a.tmps).run C.P wd=.ok v wd/\JD C i x yy X φ w (.returned v) wd;have hk:JC C fn.ntmps (HJ (aM C.sigs i).bH φ (aV (aM C.sigs i).ins x) w) X (fun _ w e st=>match e with
     |.normal=>Ht lf C (aM C.sigs i).bH (aM C.sigs i).outs w st fn.results.toList
     |.ret=>Ht lf C (aM C.sigs i).bH (aM C.sigs i).outs w st fn.results.toList
     |_=>none) (fun S e a wd=>match e with|.normal=>∃yy,S yy/\PR yy a wd|.ret=>∃yy,S yy/\PR yy a wd|_=>False):=by
     have fin:∀(δ:Type) (wr:ai (aM C.sigs i).outs.aN->δ) (st:St) (y':δ),Ht lf C (aM C.sigs i).bH (aM C.sigs i).outs wr st fn.results.toList=some y'->
       Sound C fn.ntmps X (HJ (aM C.sigs i).bH φ (aV (aM C.sigs i).ins x) w) st (fun a wd=>∃yy,wr yy=y'/\PR yy a wd):=by
      intro δ wr st y' hg X' eY a wd hX hR hJ;unfold Ht at hg;split at hg
      ·rename_i vs hx;obtain⟨ps,cc,hp,hw⟩:=Nk hg;obtain⟨hp,hy,he⟩:=YW hp;obtain⟨en,r1,r2⟩:=z7o hC hR _ _ hx;obtain⟨q1,q2⟩:=QU hR.toMRel hp r1;obtain⟨hl,_⟩:=Jw hp;refine⟨cc,hw,hR.defers,we en,?_,en,_,_,rfl,fun b hb=>.inl (hX b hb),q1,q2,⟨hJ.size,hJ.frame,fun b hb=>hJ.news b (hl.lI hb),hJ.still,fun id hi=>(hJ.up id hi).trans (YY hl (YX hp _ (YV hi)) (QV hy id hi) (QW he id hi))⟩⟩;have key:∀(q:Sem (List Value)),q.run C.P wd=.ok en wd->((Functor.map List.toArray q)>>=fun vs=>(pure (if h:vs.size=1 then vs[0] else Value.tuple vs):Sem Value)).run C.P wd=.ok (we en) wd:=by
        intro q hq;rw[Sem.run_bind,Sem.run_map,hq]
        match en with
        |[]=>rfl
        |[v]=>rfl
        |a::b::r=>rfl
       unfold results;rw[Array.mapM_eq_mapM_toList];exact key _ r2
      ·cases hg
     intro δ wr e st y' hg;cases e with
     |normal=>exact fin δ wr st y' hg
     |ret=>exact fin δ wr st y' hg
     |exit id=>cases hg
     |goto l=>cases hg
    have hQ:Au (fun(S:ai (aM C.sigs i).outs.aN->Prop) e a wd=>match e with|.normal=>∃yy,S yy/\PR yy a wd|.ret=>∃yy,S yy/\PR yy a wd|_=>False):=by intro S S' e a wd hs h;cases e<;>first|exact h.elim|exact(let ⟨c,h1,h2⟩:=h;⟨c,hs _ h1,h2⟩)
    have hB:Rel C fn.ntmps X φ ⟨A2 (fun _=>.undef) 0 (fill cH bX (aM C.sigs i).ins x).1,aV (aM C.sigs i).ins x⟩
      {tmps:=zs.toArray++Array.replicate (fn.ntmps-zs.toArray.size) undef,defers:=[]} w:=by
     refine⟨hm,by simp;omega,fun t=>?_,rfl⟩;obtain⟨g1,g2⟩:=Zo (fill cH bX (aM C.sigs i).ins x).1 0 (fun _=>.undef) t;by_cases ht:t<(fill cH bX (aM C.sigs i).ins x).1.length
     ·obtain⟨z,e1,e2⟩:=Ji hz (zg ht);have:=g1 t om _ (zg ht);show aq φ _ _ w (A2 _ 0 _ t) _;rw[this];have e3:(zs.toArray++Array.replicate (fn.ntmps-zs.toArray.size) undef).getD t undef=z:=by
       have hf:t<zs.length:=om
       rw[Array.getD_eq_getD_getElem?,Array.getElem?_append_left (by simpa using hf)];simp[e1]
      rw[e3];exact e2
     ·show aq φ _ _ w (A2 _ 0 _ t) _;rw[g2 (.inr om)];have e3:(zs.toArray++Array.replicate (fn.ntmps-zs.toArray.size) undef).getD t undef=undef:=by
       have hf:zs.length<=t:=om
       rw[Array.getD_eq_getD_getElem?,Array.getElem?_append_right (by simpa using hf)];simp only[Array.getElem?_replicate];split<;>rfl
      exact e3
    have hj:=vm (z2q hC hE HC (HD fn.ntmps _ φ (aV (aM C.sigs i).ins x) w) (qxs ho) hA X _ _ _ _ _ _ y hQ hk hu X φ _ w (fun _ h=>h) hB (dV.refl _ _ _ _));refine wp_mono hj fun e a wd hq=>?_;cases e with
    |normal=>obtain⟨yy,e1,h1,v,h2,h3⟩:=hq;subst e1;exact⟨h1,v,h2,h3⟩
    |ret=>obtain⟨yy,e1,h1,v,h2,h3⟩:=hq;subst e1;exact⟨h1,v,h2,h3⟩
    |_=>exact hq.elim
end
inductive Call (C:Cx):(i:Nat)->ai (aM C.sigs i).ins.aN->ai (aM C.sigs i).outs.aN->Prop where
 |mk (R:iX C.sigs) (h:∀j a b,R j a=some b->Call C j a b) (i:Nat) (x:ai (aM C.sigs i).ins.aN) (y:ai (aM C.sigs i).outs.aN) (e:Hu lf C R i x=some y):Call C i x y
 |lJ (i:Nat) (x:ai (aM C.sigs i).ins.aN) (y:ai (aM C.sigs i).outs.aN) (h:nY C i x y):Call C i x y
def Nq(C:Cx):Prop:=∀R:iX C.sigs,(∀j a b,R j a=some b->nY C j a b)->∀X φ o w,MRel C X φ o w->∀fr f,Bb C R X φ o w fr f
def Zp(C:Cx):Prop:=∀R:iX C.sigs,(∀j a b,R j a=some b->nY C j a b)->∀nt sk eI o0 w0,Q0 C nt R (HJ sk eI o0 w0)
theorem Call.ok{C:Cx}(hC:cD C)(hE:kP C)(hL:Nq C)(hD:Zp C){i:Nat}{x:ai (aM C.sigs i).ins.aN}{y:ai (aM C.sigs i).outs.aN}(h:Call C i x y):nY C i x y:=by
 induction h with
 |mk R h i x y e ih=>exact qo4 hC hE (hL R ih) (hD R ih) e
 |lJ i x y h=>exact h
theorem EO{imm imm':Nat->Prop}{w:World}:∀(t:Ty) (x:den t) (cs:List Value),sW t=false->aA imm w t x cs->aA imm' w t x cs
 |.unit,_,_,_,h=>h
 |.pair a b,x,_,hs,⟨c,d,e,h1,h2⟩=>by simp only[sW,Bool.or_eq_false_iff] at hs;exact⟨c,d,e,EO a x.1 c hs.1 h1,EO b x.2 d hs.2 h2⟩
 |.st p,x,cs,hs,h=>EO p x cs hs h
 |.arr _ e,_,_,hs,⟨h1,h2⟩=>⟨h1,nh (fun x c h=>EO e x c hs h) h2⟩
 |.int _,_,_,_,h=>h
 |.bool,_,_,_,h=>h
 |.fc,_,_,hs,_=>by cases hs
 |.dC,_,_,hs,_=>by cases hs
 |.str,_,_,_,h=>h
 |.sl e,_,_,hs,_=>by cases hs
theorem Q6{imm imm':Nat->Prop}{w:World}(t:Ty)(x:den t)(v:Value)(hs:sW t=false)(h:aT imm w t x v):aT imm' w t x v:=by
 cases t with
 |st p=>obtain⟨cs,h1,h2⟩:=h;exact⟨cs,h1,EO p x _ hs h2⟩
 |arr n e=>obtain⟨cs,h1,h2⟩:=h;exact⟨cs,h1,EO (.arr n e) x _ hs h2⟩
 |unit=>exact h
 |pair a b=>exact h
 |int k=>exact h
 |bool=>exact h
 |fc=>cases hs
 |dC=>cases hs
 |str=>exact h
 |sl e=>cases hs
 |ks e=>cases hs
theorem qy1{imm imm':Nat->Prop}{w:World}{φ:Nat->Addr}{o:Nat->Obj}(ρ κ:Nat->Nat)(s:Sh):IW s=false->∀r c z,aq φ o imm w (kD ρ κ s r c).1 z->aq φ o imm' w (kD ρ κ s r c).1 z:=by
 refine Sh.rec (motive_1:=fun s=>IW s=false->∀r c z,aq φ o imm w (kD ρ κ s r c).1 z->aq φ o imm' w (kD ρ κ s r c).1 z)
  (motive_2:=fun l=>vg l=false->∀r c zs,cd φ o imm w (fG ρ κ l r c).1 zs->cd φ o imm' w (fG ρ κ l r c).1 zs)
  ?_ ?_ ?_ ?_ ?_ ?_ ?_ ?_ ?_ ?_ ?_ ?_ ?_ ?_ ?_ ?_ ?_ ?_ ?_ ?_ s
 ·exact fun t hs r c z h=>Q6 t _ _ hs h
 ·intro i _ r c z h;replace h:aq φ o imm w (.bM (ρ i) (κ i)) z:=h;show aq φ o imm' w (.bM (ρ i) (κ i)) z;unfold aq at h ⊢;exact h
 ·intro i off _ r c z h;replace h:aq φ o imm w (.ptr (ρ i) off) z:=h;show aq φ o imm' w (.ptr (ρ i) off) z;unfold aq at h ⊢;exact h
 ·exact fun t hs r c z h=>by cases hs
 ·exact fun _ r c z h=>h
 ·exact fun f l ih hs r c z ⟨cz,h1,h2⟩=>⟨cz,h1,ih hs _ _ _ h2⟩
 ·exact fun _ r c z h=>h
 ·exact fun l ih hs r c z ⟨cz,h1,h2⟩=>⟨cz,h1,ih hs _ _ _ h2⟩
 ·exact fun l ih hs r c z ⟨cz,h1,h2⟩=>⟨cz,h1,ih hs _ _ _ h2⟩
 ·intro i _ r c z h;replace h:aq φ o imm w (.mp (ρ i)) z:=h;show aq φ o imm' w (.mp (ρ i)) z;unfold aq at h ⊢;exact h
 ·exact fun _ r c z h=>h
 ·exact fun _ r c z h=>h
 ·exact fun _ r c z h=>h
 ·intro i _ r c z h;replace h:aq φ o imm w (.dA (ρ i) c.1) z:=h;show aq φ o imm' w (.dA (ρ i) c.1) z;unfold aq at h ⊢;exact h
 ·intro i _ r c z h;replace h:aq φ o imm w (.jG (ρ i) (κ i) c.1) z:=h;show aq φ o imm' w (.jG (ρ i) (κ i) c.1) z;unfold aq at h ⊢;exact h
 ·intro i _ r c z h;replace h:aq φ o imm w (.it (ρ i)) z:=h;show aq φ o imm' w (.it (ρ i)) z;unfold aq at h ⊢;exact h
 ·exact fun a hs=>by cases hs
 ·exact fun t hs r c z h=>by cases hs
 ·exact fun _ r c z h=>h
 ·intro s l il im hs r c zs ⟨z,zr,e,h1,h2⟩;have hs:(IW s||vg l)=false:=hs;rw[Bool.or_eq_false_iff] at hs;exact⟨z,zr,e,il hs.1 _ _ _ h1,im hs.2 _ _ _ h2⟩
theorem Zq(ρ κ:Nat->Nat)(i:Nat)(s:fW)(r:List Ty)(c:ai (Hg s r)):(fH ρ κ i s r c).2=(fH cH bX i s r c).2:=by
 cases s with
 |box l=>exact Jv ρ κ cH bX l r c
 |vec t=>rfl
 |map k v=>rfl
 |gone=>rfl
 |iter=>rfl
theorem Q7(ρ κ:Nat->Nat):∀(l:List fW) (i:Nat) (r:List Ty) (c:ai (bV l r)) (o1 o2:Nat->Obj),(∀a b,i<=a->a<i+l.length->i<=b->b<i+l.length->ρ a=ρ b->a=b)->(∀j,(j<i\/i+l.length<=j)->ak o1 (gx cH bX i l r c) j=o1 j)/\(∀id,(∀j,i<=j->j<i+l.length->ρ j≠id)->ak o2 (gx ρ κ i l r c) id=o2 id/\id∉bW (gx ρ κ i l r c))/\(∀j,i<=j->j<i+l.length->ρ j∈bW (gx ρ κ i l r c))
 |[],i,r,c,o1,o2,_=>⟨fun _ _=>rfl,fun _ _=>⟨rfl,(fun h=>by cases h)⟩,fun j h1 h2=>absurd h2 (by simp;omega)⟩
 |s::l,i,r,c,o1,o2,cP=>by
  have e2:=Zq ρ κ i s (bV l r) c;simp only[zj] at cP;obtain⟨a2,a3,a4⟩:=Q7 ρ κ l (i+1) r (fH cH bX i s (bV l r) c).2 (cu o1 i (fH cH bX i s (bV l r) c).1) (cu o2 (ρ i) (fH ρ κ i s (bV l r) c).1)
   (fun a b h1 h2 h3 h4 e=>cP a b om om om om e)
  have f1:∀j,ak o1 (gx cH bX i (s::l) r c) j=ak (cu o1 i (fH cH bX i s (bV l r) c).1) (gx cH bX (i+1) l r (fH cH bX i s (bV l r) c).2) j:=fun _=>rfl;have f2:∀id,ak o2 (gx ρ κ i (s::l) r c) id=ak (cu o2 (ρ i) (fH ρ κ i s (bV l r) c).1) (gx ρ κ (i+1) l r (fH cH bX i s (bV l r) c).2) id:=fun id=>(congrArg (fun q=>ak (cu o2 (ρ i) (fH ρ κ i s (bV l r) c).1) (gx ρ κ (i+1) l r q) id) e2);have f3:bW (gx ρ κ i (s::l) r c)=ρ i::bW (gx ρ κ (i+1) l r (fH cH bX i s (bV l r) c).2):=congrArg (fun q=>ρ i::bW (gx ρ κ (i+1) l r q)) e2;refine⟨fun j hj=>?_,fun id hc=>?_,fun j h1 h2=>?_⟩
  ·rw[f1];simp only[zj] at hj;rw[a2 j om,iI om]
  ·rw[f2,f3];simp only[zj] at hc;obtain⟨b1,b2⟩:=a3 id (fun q h1 h2=>hc q om om);have he:id≠ρ i:=fun e=>hc i (Nat.le_refl _) om e.symm;exact⟨by rw[b1,iI he],fun h=>by
    rcases zw.1 h with h|h
    ·exact he h
    ·exact b2 h⟩
  ·rw[f3];simp only[zj] at h2;by_cases hf:j=i
   ·subst hf;exact zf ..
   ·exact zh _ (a4 j om om)
theorem Zr(ρ κ:Nat->Nat):∀(l:List fW) (i:Nat) (r:List Ty) (c:ai (bV l r)) (j:Nat),i<=j->j<i+l.length->∃p,p∈gx ρ κ i l r c/\p.1=ρ j
 |[],i,r,c,j,h1,h2=>absurd h2 (by simp;omega)
 |s::l,i,r,c,j,h1,h2=>by
  by_cases hj:j=i
  ·subst hj;exact⟨_,zf ..,rfl⟩
  ·simp only[zj] at h2;obtain⟨p,h3,h4⟩:=Zr ρ κ l (i+1) r (fH ρ κ i s (bV l r) c).2 j om om;exact⟨p,zh _ h3,h4⟩
theorem Zs(ρ κ:Nat->Nat):∀(l:List fW) (i:Nat) (r:List Ty) (c:ai (bV l r)) (o1 o2:Nat->Obj),(∀a b,i<=a->a<i+l.length->i<=b->b<i+l.length->ρ a=ρ b->a=b)->∀j sh,i<=j->l[j-i]?=some sh->∃r' c',ak o1 (gx cH bX i l r c) j=(fH cH bX j sh r' c').1/\ak o2 (gx ρ κ i l r c) (ρ j)=(fH ρ κ j sh r' c').1
 |[],i,r,c,o1,o2,_=>fun j sh _ h=>by simp at h
 |s::l,i,r,c,o1,o2,cP=>by
  intro j sh h1 h2;have e2:=Zq ρ κ i s (bV l r) c;simp only[zj] at cP;have JE:∀a b,i+1<=a->a<i+1+l.length->i+1<=b->b<i+1+l.length->ρ a=ρ b->a=b:=fun a b h1 h2 h3 h4 e=>cP a b om om om om e;obtain⟨a2,a3,_⟩:=Q7 ρ κ l (i+1) r (fH cH bX i s (bV l r) c).2 (cu o1 i (fH cH bX i s (bV l r) c).1) (cu o2 (ρ i) (fH ρ κ i s (bV l r) c).1) JE;have f1:∀j,ak o1 (gx cH bX i (s::l) r c) j=ak (cu o1 i (fH cH bX i s (bV l r) c).1) (gx cH bX (i+1) l r (fH cH bX i s (bV l r) c).2) j:=fun _=>rfl;have f2:∀id,ak o2 (gx ρ κ i (s::l) r c) id=ak (cu o2 (ρ i) (fH ρ κ i s (bV l r) c).1) (gx ρ κ (i+1) l r (fH cH bX i s (bV l r) c).2) id:=fun id=>(congrArg (fun q=>ak (cu o2 (ρ i) (fH ρ κ i s (bV l r) c).1) (gx ρ κ (i+1) l r q) id) e2);by_cases hc:j=i
  ·subst hc;rw[Nat.sub_self] at h2;simp only[List.getElem?_cons_zero,zE] at h2;subst h2;refine⟨bV l r,c,?_,?_⟩
   ·rw[f1,a2 j (.inl om),eH]
   ·rw[f2,(a3 (ρ j) (fun q hq he e=>by have:=cP q j om om om om e;omega)).1,eH]
  ·rw[show j-i=(j-(i+1))+1 by omega] at h2;obtain⟨r',c',g1,g2⟩:=Zs ρ κ l (i+1) r (fH cH bX i s (bV l r) c).2 (cu o1 i (fH cH bX i s (bV l r) c).1) (cu o2 (ρ i) (fH ρ κ i s (bV l r) c).1) JE j sh om (by simpa using h2);exact⟨r',c',by rw[f1];exact g1,by rw[f2];exact g2⟩
theorem Zt{imm imm':Nat->Prop}{w:World}{φ:Nat->Addr}{o:Nat->Obj}(ρ κ:Nat->Nat):∀(l:List Sh),vg l=false->∀r c zs,cd φ o imm w (fG ρ κ l r c).1 zs->cd φ o imm' w (fG ρ κ l r c).1 zs
 |[],_,_,_,_,h=>h
 |s::l,hs,r,c,zs,⟨z,zr,e,h1,h2⟩=>by have hs:(IW s||vg l)=false:=hs;rw[Bool.or_eq_false_iff] at hs;exact⟨z,zr,e,qy1 ρ κ s hs.1 _ _ _ h1,Zt ρ κ l hs.2 _ _ _ h2⟩
theorem Zu:∀{l:List fW},qY l=false->∀(j:Nat) (sh:fW),l[j]?=some sh->qY [sh]=false
 |[],_,j,sh,h=>by simp at h
 |s::l,hs,j,sh,h=>by
  cases j with
  |zero=>simp only[List.getElem?_cons_zero,zE] at h;subst h;cases s<;>simp only[qY,Bool.or_eq_false_iff] at hs ⊢<;>first|exact⟨hs.1,trivial⟩|rfl|trivial
  |succ j=>refine Zu (l:=l) ?_ j sh (by simpa using h);cases s<;>simp only[qY,Bool.or_eq_false_iff] at hs<;>first|exact hs.2|exact hs
theorem Zv{bH:List Nat}:∀(k i:Nat) (l:List fW),Ad bH k i l=true->k<=l.length/\∀j,j<k->(l[j]?=some .gone/\bJ (i+j) bH=false)\/(l[j]?≠some .gone/\bJ (i+j) bH=true)
 |0,i,l,_=>⟨Nat.zero_le _,fun j h=>absurd h om⟩
 |k+1,i,l,h=>by
  cases l with
  |nil=>cases h
  |cons s l=>
   have both:Ad bH k (i+1) l=true/\((s=.gone/\bJ i bH=false)\/(s≠.gone/\bJ i bH=true)):=by
    cases s with
    |gone=>
     simp only[Ad,ze] at h;refine⟨h.2,.inl ⟨rfl,?_⟩⟩;cases hb:bJ i bH with
     |false=>rfl
     |true=>exact absurd (iu.1 hb) (Qw h.1)
    |box cs=>simp only[Ad,ze] at h;exact⟨h.2,.inr ⟨by simp,h.1⟩⟩
    |vec t=>simp only[Ad,ze] at h;exact⟨h.2,.inr ⟨by simp,h.1⟩⟩
    |map kt vt=>simp only[Ad,ze] at h;exact⟨h.2,.inr ⟨by simp,h.1⟩⟩
    |iter=>simp only[Ad,ze] at h;exact⟨h.2,.inr ⟨by simp,h.1⟩⟩
   obtain⟨h1,h2⟩:=Zv k (i+1) l both.1;refine⟨by simp;omega,fun j hj=>?_⟩;cases j with
   |zero=>simpa using both.2
   |succ j=>have:=h2 j om;rw[show i+1+j=i+(j+1) by omega] at this;simpa using this
theorem Zw{ps:PS}:∀{l:List Nat},Mq ps l=true->∀i,i∈l->ig ((ig i ps.aL).getD 0) ps.cut=none
 |b::r,h,i,hi=>by
  simp only[Mq,ze] at h;rcases zw.1 hi with rfl|hi
  ·exact Na h.1
  ·exact Zw h.2 i hi
theorem Zx{o:Nat->Obj}{aL:List (Nat×Nat)}:∀(k:Nat),Mp o aL k=true->∀j,j<k->∃cC,ig j aL=some cC/\o cC≠.none
 |0,_,j,h=>absurd h om
 |k+1,h,j,hj=>by
  simp only[Mp,ze] at h;by_cases e:j=k
  ·subst e;have h1:=h.1;split at h1
   ·rename_i cC ho;refine⟨cC,ho,fun e=>?_⟩;rw[e] at h1;cases h1
   ·cases h1
  ·exact Zx k h.2 j om
theorem Zy{o:Nat->Obj}:∀{l:List Nat},Mo o l=true->∀id,id∈l->(∀cs,o id≠.box cs)/\(∀k v m,o id≠.map k v m)/\(∀s p,o id≠.iter s p)
 |b::r,h,id,hi=>by
  simp only[Mo,ze] at h;rcases zw.1 hi with hi|hi
  ·subst hi;have h1:=h.1;exact⟨fun cs e=>(by rw[e] at h1;cases h1),(fun k v m e=>(by rw[e] at h1;cases h1)),fun s p e=>(by rw[e] at h1;cases h1)⟩
  ·exact Zy h.2 id hi
theorem Q8{C:Cx}{R:iX C.sigs}{o:Nat->Obj}{fr f:Nat}{vs:List V}{v:V}{u:List (Nat×Obj)}:∀(l:List lr) (i:Nat),(Af lf C R o fr f vs l i).aE v u->∃i ps c y,(aM C.sigs i).f=f/\pack lf o [] (aM C.sigs i).ins vs=some (ps,c)/\Mr o ps (aM C.sigs i).ins.ay.length (aM C.sigs i).outs (aM C.sigs i).bH=true/\R i c=some y/\v=vU (fill (Ae ps.aL (aM C.sigs i).ins.ay.length fr) (AY o ps.aL (aM C.sigs i).ins.ay.length (aM C.sigs i).bH) (aM C.sigs i).outs y).1/\u=(bif lu (aM C.sigs i).outs then eu o ps.cg else [])++(fill (Ae ps.aL (aM C.sigs i).ins.ay.length fr) (AY o ps.aL (aM C.sigs i).ins.ay.length (aM C.sigs i).bH) (aM C.sigs i).outs y).2
 |[],i,h=>h.elim
 |s::r,i,h=>by
  unfold Af at h;cases hb:Nat.beq s.f f with
  |false=>rw[hb] at h;exact Q8 r (i+1) h
  |true=>
   rw[hb,cond_true] at h;split at h
   ·rename_i ps c hp;rw[dU,mj,ze] at h;obtain⟨⟨h1,h2⟩,y,h3,h4⟩:=h;simp only[Prod.mk.injEq] at h4;exact⟨i,ps,c,y,zm h1,hp,h2,h3,h4.1.symm,h4.2.symm⟩
   ·exact Q8 r (i+1) h
theorem qv6{φ:Nat->Addr}{o:Nat->Obj}{imm:Nat->Prop}{w:World}{vs:List V}{zs:List Value}(h:cd φ o imm w vs zs):aq φ o imm w (vU vs) (we zs):=by
 match vs,zs,h with
 |[],zs,h=>have h:zs=[]:=h;subst h;exact⟨#[],rfl,rfl⟩
 |[v],zs,⟨z,r,e,h1,h2⟩=>have h2:r=[]:=h2;subst e h2;exact h1
 |v::v'::vs,zs,⟨z,r,e,h1,z',r',e',h2,h3⟩=>subst e e';exact⟨(z::z'::r').toArray,rfl,z,z'::r',by simp,h1,z',r',rfl,h2,h3⟩
def ofk:Obj->Prop
 |.none=>False
 |_=>True
theorem Q9{o:Nat->Obj}{id:Nat}:∀{ks:List Nat},id∈bW (eu o ks)->id∈ks
 |[],h=>by cases h
 |q::r,h=>by
  simp only[eu] at h;split at h
  ·rcases zw.1 h with h|h
   ·exact h▸zf ..
   ·exact zh _ (Q9 h)
  ·exact zh _ (Q9 h)
theorem za2{C:Cx}{X X1:Nat->Prop}{φ nq:Nat->Addr}{o HY:Nat->Obj}{w w':World}{ps:PS}{fr:Nat}{ins outs:Shape}{y:ai outs.aN}{en:List Value}{bH:List Nat}(hm:MRel C X φ o w)(hw:bS o ps ins.ay.length ins.ay HY)(hL:Mr o ps ins.ay.length outs bH=true)(hf:kO fr o ((bif lu outs then eu o ps.cg else [])++(fill (Ae ps.aL ins.ay.length fr) (AY o ps.aL ins.ay.length bH) outs y).2))(hX:∀b,XC X φ o HY ps b->X1 b)(M1:MRel C X1 nq (aV outs y) w')(rv:cd nq (aV outs y) (ah X1 nq (aV outs y) w') w' (fill cH bX outs y).1 en)(H:dV bH (ft φ ps) HY w nq (aV outs y) w'):∃gN,Comes C X φ gN o ((bif lu outs then eu o ps.cg else [])++(fill (Ae ps.aL ins.ay.length fr) (AY o ps.aL ins.ay.length bH) outs y).2) w w' (vU (fill (Ae ps.aL ins.ay.length fr) (AY o ps.aL ins.ay.length bH) outs y).1) (we en):=by
 generalize hk:ins.ay.length=k at*
 generalize cP:Ae ps.aL k fr=ρ at*
 generalize hκ:AY o ps.aL k bH=κ at*
 unfold Mr at hL;simp only[ze] at hL;obtain⟨⟨⟨⟨hB,ht⟩,hC⟩,hG⟩,hH⟩:=hL;have hH:=zB hH;obtain⟨h6,ht⟩:=Zv _ _ _ ht;simp only[zD] at ht;have tied:∀j,j<k->(j,ρ j)∈ps.aL/\o (ρ j)≠.none:=fun j hj=>by
  obtain⟨cC,h1,h2⟩:=Zx k hG j hj;have:ρ j=cC:=by
   rw[<-cP];unfold Ae;have hb:Nat.blt j k=true:=by rw[Nat.blt_eq];exact hj
   rw[hb,h1];rfl
  rw[this];exact⟨EI h1,h2⟩
 have fresh:∀j,k<=j->ρ j=fr+(j-k):=fun j hj=>by
  rw[<-cP];unfold Ae;have hb:Nat.blt j k=false:=by
   cases e:Nat.blt j k with
   |false=>rfl
   |true=>rw[Nat.blt_eq] at e;omega
  rw[hb];rfl
 have s9:∀j,k<=j->j<outs.ay.length->o (ρ j)=.none:=fun j h1 h2=>by obtain⟨p,h3,h4⟩:=Zr ρ κ outs.ay 0 [] (fG ρ κ outs.roots (bV outs.ay []) y).2 j (Nat.zero_le _) om;have:=hf p (List.mem_append_right _ h3);rw[h4,fresh j h1] at this;rw[fresh j h1];exact this om om
 have inj:∀a b,0<=a->a<0+outs.ay.length->0<=b->b<0+outs.ay.length->ρ a=ρ b->a=b:=fun a b _ h1 _ h2 e=>by
  by_cases ha:a<k<;>by_cases hb:b<k
  ·have r1:=(hw.aL (tied a ha).1).2.2;have r2:=(hw.aL (tied b hb).1).2.2;rw[e,r2] at r1;injection r1 with r1;exact r1.symm
  ·exact absurd (e▸s9 b om om) (tied a ha).2
  ·exact absurd (e.symm▸s9 a om om) (tied b hb).2
  ·rw[fresh a om,fresh b om] at e;omega
 have hF:Comes C X φ φ o (bif lu outs then eu o ps.cg else []) w w .undef undef:=by
  cases lu outs with
  |true=>exact Je hm ps.cg
  |false=>exact .same hm rfl
 generalize hz:ak o (bif lu outs then eu o ps.cg else [])=of;have Mf:MRel C X φ of w:=hz▸hF.mem;have Zz:∀id,(of id=o id)\/(∃t ver fz s,o id=.vec t ver fz s/\of id=.vec t ver true s):=fun id=>by
  rw[<-hz];cases lu outs with
  |true=>exact(Dj (o:=o) ps.cg id).imp (fun h=>h.1) (fun h=>h)
  |false=>exact .inl rfl
 have Ra:∀id,aP (φ id) (of id)=true->of id=o id/\aP (φ id) (o id)=true:=fun id hx=>by
  rcases Zz id with h|⟨t,ver,fz,s,h1,h2⟩
  ·exact⟨h,h▸hx⟩
  ·rw[h2] at hx;have:=(A4 hx).2.1;simp at this
 have ZA:∀id,of id=.none↔o id=.none:=fun id=>by
  rcases Zz id with h|⟨t,ver,fz,s,h1,h2⟩
  ·rw[h]
  ·rw[h1,h2];simp
 have ofl:∀id,id∉ps.cg->of id=o id:=fun id hi=>by
  rw[<-hz];cases lu outs with
  |false=>rfl
  |true=>show ak o (eu o ps.cg) id=o id;exact iq fun hk=>hi (Q9 hk)
 have JF:∀id,id∈ps.cg->aP (φ id) (of id)=true->lu outs=false:=fun id hi hx=>by
  cases ha:lu outs with
  |false=>rfl
  |true=>
   exfalso;rw[ha] at hC hz;simp only[Bool.not_true,Bool.or_false] at hC;obtain⟨b1,b2,b3⟩:=Zy hC id hi;have hz:ak o (eu o ps.cg)=of:=hz;obtain⟨e1,e2⟩:=Ra id hx;cases he:o id with
   |box cs=>exact b1 cs he
   |map k v m=>exact b2 k v m he
   |iter s p=>exact b3 s p he
   |dead=>rw[he] at e2;simp[aP,Ev.live] at e2
   |none=>rw[he] at e2;exact lz e2
   |vec t ver fz s=>have hM:=P8 hi he;obtain⟨t',aC,fz',s',_,h2⟩:=Aj hM;rw[<-hz,h2 o] at hx;have:=(A4 hx).2.1;simp at this
 have hY:(fill ρ κ outs y).2=gx ρ κ 0 outs.ay [] (fG cH bX outs.roots (bV outs.ay []) y).2:=congrArg (fun q=>gx ρ κ 0 outs.ay [] q) (Jv ρ κ cH bX outs.roots (bV outs.ay []) y);have each:=Zs ρ κ outs.ay 0 [] (fG cH bX outs.roots (bV outs.ay []) y).2 (fun _=>.none) of inj;obtain⟨c2,c3,c4⟩:=Q7 ρ κ outs.ay 0 [] (fG cH bX outs.roots (bV outs.ay []) y).2 (fun _=>.none) of inj;rw[<-hY] at each c3 c4;have hN:aV outs y=ak (fun _=>.none) (gx cH bX 0 outs.ay [] (fG cH bX outs.roots (bV outs.ay []) y).2):=rfl;rw[<-hN] at each c2;generalize hO:aV outs y=oc at*
 generalize hu:(fill ρ κ outs y).2=u1 at*
 have Av:∀j,j<outs.ay.length->∃sh r' c',outs.ay[j]?=some sh/\oc j=(fH cH bX j sh r' c').1/\ak of u1 (ρ j)=(fH ρ κ j sh r' c').1:=fun j hj=>by obtain⟨r',c',h1,h2⟩:=each j outs.ay[j] (Nat.zero_le _) (by rw[Nat.sub_zero];exact zg hj);exact⟨_,r',c',zg hj,h1,h2⟩
 have dead:∀j,j<k->bJ j bH=false->oc j=.dead/\ak of u1 (ρ j)=.dead:=fun j hj hn=>by
  obtain⟨sh,r',c',h1,h2,h3⟩:=Av j om;rcases ht j hj with ⟨g1,_⟩|⟨_,g2⟩
  ·rw[g1] at h1;injection h1 with h1;subst h1;exact⟨h2,h3⟩
  ·rw[hn] at g2;cases g2
 have live:∀j,j<k->bJ j bH=true->oc j≠.dead/\ofk (of (ρ j))/\of (ρ j)=o (ρ j)/\ft φ ps j=φ (ρ j)/\nq j=φ (ρ j)/\∀a',a'=φ (ρ j)->Up w w' (φ (ρ j)) a' (o (ρ j)) (ak of u1 (ρ j)):=fun j hj hn=>by
  obtain⟨sh,r',c',h1,h2,h3⟩:=Av j om;have hA:sh≠.gone:=fun e=>by
   subst e;rcases ht j hj with ⟨_,g2⟩|⟨g1,_⟩
   ·rw[hn] at g2;cases g2
   ·exact g1 h1
  have hR:oc j≠.dead:=by rw[h2];cases sh<;>simp[fH] at hA ⊢
  have hZ:of (ρ j)=o (ρ j):=ofl _ (hw.cg (tied j hj).1);have hc:=H.up j (iu.1 hn);have hS:(ig j ps.aL).getD 0=ρ j:=(hw.aL (tied j hj).1).2.1;have hP:ig (ρ j) ps.cut=none:=by rw[<-hS];exact Zw hB j (iu.1 hn)
  have Rb:κ j=W8 (o (ρ j)):=by
   rw[<-hκ];unfold AY;have hb:(Nat.blt j k&&bJ j bH)=true:=by rw[hn,Bool.and_true,Nat.blt_eq];exact hj
   rw[hb,cond_true,hS]
  refine⟨hR,?_⟩;rw[hZ];rcases Aq (φ:=φ) hw (tied j hj).1 with hd|⟨⟨cs,km,e1,e2⟩|⟨t',ver,s,e1,e2⟩|⟨kt,vt,m,e1,e2⟩|⟨_,_,e1,e2⟩,dJ⟩
  ·rw[hd] at hc;exfalso;cases hO:oc j<;>rw[hO] at hc<;>first|exact hc.elim|exact hR hO
  ·rw[e2] at hc;refine⟨by rw[e1];trivial,rfl,dJ,?_⟩;rw[h2] at hc;cases sh<;>first|exact hc.elim|exact(hA rfl).elim|skip
   have hc:nq j=ft φ ps j:=hc;refine⟨hc.trans dJ,fun a' ha=>?_⟩;rw[e1,h3,ha];exact rfl
  ·rw[e2,hP] at hc;refine⟨by rw[e1];trivial,rfl,dJ,?_⟩;rw[h2] at hc;cases sh<;>first|exact hc.elim|exact(hA rfl).elim|skip
   rcases hc with hc|⟨_,u2,u3,u4,u5,u6⟩
   ·exact absurd hc (Nat.lt_irrefl 0)
   ·subst u2;refine⟨u5.trans dJ,fun a' ha=>?_⟩;rw[e1,h3,ha];refine .inr ⟨?_,rfl,u3,u4,rfl,fun _=>⟨rfl,fun hn hs n hr=>?_⟩⟩
    ·rw[Rb,e1];rfl
    ·have:=(u6 rfl).2 hn (by rw[dJ];exact hs) n (by rw[dJ];exact hr);rw[dJ] at this;exact this
  ·rw[e2] at hc;refine⟨by rw[e1];trivial,rfl,dJ,?_⟩;rw[h2] at hc;cases sh<;>first|exact hc.elim|exact(hA rfl).elim|skip
   have hc:nq j=ft φ ps j:=hc;refine⟨hc.trans dJ,fun a' ha=>?_⟩;rw[e1,h3,ha];exact rfl
  ·rw[e2] at hc;refine⟨by rw[e1];trivial,rfl,dJ,?_⟩;rw[h2] at hc;cases sh<;>first|exact hc.elim|exact(hA rfl).elim|skip
   have hc:nq j=ft φ ps j:=hc;refine⟨hc.trans dJ,fun a' ha=>?_⟩;rw[e1,h3,ha];exact rfl
 have EP:∀j a,j<outs.ay.length->aP a (ak of u1 (ρ j))=aP a (oc j):=fun j a hj=>by obtain⟨sh,r',c',h1,h2,h3⟩:=Av j hj;rw[h2,h3];cases sh<;>rfl
 have kept:∀id,(∀j,j<outs.ay.length->ρ j≠id)->ak of u1 id=of id/\id∉bW u1:=fun id h=>c3 id fun j _ hj=>h j om;have split:∀id,(∃j,j<outs.ay.length/\ρ j=id)\/(∀j,j<outs.ay.length->ρ j≠id):=fun id=>by
  by_cases h:∃j,j<outs.ay.length/\ρ j=id
  ·exact .inl h
  ·exact .inr fun j hj e=>h ⟨j,hj,e⟩
 have hD:∀j a,aP a (oc j)=true->j<outs.ay.length/\(k<=j\/bJ j bH=true):=fun j a hx=>by
  have h1:j<outs.ay.length:=zA fun h=>by rw[c2 j (.inr om)] at hx;exact lz hx
  refine⟨h1,?_⟩;cases hn:bJ j bH with
  |true=>exact .inr rfl
  |false=>refine .inl (zA fun h=>?_);rw[(dead j om hn).1] at hx;simp[aP,Ev.live] at hx
 generalize dJ:(fun id=>bif (Nat.ble fr id&&Nat.blt id (fr+(outs.ay.length-k))) then nq (id-fr+k) else φ id)=eY;have pN0:∀j,k<=j->j<outs.ay.length->eY (ρ j)=nq j:=fun j h1 h2=>by
  rw[<-dJ];simp only;rw[fresh j h1];have hb:(Nat.ble fr (fr+(j-k))&&Nat.blt (fr+(j-k)) (fr+(outs.ay.length-k)))=true:=by rw[ze,Nat.ble_eq,Nat.blt_eq];omega
  rw[hb,cond_true];congr 1;omega
 have pO:∀id,of id≠.none->eY id=φ id:=fun id hn=>by
  rw[<-dJ];simp only;have hb:(Nat.ble fr id&&Nat.blt id (fr+(outs.ay.length-k)))=false:=by
   cases e:(Nat.ble fr id&&Nat.blt id (fr+(outs.ay.length-k))) with
   |false=>rfl
   |true=>rw[ze,Nat.ble_eq,Nat.blt_eq] at e;have:=s9 (k+(id-fr)) om om;rw[fresh _ om,show fr+(k+(id-fr)-k)=id by omega] at this;exact absurd ((ZA id).2 this) hn
  rw[hb,cond_false]
 have pN:∀j,(k<=j\/bJ j bH=true)->j<outs.ay.length->eY (ρ j)=nq j:=fun j h1 h2=>by
  by_cases hv:k<=j
  ·exact pN0 j hv h2
  ·have hn:=h1.resolve_left hv;obtain⟨_,l2,_,_,l5,_⟩:=live j om hn;rw[pO _ (fun e=>by rw[e] at l2;exact l2),l5]
 have JG:∀b,mw (ft φ ps) HY b->∃i,i<k/\aP (φ (ρ i)) (of (ρ i))=true/\(φ (ρ i)).block=b:=fun b ⟨i,h1,h2⟩=>by
  obtain⟨hE,g1,g2⟩:=hw.EJ h1;have hT:tV ps i=ρ i:=(hw.aL (tied i hE).1).2.1;refine⟨i,hE,?_,by rw[<-hT];exact h2⟩;rw[<-hT];have h0:=hw.cg g1;rw[<-hz];cases ha:lu outs with
  |false=>exact g2
  |true=>
   show aP (φ (tV ps i)) (ak o (eu o ps.cg) (tV ps i))=true;rw[iq]
   ·exact g2
   ·intro hk;have key:∀ks:List Nat,tV ps i∈bW (eu o ks)->tV ps i∈ks:=by
     intro ks
     induction ks with
     |nil=>intro h;cases h
     |cons q r ih=>
      intro h;simp only[eu] at h;split at h
      ·rcases zw.1 h with h|h
       ·exact h▸zf ..
       ·exact zh _ (ih h)
      ·exact zh _ (ih h)
    exact h0 (key _ hk)
 have JH:∀b,mw (ft φ ps) HY b->mw φ of b:=fun b hb=>by obtain⟨i,_,h1,h2⟩:=JG b hb;exact⟨ρ i,h1,h2⟩
 have free:∀id,(∀j,j<outs.ay.length->ρ j≠id)->aP (φ id) (of id)=true->¬mw (ft φ ps) HY (φ id).block:=fun id hI hx ⟨i,h1,h2⟩=>by obtain⟨hE,g1,g2⟩:=hw.EJ h1;have:=hm.inj _ _ g2 (Ra id hx).2 h2;have hr:=(hw.aL (tied i hE).1).2.1;exact hI i om (hr.symm.trans this)
 have wg:∀id,(∀j,j<outs.ay.length->ρ j≠id)->aP (φ id) (of id)=true->w'.heap[(φ id).block]?=w.heap[(φ id).block]?:=fun id hI hx=>H.frame _ (Mf.sep id hx).1 (free id hI hx);have JI:∀id,(∀j,j<outs.ay.length->ρ j≠id)->aP (φ id) (of id)=true->X1 (φ id).block\/lu outs=false:=fun id hI hx=>by
  by_cases hl:id∈ps.cg
  ·exact .inr (JF id hl hx)
  ·refine .inl (hX _ (.inr ⟨id,(Ra id hx).2,rfl,hl,fun⟨i,h1,h2⟩=>?_⟩));exact free id hI hx ⟨i,h1,by unfold ft;rw[h2]⟩
 have stays:∀b,ah X φ of w b->w'.heap[b]?=w.heap[b]?:=fun b hb=>H.frame b hb.1 fun h=>hb.2.2 (JH b h);have news:∀id,aP (eY id) (ak of u1 id)=true->w.heap.size<=(eY id).block\/mw φ of (eY id).block:=fun id hx=>by
  rcases split id with ⟨j,hj,rfl⟩|h
  ·rw[EP j _ hj] at hx;rw[pN j (hD j _ hx).2 hj] at hx ⊢;exact(H.news _ ⟨j,hx,rfl⟩).imp (fun h=>h) (JH _)
  ·rw[(kept id h).1] at hx;have hq:of id≠.none:=fun e=>by rw[e] at hx;exact lz hx
   rw[pO id hq] at hx ⊢;exact .inr ⟨id,hx,rfl⟩
 have imm:∀b,ah X φ of w b->ah X eY (ak of u1) w' b:=fun b ⟨h1,h2,h3⟩=>⟨Nat.lt_of_lt_of_le h1 H.size,h2,fun⟨id,e1,e2⟩=>by
  rcases news id e1 with h|h
  ·omega
  ·exact h3 (e2▸h)⟩
 have Bf:lu outs=true->∀b,ah X1 nq oc w' b->ah X eY (ak of u1) w' b:=fun ha b ⟨h1,h2,h3⟩=>⟨h1,fun hx=>h2 (hX b (.inl hx)),fun⟨id,e1,e2⟩=>by
  rcases split id with ⟨j,hj,rfl⟩|h
  ·rw[EP j _ hj] at e1;rw[pN j (hD j _ e1).2 hj] at e2 e1;exact h3 ⟨j,e1,e2⟩
  ·rw[(kept id h).1] at e1;have hq:of id≠.none:=fun e=>by rw[e] at e1;exact lz e1
   rw[pO id hq] at e2 e1;rcases JI id h e1 with h4|h4
   ·exact h2 (e2▸h4)
   ·rw[ha] at h4;cases h4⟩
 have Di:∀id,Up w w' (φ id) (eY id) (of id) (ak of u1 id):=fun id=>by
  rcases split id with ⟨j,hj,rfl⟩|h
  ·by_cases hv:j<k
   ·cases hn:bJ j bH with
    |false=>rw[(dead j hv hn).2];cases of (ρ j)<;>trivial
    |true=>
     obtain⟨_,l2,l3,_,l5,l6⟩:=live j hv hn;have:=l6 (eY (ρ j)) ((pN j (.inr hn) hj).trans l5)
     rwa [<-l3] at this
   ·rw[(ZA _).2 (s9 j om hj)];trivial
  ·rw[(kept id h).1];by_cases hq:of id=.none
   ·rw[hq];trivial
   ·rw[pO id hq];exact Up.same fun hx n hr=>A5 (wg id h hx) hr
 have keeps:∀x z,aq φ of (ah X φ of w) w x z->aq eY (ak of u1) (ah X eY (ak of u1) w') w' x z:=fun x z hx=>vj imm stays Di x z hx;have lk:∀i,Ng (κ i) (oc i) (ak of u1 (ρ i)):=fun i=>by
  by_cases hi:i<outs.ay.length
  ·obtain⟨sh,r',c',h1,h2,h3⟩:=Av i hi;rw[h2,h3];cases sh<;>first|trivial|exact⟨rfl,rfl⟩
  ·rw[c2 i (.inr om)];trivial
 have pk:∀i,oc i≠.none->oc i=.dead\/eY (ρ i)=nq i:=fun i hn=>by
  have hi:i<outs.ay.length:=zA fun h=>hn (c2 i (.inr om));cases hU:bJ i bH with
  |true=>exact .inr (pN i (.inr hU) hi)
  |false=>
   by_cases hE:i<k
   ·exact .inl (dead i hE hU).1
   ·exact .inr (pN i (.inl om) hi)
 have pk':∀i,oc i≠.none->oc i≠.dead->eY (ρ i)=nq i:=fun i h1 h2=>(pk i h1).resolve_left h2;have ER:lu outs=true->∀x z,aq eY (ak of u1) (ah X1 nq oc w') w' x z->aq eY (ak of u1) (ah X eY (ak of u1) w') w' x z:=fun ha x z hx=>vj (Bf ha) (fun _ _=>rfl) (fun _=>Up.same fun _ _ h=>h) x z hx;have hV:lu outs=false->vg outs.roots=false/\qY outs.ay=false:=fun h=>by unfold lu at h;rwa [Bool.or_eq_false_iff] at h
 have lists:∀(l:List Sh) (r:List Ty) (c:ai (iH l r)) (zs:List Value),(lu outs=false->vg l=false)->cd nq oc (ah X1 nq oc w') w' (fG cH bX l r c).1 zs->
   cd eY (ak of u1) (ah X eY (ak of u1) w') w' (fG ρ κ l r c).1 zs:=fun l r c zs hl h=>by
  have h2:=Nh (φ':=eY) lk pk' l r c zs h;cases ha:lu outs with
  |true=>exact Eu (ER ha) _ _ h2
  |false=>exact Zt ρ κ l (hl ha) r c zs h2
 have main:Comes C X φ eY of u1 w w' (vU (fill ρ κ outs y).1) (we en):=by
  refine⟨⟨fun id=>?_,fun i j hi hj e=>?_,fun i hi=>?_,fun b hb=>Nat.lt_of_lt_of_le (Mf.xs b hb) H.size,fun id=>?_,fun g t x hg=>keeps _ _ (Mf.fk g t x hg),Mf.ni stays⟩,?_,Di,H.size,fun b hb hh=>?_,fun id hn hk=>pO id hn,news,H.still⟩
  ·rcases split id with ⟨j,hj,rfl⟩|h
   ·by_cases hv:j<k/\bJ j bH=false
    ·rw[(dead j hv.1 hv.2).2];trivial
    ·have hJ:=M1.ay j;obtain⟨sh,r',c',h1,h2,h3⟩:=Av j hj;have rn:=pN j (by
      cases hn:bJ j bH with
      |true=>exact .inr rfl
      |false=>exact .inl (zA fun h=>hv ⟨by omega,hn⟩)) hj
     rw[h2] at hJ;rw[h3];have hA:lu outs=false->qY [sh]=false:=fun ha=>Zu (hV ha).2 j sh h1;cases sh with
     |gone=>trivial
     |box l=>obtain⟨b1,cz,el,lo,hy,b2,b3,b4⟩:=hJ;refine⟨by rw[rn];exact b1,cz,el,lo,hy,by rw[rn];exact b2,b3,lists l r' c' _ (fun ha=>?_) b4⟩;have:=hA ha;simpa[qY] using this
     |vec t=>
      obtain⟨b1,b2,b3⟩:=hJ;refine⟨b1,b2,fun hn=>?_⟩;rw[rn];refine(b3 hn).imp (fun⟨b4,ec,b5,b6,b7,b8,b9⟩=>?_) fun g=>g;refine⟨b4,ec,?_,b6,b7,b8,fun h=>by cases h⟩;cases ha:lu outs with
      |true=>exact nh (gX (Bf ha) (fun _ _=>rfl) t) b5
      |false=>have:=hA ha;exact nh (fun x c h=>EO t x c (by simpa[qY] using this) h) b5
     |map kt vt=>
      obtain⟨es,clock,b1,b2⟩:=hJ;refine⟨es,clock,by rw[rn];exact b1,?_⟩;cases ha:lu outs with
      |true=>exact Dh (rf (Bf ha) (fun _ _=>rfl) _) (rf (Bf ha) (fun _ _=>rfl) _) b2
      |false=>have:=hA ha;simp only[qY,Bool.or_false,Bool.or_eq_false_iff] at this;exact Dh (fun x v h=>Q6 _ x v this.1 h) (fun x v h=>Q6 _ x v this.2 h) b2
     |iter=>obtain⟨s,n,b1,b2⟩:=hJ;exact⟨s,n,by rw[rn];exact b1,b2⟩
   ·rw[(kept id h).1];by_cases hq:of id=.none
    ·rw[hq];trivial
    ·exact Ew imm stays keeps (pO id hq) (wg id h) (Mf.ay id)
  ·have mixed:∀a b,a<outs.ay.length->aP (nq a) (oc a)=true->(∀j,j<outs.ay.length->ρ j≠b)->aP (φ b) (of b)=true->(nq a).block=(φ b).block->False:=fun a b ha h5 hb hW e=>by
    rcases H.news _ ⟨a,h5,rfl⟩ with h|h
    ·have:=(Mf.sep b hW).1;omega
    ·exact free b hb hW (e▸h)
   rcases split i with ⟨i',hy,rfl⟩|h1<;>rcases split j with ⟨j',hK,rfl⟩|h2
   ·rw[EP i' _ hy] at hi;rw[EP j' _ hK] at hj;rw[pN i' (hD i' _ hi).2 hy] at hi e;rw[pN j' (hD j' _ hj).2 hK] at hj e;rw[M1.inj i' j' hi hj e]
   ·rw[EP i' _ hy] at hi;rw[(kept j h2).1] at hj;have hq:of j≠.none:=fun e=>by rw[e] at hj;exact lz hj
    rw[pN i' (hD i' _ hi).2 hy] at hi e;rw[pO j hq] at hj e;exact(mixed i' j hy hi h2 hj e).elim
   ·rw[EP j' _ hK] at hj;rw[(kept i h1).1] at hi;have hq:of i≠.none:=fun e=>by rw[e] at hi;exact lz hi
    rw[pN j' (hD j' _ hj).2 hK] at hj e;rw[pO i hq] at hi e;exact(mixed j' i hK hj h1 hi e.symm).elim
   ·rw[(kept i h1).1] at hi;rw[(kept j h2).1] at hj;have hq:of i≠.none:=fun e=>by rw[e] at hi;exact lz hi
    have hQ:of j≠.none:=fun e=>by rw[e] at hj;exact lz hj
    rw[pO i hq] at hi e;rw[pO j hQ] at hj e;exact Mf.inj i j hi hj e
  ·rcases split i with ⟨i',hy,rfl⟩|h1
   ·rw[EP i' _ hy] at hi;rw[pN i' (hD i' _ hi).2 hy] at hi ⊢;exact⟨(M1.sep i' hi).1,fun hx=>(M1.sep i' hi).2 (hX _ (.inl hx))⟩
   ·rw[(kept i h1).1] at hi;have hq:of i≠.none:=fun e=>by rw[e] at hi;exact lz hi
    rw[pO i hq] at hi ⊢;exact⟨Nat.lt_of_lt_of_le (Mf.sep i hi).1 H.size,(Mf.sep i hi).2⟩
  ·rcases split id with ⟨j,hj,rfl⟩|h
   ·by_cases hv:j<k/\bJ j bH=false
    ·rw[(dead j hv.1 hv.2).2];trivial
    ·have he:=M1.oW j;obtain⟨sh,r',c',h1,h2,h3⟩:=Av j hj;have rn:=pN j (by
      cases hn:bJ j bH with
      |true=>exact .inr rfl
      |false=>exact .inl (zA fun h=>hv ⟨by omega,hn⟩)) hj
     rw[h2] at he;rw[h3,rn];cases sh with
     |gone=>trivial
     |box l=>exact fun hs=>he ((Zd ρ κ l r' c').symm.trans hs)
     |vec t=>exact he
     |map kt vt=>trivial
     |iter=>trivial
   ·rw[(kept id h).1];by_cases hq:of id=.none
    ·rw[hq];trivial
    ·rw[pO id hq];exact Mf.jI id (fun hx=>.same (wg id h hx)) stays
  ·exact qv6 (lists outs.roots _ _ _ (fun ha=>(hV ha).1) rv)
  ·refine H.frame b hb fun ho=>?_;obtain⟨i,g1,g2,g3⟩:=JG b ho;exact hh ⟨ρ i,c4 i (Nat.zero_le _) om,g2,g3⟩
 rw[<-hz] at main;exact⟨eY,hF.trans main⟩
theorem z7p{C:Cx}(HN:∀i fn,C.P.funcs[(aM C.sigs i).f]?=some fn->(fn.name== "runtime.NumGoroutine")=false):Nq C:=by intro R hR X φ o w hm fr f vs zs v u hv hg hf;obtain⟨i,ps,c,y,hc,hp,he,hy,rfl,rfl⟩:=Q8 _ _ hg;subst hc;obtain⟨q1,q2⟩:=QU hm hp hv;obtain⟨hj,_⟩:=Jw hp;obtain⟨⟨fn,g1,g2⟩,g3⟩:=hR i c y hy _ _ w zs q1 q2;refine⟨⟨fn,g1,HN i fn g1,g2⟩,Calls.mono g3 fun e w' hb=>?_⟩;obtain⟨en,nq,X1,rfl,hX,M1,rv,H⟩:=hb;obtain⟨eY,h⟩:=za2 hm hj he hf hX M1 rv H;exact⟨_,eY,rfl,h⟩
end Ev