/- Regions, code, functions and calls are sound; a deferred closure that recovers. No statement of its own about the program. -/
import Derived.Test.YtfgngipmbogcjaaGreatDoorEvE
import Derived.Tactics
import Derived.Scope
import Derived.ScopeJumps
import Derived.Recover
namespace Ev
open Go
section
variable {C:Cx} {nt:Fr} {X:Nat→Prop} {φ φ':Nat→Addr} {st:St} {a:Act} {w w':World} {R:fI C.sigs}
theorem qok(a:Act)(d:Option Tmp)(z:Value):(a.put d z).tmps.size=a.tmps.size:=by cases d<;>simp[Act.put]
theorem qdt(a:Act)(d:Option Tmp)(z:Value):(a.put d z).defers=a.defers:=by cases d<;>rfl
theorem qol(a:Act)(d:Tmp)(z:Value)(h:d<a.tmps.size):(a.put (some d) z).tmps.getD d undef=z:=by simp[Act.put,h]
theorem OD(a:Act)(d:Option Tmp)(z:Value)(t:Nat)(h:d≠some t):(a.put d z).tmps.getD t undef=a.tmps.getD t undef:=by
 cases d with
 |none=>rfl
 |some d=>have:d≠t:=fun e=>h (e▸rfl);simp[Act.put,Array.getElem?_setIfInBounds_ne this]
def IT(nt:Nat)(d:Option Tmp):Prop:=∀t,d=some t->t<nt
theorem IU(st:St)(d:Option Nat)(v:V)(t:Nat):(d=some t/\(bE st d v).env t=v)\/(d≠some t/\(bE st d v).env t=st.env t):=by
 cases d with
 |none=>exact .inr ⟨by simp,rfl⟩
 |some d=>
  by_cases h:t=d
  ·subst h;exact .inl ⟨rfl,eL⟩
  ·exact .inr ⟨fun e=>h (by injection e with e;exact e.symm),nH h⟩
theorem tO(st:St)(d:Option Nat)(v:V):(bE st d v).obj=st.obj:=by cases d<;>rfl
theorem Rel.step(h:Rel C nt X φ st a w){u:List (Nat×Obj)}{v:V}{z:Value}{d:Option Tmp}(hd:IT nt.n d)(hc:Comes C X φ φ' st.obj u w w' v z):Rel C nt X φ' (bE {st with obj:=ak st.obj u} d v) (a.put d z) w':=by
 have ho:(bE {st with obj:=ak st.obj u} d v).obj=ak st.obj u:=tO _ _ _;refine⟨by rw[ho];exact hc.mem,(qok _ _ _).trans h.size,fun t=>?_,by rw[qdt];exact h.defers⟩;rw[ho];rcases IU {st with obj:=ak st.obj u} d v t with ⟨h1,h2⟩|⟨h1,h2⟩
 ·rw[h2];subst h1;rw[qol _ _ _ (by rw[h.size];exact hd t rfl)];exact hc.val
 ·rw[h2,OD _ _ _ _ h1];exact hc.keeps _ _ (h.env t)
theorem Rel.put(h:Rel C nt X φ st a w){v:V}{z:Value}{d:Option Tmp}(hd:IT nt.n d)(hv:au φ st.obj (ah X φ st.obj w) w v z):Rel C nt X φ (bE st d v) (a.put d z) w:=by
 have ho:(bE st d v).obj=st.obj:=tO _ _ _;refine⟨by rw[ho];exact h.toMRel,(qok _ _ _).trans h.size,fun t=>?_,by rw[qdt];exact h.defers⟩;rw[ho];rcases IU st d v t with ⟨h1,h2⟩|⟨h1,h2⟩
 ·rw[h2];subst h1;rw[qol _ _ _ (by rw[h.size];exact hd t rfl)];exact hv
 ·rw[h2,OD _ _ _ _ h1];exact h.env t
theorem Rel.dQ(h:Rel C nt X φ st a w){v:V}{d:Nat}(hv:∀z,au φ st.obj (ah X φ st.obj w) w (st.env d) z->au φ st.obj (ah X φ st.obj w) w v z):Rel C nt X φ (bE st (some d) v) a w:=by
 refine⟨h.toMRel,h.size,fun t=>?_,h.defers⟩;rcases IU st (some d) v t with ⟨h1,h2⟩|⟨h1,h2⟩
 ·rw[h2];injection h1 with h1;subst h1;exact hv _ (h.env d)
 ·rw[h2];exact h.env t
theorem RJ{nt:Nat}{l:List Oper}:oZ nt l=true->∀o,o∈l->IT nt o.dst:=by
 induction l with
 |nil=>intro _ o ho;cases ho
 |cons p r ih=>
  intro h o ho;simp only[oZ,zd] at h;rcases zt.1 ho with rfl|ho
  ·intro t e;have h1:=h.1;rw[e] at h1;exact zF h1
  ·exact ih h.2 o ho
def Sound(C:Cx)(nt:Fr)(X:Nat->Prop)(J:(Nat->Prop)->(Nat->Addr)->St->Act->World->Prop)(st:St)(P:Act->World->Prop):Prop:=∀X' φ a w,(∀b,X b->X' b)->Rel C nt X' φ st a w->J X' φ st a w->P a w
theorem IV{P:Program}{ops:Array Oper}{Q:Exit->Act->World->Prop}:∀(l m:List Oper) (a:Act) (w:World),wpList P ops (Exit.then (wpList P ops Q m) Q) l a w->wpList P ops Q (l++m) a w
 |[],m,a,w,h=>h
 |o::l,m,a,w,h=>by
  show(if Region.wanted o (yielded ops a.tmps) then o.wp P a w (wpList P ops Q (l++m)) Q\/(o.asks P a w/\LetsOut Q) else wpList P ops Q (l++m) (a.put o.dst undef) w);have h:(if Region.wanted o (yielded ops a.tmps) then o.wp P a w (wpList P ops (Exit.then (wpList P ops Q m) Q) l) (Exit.then (wpList P ops Q m) Q)\/(o.asks P a w/\LetsOut (Exit.then (wpList P ops Q m) Q)) else wpList P ops (Exit.then (wpList P ops Q m) Q) l (a.put o.dst undef) w):=h;split
  ·rename_i hw;rw[if_pos hw] at h;refine h.imp (fun h=>?_) (fun h=>h);unfold Oper.wp at*
   generalize (execOp a.eval o).run P w=r at*
   cases r with
   |ok n w'=>
    cases n<;>simp only[Oper.upon] at h ⊢<;>
     first
      |exact IV l m _ _ h
      |exact Calls.mono h (fun e IF he=>by cases e<;>first|exact IV l m _ _ he|exact he)
      |exact Rows.mono h (fun _ _ he=>IV l m _ _ he)
   |halt x w'=>cases x<;>simp only[Oper.upon] at h ⊢<;>exact h
  ·rename_i hw;rw[if_neg hw] at h;exact IV l m _ _ h
end
theorem qk3{d:Nat}{l:List Oper}:∀{g r:List Oper} {p:Oper},EO d l=some (g,p,r)->l=g++p::r:=by
 induction l with
 |nil=>intro g r p h;cases h
 |cons o l ih=>
  intro g r p h;have key:(EO d l).map (fun q=>(o::q.1,q.2.1,q.2.2))=some (g,p,r)->o::l=g++p::r:=by intro h;rw[Option.map_eq_some_iff] at h;obtain⟨q,h1,h2⟩:=h;obtain⟨q1,q2,q3⟩:=q;simp only[Prod.mk.injEq] at h2;obtain⟨rfl,rfl,rfl⟩:=h2;rw[ih h1];rfl
  simp only[EO] at h;split at h
  ·rename_i c _ _ _;cases hb:Nat.beq c d<;>rw[hb] at h
   ·exact key h
   ·injection h with h;simp only[Prod.mk.injEq] at h;obtain⟨rfl,rfl,rfl⟩:=h;rfl
  ·exact key h
theorem RL{nt:Nat}{l m:List Oper}:oZ nt (l++m)=true->oZ nt l=true/\oZ nt m=true:=by
 induction l with
 |nil=>exact fun h=>⟨rfl,h⟩
 |cons o l ih=>intro h;simp only[List.cons_append,oZ,zd] at h ⊢;obtain⟨h1,h2⟩:=ih h.2;exact⟨⟨h.1,h1⟩,h2⟩
theorem qmi{o:Nat->Obj}{u:List (Nat×Obj)}:wR (some o) u=true->∀id,id∈bJ u->o id=.none:=by
 induction u with
 |nil=>intro _ id hi;cases hi
 |cons q r ih=>
  obtain⟨i,x⟩:=q;intro h id hi;simp only[wR,zd] at h;rcases zt.1 hi with hi|hi
  ·subst hi;have:=h.1;cases e:o id<;>rw[e] at this<;>first|rfl|cases this
  ·exact ih h.2 id hi
theorem RM:∀(g:List Oper) (st:St),(wQ st g).obj=st.obj
 |[],_=>rfl
 |o::r,st=>by show(wQ (bE st o.dst .bM) r).obj=_;rw[RM r,tO]
theorem qk4:∀(g:List Oper) (st:St) (t:Nat),(wQ st g).env t=.bM\/((wQ st g).env t=st.env t/\∀o,o∈g->o.dst≠some t)
 |[],_,_=>.inr ⟨rfl,(fun _ h=>by cases h)⟩
 |o::r,st,t=>by
  rcases qk4 r (bE st o.dst .bM) t with h|⟨h1,h2⟩
  ·exact .inl h
  ·rcases IU st o.dst .bM t with ⟨h3,h4⟩|⟨h3,h4⟩
   ·exact .inl (h1.trans h4)
   ·refine .inr ⟨h1.trans h4,fun q hq=>?_⟩;rcases zt.1 hq with rfl|hq
    ·exact h3
    ·exact h2 q hq
section
variable {C:Cx} {nt:Fr} {X:Nat→Prop} {R:fI C.sigs}
structure vi (ds:List Oper) (jY:Nat->Addr) (ss:St) (as:Act) (ws:World) (φ:Nat->Addr) (st:St) (a:Act) (w:World):Prop where
 size:ws.heap.size<=w.heap.size
 same:∀b,b<ws.heap.size->w.heap[b]?=ws.heap[b]?
 ct:∀id,ss.obj id≠.none->st.obj id=ss.obj id/\φ id=jY id
 new:∀id,ss.obj id=.none->aV (φ id) (st.obj id)=true->ws.heap.size<=(φ id).block
 tmps:∀t,(∀o,o∈ds->o.dst≠some t)->a.tmps.getD t undef=as.tmps.getD t undef
 still:Bi ws w
theorem vi.step{ds:List Oper}{jY φ φ':Nat->Addr}{ss st:St}{as a:Act}{ws w w':World}(h:vi ds jY ss as ws φ st a w){u:List (Nat×Obj)}{v:V}{z:Value}{o:Oper}(ho:o∈ds)(hc:Comes C X φ φ' st.obj u w w' v z)(hn:wR (some ss.obj) u=true):vi ds jY ss as ws φ' (bE {st with obj:=ak st.obj u} o.dst v) (a.put o.dst z) w':=by
 have hk:∀id,id∈bJ u->ss.obj id=.none:=qmi hn;have he:(bE {st with obj:=ak st.obj u} o.dst v).obj=ak st.obj u:=tO _ _ _;have ct:∀id,ss.obj id≠.none->ak st.obj u id=ss.obj id/\φ' id=jY id:=fun id hi=>by obtain⟨h1,h2⟩:=h.ct id hi;have hf:id∉bJ u:=fun hm=>hi (hk id hm);exact⟨(gS hf).trans h1,(hc.nE id (by rw[h1];exact hi) hf).trans h2⟩
 refine⟨Nat.le_trans h.size hc.size,fun b hb=>?_,by rw[he];exact ct,fun id hi hx=>?_,fun t ht=>?_,⟨hc.still.1.trans h.still.1,hc.still.2.trans h.still.2⟩⟩
 ·rw[hc.frame b (Nat.lt_of_lt_of_le hb h.size),h.same b hb];rintro⟨id,h1,h2,h3⟩;have:=h.new id (hk id h1) h2;omega
 ·rw[he] at hx;rcases hc.news id hx with h1|⟨j,h1,h2⟩
  ·have:=h.size;omega
  ·by_cases hj:ss.obj j=.none
   ·have:=h.new j hj h1;omega
   ·exfalso;obtain⟨e1,e2⟩:=ct j hj;obtain⟨e3,e4⟩:=h.ct j hj;have hg:aV (φ' j) (ak st.obj u j)=true:=by rw[e1,e2,<-e3,<-e4];exact h1
    have:=hc.mem.inj j id hg hx (by rw[e2,<-e4];exact h2);subst this;exact hj hi
 ·rw[OD _ _ _ _ (ht o ho)];exact h.tmps t ht
theorem vi.undef{ds:List Oper}{jY φ:Nat->Addr}{ss st:St}{as a:Act}{ws w:World}(h:vi ds jY ss as ws φ st a w){o:Oper}(ho:o∈ds)(v:V)(z:Value):vi ds jY ss as ws φ (bE st o.dst v) (a.put o.dst z) w:=⟨h.size,h.same,by rw[tO];exact h.ct,by rw[tO];exact h.new,fun t ht=>by rw[OD _ _ _ _ (ht o ho)];exact h.tmps t ht,h.still⟩
theorem vi.dQ{ds:List Oper}{jY φ:Nat->Addr}{ss st:St}{as a:Act}{ws w:World}(h:vi ds jY ss as ws φ st a w)(d:Option Nat)(v:V):vi ds jY ss as ws φ (bE st d v) a w:=⟨h.size,h.same,by rw[tO];exact h.ct,by rw[tO];exact h.new,h.tmps,h.still⟩
theorem vi.forget{g:List Oper}{p:Oper}{pd:Nat}(hk:p.dst=some pd){jY φ:Nat->Addr}{ss st:St}{as a:Act}{ws w:World}(hs:Rel C nt X jY ss as ws)(he:Rel C nt X φ st a w)(h:vi (g++[p]) jY ss as ws φ st a w){y:Bool}(hy:dx (st.env pd)=.d .bool y):Rel C nt X jY (bE (wQ ss g) (some pd) (.d .bool y)) a w:=by
 have hc:(bE (wQ ss g) (some pd) (.d .bool y)).obj=ss.obj:=by rw[tO,RM]
 have hf:∀b,ah X jY ss.obj ws b->ah X jY ss.obj w b:=fun b hb=>⟨Nat.lt_of_lt_of_le hb.1 h.size,hb.2.1,hb.2.2⟩;have hj:∀b,ah X jY ss.obj ws b->w.heap[b]?=ws.heap[b]?:=fun b hb=>h.same b hb.1;have keeps:∀x z,au jY ss.obj (ah X jY ss.obj ws) ws x z->au jY ss.obj (ah X jY ss.obj w) w x z:=fun x z hx=>AD hf hj (fun id=>Up.same fun hx n hr=>Bh (h.same _ (hs.sep id hx).1) hr) x z hx;refine⟨?_,he.size,fun t=>?_,he.defers⟩
 ·rw[hc];refine⟨fun id=>EW hf hj keeps rfl (fun hx=>h.same _ (hs.sep id hx).1) (hs.ay id),hs.inj,fun i hi=>⟨Nat.lt_of_lt_of_le (hs.sep i hi).1 h.size,(hs.sep i hi).2⟩,
   fun b hb=>Nat.lt_of_lt_of_le (hs.xs b hb) h.size,fun id=>hs.jJ id (fun hx=>.same (h.same _ (hs.sep id hx).1)) hj,fun g t x hg=>keeps _ _ (hs.fp g t x hg),hs.tI hj⟩
 ·rw[hc];rcases IU (wQ ss g) (some pd) (.d .bool y) t with ⟨h1,h2⟩|⟨h1,h2⟩
  ·rw[h2];injection h1 with h1;subst h1;have:=J0 (he.env pd);rw[hy] at this;have:=oz this;rw[this];exact tJ
  ·rw[h2];rcases qk4 g ss t with h3|⟨h3,h4⟩
   ·rw[h3];trivial
   ·rw[h3,h.tmps t fun o ho=>?_]
    ·exact keeps _ _ (hs.env t)
    ·rcases zU.1 ho with ho|ho
     ·exact h4 o ho
     ·rw[zS] at ho;subst ho;rw[hk];exact h1
theorem RN{ops:Array Oper}{a:Act}{j dj:Nat}{oj:Oper}{b:Bool}(hj:ops.toList[j]?=some oj)(hd:oj.dst=some dj)(h:a.tmps.getD dj undef=.bool b):yielded ops a.tmps j=some b:=by
 unfold yielded;rw[zG] at hj;have h':a.tmps[dj]?=some (.bool b):=by
  rw[Array.getD_eq_getD_getElem?] at h;cases e:a.tmps[dj]? with
  |none=>rw[e] at h;cases h
  |some z=>rw[e] at h;exact congrArg some h
 simp[hj,hd,h']
theorem qdv{ops:Array Oper}{a:Act}{j dj:Nat}{oj:Oper}(hj:ops.toList[j]?=some oj)(hd:oj.dst=some dj)(h:a.tmps.getD dj undef=undef):yielded ops a.tmps j=none:=by
 unfold yielded;rw[zG] at hj;rw[Array.getD_eq_getD_getElem?] at h;simp only[hj,Option.bind_some,hd];cases e:a.tmps[dj]? with
 |none=>rfl
 |some z=>rw[e] at h;have h:z=undef:=h;subst h;rfl
theorem qk5{φ:Nat->Addr}{o:Nat->Obj}{imm:Nat->Prop}{w:World}{val:Value}{e:Ending}{b:Bool}{vs:List V}(h:w5 true val e)(hv:au φ o imm w (.fY (.bM::.d .bool b::vs)) val):∃z,au φ o imm w (kA vs) z/\((b=false/\e=.returned z)\/(b=true/\∃t v,e=.panicked (ni t v))):=by obtain⟨z0,b',rs,ev,he⟩:=h;subst ev;obtain⟨cz,ec,z0',r0,e3,_,z1,r1,e4,hb,hc⟩:=hv;injection ec with ec;subst ec;simp only[List.cons.injEq] at e3;obtain⟨_,rfl⟩:=e3;simp only[List.cons.injEq] at e4;obtain⟨rfl,rfl⟩:=e4;have hb:=oz hb;injection hb with hb;subst hb;exact⟨_,qfp hc,he⟩
theorem Rel.w6{φ φ':Nat->Addr}{st:St}{a:Act}{w w':World}(h:Rel C nt X φ st a w){u:List (Nat×Obj)}{v:V}{z:Value}(hc:Comes C X φ φ' st.obj u w w' v z):Rel C nt X φ' {st with obj:=ak st.obj u} a w':=⟨hc.mem,h.size,fun t=>hc.keeps _ _ (h.env t),h.defers⟩
theorem Comes.value{φ φ':Nat->Addr}{o:Nat->Obj}{u:List (Nat×Obj)}{w w':World}{v v2:V}{z z2:Value}(h:Comes C X φ φ' o u w w' v z)(hv:au φ' (ak o u) (ah X φ' (ak o u) w') w' v2 z2):Comes C X φ φ' o u w w' v2 z2:=⟨h.mem,hv,h.up,h.size,h.frame,h.nE,h.news,h.still⟩
structure nK (C:Cx) (nt:Fr) (g0:Option (Nat->Obj)) (r:List Oper) (J:(Nat->Prop)->(Nat->Addr)->St->Act->World->Prop):Prop where
 step:∀X φ st a w φ' u v z w' o,o∈r->J X φ st a w->Rel C nt X φ st a w->Comes C X φ φ' st.obj u w w' v z->wR g0 u=true->J X φ' (bE {st with obj:=ak st.obj u} o.dst v) (a.put o.dst z) w'
 undef:∀X φ st a w o,o∈r->J X φ st a w->J X φ (bE st o.dst .undef) (a.put o.dst undef) w
 dQ:∀X φ st a w d v,J X φ st a w->J X φ (bE st d v) a w
 tP:g0=none->∀X φ st a w φ' u v z w',J X φ st a w->Rel C nt X φ st a w->Comes C X φ φ' st.obj u w w' v z->J X φ' {st with obj:=ak st.obj u} a w'
 forget:g0=none->∀X jY ss as ws φ st a w (g js:List Oper) (v:Option Nat×V),J X jY ss as ws->vi g jY ss as ws φ st a w->J X jY (bE (wQ ss js) v.1 v.2) a w
theorem nK.tail{g0:Option (Nat->Obj)}{r r':List Oper}{J:(Nat->Prop)->(Nat->Addr)->St->Act->World->Prop}(h:nK C nt g0 r J)(hs:∀o,o∈r'->o∈r):nK C nt g0 r' J:=⟨fun X φ st a w φ' u v z w' o ho=>h.step X φ st a w φ' u v z w' o (hs o ho),fun X φ st a w o ho=>h.undef X φ st a w o (hs o ho),h.dQ,h.tP,h.forget⟩
variable (hC:cf C) (hE:jI C) (HC:∀X φ o w,MRel C X φ o w→∀fr f,rX C R X φ o w fr f)
include hC hE HC
theorem qdw{ops:Array Oper}{rg:Nat}:∀(n:Nat) {γ δ:Type} (X:Nat->Prop) (Q:Exit->Act->World->Prop) (wr:γ->δ) (i:Nat) (r:List Oper) (st:St) (k kp:(γ->δ)->St->Option δ) (y:δ) (J:(Nat->Prop)->(Nat->Addr)->St->Act->World->Prop) (g0:Option (Nat->Obj)),lp lf C R rg ops.toList g0 n wr i r st k kp=some y->oZ nt.n r=true->nK C nt g0 r J->(∀bc,k wr bc=some y->Sound C nt X J bc (Q .normal))->(∀bc,kp wr bc=some y->Sound C nt X J bc (Q (.panic (ni 0 undef))))->(∀a w t v,Q (.panic (ni 0 undef)) a w->Q (.panic (ni t v)) a w)->Sound C nt X J st (wpList C.P ops Q r):=by
 intro n
 induction n with
 |zero=>intro γ δ X Q wr i r st k kp y J g0 h;cases h
 |succ n ih=>
  intro γ δ X Q wr i r st k kp y J g0 h hd hJ hk hm hf;cases r with
  |nil=>exact hk st h
  |cons o r=>
   have hn:IT nt.n o.dst:=RJ hd o (zf ..);have hs:oZ nt.n r=true:=(RL (l:=[o]) hd).2;have ht:nK C nt g0 r J:=hJ.tail fun q hq=>zh _ hq;have runs:(match cT lf C R st.env st.obj (fR rg i) o.type o.op with
     |.fail=>none
     |.lj v u=>bif wR g0 u then mM v fun v=>pw (fR rg i) st.obj u fun o'=>lp lf C R rg ops.toList g0 n wr (i+1) r (bE {st with obj:=o'} o.dst v) k kp else none
     |.dyn _ x out=>lf.b x fun y=>bif wR g0 (out y).2 then mM (out y).1 fun v=>pw (fR rg i) st.obj (out y).2 fun o'=>lp lf C R rg ops.toList g0 n wr (i+1) r (bE {st with obj:=o'} o.dst v) k kp else none)=some y->
     ∀X' φ a w,(∀b,X b->X' b)->Rel C nt X' φ st a w->J X' φ st a w->o.wp C.P a w (wpList C.P ops Q r) Q:=by
    intro h X' φ a w hX hR hj;have go:∀v u,(cT lf C R st.env st.obj (fR rg i) o.type o.op).gives v u->(bif wR g0 u then mM v fun v=>pw (fR rg i) st.obj u fun o'=>lp lf C R rg ops.toList g0 n wr (i+1) r (bE {st with obj:=o'} o.dst v) k kp else none)=some y->
      o.wp C.P a w (wpList C.P ops Q r) Q:=by
     intro v u hg h;cases hb:wR g0 u with
     |false=>rw[hb] at h;cases h
     |true=>rw[hb,cond_true,Kn] at h;obtain⟨h1,h2⟩:=Ko _ _ _ _ h;have hl:=Rr hC hE hR.toMRel (fun x=>hR.bU x) (HC X' φ st.obj w hR.toMRel (fR rg i)) hg h2;exact hl.upon fun val w' φ' hc=>ih X Q wr (i+1) r _ k kp y J g0 h1 hs ht hk hm hf X' φ' _ w' hX (hR.step hn hc) (hJ.step X' φ st a w φ' u v val w' o (zf ..) hj hR hc hb)
    generalize hp:cT lf C R st.env st.obj (fR rg i) o.type o.op=pk at h go;cases pk with
    |fail=>cases h
    |lj v u=>exact go v u ⟨rfl,rfl⟩ h
    |dyn α x out=>obtain⟨q,h1,h2⟩:=wu (x:=x) h;exact go (out q).1 (out q).2 ⟨q,h1,rfl⟩ h2
   have D9:lp lf C R rg ops.toList g0 n wr (i+1) r (bE st o.dst .undef) k kp=some y->Sound C nt X J st (fun a w=>wpList C.P ops Q r (a.put o.dst undef) w):=by intro h X' φ a w hX hR hj;exact ih X Q wr (i+1) r _ k kp y J g0 h hs ht hk hm hf X' φ _ w hX (hR.put hn rfl) (hJ.undef X' φ st a w o (zf ..) hj)
   intro X' φ a w hX hR hj;show(if Region.wanted o (yielded ops a.tmps) then o.wp C.P a w (wpList C.P ops Q r) Q\/(o.asks C.P a w/\LetsOut Q) else wpList C.P ops Q r (a.put o.dst undef) w);unfold lp at h;cases hF:JR C.sigs o with
   |true=>
    rw[hF,cond_true] at h;split at h
    ·rename_i hg;rw[if_pos (by simp[Region.wanted,hg])];refine .inl ?_;obtain⟨dst,op,ty,pos,after,guard⟩:=o;unfold z3d at h;simp only at h;split at h
     ·
      rename_i x;split at h
      ·rename_i hx;have hz:=hR.bU x;rw[hx] at hz;obtain⟨t,z,hz⟩:=hz;have hq:=hm st h X' φ a w hX hR hj;show Oper.upon C.P _ a _ Q ((execOp a.eval _).run C.P w);have er:(execOp a.eval ⟨dst,.panic x,ty,pos,after,guard⟩).run C.P w=.halt (.panic (.iface t z)) w:=by show(Instr.panic (a.eval x)>>=fun v=>(pure (Next.value v):Sem Next)).run C.P w=_;rw[hz];rfl
       rw[er];exact hf a w t z hq
      ·cases h
     ·
      rename_i hW;split at h
      ·rename_i α x out hM;obtain⟨q,h1,h2⟩:=wu (x:=x) h;split at h2
       ·rename_i b vs hu;rw[Kn] at h2;obtain⟨h3,h4⟩:=Ko _ _ _ _ h2;have hN:(DW lf C R st.env st.obj (fR rg i) op).gives (.fY (.bM::.d .bool b::vs)) (out q).2:=by rw[hM];exact⟨q,h1,by rw[<-hu]⟩
        obtain⟨f',az,e1,e2⟩:=qob (q:=⟨dst,op,ty,pos,after,guard⟩) (fun x=>hR.bU x) (HC X' φ st.obj w hR.toMRel (fR rg i)) hN h4;show Oper.upon C.P _ a _ Q ((execOp a.eval _).run C.P w);rw[e1];refine Calls.mono e2 fun e w' he=>?_;obtain⟨val,φ',he,hc⟩:=he;obtain⟨z,hv,he⟩:=qk5 he hc.val;rcases he with ⟨rfl,rfl⟩|⟨rfl,t,z,rfl⟩
        ·have h3:lp lf C R rg ops.toList none n wr (i+1) r _ k kp=some y:=h3;exact ih X Q wr (i+1) r _ k kp y J none h3 hs ht hk hm hf X' φ' _ w' hX (hR.step hn (hc.value hv)) (hJ.step X' φ st a w φ' (out q).2 (kA vs) _ w' ⟨dst,_,ty,pos,after,guard⟩ (zf ..) hj hR (hc.value hv) (by cases (out q).2<;>rfl))
        ·have h3:kp wr {st with obj:=ak st.obj (out q).2}=some y:=h3;exact hf a w' t z (hm _ h3 X' φ' a w' hX (hR.w6 hc) (hJ.tP rfl X' φ st a w φ' _ _ _ w' hj hR hc))
       ·cases h2
      ·cases h
    ·cases h
   |false=>
   rw[hF,cond_false] at h;simp only at h;split at h
   ·rename_i hg;rw[if_pos (by simp[Region.wanted,hg])];exact .inl (runs h X' φ a w hX hR hj)
   ·rename_i j want hg;split at h
    ·rename_i oj hH;split at h
     ·rename_i dj hI;split at h
      ·
       rename_i b hb;have hz:=hR.env dj;rw[hb] at hz;have hy:=RN hH hI hz;have hw:Region.wanted o (yielded ops a.tmps)=(bif want then b else !b):=by unfold Region.wanted;rw[hg];simp only[hy];cases b<;>cases want<;>rfl
       rw[hw];cases hc:(bif want then b else !b) with
       |true=>rw[hc] at h;rw[if_pos rfl];exact .inl (runs h X' φ a w hX hR hj)
       |false=>rw[hc] at h;rw[if_neg (by simp)];exact D9 h X' φ a w hX hR hj
      ·
       rename_i hb;have hz:=hR.env dj;rw[hb] at hz;have hy:=qdv hH hI hz;have hw:Region.wanted o (yielded ops a.tmps)=false:=by unfold Region.wanted;rw[hg];simp only[hy];rfl
       rw[hw,if_neg (by simp)];exact D9 h X' φ a w hX hR hj
      ·rename_i x hb;split at h
       ·
        rename_i gs;have rc:∀b,x=b->∀z,au φ st.obj (ah X' φ st.obj w) w (st.env dj) z->au φ st.obj (ah X' φ st.obj w) w (.lb b) z:=by intro b e z hz;rw[hb] at hz;subst e;exact oz hz
        cases x with
        |true=>have h:lp lf C R rg ops.toList (some gs) n wr i (o::r) (bE st (some dj) (.lb true)) k kp=some y:=h;exact ih X Q wr i (o::r) _ k kp y J _ h hd hJ hk hm hf X' φ a w hX (hR.dQ (rc true rfl)) (hJ.dQ X' φ st a w _ _ hj)
        |false=>have h:lp lf C R rg ops.toList (some gs) n wr i (o::r) (bE st (some dj) (.lb false)) k kp=some y:=h;exact ih X Q wr i (o::r) _ k kp y J _ h hd hJ hk hm hf X' φ a w hX (hR.dQ (rc false rfl)) (hJ.dQ X' φ st a w _ _ hj)
       ·cases hK:qnt C dj (o::r)
        case true=>
         rw[hK,cond_true] at h;have rc:∀b,x=b->∀z,au φ st.obj (ah X' φ st.obj w) w (st.env dj) z->au φ st.obj (ah X' φ st.obj w) w (.lb b) z:=by intro b e z hz;rw[hb] at hz;subst e;exact oz hz
         cases x with
         |true=>have h:lp lf C R rg ops.toList none n wr i (o::r) (bE st (some dj) (.lb true)) k kp=some y:=h;exact ih X Q wr i (o::r) _ k kp y J _ h hd hJ hk hm hf X' φ a w hX (hR.dQ (rc true rfl)) (hJ.dQ X' φ st a w _ _ hj)
         |false=>have h:lp lf C R rg ops.toList none n wr i (o::r) (bE st (some dj) (.lb false)) k kp=some y:=h;exact ih X Q wr i (o::r) _ k kp y J _ h hd hJ hk hm hf X' φ a w hX (hR.dQ (rc false rfl)) (hJ.dQ X' φ st a w _ _ hj)
        rw[hK,cond_false] at h;split at h
        ·rename_i g p r' hO;split at h
         ·rename_i pd hP;obtain⟨yb,h1,h2⟩:=wu h;have hQ:=qk3 hO;show wpList C.P ops Q (o::r) a w;rw[hQ] at hd hJ ⊢;have hA:g++p::r'=(g++[p])++r':=by simp
          rw[hA] at hd hJ ⊢;obtain⟨hS,hT⟩:=RL hd;refine IV _ _ _ _ ?_;have rc:∀b,x=b->∀z,au φ st.obj (ah X' φ st.obj w) w (st.env dj) z->au φ st.obj (ah X' φ st.obj w) w (.lb b) z:=by intro b e z hz;rw[hb] at hz;subst e;exact oz hz
          have hU:lp (γ:=Bool) (δ:=Bool) lf C R rg ops.toList (some st.obj) n (fun x=>x) i (g++[p]) (bE st (some dj) (.lb x)) (fun w' bc=>z3c _ w' (dx (bc.env pd))) (fun _ _=>none)=some yb:=by cases x<;>exact h1
          refine ih X' (Exit.then (wpList C.P ops Q r') Q) (fun x=>x) i (g++[p]) _ _ _ yb (fun X2 cV st2 a2 w2=>X2=X'/\vi (g++[p]) φ st a w cV st2 a2 w2) (some st.obj) hU hS ?_ ?_ (fun _ h=>by cases h) hf X' φ a w (fun _ h=>h) (hR.dQ (rc x rfl)) ⟨rfl,?_⟩
          ·refine⟨fun X2 cV st2 a2 w2 φ' u v z w' q hq ⟨e,hG⟩ hL hc ho=>⟨e,hG.step hq hc ho⟩,fun X2 cV st2 a2 w2 q hq ⟨e,hG⟩=>⟨e,hG.undef hq _ _⟩,fun X2 cV st2 a2 w2 d v ⟨e,hG⟩=>⟨e,hG.dQ d v⟩,fun e=>(by cases e),fun e=>by cases e⟩
          ·intro bc hB X2 cV a2 w2 _ hL ⟨e,hG⟩;subst e;have hV:dx (bc.env pd)=.d .bool yb:=by
            revert hB;generalize dx (bc.env pd)=q;intro hq;cases q<;>try (cases hq;done)
            rename_i t d;cases t<;>try (cases hq;done)
            injection hq with hq;rw[<-hq]
           exact ih X Q wr _ r' _ k kp y J none h2 hT (hJ.tail fun q hq=>List.mem_append_right _ hq) hk hm hf X2 φ a2 w2 hX (hG.forget hP hR hL hV)
            (hJ.forget rfl X2 φ st a w cV bc a2 w2 (g++[p]) g (some pd,.d .bool yb) hj hG)
          ·exact⟨Nat.le_refl _,fun _ _=>rfl,fun _ _=>⟨rfl,rfl⟩,fun id h1 h2=>(by
            have:(bE st (some dj) (.lb x)).obj=st.obj:=tO _ _ _;rw[this,h1] at h2;cases h2),fun _ _=>rfl,⟨rfl,rfl⟩⟩
         ·cases h
        ·cases h
      ·cases h
     ·cases h
    ·cases h
end
inductive dR (nt:Nat):Code->AC->Prop where
 |skip:dR nt .skip .skip
 |label (l:Nat):dR nt (.label l) .skip
 |region (id:Nat) (ops:Array Oper) (d:Bool) (h:oZ nt ops.toList=true):dR nt (.region id ops d) (.region id ops d)
 |seq {a b:Code} {a' b':AC} (ha:dR nt a a') (hb:dR nt b b'):dR nt (.seq a b) (.seq a' b')
 |cond {a b:Code} {a' b':AC} (c:Operand) (ts:List Nat) (ha:dR nt a a') (hb:dR nt b b'):dR nt (.cond c a b) (.cond c ts a' b')
 |block {b:Code} {b':AC} (id:Nat) (ts:List Nat) (hb:dR nt b b'):dR nt (.block id b) (.block id ts b')
 |loop {b:Code} {b':AC} (ts:List Nat) (hb:dR nt b b'):dR nt (.loop b) (.loop ts b')
 |exit (id:Nat):dR nt (.exit id) (.exit id)
 |goto (l:Nat):dR nt (.goto l) (.goto l)
 |ret:dR nt .ret .ret
 |scope {b:Code} {b':AC} (hb:dR nt b b'):dR nt (.scope b) (.scope b')
 |jump {b p r:Code} {p' r':AC} (l:Nat) (ts:List Nat) (h1:ahead l b=some p) (h2:findLabel b l=some r) (hp:dR nt p p') (hr:dR nt r r'):dR nt (.scope b) (.jump l ts p' r')
 |bad (c:Code):dR nt c .bad
def kD(P:Program):Code->(Exit->Act->World->Prop)->Act->World->Prop
 |.seq x y,Q=>kD P x (Exit.then (kD P y Q) Q)
 |.skip,Q=>Q .normal
 |.label _,Q=>Q .normal
 |c,Q=>c.wp P Q
theorem vj{P:Program}:∀{c:Code} {Q:Exit->Act->World->Prop} {a:Act} {w:World},kD P c Q a w->c.wp P Q a w:=by
 intro c
 induction c with
 |seq x y Bs Bt=>intro Q a w h;refine wp_seq (wp_mono (Bs h) fun e a w h=>?_);cases e<;>first|exact Bt h|exact h
 |skip=>intro Q a w h;exact wp_skip h
 |label l=>intro Q a w h;exact wp_label h
 |_=>intro Q a w h;exact h
theorem vk{P:Program}:∀{c:Code} {Q Q':Exit->Act->World->Prop} {a:Act} {w:World},kD P c Q a w->(∀e a w,Q e a w->Q' e a w)->kD P c Q' a w:=by
 intro c
 induction c with
 |seq x y Bs Bt=>intro Q Q' a w h hq;refine Bs (Q:=Exit.then (kD P y Q) Q) h fun e a w h=>?_;cases e<;>first|exact Bt h hq|exact hq _ _ _ h
 |skip=>intro Q Q' a w h hq;exact hq _ _ _ h
 |label l=>intro Q Q' a w h hq;exact hq _ _ _ h
 |_=>intro Q Q' a w h hq;exact wp_mono h hq
theorem qu0{P:Program}{l:Nat}:∀(c:Code) {p r:Code} {Q:Exit->Act->World->Prop} {a:Act} {w:World},ahead l c=some p->findLabel c l=some r->kD P p (Exit.then (kD P r Q) Q) a w->kD P c Q a w:=by
 have none:∀c,ahead l c=none->findLabel c l=none:=by
  intro c
  induction c with
  |seq x y Bs Bt=>
   intro h;simp only[ahead] at h;split at h
   ·cases h
   ·rename_i e;split at h
    ·cases h
    ·rename_i e2;simp only[findLabel,Bs e,Bt e2]
  |label j=>
   intro h;simp only[ahead] at h;have:¬j=l:=fun e=>by rw[e,Nat.beq_refl] at h;cases h
   simp[findLabel,this]
  |_=>intro h;rfl
 have Kt:∀c p,ahead l c=some p->∃r,findLabel c l=some r:=by
  intro c
  induction c with
  |seq x y Bs Bt=>
   intro p h;simp only[ahead] at h;split at h
   ·rename_i c' e;obtain⟨r,hr⟩:=Bs _ e;exact⟨.seq r y,by simp only[findLabel,hr]⟩
   ·rename_i e;split at h
    ·rename_i c' e2;obtain⟨r,hr⟩:=Bt _ e2;exact⟨r,by simp only[findLabel,none _ e,hr]⟩
    ·cases h
  |label j=>
   intro p h;simp only[ahead] at h;cases hb:Nat.beq j l with
   |true=>exact⟨.skip,by rw[zg hb];simp[findLabel]⟩
   |false=>rw[hb] at h;cases h
  |_=>intro p h;cases h
 intro c
 induction c with
 |seq x y Bs Bt=>
  intro p r Q a w h1 h2 h;simp only[ahead] at h1;split at h1
  ·rename_i c' e;injection h1 with h1;subst h1;obtain⟨rx,hc⟩:=Kt _ _ e;simp only[findLabel,hc,zH] at h2;subst h2;refine Bs (Q:=Exit.then (kD P y Q) Q) e hc (vk h fun e a w h=>?_);cases e<;>exact h
  ·rename_i e;split at h1
   ·rename_i c' e2;injection h1 with h1;subst h1;simp only[findLabel,none _ e] at h2;refine vk (c:=x) h fun e a w h=>?_;cases e<;>first|exact Bt e2 h2 h|exact h
   ·cases h1
 |label j=>
  intro p r Q a w h1 h2 h;simp only[ahead] at h1;cases hb:Nat.beq j l with
  |true=>rw[hb] at h1;injection h1 with h1;have hb:=zg hb;simp only[findLabel,hb,beq_self_eq_true,if_true,zH] at h2;subst h1 h2;exact h
  |false=>rw[hb] at h1;cases h1
 |_=>intro p r Q a w h1;cases h1
def Ex.to:Ex->Exit
 |.normal=>.normal
 |.exit id=>.exit id
 |.goto l=>.goto l
 |.ret=>.ret
 |.panic=>.panic (ni 0 undef)
theorem AM{p:Nat->Prop}(h:∃n,p n):∃n,p n/\∀m,p m->n<=m:=by
 obtain⟨n,hn⟩:=h
 induction n using Nat.strongRecOn with
 |_ n ih=>
  by_cases hm:∃m,m<n/\p m
  ·obtain⟨m,h1,h2⟩:=hm;exact ih m h1 h2
  ·exact⟨n,hn,fun m hc=>zK fun he=>hm ⟨m,by omega,hc⟩⟩
theorem Ku{σ ρ:Type}{f:σ->Option (σ⊕ρ)}{s:σ}{r:ρ}(h:aG f s=some r):∃n,lh f n s=some r:=by
 unfold aG at h;split at h
 ·rename_i hx;injection h with h;have:=Classical.choose_spec hx;rw[h] at this;exact this
 ·cases h
section
variable {C:Cx} {nt:Fr} {R:fI C.sigs} {dA:Nat→Addr} {o0:Nat→Obj} {w0:World} {sk:List Nat}
abbrev HJ(sk:List Nat)(dA:Nat->Addr)(o0:Nat->Obj)(w0:World):(Nat->Prop)->(Nat->Addr)->St->Act->World->Prop:=fun _ φ st _ w=>cL sk dA o0 w0 φ st.obj w
theorem HJ.keeps(r:List Oper):nK C nt none r (HJ sk dA o0 w0):=by
 refine⟨fun X φ st a w φ' u v z w' o ho h hR hc _=>?_,fun X φ st a w o ho h=>?_,fun X φ st a w d v h=>?_,fun _ X φ st a w φ' u v z w' h hR hc=>h.step hc,fun _ X jY ss as ws φ st a w g js v h hG=>?_⟩
 ·show cL sk dA o0 w0 φ' (bE {st with obj:=ak st.obj u} o.dst v).obj w';rw[tO];exact h.step hc
 ·show cL sk dA o0 w0 φ (bE st o.dst .undef).obj w;rw[tO];exact h
 ·show cL sk dA o0 w0 φ (bE st d v).obj w;rw[tO];exact h
 ·show cL sk dA o0 w0 jY (bE (wQ ss js) v.1 v.2).obj w;rw[tO,RM];exact⟨Nat.le_trans h.size hG.size,fun b hb hn=>by rw[hG.same b (Nat.lt_of_lt_of_le hb h.size),h.frame b hb hn],h.news,⟨hG.still.1.trans h.still.1,hG.still.2.trans h.still.2⟩,fun id hi=>(h.up id hi).trans (Up.same fun _ n hr=>by refine Bh (hG.same _ ?_) hr;obtain⟨c,el,lo,he,h1,_⟩:=hr;exact(Array.getElem?_eq_some_iff.1 h1).1)⟩
def IW(C:Cx)(nt:Fr)(J:(Nat->Prop)->(Nat->Addr)->St->Act->World->Prop)(X:Nat->Prop){γ:Type}(k:(δ:Type)->(γ->δ)->Ex->St->Option δ)(Q:(γ->Prop)->Exit->Act->World->Prop):Prop:=∀(δ:Type) (w:γ->δ) (e:Ex) (st:St) (y:δ),k δ w e st=some y->Sound C nt X J st (Q (fun g=>w g=y) e.to)
structure wx {γ:Type} (Q:(γ->Prop)->Exit->Act->World->Prop):Prop where
 mono:∀S S' e a w,(∀g,S g->S' g)->Q S e a w->Q S' e a w
 tP:∀S a w t v,Q S (.panic (ni 0 undef)) a w->Q S (.panic (ni t v)) a w
def OF(C:Cx)(nt:Fr)(R:fI C.sigs)(J:(Nat->Prop)->(Nat->Addr)->St->Act->World->Prop):Prop:=
 ∀(rg:Nat) (ops:Array Oper) (n:Nat) {γ δ:Type} (X:Nat->Prop) (Q:Exit->Act->World->Prop) (wr:γ->δ) (st:St) (k kp:(γ->δ)->St->Option δ) (y:δ),
  ru lf C R rg ops.toList n wr 0 ops.toList st [] [] k kp=some y->oZ nt.n ops.toList=true->(∀bc,k wr bc=some y->Sound C nt X J bc (Q .normal))->(∀bc,kp wr bc=some y->Sound C nt X J bc (Q (.panic (ni 0 undef))))->(∀a w t v,Q (.panic (ni 0 undef)) a w->Q (.panic (ni t v)) a w)->
  Sound C nt X J st ((Code.region rg ops true).wp C.P Q)
theorem Sound.weaken{J:(Nat->Prop)->(Nat->Addr)->St->Act->World->Prop}{X:Nat->Prop}{st:St}{P P':Act->World->Prop}(h:Sound C nt X J st P)(hp:∀a w,P a w->P' a w):Sound C nt X J st P':=fun X' φ a w h1 h2 h3=>hp _ _ (h X' φ a w h1 h2 h3)
def w7(C:Cx)(nt:Fr)(sk:List Nat)(dA:Nat->Addr)(o0:Nat->Obj)(w0:World)(X:Nat->Prop)(ts:List Nat)(s:Shape)(c:ai s.aW)(a:Act)(w:World):Prop:=∃X2 cV,(∀b,X b->X2 b)/\Rel C nt X2 cV (iT sk ts s c) a w/\cL sk dA o0 w0 cV (iT sk ts s c).obj w
theorem IX{δ:Type}{s:Shape}{w:ai s.aW->δ}{aQ:List (Nat×Nat)}{o:Nat->Obj}{vs:List V}{y:δ}(h:jE lf sk s w aQ o vs=some y):∃ps c,EL lf sk aQ o s vs=some (ps,c)/\w c=y:=by
 unfold jE at h;split at h
 ·rename_i p e;injection h with h;exact⟨p.1,p.2,e,h⟩
 ·cases h
def JQ(C:Cx)(nt:Fr)(sk:List Nat)(dA:Nat->Addr)(o0:Nat->Obj)(w0:World)(X:Nat->Prop)(ts:List Nat)(s:Shape){γ δ:Type}(wr:γ->δ)(Q:(γ->Prop)->Exit->Act->World->Prop):(ai s.aW⊕δ->Prop)->Exit->Act->World->Prop
 |S,.normal,a,w=>∃c,S (.inl c)/\w7 C nt sk dA o0 w0 X ts s c a w
 |S,e,a,w=>Q (fun g=>S (.inr (wr g))) e a w
theorem JQ.mono{X:Nat->Prop}{ts:List Nat}{s:Shape}{γ δ:Type}{wr:γ->δ}{Q:(γ->Prop)->Exit->Act->World->Prop}(hQ:wx Q):wx (JQ C nt sk dA o0 w0 X ts s wr Q):=by refine⟨fun S S' e a w hs h=>?_,fun S a w t v h=>hQ.tP _ _ _ _ _ h⟩;cases e<;>first|exact hQ.mono _ _ _ _ _ (fun g hg=>hs _ hg) h|exact(let ⟨c,h1,h2⟩:=h;⟨c,hs _ h1,h2⟩)
theorem qon{X:Nat->Prop}{ts:List Nat}{s:Shape}{γ δ:Type}{wr:γ->δ}{Q:(γ->Prop)->Exit->Act->World->Prop}(hQ:wx Q){y1:ai s.aW⊕δ}{y:δ}{k:(δ:Type)->(γ->δ)->Ex->St->Option δ}(hk:IW C nt (HJ sk dA o0 w0) X k Q)(h:eO (fun c=>tD sk ts s c fun st=>k δ wr .normal st) y1=some y)(e:Exit)(a:Act)(w:World)(hj:JQ C nt sk dA o0 w0 X ts s wr Q (fun g=>g=y1) e a w):Q (fun g=>wr g=y) e a w:=by
 cases y1 with
 |inl c=>
  have h:tD sk ts s c (fun st=>k δ wr .normal st)=some y:=h;rw[Ox] at h;cases e with
  |normal=>obtain⟨c',h1,X2,cV,h2,h3,h4⟩:=hj;injection h1 with h1;subst h1;exact hk δ wr .normal _ y h X2 cV a w h2 h3 h4
  |_=>exact hQ.mono _ _ _ _ _ (fun g hg=>by cases hg) hj
 |inr d=>
  have h:some d=some y:=h;injection h with h;subst h;cases e with
  |normal=>obtain⟨c',h1,_⟩:=hj;cases h1
  |_=>exact hQ.mono _ _ _ _ _ (fun g hg=>by injection hg) hj
theorem OG{X:Nat->Prop}{ts:List Nat}{s:Shape}{γ δ cO:Type}{wr:γ->δ}{Q:(γ->Prop)->Exit->Act->World->Prop}{w':ai s.aW⊕δ->cO}{bc:St}{y':cO}(w8:gX sk)(h:jE lf sk s (fun c=>w' (.inl c)) (rN 0 sk) bc.obj (ts.map fun t=>dx (bc.env t))=some y'):Sound C nt X (HJ sk dA o0 w0) bc (JQ C nt sk dA o0 w0 X ts s wr Q (fun g=>w' g=y') .normal):=by obtain⟨ps,c,h1,h2⟩:=IX h;intro X' φ a w hX hR hJ;obtain⟨cV,X2,g1,g2,g3⟩:=Ks w8 hR hJ h1;exact⟨c,h2,X2,cV,fun b hb=>g1 b (hX b hb),g2,g3⟩
variable (hC:cf C) (hE:jI C) (HC:∀X φ o w,MRel C X φ o w→∀fr f,rX C R X φ o w fr f) (HD:OF C nt R (HJ sk dA o0 w0)) (w8:gX sk)
include hC hE HC HD w8
open Classical in
theorem RO{c:Code}{ac:AC}(hA:dR nt.n c ac):∀(X:Nat->Prop) (st:St) (γ δ:Type) (w:γ->δ) (k:(δ:Type)->(γ->δ)->Ex->St->Option δ) (Q:(γ->Prop)->Exit->Act->World->Prop) (y:δ),wx Q->IW C nt (HJ sk dA o0 w0) X k Q->ev lf C R sk ac st γ δ w k=some y->Sound C nt X (HJ sk dA o0 w0) st (kD C.P c (Q fun g=>w g=y)):=by
 induction hA with
 |skip=>intro X st γ δ w k Q y hQ hk h;exact hk δ w .normal st y h
 |label l=>intro X st γ δ w k Q y hQ hk h;exact hk δ w .normal st y h
 |region id ops d hd=>
  intro X st γ δ w k Q y hQ hk h;cases d with
  |true=>exact HD id ops _ X _ w st _ _ y h hd (fun bc h'=>hk δ w .normal bc y h') (fun bc h'=>hk δ w .panic bc y h') fun a w t v h=>hQ.tP _ a w t v h
  |false=>refine(qdw hC hE HC (ops:=ops) (rg:=id) _ X (Q fun g=>w g=y) w 0 ops.toList st _ _ y (HJ sk dA o0 w0) none h hd (HJ.keeps _) (fun bc h'=>hk δ w .normal bc y h') (fun bc h'=>hk δ w .panic bc y h') fun a w t v h=>hQ.tP _ a w t v h).weaken fun a w h=>wp_region_list h
 |@seq ca cb a b ha hb nf jF=>
  intro X st γ δ w k Q y hQ hk h;refine nf X st γ δ w _ (fun S e a w=>Exit.then (kD C.P cb (Q S)) (Q S) e a w) y ?_ ?_ h
  ·refine⟨fun S S' e a w hs h=>?_,fun S a w t v h=>hQ.tP _ _ _ _ _ h⟩;cases e<;>first|exact hQ.mono _ _ _ _ _ hs h|exact vk h fun e a w h=>hQ.mono _ _ _ _ _ hs h
  ·intro cO w' e bc y' h';cases e with
   |normal=>exact jF X bc γ cO w' k Q y' hQ hk h'
   |exit id=>exact hk cO w' (.exit id) bc y' h'
   |goto l=>exact hk cO w' (.goto l) bc y' h'
   |ret=>exact hk cO w' .ret bc y' h'
   |panic=>exact hk cO w' .panic bc y' h'
 |@cond ca cb a b c ts ha hb nf jF=>
  intro X st γ δ w k Q y hQ hk h X' φ act wd hX hR hJ;unfold ev at h;split at h
  ·rename_i x hx;have hz:=hR.bU c;rw[hx] at hz;have hz:=oz hz;have plain:aq x (ev lf C R sk a st γ δ w k) (ev lf C R sk b st γ δ w k)=some y->(Code.cond c ca cb).wp C.P (Q fun g=>w g=y) act wd:=by
    intro h;cases x with
    |true=>exact wp_cond_true hz (vj (nf X st γ δ w k Q y hQ hk h X' φ act wd hX hR hJ))
    |false=>exact wp_cond_false hz (vj (jF X st γ δ w k Q y hQ hk h X' φ act wd hX hR hJ))
   cases hf:(tC a&&tC b) with
   |false=>rw[hf] at h;exact plain h
   |true=>
    rw[hf,cond_true,Ow] at h;generalize Is C sk st ts (ox a++ox b)=s at h;have both:∀(k':(cO:Type)->(ai s.aW⊕δ->cO)->Ex->St->Option cO) (y1:ai s.aW⊕δ),IW C nt (HJ sk dA o0 w0) X k' (JQ C nt sk dA o0 w0 X ts s w Q)->
      aq x (ev lf C R sk a st (ai s.aW⊕δ) (ai s.aW⊕δ) (fun x=>x) k') (ev lf C R sk b st (ai s.aW⊕δ) (ai s.aW⊕δ) (fun x=>x) k')=some y1->
      (Code.cond c ca cb).wp C.P (JQ C nt sk dA o0 w0 X ts s w Q fun g=>g=y1) act wd:=by
     intro k' y1 hy h;cases x with
     |true=>exact wp_cond_true hz (vj (nf X st _ _ (fun x=>x) k' _ y1 (JQ.mono hQ) hy h X' φ act wd hX hR hJ))
     |false=>exact wp_cond_false hz (vj (jF X st _ _ (fun x=>x) k' _ y1 (JQ.mono hQ) hy h X' φ act wd hX hR hJ))
    cases hl:(u0 C.sigs a||u0 C.sigs b) with
    |true=>
     rw[hl,cond_true] at h;obtain⟨y1,h1,h2⟩:=wu h;refine wp_mono (both _ y1 ?_ h1) fun e a w hj=>qon hQ hk h2 e a w hj;intro cO w' e bc y' h';cases e with
     |normal=>exact OG w8 h'
     |exit id=>exact hk cO (fun g=>w' (.inr (w g))) (.exit id) bc y' h'
     |goto l=>exact hk cO (fun g=>w' (.inr (w g))) (.goto l) bc y' h'
     |ret=>exact hk cO (fun g=>w' (.inr (w g))) .ret bc y' h'
     |panic=>exact hk cO (fun g=>w' (.inr (w g))) .panic bc y' h'
    |false=>
     rw[hl,cond_false] at h;obtain⟨y1,h1,h2⟩:=wu h
     have only:∀(cx:Code) (ax:AC),(∀(X:Nat->Prop) (st:St) (γ δ:Type) (w:γ->δ) (k:(δ:Type)->(γ->δ)->Ex->St->Option δ) (Q:(γ->Prop)->Exit->Act->World->Prop) (y:δ),
       wx Q->IW C nt (HJ sk dA o0 w0) X k Q->ev lf C R sk ax st γ δ w k=some y->Sound C nt X (HJ sk dA o0 w0) st (kD C.P cx (Q fun g=>w g=y)))->
       ev lf C R sk ax st (ai s.aW) (ai s.aW) (fun x=>x) (fun _ w' e bc=>match e with
        |.normal=>jE lf sk s w' (rN 0 sk) bc.obj (ts.map fun t=>dx (bc.env t))
        |_=>none)=some y1->cx.wp C.P (Q fun g=>w g=y) act wd:=by
      intro cx ax ih h;have:=ih X st _ _ (fun x=>x) _ (fun S e a w=>match e with|.normal=>∃c,S c/\w7 C nt sk dA o0 w0 X ts s c a w|_=>False) y1 ?_ ?_ h X' φ act wd hX hR hJ
      ·refine wp_mono (vj this) fun e a2 w2 hj=>?_;cases e with
       |normal=>obtain⟨c',hc,X2,cV,g1,g2,g3⟩:=hj;subst hc;have h2:tD sk ts s c' (fun st=>k δ w .normal st)=some y:=h2;rw[Ox] at h2;exact hk δ _ .normal _ y h2 X2 cV a2 w2 g1 g2 g3
       |_=>exact hj.elim
      ·refine⟨fun S S' e a w hs h=>?_,fun S a w t v h=>h.elim⟩;cases e<;>first|exact h.elim|exact(let ⟨c,h1,h2⟩:=h;⟨c,hs _ h1,h2⟩)
      ·intro cO w' e bc y' h';cases e with
       |normal=>obtain⟨ps,cc,e1,e2⟩:=IX h';intro X' φ a w hX hR hJ;obtain⟨cV,X2,g1,g2,g3⟩:=Ks w8 hR hJ e1;exact⟨cc,e2,X2,cV,fun b hb=>g1 b (hX b hb),g2,g3⟩
       |_=>cases h'
     cases x with
     |true=>exact wp_cond_true hz (only ca a nf h1)
     |false=>exact wp_cond_false hz (only cb b jF h1)
  ·cases h
 |@block cb b id ts hb ih=>
  intro X st γ δ w k Q y hQ hk h;have Ea:∀{γ:Type} {Q:(γ->Prop)->Exit->Act->World->Prop},wx Q->wx (fun S=>Exit.inBlock id (Q S)):=by
   intro γ Q hQ;refine⟨fun S S' e a w hs h=>?_,fun S a w t v h=>hQ.tP _ _ _ _ _ h⟩;cases e with
   |exit j=>
    show(if j=id then Q S' .normal a w else Q S' (.exit j) a w);have h:(if j=id then Q S .normal a w else Q S (.exit j) a w):=h;split
    ·rename_i e;rw[if_pos e] at h;exact hQ.mono _ _ _ _ _ hs h
    ·rename_i e;rw[if_neg e] at h;exact hQ.mono _ _ _ _ _ hs h
   |_=>exact hQ.mono _ _ _ _ _ hs h
  unfold ev at h;cases hw:Nat.ble 2 (ways id b+(bif tC b then 1 else 0)) with
  |true=>
   rw[hw,cond_true,Ow] at h;generalize Is C sk st ts (ox b)=s at h;obtain⟨y1,h1,h2⟩:=wu h;refine(ih X st _ _ (fun x=>x) _ (fun S=>Exit.inBlock id (JQ C nt sk dA o0 w0 X ts s w Q S)) y1 (Ea (JQ.mono hQ)) ?_ h1).weaken fun a wd hb=>wp_mono (wp_block (vj hb)) fun e a wd hj=>qon hQ hk h2 e a wd hj;intro cO w' e bc y' h';cases e with
   |normal=>exact OG (wr:=w) (Q:=Q) w8 h'
   |exit j=>
    show Sound C nt X _ bc (fun a wd=>if j=id then JQ C nt sk dA o0 w0 X ts s w Q (fun g=>w' g=y') .normal a wd else JQ C nt sk dA o0 w0 X ts s w Q (fun g=>w' g=y') (.exit j) a wd);simp only at h';cases hj:Nat.beq j id with
    |true=>rw[hj,cond_true] at h';have:=zg hj;simp only[this,if_true];exact OG (wr:=w) (Q:=Q) w8 h'
    |false=>
     rw[hj,cond_false] at h';have:¬j=id:=fun e=>by rw[e,Nat.beq_refl] at hj;cases hj
     simp only[this,if_false];exact hk cO (fun g=>w' (.inr (w g))) (.exit j) bc y' h'
   |goto l=>exact hk cO (fun g=>w' (.inr (w g))) (.goto l) bc y' h'
   |ret=>exact hk cO (fun g=>w' (.inr (w g))) .ret bc y' h'
   |panic=>exact hk cO (fun g=>w' (.inr (w g))) .panic bc y' h'
  |false=>
   rw[hw,cond_false] at h;refine(ih X st γ δ w _ (fun S=>Exit.inBlock id (Q S)) y (Ea hQ) ?_ h).weaken fun a wd hb=>wp_block (vj hb);intro cO w' e bc y' h';cases e with
   |normal=>exact hk cO w' .normal bc y' h'
   |exit j=>
    show Sound C nt X _ bc (fun a wd=>if j=id then Q (fun g=>w' g=y') .normal a wd else Q (fun g=>w' g=y') (.exit j) a wd);simp only at h';cases hj:Nat.beq j id with
    |true=>rw[hj,cond_true] at h';have:=zg hj;simp only[this,if_true];exact hk cO w' .normal bc y' h'
    |false=>
     rw[hj,cond_false] at h';have:¬j=id:=fun e=>by rw[e,Nat.beq_refl] at hj;cases hj
     simp only[this,if_false];exact hk cO w' (.exit j) bc y' h'
   |goto l=>exact hk cO w' (.goto l) bc y' h'
   |ret=>exact hk cO w' .ret bc y' h'
   |panic=>exact hk cO w' .panic bc y' h'
 |@loop cb b ts hb ih=>
  intro X st γ δ w k Q y hQ hk h X' φ act wd hX hR hJ;unfold ev at h;rw[Ow] at h;generalize Is C sk st ts (ox b)=s at h;split at h
  ·rename_i p hp;obtain⟨n0,ho⟩:=Ku h;generalize hn:(fun c=>tD sk ts s c fun st=>ev lf C R sk b st (ai s.aW⊕δ) (ai s.aW⊕δ) (fun x=>x) fun cO w' e bc=>match e with
     |.normal=>jE lf sk s (fun c=>w' (.inl c)) (rN 0 sk) bc.obj (ts.map fun t=>dx (bc.env t))
     |e=>k cO (fun g=>w' (.inr (w g))) e bc)=body at ho
   obtain⟨cV,X2,g1,g2,g3⟩:=Ks w8 hR hJ hp;let Pn:Act->World->Nat->Prop:=fun a wd n=>∃cc,lh body n cc=some y/\w7 C nt sk dA o0 w0 X ts s cc a wd;let I:Act->World->Prop:=fun a wd=>∃n,Pn a wd n;refine wp_loop I (fun a wd=>if h:I a wd then Classical.choose (AM h) else 0) ⟨n0,p.2,ho,X2,cV,fun b hb=>g1 b (hX b hb),g2,g3⟩ ?_;intro a wd hI;have hl:=Classical.choose_spec (AM hI);simp only[dif_pos hI];generalize Classical.choose (AM hI)=n at hl;obtain⟨⟨cc,c1,X3,wy,c2,c3,c4⟩,ht⟩:=hl;cases n with
   |zero=>cases c1
   |succ m=>
    simp only[lh] at c1;have run:∀y1,body cc=some y1->cb.wp C.P (JQ C nt sk dA o0 w0 X ts s w Q fun g=>g=y1) a wd:=by
     intro y1 he;rw[<-hn] at he;have he:tD sk ts s cc _=some y1:=he;rw[Ox] at he;refine vj (ih X (iT sk ts s cc) _ _ (fun x=>x) _ (JQ C nt sk dA o0 w0 X ts s w Q) y1 (JQ.mono hQ) ?_ he X3 wy a wd c2 c3 c4);intro cO w' e bc y' h';cases e with
     |normal=>exact OG w8 h'
     |exit id=>exact hk cO (fun g=>w' (.inr (w g))) (.exit id) bc y' h'
     |goto l=>exact hk cO (fun g=>w' (.inr (w g))) (.goto l) bc y' h'
     |ret=>exact hk cO (fun g=>w' (.inr (w g))) .ret bc y' h'
     |panic=>exact hk cO (fun g=>w' (.inr (w g))) .panic bc y' h'
    split at c1
    ·rename_i s' hu;refine wp_mono (run _ hu) fun e a2 w2 hj=>?_;cases e with
     |normal=>obtain⟨c',e1,e2⟩:=hj;injection e1 with e1;subst e1;have hm:I a2 w2:=⟨m,c',c1,e2⟩;refine⟨hm,?_⟩;rw[dif_pos hm];have:=(Classical.choose_spec (AM hm)).2 m ⟨c',c1,e2⟩;omega
     |_=>exact hQ.mono _ _ _ _ _ (fun g hg=>by cases hg) hj
    ·rename_i r hr;injection c1 with c1;subst c1;refine wp_mono (run _ hr) fun e a2 w2 hj=>?_;cases e with
     |normal=>obtain⟨c',e1,_⟩:=hj;cases e1
     |_=>exact hQ.mono _ _ _ _ _ (fun g hg=>by injection hg) hj
    ·cases c1
  ·cases h
 |exit id=>intro X st γ δ w k Q y hQ hk h;exact(hk δ w (.exit id) st y h).weaken fun a w h=>wp_exit h
 |goto l=>intro X st γ δ w k Q y hQ hk h;exact(hk δ w (.goto l) st y h).weaken fun a w h=>wp_goto h
 |ret=>intro X st γ δ w k Q y hQ hk h;exact(hk δ w .ret st y h).weaken fun a w h=>wp_ret h
 |@scope cb b hb ih=>
  intro X st γ δ w k Q y hQ hk h;refine(ih X st γ δ w _ (fun S=>Exit.noGoto (Q S)) y ?_ ?_ h).weaken fun a wd hb=>wp_scope_straight (vj hb)
  ·refine⟨fun S S' e a w hs h=>?_,fun S a w t v h=>hQ.tP _ _ _ _ _ h⟩;cases e<;>first|exact hQ.mono _ _ _ _ _ hs h|exact h
  ·intro cO w' e bc y' h';cases e with
   |normal=>exact hk cO w' .normal bc y' h'
   |exit id=>exact hk cO w' (.exit id) bc y' h'
   |goto l=>cases h'
   |ret=>exact hk cO w' .ret bc y' h'
   |panic=>exact hk cO w' .panic bc y' h'
 |@jump cb cp cr p r l ts h1 h2 hp hr ihp ihr=>
  intro X st γ δ w k Q y hQ hk h;let body:(s:Shape)->(cO:Type)->(γ->cO)->ai s.aW->Option (ai s.aW⊕cO):=fun s δ w c=>tD sk ts s c fun st=>ev lf C R sk r st (ai s.aW⊕δ) (ai s.aW⊕δ) (fun x=>x) fun cO w' e bc=>match e with
     |.goto l'=>bif Nat.beq l' l then jE lf sk s (fun c=>w' (.inl c)) (rN 0 sk) bc.obj (ts.map fun t=>dx (bc.env t)) else none
     |e=>k cO (fun g=>w' (.inr (w g))) e bc
  let JJ:(γ->Prop)->Nat->Act->World->Prop:=fun S n a wd=>∃(s:Shape) (cO:Type) (w':γ->cO) (y':cO),(∀g,w' g=y'->S g)/\∃cc,lh (body s cO w') n cc=some y'/\w7 C nt sk dA o0 w0 X ts s cc a wd;let J:(γ->Prop)->Act->World->Prop:=fun S a wd=>∃n,JJ S n a wd;let Q':(γ->Prop)->Exit->Act->World->Prop:=fun S e a wd=>match e with
   |.normal=>J S a wd
   |.goto _=>False
   |e=>Q S e a wd
  have mJ:∀S S' a wd,(∀g,S g->S' g)->J S a wd->J S' a wd:=fun S S' a wd hs ⟨n,s,cO,w',y',h1,h2⟩=>⟨n,s,cO,w',y',fun g hg=>hs g (h1 g hg),h2⟩;have mQ:wx Q':=by refine⟨fun S S' e a w hs h=>?_,fun S a w t v h=>hQ.tP _ _ _ _ _ h⟩;cases e<;>first|exact hQ.mono _ _ _ _ _ hs h|exact mJ _ _ _ _ hs h|exact h.elim
  have hv:=ihp X st γ δ w _ Q' y mQ (fun cO w' e bc y' h'=>by
   cases e with
   |normal=>
    simp only at h';rw[Ow] at h';generalize Is C sk bc ts (ox r)=s at h';split at h'
    ·rename_i p hp;obtain⟨n0,ho⟩:=Ku h';intro X' φ a wd hX hR hJ;obtain⟨cV,X2,g1,g2,g3⟩:=Ks w8 hR hJ hp;exact⟨n0,s,cO,w',y',fun _ h=>h,p.2,ho,X2,cV,fun b hb=>g1 b (hX b hb),g2,g3⟩
    ·cases h'
   |exit id=>exact hk cO w' (.exit id) bc y' h'
   |goto l=>cases h'
   |ret=>exact hk cO w' .ret bc y' h'
   |panic=>exact hk cO w' .panic bc y' h') h
  intro X' φ act wd hX hR hJ;replace hv:=hv X' φ act wd hX hR hJ;let μ:Act->World->Nat:=fun a wd=>if h:J (fun g=>w g=y) a wd then Classical.choose (AM h) else 0
  have pass:∀a wd,J (fun g=>w g=y) a wd->kD C.P cr (Exit.jump l (fun a' w'=>J (fun g=>w g=y) a' w'/\μ a' w'<μ a wd) (Q fun g=>w g=y)) a wd:=by
   intro a wd hI;have hl:=Classical.choose_spec (AM hI);have hμ:μ a wd=Classical.choose (AM hI):=dif_pos hI;rw[hμ];generalize Classical.choose (AM hI)=n at hl;obtain⟨⟨s,cO,w',y',hS,cc,c1,X3,wy,c2,c3,c4⟩,ht⟩:=hl;cases n with
   |zero=>cases c1
   |succ m=>
    simp only[lh] at c1;let Q2:(ai s.aW⊕cO->Prop)->Exit->Act->World->Prop:=fun T e a wd=>match e with
     |.goto l'=>l'=l/\∃c,T (.inl c)/\w7 C nt sk dA o0 w0 X ts s c a wd
     |e=>Q (fun g=>T (.inr (w' g))) e a wd
    have RP:wx Q2:=by refine⟨fun S S' e a w hs h=>?_,fun S a w t v h=>hQ.tP _ _ _ _ _ h⟩;cases e<;>first|exact hQ.mono _ _ _ _ _ (fun g hg=>hs _ hg) h|exact(let ⟨c0,c,h1,h2⟩:=h;⟨c0,c,hs _ h1,h2⟩)
    have run:∀y1,body s cO w' cc=some y1->kD C.P cr (Q2 fun g=>g=y1) a wd:=by
     intro y1 he;have he:tD sk ts s cc _=some y1:=he;rw[Ox] at he;refine ihr X (iT sk ts s cc) _ _ (fun x=>x) _ Q2 y1 RP ?_ he X3 wy a wd c2 c3 c4;intro OI w2 e bc y2 h';cases e with
     |normal=>exact hk OI (fun g=>w2 (.inr (w' g))) .normal bc y2 h'
     |exit id=>exact hk OI (fun g=>w2 (.inr (w' g))) (.exit id) bc y2 h'
     |goto l'=>
      simp only at h';cases hb:Nat.beq l' l with
      |false=>rw[hb] at h';cases h'
      |true=>rw[hb,cond_true] at h';obtain⟨ps,c,e1,e2⟩:=IX h';intro X' φ a w hX hR hJ;obtain⟨cV,X2,g1,g2,g3⟩:=Ks w8 hR hJ e1;exact⟨zg hb,c,e2,X2,cV,fun b hb=>g1 b (hX b hb),g2,g3⟩
     |ret=>exact hk OI (fun g=>w2 (.inr (w' g))) .ret bc y2 h'
     |panic=>exact hk OI (fun g=>w2 (.inr (w' g))) .panic bc y2 h'
    split at c1
    ·rename_i s' hu;refine vk (run _ hu) fun e a2 w2 hj=>?_;cases e with
     |goto l'=>obtain⟨e0,c',e1,e2⟩:=hj;injection e1 with e1;subst e1;have hB:JJ (fun g=>w g=y) m a2 w2:=⟨s,cO,w',y',hS,c',c1,e2⟩;have hm:J (fun g=>w g=y) a2 w2:=⟨m,hB⟩;refine⟨e0,hm,?_⟩;have RQ:μ a2 w2=Classical.choose (AM hm):=dif_pos hm;rw[RQ];have:=(Classical.choose_spec (AM hm)).2 m hB;omega
     |_=>exact hQ.mono _ _ _ _ _ (fun g hg=>by cases hg) hj
    ·rename_i r0 hF;injection c1 with c1;subst c1;refine vk (run _ hF) fun e a2 w2 hj=>?_;cases e with
     |goto l'=>obtain⟨_,c',e1,_⟩:=hj;cases e1
     |_=>exact hQ.mono _ _ _ _ _ (fun g hg=>hS g (by injection hg)) hj
    ·cases c1
  refine wp_scope_jumps l (J fun g=>w g=y) μ h2 (vj (qu0 cb h1 h2 (vk hv fun e a wd hq=>?_))) fun a wd hI=>vj (pass a wd hI);cases e with
  |normal=>
   refine vk (pass a wd hq) fun e a2 w2 hj=>?_;cases e with
   |goto l'=>exact⟨hj.1,hj.2.1⟩
   |_=>exact hj
  |goto l'=>exact hq.elim
  |_=>exact hq
 |bad c=>intro X st γ δ w k Q y hQ hk h;cases h
end
theorem IY{β:Type}(m:Nat):∀(n:Nat) (acc:List Nat) (k:List Nat->β),∃ts,uZ m n acc k=k ts
 |0,acc,k=>⟨acc,rfl⟩
 |n+1,acc,k=>by
  show ∃ts,(bif Nat.testBit m n then uZ m n (n::acc) k else uZ m n acc k)=k ts;cases Nat.testBit m n
  ·exact IY m n acc k
  ·exact IY m n (n::acc) k
theorem qk6{γ:Type}{rt nt:Nat}:∀(n:Nat) (c:Code) (ex gt:List (Nat×Nat)) (m:Nat) (k:Nat->AC->Option γ) (y:γ),ll rt nt n c ex gt m k=some y->∃m' ac,dR nt c ac/\k m' ac=some y:=by
 intro n
 induction n with
 |zero=>intro c ex gt m k y h;exact⟨m,.bad,.bad c,h⟩
 |succ n ih=>
  intro c ex gt m k y h;cases c with
  |skip=>exact⟨m,.skip,.skip,h⟩
  |label l=>exact⟨m,.skip,.label l,h⟩
  |region id ops d=>
   have h:(bif oZ nt ops.toList then kO (Qu ops.toList m) fun m'=>k m' (.region id ops d) else k m .bad)=some y:=h;cases hd:oZ nt ops.toList with
   |true=>rw[hd,cond_true,o6] at h;exact⟨_,_,.region id ops d hd,h⟩
   |false=>rw[hd,cond_false] at h;exact⟨_,_,.bad _,h⟩
  |seq a b=>have h:(ll rt nt n b ex gt m fun mb b'=>ll rt nt n a ex gt mb fun ma a'=>k ma (.seq a' b'))=some y:=h;obtain⟨mb,b',h1,h2⟩:=ih _ _ _ _ _ _ h;obtain⟨ma,a',h3,h4⟩:=ih _ _ _ _ _ _ h2;exact⟨ma,_,.seq h3 h1,h4⟩
  |cond c a b=>have h:(ll rt nt n a ex gt m fun ma a'=>ll rt nt n b ex gt m fun mb b'=>kO (NJ c|||ma|||mb) fun m'=>uZ m nt [] fun ts=>k m' (.cond c ts a' b'))=some y:=h;obtain⟨ma,a',h1,h2⟩:=ih _ _ _ _ _ _ h;obtain⟨mb,b',h3,h4⟩:=ih _ _ _ _ _ _ h2;rw[o6] at h4;obtain⟨ts,e⟩:=IY m nt [] (fun ts=>k (NJ c|||ma|||mb) (.cond c ts a' b'));rw[e] at h4;exact⟨_,_,.cond c ts h1 h3,h4⟩
  |block id b=>have h:(ll rt nt n b ((id,m)::ex) gt m fun mb b'=>uZ m nt [] fun ts=>k mb (.block id ts b'))=some y:=h;obtain⟨mb,b',h1,h2⟩:=ih _ _ _ _ _ _ h;obtain⟨ts,e⟩:=IY m nt [] (fun ts=>k mb (.block id ts b'));rw[e] at h2;exact⟨_,_,.block id ts h1,h2⟩
  |loop b=>have h:(ll rt nt n b ex gt 0 fun m1 _=>ll rt nt n b ex gt m1 fun m2 b'=>uZ m2 nt [] fun ts=>k m2 (.loop ts b'))=some y:=h;obtain⟨m1,_,_,h2⟩:=ih _ _ _ _ _ _ h;obtain⟨m2,b',h3,h4⟩:=ih _ _ _ _ _ _ h2;obtain⟨ts,e⟩:=IY m2 nt [] (fun ts=>k m2 (.loop ts b'));rw[e] at h4;exact⟨_,_,.loop ts h3,h4⟩
  |exit id=>exact⟨_,_,.exit id,h⟩
  |goto l=>exact⟨_,_,.goto l,h⟩
  |ret=>exact⟨_,_,.ret,h⟩
  |scope b=>
   have h:(match NK b b with
    |none=>ll rt nt n b ex gt m fun mb b'=>k mb (.scope b')
    |some l=>match ahead l b,findLabel b l with
     |some p,some r=>ll rt nt n r ex ((l,0)::gt) m fun m1 _=>ll rt nt n r ex ((l,m1)::gt) m fun m2 r'=>ll rt nt n p ex gt m2 fun mp p'=>uZ m2 nt [] fun ts=>k mp (.jump l ts p' r')
     |_,_=>k m .bad)=some y:=h
   split at h
   ·obtain⟨mb,b',h1,h2⟩:=ih _ _ _ _ _ _ h;exact⟨_,_,.scope h1,h2⟩
   ·rename_i l _;split at h
    ·rename_i p r ep er;obtain⟨m1,_,_,h2⟩:=ih _ _ _ _ _ _ h;obtain⟨m2,r',h3,h4⟩:=ih _ _ _ _ _ _ h2;obtain⟨mp,p',h5,h6⟩:=ih _ _ _ _ _ _ h4;obtain⟨ts,e⟩:=IY m2 nt [] (fun ts=>k mp (.jump l ts p' r'));rw[e] at h6;exact⟨_,_,.jump l ts ep er h5 h3,h6⟩
    ·exact⟨_,_,.bad _,h⟩
  |_=>exact⟨m,.bad,.bad _,h⟩
theorem RR:∀(vs:List V) (i:Nat) (env:Nat->V) (t:Nat),(∀j,t=i+j->∀v,vs[j]?=some v->tE env i vs t=v)/\((t<i\/i+vs.length<=t)->tE env i vs t=env t)
 |[],i,env,t=>⟨fun j _ v h=>by simp at h,fun _=>rfl⟩
 |x::r,i,env,t=>by
  obtain⟨h1,h2⟩:=RR r (i+1) (cP env i x) t;refine⟨fun j hj v hv=>?_,fun hj=>?_⟩
  ·show tE (cP env i x) (i+1) r t=v;cases j with
   |zero=>rw[h2 (.inl om),hj,Nat.add_zero,eL];simpa using hv
   |succ j=>exact h1 j om v (by simpa using hv)
  ·show tE (cP env i x) (i+1) r t=env t;simp only[zw] at hj;rw[h2 om,nH om]
section
variable {C:Cx} {R:fI C.sigs}
def OJ(p:Bool)(cm:List Value)(e:Ending):Prop:=match p with
 |false=>e=.returned (rW cm)
 |true=>∃z b r,cm=z::.bool b::r/\((b=false/\e=.returned (rW r))\/(b=true/\∃t v,e=.panicked (ni t v)))
theorem qk7{p:Bool}{zs:List Value}:OJ p (bif p then undef::.bool false::zs else zs) (.returned (rW zs)):=by
 cases p with
 |false=>rfl
 |true=>exact⟨undef,false,zs,rfl,.inl ⟨rfl,rfl⟩⟩
theorem qql{p:Bool}{cm:List Value}{e:Ending}(h:OJ p cm e):w5 p (rW cm) e:=by
 cases p with
 |false=>exact h
 |true=>obtain⟨z,b,r,rfl,h⟩:=h;exact⟨z,b,r,rfl,h⟩
theorem Kv(imm:Nat->Prop)(w:World):∀t:Ty,∃cs,aC imm w t (zero t) cs
 |.unit=>⟨[],rfl⟩
 |.pair a b=>by obtain⟨c,h1⟩:=Kv imm w a;obtain⟨d,h2⟩:=Kv imm w b;exact⟨c++d,c,d,rfl,h1,h2⟩
 |.st p=>Kv imm w p
 |.arr n e=>by
  obtain⟨c,h1⟩:=Kv imm w e;have key:∀n,∃cs,bf (aC imm w e) (List.replicate n (zero e)) cs:=by
   intro n
   induction n with
   |zero=>exact⟨[],rfl⟩
   |succ n ih=>obtain⟨cs,h⟩:=ih;exact⟨c++cs,c,cs,rfl,h1,h⟩
  obtain⟨cs,h⟩:=key n;exact⟨cs,by show List.length (List.replicate n (zero e))=n;simp,h⟩
 |.int k=>⟨[.int k 0],rfl,by cases k<;>exact⟨by decide,by decide⟩⟩
 |.bool=>⟨_,rfl⟩
 |.eD=>⟨_,rfl⟩
 |.eU=>⟨_,rfl⟩
 |.str=>⟨_,ByteArray.empty,rfl,rfl,by decide⟩
 |.sl _=>⟨_,_,rfl,Nat.zero_le _,.inl ⟨rfl,rfl,rfl⟩⟩
 |.ks _=>⟨_,1,_,rfl,Nat.zero_le _,.inl ⟨rfl,rfl,rfl⟩⟩
theorem qu1(imm:Nat->Prop)(w:World){t:Ty}(ht:QC t=true):∃v,aX imm w t (zero t) v:=by
 obtain⟨cs,h⟩:=Kv imm w t;have hl:=gB t _ _ h;cases t with
 |unit=>cases ht
 |pair a b=>cases ht
 |st p=>exact⟨.agg cs.toArray,cs.toArray,rfl,h⟩
 |arr n e=>exact⟨.agg cs.toArray,cs.toArray,rfl,h⟩
 |_=>
  match cs,hl with
  |[v],_=>exact⟨v,h⟩
theorem qu2(hC:cf C){nt:Fr}{X:Nat->Prop}{φ:Nat->Addr}{st:St}{a:Act}{w:World}(h:Rel C nt X φ st a w):∀(rs:List ResultVar) (vs:List V),vd lf C st rs=some vs->∃zs,bW φ st.obj (ah X φ st.obj w) w vs zs/\(rs.mapM fun(r:ResultVar)=>(match r with
   |.tmp t=>(pure (a.tmps.getD t undef):Sem Value)
   |.cell q t=>do loadVar t (<-asAddr (a.tmps.getD q undef)))).run C.P w=.ok zs w:=by
 intro rs
 induction rs with
 |nil=>intro vs h1;injection h1 with h1;subst h1;exact⟨[],rfl,by simp⟩
 |cons r rs ih=>
  intro vs h1;cases r with
  |tmp t=>
   simp only[vd] at h1;split at h1
   ·rename_i l h2;injection h1 with h1;subst h1;obtain⟨zs,h3,h4⟩:=ih _ h2;exact⟨a.tmps.getD t undef::zs,⟨_,_,rfl,J0 (h.env t),h3⟩,by simp only[List.mapM_cons,Sem.run_bind,Sem.run_pure,Result.andThen_ok,h4]⟩
   ·cases h1
  |cell q t=>
   simp only[vd] at h1;split at h1
   ·rename_i v u hv;split at h1
    ·rename_i l h2;injection h1 with h1;subst h1;obtain⟨zs,h3,h4⟩:=ih _ h2;obtain⟨_,z,h5,h6⟩:=qjc (v:=v) (u:=u) hC h.toMRel (h.env q) (by rw[hv];exact⟨rfl,rfl⟩);refine⟨z::zs,⟨_,_,rfl,h6,h3⟩,?_⟩;have hl:(asAddr (a.tmps.getD q undef)>>=fun ad=>loadVar t ad).run C.P w=.ok z w:=by
      unfold Instr.loadAt at h5;generalize a.tmps.getD q undef=zq at h5 ⊢;cases zq with
      |pointer p=>cases p with
       |none=>exact absurd h5 (by simp[Instr.sureAddr,stuck])
       |some ad=>simpa[Instr.sureAddr,asAddr] using h5
      |_=>exact absurd h5 (by simp[Instr.sureAddr,stuck])
     rw[Sem.run_bind] at hl;simp only[List.mapM_cons,Sem.run_bind,Sem.run_pure];rw[hl];simp only[Result.andThen_ok,h4]
    ·cases h1
   ·cases h1
theorem qg1{φ:Nat->Addr}{o:Nat->Obj}{imm:Nat->Prop}{w:World}:∀l:List Sh,∃zs,bW φ o imm w (wU l) zs
 |[]=>⟨[],rfl⟩
 |s::r=>by
  obtain⟨zs,h⟩:=qg1 r;cases s with
  |d t=>
   cases ht:QC t with
   |true=>
    obtain⟨v,hv⟩:=qu1 imm w ht;have e:wU (.d t::r)=.d t (zero t)::wU r:=by simp only[wU,ht,cond_true]
    rw[e];exact⟨v::zs,v,zs,rfl,hv,h⟩
   |false=>
    have e:wU (.d t::r)=.bM::wU r:=by simp only[wU,ht,cond_false]
    rw[e];exact⟨undef::zs,_,_,rfl,trivial,h⟩
  |_=>exact⟨undef::zs,_,_,rfl,trivial,h⟩
def pB(C:Cx)(i:Nat)(x:ai (aL C.sigs i).ins.aW)(y:ai (aL C.sigs i).outs.aW)(X:Nat->Prop)(φ:Nat->Addr)(w:World)(e:Ending)(w':World):Prop:=
 ∃cm φ' X',OJ (gQ (aL C.sigs i).outs) cm e/\(∀b,X b->X' b)/\MRel C X' φ' (a7 (aL C.sigs i).outs y) w'/\
  bW φ' (a7 (aL C.sigs i).outs y) (ah X' φ' (a7 (aL C.sigs i).outs y) w') w' (fill cg bO (aL C.sigs i).outs y).1 cm/\
  cL (aL C.sigs i).bD φ (a7 (aL C.sigs i).ins x) w φ' (a7 (aL C.sigs i).outs y) w'
def nj(C:Cx)(i:Nat)(x:ai (aL C.sigs i).ins.aW)(y:ai (aL C.sigs i).outs.aW):Prop:=
 ∀X φ w zs,MRel C X φ (a7 (aL C.sigs i).ins x) w->bW φ (a7 (aL C.sigs i).ins x) (ah X φ (a7 (aL C.sigs i).ins x) w) w (fill cg bO (aL C.sigs i).ins x).1 zs->
  (∃fn,C.P.funcs[(aL C.sigs i).f]?=some fn/\fn.body.isNone=false)/\Calls C.P (aL C.sigs i).f zs.toArray w (pB C i x y X φ w)
theorem qk8(hC:cf C)(hE:jI C)(HC:∀X φ o w,MRel C X φ o w->∀fr f,rX C R X φ o w fr f)(HD:∀nt sk dA o0 w0,OF C nt R (HJ sk dA o0 w0)){i:Nat}{x:ai (aL C.sigs i).ins.aW}{y:ai (aL C.sigs i).outs.aW}(h:Iu lf C R i x=some y):nj C i x y:=by
 intro X φ w zs hm hz;unfold Iu at h;simp only at h;split at h
 ·cases h
 ·rename_i fn hf;rw[zG] at hf;split at h
  ·cases h
  ·rename_i b hb;refine⟨⟨fn,hf,by rw[hb];rfl⟩,?_⟩;cases hn:(Ii (aL C.sigs i).ins.ay.length (aL C.sigs i).bD&&Nat.ble (fill id (fun _=>0) (aL C.sigs i).ins x).1.length fn.ntmps) with
   |false=>rw[hn] at h;cases h
   |true=>
    rw[hn,cond_true] at h;rw[zd] at hn;obtain⟨hv,hn⟩:=hn;obtain⟨m',ac,hA,hx⟩:=qk6 _ _ _ _ _ _ _ h;have hy:=wW hz;have hn:(fill cg bO (aL C.sigs i).ins x).1.length<=fn.ntmps:=zF hn;have hH:zs.length<=fn.ntmps:=om
    refine calls_of_wp hf hb ?_;let PR:ai (aL C.sigs i).outs.aW->Act->World->Prop:=fun yy a wd=>a.defers=[]/\∃v,(results fn a.tmps).run C.P wd=.ok v wd/\pB C i x yy X φ w (.returned v) wd;have hk:IW C ⟨fn.ntmps,[]⟩ (HJ (aL C.sigs i).bD φ (a7 (aL C.sigs i).ins x) w) X (fun _ w e st=>match e with
     |.normal=>tF lf C (aL C.sigs i).bD (aL C.sigs i).outs w st fn.results.toList
     |.ret=>tF lf C (aL C.sigs i).bD (aL C.sigs i).outs w st fn.results.toList
     |.panic=>NU lf (aL C.sigs i).bD (aL C.sigs i).outs w st
     |_=>none) (fun S e a wd=>match e with|.normal=>∃yy,S yy/\PR yy a wd|.ret=>∃yy,S yy/\PR yy a wd|.panic ch=>∃yy,S yy/\a.defers=[]/\pB C i x yy X φ w (.panicked ch) wd|_=>False):=by
     have fin:∀(δ:Type) (wr:ai (aL C.sigs i).outs.aW->δ) (st:St) (y':δ),tF lf C (aL C.sigs i).bD (aL C.sigs i).outs wr st fn.results.toList=some y'->
       Sound C ⟨fn.ntmps,[]⟩ X (HJ (aL C.sigs i).bD φ (a7 (aL C.sigs i).ins x) w) st (fun a wd=>∃yy,wr yy=y'/\PR yy a wd):=by
      intro δ wr st y' hg X' cV a wd hX hR hJ;unfold tF at hg;split at hg
      ·rename_i vs hB;obtain⟨ps,cc,hp,hw⟩:=IX hg;obtain⟨hp,hj,hc⟩:=OC hp;obtain⟨cm,r1,r2⟩:=qu2 hC hR _ _ hB;have RS:bW cV st.obj (ah X' cV st.obj wd) wd (bif gQ (aL C.sigs i).outs then .bM::.d .bool false::vs else vs) (bif gQ (aL C.sigs i).outs then undef::.bool false::cm else cm):=by
        cases gQ (aL C.sigs i).outs with
        |false=>exact r1
        |true=>exact⟨_,_,rfl,trivial,_,_,rfl,tJ,r1⟩
       obtain⟨q1,q2⟩:=Kr hR.toMRel hp RS;obtain⟨he,_⟩:=Fj hp;refine⟨cc,hw,hR.defers,rW cm,?_,_,_,_,qk7,fun b hb=>.inl (hX b hb),q1,q2,⟨hJ.size,hJ.frame,fun b hb=>hJ.news b (he.gV hb),hJ.still,fun id hi=>(hJ.up id hi).trans (RH he (RG hp _ (RF hi)) (OA hj id hi) (OB hc id hi))⟩⟩;have key:∀(q:Sem (List Value)),q.run C.P wd=.ok cm wd->((Functor.map List.toArray q)>>=fun vs=>(pure (if h:vs.size=1 then vs[0] else Value.tuple vs):Sem Value)).run C.P wd=.ok (rW cm) wd:=by
        intro q hq;rw[Sem.run_bind,Sem.run_map,hq]
        match cm with
        |[]=>rfl
        |[v]=>rfl
        |a::b::r=>rfl
       unfold results;rw[Array.mapM_eq_mapM_toList];exact key _ r2
      ·cases hg
     intro δ wr e st y' hg;cases e with
     |normal=>exact fin δ wr st y' hg
     |ret=>exact fin δ wr st y' hg
     |panic=>
      intro X' cV a wd hX hR hJ;have hg:NU lf (aL C.sigs i).bD (aL C.sigs i).outs wr st=some y':=hg;unfold NU at hg;cases hl:gQ (aL C.sigs i).outs with
      |false=>rw[hl] at hg;cases hg
      |true=>rw[hl,cond_true] at hg;obtain⟨ps,cc,hp,hw⟩:=IX hg;obtain⟨hp,hj,hc⟩:=OC hp;obtain⟨zs,hF⟩:=qg1 (φ:=cV) (o:=st.obj) (imm:=ah X' cV st.obj wd) (w:=wd) ((aL C.sigs i).outs.roots.drop 2);obtain⟨q1,q2⟩:=Kr hR.toMRel hp (show bW cV st.obj (ah X' cV st.obj wd) wd (.bM::.d .bool true::wU ((aL C.sigs i).outs.roots.drop 2)) (undef::.bool true::zs) from⟨_,_,rfl,trivial,_,_,rfl,tJ,hF⟩);obtain⟨he,_⟩:=Fj hp;refine⟨cc,hw,hR.defers,_,_,_,by rw[hl];exact⟨undef,true,zs,rfl,.inr ⟨rfl,0,undef,rfl⟩⟩,fun b hb=>.inl (hX b hb),q1,q2,⟨hJ.size,hJ.frame,fun b hb=>hJ.news b (he.gV hb),hJ.still,fun id hi=>(hJ.up id hi).trans (RH he (RG hp _ (RF hi)) (OA hj id hi) (OB hc id hi))⟩⟩
     |exit id=>cases hg
     |goto l=>cases hg
    have hQ:wx (fun(S:ai (aL C.sigs i).outs.aW->Prop) e a wd=>match e with|.normal=>∃yy,S yy/\PR yy a wd|.ret=>∃yy,S yy/\PR yy a wd|.panic ch=>∃yy,S yy/\a.defers=[]/\pB C i x yy X φ w (.panicked ch) wd|_=>False):=by
     refine⟨fun S S' e a wd hs h=>?_,fun S a wd t v h=>?_⟩;rotate_left
     ·obtain⟨yy,h1,h2,cm,φ',X',h3,h4⟩:=h;refine⟨yy,h1,h2,cm,φ',X',?_,h4⟩;revert h3;cases gQ (aL C.sigs i).outs with
      |false=>intro h;cases h
      |true=>
       rintro⟨z,b,r,e1,h⟩;refine⟨z,b,r,e1,?_⟩;rcases h with ⟨_,h⟩|⟨h,_⟩
       ·cases h
       ·exact .inr ⟨h,t,v,rfl⟩
     cases e<;>first|exact h.elim|exact(let ⟨c,h1,h2⟩:=h;⟨c,hs _ h1,h2⟩)
    have hG:Rel C ⟨fn.ntmps,[]⟩ X φ ⟨tE (fun _=>.undef) 0 (fill cg bO (aL C.sigs i).ins x).1,a7 (aL C.sigs i).ins x⟩
      {tmps:=zs.toArray++Array.replicate (fn.ntmps-zs.toArray.size) undef,defers:=[]} w:=by
     refine⟨hm,by simp;omega,fun t=>?_,rfl⟩;obtain⟨g1,g2⟩:=RR (fill cg bO (aL C.sigs i).ins x).1 0 (fun _=>.undef) t;by_cases ht:t<(fill cg bO (aL C.sigs i).ins x).1.length
     ·obtain⟨z,e1,e2⟩:=IG hz (ze ht);have:=g1 t om _ (ze ht);show au φ _ _ w (tE _ 0 _ t) _;rw[this];have e3:(zs.toArray++Array.replicate (fn.ntmps-zs.toArray.size) undef).getD t undef=z:=by
       have ho:t<zs.length:=om
       rw[Array.getD_eq_getD_getElem?,Array.getElem?_append_left (by simpa using ho)];simp[e1]
      rw[e3];exact e2
     ·show au φ _ _ w (tE _ 0 _ t) _;rw[g2 (.inr om)];have e3:(zs.toArray++Array.replicate (fn.ntmps-zs.toArray.size) undef).getD t undef=undef:=by
       have ho:zs.length<=t:=om
       rw[Array.getD_eq_getD_getElem?,Array.getElem?_append_right (by simpa using ho)];simp only[Array.getElem?_replicate];split<;>rfl
      exact e3
    have hu:=vj (RO hC hE HC (HD ⟨fn.ntmps,[]⟩ _ φ (a7 (aL C.sigs i).ins x) w) (qtx hv) hA X _ _ _ _ _ _ y hQ hk hx X φ _ w (fun _ h=>h) hG (cL.refl _ _ _ _));refine wp_mono hu fun e a wd hq=>?_;cases e with
    |normal=>obtain⟨yy,e1,h1,v,h2,h3⟩:=hq;subst e1;exact⟨h1,v,h2,h3⟩
    |ret=>obtain⟨yy,e1,h1,v,h2,h3⟩:=hq;subst e1;exact⟨h1,v,h2,h3⟩
    |panic ch=>obtain⟨yy,e1,h1,h2⟩:=hq;subst e1;exact⟨h1,h2⟩
    |_=>exact hq.elim
end
def RT:List Oper->Bool
 |[]=>false
 |o::r=>(match o.op with|.defer _=>true|_=>false)||RT r
def IZ:AC->Option (AC×Nat×Array Oper×AC)
 |.seq a b=>match IZ a with
  |some (x,i,o,y)=>some (x,i,o,.seq y b)
  |none=>match IZ b with
   |some (x,i,o,y)=>some (.seq a x,i,o,y)
   |none=>none
 |.region i ops false=>bif RT ops.toList then some (.skip,i,ops,.skip) else none
 |_=>none
def Kw:List Oper->Option (List Oper×Operand)
 |[]=>none
 |[o]=>match o.op,o.guard,o.dst with
  |.defer c,none,none=>match c.callee,c.args.toList with
   |.value x,[]=>some ([],x)
   |_,_=>none
  |_,_,_=>none
 |o::r=>match Kw r with
  |some (l,x)=>some (o::l,x)
  |none=>none
def OK:List V->Option (List Nat)
 |[]=>some []
 |.ptr id 0::r=>match OK r with
  |some l=>some (id::l)
  |none=>none
 |_=>none
def Bu(o:Nat->Obj):List Nat->Bool
 |[]=>true
 |id::r=>(match o id with|.box _=>true|_=>false)&&Bu o r
def I0(k:Nat):List Nat->Bool
 |[]=>true
 |id::r=>Nat.blt id k&&!(bH id r)&&I0 k r
theorem qa1{k:Nat}:∀{sk:List Nat},I0 k sk=true->(∀id,id∈sk->id<k)/\sk.Nodup
 |[],_=>⟨fun id h=>(by cases h),List.nodup_nil⟩
 |b::r,h=>by
  simp only[I0,zd,Nat.blt_eq] at h;obtain⟨⟨h1,h3⟩,h4⟩:=h;obtain⟨g1,g2⟩:=qa1 h4;refine⟨fun id hi=>?_,List.nodup_cons.2 ⟨fun hm=>?_,g2⟩⟩
  ·rcases zt.1 hi with rfl|hi
   ·exact h1
   ·exact g1 id hi
  ·rw[fx.2 hm] at h3;cases h3
theorem qmj{sk:List Nat}(h:I0 (1000000+sk.length) sk=true):gX sk:=by
 obtain⟨g1,g2⟩:=qa1 h;have inj:∀i j,cD sk i=cD sk j->i=j:=fun i j e=>by
  unfold cD at e;split at e
  ·rename_i a ha;obtain⟨hi,ea⟩:=zB.1 ha;split at e
   ·rename_i b hb;subst e;obtain⟨hj,eb⟩:=zB.1 hb;exact(List.getElem_inj (h₀:=hi) (h₁:=hj) g2).1 (by rw[ea,eb])
   ·rename_i hn;have:=g1 a (zj ha);have:=List.getElem?_eq_none_iff.1 hn;omega
  ·rename_i hn;have:=List.getElem?_eq_none_iff.1 hn;split at e
   ·rename_i b hb;have:=g1 b (zj hb);omega
   ·omega
 refine⟨fun id=>by
  classical
  exact if h:∃j,cD sk j=id then h.choose else 0,fun j=>?_⟩
 have hx:∃i,cD sk i=cD sk j:=⟨j,rfl⟩;simp only[dif_pos hx];exact inj _ _ hx.choose_spec
structure Bv where
 f:Nat
 n:Nat
 st:List (Nat×TypeId×V×Value)
def w9:List (Nat×TypeId×V×Value)->List Value->Sem Unit
 |[],_=>pure ()
 |q::r,zs=>do
  Instr.storeAt q.2.1 (zs.getD q.1 undef) q.2.2.2
  w9 r zs
structure OL (P:Program) (D:Bv):Prop where
 idle:∀(zs:List Value) w,zs.length=D.n->CallsD P D.f zs.toArray .returning w fun e u w'=>e=.returned (.tuple #[])/\u=.returning/\w'=w
 tP:∀(zs:List Value) w w' t v,zs.length=D.n->(w9 D.st zs).run P w=.ok () w'->CallsD P D.f zs.toArray (.panicking (ni t v)) w fun e u w2=>e=.returned (.tuple #[])/\u=.panicking [{v:=.iface t v,recovered:=true}]/\w2=w'
 cm:∀q,q∈D.st->∀φ o imm w,au φ o imm w q.2.2.1 q.2.2.2
 fn:∃fn,P.funcs[D.f]?=some fn/\(fn.name== "runtime.NumGoroutine")=false/\fn.body.isNone=false
section
variable (L:Lf) (C:Cx) (R:fI C.sigs)
def xa{β:Type}:List (Nat×TypeId×V×Value)->List V->(Nat->Obj)->((Nat->Obj)->Option β)->Option β
 |[],_,o,k=>k o
 |q::r,cs,o,k=>match Nv L C o q.2.1 (cs.getD q.1 .bM) q.2.2.1 with
  |.lj _ u=>JU o u fun o=>xa r cs o k
  |_=>none
def kD2(D:Bv)(i:Nat)(rs:List ResultVar)(cs:List V)(ids:List Nat):(δ:Type)->(ai (aL C.sigs i).outs.aW->δ)->Ex->St->Option δ:=fun _δ w e st=>match e with
 |.ret=>tF L C [] (aL C.sigs i).outs w st rs
 |.normal=>tF L C [] (aL C.sigs i).outs w st rs
 |.panic=>bif Bu st.obj ids then xa L C D.st cs st.obj fun o=>tF L C [] (aL C.sigs i).outs w {st with obj:=o} rs else none
 |_=>none
def kDf(D:Bv)(i:Nat)(rs:List ResultVar)(Eb:Operand)(B:AC){δ:Type}(w:ai (aL C.sigs i).outs.aW->δ)(st:St):Option δ:=match bU C st.env Eb with
 |.fn f cs=>match OK cs with
  |some ids=>bif Nat.beq f D.f&&Nat.beq cs.length D.n&&Nat.blt f 1048576&&I0 (1000000+ids.length) ids&&Bu st.obj ids then
    ev L C R ids B st (ai (aL C.sigs i).outs.aW) δ w (kD2 L C D i rs cs ids) else none
  |none=>none
 |_=>none
def kD1(D:Bv)(i:Nat)(rs:List ResultVar)(rg:Nat)(ops:List Oper)(pre:List Oper)(Eb:Operand)(B:AC):(δ:Type)->(ai (aL C.sigs i).outs.aW->δ)->Ex->St->Option δ:=fun _ w e st=>match e with
 |.ret=>tF L C [] (aL C.sigs i).outs w st rs
 |.normal=>lp L C R rg ops none (2*ops.length+2) w 0 pre st (kDf L C R D i rs Eb B) (fun _ _=>none)
 |_=>none
def OM(D:Bv)(i:Nat)(x:ai (aL C.sigs i).ins.aW):Option (ai (aL C.sigs i).outs.aW):=
 let sg:=aL C.sigs i
 match C.P.funcs.toList[sg.f]? with
 |none=>none
 |some fn=>match fn.body with
  |none=>none
  |some b=>
   let p:=fill id (fun _=>0) sg.ins x
   bif cR (aL C.sigs i).bD&&Nat.ble p.1.length fn.ntmps then ll (vc fn.results.toList) fn.ntmps 1000 b [] [] (vc fn.results.toList) fun _ ac=>
    match IZ ac with
    |none=>none
    |some (A,rg,ops,B)=>match Kw ops.toList with
     |none=>none
     |some (pre,Eb)=>ev L C R [] A ⟨tE (fun _=>.undef) 0 p.1,ak (fun _=>Obj.none) p.2⟩
      (ai (aL C.sigs i).outs.aW) (ai (aL C.sigs i).outs.aW) (fun x=>x) (kD1 L C R D i fn.results.toList rg ops.toList pre Eb B) else none
end
theorem qy6{nt:Nat}{c:Code}{ac:AC}(hA:dR nt c ac):∀{x y:AC} {i:Nat} {o:Array Oper},IZ ac=some (x,i,o,y)->∃a b,dR nt a x/\dR nt b y/\oZ nt o.toList=true/\∀(P:Program) (Q:Exit->Act->World->Prop) (act:Act) (w:World),kD P a (Exit.then (fun act w=>(Code.region i o false).wp P (Exit.then (kD P b Q) Q) act w) Q) act w->kD P c Q act w:=by
 induction hA with
 |region id ops d h=>
  intro x y i o e;cases d with
  |true=>cases e
  |false=>
   simp only[IZ] at e;cases hd:RT ops.toList with
   |false=>rw[hd] at e;cases e
   |true=>rw[hd,cond_true] at e;injection e with e;simp only[Prod.mk.injEq] at e;obtain⟨rfl,rfl,rfl,rfl⟩:=e;refine⟨.skip,.skip,.skip,.skip,h,fun P Q act w hq=>?_⟩;exact wp_mono (show(Code.region id ops false).wp P (Exit.then (kD P .skip Q) Q) act w from hq) fun e a w h=>by cases e<;>exact h
 |@seq ca cb a b ha hb nf jF=>
  intro x y i o e;simp only[IZ] at e;split at e
  ·rename_i x1 i1 o1 y1 e1;injection e with e;simp only[Prod.mk.injEq] at e;obtain⟨rfl,rfl,rfl,rfl⟩:=e;obtain⟨a0,b0,g1,g2,g3,g4⟩:=nf e1;refine⟨a0,.seq b0 cb,g1,.seq g2 hb,g3,fun P Q act w hq=>?_⟩;show kD P ca (Exit.then (kD P cb Q) Q) act w;refine g4 P _ act w (vk hq fun e a w h=>?_);cases e with
   |normal=>exact wp_mono (show(Code.region _ _ false).wp P _ a w from h) fun e a w h=>by cases e<;>exact h
   |_=>exact h
  ·split at e
   ·rename_i x1 i1 o1 y1 e1;injection e with e;simp only[Prod.mk.injEq] at e;obtain⟨rfl,rfl,rfl,rfl⟩:=e;obtain⟨a0,b0,g1,g2,g3,g4⟩:=jF e1;refine⟨.seq ca a0,b0,.seq ha g1,g2,g3,fun P Q act w hq=>?_⟩;show kD P ca (Exit.then (kD P cb Q) Q) act w;refine vk (show kD P ca (Exit.then (kD P a0 _) _) act w from hq) fun e a w h=>?_;cases e with
    |normal=>exact g4 P Q a w h
    |_=>exact h
   ·cases e
 |_=>intro x y i o e;cases e
theorem qg3:∀{l pre:List Oper} {x:Operand},Kw l=some (pre,x)->∃o c,l=pre++[o]/\o.op=.defer c/\o.guard=none/\o.dst=none/\c.callee=.value x/\c.args=#[]
 |[],_,_,h=>by cases h
 |[o],pre,x,h=>by
  simp only[Kw] at h;split at h
  ·rename_i c e1 e2 e3;split at h
   ·rename_i x' e4 e5;injection h with h;simp only[Prod.mk.injEq] at h;obtain⟨rfl,rfl⟩:=h;exact⟨o,c,rfl,e1,e2,e3,e4,Array.toList_inj.1 e5⟩
   ·cases h
  ·cases h
 |o::o2::r,pre,x,h=>by
  simp only[Kw] at h;split at h
  ·rename_i l x' e;injection h with h;simp only[Prod.mk.injEq] at h;obtain⟨rfl,rfl⟩:=h;obtain⟨q,c,h1,h2⟩:=qg3 (l:=o2::r) e;exact⟨q,c,by rw[h1];rfl,h2⟩
  ·cases h
theorem qk9{φ φ':Nat->Addr}{o o':Nat->Obj}{imm imm':Nat->Prop}{w w':World}:∀{vs:List V} {zs:List Value} {ids:List Nat},OK vs=some ids->Bu o ids=true->Bu o' ids=true->(∀id,id∈ids->∀c c',o id=.box c->o' id=.box c'->φ' id=φ id)->bW φ o imm w vs zs->bW φ' o' imm' w' vs zs
 |[],_,_,_,_,_,_,h=>h
 |v::r,zs,ids,hc,h1,h2,hf,h=>by
  cases v with
  |ptr id off=>
   cases off with
   |succ n=>cases hc
   |zero=>
    simp only[OK] at hc;split at hc
    ·rename_i l hl;injection hc with hc;subst hc;obtain⟨z,rs,rfl,g1,g2⟩:=h;simp only[Bu,zd] at h1 h2;refine⟨z,rs,rfl,?_,qk9 hl h1.2 h2.2 (fun id hi=>hf id (zh _ hi)) g2⟩;obtain⟨b1,_⟩:=h1;obtain⟨b2,_⟩:=h2;unfold au at g1 ⊢;cases e1:o id<;>rw[e1] at b1 g1<;>first|cases b1|skip
     cases e2:o' id<;>rw[e2] at b2<;>first|cases b2|skip
     simp only at g1 ⊢;rw[hf id (zf ..) _ _ e1 e2];exact g1
    ·cases hc
  |_=>cases hc
theorem qg4{φ:Nat->Addr}{o:Nat->Obj}{imm:Nat->Prop}{w:World}:∀{vs:List V} {zs:List Value} (k:Nat),bW φ o imm w vs zs->au φ o imm w (vs.getD k .bM) (zs.getD k undef)
 |[],_,_,_=>trivial
 |v::r,_,0,⟨z,rs,e,h,_⟩=>by subst e;exact h
 |v::r,_,k+1,⟨z,rs,e,_,h⟩=>by subst e;have:=qg4 k h;simpa using this
section
variable {C:Cx} {R:fI C.sigs}
theorem qu4(hC:cf C){nt:Fr}{X:Nat->Prop}{a:Act}{env:Nat->V}{sk:List Nat}{dA:Nat->Addr}{o0:Nat->Obj}{w0:World}{β:Type}{cs:List V}{zs:List Value}{k:(Nat->Obj)->Option β}{y:β}:∀(l:List (Nat×TypeId×V×Value)),(∀q,q∈l->∀φ o imm w,au φ o imm w q.2.2.1 q.2.2.2)->∀{φ:Nat->Addr} {o:Nat->Obj} {w:World},Rel C nt X φ ⟨env,o⟩ a w->cL sk dA o0 w0 φ o w->bW φ o (ah X φ o w) w cs zs->xa lf C l cs o k=some y->∃φ' o' w',(w9 l zs).run C.P w=.ok () w'/\Rel C nt X φ' ⟨env,o'⟩ a w'/\cL sk dA o0 w0 φ' o' w'/\k o'=some y
 |[],_,φ,o,w,hR,hJ,_,h=>⟨φ,o,w,rfl,hR,hJ,h⟩
 |q::r,hv,φ,o,w,hR,hJ,hc,h=>by
  unfold xa at h;split at h
  ·rename_i v u he;rw[RC] at h;obtain⟨w1,jZ,g1,g2⟩:=qfn (v:=v) (u:=u) hC hR.toMRel (qg4 q.1 hc) (hv q (zf ..) φ o _ w) (by rw[he];exact⟨rfl,rfl⟩);have hf:Rel C nt X jZ ⟨env,ak o u⟩ a w1:=hR.w6 g2;obtain⟨φ',o',w',g3,g4⟩:=qu4 hC r (fun q hq=>hv q (zh _ hq)) hf (hJ.step g2) (D3 (fun x z hx=>g2.keeps x z hx) _ _ hc) h;refine⟨φ',o',w',?_,g4⟩;show(Instr.storeAt q.2.1 (zs.getD q.1 undef) q.2.2.2>>=fun _=>w9 r zs).run C.P w=_;rw[Sem.run_bind,g1];exact g3
  ·cases h
theorem cL.Fk{sk:List Nat}{dA jZ cV:Nat->Addr}{o0 o1 o2:Nat->Obj}{w0 w1 w2:World}(h:cL [] dA o0 w0 jZ o1 w1)(h2:cL sk jZ o1 w1 cV o2 w2):cL [] dA o0 w0 cV o2 w2:=by
 refine⟨Nat.le_trans h.size h2.size,fun b hb hn=>?_,fun b hb=>?_,⟨h2.still.1.trans h.still.1,h2.still.2.trans h.still.2⟩,fun id hi=>by cases hi⟩
 ·rw[h2.frame b (Nat.lt_of_lt_of_le hb h.size) fun ho=>?_,h.frame b hb hn];rcases h.news b ho with h3|h3
  ·omega
  ·exact hn h3
 ·rcases h2.news b hb with h3|h3
  ·exact .inl (Nat.le_trans h.size h3)
  ·exact h.news b h3
theorem z0d(hC:cf C){nt:Fr}{i:Nat}{x:ai (aL C.sigs i).ins.aW}{X X':Nat->Prop}{φ cV:Nat->Addr}{w wd:World}{st:St}{a:Act}{fn:Func}{δ:Type}{wr:ai (aL C.sigs i).outs.aW->δ}{y':δ}(hX:∀b,X b->X' b)(hR:Rel C nt X' cV st a wd)(hc:(aL C.sigs i).bD=[])(hJ:cL [] φ (a7 (aL C.sigs i).ins x) w cV st.obj wd)(hg:tF lf C [] (aL C.sigs i).outs wr st fn.results.toList=some y'):∃yy,wr yy=y'/\∃v,(results fn a.tmps).run C.P wd=.ok v wd/\pB C i x yy X φ w (.returned v) wd:=by
 unfold tF at hg;split at hg
 ·rename_i vs he;obtain⟨ps,cc,hp,hw⟩:=IX hg;obtain⟨hp,hk,hf⟩:=OC hp;obtain⟨cm,r1,r2⟩:=qu2 hC hR _ _ he;have RS:bW cV st.obj (ah X' cV st.obj wd) wd (bif gQ (aL C.sigs i).outs then .bM::.d .bool false::vs else vs) (bif gQ (aL C.sigs i).outs then undef::.bool false::cm else cm):=by
   cases gQ (aL C.sigs i).outs with
   |false=>exact r1
   |true=>exact⟨_,_,rfl,trivial,_,_,rfl,tJ,r1⟩
  obtain⟨q1,q2⟩:=Kr hR.toMRel hp RS;obtain⟨hj,_⟩:=Fj hp;refine⟨cc,hw,rW cm,?_,_,_,_,qk7,fun b hb=>.inl (hX b hb),q1,q2,⟨hJ.size,hJ.frame,fun b hb=>hJ.news b (hj.gV hb),hJ.still,fun id hi=>by rw[hc] at hi;cases hi⟩⟩;have key:∀(q:Sem (List Value)),q.run C.P wd=.ok cm wd->((Functor.map List.toArray q)>>=fun vs=>(pure (if h:vs.size=1 then vs[0] else Value.tuple vs):Sem Value)).run C.P wd=.ok (rW cm) wd:=by
   intro q hq;rw[Sem.run_bind,Sem.run_map,hq]
   match cm with
   |[]=>rfl
   |[v]=>rfl
   |a::b::r=>rfl
  unfold results;rw[Array.mapM_eq_mapM_toList];exact key _ r2
 ·cases hg
theorem qy7{i:Nat}{x:ai (aL C.sigs i).ins.aW}{X:Nat->Prop}{φ:Nat->Addr}{w:World}{zs:List Value}{n:Nat}(hm:MRel C X φ (a7 (aL C.sigs i).ins x) w)(hz:bW φ (a7 (aL C.sigs i).ins x) (ah X φ (a7 (aL C.sigs i).ins x) w) w (fill cg bO (aL C.sigs i).ins x).1 zs)(hn:(fill cg bO (aL C.sigs i).ins x).1.length<=n):Rel C ⟨n,[]⟩ X φ ⟨tE (fun _=>.undef) 0 (fill cg bO (aL C.sigs i).ins x).1,a7 (aL C.sigs i).ins x⟩ {tmps:=zs.toArray++Array.replicate (n-zs.toArray.size) undef,defers:=[]} w:=by
 have he:=wW hz;refine⟨hm,by simp;omega,fun t=>?_,rfl⟩;obtain⟨g1,g2⟩:=RR (fill cg bO (aL C.sigs i).ins x).1 0 (fun _=>.undef) t;by_cases ht:t<(fill cg bO (aL C.sigs i).ins x).1.length
 ·obtain⟨z,e1,e2⟩:=IG hz (ze ht);have:=g1 t om _ (ze ht);show au φ _ _ w (tE _ 0 _ t) _;rw[this];have e3:(zs.toArray++Array.replicate (n-zs.toArray.size) undef).getD t undef=z:=by
   have hc:t<zs.length:=om
   rw[Array.getD_eq_getD_getElem?,Array.getElem?_append_left (by simpa using hc)];simp[e1]
  rw[e3];exact e2
 ·show au φ _ _ w (tE _ 0 _ t) _;rw[g2 (.inr om)];have e3:(zs.toArray++Array.replicate (n-zs.toArray.size) undef).getD t undef=undef:=by
   have hc:zs.length<=t:=om
   rw[Array.getD_eq_getD_getElem?,Array.getElem?_append_right (by simpa using hc)];simp only[Array.getElem?_replicate];split<;>rfl
  exact e3
theorem qhs(hC:cf C)(hE:jI C)(HC:∀X φ o w,MRel C X φ o w->∀fr f,rX C R X φ o w fr f)(HD:∀nt sk dA o0 w0,OF C nt R (HJ sk dA o0 w0)){D:Bv}(hD:OL C.P D){i:Nat}{x:ai (aL C.sigs i).ins.aW}{y:ai (aL C.sigs i).outs.aW}(h:OM lf C R D i x=some y):nj C i x y:=by
 intro X φ w zs hm hz;unfold OM at h;simp only at h;split at h
 ·cases h
 ·rename_i fn hy;rw[zG] at hy;split at h
  ·cases h
  ·rename_i b hb;refine⟨⟨fn,hy,by rw[hb];rfl⟩,?_⟩;cases hn:(cR (aL C.sigs i).bD&&Nat.ble (fill id (fun _=>0) (aL C.sigs i).ins x).1.length fn.ntmps) with
   |false=>rw[hn] at h;cases h
   |true=>
    rw[hn,cond_true] at h;rw[zd] at hn;obtain⟨ho,hn⟩:=hn;have ho:(aL C.sigs i).bD=[]:=by
     cases e:(aL C.sigs i).bD with
     |nil=>rfl
     |cons a r=>rw[e] at ho;cases ho
    obtain⟨m',ac,hA,h⟩:=qk6 _ _ _ _ _ _ _ h;split at h
    ·cases h
    ·rename_i A rg ops B hN;split at h
     ·cases h
     ·rename_i pre Eb hO;obtain⟨a0,b0,hP,hQ,hR,hS⟩:=qy6 hA hN;obtain⟨op,c,ht,hT,hU,hV,hJ,hK⟩:=qg3 hO;have hW:=wW hz;have hn:(fill cg bO (aL C.sigs i).ins x).1.length<=fn.ntmps:=zF hn;have hsz:zs.length<=fn.ntmps:=om
      let QS:(ai (aL C.sigs i).outs.aW->Prop)->Exit->Act->World->Prop:=fun S e a wd=>∃yy,S yy/\bodyPostD C.P fn (pB C i x yy X φ w) e a wd;let RB:(ai (aL C.sigs i).outs.aW->Prop)->Act->World->Prop:=fun S a wd=>(Code.region rg ops false).wp C.P (fun e a wd=>match e with|.normal=>kD C.P b0 (QS S) a wd|_=>False) a wd;let Q1:(ai (aL C.sigs i).outs.aW->Prop)->Exit->Act->World->Prop:=fun S e a wd=>match e with|.normal=>RB S a wd|.ret=>QS S .ret a wd|_=>False
      have mS:∀S S' e a wd,(∀g,S g->S' g)->QS S e a wd->QS S' e a wd:=fun S S' e a wd hs ⟨yy,h1,h2⟩=>⟨yy,hs _ h1,h2⟩;have mQ1:wx Q1:=by refine⟨fun S S' e a wd hs h=>?_,fun S a wd t v h=>h.elim⟩;cases e<;>first|exact h.elim|exact mS _ _ _ _ _ hs h|exact wp_mono h fun e a wd h=>(by cases e<;>first|exact h.elim|exact vk h fun e a wd h=>mS _ _ _ _ _ hs h)
      have hf:∀(cz:Array Value) wd,(invoke (.fn (.func D.f) cz) #[]).run C.P wd=.ok (.enter D.f cz) wd:=fun cz wd=>by
       obtain⟨fn',g1,g2,g3⟩:=hD.fn;have Bm:¬fn'.name= "runtime.NumGoroutine":=by simpa using g2
       have Fb:fn'.body≠none:=by intro e;rw[e] at g3;cases g3
       simp[invoke,callFunc,g1,Bm,Fb]
      have hX:IW C ⟨fn.ntmps,[]⟩ (HJ [] φ (a7 (aL C.sigs i).ins x) w) X (kD1 lf C R D i fn.results.toList rg ops.toList pre Eb B) Q1:=by
       intro δ wr e st y' hg;cases e with
       |ret=>intro X1 jZ a1 w1 hB hw hF;obtain⟨yy,e1,v,e2,e3⟩:=z0d hC hB hw ho hF hg;refine⟨yy,e1,?_⟩;show Leaves C.P fn a1.tmps _ a1.defers .returning w1;rw[hw.defers];exact⟨v,e2,e3⟩
       |normal=>
        have hY:oZ fn.ntmps pre=true:=(RL (by rw[<-ht];exact hR)).1;intro X1 jZ a1 w1 hB hw hF;refine wp_region_list ?_;rw[ht];refine IV _ _ _ _ ?_;refine qdw hC hE HC (ops:=ops) (rg:=rg) _ X _ wr 0 pre st _ _ y' (HJ [] φ (a7 (aL C.sigs i).ins x) w) none hg hY (HJ.keeps _) ?_ (fun _ h=>by cases h) (fun a w t v h=>h.elim) X1 jZ a1 w1 hB hw hF;intro st2 h2 X2 cV a2 w2 hZ hu h0;unfold kDf at h2;split at h2
        ·rename_i f cs ecs;split at h2
         ·rename_i ids hG;cases hx:(Nat.beq f D.f&&Nat.beq cs.length D.n&&Nat.blt f 1048576&&I0 (1000000+ids.length) ids&&Bu st2.obj ids) with
          |false=>rw[hx] at h2;cases h2
          |true=>
           rw[hx,cond_true] at h2;simp only[zd,Nat.beq_eq,Nat.blt_eq] at hx;obtain⟨⟨⟨⟨rfl,hcn⟩,h5⟩,h6⟩,h7⟩:=hx;have hv:=hu.bU Eb;rw[ecs] at hv;obtain⟨cz,hL,hM⟩:=hv;rw[JY h5] at hL;have hj:cz.toList.length=D.n:=by have:=wW hM;omega
           show(if Region.wanted op (yielded ops a2.tmps) then op.wp C.P a2 w2 (wpList C.P ops _ []) _\/(op.asks C.P a2 w2/\LetsOut _) else wpList C.P ops _ [] (a2.put op.dst undef) w2);rw[if_pos (by simp[Region.wanted,hU])];refine .inl ?_;show Oper.upon C.P op a2 _ _ ((execOp a2.eval op).run C.P w2);have er:(execOp a2.eval op).run C.P w2=.ok (.defer ⟨.fn (.func D.f) cz,#[]⟩) w2:=by obtain⟨callee,args,pA⟩:=c;simp only at hJ hK;subst hJ hK;simp[execOp,hT,resolve,hL,Deferred.ofValue]
           rw[er];have hc:Rel C ⟨fn.ntmps,[⟨.fn (.func D.f) cz,#[]⟩]⟩ X2 cV st2 {a2 with defers:=⟨.fn (.func D.f) cz,#[]⟩::a2.defers} w2:=⟨hu.toMRel,hu.size,hu.env,by rw[hu.defers]⟩;show kD C.P b0 (QS fun g=>wr g=y') (({a2 with defers:=⟨.fn (.func D.f) cz,#[]⟩::a2.defers}:Act).put op.dst undef) w2;rw[hV];let Q2:(ai (aL C.sigs i).outs.aW->Prop)->Exit->Act->World->Prop:=fun S e a wd=>match e with|.normal=>QS S .normal a wd|.ret=>QS S .ret a wd|.panic ch=>(∃t v,ch=ni t v)/\∀t v,QS S (.panic (ni t v)) a wd|_=>False
           have RP:wx Q2:=by refine⟨fun S S' e a wd hs h=>?_,fun S a wd t v h=>⟨⟨t,v,rfl⟩,h.2⟩⟩;cases e<;>first|exact h.elim|exact mS _ _ _ _ _ hs h|exact⟨h.1,fun t v=>mS _ _ _ _ _ hs (h.2 t v)⟩
           have last:∀{δ:Type} {wr:ai (aL C.sigs i).outs.aW->δ} {X3:Nat->Prop} {wy:Nat->Addr} {wz:St} {a3:Act} {w3:World} {y':δ},(∀b,X2 b->X3 b)->Rel C ⟨fn.ntmps,[⟨.fn (.func D.f) cz,#[]⟩]⟩ X3 wy wz a3 w3->cL ids cV st2.obj w2 wy wz.obj w3->
             tF lf C [] (aL C.sigs i).outs wr wz fn.results.toList=some y'->∃yy,wr yy=y'/\Leaves C.P fn a3.tmps (pB C i x yy X φ w) [] .returning w3:=by
            intro δ wr X3 wy wz a3 w3 y' hk hc he hg;obtain⟨yy,e1,v,e2,e3⟩:=z0d hC (fun b hb=>hk b (hZ b hb)) hc ho (h0.Fk he) hg;exact⟨yy,e1,v,e2,e3⟩
           have hH:=RO hC hE HC (HD ⟨fn.ntmps,[⟨.fn (.func D.f) cz,#[]⟩]⟩ ids cV st2.obj w2) (qmj h6) hQ X2 st2 _ _ wr _ Q2 y' RP (fun δ wr e wz y' hg=>?_) h2 X2 cV _ w2 (fun _ h=>h) hc (cL.refl _ _ _ _)
           ·refine vk hH fun e a wd hq=>?_;cases e with
            |normal=>exact hq
            |ret=>exact hq
            |panic ch=>obtain⟨⟨t,v,rfl⟩,hq⟩:=hq;exact hq t v
            |_=>exact hq.elim
           ·cases e with
            |normal=>intro X3 wy a3 w3 hk hc he;obtain⟨yy,e1,hl⟩:=last hk hc he hg;refine⟨yy,e1,?_⟩;show Leaves C.P fn a3.tmps _ a3.defers .returning w3;rw[hc.defers];refine leaves_cons (fun h=>by cases h) (hf cz w3) ((hD.idle cz.toList w3 hj).mono ?_);rintro e u w' ⟨rfl,rfl,rfl⟩;exact hl
            |ret=>intro X3 wy a3 w3 hk hc he;obtain⟨yy,e1,hl⟩:=last hk hc he hg;refine⟨yy,e1,?_⟩;show Leaves C.P fn a3.tmps _ a3.defers .returning w3;rw[hc.defers];refine leaves_cons (fun h=>by cases h) (hf cz w3) ((hD.idle cz.toList w3 hj).mono ?_);rintro e u w' ⟨rfl,rfl,rfl⟩;exact hl
            |panic=>
             intro X3 wy a3 w3 hk hc he;have hg:(bif Bu wz.obj ids then xa lf C D.st cs wz.obj fun o=>tF lf C [] (aL C.sigs i).outs wr {wz with obj:=o} fn.results.toList else none)=some y':=hg;cases hI:Bu wz.obj ids with
             |false=>rw[hI] at hg;cases hg
             |true=>rw[hI,cond_true] at hg;have h8:bW wy wz.obj (ah X3 wy wz.obj w3) w3 cs cz.toList:=qk9 hG h7 hI (fun id hi c c' e1 e2=>by have:=he.up id hi;rw[e1,e2] at this;exact this) hM;obtain⟨φ4,o4,w4,g1,g2,g3,g4⟩:=qu4 (env:=wz.env) hC D.st hD.cm hc he h8 hg;obtain⟨yy,e1,hl⟩:=last hk g2 g3 g4;refine⟨⟨_,_,rfl⟩,fun t v=>⟨yy,e1,?_⟩⟩;show Leaves C.P fn a3.tmps _ a3.defers (.panicking (ni t v)) w3;rw[hc.defers];refine leaves_cons (fun h=>by cases h) (hf cz w3) ((hD.tP cz.toList w3 w4 t v hj g1).mono ?_);rintro e u w' ⟨rfl,rfl,rfl⟩;exact hl
            |exit id=>cases hg
            |goto l=>cases hg
         ·cases h2
        ·cases h2
       |exit id=>cases hg
       |goto l=>cases hg
       |panic=>cases hg
      have h9:Rel C ⟨fn.ntmps,[]⟩ X φ ⟨tE (fun _=>.undef) 0 (fill cg bO (aL C.sigs i).ins x).1,a7 (aL C.sigs i).ins x⟩
        {tmps:=zs.toArray++Array.replicate (fn.ntmps-zs.toArray.size) undef,defers:=[]} w:=qy7 hm hz hn
      refine calls_of_wp_defers hy hb (vj (hS C.P _ _ _ ?_));refine vk (RO hC hE HC (HD ⟨fn.ntmps,[]⟩ [] φ (a7 (aL C.sigs i).ins x) w) qqj hP X _ _ _ _ _ _ y mQ1 hX h X φ _ w (fun _ h=>h) h9 (cL.refl _ _ _ _)) fun e a wd hq=>?_;have fin:∀e a wd,QS (fun g=>g=y) e a wd->bodyPostD C.P fn (pB C i x y X φ w) e a wd:=fun e a wd ⟨yy,e1,e2⟩=>by subst e1;exact e2
      cases e with
      |normal=>exact wp_mono hq fun e a wd h=>(by cases e<;>first|exact h.elim|exact vk h fun e a wd h=>fin e a wd h)
      |ret=>exact fin _ _ _ hq
      |_=>exact hq.elim
end
inductive Call (C:Cx):(i:Nat)->ai (aL C.sigs i).ins.aW->ai (aL C.sigs i).outs.aW->Prop where
 |mk (R:fI C.sigs) (h:∀j a b,R j a=some b->Call C j a b) (i:Nat) (x:ai (aL C.sigs i).ins.aW) (y:ai (aL C.sigs i).outs.aW) (e:Iu lf C R i x=some y):Call C i x y
 |mkD (D:Bv) (hD:OL C.P D) (R:fI C.sigs) (h:∀j a b,R j a=some b->Call C j a b) (i:Nat) (x:ai (aL C.sigs i).ins.aW) (y:ai (aL C.sigs i).outs.aW) (e:OM lf C R D i x=some y):Call C i x y
 |rZ (i:Nat) (x:ai (aL C.sigs i).ins.aW) (y:ai (aL C.sigs i).outs.aW) (h:nj C i x y):Call C i x y
def ON(C:Cx):Prop:=∀R:fI C.sigs,(∀j a b,R j a=some b->nj C j a b)->∀X φ o w,MRel C X φ o w->∀fr f,rX C R X φ o w fr f
def qu5(C:Cx):Prop:=∀R:fI C.sigs,(∀j a b,R j a=some b->nj C j a b)->∀nt sk dA o0 w0,OF C nt R (HJ sk dA o0 w0)
theorem Call.ok{C:Cx}(hC:cf C)(hE:jI C)(hL:ON C)(hD:qu5 C){i:Nat}{x:ai (aL C.sigs i).ins.aW}{y:ai (aL C.sigs i).outs.aW}(h:Call C i x y):nj C i x y:=by
 induction h with
 |mk R h i x y e ih=>exact qk8 hC hE (hL R ih) (hD R ih) e
 |mkD D hR R h i x y e ih=>exact qhs hC hE (hL R ih) (hD R ih) hR e
 |rZ i x y h=>exact h
theorem Fl{imm imm':Nat->Prop}{w:World}:∀(t:Ty) (x:den t) (cs:List Value),tB t=false->aC imm w t x cs->aC imm' w t x cs
 |.unit,_,_,_,h=>h
 |.pair a b,x,_,hs,⟨c,d,e,h1,h2⟩=>by simp only[tB,Bool.or_eq_false_iff] at hs;exact⟨c,d,e,Fl a x.1 c hs.1 h1,Fl b x.2 d hs.2 h2⟩
 |.st p,x,cs,hs,h=>Fl p x cs hs h
 |.arr _ e,_,_,hs,⟨h1,h2⟩=>⟨h1,nD (fun x c h=>Fl e x c hs h) h2⟩
 |.int _,_,_,_,h=>h
 |.bool,_,_,_,h=>h
 |.eD,_,_,hs,_=>by cases hs
 |.eU,_,_,hs,_=>by cases hs
 |.str,_,_,_,h=>h
 |.sl e,_,_,hs,_=>by cases hs
theorem RU{imm imm':Nat->Prop}{w:World}(t:Ty)(x:den t)(v:Value)(hs:tB t=false)(h:aX imm w t x v):aX imm' w t x v:=by
 cases t with
 |st p=>obtain⟨cs,h1,h2⟩:=h;exact⟨cs,h1,Fl p x _ hs h2⟩
 |arr n e=>obtain⟨cs,h1,h2⟩:=h;exact⟨cs,h1,Fl (.arr n e) x _ hs h2⟩
 |unit=>exact h
 |pair a b=>exact h
 |int k=>exact h
 |bool=>exact h
 |eD=>cases hs
 |eU=>cases hs
 |str=>exact h
 |sl e=>cases hs
 |ks e=>cases hs
theorem qu6{imm imm':Nat->Prop}{w:World}{φ:Nat->Addr}{o:Nat->Obj}(ρ κ:Nat->Nat)(s:Sh):JN s=false->∀r c z,au φ o imm w (kM ρ κ s r c).1 z->au φ o imm' w (kM ρ κ s r c).1 z:=by
 refine Sh.rec (motive_1:=fun s=>JN s=false->∀r c z,au φ o imm w (kM ρ κ s r c).1 z->au φ o imm' w (kM ρ κ s r c).1 z)
  (motive_2:=fun l=>wk l=false->∀r c zs,bW φ o imm w (fi ρ κ l r c).1 zs->bW φ o imm' w (fi ρ κ l r c).1 zs)
  ?_ ?_ ?_ ?_ ?_ ?_ ?_ ?_ ?_ ?_ ?_ ?_ ?_ ?_ ?_ ?_ ?_ ?_ ?_ ?_ s
 ·exact fun t hs r c z h=>RU t _ _ hs h
 ·intro i _ r c z h;replace h:au φ o imm w (.cK (ρ i) (κ i)) z:=h;show au φ o imm' w (.cK (ρ i) (κ i)) z;unfold au at h ⊢;exact h
 ·intro i off _ r c z h;replace h:au φ o imm w (.ptr (ρ i) off) z:=h;show au φ o imm' w (.ptr (ρ i) off) z;unfold au at h ⊢;exact h
 ·exact fun t hs r c z h=>by cases hs
 ·exact fun _ r c z h=>h
 ·exact fun f l ih hs r c z ⟨cz,h1,h2⟩=>⟨cz,h1,ih hs _ _ _ h2⟩
 ·exact fun _ r c z h=>h
 ·exact fun l ih hs r c z ⟨cz,h1,h2⟩=>⟨cz,h1,ih hs _ _ _ h2⟩
 ·exact fun l ih hs r c z ⟨cz,h1,h2⟩=>⟨cz,h1,ih hs _ _ _ h2⟩
 ·intro i _ r c z h;replace h:au φ o imm w (.mp (ρ i)) z:=h;show au φ o imm' w (.mp (ρ i)) z;unfold au at h ⊢;exact h
 ·exact fun _ r c z h=>h
 ·exact fun _ r c z h=>h
 ·exact fun _ r c z h=>h
 ·intro i _ r c z h;replace h:au φ o imm w (.gM (ρ i) c.1) z:=h;show au φ o imm' w (.gM (ρ i) c.1) z;unfold au at h ⊢;exact h
 ·intro i _ r c z h;replace h:au φ o imm w (.gN (ρ i) (κ i) c.1) z:=h;show au φ o imm' w (.gN (ρ i) (κ i) c.1) z;unfold au at h ⊢;exact h
 ·intro i _ r c z h;replace h:au φ o imm w (.it (ρ i)) z:=h;show au φ o imm' w (.it (ρ i)) z;unfold au at h ⊢;exact h
 ·exact fun a hs=>by cases hs
 ·exact fun t hs r c z h=>by cases hs
 ·exact fun _ r c z h=>h
 ·intro s l mZ nc hs r c zs ⟨z,zr,e,h1,h2⟩;have hs:(JN s||wk l)=false:=hs;rw[Bool.or_eq_false_iff] at hs;exact⟨z,zr,e,mZ hs.1 _ _ _ h1,nc hs.2 _ _ _ h2⟩
theorem qka(ρ κ:Nat->Nat)(i:Nat)(s:fv)(r:List Ty)(c:ai (Ie s r)):(fj ρ κ i s r c).2=(fj cg bO i s r c).2:=by
 cases s with
 |box l=>exact Kq ρ κ cg bO l r c
 |vec t=>rfl
 |map k v=>rfl
 |gone=>rfl
 |iter=>rfl
theorem RV(ρ κ:Nat->Nat):∀(l:List fv) (i:Nat) (r:List Ty) (c:ai (bS l r)) (o1 o2:Nat->Obj),(∀a b,i<=a->a<i+l.length->i<=b->b<i+l.length->ρ a=ρ b->a=b)->(∀j,(j<i\/i+l.length<=j)->ak o1 (fH cg bO i l r c) j=o1 j)/\(∀id,(∀j,i<=j->j<i+l.length->ρ j≠id)->ak o2 (fH ρ κ i l r c) id=o2 id/\id∉bJ (fH ρ κ i l r c))/\(∀j,i<=j->j<i+l.length->ρ j∈bJ (fH ρ κ i l r c))
 |[],i,r,c,o1,o2,_=>⟨fun _ _=>rfl,fun _ _=>⟨rfl,(fun h=>by cases h)⟩,fun j h1 h2=>absurd h2 (by simp;omega)⟩
 |s::l,i,r,c,o1,o2,cw=>by
  have e2:=qka ρ κ i s (bS l r) c;simp only[zw] at cw;obtain⟨a2,a3,a4⟩:=RV ρ κ l (i+1) r (fj cg bO i s (bS l r) c).2 (cP o1 i (fj cg bO i s (bS l r) c).1) (cP o2 (ρ i) (fj ρ κ i s (bS l r) c).1)
   (fun a b h1 h2 h3 h4 e=>cw a b om om om om e)
  have f1:∀j,ak o1 (fH cg bO i (s::l) r c) j=ak (cP o1 i (fj cg bO i s (bS l r) c).1) (fH cg bO (i+1) l r (fj cg bO i s (bS l r) c).2) j:=fun _=>rfl;have f2:∀id,ak o2 (fH ρ κ i (s::l) r c) id=ak (cP o2 (ρ i) (fj ρ κ i s (bS l r) c).1) (fH ρ κ (i+1) l r (fj cg bO i s (bS l r) c).2) id:=fun id=>(congrArg (fun q=>ak (cP o2 (ρ i) (fj ρ κ i s (bS l r) c).1) (fH ρ κ (i+1) l r q) id) e2);have f3:bJ (fH ρ κ i (s::l) r c)=ρ i::bJ (fH ρ κ (i+1) l r (fj cg bO i s (bS l r) c).2):=congrArg (fun q=>ρ i::bJ (fH ρ κ (i+1) l r q)) e2;refine⟨fun j hj=>?_,fun id hc=>?_,fun j h1 h2=>?_⟩
  ·rw[f1];simp only[zw] at hj;rw[a2 j om,nH om]
  ·rw[f2,f3];simp only[zw] at hc;obtain⟨b1,b2⟩:=a3 id (fun q h1 h2=>hc q om om);have he:id≠ρ i:=fun e=>hc i (Nat.le_refl _) om e.symm;exact⟨by rw[b1,nH he],fun h=>by
    rcases zt.1 h with h|h
    ·exact he h
    ·exact b2 h⟩
  ·rw[f3];simp only[zw] at h2;by_cases hf:j=i
   ·subst hf;exact zf ..
   ·exact zh _ (a4 j om om)
theorem qdy(ρ κ:Nat->Nat):∀(l:List fv) (i:Nat) (r:List Ty) (c:ai (bS l r)) (j:Nat),i<=j->j<i+l.length->∃p,p∈fH ρ κ i l r c/\p.1=ρ j
 |[],i,r,c,j,h1,h2=>absurd h2 (by simp;omega)
 |s::l,i,r,c,j,h1,h2=>by
  by_cases hj:j=i
  ·subst hj;exact⟨_,zf ..,rfl⟩
  ·simp only[zw] at h2;obtain⟨p,h3,h4⟩:=qdy ρ κ l (i+1) r (fj ρ κ i s (bS l r) c).2 j om om;exact⟨p,zh _ h3,h4⟩
theorem qdz(ρ κ:Nat->Nat):∀(l:List fv) (i:Nat) (r:List Ty) (c:ai (bS l r)) (o1 o2:Nat->Obj),(∀a b,i<=a->a<i+l.length->i<=b->b<i+l.length->ρ a=ρ b->a=b)->∀j sh,i<=j->l[j-i]?=some sh->∃r' c',ak o1 (fH cg bO i l r c) j=(fj cg bO j sh r' c').1/\ak o2 (fH ρ κ i l r c) (ρ j)=(fj ρ κ j sh r' c').1
 |[],i,r,c,o1,o2,_=>fun j sh _ h=>by simp at h
 |s::l,i,r,c,o1,o2,cw=>by
  intro j sh h1 h2;have e2:=qka ρ κ i s (bS l r) c;simp only[zw] at cw;have Kx:∀a b,i+1<=a->a<i+1+l.length->i+1<=b->b<i+1+l.length->ρ a=ρ b->a=b:=fun a b h1 h2 h3 h4 e=>cw a b om om om om e;obtain⟨a2,a3,_⟩:=RV ρ κ l (i+1) r (fj cg bO i s (bS l r) c).2 (cP o1 i (fj cg bO i s (bS l r) c).1) (cP o2 (ρ i) (fj ρ κ i s (bS l r) c).1) Kx;have f1:∀j,ak o1 (fH cg bO i (s::l) r c) j=ak (cP o1 i (fj cg bO i s (bS l r) c).1) (fH cg bO (i+1) l r (fj cg bO i s (bS l r) c).2) j:=fun _=>rfl;have f2:∀id,ak o2 (fH ρ κ i (s::l) r c) id=ak (cP o2 (ρ i) (fj ρ κ i s (bS l r) c).1) (fH ρ κ (i+1) l r (fj cg bO i s (bS l r) c).2) id:=fun id=>(congrArg (fun q=>ak (cP o2 (ρ i) (fj ρ κ i s (bS l r) c).1) (fH ρ κ (i+1) l r q) id) e2);by_cases hc:j=i
  ·subst hc;rw[Nat.sub_self] at h2;simp only[List.getElem?_cons_zero,zH] at h2;subst h2;refine⟨bS l r,c,?_,?_⟩
   ·rw[f1,a2 j (.inl om),eL]
   ·rw[f2,(a3 (ρ j) (fun q hq he e=>by have:=cw q j om om om om e;omega)).1,eL]
  ·rw[show j-i=(j-(i+1))+1 by omega] at h2;obtain⟨r',c',g1,g2⟩:=qdz ρ κ l (i+1) r (fj cg bO i s (bS l r) c).2 (cP o1 i (fj cg bO i s (bS l r) c).1) (cP o2 (ρ i) (fj ρ κ i s (bS l r) c).1) Kx j sh om (by simpa using h2);exact⟨r',c',by rw[f1];exact g1,by rw[f2];exact g2⟩
theorem qg5{imm imm':Nat->Prop}{w:World}{φ:Nat->Addr}{o:Nat->Obj}(ρ κ:Nat->Nat):∀(l:List Sh),wk l=false->∀r c zs,bW φ o imm w (fi ρ κ l r c).1 zs->bW φ o imm' w (fi ρ κ l r c).1 zs
 |[],_,_,_,_,h=>h
 |s::l,hs,r,c,zs,⟨z,zr,e,h1,h2⟩=>by have hs:(JN s||wk l)=false:=hs;rw[Bool.or_eq_false_iff] at hs;exact⟨z,zr,e,qu6 ρ κ s hs.1 _ _ _ h1,qg5 ρ κ l hs.2 _ _ _ h2⟩
theorem qu7:∀{l:List fv},rQ l=false->∀(j:Nat) (sh:fv),l[j]?=some sh->rQ [sh]=false
 |[],_,j,sh,h=>by simp at h
 |s::l,hs,j,sh,h=>by
  cases j with
  |zero=>simp only[List.getElem?_cons_zero,zH] at h;subst h;cases s<;>simp only[rQ,Bool.or_eq_false_iff] at hs ⊢<;>first|exact⟨hs.1,trivial⟩|rfl|trivial
  |succ j=>refine qu7 (l:=l) ?_ j sh (by simpa using h);cases s<;>simp only[rQ,Bool.or_eq_false_iff] at hs<;>first|exact hs.2|exact hs
theorem qbz{bD:List Nat}:∀(k i:Nat) (l:List fv),Ax bD k i l=true->k<=l.length/\∀j,j<k->(l[j]?=some .gone/\bH (i+j) bD=false)\/(l[j]?≠some .gone/\bH (i+j) bD=true)
 |0,i,l,_=>⟨Nat.zero_le _,fun j h=>absurd h om⟩
 |k+1,i,l,h=>by
  cases l with
  |nil=>cases h
  |cons s l=>
   have both:Ax bD k (i+1) l=true/\((s=.gone/\bH i bD=false)\/(s≠.gone/\bH i bD=true)):=by
    cases s with
    |gone=>
     simp only[Ax,zd] at h;refine⟨h.2,.inl ⟨rfl,?_⟩⟩;cases hb:bH i bD with
     |false=>rfl
     |true=>exact absurd (fx.1 hb) (Rj h.1)
    |box cs=>simp only[Ax,zd] at h;exact⟨h.2,.inr ⟨by simp,h.1⟩⟩
    |vec t=>simp only[Ax,zd] at h;exact⟨h.2,.inr ⟨by simp,h.1⟩⟩
    |map kt vt=>simp only[Ax,zd] at h;exact⟨h.2,.inr ⟨by simp,h.1⟩⟩
    |iter=>simp only[Ax,zd] at h;exact⟨h.2,.inr ⟨by simp,h.1⟩⟩
   obtain⟨h1,h2⟩:=qbz k (i+1) l both.1;refine⟨by simp;omega,fun j hj=>?_⟩;cases j with
   |zero=>simpa using both.2
   |succ j=>have:=h2 j om;rw[show i+1+j=i+(j+1) by omega] at this;simpa using this
theorem qa2{ps:PS}:∀{l:List Nat},NH ps l=true->∀i,i∈l->gO ((gO i ps.aQ).getD 0) ps.cut=none
 |b::r,h,i,hi=>by
  simp only[NH,zd] at h;rcases zt.1 hi with rfl|hi
  ·exact Ou h.1
  ·exact qa2 h.2 i hi
theorem qc0{o:Nat->Obj}{aQ:List (Nat×Nat)}:∀(k:Nat),NG o aQ k=true->∀j,j<k->∃ct,gO j aQ=some ct/\o ct≠.none
 |0,_,j,h=>absurd h om
 |k+1,h,j,hj=>by
  simp only[NG,zd] at h;by_cases e:j=k
  ·subst e;have h1:=h.1;split at h1
   ·rename_i ct ho;refine⟨ct,ho,fun e=>?_⟩;rw[e] at h1;cases h1
   ·cases h1
  ·exact qc0 k h.2 j om
theorem qg6{o:Nat->Obj}:∀{l:List Nat},NF o l=true->∀id,id∈l->(∀cs,o id≠.box cs)/\(∀k v m,o id≠.map k v m)/\(∀s p,o id≠.iter s p)
 |b::r,h,id,hi=>by
  simp only[NF,zd] at h;rcases zt.1 hi with hi|hi
  ·subst hi;have h1:=h.1;exact⟨fun cs e=>(by rw[e] at h1;cases h1),(fun k v m e=>(by rw[e] at h1;cases h1)),fun s p e=>(by rw[e] at h1;cases h1)⟩
  ·exact qg6 h.2 id hi
theorem RW{C:Cx}{R:fI C.sigs}{p:Bool}{o:Nat->Obj}{fr f:Nat}{vs:List V}{v:V}{u:List (Nat×Obj)}:∀(l:List lE) (i:Nat),(wm lf C R p o fr f vs l i).gives v u->∃i ps c y,(aL C.sigs i).f=f/\gQ (aL C.sigs i).outs=p/\pack lf o [] (aL C.sigs i).ins vs=some (ps,c)/\NI o ps (aL C.sigs i).ins.ay.length (aL C.sigs i).outs (aL C.sigs i).bD=true/\R i c=some y/\v=kA (fill (Ay ps.aQ (aL C.sigs i).ins.ay.length fr) (Bc o ps.aQ (aL C.sigs i).ins.ay.length (aL C.sigs i).bD) (aL C.sigs i).outs y).1/\u=(bif lF (aL C.sigs i).outs then dN o ps.cd else [])++(fill (Ay ps.aQ (aL C.sigs i).ins.ay.length fr) (Bc o ps.aQ (aL C.sigs i).ins.ay.length (aL C.sigs i).bD) (aL C.sigs i).outs y).2
 |[],i,h=>h.elim
 |s::r,i,h=>by
  unfold wm at h;cases hb:Nat.beq s.f f with
  |false=>rw[hb] at h;exact RW r (i+1) h
  |true=>
   rw[hb,cond_true] at h;split at h
   ·rename_i ps c hp;rw[dC,mN,zd,zd] at h;obtain⟨⟨⟨h1,h2⟩,h5⟩,y,h3,h4⟩:=h;simp only[Prod.mk.injEq] at h4;have h6:gQ (aL C.sigs i).outs=p:=by revert h5;cases p<;>cases gQ (aL C.sigs i).outs<;>intro h<;>first|rfl|cases h
    exact⟨i,ps,c,y,zg h1,h6,hp,h2,h3,h4.1.symm,h4.2.symm⟩
   ·exact RW r (i+1) h
def ofk:Obj->Prop
 |.none=>False
 |_=>True
theorem RX{o:Nat->Obj}{id:Nat}:∀{ks:List Nat},id∈bJ (dN o ks)->id∈ks
 |[],h=>by cases h
 |q::r,h=>by
  simp only[dN] at h;split at h
  ·rcases zt.1 h with h|h
   ·exact h▸zf ..
   ·exact zh _ (RX h)
  ·exact zh _ (RX h)
theorem z3l{C:Cx}{X X1:Nat->Prop}{φ jZ:Nat->Addr}{o I1:Nat->Obj}{w w':World}{ps:PS}{fr:Nat}{ins outs:Shape}{y:ai outs.aW}{cm:List Value}{bD:List Nat}(hm:MRel C X φ o w)(hw:bQ o ps ins.ay.length ins.ay I1)(hM:NI o ps ins.ay.length outs bD=true)(hf:jH fr o ((bif lF outs then dN o ps.cd else [])++(fill (Ay ps.aQ ins.ay.length fr) (Bc o ps.aQ ins.ay.length bD) outs y).2))(hX:∀b,XC X φ o I1 ps b->X1 b)(M1:MRel C X1 jZ (a7 outs y) w')(rv:bW jZ (a7 outs y) (ah X1 jZ (a7 outs y) w') w' (fill cg bO outs y).1 cm)(H:cL bD (eQ φ ps) I1 w jZ (a7 outs y) w'):∃fk,Comes C X φ fk o ((bif lF outs then dN o ps.cd else [])++(fill (Ay ps.aQ ins.ay.length fr) (Bc o ps.aQ ins.ay.length bD) outs y).2) w w' (kA (fill (Ay ps.aQ ins.ay.length fr) (Bc o ps.aQ ins.ay.length bD) outs y).1) (rW cm):=by
 generalize hk:ins.ay.length=k at*
 generalize cw:Ay ps.aQ k fr=ρ at*
 generalize hκ:Bc o ps.aQ k bD=κ at*
 unfold NI at hM;simp only[zd] at hM;obtain⟨⟨⟨⟨hB,ht⟩,hC⟩,hH⟩,hI⟩:=hM;have hI:=zF hI;obtain⟨h7,ht⟩:=qbz _ _ _ ht;simp only[zL] at ht;have tied:∀j,j<k->(j,ρ j)∈ps.aQ/\o (ρ j)≠.none:=fun j hj=>by
  obtain⟨ct,h1,h2⟩:=qc0 k hH j hj;have:ρ j=ct:=by
   rw[<-cw];unfold Ay;have hb:Nat.blt j k=true:=by rw[Nat.blt_eq];exact hj
   rw[hb,h1];rfl
  rw[this];exact⟨Fe h1,h2⟩
 have fresh:∀j,k<=j->ρ j=fr+(j-k):=fun j hj=>by
  rw[<-cw];unfold Ay;have hb:Nat.blt j k=false:=by
   cases e:Nat.blt j k with
   |false=>rfl
   |true=>rw[Nat.blt_eq] at e;omega
  rw[hb];rfl
 have tQ:∀j,k<=j->j<outs.ay.length->o (ρ j)=.none:=fun j h1 h2=>by obtain⟨p,h3,h4⟩:=qdy ρ κ outs.ay 0 [] (fi ρ κ outs.roots (bS outs.ay []) y).2 j (Nat.zero_le _) om;have:=hf p (List.mem_append_right _ h3);rw[h4,fresh j h1] at this;rw[fresh j h1];exact this om om
 have inj:∀a b,0<=a->a<0+outs.ay.length->0<=b->b<0+outs.ay.length->ρ a=ρ b->a=b:=fun a b _ h1 _ h2 e=>by
  by_cases ha:a<k<;>by_cases hb:b<k
  ·have r1:=(hw.aQ (tied a ha).1).2.2;have r2:=(hw.aQ (tied b hb).1).2.2;rw[e,r2] at r1;injection r1 with r1;exact r1.symm
  ·exact absurd (e▸tQ b om om) (tied a ha).2
  ·exact absurd (e.symm▸tQ a om om) (tied b hb).2
  ·rw[fresh a om,fresh b om] at e;omega
 have hF:Comes C X φ φ o (bif lF outs then dN o ps.cd else []) w w .undef undef:=by
  cases lF outs with
  |true=>exact Ka hm ps.cd
  |false=>exact .same hm rfl
 generalize hz:ak o (bif lF outs then dN o ps.cd else [])=of;have Mf:MRel C X φ of w:=hz▸hF.mem;have ofs:∀id,(of id=o id)\/(∃t ver fz s,o id=.vec t ver fz s/\of id=.vec t ver true s):=fun id=>by
  rw[<-hz];cases lF outs with
  |true=>exact(D5 (o:=o) ps.cd id).imp (fun h=>h.1) (fun h=>h)
  |false=>exact .inl rfl
 have RY:∀id,aV (φ id) (of id)=true->of id=o id/\aV (φ id) (o id)=true:=fun id hx=>by
  rcases ofs id with h|⟨t,ver,fz,s,h1,h2⟩
  ·exact⟨h,h▸hx⟩
  ·rw[h2] at hx;have:=(Bg hx).2.1;simp at this
 have ofn:∀id,of id=.none↔o id=.none:=fun id=>by
  rcases ofs id with h|⟨t,ver,fz,s,h1,h2⟩
  ·rw[h]
  ·rw[h1,h2];simp
 have ofl:∀id,id∉ps.cd->of id=o id:=fun id hi=>by
  rw[<-hz];cases lF outs with
  |false=>rfl
  |true=>show ak o (dN o ps.cd) id=o id;exact gS fun hk=>hi (RX hk)
 have Ky:∀id,id∈ps.cd->aV (φ id) (of id)=true->lF outs=false:=fun id hi hx=>by
  cases ha:lF outs with
  |false=>rfl
  |true=>
   exfalso;rw[ha] at hC hz;simp only[Bool.not_true,Bool.or_false] at hC;obtain⟨b1,b2,b3⟩:=qg6 hC id hi;have hz:ak o (dN o ps.cd)=of:=hz;obtain⟨e1,e2⟩:=RY id hx;cases he:o id with
   |box cs=>exact b1 cs he
   |map k v m=>exact b2 k v m he
   |iter s p=>exact b3 s p he
   |dead=>rw[he] at e2;simp[aV,Ev.live] at e2
   |none=>rw[he] at e2;exact lG e2
   |vec t ver fz s=>have hN:=QR hi he;obtain⟨t',aE,fz',s',_,h2⟩:=AE hN;rw[<-hz,h2 o] at hx;have:=(Bg hx).2.1;simp at this
 have hZ:(fill ρ κ outs y).2=fH ρ κ 0 outs.ay [] (fi cg bO outs.roots (bS outs.ay []) y).2:=congrArg (fun q=>fH ρ κ 0 outs.ay [] q) (Kq ρ κ cg bO outs.roots (bS outs.ay []) y);have each:=qdz ρ κ outs.ay 0 [] (fi cg bO outs.roots (bS outs.ay []) y).2 (fun _=>.none) of inj;obtain⟨c2,c3,c4⟩:=RV ρ κ outs.ay 0 [] (fi cg bO outs.roots (bS outs.ay []) y).2 (fun _=>.none) of inj;rw[<-hZ] at each c3 c4;have hO:a7 outs y=ak (fun _=>.none) (fH cg bO 0 outs.ay [] (fi cg bO outs.roots (bS outs.ay []) y).2):=rfl;rw[<-hO] at each c2;generalize hP:a7 outs y=oc at*
 generalize hu:(fill ρ κ outs y).2=u1 at*
 have I2:∀j,j<outs.ay.length->∃sh r' c',outs.ay[j]?=some sh/\oc j=(fj cg bO j sh r' c').1/\ak of u1 (ρ j)=(fj ρ κ j sh r' c').1:=fun j hj=>by obtain⟨r',c',h1,h2⟩:=each j outs.ay[j] (Nat.zero_le _) (by rw[Nat.sub_zero];exact ze hj);exact⟨_,r',c',ze hj,h1,h2⟩
 have dead:∀j,j<k->bH j bD=false->oc j=.dead/\ak of u1 (ρ j)=.dead:=fun j hj hn=>by
  obtain⟨sh,r',c',h1,h2,h3⟩:=I2 j om;rcases ht j hj with ⟨g1,_⟩|⟨_,g2⟩
  ·rw[g1] at h1;injection h1 with h1;subst h1;exact⟨h2,h3⟩
  ·rw[hn] at g2;cases g2
 have live:∀j,j<k->bH j bD=true->oc j≠.dead/\ofk (of (ρ j))/\of (ρ j)=o (ρ j)/\eQ φ ps j=φ (ρ j)/\jZ j=φ (ρ j)/\∀a',a'=φ (ρ j)->Up w w' (φ (ρ j)) a' (o (ρ j)) (ak of u1 (ρ j)):=fun j hj hn=>by
  obtain⟨sh,r',c',h1,h2,h3⟩:=I2 j om;have hA:sh≠.gone:=fun e=>by
   subst e;rcases ht j hj with ⟨_,g2⟩|⟨g1,_⟩
   ·rw[hn] at g2;cases g2
   ·exact g1 h1
  have hS:oc j≠.dead:=by rw[h2];cases sh<;>simp[fj] at hA ⊢
  have h0:of (ρ j)=o (ρ j):=ofl _ (hw.cd (tied j hj).1);have hc:=H.up j (fx.1 hn);have hT:(gO j ps.aQ).getD 0=ρ j:=(hw.aQ (tied j hj).1).2.1;have hQ:gO (ρ j) ps.cut=none:=by rw[<-hT];exact qa2 hB j (fx.1 hn)
  have RZ:κ j=z3a (o (ρ j)):=by
   rw[<-hκ];unfold Bc;have hb:(Nat.blt j k&&bH j bD)=true:=by rw[hn,Bool.and_true,Nat.blt_eq];exact hj
   rw[hb,cond_true,hT]
  refine⟨hS,?_⟩;rw[h0];rcases AL (φ:=φ) hw (tied j hj).1 with hd|⟨⟨cs,kC,e1,e2⟩|⟨t',ver,s,e1,e2⟩|⟨kt,vt,m,e1,e2⟩|⟨_,_,e1,e2⟩,cU⟩
  ·rw[hd] at hc;exfalso;cases hP:oc j<;>rw[hP] at hc<;>first|exact hc.elim|exact hS hP
  ·rw[e2] at hc;refine⟨by rw[e1];trivial,rfl,cU,?_⟩;rw[h2] at hc;cases sh<;>first|exact hc.elim|exact(hA rfl).elim|skip
   have hc:jZ j=eQ φ ps j:=hc;refine⟨hc.trans cU,fun a' ha=>?_⟩;rw[e1,h3,ha];exact rfl
  ·rw[e2,hQ] at hc;refine⟨by rw[e1];trivial,rfl,cU,?_⟩;rw[h2] at hc;cases sh<;>first|exact hc.elim|exact(hA rfl).elim|skip
   rcases hc with hc|⟨_,u2,u3,u4,u5,u6⟩
   ·exact absurd hc (Nat.lt_irrefl 0)
   ·subst u2;refine⟨u5.trans cU,fun a' ha=>?_⟩;rw[e1,h3,ha];refine .inr ⟨?_,rfl,u3,u4,rfl,fun _=>⟨rfl,fun hn hs n hr=>?_⟩⟩
    ·rw[RZ,e1];rfl
    ·have:=(u6 rfl).2 hn (by rw[cU];exact hs) n (by rw[cU];exact hr);rw[cU] at this;exact this
  ·rw[e2] at hc;refine⟨by rw[e1];trivial,rfl,cU,?_⟩;rw[h2] at hc;cases sh<;>first|exact hc.elim|exact(hA rfl).elim|skip
   have hc:jZ j=eQ φ ps j:=hc;refine⟨hc.trans cU,fun a' ha=>?_⟩;rw[e1,h3,ha];exact rfl
  ·rw[e2] at hc;refine⟨by rw[e1];trivial,rfl,cU,?_⟩;rw[h2] at hc;cases sh<;>first|exact hc.elim|exact(hA rfl).elim|skip
   have hc:jZ j=eQ φ ps j:=hc;refine⟨hc.trans cU,fun a' ha=>?_⟩;rw[e1,h3,ha];exact rfl
 have Fm:∀j a,j<outs.ay.length->aV a (ak of u1 (ρ j))=aV a (oc j):=fun j a hj=>by obtain⟨sh,r',c',h1,h2,h3⟩:=I2 j hj;rw[h2,h3];cases sh<;>rfl
 have kept:∀id,(∀j,j<outs.ay.length->ρ j≠id)->ak of u1 id=of id/\id∉bJ u1:=fun id h=>c3 id fun j _ hj=>h j om;have split:∀id,(∃j,j<outs.ay.length/\ρ j=id)\/(∀j,j<outs.ay.length->ρ j≠id):=fun id=>by
  by_cases h:∃j,j<outs.ay.length/\ρ j=id
  ·exact .inl h
  ·exact .inr fun j hj e=>h ⟨j,hj,e⟩
 have hE:∀j a,aV a (oc j)=true->j<outs.ay.length/\(k<=j\/bH j bD=true):=fun j a hx=>by
  have h1:j<outs.ay.length:=zK fun h=>by rw[c2 j (.inr om)] at hx;exact lG hx
  refine⟨h1,?_⟩;cases hn:bH j bD with
  |true=>exact .inr rfl
  |false=>refine .inl (zK fun h=>?_);rw[(dead j om hn).1] at hx;simp[aV,Ev.live] at hx
 generalize cU:(fun id=>bif (Nat.ble fr id&&Nat.blt id (fr+(outs.ay.length-k))) then jZ (id-fr+k) else φ id)=cV;have pN0:∀j,k<=j->j<outs.ay.length->cV (ρ j)=jZ j:=fun j h1 h2=>by
  rw[<-cU];simp only;rw[fresh j h1];have hb:(Nat.ble fr (fr+(j-k))&&Nat.blt (fr+(j-k)) (fr+(outs.ay.length-k)))=true:=by rw[zd,Nat.ble_eq,Nat.blt_eq];omega
  rw[hb,cond_true];congr 1;omega
 have pO:∀id,of id≠.none->cV id=φ id:=fun id hn=>by
  rw[<-cU];simp only;have hb:(Nat.ble fr id&&Nat.blt id (fr+(outs.ay.length-k)))=false:=by
   cases e:(Nat.ble fr id&&Nat.blt id (fr+(outs.ay.length-k))) with
   |false=>rfl
   |true=>rw[zd,Nat.ble_eq,Nat.blt_eq] at e;have:=tQ (k+(id-fr)) om om;rw[fresh _ om,show fr+(k+(id-fr)-k)=id by omega] at this;exact absurd ((ofn id).2 this) hn
  rw[hb,cond_false]
 have pN:∀j,(k<=j\/bH j bD=true)->j<outs.ay.length->cV (ρ j)=jZ j:=fun j h1 h2=>by
  by_cases hv:k<=j
  ·exact pN0 j hv h2
  ·have hn:=h1.resolve_left hv;obtain⟨_,l2,_,_,l5,_⟩:=live j om hn;rw[pO _ (fun e=>by rw[e] at l2;exact l2),l5]
 have Kz:∀b,px (eQ φ ps) I1 b->∃i,i<k/\aV (φ (ρ i)) (of (ρ i))=true/\(φ (ρ i)).block=b:=fun b ⟨i,h1,h2⟩=>by
  obtain⟨hG,g1,g2⟩:=hw.Ff h1;have hU:vh ps i=ρ i:=(hw.aQ (tied i hG).1).2.1;refine⟨i,hG,?_,by rw[<-hU];exact h2⟩;rw[<-hU];have h5:=hw.cd g1;rw[<-hz];cases ha:lF outs with
  |false=>exact g2
  |true=>
   show aV (φ (vh ps i)) (ak o (dN o ps.cd) (vh ps i))=true;rw[gS]
   ·exact g2
   ·intro hk;have key:∀ks:List Nat,vh ps i∈bJ (dN o ks)->vh ps i∈ks:=by
     intro ks
     induction ks with
     |nil=>intro h;cases h
     |cons q r ih=>
      intro h;simp only[dN] at h;split at h
      ·rcases zt.1 h with h|h
       ·exact h▸zf ..
       ·exact zh _ (ih h)
      ·exact zh _ (ih h)
    exact h5 (key _ hk)
 have KA:∀b,px (eQ φ ps) I1 b->px φ of b:=fun b hb=>by obtain⟨i,_,h1,h2⟩:=Kz b hb;exact⟨ρ i,h1,h2⟩
 have free:∀id,(∀j,j<outs.ay.length->ρ j≠id)->aV (φ id) (of id)=true->¬px (eQ φ ps) I1 (φ id).block:=fun id hJ hx ⟨i,h1,h2⟩=>by obtain⟨hG,g1,g2⟩:=hw.Ff h1;have:=hm.inj _ _ g2 (RY id hx).2 h2;have hr:=(hw.aQ (tied i hG).1).2.1;exact hJ i om (hr.symm.trans this)
 have xb:∀id,(∀j,j<outs.ay.length->ρ j≠id)->aV (φ id) (of id)=true->w'.heap[(φ id).block]?=w.heap[(φ id).block]?:=fun id hJ hx=>H.frame _ (Mf.sep id hx).1 (free id hJ hx);have KB:∀id,(∀j,j<outs.ay.length->ρ j≠id)->aV (φ id) (of id)=true->X1 (φ id).block\/lF outs=false:=fun id hJ hx=>by
  by_cases hl:id∈ps.cd
  ·exact .inr (Ky id hl hx)
  ·refine .inl (hX _ (.inr ⟨id,(RY id hx).2,rfl,hl,fun⟨i,h1,h2⟩=>?_⟩));exact free id hJ hx ⟨i,h1,by unfold eQ;rw[h2]⟩
 have stays:∀b,ah X φ of w b->w'.heap[b]?=w.heap[b]?:=fun b hb=>H.frame b hb.1 fun h=>hb.2.2 (KA b h);have news:∀id,aV (cV id) (ak of u1 id)=true->w.heap.size<=(cV id).block\/px φ of (cV id).block:=fun id hx=>by
  rcases split id with ⟨j,hj,rfl⟩|h
  ·rw[Fm j _ hj] at hx;rw[pN j (hE j _ hx).2 hj] at hx ⊢;exact(H.news _ ⟨j,hx,rfl⟩).imp (fun h=>h) (KA _)
  ·rw[(kept id h).1] at hx;have hq:of id≠.none:=fun e=>by rw[e] at hx;exact lG hx
   rw[pO id hq] at hx ⊢;exact .inr ⟨id,hx,rfl⟩
 have imm:∀b,ah X φ of w b->ah X cV (ak of u1) w' b:=fun b ⟨h1,h2,h3⟩=>⟨Nat.lt_of_lt_of_le h1 H.size,h2,fun⟨id,e1,e2⟩=>by
  rcases news id e1 with h|h
  ·omega
  ·exact h3 (e2▸h)⟩
 have Bw:lF outs=true->∀b,ah X1 jZ oc w' b->ah X cV (ak of u1) w' b:=fun ha b ⟨h1,h2,h3⟩=>⟨h1,fun hx=>h2 (hX b (.inl hx)),fun⟨id,e1,e2⟩=>by
  rcases split id with ⟨j,hj,rfl⟩|h
  ·rw[Fm j _ hj] at e1;rw[pN j (hE j _ e1).2 hj] at e2 e1;exact h3 ⟨j,e1,e2⟩
  ·rw[(kept id h).1] at e1;have hq:of id≠.none:=fun e=>by rw[e] at e1;exact lG e1
   rw[pO id hq] at e2 e1;rcases KB id h e1 with h4|h4
   ·exact h2 (e2▸h4)
   ·rw[ha] at h4;cases h4⟩
 have D4:∀id,Up w w' (φ id) (cV id) (of id) (ak of u1 id):=fun id=>by
  rcases split id with ⟨j,hj,rfl⟩|h
  ·by_cases hv:j<k
   ·cases hn:bH j bD with
    |false=>rw[(dead j hv hn).2];cases of (ρ j)<;>trivial
    |true=>
     obtain⟨_,l2,l3,_,l5,l6⟩:=live j hv hn;have:=l6 (cV (ρ j)) ((pN j (.inr hn) hj).trans l5)
     rwa [<-l3] at this
   ·rw[(ofn _).2 (tQ j om hj)];trivial
  ·rw[(kept id h).1];by_cases hq:of id=.none
   ·rw[hq];trivial
   ·rw[pO id hq];exact Up.same fun hx n hr=>Bh (xb id h hx) hr
 have keeps:∀x z,au φ of (ah X φ of w) w x z->au cV (ak of u1) (ah X cV (ak of u1) w') w' x z:=fun x z hx=>AD imm stays D4 x z hx;have lk:∀i,Oy (κ i) (oc i) (ak of u1 (ρ i)):=fun i=>by
  by_cases hi:i<outs.ay.length
  ·obtain⟨sh,r',c',h1,h2,h3⟩:=I2 i hi;rw[h2,h3];cases sh<;>first|trivial|exact⟨rfl,rfl⟩
  ·rw[c2 i (.inr om)];trivial
 have pk:∀i,oc i≠.none->oc i=.dead\/cV (ρ i)=jZ i:=fun i hn=>by
  have hi:i<outs.ay.length:=zK fun h=>hn (c2 i (.inr om));cases hV:bH i bD with
  |true=>exact .inr (pN i (.inr hV) hi)
  |false=>
   by_cases hG:i<k
   ·exact .inl (dead i hG hV).1
   ·exact .inr (pN i (.inl om) hi)
 have pk':∀i,oc i≠.none->oc i≠.dead->cV (ρ i)=jZ i:=fun i h1 h2=>(pk i h1).resolve_left h2;have Fo:lF outs=true->∀x z,au cV (ak of u1) (ah X1 jZ oc w') w' x z->au cV (ak of u1) (ah X cV (ak of u1) w') w' x z:=fun ha x z hx=>AD (Bw ha) (fun _ _=>rfl) (fun _=>Up.same fun _ _ h=>h) x z hx;have hW:lF outs=false->wk outs.roots=false/\rQ outs.ay=false:=fun h=>by unfold lF at h;rwa [Bool.or_eq_false_iff] at h
 have lists:∀(l:List Sh) (r:List Ty) (c:ai (iC l r)) (zs:List Value),(lF outs=false->wk l=false)->bW jZ oc (ah X1 jZ oc w') w' (fi cg bO l r c).1 zs->
   bW cV (ak of u1) (ah X cV (ak of u1) w') w' (fi ρ κ l r c).1 zs:=fun l r c zs hl h=>by
  have h2:=Oz (φ':=cV) lk pk' l r c zs h;cases ha:lF outs with
  |true=>exact D3 (Fo ha) _ _ h2
  |false=>exact qg5 ρ κ l (hl ha) r c zs h2
 have main:Comes C X φ cV of u1 w w' (kA (fill ρ κ outs y).1) (rW cm):=by
  refine⟨⟨fun id=>?_,fun i j hi hj e=>?_,fun i hi=>?_,fun b hb=>Nat.lt_of_lt_of_le (Mf.xs b hb) H.size,fun id=>?_,fun g t x hg=>keeps _ _ (Mf.fp g t x hg),Mf.tI stays⟩,?_,D4,H.size,fun b hb hh=>?_,fun id hn hk=>pO id hn,news,H.still⟩
  ·rcases split id with ⟨j,hj,rfl⟩|h
   ·by_cases hv:j<k/\bH j bD=false
    ·rw[(dead j hv.1 hv.2).2];trivial
    ·have hK:=M1.ay j;obtain⟨sh,r',c',h1,h2,h3⟩:=I2 j hj;have r9:=pN j (by
      cases hn:bH j bD with
      |true=>exact .inr rfl
      |false=>exact .inl (zK fun h=>hv ⟨by omega,hn⟩)) hj
     rw[h2] at hK;rw[h3];have hA:lF outs=false->rQ [sh]=false:=fun ha=>qu7 (hW ha).2 j sh h1;cases sh with
     |gone=>trivial
     |box l=>obtain⟨b1,cz,el,lo,hy,b2,b3,b4⟩:=hK;refine⟨by rw[r9];exact b1,cz,el,lo,hy,by rw[r9];exact b2,b3,lists l r' c' _ (fun ha=>?_) b4⟩;have:=hA ha;simpa[rQ] using this
     |vec t=>
      obtain⟨b1,b2,b3⟩:=hK;refine⟨b1,b2,fun hn=>?_⟩;rw[r9];refine(b3 hn).imp (fun⟨b4,ec,b5,b6,b7,b8,b9⟩=>?_) fun g=>g;refine⟨b4,ec,?_,b6,b7,b8,fun h=>by cases h⟩;cases ha:lF outs with
      |true=>exact nD (gG (Bw ha) (fun _ _=>rfl) t) b5
      |false=>have:=hA ha;exact nD (fun x c h=>Fl t x c (by simpa[rQ] using this) h) b5
     |map kt vt=>
      obtain⟨es,clock,b1,b2⟩:=hK;refine⟨es,clock,by rw[r9];exact b1,?_⟩;cases ha:lF outs with
      |true=>exact D2 (rT (Bw ha) (fun _ _=>rfl) _) (rT (Bw ha) (fun _ _=>rfl) _) b2
      |false=>have:=hA ha;simp only[rQ,Bool.or_false,Bool.or_eq_false_iff] at this;exact D2 (fun x v h=>RU _ x v this.1 h) (fun x v h=>RU _ x v this.2 h) b2
     |iter=>obtain⟨s,n,b1,b2⟩:=hK;exact⟨s,n,by rw[r9];exact b1,b2⟩
   ·rw[(kept id h).1];by_cases hq:of id=.none
    ·rw[hq];trivial
    ·exact EW imm stays keeps (pO id hq) (xb id h) (Mf.ay id)
  ·have OO:∀a b,a<outs.ay.length->aV (jZ a) (oc a)=true->(∀j,j<outs.ay.length->ρ j≠b)->aV (φ b) (of b)=true->(jZ a).block=(φ b).block->False:=fun a b ha h6 hb hY e=>by
    rcases H.news _ ⟨a,h6,rfl⟩ with h|h
    ·have:=(Mf.sep b hY).1;omega
    ·exact free b hb hY (e▸h)
   rcases split i with ⟨i',hy,rfl⟩|h1<;>rcases split j with ⟨j',hL,rfl⟩|h2
   ·rw[Fm i' _ hy] at hi;rw[Fm j' _ hL] at hj;rw[pN i' (hE i' _ hi).2 hy] at hi e;rw[pN j' (hE j' _ hj).2 hL] at hj e;rw[M1.inj i' j' hi hj e]
   ·rw[Fm i' _ hy] at hi;rw[(kept j h2).1] at hj;have hq:of j≠.none:=fun e=>by rw[e] at hj;exact lG hj
    rw[pN i' (hE i' _ hi).2 hy] at hi e;rw[pO j hq] at hj e;exact(OO i' j hy hi h2 hj e).elim
   ·rw[Fm j' _ hL] at hj;rw[(kept i h1).1] at hi;have hq:of i≠.none:=fun e=>by rw[e] at hi;exact lG hi
    rw[pN j' (hE j' _ hj).2 hL] at hj e;rw[pO i hq] at hi e;exact(OO j' i hL hj h1 hi e.symm).elim
   ·rw[(kept i h1).1] at hi;rw[(kept j h2).1] at hj;have hq:of i≠.none:=fun e=>by rw[e] at hi;exact lG hi
    have hR:of j≠.none:=fun e=>by rw[e] at hj;exact lG hj
    rw[pO i hq] at hi e;rw[pO j hR] at hj e;exact Mf.inj i j hi hj e
  ·rcases split i with ⟨i',hy,rfl⟩|h1
   ·rw[Fm i' _ hy] at hi;rw[pN i' (hE i' _ hi).2 hy] at hi ⊢;exact⟨(M1.sep i' hi).1,fun hx=>(M1.sep i' hi).2 (hX _ (.inl hx))⟩
   ·rw[(kept i h1).1] at hi;have hq:of i≠.none:=fun e=>by rw[e] at hi;exact lG hi
    rw[pO i hq] at hi ⊢;exact⟨Nat.lt_of_lt_of_le (Mf.sep i hi).1 H.size,(Mf.sep i hi).2⟩
  ·rcases split id with ⟨j,hj,rfl⟩|h
   ·by_cases hv:j<k/\bH j bD=false
    ·rw[(dead j hv.1 hv.2).2];trivial
    ·have he:=M1.tH j;obtain⟨sh,r',c',h1,h2,h3⟩:=I2 j hj;have r9:=pN j (by
      cases hn:bH j bD with
      |true=>exact .inr rfl
      |false=>exact .inl (zK fun h=>hv ⟨by omega,hn⟩)) hj
     rw[h2] at he;rw[h3,r9];cases sh with
     |gone=>trivial
     |box l=>exact fun hs=>he ((qfz ρ κ l r' c').symm.trans hs)
     |vec t=>exact he
     |map kt vt=>trivial
     |iter=>trivial
   ·rw[(kept id h).1];by_cases hq:of id=.none
    ·rw[hq];trivial
    ·rw[pO id hq];exact Mf.jJ id (fun hx=>.same (xb id h hx)) stays
  ·exact qfp (lists outs.roots _ _ _ (fun ha=>(hW ha).1) rv)
  ·refine H.frame b hb fun ho=>?_;obtain⟨i,g1,g2,g3⟩:=Kz b ho;exact hh ⟨ρ i,c4 i (Nat.zero_le _) om,g2,g3⟩
 rw[<-hz] at main;exact⟨cV,hF.trans main⟩
theorem z1q{C:Cx}(HN:∀i fn,C.P.funcs[(aL C.sigs i).f]?=some fn->(fn.name== "runtime.NumGoroutine")=false):ON C:=by intro R hR X φ o w hm fr f p vs zs v u hv hg hf;obtain⟨i,ps,c,y,hc,hj,hp,hk,hy,rfl,rfl⟩:=RW _ _ hg;subst hc;obtain⟨q1,q2⟩:=Kr hm hp hv;obtain⟨hl,_⟩:=Fj hp;obtain⟨⟨fn,g1,g2⟩,g3⟩:=hR i c y hy _ _ w zs q1 q2;refine⟨⟨fn,g1,HN i fn g1,g2⟩,Calls.mono g3 fun e w' hb=>?_⟩;obtain⟨cm,jZ,X1,he,hX,M1,rv,H⟩:=hb;rw[hj] at he;obtain⟨cV,h⟩:=z3l hm hl hk hf hX M1 rv H;exact⟨_,cV,qql he,h⟩
end Ev