/- Regions, code, functions and calls are sound; a deferred closure that recovers. No statement of its own about the program. -/
import Derived.Test.YtfgngipmbogcjaaGreatDoorEvE
import Derived.Tactics
import Derived.Scope
import Derived.ScopeJumps
import Derived.Recover
namespace Ev
open Go
section
variable {C:Cx} {nt:Fr} {X:Nat→Prop} {φ φ':Nat→Addr} {st:St} {a:Act} {w w':World} {R:gF C.sigs}
theorem qqm(a:Act)(d:Option Tmp)(z:Value):(a.put d z).tmps.size=a.tmps.size:=by cases d<;>simp[Act.put]
theorem qf3(a:Act)(d:Option Tmp)(z:Value):(a.put d z).defers=a.defers:=by cases d<;>rfl
theorem qqn(a:Act)(d:Tmp)(z:Value)(h:d<a.tmps.size):(a.put (some d) z).tmps.getD d undef=z:=by simp[Act.put,h]
theorem PE(a:Act)(d:Option Tmp)(z:Value)(t:Nat)(h:d≠some t):(a.put d z).tmps.getD t undef=a.tmps.getD t undef:=by
 cases d with
 |none=>rfl
 |some d=>have:d≠t:=fun e=>h (e▸rfl);simp[Act.put,Array.getElem?_setIfInBounds_ne this]
def JP(nt:Nat)(d:Option Tmp):Prop:=∀t,d=some t->t<nt
theorem JR(st:St)(d:Option Nat)(v:V)(t:Nat):(d=some t/\(bF st d v).env t=v)\/(d≠some t/\(bF st d v).env t=st.env t):=by
 cases d with
 |none=>exact .inr ⟨by simp,rfl⟩
 |some d=>
  by_cases h:t=d
  ·subst h;exact .inl ⟨rfl,eY⟩
  ·exact .inr ⟨fun e=>h (by injection e with e;exact e.symm),o6 h⟩
theorem vg(st:St)(d:Option Nat)(v:V):(bF st d v).obj=st.obj:=by cases d<;>rfl
theorem Rel.step(h:Rel C nt X φ st a w){u:List (Nat×Obj)}{v:V}{z:Value}{d:Option Tmp}(hd:JP nt.n d)(hc:Comes C X φ φ' st.obj u w w' v z):Rel C nt X φ' (bF {st with obj:=ar st.obj u} d v) (a.put d z) w':=by
 have ho:(bF {st with obj:=ar st.obj u} d v).obj=ar st.obj u:=vg _ _ _;refine⟨by rw[ho];exact hc.mem,(qqm _ _ _).trans h.size,fun t=>?_,by rw[qf3];exact h.defers⟩;rw[ho];rcases JR {st with obj:=ar st.obj u} d v t with ⟨h1,h2⟩|⟨h1,h2⟩
 ·rw[h2];subst h1;rw[qqn _ _ _ (by rw[h.size];exact hd t rfl)];exact hc.val
 ·rw[h2,PE _ _ _ _ h1];exact hc.keeps _ _ (h.env t)
theorem Rel.put(h:Rel C nt X φ st a w){v:V}{z:Value}{d:Option Tmp}(hd:JP nt.n d)(hv:ay φ st.obj (ah X φ st.obj w) w v z):Rel C nt X φ (bF st d v) (a.put d z) w:=by
 have ho:(bF st d v).obj=st.obj:=vg _ _ _;refine⟨by rw[ho];exact h.toMRel,(qqm _ _ _).trans h.size,fun t=>?_,by rw[qf3];exact h.defers⟩;rw[ho];rcases JR st d v t with ⟨h1,h2⟩|⟨h1,h2⟩
 ·rw[h2];subst h1;rw[qqn _ _ _ (by rw[h.size];exact hd t rfl)];exact hv
 ·rw[h2,PE _ _ _ _ h1];exact h.env t
theorem Rel.eC(h:Rel C nt X φ st a w){v:V}{d:Nat}(hv:∀z,ay φ st.obj (ah X φ st.obj w) w (st.env d) z->ay φ st.obj (ah X φ st.obj w) w v z):Rel C nt X φ (bF st (some d) v) a w:=by
 refine⟨h.toMRel,h.size,fun t=>?_,h.defers⟩;rcases JR st (some d) v t with ⟨h1,h2⟩|⟨h1,h2⟩
 ·rw[h2];injection h1 with h1;subst h1;exact hv _ (h.env d)
 ·rw[h2];exact h.env t
theorem SQ{nt:Nat}{l:List Oper}:qp nt l=true->∀o,o∈l->JP nt o.dst:=by
 induction l with
 |nil=>intro _ o ho;cases ho
 |cons p r ih=>
  intro h o ho;simp only[qp,zd] at h;rcases zu.1 ho with rfl|ho
  ·intro t e;have h1:=h.1;rw[e] at h1;exact zH h1
  ·exact ih h.2 o ho
def Sound(C:Cx)(nt:Fr)(X:Nat->Prop)(J:(Nat->Prop)->(Nat->Addr)->St->Act->World->Prop)(st:St)(P:Act->World->Prop):Prop:=∀X' φ a w,(∀b,X b->X' b)->Rel C nt X' φ st a w->J X' φ st a w->P a w
theorem JS{P:Program}{ops:Array Oper}{Q:Exit->Act->World->Prop}:∀(l m:List Oper) (a:Act) (w:World),wpList P ops (Exit.then (wpList P ops Q m) Q) l a w->wpList P ops Q (l++m) a w
 |[],m,a,w,h=>h
 |o::l,m,a,w,h=>by
  show(if Region.wanted o (yielded ops a.tmps) then o.wp P a w (wpList P ops Q (l++m)) Q\/(o.asks P a w/\LetsOut Q) else wpList P ops Q (l++m) (a.put o.dst undef) w);have h:(if Region.wanted o (yielded ops a.tmps) then o.wp P a w (wpList P ops (Exit.then (wpList P ops Q m) Q) l) (Exit.then (wpList P ops Q m) Q)\/(o.asks P a w/\LetsOut (Exit.then (wpList P ops Q m) Q)) else wpList P ops (Exit.then (wpList P ops Q m) Q) l (a.put o.dst undef) w):=h;split
  ·rename_i hw;rw[if_pos hw] at h;refine h.imp (fun h=>?_) (fun h=>h);unfold Oper.wp at*
   generalize (execOp a.eval o).run P w=r at*
   cases r with
   |ok n w'=>
    cases n<;>simp only[Oper.upon] at h ⊢<;>
     first
      |exact JS l m _ _ h
      |exact Calls.mono h (fun e JC he=>by cases e<;>first|exact JS l m _ _ he|exact he)
      |exact Rows.mono h (fun _ _ he=>JS l m _ _ he)
   |halt x w'=>cases x<;>simp only[Oper.upon] at h ⊢<;>exact h
  ·rename_i hw;rw[if_neg hw] at h;exact JS l m _ _ h
end
theorem qlr{d:Nat}{l:List Oper}:∀{g r:List Oper} {p:Oper},F4 d l=some (g,p,r)->l=g++p::r:=by
 induction l with
 |nil=>intro g r p h;cases h
 |cons o l ih=>
  intro g r p h;have key:(F4 d l).map (fun q=>(o::q.1,q.2.1,q.2.2))=some (g,p,r)->o::l=g++p::r:=by intro h;rw[Option.map_eq_some_iff] at h;obtain⟨q,h1,h2⟩:=h;obtain⟨q1,q2,q3⟩:=q;simp only[Prod.mk.injEq] at h2;obtain⟨rfl,rfl,rfl⟩:=h2;rw[ih h1];rfl
  simp only[F4] at h;split at h
  ·rename_i c _ _ _;cases hb:Nat.beq c d<;>rw[hb] at h
   ·exact key h
   ·injection h with h;simp only[Prod.mk.injEq] at h;obtain⟨rfl,rfl,rfl⟩:=h;rfl
  ·exact key h
theorem SR{nt:Nat}{l m:List Oper}:qp nt (l++m)=true->qp nt l=true/\qp nt m=true:=by
 induction l with
 |nil=>exact fun h=>⟨rfl,h⟩
 |cons o l ih=>intro h;simp only[List.cons_append,qp,zd] at h ⊢;obtain⟨h1,h2⟩:=ih h.2;exact⟨⟨h.1,h1⟩,h2⟩
theorem qob{o:Nat->Obj}{u:List (Nat×Obj)}:ye (some o) u=true->∀id,id∈bO u->o id=.none:=by
 induction u with
 |nil=>intro _ id hi;cases hi
 |cons q r ih=>
  obtain⟨i,x⟩:=q;intro h id hi;simp only[ye,zd] at h;rcases zu.1 hi with hi|hi
  ·subst hi;have:=h.1;cases e:o id<;>rw[e] at this<;>first|rfl|cases this
  ·exact ih h.2 id hi
theorem SS:∀(g:List Oper) (st:St),(yd st g).obj=st.obj
 |[],_=>rfl
 |o::r,st=>by show(yd (bF st o.dst .bP) r).obj=_;rw[SS r,vg]
theorem qls:∀(g:List Oper) (st:St) (t:Nat),(yd st g).env t=.bP\/((yd st g).env t=st.env t/\∀o,o∈g->o.dst≠some t)
 |[],_,_=>.inr ⟨rfl,(fun _ h=>by cases h)⟩
 |o::r,st,t=>by
  rcases qls r (bF st o.dst .bP) t with h|⟨h1,h2⟩
  ·exact .inl h
  ·rcases JR st o.dst .bP t with ⟨h3,h4⟩|⟨h3,h4⟩
   ·exact .inl (h1.trans h4)
   ·refine .inr ⟨h1.trans h4,fun q hq=>?_⟩;rcases zu.1 hq with rfl|hq
    ·exact h3
    ·exact h2 q hq
section
variable {C:Cx} {nt:Fr} {X:Nat→Prop} {R:gF C.sigs}
structure wG (ds:List Oper) (kV:Nat->Addr) (ss:St) (as:Act) (ws:World) (φ:Nat->Addr) (st:St) (a:Act) (w:World):Prop where
 size:ws.heap.size<=w.heap.size
 same:∀b,b<ws.heap.size->w.heap[b]?=ws.heap[b]?
 cE:∀id,ss.obj id≠.none->st.obj id=ss.obj id/\φ id=kV id
 new:∀id,ss.obj id=.none->aX (φ id) (st.obj id)=true->ws.heap.size<=(φ id).block
 tmps:∀t,(∀o,o∈ds->o.dst≠some t)->a.tmps.getD t undef=as.tmps.getD t undef
 still:CB ws w
theorem wG.step{ds:List Oper}{kV φ φ':Nat->Addr}{ss st:St}{as a:Act}{ws w w':World}(h:wG ds kV ss as ws φ st a w){u:List (Nat×Obj)}{v:V}{z:Value}{o:Oper}(ho:o∈ds)(hc:Comes C X φ φ' st.obj u w w' v z)(hn:ye (some ss.obj) u=true):wG ds kV ss as ws φ' (bF {st with obj:=ar st.obj u} o.dst v) (a.put o.dst z) w':=by
 have hk:∀id,id∈bO u->ss.obj id=.none:=qob hn;have he:(bF {st with obj:=ar st.obj u} o.dst v).obj=ar st.obj u:=vg _ _ _;have cE:∀id,ss.obj id≠.none->ar st.obj u id=ss.obj id/\φ' id=kV id:=fun id hi=>by obtain⟨h1,h2⟩:=h.cE id hi;have hf:id∉bO u:=fun hm=>hi (hk id hm);exact⟨(iM hf).trans h1,(hc.oZ id (by rw[h1];exact hi) hf).trans h2⟩
 refine⟨Nat.le_trans h.size hc.size,fun b hb=>?_,by rw[he];exact cE,fun id hi hx=>?_,fun t ht=>?_,⟨hc.still.1.trans h.still.1,hc.still.2.trans h.still.2⟩⟩
 ·rw[hc.frame b (Nat.lt_of_lt_of_le hb h.size),h.same b hb];rintro⟨id,h1,h2,h3⟩;have:=h.new id (hk id h1) h2;omega
 ·rw[he] at hx;rcases hc.news id hx with h1|⟨j,h1,h2⟩
  ·have:=h.size;omega
  ·by_cases hj:ss.obj j=.none
   ·have:=h.new j hj h1;omega
   ·exfalso;obtain⟨e1,e2⟩:=cE j hj;obtain⟨e3,e4⟩:=h.cE j hj;have hg:aX (φ' j) (ar st.obj u j)=true:=by rw[e1,e2,<-e3,<-e4];exact h1
    have:=hc.mem.inj j id hg hx (by rw[e2,<-e4];exact h2);subst this;exact hj hi
 ·rw[PE _ _ _ _ (ht o ho)];exact h.tmps t ht
theorem wG.undef{ds:List Oper}{kV φ:Nat->Addr}{ss st:St}{as a:Act}{ws w:World}(h:wG ds kV ss as ws φ st a w){o:Oper}(ho:o∈ds)(v:V)(z:Value):wG ds kV ss as ws φ (bF st o.dst v) (a.put o.dst z) w:=⟨h.size,h.same,by rw[vg];exact h.cE,by rw[vg];exact h.new,fun t ht=>by rw[PE _ _ _ _ (ht o ho)];exact h.tmps t ht,h.still⟩
theorem wG.eC{ds:List Oper}{kV φ:Nat->Addr}{ss st:St}{as a:Act}{ws w:World}(h:wG ds kV ss as ws φ st a w)(d:Option Nat)(v:V):wG ds kV ss as ws φ (bF st d v) a w:=⟨h.size,h.same,by rw[vg];exact h.cE,by rw[vg];exact h.new,h.tmps,h.still⟩
theorem wG.forget{g:List Oper}{p:Oper}{pd:Nat}(hk:p.dst=some pd){kV φ:Nat->Addr}{ss st:St}{as a:Act}{ws w:World}(hs:Rel C nt X kV ss as ws)(he:Rel C nt X φ st a w)(h:wG (g++[p]) kV ss as ws φ st a w){y:Bool}(hy:dK (st.env pd)=.d .bool y):Rel C nt X kV (bF (yd ss g) (some pd) (.d .bool y)) a w:=by
 have hc:(bF (yd ss g) (some pd) (.d .bool y)).obj=ss.obj:=by rw[vg,SS]
 have hf:∀b,ah X kV ss.obj ws b->ah X kV ss.obj w b:=fun b hb=>⟨Nat.lt_of_lt_of_le hb.1 h.size,hb.2.1,hb.2.2⟩;have hj:∀b,ah X kV ss.obj ws b->w.heap[b]?=ws.heap[b]?:=fun b hb=>h.same b hb.1;have keeps:∀x z,ay kV ss.obj (ah X kV ss.obj ws) ws x z->ay kV ss.obj (ah X kV ss.obj w) w x z:=fun x z hx=>BQ hf hj (fun id=>Up.same fun hx n hr=>CA (h.same _ (hs.sep id hx).1) hr) x z hx;refine⟨?_,he.size,fun t=>?_,he.defers⟩
 ·rw[hc];refine⟨fun id=>Gb hf hj keeps rfl (fun hx=>h.same _ (hs.sep id hx).1) (hs.aB id),hs.inj,fun i hi=>⟨Nat.lt_of_lt_of_le (hs.sep i hi).1 h.size,(hs.sep i hi).2⟩,
   fun b hb=>Nat.lt_of_lt_of_le (hs.xs b hb) h.size,fun id=>hs.kE id (fun hx=>.same (h.same _ (hs.sep id hx).1)) hj,fun g t x hg=>keeps _ _ (hs.fC g t x hg),hs.u7 hj⟩
 ·rw[hc];rcases JR (yd ss g) (some pd) (.d .bool y) t with ⟨h1,h2⟩|⟨h1,h2⟩
  ·rw[h2];injection h1 with h1;subst h1;have:=K2 (he.env pd);rw[hy] at this;have:=pT this;rw[this];exact u9
  ·rw[h2];rcases qls g ss t with h3|⟨h3,h4⟩
   ·rw[h3];trivial
   ·rw[h3,h.tmps t fun o ho=>?_]
    ·exact keeps _ _ (hs.env t)
    ·rcases zL.1 ho with ho|ho
     ·exact h4 o ho
     ·rw[zI] at ho;subst ho;rw[hk];exact h1
theorem SU{ops:Array Oper}{a:Act}{j dj:Nat}{oj:Oper}{b:Bool}(hj:ops.toList[j]?=some oj)(hd:oj.dst=some dj)(h:a.tmps.getD dj undef=.bool b):yielded ops a.tmps j=some b:=by
 unfold yielded;rw[zF] at hj;have h':a.tmps[dj]?=some (.bool b):=by
  rw[Array.getD_eq_getD_getElem?] at h;cases e:a.tmps[dj]? with
  |none=>rw[e] at h;cases h
  |some z=>rw[e] at h;exact congrArg some h
 simp[hj,hd,h']
theorem qf5{ops:Array Oper}{a:Act}{j dj:Nat}{oj:Oper}(hj:ops.toList[j]?=some oj)(hd:oj.dst=some dj)(h:a.tmps.getD dj undef=undef):yielded ops a.tmps j=none:=by
 unfold yielded;rw[zF] at hj;rw[Array.getD_eq_getD_getElem?] at h;simp only[hj,Option.bind_some,hd];cases e:a.tmps[dj]? with
 |none=>rfl
 |some z=>rw[e] at h;have h:z=undef:=h;subst h;rfl
theorem qlt{φ:Nat->Addr}{o:Nat->Obj}{imm:Nat->Prop}{w:World}{val:Value}{e:Ending}{b:Bool}{vs:List V}(h:yn true val e)(hv:ay φ o imm w (.gV (.bP::.d .bool b::vs)) val):∃z,ay φ o imm w (lz vs) z/\((b=false/\e=.returned z)\/(b=true/\∃t v,e=.panicked (oC t v))):=by obtain⟨z0,b',rs,ev,he⟩:=h;subst ev;obtain⟨cz,ec,z0',r0,e3,_,z1,r1,e4,hb,hc⟩:=hv;injection ec with ec;subst ec;simp only[List.cons.injEq] at e3;obtain⟨_,rfl⟩:=e3;simp only[List.cons.injEq] at e4;obtain⟨rfl,rfl⟩:=e4;have hb:=pT hb;injection hb with hb;subst hb;exact⟨_,qh5 hc,he⟩
theorem Rel.yo{φ φ':Nat->Addr}{st:St}{a:Act}{w w':World}(h:Rel C nt X φ st a w){u:List (Nat×Obj)}{v:V}{z:Value}(hc:Comes C X φ φ' st.obj u w w' v z):Rel C nt X φ' {st with obj:=ar st.obj u} a w':=⟨hc.mem,h.size,fun t=>hc.keeps _ _ (h.env t),h.defers⟩
theorem Comes.value{φ φ':Nat->Addr}{o:Nat->Obj}{u:List (Nat×Obj)}{w w':World}{v v2:V}{z z2:Value}(h:Comes C X φ φ' o u w w' v z)(hv:ay φ' (ar o u) (ah X φ' (ar o u) w') w' v2 z2):Comes C X φ φ' o u w w' v2 z2:=⟨h.mem,hv,h.up,h.size,h.frame,h.oZ,h.news,h.still⟩
structure o9 (C:Cx) (nt:Fr) (g0:Option (Nat->Obj)) (r:List Oper) (J:(Nat->Prop)->(Nat->Addr)->St->Act->World->Prop):Prop where
 step:∀X φ st a w φ' u v z w' o,o∈r->J X φ st a w->Rel C nt X φ st a w->Comes C X φ φ' st.obj u w w' v z->ye g0 u=true->J X φ' (bF {st with obj:=ar st.obj u} o.dst v) (a.put o.dst z) w'
 undef:∀X φ st a w o,o∈r->J X φ st a w->J X φ (bF st o.dst .undef) (a.put o.dst undef) w
 eC:∀X φ st a w d v,J X φ st a w->J X φ (bF st d v) a w
 vh:g0=none->∀X φ st a w φ' u v z w',J X φ st a w->Rel C nt X φ st a w->Comes C X φ φ' st.obj u w w' v z->J X φ' {st with obj:=ar st.obj u} a w'
 forget:g0=none->∀X kV ss as ws φ st a w (g js:List Oper) (v:Option Nat×V),J X kV ss as ws->wG g kV ss as ws φ st a w->J X kV (bF (yd ss js) v.1 v.2) a w
theorem o9.tail{g0:Option (Nat->Obj)}{r r':List Oper}{J:(Nat->Prop)->(Nat->Addr)->St->Act->World->Prop}(h:o9 C nt g0 r J)(hs:∀o,o∈r'->o∈r):o9 C nt g0 r' J:=⟨fun X φ st a w φ' u v z w' o ho=>h.step X φ st a w φ' u v z w' o (hs o ho),fun X φ st a w o ho=>h.undef X φ st a w o (hs o ho),h.eC,h.vh,h.forget⟩
variable (hC:cw C) (hE:kD C) (HC:∀X φ o w,MRel C X φ o w→∀fr f,tA C R X φ o w fr f)
include hC hE HC
theorem qf6{ops:Array Oper}{rg:Nat}:∀(n:Nat) {γ δ:Type} (X:Nat->Prop) (Q:Exit->Act->World->Prop) (wr:γ->δ) (i:Nat) (r:List Oper) (st:St) (k kp:(γ->δ)->St->Option δ) (y:δ) (J:(Nat->Prop)->(Nat->Addr)->St->Act->World->Prop) (g0:Option (Nat->Obj)),mz lf C R rg ops.toList g0 n wr i r st k kp=some y->qp nt.n r=true->o9 C nt g0 r J->(∀bE,k wr bE=some y->Sound C nt X J bE (Q .normal))->(∀bE,kp wr bE=some y->Sound C nt X J bE (Q (.panic (oC 0 undef))))->(∀a w t v,Q (.panic (oC 0 undef)) a w->Q (.panic (oC t v)) a w)->Sound C nt X J st (wpList C.P ops Q r):=by
 intro n
 induction n with
 |zero=>intro γ δ X Q wr i r st k kp y J g0 h;cases h
 |succ n ih=>
  intro γ δ X Q wr i r st k kp y J g0 h hd hJ hk hm hf;cases r with
  |nil=>exact hk st h
  |cons o r=>
   have hn:JP nt.n o.dst:=SQ hd o (zf ..);have hs:qp nt.n r=true:=(SR (l:=[o]) hd).2;have ht:o9 C nt g0 r J:=hJ.tail fun q hq=>zg _ hq;have runs:(match df lf C R st.env st.obj (gO rg i) o.type o.op with
     |.fail=>none
     |.mw v u=>bif ye g0 u then nZ v fun v=>qI (gO rg i) st.obj u fun o'=>mz lf C R rg ops.toList g0 n wr (i+1) r (bF {st with obj:=o'} o.dst v) k kp else none
     |.dyn _ x out=>lf.b x fun y=>bif ye g0 (out y).2 then nZ (out y).1 fun v=>qI (gO rg i) st.obj (out y).2 fun o'=>mz lf C R rg ops.toList g0 n wr (i+1) r (bF {st with obj:=o'} o.dst v) k kp else none)=some y->
     ∀X' φ a w,(∀b,X b->X' b)->Rel C nt X' φ st a w->J X' φ st a w->o.wp C.P a w (wpList C.P ops Q r) Q:=by
    intro h X' φ a w hX hR hj;have go:∀v u,(df lf C R st.env st.obj (gO rg i) o.type o.op).gives v u->(bif ye g0 u then nZ v fun v=>qI (gO rg i) st.obj u fun o'=>mz lf C R rg ops.toList g0 n wr (i+1) r (bF {st with obj:=o'} o.dst v) k kp else none)=some y->
      o.wp C.P a w (wpList C.P ops Q r) Q:=by
     intro v u hg h;cases hb:ye g0 u with
     |false=>rw[hb] at h;cases h
     |true=>rw[hb,cond_true,Lq] at h;obtain⟨h1,h2⟩:=Lr _ _ _ _ h;have hl:=Sy hC hE hR.toMRel (fun x=>hR.bZ x) (HC X' φ st.obj w hR.toMRel (gO rg i)) hg h2;exact hl.upon fun val w' φ' hc=>ih X Q wr (i+1) r _ k kp y J g0 h1 hs ht hk hm hf X' φ' _ w' hX (hR.step hn hc) (hJ.step X' φ st a w φ' u v val w' o (zf ..) hj hR hc hb)
    generalize hp:df lf C R st.env st.obj (gO rg i) o.type o.op=pk at h go;cases pk with
    |fail=>cases h
    |mw v u=>exact go v u ⟨rfl,rfl⟩ h
    |dyn α x out=>obtain⟨q,h1,h2⟩:=xF (x:=x) h;exact go (out q).1 (out q).2 ⟨q,h1,rfl⟩ h2
   have Fl:mz lf C R rg ops.toList g0 n wr (i+1) r (bF st o.dst .undef) k kp=some y->Sound C nt X J st (fun a w=>wpList C.P ops Q r (a.put o.dst undef) w):=by intro h X' φ a w hX hR hj;exact ih X Q wr (i+1) r _ k kp y J g0 h hs ht hk hm hf X' φ _ w hX (hR.put hn rfl) (hJ.undef X' φ st a w o (zf ..) hj)
   intro X' φ a w hX hR hj;show(if Region.wanted o (yielded ops a.tmps) then o.wp C.P a w (wpList C.P ops Q r) Q\/(o.asks C.P a w/\LetsOut Q) else wpList C.P ops Q r (a.put o.dst undef) w);unfold mz at h;cases hF:KT C.sigs o with
   |true=>
    rw[hF,cond_true] at h;split at h
    ·rename_i hg;rw[if_pos (by simp[Region.wanted,hg])];refine .inl ?_;obtain⟨dst,op,ty,pos,after,guard⟩:=o;unfold z6j at h;simp only at h;split at h
     ·
      rename_i x;split at h
      ·rename_i hx;have hz:=hR.bZ x;rw[hx] at hz;obtain⟨t,z,hz⟩:=hz;have hq:=hm st h X' φ a w hX hR hj;show Oper.upon C.P _ a _ Q ((execOp a.eval _).run C.P w);have er:(execOp a.eval ⟨dst,.panic x,ty,pos,after,guard⟩).run C.P w=.halt (.panic (.iface t z)) w:=by show(Instr.panic (a.eval x)>>=fun v=>(pure (Next.value v):Sem Next)).run C.P w=_;rw[hz];rfl
       rw[er];exact hf a w t z hq
      ·cases h
     ·
      rename_i hW;split at h
      ·rename_i α x out hM;obtain⟨q,h1,h2⟩:=xF (x:=x) h;split at h2
       ·rename_i b vs hu;rw[Lq] at h2;obtain⟨h3,h4⟩:=Lr _ _ _ _ h2;have hN:(E7 lf C R st.env st.obj (gO rg i) op).gives (.gV (.bP::.d .bool b::vs)) (out q).2:=by rw[hM];exact⟨q,h1,by rw[<-hu]⟩
        obtain⟨f',az,e1,e2⟩:=qqd (q:=⟨dst,op,ty,pos,after,guard⟩) (fun x=>hR.bZ x) (HC X' φ st.obj w hR.toMRel (gO rg i)) hN h4;show Oper.upon C.P _ a _ Q ((execOp a.eval _).run C.P w);rw[e1];refine Calls.mono e2 fun e w' he=>?_;obtain⟨val,φ',he,hc⟩:=he;obtain⟨z,hv,he⟩:=qlt he hc.val;rcases he with ⟨rfl,rfl⟩|⟨rfl,t,z,rfl⟩
        ·have h3:mz lf C R rg ops.toList none n wr (i+1) r _ k kp=some y:=h3;exact ih X Q wr (i+1) r _ k kp y J none h3 hs ht hk hm hf X' φ' _ w' hX (hR.step hn (hc.value hv)) (hJ.step X' φ st a w φ' (out q).2 (lz vs) _ w' ⟨dst,_,ty,pos,after,guard⟩ (zf ..) hj hR (hc.value hv) (by cases (out q).2<;>rfl))
        ·have h3:kp wr {st with obj:=ar st.obj (out q).2}=some y:=h3;exact hf a w' t z (hm _ h3 X' φ' a w' hX (hR.yo hc) (hJ.vh rfl X' φ st a w φ' _ _ _ w' hj hR hc))
       ·cases h2
      ·cases h
    ·cases h
   |false=>
   rw[hF,cond_false] at h;simp only at h;split at h
   ·rename_i hg;rw[if_pos (by simp[Region.wanted,hg])];exact .inl (runs h X' φ a w hX hR hj)
   ·rename_i j want hg;split at h
    ·rename_i oj hH;split at h
     ·rename_i dj hI;split at h
      ·
       rename_i b hb;have hz:=hR.env dj;rw[hb] at hz;have hy:=SU hH hI hz;have hw:Region.wanted o (yielded ops a.tmps)=(bif want then b else !b):=by unfold Region.wanted;rw[hg];simp only[hy];cases b<;>cases want<;>rfl
       rw[hw];cases hc:(bif want then b else !b) with
       |true=>rw[hc] at h;rw[if_pos rfl];exact .inl (runs h X' φ a w hX hR hj)
       |false=>rw[hc] at h;rw[if_neg (by simp)];exact Fl h X' φ a w hX hR hj
      ·
       rename_i hb;have hz:=hR.env dj;rw[hb] at hz;have hy:=qf5 hH hI hz;have hw:Region.wanted o (yielded ops a.tmps)=false:=by unfold Region.wanted;rw[hg];simp only[hy];rfl
       rw[hw,if_neg (by simp)];exact Fl h X' φ a w hX hR hj
      ·rename_i x hb;split at h
       ·
        rename_i gs;have rc:∀b,x=b->∀z,ay φ st.obj (ah X' φ st.obj w) w (st.env dj) z->ay φ st.obj (ah X' φ st.obj w) w (.lb b) z:=by intro b e z hz;rw[hb] at hz;subst e;exact pT hz
        cases x with
        |true=>have h:mz lf C R rg ops.toList (some gs) n wr i (o::r) (bF st (some dj) (.lb true)) k kp=some y:=h;exact ih X Q wr i (o::r) _ k kp y J _ h hd hJ hk hm hf X' φ a w hX (hR.eC (rc true rfl)) (hJ.eC X' φ st a w _ _ hj)
        |false=>have h:mz lf C R rg ops.toList (some gs) n wr i (o::r) (bF st (some dj) (.lb false)) k kp=some y:=h;exact ih X Q wr i (o::r) _ k kp y J _ h hd hJ hk hm hf X' φ a w hX (hR.eC (rc false rfl)) (hJ.eC X' φ st a w _ _ hj)
       ·cases hK:qpv C dj (o::r)
        case true=>
         rw[hK,cond_true] at h;have rc:∀b,x=b->∀z,ay φ st.obj (ah X' φ st.obj w) w (st.env dj) z->ay φ st.obj (ah X' φ st.obj w) w (.lb b) z:=by intro b e z hz;rw[hb] at hz;subst e;exact pT hz
         cases x with
         |true=>have h:mz lf C R rg ops.toList none n wr i (o::r) (bF st (some dj) (.lb true)) k kp=some y:=h;exact ih X Q wr i (o::r) _ k kp y J _ h hd hJ hk hm hf X' φ a w hX (hR.eC (rc true rfl)) (hJ.eC X' φ st a w _ _ hj)
         |false=>have h:mz lf C R rg ops.toList none n wr i (o::r) (bF st (some dj) (.lb false)) k kp=some y:=h;exact ih X Q wr i (o::r) _ k kp y J _ h hd hJ hk hm hf X' φ a w hX (hR.eC (rc false rfl)) (hJ.eC X' φ st a w _ _ hj)
        rw[hK,cond_false] at h;split at h
        ·rename_i g p r' hO;split at h
         ·rename_i pd hP;obtain⟨yb,h1,h2⟩:=xF h;have hQ:=qlr hO;show wpList C.P ops Q (o::r) a w;rw[hQ] at hd hJ ⊢;have hA:g++p::r'=(g++[p])++r':=by simp
          rw[hA] at hd hJ ⊢;obtain⟨hS,hT⟩:=SR hd;refine JS _ _ _ _ ?_;have rc:∀b,x=b->∀z,ay φ st.obj (ah X' φ st.obj w) w (st.env dj) z->ay φ st.obj (ah X' φ st.obj w) w (.lb b) z:=by intro b e z hz;rw[hb] at hz;subst e;exact pT hz
          have hU:mz (γ:=Bool) (δ:=Bool) lf C R rg ops.toList (some st.obj) n (fun x=>x) i (g++[p]) (bF st (some dj) (.lb x)) (fun w' bE=>z6i _ w' (dK (bE.env pd))) (fun _ _=>none)=some yb:=by cases x<;>exact h1
          refine ih X' (Exit.then (wpList C.P ops Q r') Q) (fun x=>x) i (g++[p]) _ _ _ yb (fun X2 dA st2 a2 w2=>X2=X'/\wG (g++[p]) φ st a w dA st2 a2 w2) (some st.obj) hU hS ?_ ?_ (fun _ h=>by cases h) hf X' φ a w (fun _ h=>h) (hR.eC (rc x rfl)) ⟨rfl,?_⟩
          ·refine⟨fun X2 dA st2 a2 w2 φ' u v z w' q hq ⟨e,hG⟩ hL hc ho=>⟨e,hG.step hq hc ho⟩,fun X2 dA st2 a2 w2 q hq ⟨e,hG⟩=>⟨e,hG.undef hq _ _⟩,fun X2 dA st2 a2 w2 d v ⟨e,hG⟩=>⟨e,hG.eC d v⟩,fun e=>(by cases e),fun e=>by cases e⟩
          ·intro bE hB X2 dA a2 w2 _ hL ⟨e,hG⟩;subst e;have hV:dK (bE.env pd)=.d .bool yb:=by
            revert hB;generalize dK (bE.env pd)=q;intro hq;cases q<;>try (cases hq;done)
            rename_i t d;cases t<;>try (cases hq;done)
            injection hq with hq;rw[<-hq]
           exact ih X Q wr _ r' _ k kp y J none h2 hT (hJ.tail fun q hq=>List.mem_append_right _ hq) hk hm hf X2 φ a2 w2 hX (hG.forget hP hR hL hV)
            (hJ.forget rfl X2 φ st a w dA bE a2 w2 (g++[p]) g (some pd,.d .bool yb) hj hG)
          ·exact⟨Nat.le_refl _,fun _ _=>rfl,fun _ _=>⟨rfl,rfl⟩,fun id h1 h2=>(by
            have:(bF st (some dj) (.lb x)).obj=st.obj:=vg _ _ _;rw[this,h1] at h2;cases h2),fun _ _=>rfl,⟨rfl,rfl⟩⟩
         ·cases h
        ·cases h
      ·cases h
     ·cases h
    ·cases h
end
inductive eD (nt:Nat):Code->AC->Prop where
 |skip:eD nt .skip .skip
 |label (l:Nat):eD nt (.label l) .skip
 |region (id:Nat) (ops:Array Oper) (d:Bool) (h:qp nt ops.toList=true):eD nt (.region id ops d) (.region id ops d)
 |seq {a b:Code} {a' b':AC} (ha:eD nt a a') (hb:eD nt b b'):eD nt (.seq a b) (.seq a' b')
 |cond {a b:Code} {a' b':AC} (c:Operand) (ts:List Nat) (ha:eD nt a a') (hb:eD nt b b'):eD nt (.cond c a b) (.cond c ts a' b')
 |block {b:Code} {b':AC} (id:Nat) (ts:List Nat) (hb:eD nt b b'):eD nt (.block id b) (.block id ts b')
 |loop {b:Code} {b':AC} (ts:List Nat) (hb:eD nt b b'):eD nt (.loop b) (.loop ts b')
 |exit (id:Nat):eD nt (.exit id) (.exit id)
 |goto (l:Nat):eD nt (.goto l) (.goto l)
 |ret:eD nt .ret .ret
 |scope {b:Code} {b':AC} (hb:eD nt b b'):eD nt (.scope b) (.scope b')
 |jump {b p r:Code} {p' r':AC} (l:Nat) (ts:List Nat) (h1:ahead l b=some p) (h2:findLabel b l=some r) (hp:eD nt p p') (hr:eD nt r r'):eD nt (.scope b) (.jump l ts p' r')
 |bad (c:Code):eD nt c .bad
def lC(P:Program):Code->(Exit->Act->World->Prop)->Act->World->Prop
 |.seq x y,Q=>lC P x (Exit.then (lC P y Q) Q)
 |.skip,Q=>Q .normal
 |.label _,Q=>Q .normal
 |c,Q=>c.wp P Q
theorem wH{P:Program}:∀{c:Code} {Q:Exit->Act->World->Prop} {a:Act} {w:World},lC P c Q a w->c.wp P Q a w:=by
 intro c
 induction c with
 |seq x y CL CM=>intro Q a w h;refine wp_seq (wp_mono (CL h) fun e a w h=>?_);cases e<;>first|exact CM h|exact h
 |skip=>intro Q a w h;exact wp_skip h
 |label l=>intro Q a w h;exact wp_label h
 |_=>intro Q a w h;exact h
theorem wI{P:Program}:∀{c:Code} {Q Q':Exit->Act->World->Prop} {a:Act} {w:World},lC P c Q a w->(∀e a w,Q e a w->Q' e a w)->lC P c Q' a w:=by
 intro c
 induction c with
 |seq x y CL CM=>intro Q Q' a w h hq;refine CL (Q:=Exit.then (lC P y Q) Q) h fun e a w h=>?_;cases e<;>first|exact CM h hq|exact hq _ _ _ h
 |skip=>intro Q Q' a w h hq;exact hq _ _ _ h
 |label l=>intro Q Q' a w h hq;exact hq _ _ _ h
 |_=>intro Q Q' a w h hq;exact wp_mono h hq
theorem qw8{P:Program}{l:Nat}:∀(c:Code) {p r:Code} {Q:Exit->Act->World->Prop} {a:Act} {w:World},ahead l c=some p->findLabel c l=some r->lC P p (Exit.then (lC P r Q) Q) a w->lC P c Q a w:=by
 have none:∀c,ahead l c=none->findLabel c l=none:=by
  intro c
  induction c with
  |seq x y CL CM=>
   intro h;simp only[ahead] at h;split at h
   ·cases h
   ·rename_i e;split at h
    ·cases h
    ·rename_i e2;simp only[findLabel,CL e,CM e2]
  |label j=>
   intro h;simp only[ahead] at h;have:¬j=l:=fun e=>by rw[e,Nat.beq_refl] at h;cases h
   simp[findLabel,this]
  |_=>intro h;rfl
 have Lv:∀c p,ahead l c=some p->∃r,findLabel c l=some r:=by
  intro c
  induction c with
  |seq x y CL CM=>
   intro p h;simp only[ahead] at h;split at h
   ·rename_i c' e;obtain⟨r,hr⟩:=CL _ e;exact⟨.seq r y,by simp only[findLabel,hr]⟩
   ·rename_i e;split at h
    ·rename_i c' e2;obtain⟨r,hr⟩:=CM _ e2;exact⟨r,by simp only[findLabel,none _ e,hr]⟩
    ·cases h
  |label j=>
   intro p h;simp only[ahead] at h;cases hb:Nat.beq j l with
   |true=>exact⟨.skip,by rw[zh hb];simp[findLabel]⟩
   |false=>rw[hb] at h;cases h
  |_=>intro p h;cases h
 intro c
 induction c with
 |seq x y CL CM=>
  intro p r Q a w h1 h2 h;simp only[ahead] at h1;split at h1
  ·rename_i c' e;injection h1 with h1;subst h1;obtain⟨rx,hc⟩:=Lv _ _ e;simp only[findLabel,hc,zK] at h2;subst h2;refine CL (Q:=Exit.then (lC P y Q) Q) e hc (wI h fun e a w h=>?_);cases e<;>exact h
  ·rename_i e;split at h1
   ·rename_i c' e2;injection h1 with h1;subst h1;simp only[findLabel,none _ e] at h2;refine wI (c:=x) h fun e a w h=>?_;cases e<;>first|exact CM e2 h2 h|exact h
   ·cases h1
 |label j=>
  intro p r Q a w h1 h2 h;simp only[ahead] at h1;cases hb:Nat.beq j l with
  |true=>rw[hb] at h1;injection h1 with h1;have hb:=zh hb;simp only[findLabel,hb,beq_self_eq_true,if_true,zK] at h2;subst h1 h2;exact h
  |false=>rw[hb] at h1;cases h1
 |_=>intro p r Q a w h1;cases h1
def Ex.to:Ex->Exit
 |.normal=>.normal
 |.exit id=>.exit id
 |.goto l=>.goto l
 |.ret=>.ret
 |.panic=>.panic (oC 0 undef)
theorem BZ{p:Nat->Prop}(h:∃n,p n):∃n,p n/\∀m,p m->n<=m:=by
 obtain⟨n,hn⟩:=h
 induction n using Nat.strongRecOn with
 |_ n ih=>
  by_cases hm:∃m,m<n/\p m
  ·obtain⟨m,h1,h2⟩:=hm;exact ih m h1 h2
  ·exact⟨n,hn,fun m hc=>zP fun he=>hm ⟨m,by omega,hc⟩⟩
theorem Lw{σ ρ:Type}{f:σ->Option (σ⊕ρ)}{s:σ}{r:ρ}(h:aH f s=some r):∃n,mc f n s=some r:=by
 unfold aH at h;split at h
 ·rename_i hx;injection h with h;have:=Classical.choose_spec hx;rw[h] at this;exact this
 ·cases h
section
variable {C:Cx} {nt:Fr} {R:gF C.sigs} {dL:Nat→Addr} {o0:Nat→Obj} {w0:World} {sk:List Nat}
abbrev HJ(sk:List Nat)(dL:Nat->Addr)(o0:Nat->Obj)(w0:World):(Nat->Prop)->(Nat->Addr)->St->Act->World->Prop:=fun _ φ st _ w=>cS sk dL o0 w0 φ st.obj w
theorem HJ.keeps(r:List Oper):o9 C nt none r (HJ sk dL o0 w0):=by
 refine⟨fun X φ st a w φ' u v z w' o ho h hR hc _=>?_,fun X φ st a w o ho h=>?_,fun X φ st a w d v h=>?_,fun _ X φ st a w φ' u v z w' h hR hc=>h.step hc,fun _ X kV ss as ws φ st a w g js v h hG=>?_⟩
 ·show cS sk dL o0 w0 φ' (bF {st with obj:=ar st.obj u} o.dst v).obj w';rw[vg];exact h.step hc
 ·show cS sk dL o0 w0 φ (bF st o.dst .undef).obj w;rw[vg];exact h
 ·show cS sk dL o0 w0 φ (bF st d v).obj w;rw[vg];exact h
 ·show cS sk dL o0 w0 kV (bF (yd ss js) v.1 v.2).obj w;rw[vg,SS];exact⟨Nat.le_trans h.size hG.size,fun b hb hn=>by rw[hG.same b (Nat.lt_of_lt_of_le hb h.size),h.frame b hb hn],h.news,⟨hG.still.1.trans h.still.1,hG.still.2.trans h.still.2⟩,fun id hi=>(h.up id hi).trans (Up.same fun _ n hr=>by refine CA (hG.same _ ?_) hr;obtain⟨c,el,lo,he,h1,_⟩:=hr;exact(Array.getElem?_eq_some_iff.1 h1).1)⟩
def JT(C:Cx)(nt:Fr)(J:(Nat->Prop)->(Nat->Addr)->St->Act->World->Prop)(X:Nat->Prop){γ:Type}(k:(δ:Type)->(γ->δ)->Ex->St->Option δ)(Q:(γ->Prop)->Exit->Act->World->Prop):Prop:=∀(δ:Type) (w:γ->δ) (e:Ex) (st:St) (y:δ),k δ w e st=some y->Sound C nt X J st (Q (fun g=>w g=y) e.to)
structure xH {γ:Type} (Q:(γ->Prop)->Exit->Act->World->Prop):Prop where
 mono:∀S S' e a w,(∀g,S g->S' g)->Q S e a w->Q S' e a w
 vh:∀S a w t v,Q S (.panic (oC 0 undef)) a w->Q S (.panic (oC t v)) a w
def PG(C:Cx)(nt:Fr)(R:gF C.sigs)(J:(Nat->Prop)->(Nat->Addr)->St->Act->World->Prop):Prop:=
 ∀(rg:Nat) (ops:Array Oper) (n:Nat) {γ δ:Type} (X:Nat->Prop) (Q:Exit->Act->World->Prop) (wr:γ->δ) (st:St) (k kp:(γ->δ)->St->Option δ) (y:δ),
  sU lf C R rg ops.toList n wr 0 ops.toList st [] [] k kp=some y->qp nt.n ops.toList=true->(∀bE,k wr bE=some y->Sound C nt X J bE (Q .normal))->(∀bE,kp wr bE=some y->Sound C nt X J bE (Q (.panic (oC 0 undef))))->(∀a w t v,Q (.panic (oC 0 undef)) a w->Q (.panic (oC t v)) a w)->
  Sound C nt X J st ((Code.region rg ops true).wp C.P Q)
theorem Sound.weaken{J:(Nat->Prop)->(Nat->Addr)->St->Act->World->Prop}{X:Nat->Prop}{st:St}{P P':Act->World->Prop}(h:Sound C nt X J st P)(hp:∀a w,P a w->P' a w):Sound C nt X J st P':=fun X' φ a w h1 h2 h3=>hp _ _ (h X' φ a w h1 h2 h3)
def yp(C:Cx)(nt:Fr)(sk:List Nat)(dL:Nat->Addr)(o0:Nat->Obj)(w0:World)(X:Nat->Prop)(ts:List Nat)(s:Shape)(c:ai s.aW)(a:Act)(w:World):Prop:=∃X2 dA,(∀b,X b->X2 b)/\Rel C nt X2 dA (jV sk ts s c) a w/\cS sk dL o0 w0 dA (jV sk ts s c).obj w
theorem JU{δ:Type}{s:Shape}{w:ai s.aW->δ}{aS:List (Nat×Nat)}{o:Nat->Obj}{vs:List V}{y:δ}(h:kx lf sk s w aS o vs=some y):∃ps c,F1 lf sk aS o s vs=some (ps,c)/\w c=y:=by
 unfold kx at h;split at h
 ·rename_i p e;injection h with h;exact⟨p.1,p.2,e,h⟩
 ·cases h
def JQ(C:Cx)(nt:Fr)(sk:List Nat)(dL:Nat->Addr)(o0:Nat->Obj)(w0:World)(X:Nat->Prop)(ts:List Nat)(s:Shape){γ δ:Type}(wr:γ->δ)(Q:(γ->Prop)->Exit->Act->World->Prop):(ai s.aW⊕δ->Prop)->Exit->Act->World->Prop
 |S,.normal,a,w=>∃c,S (.inl c)/\yp C nt sk dL o0 w0 X ts s c a w
 |S,e,a,w=>Q (fun g=>S (.inr (wr g))) e a w
theorem JQ.mono{X:Nat->Prop}{ts:List Nat}{s:Shape}{γ δ:Type}{wr:γ->δ}{Q:(γ->Prop)->Exit->Act->World->Prop}(hQ:xH Q):xH (JQ C nt sk dL o0 w0 X ts s wr Q):=by refine⟨fun S S' e a w hs h=>?_,fun S a w t v h=>hQ.vh _ _ _ _ _ h⟩;cases e<;>first|exact hQ.mono _ _ _ _ _ (fun g hg=>hs _ hg) h|exact(let ⟨c,h1,h2⟩:=h;⟨c,hs _ h1,h2⟩)
theorem qqp{X:Nat->Prop}{ts:List Nat}{s:Shape}{γ δ:Type}{wr:γ->δ}{Q:(γ->Prop)->Exit->Act->World->Prop}(hQ:xH Q){y1:ai s.aW⊕δ}{y:δ}{k:(δ:Type)->(γ->δ)->Ex->St->Option δ}(hk:JT C nt (HJ sk dL o0 w0) X k Q)(h:ga (fun c=>uW sk ts s c fun st=>k δ wr .normal st) y1=some y)(e:Exit)(a:Act)(w:World)(hj:JQ C nt sk dL o0 w0 X ts s wr Q (fun g=>g=y1) e a w):Q (fun g=>wr g=y) e a w:=by
 cases y1 with
 |inl c=>
  have h:uW sk ts s c (fun st=>k δ wr .normal st)=some y:=h;rw[Pw] at h;cases e with
  |normal=>obtain⟨c',h1,X2,dA,h2,h3,h4⟩:=hj;injection h1 with h1;subst h1;exact hk δ wr .normal _ y h X2 dA a w h2 h3 h4
  |_=>exact hQ.mono _ _ _ _ _ (fun g hg=>by cases hg) hj
 |inr d=>
  have h:some d=some y:=h;injection h with h;subst h;cases e with
  |normal=>obtain⟨c',h1,_⟩:=hj;cases h1
  |_=>exact hQ.mono _ _ _ _ _ (fun g hg=>by injection hg) hj
theorem PH{X:Nat->Prop}{ts:List Nat}{s:Shape}{γ δ cT:Type}{wr:γ->δ}{Q:(γ->Prop)->Exit->Act->World->Prop}{w':ai s.aW⊕δ->cT}{bE:St}{y':cT}(yq:iP sk)(h:kx lf sk s (fun c=>w' (.inl c)) (ti 0 sk) bE.obj (ts.map fun t=>dK (bE.env t))=some y'):Sound C nt X (HJ sk dL o0 w0) bE (JQ C nt sk dL o0 w0 X ts s wr Q (fun g=>w' g=y') .normal):=by obtain⟨ps,c,h1,h2⟩:=JU h;intro X' φ a w hX hR hJ;obtain⟨dA,X2,g1,g2,g3⟩:=Lu yq hR hJ h1;exact⟨c,h2,X2,dA,fun b hb=>g1 b (hX b hb),g2,g3⟩
variable (hC:cw C) (hE:kD C) (HC:∀X φ o w,MRel C X φ o w→∀fr f,tA C R X φ o w fr f) (HD:PG C nt R (HJ sk dL o0 w0)) (yq:iP sk)
include hC hE HC HD yq
open Classical in
theorem SV{c:Code}{ac:AC}(hA:eD nt.n c ac):∀(X:Nat->Prop) (st:St) (γ δ:Type) (w:γ->δ) (k:(δ:Type)->(γ->δ)->Ex->St->Option δ) (Q:(γ->Prop)->Exit->Act->World->Prop) (y:δ),xH Q->JT C nt (HJ sk dL o0 w0) X k Q->ev lf C R sk ac st γ δ w k=some y->Sound C nt X (HJ sk dL o0 w0) st (lC C.P c (Q fun g=>w g=y)):=by
 induction hA with
 |skip=>intro X st γ δ w k Q y hQ hk h;exact hk δ w .normal st y h
 |label l=>intro X st γ δ w k Q y hQ hk h;exact hk δ w .normal st y h
 |region id ops d hd=>
  intro X st γ δ w k Q y hQ hk h;cases d with
  |true=>exact HD id ops _ X _ w st _ _ y h hd (fun bE h'=>hk δ w .normal bE y h') (fun bE h'=>hk δ w .panic bE y h') fun a w t v h=>hQ.vh _ a w t v h
  |false=>refine(qf6 hC hE HC (ops:=ops) (rg:=id) _ X (Q fun g=>w g=y) w 0 ops.toList st _ _ y (HJ sk dL o0 w0) none h hd (HJ.keeps _) (fun bE h'=>hk δ w .normal bE y h') (fun bE h'=>hk δ w .panic bE y h') fun a w t v h=>hQ.vh _ a w t v h).weaken fun a w h=>wp_region_list h
 |@seq ca cb a b ha hb oz kA=>
  intro X st γ δ w k Q y hQ hk h;refine oz X st γ δ w _ (fun S e a w=>Exit.then (lC C.P cb (Q S)) (Q S) e a w) y ?_ ?_ h
  ·refine⟨fun S S' e a w hs h=>?_,fun S a w t v h=>hQ.vh _ _ _ _ _ h⟩;cases e<;>first|exact hQ.mono _ _ _ _ _ hs h|exact wI h fun e a w h=>hQ.mono _ _ _ _ _ hs h
  ·intro cT w' e bE y' h';cases e with
   |normal=>exact kA X bE γ cT w' k Q y' hQ hk h'
   |exit id=>exact hk cT w' (.exit id) bE y' h'
   |goto l=>exact hk cT w' (.goto l) bE y' h'
   |ret=>exact hk cT w' .ret bE y' h'
   |panic=>exact hk cT w' .panic bE y' h'
 |@cond ca cb a b c ts ha hb oz kA=>
  intro X st γ δ w k Q y hQ hk h X' φ act wd hX hR hJ;unfold ev at h;split at h
  ·rename_i x hx;have hz:=hR.bZ c;rw[hx] at hz;have hz:=pT hz;have plain:ak x (ev lf C R sk a st γ δ w k) (ev lf C R sk b st γ δ w k)=some y->(Code.cond c ca cb).wp C.P (Q fun g=>w g=y) act wd:=by
    intro h;cases x with
    |true=>exact wp_cond_true hz (wH (oz X st γ δ w k Q y hQ hk h X' φ act wd hX hR hJ))
    |false=>exact wp_cond_false hz (wH (kA X st γ δ w k Q y hQ hk h X' φ act wd hX hR hJ))
   cases hf:(uV a&&uV b) with
   |false=>rw[hf] at h;exact plain h
   |true=>
    rw[hf,cond_true,Pv] at h;generalize Jp C sk st ts (pR a++pR b)=s at h;have both:∀(k':(cT:Type)->(ai s.aW⊕δ->cT)->Ex->St->Option cT) (y1:ai s.aW⊕δ),JT C nt (HJ sk dL o0 w0) X k' (JQ C nt sk dL o0 w0 X ts s w Q)->
      ak x (ev lf C R sk a st (ai s.aW⊕δ) (ai s.aW⊕δ) (fun x=>x) k') (ev lf C R sk b st (ai s.aW⊕δ) (ai s.aW⊕δ) (fun x=>x) k')=some y1->
      (Code.cond c ca cb).wp C.P (JQ C nt sk dL o0 w0 X ts s w Q fun g=>g=y1) act wd:=by
     intro k' y1 hy h;cases x with
     |true=>exact wp_cond_true hz (wH (oz X st _ _ (fun x=>x) k' _ y1 (JQ.mono hQ) hy h X' φ act wd hX hR hJ))
     |false=>exact wp_cond_false hz (wH (kA X st _ _ (fun x=>x) k' _ y1 (JQ.mono hQ) hy h X' φ act wd hX hR hJ))
    cases hl:(wx C.sigs a||wx C.sigs b) with
    |true=>
     rw[hl,cond_true] at h;obtain⟨y1,h1,h2⟩:=xF h;refine wp_mono (both _ y1 ?_ h1) fun e a w hj=>qqp hQ hk h2 e a w hj;intro cT w' e bE y' h';cases e with
     |normal=>exact PH yq h'
     |exit id=>exact hk cT (fun g=>w' (.inr (w g))) (.exit id) bE y' h'
     |goto l=>exact hk cT (fun g=>w' (.inr (w g))) (.goto l) bE y' h'
     |ret=>exact hk cT (fun g=>w' (.inr (w g))) .ret bE y' h'
     |panic=>exact hk cT (fun g=>w' (.inr (w g))) .panic bE y' h'
    |false=>
     rw[hl,cond_false] at h;obtain⟨y1,h1,h2⟩:=xF h
     have only:∀(cx:Code) (ax:AC),(∀(X:Nat->Prop) (st:St) (γ δ:Type) (w:γ->δ) (k:(δ:Type)->(γ->δ)->Ex->St->Option δ) (Q:(γ->Prop)->Exit->Act->World->Prop) (y:δ),
       xH Q->JT C nt (HJ sk dL o0 w0) X k Q->ev lf C R sk ax st γ δ w k=some y->Sound C nt X (HJ sk dL o0 w0) st (lC C.P cx (Q fun g=>w g=y)))->
       ev lf C R sk ax st (ai s.aW) (ai s.aW) (fun x=>x) (fun _ w' e bE=>match e with
        |.normal=>kx lf sk s w' (ti 0 sk) bE.obj (ts.map fun t=>dK (bE.env t))
        |_=>none)=some y1->cx.wp C.P (Q fun g=>w g=y) act wd:=by
      intro cx ax ih h;have:=ih X st _ _ (fun x=>x) _ (fun S e a w=>match e with|.normal=>∃c,S c/\yp C nt sk dL o0 w0 X ts s c a w|_=>False) y1 ?_ ?_ h X' φ act wd hX hR hJ
      ·refine wp_mono (wH this) fun e a2 w2 hj=>?_;cases e with
       |normal=>obtain⟨c',hc,X2,dA,g1,g2,g3⟩:=hj;subst hc;have h2:uW sk ts s c' (fun st=>k δ w .normal st)=some y:=h2;rw[Pw] at h2;exact hk δ _ .normal _ y h2 X2 dA a2 w2 g1 g2 g3
       |_=>exact hj.elim
      ·refine⟨fun S S' e a w hs h=>?_,fun S a w t v h=>h.elim⟩;cases e<;>first|exact h.elim|exact(let ⟨c,h1,h2⟩:=h;⟨c,hs _ h1,h2⟩)
      ·intro cT w' e bE y' h';cases e with
       |normal=>obtain⟨ps,cc,e1,e2⟩:=JU h';intro X' φ a w hX hR hJ;obtain⟨dA,X2,g1,g2,g3⟩:=Lu yq hR hJ e1;exact⟨cc,e2,X2,dA,fun b hb=>g1 b (hX b hb),g2,g3⟩
       |_=>cases h'
     cases x with
     |true=>exact wp_cond_true hz (only ca a oz h1)
     |false=>exact wp_cond_false hz (only cb b kA h1)
  ·cases h
 |@block cb b id ts hb ih=>
  intro X st γ δ w k Q y hQ hk h;have Fm:∀{γ:Type} {Q:(γ->Prop)->Exit->Act->World->Prop},xH Q->xH (fun S=>Exit.inBlock id (Q S)):=by
   intro γ Q hQ;refine⟨fun S S' e a w hs h=>?_,fun S a w t v h=>hQ.vh _ _ _ _ _ h⟩;cases e with
   |exit j=>
    show(if j=id then Q S' .normal a w else Q S' (.exit j) a w);have h:(if j=id then Q S .normal a w else Q S (.exit j) a w):=h;split
    ·rename_i e;rw[if_pos e] at h;exact hQ.mono _ _ _ _ _ hs h
    ·rename_i e;rw[if_neg e] at h;exact hQ.mono _ _ _ _ _ hs h
   |_=>exact hQ.mono _ _ _ _ _ hs h
  unfold ev at h;cases hw:Nat.ble 2 (ways id b+(bif uV b then 1 else 0)) with
  |true=>
   rw[hw,cond_true,Pv] at h;generalize Jp C sk st ts (pR b)=s at h;obtain⟨y1,h1,h2⟩:=xF h;refine(ih X st _ _ (fun x=>x) _ (fun S=>Exit.inBlock id (JQ C nt sk dL o0 w0 X ts s w Q S)) y1 (Fm (JQ.mono hQ)) ?_ h1).weaken fun a wd hb=>wp_mono (wp_block (wH hb)) fun e a wd hj=>qqp hQ hk h2 e a wd hj;intro cT w' e bE y' h';cases e with
   |normal=>exact PH (wr:=w) (Q:=Q) yq h'
   |exit j=>
    show Sound C nt X _ bE (fun a wd=>if j=id then JQ C nt sk dL o0 w0 X ts s w Q (fun g=>w' g=y') .normal a wd else JQ C nt sk dL o0 w0 X ts s w Q (fun g=>w' g=y') (.exit j) a wd);simp only at h';cases hj:Nat.beq j id with
    |true=>rw[hj,cond_true] at h';have:=zh hj;simp only[this,if_true];exact PH (wr:=w) (Q:=Q) yq h'
    |false=>
     rw[hj,cond_false] at h';have:¬j=id:=fun e=>by rw[e,Nat.beq_refl] at hj;cases hj
     simp only[this,if_false];exact hk cT (fun g=>w' (.inr (w g))) (.exit j) bE y' h'
   |goto l=>exact hk cT (fun g=>w' (.inr (w g))) (.goto l) bE y' h'
   |ret=>exact hk cT (fun g=>w' (.inr (w g))) .ret bE y' h'
   |panic=>exact hk cT (fun g=>w' (.inr (w g))) .panic bE y' h'
  |false=>
   rw[hw,cond_false] at h;refine(ih X st γ δ w _ (fun S=>Exit.inBlock id (Q S)) y (Fm hQ) ?_ h).weaken fun a wd hb=>wp_block (wH hb);intro cT w' e bE y' h';cases e with
   |normal=>exact hk cT w' .normal bE y' h'
   |exit j=>
    show Sound C nt X _ bE (fun a wd=>if j=id then Q (fun g=>w' g=y') .normal a wd else Q (fun g=>w' g=y') (.exit j) a wd);simp only at h';cases hj:Nat.beq j id with
    |true=>rw[hj,cond_true] at h';have:=zh hj;simp only[this,if_true];exact hk cT w' .normal bE y' h'
    |false=>
     rw[hj,cond_false] at h';have:¬j=id:=fun e=>by rw[e,Nat.beq_refl] at hj;cases hj
     simp only[this,if_false];exact hk cT w' (.exit j) bE y' h'
   |goto l=>exact hk cT w' (.goto l) bE y' h'
   |ret=>exact hk cT w' .ret bE y' h'
   |panic=>exact hk cT w' .panic bE y' h'
 |@loop cb b ts hb ih=>
  intro X st γ δ w k Q y hQ hk h X' φ act wd hX hR hJ;unfold ev at h;rw[Pv] at h;generalize Jp C sk st ts (pR b)=s at h;split at h
  ·rename_i p hp;obtain⟨n0,ho⟩:=Lw h;generalize hn:(fun c=>uW sk ts s c fun st=>ev lf C R sk b st (ai s.aW⊕δ) (ai s.aW⊕δ) (fun x=>x) fun cT w' e bE=>match e with
     |.normal=>kx lf sk s (fun c=>w' (.inl c)) (ti 0 sk) bE.obj (ts.map fun t=>dK (bE.env t))
     |e=>k cT (fun g=>w' (.inr (w g))) e bE)=body at ho
   obtain⟨dA,X2,g1,g2,g3⟩:=Lu yq hR hJ hp;let Pn:Act->World->Nat->Prop:=fun a wd n=>∃cc,mc body n cc=some y/\yp C nt sk dL o0 w0 X ts s cc a wd;let I:Act->World->Prop:=fun a wd=>∃n,Pn a wd n;refine wp_loop I (fun a wd=>if h:I a wd then Classical.choose (BZ h) else 0) ⟨n0,p.2,ho,X2,dA,fun b hb=>g1 b (hX b hb),g2,g3⟩ ?_;intro a wd hI;have hl:=Classical.choose_spec (BZ hI);simp only[dif_pos hI];generalize Classical.choose (BZ hI)=n at hl;obtain⟨⟨cc,c1,X3,xI,c2,c3,c4⟩,ht⟩:=hl;cases n with
   |zero=>cases c1
   |succ m=>
    simp only[mc] at c1;have run:∀y1,body cc=some y1->cb.wp C.P (JQ C nt sk dL o0 w0 X ts s w Q fun g=>g=y1) a wd:=by
     intro y1 he;rw[<-hn] at he;have he:uW sk ts s cc _=some y1:=he;rw[Pw] at he;refine wH (ih X (jV sk ts s cc) _ _ (fun x=>x) _ (JQ C nt sk dL o0 w0 X ts s w Q) y1 (JQ.mono hQ) ?_ he X3 xI a wd c2 c3 c4);intro cT w' e bE y' h';cases e with
     |normal=>exact PH yq h'
     |exit id=>exact hk cT (fun g=>w' (.inr (w g))) (.exit id) bE y' h'
     |goto l=>exact hk cT (fun g=>w' (.inr (w g))) (.goto l) bE y' h'
     |ret=>exact hk cT (fun g=>w' (.inr (w g))) .ret bE y' h'
     |panic=>exact hk cT (fun g=>w' (.inr (w g))) .panic bE y' h'
    split at c1
    ·rename_i s' hu;refine wp_mono (run _ hu) fun e a2 w2 hj=>?_;cases e with
     |normal=>obtain⟨c',e1,e2⟩:=hj;injection e1 with e1;subst e1;have hm:I a2 w2:=⟨m,c',c1,e2⟩;refine⟨hm,?_⟩;rw[dif_pos hm];have:=(Classical.choose_spec (BZ hm)).2 m ⟨c',c1,e2⟩;omega
     |_=>exact hQ.mono _ _ _ _ _ (fun g hg=>by cases hg) hj
    ·rename_i r hr;injection c1 with c1;subst c1;refine wp_mono (run _ hr) fun e a2 w2 hj=>?_;cases e with
     |normal=>obtain⟨c',e1,_⟩:=hj;cases e1
     |_=>exact hQ.mono _ _ _ _ _ (fun g hg=>by injection hg) hj
    ·cases c1
  ·cases h
 |exit id=>intro X st γ δ w k Q y hQ hk h;exact(hk δ w (.exit id) st y h).weaken fun a w h=>wp_exit h
 |goto l=>intro X st γ δ w k Q y hQ hk h;exact(hk δ w (.goto l) st y h).weaken fun a w h=>wp_goto h
 |ret=>intro X st γ δ w k Q y hQ hk h;exact(hk δ w .ret st y h).weaken fun a w h=>wp_ret h
 |@scope cb b hb ih=>
  intro X st γ δ w k Q y hQ hk h;refine(ih X st γ δ w _ (fun S=>Exit.noGoto (Q S)) y ?_ ?_ h).weaken fun a wd hb=>wp_scope_straight (wH hb)
  ·refine⟨fun S S' e a w hs h=>?_,fun S a w t v h=>hQ.vh _ _ _ _ _ h⟩;cases e<;>first|exact hQ.mono _ _ _ _ _ hs h|exact h
  ·intro cT w' e bE y' h';cases e with
   |normal=>exact hk cT w' .normal bE y' h'
   |exit id=>exact hk cT w' (.exit id) bE y' h'
   |goto l=>cases h'
   |ret=>exact hk cT w' .ret bE y' h'
   |panic=>exact hk cT w' .panic bE y' h'
 |@jump cb cp cr p r l ts h1 h2 hp hr SX ihr=>
  intro X st γ δ w k Q y hQ hk h;let body:(s:Shape)->(cT:Type)->(γ->cT)->ai s.aW->Option (ai s.aW⊕cT):=fun s δ w c=>uW sk ts s c fun st=>ev lf C R sk r st (ai s.aW⊕δ) (ai s.aW⊕δ) (fun x=>x) fun cT w' e bE=>match e with
     |.goto l'=>bif Nat.beq l' l then kx lf sk s (fun c=>w' (.inl c)) (ti 0 sk) bE.obj (ts.map fun t=>dK (bE.env t)) else none
     |e=>k cT (fun g=>w' (.inr (w g))) e bE
  let JJ:(γ->Prop)->Nat->Act->World->Prop:=fun S n a wd=>∃(s:Shape) (cT:Type) (w':γ->cT) (y':cT),(∀g,w' g=y'->S g)/\∃cc,mc (body s cT w') n cc=some y'/\yp C nt sk dL o0 w0 X ts s cc a wd;let J:(γ->Prop)->Act->World->Prop:=fun S a wd=>∃n,JJ S n a wd;let Q':(γ->Prop)->Exit->Act->World->Prop:=fun S e a wd=>match e with
   |.normal=>J S a wd
   |.goto _=>False
   |e=>Q S e a wd
  have mJ:∀S S' a wd,(∀g,S g->S' g)->J S a wd->J S' a wd:=fun S S' a wd hs ⟨n,s,cT,w',y',h1,h2⟩=>⟨n,s,cT,w',y',fun g hg=>hs g (h1 g hg),h2⟩;have mQ:xH Q':=by refine⟨fun S S' e a w hs h=>?_,fun S a w t v h=>hQ.vh _ _ _ _ _ h⟩;cases e<;>first|exact hQ.mono _ _ _ _ _ hs h|exact mJ _ _ _ _ hs h|exact h.elim
  have hv:=SX X st γ δ w _ Q' y mQ (fun cT w' e bE y' h'=>by
   cases e with
   |normal=>
    simp only at h';rw[Pv] at h';generalize Jp C sk bE ts (pR r)=s at h';split at h'
    ·rename_i p hp;obtain⟨n0,ho⟩:=Lw h';intro X' φ a wd hX hR hJ;obtain⟨dA,X2,g1,g2,g3⟩:=Lu yq hR hJ hp;exact⟨n0,s,cT,w',y',fun _ h=>h,p.2,ho,X2,dA,fun b hb=>g1 b (hX b hb),g2,g3⟩
    ·cases h'
   |exit id=>exact hk cT w' (.exit id) bE y' h'
   |goto l=>cases h'
   |ret=>exact hk cT w' .ret bE y' h'
   |panic=>exact hk cT w' .panic bE y' h') h
  intro X' φ act wd hX hR hJ;replace hv:=hv X' φ act wd hX hR hJ;let μ:Act->World->Nat:=fun a wd=>if h:J (fun g=>w g=y) a wd then Classical.choose (BZ h) else 0
  have pass:∀a wd,J (fun g=>w g=y) a wd->lC C.P cr (Exit.jump l (fun a' w'=>J (fun g=>w g=y) a' w'/\μ a' w'<μ a wd) (Q fun g=>w g=y)) a wd:=by
   intro a wd hI;have hl:=Classical.choose_spec (BZ hI);have hμ:μ a wd=Classical.choose (BZ hI):=dif_pos hI;rw[hμ];generalize Classical.choose (BZ hI)=n at hl;obtain⟨⟨s,cT,w',y',hS,cc,c1,X3,xI,c2,c3,c4⟩,ht⟩:=hl;cases n with
   |zero=>cases c1
   |succ m=>
    simp only[mc] at c1;let Q2:(ai s.aW⊕cT->Prop)->Exit->Act->World->Prop:=fun T e a wd=>match e with
     |.goto l'=>l'=l/\∃c,T (.inl c)/\yp C nt sk dL o0 w0 X ts s c a wd
     |e=>Q (fun g=>T (.inr (w' g))) e a wd
    have SY:xH Q2:=by refine⟨fun S S' e a w hs h=>?_,fun S a w t v h=>hQ.vh _ _ _ _ _ h⟩;cases e<;>first|exact hQ.mono _ _ _ _ _ (fun g hg=>hs _ hg) h|exact(let ⟨c0,c,h1,h2⟩:=h;⟨c0,c,hs _ h1,h2⟩)
    have run:∀y1,body s cT w' cc=some y1->lC C.P cr (Q2 fun g=>g=y1) a wd:=by
     intro y1 he;have he:uW sk ts s cc _=some y1:=he;rw[Pw] at he;refine ihr X (jV sk ts s cc) _ _ (fun x=>x) _ Q2 y1 SY ?_ he X3 xI a wd c2 c3 c4;intro PJ w2 e bE y2 h';cases e with
     |normal=>exact hk PJ (fun g=>w2 (.inr (w' g))) .normal bE y2 h'
     |exit id=>exact hk PJ (fun g=>w2 (.inr (w' g))) (.exit id) bE y2 h'
     |goto l'=>
      simp only at h';cases hb:Nat.beq l' l with
      |false=>rw[hb] at h';cases h'
      |true=>rw[hb,cond_true] at h';obtain⟨ps,c,e1,e2⟩:=JU h';intro X' φ a w hX hR hJ;obtain⟨dA,X2,g1,g2,g3⟩:=Lu yq hR hJ e1;exact⟨zh hb,c,e2,X2,dA,fun b hb=>g1 b (hX b hb),g2,g3⟩
     |ret=>exact hk PJ (fun g=>w2 (.inr (w' g))) .ret bE y2 h'
     |panic=>exact hk PJ (fun g=>w2 (.inr (w' g))) .panic bE y2 h'
    split at c1
    ·rename_i s' hu;refine wI (run _ hu) fun e a2 w2 hj=>?_;cases e with
     |goto l'=>obtain⟨e0,c',e1,e2⟩:=hj;injection e1 with e1;subst e1;have hB:JJ (fun g=>w g=y) m a2 w2:=⟨s,cT,w',y',hS,c',c1,e2⟩;have hm:J (fun g=>w g=y) a2 w2:=⟨m,hB⟩;refine⟨e0,hm,?_⟩;have SZ:μ a2 w2=Classical.choose (BZ hm):=dif_pos hm;rw[SZ];have:=(Classical.choose_spec (BZ hm)).2 m hB;omega
     |_=>exact hQ.mono _ _ _ _ _ (fun g hg=>by cases hg) hj
    ·rename_i r0 hF;injection c1 with c1;subst c1;refine wI (run _ hF) fun e a2 w2 hj=>?_;cases e with
     |goto l'=>obtain⟨_,c',e1,_⟩:=hj;cases e1
     |_=>exact hQ.mono _ _ _ _ _ (fun g hg=>hS g (by injection hg)) hj
    ·cases c1
  refine wp_scope_jumps l (J fun g=>w g=y) μ h2 (wH (qw8 cb h1 h2 (wI hv fun e a wd hq=>?_))) fun a wd hI=>wH (pass a wd hI);cases e with
  |normal=>
   refine wI (pass a wd hq) fun e a2 w2 hj=>?_;cases e with
   |goto l'=>exact⟨hj.1,hj.2.1⟩
   |_=>exact hj
  |goto l'=>exact hq.elim
  |_=>exact hq
 |bad c=>intro X st γ δ w k Q y hQ hk h;cases h
end
theorem JV{β:Type}(m:Nat):∀(n:Nat) (acc:List Nat) (k:List Nat->β),∃ts,wv m n acc k=k ts
 |0,acc,k=>⟨acc,rfl⟩
 |n+1,acc,k=>by
  show ∃ts,(bif Nat.testBit m n then wv m n (n::acc) k else wv m n acc k)=k ts;cases Nat.testBit m n
  ·exact JV m n acc k
  ·exact JV m n (n::acc) k
theorem qlu{γ:Type}{rt nt:Nat}:∀(n:Nat) (c:Code) (ex gt:List (Nat×Nat)) (m:Nat) (k:Nat->AC->Option γ) (y:γ),my rt nt n c ex gt m k=some y->∃m' ac,eD nt c ac/\k m' ac=some y:=by
 intro n
 induction n with
 |zero=>intro c ex gt m k y h;exact⟨m,.bad,.bad c,h⟩
 |succ n ih=>
  intro c ex gt m k y h;cases c with
  |skip=>exact⟨m,.skip,.skip,h⟩
  |label l=>exact⟨m,.skip,.label l,h⟩
  |region id ops d=>
   have h:(bif qp nt ops.toList then lP (RA ops.toList m) fun m'=>k m' (.region id ops d) else k m .bad)=some y:=h;cases hd:qp nt ops.toList with
   |true=>rw[hd,cond_true,qt] at h;exact⟨_,_,.region id ops d hd,h⟩
   |false=>rw[hd,cond_false] at h;exact⟨_,_,.bad _,h⟩
  |seq a b=>have h:(my rt nt n b ex gt m fun mb b'=>my rt nt n a ex gt mb fun ma a'=>k ma (.seq a' b'))=some y:=h;obtain⟨mb,b',h1,h2⟩:=ih _ _ _ _ _ _ h;obtain⟨ma,a',h3,h4⟩:=ih _ _ _ _ _ _ h2;exact⟨ma,_,.seq h3 h1,h4⟩
  |cond c a b=>have h:(my rt nt n a ex gt m fun ma a'=>my rt nt n b ex gt m fun mb b'=>lP (OK c|||ma|||mb) fun m'=>wv m nt [] fun ts=>k m' (.cond c ts a' b'))=some y:=h;obtain⟨ma,a',h1,h2⟩:=ih _ _ _ _ _ _ h;obtain⟨mb,b',h3,h4⟩:=ih _ _ _ _ _ _ h2;rw[qt] at h4;obtain⟨ts,e⟩:=JV m nt [] (fun ts=>k (OK c|||ma|||mb) (.cond c ts a' b'));rw[e] at h4;exact⟨_,_,.cond c ts h1 h3,h4⟩
  |block id b=>have h:(my rt nt n b ((id,m)::ex) gt m fun mb b'=>wv m nt [] fun ts=>k mb (.block id ts b'))=some y:=h;obtain⟨mb,b',h1,h2⟩:=ih _ _ _ _ _ _ h;obtain⟨ts,e⟩:=JV m nt [] (fun ts=>k mb (.block id ts b'));rw[e] at h2;exact⟨_,_,.block id ts h1,h2⟩
  |loop b=>have h:(my rt nt n b ex gt 0 fun m1 _=>my rt nt n b ex gt m1 fun m2 b'=>wv m2 nt [] fun ts=>k m2 (.loop ts b'))=some y:=h;obtain⟨m1,_,_,h2⟩:=ih _ _ _ _ _ _ h;obtain⟨m2,b',h3,h4⟩:=ih _ _ _ _ _ _ h2;obtain⟨ts,e⟩:=JV m2 nt [] (fun ts=>k m2 (.loop ts b'));rw[e] at h4;exact⟨_,_,.loop ts h3,h4⟩
  |exit id=>exact⟨_,_,.exit id,h⟩
  |goto l=>exact⟨_,_,.goto l,h⟩
  |ret=>exact⟨_,_,.ret,h⟩
  |scope b=>
   have h:(match OL b b with
    |none=>my rt nt n b ex gt m fun mb b'=>k mb (.scope b')
    |some l=>match ahead l b,findLabel b l with
     |some p,some r=>my rt nt n r ex ((l,0)::gt) m fun m1 _=>my rt nt n r ex ((l,m1)::gt) m fun m2 r'=>my rt nt n p ex gt m2 fun mp p'=>wv m2 nt [] fun ts=>k mp (.jump l ts p' r')
     |_,_=>k m .bad)=some y:=h
   split at h
   ·obtain⟨mb,b',h1,h2⟩:=ih _ _ _ _ _ _ h;exact⟨_,_,.scope h1,h2⟩
   ·rename_i l _;split at h
    ·rename_i p r ep er;obtain⟨m1,_,_,h2⟩:=ih _ _ _ _ _ _ h;obtain⟨m2,r',h3,h4⟩:=ih _ _ _ _ _ _ h2;obtain⟨mp,p',h5,h6⟩:=ih _ _ _ _ _ _ h4;obtain⟨ts,e⟩:=JV m2 nt [] (fun ts=>k mp (.jump l ts p' r'));rw[e] at h6;exact⟨_,_,.jump l ts ep er h5 h3,h6⟩
    ·exact⟨_,_,.bad _,h⟩
  |_=>exact⟨m,.bad,.bad _,h⟩
theorem S0:∀(vs:List V) (i:Nat) (env:Nat->V) (t:Nat),(∀j,t=i+j->∀v,vs[j]?=some v->uX env i vs t=v)/\((t<i\/i+vs.length<=t)->uX env i vs t=env t)
 |[],i,env,t=>⟨fun j _ v h=>by simp at h,fun _=>rfl⟩
 |x::r,i,env,t=>by
  obtain⟨h1,h2⟩:=S0 r (i+1) (cV env i x) t;refine⟨fun j hj v hv=>?_,fun hj=>?_⟩
  ·show uX (cV env i x) (i+1) r t=v;cases j with
   |zero=>rw[h2 (.inl om),hj,Nat.add_zero,eY];simpa using hv
   |succ j=>exact h1 j om v (by simpa using hv)
  ·show uX (cV env i x) (i+1) r t=env t;simp only[zw] at hj;rw[h2 om,o6 om]
section
variable {C:Cx} {R:gF C.sigs}
def PK(p:Bool)(cD:List Value)(e:Ending):Prop:=match p with
 |false=>e=.returned (tz cD)
 |true=>∃z b r,cD=z::.bool b::r/\((b=false/\e=.returned (tz r))\/(b=true/\∃t v,e=.panicked (oC t v)))
theorem qlv{p:Bool}{zs:List Value}:PK p (bif p then undef::.bool false::zs else zs) (.returned (tz zs)):=by
 cases p with
 |false=>rfl
 |true=>exact⟨undef,false,zs,rfl,.inl ⟨rfl,rfl⟩⟩
theorem qss{p:Bool}{cD:List Value}{e:Ending}(h:PK p cD e):yn p (tz cD) e:=by
 cases p with
 |false=>exact h
 |true=>obtain⟨z,b,r,rfl,h⟩:=h;exact⟨z,b,r,rfl,h⟩
theorem Lx(imm:Nat->Prop)(w:World):∀t:Ty,∃cs,aC imm w t (zero t) cs
 |.unit=>⟨[],rfl⟩
 |.pair a b=>by obtain⟨c,h1⟩:=Lx imm w a;obtain⟨d,h2⟩:=Lx imm w b;exact⟨c++d,c,d,rfl,h1,h2⟩
 |.st p=>Lx imm w p
 |.arr n e=>by
  obtain⟨c,h1⟩:=Lx imm w e;have key:∀n,∃cs,bG (aC imm w e) (List.replicate n (zero e)) cs:=by
   intro n
   induction n with
   |zero=>exact⟨[],rfl⟩
   |succ n ih=>obtain⟨cs,h⟩:=ih;exact⟨c++cs,c,cs,rfl,h1,h⟩
  obtain⟨cs,h⟩:=key n;exact⟨cs,by show List.length (List.replicate n (zero e))=n;simp,h⟩
 |.int k=>⟨[.int k 0],rfl,by cases k<;>exact⟨by decide,by decide⟩⟩
 |.bool=>⟨_,rfl⟩
 |.eP=>⟨_,rfl⟩
 |.fl=>⟨_,rfl⟩
 |.str=>⟨_,ByteArray.empty,rfl,rfl,by decide⟩
 |.sl _=>⟨_,_,rfl,Nat.zero_le _,.inl ⟨rfl,rfl,rfl⟩⟩
 |.ks _=>⟨_,1,_,rfl,Nat.zero_le _,.inl ⟨rfl,rfl,rfl⟩⟩
theorem qw9(imm:Nat->Prop)(w:World){t:Ty}(ht:RI t=true):∃v,aZ imm w t (zero t) v:=by
 obtain⟨cs,h⟩:=Lx imm w t;have hl:=il t _ _ h;cases t with
 |unit=>cases ht
 |pair a b=>cases ht
 |st p=>exact⟨.agg cs.toArray,cs.toArray,rfl,h⟩
 |arr n e=>exact⟨.agg cs.toArray,cs.toArray,rfl,h⟩
 |_=>
  match cs,hl with
  |[v],_=>exact⟨v,h⟩
theorem qwa(hC:cw C){nt:Fr}{X:Nat->Prop}{φ:Nat->Addr}{st:St}{a:Act}{w:World}(h:Rel C nt X φ st a w):∀(rs:List ResultVar) (vs:List V),wB lf C st rs=some vs->∃zs,cd φ st.obj (ah X φ st.obj w) w vs zs/\(rs.mapM fun(r:ResultVar)=>(match r with
   |.tmp t=>(pure (a.tmps.getD t undef):Sem Value)
   |.cell q t=>do loadVar t (<-asAddr (a.tmps.getD q undef)))).run C.P w=.ok zs w:=by
 intro rs
 induction rs with
 |nil=>intro vs h1;injection h1 with h1;subst h1;exact⟨[],rfl,by simp⟩
 |cons r rs ih=>
  intro vs h1;cases r with
  |tmp t=>
   simp only[wB] at h1;split at h1
   ·rename_i l h2;injection h1 with h1;subst h1;obtain⟨zs,h3,h4⟩:=ih _ h2;exact⟨a.tmps.getD t undef::zs,⟨_,_,rfl,K2 (h.env t),h3⟩,by simp only[List.mapM_cons,Sem.run_bind,Sem.run_pure,Result.andThen_ok,h4]⟩
   ·cases h1
  |cell q t=>
   simp only[wB] at h1;split at h1
   ·rename_i v u hv;split at h1
    ·rename_i l h2;injection h1 with h1;subst h1;obtain⟨zs,h3,h4⟩:=ih _ h2;obtain⟨_,z,h5,h6⟩:=ql0 (v:=v) (u:=u) hC h.toMRel (h.env q) (by rw[hv];exact⟨rfl,rfl⟩);refine⟨z::zs,⟨_,_,rfl,h6,h3⟩,?_⟩;have hl:(asAddr (a.tmps.getD q undef)>>=fun ad=>loadVar t ad).run C.P w=.ok z w:=by
      unfold Instr.loadAt at h5;generalize a.tmps.getD q undef=zq at h5 ⊢;cases zq with
      |pointer p=>cases p with
       |none=>exact absurd h5 (by simp[Instr.sureAddr,stuck])
       |some ad=>simpa[Instr.sureAddr,asAddr] using h5
      |_=>exact absurd h5 (by simp[Instr.sureAddr,stuck])
     rw[Sem.run_bind] at hl;simp only[List.mapM_cons,Sem.run_bind,Sem.run_pure];rw[hl];simp only[Result.andThen_ok,h4]
    ·cases h1
   ·cases h1
theorem qhh{φ:Nat->Addr}{o:Nat->Obj}{imm:Nat->Prop}{w:World}:∀l:List Sh,∃zs,cd φ o imm w (yh l) zs
 |[]=>⟨[],rfl⟩
 |s::r=>by
  obtain⟨zs,h⟩:=qhh r;cases s with
  |d t=>
   cases ht:RI t with
   |true=>
    obtain⟨v,hv⟩:=qw9 imm w ht;have e:yh (.d t::r)=.d t (zero t)::yh r:=by simp only[yh,ht,cond_true]
    rw[e];exact⟨v::zs,v,zs,rfl,hv,h⟩
   |false=>
    have e:yh (.d t::r)=.bP::yh r:=by simp only[yh,ht,cond_false]
    rw[e];exact⟨undef::zs,_,_,rfl,trivial,h⟩
  |_=>exact⟨undef::zs,_,_,rfl,trivial,h⟩
def qN(C:Cx)(i:Nat)(x:ai (aK C.sigs i).ins.aW)(y:ai (aK C.sigs i).outs.aW)(X:Nat->Prop)(φ:Nat->Addr)(w:World)(e:Ending)(w':World):Prop:=
 ∃cD φ' X',PK (iK (aK C.sigs i).outs) cD e/\(∀b,X b->X' b)/\MRel C X' φ' (bB (aK C.sigs i).outs y) w'/\
  cd φ' (bB (aK C.sigs i).outs y) (ah X' φ' (bB (aK C.sigs i).outs y) w') w' (fill cy bR (aK C.sigs i).outs y).1 cD/\
  cS (aK C.sigs i).bJ φ (bB (aK C.sigs i).ins x) w φ' (bB (aK C.sigs i).outs y) w'
def oD(C:Cx)(i:Nat)(x:ai (aK C.sigs i).ins.aW)(y:ai (aK C.sigs i).outs.aW):Prop:=
 ∀X φ w zs,MRel C X φ (bB (aK C.sigs i).ins x) w->cd φ (bB (aK C.sigs i).ins x) (ah X φ (bB (aK C.sigs i).ins x) w) w (fill cy bR (aK C.sigs i).ins x).1 zs->
  (∃fn,C.P.funcs[(aK C.sigs i).f]?=some fn/\fn.body.isNone=false)/\Calls C.P (aK C.sigs i).f zs.toArray w (qN C i x y X φ w)
theorem qlw(hC:cw C)(hE:kD C)(HC:∀X φ o w,MRel C X φ o w->∀fr f,tA C R X φ o w fr f)(HD:∀nt sk dL o0 w0,PG C nt R (HJ sk dL o0 w0)){i:Nat}{x:ai (aK C.sigs i).ins.aW}{y:ai (aK C.sigs i).outs.aW}(h:Jr lf C R i x=some y):oD C i x y:=by
 intro X φ w zs hm hz;unfold Jr at h;simp only at h;split at h
 ·cases h
 ·rename_i fn hf;rw[zF] at hf;split at h
  ·cases h
  ·rename_i b hb;refine⟨⟨fn,hf,by rw[hb];rfl⟩,?_⟩;cases hn:(Jg (aK C.sigs i).ins.aB.length (aK C.sigs i).bJ&&Nat.ble (fill id (fun _=>0) (aK C.sigs i).ins x).1.length fn.ntmps) with
   |false=>rw[hn] at h;cases h
   |true=>
    rw[hn,cond_true] at h;rw[zd] at hn;obtain⟨hv,hn⟩:=hn;obtain⟨m',ac,hA,hx⟩:=qlu _ _ _ _ _ _ _ h;have hy:=yj hz;have hn:(fill cy bR (aK C.sigs i).ins x).1.length<=fn.ntmps:=zH hn;have hH:zs.length<=fn.ntmps:=om
    refine calls_of_wp hf hb ?_;let PR:ai (aK C.sigs i).outs.aW->Act->World->Prop:=fun yy a wd=>a.defers=[]/\∃v,(results fn a.tmps).run C.P wd=.ok v wd/\qN C i x yy X φ w (.returned v) wd;have hk:JT C ⟨fn.ntmps,[]⟩ (HJ (aK C.sigs i).bJ φ (bB (aK C.sigs i).ins x) w) X (fun _ w e st=>match e with
     |.normal=>uY lf C (aK C.sigs i).bJ (aK C.sigs i).outs w st fn.results.toList
     |.ret=>uY lf C (aK C.sigs i).bJ (aK C.sigs i).outs w st fn.results.toList
     |.panic=>OU lf (aK C.sigs i).bJ (aK C.sigs i).outs w st
     |_=>none) (fun S e a wd=>match e with|.normal=>∃yy,S yy/\PR yy a wd|.ret=>∃yy,S yy/\PR yy a wd|.panic ch=>∃yy,S yy/\a.defers=[]/\qN C i x yy X φ w (.panicked ch) wd|_=>False):=by
     have fin:∀(δ:Type) (wr:ai (aK C.sigs i).outs.aW->δ) (st:St) (y':δ),uY lf C (aK C.sigs i).bJ (aK C.sigs i).outs wr st fn.results.toList=some y'->
       Sound C ⟨fn.ntmps,[]⟩ X (HJ (aK C.sigs i).bJ φ (bB (aK C.sigs i).ins x) w) st (fun a wd=>∃yy,wr yy=y'/\PR yy a wd):=by
      intro δ wr st y' hg X' dA a wd hX hR hJ;unfold uY at hg;split at hg
      ·rename_i vs hB;obtain⟨ps,cc,hp,hw⟩:=JU hg;obtain⟨hp,hj,hc⟩:=PB hp;obtain⟨cD,r1,r2⟩:=qwa hC hR _ _ hB;have S1:cd dA st.obj (ah X' dA st.obj wd) wd (bif iK (aK C.sigs i).outs then .bP::.d .bool false::vs else vs) (bif iK (aK C.sigs i).outs then undef::.bool false::cD else cD):=by
        cases iK (aK C.sigs i).outs with
        |false=>exact r1
        |true=>exact⟨_,_,rfl,trivial,_,_,rfl,u9,r1⟩
       obtain⟨q1,q2⟩:=Lt hR.toMRel hp S1;obtain⟨he,_⟩:=Gu hp;refine⟨cc,hw,hR.defers,tz cD,?_,_,_,_,qlv,fun b hb=>.inl (hX b hb),q1,q2,⟨hJ.size,hJ.frame,fun b hb=>hJ.news b (he.iO hb),hJ.still,fun id hi=>(hJ.up id hi).trans (SO he (SM hp _ (SL hi)) (Pz hj id hi) (PA hc id hi))⟩⟩;have key:∀(q:Sem (List Value)),q.run C.P wd=.ok cD wd->((Functor.map List.toArray q)>>=fun vs=>(pure (if h:vs.size=1 then vs[0] else Value.tuple vs):Sem Value)).run C.P wd=.ok (tz cD) wd:=by
        intro q hq;rw[Sem.run_bind,Sem.run_map,hq]
        match cD with
        |[]=>rfl
        |[v]=>rfl
        |a::b::r=>rfl
       unfold results;rw[Array.mapM_eq_mapM_toList];exact key _ r2
      ·cases hg
     intro δ wr e st y' hg;cases e with
     |normal=>exact fin δ wr st y' hg
     |ret=>exact fin δ wr st y' hg
     |panic=>
      intro X' dA a wd hX hR hJ;have hg:OU lf (aK C.sigs i).bJ (aK C.sigs i).outs wr st=some y':=hg;unfold OU at hg;cases hl:iK (aK C.sigs i).outs with
      |false=>rw[hl] at hg;cases hg
      |true=>rw[hl,cond_true] at hg;obtain⟨ps,cc,hp,hw⟩:=JU hg;obtain⟨hp,hj,hc⟩:=PB hp;obtain⟨zs,hF⟩:=qhh (φ:=dA) (o:=st.obj) (imm:=ah X' dA st.obj wd) (w:=wd) ((aK C.sigs i).outs.roots.drop 2);obtain⟨q1,q2⟩:=Lt hR.toMRel hp (show cd dA st.obj (ah X' dA st.obj wd) wd (.bP::.d .bool true::yh ((aK C.sigs i).outs.roots.drop 2)) (undef::.bool true::zs) from⟨_,_,rfl,trivial,_,_,rfl,u9,hF⟩);obtain⟨he,_⟩:=Gu hp;refine⟨cc,hw,hR.defers,_,_,_,by rw[hl];exact⟨undef,true,zs,rfl,.inr ⟨rfl,0,undef,rfl⟩⟩,fun b hb=>.inl (hX b hb),q1,q2,⟨hJ.size,hJ.frame,fun b hb=>hJ.news b (he.iO hb),hJ.still,fun id hi=>(hJ.up id hi).trans (SO he (SM hp _ (SL hi)) (Pz hj id hi) (PA hc id hi))⟩⟩
     |exit id=>cases hg
     |goto l=>cases hg
    have hQ:xH (fun(S:ai (aK C.sigs i).outs.aW->Prop) e a wd=>match e with|.normal=>∃yy,S yy/\PR yy a wd|.ret=>∃yy,S yy/\PR yy a wd|.panic ch=>∃yy,S yy/\a.defers=[]/\qN C i x yy X φ w (.panicked ch) wd|_=>False):=by
     refine⟨fun S S' e a wd hs h=>?_,fun S a wd t v h=>?_⟩;rotate_left
     ·obtain⟨yy,h1,h2,cD,φ',X',h3,h4⟩:=h;refine⟨yy,h1,h2,cD,φ',X',?_,h4⟩;revert h3;cases iK (aK C.sigs i).outs with
      |false=>intro h;cases h
      |true=>
       rintro⟨z,b,r,e1,h⟩;refine⟨z,b,r,e1,?_⟩;rcases h with ⟨_,h⟩|⟨h,_⟩
       ·cases h
       ·exact .inr ⟨h,t,v,rfl⟩
     cases e<;>first|exact h.elim|exact(let ⟨c,h1,h2⟩:=h;⟨c,hs _ h1,h2⟩)
    have hG:Rel C ⟨fn.ntmps,[]⟩ X φ ⟨uX (fun _=>.undef) 0 (fill cy bR (aK C.sigs i).ins x).1,bB (aK C.sigs i).ins x⟩
      {tmps:=zs.toArray++Array.replicate (fn.ntmps-zs.toArray.size) undef,defers:=[]} w:=by
     refine⟨hm,by simp;omega,fun t=>?_,rfl⟩;obtain⟨g1,g2⟩:=S0 (fill cy bR (aK C.sigs i).ins x).1 0 (fun _=>.undef) t;by_cases ht:t<(fill cy bR (aK C.sigs i).ins x).1.length
     ·obtain⟨z,e1,e2⟩:=JD hz (ze ht);have:=g1 t om _ (ze ht);show ay φ _ _ w (uX _ 0 _ t) _;rw[this];have e3:(zs.toArray++Array.replicate (fn.ntmps-zs.toArray.size) undef).getD t undef=z:=by
       have ho:t<zs.length:=om
       rw[Array.getD_eq_getD_getElem?,Array.getElem?_append_left (by simpa using ho)];simp[e1]
      rw[e3];exact e2
     ·show ay φ _ _ w (uX _ 0 _ t) _;rw[g2 (.inr om)];have e3:(zs.toArray++Array.replicate (fn.ntmps-zs.toArray.size) undef).getD t undef=undef:=by
       have ho:zs.length<=t:=om
       rw[Array.getD_eq_getD_getElem?,Array.getElem?_append_right (by simpa using ho)];simp only[Array.getElem?_replicate];split<;>rfl
      exact e3
    have hu:=wH (SV hC hE HC (HD ⟨fn.ntmps,[]⟩ _ φ (bB (aK C.sigs i).ins x) w) (qw5 hv) hA X _ _ _ _ _ _ y hQ hk hx X φ _ w (fun _ h=>h) hG (cS.refl _ _ _ _));refine wp_mono hu fun e a wd hq=>?_;cases e with
    |normal=>obtain⟨yy,e1,h1,v,h2,h3⟩:=hq;subst e1;exact⟨h1,v,h2,h3⟩
    |ret=>obtain⟨yy,e1,h1,v,h2,h3⟩:=hq;subst e1;exact⟨h1,v,h2,h3⟩
    |panic ch=>obtain⟨yy,e1,h1,h2⟩:=hq;subst e1;exact⟨h1,h2⟩
    |_=>exact hq.elim
end
def S2:List Oper->Bool
 |[]=>false
 |o::r=>(match o.op with|.defer _=>true|_=>false)||S2 r
def JW:AC->Option (AC×Nat×Array Oper×AC)
 |.seq a b=>match JW a with
  |some (x,i,o,y)=>some (x,i,o,.seq y b)
  |none=>match JW b with
   |some (x,i,o,y)=>some (.seq a x,i,o,y)
   |none=>none
 |.region i ops false=>bif S2 ops.toList then some (.skip,i,ops,.skip) else none
 |_=>none
def Ly:List Oper->Option (List Oper×Operand)
 |[]=>none
 |[o]=>match o.op,o.guard,o.dst with
  |.defer c,none,none=>match c.callee,c.args.toList with
   |.value x,[]=>some ([],x)
   |_,_=>none
  |_,_,_=>none
 |o::r=>match Ly r with
  |some (l,x)=>some (o::l,x)
  |none=>none
def PL:List V->Option (List Nat)
 |[]=>some []
 |.ptr id 0::r=>match PL r with
  |some l=>some (id::l)
  |none=>none
 |_=>none
def CN(o:Nat->Obj):List Nat->Bool
 |[]=>true
 |id::r=>(match o id with|.box _=>true|_=>false)&&CN o r
def JX(k:Nat):List Nat->Bool
 |[]=>true
 |id::r=>Nat.blt id k&&!(bM id r)&&JX k r
theorem qau{k:Nat}:∀{sk:List Nat},JX k sk=true->(∀id,id∈sk->id<k)/\sk.Nodup
 |[],_=>⟨fun id h=>(by cases h),List.nodup_nil⟩
 |b::r,h=>by
  simp only[JX,zd,Nat.blt_eq] at h;obtain⟨⟨h1,h3⟩,h4⟩:=h;obtain⟨g1,g2⟩:=qau h4;refine⟨fun id hi=>?_,List.nodup_cons.2 ⟨fun hm=>?_,g2⟩⟩
  ·rcases zu.1 hi with rfl|hi
   ·exact h1
   ·exact g1 id hi
  ·rw[fR.2 hm] at h3;cases h3
theorem qoc{sk:List Nat}(h:JX (1000000+sk.length) sk=true):iP sk:=by
 obtain⟨g1,g2⟩:=qau h;have inj:∀i j,cK sk i=cK sk j->i=j:=fun i j e=>by
  unfold cK at e;split at e
  ·rename_i a ha;obtain⟨hi,ea⟩:=zB.1 ha;split at e
   ·rename_i b hb;subst e;obtain⟨hj,eb⟩:=zB.1 hb;exact(List.getElem_inj (h₀:=hi) (h₁:=hj) g2).1 (by rw[ea,eb])
   ·rename_i hn;have:=g1 a (zj ha);have:=List.getElem?_eq_none_iff.1 hn;omega
  ·rename_i hn;have:=List.getElem?_eq_none_iff.1 hn;split at e
   ·rename_i b hb;have:=g1 b (zj hb);omega
   ·omega
 refine⟨fun id=>by
  classical
  exact if h:∃j,cK sk j=id then h.choose else 0,fun j=>?_⟩
 have hx:∃i,cK sk i=cK sk j:=⟨j,rfl⟩;simp only[dif_pos hx];exact inj _ _ hx.choose_spec
structure CO where
 f:Nat
 n:Nat
 st:List (Nat×TypeId×V×Value)
def yr:List (Nat×TypeId×V×Value)->List Value->Sem Unit
 |[],_=>pure ()
 |q::r,zs=>do
  Instr.storeAt q.2.1 (zs.getD q.1 undef) q.2.2.2
  yr r zs
structure PM (P:Program) (D:CO):Prop where
 idle:∀(zs:List Value) w,zs.length=D.n->CallsD P D.f zs.toArray .returning w fun e u w'=>e=.returned (.tuple #[])/\u=.returning/\w'=w
 vh:∀(zs:List Value) w w' t v,zs.length=D.n->(yr D.st zs).run P w=.ok () w'->CallsD P D.f zs.toArray (.panicking (oC t v)) w fun e u w2=>e=.returned (.tuple #[])/\u=.panicking [{v:=.iface t v,recovered:=true}]/\w2=w'
 cD:∀q,q∈D.st->∀φ o imm w,ay φ o imm w q.2.2.1 q.2.2.2
 fn:∃fn,P.funcs[D.f]?=some fn/\(fn.name== "runtime.NumGoroutine")=false/\fn.body.isNone=false
section
variable (L:Lf) (C:Cx) (R:gF C.sigs)
def yu{β:Type}:List (Nat×TypeId×V×Value)->List V->(Nat->Obj)->((Nat->Obj)->Option β)->Option β
 |[],_,o,k=>k o
 |q::r,cs,o,k=>match Oy L C o q.2.1 (cs.getD q.1 .bP) q.2.2.1 with
  |.mw _ u=>KW o u fun o=>yu r cs o k
  |_=>none
def kD2(D:CO)(i:Nat)(rs:List ResultVar)(cs:List V)(ids:List Nat):(δ:Type)->(ai (aK C.sigs i).outs.aW->δ)->Ex->St->Option δ:=fun _δ w e st=>match e with
 |.ret=>uY L C [] (aK C.sigs i).outs w st rs
 |.normal=>uY L C [] (aK C.sigs i).outs w st rs
 |.panic=>bif CN st.obj ids then yu L C D.st cs st.obj fun o=>uY L C [] (aK C.sigs i).outs w {st with obj:=o} rs else none
 |_=>none
def kDf(D:CO)(i:Nat)(rs:List ResultVar)(Fo:Operand)(B:AC){δ:Type}(w:ai (aK C.sigs i).outs.aW->δ)(st:St):Option δ:=match bZ C st.env Fo with
 |.fn f cs=>match PL cs with
  |some ids=>bif Nat.beq f D.f&&Nat.beq cs.length D.n&&Nat.blt f 1048576&&JX (1000000+ids.length) ids&&CN st.obj ids then
    ev L C R ids B st (ai (aK C.sigs i).outs.aW) δ w (kD2 L C D i rs cs ids) else none
  |none=>none
 |_=>none
def kD1(D:CO)(i:Nat)(rs:List ResultVar)(rg:Nat)(ops:List Oper)(pre:List Oper)(Fo:Operand)(B:AC):(δ:Type)->(ai (aK C.sigs i).outs.aW->δ)->Ex->St->Option δ:=fun _ w e st=>match e with
 |.ret=>uY L C [] (aK C.sigs i).outs w st rs
 |.normal=>mz L C R rg ops none (2*ops.length+2) w 0 pre st (kDf L C R D i rs Fo B) (fun _ _=>none)
 |_=>none
def PN(D:CO)(i:Nat)(x:ai (aK C.sigs i).ins.aW):Option (ai (aK C.sigs i).outs.aW):=
 let sg:=aK C.sigs i
 match C.P.funcs.toList[sg.f]? with
 |none=>none
 |some fn=>match fn.body with
  |none=>none
  |some b=>
   let p:=fill id (fun _=>0) sg.ins x
   bif dI (aK C.sigs i).bJ&&Nat.ble p.1.length fn.ntmps then my (wA fn.results.toList) fn.ntmps 1000 b [] [] (wA fn.results.toList) fun _ ac=>
    match JW ac with
    |none=>none
    |some (A,rg,ops,B)=>match Ly ops.toList with
     |none=>none
     |some (pre,Fo)=>ev L C R [] A ⟨uX (fun _=>.undef) 0 p.1,ar (fun _=>Obj.none) p.2⟩
      (ai (aK C.sigs i).outs.aW) (ai (aK C.sigs i).outs.aW) (fun x=>x) (kD1 L C R D i fn.results.toList rg ops.toList pre Fo B) else none
end
theorem z0q{nt:Nat}{c:Code}{ac:AC}(hA:eD nt c ac):∀{x y:AC} {i:Nat} {o:Array Oper},JW ac=some (x,i,o,y)->∃a b,eD nt a x/\eD nt b y/\qp nt o.toList=true/\∀(P:Program) (Q:Exit->Act->World->Prop) (act:Act) (w:World),lC P a (Exit.then (fun act w=>(Code.region i o false).wp P (Exit.then (lC P b Q) Q) act w) Q) act w->lC P c Q act w:=by
 induction hA with
 |region id ops d h=>
  intro x y i o e;cases d with
  |true=>cases e
  |false=>
   simp only[JW] at e;cases hd:S2 ops.toList with
   |false=>rw[hd] at e;cases e
   |true=>rw[hd,cond_true] at e;injection e with e;simp only[Prod.mk.injEq] at e;obtain⟨rfl,rfl,rfl,rfl⟩:=e;refine⟨.skip,.skip,.skip,.skip,h,fun P Q act w hq=>?_⟩;exact wp_mono (show(Code.region id ops false).wp P (Exit.then (lC P .skip Q) Q) act w from hq) fun e a w h=>by cases e<;>exact h
 |@seq ca cb a b ha hb oz kA=>
  intro x y i o e;simp only[JW] at e;split at e
  ·rename_i x1 i1 o1 y1 e1;injection e with e;simp only[Prod.mk.injEq] at e;obtain⟨rfl,rfl,rfl,rfl⟩:=e;obtain⟨a0,b0,g1,g2,g3,g4⟩:=oz e1;refine⟨a0,.seq b0 cb,g1,.seq g2 hb,g3,fun P Q act w hq=>?_⟩;show lC P ca (Exit.then (lC P cb Q) Q) act w;refine g4 P _ act w (wI hq fun e a w h=>?_);cases e with
   |normal=>exact wp_mono (show(Code.region _ _ false).wp P _ a w from h) fun e a w h=>by cases e<;>exact h
   |_=>exact h
  ·split at e
   ·rename_i x1 i1 o1 y1 e1;injection e with e;simp only[Prod.mk.injEq] at e;obtain⟨rfl,rfl,rfl,rfl⟩:=e;obtain⟨a0,b0,g1,g2,g3,g4⟩:=kA e1;refine⟨.seq ca a0,b0,.seq ha g1,g2,g3,fun P Q act w hq=>?_⟩;show lC P ca (Exit.then (lC P cb Q) Q) act w;refine wI (show lC P ca (Exit.then (lC P a0 _) _) act w from hq) fun e a w h=>?_;cases e with
    |normal=>exact g4 P Q a w h
    |_=>exact h
   ·cases e
 |_=>intro x y i o e;cases e
theorem qhj:∀{l pre:List Oper} {x:Operand},Ly l=some (pre,x)->∃o c,l=pre++[o]/\o.op=.defer c/\o.guard=none/\o.dst=none/\c.callee=.value x/\c.args=#[]
 |[],_,_,h=>by cases h
 |[o],pre,x,h=>by
  simp only[Ly] at h;split at h
  ·rename_i c e1 e2 e3;split at h
   ·rename_i x' e4 e5;injection h with h;simp only[Prod.mk.injEq] at h;obtain⟨rfl,rfl⟩:=h;exact⟨o,c,rfl,e1,e2,e3,e4,Array.toList_inj.1 e5⟩
   ·cases h
  ·cases h
 |o::o2::r,pre,x,h=>by
  simp only[Ly] at h;split at h
  ·rename_i l x' e;injection h with h;simp only[Prod.mk.injEq] at h;obtain⟨rfl,rfl⟩:=h;obtain⟨q,c,h1,h2⟩:=qhj (l:=o2::r) e;exact⟨q,c,by rw[h1];rfl,h2⟩
  ·cases h
theorem qlx{φ φ':Nat->Addr}{o o':Nat->Obj}{imm imm':Nat->Prop}{w w':World}:∀{vs:List V} {zs:List Value} {ids:List Nat},PL vs=some ids->CN o ids=true->CN o' ids=true->(∀id,id∈ids->∀c c',o id=.box c->o' id=.box c'->φ' id=φ id)->cd φ o imm w vs zs->cd φ' o' imm' w' vs zs
 |[],_,_,_,_,_,_,h=>h
 |v::r,zs,ids,hc,h1,h2,hf,h=>by
  cases v with
  |ptr id off=>
   cases off with
   |succ n=>cases hc
   |zero=>
    simp only[PL] at hc;split at hc
    ·rename_i l hl;injection hc with hc;subst hc;obtain⟨z,rs,rfl,g1,g2⟩:=h;simp only[CN,zd] at h1 h2;refine⟨z,rs,rfl,?_,qlx hl h1.2 h2.2 (fun id hi=>hf id (zg _ hi)) g2⟩;obtain⟨b1,_⟩:=h1;obtain⟨b2,_⟩:=h2;unfold ay at g1 ⊢;cases e1:o id<;>rw[e1] at b1 g1<;>first|cases b1|skip
     cases e2:o' id<;>rw[e2] at b2<;>first|cases b2|skip
     simp only at g1 ⊢;rw[hf id (zf ..) _ _ e1 e2];exact g1
    ·cases hc
  |_=>cases hc
theorem qhk{φ:Nat->Addr}{o:Nat->Obj}{imm:Nat->Prop}{w:World}:∀{vs:List V} {zs:List Value} (k:Nat),cd φ o imm w vs zs->ay φ o imm w (vs.getD k .bP) (zs.getD k undef)
 |[],_,_,_=>trivial
 |v::r,_,0,⟨z,rs,e,h,_⟩=>by subst e;exact h
 |v::r,_,k+1,⟨z,rs,e,_,h⟩=>by subst e;have:=qhk k h;simpa using this
section
variable {C:Cx} {R:gF C.sigs}
theorem qwc(hC:cw C){nt:Fr}{X:Nat->Prop}{a:Act}{env:Nat->V}{sk:List Nat}{dL:Nat->Addr}{o0:Nat->Obj}{w0:World}{β:Type}{cs:List V}{zs:List Value}{k:(Nat->Obj)->Option β}{y:β}:∀(l:List (Nat×TypeId×V×Value)),(∀q,q∈l->∀φ o imm w,ay φ o imm w q.2.2.1 q.2.2.2)->∀{φ:Nat->Addr} {o:Nat->Obj} {w:World},Rel C nt X φ ⟨env,o⟩ a w->cS sk dL o0 w0 φ o w->cd φ o (ah X φ o w) w cs zs->yu lf C l cs o k=some y->∃φ' o' w',(yr l zs).run C.P w=.ok () w'/\Rel C nt X φ' ⟨env,o'⟩ a w'/\cS sk dL o0 w0 φ' o' w'/\k o'=some y
 |[],_,φ,o,w,hR,hJ,_,h=>⟨φ,o,w,rfl,hR,hJ,h⟩
 |q::r,hv,φ,o,w,hR,hJ,hc,h=>by
  unfold yu at h;split at h
  ·rename_i v u he;rw[SI] at h;obtain⟨w1,kW,g1,g2⟩:=qh3 (v:=v) (u:=u) hC hR.toMRel (qhk q.1 hc) (hv q (zf ..) φ o _ w) (by rw[he];exact⟨rfl,rfl⟩);have hf:Rel C nt X kW ⟨env,ar o u⟩ a w1:=hR.yo g2;obtain⟨φ',o',w',g3,g4⟩:=qwc hC r (fun q hq=>hv q (zg _ hq)) hf (hJ.step g2) (Ff (fun x z hx=>g2.keeps x z hx) _ _ hc) h;refine⟨φ',o',w',?_,g4⟩;show(Instr.storeAt q.2.1 (zs.getD q.1 undef) q.2.2.2>>=fun _=>yr r zs).run C.P w=_;rw[Sem.run_bind,g1];exact g3
  ·cases h
theorem cS.Gw{sk:List Nat}{dL kW dA:Nat->Addr}{o0 o1 o2:Nat->Obj}{w0 w1 w2:World}(h:cS [] dL o0 w0 kW o1 w1)(h2:cS sk kW o1 w1 dA o2 w2):cS [] dL o0 w0 dA o2 w2:=by
 refine⟨Nat.le_trans h.size h2.size,fun b hb hn=>?_,fun b hb=>?_,⟨h2.still.1.trans h.still.1,h2.still.2.trans h.still.2⟩,fun id hi=>by cases hi⟩
 ·rw[h2.frame b (Nat.lt_of_lt_of_le hb h.size) fun ho=>?_,h.frame b hb hn];rcases h.news b ho with h3|h3
  ·omega
  ·exact hn h3
 ·rcases h2.news b hb with h3|h3
  ·exact .inl (Nat.le_trans h.size h3)
  ·exact h.news b h3
theorem z36(hC:cw C){nt:Fr}{i:Nat}{x:ai (aK C.sigs i).ins.aW}{X X':Nat->Prop}{φ dA:Nat->Addr}{w wd:World}{st:St}{a:Act}{fn:Func}{δ:Type}{wr:ai (aK C.sigs i).outs.aW->δ}{y':δ}(hX:∀b,X b->X' b)(hR:Rel C nt X' dA st a wd)(hc:(aK C.sigs i).bJ=[])(hJ:cS [] φ (bB (aK C.sigs i).ins x) w dA st.obj wd)(hg:uY lf C [] (aK C.sigs i).outs wr st fn.results.toList=some y'):∃yy,wr yy=y'/\∃v,(results fn a.tmps).run C.P wd=.ok v wd/\qN C i x yy X φ w (.returned v) wd:=by
 unfold uY at hg;split at hg
 ·rename_i vs he;obtain⟨ps,cc,hp,hw⟩:=JU hg;obtain⟨hp,hk,hf⟩:=PB hp;obtain⟨cD,r1,r2⟩:=qwa hC hR _ _ he;have S1:cd dA st.obj (ah X' dA st.obj wd) wd (bif iK (aK C.sigs i).outs then .bP::.d .bool false::vs else vs) (bif iK (aK C.sigs i).outs then undef::.bool false::cD else cD):=by
   cases iK (aK C.sigs i).outs with
   |false=>exact r1
   |true=>exact⟨_,_,rfl,trivial,_,_,rfl,u9,r1⟩
  obtain⟨q1,q2⟩:=Lt hR.toMRel hp S1;obtain⟨hj,_⟩:=Gu hp;refine⟨cc,hw,tz cD,?_,_,_,_,qlv,fun b hb=>.inl (hX b hb),q1,q2,⟨hJ.size,hJ.frame,fun b hb=>hJ.news b (hj.iO hb),hJ.still,fun id hi=>by rw[hc] at hi;cases hi⟩⟩;have key:∀(q:Sem (List Value)),q.run C.P wd=.ok cD wd->((Functor.map List.toArray q)>>=fun vs=>(pure (if h:vs.size=1 then vs[0] else Value.tuple vs):Sem Value)).run C.P wd=.ok (tz cD) wd:=by
   intro q hq;rw[Sem.run_bind,Sem.run_map,hq]
   match cD with
   |[]=>rfl
   |[v]=>rfl
   |a::b::r=>rfl
  unfold results;rw[Array.mapM_eq_mapM_toList];exact key _ r2
 ·cases hg
theorem z0r{i:Nat}{x:ai (aK C.sigs i).ins.aW}{X:Nat->Prop}{φ:Nat->Addr}{w:World}{zs:List Value}{n:Nat}(hm:MRel C X φ (bB (aK C.sigs i).ins x) w)(hz:cd φ (bB (aK C.sigs i).ins x) (ah X φ (bB (aK C.sigs i).ins x) w) w (fill cy bR (aK C.sigs i).ins x).1 zs)(hn:(fill cy bR (aK C.sigs i).ins x).1.length<=n):Rel C ⟨n,[]⟩ X φ ⟨uX (fun _=>.undef) 0 (fill cy bR (aK C.sigs i).ins x).1,bB (aK C.sigs i).ins x⟩ {tmps:=zs.toArray++Array.replicate (n-zs.toArray.size) undef,defers:=[]} w:=by
 have he:=yj hz;refine⟨hm,by simp;omega,fun t=>?_,rfl⟩;obtain⟨g1,g2⟩:=S0 (fill cy bR (aK C.sigs i).ins x).1 0 (fun _=>.undef) t;by_cases ht:t<(fill cy bR (aK C.sigs i).ins x).1.length
 ·obtain⟨z,e1,e2⟩:=JD hz (ze ht);have:=g1 t om _ (ze ht);show ay φ _ _ w (uX _ 0 _ t) _;rw[this];have e3:(zs.toArray++Array.replicate (n-zs.toArray.size) undef).getD t undef=z:=by
   have hc:t<zs.length:=om
   rw[Array.getD_eq_getD_getElem?,Array.getElem?_append_left (by simpa using hc)];simp[e1]
  rw[e3];exact e2
 ·show ay φ _ _ w (uX _ 0 _ t) _;rw[g2 (.inr om)];have e3:(zs.toArray++Array.replicate (n-zs.toArray.size) undef).getD t undef=undef:=by
   have hc:zs.length<=t:=om
   rw[Array.getD_eq_getD_getElem?,Array.getElem?_append_right (by simpa using hc)];simp only[Array.getElem?_replicate];split<;>rfl
  exact e3
theorem qjb(hC:cw C)(hE:kD C)(HC:∀X φ o w,MRel C X φ o w->∀fr f,tA C R X φ o w fr f)(HD:∀nt sk dL o0 w0,PG C nt R (HJ sk dL o0 w0)){D:CO}(hD:PM C.P D){i:Nat}{x:ai (aK C.sigs i).ins.aW}{y:ai (aK C.sigs i).outs.aW}(h:PN lf C R D i x=some y):oD C i x y:=by
 intro X φ w zs hm hz;unfold PN at h;simp only at h;split at h
 ·cases h
 ·rename_i fn hy;rw[zF] at hy;split at h
  ·cases h
  ·rename_i b hb;refine⟨⟨fn,hy,by rw[hb];rfl⟩,?_⟩;cases hn:(dI (aK C.sigs i).bJ&&Nat.ble (fill id (fun _=>0) (aK C.sigs i).ins x).1.length fn.ntmps) with
   |false=>rw[hn] at h;cases h
   |true=>
    rw[hn,cond_true] at h;rw[zd] at hn;obtain⟨ho,hn⟩:=hn;have ho:(aK C.sigs i).bJ=[]:=by
     cases e:(aK C.sigs i).bJ with
     |nil=>rfl
     |cons a r=>rw[e] at ho;cases ho
    obtain⟨m',ac,hA,h⟩:=qlu _ _ _ _ _ _ _ h;split at h
    ·cases h
    ·rename_i A rg ops B hN;split at h
     ·cases h
     ·rename_i pre Fo hO;obtain⟨a0,b0,hP,hQ,hR,hS⟩:=z0q hA hN;obtain⟨op,c,ht,hT,hU,hV,hJ,hK⟩:=qhj hO;have hW:=yj hz;have hn:(fill cy bR (aK C.sigs i).ins x).1.length<=fn.ntmps:=zH hn;have hsz:zs.length<=fn.ntmps:=om
      let QS:(ai (aK C.sigs i).outs.aW->Prop)->Exit->Act->World->Prop:=fun S e a wd=>∃yy,S yy/\bodyPostD C.P fn (qN C i x yy X φ w) e a wd;let RB:(ai (aK C.sigs i).outs.aW->Prop)->Act->World->Prop:=fun S a wd=>(Code.region rg ops false).wp C.P (fun e a wd=>match e with|.normal=>lC C.P b0 (QS S) a wd|_=>False) a wd;let Q1:(ai (aK C.sigs i).outs.aW->Prop)->Exit->Act->World->Prop:=fun S e a wd=>match e with|.normal=>RB S a wd|.ret=>QS S .ret a wd|_=>False
      have mS:∀S S' e a wd,(∀g,S g->S' g)->QS S e a wd->QS S' e a wd:=fun S S' e a wd hs ⟨yy,h1,h2⟩=>⟨yy,hs _ h1,h2⟩;have mQ1:xH Q1:=by refine⟨fun S S' e a wd hs h=>?_,fun S a wd t v h=>h.elim⟩;cases e<;>first|exact h.elim|exact mS _ _ _ _ _ hs h|exact wp_mono h fun e a wd h=>(by cases e<;>first|exact h.elim|exact wI h fun e a wd h=>mS _ _ _ _ _ hs h)
      have hf:∀(cz:Array Value) wd,(invoke (.fn (.func D.f) cz) #[]).run C.P wd=.ok (.enter D.f cz) wd:=fun cz wd=>by
       obtain⟨fn',g1,g2,g3⟩:=hD.fn;have CF:¬fn'.name= "runtime.NumGoroutine":=by simpa using g2
       have Gl:fn'.body≠none:=by intro e;rw[e] at g3;cases g3
       simp[invoke,callFunc,g1,CF,Gl]
      have hX:JT C ⟨fn.ntmps,[]⟩ (HJ [] φ (bB (aK C.sigs i).ins x) w) X (kD1 lf C R D i fn.results.toList rg ops.toList pre Fo B) Q1:=by
       intro δ wr e st y' hg;cases e with
       |ret=>intro X1 kW a1 w1 hB hw hF;obtain⟨yy,e1,v,e2,e3⟩:=z36 hC hB hw ho hF hg;refine⟨yy,e1,?_⟩;show Leaves C.P fn a1.tmps _ a1.defers .returning w1;rw[hw.defers];exact⟨v,e2,e3⟩
       |normal=>
        have hY:qp fn.ntmps pre=true:=(SR (by rw[<-ht];exact hR)).1;intro X1 kW a1 w1 hB hw hF;refine wp_region_list ?_;rw[ht];refine JS _ _ _ _ ?_;refine qf6 hC hE HC (ops:=ops) (rg:=rg) _ X _ wr 0 pre st _ _ y' (HJ [] φ (bB (aK C.sigs i).ins x) w) none hg hY (HJ.keeps _) ?_ (fun _ h=>by cases h) (fun a w t v h=>h.elim) X1 kW a1 w1 hB hw hF;intro st2 h2 X2 dA a2 w2 hZ hu h0;unfold kDf at h2;split at h2
        ·rename_i f cs ecs;split at h2
         ·rename_i ids hG;cases hx:(Nat.beq f D.f&&Nat.beq cs.length D.n&&Nat.blt f 1048576&&JX (1000000+ids.length) ids&&CN st2.obj ids) with
          |false=>rw[hx] at h2;cases h2
          |true=>
           rw[hx,cond_true] at h2;simp only[zd,Nat.beq_eq,Nat.blt_eq] at hx;obtain⟨⟨⟨⟨rfl,hcn⟩,h5⟩,h6⟩,h7⟩:=hx;have hv:=hu.bZ Fo;rw[ecs] at hv;obtain⟨cz,hL,hM⟩:=hv;rw[K0 h5] at hL;have hj:cz.toList.length=D.n:=by have:=yj hM;omega
           show(if Region.wanted op (yielded ops a2.tmps) then op.wp C.P a2 w2 (wpList C.P ops _ []) _\/(op.asks C.P a2 w2/\LetsOut _) else wpList C.P ops _ [] (a2.put op.dst undef) w2);rw[if_pos (by simp[Region.wanted,hU])];refine .inl ?_;show Oper.upon C.P op a2 _ _ ((execOp a2.eval op).run C.P w2);have er:(execOp a2.eval op).run C.P w2=.ok (.defer ⟨.fn (.func D.f) cz,#[]⟩) w2:=by obtain⟨callee,args,qM⟩:=c;simp only at hJ hK;subst hJ hK;simp[execOp,hT,resolve,hL,Deferred.ofValue]
           rw[er];have hc:Rel C ⟨fn.ntmps,[⟨.fn (.func D.f) cz,#[]⟩]⟩ X2 dA st2 {a2 with defers:=⟨.fn (.func D.f) cz,#[]⟩::a2.defers} w2:=⟨hu.toMRel,hu.size,hu.env,by rw[hu.defers]⟩;show lC C.P b0 (QS fun g=>wr g=y') (({a2 with defers:=⟨.fn (.func D.f) cz,#[]⟩::a2.defers}:Act).put op.dst undef) w2;rw[hV];let Q2:(ai (aK C.sigs i).outs.aW->Prop)->Exit->Act->World->Prop:=fun S e a wd=>match e with|.normal=>QS S .normal a wd|.ret=>QS S .ret a wd|.panic ch=>(∃t v,ch=oC t v)/\∀t v,QS S (.panic (oC t v)) a wd|_=>False
           have SY:xH Q2:=by refine⟨fun S S' e a wd hs h=>?_,fun S a wd t v h=>⟨⟨t,v,rfl⟩,h.2⟩⟩;cases e<;>first|exact h.elim|exact mS _ _ _ _ _ hs h|exact⟨h.1,fun t v=>mS _ _ _ _ _ hs (h.2 t v)⟩
           have last:∀{δ:Type} {wr:ai (aK C.sigs i).outs.aW->δ} {X3:Nat->Prop} {xI:Nat->Addr} {xJ:St} {a3:Act} {w3:World} {y':δ},(∀b,X2 b->X3 b)->Rel C ⟨fn.ntmps,[⟨.fn (.func D.f) cz,#[]⟩]⟩ X3 xI xJ a3 w3->cS ids dA st2.obj w2 xI xJ.obj w3->
             uY lf C [] (aK C.sigs i).outs wr xJ fn.results.toList=some y'->∃yy,wr yy=y'/\Leaves C.P fn a3.tmps (qN C i x yy X φ w) [] .returning w3:=by
            intro δ wr X3 xI xJ a3 w3 y' hk hc he hg;obtain⟨yy,e1,v,e2,e3⟩:=z36 hC (fun b hb=>hk b (hZ b hb)) hc ho (h0.Gw he) hg;exact⟨yy,e1,v,e2,e3⟩
           have hH:=SV hC hE HC (HD ⟨fn.ntmps,[⟨.fn (.func D.f) cz,#[]⟩]⟩ ids dA st2.obj w2) (qoc h6) hQ X2 st2 _ _ wr _ Q2 y' SY (fun δ wr e xJ y' hg=>?_) h2 X2 dA _ w2 (fun _ h=>h) hc (cS.refl _ _ _ _)
           ·refine wI hH fun e a wd hq=>?_;cases e with
            |normal=>exact hq
            |ret=>exact hq
            |panic ch=>obtain⟨⟨t,v,rfl⟩,hq⟩:=hq;exact hq t v
            |_=>exact hq.elim
           ·cases e with
            |normal=>intro X3 xI a3 w3 hk hc he;obtain⟨yy,e1,hl⟩:=last hk hc he hg;refine⟨yy,e1,?_⟩;show Leaves C.P fn a3.tmps _ a3.defers .returning w3;rw[hc.defers];refine leaves_cons (fun h=>by cases h) (hf cz w3) ((hD.idle cz.toList w3 hj).mono ?_);rintro e u w' ⟨rfl,rfl,rfl⟩;exact hl
            |ret=>intro X3 xI a3 w3 hk hc he;obtain⟨yy,e1,hl⟩:=last hk hc he hg;refine⟨yy,e1,?_⟩;show Leaves C.P fn a3.tmps _ a3.defers .returning w3;rw[hc.defers];refine leaves_cons (fun h=>by cases h) (hf cz w3) ((hD.idle cz.toList w3 hj).mono ?_);rintro e u w' ⟨rfl,rfl,rfl⟩;exact hl
            |panic=>
             intro X3 xI a3 w3 hk hc he;have hg:(bif CN xJ.obj ids then yu lf C D.st cs xJ.obj fun o=>uY lf C [] (aK C.sigs i).outs wr {xJ with obj:=o} fn.results.toList else none)=some y':=hg;cases hI:CN xJ.obj ids with
             |false=>rw[hI] at hg;cases hg
             |true=>rw[hI,cond_true] at hg;have h8:cd xI xJ.obj (ah X3 xI xJ.obj w3) w3 cs cz.toList:=qlx hG h7 hI (fun id hi c c' e1 e2=>by have:=he.up id hi;rw[e1,e2] at this;exact this) hM;obtain⟨φ4,o4,w4,g1,g2,g3,g4⟩:=qwc (env:=xJ.env) hC D.st hD.cD hc he h8 hg;obtain⟨yy,e1,hl⟩:=last hk g2 g3 g4;refine⟨⟨_,_,rfl⟩,fun t v=>⟨yy,e1,?_⟩⟩;show Leaves C.P fn a3.tmps _ a3.defers (.panicking (oC t v)) w3;rw[hc.defers];refine leaves_cons (fun h=>by cases h) (hf cz w3) ((hD.vh cz.toList w3 w4 t v hj g1).mono ?_);rintro e u w' ⟨rfl,rfl,rfl⟩;exact hl
            |exit id=>cases hg
            |goto l=>cases hg
         ·cases h2
        ·cases h2
       |exit id=>cases hg
       |goto l=>cases hg
       |panic=>cases hg
      have h9:Rel C ⟨fn.ntmps,[]⟩ X φ ⟨uX (fun _=>.undef) 0 (fill cy bR (aK C.sigs i).ins x).1,bB (aK C.sigs i).ins x⟩
        {tmps:=zs.toArray++Array.replicate (fn.ntmps-zs.toArray.size) undef,defers:=[]} w:=z0r hm hz hn
      refine calls_of_wp_defers hy hb (wH (hS C.P _ _ _ ?_));refine wI (SV hC hE HC (HD ⟨fn.ntmps,[]⟩ [] φ (bB (aK C.sigs i).ins x) w) qsq hP X _ _ _ _ _ _ y mQ1 hX h X φ _ w (fun _ h=>h) h9 (cS.refl _ _ _ _)) fun e a wd hq=>?_;have fin:∀e a wd,QS (fun g=>g=y) e a wd->bodyPostD C.P fn (qN C i x y X φ w) e a wd:=fun e a wd ⟨yy,e1,e2⟩=>by subst e1;exact e2
      cases e with
      |normal=>exact wp_mono hq fun e a wd h=>(by cases e<;>first|exact h.elim|exact wI h fun e a wd h=>fin e a wd h)
      |ret=>exact fin _ _ _ hq
      |_=>exact hq.elim
end
inductive Call (C:Cx):(i:Nat)->ai (aK C.sigs i).ins.aW->ai (aK C.sigs i).outs.aW->Prop where
 |mk (R:gF C.sigs) (h:∀j a b,R j a=some b->Call C j a b) (i:Nat) (x:ai (aK C.sigs i).ins.aW) (y:ai (aK C.sigs i).outs.aW) (e:Jr lf C R i x=some y):Call C i x y
 |mkD (D:CO) (hD:PM C.P D) (R:gF C.sigs) (h:∀j a b,R j a=some b->Call C j a b) (i:Nat) (x:ai (aK C.sigs i).ins.aW) (y:ai (aK C.sigs i).outs.aW) (e:PN lf C R D i x=some y):Call C i x y
 |tC (i:Nat) (x:ai (aK C.sigs i).ins.aW) (y:ai (aK C.sigs i).outs.aW) (h:oD C i x y):Call C i x y
def PO(C:Cx):Prop:=∀R:gF C.sigs,(∀j a b,R j a=some b->oD C j a b)->∀X φ o w,MRel C X φ o w->∀fr f,tA C R X φ o w fr f
def qwd(C:Cx):Prop:=∀R:gF C.sigs,(∀j a b,R j a=some b->oD C j a b)->∀nt sk dL o0 w0,PG C nt R (HJ sk dL o0 w0)
theorem Call.ok{C:Cx}(hC:cw C)(hE:kD C)(hL:PO C)(hD:qwd C){i:Nat}{x:ai (aK C.sigs i).ins.aW}{y:ai (aK C.sigs i).outs.aW}(h:Call C i x y):oD C i x y:=by
 induction h with
 |mk R h i x y e ih=>exact qlw hC hE (hL R ih) (hD R ih) e
 |mkD D hR R h i x y e ih=>exact qjb hC hE (hL R ih) (hD R ih) hR e
 |tC i x y h=>exact h
theorem Gx{imm imm':Nat->Prop}{w:World}:∀(t:Ty) (x:den t) (cs:List Value),uU t=false->aC imm w t x cs->aC imm' w t x cs
 |.unit,_,_,_,h=>h
 |.pair a b,x,_,hs,⟨c,d,e,h1,h2⟩=>by simp only[uU,Bool.or_eq_false_iff] at hs;exact⟨c,d,e,Gx a x.1 c hs.1 h1,Gx b x.2 d hs.2 h2⟩
 |.st p,x,cs,hs,h=>Gx p x cs hs h
 |.arr _ e,_,_,hs,⟨h1,h2⟩=>⟨h1,oY (fun x c h=>Gx e x c hs h) h2⟩
 |.int _,_,_,_,h=>h
 |.bool,_,_,_,h=>h
 |.eP,_,_,hs,_=>by cases hs
 |.fl,_,_,hs,_=>by cases hs
 |.str,_,_,_,h=>h
 |.sl e,_,_,hs,_=>by cases hs
theorem S3{imm imm':Nat->Prop}{w:World}(t:Ty)(x:den t)(v:Value)(hs:uU t=false)(h:aZ imm w t x v):aZ imm' w t x v:=by
 cases t with
 |st p=>obtain⟨cs,h1,h2⟩:=h;exact⟨cs,h1,Gx p x _ hs h2⟩
 |arr n e=>obtain⟨cs,h1,h2⟩:=h;exact⟨cs,h1,Gx (.arr n e) x _ hs h2⟩
 |unit=>exact h
 |pair a b=>exact h
 |int k=>exact h
 |bool=>exact h
 |eP=>cases hs
 |fl=>cases hs
 |str=>exact h
 |sl e=>cases hs
 |ks e=>cases hs
theorem qwe{imm imm':Nat->Prop}{w:World}{φ:Nat->Addr}{o:Nat->Obj}(ρ κ:Nat->Nat)(s:Sh):KQ s=false->∀r c z,ay φ o imm w (lM ρ κ s r c).1 z->ay φ o imm' w (lM ρ κ s r c).1 z:=by
 refine Sh.rec (motive_1:=fun s=>KQ s=false->∀r c z,ay φ o imm w (lM ρ κ s r c).1 z->ay φ o imm' w (lM ρ κ s r c).1 z)
  (motive_2:=fun l=>xB l=false->∀r c zs,cd φ o imm w (fw ρ κ l r c).1 zs->cd φ o imm' w (fw ρ κ l r c).1 zs)
  ?_ ?_ ?_ ?_ ?_ ?_ ?_ ?_ ?_ ?_ ?_ ?_ ?_ ?_ ?_ ?_ ?_ ?_ ?_ ?_ s
 ·exact fun t hs r c z h=>S3 t _ _ hs h
 ·intro i _ r c z h;replace h:ay φ o imm w (.cR (ρ i) (κ i)) z:=h;show ay φ o imm' w (.cR (ρ i) (κ i)) z;unfold ay at h ⊢;exact h
 ·intro i off _ r c z h;replace h:ay φ o imm w (.ptr (ρ i) off) z:=h;show ay φ o imm' w (.ptr (ρ i) off) z;unfold ay at h ⊢;exact h
 ·exact fun t hs r c z h=>by cases hs
 ·exact fun _ r c z h=>h
 ·exact fun f l ih hs r c z ⟨cz,h1,h2⟩=>⟨cz,h1,ih hs _ _ _ h2⟩
 ·exact fun _ r c z h=>h
 ·exact fun l ih hs r c z ⟨cz,h1,h2⟩=>⟨cz,h1,ih hs _ _ _ h2⟩
 ·exact fun l ih hs r c z ⟨cz,h1,h2⟩=>⟨cz,h1,ih hs _ _ _ h2⟩
 ·intro i _ r c z h;replace h:ay φ o imm w (.mp (ρ i)) z:=h;show ay φ o imm' w (.mp (ρ i)) z;unfold ay at h ⊢;exact h
 ·exact fun _ r c z h=>h
 ·exact fun _ r c z h=>h
 ·exact fun _ r c z h=>h
 ·intro i _ r c z h;replace h:ay φ o imm w (.iH (ρ i) c.1) z:=h;show ay φ o imm' w (.iH (ρ i) c.1) z;unfold ay at h ⊢;exact h
 ·intro i _ r c z h;replace h:ay φ o imm w (.iI (ρ i) (κ i) c.1) z:=h;show ay φ o imm' w (.iI (ρ i) (κ i) c.1) z;unfold ay at h ⊢;exact h
 ·intro i _ r c z h;replace h:ay φ o imm w (.it (ρ i)) z:=h;show ay φ o imm' w (.it (ρ i)) z;unfold ay at h ⊢;exact h
 ·exact fun a hs=>by cases hs
 ·exact fun t hs r c z h=>by cases hs
 ·exact fun _ r c z h=>h
 ·intro s l ow ox hs r c zs ⟨z,zr,e,h1,h2⟩;have hs:(KQ s||xB l)=false:=hs;rw[Bool.or_eq_false_iff] at hs;exact⟨z,zr,e,ow hs.1 _ _ _ h1,ox hs.2 _ _ _ h2⟩
theorem qly(ρ κ:Nat->Nat)(i:Nat)(s:fO)(r:List Ty)(c:ai (Jd s r)):(fx ρ κ i s r c).2=(fx cy bR i s r c).2:=by
 cases s with
 |box l=>exact Ls ρ κ cy bR l r c
 |vec t=>rfl
 |map k v=>rfl
 |gone=>rfl
 |iter=>rfl
theorem S4(ρ κ:Nat->Nat):∀(l:List fO) (i:Nat) (r:List Ty) (c:ai (bY l r)) (o1 o2:Nat->Obj),(∀a b,i<=a->a<i+l.length->i<=b->b<i+l.length->ρ a=ρ b->a=b)->(∀j,(j<i\/i+l.length<=j)->ar o1 (gE cy bR i l r c) j=o1 j)/\(∀id,(∀j,i<=j->j<i+l.length->ρ j≠id)->ar o2 (gE ρ κ i l r c) id=o2 id/\id∉bO (gE ρ κ i l r c))/\(∀j,i<=j->j<i+l.length->ρ j∈bO (gE ρ κ i l r c))
 |[],i,r,c,o1,o2,_=>⟨fun _ _=>rfl,fun _ _=>⟨rfl,(fun h=>by cases h)⟩,fun j h1 h2=>absurd h2 (by simp;omega)⟩
 |s::l,i,r,c,o1,o2,cG=>by
  have e2:=qly ρ κ i s (bY l r) c;simp only[zw] at cG;obtain⟨a2,a3,a4⟩:=S4 ρ κ l (i+1) r (fx cy bR i s (bY l r) c).2 (cV o1 i (fx cy bR i s (bY l r) c).1) (cV o2 (ρ i) (fx ρ κ i s (bY l r) c).1)
   (fun a b h1 h2 h3 h4 e=>cG a b om om om om e)
  have f1:∀j,ar o1 (gE cy bR i (s::l) r c) j=ar (cV o1 i (fx cy bR i s (bY l r) c).1) (gE cy bR (i+1) l r (fx cy bR i s (bY l r) c).2) j:=fun _=>rfl;have f2:∀id,ar o2 (gE ρ κ i (s::l) r c) id=ar (cV o2 (ρ i) (fx ρ κ i s (bY l r) c).1) (gE ρ κ (i+1) l r (fx cy bR i s (bY l r) c).2) id:=fun id=>(congrArg (fun q=>ar (cV o2 (ρ i) (fx ρ κ i s (bY l r) c).1) (gE ρ κ (i+1) l r q) id) e2);have f3:bO (gE ρ κ i (s::l) r c)=ρ i::bO (gE ρ κ (i+1) l r (fx cy bR i s (bY l r) c).2):=congrArg (fun q=>ρ i::bO (gE ρ κ (i+1) l r q)) e2;refine⟨fun j hj=>?_,fun id hc=>?_,fun j h1 h2=>?_⟩
  ·rw[f1];simp only[zw] at hj;rw[a2 j om,o6 om]
  ·rw[f2,f3];simp only[zw] at hc;obtain⟨b1,b2⟩:=a3 id (fun q h1 h2=>hc q om om);have he:id≠ρ i:=fun e=>hc i (Nat.le_refl _) om e.symm;exact⟨by rw[b1,o6 he],fun h=>by
    rcases zu.1 h with h|h
    ·exact he h
    ·exact b2 h⟩
  ·rw[f3];simp only[zw] at h2;by_cases hf:j=i
   ·subst hf;exact zf ..
   ·exact zg _ (a4 j om om)
theorem qf8(ρ κ:Nat->Nat):∀(l:List fO) (i:Nat) (r:List Ty) (c:ai (bY l r)) (j:Nat),i<=j->j<i+l.length->∃p,p∈gE ρ κ i l r c/\p.1=ρ j
 |[],i,r,c,j,h1,h2=>absurd h2 (by simp;omega)
 |s::l,i,r,c,j,h1,h2=>by
  by_cases hj:j=i
  ·subst hj;exact⟨_,zf ..,rfl⟩
  ·simp only[zw] at h2;obtain⟨p,h3,h4⟩:=qf8 ρ κ l (i+1) r (fx ρ κ i s (bY l r) c).2 j om om;exact⟨p,zg _ h3,h4⟩
theorem qf9(ρ κ:Nat->Nat):∀(l:List fO) (i:Nat) (r:List Ty) (c:ai (bY l r)) (o1 o2:Nat->Obj),(∀a b,i<=a->a<i+l.length->i<=b->b<i+l.length->ρ a=ρ b->a=b)->∀j sh,i<=j->l[j-i]?=some sh->∃r' c',ar o1 (gE cy bR i l r c) j=(fx cy bR j sh r' c').1/\ar o2 (gE ρ κ i l r c) (ρ j)=(fx ρ κ j sh r' c').1
 |[],i,r,c,o1,o2,_=>fun j sh _ h=>by simp at h
 |s::l,i,r,c,o1,o2,cG=>by
  intro j sh h1 h2;have e2:=qly ρ κ i s (bY l r) c;simp only[zw] at cG;have Lz:∀a b,i+1<=a->a<i+1+l.length->i+1<=b->b<i+1+l.length->ρ a=ρ b->a=b:=fun a b h1 h2 h3 h4 e=>cG a b om om om om e;obtain⟨a2,a3,_⟩:=S4 ρ κ l (i+1) r (fx cy bR i s (bY l r) c).2 (cV o1 i (fx cy bR i s (bY l r) c).1) (cV o2 (ρ i) (fx ρ κ i s (bY l r) c).1) Lz;have f1:∀j,ar o1 (gE cy bR i (s::l) r c) j=ar (cV o1 i (fx cy bR i s (bY l r) c).1) (gE cy bR (i+1) l r (fx cy bR i s (bY l r) c).2) j:=fun _=>rfl;have f2:∀id,ar o2 (gE ρ κ i (s::l) r c) id=ar (cV o2 (ρ i) (fx ρ κ i s (bY l r) c).1) (gE ρ κ (i+1) l r (fx cy bR i s (bY l r) c).2) id:=fun id=>(congrArg (fun q=>ar (cV o2 (ρ i) (fx ρ κ i s (bY l r) c).1) (gE ρ κ (i+1) l r q) id) e2);by_cases hc:j=i
  ·subst hc;rw[Nat.sub_self] at h2;simp only[List.getElem?_cons_zero,zK] at h2;subst h2;refine⟨bY l r,c,?_,?_⟩
   ·rw[f1,a2 j (.inl om),eY]
   ·rw[f2,(a3 (ρ j) (fun q hq he e=>by have:=cG q j om om om om e;omega)).1,eY]
  ·rw[show j-i=(j-(i+1))+1 by omega] at h2;obtain⟨r',c',g1,g2⟩:=qf9 ρ κ l (i+1) r (fx cy bR i s (bY l r) c).2 (cV o1 i (fx cy bR i s (bY l r) c).1) (cV o2 (ρ i) (fx ρ κ i s (bY l r) c).1) Lz j sh om (by simpa using h2);exact⟨r',c',by rw[f1];exact g1,by rw[f2];exact g2⟩
theorem qhl{imm imm':Nat->Prop}{w:World}{φ:Nat->Addr}{o:Nat->Obj}(ρ κ:Nat->Nat):∀(l:List Sh),xB l=false->∀r c zs,cd φ o imm w (fw ρ κ l r c).1 zs->cd φ o imm' w (fw ρ κ l r c).1 zs
 |[],_,_,_,_,h=>h
 |s::l,hs,r,c,zs,⟨z,zr,e,h1,h2⟩=>by have hs:(KQ s||xB l)=false:=hs;rw[Bool.or_eq_false_iff] at hs;exact⟨z,zr,e,qwe ρ κ s hs.1 _ _ _ h1,qhl ρ κ l hs.2 _ _ _ h2⟩
theorem qwf:∀{l:List fO},tm l=false->∀(j:Nat) (sh:fO),l[j]?=some sh->tm [sh]=false
 |[],_,j,sh,h=>by simp at h
 |s::l,hs,j,sh,h=>by
  cases j with
  |zero=>simp only[List.getElem?_cons_zero,zK] at h;subst h;cases s<;>simp only[tm,Bool.or_eq_false_iff] at hs ⊢<;>first|exact⟨hs.1,trivial⟩|rfl|trivial
  |succ j=>refine qwf (l:=l) ?_ j sh (by simpa using h);cases s<;>simp only[tm,Bool.or_eq_false_iff] at hs<;>first|exact hs.2|exact hs
theorem qd3{bJ:List Nat}:∀(k i:Nat) (l:List fO),BL bJ k i l=true->k<=l.length/\∀j,j<k->(l[j]?=some .gone/\bM (i+j) bJ=false)\/(l[j]?≠some .gone/\bM (i+j) bJ=true)
 |0,i,l,_=>⟨Nat.zero_le _,fun j h=>absurd h om⟩
 |k+1,i,l,h=>by
  cases l with
  |nil=>cases h
  |cons s l=>
   have both:BL bJ k (i+1) l=true/\((s=.gone/\bM i bJ=false)\/(s≠.gone/\bM i bJ=true)):=by
    cases s with
    |gone=>
     simp only[BL,zd] at h;refine⟨h.2,.inl ⟨rfl,?_⟩⟩;cases hb:bM i bJ with
     |false=>rfl
     |true=>exact absurd (fR.1 hb) (Sn h.1)
    |box cs=>simp only[BL,zd] at h;exact⟨h.2,.inr ⟨by simp,h.1⟩⟩
    |vec t=>simp only[BL,zd] at h;exact⟨h.2,.inr ⟨by simp,h.1⟩⟩
    |map kt vt=>simp only[BL,zd] at h;exact⟨h.2,.inr ⟨by simp,h.1⟩⟩
    |iter=>simp only[BL,zd] at h;exact⟨h.2,.inr ⟨by simp,h.1⟩⟩
   obtain⟨h1,h2⟩:=qd3 k (i+1) l both.1;refine⟨by simp;omega,fun j hj=>?_⟩;cases j with
   |zero=>simpa using both.2
   |succ j=>have:=h2 j om;rw[show i+1+j=i+(j+1) by omega] at this;simpa using this
theorem qav{ps:PS}:∀{l:List Nat},OI ps l=true->∀i,i∈l->iJ ((iJ i ps.aS).getD 0) ps.cut=none
 |b::r,h,i,hi=>by
  simp only[OI,zd] at h;rcases zu.1 hi with rfl|hi
  ·exact Pt h.1
  ·exact qav h.2 i hi
theorem qd4{o:Nat->Obj}{aS:List (Nat×Nat)}:∀(k:Nat),OH o aS k=true->∀j,j<k->∃cE,iJ j aS=some cE/\o cE≠.none
 |0,_,j,h=>absurd h om
 |k+1,h,j,hj=>by
  simp only[OH,zd] at h;by_cases e:j=k
  ·subst e;have h1:=h.1;split at h1
   ·rename_i cE ho;refine⟨cE,ho,fun e=>?_⟩;rw[e] at h1;cases h1
   ·cases h1
  ·exact qd4 k h.2 j om
theorem qhm{o:Nat->Obj}:∀{l:List Nat},OG o l=true->∀id,id∈l->(∀cs,o id≠.box cs)/\(∀k v m,o id≠.map k v m)/\(∀s p,o id≠.iter s p)
 |b::r,h,id,hi=>by
  simp only[OG,zd] at h;rcases zu.1 hi with hi|hi
  ·subst hi;have h1:=h.1;exact⟨fun cs e=>(by rw[e] at h1;cases h1),(fun k v m e=>(by rw[e] at h1;cases h1)),fun s p e=>(by rw[e] at h1;cases h1)⟩
  ·exact qhm h.2 id hi
theorem S5{C:Cx}{R:gF C.sigs}{p:Bool}{o:Nat->Obj}{fr f:Nat}{vs:List V}{v:V}{u:List (Nat×Obj)}:∀(l:List mZ) (i:Nat),(xC lf C R p o fr f vs l i).gives v u->∃i ps c y,(aK C.sigs i).f=f/\iK (aK C.sigs i).outs=p/\pack lf o [] (aK C.sigs i).ins vs=some (ps,c)/\OJ o ps (aK C.sigs i).ins.aB.length (aK C.sigs i).outs (aK C.sigs i).bJ=true/\R i c=some y/\v=lz (fill (BM ps.aS (aK C.sigs i).ins.aB.length fr) (Cu o ps.aS (aK C.sigs i).ins.aB.length (aK C.sigs i).bJ) (aK C.sigs i).outs y).1/\u=(bif nc (aK C.sigs i).outs then dX o ps.cj else [])++(fill (BM ps.aS (aK C.sigs i).ins.aB.length fr) (Cu o ps.aS (aK C.sigs i).ins.aB.length (aK C.sigs i).bJ) (aK C.sigs i).outs y).2
 |[],i,h=>h.elim
 |s::r,i,h=>by
  unfold xC at h;cases hb:Nat.beq s.f f with
  |false=>rw[hb] at h;exact S5 r (i+1) h
  |true=>
   rw[hb,cond_true] at h;split at h
   ·rename_i ps c hp;rw[dN,n5,zd,zd] at h;obtain⟨⟨⟨h1,h2⟩,h5⟩,y,h3,h4⟩:=h;simp only[Prod.mk.injEq] at h4;have h6:iK (aK C.sigs i).outs=p:=by revert h5;cases p<;>cases iK (aK C.sigs i).outs<;>intro h<;>first|rfl|cases h
    exact⟨i,ps,c,y,zh h1,h6,hp,h2,h3,h4.1.symm,h4.2.symm⟩
   ·exact S5 r (i+1) h
def ofk:Obj->Prop
 |.none=>False
 |_=>True
theorem S6{o:Nat->Obj}{id:Nat}:∀{ks:List Nat},id∈bO (dX o ks)->id∈ks
 |[],h=>by cases h
 |q::r,h=>by
  simp only[dX] at h;split at h
  ·rcases zu.1 h with h|h
   ·exact h▸zf ..
   ·exact zg _ (S6 h)
  ·exact zg _ (S6 h)
theorem z6r{C:Cx}{X X1:Nat->Prop}{φ kW:Nat->Addr}{o JY:Nat->Obj}{w w':World}{ps:PS}{fr:Nat}{ins outs:Shape}{y:ai outs.aW}{cD:List Value}{bJ:List Nat}(hm:MRel C X φ o w)(hw:bS o ps ins.aB.length ins.aB JY)(hM:OJ o ps ins.aB.length outs bJ=true)(hf:kC fr o ((bif nc outs then dX o ps.cj else [])++(fill (BM ps.aS ins.aB.length fr) (Cu o ps.aS ins.aB.length bJ) outs y).2))(hX:∀b,XC X φ o JY ps b->X1 b)(M1:MRel C X1 kW (bB outs y) w')(rv:cd kW (bB outs y) (ah X1 kW (bB outs y) w') w' (fill cy bR outs y).1 cD)(H:cS bJ (fg φ ps) JY w kW (bB outs y) w'):∃fy,Comes C X φ fy o ((bif nc outs then dX o ps.cj else [])++(fill (BM ps.aS ins.aB.length fr) (Cu o ps.aS ins.aB.length bJ) outs y).2) w w' (lz (fill (BM ps.aS ins.aB.length fr) (Cu o ps.aS ins.aB.length bJ) outs y).1) (tz cD):=by
 generalize hk:ins.aB.length=k at*
 generalize cG:BM ps.aS k fr=ρ at*
 generalize hκ:Cu o ps.aS k bJ=κ at*
 unfold OJ at hM;simp only[zd] at hM;obtain⟨⟨⟨⟨hB,ht⟩,hC⟩,hH⟩,hI⟩:=hM;have hI:=zH hI;obtain⟨h7,ht⟩:=qd3 _ _ _ ht;simp only[zN] at ht;have tied:∀j,j<k->(j,ρ j)∈ps.aS/\o (ρ j)≠.none:=fun j hj=>by
  obtain⟨cE,h1,h2⟩:=qd4 k hH j hj;have:ρ j=cE:=by
   rw[<-cG];unfold BM;have hb:Nat.blt j k=true:=by rw[Nat.blt_eq];exact hj
   rw[hb,h1];rfl
  rw[this];exact⟨Gn h1,h2⟩
 have fresh:∀j,k<=j->ρ j=fr+(j-k):=fun j hj=>by
  rw[<-cG];unfold BM;have hb:Nat.blt j k=false:=by
   cases e:Nat.blt j k with
   |false=>rfl
   |true=>rw[Nat.blt_eq] at e;omega
  rw[hb];rfl
 have vi:∀j,k<=j->j<outs.aB.length->o (ρ j)=.none:=fun j h1 h2=>by obtain⟨p,h3,h4⟩:=qf8 ρ κ outs.aB 0 [] (fw ρ κ outs.roots (bY outs.aB []) y).2 j (Nat.zero_le _) om;have:=hf p (List.mem_append_right _ h3);rw[h4,fresh j h1] at this;rw[fresh j h1];exact this om om
 have inj:∀a b,0<=a->a<0+outs.aB.length->0<=b->b<0+outs.aB.length->ρ a=ρ b->a=b:=fun a b _ h1 _ h2 e=>by
  by_cases ha:a<k<;>by_cases hb:b<k
  ·have r1:=(hw.aS (tied a ha).1).2.2;have r2:=(hw.aS (tied b hb).1).2.2;rw[e,r2] at r1;injection r1 with r1;exact r1.symm
  ·exact absurd (e▸vi b om om) (tied a ha).2
  ·exact absurd (e.symm▸vi a om om) (tied b hb).2
  ·rw[fresh a om,fresh b om] at e;omega
 have hF:Comes C X φ φ o (bif nc outs then dX o ps.cj else []) w w .undef undef:=by
  cases nc outs with
  |true=>exact Lc hm ps.cj
  |false=>exact .same hm rfl
 generalize hz:ar o (bif nc outs then dX o ps.cj else [])=of;have Mf:MRel C X φ of w:=hz▸hF.mem;have ofs:∀id,(of id=o id)\/(∃t ver fz s,o id=.vec t ver fz s/\of id=.vec t ver true s):=fun id=>by
  rw[<-hz];cases nc outs with
  |true=>exact(Fh (o:=o) ps.cj id).imp (fun h=>h.1) (fun h=>h)
  |false=>exact .inl rfl
 have S7:∀id,aX (φ id) (of id)=true->of id=o id/\aX (φ id) (o id)=true:=fun id hx=>by
  rcases ofs id with h|⟨t,ver,fz,s,h1,h2⟩
  ·exact⟨h,h▸hx⟩
  ·rw[h2] at hx;have:=(Cz hx).2.1;simp at this
 have ofn:∀id,of id=.none↔o id=.none:=fun id=>by
  rcases ofs id with h|⟨t,ver,fz,s,h1,h2⟩
  ·rw[h]
  ·rw[h1,h2];simp
 have ofl:∀id,id∉ps.cj->of id=o id:=fun id hi=>by
  rw[<-hz];cases nc outs with
  |false=>rfl
  |true=>show ar o (dX o ps.cj) id=o id;exact iM fun hk=>hi (S6 hk)
 have LA:∀id,id∈ps.cj->aX (φ id) (of id)=true->nc outs=false:=fun id hi hx=>by
  cases ha:nc outs with
  |false=>rfl
  |true=>
   exfalso;rw[ha] at hC hz;simp only[Bool.not_true,Bool.or_false] at hC;obtain⟨b1,b2,b3⟩:=qhm hC id hi;have hz:ar o (dX o ps.cj)=of:=hz;obtain⟨e1,e2⟩:=S7 id hx;cases he:o id with
   |box cs=>exact b1 cs he
   |map k v m=>exact b2 k v m he
   |iter s p=>exact b3 s p he
   |dead=>rw[he] at e2;simp[aX,Ev.live] at e2
   |none=>rw[he] at e2;exact nf e2
   |vec t ver fz s=>have hN:=RX hi he;obtain⟨t',aF,fz',s',_,h2⟩:=BR hN;rw[<-hz,h2 o] at hx;have:=(Cz hx).2.1;simp at this
 have hZ:(fill ρ κ outs y).2=gE ρ κ 0 outs.aB [] (fw cy bR outs.roots (bY outs.aB []) y).2:=congrArg (fun q=>gE ρ κ 0 outs.aB [] q) (Ls ρ κ cy bR outs.roots (bY outs.aB []) y);have each:=qf9 ρ κ outs.aB 0 [] (fw cy bR outs.roots (bY outs.aB []) y).2 (fun _=>.none) of inj;obtain⟨c2,c3,c4⟩:=S4 ρ κ outs.aB 0 [] (fw cy bR outs.roots (bY outs.aB []) y).2 (fun _=>.none) of inj;rw[<-hZ] at each c3 c4;have hO:bB outs y=ar (fun _=>.none) (gE cy bR 0 outs.aB [] (fw cy bR outs.roots (bY outs.aB []) y).2):=rfl;rw[<-hO] at each c2;generalize hP:bB outs y=oc at*
 generalize hu:(fill ρ κ outs y).2=u1 at*
 have JZ:∀j,j<outs.aB.length->∃sh r' c',outs.aB[j]?=some sh/\oc j=(fx cy bR j sh r' c').1/\ar of u1 (ρ j)=(fx ρ κ j sh r' c').1:=fun j hj=>by obtain⟨r',c',h1,h2⟩:=each j outs.aB[j] (Nat.zero_le _) (by rw[Nat.sub_zero];exact ze hj);exact⟨_,r',c',ze hj,h1,h2⟩
 have dead:∀j,j<k->bM j bJ=false->oc j=.dead/\ar of u1 (ρ j)=.dead:=fun j hj hn=>by
  obtain⟨sh,r',c',h1,h2,h3⟩:=JZ j om;rcases ht j hj with ⟨g1,_⟩|⟨_,g2⟩
  ·rw[g1] at h1;injection h1 with h1;subst h1;exact⟨h2,h3⟩
  ·rw[hn] at g2;cases g2
 have live:∀j,j<k->bM j bJ=true->oc j≠.dead/\ofk (of (ρ j))/\of (ρ j)=o (ρ j)/\fg φ ps j=φ (ρ j)/\kW j=φ (ρ j)/\∀a',a'=φ (ρ j)->Up w w' (φ (ρ j)) a' (o (ρ j)) (ar of u1 (ρ j)):=fun j hj hn=>by
  obtain⟨sh,r',c',h1,h2,h3⟩:=JZ j om;have hA:sh≠.gone:=fun e=>by
   subst e;rcases ht j hj with ⟨_,g2⟩|⟨g1,_⟩
   ·rw[hn] at g2;cases g2
   ·exact g1 h1
  have hS:oc j≠.dead:=by rw[h2];cases sh<;>simp[fx] at hA ⊢
  have h0:of (ρ j)=o (ρ j):=ofl _ (hw.cj (tied j hj).1);have hc:=H.up j (fR.1 hn);have hT:(iJ j ps.aS).getD 0=ρ j:=(hw.aS (tied j hj).1).2.1;have hQ:iJ (ρ j) ps.cut=none:=by rw[<-hT];exact qav hB j (fR.1 hn)
  have S8:κ j=z6g (o (ρ j)):=by
   rw[<-hκ];unfold Cu;have hb:(Nat.blt j k&&bM j bJ)=true:=by rw[hn,Bool.and_true,Nat.blt_eq];exact hj
   rw[hb,cond_true,hT]
  refine⟨hS,?_⟩;rw[h0];rcases BY (φ:=φ) hw (tied j hj).1 with hd|⟨⟨cs,lB,e1,e2⟩|⟨t',ver,s,e1,e2⟩|⟨kt,vt,m,e1,e2⟩|⟨_,_,e1,e2⟩,dx⟩
  ·rw[hd] at hc;exfalso;cases hP:oc j<;>rw[hP] at hc<;>first|exact hc.elim|exact hS hP
  ·rw[e2] at hc;refine⟨by rw[e1];trivial,rfl,dx,?_⟩;rw[h2] at hc;cases sh<;>first|exact hc.elim|exact(hA rfl).elim|skip
   have hc:kW j=fg φ ps j:=hc;refine⟨hc.trans dx,fun a' ha=>?_⟩;rw[e1,h3,ha];exact rfl
  ·rw[e2,hQ] at hc;refine⟨by rw[e1];trivial,rfl,dx,?_⟩;rw[h2] at hc;cases sh<;>first|exact hc.elim|exact(hA rfl).elim|skip
   rcases hc with hc|⟨_,u2,u3,u4,u5,u6⟩
   ·exact absurd hc (Nat.lt_irrefl 0)
   ·subst u2;refine⟨u5.trans dx,fun a' ha=>?_⟩;rw[e1,h3,ha];refine .inr ⟨?_,rfl,u3,u4,rfl,fun _=>⟨rfl,fun hn hs n hr=>?_⟩⟩
    ·rw[S8,e1];rfl
    ·have:=(u6 rfl).2 hn (by rw[dx];exact hs) n (by rw[dx];exact hr);rw[dx] at this;exact this
  ·rw[e2] at hc;refine⟨by rw[e1];trivial,rfl,dx,?_⟩;rw[h2] at hc;cases sh<;>first|exact hc.elim|exact(hA rfl).elim|skip
   have hc:kW j=fg φ ps j:=hc;refine⟨hc.trans dx,fun a' ha=>?_⟩;rw[e1,h3,ha];exact rfl
  ·rw[e2] at hc;refine⟨by rw[e1];trivial,rfl,dx,?_⟩;rw[h2] at hc;cases sh<;>first|exact hc.elim|exact(hA rfl).elim|skip
   have hc:kW j=fg φ ps j:=hc;refine⟨hc.trans dx,fun a' ha=>?_⟩;rw[e1,h3,ha];exact rfl
 have Gy:∀j a,j<outs.aB.length->aX a (ar of u1 (ρ j))=aX a (oc j):=fun j a hj=>by obtain⟨sh,r',c',h1,h2,h3⟩:=JZ j hj;rw[h2,h3];cases sh<;>rfl
 have kept:∀id,(∀j,j<outs.aB.length->ρ j≠id)->ar of u1 id=of id/\id∉bO u1:=fun id h=>c3 id fun j _ hj=>h j om;have split:∀id,(∃j,j<outs.aB.length/\ρ j=id)\/(∀j,j<outs.aB.length->ρ j≠id):=fun id=>by
  by_cases h:∃j,j<outs.aB.length/\ρ j=id
  ·exact .inl h
  ·exact .inr fun j hj e=>h ⟨j,hj,e⟩
 have hE:∀j a,aX a (oc j)=true->j<outs.aB.length/\(k<=j\/bM j bJ=true):=fun j a hx=>by
  have h1:j<outs.aB.length:=zP fun h=>by rw[c2 j (.inr om)] at hx;exact nf hx
  refine⟨h1,?_⟩;cases hn:bM j bJ with
  |true=>exact .inr rfl
  |false=>refine .inl (zP fun h=>?_);rw[(dead j om hn).1] at hx;simp[aX,Ev.live] at hx
 generalize dx:(fun id=>bif (Nat.ble fr id&&Nat.blt id (fr+(outs.aB.length-k))) then kW (id-fr+k) else φ id)=dA;have pN0:∀j,k<=j->j<outs.aB.length->dA (ρ j)=kW j:=fun j h1 h2=>by
  rw[<-dx];simp only;rw[fresh j h1];have hb:(Nat.ble fr (fr+(j-k))&&Nat.blt (fr+(j-k)) (fr+(outs.aB.length-k)))=true:=by rw[zd,Nat.ble_eq,Nat.blt_eq];omega
  rw[hb,cond_true];congr 1;omega
 have pO:∀id,of id≠.none->dA id=φ id:=fun id hn=>by
  rw[<-dx];simp only;have hb:(Nat.ble fr id&&Nat.blt id (fr+(outs.aB.length-k)))=false:=by
   cases e:(Nat.ble fr id&&Nat.blt id (fr+(outs.aB.length-k))) with
   |false=>rfl
   |true=>rw[zd,Nat.ble_eq,Nat.blt_eq] at e;have:=vi (k+(id-fr)) om om;rw[fresh _ om,show fr+(k+(id-fr)-k)=id by omega] at this;exact absurd ((ofn id).2 this) hn
  rw[hb,cond_false]
 have pN:∀j,(k<=j\/bM j bJ=true)->j<outs.aB.length->dA (ρ j)=kW j:=fun j h1 h2=>by
  by_cases hv:k<=j
  ·exact pN0 j hv h2
  ·have hn:=h1.resolve_left hv;obtain⟨_,l2,_,_,l5,_⟩:=live j om hn;rw[pO _ (fun e=>by rw[e] at l2;exact l2),l5]
 have LB:∀b,qJ (fg φ ps) JY b->∃i,i<k/\aX (φ (ρ i)) (of (ρ i))=true/\(φ (ρ i)).block=b:=fun b ⟨i,h1,h2⟩=>by
  obtain⟨hG,g1,g2⟩:=hw.Gq h1;have hU:wF ps i=ρ i:=(hw.aS (tied i hG).1).2.1;refine⟨i,hG,?_,by rw[<-hU];exact h2⟩;rw[<-hU];have h5:=hw.cj g1;rw[<-hz];cases ha:nc outs with
  |false=>exact g2
  |true=>
   show aX (φ (wF ps i)) (ar o (dX o ps.cj) (wF ps i))=true;rw[iM]
   ·exact g2
   ·intro hk;have key:∀ks:List Nat,wF ps i∈bO (dX o ks)->wF ps i∈ks:=by
     intro ks
     induction ks with
     |nil=>intro h;cases h
     |cons q r ih=>
      intro h;simp only[dX] at h;split at h
      ·rcases zu.1 h with h|h
       ·exact h▸zf ..
       ·exact zg _ (ih h)
      ·exact zg _ (ih h)
    exact h5 (key _ hk)
 have LC:∀b,qJ (fg φ ps) JY b->qJ φ of b:=fun b hb=>by obtain⟨i,_,h1,h2⟩:=LB b hb;exact⟨ρ i,h1,h2⟩
 have free:∀id,(∀j,j<outs.aB.length->ρ j≠id)->aX (φ id) (of id)=true->¬qJ (fg φ ps) JY (φ id).block:=fun id hJ hx ⟨i,h1,h2⟩=>by obtain⟨hG,g1,g2⟩:=hw.Gq h1;have:=hm.inj _ _ g2 (S7 id hx).2 h2;have hr:=(hw.aS (tied i hG).1).2.1;exact hJ i om (hr.symm.trans this)
 have yv:∀id,(∀j,j<outs.aB.length->ρ j≠id)->aX (φ id) (of id)=true->w'.heap[(φ id).block]?=w.heap[(φ id).block]?:=fun id hJ hx=>H.frame _ (Mf.sep id hx).1 (free id hJ hx);have LD:∀id,(∀j,j<outs.aB.length->ρ j≠id)->aX (φ id) (of id)=true->X1 (φ id).block\/nc outs=false:=fun id hJ hx=>by
  by_cases hl:id∈ps.cj
  ·exact .inr (LA id hl hx)
  ·refine .inl (hX _ (.inr ⟨id,(S7 id hx).2,rfl,hl,fun⟨i,h1,h2⟩=>?_⟩));exact free id hJ hx ⟨i,h1,by unfold fg;rw[h2]⟩
 have stays:∀b,ah X φ of w b->w'.heap[b]?=w.heap[b]?:=fun b hb=>H.frame b hb.1 fun h=>hb.2.2 (LC b h);have news:∀id,aX (dA id) (ar of u1 id)=true->w.heap.size<=(dA id).block\/qJ φ of (dA id).block:=fun id hx=>by
  rcases split id with ⟨j,hj,rfl⟩|h
  ·rw[Gy j _ hj] at hx;rw[pN j (hE j _ hx).2 hj] at hx ⊢;exact(H.news _ ⟨j,hx,rfl⟩).imp (fun h=>h) (LC _)
  ·rw[(kept id h).1] at hx;have hq:of id≠.none:=fun e=>by rw[e] at hx;exact nf hx
   rw[pO id hq] at hx ⊢;exact .inr ⟨id,hx,rfl⟩
 have imm:∀b,ah X φ of w b->ah X dA (ar of u1) w' b:=fun b ⟨h1,h2,h3⟩=>⟨Nat.lt_of_lt_of_le h1 H.size,h2,fun⟨id,e1,e2⟩=>by
  rcases news id e1 with h|h
  ·omega
  ·exact h3 (e2▸h)⟩
 have CP:nc outs=true->∀b,ah X1 kW oc w' b->ah X dA (ar of u1) w' b:=fun ha b ⟨h1,h2,h3⟩=>⟨h1,fun hx=>h2 (hX b (.inl hx)),fun⟨id,e1,e2⟩=>by
  rcases split id with ⟨j,hj,rfl⟩|h
  ·rw[Gy j _ hj] at e1;rw[pN j (hE j _ e1).2 hj] at e2 e1;exact h3 ⟨j,e1,e2⟩
  ·rw[(kept id h).1] at e1;have hq:of id≠.none:=fun e=>by rw[e] at e1;exact nf e1
   rw[pO id hq] at e2 e1;rcases LD id h e1 with h4|h4
   ·exact h2 (e2▸h4)
   ·rw[ha] at h4;cases h4⟩
 have Fg:∀id,Up w w' (φ id) (dA id) (of id) (ar of u1 id):=fun id=>by
  rcases split id with ⟨j,hj,rfl⟩|h
  ·by_cases hv:j<k
   ·cases hn:bM j bJ with
    |false=>rw[(dead j hv hn).2];cases of (ρ j)<;>trivial
    |true=>
     obtain⟨_,l2,l3,_,l5,l6⟩:=live j hv hn;have:=l6 (dA (ρ j)) ((pN j (.inr hn) hj).trans l5)
     rwa [<-l3] at this
   ·rw[(ofn _).2 (vi j om hj)];trivial
  ·rw[(kept id h).1];by_cases hq:of id=.none
   ·rw[hq];trivial
   ·rw[pO id hq];exact Up.same fun hx n hr=>CA (yv id h hx) hr
 have keeps:∀x z,ay φ of (ah X φ of w) w x z->ay dA (ar of u1) (ah X dA (ar of u1) w') w' x z:=fun x z hx=>BQ imm stays Fg x z hx;have lk:∀i,Px (κ i) (oc i) (ar of u1 (ρ i)):=fun i=>by
  by_cases hi:i<outs.aB.length
  ·obtain⟨sh,r',c',h1,h2,h3⟩:=JZ i hi;rw[h2,h3];cases sh<;>first|trivial|exact⟨rfl,rfl⟩
  ·rw[c2 i (.inr om)];trivial
 have pk:∀i,oc i≠.none->oc i=.dead\/dA (ρ i)=kW i:=fun i hn=>by
  have hi:i<outs.aB.length:=zP fun h=>hn (c2 i (.inr om));cases hV:bM i bJ with
  |true=>exact .inr (pN i (.inr hV) hi)
  |false=>
   by_cases hG:i<k
   ·exact .inl (dead i hG hV).1
   ·exact .inr (pN i (.inl om) hi)
 have pk':∀i,oc i≠.none->oc i≠.dead->dA (ρ i)=kW i:=fun i h1 h2=>(pk i h1).resolve_left h2;have Gz:nc outs=true->∀x z,ay dA (ar of u1) (ah X1 kW oc w') w' x z->ay dA (ar of u1) (ah X dA (ar of u1) w') w' x z:=fun ha x z hx=>BQ (CP ha) (fun _ _=>rfl) (fun _=>Up.same fun _ _ h=>h) x z hx;have hW:nc outs=false->xB outs.roots=false/\tm outs.aB=false:=fun h=>by unfold nc at h;rwa [Bool.or_eq_false_iff] at h
 have lists:∀(l:List Sh) (r:List Ty) (c:ai (jD l r)) (zs:List Value),(nc outs=false->xB l=false)->cd kW oc (ah X1 kW oc w') w' (fw cy bR l r c).1 zs->
   cd dA (ar of u1) (ah X dA (ar of u1) w') w' (fw ρ κ l r c).1 zs:=fun l r c zs hl h=>by
  have h2:=Py (φ':=dA) lk pk' l r c zs h;cases ha:nc outs with
  |true=>exact Ff (Gz ha) _ _ h2
  |false=>exact qhl ρ κ l (hl ha) r c zs h2
 have main:Comes C X φ dA of u1 w w' (lz (fill ρ κ outs y).1) (tz cD):=by
  refine⟨⟨fun id=>?_,fun i j hi hj e=>?_,fun i hi=>?_,fun b hb=>Nat.lt_of_lt_of_le (Mf.xs b hb) H.size,fun id=>?_,fun g t x hg=>keeps _ _ (Mf.fC g t x hg),Mf.u7 stays⟩,?_,Fg,H.size,fun b hb hh=>?_,fun id hn hk=>pO id hn,news,H.still⟩
  ·rcases split id with ⟨j,hj,rfl⟩|h
   ·by_cases hv:j<k/\bM j bJ=false
    ·rw[(dead j hv.1 hv.2).2];trivial
    ·have hK:=M1.aB j;obtain⟨sh,r',c',h1,h2,h3⟩:=JZ j hj;have tD:=pN j (by
      cases hn:bM j bJ with
      |true=>exact .inr rfl
      |false=>exact .inl (zP fun h=>hv ⟨by omega,hn⟩)) hj
     rw[h2] at hK;rw[h3];have hA:nc outs=false->tm [sh]=false:=fun ha=>qwf (hW ha).2 j sh h1;cases sh with
     |gone=>trivial
     |box l=>obtain⟨b1,cz,el,lo,hy,b2,b3,b4⟩:=hK;refine⟨by rw[tD];exact b1,cz,el,lo,hy,by rw[tD];exact b2,b3,lists l r' c' _ (fun ha=>?_) b4⟩;have:=hA ha;simpa[tm] using this
     |vec t=>
      obtain⟨b1,b2,b3⟩:=hK;refine⟨b1,b2,fun hn=>?_⟩;rw[tD];refine(b3 hn).imp (fun⟨b4,ec,b5,b6,b7,b8,b9⟩=>?_) fun g=>g;refine⟨b4,ec,?_,b6,b7,b8,fun h=>by cases h⟩;cases ha:nc outs with
      |true=>exact oY (iF (CP ha) (fun _ _=>rfl) t) b5
      |false=>have:=hA ha;exact oY (fun x c h=>Gx t x c (by simpa[tm] using this) h) b5
     |map kt vt=>
      obtain⟨es,clock,b1,b2⟩:=hK;refine⟨es,clock,by rw[tD];exact b1,?_⟩;cases ha:nc outs with
      |true=>exact Fe (tu (CP ha) (fun _ _=>rfl) _) (tu (CP ha) (fun _ _=>rfl) _) b2
      |false=>have:=hA ha;simp only[tm,Bool.or_false,Bool.or_eq_false_iff] at this;exact Fe (fun x v h=>S3 _ x v this.1 h) (fun x v h=>S3 _ x v this.2 h) b2
     |iter=>obtain⟨s,n,b1,b2⟩:=hK;exact⟨s,n,by rw[tD];exact b1,b2⟩
   ·rw[(kept id h).1];by_cases hq:of id=.none
    ·rw[hq];trivial
    ·exact Gb imm stays keeps (pO id hq) (yv id h) (Mf.aB id)
  ·have PQ:∀a b,a<outs.aB.length->aX (kW a) (oc a)=true->(∀j,j<outs.aB.length->ρ j≠b)->aX (φ b) (of b)=true->(kW a).block=(φ b).block->False:=fun a b ha h6 hb hY e=>by
    rcases H.news _ ⟨a,h6,rfl⟩ with h|h
    ·have:=(Mf.sep b hY).1;omega
    ·exact free b hb hY (e▸h)
   rcases split i with ⟨i',hy,rfl⟩|h1<;>rcases split j with ⟨j',hL,rfl⟩|h2
   ·rw[Gy i' _ hy] at hi;rw[Gy j' _ hL] at hj;rw[pN i' (hE i' _ hi).2 hy] at hi e;rw[pN j' (hE j' _ hj).2 hL] at hj e;rw[M1.inj i' j' hi hj e]
   ·rw[Gy i' _ hy] at hi;rw[(kept j h2).1] at hj;have hq:of j≠.none:=fun e=>by rw[e] at hj;exact nf hj
    rw[pN i' (hE i' _ hi).2 hy] at hi e;rw[pO j hq] at hj e;exact(PQ i' j hy hi h2 hj e).elim
   ·rw[Gy j' _ hL] at hj;rw[(kept i h1).1] at hi;have hq:of i≠.none:=fun e=>by rw[e] at hi;exact nf hi
    rw[pN j' (hE j' _ hj).2 hL] at hj e;rw[pO i hq] at hi e;exact(PQ j' i hL hj h1 hi e.symm).elim
   ·rw[(kept i h1).1] at hi;rw[(kept j h2).1] at hj;have hq:of i≠.none:=fun e=>by rw[e] at hi;exact nf hi
    have hR:of j≠.none:=fun e=>by rw[e] at hj;exact nf hj
    rw[pO i hq] at hi e;rw[pO j hR] at hj e;exact Mf.inj i j hi hj e
  ·rcases split i with ⟨i',hy,rfl⟩|h1
   ·rw[Gy i' _ hy] at hi;rw[pN i' (hE i' _ hi).2 hy] at hi ⊢;exact⟨(M1.sep i' hi).1,fun hx=>(M1.sep i' hi).2 (hX _ (.inl hx))⟩
   ·rw[(kept i h1).1] at hi;have hq:of i≠.none:=fun e=>by rw[e] at hi;exact nf hi
    rw[pO i hq] at hi ⊢;exact⟨Nat.lt_of_lt_of_le (Mf.sep i hi).1 H.size,(Mf.sep i hi).2⟩
  ·rcases split id with ⟨j,hj,rfl⟩|h
   ·by_cases hv:j<k/\bM j bJ=false
    ·rw[(dead j hv.1 hv.2).2];trivial
    ·have he:=M1.u0 j;obtain⟨sh,r',c',h1,h2,h3⟩:=JZ j hj;have tD:=pN j (by
      cases hn:bM j bJ with
      |true=>exact .inr rfl
      |false=>exact .inl (zP fun h=>hv ⟨by omega,hn⟩)) hj
     rw[h2] at he;rw[h3,tD];cases sh with
     |gone=>trivial
     |box l=>exact fun hs=>he ((qhf ρ κ l r' c').symm.trans hs)
     |vec t=>exact he
     |map kt vt=>trivial
     |iter=>trivial
   ·rw[(kept id h).1];by_cases hq:of id=.none
    ·rw[hq];trivial
    ·rw[pO id hq];exact Mf.kE id (fun hx=>.same (yv id h hx)) stays
  ·exact qh5 (lists outs.roots _ _ _ (fun ha=>(hW ha).1) rv)
  ·refine H.frame b hb fun ho=>?_;obtain⟨i,g1,g2,g3⟩:=LB b ho;exact hh ⟨ρ i,c4 i (Nat.zero_le _) om,g2,g3⟩
 rw[<-hz] at main;exact⟨dA,hF.trans main⟩
theorem z4p{C:Cx}(HN:∀i fn,C.P.funcs[(aK C.sigs i).f]?=some fn->(fn.name== "runtime.NumGoroutine")=false):PO C:=by intro R hR X φ o w hm fr f p vs zs v u hv hg hf;obtain⟨i,ps,c,y,hc,hj,hp,hk,hy,rfl,rfl⟩:=S5 _ _ hg;subst hc;obtain⟨q1,q2⟩:=Lt hm hp hv;obtain⟨hl,_⟩:=Gu hp;obtain⟨⟨fn,g1,g2⟩,g3⟩:=hR i c y hy _ _ w zs q1 q2;refine⟨⟨fn,g1,HN i fn g1,g2⟩,Calls.mono g3 fun e w' hb=>?_⟩;obtain⟨cD,kW,X1,he,hX,M1,rv,H⟩:=hb;rw[hj] at he;obtain⟨dA,h⟩:=z6r hm hl hk hf hX M1 rv H;exact⟨_,dA,qss he,h⟩
end Ev