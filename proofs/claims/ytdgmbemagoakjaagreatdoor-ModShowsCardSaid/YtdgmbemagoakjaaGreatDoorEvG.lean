/- Regions, code, functions and calls are sound. -/
import Derived.Test.YtdgmbemagoakjaaGreatDoorEvE
import Derived.Tactics
import Derived.Scope
import Derived.ScopeJumps
set_option linter.defProp false
namespace Ev
open Go
section
variable {C:Cx} {nt:Nat} {X:Nat→Prop} {φ φ':Nat→Addr} {st:St} {a:Act} {w w':World} {R:jU C.sigs}
def z0f(a:Act)(d:Option Tmp)(z:Value):(a.put d z).tmps.size=a.tmps.size:=by cases d<;>simp[Act.put]
def qof(a:Act)(d:Option Tmp)(z:Value):(a.put d z).defers=a.defers:=by cases d<;>rfl
def z0g(a:Act)(d:Tmp)(z:Value)(h:d<a.tmps.size):(a.put (some d) z).tmps.getD d undef=z:=by simp[Act.put,h]
def Xy(a:Act)(d:Option Tmp)(z:Value)(t:Nat)(h:d≠some t):(a.put d z).tmps.getD t undef=a.tmps.getD t undef:=by
 cases d with
 |none=>rfl
 |some d=>have:d≠t:=fun e=>h (e▸rfl);simp[Act.put,Array.getElem?_setIfInBounds_ne this]
def SH(nt:Nat)(d:Option Tmp):Prop:=∀t,d=some t->t<nt
def SI(st:St)(d:Option Nat)(v:V)(t:Nat):(d=some t/\(bK st d v).env t=v)\/(d≠some t/\(bK st d v).env t=st.env t):=by
 cases d with
 |none=>exact .inr ⟨by simp,rfl⟩
 |some d=>
  by_cases h:t=d
  ·subst h;exact .inl ⟨rfl,eQ⟩
  ·exact .inr ⟨fun e=>h (by injection e with e;exact e.symm),jI h⟩
def xE(st:St)(d:Option Nat)(v:V):(bK st d v).obj=st.obj:=by cases d<;>rfl
def Rel.step(h:Rel C nt X φ st a w){u:List (Nat×Obj)}{v:V}{z:Value}{d:Option Tmp}(hd:SH nt d)(hc:Comes C X φ φ' st.obj u w w' v z):Rel C nt X φ' (bK {st with obj:=aq st.obj u} d v) (a.put d z) w':=by
 have ho:(bK {st with obj:=aq st.obj u} d v).obj=aq st.obj u:=xE _ _ _;refine⟨by rw[ho];exact hc.mem,(z0f _ _ _).trans h.size,fun t=>?_,by rw[qof];exact h.defers⟩;rw[ho];rcases SI {st with obj:=aq st.obj u} d v t with ⟨h1,h2⟩|⟨h1,h2⟩
 ·rw[h2];subst h1;rw[z0g _ _ _ (by rw[h.size];exact hd t rfl)];exact hc.val
 ·rw[h2,Xy _ _ _ _ h1];exact hc.keeps _ _ (h.env t)
def Rel.put(h:Rel C nt X φ st a w){v:V}{z:Value}{d:Option Tmp}(hd:SH nt d)(hv:ay φ st.obj (aj X φ st.obj w) w v z):Rel C nt X φ (bK st d v) (a.put d z) w:=by
 have ho:(bK st d v).obj=st.obj:=xE _ _ _;refine⟨by rw[ho];exact h.toMRel,(z0f _ _ _).trans h.size,fun t=>?_,by rw[qof];exact h.defers⟩;rw[ho];rcases SI st d v t with ⟨h1,h2⟩|⟨h1,h2⟩
 ·rw[h2];subst h1;rw[z0g _ _ _ (by rw[h.size];exact hd t rfl)];exact hv
 ·rw[h2,Xy _ _ _ _ h1];exact h.env t
def Rel.eM(h:Rel C nt X φ st a w){v:V}{d:Nat}(hv:∀z,ay φ st.obj (aj X φ st.obj w) w (st.env d) z->ay φ st.obj (aj X φ st.obj w) w v z):Rel C nt X φ (bK st (some d) v) a w:=by
 refine⟨h.toMRel,h.size,fun t=>?_,h.defers⟩;rcases SI st (some d) v t with ⟨h1,h2⟩|⟨h1,h2⟩
 ·rw[h2];injection h1 with h1;subst h1;exact hv _ (h.env d)
 ·rw[h2];exact h.env t
def qqy{nt:Nat}{l:List Oper}:vO nt l=true->∀o,o∈l->SH nt o.dst:=by
 induction l with
 |nil=>intro _ o ho;cases ho
 |cons p r ih=>
  intro h o ho;simp only[vO,ze] at h;rcases zk.1 ho with rfl|ho
  ·intro t e
   simp_all
  ·exact ih h.2 o ho
def Sound(C:Cx)(nt:Nat)(X:Nat->Prop)(J:(Nat->Prop)->(Nat->Addr)->St->Act->World->Prop)(st:St)(P:Act->World->Prop):Prop:=∀X' φ a w,(∀b,X b->X' b)->Rel C nt X' φ st a w->J X' φ st a w->P a w
def SJ{P:Program}{ops:Array Oper}{Q:Exit->Act->World->Prop}:∀(l m:List Oper) (a:Act) (w:World),wpList P ops (Exit.then (wpList P ops Q m) Q) l a w->wpList P ops Q (l++m) a w
 |[],m,a,w,h=>h
 |o::l,m,a,w,h=>by
  show(if Region.wanted o (yielded ops a.tmps) then o.wp P a w (wpList P ops Q (l++m)) Q\/(o.asks P a w/\LetsOut Q) else wpList P ops Q (l++m) (a.put o.dst undef) w);have h:(if Region.wanted o (yielded ops a.tmps) then o.wp P a w (wpList P ops (Exit.then (wpList P ops Q m) Q) l) (Exit.then (wpList P ops Q m) Q)\/(o.asks P a w/\LetsOut (Exit.then (wpList P ops Q m) Q)) else wpList P ops (Exit.then (wpList P ops Q m) Q) l (a.put o.dst undef) w):=h;split
  ·rename_i hw;rw[if_pos hw] at h;refine h.imp (fun h=>?_) (fun h=>h);unfold Oper.wp at*
   generalize (execOp a.eval o).run P w=r at*
   cases r with
   |ok n w'=>
    cases n<;>simp only[Oper.upon] at h ⊢<;>
     first
      |exact SJ l m _ _ h
      |exact Calls.mono h (fun e QT he=>by cases e<;>first|exact SJ l m _ _ he|exact he)
      |exact Rows.mono h (fun _ _ he=>SJ l m _ _ he)
   |halt x w'=>cases x<;>simp only[Oper.upon] at h ⊢<;>exact h
  ·rename_i hw;rw[if_neg hw] at h;exact SJ l m _ _ h
end
def qv1{d:Nat}{l:List Oper}:∀{g r:List Oper} {p:Oper},LL d l=some (g,p,r)->l=g++p::r:=by
 induction l with
 |nil=>intro g r p h;cases h
 |cons o l ih=>
  intro g r p h;have key:(LL d l).map (fun q=>(o::q.1,q.2.1,q.2.2))=some (g,p,r)->o::l=g++p::r:=by
   intro h;rw[Option.map_eq_some_iff] at h
   grind
  simp only[LL] at h
  grind
def qiz{nt:Nat}{l m:List Oper}:vO nt (l++m)=true->vO nt l=true/\vO nt m=true:=by
 induction l with
 |nil=>exact fun h=>⟨rfl,h⟩
 |cons o l ih=>
  intro h;simp only[List.cons_append,vO,ze] at h ⊢
  grind
def qy1{o:Nat->Obj}{u:List (Nat×Obj)}:B2 (some o) u=true->∀id,id∈bW u->o id=.none:=by
 induction u with
 |nil=>intro _ id hi;cases hi
 |cons q r ih=>
  obtain⟨i,x⟩:=q;intro h id hi;simp only[B2,ze] at h;rcases zk.1 hi with hi|hi
  all_goals grind
def qog:∀(g:List Oper) (st:St),(B1 st g).obj=st.obj
 |[],_=>rfl
 |o::r,st=>by show(B1 (bK st o.dst .dH) r).obj=_;rw[qog r,xE]
def qv2:∀(g:List Oper) (st:St) (t:Nat),(B1 st g).env t=.dH\/((B1 st g).env t=st.env t/\∀o,o∈g->o.dst≠some t)
 |[],_,_=>.inr ⟨rfl,(fun _ h=>by cases h)⟩
 |o::r,st,t=>by
  rcases qv2 r (bK st o.dst .dH) t with h|⟨h1,h2⟩
  ·exact .inl h
  ·rcases SI st o.dst .dH t with ⟨h3,h4⟩|⟨h3,h4⟩
   ·exact .inl (h1.trans h4)
   ·refine .inr ⟨h1.trans h4,fun q hq=>?_⟩
    grind
section
variable {C:Cx} {nt:Nat} {X:Nat→Prop} {R:jU C.sigs}
structure yX (ds:List Oper) (kW:Nat->Addr) (ss:St) (as:Act) (ws:World) (φ:Nat->Addr) (st:St) (a:Act) (w:World):Prop where
 size:ws.heap.size<=w.heap.size
 same:∀b,b<ws.heap.size->w.heap[b]?=ws.heap[b]?
 cN:∀id,ss.obj id≠.none->st.obj id=ss.obj id/\φ id=kW id
 new:∀id,ss.obj id=.none->aV (φ id) (st.obj id)=true->ws.heap.size<=(φ id).block
 tmps:∀t,(∀o,o∈ds->o.dst≠some t)->a.tmps.getD t undef=as.tmps.getD t undef
 still:xB ws w
def yX.step{ds:List Oper}{kW φ φ':Nat->Addr}{ss st:St}{as a:Act}{ws w w':World}(h:yX ds kW ss as ws φ st a w){u:List (Nat×Obj)}{v:V}{z:Value}{o:Oper}(ho:o∈ds)(hc:Comes C X φ φ' st.obj u w w' v z)(hn:B2 (some ss.obj) u=true):yX ds kW ss as ws φ' (bK {st with obj:=aq st.obj u} o.dst v) (a.put o.dst z) w':=by
 have hk:∀id,id∈bW u->ss.obj id=.none:=qy1 hn;have he:(bK {st with obj:=aq st.obj u} o.dst v).obj=aq st.obj u:=xE _ _ _;have cN:∀id,ss.obj id≠.none->aq st.obj u id=ss.obj id/\φ' id=kW id:=fun id hi=>by obtain⟨h1,h2⟩:=h.cN id hi;have hf:id∉bW u:=fun hm=>hi (hk id hm);exact⟨(iU hf).trans h1,(hc.vq id (by rw[h1];exact hi) hf).trans h2⟩
 refine⟨Nat.le_trans h.size hc.size,fun b hb=>?_,by rw[he];exact cN,fun id hi hx=>?_,fun t ht=>?_,⟨hc.still.1.trans h.still.1,hc.still.2.trans h.still.2⟩⟩
 ·rw[hc.frame b (Nat.lt_of_lt_of_le hb h.size),h.same b hb];rintro⟨id,h1,h2,h3⟩;have:=h.new id (hk id h1) h2;omega
 ·rw[he] at hx;rcases hc.news id hx with h1|⟨j,h1,h2⟩
  ·have:=h.size;omega
  ·by_cases hj:ss.obj j=.none
   ·have:=h.new j hj h1;omega
   ·exfalso;obtain⟨e1,e2⟩:=cN j hj;obtain⟨e3,e4⟩:=h.cN j hj;have hg:aV (φ' j) (aq st.obj u j)=true:=by rw[e1,e2,<-e3,<-e4];exact h1
    have:=hc.mem.inj j id hg hx (by rw[e2,<-e4];exact h2);subst this;exact hj hi
 ·rw[Xy _ _ _ _ (ht o ho)];exact h.tmps t ht
def yX.undef{ds:List Oper}{kW φ:Nat->Addr}{ss st:St}{as a:Act}{ws w:World}(h:yX ds kW ss as ws φ st a w){o:Oper}(ho:o∈ds)(v:V)(z:Value):yX ds kW ss as ws φ (bK st o.dst v) (a.put o.dst z) w:=⟨h.size,h.same,by rw[xE];exact h.cN,by rw[xE];exact h.new,fun t ht=>by rw[Xy _ _ _ _ (ht o ho)];exact h.tmps t ht,h.still⟩
def yX.eM{ds:List Oper}{kW φ:Nat->Addr}{ss st:St}{as a:Act}{ws w:World}(h:yX ds kW ss as ws φ st a w)(d:Option Nat)(v:V):yX ds kW ss as ws φ (bK st d v) a w:=⟨h.size,h.same,by rw[xE];exact h.cN,by rw[xE];exact h.new,h.tmps,h.still⟩
def yX.forget{g:List Oper}{p:Oper}{pd:Nat}(hk:p.dst=some pd){kW φ:Nat->Addr}{ss st:St}{as a:Act}{ws w:World}(hs:Rel C nt X kW ss as ws)(he:Rel C nt X φ st a w)(h:yX (g++[p]) kW ss as ws φ st a w){y:Bool}(hy:dO (st.env pd)=.d .bool y):Rel C nt X kW (bK (B1 ss g) (some pd) (.d .bool y)) a w:=by
 have hc:(bK (B1 ss g) (some pd) (.d .bool y)).obj=ss.obj:=by rw[xE,qog]
 have hf:∀b,aj X kW ss.obj ws b->aj X kW ss.obj w b:=fun b hb=>⟨Nat.lt_of_lt_of_le hb.1 h.size,hb.2.1,hb.2.2⟩;have hj:∀b,aj X kW ss.obj ws b->w.heap[b]?=ws.heap[b]?:=fun b hb=>h.same b hb.1;have keeps:∀x z,ay kW ss.obj (aj X kW ss.obj ws) ws x z->ay kW ss.obj (aj X kW ss.obj w) w x z:=fun x z hx=>BA hf hj (fun id=>Up.same fun hx n hr=>Gn (h.same _ (hs.sep id hx).1) hr) x z hx;refine⟨?_,he.size,fun t=>?_,he.defers⟩
 ·rw[hc];refine⟨fun id=>LV hf hj keeps rfl (fun hx=>h.same _ (hs.sep id hx).1) (hs.aw id),hs.inj,fun i hi=>⟨Nat.lt_of_lt_of_le (hs.sep i hi).1 h.size,(hs.sep i hi).2⟩,
   fun b hb=>Nat.lt_of_lt_of_le (hs.xs b hb) h.size,fun id=>hs.kE id (fun hx=>.same (h.same _ (hs.sep id hx).1)) hj,fun g t x hg=>keeps _ _ (hs.fe g t x hg),hs.pC hj⟩
 ·rw[hc];rcases SI (B1 ss g) (some pd) (.d .bool y) t with ⟨h1,h2⟩|⟨h1,h2⟩
  ·rw[h2];injection h1 with h1;subst h1;have:=R9 (he.env pd);rw[hy] at this;have:=vr this;rw[this];exact Gp
  ·rw[h2];rcases qv2 g ss t with h3|⟨h3,h4⟩
   ·rw[h3];trivial
   ·rw[h3,h.tmps t fun o ho=>?_]
    ·exact keeps _ _ (hs.env t)
    grind
def qlb{ops:Array Oper}{a:Act}{j dj:Nat}{oj:Oper}{b:Bool}(hj:ops.toList[j]?=some oj)(hd:oj.dst=some dj)(h:a.tmps.getD dj undef=.bool b):yielded ops a.tmps j=some b:=by
 unfold yielded;rw[zJ] at hj;have h':a.tmps[dj]?=some (.bool b):=by
  rw[Array.getD_eq_getD_getElem?] at h;cases e:a.tmps[dj]? with
  |none=>rw[e] at h;cases h
  |some z=>rw[e] at h;exact congrArg some h
 simp[hj,hd,h']
def qoh{ops:Array Oper}{a:Act}{j dj:Nat}{oj:Oper}(hj:ops.toList[j]?=some oj)(hd:oj.dst=some dj)(h:a.tmps.getD dj undef=undef):yielded ops a.tmps j=none:=by
 unfold yielded;rw[zJ] at hj;rw[Array.getD_eq_getD_getElem?] at h;simp only[hj,Option.bind_some,hd];cases e:a.tmps[dj]? with
 |none=>rfl
 |some z=>rw[e] at h;have h:z=undef:=h;subst h;rfl
structure pG (C:Cx) (nt:Nat) (g0:Option (Nat->Obj)) (r:List Oper) (J:(Nat->Prop)->(Nat->Addr)->St->Act->World->Prop):Prop where
 step:∀X φ st a w φ' u v z w' o,o∈r->J X φ st a w->Rel C nt X φ st a w->Comes C X φ φ' st.obj u w w' v z->B2 g0 u=true->J X φ' (bK {st with obj:=aq st.obj u} o.dst v) (a.put o.dst z) w'
 undef:∀X φ st a w o,o∈r->J X φ st a w->J X φ (bK st o.dst .undef) (a.put o.dst undef) w
 eM:∀X φ st a w d v,J X φ st a w->J X φ (bK st d v) a w
 forget:g0=none->∀X kW ss as ws φ st a w (g js:List Oper) (v:Option Nat×V),J X kW ss as ws->yX g kW ss as ws φ st a w->J X kW (bK (B1 ss js) v.1 v.2) a w
def pG.tail{g0:Option (Nat->Obj)}{r r':List Oper}{J:(Nat->Prop)->(Nat->Addr)->St->Act->World->Prop}(h:pG C nt g0 r J)(hs:∀o,o∈r'->o∈r):pG C nt g0 r' J:=⟨fun X φ st a w φ' u v z w' o ho=>h.step X φ st a w φ' u v z w' o (hs o ho),fun X φ st a w o ho=>h.undef X φ st a w o (hs o ho),h.eM,h.forget⟩
variable (hC:cV C) (hE:mw C) (HC:∀X φ o w,MRel C X φ o w→∀fr f,Gt C R X φ o w fr f)
include hC hE HC
def qy2{ops:Array Oper}{rg:Nat}:∀(n:Nat) {γ δ:Type} (X:Nat->Prop) (Q:Exit->Act->World->Prop) (wr:γ->δ) (i:Nat) (r:List Oper) (st:St) (k:(γ->δ)->St->Option δ) (y:δ) (J:(Nat->Prop)->(Nat->Addr)->St->Act->World->Prop) (g0:Option (Nat->Obj)),ot lf C R rg ops.toList g0 n wr i r st k=some y->vO nt r=true->pG C nt g0 r J->(∀bV,k wr bV=some y->Sound C nt X J bV (Q .normal))->Sound C nt X J st (wpList C.P ops Q r):=by
 intro n
 induction n with
 |zero=>intro γ δ X Q wr i r st k y J g0 h;cases h
 |succ n ih=>
  intro γ δ X Q wr i r st k y J g0 h hd hJ hk;cases r with
  |nil=>exact hk st h
  |cons o r=>
   have hm:SH nt o.dst:=qqy hd o (zg ..);have hn:vO nt r=true:=(qiz (l:=[o]) hd).2;have hs:pG C nt g0 r J:=hJ.tail fun q hq=>zh _ hq;have runs:(match cZ lf C R st.env st.obj (kU rg i) o.type o.op with
     |.fail=>none
     |.mW v u=>bif B2 g0 u then pB v fun v=>vP (kU rg i) st.obj u fun o'=>ot lf C R rg ops.toList g0 n wr (i+1) r (bK {st with obj:=o'} o.dst v) k else none
     |.dyn _ x out=>lf.b x fun y=>bif B2 g0 (out y).2 then pB (out y).1 fun v=>vP (kU rg i) st.obj (out y).2 fun o'=>ot lf C R rg ops.toList g0 n wr (i+1) r (bK {st with obj:=o'} o.dst v) k else none)=some y->
     ∀X' φ a w,(∀b,X b->X' b)->Rel C nt X' φ st a w->J X' φ st a w->o.wp C.P a w (wpList C.P ops Q r) Q:=by
    intro h X' φ a w hX hR hj;have go:∀v u,(cZ lf C R st.env st.obj (kU rg i) o.type o.op).aN v u->(bif B2 g0 u then pB v fun v=>vP (kU rg i) st.obj u fun o'=>ot lf C R rg ops.toList g0 n wr (i+1) r (bK {st with obj:=o'} o.dst v) k else none)=some y->
      o.wp C.P a w (wpList C.P ops Q r) Q:=by
     intro v u hg h;cases hb:B2 g0 u with
     |false=>rw[hb] at h;cases h
     |true=>rw[hb,cond_true,z6v] at h;obtain⟨h1,h2⟩:=qsj _ _ _ _ h;have hl:=zg3 hC hE hR.toMRel (fun x=>hR.cG x) (HC X' φ st.obj w hR.toMRel (kU rg i)) hg h2;exact hl.upon fun val w' φ' hc=>ih X Q wr (i+1) r _ k y J g0 h1 hn hs hk X' φ' _ w' hX (hR.step hm hc) (hJ.step X' φ st a w φ' u v val w' o (zg ..) hj hR hc hb)
    generalize hp:cZ lf C R st.env st.obj (kU rg i) o.type o.op=pk at h go;cases pk with
    |fail=>cases h
    |mW v u=>exact go v u ⟨rfl,rfl⟩ h
    |dyn α x out=>obtain⟨q,h1,h2⟩:=FG (x:=x) h;exact go (out q).1 (out q).2 ⟨q,h1,rfl⟩ h2
   have KF:ot lf C R rg ops.toList g0 n wr (i+1) r (bK st o.dst .undef) k=some y->Sound C nt X J st (fun a w=>wpList C.P ops Q r (a.put o.dst undef) w):=by intro h X' φ a w hX hR hj;exact ih X Q wr (i+1) r _ k y J g0 h hn hs hk X' φ _ w hX (hR.put hm rfl) (hJ.undef X' φ st a w o (zg ..) hj)
   intro X' φ a w hX hR hj;show(if Region.wanted o (yielded ops a.tmps) then o.wp C.P a w (wpList C.P ops Q r) Q\/(o.asks C.P a w/\LetsOut Q) else wpList C.P ops Q r (a.put o.dst undef) w);unfold ot at h;simp only at h;split at h
   ·rename_i hg;rw[if_pos (by simp[Region.wanted,hg])]
    grind
   ·rename_i j want hg;split at h
    ·rename_i oj ht;split at h
     ·rename_i dj hu;split at h
      ·
       rename_i b hb;have hz:=hR.env dj;rw[hb] at hz;have hy:=qlb ht hu hz;have hw:Region.wanted o (yielded ops a.tmps)=(bif want then b else !b):=by
        unfold Region.wanted
        grind
       rw[hw];cases hc:(bif want then b else !b) with
       |true=>grind
       |false=>rw[hc] at h;rw[if_neg (by simp)];exact KF h X' φ a w hX hR hj
      ·
       rename_i hb;have hz:=hR.env dj;rw[hb] at hz;have hy:=qoh ht hu hz;have hw:Region.wanted o (yielded ops a.tmps)=false:=by
        unfold Region.wanted
        grind
       rw[hw,if_neg (by simp)];exact KF h X' φ a w hX hR hj
      ·rename_i x hb;split at h
       ·
        rename_i gs;have rc:∀b,x=b->∀z,ay φ st.obj (aj X' φ st.obj w) w (st.env dj) z->ay φ st.obj (aj X' φ st.obj w) w (.lb b) z:=by intro b e z hz;rw[hb] at hz;subst e;exact vr hz
        cases x with
        |true=>have h:ot lf C R rg ops.toList (some gs) n wr i (o::r) (bK st (some dj) (.lb true)) k=some y:=h;exact ih X Q wr i (o::r) _ k y J _ h hd hJ hk X' φ a w hX (hR.eM (rc true rfl)) (hJ.eM X' φ st a w _ _ hj)
        |false=>have h:ot lf C R rg ops.toList (some gs) n wr i (o::r) (bK st (some dj) (.lb false)) k=some y:=h;exact ih X Q wr i (o::r) _ k y J _ h hd hJ hk X' φ a w hX (hR.eM (rc false rfl)) (hJ.eM X' φ st a w _ _ hj)
       ·cases hv:qzt C dj (o::r)
        case true=>
         rw[hv,cond_true] at h;have rc:∀b,x=b->∀z,ay φ st.obj (aj X' φ st.obj w) w (st.env dj) z->ay φ st.obj (aj X' φ st.obj w) w (.lb b) z:=by intro b e z hz;rw[hb] at hz;subst e;exact vr hz
         cases x with
         |true=>have h:ot lf C R rg ops.toList none n wr i (o::r) (bK st (some dj) (.lb true)) k=some y:=h;exact ih X Q wr i (o::r) _ k y J _ h hd hJ hk X' φ a w hX (hR.eM (rc true rfl)) (hJ.eM X' φ st a w _ _ hj)
         |false=>have h:ot lf C R rg ops.toList none n wr i (o::r) (bK st (some dj) (.lb false)) k=some y:=h;exact ih X Q wr i (o::r) _ k y J _ h hd hJ hk X' φ a w hX (hR.eM (rc false rfl)) (hJ.eM X' φ st a w _ _ hj)
        rw[hv,cond_false] at h;split at h
        ·rename_i g p r' hA;split at h
         ·rename_i pd hB;obtain⟨yb,h1,h2⟩:=FG h;have hD:=qv1 hA;show wpList C.P ops Q (o::r) a w;rw[hD] at hd hJ ⊢;have he:g++p::r'=(g++[p])++r':=by simp
          rw[he] at hd hJ ⊢;obtain⟨hF,hH⟩:=qiz hd;refine SJ _ _ _ _ ?_;have rc:∀b,x=b->∀z,ay φ st.obj (aj X' φ st.obj w) w (st.env dj) z->ay φ st.obj (aj X' φ st.obj w) w (.lb b) z:=by intro b e z hz;rw[hb] at hz;subst e;exact vr hz
          have hI:ot (γ:=Bool) (δ:=Bool) lf C R rg ops.toList (some st.obj) n (fun x=>x) i (g++[p]) (bK st (some dj) (.lb x)) (fun w' bV=>zii _ w' (dO (bV.env pd)))=some yb:=by cases x<;>exact h1
          refine ih X' (Exit.then (wpList C.P ops Q r') Q) (fun x=>x) i (g++[p]) _ _ yb (fun X2 eZ st2 a2 w2=>X2=X'/\yX (g++[p]) φ st a w eZ st2 a2 w2) (some st.obj) hI hF ?_ ?_ X' φ a w (fun _ h=>h) (hR.eM (rc x rfl)) ⟨rfl,?_⟩
          ·refine⟨fun X2 eZ st2 a2 w2 φ' u v z w' q hq ⟨e,hG⟩ hx hc ho=>⟨e,hG.step hq hc ho⟩,fun X2 eZ st2 a2 w2 q hq ⟨e,hG⟩=>⟨e,hG.undef hq _ _⟩,fun X2 eZ st2 a2 w2 d v ⟨e,hG⟩=>⟨e,hG.eM d v⟩,fun e=>by cases e⟩
          ·intro bV hf X2 eZ a2 w2 _ hx ⟨e,hG⟩;subst e;have hK:dO (bV.env pd)=.d .bool yb:=by
            revert hf;generalize dO (bV.env pd)=q;intro hq;cases q<;>try (cases hq;done)
            rename_i t d;cases t<;>try (cases hq;done)
            injection hq with hq;rw[<-hq]
           exact ih X Q wr _ r' _ k y J none h2 hH (hJ.tail fun q hq=>List.mem_append_right _ hq) hk X2 φ a2 w2 hX (hG.forget hB hR hx hK)
            (hJ.forget rfl X2 φ st a w eZ bV a2 w2 (g++[p]) g (some pd,.d .bool yb) hj hG)
          ·exact⟨Nat.le_refl _,fun _ _=>rfl,fun _ _=>⟨rfl,rfl⟩,fun id h1 h2=>(by
            have:(bK st (some dj) (.lb x)).obj=st.obj:=xE _ _ _;rw[this,h1] at h2;cases h2),fun _ _=>rfl,⟨rfl,rfl⟩⟩
         ·cases h
        ·cases h
      ·cases h
     ·cases h
    ·cases h
end
inductive fk (nt:Nat):Code->AC->Prop where
 |skip:fk nt .skip .skip
 |label (l:Nat):fk nt (.label l) .skip
 |region (id:Nat) (ops:Array Oper) (d:Bool) (h:vO nt ops.toList=true):fk nt (.region id ops d) (.region id ops d)
 |seq {a b:Code} {a' b':AC} (ha:fk nt a a') (hb:fk nt b b'):fk nt (.seq a b) (.seq a' b')
 |cond {a b:Code} {a' b':AC} (c:Operand) (ts:List Nat) (ha:fk nt a a') (hb:fk nt b b'):fk nt (.cond c a b) (.cond c ts a' b')
 |block {b:Code} {b':AC} (id:Nat) (ts:List Nat) (hb:fk nt b b'):fk nt (.block id b) (.block id ts b')
 |loop {b:Code} {b':AC} (ts:List Nat) (hb:fk nt b b'):fk nt (.loop b) (.loop ts b')
 |exit (id:Nat):fk nt (.exit id) (.exit id)
 |goto (l:Nat):fk nt (.goto l) (.goto l)
 |ret:fk nt .ret .ret
 |scope {b:Code} {b':AC} (hb:fk nt b b'):fk nt (.scope b) (.scope b')
 |jump {b p r:Code} {p' r':AC} (l:Nat) (ts:List Nat) (h1:ahead l b=some p) (h2:findLabel b l=some r) (hp:fk nt p p') (hr:fk nt r r'):fk nt (.scope b) (.jump l ts p' r')
 |bad (c:Code):fk nt c .bad
def vU(P:Program):Code->(Exit->Act->World->Prop)->Act->World->Prop
 |.seq x y,Q=>vU P x (Exit.then (vU P y Q) Q)
 |.skip,Q=>Q .normal
 |.label _,Q=>Q .normal
 |c,Q=>c.wp P Q
def BB{P:Program}:∀{c:Code} {Q:Exit->Act->World->Prop} {a:Act} {w:World},vU P c Q a w->c.wp P Q a w:=by
 intro c
 induction c with
 |seq x y B9 Ca=>intro Q a w h;refine wp_seq (wp_mono (B9 h) fun e a w h=>?_);cases e<;>first|exact Ca h|exact h
 |skip=>intro Q a w h;exact wp_skip h
 |label l=>intro Q a w h;exact wp_label h
 |_=>intro Q a w h;exact h
def Mc{P:Program}:∀{c:Code} {Q Q':Exit->Act->World->Prop} {a:Act} {w:World},vU P c Q a w->(∀e a w,Q e a w->Q' e a w)->vU P c Q' a w:=by
 intro c
 induction c with
 |seq x y B9 Ca=>intro Q Q' a w h hq;refine B9 (Q:=Exit.then (vU P y Q) Q) h fun e a w h=>?_;cases e<;>first|exact Ca h hq|exact hq _ _ _ h
 |skip=>intro Q Q' a w h hq;exact hq _ _ _ h
 |label l=>intro Q Q' a w h hq;exact hq _ _ _ h
 |_=>intro Q Q' a w h hq;exact wp_mono h hq
def z73{P:Program}{l:Nat}:∀(c:Code) {p r:Code} {Q:Exit->Act->World->Prop} {a:Act} {w:World},ahead l c=some p->findLabel c l=some r->vU P p (Exit.then (vU P r Q) Q) a w->vU P c Q a w:=by
 have none:∀c,ahead l c=none->findLabel c l=none:=by
  intro c
  induction c with
  |seq x y B9 Ca=>
   intro h;simp only[ahead] at h;split at h
   ·cases h
   ·rename_i e;split at h
    ·cases h
    ·rename_i e2;simp only[findLabel,B9 e,Ca e2]
  |label j=>
   intro h;simp only[ahead] at h;have:¬j=l:=fun e=>by simp_all
   simp[findLabel,this]
  |_=>intro h;rfl
 have SK:∀c p,ahead l c=some p->∃r,findLabel c l=some r:=by
  intro c
  induction c with
  |seq x y B9 Ca=>
   intro p h;simp only[ahead] at h;split at h
   ·rename_i c' e;obtain⟨r,hr⟩:=B9 _ e;exact⟨.seq r y,by simp only[findLabel,hr]⟩
   ·rename_i e;split at h
    ·rename_i c' e2;obtain⟨r,hr⟩:=Ca _ e2;exact⟨r,by simp only[findLabel,none _ e,hr]⟩
    ·cases h
  |label j=>
   intro p h;simp only[ahead] at h;cases hb:Nat.beq j l with
   |true=>exact⟨.skip,by rw[zj hb];simp[findLabel]⟩
   |false=>rw[hb] at h;cases h
  |_=>intro p h;cases h
 intro c
 induction c with
 |seq x y B9 Ca=>
  intro p r Q a w h1 h2 h;simp only[ahead] at h1;split at h1
  ·rename_i c' e;injection h1 with h1;subst h1;obtain⟨rx,hc⟩:=SK _ _ e;simp only[findLabel,hc,zB] at h2;subst h2;refine B9 (Q:=Exit.then (vU P y Q) Q) e hc (Mc h fun e a w h=>?_);cases e<;>exact h
  ·rename_i e;split at h1
   ·rename_i c' e2;injection h1 with h1;subst h1;simp only[findLabel,none _ e] at h2;refine Mc (c:=x) h fun e a w h=>?_;cases e<;>first|exact Ca e2 h2 h|exact h
   ·cases h1
 |label j=>
  intro p r Q a w h1 h2 h;simp only[ahead] at h1;cases hb:Nat.beq j l with
  |true=>rw[hb] at h1;injection h1 with h1;have hb:=zj hb;simp only[findLabel,hb,beq_self_eq_true,if_true,zB] at h2;subst h1 h2;exact h
  |false=>rw[hb] at h1;cases h1
 |_=>intro p r Q a w h1;cases h1
def Ex.to:Ex->Exit
 |.normal=>.normal
 |.exit id=>.exit id
 |.goto l=>.goto l
 |.ret=>.ret
def FK{p:Nat->Prop}(h:∃n,p n):∃n,p n/\∀m,p m->n<=m:=by
 obtain⟨n,hn⟩:=h
 induction n using Nat.strongRecOn with
 |_ n ih=>grind
def SL{σ ρ:Type}{f:σ->Option (σ⊕ρ)}{s:σ}{r:ρ}(h:aD f s=some r):∃n,px f n s=some r:=by
 unfold aD at h;split at h
 all_goals grind
section
variable {C:Cx} {nt:Nat} {R:jU C.sigs} {eJ:Nat→Addr} {o0:Nat→Obj} {w0:World} {sk:List Nat}
abbrev HJ(sk:List Nat)(eJ:Nat->Addr)(o0:Nat->Obj)(w0:World):(Nat->Prop)->(Nat->Addr)->St->Act->World->Prop:=fun _ φ st _ w=>dC sk eJ o0 w0 φ st.obj w
def HJ.keeps(r:List Oper):pG C nt none r (HJ sk eJ o0 w0):=by
 refine⟨fun X φ st a w φ' u v z w' o ho h hR hc _=>?_,fun X φ st a w o ho h=>?_,fun X φ st a w d v h=>?_,fun _ X kW ss as ws φ st a w g js v h hG=>?_⟩
 ·show dC sk eJ o0 w0 φ' (bK {st with obj:=aq st.obj u} o.dst v).obj w';rw[xE];exact h.step hc
 ·show dC sk eJ o0 w0 φ (bK st o.dst .undef).obj w;rw[xE];exact h
 ·show dC sk eJ o0 w0 φ (bK st d v).obj w;rw[xE];exact h
 ·show dC sk eJ o0 w0 kW (bK (B1 ss js) v.1 v.2).obj w;rw[xE,qog];exact⟨Nat.le_trans h.size hG.size,fun b hb hn=>by rw[hG.same b (Nat.lt_of_lt_of_le hb h.size),h.frame b hb hn],h.news,⟨hG.still.1.trans h.still.1,hG.still.2.trans h.still.2⟩,fun id hi=>(h.up id hi).trans (Up.same fun _ n hr=>by refine Gn (hG.same _ ?_) hr;obtain⟨c,el,lo,he,h1,_⟩:=hr;exact(Array.getElem?_eq_some_iff.1 h1).1)⟩
def SM(C:Cx)(nt:Nat)(J:(Nat->Prop)->(Nat->Addr)->St->Act->World->Prop)(X:Nat->Prop){γ:Type}(k:(δ:Type)->(γ->δ)->Ex->St->Option δ)(Q:(γ->Prop)->Exit->Act->World->Prop):Prop:=∀(δ:Type) (w:γ->δ) (e:Ex) (st:St) (y:δ),k δ w e st=some y->Sound C nt X J st (Q (fun g=>w g=y) e.to)
def FL{γ:Type}(Q:(γ->Prop)->Exit->Act->World->Prop):Prop:=∀S S' e a w,(∀g,S g->S' g)->Q S e a w->Q S' e a w
def z74(C:Cx)(nt:Nat)(R:jU C.sigs)(J:(Nat->Prop)->(Nat->Addr)->St->Act->World->Prop):Prop:=
 ∀(rg:Nat) (ops:Array Oper) (n:Nat) {γ δ:Type} (X:Nat->Prop) (Q:Exit->Act->World->Prop) (wr:γ->δ) (st:St) (k:(γ->δ)->St->Option δ) (y:δ),
  vR lf C R rg ops.toList n wr 0 ops.toList st [] [] k=some y->vO nt ops.toList=true->(∀bV,k wr bV=some y->Sound C nt X J bV (Q .normal))->
  Sound C nt X J st ((Code.region rg ops true).wp C.P Q)
def Sound.weaken{J:(Nat->Prop)->(Nat->Addr)->St->Act->World->Prop}{X:Nat->Prop}{st:St}{P P':Act->World->Prop}(h:Sound C nt X J st P)(hp:∀a w,P a w->P' a w):Sound C nt X J st P':=fun X' φ a w h1 h2 h3=>hp _ _ (h X' φ a w h1 h2 h3)
def Cb(C:Cx)(nt:Nat)(sk:List Nat)(eJ:Nat->Addr)(o0:Nat->Obj)(w0:World)(X:Nat->Prop)(ts:List Nat)(s:Shape)(c:ai s.aS)(a:Act)(w:World):Prop:=∃X2 eZ,(∀b,X b->X2 b)/\Rel C nt X2 eZ (j0 sk ts s c) a w/\dC sk eJ o0 w0 eZ (j0 sk ts s c).obj w
def XA{δ:Type}{s:Shape}{w:ai s.aS->δ}{aT:List (Nat×Nat)}{o:Nat->Obj}{vs:List V}{y:δ}(h:ly lf sk s w aT o vs=some y):∃ps c,LJ lf sk aT o s vs=some (ps,c)/\w c=y:=by
 unfold ly at h
 grind
def JQ(C:Cx)(nt:Nat)(sk:List Nat)(eJ:Nat->Addr)(o0:Nat->Obj)(w0:World)(X:Nat->Prop)(ts:List Nat)(s:Shape){γ δ:Type}(wr:γ->δ)(Q:(γ->Prop)->Exit->Act->World->Prop):(ai s.aS⊕δ->Prop)->Exit->Act->World->Prop
 |S,.normal,a,w=>∃c,S (.inl c)/\Cb C nt sk eJ o0 w0 X ts s c a w
 |S,e,a,w=>Q (fun g=>S (.inr (wr g))) e a w
def JQ.mono{X:Nat->Prop}{ts:List Nat}{s:Shape}{γ δ:Type}{wr:γ->δ}{Q:(γ->Prop)->Exit->Act->World->Prop}(hQ:FL Q):FL (JQ C nt sk eJ o0 w0 X ts s wr Q):=by intro S S' e a w hs h;cases e<;>first|exact hQ _ _ _ _ _ (fun g hg=>hs _ hg) h|exact(let ⟨c,h1,h2⟩:=h;⟨c,hs _ h1,h2⟩)
def z0h{X:Nat->Prop}{ts:List Nat}{s:Shape}{γ δ:Type}{wr:γ->δ}{Q:(γ->Prop)->Exit->Act->World->Prop}(hQ:FL Q){y1:ai s.aS⊕δ}{y:δ}{k:(δ:Type)->(γ->δ)->Ex->St->Option δ}(hk:SM C nt (HJ sk eJ o0 w0) X k Q)(h:cH (fun c=>xA sk ts s c fun st=>k δ wr .normal st) y1=some y)(e:Exit)(a:Act)(w:World)(hj:JQ C nt sk eJ o0 w0 X ts s wr Q (fun g=>g=y1) e a w):Q (fun g=>wr g=y) e a w:=by
 cases y1 with
 |inl c=>
  have h:xA sk ts s c (fun st=>k δ wr .normal st)=some y:=h;rw[Xv] at h;cases e with
  |normal=>obtain⟨c',h1,X2,eZ,h2,h3,h4⟩:=hj;injection h1 with h1;subst h1;exact hk δ wr .normal _ y h X2 eZ a w h2 h3 h4
  |_=>exact hQ _ _ _ _ _ (fun g hg=>by cases hg) hj
 |inr d=>
  have h:some d=some y:=h;injection h with h;subst h;cases e with
  |normal=>obtain⟨c',h1,_⟩:=hj;cases h1
  |_=>exact hQ _ _ _ _ _ (fun g hg=>by injection hg) hj
def XB{X:Nat->Prop}{ts:List Nat}{s:Shape}{γ δ da:Type}{wr:γ->δ}{Q:(γ->Prop)->Exit->Act->World->Prop}{w':ai s.aS⊕δ->da}{bV:St}{y':da}(Cc:lC sk)(h:ly lf sk s (fun c=>w' (.inl c)) (vL 0 sk) bV.obj (ts.map fun t=>dO (bV.env t))=some y'):Sound C nt X (HJ sk eJ o0 w0) bV (JQ C nt sk eJ o0 w0 X ts s wr Q (fun g=>w' g=y') .normal):=by obtain⟨ps,c,h1,h2⟩:=XA h;intro X' φ a w hX hR hJ;obtain⟨eZ,X2,g1,g2,g3⟩:=SG Cc hR hJ h1;exact⟨c,h2,X2,eZ,fun b hb=>g1 b (hX b hb),g2,g3⟩
variable (hC:cV C) (hE:mw C) (HC:∀X φ o w,MRel C X φ o w→∀fr f,Gt C R X φ o w fr f) (HD:z74 C nt R (HJ sk eJ o0 w0)) (Cc:lC sk)
include hC hE HC HD Cc
open Classical in
def zbv{c:Code}{ac:AC}(hA:fk nt c ac):∀(X:Nat->Prop) (st:St) (γ δ:Type) (w:γ->δ) (k:(δ:Type)->(γ->δ)->Ex->St->Option δ) (Q:(γ->Prop)->Exit->Act->World->Prop) (y:δ),FL Q->SM C nt (HJ sk eJ o0 w0) X k Q->ev lf C R sk ac st γ δ w k=some y->Sound C nt X (HJ sk eJ o0 w0) st (vU C.P c (Q fun g=>w g=y)):=by
 induction hA with
 |skip=>intro X st γ δ w k Q y hQ hk h;exact hk δ w .normal st y h
 |label l=>intro X st γ δ w k Q y hQ hk h;exact hk δ w .normal st y h
 |region id ops d hd=>
  intro X st γ δ w k Q y hQ hk h;cases d with
  |true=>exact HD id ops _ X _ w st _ y h hd fun bV h'=>hk δ w .normal bV y h'
  |false=>refine(qy2 hC hE HC (ops:=ops) (rg:=id) _ X (Q fun g=>w g=y) w 0 ops.toList st _ y (HJ sk eJ o0 w0) none h hd (HJ.keeps _) fun bV h'=>hk δ w .normal bV y h').weaken fun a w h=>wp_region_list h
 |@seq ca cb a b ha hb qv lA=>
  intro X st γ δ w k Q y hQ hk h;refine qv X st γ δ w _ (fun S e a w=>Exit.then (vU C.P cb (Q S)) (Q S) e a w) y ?_ ?_ h
  ·intro S S' e a w hs h;cases e<;>first|exact hQ _ _ _ _ _ hs h|exact Mc h fun e a w h=>hQ _ _ _ _ _ hs h
  ·intro da w' e bV y' h';cases e with
   |normal=>exact lA X bV γ da w' k Q y' hQ hk h'
   |exit id=>exact hk da w' (.exit id) bV y' h'
   |goto l=>exact hk da w' (.goto l) bV y' h'
   |ret=>exact hk da w' .ret bV y' h'
 |@cond ca cb a b c ts ha hb qv lA=>
  intro X st γ δ w k Q y hQ hk h X' φ act wd hX hR hJ;unfold ev at h;split at h
  ·rename_i x hx;have hz:=hR.cG c;rw[hx] at hz;have hz:=vr hz;have plain:aP x (ev lf C R sk a st γ δ w k) (ev lf C R sk b st γ δ w k)=some y->(Code.cond c ca cb).wp C.P (Q fun g=>w g=y) act wd:=by
    intro h;cases x with
    |true=>exact wp_cond_true hz (BB (qv X st γ δ w k Q y hQ hk h X' φ act wd hX hR hJ))
    |false=>exact wp_cond_false hz (BB (lA X st γ δ w k Q y hQ hk h X' φ act wd hX hR hJ))
   cases hf:(xz a&&xz b) with
   |false=>rw[hf] at h;exact plain h
   |true=>
    rw[hf,cond_true,Xu] at h;generalize QG C sk st ts (qq a++qq b)=s at h;have both:∀(k':(da:Type)->(ai s.aS⊕δ->da)->Ex->St->Option da) (y1:ai s.aS⊕δ),SM C nt (HJ sk eJ o0 w0) X k' (JQ C nt sk eJ o0 w0 X ts s w Q)->
      aP x (ev lf C R sk a st (ai s.aS⊕δ) (ai s.aS⊕δ) (fun x=>x) k') (ev lf C R sk b st (ai s.aS⊕δ) (ai s.aS⊕δ) (fun x=>x) k')=some y1->
      (Code.cond c ca cb).wp C.P (JQ C nt sk eJ o0 w0 X ts s w Q fun g=>g=y1) act wd:=by
     intro k' y1 hy h;cases x with
     |true=>exact wp_cond_true hz (BB (qv X st _ _ (fun x=>x) k' _ y1 (JQ.mono hQ) hy h X' φ act wd hX hR hJ))
     |false=>exact wp_cond_false hz (BB (lA X st _ _ (fun x=>x) k' _ y1 (JQ.mono hQ) hy h X' φ act wd hX hR hJ))
    cases hl:(yM a||yM b) with
    |true=>
     rw[hl,cond_true] at h;obtain⟨y1,h1,h2⟩:=FG h;refine wp_mono (both _ y1 ?_ h1) fun e a w hj=>z0h hQ hk h2 e a w hj;intro da w' e bV y' h';cases e with
     |normal=>exact XB Cc h'
     |exit id=>exact hk da (fun g=>w' (.inr (w g))) (.exit id) bV y' h'
     |goto l=>exact hk da (fun g=>w' (.inr (w g))) (.goto l) bV y' h'
     |ret=>exact hk da (fun g=>w' (.inr (w g))) .ret bV y' h'
    |false=>
     rw[hl,cond_false] at h;obtain⟨y1,h1,h2⟩:=FG h
     have only:∀(cx:Code) (ax:AC),(∀(X:Nat->Prop) (st:St) (γ δ:Type) (w:γ->δ) (k:(δ:Type)->(γ->δ)->Ex->St->Option δ) (Q:(γ->Prop)->Exit->Act->World->Prop) (y:δ),
       FL Q->SM C nt (HJ sk eJ o0 w0) X k Q->ev lf C R sk ax st γ δ w k=some y->Sound C nt X (HJ sk eJ o0 w0) st (vU C.P cx (Q fun g=>w g=y)))->
       ev lf C R sk ax st (ai s.aS) (ai s.aS) (fun x=>x) (fun _ w' e bV=>match e with
        |.normal=>ly lf sk s w' (vL 0 sk) bV.obj (ts.map fun t=>dO (bV.env t))
        |_=>none)=some y1->cx.wp C.P (Q fun g=>w g=y) act wd:=by
      intro cx ax ih h;have:=ih X st _ _ (fun x=>x) _ (fun S e a w=>match e with|.normal=>∃c,S c/\Cb C nt sk eJ o0 w0 X ts s c a w|_=>False) y1 ?_ ?_ h X' φ act wd hX hR hJ
      ·refine wp_mono (BB this) fun e a2 w2 hj=>?_;cases e with
       |normal=>obtain⟨c',hc,X2,eZ,g1,g2,g3⟩:=hj;subst hc;have h2:xA sk ts s c' (fun st=>k δ w .normal st)=some y:=h2;rw[Xv] at h2;exact hk δ _ .normal _ y h2 X2 eZ a2 w2 g1 g2 g3
       |_=>exact hj.elim
      ·intro S S' e a w hs h;cases e<;>first|exact h.elim|exact(let ⟨c,h1,h2⟩:=h;⟨c,hs _ h1,h2⟩)
      ·intro da w' e bV y' h';cases e with
       |normal=>obtain⟨ps,cc,e1,e2⟩:=XA h';intro X' φ a w hX hR hJ;obtain⟨eZ,X2,g1,g2,g3⟩:=SG Cc hR hJ e1;exact⟨cc,e2,X2,eZ,fun b hb=>g1 b (hX b hb),g2,g3⟩
       |_=>cases h'
     cases x with
     |true=>exact wp_cond_true hz (only ca a qv h1)
     |false=>exact wp_cond_false hz (only cb b lA h1)
  ·cases h
 |@block cb b id ts hb ih=>
  intro X st γ δ w k Q y hQ hk h;have KG:∀{γ:Type} {Q:(γ->Prop)->Exit->Act->World->Prop},FL Q->FL (fun S=>Exit.inBlock id (Q S)):=by
   intro γ Q hQ S S' e a w hs h;cases e with
   |exit j=>
    show(if j=id then Q S' .normal a w else Q S' (.exit j) a w);have h:(if j=id then Q S .normal a w else Q S (.exit j) a w):=h;split
    ·rename_i e;rw[if_pos e] at h;exact hQ _ _ _ _ _ hs h
    ·rename_i e;rw[if_neg e] at h;exact hQ _ _ _ _ _ hs h
   |_=>exact hQ _ _ _ _ _ hs h
  unfold ev at h;cases hw:Nat.ble 2 (ways id b+(bif xz b then 1 else 0)) with
  |true=>
   rw[hw,cond_true,Xu] at h;generalize QG C sk st ts (qq b)=s at h;obtain⟨y1,h1,h2⟩:=FG h;refine(ih X st _ _ (fun x=>x) _ (fun S=>Exit.inBlock id (JQ C nt sk eJ o0 w0 X ts s w Q S)) y1 (KG (JQ.mono hQ)) ?_ h1).weaken fun a wd hb=>wp_mono (wp_block (BB hb)) fun e a wd hj=>z0h hQ hk h2 e a wd hj;intro da w' e bV y' h';cases e with
   |normal=>exact XB (wr:=w) (Q:=Q) Cc h'
   |exit j=>
    show Sound C nt X _ bV (fun a wd=>if j=id then JQ C nt sk eJ o0 w0 X ts s w Q (fun g=>w' g=y') .normal a wd else JQ C nt sk eJ o0 w0 X ts s w Q (fun g=>w' g=y') (.exit j) a wd);simp only at h';cases hj:Nat.beq j id with
    |true=>rw[hj,cond_true] at h';have:=zj hj;simp only[this,if_true];exact XB (wr:=w) (Q:=Q) Cc h'
    |false=>
     rw[hj,cond_false] at h';have:¬j=id:=fun e=>by rw[e,Nat.beq_refl] at hj;cases hj
     simp only[this,if_false];exact hk da (fun g=>w' (.inr (w g))) (.exit j) bV y' h'
   |goto l=>exact hk da (fun g=>w' (.inr (w g))) (.goto l) bV y' h'
   |ret=>exact hk da (fun g=>w' (.inr (w g))) .ret bV y' h'
  |false=>
   rw[hw,cond_false] at h;refine(ih X st γ δ w _ (fun S=>Exit.inBlock id (Q S)) y (KG hQ) ?_ h).weaken fun a wd hb=>wp_block (BB hb);intro da w' e bV y' h';cases e with
   |normal=>exact hk da w' .normal bV y' h'
   |exit j=>
    show Sound C nt X _ bV (fun a wd=>if j=id then Q (fun g=>w' g=y') .normal a wd else Q (fun g=>w' g=y') (.exit j) a wd);simp only at h';cases hj:Nat.beq j id with
    |true=>rw[hj,cond_true] at h';have:=zj hj;simp only[this,if_true];exact hk da w' .normal bV y' h'
    |false=>
     rw[hj,cond_false] at h';have:¬j=id:=fun e=>by rw[e,Nat.beq_refl] at hj;cases hj
     simp only[this,if_false];exact hk da w' (.exit j) bV y' h'
   |goto l=>exact hk da w' (.goto l) bV y' h'
   |ret=>exact hk da w' .ret bV y' h'
 |@loop cb b ts hb ih=>
  intro X st γ δ w k Q y hQ hk h X' φ act wd hX hR hJ;unfold ev at h;rw[Xu] at h;generalize QG C sk st ts (qq b)=s at h;split at h
  ·rename_i p hp;obtain⟨n0,ho⟩:=SL h;generalize hn:(fun c=>xA sk ts s c fun st=>ev lf C R sk b st (ai s.aS⊕δ) (ai s.aS⊕δ) (fun x=>x) fun da w' e bV=>match e with
     |.normal=>ly lf sk s (fun c=>w' (.inl c)) (vL 0 sk) bV.obj (ts.map fun t=>dO (bV.env t))
     |e=>k da (fun g=>w' (.inr (w g))) e bV)=body at ho
   obtain⟨eZ,X2,g1,g2,g3⟩:=SG Cc hR hJ hp;let Pn:Act->World->Nat->Prop:=fun a wd n=>∃cc,px body n cc=some y/\Cb C nt sk eJ o0 w0 X ts s cc a wd;let I:Act->World->Prop:=fun a wd=>∃n,Pn a wd n;refine wp_loop I (fun a wd=>if h:I a wd then Classical.choose (FK h) else 0) ⟨n0,p.2,ho,X2,eZ,fun b hb=>g1 b (hX b hb),g2,g3⟩ ?_;intro a wd hI;have hl:=Classical.choose_spec (FK hI);simp only[dif_pos hI];generalize Classical.choose (FK hI)=n at hl;obtain⟨⟨cc,c1,X3,φ3,c2,c3,c4⟩,ht⟩:=hl;cases n with
   |zero=>cases c1
   |succ m=>
    simp only[px] at c1;have run:∀y1,body cc=some y1->cb.wp C.P (JQ C nt sk eJ o0 w0 X ts s w Q fun g=>g=y1) a wd:=by
     intro y1 he;rw[<-hn] at he;have he:xA sk ts s cc _=some y1:=he;rw[Xv] at he;refine BB (ih X (j0 sk ts s cc) _ _ (fun x=>x) _ (JQ C nt sk eJ o0 w0 X ts s w Q) y1 (JQ.mono hQ) ?_ he X3 φ3 a wd c2 c3 c4);intro da w' e bV y' h';cases e with
     |normal=>exact XB Cc h'
     |exit id=>exact hk da (fun g=>w' (.inr (w g))) (.exit id) bV y' h'
     |goto l=>exact hk da (fun g=>w' (.inr (w g))) (.goto l) bV y' h'
     |ret=>exact hk da (fun g=>w' (.inr (w g))) .ret bV y' h'
    split at c1
    ·rename_i s' hu;refine wp_mono (run _ hu) fun e a2 w2 hj=>?_;cases e with
     |normal=>obtain⟨c',e1,e2⟩:=hj;injection e1 with e1;subst e1;have hm:I a2 w2:=⟨m,c',c1,e2⟩;refine⟨hm,?_⟩;rw[dif_pos hm];have:=(Classical.choose_spec (FK hm)).2 m ⟨c',c1,e2⟩;omega
     |_=>exact hQ _ _ _ _ _ (fun g hg=>by cases hg) hj
    ·rename_i r hr;injection c1 with c1;subst c1;refine wp_mono (run _ hr) fun e a2 w2 hj=>?_;cases e with
     |normal=>obtain⟨c',e1,_⟩:=hj;cases e1
     |_=>exact hQ _ _ _ _ _ (fun g hg=>by injection hg) hj
    ·cases c1
  ·cases h
 |exit id=>intro X st γ δ w k Q y hQ hk h;exact(hk δ w (.exit id) st y h).weaken fun a w h=>wp_exit h
 |goto l=>intro X st γ δ w k Q y hQ hk h;exact(hk δ w (.goto l) st y h).weaken fun a w h=>wp_goto h
 |ret=>intro X st γ δ w k Q y hQ hk h;exact(hk δ w .ret st y h).weaken fun a w h=>wp_ret h
 |@scope cb b hb ih=>
  intro X st γ δ w k Q y hQ hk h;refine(ih X st γ δ w _ (fun S=>Exit.noGoto (Q S)) y ?_ ?_ h).weaken fun a wd hb=>wp_scope_straight (BB hb)
  ·intro S S' e a w hs h;cases e<;>first|exact hQ _ _ _ _ _ hs h|exact h
  ·intro da w' e bV y' h';cases e with
   |normal=>exact hk da w' .normal bV y' h'
   |exit id=>exact hk da w' (.exit id) bV y' h'
   |goto l=>cases h'
   |ret=>exact hk da w' .ret bV y' h'
 |@jump cb cp cr p r l ts h1 h2 hp hr ihp ihr=>
  intro X st γ δ w k Q y hQ hk h;let body:(s:Shape)->(da:Type)->(γ->da)->ai s.aS->Option (ai s.aS⊕da):=fun s δ w c=>xA sk ts s c fun st=>ev lf C R sk r st (ai s.aS⊕δ) (ai s.aS⊕δ) (fun x=>x) fun da w' e bV=>match e with
     |.goto l'=>bif Nat.beq l' l then ly lf sk s (fun c=>w' (.inl c)) (vL 0 sk) bV.obj (ts.map fun t=>dO (bV.env t)) else none
     |e=>k da (fun g=>w' (.inr (w g))) e bV
  let JJ:(γ->Prop)->Nat->Act->World->Prop:=fun S n a wd=>∃(s:Shape) (da:Type) (w':γ->da) (y':da),(∀g,w' g=y'->S g)/\∃cc,px (body s da w') n cc=some y'/\Cb C nt sk eJ o0 w0 X ts s cc a wd;let J:(γ->Prop)->Act->World->Prop:=fun S a wd=>∃n,JJ S n a wd;let Q':(γ->Prop)->Exit->Act->World->Prop:=fun S e a wd=>match e with
   |.normal=>J S a wd
   |.goto _=>False
   |e=>Q S e a wd
  have mJ:∀S S' a wd,(∀g,S g->S' g)->J S a wd->J S' a wd:=fun S S' a wd hs ⟨n,s,da,w',y',h1,h2⟩=>⟨n,s,da,w',y',fun g hg=>hs g (h1 g hg),h2⟩;have mQ:FL Q':=by intro S S' e a w hs h;cases e<;>first|exact hQ _ _ _ _ _ hs h|exact mJ _ _ _ _ hs h|exact h.elim
  have hv:=ihp X st γ δ w _ Q' y mQ (fun da w' e bV y' h'=>by
   cases e with
   |normal=>
    simp only at h';rw[Xu] at h';generalize QG C sk bV ts (qq r)=s at h';split at h'
    ·rename_i p hp;obtain⟨n0,ho⟩:=SL h';intro X' φ a wd hX hR hJ;obtain⟨eZ,X2,g1,g2,g3⟩:=SG Cc hR hJ hp;exact⟨n0,s,da,w',y',fun _ h=>h,p.2,ho,X2,eZ,fun b hb=>g1 b (hX b hb),g2,g3⟩
    ·cases h'
   |exit id=>exact hk da w' (.exit id) bV y' h'
   |goto l=>cases h'
   |ret=>exact hk da w' .ret bV y' h') h
  intro X' φ act wd hX hR hJ;replace hv:=hv X' φ act wd hX hR hJ;let μ:Act->World->Nat:=fun a wd=>if h:J (fun g=>w g=y) a wd then Classical.choose (FK h) else 0
  have pass:∀a wd,J (fun g=>w g=y) a wd->vU C.P cr (Exit.jump l (fun a' w'=>J (fun g=>w g=y) a' w'/\μ a' w'<μ a wd) (Q fun g=>w g=y)) a wd:=by
   intro a wd hI;have hl:=Classical.choose_spec (FK hI);have hμ:μ a wd=Classical.choose (FK hI):=dif_pos hI;rw[hμ];generalize Classical.choose (FK hI)=n at hl;obtain⟨⟨s,da,w',y',hS,cc,c1,X3,φ3,c2,c3,c4⟩,ht⟩:=hl;cases n with
   |zero=>cases c1
   |succ m=>
    simp only[px] at c1;let Q2:(ai s.aS⊕da->Prop)->Exit->Act->World->Prop:=fun T e a wd=>match e with
     |.goto l'=>l'=l/\∃c,T (.inl c)/\Cb C nt sk eJ o0 w0 X ts s c a wd
     |e=>Q (fun g=>T (.inr (w' g))) e a wd
    have mQ2:FL Q2:=by intro S S' e a w hs h;cases e<;>first|exact hQ _ _ _ _ _ (fun g hg=>hs _ hg) h|exact(let ⟨c0,c,h1,h2⟩:=h;⟨c0,c,hs _ h1,h2⟩)
    have run:∀y1,body s da w' cc=some y1->vU C.P cr (Q2 fun g=>g=y1) a wd:=by
     intro y1 he;have he:xA sk ts s cc _=some y1:=he;rw[Xv] at he;refine ihr X (j0 sk ts s cc) _ _ (fun x=>x) _ Q2 y1 mQ2 ?_ he X3 φ3 a wd c2 c3 c4;intro δ2 w2 e bV y2 h';cases e with
     |normal=>exact hk δ2 (fun g=>w2 (.inr (w' g))) .normal bV y2 h'
     |exit id=>exact hk δ2 (fun g=>w2 (.inr (w' g))) (.exit id) bV y2 h'
     |goto l'=>
      simp only at h';cases hb:Nat.beq l' l with
      |false=>rw[hb] at h';cases h'
      |true=>rw[hb,cond_true] at h';obtain⟨ps,c,e1,e2⟩:=XA h';intro X' φ a w hX hR hJ;obtain⟨eZ,X2,g1,g2,g3⟩:=SG Cc hR hJ e1;exact⟨zj hb,c,e2,X2,eZ,fun b hb=>g1 b (hX b hb),g2,g3⟩
     |ret=>exact hk δ2 (fun g=>w2 (.inr (w' g))) .ret bV y2 h'
    split at c1
    ·rename_i s' hu;refine Mc (run _ hu) fun e a2 w2 hj=>?_;cases e with
     |goto l'=>obtain⟨e0,c',e1,e2⟩:=hj;injection e1 with e1;subst e1;have hB:JJ (fun g=>w g=y) m a2 w2:=⟨s,da,w',y',hS,c',c1,e2⟩;have hm:J (fun g=>w g=y) a2 w2:=⟨m,hB⟩;refine⟨e0,hm,?_⟩;have aag:μ a2 w2=Classical.choose (FK hm):=dif_pos hm;rw[aag];have:=(Classical.choose_spec (FK hm)).2 m hB;omega
     |_=>exact hQ _ _ _ _ _ (fun g hg=>by cases hg) hj
    ·rename_i r0 hD;injection c1 with c1;subst c1;refine Mc (run _ hD) fun e a2 w2 hj=>?_;cases e with
     |goto l'=>obtain⟨_,c',e1,_⟩:=hj;cases e1
     |_=>exact hQ _ _ _ _ _ (fun g hg=>hS g (by injection hg)) hj
    ·cases c1
  refine wp_scope_jumps l (J fun g=>w g=y) μ h2 (BB (z73 cb h1 h2 (Mc hv fun e a wd hq=>?_))) fun a wd hI=>BB (pass a wd hI);cases e with
  |normal=>
   refine Mc (pass a wd hq) fun e a2 w2 hj=>?_;cases e with
   |goto l'=>exact⟨hj.1,hj.2.1⟩
   |_=>exact hj
  |goto l'=>exact hq.elim
  |_=>exact hq
 |bad c=>intro X st γ δ w k Q y hQ hk h;cases h
end
def Q1{β:Type}(m:Nat):∀(n:Nat) (acc:List Nat) (k:List Nat->β),∃ts,yL m n acc k=k ts
 |0,acc,k=>⟨acc,rfl⟩
 |n+1,acc,k=>by
  show ∃ts,(bif Nat.testBit m n then yL m n (n::acc) k else yL m n acc k)=k ts;cases Nat.testBit m n
  ·exact Q1 m n acc k
  ·exact Q1 m n (n::acc) k
def z75{γ:Type}{rt nt:Nat}:∀(n:Nat) (c:Code) (ex gt:List (Nat×Nat)) (m:Nat) (k:Nat->AC->Option γ) (y:γ),mR rt nt n c ex gt m k=some y->∃m' ac,fk nt c ac/\k m' ac=some y:=by
 intro n
 induction n with
 |zero=>intro c ex gt m k y h;exact⟨m,.bad,.bad c,h⟩
 |succ n ih=>
  intro c ex gt m k y h;cases c with
  |skip=>exact⟨m,.skip,.skip,h⟩
  |label l=>exact⟨m,.skip,.label l,h⟩
  |region id ops d=>
   have h:(bif vO nt ops.toList then ml (qxj ops.toList m) fun m'=>k m' (.region id ops d) else k m .bad)=some y:=h;cases hd:vO nt ops.toList with
   |true=>rw[hd,cond_true,si] at h;exact⟨_,_,.region id ops d hd,h⟩
   |false=>rw[hd,cond_false] at h;exact⟨_,_,.bad _,h⟩
  |seq a b=>have h:(mR rt nt n b ex gt m fun mb b'=>mR rt nt n a ex gt mb fun ma a'=>k ma (.seq a' b'))=some y:=h;obtain⟨mb,b',h1,h2⟩:=ih _ _ _ _ _ _ h;obtain⟨ma,a',h3,h4⟩:=ih _ _ _ _ _ _ h2;exact⟨ma,_,.seq h3 h1,h4⟩
  |cond c a b=>have h:(mR rt nt n a ex gt m fun ma a'=>mR rt nt n b ex gt m fun mb b'=>ml (WQ c|||ma|||mb) fun m'=>yL m nt [] fun ts=>k m' (.cond c ts a' b'))=some y:=h;obtain⟨ma,a',h1,h2⟩:=ih _ _ _ _ _ _ h;obtain⟨mb,b',h3,h4⟩:=ih _ _ _ _ _ _ h2;rw[si] at h4;obtain⟨ts,e⟩:=Q1 m nt [] (fun ts=>k (WQ c|||ma|||mb) (.cond c ts a' b'));rw[e] at h4;exact⟨_,_,.cond c ts h1 h3,h4⟩
  |block id b=>have h:(mR rt nt n b ((id,m)::ex) gt m fun mb b'=>yL m nt [] fun ts=>k mb (.block id ts b'))=some y:=h;obtain⟨mb,b',h1,h2⟩:=ih _ _ _ _ _ _ h;obtain⟨ts,e⟩:=Q1 m nt [] (fun ts=>k mb (.block id ts b'));rw[e] at h2;exact⟨_,_,.block id ts h1,h2⟩
  |loop b=>have h:(mR rt nt n b ex gt 0 fun m1 _=>mR rt nt n b ex gt m1 fun m2 b'=>yL m2 nt [] fun ts=>k m2 (.loop ts b'))=some y:=h;obtain⟨m1,_,_,h2⟩:=ih _ _ _ _ _ _ h;obtain⟨m2,b',h3,h4⟩:=ih _ _ _ _ _ _ h2;obtain⟨ts,e⟩:=Q1 m2 nt [] (fun ts=>k m2 (.loop ts b'));rw[e] at h4;exact⟨_,_,.loop ts h3,h4⟩
  |exit id=>exact⟨_,_,.exit id,h⟩
  |goto l=>exact⟨_,_,.goto l,h⟩
  |ret=>exact⟨_,_,.ret,h⟩
  |scope b=>
   have h:(match WR b b with
    |none=>mR rt nt n b ex gt m fun mb b'=>k mb (.scope b')
    |some l=>match ahead l b,findLabel b l with
     |some p,some r=>mR rt nt n r ex ((l,0)::gt) m fun m1 _=>mR rt nt n r ex ((l,m1)::gt) m fun m2 r'=>mR rt nt n p ex gt m2 fun mp p'=>yL m2 nt [] fun ts=>k mp (.jump l ts p' r')
     |_,_=>k m .bad)=some y:=h
   split at h
   ·obtain⟨mb,b',h1,h2⟩:=ih _ _ _ _ _ _ h;exact⟨_,_,.scope h1,h2⟩
   ·rename_i l _;split at h
    ·rename_i p r ep er;obtain⟨m1,_,_,h2⟩:=ih _ _ _ _ _ _ h;obtain⟨m2,r',h3,h4⟩:=ih _ _ _ _ _ _ h2;obtain⟨mp,p',h5,h6⟩:=ih _ _ _ _ _ _ h4;obtain⟨ts,e⟩:=Q1 m2 nt [] (fun ts=>k mp (.jump l ts p' r'));rw[e] at h6;exact⟨_,_,.jump l ts ep er h5 h3,h6⟩
    ·exact⟨_,_,.bad _,h⟩
  |_=>exact⟨m,.bad,.bad _,h⟩
def qoi:∀(vs:List V) (i:Nat) (env:Nat->V) (t:Nat),(∀j,t=i+j->∀v,vs[j]?=some v->Gk env i vs t=v)/\((t<i\/i+vs.length<=t)->Gk env i vs t=env t)
 |[],i,env,t=>⟨fun j _ v h=>by simp at h,fun _=>rfl⟩
 |x::r,i,env,t=>by
  obtain⟨h1,h2⟩:=qoi r (i+1) (cy env i x) t;refine⟨fun j hj v hv=>?_,fun hj=>?_⟩
  ·show Gk (cy env i x) (i+1) r t=v;cases j with
   |zero=>rw[h2 (.inl om),hj,Nat.add_zero,eQ];simpa using hv
   |succ j=>exact h1 j om v (by simpa using hv)
  ·show Gk (cy env i x) (i+1) r t=env t;simp only[zu] at hj;rw[h2 om,jI om]
section
variable {C:Cx} {R:jU C.sigs}
def Cd(l:List Value):Value:=match l with
 |[v]=>v
 |l=>.tuple l.toArray
def zga(hC:cV C){nt:Nat}{X:Nat->Prop}{φ:Nat->Addr}{st:St}{a:Act}{w:World}(h:Rel C nt X φ st a w):∀(rs:List ResultVar) (vs:List V),yO lf C st rs=some vs->∃zs,ck φ st.obj (aj X φ st.obj w) w vs zs/\(rs.mapM fun(r:ResultVar)=>(match r with
   |.tmp t=>(pure (a.tmps.getD t undef):Sem Value)
   |.cell q t=>do loadVar t (<-asAddr (a.tmps.getD q undef)))).run C.P w=.ok zs w:=by
 intro rs
 induction rs with
 |nil=>intro vs h1;injection h1 with h1;subst h1;exact⟨[],rfl,by simp⟩
 |cons r rs ih=>
  intro vs h1;cases r with
  |tmp t=>
   simp only[yO] at h1;split at h1
   ·rename_i l h2;injection h1 with h1;subst h1;obtain⟨zs,h3,h4⟩:=ih _ h2;exact⟨a.tmps.getD t undef::zs,⟨_,_,rfl,R9 (h.env t),h3⟩,by simp only[List.mapM_cons,Sem.run_bind,Sem.run_pure,Result.andThen_ok,h4]⟩
   ·cases h1
  |cell q t=>
   simp only[yO] at h1;split at h1
   ·rename_i v u hv;split at h1
    ·rename_i l h2;injection h1 with h1;subst h1;obtain⟨zs,h3,h4⟩:=ih _ h2;obtain⟨_,z,h5,h6⟩:=qud (v:=v) (u:=u) hC h.toMRel (h.env q) (by rw[hv];exact⟨rfl,rfl⟩);refine⟨z::zs,⟨_,_,rfl,h6,h3⟩,?_⟩;have hl:(asAddr (a.tmps.getD q undef)>>=fun ad=>loadVar t ad).run C.P w=.ok z w:=by
      unfold Instr.loadAt at h5;generalize a.tmps.getD q undef=zq at h5 ⊢;cases zq with
      |pointer p=>cases p with
       |none=>exact absurd h5 (by simp[Instr.sureAddr,stuck])
       |some ad=>simpa[Instr.sureAddr,asAddr] using h5
      |_=>exact absurd h5 (by simp[Instr.sureAddr,stuck])
     rw[Sem.run_bind] at hl;simp only[List.mapM_cons,Sem.run_bind,Sem.run_pure]
     simp_all
    ·cases h1
   ·cases h1
def SO(C:Cx)(i:Nat)(x:ai (aQ C.sigs i).ins.aS)(y:ai (aQ C.sigs i).outs.aS)(X:Nat->Prop)(φ:Nat->Addr)(w:World)(e:Ending)(w':World):Prop:=
 ∃dS φ' X',e=.returned (Cd dS)/\(∀b,X b->X' b)/\MRel C X' φ' (ba (aQ C.sigs i).outs y) w'/\
  ck φ' (ba (aQ C.sigs i).outs y) (aj X' φ' (ba (aQ C.sigs i).outs y) w') w' (fill cJ cd (aQ C.sigs i).outs y).1 dS/\
  dC (aQ C.sigs i).bN φ (ba (aQ C.sigs i).ins x) w φ' (ba (aQ C.sigs i).outs y) w'
def qw(C:Cx)(i:Nat)(x:ai (aQ C.sigs i).ins.aS)(y:ai (aQ C.sigs i).outs.aS):Prop:=
 ∀X φ w zs,MRel C X φ (ba (aQ C.sigs i).ins x) w->ck φ (ba (aQ C.sigs i).ins x) (aj X φ (ba (aQ C.sigs i).ins x) w) w (fill cJ cd (aQ C.sigs i).ins x).1 zs->
  (∃fn,C.P.funcs[(aQ C.sigs i).f]?=some fn/\fn.body.isNone=false)/\Calls C.P (aQ C.sigs i).f zs.toArray w (SO C i x y X φ w)
def qv3(hC:cV C)(hE:mw C)(HC:∀X φ o w,MRel C X φ o w->∀fr f,Gt C R X φ o w fr f)(HD:∀nt sk eJ o0 w0,z74 C nt R (HJ sk eJ o0 w0)){i:Nat}{x:ai (aQ C.sigs i).ins.aS}{y:ai (aQ C.sigs i).outs.aS}(h:QJ lf C R i x=some y):qw C i x y:=by
 intro X φ w zs hm hz;unfold QJ at h;simp only at h;split at h
 ·cases h
 ·rename_i fn hc;rw[zJ] at hc;split at h
  ·cases h
  ·rename_i b hb;refine⟨⟨fn,hc,by rw[hb];rfl⟩,?_⟩;cases hn:(Qw (aQ C.sigs i).ins.aw.length (aQ C.sigs i).bN&&Nat.ble (fill id (fun _=>0) (aQ C.sigs i).ins x).1.length fn.ntmps) with
   |false=>rw[hn] at h;cases h
   |true=>
    rw[hn,cond_true] at h;rw[ze] at hn;obtain⟨ho,hn⟩:=hn;obtain⟨m',ac,hA,hu⟩:=z75 _ _ _ _ _ _ _ h;have hv:=KC hz;have hn:(fill cJ cd (aQ C.sigs i).ins x).1.length<=fn.ntmps:=zD hn;have hD:zs.length<=fn.ntmps:=om
    refine calls_of_wp hc hb ?_;let PR:ai (aQ C.sigs i).outs.aS->Act->World->Prop:=fun yy a wd=>a.defers=[]/\∃v,(results fn a.tmps).run C.P wd=.ok v wd/\SO C i x yy X φ w (.returned v) wd;have hk:SM C fn.ntmps (HJ (aQ C.sigs i).bN φ (ba (aQ C.sigs i).ins x) w) X (fun _ w e st=>match e with
     |.normal=>QI lf C (aQ C.sigs i).bN (aQ C.sigs i).outs w st fn.results.toList
     |.ret=>QI lf C (aQ C.sigs i).bN (aQ C.sigs i).outs w st fn.results.toList
     |_=>none) (fun S e a wd=>match e with|.normal=>∃yy,S yy/\PR yy a wd|.ret=>∃yy,S yy/\PR yy a wd|_=>False):=by
     have fin:∀(δ:Type) (wr:ai (aQ C.sigs i).outs.aS->δ) (st:St) (y':δ),QI lf C (aQ C.sigs i).bN (aQ C.sigs i).outs wr st fn.results.toList=some y'->
       Sound C fn.ntmps X (HJ (aQ C.sigs i).bN φ (ba (aQ C.sigs i).ins x) w) st (fun a wd=>∃yy,wr yy=y'/\PR yy a wd):=by
      intro δ wr st y' hg X' eZ a wd hX hR hJ;unfold QI at hg;split at hg
      ·rename_i vs hx;obtain⟨ps,cc,hp,hw⟩:=XA hg;obtain⟨hp,hy,he⟩:=qqu hp;obtain⟨dS,r1,r2⟩:=zga hC hR _ _ hx;obtain⟨q1,q2⟩:=qy0 hR.toMRel hp r1;obtain⟨hl,_⟩:=SF hp;refine⟨cc,hw,hR.defers,Cd dS,?_,dS,_,_,rfl,fun b hb=>.inl (hX b hb),q1,q2,⟨hJ.size,hJ.frame,fun b hb=>hJ.news b (hl.nk hb),hJ.still,fun id hi=>(hJ.up id hi).trans (z6x hl (z0d hp _ (qod hi)) (qoe hy id hi) (qla he id hi))⟩⟩;have key:∀(q:Sem (List Value)),q.run C.P wd=.ok dS wd->((Functor.map List.toArray q)>>=fun vs=>(pure (if h:vs.size=1 then vs[0] else Value.tuple vs):Sem Value)).run C.P wd=.ok (Cd dS) wd:=by
        intro q hq;rw[Sem.run_bind,Sem.run_map,hq]
        match dS with
        |[]=>rfl
        |[v]=>rfl
        |a::b::r=>rfl
       unfold results;rw[Array.mapM_eq_mapM_toList];exact key _ r2
      ·cases hg
     intro δ wr e st y' hg;cases e with
     |normal=>exact fin δ wr st y' hg
     |ret=>exact fin δ wr st y' hg
     |exit id=>cases hg
     |goto l=>cases hg
    have hQ:FL (fun(S:ai (aQ C.sigs i).outs.aS->Prop) e a wd=>match e with|.normal=>∃yy,S yy/\PR yy a wd|.ret=>∃yy,S yy/\PR yy a wd|_=>False):=by intro S S' e a wd hs h;cases e<;>first|exact h.elim|exact(let ⟨c,h1,h2⟩:=h;⟨c,hs _ h1,h2⟩)
    have hB:Rel C fn.ntmps X φ ⟨Gk (fun _=>.undef) 0 (fill cJ cd (aQ C.sigs i).ins x).1,ba (aQ C.sigs i).ins x⟩
      {tmps:=zs.toArray++Array.replicate (fn.ntmps-zs.toArray.size) undef,defers:=[]} w:=by
     refine⟨hm,by simp;omega,fun t=>?_,rfl⟩;obtain⟨g1,g2⟩:=qoi (fill cJ cd (aQ C.sigs i).ins x).1 0 (fun _=>.undef) t;by_cases ht:t<(fill cJ cd (aQ C.sigs i).ins x).1.length
     ·obtain⟨z,e1,e2⟩:=Sn hz (zf ht);have:=g1 t om _ (zf ht);show ay φ _ _ w (Gk _ 0 _ t) _;rw[this];have e3:(zs.toArray++Array.replicate (fn.ntmps-zs.toArray.size) undef).getD t undef=z:=by
       have hf:t<zs.length:=om
       rw[Array.getD_eq_getD_getElem?,Array.getElem?_append_left (by simpa using hf)];simp[e1]
      rw[e3];exact e2
     ·show ay φ _ _ w (Gk _ 0 _ t) _;rw[g2 (.inr om)];have e3:(zs.toArray++Array.replicate (fn.ntmps-zs.toArray.size) undef).getD t undef=undef:=by
       have hf:zs.length<=t:=om
       rw[Array.getD_eq_getD_getElem?,Array.getElem?_append_right (by simpa using hf)]
       grind
      exact e3
    have hj:=BB (zbv hC hE HC (HD fn.ntmps _ φ (ba (aQ C.sigs i).ins x) w) (z6w ho) hA X _ _ _ _ _ _ y hQ hk hu X φ _ w (fun _ h=>h) hB (dC.refl _ _ _ _));refine wp_mono hj fun e a wd hq=>?_;cases e with
    |normal=>obtain⟨yy,e1,h1,v,h2,h3⟩:=hq;subst e1;exact⟨h1,v,h2,h3⟩
    |ret=>obtain⟨yy,e1,h1,v,h2,h3⟩:=hq;subst e1;exact⟨h1,v,h2,h3⟩
    |_=>exact hq.elim
end
inductive Call (C:Cx):(i:Nat)->ai (aQ C.sigs i).ins.aS->ai (aQ C.sigs i).outs.aS->Prop where
 |mk (R:jU C.sigs) (h:∀j a b,R j a=some b->Call C j a b) (i:Nat) (x:ai (aQ C.sigs i).ins.aS) (y:ai (aQ C.sigs i).outs.aS) (e:QJ lf C R i x=some y):Call C i x y
 |lD (i:Nat) (x:ai (aQ C.sigs i).ins.aS) (y:ai (aQ C.sigs i).outs.aS) (h:qw C i x y):Call C i x y
def XE(C:Cx):Prop:=∀R:jU C.sigs,(∀j a b,R j a=some b->qw C j a b)->∀X φ o w,MRel C X φ o w->∀fr f,Gt C R X φ o w fr f
def z76(C:Cx):Prop:=∀R:jU C.sigs,(∀j a b,R j a=some b->qw C j a b)->∀nt sk eJ o0 w0,z74 C nt R (HJ sk eJ o0 w0)
def Call.ok{C:Cx}(hC:cV C)(hE:mw C)(hL:XE C)(hD:z76 C){i:Nat}{x:ai (aQ C.sigs i).ins.aS}{y:ai (aQ C.sigs i).outs.aS}(h:Call C i x y):qw C i x y:=by
 induction h with
 |mk R h i x y e ih=>exact qv3 hC hE (hL R ih) (hD R ih) e
 |lD i x y h=>exact h
def Md{imm imm':Nat->Prop}{w:World}:∀(t:Ty) (x:den t) (cs:List Value),Bx t=false->aE imm w t x cs->aE imm' w t x cs
 |.unit,_,_,_,h=>h
 |.pair a b,x,_,hs,⟨c,d,e,h1,h2⟩=>by simp only[Bx,Bool.or_eq_false_iff] at hs;exact⟨c,d,e,Md a x.1 c hs.1 h1,Md b x.2 d hs.2 h2⟩
 |.st p,x,cs,hs,h=>Md p x cs hs h
 |.arr _ e,_,_,hs,⟨h1,h2⟩=>⟨h1,rJ (fun x c h=>Md e x c hs h) h2⟩
 |.int _,_,_,_,h=>h
 |.bool,_,_,_,h=>h
 |.fG,_,_,hs,_=>by cases hs
 |.dG,_,_,hs,_=>by cases hs
 |.str,_,_,_,h=>h
 |.sl e,_,_,hs,_=>by cases hs
def z77{imm imm':Nat->Prop}{w:World}(t:Ty)(x:den t)(v:Value)(hs:Bx t=false)(h:cY imm w t x v):cY imm' w t x v:=by
 cases t with
 |st p=>obtain⟨cs,h1,h2⟩:=h;exact⟨cs,h1,Md p x _ hs h2⟩
 |arr n e=>obtain⟨cs,h1,h2⟩:=h;exact⟨cs,h1,Md (.arr n e) x _ hs h2⟩
 |unit=>exact h
 |pair a b=>exact h
 |int k=>exact h
 |bool=>exact h
 |fG=>cases hs
 |dG=>cases hs
 |str=>exact h
 |sl e=>cases hs
def z78{imm imm':Nat->Prop}{w:World}{φ:Nat->Addr}{o:Nat->Obj}(ρ κ:Nat->Nat)(s:Sh):RX s=false->∀r c z,ay φ o imm w (lT ρ κ s r c).1 z->ay φ o imm' w (lT ρ κ s r c).1 z:=by
 refine Sh.rec (motive_1:=fun s=>RX s=false->∀r c z,ay φ o imm w (lT ρ κ s r c).1 z->ay φ o imm' w (lT ρ κ s r c).1 z)
  (motive_2:=fun l=>By l=false->∀r c zs,ck φ o imm w (fH ρ κ l r c).1 zs->ck φ o imm' w (fH ρ κ l r c).1 zs)
  ?_ ?_ ?_ ?_ ?_ ?_ ?_ ?_ ?_ ?_ ?_ ?_ ?_ ?_ ?_ ?_ ?_ ?_ s
 ·exact fun t hs r c z h=>z77 t _ _ hs h
 ·intro i _ r c z h;replace h:ay φ o imm w (.aY (ρ i) (κ i)) z:=h;show ay φ o imm' w (.aY (ρ i) (κ i)) z;unfold ay at h ⊢;exact h
 ·intro i off _ r c z h;replace h:ay φ o imm w (.ptr (ρ i) off) z:=h;show ay φ o imm' w (.ptr (ρ i) off) z;unfold ay at h ⊢;exact h
 ·exact fun t hs r c z h=>by cases hs
 ·exact fun _ r c z h=>h
 ·exact fun f l ih hs r c z ⟨cz,h1,h2⟩=>⟨cz,h1,ih hs _ _ _ h2⟩
 ·exact fun _ r c z h=>h
 ·exact fun l ih hs r c z ⟨cz,h1,h2⟩=>⟨cz,h1,ih hs _ _ _ h2⟩
 ·exact fun l ih hs r c z ⟨cz,h1,h2⟩=>⟨cz,h1,ih hs _ _ _ h2⟩
 ·exact fun _ r c z h=>h
 ·exact fun _ r c z h=>h
 ·intro i _ r c z h;replace h:ay φ o imm w (.cX (ρ i) c.1) z:=h;show ay φ o imm' w (.cX (ρ i) c.1) z;unfold ay at h ⊢;exact h
 ·intro i _ r c z h;replace h:ay φ o imm w (.iM (ρ i) (κ i) c.1) z:=h;show ay φ o imm' w (.iM (ρ i) (κ i) c.1) z;unfold ay at h ⊢;exact h
 ·intro i _ r c z h;replace h:ay φ o imm w (.it (ρ i)) z:=h;show ay φ o imm' w (.it (ρ i)) z;unfold ay at h ⊢;exact h
 ·exact fun a hs=>by cases hs
 ·exact fun t hs r c z h=>by cases hs
 ·exact fun _ r c z h=>h
 ·intro s l mY mZ hs r c zs ⟨z,zr,e,h1,h2⟩;have hs:(RX s||By l)=false:=hs;rw[Bool.or_eq_false_iff] at hs;exact⟨z,zr,e,mY hs.1 _ _ _ h1,mZ hs.2 _ _ _ h2⟩
def qv4(ρ κ:Nat->Nat)(i:Nat)(s:fS)(r:List Ty)(c:ai (Qu s r)):(fI ρ κ i s r c).2=(fI cJ cd i s r c).2:=by
 cases s with
 |box l=>exact SE ρ κ cJ cd l r c
 |vec t=>rfl
 |gone=>rfl
 |iter=>rfl
def qi4(ρ κ:Nat->Nat):∀(l:List fS) (i:Nat) (r:List Ty) (c:ai (bY l r)) (o1 o2:Nat->Obj),(∀a b,i<=a->a<i+l.length->i<=b->b<i+l.length->ρ a=ρ b->a=b)->(∀j,(j<i\/i+l.length<=j)->aq o1 (gf cJ cd i l r c) j=o1 j)/\(∀id,(∀j,i<=j->j<i+l.length->ρ j≠id)->aq o2 (gf ρ κ i l r c) id=o2 id/\id∉bW (gf ρ κ i l r c))/\(∀j,i<=j->j<i+l.length->ρ j∈bW (gf ρ κ i l r c))
 |[],i,r,c,o1,o2,_=>⟨fun _ _=>rfl,fun _ _=>⟨rfl,(fun h=>by cases h)⟩,fun j h1 h2=>absurd h2 (by simp;omega)⟩
 |s::l,i,r,c,o1,o2,cW=>by
  have e2:=qv4 ρ κ i s (bY l r) c;simp only[zu] at cW;obtain⟨a2,a3,a4⟩:=qi4 ρ κ l (i+1) r (fI cJ cd i s (bY l r) c).2 (cy o1 i (fI cJ cd i s (bY l r) c).1) (cy o2 (ρ i) (fI ρ κ i s (bY l r) c).1)
   (fun a b h1 h2 h3 h4 e=>cW a b om om om om e)
  have f1:∀j,aq o1 (gf cJ cd i (s::l) r c) j=aq (cy o1 i (fI cJ cd i s (bY l r) c).1) (gf cJ cd (i+1) l r (fI cJ cd i s (bY l r) c).2) j:=fun _=>rfl;have f2:∀id,aq o2 (gf ρ κ i (s::l) r c) id=aq (cy o2 (ρ i) (fI ρ κ i s (bY l r) c).1) (gf ρ κ (i+1) l r (fI cJ cd i s (bY l r) c).2) id:=fun id=>(congrArg (fun q=>aq (cy o2 (ρ i) (fI ρ κ i s (bY l r) c).1) (gf ρ κ (i+1) l r q) id) e2);have f3:bW (gf ρ κ i (s::l) r c)=ρ i::bW (gf ρ κ (i+1) l r (fI cJ cd i s (bY l r) c).2):=congrArg (fun q=>ρ i::bW (gf ρ κ (i+1) l r q)) e2;refine⟨fun j hj=>?_,fun id hc=>?_,fun j h1 h2=>?_⟩
  ·rw[f1];simp only[zu] at hj;rw[a2 j om,jI om]
  ·rw[f2,f3];simp only[zu] at hc;obtain⟨b1,b2⟩:=a3 id (fun q h1 h2=>hc q om om);have he:id≠ρ i:=fun e=>hc i (Nat.le_refl _) om e.symm;exact⟨by rw[b1,jI he],fun h=>by
    rcases zk.1 h with h|h
    ·exact he h
    ·exact b2 h⟩
  ·rw[f3];simp only[zu] at h2;by_cases hf:j=i
   ·subst hf;exact zg ..
   ·exact zh _ (a4 j om om)
def qok(ρ κ:Nat->Nat):∀(l:List fS) (i:Nat) (r:List Ty) (c:ai (bY l r)) (j:Nat),i<=j->j<i+l.length->∃p,p∈gf ρ κ i l r c/\p.1=ρ j
 |[],i,r,c,j,h1,h2=>absurd h2 (by simp;omega)
 |s::l,i,r,c,j,h1,h2=>by
  by_cases hj:j=i
  ·subst hj;exact⟨_,zg ..,rfl⟩
  ·simp only[zu] at h2;obtain⟨p,h3,h4⟩:=qok ρ κ l (i+1) r (fI ρ κ i s (bY l r) c).2 j om om;exact⟨p,zh _ h3,h4⟩
def qol(ρ κ:Nat->Nat):∀(l:List fS) (i:Nat) (r:List Ty) (c:ai (bY l r)) (o1 o2:Nat->Obj),(∀a b,i<=a->a<i+l.length->i<=b->b<i+l.length->ρ a=ρ b->a=b)->∀j sh,i<=j->l[j-i]?=some sh->∃r' c',aq o1 (gf cJ cd i l r c) j=(fI cJ cd j sh r' c').1/\aq o2 (gf ρ κ i l r c) (ρ j)=(fI ρ κ j sh r' c').1
 |[],i,r,c,o1,o2,_=>fun j sh _ h=>by simp at h
 |s::l,i,r,c,o1,o2,cW=>by
  intro j sh h1 h2;have e2:=qv4 ρ κ i s (bY l r) c;simp only[zu] at cW;have SP:∀a b,i+1<=a->a<i+1+l.length->i+1<=b->b<i+1+l.length->ρ a=ρ b->a=b:=fun a b h1 h2 h3 h4 e=>cW a b om om om om e;obtain⟨a2,a3,_⟩:=qi4 ρ κ l (i+1) r (fI cJ cd i s (bY l r) c).2 (cy o1 i (fI cJ cd i s (bY l r) c).1) (cy o2 (ρ i) (fI ρ κ i s (bY l r) c).1) SP;have f1:∀j,aq o1 (gf cJ cd i (s::l) r c) j=aq (cy o1 i (fI cJ cd i s (bY l r) c).1) (gf cJ cd (i+1) l r (fI cJ cd i s (bY l r) c).2) j:=fun _=>rfl;have f2:∀id,aq o2 (gf ρ κ i (s::l) r c) id=aq (cy o2 (ρ i) (fI ρ κ i s (bY l r) c).1) (gf ρ κ (i+1) l r (fI cJ cd i s (bY l r) c).2) id:=fun id=>(congrArg (fun q=>aq (cy o2 (ρ i) (fI ρ κ i s (bY l r) c).1) (gf ρ κ (i+1) l r q) id) e2);by_cases hc:j=i
  ·subst hc;rw[Nat.sub_self] at h2;simp only[List.getElem?_cons_zero,zB] at h2;subst h2;refine⟨bY l r,c,?_,?_⟩
   ·rw[f1,a2 j (.inl om),eQ]
   ·rw[f2,(a3 (ρ j) (fun q hq he e=>by have:=cW q j om om om om e;omega)).1,eQ]
  ·rw[show j-i=(j-(i+1))+1 by omega] at h2;obtain⟨r',c',g1,g2⟩:=qol ρ κ l (i+1) r (fI cJ cd i s (bY l r) c).2 (cy o1 i (fI cJ cd i s (bY l r) c).1) (cy o2 (ρ i) (fI ρ κ i s (bY l r) c).1) SP j sh om (by simpa using h2);exact⟨r',c',by rw[f1];exact g1,by rw[f2];exact g2⟩
def qr0{imm imm':Nat->Prop}{w:World}{φ:Nat->Addr}{o:Nat->Obj}(ρ κ:Nat->Nat):∀(l:List Sh),By l=false->∀r c zs,ck φ o imm w (fH ρ κ l r c).1 zs->ck φ o imm' w (fH ρ κ l r c).1 zs
 |[],_,_,_,_,h=>h
 |s::l,hs,r,c,zs,⟨z,zr,e,h1,h2⟩=>by have hs:(RX s||By l)=false:=hs;rw[Bool.or_eq_false_iff] at hs;exact⟨z,zr,e,z78 ρ κ s hs.1 _ _ _ h1,qr0 ρ κ l hs.2 _ _ _ h2⟩
def z79:∀{l:List fS},yK l=false->∀(j:Nat) (sh:fS),l[j]?=some sh->yK [sh]=false
 |[],_,j,sh,h=>by simp at h
 |s::l,hs,j,sh,h=>by
  cases j with
  |zero=>simp only[List.getElem?_cons_zero,zB] at h;subst h;cases s<;>simp only[yK,Bool.or_eq_false_iff] at hs ⊢<;>first|exact⟨hs.1,trivial⟩|rfl|trivial
  |succ j=>refine z79 (l:=l) ?_ j sh (by simpa using h);cases s<;>simp only[yK,Bool.or_eq_false_iff] at hs<;>first|exact hs.2|exact hs
def qm6{bN:List Nat}:∀(k i:Nat) (l:List fS),Gf bN k i l=true->k<=l.length/\∀j,j<k->(l[j]?=some .gone/\bQ (i+j) bN=false)\/(l[j]?≠some .gone/\bQ (i+j) bN=true)
 |0,i,l,_=>⟨Nat.zero_le _,fun j h=>absurd h om⟩
 |k+1,i,l,h=>by
  cases l with
  |nil=>cases h
  |cons s l=>
   have both:Gf bN k (i+1) l=true/\((s=.gone/\bQ i bN=false)\/(s≠.gone/\bQ i bN=true)):=by
    cases s with
    |gone=>
     simp only[Gf,ze] at h;refine⟨h.2,.inl ⟨rfl,?_⟩⟩;cases hb:bQ i bN with
     |false=>rfl
     |true=>exact absurd (iW.1 hb) (ql6 h.1)
    |box cs=>simp only[Gf,ze] at h;exact⟨h.2,.inr ⟨by simp,h.1⟩⟩
    |vec t=>simp only[Gf,ze] at h;exact⟨h.2,.inr ⟨by simp,h.1⟩⟩
    |iter=>simp only[Gf,ze] at h;exact⟨h.2,.inr ⟨by simp,h.1⟩⟩
   obtain⟨h1,h2⟩:=qm6 k (i+1) l both.1;refine⟨by simp;omega,fun j hj=>?_⟩;cases j with
   |zero=>simpa using both.2
   |succ j=>grind
def qj2{ps:PS}:∀{l:List Nat},WN ps l=true->∀i,i∈l->iO ((iO i ps.aT).getD 0) ps.cut=none
 |b::r,h,i,hi=>by
  simp only[WN,ze] at h;rcases zk.1 hi with rfl|hi
  ·exact Xs h.1
  ·exact qj2 h.2 i hi
def qm7{o:Nat->Obj}{aT:List (Nat×Nat)}:∀(k:Nat),WM o aT k=true->∀j,j<k->∃cN,iO j aT=some cN/\o cN≠.none
 |0,_,j,h=>absurd h om
 |k+1,h,j,hj=>by
  simp only[WM,ze] at h;by_cases e:j=k
  ·grind
  ·exact qm7 k h.2 j om
def qr1{o:Nat->Obj}:∀{l:List Nat},WL o l=true->∀id,id∈l->(∀cs,o id≠.box cs)/\(∀s p,o id≠.iter s p)
 |b::r,h,id,hi=>by
  simp only[WL,ze] at h;rcases zk.1 hi with hi|hi
  ·grind
  ·exact qr1 h.2 id hi
def qen{C:Cx}{R:jU C.sigs}{o:Nat->Obj}{fr f:Nat}{vs:List V}{v:V}{u:List (Nat×Obj)}:∀(l:List lr) (i:Nat),(Fz lf C R o fr f vs l i).aN v u->∃i ps c y,(aQ C.sigs i).f=f/\pack lf o [] (aQ C.sigs i).ins vs=some (ps,c)/\WO o ps (aQ C.sigs i).ins.aw.length (aQ C.sigs i).outs (aQ C.sigs i).bN=true/\R i c=some y/\v=B0 (fill (Fy ps.aT (aQ C.sigs i).ins.aw.length fr) (Gg o ps.aT (aQ C.sigs i).ins.aw.length (aQ C.sigs i).bN) (aQ C.sigs i).outs y).1/\u=(bif mX (aQ C.sigs i).outs then eG o ps.cq else [])++(fill (Fy ps.aT (aQ C.sigs i).ins.aw.length fr) (Gg o ps.aT (aQ C.sigs i).ins.aw.length (aQ C.sigs i).bN) (aQ C.sigs i).outs y).2
 |[],i,h=>h.elim
 |s::r,i,h=>by
  unfold Fz at h;cases hb:Nat.beq s.f f with
  |false=>rw[hb] at h;exact qen r (i+1) h
  |true=>
   rw[hb,cond_true] at h;split at h
   ·rename_i ps c hp;rw[dX,ou,ze] at h;obtain⟨⟨h1,h2⟩,y,h3,h4⟩:=h;simp only[Prod.mk.injEq] at h4;exact⟨i,ps,c,y,zj h1,hp,h2,h3,h4.1.symm,h4.2.symm⟩
   ·exact qen r (i+1) h
def z3c{φ:Nat->Addr}{o:Nat->Obj}{imm:Nat->Prop}{w:World}{vs:List V}{zs:List Value}(h:ck φ o imm w vs zs):ay φ o imm w (B0 vs) (Cd zs):=by
 match vs,zs,h with
 |[],zs,h=>have h:zs=[]:=h;subst h;exact⟨#[],rfl,rfl⟩
 |[v],zs,⟨z,r,e,h1,h2⟩=>have h2:r=[]:=h2;subst e h2;exact h1
 |v::v'::vs,zs,⟨z,r,e,h1,z',r',e',h2,h3⟩=>subst e e';exact⟨(z::z'::r').toArray,rfl,z,z'::r',by simp,h1,z',r',rfl,h2,h3⟩
def ofk:Obj->Prop
 |.none=>False
 |_=>True
def qsl{o:Nat->Obj}{id:Nat}:∀{ks:List Nat},id∈bW (eG o ks)->id∈ks
 |[],h=>by cases h
 |q::r,h=>by
  simp only[eG] at h;split at h
  ·rcases zk.1 h with h|h
   ·grind
   ·exact zh _ (qsl h)
  ·exact zh _ (qsl h)
def ziq{C:Cx}{X X1:Nat->Prop}{φ qx:Nat->Addr}{o Q3:Nat->Obj}{w w':World}{ps:PS}{fr:Nat}{ins outs:Shape}{y:ai outs.aS}{dS:List Value}{bN:List Nat}(hm:MRel C X φ o w)(hw:bU o ps ins.aw.length ins.aw Q3)(hL:WO o ps ins.aw.length outs bN=true)(hf:mU fr o ((bif mX outs then eG o ps.cq else [])++(fill (Fy ps.aT ins.aw.length fr) (Gg o ps.aT ins.aw.length bN) outs y).2))(hX:∀b,XC X φ o Q3 ps b->X1 b)(M1:MRel C X1 qx (ba outs y) w')(rv:ck qx (ba outs y) (aj X1 qx (ba outs y) w') w' (fill cJ cd outs y).1 dS)(H:dC bN (ft φ ps) Q3 w qx (ba outs y) w'):∃gW,Comes C X φ gW o ((bif mX outs then eG o ps.cq else [])++(fill (Fy ps.aT ins.aw.length fr) (Gg o ps.aT ins.aw.length bN) outs y).2) w w' (B0 (fill (Fy ps.aT ins.aw.length fr) (Gg o ps.aT ins.aw.length bN) outs y).1) (Cd dS):=by
 generalize hk:ins.aw.length=k at*
 generalize cW:Fy ps.aT k fr=ρ at*
 generalize hκ:Gg o ps.aT k bN=κ at*
 unfold WO at hL;simp only[ze] at hL;obtain⟨⟨⟨⟨hA,ht⟩,hB⟩,hG⟩,hH⟩:=hL;have hH:=zD hH;obtain⟨h6,ht⟩:=qm6 _ _ _ ht;simp only[zC] at ht;have tied:∀j,j<k->(j,ρ j)∈ps.aT/\o (ρ j)≠.none:=fun j hj=>by
  obtain⟨cN,h1,h2⟩:=qm7 k hG j hj;have:ρ j=cN:=by
   rw[<-cW];unfold Fy;have hb:Nat.blt j k=true:=by rw[Nat.blt_eq];exact hj
   rw[hb,h1];rfl
  rw[this];exact⟨QY h1,h2⟩
 have fresh:∀j,k<=j->ρ j=fr+(j-k):=fun j hj=>by
  rw[<-cW];unfold Fy;have hb:Nat.blt j k=false:=by
   cases e:Nat.blt j k with
   |false=>rfl
   |true=>rw[Nat.blt_eq] at e;omega
  rw[hb];rfl
 have KH:∀j,k<=j->j<outs.aw.length->o (ρ j)=.none:=fun j h1 h2=>by
  obtain⟨p,h3,h4⟩:=qok ρ κ outs.aw 0 [] (fH ρ κ outs.roots (bY outs.aw []) y).2 j (Nat.zero_le _) om;have:=hf p (List.mem_append_right _ h3)
  grind
 have inj:∀a b,0<=a->a<0+outs.aw.length->0<=b->b<0+outs.aw.length->ρ a=ρ b->a=b:=fun a b _ h1 _ h2 e=>by
  by_cases ha:a<k<;>by_cases hb:b<k
  ·have r1:=(hw.aT (tied a ha).1).2.2;have r2:=(hw.aT (tied b hb).1).2.2
   grind
  all_goals grind
 have hF:Comes C X φ φ o (bif mX outs then eG o ps.cq else []) w w .undef undef:=by
  cases mX outs with
  |true=>exact Sj hm ps.cq
  |false=>exact .same hm rfl
 generalize hz:aq o (bif mX outs then eG o ps.cq else [])=of;have Mf:MRel C X φ of w:=hz▸hF.mem;have ofs:∀id,(of id=o id)\/(∃t ver fz s,o id=.vec t ver fz s/\of id=.vec t ver true s):=fun id=>by
  rw[<-hz];cases mX outs with
  |true=>exact(Kz (o:=o) ps.cq id).imp (fun h=>h.1) (fun h=>h)
  |false=>exact .inl rfl
 have ofx:∀id,aV (φ id) (of id)=true->of id=o id/\aV (φ id) (o id)=true:=fun id hx=>by
  rcases ofs id with h|⟨t,ver,fz,s,h1,h2⟩
  ·exact⟨h,h▸hx⟩
  ·rw[h2] at hx;have:=(Gm hx).2.1;simp at this
 have ofn:∀id,of id=.none↔o id=.none:=fun id=>by grind
 have ofl:∀id,id∉ps.cq->of id=o id:=fun id hi=>by
  rw[<-hz];cases mX outs with
  |false=>rfl
  |true=>show aq o (eG o ps.cq) id=o id;exact iU fun hk=>hi (qsl hk)
 have SQ:∀id,id∈ps.cq->aV (φ id) (of id)=true->mX outs=false:=fun id hi hx=>by
  cases ha:mX outs with
  |false=>rfl
  |true=>
   exfalso;rw[ha] at hB hz;simp only[Bool.not_true,Bool.or_false] at hB;obtain⟨b1,b3⟩:=qr1 hB id hi;have hz:aq o (eG o ps.cq)=of:=hz;obtain⟨e1,e2⟩:=ofx id hx;cases he:o id with
   |box cs=>exact b1 cs he
   |iter s p=>exact b3 s p he
   |dead=>rw[he] at e2;simp[aV,Ev.live] at e2
   |none=>rw[he] at e2;exact mT e2
   |vec t ver fz s=>have hM:=qxq hi he;obtain⟨t',aC,fz',s',_,h2⟩:=FC hM;rw[<-hz,h2 o] at hx;have:=(Gm hx).2.1;simp at this
 have hY:(fill ρ κ outs y).2=gf ρ κ 0 outs.aw [] (fH cJ cd outs.roots (bY outs.aw []) y).2:=congrArg (fun q=>gf ρ κ 0 outs.aw [] q) (SE ρ κ cJ cd outs.roots (bY outs.aw []) y);have each:=qol ρ κ outs.aw 0 [] (fH cJ cd outs.roots (bY outs.aw []) y).2 (fun _=>.none) of inj;obtain⟨c2,c3,c4⟩:=qi4 ρ κ outs.aw 0 [] (fH cJ cd outs.roots (bY outs.aw []) y).2 (fun _=>.none) of inj;rw[<-hY] at each c3 c4;have hN:ba outs y=aq (fun _=>.none) (gf cJ cd 0 outs.aw [] (fH cJ cd outs.roots (bY outs.aw []) y).2):=rfl;rw[<-hN] at each c2;generalize hO:ba outs y=oc at*
 generalize hu:(fill ρ κ outs y).2=u1 at*
 have my:∀j,j<outs.aw.length->∃sh r' c',outs.aw[j]?=some sh/\oc j=(fI cJ cd j sh r' c').1/\aq of u1 (ρ j)=(fI ρ κ j sh r' c').1:=fun j hj=>by obtain⟨r',c',h1,h2⟩:=each j outs.aw[j] (Nat.zero_le _) (by rw[Nat.sub_zero];exact zf hj);exact⟨_,r',c',zf hj,h1,h2⟩
 have dead:∀j,j<k->bQ j bN=false->oc j=.dead/\aq of u1 (ρ j)=.dead:=fun j hj hn=>by
  obtain⟨sh,r',c',h1,h2,h3⟩:=my j om;rcases ht j hj with ⟨g1,_⟩|⟨_,g2⟩
  ·rw[g1] at h1;injection h1 with h1;subst h1;exact⟨h2,h3⟩
  ·rw[hn] at g2;cases g2
 have live:∀j,j<k->bQ j bN=true->oc j≠.dead/\ofk (of (ρ j))/\of (ρ j)=o (ρ j)/\ft φ ps j=φ (ρ j)/\qx j=φ (ρ j)/\∀a',a'=φ (ρ j)->Up w w' (φ (ρ j)) a' (o (ρ j)) (aq of u1 (ρ j)):=fun j hj hn=>by
  obtain⟨sh,r',c',h1,h2,h3⟩:=my j om;have hC:sh≠.gone:=fun e=>by
   subst e;rcases ht j hj with ⟨_,g2⟩|⟨g1,_⟩
   ·rw[hn] at g2;cases g2
   ·exact g1 h1
  have hR:oc j≠.dead:=by rw[h2];cases sh<;>simp[fI] at hC ⊢
  have hZ:of (ρ j)=o (ρ j):=ofl _ (hw.cq (tied j hj).1);have hc:=H.up j (iW.1 hn);have hS:(iO j ps.aT).getD 0=ρ j:=(hw.aT (tied j hj).1).2.1;have hP:iO (ρ j) ps.cut=none:=by rw[<-hS];exact qj2 hA j (iW.1 hn)
  have aah:κ j=zig (o (ρ j)):=by
   rw[<-hκ];unfold Gg;have hb:(Nat.blt j k&&bQ j bN)=true:=by rw[hn,Bool.and_true,Nat.blt_eq];exact hj
   rw[hb,cond_true,hS]
  refine⟨hR,?_⟩;rw[hZ];rcases Gy (φ:=φ) hw (tied j hj).1 with hd|⟨⟨cs,lW,e1,e2⟩|⟨t',ver,s,e1,e2⟩|⟨_,_,e1,e2⟩,dZ⟩
  ·rw[hd] at hc;exfalso;cases hO:oc j<;>rw[hO] at hc<;>first|exact hc.elim|exact hR hO
  ·rw[e2] at hc;refine⟨by rw[e1];trivial,rfl,dZ,?_⟩;rw[h2] at hc;cases sh<;>first|exact hc.elim|exact(hC rfl).elim|skip
   have hc:qx j=ft φ ps j:=hc;refine⟨hc.trans dZ,fun a' ha=>?_⟩;rw[e1,h3,ha];exact rfl
  ·rw[e2,hP] at hc;refine⟨by rw[e1];trivial,rfl,dZ,?_⟩;rw[h2] at hc;cases sh<;>first|exact hc.elim|exact(hC rfl).elim|skip
   rcases hc with hc|⟨_,u2,u3,u4,u5,u6⟩
   ·exact absurd hc (Nat.lt_irrefl 0)
   ·subst u2;refine⟨u5.trans dZ,fun a' ha=>?_⟩;rw[e1,h3,ha];refine .inr ⟨?_,rfl,u3,u4,rfl,fun _=>⟨rfl,fun hn hs n hr=>?_⟩⟩
    ·rw[aah,e1];rfl
    ·have:=(u6 rfl).2 hn (by rw[dZ];exact hs) n (by rw[dZ];exact hr);rw[dZ] at this;exact this
  ·rw[e2] at hc;refine⟨by rw[e1];trivial,rfl,dZ,?_⟩;rw[h2] at hc;cases sh<;>first|exact hc.elim|exact(hC rfl).elim|skip
   have hc:qx j=ft φ ps j:=hc;refine⟨hc.trans dZ,fun a' ha=>?_⟩;rw[e1,h3,ha];exact rfl
 have Me:∀j a,j<outs.aw.length->aV a (aq of u1 (ρ j))=aV a (oc j):=fun j a hj=>by obtain⟨sh,r',c',h1,h2,h3⟩:=my j hj;rw[h2,h3];cases sh<;>rfl
 have kept:∀id,(∀j,j<outs.aw.length->ρ j≠id)->aq of u1 id=of id/\id∉bW u1:=fun id h=>c3 id fun j _ hj=>h j om;have split:∀id,(∃j,j<outs.aw.length/\ρ j=id)\/(∀j,j<outs.aw.length->ρ j≠id):=fun id=>by
  by_cases h:∃j,j<outs.aw.length/\ρ j=id
  ·exact .inl h
  ·exact .inr fun j hj e=>h ⟨j,hj,e⟩
 have hD:∀j a,aV a (oc j)=true->j<outs.aw.length/\(k<=j\/bQ j bN=true):=fun j a hx=>by
  have h1:j<outs.aw.length:=zA fun h=>by rw[c2 j (.inr om)] at hx;exact mT hx
  refine⟨h1,?_⟩;cases hn:bQ j bN with
  |true=>exact .inr rfl
  |false=>refine .inl (zA fun h=>?_);rw[(dead j om hn).1] at hx;simp[aV,Ev.live] at hx
 generalize dZ:(fun id=>bif (Nat.ble fr id&&Nat.blt id (fr+(outs.aw.length-k))) then qx (id-fr+k) else φ id)=eZ;have pN0:∀j,k<=j->j<outs.aw.length->eZ (ρ j)=qx j:=fun j h1 h2=>by
  rw[<-dZ];simp only;rw[fresh j h1];have hb:(Nat.ble fr (fr+(j-k))&&Nat.blt (fr+(j-k)) (fr+(outs.aw.length-k)))=true:=by rw[ze,Nat.ble_eq,Nat.blt_eq];omega
  rw[hb,cond_true];congr 1;omega
 have pO:∀id,of id≠.none->eZ id=φ id:=fun id hn=>by
  rw[<-dZ];simp only;have hb:(Nat.ble fr id&&Nat.blt id (fr+(outs.aw.length-k)))=false:=by
   cases e:(Nat.ble fr id&&Nat.blt id (fr+(outs.aw.length-k))) with
   |false=>rfl
   |true=>rw[ze,Nat.ble_eq,Nat.blt_eq] at e;have:=KH (k+(id-fr)) om om;rw[fresh _ om,show fr+(k+(id-fr)-k)=id by omega] at this;exact absurd ((ofn id).2 this) hn
  rw[hb,cond_false]
 have pN:∀j,(k<=j\/bQ j bN=true)->j<outs.aw.length->eZ (ρ j)=qx j:=fun j h1 h2=>by
  by_cases hv:k<=j
  ·exact pN0 j hv h2
  ·have hn:=h1.resolve_left hv;obtain⟨_,l2,_,_,l5,_⟩:=live j om hn;rw[pO _ (fun e=>by rw[e] at l2;exact l2),l5]
 have SR:∀b,oG (ft φ ps) Q3 b->∃i,i<k/\aV (φ (ρ i)) (of (ρ i))=true/\(φ (ρ i)).block=b:=fun b ⟨i,h1,h2⟩=>by
  obtain⟨hE,g1,g2⟩:=hw.L8 h1;have hT:yV ps i=ρ i:=(hw.aT (tied i hE).1).2.1;refine⟨i,hE,?_,by rw[<-hT];exact h2⟩;rw[<-hT];have h0:=hw.cq g1;rw[<-hz];cases ha:mX outs with
  |false=>exact g2
  |true=>
   show aV (φ (yV ps i)) (aq o (eG o ps.cq) (yV ps i))=true;rw[iU]
   ·exact g2
   ·intro hk;have key:∀ks:List Nat,yV ps i∈bW (eG o ks)->yV ps i∈ks:=by
     intro ks
     induction ks with
     |nil=>intro h;cases h
     |cons q r ih=>
      intro h;simp only[eG] at h;split at h
      ·rcases zk.1 h with h|h
       ·exact h▸zg ..
       ·exact zh _ (ih h)
      ·exact zh _ (ih h)
    exact h0 (key _ hk)
 have SS:∀b,oG (ft φ ps) Q3 b->oG φ of b:=fun b hb=>by obtain⟨i,_,h1,h2⟩:=SR b hb;exact⟨ρ i,h1,h2⟩
 have free:∀id,(∀j,j<outs.aw.length->ρ j≠id)->aV (φ id) (of id)=true->¬oG (ft φ ps) Q3 (φ id).block:=fun id hI hx ⟨i,h1,h2⟩=>by obtain⟨hE,g1,g2⟩:=hw.L8 h1;have:=hm.inj _ _ g2 (ofx id hx).2 h2;have hr:=(hw.aT (tied i hE).1).2.1;exact hI i om (hr.symm.trans this)
 have Ce:∀id,(∀j,j<outs.aw.length->ρ j≠id)->aV (φ id) (of id)=true->w'.heap[(φ id).block]?=w.heap[(φ id).block]?:=fun id hI hx=>H.frame _ (Mf.sep id hx).1 (free id hI hx);have SU:∀id,(∀j,j<outs.aw.length->ρ j≠id)->aV (φ id) (of id)=true->X1 (φ id).block\/mX outs=false:=fun id hI hx=>by
  by_cases hl:id∈ps.cq
  ·exact .inr (SQ id hl hx)
  ·refine .inl (hX _ (.inr ⟨id,(ofx id hx).2,rfl,hl,fun⟨i,h1,h2⟩=>?_⟩));exact free id hI hx ⟨i,h1,by unfold ft;rw[h2]⟩
 have stays:∀b,aj X φ of w b->w'.heap[b]?=w.heap[b]?:=fun b hb=>H.frame b hb.1 fun h=>hb.2.2 (SS b h);have news:∀id,aV (eZ id) (aq of u1 id)=true->w.heap.size<=(eZ id).block\/oG φ of (eZ id).block:=fun id hx=>by
  rcases split id with ⟨j,hj,rfl⟩|h
  ·rw[Me j _ hj] at hx;rw[pN j (hD j _ hx).2 hj] at hx ⊢;exact(H.news _ ⟨j,hx,rfl⟩).imp (fun h=>h) (SS _)
  ·rw[(kept id h).1] at hx;have hq:of id≠.none:=fun e=>by rw[e] at hx;exact mT hx
   rw[pO id hq] at hx ⊢;exact .inr ⟨id,hx,rfl⟩
 have imm:∀b,aj X φ of w b->aj X eZ (aq of u1) w' b:=fun b ⟨h1,h2,h3⟩=>⟨Nat.lt_of_lt_of_le h1 H.size,h2,fun⟨id,e1,e2⟩=>by
  rcases news id e1 with h|h
  ·omega
  ·exact h3 (e2▸h)⟩
 have SV:mX outs=true->∀b,aj X1 qx oc w' b->aj X eZ (aq of u1) w' b:=fun ha b ⟨h1,h2,h3⟩=>⟨h1,fun hx=>h2 (hX b (.inl hx)),fun⟨id,e1,e2⟩=>by
  rcases split id with ⟨j,hj,rfl⟩|h
  ·rw[Me j _ hj] at e1;rw[pN j (hD j _ e1).2 hj] at e2 e1;exact h3 ⟨j,e1,e2⟩
  ·rw[(kept id h).1] at e1;have hq:of id≠.none:=fun e=>by rw[e] at e1;exact mT e1
   rw[pO id hq] at e2 e1;rcases SU id h e1 with h4|h4
   ·exact h2 (e2▸h4)
   ·rw[ha] at h4;cases h4⟩
 have Ky:∀id,Up w w' (φ id) (eZ id) (of id) (aq of u1 id):=fun id=>by
  rcases split id with ⟨j,hj,rfl⟩|h
  ·by_cases hv:j<k
   ·cases hn:bQ j bN with
    |false=>rw[(dead j hv hn).2];cases of (ρ j)<;>trivial
    |true=>
     obtain⟨_,l2,l3,_,l5,l6⟩:=live j hv hn;have:=l6 (eZ (ρ j)) ((pN j (.inr hn) hj).trans l5)
     rwa [<-l3] at this
   ·rw[(ofn _).2 (KH j om hj)];trivial
  ·rw[(kept id h).1];by_cases hq:of id=.none
   ·rw[hq];trivial
   ·rw[pO id hq];exact Up.same fun hx n hr=>Gn (Ce id h hx) hr
 have keeps:∀x z,ay φ of (aj X φ of w) w x z->ay eZ (aq of u1) (aj X eZ (aq of u1) w') w' x z:=fun x z hx=>BA imm stays Ky x z hx;have lk:∀i,Xw (κ i) (oc i) (aq of u1 (ρ i)):=fun i=>by
  by_cases hi:i<outs.aw.length
  ·obtain⟨sh,r',c',h1,h2,h3⟩:=my i hi;rw[h2,h3];cases sh<;>first|trivial|exact⟨rfl,rfl⟩
  ·rw[c2 i (.inr om)];trivial
 have pk:∀i,oc i≠.none->oc i=.dead\/eZ (ρ i)=qx i:=fun i hn=>by
  have hi:i<outs.aw.length:=zA fun h=>hn (c2 i (.inr om));cases hU:bQ i bN with
  |true=>exact .inr (pN i (.inr hU) hi)
  |false=>
   by_cases hE:i<k
   ·exact .inl (dead i hE hU).1
   ·exact .inr (pN i (.inl om) hi)
 have pk':∀i,oc i≠.none->oc i≠.dead->eZ (ρ i)=qx i:=fun i h1 h2=>(pk i h1).resolve_left h2;have Mg:mX outs=true->∀x z,ay eZ (aq of u1) (aj X1 qx oc w') w' x z->ay eZ (aq of u1) (aj X eZ (aq of u1) w') w' x z:=fun ha x z hx=>BA (SV ha) (fun _ _=>rfl) (fun _=>Up.same fun _ _ h=>h) x z hx;have hV:mX outs=false->By outs.roots=false/\yK outs.aw=false:=fun h=>by unfold mX at h;rwa [Bool.or_eq_false_iff] at h
 have lists:∀(l:List Sh) (r:List Ty) (c:ai (jG l r)) (zs:List Value),(mX outs=false->By l=false)->ck qx oc (aj X1 qx oc w') w' (fH cJ cd l r c).1 zs->
   ck eZ (aq of u1) (aj X eZ (aq of u1) w') w' (fH ρ κ l r c).1 zs:=fun l r c zs hl h=>by
  have h2:=Xx (φ':=eZ) lk pk' l r c zs h;cases ha:mX outs with
  |true=>exact LU (Mg ha) _ _ h2
  |false=>exact qr0 ρ κ l (hl ha) r c zs h2
 have main:Comes C X φ eZ of u1 w w' (B0 (fill ρ κ outs y).1) (Cd dS):=by
  refine⟨⟨fun id=>?_,fun i j hi hj e=>?_,fun i hi=>?_,fun b hb=>Nat.lt_of_lt_of_le (Mf.xs b hb) H.size,fun id=>?_,fun g t x hg=>keeps _ _ (Mf.fe g t x hg),Mf.pC stays⟩,?_,Ky,H.size,fun b hb hh=>?_,fun id hn hk=>pO id hn,news,H.still⟩
  ·rcases split id with ⟨j,hj,rfl⟩|h
   ·by_cases hv:j<k/\bQ j bN=false
    ·rw[(dead j hv.1 hv.2).2];trivial
    ·have hK:=M1.aw j;obtain⟨sh,r',c',h1,h2,h3⟩:=my j hj;have yY:=pN j (by
      cases hn:bQ j bN with
      |true=>exact .inr rfl
      |false=>exact .inl (zA fun h=>hv ⟨by omega,hn⟩)) hj
     rw[h2] at hK;rw[h3];have hC:mX outs=false->yK [sh]=false:=fun ha=>z79 (hV ha).2 j sh h1;cases sh with
     |gone=>trivial
     |box l=>obtain⟨b1,cz,el,lo,hy,b2,b3,b4⟩:=hK;refine⟨by rw[yY];exact b1,cz,el,lo,hy,by rw[yY];exact b2,b3,lists l r' c' _ (fun ha=>?_) b4⟩;have:=hC ha;simpa[yK] using this
     |vec t=>
      obtain⟨b1,b2,b3⟩:=hK;refine⟨b1,b2,fun hn=>?_⟩;rw[yY];refine(b3 hn).imp (fun⟨b4,ec,b5,b6,b7,b8,b9⟩=>?_) fun g=>g;refine⟨b4,ec,?_,b6,b7,b8,fun h=>by cases h⟩;cases ha:mX outs with
      |true=>exact rJ (jH (SV ha) (fun _ _=>rfl) t) b5
      |false=>have:=hC ha;exact rJ (fun x c h=>Md t x c (by simpa[yK] using this) h) b5
     |iter=>obtain⟨s,n,b1,b2⟩:=hK;exact⟨s,n,by rw[yY];exact b1,b2⟩
   ·rw[(kept id h).1];by_cases hq:of id=.none
    ·rw[hq];trivial
    ·exact LV imm stays keeps (pO id hq) (Ce id h) (Mf.aw id)
  ·have mixed:∀a b,a<outs.aw.length->aV (qx a) (oc a)=true->(∀j,j<outs.aw.length->ρ j≠b)->aV (φ b) (of b)=true->(qx a).block=(φ b).block->False:=fun a b ha h5 hb hW e=>by
    rcases H.news _ ⟨a,h5,rfl⟩ with h|h
    ·have:=(Mf.sep b hW).1;omega
    ·exact free b hb hW (e▸h)
   rcases split i with ⟨i',hy,rfl⟩|h1<;>rcases split j with ⟨j',hJ,rfl⟩|h2
   ·rw[Me i' _ hy] at hi;rw[Me j' _ hJ] at hj;rw[pN i' (hD i' _ hi).2 hy] at hi e;rw[pN j' (hD j' _ hj).2 hJ] at hj e;rw[M1.inj i' j' hi hj e]
   ·rw[Me i' _ hy] at hi;rw[(kept j h2).1] at hj;have hq:of j≠.none:=fun e=>by rw[e] at hj;exact mT hj
    rw[pN i' (hD i' _ hi).2 hy] at hi e;rw[pO j hq] at hj e;exact(mixed i' j hy hi h2 hj e).elim
   ·rw[Me j' _ hJ] at hj;rw[(kept i h1).1] at hi;have hq:of i≠.none:=fun e=>by rw[e] at hi;exact mT hi
    rw[pN j' (hD j' _ hj).2 hJ] at hj e;rw[pO i hq] at hi e;exact(mixed j' i hJ hj h1 hi e.symm).elim
   ·rw[(kept i h1).1] at hi;rw[(kept j h2).1] at hj;have hq:of i≠.none:=fun e=>by rw[e] at hi;exact mT hi
    have hQ:of j≠.none:=fun e=>by rw[e] at hj;exact mT hj
    rw[pO i hq] at hi e;rw[pO j hQ] at hj e;exact Mf.inj i j hi hj e
  ·rcases split i with ⟨i',hy,rfl⟩|h1
   ·rw[Me i' _ hy] at hi;rw[pN i' (hD i' _ hi).2 hy] at hi ⊢;exact⟨(M1.sep i' hi).1,fun hx=>(M1.sep i' hi).2 (hX _ (.inl hx))⟩
   ·rw[(kept i h1).1] at hi;have hq:of i≠.none:=fun e=>by rw[e] at hi;exact mT hi
    rw[pO i hq] at hi ⊢;exact⟨Nat.lt_of_lt_of_le (Mf.sep i hi).1 H.size,(Mf.sep i hi).2⟩
  ·rcases split id with ⟨j,hj,rfl⟩|h
   ·by_cases hv:j<k/\bQ j bN=false
    ·rw[(dead j hv.1 hv.2).2];trivial
    ·have he:=M1.rK j;obtain⟨sh,r',c',h1,h2,h3⟩:=my j hj;have yY:=pN j (by
      cases hn:bQ j bN with
      |true=>exact .inr rfl
      |false=>exact .inl (zA fun h=>hv ⟨by omega,hn⟩)) hj
     rw[h2] at he;rw[h3,yY];cases sh with
     |gone=>trivial
     |box l=>exact fun hs=>he ((qqx ρ κ l r' c').symm.trans hs)
     |vec t=>exact he
     |iter=>trivial
   ·rw[(kept id h).1];by_cases hq:of id=.none
    ·rw[hq];trivial
    ·rw[pO id hq];exact Mf.kE id (fun hx=>.same (Ce id h hx)) stays
  ·exact z3c (lists outs.roots _ _ _ (fun ha=>(hV ha).1) rv)
  ·refine H.frame b hb fun ho=>?_;obtain⟨i,g1,g2,g3⟩:=SR b ho;exact hh ⟨ρ i,c4 i (Nat.zero_le _) om,g2,g3⟩
 rw[<-hz] at main;exact⟨eZ,hF.trans main⟩
def zgb{C:Cx}(HN:∀i fn,C.P.funcs[(aQ C.sigs i).f]?=some fn->(fn.name== "runtime.NumGoroutine")=false):XE C:=by intro R hR X φ o w hm fr f vs zs v u hv hg hf;obtain⟨i,ps,c,y,hc,hp,he,hy,rfl,rfl⟩:=qen _ _ hg;subst hc;obtain⟨q1,q2⟩:=qy0 hm hp hv;obtain⟨hj,_⟩:=SF hp;obtain⟨⟨fn,g1,g2⟩,g3⟩:=hR i c y hy _ _ w zs q1 q2;refine⟨⟨fn,g1,HN i fn g1,g2⟩,Calls.mono g3 fun e w' hb=>?_⟩;obtain⟨dS,qx,X1,rfl,hX,M1,rv,H⟩:=hb;obtain⟨eZ,h⟩:=ziq hm hj he hf hX M1 rv H;exact⟨_,eZ,rfl,h⟩
end Ev