/- Operations are sound: reading, fields, indices, slices, boxes. No statement of its own about the program. -/
import Derived.Test.YtdgmbemagoakjaaGreatDoorEvB
import Derived.Laws.AppendOwn
import Derived.Laws.CopyRow
import Derived.Laws.MakeOwn
import Derived.Laws.BytesString
import Derived.Laws.IdiomCopy
import Derived.Laws.IdiomStrings
namespace Ev
open Go
theorem dM{α:Type}{f:Nat->α}{i:Nat}{x:α}:ck f i x i=x:=by simp[ck]
theorem gM{α:Type}{f:Nat->α}{i j:Nat}{x:α}(h:j≠i):ck f i x j=f j:=by
 unfold ck;have:Nat.beq j i=false:=by
  cases e:Nat.beq j i with
  |false=>rfl
  |true=>exact absurd (zg e) h
 rw[this];rfl
theorem gj:∀{u:List (Nat×Obj)} {o:Nat->Obj} {id:Nat},id∉bO u->ar o u id=o id
 |[],_,_,_=>rfl
 |(i,x)::r,o,id,h=>by simp only[bO,zt,not_or] at h;show ar (ck o i x) r id=_;rw[gj h.2,gM h.1]
theorem qfo{α:Type}:∀(u u':List (Nat×α)) (o:Nat->α),ar o (u++u')=ar (ar o u) u'
 |[],_,_=>rfl
 |(i,x)::r,u',o=>qfo r u' (ck o i x)
theorem NU:∀(u u':List (Nat×Obj)),bO (u++u')=bO u++bO u'
 |[],_=>rfl
 |(i,x)::r,u'=>by simp[bO,NU r u']
theorem Up.trans{w w' Mp:World}{a a' a'':Addr}{x y z:Obj}(h:Up w w' a a' x y)(h':Up w' Mp a' a'' y z):Up w Mp a a'' x z:=by
 cases x with
 |none=>trivial
 |dead=>cases y<;>simp only[Up] at h<;>cases z<;>simp only[Up] at h' ⊢
 |box cs=>cases y<;>simp only[Up] at h<;>cases z<;>simp only[Up] at h' ⊢;rw[h',h]
 |map k v m=>cases y<;>simp only[Up] at h<;>cases z<;>simp only[Up] at h' ⊢;rw[h',h]
 |iter s p=>cases y<;>simp only[Up] at h<;>cases z<;>simp only[Up] at h' ⊢;rw[h',h]
 |vec t ver fr s=>
  cases y<;>simp only[Up] at h<;>cases z<;>simp only[Up] at h' ⊢;rcases h with h|⟨h1,h2,h3,h4,h5,h6⟩<;>rcases h' with h'|⟨g1,g2,g3,g4,g5,g6⟩
  ·exact .inl om
  ·exact .inl om
  ·exact .inl om
  ·refine .inr ⟨by omega,h2.trans g2,h3.trans g3,h4.trans g4,g5.trans h5,fun hf=>?_⟩;obtain⟨g7,g8⟩:=g6 hf;obtain⟨h7,h8⟩:=h6 g7;refine⟨h7,fun hn hs n hr=>?_⟩;have:=g8 (h3▸hn) (by rw[h5];exact hs) n (by rw[h5];exact h8 hn hs n hr);rw[h5] at this;exact this
section
variable {C:Cx} {X:Nat→Prop} {φ φ' fT:Nat→Addr} {o:Nat→Obj} {w w' Mp:World} {u u':List (Nat×Obj)} {v v':V} {z z':Value}
theorem GJ{α β:Type}{f f':α->Value->Prop}{g g':β->Value->Prop}(hf:∀x v,f x v->f' x v)(hg:∀x v,g x v->g' x v):∀{l:List (α×β)} {es:List MapEntry},wz f g l es->wz f' g' l es
 |[],_,h=>h
 |_::_,_,⟨e,r,h1,h2,h3,h4⟩=>⟨e,r,h1,hf _ _ h2,hg _ _ h3,GJ hf hg h4⟩
theorem Ig{imm imm':Nat->Prop}{o':Nat->Obj}(h:∀x z,av φ o imm w x z->av φ' o' imm' w' x z):∀(l:List V) (zs:List Value),bV φ o imm w l zs->bV φ' o' imm' w' l zs
 |[],_,h1=>h1
 |_::l,_,⟨a,r,h1,h2,h3⟩=>⟨a,r,h1,h _ _ h2,Ig h l _ h3⟩
theorem Ih{imm imm':Nat->Prop}{o':Nat->Obj}(hi:∀b,imm b->imm' b)(hw:∀b,imm b->w'.heap[b]?=w.heap[b]?)(hk:∀x z,av φ o imm w x z->av φ' o' imm' w' x z){id:Nat}{x:Obj}(hp:φ' id=φ id)(hb:aV (φ id) x=true->w'.heap[(φ id).block]?=w.heap[(φ id).block]?)(h:oC φ o imm w id x):oC φ' o' imm' w' id x:=by
 cases x with
 |dead=>trivial
 |none=>trivial
 |box cs=>obtain⟨h1,c,el,lo,hd,h2,h3,h4⟩:=h;refine⟨by rw[hp];exact h1,c,el,lo,hd,?_,h3,Ig hk _ _ h4⟩;rw[hp,hb rfl,h2]
 |map k v m=>obtain⟨es,clock,h1,h2⟩:=h;refine⟨es,clock,by rw[hp,hb rfl,h1],GJ (rh hi hw _) (rh hi hw _) h2⟩
 |iter l p=>obtain⟨s,n,h1,h2,h3,h4⟩:=h;exact⟨s,n,by rw[hp,hb rfl,h1],h2,h3,h4⟩
 |vec t ver fr s=>
  obtain⟨h1,h2,h3⟩:=h;refine⟨h1,h2,fun hn=>?_⟩;rw[hp];refine(h3 hn).imp (fun⟨h4,ec,h5,h6,h7,h8,h9⟩=>?_) fun g=>g;have hc:w'.heap[(φ id).block]?=w.heap[(φ id).block]?:=by
   cases fr with
   |false=>exact hb (oV hn h4)
   |true=>exact hw _ (h9 rfl)
  exact⟨h4,ec,mO (fW hi hw t) h5,Mg hc h6,CU hc h7,fun hf=>CU hc (h8 hf),fun hf=>hi _ (h9 hf)⟩
theorem MRel.CV(hm:MRel C X φ o w){ks:List Nat}{id:Nat}(hx:aV (φ id) (o id)=true)(hk:id∉ks):¬hit ks φ o (φ id).block:=fun⟨j,h1,h2,h3⟩=>hk (hm.inj j id h2 hx h3▸h1)
theorem Comes.make(hm:MRel C X φ o w)(size:w.heap.size<=w'.heap.size)(frame:∀b,b<w.heap.size->¬hit (bO u) φ o b->w'.heap[b]?=w.heap[b]?)(ny:∀id,id∉bO u->φ' id=φ id)(Vw:∀id,o id≠.none->id∉bO u->φ' id=φ id)(up:∀id,id∈bO u->Up w w' (φ id) (φ' id) (o id) (ar o u id))(place:∀id,id∈bO u->aV (φ' id) (ar o u id)=true->(w.heap.size<=(φ' id).block/\(φ' id).block<w'.heap.size)\/(aV (φ id) (o id)=true/\(φ' id).block=(φ id).block))(apart:∀i j,i∈bO u->j∈bO u->aV (φ' i) (ar o u i)=true->aV (φ' j) (ar o u j)=true->w.heap.size<=(φ' i).block->(φ' i).block=(φ' j).block->i=j)(obj:(∀b,ah X φ o w b->ah X φ' (ar o u) w' b)->(∀b,ah X φ o w b->w'.heap[b]?=w.heap[b]?)->(∀x z,av φ o (ah X φ o w) w x z->av φ' (ar o u) (ah X φ' (ar o u) w') w' x z)->∀id,id∈bO u->oC φ' (ar o u) (ah X φ' (ar o u) w') w' id (ar o u id))(oD:∀id,id∈bO u->gi C w' (φ' id) (ar o u id))(val:(∀b,ah X φ o w b->ah X φ' (ar o u) w' b)->(∀b,ah X φ o w b->w'.heap[b]?=w.heap[b]?)->(∀x z,av φ o (ah X φ o w) w x z->av φ' (ar o u) (ah X φ' (ar o u) w') w' x z)->av φ' (ar o u) (ah X φ' (ar o u) w') w' v z)(still:tw w w':=by exact⟨rfl,rfl⟩):Comes C X φ φ' o u w w' v z:=by
 have bl:∀id,id∉bO u->aV (φ id) (o id)=true->w'.heap[(φ id).block]?=w.heap[(φ id).block]?:=fun id hk hx=>frame _ (hm.sep id hx).1 (hm.CV hx hk);have stays:∀b,ah X φ o w b->w'.heap[b]?=w.heap[b]?:=fun b hb=>frame b hb.1 fun⟨id,_,e1,e2⟩=>hb.2.2 ⟨id,e1,e2⟩;have GK:∀id,Up w w' (φ id) (φ' id) (o id) (ar o u id):=fun id=>by
  by_cases hk:id∈bO u
  ·exact up id hk
  ·rw[ny id hk,gj hk];exact Up.same fun hx n hr=>CU (bl id hk hx) hr
 have news:∀id,aV (φ' id) (ar o u id)=true->w.heap.size<=(φ' id).block\/lZ φ o (φ' id).block:=fun id hx=>by
  by_cases hk:id∈bO u
  ·rcases place id hk hx with h|⟨h,e⟩
   ·exact .inl h.1
   ·exact .inr ⟨id,h,e.symm⟩
  ·rw[gj hk,ny id hk] at hx;exact .inr ⟨id,hx,by rw[ny id hk]⟩
 have imm:∀b,ah X φ o w b->ah X φ' (ar o u) w' b:=fun b ⟨h1,h2,h3⟩=>
  ⟨Nat.lt_of_lt_of_le h1 size,h2,fun⟨id,e1,e2⟩=>by
   rcases news id e1 with e3|e3
   ·omega
   ·exact h3 (e2▸e3)⟩
 have keeps:∀x z,av φ o (ah X φ o w) w x z->av φ' (ar o u) (ah X φ' (ar o u) w') w' x z:=fun x z h=>wA imm stays GK x z h;have pl:∀id,aV (φ' id) (ar o u id)=true->(w.heap.size<=(φ' id).block/\(φ' id).block<w'.heap.size)\/(aV (φ id) (o id)=true/\(φ' id).block=(φ id).block):=fun id hx=>by
  by_cases hk:id∈bO u
  ·exact place id hk hx
  ·rw[gj hk,ny id hk] at hx;exact .inr ⟨hx,by rw[ny id hk]⟩
 refine⟨⟨fun id=>?_,fun i j hi hj e=>?_,fun i hi=>?_,fun b hb=>Nat.lt_of_lt_of_le (hm.xs b hb) size,fun id=>?_,fun g t x hg=>keeps _ _ (hm.eG g t x hg),hm.mP stays⟩,val imm stays keeps,GK,size,frame,Vw,news,still⟩
 ·by_cases hk:id∈bO u
  ·exact obj imm stays keeps id hk
  ·rw[gj hk];exact Ih imm stays keeps (ny id hk) (bl id hk) (hm.aw id)
 ·rcases pl i hi with hc|hc<;>rcases pl j hj with hd|hd
  ·by_cases ki:i∈bO u
   ·by_cases kj:j∈bO u
    ·exact apart i j ki kj hi hj hc.1 e
    ·rw[gj kj,ny j kj] at hj;have:=(hm.sep j hj).1;rw[<-ny j kj] at this;omega
   ·rw[gj ki,ny i ki] at hi;have:=(hm.sep i hi).1;rw[<-ny i ki] at this;omega
  ·have:=(hm.sep j hd.1).1;omega
  ·have:=(hm.sep i hc.1).1;omega
  ·exact hm.inj i j hc.1 hd.1 (by rw[<-hc.2,<-hd.2,e])
 ·rcases pl i hi with hc|hc
  ·exact⟨hc.2,fun hx=>by have:=hm.xs _ hx;omega⟩
  ·obtain⟨h1,h2⟩:=hm.sep i hc.1;rw[hc.2];exact⟨by omega,h2⟩
 ·by_cases hk:id∈bO u
  ·exact oD id hk
  ·rw[ny id hk,gj hk];refine(hm.oD id).bH (fun hx=>.same (bl id hk hx)) (fun ver s e hn=>.same ?_) (hm.NM id);have ho:=hm.aw id;rw[e] at ho;obtain⟨_,_,ho⟩:=ho;rcases ho hn with ⟨_,_,_,_,_,_,g7⟩|g7
   ·exact stays _ (g7 rfl)
   ·exact absurd rfl g7.2.2
theorem Comes.trans(h:Comes C X φ φ' o u w w' v z)(h':Comes C X φ' fT (ar o u) u' w' Mp v' z'):Comes C X φ fT o (u++u') w Mp v' z':=by
 have e:ar o (u++u')=ar (ar o u) u':=qfo _ _ _;refine⟨by rw[e];exact h'.mem,by rw[e];exact h'.val,fun id=>by rw[e];exact(h.up id).trans (h'.up id),Nat.le_trans h.size h'.size,fun b hb hh=>?_,fun id hn hk=>?_,fun id hx=>?_,⟨h'.still.1.trans h.still.1,h'.still.2.trans h.still.2⟩⟩
 ·rw[h'.frame b (Nat.lt_of_lt_of_le hb h.size),h.frame b hb]
  ·rintro⟨id,h1,h2,h3⟩;exact hh ⟨id,by rw[NU];exact List.mem_append_left _ h1,h2,h3⟩
  ·rintro⟨id,h1,h2,h3⟩;by_cases hk:id∈bO u
   ·rcases h.news id h2 with h4|⟨j,h4,h5⟩
    ·omega
    ·by_cases hj:j∈bO u
     ·exact hh ⟨j,by rw[NU];exact List.mem_append_left _ hj,h4,by rw[h5,h3]⟩
     ·have hc:o j≠.none:=by intro e2;rw[e2] at h4;simp[aV,live] at h4
      have:=h.mem.inj id j h2 (by rw[gj hj,h.ny j hc hj];exact h4) (by rw[h.ny j hc hj,h5]);exact hj (this▸hk)
   ·rw[gj hk] at h2;have hc:o id≠.none:=by intro e2;rw[e2] at h2;simp[aV,live] at h2
    rw[h.ny id hc hk] at h3 h2;exact hh ⟨id,by rw[NU];exact List.mem_append_right _ h1,h2,h3⟩
 ·rw[NU,zL,not_or] at hk;rw[h'.ny id (by rw[gj hk.1];exact hn) hk.2,h.ny id hn hk.1]
 ·rw[e] at hx;rcases h'.news id hx with h1|⟨j,h1,h2⟩
  ·exact .inl (Nat.le_trans h.size h1)
  ·rcases h.news j h1 with h3|h3
   ·exact .inl om
   ·exact .inr (h2▸h3)
theorem B0:∀{ks:List Nat} {id:Nat},id∈bO (dH o ks)->∃t ver fr s,o id=.vec t ver fr s/\∀o',ar o' (dH o ks) id=.vec t ver true s
 |[],id,h=>by cases h
 |k::r,id,h=>by
  have:dH o (k::r)=dH o r\/∃t ver fr s,o k=.vec t ver fr s/\dH o (k::r)=(k,.vec t ver true s)::dH o r:=by
   simp only[dH];cases e:o k with
   |vec t ver fr s=>exact .inr ⟨t,ver,fr,s,rfl,rfl⟩
   |_=>exact .inl rfl
  rcases this with e|⟨t,ver,fr,s,e1,e2⟩
  ·rw[e] at h ⊢;exact B0 h
  ·rw[e2] at h ⊢;by_cases hk:id∈bO (dH o r)
   ·obtain⟨t',aB,GG,s',h1,h2⟩:=B0 hk;exact⟨t',aB,GG,s',h1,fun o'=>h2 _⟩
   ·simp only[bO,zt,hk,or_false] at h;subst h;exact⟨t,ver,fr,s,e1,fun o'=>by show ar (ck o' id _) (dH o r) id=_;rw[gj hk,dM]⟩
theorem Vx:∀{ks:List Nat} {id:Nat},id∈ks->∀{t ver fr s},o id=.vec t ver fr s->id∈bO (dH o ks)
 |k::r,id,h,t,ver,fr,s,e=>by
  rcases zt.1 h with h|h
  ·subst h;simp[dH,e,bO]
  ·have:=Vx h e;simp only[dH];split
   ·exact zm _ this
   ·exact this
theorem NV(hm:MRel C X φ o w)(ks:List Nat):Comes C X φ φ o (dH o ks) w w .undef undef:=by
 refine Comes.make hm (Nat.le_refl _) (fun _ _ _=>rfl) (fun _ _=>rfl) (fun _ _ _=>rfl) (fun id hk=>?_) (fun id hk hx=>?_) (fun i j hi _ hx=>?_) (fun hi hw he id hk=>?_) (fun id hk=>by obtain⟨t,ver,fr,s,h1,h2⟩:=B0 hk;have:=hm.oD id;rw[h1] at this;rw[h2 o];exact this) (fun _ _ _=>rfl)
 ·obtain⟨t,ver,fr,s,h1,h2⟩:=B0 hk;rw[h1,h2 o];exact .inr ⟨rfl,rfl,rfl,rfl,rfl,by simp⟩
 ·obtain⟨t,ver,fr,s,h1,h2⟩:=B0 hk;rw[h2 o] at hx;have:=(CS hx).2.1;simp at this
 ·obtain⟨t,ver,fr,s,h1,h2⟩:=B0 hi;rw[h2 o] at hx;have:=(CS hx).2.1;simp at this
 ·obtain⟨t,ver,fr,s,h1,h2⟩:=B0 hk;have ho:=hm.aw id;rw[h2 o];rw[h1] at ho;obtain⟨h3,h4,h5⟩:=ho;refine⟨h3,h4,fun hn=>(h5 hn).imp (fun⟨h6,ec,h7,h8,h9,hg,hc⟩=>?_) fun g=>g⟩;refine⟨h6,ec,mO (fW hi hw t) h7,h8,h9,by simp,fun _=>?_⟩;cases hf:fr with
  |true=>exact hi _ (hc hf)
  |false=>
   have hx:aV (φ id) (o id)=true:=by rw[h1,hf];exact oV hn h6
   obtain⟨g1,g2⟩:=hm.sep id hx;refine⟨g1,g2,fun⟨j,e1,e2⟩=>?_⟩;by_cases hj:j∈bO (dH o ks)
   ·obtain⟨t',aB,GG,s',_,hd⟩:=B0 hj;rw[hd o] at e1;have:=(CS e1).2.1;simp at this
   ·rw[gj hj] at e1;have:=hm.inj j id e1 hx e2;subst this;exact hj hk
end
theorem wB{t t':Ty}{x:den t'}{y:den t}(h:fQ t t' x=some y):∃e:t'=t,y=e▸x:=by
 unfold fQ at h;split at h
 ·rename_i e _;exact⟨e,(zK h).symm⟩
 ·cases h
section
variable {C:Cx} {X:Nat→Prop} {φ:Nat→Addr} {o:Nat→Obj} {w:World} {imm:Nat→Prop}
def Vy(imm:Nat->Prop)(w:World)(e:Ty)(s:Sl (den e))(z:Value):Prop:=s.l.length<=bU/\
 ((s.nil=true/\s.l=[]/\z=.slice none 0 0)\/
  (s.nil=false/\∃a cap ec,z=.slice (some a) s.l.length cap/\(cap≠0->a.spot=none)/\bD (az imm w e) s.l ec/\jC w a ec/\s.l.length<=cap))
theorem NW{a:Addr}{ec:List Value}(n:Nat)(h:jC w a ec):jC w a (ec.take n):=by
 intro j hj;have hc:j<ec.length:=by simp at hj;omega
 rw[h j hc];simp
theorem Sc{x:V}{z:Value}{t:Ty}{s:Sl (den t)}(hl:∀id,oC φ o imm w id (o id))(h:av φ o imm w x z)(he:BT lf o x=some ⟨t,s⟩):Vy imm w t s z/\(∃id ver fr s',o id=.vec t ver fr s'/\(s.nil=false->∀a n c,z=.slice (some a) n c->a.block=(φ id).block)/\s.nil=s'.nil/\(fr=false->id∈eF o x)/\(s'.l=[]->s.l=[])):=by
 cases x<;>simp only[BT] at he<;>try (cases he;done)
 ·rename_i id ver;have ho:=hl id;unfold av at h;split at he
  ·rename_i t' aB fr s' e1;rw[e1] at h ho;cases hb:Nat.beq ver aB with
   |false=>rw[hb] at he;cases he
   |true=>
    rw[hb] at he;simp only[cond_true,zE,Sigma.mk.injEq] at he;obtain⟨rfl,he⟩:=he;have he:=eq_of_heq he;subst he;have h:=h.2 (zg hb);refine⟨⟨ho.1,?_⟩,id,aB,fr,s',e1,?_,rfl,?_,fun h=>h⟩
    ·rcases h with ⟨h1,h2⟩|⟨h1,cap,h2,h3,h4⟩
     ·exact .inl ⟨h1,ho.2.1 h1,h2⟩
     ·rcases ho.2.2 h1 with ⟨h5,ec,h6,h7,_⟩|⟨_,h6,_⟩
      ·exact .inr ⟨h1,_,cap,ec,h2,H8 h4.1,h6,h7,h3⟩
      ·exact .inr ⟨h1,_,cap,[],h2,H8 h4.1,(by rw[h6];rfl),(fun j hj=>by simp at hj),h3⟩
    ·intro hn a n c e;rcases h with ⟨h1,h2⟩|⟨h1,cap,h2,h3,h4⟩
     ·rw[h1] at hn;cases hn
     ·rw[h2] at e;injection e with e _ _;injection e with e;rw[<-e];rfl
    ·intro hf;subst hf;simp[eF,e1]
  ·cases he
 ·rename_i id ver n cp;have ho:=hl id;unfold av at h;split at he
  ·rename_i t' aB fr s' e1;rw[e1] at h ho;cases hb:Nat.beq ver aB with
   |false=>rw[hb] at he;cases he
   |true=>
    rw[hb] at he;simp only[cond_true,zE,Sigma.mk.injEq] at he;obtain⟨rfl,he⟩:=he;have he:=eq_of_heq he;subst he;obtain⟨h0,h,_⟩:=h.2 (zg hb);have e2:(lf.aF s'.l n).length=n:=by simp[lf,aF,Nat.min_eq_left h0]
    refine⟨⟨?_,?_⟩,id,aB,fr,s',e1,?_,rfl,?_,fun h=>by show lf.aF s'.l n=[];rw[h];simp[lf,aF]⟩
    ·show(lf.aF s'.l n).length<=bU;have:=ho.1;omega
    ·rcases h with ⟨h1,h2⟩|⟨h1,cap,h2,h3,h4⟩
     ·exact .inl ⟨h1,by simp[lf,aF,ho.2.1 h1],h2⟩
     ·have e3:z=.slice (some (bare (φ id))) (lf.aF s'.l n).length cap:=by rw[h2];exact congrArg (fun k=>Value.slice (some (bare (φ id))) k cap) e2.symm
      have e4:(lf.aF s'.l n).length<=cap:=om
      rcases ho.2.2 h1 with ⟨h5,ec,h6,h7,_⟩|⟨_,h6,_⟩
      ·exact .inr ⟨h1,bare (φ id),cap,ec.take (n*aI t'),e3,H8 h4.1,(uE n h0 h6).1,NW _ h7,e4⟩
      ·refine .inr ⟨h1,bare (φ id),cap,[],e3,H8 h4.1,?_,(fun j hj=>by simp at hj),e4⟩;have:lf.aF s'.l n=[]:=by rw[h6];simp[lf,aF]
       show bD _ (lf.aF s'.l n) [];rw[this];rfl
    ·intro hn a m c e;rcases h with ⟨h1,h2⟩|⟨h1,cap,h2,h3,h4⟩
     ·rw[show s'.nil=false from hn] at h1;cases h1
     ·rw[h2] at e;injection e with e _ _;injection e with e;rw[<-e];rfl
    ·intro hf;subst hf;simp[eF,e1]
  ·cases he
 ·rename_i id ver lo;have ho:=hl id;unfold av at h;split at he
  ·rename_i t' aB fr s' e1;rw[e1] at h ho;cases hb:Nat.beq ver aB with
   |false=>rw[hb] at he;cases he
   |true=>
    rw[hb] at he;simp only[cond_true,zE,Sigma.mk.injEq] at he;obtain⟨rfl,he⟩:=he;have he:=eq_of_heq he;subst he;obtain⟨k,rfl,hk,h⟩:=h.2 (zg hb);have e0:lf.cB s'.l (k:Int)=s'.l.drop k:=by simp[lf,cB]
    have e2:(lf.cB s'.l (k:Int)).length=s'.l.length-k:=by rw[e0];simp
    refine⟨⟨?_,?_⟩,id,aB,fr,s',e1,?_,rfl,?_,fun h=>by show lf.cB s'.l (k:Int)=[];rw[e0,h];simp⟩
    ·show(lf.cB s'.l (k:Int)).length<=bU;have:=ho.1;omega
    ·rcases h with ⟨h1,h2⟩|⟨h1,cap,h2,h3⟩
     ·exact .inl ⟨h1,by simp[lf,cB,ho.2.1 h1],h2⟩
     ·have e3:z=.slice (some (if cap=0 then bare (φ id) else⟨(φ id).block,(φ id).off+k*aI t',none⟩)) (lf.cB s'.l (k:Int)).length cap:=by rw[h2];exact congrArg (fun j=>Value.slice _ j cap) e2.symm
      have e4:(lf.cB s'.l (k:Int)).length<=cap:=om
      by_cases hc:cap=0
      ·refine .inr ⟨h1,_,cap,[],e3,fun h=>absurd hc h,?_,fun j hj=>by simp at hj,e4⟩;have:lf.cB s'.l (k:Int)=[]:=zQ om;show bD _ (lf.cB s'.l (k:Int)) [];rw[this];rfl
      ·rcases ho.2.2 h1 with ⟨h5,ec,h6,h7,_⟩|⟨_,h6,_⟩
       ·refine .inr ⟨h1,_,cap,ec.drop (k*aI t'),e3,fun _=>by rw[if_neg hc],?_,?_,e4⟩
        ·show bD _ (lf.cB s'.l (k:Int)) _;rw[e0];exact(uE k hk h6).2
        ·rw[if_neg hc];intro j hj;have hd:k*aI t'+j<ec.length:=by simp at hj;omega
         have:=h7 (k*aI t'+j) hd;simp only[Nat.add_assoc] at this ⊢;rw[this];simp
       ·refine .inr ⟨h1,_,cap,[],e3,fun _=>by rw[if_neg hc],?_,fun j hj=>by simp at hj,e4⟩;have:lf.cB s'.l (k:Int)=[]:=by rw[e0,h6];simp
        show bD _ (lf.cB s'.l (k:Int)) [];rw[this];rfl
    ·intro hn a m c e;rcases h with ⟨h1,h2⟩|⟨h1,cap,h2,h3⟩
     ·rw[show s'.nil=false from hn] at h1;cases h1
     ·rw[h2] at e;injection e with e _ _;injection e with e;rw[<-e]
      split<;>rfl
    ·intro hf;subst hf;simp[eF,e1]
  ·cases he
theorem Sd{t:Ty}{x:V}{d:den t}(h:ie lf o t x=some d):x=.d t d\/(∃e,∃ht:.sl e=t,∃s:Sl (den e),BT lf o x=some ⟨e,s⟩/\d=ht▸s)\/(∃e,∃ht:.sl e=t,x=.eM/\d=ht▸(⟨true,[]⟩:Sl (den e))):=by
 cases x<;>simp only[ie] at h<;>try (cases h;done)
 ·obtain⟨rfl,rfl⟩:=wB h;exact .inl rfl
 ·rename_i id ver;cases e1:o id<;>rw[e1] at h<;>simp only at h<;>try (cases h;done)
  rename_i e aB fr s;cases hb:Nat.beq ver aB<;>rw[hb] at h
  ·cases h
  ·obtain⟨ht,hd⟩:=wB h;exact .inr (.inl ⟨e,ht,s,by simp[BT,e1,hb],hd⟩)
 ·rename_i id ver n cp;cases e1:o id<;>rw[e1] at h<;>simp only at h<;>try (cases h;done)
  rename_i e aB fr s;cases hb:Nat.beq ver aB<;>rw[hb] at h
  ·cases h
  ·obtain⟨ht,hd⟩:=wB h;exact .inr (.inl ⟨e,ht,_,by simp[BT,e1,hb],hd⟩)
 ·split at h
  ·rename_i e;exact .inr (.inr ⟨e,rfl,rfl,(zK h).symm⟩)
  ·cases h
 ·rename_i id ver lo;cases e1:o id<;>rw[e1] at h<;>simp only at h<;>try (cases h;done)
  rename_i e aB fr s;cases hb:Nat.beq ver aB<;>rw[hb] at h
  ·cases h
  ·obtain⟨ht,hd⟩:=wB h;exact .inr (.inl ⟨e,ht,_,by simp[BT,e1,hb],hd⟩)
theorem Se{t:Ty}{x:V}{d:den t}(h:lX lf o t x=some d):ie lf o t x=some d\/∃p,∃ht:.ks p=t,∃s:den (.sl (lK p)),ie lf o (.sl (lK p)) x=some s/\d=ht▸LP p s:=by
 unfold lX at h;split at h
 ·rename_i x' h1;injection h with h;subst h;exact .inl h1
 ·cases t with
  |ks p=>
   simp only[LR] at h;split at h
   ·rename_i s h1;injection h with h;exact .inr ⟨p,rfl,s,h1,h.symm⟩
   ·cases h
  |_=>simp only[LR] at h;cases h
def tA(o:Nat->Obj)(x:V):Prop:=∀id,id∈eF o x->∀t ver fr s,o id≠.vec t ver fr s
theorem z5o{e:Ty}{s:Sl (den e)}{z:Value}(h:av φ o imm w (.d (.sl e) s) z):Vy imm w e s z:=by obtain⟨h1,h2⟩:=GI h;exact⟨h1,h2.imp id fun⟨h3,a,cap,ec,h4,h5,_,h7,h8,h9⟩=>⟨h3,a,cap,ec,h4,h5,h7,h8,h9⟩⟩
theorem qlr{e:Ty}{x:V}{s:Sl (den e)}{z:Value}(hl:∀id,oC φ o imm w id (o id))(hx:av φ o imm w x z)(h:lX lf o (.sl e) x=some s):Vy imm w e s z:=by
 have h:ie lf o (.sl e) x=some s:=by
  rcases Se h with h|⟨p,ht,_⟩
  ·exact h
  ·cases ht
 rcases Sd h with rfl|⟨e',ht,s',h1,h2⟩|⟨e',ht,rfl,h2⟩
 ·exact z5o hx
 ·injection ht with ht;subst ht;subst h2;exact(Sc hl hx h1).1
 ·injection ht with ht;subst ht;subst h2;exact⟨Nat.zero_le _,.inl ⟨rfl,rfl,hx⟩⟩
theorem qqs(hm:MRel C X φ o w){t:Ty}{x:V}{d:den t}{z:Value}(hx:av φ o (ah X φ o w) w x z)(hf:tA o x)(h:ie lf o t x=some d):ba (ah X φ o w) w t d z:=by
 rcases Sd h with rfl|⟨e',ht,s',h1,h2⟩|⟨e',ht,rfl,h2⟩
 ·exact hx
 ·subst ht;subst h2;obtain⟨⟨g1,g2⟩,id,ver,fr,s0,g3,g4,g5,g6,g8⟩:=Sc hm.aw hx h1;refine⟨z,rfl,g1,?_⟩;rcases g2 with g2|⟨hn,a,cap,ec,h5,h6,h7,h8,h9⟩
  ·exact .inl g2
  ·refine .inr ⟨hn,a,cap,ec,h5,h6,fun hc=>?_,h7,h8,h9⟩;have hd:fr=true:=by
    cases e:fr with
    |true=>rfl
    |false=>exact absurd g3 (hf id (g6 e) _ _ _ _)
   have ho:=hm.aw id;rw[g3] at ho;obtain⟨_,_,ho⟩:=ho;rcases ho (g5▸hn) with ⟨_,_,_,_,_,_,g7⟩|⟨_,g7,_⟩
   ·rw[g4 hn _ _ _ h5];exact g7 hd
   ·exact absurd (g8 g7) hc
 ·subst ht;subst h2;exact⟨z,rfl,Nat.zero_le _,.inl ⟨rfl,rfl,hx⟩⟩
theorem Vz(hm:MRel C X φ o w){t:Ty}{x:V}{d:den t}{z:Value}(hx:av φ o (ah X φ o w) w x z)(hf:tA o x)(h:lX lf o t x=some d):ba (ah X φ o w) w t d z:=by
 rcases Se h with h|⟨p,ht,s,h1,h2⟩
 ·exact qqs hm hx hf h
 ·subst ht;subst h2;have h3:az (ah X φ o w) w (.sl (lK p)) s [z]:=qqs hm hx hf h1;show az (ah X φ o w) w (.ks p) (LP p s) [z];rw[Mi,Vj];exact h3
theorem qvt{o':Nat->Obj}(ho:∀id,o' id=o id\/∃t ver s,o' id=.vec t ver true s):∀(x:V) (id:Nat),id∈eF o' x->(∃t ver s,o' id=.vec t ver false s)->id∈eF o x:=by
 intro x;have key:∀nB id,(id∈(match o' nB with|.vec _ _ true _=>[]|_=>[nB]))->(∃t ver s,o' id=.vec t ver false s)->id∈(match o nB with|.vec _ _ true _=>[]|_=>[nB]):=by
  rintro nB id h ⟨t,ver,s,e⟩;have:id=nB:=by
   split at h
   ·cases h
   ·simpa using h
  subst this;rcases ho id with e1|⟨t1,acF,s1,e1⟩
  ·rw[<-e1,e];simp
  ·rw[e1] at e;cases e
 refine V.rec (motive_1:=fun x=>∀id,id∈eF o' x->(∃t ver s,o' id=.vec t ver false s)->id∈eF o x)
  (motive_2:=fun l=>∀id,id∈oS o' l->(∃t ver s,o' id=.vec t ver false s)->id∈oS o l)
  ?_ ?_ ?_ ?_ ?_ ?_ ?_ ?_ ?_ ?_ ?_ ?_ ?_ ?_ ?_ ?_ ?_ ?_ ?_ ?_ ?_ ?_ ?_ ?_ ?_ ?_ x
 case refine_2=>exact fun nB ver id h h'=>by unfold eF at*;exact key nB id h h'
 case refine_3=>exact fun nB ver _ _ id h h'=>by unfold eF at*;exact key nB id h h'
 case refine_20=>exact fun nB ver lo id h h'=>by unfold eF at*;exact key nB id h h'
 case refine_11=>exact fun l ih id h h'=>by unfold eF at*;exact ih id h h'
 case refine_26=>
  intro x l iO iP id h h';unfold oS at h ⊢;rcases zL.1 h with h|h
  ·exact List.mem_append_left _ (iO id h h')
  ·exact List.mem_append_right _ (iP id h h')
 all_goals intros;rename_i h _;simp[eF,oS] at h
theorem GO(ks:List Nat)(id:Nat):ar o (dH o ks) id=o id/\(∀t ver s,o id=.vec t ver false s->id∉ks)\/∃t ver fr s,o id=.vec t ver fr s/\ar o (dH o ks) id=.vec t ver true s:=by
 by_cases hk:id∈bO (dH o ks)
 ·obtain⟨t,ver,fr,s,h1,h2⟩:=B0 hk;exact .inr ⟨t,ver,fr,s,h1,h2 o⟩
 ·exact .inl ⟨gj hk,fun t ver s e h=>hk (Vx h e)⟩
theorem Sg{ks:List Nat}{x:V}(h:∀id,id∈eF o x->id∈ks):tA (ar o (dH o ks)) x:=by
 intro id hi t ver fr s e;have hc:fr=false:=by
  cases fr with
  |false=>rfl
  |true=>
   exfalso;revert hi;refine V.rec (motive_1:=fun x=>¬id∈eF (ar o (dH o ks)) x) (motive_2:=fun l=>¬id∈oS (ar o (dH o ks)) l)
    ?_ ?_ ?_ ?_ ?_ ?_ ?_ ?_ ?_ ?_ ?_ ?_ ?_ ?_ ?_ ?_ ?_ ?_ ?_ ?_ ?_ ?_ ?_ ?_ ?_ ?_ x
   case refine_2=>
    intro nB aB h;unfold eF at h;split at h
    ·cases h
    ·rename_i hn;simp at h;subst h;exact hn _ _ _ e
   case refine_3=>
    intro nB aB _ _ h;unfold eF at h;split at h
    ·cases h
    ·rename_i hn;simp at h;subst h;exact hn _ _ _ e
   case refine_20=>
    intro nB aB _ h;unfold eF at h;split at h
    ·cases h
    ·rename_i hn;simp at h;subst h;exact hn _ _ _ e
   case refine_11=>intro l ih h;unfold eF at h;exact ih h
   case refine_26=>
    intro x l iO iP h;unfold oS at h;rcases zL.1 h with h|h
    ·exact iO h
    ·exact iP h
   all_goals intros;simp[eF,oS]
 subst hc;have:=qvt (o:=o) (o':=ar o (dH o ks)) (fun id=>(GO ks id).imp (·.1) fun⟨t,ver,_,s,_,h⟩=>⟨t,ver,s,h⟩) x id hi ⟨t,ver,s,e⟩;rcases GO (o:=o) ks id with ⟨h1,h2⟩|⟨_,_,_,_,_,h2⟩
 ·exact h2 t ver s (h1▸e) (h id this)
 ·rw[h2] at e;cases e
theorem qqt(ks:List Nat)(t:Ty)(x:V):ie lf (ar o (dH o ks)) t x=ie lf o t x:=by
 cases x<;>simp only[ie]
 ·rename_i id ver;rcases GO (o:=o) ks id with ⟨h1,_⟩|⟨_,_,_,_,h1,h2⟩
  ·rw[h1]
  ·rw[h1,h2]
 ·rename_i id ver n cp;rcases GO (o:=o) ks id with ⟨h1,_⟩|⟨_,_,_,_,h1,h2⟩
  ·rw[h1]
  ·rw[h1,h2]
 ·rename_i id ver lo;rcases GO (o:=o) ks id with ⟨h1,_⟩|⟨_,_,_,_,h1,h2⟩
  ·rw[h1]
  ·rw[h1,h2]
theorem CW(ks:List Nat)(t:Ty)(x:V):lX lf (ar o (dH o ks)) t x=lX lf o t x:=by
 unfold lX;rw[qqt];have:LR lf (ar o (dH o ks)) t x=LR lf o t x:=by cases t<;>simp only[LR,qqt]
 rw[this]
theorem z5p(ks:List Nat):∀(t:Ty) (cs:List V),kF lf (ar o (dH o ks)) t cs=kF lf o t cs:=by
 intro t
 induction t with
 |unit=>intro cs;rfl
 |pair a b nA jD=>intro cs;simp only[kF,nA,jD]
 |st p ih=>intro cs;simp only[kF,ih]
 |arr n e _=>intro cs;rfl
 |int k=>intro cs;cases cs<;>simp only[kF,CW]
 |bool=>intro cs;cases cs<;>simp only[kF,CW]
 |ej=>intro cs;cases cs<;>simp only[kF,CW]
 |cJ=>intro cs;cases cs<;>simp only[kF,CW]
 |str=>intro cs;cases cs<;>simp only[kF,CW]
 |sl e _=>intro cs;cases cs<;>simp only[kF,CW]
 |ks e _=>intro cs;cases cs<;>simp only[kF,CW]
theorem qqu(ks:List Nat)(t:Ty)(x:V):fj lf (ar o (dH o ks)) t x=fj lf o t x:=by cases x<;>simp only[fj,CW,z5p]
theorem qvu(hm:MRel C X φ o w):∀(t:Ty) (cs r:List V) (d:den t) (zs:List Value),bV φ o (ah X φ o w) w cs zs->(∀c,c∈cs->tA o c)->kF lf o t cs=some (d,r)->∃zc zr,zs=zc++zr/\az (ah X φ o w) w t d zc/\bV φ o (ah X φ o w) w r zr/\(∀c,c∈r->tA o c):=by
 have one:∀(t:Ty) (cs r:List V) (d:den t) (zs:List Value),bV φ o (ah X φ o w) w cs zs->(∀c,c∈cs->tA o c)->
   (match cs with|c::r=>(match lX lf o t c with|some x=>some (x,r)|none=>none)|[]=>none)=some (d,r)->
   ∃z zr,zs=z::zr/\ba (ah X φ o w) w t d z/\bV φ o (ah X φ o w) w r zr/\(∀c,c∈r->tA o c):=by
  intro t cs r d zs hr hf h;cases cs with
  |nil=>cases h
  |cons c cs=>
   simp only at h;split at h
   ·rename_i x hx;injection h with h;injection h with h1 h2;subst h1 h2;obtain⟨z,zr,h3,h4,h5⟩:=hr;exact⟨z,zr,h3,Vz hm h4 (hf _ (zj ..)) hx,h5,fun c hc=>hf c (zm _ hc)⟩
   ·cases h
 intro t
 induction t with
 |unit=>intro cs r d zs hr hf h;simp only[kF,zE,Prod.mk.injEq] at h;obtain⟨_,rfl⟩:=h;exact⟨[],zs,rfl,rfl,hr,hf⟩
 |pair a b nA jD=>
  intro cs r d zs hr hf h;simp only[kF] at h;split at h
  ·rename_i x r1 h1;split at h
   ·rename_i y r2 h2;injection h with h;injection h with h3 h4;subst h3 h4;obtain⟨zc,zr,e1,e2,e3,e4⟩:=nA _ _ _ _ hr hf h1;obtain⟨NX,VA,g1,g2,g3,g4⟩:=jD _ _ _ _ e3 e4 h2;exact⟨zc++NX,VA,by rw[e1,g1,zC],⟨zc,NX,rfl,e2,g2⟩,g3,g4⟩
   ·cases h
  ·cases h
 |st p ih=>intro cs r d zs hr hf h;exact ih _ _ _ _ hr hf h
 |arr n e _=>intro cs r d zs hr hf h;cases h
 |int k=>intro cs r d zs hr hf h;obtain⟨z,zr,e1,e2,e3⟩:=one _ cs r d zs hr hf (by cases cs<;>exact h);exact⟨[z],zr,e1,e2,e3⟩
 |bool=>intro cs r d zs hr hf h;obtain⟨z,zr,e1,e2,e3⟩:=one _ cs r d zs hr hf (by cases cs<;>exact h);exact⟨[z],zr,e1,e2,e3⟩
 |ej=>intro cs r d zs hr hf h;obtain⟨z,zr,e1,e2,e3⟩:=one _ cs r d zs hr hf (by cases cs<;>exact h);exact⟨[z],zr,e1,e2,e3⟩
 |cJ=>intro cs r d zs hr hf h;obtain⟨z,zr,e1,e2,e3⟩:=one _ cs r d zs hr hf (by cases cs<;>exact h);exact⟨[z],zr,e1,e2,e3⟩
 |str=>intro cs r d zs hr hf h;obtain⟨z,zr,e1,e2,e3⟩:=one _ cs r d zs hr hf (by cases cs<;>exact h);exact⟨[z],zr,e1,e2,e3⟩
 |sl e _=>intro cs r d zs hr hf h;obtain⟨z,zr,e1,e2,e3⟩:=one _ cs r d zs hr hf (by cases cs<;>exact h);exact⟨[z],zr,e1,e2,e3⟩
 |ks e _=>intro cs r d zs hr hf h;obtain⟨z,zr,e1,e2,e3⟩:=one _ cs r d zs hr hf (by cases cs<;>exact h);exact⟨[z],zr,e1,e2,e3⟩
theorem VB:∀{cs:List V},tA o (.agg cs)->∀c,c∈cs->tA o c
 |c'::cs,h,c,hc,id,hi=>by
  rcases zt.1 hc with rfl|hc
  ·exact h id (by unfold eF oS;exact List.mem_append_left _ hi)
  ·exact VB (cs:=cs) (fun id hi=>h id (by unfold eF at hi ⊢;unfold oS;exact List.mem_append_right _ hi)) c hc id hi
theorem VC(hm:MRel C X φ o w){t:Ty}{x:V}{d:den t}{z:Value}(hx:av φ o (ah X φ o w) w x z)(hf:tA o x)(h:fj lf o t x=some d):ba (ah X φ o w) w t d z:=by
 by_cases hc:∃cs,x=.agg cs
 ·obtain⟨cs,rfl⟩:=hc;simp only[fj] at h;split at h
  ·rename_i p;split at h
   ·rename_i y h1;injection h with h;subst h;obtain⟨c,rfl,hr⟩:=hx;obtain⟨zc,zr,e1,e2,e3,_⟩:=qvu hm _ _ _ _ _ hr (VB hf) h1;have:zr=[]:=e3;subst this;exact⟨c,rfl,by rw[e1,zu];exact e2⟩
   ·cases h
  ·cases h
 ·have:fj lf o t x=lX lf o t x:=by cases x<;>first|rfl|exact absurd ⟨_,rfl⟩ hc
  exact Vz hm hx hf (this▸h)
end
def CY:TypeDesc->Bool
 |.struct _|.array .. =>true
 |_=>false
theorem NY{C:Cx}{d:TypeDesc}{T:Ty}(h:l7 C d T=true):CY d=iQ T/\jA T=!iQ T:=by cases d<;>cases T<;>first|exact⟨rfl,rfl⟩|(simp only[l7] at h;cases h;done)
theorem qJ{a:Addr}(h:a.spot=none)(n:Nat):a.add n=⟨a.block,a.off+n,none⟩:=by
 unfold Addr.add;split
 ·rename_i e;subst e;obtain⟨b,f,s⟩:=a;simp only at h;subst h;rfl
 ·rfl
section
variable {P:Program} {C:Cx} {X:Nat→Prop} {φ:Nat→Addr} {o:Nat→Obj} {w:World} {imm:Nat→Prop}
theorem Ii{t:TypeId}{d:TypeDesc}(h:P.underlying t=some d):(Go.isAgg t).run P w=.ok (CY d) w:=by unfold Go.isAgg;rw[Sem.run_bind,run_underlying h w];cases d<;>simp[CY]
theorem iG{t:TypeId}{i:TypeInfo}(h:P.info? t=some i):(Go.sizeOf t).run P w=.ok i.size w:=by simp[Go.sizeOf,typeInfo,h]
theorem xo{t:TypeId}{i:TypeInfo}{z:Value}(h:P.info? t=some i)(hz:i.zero=some z):(zeroValue t).run P w=.ok z w:=by simp[zeroValue,typeInfo,h,hz]
theorem q8o{a:Addr}(hs:a.spot=none){cs:List Value}{n:Nat}(hn:cs.length=n)(h:jC w a cs):(loadCells a n).run P w=.ok cs.toArray w:=by subst hn;refine run_loadCells_list w a cs fun j v hv=>?_;rw[qJ hs];obtain⟨hj,e⟩:=zH.1 hv;rw[h j hj,e]
theorem qp0{a:Addr}(hs:a.spot=none){v:Value}{cs:List Value}(h:jC w a (v::cs)):(load a).run P w=.ok v w:=by have:=h 0 (by simp);obtain⟨b,f,s⟩:=a;simp only at hs;subst hs;simp only[Nat.add_zero,List.getElem_cons_zero] at this;simp[this]
theorem Si{T:Ty}{d:den T}{cs:List Value}(hs:jA T=true)(h:az imm w T d cs):∃v,cs=[v]/\ba imm w T d v:=by
 cases T<;>simp only[jA] at hs<;>try (cases hs;done)
 ·exact⟨_,h.1,by simpa[ba,az] using h.2⟩
 ·exact⟨_,h,by simp[ba,az]⟩
 ·obtain⟨s,h1,h2⟩:=h;exact⟨_,h1,s,rfl,h2⟩
 ·obtain⟨v,h1,h2⟩:=h;exact⟨_,h1,v,rfl,h2⟩
 ·exact⟨_,h,by simp[ba,az]⟩
 ·exact⟨_,h,by simp[ba,az]⟩
theorem qls{T:Ty}{d:den T}{v:Value}(hs:jA T=true)(h:ba imm w T d v):az imm w T d [v]:=by cases T<;>simp only[jA] at hs<;>first|exact h|cases hs
theorem z0p{T:Ty}{d:den T}{v:Value}(hs:iQ T=true)(h:ba imm w T d v):∃cs:Array Value,v=.agg cs/\az imm w T d cs.toList:=by cases T<;>simp only[iQ] at hs<;>first|exact h|cases hs
theorem VD{T:Ty}{d:den T}{cs:Array Value}(hs:iQ T=true)(h:az imm w T d cs.toList):ba imm w T d (.agg cs):=by cases T<;>simp only[iQ] at hs<;>first|exact⟨cs,rfl,h⟩|cases hs
theorem qie{C:Cx}{t:TypeId}{T:Ty}(ht:l9 C t T){d:den T}{v:Value}(h:ba imm w T d v):az imm w T d v.cells.toList:=by
 obtain⟨_,_,_,hd⟩:=ht.desc;obtain⟨_,hk⟩:=NY hd;cases ha:iQ T with
 |true=>obtain⟨cs,rfl,h1⟩:=z0p ha h;exact h1
 |false=>
  rw[ha] at hk;have:=qls hk h;have e:v.cells=#[v]:=by
   cases T<;>simp only[jA] at hk<;>try (cases hk;done)
   ·have h2:=h.1;simp only[List.cons.injEq,and_true] at h2;subst h2;rfl
   ·have h2:[v]=[_]:=h;simp only[List.cons.injEq,and_true] at h2;subst h2;rfl
   ·obtain⟨s,h2,_⟩:=h;simp only[List.cons.injEq,and_true] at h2;subst h2;rfl
   ·obtain⟨v',h2,_,h3⟩:=h;simp only[List.cons.injEq,and_true] at h2;subst h2;rcases h3 with ⟨_,_,rfl⟩|⟨_,a,cap,ec,rfl,_⟩<;>rfl
   ·have h2:[v]=[_]:=h;simp only[List.cons.injEq,and_true] at h2;subst h2;rfl
   ·have h2:[v]=[_]:=h;simp only[List.cons.injEq,and_true] at h2;subst h2;rfl
  rw[e];exact this
theorem qif{t:TypeId}{T:Ty}(h:l9 C t T){a:Addr}(hs:a.spot=none){d:den T}{cs:List Value}(hr:az imm w T d cs)(hc:jC w a cs):∃v,(loadVar t a).run C.P w=.ok v w/\ba imm w T d v:=by
 obtain⟨dd,_,hu,hd⟩:=h.desc;obtain⟨i,z,hi,_,hg,_⟩:=h.info;obtain⟨he,hf⟩:=NY hd;have hl:=fX T d cs hr;unfold loadVar;simp only[Sem.run_bind,Ii hu,Result.andThen_ok];cases ha:iQ T with
 |true=>rw[he,ha];refine⟨.agg cs.toArray,?_,VD ha (by simpa using hr)⟩;simp[iG hi,q8o hs (hl.trans hg.symm) hc]
 |false=>rw[he,ha];rw[ha] at hf;obtain⟨v,rfl,h2⟩:=Si hf hr;exact⟨v,by simpa using qp0 hs hc,h2⟩
theorem Sj{t:TypeId}{T:Ty}(h:l9 C t T){cs:Array Value}{off:Nat}{d:den T}(hr:az imm w T d ((cs.toList.drop off).take (aI T))):∃v,(part t cs off).run C.P w=.ok v w/\ba imm w T d v:=by
 obtain⟨dd,_,hu,hd⟩:=h.desc;obtain⟨i,z,hi,_,hf,_⟩:=h.info;obtain⟨hc,he⟩:=NY hd;unfold part;simp only[Sem.run_bind,Ii hu,Result.andThen_ok];cases ha:iQ T with
 |true=>
  rw[hc,ha];refine⟨.agg (cs.extract off (off+aI T)),?_,VD ha ?_⟩
  ·simp[iG hi,hf]
  ·rw[Array.toList_extract,List.extract_eq_take_drop,Nat.add_sub_cancel_left];exact hr
 |false=>
  rw[hc,ha];rw[ha] at he;obtain⟨v,e,h2⟩:=Si he hr;refine⟨v,?_,h2⟩;have:cs[off]?=some v:=by
   have e1:=congrArg (fun l=>l[0]?) e;simp only[List.getElem?_cons_zero] at e1;rw[List.getElem?_take] at e1;split at e1
   ·simpa using e1
   ·cases e1
  simp[this]
theorem VE:∀(p:Ty) (f:Nat) (y:den p) {u:Ty} {z:den u},LS p f y=some ⟨u,z⟩->nv p f=some u/\(∀cs,az imm w p y cs->az imm w u z ((cs.drop (fw p f)).take (aI u))):=by
 have base:∀(t:Ty) (y:den t) (u:Ty) (z:den u),(some ⟨t,y⟩:Option ((t:Ty)×den t))=some ⟨u,z⟩->t=u/\(∀cs,az imm w t y cs->az imm w u z ((cs.drop 0).take (aI u))):=by intro t y u z h;injection h with h;injection h with h1 h2;subst h1;have h2:=eq_of_heq h2;subst h2;exact⟨rfl,fun cs hc=>by rw[List.drop_zero,<-fX _ _ _ hc,List.take_length];exact hc⟩
 intro p
 induction p with
 |pair a b _ jD=>
  intro f y u z h;cases f with
  |zero=>
   simp only[LS] at h;obtain⟨h1,h2⟩:=base _ _ _ _ h;subst h1;refine⟨rfl,fun cs ⟨c,d,e,h3,h4⟩=>?_⟩;have:=h2 c h3;rw[e];simp only[fw,List.drop_zero] at this ⊢;rw[<-fX _ _ _ h3] at this ⊢;rw[List.take_left']
   ·rw[List.take_length] at this;exact this
   ·rfl
  |succ n=>simp only[LS] at h;obtain⟨h1,h2⟩:=jD n y.2 h;refine⟨h1,fun cs ⟨c,d,e,h3,h4⟩=>?_⟩;have:=h2 d h4;rw[e];simp only[fw];rw[<-fX _ _ _ h3,List.drop_length_add_append];exact this
 |unit=>intro f y u z h;cases f<;>cases h
 |int k=>intro f y u z h;cases f with|zero=>obtain⟨rfl,h2⟩:=base _ _ _ _ h;exact⟨rfl,h2⟩|succ n=>cases h
 |bool=>intro f y u z h;cases f with|zero=>obtain⟨rfl,h2⟩:=base _ _ _ _ h;exact⟨rfl,h2⟩|succ n=>cases h
 |ej=>intro f y u z h;cases f with|zero=>obtain⟨rfl,h2⟩:=base _ _ _ _ h;exact⟨rfl,h2⟩|succ n=>cases h
 |cJ=>intro f y u z h;cases f with|zero=>obtain⟨rfl,h2⟩:=base _ _ _ _ h;exact⟨rfl,h2⟩|succ n=>cases h
 |str=>intro f y u z h;cases f with|zero=>obtain⟨rfl,h2⟩:=base _ _ _ _ h;exact⟨rfl,h2⟩|succ n=>cases h
 |sl e=>intro f y u z h;cases f with|zero=>obtain⟨rfl,h2⟩:=base _ _ _ _ h;exact⟨rfl,h2⟩|succ n=>cases h
 |ks q=>intro f y u z h;cases f with|zero=>obtain⟨rfl,h2⟩:=base (.sl (lK q)) (CF q y) _ _ h;exact⟨rfl,fun cs hc=>h2 cs ((Mi q y cs).1 hc)⟩|succ n=>cases h
 |st p=>intro f y u z h;cases f with|zero=>obtain⟨rfl,h2⟩:=base _ _ _ _ h;exact⟨rfl,h2⟩|succ n=>cases h
 |arr m e=>intro f y u z h;cases f with|zero=>obtain⟨rfl,h2⟩:=base _ _ _ _ h;exact⟨rfl,h2⟩|succ n=>cases h
theorem VF(hC:cu C):∀(fs:List Field) (p:Ty) (off f:Nat) {u:Ty},qI C fs p off=true->nv p f=some u->∃fd,fs[f]?=some fd/\C.ty fd.type=some u/\fd.offset=off+fw p f:=by
 intro fs
 induction fs with
 |nil=>intro p off f u h h1;cases p<;>first|(simp only[qI] at h;cases h;done)|(cases f<;>cases h1)
 |cons g r ih=>
  intro p off f u h h1;cases r with
  |nil=>
   have h:(C.is g.type (NT p)&&Nat.beq g.offset off)=true:=by cases p<;>exact h
   rw[zd] at h;have ht:=bP h.1;obtain⟨_,_,_,hd⟩:=(hC.dQ _ _ ht).desc;obtain⟨_,hk⟩:=NY hd;have:f=0/\u=NT p/\fw p 0=0:=by
    cases f with
    |zero=>cases p<;>first|exact⟨rfl,(zK h1).symm,rfl⟩|(simp only[jA,iQ] at hk;cases hk;done)
    |succ n=>cases p<;>first|(cases h1;done)|(simp only[jA,iQ] at hk;cases hk;done)
   obtain⟨rfl,rfl,h0⟩:=this;exact⟨g,rfl,ht,by rw[h0];exact zg h.2⟩
  |cons g' r=>
   cases p<;>simp only[qI] at h<;>try (cases h;done)
   rename_i a b;simp only[zd] at h;cases f with
   |zero=>simp only[nv,zE] at h1;subst h1;exact⟨g,rfl,bP h.1.1,by simpa[fw] using zg h.1.2⟩
   |succ n=>obtain⟨fd,h2,h3,h4⟩:=ih b (off+aI a) n h.2 h1;exact⟨fd,by simpa using h2,h3,by simp only[fw];omega⟩
theorem GP{t:TypeId}{b:Bool}{n:Nat}(h:uv P t=some (b,n)):∃i d,P.info? t=some i/\i.size=n/\P.underlying t=some d/\CY d=b:=by
 unfold uv at h;cases h1:P.types.toList[t]? with
 |none=>rw[h1] at h;cases h
 |some i=>
  rw[h1] at h;simp only at h;cases h2:desc P t with
  |none=>rw[h2] at h;cases h
  |some d=>
   rw[h2] at h;refine⟨i,d,NQ h1,?_,j8 h2,?_⟩
   ·cases d<;>simp only[zE,Prod.mk.injEq] at h<;>exact h.2
   ·cases d<;>simp only[zE,Prod.mk.injEq] at h<;>exact h.1
theorem qdy{t:TypeId}{f:Nat}{fd:Field}(h:Nj P t f=some fd):∃fs,P.underlying t=some (.struct fs)/\desc P t=some (.struct fs)/\fs[f]?=some fd:=by
 unfold Nj at h;split at h
 ·rename_i fs e;exact⟨fs,j8 e,e,by rw[<-zN];exact h⟩
 ·cases h
theorem Sk(hC:cu C){t:TypeId}{p:Ty}(h:C.ty t=some (.st p)):∃fs,desc C.P t=some (.struct fs)/\C.P.underlying t=some (.struct fs)/\qI C fs.toList p 0=true:=by obtain⟨d,h1,h2,h3⟩:=(hC.dQ _ _ h).desc;cases d<;>first|exact⟨_,h1,h2,h3⟩|(simp only[l7] at h3;cases h3;done)
theorem NZ:∀{cs:List V} {zs:List Value} {i:Nat} {v:V},bV φ o imm w cs zs->cs[i]?=some v->∃z,zs[i]?=some z/\av φ o imm w v z
 |[],_,_,_,_,h=>by simp at h
 |x::l,_,0,v,⟨z,r,e,h1,_⟩,h=>by simp only[List.getElem?_cons_zero,zE] at h;subst h e;exact⟨z,rfl,h1⟩
 |x::l,_,i+1,v,⟨z,r,e,_,h2⟩,h=>by subst e;simp only[List.getElem?_cons_succ] at h ⊢;exact NZ h2 h
theorem N0:∀{cs:List V} {zs:List Value} (n:Nat),bV φ o imm w cs zs->bV φ o imm w (cs.drop n) (zs.drop n)
 |_,_,0,h=>h
 |[],_,n+1,h=>by simp[bV] at h;subst h;simp[bV]
 |x::l,_,n+1,⟨z,r,e,_,h2⟩=>by subst e;exact N0 n h2
theorem N1:∀{cs:List V} {zs:List Value} (n:Nat),bV φ o imm w cs zs->bV φ o imm w (cs.take n) (zs.take n)
 |_,_,0,h=>by simp[bV]
 |[],_,n+1,h=>by simp[bV] at h;subst h;simp[bV]
 |x::l,_,n+1,⟨z,r,e,h1,h2⟩=>by subst e;exact⟨z,_,rfl,h1,N1 n h2⟩
theorem GQ:∀{cs:List V} {zs:List Value},bV φ o imm w cs zs->cs.length=zs.length
 |[],_,h=>by simp[bV] at h;subst h;rfl
 |x::l,_,⟨z,r,e,_,h2⟩=>by subst e;simp[GQ h2]
theorem GR:∀{cs ds:List V} {zs ys:List Value},bV φ o imm w cs zs->bV φ o imm w ds ys->bV φ o imm w (cs++ds) (zs++ys)
 |[],_,_,_,h,h'=>by simp[bV] at h;subst h;exact h'
 |x::l,_,_,_,⟨z,r,e,h1,h2⟩,h'=>by subst e;exact⟨z,_,rfl,h1,GR h2 h'⟩
theorem qlt(hm:MRel C X φ o w){t:TypeId}{cs:List V}{zs:Array Value}(h:bV φ o (ah X φ o w) w cs zs.toList):av φ o (ah X φ o w) w (RE lf C o t cs) (.agg zs):=by
 have Ij:av φ o (ah X φ o w) w (.agg cs) (.agg zs):=⟨zs,rfl,h⟩;unfold RE;split
 ·rename_i p _;split
  ·rename_i e1 _;split
   ·rename_i x e;have hf:∀c,c∈cs->tA o c:=VB (fun id hi=>by unfold eF at hi;rw[e1] at hi;cases hi);obtain⟨zc,zr,g1,g2,g3,_⟩:=qvu hm _ _ _ _ _ h hf e;have:zr=[]:=g3;subst this;exact⟨zs,rfl,by rw[g1,zu];exact g2⟩
   ·exact Ij
  ·exact Ij
 ·exact Ij
end
theorem qhm{α:Type}{l:List α}{n b m:Nat}(h:(((l.take n).drop b).take m).length=m):((l.take n).drop b).take m=(l.drop b).take m:=by rw[List.drop_take,List.take_take] at h ⊢;rw[zJ] at h;rw[Nat.min_eq_left om]
section
variable {P:Program} {C:Cx} {X:Nat→Prop} {φ:Nat→Addr} {o:Nat→Obj} {w:World} {imm:Nat→Prop}
theorem VG:∀{p:Ty} {f:Nat} {u:Ty},nv p f=some u->Vk p f=u:=by
 intro p
 induction p with
 |pair a b _ jD=>intro f u h;cases f with|zero=>exact zK h|succ n=>exact jD h
 |unit=>intro f u h;cases f<;>cases h
 |_=>intro f u h;cases f with|zero=>exact zK h|succ n=>cases h
theorem qvx:∀(p:Ty) (f:Nat) (y:den p) {u:Ty},nv p f=some u->∃z,LS p f y=some ⟨u,z⟩:=by
 intro p
 induction p with
 |pair a b _ jD=>intro f y u h;cases f with|zero=>have:=zK h;subst this;exact⟨y.1,rfl⟩|succ n=>exact jD n y.2 h
 |unit=>intro f y u h;cases f<;>cases h
 |ks q _=>intro f y u h;cases f with|zero=>have:=zK h;subst this;exact⟨CF q y,rfl⟩|succ n=>cases h
 |_=>intro f y u h;cases f with|zero=>have:=zK h;subst this;exact⟨y,rfl⟩|succ n=>cases h
theorem qlu:∀(path:List Nat) (t:Ty) (x:den t) {u:Ty},BR path t=some u->∃y,Rq path t x=some ⟨u,y⟩/\∀(imm:Nat->Prop) (w:World) cs,az imm w t x cs->az imm w u y ((cs.drop (iF path t)).take (aI u))
 |[],t,x,u,h=>by have:=zK h;subst this;refine⟨x,rfl,fun imm w cs hc=>?_⟩;rw[show iF [] t=0 from rfl,List.drop_zero,<-fX _ _ _ hc,List.take_length];exact hc
 |f::r,t,x,u,h=>by
  cases t<;>simp only[BR] at h<;>try (cases h;done)
  rename_i p;split at h
  ·rename_i u1 h1;obtain⟨y,h2⟩:=qvx p f x h1;obtain⟨y',h3,h4⟩:=qlu r u1 y h;refine⟨y',by simp only[Rq,LU,h2];exact h3,fun imm w cs hc=>?_⟩;obtain⟨_,h5⟩:=VE (imm:=imm) (w:=w) p f x h2;have h6:=h4 imm w _ (h5 cs hc);have hl:=fX _ _ _ h6;rw[qhm hl,List.drop_drop] at h6;simp only[iF,VG h1];exact h6
  ·cases h
theorem Mq{a:Addr}{cs:List Value}(k n:Nat)(h:jC w a cs):jC w ⟨a.block,a.off+k,none⟩ ((cs.drop k).take n):=by
 intro j hj;have hc:k+j<cs.length:=by simp at hj;omega
 have:=h (k+j) hc;simp only[List.getElem_take,List.getElem_drop];rw[<-this,Nat.add_assoc]
theorem N2{b:Nat}{c:Array Value}{el:TypeId}{fz:Nat×Nat}(h:w.heap[b]?=some (.cells c el fz))(off n:Nat):jC w ⟨b,off,none⟩ ((c.toList.drop off).take n):=by
 intro j hj;have hc:off+j<c.size:=by simp at hj;omega
 simp[World.cell?,h,hc]
theorem qlv(hC:cu C)(hm:MRel C X φ o w){t:TypeId}{x:V}{z:Value}{v:V}{u:List (Nat×Obj)}(hx:av φ o (ah X φ o w) w x z)(h:(RG lf C o t x).aG v u):u=[]/\oW C.P φ o (ah X φ o w) w v (Instr.loadAt t z):=by
 unfold RG at h;split at h
 ·rename_i t' d;rw[df,cY] at h;obtain⟨h1,rfl,rfl⟩:=h;obtain⟨a,cs,rfl,h2,_,h4,h5⟩:=hx;obtain⟨v,h6,h7⟩:=qif (hC.dQ _ _ (bP h1)) h2 h4 h5;exact⟨rfl,v,by simp[Instr.loadAt,Instr.sureAddr,h6],h7⟩
 ·rename_i t' d;split at h
  ·rename_i n hk;rw[cY] at h;obtain⟨rfl,rfl⟩:=h;obtain⟨i,d',g1,g2,g3,g4⟩:=GP hk;obtain⟨a,b,cs,rfl,h2,h3,h4,h5⟩:=hx;refine⟨rfl,.pointer (some b),?_,b,cs,rfl,h5⟩;have hc:w.cell? a=some (.pointer (some b)):=by have:=h4 0 (by simp);obtain⟨b1,f1,s1⟩:=a;simp only at h2;subst h2;simpa using this
   simp[Instr.loadAt,Instr.sureAddr,loadVar,Ii g3,g4,hc]
  ·cases h
 ·rename_i id off;have ho:=hm.aw id;unfold av at hx;split at h
  ·rename_i cs e;rw[e] at hx ho;simp only at hx;subst hx;obtain⟨h0,c,el,lo,hi,h1,h2,h3⟩:=ho;split at h
   ·rename_i n hk;rw[df,cY] at h;obtain⟨hb,rfl,rfl⟩:=h;have hb:=zF hb;obtain⟨i,d,g1,g2,g3,g4⟩:=GP hk;have hl:=GQ h3;refine⟨rfl,.agg ((c.toList.drop off).take n).toArray,?_,qlt hm (by simpa using N1 n (N0 off h3))⟩;have:=q8o (P:=C.P) (w:=w) (a:=⟨(φ id).block,(φ id).off+off,none⟩) rfl (n:=n) (cs:=(c.toList.drop off).take n) (by simp at hl ⊢;omega) (by
     rw[h0,zO];exact N2 h1 off n)
    simp[Instr.loadAt,Instr.sureAddr,loadVar,Ii g3,g4,iG g1,g2,this]
   ·rename_i n hk;split at h
    ·rename_i v' hv;rw[cY] at h;obtain⟨rfl,rfl⟩:=h;obtain⟨i,d,g1,g2,g3,g4⟩:=GP hk;obtain⟨z,hz,hr⟩:=NZ h3 hv;refine⟨rfl,z,?_,hr⟩;have:w.cell? ⟨(φ id).block,(φ id).off+off,none⟩=some z:=by rw[h0,zO];simp only[World.cell?,h1];simpa using hz
     simp[Instr.loadAt,Instr.sureAddr,loadVar,Ii g3,g4,this]
    ·cases h
   ·cases h
  ·cases h
 ·rename_i id ver i path;have ho:=hm.aw id;unfold av at hx;split at h
  ·rename_i e aB fr s e1;rw[e1] at hx ho;split at h
   ·rename_i t' ht;rw[df,lN,zd] at h;obtain⟨⟨h1,h2⟩,x,h3,h4⟩:=h;obtain⟨_,hx⟩:=hx;obtain⟨hi,rfl⟩:=hx (zg h1);obtain⟨y,h5,h6⟩:=qlu path e x ht;rw[h5] at h4;simp only[Prod.mk.injEq] at h4;obtain⟨rfl,rfl⟩:=h4;obtain⟨g1,g2,g3⟩:=ho;have hn:s.nil=false:=by
     cases hn:s.nil with
     |false=>rfl
     |true=>rw[g2 hn] at hi;simp at hi
    obtain⟨g4,ec,g5,g6,_⟩:=(g3 hn).resolve_right fun g=>by rw[g.2.1] at hi;simp at hi
    have h3:s.l[i]?=some x:=h3;obtain⟨hd,he⟩:=zH.1 h3;have hr:=NI g5 i hd;rw[he] at hr;have hr:=h6 _ _ _ hr;have hc:=Mq (iF path e) (aI t') (Mq (i*aI e) (aI e) g6);obtain⟨v,k1,k2⟩:=qif (w:=w) (hC.dQ _ _ (bP h2)) (a:=⟨(φ id).block,(φ id).off+i*aI e+iF path e,none⟩) rfl hr hc;exact⟨rfl,v,by simp[Instr.loadAt,Instr.sureAddr,k1],k2⟩
   ·cases h
  ·cases h
 ·cases h
theorem qt6(hC:cu C)(_hm:MRel C X φ o w){t:TypeId}{f:Nat}{x:V}{z:Value}{v:V}{u:List (Nat×Obj)}(hx:av φ o (ah X φ o w) w x z)(h:(UP C t x f).aG v u):u=[]/\oW C.P φ o (ah X φ o w) w v (Instr.field t z f):=by
 unfold UP at h;split at h
 ·rename_i t' y;rw[df] at h;obtain⟨h1,h⟩:=h;split at h
  ·rename_i u' z' h2;rw[cY] at h;obtain⟨rfl,rfl⟩:=h;cases t'<;>simp only[LU] at h2<;>try (cases h2;done)
   rename_i p;obtain⟨fs,g1,g2,g3⟩:=Sk hC (bP h1);obtain⟨k1,k2⟩:=VE (imm:=ah X φ o w) (w:=w) p f y h2;obtain⟨fd,m1,m2,m3⟩:=VF hC _ _ _ _ g3 k1;obtain⟨cs,rfl,hr⟩:=hx;obtain⟨v,n1,n2⟩:=Sj (w:=w) (hC.dQ _ _ m2) (cs:=cs) (off:=fd.offset) (by rw[m3,zO];exact k2 _ hr);refine⟨rfl,v,?_,n2⟩;rw[zN] at m1;simp[Instr.field,run_underlying g2,m1,asAgg,n1]
  ·cases h
 ·rename_i cs;obtain⟨c,rfl,hr⟩:=hx;split at h
  ·rename_i fd hf;obtain⟨fs,f1,f2,f3⟩:=qdy hf;split at h
   ·rename_i n hk;rw[df,cY] at h;obtain⟨_,rfl,rfl⟩:=h;obtain⟨i,d,g1,g2,g3,g4⟩:=GP hk;refine⟨rfl,.agg (c.extract fd.offset (fd.offset+n)),?_,_,rfl,?_⟩
    ·simp[Instr.field,run_underlying f1,f3,asAgg,part,Ii g3,g4,iG g1,g2]
    ·rw[Array.toList_extract,List.extract_eq_take_drop,Nat.add_sub_cancel_left];exact N1 n (N0 _ hr)
   ·rename_i n hk;split at h
    ·rename_i v' hv;rw[cY] at h;obtain⟨rfl,rfl⟩:=h;obtain⟨i,d,g1,g2,g3,g4⟩:=GP hk;obtain⟨z,hz,hc⟩:=NZ hr hv;rw[zN] at hz;refine⟨rfl,z,?_,hc⟩;simp[Instr.field,run_underlying f1,f3,asAgg,part,Ii g3,g4,hz]
    ·cases h
   ·cases h
  ·cases h
 ·cases h
theorem qhn(hC:cu C)(_hm:MRel C X φ o w){t:TypeId}{f:Nat}{x:V}{z:Value}{v:V}{u:List (Nat×Obj)}(hx:av φ o (ah X φ o w) w x z)(h:(L6 C o t x f).aG v u):u=[]/\oW C.P φ o (ah X φ o w) w v (Instr.fieldAt t z f):=by
 unfold L6 at h;split at h
 ·cases h
 ·rename_i fd hf;obtain⟨fs,f1,f1',f2⟩:=qdy hf;split at h
  ·rename_i b sz hk;rw[df] at h;obtain⟨hd,h⟩:=h;have hd:0<sz:=zF hd;obtain⟨i,d,g1,g2,g3,g4⟩:=GP hk;have run:∀a:Addr,(Instr.fieldAt t (.pointer (some a)) f).run C.P w=.ok (.pointer (some (a.add fd.offset))) w:=by
    intro a;have:i.size≠0:=om
    simp[Instr.fieldAt,run_underlying f1,f2,Instr.sureAddr,fieldPlace,iG g1,this]
   split at h
   ·rename_i id off;split at h
    ·rename_i cs e;rw[cY] at h;obtain⟨rfl,rfl⟩:=h;unfold av at hx;rw[e] at hx;simp only at hx;subst hx;refine⟨rfl,_,run _,?_⟩;rw[qJ rfl];unfold av;rw[e];simp only[Nat.add_assoc]
    ·cases h
   ·rename_i t' y;rw[df] at h;obtain⟨h1,h⟩:=h;split at h
    ·rename_i u' z' h2;rw[cY] at h;obtain⟨rfl,rfl⟩:=h;cases t'<;>simp only[LU] at h2<;>try (cases h2;done)
     rename_i p;obtain⟨fs',e1,e2,e3⟩:=Sk hC (bP h1);rw[f1'] at e1;injection e1 with e1;injection e1 with e1;subst e1;obtain⟨k1,k2⟩:=VE (imm:=ah X φ o w) (w:=w) p f y h2;obtain⟨fd',m1,m2,m3⟩:=VF hC _ _ _ _ e3 k1;rw[zN,f2] at m1;injection m1 with m1;subst m1;obtain⟨a,cs,rfl,hs,hi,hr,hc⟩:=hx;refine⟨rfl,_,run _,?_⟩;rw[qJ hs,m3,zO];exact⟨_,_,rfl,rfl,hi,k2 _ hr,Mq _ _ hc⟩
    ·cases h
   ·rename_i id ver j path;split at h
    ·rename_i e aB fr s e1;split at h
     ·rename_i t' ht;split at h
      ·rename_i p;split at h
       ·rename_i u' hu;rw[df,cY,zd] at h;obtain⟨⟨h1,h2⟩,rfl,rfl⟩:=h;obtain⟨fs',k1,k2,k3⟩:=Sk hC (bP h2);rw[f1'] at k1;injection k1 with k1;injection k1 with k1;subst k1;obtain⟨fd',m1,m2,m3⟩:=VF hC _ _ _ _ k3 hu;rw[zN,f2] at m1;injection m1 with m1;subst m1;unfold av at hx;rw[e1] at hx;obtain⟨h0,hx⟩:=hx;obtain⟨hi,rfl⟩:=hx (zg h1);refine⟨rfl,_,run _,?_⟩;rw[qJ rfl];unfold av;rw[e1];refine⟨h0,fun _=>⟨hi,?_⟩⟩;have key:∀(path:List Nat) (t:Ty),BR path t=some (.st p)->iF (path++[f]) t=iF path t+fw p f:=by
         intro path
         induction path with
         |nil=>intro t h;have:=zK h;subst this;simp[iF]
         |cons g r ih=>
          intro t h;cases t<;>simp only[BR] at h<;>try (cases h;done)
          split at h
          ·rename_i q u1 h1;have:=ih u1 h;simp only[List.cons_append,iF,VG h1,this,Nat.add_assoc]
          ·cases h
        rw[key path e ht,m3,zO,<-Nat.add_assoc]
       ·cases h
      ·cases h
     ·cases h
    ·cases h
   ·cases h
  ·cases h
end
section
variable {P:Program} {C:Cx} {X:Nat→Prop} {φ:Nat→Addr} {o:Nat→Obj} {w:World} {imm:Nat→Prop}
theorem B3{t:TypeId}{e:Ty}(h:fR e (oA C t)=true):∃i,C.P.underlying t=some (.slice i)/\desc C.P t=some (.slice i)/\C.ty i=some e:=by
 have h:=Ib h;unfold oA at h;split at h
 ·rename_i i e1;exact⟨i,j8 e1,e1,h⟩
 ·cases h
theorem VH{t:TypeId}{e:Ty}(h:oA C t=some e):∃i,C.P.underlying t=some (.slice i)/\desc C.P t=some (.slice i)/\C.ty i=some e:=by
 unfold oA at h;split at h
 ·rename_i i e1;exact⟨i,j8 e1,e1,h⟩
 ·cases h
theorem VI{t:TypeId}{n:Nat}{e:Ty}(h:Nu C t=some (n,e)):∃i,C.P.underlying t=some (.array n i)/\desc C.P t=some (.array n i)/\C.ty i=some e:=by
 unfold Nu at h;split at h
 ·rename_i m i e1;split at h
  ·rename_i e' e2;simp only[zE,Prod.mk.injEq] at h;obtain⟨rfl,rfl⟩:=h;exact⟨i,j8 e1,e1,e2⟩
  ·cases h
 ·cases h
theorem N3{x:V}{z:Value}{p:(_:IntKind)×Int}(h:asInt x=some p)(hx:av φ o imm w x z):z=.int p.1 p.2/\fO p.1 p.2:=by
 unfold asInt at h;split at h
 ·injection h with h;subst h;exact kI hx
 ·cases h
theorem Sn{α:Type}{l:List α}{n:Int}{y:α}(h:bA l n=some y):0<=n/\n<l.length/\l[n.toNat]?=some y:=by
 unfold bA at h;split at h
 ·rename_i h0;obtain⟨h1,_⟩:=zH.1 h;exact⟨h0,by omega,h⟩
 ·cases h
theorem Sp{α:Type}{l:List α}{n:Int}{j:Nat}(h:bC l n=some j):0<=n/\n<l.length/\j=n.toNat:=by
 unfold bC at h;split at h
 ·rename_i h0;injection h with h;exact⟨h0.1,h0.2,h.symm⟩
 ·cases h
theorem qlw{α:Type}{l m:List α}{a b:Int}(h:cg l a b=some m):0<=a/\a<=b/\b<=l.length/\m=(l.take b.toNat).drop a.toNat:=by
 unfold cg at h;split at h
 ·rename_i h0;injection h with h;exact⟨h0.1,h0.2.1,h0.2.2,h.symm⟩
 ·cases h
theorem Sq{n b:Int}{p:Nat}(h:cF n b=some p):0<=b/\b<=n/\p=b.toNat:=by
 unfold cF at h;split at h
 ·rename_i h0;injection h with h;exact⟨h0.1,h0.2,h.symm⟩
 ·cases h
theorem B4{α β:Type}{x:Option α}{f:α->Option β}{y:β}(h:ag x f=some y):∃a,x=some a/\f a=some y:=by
 cases x with
 |none=>cases h
 |some a=>exact⟨a,rfl,h⟩
theorem qt7(hC:cu C){t:TypeId}{x i:V}{zx zi:Value}{v:V}{u:List (Nat×Obj)}(hx:av φ o imm w x zx)(hi:av φ o imm w i zi)(h:(UO lf C t x i).aG v u):u=[]/\oW C.P φ o imm w v (Instr.index t zx zi):=by
 unfold UO at h;split at h
 ·cases h
 ·rename_i k n hk;obtain⟨rfl,_⟩:=N3 hk hi;split at h
  ·rename_i l;rw[df,GH] at h;obtain⟨h1,y,h2,h3⟩:=h;simp only[Prod.mk.injEq] at h3;obtain⟨rfl,rfl⟩:=h3;obtain⟨s,rfl,rfl,_⟩:=nz hx;have h1:=zg h1;have hu:C.P.underlying t=some .string:=by unfold RJ at h1;split at h1<;>first|(rename_i e;exact j8 e)|cases h1
   obtain⟨g1,g2,g3⟩:=Sn h2;rw[zV,Option.map_eq_some_iff] at g3;obtain⟨b,g3,rfl⟩:=g3;refine⟨rfl,.int .u8 b.toNat,?_,kz ?_⟩
   ·have e:s[n.toNat]?=some b:=by
     obtain⟨g4,g5⟩:=zH.1 g3;have g4':n.toNat<s.size:=by simpa using g4
     rw[getElem?_pos s n.toNat g4'];have g5':s.data[n.toNat]=b:=by simpa using g5
     exact congrArg some g5'
    simp[Instr.index,asIntOf,run_underlying hu,g1,e]
   ·have:=b.toNat_lt;unfold fO IntKind.min IntKind.max;simp[IntKind.signed,IntKind.bits];omega
  ·rename_i m e l;split at h
   ·rename_i m' e' ha;rw[df,GH,zd] at h;obtain⟨⟨h1,hc⟩,y,h2,h3⟩:=h;simp only[Prod.mk.injEq] at h3;obtain⟨rfl,rfl⟩:=h3;have:=zK (Ib hc);subst this;obtain⟨ei,hu,_,he⟩:=VI ha;have h1:=zg h1;subst h1;obtain⟨cs,rfl,hl,hr⟩:=hx;obtain⟨g1,g2,g3⟩:=Sn h2;obtain⟨g4,g5⟩:=zH.1 g3;have hT:=hC.dQ _ _ he;have:=NI hr _ g4;rw[g5] at this;obtain⟨i,z,k1,_,k2,_⟩:=hT.info;obtain⟨v,k3,k4⟩:=Sj (w:=w) hT (cs:=cs) (off:=n.toNat*aI e') this;refine⟨rfl,v,?_,k4⟩;have hd:n<(m:Int):=by have:List.length l=m:=hl;omega
    simp[Instr.index,asIntOf,run_underlying hu,g1,hd,iG k1,k2,k3]
   ·cases h
  ·cases h
theorem Sr{t e:TypeId}{i:TypeInfo}(hu:P.underlying t=some (.slice e))(hi:P.info? e=some i){a:Addr}(hs:a.spot=none){len cap:Nat}{k:IntKind}{n:Int}(h0:0<=n)(h1:n<len):(Instr.indexAt t (.slice (some a) len cap) (.int k n)).run P w=.ok (.pointer (some ⟨a.block,a.off+n.toNat*i.size,none⟩)) w:=by simp[Instr.indexAt,asIntOf,run_underlying hu,h0,h1,iG hi,qJ hs]
theorem q7r{t e:TypeId}{i:TypeInfo}{m:Nat}(hu:P.underlying t=some (.array m e))(hi:P.info? e=some i){a:Addr}(hs:a.spot=none){k:IntKind}{n:Int}(h0:0<=n)(h1:n<m):(Instr.indexAt t (.pointer (some a)) (.int k n)).run P w=.ok (.pointer (some ⟨a.block,a.off+n.toNat*i.size,none⟩)) w:=by simp[Instr.indexAt,asIntOf,run_underlying hu,h0,h1,iG hi,qJ hs,Instr.sureAddr]
theorem qho(hC:cu C)(hm:MRel C X φ o w){t:TypeId}{x i:V}{zx zi:Value}{v:V}{u:List (Nat×Obj)}(hx:av φ o (ah X φ o w) w x zx)(hi:av φ o (ah X φ o w) w i zi)(h:(UN lf C o t x i).aG v u):u=[]/\oW C.P φ o (ah X φ o w) w v (Instr.indexAt t zx zi):=by
 unfold UN at h;split at h
 ·cases h
 ·rename_i k n hk;obtain⟨rfl,_⟩:=N3 hk hi;split at h
  ·rename_i e s;rw[df,lN] at h;obtain⟨h1,y,h2,h3⟩:=h;simp only[Prod.mk.injEq] at h3;obtain⟨rfl,rfl⟩:=h3;obtain⟨ei,hu,_,he⟩:=B3 h1;obtain⟨ii,z,k1,_,k2,_⟩:=(hC.dQ _ _ he).info;obtain⟨g1,g2,g3⟩:=Sn h2;obtain⟨_,hs⟩:=GI hx;rcases hs with ⟨_,e2,_⟩|⟨_,a,cap,ec,rfl,e2,e3,e4,e5,e6⟩
   ·rw[e2] at g2;simp at g2;omega
   ·refine⟨rfl,_,Sr hu k1 (e2 om) g1 g2,?_⟩;obtain⟨g4,g5⟩:=zH.1 g3;have:=NI e4 _ g4;rw[g5] at this;rw[k2];exact⟨_,_,rfl,rfl,e3 (fun h=>by rw[h] at g4;simp at g4),this,Mq _ _ e5⟩
  ·rename_i m e l;split at h
   ·rename_i m' e' ha;rw[df,lN,zd] at h;obtain⟨⟨h1,hc⟩,y,h2,h3⟩:=h;simp only[Prod.mk.injEq] at h3;obtain⟨rfl,rfl⟩:=h3;have:=zK (Ib hc);subst this;obtain⟨ei,hu,_,he⟩:=VI ha;obtain⟨ii,z,k1,_,k2,_⟩:=(hC.dQ _ _ he).info;have h1:=zg h1;subst h1;obtain⟨g1,g2,g3⟩:=Sn h2;obtain⟨a,cs,rfl,e2,e3,⟨e4,e4'⟩,e5⟩:=hx;have hf:n<(m:Int):=by have:List.length l=m:=e4;omega
    refine⟨rfl,_,q7r hu k1 e2 g1 hf,?_⟩;obtain⟨g4,g5⟩:=zH.1 g3;have:=NI e4' _ g4;rw[g5] at this;rw[k2];exact⟨_,_,rfl,rfl,e3,this,Mq _ _ e5⟩
   ·cases h
  ·rename_i id ver;split at h
   ·rename_i e aB fr s e1;rw[df,lN,zd] at h;obtain⟨⟨h1,hc⟩,y,h2,h3⟩:=h;simp only[Prod.mk.injEq] at h3;obtain⟨rfl,rfl⟩:=h3;obtain⟨ei,hu,_,he⟩:=B3 hc;obtain⟨ii,z,k1,_,k2,_⟩:=(hC.dQ _ _ he).info;obtain⟨g1,g2,rfl⟩:=Sp h2;have ho:=hm.aw id;unfold av at hx;rw[e1] at hx ho;obtain⟨h0,hx⟩:=hx;rcases hx (zg h1) with ⟨hn,rfl⟩|⟨hn,cap,rfl,e3,e4⟩
    ·rw[ho.2.1 hn] at g2;simp at g2;omega
    ·refine⟨rfl,_,Sr hu k1 (a:=bare (φ id)) (H8 e4.1 om) g1 g2,?_⟩;unfold av;rw[e1,k2];exact⟨h0,fun _=>⟨by omega,by simp[iF,bare]⟩⟩
   ·cases h
  ·rename_i id ver p cp;split at h
   ·rename_i e aB fr s e1;rw[df,lN,zd] at h;obtain⟨⟨h1,hc⟩,y,h2,h3⟩:=h;simp only[Prod.mk.injEq] at h3;obtain⟨rfl,rfl⟩:=h3;obtain⟨ei,hu,_,he⟩:=B3 hc;obtain⟨ii,z,k1,_,k2,_⟩:=(hC.dQ _ _ he).info;obtain⟨g1,g2,rfl⟩:=Sp h2;have ho:=hm.aw id;unfold av at hx;rw[e1] at hx ho;obtain⟨h0,hx⟩:=hx;obtain⟨hp,hx,_⟩:=hx (zg h1);have N4:n<(p:Int):=by
     have:(lf.aF s.l p).length=p:=by simp[lf,aF,Nat.min_eq_left hp]
     rw[this] at g2;exact g2
    rcases hx with ⟨hn,rfl⟩|⟨hn,cap,rfl,e3,e4⟩
    ·rw[ho.2.1 hn] at hp;simp at hp;omega
    ·refine⟨rfl,_,Sr hu k1 (a:=bare (φ id)) (H8 e4.1 om) g1 N4,?_⟩;unfold av;rw[e1,k2];exact⟨h0,fun _=>⟨by omega,by simp[iF,bare]⟩⟩
   ·cases h
  ·rename_i id ver lo;split at h
   ·rename_i e aB fr s e1;rw[df,lN,zd] at h;obtain⟨⟨h1,hc⟩,y,h2,h3⟩:=h;simp only[Prod.mk.injEq] at h3;obtain⟨rfl,rfl⟩:=h3;obtain⟨ei,hu,_,he⟩:=B3 hc;obtain⟨ii,z,k1,_,k2,_⟩:=(hC.dQ _ _ he).info;have h2:aq (bJ 0 n) (bC s.l (aW lo n)) none=some y:=h2;have hd:0<=n:=by
     cases h:bJ 0 n with
     |true=>exact jc h
     |false=>rw[h] at h2;cases h2
    have h2:bC s.l (aW lo n)=some y:=by have:bJ 0 n=true:=zo hd;rw[this] at h2;exact h2
    obtain⟨g1,g2,rfl⟩:=Sp h2;unfold aW at g1 g2;have ho:=hm.aw id;unfold av at hx;rw[e1] at hx ho;obtain⟨h0,hx⟩:=hx;obtain⟨kk,rfl,hk,hx⟩:=hx (zg h1);rcases hx with ⟨hn,rfl⟩|⟨hn,cap,rfl,e3⟩
    ·rw[ho.2.1 hn] at g2;simp at g2;omega
    ·have hg:cap≠0:=om
     rw[if_neg hg];refine⟨rfl,_,Sr hu k1 (a:=⟨(φ id).block,(φ id).off+kk*aI e,none⟩) rfl hd (show n<((s.l.length-kk:Nat):Int) by omega),?_⟩;unfold av;rw[e1,k2];have e4:(aW (kk:Int) n).toNat=kk+n.toNat:=by unfold aW;omega
     refine⟨h0,fun _=>⟨by rw[e4];omega,?_⟩⟩;rw[e4,Nat.add_mul];simp[iF,Nat.add_assoc]
   ·cases h
  ·rename_i id;split at h
   ·rename_i e fr s e1;split at h
    ·rename_i m e' ha;rw[df,lN] at h;obtain⟨h1,y,h2,h3⟩:=h;simp only[Prod.mk.injEq] at h3;obtain⟨rfl,rfl⟩:=h3;have:=zK (Ib h1);subst this;obtain⟨ei,hu,_,he⟩:=VI ha;obtain⟨ii,z,k1,_,k2,_⟩:=(hC.dQ _ _ he).info;obtain⟨q,h3,h4⟩:=B4 h2;obtain⟨g1,g2,rfl⟩:=Sp h4;obtain⟨_,h5,_⟩:=Sq h3;have h5:n+1<=(m:Int):=h5;unfold av at hx;rw[e1] at hx;have:=hx rfl;subst this;refine⟨rfl,_,q7r hu k1 rfl g1 (by show n<(m:Int);omega),?_⟩;unfold av;rw[e1,k2];exact⟨Nat.le_refl _,fun _=>⟨by omega,by simp[iF]⟩⟩
    ·cases h
   ·cases h
  ·cases h
theorem z0q(hm:MRel C X φ o w){t ty:TypeId}{ts:List TypeId}{x:V}{z:Value}{v:V}{u:List (Nat×Obj)}(hx:av φ o (ah X φ o w) w x z)(h:(UJ lf C o t x).aG v u):u=[]/\oW C.P φ o (ah X φ o w) w v (Builtin.len_ (t::ts).toArray ty #[z]):=by
 have bd:∀n:Nat,n<=bU->fO .i64 (n:Int):=by intro n hn;unfold bU at hn;unfold fO IntKind.min IntKind.max;simp[IntKind.signed,IntKind.bits];omega
 unfold UJ at h;split at h
 ·rename_i hd;have hu:=j8 hd;split at h
  ·rename_i l;rw[cY] at h;obtain⟨rfl,rfl⟩:=h;obtain⟨s,rfl,rfl,hs⟩:=nz hx;exact⟨rfl,goInt (s.data.toList.map fun b=>(b.toNat:Int)).length,by simp[Builtin.len_,run_underlying hu],kz (bd _ (by simpa using hs))⟩
  ·cases h
 ·rename_i e hd;have hu:=j8 hd;split at h
  ·rename_i e s;rw[cY] at h;obtain⟨rfl,rfl⟩:=h;obtain⟨h1,h2⟩:=GI hx;refine⟨rfl,goInt s.l.length,?_,kz (bd _ h1)⟩;rcases h2 with ⟨_,h3,rfl⟩|⟨_,a,cap,ec,rfl,_⟩
   ·simp[Builtin.len_,run_underlying hu,h3]
   ·simp[Builtin.len_,run_underlying hu]
  ·rw[cY] at h;obtain⟨rfl,rfl⟩:=h;have:z=.slice none 0 0:=hx;subst this;exact⟨rfl,goInt 0,by simp[Builtin.len_,run_underlying hu],kz (bd 0 (by unfold bU;omega))⟩
  ·split at h
   ·rename_i e s he;rw[cY] at h;obtain⟨rfl,rfl⟩:=h;obtain⟨⟨h1,h2⟩,_⟩:=Sc hm.aw hx he;refine⟨rfl,goInt s.l.length,?_,kz (bd _ h1)⟩;rcases h2 with ⟨_,h3,rfl⟩|⟨_,a,cap,ec,rfl,_⟩
    ·simp[Builtin.len_,run_underlying hu,h3]
    ·simp[Builtin.len_,run_underlying hu]
   ·cases h
 ·rename_i kt vt hd;have hu:=j8 hd;split at h
  ·rename_i id;split at h
   ·cases h
   ·cases h
  ·rw[cY] at h;obtain⟨rfl,rfl⟩:=h;have:z=.map none:=hx;subst this;exact⟨rfl,goInt 0,by simp[Builtin.len_,run_underlying hu],kz (bd 0 (by unfold bU;omega))⟩
  ·cases h
 ·rename_i n e hd;have hu:=j8 hd;rw[df,cY] at h;obtain⟨h1,rfl,rfl⟩:=h;have h1:=zF h1;refine⟨rfl,goInt n,?_,kz (bd n (by unfold bU;omega))⟩;simp[Builtin.len_,run_underlying hu]
 ·cases h
end
section
variable {P:Program} {C:Cx} {X:Nat→Prop} {φ:Nat→Addr} {o:Nat→Obj} {w:World} {imm:Nat→Prop}
def bZ(C:Cx)(X:Nat->Prop)(φ:Nat->Addr)(o:Nat->Obj)(w:World)(v:V)(u:List (Nat×Obj))(s:Sem Value):Prop:=∃val w' φ',s.run C.P w=.ok val w'/\Comes C X φ φ' o u w w' v val
theorem bZ.aY(hm:MRel C X φ o w){v:V}{u:List (Nat×Obj)}{s:Sem Value}(h:u=[]/\oW C.P φ o (ah X φ o w) w v s):bZ C X φ o w v u s:=by obtain⟨rfl,val,h1,h2⟩:=h;exact⟨val,w,φ,h1,.same hm h2⟩
def xp(φ:Nat->Addr)(o:Nat->Obj)(imm:Nat->Prop)(w:World):Option V->Option Value->Prop
 |none,none=>True
 |some v,some z=>av φ o imm w v z
 |_,_=>False
theorem tB{d a:Int}{h:Option V}{z:Option Value}(hb:bd d h=some a)(hr:xp φ o imm w h z):(z=none/\a=d)\/∃k,z=some (.int k a):=by
 cases h with
 |none=>cases z with
  |none=>exact .inl ⟨rfl,(zK hb).symm⟩
  |some _=>exact hr.elim
 |some v=>cases z with
  |none=>exact hr.elim
  |some z=>
   simp only[bd] at hb;split at hb
   ·rename_i k n e;injection hb with hb;subst hb;exact .inr ⟨k,congrArg some (N3 e hr).1⟩
   ·cases hb
theorem Ik{isS:Bool}{len cap:Nat}{lo hi:Option Value}{a b:Int}(hc:len<=cap)(ha:(lo=none/\a=0)\/∃k,lo=some (.int k a))(hb:(hi=none/\b=len)\/∃k,hi=some (.int k b))(h0:0<=a)(h1:a<=b)(h2:b<=len):(Instr.sliceBounds isS len cap lo hi none).run P w=.ok (a.toNat,b.toNat,cap) w:=by
 have h3:b<=(cap:Int):=om
 have h4:0<=b:=om
 have h5:(b.toNat:Int)=b:=om
 rcases ha with ⟨rfl,rfl⟩|⟨k,rfl⟩<;>rcases hb with ⟨rfl,rfl⟩|⟨k',rfl⟩
 ·simp[Instr.sliceBounds]
 ·simp[Instr.sliceBounds,Instr.sliceBound,asIntOf,h3,h4]
 ·simp[Instr.sliceBounds,Instr.sliceBound,asIntOf,h0,h1]
 ·simp[Instr.sliceBounds,Instr.sliceBound,asIntOf,h0,h1,h3,h4,h5]
theorem Ss{len cap:Nat}{k k':IntKind}{b:Int}(h0:0<=b)(h1:b<=cap):(Instr.sliceBounds true len cap none (some (.int k b)) (some (.int k' b))).run P w=.ok (0,b.toNat,b.toNat) w:=by
 have h5:(b.toNat:Int)=b:=om
 simp[Instr.sliceBounds,Instr.sliceBound,asIntOf,h0,h1,h5]
theorem z5q{a:Addr}{n m:Nat}(h:room w a n)(hm:m<=n):room w a m:=by obtain⟨c,el,lo,hi,h1,h2,h3⟩:=h;exact⟨c,el,lo,hi,h1,by omega,by omega⟩
def j9(fr:Nat)(o:Nat->Obj)(u:List (Nat×Obj)):Prop:=∀p,p∈u->fr<=p.1->p.1<fr+16->o p.1=.none
theorem Comes.xq(hm:MRel C X φ o w){fr:Nat}(hf:o fr=.none){e:Ty}(he:e≠.int .u8){nil:Bool}{z:Value}(hz:(nil=true/\z=.slice none 0 0)\/(nil=false/\∃a:Addr,z=.slice (some a) 0 0)):∃φ',Comes C X φ φ' o [(fr,.vec e 0 false ⟨nil,[]⟩)] w w (.aX fr 0) z:=by
 have key:∀a:Addr,a.spot≠none->((nil=true/\z=.slice none 0 0)\/(nil=false/\z=.slice (some (bare a)) 0 0))->Comes C X φ (ck φ fr a) o [(fr,.vec e 0 false ⟨nil,[]⟩)] w w (.aX fr 0) z:=by
  intro a ha hz;have hc:∀i,i∈bO [(fr,Obj.vec e 0 false ⟨nil,[]⟩)]->i=fr:=fun i hi=>by simpa[bO] using hi
  have hd:ar o [(fr,Obj.vec e 0 false ⟨nil,[]⟩)] fr=.vec e 0 false ⟨nil,[]⟩:=dM;have hx:∀i,i∈bO [(fr,Obj.vec e 0 false ⟨nil,[]⟩)]->aV (ck φ fr a i) (ar o [(fr,.vec e 0 false ⟨nil,[]⟩)] i)=true->False:=fun i hi hx=>by rw[hc i hi,hd,dM] at hx;exact ha (CS hx).2.2
  refine Comes.make hm (Nat.le_refl _) (fun _ _ _=>rfl) (fun id hk=>gM fun e=>hk (by rw[e];exact zj ..)) (fun id _ hk=>gM fun e=>hk (by rw[e];exact zj ..)) (fun i hi=>?_) (fun i hi h=>(hx i hi h).elim) (fun i j hi hj h1 _ _ _=>(hx i hi h1).elim) (fun h1 h2 h3 i hi=>?_) (fun i hi=>?_) (fun _ _ _=>?_)
  ·rw[hc i hi,hf];trivial
  ·rw[hc i hi,hd];exact⟨Nat.zero_le _,fun _=>rfl,fun _=>.inr ⟨by rw[dM];exact ha,rfl,he⟩⟩
  ·rw[hc i hi,hd];exact fun h=>absurd h he
  ·unfold av;rw[hd,dM];refine⟨Nat.le_refl _,fun _=>?_⟩;rcases hz with ⟨h1,h2⟩|⟨h1,h2⟩
   ·exact .inl ⟨h1,h2⟩
   ·exact .inr ⟨h1,0,h2,Nat.le_refl _,fun _=>rfl,fun _ h=>absurd h ha⟩
 rcases hz with ⟨h1,h2⟩|⟨h1,a,h2⟩
 ·exact⟨_,key ⟨0,0,some 0⟩ (by simp) (.inl ⟨h1,h2⟩)⟩
 ·exact⟨_,key (mark a) (qvl a) (.inr ⟨h1,by rw[qvk];exact h2⟩)⟩
theorem z0r{e:Ty}{l:List (den e)}{ec:List Value}{a b:Nat}(hb:b<=l.length)(hc:a<=b)(h:bD (az imm w e) l ec):bD (az imm w e) ((l.take b).drop a) ((ec.drop (a*aI e)).take ((b-a)*aI e)):=by have h1:=(uE a om h).2;have h2:=(uE (b-a) (by simp;omega) h1).1;rw[List.drop_take];exact h2
theorem qqv{t:TypeId}{e:Ty}(hC:cu C){ei:TypeId}(hu:C.P.underlying t=some (.slice ei))(he:C.ty ei=some e){s:Sl (den e)}{z:Value}(hx:av φ o imm w (.d (.sl e) s) z){lo hi:Option Value}{a b:Int}{m:List (den e)}(hg:(lo=none/\a=0)\/∃k,lo=some (.int k a))(hf:(hi=none/\b=s.l.length)\/∃k,hi=some (.int k b))(hm:cg s.l a b=some m):∃val,(Instr.sliceAt t z lo hi none).run C.P w=.ok val w/\av φ o imm w (.d (.sl e) (⟨s.nil,m⟩:Sl (den e))) val:=by
 obtain⟨h0,h1,h2,rfl⟩:=qlw hm;obtain⟨ii,zz,k1,_,k2,_⟩:=(hC.dQ _ _ he).info;obtain⟨hl,hs⟩:=GI hx;have hd:((s.l.take b.toNat).drop a.toNat).length=b.toNat-a.toNat:=by simp;omega
 rcases hs with ⟨g1,g2,rfl⟩|⟨g1,ad,cap,ec,rfl,g2,g3,g4,g5,g6⟩
 ·rw[g2] at h2;have e1:a=0:=by simp at h2;omega
  have e2:b=0:=by simp at h2;omega
  have hb:=Ik (P:=C.P) (w:=w) (isS:=true) (len:=0) (cap:=0) (Nat.le_refl _) hg (by rw[g2] at hf;exact hf) h0 h1 (by simpa using h2);refine⟨.slice none 0 0,?_,?_⟩
  ·simp[Instr.sliceAt,run_underlying hu,Instr.slice,hb,iG k1,e1,e2]
  ·exact⟨_,rfl,by simp[g2],.inl ⟨g1,by simp[g2],rfl⟩⟩
 ·have hb:=Ik (P:=C.P) (w:=w) (isS:=true) g6 hg hf h0 h1 h2;refine⟨.slice (some (if cap=a.toNat then ad else ad.add (a.toNat*aI e))) (b.toNat-a.toNat) (cap-a.toNat),?_,?_⟩
  ·simp[Instr.sliceAt,run_underlying hu,Instr.slice,hb,iG k1,k2];split<;>rfl
  ·refine⟨_,rfl,by rw[hd];omega,.inr ⟨g1,?_⟩⟩;rw[hd];by_cases hc:cap=a.toNat
   ·rw[if_pos hc];have e1:(s.l.take b.toNat).drop a.toNat=[]:=zQ (by rw[hd];omega);exact⟨ad,_,[],rfl,fun h=>g2 om,fun h=>absurd e1 h,by rw[e1];rfl,fun j hj=>absurd hj (by simp),by omega⟩
   ·rw[if_neg hc,qJ (g2 om)];exact⟨_,_,_,rfl,fun _=>rfl,fun h=>g3 (fun e=>h (by rw[e];simp)),z0r om om g4,Mq _ _ g5,by omega⟩
theorem qt8(hC:cu C)(hm:MRel C X φ o w){t:TypeId}{x:V}{z:Value}{lo hi mx:Option V}{B5 N5 Su:Option Value}{v:V}{u:List (Nat×Obj)}(hx:av φ o (ah X φ o w) w x z)(ht:xp φ o (ah X φ o w) w lo B5)(hw:xp φ o (ah X φ o w) w hi N5)(hz:xp φ o (ah X φ o w) w mx Su){fr:Nat}(h:(UM lf C o fr t x lo hi mx).aG v u)(hf:j9 fr o u):bZ C X φ o w v u (Instr.sliceAt t z B5 N5 Su):=by
 have hk:mx=none->Su=none:=by
  rintro rfl;cases Su with
  |none=>rfl
  |some _=>exact hz.elim
 unfold UM at h;split at h
 ·rename_i l;have:=hk rfl;subst this;split at h
  ·rename_i a b ha hb;rw[df,lN] at h;obtain⟨h1,y,h2,h3⟩:=h;simp only[Prod.mk.injEq] at h3;obtain⟨rfl,rfl⟩:=h3;refine bZ.aY hm ⟨rfl,?_⟩;obtain⟨s,rfl,rfl,hs⟩:=nz hx;have h1:=zg h1;have hu:C.P.underlying t=some .string:=by unfold RJ at h1;split at h1<;>first|(rename_i e;exact j8 e)|cases h1
   obtain⟨h0,h1,h4,rfl⟩:=qlw h2;have hA:(s.data.toList.map fun b=>(b.toNat:Int)).length=s.size:=by simp
   rw[hA] at h4;have e1:lf.n (s.data.toList.map fun b=>(b.toNat:Int))=(s.size:Int):=by simp[lf,ae]
   rw[e1] at hb;have hb:=Ik (P:=C.P) (w:=w) (isS:=false) (Nat.le_refl _) (tB ha ht) (tB hb hw) h0 h1 h4;refine⟨.string (s.extract a.toNat b.toNat),?_,H9 ?_ ?_⟩
   ·simp[Instr.sliceAt,run_underlying hu,Instr.slice,hb]
   ·rw[ByteArray.data_extract,Array.toList_extract,List.extract_eq_take_drop,List.map_take,List.map_drop,List.drop_take]
   ·rw[ByteArray.size_extract];omega
  ·cases h
 ·rename_i e s;have:=hk rfl;subst this;split at h
  ·rename_i a b ha hb;rw[df,lN] at h;obtain⟨h1,y,h2,h3⟩:=h;simp only[Prod.mk.injEq] at h3;obtain⟨rfl,rfl⟩:=h3;obtain⟨ei,hu,_,he⟩:=B3 h1;obtain⟨val,g1,g2⟩:=qqv hC hu he hx (tB ha ht) (tB hb hw) h2;exact bZ.aY hm ⟨rfl,val,g1,g2⟩
  ·cases h
 ·rename_i e s _;split at h
  ·rename_i b c hb hc;rw[df,lN,zd] at h;obtain⟨⟨h1,hK⟩,y,h2,h3⟩:=h;simp only[Prod.mk.injEq] at h3;obtain⟨rfl,rfl⟩:=h3;have hG:e≠.int .u8:=fun h=>by subst h;cases hK
   have hH:o fr=.none:=hf _ (zj ..) (Nat.le_refl _) (by show fr<fr+16;omega);have h2:aq (ak b 0) (aq (ak c 0) (some ()) none) none=some y:=h2;have hL:b=0:=by
    cases h:ak b 0 with
    |true=>simpa[ak] using h
    |false=>rw[h] at h2;cases h2
   have hM:c=0:=by
    cases h:ak c 0 with
    |true=>simpa[ak] using h
    |false=>rw[h] at h2;cases hh:ak b 0<;>rw[hh] at h2<;>cases h2
   subst hL hM;have hq:B5=none:=by
    cases B5 with
    |none=>rfl
    |some _=>exact ht.elim
   subst hq;obtain⟨kb,rfl⟩:=(tB hb hw).resolve_left fun h=>by cases h.2
   obtain⟨kc,rfl⟩:=(tB hc hz).resolve_left fun h=>by cases h.2
   obtain⟨ei,hu,_,he⟩:=B3 h1;obtain⟨ii,zz,k1,_,k2,_⟩:=(hC.dQ _ _ he).info;obtain⟨hl,hs⟩:=GI hx;rcases hs with ⟨g1,g2,rfl⟩|⟨g1,ad,cap,ec,rfl,g2,g3,g4,g5,g6⟩
   ·obtain⟨φ',hh⟩:=Comes.xq hm hH hG (nil:=s.nil) (z:=.slice none 0 0) (.inl ⟨g1,rfl⟩);have hg:=Ss (P:=C.P) (w:=w) (len:=0) (cap:=0) (k:=kb) (k':=kc) (b:=0) (Int.le_refl _) (Int.le_refl _);refine⟨.slice none 0 0,w,φ',?_,hh⟩;simp[Instr.sliceAt,run_underlying hu,Instr.slice,hg,iG k1]
   ·obtain⟨φ',hh⟩:=Comes.xq hm hH hG (nil:=s.nil) (z:=.slice (some ad) 0 0) (.inr ⟨g1,ad,rfl⟩);have hg:=Ss (P:=C.P) (w:=w) (len:=s.l.length) (cap:=cap) (k:=kb) (k':=kc) (b:=0) (Int.le_refl _) om;refine⟨.slice (some ad) 0 0,w,φ',?_,hh⟩;simp[Instr.sliceAt,run_underlying hu,Instr.slice,hg,iG k1]
  ·cases h
 ·rename_i id ver _;split at h
  ·rename_i e aB fz s e1;rw[df,zd] at h;obtain⟨⟨h1,hB⟩,h⟩:=h;obtain⟨ei,hu,_,he⟩:=B3 hB;obtain⟨ii,zz,k1,_,k2,_⟩:=(hC.dQ _ _ he).info;split at h
   ·rename_i b c hb hc;rw[lN] at h;obtain⟨p,h2,h3⟩:=h;simp only[Prod.mk.injEq] at h3;obtain⟨rfl,rfl⟩:=h3;obtain⟨p',h2,h4⟩:=B4 h2;obtain⟨h0,h3,rfl⟩:=Sq h2;have h3:b<=(s.l.length:Int):=h3;have h4:aq (ak b c) (some b.toNat) none=some p:=h4;have hN:b=c:=by
     cases h:ak b c with
     |true=>simpa[ak] using h
     |false=>rw[h] at h4;cases h4
    subst hN;have hp:p=b.toNat:=by
     have:ak b b=true:=by simp[ak]
     rw[this] at h4;exact(zK h4).symm
    subst hp;refine bZ.aY hm ⟨rfl,?_⟩;have ho:=hm.aw id;unfold av at hx;rw[e1] at hx ho;obtain⟨hv,hx⟩:=hx;have hq:B5=none:=by
     cases B5 with
     |none=>rfl
     |some _=>exact ht.elim
    subst hq;obtain⟨kb,rfl⟩:=(tB hb hw).resolve_left fun h=>by have:=h.2;omega
    obtain⟨kc,rfl⟩:=(tB hc hz).resolve_left fun h=>by have:=h.2;omega
    rcases hx (zg h1) with ⟨hn,rfl⟩|⟨hn,cap,rfl,e3,e5,e4⟩
    ·have hy:=ho.2.1 hn;rw[hy] at h3;have e2:b=0:=by simp at h3;omega
     subst e2;have hg:=Ss (P:=C.P) (w:=w) (len:=0) (cap:=0) (k:=kb) (k':=kc) (b:=0) (Int.le_refl _) (Int.le_refl _);refine⟨.slice none 0 0,?_,?_⟩
     ·simp[Instr.sliceAt,run_underlying hu,Instr.slice,hg,iG k1]
     ·unfold av;rw[e1];refine⟨hv,fun _=>⟨Nat.zero_le _,.inl ⟨hn,rfl⟩,fun _ a m c h=>?_⟩⟩;injection h with _ _ h;exact h.symm
    ·have hg:=Ss (P:=C.P) (w:=w) (len:=s.l.length) (cap:=cap) (k:=kb) (k':=kc) h0 om;refine⟨.slice (some (bare (φ id))) b.toNat b.toNat,?_,?_⟩
     ·simp[Instr.sliceAt,run_underlying hu,Instr.slice,hg,iG k1,Addr.add,bare]
     ·unfold av;rw[e1];refine⟨hv,fun _=>⟨by omega,.inr ⟨hn,b.toNat,rfl,Nat.le_refl _,fun h=>?_,fun h1 h2=>?_⟩,fun _ a m c h=>?_⟩⟩
      ·have:=e5 h;omega
      ·exact z5q (e4 h1 h2) (Nat.mul_le_mul_right _ om)
      ·injection h with _ _ h;exact h.symm
   ·cases h
  ·cases h
 ·rename_i id ver;have:=hk rfl;subst this;split at h
  ·rename_i e aB fr s e1;rw[df,zd] at h;obtain⟨⟨h1,hB⟩,h⟩:=h;obtain⟨ei,hu,_,he⟩:=B3 hB;obtain⟨ii,zz,k1,_,k2,_⟩:=(hC.dQ _ _ he).info;split at h
   ·split at h
    ·rename_i b hb;rw[lN] at h;obtain⟨p,h2,h3⟩:=h;simp only[Prod.mk.injEq] at h3;obtain⟨rfl,rfl⟩:=h3;obtain⟨h0,h3,rfl⟩:=Sq h2;have h3:b<=(s.l.length:Int):=h3;refine bZ.aY hm ⟨rfl,?_⟩;have ho:=hm.aw id;unfold av at hx;rw[e1] at hx ho;obtain⟨hv,hx⟩:=hx;have hq:B5=none:=by
      cases B5 with
      |none=>rfl
      |some _=>exact ht.elim
     subst hq;rcases hx (zg h1) with ⟨hn,rfl⟩|⟨hn,cap,rfl,e3,e4⟩
     ·have hy:=ho.2.1 hn;rw[hy] at h3;have e2:b=0:=by simp at h3;omega
      have hI:=tB hb hw;have e5:lf.n s.l=0:=by rw[hy];rfl
      rw[e5] at hI;have hg:=Ik (P:=C.P) (w:=w) (isS:=true) (len:=0) (cap:=0) (lo:=none) (hi:=N5) (a:=0) (b:=b) (Nat.le_refl _) (.inl ⟨rfl,rfl⟩) hI (Int.le_refl _) om om;refine⟨.slice none 0 0,?_,?_⟩
      ·simp[Instr.sliceAt,run_underlying hu,Instr.slice,hg,iG k1,e2]
      ·unfold av;rw[e1,e2];exact⟨hv,fun _=>⟨Nat.zero_le _,.inl ⟨hn,rfl⟩,by simp⟩⟩
     ·have hg:=Ik (P:=C.P) (w:=w) (isS:=true) (lo:=none) (a:=0) e3 (.inl ⟨rfl,rfl⟩) (tB hb hw) (Int.le_refl _) h0 h3;refine⟨.slice (some (bare (φ id))) b.toNat cap,?_,?_⟩
      ·simp[Instr.sliceAt,run_underlying hu,Instr.slice,hg,iG k1,Addr.add,bare]
      ·unfold av;rw[e1];exact⟨hv,fun _=>⟨by omega,.inr ⟨hn,cap,rfl,by omega,e4⟩,by simp⟩⟩
    ·cases h
   ·rename_i uy;split at h
    ·split at h
     ·rename_i a ha;rw[lN] at h;obtain⟨p,h2,h3⟩:=h;simp only[Prod.mk.injEq] at h3;obtain⟨rfl,rfl⟩:=h3;obtain⟨h0,h3,_⟩:=Sq h2;have h3:a<=(s.l.length:Int):=h3;refine bZ.aY hm ⟨rfl,?_⟩;have ho:=hm.aw id;unfold av at hx;rw[e1] at hx ho;obtain⟨hv,hx⟩:=hx;have hD:N5=none:=by
       cases N5 with
       |none=>rfl
       |some _=>exact hw.elim
      subst hD;have hO:a.toNat<=s.l.length:=om
      have hP:a=((a.toNat:Nat):Int):=om
      rcases hx (zg h1) with ⟨hn,rfl⟩|⟨hn,cap,rfl,e3,e4⟩
      ·have hy:=ho.2.1 hn;rw[hy] at h3;have e2:a=0:=by simp at h3;omega
       subst e2;have hg:=Ik (P:=C.P) (w:=w) (isS:=true) (len:=0) (cap:=0) (lo:=B5) (hi:=none) (a:=0) (b:=0) (Nat.le_refl _) (tB ha ht) (.inl ⟨rfl,rfl⟩) (Int.le_refl _) (Int.le_refl _) (Int.le_refl _);refine⟨.slice none 0 0,?_,?_⟩
       ·simp[Instr.sliceAt,run_underlying hu,Instr.slice,hg,iG k1]
       ·unfold av;rw[e1];exact⟨hv,fun _=>⟨0,rfl,Nat.zero_le _,.inl ⟨hn,rfl⟩⟩⟩
      ·have hg:=Ik (P:=C.P) (w:=w) (isS:=true) (len:=s.l.length) (cap:=cap) (lo:=B5) (hi:=none) (a:=a) (b:=s.l.length) e3 (tB ha ht) (.inl ⟨rfl,rfl⟩) h0 h3 (Int.le_refl _);refine⟨.slice (some (if cap-a.toNat=0 then bare (φ id) else⟨(φ id).block,(φ id).off+a.toNat*aI e,none⟩)) (s.l.length-a.toNat) (cap-a.toNat),?_,?_⟩
       ·simp[Instr.sliceAt,run_underlying hu,Instr.slice,hg,iG k1,k2];by_cases hc:cap=a.toNat
        ·rw[if_pos hc,if_pos om]
        ·rw[if_neg hc,if_neg om,qJ (H8 e4.1 om)];rfl
       ·unfold av;rw[e1];exact⟨hv,fun _=>⟨a.toNat,hP,hO,.inr ⟨hn,cap-a.toNat,rfl,by omega⟩⟩⟩
     ·cases h
    ·split at h
     ·rename_i a b ha hb;rw[lN] at h;obtain⟨y,h2,h3⟩:=h;simp only[Prod.mk.injEq] at h3;obtain⟨rfl,rfl⟩:=h3;have hE:=NV hm [id];have e2:dH o [id]=[(id,.vec e aB true s)]:=by simp[dH,e1]
      have hQ:=hE.keeps _ _ hx;have hR:tA (ar o (dH o [id])) (.aX id ver):=Sg (fun j hj=>by
       unfold eF at hj;split at hj
       ·cases hj
       ·exact hj)
      have hF:ie lf o (.sl e) (.aX id ver)=some s:=by
       simp only[ie,e1,h1,cond_true];unfold fQ;split
       ·rfl
       ·rename_i hS _;exact absurd rfl hS
      have hJ:lX lf o (.sl e) (.aX id ver)=some s:=by unfold lX;rw[hF]
      rw[<-CW [id]] at hJ;have hd:=Vz hE.mem hQ hR hJ;obtain⟨val,g1,g2⟩:=qqv hC hu he hd (tB ha ht) (tB hb hw) h2;refine⟨val,w,φ,g1,?_⟩;rw[<-e2];exact {hE with val:=g2}
     ·cases h
  ·cases h
 ·cases h
theorem z0s{c:Bool}{a b:V}{za zb:Value}(ha:av φ o imm w a za)(hb:av φ o imm w b zb):av φ o imm w (UY lf c a b) (if c then za else zb):=by
 unfold UY;split
 ·rename_i t a' t' b';split
  ·rename_i b'' e;obtain⟨rfl,rfl⟩:=wB e;cases c
   ·exact hb
   ·exact ha
  ·cases c
   ·exact hb
   ·exact ha
 ·cases c
  ·exact hb
  ·exact ha
theorem z0t{x:V}{z:Value}{v:V}{u:List (Nat×Obj)}(hx:av φ o imm w x z)(h:(L7 o x).aG v u):u=[]/\v=x/\((∃a,z=.pointer (some a))\/(∃f p c,z=.func (.func f) p c)):=by
 unfold L7 at h;split at h
 ·rw[df,cY] at h;obtain⟨h1,rfl,rfl⟩:=h;exact⟨rfl,rfl,.inl (Vv hx h1)⟩
 ·rw[cY] at h;obtain⟨rfl,rfl⟩:=h;obtain⟨a,cs,h1,_⟩:=hx;exact⟨rfl,rfl,.inl ⟨a,h1⟩⟩
 ·rename_i id ver i path;split at h
  ·rename_i e1;rw[df,cY] at h;obtain⟨h1,rfl,rfl⟩:=h;unfold av at hx;rw[e1] at hx;exact⟨rfl,rfl,.inl ⟨_,(hx.2 (zg h1)).2⟩⟩
  ·cases h
 ·rw[cY] at h;obtain⟨rfl,rfl⟩:=h;obtain⟨c,h1,_⟩:=hx;exact⟨rfl,rfl,.inr ⟨_,_,_,h1⟩⟩
 ·cases h
end
def ov(l:List Value)(off:Nat)(vs:List Value):List Value:=l.take off++vs++l.drop (off+vs.length)
theorem z8q(l:List Value)(off:Nat):ov l off []=l:=by simp[ov]
theorem qvy(l:List Value)(off:Nat)(v:Value)(vs:List Value)(h:off+(vs.length+1)<=l.length):ov (l.set off v) (off+1) vs=ov l off (v::vs):=list_seg_step l off v vs h
theorem VJ(l:List Value)(off:Nat)(vs:List Value)(h:off+vs.length<=l.length):(ov l off vs).length=l.length:=by simp[ov];omega
theorem qvz:∀(vs:List Value) (off k:Nat) (cs:Array Value),off+k+vs.length<=cs.size->(vs.zipIdx k).foldl (fun cs p=>cs.setIfInBounds (off+p.2) p.1) cs=(ov cs.toList (off+k) vs).toArray
 |[],off,k,cs,_=>by simp[ov]
 |v::vs,off,k,cs,h=>by simp only[List.zipIdx_cons,List.foldl_cons];rw[qvz vs off (k+1) _ (by simp at h ⊢;omega),Array.toList_setIfInBounds,<-Nat.add_assoc,qvy];simp at h ⊢;omega
theorem qlx(place:Nat->Option (Nat×Nat))(cells:Array Value)(i:Nat)(v:Value)(rest:List (Nat×Value)){off sz:Nat}(hp:place i=some (off,sz))(hs:v.cells.size=sz)(hb:off+sz<=cells.size):Instr.fill place cells ((i,v)::rest)=Instr.fill place (ov cells.toList off v.cells.toList).toArray rest:=by
 have e:(v.cells.zipIdx.foldl (fun cs p=>cs.setIfInBounds (off+p.2) p.1) cells)=(ov cells.toList off v.cells.toList).toArray:=by have:=qvz v.cells.toList off 0 cells (by simp;omega);simp only[Nat.add_zero] at this;rw[<-Array.foldl_toList,Array.toList_zipIdx];exact this
 simp only[Instr.fill,hp];rw[if_neg (by simp;omega),e]
theorem qt9(w:World)(b i:Nat)(cs:Array Value)(t:TypeId)(fr:Nat×Nat)(v:Value)(hg:w.heap[b]?=some (.cells cs t fr)):w.setCell ⟨b,i,none⟩ v=w.setRow b (cs.setIfInBounds i v):=setCell_eq_setRow w b i cs t fr v hg
section
variable {P:Program} {C:Cx} {X:Nat→Prop} {φ φ':Nat→Addr} {o:Nat→Obj} {w w':World} {imm:Nat→Prop}
theorem N6{b off lo hi:Nat}{t:TypeId}:∀(vs:List Value) (i:Nat) (cur:Array Value) (w:World),w.heap[b]?=some (.cells cur t (lo,hi))->off+i+vs.length<=cur.size->(hi<=lo\/hi<=off+i\/off+i+vs.length<=lo)->(∀v∈vs,v.oneCell'=true)->(storeCells ⟨b,off,none⟩ vs i).run P w=.ok () (w.setRow b (ov cur.toList (off+i) vs).toArray)
 |[],i,cur,w,hg,_,_,_=>by simp only[storeCells,z8q,Array.toArray_toList];rw[setRow_self w b cur t (lo,hi) hg];rfl
 |v::rest,i,cur,w,hg,hl,hf,h1=>by
  have hd:(⟨b,off,none⟩:Addr).add i=⟨b,off+i,none⟩:=qJ rfl i;simp only[zf] at hl hf;have qK:off+i<cur.size:=om
  have hc:w.cell? ⟨b,off+i,none⟩=some cur[off+i]:=by simp[World.cell?,hg,qK]
  have he:w.frozen? ⟨b,off+i,none⟩=false:=by simp only[World.frozen?,hg,Bool.and_eq_false_iff,decide_eq_false_iff_not];omega
  have hj:(store ((⟨b,off,none⟩:Addr).add i) v).run P w=.ok () (w.setRow b (cur.setIfInBounds (off+i) v)):=by rw[hd,run_store P w _ v _ (h1 v (by simp)),hc];simp[he,qt9 w b (off+i) cur t (lo,hi) v hg]
  have ih:=N6 (off:=off) (lo:=lo) (hi:=hi) rest (i+1) (cur.setIfInBounds (off+i) v) (w.setRow b (cur.setIfInBounds (off+i) v)) (setRow_heap w b cur _ t _ hg) (by simp;omega) om (fun x hx=>h1 x (by simp[hx]));simp only[storeCells,Sem.run_bind,hj,Result.andThen_ok,ih,setRow_setRow];rw[Array.toList_setIfInBounds,show off+(i+1)=off+i+1 by omega,qvy _ _ _ _ (by simp;omega)]
theorem Sw{b:Nat}{cur:Array Value}{t:TypeId}{fr:Nat×Nat}(h:w.heap[b]?=some (.cells cur t fr))(cs:Array Value):(w.setRow b cs).heap[b]?=some (.cells cs t fr):=setRow_heap w b cur cs t fr h
theorem Sx{e:Ty}{l m:List (den e)}{cs ds:List Value}{i:Nat}(hi:i+m.length<=l.length)(h:bD (az imm w e) l cs)(h':bD (az imm w e) m ds):bD (az imm w e) (l.take i++m++l.drop (i+m.length)) (ov cs (i*aI e) ds):=by unfold ov;have h1:=(uE i om h).1;have h2:=(uE (i+m.length) hi h).2;rw[nx h',<-Nat.add_mul];exact Mh (Mh h1 h') h2
theorem Il:∀(t:Ty) (x:den t) (cs:List Value),az imm w t x cs->∀v,v∈cs->v.oneCell'=true
 |.unit,_,_,h,v,hv=>by simp[az] at h;subst h;cases hv
 |.pair a b,x,_,⟨c,d,e,h1,h2⟩,v,hv=>by
  subst e;rcases zL.1 hv with hv|hv
  ·exact Il a x.1 c h1 v hv
  ·exact Il b x.2 d h2 v hv
 |.st p,x,cs,h,v,hv=>Il p x cs h v hv
 |.arr n e,l,cs,⟨_,h2⟩,v,hv=>by
  have key:∀(l:List (den e)) (cs:List Value),bD (az imm w e) l cs->∀v,v∈cs->v.oneCell'=true:=by
   intro l
   induction l with
   |nil=>intro cs h v hv;simp[bD] at h;subst h;cases hv
   |cons y l ih=>
    intro cs ⟨c,d,e1,h3,h4⟩ v hv;subst e1;rcases zL.1 hv with hv|hv
    ·exact Il e y c h3 v hv
    ·exact ih d h4 v hv
  exact key l cs h2 v hv
 |.int _,_,_,h,v,hv=>by obtain⟨h,_⟩:=h;subst h;simp at hv;subst hv;rfl
 |.bool,_,_,h,v,hv=>by have h:_=[_]:=h;subst h;simp at hv;subst hv;rfl
 |.ej,_,_,h,v,hv=>by have h:_=[_]:=h;subst h;simp at hv;subst hv;rfl
 |.cJ,_,_,h,v,hv=>by have h:_=[_]:=h;subst h;simp at hv;subst hv;rfl
 |.str,_,_,⟨s,h,_⟩,v,hv=>by subst h;simp at hv;subst hv;rfl
 |.sl e,_,_,⟨x,h,_,h2⟩,v,hv=>by subst h;simp at hv;subst hv;rcases h2 with ⟨_,_,rfl⟩|⟨_,a,cap,ec,rfl,_⟩<;>rfl
 |.ks e,_,_,⟨0,h⟩,v,hv=>h.elim
 |.ks e,_,_,⟨n+1,x,h,_,h2⟩,v,hv=>by subst h;simp at hv;subst hv;rcases h2 with ⟨_,_,rfl⟩|⟨_,a,cap,ec,rfl,_⟩<;>rfl
theorem Sy{e:Ty}:∀{l:List (den e)} {cs:List Value},bD (az imm w e) l cs->∀v,v∈cs->v.oneCell'=true
 |[],cs,h,v,hv=>by simp[bD] at h;subst h;cases hv
 |y::l,cs,⟨c,d,e1,h3,h4⟩,v,hv=>by
  subst e1;rcases zL.1 hv with hv|hv
  ·exact Il e y c h3 v hv
  ·exact Sy h4 v hv
theorem Comes.fresh(hm:MRel C X φ o w){fr:Nat}{B:Go.Obj}{w':World}(hf:w'.heap=w.heap.push B)(x:Obj){ns:List (Nat×Obj)}(hc:∀p,p∈ns->(∃e,p.2=.vec e 0 false ⟨true,[]⟩)/\p.1≠fr/\o p.1=.none)(ht:∀w',Up w w' (φ fr) ⟨w.heap.size,0,none⟩ (o fr) x){v:V}{z:Value}(hg:(∀b,ah X φ o w b->ah X (ck φ fr ⟨w.heap.size,0,none⟩) (ar o ((fr,x)::ns)) w' b)->(∀b,ah X φ o w b->w'.heap[b]?=w.heap[b]?)->(∀y z,av φ o (ah X φ o w) w y z->av (ck φ fr ⟨w.heap.size,0,none⟩) (ar o ((fr,x)::ns)) (ah X (ck φ fr ⟨w.heap.size,0,none⟩) (ar o ((fr,x)::ns)) w') w' y z)->oC (ck φ fr ⟨w.heap.size,0,none⟩) (ar o ((fr,x)::ns)) (ah X (ck φ fr ⟨w.heap.size,0,none⟩) (ar o ((fr,x)::ns)) w') w' fr x)(hl:gi C w' ⟨w.heap.size,0,none⟩ x)(hn:ar o ((fr,x)::ns) fr=x->av (ck φ fr ⟨w.heap.size,0,none⟩) (ar o ((fr,x)::ns)) (ah X (ck φ fr ⟨w.heap.size,0,none⟩) (ar o ((fr,x)::ns)) w') w' v z)(still:tw w w':=by exact⟨rfl,rfl⟩):
  Comes C X φ (ck φ fr ⟨w.heap.size,0,none⟩) o ((fr,x)::ns) w w' v z:=by
 have ho:∀(ns:List (Nat×Obj)) (o':Nat->Obj) (id:Nat),(∀p,p∈ns->∃e,p.2=.vec e 0 false ⟨true,[]⟩)->id∈bO ns->∃e,ar o' ns id=.vec e 0 false ⟨true,[]⟩:=by
  intro ns
  induction ns with
  |nil=>intro o' id _ h;cases h
  |cons p r ih=>
   obtain⟨i,y⟩:=p;intro o' id hc h;by_cases hr:id∈bO r
   ·exact ih _ _ (fun p hp=>hc p (zm _ hp)) hr
   ·simp only[bO,zt,hr,or_false] at h;subst h;show ∃e,ar (ck o' id y) r id=_;rw[gj hr,dM];exact hc _ (zj ..)
 have hq:∀(ns:List (Nat×Obj)) id,id∈bO ns->∃p,p∈ns/\p.1=id:=by
  intro ns
  induction ns with
  |nil=>intro id h;cases h
  |cons p r ih=>
   intro id h;rcases zt.1 h with h|h
   ·exact⟨p,zj ..,h.symm⟩
   ·obtain⟨q,h1,h2⟩:=ih id h;exact⟨q,zm _ h1,h2⟩
 have hs:fr∉bO ns:=fun h=>by obtain⟨p,h1,h2⟩:=hq ns _ h;exact(hc p h1).2.1 h2
 have hd:ar o ((fr,x)::ns) fr=x:=by show ar (ck o fr x) ns fr=x;rw[gj hs,dM]
 have hy:∀id,id∈bO ns->id≠fr:=fun id h e=>hs (e▸h);have he:∀id,id∈bO ns->∃e,ar o ((fr,x)::ns) id=.vec e 0 false ⟨true,[]⟩:=fun id h=>ho ns _ id (fun p hp=>(hc p hp).1) h;have hu:∀id,id∈bO ns->o id=.none:=fun id h=>by obtain⟨p,h1,h2⟩:=hq ns _ h;exact h2▸(hc p h1).2.2
 refine Comes.make hm (by rw[hf];simp) (fun b hb _=>by rw[hf,Array.getElem?_push,if_neg (Nat.ne_of_lt hb)]) (fun id hk=>?_) (fun id _ hk=>?_) (fun id hk=>?_) (fun id hk hx=>?_) (fun i j hi hj hv hw _ _=>?_) (fun h1 h2 h3 id hk=>?_) (fun id hk=>?_) (fun h1 h2 h3=>hn hd) still
 ·exact gM fun e=>hk (e▸zj ..)
 ·exact gM fun e=>hk (e▸zj ..)
 ·rcases zt.1 hk with rfl|hk
  ·rw[dM,hd];exact ht _
  ·rw[hu id hk];trivial
 ·rcases zt.1 hk with rfl|hk
  ·rw[dM];exact .inl ⟨Nat.le_refl _,by rw[hf];simp⟩
  ·obtain⟨e,h⟩:=he id hk;rw[h] at hx;simp[aV,live] at hx
 ·have key:∀i a,i∈bO ((fr,x)::ns)->aV a (ar o ((fr,x)::ns) i)=true->i=fr:=fun i a hk hx=>by
   rcases zt.1 hk with h|hk
   ·exact h
   ·obtain⟨e,h⟩:=he i hk;rw[h] at hx;simp[aV,live] at hx
  rw[key i _ hi hv,key j _ hj hw]
 ·rcases zt.1 hk with rfl|hk
  ·rw[hd];exact hg h1 h2 h3
  ·obtain⟨e,h⟩:=he id hk;rw[h];exact⟨Nat.zero_le _,fun _=>rfl,fun h=>by simp at h⟩
 ·rcases zt.1 hk with rfl|hk
  ·rw[hd,dM];exact hl
  ·obtain⟨e,h⟩:=he id hk;rw[h];exact fun _ h=>by simp at h
theorem Comes.write(hm:MRel C X φ o w){id:Nat}{w':World}(x:Obj)(hx:aV (φ id) x=true->aV (φ id) (o id)=true)(hn:w'.heap.size=w.heap.size)(hk:∀b,¬(aV (φ id) (o id)=true/\(φ id).block=b)->w'.heap[b]?=w.heap[b]?)(hl:Up w w' (φ id) (φ id) (o id) x){v:V}{z:Value}(he:(∀b,ah X φ o w b->ah X φ (ar o [(id,x)]) w' b)->(∀b,ah X φ o w b->w'.heap[b]?=w.heap[b]?)->(∀y z,av φ o (ah X φ o w) w y z->av φ (ar o [(id,x)]) (ah X φ (ar o [(id,x)]) w') w' y z)->oC φ (ar o [(id,x)]) (ah X φ (ar o [(id,x)]) w') w' id x)(hf:gi C w' (φ id) x)(hg:ar o [(id,x)] id=x->av φ (ar o [(id,x)]) (ah X φ (ar o [(id,x)]) w') w' v z)(still:tw w w':=by exact⟨rfl,rfl⟩):Comes C X φ φ o [(id,x)] w w' v z:=by
 have hd:ar o [(id,x)] id=x:=dM;have hc:∀i,i∈bO [(id,x)]->i=id:=fun i hi=>by simpa[bO] using hi
 refine Comes.make hm om (fun b _ hh=>hk b fun⟨h1,h2⟩=>hh ⟨id,by simp[bO],h1,h2⟩) (fun _ _=>rfl) (fun _ _ _=>rfl) (fun i hi=>?_) (fun i hi h=>?_) (fun i j hi hj _ _ _ _=>?_) (fun h1 h2 h3 i hi=>?_) (fun i hi=>?_) (fun _ _ _=>hg hd) still
 ·rw[hc i hi,hd];exact hl
 ·rw[hc i hi,hd] at h;rw[hc i hi];exact .inr ⟨hx h,rfl⟩
 ·rw[hc i hi,hc j hj]
 ·rw[hc i hi,hd];exact he h1 h2 h3
 ·rw[hc i hi,hd];exact hf
end
theorem qw0{z:Value}(h:z.oneCell'=true):z.cells=#[z]:=by cases z<;>first|rfl|(simp[Value.oneCell'] at h;done)
theorem qbk{o:Nat->Obj}:∀{a b:List V},uw o (a++b)=true->uw o a=true/\uw o b=true
 |[],b,h=>⟨rfl,h⟩
 |x::a,b,h=>by simp only[List.cons_append,uw,zd] at h ⊢;obtain⟨h1,h2⟩:=qbk h.2;exact⟨⟨h.1,h1⟩,h2⟩
section
variable {P:Program} {C:Cx} {X:Nat→Prop} {φ φ':Nat→Addr} {o o':Nat→Obj} {w w':World} {imm imm':Nat→Prop}
theorem qly{x:V}{z:Value}(hx:av φ o imm w x z)(h:L3 o x=true):z.oneCell'=true:=by
 cases x<;>simp only[L3] at h<;>try (cases h;done)
 ·rename_i t d;exact Il t d [z] (qls h hx) z (zB.2 rfl)
 ·rename_i id ver;unfold av at hx;split at h
  ·rename_i e;rw[e] at hx;rcases hx.2 (zg h) with ⟨_,rfl⟩|⟨_,cap,rfl,_⟩<;>rfl
  ·cases h
 ·rename_i id ver n cp;unfold av at hx;split at h
  ·rename_i e;rw[e] at hx;rcases(hx.2 (zg h)).2.1 with ⟨_,rfl⟩|⟨_,cap,rfl,_⟩<;>rfl
  ·cases h
 ·rename_i id off;unfold av at hx;split at h
  ·rename_i e;rw[e] at hx;simp only at hx;subst hx;rfl
  ·rename_i e;rw[e] at hx;have:=hx (zg h).symm;subst this;rfl
  ·cases h
 ·rename_i id ver i path;unfold av at hx;split at h
  ·rename_i e;rw[e] at hx;have:=(hx.2 (zg h)).2;subst this;rfl
  ·cases h
 ·obtain⟨a,cs,rfl,_⟩:=hx;rfl
 ·have:z=.pointer none:=hx;subst this;rfl
 ·obtain⟨c,rfl,_⟩:=hx;rfl
 ·have:z=.nilFunc:=hx;subst this;rfl
 ·rename_i id;unfold av at hx;split at h
  ·rename_i e;rw[e] at hx;simp only at hx;subst hx;rfl
  ·cases h
 ·have:z=.map none:=hx;subst this;rfl
 ·have:z=.nilIface:=hx;subst this;rfl
 ·have:z=.slice none 0 0:=hx;subst this;rfl
 ·rename_i id b;unfold av at hx;split at h
  ·rename_i e;rw[e] at hx;simp only at hx;subst hx;cases b<;>rfl
  ·cases h
 ·rename_i id ver lo;unfold av at hx;split at h
  ·rename_i e;rw[e] at hx;obtain⟨k,_,_,hx⟩:=hx.2 (zg h);rcases hx with ⟨_,rfl⟩|⟨_,cap,rfl,_⟩<;>rfl
  ·cases h
 ·rename_i id;unfold av at hx;split at h
  ·rename_i e;rw[e] at hx;simp only at hx;subst hx;rfl
  ·cases h
 ·rename_i a k n;have hx:uF imm w a k n z:=hx;rcases R9 a hx with ⟨rfl,_⟩|⟨_,_,rfl,_⟩<;>rfl
theorem VK:∀{cs:List V} {zs:List Value},bV φ o imm w cs zs->uw o cs=true->∀z,z∈zs->z.oneCell'=true
 |[],zs,h,_,z,hz=>by simp[bV] at h;subst h;cases hz
 |x::l,zs,⟨y,r,e,h1,h2⟩,hs,z,hz=>by
  subst e;simp only[uw,zd] at hs;rcases zt.1 hz with rfl|hz
  ·exact qly h1 hs.1
  ·exact VK h2 hs.2 z hz
theorem z5r:∀(p:Ty) (x:den p) (cs:List Value),az imm w p x cs->uw o (w7 p x)=true->bV φ o imm w (w7 p x) cs:=by
 have one:∀(t:Ty) (x:den t) (cs:List Value),jA t=true->az imm w t x cs->bV φ o imm w [.d t x] cs:=by intro t x cs hs h;obtain⟨v,rfl,h2⟩:=Si hs h;exact⟨v,[],rfl,h2,rfl⟩
 intro p
 induction p with
 |unit=>intro x cs h _;exact h
 |pair a b nA jD=>intro x cs ⟨c,d,e,h1,h2⟩ hs;subst e;obtain⟨g1,g2⟩:=qbk (a:=w7 a x.1) (b:=w7 b x.2) hs;exact GR (nA _ _ h1 g1) (jD _ _ h2 g2)
 |st p ih=>intro x cs h hs;exact ih x cs h hs
 |arr n e _=>intro x cs h hs;simp[w7,uw,L3,jA] at hs
 |int k=>intro x cs h _;exact one _ _ _ rfl h
 |bool=>intro x cs h _;exact one _ _ _ rfl h
 |ej=>intro x cs h _;exact one _ _ _ rfl h
 |cJ=>intro x cs h _;exact one _ _ _ rfl h
 |str=>intro x cs h _;exact one _ _ _ rfl h
 |sl e _=>intro x cs h _;exact one _ _ _ rfl h
 |ks q _=>intro x cs h _;exact one (.sl (lK q)) (CF q x) _ rfl ((Mi q x cs).1 h)
theorem VL{x:V}{z:Value}{vs:List V}(hx:av φ o imm w x z)(h:Nt o x=some vs):bV φ o imm w vs z.cells.toList/\∀c,c∈z.cells.toList->c.oneCell'=true:=by
 unfold Nt at h;split at h
 ·rename_i p y;cases hs:uw o (w7 p y) with
  |false=>rw[hs] at h;cases h
  |true=>rw[hs] at h;injection h with h;subst h;obtain⟨cs,rfl,h1⟩:=hx;have:=z5r (φ:=φ) (o:=o) p y _ h1 hs;exact⟨this,VK this hs⟩
 ·rename_i cs;cases hs:uw o cs with
  |false=>rw[hs] at h;cases h
  |true=>rw[hs] at h;injection h with h;subst h;obtain⟨c,rfl,h1⟩:=hx;exact⟨h1,VK h1 hs⟩
 ·cases hs:L3 o x with
  |false=>rw[hs] at h;cases h
  |true=>rw[hs] at h;injection h with h;subst h;have h1:=qly hx hs;rw[qw0 h1];exact⟨⟨z,[],rfl,hx,rfl⟩,fun c hc=>by simp at hc;subst hc;exact h1⟩
theorem VM:∀(ns:List (Nat×Obj)) (o':Nat->Obj) (id:Nat),(∀p,p∈ns->∃e,p.2=.vec e 0 false ⟨true,[]⟩)->id∈bO ns->∃e,ar o' ns id=.vec e 0 false ⟨true,[]⟩:=by
 intro ns
 induction ns with
 |nil=>intro o' id _ h;cases h
 |cons p r ih=>
  obtain⟨i,y⟩:=p;intro o' id hc h;by_cases hr:id∈bO r
  ·exact ih _ _ (fun p hp=>hc p (zm _ hp)) hr
  ·simp only[bO,zt,hr,or_false] at h;subst h;show ∃e,ar (ck o' id y) r id=_;rw[gj hr,dM];exact hc _ (zj ..)
theorem Sz:∀{ns:List (Nat×Obj)} {p},p∈ns->p.1∈bO ns
 |q::r,p,h=>by
  rcases zt.1 h with rfl|h
  ·exact zj ..
  ·exact zm _ (Sz h)
theorem SA:∀(cs:List V) (sl:List (Option Ty)) (i:Nat),(∀p,p∈(mM i cs sl).2->(∃e,p.2=.vec e 0 false ⟨true,[]⟩)/\i<=p.1/\p.1<i+uz cs)/\(∀zs,bV φ o imm w cs zs->(∀y z,av φ o imm w y z->av φ' o' imm' w' y z)->(∀p,p∈(mM i cs sl).2->∃e,o' p.1=.vec e 0 false ⟨true,[]⟩)->bV φ' o' imm' w' (mM i cs sl).1 zs):=by
 intro cs
 induction cs with
 |nil=>
  intro sl i;have e:mM i [] sl=([],[]):=by cases sl<;>rfl
  rw[e];exact⟨(fun p hp=>by cases hp),fun zs h _ _=>h⟩
 |cons c cs ih=>
  intro sl i;cases sl with
  |nil=>
   have e:mM i (c::cs) []=(c::cs,[]):=by cases c<;>rfl
   rw[e];exact⟨(fun p hp=>by cases hp),fun zs h hk _=>Ig hk _ _ h⟩
  |cons s sl=>
   have other:mM i (c::cs) (s::sl)=(c::(mM i cs sl).1,(mM i cs sl).2)->(∀p,p∈(mM i (c::cs) (s::sl)).2->(∃e,p.2=.vec e 0 false ⟨true,[]⟩)/\i<=p.1/\p.1<i+uz (c::cs))/\
     (∀zs,bV φ o imm w (c::cs) zs->(∀y z,av φ o imm w y z->av φ' o' imm' w' y z)->(∀p,p∈(mM i (c::cs) (s::sl)).2->∃e,o' p.1=.vec e 0 false ⟨true,[]⟩)->
      bV φ' o' imm' w' (mM i (c::cs) (s::sl)).1 zs):=by
    intro e;rw[e];obtain⟨h1,h2⟩:=ih sl i;refine⟨fun p hp=>?_,fun zs ⟨z,r,e1,h3,h4⟩ hk ho=>⟨z,r,e1,hk _ _ h3,h2 _ h4 hk ho⟩⟩;obtain⟨g1,g2,g3⟩:=h1 p hp;refine⟨g1,g2,?_⟩;have:uz cs<=uz (c::cs):=by cases c<;>simp[uz]
    omega
   cases c<;>try exact other rfl
   cases s with
   |none=>exact other rfl
   |some e=>
    obtain⟨h1,h2⟩:=ih sl (i+1);show(∀p,p∈((i,Obj.vec e 0 false ⟨true,[]⟩)::(mM (i+1) cs sl).2)->_)/\_;refine⟨fun p hp=>?_,fun zs ⟨z,r,e1,h3,h4⟩ hk ho=>?_⟩
    ·rcases zt.1 hp with rfl|hp
     ·exact⟨⟨e,rfl⟩,Nat.le_refl _,by simp[uz]⟩
     ·obtain⟨g1,g2,g3⟩:=h1 p hp;refine⟨g1,by omega,?_⟩;simp only[uz];omega
    ·refine⟨z,r,e1,?_,h2 _ h4 hk fun p hp=>ho p (zm _ hp)⟩;obtain⟨e',hc⟩:=ho (i,.vec e 0 false ⟨true,[]⟩) (zj ..);unfold av;simp only at hc;rw[hc];exact⟨Nat.le_refl _,fun _=>.inl ⟨rfl,h3⟩⟩
theorem SB(hC:cu C){t:TypeId}{e:Ty}(h:C.ty t=some e)(he:e=.int .u8):C.P.underlying t=some (.int .u8):=by
 subst he;obtain⟨d,h0,h1,h2⟩:=(hC.dQ _ _ h).desc;clear h0;have hd:d=.int .u8:=by
  clear h1;cases d<;>simp only[l7] at h2<;>try (cases h2;done)
  rename_i k;cases k<;>first|rfl|(simp[qY] at h2;done)
 rw[h1,hd]
theorem qdz{e:Ty}(h:RA e=true)(he:e=.int .u8):False:=by subst he;cases h
theorem qp1{cs vs:List V}{off:Nat}(h:nu (L4 cs off vs)=true)(hv:nu vs=false):nu cs=true:=by
 unfold L4 at h;cases off with
 |zero=>
  cases vs with
  |nil=>simpa using h
  |cons v r=>rw[List.take_zero,List.nil_append] at h;cases v<;>first|(cases h;done)|(cases hv;done)
 |succ n=>
  cases cs with
  |nil=>cases vs with
   |nil=>simp[nu] at h
   |cons v r=>rw[List.take_nil,List.nil_append] at h;cases v<;>first|(cases h;done)|(cases hv;done)
  |cons c cs=>cases c<;>first|rfl|(cases h;done)
theorem en.setRow{b:Nat}{c:Array Value}{el:TypeId}{fz:Nat×Nat}(h:w.heap[b]?=some (.cells c el fz)){cs:Array Value}(hs:cs.size=c.size):en w (w.setRow b cs) b:=fun c0 el0 fz0 e=>by rw[h] at e;injection e with e;injection e with e1 e2 e3;subst e1 e2 e3;exact⟨cs,Sw h cs,hs⟩
theorem en.ov{b:Nat}{c:Array Value}{el:TypeId}{fz:Nat×Nat}(h:w.heap[b]?=some (.cells c el fz)){off:Nat}{ds:List Value}(hb:off+ds.length<=c.size):en w (w.setRow b (ov c.toList off ds).toArray) b:=.setRow h (by have:=VJ c.toList off ds (by simpa using hb);simpa using this)
theorem SC(hm:MRel C X φ o w){id:Nat}{e:Ty}{v v':Nat}{f f':Bool}{s s':Sl (den e)}(ho:o id=.vec e v f s)(hn:s.nil=false)(hk:en w w' (φ id).block):gi C w' (φ id) (.vec e v' f' s'):=fun ht _=>by have:=hm.oD id;rw[ho] at this;obtain⟨c,el,fz,h1,h2,h4⟩:=this ht hn;obtain⟨c',h3,h5⟩:=hk _ _ _ h1;exact⟨c',el,fz,h3,h2,by rw[h5];exact h4⟩
theorem z5s(hm:MRel C X φ o w){id:Nat}{cs jE:List V}(ho:o id=.box cs)(hs:nu jE=true->nu cs=true)(hk:en w w' (φ id).block):gi C w' (φ id) (.box jE):=fun h=>by have:=hm.oD id;rw[ho] at this;obtain⟨c,el,fz,h1,h3⟩:=this (hs h);obtain⟨c',h2,h4⟩:=hk _ _ _ h1;exact⟨c',el,fz,h2,by rw[h4];exact h3⟩
theorem qlz(hm:MRel C X φ o w){fr:Nat}{t el:TypeId}{cs:List V}{zs:Array Value}{v:V}{u:List (Nat×Obj)}(hr:bV φ o (ah X φ o w) w cs zs.toList)(h:(RO C fr t cs).aG v u)(hf:j9 fr o u):bZ C X φ o w v u (do pure (.pointer (some (<-newRow el zs)))):=by
 unfold RO at h;have main:∀(jE:List V) (ns:List (Nat×Obj)),(∀p,p∈ns->(∃e,p.2=.vec e 0 false ⟨true,[]⟩)/\fr+1<=p.1/\p.1<fr+16)->
   (∀(φ':Nat->Addr) (o':Nat->Obj) (imm':Nat->Prop) (w':World),(∀y z,av φ o (ah X φ o w) w y z->av φ' o' imm' w' y z)->(∀p,p∈ns->∃e,o' p.1=.vec e 0 false ⟨true,[]⟩)->bV φ' o' imm' w' jE zs.toList)->nu jE=false->
   j9 fr o ((fr,.box jE)::ns)->bZ C X φ o w (.ptr fr 0) ((fr,.box jE)::ns) (do pure (.pointer (some (<-newRow el zs)))):=by
  intro jE ns h1 h2 hs hf;refine⟨.pointer (some ⟨w.heap.size,0,none⟩),w.alloc (.cells zs el),ck φ fr ⟨w.heap.size,0,none⟩,by simp[newRow],?_⟩;have hc:o fr=.none:=hf _ (zj ..) (Nat.le_refl _) (by show fr<fr+16;omega);refine Comes.fresh hm (B:=.cells zs el) rfl (.box jE) (fun p hp=>?_) (fun _=>by rw[hc];trivial) (fun h3 h4 h5=>?_) (fun h=>by rw[hs] at h;cases h) (fun h3=>?_)
  ·obtain⟨g1,g2,g3⟩:=h1 p hp;exact⟨g1,by omega,hf p (zm _ hp) om g3⟩
  ·refine⟨by rw[dM],zs,el,0,0,?_,Nat.le_refl _,h2 _ _ _ _ h5 fun p hp=>?_⟩
   ·rw[dM];exact heap_alloc_new w _
   ·exact VM ns _ p.1 (fun q hq=>(h1 q hq).1) (Sz hp)
  ·unfold av;rw[h3,dM]
 cases hb:Nat.ble (uz cs) 14 with
 |true=>
  rw[hb] at h;simp only[cond_true,df,cY] at h;obtain⟨hs,rfl,rfl⟩:=h;have hs:nu (mM (fr+1) cs (xh C 8 t)).1=false:=by simpa using hs
  have hb:=zF hb;refine main _ _ (fun p hp=>?_) (fun φ' o' imm' w' hk hn=>(SA (φ':=φ') (o':=o') (imm':=imm') (w':=w') cs (xh C 8 t) (fr+1)).2 _ hr hk hn) hs hf;obtain⟨g1,g2,g3⟩:=(SA (φ:=φ) (o:=o) (imm:=ah X φ o w) (w:=w) (φ':=φ) (o':=o) (imm':=ah X φ o w) (w':=w) cs (xh C 8 t) (fr+1)).1 p hp;exact⟨g1,g2,by omega⟩
 |false=>rw[hb] at h;simp only[cond_false,df,cY] at h;obtain⟨hs,rfl,rfl⟩:=h;exact main cs [] (fun p hp=>by cases hp) (fun φ' o' imm' w' hk _=>Ig hk _ _ hr) (by simpa using hs) hf
theorem qw1(hm:MRel C X φ o w){fr:Nat}{cs:List V}{zs:Array Value}{v:V}{u:List (Nat×Obj)}(hr:bV φ o (ah X φ o w) w cs zs.toList)(h:(UT fr cs).aG v u)(hf:j9 fr o u):bZ C X φ o w v u (do pure (.pointer (some (<-newRow C.gX zs)))):=by
 unfold UT at h;split at h
 ·rw[cY] at h;obtain⟨rfl,rfl⟩:=h;obtain⟨z1,r1,e1,a1,z2,r2,e2,a2,a3⟩:=hr;have a1:z1=.pointer none:=a1;have a2:z2=.slice none 0 0:=a2;have a3:r2=[]:=a3;subst e2 a1 a2 a3;refine⟨.pointer (some ⟨w.heap.size,0,none⟩),w.alloc (.cells zs C.gX),ck φ fr ⟨w.heap.size,0,none⟩,by simp[newRow],?_⟩;have hd:o fr=.none:=hf _ (zj ..) (Nat.le_refl _) (by show fr<fr+16;omega);have hc:o (fr+1)=.none:=hf (fr+1,_) (zm _ (zj ..)) (by show fr<=fr+1;omega) (by show fr+1<fr+16;omega);have g0:ar o [(fr,Obj.box [.cG fr false,.aX (fr+1) 0]),(fr+1,.vec (.int .u8) 0 false ⟨true,[]⟩)] fr=.box [.cG fr false,.aX (fr+1) 0]:=by show ck (ck o fr _) (fr+1) _ fr=_;rw[gM om,dM]
  have g1:ar o [(fr,Obj.box [.cG fr false,.aX (fr+1) 0]),(fr+1,.vec (.int .u8) 0 false ⟨true,[]⟩)] (fr+1)=.vec (.int .u8) 0 false ⟨true,[]⟩:=by show ck (ck o fr _) (fr+1) _ (fr+1)=_;rw[dM]
  refine Comes.fresh hm (B:=.cells zs C.gX) rfl (.box [.cG fr false,.aX (fr+1) 0]) (fun p hp=>?_) (fun _=>by rw[hd];trivial) (fun h3 h4 h5=>?_) (fun _=>⟨zs,C.gX,(0,0),heap_alloc_new w _,.inl ⟨rfl,by rw[<-Array.length_toList,e1];rfl⟩⟩) (fun h3=>?_)
  ·rw[zB] at hp;subst hp;exact⟨⟨_,rfl⟩,by show fr+1≠fr;omega,hc⟩
  ·refine⟨by rw[dM],zs,C.gX,0,0,?_,Nat.le_refl _,?_⟩
   ·rw[dM];exact heap_alloc_new w _
   ·rw[e1];refine⟨_,_,rfl,?_,_,_,rfl,?_,rfl⟩
    ·unfold av;rw[g0];rfl
    ·unfold av;rw[g1];exact⟨Nat.le_refl _,fun _=>.inl ⟨rfl,rfl⟩⟩
  ·unfold av;rw[h3,dM]
 ·cases h
theorem qm0(hm:MRel C X φ o w){fr:Nat}{cs:List V}{zs:Array Value}{v:V}{u:List (Nat×Obj)}(hr:bV φ o (ah X φ o w) w cs zs.toList)(h:(RP fr cs).aG v u)(hf:j9 fr o u):bZ C X φ o w v u (do pure (.pointer (some (<-newRow C.oT zs)))):=by
 unfold RP at h;split at h
 ·rename_i s x t y;rw[df,cY,zd] at h;obtain⟨⟨he,hg⟩,rfl,rfl⟩:=h;obtain⟨z1,r1,e1,a1,z2,r2,e2,a2,z3,r3,e3,a3,z4,r4,e4,a4,a5⟩:=hr;have a1:z1=.pointer none:=a1;have a2:z2=.slice none 0 0:=a2;have a5:r4=[]:=a5;have b3:ba (ah X φ o w) w s x z3:=a3;have b4:ba (ah X φ o w) w t y z4:=a4;subst e2 e3 e4 a1 a2 a5;refine⟨.pointer (some ⟨w.heap.size,0,none⟩),w.alloc (.cells zs C.oT),ck φ fr ⟨w.heap.size,0,none⟩,by simp[newRow],?_⟩;have hd:o fr=.none:=hf _ (zj ..) (Nat.le_refl _) (by show fr<fr+16;omega);have hc:o (fr+1)=.none:=hf (fr+1,_) (zm _ (zj ..)) (by show fr<=fr+1;omega) (by show fr+1<fr+16;omega);have g0:ar o [(fr,Obj.box [.cG fr false,.aX (fr+1) 0,.d s x,.d t y]),(fr+1,.vec (.int .u8) 0 false ⟨true,[]⟩)] fr=.box [.cG fr false,.aX (fr+1) 0,.d s x,.d t y]:=by show ck (ck o fr _) (fr+1) _ fr=_;rw[gM om,dM]
  have g1:ar o [(fr,Obj.box [.cG fr false,.aX (fr+1) 0,.d s x,.d t y]),(fr+1,.vec (.int .u8) 0 false ⟨true,[]⟩)] (fr+1)=.vec (.int .u8) 0 false ⟨true,[]⟩:=by show ck (ck o fr _) (fr+1) _ (fr+1)=_;rw[dM]
  refine Comes.fresh hm (B:=.cells zs C.oT) rfl (.box [.cG fr false,.aX (fr+1) 0,.d s x,.d t y]) (fun p hp=>?_) (fun _=>by rw[hd];trivial) (fun h3 h4 h5=>?_) (fun _=>⟨zs,C.oT,(0,0),heap_alloc_new w _,.inr ⟨rfl,by rw[<-Array.length_toList,e1];rfl⟩⟩) (fun h3=>?_)
  ·rw[zB] at hp;subst hp;exact⟨⟨_,rfl⟩,by show fr+1≠fr;omega,hc⟩
  ·refine⟨by rw[dM],zs,C.oT,0,0,?_,Nat.le_refl _,?_⟩
   ·rw[dM];exact heap_alloc_new w _
   ·rw[e1];refine⟨_,_,rfl,?_,_,_,rfl,?_,_,_,rfl,?_,_,_,rfl,?_,rfl⟩
    ·unfold av;rw[g0];rfl
    ·unfold av;rw[g1];exact⟨Nat.le_refl _,fun _=>.inl ⟨rfl,rfl⟩⟩
    ·exact h5 _ _ a3
    ·exact h5 _ _ a4
  ·unfold av;rw[h3,dM]
 ·cases h
theorem Im(hm:MRel C X φ o w){fr ver cap lo hi:Nat}{e:Ty}{l:List (den e)}{c:Array Value}{el:TypeId}{w':World}{ec rest:List Value}(hf:w'.heap=w.heap.push (.cells c el (lo,hi)))(hj:∀w',Up w w' (φ fr) ⟨w.heap.size,0,none⟩ (o fr) (.vec e ver false ⟨false,l⟩))(hc:c.toList=ec++rest)(hr:bD (az (ah X φ o w) w e) l ec)(hd:c.size=cap*aI e)(hg:l.length<=cap)(hl:l.length<=bU)(hk:lo=hi\/c.size<=lo)(ho:e=.int .u8->C.P.underlying el=some (.int .u8))(still:tw w w':=by exact⟨rfl,rfl⟩):
  Comes C X φ (ck φ fr ⟨w.heap.size,0,none⟩) o [(fr,.vec e ver false ⟨false,l⟩)] w w' (.aX fr ver) (.slice (some ⟨w.heap.size,0,none⟩) l.length cap)/\
  Comes C X φ (ck φ fr ⟨w.heap.size,0,none⟩) o [(fr,.vec e ver false ⟨false,l⟩)] w w' (.ptr fr 0) (.pointer (some ⟨w.heap.size,0,none⟩)):=by
 have hh:w'.heap[w.heap.size]?=some (.cells c el (lo,hi)):=by rw[hf];simp
 have he:∀n,n<=c.size->room w' ⟨w.heap.size,0,none⟩ n:=fun n hn=>⟨c,el,lo,hi,hh,by simpa using hn,by simp only[zO];omega⟩;have hq:=nx hr;have hs:l.length*aI e<=c.size:=by rw[hd];exact Nat.mul_le_mul_right _ hg
 have both:∀v z,(ar o [(fr,Obj.vec e ver false ⟨false,l⟩)] fr=.vec e ver false ⟨false,l⟩->av (ck φ fr ⟨w.heap.size,0,none⟩) (ar o [(fr,.vec e ver false ⟨false,l⟩)]) (ah X (ck φ fr ⟨w.heap.size,0,none⟩) (ar o [(fr,.vec e ver false ⟨false,l⟩)]) w') w' v z)->
   Comes C X φ (ck φ fr ⟨w.heap.size,0,none⟩) o [(fr,.vec e ver false ⟨false,l⟩)] w w' v z:=by
  intro v z hv;refine Comes.fresh hm hf (.vec e ver false ⟨false,l⟩) (ns:=[]) (fun p hp=>by cases hp) hj (fun h3 h4 h5=>?_) (fun ht _=>⟨c,el,(lo,hi),hh,ho ht,hk⟩) hv still;refine⟨hl,by simp,fun _=>.inl ⟨by rw[dM],ec,mO (fW h3 h4 e) hr,?_,?_,fun _=>?_,by simp⟩⟩
  ·rw[dM];have:=N2 hh 0 ec.length;rw[List.drop_zero,hc,List.take_left'] at this
   ·exact this
   ·rfl
  ·rw[dM];exact he 0 (Nat.zero_le _)
  ·rw[dM];exact he _ hs
 refine⟨both _ _ fun h3=>?_,both _ _ fun h3=>?_⟩
 ·unfold av;rw[h3,dM];exact⟨Nat.le_refl _,fun _=>.inr ⟨rfl,cap,rfl,hg,fun h=>by simp at h,fun _ _=>he _ (by rw[hd];exact Nat.le_refl _)⟩⟩
 ·unfold av;rw[h3,dM];exact fun _=>rfl
theorem N7:∀(zs:List Value),bV φ o imm w (zs.map Gz) zs
 |[]=>rfl
 |z::zs=>⟨z,zs,rfl,Vo z,N7 zs⟩
theorem qig{t:TypeId}{cs:List V}(h:RL C t=some cs):∃i z,C.P.info? t=some i/\i.zero=some z/\cs=z.cells.toList.map Gz:=by
 unfold RL at h;split at h
 ·rename_i i e;split at h
  ·rename_i z hz;exact⟨i,z,NQ e,hz,(zK h).symm⟩
  ·cases h
 ·cases h
theorem Mr{fr:Nat}{a:Addr}{x:Obj}(h:o fr=.none):∀w',Up w w' (φ fr) a (o fr) x:=fun _=>by rw[h];trivial
theorem qta(hC:cu C)(hm:MRel C X φ o w){fr:Nat}{t:TypeId}{v:V}{u:List (Nat×Obj)}(h:(UW C fr t).aG v u)(hf:j9 fr o u)(ct:Value):bZ C X φ o w v u (Instr.alloc t true ct):=by
 unfold UW at h;split at h
 ·rename_i n e he;rw[df,cY,zd,zd] at h;obtain⟨⟨⟨h1,hg⟩,hj⟩,rfl,rfl⟩:=h;have hk:o fr=.none:=hf _ (zj ..) (Nat.le_refl _) (by show fr<fr+16;omega);have hT:=hC.dQ _ _ he;obtain⟨i,z,k1,_,k2,k3,k4,k5,k6⟩:=hT.info;have hz:=k6 (ah X φ o w) w;obtain⟨hl,hd⟩:=hz;have hc:=nx hd;refine⟨.pointer (some ⟨w.heap.size,0,none⟩),w.alloc (.cells z.cells t),_,by simp[Instr.alloc,xo k1 k4,newVar,newRow],
   (Im hm (c:=z.cells) (el:=t) (lo:=0) (hi:=0) (cap:=n) (ec:=z.cells.toList) (rest:=[]) rfl (Mr hk) (by simp) ?_ ?_ (by simp) ?_ (.inl rfl) (fun he=>(qdz hj he).elim)).2⟩
  ·simpa[zero] using hd
  ·have e1:List.length (zero (.arr n e))=n:=hl;rw[e1] at hc;simpa using hc
  ·have:=zF hg;simp;unfold bU;omega
 ·split at h
  ·rename_i cs hn;obtain⟨i,z,k1,k2,rfl⟩:=qig hn;cases hb:Nat.beq t C.gX with
   |false=>
    rw[hb,cond_false] at h;cases hp:Nat.beq t C.oT with
    |true=>rw[hp,cond_true] at h;have hp:=zg hp;obtain⟨val,w',φ',g1,g2⟩:=qm0 hm (zs:=z.cells) (N7 _) h hf;refine⟨val,w',φ',?_,g2⟩;rw[<-g1,<-hp];simp[Instr.alloc,xo k1 k2,newVar]
    |false=>rw[hp,cond_false] at h;obtain⟨val,w',φ',g1,g2⟩:=qlz hm (el:=t) (zs:=z.cells) (N7 _) h hf;refine⟨val,w',φ',?_,g2⟩;rw[<-g1];simp[Instr.alloc,xo k1 k2,newVar]
   |true=>rw[hb,cond_true] at h;have hb:=zg hb;obtain⟨val,w',φ',g1,g2⟩:=qw1 hm (zs:=z.cells) (N7 _) h hf;refine⟨val,w',φ',?_,g2⟩;rw[<-g1,<-hb];simp[Instr.alloc,xo k1 k2,newVar]
  ·cases h
theorem z0u(hm:MRel C X φ o w){fr:Nat}{t:TypeId}{x:V}{z:Value}{v:V}{u:List (Nat×Obj)}(hx:av φ o (ah X φ o w) w x z)(h:(UX C o fr t x).aG v u)(hf:j9 fr o u):bZ C X φ o w v u (Instr.box t z):=by
 unfold UX at h;split at h
 ·rename_i n e l;rw[df,cY,zd,zd] at h;obtain⟨⟨⟨h1,hd⟩,hg⟩,rfl,rfl⟩:=h;have hj:o fr=.none:=hf _ (zj ..) (Nat.le_refl _) (by show fr<fr+16;omega);obtain⟨cs,rfl,hl,hr⟩:=hx;have hl:List.length l=n:=hl;have hc:=nx hr;refine⟨.pointer (some ⟨w.heap.size,0,none⟩),w.alloc (.cells cs t),_,by simp[Instr.box,newVar,newRow,Value.cells],
   (Im hm (c:=cs) (el:=t) (lo:=0) (hi:=0) (cap:=n) (ec:=cs.toList) (rest:=[]) rfl (Mr hj) (by simp) hr ?_ ?_ ?_ (.inl rfl) (fun he=>(qdz hg he).elim)).2⟩
  ·rw[hl] at hc;simpa using hc
  ·omega
  ·have:=zF hd;unfold bU;omega
 ·split at h
  ·rename_i cs hk;obtain⟨g1,g2⟩:=VL hx hk;cases hp:Nat.beq t C.oT with
   |true=>rw[hp,cond_true] at h;have hp:=zg hp;subst hp;exact qm0 hm (zs:=z.cells) g1 h hf
   |false=>rw[hp,cond_false] at h;exact qlz hm (el:=t) (zs:=z.cells) g1 h hf
  ·cases h
end
end Ev