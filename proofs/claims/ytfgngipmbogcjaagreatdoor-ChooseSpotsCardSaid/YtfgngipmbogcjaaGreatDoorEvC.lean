/- Operations are sound: reading, fields, indices, slices, boxes. No statement of its own about the program. -/
import Derived.Test.YtfgngipmbogcjaaGreatDoorEvB
import Derived.Laws.AppendOwn
import Derived.Laws.CopyRow
import Derived.Laws.MakeOwn
import Derived.Laws.BytesString
import Derived.Laws.IdiomCopy
import Derived.Laws.IdiomStrings
namespace Ev
open Go
theorem eY{α:Type}{f:Nat->α}{i:Nat}{x:α}:cV f i x i=x:=by simp[cV]
theorem o6{α:Type}{f:Nat->α}{i j:Nat}{x:α}(h:j≠i):cV f i x j=f j:=by
 unfold cV;have:Nat.beq j i=false:=by
  cases e:Nat.beq j i with
  |false=>rfl
  |true=>exact absurd (zh e) h
 rw[this];rfl
theorem iM:∀{u:List (Nat×Obj)} {o:Nat->Obj} {id:Nat},id∉bO u->ar o u id=o id
 |[],_,_,_=>rfl
 |(i,x)::r,o,id,h=>by simp only[bO,zu,not_or] at h;show ar (cV o i x) r id=_;rw[iM h.2,o6 h.1]
theorem qeh{α:Type}:∀(u u':List (Nat×α)) (o:Nat->α),ar o (u++u')=ar (ar o u) u'
 |[],_,_=>rfl
 |(i,x)::r,u',o=>qeh r u' (cV o i x)
theorem Lb:∀(u u':List (Nat×Obj)),bO (u++u')=bO u++bO u'
 |[],_=>rfl
 |(i,x)::r,u'=>by simp[bO,Lb r u']
theorem Up.trans{w w' JC:World}{a a' a'':Addr}{x y z:Obj}(h:Up w w' a a' x y)(h':Up w' JC a' a'' y z):Up w JC a a'' x z:=by
 cases x with
 |none=>trivial
 |dead=>cases y<;>simp only[Up] at h<;>cases z<;>simp only[Up] at h' ⊢
 |box cs=>cases y<;>simp only[Up] at h<;>cases z<;>simp only[Up] at h' ⊢;rw[h',h]
 |map k v m=>cases y<;>simp only[Up] at h<;>cases z<;>simp only[Up] at h' ⊢;rw[h',h]
 |iter s p=>cases y<;>simp only[Up] at h<;>cases z<;>simp only[Up] at h' ⊢;rw[h',h]
 |vec t ver fr s=>
  cases y<;>simp only[Up] at h<;>cases z<;>simp only[Up] at h' ⊢;rcases h with h|⟨h1,h2,h3,h4,h5,h6⟩<;>rcases h' with h'|⟨g1,g2,g3,g4,g5,g6⟩
  ·exact .inl om
  ·exact .inl om
  ·exact .inl om
  ·refine .inr ⟨by omega,h2.trans g2,h3.trans g3,h4.trans g4,g5.trans h5,fun hf=>?_⟩;obtain⟨g7,g8⟩:=g6 hf;obtain⟨h7,h8⟩:=h6 g7;refine⟨h7,fun hn hs n hr=>?_⟩;have:=g8 (h3▸hn) (by rw[h5];exact hs) n (by rw[h5];exact h8 hn hs n hr);rw[h5] at this;exact this
section
variable {C:Cx} {X:Nat→Prop} {φ φ' fy:Nat→Addr} {o:Nat→Obj} {w w' JC:World} {u u':List (Nat×Obj)} {v v':V} {z z':Value}
theorem Fe{α β:Type}{f f':α->Value->Prop}{g g':β->Value->Prop}(hf:∀x v,f x v->f' x v)(hg:∀x v,g x v->g' x v):∀{l:List (α×β)} {es:List MapEntry},xD f g l es->xD f' g' l es
 |[],_,h=>h
 |_::_,_,⟨e,r,h1,h2,h3,h4⟩=>⟨e,r,h1,hf _ _ h2,hg _ _ h3,Fe hf hg h4⟩
theorem Ff{imm imm':Nat->Prop}{o':Nat->Obj}(h:∀x z,ay φ o imm w x z->ay φ' o' imm' w' x z):∀(l:List V) (zs:List Value),cd φ o imm w l zs->cd φ' o' imm' w' l zs
 |[],_,h1=>h1
 |_::l,_,⟨a,r,h1,h2,h3⟩=>⟨a,r,h1,h _ _ h2,Ff h l _ h3⟩
theorem Gb{imm imm':Nat->Prop}{o':Nat->Obj}(hi:∀b,imm b->imm' b)(hw:∀b,imm b->w'.heap[b]?=w.heap[b]?)(hk:∀x z,ay φ o imm w x z->ay φ' o' imm' w' x z){id:Nat}{x:Obj}(hp:φ' id=φ id)(hb:aX (φ id) x=true->w'.heap[(φ id).block]?=w.heap[(φ id).block]?)(h:qq φ o imm w id x):qq φ' o' imm' w' id x:=by
 cases x with
 |dead=>trivial
 |none=>trivial
 |box cs=>obtain⟨h1,c,el,lo,he,h2,h3,h4⟩:=h;refine⟨by rw[hp];exact h1,c,el,lo,he,?_,h3,Ff hk _ _ h4⟩;rw[hp,hb rfl,h2]
 |map k v m=>obtain⟨es,clock,h1,h2⟩:=h;refine⟨es,clock,by rw[hp,hb rfl,h1],Fe (tu hi hw _) (tu hi hw _) h2⟩
 |iter l p=>obtain⟨s,n,h1,h2,h3,h4⟩:=h;exact⟨s,n,by rw[hp,hb rfl,h1],h2,h3,h4⟩
 |vec t ver fr s=>
  obtain⟨h1,h2,h3⟩:=h;refine⟨h1,h2,fun hn=>?_⟩;rw[hp];refine(h3 hn).imp (fun⟨h4,ec,h5,h6,h7,h8,h9⟩=>?_) fun g=>g;have hc:w'.heap[(φ id).block]?=w.heap[(φ id).block]?:=by
   cases fr with
   |false=>exact hb (uZ hn h4)
   |true=>exact hw _ (h9 rfl)
  exact⟨h4,ec,oY (iF hi hw t) h5,Js hc h6,CA hc h7,fun hf=>CA hc (h8 hf),fun hf=>hi _ (h9 hf)⟩
theorem MRel.CC(hm:MRel C X φ o w){ks:List Nat}{id:Nat}(hx:aX (φ id) (o id)=true)(hk:id∉ks):¬hit ks φ o (φ id).block:=fun⟨j,h1,h2,h3⟩=>hk (hm.inj j id h2 hx h3▸h1)
theorem Comes.make(hm:MRel C X φ o w)(size:w.heap.size<=w'.heap.size)(frame:∀b,b<w.heap.size->¬hit (bO u) φ o b->w'.heap[b]?=w.heap[b]?)(oZ:∀id,id∉bO u->φ' id=φ id)(RW:∀id,o id≠.none->id∉bO u->φ' id=φ id)(up:∀id,id∈bO u->Up w w' (φ id) (φ' id) (o id) (ar o u id))(place:∀id,id∈bO u->aX (φ' id) (ar o u id)=true->(w.heap.size<=(φ' id).block/\(φ' id).block<w'.heap.size)\/(aX (φ id) (o id)=true/\(φ' id).block=(φ id).block))(apart:∀i j,i∈bO u->j∈bO u->aX (φ' i) (ar o u i)=true->aX (φ' j) (ar o u j)=true->w.heap.size<=(φ' i).block->(φ' i).block=(φ' j).block->i=j)(obj:(∀b,ah X φ o w b->ah X φ' (ar o u) w' b)->(∀b,ah X φ o w b->w'.heap[b]?=w.heap[b]?)->(∀x z,ay φ o (ah X φ o w) w x z->ay φ' (ar o u) (ah X φ' (ar o u) w') w' x z)->∀id,id∈bO u->qq φ' (ar o u) (ah X φ' (ar o u) w') w' id (ar o u id))(u0:∀id,id∈bO u->iL C w' (φ' id) (ar o u id))(val:(∀b,ah X φ o w b->ah X φ' (ar o u) w' b)->(∀b,ah X φ o w b->w'.heap[b]?=w.heap[b]?)->(∀x z,ay φ o (ah X φ o w) w x z->ay φ' (ar o u) (ah X φ' (ar o u) w') w' x z)->ay φ' (ar o u) (ah X φ' (ar o u) w') w' v z)(still:CB w w':=by exact⟨rfl,rfl⟩):Comes C X φ φ' o u w w' v z:=by
 have bl:∀id,id∉bO u->aX (φ id) (o id)=true->w'.heap[(φ id).block]?=w.heap[(φ id).block]?:=fun id hk hx=>frame _ (hm.sep id hx).1 (hm.CC hx hk);have stays:∀b,ah X φ o w b->w'.heap[b]?=w.heap[b]?:=fun b hb=>frame b hb.1 fun⟨id,_,e1,e2⟩=>hb.2.2 ⟨id,e1,e2⟩;have Fg:∀id,Up w w' (φ id) (φ' id) (o id) (ar o u id):=fun id=>by
  by_cases hk:id∈bO u
  ·exact up id hk
  ·rw[oZ id hk,iM hk];exact Up.same fun hx n hr=>CA (bl id hk hx) hr
 have news:∀id,aX (φ' id) (ar o u id)=true->w.heap.size<=(φ' id).block\/qJ φ o (φ' id).block:=fun id hx=>by
  by_cases hk:id∈bO u
  ·rcases place id hk hx with h|⟨h,e⟩
   ·exact .inl h.1
   ·exact .inr ⟨id,h,e.symm⟩
  ·rw[iM hk,oZ id hk] at hx;exact .inr ⟨id,hx,by rw[oZ id hk]⟩
 have imm:∀b,ah X φ o w b->ah X φ' (ar o u) w' b:=fun b ⟨h1,h2,h3⟩=>
  ⟨Nat.lt_of_lt_of_le h1 size,h2,fun⟨id,e1,e2⟩=>by
   rcases news id e1 with e3|e3
   ·omega
   ·exact h3 (e2▸e3)⟩
 have keeps:∀x z,ay φ o (ah X φ o w) w x z->ay φ' (ar o u) (ah X φ' (ar o u) w') w' x z:=fun x z h=>BQ imm stays Fg x z h;have pl:∀id,aX (φ' id) (ar o u id)=true->(w.heap.size<=(φ' id).block/\(φ' id).block<w'.heap.size)\/(aX (φ id) (o id)=true/\(φ' id).block=(φ id).block):=fun id hx=>by
  by_cases hk:id∈bO u
  ·exact place id hk hx
  ·rw[iM hk,oZ id hk] at hx;exact .inr ⟨hx,by rw[oZ id hk]⟩
 refine⟨⟨fun id=>?_,fun i j hi hj e=>?_,fun i hi=>?_,fun b hb=>Nat.lt_of_lt_of_le (hm.xs b hb) size,fun id=>?_,fun g t x hg=>keeps _ _ (hm.fC g t x hg),hm.u7 stays⟩,val imm stays keeps,Fg,size,frame,RW,news,still⟩
 ·by_cases hk:id∈bO u
  ·exact obj imm stays keeps id hk
  ·rw[iM hk];exact Gb imm stays keeps (oZ id hk) (bl id hk) (hm.aB id)
 ·rcases pl i hi with hc|hc<;>rcases pl j hj with he|he
  ·by_cases ki:i∈bO u
   ·by_cases kj:j∈bO u
    ·exact apart i j ki kj hi hj hc.1 e
    ·rw[iM kj,oZ j kj] at hj;have:=(hm.sep j hj).1;rw[<-oZ j kj] at this;omega
   ·rw[iM ki,oZ i ki] at hi;have:=(hm.sep i hi).1;rw[<-oZ i ki] at this;omega
  ·have:=(hm.sep j he.1).1;omega
  ·have:=(hm.sep i hc.1).1;omega
  ·exact hm.inj i j hc.1 he.1 (by rw[<-hc.2,<-he.2,e])
 ·rcases pl i hi with hc|hc
  ·exact⟨hc.2,fun hx=>by have:=hm.xs _ hx;omega⟩
  ·obtain⟨h1,h2⟩:=hm.sep i hc.1;rw[hc.2];exact⟨by omega,h2⟩
 ·by_cases hk:id∈bO u
  ·exact u0 id hk
  ·rw[oZ id hk,iM hk];refine(hm.u0 id).bJ (fun hx=>.same (bl id hk hx)) (fun ver s e hn=>.same ?_) (hm.K1 id);have ho:=hm.aB id;rw[e] at ho;obtain⟨_,_,ho⟩:=ho;rcases ho hn with ⟨_,_,_,_,_,_,g7⟩|g7
   ·exact stays _ (g7 rfl)
   ·exact absurd rfl g7.2.2
theorem Comes.trans(h:Comes C X φ φ' o u w w' v z)(h':Comes C X φ' fy (ar o u) u' w' JC v' z'):Comes C X φ fy o (u++u') w JC v' z':=by
 have e:ar o (u++u')=ar (ar o u) u':=qeh _ _ _;refine⟨by rw[e];exact h'.mem,by rw[e];exact h'.val,fun id=>by rw[e];exact(h.up id).trans (h'.up id),Nat.le_trans h.size h'.size,fun b hb hh=>?_,fun id hn hk=>?_,fun id hx=>?_,⟨h'.still.1.trans h.still.1,h'.still.2.trans h.still.2⟩⟩
 ·rw[h'.frame b (Nat.lt_of_lt_of_le hb h.size),h.frame b hb]
  ·rintro⟨id,h1,h2,h3⟩;exact hh ⟨id,by rw[Lb];exact List.mem_append_left _ h1,h2,h3⟩
  ·rintro⟨id,h1,h2,h3⟩;by_cases hk:id∈bO u
   ·rcases h.news id h2 with h4|⟨j,h4,h5⟩
    ·omega
    ·by_cases hj:j∈bO u
     ·exact hh ⟨j,by rw[Lb];exact List.mem_append_left _ hj,h4,by rw[h5,h3]⟩
     ·have hc:o j≠.none:=by intro e2;rw[e2] at h4;simp[aX,live] at h4
      have:=h.mem.inj id j h2 (by rw[iM hj,h.oZ j hc hj];exact h4) (by rw[h.oZ j hc hj,h5]);exact hj (this▸hk)
   ·rw[iM hk] at h2;have hc:o id≠.none:=by intro e2;rw[e2] at h2;simp[aX,live] at h2
    rw[h.oZ id hc hk] at h3 h2;exact hh ⟨id,by rw[Lb];exact List.mem_append_right _ h1,h2,h3⟩
 ·rw[Lb,zL,not_or] at hk;rw[h'.oZ id (by rw[iM hk.1];exact hn) hk.2,h.oZ id hn hk.1]
 ·rw[e] at hx;rcases h'.news id hx with h1|⟨j,h1,h2⟩
  ·exact .inl (Nat.le_trans h.size h1)
  ·rcases h.news j h1 with h3|h3
   ·exact .inl om
   ·exact .inr (h2▸h3)
theorem BR:∀{ks:List Nat} {id:Nat},id∈bO (dX o ks)->∃t ver fr s,o id=.vec t ver fr s/\∀o',ar o' (dX o ks) id=.vec t ver true s
 |[],id,h=>by cases h
 |k::r,id,h=>by
  have:dX o (k::r)=dX o r\/∃t ver fr s,o k=.vec t ver fr s/\dX o (k::r)=(k,.vec t ver true s)::dX o r:=by
   simp only[dX];cases e:o k with
   |vec t ver fr s=>exact .inr ⟨t,ver,fr,s,rfl,rfl⟩
   |_=>exact .inl rfl
  rcases this with e|⟨t,ver,fr,s,e1,e2⟩
  ·rw[e] at h ⊢;exact BR h
  ·rw[e2] at h ⊢;by_cases hk:id∈bO (dX o r)
   ·obtain⟨t',aF,Fa,s',h1,h2⟩:=BR hk;exact⟨t',aF,Fa,s',h1,fun o'=>h2 _⟩
   ·simp only[bO,zu,hk,or_false] at h;subst h;exact⟨t,ver,fr,s,e1,fun o'=>by show ar (cV o' id _) (dX o r) id=_;rw[iM hk,eY]⟩
theorem RX:∀{ks:List Nat} {id:Nat},id∈ks->∀{t ver fr s},o id=.vec t ver fr s->id∈bO (dX o ks)
 |k::r,id,h,t,ver,fr,s,e=>by
  rcases zu.1 h with h|h
  ·subst h;simp[dX,e,bO]
  ·have:=RX h e;simp only[dX];split
   ·exact zg _ this
   ·exact this
theorem Lc(hm:MRel C X φ o w)(ks:List Nat):Comes C X φ φ o (dX o ks) w w .undef undef:=by
 refine Comes.make hm (Nat.le_refl _) (fun _ _ _=>rfl) (fun _ _=>rfl) (fun _ _ _=>rfl) (fun id hk=>?_) (fun id hk hx=>?_) (fun i j hi _ hx=>?_) (fun hi hw hg id hk=>?_) (fun id hk=>by obtain⟨t,ver,fr,s,h1,h2⟩:=BR hk;have:=hm.u0 id;rw[h1] at this;rw[h2 o];exact this) (fun _ _ _=>rfl)
 ·obtain⟨t,ver,fr,s,h1,h2⟩:=BR hk;rw[h1,h2 o];exact .inr ⟨rfl,rfl,rfl,rfl,rfl,by simp⟩
 ·obtain⟨t,ver,fr,s,h1,h2⟩:=BR hk;rw[h2 o] at hx;have:=(Cz hx).2.1;simp at this
 ·obtain⟨t,ver,fr,s,h1,h2⟩:=BR hi;rw[h2 o] at hx;have:=(Cz hx).2.1;simp at this
 ·obtain⟨t,ver,fr,s,h1,h2⟩:=BR hk;have ho:=hm.aB id;rw[h2 o];rw[h1] at ho;obtain⟨h3,h4,h5⟩:=ho;refine⟨h3,h4,fun hn=>(h5 hn).imp (fun⟨h6,ec,h7,h8,h9,hl,hc⟩=>?_) fun g=>g⟩;refine⟨h6,ec,oY (iF hi hw t) h7,h8,h9,by simp,fun _=>?_⟩;cases hf:fr with
  |true=>exact hi _ (hc hf)
  |false=>
   have hx:aX (φ id) (o id)=true:=by rw[h1,hf];exact uZ hn h6
   obtain⟨g1,g2⟩:=hm.sep id hx;refine⟨g1,g2,fun⟨j,e1,e2⟩=>?_⟩;by_cases hj:j∈bO (dX o ks)
   ·obtain⟨t',aF,Fa,s',_,he⟩:=BR hj;rw[he o] at e1;have:=(Cz e1).2.1;simp at this
   ·rw[iM hj] at e1;have:=hm.inj j id e1 hx e2;subst this;exact hj hk
end
theorem xE{t t':Ty}{x:den t'}{y:den t}(h:gX t t' x=some y):∃e:t'=t,y=e▸x:=by
 unfold gX at h;split at h
 ·rename_i e _;exact⟨e,(zG h).symm⟩
 ·cases h
section
variable {C:Cx} {X:Nat→Prop} {φ:Nat→Addr} {o:Nat→Obj} {w:World} {imm:Nat→Prop}
def z46(imm:Nat->Prop)(w:World)(e:Ty)(s:Sl (den e))(z:Value):Prop:=s.l.length<=cC/\
 ((s.nil=true/\s.l=[]/\z=.slice none 0 0)\/
  (s.nil=false/\∃a cap ec,z=.slice (some a) s.l.length cap/\(cap≠0->a.spot=none)/\bG (aC imm w e) s.l ec/\lA w a ec/\s.l.length<=cap))
theorem Ld{a:Addr}{ec:List Value}(n:Nat)(h:lA w a ec):lA w a (ec.take n):=by
 intro j hj;have hc:j<ec.length:=by simp at hj;omega
 rw[h j hc];simp
theorem O0{x:V}{z:Value}{t:Ty}{s:Sl (den t)}(hl:∀id,qq φ o imm w id (o id))(h:ay φ o imm w x z)(he:BK lf o x=some ⟨t,s⟩):z46 imm w t s z/\(∃id ver fr s',o id=.vec t ver fr s'/\(s.nil=false->∀a n c,z=.slice (some a) n c->a.block=(φ id).block)/\s.nil=s'.nil/\(fr=false->id∈eX o x)/\(s'.l=[]->s.l=[])):=by
 cases x<;>simp only[BK] at he<;>try (cases he;done)
 ·rename_i id ver;have ho:=hl id;unfold ay at h;split at he
  ·rename_i t' aF fr s' e1;rw[e1] at h ho;cases hb:Nat.beq ver aF with
   |false=>rw[hb] at he;cases he
   |true=>
    rw[hb] at he;simp only[cond_true,zK,Sigma.mk.injEq] at he;obtain⟨rfl,he⟩:=he;have he:=eq_of_heq he;subst he;have h:=h.2 (zh hb);refine⟨⟨ho.1,?_⟩,id,aF,fr,s',e1,?_,rfl,?_,fun h=>h⟩
    ·rcases h with ⟨h1,h2⟩|⟨h1,cap,h2,h3,h4⟩
     ·exact .inl ⟨h1,ho.2.1 h1,h2⟩
     ·rcases ho.2.2 h1 with ⟨h5,ec,h6,h7,_⟩|⟨_,h6,_⟩
      ·exact .inr ⟨h1,_,cap,ec,h2,F6 h4.1,h6,h7,h3⟩
      ·exact .inr ⟨h1,_,cap,[],h2,F6 h4.1,(by rw[h6];rfl),(fun j hj=>by simp at hj),h3⟩
    ·intro hn a n c e;rcases h with ⟨h1,h2⟩|⟨h1,cap,h2,h3,h4⟩
     ·rw[h1] at hn;cases hn
     ·rw[h2] at e;injection e with e _ _;injection e with e;rw[<-e];rfl
    ·intro hf;subst hf;simp[eX,e1]
  ·cases he
 ·rename_i id ver n cp;have ho:=hl id;unfold ay at h;split at he
  ·rename_i t' aF fr s' e1;rw[e1] at h ho;cases hb:Nat.beq ver aF with
   |false=>rw[hb] at he;cases he
   |true=>
    rw[hb] at he;simp only[cond_true,zK,Sigma.mk.injEq] at he;obtain⟨rfl,he⟩:=he;have he:=eq_of_heq he;subst he;obtain⟨h0,h,_⟩:=h.2 (zh hb);have e2:(lf.aO s'.l n).length=n:=by simp[lf,aO,Nat.min_eq_left h0]
    refine⟨⟨?_,?_⟩,id,aF,fr,s',e1,?_,rfl,?_,fun h=>by show lf.aO s'.l n=[];rw[h];simp[lf,aO]⟩
    ·show(lf.aO s'.l n).length<=cC;have:=ho.1;omega
    ·rcases h with ⟨h1,h2⟩|⟨h1,cap,h2,h3,h4⟩
     ·exact .inl ⟨h1,by simp[lf,aO,ho.2.1 h1],h2⟩
     ·have e3:z=.slice (some (bare (φ id))) (lf.aO s'.l n).length cap:=by rw[h2];exact congrArg (fun k=>Value.slice (some (bare (φ id))) k cap) e2.symm
      have e4:(lf.aO s'.l n).length<=cap:=om
      rcases ho.2.2 h1 with ⟨h5,ec,h6,h7,_⟩|⟨_,h6,_⟩
      ·exact .inr ⟨h1,bare (φ id),cap,ec.take (n*aN t'),e3,F6 h4.1,(wC n h0 h6).1,Ld _ h7,e4⟩
      ·refine .inr ⟨h1,bare (φ id),cap,[],e3,F6 h4.1,?_,(fun j hj=>by simp at hj),e4⟩;have:lf.aO s'.l n=[]:=by rw[h6];simp[lf,aO]
       show bG _ (lf.aO s'.l n) [];rw[this];rfl
    ·intro hn a m c e;rcases h with ⟨h1,h2⟩|⟨h1,cap,h2,h3,h4⟩
     ·rw[show s'.nil=false from hn] at h1;cases h1
     ·rw[h2] at e;injection e with e _ _;injection e with e;rw[<-e];rfl
    ·intro hf;subst hf;simp[eX,e1]
  ·cases he
 ·rename_i id ver lo;have ho:=hl id;unfold ay at h;split at he
  ·rename_i t' aF fr s' e1;rw[e1] at h ho;cases hb:Nat.beq ver aF with
   |false=>rw[hb] at he;cases he
   |true=>
    rw[hb] at he;simp only[cond_true,zK,Sigma.mk.injEq] at he;obtain⟨rfl,he⟩:=he;have he:=eq_of_heq he;subst he;obtain⟨k,rfl,hk,h⟩:=h.2 (zh hb);have e0:lf.cP s'.l (k:Int)=s'.l.drop k:=by simp[lf,cP]
    have e2:(lf.cP s'.l (k:Int)).length=s'.l.length-k:=by rw[e0];simp
    refine⟨⟨?_,?_⟩,id,aF,fr,s',e1,?_,rfl,?_,fun h=>by show lf.cP s'.l (k:Int)=[];rw[e0,h];simp⟩
    ·show(lf.cP s'.l (k:Int)).length<=cC;have:=ho.1;omega
    ·rcases h with ⟨h1,h2⟩|⟨h1,cap,h2,h3⟩
     ·exact .inl ⟨h1,by simp[lf,cP,ho.2.1 h1],h2⟩
     ·have e3:z=.slice (some (if cap=0 then bare (φ id) else⟨(φ id).block,(φ id).off+k*aN t',none⟩)) (lf.cP s'.l (k:Int)).length cap:=by rw[h2];exact congrArg (fun j=>Value.slice _ j cap) e2.symm
      have e4:(lf.cP s'.l (k:Int)).length<=cap:=om
      by_cases hc:cap=0
      ·refine .inr ⟨h1,_,cap,[],e3,fun h=>absurd hc h,?_,fun j hj=>by simp at hj,e4⟩;have:lf.cP s'.l (k:Int)=[]:=zT om;show bG _ (lf.cP s'.l (k:Int)) [];rw[this];rfl
      ·rcases ho.2.2 h1 with ⟨h5,ec,h6,h7,_⟩|⟨_,h6,_⟩
       ·refine .inr ⟨h1,_,cap,ec.drop (k*aN t'),e3,fun _=>by rw[if_neg hc],?_,?_,e4⟩
        ·show bG _ (lf.cP s'.l (k:Int)) _;rw[e0];exact(wC k hk h6).2
        ·rw[if_neg hc];intro j hj;have hg:k*aN t'+j<ec.length:=by simp at hj;omega
         have:=h7 (k*aN t'+j) hg;simp only[Nat.add_assoc] at this ⊢;rw[this];simp
       ·refine .inr ⟨h1,_,cap,[],e3,fun _=>by rw[if_neg hc],?_,fun j hj=>by simp at hj,e4⟩;have:lf.cP s'.l (k:Int)=[]:=by rw[e0,h6];simp
        show bG _ (lf.cP s'.l (k:Int)) [];rw[this];rfl
    ·intro hn a m c e;rcases h with ⟨h1,h2⟩|⟨h1,cap,h2,h3⟩
     ·rw[show s'.nil=false from hn] at h1;cases h1
     ·rw[h2] at e;injection e with e _ _;injection e with e;rw[<-e]
      split<;>rfl
    ·intro hf;subst hf;simp[eX,e1]
  ·cases he
theorem O1{t:Ty}{x:V}{d:den t}(h:jS lf o t x=some d):x=.d t d\/(∃e,∃ht:.sl e=t,∃s:Sl (den e),BK lf o x=some ⟨e,s⟩/\d=ht▸s)\/(∃e,∃ht:.sl e=t,x=.eQ/\d=ht▸(⟨true,[]⟩:Sl (den e))):=by
 cases x<;>simp only[jS] at h<;>try (cases h;done)
 ·obtain⟨rfl,rfl⟩:=xE h;exact .inl rfl
 ·rename_i id ver;cases e1:o id<;>rw[e1] at h<;>simp only at h<;>try (cases h;done)
  rename_i e aF fr s;cases hb:Nat.beq ver aF<;>rw[hb] at h
  ·cases h
  ·obtain⟨ht,hd⟩:=xE h;exact .inr (.inl ⟨e,ht,s,by simp[BK,e1,hb],hd⟩)
 ·rename_i id ver n cp;cases e1:o id<;>rw[e1] at h<;>simp only at h<;>try (cases h;done)
  rename_i e aF fr s;cases hb:Nat.beq ver aF<;>rw[hb] at h
  ·cases h
  ·obtain⟨ht,hd⟩:=xE h;exact .inr (.inl ⟨e,ht,_,by simp[BK,e1,hb],hd⟩)
 ·split at h
  ·rename_i e;exact .inr (.inr ⟨e,rfl,rfl,(zG h).symm⟩)
  ·cases h
 ·rename_i id ver lo;cases e1:o id<;>rw[e1] at h<;>simp only at h<;>try (cases h;done)
  rename_i e aF fr s;cases hb:Nat.beq ver aF<;>rw[hb] at h
  ·cases h
  ·obtain⟨ht,hd⟩:=xE h;exact .inr (.inl ⟨e,ht,_,by simp[BK,e1,hb],hd⟩)
theorem O2{t:Ty}{x:V}{d:den t}(h:oq lf o t x=some d):jS lf o t x=some d\/∃p,∃ht:.ks p=t,∃s:den (.sl (nX p)),jS lf o (.sl (nX p)) x=some s/\d=ht▸I8 p s:=by
 unfold oq at h;split at h
 ·rename_i x' h1;injection h with h;subst h;exact .inl h1
 ·cases t with
  |ks p=>
   simp only[I9] at h;split at h
   ·rename_i s h1;injection h with h;exact .inr ⟨p,rfl,s,h1,h.symm⟩
   ·cases h
  |_=>simp only[I9] at h;cases h
def vc(o:Nat->Obj)(x:V):Prop:=∀id,id∈eX o x->∀t ver fr s,o id≠.vec t ver fr s
theorem z47{e:Ty}{s:Sl (den e)}{z:Value}(h:ay φ o imm w (.d (.sl e) s) z):z46 imm w e s z:=by obtain⟨h1,h2⟩:=Fc h;exact⟨h1,h2.imp id fun⟨h3,a,cap,ec,h4,h5,_,h7,h8,h9⟩=>⟨h3,a,cap,ec,h4,h5,h7,h8,h9⟩⟩
theorem qkw{e:Ty}{x:V}{s:Sl (den e)}{z:Value}(hl:∀id,qq φ o imm w id (o id))(hx:ay φ o imm w x z)(h:oq lf o (.sl e) x=some s):z46 imm w e s z:=by
 have h:jS lf o (.sl e) x=some s:=by
  rcases O2 h with h|⟨p,ht,_⟩
  ·exact h
  ·cases ht
 rcases O1 h with rfl|⟨e',ht,s',h1,h2⟩|⟨e',ht,rfl,h2⟩
 ·exact z47 hx
 ·injection ht with ht;subst ht;subst h2;exact(O0 hl hx h1).1
 ·injection ht with ht;subst ht;subst h2;exact⟨Nat.zero_le _,.inl ⟨rfl,rfl,hx⟩⟩
theorem qq4(hm:MRel C X φ o w){t:Ty}{x:V}{d:den t}{z:Value}(hx:ay φ o (ah X φ o w) w x z)(hf:vc o x)(h:jS lf o t x=some d):aZ (ah X φ o w) w t d z:=by
 rcases O1 h with rfl|⟨e',ht,s',h1,h2⟩|⟨e',ht,rfl,h2⟩
 ·exact hx
 ·subst ht;subst h2;obtain⟨⟨g1,g2⟩,id,ver,fr,s0,g3,g4,g5,g6,g8⟩:=O0 hm.aB hx h1;refine⟨z,rfl,g1,?_⟩;rcases g2 with g2|⟨hn,a,cap,ec,h5,h6,h7,h8,h9⟩
  ·exact .inl g2
  ·refine .inr ⟨hn,a,cap,ec,h5,h6,fun hc=>?_,h7,h8,h9⟩;have he:fr=true:=by
    cases e:fr with
    |true=>rfl
    |false=>exact absurd g3 (hf id (g6 e) _ _ _ _)
   have ho:=hm.aB id;rw[g3] at ho;obtain⟨_,_,ho⟩:=ho;rcases ho (g5▸hn) with ⟨_,_,_,_,_,_,g7⟩|⟨_,g7,_⟩
   ·rw[g4 hn _ _ _ h5];exact g7 he
   ·exact absurd (g8 g7) hc
 ·subst ht;subst h2;exact⟨z,rfl,Nat.zero_le _,.inl ⟨rfl,rfl,hx⟩⟩
theorem RY(hm:MRel C X φ o w){t:Ty}{x:V}{d:den t}{z:Value}(hx:ay φ o (ah X φ o w) w x z)(hf:vc o x)(h:oq lf o t x=some d):aZ (ah X φ o w) w t d z:=by
 rcases O2 h with h|⟨p,ht,s,h1,h2⟩
 ·exact qq4 hm hx hf h
 ·subst ht;subst h2;have h3:aC (ah X φ o w) w (.sl (nX p)) s [z]:=qq4 hm hx hf h1;show aC (ah X φ o w) w (.ks p) (I8 p s) [z];rw[Ju,RL];exact h3
theorem qv9{o':Nat->Obj}(ho:∀id,o' id=o id\/∃t ver s,o' id=.vec t ver true s):∀(x:V) (id:Nat),id∈eX o' x->(∃t ver s,o' id=.vec t ver false s)->id∈eX o x:=by
 intro x;have key:∀pU id,(id∈(match o' pU with|.vec _ _ true _=>[]|_=>[pU]))->(∃t ver s,o' id=.vec t ver false s)->id∈(match o pU with|.vec _ _ true _=>[]|_=>[pU]):=by
  rintro pU id h ⟨t,ver,s,e⟩;have:id=pU:=by
   split at h
   ·cases h
   ·simpa using h
  subst this;rcases ho id with e1|⟨t1,ab7,s1,e1⟩
  ·rw[<-e1,e];simp
  ·rw[e1] at e;cases e
 refine V.rec (motive_1:=fun x=>∀id,id∈eX o' x->(∃t ver s,o' id=.vec t ver false s)->id∈eX o x)
  (motive_2:=fun l=>∀id,id∈qH o' l->(∃t ver s,o' id=.vec t ver false s)->id∈qH o l)
  ?_ ?_ ?_ ?_ ?_ ?_ ?_ ?_ ?_ ?_ ?_ ?_ ?_ ?_ ?_ ?_ ?_ ?_ ?_ ?_ ?_ ?_ ?_ ?_ ?_ ?_ ?_ x
 case refine_2=>exact fun pU ver id h h'=>by unfold eX at*;exact key pU id h h'
 case refine_3=>exact fun pU ver _ _ id h h'=>by unfold eX at*;exact key pU id h h'
 case refine_20=>exact fun pU ver lo id h h'=>by unfold eX at*;exact key pU id h h'
 case refine_11=>exact fun l ih id h h'=>by unfold eX at*;exact ih id h h'
 case refine_27=>
  intro x l ow ox id h h';unfold qH at h ⊢;rcases zL.1 h with h|h
  ·exact List.mem_append_left _ (ow id h h')
  ·exact List.mem_append_right _ (ox id h h')
 all_goals intros;rename_i h _;simp[eX,qH] at h
theorem Fh(ks:List Nat)(id:Nat):ar o (dX o ks) id=o id/\(∀t ver s,o id=.vec t ver false s->id∉ks)\/∃t ver fr s,o id=.vec t ver fr s/\ar o (dX o ks) id=.vec t ver true s:=by
 by_cases hk:id∈bO (dX o ks)
 ·obtain⟨t,ver,fr,s,h1,h2⟩:=BR hk;exact .inr ⟨t,ver,fr,s,h1,h2 o⟩
 ·exact .inl ⟨iM hk,fun t ver s e h=>hk (RX h e)⟩
theorem O3{ks:List Nat}{x:V}(h:∀id,id∈eX o x->id∈ks):vc (ar o (dX o ks)) x:=by
 intro id hi t ver fr s e;have hc:fr=false:=by
  cases fr with
  |false=>rfl
  |true=>
   exfalso;revert hi;refine V.rec (motive_1:=fun x=>¬id∈eX (ar o (dX o ks)) x) (motive_2:=fun l=>¬id∈qH (ar o (dX o ks)) l)
    ?_ ?_ ?_ ?_ ?_ ?_ ?_ ?_ ?_ ?_ ?_ ?_ ?_ ?_ ?_ ?_ ?_ ?_ ?_ ?_ ?_ ?_ ?_ ?_ ?_ ?_ ?_ x
   case refine_2=>
    intro pU aF h;unfold eX at h;split at h
    ·cases h
    ·rename_i hn;simp at h;subst h;exact hn _ _ _ e
   case refine_3=>
    intro pU aF _ _ h;unfold eX at h;split at h
    ·cases h
    ·rename_i hn;simp at h;subst h;exact hn _ _ _ e
   case refine_20=>
    intro pU aF _ h;unfold eX at h;split at h
    ·cases h
    ·rename_i hn;simp at h;subst h;exact hn _ _ _ e
   case refine_11=>intro l ih h;unfold eX at h;exact ih h
   case refine_27=>
    intro x l ow ox h;unfold qH at h;rcases zL.1 h with h|h
    ·exact ow h
    ·exact ox h
   all_goals intros;simp[eX,qH]
 subst hc;have:=qv9 (o:=o) (o':=ar o (dX o ks)) (fun id=>(Fh ks id).imp (·.1) fun⟨t,ver,_,s,_,h⟩=>⟨t,ver,s,h⟩) x id hi ⟨t,ver,s,e⟩;rcases Fh (o:=o) ks id with ⟨h1,h2⟩|⟨_,_,_,_,_,h2⟩
 ·exact h2 t ver s (h1▸e) (h id this)
 ·rw[h2] at e;cases e
theorem qq5(ks:List Nat)(t:Ty)(x:V):jS lf (ar o (dX o ks)) t x=jS lf o t x:=by
 cases x<;>simp only[jS]
 ·rename_i id ver;rcases Fh (o:=o) ks id with ⟨h1,_⟩|⟨_,_,_,_,h1,h2⟩
  ·rw[h1]
  ·rw[h1,h2]
 ·rename_i id ver n cp;rcases Fh (o:=o) ks id with ⟨h1,_⟩|⟨_,_,_,_,h1,h2⟩
  ·rw[h1]
  ·rw[h1,h2]
 ·rename_i id ver lo;rcases Fh (o:=o) ks id with ⟨h1,_⟩|⟨_,_,_,_,h1,h2⟩
  ·rw[h1]
  ·rw[h1,h2]
theorem CD(ks:List Nat)(t:Ty)(x:V):oq lf (ar o (dX o ks)) t x=oq lf o t x:=by
 unfold oq;rw[qq5];have:I9 lf (ar o (dX o ks)) t x=I9 lf o t x:=by cases t<;>simp only[I9,qq5]
 rw[this]
theorem z48(ks:List Nat):∀(t:Ty) (cs:List V),nx lf (ar o (dX o ks)) t cs=nx lf o t cs:=by
 intro t
 induction t with
 |unit=>intro cs;rfl
 |pair a b oz kA=>intro cs;simp only[nx,oz,kA]
 |st p ih=>intro cs;simp only[nx,ih]
 |arr n e _=>intro cs;rfl
 |int k=>intro cs;cases cs<;>simp only[nx,CD]
 |bool=>intro cs;cases cs<;>simp only[nx,CD]
 |eP=>intro cs;cases cs<;>simp only[nx,CD]
 |fl=>intro cs;cases cs<;>simp only[nx,CD]
 |str=>intro cs;cases cs<;>simp only[nx,CD]
 |sl e _=>intro cs;cases cs<;>simp only[nx,CD]
 |ks e _=>intro cs;cases cs<;>simp only[nx,CD]
theorem qq6(ks:List Nat)(t:Ty)(x:V):fI lf (ar o (dX o ks)) t x=fI lf o t x:=by cases x<;>simp only[fI,CD,z48]
theorem qva(hm:MRel C X φ o w):∀(t:Ty) (cs r:List V) (d:den t) (zs:List Value),cd φ o (ah X φ o w) w cs zs->(∀c,c∈cs->vc o c)->nx lf o t cs=some (d,r)->∃zc zr,zs=zc++zr/\aC (ah X φ o w) w t d zc/\cd φ o (ah X φ o w) w r zr/\(∀c,c∈r->vc o c):=by
 have one:∀(t:Ty) (cs r:List V) (d:den t) (zs:List Value),cd φ o (ah X φ o w) w cs zs->(∀c,c∈cs->vc o c)->
   (match cs with|c::r=>(match oq lf o t c with|some x=>some (x,r)|none=>none)|[]=>none)=some (d,r)->
   ∃z zr,zs=z::zr/\aZ (ah X φ o w) w t d z/\cd φ o (ah X φ o w) w r zr/\(∀c,c∈r->vc o c):=by
  intro t cs r d zs hr hf h;cases cs with
  |nil=>cases h
  |cons c cs=>
   simp only at h;split at h
   ·rename_i x hx;injection h with h;injection h with h1 h2;subst h1 h2;obtain⟨z,zr,h3,h4,h5⟩:=hr;exact⟨z,zr,h3,RY hm h4 (hf _ (zf ..)) hx,h5,fun c hc=>hf c (zg _ hc)⟩
   ·cases h
 intro t
 induction t with
 |unit=>intro cs r d zs hr hf h;simp only[nx,zK,Prod.mk.injEq] at h;obtain⟨_,rfl⟩:=h;exact⟨[],zs,rfl,rfl,hr,hf⟩
 |pair a b oz kA=>
  intro cs r d zs hr hf h;simp only[nx] at h;split at h
  ·rename_i x r1 h1;split at h
   ·rename_i y r2 h2;injection h with h;injection h with h3 h4;subst h3 h4;obtain⟨zc,zr,e1,e2,e3,e4⟩:=oz _ _ _ _ hr hf h1;obtain⟨Le,RZ,g1,g2,g3,g4⟩:=kA _ _ _ _ e3 e4 h2;exact⟨zc++Le,RZ,by rw[e1,g1,zD],⟨zc,Le,rfl,e2,g2⟩,g3,g4⟩
   ·cases h
  ·cases h
 |st p ih=>intro cs r d zs hr hf h;exact ih _ _ _ _ hr hf h
 |arr n e _=>intro cs r d zs hr hf h;cases h
 |int k=>intro cs r d zs hr hf h;obtain⟨z,zr,e1,e2,e3⟩:=one _ cs r d zs hr hf (by cases cs<;>exact h);exact⟨[z],zr,e1,e2,e3⟩
 |bool=>intro cs r d zs hr hf h;obtain⟨z,zr,e1,e2,e3⟩:=one _ cs r d zs hr hf (by cases cs<;>exact h);exact⟨[z],zr,e1,e2,e3⟩
 |eP=>intro cs r d zs hr hf h;obtain⟨z,zr,e1,e2,e3⟩:=one _ cs r d zs hr hf (by cases cs<;>exact h);exact⟨[z],zr,e1,e2,e3⟩
 |fl=>intro cs r d zs hr hf h;obtain⟨z,zr,e1,e2,e3⟩:=one _ cs r d zs hr hf (by cases cs<;>exact h);exact⟨[z],zr,e1,e2,e3⟩
 |str=>intro cs r d zs hr hf h;obtain⟨z,zr,e1,e2,e3⟩:=one _ cs r d zs hr hf (by cases cs<;>exact h);exact⟨[z],zr,e1,e2,e3⟩
 |sl e _=>intro cs r d zs hr hf h;obtain⟨z,zr,e1,e2,e3⟩:=one _ cs r d zs hr hf (by cases cs<;>exact h);exact⟨[z],zr,e1,e2,e3⟩
 |ks e _=>intro cs r d zs hr hf h;obtain⟨z,zr,e1,e2,e3⟩:=one _ cs r d zs hr hf (by cases cs<;>exact h);exact⟨[z],zr,e1,e2,e3⟩
theorem R0:∀{cs:List V},vc o (.agg cs)->∀c,c∈cs->vc o c
 |c'::cs,h,c,hc,id,hi=>by
  rcases zu.1 hc with rfl|hc
  ·exact h id (by unfold eX qH;exact List.mem_append_left _ hi)
  ·exact R0 (cs:=cs) (fun id hi=>h id (by unfold eX at hi ⊢;unfold qH;exact List.mem_append_right _ hi)) c hc id hi
theorem R1(hm:MRel C X φ o w){t:Ty}{x:V}{d:den t}{z:Value}(hx:ay φ o (ah X φ o w) w x z)(hf:vc o x)(h:fI lf o t x=some d):aZ (ah X φ o w) w t d z:=by
 by_cases hc:∃cs,x=.agg cs
 ·obtain⟨cs,rfl⟩:=hc;simp only[fI] at h;split at h
  ·rename_i p;split at h
   ·rename_i y h1;injection h with h;subst h;obtain⟨c,rfl,hr⟩:=hx;obtain⟨zc,zr,e1,e2,e3,_⟩:=qva hm _ _ _ _ _ hr (R0 hf) h1;have:zr=[]:=e3;subst this;exact⟨c,rfl,by rw[e1,zC];exact e2⟩
   ·cases h
  ·cases h
 ·have:fI lf o t x=oq lf o t x:=by cases x<;>first|rfl|exact absurd ⟨_,rfl⟩ hc
  exact RY hm hx hf (this▸h)
end
def CE:TypeDesc->Bool
 |.struct _|.array .. =>true
 |_=>false
theorem Lg{C:Cx}{d:TypeDesc}{T:Ty}(h:oA C d T=true):CE d=kB T/\ly T=!kB T:=by cases d<;>cases T<;>first|exact⟨rfl,rfl⟩|(simp only[oA] at h;cases h;done)
theorem vd{a:Addr}(h:a.spot=none)(n:Nat):a.add n=⟨a.block,a.off+n,none⟩:=by
 unfold Addr.add;split
 ·rename_i e;subst e;obtain⟨b,f,s⟩:=a;simp only at h;subst h;rfl
 ·rfl
section
variable {P:Program} {C:Cx} {X:Nat→Prop} {φ:Nat→Addr} {o:Nat→Obj} {w:World} {imm:Nat→Prop}
theorem Gc{t:TypeId}{d:TypeDesc}(h:P.underlying t=some d):(Go.isAgg t).run P w=.ok (CE d) w:=by unfold Go.isAgg;rw[Sem.run_bind,run_underlying h w];cases d<;>simp[CE]
theorem j7{t:TypeId}{i:TypeInfo}(h:P.info? t=some i):(Go.sizeOf t).run P w=.ok i.size w:=by simp[Go.sizeOf,typeInfo,h]
theorem yi{t:TypeId}{i:TypeInfo}{z:Value}(h:P.info? t=some i)(hz:i.zero=some z):(zeroValue t).run P w=.ok z w:=by simp[zeroValue,typeInfo,h,hz]
theorem q7l{a:Addr}(hs:a.spot=none){cs:List Value}{n:Nat}(hn:cs.length=n)(h:lA w a cs):(loadCells a n).run P w=.ok cs.toArray w:=by subst hn;refine run_loadCells_list w a cs fun j v hv=>?_;rw[vd hs];obtain⟨hj,e⟩:=zB.1 hv;rw[h j hj,e]
theorem qny{a:Addr}(hs:a.spot=none){v:Value}{cs:List Value}(h:lA w a (v::cs)):(load a).run P w=.ok v w:=by have:=h 0 (by simp);obtain⟨b,f,s⟩:=a;simp only at hs;subst hs;simp only[Nat.add_zero,List.getElem_cons_zero] at this;simp[this]
theorem O4{T:Ty}{d:den T}{cs:List Value}(hs:ly T=true)(h:aC imm w T d cs):∃v,cs=[v]/\aZ imm w T d v:=by
 cases T<;>simp only[ly] at hs<;>try (cases hs;done)
 ·exact⟨_,h.1,by simpa[aZ,aC] using h.2⟩
 ·exact⟨_,h,by simp[aZ,aC]⟩
 ·obtain⟨s,h1,h2⟩:=h;exact⟨_,h1,s,rfl,h2⟩
 ·obtain⟨v,h1,h2⟩:=h;exact⟨_,h1,v,rfl,h2⟩
 ·exact⟨_,h,by simp[aZ,aC]⟩
 ·exact⟨_,h,by simp[aZ,aC]⟩
theorem qkx{T:Ty}{d:den T}{v:Value}(hs:ly T=true)(h:aZ imm w T d v):aC imm w T d [v]:=by cases T<;>simp only[ly] at hs<;>first|exact h|cases hs
theorem z08{T:Ty}{d:den T}{v:Value}(hs:kB T=true)(h:aZ imm w T d v):∃cs:Array Value,v=.agg cs/\aC imm w T d cs.toList:=by cases T<;>simp only[kB] at hs<;>first|exact h|cases hs
theorem R2{T:Ty}{d:den T}{cs:Array Value}(hs:kB T=true)(h:aC imm w T d cs.toList):aZ imm w T d (.agg cs):=by cases T<;>simp only[kB] at hs<;>first|exact⟨cs,rfl,h⟩|cases hs
theorem qh0{C:Cx}{t:TypeId}{T:Ty}(ht:oB C t T){d:den T}{v:Value}(h:aZ imm w T d v):aC imm w T d v.cells.toList:=by
 obtain⟨_,_,_,hd⟩:=ht.desc;obtain⟨_,hk⟩:=Lg hd;cases ha:kB T with
 |true=>obtain⟨cs,rfl,h1⟩:=z08 ha h;exact h1
 |false=>
  rw[ha] at hk;have:=qkx hk h;have e:v.cells=#[v]:=by
   cases T<;>simp only[ly] at hk<;>try (cases hk;done)
   ·have h2:=h.1;simp only[List.cons.injEq,and_true] at h2;subst h2;rfl
   ·have h2:[v]=[_]:=h;simp only[List.cons.injEq,and_true] at h2;subst h2;rfl
   ·obtain⟨s,h2,_⟩:=h;simp only[List.cons.injEq,and_true] at h2;subst h2;rfl
   ·obtain⟨v',h2,_,h3⟩:=h;simp only[List.cons.injEq,and_true] at h2;subst h2;rcases h3 with ⟨_,_,rfl⟩|⟨_,a,cap,ec,rfl,_⟩<;>rfl
   ·have h2:[v]=[_]:=h;simp only[List.cons.injEq,and_true] at h2;subst h2;rfl
   ·have h2:[v]=[_]:=h;simp only[List.cons.injEq,and_true] at h2;subst h2;rfl
  rw[e];exact this
theorem qh1{t:TypeId}{T:Ty}(h:oB C t T){a:Addr}(hs:a.spot=none){d:den T}{cs:List Value}(hr:aC imm w T d cs)(hc:lA w a cs):∃v,(loadVar t a).run C.P w=.ok v w/\aZ imm w T d v:=by
 obtain⟨dd,_,hu,hd⟩:=h.desc;obtain⟨i,z,hi,_,hg,_⟩:=h.info;obtain⟨he,hf⟩:=Lg hd;have hl:=il T d cs hr;unfold loadVar;simp only[Sem.run_bind,Gc hu,Result.andThen_ok];cases ha:kB T with
 |true=>rw[he,ha];refine⟨.agg cs.toArray,?_,R2 ha (by simpa using hr)⟩;simp[j7 hi,q7l hs (hl.trans hg.symm) hc]
 |false=>rw[he,ha];rw[ha] at hf;obtain⟨v,rfl,h2⟩:=O4 hf hr;exact⟨v,by simpa using qny hs hc,h2⟩
theorem O5{t:TypeId}{T:Ty}(h:oB C t T){cs:Array Value}{off:Nat}{d:den T}(hr:aC imm w T d ((cs.toList.drop off).take (aN T))):∃v,(part t cs off).run C.P w=.ok v w/\aZ imm w T d v:=by
 obtain⟨dd,_,hu,hd⟩:=h.desc;obtain⟨i,z,hi,_,hf,_⟩:=h.info;obtain⟨hc,he⟩:=Lg hd;unfold part;simp only[Sem.run_bind,Gc hu,Result.andThen_ok];cases ha:kB T with
 |true=>
  rw[hc,ha];refine⟨.agg (cs.extract off (off+aN T)),?_,R2 ha ?_⟩
  ·simp[j7 hi,hf]
  ·rw[Array.toList_extract,List.extract_eq_take_drop,Nat.add_sub_cancel_left];exact hr
 |false=>
  rw[hc,ha];rw[ha] at he;obtain⟨v,e,h2⟩:=O4 he hr;refine⟨v,?_,h2⟩;have:cs[off]?=some v:=by
   have e1:=congrArg (fun l=>l[0]?) e;simp only[List.getElem?_cons_zero] at e1;rw[List.getElem?_take] at e1;split at e1
   ·simpa using e1
   ·cases e1
  simp[this]
theorem R3:∀(p:Ty) (f:Nat) (y:den p) {u:Ty} {z:den u},Ja p f y=some ⟨u,z⟩->pQ p f=some u/\(∀cs,aC imm w p y cs->aC imm w u z ((cs.drop (fQ p f)).take (aN u))):=by
 have base:∀(t:Ty) (y:den t) (u:Ty) (z:den u),(some ⟨t,y⟩:Option ((t:Ty)×den t))=some ⟨u,z⟩->t=u/\(∀cs,aC imm w t y cs->aC imm w u z ((cs.drop 0).take (aN u))):=by intro t y u z h;injection h with h;injection h with h1 h2;subst h1;have h2:=eq_of_heq h2;subst h2;exact⟨rfl,fun cs hc=>by rw[List.drop_zero,<-il _ _ _ hc,List.take_length];exact hc⟩
 intro p
 induction p with
 |pair a b _ kA=>
  intro f y u z h;cases f with
  |zero=>
   simp only[Ja] at h;obtain⟨h1,h2⟩:=base _ _ _ _ h;subst h1;refine⟨rfl,fun cs ⟨c,d,e,h3,h4⟩=>?_⟩;have:=h2 c h3;rw[e];simp only[fQ,List.drop_zero] at this ⊢;rw[<-il _ _ _ h3] at this ⊢;rw[List.take_left']
   ·rw[List.take_length] at this;exact this
   ·rfl
  |succ n=>simp only[Ja] at h;obtain⟨h1,h2⟩:=kA n y.2 h;refine⟨h1,fun cs ⟨c,d,e,h3,h4⟩=>?_⟩;have:=h2 d h4;rw[e];simp only[fQ];rw[<-il _ _ _ h3,List.drop_length_add_append];exact this
 |unit=>intro f y u z h;cases f<;>cases h
 |int k=>intro f y u z h;cases f with|zero=>obtain⟨rfl,h2⟩:=base _ _ _ _ h;exact⟨rfl,h2⟩|succ n=>cases h
 |bool=>intro f y u z h;cases f with|zero=>obtain⟨rfl,h2⟩:=base _ _ _ _ h;exact⟨rfl,h2⟩|succ n=>cases h
 |eP=>intro f y u z h;cases f with|zero=>obtain⟨rfl,h2⟩:=base _ _ _ _ h;exact⟨rfl,h2⟩|succ n=>cases h
 |fl=>intro f y u z h;cases f with|zero=>obtain⟨rfl,h2⟩:=base _ _ _ _ h;exact⟨rfl,h2⟩|succ n=>cases h
 |str=>intro f y u z h;cases f with|zero=>obtain⟨rfl,h2⟩:=base _ _ _ _ h;exact⟨rfl,h2⟩|succ n=>cases h
 |sl e=>intro f y u z h;cases f with|zero=>obtain⟨rfl,h2⟩:=base _ _ _ _ h;exact⟨rfl,h2⟩|succ n=>cases h
 |ks q=>intro f y u z h;cases f with|zero=>obtain⟨rfl,h2⟩:=base (.sl (nX q)) (Cm q y) _ _ h;exact⟨rfl,fun cs hc=>h2 cs ((Ju q y cs).1 hc)⟩|succ n=>cases h
 |st p=>intro f y u z h;cases f with|zero=>obtain⟨rfl,h2⟩:=base _ _ _ _ h;exact⟨rfl,h2⟩|succ n=>cases h
 |arr m e=>intro f y u z h;cases f with|zero=>obtain⟨rfl,h2⟩:=base _ _ _ _ h;exact⟨rfl,h2⟩|succ n=>cases h
theorem R4(hC:cw C):∀(fs:List Field) (p:Ty) (off f:Nat) {u:Ty},sW C fs p off=true->pQ p f=some u->∃fd,fs[f]?=some fd/\C.ty fd.type=some u/\fd.offset=off+fQ p f:=by
 intro fs
 induction fs with
 |nil=>intro p off f u h h1;cases p<;>first|(simp only[sW] at h;cases h;done)|(cases f<;>cases h1)
 |cons g r ih=>
  intro p off f u h h1;cases r with
  |nil=>
   have h:(C.is g.type (La p)&&Nat.beq g.offset off)=true:=by cases p<;>exact h
   rw[zd] at h;have ht:=bW h.1;obtain⟨_,_,_,hd⟩:=(hC.ef _ _ ht).desc;obtain⟨_,hk⟩:=Lg hd;have:f=0/\u=La p/\fQ p 0=0:=by
    cases f with
    |zero=>cases p<;>first|exact⟨rfl,(zG h1).symm,rfl⟩|(simp only[ly,kB] at hk;cases hk;done)
    |succ n=>cases p<;>first|(cases h1;done)|(simp only[ly,kB] at hk;cases hk;done)
   obtain⟨rfl,rfl,h0⟩:=this;exact⟨g,rfl,ht,by rw[h0];exact zh h.2⟩
  |cons g' r=>
   cases p<;>simp only[sW] at h<;>try (cases h;done)
   rename_i a b;simp only[zd] at h;cases f with
   |zero=>simp only[pQ,zK] at h1;subst h1;exact⟨g,rfl,bW h.1.1,by simpa[fQ] using zh h.1.2⟩
   |succ n=>obtain⟨fd,h2,h3,h4⟩:=ih b (off+aN a) n h.2 h1;exact⟨fd,by simpa using h2,h3,by simp only[fQ];omega⟩
theorem Fi{t:TypeId}{b:Bool}{n:Nat}(h:wm P t=some (b,n)):∃i d,P.info? t=some i/\i.size=n/\P.underlying t=some d/\CE d=b:=by
 unfold wm at h;cases h1:P.types.toList[t]? with
 |none=>rw[h1] at h;cases h
 |some i=>
  rw[h1] at h;simp only at h;cases h2:desc P t with
  |none=>rw[h2] at h;cases h
  |some d=>
   rw[h2] at h;refine⟨i,d,K7 h1,?_,lQ h2,?_⟩
   ·cases d<;>simp only[zK,Prod.mk.injEq] at h<;>exact h.2
   ·cases d<;>simp only[zK,Prod.mk.injEq] at h<;>exact h.1
theorem qcz{t:TypeId}{f:Nat}{fd:Field}(h:KC P t f=some fd):∃fs,P.underlying t=some (.struct fs)/\desc P t=some (.struct fs)/\fs[f]?=some fd:=by
 unfold KC at h;split at h
 ·rename_i fs e;exact⟨fs,lQ e,e,by rw[<-zF];exact h⟩
 ·cases h
theorem O6(hC:cw C){t:TypeId}{p:Ty}(h:C.ty t=some (.st p)):∃fs,desc C.P t=some (.struct fs)/\C.P.underlying t=some (.struct fs)/\sW C fs.toList p 0=true:=by obtain⟨d,h1,h2,h3⟩:=(hC.ef _ _ h).desc;cases d<;>first|exact⟨_,h1,h2,h3⟩|(simp only[oA] at h3;cases h3;done)
theorem JD:∀{cs:List V} {zs:List Value} {i:Nat} {v:V},cd φ o imm w cs zs->cs[i]?=some v->∃z,zs[i]?=some z/\ay φ o imm w v z
 |[],_,_,_,_,h=>by simp at h
 |x::l,_,0,v,⟨z,r,e,h1,_⟩,h=>by simp only[List.getElem?_cons_zero,zK] at h;subst h e;exact⟨z,rfl,h1⟩
 |x::l,_,i+1,v,⟨z,r,e,_,h2⟩,h=>by subst e;simp only[List.getElem?_cons_succ] at h ⊢;exact JD h2 h
theorem JE:∀{cs:List V} {zs:List Value} (n:Nat),cd φ o imm w cs zs->cd φ o imm w (cs.drop n) (zs.drop n)
 |_,_,0,h=>h
 |[],_,n+1,h=>by simp[cd] at h;subst h;simp[cd]
 |x::l,_,n+1,⟨z,r,e,_,h2⟩=>by subst e;exact JE n h2
theorem JF:∀{cs:List V} {zs:List Value} (n:Nat),cd φ o imm w cs zs->cd φ o imm w (cs.take n) (zs.take n)
 |_,_,0,h=>by simp[cd]
 |[],_,n+1,h=>by simp[cd] at h;subst h;simp[cd]
 |x::l,_,n+1,⟨z,r,e,h1,h2⟩=>by subst e;exact⟨z,_,rfl,h1,JF n h2⟩
theorem yj:∀{cs:List V} {zs:List Value},cd φ o imm w cs zs->cs.length=zs.length
 |[],_,h=>by simp[cd] at h;subst h;rfl
 |x::l,_,⟨z,r,e,_,h2⟩=>by subst e;simp[yj h2]
theorem BS:∀{cs ds:List V} {zs ys:List Value},cd φ o imm w cs zs->cd φ o imm w ds ys->cd φ o imm w (cs++ds) (zs++ys)
 |[],_,_,_,h,h'=>by simp[cd] at h;subst h;exact h'
 |x::l,_,_,_,⟨z,r,e,h1,h2⟩,h'=>by subst e;exact⟨z,_,rfl,h1,BS h2 h'⟩
theorem qky(hm:MRel C X φ o w){t:TypeId}{cs:List V}{zs:Array Value}(h:cd φ o (ah X φ o w) w cs zs.toList):ay φ o (ah X φ o w) w (Ow lf C o t cs) (.agg zs):=by
 have Gd:ay φ o (ah X φ o w) w (.agg cs) (.agg zs):=⟨zs,rfl,h⟩;unfold Ow;split
 ·rename_i p _;split
  ·rename_i e1 _;split
   ·rename_i x e;have hf:∀c,c∈cs->vc o c:=R0 (fun id hi=>by unfold eX at hi;rw[e1] at hi;cases hi);obtain⟨zc,zr,g1,g2,g3,_⟩:=qva hm _ _ _ _ _ h hf e;have:zr=[]:=g3;subst this;exact⟨zs,rfl,by rw[g1,zC];exact g2⟩
   ·exact Gd
  ·exact Gd
 ·exact Gd
end
theorem qgg{α:Type}{l:List α}{n b m:Nat}(h:(((l.take n).drop b).take m).length=m):((l.take n).drop b).take m=(l.drop b).take m:=by rw[List.drop_take,List.take_take] at h ⊢;rw[zO] at h;rw[Nat.min_eq_left om]
section
variable {P:Program} {C:Cx} {X:Nat→Prop} {φ:Nat→Addr} {o:Nat→Obj} {w:World} {imm:Nat→Prop}
theorem R5:∀{p:Ty} {f:Nat} {u:Ty},pQ p f=some u->RM p f=u:=by
 intro p
 induction p with
 |pair a b _ kA=>intro f u h;cases f with|zero=>exact zG h|succ n=>exact kA h
 |unit=>intro f u h;cases f<;>cases h
 |_=>intro f u h;cases f with|zero=>exact zG h|succ n=>cases h
theorem qvd:∀(p:Ty) (f:Nat) (y:den p) {u:Ty},pQ p f=some u->∃z,Ja p f y=some ⟨u,z⟩:=by
 intro p
 induction p with
 |pair a b _ kA=>intro f y u h;cases f with|zero=>have:=zG h;subst this;exact⟨y.1,rfl⟩|succ n=>exact kA n y.2 h
 |unit=>intro f y u h;cases f<;>cases h
 |ks q _=>intro f y u h;cases f with|zero=>have:=zG h;subst this;exact⟨Cm q y,rfl⟩|succ n=>cases h
 |_=>intro f y u h;cases f with|zero=>have:=zG h;subst this;exact⟨y,rfl⟩|succ n=>cases h
theorem qkz:∀(path:List Nat) (t:Ty) (x:den t) {u:Ty},BI path t=some u->∃y,Og path t x=some ⟨u,y⟩/\∀(imm:Nat->Prop) (w:World) cs,aC imm w t x cs->aC imm w u y ((cs.drop (j6 path t)).take (aN u))
 |[],t,x,u,h=>by have:=zG h;subst this;refine⟨x,rfl,fun imm w cs hc=>?_⟩;rw[show j6 [] t=0 from rfl,List.drop_zero,<-il _ _ _ hc,List.take_length];exact hc
 |f::r,t,x,u,h=>by
  cases t<;>simp only[BI] at h<;>try (cases h;done)
  rename_i p;split at h
  ·rename_i u1 h1;obtain⟨y,h2⟩:=qvd p f x h1;obtain⟨y',h3,h4⟩:=qkz r u1 y h;refine⟨y',by simp only[Og,Jb,h2];exact h3,fun imm w cs hc=>?_⟩;obtain⟨_,h5⟩:=R3 (imm:=imm) (w:=w) p f x h2;have h6:=h4 imm w _ (h5 cs hc);have hl:=il _ _ _ h6;rw[qgg hl,List.drop_drop] at h6;simp only[j6,R5 h1];exact h6
  ·cases h
theorem JG{a:Addr}{cs:List Value}(k n:Nat)(h:lA w a cs):lA w ⟨a.block,a.off+k,none⟩ ((cs.drop k).take n):=by
 intro j hj;have hc:k+j<cs.length:=by simp at hj;omega
 have:=h (k+j) hc;simp only[List.getElem_take,List.getElem_drop];rw[<-this,Nat.add_assoc]
theorem Lh{b:Nat}{c:Array Value}{el:TypeId}{fz:Nat×Nat}(h:w.heap[b]?=some (.cells c el fz))(off n:Nat):lA w ⟨b,off,none⟩ ((c.toList.drop off).take n):=by
 intro j hj;have hc:off+j<c.size:=by simp at hj;omega
 simp[World.cell?,h,hc]
theorem ql0(hC:cw C)(hm:MRel C X φ o w){t:TypeId}{x:V}{z:Value}{v:V}{u:List (Nat×Obj)}(hx:ay φ o (ah X φ o w) w x z)(h:(Ox lf C o t x).gives v u):u=[]/\qK C.P φ o (ah X φ o w) w v (Instr.loadAt t z):=by
 unfold Ox at h;split at h
 ·rename_i t' d;rw[dN,dJ] at h;obtain⟨h1,rfl,rfl⟩:=h;obtain⟨a,cs,rfl,h2,_,h4,h5⟩:=hx;obtain⟨v,h6,h7⟩:=qh1 (hC.ef _ _ (bW h1)) h2 h4 h5;exact⟨rfl,v,by simp[Instr.loadAt,Instr.sureAddr,h6],h7⟩
 ·rename_i t' d;split at h
  ·rename_i n hk;rw[dJ] at h;obtain⟨rfl,rfl⟩:=h;obtain⟨i,d',g1,g2,g3,g4⟩:=Fi hk;obtain⟨a,b,cs,rfl,h2,h3,h4,h5⟩:=hx;refine⟨rfl,.pointer (some b),?_,b,cs,rfl,h5⟩;have hc:w.cell? a=some (.pointer (some b)):=by have:=h4 0 (by simp);obtain⟨b1,f1,s1⟩:=a;simp only at h2;subst h2;simpa using this
   simp[Instr.loadAt,Instr.sureAddr,loadVar,Gc g3,g4,hc]
  ·cases h
 ·rename_i id off;have ho:=hm.aB id;unfold ay at hx;split at h
  ·rename_i cs e;rw[e] at hx ho;simp only at hx;subst hx;obtain⟨h0,c,el,lo,hi,h1,h2,h3⟩:=ho;split at h
   ·rename_i n hk;rw[dN,dJ] at h;obtain⟨hb,rfl,rfl⟩:=h;have hb:=zH hb;obtain⟨i,d,g1,g2,g3,g4⟩:=Fi hk;have hl:=yj h3;refine⟨rfl,.agg ((c.toList.drop off).take n).toArray,?_,qky hm (by simpa using JF n (JE off h3))⟩;have:=q7l (P:=C.P) (w:=w) (a:=⟨(φ id).block,(φ id).off+off,none⟩) rfl (n:=n) (cs:=(c.toList.drop off).take n) (by simp at hl ⊢;omega) (by
     rw[h0,zN];exact Lh h1 off n)
    simp[Instr.loadAt,Instr.sureAddr,loadVar,Gc g3,g4,j7 g1,g2,this]
   ·rename_i n hk;split at h
    ·rename_i v' hv;rw[dJ] at h;obtain⟨rfl,rfl⟩:=h;obtain⟨i,d,g1,g2,g3,g4⟩:=Fi hk;obtain⟨z,hz,hr⟩:=JD h3 hv;refine⟨rfl,z,?_,hr⟩;have:w.cell? ⟨(φ id).block,(φ id).off+off,none⟩=some z:=by rw[h0,zN];simp only[World.cell?,h1];simpa using hz
     simp[Instr.loadAt,Instr.sureAddr,loadVar,Gc g3,g4,this]
    ·cases h
   ·cases h
  ·cases h
 ·rename_i id ver i path;have ho:=hm.aB id;unfold ay at hx;split at h
  ·rename_i e aF fr s e1;rw[e1] at hx ho;split at h
   ·rename_i t' ht;rw[dN,n5,zd] at h;obtain⟨⟨h1,h2⟩,x,h3,h4⟩:=h;obtain⟨_,hx⟩:=hx;obtain⟨hi,rfl⟩:=hx (zh h1);obtain⟨y,h5,h6⟩:=qkz path e x ht;rw[h5] at h4;simp only[Prod.mk.injEq] at h4;obtain⟨rfl,rfl⟩:=h4;obtain⟨g1,g2,g3⟩:=ho;have hn:s.nil=false:=by
     cases hn:s.nil with
     |false=>rfl
     |true=>rw[g2 hn] at hi;simp at hi
    obtain⟨g4,ec,g5,g6,_⟩:=(g3 hn).resolve_right fun g=>by rw[g.2.1] at hi;simp at hi
    have h3:s.l[i]?=some x:=h3;obtain⟨he,hf⟩:=zB.1 h3;have hr:=KZ g5 i he;rw[hf] at hr;have hr:=h6 _ _ _ hr;have hc:=JG (j6 path e) (aN t') (JG (i*aN e) (aN e) g6);obtain⟨v,k1,k2⟩:=qh1 (w:=w) (hC.ef _ _ (bW h2)) (a:=⟨(φ id).block,(φ id).off+i*aN e+j6 path e,none⟩) rfl hr hc;exact⟨rfl,v,by simp[Instr.loadAt,Instr.sureAddr,k1],k2⟩
   ·cases h
  ·cases h
 ·cases h
theorem qsb(hC:cw C)(_hm:MRel C X φ o w){t:TypeId}{f:Nat}{x:V}{z:Value}{v:V}{u:List (Nat×Obj)}(hx:ay φ o (ah X φ o w) w x z)(h:(Rf C t x f).gives v u):u=[]/\qK C.P φ o (ah X φ o w) w v (Instr.field t z f):=by
 unfold Rf at h;split at h
 ·rename_i t' y;rw[dN] at h;obtain⟨h1,h⟩:=h;split at h
  ·rename_i u' z' h2;rw[dJ] at h;obtain⟨rfl,rfl⟩:=h;cases t'<;>simp only[Jb] at h2<;>try (cases h2;done)
   rename_i p;obtain⟨fs,g1,g2,g3⟩:=O6 hC (bW h1);obtain⟨k1,k2⟩:=R3 (imm:=ah X φ o w) (w:=w) p f y h2;obtain⟨fd,m1,m2,m3⟩:=R4 hC _ _ _ _ g3 k1;obtain⟨cs,rfl,hr⟩:=hx;obtain⟨v,n1,n2⟩:=O5 (w:=w) (hC.ef _ _ m2) (cs:=cs) (off:=fd.offset) (by rw[m3,zN];exact k2 _ hr);refine⟨rfl,v,?_,n2⟩;rw[zF] at m1;simp[Instr.field,run_underlying g2,m1,asAgg,n1]
  ·cases h
 ·rename_i cs;obtain⟨c,rfl,hr⟩:=hx;split at h
  ·rename_i fd hf;obtain⟨fs,f1,f2,f3⟩:=qcz hf;split at h
   ·rename_i n hk;rw[dN,dJ] at h;obtain⟨_,rfl,rfl⟩:=h;obtain⟨i,d,g1,g2,g3,g4⟩:=Fi hk;refine⟨rfl,.agg (c.extract fd.offset (fd.offset+n)),?_,_,rfl,?_⟩
    ·simp[Instr.field,run_underlying f1,f3,asAgg,part,Gc g3,g4,j7 g1,g2]
    ·rw[Array.toList_extract,List.extract_eq_take_drop,Nat.add_sub_cancel_left];exact JF n (JE _ hr)
   ·rename_i n hk;split at h
    ·rename_i v' hv;rw[dJ] at h;obtain⟨rfl,rfl⟩:=h;obtain⟨i,d,g1,g2,g3,g4⟩:=Fi hk;obtain⟨z,hz,hc⟩:=JD hr hv;rw[zF] at hz;refine⟨rfl,z,?_,hc⟩;simp[Instr.field,run_underlying f1,f3,asAgg,part,Gc g3,g4,hz]
    ·cases h
   ·cases h
  ·cases h
 ·cases h
theorem qgh(hC:cw C)(_hm:MRel C X φ o w){t:TypeId}{f:Nat}{x:V}{z:Value}{v:V}{u:List (Nat×Obj)}(hx:ay φ o (ah X φ o w) w x z)(h:(Jl C o t x f).gives v u):u=[]/\qK C.P φ o (ah X φ o w) w v (Instr.fieldAt t z f):=by
 unfold Jl at h;split at h
 ·cases h
 ·rename_i fd hf;obtain⟨fs,f1,f1',f2⟩:=qcz hf;split at h
  ·rename_i b sz hk;rw[dN] at h;obtain⟨he,h⟩:=h;have he:0<sz:=zH he;obtain⟨i,d,g1,g2,g3,g4⟩:=Fi hk;have run:∀a:Addr,(Instr.fieldAt t (.pointer (some a)) f).run C.P w=.ok (.pointer (some (a.add fd.offset))) w:=by
    intro a;have:i.size≠0:=om
    simp[Instr.fieldAt,run_underlying f1,f2,Instr.sureAddr,fieldPlace,j7 g1,this]
   split at h
   ·rename_i id off;split at h
    ·rename_i cs e;rw[dJ] at h;obtain⟨rfl,rfl⟩:=h;unfold ay at hx;rw[e] at hx;simp only at hx;subst hx;refine⟨rfl,_,run _,?_⟩;rw[vd rfl];unfold ay;rw[e];simp only[Nat.add_assoc]
    ·cases h
   ·rename_i t' y;rw[dN] at h;obtain⟨h1,h⟩:=h;split at h
    ·rename_i u' z' h2;rw[dJ] at h;obtain⟨rfl,rfl⟩:=h;cases t'<;>simp only[Jb] at h2<;>try (cases h2;done)
     rename_i p;obtain⟨fs',e1,e2,e3⟩:=O6 hC (bW h1);rw[f1'] at e1;injection e1 with e1;injection e1 with e1;subst e1;obtain⟨k1,k2⟩:=R3 (imm:=ah X φ o w) (w:=w) p f y h2;obtain⟨fd',m1,m2,m3⟩:=R4 hC _ _ _ _ e3 k1;rw[zF,f2] at m1;injection m1 with m1;subst m1;obtain⟨a,cs,rfl,hs,hi,hr,hc⟩:=hx;refine⟨rfl,_,run _,?_⟩;rw[vd hs,m3,zN];exact⟨_,_,rfl,rfl,hi,k2 _ hr,JG _ _ hc⟩
    ·cases h
   ·rename_i id ver j path;split at h
    ·rename_i e aF fr s e1;split at h
     ·rename_i t' ht;split at h
      ·rename_i p;split at h
       ·rename_i u' hu;rw[dN,dJ,zd] at h;obtain⟨⟨h1,h2⟩,rfl,rfl⟩:=h;obtain⟨fs',k1,k2,k3⟩:=O6 hC (bW h2);rw[f1'] at k1;injection k1 with k1;injection k1 with k1;subst k1;obtain⟨fd',m1,m2,m3⟩:=R4 hC _ _ _ _ k3 hu;rw[zF,f2] at m1;injection m1 with m1;subst m1;unfold ay at hx;rw[e1] at hx;obtain⟨h0,hx⟩:=hx;obtain⟨hi,rfl⟩:=hx (zh h1);refine⟨rfl,_,run _,?_⟩;rw[vd rfl];unfold ay;rw[e1];refine⟨h0,fun _=>⟨hi,?_⟩⟩;have key:∀(path:List Nat) (t:Ty),BI path t=some (.st p)->j6 (path++[f]) t=j6 path t+fQ p f:=by
         intro path
         induction path with
         |nil=>intro t h;have:=zG h;subst this;simp[j6]
         |cons g r ih=>
          intro t h;cases t<;>simp only[BI] at h<;>try (cases h;done)
          split at h
          ·rename_i q u1 h1;have:=ih u1 h;simp only[List.cons_append,j6,R5 h1,this,Nat.add_assoc]
          ·cases h
        rw[key path e ht,m3,zN,<-Nat.add_assoc]
       ·cases h
      ·cases h
     ·cases h
    ·cases h
   ·cases h
  ·cases h
end
section
variable {P:Program} {C:Cx} {X:Nat→Prop} {φ:Nat→Addr} {o:Nat→Obj} {w:World} {imm:Nat→Prop}
theorem BT{t:TypeId}{e:Ty}(h:gY e (qo C t)=true):∃i,C.P.underlying t=some (.slice i)/\desc C.P t=some (.slice i)/\C.ty i=some e:=by
 have h:=F8 h;unfold qo at h;split at h
 ·rename_i i e1;exact⟨i,lQ e1,e1,h⟩
 ·cases h
theorem R6{t:TypeId}{e:Ty}(h:qo C t=some e):∃i,C.P.underlying t=some (.slice i)/\desc C.P t=some (.slice i)/\C.ty i=some e:=by
 unfold qo at h;split at h
 ·rename_i i e1;exact⟨i,lQ e1,e1,h⟩
 ·cases h
theorem R7{t:TypeId}{n:Nat}{e:Ty}(h:KL C t=some (n,e)):∃i,C.P.underlying t=some (.array n i)/\desc C.P t=some (.array n i)/\C.ty i=some e:=by
 unfold KL at h;split at h
 ·rename_i m i e1;split at h
  ·rename_i e' e2;simp only[zK,Prod.mk.injEq] at h;obtain⟨rfl,rfl⟩:=h;exact⟨i,lQ e1,e1,e2⟩
  ·cases h
 ·cases h
theorem Li{x:V}{z:Value}{p:(_:IntKind)×Int}(h:F2 x=some p)(hx:ay φ o imm w x z):z=.int p.1 p.2/\gG p.1 p.2:=by
 unfold F2 at h;split at h
 ·injection h with h;subst h;exact o5 hx
 ·cases h
theorem fD{α:Type}{l:List α}{n:Int}{y:α}(h:aE l n=some y):0<=n/\n<l.length/\l[n.toNat]?=some y:=by
 unfold aE at h;split at h
 ·rename_i h0;obtain⟨h1,_⟩:=zB.1 h;exact⟨h0,by omega,h⟩
 ·cases h
theorem O7{α:Type}{l:List α}{n:Int}{j:Nat}(h:cB l n=some j):0<=n/\n<l.length/\j=n.toNat:=by
 unfold cB at h;split at h
 ·rename_i h0;injection h with h;exact⟨h0.1,h0.2,h.symm⟩
 ·cases h
theorem ql1{α:Type}{l m:List α}{a b:Int}(h:bX l a b=some m):0<=a/\a<=b/\b<=l.length/\m=(l.take b.toNat).drop a.toNat:=by
 unfold bX at h;split at h
 ·rename_i h0;injection h with h;exact⟨h0.1,h0.2.1,h0.2.2,h.symm⟩
 ·cases h
theorem O8{n b:Int}{p:Nat}(h:eN n b=some p):0<=b/\b<=n/\p=b.toNat:=by
 unfold eN at h;split at h
 ·rename_i h0;injection h with h;exact⟨h0.1,h0.2,h.symm⟩
 ·cases h
theorem xF{α β:Type}{x:Option α}{f:α->Option β}{y:β}(h:ag x f=some y):∃a,x=some a/\f a=some y:=by
 cases x with
 |none=>cases h
 |some a=>exact⟨a,rfl,h⟩
theorem qsc(hC:cw C){t:TypeId}{x i:V}{zx zi:Value}{v:V}{u:List (Nat×Obj)}(hx:ay φ o imm w x zx)(hi:ay φ o imm w i zi)(h:(Re lf C t x i).gives v u):u=[]/\qK C.P φ o imm w v (Instr.index t zx zi):=by
 unfold Re at h;split at h
 ·cases h
 ·rename_i k n hk;obtain⟨rfl,_⟩:=Li hk hi;split at h
  ·rename_i l;rw[dN,Fb] at h;obtain⟨h1,y,h2,h3⟩:=h;simp only[Prod.mk.injEq] at h3;obtain⟨rfl,rfl⟩:=h3;obtain⟨s,rfl,rfl,_⟩:=sV hx;have h1:=zh h1;have hu:C.P.underlying t=some .string:=by unfold OA at h1;split at h1<;>first|(rename_i e;exact lQ e)|cases h1
   obtain⟨g1,g2,g3⟩:=fD h2;rw[zU,Option.map_eq_some_iff] at g3;obtain⟨b,g3,rfl⟩:=g3;refine⟨rfl,.int .u8 b.toNat,?_,ng ?_⟩
   ·have e:s[n.toNat]?=some b:=by
     obtain⟨g4,g5⟩:=zB.1 g3;have g4':n.toNat<s.size:=by simpa using g4
     rw[getElem?_pos s n.toNat g4'];have g5':s.data[n.toNat]=b:=by simpa using g5
     exact congrArg some g5'
    simp[Instr.index,asIntOf,run_underlying hu,g1,e]
   ·have:=b.toNat_lt;unfold gG IntKind.min IntKind.max;simp[IntKind.signed,IntKind.bits];omega
  ·rename_i m e l;split at h
   ·rename_i m' e' ha;rw[dN,Fb,zd] at h;obtain⟨⟨h1,hc⟩,y,h2,h3⟩:=h;simp only[Prod.mk.injEq] at h3;obtain⟨rfl,rfl⟩:=h3;have:=zG (F8 hc);subst this;obtain⟨ei,hu,_,he⟩:=R7 ha;have h1:=zh h1;subst h1;obtain⟨cs,rfl,hl,hr⟩:=hx;obtain⟨g1,g2,g3⟩:=fD h2;obtain⟨g4,g5⟩:=zB.1 g3;have hT:=hC.ef _ _ he;have:=KZ hr _ g4;rw[g5] at this;obtain⟨i,z,k1,_,k2,_⟩:=hT.info;obtain⟨v,k3,k4⟩:=O5 (w:=w) hT (cs:=cs) (off:=n.toNat*aN e') this;refine⟨rfl,v,?_,k4⟩;have hf:n<(m:Int):=by have:List.length l=m:=hl;omega
    simp[Instr.index,asIntOf,run_underlying hu,g1,hf,j7 k1,k2,k3]
   ·cases h
  ·cases h
theorem O9{t e:TypeId}{i:TypeInfo}(hu:P.underlying t=some (.slice e))(hi:P.info? e=some i){a:Addr}(hs:a.spot=none){len cap:Nat}{k:IntKind}{n:Int}(h0:0<=n)(h1:n<len):(Instr.indexAt t (.slice (some a) len cap) (.int k n)).run P w=.ok (.pointer (some ⟨a.block,a.off+n.toNat*i.size,none⟩)) w:=by simp[Instr.indexAt,asIntOf,run_underlying hu,h0,h1,j7 hi,vd hs]
theorem q6g{t e:TypeId}{i:TypeInfo}{m:Nat}(hu:P.underlying t=some (.array m e))(hi:P.info? e=some i){a:Addr}(hs:a.spot=none){k:IntKind}{n:Int}(h0:0<=n)(h1:n<m):(Instr.indexAt t (.pointer (some a)) (.int k n)).run P w=.ok (.pointer (some ⟨a.block,a.off+n.toNat*i.size,none⟩)) w:=by simp[Instr.indexAt,asIntOf,run_underlying hu,h0,h1,j7 hi,vd hs,Instr.sureAddr]
theorem qgi(hC:cw C)(hm:MRel C X φ o w){t:TypeId}{x i:V}{zx zi:Value}{v:V}{u:List (Nat×Obj)}(hx:ay φ o (ah X φ o w) w x zx)(hi:ay φ o (ah X φ o w) w i zi)(h:(Rc lf C o t x i).gives v u):u=[]/\qK C.P φ o (ah X φ o w) w v (Instr.indexAt t zx zi):=by
 unfold Rc at h;split at h
 ·cases h
 ·rename_i k n hk;obtain⟨rfl,_⟩:=Li hk hi;split at h
  ·rename_i e s;rw[dN,n5] at h;obtain⟨h1,y,h2,h3⟩:=h;simp only[Prod.mk.injEq] at h3;obtain⟨rfl,rfl⟩:=h3;obtain⟨ei,hu,_,he⟩:=BT h1;obtain⟨ii,z,k1,_,k2,_⟩:=(hC.ef _ _ he).info;obtain⟨g1,g2,g3⟩:=fD h2;obtain⟨_,hs⟩:=Fc hx;rcases hs with ⟨_,e2,_⟩|⟨_,a,cap,ec,rfl,e2,e3,e4,e5,e6⟩
   ·rw[e2] at g2;simp at g2;omega
   ·refine⟨rfl,_,O9 hu k1 (e2 om) g1 g2,?_⟩;obtain⟨g4,g5⟩:=zB.1 g3;have:=KZ e4 _ g4;rw[g5] at this;rw[k2];exact⟨_,_,rfl,rfl,e3 (fun h=>by rw[h] at g4;simp at g4),this,JG _ _ e5⟩
  ·rename_i m e l;split at h
   ·rename_i m' e' ha;rw[dN,n5,zd] at h;obtain⟨⟨h1,hc⟩,y,h2,h3⟩:=h;simp only[Prod.mk.injEq] at h3;obtain⟨rfl,rfl⟩:=h3;have:=zG (F8 hc);subst this;obtain⟨ei,hu,_,he⟩:=R7 ha;obtain⟨ii,z,k1,_,k2,_⟩:=(hC.ef _ _ he).info;have h1:=zh h1;subst h1;obtain⟨g1,g2,g3⟩:=fD h2;obtain⟨a,cs,rfl,e2,e3,⟨e4,e4'⟩,e5⟩:=hx;have hg:n<(m:Int):=by have:List.length l=m:=e4;omega
    refine⟨rfl,_,q6g hu k1 e2 g1 hg,?_⟩;obtain⟨g4,g5⟩:=zB.1 g3;have:=KZ e4' _ g4;rw[g5] at this;rw[k2];exact⟨_,_,rfl,rfl,e3,this,JG _ _ e5⟩
   ·cases h
  ·rename_i id ver;split at h
   ·rename_i e aF fr s e1;rw[dN,n5,zd] at h;obtain⟨⟨h1,hc⟩,y,h2,h3⟩:=h;simp only[Prod.mk.injEq] at h3;obtain⟨rfl,rfl⟩:=h3;obtain⟨ei,hu,_,he⟩:=BT hc;obtain⟨ii,z,k1,_,k2,_⟩:=(hC.ef _ _ he).info;obtain⟨g1,g2,rfl⟩:=O7 h2;have ho:=hm.aB id;unfold ay at hx;rw[e1] at hx ho;obtain⟨h0,hx⟩:=hx;rcases hx (zh h1) with ⟨hn,rfl⟩|⟨hn,cap,rfl,e3,e4⟩
    ·rw[ho.2.1 hn] at g2;simp at g2;omega
    ·refine⟨rfl,_,O9 hu k1 (a:=bare (φ id)) (F6 e4.1 om) g1 g2,?_⟩;unfold ay;rw[e1,k2];exact⟨h0,fun _=>⟨by omega,by simp[j6,bare]⟩⟩
   ·cases h
  ·rename_i id ver p cp;split at h
   ·rename_i e aF fr s e1;rw[dN,n5,zd] at h;obtain⟨⟨h1,hc⟩,y,h2,h3⟩:=h;simp only[Prod.mk.injEq] at h3;obtain⟨rfl,rfl⟩:=h3;obtain⟨ei,hu,_,he⟩:=BT hc;obtain⟨ii,z,k1,_,k2,_⟩:=(hC.ef _ _ he).info;obtain⟨g1,g2,rfl⟩:=O7 h2;have ho:=hm.aB id;unfold ay at hx;rw[e1] at hx ho;obtain⟨h0,hx⟩:=hx;obtain⟨hp,hx,_⟩:=hx (zh h1);have CF:n<(p:Int):=by
     have:(lf.aO s.l p).length=p:=by simp[lf,aO,Nat.min_eq_left hp]
     rw[this] at g2;exact g2
    rcases hx with ⟨hn,rfl⟩|⟨hn,cap,rfl,e3,e4⟩
    ·rw[ho.2.1 hn] at hp;simp at hp;omega
    ·refine⟨rfl,_,O9 hu k1 (a:=bare (φ id)) (F6 e4.1 om) g1 CF,?_⟩;unfold ay;rw[e1,k2];exact⟨h0,fun _=>⟨by omega,by simp[j6,bare]⟩⟩
   ·cases h
  ·rename_i id ver lo;split at h
   ·rename_i e aF fr s e1;rw[dN,n5,zd] at h;obtain⟨⟨h1,hc⟩,y,h2,h3⟩:=h;simp only[Prod.mk.injEq] at h3;obtain⟨rfl,rfl⟩:=h3;obtain⟨ei,hu,_,he⟩:=BT hc;obtain⟨ii,z,k1,_,k2,_⟩:=(hC.ef _ _ he).info;have h2:ak (bf 0 n) (cB s.l (aT lo n)) none=some y:=h2;have hf:0<=n:=by
     cases h:bf 0 n with
     |true=>exact zM h
     |false=>rw[h] at h2;cases h2
    have h2:cB s.l (aT lo n)=some y:=by have:bf 0 n=true:=zn hf;rw[this] at h2;exact h2
    obtain⟨g1,g2,rfl⟩:=O7 h2;unfold aT at g1 g2;have ho:=hm.aB id;unfold ay at hx;rw[e1] at hx ho;obtain⟨h0,hx⟩:=hx;obtain⟨kk,rfl,hk,hx⟩:=hx (zh h1);rcases hx with ⟨hn,rfl⟩|⟨hn,cap,rfl,e3⟩
    ·rw[ho.2.1 hn] at g2;simp at g2;omega
    ·have hj:cap≠0:=om
     rw[if_neg hj];refine⟨rfl,_,O9 hu k1 (a:=⟨(φ id).block,(φ id).off+kk*aN e,none⟩) rfl hf (show n<((s.l.length-kk:Nat):Int) by omega),?_⟩;unfold ay;rw[e1,k2];have e4:(aT (kk:Int) n).toNat=kk+n.toNat:=by unfold aT;omega
     refine⟨h0,fun _=>⟨by rw[e4];omega,?_⟩⟩;rw[e4,Nat.add_mul];simp[j6,Nat.add_assoc]
   ·cases h
  ·rename_i id;split at h
   ·rename_i e fr s e1;split at h
    ·rename_i m e' ha;rw[dN,n5] at h;obtain⟨h1,y,h2,h3⟩:=h;simp only[Prod.mk.injEq] at h3;obtain⟨rfl,rfl⟩:=h3;have:=zG (F8 h1);subst this;obtain⟨ei,hu,_,he⟩:=R7 ha;obtain⟨ii,z,k1,_,k2,_⟩:=(hC.ef _ _ he).info;obtain⟨q,h3,h4⟩:=xF h2;obtain⟨g1,g2,rfl⟩:=O7 h4;obtain⟨_,h5,_⟩:=O8 h3;have h5:n+1<=(m:Int):=h5;unfold ay at hx;rw[e1] at hx;have:=hx rfl;subst this;refine⟨rfl,_,q6g hu k1 rfl g1 (by show n<(m:Int);omega),?_⟩;unfold ay;rw[e1,k2];exact⟨Nat.le_refl _,fun _=>⟨by omega,by simp[j6]⟩⟩
    ·cases h
   ·cases h
  ·cases h
theorem z09(hm:MRel C X φ o w){t ty:TypeId}{ts:List TypeId}{x:V}{z:Value}{v:V}{u:List (Nat×Obj)}(hx:ay φ o (ah X φ o w) w x z)(h:(Q8 lf C o t x).gives v u):u=[]/\qK C.P φ o (ah X φ o w) w v (Builtin.len_ (t::ts).toArray ty #[z]):=by
 have bd:∀n:Nat,n<=cC->gG .i64 (n:Int):=by intro n hn;unfold cC at hn;unfold gG IntKind.min IntKind.max;simp[IntKind.signed,IntKind.bits];omega
 unfold Q8 at h;split at h
 ·rename_i hd;have hu:=lQ hd;split at h
  ·rename_i l;rw[dJ] at h;obtain⟨rfl,rfl⟩:=h;obtain⟨s,rfl,rfl,hs⟩:=sV hx;exact⟨rfl,goInt (s.data.toList.map fun b=>(b.toNat:Int)).length,by simp[Builtin.len_,run_underlying hu],ng (bd _ (by simpa using hs))⟩
  ·cases h
 ·rename_i e hd;have hu:=lQ hd;split at h
  ·rename_i e s;rw[dJ] at h;obtain⟨rfl,rfl⟩:=h;obtain⟨h1,h2⟩:=Fc hx;refine⟨rfl,goInt s.l.length,?_,ng (bd _ h1)⟩;rcases h2 with ⟨_,h3,rfl⟩|⟨_,a,cap,ec,rfl,_⟩
   ·simp[Builtin.len_,run_underlying hu,h3]
   ·simp[Builtin.len_,run_underlying hu]
  ·rw[dJ] at h;obtain⟨rfl,rfl⟩:=h;have:z=.slice none 0 0:=hx;subst this;exact⟨rfl,goInt 0,by simp[Builtin.len_,run_underlying hu],ng (bd 0 (by unfold cC;omega))⟩
  ·split at h
   ·rename_i e s he;rw[dJ] at h;obtain⟨rfl,rfl⟩:=h;obtain⟨⟨h1,h2⟩,_⟩:=O0 hm.aB hx he;refine⟨rfl,goInt s.l.length,?_,ng (bd _ h1)⟩;rcases h2 with ⟨_,h3,rfl⟩|⟨_,a,cap,ec,rfl,_⟩
    ·simp[Builtin.len_,run_underlying hu,h3]
    ·simp[Builtin.len_,run_underlying hu]
   ·cases h
 ·rename_i kt vt hd;have hu:=lQ hd;split at h
  ·rename_i id;split at h
   ·cases h
   ·cases h
  ·rw[dJ] at h;obtain⟨rfl,rfl⟩:=h;have:z=.map none:=hx;subst this;exact⟨rfl,goInt 0,by simp[Builtin.len_,run_underlying hu],ng (bd 0 (by unfold cC;omega))⟩
  ·cases h
 ·rename_i n e hd;have hu:=lQ hd;rw[dN,dJ] at h;obtain⟨h1,rfl,rfl⟩:=h;have h1:=zH h1;refine⟨rfl,goInt n,?_,ng (bd n (by unfold cC;omega))⟩;simp[Builtin.len_,run_underlying hu]
 ·cases h
end
section
variable {P:Program} {C:Cx} {X:Nat→Prop} {φ:Nat→Addr} {o:Nat→Obj} {w:World} {imm:Nat→Prop}
def dR(C:Cx)(X:Nat->Prop)(φ:Nat->Addr)(o:Nat->Obj)(w:World)(v:V)(u:List (Nat×Obj))(s:Sem Value):Prop:=∃val w' φ',s.run C.P w=.ok val w'/\Comes C X φ φ' o u w w' v val
theorem dR.a7(hm:MRel C X φ o w){v:V}{u:List (Nat×Obj)}{s:Sem Value}(h:u=[]/\qK C.P φ o (ah X φ o w) w v s):dR C X φ o w v u s:=by obtain⟨rfl,val,h1,h2⟩:=h;exact⟨val,w,φ,h1,.same hm h2⟩
def yk(φ:Nat->Addr)(o:Nat->Obj)(imm:Nat->Prop)(w:World):Option V->Option Value->Prop
 |none,none=>True
 |some v,some z=>ay φ o imm w v z
 |_,_=>False
theorem ve{d a:Int}{h:Option V}{z:Option Value}(hb:bd d h=some a)(hr:yk φ o imm w h z):(z=none/\a=d)\/∃k,z=some (.int k a):=by
 cases h with
 |none=>cases z with
  |none=>exact .inl ⟨rfl,(zG hb).symm⟩
  |some _=>exact hr.elim
 |some v=>cases z with
  |none=>exact hr.elim
  |some z=>
   simp only[bd] at hb;split at hb
   ·rename_i k n e;injection hb with hb;subst hb;exact .inr ⟨k,congrArg some (Li e hr).1⟩
   ·cases hb
theorem Ge{isS:Bool}{len cap:Nat}{lo hi:Option Value}{a b:Int}(hc:len<=cap)(ha:(lo=none/\a=0)\/∃k,lo=some (.int k a))(hb:(hi=none/\b=len)\/∃k,hi=some (.int k b))(h0:0<=a)(h1:a<=b)(h2:b<=len):(Instr.sliceBounds isS len cap lo hi none).run P w=.ok (a.toNat,b.toNat,cap) w:=by
 have h3:b<=(cap:Int):=om
 have h4:0<=b:=om
 have h5:(b.toNat:Int)=b:=om
 rcases ha with ⟨rfl,rfl⟩|⟨k,rfl⟩<;>rcases hb with ⟨rfl,rfl⟩|⟨k',rfl⟩
 ·simp[Instr.sliceBounds]
 ·simp[Instr.sliceBounds,Instr.sliceBound,asIntOf,h3,h4]
 ·simp[Instr.sliceBounds,Instr.sliceBound,asIntOf,h0,h1]
 ·simp[Instr.sliceBounds,Instr.sliceBound,asIntOf,h0,h1,h3,h4,h5]
theorem Pa{len cap:Nat}{k k':IntKind}{b:Int}(h0:0<=b)(h1:b<=cap):(Instr.sliceBounds true len cap none (some (.int k b)) (some (.int k' b))).run P w=.ok (0,b.toNat,b.toNat) w:=by
 have h5:(b.toNat:Int)=b:=om
 simp[Instr.sliceBounds,Instr.sliceBound,asIntOf,h0,h1,h5]
theorem z49{a:Addr}{n m:Nat}(h:room w a n)(hm:m<=n):room w a m:=by obtain⟨c,el,lo,hi,h1,h2,h3⟩:=h;exact⟨c,el,lo,hi,h1,by omega,by omega⟩
def kC(fr:Nat)(o:Nat->Obj)(u:List (Nat×Obj)):Prop:=∀p,p∈u->fr<=p.1->p.1<fr+16->o p.1=.none
theorem Comes.yl(hm:MRel C X φ o w){fr:Nat}(hg:o fr=.none){e:Ty}(he:e≠.int .u8){nil:Bool}{z:Value}(hz:(nil=true/\z=.slice none 0 0)\/(nil=false/\∃a:Addr,z=.slice (some a) 0 0)):∃φ',Comes C X φ φ' o [(fr,.vec e 0 false ⟨nil,[]⟩)] w w (.cR fr 0) z:=by
 have key:∀a:Addr,a.spot≠none->((nil=true/\z=.slice none 0 0)\/(nil=false/\z=.slice (some (bare a)) 0 0))->Comes C X φ (cV φ fr a) o [(fr,.vec e 0 false ⟨nil,[]⟩)] w w (.cR fr 0) z:=by
  intro a ha hz;have hc:∀i,i∈bO [(fr,Obj.vec e 0 false ⟨nil,[]⟩)]->i=fr:=fun i hi=>by simpa[bO] using hi
  have hf:ar o [(fr,Obj.vec e 0 false ⟨nil,[]⟩)] fr=.vec e 0 false ⟨nil,[]⟩:=eY;have hx:∀i,i∈bO [(fr,Obj.vec e 0 false ⟨nil,[]⟩)]->aX (cV φ fr a i) (ar o [(fr,.vec e 0 false ⟨nil,[]⟩)] i)=true->False:=fun i hi hx=>by rw[hc i hi,hf,eY] at hx;exact ha (Cz hx).2.2
  refine Comes.make hm (Nat.le_refl _) (fun _ _ _=>rfl) (fun id hk=>o6 fun e=>hk (by rw[e];exact zf ..)) (fun id _ hk=>o6 fun e=>hk (by rw[e];exact zf ..)) (fun i hi=>?_) (fun i hi h=>(hx i hi h).elim) (fun i j hi hj h1 _ _ _=>(hx i hi h1).elim) (fun h1 h2 h3 i hi=>?_) (fun i hi=>?_) (fun _ _ _=>?_)
  ·rw[hc i hi,hg];trivial
  ·rw[hc i hi,hf];exact⟨Nat.zero_le _,fun _=>rfl,fun _=>.inr ⟨by rw[eY];exact ha,rfl,he⟩⟩
  ·rw[hc i hi,hf];exact fun h=>absurd h he
  ·unfold ay;rw[hf,eY];refine⟨Nat.le_refl _,fun _=>?_⟩;rcases hz with ⟨h1,h2⟩|⟨h1,h2⟩
   ·exact .inl ⟨h1,h2⟩
   ·exact .inr ⟨h1,0,h2,Nat.le_refl _,fun _=>rfl,fun _ h=>absurd h ha⟩
 rcases hz with ⟨h1,h2⟩|⟨h1,a,h2⟩
 ·exact⟨_,key ⟨0,0,some 0⟩ (by simp) (.inl ⟨h1,h2⟩)⟩
 ·exact⟨_,key (mark a) (qv3 a) (.inr ⟨h1,by rw[qv2];exact h2⟩)⟩
theorem z0a{e:Ty}{l:List (den e)}{ec:List Value}{a b:Nat}(hb:b<=l.length)(hc:a<=b)(h:bG (aC imm w e) l ec):bG (aC imm w e) ((l.take b).drop a) ((ec.drop (a*aN e)).take ((b-a)*aN e)):=by have h1:=(wC a om h).2;have h2:=(wC (b-a) (by simp;omega) h1).1;rw[List.drop_take];exact h2
theorem qq7{t:TypeId}{e:Ty}(hC:cw C){ei:TypeId}(hu:C.P.underlying t=some (.slice ei))(he:C.ty ei=some e){s:Sl (den e)}{z:Value}(hx:ay φ o imm w (.d (.sl e) s) z){lo hi:Option Value}{a b:Int}{m:List (den e)}(hk:(lo=none/\a=0)\/∃k,lo=some (.int k a))(hg:(hi=none/\b=s.l.length)\/∃k,hi=some (.int k b))(hm:bX s.l a b=some m):∃val,(Instr.sliceAt t z lo hi none).run C.P w=.ok val w/\ay φ o imm w (.d (.sl e) (⟨s.nil,m⟩:Sl (den e))) val:=by
 obtain⟨h0,h1,h2,rfl⟩:=ql1 hm;obtain⟨ii,zz,k1,_,k2,_⟩:=(hC.ef _ _ he).info;obtain⟨hl,hs⟩:=Fc hx;have hf:((s.l.take b.toNat).drop a.toNat).length=b.toNat-a.toNat:=by simp;omega
 rcases hs with ⟨g1,g2,rfl⟩|⟨g1,ad,cap,ec,rfl,g2,g3,g4,g5,g6⟩
 ·rw[g2] at h2;have e1:a=0:=by simp at h2;omega
  have e2:b=0:=by simp at h2;omega
  have hb:=Ge (P:=C.P) (w:=w) (isS:=true) (len:=0) (cap:=0) (Nat.le_refl _) hk (by rw[g2] at hg;exact hg) h0 h1 (by simpa using h2);refine⟨.slice none 0 0,?_,?_⟩
  ·simp[Instr.sliceAt,run_underlying hu,Instr.slice,hb,j7 k1,e1,e2]
  ·exact⟨_,rfl,by simp[g2],.inl ⟨g1,by simp[g2],rfl⟩⟩
 ·have hb:=Ge (P:=C.P) (w:=w) (isS:=true) g6 hk hg h0 h1 h2;refine⟨.slice (some (if cap=a.toNat then ad else ad.add (a.toNat*aN e))) (b.toNat-a.toNat) (cap-a.toNat),?_,?_⟩
  ·simp[Instr.sliceAt,run_underlying hu,Instr.slice,hb,j7 k1,k2];split<;>rfl
  ·refine⟨_,rfl,by rw[hf];omega,.inr ⟨g1,?_⟩⟩;rw[hf];by_cases hc:cap=a.toNat
   ·rw[if_pos hc];have e1:(s.l.take b.toNat).drop a.toNat=[]:=zT (by rw[hf];omega);exact⟨ad,_,[],rfl,fun h=>g2 om,fun h=>absurd e1 h,by rw[e1];rfl,fun j hj=>absurd hj (by simp),by omega⟩
   ·rw[if_neg hc,vd (g2 om)];exact⟨_,_,_,rfl,fun _=>rfl,fun h=>g3 (fun e=>h (by rw[e];simp)),z0a om om g4,JG _ _ g5,by omega⟩
theorem qsd(hC:cw C)(hm:MRel C X φ o w){t:TypeId}{x:V}{z:Value}{lo hi mx:Option V}{BU Lj Pb:Option Value}{v:V}{u:List (Nat×Obj)}(hx:ay φ o (ah X φ o w) w x z)(ht:yk φ o (ah X φ o w) w lo BU)(hw:yk φ o (ah X φ o w) w hi Lj)(hz:yk φ o (ah X φ o w) w mx Pb){fr:Nat}(h:(Rb lf C o fr t x lo hi mx).gives v u)(hf:kC fr o u):dR C X φ o w v u (Instr.sliceAt t z BU Lj Pb):=by
 have hk:mx=none->Pb=none:=by
  rintro rfl;cases Pb with
  |none=>rfl
  |some _=>exact hz.elim
 unfold Rb at h;split at h
 ·rename_i l;have:=hk rfl;subst this;split at h
  ·rename_i a b ha hb;rw[dN,n5] at h;obtain⟨h1,y,h2,h3⟩:=h;simp only[Prod.mk.injEq] at h3;obtain⟨rfl,rfl⟩:=h3;refine dR.a7 hm ⟨rfl,?_⟩;obtain⟨s,rfl,rfl,hs⟩:=sV hx;have h1:=zh h1;have hu:C.P.underlying t=some .string:=by unfold OA at h1;split at h1<;>first|(rename_i e;exact lQ e)|cases h1
   obtain⟨h0,h1,h4,rfl⟩:=ql1 h2;have hA:(s.data.toList.map fun b=>(b.toNat:Int)).length=s.size:=by simp
   rw[hA] at h4;have e1:lf.n (s.data.toList.map fun b=>(b.toNat:Int))=(s.size:Int):=by simp[lf,aa]
   rw[e1] at hb;have hb:=Ge (P:=C.P) (w:=w) (isS:=false) (Nat.le_refl _) (ve ha ht) (ve hb hw) h0 h1 h4;refine⟨.string (s.extract a.toNat b.toNat),?_,K6 ?_ ?_⟩
   ·simp[Instr.sliceAt,run_underlying hu,Instr.slice,hb]
   ·rw[ByteArray.data_extract,Array.toList_extract,List.extract_eq_take_drop,List.map_take,List.map_drop,List.drop_take]
   ·rw[ByteArray.size_extract];omega
  ·cases h
 ·rename_i e s;have:=hk rfl;subst this;split at h
  ·rename_i a b ha hb;rw[dN,n5] at h;obtain⟨h1,y,h2,h3⟩:=h;simp only[Prod.mk.injEq] at h3;obtain⟨rfl,rfl⟩:=h3;obtain⟨ei,hu,_,he⟩:=BT h1;obtain⟨val,g1,g2⟩:=qq7 hC hu he hx (ve ha ht) (ve hb hw) h2;exact dR.a7 hm ⟨rfl,val,g1,g2⟩
  ·cases h
 ·rename_i e s _;split at h
  ·rename_i b c hb hc;rw[dN,n5,zd] at h;obtain⟨⟨h1,hL⟩,y,h2,h3⟩:=h;simp only[Prod.mk.injEq] at h3;obtain⟨rfl,rfl⟩:=h3;have hH:e≠.int .u8:=fun h=>by subst h;cases hL
   have hI:o fr=.none:=hf _ (zf ..) (Nat.le_refl _) (by show fr<fr+16;omega);have h2:ak (af b 0) (ak (af c 0) (some ()) none) none=some y:=h2;have hM:b=0:=by
    cases h:af b 0 with
    |true=>simpa[af] using h
    |false=>rw[h] at h2;cases h2
   have hN:c=0:=by
    cases h:af c 0 with
    |true=>simpa[af] using h
    |false=>rw[h] at h2;cases hh:af b 0<;>rw[hh] at h2<;>cases h2
   subst hM hN;have hq:BU=none:=by
    cases BU with
    |none=>rfl
    |some _=>exact ht.elim
   subst hq;obtain⟨kb,rfl⟩:=(ve hb hw).resolve_left fun h=>by cases h.2
   obtain⟨kc,rfl⟩:=(ve hc hz).resolve_left fun h=>by cases h.2
   obtain⟨ei,hu,_,he⟩:=BT h1;obtain⟨ii,zz,k1,_,k2,_⟩:=(hC.ef _ _ he).info;obtain⟨hl,hs⟩:=Fc hx;rcases hs with ⟨g1,g2,rfl⟩|⟨g1,ad,cap,ec,rfl,g2,g3,g4,g5,g6⟩
   ·obtain⟨φ',hh⟩:=Comes.yl hm hI hH (nil:=s.nil) (z:=.slice none 0 0) (.inl ⟨g1,rfl⟩);have hg:=Pa (P:=C.P) (w:=w) (len:=0) (cap:=0) (k:=kb) (k':=kc) (b:=0) (Int.le_refl _) (Int.le_refl _);refine⟨.slice none 0 0,w,φ',?_,hh⟩;simp[Instr.sliceAt,run_underlying hu,Instr.slice,hg,j7 k1]
   ·obtain⟨φ',hh⟩:=Comes.yl hm hI hH (nil:=s.nil) (z:=.slice (some ad) 0 0) (.inr ⟨g1,ad,rfl⟩);have hg:=Pa (P:=C.P) (w:=w) (len:=s.l.length) (cap:=cap) (k:=kb) (k':=kc) (b:=0) (Int.le_refl _) om;refine⟨.slice (some ad) 0 0,w,φ',?_,hh⟩;simp[Instr.sliceAt,run_underlying hu,Instr.slice,hg,j7 k1]
  ·cases h
 ·rename_i id ver _;split at h
  ·rename_i e aF fz s e1;rw[dN,zd] at h;obtain⟨⟨h1,hB⟩,h⟩:=h;obtain⟨ei,hu,_,he⟩:=BT hB;obtain⟨ii,zz,k1,_,k2,_⟩:=(hC.ef _ _ he).info;split at h
   ·rename_i b c hb hc;rw[n5] at h;obtain⟨p,h2,h3⟩:=h;simp only[Prod.mk.injEq] at h3;obtain⟨rfl,rfl⟩:=h3;obtain⟨p',h2,h4⟩:=xF h2;obtain⟨h0,h3,rfl⟩:=O8 h2;have h3:b<=(s.l.length:Int):=h3;have h4:ak (af b c) (some b.toNat) none=some p:=h4;have hO:b=c:=by
     cases h:af b c with
     |true=>simpa[af] using h
     |false=>rw[h] at h4;cases h4
    subst hO;have hp:p=b.toNat:=by
     have:af b b=true:=by simp[af]
     rw[this] at h4;exact(zG h4).symm
    subst hp;refine dR.a7 hm ⟨rfl,?_⟩;have ho:=hm.aB id;unfold ay at hx;rw[e1] at hx ho;obtain⟨hv,hx⟩:=hx;have hq:BU=none:=by
     cases BU with
     |none=>rfl
     |some _=>exact ht.elim
    subst hq;obtain⟨kb,rfl⟩:=(ve hb hw).resolve_left fun h=>by have:=h.2;omega
    obtain⟨kc,rfl⟩:=(ve hc hz).resolve_left fun h=>by have:=h.2;omega
    rcases hx (zh h1) with ⟨hn,rfl⟩|⟨hn,cap,rfl,e3,e5,e4⟩
    ·have hy:=ho.2.1 hn;rw[hy] at h3;have e2:b=0:=by simp at h3;omega
     subst e2;have hg:=Pa (P:=C.P) (w:=w) (len:=0) (cap:=0) (k:=kb) (k':=kc) (b:=0) (Int.le_refl _) (Int.le_refl _);refine⟨.slice none 0 0,?_,?_⟩
     ·simp[Instr.sliceAt,run_underlying hu,Instr.slice,hg,j7 k1]
     ·unfold ay;rw[e1];refine⟨hv,fun _=>⟨Nat.zero_le _,.inl ⟨hn,rfl⟩,fun _ a m c h=>?_⟩⟩;injection h with _ _ h;exact h.symm
    ·have hg:=Pa (P:=C.P) (w:=w) (len:=s.l.length) (cap:=cap) (k:=kb) (k':=kc) h0 om;refine⟨.slice (some (bare (φ id))) b.toNat b.toNat,?_,?_⟩
     ·simp[Instr.sliceAt,run_underlying hu,Instr.slice,hg,j7 k1,Addr.add,bare]
     ·unfold ay;rw[e1];refine⟨hv,fun _=>⟨by omega,.inr ⟨hn,b.toNat,rfl,Nat.le_refl _,fun h=>?_,fun h1 h2=>?_⟩,fun _ a m c h=>?_⟩⟩
      ·have:=e5 h;omega
      ·exact z49 (e4 h1 h2) (Nat.mul_le_mul_right _ om)
      ·injection h with _ _ h;exact h.symm
   ·cases h
  ·cases h
 ·rename_i id ver;have:=hk rfl;subst this;split at h
  ·rename_i e aF fr s e1;rw[dN,zd] at h;obtain⟨⟨h1,hB⟩,h⟩:=h;obtain⟨ei,hu,_,he⟩:=BT hB;obtain⟨ii,zz,k1,_,k2,_⟩:=(hC.ef _ _ he).info;split at h
   ·split at h
    ·rename_i b hb;rw[n5] at h;obtain⟨p,h2,h3⟩:=h;simp only[Prod.mk.injEq] at h3;obtain⟨rfl,rfl⟩:=h3;obtain⟨h0,h3,rfl⟩:=O8 h2;have h3:b<=(s.l.length:Int):=h3;refine dR.a7 hm ⟨rfl,?_⟩;have ho:=hm.aB id;unfold ay at hx;rw[e1] at hx ho;obtain⟨hv,hx⟩:=hx;have hq:BU=none:=by
      cases BU with
      |none=>rfl
      |some _=>exact ht.elim
     subst hq;rcases hx (zh h1) with ⟨hn,rfl⟩|⟨hn,cap,rfl,e3,e4⟩
     ·have hy:=ho.2.1 hn;rw[hy] at h3;have e2:b=0:=by simp at h3;omega
      have hJ:=ve hb hw;have e5:lf.n s.l=0:=by rw[hy];rfl
      rw[e5] at hJ;have hg:=Ge (P:=C.P) (w:=w) (isS:=true) (len:=0) (cap:=0) (lo:=none) (hi:=Lj) (a:=0) (b:=b) (Nat.le_refl _) (.inl ⟨rfl,rfl⟩) hJ (Int.le_refl _) om om;refine⟨.slice none 0 0,?_,?_⟩
      ·simp[Instr.sliceAt,run_underlying hu,Instr.slice,hg,j7 k1,e2]
      ·unfold ay;rw[e1,e2];exact⟨hv,fun _=>⟨Nat.zero_le _,.inl ⟨hn,rfl⟩,by simp⟩⟩
     ·have hg:=Ge (P:=C.P) (w:=w) (isS:=true) (lo:=none) (a:=0) e3 (.inl ⟨rfl,rfl⟩) (ve hb hw) (Int.le_refl _) h0 h3;refine⟨.slice (some (bare (φ id))) b.toNat cap,?_,?_⟩
      ·simp[Instr.sliceAt,run_underlying hu,Instr.slice,hg,j7 k1,Addr.add,bare]
      ·unfold ay;rw[e1];exact⟨hv,fun _=>⟨by omega,.inr ⟨hn,cap,rfl,by omega,e4⟩,by simp⟩⟩
    ·cases h
   ·rename_i Ct;split at h
    ·split at h
     ·rename_i a ha;rw[n5] at h;obtain⟨p,h2,h3⟩:=h;simp only[Prod.mk.injEq] at h3;obtain⟨rfl,rfl⟩:=h3;obtain⟨h0,h3,_⟩:=O8 h2;have h3:a<=(s.l.length:Int):=h3;refine dR.a7 hm ⟨rfl,?_⟩;have ho:=hm.aB id;unfold ay at hx;rw[e1] at hx ho;obtain⟨hv,hx⟩:=hx;have hE:Lj=none:=by
       cases Lj with
       |none=>rfl
       |some _=>exact hw.elim
      subst hE;have hP:a.toNat<=s.l.length:=om
      have hQ:a=((a.toNat:Nat):Int):=om
      rcases hx (zh h1) with ⟨hn,rfl⟩|⟨hn,cap,rfl,e3,e4⟩
      ·have hy:=ho.2.1 hn;rw[hy] at h3;have e2:a=0:=by simp at h3;omega
       subst e2;have hg:=Ge (P:=C.P) (w:=w) (isS:=true) (len:=0) (cap:=0) (lo:=BU) (hi:=none) (a:=0) (b:=0) (Nat.le_refl _) (ve ha ht) (.inl ⟨rfl,rfl⟩) (Int.le_refl _) (Int.le_refl _) (Int.le_refl _);refine⟨.slice none 0 0,?_,?_⟩
       ·simp[Instr.sliceAt,run_underlying hu,Instr.slice,hg,j7 k1]
       ·unfold ay;rw[e1];exact⟨hv,fun _=>⟨0,rfl,Nat.zero_le _,.inl ⟨hn,rfl⟩⟩⟩
      ·have hg:=Ge (P:=C.P) (w:=w) (isS:=true) (len:=s.l.length) (cap:=cap) (lo:=BU) (hi:=none) (a:=a) (b:=s.l.length) e3 (ve ha ht) (.inl ⟨rfl,rfl⟩) h0 h3 (Int.le_refl _);refine⟨.slice (some (if cap-a.toNat=0 then bare (φ id) else⟨(φ id).block,(φ id).off+a.toNat*aN e,none⟩)) (s.l.length-a.toNat) (cap-a.toNat),?_,?_⟩
       ·simp[Instr.sliceAt,run_underlying hu,Instr.slice,hg,j7 k1,k2];by_cases hc:cap=a.toNat
        ·rw[if_pos hc,if_pos om]
        ·rw[if_neg hc,if_neg om,vd (F6 e4.1 om)];rfl
       ·unfold ay;rw[e1];exact⟨hv,fun _=>⟨a.toNat,hQ,hP,.inr ⟨hn,cap-a.toNat,rfl,by omega⟩⟩⟩
     ·cases h
    ·split at h
     ·rename_i a b ha hb;rw[n5] at h;obtain⟨y,h2,h3⟩:=h;simp only[Prod.mk.injEq] at h3;obtain⟨rfl,rfl⟩:=h3;have hF:=Lc hm [id];have e2:dX o [id]=[(id,.vec e aF true s)]:=by simp[dX,e1]
      have hR:=hF.keeps _ _ hx;have hS:vc (ar o (dX o [id])) (.cR id ver):=O3 (fun j hj=>by
       unfold eX at hj;split at hj
       ·cases hj
       ·exact hj)
      have hG:jS lf o (.sl e) (.cR id ver)=some s:=by
       simp only[jS,e1,h1,cond_true];unfold gX;split
       ·rfl
       ·rename_i hT _;exact absurd rfl hT
      have hK:oq lf o (.sl e) (.cR id ver)=some s:=by unfold oq;rw[hG]
      rw[<-CD [id]] at hK;have hd:=RY hF.mem hR hS hK;obtain⟨val,g1,g2⟩:=qq7 hC hu he hd (ve ha ht) (ve hb hw) h2;refine⟨val,w,φ,g1,?_⟩;rw[<-e2];exact {hF with val:=g2}
     ·cases h
  ·cases h
 ·cases h
theorem z0b{c:Bool}{a b:V}{za zb:Value}(ha:ay φ o imm w a za)(hb:ay φ o imm w b zb):ay φ o imm w (Rn lf c a b) (if c then za else zb):=by
 unfold Rn;split
 ·rename_i t a' t' b';split
  ·rename_i b'' e;obtain⟨rfl,rfl⟩:=xE e;cases c
   ·exact hb
   ·exact ha
  ·cases c
   ·exact hb
   ·exact ha
 ·cases c
  ·exact hb
  ·exact ha
theorem z0c{x:V}{z:Value}{v:V}{u:List (Nat×Obj)}(hx:ay φ o imm w x z)(h:(Jm o x).gives v u):u=[]/\v=x/\((∃a,z=.pointer (some a))\/(∃f p c,z=.func (.func f) p c)):=by
 unfold Jm at h;split at h
 ·rw[dN,dJ] at h;obtain⟨h1,rfl,rfl⟩:=h;exact⟨rfl,rfl,.inl (RV hx h1)⟩
 ·rw[dJ] at h;obtain⟨rfl,rfl⟩:=h;obtain⟨a,cs,h1,_⟩:=hx;exact⟨rfl,rfl,.inl ⟨a,h1⟩⟩
 ·rename_i id ver i path;split at h
  ·rename_i e1;rw[dN,dJ] at h;obtain⟨h1,rfl,rfl⟩:=h;unfold ay at hx;rw[e1] at hx;exact⟨rfl,rfl,.inl ⟨_,(hx.2 (zh h1)).2⟩⟩
  ·cases h
 ·rw[dJ] at h;obtain⟨rfl,rfl⟩:=h;obtain⟨c,h1,_⟩:=hx;exact⟨rfl,rfl,.inr ⟨_,_,_,h1⟩⟩
 ·cases h
end
def ov(l:List Value)(off:Nat)(vs:List Value):List Value:=l.take off++vs++l.drop (off+vs.length)
theorem z6m(l:List Value)(off:Nat):ov l off []=l:=by simp[ov]
theorem qve(l:List Value)(off:Nat)(v:Value)(vs:List Value)(h:off+(vs.length+1)<=l.length):ov (l.set off v) (off+1) vs=ov l off (v::vs):=list_seg_step l off v vs h
theorem R8(l:List Value)(off:Nat)(vs:List Value)(h:off+vs.length<=l.length):(ov l off vs).length=l.length:=by simp[ov];omega
theorem qvf:∀(vs:List Value) (off k:Nat) (cs:Array Value),off+k+vs.length<=cs.size->(vs.zipIdx k).foldl (fun cs p=>cs.setIfInBounds (off+p.2) p.1) cs=(ov cs.toList (off+k) vs).toArray
 |[],off,k,cs,_=>by simp[ov]
 |v::vs,off,k,cs,h=>by simp only[List.zipIdx_cons,List.foldl_cons];rw[qvf vs off (k+1) _ (by simp at h ⊢;omega),Array.toList_setIfInBounds,<-Nat.add_assoc,qve];simp at h ⊢;omega
theorem ql2(place:Nat->Option (Nat×Nat))(cells:Array Value)(i:Nat)(v:Value)(rest:List (Nat×Value)){off sz:Nat}(hp:place i=some (off,sz))(hs:v.cells.size=sz)(hb:off+sz<=cells.size):Instr.fill place cells ((i,v)::rest)=Instr.fill place (ov cells.toList off v.cells.toList).toArray rest:=by
 have e:(v.cells.zipIdx.foldl (fun cs p=>cs.setIfInBounds (off+p.2) p.1) cells)=(ov cells.toList off v.cells.toList).toArray:=by have:=qvf v.cells.toList off 0 cells (by simp;omega);simp only[Nat.add_zero] at this;rw[<-Array.foldl_toList,Array.toList_zipIdx];exact this
 simp only[Instr.fill,hp];rw[if_neg (by simp;omega),e]
theorem qse(w:World)(b i:Nat)(cs:Array Value)(t:TypeId)(fr:Nat×Nat)(v:Value)(hg:w.heap[b]?=some (.cells cs t fr)):w.setCell ⟨b,i,none⟩ v=w.setRow b (cs.setIfInBounds i v):=setCell_eq_setRow w b i cs t fr v hg
section
variable {P:Program} {C:Cx} {X:Nat→Prop} {φ φ':Nat→Addr} {o:Nat→Obj} {w w':World} {imm:Nat→Prop}
theorem Lk{b off lo hi:Nat}{t:TypeId}:∀(vs:List Value) (i:Nat) (cur:Array Value) (w:World),w.heap[b]?=some (.cells cur t (lo,hi))->off+i+vs.length<=cur.size->(hi<=lo\/hi<=off+i\/off+i+vs.length<=lo)->(∀v∈vs,v.oneCell'=true)->(storeCells ⟨b,off,none⟩ vs i).run P w=.ok () (w.setRow b (ov cur.toList (off+i) vs).toArray)
 |[],i,cur,w,hg,_,_,_=>by simp only[storeCells,z6m,Array.toArray_toList];rw[setRow_self w b cur t (lo,hi) hg];rfl
 |v::rest,i,cur,w,hg,hl,hf,h1=>by
  have he:(⟨b,off,none⟩:Addr).add i=⟨b,off+i,none⟩:=vd rfl i;simp only[zw] at hl hf;have hk:off+i<cur.size:=om
  have hc:w.cell? ⟨b,off+i,none⟩=some cur[off+i]:=by simp[World.cell?,hg,hk]
  have hj:w.frozen? ⟨b,off+i,none⟩=false:=by simp only[World.frozen?,hg,Bool.and_eq_false_iff,decide_eq_false_iff_not];omega
  have hm:(store ((⟨b,off,none⟩:Addr).add i) v).run P w=.ok () (w.setRow b (cur.setIfInBounds (off+i) v)):=by rw[he,run_store P w _ v _ (h1 v (by simp)),hc];simp[hj,qse w b (off+i) cur t (lo,hi) v hg]
  have ih:=Lk (off:=off) (lo:=lo) (hi:=hi) rest (i+1) (cur.setIfInBounds (off+i) v) (w.setRow b (cur.setIfInBounds (off+i) v)) (setRow_heap w b cur _ t _ hg) (by simp;omega) om (fun x hx=>h1 x (by simp[hx]));simp only[storeCells,Sem.run_bind,hm,Result.andThen_ok,ih,setRow_setRow];rw[Array.toList_setIfInBounds,show off+(i+1)=off+i+1 by omega,qve _ _ _ _ (by simp;omega)]
theorem Pc{b:Nat}{cur:Array Value}{t:TypeId}{fr:Nat×Nat}(h:w.heap[b]?=some (.cells cur t fr))(cs:Array Value):(w.setRow b cs).heap[b]?=some (.cells cs t fr):=setRow_heap w b cur cs t fr h
theorem Pd{e:Ty}{l m:List (den e)}{cs ds:List Value}{i:Nat}(hi:i+m.length<=l.length)(h:bG (aC imm w e) l cs)(h':bG (aC imm w e) m ds):bG (aC imm w e) (l.take i++m++l.drop (i+m.length)) (ov cs (i*aN e) ds):=by unfold ov;have h1:=(wC i om h).1;have h2:=(wC (i+m.length) hi h).2;rw[pS h',<-Nat.add_mul];exact Jt (Jt h1 h') h2
theorem Gf:∀(t:Ty) (x:den t) (cs:List Value),aC imm w t x cs->∀v,v∈cs->v.oneCell'=true
 |.unit,_,_,h,v,hv=>by simp[aC] at h;subst h;cases hv
 |.pair a b,x,_,⟨c,d,e,h1,h2⟩,v,hv=>by
  subst e;rcases zL.1 hv with hv|hv
  ·exact Gf a x.1 c h1 v hv
  ·exact Gf b x.2 d h2 v hv
 |.st p,x,cs,h,v,hv=>Gf p x cs h v hv
 |.arr n e,l,cs,⟨_,h2⟩,v,hv=>by
  have key:∀(l:List (den e)) (cs:List Value),bG (aC imm w e) l cs->∀v,v∈cs->v.oneCell'=true:=by
   intro l
   induction l with
   |nil=>intro cs h v hv;simp[bG] at h;subst h;cases hv
   |cons y l ih=>
    intro cs ⟨c,d,e1,h3,h4⟩ v hv;subst e1;rcases zL.1 hv with hv|hv
    ·exact Gf e y c h3 v hv
    ·exact ih d h4 v hv
  exact key l cs h2 v hv
 |.int _,_,_,h,v,hv=>by obtain⟨h,_⟩:=h;subst h;simp at hv;subst hv;rfl
 |.bool,_,_,h,v,hv=>by have h:_=[_]:=h;subst h;simp at hv;subst hv;rfl
 |.eP,_,_,h,v,hv=>by have h:_=[_]:=h;subst h;simp at hv;subst hv;rfl
 |.fl,_,_,h,v,hv=>by have h:_=[_]:=h;subst h;simp at hv;subst hv;rfl
 |.str,_,_,⟨s,h,_⟩,v,hv=>by subst h;simp at hv;subst hv;rfl
 |.sl e,_,_,⟨x,h,_,h2⟩,v,hv=>by subst h;simp at hv;subst hv;rcases h2 with ⟨_,_,rfl⟩|⟨_,a,cap,ec,rfl,_⟩<;>rfl
 |.ks e,_,_,⟨0,h⟩,v,hv=>h.elim
 |.ks e,_,_,⟨n+1,x,h,_,h2⟩,v,hv=>by subst h;simp at hv;subst hv;rcases h2 with ⟨_,_,rfl⟩|⟨_,a,cap,ec,rfl,_⟩<;>rfl
theorem Pe{e:Ty}:∀{l:List (den e)} {cs:List Value},bG (aC imm w e) l cs->∀v,v∈cs->v.oneCell'=true
 |[],cs,h,v,hv=>by simp[bG] at h;subst h;cases hv
 |y::l,cs,⟨c,d,e1,h3,h4⟩,v,hv=>by
  subst e1;rcases zL.1 hv with hv|hv
  ·exact Gf e y c h3 v hv
  ·exact Pe h4 v hv
theorem Comes.fresh(hm:MRel C X φ o w){fr:Nat}{B:Go.Obj}{w':World}(hg:w'.heap=w.heap.push B)(x:Obj){ns:List (Nat×Obj)}(hc:∀p,p∈ns->(∃e,p.2=.vec e 0 false ⟨true,[]⟩)/\p.1≠fr/\o p.1=.none)(hu:∀w',Up w w' (φ fr) ⟨w.heap.size,0,none⟩ (o fr) x){v:V}{z:Value}(hl:(∀b,ah X φ o w b->ah X (cV φ fr ⟨w.heap.size,0,none⟩) (ar o ((fr,x)::ns)) w' b)->(∀b,ah X φ o w b->w'.heap[b]?=w.heap[b]?)->(∀y z,ay φ o (ah X φ o w) w y z->ay (cV φ fr ⟨w.heap.size,0,none⟩) (ar o ((fr,x)::ns)) (ah X (cV φ fr ⟨w.heap.size,0,none⟩) (ar o ((fr,x)::ns)) w') w' y z)->qq (cV φ fr ⟨w.heap.size,0,none⟩) (ar o ((fr,x)::ns)) (ah X (cV φ fr ⟨w.heap.size,0,none⟩) (ar o ((fr,x)::ns)) w') w' fr x)(hn:iL C w' ⟨w.heap.size,0,none⟩ x)(ho:ar o ((fr,x)::ns) fr=x->ay (cV φ fr ⟨w.heap.size,0,none⟩) (ar o ((fr,x)::ns)) (ah X (cV φ fr ⟨w.heap.size,0,none⟩) (ar o ((fr,x)::ns)) w') w' v z)(still:CB w w':=by exact⟨rfl,rfl⟩):
  Comes C X φ (cV φ fr ⟨w.heap.size,0,none⟩) o ((fr,x)::ns) w w' v z:=by
 have hq:∀(ns:List (Nat×Obj)) (o':Nat->Obj) (id:Nat),(∀p,p∈ns->∃e,p.2=.vec e 0 false ⟨true,[]⟩)->id∈bO ns->∃e,ar o' ns id=.vec e 0 false ⟨true,[]⟩:=by
  intro ns
  induction ns with
  |nil=>intro o' id _ h;cases h
  |cons p r ih=>
   obtain⟨i,y⟩:=p;intro o' id hc h;by_cases hr:id∈bO r
   ·exact ih _ _ (fun p hp=>hc p (zg _ hp)) hr
   ·simp only[bO,zu,hr,or_false] at h;subst h;show ∃e,ar (cV o' id y) r id=_;rw[iM hr,eY];exact hc _ (zf ..)
 have hs:∀(ns:List (Nat×Obj)) id,id∈bO ns->∃p,p∈ns/\p.1=id:=by
  intro ns
  induction ns with
  |nil=>intro id h;cases h
  |cons p r ih=>
   intro id h;rcases zu.1 h with h|h
   ·exact⟨p,zf ..,h.symm⟩
   ·obtain⟨q,h1,h2⟩:=ih id h;exact⟨q,zg _ h1,h2⟩
 have ht:fr∉bO ns:=fun h=>by obtain⟨p,h1,h2⟩:=hs ns _ h;exact(hc p h1).2.1 h2
 have he:ar o ((fr,x)::ns) fr=x:=by show ar (cV o fr x) ns fr=x;rw[iM ht,eY]
 have hz:∀id,id∈bO ns->id≠fr:=fun id h e=>ht (e▸h);have hf:∀id,id∈bO ns->∃e,ar o ((fr,x)::ns) id=.vec e 0 false ⟨true,[]⟩:=fun id h=>hq ns _ id (fun p hp=>(hc p hp).1) h;have hv:∀id,id∈bO ns->o id=.none:=fun id h=>by obtain⟨p,h1,h2⟩:=hs ns _ h;exact h2▸(hc p h1).2.2
 refine Comes.make hm (by rw[hg];simp) (fun b hb _=>by rw[hg,Array.getElem?_push,if_neg (Nat.ne_of_lt hb)]) (fun id hk=>?_) (fun id _ hk=>?_) (fun id hk=>?_) (fun id hk hx=>?_) (fun i j hi hj hw hy _ _=>?_) (fun h1 h2 h3 id hk=>?_) (fun id hk=>?_) (fun h1 h2 h3=>ho he) still
 ·exact o6 fun e=>hk (e▸zf ..)
 ·exact o6 fun e=>hk (e▸zf ..)
 ·rcases zu.1 hk with rfl|hk
  ·rw[eY,he];exact hu _
  ·rw[hv id hk];trivial
 ·rcases zu.1 hk with rfl|hk
  ·rw[eY];exact .inl ⟨Nat.le_refl _,by rw[hg];simp⟩
  ·obtain⟨e,h⟩:=hf id hk;rw[h] at hx;simp[aX,live] at hx
 ·have key:∀i a,i∈bO ((fr,x)::ns)->aX a (ar o ((fr,x)::ns) i)=true->i=fr:=fun i a hk hx=>by
   rcases zu.1 hk with h|hk
   ·exact h
   ·obtain⟨e,h⟩:=hf i hk;rw[h] at hx;simp[aX,live] at hx
  rw[key i _ hi hw,key j _ hj hy]
 ·rcases zu.1 hk with rfl|hk
  ·rw[he];exact hl h1 h2 h3
  ·obtain⟨e,h⟩:=hf id hk;rw[h];exact⟨Nat.zero_le _,fun _=>rfl,fun h=>by simp at h⟩
 ·rcases zu.1 hk with rfl|hk
  ·rw[he,eY];exact hn
  ·obtain⟨e,h⟩:=hf id hk;rw[h];exact fun _ h=>by simp at h
theorem Comes.write(hm:MRel C X φ o w){id:Nat}{w':World}(x:Obj)(hx:aX (φ id) x=true->aX (φ id) (o id)=true)(ho:w'.heap.size=w.heap.size)(hl:∀b,¬(aX (φ id) (o id)=true/\(φ id).block=b)->w'.heap[b]?=w.heap[b]?)(hn:Up w w' (φ id) (φ id) (o id) x){v:V}{z:Value}(hf:(∀b,ah X φ o w b->ah X φ (ar o [(id,x)]) w' b)->(∀b,ah X φ o w b->w'.heap[b]?=w.heap[b]?)->(∀y z,ay φ o (ah X φ o w) w y z->ay φ (ar o [(id,x)]) (ah X φ (ar o [(id,x)]) w') w' y z)->qq φ (ar o [(id,x)]) (ah X φ (ar o [(id,x)]) w') w' id x)(hg:iL C w' (φ id) x)(hk:ar o [(id,x)] id=x->ay φ (ar o [(id,x)]) (ah X φ (ar o [(id,x)]) w') w' v z)(still:CB w w':=by exact⟨rfl,rfl⟩):Comes C X φ φ o [(id,x)] w w' v z:=by
 have he:ar o [(id,x)] id=x:=eY;have hc:∀i,i∈bO [(id,x)]->i=id:=fun i hi=>by simpa[bO] using hi
 refine Comes.make hm om (fun b _ hh=>hl b fun⟨h1,h2⟩=>hh ⟨id,by simp[bO],h1,h2⟩) (fun _ _=>rfl) (fun _ _ _=>rfl) (fun i hi=>?_) (fun i hi h=>?_) (fun i j hi hj _ _ _ _=>?_) (fun h1 h2 h3 i hi=>?_) (fun i hi=>?_) (fun _ _ _=>hk he) still
 ·rw[hc i hi,he];exact hn
 ·rw[hc i hi,he] at h;rw[hc i hi];exact .inr ⟨hx h,rfl⟩
 ·rw[hc i hi,hc j hj]
 ·rw[hc i hi,he];exact hf h1 h2 h3
 ·rw[hc i hi,he];exact hg
end
theorem qvg{z:Value}(h:z.oneCell'=true):z.cells=#[z]:=by cases z<;>first|rfl|(simp[Value.oneCell'] at h;done)
theorem qak{o:Nat->Obj}:∀{a b:List V},wo o (a++b)=true->wo o a=true/\wo o b=true
 |[],b,h=>⟨rfl,h⟩
 |x::a,b,h=>by simp only[List.cons_append,wo,zd] at h ⊢;obtain⟨h1,h2⟩:=qak h.2;exact⟨⟨h.1,h1⟩,h2⟩
section
variable {P:Program} {C:Cx} {X:Nat→Prop} {φ φ':Nat→Addr} {o o':Nat→Obj} {w w':World} {imm imm':Nat→Prop}
theorem ql3{x:V}{z:Value}(hx:ay φ o imm w x z)(h:Ji o x=true):z.oneCell'=true:=by
 cases x<;>simp only[Ji] at h<;>try (cases h;done)
 ·rename_i t d;exact Gf t d [z] (qkx h hx) z (zI.2 rfl)
 ·rename_i id ver;unfold ay at hx;split at h
  ·rename_i e;rw[e] at hx;rcases hx.2 (zh h) with ⟨_,rfl⟩|⟨_,cap,rfl,_⟩<;>rfl
  ·cases h
 ·rename_i id ver n cp;unfold ay at hx;split at h
  ·rename_i e;rw[e] at hx;rcases(hx.2 (zh h)).2.1 with ⟨_,rfl⟩|⟨_,cap,rfl,_⟩<;>rfl
  ·cases h
 ·rename_i id off;unfold ay at hx;split at h
  ·rename_i e;rw[e] at hx;simp only at hx;subst hx;rfl
  ·rename_i e;rw[e] at hx;have:=hx (zh h).symm;subst this;rfl
  ·cases h
 ·rename_i id ver i path;unfold ay at hx;split at h
  ·rename_i e;rw[e] at hx;have:=(hx.2 (zh h)).2;subst this;rfl
  ·cases h
 ·obtain⟨a,cs,rfl,_⟩:=hx;rfl
 ·have:z=.pointer none:=hx;subst this;rfl
 ·obtain⟨c,rfl,_⟩:=hx;rfl
 ·have:z=.nilFunc:=hx;subst this;rfl
 ·rename_i id;unfold ay at hx;split at h
  ·rename_i e;rw[e] at hx;simp only at hx;subst hx;rfl
  ·cases h
 ·have:z=.map none:=hx;subst this;rfl
 ·have:z=.nilIface:=hx;subst this;rfl
 ·have:z=.slice none 0 0:=hx;subst this;rfl
 ·rename_i id b;unfold ay at hx;split at h
  ·rename_i e;rw[e] at hx;simp only at hx;subst hx;cases b<;>rfl
  ·cases h
 ·rename_i id ver lo;unfold ay at hx;split at h
  ·rename_i e;rw[e] at hx;obtain⟨k,_,_,hx⟩:=hx.2 (zh h);rcases hx with ⟨_,rfl⟩|⟨_,cap,rfl,_⟩<;>rfl
  ·cases h
 ·rename_i id;unfold ay at hx;split at h
  ·rename_i e;rw[e] at hx;simp only at hx;subst hx;rfl
  ·cases h
 ·rename_i a k n;have hx:wD imm w a k n z:=hx;rcases OY a hx with ⟨rfl,_⟩|⟨_,_,rfl,_⟩<;>rfl
theorem R9:∀{cs:List V} {zs:List Value},cd φ o imm w cs zs->wo o cs=true->∀z,z∈zs->z.oneCell'=true
 |[],zs,h,_,z,hz=>by simp[cd] at h;subst h;cases hz
 |x::l,zs,⟨y,r,e,h1,h2⟩,hs,z,hz=>by
  subst e;simp only[wo,zd] at hs;rcases zu.1 hz with rfl|hz
  ·exact ql3 h1 hs.1
  ·exact R9 h2 hs.2 z hz
theorem z4a:∀(p:Ty) (x:den p) (cs:List Value),aC imm w p x cs->wo o (mf p x)=true->cd φ o imm w (mf p x) cs:=by
 have one:∀(t:Ty) (x:den t) (cs:List Value),ly t=true->aC imm w t x cs->cd φ o imm w [.d t x] cs:=by intro t x cs hs h;obtain⟨v,rfl,h2⟩:=O4 hs h;exact⟨v,[],rfl,h2,rfl⟩
 intro p
 induction p with
 |unit=>intro x cs h _;exact h
 |pair a b oz kA=>intro x cs ⟨c,d,e,h1,h2⟩ hs;subst e;obtain⟨g1,g2⟩:=qak (a:=mf a x.1) (b:=mf b x.2) hs;exact BS (oz _ _ h1 g1) (kA _ _ h2 g2)
 |st p ih=>intro x cs h hs;exact ih x cs h hs
 |arr n e _=>intro x cs h hs;simp[mf,wo,Ji,ly] at hs
 |int k=>intro x cs h _;exact one _ _ _ rfl h
 |bool=>intro x cs h _;exact one _ _ _ rfl h
 |eP=>intro x cs h _;exact one _ _ _ rfl h
 |fl=>intro x cs h _;exact one _ _ _ rfl h
 |str=>intro x cs h _;exact one _ _ _ rfl h
 |sl e _=>intro x cs h _;exact one _ _ _ rfl h
 |ks q _=>intro x cs h _;exact one (.sl (nX q)) (Cm q x) _ rfl ((Ju q x cs).1 h)
theorem Sa{x:V}{z:Value}{vs:List V}(hx:ay φ o imm w x z)(h:KK o x=some vs):cd φ o imm w vs z.cells.toList/\∀c,c∈z.cells.toList->c.oneCell'=true:=by
 unfold KK at h;split at h
 ·rename_i p y;cases hs:wo o (mf p y) with
  |false=>rw[hs] at h;cases h
  |true=>rw[hs] at h;injection h with h;subst h;obtain⟨cs,rfl,h1⟩:=hx;have:=z4a (φ:=φ) (o:=o) p y _ h1 hs;exact⟨this,R9 this hs⟩
 ·rename_i cs;cases hs:wo o cs with
  |false=>rw[hs] at h;cases h
  |true=>rw[hs] at h;injection h with h;subst h;obtain⟨c,rfl,h1⟩:=hx;exact⟨h1,R9 h1 hs⟩
 ·cases hs:Ji o x with
  |false=>rw[hs] at h;cases h
  |true=>rw[hs] at h;injection h with h;subst h;have h1:=ql3 hx hs;rw[qvg h1];exact⟨⟨z,[],rfl,hx,rfl⟩,fun c hc=>by simp at hc;subst hc;exact h1⟩
theorem Sb:∀(ns:List (Nat×Obj)) (o':Nat->Obj) (id:Nat),(∀p,p∈ns->∃e,p.2=.vec e 0 false ⟨true,[]⟩)->id∈bO ns->∃e,ar o' ns id=.vec e 0 false ⟨true,[]⟩:=by
 intro ns
 induction ns with
 |nil=>intro o' id _ h;cases h
 |cons p r ih=>
  obtain⟨i,y⟩:=p;intro o' id hc h;by_cases hr:id∈bO r
  ·exact ih _ _ (fun p hp=>hc p (zg _ hp)) hr
  ·simp only[bO,zu,hr,or_false] at h;subst h;show ∃e,ar (cV o' id y) r id=_;rw[iM hr,eY];exact hc _ (zf ..)
theorem Pf:∀{ns:List (Nat×Obj)} {p},p∈ns->p.1∈bO ns
 |q::r,p,h=>by
  rcases zu.1 h with rfl|h
  ·exact zf ..
  ·exact zg _ (Pf h)
theorem Pg:∀(cs:List V) (sl:List (Option Ty)) (i:Nat),(∀p,p∈(oX i cs sl).2->(∃e,p.2=.vec e 0 false ⟨true,[]⟩)/\i<=p.1/\p.1<i+wu cs)/\(∀zs,cd φ o imm w cs zs->(∀y z,ay φ o imm w y z->ay φ' o' imm' w' y z)->(∀p,p∈(oX i cs sl).2->∃e,o' p.1=.vec e 0 false ⟨true,[]⟩)->cd φ' o' imm' w' (oX i cs sl).1 zs):=by
 intro cs
 induction cs with
 |nil=>
  intro sl i;have e:oX i [] sl=([],[]):=by cases sl<;>rfl
  rw[e];exact⟨(fun p hp=>by cases hp),fun zs h _ _=>h⟩
 |cons c cs ih=>
  intro sl i;cases sl with
  |nil=>
   have e:oX i (c::cs) []=(c::cs,[]):=by cases c<;>rfl
   rw[e];exact⟨(fun p hp=>by cases hp),fun zs h hk _=>Ff hk _ _ h⟩
  |cons s sl=>
   have other:oX i (c::cs) (s::sl)=(c::(oX i cs sl).1,(oX i cs sl).2)->(∀p,p∈(oX i (c::cs) (s::sl)).2->(∃e,p.2=.vec e 0 false ⟨true,[]⟩)/\i<=p.1/\p.1<i+wu (c::cs))/\
     (∀zs,cd φ o imm w (c::cs) zs->(∀y z,ay φ o imm w y z->ay φ' o' imm' w' y z)->(∀p,p∈(oX i (c::cs) (s::sl)).2->∃e,o' p.1=.vec e 0 false ⟨true,[]⟩)->
      cd φ' o' imm' w' (oX i (c::cs) (s::sl)).1 zs):=by
    intro e;rw[e];obtain⟨h1,h2⟩:=ih sl i;refine⟨fun p hp=>?_,fun zs ⟨z,r,e1,h3,h4⟩ hk ho=>⟨z,r,e1,hk _ _ h3,h2 _ h4 hk ho⟩⟩;obtain⟨g1,g2,g3⟩:=h1 p hp;refine⟨g1,g2,?_⟩;have:wu cs<=wu (c::cs):=by cases c<;>simp[wu]
    omega
   cases c<;>try exact other rfl
   cases s with
   |none=>exact other rfl
   |some e=>
    obtain⟨h1,h2⟩:=ih sl (i+1);show(∀p,p∈((i,Obj.vec e 0 false ⟨true,[]⟩)::(oX (i+1) cs sl).2)->_)/\_;refine⟨fun p hp=>?_,fun zs ⟨z,r,e1,h3,h4⟩ hk ho=>?_⟩
    ·rcases zu.1 hp with rfl|hp
     ·exact⟨⟨e,rfl⟩,Nat.le_refl _,by simp[wu]⟩
     ·obtain⟨g1,g2,g3⟩:=h1 p hp;refine⟨g1,by omega,?_⟩;simp only[wu];omega
    ·refine⟨z,r,e1,?_,h2 _ h4 hk fun p hp=>ho p (zg _ hp)⟩;obtain⟨e',hc⟩:=ho (i,.vec e 0 false ⟨true,[]⟩) (zf ..);unfold ay;simp only at hc;rw[hc];exact⟨Nat.le_refl _,fun _=>.inl ⟨rfl,h3⟩⟩
theorem Ph(hC:cw C){t:TypeId}{e:Ty}(h:C.ty t=some e)(he:e=.int .u8):C.P.underlying t=some (.int .u8):=by
 subst he;obtain⟨d,h0,h1,h2⟩:=(hC.ef _ _ h).desc;clear h0;have hd:d=.int .u8:=by
  clear h1;cases d<;>simp only[oA] at h2<;>try (cases h2;done)
  rename_i k;cases k<;>first|rfl|(simp[tl] at h2;done)
 rw[h1,hd]
theorem qd0{e:Ty}(h:Ou e=true)(he:e=.int .u8):False:=by subst he;cases h
theorem qnz{cs vs:List V}{off:Nat}(h:pP (Jj cs off vs)=true)(hv:pP vs=false):pP cs=true:=by
 unfold Jj at h;cases off with
 |zero=>
  cases vs with
  |nil=>simpa using h
  |cons v r=>rw[List.take_zero,List.nil_append] at h;cases v<;>first|(cases h;done)|(cases hv;done)
 |succ n=>
  cases cs with
  |nil=>cases vs with
   |nil=>simp[pP] at h
   |cons v r=>rw[List.take_nil,List.nil_append] at h;cases v<;>first|(cases h;done)|(cases hv;done)
  |cons c cs=>cases c<;>first|rfl|(cases h;done)
theorem eU.setRow{b:Nat}{c:Array Value}{el:TypeId}{fz:Nat×Nat}(h:w.heap[b]?=some (.cells c el fz)){cs:Array Value}(hs:cs.size=c.size):eU w (w.setRow b cs) b:=fun c0 el0 fz0 e=>by rw[h] at e;injection e with e;injection e with e1 e2 e3;subst e1 e2 e3;exact⟨cs,Pc h cs,hs⟩
theorem eU.ov{b:Nat}{c:Array Value}{el:TypeId}{fz:Nat×Nat}(h:w.heap[b]?=some (.cells c el fz)){off:Nat}{ds:List Value}(hb:off+ds.length<=c.size):eU w (w.setRow b (ov c.toList off ds).toArray) b:=.setRow h (by have:=R8 c.toList off ds (by simpa using hb);simpa using this)
theorem Pj(hm:MRel C X φ o w){id:Nat}{e:Ty}{v v':Nat}{f f':Bool}{s s':Sl (den e)}(ho:o id=.vec e v f s)(hn:s.nil=false)(hk:eU w w' (φ id).block):iL C w' (φ id) (.vec e v' f' s'):=fun ht _=>by have:=hm.u0 id;rw[ho] at this;obtain⟨c,el,fz,h1,h2,h4⟩:=this ht hn;obtain⟨c',h3,h5⟩:=hk _ _ _ h1;exact⟨c',el,fz,h3,h2,by rw[h5];exact h4⟩
theorem z4b(hm:MRel C X φ o w){id:Nat}{cs lB:List V}(ho:o id=.box cs)(hs:pP lB=true->pP cs=true)(hk:eU w w' (φ id).block):iL C w' (φ id) (.box lB):=fun h=>by have:=hm.u0 id;rw[ho] at this;obtain⟨c,el,fz,h1,h3⟩:=this (hs h);obtain⟨c',h2,h4⟩:=hk _ _ _ h1;exact⟨c',el,fz,h2,by rw[h4];exact h3⟩
theorem ql4(hm:MRel C X φ o w){fr:Nat}{t el:TypeId}{cs:List V}{zs:Array Value}{v:V}{u:List (Nat×Obj)}(hr:cd φ o (ah X φ o w) w cs zs.toList)(h:(OE C fr t cs).gives v u)(hf:kC fr o u):dR C X φ o w v u (do pure (.pointer (some (<-newRow el zs)))):=by
 unfold OE at h;have main:∀(lB:List V) (ns:List (Nat×Obj)),(∀p,p∈ns->(∃e,p.2=.vec e 0 false ⟨true,[]⟩)/\fr+1<=p.1/\p.1<fr+16)->
   (∀(φ':Nat->Addr) (o':Nat->Obj) (imm':Nat->Prop) (w':World),(∀y z,ay φ o (ah X φ o w) w y z->ay φ' o' imm' w' y z)->(∀p,p∈ns->∃e,o' p.1=.vec e 0 false ⟨true,[]⟩)->cd φ' o' imm' w' lB zs.toList)->pP lB=false->
   kC fr o ((fr,.box lB)::ns)->dR C X φ o w (.ptr fr 0) ((fr,.box lB)::ns) (do pure (.pointer (some (<-newRow el zs)))):=by
  intro lB ns h1 h2 hs hf;refine⟨.pointer (some ⟨w.heap.size,0,none⟩),w.alloc (.cells zs el),cV φ fr ⟨w.heap.size,0,none⟩,by simp[newRow],?_⟩;have hc:o fr=.none:=hf _ (zf ..) (Nat.le_refl _) (by show fr<fr+16;omega);refine Comes.fresh hm (B:=.cells zs el) rfl (.box lB) (fun p hp=>?_) (fun _=>by rw[hc];trivial) (fun h3 h4 h5=>?_) (fun h=>by rw[hs] at h;cases h) (fun h3=>?_)
  ·obtain⟨g1,g2,g3⟩:=h1 p hp;exact⟨g1,by omega,hf p (zg _ hp) om g3⟩
  ·refine⟨by rw[eY],zs,el,0,0,?_,Nat.le_refl _,h2 _ _ _ _ h5 fun p hp=>?_⟩
   ·rw[eY];exact heap_alloc_new w _
   ·exact Sb ns _ p.1 (fun q hq=>(h1 q hq).1) (Pf hp)
  ·unfold ay;rw[h3,eY]
 cases hb:Nat.ble (wu cs) 14 with
 |true=>
  rw[hb] at h;simp only[cond_true,dN,dJ] at h;obtain⟨hs,rfl,rfl⟩:=h;have hs:pP (oX (fr+1) cs (yc C 8 t)).1=false:=by simpa using hs
  have hb:=zH hb;refine main _ _ (fun p hp=>?_) (fun φ' o' imm' w' hk hn=>(Pg (φ':=φ') (o':=o') (imm':=imm') (w':=w') cs (yc C 8 t) (fr+1)).2 _ hr hk hn) hs hf;obtain⟨g1,g2,g3⟩:=(Pg (φ:=φ) (o:=o) (imm:=ah X φ o w) (w:=w) (φ':=φ) (o':=o) (imm':=ah X φ o w) (w':=w) cs (yc C 8 t) (fr+1)).1 p hp;exact⟨g1,g2,by omega⟩
 |false=>rw[hb] at h;simp only[cond_false,dN,dJ] at h;obtain⟨hs,rfl,rfl⟩:=h;exact main cs [] (fun p hp=>by cases hp) (fun φ' o' imm' w' hk _=>Ff hk _ _ hr) (by simpa using hs) hf
theorem qvh(hm:MRel C X φ o w){fr:Nat}{cs:List V}{zs:Array Value}{v:V}{u:List (Nat×Obj)}(hr:cd φ o (ah X φ o w) w cs zs.toList)(h:(Rj fr cs).gives v u)(hf:kC fr o u):dR C X φ o w v u (do pure (.pointer (some (<-newRow C.EW zs)))):=by
 unfold Rj at h;split at h
 ·rw[dJ] at h;obtain⟨rfl,rfl⟩:=h;obtain⟨z1,r1,e1,a1,z2,r2,e2,a2,a3⟩:=hr;have a1:z1=.pointer none:=a1;have a2:z2=.slice none 0 0:=a2;have a3:r2=[]:=a3;subst e2 a1 a2 a3;refine⟨.pointer (some ⟨w.heap.size,0,none⟩),w.alloc (.cells zs C.EW),cV φ fr ⟨w.heap.size,0,none⟩,by simp[newRow],?_⟩;have he:o fr=.none:=hf _ (zf ..) (Nat.le_refl _) (by show fr<fr+16;omega);have hc:o (fr+1)=.none:=hf (fr+1,_) (zg _ (zf ..)) (by show fr<=fr+1;omega) (by show fr+1<fr+16;omega);have g0:ar o [(fr,Obj.box [.iH fr false,.cR (fr+1) 0]),(fr+1,.vec (.int .u8) 0 false ⟨true,[]⟩)] fr=.box [.iH fr false,.cR (fr+1) 0]:=by show cV (cV o fr _) (fr+1) _ fr=_;rw[o6 om,eY]
  have g1:ar o [(fr,Obj.box [.iH fr false,.cR (fr+1) 0]),(fr+1,.vec (.int .u8) 0 false ⟨true,[]⟩)] (fr+1)=.vec (.int .u8) 0 false ⟨true,[]⟩:=by show cV (cV o fr _) (fr+1) _ (fr+1)=_;rw[eY]
  refine Comes.fresh hm (B:=.cells zs C.EW) rfl (.box [.iH fr false,.cR (fr+1) 0]) (fun p hp=>?_) (fun _=>by rw[he];trivial) (fun h3 h4 h5=>?_) (fun _=>⟨zs,C.EW,(0,0),heap_alloc_new w _,.inl ⟨rfl,by rw[<-Array.length_toList,e1];rfl⟩⟩) (fun h3=>?_)
  ·rw[zI] at hp;subst hp;exact⟨⟨_,rfl⟩,by show fr+1≠fr;omega,hc⟩
  ·refine⟨by rw[eY],zs,C.EW,0,0,?_,Nat.le_refl _,?_⟩
   ·rw[eY];exact heap_alloc_new w _
   ·rw[e1];refine⟨_,_,rfl,?_,_,_,rfl,?_,rfl⟩
    ·unfold ay;rw[g0];rfl
    ·unfold ay;rw[g1];exact⟨Nat.le_refl _,fun _=>.inl ⟨rfl,rfl⟩⟩
  ·unfold ay;rw[h3,eY]
 ·cases h
theorem ql5(hm:MRel C X φ o w){fr:Nat}{cs:List V}{zs:Array Value}{v:V}{u:List (Nat×Obj)}(hr:cd φ o (ah X φ o w) w cs zs.toList)(h:(OF fr cs).gives v u)(hf:kC fr o u):dR C X φ o w v u (do pure (.pointer (some (<-newRow C.xZ zs)))):=by
 unfold OF at h;split at h
 ·rename_i s x t y;rw[dN,dJ,zd] at h;obtain⟨⟨hg,hj⟩,rfl,rfl⟩:=h;obtain⟨z1,r1,e1,a1,z2,r2,e2,a2,z3,r3,e3,a3,z4,r4,e4,a4,a5⟩:=hr;have a1:z1=.pointer none:=a1;have a2:z2=.slice none 0 0:=a2;have a5:r4=[]:=a5;have b3:aZ (ah X φ o w) w s x z3:=a3;have b4:aZ (ah X φ o w) w t y z4:=a4;subst e2 e3 e4 a1 a2 a5;refine⟨.pointer (some ⟨w.heap.size,0,none⟩),w.alloc (.cells zs C.xZ),cV φ fr ⟨w.heap.size,0,none⟩,by simp[newRow],?_⟩;have he:o fr=.none:=hf _ (zf ..) (Nat.le_refl _) (by show fr<fr+16;omega);have hc:o (fr+1)=.none:=hf (fr+1,_) (zg _ (zf ..)) (by show fr<=fr+1;omega) (by show fr+1<fr+16;omega);have g0:ar o [(fr,Obj.box [.iH fr false,.cR (fr+1) 0,.d s x,.d t y]),(fr+1,.vec (.int .u8) 0 false ⟨true,[]⟩)] fr=.box [.iH fr false,.cR (fr+1) 0,.d s x,.d t y]:=by show cV (cV o fr _) (fr+1) _ fr=_;rw[o6 om,eY]
  have g1:ar o [(fr,Obj.box [.iH fr false,.cR (fr+1) 0,.d s x,.d t y]),(fr+1,.vec (.int .u8) 0 false ⟨true,[]⟩)] (fr+1)=.vec (.int .u8) 0 false ⟨true,[]⟩:=by show cV (cV o fr _) (fr+1) _ (fr+1)=_;rw[eY]
  refine Comes.fresh hm (B:=.cells zs C.xZ) rfl (.box [.iH fr false,.cR (fr+1) 0,.d s x,.d t y]) (fun p hp=>?_) (fun _=>by rw[he];trivial) (fun h3 h4 h5=>?_) (fun _=>⟨zs,C.xZ,(0,0),heap_alloc_new w _,.inr ⟨rfl,by rw[<-Array.length_toList,e1];rfl⟩⟩) (fun h3=>?_)
  ·rw[zI] at hp;subst hp;exact⟨⟨_,rfl⟩,by show fr+1≠fr;omega,hc⟩
  ·refine⟨by rw[eY],zs,C.xZ,0,0,?_,Nat.le_refl _,?_⟩
   ·rw[eY];exact heap_alloc_new w _
   ·rw[e1];refine⟨_,_,rfl,?_,_,_,rfl,?_,_,_,rfl,?_,_,_,rfl,?_,rfl⟩
    ·unfold ay;rw[g0];rfl
    ·unfold ay;rw[g1];exact⟨Nat.le_refl _,fun _=>.inl ⟨rfl,rfl⟩⟩
    ·exact h5 _ _ a3
    ·exact h5 _ _ a4
  ·unfold ay;rw[h3,eY]
 ·cases h
theorem Gg(hm:MRel C X φ o w){fr ver cap lo hi:Nat}{e:Ty}{l:List (den e)}{c:Array Value}{el:TypeId}{w':World}{ec rest:List Value}(hg:w'.heap=w.heap.push (.cells c el (lo,hi)))(hk:∀w',Up w w' (φ fr) ⟨w.heap.size,0,none⟩ (o fr) (.vec e ver false ⟨false,l⟩))(hc:c.toList=ec++rest)(hr:bG (aC (ah X φ o w) w e) l ec)(he:c.size=cap*aN e)(hj:l.length<=cap)(hl:l.length<=cC)(ho:lo=hi\/c.size<=lo)(hq:e=.int .u8->C.P.underlying el=some (.int .u8))(still:CB w w':=by exact⟨rfl,rfl⟩):
  Comes C X φ (cV φ fr ⟨w.heap.size,0,none⟩) o [(fr,.vec e ver false ⟨false,l⟩)] w w' (.cR fr ver) (.slice (some ⟨w.heap.size,0,none⟩) l.length cap)/\
  Comes C X φ (cV φ fr ⟨w.heap.size,0,none⟩) o [(fr,.vec e ver false ⟨false,l⟩)] w w' (.ptr fr 0) (.pointer (some ⟨w.heap.size,0,none⟩)):=by
 have hh:w'.heap[w.heap.size]?=some (.cells c el (lo,hi)):=by rw[hg];simp
 have hf:∀n,n<=c.size->room w' ⟨w.heap.size,0,none⟩ n:=fun n hn=>⟨c,el,lo,hi,hh,by simpa using hn,by simp only[zN];omega⟩;have hs:=pS hr;have hu:l.length*aN e<=c.size:=by rw[he];exact Nat.mul_le_mul_right _ hj
 have both:∀v z,(ar o [(fr,Obj.vec e ver false ⟨false,l⟩)] fr=.vec e ver false ⟨false,l⟩->ay (cV φ fr ⟨w.heap.size,0,none⟩) (ar o [(fr,.vec e ver false ⟨false,l⟩)]) (ah X (cV φ fr ⟨w.heap.size,0,none⟩) (ar o [(fr,.vec e ver false ⟨false,l⟩)]) w') w' v z)->
   Comes C X φ (cV φ fr ⟨w.heap.size,0,none⟩) o [(fr,.vec e ver false ⟨false,l⟩)] w w' v z:=by
  intro v z hv;refine Comes.fresh hm hg (.vec e ver false ⟨false,l⟩) (ns:=[]) (fun p hp=>by cases hp) hk (fun h3 h4 h5=>?_) (fun ht _=>⟨c,el,(lo,hi),hh,hq ht,ho⟩) hv still;refine⟨hl,by simp,fun _=>.inl ⟨by rw[eY],ec,oY (iF h3 h4 e) hr,?_,?_,fun _=>?_,by simp⟩⟩
  ·rw[eY];have:=Lh hh 0 ec.length;rw[List.drop_zero,hc,List.take_left'] at this
   ·exact this
   ·rfl
  ·rw[eY];exact hf 0 (Nat.zero_le _)
  ·rw[eY];exact hf _ hu
 refine⟨both _ _ fun h3=>?_,both _ _ fun h3=>?_⟩
 ·unfold ay;rw[h3,eY];exact⟨Nat.le_refl _,fun _=>.inr ⟨rfl,cap,rfl,hj,fun h=>by simp at h,fun _ _=>hf _ (by rw[he];exact Nat.le_refl _)⟩⟩
 ·unfold ay;rw[h3,eY];exact fun _=>rfl
theorem Ll:∀(zs:List Value),cd φ o imm w (zs.map EX) zs
 |[]=>rfl
 |z::zs=>⟨z,zs,rfl,RR z,Ll zs⟩
theorem qh2{t:TypeId}{cs:List V}(h:OB C t=some cs):∃i z,C.P.info? t=some i/\i.zero=some z/\cs=z.cells.toList.map EX:=by
 unfold OB at h;split at h
 ·rename_i i e;split at h
  ·rename_i z hz;exact⟨i,z,K7 e,hz,(zG h).symm⟩
  ·cases h
 ·cases h
theorem JH{fr:Nat}{a:Addr}{x:Obj}(h:o fr=.none):∀w',Up w w' (φ fr) a (o fr) x:=fun _=>by rw[h];trivial
theorem qsf(hC:cw C)(hm:MRel C X φ o w){fr:Nat}{t:TypeId}{v:V}{u:List (Nat×Obj)}(h:(Rl C fr t).gives v u)(hf:kC fr o u)(cE:Value):dR C X φ o w v u (Instr.alloc t true cE):=by
 unfold Rl at h;split at h
 ·rename_i n e he;rw[dN,dJ,zd,zd] at h;obtain⟨⟨⟨h1,hj⟩,hk⟩,rfl,rfl⟩:=h;have hl:o fr=.none:=hf _ (zf ..) (Nat.le_refl _) (by show fr<fr+16;omega);have hT:=hC.ef _ _ he;obtain⟨i,z,k1,_,k2,k3,k4,k5,k6⟩:=hT.info;have hz:=k6 (ah X φ o w) w;obtain⟨hn,hg⟩:=hz;have hc:=pS hg;refine⟨.pointer (some ⟨w.heap.size,0,none⟩),w.alloc (.cells z.cells t),_,by simp[Instr.alloc,yi k1 k4,newVar,newRow],
   (Gg hm (c:=z.cells) (el:=t) (lo:=0) (hi:=0) (cap:=n) (ec:=z.cells.toList) (rest:=[]) rfl (JH hl) (by simp) ?_ ?_ (by simp) ?_ (.inl rfl) (fun he=>(qd0 hk he).elim)).2⟩
  ·simpa[zero] using hg
  ·have e1:List.length (zero (.arr n e))=n:=hn;rw[e1] at hc;simpa using hc
  ·have:=zH hj;simp;unfold cC;omega
 ·split at h
  ·rename_i cs ho;obtain⟨i,z,k1,k2,rfl⟩:=qh2 ho;cases hb:Nat.beq t C.EW with
   |false=>
    rw[hb,cond_false] at h;cases hp:Nat.beq t C.xZ with
    |true=>rw[hp,cond_true] at h;have hp:=zh hp;obtain⟨val,w',φ',g1,g2⟩:=ql5 hm (zs:=z.cells) (Ll _) h hf;refine⟨val,w',φ',?_,g2⟩;rw[<-g1,<-hp];simp[Instr.alloc,yi k1 k2,newVar]
    |false=>rw[hp,cond_false] at h;obtain⟨val,w',φ',g1,g2⟩:=ql4 hm (el:=t) (zs:=z.cells) (Ll _) h hf;refine⟨val,w',φ',?_,g2⟩;rw[<-g1];simp[Instr.alloc,yi k1 k2,newVar]
   |true=>rw[hb,cond_true] at h;have hb:=zh hb;obtain⟨val,w',φ',g1,g2⟩:=qvh hm (zs:=z.cells) (Ll _) h hf;refine⟨val,w',φ',?_,g2⟩;rw[<-g1,<-hb];simp[Instr.alloc,yi k1 k2,newVar]
  ·cases h
theorem z0d(hm:MRel C X φ o w){fr:Nat}{t:TypeId}{x:V}{z:Value}{v:V}{u:List (Nat×Obj)}(hx:ay φ o (ah X φ o w) w x z)(h:(Rm C o fr t x).gives v u)(hf:kC fr o u):dR C X φ o w v u (Instr.box t z):=by
 unfold Rm at h;split at h
 ·rename_i n e l;rw[dN,dJ,zd,zd] at h;obtain⟨⟨⟨h1,hg⟩,hj⟩,rfl,rfl⟩:=h;have hk:o fr=.none:=hf _ (zf ..) (Nat.le_refl _) (by show fr<fr+16;omega);obtain⟨cs,rfl,hl,hr⟩:=hx;have hl:List.length l=n:=hl;have hc:=pS hr;refine⟨.pointer (some ⟨w.heap.size,0,none⟩),w.alloc (.cells cs t),_,by simp[Instr.box,newVar,newRow,Value.cells],
   (Gg hm (c:=cs) (el:=t) (lo:=0) (hi:=0) (cap:=n) (ec:=cs.toList) (rest:=[]) rfl (JH hk) (by simp) hr ?_ ?_ ?_ (.inl rfl) (fun he=>(qd0 hj he).elim)).2⟩
  ·rw[hl] at hc;simpa using hc
  ·omega
  ·have:=zH hg;unfold cC;omega
 ·split at h
  ·rename_i cs hn;obtain⟨g1,g2⟩:=Sa hx hn;cases hp:Nat.beq t C.xZ with
   |true=>rw[hp,cond_true] at h;have hp:=zh hp;subst hp;exact ql5 hm (zs:=z.cells) g1 h hf
   |false=>rw[hp,cond_false] at h;exact ql4 hm (el:=t) (zs:=z.cells) g1 h hf
  ·cases h
end
end Ev