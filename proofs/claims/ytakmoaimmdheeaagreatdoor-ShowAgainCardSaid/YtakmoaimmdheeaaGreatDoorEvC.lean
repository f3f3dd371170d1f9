/- Operations are sound: reading, fields, indices, slices, boxes. No statement of its own about the program. -/
import Derived.Test.YtakmoaimmdheeaaGreatDoorEvB
import Derived.Laws.AppendOwn
import Derived.Laws.CopyRow
import Derived.Laws.MakeOwn
import Derived.Laws.BytesString
import Derived.Laws.IdiomCopy
import Derived.Laws.IdiomStrings
namespace Ev
open Go
theorem eH{α:Type}{f:Nat->α}{i:Nat}{x:α}:cu f i x i=x:=by simp[cu]
theorem iI{α:Type}{f:Nat->α}{i j:Nat}{x:α}(h:j≠i):cu f i x j=f j:=by
 unfold cu;have:Nat.beq j i=false:=by
  cases e:Nat.beq j i with
  |false=>rfl
  |true=>exact absurd (zm e) h
 rw[this];rfl
theorem iq:∀{u:List (Nat×Obj)} {o:Nat->Obj} {id:Nat},id∉bW u->ak o u id=o id
 |[],_,_,_=>rfl
 |(i,x)::r,o,id,h=>by simp only[bW,zw,not_or] at h;show ak (cu o i x) r id=_;rw[iq h.2,iI h.1]
theorem Xv{α:Type}:∀(u u':List (Nat×α)) (o:Nat->α),ak o (u++u')=ak (ak o u) u'
 |[],_,_=>rfl
 |(i,x)::r,u',o=>Xv r u' (cu o i x)
theorem Jd:∀(u u':List (Nat×Obj)),bW (u++u')=bW u++bW u'
 |[],_=>rfl
 |(i,x)::r,u'=>by simp[bW,Jd r u']
theorem Up.trans{w w' HH:World}{a a' Xw:Addr}{x y z:Obj}(h:Up w w' a a' x y)(h':Up w' HH a' Xw y z):Up w HH a Xw x z:=by
 cases x with
 |none=>trivial
 |dead=>cases y<;>simp only[Up] at h<;>cases z<;>simp only[Up] at h' ⊢
 |box cs=>cases y<;>simp only[Up] at h<;>cases z<;>simp only[Up] at h' ⊢;rw[h',h]
 |map k v m=>cases y<;>simp only[Up] at h<;>cases z<;>simp only[Up] at h' ⊢;rw[h',h]
 |iter s p=>cases y<;>simp only[Up] at h<;>cases z<;>simp only[Up] at h' ⊢;rw[h',h]
 |vec t ver fr s=>
  cases y<;>simp only[Up] at h<;>cases z<;>simp only[Up] at h' ⊢;rcases h with h|⟨h1,h2,h3,h4,h5,h6⟩<;>rcases h' with h'|⟨g1,g2,g3,g4,g5,g6⟩
  ·exact .inl om
  ·exact .inl om
  ·exact .inl om
  ·refine .inr ⟨by omega,h2.trans g2,h3.trans g3,h4.trans g4,g5.trans h5,fun hf=>?_⟩;obtain⟨g7,g8⟩:=g6 hf;obtain⟨h7,h8⟩:=h6 g7;refine⟨h7,fun hn hs n hr=>?_⟩;have:=g8 (h3▸hn) (by rw[h5];exact hs) n (by rw[h5];exact h8 hn hs n hr);rw[h5] at this;exact this
section
variable {C:Cx} {X:Nat→Prop} {φ φ' gN:Nat→Addr} {o:Nat→Obj} {w w' HH:World} {u u':List (Nat×Obj)} {v v':V} {z z':Value}
theorem Dh{α β:Type}{f f':α->Value->Prop}{g g':β->Value->Prop}(hf:∀x v,f x v->f' x v)(hg:∀x v,g x v->g' x v):∀{l:List (α×β)} {es:List MapEntry},vi f g l es->vi f' g' l es
 |[],_,h=>h
 |_::_,_,⟨e,r,h1,h2,h3,h4⟩=>⟨e,r,h1,hf _ _ h2,hg _ _ h3,Dh hf hg h4⟩
theorem Eu{imm imm':Nat->Prop}{o':Nat->Obj}(h:∀x z,aq φ o imm w x z->aq φ' o' imm' w' x z):∀(l:List V) (zs:List Value),cd φ o imm w l zs->cd φ' o' imm' w' l zs
 |[],_,h1=>h1
 |_::l,_,⟨a,r,h1,h2,h3⟩=>⟨a,r,h1,h _ _ h2,Eu h l _ h3⟩
theorem Ew{imm imm':Nat->Prop}{o':Nat->Obj}(hi:∀b,imm b->imm' b)(hw:∀b,imm b->w'.heap[b]?=w.heap[b]?)(hk:∀x z,aq φ o imm w x z->aq φ' o' imm' w' x z){id:Nat}{x:Obj}(hp:φ' id=φ id)(hb:aP (φ id) x=true->w'.heap[(φ id).block]?=w.heap[(φ id).block]?)(h:oV φ o imm w id x):oV φ' o' imm' w' id x:=by
 cases x with
 |dead=>trivial
 |none=>trivial
 |box cs=>obtain⟨h1,c,el,lo,he,h2,h3,h4⟩:=h;refine⟨by rw[hp];exact h1,c,el,lo,he,?_,h3,Eu hk _ _ h4⟩;rw[hp,hb rfl,h2]
 |map k v m=>obtain⟨es,clock,h1,h2⟩:=h;refine⟨es,clock,by rw[hp,hb rfl,h1],Dh (rf hi hw _) (rf hi hw _) h2⟩
 |iter l p=>obtain⟨s,n,h1,h2,h3,h4⟩:=h;exact⟨s,n,by rw[hp,hb rfl,h1],h2,h3,h4⟩
 |vec t ver fr s=>
  obtain⟨h1,h2,h3⟩:=h;refine⟨h1,h2,fun hn=>?_⟩;rw[hp];refine(h3 hn).imp (fun⟨h4,ec,h5,h6,h7,h8,h9⟩=>?_) fun g=>g;have hc:w'.heap[(φ id).block]?=w.heap[(φ id).block]?:=by
   cases fr with
   |false=>exact hb (qM hn h4)
   |true=>exact hw _ (h9 rfl)
  exact⟨h4,ec,nh (gX hi hw t) h5,Hv hc h6,A5 hc h7,fun hf=>A5 hc (h8 hf),fun hf=>hi _ (h9 hf)⟩
theorem MRel.A6(hm:MRel C X φ o w){ks:List Nat}{id:Nat}(hx:aP (φ id) (o id)=true)(hk:id∉ks):¬hit ks φ o (φ id).block:=fun⟨j,h1,h2,h3⟩=>hk (hm.inj j id h2 hx h3▸h1)
theorem Comes.make(hm:MRel C X φ o w)(size:w.heap.size<=w'.heap.size)(frame:∀b,b<w.heap.size->¬hit (bW u) φ o b->w'.heap[b]?=w.heap[b]?)(nU:∀id,id∉bW u->φ' id=φ id)(P7:∀id,o id≠.none->id∉bW u->φ' id=φ id)(up:∀id,id∈bW u->Up w w' (φ id) (φ' id) (o id) (ak o u id))(place:∀id,id∈bW u->aP (φ' id) (ak o u id)=true->(w.heap.size<=(φ' id).block/\(φ' id).block<w'.heap.size)\/(aP (φ id) (o id)=true/\(φ' id).block=(φ id).block))(apart:∀i j,i∈bW u->j∈bW u->aP (φ' i) (ak o u i)=true->aP (φ' j) (ak o u j)=true->w.heap.size<=(φ' i).block->(φ' i).block=(φ' j).block->i=j)(obj:(∀b,ah X φ o w b->ah X φ' (ak o u) w' b)->(∀b,ah X φ o w b->w'.heap[b]?=w.heap[b]?)->(∀x z,aq φ o (ah X φ o w) w x z->aq φ' (ak o u) (ah X φ' (ak o u) w') w' x z)->∀id,id∈bW u->oV φ' (ak o u) (ah X φ' (ak o u) w') w' id (ak o u id))(oW:∀id,id∈bW u->ik C w' (φ' id) (ak o u id))(val:(∀b,ah X φ o w b->ah X φ' (ak o u) w' b)->(∀b,ah X φ o w b->w'.heap[b]?=w.heap[b]?)->(∀x z,aq φ o (ah X φ o w) w x z->aq φ' (ak o u) (ah X φ' (ak o u) w') w' x z)->aq φ' (ak o u) (ah X φ' (ak o u) w') w' v z)(still:tR w w':=by exact⟨rfl,rfl⟩):Comes C X φ φ' o u w w' v z:=by
 have bl:∀id,id∉bW u->aP (φ id) (o id)=true->w'.heap[(φ id).block]?=w.heap[(φ id).block]?:=fun id hk hx=>frame _ (hm.sep id hx).1 (hm.A6 hx hk);have stays:∀b,ah X φ o w b->w'.heap[b]?=w.heap[b]?:=fun b hb=>frame b hb.1 fun⟨id,_,e1,e2⟩=>hb.2.2 ⟨id,e1,e2⟩;have Di:∀id,Up w w' (φ id) (φ' id) (o id) (ak o u id):=fun id=>by
  by_cases hk:id∈bW u
  ·exact up id hk
  ·rw[nU id hk,iq hk];exact Up.same fun hx n hr=>A5 (bl id hk hx) hr
 have news:∀id,aP (φ' id) (ak o u id)=true->w.heap.size<=(φ' id).block\/mw φ o (φ' id).block:=fun id hx=>by
  by_cases hk:id∈bW u
  ·rcases place id hk hx with h|⟨h,e⟩
   ·exact .inl h.1
   ·exact .inr ⟨id,h,e.symm⟩
  ·rw[iq hk,nU id hk] at hx;exact .inr ⟨id,hx,by rw[nU id hk]⟩
 have imm:∀b,ah X φ o w b->ah X φ' (ak o u) w' b:=fun b ⟨h1,h2,h3⟩=>
  ⟨Nat.lt_of_lt_of_le h1 size,h2,fun⟨id,e1,e2⟩=>by
   rcases news id e1 with e3|e3
   ·omega
   ·exact h3 (e2▸e3)⟩
 have keeps:∀x z,aq φ o (ah X φ o w) w x z->aq φ' (ak o u) (ah X φ' (ak o u) w') w' x z:=fun x z h=>vj imm stays Di x z h;have pl:∀id,aP (φ' id) (ak o u id)=true->(w.heap.size<=(φ' id).block/\(φ' id).block<w'.heap.size)\/(aP (φ id) (o id)=true/\(φ' id).block=(φ id).block):=fun id hx=>by
  by_cases hk:id∈bW u
  ·exact place id hk hx
  ·rw[iq hk,nU id hk] at hx;exact .inr ⟨hx,by rw[nU id hk]⟩
 refine⟨⟨fun id=>?_,fun i j hi hj e=>?_,fun i hi=>?_,fun b hb=>Nat.lt_of_lt_of_le (hm.xs b hb) size,fun id=>?_,fun g t x hg=>keeps _ _ (hm.fk g t x hg),hm.ni stays⟩,val imm stays keeps,Di,size,frame,P7,news,still⟩
 ·by_cases hk:id∈bW u
  ·exact obj imm stays keeps id hk
  ·rw[iq hk];exact Ew imm stays keeps (nU id hk) (bl id hk) (hm.ay id)
 ·rcases pl i hi with hc|hc<;>rcases pl j hj with he|he
  ·by_cases ki:i∈bW u
   ·by_cases kj:j∈bW u
    ·exact apart i j ki kj hi hj hc.1 e
    ·rw[iq kj,nU j kj] at hj;have:=(hm.sep j hj).1;rw[<-nU j kj] at this;omega
   ·rw[iq ki,nU i ki] at hi;have:=(hm.sep i hi).1;rw[<-nU i ki] at this;omega
  ·have:=(hm.sep j he.1).1;omega
  ·have:=(hm.sep i hc.1).1;omega
  ·exact hm.inj i j hc.1 he.1 (by rw[<-hc.2,<-he.2,e])
 ·rcases pl i hi with hc|hc
  ·exact⟨hc.2,fun hx=>by have:=hm.xs _ hx;omega⟩
  ·obtain⟨h1,h2⟩:=hm.sep i hc.1;rw[hc.2];exact⟨by omega,h2⟩
 ·by_cases hk:id∈bW u
  ·exact oW id hk
  ·rw[nU id hk,iq hk];refine(hm.oW id).bH (fun hx=>.same (bl id hk hx)) (fun ver s e hn=>.same ?_) (hm.I5 id);have ho:=hm.ay id;rw[e] at ho;obtain⟨_,_,ho⟩:=ho;rcases ho hn with ⟨_,_,_,_,_,_,g7⟩|g7
   ·exact stays _ (g7 rfl)
   ·exact absurd rfl g7.2.2
theorem Comes.trans(h:Comes C X φ φ' o u w w' v z)(h':Comes C X φ' gN (ak o u) u' w' HH v' z'):Comes C X φ gN o (u++u') w HH v' z':=by
 have e:ak o (u++u')=ak (ak o u) u':=Xv _ _ _;refine⟨by rw[e];exact h'.mem,by rw[e];exact h'.val,fun id=>by rw[e];exact(h.up id).trans (h'.up id),Nat.le_trans h.size h'.size,fun b hb hh=>?_,fun id hn hk=>?_,fun id hx=>?_,⟨h'.still.1.trans h.still.1,h'.still.2.trans h.still.2⟩⟩
 ·rw[h'.frame b (Nat.lt_of_lt_of_le hb h.size),h.frame b hb]
  ·rintro⟨id,h1,h2,h3⟩;exact hh ⟨id,by rw[Jd];exact List.mem_append_left _ h1,h2,h3⟩
  ·rintro⟨id,h1,h2,h3⟩;by_cases hk:id∈bW u
   ·rcases h.news id h2 with h4|⟨j,h4,h5⟩
    ·omega
    ·by_cases hj:j∈bW u
     ·exact hh ⟨j,by rw[Jd];exact List.mem_append_left _ hj,h4,by rw[h5,h3]⟩
     ·have hc:o j≠.none:=by intro e2;rw[e2] at h4;simp[aP,live] at h4
      have:=h.mem.inj id j h2 (by rw[iq hj,h.nU j hc hj];exact h4) (by rw[h.nU j hc hj,h5]);exact hj (this▸hk)
   ·rw[iq hk] at h2;have hc:o id≠.none:=by intro e2;rw[e2] at h2;simp[aP,live] at h2
    rw[h.nU id hc hk] at h3 h2;exact hh ⟨id,by rw[Jd];exact List.mem_append_right _ h1,h2,h3⟩
 ·rw[Jd,zN,not_or] at hk;rw[h'.nU id (by rw[iq hk.1];exact hn) hk.2,h.nU id hn hk.1]
 ·rw[e] at hx;rcases h'.news id hx with h1|⟨j,h1,h2⟩
  ·exact .inl (Nat.le_trans h.size h1)
  ·rcases h.news j h1 with h3|h3
   ·exact .inl om
   ·exact .inr (h2▸h3)
theorem Aj:∀{ks:List Nat} {id:Nat},id∈bW (eu o ks)->∃t ver fr s,o id=.vec t ver fr s/\∀o',ak o' (eu o ks) id=.vec t ver true s
 |[],id,h=>by cases h
 |k::r,id,h=>by
  have:eu o (k::r)=eu o r\/∃t ver fr s,o k=.vec t ver fr s/\eu o (k::r)=(k,.vec t ver true s)::eu o r:=by
   simp only[eu];cases e:o k with
   |vec t ver fr s=>exact .inr ⟨t,ver,fr,s,rfl,rfl⟩
   |_=>exact .inl rfl
  rcases this with e|⟨t,ver,fr,s,e1,e2⟩
  ·rw[e] at h ⊢;exact Aj h
  ·rw[e2] at h ⊢;by_cases hk:id∈bW (eu o r)
   ·obtain⟨t',aC,De,s',h1,h2⟩:=Aj hk;exact⟨t',aC,De,s',h1,fun o'=>h2 _⟩
   ·simp only[bW,zw,hk,or_false] at h;subst h;exact⟨t,ver,fr,s,e1,fun o'=>by show ak (cu o' id _) (eu o r) id=_;rw[iq hk,eH]⟩
theorem P8:∀{ks:List Nat} {id:Nat},id∈ks->∀{t ver fr s},o id=.vec t ver fr s->id∈bW (eu o ks)
 |k::r,id,h,t,ver,fr,s,e=>by
  rcases zw.1 h with h|h
  ·subst h;simp[eu,e,bW]
  ·have:=P8 h e;simp only[eu];split
   ·exact zh _ this
   ·exact this
theorem Je(hm:MRel C X φ o w)(ks:List Nat):Comes C X φ φ o (eu o ks) w w .undef undef:=by
 refine Comes.make hm (Nat.le_refl _) (fun _ _ _=>rfl) (fun _ _=>rfl) (fun _ _ _=>rfl) (fun id hk=>?_) (fun id hk hx=>?_) (fun i j hi _ hx=>?_) (fun hi hw hg id hk=>?_) (fun id hk=>by obtain⟨t,ver,fr,s,h1,h2⟩:=Aj hk;have:=hm.oW id;rw[h1] at this;rw[h2 o];exact this) (fun _ _ _=>rfl)
 ·obtain⟨t,ver,fr,s,h1,h2⟩:=Aj hk;rw[h1,h2 o];exact .inr ⟨rfl,rfl,rfl,rfl,rfl,by simp⟩
 ·obtain⟨t,ver,fr,s,h1,h2⟩:=Aj hk;rw[h2 o] at hx;have:=(A4 hx).2.1;simp at this
 ·obtain⟨t,ver,fr,s,h1,h2⟩:=Aj hi;rw[h2 o] at hx;have:=(A4 hx).2.1;simp at this
 ·obtain⟨t,ver,fr,s,h1,h2⟩:=Aj hk;have ho:=hm.ay id;rw[h2 o];rw[h1] at ho;obtain⟨h3,h4,h5⟩:=ho;refine⟨h3,h4,fun hn=>(h5 hn).imp (fun⟨h6,ec,h7,h8,h9,hl,hc⟩=>?_) fun g=>g⟩;refine⟨h6,ec,nh (gX hi hw t) h7,h8,h9,by simp,fun _=>?_⟩;cases hf:fr with
  |true=>exact hi _ (hc hf)
  |false=>
   have hx:aP (φ id) (o id)=true:=by rw[h1,hf];exact qM hn h6
   obtain⟨g1,g2⟩:=hm.sep id hx;refine⟨g1,g2,fun⟨j,e1,e2⟩=>?_⟩;by_cases hj:j∈bW (eu o ks)
   ·obtain⟨t',aC,De,s',_,he⟩:=Aj hj;rw[he o] at e1;have:=(A4 e1).2.1;simp at this
   ·rw[iq hj] at e1;have:=hm.inj j id e1 hx e2;subst this;exact hj hk
end
theorem vk{t t':Ty}{x:den t'}{y:den t}(h:gJ t t' x=some y):∃e:t'=t,y=e▸x:=by
 unfold gJ at h;split at h
 ·rename_i e _;exact⟨e,(zI h).symm⟩
 ·cases h
section
variable {C:Cx} {X:Nat→Prop} {φ:Nat→Addr} {o:Nat→Obj} {w:World} {imm:Nat→Prop}
def z75(imm:Nat->Prop)(w:World)(e:Ty)(s:Sl (den e))(z:Value):Prop:=s.l.length<=ch/\
 ((s.nil=true/\s.l=[]/\z=.slice none 0 0)\/
  (s.nil=false/\∃a cap ec,z=.slice (some a) s.l.length cap/\(cap≠0->a.spot=none)/\bc (aA imm w e) s.l ec/\kg w a ec/\s.l.length<=cap))
theorem Jf{a:Addr}{ec:List Value}(n:Nat)(h:kg w a ec):kg w a (ec.take n):=by
 intro j hj;have hc:j<ec.length:=by simp at hj;omega
 rw[h j hc];simp
theorem MG{x:V}{z:Value}{t:Ty}{s:Sl (den t)}(hl:∀id,oV φ o imm w id (o id))(h:aq φ o imm w x z)(he:Ac lf o x=some ⟨t,s⟩):z75 imm w t s z/\(∃id ver fr s',o id=.vec t ver fr s'/\(s.nil=false->∀a n c,z=.slice (some a) n c->a.block=(φ id).block)/\s.nil=s'.nil/\(fr=false->id∈fj o x)/\(s'.l=[]->s.l=[])):=by
 cases x<;>simp only[Ac] at he<;>try (cases he;done)
 ·rename_i id ver;have ho:=hl id;unfold aq at h;split at he
  ·rename_i t' aC fr s' e1;rw[e1] at h ho;cases hb:Nat.beq ver aC with
   |false=>rw[hb] at he;cases he
   |true=>
    rw[hb] at he;simp only[cond_true,zE,Sigma.mk.injEq] at he;obtain⟨rfl,he⟩:=he;have he:=eq_of_heq he;subst he;have h:=h.2 (zm hb);refine⟨⟨ho.1,?_⟩,id,aC,fr,s',e1,?_,rfl,?_,fun h=>h⟩
    ·rcases h with ⟨h1,h2⟩|⟨h1,cap,h2,h3,h4⟩
     ·exact .inl ⟨h1,ho.2.1 h1,h2⟩
     ·rcases ho.2.2 h1 with ⟨h5,ec,h6,h7,_⟩|⟨_,h6,_⟩
      ·exact .inr ⟨h1,_,cap,ec,h2,El h4.1,h6,h7,h3⟩
      ·exact .inr ⟨h1,_,cap,[],h2,El h4.1,(by rw[h6];rfl),(fun j hj=>by simp at hj),h3⟩
    ·intro hn a n c e;rcases h with ⟨h1,h2⟩|⟨h1,cap,h2,h3,h4⟩
     ·rw[h1] at hn;cases hn
     ·rw[h2] at e;injection e with e _ _;injection e with e;rw[<-e];rfl
    ·intro hf;subst hf;simp[fj,e1]
  ·cases he
 ·rename_i id ver n cp;have ho:=hl id;unfold aq at h;split at he
  ·rename_i t' aC fr s' e1;rw[e1] at h ho;cases hb:Nat.beq ver aC with
   |false=>rw[hb] at he;cases he
   |true=>
    rw[hb] at he;simp only[cond_true,zE,Sigma.mk.injEq] at he;obtain⟨rfl,he⟩:=he;have he:=eq_of_heq he;subst he;obtain⟨h0,h,_⟩:=h.2 (zm hb);have e2:(lf.aI s'.l n).length=n:=by simp[lf,aI,Nat.min_eq_left h0]
    refine⟨⟨?_,?_⟩,id,aC,fr,s',e1,?_,rfl,?_,fun h=>by show lf.aI s'.l n=[];rw[h];simp[lf,aI]⟩
    ·show(lf.aI s'.l n).length<=ch;have:=ho.1;omega
    ·rcases h with ⟨h1,h2⟩|⟨h1,cap,h2,h3,h4⟩
     ·exact .inl ⟨h1,by simp[lf,aI,ho.2.1 h1],h2⟩
     ·have e3:z=.slice (some (bare (φ id))) (lf.aI s'.l n).length cap:=by rw[h2];exact congrArg (fun k=>Value.slice (some (bare (φ id))) k cap) e2.symm
      have e4:(lf.aI s'.l n).length<=cap:=om
      rcases ho.2.2 h1 with ⟨h5,ec,h6,h7,_⟩|⟨_,h6,_⟩
      ·exact .inr ⟨h1,bare (φ id),cap,ec.take (n*aJ t'),e3,El h4.1,(tP n h0 h6).1,Jf _ h7,e4⟩
      ·refine .inr ⟨h1,bare (φ id),cap,[],e3,El h4.1,?_,(fun j hj=>by simp at hj),e4⟩;have:lf.aI s'.l n=[]:=by rw[h6];simp[lf,aI]
       show bc _ (lf.aI s'.l n) [];rw[this];rfl
    ·intro hn a m c e;rcases h with ⟨h1,h2⟩|⟨h1,cap,h2,h3,h4⟩
     ·rw[show s'.nil=false from hn] at h1;cases h1
     ·rw[h2] at e;injection e with e _ _;injection e with e;rw[<-e];rfl
    ·intro hf;subst hf;simp[fj,e1]
  ·cases he
 ·rename_i id ver lo;have ho:=hl id;unfold aq at h;split at he
  ·rename_i t' aC fr s' e1;rw[e1] at h ho;cases hb:Nat.beq ver aC with
   |false=>rw[hb] at he;cases he
   |true=>
    rw[hb] at he;simp only[cond_true,zE,Sigma.mk.injEq] at he;obtain⟨rfl,he⟩:=he;have he:=eq_of_heq he;subst he;obtain⟨k,rfl,hk,h⟩:=h.2 (zm hb);have e0:lf.cQ s'.l (k:Int)=s'.l.drop k:=by simp[lf,cQ]
    have e2:(lf.cQ s'.l (k:Int)).length=s'.l.length-k:=by rw[e0];simp
    refine⟨⟨?_,?_⟩,id,aC,fr,s',e1,?_,rfl,?_,fun h=>by show lf.cQ s'.l (k:Int)=[];rw[e0,h];simp⟩
    ·show(lf.cQ s'.l (k:Int)).length<=ch;have:=ho.1;omega
    ·rcases h with ⟨h1,h2⟩|⟨h1,cap,h2,h3⟩
     ·exact .inl ⟨h1,by simp[lf,cQ,ho.2.1 h1],h2⟩
     ·have e3:z=.slice (some (if cap=0 then bare (φ id) else⟨(φ id).block,(φ id).off+k*aJ t',none⟩)) (lf.cQ s'.l (k:Int)).length cap:=by rw[h2];exact congrArg (fun j=>Value.slice _ j cap) e2.symm
      have e4:(lf.cQ s'.l (k:Int)).length<=cap:=om
      by_cases hc:cap=0
      ·refine .inr ⟨h1,_,cap,[],e3,fun h=>absurd hc h,?_,fun j hj=>by simp at hj,e4⟩;have:lf.cQ s'.l (k:Int)=[]:=zP om;show bc _ (lf.cQ s'.l (k:Int)) [];rw[this];rfl
      ·rcases ho.2.2 h1 with ⟨h5,ec,h6,h7,_⟩|⟨_,h6,_⟩
       ·refine .inr ⟨h1,_,cap,ec.drop (k*aJ t'),e3,fun _=>by rw[if_neg hc],?_,?_,e4⟩
        ·show bc _ (lf.cQ s'.l (k:Int)) _;rw[e0];exact(tP k hk h6).2
        ·rw[if_neg hc];intro j hj;have hg:k*aJ t'+j<ec.length:=by simp at hj;omega
         have:=h7 (k*aJ t'+j) hg;simp only[Nat.add_assoc] at this ⊢;rw[this];simp
       ·refine .inr ⟨h1,_,cap,[],e3,fun _=>by rw[if_neg hc],?_,fun j hj=>by simp at hj,e4⟩;have:lf.cQ s'.l (k:Int)=[]:=by rw[e0,h6];simp
        show bc _ (lf.cQ s'.l (k:Int)) [];rw[this];rfl
    ·intro hn a m c e;rcases h with ⟨h1,h2⟩|⟨h1,cap,h2,h3⟩
     ·rw[show s'.nil=false from hn] at h1;cases h1
     ·rw[h2] at e;injection e with e _ _;injection e with e;rw[<-e]
      split<;>rfl
    ·intro hf;subst hf;simp[fj,e1]
  ·cases he
theorem MH{t:Ty}{x:V}{d:den t}(h:jk lf o t x=some d):x=.d t d\/(∃e,∃ht:.sl e=t,∃s:Sl (den e),Ac lf o x=some ⟨e,s⟩/\d=ht▸s)\/(∃e,∃ht:.sl e=t,x=.fq/\d=ht▸(⟨true,[]⟩:Sl (den e))):=by
 cases x<;>simp only[jk] at h<;>try (cases h;done)
 ·obtain⟨rfl,rfl⟩:=vk h;exact .inl rfl
 ·rename_i id ver;cases e1:o id<;>rw[e1] at h<;>simp only at h<;>try (cases h;done)
  rename_i e aC fr s;cases hb:Nat.beq ver aC<;>rw[hb] at h
  ·cases h
  ·obtain⟨ht,hd⟩:=vk h;exact .inr (.inl ⟨e,ht,s,by simp[Ac,e1,hb],hd⟩)
 ·rename_i id ver n cp;cases e1:o id<;>rw[e1] at h<;>simp only at h<;>try (cases h;done)
  rename_i e aC fr s;cases hb:Nat.beq ver aC<;>rw[hb] at h
  ·cases h
  ·obtain⟨ht,hd⟩:=vk h;exact .inr (.inl ⟨e,ht,_,by simp[Ac,e1,hb],hd⟩)
 ·split at h
  ·rename_i e;exact .inr (.inr ⟨e,rfl,rfl,(zI h).symm⟩)
  ·cases h
 ·rename_i id ver lo;cases e1:o id<;>rw[e1] at h<;>simp only at h<;>try (cases h;done)
  rename_i e aC fr s;cases hb:Nat.beq ver aC<;>rw[hb] at h
  ·cases h
  ·obtain⟨ht,hd⟩:=vk h;exact .inr (.inl ⟨e,ht,_,by simp[Ac,e1,hb],hd⟩)
theorem MI{t:Ty}{x:V}{d:den t}(h:mu lf o t x=some d):jk lf o t x=some d\/∃p,∃ht:.ks p=t,∃s:den (.sl (mg p)),jk lf o (.sl (mg p)) x=some s/\d=ht▸Hb p s:=by
 unfold mu at h;split at h
 ·rename_i x' h1;injection h with h;subst h;exact .inl h1
 ·cases t with
  |ks p=>
   simp only[Hc] at h;split at h
   ·rename_i s h1;injection h with h;exact .inr ⟨p,rfl,s,h1,h.symm⟩
   ·cases h
  |_=>simp only[Hc] at h;cases h
def sZ(o:Nat->Obj)(x:V):Prop:=∀id,id∈fj o x->∀t ver fr s,o id≠.vec t ver fr s
theorem z76{e:Ty}{s:Sl (den e)}{z:Value}(h:aq φ o imm w (.d (.sl e) s) z):z75 imm w e s z:=by obtain⟨h1,h2⟩:=Dg h;exact⟨h1,h2.imp id fun⟨h3,a,cap,ec,h4,h5,_,h7,h8,h9⟩=>⟨h3,a,cap,ec,h4,h5,h7,h8,h9⟩⟩
theorem Xx{e:Ty}{x:V}{s:Sl (den e)}{z:Value}(hl:∀id,oV φ o imm w id (o id))(hx:aq φ o imm w x z)(h:mu lf o (.sl e) x=some s):z75 imm w e s z:=by
 have h:jk lf o (.sl e) x=some s:=by
  rcases MI h with h|⟨p,ht,_⟩
  ·exact h
  ·cases ht
 rcases MH h with rfl|⟨e',ht,s',h1,h2⟩|⟨e',ht,rfl,h2⟩
 ·exact z76 hx
 ·injection ht with ht;subst ht;subst h2;exact(MG hl hx h1).1
 ·injection ht with ht;subst ht;subst h2;exact⟨Nat.zero_le _,.inl ⟨rfl,rfl,hx⟩⟩
theorem Xy(hm:MRel C X φ o w){t:Ty}{x:V}{d:den t}{z:Value}(hx:aq φ o (ah X φ o w) w x z)(hf:sZ o x)(h:jk lf o t x=some d):aT (ah X φ o w) w t d z:=by
 rcases MH h with rfl|⟨e',ht,s',h1,h2⟩|⟨e',ht,rfl,h2⟩
 ·exact hx
 ·subst ht;subst h2;obtain⟨⟨g1,g2⟩,id,ver,fr,s0,g3,g4,g5,g6,g8⟩:=MG hm.ay hx h1;refine⟨z,rfl,g1,?_⟩;rcases g2 with g2|⟨hn,a,cap,ec,h5,h6,h7,h8,h9⟩
  ·exact .inl g2
  ·refine .inr ⟨hn,a,cap,ec,h5,h6,fun hc=>?_,h7,h8,h9⟩;have he:fr=true:=by
    cases e:fr with
    |true=>rfl
    |false=>exact absurd g3 (hf id (g6 e) _ _ _ _)
   have ho:=hm.ay id;rw[g3] at ho;obtain⟨_,_,ho⟩:=ho;rcases ho (g5▸hn) with ⟨_,_,_,_,_,_,g7⟩|⟨_,g7,_⟩
   ·rw[g4 hn _ _ _ h5];exact g7 he
   ·exact absurd (g8 g7) hc
 ·subst ht;subst h2;exact⟨z,rfl,Nat.zero_le _,.inl ⟨rfl,rfl,hx⟩⟩
theorem P9(hm:MRel C X φ o w){t:Ty}{x:V}{d:den t}{z:Value}(hx:aq φ o (ah X φ o w) w x z)(hf:sZ o x)(h:mu lf o t x=some d):aT (ah X φ o w) w t d z:=by
 rcases MI h with h|⟨p,ht,s,h1,h2⟩
 ·exact Xy hm hx hf h
 ·subst ht;subst h2;have h3:aA (ah X φ o w) w (.sl (mg p)) s [z]:=Xy hm hx hf h1;show aA (ah X φ o w) w (.ks p) (Hb p s) [z];rw[Hx,PU];exact h3
theorem qwx{o':Nat->Obj}(ho:∀id,o' id=o id\/∃t ver s,o' id=.vec t ver true s):∀(x:V) (id:Nat),id∈fj o' x->(∃t ver s,o' id=.vec t ver false s)->id∈fj o x:=by
 intro x;have key:∀nX id,(id∈(match o' nX with|.vec _ _ true _=>[]|_=>[nX]))->(∃t ver s,o' id=.vec t ver false s)->id∈(match o nX with|.vec _ _ true _=>[]|_=>[nX]):=by
  rintro nX id h ⟨t,ver,s,e⟩;have:id=nX:=by
   split at h
   ·cases h
   ·simpa using h
  subst this;rcases ho id with e1|⟨t1,aab,s1,e1⟩
  ·rw[<-e1,e];simp
  ·rw[e1] at e;cases e
 refine V.rec (motive_1:=fun x=>∀id,id∈fj o' x->(∃t ver s,o' id=.vec t ver false s)->id∈fj o x)
  (motive_2:=fun l=>∀id,id∈pw o' l->(∃t ver s,o' id=.vec t ver false s)->id∈pw o l)
  ?_ ?_ ?_ ?_ ?_ ?_ ?_ ?_ ?_ ?_ ?_ ?_ ?_ ?_ ?_ ?_ ?_ ?_ ?_ ?_ ?_ ?_ ?_ ?_ ?_ ?_ x
 case refine_2=>exact fun nX ver id h h'=>by unfold fj at*;exact key nX id h h'
 case refine_3=>exact fun nX ver _ _ id h h'=>by unfold fj at*;exact key nX id h h'
 case refine_20=>exact fun nX ver lo id h h'=>by unfold fj at*;exact key nX id h h'
 case refine_11=>exact fun l ih id h h'=>by unfold fj at*;exact ih id h h'
 case refine_26=>
  intro x l il im id h h';unfold pw at h ⊢;rcases zN.1 h with h|h
  ·exact List.mem_append_left _ (il id h h')
  ·exact List.mem_append_right _ (im id h h')
 all_goals intros;rename_i h _;simp[fj,pw] at h
theorem Dj(ks:List Nat)(id:Nat):ak o (eu o ks) id=o id/\(∀t ver s,o id=.vec t ver false s->id∉ks)\/∃t ver fr s,o id=.vec t ver fr s/\ak o (eu o ks) id=.vec t ver true s:=by
 by_cases hk:id∈bW (eu o ks)
 ·obtain⟨t,ver,fr,s,h1,h2⟩:=Aj hk;exact .inr ⟨t,ver,fr,s,h1,h2 o⟩
 ·exact .inl ⟨iq hk,fun t ver s e h=>hk (P8 h e)⟩
theorem MJ{ks:List Nat}{x:V}(h:∀id,id∈fj o x->id∈ks):sZ (ak o (eu o ks)) x:=by
 intro id hi t ver fr s e;have hc:fr=false:=by
  cases fr with
  |false=>rfl
  |true=>
   exfalso;revert hi;refine V.rec (motive_1:=fun x=>¬id∈fj (ak o (eu o ks)) x) (motive_2:=fun l=>¬id∈pw (ak o (eu o ks)) l)
    ?_ ?_ ?_ ?_ ?_ ?_ ?_ ?_ ?_ ?_ ?_ ?_ ?_ ?_ ?_ ?_ ?_ ?_ ?_ ?_ ?_ ?_ ?_ ?_ ?_ ?_ x
   case refine_2=>
    intro nX aC h;unfold fj at h;split at h
    ·cases h
    ·rename_i hn;simp at h;subst h;exact hn _ _ _ e
   case refine_3=>
    intro nX aC _ _ h;unfold fj at h;split at h
    ·cases h
    ·rename_i hn;simp at h;subst h;exact hn _ _ _ e
   case refine_20=>
    intro nX aC _ h;unfold fj at h;split at h
    ·cases h
    ·rename_i hn;simp at h;subst h;exact hn _ _ _ e
   case refine_11=>intro l ih h;unfold fj at h;exact ih h
   case refine_26=>
    intro x l il im h;unfold pw at h;rcases zN.1 h with h|h
    ·exact il h
    ·exact im h
   all_goals intros;simp[fj,pw]
 subst hc;have:=qwx (o:=o) (o':=ak o (eu o ks)) (fun id=>(Dj ks id).imp (·.1) fun⟨t,ver,_,s,_,h⟩=>⟨t,ver,s,h⟩) x id hi ⟨t,ver,s,e⟩;rcases Dj (o:=o) ks id with ⟨h1,h2⟩|⟨_,_,_,_,_,h2⟩
 ·exact h2 t ver s (h1▸e) (h id this)
 ·rw[h2] at e;cases e
theorem Xz(ks:List Nat)(t:Ty)(x:V):jk lf (ak o (eu o ks)) t x=jk lf o t x:=by
 cases x<;>simp only[jk]
 ·rename_i id ver;rcases Dj (o:=o) ks id with ⟨h1,_⟩|⟨_,_,_,_,h1,h2⟩
  ·rw[h1]
  ·rw[h1,h2]
 ·rename_i id ver n cp;rcases Dj (o:=o) ks id with ⟨h1,_⟩|⟨_,_,_,_,h1,h2⟩
  ·rw[h1]
  ·rw[h1,h2]
 ·rename_i id ver lo;rcases Dj (o:=o) ks id with ⟨h1,_⟩|⟨_,_,_,_,h1,h2⟩
  ·rw[h1]
  ·rw[h1,h2]
theorem A7(ks:List Nat)(t:Ty)(x:V):mu lf (ak o (eu o ks)) t x=mu lf o t x:=by
 unfold mu;rw[Xz];have:Hc lf (ak o (eu o ks)) t x=Hc lf o t x:=by cases t<;>simp only[Hc,Xz]
 rw[this]
theorem z77(ks:List Nat):∀(t:Ty) (cs:List V),lD lf (ak o (eu o ks)) t cs=lD lf o t cs:=by
 intro t
 induction t with
 |unit=>intro cs;rfl
 |pair a b nW kh=>intro cs;simp only[lD,nW,kh]
 |st p ih=>intro cs;simp only[lD,ih]
 |arr n e _=>intro cs;rfl
 |int k=>intro cs;cases cs<;>simp only[lD,A7]
 |bool=>intro cs;cases cs<;>simp only[lD,A7]
 |fc=>intro cs;cases cs<;>simp only[lD,A7]
 |dC=>intro cs;cases cs<;>simp only[lD,A7]
 |str=>intro cs;cases cs<;>simp only[lD,A7]
 |sl e _=>intro cs;cases cs<;>simp only[lD,A7]
 |ks e _=>intro cs;cases cs<;>simp only[lD,A7]
theorem XA(ks:List Nat)(t:Ty)(x:V):fT lf (ak o (eu o ks)) t x=fT lf o t x:=by cases x<;>simp only[fT,A7,z77]
theorem XB(hm:MRel C X φ o w):∀(t:Ty) (cs r:List V) (d:den t) (zs:List Value),cd φ o (ah X φ o w) w cs zs->(∀c,c∈cs->sZ o c)->lD lf o t cs=some (d,r)->∃zc zr,zs=zc++zr/\aA (ah X φ o w) w t d zc/\cd φ o (ah X φ o w) w r zr/\(∀c,c∈r->sZ o c):=by
 have one:∀(t:Ty) (cs r:List V) (d:den t) (zs:List Value),cd φ o (ah X φ o w) w cs zs->(∀c,c∈cs->sZ o c)->
   (match cs with|c::r=>(match mu lf o t c with|some x=>some (x,r)|none=>none)|[]=>none)=some (d,r)->
   ∃z zr,zs=z::zr/\aT (ah X φ o w) w t d z/\cd φ o (ah X φ o w) w r zr/\(∀c,c∈r->sZ o c):=by
  intro t cs r d zs hr hf h;cases cs with
  |nil=>cases h
  |cons c cs=>
   simp only at h;split at h
   ·rename_i x hx;injection h with h;injection h with h1 h2;subst h1 h2;obtain⟨z,zr,h3,h4,h5⟩:=hr;exact⟨z,zr,h3,P9 hm h4 (hf _ (zf ..)) hx,h5,fun c hc=>hf c (zh _ hc)⟩
   ·cases h
 intro t
 induction t with
 |unit=>intro cs r d zs hr hf h;simp only[lD,zE,Prod.mk.injEq] at h;obtain⟨_,rfl⟩:=h;exact⟨[],zs,rfl,rfl,hr,hf⟩
 |pair a b nW kh=>
  intro cs r d zs hr hf h;simp only[lD] at h;split at h
  ·rename_i x r1 h1;split at h
   ·rename_i y r2 h2;injection h with h;injection h with h3 h4;subst h3 h4;obtain⟨zc,zr,e1,e2,e3,e4⟩:=nW _ _ _ _ hr hf h1;obtain⟨Jg,Qa,g1,g2,g3,g4⟩:=kh _ _ _ _ e3 e4 h2;exact⟨zc++Jg,Qa,by rw[e1,g1,zo],⟨zc,Jg,rfl,e2,g2⟩,g3,g4⟩
   ·cases h
  ·cases h
 |st p ih=>intro cs r d zs hr hf h;exact ih _ _ _ _ hr hf h
 |arr n e _=>intro cs r d zs hr hf h;cases h
 |int k=>intro cs r d zs hr hf h;obtain⟨z,zr,e1,e2,e3⟩:=one _ cs r d zs hr hf (by cases cs<;>exact h);exact⟨[z],zr,e1,e2,e3⟩
 |bool=>intro cs r d zs hr hf h;obtain⟨z,zr,e1,e2,e3⟩:=one _ cs r d zs hr hf (by cases cs<;>exact h);exact⟨[z],zr,e1,e2,e3⟩
 |fc=>intro cs r d zs hr hf h;obtain⟨z,zr,e1,e2,e3⟩:=one _ cs r d zs hr hf (by cases cs<;>exact h);exact⟨[z],zr,e1,e2,e3⟩
 |dC=>intro cs r d zs hr hf h;obtain⟨z,zr,e1,e2,e3⟩:=one _ cs r d zs hr hf (by cases cs<;>exact h);exact⟨[z],zr,e1,e2,e3⟩
 |str=>intro cs r d zs hr hf h;obtain⟨z,zr,e1,e2,e3⟩:=one _ cs r d zs hr hf (by cases cs<;>exact h);exact⟨[z],zr,e1,e2,e3⟩
 |sl e _=>intro cs r d zs hr hf h;obtain⟨z,zr,e1,e2,e3⟩:=one _ cs r d zs hr hf (by cases cs<;>exact h);exact⟨[z],zr,e1,e2,e3⟩
 |ks e _=>intro cs r d zs hr hf h;obtain⟨z,zr,e1,e2,e3⟩:=one _ cs r d zs hr hf (by cases cs<;>exact h);exact⟨[z],zr,e1,e2,e3⟩
theorem Qb:∀{cs:List V},sZ o (.agg cs)->∀c,c∈cs->sZ o c
 |c'::cs,h,c,hc,id,hi=>by
  rcases zw.1 hc with rfl|hc
  ·exact h id (by unfold fj pw;exact List.mem_append_left _ hi)
  ·exact Qb (cs:=cs) (fun id hi=>h id (by unfold fj at hi ⊢;unfold pw;exact List.mem_append_right _ hi)) c hc id hi
theorem Qc(hm:MRel C X φ o w){t:Ty}{x:V}{d:den t}{z:Value}(hx:aq φ o (ah X φ o w) w x z)(hf:sZ o x)(h:fT lf o t x=some d):aT (ah X φ o w) w t d z:=by
 by_cases hc:∃cs,x=.agg cs
 ·obtain⟨cs,rfl⟩:=hc;simp only[fT] at h;split at h
  ·rename_i p;split at h
   ·rename_i y h1;injection h with h;subst h;obtain⟨c,rfl,hr⟩:=hx;obtain⟨zc,zr,e1,e2,e3,_⟩:=XB hm _ _ _ _ _ hr (Qb hf) h1;have:zr=[]:=e3;subst this;exact⟨c,rfl,by rw[e1,zt];exact e2⟩
   ·cases h
  ·cases h
 ·have:fT lf o t x=mu lf o t x:=by cases x<;>first|rfl|exact absurd ⟨_,rfl⟩ hc
  exact P9 hm hx hf (this▸h)
end
def A8:TypeDesc->Bool
 |.struct _|.array .. =>true
 |_=>false
theorem Jh{C:Cx}{d:TypeDesc}{T:Ty}(h:mz C d T=true):A8 d=jH T/\ka T=!jH T:=by cases d<;>cases T<;>first|exact⟨rfl,rfl⟩|(simp only[mz] at h;cases h;done)
theorem qO{a:Addr}(h:a.spot=none)(n:Nat):a.add n=⟨a.block,a.off+n,none⟩:=by
 unfold Addr.add;split
 ·rename_i e;subst e;obtain⟨b,f,s⟩:=a;simp only at h;subst h;rfl
 ·rfl
section
variable {P:Program} {C:Cx} {X:Nat→Prop} {φ:Nat→Addr} {o:Nat→Obj} {w:World} {imm:Nat→Prop}
theorem Ey{t:TypeId}{d:TypeDesc}(h:P.underlying t=some d):(Go.isAgg t).run P w=.ok (A8 d) w:=by unfold Go.isAgg;rw[Sem.run_bind,run_underlying h w];cases d<;>simp[A8]
theorem jz{t:TypeId}{i:TypeInfo}(h:P.info? t=some i):(Go.sizeOf t).run P w=.ok i.size w:=by simp[Go.sizeOf,typeInfo,h]
theorem vZ{t:TypeId}{i:TypeInfo}{z:Value}(h:P.info? t=some i)(hz:i.zero=some z):(zeroValue t).run P w=.ok z w:=by simp[zeroValue,typeInfo,h,hz]
theorem XD{a:Addr}(hs:a.spot=none){cs:List Value}{n:Nat}(hn:cs.length=n)(h:kg w a cs):(loadCells a n).run P w=.ok cs.toArray w:=by subst hn;refine run_loadCells_list w a cs fun j v hv=>?_;rw[qO hs];obtain⟨hj,e⟩:=zF.1 hv;rw[h j hj,e]
theorem qqa{a:Addr}(hs:a.spot=none){v:Value}{cs:List Value}(h:kg w a (v::cs)):(load a).run P w=.ok v w:=by have:=h 0 (by simp);obtain⟨b,f,s⟩:=a;simp only at hs;subst hs;simp only[Nat.add_zero,List.getElem_cons_zero] at this;simp[this]
theorem MK{T:Ty}{d:den T}{cs:List Value}(hs:ka T=true)(h:aA imm w T d cs):∃v,cs=[v]/\aT imm w T d v:=by
 cases T<;>simp only[ka] at hs<;>try (cases hs;done)
 ·exact⟨_,h.1,by simpa[aT,aA] using h.2⟩
 ·exact⟨_,h,by simp[aT,aA]⟩
 ·obtain⟨s,h1,h2⟩:=h;exact⟨_,h1,s,rfl,h2⟩
 ·obtain⟨v,h1,h2⟩:=h;exact⟨_,h1,v,rfl,h2⟩
 ·exact⟨_,h,by simp[aT,aA]⟩
 ·exact⟨_,h,by simp[aT,aA]⟩
theorem XE{T:Ty}{d:den T}{v:Value}(hs:ka T=true)(h:aT imm w T d v):aA imm w T d [v]:=by cases T<;>simp only[ka] at hs<;>first|exact h|cases hs
theorem z2a{T:Ty}{d:den T}{v:Value}(hs:jH T=true)(h:aT imm w T d v):∃cs:Array Value,v=.agg cs/\aA imm w T d cs.toList:=by cases T<;>simp only[jH] at hs<;>first|exact h|cases hs
theorem Qd{T:Ty}{d:den T}{cs:Array Value}(hs:jH T=true)(h:aA imm w T d cs.toList):aT imm w T d (.agg cs):=by cases T<;>simp only[jH] at hs<;>first|exact⟨cs,rfl,h⟩|cases hs
theorem XF{C:Cx}{t:TypeId}{T:Ty}(ht:mA C t T){d:den T}{v:Value}(h:aT imm w T d v):aA imm w T d v.cells.toList:=by
 obtain⟨_,_,_,hd⟩:=ht.desc;obtain⟨_,hk⟩:=Jh hd;cases ha:jH T with
 |true=>obtain⟨cs,rfl,h1⟩:=z2a ha h;exact h1
 |false=>
  rw[ha] at hk;have:=XE hk h;have e:v.cells=#[v]:=by
   cases T<;>simp only[ka] at hk<;>try (cases hk;done)
   ·have h2:=h.1;simp only[List.cons.injEq,and_true] at h2;subst h2;rfl
   ·have h2:[v]=[_]:=h;simp only[List.cons.injEq,and_true] at h2;subst h2;rfl
   ·obtain⟨s,h2,_⟩:=h;simp only[List.cons.injEq,and_true] at h2;subst h2;rfl
   ·obtain⟨v',h2,_,h3⟩:=h;simp only[List.cons.injEq,and_true] at h2;subst h2;rcases h3 with ⟨_,_,rfl⟩|⟨_,a,cap,ec,rfl,_⟩<;>rfl
   ·have h2:[v]=[_]:=h;simp only[List.cons.injEq,and_true] at h2;subst h2;rfl
   ·have h2:[v]=[_]:=h;simp only[List.cons.injEq,and_true] at h2;subst h2;rfl
  rw[e];exact this
theorem XG{t:TypeId}{T:Ty}(h:mA C t T){a:Addr}(hs:a.spot=none){d:den T}{cs:List Value}(hr:aA imm w T d cs)(hc:kg w a cs):∃v,(loadVar t a).run C.P w=.ok v w/\aT imm w T d v:=by
 obtain⟨dd,_,hu,hd⟩:=h.desc;obtain⟨i,z,hi,_,hg,_⟩:=h.info;obtain⟨he,hf⟩:=Jh hd;have hl:=gY T d cs hr;unfold loadVar;simp only[Sem.run_bind,Ey hu,Result.andThen_ok];cases ha:jH T with
 |true=>rw[he,ha];refine⟨.agg cs.toArray,?_,Qd ha (by simpa using hr)⟩;simp[jz hi,XD hs (hl.trans hg.symm) hc]
 |false=>rw[he,ha];rw[ha] at hf;obtain⟨v,rfl,h2⟩:=MK hf hr;exact⟨v,by simpa using qqa hs hc,h2⟩
theorem ML{t:TypeId}{T:Ty}(h:mA C t T){cs:Array Value}{off:Nat}{d:den T}(hr:aA imm w T d ((cs.toList.drop off).take (aJ T))):∃v,(part t cs off).run C.P w=.ok v w/\aT imm w T d v:=by
 obtain⟨dd,_,hu,hd⟩:=h.desc;obtain⟨i,z,hi,_,hf,_⟩:=h.info;obtain⟨hc,he⟩:=Jh hd;unfold part;simp only[Sem.run_bind,Ey hu,Result.andThen_ok];cases ha:jH T with
 |true=>
  rw[hc,ha];refine⟨.agg (cs.extract off (off+aJ T)),?_,Qd ha ?_⟩
  ·simp[jz hi,hf]
  ·rw[Array.toList_extract,List.extract_eq_take_drop,Nat.add_sub_cancel_left];exact hr
 |false=>
  rw[hc,ha];rw[ha] at he;obtain⟨v,e,h2⟩:=MK he hr;refine⟨v,?_,h2⟩;have:cs[off]?=some v:=by
   have e1:=congrArg (fun l=>l[0]?) e;simp only[List.getElem?_cons_zero] at e1;rw[List.getElem?_take] at e1;split at e1
   ·simpa using e1
   ·cases e1
  simp[this]
theorem Qe:∀(p:Ty) (f:Nat) (y:den p) {u:Ty} {z:den u},Hd p f y=some ⟨u,z⟩->nQ p f=some u/\(∀cs,aA imm w p y cs->aA imm w u z ((cs.drop (fZ p f)).take (aJ u))):=by
 have base:∀(t:Ty) (y:den t) (u:Ty) (z:den u),(some ⟨t,y⟩:Option ((t:Ty)×den t))=some ⟨u,z⟩->t=u/\(∀cs,aA imm w t y cs->aA imm w u z ((cs.drop 0).take (aJ u))):=by intro t y u z h;injection h with h;injection h with h1 h2;subst h1;have h2:=eq_of_heq h2;subst h2;exact⟨rfl,fun cs hc=>by rw[List.drop_zero,<-gY _ _ _ hc,List.take_length];exact hc⟩
 intro p
 induction p with
 |pair a b _ kh=>
  intro f y u z h;cases f with
  |zero=>
   simp only[Hd] at h;obtain⟨h1,h2⟩:=base _ _ _ _ h;subst h1;refine⟨rfl,fun cs ⟨c,d,e,h3,h4⟩=>?_⟩;have:=h2 c h3;rw[e];simp only[fZ,List.drop_zero] at this ⊢;rw[<-gY _ _ _ h3] at this ⊢;rw[List.take_left']
   ·rw[List.take_length] at this;exact this
   ·rfl
  |succ n=>simp only[Hd] at h;obtain⟨h1,h2⟩:=kh n y.2 h;refine⟨h1,fun cs ⟨c,d,e,h3,h4⟩=>?_⟩;have:=h2 d h4;rw[e];simp only[fZ];rw[<-gY _ _ _ h3,List.drop_length_add_append];exact this
 |unit=>intro f y u z h;cases f<;>cases h
 |int k=>intro f y u z h;cases f with|zero=>obtain⟨rfl,h2⟩:=base _ _ _ _ h;exact⟨rfl,h2⟩|succ n=>cases h
 |bool=>intro f y u z h;cases f with|zero=>obtain⟨rfl,h2⟩:=base _ _ _ _ h;exact⟨rfl,h2⟩|succ n=>cases h
 |fc=>intro f y u z h;cases f with|zero=>obtain⟨rfl,h2⟩:=base _ _ _ _ h;exact⟨rfl,h2⟩|succ n=>cases h
 |dC=>intro f y u z h;cases f with|zero=>obtain⟨rfl,h2⟩:=base _ _ _ _ h;exact⟨rfl,h2⟩|succ n=>cases h
 |str=>intro f y u z h;cases f with|zero=>obtain⟨rfl,h2⟩:=base _ _ _ _ h;exact⟨rfl,h2⟩|succ n=>cases h
 |sl e=>intro f y u z h;cases f with|zero=>obtain⟨rfl,h2⟩:=base _ _ _ _ h;exact⟨rfl,h2⟩|succ n=>cases h
 |ks q=>intro f y u z h;cases f with|zero=>obtain⟨rfl,h2⟩:=base (.sl (mg q)) (AQ q y) _ _ h;exact⟨rfl,fun cs hc=>h2 cs ((Hx q y cs).1 hc)⟩|succ n=>cases h
 |st p=>intro f y u z h;cases f with|zero=>obtain⟨rfl,h2⟩:=base _ _ _ _ h;exact⟨rfl,h2⟩|succ n=>cases h
 |arr m e=>intro f y u z h;cases f with|zero=>obtain⟨rfl,h2⟩:=base _ _ _ _ h;exact⟨rfl,h2⟩|succ n=>cases h
theorem Qf(hC:cD C):∀(fs:List Field) (p:Ty) (off f:Nat) {u:Ty},qN C fs p off=true->nQ p f=some u->∃fd,fs[f]?=some fd/\C.ty fd.type=some u/\fd.offset=off+fZ p f:=by
 intro fs
 induction fs with
 |nil=>intro p off f u h h1;cases p<;>first|(simp only[qN] at h;cases h;done)|(cases f<;>cases h1)
 |cons g r ih=>
  intro p off f u h h1;cases r with
  |nil=>
   have h:(C.is g.type (Jc p)&&Nat.beq g.offset off)=true:=by cases p<;>exact h
   rw[ze] at h;have ht:=bY h.1;obtain⟨_,_,_,hd⟩:=(hC.eM _ _ ht).desc;obtain⟨_,hk⟩:=Jh hd;have:f=0/\u=Jc p/\fZ p 0=0:=by
    cases f with
    |zero=>cases p<;>first|exact⟨rfl,(zI h1).symm,rfl⟩|(simp only[ka,jH] at hk;cases hk;done)
    |succ n=>cases p<;>first|(cases h1;done)|(simp only[ka,jH] at hk;cases hk;done)
   obtain⟨rfl,rfl,h0⟩:=this;exact⟨g,rfl,ht,by rw[h0];exact zm h.2⟩
  |cons g' r=>
   cases p<;>simp only[qN] at h<;>try (cases h;done)
   rename_i a b;simp only[ze] at h;cases f with
   |zero=>simp only[nQ,zE] at h1;subst h1;exact⟨g,rfl,bY h.1.1,by simpa[fZ] using zm h.1.2⟩
   |succ n=>obtain⟨fd,h2,h3,h4⟩:=ih b (off+aJ a) n h.2 h1;exact⟨fd,by simpa using h2,h3,by simp only[fZ];omega⟩
theorem Dk{t:TypeId}{b:Bool}{n:Nat}(h:tH P t=some (b,n)):∃i d,P.info? t=some i/\i.size=n/\P.underlying t=some d/\A8 d=b:=by
 unfold tH at h;cases h1:P.types.toList[t]? with
 |none=>rw[h1] at h;cases h
 |some i=>
  rw[h1] at h;simp only at h;cases h2:desc P t with
  |none=>rw[h2] at h;cases h
  |some d=>
   rw[h2] at h;refine⟨i,d,I9 h1,?_,kN h2,?_⟩
   ·cases d<;>simp only[zE,Prod.mk.injEq] at h<;>exact h.2
   ·cases d<;>simp only[zE,Prod.mk.injEq] at h<;>exact h.1
theorem XH{t:TypeId}{f:Nat}{fd:Field}(h:IG P t f=some fd):∃fs,P.underlying t=some (.struct fs)/\desc P t=some (.struct fs)/\fs[f]?=some fd:=by
 unfold IG at h;split at h
 ·rename_i fs e;exact⟨fs,kN e,e,by rw[<-zL];exact h⟩
 ·cases h
theorem MM(hC:cD C){t:TypeId}{p:Ty}(h:C.ty t=some (.st p)):∃fs,desc C.P t=some (.struct fs)/\C.P.underlying t=some (.struct fs)/\qN C fs.toList p 0=true:=by obtain⟨d,h1,h2,h3⟩:=(hC.eM _ _ h).desc;cases d<;>first|exact⟨_,h1,h2,h3⟩|(simp only[mz] at h3;cases h3;done)
theorem Ji:∀{cs:List V} {zs:List Value} {i:Nat} {v:V},cd φ o imm w cs zs->cs[i]?=some v->∃z,zs[i]?=some z/\aq φ o imm w v z
 |[],_,_,_,_,h=>by simp at h
 |x::l,_,0,v,⟨z,r,e,h1,_⟩,h=>by simp only[List.getElem?_cons_zero,zE] at h;subst h e;exact⟨z,rfl,h1⟩
 |x::l,_,i+1,v,⟨z,r,e,_,h2⟩,h=>by subst e;simp only[List.getElem?_cons_succ] at h ⊢;exact Ji h2 h
theorem Jj:∀{cs:List V} {zs:List Value} (n:Nat),cd φ o imm w cs zs->cd φ o imm w (cs.drop n) (zs.drop n)
 |_,_,0,h=>h
 |[],_,n+1,h=>by simp[cd] at h;subst h;simp[cd]
 |x::l,_,n+1,⟨z,r,e,_,h2⟩=>by subst e;exact Jj n h2
theorem Jk:∀{cs:List V} {zs:List Value} (n:Nat),cd φ o imm w cs zs->cd φ o imm w (cs.take n) (zs.take n)
 |_,_,0,h=>by simp[cd]
 |[],_,n+1,h=>by simp[cd] at h;subst h;simp[cd]
 |x::l,_,n+1,⟨z,r,e,h1,h2⟩=>by subst e;exact⟨z,_,rfl,h1,Jk n h2⟩
theorem Dl:∀{cs:List V} {zs:List Value},cd φ o imm w cs zs->cs.length=zs.length
 |[],_,h=>by simp[cd] at h;subst h;rfl
 |x::l,_,⟨z,r,e,_,h2⟩=>by subst e;simp[Dl h2]
theorem Dm:∀{cs ds:List V} {zs ys:List Value},cd φ o imm w cs zs->cd φ o imm w ds ys->cd φ o imm w (cs++ds) (zs++ys)
 |[],_,_,_,h,h'=>by simp[cd] at h;subst h;exact h'
 |x::l,_,_,_,⟨z,r,e,h1,h2⟩,h'=>by subst e;exact⟨z,_,rfl,h1,Dm h2 h'⟩
theorem XI(hm:MRel C X φ o w){t:TypeId}{cs:List V}{zs:Array Value}(h:cd φ o (ah X φ o w) w cs zs.toList):aq φ o (ah X φ o w) w (Md lf C o t cs) (.agg zs):=by
 have Ez:aq φ o (ah X φ o w) w (.agg cs) (.agg zs):=⟨zs,rfl,h⟩;unfold Md;split
 ·rename_i p _;split
  ·rename_i e1 _;split
   ·rename_i x e;have hf:∀c,c∈cs->sZ o c:=Qb (fun id hi=>by unfold fj at hi;rw[e1] at hi;cases hi);obtain⟨zc,zr,g1,g2,g3,_⟩:=XB hm _ _ _ _ _ h hf e;have:zr=[]:=g3;subst this;exact⟨zs,rfl,by rw[g1,zt];exact g2⟩
   ·exact Ez
  ·exact Ez
 ·exact Ez
end
theorem qj0{α:Type}{l:List α}{n b m:Nat}(h:(((l.take n).drop b).take m).length=m):((l.take n).drop b).take m=(l.drop b).take m:=by rw[List.drop_take,List.take_take] at h ⊢;rw[zQ] at h;rw[Nat.min_eq_left om]
section
variable {P:Program} {C:Cx} {X:Nat→Prop} {φ:Nat→Addr} {o:Nat→Obj} {w:World} {imm:Nat→Prop}
theorem Qg:∀{p:Ty} {f:Nat} {u:Ty},nQ p f=some u->PV p f=u:=by
 intro p
 induction p with
 |pair a b _ kh=>intro f u h;cases f with|zero=>exact zI h|succ n=>exact kh h
 |unit=>intro f u h;cases f<;>cases h
 |_=>intro f u h;cases f with|zero=>exact zI h|succ n=>cases h
theorem qx1:∀(p:Ty) (f:Nat) (y:den p) {u:Ty},nQ p f=some u->∃z,Hd p f y=some ⟨u,z⟩:=by
 intro p
 induction p with
 |pair a b _ kh=>intro f y u h;cases f with|zero=>have:=zI h;subst this;exact⟨y.1,rfl⟩|succ n=>exact kh n y.2 h
 |unit=>intro f y u h;cases f<;>cases h
 |ks q _=>intro f y u h;cases f with|zero=>have:=zI h;subst this;exact⟨AQ q y,rfl⟩|succ n=>cases h
 |_=>intro f y u h;cases f with|zero=>have:=zI h;subst this;exact⟨y,rfl⟩|succ n=>cases h
theorem XJ:∀(path:List Nat) (t:Ty) (x:den t) {u:Ty},Ab path t=some u->∃y,L2 path t x=some ⟨u,y⟩/\∀(imm:Nat->Prop) (w:World) cs,aA imm w t x cs->aA imm w u y ((cs.drop (jy path t)).take (aJ u))
 |[],t,x,u,h=>by have:=zI h;subst this;refine⟨x,rfl,fun imm w cs hc=>?_⟩;rw[show jy [] t=0 from rfl,List.drop_zero,<-gY _ _ _ hc,List.take_length];exact hc
 |f::r,t,x,u,h=>by
  cases t<;>simp only[Ab] at h<;>try (cases h;done)
  rename_i p;split at h
  ·rename_i u1 h1;obtain⟨y,h2⟩:=qx1 p f x h1;obtain⟨y',h3,h4⟩:=XJ r u1 y h;refine⟨y',by simp only[L2,He,h2];exact h3,fun imm w cs hc=>?_⟩;obtain⟨_,h5⟩:=Qe (imm:=imm) (w:=w) p f x h2;have h6:=h4 imm w _ (h5 cs hc);have hl:=gY _ _ _ h6;rw[qj0 hl,List.drop_drop] at h6;simp only[jy,Qg h1];exact h6
  ·cases h
theorem HI{a:Addr}{cs:List Value}(k n:Nat)(h:kg w a cs):kg w ⟨a.block,a.off+k,none⟩ ((cs.drop k).take n):=by
 intro j hj;have hc:k+j<cs.length:=by simp at hj;omega
 have:=h (k+j) hc;simp only[List.getElem_take,List.getElem_drop];rw[<-this,Nat.add_assoc]
theorem Jl{b:Nat}{c:Array Value}{el:TypeId}{fz:Nat×Nat}(h:w.heap[b]?=some (.cells c el fz))(off n:Nat):kg w ⟨b,off,none⟩ ((c.toList.drop off).take n):=by
 intro j hj;have hc:off+j<c.size:=by simp at hj;omega
 simp[World.cell?,h,hc]
theorem XK(hC:cD C)(hm:MRel C X φ o w){t:TypeId}{x:V}{z:Value}{v:V}{u:List (Nat×Obj)}(hx:aq φ o (ah X φ o w) w x z)(h:(Me lf C o t x).aE v u):u=[]/\pA C.P φ o (ah X φ o w) w v (Instr.loadAt t z):=by
 unfold Me at h;split at h
 ·rename_i t' d;rw[dU,dR] at h;obtain⟨h1,rfl,rfl⟩:=h;obtain⟨a,cs,rfl,h2,_,h4,h5⟩:=hx;obtain⟨v,h6,h7⟩:=XG (hC.eM _ _ (bY h1)) h2 h4 h5;exact⟨rfl,v,by simp[Instr.loadAt,Instr.sureAddr,h6],h7⟩
 ·rename_i t' d;split at h
  ·rename_i n hk;rw[dR] at h;obtain⟨rfl,rfl⟩:=h;obtain⟨i,d',g1,g2,g3,g4⟩:=Dk hk;obtain⟨a,b,cs,rfl,h2,h3,h4,h5⟩:=hx;refine⟨rfl,.pointer (some b),?_,b,cs,rfl,h5⟩;have hc:w.cell? a=some (.pointer (some b)):=by have:=h4 0 (by simp);obtain⟨b1,f1,s1⟩:=a;simp only at h2;subst h2;simpa using this
   simp[Instr.loadAt,Instr.sureAddr,loadVar,Ey g3,g4,hc]
  ·cases h
 ·rename_i id off;have ho:=hm.ay id;unfold aq at hx;split at h
  ·rename_i cs e;rw[e] at hx ho;simp only at hx;subst hx;obtain⟨h0,c,el,lo,hi,h1,h2,h3⟩:=ho;split at h
   ·rename_i n hk;rw[dU,dR] at h;obtain⟨hb,rfl,rfl⟩:=h;have hb:=zB hb;obtain⟨i,d,g1,g2,g3,g4⟩:=Dk hk;have hl:=Dl h3;refine⟨rfl,.agg ((c.toList.drop off).take n).toArray,?_,XI hm (by simpa using Jk n (Jj off h3))⟩;have:=XD (P:=C.P) (w:=w) (a:=⟨(φ id).block,(φ id).off+off,none⟩) rfl (n:=n) (cs:=(c.toList.drop off).take n) (by simp at hl ⊢;omega) (by
     rw[h0,zD];exact Jl h1 off n)
    simp[Instr.loadAt,Instr.sureAddr,loadVar,Ey g3,g4,jz g1,g2,this]
   ·rename_i n hk;split at h
    ·rename_i v' hv;rw[dR] at h;obtain⟨rfl,rfl⟩:=h;obtain⟨i,d,g1,g2,g3,g4⟩:=Dk hk;obtain⟨z,hz,hr⟩:=Ji h3 hv;refine⟨rfl,z,?_,hr⟩;have:w.cell? ⟨(φ id).block,(φ id).off+off,none⟩=some z:=by rw[h0,zD];simp only[World.cell?,h1];simpa using hz
     simp[Instr.loadAt,Instr.sureAddr,loadVar,Ey g3,g4,this]
    ·cases h
   ·cases h
  ·cases h
 ·rename_i id ver i path;have ho:=hm.ay id;unfold aq at hx;split at h
  ·rename_i e aC fr s e1;rw[e1] at hx ho;split at h
   ·rename_i t' ht;rw[dU,mj,ze] at h;obtain⟨⟨h1,h2⟩,x,h3,h4⟩:=h;obtain⟨_,hx⟩:=hx;obtain⟨hi,rfl⟩:=hx (zm h1);obtain⟨y,h5,h6⟩:=XJ path e x ht;rw[h5] at h4;simp only[Prod.mk.injEq] at h4;obtain⟨rfl,rfl⟩:=h4;obtain⟨g1,g2,g3⟩:=ho;have hn:s.nil=false:=by
     cases hn:s.nil with
     |false=>rfl
     |true=>rw[g2 hn] at hi;simp at hi
    obtain⟨g4,ec,g5,g6,_⟩:=(g3 hn).resolve_right fun g=>by rw[g.2.1] at hi;simp at hi
    have h3:s.l[i]?=some x:=h3;obtain⟨he,hf⟩:=zF.1 h3;have hr:=I2 g5 i he;rw[hf] at hr;have hr:=h6 _ _ _ hr;have hc:=HI (jy path e) (aJ t') (HI (i*aJ e) (aJ e) g6);obtain⟨v,k1,k2⟩:=XG (w:=w) (hC.eM _ _ (bY h2)) (a:=⟨(φ id).block,(φ id).off+i*aJ e+jy path e,none⟩) rfl hr hc;exact⟨rfl,v,by simp[Instr.loadAt,Instr.sureAddr,k1],k2⟩
   ·cases h
  ·cases h
 ·cases h
theorem quq(hC:cD C)(_hm:MRel C X φ o w){t:TypeId}{f:Nat}{x:V}{z:Value}{v:V}{u:List (Nat×Obj)}(hx:aq φ o (ah X φ o w) w x z)(h:(Pg C t x f).aE v u):u=[]/\pA C.P φ o (ah X φ o w) w v (Instr.field t z f):=by
 unfold Pg at h;split at h
 ·rename_i t' y;rw[dU] at h;obtain⟨h1,h⟩:=h;split at h
  ·rename_i u' z' h2;rw[dR] at h;obtain⟨rfl,rfl⟩:=h;cases t'<;>simp only[He] at h2<;>try (cases h2;done)
   rename_i p;obtain⟨fs,g1,g2,g3⟩:=MM hC (bY h1);obtain⟨k1,k2⟩:=Qe (imm:=ah X φ o w) (w:=w) p f y h2;obtain⟨fd,m1,m2,m3⟩:=Qf hC _ _ _ _ g3 k1;obtain⟨cs,rfl,hr⟩:=hx;obtain⟨v,n1,n2⟩:=ML (w:=w) (hC.eM _ _ m2) (cs:=cs) (off:=fd.offset) (by rw[m3,zD];exact k2 _ hr);refine⟨rfl,v,?_,n2⟩;rw[zL] at m1;simp[Instr.field,run_underlying g2,m1,asAgg,n1]
  ·cases h
 ·rename_i cs;obtain⟨c,rfl,hr⟩:=hx;split at h
  ·rename_i fd hf;obtain⟨fs,f1,f2,f3⟩:=XH hf;split at h
   ·rename_i n hk;rw[dU,dR] at h;obtain⟨_,rfl,rfl⟩:=h;obtain⟨i,d,g1,g2,g3,g4⟩:=Dk hk;refine⟨rfl,.agg (c.extract fd.offset (fd.offset+n)),?_,_,rfl,?_⟩
    ·simp[Instr.field,run_underlying f1,f3,asAgg,part,Ey g3,g4,jz g1,g2]
    ·rw[Array.toList_extract,List.extract_eq_take_drop,Nat.add_sub_cancel_left];exact Jk n (Jj _ hr)
   ·rename_i n hk;split at h
    ·rename_i v' hv;rw[dR] at h;obtain⟨rfl,rfl⟩:=h;obtain⟨i,d,g1,g2,g3,g4⟩:=Dk hk;obtain⟨z,hz,hc⟩:=Ji hr hv;rw[zL] at hz;refine⟨rfl,z,?_,hc⟩;simp[Instr.field,run_underlying f1,f3,asAgg,part,Ey g3,g4,hz]
    ·cases h
   ·cases h
  ·cases h
 ·cases h
theorem qj1(hC:cD C)(_hm:MRel C X φ o w){t:TypeId}{f:Nat}{x:V}{z:Value}{v:V}{u:List (Nat×Obj)}(hx:aq φ o (ah X φ o w) w x z)(h:(Hn C o t x f).aE v u):u=[]/\pA C.P φ o (ah X φ o w) w v (Instr.fieldAt t z f):=by
 unfold Hn at h;split at h
 ·cases h
 ·rename_i fd hf;obtain⟨fs,f1,XL,f2⟩:=XH hf;split at h
  ·rename_i b sz hk;rw[dU] at h;obtain⟨he,h⟩:=h;have he:0<sz:=zB he;obtain⟨i,d,g1,g2,g3,g4⟩:=Dk hk;have run:∀a:Addr,(Instr.fieldAt t (.pointer (some a)) f).run C.P w=.ok (.pointer (some (a.add fd.offset))) w:=by
    intro a;have:i.size≠0:=om
    simp[Instr.fieldAt,run_underlying f1,f2,Instr.sureAddr,fieldPlace,jz g1,this]
   split at h
   ·rename_i id off;split at h
    ·rename_i cs e;rw[dR] at h;obtain⟨rfl,rfl⟩:=h;unfold aq at hx;rw[e] at hx;simp only at hx;subst hx;refine⟨rfl,_,run _,?_⟩;rw[qO rfl];unfold aq;rw[e];simp only[Nat.add_assoc]
    ·cases h
   ·rename_i t' y;rw[dU] at h;obtain⟨h1,h⟩:=h;split at h
    ·rename_i u' z' h2;rw[dR] at h;obtain⟨rfl,rfl⟩:=h;cases t'<;>simp only[He] at h2<;>try (cases h2;done)
     rename_i p;obtain⟨kl,e1,e2,e3⟩:=MM hC (bY h1);rw[XL] at e1;injection e1 with e1;injection e1 with e1;subst e1;obtain⟨k1,k2⟩:=Qe (imm:=ah X φ o w) (w:=w) p f y h2;obtain⟨fd',m1,m2,m3⟩:=Qf hC _ _ _ _ e3 k1;rw[zL,f2] at m1;injection m1 with m1;subst m1;obtain⟨a,cs,rfl,hs,hi,hr,hc⟩:=hx;refine⟨rfl,_,run _,?_⟩;rw[qO hs,m3,zD];exact⟨_,_,rfl,rfl,hi,k2 _ hr,HI _ _ hc⟩
    ·cases h
   ·rename_i id ver j path;split at h
    ·rename_i e aC fr s e1;split at h
     ·rename_i t' ht;split at h
      ·rename_i p;split at h
       ·rename_i u' hu;rw[dU,dR,ze] at h;obtain⟨⟨h1,h2⟩,rfl,rfl⟩:=h;obtain⟨kl,k1,k2,k3⟩:=MM hC (bY h2);rw[XL] at k1;injection k1 with k1;injection k1 with k1;subst k1;obtain⟨fd',m1,m2,m3⟩:=Qf hC _ _ _ _ k3 hu;rw[zL,f2] at m1;injection m1 with m1;subst m1;unfold aq at hx;rw[e1] at hx;obtain⟨h0,hx⟩:=hx;obtain⟨hi,rfl⟩:=hx (zm h1);refine⟨rfl,_,run _,?_⟩;rw[qO rfl];unfold aq;rw[e1];refine⟨h0,fun _=>⟨hi,?_⟩⟩;have key:∀(path:List Nat) (t:Ty),Ab path t=some (.st p)->jy (path++[f]) t=jy path t+fZ p f:=by
         intro path
         induction path with
         |nil=>intro t h;have:=zI h;subst this;simp[jy]
         |cons g r ih=>
          intro t h;cases t<;>simp only[Ab] at h<;>try (cases h;done)
          split at h
          ·rename_i q u1 h1;have:=ih u1 h;simp only[List.cons_append,jy,Qg h1,this,Nat.add_assoc]
          ·cases h
        rw[key path e ht,m3,zD,<-Nat.add_assoc]
       ·cases h
      ·cases h
     ·cases h
    ·cases h
   ·cases h
  ·cases h
end
section
variable {P:Program} {C:Cx} {X:Nat→Prop} {φ:Nat→Addr} {o:Nat→Obj} {w:World} {imm:Nat→Prop}
theorem Ak{t:TypeId}{e:Ty}(h:gK e (oT C t)=true):∃i,C.P.underlying t=some (.slice i)/\desc C.P t=some (.slice i)/\C.ty i=some e:=by
 have h:=Ep h;unfold oT at h;split at h
 ·rename_i i e1;exact⟨i,kN e1,e1,h⟩
 ·cases h
theorem Qh{t:TypeId}{e:Ty}(h:oT C t=some e):∃i,C.P.underlying t=some (.slice i)/\desc C.P t=some (.slice i)/\C.ty i=some e:=by
 unfold oT at h;split at h
 ·rename_i i e1;exact⟨i,kN e1,e1,h⟩
 ·cases h
theorem Qi{t:TypeId}{n:Nat}{e:Ty}(h:IQ C t=some (n,e)):∃i,C.P.underlying t=some (.array n i)/\desc C.P t=some (.array n i)/\C.ty i=some e:=by
 unfold IQ at h;split at h
 ·rename_i m i e1;split at h
  ·rename_i e' e2;simp only[zE,Prod.mk.injEq] at h;obtain⟨rfl,rfl⟩:=h;exact⟨i,kN e1,e1,e2⟩
  ·cases h
 ·cases h
theorem Jm{x:V}{z:Value}{p:(_:IntKind)×Int}(h:asInt x=some p)(hx:aq φ o imm w x z):z=.int p.1 p.2/\gH p.1 p.2:=by
 unfold asInt at h;split at h
 ·injection h with h;subst h;exact lG hx
 ·cases h
theorem MN{α:Type}{l:List α}{n:Int}{y:α}(h:cZ l n=some y):0<=n/\n<l.length/\l[n.toNat]?=some y:=by
 unfold cZ at h;split at h
 ·rename_i h0;obtain⟨h1,_⟩:=zF.1 h;exact⟨h0,by omega,h⟩
 ·cases h
theorem MO{α:Type}{l:List α}{n:Int}{j:Nat}(h:bA l n=some j):0<=n/\n<l.length/\j=n.toNat:=by
 unfold bA at h;split at h
 ·rename_i h0;injection h with h;exact⟨h0.1,h0.2,h.symm⟩
 ·cases h
theorem XM{α:Type}{l m:List α}{a b:Int}(h:cf l a b=some m):0<=a/\a<=b/\b<=l.length/\m=(l.take b.toNat).drop a.toNat:=by
 unfold cf at h;split at h
 ·rename_i h0;injection h with h;exact⟨h0.1,h0.2.1,h0.2.2,h.symm⟩
 ·cases h
theorem MP{n b:Int}{p:Nat}(h:ef n b=some p):0<=b/\b<=n/\p=b.toNat:=by
 unfold ef at h;split at h
 ·rename_i h0;injection h with h;exact⟨h0.1,h0.2,h.symm⟩
 ·cases h
theorem Al{α β:Type}{x:Option α}{f:α->Option β}{y:β}(h:aj x f=some y):∃a,x=some a/\f a=some y:=by
 cases x with
 |none=>cases h
 |some a=>exact⟨a,rfl,h⟩
theorem qur(hC:cD C){t:TypeId}{x i:V}{zx zi:Value}{v:V}{u:List (Nat×Obj)}(hx:aq φ o imm w x zx)(hi:aq φ o imm w i zi)(h:(Pf lf C t x i).aE v u):u=[]/\pA C.P φ o imm w v (Instr.index t zx zi):=by
 unfold Pf at h;split at h
 ·cases h
 ·rename_i k n hk;obtain⟨rfl,_⟩:=Jm hk hi;split at h
  ·rename_i l;rw[dU,Df] at h;obtain⟨h1,y,h2,h3⟩:=h;simp only[Prod.mk.injEq] at h3;obtain⟨rfl,rfl⟩:=h3;obtain⟨s,rfl,rfl,_⟩:=nV hx;have h1:=zm h1;have hu:C.P.underlying t=some .string:=by unfold Mh at h1;split at h1<;>first|(rename_i e;exact kN e)|cases h1
   obtain⟨g1,g2,g3⟩:=MN h2;rw[zY,Option.map_eq_some_iff] at g3;obtain⟨b,g3,rfl⟩:=g3;refine⟨rfl,.int .u8 b.toNat,?_,lA ?_⟩
   ·have e:s[n.toNat]?=some b:=by
     obtain⟨g4,g5⟩:=zF.1 g3;have g4':n.toNat<s.size:=by simpa using g4
     rw[getElem?_pos s n.toNat g4'];have g5':s.data[n.toNat]=b:=by simpa using g5
     exact congrArg some g5'
    simp[Instr.index,asIntOf,run_underlying hu,g1,e]
   ·have:=b.toNat_lt;unfold gH IntKind.min IntKind.max;simp[IntKind.signed,IntKind.bits];omega
  ·rename_i m e l;split at h
   ·rename_i m' e' ha;rw[dU,Df,ze] at h;obtain⟨⟨h1,hc⟩,y,h2,h3⟩:=h;simp only[Prod.mk.injEq] at h3;obtain⟨rfl,rfl⟩:=h3;have:=zI (Ep hc);subst this;obtain⟨ei,hu,_,he⟩:=Qi ha;have h1:=zm h1;subst h1;obtain⟨cs,rfl,hl,hr⟩:=hx;obtain⟨g1,g2,g3⟩:=MN h2;obtain⟨g4,g5⟩:=zF.1 g3;have hT:=hC.eM _ _ he;have:=I2 hr _ g4;rw[g5] at this;obtain⟨i,z,k1,_,k2,_⟩:=hT.info;obtain⟨v,k3,k4⟩:=ML (w:=w) hT (cs:=cs) (off:=n.toNat*aJ e') this;refine⟨rfl,v,?_,k4⟩;have hf:n<(m:Int):=by have:List.length l=m:=hl;omega
    simp[Instr.index,asIntOf,run_underlying hu,g1,hf,jz k1,k2,k3]
   ·cases h
  ·cases h
theorem MQ{t e:TypeId}{i:TypeInfo}(hu:P.underlying t=some (.slice e))(hi:P.info? e=some i){a:Addr}(hs:a.spot=none){len cap:Nat}{k:IntKind}{n:Int}(h0:0<=n)(h1:n<len):(Instr.indexAt t (.slice (some a) len cap) (.int k n)).run P w=.ok (.pointer (some ⟨a.block,a.off+n.toNat*i.size,none⟩)) w:=by simp[Instr.indexAt,asIntOf,run_underlying hu,h0,h1,jz hi,qO hs]
theorem XN{t e:TypeId}{i:TypeInfo}{m:Nat}(hu:P.underlying t=some (.array m e))(hi:P.info? e=some i){a:Addr}(hs:a.spot=none){k:IntKind}{n:Int}(h0:0<=n)(h1:n<m):(Instr.indexAt t (.pointer (some a)) (.int k n)).run P w=.ok (.pointer (some ⟨a.block,a.off+n.toNat*i.size,none⟩)) w:=by simp[Instr.indexAt,asIntOf,run_underlying hu,h0,h1,jz hi,qO hs,Instr.sureAddr]
theorem qj2(hC:cD C)(hm:MRel C X φ o w){t:TypeId}{x i:V}{zx zi:Value}{v:V}{u:List (Nat×Obj)}(hx:aq φ o (ah X φ o w) w x zx)(hi:aq φ o (ah X φ o w) w i zi)(h:(Pe lf C o t x i).aE v u):u=[]/\pA C.P φ o (ah X φ o w) w v (Instr.indexAt t zx zi):=by
 unfold Pe at h;split at h
 ·cases h
 ·rename_i k n hk;obtain⟨rfl,_⟩:=Jm hk hi;split at h
  ·rename_i e s;rw[dU,mj] at h;obtain⟨h1,y,h2,h3⟩:=h;simp only[Prod.mk.injEq] at h3;obtain⟨rfl,rfl⟩:=h3;obtain⟨ei,hu,_,he⟩:=Ak h1;obtain⟨ii,z,k1,_,k2,_⟩:=(hC.eM _ _ he).info;obtain⟨g1,g2,g3⟩:=MN h2;obtain⟨_,hs⟩:=Dg hx;rcases hs with ⟨_,e2,_⟩|⟨_,a,cap,ec,rfl,e2,e3,e4,e5,e6⟩
   ·rw[e2] at g2;simp at g2;omega
   ·refine⟨rfl,_,MQ hu k1 (e2 om) g1 g2,?_⟩;obtain⟨g4,g5⟩:=zF.1 g3;have:=I2 e4 _ g4;rw[g5] at this;rw[k2];exact⟨_,_,rfl,rfl,e3 (fun h=>by rw[h] at g4;simp at g4),this,HI _ _ e5⟩
  ·rename_i m e l;split at h
   ·rename_i m' e' ha;rw[dU,mj,ze] at h;obtain⟨⟨h1,hc⟩,y,h2,h3⟩:=h;simp only[Prod.mk.injEq] at h3;obtain⟨rfl,rfl⟩:=h3;have:=zI (Ep hc);subst this;obtain⟨ei,hu,_,he⟩:=Qi ha;obtain⟨ii,z,k1,_,k2,_⟩:=(hC.eM _ _ he).info;have h1:=zm h1;subst h1;obtain⟨g1,g2,g3⟩:=MN h2;obtain⟨a,cs,rfl,e2,e3,⟨e4,e4'⟩,e5⟩:=hx;have hg:n<(m:Int):=by have:List.length l=m:=e4;omega
    refine⟨rfl,_,XN hu k1 e2 g1 hg,?_⟩;obtain⟨g4,g5⟩:=zF.1 g3;have:=I2 e4' _ g4;rw[g5] at this;rw[k2];exact⟨_,_,rfl,rfl,e3,this,HI _ _ e5⟩
   ·cases h
  ·rename_i id ver;split at h
   ·rename_i e aC fr s e1;rw[dU,mj,ze] at h;obtain⟨⟨h1,hc⟩,y,h2,h3⟩:=h;simp only[Prod.mk.injEq] at h3;obtain⟨rfl,rfl⟩:=h3;obtain⟨ei,hu,_,he⟩:=Ak hc;obtain⟨ii,z,k1,_,k2,_⟩:=(hC.eM _ _ he).info;obtain⟨g1,g2,rfl⟩:=MO h2;have ho:=hm.ay id;unfold aq at hx;rw[e1] at hx ho;obtain⟨h0,hx⟩:=hx;rcases hx (zm h1) with ⟨hn,rfl⟩|⟨hn,cap,rfl,e3,e4⟩
    ·rw[ho.2.1 hn] at g2;simp at g2;omega
    ·refine⟨rfl,_,MQ hu k1 (a:=bare (φ id)) (El e4.1 om) g1 g2,?_⟩;unfold aq;rw[e1,k2];exact⟨h0,fun _=>⟨by omega,by simp[jy,bare]⟩⟩
   ·cases h
  ·rename_i id ver p cp;split at h
   ·rename_i e aC fr s e1;rw[dU,mj,ze] at h;obtain⟨⟨h1,hc⟩,y,h2,h3⟩:=h;simp only[Prod.mk.injEq] at h3;obtain⟨rfl,rfl⟩:=h3;obtain⟨ei,hu,_,he⟩:=Ak hc;obtain⟨ii,z,k1,_,k2,_⟩:=(hC.eM _ _ he).info;obtain⟨g1,g2,rfl⟩:=MO h2;have ho:=hm.ay id;unfold aq at hx;rw[e1] at hx ho;obtain⟨h0,hx⟩:=hx;obtain⟨hp,hx,_⟩:=hx (zm h1);have HK:n<(p:Int):=by
     have:(lf.aI s.l p).length=p:=by simp[lf,aI,Nat.min_eq_left hp]
     rw[this] at g2;exact g2
    rcases hx with ⟨hn,rfl⟩|⟨hn,cap,rfl,e3,e4⟩
    ·rw[ho.2.1 hn] at hp;simp at hp;omega
    ·refine⟨rfl,_,MQ hu k1 (a:=bare (φ id)) (El e4.1 om) g1 HK,?_⟩;unfold aq;rw[e1,k2];exact⟨h0,fun _=>⟨by omega,by simp[jy,bare]⟩⟩
   ·cases h
  ·rename_i id ver lo;split at h
   ·rename_i e aC fr s e1;rw[dU,mj,ze] at h;obtain⟨⟨h1,hc⟩,y,h2,h3⟩:=h;simp only[Prod.mk.injEq] at h3;obtain⟨rfl,rfl⟩:=h3;obtain⟨ei,hu,_,he⟩:=Ak hc;obtain⟨ii,z,k1,_,k2,_⟩:=(hC.eM _ _ he).info;have h2:az (cK 0 n) (bA s.l (aQ lo n)) none=some y:=h2;have hf:0<=n:=by
     cases h:cK 0 n with
     |true=>exact zM h
     |false=>rw[h] at h2;cases h2
    have h2:bA s.l (aQ lo n)=some y:=by have:cK 0 n=true:=zu hf;rw[this] at h2;exact h2
    obtain⟨g1,g2,rfl⟩:=MO h2;unfold aQ at g1 g2;have ho:=hm.ay id;unfold aq at hx;rw[e1] at hx ho;obtain⟨h0,hx⟩:=hx;obtain⟨kk,rfl,hk,hx⟩:=hx (zm h1);rcases hx with ⟨hn,rfl⟩|⟨hn,cap,rfl,e3⟩
    ·rw[ho.2.1 hn] at g2;simp at g2;omega
    ·have hj:cap≠0:=om
     rw[if_neg hj];refine⟨rfl,_,MQ hu k1 (a:=⟨(φ id).block,(φ id).off+kk*aJ e,none⟩) rfl hf (show n<((s.l.length-kk:Nat):Int) by omega),?_⟩;unfold aq;rw[e1,k2];have e4:(aQ (kk:Int) n).toNat=kk+n.toNat:=by unfold aQ;omega
     refine⟨h0,fun _=>⟨by rw[e4];omega,?_⟩⟩;rw[e4,Nat.add_mul];simp[jy,Nat.add_assoc]
   ·cases h
  ·rename_i id;split at h
   ·rename_i e fr s e1;split at h
    ·rename_i m e' ha;rw[dU,mj] at h;obtain⟨h1,y,h2,h3⟩:=h;simp only[Prod.mk.injEq] at h3;obtain⟨rfl,rfl⟩:=h3;have:=zI (Ep h1);subst this;obtain⟨ei,hu,_,he⟩:=Qi ha;obtain⟨ii,z,k1,_,k2,_⟩:=(hC.eM _ _ he).info;obtain⟨q,h3,h4⟩:=Al h2;obtain⟨g1,g2,rfl⟩:=MO h4;obtain⟨_,h5,_⟩:=MP h3;have h5:n+1<=(m:Int):=h5;unfold aq at hx;rw[e1] at hx;have:=hx rfl;subst this;refine⟨rfl,_,XN hu k1 rfl g1 (by show n<(m:Int);omega),?_⟩;unfold aq;rw[e1,k2];exact⟨Nat.le_refl _,fun _=>⟨by omega,by simp[jy]⟩⟩
    ·cases h
   ·cases h
  ·cases h
theorem z2b(hm:MRel C X φ o w){t ty:TypeId}{ts:List TypeId}{x:V}{z:Value}{v:V}{u:List (Nat×Obj)}(hx:aq φ o (ah X φ o w) w x z)(h:(Pa lf C o t x).aE v u):u=[]/\pA C.P φ o (ah X φ o w) w v (Builtin.len_ (t::ts).toArray ty #[z]):=by
 have bd:∀n:Nat,n<=ch->gH .i64 (n:Int):=by intro n hn;unfold ch at hn;unfold gH IntKind.min IntKind.max;simp[IntKind.signed,IntKind.bits];omega
 unfold Pa at h;split at h
 ·rename_i hd;have hu:=kN hd;split at h
  ·rename_i l;rw[dR] at h;obtain⟨rfl,rfl⟩:=h;obtain⟨s,rfl,rfl,hs⟩:=nV hx;exact⟨rfl,goInt (s.data.toList.map fun b=>(b.toNat:Int)).length,by simp[Builtin.len_,run_underlying hu],lA (bd _ (by simpa using hs))⟩
  ·cases h
 ·rename_i e hd;have hu:=kN hd;split at h
  ·rename_i e s;rw[dR] at h;obtain⟨rfl,rfl⟩:=h;obtain⟨h1,h2⟩:=Dg hx;refine⟨rfl,goInt s.l.length,?_,lA (bd _ h1)⟩;rcases h2 with ⟨_,h3,rfl⟩|⟨_,a,cap,ec,rfl,_⟩
   ·simp[Builtin.len_,run_underlying hu,h3]
   ·simp[Builtin.len_,run_underlying hu]
  ·rw[dR] at h;obtain⟨rfl,rfl⟩:=h;have:z=.slice none 0 0:=hx;subst this;exact⟨rfl,goInt 0,by simp[Builtin.len_,run_underlying hu],lA (bd 0 (by unfold ch;omega))⟩
  ·split at h
   ·rename_i e s he;rw[dR] at h;obtain⟨rfl,rfl⟩:=h;obtain⟨⟨h1,h2⟩,_⟩:=MG hm.ay hx he;refine⟨rfl,goInt s.l.length,?_,lA (bd _ h1)⟩;rcases h2 with ⟨_,h3,rfl⟩|⟨_,a,cap,ec,rfl,_⟩
    ·simp[Builtin.len_,run_underlying hu,h3]
    ·simp[Builtin.len_,run_underlying hu]
   ·cases h
 ·rename_i kt vt hd;have hu:=kN hd;split at h
  ·rename_i id;split at h
   ·cases h
   ·cases h
  ·rw[dR] at h;obtain⟨rfl,rfl⟩:=h;have:z=.map none:=hx;subst this;exact⟨rfl,goInt 0,by simp[Builtin.len_,run_underlying hu],lA (bd 0 (by unfold ch;omega))⟩
  ·cases h
 ·rename_i n e hd;have hu:=kN hd;rw[dU,dR] at h;obtain⟨h1,rfl,rfl⟩:=h;have h1:=zB h1;refine⟨rfl,goInt n,?_,lA (bd n (by unfold ch;omega))⟩;simp[Builtin.len_,run_underlying hu]
 ·cases h
end
section
variable {P:Program} {C:Cx} {X:Nat→Prop} {φ:Nat→Addr} {o:Nat→Obj} {w:World} {imm:Nat→Prop}
def dY(C:Cx)(X:Nat->Prop)(φ:Nat->Addr)(o:Nat->Obj)(w:World)(v:V)(u:List (Nat×Obj))(s:Sem Value):Prop:=∃val w' φ',s.run C.P w=.ok val w'/\Comes C X φ φ' o u w w' v val
theorem dY.aR(hm:MRel C X φ o w){v:V}{u:List (Nat×Obj)}{s:Sem Value}(h:u=[]/\pA C.P φ o (ah X φ o w) w v s):dY C X φ o w v u s:=by obtain⟨rfl,val,h1,h2⟩:=h;exact⟨val,w,φ,h1,.same hm h2⟩
def v7(φ:Nat->Addr)(o:Nat->Obj)(imm:Nat->Prop)(w:World):Option V->Option Value->Prop
 |none,none=>True
 |some v,some z=>aq φ o imm w v z
 |_,_=>False
theorem s6{d a:Int}{h:Option V}{z:Option Value}(hb:bd d h=some a)(hr:v7 φ o imm w h z):(z=none/\a=d)\/∃k,z=some (.int k a):=by
 cases h with
 |none=>cases z with
  |none=>exact .inl ⟨rfl,(zI hb).symm⟩
  |some _=>exact hr.elim
 |some v=>cases z with
  |none=>exact hr.elim
  |some z=>
   simp only[bd] at hb;split at hb
   ·rename_i k n e;injection hb with hb;subst hb;exact .inr ⟨k,congrArg some (Jm e hr).1⟩
   ·cases hb
theorem EA{isS:Bool}{len cap:Nat}{lo hi:Option Value}{a b:Int}(hc:len<=cap)(ha:(lo=none/\a=0)\/∃k,lo=some (.int k a))(hb:(hi=none/\b=len)\/∃k,hi=some (.int k b))(h0:0<=a)(h1:a<=b)(h2:b<=len):(Instr.sliceBounds isS len cap lo hi none).run P w=.ok (a.toNat,b.toNat,cap) w:=by
 have h3:b<=(cap:Int):=om
 have h4:0<=b:=om
 have h5:(b.toNat:Int)=b:=om
 rcases ha with ⟨rfl,rfl⟩|⟨k,rfl⟩<;>rcases hb with ⟨rfl,rfl⟩|⟨k',rfl⟩
 ·simp[Instr.sliceBounds]
 ·simp[Instr.sliceBounds,Instr.sliceBound,asIntOf,h3,h4]
 ·simp[Instr.sliceBounds,Instr.sliceBound,asIntOf,h0,h1]
 ·simp[Instr.sliceBounds,Instr.sliceBound,asIntOf,h0,h1,h3,h4,h5]
theorem MR{len cap:Nat}{k k':IntKind}{b:Int}(h0:0<=b)(h1:b<=cap):(Instr.sliceBounds true len cap none (some (.int k b)) (some (.int k' b))).run P w=.ok (0,b.toNat,b.toNat) w:=by
 have h5:(b.toNat:Int)=b:=om
 simp[Instr.sliceBounds,Instr.sliceBound,asIntOf,h0,h1,h5]
theorem z78{a:Addr}{n m:Nat}(h:room w a n)(hm:m<=n):room w a m:=by obtain⟨c,el,lo,hi,h1,h2,h3⟩:=h;exact⟨c,el,lo,hi,h1,by omega,by omega⟩
def kO(fr:Nat)(o:Nat->Obj)(u:List (Nat×Obj)):Prop:=∀p,p∈u->fr<=p.1->p.1<fr+16->o p.1=.none
theorem Comes.v8(hm:MRel C X φ o w){fr:Nat}(hg:o fr=.none){e:Ty}(he:e≠.int .u8){nil:Bool}{z:Value}(hz:(nil=true/\z=.slice none 0 0)\/(nil=false/\∃a:Addr,z=.slice (some a) 0 0)):∃φ',Comes C X φ φ' o [(fr,.vec e 0 false ⟨nil,[]⟩)] w w (.bM fr 0) z:=by
 have key:∀a:Addr,a.spot≠none->((nil=true/\z=.slice none 0 0)\/(nil=false/\z=.slice (some (bare a)) 0 0))->Comes C X φ (cu φ fr a) o [(fr,.vec e 0 false ⟨nil,[]⟩)] w w (.bM fr 0) z:=by
  intro a ha hz;have hc:∀i,i∈bW [(fr,Obj.vec e 0 false ⟨nil,[]⟩)]->i=fr:=fun i hi=>by simpa[bW] using hi
  have hf:ak o [(fr,Obj.vec e 0 false ⟨nil,[]⟩)] fr=.vec e 0 false ⟨nil,[]⟩:=eH;have hx:∀i,i∈bW [(fr,Obj.vec e 0 false ⟨nil,[]⟩)]->aP (cu φ fr a i) (ak o [(fr,.vec e 0 false ⟨nil,[]⟩)] i)=true->False:=fun i hi hx=>by rw[hc i hi,hf,eH] at hx;exact ha (A4 hx).2.2
  refine Comes.make hm (Nat.le_refl _) (fun _ _ _=>rfl) (fun id hk=>iI fun e=>hk (by rw[e];exact zf ..)) (fun id _ hk=>iI fun e=>hk (by rw[e];exact zf ..)) (fun i hi=>?_) (fun i hi h=>(hx i hi h).elim) (fun i j hi hj h1 _ _ _=>(hx i hi h1).elim) (fun h1 h2 h3 i hi=>?_) (fun i hi=>?_) (fun _ _ _=>?_)
  ·rw[hc i hi,hg];trivial
  ·rw[hc i hi,hf];exact⟨Nat.zero_le _,fun _=>rfl,fun _=>.inr ⟨by rw[eH];exact ha,rfl,he⟩⟩
  ·rw[hc i hi,hf];exact fun h=>absurd h he
  ·unfold aq;rw[hf,eH];refine⟨Nat.le_refl _,fun _=>?_⟩;rcases hz with ⟨h1,h2⟩|⟨h1,h2⟩
   ·exact .inl ⟨h1,h2⟩
   ·exact .inr ⟨h1,0,h2,Nat.le_refl _,fun _=>rfl,fun _ h=>absurd h ha⟩
 rcases hz with ⟨h1,h2⟩|⟨h1,a,h2⟩
 ·exact⟨_,key ⟨0,0,some 0⟩ (by simp) (.inl ⟨h1,h2⟩)⟩
 ·exact⟨_,key (mark a) (qwq a) (.inr ⟨h1,by rw[qwp];exact h2⟩)⟩
theorem z2c{e:Ty}{l:List (den e)}{ec:List Value}{a b:Nat}(hb:b<=l.length)(hc:a<=b)(h:bc (aA imm w e) l ec):bc (aA imm w e) ((l.take b).drop a) ((ec.drop (a*aJ e)).take ((b-a)*aJ e)):=by have h1:=(tP a om h).2;have h2:=(tP (b-a) (by simp;omega) h1).1;rw[List.drop_take];exact h2
theorem XO{t:TypeId}{e:Ty}(hC:cD C){ei:TypeId}(hu:C.P.underlying t=some (.slice ei))(he:C.ty ei=some e){s:Sl (den e)}{z:Value}(hx:aq φ o imm w (.d (.sl e) s) z){lo hi:Option Value}{a b:Int}{m:List (den e)}(hk:(lo=none/\a=0)\/∃k,lo=some (.int k a))(hg:(hi=none/\b=s.l.length)\/∃k,hi=some (.int k b))(hm:cf s.l a b=some m):∃val,(Instr.sliceAt t z lo hi none).run C.P w=.ok val w/\aq φ o imm w (.d (.sl e) (⟨s.nil,m⟩:Sl (den e))) val:=by
 obtain⟨h0,h1,h2,rfl⟩:=XM hm;obtain⟨ii,zz,k1,_,k2,_⟩:=(hC.eM _ _ he).info;obtain⟨hl,hs⟩:=Dg hx;have hf:((s.l.take b.toNat).drop a.toNat).length=b.toNat-a.toNat:=by simp;omega
 rcases hs with ⟨g1,g2,rfl⟩|⟨g1,ad,cap,ec,rfl,g2,g3,g4,g5,g6⟩
 ·rw[g2] at h2;have e1:a=0:=by simp at h2;omega
  have e2:b=0:=by simp at h2;omega
  have hb:=EA (P:=C.P) (w:=w) (isS:=true) (len:=0) (cap:=0) (Nat.le_refl _) hk (by rw[g2] at hg;exact hg) h0 h1 (by simpa using h2);refine⟨.slice none 0 0,?_,?_⟩
  ·simp[Instr.sliceAt,run_underlying hu,Instr.slice,hb,jz k1,e1,e2]
  ·exact⟨_,rfl,by simp[g2],.inl ⟨g1,by simp[g2],rfl⟩⟩
 ·have hb:=EA (P:=C.P) (w:=w) (isS:=true) g6 hk hg h0 h1 h2;refine⟨.slice (some (if cap=a.toNat then ad else ad.add (a.toNat*aJ e))) (b.toNat-a.toNat) (cap-a.toNat),?_,?_⟩
  ·simp[Instr.sliceAt,run_underlying hu,Instr.slice,hb,jz k1,k2];split<;>rfl
  ·refine⟨_,rfl,by rw[hf];omega,.inr ⟨g1,?_⟩⟩;rw[hf];by_cases hc:cap=a.toNat
   ·rw[if_pos hc];have e1:(s.l.take b.toNat).drop a.toNat=[]:=zP (by rw[hf];omega);exact⟨ad,_,[],rfl,fun h=>g2 om,fun h=>absurd e1 h,by rw[e1];rfl,fun j hj=>absurd hj (by simp),by omega⟩
   ·rw[if_neg hc,qO (g2 om)];exact⟨_,_,_,rfl,fun _=>rfl,fun h=>g3 (fun e=>h (by rw[e];simp)),z2c om om g4,HI _ _ g5,by omega⟩
theorem qus(hC:cD C)(hm:MRel C X φ o w){t:TypeId}{x:V}{z:Value}{lo hi mx:Option V}{Am Jn MS:Option Value}{v:V}{u:List (Nat×Obj)}(hx:aq φ o (ah X φ o w) w x z)(ht:v7 φ o (ah X φ o w) w lo Am)(hw:v7 φ o (ah X φ o w) w hi Jn)(hz:v7 φ o (ah X φ o w) w mx MS){fr:Nat}(h:(Pd lf C o fr t x lo hi mx).aE v u)(hf:kO fr o u):dY C X φ o w v u (Instr.sliceAt t z Am Jn MS):=by
 have hk:mx=none->MS=none:=by
  rintro rfl;cases MS with
  |none=>rfl
  |some _=>exact hz.elim
 unfold Pd at h;split at h
 ·rename_i l;have:=hk rfl;subst this;split at h
  ·rename_i a b ha hb;rw[dU,mj] at h;obtain⟨h1,y,h2,h3⟩:=h;simp only[Prod.mk.injEq] at h3;obtain⟨rfl,rfl⟩:=h3;refine dY.aR hm ⟨rfl,?_⟩;obtain⟨s,rfl,rfl,hs⟩:=nV hx;have h1:=zm h1;have hu:C.P.underlying t=some .string:=by unfold Mh at h1;split at h1<;>first|(rename_i e;exact kN e)|cases h1
   obtain⟨h0,h1,h4,rfl⟩:=XM h2;have hA:(s.data.toList.map fun b=>(b.toNat:Int)).length=s.size:=by simp
   rw[hA] at h4;have e1:lf.n (s.data.toList.map fun b=>(b.toNat:Int))=(s.size:Int):=by simp[lf,ae]
   rw[e1] at hb;have hb:=EA (P:=C.P) (w:=w) (isS:=false) (Nat.le_refl _) (s6 ha ht) (s6 hb hw) h0 h1 h4;refine⟨.string (s.extract a.toNat b.toNat),?_,Em ?_ ?_⟩
   ·simp[Instr.sliceAt,run_underlying hu,Instr.slice,hb]
   ·rw[ByteArray.data_extract,Array.toList_extract,List.extract_eq_take_drop,List.map_take,List.map_drop,List.drop_take]
   ·rw[ByteArray.size_extract];omega
  ·cases h
 ·rename_i e s;have:=hk rfl;subst this;split at h
  ·rename_i a b ha hb;rw[dU,mj] at h;obtain⟨h1,y,h2,h3⟩:=h;simp only[Prod.mk.injEq] at h3;obtain⟨rfl,rfl⟩:=h3;obtain⟨ei,hu,_,he⟩:=Ak h1;obtain⟨val,g1,g2⟩:=XO hC hu he hx (s6 ha ht) (s6 hb hw) h2;exact dY.aR hm ⟨rfl,val,g1,g2⟩
  ·cases h
 ·rename_i e s _;split at h
  ·rename_i b c hb hc;rw[dU,mj,ze] at h;obtain⟨⟨h1,hK⟩,y,h2,h3⟩:=h;simp only[Prod.mk.injEq] at h3;obtain⟨rfl,rfl⟩:=h3;have hG:e≠.int .u8:=fun h=>by subst h;cases hK
   have hH:o fr=.none:=hf _ (zf ..) (Nat.le_refl _) (by show fr<fr+16;omega);have h2:az (ag b 0) (az (ag c 0) (some ()) none) none=some y:=h2;have hL:b=0:=by
    cases h:ag b 0 with
    |true=>simpa[ag] using h
    |false=>rw[h] at h2;cases h2
   have hM:c=0:=by
    cases h:ag c 0 with
    |true=>simpa[ag] using h
    |false=>rw[h] at h2;cases hh:ag b 0<;>rw[hh] at h2<;>cases h2
   subst hL hM;have hq:Am=none:=by
    cases Am with
    |none=>rfl
    |some _=>exact ht.elim
   subst hq;obtain⟨kb,rfl⟩:=(s6 hb hw).resolve_left fun h=>by cases h.2
   obtain⟨kc,rfl⟩:=(s6 hc hz).resolve_left fun h=>by cases h.2
   obtain⟨ei,hu,_,he⟩:=Ak h1;obtain⟨ii,zz,k1,_,k2,_⟩:=(hC.eM _ _ he).info;obtain⟨hl,hs⟩:=Dg hx;rcases hs with ⟨g1,g2,rfl⟩|⟨g1,ad,cap,ec,rfl,g2,g3,g4,g5,g6⟩
   ·obtain⟨φ',hh⟩:=Comes.v8 hm hH hG (nil:=s.nil) (z:=.slice none 0 0) (.inl ⟨g1,rfl⟩);have hg:=MR (P:=C.P) (w:=w) (len:=0) (cap:=0) (k:=kb) (k':=kc) (b:=0) (Int.le_refl _) (Int.le_refl _);refine⟨.slice none 0 0,w,φ',?_,hh⟩;simp[Instr.sliceAt,run_underlying hu,Instr.slice,hg,jz k1]
   ·obtain⟨φ',hh⟩:=Comes.v8 hm hH hG (nil:=s.nil) (z:=.slice (some ad) 0 0) (.inr ⟨g1,ad,rfl⟩);have hg:=MR (P:=C.P) (w:=w) (len:=s.l.length) (cap:=cap) (k:=kb) (k':=kc) (b:=0) (Int.le_refl _) om;refine⟨.slice (some ad) 0 0,w,φ',?_,hh⟩;simp[Instr.sliceAt,run_underlying hu,Instr.slice,hg,jz k1]
  ·cases h
 ·rename_i id ver _;split at h
  ·rename_i e aC fz s e1;rw[dU,ze] at h;obtain⟨⟨h1,hB⟩,h⟩:=h;obtain⟨ei,hu,_,he⟩:=Ak hB;obtain⟨ii,zz,k1,_,k2,_⟩:=(hC.eM _ _ he).info;split at h
   ·rename_i b c hb hc;rw[mj] at h;obtain⟨p,h2,h3⟩:=h;simp only[Prod.mk.injEq] at h3;obtain⟨rfl,rfl⟩:=h3;obtain⟨p',h2,h4⟩:=Al h2;obtain⟨h0,h3,rfl⟩:=MP h2;have h3:b<=(s.l.length:Int):=h3;have h4:az (ag b c) (some b.toNat) none=some p:=h4;have hN:b=c:=by
     cases h:ag b c with
     |true=>simpa[ag] using h
     |false=>rw[h] at h4;cases h4
    subst hN;have hp:p=b.toNat:=by
     have:ag b b=true:=by simp[ag]
     rw[this] at h4;exact(zI h4).symm
    subst hp;refine dY.aR hm ⟨rfl,?_⟩;have ho:=hm.ay id;unfold aq at hx;rw[e1] at hx ho;obtain⟨hv,hx⟩:=hx;have hq:Am=none:=by
     cases Am with
     |none=>rfl
     |some _=>exact ht.elim
    subst hq;obtain⟨kb,rfl⟩:=(s6 hb hw).resolve_left fun h=>by have:=h.2;omega
    obtain⟨kc,rfl⟩:=(s6 hc hz).resolve_left fun h=>by have:=h.2;omega
    rcases hx (zm h1) with ⟨hn,rfl⟩|⟨hn,cap,rfl,e3,e5,e4⟩
    ·have hy:=ho.2.1 hn;rw[hy] at h3;have e2:b=0:=by simp at h3;omega
     subst e2;have hg:=MR (P:=C.P) (w:=w) (len:=0) (cap:=0) (k:=kb) (k':=kc) (b:=0) (Int.le_refl _) (Int.le_refl _);refine⟨.slice none 0 0,?_,?_⟩
     ·simp[Instr.sliceAt,run_underlying hu,Instr.slice,hg,jz k1]
     ·unfold aq;rw[e1];refine⟨hv,fun _=>⟨Nat.zero_le _,.inl ⟨hn,rfl⟩,fun _ a m c h=>?_⟩⟩;injection h with _ _ h;exact h.symm
    ·have hg:=MR (P:=C.P) (w:=w) (len:=s.l.length) (cap:=cap) (k:=kb) (k':=kc) h0 om;refine⟨.slice (some (bare (φ id))) b.toNat b.toNat,?_,?_⟩
     ·simp[Instr.sliceAt,run_underlying hu,Instr.slice,hg,jz k1,Addr.add,bare]
     ·unfold aq;rw[e1];refine⟨hv,fun _=>⟨by omega,.inr ⟨hn,b.toNat,rfl,Nat.le_refl _,fun h=>?_,fun h1 h2=>?_⟩,fun _ a m c h=>?_⟩⟩
      ·have:=e5 h;omega
      ·exact z78 (e4 h1 h2) (Nat.mul_le_mul_right _ om)
      ·injection h with _ _ h;exact h.symm
   ·cases h
  ·cases h
 ·rename_i id ver;have:=hk rfl;subst this;split at h
  ·rename_i e aC fr s e1;rw[dU,ze] at h;obtain⟨⟨h1,hB⟩,h⟩:=h;obtain⟨ei,hu,_,he⟩:=Ak hB;obtain⟨ii,zz,k1,_,k2,_⟩:=(hC.eM _ _ he).info;split at h
   ·split at h
    ·rename_i b hb;rw[mj] at h;obtain⟨p,h2,h3⟩:=h;simp only[Prod.mk.injEq] at h3;obtain⟨rfl,rfl⟩:=h3;obtain⟨h0,h3,rfl⟩:=MP h2;have h3:b<=(s.l.length:Int):=h3;refine dY.aR hm ⟨rfl,?_⟩;have ho:=hm.ay id;unfold aq at hx;rw[e1] at hx ho;obtain⟨hv,hx⟩:=hx;have hq:Am=none:=by
      cases Am with
      |none=>rfl
      |some _=>exact ht.elim
     subst hq;rcases hx (zm h1) with ⟨hn,rfl⟩|⟨hn,cap,rfl,e3,e4⟩
     ·have hy:=ho.2.1 hn;rw[hy] at h3;have e2:b=0:=by simp at h3;omega
      have hI:=s6 hb hw;have e5:lf.n s.l=0:=by rw[hy];rfl
      rw[e5] at hI;have hg:=EA (P:=C.P) (w:=w) (isS:=true) (len:=0) (cap:=0) (lo:=none) (hi:=Jn) (a:=0) (b:=b) (Nat.le_refl _) (.inl ⟨rfl,rfl⟩) hI (Int.le_refl _) om om;refine⟨.slice none 0 0,?_,?_⟩
      ·simp[Instr.sliceAt,run_underlying hu,Instr.slice,hg,jz k1,e2]
      ·unfold aq;rw[e1,e2];exact⟨hv,fun _=>⟨Nat.zero_le _,.inl ⟨hn,rfl⟩,by simp⟩⟩
     ·have hg:=EA (P:=C.P) (w:=w) (isS:=true) (lo:=none) (a:=0) e3 (.inl ⟨rfl,rfl⟩) (s6 hb hw) (Int.le_refl _) h0 h3;refine⟨.slice (some (bare (φ id))) b.toNat cap,?_,?_⟩
      ·simp[Instr.sliceAt,run_underlying hu,Instr.slice,hg,jz k1,Addr.add,bare]
      ·unfold aq;rw[e1];exact⟨hv,fun _=>⟨by omega,.inr ⟨hn,cap,rfl,by omega,e4⟩,by simp⟩⟩
    ·cases h
   ·rename_i ve;split at h
    ·split at h
     ·rename_i a ha;rw[mj] at h;obtain⟨p,h2,h3⟩:=h;simp only[Prod.mk.injEq] at h3;obtain⟨rfl,rfl⟩:=h3;obtain⟨h0,h3,_⟩:=MP h2;have h3:a<=(s.l.length:Int):=h3;refine dY.aR hm ⟨rfl,?_⟩;have ho:=hm.ay id;unfold aq at hx;rw[e1] at hx ho;obtain⟨hv,hx⟩:=hx;have hD:Jn=none:=by
       cases Jn with
       |none=>rfl
       |some _=>exact hw.elim
      subst hD;have hO:a.toNat<=s.l.length:=om
      have hP:a=((a.toNat:Nat):Int):=om
      rcases hx (zm h1) with ⟨hn,rfl⟩|⟨hn,cap,rfl,e3,e4⟩
      ·have hy:=ho.2.1 hn;rw[hy] at h3;have e2:a=0:=by simp at h3;omega
       subst e2;have hg:=EA (P:=C.P) (w:=w) (isS:=true) (len:=0) (cap:=0) (lo:=Am) (hi:=none) (a:=0) (b:=0) (Nat.le_refl _) (s6 ha ht) (.inl ⟨rfl,rfl⟩) (Int.le_refl _) (Int.le_refl _) (Int.le_refl _);refine⟨.slice none 0 0,?_,?_⟩
       ·simp[Instr.sliceAt,run_underlying hu,Instr.slice,hg,jz k1]
       ·unfold aq;rw[e1];exact⟨hv,fun _=>⟨0,rfl,Nat.zero_le _,.inl ⟨hn,rfl⟩⟩⟩
      ·have hg:=EA (P:=C.P) (w:=w) (isS:=true) (len:=s.l.length) (cap:=cap) (lo:=Am) (hi:=none) (a:=a) (b:=s.l.length) e3 (s6 ha ht) (.inl ⟨rfl,rfl⟩) h0 h3 (Int.le_refl _);refine⟨.slice (some (if cap-a.toNat=0 then bare (φ id) else⟨(φ id).block,(φ id).off+a.toNat*aJ e,none⟩)) (s.l.length-a.toNat) (cap-a.toNat),?_,?_⟩
       ·simp[Instr.sliceAt,run_underlying hu,Instr.slice,hg,jz k1,k2];by_cases hc:cap=a.toNat
        ·rw[if_pos hc,if_pos om]
        ·rw[if_neg hc,if_neg om,qO (El e4.1 om)];rfl
       ·unfold aq;rw[e1];exact⟨hv,fun _=>⟨a.toNat,hP,hO,.inr ⟨hn,cap-a.toNat,rfl,by omega⟩⟩⟩
     ·cases h
    ·split at h
     ·rename_i a b ha hb;rw[mj] at h;obtain⟨y,h2,h3⟩:=h;simp only[Prod.mk.injEq] at h3;obtain⟨rfl,rfl⟩:=h3;have hE:=Je hm [id];have e2:eu o [id]=[(id,.vec e aC true s)]:=by simp[eu,e1]
      have hQ:=hE.keeps _ _ hx;have hR:sZ (ak o (eu o [id])) (.bM id ver):=MJ (fun j hj=>by
       unfold fj at hj;split at hj
       ·cases hj
       ·exact hj)
      have hF:jk lf o (.sl e) (.bM id ver)=some s:=by
       simp only[jk,e1,h1,cond_true];unfold gJ;split
       ·rfl
       ·rename_i hS _;exact absurd rfl hS
      have hJ:mu lf o (.sl e) (.bM id ver)=some s:=by unfold mu;rw[hF]
      rw[<-A7 [id]] at hJ;have hd:=P9 hE.mem hQ hR hJ;obtain⟨val,g1,g2⟩:=XO hC hu he hd (s6 ha ht) (s6 hb hw) h2;refine⟨val,w,φ,g1,?_⟩;rw[<-e2];exact {hE with val:=g2}
     ·cases h
  ·cases h
 ·cases h
theorem z2d{c:Bool}{a b:V}{za zb:Value}(ha:aq φ o imm w a za)(hb:aq φ o imm w b zb):aq φ o imm w (Pu lf c a b) (if c then za else zb):=by
 unfold Pu;split
 ·rename_i t a' t' b';split
  ·rename_i b'' e;obtain⟨rfl,rfl⟩:=vk e;cases c
   ·exact hb
   ·exact ha
  ·cases c
   ·exact hb
   ·exact ha
 ·cases c
  ·exact hb
  ·exact ha
theorem z2e{x:V}{z:Value}{v:V}{u:List (Nat×Obj)}(hx:aq φ o imm w x z)(h:(Ho o x).aE v u):u=[]/\v=x/\((∃a,z=.pointer (some a))\/(∃f p c,z=.func (.func f) p c)):=by
 unfold Ho at h;split at h
 ·rw[dU,dR] at h;obtain⟨h1,rfl,rfl⟩:=h;exact⟨rfl,rfl,.inl (P6 hx h1)⟩
 ·rw[dR] at h;obtain⟨rfl,rfl⟩:=h;obtain⟨a,cs,h1,_⟩:=hx;exact⟨rfl,rfl,.inl ⟨a,h1⟩⟩
 ·rename_i id ver i path;split at h
  ·rename_i e1;rw[dU,dR] at h;obtain⟨h1,rfl,rfl⟩:=h;unfold aq at hx;rw[e1] at hx;exact⟨rfl,rfl,.inl ⟨_,(hx.2 (zm h1)).2⟩⟩
  ·cases h
 ·rw[dR] at h;obtain⟨rfl,rfl⟩:=h;obtain⟨c,h1,_⟩:=hx;exact⟨rfl,rfl,.inr ⟨_,_,_,h1⟩⟩
 ·cases h
end
def ov(l:List Value)(off:Nat)(vs:List Value):List Value:=l.take off++vs++l.drop (off+vs.length)
theorem z9x(l:List Value)(off:Nat):ov l off []=l:=by simp[ov]
theorem XP(l:List Value)(off:Nat)(v:Value)(vs:List Value)(h:off+(vs.length+1)<=l.length):ov (l.set off v) (off+1) vs=ov l off (v::vs):=list_seg_step l off v vs h
theorem Qj(l:List Value)(off:Nat)(vs:List Value)(h:off+vs.length<=l.length):(ov l off vs).length=l.length:=by simp[ov];omega
theorem XQ:∀(vs:List Value) (off k:Nat) (cs:Array Value),off+k+vs.length<=cs.size->(vs.zipIdx k).foldl (fun cs p=>cs.setIfInBounds (off+p.2) p.1) cs=(ov cs.toList (off+k) vs).toArray
 |[],off,k,cs,_=>by simp[ov]
 |v::vs,off,k,cs,h=>by simp only[List.zipIdx_cons,List.foldl_cons];rw[XQ vs off (k+1) _ (by simp at h ⊢;omega),Array.toList_setIfInBounds,<-Nat.add_assoc,XP];simp at h ⊢;omega
theorem XR(place:Nat->Option (Nat×Nat))(cells:Array Value)(i:Nat)(v:Value)(rest:List (Nat×Value)){off sz:Nat}(hp:place i=some (off,sz))(hs:v.cells.size=sz)(hb:off+sz<=cells.size):Instr.fill place cells ((i,v)::rest)=Instr.fill place (ov cells.toList off v.cells.toList).toArray rest:=by
 have e:(v.cells.zipIdx.foldl (fun cs p=>cs.setIfInBounds (off+p.2) p.1) cells)=(ov cells.toList off v.cells.toList).toArray:=by have:=XQ v.cells.toList off 0 cells (by simp;omega);simp only[Nat.add_zero] at this;rw[<-Array.foldl_toList,Array.toList_zipIdx];exact this
 simp only[Instr.fill,hp];rw[if_neg (by simp;omega),e]
theorem qut(w:World)(b i:Nat)(cs:Array Value)(t:TypeId)(fr:Nat×Nat)(v:Value)(hg:w.heap[b]?=some (.cells cs t fr)):w.setCell ⟨b,i,none⟩ v=w.setRow b (cs.setIfInBounds i v):=setCell_eq_setRow w b i cs t fr v hg
section
variable {P:Program} {C:Cx} {X:Nat→Prop} {φ φ':Nat→Addr} {o:Nat→Obj} {w w':World} {imm:Nat→Prop}
theorem Jo{b off lo hi:Nat}{t:TypeId}:∀(vs:List Value) (i:Nat) (cur:Array Value) (w:World),w.heap[b]?=some (.cells cur t (lo,hi))->off+i+vs.length<=cur.size->(hi<=lo\/hi<=off+i\/off+i+vs.length<=lo)->(∀v∈vs,v.oneCell'=true)->(storeCells ⟨b,off,none⟩ vs i).run P w=.ok () (w.setRow b (ov cur.toList (off+i) vs).toArray)
 |[],i,cur,w,hg,_,_,_=>by simp only[storeCells,z9x,Array.toArray_toList];rw[setRow_self w b cur t (lo,hi) hg];rfl
 |v::rest,i,cur,w,hg,hl,hf,h1=>by
  have he:(⟨b,off,none⟩:Addr).add i=⟨b,off+i,none⟩:=qO rfl i;simp only[zj] at hl hf;have oY:off+i<cur.size:=om
  have hc:w.cell? ⟨b,off+i,none⟩=some cur[off+i]:=by simp[World.cell?,hg,oY]
  have hj:w.frozen? ⟨b,off+i,none⟩=false:=by simp only[World.frozen?,hg,Bool.and_eq_false_iff,decide_eq_false_iff_not];omega
  have hk:(store ((⟨b,off,none⟩:Addr).add i) v).run P w=.ok () (w.setRow b (cur.setIfInBounds (off+i) v)):=by rw[he,run_store P w _ v _ (h1 v (by simp)),hc];simp[hj,qut w b (off+i) cur t (lo,hi) v hg]
  have ih:=Jo (off:=off) (lo:=lo) (hi:=hi) rest (i+1) (cur.setIfInBounds (off+i) v) (w.setRow b (cur.setIfInBounds (off+i) v)) (setRow_heap w b cur _ t _ hg) (by simp;omega) om (fun x hx=>h1 x (by simp[hx]));simp only[storeCells,Sem.run_bind,hk,Result.andThen_ok,ih,setRow_setRow];rw[Array.toList_setIfInBounds,show off+(i+1)=off+i+1 by omega,XP _ _ _ _ (by simp;omega)]
theorem MT{b:Nat}{cur:Array Value}{t:TypeId}{fr:Nat×Nat}(h:w.heap[b]?=some (.cells cur t fr))(cs:Array Value):(w.setRow b cs).heap[b]?=some (.cells cs t fr):=setRow_heap w b cur cs t fr h
theorem MU{e:Ty}{l m:List (den e)}{cs ds:List Value}{i:Nat}(hi:i+m.length<=l.length)(h:bc (aA imm w e) l cs)(h':bc (aA imm w e) m ds):bc (aA imm w e) (l.take i++m++l.drop (i+m.length)) (ov cs (i*aJ e) ds):=by unfold ov;have h1:=(tP i om h).1;have h2:=(tP (i+m.length) hi h).2;rw[nS h',<-Nat.add_mul];exact Hw (Hw h1 h') h2
theorem EB:∀(t:Ty) (x:den t) (cs:List Value),aA imm w t x cs->∀v,v∈cs->v.oneCell'=true
 |.unit,_,_,h,v,hv=>by simp[aA] at h;subst h;cases hv
 |.pair a b,x,_,⟨c,d,e,h1,h2⟩,v,hv=>by
  subst e;rcases zN.1 hv with hv|hv
  ·exact EB a x.1 c h1 v hv
  ·exact EB b x.2 d h2 v hv
 |.st p,x,cs,h,v,hv=>EB p x cs h v hv
 |.arr n e,l,cs,⟨_,h2⟩,v,hv=>by
  have key:∀(l:List (den e)) (cs:List Value),bc (aA imm w e) l cs->∀v,v∈cs->v.oneCell'=true:=by
   intro l
   induction l with
   |nil=>intro cs h v hv;simp[bc] at h;subst h;cases hv
   |cons y l ih=>
    intro cs ⟨c,d,e1,h3,h4⟩ v hv;subst e1;rcases zN.1 hv with hv|hv
    ·exact EB e y c h3 v hv
    ·exact ih d h4 v hv
  exact key l cs h2 v hv
 |.int _,_,_,h,v,hv=>by obtain⟨h,_⟩:=h;subst h;simp at hv;subst hv;rfl
 |.bool,_,_,h,v,hv=>by have h:_=[_]:=h;subst h;simp at hv;subst hv;rfl
 |.fc,_,_,h,v,hv=>by have h:_=[_]:=h;subst h;simp at hv;subst hv;rfl
 |.dC,_,_,h,v,hv=>by have h:_=[_]:=h;subst h;simp at hv;subst hv;rfl
 |.str,_,_,⟨s,h,_⟩,v,hv=>by subst h;simp at hv;subst hv;rfl
 |.sl e,_,_,⟨x,h,_,h2⟩,v,hv=>by subst h;simp at hv;subst hv;rcases h2 with ⟨_,_,rfl⟩|⟨_,a,cap,ec,rfl,_⟩<;>rfl
 |.ks e,_,_,⟨0,h⟩,v,hv=>h.elim
 |.ks e,_,_,⟨n+1,x,h,_,h2⟩,v,hv=>by subst h;simp at hv;subst hv;rcases h2 with ⟨_,_,rfl⟩|⟨_,a,cap,ec,rfl,_⟩<;>rfl
theorem MV{e:Ty}:∀{l:List (den e)} {cs:List Value},bc (aA imm w e) l cs->∀v,v∈cs->v.oneCell'=true
 |[],cs,h,v,hv=>by simp[bc] at h;subst h;cases hv
 |y::l,cs,⟨c,d,e1,h3,h4⟩,v,hv=>by
  subst e1;rcases zN.1 hv with hv|hv
  ·exact EB e y c h3 v hv
  ·exact MV h4 v hv
theorem Comes.fresh(hm:MRel C X φ o w){fr:Nat}{B:Go.Obj}{w':World}(hg:w'.heap=w.heap.push B)(x:Obj){ns:List (Nat×Obj)}(hc:∀p,p∈ns->(∃e,p.2=.vec e 0 false ⟨true,[]⟩)/\p.1≠fr/\o p.1=.none)(hu:∀w',Up w w' (φ fr) ⟨w.heap.size,0,none⟩ (o fr) x){v:V}{z:Value}(hl:(∀b,ah X φ o w b->ah X (cu φ fr ⟨w.heap.size,0,none⟩) (ak o ((fr,x)::ns)) w' b)->(∀b,ah X φ o w b->w'.heap[b]?=w.heap[b]?)->(∀y z,aq φ o (ah X φ o w) w y z->aq (cu φ fr ⟨w.heap.size,0,none⟩) (ak o ((fr,x)::ns)) (ah X (cu φ fr ⟨w.heap.size,0,none⟩) (ak o ((fr,x)::ns)) w') w' y z)->oV (cu φ fr ⟨w.heap.size,0,none⟩) (ak o ((fr,x)::ns)) (ah X (cu φ fr ⟨w.heap.size,0,none⟩) (ak o ((fr,x)::ns)) w') w' fr x)(hn:ik C w' ⟨w.heap.size,0,none⟩ x)(ho:ak o ((fr,x)::ns) fr=x->aq (cu φ fr ⟨w.heap.size,0,none⟩) (ak o ((fr,x)::ns)) (ah X (cu φ fr ⟨w.heap.size,0,none⟩) (ak o ((fr,x)::ns)) w') w' v z)(still:tR w w':=by exact⟨rfl,rfl⟩):
  Comes C X φ (cu φ fr ⟨w.heap.size,0,none⟩) o ((fr,x)::ns) w w' v z:=by
 have hq:∀(ns:List (Nat×Obj)) (o':Nat->Obj) (id:Nat),(∀p,p∈ns->∃e,p.2=.vec e 0 false ⟨true,[]⟩)->id∈bW ns->∃e,ak o' ns id=.vec e 0 false ⟨true,[]⟩:=by
  intro ns
  induction ns with
  |nil=>intro o' id _ h;cases h
  |cons p r ih=>
   obtain⟨i,y⟩:=p;intro o' id hc h;by_cases hr:id∈bW r
   ·exact ih _ _ (fun p hp=>hc p (zh _ hp)) hr
   ·simp only[bW,zw,hr,or_false] at h;subst h;show ∃e,ak (cu o' id y) r id=_;rw[iq hr,eH];exact hc _ (zf ..)
 have hs:∀(ns:List (Nat×Obj)) id,id∈bW ns->∃p,p∈ns/\p.1=id:=by
  intro ns
  induction ns with
  |nil=>intro id h;cases h
  |cons p r ih=>
   intro id h;rcases zw.1 h with h|h
   ·exact⟨p,zf ..,h.symm⟩
   ·obtain⟨q,h1,h2⟩:=ih id h;exact⟨q,zh _ h1,h2⟩
 have ht:fr∉bW ns:=fun h=>by obtain⟨p,h1,h2⟩:=hs ns _ h;exact(hc p h1).2.1 h2
 have he:ak o ((fr,x)::ns) fr=x:=by show ak (cu o fr x) ns fr=x;rw[iq ht,eH]
 have hz:∀id,id∈bW ns->id≠fr:=fun id h e=>ht (e▸h);have hf:∀id,id∈bW ns->∃e,ak o ((fr,x)::ns) id=.vec e 0 false ⟨true,[]⟩:=fun id h=>hq ns _ id (fun p hp=>(hc p hp).1) h;have hv:∀id,id∈bW ns->o id=.none:=fun id h=>by obtain⟨p,h1,h2⟩:=hs ns _ h;exact h2▸(hc p h1).2.2
 refine Comes.make hm (by rw[hg];simp) (fun b hb _=>by rw[hg,Array.getElem?_push,if_neg (Nat.ne_of_lt hb)]) (fun id hk=>?_) (fun id _ hk=>?_) (fun id hk=>?_) (fun id hk hx=>?_) (fun i j hi hj hw hy _ _=>?_) (fun h1 h2 h3 id hk=>?_) (fun id hk=>?_) (fun h1 h2 h3=>ho he) still
 ·exact iI fun e=>hk (e▸zf ..)
 ·exact iI fun e=>hk (e▸zf ..)
 ·rcases zw.1 hk with rfl|hk
  ·rw[eH,he];exact hu _
  ·rw[hv id hk];trivial
 ·rcases zw.1 hk with rfl|hk
  ·rw[eH];exact .inl ⟨Nat.le_refl _,by rw[hg];simp⟩
  ·obtain⟨e,h⟩:=hf id hk;rw[h] at hx;simp[aP,live] at hx
 ·have key:∀i a,i∈bW ((fr,x)::ns)->aP a (ak o ((fr,x)::ns) i)=true->i=fr:=fun i a hk hx=>by
   rcases zw.1 hk with h|hk
   ·exact h
   ·obtain⟨e,h⟩:=hf i hk;rw[h] at hx;simp[aP,live] at hx
  rw[key i _ hi hw,key j _ hj hy]
 ·rcases zw.1 hk with rfl|hk
  ·rw[he];exact hl h1 h2 h3
  ·obtain⟨e,h⟩:=hf id hk;rw[h];exact⟨Nat.zero_le _,fun _=>rfl,fun h=>by simp at h⟩
 ·rcases zw.1 hk with rfl|hk
  ·rw[he,eH];exact hn
  ·obtain⟨e,h⟩:=hf id hk;rw[h];exact fun _ h=>by simp at h
theorem Comes.write(hm:MRel C X φ o w){id:Nat}{w':World}(x:Obj)(hx:aP (φ id) x=true->aP (φ id) (o id)=true)(ho:w'.heap.size=w.heap.size)(hl:∀b,¬(aP (φ id) (o id)=true/\(φ id).block=b)->w'.heap[b]?=w.heap[b]?)(hn:Up w w' (φ id) (φ id) (o id) x){v:V}{z:Value}(hf:(∀b,ah X φ o w b->ah X φ (ak o [(id,x)]) w' b)->(∀b,ah X φ o w b->w'.heap[b]?=w.heap[b]?)->(∀y z,aq φ o (ah X φ o w) w y z->aq φ (ak o [(id,x)]) (ah X φ (ak o [(id,x)]) w') w' y z)->oV φ (ak o [(id,x)]) (ah X φ (ak o [(id,x)]) w') w' id x)(hg:ik C w' (φ id) x)(hk:ak o [(id,x)] id=x->aq φ (ak o [(id,x)]) (ah X φ (ak o [(id,x)]) w') w' v z)(still:tR w w':=by exact⟨rfl,rfl⟩):Comes C X φ φ o [(id,x)] w w' v z:=by
 have he:ak o [(id,x)] id=x:=eH;have hc:∀i,i∈bW [(id,x)]->i=id:=fun i hi=>by simpa[bW] using hi
 refine Comes.make hm om (fun b _ hh=>hl b fun⟨h1,h2⟩=>hh ⟨id,by simp[bW],h1,h2⟩) (fun _ _=>rfl) (fun _ _ _=>rfl) (fun i hi=>?_) (fun i hi h=>?_) (fun i j hi hj _ _ _ _=>?_) (fun h1 h2 h3 i hi=>?_) (fun i hi=>?_) (fun _ _ _=>hk he) still
 ·rw[hc i hi,he];exact hn
 ·rw[hc i hi,he] at h;rw[hc i hi];exact .inr ⟨hx h,rfl⟩
 ·rw[hc i hi,hc j hj]
 ·rw[hc i hi,he];exact hf h1 h2 h3
 ·rw[hc i hi,he];exact hg
end
theorem qx4{z:Value}(h:z.oneCell'=true):z.cells=#[z]:=by cases z<;>first|rfl|(simp[Value.oneCell'] at h;done)
theorem XS{o:Nat->Obj}:∀{a b:List V},tI o (a++b)=true->tI o a=true/\tI o b=true
 |[],b,h=>⟨rfl,h⟩
 |x::a,b,h=>by simp only[List.cons_append,tI,ze] at h ⊢;obtain⟨h1,h2⟩:=XS h.2;exact⟨⟨h.1,h1⟩,h2⟩
section
variable {P:Program} {C:Cx} {X:Nat→Prop} {φ φ':Nat→Addr} {o o':Nat→Obj} {w w':World} {imm imm':Nat→Prop}
theorem XT{x:V}{z:Value}(hx:aq φ o imm w x z)(h:Hk o x=true):z.oneCell'=true:=by
 cases x<;>simp only[Hk] at h<;>try (cases h;done)
 ·rename_i t d;exact EB t d [z] (XE h hx) z (zK.2 rfl)
 ·rename_i id ver;unfold aq at hx;split at h
  ·rename_i e;rw[e] at hx;rcases hx.2 (zm h) with ⟨_,rfl⟩|⟨_,cap,rfl,_⟩<;>rfl
  ·cases h
 ·rename_i id ver n cp;unfold aq at hx;split at h
  ·rename_i e;rw[e] at hx;rcases(hx.2 (zm h)).2.1 with ⟨_,rfl⟩|⟨_,cap,rfl,_⟩<;>rfl
  ·cases h
 ·rename_i id off;unfold aq at hx;split at h
  ·rename_i e;rw[e] at hx;simp only at hx;subst hx;rfl
  ·rename_i e;rw[e] at hx;have:=hx (zm h).symm;subst this;rfl
  ·cases h
 ·rename_i id ver i path;unfold aq at hx;split at h
  ·rename_i e;rw[e] at hx;have:=(hx.2 (zm h)).2;subst this;rfl
  ·cases h
 ·obtain⟨a,cs,rfl,_⟩:=hx;rfl
 ·have:z=.pointer none:=hx;subst this;rfl
 ·obtain⟨c,rfl,_⟩:=hx;rfl
 ·have:z=.nilFunc:=hx;subst this;rfl
 ·rename_i id;unfold aq at hx;split at h
  ·rename_i e;rw[e] at hx;simp only at hx;subst hx;rfl
  ·cases h
 ·have:z=.map none:=hx;subst this;rfl
 ·have:z=.nilIface:=hx;subst this;rfl
 ·have:z=.slice none 0 0:=hx;subst this;rfl
 ·rename_i id b;unfold aq at hx;split at h
  ·rename_i e;rw[e] at hx;simp only at hx;subst hx;cases b<;>rfl
  ·cases h
 ·rename_i id ver lo;unfold aq at hx;split at h
  ·rename_i e;rw[e] at hx;obtain⟨k,_,_,hx⟩:=hx.2 (zm h);rcases hx with ⟨_,rfl⟩|⟨_,cap,rfl,_⟩<;>rfl
  ·cases h
 ·rename_i id;unfold aq at hx;split at h
  ·rename_i e;rw[e] at hx;simp only at hx;subst hx;rfl
  ·cases h
 ·rename_i a k n;have hx:tQ imm w a k n z:=hx;rcases MD a hx with ⟨rfl,_⟩|⟨_,_,rfl,_⟩<;>rfl
theorem Qk:∀{cs:List V} {zs:List Value},cd φ o imm w cs zs->tI o cs=true->∀z,z∈zs->z.oneCell'=true
 |[],zs,h,_,z,hz=>by simp[cd] at h;subst h;cases hz
 |x::l,zs,⟨y,r,e,h1,h2⟩,hs,z,hz=>by
  subst e;simp only[tI,ze] at hs;rcases zw.1 hz with rfl|hz
  ·exact XT h1 hs.1
  ·exact Qk h2 hs.2 z hz
theorem z79:∀(p:Ty) (x:den p) (cs:List Value),aA imm w p x cs->tI o (vM p x)=true->cd φ o imm w (vM p x) cs:=by
 have one:∀(t:Ty) (x:den t) (cs:List Value),ka t=true->aA imm w t x cs->cd φ o imm w [.d t x] cs:=by intro t x cs hs h;obtain⟨v,rfl,h2⟩:=MK hs h;exact⟨v,[],rfl,h2,rfl⟩
 intro p
 induction p with
 |unit=>intro x cs h _;exact h
 |pair a b nW kh=>intro x cs ⟨c,d,e,h1,h2⟩ hs;subst e;obtain⟨g1,g2⟩:=XS (a:=vM a x.1) (b:=vM b x.2) hs;exact Dm (nW _ _ h1 g1) (kh _ _ h2 g2)
 |st p ih=>intro x cs h hs;exact ih x cs h hs
 |arr n e _=>intro x cs h hs;simp[vM,tI,Hk,ka] at hs
 |int k=>intro x cs h _;exact one _ _ _ rfl h
 |bool=>intro x cs h _;exact one _ _ _ rfl h
 |fc=>intro x cs h _;exact one _ _ _ rfl h
 |dC=>intro x cs h _;exact one _ _ _ rfl h
 |str=>intro x cs h _;exact one _ _ _ rfl h
 |sl e _=>intro x cs h _;exact one _ _ _ rfl h
 |ks q _=>intro x cs h _;exact one (.sl (mg q)) (AQ q x) _ rfl ((Hx q x cs).1 h)
theorem Ql{x:V}{z:Value}{vs:List V}(hx:aq φ o imm w x z)(h:IP o x=some vs):cd φ o imm w vs z.cells.toList/\∀c,c∈z.cells.toList->c.oneCell'=true:=by
 unfold IP at h;split at h
 ·rename_i p y;cases hs:tI o (vM p y) with
  |false=>rw[hs] at h;cases h
  |true=>rw[hs] at h;injection h with h;subst h;obtain⟨cs,rfl,h1⟩:=hx;have:=z79 (φ:=φ) (o:=o) p y _ h1 hs;exact⟨this,Qk this hs⟩
 ·rename_i cs;cases hs:tI o cs with
  |false=>rw[hs] at h;cases h
  |true=>rw[hs] at h;injection h with h;subst h;obtain⟨c,rfl,h1⟩:=hx;exact⟨h1,Qk h1 hs⟩
 ·cases hs:Hk o x with
  |false=>rw[hs] at h;cases h
  |true=>rw[hs] at h;injection h with h;subst h;have h1:=XT hx hs;rw[qx4 h1];exact⟨⟨z,[],rfl,hx,rfl⟩,fun c hc=>by simp at hc;subst hc;exact h1⟩
theorem Qm:∀(ns:List (Nat×Obj)) (o':Nat->Obj) (id:Nat),(∀p,p∈ns->∃e,p.2=.vec e 0 false ⟨true,[]⟩)->id∈bW ns->∃e,ak o' ns id=.vec e 0 false ⟨true,[]⟩:=by
 intro ns
 induction ns with
 |nil=>intro o' id _ h;cases h
 |cons p r ih=>
  obtain⟨i,y⟩:=p;intro o' id hc h;by_cases hr:id∈bW r
  ·exact ih _ _ (fun p hp=>hc p (zh _ hp)) hr
  ·simp only[bW,zw,hr,or_false] at h;subst h;show ∃e,ak (cu o' id y) r id=_;rw[iq hr,eH];exact hc _ (zf ..)
theorem MW:∀{ns:List (Nat×Obj)} {p},p∈ns->p.1∈bW ns
 |q::r,p,h=>by
  rcases zw.1 h with rfl|h
  ·exact zf ..
  ·exact zh _ (MW h)
theorem MX:∀(cs:List V) (sl:List (Option Ty)) (i:Nat),(∀p,p∈(nf i cs sl).2->(∃e,p.2=.vec e 0 false ⟨true,[]⟩)/\i<=p.1/\p.1<i+tK cs)/\(∀zs,cd φ o imm w cs zs->(∀y z,aq φ o imm w y z->aq φ' o' imm' w' y z)->(∀p,p∈(nf i cs sl).2->∃e,o' p.1=.vec e 0 false ⟨true,[]⟩)->cd φ' o' imm' w' (nf i cs sl).1 zs):=by
 intro cs
 induction cs with
 |nil=>
  intro sl i;have e:nf i [] sl=([],[]):=by cases sl<;>rfl
  rw[e];exact⟨(fun p hp=>by cases hp),fun zs h _ _=>h⟩
 |cons c cs ih=>
  intro sl i;cases sl with
  |nil=>
   have e:nf i (c::cs) []=(c::cs,[]):=by cases c<;>rfl
   rw[e];exact⟨(fun p hp=>by cases hp),fun zs h hk _=>Eu hk _ _ h⟩
  |cons s sl=>
   have other:nf i (c::cs) (s::sl)=(c::(nf i cs sl).1,(nf i cs sl).2)->(∀p,p∈(nf i (c::cs) (s::sl)).2->(∃e,p.2=.vec e 0 false ⟨true,[]⟩)/\i<=p.1/\p.1<i+tK (c::cs))/\
     (∀zs,cd φ o imm w (c::cs) zs->(∀y z,aq φ o imm w y z->aq φ' o' imm' w' y z)->(∀p,p∈(nf i (c::cs) (s::sl)).2->∃e,o' p.1=.vec e 0 false ⟨true,[]⟩)->
      cd φ' o' imm' w' (nf i (c::cs) (s::sl)).1 zs):=by
    intro e;rw[e];obtain⟨h1,h2⟩:=ih sl i;refine⟨fun p hp=>?_,fun zs ⟨z,r,e1,h3,h4⟩ hk ho=>⟨z,r,e1,hk _ _ h3,h2 _ h4 hk ho⟩⟩;obtain⟨g1,g2,g3⟩:=h1 p hp;refine⟨g1,g2,?_⟩;have:tK cs<=tK (c::cs):=by cases c<;>simp[tK]
    omega
   cases c<;>try exact other rfl
   cases s with
   |none=>exact other rfl
   |some e=>
    obtain⟨h1,h2⟩:=ih sl (i+1);show(∀p,p∈((i,Obj.vec e 0 false ⟨true,[]⟩)::(nf (i+1) cs sl).2)->_)/\_;refine⟨fun p hp=>?_,fun zs ⟨z,r,e1,h3,h4⟩ hk ho=>?_⟩
    ·rcases zw.1 hp with rfl|hp
     ·exact⟨⟨e,rfl⟩,Nat.le_refl _,by simp[tK]⟩
     ·obtain⟨g1,g2,g3⟩:=h1 p hp;refine⟨g1,by omega,?_⟩;simp only[tK];omega
    ·refine⟨z,r,e1,?_,h2 _ h4 hk fun p hp=>ho p (zh _ hp)⟩;obtain⟨e',hc⟩:=ho (i,.vec e 0 false ⟨true,[]⟩) (zf ..);unfold aq;simp only at hc;rw[hc];exact⟨Nat.le_refl _,fun _=>.inl ⟨rfl,h3⟩⟩
theorem MY(hC:cD C){t:TypeId}{e:Ty}(h:C.ty t=some e)(he:e=.int .u8):C.P.underlying t=some (.int .u8):=by
 subst he;obtain⟨d,h0,h1,h2⟩:=(hC.eM _ _ h).desc;clear h0;have hd:d=.int .u8:=by
  clear h1;cases d<;>simp only[mz] at h2<;>try (cases h2;done)
  rename_i k;cases k<;>first|rfl|(simp[qX] at h2;done)
 rw[h1,hd]
theorem XU{e:Ty}(h:Mb e=true)(he:e=.int .u8):False:=by subst he;cases h
theorem qqb{cs vs:List V}{off:Nat}(h:nP (Hl cs off vs)=true)(hv:nP vs=false):nP cs=true:=by
 unfold Hl at h;cases off with
 |zero=>
  cases vs with
  |nil=>simpa using h
  |cons v r=>rw[List.take_zero,List.nil_append] at h;cases v<;>first|(cases h;done)|(cases hv;done)
 |succ n=>
  cases cs with
  |nil=>cases vs with
   |nil=>simp[nP] at h
   |cons v r=>rw[List.take_nil,List.nil_append] at h;cases v<;>first|(cases h;done)|(cases hv;done)
  |cons c cs=>cases c<;>first|rfl|(cases h;done)
theorem ff.setRow{b:Nat}{c:Array Value}{el:TypeId}{fz:Nat×Nat}(h:w.heap[b]?=some (.cells c el fz)){cs:Array Value}(hs:cs.size=c.size):ff w (w.setRow b cs) b:=fun c0 el0 fz0 e=>by rw[h] at e;injection e with e;injection e with e1 e2 e3;subst e1 e2 e3;exact⟨cs,MT h cs,hs⟩
theorem ff.ov{b:Nat}{c:Array Value}{el:TypeId}{fz:Nat×Nat}(h:w.heap[b]?=some (.cells c el fz)){off:Nat}{ds:List Value}(hb:off+ds.length<=c.size):ff w (w.setRow b (ov c.toList off ds).toArray) b:=.setRow h (by have:=Qj c.toList off ds (by simpa using hb);simpa using this)
theorem MZ(hm:MRel C X φ o w){id:Nat}{e:Ty}{v v':Nat}{f f':Bool}{s s':Sl (den e)}(ho:o id=.vec e v f s)(hn:s.nil=false)(hk:ff w w' (φ id).block):ik C w' (φ id) (.vec e v' f' s'):=fun ht _=>by have:=hm.oW id;rw[ho] at this;obtain⟨c,el,fz,h1,h2,h4⟩:=this ht hn;obtain⟨c',h3,h5⟩:=hk _ _ _ h1;exact⟨c',el,fz,h3,h2,by rw[h5];exact h4⟩
theorem z7a(hm:MRel C X φ o w){id:Nat}{cs km:List V}(ho:o id=.box cs)(hs:nP km=true->nP cs=true)(hk:ff w w' (φ id).block):ik C w' (φ id) (.box km):=fun h=>by have:=hm.oW id;rw[ho] at this;obtain⟨c,el,fz,h1,h3⟩:=this (hs h);obtain⟨c',h2,h4⟩:=hk _ _ _ h1;exact⟨c',el,fz,h2,by rw[h4];exact h3⟩
theorem XV(hm:MRel C X φ o w){fr:Nat}{t el:TypeId}{cs:List V}{zs:Array Value}{v:V}{u:List (Nat×Obj)}(hr:cd φ o (ah X φ o w) w cs zs.toList)(h:(Ml C fr t cs).aE v u)(hf:kO fr o u):dY C X φ o w v u (do pure (.pointer (some (<-newRow el zs)))):=by
 unfold Ml at h;have main:∀(km:List V) (ns:List (Nat×Obj)),(∀p,p∈ns->(∃e,p.2=.vec e 0 false ⟨true,[]⟩)/\fr+1<=p.1/\p.1<fr+16)->
   (∀(φ':Nat->Addr) (o':Nat->Obj) (imm':Nat->Prop) (w':World),(∀y z,aq φ o (ah X φ o w) w y z->aq φ' o' imm' w' y z)->(∀p,p∈ns->∃e,o' p.1=.vec e 0 false ⟨true,[]⟩)->cd φ' o' imm' w' km zs.toList)->nP km=false->
   kO fr o ((fr,.box km)::ns)->dY C X φ o w (.ptr fr 0) ((fr,.box km)::ns) (do pure (.pointer (some (<-newRow el zs)))):=by
  intro km ns h1 h2 hs hf;refine⟨.pointer (some ⟨w.heap.size,0,none⟩),w.alloc (.cells zs el),cu φ fr ⟨w.heap.size,0,none⟩,by simp[newRow],?_⟩;have hc:o fr=.none:=hf _ (zf ..) (Nat.le_refl _) (by show fr<fr+16;omega);refine Comes.fresh hm (B:=.cells zs el) rfl (.box km) (fun p hp=>?_) (fun _=>by rw[hc];trivial) (fun h3 h4 h5=>?_) (fun h=>by rw[hs] at h;cases h) (fun h3=>?_)
  ·obtain⟨g1,g2,g3⟩:=h1 p hp;exact⟨g1,by omega,hf p (zh _ hp) om g3⟩
  ·refine⟨by rw[eH],zs,el,0,0,?_,Nat.le_refl _,h2 _ _ _ _ h5 fun p hp=>?_⟩
   ·rw[eH];exact heap_alloc_new w _
   ·exact Qm ns _ p.1 (fun q hq=>(h1 q hq).1) (MW hp)
  ·unfold aq;rw[h3,eH]
 cases hb:Nat.ble (tK cs) 14 with
 |true=>
  rw[hb] at h;simp only[cond_true,dU,dR] at h;obtain⟨hs,rfl,rfl⟩:=h;have hs:nP (nf (fr+1) cs (vT C 8 t)).1=false:=by simpa using hs
  have hb:=zB hb;refine main _ _ (fun p hp=>?_) (fun φ' o' imm' w' hk hn=>(MX (φ':=φ') (o':=o') (imm':=imm') (w':=w') cs (vT C 8 t) (fr+1)).2 _ hr hk hn) hs hf;obtain⟨g1,g2,g3⟩:=(MX (φ:=φ) (o:=o) (imm:=ah X φ o w) (w:=w) (φ':=φ) (o':=o) (imm':=ah X φ o w) (w':=w) cs (vT C 8 t) (fr+1)).1 p hp;exact⟨g1,g2,by omega⟩
 |false=>rw[hb] at h;simp only[cond_false,dU,dR] at h;obtain⟨hs,rfl,rfl⟩:=h;exact main cs [] (fun p hp=>by cases hp) (fun φ' o' imm' w' hk _=>Eu hk _ _ hr) (by simpa using hs) hf
theorem qx5(hm:MRel C X φ o w){fr:Nat}{cs:List V}{zs:Array Value}{v:V}{u:List (Nat×Obj)}(hr:cd φ o (ah X φ o w) w cs zs.toList)(h:(Pm fr cs).aE v u)(hf:kO fr o u):dY C X φ o w v u (do pure (.pointer (some (<-newRow C.gW zs)))):=by
 unfold Pm at h;split at h
 ·rw[dR] at h;obtain⟨rfl,rfl⟩:=h;obtain⟨z1,r1,e1,a1,z2,r2,e2,a2,a3⟩:=hr;have a1:z1=.pointer none:=a1;have a2:z2=.slice none 0 0:=a2;have a3:r2=[]:=a3;subst e2 a1 a2 a3;refine⟨.pointer (some ⟨w.heap.size,0,none⟩),w.alloc (.cells zs C.gW),cu φ fr ⟨w.heap.size,0,none⟩,by simp[newRow],?_⟩;have he:o fr=.none:=hf _ (zf ..) (Nat.le_refl _) (by show fr<fr+16;omega);have hc:o (fr+1)=.none:=hf (fr+1,_) (zh _ (zf ..)) (by show fr<=fr+1;omega) (by show fr+1<fr+16;omega);have g0:ak o [(fr,Obj.box [.dA fr false,.bM (fr+1) 0]),(fr+1,.vec (.int .u8) 0 false ⟨true,[]⟩)] fr=.box [.dA fr false,.bM (fr+1) 0]:=by show cu (cu o fr _) (fr+1) _ fr=_;rw[iI om,eH]
  have g1:ak o [(fr,Obj.box [.dA fr false,.bM (fr+1) 0]),(fr+1,.vec (.int .u8) 0 false ⟨true,[]⟩)] (fr+1)=.vec (.int .u8) 0 false ⟨true,[]⟩:=by show cu (cu o fr _) (fr+1) _ (fr+1)=_;rw[eH]
  refine Comes.fresh hm (B:=.cells zs C.gW) rfl (.box [.dA fr false,.bM (fr+1) 0]) (fun p hp=>?_) (fun _=>by rw[he];trivial) (fun h3 h4 h5=>?_) (fun _=>⟨zs,C.gW,(0,0),heap_alloc_new w _,.inl ⟨rfl,by rw[<-Array.length_toList,e1];rfl⟩⟩) (fun h3=>?_)
  ·rw[zK] at hp;subst hp;exact⟨⟨_,rfl⟩,by show fr+1≠fr;omega,hc⟩
  ·refine⟨by rw[eH],zs,C.gW,0,0,?_,Nat.le_refl _,?_⟩
   ·rw[eH];exact heap_alloc_new w _
   ·rw[e1];refine⟨_,_,rfl,?_,_,_,rfl,?_,rfl⟩
    ·unfold aq;rw[g0];rfl
    ·unfold aq;rw[g1];exact⟨Nat.le_refl _,fun _=>.inl ⟨rfl,rfl⟩⟩
  ·unfold aq;rw[h3,eH]
 ·cases h
theorem XX(hm:MRel C X φ o w){fr:Nat}{cs:List V}{zs:Array Value}{v:V}{u:List (Nat×Obj)}(hr:cd φ o (ah X φ o w) w cs zs.toList)(h:(Mm fr cs).aE v u)(hf:kO fr o u):dY C X φ o w v u (do pure (.pointer (some (<-newRow C.px zs)))):=by
 unfold Mm at h;split at h
 ·rename_i s x t y;rw[dU,dR,ze] at h;obtain⟨⟨hg,hj⟩,rfl,rfl⟩:=h;obtain⟨z1,r1,e1,a1,z2,r2,e2,a2,z3,r3,e3,a3,z4,r4,e4,a4,a5⟩:=hr;have a1:z1=.pointer none:=a1;have a2:z2=.slice none 0 0:=a2;have a5:r4=[]:=a5;have b3:aT (ah X φ o w) w s x z3:=a3;have b4:aT (ah X φ o w) w t y z4:=a4;subst e2 e3 e4 a1 a2 a5;refine⟨.pointer (some ⟨w.heap.size,0,none⟩),w.alloc (.cells zs C.px),cu φ fr ⟨w.heap.size,0,none⟩,by simp[newRow],?_⟩;have he:o fr=.none:=hf _ (zf ..) (Nat.le_refl _) (by show fr<fr+16;omega);have hc:o (fr+1)=.none:=hf (fr+1,_) (zh _ (zf ..)) (by show fr<=fr+1;omega) (by show fr+1<fr+16;omega);have g0:ak o [(fr,Obj.box [.dA fr false,.bM (fr+1) 0,.d s x,.d t y]),(fr+1,.vec (.int .u8) 0 false ⟨true,[]⟩)] fr=.box [.dA fr false,.bM (fr+1) 0,.d s x,.d t y]:=by show cu (cu o fr _) (fr+1) _ fr=_;rw[iI om,eH]
  have g1:ak o [(fr,Obj.box [.dA fr false,.bM (fr+1) 0,.d s x,.d t y]),(fr+1,.vec (.int .u8) 0 false ⟨true,[]⟩)] (fr+1)=.vec (.int .u8) 0 false ⟨true,[]⟩:=by show cu (cu o fr _) (fr+1) _ (fr+1)=_;rw[eH]
  refine Comes.fresh hm (B:=.cells zs C.px) rfl (.box [.dA fr false,.bM (fr+1) 0,.d s x,.d t y]) (fun p hp=>?_) (fun _=>by rw[he];trivial) (fun h3 h4 h5=>?_) (fun _=>⟨zs,C.px,(0,0),heap_alloc_new w _,.inr ⟨rfl,by rw[<-Array.length_toList,e1];rfl⟩⟩) (fun h3=>?_)
  ·rw[zK] at hp;subst hp;exact⟨⟨_,rfl⟩,by show fr+1≠fr;omega,hc⟩
  ·refine⟨by rw[eH],zs,C.px,0,0,?_,Nat.le_refl _,?_⟩
   ·rw[eH];exact heap_alloc_new w _
   ·rw[e1];refine⟨_,_,rfl,?_,_,_,rfl,?_,_,_,rfl,?_,_,_,rfl,?_,rfl⟩
    ·unfold aq;rw[g0];rfl
    ·unfold aq;rw[g1];exact⟨Nat.le_refl _,fun _=>.inl ⟨rfl,rfl⟩⟩
    ·exact h5 _ _ a3
    ·exact h5 _ _ a4
  ·unfold aq;rw[h3,eH]
 ·cases h
theorem EC(hm:MRel C X φ o w){fr ver cap lo hi:Nat}{e:Ty}{l:List (den e)}{c:Array Value}{el:TypeId}{w':World}{ec rest:List Value}(hg:w'.heap=w.heap.push (.cells c el (lo,hi)))(hk:∀w',Up w w' (φ fr) ⟨w.heap.size,0,none⟩ (o fr) (.vec e ver false ⟨false,l⟩))(hc:c.toList=ec++rest)(hr:bc (aA (ah X φ o w) w e) l ec)(he:c.size=cap*aJ e)(hj:l.length<=cap)(hl:l.length<=ch)(ho:lo=hi\/c.size<=lo)(hq:e=.int .u8->C.P.underlying el=some (.int .u8))(still:tR w w':=by exact⟨rfl,rfl⟩):
  Comes C X φ (cu φ fr ⟨w.heap.size,0,none⟩) o [(fr,.vec e ver false ⟨false,l⟩)] w w' (.bM fr ver) (.slice (some ⟨w.heap.size,0,none⟩) l.length cap)/\
  Comes C X φ (cu φ fr ⟨w.heap.size,0,none⟩) o [(fr,.vec e ver false ⟨false,l⟩)] w w' (.ptr fr 0) (.pointer (some ⟨w.heap.size,0,none⟩)):=by
 have hh:w'.heap[w.heap.size]?=some (.cells c el (lo,hi)):=by rw[hg];simp
 have hf:∀n,n<=c.size->room w' ⟨w.heap.size,0,none⟩ n:=fun n hn=>⟨c,el,lo,hi,hh,by simpa using hn,by simp only[zD];omega⟩;have hs:=nS hr;have hu:l.length*aJ e<=c.size:=by rw[he];exact Nat.mul_le_mul_right _ hj
 have both:∀v z,(ak o [(fr,Obj.vec e ver false ⟨false,l⟩)] fr=.vec e ver false ⟨false,l⟩->aq (cu φ fr ⟨w.heap.size,0,none⟩) (ak o [(fr,.vec e ver false ⟨false,l⟩)]) (ah X (cu φ fr ⟨w.heap.size,0,none⟩) (ak o [(fr,.vec e ver false ⟨false,l⟩)]) w') w' v z)->
   Comes C X φ (cu φ fr ⟨w.heap.size,0,none⟩) o [(fr,.vec e ver false ⟨false,l⟩)] w w' v z:=by
  intro v z hv;refine Comes.fresh hm hg (.vec e ver false ⟨false,l⟩) (ns:=[]) (fun p hp=>by cases hp) hk (fun h3 h4 h5=>?_) (fun ht _=>⟨c,el,(lo,hi),hh,hq ht,ho⟩) hv still;refine⟨hl,by simp,fun _=>.inl ⟨by rw[eH],ec,nh (gX h3 h4 e) hr,?_,?_,fun _=>?_,by simp⟩⟩
  ·rw[eH];have:=Jl hh 0 ec.length;rw[List.drop_zero,hc,List.take_left'] at this
   ·exact this
   ·rfl
  ·rw[eH];exact hf 0 (Nat.zero_le _)
  ·rw[eH];exact hf _ hu
 refine⟨both _ _ fun h3=>?_,both _ _ fun h3=>?_⟩
 ·unfold aq;rw[h3,eH];exact⟨Nat.le_refl _,fun _=>.inr ⟨rfl,cap,rfl,hj,fun h=>by simp at h,fun _ _=>hf _ (by rw[he];exact Nat.le_refl _)⟩⟩
 ·unfold aq;rw[h3,eH];exact fun _=>rfl
theorem Jp:∀(zs:List Value),cd φ o imm w (zs.map C8) zs
 |[]=>rfl
 |z::zs=>⟨z,zs,rfl,P0 z,Jp zs⟩
theorem XY{t:TypeId}{cs:List V}(h:Mi C t=some cs):∃i z,C.P.info? t=some i/\i.zero=some z/\cs=z.cells.toList.map C8:=by
 unfold Mi at h;split at h
 ·rename_i i e;split at h
  ·rename_i z hz;exact⟨i,z,I9 e,hz,(zI h).symm⟩
  ·cases h
 ·cases h
theorem HM{fr:Nat}{a:Addr}{x:Obj}(h:o fr=.none):∀w',Up w w' (φ fr) a (o fr) x:=fun _=>by rw[h];trivial
theorem quu(hC:cD C)(hm:MRel C X φ o w){fr:Nat}{t:TypeId}{v:V}{u:List (Nat×Obj)}(h:(Pr C fr t).aE v u)(hf:kO fr o u)(cC:Value):dY C X φ o w v u (Instr.alloc t true cC):=by
 unfold Pr at h;split at h
 ·rename_i n e he;rw[dU,dR,ze,ze] at h;obtain⟨⟨⟨h1,hj⟩,hk⟩,rfl,rfl⟩:=h;have hl:o fr=.none:=hf _ (zf ..) (Nat.le_refl _) (by show fr<fr+16;omega);have hT:=hC.eM _ _ he;obtain⟨i,z,k1,_,k2,k3,k4,k5,k6⟩:=hT.info;have hz:=k6 (ah X φ o w) w;obtain⟨hn,hg⟩:=hz;have hc:=nS hg;refine⟨.pointer (some ⟨w.heap.size,0,none⟩),w.alloc (.cells z.cells t),_,by simp[Instr.alloc,vZ k1 k4,newVar,newRow],
   (EC hm (c:=z.cells) (el:=t) (lo:=0) (hi:=0) (cap:=n) (ec:=z.cells.toList) (rest:=[]) rfl (HM hl) (by simp) ?_ ?_ (by simp) ?_ (.inl rfl) (fun he=>(XU hk he).elim)).2⟩
  ·simpa[zero] using hg
  ·have e1:List.length (zero (.arr n e))=n:=hn;rw[e1] at hc;simpa using hc
  ·have:=zB hj;simp;unfold ch;omega
 ·split at h
  ·rename_i cs ho;obtain⟨i,z,k1,k2,rfl⟩:=XY ho;cases hb:Nat.beq t C.gW with
   |false=>
    rw[hb,cond_false] at h;cases hp:Nat.beq t C.px with
    |true=>rw[hp,cond_true] at h;have hp:=zm hp;obtain⟨val,w',φ',g1,g2⟩:=XX hm (zs:=z.cells) (Jp _) h hf;refine⟨val,w',φ',?_,g2⟩;rw[<-g1,<-hp];simp[Instr.alloc,vZ k1 k2,newVar]
    |false=>rw[hp,cond_false] at h;obtain⟨val,w',φ',g1,g2⟩:=XV hm (el:=t) (zs:=z.cells) (Jp _) h hf;refine⟨val,w',φ',?_,g2⟩;rw[<-g1];simp[Instr.alloc,vZ k1 k2,newVar]
   |true=>rw[hb,cond_true] at h;have hb:=zm hb;obtain⟨val,w',φ',g1,g2⟩:=qx5 hm (zs:=z.cells) (Jp _) h hf;refine⟨val,w',φ',?_,g2⟩;rw[<-g1,<-hb];simp[Instr.alloc,vZ k1 k2,newVar]
  ·cases h
theorem z2f(hm:MRel C X φ o w){fr:Nat}{t:TypeId}{x:V}{z:Value}{v:V}{u:List (Nat×Obj)}(hx:aq φ o (ah X φ o w) w x z)(h:(Ps C o fr t x).aE v u)(hf:kO fr o u):dY C X φ o w v u (Instr.box t z):=by
 unfold Ps at h;split at h
 ·rename_i n e l;rw[dU,dR,ze,ze] at h;obtain⟨⟨⟨h1,hg⟩,hj⟩,rfl,rfl⟩:=h;have hk:o fr=.none:=hf _ (zf ..) (Nat.le_refl _) (by show fr<fr+16;omega);obtain⟨cs,rfl,hl,hr⟩:=hx;have hl:List.length l=n:=hl;have hc:=nS hr;refine⟨.pointer (some ⟨w.heap.size,0,none⟩),w.alloc (.cells cs t),_,by simp[Instr.box,newVar,newRow,Value.cells],
   (EC hm (c:=cs) (el:=t) (lo:=0) (hi:=0) (cap:=n) (ec:=cs.toList) (rest:=[]) rfl (HM hk) (by simp) hr ?_ ?_ ?_ (.inl rfl) (fun he=>(XU hj he).elim)).2⟩
  ·rw[hl] at hc;simpa using hc
  ·omega
  ·have:=zB hg;unfold ch;omega
 ·split at h
  ·rename_i cs hn;obtain⟨g1,g2⟩:=Ql hx hn;cases hp:Nat.beq t C.px with
   |true=>rw[hp,cond_true] at h;have hp:=zm hp;subst hp;exact XX hm (zs:=z.cells) g1 h hf
   |false=>rw[hp,cond_false] at h;exact XV hm (el:=t) (zs:=z.cells) g1 h hf
  ·cases h
end
end Ev