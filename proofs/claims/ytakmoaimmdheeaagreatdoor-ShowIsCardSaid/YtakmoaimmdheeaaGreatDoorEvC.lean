/- Operations are sound: reading, fields, indices, slices, boxes. No statement of its own about the program. -/
import Derived.Test.YtakmoaimmdheeaaGreatDoorEvB
import Derived.Laws.AppendOwn
import Derived.Laws.CopyRow
import Derived.Laws.MakeOwn
import Derived.Laws.BytesString
import Derived.Laws.IdiomCopy
import Derived.Laws.IdiomStrings
namespace Ev
open Go
theorem q0h{α:Type}{f:Nat->α}{i:Nat}{x:α}:upd f i x i=x:=by simp[upd]
theorem q0n{α:Type}{f:Nat->α}{i j:Nat}{x:α}(h:j≠i):upd f i x j=f j:=by
 unfold upd;have:Nat.beq j i=false:=by
  cases e:Nat.beq j i with
  |false=>rfl
  |true=>exact absurd (zg e) h
 rw[this];rfl
theorem q0u:∀{u:List (Nat×Obj)} {o:Nat->Obj} {id:Nat},id∉q0j u->upds o u id=o id
 |[],_,_,_=>rfl
 |(i,x)::r,o,id,h=>by simp only[q0j,zo,not_or] at h;show upds (upd o i x) r id=_;rw[q0u h.2,q0n h.1]
theorem qfo{α:Type}:∀(u u':List (Nat×α)) (o:Nat->α),upds o (u++u')=upds (upds o u) u'
 |[],_,_=>rfl
 |(i,x)::r,u',o=>qfo r u' (upd o i x)
theorem q5u:∀(u u':List (Nat×Obj)),q0j (u++u')=q0j u++q0j u'
 |[],_=>rfl
 |(i,x)::r,u'=>by simp[q0j,q5u r u']
theorem Up.trans{w w' w'':World}{a a' a'':Addr}{x y z:Obj}(h:Up w w' a a' x y)(h':Up w' w'' a' a'' y z):Up w w'' a a'' x z:=by
 cases x with
 |none=>trivial
 |dead=>cases y<;>simp only[Up] at h<;>cases z<;>simp only[Up] at h' ⊢
 |box cs=>cases y<;>simp only[Up] at h<;>cases z<;>simp only[Up] at h' ⊢;rw[h',h]
 |map k v m=>cases y<;>simp only[Up] at h<;>cases z<;>simp only[Up] at h' ⊢;rw[h',h]
 |iter s p=>cases y<;>simp only[Up] at h<;>cases z<;>simp only[Up] at h' ⊢;rw[h',h]
 |vec t ver fr s=>
  cases y<;>simp only[Up] at h<;>cases z<;>simp only[Up] at h' ⊢;rcases h with h|⟨h1,h2,h3,h4,h5,h6⟩<;>rcases h' with h'|⟨g1,g2,g3,g4,g5,g6⟩
  ·exact .inl (by omega)
  ·exact .inl (by omega)
  ·exact .inl (by omega)
  ·refine .inr ⟨by omega,h2.trans g2,h3.trans g3,h4.trans g4,g5.trans h5,fun hf=>?_⟩;obtain⟨g7,g8⟩:=g6 hf;obtain⟨h7,h8⟩:=h6 g7;refine⟨h7,fun hn hs n hr=>?_⟩;have:=g8 (h3▸hn) (by rw[h5];exact hs) n (by rw[h5];exact h8 hn hs n hr);rw[h5] at this;exact this
section
variable {C:Cx} {X:Nat→Prop} {φ φ' φ'':Nat→Addr} {o:Nat→Obj} {w w' w'':World} {u u':List (Nat×Obj)} {v v':V} {z z':Value}
theorem q4w{α β:Type}{f f':α->Value->Prop}{g g':β->Value->Prop}(hf:∀x v,f x v->f' x v)(hg:∀x v,g x v->g' x v):∀{l:List (α×β)} {es:List MapEntry},qeo f g l es->qeo f' g' l es
 |[],_,h=>h
 |_::_,_,⟨e,r,h1,h2,h3,h4⟩=>⟨e,r,h1,hf _ _ h2,hg _ _ h3,q4w hf hg h4⟩
theorem q6m{imm imm':Nat->Prop}{o':Nat->Obj}(h:∀x z,q03 φ o imm w x z->q03 φ' o' imm' w' x z):∀(l:List V) (zs:List Value),q0m φ o imm w l zs->q0m φ' o' imm' w' l zs
 |[],_,h1=>h1
 |_::l,_,⟨a,r,h1,h2,h3⟩=>⟨a,r,h1,h _ _ h2,q6m h l _ h3⟩
theorem q4l{imm imm':Nat->Prop}{o':Nat->Obj}(hi:∀b,imm b->imm' b)(hw:∀b,imm b->w'.heap[b]?=w.heap[b]?)(hk:∀x z,q03 φ o imm w x z->q03 φ' o' imm' w' x z){id:Nat}{x:Obj}(hp:φ' id=φ id)(hb:excl (φ id) x=true->w'.heap[(φ id).block]?=w.heap[(φ id).block]?)(h:q5d φ o imm w id x):q5d φ' o' imm' w' id x:=by
 cases x with
 |dead=>trivial
 |none=>trivial
 |box cs=>obtain⟨h1,c,el,lo,he,h2,h3,h4⟩:=h;refine⟨by rw[hp];exact h1,c,el,lo,he,?_,h3,q6m hk _ _ h4⟩;rw[hp,hb rfl,h2]
 |map k v m=>obtain⟨es,clock,h1,h2⟩:=h;refine⟨es,clock,by rw[hp,hb rfl,h1],q4w (q24 hi hw _) (q24 hi hw _) h2⟩
 |iter l p=>obtain⟨s,n,h1,h2,h3,h4⟩:=h;exact⟨s,n,by rw[hp,hb rfl,h1],h2,h3,h4⟩
 |vec t ver fr s=>
  obtain⟨h1,h2,h3⟩:=h;refine⟨h1,h2,fun hn=>?_⟩;rw[hp];refine(h3 hn).imp (fun⟨h4,ec,h5,h6,h7,h8,h9⟩=>?_) fun g=>g;have hc:w'.heap[(φ id).block]?=w.heap[(φ id).block]?:=by
   cases fr with
   |false=>exact hb (q2q hn h4)
   |true=>exact hw _ (h9 rfl)
  exact⟨h4,ec,q1d (q0k hi hw t) h5,q40 hc h6,q4u hc h7,fun hf=>q4u hc (h8 hf),fun hf=>hi _ (h9 hf)⟩
theorem MRel.hitOnly(hm:MRel C X φ o w){ks:List Nat}{id:Nat}(hx:excl (φ id) (o id)=true)(hk:id∉ks):¬hit ks φ o (φ id).block:=fun⟨j,h1,h2,h3⟩=>hk (hm.inj j id h2 hx h3▸h1)
theorem Comes.make(hm:MRel C X φ o w)(size:w.heap.size<=w'.heap.size)(frame:∀b,b<w.heap.size->¬hit (q0j u) φ o b->w'.heap[b]?=w.heap[b]?)(phi:∀id,id∉q0j u->φ' id=φ id)(phi':∀id,o id≠.none->id∉q0j u->φ' id=φ id)(up:∀id,id∈q0j u->Up w w' (φ id) (φ' id) (o id) (upds o u id))(place:∀id,id∈q0j u->excl (φ' id) (upds o u id)=true->(w.heap.size<=(φ' id).block/\(φ' id).block<w'.heap.size)\/(excl (φ id) (o id)=true/\(φ' id).block=(φ id).block))(apart:∀i j,i∈q0j u->j∈q0j u->excl (φ' i) (upds o u i)=true->excl (φ' j) (upds o u j)=true->w.heap.size<=(φ' i).block->(φ' i).block=(φ' j).block->i=j)(obj:(∀b,immB X φ o w b->immB X φ' (upds o u) w' b)->(∀b,immB X φ o w b->w'.heap[b]?=w.heap[b]?)->(∀x z,q03 φ o (immB X φ o w) w x z->q03 φ' (upds o u) (immB X φ' (upds o u) w') w' x z)->∀id,id∈q0j u->q5d φ' (upds o u) (immB X φ' (upds o u) w') w' id (upds o u id))(els:∀id,id∈q0j u->ElsAt C w' (φ' id) (upds o u id))(val:(∀b,immB X φ o w b->immB X φ' (upds o u) w' b)->(∀b,immB X φ o w b->w'.heap[b]?=w.heap[b]?)->(∀x z,q03 φ o (immB X φ o w) w x z->q03 φ' (upds o u) (immB X φ' (upds o u) w') w' x z)->q03 φ' (upds o u) (immB X φ' (upds o u) w') w' v z)(still:qd4 w w':=by exact⟨rfl,rfl⟩):Comes C X φ φ' o u w w' v z:=by
 have bl:∀id,id∉q0j u->excl (φ id) (o id)=true->w'.heap[(φ id).block]?=w.heap[(φ id).block]?:=fun id hk hx=>frame _ (hm.sep id hx).1 (hm.hitOnly hx hk);have stays:∀b,immB X φ o w b->w'.heap[b]?=w.heap[b]?:=fun b hb=>frame b hb.1 fun⟨id,_,e1,e2⟩=>hb.2.2 ⟨id,e1,e2⟩;have ups:∀id,Up w w' (φ id) (φ' id) (o id) (upds o u id):=fun id=>by
  by_cases hk:id∈q0j u
  ·exact up id hk
  ·rw[phi id hk,q0u hk];exact Up.same fun hx n hr=>q4u (bl id hk hx) hr
 have news:∀id,excl (φ' id) (upds o u id)=true->w.heap.size<=(φ' id).block\/q7c φ o (φ' id).block:=fun id hx=>by
  by_cases hk:id∈q0j u
  ·rcases place id hk hx with h|⟨h,e⟩
   ·exact .inl h.1
   ·exact .inr ⟨id,h,e.symm⟩
  ·rw[q0u hk,phi id hk] at hx;exact .inr ⟨id,hx,by rw[phi id hk]⟩
 have imm:∀b,immB X φ o w b->immB X φ' (upds o u) w' b:=fun b ⟨h1,h2,h3⟩=>
  ⟨Nat.lt_of_lt_of_le h1 size,h2,fun⟨id,e1,e2⟩=>by
   rcases news id e1 with e3|e3
   ·omega
   ·exact h3 (e2▸e3)⟩
 have keeps:∀x z,q03 φ o (immB X φ o w) w x z->q03 φ' (upds o u) (immB X φ' (upds o u) w') w' x z:=fun x z h=>q39 imm stays ups x z h;have pl:∀id,excl (φ' id) (upds o u id)=true->(w.heap.size<=(φ' id).block/\(φ' id).block<w'.heap.size)\/(excl (φ id) (o id)=true/\(φ' id).block=(φ id).block):=fun id hx=>by
  by_cases hk:id∈q0j u
  ·exact place id hk hx
  ·rw[q0u hk,phi id hk] at hx;exact .inr ⟨hx,by rw[phi id hk]⟩
 refine⟨⟨fun id=>?_,fun i j hi hj e=>?_,fun i hi=>?_,fun b hb=>Nat.lt_of_lt_of_le (hm.xs b hb) size,fun id=>?_,fun g t x hg=>keeps _ _ (hm.globs g t x hg),hm.gszUp stays⟩,val imm stays keeps,ups,size,frame,phi',news,still⟩
 ·by_cases hk:id∈q0j u
  ·exact obj imm stays keeps id hk
  ·rw[q0u hk];exact q4l imm stays keeps (phi id hk) (bl id hk) (hm.objs id)
 ·rcases pl i hi with hc|hc<;>rcases pl j hj with he|he
  ·by_cases ki:i∈q0j u
   ·by_cases kj:j∈q0j u
    ·exact apart i j ki kj hi hj hc.1 e
    ·rw[q0u kj,phi j kj] at hj;have:=(hm.sep j hj).1;rw[<-phi j kj] at this;omega
   ·rw[q0u ki,phi i ki] at hi;have:=(hm.sep i hi).1;rw[<-phi i ki] at this;omega
  ·have:=(hm.sep j he.1).1;omega
  ·have:=(hm.sep i hc.1).1;omega
  ·exact hm.inj i j hc.1 he.1 (by rw[<-hc.2,<-he.2,e])
 ·rcases pl i hi with hc|hc
  ·exact⟨hc.2,fun hx=>by have:=hm.xs _ hx;omega⟩
  ·obtain⟨h1,h2⟩:=hm.sep i hc.1;rw[hc.2];exact⟨by omega,h2⟩
 ·by_cases hk:id∈q0j u
  ·exact els id hk
  ·rw[phi id hk,q0u hk];refine(hm.els id).keep (fun hx=>.same (bl id hk hx)) (fun ver s e hn=>.same ?_) (hm.elsC id);have ho:=hm.objs id;rw[e] at ho;obtain⟨_,_,ho⟩:=ho;rcases ho hn with ⟨_,_,_,_,_,_,g7⟩|g7
   ·exact stays _ (g7 rfl)
   ·exact absurd rfl g7.2.2
theorem Comes.trans(h:Comes C X φ φ' o u w w' v z)(h':Comes C X φ' φ'' (upds o u) u' w' w'' v' z'):Comes C X φ φ'' o (u++u') w w'' v' z':=by
 have e:upds o (u++u')=upds (upds o u) u':=qfo _ _ _;refine⟨by rw[e];exact h'.mem,by rw[e];exact h'.val,fun id=>by rw[e];exact(h.up id).trans (h'.up id),Nat.le_trans h.size h'.size,fun b hb hh=>?_,fun id hn hk=>?_,fun id hx=>?_,⟨h'.still.1.trans h.still.1,h'.still.2.trans h.still.2⟩⟩
 ·rw[h'.frame b (Nat.lt_of_lt_of_le hb h.size),h.frame b hb]
  ·rintro⟨id,h1,h2,h3⟩;exact hh ⟨id,by rw[q5u];exact List.mem_append_left _ h1,h2,h3⟩
  ·rintro⟨id,h1,h2,h3⟩;by_cases hk:id∈q0j u
   ·rcases h.news id h2 with h4|⟨j,h4,h5⟩
    ·omega
    ·by_cases hj:j∈q0j u
     ·exact hh ⟨j,by rw[q5u];exact List.mem_append_left _ hj,h4,by rw[h5,h3]⟩
     ·have hc:o j≠.none:=by intro e2;rw[e2] at h4;simp[excl,live] at h4
      have:=h.mem.inj id j h2 (by rw[q0u hj,h.phi j hc hj];exact h4) (by rw[h.phi j hc hj,h5]);exact hj (this▸hk)
   ·rw[q0u hk] at h2;have hc:o id≠.none:=by intro e2;rw[e2] at h2;simp[excl,live] at h2
    rw[h.phi id hc hk] at h3 h2;exact hh ⟨id,by rw[q5u];exact List.mem_append_right _ h1,h2,h3⟩
 ·rw[q5u,zN,not_or] at hk;rw[h'.phi id (by rw[q0u hk.1];exact hn) hk.2,h.phi id hn hk.1]
 ·rw[e] at hx;rcases h'.news id hx with h1|⟨j,h1,h2⟩
  ·exact .inl (Nat.le_trans h.size h1)
  ·rcases h.news j h1 with h3|h3
   ·exact .inl (by omega)
   ·exact .inr (h2▸h3)
theorem q5p:∀{ks:List Nat} {id:Nat},id∈q0j (frz o ks)->∃t ver fr s,o id=.vec t ver fr s/\∀o',upds o' (frz o ks) id=.vec t ver true s
 |[],id,h=>by cases h
 |k::r,id,h=>by
  have:frz o (k::r)=frz o r\/∃t ver fr s,o k=.vec t ver fr s/\frz o (k::r)=(k,.vec t ver true s)::frz o r:=by
   simp only[frz];cases e:o k with
   |vec t ver fr s=>exact .inr ⟨t,ver,fr,s,rfl,rfl⟩
   |_=>exact .inl rfl
  rcases this with e|⟨t,ver,fr,s,e1,e2⟩
  ·rw[e] at h ⊢;exact q5p h
  ·rw[e2] at h ⊢;by_cases hk:id∈q0j (frz o r)
   ·obtain⟨t',ver',fr',s',h1,h2⟩:=q5p hk;exact⟨t',ver',fr',s',h1,fun o'=>h2 _⟩
   ·simp only[q0j,zo,hk,or_false] at h;subst h;exact⟨t,ver,fr,s,e1,fun o'=>by show upds (upd o' id _) (frz o r) id=_;rw[q0u hk,q0h]⟩
theorem qoi:∀{ks:List Nat} {id:Nat},id∈ks->∀{t ver fr s},o id=.vec t ver fr s->id∈q0j (frz o ks)
 |k::r,id,h,t,ver,fr,s,e=>by
  rcases zo.1 h with h|h
  ·subst h;simp[frz,e,q0j]
  ·have:=qoi h e;simp only[frz];split
   ·exact zh _ this
   ·exact this
theorem qlj(hm:MRel C X φ o w)(ks:List Nat):Comes C X φ φ o (frz o ks) w w .undef undef:=by
 refine Comes.make hm (Nat.le_refl _) (fun _ _ _=>rfl) (fun _ _=>rfl) (fun _ _ _=>rfl) (fun id hk=>?_) (fun id hk hx=>?_) (fun i j hi _ hx=>?_) (fun hi hw hg id hk=>?_) (fun id hk=>by obtain⟨t,ver,fr,s,h1,h2⟩:=q5p hk;have:=hm.els id;rw[h1] at this;rw[h2 o];exact this) (fun _ _ _=>rfl)
 ·obtain⟨t,ver,fr,s,h1,h2⟩:=q5p hk;rw[h1,h2 o];exact .inr ⟨rfl,rfl,rfl,rfl,rfl,by simp⟩
 ·obtain⟨t,ver,fr,s,h1,h2⟩:=q5p hk;rw[h2 o] at hx;have:=(q4z hx).2.1;simp at this
 ·obtain⟨t,ver,fr,s,h1,h2⟩:=q5p hi;rw[h2 o] at hx;have:=(q4z hx).2.1;simp at this
 ·obtain⟨t,ver,fr,s,h1,h2⟩:=q5p hk;have ho:=hm.objs id;rw[h2 o];rw[h1] at ho;obtain⟨h3,h4,h5⟩:=ho;refine⟨h3,h4,fun hn=>(h5 hn).imp (fun⟨h6,ec,h7,h8,h9,hl,hc⟩=>?_) fun g=>g⟩;refine⟨h6,ec,q1d (q0k hi hw t) h7,h8,h9,by simp,fun _=>?_⟩;cases hf:fr with
  |true=>exact hi _ (hc hf)
  |false=>
   have hx:excl (φ id) (o id)=true:=by rw[h1,hf];exact q2q hn h6
   obtain⟨g1,g2⟩:=hm.sep id hx;refine⟨g1,g2,fun⟨j,e1,e2⟩=>?_⟩;by_cases hj:j∈q0j (frz o ks)
   ·obtain⟨t',ver',fr',s',_,he⟩:=q5p hj;rw[he o] at e1;have:=(q4z e1).2.1;simp at this
   ·rw[q0u hj] at e1;have:=hm.inj j id e1 hx e2;subst this;exact hj hk
end
theorem q3a{t t':Ty}{x:den t'}{y:den t}(h:asTy t t' x=some y):∃e:t'=t,y=e▸x:=by
 unfold asTy at h;split at h
 ·rename_i e _;exact⟨e,(zF h).symm⟩
 ·cases h
section
variable {C:Cx} {X:Nat→Prop} {φ:Nat→Addr} {o:Nat→Obj} {w:World} {imm:Nat→Prop}
def z3h(imm:Nat->Prop)(w:World)(e:Ty)(s:Sl (den e))(z:Value):Prop:=s.l.length<=maxL/\
 ((s.nil=true/\s.l=[]/\z=.slice none 0 0)\/
  (s.nil=false/\∃a cap ec,z=.slice (some a) s.l.length cap/\(cap≠0->a.spot=none)/\relR (relC imm w e) s.l ec/\q1p w a ec/\s.l.length<=cap))
theorem q5v{a:Addr}{ec:List Value}(n:Nat)(h:q1p w a ec):q1p w a (ec.take n):=by
 intro j hj;have hc:j<ec.length:=by simp at hj;omega
 rw[h j hc];simp
theorem qbo{x:V}{z:Value}{t:Ty}{s:Sl (den t)}(hl:∀id,q5d φ o imm w id (o id))(h:q03 φ o imm w x z)(he:qhc lf o x=some ⟨t,s⟩):z3h imm w t s z/\(∃id ver fr s',o id=.vec t ver fr s'/\(s.nil=false->∀a n c,z=.slice (some a) n c->a.block=(φ id).block)/\s.nil=s'.nil/\(fr=false->id∈q1v o x)/\(s'.l=[]->s.l=[])):=by
 cases x<;>simp only[qhc] at he<;>try (cases he;done)
 ·rename_i id ver;have ho:=hl id;unfold q03 at h;split at he
  ·rename_i t' ver' fr s' e1;rw[e1] at h ho;cases hb:Nat.beq ver ver' with
   |false=>rw[hb] at he;cases he
   |true=>
    rw[hb] at he;simp only[cond_true,zD,Sigma.mk.injEq] at he;obtain⟨rfl,he⟩:=he;have he:=eq_of_heq he;subst he;have h:=h.2 (zg hb);refine⟨⟨ho.1,?_⟩,id,ver',fr,s',e1,?_,rfl,?_,fun h=>h⟩
    ·rcases h with ⟨h1,h2⟩|⟨h1,cap,h2,h3,h4⟩
     ·exact .inl ⟨h1,ho.2.1 h1,h2⟩
     ·rcases ho.2.2 h1 with ⟨h5,ec,h6,h7,_⟩|⟨_,h6,_⟩
      ·exact .inr ⟨h1,_,cap,ec,h2,q89 h4.1,h6,h7,h3⟩
      ·exact .inr ⟨h1,_,cap,[],h2,q89 h4.1,(by rw[h6];rfl),(fun j hj=>by simp at hj),h3⟩
    ·intro hn a n c e;rcases h with ⟨h1,h2⟩|⟨h1,cap,h2,h3,h4⟩
     ·rw[h1] at hn;cases hn
     ·rw[h2] at e;injection e with e _ _;injection e with e;rw[<-e];rfl
    ·intro hf;subst hf;simp[q1v,e1]
  ·cases he
 ·rename_i id ver n cp;have ho:=hl id;unfold q03 at h;split at he
  ·rename_i t' ver' fr s' e1;rw[e1] at h ho;cases hb:Nat.beq ver ver' with
   |false=>rw[hb] at he;cases he
   |true=>
    rw[hb] at he;simp only[cond_true,zD,Sigma.mk.injEq] at he;obtain⟨rfl,he⟩:=he;have he:=eq_of_heq he;subst he;obtain⟨h0,h,_⟩:=h.2 (zg hb);have e2:(lf.takeL s'.l n).length=n:=by simp[lf,takeL,Nat.min_eq_left h0]
    refine⟨⟨?_,?_⟩,id,ver',fr,s',e1,?_,rfl,?_,fun h=>by show lf.takeL s'.l n=[];rw[h];simp[lf,takeL]⟩
    ·show(lf.takeL s'.l n).length<=maxL;have:=ho.1;omega
    ·rcases h with ⟨h1,h2⟩|⟨h1,cap,h2,h3,h4⟩
     ·exact .inl ⟨h1,by simp[lf,takeL,ho.2.1 h1],h2⟩
     ·have e3:z=.slice (some (bare (φ id))) (lf.takeL s'.l n).length cap:=by rw[h2];exact congrArg (fun k=>Value.slice (some (bare (φ id))) k cap) e2.symm
      have e4:(lf.takeL s'.l n).length<=cap:=by omega
      rcases ho.2.2 h1 with ⟨h5,ec,h6,h7,_⟩|⟨_,h6,_⟩
      ·exact .inr ⟨h1,bare (φ id),cap,ec.take (n*csz t'),e3,q89 h4.1,(q23 n h0 h6).1,q5v _ h7,e4⟩
      ·refine .inr ⟨h1,bare (φ id),cap,[],e3,q89 h4.1,?_,(fun j hj=>by simp at hj),e4⟩;have:lf.takeL s'.l n=[]:=by rw[h6];simp[lf,takeL]
       show relR _ (lf.takeL s'.l n) [];rw[this];rfl
    ·intro hn a m c e;rcases h with ⟨h1,h2⟩|⟨h1,cap,h2,h3,h4⟩
     ·rw[show s'.nil=false from hn] at h1;cases h1
     ·rw[h2] at e;injection e with e _ _;injection e with e;rw[<-e];rfl
    ·intro hf;subst hf;simp[q1v,e1]
  ·cases he
 ·rename_i id ver lo;have ho:=hl id;unfold q03 at h;split at he
  ·rename_i t' ver' fr s' e1;rw[e1] at h ho;cases hb:Nat.beq ver ver' with
   |false=>rw[hb] at he;cases he
   |true=>
    rw[hb] at he;simp only[cond_true,zD,Sigma.mk.injEq] at he;obtain⟨rfl,he⟩:=he;have he:=eq_of_heq he;subst he;obtain⟨k,rfl,hk,h⟩:=h.2 (zg hb);have e0:lf.dropL s'.l (k:Int)=s'.l.drop k:=by simp[lf,dropL]
    have e2:(lf.dropL s'.l (k:Int)).length=s'.l.length-k:=by rw[e0];simp
    refine⟨⟨?_,?_⟩,id,ver',fr,s',e1,?_,rfl,?_,fun h=>by show lf.dropL s'.l (k:Int)=[];rw[e0,h];simp⟩
    ·show(lf.dropL s'.l (k:Int)).length<=maxL;have:=ho.1;omega
    ·rcases h with ⟨h1,h2⟩|⟨h1,cap,h2,h3⟩
     ·exact .inl ⟨h1,by simp[lf,dropL,ho.2.1 h1],h2⟩
     ·have e3:z=.slice (some (if cap=0 then bare (φ id) else⟨(φ id).block,(φ id).off+k*csz t',none⟩)) (lf.dropL s'.l (k:Int)).length cap:=by rw[h2];exact congrArg (fun j=>Value.slice _ j cap) e2.symm
      have e4:(lf.dropL s'.l (k:Int)).length<=cap:=by omega
      by_cases hc:cap=0
      ·refine .inr ⟨h1,_,cap,[],e3,fun h=>absurd hc h,?_,fun j hj=>by simp at hj,e4⟩;have:lf.dropL s'.l (k:Int)=[]:=zL (by omega);show relR _ (lf.dropL s'.l (k:Int)) [];rw[this];rfl
      ·rcases ho.2.2 h1 with ⟨h5,ec,h6,h7,_⟩|⟨_,h6,_⟩
       ·refine .inr ⟨h1,_,cap,ec.drop (k*csz t'),e3,fun _=>by rw[if_neg hc],?_,?_,e4⟩
        ·show relR _ (lf.dropL s'.l (k:Int)) _;rw[e0];exact(q23 k hk h6).2
        ·rw[if_neg hc];intro j hj;have hg:k*csz t'+j<ec.length:=by simp at hj;omega
         have:=h7 (k*csz t'+j) hg;simp only[Nat.add_assoc] at this ⊢;rw[this];simp
       ·refine .inr ⟨h1,_,cap,[],e3,fun _=>by rw[if_neg hc],?_,fun j hj=>by simp at hj,e4⟩;have:lf.dropL s'.l (k:Int)=[]:=by rw[e0,h6];simp
        show relR _ (lf.dropL s'.l (k:Int)) [];rw[this];rfl
    ·intro hn a m c e;rcases h with ⟨h1,h2⟩|⟨h1,cap,h2,h3⟩
     ·rw[show s'.nil=false from hn] at h1;cases h1
     ·rw[h2] at e;injection e with e _ _;injection e with e;rw[<-e]
      split<;>rfl
    ·intro hf;subst hf;simp[q1v,e1]
  ·cases he
theorem q9m{t:Ty}{x:V}{d:den t}(h:asD1 lf o t x=some d):x=.d t d\/(∃e,∃ht:.sl e=t,∃s:Sl (den e),qhc lf o x=some ⟨e,s⟩/\d=ht▸s)\/(∃e,∃ht:.sl e=t,x=.nils/\d=ht▸(⟨true,[]⟩:Sl (den e))):=by
 cases x<;>simp only[asD1] at h<;>try (cases h;done)
 ·obtain⟨rfl,rfl⟩:=q3a h;exact .inl rfl
 ·rename_i id ver;cases e1:o id<;>rw[e1] at h<;>simp only at h<;>try (cases h;done)
  rename_i e ver' fr s;cases hb:Nat.beq ver ver'<;>rw[hb] at h
  ·cases h
  ·obtain⟨ht,hd⟩:=q3a h;exact .inr (.inl ⟨e,ht,s,by simp[qhc,e1,hb],hd⟩)
 ·rename_i id ver n cp;cases e1:o id<;>rw[e1] at h<;>simp only at h<;>try (cases h;done)
  rename_i e ver' fr s;cases hb:Nat.beq ver ver'<;>rw[hb] at h
  ·cases h
  ·obtain⟨ht,hd⟩:=q3a h;exact .inr (.inl ⟨e,ht,_,by simp[qhc,e1,hb],hd⟩)
 ·split at h
  ·rename_i e;exact .inr (.inr ⟨e,rfl,rfl,(zF h).symm⟩)
  ·cases h
 ·rename_i id ver lo;cases e1:o id<;>rw[e1] at h<;>simp only at h<;>try (cases h;done)
  rename_i e ver' fr s;cases hb:Nat.beq ver ver'<;>rw[hb] at h
  ·cases h
  ·obtain⟨ht,hd⟩:=q3a h;exact .inr (.inl ⟨e,ht,_,by simp[qhc,e1,hb],hd⟩)
theorem qbp{t:Ty}{x:V}{d:den t}(h:asD lf o t x=some d):asD1 lf o t x=some d\/∃p,∃ht:.ks p=t,∃s:den (.sl (q6v p)),asD1 lf o (.sl (q6v p)) x=some s/\d=ht▸qs9 p s:=by
 unfold asD at h;split at h
 ·rename_i x' h1;injection h with h;subst h;exact .inl h1
 ·cases t with
  |ks p=>
   simp only[ksD] at h;split at h
   ·rename_i s h1;injection h with h;exact .inr ⟨p,rfl,s,h1,h.symm⟩
   ·cases h
  |_=>simp only[ksD] at h;cases h
def q70(o:Nat->Obj)(x:V):Prop:=∀id,id∈q1v o x->∀t ver fr s,o id≠.vec t ver fr s
theorem z3i{e:Ty}{s:Sl (den e)}{z:Value}(h:q03 φ o imm w (.d (.sl e) s) z):z3h imm w e s z:=by obtain⟨h1,h2⟩:=qe1 h;exact⟨h1,h2.imp id fun⟨h3,a,cap,ec,h4,h5,_,h7,h8,h9⟩=>⟨h3,a,cap,ec,h4,h5,h7,h8,h9⟩⟩
theorem qlk{e:Ty}{x:V}{s:Sl (den e)}{z:Value}(hl:∀id,q5d φ o imm w id (o id))(hx:q03 φ o imm w x z)(h:asD lf o (.sl e) x=some s):z3h imm w e s z:=by
 have h:asD1 lf o (.sl e) x=some s:=by
  rcases qbp h with h|⟨p,ht,_⟩
  ·exact h
  ·cases ht
 rcases q9m h with rfl|⟨e',ht,s',h1,h2⟩|⟨e',ht,rfl,h2⟩
 ·exact z3i hx
 ·injection ht with ht;subst ht;subst h2;exact(qbo hl hx h1).1
 ·injection ht with ht;subst ht;subst h2;exact⟨Nat.zero_le _,.inl ⟨rfl,rfl,hx⟩⟩
theorem qqj(hm:MRel C X φ o w){t:Ty}{x:V}{d:den t}{z:Value}(hx:q03 φ o (immB X φ o w) w x z)(hf:q70 o x)(h:asD1 lf o t x=some d):relV (immB X φ o w) w t d z:=by
 rcases q9m h with rfl|⟨e',ht,s',h1,h2⟩|⟨e',ht,rfl,h2⟩
 ·exact hx
 ·subst ht;subst h2;obtain⟨⟨g1,g2⟩,id,ver,fr,s0,g3,g4,g5,g6,g8⟩:=qbo hm.objs hx h1;refine⟨z,rfl,g1,?_⟩;rcases g2 with g2|⟨hn,a,cap,ec,h5,h6,h7,h8,h9⟩
  ·exact .inl g2
  ·refine .inr ⟨hn,a,cap,ec,h5,h6,fun hc=>?_,h7,h8,h9⟩;have he:fr=true:=by
    cases e:fr with
    |true=>rfl
    |false=>exact absurd g3 (hf id (g6 e) _ _ _ _)
   have ho:=hm.objs id;rw[g3] at ho;obtain⟨_,_,ho⟩:=ho;rcases ho (g5▸hn) with ⟨_,_,_,_,_,_,g7⟩|⟨_,g7,_⟩
   ·rw[g4 hn _ _ _ h5];exact g7 he
   ·exact absurd (g8 g7) hc
 ·subst ht;subst h2;exact⟨z,rfl,Nat.zero_le _,.inl ⟨rfl,rfl,hx⟩⟩
theorem qoj(hm:MRel C X φ o w){t:Ty}{x:V}{d:den t}{z:Value}(hx:q03 φ o (immB X φ o w) w x z)(hf:q70 o x)(h:asD lf o t x=some d):relV (immB X φ o w) w t d z:=by
 rcases qbp h with h|⟨p,ht,s,h1,h2⟩
 ·exact qqj hm hx hf h
 ·subst ht;subst h2;have h3:relC (immB X φ o w) w (.sl (q6v p)) s [z]:=qqj hm hx hf h1;show relC (immB X φ o w) w (.ks p) (qs9 p s) [z];rw[qd2,qaq];exact h3
theorem qvg{o':Nat->Obj}(ho:∀id,o' id=o id\/∃t ver s,o' id=.vec t ver true s):∀(x:V) (id:Nat),id∈q1v o' x->(∃t ver s,o' id=.vec t ver false s)->id∈q1v o x:=by
 intro x;have key:∀id' id,(id∈(match o' id' with|.vec _ _ true _=>[]|_=>[id']))->(∃t ver s,o' id=.vec t ver false s)->id∈(match o id' with|.vec _ _ true _=>[]|_=>[id']):=by
  rintro id' id h ⟨t,ver,s,e⟩;have:id=id':=by
   split at h
   ·cases h
   ·simpa using h
  subst this;rcases ho id with e1|⟨t1,ver1,s1,e1⟩
  ·rw[<-e1,e];simp
  ·rw[e1] at e;cases e
 refine V.rec (motive_1:=fun x=>∀id,id∈q1v o' x->(∃t ver s,o' id=.vec t ver false s)->id∈q1v o x)
  (motive_2:=fun l=>∀id,id∈q8u o' l->(∃t ver s,o' id=.vec t ver false s)->id∈q8u o l)
  ?_ ?_ ?_ ?_ ?_ ?_ ?_ ?_ ?_ ?_ ?_ ?_ ?_ ?_ ?_ ?_ ?_ ?_ ?_ ?_ ?_ ?_ ?_ ?_ ?_ ?_ x
 case refine_2=>exact fun id' ver id h h'=>by unfold q1v at*;exact key id' id h h'
 case refine_3=>exact fun id' ver _ _ id h h'=>by unfold q1v at*;exact key id' id h h'
 case refine_20=>exact fun id' ver lo id h h'=>by unfold q1v at*;exact key id' id h h'
 case refine_11=>exact fun l ih id h h'=>by unfold q1v at*;exact ih id h h'
 case refine_26=>
  intro x l ih1 ih2 id h h';unfold q8u at h ⊢;rcases zN.1 h with h|h
  ·exact List.mem_append_left _ (ih1 id h h')
  ·exact List.mem_append_right _ (ih2 id h h')
 all_goals intros;rename_i h _;simp[q1v,q8u] at h
theorem q90(ks:List Nat)(id:Nat):upds o (frz o ks) id=o id/\(∀t ver s,o id=.vec t ver false s->id∉ks)\/∃t ver fr s,o id=.vec t ver fr s/\upds o (frz o ks) id=.vec t ver true s:=by
 by_cases hk:id∈q0j (frz o ks)
 ·obtain⟨t,ver,fr,s,h1,h2⟩:=q5p hk;exact .inr ⟨t,ver,fr,s,h1,h2 o⟩
 ·exact .inl ⟨q0u hk,fun t ver s e h=>hk (qoi h e)⟩
theorem q9n{ks:List Nat}{x:V}(h:∀id,id∈q1v o x->id∈ks):q70 (upds o (frz o ks)) x:=by
 intro id hi t ver fr s e;have hc:fr=false:=by
  cases fr with
  |false=>rfl
  |true=>
   exfalso;revert hi;refine V.rec (motive_1:=fun x=>¬id∈q1v (upds o (frz o ks)) x) (motive_2:=fun l=>¬id∈q8u (upds o (frz o ks)) l)
    ?_ ?_ ?_ ?_ ?_ ?_ ?_ ?_ ?_ ?_ ?_ ?_ ?_ ?_ ?_ ?_ ?_ ?_ ?_ ?_ ?_ ?_ ?_ ?_ ?_ ?_ x
   case refine_2=>
    intro id' ver' h;unfold q1v at h;split at h
    ·cases h
    ·rename_i hn;simp at h;subst h;exact hn _ _ _ e
   case refine_3=>
    intro id' ver' _ _ h;unfold q1v at h;split at h
    ·cases h
    ·rename_i hn;simp at h;subst h;exact hn _ _ _ e
   case refine_20=>
    intro id' ver' _ h;unfold q1v at h;split at h
    ·cases h
    ·rename_i hn;simp at h;subst h;exact hn _ _ _ e
   case refine_11=>intro l ih h;unfold q1v at h;exact ih h
   case refine_26=>
    intro x l ih1 ih2 h;unfold q8u at h;rcases zN.1 h with h|h
    ·exact ih1 h
    ·exact ih2 h
   all_goals intros;simp[q1v,q8u]
 subst hc;have:=qvg (o:=o) (o':=upds o (frz o ks)) (fun id=>(q90 ks id).imp (·.1) fun⟨t,ver,_,s,_,h⟩=>⟨t,ver,s,h⟩) x id hi ⟨t,ver,s,e⟩;rcases q90 (o:=o) ks id with ⟨h1,h2⟩|⟨_,_,_,_,_,h2⟩
 ·exact h2 t ver s (h1▸e) (h id this)
 ·rw[h2] at e;cases e
theorem qqk(ks:List Nat)(t:Ty)(x:V):asD1 lf (upds o (frz o ks)) t x=asD1 lf o t x:=by
 cases x<;>simp only[asD1]
 ·rename_i id ver;rcases q90 (o:=o) ks id with ⟨h1,_⟩|⟨_,_,_,_,h1,h2⟩
  ·rw[h1]
  ·rw[h1,h2]
 ·rename_i id ver n cp;rcases q90 (o:=o) ks id with ⟨h1,_⟩|⟨_,_,_,_,h1,h2⟩
  ·rw[h1]
  ·rw[h1,h2]
 ·rename_i id ver lo;rcases q90 (o:=o) ks id with ⟨h1,_⟩|⟨_,_,_,_,h1,h2⟩
  ·rw[h1]
  ·rw[h1,h2]
theorem q8c(ks:List Nat)(t:Ty)(x:V):asD lf (upds o (frz o ks)) t x=asD lf o t x:=by
 unfold asD;rw[qqk];have:ksD lf (upds o (frz o ks)) t x=ksD lf o t x:=by cases t<;>simp only[ksD,qqk]
 rw[this]
theorem z3j(ks:List Nat):∀(t:Ty) (cs:List V),paC lf (upds o (frz o ks)) t cs=paC lf o t cs:=by
 intro t
 induction t with
 |unit=>intro cs;rfl
 |pair a b iha ihb=>intro cs;simp only[paC,iha,ihb]
 |st p ih=>intro cs;simp only[paC,ih]
 |arr n e _=>intro cs;rfl
 |int k=>intro cs;cases cs<;>simp only[paC,q8c]
 |bool=>intro cs;cases cs<;>simp only[paC,q8c]
 |flt=>intro cs;cases cs<;>simp only[paC,q8c]
 |cpx=>intro cs;cases cs<;>simp only[paC,q8c]
 |str=>intro cs;cases cs<;>simp only[paC,q8c]
 |sl e _=>intro cs;cases cs<;>simp only[paC,q8c]
 |ks e _=>intro cs;cases cs<;>simp only[paC,q8c]
theorem qql(ks:List Nat)(t:Ty)(x:V):asDs lf (upds o (frz o ks)) t x=asDs lf o t x:=by cases x<;>simp only[asDs,q8c,z3j]
theorem qvh(hm:MRel C X φ o w):∀(t:Ty) (cs r:List V) (d:den t) (zs:List Value),q0m φ o (immB X φ o w) w cs zs->(∀c,c∈cs->q70 o c)->paC lf o t cs=some (d,r)->∃zc zr,zs=zc++zr/\relC (immB X φ o w) w t d zc/\q0m φ o (immB X φ o w) w r zr/\(∀c,c∈r->q70 o c):=by
 have one:∀(t:Ty) (cs r:List V) (d:den t) (zs:List Value),q0m φ o (immB X φ o w) w cs zs->(∀c,c∈cs->q70 o c)->
   (match cs with|c::r=>(match asD lf o t c with|some x=>some (x,r)|none=>none)|[]=>none)=some (d,r)->
   ∃z zr,zs=z::zr/\relV (immB X φ o w) w t d z/\q0m φ o (immB X φ o w) w r zr/\(∀c,c∈r->q70 o c):=by
  intro t cs r d zs hr hf h;cases cs with
  |nil=>cases h
  |cons c cs=>
   simp only at h;split at h
   ·rename_i x hx;injection h with h;injection h with h1 h2;subst h1 h2;obtain⟨z,zr,h3,h4,h5⟩:=hr;exact⟨z,zr,h3,qoj hm h4 (hf _ (zf ..)) hx,h5,fun c hc=>hf c (zh _ hc)⟩
   ·cases h
 intro t
 induction t with
 |unit=>intro cs r d zs hr hf h;simp only[paC,zD,Prod.mk.injEq] at h;obtain⟨_,rfl⟩:=h;exact⟨[],zs,rfl,rfl,hr,hf⟩
 |pair a b iha ihb=>
  intro cs r d zs hr hf h;simp only[paC] at h;split at h
  ·rename_i x r1 h1;split at h
   ·rename_i y r2 h2;injection h with h;injection h with h3 h4;subst h3 h4;obtain⟨zc,zr,e1,e2,e3,e4⟩:=iha _ _ _ _ hr hf h1;obtain⟨zc',zr',g1,g2,g3,g4⟩:=ihb _ _ _ _ e3 e4 h2;exact⟨zc++zc',zr',by rw[e1,g1,zm],⟨zc,zc',rfl,e2,g2⟩,g3,g4⟩
   ·cases h
  ·cases h
 |st p ih=>intro cs r d zs hr hf h;exact ih _ _ _ _ hr hf h
 |arr n e _=>intro cs r d zs hr hf h;cases h
 |int k=>intro cs r d zs hr hf h;obtain⟨z,zr,e1,e2,e3⟩:=one _ cs r d zs hr hf (by cases cs<;>exact h);exact⟨[z],zr,e1,e2,e3⟩
 |bool=>intro cs r d zs hr hf h;obtain⟨z,zr,e1,e2,e3⟩:=one _ cs r d zs hr hf (by cases cs<;>exact h);exact⟨[z],zr,e1,e2,e3⟩
 |flt=>intro cs r d zs hr hf h;obtain⟨z,zr,e1,e2,e3⟩:=one _ cs r d zs hr hf (by cases cs<;>exact h);exact⟨[z],zr,e1,e2,e3⟩
 |cpx=>intro cs r d zs hr hf h;obtain⟨z,zr,e1,e2,e3⟩:=one _ cs r d zs hr hf (by cases cs<;>exact h);exact⟨[z],zr,e1,e2,e3⟩
 |str=>intro cs r d zs hr hf h;obtain⟨z,zr,e1,e2,e3⟩:=one _ cs r d zs hr hf (by cases cs<;>exact h);exact⟨[z],zr,e1,e2,e3⟩
 |sl e _=>intro cs r d zs hr hf h;obtain⟨z,zr,e1,e2,e3⟩:=one _ cs r d zs hr hf (by cases cs<;>exact h);exact⟨[z],zr,e1,e2,e3⟩
 |ks e _=>intro cs r d zs hr hf h;obtain⟨z,zr,e1,e2,e3⟩:=one _ cs r d zs hr hf (by cases cs<;>exact h);exact⟨[z],zr,e1,e2,e3⟩
theorem qd8:∀{cs:List V},q70 o (.agg cs)->∀c,c∈cs->q70 o c
 |c'::cs,h,c,hc,id,hi=>by
  rcases zo.1 hc with rfl|hc
  ·exact h id (by unfold q1v q8u;exact List.mem_append_left _ hi)
  ·exact qd8 (cs:=cs) (fun id hi=>h id (by unfold q1v at hi ⊢;unfold q8u;exact List.mem_append_right _ hi)) c hc id hi
theorem qjq(hm:MRel C X φ o w){t:Ty}{x:V}{d:den t}{z:Value}(hx:q03 φ o (immB X φ o w) w x z)(hf:q70 o x)(h:asDs lf o t x=some d):relV (immB X φ o w) w t d z:=by
 by_cases hc:∃cs,x=.agg cs
 ·obtain⟨cs,rfl⟩:=hc;simp only[asDs] at h;split at h
  ·rename_i p;split at h
   ·rename_i y h1;injection h with h;subst h;obtain⟨c,rfl,hr⟩:=hx;obtain⟨zc,zr,e1,e2,e3,_⟩:=qvh hm _ _ _ _ _ hr (qd8 hf) h1;have:zr=[]:=e3;subst this;exact⟨c,rfl,by rw[e1,zn];exact e2⟩
   ·cases h
  ·cases h
 ·have:asDs lf o t x=asD lf o t x:=by cases x<;>first|rfl|exact absurd ⟨_,rfl⟩ hc
  exact qoj hm hx hf (this▸h)
end
def aggD:TypeDesc->Bool
 |.struct _|.array .. =>true
 |_=>false
theorem q7p{C:Cx}{d:TypeDesc}{T:Ty}(h:q7e C d T=true):aggD d=aggT T/\scal T=!aggT T:=by cases d<;>cases T<;>first|exact⟨rfl,rfl⟩|(simp only[q7e] at h;cases h;done)
theorem q2r{a:Addr}(h:a.spot=none)(n:Nat):a.add n=⟨a.block,a.off+n,none⟩:=by
 unfold Addr.add;split
 ·rename_i e;subst e;obtain⟨b,f,s⟩:=a;simp only at h;subst h;rfl
 ·rfl
section
variable {P:Program} {C:Cx} {X:Nat→Prop} {φ:Nat→Addr} {o:Nat→Obj} {w:World} {imm:Nat→Prop}
theorem q6n{t:TypeId}{d:TypeDesc}(h:P.underlying t=some d):(Go.isAgg t).run P w=.ok (aggD d) w:=by unfold Go.isAgg;rw[Sem.run_bind,run_underlying h w];cases d<;>simp[aggD]
theorem q0l{t:TypeId}{i:TypeInfo}(h:P.info? t=some i):(Go.sizeOf t).run P w=.ok i.size w:=by simp[Go.sizeOf,typeInfo,h]
theorem q1j{t:TypeId}{i:TypeInfo}{z:Value}(h:P.info? t=some i)(hz:i.zero=some z):(zeroValue t).run P w=.ok z w:=by simp[zeroValue,typeInfo,h,hz]
theorem q8o{a:Addr}(hs:a.spot=none){cs:List Value}{n:Nat}(hn:cs.length=n)(h:q1p w a cs):(loadCells a n).run P w=.ok cs.toArray w:=by subst hn;refine run_loadCells_list w a cs fun j v hv=>?_;rw[q2r hs];obtain⟨hj,e⟩:=zG.1 hv;rw[h j hj,e]
theorem qok{a:Addr}(hs:a.spot=none){v:Value}{cs:List Value}(h:q1p w a (v::cs)):(load a).run P w=.ok v w:=by have:=h 0 (by simp);obtain⟨b,f,s⟩:=a;simp only at hs;subst hs;simp only[Nat.add_zero,List.getElem_cons_zero] at this;simp[this]
theorem qbq{T:Ty}{d:den T}{cs:List Value}(hs:scal T=true)(h:relC imm w T d cs):∃v,cs=[v]/\relV imm w T d v:=by
 cases T<;>simp only[scal] at hs<;>try (cases hs;done)
 ·exact⟨_,h.1,by simpa[relV,relC] using h.2⟩
 ·exact⟨_,h,by simp[relV,relC]⟩
 ·obtain⟨s,h1,h2⟩:=h;exact⟨_,h1,s,rfl,h2⟩
 ·obtain⟨v,h1,h2⟩:=h;exact⟨_,h1,v,rfl,h2⟩
 ·exact⟨_,h,by simp[relV,relC]⟩
 ·exact⟨_,h,by simp[relV,relC]⟩
theorem qll{T:Ty}{d:den T}{v:Value}(hs:scal T=true)(h:relV imm w T d v):relC imm w T d [v]:=by cases T<;>simp only[scal] at hs<;>first|exact h|cases hs
theorem z04{T:Ty}{d:den T}{v:Value}(hs:aggT T=true)(h:relV imm w T d v):∃cs:Array Value,v=.agg cs/\relC imm w T d cs.toList:=by cases T<;>simp only[aggT] at hs<;>first|exact h|cases hs
theorem qvi{T:Ty}{d:den T}{cs:Array Value}(hs:aggT T=true)(h:relC imm w T d cs.toList):relV imm w T d (.agg cs):=by cases T<;>simp only[aggT] at hs<;>first|exact⟨cs,rfl,h⟩|cases hs
theorem qhz{C:Cx}{t:TypeId}{T:Ty}(ht:TyOk C t T){d:den T}{v:Value}(h:relV imm w T d v):relC imm w T d v.cells.toList:=by
 obtain⟨_,_,_,hd⟩:=ht.desc;obtain⟨_,hk⟩:=q7p hd;cases ha:aggT T with
 |true=>obtain⟨cs,rfl,h1⟩:=z04 ha h;exact h1
 |false=>
  rw[ha] at hk;have:=qll hk h;have e:v.cells=#[v]:=by
   cases T<;>simp only[scal] at hk<;>try (cases hk;done)
   ·have h2:=h.1;simp only[List.cons.injEq,and_true] at h2;subst h2;rfl
   ·have h2:[v]=[_]:=h;simp only[List.cons.injEq,and_true] at h2;subst h2;rfl
   ·obtain⟨s,h2,_⟩:=h;simp only[List.cons.injEq,and_true] at h2;subst h2;rfl
   ·obtain⟨v',h2,_,h3⟩:=h;simp only[List.cons.injEq,and_true] at h2;subst h2;rcases h3 with ⟨_,_,rfl⟩|⟨_,a,cap,ec,rfl,_⟩<;>rfl
   ·have h2:[v]=[_]:=h;simp only[List.cons.injEq,and_true] at h2;subst h2;rfl
   ·have h2:[v]=[_]:=h;simp only[List.cons.injEq,and_true] at h2;subst h2;rfl
  rw[e];exact this
theorem qi0{t:TypeId}{T:Ty}(h:TyOk C t T){a:Addr}(hs:a.spot=none){d:den T}{cs:List Value}(hr:relC imm w T d cs)(hc:q1p w a cs):∃v,(loadVar t a).run C.P w=.ok v w/\relV imm w T d v:=by
 obtain⟨dd,_,hu,hd⟩:=h.desc;obtain⟨i,z,hi,_,hg,_⟩:=h.info;obtain⟨he,hf⟩:=q7p hd;have hl:=q0t T d cs hr;unfold loadVar;simp only[Sem.run_bind,q6n hu,Result.andThen_ok];cases ha:aggT T with
 |true=>rw[he,ha];refine⟨.agg cs.toArray,?_,qvi ha (by simpa using hr)⟩;simp[q0l hi,q8o hs (hl.trans hg.symm) hc]
 |false=>rw[he,ha];rw[ha] at hf;obtain⟨v,rfl,h2⟩:=qbq hf hr;exact⟨v,by simpa using qok hs hc,h2⟩
theorem qjr{t:TypeId}{T:Ty}(h:TyOk C t T){cs:Array Value}{off:Nat}{d:den T}(hr:relC imm w T d ((cs.toList.drop off).take (csz T))):∃v,(part t cs off).run C.P w=.ok v w/\relV imm w T d v:=by
 obtain⟨dd,_,hu,hd⟩:=h.desc;obtain⟨i,z,hi,_,hf,_⟩:=h.info;obtain⟨hc,he⟩:=q7p hd;unfold part;simp only[Sem.run_bind,q6n hu,Result.andThen_ok];cases ha:aggT T with
 |true=>
  rw[hc,ha];refine⟨.agg (cs.extract off (off+csz T)),?_,qvi ha ?_⟩
  ·simp[q0l hi,hf]
  ·rw[Array.toList_extract,List.extract_eq_take_drop,Nat.add_sub_cancel_left];exact hr
 |false=>
  rw[hc,ha];rw[ha] at he;obtain⟨v,e,h2⟩:=qbq he hr;refine⟨v,?_,h2⟩;have:cs[off]?=some v:=by
   have e1:=congrArg (fun l=>l[0]?) e;simp only[List.getElem?_cons_zero] at e1;rw[List.getElem?_take] at e1;split at e1
   ·simpa using e1
   ·cases e1
  simp[this]
theorem qd9:∀(p:Ty) (f:Nat) (y:den p) {u:Ty} {z:den u},qsa p f y=some ⟨u,z⟩->tyF? p f=some u/\(∀cs,relC imm w p y cs->relC imm w u z ((cs.drop (offF p f)).take (csz u))):=by
 have base:∀(t:Ty) (y:den t) (u:Ty) (z:den u),(some ⟨t,y⟩:Option ((t:Ty)×den t))=some ⟨u,z⟩->t=u/\(∀cs,relC imm w t y cs->relC imm w u z ((cs.drop 0).take (csz u))):=by intro t y u z h;injection h with h;injection h with h1 h2;subst h1;have h2:=eq_of_heq h2;subst h2;exact⟨rfl,fun cs hc=>by rw[List.drop_zero,<-q0t _ _ _ hc,List.take_length];exact hc⟩
 intro p
 induction p with
 |pair a b _ ihb=>
  intro f y u z h;cases f with
  |zero=>
   simp only[qsa] at h;obtain⟨h1,h2⟩:=base _ _ _ _ h;subst h1;refine⟨rfl,fun cs ⟨c,d,e,h3,h4⟩=>?_⟩;have:=h2 c h3;rw[e];simp only[offF,List.drop_zero] at this ⊢;rw[<-q0t _ _ _ h3] at this ⊢;rw[List.take_left']
   ·rw[List.take_length] at this;exact this
   ·rfl
  |succ n=>simp only[qsa] at h;obtain⟨h1,h2⟩:=ihb n y.2 h;refine⟨h1,fun cs ⟨c,d,e,h3,h4⟩=>?_⟩;have:=h2 d h4;rw[e];simp only[offF];rw[<-q0t _ _ _ h3,List.drop_length_add_append];exact this
 |unit=>intro f y u z h;cases f<;>cases h
 |int k=>intro f y u z h;cases f with|zero=>obtain⟨rfl,h2⟩:=base _ _ _ _ h;exact⟨rfl,h2⟩|succ n=>cases h
 |bool=>intro f y u z h;cases f with|zero=>obtain⟨rfl,h2⟩:=base _ _ _ _ h;exact⟨rfl,h2⟩|succ n=>cases h
 |flt=>intro f y u z h;cases f with|zero=>obtain⟨rfl,h2⟩:=base _ _ _ _ h;exact⟨rfl,h2⟩|succ n=>cases h
 |cpx=>intro f y u z h;cases f with|zero=>obtain⟨rfl,h2⟩:=base _ _ _ _ h;exact⟨rfl,h2⟩|succ n=>cases h
 |str=>intro f y u z h;cases f with|zero=>obtain⟨rfl,h2⟩:=base _ _ _ _ h;exact⟨rfl,h2⟩|succ n=>cases h
 |sl e=>intro f y u z h;cases f with|zero=>obtain⟨rfl,h2⟩:=base _ _ _ _ h;exact⟨rfl,h2⟩|succ n=>cases h
 |ks q=>intro f y u z h;cases f with|zero=>obtain⟨rfl,h2⟩:=base (.sl (q6v q)) (q83 q y) _ _ h;exact⟨rfl,fun cs hc=>h2 cs ((qd2 q y cs).1 hc)⟩|succ n=>cases h
 |st p=>intro f y u z h;cases f with|zero=>obtain⟨rfl,h2⟩:=base _ _ _ _ h;exact⟨rfl,h2⟩|succ n=>cases h
 |arr m e=>intro f y u z h;cases f with|zero=>obtain⟨rfl,h2⟩:=base _ _ _ _ h;exact⟨rfl,h2⟩|succ n=>cases h
theorem q91(hC:CxOk C):∀(fs:List Field) (p:Ty) (off f:Nat) {u:Ty},q4c C fs p off=true->tyF? p f=some u->∃fd,fs[f]?=some fd/\C.ty fd.type=some u/\fd.offset=off+offF p f:=by
 intro fs
 induction fs with
 |nil=>intro p off f u h h1;cases p<;>first|(simp only[q4c] at h;cases h;done)|(cases f<;>cases h1)
 |cons g r ih=>
  intro p off f u h h1;cases r with
  |nil=>
   have h:(C.is g.type (qlg p)&&Nat.beq g.offset off)=true:=by cases p<;>exact h
   rw[zd] at h;have ht:=is_spec h.1;obtain⟨_,_,_,hd⟩:=(hC.tab _ _ ht).desc;obtain⟨_,hk⟩:=q7p hd;have:f=0/\u=qlg p/\offF p 0=0:=by
    cases f with
    |zero=>cases p<;>first|exact⟨rfl,(zF h1).symm,rfl⟩|(simp only[scal,aggT] at hk;cases hk;done)
    |succ n=>cases p<;>first|(cases h1;done)|(simp only[scal,aggT] at hk;cases hk;done)
   obtain⟨rfl,rfl,h0⟩:=this;exact⟨g,rfl,ht,by rw[h0];exact zg h.2⟩
  |cons g' r=>
   cases p<;>simp only[q4c] at h<;>try (cases h;done)
   rename_i a b;simp only[zd] at h;cases f with
   |zero=>simp only[tyF?,zD] at h1;subst h1;exact⟨g,rfl,is_spec h.1.1,by simpa[offF] using zg h.1.2⟩
   |succ n=>obtain⟨fd,h2,h3,h4⟩:=ih b (off+csz a) n h.2 h1;exact⟨fd,by simpa using h2,h3,by simp only[offF];omega⟩
theorem q3q{t:TypeId}{b:Bool}{n:Nat}(h:q7k P t=some (b,n)):∃i d,P.info? t=some i/\i.size=n/\P.underlying t=some d/\aggD d=b:=by
 unfold q7k at h;cases h1:P.types.toList[t]? with
 |none=>rw[h1] at h;cases h
 |some i=>
  rw[h1] at h;simp only at h;cases h2:desc P t with
  |none=>rw[h2] at h;cases h
  |some d=>
   rw[h2] at h;refine⟨i,d,qfl h1,?_,q0y h2,?_⟩
   ·cases d<;>simp only[zD,Prod.mk.injEq] at h<;>exact h.2
   ·cases d<;>simp only[zD,Prod.mk.injEq] at h<;>exact h.1
theorem qe3{t:TypeId}{f:Nat}{fd:Field}(h:qf8 P t f=some fd):∃fs,P.underlying t=some (.struct fs)/\desc P t=some (.struct fs)/\fs[f]?=some fd:=by
 unfold qf8 at h;split at h
 ·rename_i fs e;exact⟨fs,q0y e,e,by rw[<-zH];exact h⟩
 ·cases h
theorem qbr(hC:CxOk C){t:TypeId}{p:Ty}(h:C.ty t=some (.st p)):∃fs,desc C.P t=some (.struct fs)/\C.P.underlying t=some (.struct fs)/\q4c C fs.toList p 0=true:=by obtain⟨d,h1,h2,h3⟩:=(hC.tab _ _ h).desc;cases d<;>first|exact⟨_,h1,h2,h3⟩|(simp only[q7e] at h3;cases h3;done)
theorem q92:∀{cs:List V} {zs:List Value} {i:Nat} {v:V},q0m φ o imm w cs zs->cs[i]?=some v->∃z,zs[i]?=some z/\q03 φ o imm w v z
 |[],_,_,_,_,h=>by simp at h
 |x::l,_,0,v,⟨z,r,e,h1,_⟩,h=>by simp only[List.getElem?_cons_zero,zD] at h;subst h e;exact⟨z,rfl,h1⟩
 |x::l,_,i+1,v,⟨z,r,e,_,h2⟩,h=>by subst e;simp only[List.getElem?_cons_succ] at h ⊢;exact q92 h2 h
theorem q7q:∀{cs:List V} {zs:List Value} (n:Nat),q0m φ o imm w cs zs->q0m φ o imm w (cs.drop n) (zs.drop n)
 |_,_,0,h=>h
 |[],_,n+1,h=>by simp[q0m] at h;subst h;simp[q0m]
 |x::l,_,n+1,⟨z,r,e,_,h2⟩=>by subst e;exact q7q n h2
theorem q7r:∀{cs:List V} {zs:List Value} (n:Nat),q0m φ o imm w cs zs->q0m φ o imm w (cs.take n) (zs.take n)
 |_,_,0,h=>by simp[q0m]
 |[],_,n+1,h=>by simp[q0m] at h;subst h;simp[q0m]
 |x::l,_,n+1,⟨z,r,e,h1,h2⟩=>by subst e;exact⟨z,_,rfl,h1,q7r n h2⟩
theorem q5w:∀{cs:List V} {zs:List Value},q0m φ o imm w cs zs->cs.length=zs.length
 |[],_,h=>by simp[q0m] at h;subst h;rfl
 |x::l,_,⟨z,r,e,_,h2⟩=>by subst e;simp[q5w h2]
theorem q5x:∀{cs ds:List V} {zs ys:List Value},q0m φ o imm w cs zs->q0m φ o imm w ds ys->q0m φ o imm w (cs++ds) (zs++ys)
 |[],_,_,_,h,h'=>by simp[q0m] at h;subst h;exact h'
 |x::l,_,_,_,⟨z,r,e,h1,h2⟩,h'=>by subst e;exact⟨z,_,rfl,h1,q5x h2 h'⟩
theorem qlm(hm:MRel C X φ o w){t:TypeId}{cs:List V}{zs:Array Value}(h:q0m φ o (immB X φ o w) w cs zs.toList):q03 φ o (immB X φ o w) w (qzp lf C o t cs) (.agg zs):=by
 have dflt:q03 φ o (immB X φ o w) w (.agg cs) (.agg zs):=⟨zs,rfl,h⟩;unfold qzp;split
 ·rename_i p _;split
  ·rename_i e1 _;split
   ·rename_i x e;have hf:∀c,c∈cs->q70 o c:=qd8 (fun id hi=>by unfold q1v at hi;rw[e1] at hi;cases hi);obtain⟨zc,zr,g1,g2,g3,_⟩:=qvh hm _ _ _ _ _ h hf e;have:zr=[]:=g3;subst this;exact⟨zs,rfl,by rw[g1,zn];exact g2⟩
   ·exact dflt
  ·exact dflt
 ·exact dflt
end
theorem qhe{α:Type}{l:List α}{n b m:Nat}(h:(((l.take n).drop b).take m).length=m):((l.take n).drop b).take m=(l.drop b).take m:=by rw[List.drop_take,List.take_take] at h ⊢;rw[zP] at h;rw[Nat.min_eq_left (by omega)]
section
variable {P:Program} {C:Cx} {X:Nat→Prop} {φ:Nat→Addr} {o:Nat→Obj} {w:World} {imm:Nat→Prop}
theorem qvj:∀{p:Ty} {f:Nat} {u:Ty},tyF? p f=some u->tyF p f=u:=by
 intro p
 induction p with
 |pair a b _ ihb=>intro f u h;cases f with|zero=>exact zF h|succ n=>exact ihb h
 |unit=>intro f u h;cases f<;>cases h
 |_=>intro f u h;cases f with|zero=>exact zF h|succ n=>cases h
theorem qvk:∀(p:Ty) (f:Nat) (y:den p) {u:Ty},tyF? p f=some u->∃z,qsa p f y=some ⟨u,z⟩:=by
 intro p
 induction p with
 |pair a b _ ihb=>intro f y u h;cases f with|zero=>have:=zF h;subst this;exact⟨y.1,rfl⟩|succ n=>exact ihb n y.2 h
 |unit=>intro f y u h;cases f<;>cases h
 |ks q _=>intro f y u h;cases f with|zero=>have:=zF h;subst this;exact⟨q83 q y,rfl⟩|succ n=>cases h
 |_=>intro f y u h;cases f with|zero=>have:=zF h;subst this;exact⟨y,rfl⟩|succ n=>cases h
theorem qln:∀(path:List Nat) (t:Ty) (x:den t) {u:Ty},qab path t=some u->∃y,qzj path t x=some ⟨u,y⟩/\∀(imm:Nat->Prop) (w:World) cs,relC imm w t x cs->relC imm w u y ((cs.drop (q1h path t)).take (csz u))
 |[],t,x,u,h=>by have:=zF h;subst this;refine⟨x,rfl,fun imm w cs hc=>?_⟩;rw[show q1h [] t=0 from rfl,List.drop_zero,<-q0t _ _ _ hc,List.take_length];exact hc
 |f::r,t,x,u,h=>by
  cases t<;>simp only[qab] at h<;>try (cases h;done)
  rename_i p;split at h
  ·rename_i u1 h1;obtain⟨y,h2⟩:=qvk p f x h1;obtain⟨y',h3,h4⟩:=qln r u1 y h;refine⟨y',by simp only[qzj,qsb,h2];exact h3,fun imm w cs hc=>?_⟩;obtain⟨_,h5⟩:=qd9 (imm:=imm) (w:=w) p f x h2;have h6:=h4 imm w _ (h5 cs hc);have hl:=q0t _ _ _ h6;rw[qhe hl,List.drop_drop] at h6;simp only[q1h,qvj h1];exact h6
  ·cases h
theorem q5k{a:Addr}{cs:List Value}(k n:Nat)(h:q1p w a cs):q1p w ⟨a.block,a.off+k,none⟩ ((cs.drop k).take n):=by
 intro j hj;have hc:k+j<cs.length:=by simp at hj;omega
 have:=h (k+j) hc;simp only[List.getElem_take,List.getElem_drop];rw[<-this,Nat.add_assoc]
theorem q50{b:Nat}{c:Array Value}{el:TypeId}{fz:Nat×Nat}(h:w.heap[b]?=some (.cells c el fz))(off n:Nat):q1p w ⟨b,off,none⟩ ((c.toList.drop off).take n):=by
 intro j hj;have hc:off+j<c.size:=by simp at hj;omega
 simp[World.cell?,h,hc]
theorem qlo(hC:CxOk C)(hm:MRel C X φ o w){t:TypeId}{x:V}{z:Value}{v:V}{u:List (Nat×Obj)}(hx:q03 φ o (immB X φ o w) w x z)(h:(qq3 lf C o t x).gives v u):u=[]/\q5t C.P φ o (immB X φ o w) w v (Instr.loadAt t z):=by
 unfold qq3 at h;split at h
 ·rename_i t' d;rw[q0a,q0b] at h;obtain⟨h1,rfl,rfl⟩:=h;obtain⟨a,cs,rfl,h2,_,h4,h5⟩:=hx;obtain⟨v,h6,h7⟩:=qi0 (hC.tab _ _ (is_spec h1)) h2 h4 h5;exact⟨rfl,v,by simp[Instr.loadAt,Instr.sureAddr,h6],h7⟩
 ·rename_i t' d;split at h
  ·rename_i n hk;rw[q0b] at h;obtain⟨rfl,rfl⟩:=h;obtain⟨i,d',g1,g2,g3,g4⟩:=q3q hk;obtain⟨a,b,cs,rfl,h2,h3,h4,h5⟩:=hx;refine⟨rfl,.pointer (some b),?_,b,cs,rfl,h5⟩;have hc:w.cell? a=some (.pointer (some b)):=by have:=h4 0 (by simp);obtain⟨b1,f1,s1⟩:=a;simp only at h2;subst h2;simpa using this
   simp[Instr.loadAt,Instr.sureAddr,loadVar,q6n g3,g4,hc]
  ·cases h
 ·rename_i id off;have ho:=hm.objs id;unfold q03 at hx;split at h
  ·rename_i cs e;rw[e] at hx ho;simp only at hx;subst hx;obtain⟨h0,c,el,lo,hi,h1,h2,h3⟩:=ho;split at h
   ·rename_i n hk;rw[q0a,q0b] at h;obtain⟨hb,rfl,rfl⟩:=h;have hb:=zA hb;obtain⟨i,d,g1,g2,g3,g4⟩:=q3q hk;have hl:=q5w h3;refine⟨rfl,.agg ((c.toList.drop off).take n).toArray,?_,qlm hm (by simpa using q7r n (q7q off h3))⟩;have:=q8o (P:=C.P) (w:=w) (a:=⟨(φ id).block,(φ id).off+off,none⟩) rfl (n:=n) (cs:=(c.toList.drop off).take n) (by simp at hl ⊢;omega) (by
     rw[h0,zE];exact q50 h1 off n)
    simp[Instr.loadAt,Instr.sureAddr,loadVar,q6n g3,g4,q0l g1,g2,this]
   ·rename_i n hk;split at h
    ·rename_i v' hv;rw[q0b] at h;obtain⟨rfl,rfl⟩:=h;obtain⟨i,d,g1,g2,g3,g4⟩:=q3q hk;obtain⟨z,hz,hr⟩:=q92 h3 hv;refine⟨rfl,z,?_,hr⟩;have:w.cell? ⟨(φ id).block,(φ id).off+off,none⟩=some z:=by rw[h0,zE];simp only[World.cell?,h1];simpa using hz
     simp[Instr.loadAt,Instr.sureAddr,loadVar,q6n g3,g4,this]
    ·cases h
   ·cases h
  ·cases h
 ·rename_i id ver i path;have ho:=hm.objs id;unfold q03 at hx;split at h
  ·rename_i e ver' fr s e1;rw[e1] at hx ho;split at h
   ·rename_i t' ht;rw[q0a,q19,zd] at h;obtain⟨⟨h1,h2⟩,x,h3,h4⟩:=h;obtain⟨_,hx⟩:=hx;obtain⟨hi,rfl⟩:=hx (zg h1);obtain⟨y,h5,h6⟩:=qln path e x ht;rw[h5] at h4;simp only[Prod.mk.injEq] at h4;obtain⟨rfl,rfl⟩:=h4;obtain⟨g1,g2,g3⟩:=ho;have hn:s.nil=false:=by
     cases hn:s.nil with
     |false=>rfl
     |true=>rw[g2 hn] at hi;simp at hi
    obtain⟨g4,ec,g5,g6,_⟩:=(g3 hn).resolve_right fun g=>by rw[g.2.1] at hi;simp at hi
    have h3:s.l[i]?=some x:=h3;obtain⟨he,hf⟩:=zG.1 h3;have hr:=qbm g5 i he;rw[hf] at hr;have hr:=h6 _ _ _ hr;have hc:=q5k (q1h path e) (csz t') (q5k (i*csz e) (csz e) g6);obtain⟨v,k1,k2⟩:=qi0 (w:=w) (hC.tab _ _ (is_spec h2)) (a:=⟨(φ id).block,(φ id).off+i*csz e+q1h path e,none⟩) rfl hr hc;exact⟨rfl,v,by simp[Instr.loadAt,Instr.sureAddr,k1],k2⟩
   ·cases h
  ·cases h
 ·cases h
theorem qsm(hC:CxOk C)(_hm:MRel C X φ o w){t:TypeId}{f:Nat}{x:V}{z:Value}{v:V}{u:List (Nat×Obj)}(hx:q03 φ o (immB X φ o w) w x z)(h:(qo6 C t x f).gives v u):u=[]/\q5t C.P φ o (immB X φ o w) w v (Instr.field t z f):=by
 unfold qo6 at h;split at h
 ·rename_i t' y;rw[q0a] at h;obtain⟨h1,h⟩:=h;split at h
  ·rename_i u' z' h2;rw[q0b] at h;obtain⟨rfl,rfl⟩:=h;cases t'<;>simp only[qsb] at h2<;>try (cases h2;done)
   rename_i p;obtain⟨fs,g1,g2,g3⟩:=qbr hC (is_spec h1);obtain⟨k1,k2⟩:=qd9 (imm:=immB X φ o w) (w:=w) p f y h2;obtain⟨fd,m1,m2,m3⟩:=q91 hC _ _ _ _ g3 k1;obtain⟨cs,rfl,hr⟩:=hx;obtain⟨v,n1,n2⟩:=qjr (w:=w) (hC.tab _ _ m2) (cs:=cs) (off:=fd.offset) (by rw[m3,zE];exact k2 _ hr);refine⟨rfl,v,?_,n2⟩;rw[zH] at m1;simp[Instr.field,run_underlying g2,m1,asAgg,n1]
  ·cases h
 ·rename_i cs;obtain⟨c,rfl,hr⟩:=hx;split at h
  ·rename_i fd hf;obtain⟨fs,f1,f2,f3⟩:=qe3 hf;split at h
   ·rename_i n hk;rw[q0a,q0b] at h;obtain⟨_,rfl,rfl⟩:=h;obtain⟨i,d,g1,g2,g3,g4⟩:=q3q hk;refine⟨rfl,.agg (c.extract fd.offset (fd.offset+n)),?_,_,rfl,?_⟩
    ·simp[Instr.field,run_underlying f1,f3,asAgg,part,q6n g3,g4,q0l g1,g2]
    ·rw[Array.toList_extract,List.extract_eq_take_drop,Nat.add_sub_cancel_left];exact q7r n (q7q _ hr)
   ·rename_i n hk;split at h
    ·rename_i v' hv;rw[q0b] at h;obtain⟨rfl,rfl⟩:=h;obtain⟨i,d,g1,g2,g3,g4⟩:=q3q hk;obtain⟨z,hz,hc⟩:=q92 hr hv;rw[zH] at hz;refine⟨rfl,z,?_,hc⟩;simp[Instr.field,run_underlying f1,f3,asAgg,part,q6n g3,g4,hz]
    ·cases h
   ·cases h
  ·cases h
 ·cases h
theorem qhf(hC:CxOk C)(_hm:MRel C X φ o w){t:TypeId}{f:Nat}{x:V}{z:Value}{v:V}{u:List (Nat×Obj)}(hx:q03 φ o (immB X φ o w) w x z)(h:(q5h C o t x f).gives v u):u=[]/\q5t C.P φ o (immB X φ o w) w v (Instr.fieldAt t z f):=by
 unfold q5h at h;split at h
 ·cases h
 ·rename_i fd hf;obtain⟨fs,f1,f1',f2⟩:=qe3 hf;split at h
  ·rename_i b sz hk;rw[q0a] at h;obtain⟨he,h⟩:=h;have he:0<sz:=zA he;obtain⟨i,d,g1,g2,g3,g4⟩:=q3q hk;have run:∀a:Addr,(Instr.fieldAt t (.pointer (some a)) f).run C.P w=.ok (.pointer (some (a.add fd.offset))) w:=by
    intro a;have:i.size≠0:=by omega
    simp[Instr.fieldAt,run_underlying f1,f2,Instr.sureAddr,fieldPlace,q0l g1,this]
   split at h
   ·rename_i id off;split at h
    ·rename_i cs e;rw[q0b] at h;obtain⟨rfl,rfl⟩:=h;unfold q03 at hx;rw[e] at hx;simp only at hx;subst hx;refine⟨rfl,_,run _,?_⟩;rw[q2r rfl];unfold q03;rw[e];simp only[Nat.add_assoc]
    ·cases h
   ·rename_i t' y;rw[q0a] at h;obtain⟨h1,h⟩:=h;split at h
    ·rename_i u' z' h2;rw[q0b] at h;obtain⟨rfl,rfl⟩:=h;cases t'<;>simp only[qsb] at h2<;>try (cases h2;done)
     rename_i p;obtain⟨fs',e1,e2,e3⟩:=qbr hC (is_spec h1);rw[f1'] at e1;injection e1 with e1;injection e1 with e1;subst e1;obtain⟨k1,k2⟩:=qd9 (imm:=immB X φ o w) (w:=w) p f y h2;obtain⟨fd',m1,m2,m3⟩:=q91 hC _ _ _ _ e3 k1;rw[zH,f2] at m1;injection m1 with m1;subst m1;obtain⟨a,cs,rfl,hs,hi,hr,hc⟩:=hx;refine⟨rfl,_,run _,?_⟩;rw[q2r hs,m3,zE];exact⟨_,_,rfl,rfl,hi,k2 _ hr,q5k _ _ hc⟩
    ·cases h
   ·rename_i id ver j path;split at h
    ·rename_i e ver' fr s e1;split at h
     ·rename_i t' ht;split at h
      ·rename_i p;split at h
       ·rename_i u' hu;rw[q0a,q0b,zd] at h;obtain⟨⟨h1,h2⟩,rfl,rfl⟩:=h;obtain⟨fs',k1,k2,k3⟩:=qbr hC (is_spec h2);rw[f1'] at k1;injection k1 with k1;injection k1 with k1;subst k1;obtain⟨fd',m1,m2,m3⟩:=q91 hC _ _ _ _ k3 hu;rw[zH,f2] at m1;injection m1 with m1;subst m1;unfold q03 at hx;rw[e1] at hx;obtain⟨h0,hx⟩:=hx;obtain⟨hi,rfl⟩:=hx (zg h1);refine⟨rfl,_,run _,?_⟩;rw[q2r rfl];unfold q03;rw[e1];refine⟨h0,fun _=>⟨hi,?_⟩⟩;have key:∀(path:List Nat) (t:Ty),qab path t=some (.st p)->q1h (path++[f]) t=q1h path t+offF p f:=by
         intro path
         induction path with
         |nil=>intro t h;have:=zF h;subst this;simp[q1h]
         |cons g r ih=>
          intro t h;cases t<;>simp only[qab] at h<;>try (cases h;done)
          split at h
          ·rename_i q u1 h1;have:=ih u1 h;simp only[List.cons_append,q1h,qvj h1,this,Nat.add_assoc]
          ·cases h
        rw[key path e ht,m3,zE,<-Nat.add_assoc]
       ·cases h
      ·cases h
     ·cases h
    ·cases h
   ·cases h
  ·cases h
end
section
variable {P:Program} {C:Cx} {X:Nat→Prop} {φ:Nat→Addr} {o:Nat→Obj} {w:World} {imm:Nat→Prop}
theorem q2o{t:TypeId}{e:Ty}(h:isTy e (q5b C t)=true):∃i,C.P.underlying t=some (.slice i)/\desc C.P t=some (.slice i)/\C.ty i=some e:=by
 have h:=q6l h;unfold q5b at h;split at h
 ·rename_i i e1;exact⟨i,q0y e1,e1,h⟩
 ·cases h
theorem qas{t:TypeId}{e:Ty}(h:q5b C t=some e):∃i,C.P.underlying t=some (.slice i)/\desc C.P t=some (.slice i)/\C.ty i=some e:=by
 unfold q5b at h;split at h
 ·rename_i i e1;exact⟨i,q0y e1,e1,h⟩
 ·cases h
theorem qda{t:TypeId}{n:Nat}{e:Ty}(h:quv C t=some (n,e)):∃i,C.P.underlying t=some (.array n i)/\desc C.P t=some (.array n i)/\C.ty i=some e:=by
 unfold quv at h;split at h
 ·rename_i m i e1;split at h
  ·rename_i e' e2;simp only[zD,Prod.mk.injEq] at h;obtain⟨rfl,rfl⟩:=h;exact⟨i,q0y e1,e1,e2⟩
  ·cases h
 ·cases h
theorem q7s{x:V}{z:Value}{p:(_:IntKind)×Int}(h:asInt x=some p)(hx:q03 φ o imm w x z):z=.int p.1 p.2/\inK p.1 p.2:=by
 unfold asInt at h;split at h
 ·injection h with h;subst h;exact q25 hx
 ·cases h
theorem qjs{α:Type}{l:List α}{n:Int}{y:α}(h:at? l n=some y):0<=n/\n<l.length/\l[n.toNat]?=some y:=by
 unfold at? at h;split at h
 ·rename_i h0;obtain⟨h1,_⟩:=zG.1 h;exact⟨h0,by omega,h⟩
 ·cases h
theorem qbs{α:Type}{l:List α}{n:Int}{j:Nat}(h:okAt l n=some j):0<=n/\n<l.length/\j=n.toNat:=by
 unfold okAt at h;split at h
 ·rename_i h0;injection h with h;exact⟨h0.1,h0.2,h.symm⟩
 ·cases h
theorem qlp{α:Type}{l m:List α}{a b:Int}(h:cutL l a b=some m):0<=a/\a<=b/\b<=l.length/\m=(l.take b.toNat).drop a.toNat:=by
 unfold cutL at h;split at h
 ·rename_i h0;injection h with h;exact⟨h0.1,h0.2.1,h0.2.2,h.symm⟩
 ·cases h
theorem qbt{n b:Int}{p:Nat}(h:cutN n b=some p):0<=b/\b<=n/\p=b.toNat:=by
 unfold cutN at h;split at h
 ·rename_i h0;injection h with h;exact⟨h0.1,h0.2,h.symm⟩
 ·cases h
theorem q5q{α β:Type}{x:Option α}{f:α->Option β}{y:β}(h:bnd x f=some y):∃a,x=some a/\f a=some y:=by
 cases x with
 |none=>cases h
 |some a=>exact⟨a,rfl,h⟩
theorem qsn(hC:CxOk C){t:TypeId}{x i:V}{zx zi:Value}{v:V}{u:List (Nat×Obj)}(hx:q03 φ o imm w x zx)(hi:q03 φ o imm w i zi)(h:(qo5 lf C t x i).gives v u):u=[]/\q5t C.P φ o imm w v (Instr.index t zx zi):=by
 unfold qo5 at h;split at h
 ·cases h
 ·rename_i k n hk;obtain⟨rfl,_⟩:=q7s hk hi;split at h
  ·rename_i l;rw[q0a,q4v] at h;obtain⟨h1,y,h2,h3⟩:=h;simp only[Prod.mk.injEq] at h3;obtain⟨rfl,rfl⟩:=h3;obtain⟨s,rfl,rfl,_⟩:=q32 hx;have h1:=zg h1;have hu:C.P.underlying t=some .string:=by unfold qbk at h1;split at h1<;>first|(rename_i e;exact q0y e)|cases h1
   obtain⟨g1,g2,g3⟩:=qjs h2;rw[zZ,Option.map_eq_some_iff] at g3;obtain⟨b,g3,rfl⟩:=g3;refine⟨rfl,.int .u8 b.toNat,?_,q3f ?_⟩
   ·have e:s[n.toNat]?=some b:=by
     obtain⟨g4,g5⟩:=zG.1 g3;have g4':n.toNat<s.size:=by simpa using g4
     rw[getElem?_pos s n.toNat g4'];have g5':s.data[n.toNat]=b:=by simpa using g5
     exact congrArg some g5'
    simp[Instr.index,asIntOf,run_underlying hu,g1,e]
   ·have:=b.toNat_lt;unfold inK IntKind.min IntKind.max;simp[IntKind.signed,IntKind.bits];omega
  ·rename_i m e l;split at h
   ·rename_i m' e' ha;rw[q0a,q4v,zd] at h;obtain⟨⟨h1,hc⟩,y,h2,h3⟩:=h;simp only[Prod.mk.injEq] at h3;obtain⟨rfl,rfl⟩:=h3;have:=zF (q6l hc);subst this;obtain⟨ei,hu,_,he⟩:=qda ha;have h1:=zg h1;subst h1;obtain⟨cs,rfl,hl,hr⟩:=hx;obtain⟨g1,g2,g3⟩:=qjs h2;obtain⟨g4,g5⟩:=zG.1 g3;have hT:=hC.tab _ _ he;have:=qbm hr _ g4;rw[g5] at this;obtain⟨i,z,k1,_,k2,_⟩:=hT.info;obtain⟨v,k3,k4⟩:=qjr (w:=w) hT (cs:=cs) (off:=n.toNat*csz e') this;refine⟨rfl,v,?_,k4⟩;have hf:n<(m:Int):=by have:List.length l=m:=hl;omega
    simp[Instr.index,asIntOf,run_underlying hu,g1,hf,q0l k1,k2,k3]
   ·cases h
  ·cases h
theorem q41{t e:TypeId}{i:TypeInfo}(hu:P.underlying t=some (.slice e))(hi:P.info? e=some i){a:Addr}(hs:a.spot=none){len cap:Nat}{k:IntKind}{n:Int}(h0:0<=n)(h1:n<len):(Instr.indexAt t (.slice (some a) len cap) (.int k n)).run P w=.ok (.pointer (some ⟨a.block,a.off+n.toNat*i.size,none⟩)) w:=by simp[Instr.indexAt,asIntOf,run_underlying hu,h0,h1,q0l hi,q2r hs]
theorem q7t{t e:TypeId}{i:TypeInfo}{m:Nat}(hu:P.underlying t=some (.array m e))(hi:P.info? e=some i){a:Addr}(hs:a.spot=none){k:IntKind}{n:Int}(h0:0<=n)(h1:n<m):(Instr.indexAt t (.pointer (some a)) (.int k n)).run P w=.ok (.pointer (some ⟨a.block,a.off+n.toNat*i.size,none⟩)) w:=by simp[Instr.indexAt,asIntOf,run_underlying hu,h0,h1,q0l hi,q2r hs,Instr.sureAddr]
theorem qhg(hC:CxOk C)(hm:MRel C X φ o w){t:TypeId}{x i:V}{zx zi:Value}{v:V}{u:List (Nat×Obj)}(hx:q03 φ o (immB X φ o w) w x zx)(hi:q03 φ o (immB X φ o w) w i zi)(h:(qal lf C o t x i).gives v u):u=[]/\q5t C.P φ o (immB X φ o w) w v (Instr.indexAt t zx zi):=by
 unfold qal at h;split at h
 ·cases h
 ·rename_i k n hk;obtain⟨rfl,_⟩:=q7s hk hi;split at h
  ·rename_i e s;rw[q0a,q19] at h;obtain⟨h1,y,h2,h3⟩:=h;simp only[Prod.mk.injEq] at h3;obtain⟨rfl,rfl⟩:=h3;obtain⟨ei,hu,_,he⟩:=q2o h1;obtain⟨ii,z,k1,_,k2,_⟩:=(hC.tab _ _ he).info;obtain⟨g1,g2,g3⟩:=qjs h2;obtain⟨_,hs⟩:=qe1 hx;rcases hs with ⟨_,e2,_⟩|⟨_,a,cap,ec,rfl,e2,e3,e4,e5,e6⟩
   ·rw[e2] at g2;simp at g2;omega
   ·refine⟨rfl,_,q41 hu k1 (e2 (by omega)) g1 g2,?_⟩;obtain⟨g4,g5⟩:=zG.1 g3;have:=qbm e4 _ g4;rw[g5] at this;rw[k2];exact⟨_,_,rfl,rfl,e3 (fun h=>by rw[h] at g4;simp at g4),this,q5k _ _ e5⟩
  ·rename_i m e l;split at h
   ·rename_i m' e' ha;rw[q0a,q19,zd] at h;obtain⟨⟨h1,hc⟩,y,h2,h3⟩:=h;simp only[Prod.mk.injEq] at h3;obtain⟨rfl,rfl⟩:=h3;have:=zF (q6l hc);subst this;obtain⟨ei,hu,_,he⟩:=qda ha;obtain⟨ii,z,k1,_,k2,_⟩:=(hC.tab _ _ he).info;have h1:=zg h1;subst h1;obtain⟨g1,g2,g3⟩:=qjs h2;obtain⟨a,cs,rfl,e2,e3,⟨e4,e4'⟩,e5⟩:=hx;have hg:n<(m:Int):=by have:List.length l=m:=e4;omega
    refine⟨rfl,_,q7t hu k1 e2 g1 hg,?_⟩;obtain⟨g4,g5⟩:=zG.1 g3;have:=qbm e4' _ g4;rw[g5] at this;rw[k2];exact⟨_,_,rfl,rfl,e3,this,q5k _ _ e5⟩
   ·cases h
  ·rename_i id ver;split at h
   ·rename_i e ver' fr s e1;rw[q0a,q19,zd] at h;obtain⟨⟨h1,hc⟩,y,h2,h3⟩:=h;simp only[Prod.mk.injEq] at h3;obtain⟨rfl,rfl⟩:=h3;obtain⟨ei,hu,_,he⟩:=q2o hc;obtain⟨ii,z,k1,_,k2,_⟩:=(hC.tab _ _ he).info;obtain⟨g1,g2,rfl⟩:=qbs h2;have ho:=hm.objs id;unfold q03 at hx;rw[e1] at hx ho;obtain⟨h0,hx⟩:=hx;rcases hx (zg h1) with ⟨hn,rfl⟩|⟨hn,cap,rfl,e3,e4⟩
    ·rw[ho.2.1 hn] at g2;simp at g2;omega
    ·refine⟨rfl,_,q41 hu k1 (a:=bare (φ id)) (q89 e4.1 (by omega)) g1 g2,?_⟩;unfold q03;rw[e1,k2];exact⟨h0,fun _=>⟨by omega,by simp[q1h,bare]⟩⟩
   ·cases h
  ·rename_i id ver p cp;split at h
   ·rename_i e ver' fr s e1;rw[q0a,q19,zd] at h;obtain⟨⟨h1,hc⟩,y,h2,h3⟩:=h;simp only[Prod.mk.injEq] at h3;obtain⟨rfl,rfl⟩:=h3;obtain⟨ei,hu,_,he⟩:=q2o hc;obtain⟨ii,z,k1,_,k2,_⟩:=(hC.tab _ _ he).info;obtain⟨g1,g2,rfl⟩:=qbs h2;have ho:=hm.objs id;unfold q03 at hx;rw[e1] at hx ho;obtain⟨h0,hx⟩:=hx;obtain⟨hp,hx,_⟩:=hx (zg h1);have g2':n<(p:Int):=by
     have:(lf.takeL s.l p).length=p:=by simp[lf,takeL,Nat.min_eq_left hp]
     rw[this] at g2;exact g2
    rcases hx with ⟨hn,rfl⟩|⟨hn,cap,rfl,e3,e4⟩
    ·rw[ho.2.1 hn] at hp;simp at hp;omega
    ·refine⟨rfl,_,q41 hu k1 (a:=bare (φ id)) (q89 e4.1 (by omega)) g1 g2',?_⟩;unfold q03;rw[e1,k2];exact⟨h0,fun _=>⟨by omega,by simp[q1h,bare]⟩⟩
   ·cases h
  ·rename_i id ver lo;split at h
   ·rename_i e ver' fr s e1;rw[q0a,q19,zd] at h;obtain⟨⟨h1,hc⟩,y,h2,h3⟩:=h;simp only[Prod.mk.injEq] at h3;obtain⟨rfl,rfl⟩:=h3;obtain⟨ei,hu,_,he⟩:=q2o hc;obtain⟨ii,z,k1,_,k2,_⟩:=(hC.tab _ _ he).info;have h2:cnd (leI 0 n) (okAt s.l (sumI lo n)) none=some y:=h2;have hf:0<=n:=by
     cases h:leI 0 n with
     |true=>exact zK h
     |false=>rw[h] at h2;cases h2
    have h2:okAt s.l (sumI lo n)=some y:=by have:leI 0 n=true:=zw hf;rw[this] at h2;exact h2
    obtain⟨g1,g2,rfl⟩:=qbs h2;unfold sumI at g1 g2;have ho:=hm.objs id;unfold q03 at hx;rw[e1] at hx ho;obtain⟨h0,hx⟩:=hx;obtain⟨kk,rfl,hk,hx⟩:=hx (zg h1);rcases hx with ⟨hn,rfl⟩|⟨hn,cap,rfl,e3⟩
    ·rw[ho.2.1 hn] at g2;simp at g2;omega
    ·have hj:cap≠0:=by omega
     rw[if_neg hj];refine⟨rfl,_,q41 hu k1 (a:=⟨(φ id).block,(φ id).off+kk*csz e,none⟩) rfl hf (show n<((s.l.length-kk:Nat):Int) by omega),?_⟩;unfold q03;rw[e1,k2];have e4:(sumI (kk:Int) n).toNat=kk+n.toNat:=by unfold sumI;omega
     refine⟨h0,fun _=>⟨by rw[e4];omega,?_⟩⟩;rw[e4,Nat.add_mul];simp[q1h,Nat.add_assoc]
   ·cases h
  ·rename_i id;split at h
   ·rename_i e fr s e1;split at h
    ·rename_i m e' ha;rw[q0a,q19] at h;obtain⟨h1,y,h2,h3⟩:=h;simp only[Prod.mk.injEq] at h3;obtain⟨rfl,rfl⟩:=h3;have:=zF (q6l h1);subst this;obtain⟨ei,hu,_,he⟩:=qda ha;obtain⟨ii,z,k1,_,k2,_⟩:=(hC.tab _ _ he).info;obtain⟨q,h3,h4⟩:=q5q h2;obtain⟨g1,g2,rfl⟩:=qbs h4;obtain⟨_,h5,_⟩:=qbt h3;have h5:n+1<=(m:Int):=h5;unfold q03 at hx;rw[e1] at hx;have:=hx rfl;subst this;refine⟨rfl,_,q7t hu k1 rfl g1 (by show n<(m:Int);omega),?_⟩;unfold q03;rw[e1,k2];exact⟨Nat.le_refl _,fun _=>⟨by omega,by simp[q1h]⟩⟩
    ·cases h
   ·cases h
  ·cases h
theorem z05(hm:MRel C X φ o w){t ty:TypeId}{ts:List TypeId}{x:V}{z:Value}{v:V}{u:List (Nat×Obj)}(hx:q03 φ o (immB X φ o w) w x z)(h:(z35 lf C o t x).gives v u):u=[]/\q5t C.P φ o (immB X φ o w) w v (Builtin.len_ (t::ts).toArray ty #[z]):=by
 have bd:∀n:Nat,n<=maxL->inK .i64 (n:Int):=by intro n hn;unfold maxL at hn;unfold inK IntKind.min IntKind.max;simp[IntKind.signed,IntKind.bits];omega
 unfold z35 at h;split at h
 ·rename_i hd;have hu:=q0y hd;split at h
  ·rename_i l;rw[q0b] at h;obtain⟨rfl,rfl⟩:=h;obtain⟨s,rfl,rfl,hs⟩:=q32 hx;exact⟨rfl,goInt (s.data.toList.map fun b=>(b.toNat:Int)).length,by simp[Builtin.len_,run_underlying hu],q3f (bd _ (by simpa using hs))⟩
  ·cases h
 ·rename_i e hd;have hu:=q0y hd;split at h
  ·rename_i e s;rw[q0b] at h;obtain⟨rfl,rfl⟩:=h;obtain⟨h1,h2⟩:=qe1 hx;refine⟨rfl,goInt s.l.length,?_,q3f (bd _ h1)⟩;rcases h2 with ⟨_,h3,rfl⟩|⟨_,a,cap,ec,rfl,_⟩
   ·simp[Builtin.len_,run_underlying hu,h3]
   ·simp[Builtin.len_,run_underlying hu]
  ·rw[q0b] at h;obtain⟨rfl,rfl⟩:=h;have:z=.slice none 0 0:=hx;subst this;exact⟨rfl,goInt 0,by simp[Builtin.len_,run_underlying hu],q3f (bd 0 (by unfold maxL;omega))⟩
  ·split at h
   ·rename_i e s he;rw[q0b] at h;obtain⟨rfl,rfl⟩:=h;obtain⟨⟨h1,h2⟩,_⟩:=qbo hm.objs hx he;refine⟨rfl,goInt s.l.length,?_,q3f (bd _ h1)⟩;rcases h2 with ⟨_,h3,rfl⟩|⟨_,a,cap,ec,rfl,_⟩
    ·simp[Builtin.len_,run_underlying hu,h3]
    ·simp[Builtin.len_,run_underlying hu]
   ·cases h
 ·rename_i kt vt hd;have hu:=q0y hd;split at h
  ·rename_i id;split at h
   ·cases h
   ·cases h
  ·rw[q0b] at h;obtain⟨rfl,rfl⟩:=h;have:z=.map none:=hx;subst this;exact⟨rfl,goInt 0,by simp[Builtin.len_,run_underlying hu],q3f (bd 0 (by unfold maxL;omega))⟩
  ·cases h
 ·rename_i n e hd;have hu:=q0y hd;rw[q0a,q0b] at h;obtain⟨h1,rfl,rfl⟩:=h;have h1:=zA h1;refine⟨rfl,goInt n,?_,q3f (bd n (by unfold maxL;omega))⟩;simp[Builtin.len_,run_underlying hu]
 ·cases h
end
section
variable {P:Program} {C:Cx} {X:Nat→Prop} {φ:Nat→Addr} {o:Nat→Obj} {w:World} {imm:Nat→Prop}
def Res(C:Cx)(X:Nat->Prop)(φ:Nat->Addr)(o:Nat->Obj)(w:World)(v:V)(u:List (Nat×Obj))(s:Sem Value):Prop:=∃val w' φ',s.run C.P w=.ok val w'/\Comes C X φ φ' o u w w' v val
theorem Res.of_pure(hm:MRel C X φ o w){v:V}{u:List (Nat×Obj)}{s:Sem Value}(h:u=[]/\q5t C.P φ o (immB X φ o w) w v s):Res C X φ o w v u s:=by obtain⟨rfl,val,h1,h2⟩:=h;exact⟨val,w,φ,h1,.same hm h2⟩
def relO(φ:Nat->Addr)(o:Nat->Obj)(imm:Nat->Prop)(w:World):Option V->Option Value->Prop
 |none,none=>True
 |some v,some z=>q03 φ o imm w v z
 |_,_=>False
theorem q51{d a:Int}{h:Option V}{z:Option Value}(hb:bd d h=some a)(hr:relO φ o imm w h z):(z=none/\a=d)\/∃k,z=some (.int k a):=by
 cases h with
 |none=>cases z with
  |none=>exact .inl ⟨rfl,(zF hb).symm⟩
  |some _=>exact hr.elim
 |some v=>cases z with
  |none=>exact hr.elim
  |some z=>
   simp only[bd] at hb;split at hb
   ·rename_i k n e;injection hb with hb;subst hb;exact .inr ⟨k,congrArg some (q7s e hr).1⟩
   ·cases hb
theorem q26{isS:Bool}{len cap:Nat}{lo hi:Option Value}{a b:Int}(hc:len<=cap)(ha:(lo=none/\a=0)\/∃k,lo=some (.int k a))(hb:(hi=none/\b=len)\/∃k,hi=some (.int k b))(h0:0<=a)(h1:a<=b)(h2:b<=len):(Instr.sliceBounds isS len cap lo hi none).run P w=.ok (a.toNat,b.toNat,cap) w:=by
 have h3:b<=(cap:Int):=by omega
 have h4:0<=b:=by omega
 have h5:(b.toNat:Int)=b:=by omega
 rcases ha with ⟨rfl,rfl⟩|⟨k,rfl⟩<;>rcases hb with ⟨rfl,rfl⟩|⟨k',rfl⟩
 ·simp[Instr.sliceBounds]
 ·simp[Instr.sliceBounds,Instr.sliceBound,asIntOf,h3,h4]
 ·simp[Instr.sliceBounds,Instr.sliceBound,asIntOf,h0,h1]
 ·simp[Instr.sliceBounds,Instr.sliceBound,asIntOf,h0,h1,h3,h4,h5]
theorem q4k{len cap:Nat}{k k':IntKind}{b:Int}(h0:0<=b)(h1:b<=cap):(Instr.sliceBounds true len cap none (some (.int k b)) (some (.int k' b))).run P w=.ok (0,b.toNat,b.toNat) w:=by
 have h5:(b.toNat:Int)=b:=by omega
 simp[Instr.sliceBounds,Instr.sliceBound,asIntOf,h0,h1,h5]
theorem z3k{a:Addr}{n m:Nat}(h:room w a n)(hm:m<=n):room w a m:=by obtain⟨c,el,lo,hi,h1,h2,h3⟩:=h;exact⟨c,el,lo,hi,h1,by omega,by omega⟩
def q62(fr:Nat)(o:Nat->Obj)(u:List (Nat×Obj)):Prop:=∀p,p∈u->fr<=p.1->p.1<fr+16->o p.1=.none
theorem Comes.hollow(hm:MRel C X φ o w){fr:Nat}(hg:o fr=.none){e:Ty}(he:e≠.int .u8){nil:Bool}{z:Value}(hz:(nil=true/\z=.slice none 0 0)\/(nil=false/\∃a:Addr,z=.slice (some a) 0 0)):∃φ',Comes C X φ φ' o [(fr,.vec e 0 false ⟨nil,[]⟩)] w w (.osl fr 0) z:=by
 have key:∀a:Addr,a.spot≠none->((nil=true/\z=.slice none 0 0)\/(nil=false/\z=.slice (some (bare a)) 0 0))->Comes C X φ (upd φ fr a) o [(fr,.vec e 0 false ⟨nil,[]⟩)] w w (.osl fr 0) z:=by
  intro a ha hz;have hc:∀i,i∈q0j [(fr,Obj.vec e 0 false ⟨nil,[]⟩)]->i=fr:=fun i hi=>by simpa[q0j] using hi
  have hf:upds o [(fr,Obj.vec e 0 false ⟨nil,[]⟩)] fr=.vec e 0 false ⟨nil,[]⟩:=q0h;have hx:∀i,i∈q0j [(fr,Obj.vec e 0 false ⟨nil,[]⟩)]->excl (upd φ fr a i) (upds o [(fr,.vec e 0 false ⟨nil,[]⟩)] i)=true->False:=fun i hi hx=>by rw[hc i hi,hf,q0h] at hx;exact ha (q4z hx).2.2
  refine Comes.make hm (Nat.le_refl _) (fun _ _ _=>rfl) (fun id hk=>q0n fun e=>hk (by rw[e];exact zf ..)) (fun id _ hk=>q0n fun e=>hk (by rw[e];exact zf ..)) (fun i hi=>?_) (fun i hi h=>(hx i hi h).elim) (fun i j hi hj h1 _ _ _=>(hx i hi h1).elim) (fun h1 h2 h3 i hi=>?_) (fun i hi=>?_) (fun _ _ _=>?_)
  ·rw[hc i hi,hg];trivial
  ·rw[hc i hi,hf];exact⟨Nat.zero_le _,fun _=>rfl,fun _=>.inr ⟨by rw[q0h];exact ha,rfl,he⟩⟩
  ·rw[hc i hi,hf];exact fun h=>absurd h he
  ·unfold q03;rw[hf,q0h];refine⟨Nat.le_refl _,fun _=>?_⟩;rcases hz with ⟨h1,h2⟩|⟨h1,h2⟩
   ·exact .inl ⟨h1,h2⟩
   ·exact .inr ⟨h1,0,h2,Nat.le_refl _,fun _=>rfl,fun _ h=>absurd h ha⟩
 rcases hz with ⟨h1,h2⟩|⟨h1,a,h2⟩
 ·exact⟨_,key ⟨0,0,some 0⟩ (by simp) (.inl ⟨h1,h2⟩)⟩
 ·exact⟨_,key (mark a) (qv9 a) (.inr ⟨h1,by rw[qv8];exact h2⟩)⟩
theorem z06{e:Ty}{l:List (den e)}{ec:List Value}{a b:Nat}(hb:b<=l.length)(hc:a<=b)(h:relR (relC imm w e) l ec):relR (relC imm w e) ((l.take b).drop a) ((ec.drop (a*csz e)).take ((b-a)*csz e)):=by have h1:=(q23 a (by omega) h).2;have h2:=(q23 (b-a) (by simp;omega) h1).1;rw[List.drop_take];exact h2
theorem qqm{t:TypeId}{e:Ty}(hC:CxOk C){ei:TypeId}(hu:C.P.underlying t=some (.slice ei))(he:C.ty ei=some e){s:Sl (den e)}{z:Value}(hx:q03 φ o imm w (.d (.sl e) s) z){lo hi:Option Value}{a b:Int}{m:List (den e)}(hk:(lo=none/\a=0)\/∃k,lo=some (.int k a))(hg:(hi=none/\b=s.l.length)\/∃k,hi=some (.int k b))(hm:cutL s.l a b=some m):∃val,(Instr.sliceAt t z lo hi none).run C.P w=.ok val w/\q03 φ o imm w (.d (.sl e) (⟨s.nil,m⟩:Sl (den e))) val:=by
 obtain⟨h0,h1,h2,rfl⟩:=qlp hm;obtain⟨ii,zz,k1,_,k2,_⟩:=(hC.tab _ _ he).info;obtain⟨hl,hs⟩:=qe1 hx;have hf:((s.l.take b.toNat).drop a.toNat).length=b.toNat-a.toNat:=by simp;omega
 rcases hs with ⟨g1,g2,rfl⟩|⟨g1,ad,cap,ec,rfl,g2,g3,g4,g5,g6⟩
 ·rw[g2] at h2;have e1:a=0:=by simp at h2;omega
  have e2:b=0:=by simp at h2;omega
  have hb:=q26 (P:=C.P) (w:=w) (isS:=true) (len:=0) (cap:=0) (Nat.le_refl _) hk (by rw[g2] at hg;exact hg) h0 h1 (by simpa using h2);refine⟨.slice none 0 0,?_,?_⟩
  ·simp[Instr.sliceAt,run_underlying hu,Instr.slice,hb,q0l k1,e1,e2]
  ·exact⟨_,rfl,by simp[g2],.inl ⟨g1,by simp[g2],rfl⟩⟩
 ·have hb:=q26 (P:=C.P) (w:=w) (isS:=true) g6 hk hg h0 h1 h2;refine⟨.slice (some (if cap=a.toNat then ad else ad.add (a.toNat*csz e))) (b.toNat-a.toNat) (cap-a.toNat),?_,?_⟩
  ·simp[Instr.sliceAt,run_underlying hu,Instr.slice,hb,q0l k1,k2];split<;>rfl
  ·refine⟨_,rfl,by rw[hf];omega,.inr ⟨g1,?_⟩⟩;rw[hf];by_cases hc:cap=a.toNat
   ·rw[if_pos hc];have e1:(s.l.take b.toNat).drop a.toNat=[]:=zL (by rw[hf];omega);exact⟨ad,_,[],rfl,fun h=>g2 (by omega),fun h=>absurd e1 h,by rw[e1];rfl,fun j hj=>absurd hj (by simp),by omega⟩
   ·rw[if_neg hc,q2r (g2 (by omega))];exact⟨_,_,_,rfl,fun _=>rfl,fun h=>g3 (fun e=>h (by rw[e];simp)),z06 (by omega) (by omega) g4,q5k _ _ g5,by omega⟩
theorem qso(hC:CxOk C)(hm:MRel C X φ o w){t:TypeId}{x:V}{z:Value}{lo hi mx:Option V}{zlo zhi zmx:Option Value}{v:V}{u:List (Nat×Obj)}(hx:q03 φ o (immB X φ o w) w x z)(ht:relO φ o (immB X φ o w) w lo zlo)(hw:relO φ o (immB X φ o w) w hi zhi)(hz:relO φ o (immB X φ o w) w mx zmx){fr:Nat}(h:(qo4 lf C o fr t x lo hi mx).gives v u)(hf:q62 fr o u):Res C X φ o w v u (Instr.sliceAt t z zlo zhi zmx):=by
 have hk:mx=none->zmx=none:=by
  rintro rfl;cases zmx with
  |none=>rfl
  |some _=>exact hz.elim
 unfold qo4 at h;split at h
 ·rename_i l;have:=hk rfl;subst this;split at h
  ·rename_i a b ha hb;rw[q0a,q19] at h;obtain⟨h1,y,h2,h3⟩:=h;simp only[Prod.mk.injEq] at h3;obtain⟨rfl,rfl⟩:=h3;refine Res.of_pure hm ⟨rfl,?_⟩;obtain⟨s,rfl,rfl,hs⟩:=q32 hx;have h1:=zg h1;have hu:C.P.underlying t=some .string:=by unfold qbk at h1;split at h1<;>first|(rename_i e;exact q0y e)|cases h1
   obtain⟨h0,h1,h4,rfl⟩:=qlp h2;have hA:(s.data.toList.map fun b=>(b.toNat:Int)).length=s.size:=by simp
   rw[hA] at h4;have e1:lf.n (s.data.toList.map fun b=>(b.toNat:Int))=(s.size:Int):=by simp[lf,lenI]
   rw[e1] at hb;have hb:=q26 (P:=C.P) (w:=w) (isS:=false) (Nat.le_refl _) (q51 ha ht) (q51 hb hw) h0 h1 h4;refine⟨.string (s.extract a.toNat b.toNat),?_,qfk ?_ ?_⟩
   ·simp[Instr.sliceAt,run_underlying hu,Instr.slice,hb]
   ·rw[ByteArray.data_extract,Array.toList_extract,List.extract_eq_take_drop,List.map_take,List.map_drop,List.drop_take]
   ·rw[ByteArray.size_extract];omega
  ·cases h
 ·rename_i e s;have:=hk rfl;subst this;split at h
  ·rename_i a b ha hb;rw[q0a,q19] at h;obtain⟨h1,y,h2,h3⟩:=h;simp only[Prod.mk.injEq] at h3;obtain⟨rfl,rfl⟩:=h3;obtain⟨ei,hu,_,he⟩:=q2o h1;obtain⟨val,g1,g2⟩:=qqm hC hu he hx (q51 ha ht) (q51 hb hw) h2;exact Res.of_pure hm ⟨rfl,val,g1,g2⟩
  ·cases h
 ·rename_i e s _;split at h
  ·rename_i b c hb hc;rw[q0a,q19,zd] at h;obtain⟨⟨h1,hK⟩,y,h2,h3⟩:=h;simp only[Prod.mk.injEq] at h3;obtain⟨rfl,rfl⟩:=h3;have hG:e≠.int .u8:=fun h=>by subst h;cases hK
   have hH:o fr=.none:=hf _ (zf ..) (Nat.le_refl _) (by show fr<fr+16;omega);have h2:cnd (eqI b 0) (cnd (eqI c 0) (some ()) none) none=some y:=h2;have hL:b=0:=by
    cases h:eqI b 0 with
    |true=>simpa[eqI] using h
    |false=>rw[h] at h2;cases h2
   have hM:c=0:=by
    cases h:eqI c 0 with
    |true=>simpa[eqI] using h
    |false=>rw[h] at h2;cases hh:eqI b 0<;>rw[hh] at h2<;>cases h2
   subst hL hM;have hq:zlo=none:=by
    cases zlo with
    |none=>rfl
    |some _=>exact ht.elim
   subst hq;obtain⟨kb,rfl⟩:=(q51 hb hw).resolve_left fun h=>by cases h.2
   obtain⟨kc,rfl⟩:=(q51 hc hz).resolve_left fun h=>by cases h.2
   obtain⟨ei,hu,_,he⟩:=q2o h1;obtain⟨ii,zz,k1,_,k2,_⟩:=(hC.tab _ _ he).info;obtain⟨hl,hs⟩:=qe1 hx;rcases hs with ⟨g1,g2,rfl⟩|⟨g1,ad,cap,ec,rfl,g2,g3,g4,g5,g6⟩
   ·obtain⟨φ',hh⟩:=Comes.hollow hm hH hG (nil:=s.nil) (z:=.slice none 0 0) (.inl ⟨g1,rfl⟩);have hg:=q4k (P:=C.P) (w:=w) (len:=0) (cap:=0) (k:=kb) (k':=kc) (b:=0) (Int.le_refl _) (Int.le_refl _);refine⟨.slice none 0 0,w,φ',?_,hh⟩;simp[Instr.sliceAt,run_underlying hu,Instr.slice,hg,q0l k1]
   ·obtain⟨φ',hh⟩:=Comes.hollow hm hH hG (nil:=s.nil) (z:=.slice (some ad) 0 0) (.inr ⟨g1,ad,rfl⟩);have hg:=q4k (P:=C.P) (w:=w) (len:=s.l.length) (cap:=cap) (k:=kb) (k':=kc) (b:=0) (Int.le_refl _) (by omega);refine⟨.slice (some ad) 0 0,w,φ',?_,hh⟩;simp[Instr.sliceAt,run_underlying hu,Instr.slice,hg,q0l k1]
  ·cases h
 ·rename_i id ver _;split at h
  ·rename_i e ver' fz s e1;rw[q0a,zd] at h;obtain⟨⟨h1,hB⟩,h⟩:=h;obtain⟨ei,hu,_,he⟩:=q2o hB;obtain⟨ii,zz,k1,_,k2,_⟩:=(hC.tab _ _ he).info;split at h
   ·rename_i b c hb hc;rw[q19] at h;obtain⟨p,h2,h3⟩:=h;simp only[Prod.mk.injEq] at h3;obtain⟨rfl,rfl⟩:=h3;obtain⟨p',h2,h4⟩:=q5q h2;obtain⟨h0,h3,rfl⟩:=qbt h2;have h3:b<=(s.l.length:Int):=h3;have h4:cnd (eqI b c) (some b.toNat) none=some p:=h4;have hN:b=c:=by
     cases h:eqI b c with
     |true=>simpa[eqI] using h
     |false=>rw[h] at h4;cases h4
    subst hN;have hp:p=b.toNat:=by
     have:eqI b b=true:=by simp[eqI]
     rw[this] at h4;exact(zF h4).symm
    subst hp;refine Res.of_pure hm ⟨rfl,?_⟩;have ho:=hm.objs id;unfold q03 at hx;rw[e1] at hx ho;obtain⟨hv,hx⟩:=hx;have hq:zlo=none:=by
     cases zlo with
     |none=>rfl
     |some _=>exact ht.elim
    subst hq;obtain⟨kb,rfl⟩:=(q51 hb hw).resolve_left fun h=>by have:=h.2;omega
    obtain⟨kc,rfl⟩:=(q51 hc hz).resolve_left fun h=>by have:=h.2;omega
    rcases hx (zg h1) with ⟨hn,rfl⟩|⟨hn,cap,rfl,e3,e5,e4⟩
    ·have hy:=ho.2.1 hn;rw[hy] at h3;have e2:b=0:=by simp at h3;omega
     subst e2;have hg:=q4k (P:=C.P) (w:=w) (len:=0) (cap:=0) (k:=kb) (k':=kc) (b:=0) (Int.le_refl _) (Int.le_refl _);refine⟨.slice none 0 0,?_,?_⟩
     ·simp[Instr.sliceAt,run_underlying hu,Instr.slice,hg,q0l k1]
     ·unfold q03;rw[e1];refine⟨hv,fun _=>⟨Nat.zero_le _,.inl ⟨hn,rfl⟩,fun _ a m c h=>?_⟩⟩;injection h with _ _ h;exact h.symm
    ·have hg:=q4k (P:=C.P) (w:=w) (len:=s.l.length) (cap:=cap) (k:=kb) (k':=kc) h0 (by omega);refine⟨.slice (some (bare (φ id))) b.toNat b.toNat,?_,?_⟩
     ·simp[Instr.sliceAt,run_underlying hu,Instr.slice,hg,q0l k1,Addr.add,bare]
     ·unfold q03;rw[e1];refine⟨hv,fun _=>⟨by omega,.inr ⟨hn,b.toNat,rfl,Nat.le_refl _,fun h=>?_,fun h1 h2=>?_⟩,fun _ a m c h=>?_⟩⟩
      ·have:=e5 h;omega
      ·exact z3k (e4 h1 h2) (Nat.mul_le_mul_right _ (by omega))
      ·injection h with _ _ h;exact h.symm
   ·cases h
  ·cases h
 ·rename_i id ver;have:=hk rfl;subst this;split at h
  ·rename_i e ver' fr s e1;rw[q0a,zd] at h;obtain⟨⟨h1,hB⟩,h⟩:=h;obtain⟨ei,hu,_,he⟩:=q2o hB;obtain⟨ii,zz,k1,_,k2,_⟩:=(hC.tab _ _ he).info;split at h
   ·split at h
    ·rename_i b hb;rw[q19] at h;obtain⟨p,h2,h3⟩:=h;simp only[Prod.mk.injEq] at h3;obtain⟨rfl,rfl⟩:=h3;obtain⟨h0,h3,rfl⟩:=qbt h2;have h3:b<=(s.l.length:Int):=h3;refine Res.of_pure hm ⟨rfl,?_⟩;have ho:=hm.objs id;unfold q03 at hx;rw[e1] at hx ho;obtain⟨hv,hx⟩:=hx;have hq:zlo=none:=by
      cases zlo with
      |none=>rfl
      |some _=>exact ht.elim
     subst hq;rcases hx (zg h1) with ⟨hn,rfl⟩|⟨hn,cap,rfl,e3,e4⟩
     ·have hy:=ho.2.1 hn;rw[hy] at h3;have e2:b=0:=by simp at h3;omega
      have hI:=q51 hb hw;have e5:lf.n s.l=0:=by rw[hy];rfl
      rw[e5] at hI;have hg:=q26 (P:=C.P) (w:=w) (isS:=true) (len:=0) (cap:=0) (lo:=none) (hi:=zhi) (a:=0) (b:=b) (Nat.le_refl _) (.inl ⟨rfl,rfl⟩) hI (Int.le_refl _) (by omega) (by omega);refine⟨.slice none 0 0,?_,?_⟩
      ·simp[Instr.sliceAt,run_underlying hu,Instr.slice,hg,q0l k1,e2]
      ·unfold q03;rw[e1,e2];exact⟨hv,fun _=>⟨Nat.zero_le _,.inl ⟨hn,rfl⟩,by simp⟩⟩
     ·have hg:=q26 (P:=C.P) (w:=w) (isS:=true) (lo:=none) (a:=0) e3 (.inl ⟨rfl,rfl⟩) (q51 hb hw) (Int.le_refl _) h0 h3;refine⟨.slice (some (bare (φ id))) b.toNat cap,?_,?_⟩
      ·simp[Instr.sliceAt,run_underlying hu,Instr.slice,hg,q0l k1,Addr.add,bare]
      ·unfold q03;rw[e1];exact⟨hv,fun _=>⟨by omega,.inr ⟨hn,cap,rfl,by omega,e4⟩,by simp⟩⟩
    ·cases h
   ·rename_i lo';split at h
    ·split at h
     ·rename_i a ha;rw[q19] at h;obtain⟨p,h2,h3⟩:=h;simp only[Prod.mk.injEq] at h3;obtain⟨rfl,rfl⟩:=h3;obtain⟨h0,h3,_⟩:=qbt h2;have h3:a<=(s.l.length:Int):=h3;refine Res.of_pure hm ⟨rfl,?_⟩;have ho:=hm.objs id;unfold q03 at hx;rw[e1] at hx ho;obtain⟨hv,hx⟩:=hx;have hD:zhi=none:=by
       cases zhi with
       |none=>rfl
       |some _=>exact hw.elim
      subst hD;have hO:a.toNat<=s.l.length:=by omega
      have hP:a=((a.toNat:Nat):Int):=by omega
      rcases hx (zg h1) with ⟨hn,rfl⟩|⟨hn,cap,rfl,e3,e4⟩
      ·have hy:=ho.2.1 hn;rw[hy] at h3;have e2:a=0:=by simp at h3;omega
       subst e2;have hg:=q26 (P:=C.P) (w:=w) (isS:=true) (len:=0) (cap:=0) (lo:=zlo) (hi:=none) (a:=0) (b:=0) (Nat.le_refl _) (q51 ha ht) (.inl ⟨rfl,rfl⟩) (Int.le_refl _) (Int.le_refl _) (Int.le_refl _);refine⟨.slice none 0 0,?_,?_⟩
       ·simp[Instr.sliceAt,run_underlying hu,Instr.slice,hg,q0l k1]
       ·unfold q03;rw[e1];exact⟨hv,fun _=>⟨0,rfl,Nat.zero_le _,.inl ⟨hn,rfl⟩⟩⟩
      ·have hg:=q26 (P:=C.P) (w:=w) (isS:=true) (len:=s.l.length) (cap:=cap) (lo:=zlo) (hi:=none) (a:=a) (b:=s.l.length) e3 (q51 ha ht) (.inl ⟨rfl,rfl⟩) h0 h3 (Int.le_refl _);refine⟨.slice (some (if cap-a.toNat=0 then bare (φ id) else⟨(φ id).block,(φ id).off+a.toNat*csz e,none⟩)) (s.l.length-a.toNat) (cap-a.toNat),?_,?_⟩
       ·simp[Instr.sliceAt,run_underlying hu,Instr.slice,hg,q0l k1,k2];by_cases hc:cap=a.toNat
        ·rw[if_pos hc,if_pos (by omega)]
        ·rw[if_neg hc,if_neg (by omega),q2r (q89 e4.1 (by omega))];rfl
       ·unfold q03;rw[e1];exact⟨hv,fun _=>⟨a.toNat,hP,hO,.inr ⟨hn,cap-a.toNat,rfl,by omega⟩⟩⟩
     ·cases h
    ·split at h
     ·rename_i a b ha hb;rw[q19] at h;obtain⟨y,h2,h3⟩:=h;simp only[Prod.mk.injEq] at h3;obtain⟨rfl,rfl⟩:=h3;have hE:=qlj hm [id];have e2:frz o [id]=[(id,.vec e ver' true s)]:=by simp[frz,e1]
      have hQ:=hE.keeps _ _ hx;have hR:q70 (upds o (frz o [id])) (.osl id ver):=q9n (fun j hj=>by
       unfold q1v at hj;split at hj
       ·cases hj
       ·exact hj)
      have hF:asD1 lf o (.sl e) (.osl id ver)=some s:=by
       simp only[asD1,e1,h1,cond_true];unfold asTy;split
       ·rfl
       ·rename_i hS _;exact absurd rfl hS
      have hJ:asD lf o (.sl e) (.osl id ver)=some s:=by unfold asD;rw[hF]
      rw[<-q8c [id]] at hJ;have hd:=qoj hE.mem hQ hR hJ;obtain⟨val,g1,g2⟩:=qqm hC hu he hd (q51 ha ht) (q51 hb hw) h2;refine⟨val,w,φ,g1,?_⟩;rw[<-e2];exact {hE with val:=g2}
     ·cases h
  ·cases h
 ·cases h
theorem z07{c:Bool}{a b:V}{za zb:Value}(ha:q03 φ o imm w a za)(hb:q03 φ o imm w b zb):q03 φ o imm w (z38 lf c a b) (if c then za else zb):=by
 unfold z38;split
 ·rename_i t a' t' b';split
  ·rename_i b'' e;obtain⟨rfl,rfl⟩:=q3a e;cases c
   ·exact hb
   ·exact ha
  ·cases c
   ·exact hb
   ·exact ha
 ·cases c
  ·exact hb
  ·exact ha
theorem z08{x:V}{z:Value}{v:V}{u:List (Nat×Obj)}(hx:q03 φ o imm w x z)(h:(qsh o x).gives v u):u=[]/\v=x/\((∃a,z=.pointer (some a))\/(∃f p c,z=.func (.func f) p c)):=by
 unfold qsh at h;split at h
 ·rw[q0a,q0b] at h;obtain⟨h1,rfl,rfl⟩:=h;exact⟨rfl,rfl,.inl (qfn hx h1)⟩
 ·rw[q0b] at h;obtain⟨rfl,rfl⟩:=h;obtain⟨a,cs,h1,_⟩:=hx;exact⟨rfl,rfl,.inl ⟨a,h1⟩⟩
 ·rename_i id ver i path;split at h
  ·rename_i e1;rw[q0a,q0b] at h;obtain⟨h1,rfl,rfl⟩:=h;unfold q03 at hx;rw[e1] at hx;exact⟨rfl,rfl,.inl ⟨_,(hx.2 (zg h1)).2⟩⟩
  ·cases h
 ·rw[q0b] at h;obtain⟨rfl,rfl⟩:=h;obtain⟨c,h1,_⟩:=hx;exact⟨rfl,rfl,.inr ⟨_,_,_,h1⟩⟩
 ·cases h
end
def ov(l:List Value)(off:Nat)(vs:List Value):List Value:=l.take off++vs++l.drop (off+vs.length)
theorem z5r(l:List Value)(off:Nat):ov l off []=l:=by simp[ov]
theorem qvl(l:List Value)(off:Nat)(v:Value)(vs:List Value)(h:off+(vs.length+1)<=l.length):ov (l.set off v) (off+1) vs=ov l off (v::vs):=list_seg_step l off v vs h
theorem qfp(l:List Value)(off:Nat)(vs:List Value)(h:off+vs.length<=l.length):(ov l off vs).length=l.length:=by simp[ov];omega
theorem qvm:∀(vs:List Value) (off k:Nat) (cs:Array Value),off+k+vs.length<=cs.size->(vs.zipIdx k).foldl (fun cs p=>cs.setIfInBounds (off+p.2) p.1) cs=(ov cs.toList (off+k) vs).toArray
 |[],off,k,cs,_=>by simp[ov]
 |v::vs,off,k,cs,h=>by simp only[List.zipIdx_cons,List.foldl_cons];rw[qvm vs off (k+1) _ (by simp at h ⊢;omega),Array.toList_setIfInBounds,<-Nat.add_assoc,qvl];simp at h ⊢;omega
theorem qlq(place:Nat->Option (Nat×Nat))(cells:Array Value)(i:Nat)(v:Value)(rest:List (Nat×Value)){off sz:Nat}(hp:place i=some (off,sz))(hs:v.cells.size=sz)(hb:off+sz<=cells.size):Instr.fill place cells ((i,v)::rest)=Instr.fill place (ov cells.toList off v.cells.toList).toArray rest:=by
 have e:(v.cells.zipIdx.foldl (fun cs p=>cs.setIfInBounds (off+p.2) p.1) cells)=(ov cells.toList off v.cells.toList).toArray:=by have:=qvm v.cells.toList off 0 cells (by simp;omega);simp only[Nat.add_zero] at this;rw[<-Array.foldl_toList,Array.toList_zipIdx];exact this
 simp only[Instr.fill,hp];rw[if_neg (by simp;omega),e]
theorem qsp(w:World)(b i:Nat)(cs:Array Value)(t:TypeId)(fr:Nat×Nat)(v:Value)(hg:w.heap[b]?=some (.cells cs t fr)):w.setCell ⟨b,i,none⟩ v=w.setRow b (cs.setIfInBounds i v):=setCell_eq_setRow w b i cs t fr v hg
section
variable {P:Program} {C:Cx} {X:Nat→Prop} {φ φ':Nat→Addr} {o:Nat→Obj} {w w':World} {imm:Nat→Prop}
theorem q2w{b off lo hi:Nat}{t:TypeId}:∀(vs:List Value) (i:Nat) (cur:Array Value) (w:World),w.heap[b]?=some (.cells cur t (lo,hi))->off+i+vs.length<=cur.size->(hi<=lo\/hi<=off+i\/off+i+vs.length<=lo)->(∀v∈vs,v.oneCell'=true)->(storeCells ⟨b,off,none⟩ vs i).run P w=.ok () (w.setRow b (ov cur.toList (off+i) vs).toArray)
 |[],i,cur,w,hg,_,_,_=>by simp only[storeCells,z5r,Array.toArray_toList];rw[setRow_self w b cur t (lo,hi) hg];rfl
 |v::rest,i,cur,w,hg,hl,hf,h1=>by
  have he:(⟨b,off,none⟩:Addr).add i=⟨b,off+i,none⟩:=q2r rfl i;simp only[zt] at hl hf;have hk:off+i<cur.size:=by omega
  have hc:w.cell? ⟨b,off+i,none⟩=some cur[off+i]:=by simp[World.cell?,hg,hk]
  have hj:w.frozen? ⟨b,off+i,none⟩=false:=by simp only[World.frozen?,hg,Bool.and_eq_false_iff,decide_eq_false_iff_not];omega
  have hm:(store ((⟨b,off,none⟩:Addr).add i) v).run P w=.ok () (w.setRow b (cur.setIfInBounds (off+i) v)):=by rw[he,run_store P w _ v _ (h1 v (by simp)),hc];simp[hj,qsp w b (off+i) cur t (lo,hi) v hg]
  have ih:=q2w (off:=off) (lo:=lo) (hi:=hi) rest (i+1) (cur.setIfInBounds (off+i) v) (w.setRow b (cur.setIfInBounds (off+i) v)) (setRow_heap w b cur _ t _ hg) (by simp;omega) (by omega) (fun x hx=>h1 x (by simp[hx]));simp only[storeCells,Sem.run_bind,hm,Result.andThen_ok,ih,setRow_setRow];rw[Array.toList_setIfInBounds,show off+(i+1)=off+i+1 by omega,qvl _ _ _ _ (by simp;omega)]
theorem q71{b:Nat}{cur:Array Value}{t:TypeId}{fr:Nat×Nat}(h:w.heap[b]?=some (.cells cur t fr))(cs:Array Value):(w.setRow b cs).heap[b]?=some (.cells cs t fr):=setRow_heap w b cur cs t fr h
theorem qjt{e:Ty}{l m:List (den e)}{cs ds:List Value}{i:Nat}(hi:i+m.length<=l.length)(h:relR (relC imm w e) l cs)(h':relR (relC imm w e) m ds):relR (relC imm w e) (l.take i++m++l.drop (i+m.length)) (ov cs (i*csz e) ds):=by unfold ov;have h1:=(q23 i (by omega) h).1;have h2:=(q23 (i+m.length) hi h).2;rw[q20 h',<-Nat.add_mul];exact q5i (q5i h1 h') h2
theorem q8d:∀(t:Ty) (x:den t) (cs:List Value),relC imm w t x cs->∀v,v∈cs->v.oneCell'=true
 |.unit,_,_,h,v,hv=>by simp[relC] at h;subst h;cases hv
 |.pair a b,x,_,⟨c,d,e,h1,h2⟩,v,hv=>by
  subst e;rcases zN.1 hv with hv|hv
  ·exact q8d a x.1 c h1 v hv
  ·exact q8d b x.2 d h2 v hv
 |.st p,x,cs,h,v,hv=>q8d p x cs h v hv
 |.arr n e,l,cs,⟨_,h2⟩,v,hv=>by
  have key:∀(l:List (den e)) (cs:List Value),relR (relC imm w e) l cs->∀v,v∈cs->v.oneCell'=true:=by
   intro l
   induction l with
   |nil=>intro cs h v hv;simp[relR] at h;subst h;cases hv
   |cons y l ih=>
    intro cs ⟨c,d,e1,h3,h4⟩ v hv;subst e1;rcases zN.1 hv with hv|hv
    ·exact q8d e y c h3 v hv
    ·exact ih d h4 v hv
  exact key l cs h2 v hv
 |.int _,_,_,h,v,hv=>by obtain⟨h,_⟩:=h;subst h;simp at hv;subst hv;rfl
 |.bool,_,_,h,v,hv=>by have h:_=[_]:=h;subst h;simp at hv;subst hv;rfl
 |.flt,_,_,h,v,hv=>by have h:_=[_]:=h;subst h;simp at hv;subst hv;rfl
 |.cpx,_,_,h,v,hv=>by have h:_=[_]:=h;subst h;simp at hv;subst hv;rfl
 |.str,_,_,⟨s,h,_⟩,v,hv=>by subst h;simp at hv;subst hv;rfl
 |.sl e,_,_,⟨x,h,_,h2⟩,v,hv=>by subst h;simp at hv;subst hv;rcases h2 with ⟨_,_,rfl⟩|⟨_,a,cap,ec,rfl,_⟩<;>rfl
 |.ks e,_,_,⟨0,h⟩,v,hv=>h.elim
 |.ks e,_,_,⟨n+1,x,h,_,h2⟩,v,hv=>by subst h;simp at hv;subst hv;rcases h2 with ⟨_,_,rfl⟩|⟨_,a,cap,ec,rfl,_⟩<;>rfl
theorem qeu{e:Ty}:∀{l:List (den e)} {cs:List Value},relR (relC imm w e) l cs->∀v,v∈cs->v.oneCell'=true
 |[],cs,h,v,hv=>by simp[relR] at h;subst h;cases hv
 |y::l,cs,⟨c,d,e1,h3,h4⟩,v,hv=>by
  subst e1;rcases zN.1 hv with hv|hv
  ·exact q8d e y c h3 v hv
  ·exact qeu h4 v hv
theorem Comes.fresh(hm:MRel C X φ o w){fr:Nat}{B:Go.Obj}{w':World}(hg:w'.heap=w.heap.push B)(x:Obj){ns:List (Nat×Obj)}(hc:∀p,p∈ns->(∃e,p.2=.vec e 0 false ⟨true,[]⟩)/\p.1≠fr/\o p.1=.none)(hu:∀w',Up w w' (φ fr) ⟨w.heap.size,0,none⟩ (o fr) x){v:V}{z:Value}(hl:(∀b,immB X φ o w b->immB X (upd φ fr ⟨w.heap.size,0,none⟩) (upds o ((fr,x)::ns)) w' b)->(∀b,immB X φ o w b->w'.heap[b]?=w.heap[b]?)->(∀y z,q03 φ o (immB X φ o w) w y z->q03 (upd φ fr ⟨w.heap.size,0,none⟩) (upds o ((fr,x)::ns)) (immB X (upd φ fr ⟨w.heap.size,0,none⟩) (upds o ((fr,x)::ns)) w') w' y z)->q5d (upd φ fr ⟨w.heap.size,0,none⟩) (upds o ((fr,x)::ns)) (immB X (upd φ fr ⟨w.heap.size,0,none⟩) (upds o ((fr,x)::ns)) w') w' fr x)(hn:ElsAt C w' ⟨w.heap.size,0,none⟩ x)(ho:upds o ((fr,x)::ns) fr=x->q03 (upd φ fr ⟨w.heap.size,0,none⟩) (upds o ((fr,x)::ns)) (immB X (upd φ fr ⟨w.heap.size,0,none⟩) (upds o ((fr,x)::ns)) w') w' v z)(still:qd4 w w':=by exact⟨rfl,rfl⟩):
  Comes C X φ (upd φ fr ⟨w.heap.size,0,none⟩) o ((fr,x)::ns) w w' v z:=by
 have hq:∀(ns:List (Nat×Obj)) (o':Nat->Obj) (id:Nat),(∀p,p∈ns->∃e,p.2=.vec e 0 false ⟨true,[]⟩)->id∈q0j ns->∃e,upds o' ns id=.vec e 0 false ⟨true,[]⟩:=by
  intro ns
  induction ns with
  |nil=>intro o' id _ h;cases h
  |cons p r ih=>
   obtain⟨i,y⟩:=p;intro o' id hc h;by_cases hr:id∈q0j r
   ·exact ih _ _ (fun p hp=>hc p (zh _ hp)) hr
   ·simp only[q0j,zo,hr,or_false] at h;subst h;show ∃e,upds (upd o' id y) r id=_;rw[q0u hr,q0h];exact hc _ (zf ..)
 have hs:∀(ns:List (Nat×Obj)) id,id∈q0j ns->∃p,p∈ns/\p.1=id:=by
  intro ns
  induction ns with
  |nil=>intro id h;cases h
  |cons p r ih=>
   intro id h;rcases zo.1 h with h|h
   ·exact⟨p,zf ..,h.symm⟩
   ·obtain⟨q,h1,h2⟩:=ih id h;exact⟨q,zh _ h1,h2⟩
 have ht:fr∉q0j ns:=fun h=>by obtain⟨p,h1,h2⟩:=hs ns _ h;exact(hc p h1).2.1 h2
 have he:upds o ((fr,x)::ns) fr=x:=by show upds (upd o fr x) ns fr=x;rw[q0u ht,q0h]
 have hz:∀id,id∈q0j ns->id≠fr:=fun id h e=>ht (e▸h);have hf:∀id,id∈q0j ns->∃e,upds o ((fr,x)::ns) id=.vec e 0 false ⟨true,[]⟩:=fun id h=>hq ns _ id (fun p hp=>(hc p hp).1) h;have hv:∀id,id∈q0j ns->o id=.none:=fun id h=>by obtain⟨p,h1,h2⟩:=hs ns _ h;exact h2▸(hc p h1).2.2
 refine Comes.make hm (by rw[hg];simp) (fun b hb _=>by rw[hg,Array.getElem?_push,if_neg (Nat.ne_of_lt hb)]) (fun id hk=>?_) (fun id _ hk=>?_) (fun id hk=>?_) (fun id hk hx=>?_) (fun i j hi hj hw hy _ _=>?_) (fun h1 h2 h3 id hk=>?_) (fun id hk=>?_) (fun h1 h2 h3=>ho he) still
 ·exact q0n fun e=>hk (e▸zf ..)
 ·exact q0n fun e=>hk (e▸zf ..)
 ·rcases zo.1 hk with rfl|hk
  ·rw[q0h,he];exact hu _
  ·rw[hv id hk];trivial
 ·rcases zo.1 hk with rfl|hk
  ·rw[q0h];exact .inl ⟨Nat.le_refl _,by rw[hg];simp⟩
  ·obtain⟨e,h⟩:=hf id hk;rw[h] at hx;simp[excl,live] at hx
 ·have key:∀i a,i∈q0j ((fr,x)::ns)->excl a (upds o ((fr,x)::ns) i)=true->i=fr:=fun i a hk hx=>by
   rcases zo.1 hk with h|hk
   ·exact h
   ·obtain⟨e,h⟩:=hf i hk;rw[h] at hx;simp[excl,live] at hx
  rw[key i _ hi hw,key j _ hj hy]
 ·rcases zo.1 hk with rfl|hk
  ·rw[he];exact hl h1 h2 h3
  ·obtain⟨e,h⟩:=hf id hk;rw[h];exact⟨Nat.zero_le _,fun _=>rfl,fun h=>by simp at h⟩
 ·rcases zo.1 hk with rfl|hk
  ·rw[he,q0h];exact hn
  ·obtain⟨e,h⟩:=hf id hk;rw[h];exact fun _ h=>by simp at h
theorem Comes.write(hm:MRel C X φ o w){id:Nat}{w':World}(x:Obj)(hx:excl (φ id) x=true->excl (φ id) (o id)=true)(ho:w'.heap.size=w.heap.size)(hl:∀b,¬(excl (φ id) (o id)=true/\(φ id).block=b)->w'.heap[b]?=w.heap[b]?)(hn:Up w w' (φ id) (φ id) (o id) x){v:V}{z:Value}(hf:(∀b,immB X φ o w b->immB X φ (upds o [(id,x)]) w' b)->(∀b,immB X φ o w b->w'.heap[b]?=w.heap[b]?)->(∀y z,q03 φ o (immB X φ o w) w y z->q03 φ (upds o [(id,x)]) (immB X φ (upds o [(id,x)]) w') w' y z)->q5d φ (upds o [(id,x)]) (immB X φ (upds o [(id,x)]) w') w' id x)(hg:ElsAt C w' (φ id) x)(hk:upds o [(id,x)] id=x->q03 φ (upds o [(id,x)]) (immB X φ (upds o [(id,x)]) w') w' v z)(still:qd4 w w':=by exact⟨rfl,rfl⟩):Comes C X φ φ o [(id,x)] w w' v z:=by
 have he:upds o [(id,x)] id=x:=q0h;have hc:∀i,i∈q0j [(id,x)]->i=id:=fun i hi=>by simpa[q0j] using hi
 refine Comes.make hm (by omega) (fun b _ hh=>hl b fun⟨h1,h2⟩=>hh ⟨id,by simp[q0j],h1,h2⟩) (fun _ _=>rfl) (fun _ _ _=>rfl) (fun i hi=>?_) (fun i hi h=>?_) (fun i j hi hj _ _ _ _=>?_) (fun h1 h2 h3 i hi=>?_) (fun i hi=>?_) (fun _ _ _=>hk he) still
 ·rw[hc i hi,he];exact hn
 ·rw[hc i hi,he] at h;rw[hc i hi];exact .inr ⟨hx h,rfl⟩
 ·rw[hc i hi,hc j hj]
 ·rw[hc i hi,he];exact hf h1 h2 h3
 ·rw[hc i hi,he];exact hg
end
theorem qvn{z:Value}(h:z.oneCell'=true):z.cells=#[z]:=by cases z<;>first|rfl|(simp[Value.oneCell'] at h;done)
theorem qbu{o:Nat->Obj}:∀{a b:List V},q7l o (a++b)=true->q7l o a=true/\q7l o b=true
 |[],b,h=>⟨rfl,h⟩
 |x::a,b,h=>by simp only[List.cons_append,q7l,zd] at h ⊢;obtain⟨h1,h2⟩:=qbu h.2;exact⟨⟨h.1,h1⟩,h2⟩
section
variable {P:Program} {C:Cx} {X:Nat→Prop} {φ φ':Nat→Addr} {o o':Nat→Obj} {w w':World} {imm imm':Nat→Prop}
theorem qlr{x:V}{z:Value}(hx:q03 φ o imm w x z)(h:qse o x=true):z.oneCell'=true:=by
 cases x<;>simp only[qse] at h<;>try (cases h;done)
 ·rename_i t d;exact q8d t d [z] (qll h hx) z (zQ.2 rfl)
 ·rename_i id ver;unfold q03 at hx;split at h
  ·rename_i e;rw[e] at hx;rcases hx.2 (zg h) with ⟨_,rfl⟩|⟨_,cap,rfl,_⟩<;>rfl
  ·cases h
 ·rename_i id ver n cp;unfold q03 at hx;split at h
  ·rename_i e;rw[e] at hx;rcases(hx.2 (zg h)).2.1 with ⟨_,rfl⟩|⟨_,cap,rfl,_⟩<;>rfl
  ·cases h
 ·rename_i id off;unfold q03 at hx;split at h
  ·rename_i e;rw[e] at hx;simp only at hx;subst hx;rfl
  ·rename_i e;rw[e] at hx;have:=hx (zg h).symm;subst this;rfl
  ·cases h
 ·rename_i id ver i path;unfold q03 at hx;split at h
  ·rename_i e;rw[e] at hx;have:=(hx.2 (zg h)).2;subst this;rfl
  ·cases h
 ·obtain⟨a,cs,rfl,_⟩:=hx;rfl
 ·have:z=.pointer none:=hx;subst this;rfl
 ·obtain⟨c,rfl,_⟩:=hx;rfl
 ·have:z=.nilFunc:=hx;subst this;rfl
 ·rename_i id;unfold q03 at hx;split at h
  ·rename_i e;rw[e] at hx;simp only at hx;subst hx;rfl
  ·cases h
 ·have:z=.map none:=hx;subst this;rfl
 ·have:z=.nilIface:=hx;subst this;rfl
 ·have:z=.slice none 0 0:=hx;subst this;rfl
 ·rename_i id b;unfold q03 at hx;split at h
  ·rename_i e;rw[e] at hx;simp only at hx;subst hx;cases b<;>rfl
  ·cases h
 ·rename_i id ver lo;unfold q03 at hx;split at h
  ·rename_i e;rw[e] at hx;obtain⟨k,_,_,hx⟩:=hx.2 (zg h);rcases hx with ⟨_,rfl⟩|⟨_,cap,rfl,_⟩<;>rfl
  ·cases h
 ·rename_i id;unfold q03 at hx;split at h
  ·rename_i e;rw[e] at hx;simp only at hx;subst hx;rfl
  ·cases h
 ·rename_i a k n;have hx:qd3 imm w a k n z:=hx;rcases q9l a hx with ⟨rfl,_⟩|⟨_,_,rfl,_⟩<;>rfl
theorem qdb:∀{cs:List V} {zs:List Value},q0m φ o imm w cs zs->q7l o cs=true->∀z,z∈zs->z.oneCell'=true
 |[],zs,h,_,z,hz=>by simp[q0m] at h;subst h;cases hz
 |x::l,zs,⟨y,r,e,h1,h2⟩,hs,z,hz=>by
  subst e;simp only[q7l,zd] at hs;rcases zo.1 hz with rfl|hz
  ·exact qlr h1 hs.1
  ·exact qdb h2 hs.2 z hz
theorem z3l:∀(p:Ty) (x:den p) (cs:List Value),relC imm w p x cs->q7l o (unC p x)=true->q0m φ o imm w (unC p x) cs:=by
 have one:∀(t:Ty) (x:den t) (cs:List Value),scal t=true->relC imm w t x cs->q0m φ o imm w [.d t x] cs:=by intro t x cs hs h;obtain⟨v,rfl,h2⟩:=qbq hs h;exact⟨v,[],rfl,h2,rfl⟩
 intro p
 induction p with
 |unit=>intro x cs h _;exact h
 |pair a b iha ihb=>intro x cs ⟨c,d,e,h1,h2⟩ hs;subst e;obtain⟨g1,g2⟩:=qbu (a:=unC a x.1) (b:=unC b x.2) hs;exact q5x (iha _ _ h1 g1) (ihb _ _ h2 g2)
 |st p ih=>intro x cs h hs;exact ih x cs h hs
 |arr n e _=>intro x cs h hs;simp[unC,q7l,qse,scal] at hs
 |int k=>intro x cs h _;exact one _ _ _ rfl h
 |bool=>intro x cs h _;exact one _ _ _ rfl h
 |flt=>intro x cs h _;exact one _ _ _ rfl h
 |cpx=>intro x cs h _;exact one _ _ _ rfl h
 |str=>intro x cs h _;exact one _ _ _ rfl h
 |sl e _=>intro x cs h _;exact one _ _ _ rfl h
 |ks q _=>intro x cs h _;exact one (.sl (q6v q)) (q83 q x) _ rfl ((qd2 q x cs).1 h)
theorem qat{x:V}{z:Value}{vs:List V}(hx:q03 φ o imm w x z)(h:qf9 o x=some vs):q0m φ o imm w vs z.cells.toList/\∀c,c∈z.cells.toList->c.oneCell'=true:=by
 unfold qf9 at h;split at h
 ·rename_i p y;cases hs:q7l o (unC p y) with
  |false=>rw[hs] at h;cases h
  |true=>rw[hs] at h;injection h with h;subst h;obtain⟨cs,rfl,h1⟩:=hx;have:=z3l (φ:=φ) (o:=o) p y _ h1 hs;exact⟨this,qdb this hs⟩
 ·rename_i cs;cases hs:q7l o cs with
  |false=>rw[hs] at h;cases h
  |true=>rw[hs] at h;injection h with h;subst h;obtain⟨c,rfl,h1⟩:=hx;exact⟨h1,qdb h1 hs⟩
 ·cases hs:qse o x with
  |false=>rw[hs] at h;cases h
  |true=>rw[hs] at h;injection h with h;subst h;have h1:=qlr hx hs;rw[qvn h1];exact⟨⟨z,[],rfl,hx,rfl⟩,fun c hc=>by simp at hc;subst hc;exact h1⟩
theorem qju:∀(ns:List (Nat×Obj)) (o':Nat->Obj) (id:Nat),(∀p,p∈ns->∃e,p.2=.vec e 0 false ⟨true,[]⟩)->id∈q0j ns->∃e,upds o' ns id=.vec e 0 false ⟨true,[]⟩:=by
 intro ns
 induction ns with
 |nil=>intro o' id _ h;cases h
 |cons p r ih=>
  obtain⟨i,y⟩:=p;intro o' id hc h;by_cases hr:id∈q0j r
  ·exact ih _ _ (fun p hp=>hc p (zh _ hp)) hr
  ·simp only[q0j,zo,hr,or_false] at h;subst h;show ∃e,upds (upd o' id y) r id=_;rw[q0u hr,q0h];exact hc _ (zf ..)
theorem qbv:∀{ns:List (Nat×Obj)} {p},p∈ns->p.1∈q0j ns
 |q::r,p,h=>by
  rcases zo.1 h with rfl|h
  ·exact zf ..
  ·exact zh _ (qbv h)
theorem q72:∀(cs:List V) (sl:List (Option Ty)) (i:Nat),(∀p,p∈(q2u i cs sl).2->(∃e,p.2=.vec e 0 false ⟨true,[]⟩)/\i<=p.1/\p.1<i+q2v cs)/\(∀zs,q0m φ o imm w cs zs->(∀y z,q03 φ o imm w y z->q03 φ' o' imm' w' y z)->(∀p,p∈(q2u i cs sl).2->∃e,o' p.1=.vec e 0 false ⟨true,[]⟩)->q0m φ' o' imm' w' (q2u i cs sl).1 zs):=by
 intro cs
 induction cs with
 |nil=>
  intro sl i;have e:q2u i [] sl=([],[]):=by cases sl<;>rfl
  rw[e];exact⟨(fun p hp=>by cases hp),fun zs h _ _=>h⟩
 |cons c cs ih=>
  intro sl i;cases sl with
  |nil=>
   have e:q2u i (c::cs) []=(c::cs,[]):=by cases c<;>rfl
   rw[e];exact⟨(fun p hp=>by cases hp),fun zs h hk _=>q6m hk _ _ h⟩
  |cons s sl=>
   have other:q2u i (c::cs) (s::sl)=(c::(q2u i cs sl).1,(q2u i cs sl).2)->(∀p,p∈(q2u i (c::cs) (s::sl)).2->(∃e,p.2=.vec e 0 false ⟨true,[]⟩)/\i<=p.1/\p.1<i+q2v (c::cs))/\
     (∀zs,q0m φ o imm w (c::cs) zs->(∀y z,q03 φ o imm w y z->q03 φ' o' imm' w' y z)->(∀p,p∈(q2u i (c::cs) (s::sl)).2->∃e,o' p.1=.vec e 0 false ⟨true,[]⟩)->
      q0m φ' o' imm' w' (q2u i (c::cs) (s::sl)).1 zs):=by
    intro e;rw[e];obtain⟨h1,h2⟩:=ih sl i;refine⟨fun p hp=>?_,fun zs ⟨z,r,e1,h3,h4⟩ hk ho=>⟨z,r,e1,hk _ _ h3,h2 _ h4 hk ho⟩⟩;obtain⟨g1,g2,g3⟩:=h1 p hp;refine⟨g1,g2,?_⟩;have:q2v cs<=q2v (c::cs):=by cases c<;>simp[q2v]
    omega
   cases c<;>try exact other rfl
   cases s with
   |none=>exact other rfl
   |some e=>
    obtain⟨h1,h2⟩:=ih sl (i+1);show(∀p,p∈((i,Obj.vec e 0 false ⟨true,[]⟩)::(q2u (i+1) cs sl).2)->_)/\_;refine⟨fun p hp=>?_,fun zs ⟨z,r,e1,h3,h4⟩ hk ho=>?_⟩
    ·rcases zo.1 hp with rfl|hp
     ·exact⟨⟨e,rfl⟩,Nat.le_refl _,by simp[q2v]⟩
     ·obtain⟨g1,g2,g3⟩:=h1 p hp;refine⟨g1,by omega,?_⟩;simp only[q2v];omega
    ·refine⟨z,r,e1,?_,h2 _ h4 hk fun p hp=>ho p (zh _ hp)⟩;obtain⟨e',hc⟩:=ho (i,.vec e 0 false ⟨true,[]⟩) (zf ..);unfold q03;simp only at hc;rw[hc];exact⟨Nat.le_refl _,fun _=>.inl ⟨rfl,h3⟩⟩
theorem qev(hC:CxOk C){t:TypeId}{e:Ty}(h:C.ty t=some e)(he:e=.int .u8):C.P.underlying t=some (.int .u8):=by
 subst he;obtain⟨d,h0,h1,h2⟩:=(hC.tab _ _ h).desc;clear h0;have hd:d=.int .u8:=by
  clear h1;cases d<;>simp only[q7e] at h2<;>try (cases h2;done)
  rename_i k;cases k<;>first|rfl|(simp[qak] at h2;done)
 rw[h1,hd]
theorem qe4{e:Ty}(h:qjb e=true)(he:e=.int .u8):False:=by subst he;cases h
theorem qol{cs vs:List V}{off:Nat}(h:q84 (qsf cs off vs)=true)(hv:q84 vs=false):q84 cs=true:=by
 unfold qsf at h;cases off with
 |zero=>
  cases vs with
  |nil=>simpa using h
  |cons v r=>rw[List.take_zero,List.nil_append] at h;cases v<;>first|(cases h;done)|(cases hv;done)
 |succ n=>
  cases cs with
  |nil=>cases vs with
   |nil=>simp[q84] at h
   |cons v r=>rw[List.take_nil,List.nil_append] at h;cases v<;>first|(cases h;done)|(cases hv;done)
  |cons c cs=>cases c<;>first|rfl|(cases h;done)
theorem ElKept.setRow{b:Nat}{c:Array Value}{el:TypeId}{fz:Nat×Nat}(h:w.heap[b]?=some (.cells c el fz)){cs:Array Value}(hs:cs.size=c.size):ElKept w (w.setRow b cs) b:=fun c0 el0 fz0 e=>by rw[h] at e;injection e with e;injection e with e1 e2 e3;subst e1 e2 e3;exact⟨cs,q71 h cs,hs⟩
theorem ElKept.ov{b:Nat}{c:Array Value}{el:TypeId}{fz:Nat×Nat}(h:w.heap[b]?=some (.cells c el fz)){off:Nat}{ds:List Value}(hb:off+ds.length<=c.size):ElKept w (w.setRow b (ov c.toList off ds).toArray) b:=.setRow h (by have:=qfp c.toList off ds (by simpa using hb);simpa using this)
theorem qbw(hm:MRel C X φ o w){id:Nat}{e:Ty}{v v':Nat}{f f':Bool}{s s':Sl (den e)}(ho:o id=.vec e v f s)(hn:s.nil=false)(hk:ElKept w w' (φ id).block):ElsAt C w' (φ id) (.vec e v' f' s'):=fun ht _=>by have:=hm.els id;rw[ho] at this;obtain⟨c,el,fz,h1,h2,h4⟩:=this ht hn;obtain⟨c',h3,h5⟩:=hk _ _ _ h1;exact⟨c',el,fz,h3,h2,by rw[h5];exact h4⟩
theorem z3m(hm:MRel C X φ o w){id:Nat}{cs cs':List V}(ho:o id=.box cs)(hs:q84 cs'=true->q84 cs=true)(hk:ElKept w w' (φ id).block):ElsAt C w' (φ id) (.box cs'):=fun h=>by have:=hm.els id;rw[ho] at this;obtain⟨c,el,fz,h1,h3⟩:=this (hs h);obtain⟨c',h2,h4⟩:=hk _ _ _ h1;exact⟨c',el,fz,h2,by rw[h4];exact h3⟩
theorem qls(hm:MRel C X φ o w){fr:Nat}{t el:TypeId}{cs:List V}{zs:Array Value}{v:V}{u:List (Nat×Obj)}(hr:q0m φ o (immB X φ o w) w cs zs.toList)(h:(qq5 C fr t cs).gives v u)(hf:q62 fr o u):Res C X φ o w v u (do pure (.pointer (some (<-newRow el zs)))):=by
 unfold qq5 at h;have main:∀(cs':List V) (ns:List (Nat×Obj)),(∀p,p∈ns->(∃e,p.2=.vec e 0 false ⟨true,[]⟩)/\fr+1<=p.1/\p.1<fr+16)->
   (∀(φ':Nat->Addr) (o':Nat->Obj) (imm':Nat->Prop) (w':World),(∀y z,q03 φ o (immB X φ o w) w y z->q03 φ' o' imm' w' y z)->(∀p,p∈ns->∃e,o' p.1=.vec e 0 false ⟨true,[]⟩)->q0m φ' o' imm' w' cs' zs.toList)->q84 cs'=false->
   q62 fr o ((fr,.box cs')::ns)->Res C X φ o w (.ptr fr 0) ((fr,.box cs')::ns) (do pure (.pointer (some (<-newRow el zs)))):=by
  intro cs' ns h1 h2 hs hf;refine⟨.pointer (some ⟨w.heap.size,0,none⟩),w.alloc (.cells zs el),upd φ fr ⟨w.heap.size,0,none⟩,by simp[newRow],?_⟩;have hc:o fr=.none:=hf _ (zf ..) (Nat.le_refl _) (by show fr<fr+16;omega);refine Comes.fresh hm (B:=.cells zs el) rfl (.box cs') (fun p hp=>?_) (fun _=>by rw[hc];trivial) (fun h3 h4 h5=>?_) (fun h=>by rw[hs] at h;cases h) (fun h3=>?_)
  ·obtain⟨g1,g2,g3⟩:=h1 p hp;exact⟨g1,by omega,hf p (zh _ hp) (by omega) g3⟩
  ·refine⟨by rw[q0h],zs,el,0,0,?_,Nat.le_refl _,h2 _ _ _ _ h5 fun p hp=>?_⟩
   ·rw[q0h];exact heap_alloc_new w _
   ·exact qju ns _ p.1 (fun q hq=>(h1 q hq).1) (qbv hp)
  ·unfold q03;rw[h3,q0h]
 cases hb:Nat.ble (q2v cs) 14 with
 |true=>
  rw[hb] at h;simp only[cond_true,q0a,q0b] at h;obtain⟨hs,rfl,rfl⟩:=h;have hs:q84 (q2u (fr+1) cs (q8x C 8 t)).1=false:=by simpa using hs
  have hb:=zA hb;refine main _ _ (fun p hp=>?_) (fun φ' o' imm' w' hk hn=>(q72 (φ':=φ') (o':=o') (imm':=imm') (w':=w') cs (q8x C 8 t) (fr+1)).2 _ hr hk hn) hs hf;obtain⟨g1,g2,g3⟩:=(q72 (φ:=φ) (o:=o) (imm:=immB X φ o w) (w:=w) (φ':=φ) (o':=o) (imm':=immB X φ o w) (w':=w) cs (q8x C 8 t) (fr+1)).1 p hp;exact⟨g1,g2,by omega⟩
 |false=>rw[hb] at h;simp only[cond_false,q0a,q0b] at h;obtain⟨hs,rfl,rfl⟩:=h;exact main cs [] (fun p hp=>by cases hp) (fun φ' o' imm' w' hk _=>q6m hk _ _ hr) (by simpa using hs) hf
theorem qvo(hm:MRel C X φ o w){fr:Nat}{cs:List V}{zs:Array Value}{v:V}{u:List (Nat×Obj)}(hr:q0m φ o (immB X φ o w) w cs zs.toList)(h:(quy fr cs).gives v u)(hf:q62 fr o u):Res C X φ o w v u (do pure (.pointer (some (<-newRow C.bld zs)))):=by
 unfold quy at h;split at h
 ·rw[q0b] at h;obtain⟨rfl,rfl⟩:=h;obtain⟨z1,r1,e1,a1,z2,r2,e2,a2,a3⟩:=hr;have a1:z1=.pointer none:=a1;have a2:z2=.slice none 0 0:=a2;have a3:r2=[]:=a3;subst e2 a1 a2 a3;refine⟨.pointer (some ⟨w.heap.size,0,none⟩),w.alloc (.cells zs C.bld),upd φ fr ⟨w.heap.size,0,none⟩,by simp[newRow],?_⟩;have he:o fr=.none:=hf _ (zf ..) (Nat.le_refl _) (by show fr<fr+16;omega);have hc:o (fr+1)=.none:=hf (fr+1,_) (zh _ (zf ..)) (by show fr<=fr+1;omega) (by show fr+1<fr+16;omega);have g0:upds o [(fr,Obj.box [.slf fr false,.osl (fr+1) 0]),(fr+1,.vec (.int .u8) 0 false ⟨true,[]⟩)] fr=.box [.slf fr false,.osl (fr+1) 0]:=by show upd (upd o fr _) (fr+1) _ fr=_;rw[q0n (by omega),q0h]
  have g1:upds o [(fr,Obj.box [.slf fr false,.osl (fr+1) 0]),(fr+1,.vec (.int .u8) 0 false ⟨true,[]⟩)] (fr+1)=.vec (.int .u8) 0 false ⟨true,[]⟩:=by show upd (upd o fr _) (fr+1) _ (fr+1)=_;rw[q0h]
  refine Comes.fresh hm (B:=.cells zs C.bld) rfl (.box [.slf fr false,.osl (fr+1) 0]) (fun p hp=>?_) (fun _=>by rw[he];trivial) (fun h3 h4 h5=>?_) (fun _=>⟨zs,C.bld,(0,0),heap_alloc_new w _,.inl ⟨rfl,by rw[<-Array.length_toList,e1];rfl⟩⟩) (fun h3=>?_)
  ·rw[zQ] at hp;subst hp;exact⟨⟨_,rfl⟩,by show fr+1≠fr;omega,hc⟩
  ·refine⟨by rw[q0h],zs,C.bld,0,0,?_,Nat.le_refl _,?_⟩
   ·rw[q0h];exact heap_alloc_new w _
   ·rw[e1];refine⟨_,_,rfl,?_,_,_,rfl,?_,rfl⟩
    ·unfold q03;rw[g0];rfl
    ·unfold q03;rw[g1];exact⟨Nat.le_refl _,fun _=>.inl ⟨rfl,rfl⟩⟩
  ·unfold q03;rw[h3,q0h]
 ·cases h
theorem qlt(hm:MRel C X φ o w){fr:Nat}{cs:List V}{zs:Array Value}{v:V}{u:List (Nat×Obj)}(hr:q0m φ o (immB X φ o w) w cs zs.toList)(h:(qq6 fr cs).gives v u)(hf:q62 fr o u):Res C X φ o w v u (do pure (.pointer (some (<-newRow C.pen zs)))):=by
 unfold qq6 at h;split at h
 ·rename_i s x t y;rw[q0a,q0b,zd] at h;obtain⟨⟨hg,hj⟩,rfl,rfl⟩:=h;obtain⟨z1,r1,e1,a1,z2,r2,e2,a2,z3,r3,e3,a3,z4,r4,e4,a4,a5⟩:=hr;have a1:z1=.pointer none:=a1;have a2:z2=.slice none 0 0:=a2;have a5:r4=[]:=a5;have b3:relV (immB X φ o w) w s x z3:=a3;have b4:relV (immB X φ o w) w t y z4:=a4;subst e2 e3 e4 a1 a2 a5;refine⟨.pointer (some ⟨w.heap.size,0,none⟩),w.alloc (.cells zs C.pen),upd φ fr ⟨w.heap.size,0,none⟩,by simp[newRow],?_⟩;have he:o fr=.none:=hf _ (zf ..) (Nat.le_refl _) (by show fr<fr+16;omega);have hc:o (fr+1)=.none:=hf (fr+1,_) (zh _ (zf ..)) (by show fr<=fr+1;omega) (by show fr+1<fr+16;omega);have g0:upds o [(fr,Obj.box [.slf fr false,.osl (fr+1) 0,.d s x,.d t y]),(fr+1,.vec (.int .u8) 0 false ⟨true,[]⟩)] fr=.box [.slf fr false,.osl (fr+1) 0,.d s x,.d t y]:=by show upd (upd o fr _) (fr+1) _ fr=_;rw[q0n (by omega),q0h]
  have g1:upds o [(fr,Obj.box [.slf fr false,.osl (fr+1) 0,.d s x,.d t y]),(fr+1,.vec (.int .u8) 0 false ⟨true,[]⟩)] (fr+1)=.vec (.int .u8) 0 false ⟨true,[]⟩:=by show upd (upd o fr _) (fr+1) _ (fr+1)=_;rw[q0h]
  refine Comes.fresh hm (B:=.cells zs C.pen) rfl (.box [.slf fr false,.osl (fr+1) 0,.d s x,.d t y]) (fun p hp=>?_) (fun _=>by rw[he];trivial) (fun h3 h4 h5=>?_) (fun _=>⟨zs,C.pen,(0,0),heap_alloc_new w _,.inr ⟨rfl,by rw[<-Array.length_toList,e1];rfl⟩⟩) (fun h3=>?_)
  ·rw[zQ] at hp;subst hp;exact⟨⟨_,rfl⟩,by show fr+1≠fr;omega,hc⟩
  ·refine⟨by rw[q0h],zs,C.pen,0,0,?_,Nat.le_refl _,?_⟩
   ·rw[q0h];exact heap_alloc_new w _
   ·rw[e1];refine⟨_,_,rfl,?_,_,_,rfl,?_,_,_,rfl,?_,_,_,rfl,?_,rfl⟩
    ·unfold q03;rw[g0];rfl
    ·unfold q03;rw[g1];exact⟨Nat.le_refl _,fun _=>.inl ⟨rfl,rfl⟩⟩
    ·exact h5 _ _ a3
    ·exact h5 _ _ a4
  ·unfold q03;rw[h3,q0h]
 ·cases h
theorem qau(hm:MRel C X φ o w){fr ver cap lo hi:Nat}{e:Ty}{l:List (den e)}{c:Array Value}{el:TypeId}{w':World}{ec rest:List Value}(hg:w'.heap=w.heap.push (.cells c el (lo,hi)))(hk:∀w',Up w w' (φ fr) ⟨w.heap.size,0,none⟩ (o fr) (.vec e ver false ⟨false,l⟩))(hc:c.toList=ec++rest)(hr:relR (relC (immB X φ o w) w e) l ec)(he:c.size=cap*csz e)(hj:l.length<=cap)(hl:l.length<=maxL)(ho:lo=hi\/c.size<=lo)(hq:e=.int .u8->C.P.underlying el=some (.int .u8))(still:qd4 w w':=by exact⟨rfl,rfl⟩):
  Comes C X φ (upd φ fr ⟨w.heap.size,0,none⟩) o [(fr,.vec e ver false ⟨false,l⟩)] w w' (.osl fr ver) (.slice (some ⟨w.heap.size,0,none⟩) l.length cap)/\
  Comes C X φ (upd φ fr ⟨w.heap.size,0,none⟩) o [(fr,.vec e ver false ⟨false,l⟩)] w w' (.ptr fr 0) (.pointer (some ⟨w.heap.size,0,none⟩)):=by
 have hh:w'.heap[w.heap.size]?=some (.cells c el (lo,hi)):=by rw[hg];simp
 have hf:∀n,n<=c.size->room w' ⟨w.heap.size,0,none⟩ n:=fun n hn=>⟨c,el,lo,hi,hh,by simpa using hn,by simp only[zE];omega⟩;have hs:=q20 hr;have hu:l.length*csz e<=c.size:=by rw[he];exact Nat.mul_le_mul_right _ hj
 have both:∀v z,(upds o [(fr,Obj.vec e ver false ⟨false,l⟩)] fr=.vec e ver false ⟨false,l⟩->q03 (upd φ fr ⟨w.heap.size,0,none⟩) (upds o [(fr,.vec e ver false ⟨false,l⟩)]) (immB X (upd φ fr ⟨w.heap.size,0,none⟩) (upds o [(fr,.vec e ver false ⟨false,l⟩)]) w') w' v z)->
   Comes C X φ (upd φ fr ⟨w.heap.size,0,none⟩) o [(fr,.vec e ver false ⟨false,l⟩)] w w' v z:=by
  intro v z hv;refine Comes.fresh hm hg (.vec e ver false ⟨false,l⟩) (ns:=[]) (fun p hp=>by cases hp) hk (fun h3 h4 h5=>?_) (fun ht _=>⟨c,el,(lo,hi),hh,hq ht,ho⟩) hv still;refine⟨hl,by simp,fun _=>.inl ⟨by rw[q0h],ec,q1d (q0k h3 h4 e) hr,?_,?_,fun _=>?_,by simp⟩⟩
  ·rw[q0h];have:=q50 hh 0 ec.length;rw[List.drop_zero,hc,List.take_left'] at this
   ·exact this
   ·rfl
  ·rw[q0h];exact hf 0 (Nat.zero_le _)
  ·rw[q0h];exact hf _ hu
 refine⟨both _ _ fun h3=>?_,both _ _ fun h3=>?_⟩
 ·unfold q03;rw[h3,q0h];exact⟨Nat.le_refl _,fun _=>.inr ⟨rfl,cap,rfl,hj,fun h=>by simp at h,fun _ _=>hf _ (by rw[he];exact Nat.le_refl _)⟩⟩
 ·unfold q03;rw[h3,q0h];exact fun _=>rfl
theorem q93:∀(zs:List Value),q0m φ o imm w (zs.map cst) zs
 |[]=>rfl
 |z::zs=>⟨z,zs,rfl,qd5 z,q93 zs⟩
theorem qi1{t:TypeId}{cs:List V}(h:qzq C t=some cs):∃i z,C.P.info? t=some i/\i.zero=some z/\cs=z.cells.toList.map cst:=by
 unfold qzq at h;split at h
 ·rename_i i e;split at h
  ·rename_i z hz;exact⟨i,z,qfl e,hz,(zF h).symm⟩
  ·cases h
 ·cases h
theorem qdc{fr:Nat}{a:Addr}{x:Obj}(h:o fr=.none):∀w',Up w w' (φ fr) a (o fr) x:=fun _=>by rw[h];trivial
theorem qsq(hC:CxOk C)(hm:MRel C X φ o w){fr:Nat}{t:TypeId}{v:V}{u:List (Nat×Obj)}(h:(qo8 C fr t).gives v u)(hf:q62 fr o u)(old:Value):Res C X φ o w v u (Instr.alloc t true old):=by
 unfold qo8 at h;split at h
 ·rename_i n e he;rw[q0a,q0b,zd,zd] at h;obtain⟨⟨⟨h1,hj⟩,hk⟩,rfl,rfl⟩:=h;have hl:o fr=.none:=hf _ (zf ..) (Nat.le_refl _) (by show fr<fr+16;omega);have hT:=hC.tab _ _ he;obtain⟨i,z,k1,_,k2,k3,k4,k5,k6⟩:=hT.info;have hz:=k6 (immB X φ o w) w;obtain⟨hn,hg⟩:=hz;have hc:=q20 hg;refine⟨.pointer (some ⟨w.heap.size,0,none⟩),w.alloc (.cells z.cells t),_,by simp[Instr.alloc,q1j k1 k4,newVar,newRow],
   (qau hm (c:=z.cells) (el:=t) (lo:=0) (hi:=0) (cap:=n) (ec:=z.cells.toList) (rest:=[]) rfl (qdc hl) (by simp) ?_ ?_ (by simp) ?_ (.inl rfl) (fun he=>(qe4 hk he).elim)).2⟩
  ·simpa[zero] using hg
  ·have e1:List.length (zero (.arr n e))=n:=hn;rw[e1] at hc;simpa using hc
  ·have:=zA hj;simp;unfold maxL;omega
 ·split at h
  ·rename_i cs ho;obtain⟨i,z,k1,k2,rfl⟩:=qi1 ho;cases hb:Nat.beq t C.bld with
   |false=>
    rw[hb,cond_false] at h;cases hp:Nat.beq t C.pen with
    |true=>rw[hp,cond_true] at h;have hp:=zg hp;obtain⟨val,w',φ',g1,g2⟩:=qlt hm (zs:=z.cells) (q93 _) h hf;refine⟨val,w',φ',?_,g2⟩;rw[<-g1,<-hp];simp[Instr.alloc,q1j k1 k2,newVar]
    |false=>rw[hp,cond_false] at h;obtain⟨val,w',φ',g1,g2⟩:=qls hm (el:=t) (zs:=z.cells) (q93 _) h hf;refine⟨val,w',φ',?_,g2⟩;rw[<-g1];simp[Instr.alloc,q1j k1 k2,newVar]
   |true=>rw[hb,cond_true] at h;have hb:=zg hb;obtain⟨val,w',φ',g1,g2⟩:=qvo hm (zs:=z.cells) (q93 _) h hf;refine⟨val,w',φ',?_,g2⟩;rw[<-g1,<-hb];simp[Instr.alloc,q1j k1 k2,newVar]
  ·cases h
theorem z09(hm:MRel C X φ o w){fr:Nat}{t:TypeId}{x:V}{z:Value}{v:V}{u:List (Nat×Obj)}(hx:q03 φ o (immB X φ o w) w x z)(h:(z36 C o fr t x).gives v u)(hf:q62 fr o u):Res C X φ o w v u (Instr.box t z):=by
 unfold z36 at h;split at h
 ·rename_i n e l;rw[q0a,q0b,zd,zd] at h;obtain⟨⟨⟨h1,hg⟩,hj⟩,rfl,rfl⟩:=h;have hk:o fr=.none:=hf _ (zf ..) (Nat.le_refl _) (by show fr<fr+16;omega);obtain⟨cs,rfl,hl,hr⟩:=hx;have hl:List.length l=n:=hl;have hc:=q20 hr;refine⟨.pointer (some ⟨w.heap.size,0,none⟩),w.alloc (.cells cs t),_,by simp[Instr.box,newVar,newRow,Value.cells],
   (qau hm (c:=cs) (el:=t) (lo:=0) (hi:=0) (cap:=n) (ec:=cs.toList) (rest:=[]) rfl (qdc hk) (by simp) hr ?_ ?_ ?_ (.inl rfl) (fun he=>(qe4 hj he).elim)).2⟩
  ·rw[hl] at hc;simpa using hc
  ·omega
  ·have:=zA hg;unfold maxL;omega
 ·split at h
  ·rename_i cs hn;obtain⟨g1,g2⟩:=qat hx hn;cases hp:Nat.beq t C.pen with
   |true=>rw[hp,cond_true] at h;have hp:=zg hp;subst hp;exact qlt hm (zs:=z.cells) g1 h hf
   |false=>rw[hp,cond_false] at h;exact qls hm (el:=t) (zs:=z.cells) g1 h hf
  ·cases h
end
end Ev