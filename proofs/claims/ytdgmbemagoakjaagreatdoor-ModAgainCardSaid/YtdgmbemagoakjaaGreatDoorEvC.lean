/- Operations are sound: reading, fields, indices, slices, boxes. -/
import Derived.Test.YtdgmbemagoakjaaGreatDoorEvB
import Derived.Laws.AppendOwn
import Derived.Laws.CopyRow
import Derived.Laws.MakeOwn
import Derived.Laws.BytesString
import Derived.Laws.IdiomCopy
import Derived.Laws.IdiomStrings
namespace Ev
open Go
variable{α:Type}{c zs:Array Value}{k:IntKind}{u:List (Nat×Obj)}{ks:List Nat}{cs vs:List V}{ds ec:List Value}{b f fr j m n off:Nat}{fz:Nat×Nat}{o':Nat→Obj}{imm':Nat→Prop}{hi:Option Value}{T e:Ty}{d:TypeDesc}{el t:TypeId}{i:TypeInfo}{v x:V}{z zi zx:Value}{w':World}
theorem gq{f:Nat->α}{i:Nat}{x:α}:dR f i x i=x:=by simp[dR]
theorem nJ{f:Nat->α}{i:Nat}{x:α}(h:j≠i):dR f i x j=f j:=by
 unfold dR;have:Nat.beq j i=false:=by
  cases e:Nat.beq j i with
  |false=>rfl
  |true=>exact absurd (zo e) h
 rw[this];rfl
theorem iR:∀{u:List (Nat×Obj)} {o:Nat->Obj} {id:Nat},id∉bU u->aj o u id=o id
 |[],_,_,_=>rfl
 |(i,x)::r,o,id,h=>by simp[bU,List.mem_cons,not_or] at h;show aj (dR o i x) r id=_;rw[iR h.2,nJ h.1]
theorem qmc:∀(u u':List (Nat×α)) (o:Nat->α),aj o (u++u')=aj (aj o u) u'
 |[],_,_=>rfl
 |(i,x)::r,u',o=>qmc r u' (dR o i x)
theorem P4:∀(u u':List (Nat×Obj)),bU (u++u')=bU u++bU u'
 |[],_=>rfl
 |(i,x)::r,u'=>by simp[bU,P4 r u']
theorem Up.trans{w Oi:World}{a a' a'':Addr}{x y z:Obj}(h:Up w w' a a' x y)(h':Up w' Oi a' a'' y z):Up w Oi a a'' x z:=by
 cases x with
 |none=>trivial
 |dead=>cases y<;>simp[Up] at h<;>cases z<;>simp only[Up] at h' ⊢
 |box cs=>cases y<;>simp[Up] at h<;>cases z<;>simp only[Up] at h' ⊢;rw[h',h]
 |iter s p=>cases y<;>simp[Up] at h<;>cases z<;>simp only[Up] at h' ⊢;rw[h',h]
 |vec t ver fr s=>
  cases y<;>simp[Up] at h<;>cases z<;>simp only[Up] at h' ⊢;rcases h with h|⟨h1,h2,h3,h4,h5,h6⟩<;>rcases h' with h'|⟨g1,g2,g3,g4,g5,g6⟩
  ·exact .inl om
  ·exact .inl om
  ·exact .inl om
  ·refine .inr ⟨by omega,h2.trans g2,h3.trans g3,h4.trans g4,g5.trans h5,fun hf=>?_⟩;have⟨g7,g8⟩:=g6 hf;have⟨h7,h8⟩:=h6 g7;refine⟨h7,fun hn hs n hr=>?_⟩;have:=g8 (h3▸hn) (by rw[h5];exact hs) n (by rw[h5];exact h8 hn hs n hr);rw[h5] at this;exact this
section
variable {C:Cx} {X:Nat→Prop} {φ φ' iz:Nat→Addr} {o:Nat→Obj} {w w' Oi:World} {u u':List (Nat×Obj)} {v v':V} {z z':Value}
theorem EB{imm:Nat->Prop}(h:∀x z,au φ o imm w x z->au φ' o' imm' w' x z):∀(l:List V) (zs:List Value),cu φ o imm w l zs->cu φ' o' imm' w' l zs
 |[],_,h1=>h1
 |_::l,_,⟨a,r,h1,h2,h3⟩=>⟨a,r,h1,h _ _ h2,EB h l _ h3⟩
theorem Iw{imm:Nat->Prop}(hi:∀b,imm b->imm' b)(hw:∀b,imm b->w'.heap[b]?=w.heap[b]?)(hk:∀x z,au φ o imm w x z->au φ' o' imm' w' x z){id:Nat}{x:Obj}(hp:φ' id=φ id)(hb:aV (φ id) x=true->w'.heap[(φ id).block]?=w.heap[(φ id).block]?)(h:rS φ o imm w id x):rS φ' o' imm' w' id x:=by
 cases x with
 |dead=>trivial
 |none=>trivial
 |box cs=>have⟨h1,c,el,lo,he,h2,h3,h4⟩:=h;refine⟨by rw[hp];exact h1,c,el,lo,he,?_,h3,EB hk _ _ h4⟩;rw[hp,hb rfl,h2]
 |iter l p=>have⟨s,n,h1,h2,h3,h4⟩:=h;exact⟨s,n,by rw[hp,hb rfl,h1],h2,h3,h4⟩
 |vec t ver fr s=>
  have⟨h1,h2,h3⟩:=h;refine⟨h1,h2,fun hn=>?_⟩;rw[hp];refine(h3 hn).imp (fun⟨h4,ec,h5,h6,h7,h8,h9⟩=>?_) fun g=>g;have hc:w'.heap[(φ id).block]?=w.heap[(φ id).block]?:=by
   cases fr with
   |false=>exact hb (uZ hn h4)
   |true=>exact hw _ (h9 rfl)
  exact⟨h4,ec,rq (j9 hi hw t) h5,Oa hc h6,Ez hc h7,fun hf=>Ez hc (h8 hf),fun hf=>hi _ (h9 hf)⟩
theorem MRel.EC(hm:MRel C X φ o w){id:Nat}(hx:aV (φ id) (o id)=true)(hk:id∉ks):¬hit ks φ o (φ id).block:=fun⟨j,h1,h2,h3⟩=>hk (hm.inj j id h2 hx h3▸h1)
theorem Comes.make(hm:MRel C X φ o w)(size:w.heap.size<=w'.heap.size)(frame:∀b,b<w.heap.size->¬hit (bU u) φ o b->w'.heap[b]?=w.heap[b]?)(xL:∀id,id∉bU u->φ' id=φ id)(aab:∀id,o id≠.none->id∉bU u->φ' id=φ id)(up:∀id,id∈bU u->Up w w' (φ id) (φ' id) (o id) (aj o u id))(place:∀id,id∈bU u->aV (φ' id) (aj o u id)=true->(w.heap.size<=(φ' id).block/\(φ' id).block<w'.heap.size)\/(aV (φ id) (o id)=true/\(φ' id).block=(φ id).block))(apart:∀i j,i∈bU u->j∈bU u->aV (φ' i) (aj o u i)=true->aV (φ' j) (aj o u j)=true->w.heap.size<=(φ' i).block->(φ' i).block=(φ' j).block->i=j)(obj:(∀b,ag X φ o w b->ag X φ' (aj o u) w' b)->(∀b,ag X φ o w b->w'.heap[b]?=w.heap[b]?)->(∀x z,au φ o (ag X φ o w) w x z->au φ' (aj o u) (ag X φ' (aj o u) w') w' x z)->∀id,id∈bU u->rS φ' (aj o u) (ag X φ' (aj o u) w') w' id (aj o u id))(uA:∀id,id∈bU u->iQ C w' (φ' id) (aj o u id))(val:(∀b,ag X φ o w b->ag X φ' (aj o u) w' b)->(∀b,ag X φ o w b->w'.heap[b]?=w.heap[b]?)->(∀x z,au φ o (ag X φ o w) w x z->au φ' (aj o u) (ag X φ' (aj o u) w') w' x z)->au φ' (aj o u) (ag X φ' (aj o u) w') w' v z)(still:Bu w w':=by exact⟨rfl,rfl⟩):Comes C X φ φ' o u w w' v z:=by
 have bl:∀id,id∉bU u->aV (φ id) (o id)=true->w'.heap[(φ id).block]?=w.heap[(φ id).block]?:=fun id hk hx=>frame _ (hm.sep id hx).1 (hm.EC hx hk);have stays:∀b,ag X φ o w b->w'.heap[b]?=w.heap[b]?:=fun b hb=>frame b hb.1 fun⟨id,_,e1,e2⟩=>hb.2.2 ⟨id,e1,e2⟩;have GR:∀id,Up w w' (φ id) (φ' id) (o id) (aj o u id):=fun id=>by
  by_cases hk:id∈bU u
  ·exact up id hk
  ·rw[xL id hk,iR hk];exact Up.same fun hx n hr=>Ez (bl id hk hx) hr
 have news:∀id,aV (φ' id) (aj o u id)=true->w.heap.size<=(φ' id).block\/qd φ o (φ' id).block:=fun id hx=>by
  by_cases hk:id∈bU u
  ·rcases place id hk hx with h|⟨h,e⟩
   ·exact .inl h.1
   ·exact .inr ⟨id,h,e.symm⟩
  ·rw[iR hk,xL id hk] at hx;exact .inr ⟨id,hx,by rw[xL id hk]⟩
 have imm:∀b,ag X φ o w b->ag X φ' (aj o u) w' b:=fun b ⟨h1,h2,h3⟩=>
  ⟨jo h1 size,h2,fun⟨id,e1,e2⟩=>by
   rcases news id e1 with e3|e3
   ·omega
   ·exact h3 (e2▸e3)⟩
 have keeps:∀x z,au φ o (ag X φ o w) w x z->au φ' (aj o u) (ag X φ' (aj o u) w') w' x z:=fun x z h=>Bs imm stays GR x z h;have pl:∀id,aV (φ' id) (aj o u id)=true->(w.heap.size<=(φ' id).block/\(φ' id).block<w'.heap.size)\/(aV (φ id) (o id)=true/\(φ' id).block=(φ id).block):=fun id hx=>by
  by_cases hk:id∈bU u
  ·exact place id hk hx
  ·rw[iR hk] at hx
   grind
 refine⟨⟨fun id=>?_,fun i j hi hj e=>?_,fun i hi=>?_,fun b hb=>jo (hm.xs b hb) size,fun id=>?_,fun g t x hg=>keeps _ _ (hm.fT g t x hg),hm.rT stays⟩,val imm stays keeps,GR,size,frame,aab,news,still⟩
 ·by_cases hk:id∈bU u
  ·grind
  ·rw[iR hk];exact Iw imm stays keeps (xL id hk) (bl id hk) (hm.ar id)
 ·rcases pl i hi with hc|hc<;>rcases pl j hj with he|he
  ·by_cases ki:i∈bU u
   ·by_cases kj:j∈bU u
    ·grind
    ·rw[iR kj] at hj
     grind
   ·rw[iR ki] at hi
    grind
  ·have:=(hm.sep j he.1).1;omega
  ·have:=(hm.sep i hc.1).1;omega
  ·exact hm.inj i j hc.1 he.1 (by rw[<-hc.2,<-he.2,e])
 ·rcases pl i hi with hc|hc
  ·exact⟨hc.2,fun hx=>by have:=hm.xs _ hx;omega⟩
  ·obtain⟨h1,h2⟩:=hm.sep i hc.1
   grind
 ·by_cases hk:id∈bU u
  ·exact uA id hk
  ·rw[xL id hk,iR hk];refine(hm.uA id).bD (fun hx=>.same (bl id hk hx)) (fun ver s e hn=>.same ?_) (hm.PN id);have ho:=hm.ar id;rw[e] at ho;have⟨_,_,ho⟩:=ho
   grind
theorem Comes.trans(h:Comes C X φ φ' o u w w' v z)(h':Comes C X φ' iz (aj o u) u' w' Oi v' z'):Comes C X φ iz o (u++u') w Oi v' z':=by
 have e:aj o (u++u')=aj (aj o u) u':=qmc _ _ _;refine⟨by rw[e];exact h'.mem,by rw[e];exact h'.val,fun id=>by rw[e];exact(h.up id).trans (h'.up id),je h.size h'.size,fun b hb hh=>?_,fun id hn hk=>?_,fun id hx=>?_,⟨h'.still.1.trans h.still.1,h'.still.2.trans h.still.2⟩⟩
 ·rw[h'.frame b (jo hb h.size),h.frame b hb]
  ·rintro⟨id,h1,h2,h3⟩;exact hh ⟨id,by rw[P4];exact zN _ h1,h2,h3⟩
  ·rintro⟨id,h1,h2,h3⟩;by_cases hk:id∈bU u
   ·rcases h.news id h2 with h4|⟨j,h4,h5⟩
    ·omega
    ·by_cases hj:j∈bU u
     ·exact hh ⟨j,by rw[P4];exact zN _ hj,h4,by rw[h5,h3]⟩
     ·have hc:o j≠.none:=by intro e2;rw[e2] at h4;simp[aV,live] at h4
      have:=h.mem.inj id j h2 (by rw[iR hj,h.xL j hc hj];exact h4) (by rw[h.xL j hc hj,h5]);exact hj (this▸hk)
   ·rw[iR hk] at h2;have hc:o id≠.none:=by intro e2;rw[e2] at h2;simp[aV,live] at h2
    rw[h.xL id hc hk] at h3 h2;exact hh ⟨id,by rw[P4];exact zG _ h1,h2,h3⟩
 ·rw[P4,zD,not_or] at hk;rw[h'.xL id (by rw[iR hk.1];exact hn) hk.2,h.xL id hn hk.1]
 ·rw[e] at hx;rcases h'.news id hx with h1|⟨j,h1,h2⟩
  ·exact .inl (je h.size h1)
  ·rcases h.news j h1 with h3|h3
   all_goals grind
theorem Dv:∀{ks:List Nat} {id:Nat},id∈bU (eY o ks)->∃t ver fr s,o id=.vec t ver fr s/\∀o',aj o' (eY o ks) id=.vec t ver true s
 |[],id,h=>by cases h
 |k::r,id,h=>by
  have:eY o (k::r)=eY o r\/∃t ver fr s,o k=.vec t ver fr s/\eY o (k::r)=(k,.vec t ver true s)::eY o r:=by
   simp only[eY];cases e:o k with
   |vec t ver fr s=>exact .inr ⟨t,ver,fr,s,rfl,rfl⟩
   |_=>exact .inl rfl
  rcases this with e|⟨t,ver,fr,s,e1,e2⟩
  ·rw[e] at h ⊢;exact Dv h
  ·rw[e2] at h ⊢;by_cases hk:id∈bU (eY o r)
   ·have⟨t',aA,GP,s',h1,h2⟩:=Dv hk;exact⟨t',aA,GP,s',h1,fun o'=>h2 _⟩
   ·simp[bU,List.mem_cons,hk,or_false] at h;subst h;exact⟨t,ver,fr,s,e1,fun o'=>by show aj (dR o' id _) (eY o r) id=_;rw[iR hk,gq]⟩
theorem qx9:∀{ks:List Nat} {id:Nat},id∈ks->∀{t ver fr s},o id=.vec t ver fr s->id∈bU (eY o ks)
 |k::r,id,h,t,ver,fr,s,e=>by
  rcases zA.1 h with h|h
  ·subst h;simp[eY,e,bU]
  ·have:=qx9 h e;simp[eY];split
   ·exact zf _ this
   ·exact this
theorem P5(hm:MRel C X φ o w)(ks:List Nat):Comes C X φ φ o (eY o ks) w w .undef undef:=by
 refine Comes.make hm (zm _) (fun _ _ _=>rfl) (fun _ _=>rfl) (fun _ _ _=>rfl) (fun id hk=>?_) (fun id hk hx=>?_) (fun i j hi _ hx=>?_) (fun hi hw hg id hk=>?_) (fun id hk=>by have⟨t,ver,fr,s,h1,h2⟩:=Dv hk;have:=hm.uA id;rw[h1] at this;rw[h2 o];exact this) (fun _ _ _=>rfl)
 ·have⟨t,ver,fr,s,h1,h2⟩:=Dv hk;rw[h1,h2 o];exact .inr ⟨rfl,rfl,rfl,rfl,rfl,by simp⟩
 ·obtain⟨t,ver,fr,s,h1,h2⟩:=Dv hk;rw[h2 o] at hx;have:=(Ey hx).2.1;simp at this
 ·have⟨t,ver,fr,s,h1,h2⟩:=Dv hi;rw[h2 o] at hx;have:=(Ey hx).2.1;simp at this
 ·have⟨t,ver,fr,s,h1,h2⟩:=Dv hk;have ho:=hm.ar id;rw[h2 o];rw[h1] at ho;have⟨h3,h4,h5⟩:=ho;refine⟨h3,h4,fun hn=>(h5 hn).imp (fun⟨h6,ec,h7,h8,h9,hl,hc⟩=>?_) fun g=>g⟩;refine⟨h6,ec,rq (j9 hi hw t) h7,h8,h9,by simp,fun _=>?_⟩;cases hf:fr with
  |true=>exact hi _ (hc hf)
  |false=>
   have hx:aV (φ id) (o id)=true:=by rw[h1,hf];exact uZ hn h6
   have⟨g1,g2⟩:=hm.sep id hx;refine⟨g1,g2,fun⟨j,e1,e2⟩=>?_⟩;by_cases hj:j∈bU (eY o ks)
   ·have⟨t',aA,GP,s',_,he⟩:=Dv hj;rw[he o] at e1;have:=(Ey e1).2.1;simp at this
   ·rw[iR hj] at e1;have:=hm.inj j id e1 hx e2;subst this;exact hj hk
end
theorem Bv{t t':Ty}{x:den t'}{y:den t}(h:iO t t' x=some y):∃e:t'=t,y=e▸x:=by
 unfold iO at h;split at h
 all_goals grind
section
variable {C:Cx} {X:Nat→Prop} {φ:Nat→Addr} {o:Nat→Obj} {w:World} {imm:Nat→Prop}
theorem qtr{t:Ty}{d:den t}(h:ri lf o t x=some d):x=.d t d\/(∃e,∃ht:.sl e=t,∃s:Sl (den e),Em lf o x=some ⟨e,s⟩/\d=ht▸s)\/(∃e,∃ht:.sl e=t,x=.fS/\d=ht▸(⟨true,[]⟩:Sl (den e))):=by
 cases x<;>simp[ri] at h<;>try (cases h;done)
 ·obtain⟨rfl,rfl⟩:=Bv h;exact .inl rfl
 ·rename_i id ver;cases e1:o id<;>rw[e1] at h<;>simp at h<;>try (cases h;done)
  rename_i e aA fr s;cases hb:Nat.beq ver aA<;>rw[hb] at h
  ·cases h
  ·have⟨ht,hd⟩:=Bv h;exact .inr (.inl ⟨e,ht,s,by simp[Em,e1,hb],hd⟩)
 ·rename_i id ver n cp;cases e1:o id<;>rw[e1] at h<;>simp at h<;>try (cases h;done)
  rename_i e aA fr s;cases hb:Nat.beq ver aA<;>rw[hb] at h
  ·cases h
  ·have⟨ht,hd⟩:=Bv h;exact .inr (.inl ⟨e,ht,_,by simp[Em,e1,hb],hd⟩)
 ·split at h
  all_goals grind
 ·rename_i id ver lo;cases e1:o id<;>rw[e1] at h<;>simp at h<;>try (cases h;done)
  rename_i e aA fr s;cases hb:Nat.beq ver aA<;>rw[hb] at h
  ·cases h
  ·have⟨ht,hd⟩:=Bv h;exact .inr (.inl ⟨e,ht,_,by simp[Em,e1,hb],hd⟩)
def Ix(o:Nat->Obj)(x:V):Prop:=∀id,id∈ig o x->∀t ver fr s,o id≠.vec t ver fr s
theorem zj2{s:Sl (den e)}(h:au φ o imm w (.d (.sl e) s) z):zj0 imm w e s z:=by have⟨h1,h2⟩:=GQ h;exact⟨h1,h2.imp id fun⟨h3,a,cap,ec,h4,h5,_,h7,h8,h9⟩=>⟨h3,a,cap,ec,h4,h5,h7,h8,h9⟩⟩
theorem qts{s:Sl (den e)}(hl:∀id,rS φ o imm w id (o id))(hx:au φ o imm w x z)(h:ri lf o (.sl e) x=some s):zj0 imm w e s z:=by
 rcases qtr h with rfl|⟨e',ht,s',h1,h2⟩|⟨e',ht,rfl,h2⟩
 ·exact zj2 hx
 ·injection ht with ht;subst ht;subst h2;exact(VF hl hx h1).1
 ·injection ht with ht;subst ht;subst h2;exact⟨zC _,.inl ⟨rfl,rfl,hx⟩⟩
section
variable {imm':Nat→Prop}
def xM(φ:Nat->Addr)(o:Nat->Obj)(imm':Nat->Prop)(x:V):Prop:=∀id,id∈ig o x->∀t ver s,o id=.vec t ver false s->s.nil=false->(φ id).spot=none->imm' (φ id).block
theorem qrl(hl:∀id,rS φ o imm w id (o id))(hi:∀b,imm b->imm' b){t:Ty}{d:den t}(hx:au φ o imm w x z)(hf:xM φ o imm' x)(h:ri lf o t x=some d):dS imm' w t d z:=by
 rcases qtr h with rfl|⟨e',ht,s',h1,h2⟩|⟨e',ht,rfl,h2⟩
 ·exact qm5 hi (fun _ _=>rfl) _ _ _ hx
 ·subst ht;subst h2;have⟨⟨g1,g2⟩,id,ver,fr,s0,g3,g4,g5,g6,g8⟩:=VF hl hx h1;refine⟨z,rfl,g1,?_⟩;rcases g2 with g2|⟨hn,a,cap,ec,h5,h6,h7,h8,h9⟩
  ·exact .inl g2
  ·refine .inr ⟨hn,a,cap,ec,h5,h6,fun hc=>?_,rq (j9 hi (fun _ _=>rfl) _) h7,h8,h9⟩;have ho:=hl id;rw[g3] at ho;have⟨_,_,ho⟩:=ho
   grind [xM]
 ·subst ht;subst h2;exact⟨z,rfl,zC _,.inl ⟨rfl,rfl,hx⟩⟩
theorem qme(h:Ix o x):xM φ o imm' x:=fun id hi _ _ _ e=>absurd e (h id hi _ _ _ _)
theorem zj3(hm:MRel C X φ o w){t:Ty}{d:den t}(hx:au φ o (ag X φ o w) w x z)(hf:Ix o x)(h:ri lf o t x=some d):dS (ag X φ o w) w t d z:=qrl hm.ar (fun _ h=>h) hx (qme hf) h
end
theorem z5i(ho:∀id,o' id=o id\/∃t ver s,o' id=.vec t ver true s):∀(x:V) (id:Nat),id∈ig o' x->(∃t ver s,o' id=.vec t ver false s)->id∈ig o x:=by
 intro x;have key:∀rZ id,(id∈(match o' rZ with|.vec _ _ true _=>[]|_=>[rZ]))->(∃t ver s,o' id=.vec t ver false s)->id∈(match o rZ with|.vec _ _ true _=>[]|_=>[rZ]):=by grind
 refine V.rec (motive_1:=fun x=>∀id,id∈ig o' x->(∃t ver s,o' id=.vec t ver false s)->id∈ig o x)
  (motive_2:=fun l=>∀id,id∈AA o' l->(∃t ver s,o' id=.vec t ver false s)->id∈AA o l)
  ?_ ?_ ?_ ?_ ?_ ?_ ?_ ?_ ?_ ?_ ?_ ?_ ?_ ?_ ?_ ?_ ?_ ?_ ?_ ?_ ?_ ?_ ?_ ?_ x
 case refine_2=>exact fun rZ ver id h h'=>by exact key rZ id h h'
 case refine_3=>exact fun rZ ver _ _ id h h'=>by exact key rZ id h h'
 case refine_18=>exact fun rZ ver lo id h h'=>by exact key rZ id h h'
 case refine_11=>exact fun l ih id h h'=>by exact ih id h h'
 case refine_24=>
  intro x l kq kC id h h';rcases zD.1 h with h|h
  ·exact zN _ (kq id h h')
  ·exact zG _ (kC id h h')
 all_goals intros;rename_i h _;simp[ig,AA] at h
theorem GS(ks:List Nat)(id:Nat):aj o (eY o ks) id=o id/\(∀t ver s,o id=.vec t ver false s->id∉ks)\/∃t ver fr s,o id=.vec t ver fr s/\aj o (eY o ks) id=.vec t ver true s:=by
 by_cases hk:id∈bU (eY o ks)
 ·have⟨t,ver,fr,s,h1,h2⟩:=Dv hk
  grind
 ·exact .inl ⟨iR hk,fun t ver s e h=>hk (qx9 h e)⟩
theorem VG(h:∀id,id∈ig o x->id∈ks):Ix (aj o (eY o ks)) x:=by
 intro id hi t ver fr s e;have hc:fr=false:=by
  cases fr with
  |false=>rfl
  |true=>
   exfalso;revert hi;refine V.rec (motive_1:=fun x=>¬id∈ig (aj o (eY o ks)) x) (motive_2:=fun l=>¬id∈AA (aj o (eY o ks)) l)
    ?_ ?_ ?_ ?_ ?_ ?_ ?_ ?_ ?_ ?_ ?_ ?_ ?_ ?_ ?_ ?_ ?_ ?_ ?_ ?_ ?_ ?_ ?_ ?_ x
   case refine_2=>
    intro rZ aA h;unfold ig at h;split at h
    ·cases h
    ·rename_i hn;simp at h;subst h;exact hn _ _ _ e
   case refine_3=>
    intro rZ aA _ _ h;unfold ig at h;split at h
    ·cases h
    ·rename_i hn;simp at h;subst h;exact hn _ _ _ e
   case refine_18=>
    intro rZ aA _ h;unfold ig at h;split at h
    ·cases h
    ·rename_i hn;simp at h;subst h;exact hn _ _ _ e
   case refine_11=>intro l ih h;unfold ig at h;exact ih h
   case refine_24=>
    intro x l kq kC h;rcases zD.1 h with h|h
    ·exact kq h
    ·exact kC h
   all_goals intros;simp[ig,AA]
 subst hc;have:=z5i (o:=o) (o':=aj o (eY o ks)) (fun id=>(GS ks id).imp (·.1) fun⟨t,ver,_,s,_,h⟩=>⟨t,ver,s,h⟩) x id hi ⟨t,ver,s,e⟩;rcases GS (o:=o) ks id with ⟨h1,h2⟩|⟨_,_,_,_,_,h2⟩
 all_goals grind
theorem GU(ks:List Nat)(t:Ty)(x:V):ri lf (aj o (eY o ks)) t x=ri lf o t x:=by
 cases x<;>simp[ri]
 ·rename_i id ver;rcases GS (o:=o) ks id with ⟨h1,_⟩|⟨_,_,_,_,h1,h2⟩
  ·rw[h1]
  ·rw[h1,h2]
 ·rename_i id ver n cp;rcases GS (o:=o) ks id with ⟨h1,_⟩|⟨_,_,_,_,h1,h2⟩
  ·rw[h1]
  ·rw[h1,h2]
 ·rename_i id ver lo;rcases GS (o:=o) ks id with ⟨h1,_⟩|⟨_,_,_,_,h1,h2⟩
  all_goals grind
theorem zj4(ks:List Nat):∀(t:Ty) (cs:List V),pY lf (aj o (eY o ks)) t cs=pY lf o t cs:=by
 intro t
 induction t with
 |unit=>intro cs;rfl
 |pair a b rW mZ=>intro cs;simp[pY,rW,mZ]
 |st p ih=>intro cs;simp[pY,ih]
 |arr n e _=>intro cs;rfl
 |int k=>intro cs;cases cs<;>simp[pY,GU]
 |bool=>intro cs;cases cs<;>simp[pY,GU]
 |gz=>intro cs;cases cs<;>simp[pY,GU]
 |fY=>intro cs;cases cs<;>simp[pY,GU]
 |str=>intro cs;cases cs<;>simp[pY,GU]
 |sl e _=>intro cs;cases cs<;>simp[pY,GU]
theorem qzh(ks:List Nat)(t:Ty)(x:V):nO lf (aj o (eY o ks)) t x=nO lf o t x:=by cases x<;>simp[nO,GU,zj4]
section
variable {imm':Nat→Prop}
theorem VH(hl:∀id,rS φ o imm w id (o id))(hi:∀b,imm b->imm' b):∀(t:Ty) (cs r:List V) (d:den t) (zs:List Value),cu φ o imm w cs zs->(∀c,c∈cs->xM φ o imm' c)->pY lf o t cs=some (d,r)->∃zc zr,zs=zc++zr/\az imm' w t d zc/\cu φ o imm w r zr/\(∀c,c∈r->xM φ o imm' c):=by
 have one:∀(t:Ty) (cs r:List V) (d:den t) (zs:List Value),cu φ o imm w cs zs->(∀c,c∈cs->xM φ o imm' c)->
   (match cs with|c::r=>(match ri lf o t c with|some x=>some (x,r)|none=>none)|[]=>none)=some (d,r)->
   ∃z zr,zs=z::zr/\dS imm' w t d z/\cu φ o imm w r zr/\(∀c,c∈r->xM φ o imm' c):=by
  intro t cs r d zs hr hf h;cases cs with
  |nil=>cases h
  |cons c cs=>
   simp at h;split at h
   ·rename_i x hx;injection h with h;injection h with h1 h2;subst h1 h2;have⟨z,zr,h3,h4,h5⟩:=hr;exact⟨z,zr,h3,qrl hl hi h4 (hf _ (zg ..)) hx,h5,fun c hc=>hf c (zf _ hc)⟩
   ·cases h
 intro t
 induction t with
 |unit=>intro cs r d zs hr hf h;simp[pY,Option.some.injEq,Prod.mk.injEq] at h;obtain⟨_,rfl⟩:=h;exact⟨[],zs,rfl,rfl,hr,hf⟩
 |pair a b rW mZ=>
  intro cs r d zs hr hf h;simp[pY] at h;split at h
  ·rename_i x r1 h1;split at h
   ·rename_i y r2 h2;injection h with h;injection h with h3 h4;subst h3 h4;have⟨zc,zr,e1,e2,e3,e4⟩:=rW _ _ _ _ hr hf h1;have⟨zc',zr',g1,g2,g3,g4⟩:=mZ _ _ _ _ e3 e4 h2;exact⟨zc++zc',zr',by rw[e1,g1,zk],⟨zc,zc',rfl,e2,g2⟩,g3,g4⟩
   ·cases h
  ·cases h
 |st p ih=>intro cs r d zs hr hf h;exact ih _ _ _ _ hr hf h
 |arr n e _=>intro cs r d zs hr hf h;cases h
 |_=>intro cs r d zs hr hf h;have⟨z,zr,e1,e2,e3⟩:=one _ cs r d zs hr hf (by cases cs<;>exact h);exact⟨[z],zr,e1,e2,e3⟩
theorem qdo:∀{cs:List V},xM φ o imm' (.agg cs)->∀c,c∈cs->xM φ o imm' c
 |c'::cs,h,c,hc,id,hi=>by
  rcases zA.1 hc with rfl|hc
  ·exact h id (by exact zN _ hi)
  ·exact qdo (cs:=cs) (fun id hi=>h id (by unfold ig at hi ⊢;unfold AA;exact zG _ hi)) c hc id hi
theorem qtt(hl:∀id,rS φ o imm w id (o id))(hi:∀b,imm b->imm' b){t:Ty}{d:den t}(hx:au φ o imm w x z)(hf:xM φ o imm' x)(h:nO lf o t x=some d):dS imm' w t d z:=by
 by_cases hc:∃cs,x=.agg cs
 ·obtain⟨cs,rfl⟩:=hc;simp[nO] at h;split at h
  ·rename_i p;split at h
   ·rename_i y h1;injection h with h;subst h;obtain⟨c,rfl,hr⟩:=hx;have⟨zc,zr,e1,e2,e3,_⟩:=VH hl hi _ _ _ _ _ hr (qdo hf) h1;have:=e3;subst this;exact⟨c,rfl,by rw[e1,zv];exact e2⟩
   ·cases h
  ·cases h
 ·have:nO lf o t x=ri lf o t x:=by cases x<;>first|rfl|exact absurd ⟨_,rfl⟩ hc
  exact qrl hl hi hx hf (this▸h)
end
theorem qzi(hm:MRel C X φ o w){t:Ty}{d:den t}(hx:au φ o (ag X φ o w) w x z)(hf:Ix o x)(h:nO lf o t x=some d):dS (ag X φ o w) w t d z:=qtt hm.ar (fun _ h=>h) hx (qme hf) h
end
def ED:TypeDesc->Bool
 |.struct _|.array .. =>true
 |_=>false
theorem VI{C:Cx}(h:pE C d T=true):ED d=mh T/\nS T=!mh T:=by cases d<;>cases T<;>first|exact⟨rfl,rfl⟩|(simp only[pE] at h;cases h;done)
theorem u7{a:Addr}(h:a.spot=none)(n:Nat):a.add n=⟨a.block,a.off+n,none⟩:=by
 unfold Addr.add;split
 ·rename_i e;subst e;obtain⟨b,f,s⟩:=a;simp at h;subst h;rfl
 ·rfl
section
variable {P:Program} {C:Cx} {X:Nat→Prop} {φ:Nat→Addr} {o:Nat→Obj} {w:World} {imm:Nat→Prop}
theorem Iy(h:P.underlying t=some d):(Go.isAgg t).run P w=.ok (ED d) w:=by unfold Go.isAgg;rw[Sem.run_bind,run_underlying h w];cases d<;>simp[ED]
theorem kZ(h:P.info? t=some i):(Go.sizeOf t).run P w=.ok i.size w:=by simp[Go.sizeOf,typeInfo,h]
theorem GV(h:P.info? t=some i)(hz:i.zero=some z):(zeroValue t).run P w=.ok z w:=by simp[zeroValue,typeInfo,h,hz]
theorem qcy{a:Addr}(hs:a.spot=none){cs:List Value}(hn:cs.length=n)(h:mN w a cs):(loadCells a n).run P w=.ok cs.toArray w:=by subst hn;refine run_loadCells_list w a cs fun j v hv=>?_;rw[u7 hs];have⟨hj,e⟩:=zT.1 hv;rw[h j hj,e]
theorem qxa{a:Addr}(hs:a.spot=none){v:Value}{cs:List Value}(h:mN w a (v::cs)):(load a).run P w=.ok v w:=by
 have:=h 0 (by simp);have⟨b,f,s⟩:=a
 simp_all
theorem qmf{d:den T}{cs:List Value}(hs:nS T=true)(h:az imm w T d cs):∃v,cs=[v]/\dS imm w T d v:=by
 cases T<;>simp[nS] at hs<;>try (cases hs;done)
 ·exact⟨_,h.1,by simpa[dS,az] using h.2⟩
 ·exact⟨_,h,by simp[dS,az]⟩
 ·have⟨s,h1,h2⟩:=h;exact⟨_,h1,s,rfl,h2⟩
 ·have⟨v,h1,h2⟩:=h;exact⟨_,h1,v,rfl,h2⟩
 ·exact⟨_,h,by simp[dS,az]⟩
 ·exact⟨_,h,by simp[dS,az]⟩
theorem qtu{d:den T}{v:Value}(hs:nS T=true)(h:dS imm w T d v):az imm w T d [v]:=by cases T<;>simp[nS] at hs<;>first|exact h|cases hs
theorem zbw{d:den T}{v:Value}(hs:mh T=true)(h:dS imm w T d v):∃cs:Array Value,v=.agg cs/\az imm w T d cs.toList:=by cases T<;>simp[mh] at hs<;>first|exact h|cases hs
theorem zgd{d:den T}{cs:Array Value}(hs:mh T=true)(h:az imm w T d cs.toList):dS imm w T d (.agg cs):=by cases T<;>simp[mh] at hs<;>first|exact⟨cs,rfl,h⟩|cases hs
theorem qpq{C:Cx}(ht:oV C t T){d:den T}{v:Value}(h:dS imm w T d v):az imm w T d v.cells.toList:=by
 have⟨_,_,_,hd⟩:=ht.desc;have⟨_,hk⟩:=VI hd;cases ha:mh T with
 |true=>obtain⟨cs,rfl,h1⟩:=zbw ha h;exact h1
 |false=>
  rw[ha] at hk;have:=qtu hk h;have e:v.cells=#[v]:=by
   cases T<;>simp[nS] at hk<;>try (cases hk;done)
   ·have h2:=h.1;simp[List.cons.injEq,and_true] at h2;subst h2;rfl
   ·have h2:[v]=[_]:=h;simp[List.cons.injEq,and_true] at h2;subst h2;rfl
   ·have⟨s,h2,_⟩:=h;simp[List.cons.injEq,and_true] at h2;subst h2;rfl
   ·have⟨v',h2,_,h3⟩:=h;simp[List.cons.injEq,and_true] at h2;subst h2;rcases h3 with ⟨_,_,rfl⟩|⟨_,a,cap,ec,rfl,_⟩<;>rfl
   ·have h2:[v]=[_]:=h;simp[List.cons.injEq,and_true] at h2;subst h2;rfl
   ·have h2:[v]=[_]:=h;simp[List.cons.injEq,and_true] at h2;subst h2;rfl
  rw[e];exact this
theorem qpr(h:oV C t T){a:Addr}(hs:a.spot=none){d:den T}{cs:List Value}(hr:az imm w T d cs)(hc:mN w a cs):∃v,(loadVar t a).run C.P w=.ok v w/\dS imm w T d v:=by
 have⟨dd,_,hu,hd⟩:=h.desc;have⟨i,z,hi,_,hg,_⟩:=h.info;have⟨he,hf⟩:=VI hd;have hl:=ke T d cs hr;unfold loadVar;simp[Sem.run_bind,Iy hu,Result.andThen_ok];cases ha:mh T with
 |true=>rw[he,ha];refine⟨.agg cs.toArray,?_,zgd ha (by simp_all)⟩;simp[kZ hi,qcy hs (hl.trans hg.symm) hc]
 |false=>rw[he,ha];rw[ha] at hf;obtain⟨v,rfl,h2⟩:=qmf hf hr;exact⟨v,by simpa using qxa hs hc,h2⟩
theorem VJ(h:oV C t T){cs:Array Value}{d:den T}(hr:az imm w T d ((cs.toList.drop off).take (aB T))):∃v,(part t cs off).run C.P w=.ok v w/\dS imm w T d v:=by
 have⟨dd,_,hu,hd⟩:=h.desc;have⟨i,z,hi,_,hf,_⟩:=h.info;have⟨hc,he⟩:=VI hd;unfold part;simp[Sem.run_bind,Iy hu,Result.andThen_ok];cases ha:mh T with
 |true=>
  rw[hc,ha];refine⟨.agg (cs.extract off (off+aB T)),?_,zgd ha ?_⟩
  ·simp[kZ hi,hf]
  simp_all
 |false=>
  rw[hc,ha];rw[ha] at he;have⟨v,e,h2⟩:=qmf he hr;refine⟨v,?_,h2⟩;have:cs[off]?=some v:=by
   have e1:=jd (fun l=>l[0]?) e
   grind
  simp[this]
theorem qj1:∀(p:Ty) (f:Nat) (y:den p) {u:Ty} {z:den u},Pp p f y=some ⟨u,z⟩->p8 p f=some u/\(∀cs,az imm w p y cs->az imm w u z ((cs.drop (gQ p f)).take (aB u))):=by
 have base:∀(t:Ty) (y:den t) (u:Ty) (z:den u),(some ⟨t,y⟩:Option ((t:Ty)×den t))=some ⟨u,z⟩->t=u/\(∀cs,az imm w t y cs->az imm w u z ((cs.drop 0).take (aB u))):=by intro t y u z h;injection h with h;injection h with h1 h2;subst h1;subst h2;exact⟨rfl,fun cs hc=>by rw[jh,<-ke _ _ _ hc,jD];exact hc⟩
 intro p
 induction p with
 |pair a b _ mZ=>
  intro f y u z h;cases f with
  |zero=>
   have⟨h1,h2⟩:=base _ _ _ _ h;subst h1;refine⟨rfl,fun cs ⟨c,d,e,h3,h4⟩=>?_⟩;have:=h2 c h3;simp[gQ,List.drop_zero] at this ⊢;rw[<-ke _ _ _ h3] at this ⊢
   grind
  |succ n=>
   simp[Pp] at h;have⟨h1,h2⟩:=mZ n y.2 h;refine⟨h1,fun cs ⟨c,d,e,h3,h4⟩=>?_⟩;have:=h2 d h4;rw[e];simp[gQ]
   rwa [<-ke _ _ _ h3,List.drop_length_add_append]
 |unit=>intro f y u z h;cases f<;>cases h
 |int k=>intro f y u z h;cases f with|zero=>obtain⟨rfl,h2⟩:=base _ _ _ _ h;exact⟨rfl,h2⟩|succ n=>cases h
 |bool=>intro f y u z h;cases f with|zero=>obtain⟨rfl,h2⟩:=base _ _ _ _ h;exact⟨rfl,h2⟩|succ n=>cases h
 |gz=>intro f y u z h;cases f with|zero=>obtain⟨rfl,h2⟩:=base _ _ _ _ h;exact⟨rfl,h2⟩|succ n=>cases h
 |fY=>intro f y u z h;cases f with|zero=>obtain⟨rfl,h2⟩:=base _ _ _ _ h;exact⟨rfl,h2⟩|succ n=>cases h
 |str=>intro f y u z h;cases f with|zero=>obtain⟨rfl,h2⟩:=base _ _ _ _ h;exact⟨rfl,h2⟩|succ n=>cases h
 |sl e=>intro f y u z h;cases f with|zero=>obtain⟨rfl,h2⟩:=base _ _ _ _ h;exact⟨rfl,h2⟩|succ n=>cases h
 |st p=>intro f y u z h;cases f with|zero=>obtain⟨rfl,h2⟩:=base _ _ _ _ h;exact⟨rfl,h2⟩|succ n=>cases h
 |arr m e=>intro f y u z h;cases f with|zero=>obtain⟨rfl,h2⟩:=base _ _ _ _ h;exact⟨rfl,h2⟩|succ n=>cases h
theorem qdp(hC:cS C):∀(fs:List Field) (p:Ty) (off f:Nat) {u:Ty},uC C fs p off=true->p8 p f=some u->∃fd,fs[f]?=some fd/\C.ty fd.type=some u/\fd.offset=off+gQ p f:=by
 intro fs
 induction fs with
 |nil=>intro p off f u h h1;cases p<;>first|(simp only[uC] at h;cases h;done)|(cases f<;>cases h1)
 |cons g r ih=>
  intro p off f u h h1;cases r with
  |nil=>
   have h:(C.is g.type p&&Nat.beq g.offset off)=true:=by cases p<;>exact h
   rw[ze] at h;have ht:=qe h.1;have⟨_,_,_,hd⟩:=(hC.fD _ _ ht).desc;have⟨_,hk⟩:=VI hd;have:f=0/\u=p/\gQ p 0=0:=by
    cases f with
    |zero=>cases p<;>first|exact⟨rfl,(jb h1).symm,rfl⟩|(simp only[nS,mh] at hk;cases hk;done)
    |succ n=>cases p<;>first|(cases h1;done)|(simp only[nS,mh] at hk;cases hk;done)
   simp_all
  |cons g' r=>
   cases p<;>simp only[uC] at h<;>try (cases h;done)
   rename_i a b;simp only[ze] at h;cases f with
   |zero=>simp[p8,Option.some.injEq] at h1;subst h1;exact⟨g,rfl,qe h.1.1,by simpa[gQ] using zo h.1.2⟩
   |succ n=>have⟨fd,h2,h3,h4⟩:=ih b (off+aB a) n h.2 h1;exact⟨fd,by simp_all,h3,by simp only[gQ];omega⟩
theorem GW{b:Bool}(h:xC P t=some (b,n)):∃i d,P.info? t=some i/\i.size=n/\P.underlying t=some d/\ED d=b:=by
 unfold xC at h;cases h1:P.types.toList[t]? with
 |none=>rw[h1] at h;cases h
 |some i=>
  rw[h1] at h;cases h2:desc P t with
  |none=>rw[h2] at h;cases h
  |some d=>
   rw[h2] at h;refine⟨i,d,PY h1,?_,nV h2,?_⟩
   ·cases d<;>simp[Option.some.injEq,Prod.mk.injEq] at h<;>exact h.2
   ·cases d<;>simp only[zU,jX] at h<;>exact h.1
theorem qka{fd:Field}(h:Po P t f=some fd):∃fs,P.underlying t=some (.struct fs)/\desc P t=some (.struct fs)/\fs[f]?=some fd:=by
 unfold Po at h;split at h
 ·rename_i fs e;exact⟨fs,nV e,e,by rw[<-ji];exact h⟩
 ·cases h
theorem VK(hC:cS C){p:Ty}(h:C.ty t=some (.st p)):∃fs,desc C.P t=some (.struct fs)/\C.P.underlying t=some (.struct fs)/\uC C fs.toList p 0=true:=by have⟨d,h1,h2,h3⟩:=(hC.fD _ _ h).desc;cases d<;>first|exact⟨_,h1,h2,h3⟩|(simp only[pE] at h3;cases h3;done)
theorem P6:∀{cs:List V} {zs:List Value} {i:Nat} {v:V},cu φ o imm w cs zs->cs[i]?=some v->∃z,zs[i]?=some z/\au φ o imm w v z
 |[],_,_,_,_,h=>by simp at h
 |x::l,_,0,v,⟨z,r,e,h1,_⟩,h=>by grind
 |x::l,_,i+1,v,⟨z,r,e,_,h2⟩,h=>by subst e;simp[List.getElem?_cons_succ] at h ⊢;exact P6 h2 h
theorem P7:∀{cs:List V} {zs:List Value} (n:Nat),cu φ o imm w cs zs->cu φ o imm w (cs.drop n) (zs.drop n)
 |_,_,0,h=>h
 |[],_,n+1,h=>by simp[cu] at h;subst h;simp[cu]
 |x::l,_,n+1,⟨z,r,e,_,h2⟩=>by subst e;exact P7 n h2
theorem P8:∀{cs:List V} {zs:List Value} (n:Nat),cu φ o imm w cs zs->cu φ o imm w (cs.take n) (zs.take n)
 |_,_,0,h=>by simp[cu]
 |[],_,n+1,h=>by simp[cu] at h;subst h;simp[cu]
 |x::l,_,n+1,⟨z,r,e,h1,h2⟩=>by subst e;exact⟨z,_,rfl,h1,P8 n h2⟩
theorem Bw:∀{cs:List V} {zs:List Value},cu φ o imm w cs zs->cs.length=zs.length
 |[],_,h=>by simp[cu] at h;subst h;rfl
 |x::l,_,⟨z,r,e,_,h2⟩=>by subst e;simp[Bw h2]
theorem GX:∀{cs ds:List V} {zs ys:List Value},cu φ o imm w cs zs->cu φ o imm w ds ys->cu φ o imm w (cs++ds) (zs++ys)
 |[],_,_,_,h,h'=>by simp[cu] at h;subst h;exact h'
 |x::l,_,_,_,⟨z,r,e,h1,h2⟩,h'=>by subst e;exact⟨z,_,rfl,h1,GX h2 h'⟩
theorem qtv(hm:MRel C X φ o w)(h:cu φ o (ag X φ o w) w cs zs.toList):au φ o (ag X φ o w) w (Vc lf C o t cs) (.agg zs):=by
 have Iz:au φ o (ag X φ o w) w (.agg cs) (.agg zs):=⟨zs,rfl,h⟩;unfold Vc;split
 ·rename_i p _;split
  ·rename_i e1 _;split
   ·rename_i x e;have hf:∀c,c∈cs->xM φ o (ag X φ o w) c:=qdo (fun id hi=>by unfold ig at hi;rw[e1] at hi;cases hi);have⟨zc,zr,g1,g2,g3,_⟩:=VH hm.ar (fun _ h=>h) _ _ _ _ _ h hf e;have:=g3;subst this;exact⟨zs,rfl,by rw[g1,zv];exact g2⟩
   ·exact Iz
  ·exact Iz
 ·exact Iz
end
theorem qou{l:List α}(h:(((l.take n).drop b).take m).length=m):((l.take n).drop b).take m=(l.drop b).take m:=by
 rw[Zq] at h ⊢
 grind
section
variable {P:Program} {C:Cx} {X:Nat→Prop} {φ:Nat→Addr} {o:Nat→Obj} {w:World} {imm:Nat→Prop}
theorem z5j:∀{p:Ty} {f:Nat} {u:Ty},p8 p f=some u->tyF p f=u:=by
 intro p
 induction p with
 |pair a b _ mZ=>intro f u h;cases f with|zero=>exact jb h|succ n=>exact mZ h
 |unit=>intro f u h;cases f<;>cases h
 |_=>intro f u h;cases f with|zero=>exact jb h|succ n=>cases h
theorem z5k:∀(p:Ty) (f:Nat) (y:den p) {u:Ty},p8 p f=some u->∃z,Pp p f y=some ⟨u,z⟩:=by
 intro p
 induction p with
 |pair a b _ mZ=>intro f y u h;cases f with|zero=>have:=jb h;subst this;exact⟨y.1,rfl⟩|succ n=>exact mZ n y.2 h
 |unit=>intro f y u h;cases f<;>cases h
 |_=>intro f y u h;cases f with|zero=>have:=jb h;subst this;exact⟨y,rfl⟩|succ n=>cases h
theorem qtw:∀(path:List Nat) (t:Ty) (x:den t) {u:Ty},Dl path t=some u->∃y,U0 path t x=some ⟨u,y⟩/\∀(imm:Nat->Prop) (w:World) cs,az imm w t x cs->az imm w u y ((cs.drop (kY path t)).take (aB u))
 |[],t,x,u,h=>by
  have:=jb h;subst this;refine⟨x,rfl,fun imm w cs hc=>?_⟩
  rwa [show kY [] t=0 from rfl,jh,<-ke _ _ _ hc,jD]
 |f::r,t,x,u,h=>by
  cases t<;>simp[Dl] at h<;>try (cases h;done)
  rename_i p;split at h
  ·rename_i u1 h1;have⟨y,h2⟩:=z5k p f x h1;have⟨y',h3,h4⟩:=qtw r u1 y h;refine⟨y',by simp[U0,NR,h2];exact h3,fun imm w cs hc=>?_⟩;have⟨_,h5⟩:=qj1 (imm:=imm) (w:=w) p f x h2;have h6:=h4 imm w _ (h5 cs hc);have hl:=ke _ _ _ h6;rw[qou hl,jw] at h6;simp[kY,z5j h1];exact h6
  ·cases h
theorem Oj{a:Addr}{cs:List Value}(k n:Nat)(h:mN w a cs):mN w ⟨a.block,a.off+k,none⟩ ((cs.drop k).take n):=by
 intro j hj;have hc:k+j<cs.length:=by simp at hj;omega
 have:=h (k+j) hc
 grind
theorem P9(h:w.heap[b]?=some (.cells c el fz))(off n:Nat):mN w ⟨b,off,none⟩ ((c.toList.drop off).take n):=by
 intro j hj;have hc:off+j<c.size:=by simp at hj;omega
 simp[World.cell?,h,hc]
theorem qtx(hC:cS C)(hm:MRel C X φ o w)(hx:au φ o (ag X φ o w) w x z)(h:(Vd lf C o t x).aD v u):u=[]/\rV C.P φ o (ag X φ o w) w v (Instr.loadAt t z):=by
 unfold Vd at h;split at h
 ·rename_i t' d;rw[eT] at h;obtain⟨h1,rfl,rfl⟩:=h;obtain⟨a,cs,rfl,h2,_,h4,h5⟩:=hx;have⟨v,h6,h7⟩:=qpr (hC.fD _ _ (qe h1)) h2 h4 h5;exact⟨rfl,v,by simp[Instr.loadAt,Instr.sureAddr,h6],h7⟩
 ·rename_i t' d;split at h
  ·rename_i n hk;obtain⟨rfl,rfl⟩:=h;have⟨i,d',g1,g2,g3,g4⟩:=GW hk;obtain⟨a,b,cs,rfl,h2,h3,h4,h5⟩:=hx;refine⟨rfl,.pointer (some b),?_,b,cs,rfl,h5⟩;have hc:w.cell? a=some (.pointer (some b)):=by
    have:=h4 0 (by simp);have⟨b1,f1,s1⟩:=a
    grind
   simp[Instr.loadAt,Instr.sureAddr,loadVar,Iy g3,g4,hc]
  ·cases h
 ·rename_i id off;have ho:=hm.ar id;unfold au at hx;split at h
  ·rename_i cs e;rw[e] at hx ho;subst hx;have⟨h0,c,el,lo,hi,h1,h2,h3⟩:=ho;split at h
   ·rename_i n hk;rw[eT] at h;obtain⟨hb,rfl,rfl⟩:=h;have hb:=zP hb;have⟨i,d,g1,g2,g3,g4⟩:=GW hk;have hl:=Bw h3;refine⟨rfl,.agg ((c.toList.drop off).take n).toArray,?_,qtv hm (by simpa using P8 n (P7 off h3))⟩;have:=qcy (P:=C.P) (w:=w) (a:=⟨(φ id).block,(φ id).off+off,none⟩) rfl (n:=n) (cs:=(c.toList.drop off).take n) (by simp at hl ⊢;omega) (by
     rw[h0,zW];exact P9 h1 off n)
    simp[Instr.loadAt,Instr.sureAddr,loadVar,Iy g3,g4,kZ g1,g2,this]
   ·rename_i n hk;split at h
    ·rename_i v' hv;obtain⟨rfl,rfl⟩:=h;have⟨i,d,g1,g2,g3,g4⟩:=GW hk;have⟨z,hz,hr⟩:=P6 h3 hv;refine⟨rfl,z,?_,hr⟩;have:w.cell? ⟨(φ id).block,(φ id).off+off,none⟩=some z:=by rw[h0];simp only[World.cell?,h1];simpa using hz
     simp[Instr.loadAt,Instr.sureAddr,loadVar,Iy g3,g4,this]
    ·cases h
   ·cases h
  ·cases h
 ·rename_i id ver i path;have ho:=hm.ar id;unfold au at hx;split at h
  ·rename_i e aA fr s e1;rw[e1] at hx ho;split at h
   ·rename_i t' ht;rw[eT,wD,ze] at h;have⟨⟨h1,h2⟩,x,h3,h4⟩:=h;have⟨_,hx⟩:=hx;obtain⟨hi,rfl⟩:=hx (zo h1);have⟨y,h5,h6⟩:=qtw path e x ht;rw[h5] at h4;obtain⟨rfl,rfl⟩:=h4;have⟨g1,g2,g3⟩:=ho;have hn:s.nil=false:=by
     cases hn:s.nil with
     |false=>rfl
     |true=>rw[g2 hn] at hi;simp at hi
    have⟨g4,ec,g5,g6,_⟩:=(g3 hn).resolve_right fun g=>by rw[g.2.1] at hi;simp at hi
    have⟨he,hf⟩:=zT.1 h3;have hr:=PL g5 i he;rw[hf] at hr;have hr:=h6 _ _ _ hr;have hc:=Oj (kY path e) (aB t') (Oj (i*aB e) (aB e) g6);have⟨v,k1,k2⟩:=qpr (w:=w) (hC.fD _ _ (qe h2)) (a:=⟨(φ id).block,(φ id).off+i*aB e+kY path e,none⟩) rfl hr hc;exact⟨rfl,v,by simp[Instr.loadAt,Instr.sureAddr,k1],k2⟩
   ·cases h
  ·cases h
 ·cases h
theorem z2t(hC:cS C)(_hm:MRel C X φ o w)(hx:au φ o (ag X φ o w) w x z)(h:(YR C t x f).aD v u):u=[]/\rV C.P φ o (ag X φ o w) w v (Instr.field t z f):=by
 unfold YR at h;split at h
 ·rename_i t' y;rw[eT] at h;have⟨h1,h⟩:=h;split at h
  ·rename_i u' z' h2;obtain⟨rfl,rfl⟩:=h;cases t'<;>simp[NR] at h2<;>try (cases h2;done)
   rename_i p;have⟨fs,g1,g2,g3⟩:=VK hC (qe h1);have⟨k1,k2⟩:=qj1 (imm:=ag X φ o w) (w:=w) p f y h2;have⟨fd,m1,m2,m3⟩:=qdp hC _ _ _ _ g3 k1;obtain⟨cs,rfl,hr⟩:=hx;obtain⟨v,n1,n2⟩:=VJ (w:=w) (hC.fD _ _ m2) (cs:=cs) (off:=fd.offset) (by rw[m3,zW];exact k2 _ hr);refine⟨rfl,v,?_,n2⟩;rw[ji] at m1;simp[Instr.field,run_underlying g2,m1,asAgg,n1]
  ·cases h
 ·rename_i cs;obtain⟨c,rfl,hr⟩:=hx;split at h
  ·rename_i fd hf;have⟨fs,f1,f2,f3⟩:=qka hf;split at h
   ·rename_i n hk;rw[eT] at h;obtain⟨_,rfl,rfl⟩:=h;have⟨i,d,g1,g2,g3,g4⟩:=GW hk;refine⟨rfl,.agg (c.extract fd.offset (fd.offset+n)),?_,_,rfl,?_⟩
    ·simp[Instr.field,run_underlying f1,f3,asAgg,part,Iy g3,g4,kZ g1,g2]
    ·rw[Array.toList_extract,List.extract_eq_take_drop,Zr];exact P8 n (P7 _ hr)
   ·rename_i n hk;split at h
    ·rename_i v' hv;obtain⟨rfl,rfl⟩:=h;have⟨i,d,g1,g2,g3,g4⟩:=GW hk;have⟨z,hz,hc⟩:=P6 hr hv;rw[ji] at hz;refine⟨rfl,z,?_,hc⟩;simp[Instr.field,run_underlying f1,f3,asAgg,part,Iy g3,g4,hz]
    ·cases h
   ·cases h
  ·cases h
 ·cases h
theorem qov(hC:cS C)(_hm:MRel C X φ o w)(hx:au φ o (ag X φ o w) w x z)(h:(N1 C o t x f).aD v u):u=[]/\rV C.P φ o (ag X φ o w) w v (Instr.fieldAt t z f):=by
 unfold N1 at h;split at h
 ·cases h
 ·rename_i fd hf;have⟨fs,f1,f1',f2⟩:=qka hf;split at h
  ·rename_i b sz hk;rw[eT] at h;obtain⟨he,h⟩:=h;have he:=zP he;have⟨i,d,g1,g2,g3,g4⟩:=GW hk;have run:∀a:Addr,(Instr.fieldAt t (.pointer (some a)) f).run C.P w=.ok (.pointer (some (a.add fd.offset))) w:=by
    intro a;have:i.size≠0:=om
    simp[Instr.fieldAt,run_underlying f1,f2,Instr.sureAddr,fieldPlace,kZ g1,this]
   split at h
   ·rename_i id off;split at h
    ·rename_i cs e;obtain⟨rfl,rfl⟩:=h;unfold au at hx;rw[e] at hx;subst hx;refine⟨rfl,_,run _,?_⟩;rw[u7 rfl];unfold au
     grind
    ·cases h
   ·rename_i t' y;rw[eT] at h;have⟨h1,h⟩:=h;split at h
    ·rename_i u' z' h2;obtain⟨rfl,rfl⟩:=h;cases t'<;>simp[NR] at h2<;>try (cases h2;done)
     rename_i p;have⟨mi,e1,e2,e3⟩:=VK hC (qe h1);rw[f1'] at e1;injection e1 with e1;injection e1 with e1;subst e1;have⟨k1,k2⟩:=qj1 (imm:=ag X φ o w) (w:=w) p f y h2;have⟨fd',m1,m2,m3⟩:=qdp hC _ _ _ _ e3 k1;rw[ji,f2] at m1;injection m1 with m1;subst m1;obtain⟨a,cs,rfl,hs,hi,hr,hc⟩:=hx;refine⟨rfl,_,run _,?_⟩;rw[u7 hs,m3,zW];exact⟨_,_,rfl,rfl,hi,k2 _ hr,Oj _ _ hc⟩
    ·cases h
   ·rename_i id ver j path;split at h
    ·rename_i e aA fr s e1;split at h
     ·rename_i t' ht;split at h
      ·rename_i p;split at h
       ·rename_i u' hu;rw[eT,kg,ze] at h;obtain⟨⟨h1,h2⟩,rfl,rfl⟩:=h;have⟨mi,k1,k2,k3⟩:=VK hC (qe h2);rw[f1'] at k1;injection k1 with k1;injection k1 with k1;subst k1;have⟨fd',m1,m2,m3⟩:=qdp hC _ _ _ _ k3 hu;rw[ji,f2] at m1;injection m1 with m1;subst m1;unfold au at hx;rw[e1] at hx;have⟨h0,hx⟩:=hx;obtain⟨hi,rfl⟩:=hx (zo h1);refine⟨rfl,_,run _,?_⟩;rw[u7 rfl];unfold au;rw[e1];refine⟨h0,fun _=>⟨hi,?_⟩⟩;have key:∀(path:List Nat) (t:Ty),Dl path t=some (.st p)->kY (path++[f]) t=kY path t+gQ p f:=by
         intro path
         induction path with
         |nil=>intro t h;have:=jb h;subst this;simp[kY]
         |cons g r ih=>
          intro t h;cases t<;>simp[Dl] at h<;>try (cases h;done)
          split at h
          ·rename_i q u1 h1;have:=ih u1 h;simp[List.cons_append,kY,z5j h1,this,Nat.add_assoc]
          ·cases h
        grind
       ·cases h
      ·cases h
     ·cases h
    ·cases h
   ·cases h
  ·cases h
end
section
variable {P:Program} {C:Cx} {X:Nat→Prop} {φ:Nat→Addr} {o:Nat→Obj} {w:World} {imm:Nat→Prop}
theorem Dw(h:kp e (rk C t)=true):∃i,C.P.underlying t=some (.slice i)/\desc C.P t=some (.slice i)/\C.ty i=some e:=by
 have h:=P0 h;unfold rk at h;split at h
 ·rename_i i e1;exact⟨i,nV e1,e1,h⟩
 ·cases h
theorem qg5(h:rk C t=some e):∃i,C.P.underlying t=some (.slice i)/\desc C.P t=some (.slice i)/\C.ty i=some e:=by
 unfold rk at h;split at h
 ·rename_i i e1;exact⟨i,nV e1,e1,h⟩
 ·cases h
theorem qj2(h:z51 C t=some (n,e)):∃i,C.P.underlying t=some (.array n i)/\desc C.P t=some (.array n i)/\C.ty i=some e:=by
 unfold z51 at h;split at h
 ·rename_i m i e1;split at h
  ·rename_i e' e2;obtain⟨rfl,rfl⟩:=h;exact⟨i,nV e1,e1,e2⟩
  ·cases h
 ·cases h
theorem Qa{p:(_:IntKind)×Int}(h:asInt x=some p)(hx:au φ o imm w x z):z=.int p.1 p.2/\iI p.1 p.2:=by
 unfold asInt at h;split at h
 ·injection h with h;subst h;exact pC hx
 ·cases h
theorem VL{l:List α}{n:Int}{y:α}(h:fL l n=some y):0<=n/\n<l.length/\l[n.toNat]?=some y:=by
 unfold fL at h
 grind
theorem VM{l:List α}{n:Int}(h:cj l n=some j):0<=n/\n<l.length/\j=n.toNat:=by
 unfold cj at h
 grind
theorem qty{l m:List α}{a b:Int}(h:bS l a b=some m):0<=a/\a<=b/\b<=l.length/\m=(l.take b.toNat).drop a.toNat:=by
 unfold bS at h
 grind
theorem VN{n b:Int}{p:Nat}(h:dY n b=some p):0<=b/\b<=n/\p=b.toNat:=by
 unfold dY at h
 grind
theorem Dx{β:Type}{x:Option α}{f:α->Option β}{y:β}(h:aw x f=some y):∃a,x=some a/\f a=some y:=by
 cases x with
 |none=>cases h
 |some a=>exact⟨a,rfl,h⟩
theorem z2u(hC:cS C){i:V}(hx:au φ o imm w x zx)(hi:au φ o imm w i zi)(h:(YQ lf C t x i).aD v u):u=[]/\rV C.P φ o imm w v (Instr.index t zx zi):=by
 unfold YQ at h;split at h
 ·cases h
 ·rename_i k n hk;obtain⟨rfl,_⟩:=Qa hk hi;split at h
  ·rename_i l;rw[eT] at h;have⟨h1,y,h2,h3⟩:=h;obtain⟨rfl,rfl⟩:=h3;obtain⟨s,rfl,rfl,_⟩:=rU hx;have hu:C.P.underlying t=some .string:=by unfold Vf at h1;split at h1<;>first|(rename_i e;exact nV e)|cases h1
   have⟨g1,g2,g3⟩:=VL h2;rw[jZ,jj] at g3;obtain⟨b,g3,rfl⟩:=g3;refine⟨rfl,.int .u8 b.toNat,?_,oG ?_⟩
   ·have e:s[n.toNat]?=some b:=by
     have⟨g4,g5⟩:=zT.1 g3;have g4':n.toNat<s.size:=by simp_all
     rw[getElem?_pos s n.toNat g4'];have g5':s.data[n.toNat]=b:=by simp_all
     exact jd some g5'
    simp[Instr.index,asIntOf,run_underlying hu,g1,e]
   ·have:=b.toNat_lt;unfold iI IntKind.min IntKind.max;simp[IntKind.signed,IntKind.bits];omega
  ·rename_i m e l;split at h
   ·rename_i m' e' ha;rw[eT,It,ze] at h;have⟨⟨h1,hc⟩,y,h2,h3⟩:=h;obtain⟨rfl,rfl⟩:=h3;have:=jb (P0 hc);subst this;obtain⟨ei,hu,_,he⟩:=qj2 ha;have h1:=zo h1;subst h1;obtain⟨cs,rfl,hl,hr⟩:=hx;obtain⟨g1,g2,g3⟩:=VL h2;obtain⟨g4,g5⟩:=zT.1 g3;have hT:=hC.fD _ _ he;have:=PL hr _ g4;rw[g5] at this;obtain⟨i,z,k1,_,k2,_⟩:=hT.info;obtain⟨v,k3,k4⟩:=VJ (w:=w) hT (cs:=cs) (off:=n.toNat*aB e') this;refine⟨rfl,v,?_,k4⟩;have hf:n<(m:Int):=om
    simp[Instr.index,asIntOf,run_underlying hu,g1,hf,kZ k1,k2,k3]
   ·cases h
  ·cases h
theorem VO{e:TypeId}(hu:P.underlying t=some (.slice e))(hi:P.info? e=some i){a:Addr}(hs:a.spot=none){len cap:Nat}{n:Int}(h0:0<=n)(h1:n<len):(Instr.indexAt t (.slice (some a) len cap) (.int k n)).run P w=.ok (.pointer (some ⟨a.block,a.off+n.toNat*i.size,none⟩)) w:=by simp[Instr.indexAt,asIntOf,run_underlying hu,h0,h1,kZ hi,u7 hs]
theorem qb4{e:TypeId}(hu:P.underlying t=some (.array m e))(hi:P.info? e=some i){a:Addr}(hs:a.spot=none){n:Int}(h0:0<=n)(h1:n<m):(Instr.indexAt t (.pointer (some a)) (.int k n)).run P w=.ok (.pointer (some ⟨a.block,a.off+n.toNat*i.size,none⟩)) w:=by simp[Instr.indexAt,asIntOf,run_underlying hu,h0,h1,kZ hi,u7 hs,Instr.sureAddr]
theorem qow(hC:cS C)(hm:MRel C X φ o w){i:V}(hx:au φ o (ag X φ o w) w x zx)(hi:au φ o (ag X φ o w) w i zi)(h:(YP lf C o t x i).aD v u):u=[]/\rV C.P φ o (ag X φ o w) w v (Instr.indexAt t zx zi):=by
 unfold YP at h;split at h
 ·cases h
 ·rename_i k n hk;obtain⟨rfl,_⟩:=Qa hk hi;split at h
  ·rename_i e s;rw[eT] at h;have⟨h1,y,h2,h3⟩:=h;obtain⟨rfl,rfl⟩:=h3;have⟨ei,hu,_,he⟩:=Dw h1;have⟨ii,z,k1,_,k2,_⟩:=(hC.fD _ _ he).info;have⟨g1,g2,g3⟩:=VL h2;have⟨_,hs⟩:=GQ hx;rcases hs with ⟨_,e2,_⟩|⟨_,a,cap,ec,rfl,e2,e3,e4,e5,e6⟩
   ·grind
   ·refine⟨rfl,_,VO hu k1 (e2 om) g1 g2,?_⟩;have⟨g4,g5⟩:=zT.1 g3;have:=PL e4 _ g4;rw[g5] at this;rw[k2];exact⟨_,_,rfl,rfl,e3 (fun h=>by rw[h] at g4;simp at g4),this,Oj _ _ e5⟩
  ·rename_i m e l;split at h
   ·rename_i m' e' ha;rw[eT,wD,ze] at h;have⟨⟨h1,hc⟩,y,h2,h3⟩:=h;obtain⟨rfl,rfl⟩:=h3;have:=jb (P0 hc);subst this;obtain⟨ei,hu,_,he⟩:=qj2 ha;obtain⟨ii,z,k1,_,k2,_⟩:=(hC.fD _ _ he).info;have h1:=zo h1;subst h1;obtain⟨g1,g2,g3⟩:=VL h2;obtain⟨a,cs,rfl,e2,e3,⟨e4,e4'⟩,e5⟩:=hx;have hg:n<(m:Int):=om
    refine⟨rfl,_,qb4 hu k1 e2 g1 hg,?_⟩;obtain⟨g4,g5⟩:=zT.1 g3;have:=PL e4' _ g4;rw[g5] at this;rw[k2];exact⟨_,_,rfl,rfl,e3,this,Oj _ _ e5⟩
   ·cases h
  ·rename_i id ver;split at h
   ·rename_i e aA fr s e1;rw[eT,wD,ze] at h;have⟨⟨h1,hc⟩,y,h2,h3⟩:=h;obtain⟨rfl,rfl⟩:=h3;have⟨ei,hu,_,he⟩:=Dw hc;have⟨ii,z,k1,_,k2,_⟩:=(hC.fD _ _ he).info;obtain⟨g1,g2,rfl⟩:=VM h2;have ho:=hm.ar id;unfold au at hx;rw[e1] at hx ho;have⟨h0,hx⟩:=hx;rcases hx (zo h1) with ⟨hn,rfl⟩|⟨hn,cap,rfl,e3,e4⟩
    ·rw[ho.2.1 hn] at g2;simp at g2;omega
    ·refine⟨rfl,_,VO hu k1 (a:=bare (φ id)) (Ir e4.1 om) g1 g2,?_⟩;unfold au;rw[e1,k2];exact⟨h0,fun _=>⟨by omega,by simp[kY,bare]⟩⟩
   ·cases h
  ·rename_i id ver p cp;split at h
   ·rename_i e aA fr s e1;rw[eT,wD,ze] at h;have⟨⟨h1,hc⟩,y,h2,h3⟩:=h;obtain⟨rfl,rfl⟩:=h3;have⟨ei,hu,_,he⟩:=Dw hc;have⟨ii,z,k1,_,k2,_⟩:=(hC.fD _ _ he).info;obtain⟨g1,g2,rfl⟩:=VM h2;have ho:=hm.ar id;unfold au at hx;rw[e1] at hx ho;have⟨h0,hx⟩:=hx;have⟨hp,hx,_⟩:=hx (zo h1);have IA:n<(p:Int):=by
     have:(lf.aP s.l p).length=p:=by simp[lf,aP,Nat.min_eq_left hp]
     omega
    rcases hx with ⟨hn,rfl⟩|⟨hn,cap,rfl,e3,e4⟩
    ·rw[ho.2.1 hn] at hp;simp at hp;omega
    ·refine⟨rfl,_,VO hu k1 (a:=bare (φ id)) (Ir e4.1 om) g1 IA,?_⟩;unfold au;rw[e1,k2];exact⟨h0,fun _=>⟨by omega,by simp[kY,bare]⟩⟩
   ·cases h
  ·rename_i id ver lo;split at h
   ·rename_i e aA fr s e1;rw[eT,wD,ze] at h;obtain⟨⟨h1,hc⟩,y,h2,h3⟩:=h;obtain⟨rfl,rfl⟩:=h3;obtain⟨ei,hu,_,he⟩:=Dw hc;obtain⟨ii,z,k1,_,k2,_⟩:=(hC.fD _ _ he).info;have h2:aL (cD 0 n) (cj s.l (bL lo n)) none=some y:=h2;have hf:0<=n:=by
     cases h:cD 0 n with
     |true=>exact zZ h
     |false=>rw[h] at h2;cases h2
    have h2:cj s.l (bL lo n)=some y:=by have:cD 0 n=true:=zw hf;rw[this] at h2;exact h2
    obtain⟨g1,g2,rfl⟩:=VM h2;unfold bL at g1 g2;have ho:=hm.ar id;unfold au at hx;rw[e1] at hx ho;obtain⟨h0,hx⟩:=hx;obtain⟨kk,rfl,hk,hx⟩:=hx (zo h1);rcases hx with ⟨hn,rfl⟩|⟨hn,cap,rfl,e3⟩
    ·rw[ho.2.1 hn] at g2;simp at g2;omega
    ·have hj:cap≠0:=om
     rw[zj hj];refine⟨rfl,_,VO hu k1 (a:=⟨(φ id).block,(φ id).off+kk*aB e,none⟩) rfl hf (show n<((s.l.length-kk:Nat):Int) by omega),?_⟩;unfold au;rw[e1,k2];have e4:(bL (kk:Int) n).toNat=kk+n.toNat:=by unfold bL;omega
     refine⟨h0,fun _=>⟨by rw[e4];omega,?_⟩⟩;rw[e4,jY];simp[kY,Nat.add_assoc]
   ·cases h
  ·rename_i id;split at h
   ·rename_i e fr s e1;split at h
    ·rename_i m e' ha;rw[eT] at h;obtain⟨h1,y,h2,h3⟩:=h;obtain⟨rfl,rfl⟩:=h3;have:=jb (P0 h1);subst this;obtain⟨ei,hu,_,he⟩:=qj2 ha;obtain⟨ii,z,k1,_,k2,_⟩:=(hC.fD _ _ he).info;obtain⟨q,h3,h4⟩:=Dx h2;obtain⟨g1,g2,rfl⟩:=VM h4;obtain⟨_,h5,_⟩:=VN h3;have h5:n+1<=(m:Int):=h5;unfold au at hx;rw[e1] at hx;have:=hx rfl;subst this;refine⟨rfl,_,qb4 hu k1 rfl g1 (by show n<(m:Int);omega),?_⟩;unfold au;rw[e1,k2];exact⟨zm _,fun _=>⟨by omega,by simp[kY]⟩⟩
    ·cases h
   ·cases h
  ·cases h
theorem zbx(hm:MRel C X φ o w){ty:TypeId}{ts:List TypeId}(hx:au φ o (ag X φ o w) w x z)(h:(zip lf C o t x).aD v u):u=[]/\rV C.P φ o (ag X φ o w) w v (Builtin.len_ (t::ts).toArray ty #[z]):=by
 have bd:∀n:Nat,n<=cG->iI .i64 (n:Int):=by intro n hn;unfold cG at hn;unfold iI IntKind.min IntKind.max;simp[IntKind.signed,IntKind.bits];omega
 unfold zip at h;split at h
 ·rename_i hd;have hu:=nV hd;split at h
  ·rename_i l;obtain⟨rfl,rfl⟩:=h;obtain⟨s,rfl,rfl,hs⟩:=rU hx;exact⟨rfl,goInt (s.data.toList.map fun b=>(b.toNat:Int)).length,by simp[Builtin.len_,run_underlying hu],oG (bd _ (by simp_all))⟩
  ·cases h
 ·rename_i e hd;have hu:=nV hd;split at h
  ·rename_i e s;obtain⟨rfl,rfl⟩:=h;have⟨h1,h2⟩:=GQ hx;refine⟨rfl,goInt s.l.length,?_,oG (bd _ h1)⟩;rcases h2 with ⟨_,h3,rfl⟩|⟨_,a,cap,ec,rfl,_⟩
   ·simp[Builtin.len_,run_underlying hu,h3]
   ·simp[Builtin.len_,run_underlying hu]
  ·rw[kg] at h;obtain⟨rfl,rfl⟩:=h;have:=hx;subst this;exact⟨rfl,goInt 0,by simp[Builtin.len_,run_underlying hu],oG (bd 0 om)⟩
  ·split at h
   ·rename_i e s he;obtain⟨rfl,rfl⟩:=h;have⟨⟨h1,h2⟩,_⟩:=VF hm.ar hx he;refine⟨rfl,goInt s.l.length,?_,oG (bd _ h1)⟩;rcases h2 with ⟨_,h3,rfl⟩|⟨_,a,cap,ec,rfl,_⟩
    ·simp[Builtin.len_,run_underlying hu,h3]
    ·simp[Builtin.len_,run_underlying hu]
   ·cases h
 ·rename_i n e hd;have hu:=nV hd;rw[eT] at h;obtain⟨h1,rfl,rfl⟩:=h;have h1:=zP h1;refine⟨rfl,goInt n,?_,oG (bd n (by unfold cG;omega))⟩;simp[Builtin.len_,run_underlying hu]
 ·cases h
end
section
variable {P:Program} {C:Cx} {X:Nat→Prop} {φ:Nat→Addr} {o:Nat→Obj} {w:World} {imm:Nat→Prop}
def ck(C:Cx)(X:Nat->Prop)(φ:Nat->Addr)(o:Nat->Obj)(w:World)(v:V)(u:List (Nat×Obj))(s:Sem Value):Prop:=∃val w' φ',s.run C.P w=.ok val w'/\Comes C X φ φ' o u w w' v val
theorem ck.aW(hm:MRel C X φ o w){s:Sem Value}(h:u=[]/\rV C.P φ o (ag X φ o w) w v s):ck C X φ o w v u s:=by obtain⟨rfl,val,h1,h2⟩:=h;exact⟨val,w,φ,h1,.same hm h2⟩
def Bx(φ:Nat->Addr)(o:Nat->Obj)(imm:Nat->Prop)(w:World):Option V->Option Value->Prop
 |none,none=>True
 |some v,some z=>au φ o imm w v z
 |_,_=>False
theorem wE{d a:Int}{h:Option V}{z:Option Value}(hb:bd d h=some a)(hr:Bx φ o imm w h z):(z=none/\a=d)\/∃k,z=some (.int k a):=by
 cases h with
 |none=>cases z with
  |none=>exact .inl ⟨rfl,(jb hb).symm⟩
  |some _=>exact hr.elim
 |some v=>cases z with
  |none=>exact hr.elim
  |some z=>
   simp[bd] at hb;split at hb
   ·rename_i k n e;injection hb with hb;subst hb;exact .inr ⟨k,jd some (Qa e hr).1⟩
   ·cases hb
theorem IB{isS:Bool}{len cap:Nat}{lo:Option Value}{a b:Int}(hc:len<=cap)(ha:(lo=none/\a=0)\/∃k,lo=some (.int k a))(hb:(hi=none/\b=len)\/∃k,hi=some (.int k b))(h0:0<=a)(h1:a<=b)(h2:b<=len):(Instr.sliceBounds isS len cap lo hi none).run P w=.ok (a.toNat,b.toNat,cap) w:=by
 have h3:b<=(cap:Int):=om
 have h4:0<=b:=om
 have h5:(b.toNat:Int)=b:=om
 rcases ha with ⟨rfl,rfl⟩|⟨k,rfl⟩<;>rcases hb with ⟨rfl,rfl⟩|⟨k',rfl⟩
 ·simp[Instr.sliceBounds]
 ·simp[Instr.sliceBounds,Instr.sliceBound,asIntOf,h3,h4]
 ·simp[Instr.sliceBounds,Instr.sliceBound,asIntOf,h0,h1]
 ·simp[Instr.sliceBounds,Instr.sliceBound,asIntOf,h0,h1,h3,h4,h5]
theorem VP{len cap:Nat}{k':IntKind}{b:Int}(h0:0<=b)(h1:b<=cap):(Instr.sliceBounds true len cap none (some (.int k b)) (some (.int k' b))).run P w=.ok (0,b.toNat,b.toNat) w:=by
 have h5:(b.toNat:Int)=b:=om
 simp[Instr.sliceBounds,Instr.sliceBound,asIntOf,h0,h1,h5]
theorem zj5{a:Addr}(h:room w a n)(hm:m<=n):room w a m:=by have⟨c,el,lo,hi,h1,h2,h3⟩:=h;exact⟨c,el,lo,hi,h1,by omega,by omega⟩
def nK(fr:Nat)(o:Nat->Obj)(u:List (Nat×Obj)):Prop:=∀p,p∈u->fr<=p.1->p.1<fr+16->o p.1=.none
theorem Comes.By(hm:MRel C X φ o w)(hg:o fr=.none)(he:e≠.int .u8){nil:Bool}  (hz:(nil=true/\z=.slice none 0 0)\/(nil=false/\∃a:Addr,z=.slice (some a) 0 0)):∃φ',Comes C X φ φ' o [(fr,.vec e 0 false ⟨nil,[]⟩)] w w (.cC fr 0) z:=by
 have key:∀a:Addr,a.spot≠none->((nil=true/\z=.slice none 0 0)\/(nil=false/\z=.slice (some (bare a)) 0 0))->Comes C X φ (dR φ fr a) o [(fr,.vec e 0 false ⟨nil,[]⟩)] w w (.cC fr 0) z:=by
  intro a ha hz;have hc:∀i,i∈bU [(fr,Obj.vec e 0 false ⟨nil,[]⟩)]->i=fr:=fun i hi=>by simpa[bU] using hi
  have hf:aj o [(fr,Obj.vec e 0 false ⟨nil,[]⟩)] fr=.vec e 0 false ⟨nil,[]⟩:=gq;have hx:∀i,i∈bU [(fr,Obj.vec e 0 false ⟨nil,[]⟩)]->aV (dR φ fr a i) (aj o [(fr,.vec e 0 false ⟨nil,[]⟩)] i)=true->False:=fun i hi hx=>by rw[hc i hi,hf,gq] at hx;exact ha (Ey hx).2.2
  refine Comes.make hm (zm _) (fun _ _ _=>rfl) (fun id hk=>nJ fun e=>hk (by rw[e];exact zg ..)) (fun id _ hk=>nJ fun e=>hk (by rw[e];exact zg ..)) (fun i hi=>?_) (fun i hi h=>(hx i hi h).elim) (fun i j hi hj h1 _ _ _=>(hx i hi h1).elim) (fun h1 h2 h3 i hi=>?_) (fun i hi=>?_) (fun _ _ _=>?_)
  ·rw[hc i hi,hg];trivial
  ·rw[hc i hi,hf];exact⟨zC _,fun _=>rfl,fun _=>.inr ⟨by rw[gq];exact ha,rfl,he⟩⟩
  ·rw[hc i hi,hf];exact fun h=>absurd h he
  ·unfold au;rw[hf,gq];refine⟨zm _,fun _=>?_⟩;rcases hz with ⟨h1,h2⟩|⟨h1,h2⟩
   ·exact .inl ⟨h1,h2⟩
   ·exact .inr ⟨h1,0,h2,zm _,fun _=>rfl,fun _ h=>absurd h ha⟩
 rcases hz with ⟨h1,h2⟩|⟨h1,a,h2⟩
 ·exact⟨_,key ⟨0,0,some 0⟩ (by simp) (.inl ⟨h1,h2⟩)⟩
 ·exact⟨_,key (mark a) (z5d a) (.inr ⟨h1,by rw[z5c];exact h2⟩)⟩
theorem zby{l:List (den e)}{a:Nat}(hb:b<=l.length)(hc:a<=b)(h:bT (az imm w e) l ec):bT (az imm w e) ((l.take b).drop a) ((ec.drop (a*aB e)).take ((b-a)*aB e)):=by
 have h1:=(xK a om h).2;have h2:=(xK (b-a) (by simp;omega) h1).1
 rwa [Zq]
theorem qzj(hC:cS C){ei:TypeId}(hu:C.P.underlying t=some (.slice ei))(he:C.ty ei=some e){s:Sl (den e)}  (hx:au φ o imm w (.d (.sl e) s) z) {lo:Option Value} {a b:Int} {m:List (den e)} (hk:(lo=none/\a=0)\/∃k,lo=some (.int k a)) (hg:(hi=none/\b=s.l.length)\/∃k,hi=some (.int k b)) (hm:bS s.l a b=some m):∃val,(Instr.sliceAt t z lo hi none).run C.P w=.ok val w/\au φ o imm w (.d (.sl e) (⟨s.nil,m⟩:Sl (den e))) val:=by
 obtain⟨h0,h1,h2,rfl⟩:=qty hm;have⟨ii,zz,k1,_,k2,_⟩:=(hC.fD _ _ he).info;have⟨hl,hs⟩:=GQ hx;have hf:((s.l.take b.toNat).drop a.toNat).length=b.toNat-a.toNat:=by simp;omega
 rcases hs with ⟨g1,g2,rfl⟩|⟨g1,ad,cap,ec,rfl,g2,g3,g4,g5,g6⟩
 ·rw[g2] at h2;have e1:a=0:=by simp at h2;omega
  have e2:b=0:=by simp at h2;omega
  have hb:=IB (P:=C.P) (w:=w) (isS:=true) (len:=0) (cap:=0) (zm _) hk (by rw[g2] at hg;exact hg) h0 h1 (by simp_all);refine⟨.slice none 0 0,?_,?_⟩
  ·simp[Instr.sliceAt,run_underlying hu,Instr.slice,hb,kZ k1,e1,e2]
  ·exact⟨_,rfl,by simp[g2],.inl ⟨g1,by simp[g2],rfl⟩⟩
 ·have hb:=IB (P:=C.P) (w:=w) (isS:=true) g6 hk hg h0 h1 h2;refine⟨.slice (some (if cap=a.toNat then ad else ad.add (a.toNat*aB e))) (b.toNat-a.toNat) (cap-a.toNat),?_,?_⟩
  ·simp[Instr.sliceAt,run_underlying hu,Instr.slice,hb,kZ k1,k2];split<;>rfl
  ·refine⟨_,rfl,by rw[hf];omega,.inr ⟨g1,?_⟩⟩;rw[hf];by_cases hc:cap=a.toNat
   ·rw[zu hc];have e1:=jl (by rw[hf];omega);exact⟨ad,_,[],rfl,fun h=>g2 om,fun h=>absurd e1 h,by rw[e1];rfl,fun j hj=>absurd hj (by simp),by omega⟩
   ·rw[zj hc,u7 (g2 om)];exact⟨_,_,_,rfl,fun _=>rfl,fun h=>g3 (fun e=>h (by rw[e];simp)),zby om om g4,Oj _ _ g5,by omega⟩
theorem z2v(hC:cS C)(hm:MRel C X φ o w){lo hi mx:Option V}{Dy Qb VQ:Option Value}  (hx:au φ o (ag X φ o w) w x z) (ht:Bx φ o (ag X φ o w) w lo Dy) (hw:Bx φ o (ag X φ o w) w hi Qb) (hz:Bx φ o (ag X φ o w) w mx VQ) (h:(YO lf C o fr t x lo hi mx).aD v u) (hf:nK fr o u):ck C X φ o w v u (Instr.sliceAt t z Dy Qb VQ):=by
 have hk:mx=none->VQ=none:=by
  rintro rfl;cases VQ with
  |none=>rfl
  |some _=>exact hz.elim
 unfold YO at h;split at h
 ·rename_i l;have:=hk rfl;subst this;split at h
  ·rename_i a b ha hb;rw[eT,wD] at h;obtain⟨h1,y,h2,h3⟩:=h;obtain⟨rfl,rfl⟩:=h3;refine ck.aW hm ⟨rfl,?_⟩;obtain⟨s,rfl,rfl,hs⟩:=rU hx;have hu:C.P.underlying t=some .string:=by unfold Vf at h1;split at h1<;>first|(rename_i e;exact nV e)|cases h1
   obtain⟨h0,h1,h4,rfl⟩:=qty h2;have hA:(s.data.toList.map fun b=>(b.toNat:Int)).length=s.size:=by simp
   rw[hA] at h4;have e1:lf.n (s.data.toList.map fun b=>(b.toNat:Int))=(s.size:Int):=by simp[lf,aa]
   rw[e1] at hb;have hb:=IB (P:=C.P) (w:=w) (isS:=false) (zm _) (wE ha ht) (wE hb hw) h0 h1 h4;refine⟨.string (s.extract a.toNat b.toNat),?_,Od ?_ ?_⟩
   ·simp[Instr.sliceAt,run_underlying hu,Instr.slice,hb]
   ·rw[ByteArray.data_extract,Array.toList_extract,List.extract_eq_take_drop,List.map_take,List.map_drop,Zq]
   ·rw[Zv];omega
  ·cases h
 ·rename_i e s;have:=hk rfl;subst this;split at h
  ·rename_i a b ha hb;rw[eT] at h;have⟨h1,y,h2,h3⟩:=h;obtain⟨rfl,rfl⟩:=h3;have⟨ei,hu,_,he⟩:=Dw h1;have⟨val,g1,g2⟩:=qzj hC hu he hx (wE ha ht) (wE hb hw) h2;exact ck.aW hm ⟨rfl,val,g1,g2⟩
  ·cases h
 ·rename_i e s _;split at h
  ·rename_i b c hb hc;rw[eT,wD,ze] at h;obtain⟨⟨h1,hJ⟩,y,h2,h3⟩:=h;obtain⟨rfl,rfl⟩:=h3;have hF:e≠.int .u8:=fun h=>by subst h;cases hJ
   have hG:o fr=.none:=hf _ (zg ..) (zm _) om;have h2:aL (ah b 0) (aL (ah c 0) (some ()) none) none=some y:=h2;have hK:b=0:=by
    cases h:ah b 0 with
    |true=>simpa[ah] using h
    |false=>rw[h] at h2;cases h2
   have hL:c=0:=by
    cases h:ah c 0 with
    |true=>simpa[ah] using h
    |false=>rw[h] at h2;cases hh:ah b 0<;>rw[hh] at h2<;>cases h2
   subst hK hL;have hq:Dy=none:=by
    cases Dy with
    |none=>rfl
    |some _=>exact ht.elim
   subst hq;obtain⟨kb,rfl⟩:=(wE hb hw).resolve_left fun h=>by cases h.2
   obtain⟨kc,rfl⟩:=(wE hc hz).resolve_left fun h=>by cases h.2
   obtain⟨ei,hu,_,he⟩:=Dw h1;obtain⟨ii,zz,k1,_,k2,_⟩:=(hC.fD _ _ he).info;obtain⟨hl,hs⟩:=GQ hx;rcases hs with ⟨g1,g2,rfl⟩|⟨g1,ad,cap,ec,rfl,g2,g3,g4,g5,g6⟩
   ·obtain⟨φ',hh⟩:=Comes.By hm hG hF (nil:=s.nil) (z:=.slice none 0 0) (.inl ⟨g1,rfl⟩);have hg:=VP (P:=C.P) (w:=w) (len:=0) (cap:=0) (k:=kb) (k':=kc) (b:=0) (jQ _) (jQ _);refine⟨.slice none 0 0,w,φ',?_,hh⟩;simp[Instr.sliceAt,run_underlying hu,Instr.slice,hg,kZ k1]
   ·obtain⟨φ',hh⟩:=Comes.By hm hG hF (nil:=s.nil) (z:=.slice (some ad) 0 0) (.inr ⟨g1,ad,rfl⟩);have hg:=VP (P:=C.P) (w:=w) (len:=s.l.length) (cap:=cap) (k:=kb) (k':=kc) (b:=0) (jQ _) om;refine⟨.slice (some ad) 0 0,w,φ',?_,hh⟩;simp[Instr.sliceAt,run_underlying hu,Instr.slice,hg,kZ k1]
  ·cases h
 ·rename_i id ver _;split at h
  ·rename_i e aA fz s e1;rw[eT,ze] at h;obtain⟨⟨h1,hB⟩,h⟩:=h;obtain⟨ei,hu,_,he⟩:=Dw hB;obtain⟨ii,zz,k1,_,k2,_⟩:=(hC.fD _ _ he).info;split at h
   ·rename_i b c hb hc;obtain⟨p,h2,h3⟩:=h;obtain⟨rfl,rfl⟩:=h3;obtain⟨p',h2,h4⟩:=Dx h2;obtain⟨h0,h3,rfl⟩:=VN h2;have h3:b<=(s.l.length:Int):=h3;have h4:aL (ah b c) (some b.toNat) none=some p:=h4;have hM:b=c:=by
     cases h:ah b c with
     |true=>simpa[ah] using h
     |false=>rw[h] at h4;cases h4
    subst hM;have hp:p=b.toNat:=by
     have:ah b b=true:=by simp[ah]
     rw[this] at h4;exact(jb h4).symm
    subst hp;refine ck.aW hm ⟨rfl,?_⟩;have ho:=hm.ar id;unfold au at hx;rw[e1] at hx ho;obtain⟨hv,hx⟩:=hx;have hq:Dy=none:=by
     cases Dy with
     |none=>rfl
     |some _=>exact ht.elim
    subst hq;obtain⟨kb,rfl⟩:=(wE hb hw).resolve_left fun h=>by have:=h.2;omega
    obtain⟨kc,rfl⟩:=(wE hc hz).resolve_left fun h=>by have:=h.2;omega
    rcases hx (zo h1) with ⟨hn,rfl⟩|⟨hn,cap,rfl,e3,e5,e4⟩
    ·have hy:=ho.2.1 hn;rw[hy] at h3;have e2:b=0:=by simp at h3;omega
     subst e2;have hg:=VP (P:=C.P) (w:=w) (len:=0) (cap:=0) (k:=kb) (k':=kc) (b:=0) (jQ _) (jQ _);refine⟨.slice none 0 0,?_,?_⟩
     ·simp[Instr.sliceAt,run_underlying hu,Instr.slice,hg,kZ k1]
     ·unfold au
      grind
    ·have hg:=VP (P:=C.P) (w:=w) (len:=s.l.length) (cap:=cap) (k:=kb) (k':=kc) h0 om;refine⟨.slice (some (bare (φ id))) b.toNat b.toNat,?_,?_⟩
     ·simp[Instr.sliceAt,run_underlying hu,Instr.slice,hg,kZ k1,Addr.add,bare]
     ·unfold au;rw[e1];refine⟨hv,fun _=>⟨by omega,.inr ⟨hn,b.toNat,rfl,zm _,fun h=>?_,fun h1 h2=>?_⟩,fun _ a m c h=>?_⟩⟩
      ·have:=e5 h;omega
      ·exact zj5 (e4 h1 h2) (jt _ om)
      ·injection h with _ _ h;exact h.symm
   ·cases h
  ·cases h
 ·rename_i id ver;have:=hk rfl;subst this;split at h
  ·rename_i e aA fr s e1;rw[eT,ze] at h;obtain⟨⟨h1,hB⟩,h⟩:=h;obtain⟨ei,hu,_,he⟩:=Dw hB;obtain⟨ii,zz,k1,_,k2,_⟩:=(hC.fD _ _ he).info;split at h
   ·split at h
    ·rename_i b hb;rw[wD] at h;obtain⟨p,h2,h3⟩:=h;obtain⟨rfl,rfl⟩:=h3;obtain⟨h0,h3,rfl⟩:=VN h2;have h3:b<=(s.l.length:Int):=h3;refine ck.aW hm ⟨rfl,?_⟩;have ho:=hm.ar id;unfold au at hx;rw[e1] at hx ho;obtain⟨hv,hx⟩:=hx;have hq:Dy=none:=by
      cases Dy with
      |none=>rfl
      |some _=>exact ht.elim
     subst hq;rcases hx (zo h1) with ⟨hn,rfl⟩|⟨hn,cap,rfl,e3,e4⟩
     ·have hy:=ho.2.1 hn;rw[hy] at h3;have e2:b=0:=by simp at h3;omega
      have hH:=wE hb hw;have e5:lf.n s.l=0:=by rw[hy];rfl
      rw[e5] at hH;have hg:=IB (P:=C.P) (w:=w) (isS:=true) (len:=0) (cap:=0) (lo:=none) (hi:=Qb) (a:=0) (b:=b) (zm _) (.inl ⟨rfl,rfl⟩) hH (jQ _) om om;refine⟨.slice none 0 0,?_,?_⟩
      ·simp[Instr.sliceAt,run_underlying hu,Instr.slice,hg,kZ k1,e2]
      ·unfold au;rw[e1,e2];exact⟨hv,fun _=>⟨zC _,.inl ⟨hn,rfl⟩,by simp⟩⟩
     ·have hg:=IB (P:=C.P) (w:=w) (isS:=true) (lo:=none) (a:=0) e3 (.inl ⟨rfl,rfl⟩) (wE hb hw) (jQ _) h0 h3;refine⟨.slice (some (bare (φ id))) b.toNat cap,?_,?_⟩
      ·simp[Instr.sliceAt,run_underlying hu,Instr.slice,hg,kZ k1,Addr.add,bare]
      ·unfold au;rw[e1];exact⟨hv,fun _=>⟨by omega,.inr ⟨hn,cap,rfl,by omega,e4⟩,by simp⟩⟩
    ·cases h
   ·rename_i Dn;split at h
    ·split at h
     ·rename_i a ha;obtain⟨p,h2,h3⟩:=h;obtain⟨rfl,rfl⟩:=h3;obtain⟨h0,h3,_⟩:=VN h2;have h3:a<=(s.l.length:Int):=h3;refine ck.aW hm ⟨rfl,?_⟩;have ho:=hm.ar id;unfold au at hx;rw[e1] at hx ho;obtain⟨hv,hx⟩:=hx;have hD:Qb=none:=by
       cases Qb with
       |none=>rfl
       |some _=>exact hw.elim
      subst hD;have hN:a.toNat<=s.l.length:=om
      have hO:a=((a.toNat:Nat):Int):=om
      rcases hx (zo h1) with ⟨hn,rfl⟩|⟨hn,cap,rfl,e3,e4⟩
      ·have hy:=ho.2.1 hn;rw[hy] at h3;have e2:a=0:=by simp at h3;omega
       subst e2;have hg:=IB (P:=C.P) (w:=w) (isS:=true) (len:=0) (cap:=0) (lo:=Dy) (hi:=none) (a:=0) (b:=0) (zm _) (wE ha ht) (.inl ⟨rfl,rfl⟩) (jQ _) (jQ _) (jQ _);refine⟨.slice none 0 0,?_,?_⟩
       ·simp[Instr.sliceAt,run_underlying hu,Instr.slice,hg,kZ k1]
       ·unfold au;rw[e1];exact⟨hv,fun _=>⟨0,rfl,zC _,.inl ⟨hn,rfl⟩⟩⟩
      ·have hg:=IB (P:=C.P) (w:=w) (isS:=true) (len:=s.l.length) (cap:=cap) (lo:=Dy) (hi:=none) (a:=a) (b:=s.l.length) e3 (wE ha ht) (.inl ⟨rfl,rfl⟩) h0 h3 (jQ _);refine⟨.slice (some (if cap-a.toNat=0 then bare (φ id) else⟨(φ id).block,(φ id).off+a.toNat*aB e,none⟩)) (s.l.length-a.toNat) (cap-a.toNat),?_,?_⟩
       ·simp[Instr.sliceAt,run_underlying hu,Instr.slice,hg,kZ k1,k2];by_cases hc:cap=a.toNat
        ·rw[zu hc,zu om]
        ·rw[zj hc,zj om,u7 (Ir e4.1 om)];rfl
       ·unfold au;rw[e1];exact⟨hv,fun _=>⟨a.toNat,hO,hN,.inr ⟨hn,cap-a.toNat,rfl,by omega⟩⟩⟩
     ·cases h
    ·split at h
     ·rename_i a b ha hb;obtain⟨y,h2,h3⟩:=h;obtain⟨rfl,rfl⟩:=h3;have hE:=P5 hm [id];have e2:eY o [id]=[(id,.vec e aA true s)]:=by simp[eY,e1]
      have hP:=hE.keeps _ _ hx;have hQ:Ix (aj o (eY o [id])) (.cC id ver):=VG (fun j hj=>by
       unfold ig at hj;split at hj
       ·cases hj
       ·exact hj)
      have hI:ri lf o (.sl e) (.cC id ver)=some s:=by
       simp only[ri,e1,h1,zK];unfold iO;split
       all_goals grind
      rw[<-GU [id]] at hI;have hd:=zj3 hE.mem hP hQ hI;obtain⟨val,g1,g2⟩:=qzj hC hu he hd (wE ha ht) (wE hb hw) h2;refine⟨val,w,φ,g1,?_⟩;rw[<-e2];exact {hE with val:=g2}
     ·cases h
  ·cases h
 ·cases h
theorem zbz{c:Bool}{a b:V}{za zb:Value}(ha:au φ o imm w a za)(hb:au φ o imm w b zb):au φ o imm w (YX lf c a b) (if c then za else zb):=by
 unfold YX;split
 ·rename_i t a' t' b';split
  ·rename_i b'' e;obtain⟨rfl,rfl⟩:=Bv e;cases c
   ·exact hb
   ·exact ha
  grind
 grind
theorem zc0(hx:au φ o imm w x z)(h:(N2 o x).aD v u):u=[]/\v=x/\((∃a,z=.pointer (some a))\/(∃f p c,z=.func (.func f) p c)):=by
 unfold N2 at h;split at h
 ·rw[eT] at h;obtain⟨h1,rfl,rfl⟩:=h;exact⟨rfl,rfl,.inl (qmb hx h1)⟩
 ·rw[kg] at h;obtain⟨rfl,rfl⟩:=h;have⟨a,cs,h1,_⟩:=hx
  grind
 ·rename_i id ver i path;split at h
  ·rename_i e1;rw[eT] at h;obtain⟨h1,rfl,rfl⟩:=h;unfold au at hx
   simp_all
  ·cases h
 ·rw[kg] at h;obtain⟨rfl,rfl⟩:=h;have⟨c,h1,_⟩:=hx;exact⟨rfl,rfl,.inr ⟨_,_,_,h1⟩⟩
 ·cases h
end
def ov(l:List Value)(off:Nat)(vs:List Value):List Value:=l.take off++vs++l.drop (off+vs.length)
theorem zmr(l:List Value)(off:Nat):ov l off []=l:=by simp[ov]
theorem z5l(l:List Value)(off:Nat)(v:Value)(vs:List Value)(h:off+(vs.length+1)<=l.length):ov (l.set off v) (off+1) vs=ov l off (v::vs):=list_seg_step l off v vs h
theorem qmg(l:List Value)(off:Nat)(vs:List Value)(h:off+vs.length<=l.length):(ov l off vs).length=l.length:=by simp[ov];omega
theorem z5m:∀(vs:List Value) (off k:Nat) (cs:Array Value),off+k+vs.length<=cs.size->(vs.zipIdx k).foldl (fun cs p=>cs.setIfInBounds (off+p.2) p.1) cs=(ov cs.toList (off+k) vs).toArray
 |[],off,k,cs,_=>by simp[ov]
 |v::vs,off,k,cs,h=>by simp[List.zipIdx_cons,List.foldl_cons];rw[z5m vs off (k+1) _ (by simp at h ⊢;omega),ZI,<-jr,z5l];simp at h ⊢;omega
theorem qtz(place:Nat->Option (Nat×Nat))(cells:Array Value)(i:Nat)(v:Value)(rest:List (Nat×Value)){sz:Nat}(hp:place i=some (off,sz))(hs:v.cells.size=sz)(hb:off+sz<=cells.size):Instr.fill place cells ((i,v)::rest)=Instr.fill place (ov cells.toList off v.cells.toList).toArray rest:=by
 have e:(v.cells.zipIdx.foldl (fun cs p=>cs.setIfInBounds (off+p.2) p.1) cells)=(ov cells.toList off v.cells.toList).toArray:=by
  have:=z5m v.cells.toList off 0 cells (by simp;omega)
  rwa [<-Array.foldl_toList,Array.toList_zipIdx]
 simp[Instr.fill,hp]
 grind
theorem z2w(w:World)(b i:Nat)(cs:Array Value)(t:TypeId)(fr:Nat×Nat)(v:Value)(hg:w.heap[b]?=some (.cells cs t fr)):w.setCell ⟨b,i,none⟩ v=w.setRow b (cs.setIfInBounds i v):=setCell_eq_setRow w b i cs t fr v hg
section
variable {P:Program} {C:Cx} {X:Nat→Prop} {φ φ':Nat→Addr} {o:Nat→Obj} {w w':World} {imm:Nat→Prop}
theorem Qc{b off lo hi:Nat}{t:TypeId}:∀(vs:List Value) (i:Nat) (cur:Array Value) (w:World),w.heap[b]?=some (.cells cur t (lo,hi))->off+i+vs.length<=cur.size->(hi<=lo\/hi<=off+i\/off+i+vs.length<=lo)->(∀v∈vs,v.oneCell'=true)->(storeCells ⟨b,off,none⟩ vs i).run P w=.ok () (w.setRow b (ov cur.toList (off+i) vs).toArray)
 |[],i,cur,w,hg,_,_,_=>by simp only[storeCells,zmr,ZH];rw[setRow_self w b cur t (lo,hi) hg];rfl
 |v::rest,i,cur,w,hg,hl,hf,h1=>by
  have he:(⟨b,off,none⟩:Addr).add i=⟨b,off+i,none⟩:=u7 rfl i;simp[List.length_cons] at hl hf;have ru:off+i<cur.size:=om
  have hc:w.cell? ⟨b,off+i,none⟩=some cur[off+i]:=by simp[World.cell?,hg,ru]
  have hj:w.frozen? ⟨b,off+i,none⟩=false:=by simp[World.frozen?,hg,decide_eq_false_iff_not];omega
  have hk:(store ((⟨b,off,none⟩:Addr).add i) v).run P w=.ok () (w.setRow b (cur.setIfInBounds (off+i) v)):=by rw[he,run_store P w _ v _ (h1 v (by simp)),hc];simp[hj,z2w w b (off+i) cur t (lo,hi) v hg]
  have ih:=Qc (off:=off) (lo:=lo) (hi:=hi) rest (i+1) (cur.setIfInBounds (off+i) v) (w.setRow b (cur.setIfInBounds (off+i) v)) (setRow_heap w b cur _ t _ hg) (by simp;omega) om (fun x hx=>h1 x (by simp[hx]));simp only[storeCells,Sem.run_bind,hk,Result.andThen_ok,ih,setRow_setRow];rw[ZI,show off+(i+1)=off+i+1 by omega,z5l _ _ _ _ (by simp;omega)]
theorem VR{cur:Array Value}{fr:Nat×Nat}(h:w.heap[b]?=some (.cells cur t fr))(cs:Array Value):(w.setRow b cs).heap[b]?=some (.cells cs t fr):=setRow_heap w b cur cs t fr h
theorem VS{l m:List (den e)}{cs:List Value}{i:Nat}(hi:i+m.length<=l.length)(h:bT (az imm w e) l cs)(h':bT (az imm w e) m ds):bT (az imm w e) (l.take i++m++l.drop (i+m.length)) (ov cs (i*aB e) ds):=by unfold ov;have h1:=(xK i om h).1;have h2:=(xK (i+m.length) hi h).2;rw[rR h',<-jY];exact PK (PK h1 h') h2
theorem IC:∀(t:Ty) (x:den t) (cs:List Value),az imm w t x cs->∀v,v∈cs->v.oneCell'=true
 |.unit,_,_,h,v,hv=>by simp[az] at h;subst h;cases hv
 |.pair a b,x,_,⟨c,d,e,h1,h2⟩,v,hv=>by
  subst e;rcases zD.1 hv with hv|hv
  ·exact IC a x.1 c h1 v hv
  ·exact IC b x.2 d h2 v hv
 |.st p,x,cs,h,v,hv=>IC p x cs h v hv
 |.arr n e,l,cs,⟨_,h2⟩,v,hv=>by
  have key:∀(l:List (den e)) (cs:List Value),bT (az imm w e) l cs->∀v,v∈cs->v.oneCell'=true:=by
   intro l
   induction l with
   |nil=>intro cs h v hv;simp[bT] at h;subst h;cases hv
   |cons y l ih=>
    intro cs ⟨c,d,e1,h3,h4⟩ v hv;subst e1;rcases zD.1 hv with hv|hv
    ·exact IC e y c h3 v hv
    ·exact ih d h4 v hv
  exact key l cs h2 v hv
 |.int _,_,_,h,v,hv=>by have⟨h,_⟩:=h;subst h;simp at hv;subst hv;rfl
 |.bool,_,_,h,v,hv=>by subst h;simp at hv;subst hv;rfl
 |.gz,_,_,h,v,hv=>by subst h;simp at hv;subst hv;rfl
 |.fY,_,_,h,v,hv=>by subst h;simp at hv;subst hv;rfl
 |.str,_,_,⟨s,h,_⟩,v,hv=>by subst h;simp at hv;subst hv;rfl
 |.sl e,_,_,⟨x,h,_,h2⟩,v,hv=>by subst h;simp at hv;subst hv;rcases h2 with ⟨_,_,rfl⟩|⟨_,a,cap,ec,rfl,_⟩<;>rfl
theorem VT:∀{l:List (den e)} {cs:List Value},bT (az imm w e) l cs->∀v,v∈cs->v.oneCell'=true
 |[],cs,h,v,hv=>by simp[bT] at h;subst h;cases hv
 |y::l,cs,⟨c,d,e1,h3,h4⟩,v,hv=>by
  subst e1;rcases zD.1 hv with hv|hv
  ·exact IC e y c h3 v hv
  ·exact VT h4 v hv
theorem Comes.fresh(hm:MRel C X φ o w){B:Go.Obj}(he:w'.heap=w.heap.push B)(x:Obj){ns:List (Nat×Obj)}(hf:∀p,p∈ns->(∃e,p.2=.vec e 0 false ⟨true,[]⟩)/\p.1≠fr/\o p.1=.none)(hq:∀w',Up w w' (φ fr) ⟨w.heap.size,0,none⟩ (o fr) x)  (hs:(∀b,ag X φ o w b->ag X (dR φ fr ⟨w.heap.size,0,none⟩) (aj o ((fr,x)::ns)) w' b)->(∀b,ag X φ o w b->w'.heap[b]?=w.heap[b]?)->(∀y z,au φ o (ag X φ o w) w y z->au (dR φ fr ⟨w.heap.size,0,none⟩) (aj o ((fr,x)::ns)) (ag X (dR φ fr ⟨w.heap.size,0,none⟩) (aj o ((fr,x)::ns)) w') w' y z)->rS (dR φ fr ⟨w.heap.size,0,none⟩) (aj o ((fr,x)::ns)) (ag X (dR φ fr ⟨w.heap.size,0,none⟩) (aj o ((fr,x)::ns)) w') w' fr x) (hg:iQ C w' ⟨w.heap.size,0,none⟩ x) (hl:aj o ((fr,x)::ns) fr=x->au (dR φ fr ⟨w.heap.size,0,none⟩) (aj o ((fr,x)::ns)) (ag X (dR φ fr ⟨w.heap.size,0,none⟩) (aj o ((fr,x)::ns)) w') w' v z) (still:Bu w w':=by exact⟨rfl,rfl⟩):
  Comes C X φ (dR φ fr ⟨w.heap.size,0,none⟩) o ((fr,x)::ns) w w' v z:=by
 have hn:∀(ns:List (Nat×Obj)) (o':Nat->Obj) (id:Nat),(∀p,p∈ns->∃e,p.2=.vec e 0 false ⟨true,[]⟩)->id∈bU ns->∃e,aj o' ns id=.vec e 0 false ⟨true,[]⟩:=by
  intro ns
  induction ns with
  |nil=>intro o' id _ h;cases h
  |cons p r ih=>
   have⟨i,y⟩:=p;intro o' id hf h;by_cases hr:id∈bU r
   ·exact ih _ _ (fun p hp=>hf p (zf _ hp)) hr
   ·simp[bU,List.mem_cons,hr,or_false] at h;subst h;show ∃e,aj (dR o' id y) r id=_;rw[iR hr,gq]
    simp_all
 have hv:∀(ns:List (Nat×Obj)) id,id∈bU ns->∃p,p∈ns/\p.1=id:=by
  intro ns
  induction ns with
  |nil=>intro id h;cases h
  |cons p r ih=>
   intro id h;rcases zA.1 h with h|h
   all_goals grind
 have ht:fr∉bU ns:=fun h=>by grind
 have ho:aj o ((fr,x)::ns) fr=x:=by show aj (dR o fr x) ns fr=x;rw[iR ht,gq]
 have hc:∀id,id∈bU ns->∃e,aj o ((fr,x)::ns) id=.vec e 0 false ⟨true,[]⟩:=fun id h=>hn ns _ id (fun p hp=>(hf p hp).1) h;have hu:∀id,id∈bU ns->o id=.none:=fun id h=>by grind
 refine Comes.make hm (by rw[he];simp) (fun b hb _=>by rw[he,Array.getElem?_push,zj (Nat.ne_of_lt hb)]) (fun id hk=>?_) (fun id _ hk=>?_) (fun id hk=>?_) (fun id hk hx=>?_) (fun i j hi hj hw hy _ _=>?_) (fun h1 h2 h3 id hk=>?_) (fun id hk=>?_) (fun h1 h2 h3=>hl ho) still
 ·exact nJ fun e=>hk (e▸zg ..)
 ·exact nJ fun e=>hk (e▸zg ..)
 ·rcases zA.1 hk with rfl|hk
  ·rw[gq,ho];exact hq _
  ·rw[hu id hk];trivial
 ·rcases zA.1 hk with rfl|hk
  ·rw[gq];exact .inl ⟨zm _,by rw[he];simp⟩
  ·obtain⟨e,h⟩:=hc id hk;rw[h] at hx;simp[aV,live] at hx
 ·have key:∀i a,i∈bU ((fr,x)::ns)->aV a (aj o ((fr,x)::ns) i)=true->i=fr:=fun i a hk hx=>by
   rcases zA.1 hk with h|hk
   ·exact h
   ·have⟨e,h⟩:=hc i hk;rw[h] at hx;simp[aV,live] at hx
  grind
 ·rcases zA.1 hk with rfl|hk
  ·grind
  ·have⟨e,h⟩:=hc id hk;rw[h];exact⟨zC _,fun _=>rfl,fun h=>by simp at h⟩
 ·rcases zA.1 hk with rfl|hk
  ·rw[ho,gq];exact hg
  ·obtain⟨e,h⟩:=hc id hk;rw[h];exact fun _ h=>by simp at h
theorem Comes.write(hm:MRel C X φ o w){id:Nat}(x:Obj)(hx:aV (φ id) x=true->aV (φ id) (o id)=true)(hl:w'.heap.size=w.heap.size)(he:∀b,¬(aV (φ id) (o id)=true/\(φ id).block=b)->w'.heap[b]?=w.heap[b]?)(hn:Up w w' (φ id) (φ id) (o id) x)  (hf:(∀b,ag X φ o w b->ag X φ (aj o [(id,x)]) w' b)->(∀b,ag X φ o w b->w'.heap[b]?=w.heap[b]?)->(∀y z,au φ o (ag X φ o w) w y z->au φ (aj o [(id,x)]) (ag X φ (aj o [(id,x)]) w') w' y z)->rS φ (aj o [(id,x)]) (ag X φ (aj o [(id,x)]) w') w' id x) (hg:iQ C w' (φ id) x) (hc:aj o [(id,x)] id=x->au φ (aj o [(id,x)]) (ag X φ (aj o [(id,x)]) w') w' v z) (still:Bu w w':=by exact⟨rfl,rfl⟩):Comes C X φ φ o [(id,x)] w w' v z:=by
 have hk:aj o [(id,x)] id=x:=gq;have ho:∀i,i∈bU [(id,x)]->i=id:=fun i hi=>by simpa[bU] using hi
 refine Comes.make hm om (fun b _ hh=>he b fun⟨h1,h2⟩=>hh ⟨id,by simp[bU],h1,h2⟩) (fun _ _=>rfl) (fun _ _ _=>rfl) (fun i hi=>?_) (fun i hi h=>?_) (fun i j hi hj _ _ _ _=>?_) (fun h1 h2 h3 i hi=>?_) (fun i hi=>?_) (fun _ _ _=>hc hk) still
 all_goals grind
end
theorem z5n(h:z.oneCell'=true):z.cells=#[z]:=by cases z<;>first|rfl|(simp[Value.oneCell'] at h;done)
theorem qh1{o:Nat->Obj}:∀{a b:List V},xD o (a++b)=true->xD o a=true/\xD o b=true
 |[],b,h=>⟨rfl,h⟩
 |x::a,b,h=>by simp[List.cons_append,xD,Bool.and_eq_true] at h ⊢;have⟨h1,h2⟩:=qh1 h.2;exact⟨⟨h.1,h1⟩,h2⟩
section
variable {P:Program} {C:Cx} {X:Nat→Prop} {φ φ':Nat→Addr} {o o':Nat→Obj} {w w':World} {imm imm':Nat→Prop}
theorem qu0(hx:au φ o imm w x z)(h:NX o x=true):z.oneCell'=true:=by
 cases x<;>simp[NX] at h<;>try (cases h;done)
 ·rename_i t d;exact IC t d [z] (qtu h hx) z (zJ.2 rfl)
 ·rename_i id ver;unfold au at hx;split at h
  ·rename_i e;rw[e] at hx;rcases hx.2 (zo h) with ⟨_,rfl⟩|⟨_,cap,rfl,_⟩<;>rfl
  ·cases h
 ·rename_i id ver n cp;unfold au at hx;split at h
  ·rename_i e;rw[e] at hx;rcases(hx.2 (zo h)).2.1 with ⟨_,rfl⟩|⟨_,cap,rfl,_⟩<;>rfl
  ·cases h
 ·rename_i id off;unfold au at hx;split at h
  ·rename_i e;rw[e] at hx;simp at hx;subst hx;rfl
  ·rename_i e;rw[e] at hx;have:=hx (zo h).symm;subst this;rfl
  ·cases h
 ·rename_i id ver i path;unfold au at hx;split at h
  ·rename_i e;rw[e] at hx;have:=(hx.2 (zo h)).2;subst this;rfl
  ·cases h
 ·obtain⟨a,cs,rfl,_⟩:=hx;rfl
 ·have:=hx;subst this;rfl
 ·obtain⟨c,rfl,_⟩:=hx;rfl
 ·have:=hx;subst this;rfl
 ·have:=hx;subst this;rfl
 ·have:z=.slice none 0 0:=hx;subst this;rfl
 ·rename_i id b;unfold au at hx;split at h
  ·rename_i e;rw[e] at hx;simp at hx;subst hx;cases b<;>rfl
  ·cases h
 ·rename_i id ver lo;unfold au at hx;split at h
  ·rename_i e;rw[e] at hx;have⟨k,_,_,hx⟩:=hx.2 (zo h);rcases hx with ⟨_,rfl⟩|⟨_,cap,rfl,_⟩<;>rfl
  ·cases h
 ·rename_i id;unfold au at hx;split at h
  ·rename_i e;rw[e] at hx;simp at hx;subst hx;rfl
  ·cases h
 ·rename_i a k n;rcases VC a hx with ⟨rfl,_⟩|⟨_,_,rfl,_⟩<;>rfl
theorem qj3:∀{cs:List V} {zs:List Value},cu φ o imm w cs zs->xD o cs=true->∀z,z∈zs->z.oneCell'=true
 |[],zs,h,_,z,hz=>by simp[cu] at h;subst h;cases hz
 |x::l,zs,⟨y,r,e,h1,h2⟩,hs,z,hz=>by
  subst e;simp[xD,Bool.and_eq_true] at hs;rcases zA.1 hz with rfl|hz
  ·exact qu0 h1 hs.1
  ·exact qj3 h2 hs.2 z hz
theorem zj6:∀(p:Ty) (x:den p) (cs:List Value),az imm w p x cs->xD o (Bf p x)=true->cu φ o imm w (Bf p x) cs:=by
 have one:∀(t:Ty) (x:den t) (cs:List Value),nS t=true->az imm w t x cs->cu φ o imm w [.d t x] cs:=by intro t x cs hs h;obtain⟨v,rfl,h2⟩:=qmf hs h;exact⟨v,[],rfl,h2,rfl⟩
 intro p
 induction p with
 |unit=>intro x cs h _;exact h
 |pair a b rW mZ=>intro x cs ⟨c,d,e,h1,h2⟩ hs;subst e;have⟨g1,g2⟩:=qh1 (a:=Bf a x.1) (b:=Bf b x.2) hs;exact GX (rW _ _ h1 g1) (mZ _ _ h2 g2)
 |st p ih=>intro x cs h hs;exact ih x cs h hs
 |arr n e _=>intro x cs h hs;simp[Bf,xD,NX,nS] at hs
 |int k=>intro x cs h _;exact one _ _ _ rfl h
 |bool=>intro x cs h _;exact one _ _ _ rfl h
 |gz=>intro x cs h _;exact one _ _ _ rfl h
 |fY=>intro x cs h _;exact one _ _ _ rfl h
 |str=>intro x cs h _;exact one _ _ _ rfl h
 |sl e _=>intro x cs h _;exact one _ _ _ rfl h
theorem qg6(hx:au φ o imm w x z)(h:Py o x=some vs):cu φ o imm w vs z.cells.toList/\∀c,c∈z.cells.toList->c.oneCell'=true:=by
 unfold Py at h;split at h
 ·rename_i p y;cases hs:xD o (Bf p y) with
  |false=>rw[hs] at h;cases h
  |true=>rw[hs] at h;injection h with h;subst h;obtain⟨cs,rfl,h1⟩:=hx;have:=zj6 (φ:=φ) (o:=o) p y _ h1 hs;exact⟨this,qj3 this hs⟩
 ·rename_i cs;cases hs:xD o cs with
  |false=>rw[hs] at h;cases h
  |true=>rw[hs] at h;injection h with h;subst h;obtain⟨c,rfl,h1⟩:=hx;exact⟨h1,qj3 h1 hs⟩
 ·cases hs:NX o x with
  |false=>rw[hs] at h;cases h
  |true=>rw[hs] at h;injection h with h;subst h;have h1:=qu0 hx hs;rw[z5n h1];exact⟨⟨z,[],rfl,hx,rfl⟩,fun c hc=>by simp at hc;subst hc;exact h1⟩
theorem qrp:∀(ns:List (Nat×Obj)) (o':Nat->Obj) (id:Nat),(∀p,p∈ns->∃e,p.2=.vec e 0 false ⟨true,[]⟩)->id∈bU ns->∃e,aj o' ns id=.vec e 0 false ⟨true,[]⟩:=by
 intro ns
 induction ns with
 |nil=>intro o' id _ h;cases h
 |cons p r ih=>
  have⟨i,y⟩:=p;intro o' id hc h;by_cases hr:id∈bU r
  ·exact ih _ _ (fun p hp=>hc p (zf _ hp)) hr
  ·simp[bU,List.mem_cons,hr,or_false] at h;subst h;show ∃e,aj (dR o' id y) r id=_;rw[iR hr,gq]
   simp_all
theorem VU:∀{ns:List (Nat×Obj)} {p},p∈ns->p.1∈bU ns
 |q::r,p,h=>by
  rcases zA.1 h with rfl|h
  ·exact zg ..
  ·exact zf _ (VU h)
theorem VV:∀(cs:List V) (sl:List (Option Ty)) (i:Nat),(∀p,p∈(p9 i cs sl).2->(∃e,p.2=.vec e 0 false ⟨true,[]⟩)/\i<=p.1/\p.1<i+xF cs)/\(∀zs,cu φ o imm w cs zs->(∀y z,au φ o imm w y z->au φ' o' imm' w' y z)->(∀p,p∈(p9 i cs sl).2->∃e,o' p.1=.vec e 0 false ⟨true,[]⟩)->cu φ' o' imm' w' (p9 i cs sl).1 zs):=by
 intro cs
 induction cs with
 |nil=>
  intro sl i;have e:p9 i [] sl=([],[]):=by cases sl<;>rfl
  rw[e];exact⟨(fun p hp=>by cases hp),fun zs h _ _=>h⟩
 |cons c cs ih=>
  intro sl i;cases sl with
  |nil=>
   have e:p9 i (c::cs) []=(c::cs,[]):=by cases c<;>rfl
   rw[e];exact⟨(fun p hp=>by cases hp),fun zs h hk _=>EB hk _ _ h⟩
  |cons s sl=>
   have other:p9 i (c::cs) (s::sl)=(c::(p9 i cs sl).1,(p9 i cs sl).2)->(∀p,p∈(p9 i (c::cs) (s::sl)).2->(∃e,p.2=.vec e 0 false ⟨true,[]⟩)/\i<=p.1/\p.1<i+xF (c::cs))/\
     (∀zs,cu φ o imm w (c::cs) zs->(∀y z,au φ o imm w y z->au φ' o' imm' w' y z)->(∀p,p∈(p9 i (c::cs) (s::sl)).2->∃e,o' p.1=.vec e 0 false ⟨true,[]⟩)->
      cu φ' o' imm' w' (p9 i (c::cs) (s::sl)).1 zs):=by
    intro e;rw[e];have⟨h1,h2⟩:=ih sl i;refine⟨fun p hp=>?_,fun zs ⟨z,r,e1,h3,h4⟩ hk ho=>⟨z,r,e1,hk _ _ h3,h2 _ h4 hk ho⟩⟩;have⟨g1,g2,g3⟩:=h1 p hp;refine⟨g1,g2,?_⟩;have:xF cs<=xF (c::cs):=by cases c<;>simp[xF]
    omega
   cases c<;>try exact other rfl
   cases s with
   |none=>exact other rfl
   |some e=>
    have⟨h1,h2⟩:=ih sl (i+1);refine⟨fun p hp=>?_,fun zs ⟨z,r,e1,h3,h4⟩ hk ho=>?_⟩
    ·rcases zA.1 hp with rfl|hp
     ·exact⟨⟨e,rfl⟩,zm _,by simp[xF]⟩
     ·have⟨g1,g2,g3⟩:=h1 p hp;refine⟨g1,by omega,?_⟩;simp[xF];omega
    ·refine⟨z,r,e1,?_,h2 _ h4 hk fun p hp=>ho p (zf _ hp)⟩;have⟨e',hc⟩:=ho (i,.vec e 0 false ⟨true,[]⟩) (zg ..);unfold au;simp at hc;rw[hc];exact⟨zm _,fun _=>.inl ⟨rfl,h3⟩⟩
theorem qrq(hC:cS C)(h:C.ty t=some e)(he:e=.int .u8):C.P.underlying t=some (.int .u8):=by
 subst he;have⟨d,h0,h1,h2⟩:=(hC.fD _ _ h).desc;have hd:d=.int .u8:=by
  cases d<;>simp[pE] at h2<;>try (cases h2;done)
  rename_i k;cases k<;>first|rfl|(simp[uV] at h2;done)
 rw[h1,hd]
theorem qkb(h:Va e=true)(he:e=.int .u8):False:=by subst he;cases h
theorem qxb(h:rj (NY cs off vs)=true)(hv:rj vs=false):rj cs=true:=by
 unfold NY at h;cases off with
 |zero=>
  cases vs with
  |nil=>simpa using h
  |cons v r=>rw[List.take_zero] at h;cases v<;>first|(cases h;done)|(cases hv;done)
 |succ n=>
  cases cs with
  |nil=>cases vs with
   |nil=>simp[rj] at h
   |cons v r=>rw[List.take_nil] at h;cases v<;>first|(cases h;done)|(cases hv;done)
  |cons c cs=>cases c<;>first|rfl|(cases h;done)
theorem fH.setRow(h:w.heap[b]?=some (.cells c el fz)){cs:Array Value}(hs:cs.size=c.size):fH w (w.setRow b cs) b:=fun c0 el0 fz0 e=>by rw[h] at e;injection e with e;injection e with e1 e2 e3;subst e1 e2 e3;exact⟨cs,VR h cs,hs⟩
theorem fH.ov(h:w.heap[b]?=some (.cells c el fz))(hb:off+ds.length<=c.size):fH w (w.setRow b (ov c.toList off ds).toArray) b:=.setRow h (by have:=qmg c.toList off ds (by simp_all);simpa using this)
theorem VW(hm:MRel C X φ o w){id:Nat}{v v':Nat}{f f':Bool}{s s':Sl (den e)}(ho:o id=.vec e v f s)(hn:s.nil=false)(hk:fH w w' (φ id).block):iQ C w' (φ id) (.vec e v' f' s'):=fun ht _=>by
 have:=hm.uA id;rw[ho] at this;have⟨c,el,fz,h1,h2,h4⟩:=this ht hn;have⟨c',h3,h5⟩:=hk _ _ _ h1
 grind
theorem zj7(hm:MRel C X φ o w){id:Nat}{mO:List V}(ho:o id=.box cs)(hs:rj mO=true->rj cs=true)(hk:fH w w' (φ id).block):iQ C w' (φ id) (.box mO):=fun h=>by
 have:=hm.uA id;rw[ho] at this;have⟨c,el,fz,h1,h3⟩:=this (hs h);have⟨c',h2,h4⟩:=hk _ _ _ h1
 grind
theorem z5o(hm:MRel C X φ o w)(hr:cu φ o (ag X φ o w) w cs zs.toList)(h:(z54 C fr t cs).aD v u)(hf:nK fr o u):ck C X φ o w v u (do pure (.pointer (some (<-newRow el zs)))):=by
 unfold z54 at h;have main:∀(mO:List V) (ns:List (Nat×Obj)),(∀p,p∈ns->(∃e,p.2=.vec e 0 false ⟨true,[]⟩)/\fr+1<=p.1/\p.1<fr+16)->
   (∀(φ':Nat->Addr) (o':Nat->Obj) (imm':Nat->Prop) (w':World),(∀y z,au φ o (ag X φ o w) w y z->au φ' o' imm' w' y z)->(∀p,p∈ns->∃e,o' p.1=.vec e 0 false ⟨true,[]⟩)->cu φ' o' imm' w' mO zs.toList)->rj mO=false->
   nK fr o ((fr,.box mO)::ns)->ck C X φ o w (.ptr fr 0) ((fr,.box mO)::ns) (do pure (.pointer (some (<-newRow el zs)))):=by
  intro mO ns h1 h2 hs hf;refine⟨.pointer (some ⟨w.heap.size,0,none⟩),w.alloc (.cells zs el),dR φ fr ⟨w.heap.size,0,none⟩,by simp[newRow],?_⟩;have hc:o fr=.none:=hf _ (zg ..) (zm _) om;refine Comes.fresh hm (B:=.cells zs el) rfl (.box mO) (fun p hp=>?_) (fun _=>by rw[hc];trivial) (fun h3 h4 h5=>?_) (fun h=>by rw[hs] at h;cases h) (fun h3=>?_)
  ·have⟨g1,g2,g3⟩:=h1 p hp;exact⟨g1,by omega,hf p (zf _ hp) om g3⟩
  ·refine⟨by rw[gq],zs,el,0,0,?_,zm _,h2 _ _ _ _ h5 fun p hp=>?_⟩
   ·rw[gq];exact heap_alloc_new w _
   ·exact qrp ns _ p.1 (fun q hq=>(h1 q hq).1) (VU hp)
  ·unfold au;rw[h3,gq]
 cases hb:Nat.ble (xF cs) 14 with
 |true=>
  rw[hb] at h;simp[cond_true,eT,kg] at h;obtain⟨hs,rfl,rfl⟩:=h;have hs:rj (p9 (fr+1) cs (Bm C 8 t)).1=false:=by simp_all
  have hb:=zP hb;refine main _ _ (fun p hp=>?_) (fun φ' o' imm' w' hk hn=>(VV (φ':=φ') (o':=o') (imm':=imm') (w':=w') cs (Bm C 8 t) (fr+1)).2 _ hr hk hn) hs hf;have⟨g1,g2,g3⟩:=(VV (φ:=φ) (o:=o) (imm:=ag X φ o w) (w:=w) (φ':=φ) (o':=o) (imm':=ag X φ o w) (w':=w) cs (Bm C 8 t) (fr+1)).1 p hp
  grind
 |false=>rw[hb] at h;simp[cond_false,eT,kg] at h;obtain⟨hs,rfl,rfl⟩:=h;exact main cs [] (fun p hp=>by cases hp) (fun φ' o' imm' w' hk _=>EB hk _ _ hr) (by simp_all) hf
theorem qu1(hm:MRel C X φ o w){T:TypeId}(hT:GO C T (n+2))(hr:cu φ o (ag X φ o w) w cs zs.toList)(h:(Vj n fr cs).aD v u)(hf:nK fr o u):ck C X φ o w v u (do pure (.pointer (some (<-newRow T zs)))):=by
 unfold Vj at h;split at h
 ·rename_i E;rw[eT] at h;obtain⟨hn,rfl,rfl⟩:=h;have hn:=zo hn;have⟨z1,r1,e1,a1,z2,r2,e2,a2,a3⟩:=hr;have hl:=Bw a3;subst e2 a1 a2;refine⟨.pointer (some ⟨w.heap.size,0,none⟩),w.alloc (.cells zs T),dR φ fr ⟨w.heap.size,0,none⟩,by simp[newRow],?_⟩;have hc:o fr=.none:=hf _ (zg ..) (zm _) om;have he:o (fr+1)=.none:=hf (fr+1,_) (zf _ (zg ..)) (by show fr<=fr+1;omega) om;have g0:aj o [(fr,Obj.box (.ib fr false::.cC (fr+1) 0::E)),(fr+1,.vec (.int .u8) 0 false ⟨true,[]⟩)] fr=.box (.ib fr false::.cC (fr+1) 0::E):=by show dR (dR o fr _) (fr+1) _ fr=_;rw[nJ om,gq]
  have g1:aj o [(fr,Obj.box (.ib fr false::.cC (fr+1) 0::E)),(fr+1,.vec (.int .u8) 0 false ⟨true,[]⟩)] (fr+1)=.vec (.int .u8) 0 false ⟨true,[]⟩:=by show dR (dR o fr _) (fr+1) _ (fr+1)=_;rw[gq]
  refine Comes.fresh hm (B:=.cells zs T) rfl (.box (.ib fr false::.cC (fr+1) 0::E)) (fun p hp=>?_) (fun _=>by rw[hc];trivial) (fun h3 h4 h5=>?_) (fun _=>⟨zs,T,(0,0),heap_alloc_new w _,by rw[<-jA,e1];simpa[<-hl,hn] using hT⟩) (fun h3=>?_)
  ·grind
  ·refine⟨by rw[gq],zs,T,0,0,?_,zm _,?_⟩
   ·rw[gq];exact heap_alloc_new w _
   ·rw[e1];refine⟨_,_,rfl,?_,_,_,rfl,?_,EB h5 _ _ a3⟩
    ·unfold au;rw[g0];rfl
    ·unfold au;rw[g1];exact⟨zm _,fun _=>.inl ⟨rfl,rfl⟩⟩
  ·unfold au;rw[h3,gq]
 ·cases h
theorem qmh(hm:MRel C X φ o w)(hr:cu φ o (ag X φ o w) w cs zs.toList)(h:(Vk C fr t cs).aD v u)(hf:nK fr o u):ck C X φ o w v u (do pure (.pointer (some (<-newRow t zs)))):=by
 unfold Vk at h;cases hb:Nat.beq t C.nR with
 |true=>rw[hb] at h;exact qu1 hm (.inl ⟨zo hb,rfl⟩) hr h hf
 |false=>
  rw[hb] at h;cases hp:Nat.beq t C.U9 with
  |true=>rw[hp] at h;exact qu1 hm (.inr ⟨zo hp,rfl⟩) hr h hf
  |false=>rw[hp] at h;exact z5o hm hr h hf
theorem Ol(hm:MRel C X φ o w){ver cap lo hi:Nat}{l:List (den e)}{rest:List Value}(hg:w'.heap=w.heap.push (.cells c el (lo,hi)))(hk:∀w',Up w w' (φ fr) ⟨w.heap.size,0,none⟩ (o fr) (.vec e ver false ⟨false,l⟩))(hc:c.toList=ec++rest)(hr:bT (az (ag X φ o w) w e) l ec)(he:c.size=cap*aB e)(hj:l.length<=cap)(hl:l.length<=cG)(ho:lo=hi\/c.size<=lo)(hq:e=.int .u8->C.P.underlying el=some (.int .u8))(still:Bu w w':=by exact⟨rfl,rfl⟩):
  Comes C X φ (dR φ fr ⟨w.heap.size,0,none⟩) o [(fr,.vec e ver false ⟨false,l⟩)] w w' (.cC fr ver) (.slice (some ⟨w.heap.size,0,none⟩) l.length cap)/\
  Comes C X φ (dR φ fr ⟨w.heap.size,0,none⟩) o [(fr,.vec e ver false ⟨false,l⟩)] w w' (.ptr fr 0) (.pointer (some ⟨w.heap.size,0,none⟩)):=by
 have hh:w'.heap[w.heap.size]?=some (.cells c el (lo,hi)):=by rw[hg];simp
 have hf:∀n,n<=c.size->room w' ⟨w.heap.size,0,none⟩ n:=fun n hn=>⟨c,el,lo,hi,hh,by simp_all,by simp only[zW];omega⟩;have hs:l.length*aB e<=c.size:=by rw[he];exact jt _ hj
 have both:∀v z,(aj o [(fr,Obj.vec e ver false ⟨false,l⟩)] fr=.vec e ver false ⟨false,l⟩->au (dR φ fr ⟨w.heap.size,0,none⟩) (aj o [(fr,.vec e ver false ⟨false,l⟩)]) (ag X (dR φ fr ⟨w.heap.size,0,none⟩) (aj o [(fr,.vec e ver false ⟨false,l⟩)]) w') w' v z)->
   Comes C X φ (dR φ fr ⟨w.heap.size,0,none⟩) o [(fr,.vec e ver false ⟨false,l⟩)] w w' v z:=by
  intro v z hv;refine Comes.fresh hm hg (.vec e ver false ⟨false,l⟩) (ns:=[]) (fun p hp=>by cases hp) hk (fun h3 h4 h5=>?_) (fun ht _=>⟨c,el,(lo,hi),hh,hq ht,ho⟩) hv still;refine⟨hl,by simp,fun _=>.inl ⟨by rw[gq],ec,rq (j9 h3 h4 e) hr,?_,?_,fun _=>?_,by simp⟩⟩
  ·rw[gq];have:=P9 hh 0 ec.length
   grind
  ·rw[gq];exact hf 0 (zC _)
  ·rw[gq];exact hf _ hs
 refine⟨both _ _ fun h3=>?_,both _ _ fun h3=>?_⟩
 ·unfold au;rw[h3,gq];exact⟨zm _,fun _=>.inr ⟨rfl,cap,rfl,hj,fun h=>by simp at h,fun _ _=>hf _ (by rw[he];exact zm _)⟩⟩
 ·unfold au;rw[h3,gq];exact fun _=>rfl
theorem qmi:∀(zs:List Value),cu φ o imm w (zs.map dJ) zs
 |[]=>rfl
 |z::zs=>⟨z,zs,rfl,qiz z,qmi zs⟩
theorem qps(h:Vg C t=some cs):∃i z,C.P.info? t=some i/\i.zero=some z/\cs=z.cells.toList.map dJ:=by
 unfold Vg at h;split at h
 ·rename_i i e;split at h
  ·rename_i z hz;exact⟨i,z,PY e,hz,(jb h).symm⟩
  ·cases h
 ·cases h
theorem Om{a:Addr}{x:Obj}(h:o fr=.none):∀w',Up w w' (φ fr) a (o fr) x:=fun _=>by rw[h];trivial
theorem z2x(hC:cS C)(hm:MRel C X φ o w)(h:(YV C fr t).aD v u)(hf:nK fr o u)(cO:Value):ck C X φ o w v u (Instr.alloc t true cO):=by
 unfold YV at h;split at h
 ·rename_i n e he;rw[eT,kg,ze,ze] at h;obtain⟨⟨⟨h1,hg⟩,hj⟩,rfl,rfl⟩:=h;have hk:o fr=.none:=hf _ (zg ..) (zm _) om;have hT:=hC.fD _ _ he;have⟨i,z,k1,_,k2,k3,k4,k5,k6⟩:=hT.info;have hz:=k6 (ag X φ o w) w;have⟨ho,hc⟩:=hz;have hl:=rR hc;refine⟨.pointer (some ⟨w.heap.size,0,none⟩),w.alloc (.cells z.cells t),_,by simp[Instr.alloc,GV k1 k4,newVar,newRow],
   (Ol hm (c:=z.cells) (el:=t) (lo:=0) (hi:=0) (cap:=n) (ec:=z.cells.toList) (rest:=[]) rfl (Om hk) (by simp) ?_ ?_ (by simp) ?_ (.inl rfl) (fun he=>(qkb hj he).elim)).2⟩
  ·simpa[zero] using hc
  ·grind
  ·have:=zP hg;simp;unfold cG;omega
 ·split at h
  ·rename_i cs hn;obtain⟨i,z,k1,k2,rfl⟩:=qps hn;have⟨val,w',φ',g1,g2⟩:=qmh hm (zs:=z.cells) (qmi _) h hf;refine⟨val,w',φ',?_,g2⟩;rw[<-g1];simp[Instr.alloc,GV k1 k2,newVar]
  ·cases h
theorem zc1(hm:MRel C X φ o w)(hx:au φ o (ag X φ o w) w x z)(h:(YW C o fr t x).aD v u)(hf:nK fr o u):ck C X φ o w v u (Instr.box t z):=by
 unfold YW at h;split at h
 ·rename_i n e l;rw[eT,kg,ze,ze] at h;obtain⟨⟨⟨h1,hc⟩,hg⟩,rfl,rfl⟩:=h;have hj:o fr=.none:=hf _ (zg ..) (zm _) om;obtain⟨cs,rfl,hl,hr⟩:=hx;have hk:=rR hr;refine⟨.pointer (some ⟨w.heap.size,0,none⟩),w.alloc (.cells cs t),_,by simp[Instr.box,newVar,newRow,Value.cells],
   (Ol hm (c:=cs) (el:=t) (lo:=0) (hi:=0) (cap:=n) (ec:=cs.toList) (rest:=[]) rfl (Om hj) (by simp) hr ?_ ?_ ?_ (.inl rfl) (fun he=>(qkb hg he).elim)).2⟩
  ·grind
  ·omega
  ·have:=zP hc;unfold cG;omega
 ·split at h
  ·rename_i cs hn;have⟨g1,g2⟩:=qg6 hx hn;exact qmh hm (zs:=z.cells) g1 h hf
  ·cases h
end
end Ev