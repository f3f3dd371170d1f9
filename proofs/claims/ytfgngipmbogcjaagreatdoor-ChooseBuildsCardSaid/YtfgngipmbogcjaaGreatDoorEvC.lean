/- Operations are sound: reading, fields, indices, slices, boxes. No statement of its own about the program. -/
import Derived.Test.YtfgngipmbogcjaaGreatDoorEvB
import Derived.Laws.AppendOwn
import Derived.Laws.CopyRow
import Derived.Laws.MakeOwn
import Derived.Laws.BytesString
import Derived.Laws.IdiomCopy
import Derived.Laws.IdiomStrings
namespace Ev
open Go
theorem eL{α:Type}{f:Nat->α}{i:Nat}{x:α}:cP f i x i=x:=by simp[cP]
theorem nH{α:Type}{f:Nat->α}{i j:Nat}{x:α}(h:j≠i):cP f i x j=f j:=by
 unfold cP;have:Nat.beq j i=false:=by
  cases e:Nat.beq j i with
  |false=>rfl
  |true=>exact absurd (zg e) h
 rw[this];rfl
theorem gS:∀{u:List (Nat×Obj)} {o:Nat->Obj} {id:Nat},id∉bJ u->ak o u id=o id
 |[],_,_,_=>rfl
 |(i,x)::r,o,id,h=>by simp only[bJ,zt,not_or] at h;show ak (cP o i x) r id=_;rw[gS h.2,nH h.1]
theorem qd7{α:Type}:∀(u u':List (Nat×α)) (o:Nat->α),ak o (u++u')=ak (ak o u) u'
 |[],_,_=>rfl
 |(i,x)::r,u',o=>qd7 r u' (cP o i x)
theorem J9:∀(u u':List (Nat×Obj)),bJ (u++u')=bJ u++bJ u'
 |[],_=>rfl
 |(i,x)::r,u'=>by simp[bJ,J9 r u']
theorem Up.trans{w w' IF:World}{a a' a'':Addr}{x y z:Obj}(h:Up w w' a a' x y)(h':Up w' IF a' a'' y z):Up w IF a a'' x z:=by
 cases x with
 |none=>trivial
 |dead=>cases y<;>simp only[Up] at h<;>cases z<;>simp only[Up] at h' ⊢
 |box cs=>cases y<;>simp only[Up] at h<;>cases z<;>simp only[Up] at h' ⊢;rw[h',h]
 |map k v m=>cases y<;>simp only[Up] at h<;>cases z<;>simp only[Up] at h' ⊢;rw[h',h]
 |iter s p=>cases y<;>simp only[Up] at h<;>cases z<;>simp only[Up] at h' ⊢;rw[h',h]
 |vec t ver fr s=>
  cases y<;>simp only[Up] at h<;>cases z<;>simp only[Up] at h' ⊢;rcases h with h|⟨h1,h2,h3,h4,h5,h6⟩<;>rcases h' with h'|⟨g1,g2,g3,g4,g5,g6⟩
  ·exact .inl om
  ·exact .inl om
  ·exact .inl om
  ·refine .inr ⟨by omega,h2.trans g2,h3.trans g3,h4.trans g4,g5.trans h5,fun hf=>?_⟩;obtain⟨g7,g8⟩:=g6 hf;obtain⟨h7,h8⟩:=h6 g7;refine⟨h7,fun hn hs n hr=>?_⟩;have:=g8 (h3▸hn) (by rw[h5];exact hs) n (by rw[h5];exact h8 hn hs n hr);rw[h5] at this;exact this
section
variable {C:Cx} {X:Nat→Prop} {φ φ' fk:Nat→Addr} {o:Nat→Obj} {w w' IF:World} {u u':List (Nat×Obj)} {v v':V} {z z':Value}
theorem D2{α β:Type}{f f':α->Value->Prop}{g g':β->Value->Prop}(hf:∀x v,f x v->f' x v)(hg:∀x v,g x v->g' x v):∀{l:List (α×β)} {es:List MapEntry},wo f g l es->wo f' g' l es
 |[],_,h=>h
 |_::_,_,⟨e,r,h1,h2,h3,h4⟩=>⟨e,r,h1,hf _ _ h2,hg _ _ h3,D2 hf hg h4⟩
theorem D3{imm imm':Nat->Prop}{o':Nat->Obj}(h:∀x z,au φ o imm w x z->au φ' o' imm' w' x z):∀(l:List V) (zs:List Value),bW φ o imm w l zs->bW φ' o' imm' w' l zs
 |[],_,h1=>h1
 |_::l,_,⟨a,r,h1,h2,h3⟩=>⟨a,r,h1,h _ _ h2,D3 h l _ h3⟩
theorem EW{imm imm':Nat->Prop}{o':Nat->Obj}(hi:∀b,imm b->imm' b)(hw:∀b,imm b->w'.heap[b]?=w.heap[b]?)(hk:∀x z,au φ o imm w x z->au φ' o' imm' w' x z){id:Nat}{x:Obj}(hp:φ' id=φ id)(hb:aV (φ id) x=true->w'.heap[(φ id).block]?=w.heap[(φ id).block]?)(h:o3 φ o imm w id x):o3 φ' o' imm' w' id x:=by
 cases x with
 |dead=>trivial
 |none=>trivial
 |box cs=>obtain⟨h1,c,el,lo,he,h2,h3,h4⟩:=h;refine⟨by rw[hp];exact h1,c,el,lo,he,?_,h3,D3 hk _ _ h4⟩;rw[hp,hb rfl,h2]
 |map k v m=>obtain⟨es,clock,h1,h2⟩:=h;refine⟨es,clock,by rw[hp,hb rfl,h1],D2 (rT hi hw _) (rT hi hw _) h2⟩
 |iter l p=>obtain⟨s,n,h1,h2,h3,h4⟩:=h;exact⟨s,n,by rw[hp,hb rfl,h1],h2,h3,h4⟩
 |vec t ver fr s=>
  obtain⟨h1,h2,h3⟩:=h;refine⟨h1,h2,fun hn=>?_⟩;rw[hp];refine(h3 hn).imp (fun⟨h4,ec,h5,h6,h7,h8,h9⟩=>?_) fun g=>g;have hc:w'.heap[(φ id).block]?=w.heap[(φ id).block]?:=by
   cases fr with
   |false=>exact hb (tG hn h4)
   |true=>exact hw _ (h9 rfl)
  exact⟨h4,ec,nD (gG hi hw t) h5,Iv hc h6,Bh hc h7,fun hf=>Bh hc (h8 hf),fun hf=>hi _ (h9 hf)⟩
theorem MRel.Bj(hm:MRel C X φ o w){ks:List Nat}{id:Nat}(hx:aV (φ id) (o id)=true)(hk:id∉ks):¬hit ks φ o (φ id).block:=fun⟨j,h1,h2,h3⟩=>hk (hm.inj j id h2 hx h3▸h1)
theorem Comes.make(hm:MRel C X φ o w)(size:w.heap.size<=w'.heap.size)(frame:∀b,b<w.heap.size->¬hit (bJ u) φ o b->w'.heap[b]?=w.heap[b]?)(nE:∀id,id∉bJ u->φ' id=φ id)(QQ:∀id,o id≠.none->id∉bJ u->φ' id=φ id)(up:∀id,id∈bJ u->Up w w' (φ id) (φ' id) (o id) (ak o u id))(place:∀id,id∈bJ u->aV (φ' id) (ak o u id)=true->(w.heap.size<=(φ' id).block/\(φ' id).block<w'.heap.size)\/(aV (φ id) (o id)=true/\(φ' id).block=(φ id).block))(apart:∀i j,i∈bJ u->j∈bJ u->aV (φ' i) (ak o u i)=true->aV (φ' j) (ak o u j)=true->w.heap.size<=(φ' i).block->(φ' i).block=(φ' j).block->i=j)(obj:(∀b,ah X φ o w b->ah X φ' (ak o u) w' b)->(∀b,ah X φ o w b->w'.heap[b]?=w.heap[b]?)->(∀x z,au φ o (ah X φ o w) w x z->au φ' (ak o u) (ah X φ' (ak o u) w') w' x z)->∀id,id∈bJ u->o3 φ' (ak o u) (ah X φ' (ak o u) w') w' id (ak o u id))(tH:∀id,id∈bJ u->gR C w' (φ' id) (ak o u id))(val:(∀b,ah X φ o w b->ah X φ' (ak o u) w' b)->(∀b,ah X φ o w b->w'.heap[b]?=w.heap[b]?)->(∀x z,au φ o (ah X φ o w) w x z->au φ' (ak o u) (ah X φ' (ak o u) w') w' x z)->au φ' (ak o u) (ah X φ' (ak o u) w') w' v z)(still:Bi w w':=by exact⟨rfl,rfl⟩):Comes C X φ φ' o u w w' v z:=by
 have bl:∀id,id∉bJ u->aV (φ id) (o id)=true->w'.heap[(φ id).block]?=w.heap[(φ id).block]?:=fun id hk hx=>frame _ (hm.sep id hx).1 (hm.Bj hx hk);have stays:∀b,ah X φ o w b->w'.heap[b]?=w.heap[b]?:=fun b hb=>frame b hb.1 fun⟨id,_,e1,e2⟩=>hb.2.2 ⟨id,e1,e2⟩;have D4:∀id,Up w w' (φ id) (φ' id) (o id) (ak o u id):=fun id=>by
  by_cases hk:id∈bJ u
  ·exact up id hk
  ·rw[nE id hk,gS hk];exact Up.same fun hx n hr=>Bh (bl id hk hx) hr
 have news:∀id,aV (φ' id) (ak o u id)=true->w.heap.size<=(φ' id).block\/px φ o (φ' id).block:=fun id hx=>by
  by_cases hk:id∈bJ u
  ·rcases place id hk hx with h|⟨h,e⟩
   ·exact .inl h.1
   ·exact .inr ⟨id,h,e.symm⟩
  ·rw[gS hk,nE id hk] at hx;exact .inr ⟨id,hx,by rw[nE id hk]⟩
 have imm:∀b,ah X φ o w b->ah X φ' (ak o u) w' b:=fun b ⟨h1,h2,h3⟩=>
  ⟨Nat.lt_of_lt_of_le h1 size,h2,fun⟨id,e1,e2⟩=>by
   rcases news id e1 with e3|e3
   ·omega
   ·exact h3 (e2▸e3)⟩
 have keeps:∀x z,au φ o (ah X φ o w) w x z->au φ' (ak o u) (ah X φ' (ak o u) w') w' x z:=fun x z h=>AD imm stays D4 x z h;have pl:∀id,aV (φ' id) (ak o u id)=true->(w.heap.size<=(φ' id).block/\(φ' id).block<w'.heap.size)\/(aV (φ id) (o id)=true/\(φ' id).block=(φ id).block):=fun id hx=>by
  by_cases hk:id∈bJ u
  ·exact place id hk hx
  ·rw[gS hk,nE id hk] at hx;exact .inr ⟨hx,by rw[nE id hk]⟩
 refine⟨⟨fun id=>?_,fun i j hi hj e=>?_,fun i hi=>?_,fun b hb=>Nat.lt_of_lt_of_le (hm.xs b hb) size,fun id=>?_,fun g t x hg=>keeps _ _ (hm.fp g t x hg),hm.tI stays⟩,val imm stays keeps,D4,size,frame,QQ,news,still⟩
 ·by_cases hk:id∈bJ u
  ·exact obj imm stays keeps id hk
  ·rw[gS hk];exact EW imm stays keeps (nE id hk) (bl id hk) (hm.ay id)
 ·rcases pl i hi with hc|hc<;>rcases pl j hj with he|he
  ·by_cases ki:i∈bJ u
   ·by_cases kj:j∈bJ u
    ·exact apart i j ki kj hi hj hc.1 e
    ·rw[gS kj,nE j kj] at hj;have:=(hm.sep j hj).1;rw[<-nE j kj] at this;omega
   ·rw[gS ki,nE i ki] at hi;have:=(hm.sep i hi).1;rw[<-nE i ki] at this;omega
  ·have:=(hm.sep j he.1).1;omega
  ·have:=(hm.sep i hc.1).1;omega
  ·exact hm.inj i j hc.1 he.1 (by rw[<-hc.2,<-he.2,e])
 ·rcases pl i hi with hc|hc
  ·exact⟨hc.2,fun hx=>by have:=hm.xs _ hx;omega⟩
  ·obtain⟨h1,h2⟩:=hm.sep i hc.1;rw[hc.2];exact⟨by omega,h2⟩
 ·by_cases hk:id∈bJ u
  ·exact tH id hk
  ·rw[nE id hk,gS hk];refine(hm.tH id).bD (fun hx=>.same (bl id hk hx)) (fun ver s e hn=>.same ?_) (hm.JZ id);have ho:=hm.ay id;rw[e] at ho;obtain⟨_,_,ho⟩:=ho;rcases ho hn with ⟨_,_,_,_,_,_,g7⟩|g7
   ·exact stays _ (g7 rfl)
   ·exact absurd rfl g7.2.2
theorem Comes.trans(h:Comes C X φ φ' o u w w' v z)(h':Comes C X φ' fk (ak o u) u' w' IF v' z'):Comes C X φ fk o (u++u') w IF v' z':=by
 have e:ak o (u++u')=ak (ak o u) u':=qd7 _ _ _;refine⟨by rw[e];exact h'.mem,by rw[e];exact h'.val,fun id=>by rw[e];exact(h.up id).trans (h'.up id),Nat.le_trans h.size h'.size,fun b hb hh=>?_,fun id hn hk=>?_,fun id hx=>?_,⟨h'.still.1.trans h.still.1,h'.still.2.trans h.still.2⟩⟩
 ·rw[h'.frame b (Nat.lt_of_lt_of_le hb h.size),h.frame b hb]
  ·rintro⟨id,h1,h2,h3⟩;exact hh ⟨id,by rw[J9];exact List.mem_append_left _ h1,h2,h3⟩
  ·rintro⟨id,h1,h2,h3⟩;by_cases hk:id∈bJ u
   ·rcases h.news id h2 with h4|⟨j,h4,h5⟩
    ·omega
    ·by_cases hj:j∈bJ u
     ·exact hh ⟨j,by rw[J9];exact List.mem_append_left _ hj,h4,by rw[h5,h3]⟩
     ·have hc:o j≠.none:=by intro e2;rw[e2] at h4;simp[aV,live] at h4
      have:=h.mem.inj id j h2 (by rw[gS hj,h.nE j hc hj];exact h4) (by rw[h.nE j hc hj,h5]);exact hj (this▸hk)
   ·rw[gS hk] at h2;have hc:o id≠.none:=by intro e2;rw[e2] at h2;simp[aV,live] at h2
    rw[h.nE id hc hk] at h3 h2;exact hh ⟨id,by rw[J9];exact List.mem_append_right _ h1,h2,h3⟩
 ·rw[J9,zU,not_or] at hk;rw[h'.nE id (by rw[gS hk.1];exact hn) hk.2,h.nE id hn hk.1]
 ·rw[e] at hx;rcases h'.news id hx with h1|⟨j,h1,h2⟩
  ·exact .inl (Nat.le_trans h.size h1)
  ·rcases h.news j h1 with h3|h3
   ·exact .inl om
   ·exact .inr (h2▸h3)
theorem AE:∀{ks:List Nat} {id:Nat},id∈bJ (dN o ks)->∃t ver fr s,o id=.vec t ver fr s/\∀o',ak o' (dN o ks) id=.vec t ver true s
 |[],id,h=>by cases h
 |k::r,id,h=>by
  have:dN o (k::r)=dN o r\/∃t ver fr s,o k=.vec t ver fr s/\dN o (k::r)=(k,.vec t ver true s)::dN o r:=by
   simp only[dN];cases e:o k with
   |vec t ver fr s=>exact .inr ⟨t,ver,fr,s,rfl,rfl⟩
   |_=>exact .inl rfl
  rcases this with e|⟨t,ver,fr,s,e1,e2⟩
  ·rw[e] at h ⊢;exact AE h
  ·rw[e2] at h ⊢;by_cases hk:id∈bJ (dN o r)
   ·obtain⟨t',aE,DZ,s',h1,h2⟩:=AE hk;exact⟨t',aE,DZ,s',h1,fun o'=>h2 _⟩
   ·simp only[bJ,zt,hk,or_false] at h;subst h;exact⟨t,ver,fr,s,e1,fun o'=>by show ak (cP o' id _) (dN o r) id=_;rw[gS hk,eL]⟩
theorem QR:∀{ks:List Nat} {id:Nat},id∈ks->∀{t ver fr s},o id=.vec t ver fr s->id∈bJ (dN o ks)
 |k::r,id,h,t,ver,fr,s,e=>by
  rcases zt.1 h with h|h
  ·subst h;simp[dN,e,bJ]
  ·have:=QR h e;simp only[dN];split
   ·exact zh _ this
   ·exact this
theorem Ka(hm:MRel C X φ o w)(ks:List Nat):Comes C X φ φ o (dN o ks) w w .undef undef:=by
 refine Comes.make hm (Nat.le_refl _) (fun _ _ _=>rfl) (fun _ _=>rfl) (fun _ _ _=>rfl) (fun id hk=>?_) (fun id hk hx=>?_) (fun i j hi _ hx=>?_) (fun hi hw hg id hk=>?_) (fun id hk=>by obtain⟨t,ver,fr,s,h1,h2⟩:=AE hk;have:=hm.tH id;rw[h1] at this;rw[h2 o];exact this) (fun _ _ _=>rfl)
 ·obtain⟨t,ver,fr,s,h1,h2⟩:=AE hk;rw[h1,h2 o];exact .inr ⟨rfl,rfl,rfl,rfl,rfl,by simp⟩
 ·obtain⟨t,ver,fr,s,h1,h2⟩:=AE hk;rw[h2 o] at hx;have:=(Bg hx).2.1;simp at this
 ·obtain⟨t,ver,fr,s,h1,h2⟩:=AE hi;rw[h2 o] at hx;have:=(Bg hx).2.1;simp at this
 ·obtain⟨t,ver,fr,s,h1,h2⟩:=AE hk;have ho:=hm.ay id;rw[h2 o];rw[h1] at ho;obtain⟨h3,h4,h5⟩:=ho;refine⟨h3,h4,fun hn=>(h5 hn).imp (fun⟨h6,ec,h7,h8,h9,hl,hc⟩=>?_) fun g=>g⟩;refine⟨h6,ec,nD (gG hi hw t) h7,h8,h9,by simp,fun _=>?_⟩;cases hf:fr with
  |true=>exact hi _ (hc hf)
  |false=>
   have hx:aV (φ id) (o id)=true:=by rw[h1,hf];exact tG hn h6
   obtain⟨g1,g2⟩:=hm.sep id hx;refine⟨g1,g2,fun⟨j,e1,e2⟩=>?_⟩;by_cases hj:j∈bJ (dN o ks)
   ·obtain⟨t',aE,DZ,s',_,he⟩:=AE hj;rw[he o] at e1;have:=(Bg e1).2.1;simp at this
   ·rw[gS hj] at e1;have:=hm.inj j id e1 hx e2;subst this;exact hj hk
end
theorem wq{t t':Ty}{x:den t'}{y:den t}(h:fZ t t' x=some y):∃e:t'=t,y=e▸x:=by
 unfold fZ at h;split at h
 ·rename_i e _;exact⟨e,(zI h).symm⟩
 ·cases h
section
variable {C:Cx} {X:Nat→Prop} {φ:Nat→Addr} {o:Nat→Obj} {w:World} {imm:Nat→Prop}
def z17(imm:Nat->Prop)(w:World)(e:Ty)(s:Sl (den e))(z:Value):Prop:=s.l.length<=cj/\
 ((s.nil=true/\s.l=[]/\z=.slice none 0 0)\/
  (s.nil=false/\∃a cap ec,z=.slice (some a) s.l.length cap/\(cap≠0->a.spot=none)/\bf (aC imm w e) s.l ec/\kB w a ec/\s.l.length<=cap))
theorem Kb{a:Addr}{ec:List Value}(n:Nat)(h:kB w a ec):kB w a (ec.take n):=by
 intro j hj;have hc:j<ec.length:=by simp at hj;omega
 rw[h j hc];simp
theorem N0{x:V}{z:Value}{t:Ty}{s:Sl (den t)}(hl:∀id,o3 φ o imm w id (o id))(h:au φ o imm w x z)(he:Aw lf o x=some ⟨t,s⟩):z17 imm w t s z/\(∃id ver fr s',o id=.vec t ver fr s'/\(s.nil=false->∀a n c,z=.slice (some a) n c->a.block=(φ id).block)/\s.nil=s'.nil/\(fr=false->id∈eJ o x)/\(s'.l=[]->s.l=[])):=by
 cases x<;>simp only[Aw] at he<;>try (cases he;done)
 ·rename_i id ver;have ho:=hl id;unfold au at h;split at he
  ·rename_i t' aE fr s' e1;rw[e1] at h ho;cases hb:Nat.beq ver aE with
   |false=>rw[hb] at he;cases he
   |true=>
    rw[hb] at he;simp only[cond_true,zH,Sigma.mk.injEq] at he;obtain⟨rfl,he⟩:=he;have he:=eq_of_heq he;subst he;have h:=h.2 (zg hb);refine⟨⟨ho.1,?_⟩,id,aE,fr,s',e1,?_,rfl,?_,fun h=>h⟩
    ·rcases h with ⟨h1,h2⟩|⟨h1,cap,h2,h3,h4⟩
     ·exact .inl ⟨h1,ho.2.1 h1,h2⟩
     ·rcases ho.2.2 h1 with ⟨h5,ec,h6,h7,_⟩|⟨_,h6,_⟩
      ·exact .inr ⟨h1,_,cap,ec,h2,ER h4.1,h6,h7,h3⟩
      ·exact .inr ⟨h1,_,cap,[],h2,ER h4.1,(by rw[h6];rfl),(fun j hj=>by simp at hj),h3⟩
    ·intro hn a n c e;rcases h with ⟨h1,h2⟩|⟨h1,cap,h2,h3,h4⟩
     ·rw[h1] at hn;cases hn
     ·rw[h2] at e;injection e with e _ _;injection e with e;rw[<-e];rfl
    ·intro hf;subst hf;simp[eJ,e1]
  ·cases he
 ·rename_i id ver n cp;have ho:=hl id;unfold au at h;split at he
  ·rename_i t' aE fr s' e1;rw[e1] at h ho;cases hb:Nat.beq ver aE with
   |false=>rw[hb] at he;cases he
   |true=>
    rw[hb] at he;simp only[cond_true,zH,Sigma.mk.injEq] at he;obtain⟨rfl,he⟩:=he;have he:=eq_of_heq he;subst he;obtain⟨h0,h,_⟩:=h.2 (zg hb);have e2:(lf.aN s'.l n).length=n:=by simp[lf,aN,Nat.min_eq_left h0]
    refine⟨⟨?_,?_⟩,id,aE,fr,s',e1,?_,rfl,?_,fun h=>by show lf.aN s'.l n=[];rw[h];simp[lf,aN]⟩
    ·show(lf.aN s'.l n).length<=cj;have:=ho.1;omega
    ·rcases h with ⟨h1,h2⟩|⟨h1,cap,h2,h3,h4⟩
     ·exact .inl ⟨h1,by simp[lf,aN,ho.2.1 h1],h2⟩
     ·have e3:z=.slice (some (bare (φ id))) (lf.aN s'.l n).length cap:=by rw[h2];exact congrArg (fun k=>Value.slice (some (bare (φ id))) k cap) e2.symm
      have e4:(lf.aN s'.l n).length<=cap:=om
      rcases ho.2.2 h1 with ⟨h5,ec,h6,h7,_⟩|⟨_,h6,_⟩
      ·exact .inr ⟨h1,bare (φ id),cap,ec.take (n*aM t'),e3,ER h4.1,(ve n h0 h6).1,Kb _ h7,e4⟩
      ·refine .inr ⟨h1,bare (φ id),cap,[],e3,ER h4.1,?_,(fun j hj=>by simp at hj),e4⟩;have:lf.aN s'.l n=[]:=by rw[h6];simp[lf,aN]
       show bf _ (lf.aN s'.l n) [];rw[this];rfl
    ·intro hn a m c e;rcases h with ⟨h1,h2⟩|⟨h1,cap,h2,h3,h4⟩
     ·rw[show s'.nil=false from hn] at h1;cases h1
     ·rw[h2] at e;injection e with e _ _;injection e with e;rw[<-e];rfl
    ·intro hf;subst hf;simp[eJ,e1]
  ·cases he
 ·rename_i id ver lo;have ho:=hl id;unfold au at h;split at he
  ·rename_i t' aE fr s' e1;rw[e1] at h ho;cases hb:Nat.beq ver aE with
   |false=>rw[hb] at he;cases he
   |true=>
    rw[hb] at he;simp only[cond_true,zH,Sigma.mk.injEq] at he;obtain⟨rfl,he⟩:=he;have he:=eq_of_heq he;subst he;obtain⟨k,rfl,hk,h⟩:=h.2 (zg hb);have e0:lf.cJ s'.l (k:Int)=s'.l.drop k:=by simp[lf,cJ]
    have e2:(lf.cJ s'.l (k:Int)).length=s'.l.length-k:=by rw[e0];simp
    refine⟨⟨?_,?_⟩,id,aE,fr,s',e1,?_,rfl,?_,fun h=>by show lf.cJ s'.l (k:Int)=[];rw[e0,h];simp⟩
    ·show(lf.cJ s'.l (k:Int)).length<=cj;have:=ho.1;omega
    ·rcases h with ⟨h1,h2⟩|⟨h1,cap,h2,h3⟩
     ·exact .inl ⟨h1,by simp[lf,cJ,ho.2.1 h1],h2⟩
     ·have e3:z=.slice (some (if cap=0 then bare (φ id) else⟨(φ id).block,(φ id).off+k*aM t',none⟩)) (lf.cJ s'.l (k:Int)).length cap:=by rw[h2];exact congrArg (fun j=>Value.slice _ j cap) e2.symm
      have e4:(lf.cJ s'.l (k:Int)).length<=cap:=om
      by_cases hc:cap=0
      ·refine .inr ⟨h1,_,cap,[],e3,fun h=>absurd hc h,?_,fun j hj=>by simp at hj,e4⟩;have:lf.cJ s'.l (k:Int)=[]:=zQ om;show bf _ (lf.cJ s'.l (k:Int)) [];rw[this];rfl
      ·rcases ho.2.2 h1 with ⟨h5,ec,h6,h7,_⟩|⟨_,h6,_⟩
       ·refine .inr ⟨h1,_,cap,ec.drop (k*aM t'),e3,fun _=>by rw[if_neg hc],?_,?_,e4⟩
        ·show bf _ (lf.cJ s'.l (k:Int)) _;rw[e0];exact(ve k hk h6).2
        ·rw[if_neg hc];intro j hj;have hg:k*aM t'+j<ec.length:=by simp at hj;omega
         have:=h7 (k*aM t'+j) hg;simp only[Nat.add_assoc] at this ⊢;rw[this];simp
       ·refine .inr ⟨h1,_,cap,[],e3,fun _=>by rw[if_neg hc],?_,fun j hj=>by simp at hj,e4⟩;have:lf.cJ s'.l (k:Int)=[]:=by rw[e0,h6];simp
        show bf _ (lf.cJ s'.l (k:Int)) [];rw[this];rfl
    ·intro hn a m c e;rcases h with ⟨h1,h2⟩|⟨h1,cap,h2,h3⟩
     ·rw[show s'.nil=false from hn] at h1;cases h1
     ·rw[h2] at e;injection e with e _ _;injection e with e;rw[<-e]
      split<;>rfl
    ·intro hf;subst hf;simp[eJ,e1]
  ·cases he
theorem N1{t:Ty}{x:V}{d:den t}(h:iQ lf o t x=some d):x=.d t d\/(∃e,∃ht:.sl e=t,∃s:Sl (den e),Aw lf o x=some ⟨e,s⟩/\d=ht▸s)\/(∃e,∃ht:.sl e=t,x=.eE/\d=ht▸(⟨true,[]⟩:Sl (den e))):=by
 cases x<;>simp only[iQ] at h<;>try (cases h;done)
 ·obtain⟨rfl,rfl⟩:=wq h;exact .inl rfl
 ·rename_i id ver;cases e1:o id<;>rw[e1] at h<;>simp only at h<;>try (cases h;done)
  rename_i e aE fr s;cases hb:Nat.beq ver aE<;>rw[hb] at h
  ·cases h
  ·obtain⟨ht,hd⟩:=wq h;exact .inr (.inl ⟨e,ht,s,by simp[Aw,e1,hb],hd⟩)
 ·rename_i id ver n cp;cases e1:o id<;>rw[e1] at h<;>simp only at h<;>try (cases h;done)
  rename_i e aE fr s;cases hb:Nat.beq ver aE<;>rw[hb] at h
  ·cases h
  ·obtain⟨ht,hd⟩:=wq h;exact .inr (.inl ⟨e,ht,_,by simp[Aw,e1,hb],hd⟩)
 ·split at h
  ·rename_i e;exact .inr (.inr ⟨e,rfl,rfl,(zI h).symm⟩)
  ·cases h
 ·rename_i id ver lo;cases e1:o id<;>rw[e1] at h<;>simp only at h<;>try (cases h;done)
  rename_i e aE fr s;cases hb:Nat.beq ver aE<;>rw[hb] at h
  ·cases h
  ·obtain⟨ht,hd⟩:=wq h;exact .inr (.inl ⟨e,ht,_,by simp[Aw,e1,hb],hd⟩)
theorem N2{t:Ty}{x:V}{d:den t}(h:mW lf o t x=some d):iQ lf o t x=some d\/∃p,∃ht:.ks p=t,∃s:den (.sl (mH p)),iQ lf o (.sl (mH p)) x=some s/\d=ht▸H8 p s:=by
 unfold mW at h;split at h
 ·rename_i x' h1;injection h with h;subst h;exact .inl h1
 ·cases t with
  |ks p=>
   simp only[H9] at h;split at h
   ·rename_i s h1;injection h with h;exact .inr ⟨p,rfl,s,h1,h.symm⟩
   ·cases h
  |_=>simp only[H9] at h;cases h
def tK(o:Nat->Obj)(x:V):Prop:=∀id,id∈eJ o x->∀t ver fr s,o id≠.vec t ver fr s
theorem z18{e:Ty}{s:Sl (den e)}{z:Value}(h:au φ o imm w (.d (.sl e) s) z):z17 imm w e s z:=by obtain⟨h1,h2⟩:=D1 h;exact⟨h1,h2.imp id fun⟨h3,a,cap,ec,h4,h5,_,h7,h8,h9⟩=>⟨h3,a,cap,ec,h4,h5,h7,h8,h9⟩⟩
theorem qj8{e:Ty}{x:V}{s:Sl (den e)}{z:Value}(hl:∀id,o3 φ o imm w id (o id))(hx:au φ o imm w x z)(h:mW lf o (.sl e) x=some s):z17 imm w e s z:=by
 have h:iQ lf o (.sl e) x=some s:=by
  rcases N2 h with h|⟨p,ht,_⟩
  ·exact h
  ·cases ht
 rcases N1 h with rfl|⟨e',ht,s',h1,h2⟩|⟨e',ht,rfl,h2⟩
 ·exact z18 hx
 ·injection ht with ht;subst ht;subst h2;exact(N0 hl hx h1).1
 ·injection ht with ht;subst ht;subst h2;exact⟨Nat.zero_le _,.inl ⟨rfl,rfl,hx⟩⟩
theorem qo2(hm:MRel C X φ o w){t:Ty}{x:V}{d:den t}{z:Value}(hx:au φ o (ah X φ o w) w x z)(hf:tK o x)(h:iQ lf o t x=some d):aX (ah X φ o w) w t d z:=by
 rcases N1 h with rfl|⟨e',ht,s',h1,h2⟩|⟨e',ht,rfl,h2⟩
 ·exact hx
 ·subst ht;subst h2;obtain⟨⟨g1,g2⟩,id,ver,fr,s0,g3,g4,g5,g6,g8⟩:=N0 hm.ay hx h1;refine⟨z,rfl,g1,?_⟩;rcases g2 with g2|⟨hn,a,cap,ec,h5,h6,h7,h8,h9⟩
  ·exact .inl g2
  ·refine .inr ⟨hn,a,cap,ec,h5,h6,fun hc=>?_,h7,h8,h9⟩;have he:fr=true:=by
    cases e:fr with
    |true=>rfl
    |false=>exact absurd g3 (hf id (g6 e) _ _ _ _)
   have ho:=hm.ay id;rw[g3] at ho;obtain⟨_,_,ho⟩:=ho;rcases ho (g5▸hn) with ⟨_,_,_,_,_,_,g7⟩|⟨_,g7,_⟩
   ·rw[g4 hn _ _ _ h5];exact g7 he
   ·exact absurd (g8 g7) hc
 ·subst ht;subst h2;exact⟨z,rfl,Nat.zero_le _,.inl ⟨rfl,rfl,hx⟩⟩
theorem QT(hm:MRel C X φ o w){t:Ty}{x:V}{d:den t}{z:Value}(hx:au φ o (ah X φ o w) w x z)(hf:tK o x)(h:mW lf o t x=some d):aX (ah X φ o w) w t d z:=by
 rcases N2 h with h|⟨p,ht,s,h1,h2⟩
 ·exact qo2 hm hx hf h
 ·subst ht;subst h2;have h3:aC (ah X φ o w) w (.sl (mH p)) s [z]:=qo2 hm hx hf h1;show aC (ah X φ o w) w (.ks p) (H8 p s) [z];rw[Iy,QE];exact h3
theorem qt1{o':Nat->Obj}(ho:∀id,o' id=o id\/∃t ver s,o' id=.vec t ver true s):∀(x:V) (id:Nat),id∈eJ o' x->(∃t ver s,o' id=.vec t ver false s)->id∈eJ o x:=by
 intro x;have key:∀oA id,(id∈(match o' oA with|.vec _ _ true _=>[]|_=>[oA]))->(∃t ver s,o' id=.vec t ver false s)->id∈(match o oA with|.vec _ _ true _=>[]|_=>[oA]):=by
  rintro oA id h ⟨t,ver,s,e⟩;have:id=oA:=by
   split at h
   ·cases h
   ·simpa using h
  subst this;rcases ho id with e1|⟨t1,aa4,s1,e1⟩
  ·rw[<-e1,e];simp
  ·rw[e1] at e;cases e
 refine V.rec (motive_1:=fun x=>∀id,id∈eJ o' x->(∃t ver s,o' id=.vec t ver false s)->id∈eJ o x)
  (motive_2:=fun l=>∀id,id∈pt o' l->(∃t ver s,o' id=.vec t ver false s)->id∈pt o l)
  ?_ ?_ ?_ ?_ ?_ ?_ ?_ ?_ ?_ ?_ ?_ ?_ ?_ ?_ ?_ ?_ ?_ ?_ ?_ ?_ ?_ ?_ ?_ ?_ ?_ ?_ ?_ x
 case refine_2=>exact fun oA ver id h h'=>by unfold eJ at*;exact key oA id h h'
 case refine_3=>exact fun oA ver _ _ id h h'=>by unfold eJ at*;exact key oA id h h'
 case refine_20=>exact fun oA ver lo id h h'=>by unfold eJ at*;exact key oA id h h'
 case refine_11=>exact fun l ih id h h'=>by unfold eJ at*;exact ih id h h'
 case refine_27=>
  intro x l mZ nc id h h';unfold pt at h ⊢;rcases zU.1 h with h|h
  ·exact List.mem_append_left _ (mZ id h h')
  ·exact List.mem_append_right _ (nc id h h')
 all_goals intros;rename_i h _;simp[eJ,pt] at h
theorem D5(ks:List Nat)(id:Nat):ak o (dN o ks) id=o id/\(∀t ver s,o id=.vec t ver false s->id∉ks)\/∃t ver fr s,o id=.vec t ver fr s/\ak o (dN o ks) id=.vec t ver true s:=by
 by_cases hk:id∈bJ (dN o ks)
 ·obtain⟨t,ver,fr,s,h1,h2⟩:=AE hk;exact .inr ⟨t,ver,fr,s,h1,h2 o⟩
 ·exact .inl ⟨gS hk,fun t ver s e h=>hk (QR h e)⟩
theorem N3{ks:List Nat}{x:V}(h:∀id,id∈eJ o x->id∈ks):tK (ak o (dN o ks)) x:=by
 intro id hi t ver fr s e;have hc:fr=false:=by
  cases fr with
  |false=>rfl
  |true=>
   exfalso;revert hi;refine V.rec (motive_1:=fun x=>¬id∈eJ (ak o (dN o ks)) x) (motive_2:=fun l=>¬id∈pt (ak o (dN o ks)) l)
    ?_ ?_ ?_ ?_ ?_ ?_ ?_ ?_ ?_ ?_ ?_ ?_ ?_ ?_ ?_ ?_ ?_ ?_ ?_ ?_ ?_ ?_ ?_ ?_ ?_ ?_ ?_ x
   case refine_2=>
    intro oA aE h;unfold eJ at h;split at h
    ·cases h
    ·rename_i hn;simp at h;subst h;exact hn _ _ _ e
   case refine_3=>
    intro oA aE _ _ h;unfold eJ at h;split at h
    ·cases h
    ·rename_i hn;simp at h;subst h;exact hn _ _ _ e
   case refine_20=>
    intro oA aE _ h;unfold eJ at h;split at h
    ·cases h
    ·rename_i hn;simp at h;subst h;exact hn _ _ _ e
   case refine_11=>intro l ih h;unfold eJ at h;exact ih h
   case refine_27=>
    intro x l mZ nc h;unfold pt at h;rcases zU.1 h with h|h
    ·exact mZ h
    ·exact nc h
   all_goals intros;simp[eJ,pt]
 subst hc;have:=qt1 (o:=o) (o':=ak o (dN o ks)) (fun id=>(D5 ks id).imp (·.1) fun⟨t,ver,_,s,_,h⟩=>⟨t,ver,s,h⟩) x id hi ⟨t,ver,s,e⟩;rcases D5 (o:=o) ks id with ⟨h1,h2⟩|⟨_,_,_,_,_,h2⟩
 ·exact h2 t ver s (h1▸e) (h id this)
 ·rw[h2] at e;cases e
theorem qo3(ks:List Nat)(t:Ty)(x:V):iQ lf (ak o (dN o ks)) t x=iQ lf o t x:=by
 cases x<;>simp only[iQ]
 ·rename_i id ver;rcases D5 (o:=o) ks id with ⟨h1,_⟩|⟨_,_,_,_,h1,h2⟩
  ·rw[h1]
  ·rw[h1,h2]
 ·rename_i id ver n cp;rcases D5 (o:=o) ks id with ⟨h1,_⟩|⟨_,_,_,_,h1,h2⟩
  ·rw[h1]
  ·rw[h1,h2]
 ·rename_i id ver lo;rcases D5 (o:=o) ks id with ⟨h1,_⟩|⟨_,_,_,_,h1,h2⟩
  ·rw[h1]
  ·rw[h1,h2]
theorem Bk(ks:List Nat)(t:Ty)(x:V):mW lf (ak o (dN o ks)) t x=mW lf o t x:=by
 unfold mW;rw[qo3];have:H9 lf (ak o (dN o ks)) t x=H9 lf o t x:=by cases t<;>simp only[H9,qo3]
 rw[this]
theorem z19(ks:List Nat):∀(t:Ty) (cs:List V),lL lf (ak o (dN o ks)) t cs=lL lf o t cs:=by
 intro t
 induction t with
 |unit=>intro cs;rfl
 |pair a b nf jF=>intro cs;simp only[lL,nf,jF]
 |st p ih=>intro cs;simp only[lL,ih]
 |arr n e _=>intro cs;rfl
 |int k=>intro cs;cases cs<;>simp only[lL,Bk]
 |bool=>intro cs;cases cs<;>simp only[lL,Bk]
 |eD=>intro cs;cases cs<;>simp only[lL,Bk]
 |eU=>intro cs;cases cs<;>simp only[lL,Bk]
 |str=>intro cs;cases cs<;>simp only[lL,Bk]
 |sl e _=>intro cs;cases cs<;>simp only[lL,Bk]
 |ks e _=>intro cs;cases cs<;>simp only[lL,Bk]
theorem qo4(ks:List Nat)(t:Ty)(x:V):ft lf (ak o (dN o ks)) t x=ft lf o t x:=by cases x<;>simp only[ft,Bk,z19]
theorem qt2(hm:MRel C X φ o w):∀(t:Ty) (cs r:List V) (d:den t) (zs:List Value),bW φ o (ah X φ o w) w cs zs->(∀c,c∈cs->tK o c)->lL lf o t cs=some (d,r)->∃zc zr,zs=zc++zr/\aC (ah X φ o w) w t d zc/\bW φ o (ah X φ o w) w r zr/\(∀c,c∈r->tK o c):=by
 have one:∀(t:Ty) (cs r:List V) (d:den t) (zs:List Value),bW φ o (ah X φ o w) w cs zs->(∀c,c∈cs->tK o c)->
   (match cs with|c::r=>(match mW lf o t c with|some x=>some (x,r)|none=>none)|[]=>none)=some (d,r)->
   ∃z zr,zs=z::zr/\aX (ah X φ o w) w t d z/\bW φ o (ah X φ o w) w r zr/\(∀c,c∈r->tK o c):=by
  intro t cs r d zs hr hf h;cases cs with
  |nil=>cases h
  |cons c cs=>
   simp only at h;split at h
   ·rename_i x hx;injection h with h;injection h with h1 h2;subst h1 h2;obtain⟨z,zr,h3,h4,h5⟩:=hr;exact⟨z,zr,h3,QT hm h4 (hf _ (zf ..)) hx,h5,fun c hc=>hf c (zh _ hc)⟩
   ·cases h
 intro t
 induction t with
 |unit=>intro cs r d zs hr hf h;simp only[lL,zH,Prod.mk.injEq] at h;obtain⟨_,rfl⟩:=h;exact⟨[],zs,rfl,rfl,hr,hf⟩
 |pair a b nf jF=>
  intro cs r d zs hr hf h;simp only[lL] at h;split at h
  ·rename_i x r1 h1;split at h
   ·rename_i y r2 h2;injection h with h;injection h with h3 h4;subst h3 h4;obtain⟨zc,zr,e1,e2,e3,e4⟩:=nf _ _ _ _ hr hf h1;obtain⟨Kc,QU,g1,g2,g3,g4⟩:=jF _ _ _ _ e3 e4 h2;exact⟨zc++Kc,QU,by rw[e1,g1,zD],⟨zc,Kc,rfl,e2,g2⟩,g3,g4⟩
   ·cases h
  ·cases h
 |st p ih=>intro cs r d zs hr hf h;exact ih _ _ _ _ hr hf h
 |arr n e _=>intro cs r d zs hr hf h;cases h
 |int k=>intro cs r d zs hr hf h;obtain⟨z,zr,e1,e2,e3⟩:=one _ cs r d zs hr hf (by cases cs<;>exact h);exact⟨[z],zr,e1,e2,e3⟩
 |bool=>intro cs r d zs hr hf h;obtain⟨z,zr,e1,e2,e3⟩:=one _ cs r d zs hr hf (by cases cs<;>exact h);exact⟨[z],zr,e1,e2,e3⟩
 |eD=>intro cs r d zs hr hf h;obtain⟨z,zr,e1,e2,e3⟩:=one _ cs r d zs hr hf (by cases cs<;>exact h);exact⟨[z],zr,e1,e2,e3⟩
 |eU=>intro cs r d zs hr hf h;obtain⟨z,zr,e1,e2,e3⟩:=one _ cs r d zs hr hf (by cases cs<;>exact h);exact⟨[z],zr,e1,e2,e3⟩
 |str=>intro cs r d zs hr hf h;obtain⟨z,zr,e1,e2,e3⟩:=one _ cs r d zs hr hf (by cases cs<;>exact h);exact⟨[z],zr,e1,e2,e3⟩
 |sl e _=>intro cs r d zs hr hf h;obtain⟨z,zr,e1,e2,e3⟩:=one _ cs r d zs hr hf (by cases cs<;>exact h);exact⟨[z],zr,e1,e2,e3⟩
 |ks e _=>intro cs r d zs hr hf h;obtain⟨z,zr,e1,e2,e3⟩:=one _ cs r d zs hr hf (by cases cs<;>exact h);exact⟨[z],zr,e1,e2,e3⟩
theorem QV:∀{cs:List V},tK o (.agg cs)->∀c,c∈cs->tK o c
 |c'::cs,h,c,hc,id,hi=>by
  rcases zt.1 hc with rfl|hc
  ·exact h id (by unfold eJ pt;exact List.mem_append_left _ hi)
  ·exact QV (cs:=cs) (fun id hi=>h id (by unfold eJ at hi ⊢;unfold pt;exact List.mem_append_right _ hi)) c hc id hi
theorem QW(hm:MRel C X φ o w){t:Ty}{x:V}{d:den t}{z:Value}(hx:au φ o (ah X φ o w) w x z)(hf:tK o x)(h:ft lf o t x=some d):aX (ah X φ o w) w t d z:=by
 by_cases hc:∃cs,x=.agg cs
 ·obtain⟨cs,rfl⟩:=hc;simp only[ft] at h;split at h
  ·rename_i p;split at h
   ·rename_i y h1;injection h with h;subst h;obtain⟨c,rfl,hr⟩:=hx;obtain⟨zc,zr,e1,e2,e3,_⟩:=qt2 hm _ _ _ _ _ hr (QV hf) h1;have:zr=[]:=e3;subst this;exact⟨c,rfl,by rw[e1,zE];exact e2⟩
   ·cases h
  ·cases h
 ·have:ft lf o t x=mW lf o t x:=by cases x<;>first|rfl|exact absurd ⟨_,rfl⟩ hc
  exact QT hm hx hf (this▸h)
end
def Bl:TypeDesc->Bool
 |.struct _|.array .. =>true
 |_=>false
theorem Kd{C:Cx}{d:TypeDesc}{T:Ty}(h:ng C d T=true):Bl d=jG T/\kx T=!jG T:=by cases d<;>cases T<;>first|exact⟨rfl,rfl⟩|(simp only[ng] at h;cases h;done)
theorem tL{a:Addr}(h:a.spot=none)(n:Nat):a.add n=⟨a.block,a.off+n,none⟩:=by
 unfold Addr.add;split
 ·rename_i e;subst e;obtain⟨b,f,s⟩:=a;simp only at h;subst h;rfl
 ·rfl
section
variable {P:Program} {C:Cx} {X:Nat→Prop} {φ:Nat→Addr} {o:Nat→Obj} {w:World} {imm:Nat→Prop}
theorem EX{t:TypeId}{d:TypeDesc}(h:P.underlying t=some d):(Go.isAgg t).run P w=.ok (Bl d) w:=by unfold Go.isAgg;rw[Sem.run_bind,run_underlying h w];cases d<;>simp[Bl]
theorem iY{t:TypeId}{i:TypeInfo}(h:P.info? t=some i):(Go.sizeOf t).run P w=.ok i.size w:=by simp[Go.sizeOf,typeInfo,h]
theorem wV{t:TypeId}{i:TypeInfo}{z:Value}(h:P.info? t=some i)(hz:i.zero=some z):(zeroValue t).run P w=.ok z w:=by simp[zeroValue,typeInfo,h,hz]
theorem q73{a:Addr}(hs:a.spot=none){cs:List Value}{n:Nat}(hn:cs.length=n)(h:kB w a cs):(loadCells a n).run P w=.ok cs.toArray w:=by subst hn;refine run_loadCells_list w a cs fun j v hv=>?_;rw[tL hs];obtain⟨hj,e⟩:=zB.1 hv;rw[h j hj,e]
theorem qm5{a:Addr}(hs:a.spot=none){v:Value}{cs:List Value}(h:kB w a (v::cs)):(load a).run P w=.ok v w:=by have:=h 0 (by simp);obtain⟨b,f,s⟩:=a;simp only at hs;subst hs;simp only[Nat.add_zero,List.getElem_cons_zero] at this;simp[this]
theorem N4{T:Ty}{d:den T}{cs:List Value}(hs:kx T=true)(h:aC imm w T d cs):∃v,cs=[v]/\aX imm w T d v:=by
 cases T<;>simp only[kx] at hs<;>try (cases hs;done)
 ·exact⟨_,h.1,by simpa[aX,aC] using h.2⟩
 ·exact⟨_,h,by simp[aX,aC]⟩
 ·obtain⟨s,h1,h2⟩:=h;exact⟨_,h1,s,rfl,h2⟩
 ·obtain⟨v,h1,h2⟩:=h;exact⟨_,h1,v,rfl,h2⟩
 ·exact⟨_,h,by simp[aX,aC]⟩
 ·exact⟨_,h,by simp[aX,aC]⟩
theorem qj9{T:Ty}{d:den T}{v:Value}(hs:kx T=true)(h:aX imm w T d v):aC imm w T d [v]:=by cases T<;>simp only[kx] at hs<;>first|exact h|cases hs
theorem qxo{T:Ty}{d:den T}{v:Value}(hs:jG T=true)(h:aX imm w T d v):∃cs:Array Value,v=.agg cs/\aC imm w T d cs.toList:=by cases T<;>simp only[jG] at hs<;>first|exact h|cases hs
theorem QX{T:Ty}{d:den T}{cs:Array Value}(hs:jG T=true)(h:aC imm w T d cs.toList):aX imm w T d (.agg cs):=by cases T<;>simp only[jG] at hs<;>first|exact⟨cs,rfl,h⟩|cases hs
theorem qfk{C:Cx}{t:TypeId}{T:Ty}(ht:nh C t T){d:den T}{v:Value}(h:aX imm w T d v):aC imm w T d v.cells.toList:=by
 obtain⟨_,_,_,hd⟩:=ht.desc;obtain⟨_,hk⟩:=Kd hd;cases ha:jG T with
 |true=>obtain⟨cs,rfl,h1⟩:=qxo ha h;exact h1
 |false=>
  rw[ha] at hk;have:=qj9 hk h;have e:v.cells=#[v]:=by
   cases T<;>simp only[kx] at hk<;>try (cases hk;done)
   ·have h2:=h.1;simp only[List.cons.injEq,and_true] at h2;subst h2;rfl
   ·have h2:[v]=[_]:=h;simp only[List.cons.injEq,and_true] at h2;subst h2;rfl
   ·obtain⟨s,h2,_⟩:=h;simp only[List.cons.injEq,and_true] at h2;subst h2;rfl
   ·obtain⟨v',h2,_,h3⟩:=h;simp only[List.cons.injEq,and_true] at h2;subst h2;rcases h3 with ⟨_,_,rfl⟩|⟨_,a,cap,ec,rfl,_⟩<;>rfl
   ·have h2:[v]=[_]:=h;simp only[List.cons.injEq,and_true] at h2;subst h2;rfl
   ·have h2:[v]=[_]:=h;simp only[List.cons.injEq,and_true] at h2;subst h2;rfl
  rw[e];exact this
theorem qfl{t:TypeId}{T:Ty}(h:nh C t T){a:Addr}(hs:a.spot=none){d:den T}{cs:List Value}(hr:aC imm w T d cs)(hc:kB w a cs):∃v,(loadVar t a).run C.P w=.ok v w/\aX imm w T d v:=by
 obtain⟨dd,_,hu,hd⟩:=h.desc;obtain⟨i,z,hi,_,hg,_⟩:=h.info;obtain⟨he,hf⟩:=Kd hd;have hl:=gB T d cs hr;unfold loadVar;simp only[Sem.run_bind,EX hu,Result.andThen_ok];cases ha:jG T with
 |true=>rw[he,ha];refine⟨.agg cs.toArray,?_,QX ha (by simpa using hr)⟩;simp[iY hi,q73 hs (hl.trans hg.symm) hc]
 |false=>rw[he,ha];rw[ha] at hf;obtain⟨v,rfl,h2⟩:=N4 hf hr;exact⟨v,by simpa using qm5 hs hc,h2⟩
theorem N5{t:TypeId}{T:Ty}(h:nh C t T){cs:Array Value}{off:Nat}{d:den T}(hr:aC imm w T d ((cs.toList.drop off).take (aM T))):∃v,(part t cs off).run C.P w=.ok v w/\aX imm w T d v:=by
 obtain⟨dd,_,hu,hd⟩:=h.desc;obtain⟨i,z,hi,_,hf,_⟩:=h.info;obtain⟨hc,he⟩:=Kd hd;unfold part;simp only[Sem.run_bind,EX hu,Result.andThen_ok];cases ha:jG T with
 |true=>
  rw[hc,ha];refine⟨.agg (cs.extract off (off+aM T)),?_,QX ha ?_⟩
  ·simp[iY hi,hf]
  ·rw[Array.toList_extract,List.extract_eq_take_drop,Nat.add_sub_cancel_left];exact hr
 |false=>
  rw[hc,ha];rw[ha] at he;obtain⟨v,e,h2⟩:=N4 he hr;refine⟨v,?_,h2⟩;have:cs[off]?=some v:=by
   have e1:=congrArg (fun l=>l[0]?) e;simp only[List.getElem?_cons_zero] at e1;rw[List.getElem?_take] at e1;split at e1
   ·simpa using e1
   ·cases e1
  simp[this]
theorem QY:∀(p:Ty) (f:Nat) (y:den p) {u:Ty} {z:den u},Ia p f y=some ⟨u,z⟩->ow p f=some u/\(∀cs,aC imm w p y cs->aC imm w u z ((cs.drop (fw p f)).take (aM u))):=by
 have base:∀(t:Ty) (y:den t) (u:Ty) (z:den u),(some ⟨t,y⟩:Option ((t:Ty)×den t))=some ⟨u,z⟩->t=u/\(∀cs,aC imm w t y cs->aC imm w u z ((cs.drop 0).take (aM u))):=by intro t y u z h;injection h with h;injection h with h1 h2;subst h1;have h2:=eq_of_heq h2;subst h2;exact⟨rfl,fun cs hc=>by rw[List.drop_zero,<-gB _ _ _ hc,List.take_length];exact hc⟩
 intro p
 induction p with
 |pair a b _ jF=>
  intro f y u z h;cases f with
  |zero=>
   simp only[Ia] at h;obtain⟨h1,h2⟩:=base _ _ _ _ h;subst h1;refine⟨rfl,fun cs ⟨c,d,e,h3,h4⟩=>?_⟩;have:=h2 c h3;rw[e];simp only[fw,List.drop_zero] at this ⊢;rw[<-gB _ _ _ h3] at this ⊢;rw[List.take_left']
   ·rw[List.take_length] at this;exact this
   ·rfl
  |succ n=>simp only[Ia] at h;obtain⟨h1,h2⟩:=jF n y.2 h;refine⟨h1,fun cs ⟨c,d,e,h3,h4⟩=>?_⟩;have:=h2 d h4;rw[e];simp only[fw];rw[<-gB _ _ _ h3,List.drop_length_add_append];exact this
 |unit=>intro f y u z h;cases f<;>cases h
 |int k=>intro f y u z h;cases f with|zero=>obtain⟨rfl,h2⟩:=base _ _ _ _ h;exact⟨rfl,h2⟩|succ n=>cases h
 |bool=>intro f y u z h;cases f with|zero=>obtain⟨rfl,h2⟩:=base _ _ _ _ h;exact⟨rfl,h2⟩|succ n=>cases h
 |eD=>intro f y u z h;cases f with|zero=>obtain⟨rfl,h2⟩:=base _ _ _ _ h;exact⟨rfl,h2⟩|succ n=>cases h
 |eU=>intro f y u z h;cases f with|zero=>obtain⟨rfl,h2⟩:=base _ _ _ _ h;exact⟨rfl,h2⟩|succ n=>cases h
 |str=>intro f y u z h;cases f with|zero=>obtain⟨rfl,h2⟩:=base _ _ _ _ h;exact⟨rfl,h2⟩|succ n=>cases h
 |sl e=>intro f y u z h;cases f with|zero=>obtain⟨rfl,h2⟩:=base _ _ _ _ h;exact⟨rfl,h2⟩|succ n=>cases h
 |ks q=>intro f y u z h;cases f with|zero=>obtain⟨rfl,h2⟩:=base (.sl (mH q)) (A3 q y) _ _ h;exact⟨rfl,fun cs hc=>h2 cs ((Iy q y cs).1 hc)⟩|succ n=>cases h
 |st p=>intro f y u z h;cases f with|zero=>obtain⟨rfl,h2⟩:=base _ _ _ _ h;exact⟨rfl,h2⟩|succ n=>cases h
 |arr m e=>intro f y u z h;cases f with|zero=>obtain⟨rfl,h2⟩:=base _ _ _ _ h;exact⟨rfl,h2⟩|succ n=>cases h
theorem QZ(hC:cf C):∀(fs:List Field) (p:Ty) (off f:Nat) {u:Ty},rz C fs p off=true->ow p f=some u->∃fd,fs[f]?=some fd/\C.ty fd.type=some u/\fd.offset=off+fw p f:=by
 intro fs
 induction fs with
 |nil=>intro p off f u h h1;cases p<;>first|(simp only[rz] at h;cases h;done)|(cases f<;>cases h1)
 |cons g r ih=>
  intro p off f u h h1;cases r with
  |nil=>
   have h:(C.is g.type (J8 p)&&Nat.beq g.offset off)=true:=by cases p<;>exact h
   rw[zd] at h;have ht:=bR h.1;obtain⟨_,_,_,hd⟩:=(hC.dP _ _ ht).desc;obtain⟨_,hk⟩:=Kd hd;have:f=0/\u=J8 p/\fw p 0=0:=by
    cases f with
    |zero=>cases p<;>first|exact⟨rfl,(zI h1).symm,rfl⟩|(simp only[kx,jG] at hk;cases hk;done)
    |succ n=>cases p<;>first|(cases h1;done)|(simp only[kx,jG] at hk;cases hk;done)
   obtain⟨rfl,rfl,h0⟩:=this;exact⟨g,rfl,ht,by rw[h0];exact zg h.2⟩
  |cons g' r=>
   cases p<;>simp only[rz] at h<;>try (cases h;done)
   rename_i a b;simp only[zd] at h;cases f with
   |zero=>simp only[ow,zH] at h1;subst h1;exact⟨g,rfl,bR h.1.1,by simpa[fw] using zg h.1.2⟩
   |succ n=>obtain⟨fd,h2,h3,h4⟩:=ih b (off+aM a) n h.2 h1;exact⟨fd,by simpa using h2,h3,by simp only[fw];omega⟩
theorem D6{t:TypeId}{b:Bool}{n:Nat}(h:uV P t=some (b,n)):∃i d,P.info? t=some i/\i.size=n/\P.underlying t=some d/\Bl d=b:=by
 unfold uV at h;cases h1:P.types.toList[t]? with
 |none=>rw[h1] at h;cases h
 |some i=>
  rw[h1] at h;simp only at h;cases h2:desc P t with
  |none=>rw[h2] at h;cases h
  |some d=>
   rw[h2] at h;refine⟨i,d,J5 h1,?_,kP h2,?_⟩
   ·cases d<;>simp only[zH,Prod.mk.injEq] at h<;>exact h.2
   ·cases d<;>simp only[zH,Prod.mk.injEq] at h<;>exact h.1
theorem qbv{t:TypeId}{f:Nat}{fd:Field}(h:Jy P t f=some fd):∃fs,P.underlying t=some (.struct fs)/\desc P t=some (.struct fs)/\fs[f]?=some fd:=by
 unfold Jy at h;split at h
 ·rename_i fs e;exact⟨fs,kP e,e,by rw[<-zG];exact h⟩
 ·cases h
theorem N6(hC:cf C){t:TypeId}{p:Ty}(h:C.ty t=some (.st p)):∃fs,desc C.P t=some (.struct fs)/\C.P.underlying t=some (.struct fs)/\rz C fs.toList p 0=true:=by obtain⟨d,h1,h2,h3⟩:=(hC.dP _ _ h).desc;cases d<;>first|exact⟨_,h1,h2,h3⟩|(simp only[ng] at h3;cases h3;done)
theorem IG:∀{cs:List V} {zs:List Value} {i:Nat} {v:V},bW φ o imm w cs zs->cs[i]?=some v->∃z,zs[i]?=some z/\au φ o imm w v z
 |[],_,_,_,_,h=>by simp at h
 |x::l,_,0,v,⟨z,r,e,h1,_⟩,h=>by simp only[List.getElem?_cons_zero,zH] at h;subst h e;exact⟨z,rfl,h1⟩
 |x::l,_,i+1,v,⟨z,r,e,_,h2⟩,h=>by subst e;simp only[List.getElem?_cons_succ] at h ⊢;exact IG h2 h
theorem IH:∀{cs:List V} {zs:List Value} (n:Nat),bW φ o imm w cs zs->bW φ o imm w (cs.drop n) (zs.drop n)
 |_,_,0,h=>h
 |[],_,n+1,h=>by simp[bW] at h;subst h;simp[bW]
 |x::l,_,n+1,⟨z,r,e,_,h2⟩=>by subst e;exact IH n h2
theorem II:∀{cs:List V} {zs:List Value} (n:Nat),bW φ o imm w cs zs->bW φ o imm w (cs.take n) (zs.take n)
 |_,_,0,h=>by simp[bW]
 |[],_,n+1,h=>by simp[bW] at h;subst h;simp[bW]
 |x::l,_,n+1,⟨z,r,e,h1,h2⟩=>by subst e;exact⟨z,_,rfl,h1,II n h2⟩
theorem wW:∀{cs:List V} {zs:List Value},bW φ o imm w cs zs->cs.length=zs.length
 |[],_,h=>by simp[bW] at h;subst h;rfl
 |x::l,_,⟨z,r,e,_,h2⟩=>by subst e;simp[wW h2]
theorem AF:∀{cs ds:List V} {zs ys:List Value},bW φ o imm w cs zs->bW φ o imm w ds ys->bW φ o imm w (cs++ds) (zs++ys)
 |[],_,_,_,h,h'=>by simp[bW] at h;subst h;exact h'
 |x::l,_,_,_,⟨z,r,e,h1,h2⟩,h'=>by subst e;exact⟨z,_,rfl,h1,AF h2 h'⟩
theorem qja(hm:MRel C X φ o w){t:TypeId}{cs:List V}{zs:Array Value}(h:bW φ o (ah X φ o w) w cs zs.toList):au φ o (ah X φ o w) w (Nt lf C o t cs) (.agg zs):=by
 have EY:au φ o (ah X φ o w) w (.agg cs) (.agg zs):=⟨zs,rfl,h⟩;unfold Nt;split
 ·rename_i p _;split
  ·rename_i e1 _;split
   ·rename_i x e;have hf:∀c,c∈cs->tK o c:=QV (fun id hi=>by unfold eJ at hi;rw[e1] at hi;cases hi);obtain⟨zc,zr,g1,g2,g3,_⟩:=qt2 hm _ _ _ _ _ h hf e;have:zr=[]:=g3;subst this;exact⟨zs,rfl,by rw[g1,zE];exact g2⟩
   ·exact EY
  ·exact EY
 ·exact EY
end
theorem qf1{α:Type}{l:List α}{n b m:Nat}(h:(((l.take n).drop b).take m).length=m):((l.take n).drop b).take m=(l.drop b).take m:=by rw[List.drop_take,List.take_take] at h ⊢;rw[zJ] at h;rw[Nat.min_eq_left om]
section
variable {P:Program} {C:Cx} {X:Nat→Prop} {φ:Nat→Addr} {o:Nat→Obj} {w:World} {imm:Nat→Prop}
theorem Q0:∀{p:Ty} {f:Nat} {u:Ty},ow p f=some u->QF p f=u:=by
 intro p
 induction p with
 |pair a b _ jF=>intro f u h;cases f with|zero=>exact zI h|succ n=>exact jF h
 |unit=>intro f u h;cases f<;>cases h
 |_=>intro f u h;cases f with|zero=>exact zI h|succ n=>cases h
theorem qt5:∀(p:Ty) (f:Nat) (y:den p) {u:Ty},ow p f=some u->∃z,Ia p f y=some ⟨u,z⟩:=by
 intro p
 induction p with
 |pair a b _ jF=>intro f y u h;cases f with|zero=>have:=zI h;subst this;exact⟨y.1,rfl⟩|succ n=>exact jF n y.2 h
 |unit=>intro f y u h;cases f<;>cases h
 |ks q _=>intro f y u h;cases f with|zero=>have:=zI h;subst this;exact⟨A3 q y,rfl⟩|succ n=>cases h
 |_=>intro f y u h;cases f with|zero=>have:=zI h;subst this;exact⟨y,rfl⟩|succ n=>cases h
theorem qjb:∀(path:List Nat) (t:Ty) (x:den t) {u:Ty},Au path t=some u->∃y,Nf path t x=some ⟨u,y⟩/\∀(imm:Nat->Prop) (w:World) cs,aC imm w t x cs->aC imm w u y ((cs.drop (iX path t)).take (aM u))
 |[],t,x,u,h=>by have:=zI h;subst this;refine⟨x,rfl,fun imm w cs hc=>?_⟩;rw[show iX [] t=0 from rfl,List.drop_zero,<-gB _ _ _ hc,List.take_length];exact hc
 |f::r,t,x,u,h=>by
  cases t<;>simp only[Au] at h<;>try (cases h;done)
  rename_i p;split at h
  ·rename_i u1 h1;obtain⟨y,h2⟩:=qt5 p f x h1;obtain⟨y',h3,h4⟩:=qjb r u1 y h;refine⟨y',by simp only[Nf,Ib,h2];exact h3,fun imm w cs hc=>?_⟩;obtain⟨_,h5⟩:=QY (imm:=imm) (w:=w) p f x h2;have h6:=h4 imm w _ (h5 cs hc);have hl:=gB _ _ _ h6;rw[qf1 hl,List.drop_drop] at h6;simp only[iX,Q0 h1];exact h6
  ·cases h
theorem IJ{a:Addr}{cs:List Value}(k n:Nat)(h:kB w a cs):kB w ⟨a.block,a.off+k,none⟩ ((cs.drop k).take n):=by
 intro j hj;have hc:k+j<cs.length:=by simp at hj;omega
 have:=h (k+j) hc;simp only[List.getElem_take,List.getElem_drop];rw[<-this,Nat.add_assoc]
theorem Ke{b:Nat}{c:Array Value}{el:TypeId}{fz:Nat×Nat}(h:w.heap[b]?=some (.cells c el fz))(off n:Nat):kB w ⟨b,off,none⟩ ((c.toList.drop off).take n):=by
 intro j hj;have hc:off+j<c.size:=by simp at hj;omega
 simp[World.cell?,h,hc]
theorem qjc(hC:cf C)(hm:MRel C X φ o w){t:TypeId}{x:V}{z:Value}{v:V}{u:List (Nat×Obj)}(hx:au φ o (ah X φ o w) w x z)(h:(Nu lf C o t x).gives v u):u=[]/\py C.P φ o (ah X φ o w) w v (Instr.loadAt t z):=by
 unfold Nu at h;split at h
 ·rename_i t' d;rw[dC,df] at h;obtain⟨h1,rfl,rfl⟩:=h;obtain⟨a,cs,rfl,h2,_,h4,h5⟩:=hx;obtain⟨v,h6,h7⟩:=qfl (hC.dP _ _ (bR h1)) h2 h4 h5;exact⟨rfl,v,by simp[Instr.loadAt,Instr.sureAddr,h6],h7⟩
 ·rename_i t' d;split at h
  ·rename_i n hk;rw[df] at h;obtain⟨rfl,rfl⟩:=h;obtain⟨i,d',g1,g2,g3,g4⟩:=D6 hk;obtain⟨a,b,cs,rfl,h2,h3,h4,h5⟩:=hx;refine⟨rfl,.pointer (some b),?_,b,cs,rfl,h5⟩;have hc:w.cell? a=some (.pointer (some b)):=by have:=h4 0 (by simp);obtain⟨b1,f1,s1⟩:=a;simp only at h2;subst h2;simpa using this
   simp[Instr.loadAt,Instr.sureAddr,loadVar,EX g3,g4,hc]
  ·cases h
 ·rename_i id off;have ho:=hm.ay id;unfold au at hx;split at h
  ·rename_i cs e;rw[e] at hx ho;simp only at hx;subst hx;obtain⟨h0,c,el,lo,hi,h1,h2,h3⟩:=ho;split at h
   ·rename_i n hk;rw[dC,df] at h;obtain⟨hb,rfl,rfl⟩:=h;have hb:=zF hb;obtain⟨i,d,g1,g2,g3,g4⟩:=D6 hk;have hl:=wW h3;refine⟨rfl,.agg ((c.toList.drop off).take n).toArray,?_,qja hm (by simpa using II n (IH off h3))⟩;have:=q73 (P:=C.P) (w:=w) (a:=⟨(φ id).block,(φ id).off+off,none⟩) rfl (n:=n) (cs:=(c.toList.drop off).take n) (by simp at hl ⊢;omega) (by
     rw[h0,zL];exact Ke h1 off n)
    simp[Instr.loadAt,Instr.sureAddr,loadVar,EX g3,g4,iY g1,g2,this]
   ·rename_i n hk;split at h
    ·rename_i v' hv;rw[df] at h;obtain⟨rfl,rfl⟩:=h;obtain⟨i,d,g1,g2,g3,g4⟩:=D6 hk;obtain⟨z,hz,hr⟩:=IG h3 hv;refine⟨rfl,z,?_,hr⟩;have:w.cell? ⟨(φ id).block,(φ id).off+off,none⟩=some z:=by rw[h0,zL];simp only[World.cell?,h1];simpa using hz
     simp[Instr.loadAt,Instr.sureAddr,loadVar,EX g3,g4,this]
    ·cases h
   ·cases h
  ·cases h
 ·rename_i id ver i path;have ho:=hm.ay id;unfold au at hx;split at h
  ·rename_i e aE fr s e1;rw[e1] at hx ho;split at h
   ·rename_i t' ht;rw[dC,mN,zd] at h;obtain⟨⟨h1,h2⟩,x,h3,h4⟩:=h;obtain⟨_,hx⟩:=hx;obtain⟨hi,rfl⟩:=hx (zg h1);obtain⟨y,h5,h6⟩:=qjb path e x ht;rw[h5] at h4;simp only[Prod.mk.injEq] at h4;obtain⟨rfl,rfl⟩:=h4;obtain⟨g1,g2,g3⟩:=ho;have hn:s.nil=false:=by
     cases hn:s.nil with
     |false=>rfl
     |true=>rw[g2 hn] at hi;simp at hi
    obtain⟨g4,ec,g5,g6,_⟩:=(g3 hn).resolve_right fun g=>by rw[g.2.1] at hi;simp at hi
    have h3:s.l[i]?=some x:=h3;obtain⟨he,hf⟩:=zB.1 h3;have hr:=JX g5 i he;rw[hf] at hr;have hr:=h6 _ _ _ hr;have hc:=IJ (iX path e) (aM t') (IJ (i*aM e) (aM e) g6);obtain⟨v,k1,k2⟩:=qfl (w:=w) (hC.dP _ _ (bR h2)) (a:=⟨(φ id).block,(φ id).off+i*aM e+iX path e,none⟩) rfl hr hc;exact⟨rfl,v,by simp[Instr.loadAt,Instr.sureAddr,k1],k2⟩
   ·cases h
  ·cases h
 ·cases h
theorem qq4(hC:cf C)(_hm:MRel C X φ o w){t:TypeId}{f:Nat}{x:V}{z:Value}{v:V}{u:List (Nat×Obj)}(hx:au φ o (ah X φ o w) w x z)(h:(P9 C t x f).gives v u):u=[]/\py C.P φ o (ah X φ o w) w v (Instr.field t z f):=by
 unfold P9 at h;split at h
 ·rename_i t' y;rw[dC] at h;obtain⟨h1,h⟩:=h;split at h
  ·rename_i u' z' h2;rw[df] at h;obtain⟨rfl,rfl⟩:=h;cases t'<;>simp only[Ib] at h2<;>try (cases h2;done)
   rename_i p;obtain⟨fs,g1,g2,g3⟩:=N6 hC (bR h1);obtain⟨k1,k2⟩:=QY (imm:=ah X φ o w) (w:=w) p f y h2;obtain⟨fd,m1,m2,m3⟩:=QZ hC _ _ _ _ g3 k1;obtain⟨cs,rfl,hr⟩:=hx;obtain⟨v,n1,n2⟩:=N5 (w:=w) (hC.dP _ _ m2) (cs:=cs) (off:=fd.offset) (by rw[m3,zL];exact k2 _ hr);refine⟨rfl,v,?_,n2⟩;rw[zG] at m1;simp[Instr.field,run_underlying g2,m1,asAgg,n1]
  ·cases h
 ·rename_i cs;obtain⟨c,rfl,hr⟩:=hx;split at h
  ·rename_i fd hf;obtain⟨fs,f1,f2,f3⟩:=qbv hf;split at h
   ·rename_i n hk;rw[dC,df] at h;obtain⟨_,rfl,rfl⟩:=h;obtain⟨i,d,g1,g2,g3,g4⟩:=D6 hk;refine⟨rfl,.agg (c.extract fd.offset (fd.offset+n)),?_,_,rfl,?_⟩
    ·simp[Instr.field,run_underlying f1,f3,asAgg,part,EX g3,g4,iY g1,g2]
    ·rw[Array.toList_extract,List.extract_eq_take_drop,Nat.add_sub_cancel_left];exact II n (IH _ hr)
   ·rename_i n hk;split at h
    ·rename_i v' hv;rw[df] at h;obtain⟨rfl,rfl⟩:=h;obtain⟨i,d,g1,g2,g3,g4⟩:=D6 hk;obtain⟨z,hz,hc⟩:=IG hr hv;rw[zG] at hz;refine⟨rfl,z,?_,hc⟩;simp[Instr.field,run_underlying f1,f3,asAgg,part,EX g3,g4,hz]
    ·cases h
   ·cases h
  ·cases h
 ·cases h
theorem qf2(hC:cf C)(_hm:MRel C X φ o w){t:TypeId}{f:Nat}{x:V}{z:Value}{v:V}{u:List (Nat×Obj)}(hx:au φ o (ah X φ o w) w x z)(h:(Io C o t x f).gives v u):u=[]/\py C.P φ o (ah X φ o w) w v (Instr.fieldAt t z f):=by
 unfold Io at h;split at h
 ·cases h
 ·rename_i fd hf;obtain⟨fs,f1,f1',f2⟩:=qbv hf;split at h
  ·rename_i b sz hk;rw[dC] at h;obtain⟨he,h⟩:=h;have he:0<sz:=zF he;obtain⟨i,d,g1,g2,g3,g4⟩:=D6 hk;have run:∀a:Addr,(Instr.fieldAt t (.pointer (some a)) f).run C.P w=.ok (.pointer (some (a.add fd.offset))) w:=by
    intro a;have:i.size≠0:=om
    simp[Instr.fieldAt,run_underlying f1,f2,Instr.sureAddr,fieldPlace,iY g1,this]
   split at h
   ·rename_i id off;split at h
    ·rename_i cs e;rw[df] at h;obtain⟨rfl,rfl⟩:=h;unfold au at hx;rw[e] at hx;simp only at hx;subst hx;refine⟨rfl,_,run _,?_⟩;rw[tL rfl];unfold au;rw[e];simp only[Nat.add_assoc]
    ·cases h
   ·rename_i t' y;rw[dC] at h;obtain⟨h1,h⟩:=h;split at h
    ·rename_i u' z' h2;rw[df] at h;obtain⟨rfl,rfl⟩:=h;cases t'<;>simp only[Ib] at h2<;>try (cases h2;done)
     rename_i p;obtain⟨fs',e1,e2,e3⟩:=N6 hC (bR h1);rw[f1'] at e1;injection e1 with e1;injection e1 with e1;subst e1;obtain⟨k1,k2⟩:=QY (imm:=ah X φ o w) (w:=w) p f y h2;obtain⟨fd',m1,m2,m3⟩:=QZ hC _ _ _ _ e3 k1;rw[zG,f2] at m1;injection m1 with m1;subst m1;obtain⟨a,cs,rfl,hs,hi,hr,hc⟩:=hx;refine⟨rfl,_,run _,?_⟩;rw[tL hs,m3,zL];exact⟨_,_,rfl,rfl,hi,k2 _ hr,IJ _ _ hc⟩
    ·cases h
   ·rename_i id ver j path;split at h
    ·rename_i e aE fr s e1;split at h
     ·rename_i t' ht;split at h
      ·rename_i p;split at h
       ·rename_i u' hu;rw[dC,df,zd] at h;obtain⟨⟨h1,h2⟩,rfl,rfl⟩:=h;obtain⟨fs',k1,k2,k3⟩:=N6 hC (bR h2);rw[f1'] at k1;injection k1 with k1;injection k1 with k1;subst k1;obtain⟨fd',m1,m2,m3⟩:=QZ hC _ _ _ _ k3 hu;rw[zG,f2] at m1;injection m1 with m1;subst m1;unfold au at hx;rw[e1] at hx;obtain⟨h0,hx⟩:=hx;obtain⟨hi,rfl⟩:=hx (zg h1);refine⟨rfl,_,run _,?_⟩;rw[tL rfl];unfold au;rw[e1];refine⟨h0,fun _=>⟨hi,?_⟩⟩;have key:∀(path:List Nat) (t:Ty),Au path t=some (.st p)->iX (path++[f]) t=iX path t+fw p f:=by
         intro path
         induction path with
         |nil=>intro t h;have:=zI h;subst this;simp[iX]
         |cons g r ih=>
          intro t h;cases t<;>simp only[Au] at h<;>try (cases h;done)
          split at h
          ·rename_i q u1 h1;have:=ih u1 h;simp only[List.cons_append,iX,Q0 h1,this,Nat.add_assoc]
          ·cases h
        rw[key path e ht,m3,zL,<-Nat.add_assoc]
       ·cases h
      ·cases h
     ·cases h
    ·cases h
   ·cases h
  ·cases h
end
section
variable {P:Program} {C:Cx} {X:Nat→Prop} {φ:Nat→Addr} {o:Nat→Obj} {w:World} {imm:Nat→Prop}
theorem AG{t:TypeId}{e:Ty}(h:ga e (oY C t)=true):∃i,C.P.underlying t=some (.slice i)/\desc C.P t=some (.slice i)/\C.ty i=some e:=by
 have h:=ET h;unfold oY at h;split at h
 ·rename_i i e1;exact⟨i,kP e1,e1,h⟩
 ·cases h
theorem Q3{t:TypeId}{e:Ty}(h:oY C t=some e):∃i,C.P.underlying t=some (.slice i)/\desc C.P t=some (.slice i)/\C.ty i=some e:=by
 unfold oY at h;split at h
 ·rename_i i e1;exact⟨i,kP e1,e1,h⟩
 ·cases h
theorem Q4{t:TypeId}{n:Nat}{e:Ty}(h:JH C t=some (n,e)):∃i,C.P.underlying t=some (.array n i)/\desc C.P t=some (.array n i)/\C.ty i=some e:=by
 unfold JH at h;split at h
 ·rename_i m i e1;split at h
  ·rename_i e' e2;simp only[zH,Prod.mk.injEq] at h;obtain⟨rfl,rfl⟩:=h;exact⟨i,kP e1,e1,e2⟩
  ·cases h
 ·cases h
theorem Kf{x:V}{z:Value}{p:(_:IntKind)×Int}(h:EM x=some p)(hx:au φ o imm w x z):z=.int p.1 p.2/\fJ p.1 p.2:=by
 unfold EM at h;split at h
 ·injection h with h;subst h;exact nG hx
 ·cases h
theorem dW{α:Type}{l:List α}{n:Int}{y:α}(h:aJ l n=some y):0<=n/\n<l.length/\l[n.toNat]?=some y:=by
 unfold aJ at h;split at h
 ·rename_i h0;obtain⟨h1,_⟩:=zB.1 h;exact⟨h0,by omega,h⟩
 ·cases h
theorem N7{α:Type}{l:List α}{n:Int}{j:Nat}(h:bZ l n=some j):0<=n/\n<l.length/\j=n.toNat:=by
 unfold bZ at h;split at h
 ·rename_i h0;injection h with h;exact⟨h0.1,h0.2,h.symm⟩
 ·cases h
theorem qjd{α:Type}{l m:List α}{a b:Int}(h:bG l a b=some m):0<=a/\a<=b/\b<=l.length/\m=(l.take b.toNat).drop a.toNat:=by
 unfold bG at h;split at h
 ·rename_i h0;injection h with h;exact⟨h0.1,h0.2.1,h0.2.2,h.symm⟩
 ·cases h
theorem N8{n b:Int}{p:Nat}(h:eC n b=some p):0<=b/\b<=n/\p=b.toNat:=by
 unfold eC at h;split at h
 ·rename_i h0;injection h with h;exact⟨h0.1,h0.2,h.symm⟩
 ·cases h
theorem wu{α β:Type}{x:Option α}{f:α->Option β}{y:β}(h:ag x f=some y):∃a,x=some a/\f a=some y:=by
 cases x with
 |none=>cases h
 |some a=>exact⟨a,rfl,h⟩
theorem qq5(hC:cf C){t:TypeId}{x i:V}{zx zi:Value}{v:V}{u:List (Nat×Obj)}(hx:au φ o imm w x zx)(hi:au φ o imm w i zi)(h:(P8 lf C t x i).gives v u):u=[]/\py C.P φ o imm w v (Instr.index t zx zi):=by
 unfold P8 at h;split at h
 ·cases h
 ·rename_i k n hk;obtain⟨rfl,_⟩:=Kf hk hi;split at h
  ·rename_i l;rw[dC,D0] at h;obtain⟨h1,y,h2,h3⟩:=h;simp only[Prod.mk.injEq] at h3;obtain⟨rfl,rfl⟩:=h3;obtain⟨s,rfl,rfl,_⟩:=ry hx;have h1:=zg h1;have hu:C.P.underlying t=some .string:=by unfold Nx at h1;split at h1<;>first|(rename_i e;exact kP e)|cases h1
   obtain⟨g1,g2,g3⟩:=dW h2;rw[zV,Option.map_eq_some_iff] at g3;obtain⟨b,g3,rfl⟩:=g3;refine⟨rfl,.int .u8 b.toNat,?_,lH ?_⟩
   ·have e:s[n.toNat]?=some b:=by
     obtain⟨g4,g5⟩:=zB.1 g3;have g4':n.toNat<s.size:=by simpa using g4
     rw[getElem?_pos s n.toNat g4'];have g5':s.data[n.toNat]=b:=by simpa using g5
     exact congrArg some g5'
    simp[Instr.index,asIntOf,run_underlying hu,g1,e]
   ·have:=b.toNat_lt;unfold fJ IntKind.min IntKind.max;simp[IntKind.signed,IntKind.bits];omega
  ·rename_i m e l;split at h
   ·rename_i m' e' ha;rw[dC,D0,zd] at h;obtain⟨⟨h1,hc⟩,y,h2,h3⟩:=h;simp only[Prod.mk.injEq] at h3;obtain⟨rfl,rfl⟩:=h3;have:=zI (ET hc);subst this;obtain⟨ei,hu,_,he⟩:=Q4 ha;have h1:=zg h1;subst h1;obtain⟨cs,rfl,hl,hr⟩:=hx;obtain⟨g1,g2,g3⟩:=dW h2;obtain⟨g4,g5⟩:=zB.1 g3;have hT:=hC.dP _ _ he;have:=JX hr _ g4;rw[g5] at this;obtain⟨i,z,k1,_,k2,_⟩:=hT.info;obtain⟨v,k3,k4⟩:=N5 (w:=w) hT (cs:=cs) (off:=n.toNat*aM e') this;refine⟨rfl,v,?_,k4⟩;have hf:n<(m:Int):=by have:List.length l=m:=hl;omega
    simp[Instr.index,asIntOf,run_underlying hu,g1,hf,iY k1,k2,k3]
   ·cases h
  ·cases h
theorem N9{t e:TypeId}{i:TypeInfo}(hu:P.underlying t=some (.slice e))(hi:P.info? e=some i){a:Addr}(hs:a.spot=none){len cap:Nat}{k:IntKind}{n:Int}(h0:0<=n)(h1:n<len):(Instr.indexAt t (.slice (some a) len cap) (.int k n)).run P w=.ok (.pointer (some ⟨a.block,a.off+n.toNat*i.size,none⟩)) w:=by simp[Instr.indexAt,asIntOf,run_underlying hu,h0,h1,iY hi,tL hs]
theorem q5y{t e:TypeId}{i:TypeInfo}{m:Nat}(hu:P.underlying t=some (.array m e))(hi:P.info? e=some i){a:Addr}(hs:a.spot=none){k:IntKind}{n:Int}(h0:0<=n)(h1:n<m):(Instr.indexAt t (.pointer (some a)) (.int k n)).run P w=.ok (.pointer (some ⟨a.block,a.off+n.toNat*i.size,none⟩)) w:=by simp[Instr.indexAt,asIntOf,run_underlying hu,h0,h1,iY hi,tL hs,Instr.sureAddr]
theorem qf3(hC:cf C)(hm:MRel C X φ o w){t:TypeId}{x i:V}{zx zi:Value}{v:V}{u:List (Nat×Obj)}(hx:au φ o (ah X φ o w) w x zx)(hi:au φ o (ah X φ o w) w i zi)(h:(P7 lf C o t x i).gives v u):u=[]/\py C.P φ o (ah X φ o w) w v (Instr.indexAt t zx zi):=by
 unfold P7 at h;split at h
 ·cases h
 ·rename_i k n hk;obtain⟨rfl,_⟩:=Kf hk hi;split at h
  ·rename_i e s;rw[dC,mN] at h;obtain⟨h1,y,h2,h3⟩:=h;simp only[Prod.mk.injEq] at h3;obtain⟨rfl,rfl⟩:=h3;obtain⟨ei,hu,_,he⟩:=AG h1;obtain⟨ii,z,k1,_,k2,_⟩:=(hC.dP _ _ he).info;obtain⟨g1,g2,g3⟩:=dW h2;obtain⟨_,hs⟩:=D1 hx;rcases hs with ⟨_,e2,_⟩|⟨_,a,cap,ec,rfl,e2,e3,e4,e5,e6⟩
   ·rw[e2] at g2;simp at g2;omega
   ·refine⟨rfl,_,N9 hu k1 (e2 om) g1 g2,?_⟩;obtain⟨g4,g5⟩:=zB.1 g3;have:=JX e4 _ g4;rw[g5] at this;rw[k2];exact⟨_,_,rfl,rfl,e3 (fun h=>by rw[h] at g4;simp at g4),this,IJ _ _ e5⟩
  ·rename_i m e l;split at h
   ·rename_i m' e' ha;rw[dC,mN,zd] at h;obtain⟨⟨h1,hc⟩,y,h2,h3⟩:=h;simp only[Prod.mk.injEq] at h3;obtain⟨rfl,rfl⟩:=h3;have:=zI (ET hc);subst this;obtain⟨ei,hu,_,he⟩:=Q4 ha;obtain⟨ii,z,k1,_,k2,_⟩:=(hC.dP _ _ he).info;have h1:=zg h1;subst h1;obtain⟨g1,g2,g3⟩:=dW h2;obtain⟨a,cs,rfl,e2,e3,⟨e4,e4'⟩,e5⟩:=hx;have hg:n<(m:Int):=by have:List.length l=m:=e4;omega
    refine⟨rfl,_,q5y hu k1 e2 g1 hg,?_⟩;obtain⟨g4,g5⟩:=zB.1 g3;have:=JX e4' _ g4;rw[g5] at this;rw[k2];exact⟨_,_,rfl,rfl,e3,this,IJ _ _ e5⟩
   ·cases h
  ·rename_i id ver;split at h
   ·rename_i e aE fr s e1;rw[dC,mN,zd] at h;obtain⟨⟨h1,hc⟩,y,h2,h3⟩:=h;simp only[Prod.mk.injEq] at h3;obtain⟨rfl,rfl⟩:=h3;obtain⟨ei,hu,_,he⟩:=AG hc;obtain⟨ii,z,k1,_,k2,_⟩:=(hC.dP _ _ he).info;obtain⟨g1,g2,rfl⟩:=N7 h2;have ho:=hm.ay id;unfold au at hx;rw[e1] at hx ho;obtain⟨h0,hx⟩:=hx;rcases hx (zg h1) with ⟨hn,rfl⟩|⟨hn,cap,rfl,e3,e4⟩
    ·rw[ho.2.1 hn] at g2;simp at g2;omega
    ·refine⟨rfl,_,N9 hu k1 (a:=bare (φ id)) (ER e4.1 om) g1 g2,?_⟩;unfold au;rw[e1,k2];exact⟨h0,fun _=>⟨by omega,by simp[iX,bare]⟩⟩
   ·cases h
  ·rename_i id ver p cp;split at h
   ·rename_i e aE fr s e1;rw[dC,mN,zd] at h;obtain⟨⟨h1,hc⟩,y,h2,h3⟩:=h;simp only[Prod.mk.injEq] at h3;obtain⟨rfl,rfl⟩:=h3;obtain⟨ei,hu,_,he⟩:=AG hc;obtain⟨ii,z,k1,_,k2,_⟩:=(hC.dP _ _ he).info;obtain⟨g1,g2,rfl⟩:=N7 h2;have ho:=hm.ay id;unfold au at hx;rw[e1] at hx ho;obtain⟨h0,hx⟩:=hx;obtain⟨hp,hx,_⟩:=hx (zg h1);have Bm:n<(p:Int):=by
     have:(lf.aN s.l p).length=p:=by simp[lf,aN,Nat.min_eq_left hp]
     rw[this] at g2;exact g2
    rcases hx with ⟨hn,rfl⟩|⟨hn,cap,rfl,e3,e4⟩
    ·rw[ho.2.1 hn] at hp;simp at hp;omega
    ·refine⟨rfl,_,N9 hu k1 (a:=bare (φ id)) (ER e4.1 om) g1 Bm,?_⟩;unfold au;rw[e1,k2];exact⟨h0,fun _=>⟨by omega,by simp[iX,bare]⟩⟩
   ·cases h
  ·rename_i id ver lo;split at h
   ·rename_i e aE fr s e1;rw[dC,mN,zd] at h;obtain⟨⟨h1,hc⟩,y,h2,h3⟩:=h;simp only[Prod.mk.injEq] at h3;obtain⟨rfl,rfl⟩:=h3;obtain⟨ei,hu,_,he⟩:=AG hc;obtain⟨ii,z,k1,_,k2,_⟩:=(hC.dP _ _ he).info;have h2:aq (a8 0 n) (bZ s.l (aK lo n)) none=some y:=h2;have hf:0<=n:=by
     cases h:a8 0 n with
     |true=>exact zP h
     |false=>rw[h] at h2;cases h2
    have h2:bZ s.l (aK lo n)=some y:=by have:a8 0 n=true:=zu hf;rw[this] at h2;exact h2
    obtain⟨g1,g2,rfl⟩:=N7 h2;unfold aK at g1 g2;have ho:=hm.ay id;unfold au at hx;rw[e1] at hx ho;obtain⟨h0,hx⟩:=hx;obtain⟨kk,rfl,hk,hx⟩:=hx (zg h1);rcases hx with ⟨hn,rfl⟩|⟨hn,cap,rfl,e3⟩
    ·rw[ho.2.1 hn] at g2;simp at g2;omega
    ·have hj:cap≠0:=om
     rw[if_neg hj];refine⟨rfl,_,N9 hu k1 (a:=⟨(φ id).block,(φ id).off+kk*aM e,none⟩) rfl hf (show n<((s.l.length-kk:Nat):Int) by omega),?_⟩;unfold au;rw[e1,k2];have e4:(aK (kk:Int) n).toNat=kk+n.toNat:=by unfold aK;omega
     refine⟨h0,fun _=>⟨by rw[e4];omega,?_⟩⟩;rw[e4,Nat.add_mul];simp[iX,Nat.add_assoc]
   ·cases h
  ·rename_i id;split at h
   ·rename_i e fr s e1;split at h
    ·rename_i m e' ha;rw[dC,mN] at h;obtain⟨h1,y,h2,h3⟩:=h;simp only[Prod.mk.injEq] at h3;obtain⟨rfl,rfl⟩:=h3;have:=zI (ET h1);subst this;obtain⟨ei,hu,_,he⟩:=Q4 ha;obtain⟨ii,z,k1,_,k2,_⟩:=(hC.dP _ _ he).info;obtain⟨q,h3,h4⟩:=wu h2;obtain⟨g1,g2,rfl⟩:=N7 h4;obtain⟨_,h5,_⟩:=N8 h3;have h5:n+1<=(m:Int):=h5;unfold au at hx;rw[e1] at hx;have:=hx rfl;subst this;refine⟨rfl,_,q5y hu k1 rfl g1 (by show n<(m:Int);omega),?_⟩;unfold au;rw[e1,k2];exact⟨Nat.le_refl _,fun _=>⟨by omega,by simp[iX]⟩⟩
    ·cases h
   ·cases h
  ·cases h
theorem qxp(hm:MRel C X φ o w){t ty:TypeId}{ts:List TypeId}{x:V}{z:Value}{v:V}{u:List (Nat×Obj)}(hx:au φ o (ah X φ o w) w x z)(h:(P3 lf C o t x).gives v u):u=[]/\py C.P φ o (ah X φ o w) w v (Builtin.len_ (t::ts).toArray ty #[z]):=by
 have bd:∀n:Nat,n<=cj->fJ .i64 (n:Int):=by intro n hn;unfold cj at hn;unfold fJ IntKind.min IntKind.max;simp[IntKind.signed,IntKind.bits];omega
 unfold P3 at h;split at h
 ·rename_i hd;have hu:=kP hd;split at h
  ·rename_i l;rw[df] at h;obtain⟨rfl,rfl⟩:=h;obtain⟨s,rfl,rfl,hs⟩:=ry hx;exact⟨rfl,goInt (s.data.toList.map fun b=>(b.toNat:Int)).length,by simp[Builtin.len_,run_underlying hu],lH (bd _ (by simpa using hs))⟩
  ·cases h
 ·rename_i e hd;have hu:=kP hd;split at h
  ·rename_i e s;rw[df] at h;obtain⟨rfl,rfl⟩:=h;obtain⟨h1,h2⟩:=D1 hx;refine⟨rfl,goInt s.l.length,?_,lH (bd _ h1)⟩;rcases h2 with ⟨_,h3,rfl⟩|⟨_,a,cap,ec,rfl,_⟩
   ·simp[Builtin.len_,run_underlying hu,h3]
   ·simp[Builtin.len_,run_underlying hu]
  ·rw[df] at h;obtain⟨rfl,rfl⟩:=h;have:z=.slice none 0 0:=hx;subst this;exact⟨rfl,goInt 0,by simp[Builtin.len_,run_underlying hu],lH (bd 0 (by unfold cj;omega))⟩
  ·split at h
   ·rename_i e s he;rw[df] at h;obtain⟨rfl,rfl⟩:=h;obtain⟨⟨h1,h2⟩,_⟩:=N0 hm.ay hx he;refine⟨rfl,goInt s.l.length,?_,lH (bd _ h1)⟩;rcases h2 with ⟨_,h3,rfl⟩|⟨_,a,cap,ec,rfl,_⟩
    ·simp[Builtin.len_,run_underlying hu,h3]
    ·simp[Builtin.len_,run_underlying hu]
   ·cases h
 ·rename_i kt vt hd;have hu:=kP hd;split at h
  ·rename_i id;split at h
   ·cases h
   ·cases h
  ·rw[df] at h;obtain⟨rfl,rfl⟩:=h;have:z=.map none:=hx;subst this;exact⟨rfl,goInt 0,by simp[Builtin.len_,run_underlying hu],lH (bd 0 (by unfold cj;omega))⟩
  ·cases h
 ·rename_i n e hd;have hu:=kP hd;rw[dC,df] at h;obtain⟨h1,rfl,rfl⟩:=h;have h1:=zF h1;refine⟨rfl,goInt n,?_,lH (bd n (by unfold cj;omega))⟩;simp[Builtin.len_,run_underlying hu]
 ·cases h
end
section
variable {P:Program} {C:Cx} {X:Nat→Prop} {φ:Nat→Addr} {o:Nat→Obj} {w:World} {imm:Nat→Prop}
def dG(C:Cx)(X:Nat->Prop)(φ:Nat->Addr)(o:Nat->Obj)(w:World)(v:V)(u:List (Nat×Obj))(s:Sem Value):Prop:=∃val w' φ',s.run C.P w=.ok val w'/\Comes C X φ φ' o u w w' v val
theorem dG.aY(hm:MRel C X φ o w){v:V}{u:List (Nat×Obj)}{s:Sem Value}(h:u=[]/\py C.P φ o (ah X φ o w) w v s):dG C X φ o w v u s:=by obtain⟨rfl,val,h1,h2⟩:=h;exact⟨val,w,φ,h1,.same hm h2⟩
def wX(φ:Nat->Addr)(o:Nat->Obj)(imm:Nat->Prop)(w:World):Option V->Option Value->Prop
 |none,none=>True
 |some v,some z=>au φ o imm w v z
 |_,_=>False
theorem tM{d a:Int}{h:Option V}{z:Option Value}(hb:bd d h=some a)(hr:wX φ o imm w h z):(z=none/\a=d)\/∃k,z=some (.int k a):=by
 cases h with
 |none=>cases z with
  |none=>exact .inl ⟨rfl,(zI hb).symm⟩
  |some _=>exact hr.elim
 |some v=>cases z with
  |none=>exact hr.elim
  |some z=>
   simp only[bd] at hb;split at hb
   ·rename_i k n e;injection hb with hb;subst hb;exact .inr ⟨k,congrArg some (Kf e hr).1⟩
   ·cases hb
theorem EZ{isS:Bool}{len cap:Nat}{lo hi:Option Value}{a b:Int}(hc:len<=cap)(ha:(lo=none/\a=0)\/∃k,lo=some (.int k a))(hb:(hi=none/\b=len)\/∃k,hi=some (.int k b))(h0:0<=a)(h1:a<=b)(h2:b<=len):(Instr.sliceBounds isS len cap lo hi none).run P w=.ok (a.toNat,b.toNat,cap) w:=by
 have h3:b<=(cap:Int):=om
 have h4:0<=b:=om
 have h5:(b.toNat:Int)=b:=om
 rcases ha with ⟨rfl,rfl⟩|⟨k,rfl⟩<;>rcases hb with ⟨rfl,rfl⟩|⟨k',rfl⟩
 ·simp[Instr.sliceBounds]
 ·simp[Instr.sliceBounds,Instr.sliceBound,asIntOf,h3,h4]
 ·simp[Instr.sliceBounds,Instr.sliceBound,asIntOf,h0,h1]
 ·simp[Instr.sliceBounds,Instr.sliceBound,asIntOf,h0,h1,h3,h4,h5]
theorem Oa{len cap:Nat}{k k':IntKind}{b:Int}(h0:0<=b)(h1:b<=cap):(Instr.sliceBounds true len cap none (some (.int k b)) (some (.int k' b))).run P w=.ok (0,b.toNat,b.toNat) w:=by
 have h5:(b.toNat:Int)=b:=om
 simp[Instr.sliceBounds,Instr.sliceBound,asIntOf,h0,h1,h5]
theorem z1a{a:Addr}{n m:Nat}(h:room w a n)(hm:m<=n):room w a m:=by obtain⟨c,el,lo,hi,h1,h2,h3⟩:=h;exact⟨c,el,lo,hi,h1,by omega,by omega⟩
def jH(fr:Nat)(o:Nat->Obj)(u:List (Nat×Obj)):Prop:=∀p,p∈u->fr<=p.1->p.1<fr+16->o p.1=.none
theorem Comes.wY(hm:MRel C X φ o w){fr:Nat}(hg:o fr=.none){e:Ty}(he:e≠.int .u8){nil:Bool}{z:Value}(hz:(nil=true/\z=.slice none 0 0)\/(nil=false/\∃a:Addr,z=.slice (some a) 0 0)):∃φ',Comes C X φ φ' o [(fr,.vec e 0 false ⟨nil,[]⟩)] w w (.cK fr 0) z:=by
 have key:∀a:Addr,a.spot≠none->((nil=true/\z=.slice none 0 0)\/(nil=false/\z=.slice (some (bare a)) 0 0))->Comes C X φ (cP φ fr a) o [(fr,.vec e 0 false ⟨nil,[]⟩)] w w (.cK fr 0) z:=by
  intro a ha hz;have hc:∀i,i∈bJ [(fr,Obj.vec e 0 false ⟨nil,[]⟩)]->i=fr:=fun i hi=>by simpa[bJ] using hi
  have hf:ak o [(fr,Obj.vec e 0 false ⟨nil,[]⟩)] fr=.vec e 0 false ⟨nil,[]⟩:=eL;have hx:∀i,i∈bJ [(fr,Obj.vec e 0 false ⟨nil,[]⟩)]->aV (cP φ fr a i) (ak o [(fr,.vec e 0 false ⟨nil,[]⟩)] i)=true->False:=fun i hi hx=>by rw[hc i hi,hf,eL] at hx;exact ha (Bg hx).2.2
  refine Comes.make hm (Nat.le_refl _) (fun _ _ _=>rfl) (fun id hk=>nH fun e=>hk (by rw[e];exact zf ..)) (fun id _ hk=>nH fun e=>hk (by rw[e];exact zf ..)) (fun i hi=>?_) (fun i hi h=>(hx i hi h).elim) (fun i j hi hj h1 _ _ _=>(hx i hi h1).elim) (fun h1 h2 h3 i hi=>?_) (fun i hi=>?_) (fun _ _ _=>?_)
  ·rw[hc i hi,hg];trivial
  ·rw[hc i hi,hf];exact⟨Nat.zero_le _,fun _=>rfl,fun _=>.inr ⟨by rw[eL];exact ha,rfl,he⟩⟩
  ·rw[hc i hi,hf];exact fun h=>absurd h he
  ·unfold au;rw[hf,eL];refine⟨Nat.le_refl _,fun _=>?_⟩;rcases hz with ⟨h1,h2⟩|⟨h1,h2⟩
   ·exact .inl ⟨h1,h2⟩
   ·exact .inr ⟨h1,0,h2,Nat.le_refl _,fun _=>rfl,fun _ h=>absurd h ha⟩
 rcases hz with ⟨h1,h2⟩|⟨h1,a,h2⟩
 ·exact⟨_,key ⟨0,0,some 0⟩ (by simp) (.inl ⟨h1,h2⟩)⟩
 ·exact⟨_,key (mark a) (qsv a) (.inr ⟨h1,by rw[qsu];exact h2⟩)⟩
theorem qxq{e:Ty}{l:List (den e)}{ec:List Value}{a b:Nat}(hb:b<=l.length)(hc:a<=b)(h:bf (aC imm w e) l ec):bf (aC imm w e) ((l.take b).drop a) ((ec.drop (a*aM e)).take ((b-a)*aM e)):=by have h1:=(ve a om h).2;have h2:=(ve (b-a) (by simp;omega) h1).1;rw[List.drop_take];exact h2
theorem qo5{t:TypeId}{e:Ty}(hC:cf C){ei:TypeId}(hu:C.P.underlying t=some (.slice ei))(he:C.ty ei=some e){s:Sl (den e)}{z:Value}(hx:au φ o imm w (.d (.sl e) s) z){lo hi:Option Value}{a b:Int}{m:List (den e)}(hk:(lo=none/\a=0)\/∃k,lo=some (.int k a))(hg:(hi=none/\b=s.l.length)\/∃k,hi=some (.int k b))(hm:bG s.l a b=some m):∃val,(Instr.sliceAt t z lo hi none).run C.P w=.ok val w/\au φ o imm w (.d (.sl e) (⟨s.nil,m⟩:Sl (den e))) val:=by
 obtain⟨h0,h1,h2,rfl⟩:=qjd hm;obtain⟨ii,zz,k1,_,k2,_⟩:=(hC.dP _ _ he).info;obtain⟨hl,hs⟩:=D1 hx;have hf:((s.l.take b.toNat).drop a.toNat).length=b.toNat-a.toNat:=by simp;omega
 rcases hs with ⟨g1,g2,rfl⟩|⟨g1,ad,cap,ec,rfl,g2,g3,g4,g5,g6⟩
 ·rw[g2] at h2;have e1:a=0:=by simp at h2;omega
  have e2:b=0:=by simp at h2;omega
  have hb:=EZ (P:=C.P) (w:=w) (isS:=true) (len:=0) (cap:=0) (Nat.le_refl _) hk (by rw[g2] at hg;exact hg) h0 h1 (by simpa using h2);refine⟨.slice none 0 0,?_,?_⟩
  ·simp[Instr.sliceAt,run_underlying hu,Instr.slice,hb,iY k1,e1,e2]
  ·exact⟨_,rfl,by simp[g2],.inl ⟨g1,by simp[g2],rfl⟩⟩
 ·have hb:=EZ (P:=C.P) (w:=w) (isS:=true) g6 hk hg h0 h1 h2;refine⟨.slice (some (if cap=a.toNat then ad else ad.add (a.toNat*aM e))) (b.toNat-a.toNat) (cap-a.toNat),?_,?_⟩
  ·simp[Instr.sliceAt,run_underlying hu,Instr.slice,hb,iY k1,k2];split<;>rfl
  ·refine⟨_,rfl,by rw[hf];omega,.inr ⟨g1,?_⟩⟩;rw[hf];by_cases hc:cap=a.toNat
   ·rw[if_pos hc];have e1:(s.l.take b.toNat).drop a.toNat=[]:=zQ (by rw[hf];omega);exact⟨ad,_,[],rfl,fun h=>g2 om,fun h=>absurd e1 h,by rw[e1];rfl,fun j hj=>absurd hj (by simp),by omega⟩
   ·rw[if_neg hc,tL (g2 om)];exact⟨_,_,_,rfl,fun _=>rfl,fun h=>g3 (fun e=>h (by rw[e];simp)),qxq om om g4,IJ _ _ g5,by omega⟩
theorem qq6(hC:cf C)(hm:MRel C X φ o w){t:TypeId}{x:V}{z:Value}{lo hi mx:Option V}{AH Kg Ob:Option Value}{v:V}{u:List (Nat×Obj)}(hx:au φ o (ah X φ o w) w x z)(ht:wX φ o (ah X φ o w) w lo AH)(hw:wX φ o (ah X φ o w) w hi Kg)(hz:wX φ o (ah X φ o w) w mx Ob){fr:Nat}(h:(P6 lf C o fr t x lo hi mx).gives v u)(hf:jH fr o u):dG C X φ o w v u (Instr.sliceAt t z AH Kg Ob):=by
 have hk:mx=none->Ob=none:=by
  rintro rfl;cases Ob with
  |none=>rfl
  |some _=>exact hz.elim
 unfold P6 at h;split at h
 ·rename_i l;have:=hk rfl;subst this;split at h
  ·rename_i a b ha hb;rw[dC,mN] at h;obtain⟨h1,y,h2,h3⟩:=h;simp only[Prod.mk.injEq] at h3;obtain⟨rfl,rfl⟩:=h3;refine dG.aY hm ⟨rfl,?_⟩;obtain⟨s,rfl,rfl,hs⟩:=ry hx;have h1:=zg h1;have hu:C.P.underlying t=some .string:=by unfold Nx at h1;split at h1<;>first|(rename_i e;exact kP e)|cases h1
   obtain⟨h0,h1,h4,rfl⟩:=qjd h2;have hA:(s.data.toList.map fun b=>(b.toNat:Int)).length=s.size:=by simp
   rw[hA] at h4;have e1:lf.n (s.data.toList.map fun b=>(b.toNat:Int))=(s.size:Int):=by simp[lf,aa]
   rw[e1] at hb;have hb:=EZ (P:=C.P) (w:=w) (isS:=false) (Nat.le_refl _) (tM ha ht) (tM hb hw) h0 h1 h4;refine⟨.string (s.extract a.toNat b.toNat),?_,J4 ?_ ?_⟩
   ·simp[Instr.sliceAt,run_underlying hu,Instr.slice,hb]
   ·rw[ByteArray.data_extract,Array.toList_extract,List.extract_eq_take_drop,List.map_take,List.map_drop,List.drop_take]
   ·rw[ByteArray.size_extract];omega
  ·cases h
 ·rename_i e s;have:=hk rfl;subst this;split at h
  ·rename_i a b ha hb;rw[dC,mN] at h;obtain⟨h1,y,h2,h3⟩:=h;simp only[Prod.mk.injEq] at h3;obtain⟨rfl,rfl⟩:=h3;obtain⟨ei,hu,_,he⟩:=AG h1;obtain⟨val,g1,g2⟩:=qo5 hC hu he hx (tM ha ht) (tM hb hw) h2;exact dG.aY hm ⟨rfl,val,g1,g2⟩
  ·cases h
 ·rename_i e s _;split at h
  ·rename_i b c hb hc;rw[dC,mN,zd] at h;obtain⟨⟨h1,hL⟩,y,h2,h3⟩:=h;simp only[Prod.mk.injEq] at h3;obtain⟨rfl,rfl⟩:=h3;have hH:e≠.int .u8:=fun h=>by subst h;cases hL
   have hI:o fr=.none:=hf _ (zf ..) (Nat.le_refl _) (by show fr<fr+16;omega);have h2:aq (af b 0) (aq (af c 0) (some ()) none) none=some y:=h2;have hM:b=0:=by
    cases h:af b 0 with
    |true=>simpa[af] using h
    |false=>rw[h] at h2;cases h2
   have hN:c=0:=by
    cases h:af c 0 with
    |true=>simpa[af] using h
    |false=>rw[h] at h2;cases hh:af b 0<;>rw[hh] at h2<;>cases h2
   subst hM hN;have hq:AH=none:=by
    cases AH with
    |none=>rfl
    |some _=>exact ht.elim
   subst hq;obtain⟨kb,rfl⟩:=(tM hb hw).resolve_left fun h=>by cases h.2
   obtain⟨kc,rfl⟩:=(tM hc hz).resolve_left fun h=>by cases h.2
   obtain⟨ei,hu,_,he⟩:=AG h1;obtain⟨ii,zz,k1,_,k2,_⟩:=(hC.dP _ _ he).info;obtain⟨hl,hs⟩:=D1 hx;rcases hs with ⟨g1,g2,rfl⟩|⟨g1,ad,cap,ec,rfl,g2,g3,g4,g5,g6⟩
   ·obtain⟨φ',hh⟩:=Comes.wY hm hI hH (nil:=s.nil) (z:=.slice none 0 0) (.inl ⟨g1,rfl⟩);have hg:=Oa (P:=C.P) (w:=w) (len:=0) (cap:=0) (k:=kb) (k':=kc) (b:=0) (Int.le_refl _) (Int.le_refl _);refine⟨.slice none 0 0,w,φ',?_,hh⟩;simp[Instr.sliceAt,run_underlying hu,Instr.slice,hg,iY k1]
   ·obtain⟨φ',hh⟩:=Comes.wY hm hI hH (nil:=s.nil) (z:=.slice (some ad) 0 0) (.inr ⟨g1,ad,rfl⟩);have hg:=Oa (P:=C.P) (w:=w) (len:=s.l.length) (cap:=cap) (k:=kb) (k':=kc) (b:=0) (Int.le_refl _) om;refine⟨.slice (some ad) 0 0,w,φ',?_,hh⟩;simp[Instr.sliceAt,run_underlying hu,Instr.slice,hg,iY k1]
  ·cases h
 ·rename_i id ver _;split at h
  ·rename_i e aE fz s e1;rw[dC,zd] at h;obtain⟨⟨h1,hB⟩,h⟩:=h;obtain⟨ei,hu,_,he⟩:=AG hB;obtain⟨ii,zz,k1,_,k2,_⟩:=(hC.dP _ _ he).info;split at h
   ·rename_i b c hb hc;rw[mN] at h;obtain⟨p,h2,h3⟩:=h;simp only[Prod.mk.injEq] at h3;obtain⟨rfl,rfl⟩:=h3;obtain⟨p',h2,h4⟩:=wu h2;obtain⟨h0,h3,rfl⟩:=N8 h2;have h3:b<=(s.l.length:Int):=h3;have h4:aq (af b c) (some b.toNat) none=some p:=h4;have hO:b=c:=by
     cases h:af b c with
     |true=>simpa[af] using h
     |false=>rw[h] at h4;cases h4
    subst hO;have hp:p=b.toNat:=by
     have:af b b=true:=by simp[af]
     rw[this] at h4;exact(zI h4).symm
    subst hp;refine dG.aY hm ⟨rfl,?_⟩;have ho:=hm.ay id;unfold au at hx;rw[e1] at hx ho;obtain⟨hv,hx⟩:=hx;have hq:AH=none:=by
     cases AH with
     |none=>rfl
     |some _=>exact ht.elim
    subst hq;obtain⟨kb,rfl⟩:=(tM hb hw).resolve_left fun h=>by have:=h.2;omega
    obtain⟨kc,rfl⟩:=(tM hc hz).resolve_left fun h=>by have:=h.2;omega
    rcases hx (zg h1) with ⟨hn,rfl⟩|⟨hn,cap,rfl,e3,e5,e4⟩
    ·have hy:=ho.2.1 hn;rw[hy] at h3;have e2:b=0:=by simp at h3;omega
     subst e2;have hg:=Oa (P:=C.P) (w:=w) (len:=0) (cap:=0) (k:=kb) (k':=kc) (b:=0) (Int.le_refl _) (Int.le_refl _);refine⟨.slice none 0 0,?_,?_⟩
     ·simp[Instr.sliceAt,run_underlying hu,Instr.slice,hg,iY k1]
     ·unfold au;rw[e1];refine⟨hv,fun _=>⟨Nat.zero_le _,.inl ⟨hn,rfl⟩,fun _ a m c h=>?_⟩⟩;injection h with _ _ h;exact h.symm
    ·have hg:=Oa (P:=C.P) (w:=w) (len:=s.l.length) (cap:=cap) (k:=kb) (k':=kc) h0 om;refine⟨.slice (some (bare (φ id))) b.toNat b.toNat,?_,?_⟩
     ·simp[Instr.sliceAt,run_underlying hu,Instr.slice,hg,iY k1,Addr.add,bare]
     ·unfold au;rw[e1];refine⟨hv,fun _=>⟨by omega,.inr ⟨hn,b.toNat,rfl,Nat.le_refl _,fun h=>?_,fun h1 h2=>?_⟩,fun _ a m c h=>?_⟩⟩
      ·have:=e5 h;omega
      ·exact z1a (e4 h1 h2) (Nat.mul_le_mul_right _ om)
      ·injection h with _ _ h;exact h.symm
   ·cases h
  ·cases h
 ·rename_i id ver;have:=hk rfl;subst this;split at h
  ·rename_i e aE fr s e1;rw[dC,zd] at h;obtain⟨⟨h1,hB⟩,h⟩:=h;obtain⟨ei,hu,_,he⟩:=AG hB;obtain⟨ii,zz,k1,_,k2,_⟩:=(hC.dP _ _ he).info;split at h
   ·split at h
    ·rename_i b hb;rw[mN] at h;obtain⟨p,h2,h3⟩:=h;simp only[Prod.mk.injEq] at h3;obtain⟨rfl,rfl⟩:=h3;obtain⟨h0,h3,rfl⟩:=N8 h2;have h3:b<=(s.l.length:Int):=h3;refine dG.aY hm ⟨rfl,?_⟩;have ho:=hm.ay id;unfold au at hx;rw[e1] at hx ho;obtain⟨hv,hx⟩:=hx;have hq:AH=none:=by
      cases AH with
      |none=>rfl
      |some _=>exact ht.elim
     subst hq;rcases hx (zg h1) with ⟨hn,rfl⟩|⟨hn,cap,rfl,e3,e4⟩
     ·have hy:=ho.2.1 hn;rw[hy] at h3;have e2:b=0:=by simp at h3;omega
      have hJ:=tM hb hw;have e5:lf.n s.l=0:=by rw[hy];rfl
      rw[e5] at hJ;have hg:=EZ (P:=C.P) (w:=w) (isS:=true) (len:=0) (cap:=0) (lo:=none) (hi:=Kg) (a:=0) (b:=b) (Nat.le_refl _) (.inl ⟨rfl,rfl⟩) hJ (Int.le_refl _) om om;refine⟨.slice none 0 0,?_,?_⟩
      ·simp[Instr.sliceAt,run_underlying hu,Instr.slice,hg,iY k1,e2]
      ·unfold au;rw[e1,e2];exact⟨hv,fun _=>⟨Nat.zero_le _,.inl ⟨hn,rfl⟩,by simp⟩⟩
     ·have hg:=EZ (P:=C.P) (w:=w) (isS:=true) (lo:=none) (a:=0) e3 (.inl ⟨rfl,rfl⟩) (tM hb hw) (Int.le_refl _) h0 h3;refine⟨.slice (some (bare (φ id))) b.toNat cap,?_,?_⟩
      ·simp[Instr.sliceAt,run_underlying hu,Instr.slice,hg,iY k1,Addr.add,bare]
      ·unfold au;rw[e1];exact⟨hv,fun _=>⟨by omega,.inr ⟨hn,cap,rfl,by omega,e4⟩,by simp⟩⟩
    ·cases h
   ·rename_i Bb;split at h
    ·split at h
     ·rename_i a ha;rw[mN] at h;obtain⟨p,h2,h3⟩:=h;simp only[Prod.mk.injEq] at h3;obtain⟨rfl,rfl⟩:=h3;obtain⟨h0,h3,_⟩:=N8 h2;have h3:a<=(s.l.length:Int):=h3;refine dG.aY hm ⟨rfl,?_⟩;have ho:=hm.ay id;unfold au at hx;rw[e1] at hx ho;obtain⟨hv,hx⟩:=hx;have hE:Kg=none:=by
       cases Kg with
       |none=>rfl
       |some _=>exact hw.elim
      subst hE;have hP:a.toNat<=s.l.length:=om
      have hQ:a=((a.toNat:Nat):Int):=om
      rcases hx (zg h1) with ⟨hn,rfl⟩|⟨hn,cap,rfl,e3,e4⟩
      ·have hy:=ho.2.1 hn;rw[hy] at h3;have e2:a=0:=by simp at h3;omega
       subst e2;have hg:=EZ (P:=C.P) (w:=w) (isS:=true) (len:=0) (cap:=0) (lo:=AH) (hi:=none) (a:=0) (b:=0) (Nat.le_refl _) (tM ha ht) (.inl ⟨rfl,rfl⟩) (Int.le_refl _) (Int.le_refl _) (Int.le_refl _);refine⟨.slice none 0 0,?_,?_⟩
       ·simp[Instr.sliceAt,run_underlying hu,Instr.slice,hg,iY k1]
       ·unfold au;rw[e1];exact⟨hv,fun _=>⟨0,rfl,Nat.zero_le _,.inl ⟨hn,rfl⟩⟩⟩
      ·have hg:=EZ (P:=C.P) (w:=w) (isS:=true) (len:=s.l.length) (cap:=cap) (lo:=AH) (hi:=none) (a:=a) (b:=s.l.length) e3 (tM ha ht) (.inl ⟨rfl,rfl⟩) h0 h3 (Int.le_refl _);refine⟨.slice (some (if cap-a.toNat=0 then bare (φ id) else⟨(φ id).block,(φ id).off+a.toNat*aM e,none⟩)) (s.l.length-a.toNat) (cap-a.toNat),?_,?_⟩
       ·simp[Instr.sliceAt,run_underlying hu,Instr.slice,hg,iY k1,k2];by_cases hc:cap=a.toNat
        ·rw[if_pos hc,if_pos om]
        ·rw[if_neg hc,if_neg om,tL (ER e4.1 om)];rfl
       ·unfold au;rw[e1];exact⟨hv,fun _=>⟨a.toNat,hQ,hP,.inr ⟨hn,cap-a.toNat,rfl,by omega⟩⟩⟩
     ·cases h
    ·split at h
     ·rename_i a b ha hb;rw[mN] at h;obtain⟨y,h2,h3⟩:=h;simp only[Prod.mk.injEq] at h3;obtain⟨rfl,rfl⟩:=h3;have hF:=Ka hm [id];have e2:dN o [id]=[(id,.vec e aE true s)]:=by simp[dN,e1]
      have hR:=hF.keeps _ _ hx;have hS:tK (ak o (dN o [id])) (.cK id ver):=N3 (fun j hj=>by
       unfold eJ at hj;split at hj
       ·cases hj
       ·exact hj)
      have hG:iQ lf o (.sl e) (.cK id ver)=some s:=by
       simp only[iQ,e1,h1,cond_true];unfold fZ;split
       ·rfl
       ·rename_i hT _;exact absurd rfl hT
      have hK:mW lf o (.sl e) (.cK id ver)=some s:=by unfold mW;rw[hG]
      rw[<-Bk [id]] at hK;have hd:=QT hF.mem hR hS hK;obtain⟨val,g1,g2⟩:=qo5 hC hu he hd (tM ha ht) (tM hb hw) h2;refine⟨val,w,φ,g1,?_⟩;rw[<-e2];exact {hF with val:=g2}
     ·cases h
  ·cases h
 ·cases h
theorem qxr{c:Bool}{a b:V}{za zb:Value}(ha:au φ o imm w a za)(hb:au φ o imm w b zb):au φ o imm w (Qh lf c a b) (if c then za else zb):=by
 unfold Qh;split
 ·rename_i t a' t' b';split
  ·rename_i b'' e;obtain⟨rfl,rfl⟩:=wq e;cases c
   ·exact hb
   ·exact ha
  ·cases c
   ·exact hb
   ·exact ha
 ·cases c
  ·exact hb
  ·exact ha
theorem qxs{x:V}{z:Value}{v:V}{u:List (Nat×Obj)}(hx:au φ o imm w x z)(h:(Ip o x).gives v u):u=[]/\v=x/\((∃a,z=.pointer (some a))\/(∃f p c,z=.func (.func f) p c)):=by
 unfold Ip at h;split at h
 ·rw[dC,df] at h;obtain⟨h1,rfl,rfl⟩:=h;exact⟨rfl,rfl,.inl (QP hx h1)⟩
 ·rw[df] at h;obtain⟨rfl,rfl⟩:=h;obtain⟨a,cs,h1,_⟩:=hx;exact⟨rfl,rfl,.inl ⟨a,h1⟩⟩
 ·rename_i id ver i path;split at h
  ·rename_i e1;rw[dC,df] at h;obtain⟨h1,rfl,rfl⟩:=h;unfold au at hx;rw[e1] at hx;exact⟨rfl,rfl,.inl ⟨_,(hx.2 (zg h1)).2⟩⟩
  ·cases h
 ·rw[df] at h;obtain⟨rfl,rfl⟩:=h;obtain⟨c,h1,_⟩:=hx;exact⟨rfl,rfl,.inr ⟨_,_,_,h1⟩⟩
 ·cases h
end
def ov(l:List Value)(off:Nat)(vs:List Value):List Value:=l.take off++vs++l.drop (off+vs.length)
theorem z3g(l:List Value)(off:Nat):ov l off []=l:=by simp[ov]
theorem qt6(l:List Value)(off:Nat)(v:Value)(vs:List Value)(h:off+(vs.length+1)<=l.length):ov (l.set off v) (off+1) vs=ov l off (v::vs):=list_seg_step l off v vs h
theorem Q5(l:List Value)(off:Nat)(vs:List Value)(h:off+vs.length<=l.length):(ov l off vs).length=l.length:=by simp[ov];omega
theorem qt7:∀(vs:List Value) (off k:Nat) (cs:Array Value),off+k+vs.length<=cs.size->(vs.zipIdx k).foldl (fun cs p=>cs.setIfInBounds (off+p.2) p.1) cs=(ov cs.toList (off+k) vs).toArray
 |[],off,k,cs,_=>by simp[ov]
 |v::vs,off,k,cs,h=>by simp only[List.zipIdx_cons,List.foldl_cons];rw[qt7 vs off (k+1) _ (by simp at h ⊢;omega),Array.toList_setIfInBounds,<-Nat.add_assoc,qt6];simp at h ⊢;omega
theorem qje(place:Nat->Option (Nat×Nat))(cells:Array Value)(i:Nat)(v:Value)(rest:List (Nat×Value)){off sz:Nat}(hp:place i=some (off,sz))(hs:v.cells.size=sz)(hb:off+sz<=cells.size):Instr.fill place cells ((i,v)::rest)=Instr.fill place (ov cells.toList off v.cells.toList).toArray rest:=by
 have e:(v.cells.zipIdx.foldl (fun cs p=>cs.setIfInBounds (off+p.2) p.1) cells)=(ov cells.toList off v.cells.toList).toArray:=by have:=qt7 v.cells.toList off 0 cells (by simp;omega);simp only[Nat.add_zero] at this;rw[<-Array.foldl_toList,Array.toList_zipIdx];exact this
 simp only[Instr.fill,hp];rw[if_neg (by simp;omega),e]
theorem qq7(w:World)(b i:Nat)(cs:Array Value)(t:TypeId)(fr:Nat×Nat)(v:Value)(hg:w.heap[b]?=some (.cells cs t fr)):w.setCell ⟨b,i,none⟩ v=w.setRow b (cs.setIfInBounds i v):=setCell_eq_setRow w b i cs t fr v hg
section
variable {P:Program} {C:Cx} {X:Nat→Prop} {φ φ':Nat→Addr} {o:Nat→Obj} {w w':World} {imm:Nat→Prop}
theorem Kh{b off lo hi:Nat}{t:TypeId}:∀(vs:List Value) (i:Nat) (cur:Array Value) (w:World),w.heap[b]?=some (.cells cur t (lo,hi))->off+i+vs.length<=cur.size->(hi<=lo\/hi<=off+i\/off+i+vs.length<=lo)->(∀v∈vs,v.oneCell'=true)->(storeCells ⟨b,off,none⟩ vs i).run P w=.ok () (w.setRow b (ov cur.toList (off+i) vs).toArray)
 |[],i,cur,w,hg,_,_,_=>by simp only[storeCells,z3g,Array.toArray_toList];rw[setRow_self w b cur t (lo,hi) hg];rfl
 |v::rest,i,cur,w,hg,hl,hf,h1=>by
  have he:(⟨b,off,none⟩:Addr).add i=⟨b,off+i,none⟩:=tL rfl i;simp only[zw] at hl hf;have hk:off+i<cur.size:=om
  have hc:w.cell? ⟨b,off+i,none⟩=some cur[off+i]:=by simp[World.cell?,hg,hk]
  have hj:w.frozen? ⟨b,off+i,none⟩=false:=by simp only[World.frozen?,hg,Bool.and_eq_false_iff,decide_eq_false_iff_not];omega
  have hm:(store ((⟨b,off,none⟩:Addr).add i) v).run P w=.ok () (w.setRow b (cur.setIfInBounds (off+i) v)):=by rw[he,run_store P w _ v _ (h1 v (by simp)),hc];simp[hj,qq7 w b (off+i) cur t (lo,hi) v hg]
  have ih:=Kh (off:=off) (lo:=lo) (hi:=hi) rest (i+1) (cur.setIfInBounds (off+i) v) (w.setRow b (cur.setIfInBounds (off+i) v)) (setRow_heap w b cur _ t _ hg) (by simp;omega) om (fun x hx=>h1 x (by simp[hx]));simp only[storeCells,Sem.run_bind,hm,Result.andThen_ok,ih,setRow_setRow];rw[Array.toList_setIfInBounds,show off+(i+1)=off+i+1 by omega,qt6 _ _ _ _ (by simp;omega)]
theorem Oc{b:Nat}{cur:Array Value}{t:TypeId}{fr:Nat×Nat}(h:w.heap[b]?=some (.cells cur t fr))(cs:Array Value):(w.setRow b cs).heap[b]?=some (.cells cs t fr):=setRow_heap w b cur cs t fr h
theorem Od{e:Ty}{l m:List (den e)}{cs ds:List Value}{i:Nat}(hi:i+m.length<=l.length)(h:bf (aC imm w e) l cs)(h':bf (aC imm w e) m ds):bf (aC imm w e) (l.take i++m++l.drop (i+m.length)) (ov cs (i*aM e) ds):=by unfold ov;have h1:=(ve i om h).1;have h2:=(ve (i+m.length) hi h).2;rw[oy h',<-Nat.add_mul];exact Iw (Iw h1 h') h2
theorem E5:∀(t:Ty) (x:den t) (cs:List Value),aC imm w t x cs->∀v,v∈cs->v.oneCell'=true
 |.unit,_,_,h,v,hv=>by simp[aC] at h;subst h;cases hv
 |.pair a b,x,_,⟨c,d,e,h1,h2⟩,v,hv=>by
  subst e;rcases zU.1 hv with hv|hv
  ·exact E5 a x.1 c h1 v hv
  ·exact E5 b x.2 d h2 v hv
 |.st p,x,cs,h,v,hv=>E5 p x cs h v hv
 |.arr n e,l,cs,⟨_,h2⟩,v,hv=>by
  have key:∀(l:List (den e)) (cs:List Value),bf (aC imm w e) l cs->∀v,v∈cs->v.oneCell'=true:=by
   intro l
   induction l with
   |nil=>intro cs h v hv;simp[bf] at h;subst h;cases hv
   |cons y l ih=>
    intro cs ⟨c,d,e1,h3,h4⟩ v hv;subst e1;rcases zU.1 hv with hv|hv
    ·exact E5 e y c h3 v hv
    ·exact ih d h4 v hv
  exact key l cs h2 v hv
 |.int _,_,_,h,v,hv=>by obtain⟨h,_⟩:=h;subst h;simp at hv;subst hv;rfl
 |.bool,_,_,h,v,hv=>by have h:_=[_]:=h;subst h;simp at hv;subst hv;rfl
 |.eD,_,_,h,v,hv=>by have h:_=[_]:=h;subst h;simp at hv;subst hv;rfl
 |.eU,_,_,h,v,hv=>by have h:_=[_]:=h;subst h;simp at hv;subst hv;rfl
 |.str,_,_,⟨s,h,_⟩,v,hv=>by subst h;simp at hv;subst hv;rfl
 |.sl e,_,_,⟨x,h,_,h2⟩,v,hv=>by subst h;simp at hv;subst hv;rcases h2 with ⟨_,_,rfl⟩|⟨_,a,cap,ec,rfl,_⟩<;>rfl
 |.ks e,_,_,⟨0,h⟩,v,hv=>h.elim
 |.ks e,_,_,⟨n+1,x,h,_,h2⟩,v,hv=>by subst h;simp at hv;subst hv;rcases h2 with ⟨_,_,rfl⟩|⟨_,a,cap,ec,rfl,_⟩<;>rfl
theorem Oe{e:Ty}:∀{l:List (den e)} {cs:List Value},bf (aC imm w e) l cs->∀v,v∈cs->v.oneCell'=true
 |[],cs,h,v,hv=>by simp[bf] at h;subst h;cases hv
 |y::l,cs,⟨c,d,e1,h3,h4⟩,v,hv=>by
  subst e1;rcases zU.1 hv with hv|hv
  ·exact E5 e y c h3 v hv
  ·exact Oe h4 v hv
theorem Comes.fresh(hm:MRel C X φ o w){fr:Nat}{B:Go.Obj}{w':World}(hg:w'.heap=w.heap.push B)(x:Obj){ns:List (Nat×Obj)}(hc:∀p,p∈ns->(∃e,p.2=.vec e 0 false ⟨true,[]⟩)/\p.1≠fr/\o p.1=.none)(hu:∀w',Up w w' (φ fr) ⟨w.heap.size,0,none⟩ (o fr) x){v:V}{z:Value}(hl:(∀b,ah X φ o w b->ah X (cP φ fr ⟨w.heap.size,0,none⟩) (ak o ((fr,x)::ns)) w' b)->(∀b,ah X φ o w b->w'.heap[b]?=w.heap[b]?)->(∀y z,au φ o (ah X φ o w) w y z->au (cP φ fr ⟨w.heap.size,0,none⟩) (ak o ((fr,x)::ns)) (ah X (cP φ fr ⟨w.heap.size,0,none⟩) (ak o ((fr,x)::ns)) w') w' y z)->o3 (cP φ fr ⟨w.heap.size,0,none⟩) (ak o ((fr,x)::ns)) (ah X (cP φ fr ⟨w.heap.size,0,none⟩) (ak o ((fr,x)::ns)) w') w' fr x)(hn:gR C w' ⟨w.heap.size,0,none⟩ x)(ho:ak o ((fr,x)::ns) fr=x->au (cP φ fr ⟨w.heap.size,0,none⟩) (ak o ((fr,x)::ns)) (ah X (cP φ fr ⟨w.heap.size,0,none⟩) (ak o ((fr,x)::ns)) w') w' v z)(still:Bi w w':=by exact⟨rfl,rfl⟩):
  Comes C X φ (cP φ fr ⟨w.heap.size,0,none⟩) o ((fr,x)::ns) w w' v z:=by
 have hq:∀(ns:List (Nat×Obj)) (o':Nat->Obj) (id:Nat),(∀p,p∈ns->∃e,p.2=.vec e 0 false ⟨true,[]⟩)->id∈bJ ns->∃e,ak o' ns id=.vec e 0 false ⟨true,[]⟩:=by
  intro ns
  induction ns with
  |nil=>intro o' id _ h;cases h
  |cons p r ih=>
   obtain⟨i,y⟩:=p;intro o' id hc h;by_cases hr:id∈bJ r
   ·exact ih _ _ (fun p hp=>hc p (zh _ hp)) hr
   ·simp only[bJ,zt,hr,or_false] at h;subst h;show ∃e,ak (cP o' id y) r id=_;rw[gS hr,eL];exact hc _ (zf ..)
 have hs:∀(ns:List (Nat×Obj)) id,id∈bJ ns->∃p,p∈ns/\p.1=id:=by
  intro ns
  induction ns with
  |nil=>intro id h;cases h
  |cons p r ih=>
   intro id h;rcases zt.1 h with h|h
   ·exact⟨p,zf ..,h.symm⟩
   ·obtain⟨q,h1,h2⟩:=ih id h;exact⟨q,zh _ h1,h2⟩
 have ht:fr∉bJ ns:=fun h=>by obtain⟨p,h1,h2⟩:=hs ns _ h;exact(hc p h1).2.1 h2
 have he:ak o ((fr,x)::ns) fr=x:=by show ak (cP o fr x) ns fr=x;rw[gS ht,eL]
 have hz:∀id,id∈bJ ns->id≠fr:=fun id h e=>ht (e▸h);have hf:∀id,id∈bJ ns->∃e,ak o ((fr,x)::ns) id=.vec e 0 false ⟨true,[]⟩:=fun id h=>hq ns _ id (fun p hp=>(hc p hp).1) h;have hv:∀id,id∈bJ ns->o id=.none:=fun id h=>by obtain⟨p,h1,h2⟩:=hs ns _ h;exact h2▸(hc p h1).2.2
 refine Comes.make hm (by rw[hg];simp) (fun b hb _=>by rw[hg,Array.getElem?_push,if_neg (Nat.ne_of_lt hb)]) (fun id hk=>?_) (fun id _ hk=>?_) (fun id hk=>?_) (fun id hk hx=>?_) (fun i j hi hj hw hy _ _=>?_) (fun h1 h2 h3 id hk=>?_) (fun id hk=>?_) (fun h1 h2 h3=>ho he) still
 ·exact nH fun e=>hk (e▸zf ..)
 ·exact nH fun e=>hk (e▸zf ..)
 ·rcases zt.1 hk with rfl|hk
  ·rw[eL,he];exact hu _
  ·rw[hv id hk];trivial
 ·rcases zt.1 hk with rfl|hk
  ·rw[eL];exact .inl ⟨Nat.le_refl _,by rw[hg];simp⟩
  ·obtain⟨e,h⟩:=hf id hk;rw[h] at hx;simp[aV,live] at hx
 ·have key:∀i a,i∈bJ ((fr,x)::ns)->aV a (ak o ((fr,x)::ns) i)=true->i=fr:=fun i a hk hx=>by
   rcases zt.1 hk with h|hk
   ·exact h
   ·obtain⟨e,h⟩:=hf i hk;rw[h] at hx;simp[aV,live] at hx
  rw[key i _ hi hw,key j _ hj hy]
 ·rcases zt.1 hk with rfl|hk
  ·rw[he];exact hl h1 h2 h3
  ·obtain⟨e,h⟩:=hf id hk;rw[h];exact⟨Nat.zero_le _,fun _=>rfl,fun h=>by simp at h⟩
 ·rcases zt.1 hk with rfl|hk
  ·rw[he,eL];exact hn
  ·obtain⟨e,h⟩:=hf id hk;rw[h];exact fun _ h=>by simp at h
theorem Comes.write(hm:MRel C X φ o w){id:Nat}{w':World}(x:Obj)(hx:aV (φ id) x=true->aV (φ id) (o id)=true)(ho:w'.heap.size=w.heap.size)(hl:∀b,¬(aV (φ id) (o id)=true/\(φ id).block=b)->w'.heap[b]?=w.heap[b]?)(hn:Up w w' (φ id) (φ id) (o id) x){v:V}{z:Value}(hf:(∀b,ah X φ o w b->ah X φ (ak o [(id,x)]) w' b)->(∀b,ah X φ o w b->w'.heap[b]?=w.heap[b]?)->(∀y z,au φ o (ah X φ o w) w y z->au φ (ak o [(id,x)]) (ah X φ (ak o [(id,x)]) w') w' y z)->o3 φ (ak o [(id,x)]) (ah X φ (ak o [(id,x)]) w') w' id x)(hg:gR C w' (φ id) x)(hk:ak o [(id,x)] id=x->au φ (ak o [(id,x)]) (ah X φ (ak o [(id,x)]) w') w' v z)(still:Bi w w':=by exact⟨rfl,rfl⟩):Comes C X φ φ o [(id,x)] w w' v z:=by
 have he:ak o [(id,x)] id=x:=eL;have hc:∀i,i∈bJ [(id,x)]->i=id:=fun i hi=>by simpa[bJ] using hi
 refine Comes.make hm om (fun b _ hh=>hl b fun⟨h1,h2⟩=>hh ⟨id,by simp[bJ],h1,h2⟩) (fun _ _=>rfl) (fun _ _ _=>rfl) (fun i hi=>?_) (fun i hi h=>?_) (fun i j hi hj _ _ _ _=>?_) (fun h1 h2 h3 i hi=>?_) (fun i hi=>?_) (fun _ _ _=>hk he) still
 ·rw[hc i hi,he];exact hn
 ·rw[hc i hi,he] at h;rw[hc i hi];exact .inr ⟨hx h,rfl⟩
 ·rw[hc i hi,hc j hj]
 ·rw[hc i hi,he];exact hf h1 h2 h3
 ·rw[hc i hi,he];exact hg
end
theorem qt8{z:Value}(h:z.oneCell'=true):z.cells=#[z]:=by cases z<;>first|rfl|(simp[Value.oneCell'] at h;done)
theorem q9r{o:Nat->Obj}:∀{a b:List V},uW o (a++b)=true->uW o a=true/\uW o b=true
 |[],b,h=>⟨rfl,h⟩
 |x::a,b,h=>by simp only[List.cons_append,uW,zd] at h ⊢;obtain⟨h1,h2⟩:=q9r h.2;exact⟨⟨h.1,h1⟩,h2⟩
section
variable {P:Program} {C:Cx} {X:Nat→Prop} {φ φ':Nat→Addr} {o o':Nat→Obj} {w w':World} {imm imm':Nat→Prop}
theorem qjf{x:V}{z:Value}(hx:au φ o imm w x z)(h:Ik o x=true):z.oneCell'=true:=by
 cases x<;>simp only[Ik] at h<;>try (cases h;done)
 ·rename_i t d;exact E5 t d [z] (qj9 h hx) z (zS.2 rfl)
 ·rename_i id ver;unfold au at hx;split at h
  ·rename_i e;rw[e] at hx;rcases hx.2 (zg h) with ⟨_,rfl⟩|⟨_,cap,rfl,_⟩<;>rfl
  ·cases h
 ·rename_i id ver n cp;unfold au at hx;split at h
  ·rename_i e;rw[e] at hx;rcases(hx.2 (zg h)).2.1 with ⟨_,rfl⟩|⟨_,cap,rfl,_⟩<;>rfl
  ·cases h
 ·rename_i id off;unfold au at hx;split at h
  ·rename_i e;rw[e] at hx;simp only at hx;subst hx;rfl
  ·rename_i e;rw[e] at hx;have:=hx (zg h).symm;subst this;rfl
  ·cases h
 ·rename_i id ver i path;unfold au at hx;split at h
  ·rename_i e;rw[e] at hx;have:=(hx.2 (zg h)).2;subst this;rfl
  ·cases h
 ·obtain⟨a,cs,rfl,_⟩:=hx;rfl
 ·have:z=.pointer none:=hx;subst this;rfl
 ·obtain⟨c,rfl,_⟩:=hx;rfl
 ·have:z=.nilFunc:=hx;subst this;rfl
 ·rename_i id;unfold au at hx;split at h
  ·rename_i e;rw[e] at hx;simp only at hx;subst hx;rfl
  ·cases h
 ·have:z=.map none:=hx;subst this;rfl
 ·have:z=.nilIface:=hx;subst this;rfl
 ·have:z=.slice none 0 0:=hx;subst this;rfl
 ·rename_i id b;unfold au at hx;split at h
  ·rename_i e;rw[e] at hx;simp only at hx;subst hx;cases b<;>rfl
  ·cases h
 ·rename_i id ver lo;unfold au at hx;split at h
  ·rename_i e;rw[e] at hx;obtain⟨k,_,_,hx⟩:=hx.2 (zg h);rcases hx with ⟨_,rfl⟩|⟨_,cap,rfl,_⟩<;>rfl
  ·cases h
 ·rename_i id;unfold au at hx;split at h
  ·rename_i e;rw[e] at hx;simp only at hx;subst hx;rfl
  ·cases h
 ·rename_i a k n;have hx:vf imm w a k n z:=hx;rcases NY a hx with ⟨rfl,_⟩|⟨_,_,rfl,_⟩<;>rfl
theorem Q6:∀{cs:List V} {zs:List Value},bW φ o imm w cs zs->uW o cs=true->∀z,z∈zs->z.oneCell'=true
 |[],zs,h,_,z,hz=>by simp[bW] at h;subst h;cases hz
 |x::l,zs,⟨y,r,e,h1,h2⟩,hs,z,hz=>by
  subst e;simp only[uW,zd] at hs;rcases zt.1 hz with rfl|hz
  ·exact qjf h1 hs.1
  ·exact Q6 h2 hs.2 z hz
theorem z1b:∀(p:Ty) (x:den p) (cs:List Value),aC imm w p x cs->uW o (iB p x)=true->bW φ o imm w (iB p x) cs:=by
 have one:∀(t:Ty) (x:den t) (cs:List Value),kx t=true->aC imm w t x cs->bW φ o imm w [.d t x] cs:=by intro t x cs hs h;obtain⟨v,rfl,h2⟩:=N4 hs h;exact⟨v,[],rfl,h2,rfl⟩
 intro p
 induction p with
 |unit=>intro x cs h _;exact h
 |pair a b nf jF=>intro x cs ⟨c,d,e,h1,h2⟩ hs;subst e;obtain⟨g1,g2⟩:=q9r (a:=iB a x.1) (b:=iB b x.2) hs;exact AF (nf _ _ h1 g1) (jF _ _ h2 g2)
 |st p ih=>intro x cs h hs;exact ih x cs h hs
 |arr n e _=>intro x cs h hs;simp[iB,uW,Ik,kx] at hs
 |int k=>intro x cs h _;exact one _ _ _ rfl h
 |bool=>intro x cs h _;exact one _ _ _ rfl h
 |eD=>intro x cs h _;exact one _ _ _ rfl h
 |eU=>intro x cs h _;exact one _ _ _ rfl h
 |str=>intro x cs h _;exact one _ _ _ rfl h
 |sl e _=>intro x cs h _;exact one _ _ _ rfl h
 |ks q _=>intro x cs h _;exact one (.sl (mH q)) (A3 q x) _ rfl ((Iy q x cs).1 h)
theorem Q7{x:V}{z:Value}{vs:List V}(hx:au φ o imm w x z)(h:JG o x=some vs):bW φ o imm w vs z.cells.toList/\∀c,c∈z.cells.toList->c.oneCell'=true:=by
 unfold JG at h;split at h
 ·rename_i p y;cases hs:uW o (iB p y) with
  |false=>rw[hs] at h;cases h
  |true=>rw[hs] at h;injection h with h;subst h;obtain⟨cs,rfl,h1⟩:=hx;have:=z1b (φ:=φ) (o:=o) p y _ h1 hs;exact⟨this,Q6 this hs⟩
 ·rename_i cs;cases hs:uW o cs with
  |false=>rw[hs] at h;cases h
  |true=>rw[hs] at h;injection h with h;subst h;obtain⟨c,rfl,h1⟩:=hx;exact⟨h1,Q6 h1 hs⟩
 ·cases hs:Ik o x with
  |false=>rw[hs] at h;cases h
  |true=>rw[hs] at h;injection h with h;subst h;have h1:=qjf hx hs;rw[qt8 h1];exact⟨⟨z,[],rfl,hx,rfl⟩,fun c hc=>by simp at hc;subst hc;exact h1⟩
theorem Q8:∀(ns:List (Nat×Obj)) (o':Nat->Obj) (id:Nat),(∀p,p∈ns->∃e,p.2=.vec e 0 false ⟨true,[]⟩)->id∈bJ ns->∃e,ak o' ns id=.vec e 0 false ⟨true,[]⟩:=by
 intro ns
 induction ns with
 |nil=>intro o' id _ h;cases h
 |cons p r ih=>
  obtain⟨i,y⟩:=p;intro o' id hc h;by_cases hr:id∈bJ r
  ·exact ih _ _ (fun p hp=>hc p (zh _ hp)) hr
  ·simp only[bJ,zt,hr,or_false] at h;subst h;show ∃e,ak (cP o' id y) r id=_;rw[gS hr,eL];exact hc _ (zf ..)
theorem Of:∀{ns:List (Nat×Obj)} {p},p∈ns->p.1∈bJ ns
 |q::r,p,h=>by
  rcases zt.1 h with rfl|h
  ·exact zf ..
  ·exact zh _ (Of h)
theorem Og:∀(cs:List V) (sl:List (Option Ty)) (i:Nat),(∀p,p∈(nC i cs sl).2->(∃e,p.2=.vec e 0 false ⟨true,[]⟩)/\i<=p.1/\p.1<i+uY cs)/\(∀zs,bW φ o imm w cs zs->(∀y z,au φ o imm w y z->au φ' o' imm' w' y z)->(∀p,p∈(nC i cs sl).2->∃e,o' p.1=.vec e 0 false ⟨true,[]⟩)->bW φ' o' imm' w' (nC i cs sl).1 zs):=by
 intro cs
 induction cs with
 |nil=>
  intro sl i;have e:nC i [] sl=([],[]):=by cases sl<;>rfl
  rw[e];exact⟨(fun p hp=>by cases hp),fun zs h _ _=>h⟩
 |cons c cs ih=>
  intro sl i;cases sl with
  |nil=>
   have e:nC i (c::cs) []=(c::cs,[]):=by cases c<;>rfl
   rw[e];exact⟨(fun p hp=>by cases hp),fun zs h hk _=>D3 hk _ _ h⟩
  |cons s sl=>
   have other:nC i (c::cs) (s::sl)=(c::(nC i cs sl).1,(nC i cs sl).2)->(∀p,p∈(nC i (c::cs) (s::sl)).2->(∃e,p.2=.vec e 0 false ⟨true,[]⟩)/\i<=p.1/\p.1<i+uY (c::cs))/\
     (∀zs,bW φ o imm w (c::cs) zs->(∀y z,au φ o imm w y z->au φ' o' imm' w' y z)->(∀p,p∈(nC i (c::cs) (s::sl)).2->∃e,o' p.1=.vec e 0 false ⟨true,[]⟩)->
      bW φ' o' imm' w' (nC i (c::cs) (s::sl)).1 zs):=by
    intro e;rw[e];obtain⟨h1,h2⟩:=ih sl i;refine⟨fun p hp=>?_,fun zs ⟨z,r,e1,h3,h4⟩ hk ho=>⟨z,r,e1,hk _ _ h3,h2 _ h4 hk ho⟩⟩;obtain⟨g1,g2,g3⟩:=h1 p hp;refine⟨g1,g2,?_⟩;have:uY cs<=uY (c::cs):=by cases c<;>simp[uY]
    omega
   cases c<;>try exact other rfl
   cases s with
   |none=>exact other rfl
   |some e=>
    obtain⟨h1,h2⟩:=ih sl (i+1);show(∀p,p∈((i,Obj.vec e 0 false ⟨true,[]⟩)::(nC (i+1) cs sl).2)->_)/\_;refine⟨fun p hp=>?_,fun zs ⟨z,r,e1,h3,h4⟩ hk ho=>?_⟩
    ·rcases zt.1 hp with rfl|hp
     ·exact⟨⟨e,rfl⟩,Nat.le_refl _,by simp[uY]⟩
     ·obtain⟨g1,g2,g3⟩:=h1 p hp;refine⟨g1,by omega,?_⟩;simp only[uY];omega
    ·refine⟨z,r,e1,?_,h2 _ h4 hk fun p hp=>ho p (zh _ hp)⟩;obtain⟨e',hc⟩:=ho (i,.vec e 0 false ⟨true,[]⟩) (zf ..);unfold au;simp only at hc;rw[hc];exact⟨Nat.le_refl _,fun _=>.inl ⟨rfl,h3⟩⟩
theorem Oh(hC:cf C){t:TypeId}{e:Ty}(h:C.ty t=some e)(he:e=.int .u8):C.P.underlying t=some (.int .u8):=by
 subst he;obtain⟨d,h0,h1,h2⟩:=(hC.dP _ _ h).desc;clear h0;have hd:d=.int .u8:=by
  clear h1;cases d<;>simp only[ng] at h2<;>try (cases h2;done)
  rename_i k;cases k<;>first|rfl|(simp[rP] at h2;done)
 rw[h1,hd]
theorem qbw{e:Ty}(h:Nr e=true)(he:e=.int .u8):False:=by subst he;cases h
theorem qm6{cs vs:List V}{off:Nat}(h:ou (Il cs off vs)=true)(hv:ou vs=false):ou cs=true:=by
 unfold Il at h;cases off with
 |zero=>
  cases vs with
  |nil=>simpa using h
  |cons v r=>rw[List.take_zero,List.nil_append] at h;cases v<;>first|(cases h;done)|(cases hv;done)
 |succ n=>
  cases cs with
  |nil=>cases vs with
   |nil=>simp[ou] at h
   |cons v r=>rw[List.take_nil,List.nil_append] at h;cases v<;>first|(cases h;done)|(cases hv;done)
  |cons c cs=>cases c<;>first|rfl|(cases h;done)
theorem eG.setRow{b:Nat}{c:Array Value}{el:TypeId}{fz:Nat×Nat}(h:w.heap[b]?=some (.cells c el fz)){cs:Array Value}(hs:cs.size=c.size):eG w (w.setRow b cs) b:=fun c0 el0 fz0 e=>by rw[h] at e;injection e with e;injection e with e1 e2 e3;subst e1 e2 e3;exact⟨cs,Oc h cs,hs⟩
theorem eG.ov{b:Nat}{c:Array Value}{el:TypeId}{fz:Nat×Nat}(h:w.heap[b]?=some (.cells c el fz)){off:Nat}{ds:List Value}(hb:off+ds.length<=c.size):eG w (w.setRow b (ov c.toList off ds).toArray) b:=.setRow h (by have:=Q5 c.toList off ds (by simpa using hb);simpa using this)
theorem Oi(hm:MRel C X φ o w){id:Nat}{e:Ty}{v v':Nat}{f f':Bool}{s s':Sl (den e)}(ho:o id=.vec e v f s)(hn:s.nil=false)(hk:eG w w' (φ id).block):gR C w' (φ id) (.vec e v' f' s'):=fun ht _=>by have:=hm.tH id;rw[ho] at this;obtain⟨c,el,fz,h1,h2,h4⟩:=this ht hn;obtain⟨c',h3,h5⟩:=hk _ _ _ h1;exact⟨c',el,fz,h3,h2,by rw[h5];exact h4⟩
theorem z1c(hm:MRel C X φ o w){id:Nat}{cs kC:List V}(ho:o id=.box cs)(hs:ou kC=true->ou cs=true)(hk:eG w w' (φ id).block):gR C w' (φ id) (.box kC):=fun h=>by have:=hm.tH id;rw[ho] at this;obtain⟨c,el,fz,h1,h3⟩:=this (hs h);obtain⟨c',h2,h4⟩:=hk _ _ _ h1;exact⟨c',el,fz,h2,by rw[h4];exact h3⟩
theorem qjg(hm:MRel C X φ o w){fr:Nat}{t el:TypeId}{cs:List V}{zs:Array Value}{v:V}{u:List (Nat×Obj)}(hr:bW φ o (ah X φ o w) w cs zs.toList)(h:(NB C fr t cs).gives v u)(hf:jH fr o u):dG C X φ o w v u (do pure (.pointer (some (<-newRow el zs)))):=by
 unfold NB at h;have main:∀(kC:List V) (ns:List (Nat×Obj)),(∀p,p∈ns->(∃e,p.2=.vec e 0 false ⟨true,[]⟩)/\fr+1<=p.1/\p.1<fr+16)->
   (∀(φ':Nat->Addr) (o':Nat->Obj) (imm':Nat->Prop) (w':World),(∀y z,au φ o (ah X φ o w) w y z->au φ' o' imm' w' y z)->(∀p,p∈ns->∃e,o' p.1=.vec e 0 false ⟨true,[]⟩)->bW φ' o' imm' w' kC zs.toList)->ou kC=false->
   jH fr o ((fr,.box kC)::ns)->dG C X φ o w (.ptr fr 0) ((fr,.box kC)::ns) (do pure (.pointer (some (<-newRow el zs)))):=by
  intro kC ns h1 h2 hs hf;refine⟨.pointer (some ⟨w.heap.size,0,none⟩),w.alloc (.cells zs el),cP φ fr ⟨w.heap.size,0,none⟩,by simp[newRow],?_⟩;have hc:o fr=.none:=hf _ (zf ..) (Nat.le_refl _) (by show fr<fr+16;omega);refine Comes.fresh hm (B:=.cells zs el) rfl (.box kC) (fun p hp=>?_) (fun _=>by rw[hc];trivial) (fun h3 h4 h5=>?_) (fun h=>by rw[hs] at h;cases h) (fun h3=>?_)
  ·obtain⟨g1,g2,g3⟩:=h1 p hp;exact⟨g1,by omega,hf p (zh _ hp) om g3⟩
  ·refine⟨by rw[eL],zs,el,0,0,?_,Nat.le_refl _,h2 _ _ _ _ h5 fun p hp=>?_⟩
   ·rw[eL];exact heap_alloc_new w _
   ·exact Q8 ns _ p.1 (fun q hq=>(h1 q hq).1) (Of hp)
  ·unfold au;rw[h3,eL]
 cases hb:Nat.ble (uY cs) 14 with
 |true=>
  rw[hb] at h;simp only[cond_true,dC,df] at h;obtain⟨hs,rfl,rfl⟩:=h;have hs:ou (nC (fr+1) cs (wP C 8 t)).1=false:=by simpa using hs
  have hb:=zF hb;refine main _ _ (fun p hp=>?_) (fun φ' o' imm' w' hk hn=>(Og (φ':=φ') (o':=o') (imm':=imm') (w':=w') cs (wP C 8 t) (fr+1)).2 _ hr hk hn) hs hf;obtain⟨g1,g2,g3⟩:=(Og (φ:=φ) (o:=o) (imm:=ah X φ o w) (w:=w) (φ':=φ) (o':=o) (imm':=ah X φ o w) (w':=w) cs (wP C 8 t) (fr+1)).1 p hp;exact⟨g1,g2,by omega⟩
 |false=>rw[hb] at h;simp only[cond_false,dC,df] at h;obtain⟨hs,rfl,rfl⟩:=h;exact main cs [] (fun p hp=>by cases hp) (fun φ' o' imm' w' hk _=>D3 hk _ _ hr) (by simpa using hs) hf
theorem qt9(hm:MRel C X φ o w){fr:Nat}{cs:List V}{zs:Array Value}{v:V}{u:List (Nat×Obj)}(hr:bW φ o (ah X φ o w) w cs zs.toList)(h:(Qd fr cs).gives v u)(hf:jH fr o u):dG C X φ o w v u (do pure (.pointer (some (<-newRow C.DQ zs)))):=by
 unfold Qd at h;split at h
 ·rw[df] at h;obtain⟨rfl,rfl⟩:=h;obtain⟨z1,r1,e1,a1,z2,r2,e2,a2,a3⟩:=hr;have a1:z1=.pointer none:=a1;have a2:z2=.slice none 0 0:=a2;have a3:r2=[]:=a3;subst e2 a1 a2 a3;refine⟨.pointer (some ⟨w.heap.size,0,none⟩),w.alloc (.cells zs C.DQ),cP φ fr ⟨w.heap.size,0,none⟩,by simp[newRow],?_⟩;have he:o fr=.none:=hf _ (zf ..) (Nat.le_refl _) (by show fr<fr+16;omega);have hc:o (fr+1)=.none:=hf (fr+1,_) (zh _ (zf ..)) (by show fr<=fr+1;omega) (by show fr+1<fr+16;omega);have g0:ak o [(fr,Obj.box [.gM fr false,.cK (fr+1) 0]),(fr+1,.vec (.int .u8) 0 false ⟨true,[]⟩)] fr=.box [.gM fr false,.cK (fr+1) 0]:=by show cP (cP o fr _) (fr+1) _ fr=_;rw[nH om,eL]
  have g1:ak o [(fr,Obj.box [.gM fr false,.cK (fr+1) 0]),(fr+1,.vec (.int .u8) 0 false ⟨true,[]⟩)] (fr+1)=.vec (.int .u8) 0 false ⟨true,[]⟩:=by show cP (cP o fr _) (fr+1) _ (fr+1)=_;rw[eL]
  refine Comes.fresh hm (B:=.cells zs C.DQ) rfl (.box [.gM fr false,.cK (fr+1) 0]) (fun p hp=>?_) (fun _=>by rw[he];trivial) (fun h3 h4 h5=>?_) (fun _=>⟨zs,C.DQ,(0,0),heap_alloc_new w _,.inl ⟨rfl,by rw[<-Array.length_toList,e1];rfl⟩⟩) (fun h3=>?_)
  ·rw[zS] at hp;subst hp;exact⟨⟨_,rfl⟩,by show fr+1≠fr;omega,hc⟩
  ·refine⟨by rw[eL],zs,C.DQ,0,0,?_,Nat.le_refl _,?_⟩
   ·rw[eL];exact heap_alloc_new w _
   ·rw[e1];refine⟨_,_,rfl,?_,_,_,rfl,?_,rfl⟩
    ·unfold au;rw[g0];rfl
    ·unfold au;rw[g1];exact⟨Nat.le_refl _,fun _=>.inl ⟨rfl,rfl⟩⟩
  ·unfold au;rw[h3,eL]
 ·cases h
theorem qjh(hm:MRel C X φ o w){fr:Nat}{cs:List V}{zs:Array Value}{v:V}{u:List (Nat×Obj)}(hr:bW φ o (ah X φ o w) w cs zs.toList)(h:(NC fr cs).gives v u)(hf:jH fr o u):dG C X φ o w v u (do pure (.pointer (some (<-newRow C.wN zs)))):=by
 unfold NC at h;split at h
 ·rename_i s x t y;rw[dC,df,zd] at h;obtain⟨⟨hg,hj⟩,rfl,rfl⟩:=h;obtain⟨z1,r1,e1,a1,z2,r2,e2,a2,z3,r3,e3,a3,z4,r4,e4,a4,a5⟩:=hr;have a1:z1=.pointer none:=a1;have a2:z2=.slice none 0 0:=a2;have a5:r4=[]:=a5;have b3:aX (ah X φ o w) w s x z3:=a3;have b4:aX (ah X φ o w) w t y z4:=a4;subst e2 e3 e4 a1 a2 a5;refine⟨.pointer (some ⟨w.heap.size,0,none⟩),w.alloc (.cells zs C.wN),cP φ fr ⟨w.heap.size,0,none⟩,by simp[newRow],?_⟩;have he:o fr=.none:=hf _ (zf ..) (Nat.le_refl _) (by show fr<fr+16;omega);have hc:o (fr+1)=.none:=hf (fr+1,_) (zh _ (zf ..)) (by show fr<=fr+1;omega) (by show fr+1<fr+16;omega);have g0:ak o [(fr,Obj.box [.gM fr false,.cK (fr+1) 0,.d s x,.d t y]),(fr+1,.vec (.int .u8) 0 false ⟨true,[]⟩)] fr=.box [.gM fr false,.cK (fr+1) 0,.d s x,.d t y]:=by show cP (cP o fr _) (fr+1) _ fr=_;rw[nH om,eL]
  have g1:ak o [(fr,Obj.box [.gM fr false,.cK (fr+1) 0,.d s x,.d t y]),(fr+1,.vec (.int .u8) 0 false ⟨true,[]⟩)] (fr+1)=.vec (.int .u8) 0 false ⟨true,[]⟩:=by show cP (cP o fr _) (fr+1) _ (fr+1)=_;rw[eL]
  refine Comes.fresh hm (B:=.cells zs C.wN) rfl (.box [.gM fr false,.cK (fr+1) 0,.d s x,.d t y]) (fun p hp=>?_) (fun _=>by rw[he];trivial) (fun h3 h4 h5=>?_) (fun _=>⟨zs,C.wN,(0,0),heap_alloc_new w _,.inr ⟨rfl,by rw[<-Array.length_toList,e1];rfl⟩⟩) (fun h3=>?_)
  ·rw[zS] at hp;subst hp;exact⟨⟨_,rfl⟩,by show fr+1≠fr;omega,hc⟩
  ·refine⟨by rw[eL],zs,C.wN,0,0,?_,Nat.le_refl _,?_⟩
   ·rw[eL];exact heap_alloc_new w _
   ·rw[e1];refine⟨_,_,rfl,?_,_,_,rfl,?_,_,_,rfl,?_,_,_,rfl,?_,rfl⟩
    ·unfold au;rw[g0];rfl
    ·unfold au;rw[g1];exact⟨Nat.le_refl _,fun _=>.inl ⟨rfl,rfl⟩⟩
    ·exact h5 _ _ a3
    ·exact h5 _ _ a4
  ·unfold au;rw[h3,eL]
 ·cases h
theorem E6(hm:MRel C X φ o w){fr ver cap lo hi:Nat}{e:Ty}{l:List (den e)}{c:Array Value}{el:TypeId}{w':World}{ec rest:List Value}(hg:w'.heap=w.heap.push (.cells c el (lo,hi)))(hk:∀w',Up w w' (φ fr) ⟨w.heap.size,0,none⟩ (o fr) (.vec e ver false ⟨false,l⟩))(hc:c.toList=ec++rest)(hr:bf (aC (ah X φ o w) w e) l ec)(he:c.size=cap*aM e)(hj:l.length<=cap)(hl:l.length<=cj)(ho:lo=hi\/c.size<=lo)(hq:e=.int .u8->C.P.underlying el=some (.int .u8))(still:Bi w w':=by exact⟨rfl,rfl⟩):
  Comes C X φ (cP φ fr ⟨w.heap.size,0,none⟩) o [(fr,.vec e ver false ⟨false,l⟩)] w w' (.cK fr ver) (.slice (some ⟨w.heap.size,0,none⟩) l.length cap)/\
  Comes C X φ (cP φ fr ⟨w.heap.size,0,none⟩) o [(fr,.vec e ver false ⟨false,l⟩)] w w' (.ptr fr 0) (.pointer (some ⟨w.heap.size,0,none⟩)):=by
 have hh:w'.heap[w.heap.size]?=some (.cells c el (lo,hi)):=by rw[hg];simp
 have hf:∀n,n<=c.size->room w' ⟨w.heap.size,0,none⟩ n:=fun n hn=>⟨c,el,lo,hi,hh,by simpa using hn,by simp only[zL];omega⟩;have hs:=oy hr;have hu:l.length*aM e<=c.size:=by rw[he];exact Nat.mul_le_mul_right _ hj
 have both:∀v z,(ak o [(fr,Obj.vec e ver false ⟨false,l⟩)] fr=.vec e ver false ⟨false,l⟩->au (cP φ fr ⟨w.heap.size,0,none⟩) (ak o [(fr,.vec e ver false ⟨false,l⟩)]) (ah X (cP φ fr ⟨w.heap.size,0,none⟩) (ak o [(fr,.vec e ver false ⟨false,l⟩)]) w') w' v z)->
   Comes C X φ (cP φ fr ⟨w.heap.size,0,none⟩) o [(fr,.vec e ver false ⟨false,l⟩)] w w' v z:=by
  intro v z hv;refine Comes.fresh hm hg (.vec e ver false ⟨false,l⟩) (ns:=[]) (fun p hp=>by cases hp) hk (fun h3 h4 h5=>?_) (fun ht _=>⟨c,el,(lo,hi),hh,hq ht,ho⟩) hv still;refine⟨hl,by simp,fun _=>.inl ⟨by rw[eL],ec,nD (gG h3 h4 e) hr,?_,?_,fun _=>?_,by simp⟩⟩
  ·rw[eL];have:=Ke hh 0 ec.length;rw[List.drop_zero,hc,List.take_left'] at this
   ·exact this
   ·rfl
  ·rw[eL];exact hf 0 (Nat.zero_le _)
  ·rw[eL];exact hf _ hu
 refine⟨both _ _ fun h3=>?_,both _ _ fun h3=>?_⟩
 ·unfold au;rw[h3,eL];exact⟨Nat.le_refl _,fun _=>.inr ⟨rfl,cap,rfl,hj,fun h=>by simp at h,fun _ _=>hf _ (by rw[he];exact Nat.le_refl _)⟩⟩
 ·unfold au;rw[h3,eL];exact fun _=>rfl
theorem Ki:∀(zs:List Value),bW φ o imm w (zs.map DR) zs
 |[]=>rfl
 |z::zs=>⟨z,zs,rfl,QK z,Ki zs⟩
theorem qfm{t:TypeId}{cs:List V}(h:Ny C t=some cs):∃i z,C.P.info? t=some i/\i.zero=some z/\cs=z.cells.toList.map DR:=by
 unfold Ny at h;split at h
 ·rename_i i e;split at h
  ·rename_i z hz;exact⟨i,z,J5 e,hz,(zI h).symm⟩
  ·cases h
 ·cases h
theorem IK{fr:Nat}{a:Addr}{x:Obj}(h:o fr=.none):∀w',Up w w' (φ fr) a (o fr) x:=fun _=>by rw[h];trivial
theorem qq8(hC:cf C)(hm:MRel C X φ o w){fr:Nat}{t:TypeId}{v:V}{u:List (Nat×Obj)}(h:(Qf C fr t).gives v u)(hf:jH fr o u)(ct:Value):dG C X φ o w v u (Instr.alloc t true ct):=by
 unfold Qf at h;split at h
 ·rename_i n e he;rw[dC,df,zd,zd] at h;obtain⟨⟨⟨h1,hj⟩,hk⟩,rfl,rfl⟩:=h;have hl:o fr=.none:=hf _ (zf ..) (Nat.le_refl _) (by show fr<fr+16;omega);have hT:=hC.dP _ _ he;obtain⟨i,z,k1,_,k2,k3,k4,k5,k6⟩:=hT.info;have hz:=k6 (ah X φ o w) w;obtain⟨hn,hg⟩:=hz;have hc:=oy hg;refine⟨.pointer (some ⟨w.heap.size,0,none⟩),w.alloc (.cells z.cells t),_,by simp[Instr.alloc,wV k1 k4,newVar,newRow],
   (E6 hm (c:=z.cells) (el:=t) (lo:=0) (hi:=0) (cap:=n) (ec:=z.cells.toList) (rest:=[]) rfl (IK hl) (by simp) ?_ ?_ (by simp) ?_ (.inl rfl) (fun he=>(qbw hk he).elim)).2⟩
  ·simpa[zero] using hg
  ·have e1:List.length (zero (.arr n e))=n:=hn;rw[e1] at hc;simpa using hc
  ·have:=zF hj;simp;unfold cj;omega
 ·split at h
  ·rename_i cs ho;obtain⟨i,z,k1,k2,rfl⟩:=qfm ho;cases hb:Nat.beq t C.DQ with
   |false=>
    rw[hb,cond_false] at h;cases hp:Nat.beq t C.wN with
    |true=>rw[hp,cond_true] at h;have hp:=zg hp;obtain⟨val,w',φ',g1,g2⟩:=qjh hm (zs:=z.cells) (Ki _) h hf;refine⟨val,w',φ',?_,g2⟩;rw[<-g1,<-hp];simp[Instr.alloc,wV k1 k2,newVar]
    |false=>rw[hp,cond_false] at h;obtain⟨val,w',φ',g1,g2⟩:=qjg hm (el:=t) (zs:=z.cells) (Ki _) h hf;refine⟨val,w',φ',?_,g2⟩;rw[<-g1];simp[Instr.alloc,wV k1 k2,newVar]
   |true=>rw[hb,cond_true] at h;have hb:=zg hb;obtain⟨val,w',φ',g1,g2⟩:=qt9 hm (zs:=z.cells) (Ki _) h hf;refine⟨val,w',φ',?_,g2⟩;rw[<-g1,<-hb];simp[Instr.alloc,wV k1 k2,newVar]
  ·cases h
theorem qxt(hm:MRel C X φ o w){fr:Nat}{t:TypeId}{x:V}{z:Value}{v:V}{u:List (Nat×Obj)}(hx:au φ o (ah X φ o w) w x z)(h:(Qg C o fr t x).gives v u)(hf:jH fr o u):dG C X φ o w v u (Instr.box t z):=by
 unfold Qg at h;split at h
 ·rename_i n e l;rw[dC,df,zd,zd] at h;obtain⟨⟨⟨h1,hg⟩,hj⟩,rfl,rfl⟩:=h;have hk:o fr=.none:=hf _ (zf ..) (Nat.le_refl _) (by show fr<fr+16;omega);obtain⟨cs,rfl,hl,hr⟩:=hx;have hl:List.length l=n:=hl;have hc:=oy hr;refine⟨.pointer (some ⟨w.heap.size,0,none⟩),w.alloc (.cells cs t),_,by simp[Instr.box,newVar,newRow,Value.cells],
   (E6 hm (c:=cs) (el:=t) (lo:=0) (hi:=0) (cap:=n) (ec:=cs.toList) (rest:=[]) rfl (IK hk) (by simp) hr ?_ ?_ ?_ (.inl rfl) (fun he=>(qbw hj he).elim)).2⟩
  ·rw[hl] at hc;simpa using hc
  ·omega
  ·have:=zF hg;unfold cj;omega
 ·split at h
  ·rename_i cs hn;obtain⟨g1,g2⟩:=Q7 hx hn;cases hp:Nat.beq t C.wN with
   |true=>rw[hp,cond_true] at h;have hp:=zg hp;subst hp;exact qjh hm (zs:=z.cells) g1 h hf
   |false=>rw[hp,cond_false] at h;exact qjg hm (el:=t) (zs:=z.cells) g1 h hf
  ·cases h
end
end Ev