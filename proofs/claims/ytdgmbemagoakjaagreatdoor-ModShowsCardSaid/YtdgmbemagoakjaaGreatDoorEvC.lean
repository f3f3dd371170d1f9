/- Operations are sound: reading, fields, indices, slices, boxes. -/
import Derived.Test.YtdgmbemagoakjaaGreatDoorEvB
import Derived.Laws.AppendOwn
import Derived.Laws.CopyRow
import Derived.Laws.MakeOwn
import Derived.Laws.BytesString
import Derived.Laws.IdiomCopy
import Derived.Laws.IdiomStrings
set_option linter.defProp false
namespace Ev
open Go
def eQ{α:Type}{f:Nat->α}{i:Nat}{x:α}:cy f i x i=x:=by simp[cy]
def jI{α:Type}{f:Nat->α}{i j:Nat}{x:α}(h:j≠i):cy f i x j=f j:=by
 unfold cy;have:Nat.beq j i=false:=by
  cases e:Nat.beq j i with
  |false=>rfl
  |true=>exact absurd (zj e) h
 rw[this];rfl
def iU:∀{u:List (Nat×Obj)} {o:Nat->Obj} {id:Nat},id∉bW u->aq o u id=o id
 |[],_,_,_=>rfl
 |(i,x)::r,o,id,h=>by simp only[bW,zk,not_or] at h;show aq (cy o i x) r id=_;rw[iU h.2,jI h.1]
def qns{α:Type}:∀(u u':List (Nat×α)) (o:Nat->α),aq o (u++u')=aq (aq o u) u'
 |[],_,_=>rfl
 |(i,x)::r,u',o=>qns r u' (cy o i x)
def Si:∀(u u':List (Nat×Obj)),bW (u++u')=bW u++bW u'
 |[],_=>rfl
 |(i,x)::r,u'=>by simp[bW,Si r u']
def Up.trans{w w' QT:World}{a a' a'':Addr}{x y z:Obj}(h:Up w w' a a' x y)(h':Up w' QT a' a'' y z):Up w QT a a'' x z:=by
 cases x with
 |none=>trivial
 |dead=>cases y<;>simp only[Up] at h<;>cases z<;>simp only[Up] at h' ⊢
 |box cs=>cases y<;>simp only[Up] at h<;>cases z<;>simp only[Up] at h' ⊢;rw[h',h]
 |iter s p=>cases y<;>simp only[Up] at h<;>cases z<;>simp only[Up] at h' ⊢;rw[h',h]
 |vec t ver fr s=>
  cases y<;>simp only[Up] at h<;>cases z<;>simp only[Up] at h' ⊢;rcases h with h|⟨h1,h2,h3,h4,h5,h6⟩<;>rcases h' with h'|⟨g1,g2,g3,g4,g5,g6⟩
  ·exact .inl om
  ·exact .inl om
  ·exact .inl om
  ·refine .inr ⟨by omega,h2.trans g2,h3.trans g3,h4.trans g4,g5.trans h5,fun hf=>?_⟩;obtain⟨g7,g8⟩:=g6 hf;obtain⟨h7,h8⟩:=h6 g7;refine⟨h7,fun hn hs n hr=>?_⟩;have:=g8 (h3▸hn) (by rw[h5];exact hs) n (by rw[h5];exact h8 hn hs n hr);rw[h5] at this;exact this
section
variable {C:Cx} {X:Nat→Prop} {φ φ' gW:Nat→Addr} {o:Nat→Obj} {w w' QT:World} {u u':List (Nat×Obj)} {v v':V} {z z':Value}
def LU{imm imm':Nat->Prop}{o':Nat->Obj}(h:∀x z,ay φ o imm w x z->ay φ' o' imm' w' x z):∀(l:List V) (zs:List Value),ck φ o imm w l zs->ck φ' o' imm' w' l zs
 |[],_,h1=>h1
 |_::l,_,⟨a,r,h1,h2,h3⟩=>⟨a,r,h1,h _ _ h2,LU h l _ h3⟩
def LV{imm imm':Nat->Prop}{o':Nat->Obj}(hi:∀b,imm b->imm' b)(hw:∀b,imm b->w'.heap[b]?=w.heap[b]?)(hk:∀x z,ay φ o imm w x z->ay φ' o' imm' w' x z){id:Nat}{x:Obj}(hp:φ' id=φ id)(hb:aV (φ id) x=true->w'.heap[(φ id).block]?=w.heap[(φ id).block]?)(h:rY φ o imm w id x):rY φ' o' imm' w' id x:=by
 cases x with
 |dead=>trivial
 |none=>trivial
 |box cs=>obtain⟨h1,c,el,lo,he,h2,h3,h4⟩:=h;refine⟨by rw[hp];exact h1,c,el,lo,he,?_,h3,LU hk _ _ h4⟩;rw[hp,hb rfl,h2]
 |iter l p=>obtain⟨s,n,h1,h2,h3,h4⟩:=h;exact⟨s,n,by rw[hp,hb rfl,h1],h2,h3,h4⟩
 |vec t ver fr s=>
  obtain⟨h1,h2,h3⟩:=h;refine⟨h1,h2,fun hn=>?_⟩;rw[hp];refine(h3 hn).imp (fun⟨h4,ec,h5,h6,h7,h8,h9⟩=>?_) fun g=>g;have hc:w'.heap[(φ id).block]?=w.heap[(φ id).block]?:=by
   cases fr with
   |false=>exact hb (rX hn h4)
   |true=>exact hw _ (h9 rfl)
  exact⟨h4,ec,rJ (jH hi hw t) h5,QK hc h6,Gn hc h7,fun hf=>Gn hc (h8 hf),fun hf=>hi _ (h9 hf)⟩
def MRel.Gq(hm:MRel C X φ o w){ks:List Nat}{id:Nat}(hx:aV (φ id) (o id)=true)(hk:id∉ks):¬hit ks φ o (φ id).block:=fun⟨j,h1,h2,h3⟩=>hk (hm.inj j id h2 hx h3▸h1)
def Comes.make(hm:MRel C X φ o w)(size:w.heap.size<=w'.heap.size)(frame:∀b,b<w.heap.size->¬hit (bW u) φ o b->w'.heap[b]?=w.heap[b]?)(vq:∀id,id∉bW u->φ' id=φ id)(aad:∀id,o id≠.none->id∉bW u->φ' id=φ id)(up:∀id,id∈bW u->Up w w' (φ id) (φ' id) (o id) (aq o u id))(place:∀id,id∈bW u->aV (φ' id) (aq o u id)=true->(w.heap.size<=(φ' id).block/\(φ' id).block<w'.heap.size)\/(aV (φ id) (o id)=true/\(φ' id).block=(φ id).block))(apart:∀i j,i∈bW u->j∈bW u->aV (φ' i) (aq o u i)=true->aV (φ' j) (aq o u j)=true->w.heap.size<=(φ' i).block->(φ' i).block=(φ' j).block->i=j)(obj:(∀b,aj X φ o w b->aj X φ' (aq o u) w' b)->(∀b,aj X φ o w b->w'.heap[b]?=w.heap[b]?)->(∀x z,ay φ o (aj X φ o w) w x z->ay φ' (aq o u) (aj X φ' (aq o u) w') w' x z)->∀id,id∈bW u->rY φ' (aq o u) (aj X φ' (aq o u) w') w' id (aq o u id))(rK:∀id,id∈bW u->iT C w' (φ' id) (aq o u id))(val:(∀b,aj X φ o w b->aj X φ' (aq o u) w' b)->(∀b,aj X φ o w b->w'.heap[b]?=w.heap[b]?)->(∀x z,ay φ o (aj X φ o w) w x z->ay φ' (aq o u) (aj X φ' (aq o u) w') w' x z)->ay φ' (aq o u) (aj X φ' (aq o u) w') w' v z)(still:xB w w':=by exact⟨rfl,rfl⟩):Comes C X φ φ' o u w w' v z:=by
 have bl:∀id,id∉bW u->aV (φ id) (o id)=true->w'.heap[(φ id).block]?=w.heap[(φ id).block]?:=fun id hk hx=>frame _ (hm.sep id hx).1 (hm.Gq hx hk);have stays:∀b,aj X φ o w b->w'.heap[b]?=w.heap[b]?:=fun b hb=>frame b hb.1 fun⟨id,_,e1,e2⟩=>hb.2.2 ⟨id,e1,e2⟩;have Ky:∀id,Up w w' (φ id) (φ' id) (o id) (aq o u id):=fun id=>by
  by_cases hk:id∈bW u
  ·exact up id hk
  ·rw[vq id hk,iU hk];exact Up.same fun hx n hr=>Gn (bl id hk hx) hr
 have news:∀id,aV (φ' id) (aq o u id)=true->w.heap.size<=(φ' id).block\/oG φ o (φ' id).block:=fun id hx=>by
  by_cases hk:id∈bW u
  ·rcases place id hk hx with h|⟨h,e⟩
   ·exact .inl h.1
   ·exact .inr ⟨id,h,e.symm⟩
  ·rw[iU hk,vq id hk] at hx;exact .inr ⟨id,hx,by rw[vq id hk]⟩
 have imm:∀b,aj X φ o w b->aj X φ' (aq o u) w' b:=fun b ⟨h1,h2,h3⟩=>
  ⟨Nat.lt_of_lt_of_le h1 size,h2,fun⟨id,e1,e2⟩=>by
   rcases news id e1 with e3|e3
   ·omega
   ·exact h3 (e2▸e3)⟩
 have keeps:∀x z,ay φ o (aj X φ o w) w x z->ay φ' (aq o u) (aj X φ' (aq o u) w') w' x z:=fun x z h=>BA imm stays Ky x z h;have pl:∀id,aV (φ' id) (aq o u id)=true->(w.heap.size<=(φ' id).block/\(φ' id).block<w'.heap.size)\/(aV (φ id) (o id)=true/\(φ' id).block=(φ id).block):=fun id hx=>by
  by_cases hk:id∈bW u
  ·exact place id hk hx
  ·rw[iU hk,vq id hk] at hx
   grind
 refine⟨⟨fun id=>?_,fun i j hi hj e=>?_,fun i hi=>?_,fun b hb=>Nat.lt_of_lt_of_le (hm.xs b hb) size,fun id=>?_,fun g t x hg=>keeps _ _ (hm.fe g t x hg),hm.pC stays⟩,val imm stays keeps,Ky,size,frame,aad,news,still⟩
 ·by_cases hk:id∈bW u
  ·grind
  ·rw[iU hk];exact LV imm stays keeps (vq id hk) (bl id hk) (hm.aw id)
 ·rcases pl i hi with hc|hc<;>rcases pl j hj with he|he
  ·by_cases ki:i∈bW u
   ·by_cases kj:j∈bW u
    ·grind
    ·rw[iU kj,vq j kj] at hj
     grind
   ·rw[iU ki,vq i ki] at hi
    grind
  ·have:=(hm.sep j he.1).1;omega
  ·have:=(hm.sep i hc.1).1;omega
  ·exact hm.inj i j hc.1 he.1 (by rw[<-hc.2,<-he.2,e])
 ·rcases pl i hi with hc|hc
  ·exact⟨hc.2,fun hx=>by have:=hm.xs _ hx;omega⟩
  ·obtain⟨h1,h2⟩:=hm.sep i hc.1
   grind
 ·by_cases hk:id∈bW u
  ·exact rK id hk
  ·rw[vq id hk,iU hk];refine(hm.rK id).bN (fun hx=>.same (bl id hk hx)) (fun ver s e hn=>.same ?_) (hm.R8 id);have ho:=hm.aw id;rw[e] at ho;obtain⟨_,_,ho⟩:=ho
   grind
def Comes.trans(h:Comes C X φ φ' o u w w' v z)(h':Comes C X φ' gW (aq o u) u' w' QT v' z'):Comes C X φ gW o (u++u') w QT v' z':=by
 have e:aq o (u++u')=aq (aq o u) u':=qns _ _ _;refine⟨by rw[e];exact h'.mem,by rw[e];exact h'.val,fun id=>by rw[e];exact(h.up id).trans (h'.up id),Nat.le_trans h.size h'.size,fun b hb hh=>?_,fun id hn hk=>?_,fun id hx=>?_,⟨h'.still.1.trans h.still.1,h'.still.2.trans h.still.2⟩⟩
 ·rw[h'.frame b (Nat.lt_of_lt_of_le hb h.size),h.frame b hb]
  ·rintro⟨id,h1,h2,h3⟩;exact hh ⟨id,by rw[Si];exact List.mem_append_left _ h1,h2,h3⟩
  ·rintro⟨id,h1,h2,h3⟩;by_cases hk:id∈bW u
   ·rcases h.news id h2 with h4|⟨j,h4,h5⟩
    ·omega
    ·by_cases hj:j∈bW u
     ·exact hh ⟨j,by rw[Si];exact List.mem_append_left _ hj,h4,by rw[h5,h3]⟩
     ·have hc:o j≠.none:=by intro e2;rw[e2] at h4;simp[aV,live] at h4
      have:=h.mem.inj id j h2 (by rw[iU hj,h.vq j hc hj];exact h4) (by rw[h.vq j hc hj,h5]);exact hj (this▸hk)
   ·rw[iU hk] at h2;have hc:o id≠.none:=by intro e2;rw[e2] at h2;simp[aV,live] at h2
    rw[h.vq id hc hk] at h3 h2;exact hh ⟨id,by rw[Si];exact List.mem_append_right _ h1,h2,h3⟩
 ·rw[Si,zH,not_or] at hk;rw[h'.vq id (by rw[iU hk.1];exact hn) hk.2,h.vq id hn hk.1]
 ·rw[e] at hx;rcases h'.news id hx with h1|⟨j,h1,h2⟩
  ·exact .inl (Nat.le_trans h.size h1)
  ·rcases h.news j h1 with h3|h3
   all_goals grind
def FC:∀{ks:List Nat} {id:Nat},id∈bW (eG o ks)->∃t ver fr s,o id=.vec t ver fr s/\∀o',aq o' (eG o ks) id=.vec t ver true s
 |[],id,h=>by cases h
 |k::r,id,h=>by
  have:eG o (k::r)=eG o r\/∃t ver fr s,o k=.vec t ver fr s/\eG o (k::r)=(k,.vec t ver true s)::eG o r:=by
   simp only[eG];cases e:o k with
   |vec t ver fr s=>exact .inr ⟨t,ver,fr,s,rfl,rfl⟩
   |_=>exact .inl rfl
  rcases this with e|⟨t,ver,fr,s,e1,e2⟩
  ·rw[e] at h ⊢;exact FC h
  ·rw[e2] at h ⊢;by_cases hk:id∈bW (eG o r)
   ·obtain⟨t',aC,Kv,s',h1,h2⟩:=FC hk;exact⟨t',aC,Kv,s',h1,fun o'=>h2 _⟩
   ·simp only[bW,zk,hk,or_false] at h;subst h;exact⟨t,ver,fr,s,e1,fun o'=>by show aq (cy o' id _) (eG o r) id=_;rw[iU hk,eQ]⟩
def qxq:∀{ks:List Nat} {id:Nat},id∈ks->∀{t ver fr s},o id=.vec t ver fr s->id∈bW (eG o ks)
 |k::r,id,h,t,ver,fr,s,e=>by
  rcases zk.1 h with h|h
  ·subst h;simp[eG,e,bW]
  ·have:=qxq h e;simp only[eG];split
   ·exact zh _ this
   ·exact this
def Sj(hm:MRel C X φ o w)(ks:List Nat):Comes C X φ φ o (eG o ks) w w .undef undef:=by
 refine Comes.make hm (Nat.le_refl _) (fun _ _ _=>rfl) (fun _ _=>rfl) (fun _ _ _=>rfl) (fun id hk=>?_) (fun id hk hx=>?_) (fun i j hi _ hx=>?_) (fun hi hw hg id hk=>?_) (fun id hk=>by obtain⟨t,ver,fr,s,h1,h2⟩:=FC hk;have:=hm.rK id;rw[h1] at this;rw[h2 o];exact this) (fun _ _ _=>rfl)
 ·obtain⟨t,ver,fr,s,h1,h2⟩:=FC hk;rw[h1,h2 o];exact .inr ⟨rfl,rfl,rfl,rfl,rfl,by simp⟩
 ·obtain⟨t,ver,fr,s,h1,h2⟩:=FC hk;rw[h2 o] at hx;have:=(Gm hx).2.1;simp at this
 ·obtain⟨t,ver,fr,s,h1,h2⟩:=FC hi;rw[h2 o] at hx;have:=(Gm hx).2.1;simp at this
 ·obtain⟨t,ver,fr,s,h1,h2⟩:=FC hk;have ho:=hm.aw id;rw[h2 o];rw[h1] at ho;obtain⟨h3,h4,h5⟩:=ho;refine⟨h3,h4,fun hn=>(h5 hn).imp (fun⟨h6,ec,h7,h8,h9,hl,hc⟩=>?_) fun g=>g⟩;refine⟨h6,ec,rJ (jH hi hw t) h7,h8,h9,by simp,fun _=>?_⟩;cases hf:fr with
  |true=>exact hi _ (hc hf)
  |false=>
   have hx:aV (φ id) (o id)=true:=by rw[h1,hf];exact rX hn h6
   obtain⟨g1,g2⟩:=hm.sep id hx;refine⟨g1,g2,fun⟨j,e1,e2⟩=>?_⟩;by_cases hj:j∈bW (eG o ks)
   ·obtain⟨t',aC,Kv,s',_,he⟩:=FC hj;rw[he o] at e1;have:=(Gm e1).2.1;simp at this
   ·rw[iU hj] at e1;have:=hm.inj j id e1 hx e2;subst this;exact hj hk
end
def B5{t t':Ty}{x:den t'}{y:den t}(h:iN t t' x=some y):∃e:t'=t,y=e▸x:=by
 unfold iN at h;split at h
 all_goals grind
section
variable {C:Cx} {X:Nat→Prop} {φ:Nat→Addr} {o:Nat→Obj} {w:World} {imm:Nat→Prop}
def zfs(imm:Nat->Prop)(w:World)(e:Ty)(s:Sl (den e))(z:Value):Prop:=s.l.length<=cv/\
 ((s.nil=true/\s.l=[]/\z=.slice none 0 0)\/
  (s.nil=false/\∃a cap ec,z=.slice (some a) s.l.length cap/\(cap≠0->a.spot=none)/\bR (aE imm w e) s.l ec/\lV w a ec/\s.l.length<=cap))
def Sk{a:Addr}{ec:List Value}(n:Nat)(h:lV w a ec):lV w a (ec.take n):=by
 intro j hj;have hc:j<ec.length:=by simp at hj;omega
 rw[h j hc];simp
def W4{x:V}{z:Value}{t:Ty}{s:Sl (den t)}(hl:∀id,rY φ o imm w id (o id))(h:ay φ o imm w x z)(he:Fv lf o x=some ⟨t,s⟩):zfs imm w t s z/\(∃id ver fr s',o id=.vec t ver fr s'/\(s.nil=false->∀a n c,z=.slice (some a) n c->a.block=(φ id).block)/\s.nil=s'.nil/\(fr=false->id∈fq o x)/\(s'.l=[]->s.l=[])):=by
 cases x<;>simp only[Fv] at he<;>try (cases he;done)
 ·rename_i id ver;have ho:=hl id;unfold ay at h;split at he
  ·rename_i t' aC fr s' e1;rw[e1] at h ho;cases hb:Nat.beq ver aC with
   |false=>rw[hb] at he;cases he
   |true=>
    rw[hb] at he;simp only[cond_true,zB,Sigma.mk.injEq] at he;obtain⟨rfl,he⟩:=he;have he:=eq_of_heq he;subst he;have h:=h.2 (zj hb);refine⟨⟨ho.1,?_⟩,id,aC,fr,s',e1,?_,rfl,?_,fun h=>h⟩
    ·rcases h with ⟨h1,h2⟩|⟨h1,cap,h2,h3,h4⟩
     ·exact .inl ⟨h1,ho.2.1 h1,h2⟩
     ·rcases ho.2.2 h1 with ⟨h5,ec,h6,h7,_⟩|⟨_,h6,_⟩
      ·exact .inr ⟨h1,_,cap,ec,h2,LP h4.1,h6,h7,h3⟩
      ·exact .inr ⟨h1,_,cap,[],h2,LP h4.1,(by rw[h6];rfl),(fun j hj=>by simp at hj),h3⟩
    ·intro hn a n c e;rcases h with ⟨h1,h2⟩|⟨h1,cap,h2,h3,h4⟩
     ·grind
     ·rw[h2] at e;injection e with e _ _;injection e with e;rw[<-e];rfl
    ·intro hf;subst hf;simp[fq,e1]
  ·cases he
 ·rename_i id ver n cp;have ho:=hl id;unfold ay at h;split at he
  ·rename_i t' aC fr s' e1;rw[e1] at h ho;cases hb:Nat.beq ver aC with
   |false=>rw[hb] at he;cases he
   |true=>
    rw[hb] at he;simp only[cond_true,zB,Sigma.mk.injEq] at he;obtain⟨rfl,he⟩:=he;have he:=eq_of_heq he;subst he;obtain⟨h0,h,_⟩:=h.2 (zj hb);have e2:(lf.aH s'.l n).length=n:=by simp[lf,aH,Nat.min_eq_left h0]
    refine⟨⟨?_,?_⟩,id,aC,fr,s',e1,?_,rfl,?_,fun h=>by show lf.aH s'.l n=[];rw[h];simp[lf,aH]⟩
    ·show(lf.aH s'.l n).length<=cv;have:=ho.1;omega
    ·rcases h with ⟨h1,h2⟩|⟨h1,cap,h2,h3,h4⟩
     ·exact .inl ⟨h1,by simp[lf,aH,ho.2.1 h1],h2⟩
     ·have e3:z=.slice (some (bare (φ id))) (lf.aH s'.l n).length cap:=by rw[h2];exact congrArg (fun k=>Value.slice (some (bare (φ id))) k cap) e2.symm
      have e4:(lf.aH s'.l n).length<=cap:=om
      rcases ho.2.2 h1 with ⟨h5,ec,h6,h7,_⟩|⟨_,h6,_⟩
      ·exact .inr ⟨h1,bare (φ id),cap,ec.take (n*aM t'),e3,LP h4.1,(yP n h0 h6).1,Sk _ h7,e4⟩
      ·refine .inr ⟨h1,bare (φ id),cap,[],e3,LP h4.1,?_,(fun j hj=>by simp at hj),e4⟩;have:lf.aH s'.l n=[]:=by rw[h6];simp[lf,aH]
       show bR _ (lf.aH s'.l n) [];rw[this];rfl
    ·intro hn a m c e;rcases h with ⟨h1,h2⟩|⟨h1,cap,h2,h3,h4⟩
     ·rw[show s'.nil=false from hn] at h1;cases h1
     ·rw[h2] at e;injection e with e _ _;injection e with e;rw[<-e];rfl
    ·intro hf;subst hf;simp[fq,e1]
  ·cases he
 ·rename_i id ver lo;have ho:=hl id;unfold ay at h;split at he
  ·rename_i t' aC fr s' e1;rw[e1] at h ho;cases hb:Nat.beq ver aC with
   |false=>rw[hb] at he;cases he
   |true=>
    rw[hb] at he;simp only[cond_true,zB,Sigma.mk.injEq] at he;obtain⟨rfl,he⟩:=he;have he:=eq_of_heq he;subst he;obtain⟨k,rfl,hk,h⟩:=h.2 (zj hb);have e0:lf.cj s'.l (k:Int)=s'.l.drop k:=by simp[lf,cj]
    have e2:(lf.cj s'.l (k:Int)).length=s'.l.length-k:=by rw[e0];simp
    refine⟨⟨?_,?_⟩,id,aC,fr,s',e1,?_,rfl,?_,fun h=>by show lf.cj s'.l (k:Int)=[];rw[e0,h];simp⟩
    ·show(lf.cj s'.l (k:Int)).length<=cv;have:=ho.1;omega
    ·rcases h with ⟨h1,h2⟩|⟨h1,cap,h2,h3⟩
     ·exact .inl ⟨h1,by simp[lf,cj,ho.2.1 h1],h2⟩
     ·have e3:z=.slice (some (if cap=0 then bare (φ id) else⟨(φ id).block,(φ id).off+k*aM t',none⟩)) (lf.cj s'.l (k:Int)).length cap:=by grind
      have e4:(lf.cj s'.l (k:Int)).length<=cap:=om
      by_cases hc:cap=0
      ·refine .inr ⟨h1,_,cap,[],e3,fun h=>absurd hc h,?_,fun j hj=>by simp at hj,e4⟩;have:lf.cj s'.l (k:Int)=[]:=zK om;show bR _ (lf.cj s'.l (k:Int)) [];rw[this];rfl
      ·rcases ho.2.2 h1 with ⟨h5,ec,h6,h7,_⟩|⟨_,h6,_⟩
       ·refine .inr ⟨h1,_,cap,ec.drop (k*aM t'),e3,fun _=>by rw[if_neg hc],?_,?_,e4⟩
        ·show bR _ (lf.cj s'.l (k:Int)) _;rw[e0];exact(yP k hk h6).2
        ·rw[if_neg hc];intro j hj;have hg:k*aM t'+j<ec.length:=by simp at hj;omega
         have:=h7 (k*aM t'+j) hg
         grind
       ·refine .inr ⟨h1,_,cap,[],e3,fun _=>by rw[if_neg hc],?_,fun j hj=>by simp at hj,e4⟩;have:lf.cj s'.l (k:Int)=[]:=by rw[e0,h6];simp
        show bR _ (lf.cj s'.l (k:Int)) [];rw[this];rfl
    ·intro hn a m c e;rcases h with ⟨h1,h2⟩|⟨h1,cap,h2,h3⟩
     ·grind
     ·rw[h2] at e;injection e with e _ _;injection e with e;rw[<-e]
      split<;>rfl
    ·intro hf;subst hf;simp[fq,e1]
  ·cases he
def qnt{t:Ty}{x:V}{d:den t}(h:py lf o t x=some d):x=.d t d\/(∃e,∃ht:.sl e=t,∃s:Sl (den e),Fv lf o x=some ⟨e,s⟩/\d=ht▸s)\/(∃e,∃ht:.sl e=t,x=.fh/\d=ht▸(⟨true,[]⟩:Sl (den e))):=by
 cases x<;>simp only[py] at h<;>try (cases h;done)
 ·obtain⟨rfl,rfl⟩:=B5 h;exact .inl rfl
 ·rename_i id ver;cases e1:o id<;>rw[e1] at h<;>simp only at h<;>try (cases h;done)
  rename_i e aC fr s;cases hb:Nat.beq ver aC<;>rw[hb] at h
  ·cases h
  ·obtain⟨ht,hd⟩:=B5 h;exact .inr (.inl ⟨e,ht,s,by simp[Fv,e1,hb],hd⟩)
 ·rename_i id ver n cp;cases e1:o id<;>rw[e1] at h<;>simp only at h<;>try (cases h;done)
  rename_i e aC fr s;cases hb:Nat.beq ver aC<;>rw[hb] at h
  ·cases h
  ·obtain⟨ht,hd⟩:=B5 h;exact .inr (.inl ⟨e,ht,_,by simp[Fv,e1,hb],hd⟩)
 ·split at h
  all_goals grind
 ·rename_i id ver lo;cases e1:o id<;>rw[e1] at h<;>simp only at h<;>try (cases h;done)
  rename_i e aC fr s;cases hb:Nat.beq ver aC<;>rw[hb] at h
  ·cases h
  ·obtain⟨ht,hd⟩:=B5 h;exact .inr (.inl ⟨e,ht,_,by simp[Fv,e1,hb],hd⟩)
def yR(o:Nat->Obj)(x:V):Prop:=∀id,id∈fq o x->∀t ver fr s,o id≠.vec t ver fr s
def zft{e:Ty}{s:Sl (den e)}{z:Value}(h:ay φ o imm w (.d (.sl e) s) z):zfs imm w e s z:=by obtain⟨h1,h2⟩:=Kx h;exact⟨h1,h2.imp id fun⟨h3,a,cap,ec,h4,h5,_,h7,h8,h9⟩=>⟨h3,a,cap,ec,h4,h5,h7,h8,h9⟩⟩
def qu9{e:Ty}{x:V}{s:Sl (den e)}{z:Value}(hl:∀id,rY φ o imm w id (o id))(hx:ay φ o imm w x z)(h:py lf o (.sl e) x=some s):zfs imm w e s z:=by
 rcases qnt h with rfl|⟨e',ht,s',h1,h2⟩|⟨e',ht,rfl,h2⟩
 ·exact zft hx
 ·injection ht with ht;subst ht;subst h2;exact(W4 hl hx h1).1
 ·injection ht with ht;subst ht;subst h2;exact⟨Nat.zero_le _,.inl ⟨rfl,rfl,hx⟩⟩
def qxr(hm:MRel C X φ o w){t:Ty}{x:V}{d:den t}{z:Value}(hx:ay φ o (aj X φ o w) w x z)(hf:yR o x)(h:py lf o t x=some d):cY (aj X φ o w) w t d z:=by
 rcases qnt h with rfl|⟨e',ht,s',h1,h2⟩|⟨e',ht,rfl,h2⟩
 ·exact hx
 ·subst ht;subst h2;obtain⟨⟨g1,g2⟩,id,ver,fr,s0,g3,g4,g5,g6,g8⟩:=W4 hm.aw hx h1;refine⟨z,rfl,g1,?_⟩;rcases g2 with g2|⟨hn,a,cap,ec,h5,h6,h7,h8,h9⟩
  ·exact .inl g2
  ·refine .inr ⟨hn,a,cap,ec,h5,h6,fun hc=>?_,h7,h8,h9⟩;have he:fr=true:=by
    cases e:fr with
    |true=>rfl
    |false=>exact absurd g3 (hf id (g6 e) _ _ _ _)
   have ho:=hm.aw id;rw[g3] at ho;obtain⟨_,_,ho⟩:=ho
   grind
 ·subst ht;subst h2;exact⟨z,rfl,Nat.zero_le _,.inl ⟨rfl,rfl,hx⟩⟩
def z64{o':Nat->Obj}(ho:∀id,o' id=o id\/∃t ver s,o' id=.vec t ver true s):∀(x:V) (id:Nat),id∈fq o' x->(∃t ver s,o' id=.vec t ver false s)->id∈fq o x:=by
 intro x;have key:∀se id,(id∈(match o' se with|.vec _ _ true _=>[]|_=>[se]))->(∃t ver s,o' id=.vec t ver false s)->id∈(match o se with|.vec _ _ true _=>[]|_=>[se]):=by grind
 refine V.rec (motive_1:=fun x=>∀id,id∈fq o' x->(∃t ver s,o' id=.vec t ver false s)->id∈fq o x)
  (motive_2:=fun l=>∀id,id∈rT o' l->(∃t ver s,o' id=.vec t ver false s)->id∈rT o l)
  ?_ ?_ ?_ ?_ ?_ ?_ ?_ ?_ ?_ ?_ ?_ ?_ ?_ ?_ ?_ ?_ ?_ ?_ ?_ ?_ ?_ ?_ ?_ ?_ x
 case refine_2=>exact fun se ver id h h'=>by unfold fq at*;exact key se id h h'
 case refine_3=>exact fun se ver _ _ id h h'=>by unfold fq at*;exact key se id h h'
 case refine_18=>exact fun se ver lo id h h'=>by unfold fq at*;exact key se id h h'
 case refine_11=>exact fun l ih id h h'=>by unfold fq at*;exact ih id h h'
 case refine_24=>
  intro x l mY mZ id h h';unfold rT at h ⊢;rcases zH.1 h with h|h
  ·exact List.mem_append_left _ (mY id h h')
  ·exact List.mem_append_right _ (mZ id h h')
 all_goals intros;rename_i h _;simp[fq,rT] at h
def Kz(ks:List Nat)(id:Nat):aq o (eG o ks) id=o id/\(∀t ver s,o id=.vec t ver false s->id∉ks)\/∃t ver fr s,o id=.vec t ver fr s/\aq o (eG o ks) id=.vec t ver true s:=by
 by_cases hk:id∈bW (eG o ks)
 ·obtain⟨t,ver,fr,s,h1,h2⟩:=FC hk
  grind
 ·exact .inl ⟨iU hk,fun t ver s e h=>hk (qxq h e)⟩
def W5{ks:List Nat}{x:V}(h:∀id,id∈fq o x->id∈ks):yR (aq o (eG o ks)) x:=by
 intro id hi t ver fr s e;have hc:fr=false:=by
  cases fr with
  |false=>rfl
  |true=>
   exfalso;revert hi;refine V.rec (motive_1:=fun x=>¬id∈fq (aq o (eG o ks)) x) (motive_2:=fun l=>¬id∈rT (aq o (eG o ks)) l)
    ?_ ?_ ?_ ?_ ?_ ?_ ?_ ?_ ?_ ?_ ?_ ?_ ?_ ?_ ?_ ?_ ?_ ?_ ?_ ?_ ?_ ?_ ?_ ?_ x
   case refine_2=>
    intro se aC h;unfold fq at h;split at h
    ·cases h
    ·rename_i hn;simp at h;subst h;exact hn _ _ _ e
   case refine_3=>
    intro se aC _ _ h;unfold fq at h;split at h
    ·cases h
    ·rename_i hn;simp at h;subst h;exact hn _ _ _ e
   case refine_18=>
    intro se aC _ h;unfold fq at h;split at h
    ·cases h
    ·rename_i hn;simp at h;subst h;exact hn _ _ _ e
   case refine_11=>intro l ih h;unfold fq at h;exact ih h
   case refine_24=>
    intro x l mY mZ h;unfold rT at h;rcases zH.1 h with h|h
    ·exact mY h
    ·exact mZ h
   all_goals intros;simp[fq,rT]
 subst hc;have:=z64 (o:=o) (o':=aq o (eG o ks)) (fun id=>(Kz ks id).imp (·.1) fun⟨t,ver,_,s,_,h⟩=>⟨t,ver,s,h⟩) x id hi ⟨t,ver,s,e⟩;rcases Kz (o:=o) ks id with ⟨h1,h2⟩|⟨_,_,_,_,_,h2⟩
 all_goals grind
def KA(ks:List Nat)(t:Ty)(x:V):py lf (aq o (eG o ks)) t x=py lf o t x:=by
 cases x<;>simp only[py]
 ·rename_i id ver;rcases Kz (o:=o) ks id with ⟨h1,_⟩|⟨_,_,_,_,h1,h2⟩
  ·rw[h1]
  ·rw[h1,h2]
 ·rename_i id ver n cp;rcases Kz (o:=o) ks id with ⟨h1,_⟩|⟨_,_,_,_,h1,h2⟩
  ·rw[h1]
  ·rw[h1,h2]
 ·rename_i id ver lo;rcases Kz (o:=o) ks id with ⟨h1,_⟩|⟨_,_,_,_,h1,h2⟩
  all_goals grind
def zfu(ks:List Nat):∀(t:Ty) (cs:List V),oh lf (aq o (eG o ks)) t cs=oh lf o t cs:=by
 intro t
 induction t with
 |unit=>intro cs;rfl
 |pair a b qv lA=>intro cs;simp only[oh,qv,lA]
 |st p ih=>intro cs;simp only[oh,ih]
 |arr n e _=>intro cs;rfl
 |int k=>intro cs;cases cs<;>simp only[oh,KA]
 |bool=>intro cs;cases cs<;>simp only[oh,KA]
 |fG=>intro cs;cases cs<;>simp only[oh,KA]
 |dG=>intro cs;cases cs<;>simp only[oh,KA]
 |str=>intro cs;cases cs<;>simp only[oh,KA]
 |sl e _=>intro cs;cases cs<;>simp only[oh,KA]
def z01(ks:List Nat)(t:Ty)(x:V):lj lf (aq o (eG o ks)) t x=lj lf o t x:=by cases x<;>simp only[lj,KA,zfu]
def z65(hm:MRel C X φ o w):∀(t:Ty) (cs r:List V) (d:den t) (zs:List Value),ck φ o (aj X φ o w) w cs zs->(∀c,c∈cs->yR o c)->oh lf o t cs=some (d,r)->∃zc zr,zs=zc++zr/\aE (aj X φ o w) w t d zc/\ck φ o (aj X φ o w) w r zr/\(∀c,c∈r->yR o c):=by
 have one:∀(t:Ty) (cs r:List V) (d:den t) (zs:List Value),ck φ o (aj X φ o w) w cs zs->(∀c,c∈cs->yR o c)->
   (match cs with|c::r=>(match py lf o t c with|some x=>some (x,r)|none=>none)|[]=>none)=some (d,r)->
   ∃z zr,zs=z::zr/\cY (aj X φ o w) w t d z/\ck φ o (aj X φ o w) w r zr/\(∀c,c∈r->yR o c):=by
  intro t cs r d zs hr hf h;cases cs with
  |nil=>cases h
  |cons c cs=>
   simp only at h;split at h
   ·rename_i x hx;injection h with h;injection h with h1 h2;subst h1 h2;obtain⟨z,zr,h3,h4,h5⟩:=hr;exact⟨z,zr,h3,qxr hm h4 (hf _ (zg ..)) hx,h5,fun c hc=>hf c (zh _ hc)⟩
   ·cases h
 intro t
 induction t with
 |unit=>intro cs r d zs hr hf h;simp only[oh,zB,Prod.mk.injEq] at h;obtain⟨_,rfl⟩:=h;exact⟨[],zs,rfl,rfl,hr,hf⟩
 |pair a b qv lA=>
  intro cs r d zs hr hf h;simp only[oh] at h;split at h
  ·rename_i x r1 h1;split at h
   ·rename_i y r2 h2;injection h with h;injection h with h3 h4;subst h3 h4;obtain⟨zc,zr,e1,e2,e3,e4⟩:=qv _ _ _ _ hr hf h1;obtain⟨Sm,zr',g1,g2,g3,g4⟩:=lA _ _ _ _ e3 e4 h2;exact⟨zc++Sm,zr',by rw[e1,g1,zm],⟨zc,Sm,rfl,e2,g2⟩,g3,g4⟩
   ·cases h
  ·cases h
 |st p ih=>intro cs r d zs hr hf h;exact ih _ _ _ _ hr hf h
 |arr n e _=>intro cs r d zs hr hf h;cases h
 |int k=>intro cs r d zs hr hf h;obtain⟨z,zr,e1,e2,e3⟩:=one _ cs r d zs hr hf (by cases cs<;>exact h);exact⟨[z],zr,e1,e2,e3⟩
 |bool=>intro cs r d zs hr hf h;obtain⟨z,zr,e1,e2,e3⟩:=one _ cs r d zs hr hf (by cases cs<;>exact h);exact⟨[z],zr,e1,e2,e3⟩
 |fG=>intro cs r d zs hr hf h;obtain⟨z,zr,e1,e2,e3⟩:=one _ cs r d zs hr hf (by cases cs<;>exact h);exact⟨[z],zr,e1,e2,e3⟩
 |dG=>intro cs r d zs hr hf h;obtain⟨z,zr,e1,e2,e3⟩:=one _ cs r d zs hr hf (by cases cs<;>exact h);exact⟨[z],zr,e1,e2,e3⟩
 |str=>intro cs r d zs hr hf h;obtain⟨z,zr,e1,e2,e3⟩:=one _ cs r d zs hr hf (by cases cs<;>exact h);exact⟨[z],zr,e1,e2,e3⟩
 |sl e _=>intro cs r d zs hr hf h;obtain⟨z,zr,e1,e2,e3⟩:=one _ cs r d zs hr hf (by cases cs<;>exact h);exact⟨[z],zr,e1,e2,e3⟩
def ql0:∀{cs:List V},yR o (.agg cs)->∀c,c∈cs->yR o c
 |c'::cs,h,c,hc,id,hi=>by
  rcases zk.1 hc with rfl|hc
  ·exact h id (by unfold fq rT;exact List.mem_append_left _ hi)
  ·exact ql0 (cs:=cs) (fun id hi=>h id (by unfold fq at hi ⊢;unfold rT;exact List.mem_append_right _ hi)) c hc id hi
def z02(hm:MRel C X φ o w){t:Ty}{x:V}{d:den t}{z:Value}(hx:ay φ o (aj X φ o w) w x z)(hf:yR o x)(h:lj lf o t x=some d):cY (aj X φ o w) w t d z:=by
 by_cases hc:∃cs,x=.agg cs
 ·obtain⟨cs,rfl⟩:=hc;simp only[lj] at h;split at h
  ·rename_i p;split at h
   ·rename_i y h1;injection h with h;subst h;obtain⟨c,rfl,hr⟩:=hx;obtain⟨zc,zr,e1,e2,e3,_⟩:=z65 hm _ _ _ _ _ hr (ql0 hf) h1;have:zr=[]:=e3;subst this;exact⟨c,rfl,by rw[e1,zn];exact e2⟩
   ·cases h
  ·cases h
 ·have:lj lf o t x=py lf o t x:=by cases x<;>first|rfl|exact absurd ⟨_,rfl⟩ hc
  exact qxr hm hx hf (this▸h)
end
def Gr:TypeDesc->Bool
 |.struct _|.array .. =>true
 |_=>false
def W6{C:Cx}{d:TypeDesc}{T:Ty}(h:pE C d T=true):Gr d=lB T/\lx T=!lB T:=by cases d<;>cases T<;>first|exact⟨rfl,rfl⟩|(simp only[pE] at h;cases h;done)
def vu{a:Addr}(h:a.spot=none)(n:Nat):a.add n=⟨a.block,a.off+n,none⟩:=by
 unfold Addr.add;split
 ·rename_i e;subst e;obtain⟨b,f,s⟩:=a;simp only at h;subst h;rfl
 ·rfl
section
variable {P:Program} {C:Cx} {X:Nat→Prop} {φ:Nat→Addr} {o:Nat→Obj} {w:World} {imm:Nat→Prop}
def LW{t:TypeId}{d:TypeDesc}(h:P.underlying t=some d):(Go.isAgg t).run P w=.ok (Gr d) w:=by unfold Go.isAgg;rw[Sem.run_bind,run_underlying h w];cases d<;>simp[Gr]
def kl{t:TypeId}{i:TypeInfo}(h:P.info? t=some i):(Go.sizeOf t).run P w=.ok i.size w:=by simp[Go.sizeOf,typeInfo,h]
def FD{t:TypeId}{i:TypeInfo}{z:Value}(h:P.info? t=some i)(hz:i.zero=some z):(zeroValue t).run P w=.ok z w:=by simp[zeroValue,typeInfo,h,hz]
def qds{a:Addr}(hs:a.spot=none){cs:List Value}{n:Nat}(hn:cs.length=n)(h:lV w a cs):(loadCells a n).run P w=.ok cs.toArray w:=by subst hn;refine run_loadCells_list w a cs fun j v hv=>?_;rw[vu hs];obtain⟨hj,e⟩:=zE.1 hv;rw[h j hj,e]
def qxs{a:Addr}(hs:a.spot=none){v:Value}{cs:List Value}(h:lV w a (v::cs)):(load a).run P w=.ok v w:=by
 have:=h 0 (by simp);obtain⟨b,f,s⟩:=a
 simp_all
def qnu{T:Ty}{d:den T}{cs:List Value}(hs:lx T=true)(h:aE imm w T d cs):∃v,cs=[v]/\cY imm w T d v:=by
 cases T<;>simp only[lx] at hs<;>try (cases hs;done)
 ·exact⟨_,h.1,by simpa[cY,aE] using h.2⟩
 ·exact⟨_,h,by simp[cY,aE]⟩
 ·obtain⟨s,h1,h2⟩:=h;exact⟨_,h1,s,rfl,h2⟩
 ·obtain⟨v,h1,h2⟩:=h;exact⟨_,h1,v,rfl,h2⟩
 ·exact⟨_,h,by simp[cY,aE]⟩
 ·exact⟨_,h,by simp[cY,aE]⟩
def qua{T:Ty}{d:den T}{v:Value}(hs:lx T=true)(h:cY imm w T d v):aE imm w T d [v]:=by cases T<;>simp only[lx] at hs<;>first|exact h|cases hs
def zbf{T:Ty}{d:den T}{v:Value}(hs:lB T=true)(h:cY imm w T d v):∃cs:Array Value,v=.agg cs/\aE imm w T d cs.toList:=by cases T<;>simp only[lB] at hs<;>first|exact h|cases hs
def zec{T:Ty}{d:den T}{cs:Array Value}(hs:lB T=true)(h:aE imm w T d cs.toList):cY imm w T d (.agg cs):=by cases T<;>simp only[lB] at hs<;>first|exact⟨cs,rfl,h⟩|cases hs
def qqk{C:Cx}{t:TypeId}{T:Ty}(ht:oI C t T){d:den T}{v:Value}(h:cY imm w T d v):aE imm w T d v.cells.toList:=by
 obtain⟨_,_,_,hd⟩:=ht.desc;obtain⟨_,hk⟩:=W6 hd;cases ha:lB T with
 |true=>obtain⟨cs,rfl,h1⟩:=zbf ha h;exact h1
 |false=>
  rw[ha] at hk;have:=qua hk h;have e:v.cells=#[v]:=by
   cases T<;>simp only[lx] at hk<;>try (cases hk;done)
   ·have h2:=h.1;simp only[List.cons.injEq,and_true] at h2;subst h2;rfl
   ·have h2:[v]=[_]:=h;simp only[List.cons.injEq,and_true] at h2;subst h2;rfl
   ·obtain⟨s,h2,_⟩:=h;simp only[List.cons.injEq,and_true] at h2;subst h2;rfl
   ·obtain⟨v',h2,_,h3⟩:=h;simp only[List.cons.injEq,and_true] at h2;subst h2;rcases h3 with ⟨_,_,rfl⟩|⟨_,a,cap,ec,rfl,_⟩<;>rfl
   ·have h2:[v]=[_]:=h;simp only[List.cons.injEq,and_true] at h2;subst h2;rfl
   ·have h2:[v]=[_]:=h;simp only[List.cons.injEq,and_true] at h2;subst h2;rfl
  rw[e];exact this
def qql{t:TypeId}{T:Ty}(h:oI C t T){a:Addr}(hs:a.spot=none){d:den T}{cs:List Value}(hr:aE imm w T d cs)(hc:lV w a cs):∃v,(loadVar t a).run C.P w=.ok v w/\cY imm w T d v:=by
 obtain⟨dd,_,hu,hd⟩:=h.desc;obtain⟨i,z,hi,_,hg,_⟩:=h.info;obtain⟨he,hf⟩:=W6 hd;have hl:=iQ T d cs hr;unfold loadVar;simp only[Sem.run_bind,LW hu,Result.andThen_ok];cases ha:lB T with
 |true=>rw[he,ha];refine⟨.agg cs.toArray,?_,zec ha (by simpa using hr)⟩;simp[kl hi,qds hs (hl.trans hg.symm) hc]
 |false=>rw[he,ha];rw[ha] at hf;obtain⟨v,rfl,h2⟩:=qnu hf hr;exact⟨v,by simpa using qxs hs hc,h2⟩
def W7{t:TypeId}{T:Ty}(h:oI C t T){cs:Array Value}{off:Nat}{d:den T}(hr:aE imm w T d ((cs.toList.drop off).take (aM T))):∃v,(part t cs off).run C.P w=.ok v w/\cY imm w T d v:=by
 obtain⟨dd,_,hu,hd⟩:=h.desc;obtain⟨i,z,hi,_,hf,_⟩:=h.info;obtain⟨hc,he⟩:=W6 hd;unfold part;simp only[Sem.run_bind,LW hu,Result.andThen_ok];cases ha:lB T with
 |true=>
  rw[hc,ha];refine⟨.agg (cs.extract off (off+aM T)),?_,zec ha ?_⟩
  ·simp[kl hi,hf]
  simp_all
 |false=>
  rw[hc,ha];rw[ha] at he;obtain⟨v,e,h2⟩:=qnu he hr;refine⟨v,?_,h2⟩;have:cs[off]?=some v:=by
   have e1:=congrArg (fun l=>l[0]?) e
   grind
  simp[this]
def ql1:∀(p:Ty) (f:Nat) (y:den p) {u:Ty} {z:den u},Qr p f y=some ⟨u,z⟩->qo p f=some u/\(∀cs,aE imm w p y cs->aE imm w u z ((cs.drop (fW p f)).take (aM u))):=by
 have base:∀(t:Ty) (y:den t) (u:Ty) (z:den u),(some ⟨t,y⟩:Option ((t:Ty)×den t))=some ⟨u,z⟩->t=u/\(∀cs,aE imm w t y cs->aE imm w u z ((cs.drop 0).take (aM u))):=by intro t y u z h;injection h with h;injection h with h1 h2;subst h1;have h2:=eq_of_heq h2;subst h2;exact⟨rfl,fun cs hc=>by rw[List.drop_zero,<-iQ _ _ _ hc,List.take_length];exact hc⟩
 intro p
 induction p with
 |pair a b _ lA=>
  intro f y u z h;cases f with
  |zero=>
   simp only[Qr] at h;obtain⟨h1,h2⟩:=base _ _ _ _ h;subst h1;refine⟨rfl,fun cs ⟨c,d,e,h3,h4⟩=>?_⟩;have:=h2 c h3;rw[e];simp only[fW,List.drop_zero] at this ⊢;rw[<-iQ _ _ _ h3] at this ⊢
   grind
  |succ n=>simp only[Qr] at h;obtain⟨h1,h2⟩:=lA n y.2 h;refine⟨h1,fun cs ⟨c,d,e,h3,h4⟩=>?_⟩;have:=h2 d h4;rw[e];simp only[fW];rw[<-iQ _ _ _ h3,List.drop_length_add_append];exact this
 |unit=>intro f y u z h;cases f<;>cases h
 |int k=>intro f y u z h;cases f with|zero=>obtain⟨rfl,h2⟩:=base _ _ _ _ h;exact⟨rfl,h2⟩|succ n=>cases h
 |bool=>intro f y u z h;cases f with|zero=>obtain⟨rfl,h2⟩:=base _ _ _ _ h;exact⟨rfl,h2⟩|succ n=>cases h
 |fG=>intro f y u z h;cases f with|zero=>obtain⟨rfl,h2⟩:=base _ _ _ _ h;exact⟨rfl,h2⟩|succ n=>cases h
 |dG=>intro f y u z h;cases f with|zero=>obtain⟨rfl,h2⟩:=base _ _ _ _ h;exact⟨rfl,h2⟩|succ n=>cases h
 |str=>intro f y u z h;cases f with|zero=>obtain⟨rfl,h2⟩:=base _ _ _ _ h;exact⟨rfl,h2⟩|succ n=>cases h
 |sl e=>intro f y u z h;cases f with|zero=>obtain⟨rfl,h2⟩:=base _ _ _ _ h;exact⟨rfl,h2⟩|succ n=>cases h
 |st p=>intro f y u z h;cases f with|zero=>obtain⟨rfl,h2⟩:=base _ _ _ _ h;exact⟨rfl,h2⟩|succ n=>cases h
 |arr m e=>intro f y u z h;cases f with|zero=>obtain⟨rfl,h2⟩:=base _ _ _ _ h;exact⟨rfl,h2⟩|succ n=>cases h
def qeh(hC:cV C):∀(fs:List Field) (p:Ty) (off f:Nat) {u:Ty},vt C fs p off=true->qo p f=some u->∃fd,fs[f]?=some fd/\C.ty fd.type=some u/\fd.offset=off+fW p f:=by
 intro fs
 induction fs with
 |nil=>intro p off f u h h1;cases p<;>first|(simp only[vt] at h;cases h;done)|(cases f<;>cases h1)
 |cons g r ih=>
  intro p off f u h h1;cases r with
  |nil=>
   have h:(C.is g.type p&&Nat.beq g.offset off)=true:=by cases p<;>exact h
   rw[ze] at h;have ht:=cg h.1;obtain⟨_,_,_,hd⟩:=(hC.eY _ _ ht).desc;obtain⟨_,hk⟩:=W6 hd;have:f=0/\u=p/\fW p 0=0:=by
    cases f with
    |zero=>cases p<;>first|exact⟨rfl,(zF h1).symm,rfl⟩|(simp only[lx,lB] at hk;cases hk;done)
    |succ n=>cases p<;>first|(cases h1;done)|(simp only[lx,lB] at hk;cases hk;done)
   simp_all
  |cons g' r=>
   cases p<;>simp only[vt] at h<;>try (cases h;done)
   rename_i a b;simp only[ze] at h;cases f with
   |zero=>simp only[qo,zB] at h1;subst h1;exact⟨g,rfl,cg h.1.1,by simpa[fW] using zj h.1.2⟩
   |succ n=>obtain⟨fd,h2,h3,h4⟩:=ih b (off+aM a) n h.2 h1;exact⟨fd,by simpa using h2,h3,by simp only[fW];omega⟩
def KB{t:TypeId}{b:Bool}{n:Nat}(h:yG P t=some (b,n)):∃i d,P.info? t=some i/\i.size=n/\P.underlying t=some d/\Gr d=b:=by
 unfold yG at h;cases h1:P.types.toList[t]? with
 |none=>rw[h1] at h;cases h
 |some i=>
  rw[h1] at h;simp only at h;cases h2:desc P t with
  |none=>rw[h2] at h;cases h
  |some d=>
   rw[h2] at h;refine⟨i,d,Sc h1,?_,ng h2,?_⟩
   ·cases d<;>simp only[zB,Prod.mk.injEq] at h<;>exact h.2
   ·cases d<;>simp only[zB,Prod.mk.injEq] at h<;>exact h.1
def qm2{t:TypeId}{f:Nat}{fd:Field}(h:RG P t f=some fd):∃fs,P.underlying t=some (.struct fs)/\desc P t=some (.struct fs)/\fs[f]?=some fd:=by
 unfold RG at h;split at h
 ·rename_i fs e;exact⟨fs,ng e,e,by rw[<-zJ];exact h⟩
 ·cases h
def W8(hC:cV C){t:TypeId}{p:Ty}(h:C.ty t=some (.st p)):∃fs,desc C.P t=some (.struct fs)/\C.P.underlying t=some (.struct fs)/\vt C fs.toList p 0=true:=by obtain⟨d,h1,h2,h3⟩:=(hC.eY _ _ h).desc;cases d<;>first|exact⟨_,h1,h2,h3⟩|(simp only[pE] at h3;cases h3;done)
def Sn:∀{cs:List V} {zs:List Value} {i:Nat} {v:V},ck φ o imm w cs zs->cs[i]?=some v->∃z,zs[i]?=some z/\ay φ o imm w v z
 |[],_,_,_,_,h=>by simp at h
 |x::l,_,0,v,⟨z,r,e,h1,_⟩,h=>by grind
 |x::l,_,i+1,v,⟨z,r,e,_,h2⟩,h=>by subst e;simp only[List.getElem?_cons_succ] at h ⊢;exact Sn h2 h
def Sp:∀{cs:List V} {zs:List Value} (n:Nat),ck φ o imm w cs zs->ck φ o imm w (cs.drop n) (zs.drop n)
 |_,_,0,h=>h
 |[],_,n+1,h=>by simp[ck] at h;subst h;simp[ck]
 |x::l,_,n+1,⟨z,r,e,_,h2⟩=>by subst e;exact Sp n h2
def Sq:∀{cs:List V} {zs:List Value} (n:Nat),ck φ o imm w cs zs->ck φ o imm w (cs.take n) (zs.take n)
 |_,_,0,h=>by simp[ck]
 |[],_,n+1,h=>by simp[ck] at h;subst h;simp[ck]
 |x::l,_,n+1,⟨z,r,e,h1,h2⟩=>by subst e;exact⟨z,_,rfl,h1,Sq n h2⟩
def KC:∀{cs:List V} {zs:List Value},ck φ o imm w cs zs->cs.length=zs.length
 |[],_,h=>by simp[ck] at h;subst h;rfl
 |x::l,_,⟨z,r,e,_,h2⟩=>by subst e;simp[KC h2]
def KD:∀{cs ds:List V} {zs ys:List Value},ck φ o imm w cs zs->ck φ o imm w ds ys->ck φ o imm w (cs++ds) (zs++ys)
 |[],_,_,_,h,h'=>by simp[ck] at h;subst h;exact h'
 |x::l,_,_,_,⟨z,r,e,h1,h2⟩,h'=>by subst e;exact⟨z,_,rfl,h1,KD h2 h'⟩
def qub(hm:MRel C X φ o w){t:TypeId}{cs:List V}{zs:Array Value}(h:ck φ o (aj X φ o w) w cs zs.toList):ay φ o (aj X φ o w) w (WB lf C o t cs) (.agg zs):=by
 have LZ:ay φ o (aj X φ o w) w (.agg cs) (.agg zs):=⟨zs,rfl,h⟩;unfold WB;split
 ·rename_i p _;split
  ·rename_i e1 _;split
   ·rename_i x e;have hf:∀c,c∈cs->yR o c:=ql0 (fun id hi=>by unfold fq at hi;rw[e1] at hi;cases hi);obtain⟨zc,zr,g1,g2,g3,_⟩:=z65 hm _ _ _ _ _ h hf e;have:zr=[]:=g3;subst this;exact⟨zs,rfl,by rw[g1,zn];exact g2⟩
   ·exact LZ
  ·exact LZ
 ·exact LZ
end
def qpy{α:Type}{l:List α}{n b m:Nat}(h:(((l.take n).drop b).take m).length=m):((l.take n).drop b).take m=(l.drop b).take m:=by
 rw[List.drop_take,List.take_take] at h ⊢
 grind
section
variable {P:Program} {C:Cx} {X:Nat→Prop} {φ:Nat→Addr} {o:Nat→Obj} {w:World} {imm:Nat→Prop}
def z66:∀{p:Ty} {f:Nat} {u:Ty},qo p f=some u->tyF p f=u:=by
 intro p
 induction p with
 |pair a b _ lA=>intro f u h;cases f with|zero=>exact zF h|succ n=>exact lA h
 |unit=>intro f u h;cases f<;>cases h
 |_=>intro f u h;cases f with|zero=>exact zF h|succ n=>cases h
def z67:∀(p:Ty) (f:Nat) (y:den p) {u:Ty},qo p f=some u->∃z,Qr p f y=some ⟨u,z⟩:=by
 intro p
 induction p with
 |pair a b _ lA=>intro f y u h;cases f with|zero=>have:=zF h;subst this;exact⟨y.1,rfl⟩|succ n=>exact lA n y.2 h
 |unit=>intro f y u h;cases f<;>cases h
 |_=>intro f y u h;cases f with|zero=>have:=zF h;subst this;exact⟨y,rfl⟩|succ n=>cases h
def quc:∀(path:List Nat) (t:Ty) (x:den t) {u:Ty},Ft path t=some u->∃y,Wq path t x=some ⟨u,y⟩/\∀(imm:Nat->Prop) (w:World) cs,aE imm w t x cs->aE imm w u y ((cs.drop (j9 path t)).take (aM u))
 |[],t,x,u,h=>by have:=zF h;subst this;refine⟨x,rfl,fun imm w cs hc=>?_⟩;rw[show j9 [] t=0 from rfl,List.drop_zero,<-iQ _ _ _ hc,List.take_length];exact hc
 |f::r,t,x,u,h=>by
  cases t<;>simp only[Ft] at h<;>try (cases h;done)
  rename_i p;split at h
  ·rename_i u1 h1;obtain⟨y,h2⟩:=z67 p f x h1;obtain⟨y',h3,h4⟩:=quc r u1 y h;refine⟨y',by simp only[Wq,Qs,h2];exact h3,fun imm w cs hc=>?_⟩;obtain⟨_,h5⟩:=ql1 (imm:=imm) (w:=w) p f x h2;have h6:=h4 imm w _ (h5 cs hc);have hl:=iQ _ _ _ h6;rw[qpy hl,List.drop_drop] at h6;simp only[j9,z66 h1];exact h6
  ·cases h
def QU{a:Addr}{cs:List Value}(k n:Nat)(h:lV w a cs):lV w ⟨a.block,a.off+k,none⟩ ((cs.drop k).take n):=by
 intro j hj;have hc:k+j<cs.length:=by simp at hj;omega
 have:=h (k+j) hc
 grind
def Sr{b:Nat}{c:Array Value}{el:TypeId}{fz:Nat×Nat}(h:w.heap[b]?=some (.cells c el fz))(off n:Nat):lV w ⟨b,off,none⟩ ((c.toList.drop off).take n):=by
 intro j hj;have hc:off+j<c.size:=by simp at hj;omega
 simp[World.cell?,h,hc]
def qud(hC:cV C)(hm:MRel C X φ o w){t:TypeId}{x:V}{z:Value}{v:V}{u:List (Nat×Obj)}(hx:ay φ o (aj X φ o w) w x z)(h:(WC lf C o t x).aN v u):u=[]/\r9 C.P φ o (aj X φ o w) w v (Instr.loadAt t z):=by
 unfold WC at h;split at h
 ·rename_i t' d;rw[dX,dW] at h;obtain⟨h1,rfl,rfl⟩:=h;obtain⟨a,cs,rfl,h2,_,h4,h5⟩:=hx;obtain⟨v,h6,h7⟩:=qql (hC.eY _ _ (cg h1)) h2 h4 h5;exact⟨rfl,v,by simp[Instr.loadAt,Instr.sureAddr,h6],h7⟩
 ·rename_i t' d;split at h
  ·rename_i n hk;rw[dW] at h;obtain⟨rfl,rfl⟩:=h;obtain⟨i,d',g1,g2,g3,g4⟩:=KB hk;obtain⟨a,b,cs,rfl,h2,h3,h4,h5⟩:=hx;refine⟨rfl,.pointer (some b),?_,b,cs,rfl,h5⟩;have hc:w.cell? a=some (.pointer (some b)):=by
    have:=h4 0 (by simp);obtain⟨b1,f1,s1⟩:=a
    grind
   simp[Instr.loadAt,Instr.sureAddr,loadVar,LW g3,g4,hc]
  ·cases h
 ·rename_i id off;have ho:=hm.aw id;unfold ay at hx;split at h
  ·rename_i cs e;rw[e] at hx ho;simp only at hx;subst hx;obtain⟨h0,c,el,lo,hi,h1,h2,h3⟩:=ho;split at h
   ·rename_i n hk;rw[dX,dW] at h;obtain⟨hb,rfl,rfl⟩:=h;have hb:=zD hb;obtain⟨i,d,g1,g2,g3,g4⟩:=KB hk;have hl:=KC h3;refine⟨rfl,.agg ((c.toList.drop off).take n).toArray,?_,qub hm (by simpa using Sq n (Sp off h3))⟩;have:=qds (P:=C.P) (w:=w) (a:=⟨(φ id).block,(φ id).off+off,none⟩) rfl (n:=n) (cs:=(c.toList.drop off).take n) (by simp at hl ⊢;omega) (by
     rw[h0,zC];exact Sr h1 off n)
    simp[Instr.loadAt,Instr.sureAddr,loadVar,LW g3,g4,kl g1,g2,this]
   ·rename_i n hk;split at h
    ·rename_i v' hv;rw[dW] at h;obtain⟨rfl,rfl⟩:=h;obtain⟨i,d,g1,g2,g3,g4⟩:=KB hk;obtain⟨z,hz,hr⟩:=Sn h3 hv;refine⟨rfl,z,?_,hr⟩;have:w.cell? ⟨(φ id).block,(φ id).off+off,none⟩=some z:=by rw[h0,zC];simp only[World.cell?,h1];simpa using hz
     simp[Instr.loadAt,Instr.sureAddr,loadVar,LW g3,g4,this]
    ·cases h
   ·cases h
  ·cases h
 ·rename_i id ver i path;have ho:=hm.aw id;unfold ay at hx;split at h
  ·rename_i e aC fr s e1;rw[e1] at hx ho;split at h
   ·rename_i t' ht;rw[dX,ou,ze] at h;obtain⟨⟨h1,h2⟩,x,h3,h4⟩:=h;obtain⟨_,hx⟩:=hx;obtain⟨hi,rfl⟩:=hx (zj h1);obtain⟨y,h5,h6⟩:=quc path e x ht;rw[h5] at h4;simp only[Prod.mk.injEq] at h4;obtain⟨rfl,rfl⟩:=h4;obtain⟨g1,g2,g3⟩:=ho;have hn:s.nil=false:=by
     cases hn:s.nil with
     |false=>rfl
     |true=>rw[g2 hn] at hi;simp at hi
    obtain⟨g4,ec,g5,g6,_⟩:=(g3 hn).resolve_right fun g=>by rw[g.2.1] at hi;simp at hi
    have h3:s.l[i]?=some x:=h3;obtain⟨he,hf⟩:=zE.1 h3;have hr:=R4 g5 i he;rw[hf] at hr;have hr:=h6 _ _ _ hr;have hc:=QU (j9 path e) (aM t') (QU (i*aM e) (aM e) g6);obtain⟨v,k1,k2⟩:=qql (w:=w) (hC.eY _ _ (cg h2)) (a:=⟨(φ id).block,(φ id).off+i*aM e+j9 path e,none⟩) rfl hr hc;exact⟨rfl,v,by simp[Instr.loadAt,Instr.sureAddr,k1],k2⟩
   ·cases h
  ·cases h
 ·cases h
def z2v(hC:cV C)(_hm:MRel C X φ o w){t:TypeId}{f:Nat}{x:V}{z:Value}{v:V}{u:List (Nat×Obj)}(hx:ay φ o (aj X φ o w) w x z)(h:(qxe C t x f).aN v u):u=[]/\r9 C.P φ o (aj X φ o w) w v (Instr.field t z f):=by
 unfold qxe at h;split at h
 ·rename_i t' y;rw[dX] at h;obtain⟨h1,h⟩:=h;split at h
  ·rename_i u' z' h2;rw[dW] at h;obtain⟨rfl,rfl⟩:=h;cases t'<;>simp only[Qs] at h2<;>try (cases h2;done)
   rename_i p;obtain⟨fs,g1,g2,g3⟩:=W8 hC (cg h1);obtain⟨k1,k2⟩:=ql1 (imm:=aj X φ o w) (w:=w) p f y h2;obtain⟨fd,m1,m2,m3⟩:=qeh hC _ _ _ _ g3 k1;obtain⟨cs,rfl,hr⟩:=hx;obtain⟨v,n1,n2⟩:=W7 (w:=w) (hC.eY _ _ m2) (cs:=cs) (off:=fd.offset) (by rw[m3,zC];exact k2 _ hr);refine⟨rfl,v,?_,n2⟩;rw[zJ] at m1;simp[Instr.field,run_underlying g2,m1,asAgg,n1]
  ·cases h
 ·rename_i cs;obtain⟨c,rfl,hr⟩:=hx;split at h
  ·rename_i fd hf;obtain⟨fs,f1,f2,f3⟩:=qm2 hf;split at h
   ·rename_i n hk;rw[dX,dW] at h;obtain⟨_,rfl,rfl⟩:=h;obtain⟨i,d,g1,g2,g3,g4⟩:=KB hk;refine⟨rfl,.agg (c.extract fd.offset (fd.offset+n)),?_,_,rfl,?_⟩
    ·simp[Instr.field,run_underlying f1,f3,asAgg,part,LW g3,g4,kl g1,g2]
    ·rw[Array.toList_extract,List.extract_eq_take_drop,Nat.add_sub_cancel_left];exact Sq n (Sp _ hr)
   ·rename_i n hk;split at h
    ·rename_i v' hv;rw[dW] at h;obtain⟨rfl,rfl⟩:=h;obtain⟨i,d,g1,g2,g3,g4⟩:=KB hk;obtain⟨z,hz,hc⟩:=Sn hr hv;rw[zJ] at hz;refine⟨rfl,z,?_,hc⟩;simp[Instr.field,run_underlying f1,f3,asAgg,part,LW g3,g4,hz]
    ·cases h
   ·cases h
  ·cases h
 ·cases h
def qpz(hC:cV C)(_hm:MRel C X φ o w){t:TypeId}{f:Nat}{x:V}{z:Value}{v:V}{u:List (Nat×Obj)}(hx:ay φ o (aj X φ o w) w x z)(h:(QB C o t x f).aN v u):u=[]/\r9 C.P φ o (aj X φ o w) w v (Instr.fieldAt t z f):=by
 unfold QB at h;split at h
 ·cases h
 ·rename_i fd hf;obtain⟨fs,f1,f1',f2⟩:=qm2 hf;split at h
  ·rename_i b sz hk;rw[dX] at h;obtain⟨he,h⟩:=h;have he:0<sz:=zD he;obtain⟨i,d,g1,g2,g3,g4⟩:=KB hk;have run:∀a:Addr,(Instr.fieldAt t (.pointer (some a)) f).run C.P w=.ok (.pointer (some (a.add fd.offset))) w:=by
    intro a;have:i.size≠0:=om
    simp[Instr.fieldAt,run_underlying f1,f2,Instr.sureAddr,fieldPlace,kl g1,this]
   split at h
   ·rename_i id off;split at h
    ·rename_i cs e;rw[dW] at h;obtain⟨rfl,rfl⟩:=h;unfold ay at hx;rw[e] at hx;simp only at hx;subst hx;refine⟨rfl,_,run _,?_⟩;rw[vu rfl];unfold ay
     grind
    ·cases h
   ·rename_i t' y;rw[dX] at h;obtain⟨h1,h⟩:=h;split at h
    ·rename_i u' z' h2;rw[dW] at h;obtain⟨rfl,rfl⟩:=h;cases t'<;>simp only[Qs] at h2<;>try (cases h2;done)
     rename_i p;obtain⟨fs',e1,e2,e3⟩:=W8 hC (cg h1);rw[f1'] at e1;injection e1 with e1;injection e1 with e1;subst e1;obtain⟨k1,k2⟩:=ql1 (imm:=aj X φ o w) (w:=w) p f y h2;obtain⟨fd',m1,m2,m3⟩:=qeh hC _ _ _ _ e3 k1;rw[zJ,f2] at m1;injection m1 with m1;subst m1;obtain⟨a,cs,rfl,hs,hi,hr,hc⟩:=hx;refine⟨rfl,_,run _,?_⟩;rw[vu hs,m3,zC];exact⟨_,_,rfl,rfl,hi,k2 _ hr,QU _ _ hc⟩
    ·cases h
   ·rename_i id ver j path;split at h
    ·rename_i e aC fr s e1;split at h
     ·rename_i t' ht;split at h
      ·rename_i p;split at h
       ·rename_i u' hu;rw[dX,dW,ze] at h;obtain⟨⟨h1,h2⟩,rfl,rfl⟩:=h;obtain⟨fs',k1,k2,k3⟩:=W8 hC (cg h2);rw[f1'] at k1;injection k1 with k1;injection k1 with k1;subst k1;obtain⟨fd',m1,m2,m3⟩:=qeh hC _ _ _ _ k3 hu;rw[zJ,f2] at m1;injection m1 with m1;subst m1;unfold ay at hx;rw[e1] at hx;obtain⟨h0,hx⟩:=hx;obtain⟨hi,rfl⟩:=hx (zj h1);refine⟨rfl,_,run _,?_⟩;rw[vu rfl];unfold ay;rw[e1];refine⟨h0,fun _=>⟨hi,?_⟩⟩;have key:∀(path:List Nat) (t:Ty),Ft path t=some (.st p)->j9 (path++[f]) t=j9 path t+fW p f:=by
         intro path
         induction path with
         |nil=>intro t h;have:=zF h;subst this;simp[j9]
         |cons g r ih=>
          intro t h;cases t<;>simp only[Ft] at h<;>try (cases h;done)
          split at h
          ·rename_i q u1 h1;have:=ih u1 h;simp only[List.cons_append,j9,z66 h1,this,Nat.add_assoc]
          ·cases h
        grind
       ·cases h
      ·cases h
     ·cases h
    ·cases h
   ·cases h
  ·cases h
end
section
variable {P:Program} {C:Cx} {X:Nat→Prop} {φ:Nat→Addr} {o:Nat→Obj} {w:World} {imm:Nat→Prop}
def FE{t:TypeId}{e:Ty}(h:jM e (rH C t)=true):∃i,C.P.underlying t=some (.slice i)/\desc C.P t=some (.slice i)/\C.ty i=some e:=by
 have h:=Se h;unfold rH at h;split at h
 ·rename_i i e1;exact⟨i,ng e1,e1,h⟩
 ·cases h
def qhy{t:TypeId}{e:Ty}(h:rH C t=some e):∃i,C.P.underlying t=some (.slice i)/\desc C.P t=some (.slice i)/\C.ty i=some e:=by
 unfold rH at h;split at h
 ·rename_i i e1;exact⟨i,ng e1,e1,h⟩
 ·cases h
def ql2{t:TypeId}{n:Nat}{e:Ty}(h:RU C t=some (n,e)):∃i,C.P.underlying t=some (.array n i)/\desc C.P t=some (.array n i)/\C.ty i=some e:=by
 unfold RU at h;split at h
 ·rename_i m i e1;split at h
  ·rename_i e' e2;simp only[zB,Prod.mk.injEq] at h;obtain⟨rfl,rfl⟩:=h;exact⟨i,ng e1,e1,e2⟩
  ·cases h
 ·cases h
def Ss{x:V}{z:Value}{p:(_:IntKind)×Int}(h:asInt x=some p)(hx:ay φ o imm w x z):z=.int p.1 p.2/\gE p.1 p.2:=by
 unfold asInt at h;split at h
 ·injection h with h;subst h;exact oH hx
 ·cases h
def W9{α:Type}{l:List α}{n:Int}{y:α}(h:cM l n=some y):0<=n/\n<l.length/\l[n.toNat]?=some y:=by
 unfold cM at h
 grind
def Xa{α:Type}{l:List α}{n:Int}{j:Nat}(h:cD l n=some j):0<=n/\n<l.length/\j=n.toNat:=by
 unfold cD at h
 grind
def que{α:Type}{l m:List α}{a b:Int}(h:cI l a b=some m):0<=a/\a<=b/\b<=l.length/\m=(l.take b.toNat).drop a.toNat:=by
 unfold cI at h
 grind
def Xb{n b:Int}{p:Nat}(h:df n b=some p):0<=b/\b<=n/\p=b.toNat:=by
 unfold df at h
 grind
def FG{α β:Type}{x:Option α}{f:α->Option β}{y:β}(h:az x f=some y):∃a,x=some a/\f a=some y:=by
 cases x with
 |none=>cases h
 |some a=>exact⟨a,rfl,h⟩
def z2w(hC:cV C){t:TypeId}{x i:V}{zx zi:Value}{v:V}{u:List (Nat×Obj)}(hx:ay φ o imm w x zx)(hi:ay φ o imm w i zi)(h:(qxd lf C t x i).aN v u):u=[]/\r9 C.P φ o imm w v (Instr.index t zx zi):=by
 unfold qxd at h;split at h
 ·cases h
 ·rename_i k n hk;obtain⟨rfl,_⟩:=Ss hk hi;split at h
  ·rename_i l;rw[dX,Kw] at h;obtain⟨h1,y,h2,h3⟩:=h;simp only[Prod.mk.injEq] at h3;obtain⟨rfl,rfl⟩:=h3;obtain⟨s,rfl,rfl,_⟩:=rZ hx;have h1:=zj h1;have hu:C.P.underlying t=some .string:=by unfold WE at h1;split at h1<;>first|(rename_i e;exact ng e)|cases h1
   obtain⟨g1,g2,g3⟩:=W9 h2;rw[zU,Option.map_eq_some_iff] at g3;obtain⟨b,g3,rfl⟩:=g3;refine⟨rfl,.int .u8 b.toNat,?_,nf ?_⟩
   ·have e:s[n.toNat]?=some b:=by
     obtain⟨g4,g5⟩:=zE.1 g3;have g4':n.toNat<s.size:=by simpa using g4
     rw[getElem?_pos s n.toNat g4'];have g5':s.data[n.toNat]=b:=by simpa using g5
     exact congrArg some g5'
    simp[Instr.index,asIntOf,run_underlying hu,g1,e]
   ·have:=b.toNat_lt;unfold gE IntKind.min IntKind.max;simp[IntKind.signed,IntKind.bits];omega
  ·rename_i m e l;split at h
   ·rename_i m' e' ha;rw[dX,Kw,ze] at h;obtain⟨⟨h1,hc⟩,y,h2,h3⟩:=h;simp only[Prod.mk.injEq] at h3;obtain⟨rfl,rfl⟩:=h3;have:=zF (Se hc);subst this;obtain⟨ei,hu,_,he⟩:=ql2 ha;have h1:=zj h1;subst h1;obtain⟨cs,rfl,hl,hr⟩:=hx;obtain⟨g1,g2,g3⟩:=W9 h2;obtain⟨g4,g5⟩:=zE.1 g3;have hT:=hC.eY _ _ he;have:=R4 hr _ g4;rw[g5] at this;obtain⟨i,z,k1,_,k2,_⟩:=hT.info;obtain⟨v,k3,k4⟩:=W7 (w:=w) hT (cs:=cs) (off:=n.toNat*aM e') this;refine⟨rfl,v,?_,k4⟩;have hf:n<(m:Int):=by have:List.length l=m:=hl;omega
    simp[Instr.index,asIntOf,run_underlying hu,g1,hf,kl k1,k2,k3]
   ·cases h
  ·cases h
def Xc{t e:TypeId}{i:TypeInfo}(hu:P.underlying t=some (.slice e))(hi:P.info? e=some i){a:Addr}(hs:a.spot=none){len cap:Nat}{k:IntKind}{n:Int}(h0:0<=n)(h1:n<len):(Instr.indexAt t (.slice (some a) len cap) (.int k n)).run P w=.ok (.pointer (some ⟨a.block,a.off+n.toNat*i.size,none⟩)) w:=by simp[Instr.indexAt,asIntOf,run_underlying hu,h0,h1,kl hi,vu hs]
def qbz{t e:TypeId}{i:TypeInfo}{m:Nat}(hu:P.underlying t=some (.array m e))(hi:P.info? e=some i){a:Addr}(hs:a.spot=none){k:IntKind}{n:Int}(h0:0<=n)(h1:n<m):(Instr.indexAt t (.pointer (some a)) (.int k n)).run P w=.ok (.pointer (some ⟨a.block,a.off+n.toNat*i.size,none⟩)) w:=by simp[Instr.indexAt,asIntOf,run_underlying hu,h0,h1,kl hi,vu hs,Instr.sureAddr]
def qq0(hC:cV C)(hm:MRel C X φ o w){t:TypeId}{x i:V}{zx zi:Value}{v:V}{u:List (Nat×Obj)}(hx:ay φ o (aj X φ o w) w x zx)(hi:ay φ o (aj X φ o w) w i zi)(h:(qhs lf C o t x i).aN v u):u=[]/\r9 C.P φ o (aj X φ o w) w v (Instr.indexAt t zx zi):=by
 unfold qhs at h;split at h
 ·cases h
 ·rename_i k n hk;obtain⟨rfl,_⟩:=Ss hk hi;split at h
  ·rename_i e s;rw[dX,ou] at h;obtain⟨h1,y,h2,h3⟩:=h;simp only[Prod.mk.injEq] at h3;obtain⟨rfl,rfl⟩:=h3;obtain⟨ei,hu,_,he⟩:=FE h1;obtain⟨ii,z,k1,_,k2,_⟩:=(hC.eY _ _ he).info;obtain⟨g1,g2,g3⟩:=W9 h2;obtain⟨_,hs⟩:=Kx hx;rcases hs with ⟨_,e2,_⟩|⟨_,a,cap,ec,rfl,e2,e3,e4,e5,e6⟩
   ·grind
   ·refine⟨rfl,_,Xc hu k1 (e2 om) g1 g2,?_⟩;obtain⟨g4,g5⟩:=zE.1 g3;have:=R4 e4 _ g4;rw[g5] at this;rw[k2];exact⟨_,_,rfl,rfl,e3 (fun h=>by rw[h] at g4;simp at g4),this,QU _ _ e5⟩
  ·rename_i m e l;split at h
   ·rename_i m' e' ha;rw[dX,ou,ze] at h;obtain⟨⟨h1,hc⟩,y,h2,h3⟩:=h;simp only[Prod.mk.injEq] at h3;obtain⟨rfl,rfl⟩:=h3;have:=zF (Se hc);subst this;obtain⟨ei,hu,_,he⟩:=ql2 ha;obtain⟨ii,z,k1,_,k2,_⟩:=(hC.eY _ _ he).info;have h1:=zj h1;subst h1;obtain⟨g1,g2,g3⟩:=W9 h2;obtain⟨a,cs,rfl,e2,e3,⟨e4,e4'⟩,e5⟩:=hx;have hg:n<(m:Int):=by have:List.length l=m:=e4;omega
    refine⟨rfl,_,qbz hu k1 e2 g1 hg,?_⟩;obtain⟨g4,g5⟩:=zE.1 g3;have:=R4 e4' _ g4;rw[g5] at this;rw[k2];exact⟨_,_,rfl,rfl,e3,this,QU _ _ e5⟩
   ·cases h
  ·rename_i id ver;split at h
   ·rename_i e aC fr s e1;rw[dX,ou,ze] at h;obtain⟨⟨h1,hc⟩,y,h2,h3⟩:=h;simp only[Prod.mk.injEq] at h3;obtain⟨rfl,rfl⟩:=h3;obtain⟨ei,hu,_,he⟩:=FE hc;obtain⟨ii,z,k1,_,k2,_⟩:=(hC.eY _ _ he).info;obtain⟨g1,g2,rfl⟩:=Xa h2;have ho:=hm.aw id;unfold ay at hx;rw[e1] at hx ho;obtain⟨h0,hx⟩:=hx;rcases hx (zj h1) with ⟨hn,rfl⟩|⟨hn,cap,rfl,e3,e4⟩
    ·rw[ho.2.1 hn] at g2;simp at g2;omega
    ·refine⟨rfl,_,Xc hu k1 (a:=bare (φ id)) (LP e4.1 om) g1 g2,?_⟩;unfold ay;rw[e1,k2];exact⟨h0,fun _=>⟨by omega,by simp[j9,bare]⟩⟩
   ·cases h
  ·rename_i id ver p cp;split at h
   ·rename_i e aC fr s e1;rw[dX,ou,ze] at h;obtain⟨⟨h1,hc⟩,y,h2,h3⟩:=h;simp only[Prod.mk.injEq] at h3;obtain⟨rfl,rfl⟩:=h3;obtain⟨ei,hu,_,he⟩:=FE hc;obtain⟨ii,z,k1,_,k2,_⟩:=(hC.eY _ _ he).info;obtain⟨g1,g2,rfl⟩:=Xa h2;have ho:=hm.aw id;unfold ay at hx;rw[e1] at hx ho;obtain⟨h0,hx⟩:=hx;obtain⟨hp,hx,_⟩:=hx (zj h1);have Su:n<(p:Int):=by
     have:(lf.aH s.l p).length=p:=by simp[lf,aH,Nat.min_eq_left hp]
     omega
    rcases hx with ⟨hn,rfl⟩|⟨hn,cap,rfl,e3,e4⟩
    ·rw[ho.2.1 hn] at hp;simp at hp;omega
    ·refine⟨rfl,_,Xc hu k1 (a:=bare (φ id)) (LP e4.1 om) g1 Su,?_⟩;unfold ay;rw[e1,k2];exact⟨h0,fun _=>⟨by omega,by simp[j9,bare]⟩⟩
   ·cases h
  ·rename_i id ver lo;split at h
   ·rename_i e aC fr s e1;rw[dX,ou,ze] at h;obtain⟨⟨h1,hc⟩,y,h2,h3⟩:=h;simp only[Prod.mk.injEq] at h3;obtain⟨rfl,rfl⟩:=h3;obtain⟨ei,hu,_,he⟩:=FE hc;obtain⟨ii,z,k1,_,k2,_⟩:=(hC.eY _ _ he).info;have h2:aP (bJ 0 n) (cD s.l (bS lo n)) none=some y:=h2;have hf:0<=n:=by
     cases h:bJ 0 n with
     |true=>exact zI h
     |false=>rw[h] at h2;cases h2
    have h2:cD s.l (bS lo n)=some y:=by have:bJ 0 n=true:=zt hf;rw[this] at h2;exact h2
    obtain⟨g1,g2,rfl⟩:=Xa h2;unfold bS at g1 g2;have ho:=hm.aw id;unfold ay at hx;rw[e1] at hx ho;obtain⟨h0,hx⟩:=hx;obtain⟨kk,rfl,hk,hx⟩:=hx (zj h1);rcases hx with ⟨hn,rfl⟩|⟨hn,cap,rfl,e3⟩
    ·rw[ho.2.1 hn] at g2;simp at g2;omega
    ·have hj:cap≠0:=om
     rw[if_neg hj];refine⟨rfl,_,Xc hu k1 (a:=⟨(φ id).block,(φ id).off+kk*aM e,none⟩) rfl hf (show n<((s.l.length-kk:Nat):Int) by omega),?_⟩;unfold ay;rw[e1,k2];have e4:(bS (kk:Int) n).toNat=kk+n.toNat:=by unfold bS;omega
     refine⟨h0,fun _=>⟨by rw[e4];omega,?_⟩⟩;rw[e4,Nat.add_mul];simp[j9,Nat.add_assoc]
   ·cases h
  ·rename_i id;split at h
   ·rename_i e fr s e1;split at h
    ·rename_i m e' ha;rw[dX,ou] at h;obtain⟨h1,y,h2,h3⟩:=h;simp only[Prod.mk.injEq] at h3;obtain⟨rfl,rfl⟩:=h3;have:=zF (Se h1);subst this;obtain⟨ei,hu,_,he⟩:=ql2 ha;obtain⟨ii,z,k1,_,k2,_⟩:=(hC.eY _ _ he).info;obtain⟨q,h3,h4⟩:=FG h2;obtain⟨g1,g2,rfl⟩:=Xa h4;obtain⟨_,h5,_⟩:=Xb h3;have h5:n+1<=(m:Int):=h5;unfold ay at hx;rw[e1] at hx;have:=hx rfl;subst this;refine⟨rfl,_,qbz hu k1 rfl g1 (by show n<(m:Int);omega),?_⟩;unfold ay;rw[e1,k2];exact⟨Nat.le_refl _,fun _=>⟨by omega,by simp[j9]⟩⟩
    ·cases h
   ·cases h
  ·cases h
def zbg(hm:MRel C X φ o w){t ty:TypeId}{ts:List TypeId}{x:V}{z:Value}{v:V}{u:List (Nat×Obj)}(hx:ay φ o (aj X φ o w) w x z)(h:(zfg lf C o t x).aN v u):u=[]/\r9 C.P φ o (aj X φ o w) w v (Builtin.len_ (t::ts).toArray ty #[z]):=by
 have bd:∀n:Nat,n<=cv->gE .i64 (n:Int):=by intro n hn;unfold cv at hn;unfold gE IntKind.min IntKind.max;simp[IntKind.signed,IntKind.bits];omega
 unfold zfg at h;split at h
 ·rename_i hd;have hu:=ng hd;split at h
  ·rename_i l;rw[dW] at h;obtain⟨rfl,rfl⟩:=h;obtain⟨s,rfl,rfl,hs⟩:=rZ hx;exact⟨rfl,goInt (s.data.toList.map fun b=>(b.toNat:Int)).length,by simp[Builtin.len_,run_underlying hu],nf (bd _ (by simpa using hs))⟩
  ·cases h
 ·rename_i e hd;have hu:=ng hd;split at h
  ·rename_i e s;rw[dW] at h;obtain⟨rfl,rfl⟩:=h;obtain⟨h1,h2⟩:=Kx hx;refine⟨rfl,goInt s.l.length,?_,nf (bd _ h1)⟩;rcases h2 with ⟨_,h3,rfl⟩|⟨_,a,cap,ec,rfl,_⟩
   ·simp[Builtin.len_,run_underlying hu,h3]
   ·simp[Builtin.len_,run_underlying hu]
  ·rw[dW] at h;obtain⟨rfl,rfl⟩:=h;have:z=.slice none 0 0:=hx;subst this;exact⟨rfl,goInt 0,by simp[Builtin.len_,run_underlying hu],nf (bd 0 (by unfold cv;omega))⟩
  ·split at h
   ·rename_i e s he;rw[dW] at h;obtain⟨rfl,rfl⟩:=h;obtain⟨⟨h1,h2⟩,_⟩:=W4 hm.aw hx he;refine⟨rfl,goInt s.l.length,?_,nf (bd _ h1)⟩;rcases h2 with ⟨_,h3,rfl⟩|⟨_,a,cap,ec,rfl,_⟩
    ·simp[Builtin.len_,run_underlying hu,h3]
    ·simp[Builtin.len_,run_underlying hu]
   ·cases h
 ·rename_i n e hd;have hu:=ng hd;rw[dX,dW] at h;obtain⟨h1,rfl,rfl⟩:=h;have h1:=zD h1;refine⟨rfl,goInt n,?_,nf (bd n (by unfold cv;omega))⟩;simp[Builtin.len_,run_underlying hu]
 ·cases h
end
section
variable {P:Program} {C:Cx} {X:Nat→Prop} {φ:Nat→Addr} {o:Nat→Obj} {w:World} {imm:Nat→Prop}
def dY(C:Cx)(X:Nat->Prop)(φ:Nat->Addr)(o:Nat->Obj)(w:World)(v:V)(u:List (Nat×Obj))(s:Sem Value):Prop:=∃val w' φ',s.run C.P w=.ok val w'/\Comes C X φ φ' o u w w' v val
def dY.aZ(hm:MRel C X φ o w){v:V}{u:List (Nat×Obj)}{s:Sem Value}(h:u=[]/\r9 C.P φ o (aj X φ o w) w v s):dY C X φ o w v u s:=by obtain⟨rfl,val,h1,h2⟩:=h;exact⟨val,w,φ,h1,.same hm h2⟩
def B6(φ:Nat->Addr)(o:Nat->Obj)(imm:Nat->Prop)(w:World):Option V->Option Value->Prop
 |none,none=>True
 |some v,some z=>ay φ o imm w v z
 |_,_=>False
def xC{d a:Int}{h:Option V}{z:Option Value}(hb:bd d h=some a)(hr:B6 φ o imm w h z):(z=none/\a=d)\/∃k,z=some (.int k a):=by
 cases h with
 |none=>cases z with
  |none=>exact .inl ⟨rfl,(zF hb).symm⟩
  |some _=>exact hr.elim
 |some v=>cases z with
  |none=>exact hr.elim
  |some z=>
   simp only[bd] at hb;split at hb
   ·rename_i k n e;injection hb with hb;subst hb;exact .inr ⟨k,congrArg some (Ss e hr).1⟩
   ·cases hb
def L0{isS:Bool}{len cap:Nat}{lo hi:Option Value}{a b:Int}(hc:len<=cap)(ha:(lo=none/\a=0)\/∃k,lo=some (.int k a))(hb:(hi=none/\b=len)\/∃k,hi=some (.int k b))(h0:0<=a)(h1:a<=b)(h2:b<=len):(Instr.sliceBounds isS len cap lo hi none).run P w=.ok (a.toNat,b.toNat,cap) w:=by
 have h3:b<=(cap:Int):=om
 have h4:0<=b:=om
 have h5:(b.toNat:Int)=b:=om
 rcases ha with ⟨rfl,rfl⟩|⟨k,rfl⟩<;>rcases hb with ⟨rfl,rfl⟩|⟨k',rfl⟩
 ·simp[Instr.sliceBounds]
 ·simp[Instr.sliceBounds,Instr.sliceBound,asIntOf,h3,h4]
 ·simp[Instr.sliceBounds,Instr.sliceBound,asIntOf,h0,h1]
 ·simp[Instr.sliceBounds,Instr.sliceBound,asIntOf,h0,h1,h3,h4,h5]
def Xd{len cap:Nat}{k k':IntKind}{b:Int}(h0:0<=b)(h1:b<=cap):(Instr.sliceBounds true len cap none (some (.int k b)) (some (.int k' b))).run P w=.ok (0,b.toNat,b.toNat) w:=by
 have h5:(b.toNat:Int)=b:=om
 simp[Instr.sliceBounds,Instr.sliceBound,asIntOf,h0,h1,h5]
def zfv{a:Addr}{n m:Nat}(h:room w a n)(hm:m<=n):room w a m:=by obtain⟨c,el,lo,hi,h1,h2,h3⟩:=h;exact⟨c,el,lo,hi,h1,by omega,by omega⟩
def mU(fr:Nat)(o:Nat->Obj)(u:List (Nat×Obj)):Prop:=∀p,p∈u->fr<=p.1->p.1<fr+16->o p.1=.none
def Comes.B7(hm:MRel C X φ o w){fr:Nat}(hg:o fr=.none){e:Ty}(he:e≠.int .u8){nil:Bool}{z:Value}(hz:(nil=true/\z=.slice none 0 0)\/(nil=false/\∃a:Addr,z=.slice (some a) 0 0)):∃φ',Comes C X φ φ' o [(fr,.vec e 0 false ⟨nil,[]⟩)] w w (.aY fr 0) z:=by
 have key:∀a:Addr,a.spot≠none->((nil=true/\z=.slice none 0 0)\/(nil=false/\z=.slice (some (bare a)) 0 0))->Comes C X φ (cy φ fr a) o [(fr,.vec e 0 false ⟨nil,[]⟩)] w w (.aY fr 0) z:=by
  intro a ha hz;have hc:∀i,i∈bW [(fr,Obj.vec e 0 false ⟨nil,[]⟩)]->i=fr:=fun i hi=>by simpa[bW] using hi
  have hf:aq o [(fr,Obj.vec e 0 false ⟨nil,[]⟩)] fr=.vec e 0 false ⟨nil,[]⟩:=eQ;have hx:∀i,i∈bW [(fr,Obj.vec e 0 false ⟨nil,[]⟩)]->aV (cy φ fr a i) (aq o [(fr,.vec e 0 false ⟨nil,[]⟩)] i)=true->False:=fun i hi hx=>by rw[hc i hi,hf,eQ] at hx;exact ha (Gm hx).2.2
  refine Comes.make hm (Nat.le_refl _) (fun _ _ _=>rfl) (fun id hk=>jI fun e=>hk (by rw[e];exact zg ..)) (fun id _ hk=>jI fun e=>hk (by rw[e];exact zg ..)) (fun i hi=>?_) (fun i hi h=>(hx i hi h).elim) (fun i j hi hj h1 _ _ _=>(hx i hi h1).elim) (fun h1 h2 h3 i hi=>?_) (fun i hi=>?_) (fun _ _ _=>?_)
  ·rw[hc i hi,hg];trivial
  ·rw[hc i hi,hf];exact⟨Nat.zero_le _,fun _=>rfl,fun _=>.inr ⟨by rw[eQ];exact ha,rfl,he⟩⟩
  ·rw[hc i hi,hf];exact fun h=>absurd h he
  ·unfold ay;rw[hf,eQ];refine⟨Nat.le_refl _,fun _=>?_⟩;rcases hz with ⟨h1,h2⟩|⟨h1,h2⟩
   ·exact .inl ⟨h1,h2⟩
   ·exact .inr ⟨h1,0,h2,Nat.le_refl _,fun _=>rfl,fun _ h=>absurd h ha⟩
 rcases hz with ⟨h1,h2⟩|⟨h1,a,h2⟩
 ·exact⟨_,key ⟨0,0,some 0⟩ (by simp) (.inl ⟨h1,h2⟩)⟩
 ·exact⟨_,key (mark a) (z5x a) (.inr ⟨h1,by rw[z5w];exact h2⟩)⟩
def zbh{e:Ty}{l:List (den e)}{ec:List Value}{a b:Nat}(hb:b<=l.length)(hc:a<=b)(h:bR (aE imm w e) l ec):bR (aE imm w e) ((l.take b).drop a) ((ec.drop (a*aM e)).take ((b-a)*aM e)):=by have h1:=(yP a om h).2;have h2:=(yP (b-a) (by simp;omega) h1).1;rw[List.drop_take];exact h2
def z03{t:TypeId}{e:Ty}(hC:cV C){ei:TypeId}(hu:C.P.underlying t=some (.slice ei))(he:C.ty ei=some e){s:Sl (den e)}{z:Value}(hx:ay φ o imm w (.d (.sl e) s) z){lo hi:Option Value}{a b:Int}{m:List (den e)}(hk:(lo=none/\a=0)\/∃k,lo=some (.int k a))(hg:(hi=none/\b=s.l.length)\/∃k,hi=some (.int k b))(hm:cI s.l a b=some m):∃val,(Instr.sliceAt t z lo hi none).run C.P w=.ok val w/\ay φ o imm w (.d (.sl e) (⟨s.nil,m⟩:Sl (den e))) val:=by
 obtain⟨h0,h1,h2,rfl⟩:=que hm;obtain⟨ii,zz,k1,_,k2,_⟩:=(hC.eY _ _ he).info;obtain⟨hl,hs⟩:=Kx hx;have hf:((s.l.take b.toNat).drop a.toNat).length=b.toNat-a.toNat:=by simp;omega
 rcases hs with ⟨g1,g2,rfl⟩|⟨g1,ad,cap,ec,rfl,g2,g3,g4,g5,g6⟩
 ·rw[g2] at h2;have e1:a=0:=by simp at h2;omega
  have e2:b=0:=by simp at h2;omega
  have hb:=L0 (P:=C.P) (w:=w) (isS:=true) (len:=0) (cap:=0) (Nat.le_refl _) hk (by rw[g2] at hg;exact hg) h0 h1 (by simpa using h2);refine⟨.slice none 0 0,?_,?_⟩
  ·simp[Instr.sliceAt,run_underlying hu,Instr.slice,hb,kl k1,e1,e2]
  ·exact⟨_,rfl,by simp[g2],.inl ⟨g1,by simp[g2],rfl⟩⟩
 ·have hb:=L0 (P:=C.P) (w:=w) (isS:=true) g6 hk hg h0 h1 h2;refine⟨.slice (some (if cap=a.toNat then ad else ad.add (a.toNat*aM e))) (b.toNat-a.toNat) (cap-a.toNat),?_,?_⟩
  ·simp[Instr.sliceAt,run_underlying hu,Instr.slice,hb,kl k1,k2];split<;>rfl
  ·refine⟨_,rfl,by rw[hf];omega,.inr ⟨g1,?_⟩⟩;rw[hf];by_cases hc:cap=a.toNat
   ·rw[if_pos hc];have e1:(s.l.take b.toNat).drop a.toNat=[]:=zK (by rw[hf];omega);exact⟨ad,_,[],rfl,fun h=>g2 om,fun h=>absurd e1 h,by rw[e1];rfl,fun j hj=>absurd hj (by simp),by omega⟩
   ·rw[if_neg hc,vu (g2 om)];exact⟨_,_,_,rfl,fun _=>rfl,fun h=>g3 (fun e=>h (by rw[e];simp)),zbh om om g4,QU _ _ g5,by omega⟩
def z2x(hC:cV C)(hm:MRel C X φ o w){t:TypeId}{x:V}{z:Value}{lo hi mx:Option V}{FH Sv Xe:Option Value}{v:V}{u:List (Nat×Obj)}(hx:ay φ o (aj X φ o w) w x z)(ht:B6 φ o (aj X φ o w) w lo FH)(hw:B6 φ o (aj X φ o w) w hi Sv)(hz:B6 φ o (aj X φ o w) w mx Xe){fr:Nat}(h:(qxc lf C o fr t x lo hi mx).aN v u)(hf:mU fr o u):dY C X φ o w v u (Instr.sliceAt t z FH Sv Xe):=by
 have hk:mx=none->Xe=none:=by
  rintro rfl;cases Xe with
  |none=>rfl
  |some _=>exact hz.elim
 unfold qxc at h;split at h
 ·rename_i l;have:=hk rfl;subst this;split at h
  ·rename_i a b ha hb;rw[dX,ou] at h;obtain⟨h1,y,h2,h3⟩:=h;simp only[Prod.mk.injEq] at h3;obtain⟨rfl,rfl⟩:=h3;refine dY.aZ hm ⟨rfl,?_⟩;obtain⟨s,rfl,rfl,hs⟩:=rZ hx;have h1:=zj h1;have hu:C.P.underlying t=some .string:=by unfold WE at h1;split at h1<;>first|(rename_i e;exact ng e)|cases h1
   obtain⟨h0,h1,h4,rfl⟩:=que h2;have hA:(s.data.toList.map fun b=>(b.toNat:Int)).length=s.size:=by simp
   rw[hA] at h4;have e1:lf.n (s.data.toList.map fun b=>(b.toNat:Int))=(s.size:Int):=by simp[lf,ae]
   rw[e1] at hb;have hb:=L0 (P:=C.P) (w:=w) (isS:=false) (Nat.le_refl _) (xC ha ht) (xC hb hw) h0 h1 h4;refine⟨.string (s.extract a.toNat b.toNat),?_,LR ?_ ?_⟩
   ·simp[Instr.sliceAt,run_underlying hu,Instr.slice,hb]
   ·rw[ByteArray.data_extract,Array.toList_extract,List.extract_eq_take_drop,List.map_take,List.map_drop,List.drop_take]
   ·rw[ByteArray.size_extract];omega
  ·cases h
 ·rename_i e s;have:=hk rfl;subst this;split at h
  ·rename_i a b ha hb;rw[dX,ou] at h;obtain⟨h1,y,h2,h3⟩:=h;simp only[Prod.mk.injEq] at h3;obtain⟨rfl,rfl⟩:=h3;obtain⟨ei,hu,_,he⟩:=FE h1;obtain⟨val,g1,g2⟩:=z03 hC hu he hx (xC ha ht) (xC hb hw) h2;exact dY.aZ hm ⟨rfl,val,g1,g2⟩
  ·cases h
 ·rename_i e s _;split at h
  ·rename_i b c hb hc;rw[dX,ou,ze] at h;obtain⟨⟨h1,hJ⟩,y,h2,h3⟩:=h;simp only[Prod.mk.injEq] at h3;obtain⟨rfl,rfl⟩:=h3;have hF:e≠.int .u8:=fun h=>by subst h;cases hJ
   have hG:o fr=.none:=hf _ (zg ..) (Nat.le_refl _) (by show fr<fr+16;omega);have h2:aP (ag b 0) (aP (ag c 0) (some ()) none) none=some y:=h2;have hK:b=0:=by
    cases h:ag b 0 with
    |true=>simpa[ag] using h
    |false=>rw[h] at h2;cases h2
   have hL:c=0:=by
    cases h:ag c 0 with
    |true=>simpa[ag] using h
    |false=>rw[h] at h2;cases hh:ag b 0<;>rw[hh] at h2<;>cases h2
   subst hK hL;have hq:FH=none:=by
    cases FH with
    |none=>rfl
    |some _=>exact ht.elim
   subst hq;obtain⟨kb,rfl⟩:=(xC hb hw).resolve_left fun h=>by cases h.2
   obtain⟨kc,rfl⟩:=(xC hc hz).resolve_left fun h=>by cases h.2
   obtain⟨ei,hu,_,he⟩:=FE h1;obtain⟨ii,zz,k1,_,k2,_⟩:=(hC.eY _ _ he).info;obtain⟨hl,hs⟩:=Kx hx;rcases hs with ⟨g1,g2,rfl⟩|⟨g1,ad,cap,ec,rfl,g2,g3,g4,g5,g6⟩
   ·obtain⟨φ',hh⟩:=Comes.B7 hm hG hF (nil:=s.nil) (z:=.slice none 0 0) (.inl ⟨g1,rfl⟩);have hg:=Xd (P:=C.P) (w:=w) (len:=0) (cap:=0) (k:=kb) (k':=kc) (b:=0) (Int.le_refl _) (Int.le_refl _);refine⟨.slice none 0 0,w,φ',?_,hh⟩;simp[Instr.sliceAt,run_underlying hu,Instr.slice,hg,kl k1]
   ·obtain⟨φ',hh⟩:=Comes.B7 hm hG hF (nil:=s.nil) (z:=.slice (some ad) 0 0) (.inr ⟨g1,ad,rfl⟩);have hg:=Xd (P:=C.P) (w:=w) (len:=s.l.length) (cap:=cap) (k:=kb) (k':=kc) (b:=0) (Int.le_refl _) om;refine⟨.slice (some ad) 0 0,w,φ',?_,hh⟩;simp[Instr.sliceAt,run_underlying hu,Instr.slice,hg,kl k1]
  ·cases h
 ·rename_i id ver _;split at h
  ·rename_i e aC fz s e1;rw[dX,ze] at h;obtain⟨⟨h1,hB⟩,h⟩:=h;obtain⟨ei,hu,_,he⟩:=FE hB;obtain⟨ii,zz,k1,_,k2,_⟩:=(hC.eY _ _ he).info;split at h
   ·rename_i b c hb hc;rw[ou] at h;obtain⟨p,h2,h3⟩:=h;simp only[Prod.mk.injEq] at h3;obtain⟨rfl,rfl⟩:=h3;obtain⟨p',h2,h4⟩:=FG h2;obtain⟨h0,h3,rfl⟩:=Xb h2;have h3:b<=(s.l.length:Int):=h3;have h4:aP (ag b c) (some b.toNat) none=some p:=h4;have hM:b=c:=by
     cases h:ag b c with
     |true=>simpa[ag] using h
     |false=>rw[h] at h4;cases h4
    subst hM;have hp:p=b.toNat:=by
     have:ag b b=true:=by simp[ag]
     rw[this] at h4;exact(zF h4).symm
    subst hp;refine dY.aZ hm ⟨rfl,?_⟩;have ho:=hm.aw id;unfold ay at hx;rw[e1] at hx ho;obtain⟨hv,hx⟩:=hx;have hq:FH=none:=by
     cases FH with
     |none=>rfl
     |some _=>exact ht.elim
    subst hq;obtain⟨kb,rfl⟩:=(xC hb hw).resolve_left fun h=>by have:=h.2;omega
    obtain⟨kc,rfl⟩:=(xC hc hz).resolve_left fun h=>by have:=h.2;omega
    rcases hx (zj h1) with ⟨hn,rfl⟩|⟨hn,cap,rfl,e3,e5,e4⟩
    ·have hy:=ho.2.1 hn;rw[hy] at h3;have e2:b=0:=by simp at h3;omega
     subst e2;have hg:=Xd (P:=C.P) (w:=w) (len:=0) (cap:=0) (k:=kb) (k':=kc) (b:=0) (Int.le_refl _) (Int.le_refl _);refine⟨.slice none 0 0,?_,?_⟩
     ·simp[Instr.sliceAt,run_underlying hu,Instr.slice,hg,kl k1]
     ·unfold ay
      grind
    ·have hg:=Xd (P:=C.P) (w:=w) (len:=s.l.length) (cap:=cap) (k:=kb) (k':=kc) h0 om;refine⟨.slice (some (bare (φ id))) b.toNat b.toNat,?_,?_⟩
     ·simp[Instr.sliceAt,run_underlying hu,Instr.slice,hg,kl k1,Addr.add,bare]
     ·unfold ay;rw[e1];refine⟨hv,fun _=>⟨by omega,.inr ⟨hn,b.toNat,rfl,Nat.le_refl _,fun h=>?_,fun h1 h2=>?_⟩,fun _ a m c h=>?_⟩⟩
      ·have:=e5 h;omega
      ·exact zfv (e4 h1 h2) (Nat.mul_le_mul_right _ om)
      ·injection h with _ _ h;exact h.symm
   ·cases h
  ·cases h
 ·rename_i id ver;have:=hk rfl;subst this;split at h
  ·rename_i e aC fr s e1;rw[dX,ze] at h;obtain⟨⟨h1,hB⟩,h⟩:=h;obtain⟨ei,hu,_,he⟩:=FE hB;obtain⟨ii,zz,k1,_,k2,_⟩:=(hC.eY _ _ he).info;split at h
   ·split at h
    ·rename_i b hb;rw[ou] at h;obtain⟨p,h2,h3⟩:=h;simp only[Prod.mk.injEq] at h3;obtain⟨rfl,rfl⟩:=h3;obtain⟨h0,h3,rfl⟩:=Xb h2;have h3:b<=(s.l.length:Int):=h3;refine dY.aZ hm ⟨rfl,?_⟩;have ho:=hm.aw id;unfold ay at hx;rw[e1] at hx ho;obtain⟨hv,hx⟩:=hx;have hq:FH=none:=by
      cases FH with
      |none=>rfl
      |some _=>exact ht.elim
     subst hq;rcases hx (zj h1) with ⟨hn,rfl⟩|⟨hn,cap,rfl,e3,e4⟩
     ·have hy:=ho.2.1 hn;rw[hy] at h3;have e2:b=0:=by simp at h3;omega
      have hH:=xC hb hw;have e5:lf.n s.l=0:=by rw[hy];rfl
      rw[e5] at hH;have hg:=L0 (P:=C.P) (w:=w) (isS:=true) (len:=0) (cap:=0) (lo:=none) (hi:=Sv) (a:=0) (b:=b) (Nat.le_refl _) (.inl ⟨rfl,rfl⟩) hH (Int.le_refl _) om om;refine⟨.slice none 0 0,?_,?_⟩
      ·simp[Instr.sliceAt,run_underlying hu,Instr.slice,hg,kl k1,e2]
      ·unfold ay;rw[e1,e2];exact⟨hv,fun _=>⟨Nat.zero_le _,.inl ⟨hn,rfl⟩,by simp⟩⟩
     ·have hg:=L0 (P:=C.P) (w:=w) (isS:=true) (lo:=none) (a:=0) e3 (.inl ⟨rfl,rfl⟩) (xC hb hw) (Int.le_refl _) h0 h3;refine⟨.slice (some (bare (φ id))) b.toNat cap,?_,?_⟩
      ·simp[Instr.sliceAt,run_underlying hu,Instr.slice,hg,kl k1,Addr.add,bare]
      ·unfold ay;rw[e1];exact⟨hv,fun _=>⟨by omega,.inr ⟨hn,cap,rfl,by omega,e4⟩,by simp⟩⟩
    ·cases h
   ·rename_i Fw;split at h
    ·split at h
     ·rename_i a ha;rw[ou] at h;obtain⟨p,h2,h3⟩:=h;simp only[Prod.mk.injEq] at h3;obtain⟨rfl,rfl⟩:=h3;obtain⟨h0,h3,_⟩:=Xb h2;have h3:a<=(s.l.length:Int):=h3;refine dY.aZ hm ⟨rfl,?_⟩;have ho:=hm.aw id;unfold ay at hx;rw[e1] at hx ho;obtain⟨hv,hx⟩:=hx;have hD:Sv=none:=by
       cases Sv with
       |none=>rfl
       |some _=>exact hw.elim
      subst hD;have hN:a.toNat<=s.l.length:=om
      have hO:a=((a.toNat:Nat):Int):=om
      rcases hx (zj h1) with ⟨hn,rfl⟩|⟨hn,cap,rfl,e3,e4⟩
      ·have hy:=ho.2.1 hn;rw[hy] at h3;have e2:a=0:=by simp at h3;omega
       subst e2;have hg:=L0 (P:=C.P) (w:=w) (isS:=true) (len:=0) (cap:=0) (lo:=FH) (hi:=none) (a:=0) (b:=0) (Nat.le_refl _) (xC ha ht) (.inl ⟨rfl,rfl⟩) (Int.le_refl _) (Int.le_refl _) (Int.le_refl _);refine⟨.slice none 0 0,?_,?_⟩
       ·simp[Instr.sliceAt,run_underlying hu,Instr.slice,hg,kl k1]
       ·unfold ay;rw[e1];exact⟨hv,fun _=>⟨0,rfl,Nat.zero_le _,.inl ⟨hn,rfl⟩⟩⟩
      ·have hg:=L0 (P:=C.P) (w:=w) (isS:=true) (len:=s.l.length) (cap:=cap) (lo:=FH) (hi:=none) (a:=a) (b:=s.l.length) e3 (xC ha ht) (.inl ⟨rfl,rfl⟩) h0 h3 (Int.le_refl _);refine⟨.slice (some (if cap-a.toNat=0 then bare (φ id) else⟨(φ id).block,(φ id).off+a.toNat*aM e,none⟩)) (s.l.length-a.toNat) (cap-a.toNat),?_,?_⟩
       ·simp[Instr.sliceAt,run_underlying hu,Instr.slice,hg,kl k1,k2];by_cases hc:cap=a.toNat
        ·rw[if_pos hc,if_pos om]
        ·rw[if_neg hc,if_neg om,vu (LP e4.1 om)];rfl
       ·unfold ay;rw[e1];exact⟨hv,fun _=>⟨a.toNat,hO,hN,.inr ⟨hn,cap-a.toNat,rfl,by omega⟩⟩⟩
     ·cases h
    ·split at h
     ·rename_i a b ha hb;rw[ou] at h;obtain⟨y,h2,h3⟩:=h;simp only[Prod.mk.injEq] at h3;obtain⟨rfl,rfl⟩:=h3;have hE:=Sj hm [id];have e2:eG o [id]=[(id,.vec e aC true s)]:=by simp[eG,e1]
      have hP:=hE.keeps _ _ hx;have hQ:yR (aq o (eG o [id])) (.aY id ver):=W5 (fun j hj=>by
       unfold fq at hj;split at hj
       ·cases hj
       ·exact hj)
      have hI:py lf o (.sl e) (.aY id ver)=some s:=by
       simp only[py,e1,h1,cond_true];unfold iN;split
       all_goals grind
      rw[<-KA [id]] at hI;have hd:=qxr hE.mem hP hQ hI;obtain⟨val,g1,g2⟩:=z03 hC hu he hd (xC ha ht) (xC hb hw) h2;refine⟨val,w,φ,g1,?_⟩;rw[<-e2];exact {hE with val:=g2}
     ·cases h
  ·cases h
 ·cases h
def zbi{c:Bool}{a b:V}{za zb:Value}(ha:ay φ o imm w a za)(hb:ay φ o imm w b zb):ay φ o imm w (zfi lf c a b) (if c then za else zb):=by
 unfold zfi;split
 ·rename_i t a' t' b';split
  ·rename_i b'' e;obtain⟨rfl,rfl⟩:=B5 e;cases c
   ·exact hb
   ·exact ha
  grind
 grind
def zbj{x:V}{z:Value}{v:V}{u:List (Nat×Obj)}(hx:ay φ o imm w x z)(h:(QC o x).aN v u):u=[]/\v=x/\((∃a,z=.pointer (some a))\/(∃f p c,z=.func (.func f) p c)):=by
 unfold QC at h;split at h
 ·rw[dX,dW] at h;obtain⟨h1,rfl,rfl⟩:=h;exact⟨rfl,rfl,.inl (qnr hx h1)⟩
 ·rw[dW] at h;obtain⟨rfl,rfl⟩:=h;obtain⟨a,cs,h1,_⟩:=hx
  grind
 ·rename_i id ver i path;split at h
  ·rename_i e1;rw[dX,dW] at h;obtain⟨h1,rfl,rfl⟩:=h;unfold ay at hx
   simp_all
  ·cases h
 ·rw[dW] at h;obtain⟨rfl,rfl⟩:=h;obtain⟨c,h1,_⟩:=hx;exact⟨rfl,rfl,.inr ⟨_,_,_,h1⟩⟩
 ·cases h
end
def ov(l:List Value)(off:Nat)(vs:List Value):List Value:=l.take off++vs++l.drop (off+vs.length)
def zil(l:List Value)(off:Nat):ov l off []=l:=by simp[ov]
def z68(l:List Value)(off:Nat)(v:Value)(vs:List Value)(h:off+(vs.length+1)<=l.length):ov (l.set off v) (off+1) vs=ov l off (v::vs):=list_seg_step l off v vs h
def qnv(l:List Value)(off:Nat)(vs:List Value)(h:off+vs.length<=l.length):(ov l off vs).length=l.length:=by simp[ov];omega
def z69:∀(vs:List Value) (off k:Nat) (cs:Array Value),off+k+vs.length<=cs.size->(vs.zipIdx k).foldl (fun cs p=>cs.setIfInBounds (off+p.2) p.1) cs=(ov cs.toList (off+k) vs).toArray
 |[],off,k,cs,_=>by simp[ov]
 |v::vs,off,k,cs,h=>by simp only[List.zipIdx_cons,List.foldl_cons];rw[z69 vs off (k+1) _ (by simp at h ⊢;omega),Array.toList_setIfInBounds,<-Nat.add_assoc,z68];simp at h ⊢;omega
def quf(place:Nat->Option (Nat×Nat))(cells:Array Value)(i:Nat)(v:Value)(rest:List (Nat×Value)){off sz:Nat}(hp:place i=some (off,sz))(hs:v.cells.size=sz)(hb:off+sz<=cells.size):Instr.fill place cells ((i,v)::rest)=Instr.fill place (ov cells.toList off v.cells.toList).toArray rest:=by
 have e:(v.cells.zipIdx.foldl (fun cs p=>cs.setIfInBounds (off+p.2) p.1) cells)=(ov cells.toList off v.cells.toList).toArray:=by have:=z69 v.cells.toList off 0 cells (by simp;omega);simp only[Nat.add_zero] at this;rw[<-Array.foldl_toList,Array.toList_zipIdx];exact this
 simp only[Instr.fill,hp]
 grind
def z2y(w:World)(b i:Nat)(cs:Array Value)(t:TypeId)(fr:Nat×Nat)(v:Value)(hg:w.heap[b]?=some (.cells cs t fr)):w.setCell ⟨b,i,none⟩ v=w.setRow b (cs.setIfInBounds i v):=setCell_eq_setRow w b i cs t fr v hg
section
variable {P:Program} {C:Cx} {X:Nat→Prop} {φ φ':Nat→Addr} {o:Nat→Obj} {w w':World} {imm:Nat→Prop}
def Sw{b off lo hi:Nat}{t:TypeId}:∀(vs:List Value) (i:Nat) (cur:Array Value) (w:World),w.heap[b]?=some (.cells cur t (lo,hi))->off+i+vs.length<=cur.size->(hi<=lo\/hi<=off+i\/off+i+vs.length<=lo)->(∀v∈vs,v.oneCell'=true)->(storeCells ⟨b,off,none⟩ vs i).run P w=.ok () (w.setRow b (ov cur.toList (off+i) vs).toArray)
 |[],i,cur,w,hg,_,_,_=>by simp only[storeCells,zil,Array.toArray_toList];rw[setRow_self w b cur t (lo,hi) hg];rfl
 |v::rest,i,cur,w,hg,hl,hf,h1=>by
  have he:(⟨b,off,none⟩:Addr).add i=⟨b,off+i,none⟩:=vu rfl i;simp only[zu] at hl hf;have hk:off+i<cur.size:=om
  have hc:w.cell? ⟨b,off+i,none⟩=some cur[off+i]:=by simp[World.cell?,hg,hk]
  have hj:w.frozen? ⟨b,off+i,none⟩=false:=by simp only[World.frozen?,hg,Bool.and_eq_false_iff,decide_eq_false_iff_not];omega
  have hm:(store ((⟨b,off,none⟩:Addr).add i) v).run P w=.ok () (w.setRow b (cur.setIfInBounds (off+i) v)):=by rw[he,run_store P w _ v _ (h1 v (by simp)),hc];simp[hj,z2y w b (off+i) cur t (lo,hi) v hg]
  have ih:=Sw (off:=off) (lo:=lo) (hi:=hi) rest (i+1) (cur.setIfInBounds (off+i) v) (w.setRow b (cur.setIfInBounds (off+i) v)) (setRow_heap w b cur _ t _ hg) (by simp;omega) om (fun x hx=>h1 x (by simp[hx]));simp only[storeCells,Sem.run_bind,hm,Result.andThen_ok,ih,setRow_setRow];rw[Array.toList_setIfInBounds,show off+(i+1)=off+i+1 by omega,z68 _ _ _ _ (by simp;omega)]
def Xf{b:Nat}{cur:Array Value}{t:TypeId}{fr:Nat×Nat}(h:w.heap[b]?=some (.cells cur t fr))(cs:Array Value):(w.setRow b cs).heap[b]?=some (.cells cs t fr):=setRow_heap w b cur cs t fr h
def Xg{e:Ty}{l m:List (den e)}{cs ds:List Value}{i:Nat}(hi:i+m.length<=l.length)(h:bR (aE imm w e) l cs)(h':bR (aE imm w e) m ds):bR (aE imm w e) (l.take i++m++l.drop (i+m.length)) (ov cs (i*aM e) ds):=by unfold ov;have h1:=(yP i om h).1;have h2:=(yP (i+m.length) hi h).2;rw[qu h',<-Nat.add_mul];exact QL (QL h1 h') h2
def L1:∀(t:Ty) (x:den t) (cs:List Value),aE imm w t x cs->∀v,v∈cs->v.oneCell'=true
 |.unit,_,_,h,v,hv=>by simp[aE] at h;subst h;cases hv
 |.pair a b,x,_,⟨c,d,e,h1,h2⟩,v,hv=>by
  subst e;rcases zH.1 hv with hv|hv
  ·exact L1 a x.1 c h1 v hv
  ·exact L1 b x.2 d h2 v hv
 |.st p,x,cs,h,v,hv=>L1 p x cs h v hv
 |.arr n e,l,cs,⟨_,h2⟩,v,hv=>by
  have key:∀(l:List (den e)) (cs:List Value),bR (aE imm w e) l cs->∀v,v∈cs->v.oneCell'=true:=by
   intro l
   induction l with
   |nil=>intro cs h v hv;simp[bR] at h;subst h;cases hv
   |cons y l ih=>
    intro cs ⟨c,d,e1,h3,h4⟩ v hv;subst e1;rcases zH.1 hv with hv|hv
    ·exact L1 e y c h3 v hv
    ·exact ih d h4 v hv
  exact key l cs h2 v hv
 |.int _,_,_,h,v,hv=>by obtain⟨h,_⟩:=h;subst h;simp at hv;subst hv;rfl
 |.bool,_,_,h,v,hv=>by have h:_=[_]:=h;subst h;simp at hv;subst hv;rfl
 |.fG,_,_,h,v,hv=>by have h:_=[_]:=h;subst h;simp at hv;subst hv;rfl
 |.dG,_,_,h,v,hv=>by have h:_=[_]:=h;subst h;simp at hv;subst hv;rfl
 |.str,_,_,⟨s,h,_⟩,v,hv=>by subst h;simp at hv;subst hv;rfl
 |.sl e,_,_,⟨x,h,_,h2⟩,v,hv=>by subst h;simp at hv;subst hv;rcases h2 with ⟨_,_,rfl⟩|⟨_,a,cap,ec,rfl,_⟩<;>rfl
def Xh{e:Ty}:∀{l:List (den e)} {cs:List Value},bR (aE imm w e) l cs->∀v,v∈cs->v.oneCell'=true
 |[],cs,h,v,hv=>by simp[bR] at h;subst h;cases hv
 |y::l,cs,⟨c,d,e1,h3,h4⟩,v,hv=>by
  subst e1;rcases zH.1 hv with hv|hv
  ·exact L1 e y c h3 v hv
  ·exact Xh h4 v hv
def Comes.fresh(hm:MRel C X φ o w){fr:Nat}{B:Go.Obj}{w':World}(he:w'.heap=w.heap.push B)(x:Obj){ns:List (Nat×Obj)}(hf:∀p,p∈ns->(∃e,p.2=.vec e 0 false ⟨true,[]⟩)/\p.1≠fr/\o p.1=.none)(hs:∀w',Up w w' (φ fr) ⟨w.heap.size,0,none⟩ (o fr) x){v:V}{z:Value}(ht:(∀b,aj X φ o w b->aj X (cy φ fr ⟨w.heap.size,0,none⟩) (aq o ((fr,x)::ns)) w' b)->(∀b,aj X φ o w b->w'.heap[b]?=w.heap[b]?)->(∀y z,ay φ o (aj X φ o w) w y z->ay (cy φ fr ⟨w.heap.size,0,none⟩) (aq o ((fr,x)::ns)) (aj X (cy φ fr ⟨w.heap.size,0,none⟩) (aq o ((fr,x)::ns)) w') w' y z)->rY (cy φ fr ⟨w.heap.size,0,none⟩) (aq o ((fr,x)::ns)) (aj X (cy φ fr ⟨w.heap.size,0,none⟩) (aq o ((fr,x)::ns)) w') w' fr x)(hg:iT C w' ⟨w.heap.size,0,none⟩ x)(hl:aq o ((fr,x)::ns) fr=x->ay (cy φ fr ⟨w.heap.size,0,none⟩) (aq o ((fr,x)::ns)) (aj X (cy φ fr ⟨w.heap.size,0,none⟩) (aq o ((fr,x)::ns)) w') w' v z)(still:xB w w':=by exact⟨rfl,rfl⟩):
  Comes C X φ (cy φ fr ⟨w.heap.size,0,none⟩) o ((fr,x)::ns) w w' v z:=by
 have hn:∀(ns:List (Nat×Obj)) (o':Nat->Obj) (id:Nat),(∀p,p∈ns->∃e,p.2=.vec e 0 false ⟨true,[]⟩)->id∈bW ns->∃e,aq o' ns id=.vec e 0 false ⟨true,[]⟩:=by
  intro ns
  induction ns with
  |nil=>intro o' id _ h;cases h
  |cons p r ih=>
   obtain⟨i,y⟩:=p;intro o' id hf h;by_cases hr:id∈bW r
   ·exact ih _ _ (fun p hp=>hf p (zh _ hp)) hr
   ·simp only[bW,zk,hr,or_false] at h;subst h;show ∃e,aq (cy o' id y) r id=_;rw[iU hr,eQ]
    simp_all
 have hv:∀(ns:List (Nat×Obj)) id,id∈bW ns->∃p,p∈ns/\p.1=id:=by
  intro ns
  induction ns with
  |nil=>intro id h;cases h
  |cons p r ih=>
   intro id h;rcases zk.1 h with h|h
   all_goals grind
 have hq:fr∉bW ns:=fun h=>by grind
 have ho:aq o ((fr,x)::ns) fr=x:=by show aq (cy o fr x) ns fr=x;rw[iU hq,eQ]
 have hw:∀id,id∈bW ns->id≠fr:=fun id h e=>hq (e▸h);have hc:∀id,id∈bW ns->∃e,aq o ((fr,x)::ns) id=.vec e 0 false ⟨true,[]⟩:=fun id h=>hn ns _ id (fun p hp=>(hf p hp).1) h;have hu:∀id,id∈bW ns->o id=.none:=fun id h=>by grind
 refine Comes.make hm (by rw[he];simp) (fun b hb _=>by rw[he,Array.getElem?_push,if_neg (Nat.ne_of_lt hb)]) (fun id hk=>?_) (fun id _ hk=>?_) (fun id hk=>?_) (fun id hk hx=>?_) (fun i j hi hj hy hz _ _=>?_) (fun h1 h2 h3 id hk=>?_) (fun id hk=>?_) (fun h1 h2 h3=>hl ho) still
 ·exact jI fun e=>hk (e▸zg ..)
 ·exact jI fun e=>hk (e▸zg ..)
 ·rcases zk.1 hk with rfl|hk
  ·rw[eQ,ho];exact hs _
  ·rw[hu id hk];trivial
 ·rcases zk.1 hk with rfl|hk
  ·rw[eQ];exact .inl ⟨Nat.le_refl _,by rw[he];simp⟩
  ·obtain⟨e,h⟩:=hc id hk;rw[h] at hx;simp[aV,live] at hx
 ·have key:∀i a,i∈bW ((fr,x)::ns)->aV a (aq o ((fr,x)::ns) i)=true->i=fr:=fun i a hk hx=>by
   rcases zk.1 hk with h|hk
   ·exact h
   ·obtain⟨e,h⟩:=hc i hk;rw[h] at hx;simp[aV,live] at hx
  grind
 ·rcases zk.1 hk with rfl|hk
  ·grind
  ·obtain⟨e,h⟩:=hc id hk;rw[h];exact⟨Nat.zero_le _,fun _=>rfl,fun h=>by simp at h⟩
 ·rcases zk.1 hk with rfl|hk
  ·rw[ho,eQ];exact hg
  ·obtain⟨e,h⟩:=hc id hk;rw[h];exact fun _ h=>by simp at h
def Comes.write(hm:MRel C X φ o w){id:Nat}{w':World}(x:Obj)(hx:aV (φ id) x=true->aV (φ id) (o id)=true)(hl:w'.heap.size=w.heap.size)(he:∀b,¬(aV (φ id) (o id)=true/\(φ id).block=b)->w'.heap[b]?=w.heap[b]?)(hn:Up w w' (φ id) (φ id) (o id) x){v:V}{z:Value}(hf:(∀b,aj X φ o w b->aj X φ (aq o [(id,x)]) w' b)->(∀b,aj X φ o w b->w'.heap[b]?=w.heap[b]?)->(∀y z,ay φ o (aj X φ o w) w y z->ay φ (aq o [(id,x)]) (aj X φ (aq o [(id,x)]) w') w' y z)->rY φ (aq o [(id,x)]) (aj X φ (aq o [(id,x)]) w') w' id x)(hg:iT C w' (φ id) x)(hc:aq o [(id,x)] id=x->ay φ (aq o [(id,x)]) (aj X φ (aq o [(id,x)]) w') w' v z)(still:xB w w':=by exact⟨rfl,rfl⟩):Comes C X φ φ o [(id,x)] w w' v z:=by
 have hk:aq o [(id,x)] id=x:=eQ;have ho:∀i,i∈bW [(id,x)]->i=id:=fun i hi=>by simpa[bW] using hi
 refine Comes.make hm om (fun b _ hh=>he b fun⟨h1,h2⟩=>hh ⟨id,by simp[bW],h1,h2⟩) (fun _ _=>rfl) (fun _ _ _=>rfl) (fun i hi=>?_) (fun i hi h=>?_) (fun i j hi hj _ _ _ _=>?_) (fun h1 h2 h3 i hi=>?_) (fun i hi=>?_) (fun _ _ _=>hc hk) still
 all_goals grind
end
def z6a{z:Value}(h:z.oneCell'=true):z.cells=#[z]:=by cases z<;>first|rfl|(simp[Value.oneCell'] at h;done)
def qir{o:Nat->Obj}:∀{a b:List V},yH o (a++b)=true->yH o a=true/\yH o b=true
 |[],b,h=>⟨rfl,h⟩
 |x::a,b,h=>by simp only[List.cons_append,yH,ze] at h ⊢;obtain⟨h1,h2⟩:=qir h.2;exact⟨⟨h.1,h1⟩,h2⟩
section
variable {P:Program} {C:Cx} {X:Nat→Prop} {φ φ':Nat→Addr} {o o':Nat→Obj} {w w':World} {imm imm':Nat→Prop}
def qug{x:V}{z:Value}(hx:ay φ o imm w x z)(h:Qy o x=true):z.oneCell'=true:=by
 cases x<;>simp only[Qy] at h<;>try (cases h;done)
 ·rename_i t d;exact L1 t d [z] (qua h hx) z (zM.2 rfl)
 ·rename_i id ver;unfold ay at hx;split at h
  ·rename_i e;rw[e] at hx;rcases hx.2 (zj h) with ⟨_,rfl⟩|⟨_,cap,rfl,_⟩<;>rfl
  ·cases h
 ·rename_i id ver n cp;unfold ay at hx;split at h
  ·rename_i e;rw[e] at hx;rcases(hx.2 (zj h)).2.1 with ⟨_,rfl⟩|⟨_,cap,rfl,_⟩<;>rfl
  ·cases h
 ·rename_i id off;unfold ay at hx;split at h
  ·rename_i e;rw[e] at hx;simp only at hx;subst hx;rfl
  ·rename_i e;rw[e] at hx;have:=hx (zj h).symm;subst this;rfl
  ·cases h
 ·rename_i id ver i path;unfold ay at hx;split at h
  ·rename_i e;rw[e] at hx;have:=(hx.2 (zj h)).2;subst this;rfl
  ·cases h
 ·obtain⟨a,cs,rfl,_⟩:=hx;rfl
 ·have:z=.pointer none:=hx;subst this;rfl
 ·obtain⟨c,rfl,_⟩:=hx;rfl
 ·have:z=.nilFunc:=hx;subst this;rfl
 ·have:z=.nilIface:=hx;subst this;rfl
 ·have:z=.slice none 0 0:=hx;subst this;rfl
 ·rename_i id b;unfold ay at hx;split at h
  ·rename_i e;rw[e] at hx;simp only at hx;subst hx;cases b<;>rfl
  ·cases h
 ·rename_i id ver lo;unfold ay at hx;split at h
  ·rename_i e;rw[e] at hx;obtain⟨k,_,_,hx⟩:=hx.2 (zj h);rcases hx with ⟨_,rfl⟩|⟨_,cap,rfl,_⟩<;>rfl
  ·cases h
 ·rename_i id;unfold ay at hx;split at h
  ·rename_i e;rw[e] at hx;simp only at hx;subst hx;rfl
  ·cases h
 ·rename_i a k n;have hx:yQ imm w a k n z:=hx;rcases W2 a hx with ⟨rfl,_⟩|⟨_,_,rfl,_⟩<;>rfl
def ql3:∀{cs:List V} {zs:List Value},ck φ o imm w cs zs->yH o cs=true->∀z,z∈zs->z.oneCell'=true
 |[],zs,h,_,z,hz=>by simp[ck] at h;subst h;cases hz
 |x::l,zs,⟨y,r,e,h1,h2⟩,hs,z,hz=>by
  subst e;simp only[yH,ze] at hs;rcases zk.1 hz with rfl|hz
  ·exact qug h1 hs.1
  ·exact ql3 h2 hs.2 z hz
def zfw:∀(p:Ty) (x:den p) (cs:List Value),aE imm w p x cs->yH o (BS p x)=true->ck φ o imm w (BS p x) cs:=by
 have one:∀(t:Ty) (x:den t) (cs:List Value),lx t=true->aE imm w t x cs->ck φ o imm w [.d t x] cs:=by intro t x cs hs h;obtain⟨v,rfl,h2⟩:=qnu hs h;exact⟨v,[],rfl,h2,rfl⟩
 intro p
 induction p with
 |unit=>intro x cs h _;exact h
 |pair a b qv lA=>intro x cs ⟨c,d,e,h1,h2⟩ hs;subst e;obtain⟨g1,g2⟩:=qir (a:=BS a x.1) (b:=BS b x.2) hs;exact KD (qv _ _ h1 g1) (lA _ _ h2 g2)
 |st p ih=>intro x cs h hs;exact ih x cs h hs
 |arr n e _=>intro x cs h hs;simp[BS,yH,Qy,lx] at hs
 |int k=>intro x cs h _;exact one _ _ _ rfl h
 |bool=>intro x cs h _;exact one _ _ _ rfl h
 |fG=>intro x cs h _;exact one _ _ _ rfl h
 |dG=>intro x cs h _;exact one _ _ _ rfl h
 |str=>intro x cs h _;exact one _ _ _ rfl h
 |sl e _=>intro x cs h _;exact one _ _ _ rfl h
def qhz{x:V}{z:Value}{vs:List V}(hx:ay φ o imm w x z)(h:RT o x=some vs):ck φ o imm w vs z.cells.toList/\∀c,c∈z.cells.toList->c.oneCell'=true:=by
 unfold RT at h;split at h
 ·rename_i p y;cases hs:yH o (BS p y) with
  |false=>rw[hs] at h;cases h
  |true=>rw[hs] at h;injection h with h;subst h;obtain⟨cs,rfl,h1⟩:=hx;have:=zfw (φ:=φ) (o:=o) p y _ h1 hs;exact⟨this,ql3 this hs⟩
 ·rename_i cs;cases hs:yH o cs with
  |false=>rw[hs] at h;cases h
  |true=>rw[hs] at h;injection h with h;subst h;obtain⟨c,rfl,h1⟩:=hx;exact⟨h1,ql3 h1 hs⟩
 ·cases hs:Qy o x with
  |false=>rw[hs] at h;cases h
  |true=>rw[hs] at h;injection h with h;subst h;have h1:=qug hx hs;rw[z6a h1];exact⟨⟨z,[],rfl,hx,rfl⟩,fun c hc=>by simp at hc;subst hc;exact h1⟩
def qsc:∀(ns:List (Nat×Obj)) (o':Nat->Obj) (id:Nat),(∀p,p∈ns->∃e,p.2=.vec e 0 false ⟨true,[]⟩)->id∈bW ns->∃e,aq o' ns id=.vec e 0 false ⟨true,[]⟩:=by
 intro ns
 induction ns with
 |nil=>intro o' id _ h;cases h
 |cons p r ih=>
  obtain⟨i,y⟩:=p;intro o' id hc h;by_cases hr:id∈bW r
  ·exact ih _ _ (fun p hp=>hc p (zh _ hp)) hr
  ·simp only[bW,zk,hr,or_false] at h;subst h;show ∃e,aq (cy o' id y) r id=_;rw[iU hr,eQ]
   simp_all
def Xi:∀{ns:List (Nat×Obj)} {p},p∈ns->p.1∈bW ns
 |q::r,p,h=>by
  rcases zk.1 h with rfl|h
  ·exact zg ..
  ·exact zh _ (Xi h)
def Xj:∀(cs:List V) (sl:List (Option Ty)) (i:Nat),(∀p,p∈(pA i cs sl).2->(∃e,p.2=.vec e 0 false ⟨true,[]⟩)/\i<=p.1/\p.1<i+yJ cs)/\(∀zs,ck φ o imm w cs zs->(∀y z,ay φ o imm w y z->ay φ' o' imm' w' y z)->(∀p,p∈(pA i cs sl).2->∃e,o' p.1=.vec e 0 false ⟨true,[]⟩)->ck φ' o' imm' w' (pA i cs sl).1 zs):=by
 intro cs
 induction cs with
 |nil=>
  intro sl i;have e:pA i [] sl=([],[]):=by cases sl<;>rfl
  rw[e];exact⟨(fun p hp=>by cases hp),fun zs h _ _=>h⟩
 |cons c cs ih=>
  intro sl i;cases sl with
  |nil=>
   have e:pA i (c::cs) []=(c::cs,[]):=by cases c<;>rfl
   rw[e];exact⟨(fun p hp=>by cases hp),fun zs h hk _=>LU hk _ _ h⟩
  |cons s sl=>
   have other:pA i (c::cs) (s::sl)=(c::(pA i cs sl).1,(pA i cs sl).2)->(∀p,p∈(pA i (c::cs) (s::sl)).2->(∃e,p.2=.vec e 0 false ⟨true,[]⟩)/\i<=p.1/\p.1<i+yJ (c::cs))/\
     (∀zs,ck φ o imm w (c::cs) zs->(∀y z,ay φ o imm w y z->ay φ' o' imm' w' y z)->(∀p,p∈(pA i (c::cs) (s::sl)).2->∃e,o' p.1=.vec e 0 false ⟨true,[]⟩)->
      ck φ' o' imm' w' (pA i (c::cs) (s::sl)).1 zs):=by
    intro e;rw[e];obtain⟨h1,h2⟩:=ih sl i;refine⟨fun p hp=>?_,fun zs ⟨z,r,e1,h3,h4⟩ hk ho=>⟨z,r,e1,hk _ _ h3,h2 _ h4 hk ho⟩⟩;obtain⟨g1,g2,g3⟩:=h1 p hp;refine⟨g1,g2,?_⟩;have:yJ cs<=yJ (c::cs):=by cases c<;>simp[yJ]
    omega
   cases c<;>try exact other rfl
   cases s with
   |none=>exact other rfl
   |some e=>
    obtain⟨h1,h2⟩:=ih sl (i+1);show(∀p,p∈((i,Obj.vec e 0 false ⟨true,[]⟩)::(pA (i+1) cs sl).2)->_)/\_;refine⟨fun p hp=>?_,fun zs ⟨z,r,e1,h3,h4⟩ hk ho=>?_⟩
    ·rcases zk.1 hp with rfl|hp
     ·exact⟨⟨e,rfl⟩,Nat.le_refl _,by simp[yJ]⟩
     ·obtain⟨g1,g2,g3⟩:=h1 p hp;refine⟨g1,by omega,?_⟩;simp only[yJ];omega
    ·refine⟨z,r,e1,?_,h2 _ h4 hk fun p hp=>ho p (zh _ hp)⟩;obtain⟨e',hc⟩:=ho (i,.vec e 0 false ⟨true,[]⟩) (zg ..);unfold ay;simp only at hc;rw[hc];exact⟨Nat.le_refl _,fun _=>.inl ⟨rfl,h3⟩⟩
def Xk(hC:cV C){t:TypeId}{e:Ty}(h:C.ty t=some e)(he:e=.int .u8):C.P.underlying t=some (.int .u8):=by
 subst he;obtain⟨d,h0,h1,h2⟩:=(hC.eY _ _ h).desc;clear h0;have hd:d=.int .u8:=by
  clear h1;cases d<;>simp only[pE] at h2<;>try (cases h2;done)
  rename_i k;cases k<;>first|rfl|(simp[vN] at h2;done)
 rw[h1,hd]
def qm3{e:Ty}(h:Wz e=true)(he:e=.int .u8):False:=by subst he;cases h
def qxt{cs vs:List V}{off:Nat}(h:qn (Qz cs off vs)=true)(hv:qn vs=false):qn cs=true:=by
 unfold Qz at h;cases off with
 |zero=>
  cases vs with
  |nil=>simpa using h
  |cons v r=>rw[List.take_zero,List.nil_append] at h;cases v<;>first|(cases h;done)|(cases hv;done)
 |succ n=>
  cases cs with
  |nil=>cases vs with
   |nil=>simp[qn] at h
   |cons v r=>rw[List.take_nil,List.nil_append] at h;cases v<;>first|(cases h;done)|(cases hv;done)
  |cons c cs=>cases c<;>first|rfl|(cases h;done)
def fb.setRow{b:Nat}{c:Array Value}{el:TypeId}{fz:Nat×Nat}(h:w.heap[b]?=some (.cells c el fz)){cs:Array Value}(hs:cs.size=c.size):fb w (w.setRow b cs) b:=fun c0 el0 fz0 e=>by rw[h] at e;injection e with e;injection e with e1 e2 e3;subst e1 e2 e3;exact⟨cs,Xf h cs,hs⟩
def fb.ov{b:Nat}{c:Array Value}{el:TypeId}{fz:Nat×Nat}(h:w.heap[b]?=some (.cells c el fz)){off:Nat}{ds:List Value}(hb:off+ds.length<=c.size):fb w (w.setRow b (ov c.toList off ds).toArray) b:=.setRow h (by have:=qnv c.toList off ds (by simpa using hb);simpa using this)
def Xl(hm:MRel C X φ o w){id:Nat}{e:Ty}{v v':Nat}{f f':Bool}{s s':Sl (den e)}(ho:o id=.vec e v f s)(hn:s.nil=false)(hk:fb w w' (φ id).block):iT C w' (φ id) (.vec e v' f' s'):=fun ht _=>by
 have:=hm.rK id;rw[ho] at this;obtain⟨c,el,fz,h1,h2,h4⟩:=this ht hn;obtain⟨c',h3,h5⟩:=hk _ _ _ h1
 grind
def zfx(hm:MRel C X φ o w){id:Nat}{cs lW:List V}(ho:o id=.box cs)(hs:qn lW=true->qn cs=true)(hk:fb w w' (φ id).block):iT C w' (φ id) (.box lW):=fun h=>by
 have:=hm.rK id;rw[ho] at this;obtain⟨c,el,fz,h1,h3⟩:=this (hs h);obtain⟨c',h2,h4⟩:=hk _ _ _ h1
 grind
def quh(hm:MRel C X φ o w){fr:Nat}{t el:TypeId}{cs:List V}{zs:Array Value}{v:V}{u:List (Nat×Obj)}(hr:ck φ o (aj X φ o w) w cs zs.toList)(h:(WJ C fr t cs).aN v u)(hf:mU fr o u):dY C X φ o w v u (do pure (.pointer (some (<-newRow el zs)))):=by
 unfold WJ at h;have main:∀(lW:List V) (ns:List (Nat×Obj)),(∀p,p∈ns->(∃e,p.2=.vec e 0 false ⟨true,[]⟩)/\fr+1<=p.1/\p.1<fr+16)->
   (∀(φ':Nat->Addr) (o':Nat->Obj) (imm':Nat->Prop) (w':World),(∀y z,ay φ o (aj X φ o w) w y z->ay φ' o' imm' w' y z)->(∀p,p∈ns->∃e,o' p.1=.vec e 0 false ⟨true,[]⟩)->ck φ' o' imm' w' lW zs.toList)->qn lW=false->
   mU fr o ((fr,.box lW)::ns)->dY C X φ o w (.ptr fr 0) ((fr,.box lW)::ns) (do pure (.pointer (some (<-newRow el zs)))):=by
  intro lW ns h1 h2 hs hf;refine⟨.pointer (some ⟨w.heap.size,0,none⟩),w.alloc (.cells zs el),cy φ fr ⟨w.heap.size,0,none⟩,by simp[newRow],?_⟩;have hc:o fr=.none:=hf _ (zg ..) (Nat.le_refl _) (by show fr<fr+16;omega);refine Comes.fresh hm (B:=.cells zs el) rfl (.box lW) (fun p hp=>?_) (fun _=>by rw[hc];trivial) (fun h3 h4 h5=>?_) (fun h=>by rw[hs] at h;cases h) (fun h3=>?_)
  ·obtain⟨g1,g2,g3⟩:=h1 p hp;exact⟨g1,by omega,hf p (zh _ hp) om g3⟩
  ·refine⟨by rw[eQ],zs,el,0,0,?_,Nat.le_refl _,h2 _ _ _ _ h5 fun p hp=>?_⟩
   ·rw[eQ];exact heap_alloc_new w _
   ·exact qsc ns _ p.1 (fun q hq=>(h1 q hq).1) (Xi hp)
  ·unfold ay;rw[h3,eQ]
 cases hb:Nat.ble (yJ cs) 14 with
 |true=>
  rw[hb] at h;simp only[cond_true,dX,dW] at h;obtain⟨hs,rfl,rfl⟩:=h;have hs:qn (pA (fr+1) cs (BZ C 8 t)).1=false:=by simpa using hs
  have hb:=zD hb;refine main _ _ (fun p hp=>?_) (fun φ' o' imm' w' hk hn=>(Xj (φ':=φ') (o':=o') (imm':=imm') (w':=w') cs (BZ C 8 t) (fr+1)).2 _ hr hk hn) hs hf;obtain⟨g1,g2,g3⟩:=(Xj (φ:=φ) (o:=o) (imm:=aj X φ o w) (w:=w) (φ':=φ) (o':=o) (imm':=aj X φ o w) (w':=w) cs (BZ C 8 t) (fr+1)).1 p hp
  grind
 |false=>rw[hb] at h;simp only[cond_false,dX,dW] at h;obtain⟨hs,rfl,rfl⟩:=h;exact main cs [] (fun p hp=>by cases hp) (fun φ' o' imm' w' hk _=>LU hk _ _ hr) (by simpa using hs) hf
def z6b(hm:MRel C X φ o w){fr:Nat}{cs:List V}{zs:Array Value}{v:V}{u:List (Nat×Obj)}(hr:ck φ o (aj X φ o w) w cs zs.toList)(h:(z5o fr cs).aN v u)(hf:mU fr o u):dY C X φ o w v u (do pure (.pointer (some (<-newRow C.mf zs)))):=by
 unfold z5o at h;split at h
 ·rw[dW] at h;obtain⟨rfl,rfl⟩:=h;obtain⟨z1,r1,e1,a1,z2,r2,e2,a2,a3⟩:=hr;have a1:z1=.pointer none:=a1;have a2:z2=.slice none 0 0:=a2;have a3:r2=[]:=a3;subst e2 a1 a2 a3;refine⟨.pointer (some ⟨w.heap.size,0,none⟩),w.alloc (.cells zs C.mf),cy φ fr ⟨w.heap.size,0,none⟩,by simp[newRow],?_⟩;have hc:o fr=.none:=hf _ (zg ..) (Nat.le_refl _) (by show fr<fr+16;omega);have he:o (fr+1)=.none:=hf (fr+1,_) (zh _ (zg ..)) (by show fr<=fr+1;omega) (by show fr+1<fr+16;omega);have g0:aq o [(fr,Obj.box [.cX fr false,.aY (fr+1) 0]),(fr+1,.vec (.int .u8) 0 false ⟨true,[]⟩)] fr=.box [.cX fr false,.aY (fr+1) 0]:=by show cy (cy o fr _) (fr+1) _ fr=_;rw[jI om,eQ]
  have g1:aq o [(fr,Obj.box [.cX fr false,.aY (fr+1) 0]),(fr+1,.vec (.int .u8) 0 false ⟨true,[]⟩)] (fr+1)=.vec (.int .u8) 0 false ⟨true,[]⟩:=by show cy (cy o fr _) (fr+1) _ (fr+1)=_;rw[eQ]
  refine Comes.fresh hm (B:=.cells zs C.mf) rfl (.box [.cX fr false,.aY (fr+1) 0]) (fun p hp=>?_) (fun _=>by rw[hc];trivial) (fun h3 h4 h5=>?_) (fun _=>⟨zs,C.mf,(0,0),heap_alloc_new w _,.inl ⟨rfl,by rw[<-Array.length_toList,e1];rfl⟩⟩) (fun h3=>?_)
  ·grind
  ·refine⟨by rw[eQ],zs,C.mf,0,0,?_,Nat.le_refl _,?_⟩
   ·rw[eQ];exact heap_alloc_new w _
   ·rw[e1];refine⟨_,_,rfl,?_,_,_,rfl,?_,rfl⟩
    ·unfold ay;rw[g0];rfl
    ·unfold ay;rw[g1];exact⟨Nat.le_refl _,fun _=>.inl ⟨rfl,rfl⟩⟩
  ·unfold ay;rw[h3,eQ]
 ·cases h
def qui(hm:MRel C X φ o w){fr:Nat}{cs:List V}{zs:Array Value}{v:V}{u:List (Nat×Obj)}(hr:ck φ o (aj X φ o w) w cs zs.toList)(h:(WK fr cs).aN v u)(hf:mU fr o u):dY C X φ o w v u (do pure (.pointer (some (<-newRow C.rU zs)))):=by
 unfold WK at h;split at h
 ·rename_i s x t y;rw[dX,dW,ze] at h;obtain⟨⟨hg,hj⟩,rfl,rfl⟩:=h;obtain⟨z1,r1,e1,a1,z2,r2,e2,a2,z3,r3,e3,a3,z4,r4,e4,a4,a5⟩:=hr;have a1:z1=.pointer none:=a1;have a2:z2=.slice none 0 0:=a2;have a5:r4=[]:=a5;have b3:cY (aj X φ o w) w s x z3:=a3;have b4:cY (aj X φ o w) w t y z4:=a4;subst e2 e3 e4 a1 a2 a5;refine⟨.pointer (some ⟨w.heap.size,0,none⟩),w.alloc (.cells zs C.rU),cy φ fr ⟨w.heap.size,0,none⟩,by simp[newRow],?_⟩;have hc:o fr=.none:=hf _ (zg ..) (Nat.le_refl _) (by show fr<fr+16;omega);have he:o (fr+1)=.none:=hf (fr+1,_) (zh _ (zg ..)) (by show fr<=fr+1;omega) (by show fr+1<fr+16;omega);have g0:aq o [(fr,Obj.box [.cX fr false,.aY (fr+1) 0,.d s x,.d t y]),(fr+1,.vec (.int .u8) 0 false ⟨true,[]⟩)] fr=.box [.cX fr false,.aY (fr+1) 0,.d s x,.d t y]:=by show cy (cy o fr _) (fr+1) _ fr=_;rw[jI om,eQ]
  have g1:aq o [(fr,Obj.box [.cX fr false,.aY (fr+1) 0,.d s x,.d t y]),(fr+1,.vec (.int .u8) 0 false ⟨true,[]⟩)] (fr+1)=.vec (.int .u8) 0 false ⟨true,[]⟩:=by show cy (cy o fr _) (fr+1) _ (fr+1)=_;rw[eQ]
  refine Comes.fresh hm (B:=.cells zs C.rU) rfl (.box [.cX fr false,.aY (fr+1) 0,.d s x,.d t y]) (fun p hp=>?_) (fun _=>by rw[hc];trivial) (fun h3 h4 h5=>?_) (fun _=>⟨zs,C.rU,(0,0),heap_alloc_new w _,.inr ⟨rfl,by rw[<-Array.length_toList,e1];rfl⟩⟩) (fun h3=>?_)
  ·grind
  ·refine⟨by rw[eQ],zs,C.rU,0,0,?_,Nat.le_refl _,?_⟩
   ·rw[eQ];exact heap_alloc_new w _
   ·rw[e1];refine⟨_,_,rfl,?_,_,_,rfl,?_,_,_,rfl,?_,_,_,rfl,?_,rfl⟩
    ·unfold ay;rw[g0];rfl
    ·unfold ay;rw[g1];exact⟨Nat.le_refl _,fun _=>.inl ⟨rfl,rfl⟩⟩
    all_goals grind
  ·unfold ay;rw[h3,eQ]
 ·cases h
def L2(hm:MRel C X φ o w){fr ver cap lo hi:Nat}{e:Ty}{l:List (den e)}{c:Array Value}{el:TypeId}{w':World}{ec rest:List Value}(hg:w'.heap=w.heap.push (.cells c el (lo,hi)))(hk:∀w',Up w w' (φ fr) ⟨w.heap.size,0,none⟩ (o fr) (.vec e ver false ⟨false,l⟩))(hc:c.toList=ec++rest)(hr:bR (aE (aj X φ o w) w e) l ec)(he:c.size=cap*aM e)(hj:l.length<=cap)(hl:l.length<=cv)(ho:lo=hi\/c.size<=lo)(hq:e=.int .u8->C.P.underlying el=some (.int .u8))(still:xB w w':=by exact⟨rfl,rfl⟩):
  Comes C X φ (cy φ fr ⟨w.heap.size,0,none⟩) o [(fr,.vec e ver false ⟨false,l⟩)] w w' (.aY fr ver) (.slice (some ⟨w.heap.size,0,none⟩) l.length cap)/\
  Comes C X φ (cy φ fr ⟨w.heap.size,0,none⟩) o [(fr,.vec e ver false ⟨false,l⟩)] w w' (.ptr fr 0) (.pointer (some ⟨w.heap.size,0,none⟩)):=by
 have hh:w'.heap[w.heap.size]?=some (.cells c el (lo,hi)):=by rw[hg];simp
 have hf:∀n,n<=c.size->room w' ⟨w.heap.size,0,none⟩ n:=fun n hn=>⟨c,el,lo,hi,hh,by simpa using hn,by simp only[zC];omega⟩;have hs:=qu hr;have hu:l.length*aM e<=c.size:=by rw[he];exact Nat.mul_le_mul_right _ hj
 have both:∀v z,(aq o [(fr,Obj.vec e ver false ⟨false,l⟩)] fr=.vec e ver false ⟨false,l⟩->ay (cy φ fr ⟨w.heap.size,0,none⟩) (aq o [(fr,.vec e ver false ⟨false,l⟩)]) (aj X (cy φ fr ⟨w.heap.size,0,none⟩) (aq o [(fr,.vec e ver false ⟨false,l⟩)]) w') w' v z)->
   Comes C X φ (cy φ fr ⟨w.heap.size,0,none⟩) o [(fr,.vec e ver false ⟨false,l⟩)] w w' v z:=by
  intro v z hv;refine Comes.fresh hm hg (.vec e ver false ⟨false,l⟩) (ns:=[]) (fun p hp=>by cases hp) hk (fun h3 h4 h5=>?_) (fun ht _=>⟨c,el,(lo,hi),hh,hq ht,ho⟩) hv still;refine⟨hl,by simp,fun _=>.inl ⟨by rw[eQ],ec,rJ (jH h3 h4 e) hr,?_,?_,fun _=>?_,by simp⟩⟩
  ·rw[eQ];have:=Sr hh 0 ec.length
   grind
  ·rw[eQ];exact hf 0 (Nat.zero_le _)
  ·rw[eQ];exact hf _ hu
 refine⟨both _ _ fun h3=>?_,both _ _ fun h3=>?_⟩
 ·unfold ay;rw[h3,eQ];exact⟨Nat.le_refl _,fun _=>.inr ⟨rfl,cap,rfl,hj,fun h=>by simp at h,fun _ _=>hf _ (by rw[he];exact Nat.le_refl _)⟩⟩
 ·unfold ay;rw[h3,eQ];exact fun _=>rfl
def Sx:∀(zs:List Value),ck φ o imm w (zs.map Kq) zs
 |[]=>rfl
 |z::zs=>⟨z,zs,rfl,qkx z,Sx zs⟩
def qqm{t:TypeId}{cs:List V}(h:WG C t=some cs):∃i z,C.P.info? t=some i/\i.zero=some z/\cs=z.cells.toList.map Kq:=by
 unfold WG at h;split at h
 ·rename_i i e;split at h
  ·rename_i z hz;exact⟨i,z,Sc e,hz,(zF h).symm⟩
  ·cases h
 ·cases h
def QV{fr:Nat}{a:Addr}{x:Obj}(h:o fr=.none):∀w',Up w w' (φ fr) a (o fr) x:=fun _=>by rw[h];trivial
def z2z(hC:cV C)(hm:MRel C X φ o w){fr:Nat}{t:TypeId}{v:V}{u:List (Nat×Obj)}(h:(qxg C fr t).aN v u)(hf:mU fr o u)(cN:Value):dY C X φ o w v u (Instr.alloc t true cN):=by
 unfold qxg at h;split at h
 ·rename_i n e he;rw[dX,dW,ze,ze] at h;obtain⟨⟨⟨h1,hg⟩,hj⟩,rfl,rfl⟩:=h;have hk:o fr=.none:=hf _ (zg ..) (Nat.le_refl _) (by show fr<fr+16;omega);have hT:=hC.eY _ _ he;obtain⟨i,z,k1,_,k2,k3,k4,k5,k6⟩:=hT.info;have hz:=k6 (aj X φ o w) w;obtain⟨ho,hc⟩:=hz;have hl:=qu hc;refine⟨.pointer (some ⟨w.heap.size,0,none⟩),w.alloc (.cells z.cells t),_,by simp[Instr.alloc,FD k1 k4,newVar,newRow],
   (L2 hm (c:=z.cells) (el:=t) (lo:=0) (hi:=0) (cap:=n) (ec:=z.cells.toList) (rest:=[]) rfl (QV hk) (by simp) ?_ ?_ (by simp) ?_ (.inl rfl) (fun he=>(qm3 hj he).elim)).2⟩
  ·simpa[zero] using hc
  ·grind
  ·have:=zD hg;simp;unfold cv;omega
 ·split at h
  ·rename_i cs hn;obtain⟨i,z,k1,k2,rfl⟩:=qqm hn;cases hb:Nat.beq t C.mf with
   |false=>
    rw[hb,cond_false] at h;cases hp:Nat.beq t C.rU with
    |true=>rw[hp,cond_true] at h;have hp:=zj hp;obtain⟨val,w',φ',g1,g2⟩:=qui hm (zs:=z.cells) (Sx _) h hf;refine⟨val,w',φ',?_,g2⟩;rw[<-g1,<-hp];simp[Instr.alloc,FD k1 k2,newVar]
    |false=>rw[hp,cond_false] at h;obtain⟨val,w',φ',g1,g2⟩:=quh hm (el:=t) (zs:=z.cells) (Sx _) h hf;refine⟨val,w',φ',?_,g2⟩;rw[<-g1];simp[Instr.alloc,FD k1 k2,newVar]
   |true=>rw[hb,cond_true] at h;have hb:=zj hb;obtain⟨val,w',φ',g1,g2⟩:=z6b hm (zs:=z.cells) (Sx _) h hf;refine⟨val,w',φ',?_,g2⟩;rw[<-g1,<-hb];simp[Instr.alloc,FD k1 k2,newVar]
  ·cases h
def zbk(hm:MRel C X φ o w){fr:Nat}{t:TypeId}{x:V}{z:Value}{v:V}{u:List (Nat×Obj)}(hx:ay φ o (aj X φ o w) w x z)(h:(zfh C o fr t x).aN v u)(hf:mU fr o u):dY C X φ o w v u (Instr.box t z):=by
 unfold zfh at h;split at h
 ·rename_i n e l;rw[dX,dW,ze,ze] at h;obtain⟨⟨⟨h1,hc⟩,hg⟩,rfl,rfl⟩:=h;have hj:o fr=.none:=hf _ (zg ..) (Nat.le_refl _) (by show fr<fr+16;omega);obtain⟨cs,rfl,hl,hr⟩:=hx;have hl:List.length l=n:=hl;have hk:=qu hr;refine⟨.pointer (some ⟨w.heap.size,0,none⟩),w.alloc (.cells cs t),_,by simp[Instr.box,newVar,newRow,Value.cells],
   (L2 hm (c:=cs) (el:=t) (lo:=0) (hi:=0) (cap:=n) (ec:=cs.toList) (rest:=[]) rfl (QV hj) (by simp) hr ?_ ?_ ?_ (.inl rfl) (fun he=>(qm3 hg he).elim)).2⟩
  ·grind
  ·omega
  ·have:=zD hc;unfold cv;omega
 ·split at h
  ·rename_i cs hn;obtain⟨g1,g2⟩:=qhz hx hn;cases hp:Nat.beq t C.rU with
   |true=>rw[hp,cond_true] at h;have hp:=zj hp;subst hp;exact qui hm (zs:=z.cells) g1 h hf
   |false=>rw[hp,cond_false] at h;exact quh hm (el:=t) (zs:=z.cells) g1 h hf
  ·cases h
end
end Ev