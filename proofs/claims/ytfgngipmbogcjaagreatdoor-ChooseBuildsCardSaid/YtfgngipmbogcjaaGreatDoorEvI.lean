/- From what a row reads to data; calls as functions; numbers. No statement of its own about the program. -/
import Derived.Test.YtfgngipmbogcjaaGreatDoorEvH
import Derived.ChangeArms
import Derived.OpenShut
import Derived.ChangeSame
import Derived.ReadAgain
import Derived.ChangeStays
import Derived.WideShapes
import Derived.RowKit2
import Derived.Lib.Bytealg
import Derived.Lib.LaidTab
import Derived.Below
import Derived.Deep.Draws
import Derived.Sort.Grow
import Derived.Lib.ItoaNum
namespace Ev
open Go
def KI{α β:Type}(f:α->Option β):List α->Option (List β)
 |[]=>some []
 |x::r=>match f x with
  |some y=>match KI f r with
   |some l=>some (y::l)
   |none=>none
  |none=>none
def fK{H:Type}:(T:Ty)->List (DataW H)->Option (den T)
 |.unit,l=>match l with
  |[]=>some ()
  |_=>none
 |.pair a b,l=>match l with
  |d::r=>match fK a [d] with
   |some x=>match fK b r with
    |some y=>some (x,y)
    |none=>none
   |none=>none
  |[]=>none
 |.st p,l=>match l with
  |[.agg ps]=>fK p ps
  |_=>none
 |.int k,l=>match l with
  |[.lit (.int k' n)]=>if k'=k then some n else none
  |_=>none
 |.bool,l=>match l with
  |[.lit (.bool b)]=>some b
  |_=>none
 |.str,l=>match l with
  |[.lit (.string s)]=>some (s.map fun b=>(b.toNat:Int))
  |_=>none
 |.arr n e,l=>match l with
  |[.agg ps]=>match KI (fun d=>fK e [d]) ps with
   |some l=>if l.length=n then some l else none
   |none=>none
  |_=>none
 |.sl e,l=>match l with
  |[.nil]=>some (⟨true,[]⟩:Sl (den e))
  |[.slice es _]=>match KI (fun d=>fK e [d]) es with
   |some l=>some (⟨false,l⟩:Sl (den e))
   |none=>none
  |_=>none
 |.ks _,_=>none
 |.eD,_=>none
 |.eU,_=>none
def jK:Ty->Bool
 |.ks _=>false
 |.eD=>false
 |.eU=>false
 |.pair a b=>jK a&&jK b
 |.st p=>jK p
 |.arr _ e=>jK e
 |.sl e=>jK e
 |_=>true
theorem que:∀{T:Ty},jK T=true->J8 T=T
 |.ks _,h=>by cases h
 |.eD,h=>by cases h
 |.eU,h=>by cases h
 |.int _,_=>rfl
 |.bool,_=>rfl
 |.str,_=>rfl
 |.sl _,_=>rfl
 |.unit,_=>rfl
 |.pair _ _,_=>rfl
 |.st _,_=>rfl
 |.arr _ _,_=>rfl
theorem nh.lt{C:Cx}{t:TypeId}{T:Ty}(h:nh C t T):t<C.P.types.size:=by obtain⟨i,_,_,h2,_⟩:=h.info;have:=(zB.1 h2).1;simpa using this
theorem qye{W:World}{a:Addr}{v:Value}(h:W.cell? a=some v):a.block<W.heap.size:=by
 unfold World.cell? at h;rcases Nat.lt_or_ge a.block W.heap.size with h'|h'
 ·exact h'
 ·rw[zX h'] at h;cases h
theorem I5{C:Cx}{t:TypeId}{T:Ty}(h:nh C t T):C.P.cellsOf t=aM T:=by obtain⟨i,z,h1,_,h2,_⟩:=h.info;unfold Program.cellsOf;rw[h1];exact h2
section
variable {H:Type} {enc:TypeId×Value→H} {C:Cx} {W:World} {base:Nat} {spare:Nat→Bool} {held:Bool} {imm:Nat→Prop}
def By(C:Cx)(enc:TypeId×Value->H)(W:World)(base:Nat)(spare:Nat->Bool)(held:Bool)(imm:Nat->Prop)(T:Ty):Prop:=∀t fuel cs y,C.ty t=some T->DataW.trod enc C.P W base spare held fuel t cs=some y->∃x,aC imm W T x cs/\fK T [y.1]=some x
theorem qot{e:Ty}:∀(n:Nat) (xs:List (DataW H×List MemPlace)) (f:Nat->List Value),xs.length=n->(∀i y,xs[i]?=some y->∃x,aC imm W e x (f i)/\fK e [y.1]=some x)->∃l:List (den e),l.length=n/\bf (aC imm W e) l ((List.range n).flatMap f)/\KI (fun d=>fK e [d]) (xs.map (·.1))=some l:=by
 intro n
 induction n with
 |zero=>intro xs f hl _;have:xs=[]:=zQ hl;subst this;exact⟨[],rfl,rfl,rfl⟩
 |succ n ih=>
  intro xs f hl h;cases xs with
  |nil=>cases hl
  |cons y xs=>
   obtain⟨x,h1,h2⟩:=h 0 y rfl;obtain⟨l,g1,g2,g3⟩:=ih xs (fun i=>f (i+1)) (by simpa using hl) (fun i z hz=>h (i+1) z (by simpa using hz));refine⟨x::l,by simp[g1],?_,?_⟩
   ·rw[List.range_succ_eq_map,List.flatMap_cons,List.flatMap_map];exact⟨_,_,rfl,h1,g2⟩
   ·simp only[zM,KI,h2,g3]
theorem quf{k:Nat}:∀(n:Nat) (cs:List Value),cs.length=n*k->(List.range n).flatMap (fun i=>(cs.drop (i*k)).take k)=cs:=by
 intro n
 induction n with
 |zero=>intro cs h;simp at h;subst h;rfl
 |succ n ih=>
  intro cs h;rw[List.range_succ_eq_map,List.flatMap_cons,List.flatMap_map];have h1:∀i,(cs.drop ((i+1)*k)).take k=((cs.drop k).drop (i*k)).take k:=fun i=>by rw[List.drop_drop];congr 2;rw[Nat.succ_mul];omega
  simp only[Nat.succ_eq_add_one,h1];rw[ih (cs.drop k) (by rw[zT,h,Nat.succ_mul];omega)];simp
theorem qug(hC:cf C)(hB:∀b,spare b=true)(ht:∀b,b<W.heap.size->imm b)(hx:∀t e,t<C.P.types.size->C.P.underlying t=some (.slice e)->0<C.P.cellsOf e)(T:Ty):jK T=true->By C enc W base spare held imm T/\(∀(fs:List Field) (off:Nat) (n:Nat) (cs:List Value) (xs:List (DataW H×List MemPlace)),rz C fs T off=true->off+aM T<=cs.length->xs.length=fs.length->(∀(i:Nat) (f:Field),fs[i]?=some f->DataW.trod enc C.P W base spare held n f.type ((cs.drop f.offset).take (C.P.cellsOf f.type))=xs[i]?)->∃x,aC imm W T x ((cs.drop off).take (aM T))/\fK T (xs.map (·.1))=some x):=by
 have one:∀(T:Ty),jK T=true->By C enc W base spare held imm T->∀(f:Field) (off:Nat) (n:Nat) (cs:List Value) (xs:List (DataW H×List MemPlace)),rz C [f] T off=true->off+aM T<=cs.length->
   xs.length=1->(∀(i:Nat) (f':Field),[f][i]?=some f'->DataW.trod enc C.P W base spare held n f'.type ((cs.drop f'.offset).take (C.P.cellsOf f'.type))=xs[i]?)->
   ∃x,aC imm W T x ((cs.drop off).take (aM T))/\fK T (xs.map (·.1))=some x:=by
  intro T hk hT f off n cs xs hf _ hl h;have hf:(C.is f.type (J8 T)&&Nat.beq f.offset off)=true:=by cases T<;>exact hf
  rw[que hk,zd] at hf;obtain⟨y,rfl⟩:∃y,xs=[y]:=by
   match xs,hl with
   |[y],_=>exact⟨y,rfl⟩
  have he:=bR hf.1;have hz:=zg hf.2;have h0:=h 0 f rfl;rw[I5 (hC.dP _ _ he),hz] at h0;obtain⟨x,h1,h2⟩:=hT _ _ _ _ he h0;exact⟨x,h1,h2⟩
 have kE:∀(T:Ty),jK T=true->(∀a b,T≠.pair a b)->T≠.unit->By C enc W base spare held imm T->(∀(fs:List Field) (off:Nat) (n:Nat) (cs:List Value) (xs:List (DataW H×List MemPlace)),rz C fs T off=true->off+aM T<=cs.length->xs.length=fs.length->
   (∀(i:Nat) (f:Field),fs[i]?=some f->DataW.trod enc C.P W base spare held n f.type ((cs.drop f.offset).take (C.P.cellsOf f.type))=xs[i]?)->
   ∃x,aC imm W T x ((cs.drop off).take (aM T))/\fK T (xs.map (·.1))=some x):=by
  intro T hk hp hu hT fs off n cs xs hf hg hl h;cases fs with
  |nil=>cases T<;>first|exact absurd rfl hu|cases hf
  |cons f fs=>
   cases fs with
   |nil=>exact one T hk hT f off n cs xs hf hg hl h
   |cons g r=>cases T<;>first|exact absurd rfl (hp _ _)|cases hf
 induction T with
 |int k=>
  intro hk;have hT:By C enc W base spare held imm (.int k):=by
   intro t fuel cs y he h;obtain⟨d,h1,h2,h3⟩:=(hC.dP _ _ he).desc;cases d<;>simp only[ng] at h3<;>try (cases h3;done)
   have:=J6 h3;subst this;obtain⟨n,rfl,rfl,hw⟩:=DataW.trod_int h2 h;refine⟨n,⟨rfl,?_⟩,by simp[fK]⟩;simpa[Lit.wf,fJ] using hw
  exact⟨hT,kE _ hk (fun _ _ h=>by cases h) (fun h=>by cases h) hT⟩
 |eD=>intro hk;cases hk
 |eU=>intro hk;cases hk
 |bool=>
  intro hk;have hT:By C enc W base spare held imm .bool:=by
   intro t fuel cs y he h;obtain⟨d,h1,h2,h3⟩:=(hC.dP _ _ he).desc;cases d<;>simp only[ng] at h3<;>try (cases h3;done)
   obtain⟨n,rfl,rfl⟩:=DataW.trod_bool h2 h;exact⟨n,rfl,rfl⟩
  exact⟨hT,kE _ hk (fun _ _ h=>by cases h) (fun h=>by cases h) hT⟩
 |str=>
  intro hk;have hT:By C enc W base spare held imm .str:=by
   intro t fuel cs y he h;obtain⟨d,h1,h2,h3⟩:=(hC.dP _ _ he).desc;cases d<;>simp only[ng] at h3<;>try (cases h3;done)
   obtain⟨s,rfl,rfl,hs⟩:=DataW.trod_string h2 h;exact⟨_,⟨s,rfl,rfl,hs⟩,rfl⟩
  exact⟨hT,kE _ hk (fun _ _ h=>by cases h) (fun h=>by cases h) hT⟩
 |unit=>
  intro _;refine⟨?_,?_⟩
  ·intro t fuel cs y he h;obtain⟨d,h1,h2,h3⟩:=(hC.dP _ _ he).desc;cases d<;>simp only[ng] at h3<;>first|(cases h3;done)|(rename_i k;cases k<;>cases h3)
  ·intro fs off n cs xs hf _ hl _;cases fs with
   |nil=>have:xs=[]:=zQ hl;subst this;exact⟨(),by simp[aM,aC],rfl⟩
   |cons f r=>
    cases r with
    |nil=>simp only[rz,zd] at hf;have he:=bR hf.1;obtain⟨d,h1,h2,h3⟩:=(hC.dP _ _ he).desc;cases d<;>simp only[ng] at h3<;>first|(cases h3;done)|(rename_i k;cases k<;>cases h3)
    |cons g r=>cases hf
 |st p ih=>
  intro hk;replace ih:=ih hk;have hT:By C enc W base spare held imm (.st p):=by
   intro t fuel cs y he h;have hn:=hC.dP _ _ he;obtain⟨d,h1,h2,h3⟩:=hn.desc;cases d<;>simp only[ng] at h3<;>try (cases h3;done)
   rename_i fs;obtain⟨xs,n,rfl,rfl,hl,hg,hf⟩:=DataW.trod_struct h2 h;rw[I5 hn] at hl;have hl:cs.length=aM p:=hl;obtain⟨x,g1,g2⟩:=ih.2 fs.toList 0 n cs xs h3 om (by simpa using hg) (fun i f hi=>hf i f (by rw[<-zG];exact hi));rw[List.drop_zero,jc om] at g1;exact⟨x,g1,g2⟩
  exact⟨hT,kE _ hk (fun _ _ h=>by cases h) (fun h=>by cases h) hT⟩
 |pair a b nf jF=>
  intro hk;simp only[jK,zd] at hk;replace nf:=nf hk.1;replace jF:=jF hk.2;refine⟨?_,?_⟩
  ·intro t fuel cs y he h;obtain⟨d,h1,h2,h3⟩:=(hC.dP _ _ he).desc;cases d<;>simp only[ng] at h3<;>first|(cases h3;done)|(rename_i k;cases k<;>cases h3)
  ·intro fs off n cs xs hf hg hl h;cases fs with
   |nil=>cases hf
   |cons f r=>
    cases r with
    |nil=>simp only[rz,zd] at hf;have he:=bR hf.1;obtain⟨d,h1,h2,h3⟩:=(hC.dP _ _ he).desc;cases d<;>simp only[ng] at h3<;>first|(cases h3;done)|(rename_i k;cases k<;>cases h3)
    |cons g r=>
     simp only[rz,zd] at hf;cases xs with
     |nil=>cases hl
     |cons y xs=>
      simp only[aM] at hg;have he:=bR hf.1.1;have hz:=zg hf.1.2;have h0:=h 0 f rfl;rw[I5 (hC.dP _ _ he),hz] at h0;obtain⟨x1,g1,g2⟩:=nf.1 _ _ _ _ he h0;obtain⟨x2,g3,g4⟩:=jF.2 (g::r) (off+aM a) n cs xs hf.2 om (by simpa using hl) (fun i f' hi=>h (i+1) f' (by simpa using hi));refine⟨(x1,x2),⟨_,_,?_,g1,g3⟩,?_⟩
      ·show(cs.drop off).take (aM a+aM b)=_;rw[List.take_add,List.drop_drop]
      ·simp only[zM,fK,g2,g4]
 |arr n e ih=>
  intro hk;replace ih:=ih hk;have hT:By C enc W base spare held imm (.arr n e):=by
   intro t fuel cs y he h;have hn:=hC.dP _ _ he;obtain⟨d,h1,h2,h3⟩:=hn.desc;cases d<;>simp only[ng] at h3<;>try (cases h3;done)
   rename_i m te;rw[zd] at h3;have:=zg h3.1;subst this;have ho:=bR h3.2;obtain⟨xs,k,rfl,rfl,hl,hg,hf⟩:=DataW.trod_array h2 h;rw[I5 hn] at hl;have hl:cs.length=m*aM e:=hl;rw[I5 (hC.dP _ _ ho)] at hf;obtain⟨l,g1,g2,g3⟩:=qot (imm:=imm) (W:=W) (e:=e) m xs (fun i=>(cs.drop (i*aM e)).take (aM e)) hg (fun i y hy=>by
    have hi:i<m:=by
     rcases Nat.lt_or_ge i m with h|h
     ·exact h
     ·rw[jx om] at hy;cases hy
    have:=hf i hi;rw[hy] at this;exact ih.1 _ _ _ _ ho this)
   rw[quf m cs hl] at g2;refine⟨l,⟨g1,g2⟩,?_⟩;simp only[fK,g3,g1,if_true]
  exact⟨hT,kE _ hk (fun _ _ h=>by cases h) (fun h=>by cases h) hT⟩
 |ks q _=>intro hk;cases hk
 |sl e ih=>
  intro hk;replace ih:=ih hk;have hT:By C enc W base spare held imm (.sl e):=by
   intro t fuel cs y he h;have hn:=hC.dP _ _ he;obtain⟨d,h1,h2,h3⟩:=hn.desc;cases d<;>simp only[ng] at h3<;>try (cases h3;done)
   rename_i te;have ho:=bR h3;rcases DataW.trod_slice h2 h with ⟨rfl,rfl⟩|⟨a,len,cap,elems,rest,n,rfl,rfl,rfl,hb,hK,hL,hg,hf,hr,_⟩
   ·exact⟨⟨true,[]⟩,⟨_,rfl,Nat.zero_le _,.inl ⟨rfl,rfl,rfl⟩⟩,rfl⟩
   ·have hE:=hx t te hn.lt h2;have first:cap≠0->∃v,W.cell? a=some v:=by
     intro hc;have hF:∃y,(W.cells? base (a.add (0*C.P.cellsOf te)) (C.P.cellsOf te)).bind (DataW.trod enc C.P W base spare held n te)=some y:=by
      by_cases h0:len=0
      ·obtain⟨r1,r2⟩:=hr (hB _);have:=r2 0 om;rw[h0,Nat.add_zero,ze om] at this;exact⟨_,this⟩
      ·have:=hf 0 om;rw[ze om] at this;exact⟨_,this⟩
     obtain⟨y,hy⟩:=hF;obtain⟨ci,h5,_⟩:=Option.bind_eq_some_iff.1 hy;obtain⟨_,h6,h7⟩:=World.cells?_some h5;have h8:=h7 0 hE;rw[ze om,Nat.zero_mul,show(a.add 0).add 0=a from rfl] at h8;exact⟨_,h8⟩
    have hs:cap≠0->a.spot=none:=fun hc=>by
     obtain⟨v,hv⟩:=first hc
     exact World.cell?_spot hv
    have hi:len≠0->imm a.block:=fun h0=>by
     obtain⟨v,hv⟩:=first om
     exact ht _ (qye hv)
    rw[I5 (hC.dP _ _ ho)] at hf;have tR:∀i,i<len->∃ci,W.cells? base (a.add (i*aM e)) (aM e)=some ci/\DataW.trod enc C.P W base spare held n te ci=elems[i]?:=fun i hi=>by have:=hf i hi;rw[ze om] at this;obtain⟨ci,h1,h2⟩:=Option.bind_eq_some_iff.1 this;exact⟨ci,h1,by rw[h2,ze om]⟩
    let f:Nat->List Value:=fun i=>(W.cells? base (a.add (i*aM e)) (aM e)).getD [];obtain⟨l,g1,g2,g3⟩:=qot (imm:=imm) (W:=W) (e:=e) len elems f hg (fun i y hy=>by
     have hi:i<len:=by
      rcases Nat.lt_or_ge i len with h|h
      ·exact h
      ·rw[jx om] at hy;cases hy
     obtain⟨ci,h1,h2⟩:=tR i hi;rw[hy] at h2;show ∃x,aC imm W e x ((W.cells? base (a.add (i*aM e)) (aM e)).getD [])/\_;rw[h1,Option.getD_some];exact ih.1 _ _ _ _ ho h2)
    have hG:∀i,i<len->(f i).length=aM e/\∀j (hj:j<(f i).length),W.cell? ⟨a.block,a.off+i*aM e+j,none⟩=some (f i)[j]:=fun i hi=>by
     obtain⟨ci,h1,_⟩:=tR i hi;have hH:f i=ci:=by show(W.cells? base (a.add (i*aM e)) (aM e)).getD []=ci;rw[h1];rfl
     obtain⟨_,h4,h5⟩:=World.cells?_some h1;rw[hH];refine⟨h4,fun j hj=>?_⟩;have:=h5 j om;rw[ze hj] at this;rw[<-this];have:(a.add (i*aM e)).add j=⟨a.block,a.off+i*aM e+j,none⟩:=by
      obtain⟨ab,ao,as⟩:=a;have hs:as=none:=hs om;subst hs;simp only[Addr.add];by_cases h0:i*aM e=0
      ·by_cases hq:j=0
       ·simp[h0,hq]
       ·simp[h0,hq]
      ·by_cases hq:j=0
       ·simp[h0,hq]
       ·simp[h0,hq]
     rw[this]
    have hI:kB W a ((List.range len).flatMap f):=by
     clear g2 g3 h hf;have key:∀m,m<=len->kB W a ((List.range m).flatMap f)/\((List.range m).flatMap f).length=m*aM e:=by
      intro m
      induction m with
      |zero=>intro _;exact⟨fun j hj=>by simp at hj,by simp⟩
      |succ m ihm=>
       intro hm;obtain⟨k1,k2⟩:=ihm om;obtain⟨k3,k4⟩:=hG m om;rw[List.range_succ,List.flatMap_append,List.flatMap_singleton];refine⟨fun j hj=>?_,by rw[zm,k2,k3,Nat.succ_mul]⟩;by_cases hA:j<((List.range m).flatMap f).length
       ·rw[List.getElem_append_left hA];exact k1 j hA
       ·rw[List.getElem_append_right om];have hJ:j-((List.range m).flatMap f).length<(f m).length:=by rw[zm] at hj;omega
        have:=k4 _ hJ;rw[<-this];congr 2;omega
     exact(key len (Nat.le_refl _)).1
    refine⟨⟨false,l⟩,⟨_,rfl,?_,.inr ⟨rfl,a,cap,_,?_,hs,fun h=>hi fun h0=>h (zQ (g1.trans h0)),g2,hI,?_⟩⟩,?_⟩
    ·show l.length<=cj;have:maxLen=cj:=rfl;omega
    ·show Value.slice (some a) len cap=Value.slice (some a) l.length cap;rw[g1]
    ·show l.length<=cap;omega
    ·simp only[fK,g3]
  exact⟨hT,kE _ hk (fun _ _ h=>by cases h) (fun h=>by cases h) hT⟩
end
end Ev
namespace Ev
open Go Go.ChangeShapes Go.WideShapes Go.RowKit
def lu:(T:Ty)->den T->Prop
 |.int k,n=>fJ k n
 |.bool,_=>True
 |.eD,_=>True
 |.eU,_=>True
 |.str,l=>List.length l<=cj/\∀b,b∈(l:List Int)->0<=b/\b<256
 |.unit,_=>True
 |.pair a b,x=>lu a x.1/\lu b x.2
 |.st p,x=>lu p x
 |.arr n e,l=>List.length l=n/\∀x,x∈(l:List (den e))->lu e x
 |.sl e,s=>s.l.length<=cj/\(s.nil=true->s.l=[])/\∀x,x∈s.l->lu e x
 |.ks _,_=>True
theorem Se{α:Type}{f:α->List Value->Prop}{g:α->Prop}(h:∀x c,f x c->g x):∀{l:List α} {cs:List Value},bf f l cs->∀x,x∈l->g x
 |y::l,_,⟨c,d,e,h1,h2⟩,x,hx=>by
  rcases zt.1 hx with rfl|hx
  ·exact h _ _ h1
  ·exact Se h h2 x hx
theorem I6{imm:Nat->Prop}{w:World}:∀(T:Ty) (x:den T) (cs:List Value),aC imm w T x cs->lu T x
 |.int _,_,_,h=>h.2
 |.bool,_,_,_=>trivial
 |.eD,_,_,_=>trivial
 |.eU,_,_,_=>trivial
 |.str,_,_,⟨s,_,h2,h3⟩=>by subst h2;refine⟨by simpa using h3,fun b hb=>?_⟩;obtain⟨c,_,rfl⟩:=zW.1 hb;have:=c.toNat_lt;omega
 |.unit,_,_,_=>trivial
 |.ks _,_,_,_=>trivial
 |.pair a b,x,_,⟨c,d,_,h1,h2⟩=>⟨I6 a x.1 c h1,I6 b x.2 d h2⟩
 |.st p,x,cs,h=>I6 p x cs h
 |.arr _ e,_,_,⟨h1,h2⟩=>⟨h1,Se (fun x c h=>I6 e x c h) h2⟩
 |.sl e,s,_,⟨v,_,h2,h3⟩=>by
  rcases h3 with ⟨h3,h4,_⟩|⟨h3,a,cap,ec,_,_,_,h5,_⟩
  ·exact⟨h2,fun _=>h4,fun x hx=>by rw[h4] at hx;cases hx⟩
  ·exact⟨h2,(fun h=>by rw[h3] at h;cases h),Se (fun x c h=>I6 e x c h) h5⟩
abbrev sd(Ts:List Ty):Type:=ai (iC (Ts.map Sh.d) [])
def pC:(Ts:List Ty)->sd Ts->Prop
 |[],_=>True
 |T::Ts,x=>lu T x.1/\pC Ts x.2
def se{H:Type}:(Ts:List Ty)->List (DataW H)->Option (sd Ts)
 |[],[]=>some ()
 |T::Ts,d::ds=>match fK T [d] with
  |some x=>match se Ts ds with
   |some y=>some (x,y)
   |none=>none
  |none=>none
 |_,_=>none
def KJ(C:Cx):List TypeId->List Ty->Bool
 |[],[]=>true
 |t::ts,T::Ts=>(C.is t T&&jK T)&&KJ C ts Ts
 |_,_=>false
theorem Sf{H:Type}:∀{Ts:List Ty} {ds:List (DataW H)} {x:sd Ts},se Ts ds=some x->ds.length=Ts.length:=by
 intro Ts
 induction Ts with
 |nil=>intro ds x h;cases ds with|nil=>rfl|cons d ds=>cases h
 |cons T Ts ih=>
  intro ds x h;cases ds with
  |nil=>cases h
  |cons d ds=>
   simp only[se] at h;split at h
   ·split at h
    ·rename_i y hy;simp only[zw,ih hy]
    ·cases h
   ·cases h
section
variable {H:Type} {enc:TypeId×Value→H} {C:Cx} {W:World} {base:Nat} {imm:Nat→Prop} {φ:Nat→Addr} {o:Nat→Obj}
theorem OX{v:Value}(h:EU v=false):v.cells=#[v]:=by cases v<;>first|rfl|cases h
theorem z1u(hC:cf C)(he:∀t e,t<C.P.types.size->C.P.underlying t=some (.slice e)->0<C.P.cellsOf e){T:Ty}{t:TypeId}{v:Value}{fuel:Nat}{y:DataW H×List MemPlace}{sp:Nat->Bool}{held:Bool}(hj:∀b,sp b=true)(hk:jK T=true)(hg:C.ty t=some T)(h:DataW.trod enc C.P W 0 sp held fuel t v.cells.toList=some y)(hv:Value.okWide C.P W .any base t v):∃x,aX (fun b=>b<W.heap.size) W T x v/\fK T [y.1]=some x/\lu T x:=by
 obtain⟨x,h1,h2⟩:=(qug (imm:=fun b=>b<W.heap.size) hC hj (fun _ h=>h) he T hk).1 t fuel _ y hg h;refine⟨x,?_,h2,I6 _ _ _ h1⟩;obtain⟨d,h4,h5,h6⟩:=(hC.dP _ _ hg).desc;unfold Value.okWide at hv;rw[h5] at hv;have flat:Cell.okWide C.P W .any base t v->EU v=false:=by
  intro hc;cases hf:EU v with
  |false=>rfl
  |true=>
   exfalso;cases v<;>try (cases hf;done)
   unfold Cell.okWide at hc;rw[h5] at hc;cases d<;>cases T<;>first|(cases h6;done)|(simp only at hc;unfold Cell.ok at hc;rw[h5] at hc;exact hc)
 cases T with
 |int k=>
  cases d<;>try (first|(cases h6;done)|(rename_i k;cases k<;>(cases h6;done)))
  rw[OX (flat hv)] at h1;exact h1
 |bool=>
  cases d<;>try (first|(cases h6;done)|(rename_i k;cases k<;>(cases h6;done)))
  rw[OX (flat hv)] at h1;exact h1
 |str=>
  cases d<;>try (first|(cases h6;done)|(rename_i k;cases k<;>(cases h6;done)))
  rw[OX (flat hv)] at h1;exact h1
 |sl e=>
  cases d<;>try (first|(cases h6;done)|(rename_i k;cases k<;>(cases h6;done)))
  rw[OX (flat hv)] at h1;exact h1
 |unit=>cases d<;>first|(cases h6;done)|(rename_i k;cases k<;>cases h6)
 |ks q=>cases hk
 |eD=>cases hk
 |eU=>cases hk
 |pair a b=>cases d<;>first|(cases h6;done)|(rename_i k;cases k<;>cases h6)
 |st p=>
  cases d<;>try (first|(cases h6;done)|(rename_i k;cases k<;>(cases h6;done)))
  obtain⟨cs,rfl,_⟩:=hv;exact⟨cs,rfl,h1⟩
 |arr n e=>
  cases d<;>try (first|(cases h6;done)|(rename_i k;cases k<;>(cases h6;done)))
  obtain⟨cs,rfl,_⟩:=hv;exact⟨cs,rfl,h1⟩
theorem qou(hC:cf C)(hc:∀t e,t<C.P.types.size->C.P.underlying t=some (.slice e)->0<C.P.cellsOf e)(he:∀b,b<W.heap.size->imm b):∀(Ts:List Ty) (ts:List TypeId) (vs:List Value) (ds:List (DataW H)) (p:List MemPlace),KJ C ts Ts=true->DataW.TrodAll enc C.P W 0 (fun _=>true) true ts vs ds p->(∀(j:Nat) t v,ts[j]?=some t->vs[j]?=some v->Value.okWide C.P W .any base t v)->∃x:sd Ts,bW φ o imm W (fi cg bO (Ts.map Sh.d) [] x).1 vs/\se Ts ds=some x/\pC Ts x
 |[],ts,vs,ds,p,ht,h,_=>by
  cases ts with
  |cons t ts=>cases ht
  |nil=>obtain⟨rfl,rfl,rfl⟩:=trodAll_nil h;exact⟨(),rfl,rfl,trivial⟩
 |T::Ts,ts,vs,ds,p,ht,h,hv=>by
  cases ts with
  |nil=>cases ht
  |cons t ts=>simp only[KJ,zd] at ht;obtain⟨v,Sg,d,ds1,p1,p2,rfl,rfl,rfl,⟨fuel,h1⟩,h2⟩:=trodAll_cons h;obtain⟨x,g1,g2,g3⟩:=z1u hC hc (fun _=>rfl) ht.1.2 (bR ht.1.1) h1 (hv 0 t v rfl rfl);obtain⟨y,k1,k2,k3⟩:=qou hC hc he Ts ts Sg ds1 p2 ht.2 h2 (fun j t v a b=>hv (j+1) t v (by simpa using a) (by simpa using b));refine⟨(x,y),⟨v,Sg,rfl,rT he (fun _ _=>rfl) T x v g1,k1⟩,?_,g3,k3⟩;simp only[se,g2,k2]
theorem KK:∀{t:Ty},tB t=false->jK t=true
 |.ks _,h=>by cases h
 |.eD,h=>by cases h
 |.eU,h=>by cases h
 |.int _,_=>rfl
 |.bool,_=>rfl
 |.str,_=>rfl
 |.sl _,h=>by cases h
 |.unit,_=>rfl
 |.pair a b,h=>by simp only[tB,Bool.or_eq_false_iff] at h;simp only[jK,KK h.1,KK h.2,Bool.and_self]
 |.st p,h=>KK (t:=p) h
 |.arr _ e,h=>KK (t:=e) h
structure OY (C:Cx) (laid:List (String×DataW Unit)):Prop where
 plain:(laid.filter fun x=>x.2.handleName?.isSome)=[]
 fp:∀g t x,C.kl g=some ⟨t,x⟩->∃n d tid,(n,d)∈laid/\C.P.globalNamed n=some g/\(C.P.globals[g]?).map (·.type)=some tid/\C.ty tid=some t/\tB t=false/\fK t [d]=some x
theorem qc4:∀{laid:List (String×DataW Unit)} {ps:List MemPlace},DataW.LaidVars C.P W laid ps->∀n d,(n,d)∈laid->∃g t cs fuel p,C.P.globalNamed n=some g/\(C.P.globals[g]?).map (·.type)=some t/\W.var? C.P n=some cs/\DataW.trod (fun _=>()) C.P W 0 (fun _=>true) false fuel t cs.toList=some (d,p)
 |(n0,d0)::r,ps,⟨g,t,cs,fuel,p,q,h1,h2,h3,h4,h5,_⟩,n,d,hm=>by
  rcases zt.1 hm with h|h
  ·injection h with e1 e2;subst e1 e2;exact⟨g,t,cs,fuel,p,h1,h2,h3,h4⟩
  ·exact qc4 h5 n d h
theorem qkj(hC:cf C)(he:∀t e,t<C.P.types.size->C.P.underlying t=some (.slice e)->0<C.P.cellsOf e){laid:List (String×DataW Unit)}(hG:OY C laid)(hL:laidMetH C.P laid W){g:Nat}{t:Ty}{x:den t}(h:C.kl g=some ⟨t,x⟩)(hc:∀b,b<W.heap.size->imm b):au φ o imm W (.ref t x) (.pointer (some ⟨g,0,none⟩))/\∃c el fz,W.heap[g]?=some (.cells c el fz)/\c.size=aM t:=by
 unfold laidMetH at hL;rw[hG.plain] at hL;obtain⟨ps,hl,_⟩:=hL;obtain⟨n,d,tid,h1,h2,h3,h4,h5,h6⟩:=hG.fp g t x h;obtain⟨g',t',cs,fuel,p,k1,k2,k3,k4⟩:=qc4 hl n d h1;rw[h2] at k1;cases k1;rw[h3] at k2;cases k2;obtain⟨x',r1,r2⟩:=(qug (imm:=imm) hC (fun _=>rfl) hc he t (KK h5)).1 tid fuel _ _ h4 k4;simp only at r2;rw[h6] at r2;cases r2;unfold World.var? at k3;rw[h2] at k3;simp only[Option.bind_some] at k3;split at k3
 ·rename_i c el fz hb;cases k3;have hf:g<W.heap.size:=by
   rcases Nat.lt_or_ge g W.heap.size with h|h
   ·exact h
   ·rw[zX h] at hb;cases hb
  refine⟨⟨⟨g,0,none⟩,cs.toList,rfl,rfl,hc _ hf,r1,fun j hj=>?_⟩,_,_,_,hb,by rw[<-Array.length_toList];exact gB _ _ _ r1⟩;unfold World.cell?;simp only[zL];rw[hb];have:j<cs.size:=by simpa using hj
  simp[this]
 ·cases k3
def Ed(C:Cx)(s:lE)(x:ai s.ins.aW)(y:ai s.outs.aW):Prop:=
 ∀X φ w zs,MRel C X φ (a7 s.ins x) w->bW φ (a7 s.ins x) (ah X φ (a7 s.ins x) w) w (fill cg bO s.ins x).1 zs->
  (∃fn,C.P.funcs[s.f]?=some fn/\fn.body.isNone=false)/\Calls C.P s.f zs.toArray w fun e w'=>
   ∃cm φ' X',OJ (gQ s.outs) cm e/\(∀b,X b->X' b)/\MRel C X' φ' (a7 s.outs y) w'/\
    bW φ' (a7 s.outs y) (ah X' φ' (a7 s.outs y) w') w' (fill cg bO s.outs y).1 cm/\cL s.bD φ (a7 s.ins x) w φ' (a7 s.outs y) w'
theorem nj.s{i:Nat}{x:ai (aL C.sigs i).ins.aW}{y:ai (aL C.sigs i).outs.aW}(h:nj C i x y):Ed C (aL C.sigs i) x y:=h
theorem qqp{W W':World}(h:∀b,b<W.heap.size->W'.heap[b]?=W.heap[b]?){p:MemPlace}(hp:p.block<W.heap.size):W.sameAt W' p:=by
 cases p with
 |cell b off=>exact qcy (h b hp)
 |map b=>exact h b hp
theorem qc5{P:Program}{W':World}(K:Kids P (· <P.types.size))(hz:∀t e,t<P.types.size->P.underlying t=some (.slice e)->0<P.cellsOf e)(hs:∀b,b<W.heap.size->W'.heap[b]?=W.heap[b]?):∀{ts:List TypeId} {vs:List Value} {ds:List (DataW H)} {ps:List MemPlace},(∀t,t∈ts->t<P.types.size)->DataW.TrodAll enc P W 0 (fun _=>true) true ts vs ds ps->(∀p,p∈ps->p.block<W.heap.size)->DataW.TrodAll enc P W' 0 (fun b=>decide (b<W.heap.size)) true ts vs ds ps
 |[],_,_,_,_,h,_=>by obtain⟨rfl,rfl,rfl⟩:=trodAll_nil h;exact rfl
 |t::ts,vs,ds,ps,ht,h,hp=>by obtain⟨v,Sg,d,ds1,p,q,rfl,rfl,rfl,⟨n,h1⟩,h2⟩:=trodAll_cons h;refine⟨p,q,⟨n,?_⟩,qc5 K hz hs (fun t h=>ht t (zh _ h)) h2 (fun x hx=>hp x (List.mem_append_right _ hx)),rfl⟩;exact DataW.trod_stays K (fun hT hu=>hz _ _ hT hu) (fun h=>by cases h) (ht t (zf ..)) h1 (fun x hx=>qqp hs (hp x (List.mem_append_left _ hx))) (fun x hx=>by simpa using hp x (List.mem_append_left _ hx))
theorem qkl{W W':World}{may:MemPlace->Prop}(h:∀b,b<W.heap.size->W'.heap[b]?=W.heap[b]?)(hs:Bi W W'):W.keptBut W' may:=by
 refine⟨hs.1,hs.2,fun i hi=>?_⟩;rw[h i hi];split
 ·rename_i h1 h2;rw[h1] at h2;cases h2;exact⟨rfl,rfl,rfl,fun _ _=>rfl⟩
 ·rename_i h1 h2;rw[h1] at h2;cases h2;exact .inr ⟨rfl,rfl⟩
 ·rfl
structure OZ (C:Cx) (laid:List (String×DataW Unit)):Prop where
 cx:cf C
 kl:OY C laid
 kids:Kids C.P (· <C.P.types.size)
 full:∀t e,t<C.P.types.size->C.P.underlying t=some (.slice e)->0<C.P.cellsOf e
theorem qkm{laid:List (String×DataW Unit)}(hS:OZ C laid){f:FuncId}{fn:Func}{s:ChangeSpec}(Ts:List Ty)(tb:TypeId)(hu:KJ C fn.params.toList Ts=true)(hv:∀t,t∈fn.params.toList->t<C.P.types.size)(ho:fn.resultTypes=#[tb])(hw:C.P.underlying tb=some .bool)(hj:s.vars=[])(hf:∀ds:List (DataW H),ds.length=Ts.length->s.fn H ds={results:=[.lit (.bool true)],args:=ds})
  {args:Array Value} {ds gs:List (DataW H)} {before:List MemPlace}
  (hq:∀(j:Nat) t v,fn.params[j]?=some t->args[j]?=some v->Value.okWide C.P W .any base t v) (hW:DataW.Whole enc C.P fn.params.toList s.vars false W args.toList ds gs before) (hL:laidMetH C.P laid W)
  (hn:∀x:sd Ts,pC Ts x->se Ts (ds++gs)=some x->Ed C ⟨f,⟨Ts.map Sh.d,[]⟩,⟨[Sh.d .bool],[]⟩,[]⟩ x (true,())):
  Calls C.P f args W fun e W'=>∃v,e=.returned v/\s.post enc C.P fn false true false false W args v W':=by
 have hs:=hW.lt;have ht:=hW;obtain⟨p,q,hA,hV,rfl,hx,hy⟩:=hW;rw[hj] at hV;obtain⟨rfl,rfl⟩:gs=[]/\q=[]:=by
  cases gs with
  |nil=>exact⟨rfl,hV⟩
  |cons g gs=>exact hV.elim
 simp only[zE] at hs ht hn;obtain⟨x,h1,h2,h3⟩:=qou (φ:=fun _=>⟨0,0,none⟩) (o:=fun _=>.none) (imm:=ah (fun _=>False) (fun _=>⟨0,0,none⟩) (fun _=>.none) W) hS.cx hS.full (fun b hb=>⟨hb,id,fun⟨_,h,_⟩=>by cases h⟩) Ts fn.params.toList args.toList ds p hu
  hA (fun j t v h1 h2=>hq j t v (by rw[<-zG];exact h1) (by rw[<-zG];exact h2))
 have hm:MRel C (fun _=>False) (fun _=>⟨0,0,none⟩) (fun _=>Obj.none) W:=
  ⟨fun _=>trivial,(fun i j h=>by cases h),(fun i h=>by cases h),(fun b h=>h.elim),fun _=>trivial,fun g t x hg=>(qkj hS.cx hS.full hS.kl hL hg (fun b hb=>⟨hb,id,fun⟨_,h,_⟩=>by cases h⟩)).1,
   fun g t x hg=>(qkj (φ:=fun _=>⟨0,0,none⟩) (o:=fun _=>.none) (imm:=fun _=>True) hS.cx hS.full hS.kl hL hg (fun _ _=>trivial)).2⟩
 obtain⟨_,hc⟩:=hn x h3 h2 (fun _=>False) (fun _=>⟨0,0,none⟩) W args.toList hm h1;have e0:args.toList.toArray=args:=by simp
 rw[e0] at hc;refine hc.mono fun e W' ⟨cm,φ',X',he,_,_,hr,hh⟩=>?_;have hr:∃v r,cm=v::r/\v=.bool true/\r=[]:=by obtain⟨v,r,h1,h2,h3⟩:=hr;have h2:[v]=[Value.bool true]:=h2;injection h2 with h2;exact⟨v,r,h1,h2,h3⟩
 obtain⟨_,_,rfl,rfl,rfl⟩:=hr;have hk:∀b,b<W.heap.size->W'.heap[b]?=W.heap[b]?:=fun b hb=>hh.frame b hb fun⟨id,h,_⟩=>by cases h
 refine⟨_,he,ds,[],p,[],p,[],ht,?_,?_,?_,qkl hk hh.still,fun h=>by cases h⟩
 ·have hl:ds.length=Ts.length:=by exact Sf h2
  rw[zE,hf ds hl,ho];exact trodAll_cons_mk (p':=[]) (shut_bool hw true) rfl
 ·have hl:ds.length=Ts.length:=by exact Sf h2
  rw[zE,hf ds hl];exact qc5 hS.kids hS.full hk hv hA hs
 ·rw[hj];have hl:(s.fn H (ds++[])).vars=[]:=by rw[zE,hf ds (Sf h2)]
  rw[hl];exact rfl
end
end Ev
namespace Ev
open Go
def bF(C:Cx)(f:Nat):Bool:=match C.P.funcs.toList[f]? with
 |some fn=>!(fn.name== "runtime.NumGoroutine")
 |none=>true
def KL(C:Cx):List lE->Bool
 |[]=>bF C 0
 |s::r=>bF C s.f&&KL C r
theorem qe7{C:Cx}{f:Nat}(h:bF C f=true):∀fn,C.P.funcs[f]?=some fn->(fn.name== "runtime.NumGoroutine")=false:=by intro fn hf;unfold bF at h;rw[zG,hf] at h;simpa using h
theorem qc6{C:Cx}:∀{l:List lE},KL C l=true->∀i fn,C.P.funcs[(aL l i).f]?=some fn->(fn.name== "runtime.NumGoroutine")=false
 |[],h,_,fn,hf=>qe7 h fn hf
 |s::r,h,i,fn,hf=>by
  simp only[KL,zd] at h;cases i with
  |zero=>exact qe7 h.1 fn hf
  |succ i=>exact qc6 h.2 i fn hf
theorem qyf{C:Cx}(h1:ID C C.dP=true)(h2:E8 C C.eqs=true)(h3:KL C C.sigs=true)(h4:C.P.follows .mixedOrders=true):∀{i:Nat} {x:ai (aL C.sigs i).ins.aW} {y:ai (aL C.sigs i).outs.aW},Call C i x y->nj C i x y:=by have hC:cf C:=⟨fun t T h=>QO h1 t T h⟩;have hE:jI C:=z1e hC h2;have hL:ON C:=z1q (qc6 h3);intro i x y h;exact h.ok hC hE hL (z1t hC hE hL h4)
theorem qui{C:Cx}{laid:List (String×DataW Unit)}(h1:ID C C.dP=true)(h2:laidOutB C.P=true)(h3:mapsRowed C.P=true)(h4:((List.range C.P.types.size).all fun t=>match C.P.underlying t with|some (.slice e)=>decide (0<C.P.cellsOf e)|_=>true)=true)(h5:OY C laid):OZ C laid:=⟨⟨fun t T h=>QO h1 t T h⟩,h5,kids_rows h2 h3,slices_full_of C.P h4⟩
def bB{α β:Type}(F:(α->Option β)->α->Option β):Nat->α->Option β
 |0,_=>none
 |n+1,x=>F (bB F n) x
open Classical in
noncomputable def fA{α β:Type}(F:(α->Option β)->α->Option β)(x:α):Option β:=if h:∃y n0,∀n,n0<=n->bB F n x=some y then some (Classical.choose h) else none
theorem quj{α β:Type}{F:(α->Option β)->α->Option β}{x:α}{y:β}(h:fA F x=some y):∃n,bB F n x=some y:=by
 unfold fA at h;split at h
 ·rename_i hx;injection h with h;obtain⟨n0,hn⟩:=Classical.choose_spec hx;exact⟨n0,by rw[<-h];exact hn n0 (Nat.le_refl _)⟩
 ·cases h
theorem xc{α β:Type}{F:(α->Option β)->α->Option β}{x:α}{y:β}(n0:Nat)(h:∀n,n0<=n->bB F n x=some y):fA F x=some y:=by unfold fA;have hx:∃y n0,∀n,n0<=n->bB F n x=some y:=⟨y,n0,h⟩;rw[dif_pos hx];obtain⟨n1,hn⟩:=Classical.choose_spec hx;have h1:=hn (n0+n1) om;rw[h (n0+n1) om] at h1;exact h1.symm
def ae(C:Cx)(k:Nat)(f:ai (aL C.sigs k).ins.aW->Option (ai (aL C.sigs k).outs.aW)):Prop:=∀x y,f x=some y->Call C k x y
def Ft(C:Cx)(R:fI C.sigs):Prop:=∀j a b,R j a=some b->Call C j a b
def iI{sg:List lE}:fI sg:=fun _ _=>none
def bV{sg:List lE}(j:Nat)(f:ai (aL sg j).ins.aW->Option (ai (aL sg j).outs.aW))(R:fI sg):fI sg:=fun i=>match Nat.decEq i j with
 |isTrue h=>h▸f
 |isFalse _=>R i
theorem aR{C:Cx}:Ft C iI:=fun _ _ _ h=>by cases h
theorem aD{C:Cx}{j:Nat}{f:ai (aL C.sigs j).ins.aW->Option (ai (aL C.sigs j).outs.aW)}{R:fI C.sigs}(hf:ae C j f)(hR:Ft C R):Ft C (bV j f R):=by
 intro i a b h;unfold bV at h;cases hd:Nat.decEq i j with
 |isTrue e=>rw[hd] at h;subst e;exact hf a b h
 |isFalse e=>rw[hd] at h;exact hR i a b h
theorem z1v{C:Cx}{k:Nat}{F:(ai (aL C.sigs k).ins.aW->Option (ai (aL C.sigs k).outs.aW))->ai (aL C.sigs k).ins.aW->Option (ai (aL C.sigs k).outs.aW)}(h:∀g,ae C k g->∀x y,F g x=some y->Call C k x y):ae C k (fA F):=by
 intro x y hx;obtain⟨n,hn⟩:=quj hx;clear hx
 induction n generalizing x y with
 |zero=>cases hn
 |succ n ih=>exact h (bB F n) (fun a b hc=>ih a b hc) x y hn
theorem ae.of{C:Cx}{k:Nat}{f g:ai (aL C.sigs k).ins.aW->Option (ai (aL C.sigs k).outs.aW)}(h:ae C k f)(hg:∀x y,g x=some y->f x=some y):ae C k g:=fun x y e=>h x y (hg x y e)
theorem Si{σ ρ:Type}{f:σ->Option (σ⊕ρ)}:∀{n m:Nat} {s:σ} {r:ρ},n<=m->lh f n s=some r->lh f m s=some r
 |0,_,_,_,_,h=>by cases h
 |n+1,0,_,_,hm,_=>by omega
 |n+1,m+1,s,r,hm,h=>by
  simp only[lh] at h ⊢;cases hs:f s with
  |none=>rw[hs] at h;cases h
  |some q=>
   rw[hs] at h;cases q with
   |inl s'=>exact Si (n:=n) (m:=m) om h
   |inr r'=>exact h
theorem I7{σ ρ:Type}{f:σ->Option (σ⊕ρ)}{s:σ}{r:ρ}(n:Nat)(h:lh f n s=some r):aG f s=some r:=by have hx:∃r n,lh f n s=some r:=⟨r,n,h⟩;unfold aG;rw[dif_pos hx];obtain⟨m,hm⟩:=Classical.choose_spec hx;have h1:=Si (Nat.le_max_left n m) h;have h2:=Si (Nat.le_max_right n m) hm;rw[h1] at h2;exact h2.symm
theorem qgc{σ ρ:Type}(f:σ->Option (σ⊕ρ))(s:σ):aG f s=match f s with
  |some (.inl s')=>aG f s'
  |some (.inr r)=>some r
  |none=>none:=by
 cases hf:f s with
 |none=>
  simp only;cases hr:aG f s with
  |none=>rfl
  |some r=>
   obtain⟨n,hn⟩:=Ku hr;cases n with
   |zero=>cases hn
   |succ n=>simp only[lh,hf] at hn;cases hn
 |some q=>
  cases q with
  |inr r=>exact I7 1 (by simp only[lh,hf])
  |inl s'=>
   simp only;cases hr:aG f s' with
   |some r=>obtain⟨n,hn⟩:=Ku hr;exact I7 (n+1) (by simp only[lh,hf];exact hn)
   |none=>
    cases hc:aG f s with
    |none=>rfl
    |some r=>
     obtain⟨n,hn⟩:=Ku hc;cases n with
     |zero=>cases hn
     |succ n=>simp only[lh,hf] at hn;rw[I7 n hn] at hr;cases hr
theorem gH{σ ρ:Type}{f:σ->Option (σ⊕ρ)}{s s':σ}(h:f s=some (.inl s')):aG f s=aG f s':=by rw[qgc,h]
theorem dS{σ ρ:Type}{f:σ->Option (σ⊕ρ)}{s:σ}{r:ρ}(h:f s=some (.inr r)):aG f s=some r:=by rw[qgc,h]
theorem I8{σ ρ:Type}{f:σ->Option (σ⊕ρ)}{I:σ->Prop}{Q:ρ->Prop}(μ:σ->Nat)(h:∀s,I s->(∃s',f s=some (.inl s')/\I s'/\μ s'<μ s)\/(∃r,f s=some (.inr r)/\Q r)):∀s,I s->∃r,aG f s=some r/\Q r:=by
 intro s;generalize hn:μ s=n
 induction n using Nat.strongRecOn generalizing s with
 |_ n ih=>
  intro hs;rcases h s hs with ⟨s',h1,h2,h3⟩|⟨r,h1,h2⟩
  ·rw[gH h1];exact ih (μ s') om s' rfl h2
  ·exact⟨r,dS h1,h2⟩
theorem aj{α β:Type}(a:α)(f:α->Option β):ag (some a) f=f a:=id (Eq.refl (f a))
theorem aI{α:Type}(a b:Option α):aq true a b=a:=id (Eq.refl a)
theorem aF{α:Type}(a b:Option α):aq false a b=b:=id (Eq.refl b)
theorem O0{n:Int}(h1:-9223372036854775808<=n)(h2:n<=9223372036854775807):IntKind.i64.wrap n=n:=by simp only[IntKind.wrap,IntKind.bits,IntKind.signed];simp;split<;>omega
theorem z1w(n:Int):IntKind.u8.wrap n=n % 256:=by simp only[IntKind.wrap,IntKind.bits,IntKind.signed];simp
theorem AO{a b:Int}(h1:-9223372036854775808<=a+b)(h2:a+b<=9223372036854775807):ar .i64 a b=a+b:=O0 h1 h2
theorem vm{a b:Int}(h1:-9223372036854775808<=a-b)(h2:a-b<=9223372036854775807):dK .i64 a b=a-b:=O0 h1 h2
theorem qyg{a b:Int}(h1:-9223372036854775808<=a*b)(h2:a*b<=9223372036854775807):oo .i64 a b=a*b:=O0 h1 h2
theorem quk{a:Int}(h1:-9223372036854775808<=a)(h2:a<=9223372036854775807):iZ .i64 a=a:=O0 h1 h2
theorem z0h(a:Int):iZ .u8 a=a % 256:=z1w a
theorem Bz{n:Int}:fJ .i64 n↔-9223372036854775808<=n/\n<=9223372036854775807:=by simp[fJ,IntKind.min,IntKind.max,IntKind.signed,IntKind.bits]
theorem qyh{a:Int}(s:Nat)(hs:s<=64):oi .i64 a (s:Int)=some (a / 2 ^ s):=by
 unfold oi;rw[if_neg om];have:min (s:Int).toNat IntKind.i64.bits=s:=by show min ((s:Int).toNat) 64=s;simp;omega
 rw[this,Int.fdiv_eq_ediv_of_nonneg _ (Int.pow_nonneg om)]
theorem KM{a b:Int}(ha:0<=a)(hb:0<b):fW a b=some (a % b):=by unfold fW;rw[if_neg om,Int.tmod_eq_emod_of_nonneg ha]
theorem dZ{α:Type}(a b:Int)(x y:Option α):aq (aB a b) x y=if a<b then x else y:=by unfold aB;by_cases h:a<b<;>simp[h,aq]
theorem z3n{α:Type}(a b:Int)(x y:Option α):aq (a8 a b) x y=if a<=b then x else y:=by unfold a8;by_cases h:a<=b<;>simp[h,aq]
theorem O1{α:Type}(a b:Int)(x y:Option α):aq (af a b) x y=if a=b then x else y:=by
 unfold af;by_cases h:a=b
 ·subst h;rw[if_pos rfl,beq_self_eq_true];rfl
 ·rw[if_neg h,beq_false_of_ne h];rfl
theorem KN{α:Type}(a b:List Int)(x y:Option α):aq (aS a b) x y=if a=b then x else y:=by
 unfold aS;by_cases h:a=b
 ·subst h;rw[if_pos rfl,beq_self_eq_true];rfl
 ·rw[if_neg h,beq_false_of_ne h];rfl
theorem AP(a:Int):af a a=true:=by simp[af]
theorem cu{a b:Int}:af a b=true↔a=b:=by simp[af]
theorem pD{a b:Int}(h:a≠b):af a b=false:=by simp[af,h]
theorem KO(a:List Int):aS a a=true:=by simp[aS]
theorem aT{α:Type}{l:List α}{i:Nat}{x:α}(h:l[i]?=some x):aJ l (i:Int)=some x:=by unfold aJ;rw[if_pos om];simpa using h
theorem Sj{n:Int}(h:n<=2147483648):fit n=some ():=by unfold fit;rw[if_pos h]
theorem nm{H:Type}{enc:TypeId×Value->H}{C:Cx}{W:World}{base:Nat}{laid:List (String×DataW Unit)}(hS:OZ C laid){f:FuncId}{fn:Func}{s:ChangeSpec}(Ts:List Ty)(tb:TypeId)(hk:KJ C fn.params.toList Ts=true)(hl:(fn.params.toList.all fun t=>decide (t<C.P.types.size))=true)(hf:fn.resultTypes=#[tb])(hm:C.P.underlying tb=some .bool)(hc:s.vars=[])(he:∀ds:List (DataW H),ds.length=Ts.length->s.fn H ds={results:=[.lit (.bool true)],args:=ds}){args:Array Value}{ds gs:List (DataW H)}{before:List MemPlace}
  (hg:∀(j:Nat) t v,fn.params[j]?=some t->args[j]?=some v->Value.okWide C.P W .any base t v) (hW:DataW.Whole enc C.P fn.params.toList s.vars false W args.toList ds gs before) (hL:laidMetH C.P laid W)
  (hj:∀x:sd Ts,pC Ts x->se Ts (ds++gs)=some x->Ed C ⟨f,⟨Ts.map Sh.d,[]⟩,⟨[Sh.d .bool],[]⟩,[]⟩ x (true,())):
  Calls C.P f args W fun e W'=>∃v,e=.returned v/\s.post enc C.P fn false true false false W args v W':=
 qkm hS Ts tb hk (fun t ht=>by simpa using zO.1 hl t ht) hf hm hc he hg hW hL hj
theorem qc7:∀s:List Int,strLt s s=false
 |[]=>rfl
 |a::s=>by simp[strLt,qc7 s]
theorem Sk:∀s t u:List Int,strLt s t=true->strLt t u=true->strLt s u=true
 |[],[],_,h,_=>by cases h
 |_::_,[],_,h,_=>by cases h
 |_,_::_,[],_,h=>by cases h
 |[],_::_,_::_,_,_=>rfl
 |a::s,b::t,c::u,h1,h2=>by
  simp only[strLt,Bool.or_eq_true,zd,decide_eq_true_eq] at h1 h2 ⊢;rcases h1 with h1|⟨h1,h3⟩<;>rcases h2 with h2|⟨h2,h4⟩
  ·exact .inl om
  ·exact .inl om
  ·exact .inl om
  ·exact .inr ⟨by omega,Sk s t u h3 h4⟩
theorem Sm:∀s t:List Int,strLt s t=false->strLt t s=false->s=t
 |[],[],_,_=>rfl
 |[],_::_,h,_=>by cases h
 |_::_,[],_,h=>by cases h
 |a::s,b::t,h1,h2=>by
  simp only[strLt,Bool.or_eq_false_iff,Bool.and_eq_false_iff,decide_eq_false_iff_not] at h1 h2;obtain⟨h1,h3⟩:=h1;obtain⟨h2,h4⟩:=h2;have e:a=b:=om
  subst e;rw[Sm s t (h3.resolve_left fun h=>h rfl) (h4.resolve_left fun h=>h rfl)]
end Ev
namespace Ev
def vn(l:List Int):Bool:=l.all (fun b=>decide (0<=b/\b<=255))&&decide (l.length<=9223372036854775807)
theorem qum{l:List Int}(h:vn l=true):(∀b,b∈l->0<=b/\b<=255)/\l.length<=9223372036854775807:=by unfold vn at h;simp only[zd,decide_eq_true_eq,zO] at h;exact h
end Ev

namespace Ev
open Go
def lI:Nat->Obj:=fun _=>.none
def nL(c:Int):List Int->Int
 |[]=>-1
 |b::r=>if b=c then 0 else if nL c r<0 then -1 else nL c r+1
theorem Sn(c:Int):∀l,-1<=nL c l/\nL c l<=l.length
 |[]=>⟨Int.le_refl _,(by show(-1:Int)<=0;decide)⟩
 |b::r=>by
  have:=Sn c r;unfold nL;rw[zw];split
  ·omega
  ·split<;>omega
theorem qkn(c:UInt8):∀l:List UInt8,Lib.indexByte l c=nL (c.toNat:Int) (l.map fun b=>(b.toNat:Int))
 |[]=>rfl
 |b::r=>by
  have ih:=qkn c r;have hg:=Sn (c.toNat:Int) (r.map fun b=>(b.toNat:Int));rw[zM];unfold Lib.indexByte nL;rw[ih];by_cases h:b=c
  ·subst h;simp
  ·have h1:(b==c)=false:=by simpa using h
   have h2:¬(b.toNat:Int)=(c.toNat:Int):=fun e=>h (UInt8.toNat_inj.1 om);rw[h1,if_neg h2];simp only[Bool.false_eq_true,if_false,beq_iff_eq];by_cases h3:nL (c.toNat:Int) (r.map fun b=>(b.toNat:Int))=-1
   ·rw[if_pos h3,if_pos om]
   ·rw[if_neg h3,if_neg om]
def z4u(f:Nat):lE:=⟨f,⟨[.d .str,.d (.int .u8)],[]⟩,⟨[.d (.int .i64)],[]⟩,[]⟩
theorem z3o{C:Cx}{f:Nat}(he:∃fn,C.P.funcs[f]?=some fn/\fn.body.isNone=false)(h0:∀(s:ByteArray) (c:Int) w,Calls C.P f #[.string s,.int .u8 c] w fun e w'=>e=.returned (.int .i64 (Lib.indexByte s.data.toList c.toNat.toUInt8))/\w'=w)(l:List Int)(c:Int):Ed C (z4u f) (l,c,()) (nL c l,()):=by
 intro X φ w zs hm hz;have hm:MRel C X φ lI w:=hm;have hz:bW φ lI (ah X φ lI w) w [.d .str l,.d (.int .u8) c] zs:=hz;refine⟨he,?_⟩;obtain⟨z0,r0,rfl,g1,z1,r1,rfl,g2,g3⟩:=hz;have g3:r1=[]:=g3;subst g3;obtain⟨s,rfl,hs,hl⟩:=ry g1;obtain⟨rfl,hc⟩:=nG g2;refine Calls.mono (h0 s c w) fun e w' ⟨e1,e2⟩=>?_;subst e1 e2;have hj:0<=c/\c<=255:=hc;have ec:((c.toNat.toUInt8).toNat:Int)=c:=by have:(c.toNat.toUInt8).toNat=c.toNat % 256:=rfl;rw[this];omega
 have hv:Lib.indexByte s.data.toList c.toNat.toUInt8=nL c l:=by rw[qkn,ec,hs]
 have hg:=Sn c l;have hf:l.length=s.size:=by rw[<-hs];simp
 unfold cj at hl;rw[hv];refine⟨[.int .i64 (nL c l)],φ,X,rfl,fun _ h=>h,hm,⟨_,[],rfl,lH ?_,rfl⟩,cL.refl _ _ _ _⟩;show(-9223372036854775808:Int)<=_/\_<=(9223372036854775807:Int);omega
end Ev
namespace Ev
end Ev

namespace Ev
open Go
theorem mkC{C:Cx}{k:Nat}{O:fI C.sigs}(b:Lf->fI C.sigs->ai (aL C.sigs k).ins.aW->Option (ai (aL C.sigs k).outs.aW)){f:ai (aL C.sigs k).ins.aW->Option (ai (aL C.sigs k).outs.aW)}(hO:Ft C O)(e:∀L R x,Iu L C R k x=b L R x)(o:∀x,b lf O x=f x):ae C k f:=fun x y h=>Call.mk (C:=C) O hO k x y (((e lf O x).trans (o x)).trans h)
theorem vo{C:Cx}{k:Nat}(b:Lf->fI C.sigs->ai (aL C.sigs k).ins.aW->Option (ai (aL C.sigs k).outs.aW)){F:(ai (aL C.sigs k).ins.aW->Option (ai (aL C.sigs k).outs.aW))->ai (aL C.sigs k).ins.aW->Option (ai (aL C.sigs k).outs.aW)}{O:(ai (aL C.sigs k).ins.aW->Option (ai (aL C.sigs k).outs.aW))->fI C.sigs}(hO:∀g,ae C k g->Ft C (O g))(e:∀L R x,Iu L C R k x=b L R x)(o:∀g x,b lf (O g) x=F g x):ae C k (fA F):=z1v fun g hg x y h=>Call.mk (C:=C) (O g) (hO g hg) k x y (((e lf (O g) x).trans (o g x)).trans h)
end Ev
namespace Ev
def pE:Nat->Nat->List Int
 |0,_=>[]
 |f+1,u=>if u<10 then [48+(u:Int)] else pE f (u / 10)++[48+((u % 10:Nat):Int)]
def pF(n:Int):List Int:=if n<0 then 45::pE 20 n.natAbs else pE 20 n.toNat
theorem Sq:∀f u,(pE f u).length<=f
 |0,_=>Nat.le_refl _
 |f+1,u=>by
  unfold pE;split
  ·simp
  ·have:=Sq f (u / 10);rw[zm,List.length_singleton];omega
theorem O2(n:Int):(pF n).length<=21:=by
 unfold pF;split
 ·have:=Sq 20 n.natAbs;rw[zw];omega
 ·have:=Sq 20 n.toNat
  omega
end Ev

namespace Ev
open Go Go.RowKit Go.Sort
theorem z3p{C:Cx}{X:Nat->Prop}{φ:Nat->Addr}{w w':World}(hm:MRel C X φ lI w)(hb:Below w.heap.size w w'){b:ByteArray}{l:List Int}(hl:b.data.toList.map (fun b=>(b.toNat:Int))=l)(hs:b.size<=cj):∃cm φ' X',Ending.returned (.string b)=.returned (rW cm)/\(∀b,X b->X' b)/\MRel C X' φ' (a7 (⟨[.d .str],[]⟩:Shape) (l,())) w'/\bW φ' (a7 (⟨[.d .str],[]⟩:Shape) (l,())) (ah X' φ' (a7 (⟨[.d .str],[]⟩:Shape) (l,())) w') w' (fill cg bO (⟨[.d .str],[]⟩:Shape) (l,())).1 cm/\cL [] φ lI w φ' (a7 (⟨[.d .str],[]⟩:Shape) (l,())) w':=by
 have hc:Comes C X φ φ lI [] w w' (.d .str l) (.string b):=
  Comes.make hm hb.size (fun b he _=>hb.block b he) (fun _ _=>rfl) (fun _ _ _=>rfl) (fun id h=>absurd h (List.not_mem_nil)) (fun id h=>absurd h (List.not_mem_nil)) (fun i j h=>absurd h (List.not_mem_nil))
   (fun _ _ _ id h=>absurd h (List.not_mem_nil)) (fun id h=>absurd h (List.not_mem_nil)) (fun _ _ _=>J4 hl hs) ⟨hb.os,hb.output⟩
 exact⟨[.string b],φ,X,rfl,fun _ h=>h,hc.mem,⟨.string b,[],rfl,hc.val,rfl⟩,(cL.refl [] φ lI w).step hc⟩
theorem qko{imm:Nat->Prop}{w:World}{k:IntKind}:∀(l:List Int) (cs:List Value),bf (aC imm w (.int k)) l cs->cs=l.map fun z=>Value.int k z
 |[],cs,h=>h
 |x::l,cs,⟨c,d,e,h1,h2⟩=>by rw[e,qko l d h2,h1.1];rfl
theorem z3q{C:Cx}{X:Nat->Prop}{φ:Nat->Addr}{o:Nat->Obj}{w:World}(hm:MRel C X φ o w){name:String}{g n:Nat}{k:IntKind}{zs:List Int}(hg:C.P.globalNamed name=some g)(h:C.kl g=some ⟨.arr n (.int k),zs⟩):Lib.TabIs C.P w name k zs:=by
 obtain⟨a,cs,e,_,hi,hr,hc⟩:=hm.fp g _ _ h;injection e with e;injection e with e;subst e;obtain⟨c,el,fz,h1,h2⟩:=hm.IB g _ _ h;have hl:=gB _ _ _ hr;have he:cs=zs.map fun z=>Value.int k z:=qko zs cs hr.2;unfold Lib.TabIs World.var?;rw[hg,Option.bind_some,h1];have hf:c.toList=cs:=by
  apply List.ext_getElem
  ·rw[Array.length_toList];omega
  ·intro i i1 i2;have:=hc i i2;unfold World.cell? at this;simp only[zL] at this;rw[h1] at this;rw[Array.length_toList] at i1;rw[Array.getElem_toList];simpa[i1] using this
 show some c=_;rw[<-he,<-hf,Array.toArray_toList]
theorem qoy:∀(f u:Nat),u<10 ^ (f+1)->pE (f+1) u=(Lib.decDigits u).map fun b=>(b.toNat:Int):=by
 intro f
 induction f with
 |zero=>
  intro u h;have h:u<10:=by simpa using h
  unfold pE;rw[Lib.decDigits,if_pos h,dif_pos h];have e:(UInt8.ofNat (48+u)).toNat=48+u:=by rw[UInt8.toNat_ofNat'];omega
  simp only[zM,List.map_nil,e];congr 1
 |succ f ih=>
  intro u h;unfold pE;rw[Lib.decDigits];by_cases hu:u<10
  ·rw[if_pos hu,dif_pos hu];have e:(UInt8.ofNat (48+u)).toNat=48+u:=by rw[UInt8.toNat_ofNat'];omega
   simp only[zM,List.map_nil,e];congr 1
  ·rw[if_neg hu,dif_neg hu,ih (u / 10) (by rw[Nat.pow_succ] at h;omega),zA];have e:(UInt8.ofNat (48+u % 10)).toNat=48+u % 10:=by rw[UInt8.toNat_ofNat'];omega
   simp only[zM,List.map_nil,e];congr 2
theorem qoz{n:Int}(h0:-9223372036854775808<=n)(h1:n<=9223372036854775807):(Lib.itoa n).map (fun b=>(b.toNat:Int))=pF n:=by
 have hp:(10:Nat) ^ (19+1)=100000000000000000000:=dc
 unfold Lib.itoa pF;by_cases h:n<0
 ·rw[if_pos h,if_pos h,qoy 19 _ (by rw[hp];omega)];rfl
 ·rw[if_neg h,if_neg h,qoy 19 _ (by rw[hp];omega)]
def z3r(f:Nat):lE:=⟨f,⟨[.d (.int .i64),.d (.int .i64)],[]⟩,⟨[.d .str],[]⟩,[]⟩
theorem z1x{C:Cx}{f:Nat}(he:∃fn,C.P.funcs[f]?=some fn/\fn.body.isNone=false){nmS : String} {g m:Nat}{zs:List Int}(hg:C.P.globalNamed nmS=some g)(ht:C.kl g=some ⟨.arr m (.int .u64),zs⟩)(h0:∀(n:Int),-9223372036854775808<=n->n<=9223372036854775807->∀w,Lib.TabIs C.P w nmS .u64 zs->Calls C.P f #[.int .i64 n,.int .i64 10] w fun e w'=>e=.returned (.string ⟨(Lib.itoa n).toArray⟩)/\∃k os,w'=grow (w.drewN k) os)(n:Int)(hn:-9223372036854775808<=n)(hc:n<=9223372036854775807):Ed C (z3r f) (n,(10:Int),()) (pF n,()):=by
 intro X φ w zs' hm hz;have hm:MRel C X φ lI w:=hm;have hz:bW φ lI (ah X φ lI w) w [.d (.int .i64) n,.d (.int .i64) (10:Int)] zs':=hz;refine⟨he,?_⟩;obtain⟨z0,r0,rfl,g1,z1,r1,rfl,g2,g3⟩:=hz;have g3:r1=[]:=g3;subst g3;obtain⟨rfl,_⟩:=nG g1;obtain⟨rfl,_⟩:=nG g2;refine Calls.mono (h0 n hn hc w (z3q hm hg ht)) fun e w' ⟨e1,k,os,e2⟩=>?_;subst e1 e2;refine z3p (w':=grow (w.drewN k) os) hm (b:=⟨(Lib.itoa n).toArray⟩) ⟨rfl,rfl,rfl,?_,fun i hi=>?_⟩ ?_ ?_
 ·show w.heap.size<=(w.heap++os).size;rw[Array.size_append];omega
 ·show(w.heap++os)[i]?=_;rw[Array.getElem?_append_left hi]
 ·exact qoz hn hc
 ·have:=congrArg List.length (qoz hn hc);rw[zC] at this;have h2:=O2 n;show(Lib.itoa n).toArray.size<=cj;unfold cj;simp only[List.size_toArray];omega
end Ev
namespace Ev
open Go
def rB:List Int->List (List Int)
 |[]=>[[]]
 |b::l=>if b=46 then []::rB l else match rB l with
  |[]=>[[b]]
  |h::t=>(b::h)::t
def KP:List Int->Bool
 |[b]=>decide (48<=b)&&decide (b<56)
 |_=>false
def pG:List Int->Int
 |b::_=>b-48
 |[]=>0
def KQ(x:List Int):Sl Int×Bool×Unit:=if x=[] then(⟨true,[]⟩,true,()) else if(rB x).all KP then(⟨false,(rB x).map pG⟩,true,()) else(⟨true,[]⟩,false,())
end Ev