/- From what a row reads to data; calls as functions; numbers. No statement of its own about the program. -/
import Derived.Test.YtdgmbemagoakjaaGreatDoorEvH
import Derived.ChangeArms
import Derived.OpenShut
import Derived.ChangeSame
import Derived.ReadAgain
import Derived.ChangeStays
import Derived.WideShapes
import Derived.RowKit2
import Derived.Lib.Bytealg
import Derived.Lib.LaidTab
import Derived.Below
import Derived.Deep.Draws
import Derived.Sort.Grow
import Derived.Lib.ItoaNum
namespace Ev
open Go
def Ow{α β:Type}(f:α->Option β):List α->Option (List β)
 |[]=>some []
 |x::r=>match f x with
  |some y=>match Ow f r with
   |some l=>some (y::l)
   |none=>none
  |none=>none
def dI{H:Type}:(T:Ty)->List (DataW H)->Option (den T)
 |.unit,l=>match l with
  |[]=>some ()
  |_=>none
 |.pair a b,l=>match l with
  |d::r=>match dI a [d] with
   |some x=>match dI b r with
    |some y=>some (x,y)
    |none=>none
   |none=>none
  |[]=>none
 |.st p,l=>match l with
  |[.agg ps]=>dI p ps
  |_=>none
 |.int k,l=>match l with
  |[.lit (.int k' n)]=>if k'=k then some n else none
  |_=>none
 |.bool,l=>match l with
  |[.lit (.bool b)]=>some b
  |_=>none
 |.str,l=>match l with
  |[.lit (.string s)]=>some (s.map fun b=>(b.toNat:Int))
  |_=>none
 |.arr n e,l=>match l with
  |[.agg ps]=>match Ow (fun d=>dI e [d]) ps with
   |some l=>if l.length=n then some l else none
   |none=>none
  |_=>none
 |.sl e,l=>match l with
  |[.nil]=>some (⟨true,[]⟩:Sl (den e))
  |[.slice es _]=>match Ow (fun d=>dI e [d]) es with
   |some l=>some (⟨false,l⟩:Sl (den e))
   |none=>none
  |_=>none
 |.ks _,_=>none
 |.ej,_=>none
 |.cJ,_=>none
def iV:Ty->Bool
 |.ks _=>false
 |.ej=>false
 |.cJ=>false
 |.pair a b=>iV a&&iV b
 |.st p=>iV p
 |.arr _ e=>iV e
 |.sl e=>iV e
 |_=>true
theorem qx4:∀{T:Ty},iV T=true->NT T=T
 |.ks _,h=>by cases h
 |.ej,h=>by cases h
 |.cJ,h=>by cases h
 |.int _,_=>rfl
 |.bool,_=>rfl
 |.str,_=>rfl
 |.sl _,_=>rfl
 |.unit,_=>rfl
 |.pair _ _,_=>rfl
 |.st _,_=>rfl
 |.arr _ _,_=>rfl
theorem l9.lt{C:Cx}{t:TypeId}{T:Ty}(h:l9 C t T):t<C.P.types.size:=by obtain⟨i,_,_,h2,_⟩:=h.info;have:=(zH.1 h2).1;simpa using this
theorem z1b{W:World}{a:Addr}{v:Value}(h:W.cell? a=some v):a.block<W.heap.size:=by
 unfold World.cell? at h;rcases Nat.lt_or_ge a.block W.heap.size with h'|h'
 ·exact h'
 ·rw[zY h'] at h;cases h
theorem MD{C:Cx}{t:TypeId}{T:Ty}(h:l9 C t T):C.P.cellsOf t=aI T:=by obtain⟨i,z,h1,_,h2,_⟩:=h.info;unfold Program.cellsOf;rw[h1];exact h2
section
variable {H:Type} {enc:TypeId×Value→H} {C:Cx} {W:World} {base:Nat} {spare:Nat→Bool} {held:Bool} {imm:Nat→Prop}
def C7(C:Cx)(enc:TypeId×Value->H)(W:World)(base:Nat)(spare:Nat->Bool)(held:Bool)(imm:Nat->Prop)(T:Ty):Prop:=∀t fuel cs y,C.ty t=some T->DataW.trod enc C.P W base spare held fuel t cs=some y->∃x,az imm W T x cs/\dI T [y.1]=some x
theorem qrg{e:Ty}:∀(n:Nat) (xs:List (DataW H×List MemPlace)) (f:Nat->List Value),xs.length=n->(∀i y,xs[i]?=some y->∃x,az imm W e x (f i)/\dI e [y.1]=some x)->∃l:List (den e),l.length=n/\bD (az imm W e) l ((List.range n).flatMap f)/\Ow (fun d=>dI e [d]) (xs.map (·.1))=some l:=by
 intro n
 induction n with
 |zero=>intro xs f hl _;have:xs=[]:=zQ hl;subst this;exact⟨[],rfl,rfl,rfl⟩
 |succ n ih=>
  intro xs f hl h;cases xs with
  |nil=>cases hl
  |cons y xs=>
   obtain⟨x,h1,h2⟩:=h 0 y rfl;obtain⟨l,g1,g2,g3⟩:=ih xs (fun i=>f (i+1)) (by simpa using hl) (fun i z hz=>h (i+1) z (by simpa using hz));refine⟨x::l,by simp[g1],?_,?_⟩
   ·rw[List.range_succ_eq_map,List.flatMap_cons,List.flatMap_map];exact⟨_,_,rfl,h1,g2⟩
   ·simp only[zI,Ow,h2,g3]
theorem qx5{k:Nat}:∀(n:Nat) (cs:List Value),cs.length=n*k->(List.range n).flatMap (fun i=>(cs.drop (i*k)).take k)=cs:=by
 intro n
 induction n with
 |zero=>intro cs h;simp at h;subst h;rfl
 |succ n ih=>
  intro cs h;rw[List.range_succ_eq_map,List.flatMap_cons,List.flatMap_map];have h1:∀i,(cs.drop ((i+1)*k)).take k=((cs.drop k).drop (i*k)).take k:=fun i=>by rw[List.drop_drop];congr 2;rw[Nat.succ_mul];omega
  simp only[Nat.succ_eq_add_one,h1];rw[ih (cs.drop k) (by rw[zD,h,Nat.succ_mul];omega)];simp
theorem qx6(hC:cu C)(hA:∀b,spare b=true)(hq:∀b,b<W.heap.size->imm b)(ht:∀t e,t<C.P.types.size->C.P.underlying t=some (.slice e)->0<C.P.cellsOf e)(T:Ty):iV T=true->C7 C enc W base spare held imm T/\(∀(fs:List Field) (off:Nat) (n:Nat) (cs:List Value) (xs:List (DataW H×List MemPlace)),qI C fs T off=true->off+aI T<=cs.length->xs.length=fs.length->(∀(i:Nat) (f:Field),fs[i]?=some f->DataW.trod enc C.P W base spare held n f.type ((cs.drop f.offset).take (C.P.cellsOf f.type))=xs[i]?)->∃x,az imm W T x ((cs.drop off).take (aI T))/\dI T (xs.map (·.1))=some x):=by
 have one:∀(T:Ty),iV T=true->C7 C enc W base spare held imm T->∀(f:Field) (off:Nat) (n:Nat) (cs:List Value) (xs:List (DataW H×List MemPlace)),qI C [f] T off=true->off+aI T<=cs.length->
   xs.length=1->(∀(i:Nat) (f':Field),[f][i]?=some f'->DataW.trod enc C.P W base spare held n f'.type ((cs.drop f'.offset).take (C.P.cellsOf f'.type))=xs[i]?)->
   ∃x,az imm W T x ((cs.drop off).take (aI T))/\dI T (xs.map (·.1))=some x:=by
  intro T hk hT f off n cs xs hf _ hl h;have hf:(C.is f.type (NT T)&&Nat.beq f.offset off)=true:=by cases T<;>exact hf
  rw[qx4 hk,zd] at hf;obtain⟨y,rfl⟩:∃y,xs=[y]:=by
   match xs,hl with
   |[y],_=>exact⟨y,rfl⟩
  have hd:=bP hf.1;have hx:=zg hf.2;have h0:=h 0 f rfl;rw[MD (hC.dQ _ _ hd),hx] at h0;obtain⟨x,h1,h2⟩:=hT _ _ _ _ hd h0;exact⟨x,h1,h2⟩
 have jI:∀(T:Ty),iV T=true->(∀a b,T≠.pair a b)->T≠.unit->C7 C enc W base spare held imm T->(∀(fs:List Field) (off:Nat) (n:Nat) (cs:List Value) (xs:List (DataW H×List MemPlace)),qI C fs T off=true->off+aI T<=cs.length->xs.length=fs.length->
   (∀(i:Nat) (f:Field),fs[i]?=some f->DataW.trod enc C.P W base spare held n f.type ((cs.drop f.offset).take (C.P.cellsOf f.type))=xs[i]?)->
   ∃x,az imm W T x ((cs.drop off).take (aI T))/\dI T (xs.map (·.1))=some x):=by
  intro T hk hp hu hT fs off n cs xs hf he hl h;cases fs with
  |nil=>cases T<;>first|exact absurd rfl hu|cases hf
  |cons f fs=>
   cases fs with
   |nil=>exact one T hk hT f off n cs xs hf he hl h
   |cons g r=>cases T<;>first|exact absurd rfl (hp _ _)|cases hf
 induction T with
 |int k=>
  intro hk;have hT:C7 C enc W base spare held imm (.int k):=by
   intro t fuel cs y hd h;obtain⟨d,h1,h2,h3⟩:=(hC.dQ _ _ hd).desc;cases d<;>simp only[l7] at h3<;>try (cases h3;done)
   have:=NR h3;subst this;obtain⟨n,rfl,rfl,hw⟩:=DataW.trod_int h2 h;refine⟨n,⟨rfl,?_⟩,by simp[dI]⟩;simpa[Lit.wf,fO] using hw
  exact⟨hT,jI _ hk (fun _ _ h=>by cases h) (fun h=>by cases h) hT⟩
 |ej=>intro hk;cases hk
 |cJ=>intro hk;cases hk
 |bool=>
  intro hk;have hT:C7 C enc W base spare held imm .bool:=by
   intro t fuel cs y hd h;obtain⟨d,h1,h2,h3⟩:=(hC.dQ _ _ hd).desc;cases d<;>simp only[l7] at h3<;>try (cases h3;done)
   obtain⟨n,rfl,rfl⟩:=DataW.trod_bool h2 h;exact⟨n,rfl,rfl⟩
  exact⟨hT,jI _ hk (fun _ _ h=>by cases h) (fun h=>by cases h) hT⟩
 |str=>
  intro hk;have hT:C7 C enc W base spare held imm .str:=by
   intro t fuel cs y hd h;obtain⟨d,h1,h2,h3⟩:=(hC.dQ _ _ hd).desc;cases d<;>simp only[l7] at h3<;>try (cases h3;done)
   obtain⟨s,rfl,rfl,hs⟩:=DataW.trod_string h2 h;exact⟨_,⟨s,rfl,rfl,hs⟩,rfl⟩
  exact⟨hT,jI _ hk (fun _ _ h=>by cases h) (fun h=>by cases h) hT⟩
 |unit=>
  intro _;refine⟨?_,?_⟩
  ·intro t fuel cs y hd h;obtain⟨d,h1,h2,h3⟩:=(hC.dQ _ _ hd).desc;cases d<;>simp only[l7] at h3<;>first|(cases h3;done)|(rename_i k;cases k<;>cases h3)
  ·intro fs off n cs xs hf _ hl _;cases fs with
   |nil=>have:xs=[]:=zQ hl;subst this;exact⟨(),by simp[aI,az],rfl⟩
   |cons f r=>
    cases r with
    |nil=>simp only[qI,zd] at hf;have hd:=bP hf.1;obtain⟨d,h1,h2,h3⟩:=(hC.dQ _ _ hd).desc;cases d<;>simp only[l7] at h3<;>first|(cases h3;done)|(rename_i k;cases k<;>cases h3)
    |cons g r=>cases hf
 |st p ih=>
  intro hk;replace ih:=ih hk;have hT:C7 C enc W base spare held imm (.st p):=by
   intro t fuel cs y hd h;have hg:=hC.dQ _ _ hd;obtain⟨d,h1,h2,h3⟩:=hg.desc;cases d<;>simp only[l7] at h3<;>try (cases h3;done)
   rename_i fs;obtain⟨xs,n,rfl,rfl,hl,he,hf⟩:=DataW.trod_struct h2 h;rw[MD hg] at hl;have hl:cs.length=aI p:=hl;obtain⟨x,g1,g2⟩:=ih.2 fs.toList 0 n cs xs h3 om (by simpa using he) (fun i f hi=>hf i f (by rw[<-zN];exact hi));rw[List.drop_zero,zT om] at g1;exact⟨x,g1,g2⟩
  exact⟨hT,jI _ hk (fun _ _ h=>by cases h) (fun h=>by cases h) hT⟩
 |pair a b nA jD=>
  intro hk;simp only[iV,zd] at hk;replace nA:=nA hk.1;replace jD:=jD hk.2;refine⟨?_,?_⟩
  ·intro t fuel cs y hd h;obtain⟨d,h1,h2,h3⟩:=(hC.dQ _ _ hd).desc;cases d<;>simp only[l7] at h3<;>first|(cases h3;done)|(rename_i k;cases k<;>cases h3)
  ·intro fs off n cs xs hf he hl h;cases fs with
   |nil=>cases hf
   |cons f r=>
    cases r with
    |nil=>simp only[qI,zd] at hf;have hd:=bP hf.1;obtain⟨d,h1,h2,h3⟩:=(hC.dQ _ _ hd).desc;cases d<;>simp only[l7] at h3<;>first|(cases h3;done)|(rename_i k;cases k<;>cases h3)
    |cons g r=>
     simp only[qI,zd] at hf;cases xs with
     |nil=>cases hl
     |cons y xs=>
      simp only[aI] at he;have hd:=bP hf.1.1;have hx:=zg hf.1.2;have h0:=h 0 f rfl;rw[MD (hC.dQ _ _ hd),hx] at h0;obtain⟨x1,g1,g2⟩:=nA.1 _ _ _ _ hd h0;obtain⟨x2,g3,g4⟩:=jD.2 (g::r) (off+aI a) n cs xs hf.2 om (by simpa using hl) (fun i f' hi=>h (i+1) f' (by simpa using hi));refine⟨(x1,x2),⟨_,_,?_,g1,g3⟩,?_⟩
      ·show(cs.drop off).take (aI a+aI b)=_;rw[List.take_add,List.drop_drop]
      ·simp only[zI,dI,g2,g4]
 |arr n e ih=>
  intro hk;replace ih:=ih hk;have hT:C7 C enc W base spare held imm (.arr n e):=by
   intro t fuel cs y hd h;have hg:=hC.dQ _ _ hd;obtain⟨d,h1,h2,h3⟩:=hg.desc;cases d<;>simp only[l7] at h3<;>try (cases h3;done)
   rename_i m te;rw[zd] at h3;have:=zg h3.1;subst this;have hn:=bP h3.2;obtain⟨xs,k,rfl,rfl,hl,he,hf⟩:=DataW.trod_array h2 h;rw[MD hg] at hl;have hl:cs.length=m*aI e:=hl;rw[MD (hC.dQ _ _ hn)] at hf;obtain⟨l,g1,g2,g3⟩:=qrg (imm:=imm) (W:=W) (e:=e) m xs (fun i=>(cs.drop (i*aI e)).take (aI e)) he (fun i y hy=>by
    have hi:i<m:=by
     rcases Nat.lt_or_ge i m with h|h
     ·exact h
     ·rw[zU om] at hy;cases hy
    have:=hf i hi;rw[hy] at this;exact ih.1 _ _ _ _ hn this)
   rw[qx5 m cs hl] at g2;refine⟨l,⟨g1,g2⟩,?_⟩;simp only[dI,g3,g1,if_true]
  exact⟨hT,jI _ hk (fun _ _ h=>by cases h) (fun h=>by cases h) hT⟩
 |ks q _=>intro hk;cases hk
 |sl e ih=>
  intro hk;replace ih:=ih hk;have hT:C7 C enc W base spare held imm (.sl e):=by
   intro t fuel cs y hd h;have hg:=hC.dQ _ _ hd;obtain⟨d,h1,h2,h3⟩:=hg.desc;cases d<;>simp only[l7] at h3<;>try (cases h3;done)
   rename_i te;have hn:=bP h3;rcases DataW.trod_slice h2 h with ⟨rfl,rfl⟩|⟨a,len,cap,elems,rest,n,rfl,rfl,rfl,hb,hI,hJ,he,hf,hr,_⟩
   ·exact⟨⟨true,[]⟩,⟨_,rfl,Nat.zero_le _,.inl ⟨rfl,rfl,rfl⟩⟩,rfl⟩
   ·have hB:=ht t te hg.lt h2;have first:cap≠0->∃v,W.cell? a=some v:=by
     intro hc;have hD:∃y,(W.cells? base (a.add (0*C.P.cellsOf te)) (C.P.cellsOf te)).bind (DataW.trod enc C.P W base spare held n te)=some y:=by
      by_cases h0:len=0
      ·obtain⟨r1,r2⟩:=hr (hA _);have:=r2 0 om;rw[h0,Nat.add_zero,ze om] at this;exact⟨_,this⟩
      ·have:=hf 0 om;rw[ze om] at this;exact⟨_,this⟩
     obtain⟨y,hy⟩:=hD;obtain⟨ci,h5,_⟩:=zW.1 hy;obtain⟨_,h6,h7⟩:=World.cells?_some h5;have h8:=h7 0 hB;rw[ze om,Nat.zero_mul,show(a.add 0).add 0=a from rfl] at h8;exact⟨_,h8⟩
    have hs:cap≠0->a.spot=none:=fun hc=>by
     obtain⟨v,hv⟩:=first hc
     exact World.cell?_spot hv
    have hi:len≠0->imm a.block:=fun h0=>by
     obtain⟨v,hv⟩:=first om
     exact hq _ (z1b hv)
    rw[MD (hC.dQ _ _ hn)] at hf;have tF:∀i,i<len->∃ci,W.cells? base (a.add (i*aI e)) (aI e)=some ci/\DataW.trod enc C.P W base spare held n te ci=elems[i]?:=fun i hi=>by have:=hf i hi;rw[ze om] at this;obtain⟨ci,h1,h2⟩:=zW.1 this;exact⟨ci,h1,by rw[h2,ze om]⟩
    let f:Nat->List Value:=fun i=>(W.cells? base (a.add (i*aI e)) (aI e)).getD [];obtain⟨l,g1,g2,g3⟩:=qrg (imm:=imm) (W:=W) (e:=e) len elems f he (fun i y hy=>by
     have hi:i<len:=by
      rcases Nat.lt_or_ge i len with h|h
      ·exact h
      ·rw[zU om] at hy;cases hy
     obtain⟨ci,h1,h2⟩:=tF i hi;rw[hy] at h2;show ∃x,az imm W e x ((W.cells? base (a.add (i*aI e)) (aI e)).getD [])/\_;rw[h1,Option.getD_some];exact ih.1 _ _ _ _ hn h2)
    have hE:∀i,i<len->(f i).length=aI e/\∀j (hj:j<(f i).length),W.cell? ⟨a.block,a.off+i*aI e+j,none⟩=some (f i)[j]:=fun i hi=>by
     obtain⟨ci,h1,_⟩:=tF i hi;have hF:f i=ci:=by show(W.cells? base (a.add (i*aI e)) (aI e)).getD []=ci;rw[h1];rfl
     obtain⟨_,h4,h5⟩:=World.cells?_some h1;rw[hF];refine⟨h4,fun j hj=>?_⟩;have:=h5 j om;rw[ze hj] at this;rw[<-this];have:(a.add (i*aI e)).add j=⟨a.block,a.off+i*aI e+j,none⟩:=by
      obtain⟨ab,ao,as⟩:=a;have hs:as=none:=hs om;subst hs;simp only[Addr.add];by_cases h0:i*aI e=0
      ·by_cases ho:j=0
       ·simp[h0,ho]
       ·simp[h0,ho]
      ·by_cases ho:j=0
       ·simp[h0,ho]
       ·simp[h0,ho]
     rw[this]
    have hG:jC W a ((List.range len).flatMap f):=by
     clear g2 g3 h hf;have key:∀m,m<=len->jC W a ((List.range m).flatMap f)/\((List.range m).flatMap f).length=m*aI e:=by
      intro m
      induction m with
      |zero=>intro _;exact⟨fun j hj=>by simp at hj,by simp⟩
      |succ m ihm=>
       intro hm;obtain⟨k1,k2⟩:=ihm om;obtain⟨k3,k4⟩:=hE m om;rw[List.range_succ,List.flatMap_append,List.flatMap_singleton];refine⟨fun j hj=>?_,by rw[zh,k2,k3,Nat.succ_mul]⟩;by_cases hz:j<((List.range m).flatMap f).length
       ·rw[List.getElem_append_left hz];exact k1 j hz
       ·rw[List.getElem_append_right om];have hH:j-((List.range m).flatMap f).length<(f m).length:=by rw[zh] at hj;omega
        have:=k4 _ hH;rw[<-this];congr 2;omega
     exact(key len (Nat.le_refl _)).1
    refine⟨⟨false,l⟩,⟨_,rfl,?_,.inr ⟨rfl,a,cap,_,?_,hs,fun h=>hi fun h0=>h (zQ (g1.trans h0)),g2,hG,?_⟩⟩,?_⟩
    ·show l.length<=bU;have:maxLen=bU:=rfl;omega
    ·show Value.slice (some a) len cap=Value.slice (some a) l.length cap;rw[g1]
    ·show l.length<=cap;omega
    ·simp only[dI,g3]
  exact⟨hT,jI _ hk (fun _ _ h=>by cases h) (fun h=>by cases h) hT⟩
end
end Ev
namespace Ev
open Go Go.ChangeShapes Go.WideShapes Go.RowKit
def fk:(T:Ty)->den T->Prop
 |.int k,n=>fO k n
 |.bool,_=>True
 |.ej,_=>True
 |.cJ,_=>True
 |.str,l=>List.length l<=bU/\∀b,b∈(l:List Int)->0<=b/\b<256
 |.unit,_=>True
 |.pair a b,x=>fk a x.1/\fk b x.2
 |.st p,x=>fk p x
 |.arr n e,l=>List.length l=n/\∀x,x∈(l:List (den e))->fk e x
 |.sl e,s=>s.l.length<=bU/\(s.nil=true->s.l=[])/\∀x,x∈s.l->fk e x
 |.ks _,_=>True
theorem WL{α:Type}{f:α->List Value->Prop}{g:α->Prop}(h:∀x c,f x c->g x):∀{l:List α} {cs:List Value},bD f l cs->∀x,x∈l->g x
 |y::l,_,⟨c,d,e,h1,h2⟩,x,hx=>by
  rcases zt.1 hx with rfl|hx
  ·exact h _ _ h1
  ·exact WL h h2 x hx
theorem ME{imm:Nat->Prop}{w:World}:∀(T:Ty) (x:den T) (cs:List Value),az imm w T x cs->fk T x
 |.int _,_,_,h=>h.2
 |.bool,_,_,_=>trivial
 |.ej,_,_,_=>trivial
 |.cJ,_,_,_=>trivial
 |.str,_,_,⟨s,_,h2,h3⟩=>by subst h2;refine⟨by simpa using h3,fun b hb=>?_⟩;obtain⟨c,_,rfl⟩:=zZ.1 hb;have:=c.toNat_lt;omega
 |.unit,_,_,_=>trivial
 |.ks _,_,_,_=>trivial
 |.pair a b,x,_,⟨c,d,_,h1,h2⟩=>⟨ME a x.1 c h1,ME b x.2 d h2⟩
 |.st p,x,cs,h=>ME p x cs h
 |.arr _ e,_,_,⟨h1,h2⟩=>⟨h1,WL (fun x c h=>ME e x c h) h2⟩
 |.sl e,s,_,⟨v,_,h2,h3⟩=>by
  rcases h3 with ⟨h3,h4,_⟩|⟨h3,a,cap,ec,_,_,_,h5,_⟩
  ·exact⟨h2,fun _=>h4,fun x hx=>by rw[h4] at hx;cases hx⟩
  ·exact⟨h2,(fun h=>by rw[h3] at h;cases h),WL (fun x c h=>ME e x c h) h5⟩
abbrev rz(Ts:List Ty):Type:=aj (gK (Ts.map Sh.d) [])
def oY:(Ts:List Ty)->rz Ts->Prop
 |[],_=>True
 |T::Ts,x=>fk T x.1/\oY Ts x.2
def rA{H:Type}:(Ts:List Ty)->List (DataW H)->Option (rz Ts)
 |[],[]=>some ()
 |T::Ts,d::ds=>match dI T [d] with
  |some x=>match rA Ts ds with
   |some y=>some (x,y)
   |none=>none
  |none=>none
 |_,_=>none
def Ox(C:Cx):List TypeId->List Ty->Bool
 |[],[]=>true
 |t::ts,T::Ts=>(C.is t T&&iV T)&&Ox C ts Ts
 |_,_=>false
theorem WM{H:Type}:∀{Ts:List Ty} {ds:List (DataW H)} {x:rz Ts},rA Ts ds=some x->ds.length=Ts.length:=by
 intro Ts
 induction Ts with
 |nil=>intro ds x h;cases ds with|nil=>rfl|cons d ds=>cases h
 |cons T Ts ih=>
  intro ds x h;cases ds with
  |nil=>cases h
  |cons d ds=>
   simp only[rA] at h;split at h
   ·split at h
    ·rename_i y hy;simp only[zf,ih hy]
    ·cases h
   ·cases h
section
variable {H:Type} {enc:TypeId×Value→H} {C:Cx} {W:World} {base:Nat} {imm:Nat→Prop} {φ:Nat→Addr} {o:Nat→Obj}
theorem S4{v:Value}(h:Ic v=false):v.cells=#[v]:=by cases v<;>first|rfl|cases h
theorem z6d(hC:cu C)(hd:∀t e,t<C.P.types.size->C.P.underlying t=some (.slice e)->0<C.P.cellsOf e){T:Ty}{t:TypeId}{v:Value}{fuel:Nat}{y:DataW H×List MemPlace}{sp:Nat->Bool}{held:Bool}(hg:∀b,sp b=true)(hk:iV T=true)(hf:C.ty t=some T)(h:DataW.trod enc C.P W 0 sp held fuel t v.cells.toList=some y)(hv:Value.okWide C.P W .any base t v):∃x,ba (fun b=>b<W.heap.size) W T x v/\dI T [y.1]=some x/\fk T x:=by
 obtain⟨x,h1,h2⟩:=(qx6 (imm:=fun b=>b<W.heap.size) hC hg (fun _ h=>h) hd T hk).1 t fuel _ y hf h;refine⟨x,?_,h2,ME _ _ _ h1⟩;obtain⟨d,h4,h5,h6⟩:=(hC.dQ _ _ hf).desc;unfold Value.okWide at hv;rw[h5] at hv;have flat:Cell.okWide C.P W .any base t v->Ic v=false:=by
  intro hc;cases he:Ic v with
  |false=>rfl
  |true=>
   exfalso;cases v<;>try (cases he;done)
   unfold Cell.okWide at hc;rw[h5] at hc;cases d<;>cases T<;>first|(cases h6;done)|(simp only at hc;unfold Cell.ok at hc;rw[h5] at hc;exact hc)
 cases T with
 |int k=>
  cases d<;>try (first|(cases h6;done)|(rename_i k;cases k<;>(cases h6;done)))
  rw[S4 (flat hv)] at h1;exact h1
 |bool=>
  cases d<;>try (first|(cases h6;done)|(rename_i k;cases k<;>(cases h6;done)))
  rw[S4 (flat hv)] at h1;exact h1
 |str=>
  cases d<;>try (first|(cases h6;done)|(rename_i k;cases k<;>(cases h6;done)))
  rw[S4 (flat hv)] at h1;exact h1
 |sl e=>
  cases d<;>try (first|(cases h6;done)|(rename_i k;cases k<;>(cases h6;done)))
  rw[S4 (flat hv)] at h1;exact h1
 |unit=>cases d<;>first|(cases h6;done)|(rename_i k;cases k<;>cases h6)
 |ks q=>cases hk
 |ej=>cases hk
 |cJ=>cases hk
 |pair a b=>cases d<;>first|(cases h6;done)|(rename_i k;cases k<;>cases h6)
 |st p=>
  cases d<;>try (first|(cases h6;done)|(rename_i k;cases k<;>(cases h6;done)))
  obtain⟨cs,rfl,_⟩:=hv;exact⟨cs,rfl,h1⟩
 |arr n e=>
  cases d<;>try (first|(cases h6;done)|(rename_i k;cases k<;>(cases h6;done)))
  obtain⟨cs,rfl,_⟩:=hv;exact⟨cs,rfl,h1⟩
theorem qrh(hC:cu C)(hc:∀t e,t<C.P.types.size->C.P.underlying t=some (.slice e)->0<C.P.cellsOf e)(hd:∀b,b<W.heap.size->imm b):∀(Ts:List Ty) (ts:List TypeId) (vs:List Value) (ds:List (DataW H)) (p:List MemPlace),Ox C ts Ts=true->DataW.TrodAll enc C.P W 0 (fun _=>true) true ts vs ds p->(∀(j:Nat) t v,ts[j]?=some t->vs[j]?=some v->Value.okWide C.P W .any base t v)->∃x:rz Ts,bV φ o imm W (eX cv bS (Ts.map Sh.d) [] x).1 vs/\rA Ts ds=some x/\oY Ts x
 |[],ts,vs,ds,p,ht,h,_=>by
  cases ts with
  |cons t ts=>cases ht
  |nil=>obtain⟨rfl,rfl,rfl⟩:=trodAll_nil h;exact⟨(),rfl,rfl,trivial⟩
 |T::Ts,ts,vs,ds,p,ht,h,hv=>by
  cases ts with
  |nil=>cases ht
  |cons t ts=>simp only[Ox,zd] at ht;obtain⟨v,WN,d,ds1,p1,p2,rfl,rfl,rfl,⟨fuel,h1⟩,h2⟩:=trodAll_cons h;obtain⟨x,g1,g2,g3⟩:=z6d hC hc (fun _=>rfl) ht.1.2 (bP ht.1.1) h1 (hv 0 t v rfl rfl);obtain⟨y,k1,k2,k3⟩:=qrh hC hc hd Ts ts WN ds1 p2 ht.2 h2 (fun j t v a b=>hv (j+1) t v (by simpa using a) (by simpa using b));refine⟨(x,y),⟨v,WN,rfl,rh hd (fun _ _=>rfl) T x v g1,k1⟩,?_,g3,k3⟩;simp only[rA,g2,k2]
theorem Oy:∀{t:Ty},tp t=false->iV t=true
 |.ks _,h=>by cases h
 |.ej,h=>by cases h
 |.cJ,h=>by cases h
 |.int _,_=>rfl
 |.bool,_=>rfl
 |.str,_=>rfl
 |.sl _,h=>by cases h
 |.unit,_=>rfl
 |.pair a b,h=>by simp only[tp,Bool.or_eq_false_iff] at h;simp only[iV,Oy h.1,Oy h.2,Bool.and_self]
 |.st p,h=>Oy (t:=p) h
 |.arr _ e,h=>Oy (t:=e) h
structure S5 (C:Cx) (laid:List (String×DataW Unit)):Prop where
 plain:(laid.filter fun x=>x.2.handleName?.isSome)=[]
 eG:∀g t x,C.jz g=some ⟨t,x⟩->∃n d tid,(n,d)∈laid/\C.P.globalNamed n=some g/\(C.P.globals[g]?).map (·.type)=some tid/\C.ty tid=some t/\tp t=false/\dI t [d]=some x
theorem qe6:∀{laid:List (String×DataW Unit)} {ps:List MemPlace},DataW.LaidVars C.P W laid ps->∀n d,(n,d)∈laid->∃g t cs fuel p,C.P.globalNamed n=some g/\(C.P.globals[g]?).map (·.type)=some t/\W.var? C.P n=some cs/\DataW.trod (fun _=>()) C.P W 0 (fun _=>true) false fuel t cs.toList=some (d,p)
 |(n0,d0)::r,ps,⟨g,t,cs,fuel,p,q,h1,h2,h3,h4,h5,_⟩,n,d,hm=>by
  rcases zt.1 hm with h|h
  ·injection h with e1 e2;subst e1 e2;exact⟨g,t,cs,fuel,p,h1,h2,h3,h4⟩
  ·exact qe6 h5 n d h
theorem qmy(hC:cu C)(hd:∀t e,t<C.P.types.size->C.P.underlying t=some (.slice e)->0<C.P.cellsOf e){laid:List (String×DataW Unit)}(hG:S5 C laid)(hL:laidMetH C.P laid W){g:Nat}{t:Ty}{x:den t}(h:C.jz g=some ⟨t,x⟩)(hc:∀b,b<W.heap.size->imm b):av φ o imm W (.ref t x) (.pointer (some ⟨g,0,none⟩))/\∃c el fz,W.heap[g]?=some (.cells c el fz)/\c.size=aI t:=by
 unfold laidMetH at hL;rw[hG.plain] at hL;obtain⟨ps,hl,_⟩:=hL;obtain⟨n,d,tid,h1,h2,h3,h4,h5,h6⟩:=hG.eG g t x h;obtain⟨g',t',cs,fuel,p,k1,k2,k3,k4⟩:=qe6 hl n d h1;rw[h2] at k1;cases k1;rw[h3] at k2;cases k2;obtain⟨x',r1,r2⟩:=(qx6 (imm:=imm) hC (fun _=>rfl) hc hd t (Oy h5)).1 tid fuel _ _ h4 k4;simp only at r2;rw[h6] at r2;cases r2;unfold World.var? at k3;rw[h2] at k3;simp only[Option.bind_some] at k3;split at k3
 ·rename_i c el fz hb;cases k3;have he:g<W.heap.size:=by
   rcases Nat.lt_or_ge g W.heap.size with h|h
   ·exact h
   ·rw[zY h] at hb;cases hb
  refine⟨⟨⟨g,0,none⟩,cs.toList,rfl,rfl,hc _ he,r1,fun j hj=>?_⟩,_,_,_,hb,by rw[<-Array.length_toList];exact fX _ _ _ r1⟩;unfold World.cell?;simp only[zO];rw[hb];have:j<cs.size:=by simpa using hj
  simp[this]
 ·cases k3
def tG(C:Cx)(s:jY)(x:aj s.ins.aU)(y:aj s.outs.aU):Prop:=
 ∀X φ w zs,MRel C X φ (bf s.ins x) w->bV φ (bf s.ins x) (ah X φ (bf s.ins x) w) w (fill cv bS s.ins x).1 zs->
  (∃fn,C.P.funcs[s.f]?=some fn/\fn.body.isNone=false)/\Calls C.P s.f zs.toArray w fun e w'=>
   ∃dF φ' X',e=.returned (xx dF)/\(∀b,X b->X' b)/\MRel C X' φ' (bf s.outs y) w'/\
    bV φ' (bf s.outs y) (ah X' φ' (bf s.outs y) w') w' (fill cv bS s.outs y).1 dF/\cW s.bH φ (bf s.ins x) w φ' (bf s.outs y) w'
theorem nC.s{i:Nat}{x:aj (aR C.sigs i).ins.aU}{y:aj (aR C.sigs i).outs.aU}(h:nC C i x y):tG C (aR C.sigs i) x y:=h
theorem qts{W W':World}(h:∀b,b<W.heap.size->W'.heap[b]?=W.heap[b]?){p:MemPlace}(hp:p.block<W.heap.size):W.sameAt W' p:=by
 cases p with
 |cell b off=>exact qfe (h b hp)
 |map b=>exact h b hp
theorem qe7{P:Program}{W':World}(K:Kids P (· <P.types.size))(hz:∀t e,t<P.types.size->P.underlying t=some (.slice e)->0<P.cellsOf e)(hs:∀b,b<W.heap.size->W'.heap[b]?=W.heap[b]?):∀{ts:List TypeId} {vs:List Value} {ds:List (DataW H)} {ps:List MemPlace},(∀t,t∈ts->t<P.types.size)->DataW.TrodAll enc P W 0 (fun _=>true) true ts vs ds ps->(∀p,p∈ps->p.block<W.heap.size)->DataW.TrodAll enc P W' 0 (fun b=>decide (b<W.heap.size)) true ts vs ds ps
 |[],_,_,_,_,h,_=>by obtain⟨rfl,rfl,rfl⟩:=trodAll_nil h;exact rfl
 |t::ts,vs,ds,ps,ht,h,hp=>by obtain⟨v,WN,d,ds1,p,q,rfl,rfl,rfl,⟨n,h1⟩,h2⟩:=trodAll_cons h;refine⟨p,q,⟨n,?_⟩,qe7 K hz hs (fun t h=>ht t (zm _ h)) h2 (fun x hx=>hp x (List.mem_append_right _ hx)),rfl⟩;exact DataW.trod_stays K (fun hT hu=>hz _ _ hT hu) (fun h=>by cases h) (ht t (zj ..)) h1 (fun x hx=>qts hs (hp x (List.mem_append_left _ hx))) (fun x hx=>by simpa using hp x (List.mem_append_left _ hx))
theorem qmz{W W':World}{may:MemPlace->Prop}(h:∀b,b<W.heap.size->W'.heap[b]?=W.heap[b]?)(hs:tw W W'):W.keptBut W' may:=by
 refine⟨hs.1,hs.2,fun i hi=>?_⟩;rw[h i hi];split
 ·rename_i h1 h2;rw[h1] at h2;cases h2;exact⟨rfl,rfl,rfl,fun _ _=>rfl⟩
 ·rename_i h1 h2;rw[h1] at h2;cases h2;exact .inr ⟨rfl,rfl⟩
 ·rfl
structure S6 (C:Cx) (laid:List (String×DataW Unit)):Prop where
 cx:cu C
 jz:S5 C laid
 kids:Kids C.P (· <C.P.types.size)
 full:∀t e,t<C.P.types.size->C.P.underlying t=some (.slice e)->0<C.P.cellsOf e
theorem qn0{laid:List (String×DataW Unit)}(hS:S6 C laid){f:FuncId}{fn:Func}{s:ChangeSpec}(Ts:List Ty)(tb:TypeId)(ht:Ox C fn.params.toList Ts=true)(hu:∀t,t∈fn.params.toList->t<C.P.types.size)(hn:fn.resultTypes=#[tb])(hv:C.P.underlying tb=some .bool)(hf:s.vars=[])(hd:∀ds:List (DataW H),ds.length=Ts.length->s.fn H ds={results:=[.lit (.bool true)],args:=ds})
  {args:Array Value} {ds gs:List (DataW H)} {before:List MemPlace}
  (ho:∀(j:Nat) t v,fn.params[j]?=some t->args[j]?=some v->Value.okWide C.P W .any base t v) (hW:DataW.Whole enc C.P fn.params.toList s.vars false W args.toList ds gs before) (hL:laidMetH C.P laid W)
  (hk:∀x:rz Ts,oY Ts x->rA Ts (ds++gs)=some x->tG C ⟨f,⟨Ts.map Sh.d,[]⟩,⟨[Sh.d .bool],[]⟩,[]⟩ x (true,())):
  Calls C.P f args W fun e W'=>∃v,e=.returned v/\s.post enc C.P fn false true false false W args v W':=by
 have hq:=hW.lt;have hs:=hW;obtain⟨p,q,hA,hV,rfl,hw,hx⟩:=hW;rw[hf] at hV;obtain⟨rfl,rfl⟩:gs=[]/\q=[]:=by
  cases gs with
  |nil=>exact⟨rfl,hV⟩
  |cons g gs=>exact hV.elim
 simp only[zu] at hq hs hk;obtain⟨x,h1,h2,h3⟩:=qrh (φ:=fun _=>⟨0,0,none⟩) (o:=fun _=>.none) (imm:=ah (fun _=>False) (fun _=>⟨0,0,none⟩) (fun _=>.none) W) hS.cx hS.full (fun b hb=>⟨hb,id,fun⟨_,h,_⟩=>by cases h⟩) Ts fn.params.toList args.toList ds p ht
  hA (fun j t v h1 h2=>ho j t v (by rw[<-zN];exact h1) (by rw[<-zN];exact h2))
 have hm:MRel C (fun _=>False) (fun _=>⟨0,0,none⟩) (fun _=>Obj.none) W:=
  ⟨fun _=>trivial,(fun i j h=>by cases h),(fun i h=>by cases h),(fun b h=>h.elim),fun _=>trivial,fun g t x hg=>(qmy hS.cx hS.full hS.jz hL hg (fun b hb=>⟨hb,id,fun⟨_,h,_⟩=>by cases h⟩)).1,
   fun g t x hg=>(qmy (φ:=fun _=>⟨0,0,none⟩) (o:=fun _=>.none) (imm:=fun _=>True) hS.cx hS.full hS.jz hL hg (fun _ _=>trivial)).2⟩
 obtain⟨_,hc⟩:=hk x h3 h2 (fun _=>False) (fun _=>⟨0,0,none⟩) W args.toList hm h1;have e0:args.toList.toArray=args:=by simp
 rw[e0] at hc;refine hc.mono fun e W' ⟨dF,φ',X',he,_,_,hr,hh⟩=>?_;have hr:∃v r,dF=v::r/\v=.bool true/\r=[]:=by obtain⟨v,r,h1,h2,h3⟩:=hr;have h2:[v]=[Value.bool true]:=h2;injection h2 with h2;exact⟨v,r,h1,h2,h3⟩
 obtain⟨_,_,rfl,rfl,rfl⟩:=hr;have hj:∀b,b<W.heap.size->W'.heap[b]?=W.heap[b]?:=fun b hb=>hh.frame b hb fun⟨id,h,_⟩=>by cases h
 refine⟨_,he,ds,[],p,[],p,[],hs,?_,?_,?_,qmz hj hh.still,fun h=>by cases h⟩
 ·have hl:ds.length=Ts.length:=by exact WM h2
  rw[zu,hd ds hl,hn];exact trodAll_cons_mk (p':=[]) (shut_bool hv true) rfl
 ·have hl:ds.length=Ts.length:=by exact WM h2
  rw[zu,hd ds hl];exact qe7 hS.kids hS.full hj hu hA hq
 ·rw[hf];have hl:(s.fn H (ds++[])).vars=[]:=by rw[zu,hd ds (WM h2)]
  rw[hl];exact rfl
end
end Ev
namespace Ev
open Go
def bK(C:Cx)(f:Nat):Bool:=match C.P.funcs.toList[f]? with
 |some fn=>!(fn.name== "runtime.NumGoroutine")
 |none=>true
def Oz(C:Cx):List jY->Bool
 |[]=>bK C 0
 |s::r=>bK C s.f&&Oz C r
theorem qgo{C:Cx}{f:Nat}(h:bK C f=true):∀fn,C.P.funcs[f]?=some fn->(fn.name== "runtime.NumGoroutine")=false:=by intro fn hf;unfold bK at h;rw[zN,hf] at h;simpa using h
theorem qe8{C:Cx}:∀{l:List jY},Oz C l=true->∀i fn,C.P.funcs[(aR l i).f]?=some fn->(fn.name== "runtime.NumGoroutine")=false
 |[],h,_,fn,hf=>qgo h fn hf
 |s::r,h,i,fn,hf=>by
  simp only[Oz,zd] at h;cases i with
  |zero=>exact qgo h.1 fn hf
  |succ i=>exact qe8 h.2 i fn hf
theorem z1c{C:Cx}(h1:Mn C C.dQ=true)(h2:Iq C C.eqs=true)(h3:Oz C C.sigs=true)(h4:C.P.follows .mixedOrders=true):∀{i:Nat} {x:aj (aR C.sigs i).ins.aU} {y:aj (aR C.sigs i).outs.aU},Call C i x y->nC C i x y:=by have hC:cu C:=⟨fun t T h=>Vu h1 t T h⟩;have hE:ka C:=z5u hC h2;have hL:S0 C:=z67 (qe8 h3);intro i x y h;exact h.ok hC hE hL (z6c hC hE hL h4)
theorem qx8{C:Cx}{laid:List (String×DataW Unit)}(h1:Mn C C.dQ=true)(h2:laidOutB C.P=true)(h3:mapsRowed C.P=true)(h4:((List.range C.P.types.size).all fun t=>match C.P.underlying t with|some (.slice e)=>decide (0<C.P.cellsOf e)|_=>true)=true)(h5:S5 C laid):S6 C laid:=⟨⟨fun t T h=>Vu h1 t T h⟩,h5,kids_rows h2 h3,slices_full_of C.P h4⟩
def cM{α β:Type}(F:(α->Option β)->α->Option β):Nat->α->Option β
 |0,_=>none
 |n+1,x=>F (cM F n) x
open Classical in
noncomputable def gq{α β:Type}(F:(α->Option β)->α->Option β)(x:α):Option β:=if h:∃y n0,∀n,n0<=n->cM F n x=some y then some (Classical.choose h) else none
theorem qx9{α β:Type}{F:(α->Option β)->α->Option β}{x:α}{y:β}(h:gq F x=some y):∃n,cM F n x=some y:=by
 unfold gq at h;split at h
 ·rename_i hx;injection h with h;obtain⟨n0,hn⟩:=Classical.choose_spec hx;exact⟨n0,by rw[<-h];exact hn n0 (Nat.le_refl _)⟩
 ·cases h
theorem S7{α β:Type}{F:(α->Option β)->α->Option β}{x:α}{y:β}(n0:Nat)(h:∀n,n0<=n->cM F n x=some y):gq F x=some y:=by unfold gq;have hx:∃y n0,∀n,n0<=n->cM F n x=some y:=⟨y,n0,h⟩;rw[dif_pos hx];obtain⟨n1,hn⟩:=Classical.choose_spec hx;have h1:=hn (n0+n1) om;rw[h (n0+n1) om] at h1;exact h1.symm
def aa(C:Cx)(k:Nat)(f:aj (aR C.sigs k).ins.aU->Option (aj (aR C.sigs k).outs.aU)):Prop:=∀x y,f x=some y->Call C k x y
def MF(C:Cx)(R:gY C.sigs):Prop:=∀j a b,R j a=some b->Call C j a b
def dK{sg:List jY}:gY sg:=fun _ _=>none
def aC{sg:List jY}(j:Nat)(f:aj (aR sg j).ins.aU->Option (aj (aR sg j).outs.aU))(R:gY sg):gY sg:=fun i=>match Nat.decEq i j with
 |isTrue h=>h▸f
 |isFalse _=>R i
theorem aK{C:Cx}:MF C dK:=fun _ _ _ h=>by cases h
theorem au{C:Cx}{j:Nat}{f:aj (aR C.sigs j).ins.aU->Option (aj (aR C.sigs j).outs.aU)}{R:gY C.sigs}(hf:aa C j f)(hR:MF C R):MF C (aC j f R):=by
 intro i a b h;unfold aC at h;cases hd:Nat.decEq i j with
 |isTrue e=>rw[hd] at h;subst e;exact hf a b h
 |isFalse e=>rw[hd] at h;exact hR i a b h
theorem z6e{C:Cx}{k:Nat}{F:(aj (aR C.sigs k).ins.aU->Option (aj (aR C.sigs k).outs.aU))->aj (aR C.sigs k).ins.aU->Option (aj (aR C.sigs k).outs.aU)}(h:∀g,aa C k g->∀x y,F g x=some y->Call C k x y):aa C k (gq F):=by
 intro x y hx;obtain⟨n,hn⟩:=qx9 hx;clear hx
 induction n generalizing x y with
 |zero=>cases hn
 |succ n ih=>exact h (cM F n) (fun a b hc=>ih a b hc) x y hn
theorem aa.of{C:Cx}{k:Nat}{f g:aj (aR C.sigs k).ins.aU->Option (aj (aR C.sigs k).outs.aU)}(h:aa C k f)(hg:∀x y,g x=some y->f x=some y):aa C k g:=fun x y e=>h x y (hg x y e)
theorem WO{σ ρ:Type}{f:σ->Option (σ⊕ρ)}:∀{n m:Nat} {s:σ} {r:ρ},n<=m->lW f n s=some r->lW f m s=some r
 |0,_,_,_,_,h=>by cases h
 |n+1,0,_,_,hm,_=>by omega
 |n+1,m+1,s,r,hm,h=>by
  simp only[lW] at h ⊢;cases hs:f s with
  |none=>rw[hs] at h;cases h
  |some q=>
   rw[hs] at h;cases q with
   |inl s'=>exact WO (n:=n) (m:=m) om h
   |inr r'=>exact h
theorem OA{σ ρ:Type}{f:σ->Option (σ⊕ρ)}{s:σ}{r:ρ}(n:Nat)(h:lW f n s=some r):aM f s=some r:=by have hx:∃r n,lW f n s=some r:=⟨r,n,h⟩;unfold aM;rw[dif_pos hx];obtain⟨m,hm⟩:=Classical.choose_spec hx;have h1:=WO (Nat.le_max_left n m) h;have h2:=WO (Nat.le_max_right n m) hm;rw[h1] at h2;exact h2.symm
theorem S8{σ ρ:Type}(f:σ->Option (σ⊕ρ))(s:σ):aM f s=match f s with
  |some (.inl s')=>aM f s'
  |some (.inr r)=>some r
  |none=>none:=by
 cases hf:f s with
 |none=>
  simp only;cases hr:aM f s with
  |none=>rfl
  |some r=>
   obtain⟨n,hn⟩:=Mx hr;cases n with
   |zero=>cases hn
   |succ n=>simp only[lW,hf] at hn;cases hn
 |some q=>
  cases q with
  |inr r=>exact OA 1 (by simp only[lW,hf])
  |inl s'=>
   simp only;cases hr:aM f s' with
   |some r=>obtain⟨n,hn⟩:=Mx hr;exact OA (n+1) (by simp only[lW,hf];exact hn)
   |none=>
    cases hc:aM f s with
    |none=>rfl
    |some r=>
     obtain⟨n,hn⟩:=Mx hc;cases n with
     |zero=>cases hn
     |succ n=>simp only[lW,hf] at hn;rw[OA n hn] at hr;cases hr
theorem dC{σ ρ:Type}{f:σ->Option (σ⊕ρ)}{s s':σ}(h:f s=some (.inl s')):aM f s=aM f s':=by rw[S8,h]
theorem bX{σ ρ:Type}{f:σ->Option (σ⊕ρ)}{s:σ}{r:ρ}(h:f s=some (.inr r)):aM f s=some r:=by rw[S8,h]
theorem af{α β:Type}(a:α)(f:α->Option β):ag (some a) f=f a:=id (Eq.refl (f a))
theorem aP{α:Type}(a b:Option α):aq true a b=a:=id (Eq.refl a)
theorem aH{α:Type}(a b:Option α):aq false a b=b:=id (Eq.refl b)
theorem WQ{n:Int}(h1:-9223372036854775808<=n)(h2:n<=9223372036854775807):IntKind.i64.wrap n=n:=by simp only[IntKind.wrap,IntKind.bits,IntKind.signed];simp;split<;>omega
theorem z6f(n:Int):IntKind.u8.wrap n=n % 256:=by simp only[IntKind.wrap,IntKind.bits,IntKind.signed];simp
theorem tH{a b:Int}(h1:-9223372036854775808<=a+b)(h2:a+b<=9223372036854775807):aA .i64 a b=a+b:=WQ h1 h2
theorem qL{a b:Int}(h1:-9223372036854775808<=a-b)(h2:a-b<=9223372036854775807):cq .i64 a b=a-b:=WQ h1 h2
theorem z4e(a:Int):dU .u8 a=a % 256:=z6f a
theorem tI{n:Int}:fO .i64 n↔-9223372036854775808<=n/\n<=9223372036854775807:=by simp[fO,IntKind.min,IntKind.max,IntKind.signed,IntKind.bits]
theorem qrk{a:Int}(s:Nat)(hs:s<=64):j7 .i64 a (s:Int)=some (a / 2 ^ s):=by
 unfold j7;rw[if_neg om];have:min (s:Int).toNat IntKind.i64.bits=s:=by show min ((s:Int).toNat) 64=s;simp;omega
 rw[this,Int.fdiv_eq_ediv_of_nonneg _ (Int.pow_nonneg om)]
theorem qrl{a b:Int}(ha:0<=a)(hb:0<b):j6 a b=some (a % b):=by unfold j6;rw[if_neg om,Int.tmod_eq_emod_of_nonneg ha]
theorem cd{α:Type}(a b:Int)(x y:Option α):aq (aE a b) x y=if a<b then x else y:=by unfold aE;by_cases h:a<b<;>simp[h,aq]
theorem S9{α:Type}(a b:Int)(x y:Option α):aq (bJ a b) x y=if a<=b then x else y:=by unfold bJ;by_cases h:a<=b<;>simp[h,aq]
theorem rB{α:Type}(a b:Int)(x y:Option α):aq (ak a b) x y=if a=b then x else y:=by
 unfold ak;by_cases h:a=b
 ·subst h;rw[if_pos rfl,beq_self_eq_true];rfl
 ·rw[if_neg h,beq_false_of_ne h];rfl
theorem wE{α:Type}(a:Bool)(x y:Option α):aq (ai a) x y=aq a y x:=by cases a<;>rfl
theorem Cd{α:Type}(a b:List Int)(x y:Option α):aq (bx a b) x y=if a=b then x else y:=by
 unfold bx;by_cases h:a=b
 ·subst h;rw[if_pos rfl,beq_self_eq_true];rfl
 ·rw[if_neg h,beq_false_of_ne h];rfl
theorem z6g{α:Type}(p:Prop)[Decidable p](x y:Option α):aq (decide p) x y=if p then x else y:=by by_cases h:p<;>simp[h,aq]
theorem fY(a:Int):ak a a=true:=by simp[ak]
theorem cT{a b:Int}:ak a b=true↔a=b:=by simp[ak]
theorem eP{a b:Int}(h:a≠b):ak a b=false:=by simp[ak,h]
theorem wF(a:List Int):bx a a=true:=by simp[bx]
theorem bR{α:Type}{l:List α}{i:Nat}{x:α}(h:l[i]?=some x):bA l (i:Int)=some x:=by unfold bA;rw[if_pos om];simpa using h
theorem fm{n:Int}(h:n<=2147483648):fit n=some ():=by unfold fit;rw[if_pos h]
theorem z1d{a:Int}(s:Nat)(hs:s<=63)(h1:-9223372036854775808<=a*2 ^ s)(h2:a*2 ^ s<=9223372036854775807):fZ .i64 a (s:Int)=some (a*2 ^ s):=by
 unfold fZ;rw[if_neg om];have:min (s:Int).toNat IntKind.i64.bits=s:=by show min ((s:Int).toNat) 64=s;simp;omega
 rw[this,WQ h1 h2]
theorem mc{H:Type}{enc:TypeId×Value->H}{C:Cx}{W:World}{base:Nat}{laid:List (String×DataW Unit)}(hS:S6 C laid){f:FuncId}{fn:Func}{s:ChangeSpec}(Ts:List Ty)(tb:TypeId)(hj:Ox C fn.params.toList Ts=true)(hk:(fn.params.toList.all fun t=>decide (t<C.P.types.size))=true)(he:fn.resultTypes=#[tb])(hl:C.P.underlying tb=some .bool)(hc:s.vars=[])(hd:∀ds:List (DataW H),ds.length=Ts.length->s.fn H ds={results:=[.lit (.bool true)],args:=ds}){args:Array Value}{ds gs:List (DataW H)}{before:List MemPlace}
  (hf:∀(j:Nat) t v,fn.params[j]?=some t->args[j]?=some v->Value.okWide C.P W .any base t v) (hW:DataW.Whole enc C.P fn.params.toList s.vars false W args.toList ds gs before) (hL:laidMetH C.P laid W)
  (hg:∀x:rz Ts,oY Ts x->rA Ts (ds++gs)=some x->tG C ⟨f,⟨Ts.map Sh.d,[]⟩,⟨[Sh.d .bool],[]⟩,[]⟩ x (true,())):
  Calls C.P f args W fun e W'=>∃v,e=.returned v/\s.post enc C.P fn false true false false W args v W':=
 qn0 hS Ts tb hj (fun t ht=>by simpa using zS.1 hk t ht) he hl hc hd hf hW hL hg
theorem WR:∀s:List Int,strLt s s=false
 |[]=>rfl
 |a::s=>by simp[strLt,WR s]
theorem OB:∀s t u:List Int,strLt s t=true->strLt t u=true->strLt s u=true
 |[],[],_,h,_=>by cases h
 |_::_,[],_,h,_=>by cases h
 |_,_::_,[],_,h=>by cases h
 |[],_::_,_::_,_,_=>rfl
 |a::s,b::t,c::u,h1,h2=>by
  simp only[strLt,Bool.or_eq_true,zd,decide_eq_true_eq] at h1 h2 ⊢;rcases h1 with h1|⟨h1,h3⟩<;>rcases h2 with h2|⟨h2,h4⟩
  ·exact .inl om
  ·exact .inl om
  ·exact .inl om
  ·exact .inr ⟨by omega,OB s t u h3 h4⟩
theorem OC:∀s t:List Int,strLt s t=false->strLt t s=false->s=t
 |[],[],_,_=>rfl
 |[],_::_,h,_=>by cases h
 |_::_,[],_,h=>by cases h
 |a::s,b::t,h1,h2=>by
  simp only[strLt,Bool.or_eq_false_iff,Bool.and_eq_false_iff,decide_eq_false_iff_not] at h1 h2;obtain⟨h1,h3⟩:=h1;obtain⟨h2,h4⟩:=h2;have e:a=b:=om
  subst e;rw[OC s t (h3.resolve_left fun h=>h rfl) (h4.resolve_left fun h=>h rfl)]
end Ev
namespace Ev
def uO(l:List Int):Bool:=l.all (fun b=>decide (0<=b/\b<=255))&&decide (l.length<=9223372036854775807)
theorem qxa{l:List Int}(h:uO l=true):(∀b,b∈l->0<=b/\b<=255)/\l.length<=9223372036854775807:=by unfold uO at h;simp only[zd,decide_eq_true_eq,zS] at h;exact h
end Ev

namespace Ev
open Go
def MG(f:Nat):jY:=⟨f,⟨[.d (.sl (.int .i64)),.d (.int .i64)],[]⟩,⟨[.aX 0],[.vec (.int .i64)]⟩,[]⟩
def lP:Nat->Obj:=fun _=>.none
theorem z1e{C:Cx}{f:Nat}(hl:∃fn,C.P.funcs[f]?=some fn/\fn.body.isNone=false)(h0:∀w,Calls C.P f #[.slice none 0 0,.int .i64 0] w fun e w'=>e=.returned (.slice none 0 0)/\w'=w)(h1:∀(n:Nat) w,0<n->n<=1000000->Calls C.P f #[.slice none 0 0,.int .i64 n] w fun e w'=>∃cap el cs,e=.returned (.slice (some ⟨w.heap.size,0,none⟩) 0 cap)/\w'=w.drew.alloc (.cells cs el)/\cap<=cs.size)(n:Nat)(hn:n<=1000000):tG C (MG f) (⟨true,[]⟩,(n:Int),()) (⟨decide (n=0),[]⟩,()):=by
 intro X φ w zs hm hz;have hm:MRel C X φ lP w:=hm;have hz:bV φ lP (ah X φ lP w) w [.d (.sl (.int .i64)) (⟨true,[]⟩:Sl Int),.d (.int .i64) (n:Int)] zs:=hz;refine⟨hl,?_⟩;obtain⟨z0,r0,rfl,g1,z1,r1,rfl,g2,g3⟩:=hz;have g3:r1=[]:=g3;subst g3;obtain⟨rfl,_⟩:=kI g2;obtain⟨_,g1⟩:=GI g1;obtain rfl:z0=.slice none 0 0:=by
  rcases g1 with ⟨_,_,e⟩|⟨e,_⟩
  ·exact e
  ·cases e
 have fin:∀(s:Sl Int) (val:Value) (φ':Nat->Addr) (w':World),Comes C X φ φ' lP [(0,.vec (.int .i64) 0 false s)] w w' (.aX 0 0) val->
   ∃dF φ' X',Ending.returned val=.returned (xx dF)/\(∀b,X b->X' b)/\MRel C X' φ' (bf (MG f).outs (s,())) w'/\
    bV φ' (bf (MG f).outs (s,())) (ah X' φ' (bf (MG f).outs (s,())) w') w' (fill cv bS (MG f).outs (s,())).1 dF/\cW [] φ lP w φ' (bf (MG f).outs (s,())) w':=by
  intro s val φ' w' hc;exact⟨[val],φ',X,rfl,fun _ h=>h,hc.mem,⟨val,[],rfl,hc.val,rfl⟩,(cW.refl [] φ lP w).step hc⟩
 by_cases h:n=0
 ·subst h;refine Calls.mono (h0 w) fun e w' ⟨e1,e2⟩=>?_;subst e1 e2;have hd:decide (0=0)=true:=rfl;rw[hd];refine fin ⟨true,[]⟩ _ φ w' ?_;refine Comes.eM hm (fun p hp=>?_) (fun hk=>?_)
  ·rw[zB.1 hp];exact⟨⟨.int .i64,rfl⟩,rfl⟩
  ·exact⟨Nat.le_refl _,fun _=>.inl ⟨rfl,rfl⟩⟩
 ·refine Calls.mono (h1 n w om hn) fun e w' ⟨cap,el,cs,e1,e2,e3⟩=>?_;subst e1;have hd:decide (n=0)=false:=zn h;rw[hd];refine fin ⟨false,[]⟩ _ (ck φ 0 ⟨w.heap.size,0,none⟩) w' ?_;have hg:w'.heap=w.heap.push (.cells cs el):=by rw[e2];rfl
  have hf:w'.heap[w.heap.size]?=some (.cells cs el):=by rw[hg];simp
  have he:∀m,m<=cs.size->room w' ⟨w.heap.size,0,none⟩ m:=fun m hm=>⟨cs,el,0,0,hf,by simpa using hm,.inl (Nat.le_refl _)⟩;refine Comes.fresh hm (B:=.cells cs el) hg (.vec (.int .i64) 0 false (⟨false,[]⟩:Sl Int)) (ns:=[]) (fun p hp=>by cases hp) (fun _=>trivial) (fun _ _ _=>?_) (fun h _=>by cases h) (fun h3=>?_) (by rw[e2];exact⟨rfl,rfl⟩)
  ·refine⟨Nat.zero_le _,fun h=>(by cases h),fun _=>.inl ?_⟩;rw[dM];refine⟨rfl,[],rfl,fun j hj=>by simp at hj,he 0 (Nat.zero_le _),fun _=>he _ (by show 0*1<=_;omega),fun h=>by cases h⟩
  ·unfold av;rw[h3,dM];refine⟨Nat.le_refl _,fun _=>.inr ⟨rfl,cap,rfl,Nat.zero_le _,fun h=>(by cases h),fun _ _=>he _ (by show cap*1<=_;omega)⟩⟩
def lQ(c:Int):List Int->Int
 |[]=>-1
 |b::r=>if b=c then 0 else if lQ c r<0 then -1 else lQ c r+1
theorem Ta(c:Int):∀l,-1<=lQ c l/\lQ c l<=l.length
 |[]=>⟨Int.le_refl _,(by show(-1:Int)<=0;decide)⟩
 |b::r=>by
  have:=Ta c r;unfold lQ;rw[zf];split
  ·omega
  ·split<;>omega
theorem qn1(c:UInt8):∀l:List UInt8,Lib.indexByte l c=lQ (c.toNat:Int) (l.map fun b=>(b.toNat:Int))
 |[]=>rfl
 |b::r=>by
  have ih:=qn1 c r;have hg:=Ta (c.toNat:Int) (r.map fun b=>(b.toNat:Int));rw[zI];unfold Lib.indexByte lQ;rw[ih];by_cases h:b=c
  ·subst h;simp
  ·have h1:(b==c)=false:=by simpa using h
   have h2:¬(b.toNat:Int)=(c.toNat:Int):=fun e=>h (UInt8.toNat_inj.1 om);rw[h1,if_neg h2];simp only[Bool.false_eq_true,if_false,beq_iff_eq];by_cases h3:lQ (c.toNat:Int) (r.map fun b=>(b.toNat:Int))=-1
   ·rw[if_pos h3,if_pos om]
   ·rw[if_neg h3,if_neg om]
def zaq(f:Nat):jY:=⟨f,⟨[.d .str,.d (.int .u8)],[]⟩,⟨[.d (.int .i64)],[]⟩,[]⟩
theorem z8x{C:Cx}{f:Nat}(hd:∃fn,C.P.funcs[f]?=some fn/\fn.body.isNone=false)(h0:∀(s:ByteArray) (c:Int) w,Calls C.P f #[.string s,.int .u8 c] w fun e w'=>e=.returned (.int .i64 (Lib.indexByte s.data.toList c.toNat.toUInt8))/\w'=w)(l:List Int)(c:Int):tG C (zaq f) (l,c,()) (lQ c l,()):=by
 intro X φ w zs hm hz;have hm:MRel C X φ lP w:=hm;have hz:bV φ lP (ah X φ lP w) w [.d .str l,.d (.int .u8) c] zs:=hz;refine⟨hd,?_⟩;obtain⟨z0,r0,rfl,g1,z1,r1,rfl,g2,g3⟩:=hz;have g3:r1=[]:=g3;subst g3;obtain⟨s,rfl,hs,hl⟩:=nz g1;obtain⟨rfl,hc⟩:=kI g2;refine Calls.mono (h0 s c w) fun e w' ⟨e1,e2⟩=>?_;subst e1 e2;have hf:0<=c/\c<=255:=hc;have ec:((c.toNat.toUInt8).toNat:Int)=c:=by have:(c.toNat.toUInt8).toNat=c.toNat % 256:=rfl;rw[this];omega
 have hv:Lib.indexByte s.data.toList c.toNat.toUInt8=lQ c l:=by rw[qn1,ec,hs]
 have hg:=Ta c l;have he:l.length=s.size:=by rw[<-hs];simp
 unfold bU at hl;rw[hv];refine⟨[.int .i64 (lQ c l)],φ,X,rfl,fun _ h=>h,hm,⟨_,[],rfl,kz ?_,rfl⟩,cW.refl _ _ _ _⟩;show(-9223372036854775808:Int)<=_/\_<=(9223372036854775807:Int);omega
end Ev
namespace Ev
abbrev ay:=List Int×Int×Int
def uP(x:ay):Bool:=x.1.all (fun b=>decide (0<=b/\b<=255))&&decide (x.1.length<=9223372036854775807)&&decide (-9223372036854775808<=x.2.1/\x.2.1<=9223372036854775807)&&decide (-9223372036854775808<=x.2.2/\x.2.2<=9223372036854775807)
theorem WS{x:ay}(h:uP x=true):(∀b,b∈x.1->0<=b/\b<=255)/\x.1.length<=9223372036854775807/\(-9223372036854775808<=x.2.1/\x.2.1<=9223372036854775807)/\(-9223372036854775808<=x.2.2/\x.2.2<=9223372036854775807):=by unfold uP at h;simp only[zd,decide_eq_true_eq,zS] at h;exact⟨h.1.1.1,h.1.1.2,h.1.2,h.2⟩
def uQ(x y:ay):Bool:=strLt x.1 y.1
def GZ(l:List ay):Bool:=l.all fun x=>l.all fun y=>!decide (x.1=y.1)||decide (x=y)
theorem qtu{l:List ay}(h:GZ l=true){x y:ay}(hx:x∈l)(hy:y∈l)(e:x.1=y.1):x=y:=by have:=zS.1 (zS.1 h x hx) y hy;simp only[Bool.or_eq_true,Bool.not_eq_true',decide_eq_false_iff_not,decide_eq_true_eq] at this;exact this.resolve_left fun n=>n e
end Ev

namespace Ev
open Go
theorem mkC{C:Cx}{k:Nat}{O:gY C.sigs}(b:Lf->gY C.sigs->aj (aR C.sigs k).ins.aU->Option (aj (aR C.sigs k).outs.aU)){f:aj (aR C.sigs k).ins.aU->Option (aj (aR C.sigs k).outs.aU)}(hO:MF C O)(e:∀L R x,Me L C R k x=b L R x)(o:∀x,b lf O x=f x):aa C k f:=fun x y h=>Call.mk (C:=C) O hO k x y (((e lf O x).trans (o x)).trans h)
theorem C8{C:Cx}{k:Nat}(b:Lf->gY C.sigs->aj (aR C.sigs k).ins.aU->Option (aj (aR C.sigs k).outs.aU)){F:(aj (aR C.sigs k).ins.aU->Option (aj (aR C.sigs k).outs.aU))->aj (aR C.sigs k).ins.aU->Option (aj (aR C.sigs k).outs.aU)}{O:(aj (aR C.sigs k).ins.aU->Option (aj (aR C.sigs k).outs.aU))->gY C.sigs}(hO:∀g,aa C k g->MF C (O g))(e:∀L R x,Me L C R k x=b L R x)(o:∀g x,b lf (O g) x=F g x):aa C k (gq F):=z6e fun g hg x y h=>Call.mk (C:=C) (O g) (hO g hg) k x y (((e lf (O g) x).trans (o g x)).trans h)
end Ev
namespace Ev
def oZ:Nat->Nat->List Int
 |0,_=>[]
 |f+1,u=>if u<10 then [48+(u:Int)] else oZ f (u / 10)++[48+((u % 10:Nat):Int)]
def rC(n:Int):List Int:=if n<0 then 45::oZ 20 n.natAbs else oZ 20 n.toNat
def kM:List Int->List Int
 |[]=>[]
 |b::l=>if b=45 then 126::l else b::kM l
theorem qro:∀l,(kM l).length=l.length
 |[]=>rfl
 |b::l=>by
  unfold kM;split
  ·rfl
  ·rw[zf,zf,qro l]
theorem WT:∀f u,(oZ f u).length<=f
 |0,_=>Nat.le_refl _
 |f+1,u=>by
  unfold oZ;split
  ·simp
  ·have:=WT f (u / 10);rw[zh,List.length_singleton];omega
theorem qn3(n:Int):(rC n).length<=21:=by
 unfold rC;split
 ·have:=WT 20 n.natAbs;rw[zf];omega
 ·have:=WT 20 n.toNat
  omega
end Ev

namespace Ev
open Go Go.RowKit Go.Sort
theorem WU{C:Cx}{X:Nat->Prop}{φ:Nat->Addr}{w w':World}(hm:MRel C X φ lP w)(hb:Below w.heap.size w w'){b:ByteArray}{l:List Int}(hl:b.data.toList.map (fun b=>(b.toNat:Int))=l)(hs:b.size<=bU):∃dF φ' X',Ending.returned (.string b)=.returned (xx dF)/\(∀b,X b->X' b)/\MRel C X' φ' (bf (⟨[.d .str],[]⟩:Shape) (l,())) w'/\bV φ' (bf (⟨[.d .str],[]⟩:Shape) (l,())) (ah X' φ' (bf (⟨[.d .str],[]⟩:Shape) (l,())) w') w' (fill cv bS (⟨[.d .str],[]⟩:Shape) (l,())).1 dF/\cW [] φ lP w φ' (bf (⟨[.d .str],[]⟩:Shape) (l,())) w':=by
 have hc:Comes C X φ φ lP [] w w' (.d .str l) (.string b):=
  Comes.make hm hb.size (fun b hd _=>hb.block b hd) (fun _ _=>rfl) (fun _ _ _=>rfl) (fun id h=>absurd h (List.not_mem_nil)) (fun id h=>absurd h (List.not_mem_nil)) (fun i j h=>absurd h (List.not_mem_nil))
   (fun _ _ _ id h=>absurd h (List.not_mem_nil)) (fun id h=>absurd h (List.not_mem_nil)) (fun _ _ _=>H9 hl hs) ⟨hb.os,hb.output⟩
 exact⟨[.string b],φ,X,rfl,fun _ h=>h,hc.mem,⟨.string b,[],rfl,hc.val,rfl⟩,(cW.refl [] φ lP w).step hc⟩
theorem qn4{imm:Nat->Prop}{w:World}{k:IntKind}:∀(l:List Int) (cs:List Value),bD (az imm w (.int k)) l cs->cs=l.map fun z=>Value.int k z
 |[],cs,h=>h
 |x::l,cs,⟨c,d,e,h1,h2⟩=>by rw[e,qn4 l d h2,h1.1];rfl
theorem z8y{C:Cx}{X:Nat->Prop}{φ:Nat->Addr}{o:Nat->Obj}{w:World}(hm:MRel C X φ o w){name:String}{g n:Nat}{k:IntKind}{zs:List Int}(hg:C.P.globalNamed name=some g)(h:C.jz g=some ⟨.arr n (.int k),zs⟩):Lib.TabIs C.P w name k zs:=by
 obtain⟨a,cs,e,_,hi,hr,hc⟩:=hm.eG g _ _ h;injection e with e;injection e with e;subst e;obtain⟨c,el,fz,h1,h2⟩:=hm.Mk g _ _ h;have hl:=fX _ _ _ hr;have hd:cs=zs.map fun z=>Value.int k z:=qn4 zs cs hr.2;unfold Lib.TabIs World.var?;rw[hg,Option.bind_some,h1];have he:c.toList=cs:=by
  apply List.ext_getElem
  ·rw[Array.length_toList];omega
  ·intro i i1 i2;have:=hc i i2;unfold World.cell? at this;simp only[zO] at this;rw[h1] at this;rw[Array.length_toList] at i1;rw[Array.getElem_toList];simpa[i1] using this
 show some c=_;rw[<-hd,<-he,Array.toArray_toList]
theorem qrp:∀(f u:Nat),u<10 ^ (f+1)->oZ (f+1) u=(Lib.decDigits u).map fun b=>(b.toNat:Int):=by
 intro f
 induction f with
 |zero=>
  intro u h;have h:u<10:=by simpa using h
  unfold oZ;rw[Lib.decDigits,if_pos h,dif_pos h];have e:(UInt8.ofNat (48+u)).toNat=48+u:=by rw[UInt8.toNat_ofNat'];omega
  simp only[zI,List.map_nil,e];congr 1
 |succ f ih=>
  intro u h;unfold oZ;rw[Lib.decDigits];by_cases hu:u<10
  ·rw[if_pos hu,dif_pos hu];have e:(UInt8.ofNat (48+u)).toNat=48+u:=by rw[UInt8.toNat_ofNat'];omega
   simp only[zI,List.map_nil,e];congr 1
  ·rw[if_neg hu,dif_neg hu,ih (u / 10) (by rw[Nat.pow_succ] at h;omega),zP];have e:(UInt8.ofNat (48+u % 10)).toNat=48+u % 10:=by rw[UInt8.toNat_ofNat'];omega
   simp only[zI,List.map_nil,e];congr 2
theorem qrq{n:Int}(h0:-9223372036854775808<=n)(h1:n<=9223372036854775807):(Lib.itoa n).map (fun b=>(b.toNat:Int))=rC n:=by
 have hp:(10:Nat) ^ (19+1)=100000000000000000000:=dc
 unfold Lib.itoa rC;by_cases h:n<0
 ·rw[if_pos h,if_pos h,qrp 19 _ (by rw[hp];omega)];rfl
 ·rw[if_neg h,if_neg h,qrp 19 _ (by rw[hp];omega)]
def z8z(f:Nat):jY:=⟨f,⟨[.d (.int .i64),.d (.int .i64)],[]⟩,⟨[.d .str],[]⟩,[]⟩
theorem z6h{C:Cx}{f:Nat}(hd:∃fn,C.P.funcs[f]?=some fn/\fn.body.isNone=false){g m:Nat}{zs:List Int}(hg:C.P.globalNamed "internal/strconv.uint64pow10"=some g)(ht:C.jz g=some ⟨.arr m (.int .u64),zs⟩)(h0:∀(n:Int),-9223372036854775808<=n->n<=9223372036854775807->∀w,Lib.TabIs C.P w "internal/strconv.uint64pow10" .u64 zs->Calls C.P f #[.int .i64 n,.int .i64 10] w fun e w'=>e=.returned (.string ⟨(Lib.itoa n).toArray⟩)/\∃k os,w'=grow (w.drewN k) os)(n:Int)(hn:-9223372036854775808<=n)(hc:n<=9223372036854775807):tG C (z8z f) (n,(10:Int),()) (rC n,()):=by
 intro X φ w OD hm hz;have hm:MRel C X φ lP w:=hm;have hz:bV φ lP (ah X φ lP w) w [.d (.int .i64) n,.d (.int .i64) (10:Int)] OD:=hz;refine⟨hd,?_⟩;obtain⟨z0,r0,rfl,g1,z1,r1,rfl,g2,g3⟩:=hz;have g3:r1=[]:=g3;subst g3;obtain⟨rfl,_⟩:=kI g1;obtain⟨rfl,_⟩:=kI g2;refine Calls.mono (h0 n hn hc w (z8y hm hg ht)) fun e w' ⟨e1,k,os,e2⟩=>?_;subst e1 e2;refine WU (w':=grow (w.drewN k) os) hm (b:=⟨(Lib.itoa n).toArray⟩) ⟨rfl,rfl,rfl,?_,fun i hi=>?_⟩ ?_ ?_
 ·show w.heap.size<=(w.heap++os).size;rw[Array.size_append];omega
 ·show(w.heap++os)[i]?=_;rw[Array.getElem?_append_left hi]
 ·exact qrq hn hc
 ·have:=congrArg List.length (qrq hn hc);rw[zA] at this;have h2:=qn3 n;show(Lib.itoa n).toArray.size<=bU;unfold bU;simp only[List.size_toArray];omega
def z90(f:Nat):jY:=⟨f,⟨[.d .str,.d .str,.d .str,.d (.int .i64)],[]⟩,⟨[.d .str],[]⟩,[]⟩
def qM:List UInt8->List UInt8
 |[]=>[]
 |b::l=>if b=45 then 126::l else b::qM l
theorem WV:∀l:List UInt8,(qM l).map (fun b=>(b.toNat:Int))=kM (l.map fun b=>(b.toNat:Int))
 |[]=>rfl
 |b::l=>by
  unfold qM;rw[zI];unfold kM;by_cases h:b=45
  ·subst h;rfl
  ·have hb:(b.toNat:Int)≠45:=fun e=>h (UInt8.toNat_inj.1 (by
    have:(45:UInt8).toNat=45:=rfl;omega))
   rw[if_neg h,if_neg hb,zI,WV l]
theorem z6i{C:Cx}{f:Nat}(hc:∃fn,C.P.funcs[f]?=some fn/\fn.body.isNone=false)(h0:∀(s:ByteArray) w,s.size<=1000->Calls C.P f #[.string s,.string ⟨#[45]⟩,.string ⟨#[126]⟩,.int .i64 1] w fun e w'=>e=.returned (.string ⟨(qM s.data.toList).toArray⟩)/\Below w.heap.size w w')(l:List Int)(hl:l.length<=1000):tG C (z90 f) (l,[45],[126],(1:Int),()) (kM l,()):=by
 intro X φ w OD hm hz;have hm:MRel C X φ lP w:=hm;have hz:bV φ lP (ah X φ lP w) w [.d .str l,.d .str ([45]:List Int),.d .str ([126]:List Int),.d (.int .i64) (1:Int)] OD:=hz;refine⟨hc,?_⟩;obtain⟨z0,r0,rfl,g1,z1,r1,rfl,g2,z2,r2,rfl,g3,z3,r3,rfl,g4,g5⟩:=hz;have g5:r3=[]:=g5;subst g5;have one:∀{s:ByteArray} {c:UInt8},s.data.toList.map (fun b=>(b.toNat:Int))=[(c.toNat:Int)]->s=⟨#[c]⟩:=by
  intro s c h;obtain⟨⟨d⟩⟩:=s
  match d with
  |[]=>exact absurd (congrArg List.length h) (by simp)
  |[b]=>have h:[(b.toNat:Int)]=[(c.toNat:Int)]:=h;injection h with h _;have e:b=c:=UInt8.toNat_inj.1 om;rw[e]
  |_::_::_=>exact absurd (congrArg List.length h) (by simp)
 obtain⟨s,rfl,hs,hg⟩:=nz g1;obtain⟨s1,rfl,hd,_⟩:=nz g2;obtain⟨s2,rfl,he,_⟩:=nz g3;obtain⟨rfl,_⟩:=kI g4;obtain rfl:=one (c:=45) hd;obtain rfl:=one (c:=126) he;have hf:s.size<=1000:=by
  have:=congrArg List.length hs;rw[zA] at this;have e:s.size=s.data.toList.length:=by rw[Array.length_toList];rfl
  omega
 refine Calls.mono (h0 s w hf) fun e w' ⟨e1,e2⟩=>?_;subst e1;refine WU hm (b:=⟨(qM s.data.toList).toArray⟩) e2 ?_ ?_
 ·show(qM s.data.toList).map _=_;rw[WV,hs]
 ·have:=congrArg List.length (WV s.data.toList);rw[zA,qro,hs] at this;show(qM s.data.toList).toArray.size<=bU;unfold bU;simp only[List.size_toArray];omega
end Ev