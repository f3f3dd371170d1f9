/- From what a row reads to data; calls as functions; numbers. No statement of its own about the program. -/
import Derived.Test.YtakmoaimmdheeaaGreatDoorEvH
import Derived.ChangeArms
import Derived.OpenShut
import Derived.ChangeSame
import Derived.ReadAgain
import Derived.ChangeStays
import Derived.WideShapes
import Derived.RowKit2
import Derived.Lib.Bytealg
import Derived.Lib.LaidTab
import Derived.Below
import Derived.Deep.Draws
import Derived.Sort.Grow
import Derived.Lib.ItoaNum
namespace Ev
open Go
def JL{α β:Type}(f:α->Option β):List α->Option (List β)
 |[]=>some []
 |x::r=>match f x with
  |some y=>match JL f r with
   |some l=>some (y::l)
   |none=>none
  |none=>none
def gz{H:Type}:(T:Ty)->List (DataW H)->Option (den T)
 |.unit,l=>match l with
  |[]=>some ()
  |_=>none
 |.pair a b,l=>match l with
  |d::r=>match gz a [d] with
   |some x=>match gz b r with
    |some y=>some (x,y)
    |none=>none
   |none=>none
  |[]=>none
 |.st p,l=>match l with
  |[.agg ps]=>gz p ps
  |_=>none
 |.int k,l=>match l with
  |[.lit (.int k' n)]=>if k'=k then some n else none
  |_=>none
 |.bool,l=>match l with
  |[.lit (.bool b)]=>some b
  |_=>none
 |.str,l=>match l with
  |[.lit (.string s)]=>some (s.map fun b=>(b.toNat:Int))
  |_=>none
 |.arr n e,l=>match l with
  |[.agg ps]=>match JL (fun d=>gz e [d]) ps with
   |some l=>if l.length=n then some l else none
   |none=>none
  |_=>none
 |.sl e,l=>match l with
  |[.nil]=>some (⟨true,[]⟩:Sl (den e))
  |[.slice es _]=>match JL (fun d=>gz e [d]) es with
   |some l=>some (⟨false,l⟩:Sl (den e))
   |none=>none
  |_=>none
 |.ks _,_=>none
 |.fc,_=>none
 |.dC,_=>none
def jK:Ty->Bool
 |.ks _=>false
 |.fc=>false
 |.dC=>false
 |.pair a b=>jK a&&jK b
 |.st p=>jK p
 |.arr _ e=>jK e
 |.sl e=>jK e
 |_=>true
theorem qy9:∀{T:Ty},jK T=true->Jc T=T
 |.ks _,h=>by cases h
 |.fc,h=>by cases h
 |.dC,h=>by cases h
 |.int _,_=>rfl
 |.bool,_=>rfl
 |.str,_=>rfl
 |.sl _,_=>rfl
 |.unit,_=>rfl
 |.pair _ _,_=>rfl
 |.st _,_=>rfl
 |.arr _ _,_=>rfl
theorem mA.lt{C:Cx}{t:TypeId}{T:Ty}(h:mA C t T):t<C.P.types.size:=by obtain⟨i,_,_,h2,_⟩:=h.info;have:=(zF.1 h2).1;simpa using this
theorem z2w{W:World}{a:Addr}{v:Value}(h:W.cell? a=some v):a.block<W.heap.size:=by
 unfold World.cell? at h;rcases Nat.lt_or_ge a.block W.heap.size with h'|h'
 ·exact h'
 ·rw[zX h'] at h;cases h
theorem H0{C:Cx}{t:TypeId}{T:Ty}(h:mA C t T):C.P.cellsOf t=aJ T:=by obtain⟨i,z,h1,_,h2,_⟩:=h.info;unfold Program.cellsOf;rw[h1];exact h2
section
variable {H:Type} {enc:TypeId×Value→H} {C:Cx} {W:World} {base:Nat} {spare:Nat→Bool} {held:Bool} {imm:Nat→Prop}
def Bh(C:Cx)(enc:TypeId×Value->H)(W:World)(base:Nat)(spare:Nat->Bool)(held:Bool)(imm:Nat->Prop)(T:Ty):Prop:=∀t fuel cs y,C.ty t=some T->DataW.trod enc C.P W base spare held fuel t cs=some y->∃x,aA imm W T x cs/\gz T [y.1]=some x
theorem ZV{e:Ty}:∀(n:Nat) (xs:List (DataW H×List MemPlace)) (f:Nat->List Value),xs.length=n->(∀i y,xs[i]?=some y->∃x,aA imm W e x (f i)/\gz e [y.1]=some x)->∃l:List (den e),l.length=n/\bc (aA imm W e) l ((List.range n).flatMap f)/\JL (fun d=>gz e [d]) (xs.map (·.1))=some l:=by
 intro n
 induction n with
 |zero=>intro xs f hl _;have:xs=[]:=zP hl;subst this;exact⟨[],rfl,rfl,rfl⟩
 |succ n ih=>
  intro xs f hl h;cases xs with
  |nil=>cases hl
  |cons y xs=>
   obtain⟨x,h1,h2⟩:=h 0 y rfl;obtain⟨l,g1,g2,g3⟩:=ih xs (fun i=>f (i+1)) (by simpa using hl) (fun i z hz=>h (i+1) z (by simpa using hz));refine⟨x::l,by simp[g1],?_,?_⟩
   ·rw[List.range_succ_eq_map,List.flatMap_cons,List.flatMap_map];exact⟨_,_,rfl,h1,g2⟩
   ·simp only[zJ,JL,h2,g3]
theorem qya{k:Nat}:∀(n:Nat) (cs:List Value),cs.length=n*k->(List.range n).flatMap (fun i=>(cs.drop (i*k)).take k)=cs:=by
 intro n
 induction n with
 |zero=>intro cs h;simp at h;subst h;rfl
 |succ n ih=>
  intro cs h;rw[List.range_succ_eq_map,List.flatMap_cons,List.flatMap_map];have h1:∀i,(cs.drop ((i+1)*k)).take k=((cs.drop k).drop (i*k)).take k:=fun i=>by rw[List.drop_drop];congr 2;rw[Nat.succ_mul];omega
  simp only[Nat.succ_eq_add_one,h1];rw[ih (cs.drop k) (by rw[zH,h,Nat.succ_mul];omega)];simp
theorem ZW(hC:cD C)(hB:∀b,spare b=true)(ht:∀b,b<W.heap.size->imm b)(hx:∀t e,t<C.P.types.size->C.P.underlying t=some (.slice e)->0<C.P.cellsOf e)(T:Ty):jK T=true->Bh C enc W base spare held imm T/\(∀(fs:List Field) (off:Nat) (n:Nat) (cs:List Value) (xs:List (DataW H×List MemPlace)),qN C fs T off=true->off+aJ T<=cs.length->xs.length=fs.length->(∀(i:Nat) (f:Field),fs[i]?=some f->DataW.trod enc C.P W base spare held n f.type ((cs.drop f.offset).take (C.P.cellsOf f.type))=xs[i]?)->∃x,aA imm W T x ((cs.drop off).take (aJ T))/\gz T (xs.map (·.1))=some x):=by
 have one:∀(T:Ty),jK T=true->Bh C enc W base spare held imm T->∀(f:Field) (off:Nat) (n:Nat) (cs:List Value) (xs:List (DataW H×List MemPlace)),qN C [f] T off=true->off+aJ T<=cs.length->
   xs.length=1->(∀(i:Nat) (f':Field),[f][i]?=some f'->DataW.trod enc C.P W base spare held n f'.type ((cs.drop f'.offset).take (C.P.cellsOf f'.type))=xs[i]?)->
   ∃x,aA imm W T x ((cs.drop off).take (aJ T))/\gz T (xs.map (·.1))=some x:=by
  intro T hk hT f off n cs xs hf _ hl h;have hf:(C.is f.type (Jc T)&&Nat.beq f.offset off)=true:=by cases T<;>exact hf
  rw[qy9 hk,ze] at hf;obtain⟨y,rfl⟩:∃y,xs=[y]:=by
   match xs,hl with
   |[y],_=>exact⟨y,rfl⟩
  have he:=bY hf.1;have hz:=zm hf.2;have h0:=h 0 f rfl;rw[H0 (hC.eM _ _ he),hz] at h0;obtain⟨x,h1,h2⟩:=hT _ _ _ _ he h0;exact⟨x,h1,h2⟩
 have kq:∀(T:Ty),jK T=true->(∀a b,T≠.pair a b)->T≠.unit->Bh C enc W base spare held imm T->(∀(fs:List Field) (off:Nat) (n:Nat) (cs:List Value) (xs:List (DataW H×List MemPlace)),qN C fs T off=true->off+aJ T<=cs.length->xs.length=fs.length->
   (∀(i:Nat) (f:Field),fs[i]?=some f->DataW.trod enc C.P W base spare held n f.type ((cs.drop f.offset).take (C.P.cellsOf f.type))=xs[i]?)->
   ∃x,aA imm W T x ((cs.drop off).take (aJ T))/\gz T (xs.map (·.1))=some x):=by
  intro T hk hp hu hT fs off n cs xs hf hg hl h;cases fs with
  |nil=>cases T<;>first|exact absurd rfl hu|cases hf
  |cons f fs=>
   cases fs with
   |nil=>exact one T hk hT f off n cs xs hf hg hl h
   |cons g r=>cases T<;>first|exact absurd rfl (hp _ _)|cases hf
 induction T with
 |int k=>
  intro hk;have hT:Bh C enc W base spare held imm (.int k):=by
   intro t fuel cs y he h;obtain⟨d,h1,h2,h3⟩:=(hC.eM _ _ he).desc;cases d<;>simp only[mz] at h3<;>try (cases h3;done)
   have:=Ja h3;subst this;obtain⟨n,rfl,rfl,hw⟩:=DataW.trod_int h2 h;refine⟨n,⟨rfl,?_⟩,by simp[gz]⟩;simpa[Lit.wf,gH] using hw
  exact⟨hT,kq _ hk (fun _ _ h=>by cases h) (fun h=>by cases h) hT⟩
 |fc=>intro hk;cases hk
 |dC=>intro hk;cases hk
 |bool=>
  intro hk;have hT:Bh C enc W base spare held imm .bool:=by
   intro t fuel cs y he h;obtain⟨d,h1,h2,h3⟩:=(hC.eM _ _ he).desc;cases d<;>simp only[mz] at h3<;>try (cases h3;done)
   obtain⟨n,rfl,rfl⟩:=DataW.trod_bool h2 h;exact⟨n,rfl,rfl⟩
  exact⟨hT,kq _ hk (fun _ _ h=>by cases h) (fun h=>by cases h) hT⟩
 |str=>
  intro hk;have hT:Bh C enc W base spare held imm .str:=by
   intro t fuel cs y he h;obtain⟨d,h1,h2,h3⟩:=(hC.eM _ _ he).desc;cases d<;>simp only[mz] at h3<;>try (cases h3;done)
   obtain⟨s,rfl,rfl,hs⟩:=DataW.trod_string h2 h;exact⟨_,⟨s,rfl,rfl,hs⟩,rfl⟩
  exact⟨hT,kq _ hk (fun _ _ h=>by cases h) (fun h=>by cases h) hT⟩
 |unit=>
  intro _;refine⟨?_,?_⟩
  ·intro t fuel cs y he h;obtain⟨d,h1,h2,h3⟩:=(hC.eM _ _ he).desc;cases d<;>simp only[mz] at h3<;>first|(cases h3;done)|(rename_i k;cases k<;>cases h3)
  ·intro fs off n cs xs hf _ hl _;cases fs with
   |nil=>have:xs=[]:=zP hl;subst this;exact⟨(),by simp[aJ,aA],rfl⟩
   |cons f r=>
    cases r with
    |nil=>simp only[qN,ze] at hf;have he:=bY hf.1;obtain⟨d,h1,h2,h3⟩:=(hC.eM _ _ he).desc;cases d<;>simp only[mz] at h3<;>first|(cases h3;done)|(rename_i k;cases k<;>cases h3)
    |cons g r=>cases hf
 |st p ih=>
  intro hk;replace ih:=ih hk;have hT:Bh C enc W base spare held imm (.st p):=by
   intro t fuel cs y he h;have hn:=hC.eM _ _ he;obtain⟨d,h1,h2,h3⟩:=hn.desc;cases d<;>simp only[mz] at h3<;>try (cases h3;done)
   rename_i fs;obtain⟨xs,n,rfl,rfl,hl,hg,hf⟩:=DataW.trod_struct h2 h;rw[H0 hn] at hl;have hl:cs.length=aJ p:=hl;obtain⟨x,g1,g2⟩:=ih.2 fs.toList 0 n cs xs h3 om (by simpa using hg) (fun i f hi=>hf i f (by rw[<-zL];exact hi));rw[List.drop_zero,zZ om] at g1;exact⟨x,g1,g2⟩
  exact⟨hT,kq _ hk (fun _ _ h=>by cases h) (fun h=>by cases h) hT⟩
 |pair a b nW kh=>
  intro hk;simp only[jK,ze] at hk;replace nW:=nW hk.1;replace kh:=kh hk.2;refine⟨?_,?_⟩
  ·intro t fuel cs y he h;obtain⟨d,h1,h2,h3⟩:=(hC.eM _ _ he).desc;cases d<;>simp only[mz] at h3<;>first|(cases h3;done)|(rename_i k;cases k<;>cases h3)
  ·intro fs off n cs xs hf hg hl h;cases fs with
   |nil=>cases hf
   |cons f r=>
    cases r with
    |nil=>simp only[qN,ze] at hf;have he:=bY hf.1;obtain⟨d,h1,h2,h3⟩:=(hC.eM _ _ he).desc;cases d<;>simp only[mz] at h3<;>first|(cases h3;done)|(rename_i k;cases k<;>cases h3)
    |cons g r=>
     simp only[qN,ze] at hf;cases xs with
     |nil=>cases hl
     |cons y xs=>
      simp only[aJ] at hg;have he:=bY hf.1.1;have hz:=zm hf.1.2;have h0:=h 0 f rfl;rw[H0 (hC.eM _ _ he),hz] at h0;obtain⟨x1,g1,g2⟩:=nW.1 _ _ _ _ he h0;obtain⟨x2,g3,g4⟩:=kh.2 (g::r) (off+aJ a) n cs xs hf.2 om (by simpa using hl) (fun i f' hi=>h (i+1) f' (by simpa using hi));refine⟨(x1,x2),⟨_,_,?_,g1,g3⟩,?_⟩
      ·show(cs.drop off).take (aJ a+aJ b)=_;rw[List.take_add,List.drop_drop]
      ·simp only[zJ,gz,g2,g4]
 |arr n e ih=>
  intro hk;replace ih:=ih hk;have hT:Bh C enc W base spare held imm (.arr n e):=by
   intro t fuel cs y he h;have hn:=hC.eM _ _ he;obtain⟨d,h1,h2,h3⟩:=hn.desc;cases d<;>simp only[mz] at h3<;>try (cases h3;done)
   rename_i m te;rw[ze] at h3;have:=zm h3.1;subst this;have ho:=bY h3.2;obtain⟨xs,k,rfl,rfl,hl,hg,hf⟩:=DataW.trod_array h2 h;rw[H0 hn] at hl;have hl:cs.length=m*aJ e:=hl;rw[H0 (hC.eM _ _ ho)] at hf;obtain⟨l,g1,g2,g3⟩:=ZV (imm:=imm) (W:=W) (e:=e) m xs (fun i=>(cs.drop (i*aJ e)).take (aJ e)) hg (fun i y hy=>by
    have hi:i<m:=by
     rcases Nat.lt_or_ge i m with h|h
     ·exact h
     ·rw[zV om] at hy;cases hy
    have:=hf i hi;rw[hy] at this;exact ih.1 _ _ _ _ ho this)
   rw[qya m cs hl] at g2;refine⟨l,⟨g1,g2⟩,?_⟩;simp only[gz,g3,g1,if_true]
  exact⟨hT,kq _ hk (fun _ _ h=>by cases h) (fun h=>by cases h) hT⟩
 |ks q _=>intro hk;cases hk
 |sl e ih=>
  intro hk;replace ih:=ih hk;have hT:Bh C enc W base spare held imm (.sl e):=by
   intro t fuel cs y he h;have hn:=hC.eM _ _ he;obtain⟨d,h1,h2,h3⟩:=hn.desc;cases d<;>simp only[mz] at h3<;>try (cases h3;done)
   rename_i te;have ho:=bY h3;rcases DataW.trod_slice h2 h with ⟨rfl,rfl⟩|⟨a,len,cap,elems,rest,n,rfl,rfl,rfl,hb,hJ,hK,hg,hf,hr,_⟩
   ·exact⟨⟨true,[]⟩,⟨_,rfl,Nat.zero_le _,.inl ⟨rfl,rfl,rfl⟩⟩,rfl⟩
   ·have hD:=hx t te hn.lt h2;have first:cap≠0->∃v,W.cell? a=some v:=by
     intro hc;have hE:∃y,(W.cells? base (a.add (0*C.P.cellsOf te)) (C.P.cellsOf te)).bind (DataW.trod enc C.P W base spare held n te)=some y:=by
      by_cases h0:len=0
      ·obtain⟨r1,r2⟩:=hr (hB _);have:=r2 0 om;rw[h0,Nat.add_zero,zg om] at this;exact⟨_,this⟩
      ·have:=hf 0 om;rw[zg om] at this;exact⟨_,this⟩
     obtain⟨y,hy⟩:=hE;obtain⟨ci,h5,_⟩:=zW.1 hy;obtain⟨_,h6,h7⟩:=World.cells?_some h5;have h8:=h7 0 hD;rw[zg om,Nat.zero_mul,show(a.add 0).add 0=a from rfl] at h8;exact⟨_,h8⟩
    have hs:cap≠0->a.spot=none:=fun hc=>by
     obtain⟨v,hv⟩:=first hc
     exact World.cell?_spot hv
    have hi:len≠0->imm a.block:=fun h0=>by
     obtain⟨v,hv⟩:=first om
     exact ht _ (z2w hv)
    rw[H0 (hC.eM _ _ ho)] at hf;have tc:∀i,i<len->∃ci,W.cells? base (a.add (i*aJ e)) (aJ e)=some ci/\DataW.trod enc C.P W base spare held n te ci=elems[i]?:=fun i hi=>by have:=hf i hi;rw[zg om] at this;obtain⟨ci,h1,h2⟩:=zW.1 this;exact⟨ci,h1,by rw[h2,zg om]⟩
    let f:Nat->List Value:=fun i=>(W.cells? base (a.add (i*aJ e)) (aJ e)).getD [];obtain⟨l,g1,g2,g3⟩:=ZV (imm:=imm) (W:=W) (e:=e) len elems f hg (fun i y hy=>by
     have hi:i<len:=by
      rcases Nat.lt_or_ge i len with h|h
      ·exact h
      ·rw[zV om] at hy;cases hy
     obtain⟨ci,h1,h2⟩:=tc i hi;rw[hy] at h2;show ∃x,aA imm W e x ((W.cells? base (a.add (i*aJ e)) (aJ e)).getD [])/\_;rw[h1,Option.getD_some];exact ih.1 _ _ _ _ ho h2)
    have hF:∀i,i<len->(f i).length=aJ e/\∀j (hj:j<(f i).length),W.cell? ⟨a.block,a.off+i*aJ e+j,none⟩=some (f i)[j]:=fun i hi=>by
     obtain⟨ci,h1,_⟩:=tc i hi;have hG:f i=ci:=by show(W.cells? base (a.add (i*aJ e)) (aJ e)).getD []=ci;rw[h1];rfl
     obtain⟨_,h4,h5⟩:=World.cells?_some h1;rw[hG];refine⟨h4,fun j hj=>?_⟩;have:=h5 j om;rw[zg hj] at this;rw[<-this];have:(a.add (i*aJ e)).add j=⟨a.block,a.off+i*aJ e+j,none⟩:=by
      obtain⟨ab,ao,as⟩:=a;have hs:as=none:=hs om;subst hs;simp only[Addr.add];by_cases h0:i*aJ e=0
      ·by_cases hq:j=0
       ·simp[h0,hq]
       ·simp[h0,hq]
      ·by_cases hq:j=0
       ·simp[h0,hq]
       ·simp[h0,hq]
     rw[this]
    have hH:kg W a ((List.range len).flatMap f):=by
     clear g2 g3 h hf;have key:∀m,m<=len->kg W a ((List.range m).flatMap f)/\((List.range m).flatMap f).length=m*aJ e:=by
      intro m
      induction m with
      |zero=>intro _;exact⟨fun j hj=>by simp at hj,by simp⟩
      |succ m ihm=>
       intro hm;obtain⟨k1,k2⟩:=ihm om;obtain⟨k3,k4⟩:=hF m om;rw[List.range_succ,List.flatMap_append,List.flatMap_singleton];refine⟨fun j hj=>?_,by rw[zd,k2,k3,Nat.succ_mul]⟩;by_cases hA:j<((List.range m).flatMap f).length
       ·rw[List.getElem_append_left hA];exact k1 j hA
       ·rw[List.getElem_append_right om];have hI:j-((List.range m).flatMap f).length<(f m).length:=by rw[zd] at hj;omega
        have:=k4 _ hI;rw[<-this];congr 2;omega
     exact(key len (Nat.le_refl _)).1
    refine⟨⟨false,l⟩,⟨_,rfl,?_,.inr ⟨rfl,a,cap,_,?_,hs,fun h=>hi fun h0=>h (zP (g1.trans h0)),g2,hH,?_⟩⟩,?_⟩
    ·show l.length<=ch;have:maxLen=ch:=rfl;omega
    ·show Value.slice (some a) len cap=Value.slice (some a) l.length cap;rw[g1]
    ·show l.length<=cap;omega
    ·simp only[gz,g3]
  exact⟨hT,kq _ hk (fun _ _ h=>by cases h) (fun h=>by cases h) hT⟩
end
end Ev
namespace Ev
open Go Go.ChangeShapes Go.WideShapes Go.RowKit
def lK:(T:Ty)->den T->Prop
 |.int k,n=>gH k n
 |.bool,_=>True
 |.fc,_=>True
 |.dC,_=>True
 |.str,l=>List.length l<=ch/\∀b,b∈(l:List Int)->0<=b/\b<256
 |.unit,_=>True
 |.pair a b,x=>lK a x.1/\lK b x.2
 |.st p,x=>lK p x
 |.arr n e,l=>List.length l=n/\∀x,x∈(l:List (den e))->lK e x
 |.sl e,s=>s.l.length<=ch/\(s.nil=true->s.l=[])/\∀x,x∈s.l->lK e x
 |.ks _,_=>True
theorem Rp{α:Type}{f:α->List Value->Prop}{g:α->Prop}(h:∀x c,f x c->g x):∀{l:List α} {cs:List Value},bc f l cs->∀x,x∈l->g x
 |y::l,_,⟨c,d,e,h1,h2⟩,x,hx=>by
  rcases zw.1 hx with rfl|hx
  ·exact h _ _ h1
  ·exact Rp h h2 x hx
theorem H2{imm:Nat->Prop}{w:World}:∀(T:Ty) (x:den T) (cs:List Value),aA imm w T x cs->lK T x
 |.int _,_,_,h=>h.2
 |.bool,_,_,_=>trivial
 |.fc,_,_,_=>trivial
 |.dC,_,_,_=>trivial
 |.str,_,_,⟨s,_,h2,h3⟩=>by subst h2;refine⟨by simpa using h3,fun b hb=>?_⟩;obtain⟨c,_,rfl⟩:=List.mem_map.1 hb;have:=c.toNat_lt;omega
 |.unit,_,_,_=>trivial
 |.ks _,_,_,_=>trivial
 |.pair a b,x,_,⟨c,d,_,h1,h2⟩=>⟨H2 a x.1 c h1,H2 b x.2 d h2⟩
 |.st p,x,cs,h=>H2 p x cs h
 |.arr _ e,_,_,⟨h1,h2⟩=>⟨h1,Rp (fun x c h=>H2 e x c h) h2⟩
 |.sl e,s,_,⟨v,_,h2,h3⟩=>by
  rcases h3 with ⟨h3,h4,_⟩|⟨h3,a,cap,ec,_,_,_,h5,_⟩
  ·exact⟨h2,fun _=>h4,fun x hx=>by rw[h4] at hx;cases hx⟩
  ·exact⟨h2,(fun h=>by rw[h3] at h;cases h),Rp (fun x c h=>H2 e x c h) h5⟩
abbrev pC(Ts:List Ty):Type:=ai (iH (Ts.map Sh.d) [])
def nu:(Ts:List Ty)->pC Ts->Prop
 |[],_=>True
 |T::Ts,x=>lK T x.1/\nu Ts x.2
def rq{H:Type}:(Ts:List Ty)->List (DataW H)->Option (pC Ts)
 |[],[]=>some ()
 |T::Ts,d::ds=>match gz T [d] with
  |some x=>match rq Ts ds with
   |some y=>some (x,y)
   |none=>none
  |none=>none
 |_,_=>none
def JM(C:Cx):List TypeId->List Ty->Bool
 |[],[]=>true
 |t::ts,T::Ts=>(C.is t T&&jK T)&&JM C ts Ts
 |_,_=>false
theorem Rq{H:Type}:∀{Ts:List Ty} {ds:List (DataW H)} {x:pC Ts},rq Ts ds=some x->ds.length=Ts.length:=by
 intro Ts
 induction Ts with
 |nil=>intro ds x h;cases ds with|nil=>rfl|cons d ds=>cases h
 |cons T Ts ih=>
  intro ds x h;cases ds with
  |nil=>cases h
  |cons d ds=>
   simp only[rq] at h;split at h
   ·split at h
    ·rename_i y hy;simp only[zj,ih hy]
    ·cases h
   ·cases h
section
variable {H:Type} {enc:TypeId×Value→H} {C:Cx} {W:World} {base:Nat} {imm:Nat→Prop} {φ:Nat→Addr} {o:Nat→Obj}
theorem Nu{v:Value}(h:Es v=false):v.cells=#[v]:=by cases v<;>first|rfl|cases h
theorem z7v(hC:cD C)(he:∀t e,t<C.P.types.size->C.P.underlying t=some (.slice e)->0<C.P.cellsOf e){T:Ty}{t:TypeId}{v:Value}{fuel:Nat}{y:DataW H×List MemPlace}{sp:Nat->Bool}{held:Bool}(hj:∀b,sp b=true)(hk:jK T=true)(hg:C.ty t=some T)(h:DataW.trod enc C.P W 0 sp held fuel t v.cells.toList=some y)(hv:Value.okWide C.P W .any base t v):∃x,aT (fun b=>b<W.heap.size) W T x v/\gz T [y.1]=some x/\lK T x:=by
 obtain⟨x,h1,h2⟩:=(ZW (imm:=fun b=>b<W.heap.size) hC hj (fun _ h=>h) he T hk).1 t fuel _ y hg h;refine⟨x,?_,h2,H2 _ _ _ h1⟩;obtain⟨d,h4,h5,h6⟩:=(hC.eM _ _ hg).desc;unfold Value.okWide at hv;rw[h5] at hv;have flat:Cell.okWide C.P W .any base t v->Es v=false:=by
  intro hc;cases hf:Es v with
  |false=>rfl
  |true=>
   exfalso;cases v<;>try (cases hf;done)
   unfold Cell.okWide at hc;rw[h5] at hc;cases d<;>cases T<;>first|(cases h6;done)|(simp only at hc;unfold Cell.ok at hc;rw[h5] at hc;exact hc)
 cases T with
 |int k=>
  cases d<;>try (first|(cases h6;done)|(rename_i k;cases k<;>(cases h6;done)))
  rw[Nu (flat hv)] at h1;exact h1
 |bool=>
  cases d<;>try (first|(cases h6;done)|(rename_i k;cases k<;>(cases h6;done)))
  rw[Nu (flat hv)] at h1;exact h1
 |str=>
  cases d<;>try (first|(cases h6;done)|(rename_i k;cases k<;>(cases h6;done)))
  rw[Nu (flat hv)] at h1;exact h1
 |sl e=>
  cases d<;>try (first|(cases h6;done)|(rename_i k;cases k<;>(cases h6;done)))
  rw[Nu (flat hv)] at h1;exact h1
 |unit=>cases d<;>first|(cases h6;done)|(rename_i k;cases k<;>cases h6)
 |ks q=>cases hk
 |fc=>cases hk
 |dC=>cases hk
 |pair a b=>cases d<;>first|(cases h6;done)|(rename_i k;cases k<;>cases h6)
 |st p=>
  cases d<;>try (first|(cases h6;done)|(rename_i k;cases k<;>(cases h6;done)))
  obtain⟨cs,rfl,_⟩:=hv;exact⟨cs,rfl,h1⟩
 |arr n e=>
  cases d<;>try (first|(cases h6;done)|(rename_i k;cases k<;>(cases h6;done)))
  obtain⟨cs,rfl,_⟩:=hv;exact⟨cs,rfl,h1⟩
theorem ZX(hC:cD C)(hc:∀t e,t<C.P.types.size->C.P.underlying t=some (.slice e)->0<C.P.cellsOf e)(he:∀b,b<W.heap.size->imm b):∀(Ts:List Ty) (ts:List TypeId) (vs:List Value) (ds:List (DataW H)) (p:List MemPlace),JM C ts Ts=true->DataW.TrodAll enc C.P W 0 (fun _=>true) true ts vs ds p->(∀(j:Nat) t v,ts[j]?=some t->vs[j]?=some v->Value.okWide C.P W .any base t v)->∃x:pC Ts,cd φ o imm W (fG cH bX (Ts.map Sh.d) [] x).1 vs/\rq Ts ds=some x/\nu Ts x
 |[],ts,vs,ds,p,ht,h,_=>by
  cases ts with
  |cons t ts=>cases ht
  |nil=>obtain⟨rfl,rfl,rfl⟩:=trodAll_nil h;exact⟨(),rfl,rfl,trivial⟩
 |T::Ts,ts,vs,ds,p,ht,h,hv=>by
  cases ts with
  |nil=>cases ht
  |cons t ts=>simp only[JM,ze] at ht;obtain⟨v,Rr,d,ZY,p1,p2,rfl,rfl,rfl,⟨fuel,h1⟩,h2⟩:=trodAll_cons h;obtain⟨x,g1,g2,g3⟩:=z7v hC hc (fun _=>rfl) ht.1.2 (bY ht.1.1) h1 (hv 0 t v rfl rfl);obtain⟨y,k1,k2,k3⟩:=ZX hC hc he Ts ts Rr ZY p2 ht.2 h2 (fun j t v a b=>hv (j+1) t v (by simpa using a) (by simpa using b));refine⟨(x,y),⟨v,Rr,rfl,rf he (fun _ _=>rfl) T x v g1,k1⟩,?_,g3,k3⟩;simp only[rq,g2,k2]
theorem JN:∀{t:Ty},sW t=false->jK t=true
 |.ks _,h=>by cases h
 |.fc,h=>by cases h
 |.dC,h=>by cases h
 |.int _,_=>rfl
 |.bool,_=>rfl
 |.str,_=>rfl
 |.sl _,h=>by cases h
 |.unit,_=>rfl
 |.pair a b,h=>by simp only[sW,Bool.or_eq_false_iff] at h;simp only[jK,JN h.1,JN h.2,Bool.and_self]
 |.st p,h=>JN (t:=p) h
 |.arr _ e,h=>JN (t:=e) h
structure Nv (C:Cx) (laid:List (String×DataW Unit)):Prop where
 plain:(laid.filter fun x=>x.2.handleName?.isSome)=[]
 fk:∀g t x,C.j9 g=some ⟨t,x⟩->∃n d tid,(n,d)∈laid/\C.P.globalNamed n=some g/\(C.P.globals[g]?).map (·.type)=some tid/\C.ty tid=some t/\sW t=false/\gz t [d]=some x
theorem ZZ:∀{laid:List (String×DataW Unit)} {ps:List MemPlace},DataW.LaidVars C.P W laid ps->∀n d,(n,d)∈laid->∃g t cs fuel p,C.P.globalNamed n=some g/\(C.P.globals[g]?).map (·.type)=some t/\W.var? C.P n=some cs/\DataW.trod (fun _=>()) C.P W 0 (fun _=>true) false fuel t cs.toList=some (d,p)
 |(n0,d0)::r,ps,⟨g,t,cs,fuel,p,q,h1,h2,h3,h4,h5,_⟩,n,d,hm=>by
  rcases zw.1 hm with h|h
  ·injection h with e1 e2;subst e1 e2;exact⟨g,t,cs,fuel,p,h1,h2,h3,h4⟩
  ·exact ZZ h5 n d h
theorem Z0(hC:cD C)(he:∀t e,t<C.P.types.size->C.P.underlying t=some (.slice e)->0<C.P.cellsOf e){laid:List (String×DataW Unit)}(hG:Nv C laid)(hL:laidMetH C.P laid W){g:Nat}{t:Ty}{x:den t}(h:C.j9 g=some ⟨t,x⟩)(hc:∀b,b<W.heap.size->imm b):aq φ o imm W (.ref t x) (.pointer (some ⟨g,0,none⟩))/\∃c el fz,W.heap[g]?=some (.cells c el fz)/\c.size=aJ t:=by
 unfold laidMetH at hL;rw[hG.plain] at hL;obtain⟨ps,hl,_⟩:=hL;obtain⟨n,d,tid,h1,h2,h3,h4,h5,h6⟩:=hG.fk g t x h;obtain⟨g',t',cs,fuel,p,k1,k2,k3,k4⟩:=ZZ hl n d h1;rw[h2] at k1;cases k1;rw[h3] at k2;cases k2;obtain⟨x',r1,r2⟩:=(ZW (imm:=imm) hC (fun _=>rfl) hc he t (JN h5)).1 tid fuel _ _ h4 k4;simp only at r2;rw[h6] at r2;cases r2;unfold World.var? at k3;rw[h2] at k3;simp only[Option.bind_some] at k3;split at k3
 ·rename_i c el fz hb;cases k3;have hf:g<W.heap.size:=by
   rcases Nat.lt_or_ge g W.heap.size with h|h
   ·exact h
   ·rw[zX h] at hb;cases hb
  refine⟨⟨⟨g,0,none⟩,cs.toList,rfl,rfl,hc _ hf,r1,fun j hj=>?_⟩,_,_,_,hb,by rw[<-Array.length_toList];exact gY _ _ _ r1⟩;unfold World.cell?;simp only[zD];rw[hb];have:j<cs.size:=by simpa using hj
  simp[this]
 ·cases k3
def vn(C:Cx)(s:lr)(x:ai s.ins.aN)(y:ai s.outs.aN):Prop:=
 ∀X φ w zs,MRel C X φ (aV s.ins x) w->cd φ (aV s.ins x) (ah X φ (aV s.ins x) w) w (fill cH bX s.ins x).1 zs->
  (∃fn,C.P.funcs[s.f]?=some fn/\fn.body.isNone=false)/\Calls C.P s.f zs.toArray w fun e w'=>
   ∃en φ' X',e=.returned (we en)/\(∀b,X b->X' b)/\MRel C X' φ' (aV s.outs y) w'/\
    cd φ' (aV s.outs y) (ah X' φ' (aV s.outs y) w') w' (fill cH bX s.outs y).1 en/\dV s.bH φ (aV s.ins x) w φ' (aV s.outs y) w'
theorem nY.s{i:Nat}{x:ai (aM C.sigs i).ins.aN}{y:ai (aM C.sigs i).outs.aN}(h:nY C i x y):vn C (aM C.sigs i) x y:=h
theorem qvc{W W':World}(h:∀b,b<W.heap.size->W'.heap[b]?=W.heap[b]?){p:MemPlace}(hp:p.block<W.heap.size):W.sameAt W' p:=by
 cases p with
 |cell b off=>exact Xf (h b hp)
 |map b=>exact h b hp
theorem Z1{P:Program}{W':World}(K:Kids P (· <P.types.size))(hz:∀t e,t<P.types.size->P.underlying t=some (.slice e)->0<P.cellsOf e)(hs:∀b,b<W.heap.size->W'.heap[b]?=W.heap[b]?):∀{ts:List TypeId} {vs:List Value} {ds:List (DataW H)} {ps:List MemPlace},(∀t,t∈ts->t<P.types.size)->DataW.TrodAll enc P W 0 (fun _=>true) true ts vs ds ps->(∀p,p∈ps->p.block<W.heap.size)->DataW.TrodAll enc P W' 0 (fun b=>decide (b<W.heap.size)) true ts vs ds ps
 |[],_,_,_,_,h,_=>by obtain⟨rfl,rfl,rfl⟩:=trodAll_nil h;exact rfl
 |t::ts,vs,ds,ps,ht,h,hp=>by obtain⟨v,Rr,d,ZY,p,q,rfl,rfl,rfl,⟨n,h1⟩,h2⟩:=trodAll_cons h;refine⟨p,q,⟨n,?_⟩,Z1 K hz hs (fun t h=>ht t (zh _ h)) h2 (fun x hx=>hp x (List.mem_append_right _ hx)),rfl⟩;exact DataW.trod_stays K (fun hT hu=>hz _ _ hT hu) (fun h=>by cases h) (ht t (zf ..)) h1 (fun x hx=>qvc hs (hp x (List.mem_append_left _ hx))) (fun x hx=>by simpa using hp x (List.mem_append_left _ hx))
theorem qof{W W':World}{may:MemPlace->Prop}(h:∀b,b<W.heap.size->W'.heap[b]?=W.heap[b]?)(hs:tR W W'):W.keptBut W' may:=by
 refine⟨hs.1,hs.2,fun i hi=>?_⟩;rw[h i hi];split
 ·rename_i h1 h2;rw[h1] at h2;cases h2;exact⟨rfl,rfl,rfl,fun _ _=>rfl⟩
 ·rename_i h1 h2;rw[h1] at h2;cases h2;exact .inr ⟨rfl,rfl⟩
 ·rfl
structure Nw (C:Cx) (laid:List (String×DataW Unit)):Prop where
 cx:cD C
 j9:Nv C laid
 kids:Kids C.P (· <C.P.types.size)
 full:∀t e,t<C.P.types.size->C.P.underlying t=some (.slice e)->0<C.P.cellsOf e
theorem qog{laid:List (String×DataW Unit)}(hS:Nw C laid){f:FuncId}{fn:Func}{s:ChangeSpec}(Ts:List Ty)(tb:TypeId)(hu:JM C fn.params.toList Ts=true)(hv:∀t,t∈fn.params.toList->t<C.P.types.size)(ho:fn.resultTypes=#[tb])(hw:C.P.underlying tb=some .bool)(hj:s.vars=[])(hf:∀ds:List (DataW H),ds.length=Ts.length->s.fn H ds={results:=[.lit (.bool true)],args:=ds})
  {args:Array Value} {ds gs:List (DataW H)} {before:List MemPlace}
  (hq:∀(j:Nat) t v,fn.params[j]?=some t->args[j]?=some v->Value.okWide C.P W .any base t v) (hW:DataW.Whole enc C.P fn.params.toList s.vars false W args.toList ds gs before) (hL:laidMetH C.P laid W)
  (hn:∀x:pC Ts,nu Ts x->rq Ts (ds++gs)=some x->vn C ⟨f,⟨Ts.map Sh.d,[]⟩,⟨[Sh.d .bool],[]⟩,[]⟩ x (true,())):
  Calls C.P f args W fun e W'=>∃v,e=.returned v/\s.post enc C.P fn false true false false W args v W':=by
 have hs:=hW.lt;have ht:=hW;obtain⟨p,q,hA,hV,rfl,hx,hy⟩:=hW;rw[hj] at hV;obtain⟨rfl,rfl⟩:gs=[]/\q=[]:=by
  cases gs with
  |nil=>exact⟨rfl,hV⟩
  |cons g gs=>exact hV.elim
 simp only[zt] at hs ht hn;obtain⟨x,h1,h2,h3⟩:=ZX (φ:=fun _=>⟨0,0,none⟩) (o:=fun _=>.none) (imm:=ah (fun _=>False) (fun _=>⟨0,0,none⟩) (fun _=>.none) W) hS.cx hS.full (fun b hb=>⟨hb,id,fun⟨_,h,_⟩=>by cases h⟩) Ts fn.params.toList args.toList ds p hu
  hA (fun j t v h1 h2=>hq j t v (by rw[<-zL];exact h1) (by rw[<-zL];exact h2))
 have hm:MRel C (fun _=>False) (fun _=>⟨0,0,none⟩) (fun _=>Obj.none) W:=
  ⟨fun _=>trivial,(fun i j h=>by cases h),(fun i h=>by cases h),(fun b h=>h.elim),fun _=>trivial,fun g t x hg=>(Z0 hS.cx hS.full hS.j9 hL hg (fun b hb=>⟨hb,id,fun⟨_,h,_⟩=>by cases h⟩)).1,
   fun g t x hg=>(Z0 (φ:=fun _=>⟨0,0,none⟩) (o:=fun _=>.none) (imm:=fun _=>True) hS.cx hS.full hS.j9 hL hg (fun _ _=>trivial)).2⟩
 obtain⟨_,hc⟩:=hn x h3 h2 (fun _=>False) (fun _=>⟨0,0,none⟩) W args.toList hm h1;have e0:args.toList.toArray=args:=by simp
 rw[e0] at hc;refine hc.mono fun e W' ⟨en,φ',X',he,_,_,hr,hh⟩=>?_;have hr:∃v r,en=v::r/\v=.bool true/\r=[]:=by obtain⟨v,r,h1,h2,h3⟩:=hr;have h2:[v]=[Value.bool true]:=h2;injection h2 with h2;exact⟨v,r,h1,h2,h3⟩
 obtain⟨_,_,rfl,rfl,rfl⟩:=hr;have hk:∀b,b<W.heap.size->W'.heap[b]?=W.heap[b]?:=fun b hb=>hh.frame b hb fun⟨id,h,_⟩=>by cases h
 refine⟨_,he,ds,[],p,[],p,[],ht,?_,?_,?_,qof hk hh.still,fun h=>by cases h⟩
 ·have hl:ds.length=Ts.length:=by exact Rq h2
  rw[zt,hf ds hl,ho];exact trodAll_cons_mk (p':=[]) (shut_bool hw true) rfl
 ·have hl:ds.length=Ts.length:=by exact Rq h2
  rw[zt,hf ds hl];exact Z1 hS.kids hS.full hk hv hA hs
 ·rw[hj];have hl:(s.fn H (ds++[])).vars=[]:=by rw[zt,hf ds (Rq h2)]
  rw[hl];exact rfl
end
end Ev
namespace Ev
open Go
def aS(C:Cx)(f:Nat):Bool:=match C.P.funcs.toList[f]? with
 |some fn=>!(fn.name== "runtime.NumGoroutine")
 |none=>true
def JO(C:Cx):List lr->Bool
 |[]=>aS C 0
 |s::r=>aS C s.f&&JO C r
theorem Z2{C:Cx}{f:Nat}(h:aS C f=true):∀fn,C.P.funcs[f]?=some fn->(fn.name== "runtime.NumGoroutine")=false:=by intro fn hf;unfold aS at h;rw[zL,hf] at h;simpa using h
theorem Z3{C:Cx}:∀{l:List lr},JO C l=true->∀i fn,C.P.funcs[(aM l i).f]?=some fn->(fn.name== "runtime.NumGoroutine")=false
 |[],h,_,fn,hf=>Z2 h fn hf
 |s::r,h,i,fn,hf=>by
  simp only[JO,ze] at h;cases i with
  |zero=>exact Z2 h.1 fn hf
  |succ i=>exact Z3 h.2 i fn hf
theorem z2x{C:Cx}(h1:HF C C.eM=true)(h2:EE C C.eqs=true)(h3:JO C C.sigs=true)(h4:C.P.follows .mixedOrders=true):∀{i:Nat} {x:ai (aM C.sigs i).ins.aN} {y:ai (aM C.sigs i).outs.aN},Call C i x y->nY C i x y:=by have hC:cD C:=⟨fun t T h=>P5 h1 t T h⟩;have hE:kP C:=z7c hC h2;have hL:Nq C:=z7p (Z3 h3);intro i x y h;exact h.ok hC hE hL (z7u hC hE hL h4)
theorem qyd{C:Cx}{laid:List (String×DataW Unit)}(h1:HF C C.eM=true)(h2:laidOutB C.P=true)(h3:mapsRowed C.P=true)(h4:((List.range C.P.types.size).all fun t=>match C.P.underlying t with|some (.slice e)=>decide (0<C.P.cellsOf e)|_=>true)=true)(h5:Nv C laid):Nw C laid:=⟨⟨fun t T h=>P5 h1 t T h⟩,h5,kids_rows h2 h3,slices_full_of C.P h4⟩
def cL{α β:Type}(F:(α->Option β)->α->Option β):Nat->α->Option β
 |0,_=>none
 |n+1,x=>F (cL F n) x
open Classical in
noncomputable def iM{α β:Type}(F:(α->Option β)->α->Option β)(x:α):Option β:=if h:∃y n0,∀n,n0<=n->cL F n x=some y then some (Classical.choose h) else none
theorem qye{α β:Type}{F:(α->Option β)->α->Option β}{x:α}{y:β}(h:iM F x=some y):∃n,cL F n x=some y:=by
 unfold iM at h;split at h
 ·rename_i hx;injection h with h;obtain⟨n0,hn⟩:=Classical.choose_spec hx;exact⟨n0,by rw[<-h];exact hn n0 (Nat.le_refl _)⟩
 ·cases h
theorem Dv{α β:Type}{F:(α->Option β)->α->Option β}{x:α}{y:β}(n0:Nat)(h:∀n,n0<=n->cL F n x=some y):iM F x=some y:=by unfold iM;have hx:∃y n0,∀n,n0<=n->cL F n x=some y:=⟨y,n0,h⟩;rw[dif_pos hx];obtain⟨n1,hn⟩:=Classical.choose_spec hx;have h1:=hn (n0+n1) om;rw[h (n0+n1) om] at h1;exact h1.symm
def aa(C:Cx)(k:Nat)(f:ai (aM C.sigs k).ins.aN->Option (ai (aM C.sigs k).outs.aN)):Prop:=∀x y,f x=some y->Call C k x y
def H5(C:Cx)(R:iX C.sigs):Prop:=∀j a b,R j a=some b->Call C j a b
def fv{sg:List lr}:iX sg:=fun _ _=>none
def aH{sg:List lr}(j:Nat)(f:ai (aM sg j).ins.aN->Option (ai (aM sg j).outs.aN))(R:iX sg):iX sg:=fun i=>match Nat.decEq i j with
 |isTrue h=>h▸f
 |isFalse _=>R i
theorem ba{C:Cx}:H5 C fv:=fun _ _ _ h=>by cases h
theorem aB{C:Cx}{j:Nat}{f:ai (aM C.sigs j).ins.aN->Option (ai (aM C.sigs j).outs.aN)}{R:iX C.sigs}(hf:aa C j f)(hR:H5 C R):H5 C (aH j f R):=by
 intro i a b h;unfold aH at h;cases hd:Nat.decEq i j with
 |isTrue e=>rw[hd] at h;subst e;exact hf a b h
 |isFalse e=>rw[hd] at h;exact hR i a b h
theorem z7w{C:Cx}{k:Nat}{F:(ai (aM C.sigs k).ins.aN->Option (ai (aM C.sigs k).outs.aN))->ai (aM C.sigs k).ins.aN->Option (ai (aM C.sigs k).outs.aN)}(h:∀g,aa C k g->∀x y,F g x=some y->Call C k x y):aa C k (iM F):=by
 intro x y hx;obtain⟨n,hn⟩:=qye hx;clear hx
 induction n generalizing x y with
 |zero=>cases hn
 |succ n ih=>exact h (cL F n) (fun a b hc=>ih a b hc) x y hn
theorem aa.of{C:Cx}{k:Nat}{f g:ai (aM C.sigs k).ins.aN->Option (ai (aM C.sigs k).outs.aN)}(h:aa C k f)(hg:∀x y,g x=some y->f x=some y):aa C k g:=fun x y e=>h x y (hg x y e)
theorem Rs{σ ρ:Type}{f:σ->Option (σ⊕ρ)}:∀{n m:Nat} {s:σ} {r:ρ},n<=m->mr f n s=some r->mr f m s=some r
 |0,_,_,_,_,h=>by cases h
 |n+1,0,_,_,hm,_=>by omega
 |n+1,m+1,s,r,hm,h=>by
  simp only[mr] at h ⊢;cases hs:f s with
  |none=>rw[hs] at h;cases h
  |some q=>
   rw[hs] at h;cases q with
   |inl s'=>exact Rs (n:=n) (m:=m) om h
   |inr r'=>exact h
theorem JP{σ ρ:Type}{f:σ->Option (σ⊕ρ)}{s:σ}{r:ρ}(n:Nat)(h:mr f n s=some r):aX f s=some r:=by have hx:∃r n,mr f n s=some r:=⟨r,n,h⟩;unfold aX;rw[dif_pos hx];obtain⟨m,hm⟩:=Classical.choose_spec hx;have h1:=Rs (Nat.le_max_left n m) h;have h2:=Rs (Nat.le_max_right n m) hm;rw[h1] at h2;exact h2.symm
theorem Nx{σ ρ:Type}(f:σ->Option (σ⊕ρ))(s:σ):aX f s=match f s with
  |some (.inl s')=>aX f s'
  |some (.inr r)=>some r
  |none=>none:=by
 cases hf:f s with
 |none=>
  simp only;cases hr:aX f s with
  |none=>rfl
  |some r=>
   obtain⟨n,hn⟩:=HV hr;cases n with
   |zero=>cases hn
   |succ n=>simp only[mr,hf] at hn;cases hn
 |some q=>
  cases q with
  |inr r=>exact JP 1 (by simp only[mr,hf])
  |inl s'=>
   simp only;cases hr:aX f s' with
   |some r=>obtain⟨n,hn⟩:=HV hr;exact JP (n+1) (by simp only[mr,hf];exact hn)
   |none=>
    cases hc:aX f s with
    |none=>rfl
    |some r=>
     obtain⟨n,hn⟩:=HV hc;cases n with
     |zero=>cases hn
     |succ n=>simp only[mr,hf] at hn;rw[JP n hn] at hr;cases hr
theorem ew{σ ρ:Type}{f:σ->Option (σ⊕ρ)}{s s':σ}(h:f s=some (.inl s')):aX f s=aX f s':=by rw[Nx,h]
theorem cw{σ ρ:Type}{f:σ->Option (σ⊕ρ)}{s:σ}{r:ρ}(h:f s=some (.inr r)):aX f s=some r:=by rw[Nx,h]
theorem af{α β:Type}(a:α)(f:α->Option β):aj (some a) f=f a:=id (Eq.refl (f a))
theorem aU{α:Type}(a b:Option α):az true a b=a:=id (Eq.refl a)
theorem aD{α:Type}(a b:Option α):az false a b=b:=id (Eq.refl b)
theorem Ny{n:Int}(h1:-9223372036854775808<=n)(h2:n<=9223372036854775807):IntKind.i64.wrap n=n:=by simp only[IntKind.wrap,IntKind.bits,IntKind.signed];simp;split<;>omega
theorem z7x(n:Int):IntKind.u8.wrap n=n % 256:=by simp only[IntKind.wrap,IntKind.bits,IntKind.signed];simp
theorem pD{a b:Int}(h1:-9223372036854775808<=a+b)(h2:a+b<=9223372036854775807):aG .i64 a b=a+b:=Ny h1 h2
theorem nv{a b:Int}(h1:-9223372036854775808<=a-b)(h2:a-b<=9223372036854775807):bU .i64 a b=a-b:=Ny h1 h2
theorem z2y{a b:Int}(h1:-9223372036854775808<=a*b)(h2:a*b<=9223372036854775807):mq .i64 a b=a*b:=Ny h1 h2
theorem Z4(a:Int):fS .u8 a=a % 256:=z7x a
theorem nZ{n:Int}:gH .i64 n↔-9223372036854775808<=n/\n<=9223372036854775807:=by simp[gH,IntKind.min,IntKind.max,IntKind.signed,IntKind.bits]
theorem Z5{a:Int}(s:Nat)(hs:s<=64):iK .i64 a (s:Int)=some (a / 2 ^ s):=by
 unfold iK;rw[if_neg om];have:min (s:Int).toNat IntKind.i64.bits=s:=by show min ((s:Int).toNat) 64=s;simp;omega
 rw[this,Int.fdiv_eq_ediv_of_nonneg _ (Int.pow_nonneg om)]
theorem Z6{a b:Int}(ha:0<=a)(hb:0<b):lB a b=some (a % b):=by unfold lB;rw[if_neg om,Int.tmod_eq_emod_of_nonneg ha]
theorem bP{α:Type}(a b:Int)(x y:Option α):az (aK a b) x y=if a<b then x else y:=by unfold aK;by_cases h:a<b<;>simp[h,az]
theorem EU{α:Type}(a b:Int)(x y:Option α):az (cK a b) x y=if a<=b then x else y:=by unfold cK;by_cases h:a<=b<;>simp[h,az]
theorem jA{α:Type}(a b:Int)(x y:Option α):az (ag a b) x y=if a=b then x else y:=by
 unfold ag;by_cases h:a=b
 ·subst h;rw[if_pos rfl,beq_self_eq_true];rfl
 ·rw[if_neg h,beq_false_of_ne h];rfl
theorem tZ{α:Type}(a:Bool)(x y:Option α):az (av a) x y=az a y x:=by cases a<;>rfl
theorem Bi{α:Type}(a b:List Int)(x y:Option α):az (eU a b) x y=if a=b then x else y:=by
 unfold eU;by_cases h:a=b
 ·subst h;rw[if_pos rfl,beq_self_eq_true];rfl
 ·rw[if_neg h,beq_false_of_ne h];rfl
theorem z7y{α:Type}(p:Prop)[Decidable p](x y:Option α):az (decide p) x y=if p then x else y:=by by_cases h:p<;>simp[h,az]
theorem iY(a:Int):ag a a=true:=by simp[ag]
theorem dB{a b:Int}:ag a b=true↔a=b:=by simp[ag]
theorem dx{a b:Int}(h:a≠b):ag a b=false:=by simp[ag,h]
theorem Nz(a:List Int):eU a a=true:=by simp[eU]
theorem dG{α:Type}{l:List α}{i:Nat}{x:α}(h:l[i]?=some x):cZ l (i:Int)=some x:=by unfold cZ;rw[if_pos om];simpa using h
theorem o4{n:Int}(h:n<=2147483648):fit n=some ():=by unfold fit;rw[if_pos h]
theorem z2z{a:Int}(s:Nat)(hs:s<=63)(h1:-9223372036854775808<=a*2 ^ s)(h2:a*2 ^ s<=9223372036854775807):gZ .i64 a (s:Int)=some (a*2 ^ s):=by
 unfold gZ;rw[if_neg om];have:min (s:Int).toNat IntKind.i64.bits=s:=by show min ((s:Int).toNat) 64=s;simp;omega
 rw[this,Ny h1 h2]
theorem iZ{H:Type}{enc:TypeId×Value->H}{C:Cx}{W:World}{base:Nat}{laid:List (String×DataW Unit)}(hS:Nw C laid){f:FuncId}{fn:Func}{s:ChangeSpec}(Ts:List Ty)(tb:TypeId)(hk:JM C fn.params.toList Ts=true)(hl:(fn.params.toList.all fun t=>decide (t<C.P.types.size))=true)(hf:fn.resultTypes=#[tb])(hm:C.P.underlying tb=some .bool)(hc:s.vars=[])(he:∀ds:List (DataW H),ds.length=Ts.length->s.fn H ds={results:=[.lit (.bool true)],args:=ds}){args:Array Value}{ds gs:List (DataW H)}{before:List MemPlace}
  (hg:∀(j:Nat) t v,fn.params[j]?=some t->args[j]?=some v->Value.okWide C.P W .any base t v) (hW:DataW.Whole enc C.P fn.params.toList s.vars false W args.toList ds gs before) (hL:laidMetH C.P laid W)
  (hj:∀x:pC Ts,nu Ts x->rq Ts (ds++gs)=some x->vn C ⟨f,⟨Ts.map Sh.d,[]⟩,⟨[Sh.d .bool],[]⟩,[]⟩ x (true,())):
  Calls C.P f args W fun e W'=>∃v,e=.returned v/\s.post enc C.P fn false true false false W args v W':=
 qog hS Ts tb hk (fun t ht=>by simpa using zU.1 hl t ht) hf hm hc he hg hW hL hj
theorem Z7:∀s:List Int,strLt s s=false
 |[]=>rfl
 |a::s=>by simp[strLt,Z7 s]
theorem Rt:∀s t u:List Int,strLt s t=true->strLt t u=true->strLt s u=true
 |[],[],_,h,_=>by cases h
 |_::_,[],_,h,_=>by cases h
 |_,_::_,[],_,h=>by cases h
 |[],_::_,_::_,_,_=>rfl
 |a::s,b::t,c::u,h1,h2=>by
  simp only[strLt,Bool.or_eq_true,ze,decide_eq_true_eq] at h1 h2 ⊢;rcases h1 with h1|⟨h1,h3⟩<;>rcases h2 with h2|⟨h2,h4⟩
  ·exact .inl om
  ·exact .inl om
  ·exact .inl om
  ·exact .inr ⟨by omega,Rt s t u h3 h4⟩
theorem Ru:∀s t:List Int,strLt s t=false->strLt t s=false->s=t
 |[],[],_,_=>rfl
 |[],_::_,h,_=>by cases h
 |_::_,[],_,h=>by cases h
 |a::s,b::t,h1,h2=>by
  simp only[strLt,Bool.or_eq_false_iff,Bool.and_eq_false_iff,decide_eq_false_iff_not] at h1 h2;obtain⟨h1,h3⟩:=h1;obtain⟨h2,h4⟩:=h2;have e:a=b:=om
  subst e;rw[Ru s t (h3.resolve_left fun h=>h rfl) (h4.resolve_left fun h=>h rfl)]
end Ev
namespace Ev
def ua(l:List Int):Bool:=l.all (fun b=>decide (0<=b/\b<=255))&&decide (l.length<=9223372036854775807)
theorem qyf{l:List Int}(h:ua l=true):(∀b,b∈l->0<=b/\b<=255)/\l.length<=9223372036854775807:=by unfold ua at h;simp only[ze,decide_eq_true_eq,zU] at h;exact h
end Ev

namespace Ev
open Go
def H6(f:Nat):lr:=⟨f,⟨[.d (.sl (.int .i64)),.d (.int .i64)],[]⟩,⟨[.bM 0],[.vec (.int .i64)]⟩,[]⟩
def mm:Nat->Obj:=fun _=>.none
theorem z30{C:Cx}{f:Nat}(hl:∃fn,C.P.funcs[f]?=some fn/\fn.body.isNone=false)(h0:∀w,Calls C.P f #[.slice none 0 0,.int .i64 0] w fun e w'=>e=.returned (.slice none 0 0)/\w'=w)(h1:∀(n:Nat) w,0<n->n<=1000000->Calls C.P f #[.slice none 0 0,.int .i64 n] w fun e w'=>∃cap el cs,e=.returned (.slice (some ⟨w.heap.size,0,none⟩) 0 cap)/\w'=w.drew.alloc (.cells cs el)/\cap<=cs.size)(n:Nat)(hn:n<=1000000):vn C (H6 f) (⟨true,[]⟩,(n:Int),()) (⟨decide (n=0),[]⟩,()):=by
 intro X φ w zs hm hz;have hm:MRel C X φ mm w:=hm;have hz:cd φ mm (ah X φ mm w) w [.d (.sl (.int .i64)) (⟨true,[]⟩:Sl Int),.d (.int .i64) (n:Int)] zs:=hz;refine⟨hl,?_⟩;obtain⟨z0,r0,rfl,g1,z1,r1,rfl,g2,g3⟩:=hz;have g3:r1=[]:=g3;subst g3;obtain⟨rfl,_⟩:=lG g2;obtain⟨_,g1⟩:=Dg g1;obtain rfl:z0=.slice none 0 0:=by
  rcases g1 with ⟨_,_,e⟩|⟨e,_⟩
  ·exact e
  ·cases e
 have fin:∀(s:Sl Int) (val:Value) (φ':Nat->Addr) (w':World),Comes C X φ φ' mm [(0,.vec (.int .i64) 0 false s)] w w' (.bM 0 0) val->
   ∃en φ' X',Ending.returned val=.returned (we en)/\(∀b,X b->X' b)/\MRel C X' φ' (aV (H6 f).outs (s,())) w'/\
    cd φ' (aV (H6 f).outs (s,())) (ah X' φ' (aV (H6 f).outs (s,())) w') w' (fill cH bX (H6 f).outs (s,())).1 en/\dV [] φ mm w φ' (aV (H6 f).outs (s,())) w':=by
  intro s val φ' w' hc;exact⟨[val],φ',X,rfl,fun _ h=>h,hc.mem,⟨val,[],rfl,hc.val,rfl⟩,(dV.refl [] φ mm w).step hc⟩
 by_cases h:n=0
 ·subst h;refine Calls.mono (h0 w) fun e w' ⟨e1,e2⟩=>?_;subst e1 e2;have hd:decide (0=0)=true:=rfl;rw[hd];refine fin ⟨true,[]⟩ _ φ w' ?_;refine Comes.fq hm (fun p hp=>?_) (fun hk=>?_)
  ·rw[zK.1 hp];exact⟨⟨.int .i64,rfl⟩,rfl⟩
  ·exact⟨Nat.le_refl _,fun _=>.inl ⟨rfl,rfl⟩⟩
 ·refine Calls.mono (h1 n w om hn) fun e w' ⟨cap,el,cs,e1,e2,e3⟩=>?_;subst e1;have hd:decide (n=0)=false:=zn h;rw[hd];refine fin ⟨false,[]⟩ _ (cu φ 0 ⟨w.heap.size,0,none⟩) w' ?_;have hg:w'.heap=w.heap.push (.cells cs el):=by rw[e2];rfl
  have hf:w'.heap[w.heap.size]?=some (.cells cs el):=by rw[hg];simp
  have he:∀m,m<=cs.size->room w' ⟨w.heap.size,0,none⟩ m:=fun m hm=>⟨cs,el,0,0,hf,by simpa using hm,.inl (Nat.le_refl _)⟩;refine Comes.fresh hm (B:=.cells cs el) hg (.vec (.int .i64) 0 false (⟨false,[]⟩:Sl Int)) (ns:=[]) (fun p hp=>by cases hp) (fun _=>trivial) (fun _ _ _=>?_) (fun h _=>by cases h) (fun h3=>?_) (by rw[e2];exact⟨rfl,rfl⟩)
  ·refine⟨Nat.zero_le _,fun h=>(by cases h),fun _=>.inl ?_⟩;rw[eH];refine⟨rfl,[],rfl,fun j hj=>by simp at hj,he 0 (Nat.zero_le _),fun _=>he _ (by show 0*1<=_;omega),fun h=>by cases h⟩
  ·unfold aq;rw[h3,eH];refine⟨Nat.le_refl _,fun _=>.inr ⟨rfl,cap,rfl,Nat.zero_le _,fun h=>(by cases h),fun _ _=>he _ (by show cap*1<=_;omega)⟩⟩
def mn(c:Int):List Int->Int
 |[]=>-1
 |b::r=>if b=c then 0 else if mn c r<0 then -1 else mn c r+1
theorem NA(c:Int):∀l,-1<=mn c l/\mn c l<=l.length
 |[]=>⟨Int.le_refl _,(by show(-1:Int)<=0;decide)⟩
 |b::r=>by
  have:=NA c r;unfold mn;rw[zj];split
  ·omega
  ·split<;>omega
theorem Z8(c:UInt8):∀l:List UInt8,Lib.indexByte l c=mn (c.toNat:Int) (l.map fun b=>(b.toNat:Int))
 |[]=>rfl
 |b::r=>by
  have ih:=Z8 c r;have hg:=NA (c.toNat:Int) (r.map fun b=>(b.toNat:Int));rw[zJ];unfold Lib.indexByte mn;rw[ih];by_cases h:b=c
  ·subst h;simp
  ·have h1:(b==c)=false:=by simpa using h
   have h2:¬(b.toNat:Int)=(c.toNat:Int):=fun e=>h (UInt8.toNat_inj.1 om);rw[h1,if_neg h2];simp only[Bool.false_eq_true,if_false,beq_iff_eq];by_cases h3:mn (c.toNat:Int) (r.map fun b=>(b.toNat:Int))=-1
   ·rw[if_pos h3,if_pos om]
   ·rw[if_neg h3,if_neg om]
def zce(f:Nat):lr:=⟨f,⟨[.d .str,.d (.int .u8)],[]⟩,⟨[.d (.int .i64)],[]⟩,[]⟩
theorem za4{C:Cx}{f:Nat}(he:∃fn,C.P.funcs[f]?=some fn/\fn.body.isNone=false)(h0:∀(s:ByteArray) (c:Int) w,Calls C.P f #[.string s,.int .u8 c] w fun e w'=>e=.returned (.int .i64 (Lib.indexByte s.data.toList c.toNat.toUInt8))/\w'=w)(l:List Int)(c:Int):vn C (zce f) (l,c,()) (mn c l,()):=by
 intro X φ w zs hm hz;have hm:MRel C X φ mm w:=hm;have hz:cd φ mm (ah X φ mm w) w [.d .str l,.d (.int .u8) c] zs:=hz;refine⟨he,?_⟩;obtain⟨z0,r0,rfl,g1,z1,r1,rfl,g2,g3⟩:=hz;have g3:r1=[]:=g3;subst g3;obtain⟨s,rfl,hs,hl⟩:=nV g1;obtain⟨rfl,hc⟩:=lG g2;refine Calls.mono (h0 s c w) fun e w' ⟨e1,e2⟩=>?_;subst e1 e2;have hj:0<=c/\c<=255:=hc;have ec:((c.toNat.toUInt8).toNat:Int)=c:=by have:(c.toNat.toUInt8).toNat=c.toNat % 256:=rfl;rw[this];omega
 have hv:Lib.indexByte s.data.toList c.toNat.toUInt8=mn c l:=by rw[Z8,ec,hs]
 have hg:=NA c l;have hf:l.length=s.size:=by rw[<-hs];simp
 unfold ch at hl;rw[hv];refine⟨[.int .i64 (mn c l)],φ,X,rfl,fun _ h=>h,hm,⟨_,[],rfl,lA ?_,rfl⟩,dV.refl _ _ _ _⟩;show(-9223372036854775808:Int)<=_/\_<=(9223372036854775807:Int);omega
theorem mkC{C:Cx}{k:Nat}{O:iX C.sigs}(b:Lf->iX C.sigs->ai (aM C.sigs k).ins.aN->Option (ai (aM C.sigs k).outs.aN)){f:ai (aM C.sigs k).ins.aN->Option (ai (aM C.sigs k).outs.aN)}(hO:H5 C O)(e:∀L R x,Hu L C R k x=b L R x)(o:∀x,b lf O x=f x):aa C k f:=fun x y h=>Call.mk (C:=C) O hO k x y (((e lf O x).trans (o x)).trans h)
theorem EV{C:Cx}{k:Nat}(b:Lf->iX C.sigs->ai (aM C.sigs k).ins.aN->Option (ai (aM C.sigs k).outs.aN)){F:(ai (aM C.sigs k).ins.aN->Option (ai (aM C.sigs k).outs.aN))->ai (aM C.sigs k).ins.aN->Option (ai (aM C.sigs k).outs.aN)}{O:(ai (aM C.sigs k).ins.aN->Option (ai (aM C.sigs k).outs.aN))->iX C.sigs}(hO:∀g,aa C k g->H5 C (O g))(e:∀L R x,Hu L C R k x=b L R x)(o:∀g x,b lf (O g) x=F g x):aa C k (iM F):=z7w fun g hg x y h=>Call.mk (C:=C) (O g) (hO g hg) k x y (((e lf (O g) x).trans (o g x)).trans h)
end Ev
namespace Ev
def dL:Nat->Nat->List Int
 |0,_=>[]
 |f+1,u=>if u<10 then [48+(u:Int)] else dL f (u / 10)++[48+((u % 10:Nat):Int)]
def kS(n:Int):List Int:=if n<0 then 45::dL 20 n.natAbs else dL 20 n.toNat
def gO:List Int->List Int
 |[]=>[]
 |b::l=>if b=45 then 126::l else b::gO l
theorem Rv:∀l,(gO l).length=l.length
 |[]=>rfl
 |b::l=>by
  unfold gO;split
  ·rfl
  ·rw[zj,zj,Rv l]
theorem Rw:∀f u,(dL f u).length<=f
 |0,_=>Nat.le_refl _
 |f+1,u=>by
  unfold dL;split
  ·simp
  ·have:=Rw f (u / 10);rw[zd,List.length_singleton];omega
theorem NB(n:Int):(kS n).length<=21:=by
 unfold kS;split
 ·have:=Rw 20 n.natAbs;rw[zj];omega
 ·have:=Rw 20 n.toNat
  omega
end Ev

namespace Ev
open Go Go.RowKit Go.Sort
theorem Rx{C:Cx}{X:Nat->Prop}{φ:Nat->Addr}{w w':World}(hm:MRel C X φ mm w)(hb:Below w.heap.size w w'){b:ByteArray}{l:List Int}(hl:b.data.toList.map (fun b=>(b.toNat:Int))=l)(hs:b.size<=ch):∃en φ' X',Ending.returned (.string b)=.returned (we en)/\(∀b,X b->X' b)/\MRel C X' φ' (aV (⟨[.d .str],[]⟩:Shape) (l,())) w'/\cd φ' (aV (⟨[.d .str],[]⟩:Shape) (l,())) (ah X' φ' (aV (⟨[.d .str],[]⟩:Shape) (l,())) w') w' (fill cH bX (⟨[.d .str],[]⟩:Shape) (l,())).1 en/\dV [] φ mm w φ' (aV (⟨[.d .str],[]⟩:Shape) (l,())) w':=by
 have hc:Comes C X φ φ mm [] w w' (.d .str l) (.string b):=
  Comes.make hm hb.size (fun b he _=>hb.block b he) (fun _ _=>rfl) (fun _ _ _=>rfl) (fun id h=>absurd h (List.not_mem_nil)) (fun id h=>absurd h (List.not_mem_nil)) (fun i j h=>absurd h (List.not_mem_nil))
   (fun _ _ _ id h=>absurd h (List.not_mem_nil)) (fun id h=>absurd h (List.not_mem_nil)) (fun _ _ _=>Em hl hs) ⟨hb.os,hb.output⟩
 exact⟨[.string b],φ,X,rfl,fun _ h=>h,hc.mem,⟨.string b,[],rfl,hc.val,rfl⟩,(dV.refl [] φ mm w).step hc⟩
theorem Z9{imm:Nat->Prop}{w:World}{k:IntKind}:∀(l:List Int) (cs:List Value),bc (aA imm w (.int k)) l cs->cs=l.map fun z=>Value.int k z
 |[],cs,h=>h
 |x::l,cs,⟨c,d,e,h1,h2⟩=>by rw[e,Z9 l d h2,h1.1];rfl
theorem za5{C:Cx}{X:Nat->Prop}{φ:Nat->Addr}{o:Nat->Obj}{w:World}(hm:MRel C X φ o w){name:String}{g n:Nat}{k:IntKind}{zs:List Int}(hg:C.P.globalNamed name=some g)(h:C.j9 g=some ⟨.arr n (.int k),zs⟩):Lib.TabIs C.P w name k zs:=by
 obtain⟨a,cs,e,_,hi,hr,hc⟩:=hm.fk g _ _ h;injection e with e;injection e with e;subst e;obtain⟨c,el,fz,h1,h2⟩:=hm.Hz g _ _ h;have hl:=gY _ _ _ hr;have he:cs=zs.map fun z=>Value.int k z:=Z9 zs cs hr.2;unfold Lib.TabIs World.var?;rw[hg,Option.bind_some,h1];have hf:c.toList=cs:=by
  apply List.ext_getElem
  ·rw[Array.length_toList];omega
  ·intro i i1 i2;have:=hc i i2;unfold World.cell? at this;simp only[zD] at this;rw[h1] at this;rw[Array.length_toList] at i1;rw[Array.getElem_toList];simpa[i1] using this
 show some c=_;rw[<-he,<-hf,Array.toArray_toList]
theorem qt2:∀(f u:Nat),u<10 ^ (f+1)->dL (f+1) u=(Lib.decDigits u).map fun b=>(b.toNat:Int):=by
 intro f
 induction f with
 |zero=>
  intro u h;have h:u<10:=by simpa using h
  unfold dL;rw[Lib.decDigits,if_pos h,dif_pos h];have e:(UInt8.ofNat (48+u)).toNat=48+u:=by rw[UInt8.toNat_ofNat'];omega
  simp only[zJ,List.map_nil,e];congr 1
 |succ f ih=>
  intro u h;unfold dL;rw[Lib.decDigits];by_cases hu:u<10
  ·rw[if_pos hu,dif_pos hu];have e:(UInt8.ofNat (48+u)).toNat=48+u:=by rw[UInt8.toNat_ofNat'];omega
   simp only[zJ,List.map_nil,e];congr 1
  ·rw[if_neg hu,dif_neg hu,ih (u / 10) (by rw[Nat.pow_succ] at h;omega),zT];have e:(UInt8.ofNat (48+u % 10)).toNat=48+u % 10:=by rw[UInt8.toNat_ofNat'];omega
   simp only[zJ,List.map_nil,e];congr 2
theorem qt3{n:Int}(h0:-9223372036854775808<=n)(h1:n<=9223372036854775807):(Lib.itoa n).map (fun b=>(b.toNat:Int))=kS n:=by
 have hp:(10:Nat) ^ (19+1)=100000000000000000000:=dc
 unfold Lib.itoa kS;by_cases h:n<0
 ·rw[if_pos h,if_pos h,qt2 19 _ (by rw[hp];omega)];rfl
 ·rw[if_neg h,if_neg h,qt2 19 _ (by rw[hp];omega)]
def za6(f:Nat):lr:=⟨f,⟨[.d (.int .i64),.d (.int .i64)],[]⟩,⟨[.d .str],[]⟩,[]⟩
theorem z7z{C:Cx}{f:Nat}(he:∃fn,C.P.funcs[f]?=some fn/\fn.body.isNone=false){g m:Nat}{zs:List Int}(hg:C.P.globalNamed "internal/strconv.uint64pow10"=some g)(ht:C.j9 g=some ⟨.arr m (.int .u64),zs⟩)(h0:∀(n:Int),-9223372036854775808<=n->n<=9223372036854775807->∀w,Lib.TabIs C.P w "internal/strconv.uint64pow10" .u64 zs->Calls C.P f #[.int .i64 n,.int .i64 10] w fun e w'=>e=.returned (.string ⟨(Lib.itoa n).toArray⟩)/\∃k os,w'=grow (w.drewN k) os)(n:Int)(hn:-9223372036854775808<=n)(hc:n<=9223372036854775807):vn C (za6 f) (n,(10:Int),()) (kS n,()):=by
 intro X φ w JR hm hz;have hm:MRel C X φ mm w:=hm;have hz:cd φ mm (ah X φ mm w) w [.d (.int .i64) n,.d (.int .i64) (10:Int)] JR:=hz;refine⟨he,?_⟩;obtain⟨z0,r0,rfl,g1,z1,r1,rfl,g2,g3⟩:=hz;have g3:r1=[]:=g3;subst g3;obtain⟨rfl,_⟩:=lG g1;obtain⟨rfl,_⟩:=lG g2;refine Calls.mono (h0 n hn hc w (za5 hm hg ht)) fun e w' ⟨e1,k,os,e2⟩=>?_;subst e1 e2;refine Rx (w':=grow (w.drewN k) os) hm (b:=⟨(Lib.itoa n).toArray⟩) ⟨rfl,rfl,rfl,?_,fun i hi=>?_⟩ ?_ ?_
 ·show w.heap.size<=(w.heap++os).size;rw[Array.size_append];omega
 ·show(w.heap++os)[i]?=_;rw[Array.getElem?_append_left hi]
 ·exact qt3 hn hc
 ·have:=congrArg List.length (qt3 hn hc);rw[zO] at this;have h2:=NB n;show(Lib.itoa n).toArray.size<=ch;unfold ch;simp only[List.size_toArray];omega
def za7(f:Nat):lr:=⟨f,⟨[.d .str,.d .str,.d .str,.d (.int .i64)],[]⟩,⟨[.d .str],[]⟩,[]⟩
def qP:List UInt8->List UInt8
 |[]=>[]
 |b::l=>if b=45 then 126::l else b::qP l
theorem Ry:∀l:List UInt8,(qP l).map (fun b=>(b.toNat:Int))=gO (l.map fun b=>(b.toNat:Int))
 |[]=>rfl
 |b::l=>by
  unfold qP;rw[zJ];unfold gO;by_cases h:b=45
  ·subst h;rfl
  ·have hb:(b.toNat:Int)≠45:=fun e=>h (UInt8.toNat_inj.1 (by
    have:(45:UInt8).toNat=45:=rfl;omega))
   rw[if_neg h,if_neg hb,zJ,Ry l]
theorem z80{C:Cx}{f:Nat}(hc:∃fn,C.P.funcs[f]?=some fn/\fn.body.isNone=false)(h0:∀(s:ByteArray) w,s.size<=1000->Calls C.P f #[.string s,.string ⟨#[45]⟩,.string ⟨#[126]⟩,.int .i64 1] w fun e w'=>e=.returned (.string ⟨(qP s.data.toList).toArray⟩)/\Below w.heap.size w w')(l:List Int)(hl:l.length<=1000):vn C (za7 f) (l,[45],[126],(1:Int),()) (gO l,()):=by
 intro X φ w JR hm hz;have hm:MRel C X φ mm w:=hm;have hz:cd φ mm (ah X φ mm w) w [.d .str l,.d .str ([45]:List Int),.d .str ([126]:List Int),.d (.int .i64) (1:Int)] JR:=hz;refine⟨hc,?_⟩;obtain⟨z0,r0,rfl,g1,z1,r1,rfl,g2,z2,r2,rfl,g3,z3,r3,rfl,g4,g5⟩:=hz;have g5:r3=[]:=g5;subst g5;have one:∀{s:ByteArray} {c:UInt8},s.data.toList.map (fun b=>(b.toNat:Int))=[(c.toNat:Int)]->s=⟨#[c]⟩:=by
  intro s c h;obtain⟨⟨d⟩⟩:=s
  match d with
  |[]=>exact absurd (congrArg List.length h) (by simp)
  |[b]=>have h:[(b.toNat:Int)]=[(c.toNat:Int)]:=h;injection h with h _;have e:b=c:=UInt8.toNat_inj.1 om;rw[e]
  |_::_::_=>exact absurd (congrArg List.length h) (by simp)
 obtain⟨s,rfl,hs,hj⟩:=nV g1;obtain⟨s1,rfl,he,_⟩:=nV g2;obtain⟨s2,rfl,hf,_⟩:=nV g3;obtain⟨rfl,_⟩:=lG g4;obtain rfl:=one (c:=45) he;obtain rfl:=one (c:=126) hf;have hg:s.size<=1000:=by
  have:=congrArg List.length hs;rw[zO] at this;have e:s.size=s.data.toList.length:=by rw[Array.length_toList];rfl
  omega
 refine Calls.mono (h0 s w hg) fun e w' ⟨e1,e2⟩=>?_;subst e1;refine Rx hm (b:=⟨(qP s.data.toList).toArray⟩) e2 ?_ ?_
 ·show(qP s.data.toList).map _=_;rw[Ry,hs]
 ·have:=congrArg List.length (Ry s.data.toList);rw[zO,Rv,hs] at this;show(qP s.data.toList).toArray.size<=ch;unfold ch;simp only[List.size_toArray];omega
end Ev