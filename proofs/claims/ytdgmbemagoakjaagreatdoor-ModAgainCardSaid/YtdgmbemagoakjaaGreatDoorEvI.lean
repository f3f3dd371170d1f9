/- From what a row reads to data; calls as functions; numbers. -/
import Derived.Test.YtdgmbemagoakjaaGreatDoorEvH
import Derived.ChangeArms
import Derived.OpenShut
import Derived.ChangeSame
import Derived.ReadAgain
import Derived.ChangeStays
import Derived.WideShapes
import Derived.RowKit2
import Derived.Lib.Bytealg
import Derived.Lib.LaidTab
import Derived.Below
import Derived.Deep.Draws
import Derived.Sort.Grow
import Derived.Lib.ItoaNum
namespace Ev
open Go
variable{H α β:Type}{T:Ty}{t:TypeId}{v:Value}{W:World}
def Qy(f:α->Option β):List α->Option (List β)
 |[]=>some []
 |x::r=>match f x with
  |some y=>match Qy f r with
   |some l=>some (y::l)
   |none=>none
  |none=>none
def iJ:(T:Ty)->List (DataW H)->Option (den T)
 |.unit,l=>match l with
  |[]=>some ()
  |_=>none
 |.pair a b,l=>match l with
  |d::r=>match iJ a [d] with
   |some x=>match iJ b r with
    |some y=>some (x,y)
    |none=>none
   |none=>none
  |[]=>none
 |.st p,l=>match l with
  |[.agg ps]=>iJ p ps
  |_=>none
 |.int k,l=>match l with
  |[.lit (.int k' n)]=>if k'=k then some n else none
  |_=>none
 |.bool,l=>match l with
  |[.lit (.bool b)]=>some b
  |_=>none
 |.str,l=>match l with
  |[.lit (.string s)]=>some (s.map fun b=>(b.toNat:Int))
  |_=>none
 |.arr n e,l=>match l with
  |[.agg ps]=>match Qy (fun d=>iJ e [d]) ps with
   |some l=>if l.length=n then some l else none
   |none=>none
  |_=>none
 |.sl e,l=>match l with
  |[.nil]=>some (⟨true,[]⟩:Sl (den e))
  |[.slice es _]=>match Qy (fun d=>iJ e [d]) es with
   |some l=>some (⟨false,l⟩:Sl (den e))
   |none=>none
  |_=>none
 |.gz,_=>none
 |.fY,_=>none
def mm:Ty->Bool
 |.gz=>false
 |.fY=>false
 |.pair a b=>mm a&&mm b
 |.st p=>mm p
 |.arr _ e=>mm e
 |.sl e=>mm e
 |_=>true
theorem oV.lt{C:Cx}(h:oV C t T):t<C.P.types.size:=by
 have⟨i,_,_,h2,_⟩:=h.info
 grind
theorem zcj{a:Addr}(h:W.cell? a=some v):a.block<W.heap.size:=by
 unfold World.cell? at h
 grind
theorem Oy{C:Cx}(h:oV C t T):C.P.cellsOf t=aB T:=by have⟨i,z,h1,_,h2,_⟩:=h.info;unfold Program.cellsOf;rw[h1];exact h2
section
variable {H:Type} {enc:TypeId×Value→H} {C:Cx} {W:World} {base:Nat} {spare:Nat→Bool} {held:Bool} {imm:Nat→Prop}
def EK(C:Cx)(enc:TypeId×Value->H)(W:World)(base:Nat)(spare:Nat->Bool)(held:Bool)(imm:Nat->Prop)(T:Ty):Prop:=∀t fuel cs y,C.ty t=some T->DataW.trod enc C.P W base spare held fuel t cs=some y->∃x,az imm W T x cs/\iJ T [y.1]=some x
theorem z02{e:Ty}:∀(n:Nat) (xs:List (DataW H×List MemPlace)) (f:Nat->List Value),xs.length=n->(∀i y,xs[i]?=some y->∃x,az imm W e x (f i)/\iJ e [y.1]=some x)->∃l:List (den e),l.length=n/\bT (az imm W e) l ((List.range n).flatMap f)/\Qy (fun d=>iJ e [d]) (xs.map (·.1))=some l:=by
 intro n
 induction n with
 |zero=>intro xs f hl _;have:=jl hl;subst this;exact⟨[],rfl,rfl,rfl⟩
 |succ n ih=>
  intro xs f hl h;cases xs with
  |nil=>cases hl
  |cons y xs=>
   have⟨x,h1,h2⟩:=h 0 y rfl;obtain⟨l,g1,g2,g3⟩:=ih xs (fun i=>f (i+1)) (by simp_all) (fun i z hz=>h (i+1) z (by simpa using hz));refine⟨x::l,by simp[g1],?_,?_⟩
   ·rw[List.range_succ_eq_map,jM,List.flatMap_map];exact⟨_,_,rfl,h1,g2⟩
   ·simp only[zX,Qy,h2,g3]
theorem z6p{k:Nat}:∀(n:Nat) (cs:List Value),cs.length=n*k->(List.range n).flatMap (fun i=>(cs.drop (i*k)).take k)=cs:=by
 intro n
 induction n with
 |zero=>intro cs h;simp at h;subst h;rfl
 |succ n ih=>
  intro cs h;rw[List.range_succ_eq_map,jM,List.flatMap_map];have h1:∀i,(cs.drop ((i+1)*k)).take k=((cs.drop k).drop (i*k)).take k:=fun i=>by rw[jw];congr 2;rw[Zm];omega
  simp only[Nat.succ_eq_add_one,h1];rw[ih (cs.drop k) (by rw[jf,h,Zm];omega)];simp
theorem z6q(hC:cS C)(hA:∀b,spare b=true)(hq:∀b,b<W.heap.size->imm b)(ht:∀t e,t<C.P.types.size->C.P.underlying t=some (.slice e)->0<C.P.cellsOf e)(T:Ty):mm T=true->EK C enc W base spare held imm T/\(∀(fs:List Field) (off:Nat) (n:Nat) (cs:List Value) (xs:List (DataW H×List MemPlace)),uC C fs T off=true->off+aB T<=cs.length->xs.length=fs.length->(∀(i:Nat) (f:Field),fs[i]?=some f->DataW.trod enc C.P W base spare held n f.type ((cs.drop f.offset).take (C.P.cellsOf f.type))=xs[i]?)->∃x,az imm W T x ((cs.drop off).take (aB T))/\iJ T (xs.map (·.1))=some x):=by
 have one:∀(T:Ty),mm T=true->EK C enc W base spare held imm T->∀(f:Field) (off:Nat) (n:Nat) (cs:List Value) (xs:List (DataW H×List MemPlace)),uC C [f] T off=true->off+aB T<=cs.length->
   xs.length=1->(∀(i:Nat) (f':Field),[f][i]?=some f'->DataW.trod enc C.P W base spare held n f'.type ((cs.drop f'.offset).take (C.P.cellsOf f'.type))=xs[i]?)->
   ∃x,az imm W T x ((cs.drop off).take (aB T))/\iJ T (xs.map (·.1))=some x:=by
  intro T _ hT f off n cs xs hf _ hl h;have hf:(C.is f.type T&&Nat.beq f.offset off)=true:=by cases T<;>exact hf
  rw[ze] at hf;obtain⟨y,rfl⟩:∃y,xs=[y]:=by
   match xs,hl with
   |[y],_=>exact⟨y,rfl⟩
  have he:=qe hf.1;have hx:=zo hf.2;have h0:=h 0 f rfl;rw[Oy (hC.fD _ _ he),hx] at h0;obtain⟨x,h1,h2⟩:=hT _ _ _ _ he h0;exact⟨x,h1,h2⟩
 have mn:∀(T:Ty),mm T=true->(∀a b,T≠.pair a b)->T≠.unit->EK C enc W base spare held imm T->(∀(fs:List Field) (off:Nat) (n:Nat) (cs:List Value) (xs:List (DataW H×List MemPlace)),uC C fs T off=true->off+aB T<=cs.length->xs.length=fs.length->
   (∀(i:Nat) (f:Field),fs[i]?=some f->DataW.trod enc C.P W base spare held n f.type ((cs.drop f.offset).take (C.P.cellsOf f.type))=xs[i]?)->
   ∃x,az imm W T x ((cs.drop off).take (aB T))/\iJ T (xs.map (·.1))=some x):=by
  intro T hk hp hu hT fs off n cs xs hf hg hl h;cases fs with
  |nil=>cases T<;>first|exact absurd rfl hu|cases hf
  |cons f fs=>
   cases fs with
   |nil=>exact one T hk hT f off n cs xs hf hg hl h
   |cons g r=>cases T<;>first|exact absurd rfl (hp _ _)|cases hf
 induction T with
 |int k=>
  intro hk;have hT:EK C enc W base spare held imm (.int k):=by
   intro t fuel cs y he h;obtain⟨d,h1,h2,h3⟩:=(hC.fD _ _ he).desc;cases d<;>simp only[pE] at h3<;>try (cases h3;done)
   have:=PZ h3;subst this;obtain⟨n,rfl,rfl,hw⟩:=DataW.trod_int h2 h;refine⟨n,⟨rfl,?_⟩,by simp[iJ]⟩;simpa[Lit.wf,iI] using hw
  exact⟨hT,mn _ hk (fun _ _ h=>by cases h) (fun h=>by cases h) hT⟩
 |gz=>intro hk;cases hk
 |fY=>intro hk;cases hk
 |bool=>
  intro hk;have hT:EK C enc W base spare held imm .bool:=by
   intro t fuel cs y he h;obtain⟨d,h1,h2,h3⟩:=(hC.fD _ _ he).desc;cases d<;>simp only[pE] at h3<;>try (cases h3;done)
   obtain⟨n,rfl,rfl⟩:=DataW.trod_bool h2 h;exact⟨n,rfl,rfl⟩
  exact⟨hT,mn _ hk nofun (fun h=>by cases h) hT⟩
 |str=>
  intro hk;have hT:EK C enc W base spare held imm .str:=by
   intro t fuel cs y he h;obtain⟨d,h1,h2,h3⟩:=(hC.fD _ _ he).desc;cases d<;>simp only[pE] at h3<;>try (cases h3;done)
   obtain⟨s,rfl,rfl,hs⟩:=DataW.trod_string h2 h;exact⟨_,⟨s,rfl,rfl,hs⟩,rfl⟩
  exact⟨hT,mn _ hk nofun (fun h=>by cases h) hT⟩
 |unit=>
  intro _;refine⟨?_,?_⟩
  ·intro t fuel cs y he h;obtain⟨d,h1,h2,h3⟩:=(hC.fD _ _ he).desc;cases d<;>simp[pE] at h3<;>first|(cases h3;done)|(rename_i k;cases k<;>cases h3)
  ·intro fs off n cs xs hf _ hl _;cases fs with
   |nil=>have:xs=[]:=jl hl;subst this;exact⟨(),by simp[aB,az],rfl⟩
   |cons f r=>
    cases r with
    |nil=>simp only[uC,ze] at hf;have he:=qe hf.1;obtain⟨d,h1,h2,h3⟩:=(hC.fD _ _ he).desc;cases d<;>simp only[pE] at h3<;>first|(cases h3;done)|(rename_i k;cases k<;>cases h3)
    |cons g r=>cases hf
 |st p ih=>
  intro hk;replace ih:=ih hk;have hT:EK C enc W base spare held imm (.st p):=by
   intro t fuel cs y he h;have hn:=hC.fD _ _ he;obtain⟨d,h1,h2,h3⟩:=hn.desc;cases d<;>simp only[pE] at h3<;>try (cases h3;done)
   rename_i fs;obtain⟨xs,n,rfl,rfl,hl,hg,hf⟩:=DataW.trod_struct h2 h;rw[Oy hn] at hl;have hl:cs.length=aB p:=hl;obtain⟨x,g1,g2⟩:=ih.2 fs.toList 0 n cs xs h3 om (by simpa using hg) (fun i f hi=>hf i f (by rw[<-ji];exact hi));rw[jh,jT om] at g1;exact⟨x,g1,g2⟩
  exact⟨hT,mn _ hk (fun _ _ h=>by cases h) (fun h=>by cases h) hT⟩
 |pair a b rW mZ=>
  intro hk;simp only[mm,ze] at hk;replace rW:=rW hk.1;replace mZ:=mZ hk.2;refine⟨?_,?_⟩
  ·intro t fuel cs y he h;obtain⟨d,h1,h2,h3⟩:=(hC.fD _ _ he).desc;cases d<;>simp[pE] at h3<;>first|(cases h3;done)|(rename_i k;cases k<;>cases h3)
  ·intro fs off n cs xs hf hg hl h;cases fs with
   |nil=>cases hf
   |cons f r=>
    cases r with
    |nil=>simp only[uC,ze] at hf;have he:=qe hf.1;obtain⟨d,h1,h2,h3⟩:=(hC.fD _ _ he).desc;cases d<;>simp only[pE] at h3<;>first|(cases h3;done)|(rename_i k;cases k<;>cases h3)
    |cons g r=>
     simp only[uC,ze] at hf;cases xs with
     |nil=>cases hl
     |cons y xs=>
      simp only[aB] at hg;have he:=qe hf.1.1;have hx:=zo hf.1.2;have h0:=h 0 f rfl;rw[Oy (hC.fD _ _ he),hx] at h0;obtain⟨x1,g1,g2⟩:=rW.1 _ _ _ _ he h0;obtain⟨x2,g3,g4⟩:=mZ.2 (g::r) (off+aB a) n cs xs hf.2 om (by simpa using hl) (fun i f' hi=>h (i+1) f' (by simpa using hi));refine⟨(x1,x2),⟨_,_,?_,g1,g3⟩,?_⟩
      ·show(cs.drop off).take (aB a+aB b)=_;rw[List.take_add,jw]
      ·simp only[zX,iJ,g2,g4]
 |arr n e ih=>
  intro hk;replace ih:=ih hk;have hT:EK C enc W base spare held imm (.arr n e):=by
   intro t fuel cs y he h;have hn:=hC.fD _ _ he;obtain⟨d,h1,h2,h3⟩:=hn.desc;cases d<;>simp only[pE] at h3<;>try (cases h3;done)
   rename_i m te;rw[ze] at h3;have:=zo h3.1;subst this;have ho:=qe h3.2;obtain⟨xs,k,rfl,rfl,hl,hg,hf⟩:=DataW.trod_array h2 h;rw[Oy hn] at hl;have hl:cs.length=m*aB e:=hl;rw[Oy (hC.fD _ _ ho)] at hf;obtain⟨l,g1,g2,g3⟩:=z02 (imm:=imm) (W:=W) (e:=e) m xs (fun i=>(cs.drop (i*aB e)).take (aB e)) hg (fun i y hy=>by
    have hi:i<m:=by grind
    have:=hf i hi;rw[hy] at this;exact ih.1 _ _ _ _ ho this)
   rw[z6p m cs hl] at g2;refine⟨l,⟨g1,g2⟩,?_⟩;simp only[iJ,g3,g1,if_true]
  exact⟨hT,mn _ hk (fun _ _ h=>by cases h) (fun h=>by cases h) hT⟩
 |sl e ih=>
  intro hk;replace ih:=ih hk;have hT:EK C enc W base spare held imm (.sl e):=by
   intro t fuel cs y he h;have hn:=hC.fD _ _ he;obtain⟨d,h1,h2,h3⟩:=hn.desc;cases d<;>simp only[pE] at h3<;>try (cases h3;done)
   rename_i te;have ho:=qe h3;rcases DataW.trod_slice h2 h with ⟨rfl,rfl⟩|⟨a,len,cap,elems,rest,n,rfl,rfl,rfl,hb,hH,hI,hg,hf,hr,_⟩
   ·exact⟨⟨true,[]⟩,⟨_,rfl,zC _,.inl ⟨rfl,rfl,rfl⟩⟩,rfl⟩
   ·have hB:=ht t te hn.lt h2;have first:cap≠0->∃v,W.cell? a=some v:=by
     intro hc;have hD:∃y,(W.cells? base (a.add (0*C.P.cellsOf te)) (C.P.cellsOf te)).bind (DataW.trod enc C.P W base spare held n te)=some y:=by
      by_cases h0:len=0
      ·obtain⟨r1,r2⟩:=hr (hA _);have:=r2 0 om
       grind
      ·have:=hf 0 om
       grind
     obtain⟨y,hy⟩:=hD;obtain⟨ci,h5,_⟩:=zO.1 hy;obtain⟨_,h6,h7⟩:=World.cells?_some h5;have h8:=h7 0 hB;rw[zh om,Nat.zero_mul,show(a.add 0).add 0=a from rfl] at h8;exact⟨_,h8⟩
    have hs:cap≠0->a.spot=none:=fun hc=>by
     have⟨v,hv⟩:=first hc
     exact World.cell?_spot hv
    have hi:len≠0->imm a.block:=fun h0=>by
     have⟨v,hv⟩:=first om
     exact hq _ (zcj hv)
    rw[Oy (hC.fD _ _ ho)] at hf;have wH:∀i,i<len->∃ci,W.cells? base (a.add (i*aB e)) (aB e)=some ci/\DataW.trod enc C.P W base spare held n te ci=elems[i]?:=fun i hi=>by
     have:=hf i hi;rw[zh om] at this;obtain⟨ci,h1,h2⟩:=zO.1 this
     grind
    let f:Nat->List Value:=fun i=>(W.cells? base (a.add (i*aB e)) (aB e)).getD [];obtain⟨l,g1,g2,g3⟩:=z02 (imm:=imm) (W:=W) (e:=e) len elems f hg (fun i y hy=>by
     have hi:i<len:=by grind
     obtain⟨ci,h1,h2⟩:=wH i hi;rw[hy] at h2;show ∃x,az imm W e x ((W.cells? base (a.add (i*aB e)) (aB e)).getD [])/\_;rw[h1,JD];exact ih.1 _ _ _ _ ho h2)
    have hE:∀i,i<len->(f i).length=aB e/\∀j (hj:j<(f i).length),W.cell? ⟨a.block,a.off+i*aB e+j,none⟩=some (f i)[j]:=fun i hi=>by
     obtain⟨ci,h1,_⟩:=wH i hi;have hF:f i=ci:=by show(W.cells? base (a.add (i*aB e)) (aB e)).getD []=ci;rw[h1];rfl
     obtain⟨_,h4,h5⟩:=World.cells?_some h1;rw[hF];refine⟨h4,fun j hj=>?_⟩;have:=h5 j om;rw[zh hj] at this;rw[<-this];have:(a.add (i*aB e)).add j=⟨a.block,a.off+i*aB e+j,none⟩:=by
      obtain⟨ab,ao,as⟩:=a;have hs:as=none:=hs om;subst hs;simp only[Addr.add]
      grind
     rw[this]
    have hG:mN W a ((List.range len).flatMap f):=by
     clear g2 g3 h hf;have key:∀m,m<=len->mN W a ((List.range m).flatMap f)/\((List.range m).flatMap f).length=m*aB e:=by
      intro m
      induction m with
      |zero=>intro _;exact⟨fun j hj=>by simp at hj,by simp⟩
      |succ m ihm=>
       intro hm;obtain⟨k1,k2⟩:=ihm om;obtain⟨k3,k4⟩:=hE m om;rw[List.range_succ,List.flatMap_append,List.flatMap_singleton];refine⟨fun j hj=>?_,by rw[zd,k2,k3,Zm]⟩;by_cases hz:j<((List.range m).flatMap f).length
       ·rw[List.getElem_append_left hz];exact k1 j hz
       grind
     grind
    refine⟨⟨false,l⟩,⟨_,rfl,?_,.inr ⟨rfl,a,cap,_,?_,hs,fun h=>hi fun h0=>h (jl (g1.trans h0)),g2,hG,?_⟩⟩,?_⟩
    ·show l.length<=cG;have:maxLen=cG:=rfl;omega
    ·grind
    ·grind
    ·simp[iJ,g3]
  exact⟨hT,mn _ hk (fun _ _ h=>by cases h) (fun h=>by cases h) hT⟩
end
end Ev
namespace Ev
open Go Go.ChangeShapes Go.WideShapes Go.RowKit
variable{H α:Type}{laid:List (String×DataW Unit)}{g i:Nat}{T:Ty}{t:TypeId}{v:Value}{W W' w:World}
def gE:(T:Ty)->den T->Prop
 |.int k,n=>iI k n
 |.bool,_=>True
 |.gz,_=>True
 |.fY,_=>True
 |.str,l=>List.length l<=cG/\∀b,b∈(l:List Int)->0<=b/\b<256
 |.unit,_=>True
 |.pair a b,x=>gE a x.1/\gE b x.2
 |.st p,x=>gE p x
 |.arr n e,l=>List.length l=n/\∀x,x∈(l:List (den e))->gE e x
 |.sl e,s=>s.l.length<=cG/\(s.nil=true->s.l=[])/\∀x,x∈s.l->gE e x
theorem qs1{f:α->List Value->Prop}{g:α->Prop}(h:∀x c,f x c->g x):∀{l:List α} {cs:List Value},bT f l cs->∀x,x∈l->g x
 |y::l,_,⟨c,d,e,h1,h2⟩,x,hx=>by
  rcases zA.1 hx with rfl|hx
  ·exact h _ _ h1
  ·exact qs1 h h2 x hx
theorem Oz{imm:Nat->Prop}:∀(T:Ty) (x:den T) (cs:List Value),az imm w T x cs->gE T x
 |.int _,_,_,h=>h.2
 |.bool,_,_,_=>trivial
 |.gz,_,_,_=>trivial
 |.fY,_,_,_=>trivial
 |.str,_,_,⟨s,_,h2,h3⟩=>by subst h2;refine⟨by simpa using h3,fun b hb=>?_⟩;obtain⟨c,_,rfl⟩:=jS.1 hb;have:=c.toNat_lt;omega
 |.unit,_,_,_=>trivial
 |.pair a b,x,_,⟨c,d,_,h1,h2⟩=>⟨Oz a x.1 c h1,Oz b x.2 d h2⟩
 |.st p,x,cs,h=>Oz p x cs h
 |.arr _ e,_,_,⟨h1,h2⟩=>⟨h1,qs1 (fun x c h=>Oz e x c h) h2⟩
 |.sl e,s,_,⟨v,_,h2,h3⟩=>by
  rcases h3 with ⟨h3,h4,_⟩|⟨h3,a,cap,ec,_,_,_,h5,_⟩
  ·exact⟨h2,fun _=>h4,fun x hx=>by rw[h4] at hx;cases hx⟩
  ·exact⟨h2,(fun h=>by rw[h3] at h;cases h),qs1 (fun x c h=>Oz e x c h) h5⟩
abbrev xV(Ts:List Ty):Type:=ak (kW (Ts.map Sh.d) [])
def wI:(Ts:List Ty)->xV Ts->Prop
 |[],_=>True
 |T::Ts,x=>gE T x.1/\wI Ts x.2
def xW:(Ts:List Ty)->List (DataW H)->Option (xV Ts)
 |[],[]=>some ()
 |T::Ts,d::ds=>match iJ T [d] with
  |some x=>match xW Ts ds with
   |some y=>some (x,y)
   |none=>none
  |none=>none
 |_,_=>none
def Wj(C:Cx):List TypeId->List Ty->Bool
 |[],[]=>true
 |t::ts,T::Ts=>(C.is t T&&mm T)&&Wj C ts Ts
 |_,_=>false
theorem qs2:∀{Ts:List Ty} {ds:List (DataW H)} {x:xV Ts},xW Ts ds=some x->ds.length=Ts.length:=by
 intro Ts
 induction Ts with
 |nil=>intro ds x h;cases ds with|nil=>rfl|cons d ds=>cases h
 |cons T Ts ih=>
  intro ds x h;cases ds with
  |nil=>cases h
  |cons d ds=>
   simp only[xW] at h
   grind
section
variable {H:Type} {enc:TypeId×Value→H} {C:Cx} {W:World} {base:Nat} {imm:Nat→Prop} {φ:Nat→Addr} {o:Nat→Obj}
theorem Wl(h:P2 v=false):v.cells=#[v]:=by cases v<;>first|rfl|cases h
theorem zjs(hC:cS C)(he:∀t e,t<C.P.types.size->C.P.underlying t=some (.slice e)->0<C.P.cellsOf e){fuel:Nat}{y:DataW H×List MemPlace}{sp:Nat->Bool}{held:Bool}(hj:∀b,sp b=true)(hk:mm T=true)(hg:C.ty t=some T)(h:DataW.trod enc C.P W 0 sp held fuel t v.cells.toList=some y)(hv:Value.okWide C.P W .any base t v):∃x,dS (fun b=>b<W.heap.size) W T x v/\iJ T [y.1]=some x/\gE T x:=by
 obtain⟨x,h1,h2⟩:=(z6q (imm:=fun b=>b<W.heap.size) hC hj (fun _ h=>h) he T hk).1 t fuel _ y hg h;refine⟨x,?_,h2,Oz _ _ _ h1⟩;obtain⟨d,h4,h5,h6⟩:=(hC.fD _ _ hg).desc;unfold Value.okWide at hv;rw[h5] at hv;have flat:Cell.okWide C.P W .any base t v->P2 v=false:=by
  intro hc;cases hf:P2 v with
  |false=>rfl
  |true=>
   exfalso;cases v<;>try (cases hf;done)
   unfold Cell.okWide at hc;rw[h5] at hc;cases d<;>cases T<;>first|(cases h6;done)|(simp only at hc;unfold Cell.ok at hc;rw[h5] at hc;exact hc)
 cases T with
 |int k=>
  cases d<;>try (first|(cases h6;done)|(rename_i k;cases k<;>(cases h6;done)))
  rw[Wl (flat hv)] at h1;exact h1
 |bool=>
  cases d<;>try (first|(cases h6;done)|(rename_i k;cases k<;>(cases h6;done)))
  rw[Wl (flat hv)] at h1;exact h1
 |str=>
  cases d<;>try (first|(cases h6;done)|(rename_i k;cases k<;>(cases h6;done)))
  rw[Wl (flat hv)] at h1;exact h1
 |sl e=>
  cases d<;>try (first|(cases h6;done)|(rename_i k;cases k<;>(cases h6;done)))
  rw[Wl (flat hv)] at h1;exact h1
 |unit=>cases d<;>first|(cases h6;done)|(rename_i k;cases k<;>cases h6)
 |gz=>cases hk
 |fY=>cases hk
 |pair a b=>cases d<;>first|(cases h6;done)|(rename_i k;cases k<;>cases h6)
 |st p=>
  cases d<;>try (first|(cases h6;done)|(rename_i k;cases k<;>(cases h6;done)))
  obtain⟨cs,rfl,_⟩:=hv;exact⟨cs,rfl,h1⟩
 |arr n e=>
  cases d<;>try (first|(cases h6;done)|(rename_i k;cases k<;>(cases h6;done)))
  obtain⟨cs,rfl,_⟩:=hv;exact⟨cs,rfl,h1⟩
theorem z03(hC:cS C)(hc:∀t e,t<C.P.types.size->C.P.underlying t=some (.slice e)->0<C.P.cellsOf e)(he:∀b,b<W.heap.size->imm b):∀(Ts:List Ty) (ts:List TypeId) (vs:List Value) (ds:List (DataW H)) (p:List MemPlace),Wj C ts Ts=true->DataW.TrodAll enc C.P W 0 (fun _=>true) true ts vs ds p->(∀(j:Nat) t v,ts[j]?=some t->vs[j]?=some v->Value.okWide C.P W .any base t v)->∃x:xV Ts,cu φ o imm W (gN eg cW (Ts.map Sh.d) [] x).1 vs/\xW Ts ds=some x/\wI Ts x
 |[],ts,vs,ds,p,ht,h,_=>by
  cases ts with
  |cons t ts=>cases ht
  |nil=>obtain⟨rfl,rfl,rfl⟩:=trodAll_nil h;exact⟨(),rfl,rfl,trivial⟩
 |T::Ts,ts,vs,ds,p,ht,h,hv=>by
  cases ts with
  |nil=>cases ht
  |cons t ts=>simp only[Wj,ze] at ht;obtain⟨v,vs1,d,ds1,p1,p2,rfl,rfl,rfl,⟨fuel,h1⟩,h2⟩:=trodAll_cons h;obtain⟨x,g1,g2,g3⟩:=zjs hC hc (fun _=>rfl) ht.1.2 (qe ht.1.1) h1 (hv 0 t v rfl rfl);obtain⟨y,k1,k2,k3⟩:=z03 hC hc he Ts ts vs1 ds1 p2 ht.2 h2 (fun j t v a b=>hv (j+1) t v (by simpa using a) (by simpa using b));refine⟨(x,y),⟨v,vs1,rfl,qm5 he (fun _ _=>rfl) T x v g1,k1⟩,?_,g3,k3⟩;simp only[xW,g2,k2]
theorem Qz:∀{t:Ty},AD t=false->mm t=true
 |.gz,h=>by cases h
 |.fY,h=>by cases h
 |.int _,_=>rfl
 |.bool,_=>rfl
 |.str,_=>rfl
 |.sl _,h=>by cases h
 |.unit,_=>rfl
 |.pair a b,h=>by simp only[AD,jc] at h;simp only[mm,Qz h.1,Qz h.2,Jz]
 |.st p,h=>Qz (t:=p) h
 |.arr _ e,h=>Qz (t:=e) h
structure Wm (C:Cx) (laid:List (String×DataW Unit)):Prop where
 plain:(laid.filter fun x=>x.2.handleName?.isSome)=[]
 fT:∀g t x,C.me g=some ⟨t,x⟩->∃n d tid,(n,d)∈laid/\C.P.globalNamed n=some g/\(C.P.globals[g]?).map (·.type)=some tid/\C.ty tid=some t/\AD t=false/\iJ t [d]=some x
theorem qkg:∀{laid:List (String×DataW Unit)} {ps:List MemPlace},DataW.LaidVars C.P W laid ps->∀n d,(n,d)∈laid->∃g t cs fuel p,C.P.globalNamed n=some g/\(C.P.globals[g]?).map (·.type)=some t/\W.var? C.P n=some cs/\DataW.trod (fun _=>()) C.P W 0 (fun _=>true) false fuel t cs.toList=some (d,p)
 |(n0,d0)::r,ps,⟨g,t,cs,fuel,p,q,h1,h2,h3,h4,h5,_⟩,n,d,hm=>by
  rcases zA.1 hm with h|h
  ·grind
  ·exact qkg h5 n d h
theorem quw(hC:cS C)(he:∀t e,t<C.P.types.size->C.P.underlying t=some (.slice e)->0<C.P.cellsOf e)(hG:Wm C laid)(hL:laidMetH C.P laid W){t:Ty}{x:den t}(h:C.me g=some ⟨t,x⟩)(hc:∀b,b<W.heap.size->imm b):au φ o imm W (.ref t x) (.pointer (some ⟨g,0,none⟩))/\∃c el fz,W.heap[g]?=some (.cells c el fz)/\c.size=aB t:=by
 unfold laidMetH at hL;rw[hG.plain] at hL;obtain⟨ps,hl,_⟩:=hL;obtain⟨n,d,tid,h1,h2,h3,h4,h5,h6⟩:=hG.fT g t x h;obtain⟨g',t',cs,fuel,p,k1,k2,k3,k4⟩:=qkg hl n d h1;rw[h2] at k1;cases k1;rw[h3] at k2;cases k2;obtain⟨x',r1,r2⟩:=(z6q (imm:=imm) hC (fun _=>rfl) hc he t (Qz h5)).1 tid fuel _ _ h4 k4;simp only at r2;rw[h6] at r2;cases r2;unfold World.var? at k3;rw[h2] at k3;simp only[JC] at k3;split at k3
 ·rename_i c el fz hb;cases k3;have hf:g<W.heap.size:=by grind
  refine⟨⟨⟨g,0,none⟩,cs.toList,rfl,rfl,hc _ hf,r1,fun j hj=>?_⟩,_,_,_,hb,by rw[<-jA];exact ke _ _ _ r1⟩;unfold World.cell?
  grind
 ·cases k3
def DG(C:Cx)(s:nG)(x:ak s.ins.bQ)(y:ak s.outs.bQ):Prop:=
 ∀X φ w zs,MRel C X φ (bB s.ins x) w->cu φ (bB s.ins x) (ag X φ (bB s.ins x) w) w (fill eg cW s.ins x).1 zs->
  (∃fn,C.P.funcs[s.f]?=some fn/\fn.body.isNone=false)/\Calls C.P s.f zs.toArray w fun e w'=>
   ∃fk φ' X',e=.returned (DE fk)/\(∀b,X b->X' b)/\MRel C X' φ' (bB s.outs y) w'/\
    cu φ' (bB s.outs y) (ag X' φ' (bB s.outs y) w') w' (fill eg cW s.outs y).1 fk/\eU s.bD φ (bB s.ins x) w φ' (bB s.outs y) w'
theorem qf.s{x:ak (bI C.sigs i).ins.bQ}{y:ak (bI C.sigs i).outs.bQ}(h:qf C i x y):DG C (bI C.sigs i) x y:=h
theorem z3g(h:∀b,b<W.heap.size->W'.heap[b]?=W.heap[b]?){p:MemPlace}(hp:p.block<W.heap.size):W.sameAt W' p:=by
 cases p with
 |cell b off=>exact qm2 (h b hp)
 |map b=>exact h b hp
theorem qkh{P:Program}(K:Kids P (· <P.types.size))(hz:∀t e,t<P.types.size->P.underlying t=some (.slice e)->0<P.cellsOf e)(hs:∀b,b<W.heap.size->W'.heap[b]?=W.heap[b]?):∀{ts:List TypeId} {vs:List Value} {ds:List (DataW H)} {ps:List MemPlace},(∀t,t∈ts->t<P.types.size)->DataW.TrodAll enc P W 0 (fun _=>true) true ts vs ds ps->(∀p,p∈ps->p.block<W.heap.size)->DataW.TrodAll enc P W' 0 (fun b=>decide (b<W.heap.size)) true ts vs ds ps
 |[],_,_,_,_,h,_=>by obtain⟨rfl,rfl,rfl⟩:=trodAll_nil h;exact rfl
 |t::ts,vs,ds,ps,ht,h,hp=>by obtain⟨v,vs1,d,ds1,p,q,rfl,rfl,rfl,⟨n,h1⟩,h2⟩:=trodAll_cons h;refine⟨p,q,⟨n,?_⟩,qkh K hz hs (fun t h=>ht t (zf _ h)) h2 (fun x hx=>hp x (zG _ hx)),rfl⟩;exact DataW.trod_stays K (fun hT hu=>hz _ _ hT hu) (fun h=>by cases h) (ht t (zg ..)) h1 (fun x hx=>z3g hs (hp x (zN _ hx))) (fun x hx=>by simpa using hp x (zN _ hx))
theorem qux{may:MemPlace->Prop}(h:∀b,b<W.heap.size->W'.heap[b]?=W.heap[b]?)(hs:Bu W W'):W.keptBut W' may:=by
 refine⟨hs.1,hs.2,fun i hi=>?_⟩
 grind
structure z6r (C:Cx) (laid:List (String×DataW Unit)):Prop where
 cx:cS C
 me:Wm C laid
 kids:Kids C.P (· <C.P.types.size)
 full:∀t e,t<C.P.types.size->C.P.underlying t=some (.slice e)->0<C.P.cellsOf e
theorem oX(hS:z6r C laid){f:FuncId}{fn:Func}{s:ChangeSpec}(Ts:List Ty)(tb:TypeId)(hv:Wj C fn.params.toList Ts=true)(hn:(fn.params.toList.all fun t=>decide (t<C.P.types.size))=true)(ho:fn.resultTypes=#[tb])(hw:C.P.underlying tb=some .bool)(hj:s.vars=[])(hf:∀ds:List (DataW H),ds.length=Ts.length->s.fn H ds={results:=[.lit (.bool true)],args:=ds})
  {args:Array Value} {ds gs:List (DataW H)} {before:List MemPlace}
  (hq:∀(j:Nat) t v,fn.params[j]?=some t->args[j]?=some v->Value.okWide C.P W .any base t v) (hW:DataW.Whole enc C.P fn.params.toList s.vars false W args.toList ds gs before) (hL:laidMetH C.P laid W)
  (hl:∀x:xV Ts,wI Ts x->xW Ts (ds++gs)=some x->DG C ⟨f,⟨Ts.map Sh.d,[]⟩,⟨[Sh.d .bool],[]⟩,[]⟩ x (true,())):
  Calls C.P f args W fun e W'=>∃v,e=.returned v/\s.post enc C.P fn false true false false W args v W':=by
 have hn:∀t,t∈fn.params.toList->t<C.P.types.size:=fun t ht=>by simpa using ju.1 hn t ht
 have hs:=hW.lt;have hu:=hW;obtain⟨p,q,hA,hV,rfl,hx,hy⟩:=hW;rw[hj] at hV;obtain⟨rfl,rfl⟩:gs=[]/\q=[]:=by
  cases gs with
  |nil=>exact⟨rfl,hV⟩
  |cons g gs=>exact hV.elim
 simp only[zv] at hs hu hl;obtain⟨x,h1,h2,h3⟩:=z03 (φ:=fun _=>⟨0,0,none⟩) (o:=fun _=>.none) (imm:=ag (fun _=>False) (fun _=>⟨0,0,none⟩) (fun _=>.none) W) hS.cx hS.full (fun b hb=>⟨hb,id,fun⟨_,h,_⟩=>by cases h⟩) Ts fn.params.toList args.toList ds p hv
  hA (fun j t v h1 h2=>hq j t v (by rw[<-ji];exact h1) (by rw[<-ji];exact h2))
 have hm:MRel C (fun _=>False) (fun _=>⟨0,0,none⟩) (fun _=>Obj.none) W:=
  ⟨fun _=>trivial,(fun i j h=>by cases h),(fun i h=>by cases h),(fun b h=>h.elim),fun _=>trivial,fun g t x hg=>(quw hS.cx hS.full hS.me hL hg (fun b hb=>⟨hb,id,fun⟨_,h,_⟩=>by cases h⟩)).1,
   fun g t x hg=>(quw (φ:=fun _=>⟨0,0,none⟩) (o:=fun _=>.none) (imm:=fun _=>True) hS.cx hS.full hS.me hL hg (fun _ _=>trivial)).2⟩
 obtain⟨_,hc⟩:=hl x h3 h2 (fun _=>False) (fun _=>⟨0,0,none⟩) W args.toList hm h1;have e0:args.toList.toArray=args:=by simp
 rw[e0] at hc;refine hc.mono fun e W' ⟨fk,φ',X',he,_,_,hr,hh⟩=>?_;have hr:∃v r,fk=v::r/\v=.bool true/\r=[]:=by obtain⟨v,r,h1,h2,h3⟩:=hr;have h2:[v]=[Value.bool true]:=h2;injection h2 with h2;exact⟨v,r,h1,h2,h3⟩
 obtain⟨_,_,rfl,rfl,rfl⟩:=hr;have hk:∀b,b<W.heap.size->W'.heap[b]?=W.heap[b]?:=fun b hb=>hh.frame b hb fun⟨id,h,_⟩=>by cases h
 refine⟨_,he,ds,[],p,[],p,[],hu,?_,?_,?_,qux hk hh.still,fun h=>by cases h⟩
 ·rw[zv,hf ds (qs2 h2),ho];exact trodAll_cons_mk (p':=[]) (shut_bool hw true) rfl
 ·rw[zv,hf ds (qs2 h2)];exact qkh hS.kids hS.full hk hn hA hs
 ·rw[hj];rw[zv,hf ds (qs2 h2)];exact rfl
end
end Ev
namespace Ev
open Go
variable{α β ρ σ:Type}{b n:Int}{laid:List (String×DataW Unit)}{sg:List nG}{f i:Nat}
def aS(C:Cx)(f:Nat):Bool:=match C.P.funcs.toList[f]? with
 |some fn=>!(fn.name== "runtime.NumGoroutine")
 |none=>true
def QA(C:Cx):List nG->Bool
 |[]=>aS C 0
 |s::r=>aS C s.f&&QA C r
theorem qnd{C:Cx}(h:aS C f=true):∀fn,C.P.funcs[f]?=some fn->(fn.name== "runtime.NumGoroutine")=false:=by
 intro fn hf;unfold aS at h
 grind
theorem qki{C:Cx}:∀{l:List nG},QA C l=true->∀i fn,C.P.funcs[(bI l i).f]?=some fn->(fn.name== "runtime.NumGoroutine")=false
 |[],h,_,fn,hf=>qnd h fn hf
 |s::r,h,i,fn,hf=>by
  simp[QA,Bool.and_eq_true] at h;cases i with
  |zero=>exact qnd h.1 fn hf
  |succ i=>exact qki h.2 i fn hf
theorem zcl{C:Cx}(h1:Og C C.fD=true)(h2:IF C C.eqs=true)(h3:QA C C.sigs=true)(h4:C.P.follows .mixedOrders=true):∀{i:Nat} {x:ak (bI C.sigs i).ins.bQ} {y:ak (bI C.sigs i).outs.bQ},Call C i x y->qf C i x y:=by have hC:cS C:=⟨fun t T h=>qg4 h1 t T h⟩;have hE:=zj9 hC h2;have hL:=zjm (qki h3);intro i x y h;exact h.ok hC hE hL (zjr hC hE hL h4)
theorem z6s{C:Cx}(h1:Og C C.fD=true)(h2:laidOutB C.P=true)(h3:mapsRowed C.P=true)(h4:((List.range C.P.types.size).all fun t=>match C.P.underlying t with|some (.slice e)=>decide (0<C.P.cellsOf e)|_=>true)=true)(h5:Wm C laid):z6r C laid:=⟨⟨fun t T h=>qg4 h1 t T h⟩,h5,kids_rows h2 h3,slices_full_of C.P h4⟩
def dN(F:(α->Option β)->α->Option β):Nat->α->Option β
 |0,_=>none
 |n+1,x=>F (dN F n) x
open Classical in
@[irreducible] noncomputable def iA{α β:Type}(F:(α->Option β)->α->Option β)(x:α):Option β:=(dN F 300 x).or (if h:∃y n,dN F n x=some y then some (Classical.choose h) else none)
theorem quy{F:(α->Option β)->α->Option β}{x:α}{y:β}(h:iA F x=some y):∃n,dN F n x=some y:=by
 unfold iA at h;cases h1:dN F 300 x with
 |some a=>exact⟨300,by rw[h1] at h ⊢;exact h⟩
 |none=>
  split at h
  all_goals grind
class LF {α β:Type} (f g:α->Option β):Prop where
 h:∀x v,f x=some v->g x=some v
theorem quz{F:(α->Option β)->α->Option β}(hF:∀g g',LF g g'->LF (F g) (F g')):∀n m,n<=m->LF (dN F n) (dN F m)
 |0,_,_=>⟨nofun⟩
 |n+1,m+1,h=>hF _ _ (quz hF n m (Nat.le_of_succ_le_succ h))
class Mo {α β:Type} (F:(α->Option β)->α->Option β):Prop where
 h:∀g g',LF g g'->LF (F g) (F g')
theorem QC{F:(α->Option β)->α->Option β}[Mo F]{x:α}{y:β}{n:Nat}(h:dN F n x=some y):iA F x=some y:=by
 cases hr:iA F x with
 |none=>unfold iA at hr;rw[dif_pos ⟨y,n,h⟩] at hr;cases h1:dN F 300 x<;>rw[h1] at hr<;>cases hr
 |some y'=>
  have⟨m,hm⟩:=quy hr;have up:=quz (F:=F) Mo.h;have h1:=(up m (m+n) om).h x _ hm;have h2:=(up n (m+n) om).h x _ h
  grind
theorem IV{F:(α->Option β)->α->Option β}[Mo F]{x:α}{y:β}(n0:Nat)(h:∀n,n0<=n->dN F n x=some y):iA F x=some y:=QC (h n0 (zm _))
def ay(C:Cx)(k:Nat)(f:ak (bI C.sigs k).ins.bQ->Option (ak (bI C.sigs k).outs.bQ)):Prop:=∀x y,f x=some y->Call C k x y
def QD(C:Cx)(R:kX C.sigs):Prop:=∀j a b,R j a=some b->Call C j a b
def QE:kX sg:=fun _ _=>none
def IW(j:Nat)(f:ak (bI sg j).ins.bQ->Option (ak (bI sg j).outs.bQ))(R:kX sg):kX sg:=fun i=>match Nat.decEq i j with
 |isTrue h=>h▸f
 |isFalse _=>R i
theorem zjt{C:Cx}:QD C QE:=nofun
theorem zju{C:Cx}{j:Nat}{f:ak (bI C.sigs j).ins.bQ->Option (ak (bI C.sigs j).outs.bQ)}{R:kX C.sigs}(hf:ay C j f)(hR:QD C R):QD C (IW j f R):=by
 intro i a b h;unfold IW at h;cases hd:Nat.decEq i j with
 |isTrue e=>rw[hd] at h;subst e;exact hf a b h
 |isFalse e=>rw[hd] at h;exact hR i a b h
theorem zjv{C:Cx}{k:Nat}{F:(ak (bI C.sigs k).ins.bQ->Option (ak (bI C.sigs k).outs.bQ))->ak (bI C.sigs k).ins.bQ->Option (ak (bI C.sigs k).outs.bQ)}(h:∀g,ay C k g->∀x y,F g x=some y->Call C k x y):ay C k (iA F):=by
 intro x y hx;have⟨n,hn⟩:=quy hx;clear hx
 induction n generalizing x y with
 |zero=>cases hn
 |succ n ih=>exact h (dN F n) (fun a b hc=>ih a b hc) x y hn
theorem ay.of{C:Cx}{k:Nat}{f g:ak (bI C.sigs k).ins.bQ->Option (ak (bI C.sigs k).outs.bQ)}(h:ay C k f)(hg:∀x y,g x=some y->f x=some y):ay C k g:=fun x y e=>h x y (hg x y e)
theorem qjf{f:σ->Option (σ⊕ρ)}:∀{n m:Nat} {s:σ} {r:ρ},n<=m->oT f n s=some r->oT f m s=some r
 |0,_,_,_,_,h=>by cases h
 |n+1,0,_,_,hm,_=>by omega
 |n+1,m+1,s,r,hm,h=>by
  simp[oT] at h ⊢;cases hs:f s with
  |none=>rw[hs] at h;cases h
  |some q=>
   rw[hs] at h;cases q with
   |inl s'=>exact qjf (n:=n) (m:=m) om h
   |inr r'=>exact h
theorem Wn{f:σ->Option (σ⊕ρ)}{s:σ}{r:ρ}(n:Nat)(h:oT f n s=some r):aI f s=some r:=by
 cases hr:aI f s with
 |none=>unfold aI at hr;rw[dif_pos ⟨r,n,h⟩] at hr;cases h1:oT f 300 s<;>rw[h1] at hr<;>cases hr
 |some r'=>
  have⟨m,hm⟩:=IM hr;have h1:=qjf (Nat.le_max_left n m) h;have h2:=qjf (Nat.le_max_right n m) hm
  grind
theorem Wo(f:σ->Option (σ⊕ρ))(s:σ):aI f s=match f s with
  |some (.inl s')=>aI f s'
  |some (.inr r)=>some r
  |none=>none:=by
 cases hf:f s with
 |none=>
  cases hr:aI f s with
  |none=>rfl
  |some r=>
   have⟨n,hn⟩:=IM hr;cases n with
   |zero=>cases hn
   |succ n=>simp only[oT,hf] at hn;cases hn
 |some q=>
  cases q with
  |inr r=>exact Wn 1 (by simp[oT,hf])
  |inl s'=>
   simp only;cases hr:aI f s' with
   |some r=>have⟨n,hn⟩:=IM hr;exact Wn (n+1) (by simp[oT,hf];exact hn)
   |none=>
    cases hc:aI f s with
    |none=>rfl
    |some r=>
     have⟨n,hn⟩:=IM hc;cases n with
     |zero=>cases hn
     |succ n=>simp[oT,hf] at hn;rw[Wn n hn] at hr;cases hr
theorem cY{f:σ->Option (σ⊕ρ)}{s s':σ}(h:f s=some (.inl s')):aI f s=aI f s':=by rw[Wo,h]
theorem bG{f:σ->Option (σ⊕ρ)}{s:σ}{r:ρ}(h:f s=some (.inr r)):aI f s=some r:=by rw[Wo,h]
theorem ae(a:α)(f:α->Option β):aw (some a) f=f a:=id (Eq.refl (f a))
theorem aM(a b:Option α):aL true a b=a:=id (Eq.refl a)
theorem aJ(a b:Option α):aL false a b=b:=id (Eq.refl b)
theorem Wp(h1:-9223372036854775808<=n)(h2:n<=9223372036854775807):IntKind.i64.wrap n=n:=by simp only[IntKind.wrap,IntKind.bits,IntKind.signed];simp;split<;>omega
theorem zjw(n:Int):IntKind.u8.wrap n=n % 256:=by rfl
theorem pG{a:Int}(h1:-9223372036854775808<=a+b)(h2:a+b<=9223372036854775807):bc .i64 a b=a+b:=Wp h1 h2
theorem oY{a:Int}(h1:-9223372036854775808<=a-b)(h2:a-b<=9223372036854775807):dx .i64 a b=a-b:=Wp h1 h2
theorem zcm{a:Int}(h1:-9223372036854775808<=a*b)(h2:a*b<=9223372036854775807):pW .i64 a b=a*b:=Wp h1 h2
theorem Wq(a:Int):fR .u8 a=a % 256:=zjw a
theorem wJ:iI .i64 n↔-9223372036854775808<=n/\n<=9223372036854775807:=by rfl
theorem z06{a:Int}(s:Nat)(hs:s<=64):lu .i64 a (s:Int)=some (a / 2 ^ s):=by
 unfold lu;have:min (s:Int).toNat IntKind.i64.bits=s:=by show min ((s:Int).toNat) 64=s;simp;omega
 grind
theorem zcn{a:Int}(ha:0<=a)(hb:0<b):oS a b=some (a % b):=by
 unfold oS
 grind
theorem bf(a b:Int)(x y:Option α):aL (aZ a b) x y=if a<b then x else y:=by unfold aZ;by_cases h:a<b<;>simp[h,aL]
theorem IX(a b:Int)(x y:Option α):aL (cD a b) x y=if a<=b then x else y:=by unfold cD;by_cases h:a<=b<;>simp[h,aL]
theorem kI(a b:Int)(x y:Option α):aL (ah a b) x y=if a=b then x else y:=by
 unfold ah;by_cases h:a=b
 ·subst h;rw[zu rfl,JE];rfl
 ·rw[zj h,beq_false_of_ne h];rfl
theorem DH(a:Bool)(x y:Option α):aL (ai a) x y=aL a y x:=by cases a<;>rfl
theorem DI(a b:List Int)(x y:Option α):aL (bW a b) x y=if a=b then x else y:=by
 unfold bW;by_cases h:a=b
 ·subst h;rw[zu rfl,JE];rfl
 ·rw[zj h,beq_false_of_ne h];rfl
theorem zjx(p:Prop)[Decidable p](x y:Option α):aL (decide p) x y=if p then x else y:=by by_cases h:p<;>simp[h,aL]
theorem mo(a:Int):ah a a=true:=by simp[ah]
theorem cQ{a:Int}:ah a b=true↔a=b:=by simp[ah]
theorem cZ{a:Int}(h:a≠b):ah a b=false:=by simp[ah,h]
theorem vg(a:List Int):bW a a=true:=by simp[bW]
theorem bJ{l:List α}{x:α}(h:l[i]?=some x):fL l (i:Int)=some x:=by
 unfold fL
 grind
theorem im(h:n<=2147483648):fit n=some ():=by unfold fit;rw[zu h]
theorem zco{a:Int}(s:Nat)(hs:s<=63)(h1:-9223372036854775808<=a*2 ^ s)(h2:a*2 ^ s<=9223372036854775807):lr .i64 a (s:Int)=some (a*2 ^ s):=by
 unfold lr;rw[zj om];have:min (s:Int).toNat IntKind.i64.bits=s:=by show min ((s:Int).toNat) 64=s;simp;omega
 rw[this,Wp h1 h2]
theorem qdv:∀s:List Int,strLt s s=false
 |[]=>rfl
 |a::s=>by simp[strLt,qdv s]
theorem QF:∀s t u:List Int,strLt s t=true->strLt t u=true->strLt s u=true
 |[],[],_,h,_=>by cases h
 |_::_,[],_,h,_=>by cases h
 |_,_::_,[],_,h=>by cases h
 |[],_::_,_::_,_,_=>rfl
 |a::s,b::t,c::u,h1,h2=>by
  simp only[strLt,jk,ze,zV] at h1 h2 ⊢;rcases h1 with h1|⟨h1,h3⟩<;>rcases h2 with h2|⟨h2,h4⟩
  ·exact .inl om
  ·exact .inl om
  ·exact .inl om
  ·exact .inr ⟨by omega,QF s t u h3 h4⟩
theorem QG:∀s t:List Int,strLt s t=false->strLt t s=false->s=t
 |[],[],_,_=>rfl
 |[],_::_,h,_=>by cases h
 |_::_,[],_,h=>by cases h
 |a::s,b::t,h1,h2=>by
  simp only[strLt,jc,Jc,jg] at h1 h2;obtain⟨h1,h3⟩:=h1;obtain⟨h2,h4⟩:=h2;have e:a=b:=om
  subst e;rw[QG s t (h3.resolve_left fun h=>h rfl) (h4.resolve_left fun h=>h rfl)]
end Ev
namespace Ev
variable{l:List Int}
def IY(l:List Int):Bool:=l.all (fun b=>decide (0<=b/\b<=255))&&decide (l.length<=9223372036854775807)
def oZ(l:List (List Int)):List (List Int):=bif Nat.ble l.length 1 then l else l.mergeSort fun a b=>!strLt b a
theorem zgo:∀l,oZ l=l.mergeSort fun a b=>!strLt b a
 |[]=>(List.mergeSort_nil ..).symm
 |[_]=>(List.mergeSort_singleton ..).symm
 |_::_::_=>rfl
theorem z6u(h:IY l=true):(∀b,b∈l->0<=b/\b<=255)/\l.length<=9223372036854775807:=by
 unfold IY at h
 grind
end Ev

namespace Ev
open Go
variable{f:Nat}
def OA(f:Nat):nG:=⟨f,⟨[.d (.sl (.int .i64)),.d (.int .i64)],[]⟩,⟨[.cC 0],[.vec (.int .i64)]⟩,[]⟩
def ry:Nat->Obj:=fun _=>.none
theorem zcp{C:Cx}(hl:∃fn,C.P.funcs[f]?=some fn/\fn.body.isNone=false)(h0:∀w,Calls C.P f #[.slice none 0 0,.int .i64 0] w fun e w'=>e=.returned (.slice none 0 0)/\w'=w)(h1:∀(n:Nat) w,0<n->n<=1000000->Calls C.P f #[.slice none 0 0,.int .i64 n] w fun e w'=>∃cap el cs,e=.returned (.slice (some ⟨w.heap.size,0,none⟩) 0 cap)/\w'=w.drew.alloc (.cells cs el)/\cap<=cs.size)(n:Nat)(hn:n<=1000000):DG C (OA f) (⟨true,[]⟩,(n:Int),()) (⟨decide (n=0),[]⟩,()):=by
 intro X φ w zs hm hz;have hm:MRel C X φ ry w:=hm;have hz:cu φ ry (ag X φ ry w) w [.d (.sl (.int .i64)) (⟨true,[]⟩:Sl Int),.d (.int .i64) (n:Int)] zs:=hz;refine⟨hl,?_⟩;obtain⟨z0,r0,rfl,g1,z1,r1,rfl,g2,g3⟩:=hz;have g3:r1=[]:=g3;subst g3;obtain⟨rfl,_⟩:=pC g2;obtain⟨_,g1⟩:=GQ g1;obtain rfl:z0=.slice none 0 0:=by grind
 have fin:∀(s:Sl Int) (val:Value) (φ':Nat->Addr) (w':World),Comes C X φ φ' ry [(0,.vec (.int .i64) 0 false s)] w w' (.cC 0 0) val->
   ∃fk φ' X',Ending.returned val=.returned (DE fk)/\(∀b,X b->X' b)/\MRel C X' φ' (bB (OA f).outs (s,())) w'/\
    cu φ' (bB (OA f).outs (s,())) (ag X' φ' (bB (OA f).outs (s,())) w') w' (fill eg cW (OA f).outs (s,())).1 fk/\eU [] φ ry w φ' (bB (OA f).outs (s,())) w':=by
  intro s val φ' w' hc;exact⟨[val],φ',X,rfl,fun _ h=>h,hc.mem,⟨val,[],rfl,hc.val,rfl⟩,(eU.refl [] φ ry w).step hc⟩
 by_cases h:n=0
 ·subst h;refine Calls.mono (h0 w) fun e w' ⟨e1,e2⟩=>?_;subst e1 e2;have hd:decide (0=0)=true:=rfl;rw[hd];refine fin ⟨true,[]⟩ _ φ w' ?_;refine Comes.fS hm (fun p hp=>?_) (fun hk=>?_)
  ·rw[zJ.1 hp];exact⟨⟨.int .i64,rfl⟩,rfl⟩
  ·exact⟨zm _,fun _=>.inl ⟨rfl,rfl⟩⟩
 ·refine Calls.mono (h1 n w om hn) fun e w' ⟨cap,el,cs,e1,e2,e3⟩=>?_;subst e1;have hd:decide (n=0)=false:=zt h;rw[hd];refine fin ⟨false,[]⟩ _ (dR φ 0 ⟨w.heap.size,0,none⟩) w' ?_;have hg:w'.heap=w.heap.push (.cells cs el):=by rw[e2];rfl
  have hf:w'.heap[w.heap.size]?=some (.cells cs el):=by rw[hg];simp
  have he:∀m,m<=cs.size->room w' ⟨w.heap.size,0,none⟩ m:=fun m hm=>⟨cs,el,0,0,hf,by simpa using hm,.inl (zm _)⟩;refine Comes.fresh hm (B:=.cells cs el) hg (.vec (.int .i64) 0 false (⟨false,[]⟩:Sl Int)) (ns:=[]) (fun p hp=>by cases hp) (fun _=>trivial) (fun _ _ _=>?_) (fun h _=>by cases h) (fun h3=>?_) (by rw[e2];exact⟨rfl,rfl⟩)
  ·refine⟨zC _,fun h=>(by cases h),fun _=>.inl ?_⟩;rw[gq];refine⟨rfl,[],rfl,fun j hj=>by simp at hj,he 0 (zC _),fun _=>he _ (by show 0*1<=_;omega),fun h=>by cases h⟩
  ·unfold au;rw[h3,gq];refine⟨zm _,fun _=>.inr ⟨rfl,cap,rfl,zC _,fun h=>(by cases h),fun _ _=>he _ (by show cap*1<=_;omega)⟩⟩
def qh(c:Int):List Int->Int
 |[]=>-1
 |b::r=>if b=c then 0 else if qh c r<0 then -1 else qh c r+1
theorem Wr(c:Int):∀l,-1<=qh c l/\qh c l<=l.length
 |[]=>⟨jQ _,(by show(-1:Int)<=0;decide)⟩
 |b::r=>by
  have:=Wr c r;unfold qh
  grind
theorem qv0(c:UInt8):∀l:List UInt8,Lib.indexByte l c=qh (c.toNat:Int) (l.map fun b=>(b.toNat:Int))
 |[]=>rfl
 |b::r=>by
  have ih:=qv0 c r;have hg:=Wr (c.toNat:Int) (r.map fun b=>(b.toNat:Int));rw[zX];unfold Lib.indexByte qh;rw[ih];by_cases h:b=c
  ·subst h;simp
  ·have h1:(b==c)=false:=by simpa using h
   have h2:¬(b.toNat:Int)=(c.toNat:Int):=fun e=>h (ZB.1 om)
   grind
def zpo(f:Nat):nG:=⟨f,⟨[.d .str,.d (.int .u8)],[]⟩,⟨[.d (.int .i64)],[]⟩,[]⟩
theorem zmz{C:Cx}(he:∃fn,C.P.funcs[f]?=some fn/\fn.body.isNone=false)(h0:∀(s:ByteArray) (c:Int) w,Calls C.P f #[.string s,.int .u8 c] w fun e w'=>e=.returned (.int .i64 (Lib.indexByte s.data.toList c.toNat.toUInt8))/\w'=w)(l:List Int)(c:Int):DG C (zpo f) (l,c,()) (qh c l,()):=by
 intro X φ w zs hm hz;have hm:MRel C X φ ry w:=hm;have hz:cu φ ry (ag X φ ry w) w [.d .str l,.d (.int .u8) c] zs:=hz;refine⟨he,?_⟩;obtain⟨z0,r0,rfl,g1,z1,r1,rfl,g2,g3⟩:=hz;have g3:r1=[]:=g3;subst g3;obtain⟨s,rfl,hs,hl⟩:=rU g1;obtain⟨rfl,hc⟩:=pC g2;refine Calls.mono (h0 s c w) fun e w' ⟨e1,e2⟩=>?_;subst e1 e2;have hj:0<=c/\c<=255:=hc;have ec:((c.toNat.toUInt8).toNat:Int)=c:=by have:(c.toNat.toUInt8).toNat=c.toNat % 256:=rfl;rw[this];omega
 have hv:Lib.indexByte s.data.toList c.toNat.toUInt8=qh c l:=by rw[qv0,ec,hs]
 have hg:=Wr c l;have hf:l.length=s.size:=by rw[<-hs];simp
 unfold cG at hl;rw[hv];refine⟨[.int .i64 (qh c l)],φ,X,rfl,fun _ h=>h,hm,⟨_,[],rfl,oG ?_,rfl⟩,eU.refl _ _ _ _⟩;show(-9223372036854775808:Int)<=_/\_<=(9223372036854775807:Int);omega
end Ev
namespace Ev
abbrev af:=List Int×Int×Int
def DJ(x:af):Bool:=x.1.all (fun b=>decide (0<=b/\b<=255))&&decide (x.1.length<=9223372036854775807)&&decide (-9223372036854775808<=x.2.1/\x.2.1<=9223372036854775807)&&decide (-9223372036854775808<=x.2.2/\x.2.2<=9223372036854775807)
theorem qng{x:af}(h:DJ x=true):(∀b,b∈x.1->0<=b/\b<=255)/\x.1.length<=9223372036854775807/\(-9223372036854775808<=x.2.1/\x.2.1<=9223372036854775807)/\(-9223372036854775808<=x.2.2/\x.2.2<=9223372036854775807):=by
 unfold DJ at h
 grind
def DL(x y:af):Bool:=strLt x.1 y.1
def QH(l:List af):Bool:=l.all fun x=>l.all fun y=>!decide (x.1=y.1)||decide (x=y)
theorem z3h{l:List af}(h:QH l=true){x y:af}(hx:x∈l)(hy:y∈l)(e:x.1=y.1):x=y:=by
 have:=ju.1 (ju.1 h x hx) y hy
 grind
end Ev

namespace Ev
open Go
theorem mkC{C:Cx}{k:Nat}{O:kX C.sigs}(b:Lf->kX C.sigs->ak (bI C.sigs k).ins.bQ->Option (ak (bI C.sigs k).outs.bQ)){f:ak (bI C.sigs k).ins.bQ->Option (ak (bI C.sigs k).outs.bQ)}(hO:QD C O)(e:∀L R x,N9 L C R k x=b L R x)(o:∀x,b lf O x=f x):ay C k f:=fun x y h=>Call.mk (C:=C) O hO k x y (((e lf O x).trans (o x)).trans h)
end Ev
namespace Ev
def dO:Nat->Nat->List Int
 |0,_=>[]
 |f+1,u=>if u<10 then [48+(u:Int)] else dO f (u / 10)++[48+((u % 10:Nat):Int)]
def o4(n:Int):List Int:=if n<0 then 45::dO 20 n.natAbs else dO 20 n.toNat
def kr:List Int->List Int
 |[]=>[]
 |b::l=>if b=45 then 126::l else b::kr l
theorem qs3:∀l,(kr l).length=l.length
 |[]=>rfl
 |b::l=>by
  unfold kr;split
  ·rfl
  ·rw[zn,zn,qs3 l]
theorem qs4:∀f u,(dO f u).length<=f
 |0,_=>zm _
 |f+1,u=>by
  unfold dO;split
  ·simp
  ·have:=qs4 f (u / 10)
   grind
theorem Ws(n:Int):(o4 n).length<=21:=by
 unfold o4;split
 ·have:=qs4 20 n.natAbs
  grind
 ·have:=qs4 20 n.toNat
  omega
end Ev

namespace Ev
open Go Go.RowKit Go.Sort
variable{n:Int}{k:IntKind}{l zs:List Int}{f g:Nat}{φ:Nat→Addr}{X:Nat→Prop}{w:World}
theorem z6w{C:Cx}{w':World}(hm:MRel C X φ ry w)(hb:Below w.heap.size w w'){b:ByteArray}(hl:b.data.toList.map (fun b=>(b.toNat:Int))=l)(hs:b.size<=cG):∃fk φ' X',Ending.returned (.string b)=.returned (DE fk)/\(∀b,X b->X' b)/\MRel C X' φ' (bB (⟨[.d .str],[]⟩:Shape) (l,())) w'/\cu φ' (bB (⟨[.d .str],[]⟩:Shape) (l,())) (ag X' φ' (bB (⟨[.d .str],[]⟩:Shape) (l,())) w') w' (fill eg cW (⟨[.d .str],[]⟩:Shape) (l,())).1 fk/\eU [] φ ry w φ' (bB (⟨[.d .str],[]⟩:Shape) (l,())) w':=by
 have hc:Comes C X φ φ ry [] w w' (.d .str l) (.string b):=
  Comes.make hm hb.size (fun b he _=>hb.block b he) (fun _ _=>rfl) (fun _ _ _=>rfl) (fun id h=>absurd h (zL)) (fun id h=>absurd h (zL)) (fun i j h=>absurd h (zL))
   (fun _ _ _ id h=>absurd h (zL)) (fun id h=>absurd h (zL)) (fun _ _ _=>Od hl hs) ⟨hb.os,hb.output⟩
 exact⟨[.string b],φ,X,rfl,fun _ h=>h,hc.mem,⟨.string b,[],rfl,hc.val,rfl⟩,(eU.refl [] φ ry w).step hc⟩
theorem qv1{imm:Nat->Prop}:∀(l:List Int) (cs:List Value),bT (az imm w (.int k)) l cs->cs=l.map fun z=>Value.int k z
 |[],cs,h=>h
 |x::l,cs,⟨c,d,e,h1,h2⟩=>by rw[e,qv1 l d h2,h1.1];rfl
theorem zn0{C:Cx}{o:Nat->Obj}(hm:MRel C X φ o w){name:String}{n:Nat}(hg:C.P.globalNamed name=some g)(h:C.me g=some ⟨.arr n (.int k),zs⟩):Lib.TabIs C.P w name k zs:=by
 have⟨a,cs,e,_,hi,hr,hc⟩:=hm.fT g _ _ h;injection e with e;cases e;have⟨c,el,fz,h1,h2⟩:=hm.Oc g _ _ h;have hl:=ke _ _ _ hr;have he:=qv1 zs cs hr.2;unfold Lib.TabIs World.var?;rw[hg,JC,h1];have hf:c.toList=cs:=by
  apply Jd
  ·grind
  ·intro i i1 i2;have:=hc i i2;unfold World.cell? at this
   grind
 rw[<-he,<-hf]
theorem z08:∀(f u:Nat),u<10 ^ (f+1)->dO (f+1) u=(Lib.decDigits u).map fun b=>(b.toNat:Int):=by
 intro f
 induction f with
 |zero=>
  intro u h;unfold dO;rw[Lib.decDigits,zu h];have e:(UInt8.ofNat (48+u)).toNat=48+u:=by rw[Zx];omega
  grind
 |succ f ih=>
  intro u h;unfold dO;rw[Lib.decDigits];by_cases hu:u<10
  ·rw[zu hu];have e:(UInt8.ofNat (48+u)).toNat=48+u:=by rw[Zx];omega
   grind
  ·rw[zj hu,dif_neg hu,ih (u / 10) om,jn];have e:(UInt8.ofNat (48+u % 10)).toNat=48+u % 10:=by rw[Zx];omega
   grind
theorem z09(h0:-9223372036854775808<=n)(h1:n<=9223372036854775807):(Lib.itoa n).map (fun b=>(b.toNat:Int))=o4 n:=by
 have hp:(10:Nat) ^ (19+1)=100000000000000000000:=dc
 unfold Lib.itoa o4;by_cases h:n<0
 ·rw[zu h,zu h,z08 19 _ om];rfl
 ·rw[zj h,zj h,z08 19 _ om]
def zn1(f:Nat):nG:=⟨f,⟨[.d (.int .i64),.d (.int .i64)],[]⟩,⟨[.d .str],[]⟩,[]⟩
theorem zjy{C:Cx}{f:Nat}(he:∃fn,C.P.funcs[f]?=some fn/\fn.body.isNone=false){nmS : String} {g m:Nat}{zs:List Int}(hg:C.P.globalNamed nmS=some g)(ht:C.me g=some ⟨.arr m (.int .u64),zs⟩)(h0:∀(n:Int),-9223372036854775808<=n->n<=9223372036854775807->∀w,Lib.TabIs C.P w nmS .u64 zs->Calls C.P f #[.int .i64 n,.int .i64 10] w fun e w'=>e=.returned (.string ⟨(Lib.itoa n).toArray⟩)/\∃k os,w'=grow (w.drewN k) os)(n:Int)(hn:-9223372036854775808<=n)(hc:n<=9223372036854775807):DG C (zn1 f) (n,(10:Int),()) (o4 n,()):=by
 intro X φ w Wt hm hz;refine⟨he,?_⟩;obtain⟨z0,r0,rfl,g1,z1,r1,rfl,g2,g3⟩:=hz;subst g3;obtain⟨rfl,_⟩:=pC g1;obtain⟨rfl,_⟩:=pC g2;refine Calls.mono (h0 n hn hc w (zn0 hm hg ht)) fun e w' ⟨e1,k,os,e2⟩=>?_;subst e1 e2;refine z6w (w':=grow (w.drewN k) os) hm (b:=⟨(Lib.itoa n).toArray⟩) ⟨rfl,rfl,rfl,?_,fun i hi=>?_⟩ ?_ ?_
 ·simp_all
 ·show(w.heap++os)[i]?=_
  grind
 ·exact z09 hn hc
 ·have:=jd List.length (z09 hn hc);rw[zI] at this;have h2:=Ws n;show(Lib.itoa n).toArray.size<=cG;unfold cG;simp[List.size_toArray];omega
def zn2(f:Nat):nG:=⟨f,⟨[.d .str,.d .str,.d .str,.d (.int .i64)],[]⟩,⟨[.d .str],[]⟩,[]⟩
def uE:List UInt8->List UInt8
 |[]=>[]
 |b::l=>if b=45 then 126::l else b::uE l
theorem qs5:∀l:List UInt8,(uE l).map (fun b=>(b.toNat:Int))=kr (l.map fun b=>(b.toNat:Int))
 |[]=>rfl
 |b::l=>by
  unfold uE;rw[zX];unfold kr;by_cases h:b=45
  ·subst h;rfl
  ·have hb:(b.toNat:Int)≠45:=fun e=>h (ZB.1 (by
    have:(45:UInt8).toNat=45:=rfl;omega))
   rw[zj h,zj hb,zX,qs5 l]
theorem zjz{C:Cx}(hc:∃fn,C.P.funcs[f]?=some fn/\fn.body.isNone=false)(h0:∀(s:ByteArray) w,s.size<=1000->Calls C.P f #[.string s,.string ⟨#[45]⟩,.string ⟨#[126]⟩,.int .i64 1] w fun e w'=>e=.returned (.string ⟨(uE s.data.toList).toArray⟩)/\Below w.heap.size w w')(l:List Int)(hl:l.length<=1000):DG C (zn2 f) (l,[45],[126],(1:Int),()) (kr l,()):=by
 intro X φ w Wt hm hz;have hz:cu φ ry (ag X φ ry w) w [.d .str l,.d .str ([45]:List Int),.d .str ([126]:List Int),.d (.int .i64) (1:Int)] Wt:=hz;refine⟨hc,?_⟩;obtain⟨z0,r0,rfl,g1,z1,r1,rfl,g2,z2,r2,rfl,g3,z3,r3,rfl,g4,g5⟩:=hz;subst g5;have one:∀{s:ByteArray} {c:UInt8},s.data.toList.map (fun b=>(b.toNat:Int))=[(c.toNat:Int)]->s=⟨#[c]⟩:=by
  intro s c h;have⟨⟨d⟩⟩:=s
  match d with
  |[]=>exact absurd (jd List.length h) (by simp)
  |[b]=>have h:[(b.toNat:Int)]=[(c.toNat:Int)]:=h;injection h with h _;have e:b=c:=ZB.1 om;rw[e]
  |_::_::_=>exact absurd (jd List.length h) (by simp)
 obtain⟨s,rfl,hs,hj⟩:=rU g1;obtain⟨s1,rfl,he,_⟩:=rU g2;obtain⟨s2,rfl,hf,_⟩:=rU g3;obtain⟨rfl,_⟩:=pC g4;obtain rfl:=one (c:=45) he;obtain rfl:=one (c:=126) hf;have hg:s.size<=1000:=by
  have:=jd List.length hs;rw[zI] at this
  simp_all
 refine Calls.mono (h0 s w hg) fun e w' ⟨e1,e2⟩=>?_;subst e1;refine z6w hm (b:=⟨(uE s.data.toList).toArray⟩) e2 ?_ ?_
 ·show(uE s.data.toList).map _=_;rw[qs5,hs]
 ·have:=jd List.length (qs5 s.data.toList);rw[zI,qs3] at this;show(uE s.data.toList).toArray.size<=cG;unfold cG
  grind
end Ev