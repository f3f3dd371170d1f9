/- From what a row reads to data; calls as functions; numbers. -/
import Derived.Test.YtdgmbemagoakjaaGreatDoorEvH
import Derived.ChangeArms
import Derived.OpenShut
import Derived.ChangeSame
import Derived.ReadAgain
import Derived.ChangeStays
import Derived.WideShapes
import Derived.RowKit2
import Derived.Lib.Bytealg
import Derived.Lib.LaidTab
import Derived.Below
import Derived.Deep.Draws
import Derived.Sort.Grow
import Derived.Lib.ItoaNum
set_option linter.defProp false
namespace Ev
open Go
def SY{α β:Type}(f:α->Option β):List α->Option (List β)
 |[]=>some []
 |x::r=>match f x with
  |some y=>match SY f r with
   |some l=>some (y::l)
   |none=>none
  |none=>none
def ef{H:Type}:(T:Ty)->List (DataW H)->Option (den T)
 |.unit,l=>match l with
  |[]=>some ()
  |_=>none
 |.pair a b,l=>match l with
  |d::r=>match ef a [d] with
   |some x=>match ef b r with
    |some y=>some (x,y)
    |none=>none
   |none=>none
  |[]=>none
 |.st p,l=>match l with
  |[.agg ps]=>ef p ps
  |_=>none
 |.int k,l=>match l with
  |[.lit (.int k' n)]=>if k'=k then some n else none
  |_=>none
 |.bool,l=>match l with
  |[.lit (.bool b)]=>some b
  |_=>none
 |.str,l=>match l with
  |[.lit (.string s)]=>some (s.map fun b=>(b.toNat:Int))
  |_=>none
 |.arr n e,l=>match l with
  |[.agg ps]=>match SY (fun d=>ef e [d]) ps with
   |some l=>if l.length=n then some l else none
   |none=>none
  |_=>none
 |.sl e,l=>match l with
  |[.nil]=>some (⟨true,[]⟩:Sl (den e))
  |[.slice es _]=>match SY (fun d=>ef e [d]) es with
   |some l=>some (⟨false,l⟩:Sl (den e))
   |none=>none
  |_=>none
 |.fG,_=>none
 |.dG,_=>none
def lF:Ty->Bool
 |.fG=>false
 |.dG=>false
 |.pair a b=>lF a&&lF b
 |.st p=>lF p
 |.arr _ e=>lF e
 |.sl e=>lF e
 |_=>true
def oI.lt{C:Cx}{t:TypeId}{T:Ty}(h:oI C t T):t<C.P.types.size:=by
 obtain⟨i,_,_,h2,_⟩:=h.info
 grind
def zc1{W:World}{a:Addr}{v:Value}(h:W.cell? a=some v):a.block<W.heap.size:=by
 unfold World.cell? at h
 grind
def Q5{C:Cx}{t:TypeId}{T:Ty}(h:oI C t T):C.P.cellsOf t=aM T:=by obtain⟨i,z,h1,_,h2,_⟩:=h.info;unfold Program.cellsOf;rw[h1];exact h2
section
variable {H:Type} {enc:TypeId×Value→H} {C:Cx} {W:World} {base:Nat} {spare:Nat→Bool} {held:Bool} {imm:Nat→Prop}
def GA(C:Cx)(enc:TypeId×Value->H)(W:World)(base:Nat)(spare:Nat->Bool)(held:Bool)(imm:Nat->Prop)(T:Ty):Prop:=∀t fuel cs y,C.ty t=some T->DataW.trod enc C.P W base spare held fuel t cs=some y->∃x,aE imm W T x cs/\ef T [y.1]=some x
def z0m{e:Ty}:∀(n:Nat) (xs:List (DataW H×List MemPlace)) (f:Nat->List Value),xs.length=n->(∀i y,xs[i]?=some y->∃x,aE imm W e x (f i)/\ef e [y.1]=some x)->∃l:List (den e),l.length=n/\bR (aE imm W e) l ((List.range n).flatMap f)/\SY (fun d=>ef e [d]) (xs.map (·.1))=some l:=by
 intro n
 induction n with
 |zero=>intro xs f hl _;have:xs=[]:=zK hl;subst this;exact⟨[],rfl,rfl,rfl⟩
 |succ n ih=>
  intro xs f hl h;cases xs with
  |nil=>cases hl
  |cons y xs=>
   obtain⟨x,h1,h2⟩:=h 0 y rfl;obtain⟨l,g1,g2,g3⟩:=ih xs (fun i=>f (i+1)) (by simpa using hl) (fun i z hz=>h (i+1) z (by simpa using hz));refine⟨x::l,by simp[g1],?_,?_⟩
   ·rw[List.range_succ_eq_map,List.flatMap_cons,List.flatMap_map];exact⟨_,_,rfl,h1,g2⟩
   ·simp only[zN,SY,h2,g3]
def z7g{k:Nat}:∀(n:Nat) (cs:List Value),cs.length=n*k->(List.range n).flatMap (fun i=>(cs.drop (i*k)).take k)=cs:=by
 intro n
 induction n with
 |zero=>intro cs h;simp at h;subst h;rfl
 |succ n ih=>
  intro cs h;rw[List.range_succ_eq_map,List.flatMap_cons,List.flatMap_map];have h1:∀i,(cs.drop ((i+1)*k)).take k=((cs.drop k).drop (i*k)).take k:=fun i=>by rw[List.drop_drop];congr 2;rw[Nat.succ_mul];omega
  simp only[Nat.succ_eq_add_one,h1];rw[ih (cs.drop k) (by rw[zT,h,Nat.succ_mul];omega)];simp
def z7h(hC:cV C)(hA:∀b,spare b=true)(hq:∀b,b<W.heap.size->imm b)(ht:∀t e,t<C.P.types.size->C.P.underlying t=some (.slice e)->0<C.P.cellsOf e)(T:Ty):lF T=true->GA C enc W base spare held imm T/\(∀(fs:List Field) (off:Nat) (n:Nat) (cs:List Value) (xs:List (DataW H×List MemPlace)),vt C fs T off=true->off+aM T<=cs.length->xs.length=fs.length->(∀(i:Nat) (f:Field),fs[i]?=some f->DataW.trod enc C.P W base spare held n f.type ((cs.drop f.offset).take (C.P.cellsOf f.type))=xs[i]?)->∃x,aE imm W T x ((cs.drop off).take (aM T))/\ef T (xs.map (·.1))=some x):=by
 have one:∀(T:Ty),lF T=true->GA C enc W base spare held imm T->∀(f:Field) (off:Nat) (n:Nat) (cs:List Value) (xs:List (DataW H×List MemPlace)),vt C [f] T off=true->off+aM T<=cs.length->
   xs.length=1->(∀(i:Nat) (f':Field),[f][i]?=some f'->DataW.trod enc C.P W base spare held n f'.type ((cs.drop f'.offset).take (C.P.cellsOf f'.type))=xs[i]?)->
   ∃x,aE imm W T x ((cs.drop off).take (aM T))/\ef T (xs.map (·.1))=some x:=by
  intro T _ hT f off n cs xs hf _ hl h;have hf:(C.is f.type T&&Nat.beq f.offset off)=true:=by cases T<;>exact hf
  rw[ze] at hf;obtain⟨y,rfl⟩:∃y,xs=[y]:=by
   match xs,hl with
   |[y],_=>exact⟨y,rfl⟩
  have he:=cg hf.1;have hx:=zj hf.2;have h0:=h 0 f rfl;rw[Q5 (hC.eY _ _ he),hx] at h0;obtain⟨x,h1,h2⟩:=hT _ _ _ _ he h0;exact⟨x,h1,h2⟩
 have lG:∀(T:Ty),lF T=true->(∀a b,T≠.pair a b)->T≠.unit->GA C enc W base spare held imm T->(∀(fs:List Field) (off:Nat) (n:Nat) (cs:List Value) (xs:List (DataW H×List MemPlace)),vt C fs T off=true->off+aM T<=cs.length->xs.length=fs.length->
   (∀(i:Nat) (f:Field),fs[i]?=some f->DataW.trod enc C.P W base spare held n f.type ((cs.drop f.offset).take (C.P.cellsOf f.type))=xs[i]?)->
   ∃x,aE imm W T x ((cs.drop off).take (aM T))/\ef T (xs.map (·.1))=some x):=by
  intro T hk hp hu hT fs off n cs xs hf hg hl h;cases fs with
  |nil=>cases T<;>first|exact absurd rfl hu|cases hf
  |cons f fs=>
   cases fs with
   |nil=>exact one T hk hT f off n cs xs hf hg hl h
   |cons g r=>cases T<;>first|exact absurd rfl (hp _ _)|cases hf
 induction T with
 |int k=>
  intro hk;have hT:GA C enc W base spare held imm (.int k):=by
   intro t fuel cs y he h;obtain⟨d,h1,h2,h3⟩:=(hC.eY _ _ he).desc;cases d<;>simp only[pE] at h3<;>try (cases h3;done)
   have:=Sd h3;subst this;obtain⟨n,rfl,rfl,hw⟩:=DataW.trod_int h2 h;refine⟨n,⟨rfl,?_⟩,by simp[ef]⟩;simpa[Lit.wf,gE] using hw
  exact⟨hT,lG _ hk (fun _ _ h=>by cases h) (fun h=>by cases h) hT⟩
 |fG=>intro hk;cases hk
 |dG=>intro hk;cases hk
 |bool=>
  intro hk;have hT:GA C enc W base spare held imm .bool:=by
   intro t fuel cs y he h;obtain⟨d,h1,h2,h3⟩:=(hC.eY _ _ he).desc;cases d<;>simp only[pE] at h3<;>try (cases h3;done)
   obtain⟨n,rfl,rfl⟩:=DataW.trod_bool h2 h;exact⟨n,rfl,rfl⟩
  exact⟨hT,lG _ hk (fun _ _ h=>by cases h) (fun h=>by cases h) hT⟩
 |str=>
  intro hk;have hT:GA C enc W base spare held imm .str:=by
   intro t fuel cs y he h;obtain⟨d,h1,h2,h3⟩:=(hC.eY _ _ he).desc;cases d<;>simp only[pE] at h3<;>try (cases h3;done)
   obtain⟨s,rfl,rfl,hs⟩:=DataW.trod_string h2 h;exact⟨_,⟨s,rfl,rfl,hs⟩,rfl⟩
  exact⟨hT,lG _ hk (fun _ _ h=>by cases h) (fun h=>by cases h) hT⟩
 |unit=>
  intro _;refine⟨?_,?_⟩
  ·intro t fuel cs y he h;obtain⟨d,h1,h2,h3⟩:=(hC.eY _ _ he).desc;cases d<;>simp only[pE] at h3<;>first|(cases h3;done)|(rename_i k;cases k<;>cases h3)
  ·intro fs off n cs xs hf _ hl _;cases fs with
   |nil=>have:xs=[]:=zK hl;subst this;exact⟨(),by simp[aM,aE],rfl⟩
   |cons f r=>
    cases r with
    |nil=>simp only[vt,ze] at hf;have he:=cg hf.1;obtain⟨d,h1,h2,h3⟩:=(hC.eY _ _ he).desc;cases d<;>simp only[pE] at h3<;>first|(cases h3;done)|(rename_i k;cases k<;>cases h3)
    |cons g r=>cases hf
 |st p ih=>
  intro hk;replace ih:=ih hk;have hT:GA C enc W base spare held imm (.st p):=by
   intro t fuel cs y he h;have hn:=hC.eY _ _ he;obtain⟨d,h1,h2,h3⟩:=hn.desc;cases d<;>simp only[pE] at h3<;>try (cases h3;done)
   rename_i fs;obtain⟨xs,n,rfl,rfl,hl,hg,hf⟩:=DataW.trod_struct h2 h;rw[Q5 hn] at hl;have hl:cs.length=aM p:=hl;obtain⟨x,g1,g2⟩:=ih.2 fs.toList 0 n cs xs h3 om (by simpa using hg) (fun i f hi=>hf i f (by rw[<-zJ];exact hi));rw[List.drop_zero,zW om] at g1;exact⟨x,g1,g2⟩
  exact⟨hT,lG _ hk (fun _ _ h=>by cases h) (fun h=>by cases h) hT⟩
 |pair a b qv lA=>
  intro hk;simp only[lF,ze] at hk;replace qv:=qv hk.1;replace lA:=lA hk.2;refine⟨?_,?_⟩
  ·intro t fuel cs y he h;obtain⟨d,h1,h2,h3⟩:=(hC.eY _ _ he).desc;cases d<;>simp only[pE] at h3<;>first|(cases h3;done)|(rename_i k;cases k<;>cases h3)
  ·intro fs off n cs xs hf hg hl h;cases fs with
   |nil=>cases hf
   |cons f r=>
    cases r with
    |nil=>simp only[vt,ze] at hf;have he:=cg hf.1;obtain⟨d,h1,h2,h3⟩:=(hC.eY _ _ he).desc;cases d<;>simp only[pE] at h3<;>first|(cases h3;done)|(rename_i k;cases k<;>cases h3)
    |cons g r=>
     simp only[vt,ze] at hf;cases xs with
     |nil=>cases hl
     |cons y xs=>
      simp only[aM] at hg;have he:=cg hf.1.1;have hx:=zj hf.1.2;have h0:=h 0 f rfl;rw[Q5 (hC.eY _ _ he),hx] at h0;obtain⟨x1,g1,g2⟩:=qv.1 _ _ _ _ he h0;obtain⟨x2,g3,g4⟩:=lA.2 (g::r) (off+aM a) n cs xs hf.2 om (by simpa using hl) (fun i f' hi=>h (i+1) f' (by simpa using hi));refine⟨(x1,x2),⟨_,_,?_,g1,g3⟩,?_⟩
      ·show(cs.drop off).take (aM a+aM b)=_;rw[List.take_add,List.drop_drop]
      ·simp only[zN,ef,g2,g4]
 |arr n e ih=>
  intro hk;replace ih:=ih hk;have hT:GA C enc W base spare held imm (.arr n e):=by
   intro t fuel cs y he h;have hn:=hC.eY _ _ he;obtain⟨d,h1,h2,h3⟩:=hn.desc;cases d<;>simp only[pE] at h3<;>try (cases h3;done)
   rename_i m te;rw[ze] at h3;have:=zj h3.1;subst this;have ho:=cg h3.2;obtain⟨xs,k,rfl,rfl,hl,hg,hf⟩:=DataW.trod_array h2 h;rw[Q5 hn] at hl;have hl:cs.length=m*aM e:=hl;rw[Q5 (hC.eY _ _ ho)] at hf;obtain⟨l,g1,g2,g3⟩:=z0m (imm:=imm) (W:=W) (e:=e) m xs (fun i=>(cs.drop (i*aM e)).take (aM e)) hg (fun i y hy=>by
    have hi:i<m:=by grind
    have:=hf i hi;rw[hy] at this;exact ih.1 _ _ _ _ ho this)
   rw[z7g m cs hl] at g2;refine⟨l,⟨g1,g2⟩,?_⟩;simp only[ef,g3,g1,if_true]
  exact⟨hT,lG _ hk (fun _ _ h=>by cases h) (fun h=>by cases h) hT⟩
 |sl e ih=>
  intro hk;replace ih:=ih hk;have hT:GA C enc W base spare held imm (.sl e):=by
   intro t fuel cs y he h;have hn:=hC.eY _ _ he;obtain⟨d,h1,h2,h3⟩:=hn.desc;cases d<;>simp only[pE] at h3<;>try (cases h3;done)
   rename_i te;have ho:=cg h3;rcases DataW.trod_slice h2 h with ⟨rfl,rfl⟩|⟨a,len,cap,elems,rest,n,rfl,rfl,rfl,hb,hH,hI,hg,hf,hr,_⟩
   ·exact⟨⟨true,[]⟩,⟨_,rfl,Nat.zero_le _,.inl ⟨rfl,rfl,rfl⟩⟩,rfl⟩
   ·have hB:=ht t te hn.lt h2;have first:cap≠0->∃v,W.cell? a=some v:=by
     intro hc;have hD:∃y,(W.cells? base (a.add (0*C.P.cellsOf te)) (C.P.cellsOf te)).bind (DataW.trod enc C.P W base spare held n te)=some y:=by
      by_cases h0:len=0
      ·obtain⟨r1,r2⟩:=hr (hA _);have:=r2 0 om
       grind
      ·have:=hf 0 om
       grind
     obtain⟨y,hy⟩:=hD;obtain⟨ci,h5,_⟩:=zR.1 hy;obtain⟨_,h6,h7⟩:=World.cells?_some h5;have h8:=h7 0 hB;rw[zf om,Nat.zero_mul,show(a.add 0).add 0=a from rfl] at h8;exact⟨_,h8⟩
    have hs:cap≠0->a.spot=none:=fun hc=>by
     obtain⟨v,hv⟩:=first hc
     exact World.cell?_spot hv
    have hi:len≠0->imm a.block:=fun h0=>by
     obtain⟨v,hv⟩:=first om
     exact hq _ (zc1 hv)
    rw[Q5 (hC.eY _ _ ho)] at hf;have xF:∀i,i<len->∃ci,W.cells? base (a.add (i*aM e)) (aM e)=some ci/\DataW.trod enc C.P W base spare held n te ci=elems[i]?:=fun i hi=>by
     have:=hf i hi;rw[zf om] at this;obtain⟨ci,h1,h2⟩:=zR.1 this
     grind
    let f:Nat->List Value:=fun i=>(W.cells? base (a.add (i*aM e)) (aM e)).getD [];obtain⟨l,g1,g2,g3⟩:=z0m (imm:=imm) (W:=W) (e:=e) len elems f hg (fun i y hy=>by
     have hi:i<len:=by grind
     obtain⟨ci,h1,h2⟩:=xF i hi;rw[hy] at h2;show ∃x,aE imm W e x ((W.cells? base (a.add (i*aM e)) (aM e)).getD [])/\_;rw[h1,Option.getD_some];exact ih.1 _ _ _ _ ho h2)
    have hE:∀i,i<len->(f i).length=aM e/\∀j (hj:j<(f i).length),W.cell? ⟨a.block,a.off+i*aM e+j,none⟩=some (f i)[j]:=fun i hi=>by
     obtain⟨ci,h1,_⟩:=xF i hi;have hF:f i=ci:=by show(W.cells? base (a.add (i*aM e)) (aM e)).getD []=ci;rw[h1];rfl
     obtain⟨_,h4,h5⟩:=World.cells?_some h1;rw[hF];refine⟨h4,fun j hj=>?_⟩;have:=h5 j om;rw[zf hj] at this;rw[<-this];have:(a.add (i*aM e)).add j=⟨a.block,a.off+i*aM e+j,none⟩:=by
      obtain⟨ab,ao,as⟩:=a;have hs:as=none:=hs om;subst hs;simp only[Addr.add]
      grind
     rw[this]
    have hG:lV W a ((List.range len).flatMap f):=by
     clear g2 g3 h hf;have key:∀m,m<=len->lV W a ((List.range m).flatMap f)/\((List.range m).flatMap f).length=m*aM e:=by
      intro m
      induction m with
      |zero=>intro _;exact⟨fun j hj=>by simp at hj,by simp⟩
      |succ m ihm=>
       intro hm;obtain⟨k1,k2⟩:=ihm om;obtain⟨k3,k4⟩:=hE m om;rw[List.range_succ,List.flatMap_append,List.flatMap_singleton];refine⟨fun j hj=>?_,by rw[zd,k2,k3,Nat.succ_mul]⟩;by_cases hz:j<((List.range m).flatMap f).length
       ·rw[List.getElem_append_left hz];exact k1 j hz
       grind
     grind
    refine⟨⟨false,l⟩,⟨_,rfl,?_,.inr ⟨rfl,a,cap,_,?_,hs,fun h=>hi fun h0=>h (zK (g1.trans h0)),g2,hG,?_⟩⟩,?_⟩
    ·show l.length<=cv;have:maxLen=cv:=rfl;omega
    ·grind
    ·grind
    ·simp only[ef,g3]
  exact⟨hT,lG _ hk (fun _ _ h=>by cases h) (fun h=>by cases h) hT⟩
end
end Ev
namespace Ev
open Go Go.ChangeShapes Go.WideShapes Go.RowKit
def mA:(T:Ty)->den T->Prop
 |.int k,n=>gE k n
 |.bool,_=>True
 |.fG,_=>True
 |.dG,_=>True
 |.str,l=>List.length l<=cv/\∀b,b∈(l:List Int)->0<=b/\b<256
 |.unit,_=>True
 |.pair a b,x=>mA a x.1/\mA b x.2
 |.st p,x=>mA p x
 |.arr n e,l=>List.length l=n/\∀x,x∈(l:List (den e))->mA e x
 |.sl e,s=>s.l.length<=cv/\(s.nil=true->s.l=[])/\∀x,x∈s.l->mA e x
def qsp{α:Type}{f:α->List Value->Prop}{g:α->Prop}(h:∀x c,f x c->g x):∀{l:List α} {cs:List Value},bR f l cs->∀x,x∈l->g x
 |y::l,_,⟨c,d,e,h1,h2⟩,x,hx=>by
  rcases zk.1 hx with rfl|hx
  ·exact h _ _ h1
  ·exact qsp h h2 x hx
def Q6{imm:Nat->Prop}{w:World}:∀(T:Ty) (x:den T) (cs:List Value),aE imm w T x cs->mA T x
 |.int _,_,_,h=>h.2
 |.bool,_,_,_=>trivial
 |.fG,_,_,_=>trivial
 |.dG,_,_,_=>trivial
 |.str,_,_,⟨s,_,h2,h3⟩=>by subst h2;refine⟨by simpa using h3,fun b hb=>?_⟩;obtain⟨c,_,rfl⟩:=zV.1 hb;have:=c.toNat_lt;omega
 |.unit,_,_,_=>trivial
 |.pair a b,x,_,⟨c,d,_,h1,h2⟩=>⟨Q6 a x.1 c h1,Q6 b x.2 d h2⟩
 |.st p,x,cs,h=>Q6 p x cs h
 |.arr _ e,_,_,⟨h1,h2⟩=>⟨h1,qsp (fun x c h=>Q6 e x c h) h2⟩
 |.sl e,s,_,⟨v,_,h2,h3⟩=>by
  rcases h3 with ⟨h3,h4,_⟩|⟨h3,a,cap,ec,_,_,_,h5,_⟩
  ·exact⟨h2,fun _=>h4,fun x hx=>by rw[h4] at hx;cases hx⟩
  ·exact⟨h2,(fun h=>by rw[h3] at h;cases h),qsp (fun x c h=>Q6 e x c h) h5⟩
abbrev vV(Ts:List Ty):Type:=ai (jG (Ts.map Sh.d) [])
def sj:(Ts:List Ty)->vV Ts->Prop
 |[],_=>True
 |T::Ts,x=>mA T x.1/\sj Ts x.2
def vW{H:Type}:(Ts:List Ty)->List (DataW H)->Option (vV Ts)
 |[],[]=>some ()
 |T::Ts,d::ds=>match ef T [d] with
  |some x=>match vW Ts ds with
   |some y=>some (x,y)
   |none=>none
  |none=>none
 |_,_=>none
def S0(C:Cx):List TypeId->List Ty->Bool
 |[],[]=>true
 |t::ts,T::Ts=>(C.is t T&&lF T)&&S0 C ts Ts
 |_,_=>false
def qsq{H:Type}:∀{Ts:List Ty} {ds:List (DataW H)} {x:vV Ts},vW Ts ds=some x->ds.length=Ts.length:=by
 intro Ts
 induction Ts with
 |nil=>intro ds x h;cases ds with|nil=>rfl|cons d ds=>cases h
 |cons T Ts ih=>
  intro ds x h;cases ds with
  |nil=>cases h
  |cons d ds=>
   simp only[vW] at h
   grind
section
variable {H:Type} {enc:TypeId×Value→H} {C:Cx} {W:World} {base:Nat} {imm:Nat→Prop} {φ:Nat→Addr} {o:Nat→Obj}
def XI{v:Value}(h:Sg v=false):v.cells=#[v]:=by cases v<;>first|rfl|cases h
def zgh(hC:cV C)(he:∀t e,t<C.P.types.size->C.P.underlying t=some (.slice e)->0<C.P.cellsOf e){T:Ty}{t:TypeId}{v:Value}{fuel:Nat}{y:DataW H×List MemPlace}{sp:Nat->Bool}{held:Bool}(hj:∀b,sp b=true)(hk:lF T=true)(hg:C.ty t=some T)(h:DataW.trod enc C.P W 0 sp held fuel t v.cells.toList=some y)(hv:Value.okWide C.P W .any base t v):∃x,cY (fun b=>b<W.heap.size) W T x v/\ef T [y.1]=some x/\mA T x:=by
 obtain⟨x,h1,h2⟩:=(z7h (imm:=fun b=>b<W.heap.size) hC hj (fun _ h=>h) he T hk).1 t fuel _ y hg h;refine⟨x,?_,h2,Q6 _ _ _ h1⟩;obtain⟨d,h4,h5,h6⟩:=(hC.eY _ _ hg).desc;unfold Value.okWide at hv;rw[h5] at hv;have flat:Cell.okWide C.P W .any base t v->Sg v=false:=by
  intro hc;cases hf:Sg v with
  |false=>rfl
  |true=>
   exfalso;cases v<;>try (cases hf;done)
   unfold Cell.okWide at hc;rw[h5] at hc;cases d<;>cases T<;>first|(cases h6;done)|(simp only at hc;unfold Cell.ok at hc;rw[h5] at hc;exact hc)
 cases T with
 |int k=>
  cases d<;>try (first|(cases h6;done)|(rename_i k;cases k<;>(cases h6;done)))
  rw[XI (flat hv)] at h1;exact h1
 |bool=>
  cases d<;>try (first|(cases h6;done)|(rename_i k;cases k<;>(cases h6;done)))
  rw[XI (flat hv)] at h1;exact h1
 |str=>
  cases d<;>try (first|(cases h6;done)|(rename_i k;cases k<;>(cases h6;done)))
  rw[XI (flat hv)] at h1;exact h1
 |sl e=>
  cases d<;>try (first|(cases h6;done)|(rename_i k;cases k<;>(cases h6;done)))
  rw[XI (flat hv)] at h1;exact h1
 |unit=>cases d<;>first|(cases h6;done)|(rename_i k;cases k<;>cases h6)
 |fG=>cases hk
 |dG=>cases hk
 |pair a b=>cases d<;>first|(cases h6;done)|(rename_i k;cases k<;>cases h6)
 |st p=>
  cases d<;>try (first|(cases h6;done)|(rename_i k;cases k<;>(cases h6;done)))
  obtain⟨cs,rfl,_⟩:=hv;exact⟨cs,rfl,h1⟩
 |arr n e=>
  cases d<;>try (first|(cases h6;done)|(rename_i k;cases k<;>(cases h6;done)))
  obtain⟨cs,rfl,_⟩:=hv;exact⟨cs,rfl,h1⟩
def z0n(hC:cV C)(hc:∀t e,t<C.P.types.size->C.P.underlying t=some (.slice e)->0<C.P.cellsOf e)(he:∀b,b<W.heap.size->imm b):∀(Ts:List Ty) (ts:List TypeId) (vs:List Value) (ds:List (DataW H)) (p:List MemPlace),S0 C ts Ts=true->DataW.TrodAll enc C.P W 0 (fun _=>true) true ts vs ds p->(∀(j:Nat) t v,ts[j]?=some t->vs[j]?=some v->Value.okWide C.P W .any base t v)->∃x:vV Ts,ck φ o imm W (fH cJ cd (Ts.map Sh.d) [] x).1 vs/\vW Ts ds=some x/\sj Ts x
 |[],ts,vs,ds,p,ht,h,_=>by
  cases ts with
  |cons t ts=>cases ht
  |nil=>obtain⟨rfl,rfl,rfl⟩:=trodAll_nil h;exact⟨(),rfl,rfl,trivial⟩
 |T::Ts,ts,vs,ds,p,ht,h,hv=>by
  cases ts with
  |nil=>cases ht
  |cons t ts=>simp only[S0,ze] at ht;obtain⟨v,vs1,d,ds1,p1,p2,rfl,rfl,rfl,⟨fuel,h1⟩,h2⟩:=trodAll_cons h;obtain⟨x,g1,g2,g3⟩:=zgh hC hc (fun _=>rfl) ht.1.2 (cg ht.1.1) h1 (hv 0 t v rfl rfl);obtain⟨y,k1,k2,k3⟩:=z0n hC hc he Ts ts vs1 ds1 p2 ht.2 h2 (fun j t v a b=>hv (j+1) t v (by simpa using a) (by simpa using b));refine⟨(x,y),⟨v,vs1,rfl,qnm he (fun _ _=>rfl) T x v g1,k1⟩,?_,g3,k3⟩;simp only[vW,g2,k2]
def S1:∀{t:Ty},Bx t=false->lF t=true
 |.fG,h=>by cases h
 |.dG,h=>by cases h
 |.int _,_=>rfl
 |.bool,_=>rfl
 |.str,_=>rfl
 |.sl _,h=>by cases h
 |.unit,_=>rfl
 |.pair a b,h=>by simp only[Bx,Bool.or_eq_false_iff] at h;simp only[lF,S1 h.1,S1 h.2,Bool.and_self]
 |.st p,h=>S1 (t:=p) h
 |.arr _ e,h=>S1 (t:=e) h
structure XJ (C:Cx) (laid:List (String×DataW Unit)):Prop where
 plain:(laid.filter fun x=>x.2.handleName?.isSome)=[]
 fe:∀g t x,C.lu g=some ⟨t,x⟩->∃n d tid,(n,d)∈laid/\C.P.globalNamed n=some g/\(C.P.globals[g]?).map (·.type)=some tid/\C.ty tid=some t/\Bx t=false/\ef t [d]=some x
def qm9:∀{laid:List (String×DataW Unit)} {ps:List MemPlace},DataW.LaidVars C.P W laid ps->∀n d,(n,d)∈laid->∃g t cs fuel p,C.P.globalNamed n=some g/\(C.P.globals[g]?).map (·.type)=some t/\W.var? C.P n=some cs/\DataW.trod (fun _=>()) C.P W 0 (fun _=>true) false fuel t cs.toList=some (d,p)
 |(n0,d0)::r,ps,⟨g,t,cs,fuel,p,q,h1,h2,h3,h4,h5,_⟩,n,d,hm=>by
  rcases zk.1 hm with h|h
  ·grind
  ·exact qm9 h5 n d h
def qve(hC:cV C)(he:∀t e,t<C.P.types.size->C.P.underlying t=some (.slice e)->0<C.P.cellsOf e){laid:List (String×DataW Unit)}(hG:XJ C laid)(hL:laidMetH C.P laid W){g:Nat}{t:Ty}{x:den t}(h:C.lu g=some ⟨t,x⟩)(hc:∀b,b<W.heap.size->imm b):ay φ o imm W (.ref t x) (.pointer (some ⟨g,0,none⟩))/\∃c el fz,W.heap[g]?=some (.cells c el fz)/\c.size=aM t:=by
 unfold laidMetH at hL;rw[hG.plain] at hL;obtain⟨ps,hl,_⟩:=hL;obtain⟨n,d,tid,h1,h2,h3,h4,h5,h6⟩:=hG.fe g t x h;obtain⟨g',t',cs,fuel,p,k1,k2,k3,k4⟩:=qm9 hl n d h1;rw[h2] at k1;cases k1;rw[h3] at k2;cases k2;obtain⟨x',r1,r2⟩:=(z7h (imm:=imm) hC (fun _=>rfl) hc he t (S1 h5)).1 tid fuel _ _ h4 k4;simp only at r2;rw[h6] at r2;cases r2;unfold World.var? at k3;rw[h2] at k3;simp only[Option.bind_some] at k3;split at k3
 ·rename_i c el fz hb;cases k3;have hf:g<W.heap.size:=by grind
  refine⟨⟨⟨g,0,none⟩,cs.toList,rfl,rfl,hc _ hf,r1,fun j hj=>?_⟩,_,_,_,hb,by rw[<-Array.length_toList];exact iQ _ _ _ r1⟩;unfold World.cell?
  grind
 ·cases k3
def xG(C:Cx)(s:lr)(x:ai s.ins.aS)(y:ai s.outs.aS):Prop:=
 ∀X φ w zs,MRel C X φ (ba s.ins x) w->ck φ (ba s.ins x) (aj X φ (ba s.ins x) w) w (fill cJ cd s.ins x).1 zs->
  (∃fn,C.P.funcs[s.f]?=some fn/\fn.body.isNone=false)/\Calls C.P s.f zs.toArray w fun e w'=>
   ∃dS φ' X',e=.returned (Cd dS)/\(∀b,X b->X' b)/\MRel C X' φ' (ba s.outs y) w'/\
    ck φ' (ba s.outs y) (aj X' φ' (ba s.outs y) w') w' (fill cJ cd s.outs y).1 dS/\dC s.bN φ (ba s.ins x) w φ' (ba s.outs y) w'
def qw.s{i:Nat}{x:ai (aQ C.sigs i).ins.aS}{y:ai (aQ C.sigs i).outs.aS}(h:qw C i x y):xG C (aQ C.sigs i) x y:=h
def z3i{W W':World}(h:∀b,b<W.heap.size->W'.heap[b]?=W.heap[b]?){p:MemPlace}(hp:p.block<W.heap.size):W.sameAt W' p:=by
 cases p with
 |cell b off=>exact qnj (h b hp)
 |map b=>exact h b hp
def qma{P:Program}{W':World}(K:Kids P (· <P.types.size))(hz:∀t e,t<P.types.size->P.underlying t=some (.slice e)->0<P.cellsOf e)(hs:∀b,b<W.heap.size->W'.heap[b]?=W.heap[b]?):∀{ts:List TypeId} {vs:List Value} {ds:List (DataW H)} {ps:List MemPlace},(∀t,t∈ts->t<P.types.size)->DataW.TrodAll enc P W 0 (fun _=>true) true ts vs ds ps->(∀p,p∈ps->p.block<W.heap.size)->DataW.TrodAll enc P W' 0 (fun b=>decide (b<W.heap.size)) true ts vs ds ps
 |[],_,_,_,_,h,_=>by obtain⟨rfl,rfl,rfl⟩:=trodAll_nil h;exact rfl
 |t::ts,vs,ds,ps,ht,h,hp=>by obtain⟨v,vs1,d,ds1,p,q,rfl,rfl,rfl,⟨n,h1⟩,h2⟩:=trodAll_cons h;refine⟨p,q,⟨n,?_⟩,qma K hz hs (fun t h=>ht t (zh _ h)) h2 (fun x hx=>hp x (List.mem_append_right _ hx)),rfl⟩;exact DataW.trod_stays K (fun hT hu=>hz _ _ hT hu) (fun h=>by cases h) (ht t (zg ..)) h1 (fun x hx=>z3i hs (hp x (List.mem_append_left _ hx))) (fun x hx=>by simpa using hp x (List.mem_append_left _ hx))
def qvf{W W':World}{may:MemPlace->Prop}(h:∀b,b<W.heap.size->W'.heap[b]?=W.heap[b]?)(hs:xB W W'):W.keptBut W' may:=by
 refine⟨hs.1,hs.2,fun i hi=>?_⟩
 grind
structure XK (C:Cx) (laid:List (String×DataW Unit)):Prop where
 cx:cV C
 lu:XJ C laid
 kids:Kids C.P (· <C.P.types.size)
 full:∀t e,t<C.P.types.size->C.P.underlying t=some (.slice e)->0<C.P.cellsOf e
def qvg{laid:List (String×DataW Unit)}(hS:XK C laid){f:FuncId}{fn:Func}{s:ChangeSpec}(Ts:List Ty)(tb:TypeId)(hu:S0 C fn.params.toList Ts=true)(hv:∀t,t∈fn.params.toList->t<C.P.types.size)(ho:fn.resultTypes=#[tb])(hw:C.P.underlying tb=some .bool)(hj:s.vars=[])(hf:∀ds:List (DataW H),ds.length=Ts.length->s.fn H ds={results:=[.lit (.bool true)],args:=ds})
  {args:Array Value} {ds gs:List (DataW H)} {before:List MemPlace}
  (hq:∀(j:Nat) t v,fn.params[j]?=some t->args[j]?=some v->Value.okWide C.P W .any base t v) (hW:DataW.Whole enc C.P fn.params.toList s.vars false W args.toList ds gs before) (hL:laidMetH C.P laid W)
  (hn:∀x:vV Ts,sj Ts x->vW Ts (ds++gs)=some x->xG C ⟨f,⟨Ts.map Sh.d,[]⟩,⟨[Sh.d .bool],[]⟩,[]⟩ x (true,())):
  Calls C.P f args W fun e W'=>∃v,e=.returned v/\s.post enc C.P fn false true false false W args v W':=by
 have hs:=hW.lt;have ht:=hW;obtain⟨p,q,hA,hV,rfl,hx,hy⟩:=hW;rw[hj] at hV;obtain⟨rfl,rfl⟩:gs=[]/\q=[]:=by
  cases gs with
  |nil=>exact⟨rfl,hV⟩
  |cons g gs=>exact hV.elim
 simp only[zn] at hs ht hn;obtain⟨x,h1,h2,h3⟩:=z0n (φ:=fun _=>⟨0,0,none⟩) (o:=fun _=>.none) (imm:=aj (fun _=>False) (fun _=>⟨0,0,none⟩) (fun _=>.none) W) hS.cx hS.full (fun b hb=>⟨hb,id,fun⟨_,h,_⟩=>by cases h⟩) Ts fn.params.toList args.toList ds p hu
  hA (fun j t v h1 h2=>hq j t v (by rw[<-zJ];exact h1) (by rw[<-zJ];exact h2))
 have hm:MRel C (fun _=>False) (fun _=>⟨0,0,none⟩) (fun _=>Obj.none) W:=
  ⟨fun _=>trivial,(fun i j h=>by cases h),(fun i h=>by cases h),(fun b h=>h.elim),fun _=>trivial,fun g t x hg=>(qve hS.cx hS.full hS.lu hL hg (fun b hb=>⟨hb,id,fun⟨_,h,_⟩=>by cases h⟩)).1,
   fun g t x hg=>(qve (φ:=fun _=>⟨0,0,none⟩) (o:=fun _=>.none) (imm:=fun _=>True) hS.cx hS.full hS.lu hL hg (fun _ _=>trivial)).2⟩
 obtain⟨_,hc⟩:=hn x h3 h2 (fun _=>False) (fun _=>⟨0,0,none⟩) W args.toList hm h1;have e0:args.toList.toArray=args:=by simp
 rw[e0] at hc;refine hc.mono fun e W' ⟨dS,φ',X',he,_,_,hr,hh⟩=>?_;have hr:∃v r,dS=v::r/\v=.bool true/\r=[]:=by obtain⟨v,r,h1,h2,h3⟩:=hr;have h2:[v]=[Value.bool true]:=h2;injection h2 with h2;exact⟨v,r,h1,h2,h3⟩
 obtain⟨_,_,rfl,rfl,rfl⟩:=hr;have hk:∀b,b<W.heap.size->W'.heap[b]?=W.heap[b]?:=fun b hb=>hh.frame b hb fun⟨id,h,_⟩=>by cases h
 refine⟨_,he,ds,[],p,[],p,[],ht,?_,?_,?_,qvf hk hh.still,fun h=>by cases h⟩
 ·have hl:ds.length=Ts.length:=by exact qsq h2
  rw[zn,hf ds hl,ho];exact trodAll_cons_mk (p':=[]) (shut_bool hw true) rfl
 ·have hl:ds.length=Ts.length:=by exact qsq h2
  rw[zn,hf ds hl];exact qma hS.kids hS.full hk hv hA hs
 ·rw[hj];have hl:(s.fn H (ds++[])).vars=[]:=by rw[zn,hf ds (qsq h2)]
  rw[hl];exact rfl
end
end Ev
namespace Ev
open Go
def aW(C:Cx)(f:Nat):Bool:=match C.P.funcs.toList[f]? with
 |some fn=>!(fn.name== "runtime.NumGoroutine")
 |none=>true
def S2(C:Cx):List lr->Bool
 |[]=>aW C 0
 |s::r=>aW C s.f&&S2 C r
def qos{C:Cx}{f:Nat}(h:aW C f=true):∀fn,C.P.funcs[f]?=some fn->(fn.name== "runtime.NumGoroutine")=false:=by
 intro fn hf;unfold aW at h
 grind
def qmb{C:Cx}:∀{l:List lr},S2 C l=true->∀i fn,C.P.funcs[(aQ l i).f]?=some fn->(fn.name== "runtime.NumGoroutine")=false
 |[],h,_,fn,hf=>qos h fn hf
 |s::r,h,i,fn,hf=>by
  simp only[S2,ze] at h;cases i with
  |zero=>exact qos h.1 fn hf
  |succ i=>exact qmb h.2 i fn hf
def zc2{C:Cx}(h1:QR C C.eY=true)(h2:L6 C C.eqs=true)(h3:S2 C C.sigs=true)(h4:C.P.follows .mixedOrders=true):∀{i:Nat} {x:ai (aQ C.sigs i).ins.aS} {y:ai (aQ C.sigs i).outs.aS},Call C i x y->qw C i x y:=by have hC:cV C:=⟨fun t T h=>qhx h1 t T h⟩;have hE:mw C:=zfz hC h2;have hL:XE C:=zgb (qmb h3);intro i x y h;exact h.ok hC hE hL (zgg hC hE hL h4)
def z7j{C:Cx}{laid:List (String×DataW Unit)}(h1:QR C C.eY=true)(h2:laidOutB C.P=true)(h3:mapsRowed C.P=true)(h4:((List.range C.P.types.size).all fun t=>match C.P.underlying t with|some (.slice e)=>decide (0<C.P.cellsOf e)|_=>true)=true)(h5:XJ C laid):XK C laid:=⟨⟨fun t T h=>qhx h1 t T h⟩,h5,kids_rows h2 h3,slices_full_of C.P h4⟩
def bc{α β:Type}(F:(α->Option β)->α->Option β):Nat->α->Option β
 |0,_=>none
 |n+1,x=>F (bc F n) x
open Classical in
noncomputable def eN{α β:Type}(F:(α->Option β)->α->Option β)(x:α):Option β:=if h:∃y n0,∀n,n0<=n->bc F n x=some y then some (Classical.choose h) else none
def z7k{α β:Type}{F:(α->Option β)->α->Option β}{x:α}{y:β}(h:eN F x=some y):∃n,bc F n x=some y:=by
 unfold eN at h;split at h
 ·rename_i hx;injection h with h;obtain⟨n0,hn⟩:=Classical.choose_spec hx;exact⟨n0,by rw[<-h];exact hn n0 (Nat.le_refl _)⟩
 ·cases h
def vw{α β:Type}{F:(α->Option β)->α->Option β}{x:α}{y:β}(n0:Nat)(h:∀n,n0<=n->bc F n x=some y):eN F x=some y:=by
 unfold eN;have hx:∃y n0,∀n,n0<=n->bc F n x=some y:=⟨y,n0,h⟩;rw[dif_pos hx];obtain⟨n1,hn⟩:=Classical.choose_spec hx;have h1:=hn (n0+n1) om
 grind
def aa(C:Cx)(k:Nat)(f:ai (aQ C.sigs k).ins.aS->Option (ai (aQ C.sigs k).outs.aS)):Prop:=∀x y,f x=some y->Call C k x y
def Q7(C:Cx)(R:jU C.sigs):Prop:=∀j a b,R j a=some b->Call C j a b
def cQ{sg:List lr}:jU sg:=fun _ _=>none
def au{sg:List lr}(j:Nat)(f:ai (aQ sg j).ins.aS->Option (ai (aQ sg j).outs.aS))(R:jU sg):jU sg:=fun i=>match Nat.decEq i j with
 |isTrue h=>h▸f
 |isFalse _=>R i
def aA{C:Cx}:Q7 C cQ:=fun _ _ _ h=>by cases h
def ah{C:Cx}{j:Nat}{f:ai (aQ C.sigs j).ins.aS->Option (ai (aQ C.sigs j).outs.aS)}{R:jU C.sigs}(hf:aa C j f)(hR:Q7 C R):Q7 C (au j f R):=by
 intro i a b h;unfold au at h;cases hd:Nat.decEq i j with
 |isTrue e=>rw[hd] at h;subst e;exact hf a b h
 |isFalse e=>rw[hd] at h;exact hR i a b h
def zgi{C:Cx}{k:Nat}{F:(ai (aQ C.sigs k).ins.aS->Option (ai (aQ C.sigs k).outs.aS))->ai (aQ C.sigs k).ins.aS->Option (ai (aQ C.sigs k).outs.aS)}(h:∀g,aa C k g->∀x y,F g x=some y->Call C k x y):aa C k (eN F):=by
 intro x y hx;obtain⟨n,hn⟩:=z7k hx;clear hx
 induction n generalizing x y with
 |zero=>cases hn
 |succ n ih=>exact h (bc F n) (fun a b hc=>ih a b hc) x y hn
def aa.of{C:Cx}{k:Nat}{f g:ai (aQ C.sigs k).ins.aS->Option (ai (aQ C.sigs k).outs.aS)}(h:aa C k f)(hg:∀x y,g x=some y->f x=some y):aa C k g:=fun x y e=>h x y (hg x y e)
def qld{σ ρ:Type}{f:σ->Option (σ⊕ρ)}:∀{n m:Nat} {s:σ} {r:ρ},n<=m->px f n s=some r->px f m s=some r
 |0,_,_,_,_,h=>by cases h
 |n+1,0,_,_,hm,_=>by omega
 |n+1,m+1,s,r,hm,h=>by
  simp only[px] at h ⊢;cases hs:f s with
  |none=>rw[hs] at h;cases h
  |some q=>
   rw[hs] at h;cases q with
   |inl s'=>exact qld (n:=n) (m:=m) om h
   |inr r'=>exact h
def XL{σ ρ:Type}{f:σ->Option (σ⊕ρ)}{s:σ}{r:ρ}(n:Nat)(h:px f n s=some r):aD f s=some r:=by
 have hx:∃r n,px f n s=some r:=⟨r,n,h⟩;unfold aD;rw[dif_pos hx];obtain⟨m,hm⟩:=Classical.choose_spec hx;have h1:=qld (Nat.le_max_left n m) h;have h2:=qld (Nat.le_max_right n m) hm
 grind
def qr5{σ ρ:Type}(f:σ->Option (σ⊕ρ))(s:σ):aD f s=match f s with
  |some (.inl s')=>aD f s'
  |some (.inr r)=>some r
  |none=>none:=by
 cases hf:f s with
 |none=>
  simp only;cases hr:aD f s with
  |none=>rfl
  |some r=>
   obtain⟨n,hn⟩:=SL hr;cases n with
   |zero=>cases hn
   |succ n=>simp only[px,hf] at hn;cases hn
 |some q=>
  cases q with
  |inr r=>exact XL 1 (by simp only[px,hf])
  |inl s'=>
   simp only;cases hr:aD f s' with
   |some r=>obtain⟨n,hn⟩:=SL hr;exact XL (n+1) (by simp only[px,hf];exact hn)
   |none=>
    cases hc:aD f s with
    |none=>rfl
    |some r=>
     obtain⟨n,hn⟩:=SL hc;cases n with
     |zero=>cases hn
     |succ n=>simp only[px,hf] at hn;rw[XL n hn] at hr;cases hr
def cU{σ ρ:Type}{f:σ->Option (σ⊕ρ)}{s s':σ}(h:f s=some (.inl s')):aD f s=aD f s':=by rw[qr5,h]
def bZ{σ ρ:Type}{f:σ->Option (σ⊕ρ)}{s:σ}{r:ρ}(h:f s=some (.inr r)):aD f s=some r:=by rw[qr5,h]
def af{α β:Type}(a:α)(f:α->Option β):az (some a) f=f a:=id (Eq.refl (f a))
def aK{α:Type}(a b:Option α):aP true a b=a:=id (Eq.refl a)
def aI{α:Type}(a b:Option α):aP false a b=b:=id (Eq.refl b)
def qsr{n:Int}(h1:-9223372036854775808<=n)(h2:n<=9223372036854775807):IntKind.i64.wrap n=n:=by simp only[IntKind.wrap,IntKind.bits,IntKind.signed];simp;split<;>omega
def zgj(n:Int):IntKind.u8.wrap n=n % 256:=by rfl
def Ch{a b:Int}(h1:-9223372036854775808<=a+b)(h2:a+b<=9223372036854775807):cE .i64 a b=a+b:=qsr h1 h2
def xH{a b:Int}(h1:-9223372036854775808<=a-b)(h2:a-b<=9223372036854775807):gS .i64 a b=a-b:=qsr h1 h2
def qy7{a:Int}(h1:-9223372036854775808<=a)(h2:a<=9223372036854775807):dV .i64 a=a:=qsr h1 h2
def XM(a:Int):dV .u8 a=a % 256:=zgj a
def mV{n:Int}:gE .i64 n↔-9223372036854775808<=n/\n<=9223372036854775807:=by rfl
def zc3{a:Int}(s:Nat)(hs:s<=64):la .i64 a (s:Int)=some (a / 2 ^ s):=by
 unfold la;rw[if_neg om];have:min (s:Int).toNat IntKind.i64.bits=s:=by show min ((s:Int).toNat) 64=s;simp;omega
 grind
def Mj{a b:Int}(ha:0<=a)(hb:0<b):jK a b=some (a % b):=by
 unfold jK
 grind
def zc4{k:IntKind}{a b:Int}(ha:0<=a)(hb:0<b)(h:gE k a)(h0:k.min<=0):l7 k a b=some (a / b):=by unfold l7;rw[if_neg om,Int.tdiv_eq_ediv_of_nonneg ha];have h1:0<=a / b:=Int.ediv_nonneg ha om;have h2:a / b<=a:=Int.ediv_le_self _ ha;have:gE k (a / b):=⟨by omega,by have:=h.2;omega⟩;congr 1;obtain⟨g1,g2⟩:=this;revert g1 g2;cases k<;>simp only[IntKind.min,IntKind.max,IntKind.wrap,IntKind.signed,IntKind.bits]<;>intro g1 g2<;>simp at g1 g2 ⊢<;>(try split)<;>omega
def bD{α:Type}(a b:Int)(x y:Option α):aP (aL a b) x y=if a<b then x else y:=by unfold aL;by_cases h:a<b<;>simp[h,aP]
def XN{α:Type}(a b:Int)(x y:Option α):aP (bJ a b) x y=if a<=b then x else y:=by unfold bJ;by_cases h:a<=b<;>simp[h,aP]
def gP{α:Type}(a b:Int)(x y:Option α):aP (ag a b) x y=if a=b then x else y:=by
 unfold ag;by_cases h:a=b
 ·subst h;rw[if_pos rfl,beq_self_eq_true];rfl
 ·rw[if_neg h,beq_false_of_ne h];rfl
def zgk{α:Type}(a:Bool)(x y:Option α):aP (ar a) x y=aP a y x:=by cases a<;>rfl
def GB{α:Type}(a b:List Int)(x y:Option α):aP (bM a b) x y=if a=b then x else y:=by
 unfold bM;by_cases h:a=b
 ·subst h;rw[if_pos rfl,beq_self_eq_true];rfl
 ·rw[if_neg h,beq_false_of_ne h];rfl
def GC(a:Int):ag a a=true:=by simp[ag]
def ct{a b:Int}:ag a b=true↔a=b:=by simp[ag]
def eB{a b:Int}(h:a≠b):ag a b=false:=by simp[ag,h]
def GF(a:List Int):bM a a=true:=by simp[bM]
def aU{α:Type}{l:List α}{i:Nat}{x:α}(h:l[i]?=some x):cM l (i:Int)=some x:=by
 unfold cM
 grind
def vX{n:Int}(h:n<=2147483648):fit n=some ():=by unfold fit;rw[if_pos h]
def oJ{H:Type}{enc:TypeId×Value->H}{C:Cx}{W:World}{base:Nat}{laid:List (String×DataW Unit)}(hS:XK C laid){f:FuncId}{fn:Func}{s:ChangeSpec}(Ts:List Ty)(tb:TypeId)(hk:S0 C fn.params.toList Ts=true)(hl:(fn.params.toList.all fun t=>decide (t<C.P.types.size))=true)(hf:fn.resultTypes=#[tb])(hm:C.P.underlying tb=some .bool)(hc:s.vars=[])(he:∀ds:List (DataW H),ds.length=Ts.length->s.fn H ds={results:=[.lit (.bool true)],args:=ds}){args:Array Value}{ds gs:List (DataW H)}{before:List MemPlace}
  (hg:∀(j:Nat) t v,fn.params[j]?=some t->args[j]?=some v->Value.okWide C.P W .any base t v) (hW:DataW.Whole enc C.P fn.params.toList s.vars false W args.toList ds gs before) (hL:laidMetH C.P laid W)
  (hj:∀x:vV Ts,sj Ts x->vW Ts (ds++gs)=some x->xG C ⟨f,⟨Ts.map Sh.d,[]⟩,⟨[Sh.d .bool],[]⟩,[]⟩ x (true,())):
  Calls C.P f args W fun e W'=>∃v,e=.returned v/\s.post enc C.P fn false true false false W args v W':=
 qvg hS Ts tb hk (fun t ht=>by simpa using zL.1 hl t ht) hf hm hc he hg hW hL hj
def Q8:∀s:List Int,strLt s s=false
 |[]=>rfl
 |a::s=>by simp[strLt,Q8 s]
def KK:∀s t u:List Int,strLt s t=true->strLt t u=true->strLt s u=true
 |[],[],_,h,_=>by cases h
 |_::_,[],_,h,_=>by cases h
 |_,_::_,[],_,h=>by cases h
 |[],_::_,_::_,_,_=>rfl
 |a::s,b::t,c::u,h1,h2=>by
  simp only[strLt,Bool.or_eq_true,ze,decide_eq_true_eq] at h1 h2 ⊢;rcases h1 with h1|⟨h1,h3⟩<;>rcases h2 with h2|⟨h2,h4⟩
  ·exact .inl om
  ·exact .inl om
  ·exact .inl om
  ·exact .inr ⟨by omega,KK s t u h3 h4⟩
def KL:∀s t:List Int,strLt s t=false->strLt t s=false->s=t
 |[],[],_,_=>rfl
 |[],_::_,h,_=>by cases h
 |_::_,[],_,h=>by cases h
 |a::s,b::t,h1,h2=>by
  simp only[strLt,Bool.or_eq_false_iff,Bool.and_eq_false_iff,decide_eq_false_iff_not] at h1 h2;obtain⟨h1,h3⟩:=h1;obtain⟨h2,h4⟩:=h2;have e:a=b:=om
  subst e;rw[KL s t (h3.resolve_left fun h=>h rfl) (h4.resolve_left fun h=>h rfl)]
end Ev
namespace Ev
def yZ(l:List Int):Bool:=l.all (fun b=>decide (0<=b/\b<=255))&&decide (l.length<=9223372036854775807)
def z7l{l:List Int}(h:yZ l=true):(∀b,b∈l->0<=b/\b<=255)/\l.length<=9223372036854775807:=by
 unfold yZ at h
 grind
end Ev

namespace Ev
open Go
def Q9(f:Nat):lr:=⟨f,⟨[.d (.sl (.int .i64)),.d (.int .i64)],[]⟩,⟨[.aY 0],[.vec (.int .i64)]⟩,[]⟩
def oy:Nat->Obj:=fun _=>.none
def zc5{C:Cx}{f:Nat}(hl:∃fn,C.P.funcs[f]?=some fn/\fn.body.isNone=false)(h0:∀w,Calls C.P f #[.slice none 0 0,.int .i64 0] w fun e w'=>e=.returned (.slice none 0 0)/\w'=w)(h1:∀(n:Nat) w,0<n->n<=1000000->Calls C.P f #[.slice none 0 0,.int .i64 n] w fun e w'=>∃cap el cs,e=.returned (.slice (some ⟨w.heap.size,0,none⟩) 0 cap)/\w'=w.drew.alloc (.cells cs el)/\cap<=cs.size)(n:Nat)(hn:n<=1000000):xG C (Q9 f) (⟨true,[]⟩,(n:Int),()) (⟨decide (n=0),[]⟩,()):=by
 intro X φ w zs hm hz;have hm:MRel C X φ oy w:=hm;have hz:ck φ oy (aj X φ oy w) w [.d (.sl (.int .i64)) (⟨true,[]⟩:Sl Int),.d (.int .i64) (n:Int)] zs:=hz;refine⟨hl,?_⟩;obtain⟨z0,r0,rfl,g1,z1,r1,rfl,g2,g3⟩:=hz;have g3:r1=[]:=g3;subst g3;obtain⟨rfl,_⟩:=oH g2;obtain⟨_,g1⟩:=Kx g1;obtain rfl:z0=.slice none 0 0:=by grind
 have fin:∀(s:Sl Int) (val:Value) (φ':Nat->Addr) (w':World),Comes C X φ φ' oy [(0,.vec (.int .i64) 0 false s)] w w' (.aY 0 0) val->
   ∃dS φ' X',Ending.returned val=.returned (Cd dS)/\(∀b,X b->X' b)/\MRel C X' φ' (ba (Q9 f).outs (s,())) w'/\
    ck φ' (ba (Q9 f).outs (s,())) (aj X' φ' (ba (Q9 f).outs (s,())) w') w' (fill cJ cd (Q9 f).outs (s,())).1 dS/\dC [] φ oy w φ' (ba (Q9 f).outs (s,())) w':=by
  intro s val φ' w' hc;exact⟨[val],φ',X,rfl,fun _ h=>h,hc.mem,⟨val,[],rfl,hc.val,rfl⟩,(dC.refl [] φ oy w).step hc⟩
 by_cases h:n=0
 ·subst h;refine Calls.mono (h0 w) fun e w' ⟨e1,e2⟩=>?_;subst e1 e2;have hd:decide (0=0)=true:=rfl;rw[hd];refine fin ⟨true,[]⟩ _ φ w' ?_;refine Comes.fh hm (fun p hp=>?_) (fun hk=>?_)
  ·rw[zM.1 hp];exact⟨⟨.int .i64,rfl⟩,rfl⟩
  ·exact⟨Nat.le_refl _,fun _=>.inl ⟨rfl,rfl⟩⟩
 ·refine Calls.mono (h1 n w om hn) fun e w' ⟨cap,el,cs,e1,e2,e3⟩=>?_;subst e1;have hd:decide (n=0)=false:=zo h;rw[hd];refine fin ⟨false,[]⟩ _ (cy φ 0 ⟨w.heap.size,0,none⟩) w' ?_;have hg:w'.heap=w.heap.push (.cells cs el):=by rw[e2];rfl
  have hf:w'.heap[w.heap.size]?=some (.cells cs el):=by rw[hg];simp
  have he:∀m,m<=cs.size->room w' ⟨w.heap.size,0,none⟩ m:=fun m hm=>⟨cs,el,0,0,hf,by simpa using hm,.inl (Nat.le_refl _)⟩;refine Comes.fresh hm (B:=.cells cs el) hg (.vec (.int .i64) 0 false (⟨false,[]⟩:Sl Int)) (ns:=[]) (fun p hp=>by cases hp) (fun _=>trivial) (fun _ _ _=>?_) (fun h _=>by cases h) (fun h3=>?_) (by rw[e2];exact⟨rfl,rfl⟩)
  ·refine⟨Nat.zero_le _,fun h=>(by cases h),fun _=>.inl ?_⟩;rw[eQ];refine⟨rfl,[],rfl,fun j hj=>by simp at hj,he 0 (Nat.zero_le _),fun _=>he _ (by show 0*1<=_;omega),fun h=>by cases h⟩
  ·unfold ay;rw[h3,eQ];refine⟨Nat.le_refl _,fun _=>.inr ⟨rfl,cap,rfl,Nat.zero_le _,fun h=>(by cases h),fun _ _=>he _ (by show cap*1<=_;omega)⟩⟩
def qy(c:Int):List Int->Int
 |[]=>-1
 |b::r=>if b=c then 0 else if qy c r<0 then -1 else qy c r+1
def z7m(c:Int):∀l,-1<=qy c l/\qy c l<=l.length
 |[]=>⟨Int.le_refl _,(by show(-1:Int)<=0;decide)⟩
 |b::r=>by
  have:=z7m c r;unfold qy
  grind
def qvh(c:UInt8):∀l:List UInt8,Lib.indexByte l c=qy (c.toNat:Int) (l.map fun b=>(b.toNat:Int))
 |[]=>rfl
 |b::r=>by
  have ih:=qvh c r;have hg:=z7m (c.toNat:Int) (r.map fun b=>(b.toNat:Int));rw[zN];unfold Lib.indexByte qy;rw[ih];by_cases h:b=c
  ·subst h;simp
  ·have h1:(b==c)=false:=by simpa using h
   have h2:¬(b.toNat:Int)=(c.toNat:Int):=fun e=>h (UInt8.toNat_inj.1 om)
   grind
def zkg(f:Nat):lr:=⟨f,⟨[.d .str,.d (.int .u8)],[]⟩,⟨[.d (.int .i64)],[]⟩,[]⟩
def zis{C:Cx}{f:Nat}(he:∃fn,C.P.funcs[f]?=some fn/\fn.body.isNone=false)(h0:∀(s:ByteArray) (c:Int) w,Calls C.P f #[.string s,.int .u8 c] w fun e w'=>e=.returned (.int .i64 (Lib.indexByte s.data.toList c.toNat.toUInt8))/\w'=w)(l:List Int)(c:Int):xG C (zkg f) (l,c,()) (qy c l,()):=by
 intro X φ w zs hm hz;have hm:MRel C X φ oy w:=hm;have hz:ck φ oy (aj X φ oy w) w [.d .str l,.d (.int .u8) c] zs:=hz;refine⟨he,?_⟩;obtain⟨z0,r0,rfl,g1,z1,r1,rfl,g2,g3⟩:=hz;have g3:r1=[]:=g3;subst g3;obtain⟨s,rfl,hs,hl⟩:=rZ g1;obtain⟨rfl,hc⟩:=oH g2;refine Calls.mono (h0 s c w) fun e w' ⟨e1,e2⟩=>?_;subst e1 e2;have hj:0<=c/\c<=255:=hc;have ec:((c.toNat.toUInt8).toNat:Int)=c:=by have:(c.toNat.toUInt8).toNat=c.toNat % 256:=rfl;rw[this];omega
 have hv:Lib.indexByte s.data.toList c.toNat.toUInt8=qy c l:=by rw[qvh,ec,hs]
 have hg:=z7m c l;have hf:l.length=s.size:=by rw[<-hs];simp
 unfold cv at hl;rw[hv];refine⟨[.int .i64 (qy c l)],φ,X,rfl,fun _ h=>h,hm,⟨_,[],rfl,nf ?_,rfl⟩,dC.refl _ _ _ _⟩;show(-9223372036854775808:Int)<=_/\_<=(9223372036854775807:Int);omega
end Ev
namespace Ev
abbrev ak:=List Int×Int×Int
def y0(x:ak):Bool:=x.1.all (fun b=>decide (0<=b/\b<=255))&&decide (x.1.length<=9223372036854775807)&&decide (-9223372036854775808<=x.2.1/\x.2.1<=9223372036854775807)&&decide (-9223372036854775808<=x.2.2/\x.2.2<=9223372036854775807)
def qot{x:ak}(h:y0 x=true):(∀b,b∈x.1->0<=b/\b<=255)/\x.1.length<=9223372036854775807/\(-9223372036854775808<=x.2.1/\x.2.1<=9223372036854775807)/\(-9223372036854775808<=x.2.2/\x.2.2<=9223372036854775807):=by
 unfold y0 at h
 grind
def fT(x y:ak):Bool:=strLt x.1 y.1
def KM(l:List ak):Bool:=l.all fun x=>l.all fun y=>!decide (x.1=y.1)||decide (x=y)
def z3k{l:List ak}(h:KM l=true){x y:ak}(hx:x∈l)(hy:y∈l)(e:x.1=y.1):x=y:=by
 have:=zL.1 (zL.1 h x hx) y hy
 grind
end Ev

namespace Ev
open Go
def mkC{C:Cx}{k:Nat}{O:jU C.sigs}(b:Lf->jU C.sigs->ai (aQ C.sigs k).ins.aS->Option (ai (aQ C.sigs k).outs.aS)){f:ai (aQ C.sigs k).ins.aS->Option (ai (aQ C.sigs k).outs.aS)}(hO:Q7 C O)(e:∀L R x,QJ L C R k x=b L R x)(o:∀x,b lf O x=f x):aa C k f:=fun x y h=>Call.mk (C:=C) O hO k x y (((e lf O x).trans (o x)).trans h)
def pH{C:Cx}{k:Nat}(b:Lf->jU C.sigs->ai (aQ C.sigs k).ins.aS->Option (ai (aQ C.sigs k).outs.aS)){F:(ai (aQ C.sigs k).ins.aS->Option (ai (aQ C.sigs k).outs.aS))->ai (aQ C.sigs k).ins.aS->Option (ai (aQ C.sigs k).outs.aS)}{O:(ai (aQ C.sigs k).ins.aS->Option (ai (aQ C.sigs k).outs.aS))->jU C.sigs}(hO:∀g,aa C k g->Q7 C (O g))(e:∀L R x,QJ L C R k x=b L R x)(o:∀g x,b lf (O g) x=F g x):aa C k (eN F):=zgi fun g hg x y h=>Call.mk (C:=C) (O g) (hO g hg) k x y (((e lf (O g) x).trans (o g x)).trans h)
end Ev
namespace Ev
def iX:Nat->Nat->List Int
 |0,_=>[]
 |f+1,u=>if u<10 then [48+(u:Int)] else iX f (u / 10)++[48+((u % 10:Nat):Int)]
def sn(n:Int):List Int:=if n<0 then 45::iX 20 n.natAbs else iX 20 n.toNat
def jN:List Int->List Int
 |[]=>[]
 |b::l=>if b=45 then 126::l else b::jN l
def qss:∀l,(jN l).length=l.length
 |[]=>rfl
 |b::l=>by
  unfold jN;split
  ·rfl
  ·rw[zu,zu,qss l]
def qst:∀f u,(iX f u).length<=f
 |0,_=>Nat.le_refl _
 |f+1,u=>by
  unfold iX;split
  ·simp
  ·have:=qst f (u / 10)
   grind
def qou(n:Int):(sn n).length<=21:=by
 unfold sn;split
 ·have:=qst 20 n.natAbs
  grind
 ·have:=qst 20 n.toNat
  omega
end Ev

namespace Ev
open Go Go.RowKit Go.Sort
def z7n{C:Cx}{X:Nat->Prop}{φ:Nat->Addr}{w w':World}(hm:MRel C X φ oy w)(hb:Below w.heap.size w w'){b:ByteArray}{l:List Int}(hl:b.data.toList.map (fun b=>(b.toNat:Int))=l)(hs:b.size<=cv):∃dS φ' X',Ending.returned (.string b)=.returned (Cd dS)/\(∀b,X b->X' b)/\MRel C X' φ' (ba (⟨[.d .str],[]⟩:Shape) (l,())) w'/\ck φ' (ba (⟨[.d .str],[]⟩:Shape) (l,())) (aj X' φ' (ba (⟨[.d .str],[]⟩:Shape) (l,())) w') w' (fill cJ cd (⟨[.d .str],[]⟩:Shape) (l,())).1 dS/\dC [] φ oy w φ' (ba (⟨[.d .str],[]⟩:Shape) (l,())) w':=by
 have hc:Comes C X φ φ oy [] w w' (.d .str l) (.string b):=
  Comes.make hm hb.size (fun b he _=>hb.block b he) (fun _ _=>rfl) (fun _ _ _=>rfl) (fun id h=>absurd h (List.not_mem_nil)) (fun id h=>absurd h (List.not_mem_nil)) (fun i j h=>absurd h (List.not_mem_nil))
   (fun _ _ _ id h=>absurd h (List.not_mem_nil)) (fun id h=>absurd h (List.not_mem_nil)) (fun _ _ _=>LR hl hs) ⟨hb.os,hb.output⟩
 exact⟨[.string b],φ,X,rfl,fun _ h=>h,hc.mem,⟨.string b,[],rfl,hc.val,rfl⟩,(dC.refl [] φ oy w).step hc⟩
def qvj{imm:Nat->Prop}{w:World}{k:IntKind}:∀(l:List Int) (cs:List Value),bR (aE imm w (.int k)) l cs->cs=l.map fun z=>Value.int k z
 |[],cs,h=>h
 |x::l,cs,⟨c,d,e,h1,h2⟩=>by rw[e,qvj l d h2,h1.1];rfl
def zit{C:Cx}{X:Nat->Prop}{φ:Nat->Addr}{o:Nat->Obj}{w:World}(hm:MRel C X φ o w){name:String}{g n:Nat}{k:IntKind}{zs:List Int}(hg:C.P.globalNamed name=some g)(h:C.lu g=some ⟨.arr n (.int k),zs⟩):Lib.TabIs C.P w name k zs:=by
 obtain⟨a,cs,e,_,hi,hr,hc⟩:=hm.fe g _ _ h;injection e with e;injection e with e;subst e;obtain⟨c,el,fz,h1,h2⟩:=hm.QN g _ _ h;have hl:=iQ _ _ _ hr;have he:cs=zs.map fun z=>Value.int k z:=qvj zs cs hr.2;unfold Lib.TabIs World.var?;rw[hg,Option.bind_some,h1];have hf:c.toList=cs:=by
  apply List.ext_getElem
  ·grind
  ·intro i i1 i2;have:=hc i i2;unfold World.cell? at this
   grind
 show some c=_;rw[<-he,<-hf,Array.toArray_toList]
def z0s:∀(f u:Nat),u<10 ^ (f+1)->iX (f+1) u=(Lib.decDigits u).map fun b=>(b.toNat:Int):=by
 intro f
 induction f with
 |zero=>
  intro u h;have h:u<10:=by simpa using h
  unfold iX;rw[Lib.decDigits,if_pos h,dif_pos h];have e:(UInt8.ofNat (48+u)).toNat=48+u:=by rw[UInt8.toNat_ofNat'];omega
  grind
 |succ f ih=>
  intro u h;unfold iX;rw[Lib.decDigits];by_cases hu:u<10
  ·rw[if_pos hu,dif_pos hu];have e:(UInt8.ofNat (48+u)).toNat=48+u:=by rw[UInt8.toNat_ofNat'];omega
   grind
  ·rw[if_neg hu,dif_neg hu,ih (u / 10) (by rw[Nat.pow_succ] at h;omega),zQ];have e:(UInt8.ofNat (48+u % 10)).toNat=48+u % 10:=by rw[UInt8.toNat_ofNat'];omega
   grind
def z0t{n:Int}(h0:-9223372036854775808<=n)(h1:n<=9223372036854775807):(Lib.itoa n).map (fun b=>(b.toNat:Int))=sn n:=by
 have hp:(10:Nat) ^ (19+1)=100000000000000000000:=dc
 unfold Lib.itoa sn;by_cases h:n<0
 ·rw[if_pos h,if_pos h,z0s 19 _ (by rw[hp];omega)];rfl
 ·rw[if_neg h,if_neg h,z0s 19 _ (by rw[hp];omega)]
def ziu(f:Nat):lr:=⟨f,⟨[.d (.int .i64),.d (.int .i64)],[]⟩,⟨[.d .str],[]⟩,[]⟩
def zgl{C:Cx}{f:Nat}(he:∃fn,C.P.funcs[f]?=some fn/\fn.body.isNone=false){nmS : String} {g m:Nat}{zs:List Int}(hg:C.P.globalNamed nmS=some g)(ht:C.lu g=some ⟨.arr m (.int .u64),zs⟩)(h0:∀(n:Int),-9223372036854775808<=n->n<=9223372036854775807->∀w,Lib.TabIs C.P w nmS .u64 zs->Calls C.P f #[.int .i64 n,.int .i64 10] w fun e w'=>e=.returned (.string ⟨(Lib.itoa n).toArray⟩)/\∃k os,w'=grow (w.drewN k) os)(n:Int)(hn:-9223372036854775808<=n)(hc:n<=9223372036854775807):xG C (ziu f) (n,(10:Int),()) (sn n,()):=by
 intro X φ w S3 hm hz;have hm:MRel C X φ oy w:=hm;have hz:ck φ oy (aj X φ oy w) w [.d (.int .i64) n,.d (.int .i64) (10:Int)] S3:=hz;refine⟨he,?_⟩;obtain⟨z0,r0,rfl,g1,z1,r1,rfl,g2,g3⟩:=hz;have g3:r1=[]:=g3;subst g3;obtain⟨rfl,_⟩:=oH g1;obtain⟨rfl,_⟩:=oH g2;refine Calls.mono (h0 n hn hc w (zit hm hg ht)) fun e w' ⟨e1,k,os,e2⟩=>?_;subst e1 e2;refine z7n (w':=grow (w.drewN k) os) hm (b:=⟨(Lib.itoa n).toArray⟩) ⟨rfl,rfl,rfl,?_,fun i hi=>?_⟩ ?_ ?_
 ·simp_all
 ·show(w.heap++os)[i]?=_
  grind
 ·exact z0t hn hc
 ·have:=congrArg List.length (z0t hn hc);rw[zG] at this;have h2:=qou n;show(Lib.itoa n).toArray.size<=cv;unfold cv;simp only[List.size_toArray];omega
def ziv(f:Nat):lr:=⟨f,⟨[.d .str,.d .str,.d .str,.d (.int .i64)],[]⟩,⟨[.d .str],[]⟩,[]⟩
def vz:List UInt8->List UInt8
 |[]=>[]
 |b::l=>if b=45 then 126::l else b::vz l
def qsu:∀l:List UInt8,(vz l).map (fun b=>(b.toNat:Int))=jN (l.map fun b=>(b.toNat:Int))
 |[]=>rfl
 |b::l=>by
  unfold vz;rw[zN];unfold jN;by_cases h:b=45
  ·subst h;rfl
  ·have hb:(b.toNat:Int)≠45:=fun e=>h (UInt8.toNat_inj.1 (by
    have:(45:UInt8).toNat=45:=rfl;omega))
   rw[if_neg h,if_neg hb,zN,qsu l]
def zgm{C:Cx}{f:Nat}(hc:∃fn,C.P.funcs[f]?=some fn/\fn.body.isNone=false)(h0:∀(s:ByteArray) w,s.size<=1000->Calls C.P f #[.string s,.string ⟨#[45]⟩,.string ⟨#[126]⟩,.int .i64 1] w fun e w'=>e=.returned (.string ⟨(vz s.data.toList).toArray⟩)/\Below w.heap.size w w')(l:List Int)(hl:l.length<=1000):xG C (ziv f) (l,[45],[126],(1:Int),()) (jN l,()):=by
 intro X φ w S3 hm hz;have hm:MRel C X φ oy w:=hm;have hz:ck φ oy (aj X φ oy w) w [.d .str l,.d .str ([45]:List Int),.d .str ([126]:List Int),.d (.int .i64) (1:Int)] S3:=hz;refine⟨hc,?_⟩;obtain⟨z0,r0,rfl,g1,z1,r1,rfl,g2,z2,r2,rfl,g3,z3,r3,rfl,g4,g5⟩:=hz;have g5:r3=[]:=g5;subst g5;have one:∀{s:ByteArray} {c:UInt8},s.data.toList.map (fun b=>(b.toNat:Int))=[(c.toNat:Int)]->s=⟨#[c]⟩:=by
  intro s c h;obtain⟨⟨d⟩⟩:=s
  match d with
  |[]=>exact absurd (congrArg List.length h) (by simp)
  |[b]=>have h:[(b.toNat:Int)]=[(c.toNat:Int)]:=h;injection h with h _;have e:b=c:=UInt8.toNat_inj.1 om;rw[e]
  |_::_::_=>exact absurd (congrArg List.length h) (by simp)
 obtain⟨s,rfl,hs,hj⟩:=rZ g1;obtain⟨s1,rfl,he,_⟩:=rZ g2;obtain⟨s2,rfl,hf,_⟩:=rZ g3;obtain⟨rfl,_⟩:=oH g4;obtain rfl:=one (c:=45) he;obtain rfl:=one (c:=126) hf;have hg:s.size<=1000:=by
  have:=congrArg List.length hs;rw[zG] at this
  simp_all
 refine Calls.mono (h0 s w hg) fun e w' ⟨e1,e2⟩=>?_;subst e1;refine z7n hm (b:=⟨(vz s.data.toList).toArray⟩) e2 ?_ ?_
 ·show(vz s.data.toList).map _=_;rw[qsu,hs]
 ·have:=congrArg List.length (qsu s.data.toList);rw[zG,qss,hs] at this;show(vz s.data.toList).toArray.size<=cv;unfold cv
  grind
end Ev