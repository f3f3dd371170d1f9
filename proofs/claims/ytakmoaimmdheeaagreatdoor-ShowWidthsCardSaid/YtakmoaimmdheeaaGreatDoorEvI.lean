/- From what a row reads to data; calls as functions; numbers. No statement of its own about the program. -/
import Derived.Test.YtakmoaimmdheeaaGreatDoorEvH
import Derived.ChangeArms
import Derived.OpenShut
import Derived.ChangeSame
import Derived.ReadAgain
import Derived.ChangeStays
import Derived.WideShapes
import Derived.RowKit2
import Derived.Lib.Bytealg
import Derived.Lib.LaidTab
import Derived.Below
import Derived.Deep.Draws
import Derived.Sort.Grow
import Derived.Lib.ItoaNum
namespace Ev
open Go
def qlp{α β:Type}(f:α->Option β):List α->Option (List β)
 |[]=>some []
 |x::r=>match f x with
  |some y=>match qlp f r with
   |some l=>some (y::l)
   |none=>none
  |none=>none
def dat{H:Type}:(T:Ty)->List (DataW H)->Option (den T)
 |.unit,l=>match l with
  |[]=>some ()
  |_=>none
 |.pair a b,l=>match l with
  |d::r=>match dat a [d] with
   |some x=>match dat b r with
    |some y=>some (x,y)
    |none=>none
   |none=>none
  |[]=>none
 |.st p,l=>match l with
  |[.agg ps]=>dat p ps
  |_=>none
 |.int k,l=>match l with
  |[.lit (.int k' n)]=>if k'=k then some n else none
  |_=>none
 |.bool,l=>match l with
  |[.lit (.bool b)]=>some b
  |_=>none
 |.str,l=>match l with
  |[.lit (.string s)]=>some (s.map fun b=>(b.toNat:Int))
  |_=>none
 |.arr n e,l=>match l with
  |[.agg ps]=>match qlp (fun d=>dat e [d]) ps with
   |some l=>if l.length=n then some l else none
   |none=>none
  |_=>none
 |.sl e,l=>match l with
  |[.nil]=>some (⟨true,[]⟩:Sl (den e))
  |[.slice es _]=>match qlp (fun d=>dat e [d]) es with
   |some l=>some (⟨false,l⟩:Sl (den e))
   |none=>none
  |_=>none
 |.ks _,_=>none
 |.flt,_=>none
 |.cpx,_=>none
def noKs:Ty->Bool
 |.ks _=>false
 |.flt=>false
 |.cpx=>false
 |.pair a b=>noKs a&&noKs b
 |.st p=>noKs p
 |.arr _ e=>noKs e
 |.sl e=>noKs e
 |_=>true
theorem qv0:∀{T:Ty},noKs T=true->qkg T=T
 |.ks _,h=>by cases h
 |.flt,h=>by cases h
 |.cpx,h=>by cases h
 |.int _,_=>rfl
 |.bool,_=>rfl
 |.str,_=>rfl
 |.sl _,_=>rfl
 |.unit,_=>rfl
 |.pair _ _,_=>rfl
 |.st _,_=>rfl
 |.arr _ _,_=>rfl
theorem TyOk.lt{C:Cx}{t:TypeId}{T:Ty}(h:TyOk C t T):t<C.P.types.size:=by obtain⟨i,_,_,h2,_⟩:=h.info;have:=(zG.1 h2).1;simpa using this
theorem qyv{W:World}{a:Addr}{v:Value}(h:W.cell? a=some v):a.block<W.heap.size:=by
 unfold World.cell? at h;rcases Nat.lt_or_ge a.block W.heap.size with h'|h'
 ·exact h'
 ·rw[zV h'] at h;cases h
theorem q5z{C:Cx}{t:TypeId}{T:Ty}(h:TyOk C t T):C.P.cellsOf t=csz T:=by obtain⟨i,z,h1,_,h2,_⟩:=h.info;unfold Program.cellsOf;rw[h1];exact h2
section
variable {H:Type} {enc:TypeId×Value→H} {C:Cx} {W:World} {base:Nat} {spare:Nat→Bool} {held:Bool} {imm:Nat→Prop}
def q80(C:Cx)(enc:TypeId×Value->H)(W:World)(base:Nat)(spare:Nat->Bool)(held:Bool)(imm:Nat->Prop)(T:Ty):Prop:=∀t fuel cs y,C.ty t=some T->DataW.trod enc C.P W base spare held fuel t cs=some y->∃x,relC imm W T x cs/\dat T [y.1]=some x
theorem qpo{e:Ty}:∀(n:Nat) (xs:List (DataW H×List MemPlace)) (f:Nat->List Value),xs.length=n->(∀i y,xs[i]?=some y->∃x,relC imm W e x (f i)/\dat e [y.1]=some x)->∃l:List (den e),l.length=n/\relR (relC imm W e) l ((List.range n).flatMap f)/\qlp (fun d=>dat e [d]) (xs.map (·.1))=some l:=by
 intro n
 induction n with
 |zero=>intro xs f hl _;have:xs=[]:=zL hl;subst this;exact⟨[],rfl,rfl,rfl⟩
 |succ n ih=>
  intro xs f hl h;cases xs with
  |nil=>cases hl
  |cons y xs=>
   obtain⟨x,h1,h2⟩:=h 0 y rfl;obtain⟨l,g1,g2,g3⟩:=ih xs (fun i=>f (i+1)) (by simpa using hl) (fun i z hz=>h (i+1) z (by simpa using hz));refine⟨x::l,by simp[g1],?_,?_⟩
   ·rw[List.range_succ_eq_map,List.flatMap_cons,List.flatMap_map];exact⟨_,_,rfl,h1,g2⟩
   ·simp only[zI,qlp,h2,g3]
theorem qv1{k:Nat}:∀(n:Nat) (cs:List Value),cs.length=n*k->(List.range n).flatMap (fun i=>(cs.drop (i*k)).take k)=cs:=by
 intro n
 induction n with
 |zero=>intro cs h;simp at h;subst h;rfl
 |succ n ih=>
  intro cs h;rw[List.range_succ_eq_map,List.flatMap_cons,List.flatMap_map];have h1:∀i,(cs.drop ((i+1)*k)).take k=((cs.drop k).drop (i*k)).take k:=fun i=>by rw[List.drop_drop];congr 2;rw[Nat.succ_mul];omega
  simp only[Nat.succ_eq_add_one,h1];rw[ih (cs.drop k) (by rw[zR,h,Nat.succ_mul];omega)];simp
theorem qv2(hC:CxOk C)(hB:∀b,spare b=true)(ht:∀b,b<W.heap.size->imm b)(hx:∀t e,t<C.P.types.size->C.P.underlying t=some (.slice e)->0<C.P.cellsOf e)(T:Ty):noKs T=true->q80 C enc W base spare held imm T/\(∀(fs:List Field) (off:Nat) (n:Nat) (cs:List Value) (xs:List (DataW H×List MemPlace)),q3t C fs T off=true->off+csz T<=cs.length->xs.length=fs.length->(∀(i:Nat) (f:Field),fs[i]?=some f->DataW.trod enc C.P W base spare held n f.type ((cs.drop f.offset).take (C.P.cellsOf f.type))=xs[i]?)->∃x,relC imm W T x ((cs.drop off).take (csz T))/\dat T (xs.map (·.1))=some x):=by
 have one:∀(T:Ty),noKs T=true->q80 C enc W base spare held imm T->∀(f:Field) (off:Nat) (n:Nat) (cs:List Value) (xs:List (DataW H×List MemPlace)),q3t C [f] T off=true->off+csz T<=cs.length->
   xs.length=1->(∀(i:Nat) (f':Field),[f][i]?=some f'->DataW.trod enc C.P W base spare held n f'.type ((cs.drop f'.offset).take (C.P.cellsOf f'.type))=xs[i]?)->
   ∃x,relC imm W T x ((cs.drop off).take (csz T))/\dat T (xs.map (·.1))=some x:=by
  intro T hk hT f off n cs xs hf _ hl h;have hf:(C.is f.type (qkg T)&&Nat.beq f.offset off)=true:=by cases T<;>exact hf
  rw[qv0 hk,zd] at hf;obtain⟨y,rfl⟩:∃y,xs=[y]:=by
   match xs,hl with
   |[y],_=>exact⟨y,rfl⟩
  have he:=is_spec hf.1;have hz:=zf hf.2;have h0:=h 0 f rfl;rw[q5z (hC.tab _ _ he),hz] at h0;obtain⟨x,h1,h2⟩:=hT _ _ _ _ he h0;exact⟨x,h1,h2⟩
 have chain1:∀(T:Ty),noKs T=true->(∀a b,T≠.pair a b)->T≠.unit->q80 C enc W base spare held imm T->(∀(fs:List Field) (off:Nat) (n:Nat) (cs:List Value) (xs:List (DataW H×List MemPlace)),q3t C fs T off=true->off+csz T<=cs.length->xs.length=fs.length->
   (∀(i:Nat) (f:Field),fs[i]?=some f->DataW.trod enc C.P W base spare held n f.type ((cs.drop f.offset).take (C.P.cellsOf f.type))=xs[i]?)->
   ∃x,relC imm W T x ((cs.drop off).take (csz T))/\dat T (xs.map (·.1))=some x):=by
  intro T hk hp hu hT fs off n cs xs hf hg hl h;cases fs with
  |nil=>cases T<;>first|exact absurd rfl hu|cases hf
  |cons f fs=>
   cases fs with
   |nil=>exact one T hk hT f off n cs xs hf hg hl h
   |cons g r=>cases T<;>first|exact absurd rfl (hp _ _)|cases hf
 induction T with
 |int k=>
  intro hk;have hT:q80 C enc W base spare held imm (.int k):=by
   intro t fuel cs y he h;obtain⟨d,h1,h2,h3⟩:=(hC.tab _ _ he).desc;cases d<;>simp only[q6v] at h3<;>try (cases h3;done)
   have:=q8k h3;subst this;obtain⟨n,rfl,rfl,hw⟩:=DataW.trod_int h2 h;refine⟨n,⟨rfl,?_⟩,by simp[dat]⟩;simpa[Lit.wf,inK] using hw
  exact⟨hT,chain1 _ hk (fun _ _ h=>by cases h) (fun h=>by cases h) hT⟩
 |flt=>intro hk;cases hk
 |cpx=>intro hk;cases hk
 |bool=>
  intro hk;have hT:q80 C enc W base spare held imm .bool:=by
   intro t fuel cs y he h;obtain⟨d,h1,h2,h3⟩:=(hC.tab _ _ he).desc;cases d<;>simp only[q6v] at h3<;>try (cases h3;done)
   obtain⟨n,rfl,rfl⟩:=DataW.trod_bool h2 h;exact⟨n,rfl,rfl⟩
  exact⟨hT,chain1 _ hk (fun _ _ h=>by cases h) (fun h=>by cases h) hT⟩
 |str=>
  intro hk;have hT:q80 C enc W base spare held imm .str:=by
   intro t fuel cs y he h;obtain⟨d,h1,h2,h3⟩:=(hC.tab _ _ he).desc;cases d<;>simp only[q6v] at h3<;>try (cases h3;done)
   obtain⟨s,rfl,rfl,hs⟩:=DataW.trod_string h2 h;exact⟨_,⟨s,rfl,rfl,hs⟩,rfl⟩
  exact⟨hT,chain1 _ hk (fun _ _ h=>by cases h) (fun h=>by cases h) hT⟩
 |unit=>
  intro _;refine⟨?_,?_⟩
  ·intro t fuel cs y he h;obtain⟨d,h1,h2,h3⟩:=(hC.tab _ _ he).desc;cases d<;>simp only[q6v] at h3<;>first|(cases h3;done)|(rename_i k;cases k<;>cases h3)
  ·intro fs off n cs xs hf _ hl _;cases fs with
   |nil=>have:xs=[]:=zL hl;subst this;exact⟨(),by simp[csz,relC],rfl⟩
   |cons f r=>
    cases r with
    |nil=>simp only[q3t,zd] at hf;have he:=is_spec hf.1;obtain⟨d,h1,h2,h3⟩:=(hC.tab _ _ he).desc;cases d<;>simp only[q6v] at h3<;>first|(cases h3;done)|(rename_i k;cases k<;>cases h3)
    |cons g r=>cases hf
 |st p ih=>
  intro hk;replace ih:=ih hk;have hT:q80 C enc W base spare held imm (.st p):=by
   intro t fuel cs y he h;have hn:=hC.tab _ _ he;obtain⟨d,h1,h2,h3⟩:=hn.desc;cases d<;>simp only[q6v] at h3<;>try (cases h3;done)
   rename_i fs;obtain⟨xs,n,rfl,rfl,hl,hg,hf⟩:=DataW.trod_struct h2 h;rw[q5z hn] at hl;have hl:cs.length=csz p:=hl;obtain⟨x,g1,g2⟩:=ih.2 fs.toList 0 n cs xs h3 (by omega) (by simpa using hg) (fun i f hi=>hf i f (by rw[<-zH];exact hi));rw[List.drop_zero,zX (by omega)] at g1;exact⟨x,g1,g2⟩
  exact⟨hT,chain1 _ hk (fun _ _ h=>by cases h) (fun h=>by cases h) hT⟩
 |pair a b iha ihb=>
  intro hk;simp only[noKs,zd] at hk;replace iha:=iha hk.1;replace ihb:=ihb hk.2;refine⟨?_,?_⟩
  ·intro t fuel cs y he h;obtain⟨d,h1,h2,h3⟩:=(hC.tab _ _ he).desc;cases d<;>simp only[q6v] at h3<;>first|(cases h3;done)|(rename_i k;cases k<;>cases h3)
  ·intro fs off n cs xs hf hg hl h;cases fs with
   |nil=>cases hf
   |cons f r=>
    cases r with
    |nil=>simp only[q3t,zd] at hf;have he:=is_spec hf.1;obtain⟨d,h1,h2,h3⟩:=(hC.tab _ _ he).desc;cases d<;>simp only[q6v] at h3<;>first|(cases h3;done)|(rename_i k;cases k<;>cases h3)
    |cons g r=>
     simp only[q3t,zd] at hf;cases xs with
     |nil=>cases hl
     |cons y xs=>
      simp only[csz] at hg;have he:=is_spec hf.1.1;have hz:=zf hf.1.2;have h0:=h 0 f rfl;rw[q5z (hC.tab _ _ he),hz] at h0;obtain⟨x1,g1,g2⟩:=iha.1 _ _ _ _ he h0;obtain⟨x2,g3,g4⟩:=ihb.2 (g::r) (off+csz a) n cs xs hf.2 (by omega) (by simpa using hl) (fun i f' hi=>h (i+1) f' (by simpa using hi));refine⟨(x1,x2),⟨_,_,?_,g1,g3⟩,?_⟩
      ·show(cs.drop off).take (csz a+csz b)=_;rw[List.take_add,List.drop_drop]
      ·simp only[zI,dat,g2,g4]
 |arr n e ih=>
  intro hk;replace ih:=ih hk;have hT:q80 C enc W base spare held imm (.arr n e):=by
   intro t fuel cs y he h;have hn:=hC.tab _ _ he;obtain⟨d,h1,h2,h3⟩:=hn.desc;cases d<;>simp only[q6v] at h3<;>try (cases h3;done)
   rename_i m te;rw[zd] at h3;have:=zf h3.1;subst this;have ho:=is_spec h3.2;obtain⟨xs,k,rfl,rfl,hl,hg,hf⟩:=DataW.trod_array h2 h;rw[q5z hn] at hl;have hl:cs.length=m*csz e:=hl;rw[q5z (hC.tab _ _ ho)] at hf;obtain⟨l,g1,g2,g3⟩:=qpo (imm:=imm) (W:=W) (e:=e) m xs (fun i=>(cs.drop (i*csz e)).take (csz e)) hg (fun i y hy=>by
    have hi:i<m:=by
     rcases Nat.lt_or_ge i m with h|h
     ·exact h
     ·rw[jf (by omega)] at hy;cases hy
    have:=hf i hi;rw[hy] at this;exact ih.1 _ _ _ _ ho this)
   rw[qv1 m cs hl] at g2;refine⟨l,⟨g1,g2⟩,?_⟩;simp only[dat,g3,g1,if_true]
  exact⟨hT,chain1 _ hk (fun _ _ h=>by cases h) (fun h=>by cases h) hT⟩
 |ks q _=>intro hk;cases hk
 |sl e ih=>
  intro hk;replace ih:=ih hk;have hT:q80 C enc W base spare held imm (.sl e):=by
   intro t fuel cs y he h;have hn:=hC.tab _ _ he;obtain⟨d,h1,h2,h3⟩:=hn.desc;cases d<;>simp only[q6v] at h3<;>try (cases h3;done)
   rename_i te;have ho:=is_spec h3;rcases DataW.trod_slice h2 h with ⟨rfl,rfl⟩|⟨a,len,cap,elems,rest,n,rfl,rfl,rfl,hb,hJ,hK,hg,hf,hr,_⟩
   ·exact⟨⟨true,[]⟩,⟨_,rfl,Nat.zero_le _,.inl ⟨rfl,rfl,rfl⟩⟩,rfl⟩
   ·have hD:=hx t te hn.lt h2;have first:cap≠0->∃v,W.cell? a=some v:=by
     intro hc;have hE:∃y,(W.cells? base (a.add (0*C.P.cellsOf te)) (C.P.cellsOf te)).bind (DataW.trod enc C.P W base spare held n te)=some y:=by
      by_cases h0:len=0
      ·obtain⟨r1,r2⟩:=hr (hB _);have:=r2 0 (by omega);rw[h0,Nat.add_zero,zj (by omega)] at this;exact⟨_,this⟩
      ·have:=hf 0 (by omega);rw[zj (by omega)] at this;exact⟨_,this⟩
     obtain⟨y,hy⟩:=hE;obtain⟨ci,h5,_⟩:=zT.1 hy;obtain⟨_,h6,h7⟩:=World.cells?_some h5;have h8:=h7 0 hD;rw[zj (by omega),Nat.zero_mul,show(a.add 0).add 0=a from rfl] at h8;exact⟨_,h8⟩
    have hs:cap≠0->a.spot=none:=fun hc=>by
     obtain⟨v,hv⟩:=first hc
     exact World.cell?_spot hv
    have hi:len≠0->imm a.block:=fun h0=>by
     obtain⟨v,hv⟩:=first (by omega)
     exact ht _ (qyv hv)
    rw[q5z (hC.tab _ _ ho)] at hf;have cellsEx:∀i,i<len->∃ci,W.cells? base (a.add (i*csz e)) (csz e)=some ci/\DataW.trod enc C.P W base spare held n te ci=elems[i]?:=fun i hi=>by have:=hf i hi;rw[zj (by omega)] at this;obtain⟨ci,h1,h2⟩:=zT.1 this;exact⟨ci,h1,by rw[h2,zj (by omega)]⟩
    let f:Nat->List Value:=fun i=>(W.cells? base (a.add (i*csz e)) (csz e)).getD [];obtain⟨l,g1,g2,g3⟩:=qpo (imm:=imm) (W:=W) (e:=e) len elems f hg (fun i y hy=>by
     have hi:i<len:=by
      rcases Nat.lt_or_ge i len with h|h
      ·exact h
      ·rw[jf (by omega)] at hy;cases hy
     obtain⟨ci,h1,h2⟩:=cellsEx i hi;rw[hy] at h2;show ∃x,relC imm W e x ((W.cells? base (a.add (i*csz e)) (csz e)).getD [])/\_;rw[h1,Option.getD_some];exact ih.1 _ _ _ _ ho h2)
    have hF:∀i,i<len->(f i).length=csz e/\∀j (hj:j<(f i).length),W.cell? ⟨a.block,a.off+i*csz e+j,none⟩=some (f i)[j]:=fun i hi=>by
     obtain⟨ci,h1,_⟩:=cellsEx i hi;have hG:f i=ci:=by show(W.cells? base (a.add (i*csz e)) (csz e)).getD []=ci;rw[h1];rfl
     obtain⟨_,h4,h5⟩:=World.cells?_some h1;rw[hG];refine⟨h4,fun j hj=>?_⟩;have:=h5 j (by omega);rw[zj hj] at this;rw[<-this];have:(a.add (i*csz e)).add j=⟨a.block,a.off+i*csz e+j,none⟩:=by
      obtain⟨ab,ao,as⟩:=a;have hs:as=none:=hs (by omega);subst hs;simp only[Addr.add];by_cases h0:i*csz e=0
      ·by_cases hq:j=0
       ·simp[h0,hq]
       ·simp[h0,hq]
      ·by_cases hq:j=0
       ·simp[h0,hq]
       ·simp[h0,hq]
     rw[this]
    have hH:q1h W a ((List.range len).flatMap f):=by
     clear g2 g3 h hf;have key:∀m,m<=len->q1h W a ((List.range m).flatMap f)/\((List.range m).flatMap f).length=m*csz e:=by
      intro m
      induction m with
      |zero=>intro _;exact⟨fun j hj=>by simp at hj,by simp⟩
      |succ m ihm=>
       intro hm;obtain⟨k1,k2⟩:=ihm (by omega);obtain⟨k3,k4⟩:=hF m (by omega);rw[List.range_succ,List.flatMap_append,List.flatMap_singleton];refine⟨fun j hj=>?_,by rw[zh,k2,k3,Nat.succ_mul]⟩;by_cases hA:j<((List.range m).flatMap f).length
       ·rw[List.getElem_append_left hA];exact k1 j hA
       ·rw[List.getElem_append_right (by omega)];have hI:j-((List.range m).flatMap f).length<(f m).length:=by rw[zh] at hj;omega
        have:=k4 _ hI;rw[<-this];congr 2;omega
     exact(key len (Nat.le_refl _)).1
    refine⟨⟨false,l⟩,⟨_,rfl,?_,.inr ⟨rfl,a,cap,_,?_,hs,fun h=>hi fun h0=>h (zL (g1.trans h0)),g2,hH,?_⟩⟩,?_⟩
    ·show l.length<=maxL;have:maxLen=maxL:=rfl;omega
    ·show Value.slice (some a) len cap=Value.slice (some a) l.length cap;rw[g1]
    ·show l.length<=cap;omega
    ·simp only[dat,g3]
  exact⟨hT,chain1 _ hk (fun _ _ h=>by cases h) (fun h=>by cases h) hT⟩
end
end Ev
namespace Ev
open Go Go.ChangeShapes Go.WideShapes Go.RowKit
def good:(T:Ty)->den T->Prop
 |.int k,n=>inK k n
 |.bool,_=>True
 |.flt,_=>True
 |.cpx,_=>True
 |.str,l=>List.length l<=maxL/\∀b,b∈(l:List Int)->0<=b/\b<256
 |.unit,_=>True
 |.pair a b,x=>good a x.1/\good b x.2
 |.st p,x=>good p x
 |.arr n e,l=>List.length l=n/\∀x,x∈(l:List (den e))->good e x
 |.sl e,s=>s.l.length<=maxL/\(s.nil=true->s.l=[])/\∀x,x∈s.l->good e x
 |.ks _,_=>True
theorem qjd{α:Type}{f:α->List Value->Prop}{g:α->Prop}(h:∀x c,f x c->g x):∀{l:List α} {cs:List Value},relR f l cs->∀x,x∈l->g x
 |y::l,_,⟨c,d,e,h1,h2⟩,x,hx=>by
  rcases zn.1 hx with rfl|hx
  ·exact h _ _ h1
  ·exact qjd h h2 x hx
theorem q7e{imm:Nat->Prop}{w:World}:∀(T:Ty) (x:den T) (cs:List Value),relC imm w T x cs->good T x
 |.int _,_,_,h=>h.2
 |.bool,_,_,_=>trivial
 |.flt,_,_,_=>trivial
 |.cpx,_,_,_=>trivial
 |.str,_,_,⟨s,_,h2,h3⟩=>by subst h2;refine⟨by simpa using h3,fun b hb=>?_⟩;obtain⟨c,_,rfl⟩:=List.mem_map.1 hb;have:=c.toNat_lt;omega
 |.unit,_,_,_=>trivial
 |.ks _,_,_,_=>trivial
 |.pair a b,x,_,⟨c,d,_,h1,h2⟩=>⟨q7e a x.1 c h1,q7e b x.2 d h2⟩
 |.st p,x,cs,h=>q7e p x cs h
 |.arr _ e,_,_,⟨h1,h2⟩=>⟨h1,qjd (fun x c h=>q7e e x c h) h2⟩
 |.sl e,s,_,⟨v,_,h2,h3⟩=>by
  rcases h3 with ⟨h3,h4,_⟩|⟨h3,a,cap,ec,_,_,_,h5,_⟩
  ·exact⟨h2,fun _=>h4,fun x hx=>by rw[h4] at hx;cases hx⟩
  ·exact⟨h2,(fun h=>by rw[h3] at h;cases h),qjd (fun x c h=>q7e e x c h) h5⟩
abbrev denA(Ts:List Ty):Type:=denP (tyL (Ts.map Sh.d) [])
def goodA:(Ts:List Ty)->denA Ts->Prop
 |[],_=>True
 |T::Ts,x=>good T x.1/\goodA Ts x.2
def datA{H:Type}:(Ts:List Ty)->List (DataW H)->Option (denA Ts)
 |[],[]=>some ()
 |T::Ts,d::ds=>match dat T [d] with
  |some x=>match datA Ts ds with
   |some y=>some (x,y)
   |none=>none
  |none=>none
 |_,_=>none
def qv3(C:Cx):List TypeId->List Ty->Bool
 |[],[]=>true
 |t::ts,T::Ts=>(C.is t T&&noKs T)&&qv3 C ts Ts
 |_,_=>false
theorem qje{H:Type}:∀{Ts:List Ty} {ds:List (DataW H)} {x:denA Ts},datA Ts ds=some x->ds.length=Ts.length:=by
 intro Ts
 induction Ts with
 |nil=>intro ds x h;cases ds with|nil=>rfl|cons d ds=>cases h
 |cons T Ts ih=>
  intro ds x h;cases ds with
  |nil=>cases h
  |cons d ds=>
   simp only[datA] at h;split at h
   ·split at h
    ·rename_i y hy;simp only[zm,ih hy]
    ·cases h
   ·cases h
section
variable {H:Type} {enc:TypeId×Value→H} {C:Cx} {W:World} {base:Nat} {imm:Nat→Prop} {φ:Nat→Addr} {o:Nat→Obj}
theorem qbi{v:Value}(h:qeu v=false):v.cells=#[v]:=by cases v<;>first|rfl|cases h
theorem z2f(hC:CxOk C)(he:∀t e,t<C.P.types.size->C.P.underlying t=some (.slice e)->0<C.P.cellsOf e){T:Ty}{t:TypeId}{v:Value}{fuel:Nat}{y:DataW H×List MemPlace}{sp:Nat->Bool}{held:Bool}(hj:∀b,sp b=true)(hk:noKs T=true)(hg:C.ty t=some T)(h:DataW.trod enc C.P W 0 sp held fuel t v.cells.toList=some y)(hv:Value.okWide C.P W .any base t v):∃x,relV (fun b=>b<W.heap.size) W T x v/\dat T [y.1]=some x/\good T x:=by
 obtain⟨x,h1,h2⟩:=(qv2 (imm:=fun b=>b<W.heap.size) hC hj (fun _ h=>h) he T hk).1 t fuel _ y hg h;refine⟨x,?_,h2,q7e _ _ _ h1⟩;obtain⟨d,h4,h5,h6⟩:=(hC.tab _ _ hg).desc;unfold Value.okWide at hv;rw[h5] at hv;have flat:Cell.okWide C.P W .any base t v->qeu v=false:=by
  intro hc;cases hf:qeu v with
  |false=>rfl
  |true=>
   exfalso;cases v<;>try (cases hf;done)
   unfold Cell.okWide at hc;rw[h5] at hc;cases d<;>cases T<;>first|(cases h6;done)|(simp only at hc;unfold Cell.ok at hc;rw[h5] at hc;exact hc)
 cases T with
 |int k=>
  cases d<;>try (first|(cases h6;done)|(rename_i k;cases k<;>(cases h6;done)))
  rw[qbi (flat hv)] at h1;exact h1
 |bool=>
  cases d<;>try (first|(cases h6;done)|(rename_i k;cases k<;>(cases h6;done)))
  rw[qbi (flat hv)] at h1;exact h1
 |str=>
  cases d<;>try (first|(cases h6;done)|(rename_i k;cases k<;>(cases h6;done)))
  rw[qbi (flat hv)] at h1;exact h1
 |sl e=>
  cases d<;>try (first|(cases h6;done)|(rename_i k;cases k<;>(cases h6;done)))
  rw[qbi (flat hv)] at h1;exact h1
 |unit=>cases d<;>first|(cases h6;done)|(rename_i k;cases k<;>cases h6)
 |ks q=>cases hk
 |flt=>cases hk
 |cpx=>cases hk
 |pair a b=>cases d<;>first|(cases h6;done)|(rename_i k;cases k<;>cases h6)
 |st p=>
  cases d<;>try (first|(cases h6;done)|(rename_i k;cases k<;>(cases h6;done)))
  obtain⟨cs,rfl,_⟩:=hv;exact⟨cs,rfl,h1⟩
 |arr n e=>
  cases d<;>try (first|(cases h6;done)|(rename_i k;cases k<;>(cases h6;done)))
  obtain⟨cs,rfl,_⟩:=hv;exact⟨cs,rfl,h1⟩
theorem qpp(hC:CxOk C)(hc:∀t e,t<C.P.types.size->C.P.underlying t=some (.slice e)->0<C.P.cellsOf e)(he:∀b,b<W.heap.size->imm b):∀(Ts:List Ty) (ts:List TypeId) (vs:List Value) (ds:List (DataW H)) (p:List MemPlace),qv3 C ts Ts=true->DataW.TrodAll enc C.P W 0 (fun _=>true) true ts vs ds p->(∀(j:Nat) t v,ts[j]?=some t->vs[j]?=some v->Value.okWide C.P W .any base t v)->∃x:denA Ts,q0m φ o imm W (q24 id0 ka0 (Ts.map Sh.d) [] x).1 vs/\datA Ts ds=some x/\goodA Ts x
 |[],ts,vs,ds,p,ht,h,_=>by
  cases ts with
  |cons t ts=>cases ht
  |nil=>obtain⟨rfl,rfl,rfl⟩:=trodAll_nil h;exact⟨(),rfl,rfl,trivial⟩
 |T::Ts,ts,vs,ds,p,ht,h,hv=>by
  cases ts with
  |nil=>cases ht
  |cons t ts=>simp only[qv3,zd] at ht;obtain⟨v,vs1,d,ds1,p1,p2,rfl,rfl,rfl,⟨fuel,h1⟩,h2⟩:=trodAll_cons h;obtain⟨x,g1,g2,g3⟩:=z2f hC hc (fun _=>rfl) ht.1.2 (is_spec ht.1.1) h1 (hv 0 t v rfl rfl);obtain⟨y,k1,k2,k3⟩:=qpp hC hc he Ts ts vs1 ds1 p2 ht.2 h2 (fun j t v a b=>hv (j+1) t v (by simpa using a) (by simpa using b));refine⟨(x,y),⟨v,vs1,rfl,q1u he (fun _ _=>rfl) T x v g1,k1⟩,?_,g3,k3⟩;simp only[datA,g2,k2]
theorem qfu:∀{t:Ty},q6g t=false->noKs t=true
 |.ks _,h=>by cases h
 |.flt,h=>by cases h
 |.cpx,h=>by cases h
 |.int _,_=>rfl
 |.bool,_=>rfl
 |.str,_=>rfl
 |.sl _,h=>by cases h
 |.unit,_=>rfl
 |.pair a b,h=>by simp only[q6g,Bool.or_eq_false_iff] at h;simp only[noKs,qfu h.1,qfu h.2,Bool.and_self]
 |.st p,h=>qfu (t:=p) h
 |.arr _ e,h=>qfu (t:=e) h
structure qpq (C:Cx) (laid:List (String×DataW Unit)):Prop where
 plain:(laid.filter fun x=>x.2.handleName?.isSome)=[]
 globs:∀g t x,C.glob g=some ⟨t,x⟩->∃n d tid,(n,d)∈laid/\C.P.globalNamed n=some g/\(C.P.globals[g]?).map (·.type)=some tid/\C.ty tid=some t/\q6g t=false/\dat t [d]=some x
theorem qdl:∀{laid:List (String×DataW Unit)} {ps:List MemPlace},DataW.LaidVars C.P W laid ps->∀n d,(n,d)∈laid->∃g t cs fuel p,C.P.globalNamed n=some g/\(C.P.globals[g]?).map (·.type)=some t/\W.var? C.P n=some cs/\DataW.trod (fun _=>()) C.P W 0 (fun _=>true) false fuel t cs.toList=some (d,p)
 |(n0,d0)::r,ps,⟨g,t,cs,fuel,p,q,h1,h2,h3,h4,h5,_⟩,n,d,hm=>by
  rcases zn.1 hm with h|h
  ·injection h with e1 e2;subst e1 e2;exact⟨g,t,cs,fuel,p,h1,h2,h3,h4⟩
  ·exact qdl h5 n d h
theorem qlq(hC:CxOk C)(he:∀t e,t<C.P.types.size->C.P.underlying t=some (.slice e)->0<C.P.cellsOf e){laid:List (String×DataW Unit)}(hG:qpq C laid)(hL:laidMetH C.P laid W){g:Nat}{t:Ty}{x:den t}(h:C.glob g=some ⟨t,x⟩)(hc:∀b,b<W.heap.size->imm b):q03 φ o imm W (.ref t x) (.pointer (some ⟨g,0,none⟩))/\∃c el fz,W.heap[g]?=some (.cells c el fz)/\c.size=csz t:=by
 unfold laidMetH at hL;rw[hG.plain] at hL;obtain⟨ps,hl,_⟩:=hL;obtain⟨n,d,tid,h1,h2,h3,h4,h5,h6⟩:=hG.globs g t x h;obtain⟨g',t',cs,fuel,p,k1,k2,k3,k4⟩:=qdl hl n d h1;rw[h2] at k1;cases k1;rw[h3] at k2;cases k2;obtain⟨x',r1,r2⟩:=(qv2 (imm:=imm) hC (fun _=>rfl) hc he t (qfu h5)).1 tid fuel _ _ h4 k4;simp only at r2;rw[h6] at r2;cases r2;unfold World.var? at k3;rw[h2] at k3;simp only[Option.bind_some] at k3;split at k3
 ·rename_i c el fz hb;cases k3;have hf:g<W.heap.size:=by
   rcases Nat.lt_or_ge g W.heap.size with h|h
   ·exact h
   ·rw[zV h] at hb;cases hb
  refine⟨⟨⟨g,0,none⟩,cs.toList,rfl,rfl,hc _ hf,r1,fun j hj=>?_⟩,_,_,_,hb,by rw[<-Array.length_toList];exact q0q _ _ _ r1⟩;unfold World.cell?;simp only[zE];rw[hb];have:j<cs.size:=by simpa using hj
  simp[this]
 ·cases k3
def qdy(C:Cx)(s:Sig)(x:denP s.ins.tys)(y:denP s.outs.tys):Prop:=
 ∀X φ w zs,MRel C X φ (canO s.ins x) w->q0m φ (canO s.ins x) (immB X φ (canO s.ins x) w) w (fill id0 ka0 s.ins x).1 zs->
  (∃fn,C.P.funcs[s.f]?=some fn/\fn.body.isNone=false)/\Calls C.P s.f zs.toArray w fun e w'=>
   ∃vals φ' X',e=.returned (qfm vals)/\(∀b,X b->X' b)/\MRel C X' φ' (canO s.outs y) w'/\
    q0m φ' (canO s.outs y) (immB X' φ' (canO s.outs y) w') w' (fill id0 ka0 s.outs y).1 vals/\Hist s.keep φ (canO s.ins x) w φ' (canO s.outs y) w'
theorem FnOk.s{i:Nat}{x:denP (q0b C.sigs i).ins.tys}{y:denP (q0b C.sigs i).outs.tys}(h:FnOk C i x y):qdy C (q0b C.sigs i) x y:=h
theorem qrn{W W':World}(h:∀b,b<W.heap.size->W'.heap[b]?=W.heap[b]?){p:MemPlace}(hp:p.block<W.heap.size):W.sameAt W' p:=by
 cases p with
 |cell b off=>exact qem (h b hp)
 |map b=>exact h b hp
theorem qdm{P:Program}{W':World}(K:Kids P (· <P.types.size))(hz:∀t e,t<P.types.size->P.underlying t=some (.slice e)->0<P.cellsOf e)(hs:∀b,b<W.heap.size->W'.heap[b]?=W.heap[b]?):∀{ts:List TypeId} {vs:List Value} {ds:List (DataW H)} {ps:List MemPlace},(∀t,t∈ts->t<P.types.size)->DataW.TrodAll enc P W 0 (fun _=>true) true ts vs ds ps->(∀p,p∈ps->p.block<W.heap.size)->DataW.TrodAll enc P W' 0 (fun b=>decide (b<W.heap.size)) true ts vs ds ps
 |[],_,_,_,_,h,_=>by obtain⟨rfl,rfl,rfl⟩:=trodAll_nil h;exact rfl
 |t::ts,vs,ds,ps,ht,h,hp=>by obtain⟨v,vs1,d,ds1,p,q,rfl,rfl,rfl,⟨n,h1⟩,h2⟩:=trodAll_cons h;refine⟨p,q,⟨n,?_⟩,qdm K hz hs (fun t h=>ht t (zg _ h)) h2 (fun x hx=>hp x (List.mem_append_right _ hx)),rfl⟩;exact DataW.trod_stays K (fun hT hu=>hz _ _ hT hu) (fun h=>by cases h) (ht t (ze ..)) h1 (fun x hx=>qrn hs (hp x (List.mem_append_left _ hx))) (fun x hx=>by simpa using hp x (List.mem_append_left _ hx))
theorem qlr{W W':World}{may:MemPlace->Prop}(h:∀b,b<W.heap.size->W'.heap[b]?=W.heap[b]?)(hs:qce W W'):W.keptBut W' may:=by
 refine⟨hs.1,hs.2,fun i hi=>?_⟩;rw[h i hi];split
 ·rename_i h1 h2;rw[h1] at h2;cases h2;exact⟨rfl,rfl,rfl,fun _ _=>rfl⟩
 ·rename_i h1 h2;rw[h1] at h2;cases h2;exact .inr ⟨rfl,rfl⟩
 ·rfl
structure qpr (C:Cx) (laid:List (String×DataW Unit)):Prop where
 cx:CxOk C
 glob:qpq C laid
 kids:Kids C.P (· <C.P.types.size)
 full:∀t e,t<C.P.types.size->C.P.underlying t=some (.slice e)->0<C.P.cellsOf e
theorem qls{laid:List (String×DataW Unit)}(hS:qpr C laid){f:FuncId}{fn:Func}{s:ChangeSpec}(Ts:List Ty)(tb:TypeId)(hu:qv3 C fn.params.toList Ts=true)(hv:∀t,t∈fn.params.toList->t<C.P.types.size)(ho:fn.resultTypes=#[tb])(hw:C.P.underlying tb=some .bool)(hj:s.vars=[])(hf:∀ds:List (DataW H),ds.length=Ts.length->s.fn H ds={results:=[.lit (.bool true)],args:=ds})
  {args:Array Value} {ds gs:List (DataW H)} {before:List MemPlace}
  (hq:∀(j:Nat) t v,fn.params[j]?=some t->args[j]?=some v->Value.okWide C.P W .any base t v) (hW:DataW.Whole enc C.P fn.params.toList s.vars false W args.toList ds gs before) (hL:laidMetH C.P laid W)
  (hn:∀x:denA Ts,goodA Ts x->datA Ts (ds++gs)=some x->qdy C ⟨f,⟨Ts.map Sh.d,[]⟩,⟨[Sh.d .bool],[]⟩,[]⟩ x (true,())):
  Calls C.P f args W fun e W'=>∃v,e=.returned v/\s.post enc C.P fn false true false false W args v W':=by
 have hs:=hW.lt;have ht:=hW;obtain⟨p,q,hA,hV,rfl,hx,hy⟩:=hW;rw[hj] at hV;obtain⟨rfl,rfl⟩:gs=[]/\q=[]:=by
  cases gs with
  |nil=>exact⟨rfl,hV⟩
  |cons g gs=>exact hV.elim
 simp only[zo] at hs ht hn;obtain⟨x,h1,h2,h3⟩:=qpp (φ:=fun _=>⟨0,0,none⟩) (o:=fun _=>.none) (imm:=immB (fun _=>False) (fun _=>⟨0,0,none⟩) (fun _=>.none) W) hS.cx hS.full (fun b hb=>⟨hb,id,fun⟨_,h,_⟩=>by cases h⟩) Ts fn.params.toList args.toList ds p hu
  hA (fun j t v h1 h2=>hq j t v (by rw[<-zH];exact h1) (by rw[<-zH];exact h2))
 have hm:MRel C (fun _=>False) (fun _=>⟨0,0,none⟩) (fun _=>Obj.none) W:=
  ⟨fun _=>trivial,(fun i j h=>by cases h),(fun i h=>by cases h),(fun b h=>h.elim),fun _=>trivial,fun g t x hg=>(qlq hS.cx hS.full hS.glob hL hg (fun b hb=>⟨hb,id,fun⟨_,h,_⟩=>by cases h⟩)).1,
   fun g t x hg=>(qlq (φ:=fun _=>⟨0,0,none⟩) (o:=fun _=>.none) (imm:=fun _=>True) hS.cx hS.full hS.glob hL hg (fun _ _=>trivial)).2⟩
 obtain⟨_,hc⟩:=hn x h3 h2 (fun _=>False) (fun _=>⟨0,0,none⟩) W args.toList hm h1;have e0:args.toList.toArray=args:=by simp
 rw[e0] at hc;refine hc.mono fun e W' ⟨vals,φ',X',he,_,_,hr,hh⟩=>?_;have hr:∃v r,vals=v::r/\v=.bool true/\r=[]:=by obtain⟨v,r,h1,h2,h3⟩:=hr;have h2:[v]=[Value.bool true]:=h2;injection h2 with h2;exact⟨v,r,h1,h2,h3⟩
 obtain⟨_,_,rfl,rfl,rfl⟩:=hr;have hk:∀b,b<W.heap.size->W'.heap[b]?=W.heap[b]?:=fun b hb=>hh.frame b hb fun⟨id,h,_⟩=>by cases h
 refine⟨_,he,ds,[],p,[],p,[],ht,?_,?_,?_,qlr hk hh.still,fun h=>by cases h⟩
 ·have hl:ds.length=Ts.length:=by exact qje h2
  rw[zo,hf ds hl,ho];exact trodAll_cons_mk (p':=[]) (shut_bool hw true) rfl
 ·have hl:ds.length=Ts.length:=by exact qje h2
  rw[zo,hf ds hl];exact qdm hS.kids hS.full hk hv hA hs
 ·rw[hj];have hl:(s.fn H (ds++[])).vars=[]:=by rw[zo,hf ds (qje h2)]
  rw[hl];exact rfl
end
end Ev
namespace Ev
open Go
def nameOk(C:Cx)(f:Nat):Bool:=match C.P.funcs.toList[f]? with
 |some fn=>!(fn.name== "runtime.NumGoroutine")
 |none=>true
def qfv(C:Cx):List Sig->Bool
 |[]=>nameOk C 0
 |s::r=>nameOk C s.f&&qfv C r
theorem qfw{C:Cx}{f:Nat}(h:nameOk C f=true):∀fn,C.P.funcs[f]?=some fn->(fn.name== "runtime.NumGoroutine")=false:=by intro fn hf;unfold nameOk at h;rw[zH,hf] at h;simpa using h
theorem qdn{C:Cx}:∀{l:List Sig},qfv C l=true->∀i fn,C.P.funcs[(q0b l i).f]?=some fn->(fn.name== "runtime.NumGoroutine")=false
 |[],h,_,fn,hf=>qfw h fn hf
 |s::r,h,i,fn,hf=>by
  simp only[qfv,zd] at h;cases i with
  |zero=>exact qfw h.1 fn hf
  |succ i=>exact qdn h.2 i fn hf
theorem qyw{C:Cx}(h1:qhb C C.tab=true)(h2:qnd C C.eqs=true)(h3:qfv C C.sigs=true)(h4:C.P.follows .mixedOrders=true):∀{i:Nat} {x:denP (q0b C.sigs i).ins.tys} {y:denP (q0b C.sigs i).outs.tys},Call C i x y->FnOk C i x y:=by have hC:CxOk C:=⟨fun t T h=>qa4 h1 t T h⟩;have hE:EqOk C:=z1x hC h2;have hL:qj8 C:=z2a (qdn h3);intro i x y h;exact h.ok hC hE hL (z2e hC hE hL h4)
theorem qv4{C:Cx}{laid:List (String×DataW Unit)}(h1:qhb C C.tab=true)(h2:laidOutB C.P=true)(h3:mapsRowed C.P=true)(h4:((List.range C.P.types.size).all fun t=>match C.P.underlying t with|some (.slice e)=>decide (0<C.P.cellsOf e)|_=>true)=true)(h5:qpq C laid):qpr C laid:=⟨⟨fun t T h=>qa4 h1 t T h⟩,h5,kids_rows h2 h3,slices_full_of C.P h4⟩
def recN{α β:Type}(F:(α->Option β)->α->Option β):Nat->α->Option β
 |0,_=>none
 |n+1,x=>F (recN F n) x
open Classical in
noncomputable def recR{α β:Type}(F:(α->Option β)->α->Option β)(x:α):Option β:=if h:∃y n0,∀n,n0<=n->recN F n x=some y then some (Classical.choose h) else none
theorem qv5{α β:Type}{F:(α->Option β)->α->Option β}{x:α}{y:β}(h:recR F x=some y):∃n,recN F n x=some y:=by
 unfold recR at h;split at h
 ·rename_i hx;injection h with h;obtain⟨n0,hn⟩:=Classical.choose_spec hx;exact⟨n0,by rw[<-h];exact hn n0 (Nat.le_refl _)⟩
 ·cases h
theorem q6x{α β:Type}{F:(α->Option β)->α->Option β}{x:α}{y:β}(n0:Nat)(h:∀n,n0<=n->recN F n x=some y):recR F x=some y:=by unfold recR;have hx:∃y n0,∀n,n0<=n->recN F n x=some y:=⟨y,n0,h⟩;rw[dif_pos hx];obtain⟨n1,hn⟩:=Classical.choose_spec hx;have h1:=hn (n0+n1) (by omega);rw[h (n0+n1) (by omega)] at h1;exact h1.symm
def CallsAs(C:Cx)(k:Nat)(f:denP (q0b C.sigs k).ins.tys->Option (denP (q0b C.sigs k).outs.tys)):Prop:=∀x y,f x=some y->Call C k x y
def qro(C:Cx)(R:q1s C.sigs):Prop:=∀j a b,R j a=some b->Call C j a b
def orc0{sg:List Sig}:q1s sg:=fun _ _=>none
def orc1{sg:List Sig}(j:Nat)(f:denP (q0b sg j).ins.tys->Option (denP (q0b sg j).outs.tys))(R:q1s sg):q1s sg:=fun i=>match Nat.decEq i j with
 |isTrue h=>h▸f
 |isFalse _=>R i
theorem q05{C:Cx}:qro C orc0:=fun _ _ _ h=>by cases h
theorem q02{C:Cx}{j:Nat}{f:denP (q0b C.sigs j).ins.tys->Option (denP (q0b C.sigs j).outs.tys)}{R:q1s C.sigs}(hf:CallsAs C j f)(hR:qro C R):qro C (orc1 j f R):=by
 intro i a b h;unfold orc1 at h;cases hd:Nat.decEq i j with
 |isTrue e=>rw[hd] at h;subst e;exact hf a b h
 |isFalse e=>rw[hd] at h;exact hR i a b h
theorem z2g{C:Cx}{k:Nat}{F:(denP (q0b C.sigs k).ins.tys->Option (denP (q0b C.sigs k).outs.tys))->denP (q0b C.sigs k).ins.tys->Option (denP (q0b C.sigs k).outs.tys)}(h:∀g,CallsAs C k g->∀x y,F g x=some y->Call C k x y):CallsAs C k (recR F):=by
 intro x y hx;obtain⟨n,hn⟩:=qv5 hx;clear hx
 induction n generalizing x y with
 |zero=>cases hn
 |succ n ih=>exact h (recN F n) (fun a b hc=>ih a b hc) x y hn
theorem CallsAs.of{C:Cx}{k:Nat}{f g:denP (q0b C.sigs k).ins.tys->Option (denP (q0b C.sigs k).outs.tys)}(h:CallsAs C k f)(hg:∀x y,g x=some y->f x=some y):CallsAs C k g:=fun x y e=>h x y (hg x y e)
theorem qcw{σ ρ:Type}{f:σ->Option (σ⊕ρ)}:∀{n m:Nat} {s:σ} {r:ρ},n<=m->q71 f n s=some r->q71 f m s=some r
 |0,_,_,_,_,h=>by cases h
 |n+1,0,_,_,hm,_=>by omega
 |n+1,m+1,s,r,hm,h=>by
  simp only[q71] at h ⊢;cases hs:f s with
  |none=>rw[hs] at h;cases h
  |some q=>
   rw[hs] at h;cases q with
   |inl s'=>exact qcw (n:=n) (m:=m) (by omega) h
   |inr r'=>exact h
theorem qe7{σ ρ:Type}{f:σ->Option (σ⊕ρ)}{s:σ}{r:ρ}(n:Nat)(h:q71 f n s=some r):q0i f s=some r:=by have hx:∃r n,q71 f n s=some r:=⟨r,n,h⟩;unfold q0i;rw[dif_pos hx];obtain⟨m,hm⟩:=Classical.choose_spec hx;have h1:=qcw (Nat.le_max_left n m) h;have h2:=qcw (Nat.le_max_right n m) hm;rw[h1] at h2;exact h2.symm
theorem qhz{σ ρ:Type}(f:σ->Option (σ⊕ρ))(s:σ):q0i f s=match f s with
  |some (.inl s')=>q0i f s'
  |some (.inr r)=>some r
  |none=>none:=by
 cases hf:f s with
 |none=>
  simp only;cases hr:q0i f s with
  |none=>rfl
  |some r=>
   obtain⟨n,hn⟩:=q7d hr;cases n with
   |zero=>cases hn
   |succ n=>simp only[q71,hf] at hn;cases hn
 |some q=>
  cases q with
  |inr r=>exact qe7 1 (by simp only[q71,hf])
  |inl s'=>
   simp only;cases hr:q0i f s' with
   |some r=>obtain⟨n,hn⟩:=q7d hr;exact qe7 (n+1) (by simp only[q71,hf];exact hn)
   |none=>
    cases hc:q0i f s with
    |none=>rfl
    |some r=>
     obtain⟨n,hn⟩:=q7d hc;cases n with
     |zero=>cases hn
     |succ n=>simp only[q71,hf] at hn;rw[qe7 n hn] at hr;cases hr
theorem q0d{σ ρ:Type}{f:σ->Option (σ⊕ρ)}{s s':σ}(h:f s=some (.inl s')):q0i f s=q0i f s':=by rw[qhz,h]
theorem q09{σ ρ:Type}{f:σ->Option (σ⊕ρ)}{s:σ}{r:ρ}(h:f s=some (.inr r)):q0i f s=some r:=by rw[qhz,h]
theorem q00{α β:Type}(a:α)(f:α->Option β):bnd (some a) f=f a:=id (Eq.refl (f a))
theorem q04{α:Type}(a b:Option α):cnd true a b=a:=id (Eq.refl a)
theorem q01{α:Type}(a b:Option α):cnd false a b=b:=id (Eq.refl b)
theorem qjf{n:Int}(h1:-9223372036854775808<=n)(h2:n<=9223372036854775807):IntKind.i64.wrap n=n:=by simp only[IntKind.wrap,IntKind.bits,IntKind.signed];simp;split<;>omega
theorem z2h(n:Int):IntKind.u8.wrap n=n % 256:=by simp only[IntKind.wrap,IntKind.bits,IntKind.signed];simp
theorem q81{a b:Int}(h1:-9223372036854775808<=a+b)(h2:a+b<=9223372036854775807):addI .i64 a b=a+b:=qjf h1 h2
theorem q3l{a b:Int}(h1:-9223372036854775808<=a-b)(h2:a-b<=9223372036854775807):subI .i64 a b=a-b:=qjf h1 h2
theorem qv6{a:Int}(h1:-9223372036854775808<=a)(h2:a<=9223372036854775807):cvI .i64 a=a:=qjf h1 h2
theorem z0p(a:Int):cvI .u8 a=a % 256:=z2h a
theorem inK_i64{n:Int}:inK .i64 n↔-9223372036854775808<=n/\n<=9223372036854775807:=by simp[inK,IntKind.min,IntKind.max,IntKind.signed,IntKind.bits]
theorem qyx{a:Int}(s:Nat)(hs:s<=64):shrI .i64 a (s:Int)=some (a / 2 ^ s):=by
 unfold shrI;rw[if_neg (by omega)];have:min (s:Int).toNat IntKind.i64.bits=s:=by show min ((s:Int).toNat) 64=s;simp;omega
 rw[this,Int.fdiv_eq_ediv_of_nonneg _ (Int.pow_nonneg (by omega))]
theorem qbj{a b:Int}(ha:0<=a)(hb:0<b):remI a b=some (a % b):=by unfold remI;rw[if_neg (by omega),Int.tmod_eq_emod_of_nonneg ha]
theorem q0h{α:Type}(a b:Int)(x y:Option α):cnd (ltI a b) x y=if a<b then x else y:=by unfold ltI;by_cases h:a<b<;>simp[h,cnd]
theorem qv7{α:Type}(a b:Int)(x y:Option α):cnd (leI a b) x y=if a<=b then x else y:=by unfold leI;by_cases h:a<=b<;>simp[h,cnd]
theorem q4d{α:Type}(a b:Int)(x y:Option α):cnd (eqI a b) x y=if a=b then x else y:=by
 unfold eqI;by_cases h:a=b
 ·subst h;rw[if_pos rfl,beq_self_eq_true];rfl
 ·rw[if_neg h,beq_false_of_ne h];rfl
theorem z2i{α:Type}(a:Bool)(x y:Option α):cnd (notB a) x y=cnd a y x:=by cases a<;>rfl
theorem qcx{α:Type}(a b:List Int)(x y:Option α):cnd (eqS a b) x y=if a=b then x else y:=by
 unfold eqS;by_cases h:a=b
 ·subst h;rw[if_pos rfl,beq_self_eq_true];rfl
 ·rw[if_neg h,beq_false_of_ne h];rfl
theorem qyy(a:Int):eqI a a=true:=by simp[eqI]
theorem eqI_eq{a b:Int}:eqI a b=true↔a=b:=by simp[eqI]
theorem q1j{a b:Int}(h:a≠b):eqI a b=false:=by simp[eqI,h]
theorem qps(a:List Int):eqS a a=true:=by simp[eqS]
theorem q0g{α:Type}{l:List α}{i:Nat}{x:α}(h:l[i]?=some x):at? l (i:Int)=some x:=by unfold at?;rw[if_pos (by omega)];simpa using h
theorem qfx{n:Int}(h:n<=2147483648):fit n=some ():=by unfold fit;rw[if_pos h]
theorem law_contractB{H:Type}{enc:TypeId×Value->H}{C:Cx}{W:World}{base:Nat}{laid:List (String×DataW Unit)}(hS:qpr C laid){f:FuncId}{fn:Func}{s:ChangeSpec}(Ts:List Ty)(tb:TypeId)(hk:qv3 C fn.params.toList Ts=true)(hl:(fn.params.toList.all fun t=>decide (t<C.P.types.size))=true)(hf:fn.resultTypes=#[tb])(hm:C.P.underlying tb=some .bool)(hc:s.vars=[])(he:∀ds:List (DataW H),ds.length=Ts.length->s.fn H ds={results:=[.lit (.bool true)],args:=ds}){args:Array Value}{ds gs:List (DataW H)}{before:List MemPlace}
  (hg:∀(j:Nat) t v,fn.params[j]?=some t->args[j]?=some v->Value.okWide C.P W .any base t v) (hW:DataW.Whole enc C.P fn.params.toList s.vars false W args.toList ds gs before) (hL:laidMetH C.P laid W)
  (hj:∀x:denA Ts,goodA Ts x->datA Ts (ds++gs)=some x->qdy C ⟨f,⟨Ts.map Sh.d,[]⟩,⟨[Sh.d .bool],[]⟩,[]⟩ x (true,())):
  Calls C.P f args W fun e W'=>∃v,e=.returned v/\s.post enc C.P fn false true false false W args v W':=
 qls hS Ts tb hk (fun t ht=>by simpa using zS.1 hl t ht) hf hm hc he hg hW hL hj
theorem qdo:∀s:List Int,strLt s s=false
 |[]=>rfl
 |a::s=>by simp[strLt,qdo s]
theorem qad:∀s t u:List Int,strLt s t=true->strLt t u=true->strLt s u=true
 |[],[],_,h,_=>by cases h
 |_::_,[],_,h,_=>by cases h
 |_,_::_,[],_,h=>by cases h
 |[],_::_,_::_,_,_=>rfl
 |a::s,b::t,c::u,h1,h2=>by
  simp only[strLt,Bool.or_eq_true,zd,decide_eq_true_eq] at h1 h2 ⊢;rcases h1 with h1|⟨h1,h3⟩<;>rcases h2 with h2|⟨h2,h4⟩
  ·exact .inl (by omega)
  ·exact .inl (by omega)
  ·exact .inl (by omega)
  ·exact .inr ⟨by omega,qad s t u h3 h4⟩
theorem qae:∀s t:List Int,strLt s t=false->strLt t s=false->s=t
 |[],[],_,_=>rfl
 |[],_::_,h,_=>by cases h
 |_::_,[],_,h=>by cases h
 |a::s,b::t,h1,h2=>by
  simp only[strLt,Bool.or_eq_false_iff,Bool.and_eq_false_iff,decide_eq_false_iff_not] at h1 h2;obtain⟨h1,h3⟩:=h1;obtain⟨h2,h4⟩:=h2;have e:a=b:=by omega
  subst e;rw[qae s t (h3.resolve_left fun h=>h rfl) (h4.resolve_left fun h=>h rfl)]
end Ev
namespace Ev
def qcy(l:List Int):Bool:=l.all (fun b=>decide (0<=b/\b<=255))&&decide (l.length<=9223372036854775807)
theorem qv8{l:List Int}(h:qcy l=true):(∀b,b∈l->0<=b/\b<=255)/\l.length<=9223372036854775807:=by unfold qcy at h;simp only[zd,decide_eq_true_eq,zS] at h;exact h
end Ev

namespace Ev
open Go
def qcz(f:Nat):Sig:=⟨f,⟨[.d (.sl (.int .i64)),.d (.int .i64)],[]⟩,⟨[.osl 0],[.vec (.int .i64)]⟩,[]⟩
def noO:Nat->Obj:=fun _=>.none
theorem qyz{C:Cx}{f:Nat}(hl:∃fn,C.P.funcs[f]?=some fn/\fn.body.isNone=false)(h0:∀w,Calls C.P f #[.slice none 0 0,.int .i64 0] w fun e w'=>e=.returned (.slice none 0 0)/\w'=w)(h1:∀(n:Nat) w,0<n->n<=1000000->Calls C.P f #[.slice none 0 0,.int .i64 n] w fun e w'=>∃cap el cs,e=.returned (.slice (some ⟨w.heap.size,0,none⟩) 0 cap)/\w'=w.drew.alloc (.cells cs el)/\cap<=cs.size)(n:Nat)(hn:n<=1000000):qdy C (qcz f) (⟨true,[]⟩,(n:Int),()) (⟨decide (n=0),[]⟩,()):=by
 intro X φ w zs hm hz;have hm:MRel C X φ noO w:=hm;have hz:q0m φ noO (immB X φ noO w) w [.d (.sl (.int .i64)) (⟨true,[]⟩:Sl Int),.d (.int .i64) (n:Int)] zs:=hz;refine⟨hl,?_⟩;obtain⟨z0,r0,rfl,g1,z1,r1,rfl,g2,g3⟩:=hz;have g3:r1=[]:=g3;subst g3;obtain⟨rfl,_⟩:=q1v g2;obtain⟨_,g1⟩:=qdb g1;obtain rfl:z0=.slice none 0 0:=by
  rcases g1 with ⟨_,_,e⟩|⟨e,_⟩
  ·exact e
  ·cases e
 have fin:∀(s:Sl Int) (val:Value) (φ':Nat->Addr) (w':World),Comes C X φ φ' noO [(0,.vec (.int .i64) 0 false s)] w w' (.osl 0 0) val->
   ∃vals φ' X',Ending.returned val=.returned (qfm vals)/\(∀b,X b->X' b)/\MRel C X' φ' (canO (qcz f).outs (s,())) w'/\
    q0m φ' (canO (qcz f).outs (s,())) (immB X' φ' (canO (qcz f).outs (s,())) w') w' (fill id0 ka0 (qcz f).outs (s,())).1 vals/\Hist [] φ noO w φ' (canO (qcz f).outs (s,())) w':=by
  intro s val φ' w' hc;exact⟨[val],φ',X,rfl,fun _ h=>h,hc.mem,⟨val,[],rfl,hc.val,rfl⟩,(Hist.refl [] φ noO w).step hc⟩
 by_cases h:n=0
 ·subst h;refine Calls.mono (h0 w) fun e w' ⟨e1,e2⟩=>?_;subst e1 e2;have hd:decide (0=0)=true:=rfl;rw[hd];refine fin ⟨true,[]⟩ _ φ w' ?_;refine Comes.nils hm (fun p hp=>?_) (fun hk=>?_)
  ·rw[zQ.1 hp];exact⟨⟨.int .i64,rfl⟩,rfl⟩
  ·exact⟨Nat.le_refl _,fun _=>.inl ⟨rfl,rfl⟩⟩
 ·refine Calls.mono (h1 n w (by omega) hn) fun e w' ⟨cap,el,cs,e1,e2,e3⟩=>?_;subst e1;have hd:decide (n=0)=false:=zu h;rw[hd];refine fin ⟨false,[]⟩ _ (upd φ 0 ⟨w.heap.size,0,none⟩) w' ?_;have hg:w'.heap=w.heap.push (.cells cs el):=by rw[e2];rfl
  have hf:w'.heap[w.heap.size]?=some (.cells cs el):=by rw[hg];simp
  have he:∀m,m<=cs.size->room w' ⟨w.heap.size,0,none⟩ m:=fun m hm=>⟨cs,el,0,0,hf,by simpa using hm,.inl (Nat.le_refl _)⟩;refine Comes.fresh hm (B:=.cells cs el) hg (.vec (.int .i64) 0 false (⟨false,[]⟩:Sl Int)) (ns:=[]) (fun p hp=>by cases hp) (fun _=>trivial) (fun _ _ _=>?_) (fun h _=>by cases h) (fun h3=>?_) (by rw[e2];exact⟨rfl,rfl⟩)
  ·refine⟨Nat.zero_le _,fun h=>(by cases h),fun _=>.inl ?_⟩;rw[q0e];refine⟨rfl,[],rfl,fun j hj=>by simp at hj,he 0 (Nat.zero_le _),fun _=>he _ (by show 0*1<=_;omega),fun h=>by cases h⟩
  ·unfold q03;rw[h3,q0e];refine⟨Nat.le_refl _,fun _=>.inr ⟨rfl,cap,rfl,Nat.zero_le _,fun h=>(by cases h),fun _ _=>he _ (by show cap*1<=_;omega)⟩⟩
def ixB(c:Int):List Int->Int
 |[]=>-1
 |b::r=>if b=c then 0 else if ixB c r<0 then -1 else ixB c r+1
theorem qv9(c:Int):∀l,-1<=ixB c l/\ixB c l<=l.length
 |[]=>⟨Int.le_refl _,(by show(-1:Int)<=0;decide)⟩
 |b::r=>by
  have:=qv9 c r;unfold ixB;rw[zm];split
  ·omega
  ·split<;>omega
theorem qlt(c:UInt8):∀l:List UInt8,Lib.indexByte l c=ixB (c.toNat:Int) (l.map fun b=>(b.toNat:Int))
 |[]=>rfl
 |b::r=>by
  have ih:=qlt c r;have hg:=qv9 (c.toNat:Int) (r.map fun b=>(b.toNat:Int));rw[zI];unfold Lib.indexByte ixB;rw[ih];by_cases h:b=c
  ·subst h;simp
  ·have h1:(b==c)=false:=by simpa using h
   have h2:¬(b.toNat:Int)=(c.toNat:Int):=fun e=>h (UInt8.toNat_inj.1 (by omega));rw[h1,if_neg h2];simp only[Bool.false_eq_true,if_false,beq_iff_eq];by_cases h3:ixB (c.toNat:Int) (r.map fun b=>(b.toNat:Int))=-1
   ·rw[if_pos h3,if_pos (by omega)]
   ·rw[if_neg h3,if_neg (by omega)]
def z5p(f:Nat):Sig:=⟨f,⟨[.d .str,.d (.int .u8)],[]⟩,⟨[.d (.int .i64)],[]⟩,[]⟩
theorem z49{C:Cx}{f:Nat}(he:∃fn,C.P.funcs[f]?=some fn/\fn.body.isNone=false)(h0:∀(s:ByteArray) (c:Int) w,Calls C.P f #[.string s,.int .u8 c] w fun e w'=>e=.returned (.int .i64 (Lib.indexByte s.data.toList c.toNat.toUInt8))/\w'=w)(l:List Int)(c:Int):qdy C (z5p f) (l,c,()) (ixB c l,()):=by
 intro X φ w zs hm hz;have hm:MRel C X φ noO w:=hm;have hz:q0m φ noO (immB X φ noO w) w [.d .str l,.d (.int .u8) c] zs:=hz;refine⟨he,?_⟩;obtain⟨z0,r0,rfl,g1,z1,r1,rfl,g2,g3⟩:=hz;have g3:r1=[]:=g3;subst g3;obtain⟨s,rfl,hs,hl⟩:=q2s g1;obtain⟨rfl,hc⟩:=q1v g2;refine Calls.mono (h0 s c w) fun e w' ⟨e1,e2⟩=>?_;subst e1 e2;have hj:0<=c/\c<=255:=hc;have ec:((c.toNat.toUInt8).toNat:Int)=c:=by have:(c.toNat.toUInt8).toNat=c.toNat % 256:=rfl;rw[this];omega
 have hv:Lib.indexByte s.data.toList c.toNat.toUInt8=ixB c l:=by rw[qlt,ec,hs]
 have hg:=qv9 c l;have hf:l.length=s.size:=by rw[<-hs];simp
 unfold maxL at hl;rw[hv];refine⟨[.int .i64 (ixB c l)],φ,X,rfl,fun _ h=>h,hm,⟨_,[],rfl,q30 ?_,rfl⟩,Hist.refl _ _ _ _⟩;show(-9223372036854775808:Int)<=_/\_<=(9223372036854775807:Int);omega
theorem mkC{C:Cx}{k:Nat}{O:q1s C.sigs}(b:Lf->q1s C.sigs->denP (q0b C.sigs k).ins.tys->Option (denP (q0b C.sigs k).outs.tys)){f:denP (q0b C.sigs k).ins.tys->Option (denP (q0b C.sigs k).outs.tys)}(hO:qro C O)(e:∀L R x,qh7 L C R k x=b L R x)(o:∀x,b lf O x=f x):CallsAs C k f:=fun x y h=>Call.mk (C:=C) O hO k x y (((e lf O x).trans (o x)).trans h)
theorem mkG{C:Cx}{k:Nat}(b:Lf->q1s C.sigs->denP (q0b C.sigs k).ins.tys->Option (denP (q0b C.sigs k).outs.tys)){F:(denP (q0b C.sigs k).ins.tys->Option (denP (q0b C.sigs k).outs.tys))->denP (q0b C.sigs k).ins.tys->Option (denP (q0b C.sigs k).outs.tys)}{O:(denP (q0b C.sigs k).ins.tys->Option (denP (q0b C.sigs k).outs.tys))->q1s C.sigs}(hO:∀g,CallsAs C k g->qro C (O g))(e:∀L R x,qh7 L C R k x=b L R x)(o:∀g x,b lf (O g) x=F g x):CallsAs C k (recR F):=z2g fun g hg x y h=>Call.mk (C:=C) (O g) (hO g hg) k x y (((e lf (O g) x).trans (o g x)).trans h)
end Ev
namespace Ev
def digN:Nat->Nat->List Int
 |0,_=>[]
 |f+1,u=>if u<10 then [48+(u:Int)] else digN f (u / 10)++[48+((u % 10:Nat):Int)]
def q8t(n:Int):List Int:=if n<0 then 45::digN 20 n.natAbs else digN 20 n.toNat
def rep1:List Int->List Int
 |[]=>[]
 |b::l=>if b=45 then 126::l else b::rep1 l
theorem qjg:∀l,(rep1 l).length=l.length
 |[]=>rfl
 |b::l=>by
  unfold rep1;split
  ·rfl
  ·rw[zm,zm,qjg l]
theorem qjh:∀f u,(digN f u).length<=f
 |0,_=>Nat.le_refl _
 |f+1,u=>by
  unfold digN;split
  ·simp
  ·have:=qjh f (u / 10);rw[zh,List.length_singleton];omega
theorem qfy(n:Int):(q8t n).length<=21:=by
 unfold q8t;split
 ·have:=qjh 20 n.natAbs;rw[zm];omega
 ·have:=qjh 20 n.toNat
  omega
end Ev

namespace Ev
open Go Go.RowKit Go.Sort
theorem qva{C:Cx}{X:Nat->Prop}{φ:Nat->Addr}{w w':World}(hm:MRel C X φ noO w)(hb:Below w.heap.size w w'){b:ByteArray}{l:List Int}(hl:b.data.toList.map (fun b=>(b.toNat:Int))=l)(hs:b.size<=maxL):∃vals φ' X',Ending.returned (.string b)=.returned (qfm vals)/\(∀b,X b->X' b)/\MRel C X' φ' (canO (⟨[.d .str],[]⟩:Shape) (l,())) w'/\q0m φ' (canO (⟨[.d .str],[]⟩:Shape) (l,())) (immB X' φ' (canO (⟨[.d .str],[]⟩:Shape) (l,())) w') w' (fill id0 ka0 (⟨[.d .str],[]⟩:Shape) (l,())).1 vals/\Hist [] φ noO w φ' (canO (⟨[.d .str],[]⟩:Shape) (l,())) w':=by
 have hc:Comes C X φ φ noO [] w w' (.d .str l) (.string b):=
  Comes.make hm hb.size (fun b he _=>hb.block b he) (fun _ _=>rfl) (fun _ _ _=>rfl) (fun id h=>absurd h (List.not_mem_nil)) (fun id h=>absurd h (List.not_mem_nil)) (fun i j h=>absurd h (List.not_mem_nil))
   (fun _ _ _ id h=>absurd h (List.not_mem_nil)) (fun id h=>absurd h (List.not_mem_nil)) (fun _ _ _=>qes hl hs) ⟨hb.os,hb.output⟩
 exact⟨[.string b],φ,X,rfl,fun _ h=>h,hc.mem,⟨.string b,[],rfl,hc.val,rfl⟩,(Hist.refl [] φ noO w).step hc⟩
theorem qlu{imm:Nat->Prop}{w:World}{k:IntKind}:∀(l:List Int) (cs:List Value),relR (relC imm w (.int k)) l cs->cs=l.map fun z=>Value.int k z
 |[],cs,h=>h
 |x::l,cs,⟨c,d,e,h1,h2⟩=>by rw[e,qlu l d h2,h1.1];rfl
theorem z4a{C:Cx}{X:Nat->Prop}{φ:Nat->Addr}{o:Nat->Obj}{w:World}(hm:MRel C X φ o w){name:String}{g n:Nat}{k:IntKind}{zs:List Int}(hg:C.P.globalNamed name=some g)(h:C.glob g=some ⟨.arr n (.int k),zs⟩):Lib.TabIs C.P w name k zs:=by
 obtain⟨a,cs,e,_,hi,hr,hc⟩:=hm.globs g _ _ h;injection e with e;injection e with e;subst e;obtain⟨c,el,fz,h1,h2⟩:=hm.gsz g _ _ h;have hl:=q0q _ _ _ hr;have he:cs=zs.map fun z=>Value.int k z:=qlu zs cs hr.2;unfold Lib.TabIs World.var?;rw[hg,Option.bind_some,h1];have hf:c.toList=cs:=by
  apply List.ext_getElem
  ·rw[Array.length_toList];omega
  ·intro i i1 i2;have:=hc i i2;unfold World.cell? at this;simp only[zE] at this;rw[h1] at this;rw[Array.length_toList] at i1;rw[Array.getElem_toList];simpa[i1] using this
 show some c=_;rw[<-he,<-hf,Array.toArray_toList]
theorem qpt:∀(f u:Nat),u<10 ^ (f+1)->digN (f+1) u=(Lib.decDigits u).map fun b=>(b.toNat:Int):=by
 intro f
 induction f with
 |zero=>
  intro u h;have h:u<10:=by simpa using h
  unfold digN;rw[Lib.decDigits,if_pos h,dif_pos h];have e:(UInt8.ofNat (48+u)).toNat=48+u:=by rw[UInt8.toNat_ofNat'];omega
  simp only[zI,List.map_nil,e];congr 1
 |succ f ih=>
  intro u h;unfold digN;rw[Lib.decDigits];by_cases hu:u<10
  ·rw[if_pos hu,dif_pos hu];have e:(UInt8.ofNat (48+u)).toNat=48+u:=by rw[UInt8.toNat_ofNat'];omega
   simp only[zI,List.map_nil,e];congr 1
  ·rw[if_neg hu,dif_neg hu,ih (u / 10) (by rw[Nat.pow_succ] at h;omega),zU];have e:(UInt8.ofNat (48+u % 10)).toNat=48+u % 10:=by rw[UInt8.toNat_ofNat'];omega
   simp only[zI,List.map_nil,e];congr 2
theorem qpu{n:Int}(h0:-9223372036854775808<=n)(h1:n<=9223372036854775807):(Lib.itoa n).map (fun b=>(b.toNat:Int))=q8t n:=by
 have hp:(10:Nat) ^ (19+1)=100000000000000000000:=by decide
 unfold Lib.itoa q8t;by_cases h:n<0
 ·rw[if_pos h,if_pos h,qpt 19 _ (by rw[hp];omega)];rfl
 ·rw[if_neg h,if_neg h,qpt 19 _ (by rw[hp];omega)]
def z4b(f:Nat):Sig:=⟨f,⟨[.d (.int .i64),.d (.int .i64)],[]⟩,⟨[.d .str],[]⟩,[]⟩
theorem z2j{C:Cx}{f:Nat}(he:∃fn,C.P.funcs[f]?=some fn/\fn.body.isNone=false){g m:Nat}{zs:List Int}(hg:C.P.globalNamed "internal/strconv.uint64pow10"=some g)(ht:C.glob g=some ⟨.arr m (.int .u64),zs⟩)(h0:∀(n:Int),-9223372036854775808<=n->n<=9223372036854775807->∀w,Lib.TabIs C.P w "internal/strconv.uint64pow10" .u64 zs->Calls C.P f #[.int .i64 n,.int .i64 10] w fun e w'=>e=.returned (.string ⟨(Lib.itoa n).toArray⟩)/\∃k os,w'=grow (w.drewN k) os)(n:Int)(hn:-9223372036854775808<=n)(hc:n<=9223372036854775807):qdy C (z4b f) (n,(10:Int),()) (q8t n,()):=by
 intro X φ w zs' hm hz;have hm:MRel C X φ noO w:=hm;have hz:q0m φ noO (immB X φ noO w) w [.d (.int .i64) n,.d (.int .i64) (10:Int)] zs':=hz;refine⟨he,?_⟩;obtain⟨z0,r0,rfl,g1,z1,r1,rfl,g2,g3⟩:=hz;have g3:r1=[]:=g3;subst g3;obtain⟨rfl,_⟩:=q1v g1;obtain⟨rfl,_⟩:=q1v g2;refine Calls.mono (h0 n hn hc w (z4a hm hg ht)) fun e w' ⟨e1,k,os,e2⟩=>?_;subst e1 e2;refine qva (w':=grow (w.drewN k) os) hm (b:=⟨(Lib.itoa n).toArray⟩) ⟨rfl,rfl,rfl,?_,fun i hi=>?_⟩ ?_ ?_
 ·show w.heap.size<=(w.heap++os).size;rw[Array.size_append];omega
 ·show(w.heap++os)[i]?=_;rw[Array.getElem?_append_left hi]
 ·exact qpu hn hc
 ·have:=congrArg List.length (qpu hn hc);rw[zJ] at this;have h2:=qfy n;show(Lib.itoa n).toArray.size<=maxL;unfold maxL;simp only[List.size_toArray];omega
def z4c(f:Nat):Sig:=⟨f,⟨[.d .str,.d .str,.d .str,.d (.int .i64)],[]⟩,⟨[.d .str],[]⟩,[]⟩
def q9i:List UInt8->List UInt8
 |[]=>[]
 |b::l=>if b=45 then 126::l else b::q9i l
theorem qji:∀l:List UInt8,(q9i l).map (fun b=>(b.toNat:Int))=rep1 (l.map fun b=>(b.toNat:Int))
 |[]=>rfl
 |b::l=>by
  unfold q9i;rw[zI];unfold rep1;by_cases h:b=45
  ·subst h;rfl
  ·have hb:(b.toNat:Int)≠45:=fun e=>h (UInt8.toNat_inj.1 (by
    have:(45:UInt8).toNat=45:=rfl;omega))
   rw[if_neg h,if_neg hb,zI,qji l]
theorem z2k{C:Cx}{f:Nat}(hc:∃fn,C.P.funcs[f]?=some fn/\fn.body.isNone=false)(h0:∀(s:ByteArray) w,s.size<=1000->Calls C.P f #[.string s,.string ⟨#[45]⟩,.string ⟨#[126]⟩,.int .i64 1] w fun e w'=>e=.returned (.string ⟨(q9i s.data.toList).toArray⟩)/\Below w.heap.size w w')(l:List Int)(hl:l.length<=1000):qdy C (z4c f) (l,[45],[126],(1:Int),()) (rep1 l,()):=by
 intro X φ w zs' hm hz;have hm:MRel C X φ noO w:=hm;have hz:q0m φ noO (immB X φ noO w) w [.d .str l,.d .str ([45]:List Int),.d .str ([126]:List Int),.d (.int .i64) (1:Int)] zs':=hz;refine⟨hc,?_⟩;obtain⟨z0,r0,rfl,g1,z1,r1,rfl,g2,z2,r2,rfl,g3,z3,r3,rfl,g4,g5⟩:=hz;have g5:r3=[]:=g5;subst g5;have one:∀{s:ByteArray} {c:UInt8},s.data.toList.map (fun b=>(b.toNat:Int))=[(c.toNat:Int)]->s=⟨#[c]⟩:=by
  intro s c h;obtain⟨⟨d⟩⟩:=s
  match d with
  |[]=>exact absurd (congrArg List.length h) (by simp)
  |[b]=>have h:[(b.toNat:Int)]=[(c.toNat:Int)]:=h;injection h with h _;have e:b=c:=UInt8.toNat_inj.1 (by omega);rw[e]
  |_::_::_=>exact absurd (congrArg List.length h) (by simp)
 obtain⟨s,rfl,hs,hj⟩:=q2s g1;obtain⟨s1,rfl,he,_⟩:=q2s g2;obtain⟨s2,rfl,hf,_⟩:=q2s g3;obtain⟨rfl,_⟩:=q1v g4;obtain rfl:=one (c:=45) he;obtain rfl:=one (c:=126) hf;have hg:s.size<=1000:=by
  have:=congrArg List.length hs;rw[zJ] at this;have e:s.size=s.data.toList.length:=by rw[Array.length_toList];rfl
  omega
 refine Calls.mono (h0 s w hg) fun e w' ⟨e1,e2⟩=>?_;subst e1;refine qva hm (b:=⟨(q9i s.data.toList).toArray⟩) e2 ?_ ?_
 ·show(q9i s.data.toList).map _=_;rw[qji,hs]
 ·have:=congrArg List.length (qji s.data.toList);rw[zJ,qjg,hs] at this;show(q9i s.data.toList).toArray.size<=maxL;unfold maxL;simp only[List.size_toArray];omega
end Ev