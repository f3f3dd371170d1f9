/- From what a row reads to data; calls as functions; numbers. No statement of its own about the program. -/
import Derived.Test.YtnihgcgcdjdhiaaGreatDoorEvH
import Derived.ChangeArms
import Derived.OpenShut
import Derived.ChangeSame
import Derived.ReadAgain
import Derived.ChangeStays
import Derived.WideShapes
import Derived.RowKit2
import Derived.Lib.Bytealg
namespace Ev
open Go
def qkn {α β:Type} (f:α→Option β):List α→Option (List β)
 |[]=>some []
 |x::r=>match f x with
  |some y=>match qkn f r with
   |some l=>some (y::l)
   |none=>none
  |none=>none
def dat {H:Type}:(T:Ty)→List (DataW H)→Option (den T)
 |.unit,l=>match l with
  |[]=>some ()
  |_=>none
 |.pair a b,l=>match l with
  |d::r=>match dat a [d] with
   |some x=>match dat b r with
    |some y=>some (x,y)
    |none=>none
   |none=>none
  |[]=>none
 |.st p,l=>match l with
  |[.agg ps]=>dat p ps
  |_=>none
 |.int k,l=>match l with
  |[.lit (.int k' n)]=>if k'=k then some n else none
  |_=>none
 |.bool,l=>match l with
  |[.lit (.bool b)]=>some b
  |_=>none
 |.str,l=>match l with
  |[.lit (.string s)]=>some (s.map fun b=>(b.toNat:Int))
  |_=>none
 |.arr n e,l=>match l with
  |[.agg ps]=>match qkn (fun d=>dat e [d]) ps with
   |some l=>if l.length=n then some l else none
   |none=>none
  |_=>none
 |.sl e,l=>match l with
  |[.nil]=>some (⟨true,[]⟩:Sl (den e))
  |[.slice es _]=>match qkn (fun d=>dat e [d]) es with
   |some l=>some (⟨false,l⟩:Sl (den e))
   |none=>none
  |_=>none
 |.ks _,_=>none
def noKs:Ty→Bool
 |.ks _=>false
 |.pair a b=>noKs a&&noKs b
 |.st p=>noKs p
 |.arr _ e=>noKs e
 |.sl e=>noKs e
 |_=>true
theorem qut:∀{T:Ty},noKs T=true→qjf T=T
 |.ks _,h=>by cases h
 |.int _,_=>rfl
 |.bool,_=>rfl
 |.str,_=>rfl
 |.sl _,_=>rfl
 |.unit,_=>rfl
 |.pair _ _,_=>rfl
 |.st _,_=>rfl
 |.arr _ _,_=>rfl
theorem TyOk.lt {C:Cx} {t:TypeId} {T:Ty} (h:TyOk C t T):t<C.P.types.size:=by obtain ⟨i,_,_,h2,_⟩:=h.info;have:=(zO.1 h2).1;simpa using this
theorem qz3 {W:World} {a:Addr} {v:Value} (h:W.cell? a=some v):a.block<W.heap.size:=by
 unfold World.cell? at h;rcases Nat.lt_or_ge a.block W.heap.size with h'|h'
 ·exact h'
 ·rw [ja h'] at h;cases h
theorem q52 {C:Cx} {t:TypeId} {T:Ty} (h:TyOk C t T):C.P.cellsOf t=csz T:=by obtain ⟨i,z,h1,_,h2,_⟩:=h.info;unfold Program.cellsOf;rw [h1];exact h2
section
variable {H:Type} {enc:TypeId×Value→H} {C:Cx} {W:World} {base:Nat} {spare:Nat→Bool} {held:Bool} {imm:Nat→Prop}
def q7b (C:Cx) (enc:TypeId×Value→H) (W:World) (base:Nat) (spare:Nat→Bool) (held:Bool) (imm:Nat→Prop) (T:Ty):Prop:=∀t fuel cs y,C.ty t=some T→DataW.trod enc C.P W base spare held fuel t cs=some y→∃x,relC imm W T x cs∧dat T [y.1]=some x
theorem qpc {e:Ty}:∀(n:Nat) (xs:List (DataW H×List MemPlace)) (f:Nat→List Value),xs.length=n→(∀i y,xs[i]?=some y→∃x,relC imm W e x (f i)∧dat e [y.1]=some x)→∃l:List (den e),l.length=n∧relR (relC imm W e) l ((List.range n).flatMap f)∧qkn (fun d=>dat e [d]) (xs.map (·.1))=some l:=by
 intro n
 induction n with
 |zero=>intro xs f hl _;have:xs=[]:=zD hl;subst this;exact ⟨[],rfl,rfl,rfl⟩
 |succ n ih=>
  intro xs f hl h;cases xs with
  |nil=>cases hl
  |cons y xs=>
   obtain ⟨x,h1,h2⟩:=h 0 y rfl;obtain ⟨l,g1,g2,g3⟩:=ih xs (fun i=>f (i+1)) (by simpa using hl) (fun i z hz=>h (i+1) z (by simpa using hz));refine ⟨x::l,by simp [g1],?_,?_⟩
   ·rw [List.range_succ_eq_map,List.flatMap_cons,List.flatMap_map];exact ⟨_,_,rfl,h1,g2⟩
   ·simp only [zV,qkn,h2,g3]
theorem quu {k:Nat}:∀(n:Nat) (cs:List Value),cs.length=n*k→(List.range n).flatMap (fun i=>(cs.drop (i*k)).take k)=cs:=by
 intro n
 induction n with
 |zero=>intro cs h;simp at h;subst h;rfl
 |succ n ih=>
  intro cs h;rw [List.range_succ_eq_map,List.flatMap_cons,List.flatMap_map];have h1:∀i,(cs.drop ((i+1)*k)).take k=((cs.drop k).drop (i*k)).take k:=fun i=>by rw [List.drop_drop];congr 2;rw [Nat.succ_mul];omega
  simp only [Nat.succ_eq_add_one,h1];rw [ih (cs.drop k) (by rw [jb,h,Nat.succ_mul];omega)];simp
theorem quv (hC:CxOk C) (hB:∀b,spare b=true) (ht:∀b,b<W.heap.size→imm b) (hx:∀t e,t<C.P.types.size→C.P.underlying t=some (.slice e)→0<C.P.cellsOf e) (T:Ty):noKs T=true→q7b C enc W base spare held imm T∧(∀(fs:List Field) (off:Nat) (n:Nat) (cs:List Value) (xs:List (DataW H×List MemPlace)),q32 C fs T off=true→off+csz T≤cs.length→xs.length=fs.length→(∀(i:Nat) (f:Field),fs[i]?=some f→DataW.trod enc C.P W base spare held n f.type ((cs.drop f.offset).take (C.P.cellsOf f.type))=xs[i]?)→∃x,relC imm W T x ((cs.drop off).take (csz T))∧dat T (xs.map (·.1))=some x):=by
 have one:∀(T:Ty),noKs T=true→q7b C enc W base spare held imm T→∀(f:Field) (off:Nat) (n:Nat) (cs:List Value) (xs:List (DataW H×List MemPlace)),q32 C [f] T off=true→off+csz T≤cs.length→
   xs.length=1→(∀(i:Nat) (f':Field),[f][i]?=some f'→DataW.trod enc C.P W base spare held n f'.type ((cs.drop f'.offset).take (C.P.cellsOf f'.type))=xs[i]?)→
   ∃x,relC imm W T x ((cs.drop off).take (csz T))∧dat T (xs.map (·.1))=some x:=by
  intro T hk hT f off n cs xs hf _ hl h;have hf:(C.is f.type (qjf T)&&Nat.beq f.offset off)=true:=by cases T<;>exact hf
  rw [qut hk,zd] at hf;obtain ⟨y,rfl⟩:∃y,xs=[y]:=by
   match xs,hl with
   |[y],_=>exact ⟨y,rfl⟩
  have he:=is_spec hf.1;have hz:=zg hf.2;have h0:=h 0 f rfl;rw [q52 (hC.tab _ _ he),hz] at h0;obtain ⟨x,h1,h2⟩:=hT _ _ _ _ he h0;exact ⟨x,h1,h2⟩
 have chain1:∀(T:Ty),noKs T=true→(∀a b,T≠.pair a b)→T≠.unit→q7b C enc W base spare held imm T→(∀(fs:List Field) (off:Nat) (n:Nat) (cs:List Value) (xs:List (DataW H×List MemPlace)),q32 C fs T off=true→off+csz T≤cs.length→xs.length=fs.length→
   (∀(i:Nat) (f:Field),fs[i]?=some f→DataW.trod enc C.P W base spare held n f.type ((cs.drop f.offset).take (C.P.cellsOf f.type))=xs[i]?)→
   ∃x,relC imm W T x ((cs.drop off).take (csz T))∧dat T (xs.map (·.1))=some x):=by
  intro T hk hp hu hT fs off n cs xs hf hg hl h;cases fs with
  |nil=>cases T<;>first|exact absurd rfl hu|cases hf
  |cons f fs=>
   cases fs with
   |nil=>exact one T hk hT f off n cs xs hf hg hl h
   |cons g r=>cases T<;>first|exact absurd rfl (hp _ _)|cases hf
 induction T with
 |int k=>
  intro hk;have hT:q7b C enc W base spare held imm (.int k):=by
   intro t fuel cs y he h;obtain ⟨d,h1,h2,h3⟩:=(hC.tab _ _ he).desc;cases d<;>simp only [q62] at h3<;>try (cases h3;done)
   have:=q81 h3;subst this;obtain ⟨n,rfl,rfl,hw⟩:=DataW.trod_int h2 h;refine ⟨n,⟨rfl,?_⟩,by simp [dat]⟩;simpa [Lit.wf,inK] using hw
  exact ⟨hT,chain1 _ hk (fun _ _ h=>by cases h) (fun h=>by cases h) hT⟩
 |bool=>
  intro hk;have hT:q7b C enc W base spare held imm .bool:=by
   intro t fuel cs y he h;obtain ⟨d,h1,h2,h3⟩:=(hC.tab _ _ he).desc;cases d<;>simp only [q62] at h3<;>try (cases h3;done)
   obtain ⟨n,rfl,rfl⟩:=DataW.trod_bool h2 h;exact ⟨n,rfl,rfl⟩
  exact ⟨hT,chain1 _ hk (fun _ _ h=>by cases h) (fun h=>by cases h) hT⟩
 |str=>
  intro hk;have hT:q7b C enc W base spare held imm .str:=by
   intro t fuel cs y he h;obtain ⟨d,h1,h2,h3⟩:=(hC.tab _ _ he).desc;cases d<;>simp only [q62] at h3<;>try (cases h3;done)
   obtain ⟨s,rfl,rfl,hs⟩:=DataW.trod_string h2 h;exact ⟨_,⟨s,rfl,rfl,hs⟩,rfl⟩
  exact ⟨hT,chain1 _ hk (fun _ _ h=>by cases h) (fun h=>by cases h) hT⟩
 |unit=>
  intro _;refine ⟨?_,?_⟩
  ·intro t fuel cs y he h;obtain ⟨d,h1,h2,h3⟩:=(hC.tab _ _ he).desc;cases d<;>simp only [q62] at h3<;>cases h3
  ·intro fs off n cs xs hf _ hl _;cases fs with
   |nil=>have:xs=[]:=zD hl;subst this;exact ⟨(),by simp [csz,relC],rfl⟩
   |cons f r=>
    cases r with
    |nil=>simp only [q32,zd] at hf;have he:=is_spec hf.1;obtain ⟨d,h1,h2,h3⟩:=(hC.tab _ _ he).desc;cases d<;>simp only [q62] at h3<;>cases h3
    |cons g r=>cases hf
 |st p ih=>
  intro hk;replace ih:=ih hk;have hT:q7b C enc W base spare held imm (.st p):=by
   intro t fuel cs y he h;have hn:=hC.tab _ _ he;obtain ⟨d,h1,h2,h3⟩:=hn.desc;cases d<;>simp only [q62] at h3<;>try (cases h3;done)
   rename_i fs;obtain ⟨xs,n,rfl,rfl,hl,hg,hf⟩:=DataW.trod_struct h2 h;rw [q52 hn] at hl;have hl:cs.length=csz p:=hl;obtain ⟨x,g1,g2⟩:=ih.2 fs.toList 0 n cs xs h3 (by omega) (by simpa using hg) (fun i f hi=>hf i f (by rw [←zM];exact hi));rw [List.drop_zero,jc (by omega)] at g1;exact ⟨x,g1,g2⟩
  exact ⟨hT,chain1 _ hk (fun _ _ h=>by cases h) (fun h=>by cases h) hT⟩
 |pair a b iha ihb=>
  intro hk;simp only [noKs,zd] at hk;replace iha:=iha hk.1;replace ihb:=ihb hk.2;refine ⟨?_,?_⟩
  ·intro t fuel cs y he h;obtain ⟨d,h1,h2,h3⟩:=(hC.tab _ _ he).desc;cases d<;>simp only [q62] at h3<;>cases h3
  ·intro fs off n cs xs hf hg hl h;cases fs with
   |nil=>cases hf
   |cons f r=>
    cases r with
    |nil=>simp only [q32,zd] at hf;have he:=is_spec hf.1;obtain ⟨d,h1,h2,h3⟩:=(hC.tab _ _ he).desc;cases d<;>simp only [q62] at h3<;>cases h3
    |cons g r=>
     simp only [q32,zd] at hf;cases xs with
     |nil=>cases hl
     |cons y xs=>
      simp only [csz] at hg;have he:=is_spec hf.1.1;have hz:=zg hf.1.2;have h0:=h 0 f rfl;rw [q52 (hC.tab _ _ he),hz] at h0;obtain ⟨x1,g1,g2⟩:=iha.1 _ _ _ _ he h0;obtain ⟨x2,g3,g4⟩:=ihb.2 (g::r) (off+csz a) n cs xs hf.2 (by omega) (by simpa using hl) (fun i f' hi=>h (i+1) f' (by simpa using hi));refine ⟨(x1,x2),⟨_,_,?_,g1,g3⟩,?_⟩
      ·show (cs.drop off).take (csz a+csz b)=_;rw [List.take_add,List.drop_drop]
      ·simp only [zV,dat,g2,g4]
 |arr n e ih=>
  intro hk;replace ih:=ih hk;have hT:q7b C enc W base spare held imm (.arr n e):=by
   intro t fuel cs y he h;have hn:=hC.tab _ _ he;obtain ⟨d,h1,h2,h3⟩:=hn.desc;cases d<;>simp only [q62] at h3<;>try (cases h3;done)
   rename_i m te;rw [zd] at h3;have:=zg h3.1;subst this;have ho:=is_spec h3.2;obtain ⟨xs,k,rfl,rfl,hl,hg,hf⟩:=DataW.trod_array h2 h;rw [q52 hn] at hl;have hl:cs.length=m*csz e:=hl;rw [q52 (hC.tab _ _ ho)] at hf;obtain ⟨l,g1,g2,g3⟩:=qpc (imm:=imm) (W:=W) (e:=e) m xs (fun i=>(cs.drop (i*csz e)).take (csz e)) hg (fun i y hy=>by
    have hi:i<m:=by
     rcases Nat.lt_or_ge i m with h|h
     ·exact h
     ·rw [jf (by omega)] at hy;cases hy
    have:=hf i hi;rw [hy] at this;exact ih.1 _ _ _ _ ho this)
   rw [quu m cs hl] at g2;refine ⟨l,⟨g1,g2⟩,?_⟩;simp only [dat,g3,g1,if_true]
  exact ⟨hT,chain1 _ hk (fun _ _ h=>by cases h) (fun h=>by cases h) hT⟩
 |ks q _=>intro hk;cases hk
 |sl e ih=>
  intro hk;replace ih:=ih hk;have hT:q7b C enc W base spare held imm (.sl e):=by
   intro t fuel cs y he h;have hn:=hC.tab _ _ he;obtain ⟨d,h1,h2,h3⟩:=hn.desc;cases d<;>simp only [q62] at h3<;>try (cases h3;done)
   rename_i te;have ho:=is_spec h3;rcases DataW.trod_slice h2 h with ⟨rfl,rfl⟩|⟨a,len,cap,elems,rest,n,rfl,rfl,rfl,hb,hJ,hK,hg,hf,hr,_⟩
   ·exact ⟨⟨true,[]⟩,⟨_,rfl,Nat.zero_le _,.inl ⟨rfl,rfl,rfl⟩⟩,rfl⟩
   ·have hD:=hx t te hn.lt h2;have first:cap≠0→∃v,W.cell? a=some v:=by
     intro hc;have hE:∃y,(W.cells? base (a.add (0*C.P.cellsOf te)) (C.P.cellsOf te)).bind (DataW.trod enc C.P W base spare held n te)=some y:=by
      by_cases h0:len=0
      ·obtain ⟨r1,r2⟩:=hr (hB _);have:=r2 0 (by omega);rw [h0,Nat.add_zero,zh (by omega)] at this;exact ⟨_,this⟩
      ·have:=hf 0 (by omega);rw [zh (by omega)] at this;exact ⟨_,this⟩
     obtain ⟨y,hy⟩:=hE;obtain ⟨ci,h5,_⟩:=Option.bind_eq_some_iff.1 hy;obtain ⟨_,h6,h7⟩:=World.cells?_some h5;have h8:=h7 0 hD;rw [zh (by omega),Nat.zero_mul,show (a.add 0).add 0=a from rfl] at h8;exact ⟨_,h8⟩
    have hs:cap≠0→a.spot=none:=fun hc=>by
     obtain ⟨v,hv⟩:=first hc
     exact World.cell?_spot hv
    have hi:len≠0→imm a.block:=fun h0=>by
     obtain ⟨v,hv⟩:=first (by omega)
     exact ht _ (qz3 hv)
    rw [q52 (hC.tab _ _ ho)] at hf;have cellsEx:∀i,i<len→∃ci,W.cells? base (a.add (i*csz e)) (csz e)=some ci∧DataW.trod enc C.P W base spare held n te ci=elems[i]?:=fun i hi=>by have:=hf i hi;rw [zh (by omega)] at this;obtain ⟨ci,h1,h2⟩:=Option.bind_eq_some_iff.1 this;exact ⟨ci,h1,by rw [h2,zh (by omega)]⟩
    let f:Nat→List Value:=fun i=>(W.cells? base (a.add (i*csz e)) (csz e)).getD [];obtain ⟨l,g1,g2,g3⟩:=qpc (imm:=imm) (W:=W) (e:=e) len elems f hg (fun i y hy=>by
     have hi:i<len:=by
      rcases Nat.lt_or_ge i len with h|h
      ·exact h
      ·rw [jf (by omega)] at hy;cases hy
     obtain ⟨ci,h1,h2⟩:=cellsEx i hi;rw [hy] at h2;show ∃x,relC imm W e x ((W.cells? base (a.add (i*csz e)) (csz e)).getD [])∧_;rw [h1,Option.getD_some];exact ih.1 _ _ _ _ ho h2)
    have hF:∀i,i<len→(f i).length=csz e∧∀j (hj:j<(f i).length),W.cell? ⟨a.block,a.off+i*csz e+j,none⟩=some (f i)[j]:=fun i hi=>by
     obtain ⟨ci,h1,_⟩:=cellsEx i hi;have hG:f i=ci:=by show (W.cells? base (a.add (i*csz e)) (csz e)).getD []=ci;rw [h1];rfl
     obtain ⟨_,h4,h5⟩:=World.cells?_some h1;rw [hG];refine ⟨h4,fun j hj=>?_⟩;have:=h5 j (by omega);rw [zh hj] at this;rw [←this];have:(a.add (i*csz e)).add j=⟨a.block,a.off+i*csz e+j,none⟩:=by
      obtain ⟨ab,ao,as⟩:=a;have hs:as=none:=hs (by omega);subst hs;simp only [Addr.add];by_cases h0:i*csz e=0
      ·by_cases hq:j=0
       ·simp [h0,hq]
       ·simp [h0,hq]
      ·by_cases hq:j=0
       ·simp [h0,hq]
       ·simp [h0,hq]
     rw [this]
    have hH:q1f W a ((List.range len).flatMap f):=by
     clear g2 g3 h hf;have key:∀m,m≤len→q1f W a ((List.range m).flatMap f)∧((List.range m).flatMap f).length=m*csz e:=by
      intro m
      induction m with
      |zero=>intro _;exact ⟨fun j hj=>by simp at hj,by simp⟩
      |succ m ihm=>
       intro hm;obtain ⟨k1,k2⟩:=ihm (by omega);obtain ⟨k3,k4⟩:=hF m (by omega);rw [List.range_succ,List.flatMap_append,List.flatMap_singleton];refine ⟨fun j hj=>?_,by rw [zp,k2,k3,Nat.succ_mul]⟩;by_cases hA:j<((List.range m).flatMap f).length
       ·rw [List.getElem_append_left hA];exact k1 j hA
       ·rw [List.getElem_append_right (by omega)];have hI:j-((List.range m).flatMap f).length<(f m).length:=by rw [zp] at hj;omega
        have:=k4 _ hI;rw [←this];congr 2;omega
     exact (key len (Nat.le_refl _)).1
    refine ⟨⟨false,l⟩,⟨_,rfl,?_,.inr ⟨rfl,a,cap,_,?_,hs,fun h=>hi fun h0=>h (zD (g1.trans h0)),g2,hH,?_⟩⟩,?_⟩
    ·show l.length≤maxL;have:maxLen=maxL:=rfl;omega
    ·show Value.slice (some a) len cap=Value.slice (some a) l.length cap;rw [g1]
    ·show l.length≤cap;omega
    ·simp only [dat,g3]
  exact ⟨hT,chain1 _ hk (fun _ _ h=>by cases h) (fun h=>by cases h) hT⟩
end
end Ev

namespace Ev
open Go Go.ChangeShapes Go.WideShapes Go.RowKit
def good:(T:Ty)→den T→Prop
 |.int k,n=>inK k n
 |.bool,_=>True
 |.str,l=>List.length l≤maxL∧∀b,b∈(l:List Int)→0≤b∧b<256
 |.unit,_=>True
 |.pair a b,x=>good a x.1∧good b x.2
 |.st p,x=>good p x
 |.arr n e,l=>List.length l=n∧∀x,x∈(l:List (den e))→good e x
 |.sl e,s=>s.l.length≤maxL∧(s.nil=true→s.l=[])∧∀x,x∈s.l→good e x
 |.ks _,_=>True
theorem qie {α:Type} {f:α→List Value→Prop} {g:α→Prop} (h:∀x c,f x c→g x):∀{l:List α} {cs:List Value},relR f l cs→∀x,x∈l→g x
 |y::l,_,⟨c,d,e,h1,h2⟩,x,hx=>by
  rcases zj.1 hx with rfl|hx
  ·exact h _ _ h1
  ·exact qie h h2 x hx
theorem q6i {imm:Nat→Prop} {w:World}:∀(T:Ty) (x:den T) (cs:List Value),relC imm w T x cs→good T x
 |.int _,_,_,h=>h.2
 |.bool,_,_,_=>trivial
 |.str,_,_,⟨s,_,h2,h3⟩=>by subst h2;refine ⟨by simpa using h3,fun b hb=>?_⟩;obtain ⟨c,_,rfl⟩:=zR.1 hb;have:=c.toNat_lt;omega
 |.unit,_,_,_=>trivial
 |.ks _,_,_,_=>trivial
 |.pair a b,x,_,⟨c,d,_,h1,h2⟩=>⟨q6i a x.1 c h1,q6i b x.2 d h2⟩
 |.st p,x,cs,h=>q6i p x cs h
 |.arr _ e,_,_,⟨h1,h2⟩=>⟨h1,qie (fun x c h=>q6i e x c h) h2⟩
 |.sl e,s,_,⟨v,_,h2,h3⟩=>by
  rcases h3 with ⟨h3,h4,_⟩|⟨h3,a,cap,ec,_,_,_,h5,_⟩
  ·exact ⟨h2,fun _=>h4,fun x hx=>by rw [h4] at hx;cases hx⟩
  ·exact ⟨h2,(fun h=>by rw [h3] at h;cases h),qie (fun x c h=>q6i e x c h) h5⟩
abbrev denA (Ts:List Ty):Type:=denP (tyL (Ts.map Sh.d) [])
def goodA:(Ts:List Ty)→denA Ts→Prop
 |[],_=>True
 |T::Ts,x=>good T x.1∧goodA Ts x.2
def datA {H:Type}:(Ts:List Ty)→List (DataW H)→Option (denA Ts)
 |[],[]=>some ()
 |T::Ts,d::ds=>match dat T [d] with
  |some x=>match datA Ts ds with
   |some y=>some (x,y)
   |none=>none
  |none=>none
 |_,_=>none
def quw (C:Cx):List TypeId→List Ty→Bool
 |[],[]=>true
 |t::ts,T::Ts=>(C.is t T&&noKs T)&&quw C ts Ts
 |_,_=>false
theorem qif {H:Type}:∀{Ts:List Ty} {ds:List (DataW H)} {x:denA Ts},datA Ts ds=some x→ds.length=Ts.length:=by
 intro Ts
 induction Ts with
 |nil=>intro ds x h;cases ds with|nil=>rfl|cons d ds=>cases h
 |cons T Ts ih=>
  intro ds x h;cases ds with
  |nil=>cases h
  |cons d ds=>
   simp only [datA] at h;split at h
   ·split at h
    ·rename_i y hy;simp only [zw,ih hy]
    ·cases h
   ·cases h
section
variable {H:Type} {enc:TypeId×Value→H} {C:Cx} {W:World} {base:Nat} {imm:Nat→Prop} {φ:Nat→Addr} {o:Nat→Obj}
theorem qaw {v:Value} (h:qdq v=false):v.cells=#[v]:=by cases v<;>first|rfl|cases h
theorem z2e (hC:CxOk C) (he:∀t e,t<C.P.types.size→C.P.underlying t=some (.slice e)→0<C.P.cellsOf e) {T:Ty} {t:TypeId} {v:Value} {fuel:Nat} {y:DataW H×List MemPlace} {sp:Nat→Bool} {held:Bool} (hj:∀b,sp b=true) (hk:noKs T=true) (hg:C.ty t=some T) (h:DataW.trod enc C.P W 0 sp held fuel t v.cells.toList=some y) (hv:Value.okWide C.P W .any base t v):∃x,relV (fun b=>b<W.heap.size) W T x v∧dat T [y.1]=some x∧good T x:=by
 obtain ⟨x,h1,h2⟩:=(quv (imm:=fun b=>b<W.heap.size) hC hj (fun _ h=>h) he T hk).1 t fuel _ y hg h;refine ⟨x,?_,h2,q6i _ _ _ h1⟩;obtain ⟨d,h4,h5,h6⟩:=(hC.tab _ _ hg).desc;unfold Value.okWide at hv;rw [h5] at hv;have flat:Cell.okWide C.P W .any base t v→qdq v=false:=by
  intro hc;cases hf:qdq v with
  |false=>rfl
  |true=>
   exfalso;cases v<;>try (cases hf;done)
   unfold Cell.okWide at hc;rw [h5] at hc;cases d<;>cases T<;>first|(cases h6;done)|(simp only at hc;unfold Cell.ok at hc;rw [h5] at hc;exact hc)
 cases T with
 |int k=>
  cases d<;>try (cases h6;done)
  rw [qaw (flat hv)] at h1;exact h1
 |bool=>
  cases d<;>try (cases h6;done)
  rw [qaw (flat hv)] at h1;exact h1
 |str=>
  cases d<;>try (cases h6;done)
  rw [qaw (flat hv)] at h1;exact h1
 |sl e=>
  cases d<;>try (cases h6;done)
  rw [qaw (flat hv)] at h1;exact h1
 |unit=>cases d<;>cases h6
 |ks q=>cases hk
 |pair a b=>cases d<;>cases h6
 |st p=>
  cases d<;>try (cases h6;done)
  obtain ⟨cs,rfl,_⟩:=hv;exact ⟨cs,rfl,h1⟩
 |arr n e=>
  cases d<;>try (cases h6;done)
  obtain ⟨cs,rfl,_⟩:=hv;exact ⟨cs,rfl,h1⟩
theorem qpd (hC:CxOk C) (hc:∀t e,t<C.P.types.size→C.P.underlying t=some (.slice e)→0<C.P.cellsOf e) (he:∀b,b<W.heap.size→imm b):∀(Ts:List Ty) (ts:List TypeId) (vs:List Value) (ds:List (DataW H)) (p:List MemPlace),quw C ts Ts=true→DataW.TrodAll enc C.P W 0 (fun _=>true) true ts vs ds p→(∀(j:Nat) t v,ts[j]?=some t→vs[j]?=some v→Value.okWide C.P W .any base t v)→∃x:denA Ts,q0m φ o imm W (q1s id0 ka0 (Ts.map Sh.d) [] x).1 vs∧datA Ts ds=some x∧goodA Ts x
 |[],ts,vs,ds,p,ht,h,_=>by
  cases ts with
  |cons t ts=>cases ht
  |nil=>obtain ⟨rfl,rfl,rfl⟩:=trodAll_nil h;exact ⟨(),rfl,rfl,trivial⟩
 |T::Ts,ts,vs,ds,p,ht,h,hv=>by
  cases ts with
  |nil=>cases ht
  |cons t ts=>simp only [quw,zd] at ht;obtain ⟨v,vs1,d,ds1,p1,p2,rfl,rfl,rfl,⟨fuel,h1⟩,h2⟩:=trodAll_cons h;obtain ⟨x,g1,g2,g3⟩:=z2e hC hc (fun _=>rfl) ht.1.2 (is_spec ht.1.1) h1 (hv 0 t v rfl rfl);obtain ⟨y,k1,k2,k3⟩:=qpd hC hc he Ts ts vs1 ds1 p2 ht.2 h2 (fun j t v a b=>hv (j+1) t v (by simpa using a) (by simpa using b));refine ⟨(x,y),⟨v,vs1,rfl,q1m he (fun _ _=>rfl) T x v g1,k1⟩,?_,g3,k3⟩;simp only [datA,g2,k2]
theorem qep:∀{t:Ty},q5l t=false→noKs t=true
 |.ks _,h=>by cases h
 |.int _,_=>rfl
 |.bool,_=>rfl
 |.str,_=>rfl
 |.sl _,h=>by cases h
 |.unit,_=>rfl
 |.pair a b,h=>by simp only [q5l,Bool.or_eq_false_iff] at h;simp only [noKs,qep h.1,qep h.2,Bool.and_self]
 |.st p,h=>qep (t:=p) h
 |.arr _ e,h=>qep (t:=e) h
structure qpe (C:Cx) (laid:List (String×DataW Unit)):Prop where
 plain:(laid.filter fun x=>x.2.handleName?.isSome)=[]
 globs:∀g t x,C.glob g=some ⟨t,x⟩→∃n d tid,(n,d)∈laid∧C.P.globalNamed n=some g∧(C.P.globals[g]?).map (·.type)=some tid∧C.ty tid=some t∧q5l t=false∧dat t [d]=some x
theorem qcq:∀{laid:List (String×DataW Unit)} {ps:List MemPlace},DataW.LaidVars C.P W laid ps→∀n d,(n,d)∈laid→∃g t cs fuel p,C.P.globalNamed n=some g∧(C.P.globals[g]?).map (·.type)=some t∧W.var? C.P n=some cs∧DataW.trod (fun _=>()) C.P W 0 (fun _=>true) false fuel t cs.toList=some (d,p)
 |(n0,d0)::r,ps,⟨g,t,cs,fuel,p,q,h1,h2,h3,h4,h5,_⟩,n,d,hm=>by
  rcases zj.1 hm with h|h
  ·injection h with e1 e2;subst e1 e2;exact ⟨g,t,cs,fuel,p,h1,h2,h3,h4⟩
  ·exact qcq h5 n d h
theorem qz4 (hC:CxOk C) (he:∀t e,t<C.P.types.size→C.P.underlying t=some (.slice e)→0<C.P.cellsOf e) {laid:List (String×DataW Unit)} (hG:qpe C laid) (hL:laidMetH C.P laid W) {g:Nat} {t:Ty} {x:den t} (h:C.glob g=some ⟨t,x⟩) (hc:∀b,b<W.heap.size→imm b):q03 φ o imm W (.ref t x) (.pointer (some ⟨g,0,none⟩)):=by
 unfold laidMetH at hL;rw [hG.plain] at hL;obtain ⟨ps,hl,_⟩:=hL;obtain ⟨n,d,tid,h1,h2,h3,h4,h5,h6⟩:=hG.globs g t x h;obtain ⟨g',t',cs,fuel,p,k1,k2,k3,k4⟩:=qcq hl n d h1;rw [h2] at k1;cases k1;rw [h3] at k2;cases k2;obtain ⟨x',r1,r2⟩:=(quv (imm:=imm) hC (fun _=>rfl) hc he t (qep h5)).1 tid fuel _ _ h4 k4;simp only at r2;rw [h6] at r2;cases r2;unfold World.var? at k3;rw [h2] at k3;simp only [Option.bind_some] at k3;split at k3
 ·rename_i c el fz hb;cases k3;have hf:g<W.heap.size:=by
   rcases Nat.lt_or_ge g W.heap.size with h|h
   ·exact h
   ·rw [ja h] at hb;cases hb
  refine ⟨⟨g,0,none⟩,cs.toList,rfl,rfl,hc _ hf,r1,fun j hj=>?_⟩;unfold World.cell?;simp only [zN];rw [hb];have:j<cs.size:=by simpa using hj
  simp [this]
 ·cases k3
def qri (C:Cx) (s:Sig) (x:denP s.ins.tys) (y:denP s.outs.tys):Prop:=
 ∀X φ w zs,MRel C X φ (canO s.ins x) w→q0m φ (canO s.ins x) (immB X φ (canO s.ins x) w) w (fill id0 ka0 s.ins x).1 zs→
  (∃fn,C.P.funcs[s.f]?=some fn∧fn.body.isNone=false)∧Calls C.P s.f zs.toArray w fun e w'=>
   ∃vals φ' X',e=.returned (qkd vals)∧(∀b,X b→X' b)∧MRel C X' φ' (canO s.outs y) w'∧
    q0m φ' (canO s.outs y) (immB X' φ' (canO s.outs y) w') w' (fill id0 ka0 s.outs y).1 vals∧Hist s.keep φ (canO s.ins x) w φ' (canO s.outs y) w'
theorem FnOk.s {i:Nat} {x:denP (q0a C.sigs i).ins.tys} {y:denP (q0a C.sigs i).outs.tys} (h:FnOk C i x y):qri C (q0a C.sigs i) x y:=h
theorem qrj {W W':World} (h:∀b,b<W.heap.size→W'.heap[b]?=W.heap[b]?) {p:MemPlace} (hp:p.block<W.heap.size):W.sameAt W' p:=by
 cases p with
 |cell b off=>exact qdl (h b hp)
 |map b=>exact h b hp
theorem qcr {P:Program} {W':World} (K:Kids P (· <P.types.size)) (hz:∀t e,t<P.types.size→P.underlying t=some (.slice e)→0<P.cellsOf e) (hs:∀b,b<W.heap.size→W'.heap[b]?=W.heap[b]?):∀{ts:List TypeId} {vs:List Value} {ds:List (DataW H)} {ps:List MemPlace},(∀t,t∈ts→t<P.types.size)→DataW.TrodAll enc P W 0 (fun _=>true) true ts vs ds ps→(∀p,p∈ps→p.block<W.heap.size)→DataW.TrodAll enc P W' 0 (fun b=>decide (b<W.heap.size)) true ts vs ds ps
 |[],_,_,_,_,h,_=>by obtain ⟨rfl,rfl,rfl⟩:=trodAll_nil h;exact rfl
 |t::ts,vs,ds,ps,ht,h,hp=>by obtain ⟨v,vs1,d,ds1,p,q,rfl,rfl,rfl,⟨n,h1⟩,h2⟩:=trodAll_cons h;refine ⟨p,q,⟨n,?_⟩,qcr K hz hs (fun t h=>ht t (zf _ h)) h2 (fun x hx=>hp x (List.mem_append_right _ hx)),rfl⟩;exact DataW.trod_stays K (fun hT hu=>hz _ _ hT hu) (fun h=>by cases h) (ht t (ze ..)) h1 (fun x hx=>qrj hs (hp x (List.mem_append_left _ hx))) (fun x hx=>by simpa using hp x (List.mem_append_left _ hx))
theorem qko {W W':World} {may:MemPlace→Prop} (h:∀b,b<W.heap.size→W'.heap[b]?=W.heap[b]?) (hs:qhw W W'):W.keptBut W' may:=by
 refine ⟨hs.1,hs.2,fun i hi=>?_⟩;rw [h i hi];split
 ·rename_i h1 h2;rw [h1] at h2;cases h2;exact ⟨rfl,rfl,rfl,fun _ _=>rfl⟩
 ·rename_i h1 h2;rw [h1] at h2;cases h2;exact .inr ⟨rfl,rfl⟩
 ·rfl
structure qpf (C:Cx) (laid:List (String×DataW Unit)):Prop where
 cx:CxOk C
 glob:qpe C laid
 kids:Kids C.P (· <C.P.types.size)
 full:∀t e,t<C.P.types.size→C.P.underlying t=some (.slice e)→0<C.P.cellsOf e
theorem qkp {laid:List (String×DataW Unit)} (hS:qpf C laid) {f:FuncId} {fn:Func} {s:ChangeSpec} (Ts:List Ty) (tb:TypeId) (hv:quw C fn.params.toList Ts=true) (hw:∀t,t∈fn.params.toList→t<C.P.types.size) (hq:fn.resultTypes=#[tb]) (hx:C.P.underlying tb=some .bool) (hj:s.vars=[]) (hf:∀ds:List (DataW H),ds.length=Ts.length→s.fn H ds={results:=[.lit (.bool true)],args:=ds})
  {args:Array Value} {ds gs:List (DataW H)} {before:List MemPlace}
  (hs:∀(j:Nat) t v,fn.params[j]?=some t→args[j]?=some v→Value.okWide C.P W .any base t v) (hW:DataW.Whole enc C.P fn.params.toList s.vars false W args.toList ds gs before) (hL:laidMetH C.P laid W)
  (ho:∀x:denA Ts,goodA Ts x→datA Ts (ds++gs)=some x→qri C ⟨f,⟨Ts.map Sh.d,[]⟩,⟨[Sh.d .bool],[]⟩,[]⟩ x (true,())):
  Calls C.P f args W fun e W'=>∃v,e=.returned v∧s.post enc C.P fn false true false false W args v W':=by
 have ht:=hW.lt;have hu:=hW;obtain ⟨p,q,hA,hV,rfl,hy,hz⟩:=hW;rw [hj] at hV;obtain ⟨rfl,rfl⟩:gs=[]∧q=[]:=by
  cases gs with
  |nil=>exact ⟨rfl,hV⟩
  |cons g gs=>exact hV.elim
 simp only [zG] at ht hu ho;obtain ⟨x,h1,h2,h3⟩:=qpd (φ:=fun _=>⟨0,0,none⟩) (o:=fun _=>.none) (imm:=immB (fun _=>False) (fun _=>⟨0,0,none⟩) (fun _=>.none) W) hS.cx hS.full (fun b hb=>⟨hb,id,fun ⟨_,h,_⟩=>by cases h⟩) Ts fn.params.toList args.toList ds p hv
  hA (fun j t v h1 h2=>hs j t v (by rw [←zM];exact h1) (by rw [←zM];exact h2))
 have hm:MRel C (fun _=>False) (fun _=>⟨0,0,none⟩) (fun _=>Obj.none) W:=⟨fun _=>trivial,(fun i j h=>by cases h),(fun i h=>by cases h),(fun b h=>h.elim),fun _=>trivial,fun g t x hg=>qz4 hS.cx hS.full hS.glob hL hg (fun b hb=>⟨hb,id,fun ⟨_,h,_⟩=>by cases h⟩)⟩;obtain ⟨_,hc⟩:=ho x h3 h2 (fun _=>False) (fun _=>⟨0,0,none⟩) W args.toList hm h1;have e0:args.toList.toArray=args:=by simp
 rw [e0] at hc;refine hc.mono fun e W' ⟨vals,φ',X',he,_,_,hr,hh⟩=>?_;have hr:∃v r,vals=v::r∧v=.bool true∧r=[]:=by obtain ⟨v,r,h1,h2,h3⟩:=hr;have h2:[v]=[Value.bool true]:=h2;injection h2 with h2;exact ⟨v,r,h1,h2,h3⟩
 obtain ⟨_,_,rfl,rfl,rfl⟩:=hr;have hn:∀b,b<W.heap.size→W'.heap[b]?=W.heap[b]?:=fun b hb=>hh.frame b hb fun ⟨id,h,_⟩=>by cases h
 refine ⟨_,he,ds,[],p,[],p,[],hu,?_,?_,?_,qko hn hh.still,fun h=>by cases h⟩
 ·have hl:ds.length=Ts.length:=by exact qif h2
  rw [zG,hf ds hl,hq];exact trodAll_cons_mk (p':=[]) (shut_bool hx true) rfl
 ·have hl:ds.length=Ts.length:=by exact qif h2
  rw [zG,hf ds hl];exact qcr hS.kids hS.full hn hw hA ht
 ·rw [hj];have hl:(s.fn H (ds++[])).vars=[]:=by rw [zG,hf ds (qif h2)]
  rw [hl];exact rfl
end
end Ev

namespace Ev
open Go
def nameOk (C:Cx) (f:Nat):Bool:=match C.P.funcs.toList[f]? with
 |some fn=>!(fn.name== "runtime.NumGoroutine")
 |none=>true
def qeq (C:Cx):List Sig→Bool
 |[]=>nameOk C 0
 |s::r=>nameOk C s.f&&qeq C r
theorem qer {C:Cx} {f:Nat} (h:nameOk C f=true):∀fn,C.P.funcs[f]?=some fn→(fn.name== "runtime.NumGoroutine")=false:=by intro fn hf;unfold nameOk at h;rw [zM,hf] at h;simpa using h
theorem qcs {C:Cx}:∀{l:List Sig},qeq C l=true→∀i fn,C.P.funcs[(q0a l i).f]?=some fn→(fn.name== "runtime.NumGoroutine")=false
 |[],h,_,fn,hf=>qer h fn hf
 |s::r,h,i,fn,hf=>by
  simp only [qeq,zd] at h;cases i with
  |zero=>exact qer h.1 fn hf
  |succ i=>exact qcs h.2 i fn hf
theorem qz5 {C:Cx} (h1:qg7 C C.tab=true) (h2:qms C C.eqs=true) (h3:qeq C C.sigs=true) (h4:C.P.follows .mixedOrders=true):∀{i:Nat} {x:denP (q0a C.sigs i).ins.tys} {y:denP (q0a C.sigs i).outs.tys},Call C i x y→FnOk C i x y:=by have hC:CxOk C:=⟨fun t T h=>q9l h1 t T h⟩;have hE:EqOk C:=z1v hC h2;have hL:qi9 C:=z28 (qcs h3);intro i x y h;exact h.ok hC hE hL (z2d hC hE hL h4)
theorem qux {C:Cx} {laid:List (String×DataW Unit)} (h1:qg7 C C.tab=true) (h2:laidOutB C.P=true) (h3:mapsRowed C.P=true) (h4:((List.range C.P.types.size).all fun t=>match C.P.underlying t with|some (.slice e)=>decide (0<C.P.cellsOf e)|_=>true)=true) (h5:qpe C laid):qpf C laid:=⟨⟨fun t T h=>q9l h1 t T h⟩,h5,kids_rows h2 h3,slices_full_of C.P h4⟩
end Ev

namespace Ev
open Go
def recN {α β:Type} (F:(α→Option β)→α→Option β):Nat→α→Option β
 |0,_=>none
 |n+1,x=>F (recN F n) x
open Classical in
noncomputable def recR {α β:Type} (F:(α→Option β)→α→Option β) (x:α):Option β:=if h:∃y n0,∀n,n0≤n→recN F n x=some y then some (Classical.choose h) else none
theorem quy {α β:Type} {F:(α→Option β)→α→Option β} {x:α} {y:β} (h:recR F x=some y):∃n,recN F n x=some y:=by
 unfold recR at h;split at h
 ·rename_i hx;injection h with h;obtain ⟨n0,hn⟩:=Classical.choose_spec hx;exact ⟨n0,by rw [←h];exact hn n0 (Nat.le_refl _)⟩
 ·cases h
theorem q7c {α β:Type} {F:(α→Option β)→α→Option β} {x:α} {y:β} (n0:Nat) (h:∀n,n0≤n→recN F n x=some y):recR F x=some y:=by unfold recR;have hx:∃y n0,∀n,n0≤n→recN F n x=some y:=⟨y,n0,h⟩;rw [dif_pos hx];obtain ⟨n1,hn⟩:=Classical.choose_spec hx;have h1:=hn (n0+n1) (by omega);rw [h (n0+n1) (by omega)] at h1;exact h1.symm
def CallsAs (C:Cx) (k:Nat) (f:denP (q0a C.sigs k).ins.tys→Option (denP (q0a C.sigs k).outs.tys)):Prop:=∀x y,f x=some y→Call C k x y
def quz (C:Cx) (R:q1r C.sigs):Prop:=∀j a b,R j a=some b→Call C j a b
def orc0 {sg:List Sig}:q1r sg:=fun _ _=>none
def orc1 {sg:List Sig} (j:Nat) (f:denP (q0a sg j).ins.tys→Option (denP (q0a sg j).outs.tys)) (R:q1r sg):q1r sg:=fun i=>match Nat.decEq i j with
 |isTrue h=>h▸f
 |isFalse _=>R i
theorem q06 {C:Cx}:quz C orc0:=fun _ _ _ h=>by cases h
theorem q04 {C:Cx} {j:Nat} {f:denP (q0a C.sigs j).ins.tys→Option (denP (q0a C.sigs j).outs.tys)} {R:q1r C.sigs} (hf:CallsAs C j f) (hR:quz C R):quz C (orc1 j f R):=by
 intro i a b h;unfold orc1 at h;cases hd:Nat.decEq i j with
 |isTrue e=>rw [hd] at h;subst e;exact hf a b h
 |isFalse e=>rw [hd] at h;exact hR i a b h
theorem z2f {C:Cx} {k:Nat} {F:(denP (q0a C.sigs k).ins.tys→Option (denP (q0a C.sigs k).outs.tys))→denP (q0a C.sigs k).ins.tys→Option (denP (q0a C.sigs k).outs.tys)} (h:∀g,CallsAs C k g→∀x y,F g x=some y→Call C k x y):CallsAs C k (recR F):=by
 intro x y hx;obtain ⟨n,hn⟩:=quy hx;clear hx
 induction n generalizing x y with
 |zero=>cases hn
 |succ n ih=>exact h (recN F n) (fun a b hc=>ih a b hc) x y hn
theorem CallsAs.of {C:Cx} {k:Nat} {f g:denP (q0a C.sigs k).ins.tys→Option (denP (q0a C.sigs k).outs.tys)} (h:CallsAs C k f) (hg:∀x y,g x=some y→f x=some y):CallsAs C k g:=fun x y e=>h x y (hg x y e)
theorem qc1 {σ ρ:Type} {f:σ→Option (σ⊕ρ)}:∀{n m:Nat} {s:σ} {r:ρ},n≤m→q4i f n s=some r→q4i f m s=some r
 |0,_,_,_,_,h=>by cases h
 |n+1,0,_,_,hm,_=>by omega
 |n+1,m+1,s,r,hm,h=>by
  simp only [q4i] at h ⊢;cases hs:f s with
  |none=>rw [hs] at h;cases h
  |some q=>
   rw [hs] at h;cases q with
   |inl s'=>exact qc1 (n:=n) (m:=m) (by omega) h
   |inr r'=>exact h
theorem q7d {σ ρ:Type} {f:σ→Option (σ⊕ρ)} {s:σ} {r:ρ} (n:Nat) (h:q4i f n s=some r):loopR f s=some r:=by have hx:∃r n,q4i f n s=some r:=⟨r,n,h⟩;unfold loopR;rw [dif_pos hx];obtain ⟨m,hm⟩:=Classical.choose_spec hx;have h1:=qc1 (Nat.le_max_left n m) h;have h2:=qc1 (Nat.le_max_right n m) hm;rw [h1] at h2;exact h2.symm
theorem qgv {σ ρ:Type} (f:σ→Option (σ⊕ρ)) (s:σ):loopR f s=match f s with
  |some (.inl s')=>loopR f s'
  |some (.inr r)=>some r
  |none=>none:=by
 cases hf:f s with
 |none=>
  simp only;cases hr:loopR f s with
  |none=>rfl
  |some r=>
   obtain ⟨n,hn⟩:=q51 hr;cases n with
   |zero=>cases hn
   |succ n=>simp only [q4i,hf] at hn;cases hn
 |some q=>
  cases q with
  |inr r=>exact q7d 1 (by simp only [q4i,hf])
  |inl s'=>
   simp only;cases hr:loopR f s' with
   |some r=>obtain ⟨n,hn⟩:=q51 hr;exact q7d (n+1) (by simp only [q4i,hf];exact hn)
   |none=>
    cases hc:loopR f s with
    |none=>rfl
    |some r=>
     obtain ⟨n,hn⟩:=q51 hc;cases n with
     |zero=>cases hn
     |succ n=>simp only [q4i,hf] at hn;rw [q7d n hn] at hr;cases hr
theorem q0h {σ ρ:Type} {f:σ→Option (σ⊕ρ)} {s s':σ} (h:f s=some (.inl s')):loopR f s=loopR f s':=by rw [qgv,h]
theorem q0b {σ ρ:Type} {f:σ→Option (σ⊕ρ)} {s:σ} {r:ρ} (h:f s=some (.inr r)):loopR f s=some r:=by rw [qgv,h]
theorem q1d {σ ρ:Type} {f:σ→Option (σ⊕ρ)} {I:σ→Prop} {Q:ρ→Prop} (μ:σ→Nat) (h:∀s,I s→(∃s',f s=some (.inl s')∧I s'∧μ s'<μ s)∨(∃r,f s=some (.inr r)∧Q r)):∀s,I s→∃r,loopR f s=some r∧Q r:=by
 intro s;generalize hn:μ s=n
 induction n using Nat.strongRecOn generalizing s with
 |_ n ih=>
  intro hs;rcases h s hs with ⟨s',h1,h2,h3⟩|⟨r,h1,h2⟩
  ·rw [q0h h1];exact ih (μ s') (by omega) s' rfl h2
  ·exact ⟨r,q0b h1,h2⟩
theorem q00 {α β:Type} (a:α) (f:α→Option β):bnd (some a) f=f a:=id (Eq.refl (f a))
theorem q02 {α:Type} (a b:Option α):cnd true a b=a:=id (Eq.refl a)
theorem q01 {α:Type} (a b:Option α):cnd false a b=b:=id (Eq.refl b)
end Ev

namespace Ev
open Go
theorem qpg {n:Int} (h1:-9223372036854775808≤n) (h2:n≤9223372036854775807):IntKind.i64.wrap n=n:=by simp only [IntKind.wrap,IntKind.bits,IntKind.signed];simp;split<;>omega
theorem z2g (n:Int):IntKind.u8.wrap n=n % 256:=by simp only [IntKind.wrap,IntKind.bits,IntKind.signed];simp
theorem q7e {a b:Int} (h1:-9223372036854775808≤a+b) (h2:a+b≤9223372036854775807):addI .i64 a b=a+b:=qpg h1 h2
theorem q3j {a b:Int} (h1:-9223372036854775808≤a-b) (h2:a-b≤9223372036854775807):subI .i64 a b=a-b:=qpg h1 h2
theorem z0t (a:Int):cvI .u8 a=a % 256:=z2g a
theorem inK_i64 {n:Int}:inK .i64 n↔-9223372036854775808≤n∧n≤9223372036854775807:=by simp [inK,IntKind.min,IntKind.max,IntKind.signed,IntKind.bits]
theorem qz6 {a:Int} (s:Nat) (hs:s≤64):shrI .i64 a (s:Int)=some (a / 2 ^ s):=by
 unfold shrI;rw [if_neg (by omega)];have:min (s:Int).toNat IntKind.i64.bits=s:=by show min ((s:Int).toNat) 64=s;simp;omega
 rw [this,Int.fdiv_eq_ediv_of_nonneg _ (Int.pow_nonneg (by omega))]
theorem qph {a b:Int} (ha:0≤a) (hb:0<b):remI a b=some (a % b):=by unfold remI;rw [if_neg (by omega),Int.tmod_eq_emod_of_nonneg ha]
theorem q17 {α:Type} (a b:Int) (x y:Option α):cnd (ltI a b) x y=if a<b then x else y:=by unfold ltI;by_cases h:a<b<;>simp [h,cnd]
theorem qpi {α:Type} (a b:Int) (x y:Option α):cnd (eqI a b) x y=if a=b then x else y:=by
 unfold eqI;by_cases h:a=b
 ·subst h;rw [if_pos rfl,beq_self_eq_true];rfl
 ·rw [if_neg h,beq_false_of_ne h];rfl
theorem qig {α:Type} (a b:List Int) (x y:Option α):cnd (eqS a b) x y=if a=b then x else y:=by
 unfold eqS;by_cases h:a=b
 ·subst h;rw [if_pos rfl,beq_self_eq_true];rfl
 ·rw [if_neg h,beq_false_of_ne h];rfl
theorem q1j (a:Int):eqI a a=true:=by simp [eqI]
theorem eqI_eq {a b:Int}:eqI a b=true↔a=b:=by simp [eqI]
theorem q2u {a b:Int} (h:a≠b):eqI a b=false:=by simp [eqI,h]
theorem q12 (a:List Int):eqS a a=true:=by simp [eqS]
theorem q05 {α:Type} {l:List α} {i:Nat} {x:α} (h:l[i]?=some x):at? l (i:Int)=some x:=by unfold at?;rw [if_pos (by omega)];simpa using h
theorem qpj {n:Int} (h:n≤2147483648):fit n=some ():=by unfold fit;rw [if_pos h]
end Ev

namespace Ev
open Go
theorem law_contractB {H:Type} {enc:TypeId×Value→H} {C:Cx} {W:World} {base:Nat} {laid:List (String×DataW Unit)} (hS:qpf C laid) {f:FuncId} {fn:Func} {s:ChangeSpec} (Ts:List Ty) (tb:TypeId) (hl:quw C fn.params.toList Ts=true) (hm:(fn.params.toList.all fun t=>decide (t<C.P.types.size))=true) (hf:fn.resultTypes=#[tb]) (hn:C.P.underlying tb=some .bool) (hc:s.vars=[]) (he:∀ds:List (DataW H),ds.length=Ts.length→s.fn H ds={results:=[.lit (.bool true)],args:=ds}) {args:Array Value} {ds gs:List (DataW H)} {before:List MemPlace}
  (hg:∀(j:Nat) t v,fn.params[j]?=some t→args[j]?=some v→Value.okWide C.P W .any base t v) (hW:DataW.Whole enc C.P fn.params.toList s.vars false W args.toList ds gs before) (hL:laidMetH C.P laid W)
  (hj:∀x:denA Ts,goodA Ts x→datA Ts (ds++gs)=some x→qri C ⟨f,⟨Ts.map Sh.d,[]⟩,⟨[Sh.d .bool],[]⟩,[]⟩ x (true,())):
  Calls C.P f args W fun e W'=>∃v,e=.returned v∧s.post enc C.P fn false true false false W args v W':=
 qkp hS Ts tb hl (fun t ht=>by simpa using zS.1 hm t ht) hf hn hc he hg hW hL hj
end Ev

namespace Ev
open Go
theorem qct:∀s:List Int,strLt s s=false
 |[]=>rfl
 |a::s=>by simp [strLt,qct s]
theorem q9v:∀s t u:List Int,strLt s t=true→strLt t u=true→strLt s u=true
 |[],[],_,h,_=>by cases h
 |_::_,[],_,h,_=>by cases h
 |_,_::_,[],_,h=>by cases h
 |[],_::_,_::_,_,_=>rfl
 |a::s,b::t,c::u,h1,h2=>by
  simp only [strLt,Bool.or_eq_true,zd,decide_eq_true_eq] at h1 h2 ⊢;rcases h1 with h1|⟨h1,h3⟩<;>rcases h2 with h2|⟨h2,h4⟩
  ·exact .inl (by omega)
  ·exact .inl (by omega)
  ·exact .inl (by omega)
  ·exact .inr ⟨by omega,q9v s t u h3 h4⟩
theorem q9w:∀s t:List Int,strLt s t=false→strLt t s=false→s=t
 |[],[],_,_=>rfl
 |[],_::_,h,_=>by cases h
 |_::_,[],_,h=>by cases h
 |a::s,b::t,h1,h2=>by
  simp only [strLt,Bool.or_eq_false_iff,Bool.and_eq_false_iff,decide_eq_false_iff_not] at h1 h2;obtain ⟨h1,h3⟩:=h1;obtain ⟨h2,h4⟩:=h2;have e:a=b:=by omega
  subst e;rw [q9w s t (h3.resolve_left fun h=>h rfl) (h4.resolve_left fun h=>h rfl)]
end Ev

namespace Ev
def qc2 (l:List Int):Bool:=l.all (fun b=>decide (0≤b∧b≤255))&&decide (l.length≤9223372036854775807)
theorem qv0 {l:List Int} (h:qc2 l=true):(∀b,b∈l→0≤b∧b≤255)∧l.length≤9223372036854775807:=by unfold qc2 at h;simp only [zd,decide_eq_true_eq,zS] at h;exact h
end Ev

namespace Ev
open Go
def noO:Nat→Obj:=fun _=>.none
def ixB (c:Int):List Int→Int
 |[]=>-1
 |b::r=>if b=c then 0 else if ixB c r<0 then -1 else ixB c r+1
theorem qv1 (c:Int):∀l,-1≤ixB c l∧ixB c l≤l.length
 |[]=>⟨Int.le_refl _,(by show (-1:Int)≤0;decide)⟩
 |b::r=>by
  have:=qv1 c r;unfold ixB;rw [zw];split
  ·omega
  ·split<;>omega
theorem qkq (c:UInt8):∀l:List UInt8,Lib.indexByte l c=ixB (c.toNat:Int) (l.map fun b=>(b.toNat:Int))
 |[]=>rfl
 |b::r=>by
  have ih:=qkq c r;have hg:=qv1 (c.toNat:Int) (r.map fun b=>(b.toNat:Int));rw [zV];unfold Lib.indexByte ixB;rw [ih];by_cases h:b=c
  ·subst h;simp
  ·have h1:(b==c)=false:=by simpa using h
   have h2:¬(b.toNat:Int)=(c.toNat:Int):=fun e=>h (UInt8.toNat_inj.1 (by omega));rw [h1,if_neg h2];simp only [Bool.false_eq_true,if_false,beq_iff_eq];by_cases h3:ixB (c.toNat:Int) (r.map fun b=>(b.toNat:Int))=-1
   ·rw [if_pos h3,if_pos (by omega)]
   ·rw [if_neg h3,if_neg (by omega)]
def z52 (f:Nat):Sig:=⟨f,⟨[.d .str,.d (.int .u8)],[]⟩,⟨[.d (.int .i64)],[]⟩,[]⟩
theorem z3x {C:Cx} {f:Nat} (he:∃fn,C.P.funcs[f]?=some fn∧fn.body.isNone=false) (h0:∀(s:ByteArray) (c:Int) w,Calls C.P f #[.string s,.int .u8 c] w fun e w'=>e=.returned (.int .i64 (Lib.indexByte s.data.toList c.toNat.toUInt8))∧w'=w) (l:List Int) (c:Int):qri C (z52 f) (l,c,()) (ixB c l,()):=by
 intro X φ w zs hm hz;have hm:MRel C X φ noO w:=hm;have hz:q0m φ noO (immB X φ noO w) w [.d .str l,.d (.int .u8) c] zs:=hz;refine ⟨he,?_⟩;obtain ⟨z0,r0,rfl,g1,z1,r1,rfl,g2,g3⟩:=hz;have g3:r1=[]:=g3;subst g3;obtain ⟨s,rfl,hs,hl⟩:=q38 g1;obtain ⟨rfl,hc⟩:=q2q g2;refine Calls.mono (h0 s c w) fun e w' ⟨e1,e2⟩=>?_;subst e1 e2;have hj:0≤c∧c≤255:=hc;have ec:((c.toNat.toUInt8).toNat:Int)=c:=by have:(c.toNat.toUInt8).toNat=c.toNat % 256:=rfl;rw [this];omega
 have hv:Lib.indexByte s.data.toList c.toNat.toUInt8=ixB c l:=by rw [qkq,ec,hs]
 have hg:=qv1 c l;have hf:l.length=s.size:=by rw [←hs];simp
 unfold maxL at hl;rw [hv];refine ⟨[.int .i64 (ixB c l)],φ,X,rfl,fun _ h=>h,hm,⟨_,[],rfl,q2r ?_,rfl⟩,Hist.refl _ _ _ _⟩;show (-9223372036854775808:Int)≤_∧_≤(9223372036854775807:Int);omega
end Ev

namespace Ev
open Go
theorem mkC {C:Cx} {k:Nat} {O:q1r C.sigs} (b:Lf→q1r C.sigs→denP (q0a C.sigs k).ins.tys→Option (denP (q0a C.sigs k).outs.tys)) {f:denP (q0a C.sigs k).ins.tys→Option (denP (q0a C.sigs k).outs.tys)} (hO:quz C O) (e:∀L R x,qja L C R k x=b L R x) (o:∀x,b lf O x=f x):CallsAs C k f:=fun x y h=>Call.mk (C:=C) O hO k x y (((e lf O x).trans (o x)).trans h)
theorem mkG {C:Cx} {k:Nat} (b:Lf→q1r C.sigs→denP (q0a C.sigs k).ins.tys→Option (denP (q0a C.sigs k).outs.tys)) {F:(denP (q0a C.sigs k).ins.tys→Option (denP (q0a C.sigs k).outs.tys))→denP (q0a C.sigs k).ins.tys→Option (denP (q0a C.sigs k).outs.tys)} {O:(denP (q0a C.sigs k).ins.tys→Option (denP (q0a C.sigs k).outs.tys))→q1r C.sigs} (hO:∀g,CallsAs C k g→quz C (O g)) (e:∀L R x,qja L C R k x=b L R x) (o:∀g x,b lf (O g) x=F g x):CallsAs C k (recR F):=z2f fun g hg x y h=>Call.mk (C:=C) (O g) (hO g hg) k x y (((e lf (O g) x).trans (o g x)).trans h)
end Ev

