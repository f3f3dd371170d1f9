/- Declarations of types, modules, and the law, in plain words. -/
import Derived.Test.YtdgmbemagoakjaaGreatDoorPlainC
set_option linter.defProp false
namespace Ev
open Go
namespace Fn
def dM{α:Type}{l:List α}{k:Nat}{x:α}(h:l[k]?=some x):aL (k:Int) (ae l)=true:=by have:=(zE.1 h).1;exact zt (by unfold ae;omega)
def fm{α:Type}(l:List α):aL ((l.length:Nat):Int) (ae l)=false:=zo (by unfold ae;omega)
def Vg{α β:Type}{x:Option α}{a:α}(h:x=some a)(f:α->Option β):az x f=f a:=by rw[h,af]
def nV{α:Type}{l:List α}{k:Nat}{x:α}(h:l[k]?=some x):k<l.length:=(zE.1 h).1
def scan{α ρ:Type}(stop:Nat->α->Option ρ)(R:ρ):Nat->List α->ρ
 |_,[]=>R
 |k,x::r=>match stop k x with
  |some y=>y
  |none=>scan stop R (k+1) r
def kZ{σ ρ α:Type}(f:σ->Option (σ⊕ρ))(S:Int->σ)(l:List α)(hl:l.length<=1000000)(stop:Nat->α->Option ρ)(R:ρ)(he:∀(k:Nat) x,l[k]?=some x->k<=1000000->f (S k)=some (match stop k x with|some y=>.inr y|none=>.inl (S ((k+1:Nat):Int))))(hf:f (S ((l.length:Nat):Int))=some (.inr R)):aD f (S 0)=some (scan stop R 0 l):=by
 have aux:∀(r:List α) (k:Nat),l.drop k=r->k<=l.length->aD f (S k)=some (scan stop R k r):=by
  intro r
  induction r with
  |nil=>
   intro k h hk;have:l.length<=k:=List.drop_eq_nil_iff.1 h;obtain rfl:k=l.length:=om
   exact bZ hf
  |cons x r ih=>
   intro k h hk;have hg:k<l.length:=by grind
   rw[jW hg] at h;injection h with h1 h2;have hx:l[k]?=some x:=by rw[zf hg,h1]
   have hs:=he k x hx om;unfold scan;cases hc:stop k x with
   |some y=>rw[hc] at hs;exact bZ hs
   |none=>
    rw[hc] at hs;rw[cU hs]
    grind
 grind
def jJ{α:Type}(p:α->Bool):Nat->List α->Int
 |_,[]=>-1
 |k,x::r=>bif p x then(k:Int) else jJ p (k+1) r
def zhb{τ α:Type}{O:Int->τ}{p:α->Bool}(r:List α)(k:Nat):scan (fun k x=>bif p x then some (O k) else none) (O (-1)) k r=O (jJ p k r):=by
 induction r generalizing k with
 |nil=>rfl
 |cons x r ih=>
  unfold scan jJ;cases p x with
  |true=>rfl
  |false=>exact ih (k+1)
def yu{σ τ α:Type}(f:σ->Option (σ⊕τ))(S:Int->σ)(O:Int->τ)(l:List α)(hl:l.length<=1000000)(p:α->Bool)(hc:∀(k:Nat) x,l[k]?=some x->k<=1000000->f (S k)=some (bif p x then .inr (O k) else .inl (S ((k+1:Nat):Int))))(he:f (S ((l.length:Nat):Int))=some (.inr (O (-1)))):aD f (S 0)=some (O (jJ p 0 l)):=by have h:=kZ f S l hl (fun k x=>bif p x then some (O k) else none) (O (-1)) (fun k x hx hk=>by rw[hc k x hx hk];cases p x<;>rfl) he;rw[h,zhb]
def E5{α:Type}(p:α->Bool)(l:List α)(k:Nat):bJ 0 (jJ p k l)=l.any p:=by
 induction l generalizing k with
 |nil=>rfl
 |cons x r ih=>
  unfold jJ;rw[List.any_cons];cases p x with
  |true=>exact zt (by show(0:Int)<=(k:Int);omega)
  |false=>exact ih (k+1)
def zew{α:Type}(p:α->Bool)(l:List α)(k:Nat):aL (jJ p k l) 0=!l.any p:=by
 rw[<-E5 p l k];generalize jJ p k l=z;unfold aL bJ
 grind
def z91{α β ρ:Type}(g:Nat->β->α->β⊕ρ)(fin:β->ρ):Nat->β->List α->ρ
 |_,a,[]=>fin a
 |k,a,x::r=>match g k a x with
  |.inl a'=>z91 g fin (k+1) a' r
  |.inr y=>y
def z4d{σ ρ α β:Type}(f:σ->Option (σ⊕ρ))(S:Int->β->σ)(l:List α)(g:Nat->β->α->β⊕ρ)(fin:β->ρ)(I:Nat->β->Prop)(a0:β)(h0:I 0 a0)(he:∀(k:Nat) x a,l[k]?=some x->I k a->f (S k a)=some (match g k a x with|.inl a'=>.inl (S ((k+1:Nat):Int) a')|.inr y=>.inr y)/\∀a',g k a x=.inl a'->I (k+1) a')(hf:∀a,I l.length a->f (S ((l.length:Nat):Int) a)=some (.inr (fin a))):aD f (S 0 a0)=some (z91 g fin 0 a0 l):=by
 have aux:∀(r:List α) (k:Nat) (a:β),l.drop k=r->k<=l.length->I k a->aD f (S k a)=some (z91 g fin k a r):=by
  intro r
  induction r with
  |nil=>
   intro k a h hk hi;have:l.length<=k:=List.drop_eq_nil_iff.1 h;obtain rfl:k=l.length:=om
   exact bZ (hf a hi)
  |cons x r ih=>
   intro k a h hk hi;have hg:k<l.length:=by grind
   rw[jW hg] at h;injection h with h1 h2;have hx:l[k]?=some x:=by rw[zf hg,h1]
   obtain⟨hs,hj⟩:=he k x a hx hi;unfold z91;cases hc:g k a x with
   |inr y=>rw[hc] at hs;exact bZ hs
   |inl a'=>
    rw[hc] at hs;rw[cU hs]
    grind
 grind
def z92{α β ρ:Type}(g:β->α->β)(fin:β->ρ)(l:List α)(k:Nat)(a:β):z91 (fun _ a x=>.inl (g a x)) fin k a l=fin (l.foldl g a):=by
 induction l generalizing k a with
 |nil=>rfl
 |cons x r ih=>exact ih (k+1) (g a x)
def ZG{σ ρ α β:Type}(f:σ->Option (σ⊕ρ))(S:Int->β->σ)(l:List α)(g:β->α->β)(fin:β->ρ)(I:Nat->β->Prop)(a0:β)(h0:I 0 a0)(hc:∀(k:Nat) x a,l[k]?=some x->I k a->f (S k a)=some (.inl (S ((k+1:Nat):Int) (g a x)))/\I (k+1) (g a x))(he:∀a,I l.length a->f (S ((l.length:Nat):Int) a)=some (.inr (fin a))):aD f (S 0 a0)=some (fin (l.foldl g a0)):=by rw[z4d f S l (fun _ a x=>.inl (g a x)) fin I a0 h0 (fun k x a hx hi=>⟨(hc k x a hx hi).1,fun a' e=>by injection e with e;rw[<-e];exact(hc k x a hx hi).2⟩) he,z92]
def eE{a b:List Int}:bM a b=true↔a=b:=by simp[bM]
def lN(x:ND):Bool:=bif ag x.1 31 then ag x.2.2.2 0&&(bM x.2.1 []&&(bJ 0 x.2.2.1&&bJ x.2.2.1 1048576)) else
 ag x.1 32&&(ag x.2.2.1 0&&(bif bM x.2.1 [45,62] then ag x.2.2.2 2 else bif bM x.2.1 [105,110,116]||bM x.2.1 [116,101,120,116] then ag x.2.2.2 0 else bif bM x.2.1 [114,101,102] then ag x.2.2.2 1 else gK x.2.1&&bJ x.2.2.2 8))
def qyr(x:ND)(hx:PA x):wB (x,())=some (lN x,()):=by
 obtain⟨a,t,n,c⟩:=x;have hl:=qlm t hx.1;rw[aa4];unfold lN;simp only;cases h1:ag a 31 with
 |true=>cases ag c 0<;>cases bM t []<;>cases bJ 0 n<;>cases bJ n 1048576<;>rfl
 |false=>
  cases h2:ag a 32 with
  |false=>rfl
  |true=>
   cases h3:ag n 0 with
   |false=>rfl
   |true=>
    cases h4:bM t [45,62] with
    |true=>rfl
    |false=>
     cases h5:bM t [105,110,116] with
     |true=>rfl
     |false=>
      cases h6:bM t [116,101,120,116] with
      |true=>rfl
      |false=>
       cases h7:bM t [114,101,102] with
       |true=>simp only[nT,aI,aK,af,h7];rfl
       |false=>simp only[nT,aI,af,cond_false,hl,Bool.true_and,Bool.false_or,h7];unfold gK;cases qe lM t<;>rfl
def JU(l:List ND):Bool:=decide (l.length<=4000)&&(yh l&&l.all lN)
def adA(b:Bool)(l:List ND)(hl:l.length<=1000000)(hg:GL l):wD (⟨b,l⟩,())=some (!l.all lN,()):=by
 have e:aD tK (⟨b,l⟩,ae l,0,())=some (jJ (fun x=>!lN x) 0 l,()):=by
  refine yu tK (fun k=>(⟨b,l⟩,ae l,k,())) (fun z=>(z,())) l hl (fun x=>!lN x) ?_ ?_
  ·intro k x hx hk;obtain⟨a,t,n,c⟩:=x;rw[q5y];simp only[dM hx,aK,aU hx,af,aa5,qyr _ (hg.at hx),aB (show k<=1000000000 by omega),ar];cases lN (a,t,n,c)<;>rfl
  ·rw[q5y];simp only[fm,aI]
 rw[aa7,aa6];refine(Vg e _).trans ?_;rw[E5,List.not_all_eq_any_not]
def z93(l:List ND):aL 4000 (ae l)=!decide (l.length<=4000):=by
 unfold aL ae
 grind
def qpf(b:Bool)(l:List ND)(hl:l.length<=10000)(hg:GL l):qO (⟨b,l⟩,())=some (bif JU l then 0 else 90,()):=by rw[aa8,adA b l om hg,UW b l hl];simp only[z93];unfold JU;cases decide (l.length<=4000)<;>cases yh l<;>cases l.all lN<;>rfl
def z94:gK [45,62]=false:=by kernel_rfl
def zhc:gK [105,110,116]=false:=by kernel_rfl
def zd1:gK [116,101,120,116]=false:=by kernel_rfl
def zhd:gK [114,101,102]=false:=by kernel_rfl
def zd2(b:Bool)(l:List ND)(hl:l.length<=10000)(hg:GL l):Ew (⟨b,l⟩,())=some (JU l,()):=by
 have loop:aD uo (⟨b,l⟩,0,())=some (l.all lN,()):=by
  refine Eq.trans (yu uo (fun k=>(⟨b,l⟩,k,())) (fun z=>(aL z 0,())) l om (fun x=>!lN x) ?_ ?_) ?_
  ·intro k x hx hk;obtain⟨a,t,n,c⟩:=x;have hr:=qlr t (show t.length<=1000000 from(hg.at hx).2.1);have he:aL (k:Int) 0=false:=zo om;rw[qf5];unfold lN;simp only[dM hx,aK,aU hx,af,hr,he];have hc:=aB (show k<=1000000000 by omega);have Vh:aL n 0=!bJ 0 n:=by unfold aL bJ;by_cases h:n<0<;>simp[h]<;>omega
   have lt2:aL 1048576 n=!bJ n 1048576:=by unfold aL bJ;by_cases h:n<=1048576<;>simp[h]<;>omega
   rw[Vh,lt2];cases h1:ag a 31 with
   |true=>cases ag c 0<;>cases bM t []<;>cases bJ 0 n<;>cases bJ n 1048576<;>first|rfl|exact congrArg (fun z:Int=>some (Sum.inl ((⟨b,l⟩:Sl ND),z,()))) hc
   |false=>
    cases h4:bM t [45,62] with
    |true=>rw[eE.1 h4,show qe lM [45,62]=false from z94];cases ag a 32<;>cases ag n 0<;>cases ag c 2<;>first|rfl|exact congrArg (fun z:Int=>some (Sum.inl ((⟨b,l⟩:Sl ND),z,()))) hc
    |false=>
     cases h5:bM t [105,110,116] with
     |true=>rw[eE.1 h5,show qe lM [105,110,116]=false from zhc];cases ag a 32<;>cases ag n 0<;>cases ag c 0<;>first|rfl|exact congrArg (fun z:Int=>some (Sum.inl ((⟨b,l⟩:Sl ND),z,()))) hc
     |false=>
      cases h6:bM t [116,101,120,116] with
      |true=>rw[eE.1 h6,show qe lM [116,101,120,116]=false from zd1];cases ag a 32<;>cases ag n 0<;>cases ag c 0<;>first|rfl|exact congrArg (fun z:Int=>some (Sum.inl ((⟨b,l⟩:Sl ND),z,()))) hc
      |false=>
       cases h7:bM t [114,101,102] with
       |true=>rw[eE.1 h7,show qe lM [114,101,102]=false from zhd];cases ag a 32<;>cases ag n 0<;>cases ag c 1<;>first|rfl|exact congrArg (fun z:Int=>some (Sum.inl ((⟨b,l⟩:Sl ND),z,()))) hc
       |false=>unfold gK;cases ag a 32<;>cases ag n 0<;>cases qe lM t<;>cases bJ c 8<;>first|rfl|exact congrArg (fun z:Int=>some (Sum.inl ((⟨b,l⟩:Sl ND),z,()))) hc
  ·rw[qf5];simp only[fm,aI];rfl
  ·rw[zew,<-List.not_all_eq_any_not,Bool.not_not]
 rw[acH,loop,Zy b l hl];simp only[z93];unfold JU;cases decide (l.length<=4000)<;>cases yh l<;>cases l.all lN<;>rfl
def zex(v:Int)(l:List Int):l.any (fun x=>ag v x)=decide (v∈l):=by
 induction l with
 |nil=>rfl
 |cons a r ih=>
  rw[List.any_cons,ih];by_cases h:v=a
  ·subst h;rw[GC];exact(zt (zg ..)).symm
  ·rw[eB h,Bool.false_or]
   grind
def qqa(b:Bool)(l:List Int)(v:Int)(hl:l.length<=1000000):sL (⟨b,l⟩,v,())=some (decide (v∈l),()):=by
 have e:aD tM (⟨b,l⟩,v,ae l,0,())=some (jJ (fun x=>ag v x) 0 l,()):=by
  refine yu tM (fun k=>(⟨b,l⟩,v,ae l,k,())) (fun z=>(z,())) l hl (fun x=>ag v x) ?_ ?_
  ·intro k x hx hk;rw[qa8];simp only[dM hx,aK,aU hx,af,aB (show k<=1000000000 by omega)];cases ag v x<;>rfl
  ·rw[qa8];simp only[fm,aI]
 rw[abd,abc];refine(Vg e _).trans ?_;rw[E5,zex]
def z4e(b:Bool)(l:List Int)(v:Int)(hl:l.length<=1000000):∃z,Ey (⟨b,l⟩,v,())=some (z,())/\aL z 0=!decide (v∈l):=by
 refine⟨jJ (fun x=>ag x v) 0 l,?_,?_⟩
 ·rw[acI];refine yu x9 (fun k=>(⟨b,l⟩,v,k,())) (fun z=>(z,())) l hl (fun x=>ag x v) ?_ ?_
  ·intro k x hx hk;rw[qf6];simp only[dM hx,aK,aU hx,af,aB (show k<=1000000000 by omega)];cases ag x v<;>rfl
  ·rw[qf6];simp only[fm,aI]
 ·rw[zew,<-zex];congr 2;funext x;by_cases h:v=x
  ·subst h;rfl
  ·rw[eB h,eB fun e=>h e.symm]
def vf(a:List Int)(x:ND):List Int:=bif ag x.1 31&&!decide (x.2.2.1∈a) then a++[x.2.2.1] else a
def zd3(a:List Int)(x:ND):(vf a x).length<=a.length+1:=by
 unfold vf;cases (ag x.1 31&&!decide (x.2.2.1∈a)) with
 |true=>rw[cond_true,zd];exact Nat.le_refl _
 |false=>exact Nat.le_succ _
def z1c(p:Int->Bool)(l:List ND):∀a:List Int,(l.foldl vf a).any p=(a.any p||l.any fun x=>ag x.1 31&&p x.2.2.1):=by
 induction l with
 |nil=>intro a;simp
 |cons x r ih=>
  intro a;rw[List.foldl_cons,ih,List.any_cons,<-Bool.or_assoc];congr 1;unfold vf;cases ag x.1 31 with
  |false=>simp
  |true=>grind
def jE(a:Sl Int)(x:ND):Sl Int:=bif ag x.1 31&&!decide (x.2.2.1∈a.l) then⟨false,a.l++[x.2.2.1]⟩ else a
def z95(l:List ND):∀a:Sl Int,(l.foldl jE a).l=l.foldl vf a.l:=by
 induction l with
 |nil=>intro a;rfl
 |cons x r ih=>intro a;rw[List.foldl_cons,List.foldl_cons,ih];congr 1;unfold jE vf;cases (ag x.1 31&&!decide (x.2.2.1∈a.l))<;>rfl
def qt8(a:Sl Int)(x:ND):(jE a x).l.length<=a.l.length+1:=by have:=z95 [x] a;rw[List.foldl_cons,List.foldl_nil,List.foldl_cons,List.foldl_nil] at this;rw[this];exact zd3 _ _
def z4f(b:Bool)(l:List ND)(hl:l.length<=10000)(hg:GL l)(ht:JU l=true):Ap (⟨b,l⟩,())=some (l.foldl jE ⟨true,[]⟩,()):=by
 rw[abe,qpf b l hl hg,ht,af];show aD tN (⟨b,l⟩,ae l,0,⟨true,[]⟩,())=_;refine ZG tN (fun k a=>(⟨b,l⟩,ae l,k,a,())) l jE (fun a=>(a,())) (fun k a=>k<=l.length/\a.l.length<=k) ⟨true,[]⟩ ⟨Nat.zero_le _,Nat.le_refl _⟩ ?_ ?_
 ·intro k x a hx hi;obtain⟨nb,a⟩:=a;have hk:=nV hx;have h2:a.length<=k:=hi.2;have he:=aB (show k<=1000000000 by omega);have hc:=qqa nb a x.2.2.1 om;have hf:fit (bS (ae a) (ae [x.2.2.1]))=some ():=il (by show a.length+1<=_;omega);refine⟨?_,⟨hk,by have:=qt8 ⟨nb,a⟩ x;have:=hi.2;simp only at*;omega⟩⟩;rw[qmf];unfold jE;simp only[dM hx,aK,aU hx,af,hc,hf,JF,ar,app];cases ag x.1 31<;>cases decide (x.2.2.1∈a)<;>simp only[Bool.not_true,Bool.not_false,Bool.and_true,Bool.and_false,cond_true,cond_false,aK,aI,af,he]
 ·intro a _;rw[qmf];simp only[fm,aI]
def qys(b:Bool)(l:List ND)(hl:l.length<=10000):Ez (⟨b,l⟩,())=some (l.foldl jE ⟨false,[]⟩,()):=by
 rw[acJ];refine ZG ya (fun k a=>(⟨b,l⟩,k,a,())) l jE (fun a=>(a,())) (fun k a=>k<=l.length/\a.l.length<=k) ⟨false,[]⟩ ⟨Nat.zero_le _,Nat.le_refl _⟩ ?_ ?_
 ·intro k x a hx hi;obtain⟨nb,a⟩:=a;have hk:=nV hx;have h2:a.length<=k:=hi.2;have he:=aB (show k<=1000000000 by omega);obtain⟨z,hc,hz⟩:=z4e nb a x.2.2.1 om;have hf:fit (bS (ae a) (ae [x.2.2.1]))=some ():=il (by show a.length+1<=_;omega);refine⟨?_,⟨hk,by have:=qt8 ⟨nb,a⟩ x;have:=hi.2;simp only at*;omega⟩⟩;rw[qh9];unfold jE;simp only[dM hx,aK,aU hx,af,hc,hz,hf,JF,app];cases ag x.1 31<;>cases decide (x.2.2.1∈a)<;>simp only[Bool.not_true,Bool.not_false,Bool.and_true,Bool.and_false,cond_true,cond_false,aK,aI,af,he]
 ·intro a _;rw[qh9];simp only[fm,aI]
abbrev SN:=Sl ND
abbrev CT:=Tx×Sl SN
abbrev DD:=Tx×Int×Sl CT
def gT(s:Tx):Prop:=(∀b,b∈s->0<=b/\b<=255)/\s.length<=1000000
def gA(t:SN):Prop:=GL t.l/\t.l.length<=10000
def gC(c:CT):Prop:=gT c.1/\c.2.l.length<=1000/\∀t,t∈c.2.l->gA t
def gD(d:DD):Prop:=gT d.1/\d.2.2.l.length<=1000/\∀c,c∈d.2.2.l->gC c
def GD(L:List DD):Prop:=L.length<=1000/\∀d,d∈L->gD d
def vE(p:Int)(t:List ND):Bool:=JU t&&!(t.any fun x=>ag x.1 31&&bJ p x.2.2.1)
def F1(p:Int)(c:CT):Bool:=gK c.1&&(bJ (ae c.2.l) 8&&c.2.l.all fun t=>vE p t.l)
def rz(d:DD):Bool:=gK d.1&&(bJ 0 d.2.1&&(bJ d.2.1 8&&(bJ 1 (ae d.2.2.l)&&(bJ (ae d.2.2.l) 60&&d.2.2.l.all (F1 d.2.1)))))
def qlt(s:Tx)(hs:gT s):oY (s,())=some (gK s,()):=by rw[aa3,qlm s hs.1,af];rfl
def qt9(s:Tx)(hs:gT s):q7 (s,())=some (gK s,()):=by rw[acE,qlr s hs.2,af];rfl
def ZH(a b:Int):aL a b=!bJ b a:=by
 unfold aL bJ
 grind
def qw9(l:List ND):∀a:Sl Int,(l.foldl jE a).l.length<=a.l.length+l.length:=by
 induction l with
 |nil=>intro a;exact Nat.le_refl _
 |cons x r ih=>
  intro a;rw[List.foldl_cons];have h1:=ih (jE a x);have h2:=qt8 a x
  grind
def zd5(n:Tx)(p:Int)(cs:Sl CT)(t:SN)(ht:gA t):sM (t,n,p,cs,())=some (!vE p t.l,n,p,cs,()):=by
 obtain⟨b,l⟩:=t;obtain⟨hg,hl⟩:=ht;have hl:l.length<=10000:=hl;rw[abg,abf,qpf b l hl hg];unfold vE;cases hc:JU l with
 |false=>rfl
 |true=>
  have hv:=z4f b l hl hg hc;have he:=qw9 l ⟨true,[]⟩;have ha:=z1c (fun v=>bJ p v) l [];rw[List.any_nil,Bool.false_or] at ha;rw[<-show(l.foldl jE ⟨true,[]⟩).l=l.foldl vf [] from z95 l _] at ha;have he:(l.foldl jE ⟨true,[]⟩).l.length<=0+l.length:=he;generalize l.foldl jE ⟨true,[]⟩=vs at hv he ha;have e:aD tL (vs,ae vs.l,0,n,p,cs,())=some (jJ (fun v=>bJ p v) 0 vs.l,n,p,cs,()):=by
   refine yu tL (fun k=>(vs,ae vs.l,k,n,p,cs,())) (fun z=>(z,n,p,cs,())) vs.l om (fun v=>bJ p v) ?_ ?_
   ·intro k x hx hk;rw[q5z];simp only[dM hx,aK,aU hx,af,aa9,aB (show k<=1000000000 by omega)];cases bJ p x<;>rfl
   ·rw[q5z];simp only[fm,aI]
  rw[af];simp only[cond_true,xi,aK,af,hv,abb,aba,e,E5,ha,Bool.true_and,ar,Bool.not_not]
def z96(n:Tx)(p:Int)(cs:Sl CT)(a:Sl SN)(ha:a.l.length<=1000)(hg:∀t,t∈a.l->gA t):sO (a,n,p,cs,())=some (!(a.l.all fun t=>vE p t.l),n,p,cs,()):=by
 have e:aD tO (a,ae a.l,0,n,p,cs,())=some (jJ (fun t=>!vE p t.l) 0 a.l,n,p,cs,()):=by
  refine yu tO (fun k=>(a,ae a.l,k,n,p,cs,())) (fun z=>(z,n,p,cs,())) a.l om (fun t=>!vE p t.l) ?_ ?_
  ·intro k x hx hk;rw[q60];simp only[dM hx,aK,aU hx,af,zd5 n p cs x (hg x (zv hx)),aB (show k<=1000000000 by omega)];cases vE p x.l<;>rfl
  ·rw[q60];simp only[fm,aI]
 rw[abi,abh,e,af,E5,List.not_all_eq_any_not]
def ZI{α ρ:Type}(p:α->Bool)(A R:ρ)(l:List α)(k:Nat):scan (fun _ x=>bif p x then none else some A) R k l=bif l.all p then R else A:=by
 induction l generalizing k with
 |nil=>rfl
 |cons x r ih=>
  unfold scan;rw[List.all_cons];cases p x with
  |true=>exact ih (k+1)
  |false=>rfl
def qyt(d:DD)(hd:gD d):Ar (d,())=some (rz d,()):=by
 obtain⟨n,p,cs⟩:=d;obtain⟨h1,h2,h3⟩:=hd;have h2:cs.l.length<=1000:=h2;have e:aD tP (cs,ae cs.l,0,n,p,cs,())=some (cs.l.all (F1 p),()):=by
  refine(kZ tP (fun k=>(cs,ae cs.l,k,n,p,cs,())) cs.l om (fun _ c=>bif F1 p c then none else some (false,())) (true,()) ?_ ?_).trans ?_
  ·intro k c hx hk;obtain⟨g1,g2,g3⟩:=h3 c (zv hx);have hc:=aB (show k<=1000000000 by omega);rw[qh7];unfold F1;simp only[dM hx,aK,aU hx,af,qlt c.1 g1,ZH 8,z96 n p cs c.2 g2 g3,hc];cases gK c.1<;>cases bJ (ae c.2.l) 8<;>cases (c.2.l.all fun t=>vE p t.l)<;>rfl
  ·rw[qh7];simp only[fm,aI]
  ·rw[ZI];cases cs.l.all (F1 p)<;>rfl
 rw[abj,qlt n h1,e];unfold rz;simp only[af,ZH];cases gK n<;>cases bJ 0 p<;>cases bJ p 8<;>cases bJ 1 (ae cs.l)<;>cases bJ (ae cs.l) 60<;>rfl
def F2{α ρ:Type}(p:α->Bool)(A R:ρ)(l:List α)(k:Nat):scan (fun _ x=>bif p x then some A else none) R k l=bif l.any p then A else R:=by
 induction l generalizing k with
 |nil=>rfl
 |cons x r ih=>
  unfold scan;rw[List.any_cons];cases p x with
  |false=>exact ih (k+1)
  |true=>rfl
def zhe(c a:Int)(vs:Sl Int)(n:Tx)(p:Int)(cs:Sl CT)(cn:Tx)(as:Sl SN)(hv:vs.l.length<=1000000):aD uq (c,a,vs,0,n,p,cs,cn,as,())=some (bif vs.l.any (bJ p) then .inr (.inr (false,())) else .inl (c,cE .i64 a 1,n,p,cs,cn,as,())):=by
 refine(kZ uq (fun k=>(c,a,vs,k,n,p,cs,cn,as,())) vs.l hv (fun _ v=>bif bJ p v then some (.inr (.inr (false,()))) else none) (.inl (c,cE .i64 a 1,n,p,cs,cn,as,())) ?_ ?_).trans ?_
 ·intro k v hx hk;rw[qf7];simp only[dM hx,aK,aU hx,af,aB (show k<=1000000000 by omega)];cases bJ p v<;>rfl
 ·rw[qf7];simp only[fm,aI]
 ·rw[F2]
def zhf(c:Int)(n:Tx)(p:Int)(cs:Sl CT)(cn:Tx)(as:Sl SN)(ha:as.l.length<=1000)(hg:∀t,t∈as.l->gA t):aD ur (c,0,n,p,cs,cn,as,())=some (bif as.l.all (fun t=>vE p t.l) then .inl (cE .i64 c 1,n,p,cs,()) else .inr (false,())):=by
 refine(kZ ur (fun k=>(c,k,n,p,cs,cn,as,())) as.l om (fun _ t=>bif vE p t.l then none else some (.inr (false,()))) (.inl (cE .i64 c 1,n,p,cs,())) ?_ ?_).trans ?_
 ·intro k t hx hk;obtain⟨b,l⟩:=t;obtain⟨hg,hl⟩:=hg _ (zv hx);have hl:l.length<=10000:=hl;have hv:=qys b l hl;have hc:=qw9 l ⟨false,[]⟩;have ha:=z1c (fun v=>bJ p v) l [];rw[List.any_nil,Bool.false_or] at ha;rw[<-show(l.foldl jE ⟨false,[]⟩).l=l.foldl vf [] from z95 l _] at ha;have hc:(l.foldl jE ⟨false,[]⟩).l.length<=0+l.length:=hc;generalize l.foldl jE ⟨false,[]⟩=vs at hv hc ha;rw[qf8];unfold vE;simp only[dM hx,aK,aU hx,af,zd2 b l hl hg,hv,zhe _ _ vs n p cs cn as om,aB (show k<=1000000000 by omega),ha];cases JU l<;>cases (l.any fun x=>ag x.1 31&&bJ p x.2.2.1)<;>rfl
 ·rw[qf8];simp only[fm,aI]
 ·rw[ZI]
def zd6(d:DD)(hd:gD d):EA (d,())=some (rz d,()):=by
 obtain⟨n,p,cs⟩:=d;obtain⟨h1,h2,h3⟩:=hd;have h2:cs.l.length<=1000:=h2;have e:aD uu (0,n,p,cs,())=some (cs.l.all (F1 p),()):=by
  refine(kZ uu (fun k=>(k,n,p,cs,())) cs.l om (fun _ c=>bif F1 p c then none else some (false,())) (true,()) ?_ ?_).trans ?_
  ·intro k c hx hk;obtain⟨g1,g2,g3⟩:=h3 c (zv hx);have hc:=aB (show k<=1000000000 by omega);rw[qf9];unfold F1;simp only[dM hx,aK,aU hx,af,qt9 c.1 g1,ZH 8,zhf _ n p cs c.1 c.2 g2 g3,hc];cases gK c.1<;>cases bJ (ae c.2.l) 8<;>cases (c.2.l.all fun t=>vE p t.l)<;>rfl
  ·rw[qf9];simp only[fm,aI]
  ·rw[ZI];cases cs.l.all (F1 p)<;>rfl
 rw[acK,qt9 n h1,e];unfold rz;simp only[af,ZH];cases gK n<;>cases bJ 0 p<;>cases bJ p 8<;>cases bJ 1 (ae cs.l)<;>cases bJ (ae cs.l) 60<;>rfl
def iE{α:Type}(q:Nat->α->Bool):Nat->List α->Bool
 |_,[]=>false
 |k,x::r=>q k x||iE q (k+1) r
def BK{α ρ:Type}(q:Nat->α->Bool)(A R:ρ)(l:List α)(k:Nat):scan (fun k x=>bif q k x then some A else none) R k l=bif iE q k l then A else R:=by
 induction l generalizing k with
 |nil=>rfl
 |cons x r ih=>
  unfold scan iE;cases q k x with
  |false=>exact ih (k+1)
  |true=>rfl
def JV:List Tx->List Tx->Bool
 |_,[]=>false
 |pre,a::r=>decide (a∈pre)||JV (pre++[a]) r
def z97:∀(l pre:List Tx),JV pre l=(l.any (fun x=>decide (x∈pre))||bB l)
 |[],_=>rfl
 |a::r,pre=>by
  unfold JV bB;rw[z97 r,List.any_cons]
  grind
def Rr{α:Type}(key:α->Tx)(q:Nat->α->Bool)(L:List α)(h:∀k x,L[k]?=some x->q k x=decide (key x∈(L.take k).map key)):iE q 0 L=bB (L.map key):=by
 have aux:∀(iM pre:List α),L=pre++iM->iE q pre.length iM=JV (pre.map key) (iM.map key):=by
  intro iM
  induction iM with
  |nil=>intro pre _;rfl
  |cons x r ih=>
   intro pre e;have hx:L[pre.length]?=some x:=by rw[e,zO (Nat.le_refl _),Nat.sub_self];rfl
   have ht:L.take pre.length=pre:=by rw[e,List.take_left]
   have h1:=ih (pre++[x]) (by rw[e,zm];rfl);rw[zd,zQ] at h1;unfold iE;rw[h _ x hx,ht];exact congrArg _ h1
 refine(aux L [] rfl).trans ?_;rw[List.map_nil,z97];simp
def z1d{α:Type}(p:α->Bool):∀(l:List α) (i k:Nat) (x:α),l[i]?=some x->p x=true->aL (jJ p k l) ((k+i:Nat):Int)=(l.take i).any p
 |[],_,_,_,h,_=>by cases h
 |a::r,0,k,x,h,hp=>by injection h with h;subst h;unfold jJ;rw[hp,cond_true];exact zo om
 |a::r,i+1,k,x,h,hp=>by
  unfold jJ;rw[List.take_succ_cons,List.any_cons];cases ha:p a with
  |true=>exact zt (by show(k:Int)<_;omega)
  |false=>
   have:=z1d p r i (k+1) x h hp
   grind
def z1e(l:List DD)(n:Tx):(l.any fun x=>bM x.1 n)=decide (n∈l.map fun d=>d.1):=by rw[Bool.eq_iff_iff];simp only[zX,decide_eq_true_eq,zV];exact⟨fun⟨x,h1,h2⟩=>⟨x,h1,eE.1 h2⟩,fun⟨x,h1,h2⟩=>⟨x,h1,eE.2 h2⟩⟩
def PC(i:Nat):Nat->List CT->List ((Int×Int)×Tx)
 |_,[]=>[]
 |k,c::r=>((i,k),c.1)::PC i (k+1) r
def PD:Nat->List DD->List ((Int×Int)×Tx)
 |_,[]=>[]
 |i,d::r=>PC i 0 d.2.2.l++PD (i+1) r
def nW(L:List DD):List Tx:=L.flatMap fun d=>d.2.2.l.map fun c=>c.1
def vF(E:List ((Int×Int)×Tx))(n:Tx):Option (Int×Int):=(E.find? fun e=>bM e.2 n).map fun e=>e.1
def z1f(i:Nat):∀(l:List CT) (k:Nat),(PC i k l).map (fun e=>e.2)=l.map fun c=>c.1
 |[],_=>rfl
 |c::r,k=>by show c.1::_=c.1::_;rw[z1f i r]
def z1g:∀(L:List DD) (i:Nat),(PD i L).map (fun e=>e.2)=nW L
 |[],_=>rfl
 |d::r,i=>by show(PC i 0 d.2.2.l++PD (i+1) r).map _=_;rw[zQ,z1f,z1g r];rfl
def ZJ(i:Nat):∀(l:List CT) (k:Nat) e,e∈PC i k l->e.1.1=(i:Int)/\(k:Int)<=e.1.2
 |[],_,_,h=>by cases h
 |c::r,k,e,h=>by
  rcases zk.1 h with h|h
  ·grind
  ·obtain⟨h1,h2⟩:=ZJ i r (k+1) e h;exact⟨h1,by omega⟩
def z98:∀(L:List DD) (i:Nat) e,e∈PD i L->(i:Int)<=e.1.1
 |[],_,_,h=>by cases h
 |d::r,i,e,h=>by
  rcases zH.1 h with h|h
  ·rw[(ZJ i _ _ e h).1];exact Int.le_refl _
  ·have:=z98 r (i+1) e h;omega
def z1h(i:Nat):∀(l:List CT) (k:Nat),((PC i k l).map fun e=>e.1).Nodup
 |[],_=>List.nodup_nil
 |c::r,k=>by
  show(((i:Int),(k:Int))::(PC i (k+1) r).map _).Nodup;refine List.nodup_cons.2 ⟨fun h=>?_,z1h i r (k+1)⟩;obtain⟨e,h1,h2⟩:=zV.1 h;have:=(ZJ i r (k+1) e h1).2
  grind
def z1i:∀(L:List DD) (i:Nat),((PD i L).map fun e=>e.1).Nodup
 |[],_=>List.nodup_nil
 |d::r,i=>by
  show((PC i 0 d.2.2.l++PD (i+1) r).map _).Nodup;rw[zQ];refine List.nodup_append.2 ⟨z1h i _ _,z1i r (i+1),fun a ha b hb=>?_⟩;obtain⟨e,h1,h2⟩:=zV.1 ha;obtain⟨e',h3,h4⟩:=zV.1 hb;have g1:=(ZJ i _ _ e h1).1;have g2:=z98 r (i+1) e' h3
  grind
def qwa:∀E:List ((Int×Int)×Tx),(E.map fun e=>e.1).Nodup->(E.any fun e=>!decide (vF E e.2=some e.1))=bB (E.map fun e=>e.2)
 |[],_=>rfl
 |e0::r,h=>by
  rw[zN] at h;obtain⟨h1,h2⟩:=List.nodup_cons.1 h;have ih:=qwa r h2;have f0:vF (e0::r) e0.2=some e0.1:=by unfold vF;rw[List.find?_cons_of_pos (p:=fun e:(Int×Int)×Tx=>bM e.2 e0.2) (GF e0.2)];rfl
  rw[List.any_cons,f0,zN];unfold bB;rw[<-ih];have hd:(!decide ((some e0.1:Option (Int×Int))=some e0.1))=false:=by simp
  rw[hd,Bool.false_or];rw[Bool.eq_iff_iff];simp only[zX,Bool.or_eq_true,decide_eq_true_eq,zV,Bool.not_eq_true',decide_eq_false_iff_not];have fr:∀e,e∈r->e.2≠e0.2->vF (e0::r) e.2=vF r e.2:=fun e _ hc=>by unfold vF;rw[List.find?_cons_of_neg (p:=fun x:(Int×Int)×Tx=>bM x.2 e.2) (fun hh=>hc (eE.1 hh).symm)]
  grind
def Rs(L:List DD)(x:ND):Bool:=L.any fun d=>bM d.1 x.2.1&&ag d.2.1 x.2.2.2
def xj(L:List DD)(x:ND):Bool:=ag x.1 32&&(gK x.2.1&&!Rs L x)
def Be(L:List DD)(c:CT):Bool:=c.2.l.any fun t=>t.l.any (xj L)
def yv(L:List DD):Bool:=L.any fun d=>d.2.2.l.any (Be L)
def zd7(b:Bool)(L:List DD)(hL:GD L):sP (⟨b,L⟩,())=some (!L.all rz,()):=by
 have e:aD tQ (⟨b,L⟩,ae L,0,())=some (jJ (fun d=>!rz d) 0 L,()):=by
  refine yu tQ (fun k=>(⟨b,L⟩,ae L,k,())) (fun z=>(z,())) L (by have:=hL.1;omega) (fun d=>!rz d) ?_ ?_
  ·intro k x hx hk;have hd:=qyt x (hL.2 x (zv hx));obtain⟨n,p,cs⟩:=x;rw[q6l];simp only[dM hx,aK,aU hx,af,abk,hd,aB (show k<=1000000000 by omega),ar];cases rz (n,p,cs)<;>rfl
  ·rw[q6l];simp only[fm,aI]
 rw[abm,abl];refine(Vg e _).trans ?_;rw[E5,List.not_all_eq_any_not]
def zjk(b:Bool)(L:List DD)(hL:GD L)(d:DD):wJ (⟨b,L⟩,d,())=some (jJ (fun x=>bM x.1 d.1) 0 L,()):=by
 obtain⟨n,p,cs⟩:=d;rw[abo];refine yu xM (fun k=>(⟨b,L⟩,(n,p,cs),ae L,k,())) (fun z=>(z,())) L (by have:=hL.1;omega) (fun x=>bM x.1 n) ?_ ?_
 ·intro k x hx hk;obtain⟨m,q,ds⟩:=x;rw[q6m];simp only[dM hx,aK,aU hx,af,abn,aB (show k<=1000000000 by omega)];cases bM m n<;>rfl
 ·rw[q6m];simp only[fm,aI]
def Vi(n:Tx)(i:Nat)(d:DD):Option (Bool×Int×Int×Unit):=bif bJ 0 (jJ (fun c:CT=>bM c.1 n) 0 d.2.2.l) then some (true,(i:Int),jJ (fun c:CT=>bM c.1 n) 0 d.2.2.l,()) else none
def E6(s:Sl DD)(n:Tx)(i:Nat)(z:Int):((Sl DD)×Tx×(Sl DD)×Int×Int×Int×Int×Unit)⊕(Bool×Int×Int×Unit):=bif bJ 0 z then .inr (true,(i:Int),z,()) else .inl (s,n,s,ae s.l,((i+1:Nat):Int),0,0,())
def zkl(s:Sl DD)(hL:GD s.l)(n:Tx):As (s,s,n,0,0,())=some (scan (Vi n) (false,0,0,()) 0 s.l):=by
 rw[abq];refine kZ xN (fun k=>(s,n,s,ae s.l,k,0,0,())) s.l (by have:=hL.1;omega) (Vi n) (false,0,0,()) ?_ ?_
 ·intro i d hd hi;obtain⟨g1,g2,g3⟩:=hL.2 d (zv hd);have e:aD tR (s,n,(i:Int),s,ae s.l,(i:Int),ae d.2.2.l,0,0,0,())=some (E6 s n i (jJ (fun c:CT=>bM c.1 n) 0 d.2.2.l)):=by
   refine yu tR (fun k=>(s,n,(i:Int),s,ae s.l,(i:Int),ae d.2.2.l,k,0,0,())) (E6 s n i) d.2.2.l om (fun c:CT=>bM c.1 n) ?_ ?_
   ·intro k c hc hk;have h0:bJ 0 (k:Int)=true:=zt om;rw[qdx];unfold E6;simp only[dM hc,aK,abp,aU hd,aU hc,af,aB (show k<=1000000000 by omega),h0,cond_true];cases bM c.1 n<;>rfl
   ·have h0:bJ 0 (-1)=false:=id (Eq.refl _);rw[qdx];unfold E6;simp only[fm,aI,h0,cond_false,aB (show i<=1000000000 by omega)]
  rw[qdy];simp only[dM hd,aK,aU hd,af,e];unfold Vi E6;cases bJ 0 (jJ (fun c:CT=>bM c.1 n) 0 d.2.2.l)<;>rfl
 ·rw[qdy];simp only[fm,aI]
def z9a(i:Nat)(n:Tx):∀(l:List CT) (k:Nat),vF (PC i k l) n=bif bJ 0 (jJ (fun c:CT=>bM c.1 n) k l) then some ((i:Int),jJ (fun c:CT=>bM c.1 n) k l) else none
 |[],_=>rfl
 |c::r,k=>by
  unfold PC jJ vF;rw[List.find?_cons];cases hc:bM c.1 n with
  |true=>rfl
  |false=>simp only[cond_false];exact z9a i n r (k+1)
def qrl(n:Tx):∀(L:List DD) (i:Nat),scan (Vi n) (false,0,0,()) i L=match vF (PD i L) n with|some q=>(true,q.1,q.2,())|none=>(false,0,0,())
 |[],_=>rfl
 |d::r,i=>by
  have ih:=qrl n r (i+1);have h:vF (PD i (d::r)) n=(vF (PC i 0 d.2.2.l) n).or (vF (PD (i+1) r) n):=by
   show((PC i 0 d.2.2.l++PD (i+1) r).find? _).map _=_;unfold vF
   grind
  rw[h,z9a];unfold scan Vi;cases bJ 0 (jJ (fun c:CT=>bM c.1 n) 0 d.2.2.l) with
  |true=>rfl
  |false=>exact ih
def zey(P:(Int×Int)×Tx->Bool)(i:Nat):∀(l:List CT) (k:Nat),iE (fun k c=>P (((i:Int),(k:Int)),c.1)) k l=(PC i k l).any P
 |[],_=>rfl
 |c::r,k=>by unfold iE PC;rw[List.any_cons,zey P i r]
def zez(P:(Int×Int)×Tx->Bool):∀(L:List DD) (i:Nat),iE (fun i d=>iE (fun k c=>P (((i:Int),(k:Int)),c.1)) 0 d.2.2.l) i L=(PD i L).any P
 |[],_=>rfl
 |d::r,i=>by unfold iE PD;rw[List.any_append,zey,zez P r]
def Lr(L:List DD)(e:(Int×Int)×Tx):Bool:=!decide (vF (PD 0 L) e.2=some e.1)
def zf0:∀(L:List DD) (i0 i k:Nat) (d:DD) (c:CT),L[i]?=some d->d.2.2.l[k]?=some c->((((i0+i:Nat):Int),(k:Int)),c.1)∈PD i0 L
 |[],_,_,_,_,_,h,_=>by cases h
 |d0::r,i0,0,k,d,c,h,hc=>by
  injection h with h;subst h;refine List.mem_append_left _ ?_;have aux:∀(l:List CT) (k0 k:Nat),l[k]?=some c->(((i0:Int),((k0+k:Nat):Int)),c.1)∈PC i0 k0 l:=by
   intro l
   induction l with
   |nil=>intro k0 k h;cases h
   |cons c0 r ih=>
    intro k0 k h;cases k with
    |zero=>injection h with h;subst h;exact zg ..
    |succ k=>have:=ih (k0+1) k h;rw[show k0+1+k=k0+(k+1) by omega] at this;exact zh _ this
  grind
 |d0::r,i0,i+1,k,d,c,h,hc=>by have:=zf0 r (i0+1) i k d c h hc;rw[show i0+1+i=i0+(i+1) by omega] at this;exact List.mem_append_right _ this
def z4g(s:Sl DD)(hL:GD s.l){i k:Nat}{d:DD}{c:CT}(hd:s.l[i]?=some d)(hc:d.2.2.l[k]?=some c):sQ ((i:Int),(k:Int),s,())=some (Lr s.l (((i:Int),(k:Int)),c.1),s,()):=by
 have hm:=zf0 s.l 0 i k d c hd hc;rw[zC] at hm;have hf:∃q,vF (PD 0 s.l) c.1=some q:=by
  unfold vF;cases h:(PD 0 s.l).find? (fun e=>bM e.2 c.1) with
  |some q=>exact⟨q.1,rfl⟩
  |none=>exact absurd (GF c.1) (List.find?_eq_none.1 h _ hm)
 obtain⟨⟨x,y⟩,hq⟩:=hf;rw[abt,aU hd,af,aU hc,af,abr,zkl s hL,af,qrl,hq,af];unfold Lr;rw[hq];simp only;by_cases h1:x=(i:Int)
 ·by_cases h2:y=(k:Int)
  ·subst h1 h2;rw[GC,GC,zt rfl];rfl
  ·subst h1;rw[GC,eB h2,zo (by intro h;injection h with h;injection h with h h';exact h2 h')];rfl
 ·rw[eB h1,zo (by intro h;injection h with h;injection h with h h';exact h1 h)];rfl
def zkm(s:Sl DD)(hL:GD s.l):wL (s,s,())=some ((PD 0 s.l).any (Lr s.l),s,()):=by
 rw[abu];refine(kZ xP (fun k=>(s,ae s.l,k,s,())) s.l (by have:=hL.1;omega) (fun i d=>bif iE (fun k c=>Lr s.l (((i:Int),(k:Int)),c.1)) 0 d.2.2.l then some (true,s,()) else none) (false,s,()) ?_ ?_).trans ?_
 ·intro i d hd hi;obtain⟨g1,g2,g3⟩:=hL.2 d (zv hd);have e:=kZ xO (fun k=>((i:Int),s,ae s.l,(i:Int),ae d.2.2.l,k,s,())) d.2.2.l om
   (fun k c=>bif Lr s.l (((i:Int),(k:Int)),c.1) then some (.inr (true,s,())) else none) (.inl (s,ae s.l,((i+1:Nat):Int),s,()))
   (fun k c hc hk=>by rw[qji];simp only[dM hc,aK,z4g s hL hd hc,af,aB (show k<=1000000000 by omega)];cases Lr s.l (((i:Int),(k:Int)),c.1)<;>rfl)
   (by
    rw[qji];simp only[fm,aI,aB (show i<=1000000000 by omega)])
  rw[BK] at e;rw[qjj];simp only[dM hd,aK,aU hd,af]
  grind
 ·rw[qjj];simp only[fm,aI]
 ·rw[BK,zez];cases (PD 0 s.l).any (Lr s.l)<;>rfl
def z9b(L:List DD):(PD 0 L).any (Lr L)=bB (nW L):=by have:=qwa (PD 0 L) (z1i L 0);rw[z1g] at this;exact this
def z4h(s:Sl DD)(hL:s.l.length<=1000)(x:ND):wN (s,x,())=some (Rs s.l x,()):=by
 obtain⟨a,t,n,c⟩:=x;have e:aD tS (s,(a,t,n,c),ae s.l,0,())=some (jJ (fun d:DD=>bM d.1 t&&ag d.2.1 c) 0 s.l,()):=by
  refine yu tS (fun k=>(s,(a,t,n,c),ae s.l,k,())) (fun z=>(z,())) s.l om (fun d:DD=>bM d.1 t&&ag d.2.1 c) ?_ ?_
  ·intro k d hx hk;obtain⟨m,q,ds⟩:=d;rw[q6n];simp only[dM hx,aK,aU hx,af,abv,aB (show k<=1000000000 by omega)];cases bM m t<;>cases ag q c<;>rfl
  ·rw[q6n];simp only[fm,aI]
 rw[abx,abw,e,af,E5];rfl
def z4i(s:Sl DD)(hL:s.l.length<=1000)(x:ND)(hx:PA x):sR (x,s,())=some (xj s.l x,s,()):=by have hk:=z4h s hL x;have hn:=qlt x.2.1 ⟨hx.1,hx.2.1⟩;obtain⟨a,t,n,c⟩:=x;rw[aby];unfold xj;simp only[hk,hn,af];cases ag a 32<;>cases gK t<;>cases Rs s.l (a,t,n,c)<;>rfl
def z4j(s:Sl DD)(hL:s.l.length<=1000)(t:SN)(ht:gA t):sS (t,s,())=some (t.l.any (xj s.l),s,()):=by
 have hl:=ht.2;have e:aD tT (t,ae t.l,0,s,())=some (jJ (xj s.l) 0 t.l,s,()):=by
  refine yu tT (fun k=>(t,ae t.l,k,s,())) (fun z=>(z,s,())) t.l om (xj s.l) ?_ ?_
  ·intro k x hx hk;rw[q61];simp only[dM hx,aK,aU hx,af,z4i s hL x (ht.1.at hx),aB (show k<=1000000000 by omega)];cases xj s.l x<;>rfl
  ·rw[q61];simp only[fm,aI]
 rw[abB,abA,abz,e,af,af,E5]
def z4k(s:Sl DD)(hL:GD s.l){i k:Nat}{d:DD}{c:CT}(hd:s.l[i]?=some d)(hc:d.2.2.l[k]?=some c):sT ((i:Int),(k:Int),s,())=some (Be s.l c,s,()):=by
 obtain⟨g1,g2,g3⟩:=(hL.2 d (zv hd)).2.2 c (zv hc);have e:aD tU (c.2,ae c.2.l,0,s,())=some (jJ (fun t:SN=>t.l.any (xj s.l)) 0 c.2.l,s,()):=by
  refine yu tU (fun k=>(c.2,ae c.2.l,k,s,())) (fun z=>(z,s,())) c.2.l om (fun t:SN=>t.l.any (xj s.l)) ?_ ?_
  ·intro k t hx hk;rw[q62];simp only[dM hx,aK,aU hx,af,z4j s hL.1 t (g3 t (zv hx)),aB (show k<=1000000000 by omega)];cases t.l.any (xj s.l)<;>rfl
  ·rw[q62];simp only[fm,aI]
 rw[abE,aU hd,af,aU hc,af,abD,abC,e,af,af,E5];rfl
def zkn(s:Sl DD)(hL:GD s.l):wO (s,s,())=some (yv s.l,s,()):=by
 rw[abF];refine(kZ xR (fun k=>(s,ae s.l,k,s,())) s.l (by have:=hL.1;omega) (fun _ d=>bif d.2.2.l.any (Be s.l) then some (true,s,()) else none) (false,s,()) ?_ ?_).trans ?_
 ·intro i d hd hi;obtain⟨g1,g2,g3⟩:=hL.2 d (zv hd);have e:=kZ xQ (fun k=>((i:Int),s,ae s.l,(i:Int),ae d.2.2.l,k,s,())) d.2.2.l om
   (fun _ c=>bif Be s.l c then some (.inr (true,s,())) else none) (.inl (s,ae s.l,((i+1:Nat):Int),s,()))
   (fun k c hc hk=>by rw[qdz];simp only[dM hc,aK,z4k s hL hd hc,af,aB (show k<=1000000000 by omega)];cases Be s.l c<;>rfl)
   (by
    rw[qdz];simp only[fm,aI,aB (show i<=1000000000 by omega)])
  rw[F2] at e;rw[qe0];simp only[dM hd,aK,aU hd,af]
  grind
 ·rw[qe0];simp only[fm,aI]
 ·rw[F2];unfold yv;cases s.l.any (fun d=>d.2.2.l.any (Be s.l))<;>rfl
def mP(L:List DD):Int:=bif decide (L.length<=60)&&L.all rz then(bif bB (L.map fun d=>d.1)||bB (nW L) then 101 else bif yv L then 102 else 0) else 100
def zjl(L:List DD):aL 60 (ae L)=!decide (L.length<=60):=by
 unfold aL ae
 grind
def qyu(s:Sl DD)(hL:GD s.l):qP (s,())=some (mP s.l,()):=by
 obtain⟨b,L⟩:=s;have hL:GD L:=hL;have e:aD tV (⟨b,L⟩,ae L,0,⟨b,L⟩,())=some (bif bB (L.map fun d=>d.1)||bB (nW L) then 101 else bif yv L then 102 else 0,()):=by
  refine(kZ tV (fun k=>(⟨b,L⟩,ae L,k,⟨b,L⟩,())) L (by have:=hL.1;omega) (fun i d=>bif aL (jJ (fun x:DD=>bM x.1 d.1) 0 L) (i:Int) then some (101,()) else none)
   (bif bB (nW L) then 101 else bif yv L then 102 else 0,()) ?_ ?_).trans ?_
  ·intro k d hx hk;have hn:=zjk b L hL d;obtain⟨n,p,cs⟩:=d;rw[qh8];simp only[dM hx,aK,aU hx,af,hn,aB (show k<=1000000000 by omega)];cases aL (jJ (fun x:DD=>bM x.1 n) 0 L) (k:Int)<;>rfl
  ·have h1:=zkm ⟨b,L⟩ hL;have h2:=zkn ⟨b,L⟩ hL;rw[z9b] at h1;rw[qh8];simp only[fm,aI,h1,h2,af];cases bB (nW L)<;>cases yv L<;>rfl
  ·rw[BK,Rr (fun d:DD=>d.1) (fun i d=>aL (jJ (fun x:DD=>bM x.1 d.1) 0 L) (i:Int)) L (fun k x hx=>by have:=z1d (fun y:DD=>bM y.1 x.1) L k 0 x hx (GF _);rw[zC] at this;rw[this,z1e])];cases bB (L.map fun d=>d.1)<;>rfl
 rw[abG,zd7 b L hL];simp only[zjl,e,af];unfold mP;cases decide (L.length<=60)<;>cases L.all rz<;>rfl
def qyv(s:Sl DD)(hL:s.l.length<=1000)(x:ND):EC (s,x,())=some (Rs s.l x,()):=by
 obtain⟨a,t,n,c⟩:=x;rw[acM];refine(kZ ye (fun k=>(s,k,a,t,n,c,())) s.l om (fun _ d=>bif bM d.1 t&&ag d.2.1 c then some (true,()) else none) (false,()) ?_ ?_).trans ?_
 ·intro k d hx hk;rw[qfc];simp only[dM hx,aK,aU hx,af,aB (show k<=1000000000 by omega)];cases bM d.1 t<;>cases ag d.2.1 c<;>rfl
 ·rw[qfc];simp only[fm,aI]
 ·rw[F2];unfold Rs;cases s.l.any (fun d=>bM d.1 t&&ag d.2.1 c)<;>rfl
def r3(s:Sl DD)(hL:s.l.length<=1000)(i k:Int)(m:Nat)(hm:m<=1000000)(t:SN)(ht:gA t):aD ux (s,i,k,(m:Int),t,0,())=some (bif t.l.any (xj s.l) then .inr (.inr (.inr (.inr (.inr (.inr (102,())))))) else .inl (s,i,k,((m+1:Nat):Int),())):=by
 have hl:=ht.2;refine(kZ ux (fun n=>(s,i,k,(m:Int),t,n,())) t.l om (fun _ x=>bif xj s.l x then some (.inr (.inr (.inr (.inr (.inr (.inr (102,()))))))) else none) (.inl (s,i,k,((m+1:Nat):Int),())) ?_ ?_).trans ?_
 ·intro n x hx hk;have hg:=ht.1.at hx;have hc:=qyv s hL x;have hn:=qt9 x.2.1 ⟨hg.1,hg.2.1⟩;rw[qff];unfold xj;simp only[dM hx,aK,aU hx,af,hc,hn,aB (show n<=1000000000 by omega)];cases ag x.1 32<;>cases gK x.2.1<;>cases Rs s.l x<;>rfl
 ·rw[qff];simp only[fm,aI,aB (show m<=1000000000 by omega)]
 ·rw[F2]
def r4(s:Sl DD)(hL:GD s.l){i k:Nat}{d:DD}{c:CT}(hd:s.l[i]?=some d)(hc:d.2.2.l[k]?=some c)(hk:k<=1000000):aD uy (s,(i:Int),(k:Int),0,())=some (bif Be s.l c then .inr (.inr (.inr (.inr (.inr (102,()))))) else .inl (s,(i:Int),((k+1:Nat):Int),())):=by
 obtain⟨g1,g2,g3⟩:=(hL.2 d (zv hd)).2.2 c (zv hc);refine(kZ uy (fun m=>(s,(i:Int),(k:Int),m,())) c.2.l om (fun _ t=>bif t.l.any (xj s.l) then some (.inr (.inr (.inr (.inr (.inr (102,())))))) else none) (.inl (s,(i:Int),((k+1:Nat):Int),())) ?_ ?_).trans ?_
 ·intro m t hx hm;rw[qfg];simp only[aU hd,aU hc,dM hx,aK,aU hx,af,r3 s hL.1 i k m hm t (g3 t (zv hx))];cases t.l.any (xj s.l)<;>rfl
 ·rw[qfg];simp only[aU hd,aU hc,af,fm,aI,aB (show k<=1000000000 by omega)]
 ·rw[F2];rfl
def r5(s:Sl DD)(hL:GD s.l){i:Nat}{d:DD}(hd:s.l[i]?=some d)(hi:i<=1000000):aD uz (s,(i:Int),0,())=some (bif d.2.2.l.any (Be s.l) then .inr (.inr (.inr (.inr (102,())))) else .inl (s,((i+1:Nat):Int),())):=by
 obtain⟨g1,g2,g3⟩:=hL.2 d (zv hd);refine(kZ uz (fun k=>(s,(i:Int),k,())) d.2.2.l om (fun _ c=>bif Be s.l c then some (.inr (.inr (.inr (.inr (102,()))))) else none) (.inl (s,((i+1:Nat):Int),())) ?_ ?_).trans ?_
 ·intro k c hx hk;rw[qfh];simp only[aU hd,af,dM hx,aK,r4 s hL hd hx hk];cases Be s.l c<;>rfl
 ·rw[qfh];simp only[aU hd,af,fm,aI,aB (show i<=1000000000 by omega)]
 ·rw[F2]
def r6(s:Sl DD)(hL:GD s.l):aD uA (s,0,())=some (.inr (.inr (.inr (bif yv s.l then 102 else 0,())))):=by
 refine(kZ uA (fun i=>(s,i,())) s.l (by have:=hL.1;omega) (fun _ d=>bif d.2.2.l.any (Be s.l) then some (.inr (.inr (.inr (102,())))) else none) (.inr (.inr (.inr (0,())))) ?_ ?_).trans ?_
 ·intro i d hx hi;rw[qfi];simp only[dM hx,aK,r5 s hL hx hi];cases d.2.2.l.any (Be s.l)<;>rfl
 ·rw[qfi];simp only[fm,aI]
 ·rw[F2];unfold yv;cases s.l.any (fun d=>d.2.2.l.any (Be s.l))<;>rfl
def z1j{α:Type}{l:List α}{i k:Nat}{x:α}(h:(l.take i)[k]?=some x):l[k]?=some x/\k<i:=by grind
def ltT{i k:Nat}(h:k<i):aL (k:Int) (i:Int)=true:=zt om
def zhg(l:List Tx)(n:Tx):(l.any fun x=>bM x n)=decide (n∈l):=by rw[Bool.eq_iff_iff];simp only[zX,decide_eq_true_eq];exact⟨fun⟨x,h1,h2⟩=>by rw[<-eE.1 h2];exact h1,fun h=>⟨n,h,GF n⟩⟩
def r2(s:Sl DD)(ns:Sl Tx){i:Nat}{n:Tx}(hn:ns.l[i]?=some n)(hi:i<=1000000):aD uw (s,ns,(i:Int),0,())=some (bif decide (n∈ns.l.take i) then .inr (.inr (.inr (101,()))) else .inl (s,ns,((i+1:Nat):Int),())):=by
 have hc:(ns.l.take i).length=i:=by rw[zP];have:=nV hn;omega
 refine(kZ uw (fun k=>(s,ns,(i:Int),k,())) (ns.l.take i) om (fun _ x=>bif bM x n then some (.inr (.inr (.inr (101,())))) else none) (.inl (s,ns,((i+1:Nat):Int),())) ?_ ?_).trans ?_
 ·intro k x hx hk;obtain⟨h1,h2⟩:=z1j hx;rw[qfe];simp only[ltT h2,aK,aU h1,aU hn,af,aB (show k<=1000000000 by omega)];cases bM x n<;>rfl
 ·have h0:aL (i:Int) (i:Int)=false:=zo om;rw[qfe];simp only[hc,h0,aI,aB (show i<=1000000000 by omega)]
 ·rw[F2,zhg]
def r7(s:Sl DD)(hL:GD s.l)(ns:Sl Tx)(hc:ns.l.length<=1000000):aD uB (s,ns,0,())=some (.inr (.inr (bif bB ns.l then 101 else bif yv s.l then 102 else 0,()))):=by
 refine(kZ uB (fun i=>(s,ns,i,())) ns.l hc (fun i n=>bif decide (n∈ns.l.take i) then some (.inr (.inr (101,()))) else none) (.inr (.inr (bif yv s.l then 102 else 0,()))) ?_ ?_).trans ?_
 ·intro i n hx hi;rw[qfj];simp only[dM hx,aK,r2 s ns hx hi];cases decide (n∈ns.l.take i)<;>rfl
 ·rw[qfj];simp only[fm,aI,r6 s hL]
 ·rw[BK,Rr (fun n:Tx=>n) (fun i n=>decide (n∈ns.l.take i)) ns.l (fun k x _=>by simp),List.map_id'];cases bB ns.l<;>rfl
def r1(s:Sl DD)(ns:Sl Tx){i:Nat}{d:DD}(hn:s.l[i]?=some d)(hi:i<=1000000):aD uv (s,ns,(i:Int),0,())=some (bif decide (d.1∈(s.l.take i).map fun d=>d.1) then .inr (.inr (101,())) else .inl (s,ns,((i+1:Nat):Int),())):=by
 have hc:(s.l.take i).length=i:=by rw[zP];have:=nV hn;omega
 refine(kZ uv (fun k=>(s,ns,(i:Int),k,())) (s.l.take i) om (fun _ x=>bif bM x.1 d.1 then some (.inr (.inr (101,()))) else none) (.inl (s,ns,((i+1:Nat):Int),())) ?_ ?_).trans ?_
 ·intro k x hx hk;obtain⟨h1,h2⟩:=z1j hx;rw[qfd];simp only[ltT h2,aK,aU h1,aU hn,af,aB (show k<=1000000000 by omega)];cases bM x.1 d.1<;>rfl
 ·have h0:aL (i:Int) (i:Int)=false:=zo om;rw[qfd];simp only[hc,h0,aI,aB (show i<=1000000000 by omega)]
 ·rw[F2,z1e]
def r8(s:Sl DD)(hL:GD s.l)(ns:Sl Tx)(hc:ns.l.length<=1000000):aD uC (s,ns,0,())=some (.inr (bif bB (s.l.map fun d=>d.1) then 101 else bif bB ns.l then 101 else bif yv s.l then 102 else 0,())):=by
 refine(kZ uC (fun i=>(s,ns,i,())) s.l (by have:=hL.1;omega) (fun i d=>bif decide (d.1∈(s.l.take i).map fun d=>d.1) then some (.inr (101,())) else none) (.inr (bif bB ns.l then 101 else bif yv s.l then 102 else 0,())) ?_ ?_).trans ?_
 ·intro i d hx hi;rw[qfk];simp only[dM hx,aK,r1 s ns hx hi];cases decide (d.1∈(s.l.take i).map fun d=>d.1)<;>rfl
 ·rw[qfk];simp only[fm,aI,r7 s hL ns hc]
 ·rw[BK,Rr (fun d:DD=>d.1) (fun i d=>decide (d.1∈(s.l.take i).map fun d=>d.1)) s.l (fun k x _=>rfl)];cases bB (s.l.map fun d=>d.1)<;>rfl
def z9c(a:List DD)(d:DD):nW (a++[d])=nW a++d.2.2.l.map fun c=>c.1:=by unfold nW;rw[List.flatMap_append];simp
def z9d(L:List DD)(hg:∀d,d∈L->gD d):(nW L).length<=L.length*1000:=by
 induction L with
 |nil=>exact Nat.zero_le _
 |cons d r ih=>
  have:=ih fun x hx=>hg x (zh _ hx);have h2:=(hg d (zg ..)).2.1;show((d.2.2.l.map fun c=>c.1)++nW r).length<=(r.length+1)*1000
  grind
def qyw(s:Sl DD)(hL:GD s.l):∃b,EB (s,())=some (⟨b,nW s.l⟩,()):=by
 have hj:=z9d s.l hL.2;have hg:=hL.1;rw[acL];have e:=ZG yd (fun k a=>(s,k,a,())) s.l (fun(a:Sl Tx) d=>(⟨a.nil&&d.2.2.l.isEmpty,a.l++d.2.2.l.map fun c=>c.1⟩:Sl Tx)) (fun a=>(a,())) (fun k a=>k<=s.l.length/\a.l=nW (s.l.take k)) ⟨false,[]⟩ ⟨Nat.zero_le _,rfl⟩ ?_ ?_
 ·refine⟨(s.l.foldl (fun(a:Sl Tx) d=>(⟨a.nil&&d.2.2.l.isEmpty,a.l++d.2.2.l.map fun c=>c.1⟩:Sl Tx)) ⟨false,[]⟩).nil,e.trans ?_⟩;have:∀(l:List DD) (a:Sl Tx),(l.foldl (fun(a:Sl Tx) d=>(⟨a.nil&&d.2.2.l.isEmpty,a.l++d.2.2.l.map fun c=>c.1⟩:Sl Tx)) a).l=a.l++nW l:=by
   intro l
   induction l with
   |nil=>intro a;simp[nW]
   |cons d r ih=>intro a;rw[List.foldl_cons,ih];simp[nW]
  rw[<-show _=nW s.l from(this s.l ⟨false,[]⟩).trans (List.nil_append _)]
 ·intro i d a hd hi;obtain⟨nb,al⟩:=a;have hl:al=nW (s.l.take i):=hi.2;have hm:=nV hd;obtain⟨g1,g2,g3⟩:=hL.2 d (zv hd);have ho:al.length<=1000000:=by
   have:=z9d (s.l.take i) fun d h=>hL.2 d (List.mem_of_mem_take h)
   grind
  have e2:=ZG yc (fun k a=>(s,(i:Int),k,a,())) d.2.2.l (fun(a:Sl Tx) c=>(⟨false,a.l++[c.1]⟩:Sl Tx)) (fun a=>.inl (s,((i+1:Nat):Int),a,())) (fun k a=>k<=d.2.2.l.length/\a.l.length=al.length+k) ⟨nb,al⟩ ⟨Nat.zero_le _,rfl⟩
   (fun k c a hc hk=>by obtain⟨Zq,a2⟩:=a;have h2:a2.length=al.length+k:=hk.2;have hn:=nV hc;have he:fit (bS (ae a2) (ae [c.1]))=some ():=il (by show a2.length+1<=_;omega);refine⟨?_,hn,by show(a2++[c.1]).length=_;rw[zd,h2];rfl⟩;rw[qfa];simp only[aU hd,af,dM hc,aK,aU hc,he,JF,aB (show k<=1000000000 by omega)];rfl)
   (fun a _=>by rw[qfa];simp only[aU hd,af,fm,aI,aB (show i<=1000000000 by omega)])
  have hf:∀(l:List CT) (a:Sl Tx),l.foldl (fun(a:Sl Tx) c=>(⟨false,a.l++[c.1]⟩:Sl Tx)) a=⟨a.nil&&l.isEmpty,a.l++l.map fun c=>c.1⟩:=by
   intro l
   induction l with
   |nil=>intro a;simp
   |cons c r ih=>intro a;rw[List.foldl_cons,ih];simp
  rw[hf] at e2;refine⟨?_,hm,?_⟩
  ·rw[qfb];simp only[dM hd,aK];exact e2
  ·show al++_=_;rw[List.take_add_one,hd,hl];exact(z9c _ _).symm
 ·intro a _;rw[qfb];simp only[fm,aI]
def qwb(s:Sl DD)(hL:GD s.l):Jc (s,())=some (mP s.l,()):=by
 obtain⟨nb,hn⟩:=qyw s hL;have he:=z9d s.l hL.2;have hc:=hL.1;have e:aD uD (s,0,())=some (bif s.l.all rz then(bif bB (s.l.map fun d=>d.1) then 101 else bif bB (nW s.l) then 101 else bif yv s.l then 102 else 0) else 100,()):=by
  refine(kZ uD (fun i=>(s,i,())) s.l om (fun _ d=>bif rz d then none else some (100,())) (bif bB (s.l.map fun d=>d.1) then 101 else bif bB (nW s.l) then 101 else bif yv s.l then 102 else 0,()) ?_ ?_).trans ?_
  ·intro i d hx hi;rw[qfl];simp only[dM hx,aK,aU hx,af,zd6 d (hL.2 d (zv hx)),aB (show i<=1000000000 by omega)];cases rz d<;>rfl
  ·rw[qfl];simp only[fm,aI,hn,af,r8 s hL ⟨nb,nW s.l⟩ (by show(nW s.l).length<=_;omega)]
  ·rw[ZI];cases s.l.all rz<;>rfl
 rw[acN,e,zjl];unfold mP;cases decide (s.l.length<=60)<;>cases s.l.all rz<;>cases bB (s.l.map fun d=>d.1)<;>cases bB (nW s.l)<;>rfl
end Fn
end Ev
namespace Ev
namespace Pz
abbrev Tr3:=Int×Tx×Int
abbrev CX:=Tx×Sl (Sl ND)
abbrev DX:=Tx×Int×Sl CX
section
variable (l:List Tr3)
abbrev PX:=Nat->Option (List ND×Nat)
variable (P:List Tx)
end
section
variable (l:List Tr3)
end
end Pz
end Ev

namespace Ev
namespace Pz
abbrev FX:=Tx×Int×Int
abbrev LX:=Tx×Bool×List ND
structure MX where
 opens:List Tx
 fP:List FX
 eV:List DX
 lets:List LX
structure MC where
 dE:List DX->Int
 fE:List FX->Int
 set:List FX->FX->List FX×Int
 toks:List FX->List Tk->Int->PR (List ND)
 named:Tx->Bool
 lt:LX->Bool
section
variable (C:MC)
variable {C}
end
end Pz
end Ev

namespace Ev
open Go
namespace Fn
open Pz
section
variable (nb:Bool) (l:List Tk) (q:Sl Tx)
abbrev RS(a:Nat)(bad:Bool):(Sl Tk)×Int×Bool×(Sl Tx)×Unit:=(⟨nb,l⟩,(a:Int),bad,q,())
variable {nb l q}
def qyx(a b:Int):ag a b=decide (a=b):=rfl
def Ls(l:List Tk):Prop:=∀t,t∈l->((∀b,b∈t.2.1->0<=b/\b<=255)/\t.2.1.length<=1000000)/\JI t.2.2.1
def Ls.at{a:Nat}{t:Tk}(h:Ls l)(e:l[a]?=some t):((∀b,b∈t.2.1->0<=b/\b<=255)/\t.2.1.length<=1000000)/\JI t.2.2.1:=h t (zv e)
def GL.one{x:ND}(h:PA x):GL [x]:=fun y hy=>by rw[zM.1 hy];exact h
def GL.nil:GL []:=fun _ h=>absurd h List.not_mem_nil
def GL.cons{a:ND}{b:List ND}(h1:PA a)(h2:GL b):GL (a::b):=fun x hx=>(zk.1 hx).elim (fun e=>e▸h1) (h2 x)
def Rm(nb:Bool)(l:List Tk)(q:Sl Tx)(lo:Nat)(r:Option (List ND×Nat))(o:Option ((Sl ND)×(Sl Tk)×Int×Bool×(Sl Tx)×Unit)):Prop:=
 ∃(v:Sl ND) (a:Nat) (bad:Bool),o=some (v,RS nb l q a bad)/\lo<=a/\a<=l.length/\v.l.length<=a-lo/\GL v.l/\(match r with
  |some x=>v=⟨false,x.1⟩/\a=x.2/\bad=false/\lo<a
  |none=>bad=true)
variable {self:(Sl Tk)×Int×Bool×(Sl Tx)×Unit→Option ((Sl ND)×(Sl Tk)×Int×Bool×(Sl Tx)×Unit)} {typ:PX}
end
open Pz
section
variable {nb:Bool} {l:List Tk} {q:Sl Tx}
def Rm.cases{lo:Nat}{r:Option (List ND×Nat)}{o:Option ((Sl ND)×(Sl Tk)×Int×Bool×(Sl Tx)×Unit)}(h:Rm nb l q lo r o):(r=none/\∃(v:Sl ND) (a:Nat),o=some (v,RS nb l q a true)/\lo<=a/\a<=l.length/\v.l.length<=a-lo/\GL v.l)\/(∃x,r=some x/\o=some (⟨false,x.1⟩,RS nb l q x.2 false)/\lo<x.2/\x.2<=l.length/\x.1.length<=x.2-lo/\GL x.1):=by
 obtain⟨v,a,bad,h1,h2,h3,h4,h5,h6⟩:=h;cases r with
 |none=>subst h6;exact .inl ⟨rfl,v,a,h1,h2,h3,h4,h5⟩
 |some x=>obtain⟨rfl,rfl,rfl,h7⟩:=h6;exact .inr ⟨x,rfl,h1,h7,h3,h4,h5⟩
def ll(ts:List (List ND)):Nat:=(ts.map fun t=>t.length).sum
variable {self:(Sl Tk)×Int×Bool×(Sl Tx)×Unit→Option ((Sl ND)×(Sl Tk)×Int×Bool×(Sl Tx)×Unit)} {typ:PX}
section
variable {f g:(Sl Tk)×Int×Bool×(Sl Tx)×Unit→Option ((Sl ND)×(Sl Tk)×Int×Bool×(Sl Tx)×Unit)} (h:∀x,lq (f x) (g x))
include h
end
end
open Pz
section
variable {nb:Bool} {l:List Tk} {q:Sl Tx}
def okC(N:Nat)(c:CX):Prop:=gT c.1/\lens c.2.l<=N/\c.2.l.length<=N+2/\∀t,t∈c.2.l->GL t.l
def okC.nil{N:Nat}{s:Tx}(h:gT s)(b:Bool):okC N (s,⟨b,[]⟩):=⟨h,Nat.zero_le _,by show 0<=_;omega,fun t ht=>absurd ht List.not_mem_nil⟩
def gT.nil:gT []:=⟨fun _ hb=>absurd hb List.not_mem_nil,Nat.zero_le _⟩
end
open Pz
section
variable {nb:Bool} {l:List Tk}
variable {q:Sl Tx}
end
open Pz
def oE(s:Tx):Bool:=gK s&&decide (s.length<=60)
def zko:List ND->Int
 |[]=>0
 |a::_=>a.1
noncomputable def gM(x:LX):Bool:=aW x.1&&(decide (mO x.2.2=0)&&(!x.2.1||decide (zko x.2.2=5)))
def z1k(s:Tx)(hs:gT s):oX (s,())=some (oE s,()):=by rw[aaF,z11 hs.1,af];have e:bJ (ae s) 60=decide (s.length<=60):=decide_eq_decide.2 (by unfold ae;omega);rw[e];unfold oE;cases gK s<;>rfl
def z1l:mO []=60:=by unfold mO;rw[qre true [] dc (by rfl)]
def zjm(s:Tx)(rc b:Bool)(t:List ND)(hs:gT s)(hl:t.length<=4000)(hg:GL t):sK ((s,rc,⟨b,t⟩),())=some (gM (s,rc,t),()):=by
 rw[aaZ,qvu hs.1,af];unfold gM;cases aW s with
 |false=>rfl
 |true=>
  rw[aK,zjj hl hg,af,af,qyx];simp only;by_cases h:mO t=0
  ·rw[zt h,aK];cases rc with
   |false=>rfl
   |true=>
    cases t with
    |nil=>rw[z1l] at h;cases h
    |cons a t=>have e0:cM (a::t) 0=some a:=rfl;simp only[ar,Bool.not_true,aI];rw[e0,af,af,qyx];rfl
  ·rw[zo h];rfl
abbrev LY:=Tx×Bool×Sl ND
def er(x:LY):LX:=(x.1,x.2.1,x.2.2.l)
structure MV (K:Sl ak) (O:Sl Tx) (X:Sl ak) (D:Sl DX) (L:Sl LY) (m:MX) (fx:List ak):Prop where
 k:K.l=fx
 kn:K.nil=true->fx=[]
 o:O.l=m.opens
 x:X.l=m.fP
 d:D.l=m.eV
 l:L.l.map er=m.lets
structure Inv (n:Nat) (m:MX) (fx:List ak):Prop where
 go:m.opens.length<=n
 gx:m.fP.length<=n
 gd:m.eV.length<=n
 gl:m.lets.length<=n
 fg:gL fx
 fz:iD fx=0
 xg:gL m.fP
 dg:∀d,d∈m.eV->gD d
 og:∀s,s∈m.opens->gT s
 lg:∀x,x∈m.lets->gT x.1/\GL x.2.2/\x.2.2.length<=4000
abbrev OT:=Int×Int×Tx×Sl ak×Sl Tx×Sl ak×Sl DX×Sl LY×Unit
def dY(name:Tx)(n:Nat)(r:PR (MX×List ak))(o:Option OT):Prop:=∃(a e:Int) (K:Sl ak) (O:Sl Tx) (X:Sl ak) (D:Sl DX) (L:Sl LY),o=some (a,e,name,K,O,X,D,L,())/\(match r with
 |.ok x=>a=0/\e=0/\MV K O X D L x.1 x.2/\Inv (n+1) x.1 x.2
 |.error q=>a=q.1/\e=q.2/\e≠0)
section
variable {nb:Bool} {name:Tx} {K:Sl ak} {O:Sl Tx} {X:Sl ak} {D:Sl DX} {L:Sl LY} {m:MX} {fx:List ak} {n:Nat} {t:Tk} {r:List Tk} {E:Int}
abbrev q0:Sl Tx:=⟨true,[]⟩
end
open Pz
section
variable {nb:Bool} {name:Tx} {K:Sl ak} {O:Sl Tx} {X:Sl ak} {D:Sl DX} {L:Sl LY} {m:MX} {fx:List ak} {n:Nat} {t:Tk} {r:List Tk} {E:Int}
end
open Pz
section
variable {nb:Bool} {name:Tx} {K:Sl ak} {O:Sl Tx} {X:Sl ak} {D:Sl DX} {L:Sl LY} {m:MX} {fx:List ak} {n:Nat} {t:Tk} {r:List Tk} {E e:Int}
end
open Pz
def qpg(b:Bool)(l:List Tx)(hl:l.length<=1000000):qQ (⟨b,l⟩,())=some (bB l,()):=by
 rw[abH];have e:=kZ xS (fun k=>(⟨b,l⟩,⟨b,l⟩,ae l,k,())) l hl (fun k x=>bif decide (x∈l.take k) then some (true,()) else none) (false,()) (fun k x hx hk=>by
  have hc:=nV hx;rw[qe1];simp only[dM hx,aK,aU hx,af];rw[qyh (Nat.le_of_lt hc),af,qt6 _ _ _ (by rw[zP];omega),af,aB (show k<=1000000000 by omega)];cases decide (x∈l.take k)<;>rfl) (by
  rw[qe1];simp only[fm,aI])
 refine e.trans ?_;rw[BK (fun k x=>decide (x∈l.take k)),Rr (key:=fun x=>x) _ l (fun k x _=>by rw[List.map_id'])];rw[List.map_id'];cases bB l<;>rfl
def z9e(b:Bool)(l:List Tx)(hl:l.length<=1000000)(hg:∀s,s∈l->gT s):qK (⟨b,l⟩,())=some (l.any fun s=>!oE s,()):=by
 have e:aD tF (⟨b,l⟩,ae l,0,())=some (jJ (fun s=>!oE s) 0 l,()):=by
  refine yu tF (fun k=>(⟨b,l⟩,ae l,k,())) (fun z=>(z,())) l hl (fun s=>!oE s) ?_ ?_
  ·intro k x hx hk;rw[q6i];simp only[dM hx,aK,aU hx,af,aaG,z1k x (hg x (zv hx)),aB (show k<=1000000000 by omega),ar];cases oE x<;>rfl
  ·rw[q6i];simp only[fm,aI]
 rw[aaI,aaH];refine(Vg e _).trans ?_;rw[E5]
def Vj(x:LX):Prop:=gT x.1/\GL x.2.2/\x.2.2.length<=4000
def zd8(b:Bool)(l:List LY)(hl:l.length<=1000000)(hg:∀x,x∈l->Vj (er x)):qN (⟨b,l⟩,())=some (l.any fun x=>!gM (er x),()):=by
 have e:aD tJ (⟨b,l⟩,ae l,0,())=some (jJ (fun x=>!gM (er x)) 0 l,()):=by
  refine yu tJ (fun k=>(⟨b,l⟩,ae l,k,())) (fun z=>(z,())) l hl (fun x=>!gM (er x)) ?_ ?_
  ·intro k x hx hk;obtain⟨h1,h2,h3⟩:=hg x (zv hx);obtain⟨s,rc,c,t⟩:=x;have hi:=zjm s rc c t h1 h3 h2;rw[q6k];simp only[dM hx,aK,aU hx,af,aa0,hi,aB (show k<=1000000000 by omega),ar];have ee:er (s,rc,(⟨c,t⟩:Sl ND))=(s,rc,t):=rfl;rw[ee];cases gM (s,rc,t)<;>rfl
  ·rw[q6k];simp only[fm,aI]
 rw[aa2,aa1];refine(Vg e _).trans ?_;rw[E5]
noncomputable def vg(name:Tx)(m:MX):Int:=
 bif !oE name||(decide (60<m.opens.length)||(decide (200<m.lets.length)||((m.opens.any fun s=>!oE s)||m.lets.any fun x=>!gM x))) then 240 else
 bif !(decide (mP m.eV=0)||decide (mP m.eV=102))||!decide (iD m.fP=0) then 240 else
 bif bB (name::m.opens)||bB (m.lets.map fun x=>x.1) then 241 else 0
structure GM (m:MX):Prop where
 o:m.opens.length<=1000
 l:m.lets.length<=1000
 og:∀s,s∈m.opens->gT s
 dg:GD m.eV
 xg:gL m.fP
 lg:∀x,x∈m.lets->Vj x
def qyy(name:Tx)(O:Sl Tx)(X:Sl ak)(D:Sl DX)(L:Sl LY)(hO:O.l.length<=1000)(hL:L.l.length<=1000):∀(m k:Nat) (N:Sl Tx),k+m=L.l.length->N.l=(L.l.take k).map (fun x=>x.1)->aD pP (L,ae L.l,(k:Int),name,O,X,D,L,N,())=some (bif bB (name::O.l)||bB (L.l.map fun x=>x.1) then 241 else 0,()):=by
 intro m
 induction m with
 |zero=>
  intro k N hk hN;apply bZ;rw[qe2];simp only;rw[bD,if_neg (by show ¬(k:Int)<(L.l.length:Int);omega),vX (by show(1:Int)+(O.l.length:Int)<=_;omega),af,PB];have e1:=qpg (bP false (eX O.l)) (name::O.l) (by rw[zu];omega);have e1:qQ (⟨bP false (eX O.l),[name]++O.l⟩,())=_:=e1;have hc:N.l=L.l.map fun x=>x.1:=by rw[hN,zW om]
  have e2:qQ (N,())=some (bB (L.l.map fun x=>x.1),()):=by rw[<-hc];exact qpg N.nil N.l (by rw[hc,zG];omega)
  rw[e1,af,e2];cases bB (name::O.l) with
  |true=>rfl
  |false=>cases bB (L.l.map fun x=>x.1)<;>rfl
 |succ m ih=>
  intro k N hk hN;have he:k<L.l.length:=om
  have hx:=zf he;have step:pP (L,ae L.l,(k:Int),name,O,X,D,L,N,())=some (.inl (L,ae L.l,((k+1:Nat):Int),name,O,X,D,L,⟨bP N.nil (eX [(L.l[k]).1]),app N.l [(L.l[k]).1]⟩,())):=by
   rw[qe2];simp only;have hf:N.l.length=k:=by rw[hN,zG,zP];omega
   rw[bD,if_pos (by show(k:Int)<(L.l.length:Int);omega),aU hx,af,vX (by show(N.l.length:Int)+1<=_;omega),af,aB (show k<=1000000000 by omega)]
  rw[cU step];refine ih (k+1) _ om ?_;show app N.l [(L.l[k]).1]=_;rw[PB,hN,List.take_add_one,hx,zQ];rfl
def zd9(name:Tx)(hc:gT name)(O:Sl Tx)(X:Sl ak)(D:Sl DX)(L:Sl LY)(m:MX)(ho:O.l=m.opens)(hx:X.l=m.fP)(hd:D.l=m.eV)(hl:L.l.map er=m.lets)(G:GM m):oZ ((name,O,X,D,L),())=some (vg name m,()):=by
 have hg:O.l.length<=1000:=by rw[ho];exact G.o
 have hj:L.l.length=m.lets.length:=by rw[<-hl,zG]
 have hk:=G.l;have e1:qK (O,())=some (m.opens.any fun s=>!oE s,()):=by rw[<-ho];exact z9e O.nil O.l om (by rw[ho];exact G.og)
 have e2:qN (L,())=some (m.lets.any fun x=>!gM x,()):=by have:=zd8 L.nil L.l om (fun x hx=>G.lg _ (by rw[<-hl];exact List.mem_map_of_mem hx));rw[<-hl,List.any_map];exact this
 have e3:qP (D,())=some (mP m.eV,()):=by rw[<-hd];exact qyu D (by rw[hd];exact G.dg)
 have e4:iZ (X,())=some (iD m.fP,()):=by rw[<-hx];exact Rn X.nil (by rw[hx];exact G.xg)
 have hm:aL 60 (ae O.l)=decide (60<m.opens.length):=by rw[ho];exact decide_eq_decide.2 (by unfold ae;omega)
 have he:aL 200 (ae L.l)=decide (200<m.lets.length):=by rw[<-hj];exact decide_eq_decide.2 (by unfold ae;omega)
 have hf:=qyy name O X D L hg om L.l.length 0 ⟨true,[]⟩ om rfl;rw[abI,z1k name hc,af,hm,he,e1,e2,e3,e4];have hf:aD pP (L,ae L.l,0,name,O,X,D,L,⟨true,[]⟩,())=_:=hf;rw[hf,ho];have hn:(L.l.map fun x=>x.1)=m.lets.map fun x=>x.1:=by rw[<-hl,zS];rfl
 rw[hn];unfold vg;simp only[af,qyx];cases oE name with
 |false=>rfl
 |true=>
  cases decide (60<m.opens.length) with
  |true=>rfl
  |false=>
   cases decide (200<m.lets.length) with
   |true=>rfl
   |false=>
    cases (m.opens.any fun s=>!oE s) with
    |true=>rfl
    |false=>
     cases (m.lets.any fun x=>!gM x) with
     |true=>rfl
     |false=>
      cases decide (mP m.eV=0) with
      |true=>cases decide (iD m.fP=0)<;>cases (bB (name::m.opens)||bB (m.lets.map fun x=>x.1))<;>rfl
      |false=>cases decide (mP m.eV=102)<;>cases decide (iD m.fP=0)<;>cases (bB (name::m.opens)||bB (m.lets.map fun x=>x.1))<;>rfl
open Pz
def zhh{α β γ:Type}(x:Option α)(f:α->Option β)(g:β->Option γ):az (az x f) g=az x fun a=>az (f a) g:=by cases x<;>rfl
open Pz
def Inv.mono{n k:Nat}{m:MX}{fx:List ak}(h:Inv n m fx)(hk:n<=k):Inv k m fx:=⟨Nat.le_trans h.go hk,Nat.le_trans h.gx hk,Nat.le_trans h.gd hk,Nat.le_trans h.gl hk,h.fg,h.fz,h.xg,h.dg,h.og,h.lg⟩
def z9f(b:Bool)(l:List ak)(hl:l.length<=1000000)(hb:b=true->l=[]):∃q,nC (⟨b,l⟩,())=some (⟨q,l⟩,())/\(q=true->l=[]):=by
 rw[Un];cases b with
 |true=>rw[aK,hb rfl];exact⟨_,rfl,fun _=>rfl⟩
 |false=>rw[aI,vX (by simp only[bS,ae,List.length_nil];omega),af];refine⟨_,rfl,fun h=>?_⟩;cases h
open Pz
open Pz
def zda(n:Bool)(l:List ak):∀(m k:Nat),k+m=21->k<=l.length->(∀j (h:j<l.length),j<k->l[j].1.length<=20)->∃r,aD Ut (⟨n,l⟩,(k:Int),())=some (r,())/\(r=true->l.length<=20/\∀x,x∈l->x.1.length<=20):=by
 intro m
 induction m with
 |zero=>
  intro k hk hl hj;refine⟨bJ (ae l) 20,bZ ?_,fun h=>?_⟩
  ·rw[qdj];simp only;have e:aL (k:Int) 21=false:=zo om;rw[e];cases aL (k:Int) (ae l)<;>rfl
  ·have h:((l.length:Nat):Int)<=20:=zI h;omega
 |succ m ih=>
  intro k hk hl hj;have e:aL (k:Int) 21=true:=zt om;by_cases he:k<l.length
  ·have hc:aL (k:Int) (ae l)=true:=zt (show(k:Int)<((l.length:Nat):Int) by omega);have step:Ut (⟨n,l⟩,(k:Int),())=if 20<l[k].1.length then some (.inr (false,())) else some (.inl (⟨n,l⟩,((k+1:Nat):Int),())):=by
    rw[qdj];simp only;rw[hc,aK,e,af,aK,aU (zf he),af,bD,aB om];by_cases h:20<l[k].1.length
    ·rw[if_pos h,if_pos (show(20:Int)<ae l[k].1 by show(20:Int)<((l[k].1.length:Nat):Int);omega)]
    ·rw[if_neg h,if_neg (show ¬(20:Int)<ae l[k].1 by show ¬(20:Int)<((l[k].1.length:Nat):Int);omega)]
   by_cases h:20<l[k].1.length
   ·rw[if_pos h] at step;exact⟨false,bZ step,(fun h=>by cases h)⟩
   ·rw[if_neg h] at step;rw[cU step];refine ih (k+1) om he fun j h1 h2=>?_;rcases Nat.lt_or_eq_of_le (Nat.le_of_lt_succ h2) with h3|h3
    ·exact hj j h1 h3
    ·subst h3;omega
  ·have hc:aL (k:Int) (ae l)=false:=zo (show ¬(k:Int)<((l.length:Nat):Int) by omega);refine⟨bJ (ae l) 20,bZ ?_,fun _=>⟨by omega,fun x hx=>?_⟩⟩
   ·rw[qdj];simp only;rw[hc];rfl
   ·obtain⟨j,h1,h2⟩:=List.getElem_of_mem hx;rw[<-h2];exact hj j h1 om
def zdb(n:Bool)(l:List ak):∃r,Tt (⟨n,l⟩,())=some (r,())/\(r=true->l.length<=20/\∀x,x∈l->x.1.length<=20):=by rw[qy9];exact zda n l 21 0 rfl (Nat.zero_le _) fun j _ h=>absurd h om
def zkp{l:List ak}(hg:∀x,x∈l->gF x)(h1:l.length<=20)(h2:∀x,x∈l->x.1.length<=20):gL l:=⟨hg,fun x hx=>by have:=h2 x hx;omega,by omega⟩
def z4l(n:Bool)(l:List ak)(h:l.length<=20):Tu (⟨n,l⟩,())=some (⟨false,l⟩,()):=by rw[qsy,vX (by show((0:Nat):Int)+((l.length:Nat):Int)<=_;omega),af];rfl
open Pz
end Fn
end Ev