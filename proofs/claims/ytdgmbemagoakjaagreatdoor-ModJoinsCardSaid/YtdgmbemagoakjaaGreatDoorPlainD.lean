/- Declarations of types, modules, and the law, in plain words. No statement of its own about the program. -/
import Derived.Test.YtdgmbemagoakjaaGreatDoorPlainC
namespace Ev
open Go
namespace Fn
theorem gS{α:Type}{l:List α}{k:Nat}{x:α}(h:l[k]?=some x):aE (k:Int) (ae l)=true:=by have:=(zH.1 h).1;exact zo (by unfold ae;omega)
theorem gU{α:Type}(l:List α):aE ((l.length:Nat):Int) (ae l)=false:=zn (by unfold ae;omega)
theorem M8{α β:Type}{x:Option α}{a:α}(h:x=some a)(f:α->Option β):ag x f=f a:=by rw[h,af]
theorem vY{α:Type}{l:List α}{k:Nat}{x:α}(h:l[k]?=some x):k<l.length:=(zH.1 h).1
def scan{α ρ:Type}(stop:Nat->α->Option ρ)(R:ρ):Nat->List α->ρ
 |_,[]=>R
 |k,x::r=>match stop k x with
  |some y=>y
  |none=>scan stop R (k+1) r
theorem lI{σ ρ α:Type}(f:σ->Option (σ⊕ρ))(S:Int->σ)(l:List α)(hl:l.length<=1000000)(stop:Nat->α->Option ρ)(R:ρ)(hd:∀(k:Nat) x,l[k]?=some x->k<=1000000->f (S k)=some (match stop k x with|some y=>.inr y|none=>.inl (S ((k+1:Nat):Int))))(he:f (S ((l.length:Nat):Int))=some (.inr R)):aM f (S 0)=some (scan stop R 0 l):=by
 have aux:∀(r:List α) (k:Nat),l.drop k=r->k<=l.length->aM f (S k)=some (scan stop R k r):=by
  intro r
  induction r with
  |nil=>
   intro k h hk;have:l.length<=k:=List.drop_eq_nil_iff.1 h;obtain rfl:k=l.length:=om
   exact bX he
  |cons x r ih=>
   intro k h hk;have hf:k<l.length:=by
    rcases Nat.lt_or_ge k l.length with h2|h2
    ·exact h2
    ·rw[zw h2] at h;cases h
   rw[jk hf] at h;injection h with h1 h2;have hx:l[k]?=some x:=by rw[ze hf,h1]
   have hs:=hd k x hx om;unfold scan;cases hc:stop k x with
   |some y=>rw[hc] at hs;exact bX hs
   |none=>rw[hc] at hs;rw[dC hs];exact ih (k+1) h2 om
 exact aux l 0 rfl (Nat.zero_le _)
def iD{α:Type}(p:α->Bool):Nat->List α->Int
 |_,[]=>-1
 |k,x::r=>bif p x then(k:Int) else iD p (k+1) r
theorem z7w{τ α:Type}{O:Int->τ}{p:α->Bool}(r:List α)(k:Nat):scan (fun k x=>bif p x then some (O k) else none) (O (-1)) k r=O (iD p k r):=by
 induction r generalizing k with
 |nil=>rfl
 |cons x r ih=>
  unfold scan iD;cases p x with
  |true=>rfl
  |false=>exact ih (k+1)
theorem wU{σ τ α:Type}(f:σ->Option (σ⊕τ))(S:Int->σ)(O:Int->τ)(l:List α)(hl:l.length<=1000000)(p:α->Bool)(hc:∀(k:Nat) x,l[k]?=some x->k<=1000000->f (S k)=some (bif p x then .inr (O k) else .inl (S ((k+1:Nat):Int))))(hd:f (S ((l.length:Nat):Int))=some (.inr (O (-1)))):aM f (S 0)=some (O (iD p 0 l)):=by have h:=lI f S l hl (fun k x=>bif p x then some (O k) else none) (O (-1)) (fun k x hx hk=>by rw[hc k x hx hk];cases p x<;>rfl) hd;rw[h,z7w]
theorem CB{α:Type}(p:α->Bool)(l:List α)(k:Nat):bJ 0 (iD p k l)=l.any p:=by
 induction l generalizing k with
 |nil=>rfl
 |cons x r ih=>
  unfold iD;rw[List.any_cons];cases p x with
  |true=>exact zo (by show(0:Int)<=(k:Int);omega)
  |false=>exact ih (k+1)
def Qs{α β ρ:Type}(g:Nat->β->α->β⊕ρ)(fin:β->ρ):Nat->β->List α->ρ
 |_,a,[]=>fin a
 |k,a,x::r=>match g k a x with
  |.inl a'=>Qs g fin (k+1) a' r
  |.inr y=>y
theorem qum{σ ρ α β:Type}(f:σ->Option (σ⊕ρ))(S:Int->β->σ)(l:List α)(g:Nat->β->α->β⊕ρ)(fin:β->ρ)(I:Nat->β->Prop)(a0:β)(h0:I 0 a0)(hd:∀(k:Nat) x a,l[k]?=some x->I k a->f (S k a)=some (match g k a x with|.inl a'=>.inl (S ((k+1:Nat):Int) a')|.inr y=>.inr y)/\∀a',g k a x=.inl a'->I (k+1) a')(he:∀a,I l.length a->f (S ((l.length:Nat):Int) a)=some (.inr (fin a))):aM f (S 0 a0)=some (Qs g fin 0 a0 l):=by
 have aux:∀(r:List α) (k:Nat) (a:β),l.drop k=r->k<=l.length->I k a->aM f (S k a)=some (Qs g fin k a r):=by
  intro r
  induction r with
  |nil=>
   intro k a h hk hi;have:l.length<=k:=List.drop_eq_nil_iff.1 h;obtain rfl:k=l.length:=om
   exact bX (he a hi)
  |cons x r ih=>
   intro k a h hk hi;have hf:k<l.length:=by
    rcases Nat.lt_or_ge k l.length with h2|h2
    ·exact h2
    ·rw[zw h2] at h;cases h
   rw[jk hf] at h;injection h with h1 h2;have hx:l[k]?=some x:=by rw[ze hf,h1]
   obtain⟨hs,hg⟩:=hd k x a hx hi;unfold Qs;cases hc:g k a x with
   |inr y=>rw[hc] at hs;exact bX hs
   |inl a'=>rw[hc] at hs;rw[dC hs];exact ih (k+1) a' h2 om (hg a' hc)
 exact aux l 0 a0 rfl (Nat.zero_le _) h0
theorem qza{α β ρ:Type}(g:β->α->β)(fin:β->ρ)(l:List α)(k:Nat)(a:β):Qs (fun _ a x=>.inl (g a x)) fin k a l=fin (l.foldl g a):=by
 induction l generalizing k a with
 |nil=>rfl
 |cons x r ih=>exact ih (k+1) (g a x)
theorem qzb{σ ρ α β:Type}(f:σ->Option (σ⊕ρ))(S:Int->β->σ)(l:List α)(g:β->α->β)(fin:β->ρ)(I:Nat->β->Prop)(a0:β)(h0:I 0 a0)(hc:∀(k:Nat) x a,l[k]?=some x->I k a->f (S k a)=some (.inl (S ((k+1:Nat):Int) (g a x)))/\I (k+1) (g a x))(hd:∀a,I l.length a->f (S ((l.length:Nat):Int) a)=some (.inr (fin a))):aM f (S 0 a0)=some (fin (l.foldl g a0)):=by rw[qum f S l (fun _ a x=>.inl (g a x)) fin I a0 h0 (fun k x a hx hi=>⟨(hc k x a hx hi).1,fun a' e=>by injection e with e;rw[<-e];exact(hc k x a hx hi).2⟩) hd,qza]
theorem ou{a b:List Int}:bx a b=true↔a=b:=by simp[bx]
def qz(x:ND):Bool:=bif ak x.1 31 then ak x.2.2.2 0&&(bx x.2.1 []&&(bJ 0 x.2.2.1&&bJ x.2.2.1 1048576)) else
 ak x.1 32&&(ak x.2.2.1 0&&(bif bx x.2.1 [45,62] then ak x.2.2.2 2 else bif bx x.2.1 [105,110,116]||bx x.2.1 [116,101,120,116] then ak x.2.2.2 0 else bif bx x.2.1 [114,101,102] then ak x.2.2.2 1 else lx x.2.1&&bJ x.2.2.2 8))
theorem qq3(x:ND)(hx:F4 x):se (x,())=some (qz x,()):=by
 obtain⟨a,t,n,c⟩:=x;have hl:=qdl t hx.1;rw[X8];unfold qz;simp only;cases h1:ak a 31 with
 |true=>cases ak c 0<;>cases bx t []<;>cases bJ 0 n<;>cases bJ n 1048576<;>rfl
 |false=>
  cases h2:ak a 32 with
  |false=>rfl
  |true=>
   cases h3:ak n 0 with
   |false=>rfl
   |true=>
    cases h4:bx t [45,62] with
    |true=>rfl
    |false=>
     cases h5:bx t [105,110,116] with
     |true=>rfl
     |false=>
      cases h6:bx t [116,101,120,116] with
      |true=>rfl
      |false=>
       cases h7:bx t [114,101,102] with
       |true=>simp only[nT,aH,aP,af,h7];rfl
       |false=>simp only[nT,aH,af,cond_false,hl,Bool.true_and,Bool.false_or,h7];unfold lx;cases wO my t<;>rfl
def Qt(l:List ND):Bool:=decide (l.length<=4000)&&(Cn l&&l.all qz)
theorem aad(b:Bool)(l:List ND)(hl:l.length<=1000000)(hg:GL l):sj (⟨b,l⟩,())=some (!l.all qz,()):=by
 have e:aM pP (⟨b,l⟩,ae l,0,())=some (iD (fun x=>!qz x) 0 l,()):=by
  refine wU pP (fun k=>(⟨b,l⟩,ae l,k,())) (fun z=>(z,())) l hl (fun x=>!qz x) ?_ ?_
  ·intro k x hx hk;obtain⟨a,t,n,c⟩:=x;unfold pP;simp only[gS hx,aP,bR hx,af,X9,qq3 _ (hg.at hx),aO (show k<=1000000000 by omega),ai];cases qz (a,t,n,c)<;>rfl
  ·unfold pP;simp only[gU,aH]
 rw[Yb,Ya];refine(M8 e _).trans ?_;rw[CB,List.not_all_eq_any_not]
theorem z7x(l:List ND):aE 4000 (ae l)=!decide (l.length<=4000):=by
 unfold aE ae;by_cases e:l.length<=4000
 ·rw[zo e,zn om];rfl
 ·rw[zn e,zo om];rfl
theorem qh5(b:Bool)(l:List ND)(hl:l.length<=10000)(hg:GL l):nN (⟨b,l⟩,())=some (bif Qt l then 0 else 90,()):=by rw[Yc,aad b l om hg,TQ b l hl];simp only[z7x];unfold Qt;cases decide (l.length<=4000)<;>cases Cn l<;>cases l.all qz<;>rfl
theorem z9x(v:Int)(l:List Int):l.any (fun x=>ak v x)=decide (v∈l):=by
 induction l with
 |nil=>rfl
 |cons a r ih=>
  rw[List.any_cons,ih];by_cases h:v=a
  ·subst h;rw[fY];exact(zo (zj ..)).symm
  ·rw[eP h,Bool.false_or];exact decide_eq_decide.2 ⟨fun e=>zm _ e,fun e=>(zt.1 e).resolve_left h⟩
theorem qi2(b:Bool)(l:List Int)(v:Int)(hl:l.length<=1000000):pf (⟨b,l⟩,v,())=some (decide (v∈l),()):=by
 have e:aM pR (⟨b,l⟩,v,ae l,0,())=some (iD (fun x=>ak v x) 0 l,()):=by
  refine wU pR (fun k=>(⟨b,l⟩,v,ae l,k,())) (fun z=>(z,())) l hl (fun x=>ak v x) ?_ ?_
  ·intro k x hx hk;unfold pR;simp only[gS hx,aP,bR hx,af,aO (show k<=1000000000 by omega)];cases ak v x<;>rfl
  ·unfold pR;simp only[gU,aH]
 rw[Yh,Yg];refine(M8 e _).trans ?_;rw[CB,z9x]
def s6(a:List Int)(x:ND):List Int:=bif ak x.1 31&&!decide (x.2.2.1∈a) then a++[x.2.2.1] else a
theorem z2x(a:List Int)(x:ND):(s6 a x).length<=a.length+1:=by
 unfold s6;cases (ak x.1 31&&!decide (x.2.2.1∈a)) with
 |true=>rw[cond_true,zh];exact Nat.le_refl _
 |false=>exact Nat.le_succ _
theorem z2y(p:Int->Bool)(l:List ND):∀a:List Int,(l.foldl s6 a).any p=(a.any p||l.any fun x=>ak x.1 31&&p x.2.2.1):=by
 induction l with
 |nil=>intro a;simp
 |cons x r ih=>
  intro a;rw[List.foldl_cons,ih,List.any_cons,<-Bool.or_assoc];congr 1;unfold s6;cases ak x.1 31 with
  |false=>simp
  |true=>
   by_cases h:x.2.2.1∈a
   ·rw[zo h];simp only[Bool.not_true,Bool.and_false,cond_false,Bool.true_and];cases hp:p x.2.2.1 with
    |false=>simp
    |true=>rw[Bool.or_true];exact jb.2 ⟨_,h,hp⟩
   ·rw[zn h];simp
def lJ(a:Sl Int)(x:ND):Sl Int:=bif ak x.1 31&&!decide (x.2.2.1∈a.l) then⟨false,a.l++[x.2.2.1]⟩ else a
theorem z4w(l:List ND):∀a:Sl Int,(l.foldl lJ a).l=l.foldl s6 a.l:=by
 induction l with
 |nil=>intro a;rfl
 |cons x r ih=>intro a;rw[List.foldl_cons,List.foldl_cons,ih];congr 1;unfold lJ s6;cases (ak x.1 31&&!decide (x.2.2.1∈a.l))<;>rfl
theorem qsd(a:Sl Int)(x:ND):(lJ a x).l.length<=a.l.length+1:=by have:=z4w [x] a;rw[List.foldl_cons,List.foldl_nil,List.foldl_cons,List.foldl_nil] at this;rw[this];exact z2x _ _
theorem qun(b:Bool)(l:List ND)(hl:l.length<=10000)(hg:GL l)(ht:Qt l=true):u7 (⟨b,l⟩,())=some (l.foldl lJ ⟨true,[]⟩,()):=by
 rw[Yi,qh5 b l hl hg,ht,af];show aM pS (⟨b,l⟩,ae l,0,⟨true,[]⟩,())=_;refine qzb pS (fun k a=>(⟨b,l⟩,ae l,k,a,())) l lJ (fun a=>(a,())) (fun k a=>k<=l.length/\a.l.length<=k) ⟨true,[]⟩ ⟨Nat.zero_le _,Nat.le_refl _⟩ ?_ ?_
 ·intro k x a hx hi;obtain⟨nb,a⟩:=a;have hk:=vY hx;have h2:a.length<=k:=hi.2;have hd:=aO (show k<=1000000000 by omega);have hc:=qi2 nb a x.2.2.1 om;have he:fit (aW (ae a) (ae [x.2.2.1]))=some ():=TR (by show a.length+1<=_;omega);refine⟨?_,⟨hk,by have:=qsd ⟨nb,a⟩ x;have:=hi.2;simp only at*;omega⟩⟩;unfold pS lJ;simp only[gS hx,aP,bR hx,af,hc,he,TS,ai,app];cases ak x.1 31<;>cases decide (x.2.2.1∈a)<;>simp only[Bool.not_true,Bool.not_false,Bool.and_true,Bool.and_false,cond_true,cond_false,aP,aH,af,hd]
 ·intro a _;unfold pS;simp only[gU,aH]
abbrev SN:=Sl ND
abbrev CT:=Tx×Sl SN
abbrev DD:=Tx×Int×Sl CT
def gT(s:Tx):Prop:=(∀b,b∈s->0<=b/\b<=255)/\s.length<=1000000
def gA(t:SN):Prop:=GL t.l/\t.l.length<=10000
def gC(c:CT):Prop:=gT c.1/\c.2.l.length<=1000/\∀t,t∈c.2.l->gA t
def gD(d:DD):Prop:=gT d.1/\d.2.2.l.length<=1000/\∀c,c∈d.2.2.l->gC c
def GD(L:List DD):Prop:=L.length<=1000/\∀d,d∈L->gD d
def Hr(p:Int)(t:List ND):Bool:=Qt t&&!(t.any fun x=>ak x.1 31&&bJ p x.2.2.1)
def Qu(p:Int)(c:CT):Bool:=lx c.1&&(bJ (ae c.2.l) 8&&c.2.l.all fun t=>Hr p t.l)
def Hs(d:DD):Bool:=lx d.1&&(bJ 0 d.2.1&&(bJ d.2.1 8&&(bJ 1 (ae d.2.2.l)&&(bJ (ae d.2.2.l) 60&&d.2.2.l.all (Qu d.2.1)))))
theorem qdu(s:Tx)(hs:gT s):mm (s,())=some (lx s,()):=by rw[X7,qdl s hs.1,af];rfl
theorem z2z(s:Tx)(hs:gT s):Fw (s,())=some (lx s,()):=by rw[ZG,quj s hs.2,af];rfl
theorem z9y(a b:Int):aE a b=!bJ b a:=by
 unfold aE bJ;by_cases h:a<b
 ·rw[zo h,zn om];rfl
 ·rw[zn h,zo om];rfl
theorem qzd(l:List ND):∀a:Sl Int,(l.foldl lJ a).l.length<=a.l.length+l.length:=by
 induction l with
 |nil=>intro a;exact Nat.le_refl _
 |cons x r ih=>intro a;rw[List.foldl_cons];have h1:=ih (lJ a x);have h2:=qsd a x;rw[zf];omega
theorem z30(n:Tx)(p:Int)(cs:Sl CT)(t:SN)(ht:gA t):pg (t,n,p,cs,())=some (!Hr p t.l,n,p,cs,()):=by
 obtain⟨b,l⟩:=t;obtain⟨hg,hl⟩:=ht;have hl:l.length<=10000:=hl;rw[Yk,Yj,qh5 b l hl hg];unfold Hr;cases hc:Qt l with
 |false=>rfl
 |true=>
  have hv:=qun b l hl hg hc;have hd:=qzd l ⟨true,[]⟩;have ha:=z2y (fun v=>bJ p v) l [];rw[List.any_nil,Bool.false_or] at ha;rw[<-show(l.foldl lJ ⟨true,[]⟩).l=l.foldl s6 [] from z4w l _] at ha;have hd:(l.foldl lJ ⟨true,[]⟩).l.length<=0+l.length:=hd;generalize l.foldl lJ ⟨true,[]⟩=vs at hv hd ha;have e:aM pQ (vs,ae vs.l,0,n,p,cs,())=some (iD (fun v=>bJ p v) 0 vs.l,n,p,cs,()):=by
   refine wU pQ (fun k=>(vs,ae vs.l,k,n,p,cs,())) (fun z=>(z,n,p,cs,())) vs.l om (fun v=>bJ p v) ?_ ?_
   ·intro k x hx hk;unfold pQ;simp only[gS hx,aP,bR hx,af,Yd,aO (show k<=1000000000 by omega)];cases bJ p x<;>rfl
   ·unfold pQ;simp only[gU,aH]
  rw[af];simp only[cond_true,oa,aP,af,hv,Yf,Ye,e,CB,ha,Bool.true_and,ai,Bool.not_not]
theorem qze(n:Tx)(p:Int)(cs:Sl CT)(a:Sl SN)(ha:a.l.length<=1000)(hg:∀t,t∈a.l->gA t):ph (a,n,p,cs,())=some (!(a.l.all fun t=>Hr p t.l),n,p,cs,()):=by
 have e:aM pT (a,ae a.l,0,n,p,cs,())=some (iD (fun t=>!Hr p t.l) 0 a.l,n,p,cs,()):=by
  refine wU pT (fun k=>(a,ae a.l,k,n,p,cs,())) (fun z=>(z,n,p,cs,())) a.l om (fun t=>!Hr p t.l) ?_ ?_
  ·intro k x hx hk;unfold pT;simp only[gS hx,aP,bR hx,af,z30 n p cs x (hg x (zG hx)),aO (show k<=1000000000 by omega)];cases Hr p x.l<;>rfl
  ·unfold pT;simp only[gU,aH]
 rw[Ym,Yl,e,af,CB,List.not_all_eq_any_not]
theorem z31{α ρ:Type}(p:α->Bool)(A R:ρ)(l:List α)(k:Nat):scan (fun _ x=>bif p x then none else some A) R k l=bif l.all p then R else A:=by
 induction l generalizing k with
 |nil=>rfl
 |cons x r ih=>
  unfold scan;rw[List.all_cons];cases p x with
  |true=>exact ih (k+1)
  |false=>rfl
theorem qq4(d:DD)(hd:gD d):ve (d,())=some (Hs d,()):=by
 obtain⟨n,p,cs⟩:=d;obtain⟨h1,h2,h3⟩:=hd;have h2:cs.l.length<=1000:=h2;have e:aM pU (cs,ae cs.l,0,n,p,cs,())=some (cs.l.all (Qu p),()):=by
  refine(lI pU (fun k=>(cs,ae cs.l,k,n,p,cs,())) cs.l om (fun _ c=>bif Qu p c then none else some (false,())) (true,()) ?_ ?_).trans ?_
  ·intro k c hx hk;obtain⟨g1,g2,g3⟩:=h3 c (zG hx);have hc:=aO (show k<=1000000000 by omega);unfold pU Qu;simp only[gS hx,aP,bR hx,af,qdu c.1 g1,z9y 8,qze n p cs c.2 g2 g3,hc];cases lx c.1<;>cases bJ (ae c.2.l) 8<;>cases (c.2.l.all fun t=>Hr p t.l)<;>rfl
  ·unfold pU;simp only[gU,aH]
  ·rw[z31];cases cs.l.all (Qu p)<;>rfl
 rw[Yn,qdu n h1,e];unfold Hs;simp only[af,z9y];cases lx n<;>cases bJ 0 p<;>cases bJ p 8<;>cases bJ 1 (ae cs.l)<;>cases bJ (ae cs.l) 60<;>rfl
theorem Gg{α ρ:Type}(p:α->Bool)(A R:ρ)(l:List α)(k:Nat):scan (fun _ x=>bif p x then some A else none) R k l=bif l.any p then A else R:=by
 induction l generalizing k with
 |nil=>rfl
 |cons x r ih=>
  unfold scan;rw[List.any_cons];cases p x with
  |false=>exact ih (k+1)
  |true=>rfl
def jR{α:Type}(q:Nat->α->Bool):Nat->List α->Bool
 |_,[]=>false
 |k,x::r=>q k x||jR q (k+1) r
theorem Um{α ρ:Type}(q:Nat->α->Bool)(A R:ρ)(l:List α)(k:Nat):scan (fun k x=>bif q k x then some A else none) R k l=bif jR q k l then A else R:=by
 induction l generalizing k with
 |nil=>rfl
 |cons x r ih=>
  unfold scan jR;cases q k x with
  |false=>exact ih (k+1)
  |true=>rfl
def Gh:List Tx->List Tx->Bool
 |_,[]=>false
 |pre,a::r=>decide (a∈pre)||Gh (pre++[a]) r
theorem qzf:∀(l pre:List Tx),Gh pre l=(l.any (fun x=>decide (x∈pre))||cw l)
 |[],_=>rfl
 |a::r,pre=>by
  unfold Gh cw;rw[qzf r,List.any_cons];have h:(r.any fun x=>decide (x∈pre++[a]))=((r.any fun x=>decide (x∈pre))||decide (a∈r)):=by
   rw[Bool.eq_iff_iff];simp only[jb,Bool.or_eq_true,decide_eq_true_eq,zL,zB];constructor
   ·rintro⟨x,h1,h2|h2⟩
    ·exact .inl ⟨x,h1,h2⟩
    ·subst h2;exact .inr h1
   ·rintro(⟨x,h1,h2⟩|h2)
    ·exact⟨x,h1,.inl h2⟩
    ·exact⟨a,h2,.inr rfl⟩
  rw[h];cases decide (a∈pre)<;>cases (r.any fun x=>decide (x∈pre))<;>cases decide (a∈r)<;>rfl
theorem qse{α:Type}(key:α->Tx)(q:Nat->α->Bool)(L:List α)(h:∀k x,L[k]?=some x->q k x=decide (key x∈(L.take k).map key)):jR q 0 L=cw (L.map key):=by
 have aux:∀(gb pre:List α),L=pre++gb->jR q pre.length gb=Gh (pre.map key) (gb.map key):=by
  intro gb
  induction gb with
  |nil=>intro pre _;rfl
  |cons x r ih=>
   intro pre e;have hx:L[pre.length]?=some x:=by rw[e,zR (Nat.le_refl _),Nat.sub_self];rfl
   have ht:L.take pre.length=pre:=by rw[e,List.take_left]
   have h1:=ih (pre++[x]) (by rw[e,zC];rfl);rw[zh,zP] at h1;unfold jR;rw[h _ x hx,ht];exact congrArg _ h1
 refine(aux L [] rfl).trans ?_;rw[List.map_nil,qzf];simp
theorem qsf{α:Type}(p:α->Bool):∀(l:List α) (i k:Nat) (x:α),l[i]?=some x->p x=true->aE (iD p k l) ((k+i:Nat):Int)=(l.take i).any p
 |[],_,_,_,h,_=>by cases h
 |a::r,0,k,x,h,hp=>by injection h with h;subst h;unfold iD;rw[hp,cond_true];exact zn om
 |a::r,i+1,k,x,h,hp=>by
  unfold iD;rw[List.take_succ_cons,List.any_cons];cases ha:p a with
  |true=>exact zo (by show(k:Int)<_;omega)
  |false=>have:=qsf p r i (k+1) x h hp;rw[show k+(i+1)=k+1+i by omega];exact this
theorem qsg(l:List DD)(n:Tx):(l.any fun x=>bx x.1 n)=decide (n∈l.map fun d=>d.1):=by rw[Bool.eq_iff_iff];simp only[jb,decide_eq_true_eq,zZ];exact⟨fun⟨x,h1,h2⟩=>⟨x,h1,ou.1 h2⟩,fun⟨x,h1,h2⟩=>⟨x,h1,ou.2 h2⟩⟩
def PC(i:Nat):Nat->List CT->List ((Int×Int)×Tx)
 |_,[]=>[]
 |k,c::r=>((i,k),c.1)::PC i (k+1) r
def PD:Nat->List DD->List ((Int×Int)×Tx)
 |_,[]=>[]
 |i,d::r=>PC i 0 d.2.2.l++PD (i+1) r
def M9(L:List DD):List Tx:=L.flatMap fun d=>d.2.2.l.map fun c=>c.1
def qU(E:List ((Int×Int)×Tx))(n:Tx):Option (Int×Int):=(E.find? fun e=>bx e.2 n).map fun e=>e.1
theorem qsh(i:Nat):∀(l:List CT) (k:Nat),(PC i k l).map (fun e=>e.2)=l.map fun c=>c.1
 |[],_=>rfl
 |c::r,k=>by show c.1::_=c.1::_;rw[qsh i r]
theorem qsi:∀(L:List DD) (i:Nat),(PD i L).map (fun e=>e.2)=M9 L
 |[],_=>rfl
 |d::r,i=>by show(PC i 0 d.2.2.l++PD (i+1) r).map _=_;rw[zP,qsh,qsi r];rfl
theorem Un(i:Nat):∀(l:List CT) (k:Nat) e,e∈PC i k l->e.1.1=(i:Int)/\(k:Int)<=e.1.2
 |[],_,_,h=>by cases h
 |c::r,k,e,h=>by
  rcases zt.1 h with h|h
  ·subst h;exact⟨rfl,Int.le_refl _⟩
  ·obtain⟨h1,h2⟩:=Un i r (k+1) e h;exact⟨h1,by omega⟩
theorem qzg:∀(L:List DD) (i:Nat) e,e∈PD i L->(i:Int)<=e.1.1
 |[],_,_,h=>by cases h
 |d::r,i,e,h=>by
  rcases zL.1 h with h|h
  ·rw[(Un i _ _ e h).1];exact Int.le_refl _
  ·have:=qzg r (i+1) e h;omega
theorem qsj(i:Nat):∀(l:List CT) (k:Nat),((PC i k l).map fun e=>e.1).Nodup
 |[],_=>List.nodup_nil
 |c::r,k=>by show(((i:Int),(k:Int))::(PC i (k+1) r).map _).Nodup;refine List.nodup_cons.2 ⟨fun h=>?_,qsj i r (k+1)⟩;obtain⟨e,h1,h2⟩:=zZ.1 h;have:=(Un i r (k+1) e h1).2;rw[h2] at this;simp only at this;omega
theorem qsk:∀(L:List DD) (i:Nat),((PD i L).map fun e=>e.1).Nodup
 |[],_=>List.nodup_nil
 |d::r,i=>by show((PC i 0 d.2.2.l++PD (i+1) r).map _).Nodup;rw[zP];refine List.nodup_append.2 ⟨qsj i _ _,qsk r (i+1),fun a ha b hb=>?_⟩;obtain⟨e,h1,h2⟩:=zZ.1 ha;obtain⟨e',h3,h4⟩:=zZ.1 hb;have g1:=(Un i _ _ e h1).1;have g2:=qzg r (i+1) e' h3;intro h;rw[<-h,<-h2] at h4;rw[h4,g1] at g2;omega
theorem qo3:∀E:List ((Int×Int)×Tx),(E.map fun e=>e.1).Nodup->(E.any fun e=>!decide (qU E e.2=some e.1))=cw (E.map fun e=>e.2)
 |[],_=>rfl
 |e0::r,h=>by
  rw[zI] at h;obtain⟨h1,h2⟩:=List.nodup_cons.1 h;have ih:=qo3 r h2;have f0:qU (e0::r) e0.2=some e0.1:=by unfold qU;rw[List.find?_cons_of_pos (p:=fun e:(Int×Int)×Tx=>bx e.2 e0.2) (wF e0.2)];rfl
  rw[List.any_cons,f0,zI];unfold cw;rw[<-ih];have hd:(!decide ((some e0.1:Option (Int×Int))=some e0.1))=false:=by simp
  rw[hd,Bool.false_or];rw[Bool.eq_iff_iff];simp only[jb,Bool.or_eq_true,decide_eq_true_eq,zZ,Bool.not_eq_true',decide_eq_false_iff_not];have fr:∀e,e∈r->e.2≠e0.2->qU (e0::r) e.2=qU r e.2:=fun e _ hc=>by unfold qU;rw[List.find?_cons_of_neg (p:=fun x:(Int×Int)×Tx=>bx x.2 e.2) (fun hh=>hc (ou.1 hh).symm)]
  constructor
  ·rintro⟨e,g1,g2⟩;by_cases hn:e.2=e0.2
   ·exact .inl ⟨e,g1,hn⟩
   ·rw[fr e g1 hn] at g2;exact .inr ⟨e,g1,g2⟩
  ·rintro(⟨e,g1,g2⟩|⟨e,g1,g2⟩)
   ·refine⟨e,g1,?_⟩;rw[g2,f0];intro hh;injection hh with hh;exact h1 (zZ.2 ⟨e,g1,hh.symm⟩)
   ·by_cases hn:e.2=e0.2
    ·refine⟨e,g1,?_⟩;rw[hn,f0];intro hh;injection hh with hh;exact h1 (zZ.2 ⟨e,g1,hh.symm⟩)
    ·exact⟨e,g1,by rw[fr e g1 hn];exact g2⟩
def Na(L:List DD)(x:ND):Bool:=L.any fun d=>bx d.1 x.2.1&&ak d.2.1 x.2.2.2
def s7(L:List DD)(x:ND):Bool:=ak x.1 32&&(lx x.2.1&&!Na L x)
def ui(L:List DD)(c:CT):Bool:=c.2.l.any fun t=>t.l.any (s7 L)
def Ht(L:List DD):Bool:=L.any fun d=>d.2.2.l.any (ui L)
theorem z32(b:Bool)(L:List DD)(hL:GD L):pj (⟨b,L⟩,())=some (!L.all Hs,()):=by
 have e:aM pV (⟨b,L⟩,ae L,0,())=some (iD (fun d=>!Hs d) 0 L,()):=by
  refine wU pV (fun k=>(⟨b,L⟩,ae L,k,())) (fun z=>(z,())) L (by have:=hL.1;omega) (fun d=>!Hs d) ?_ ?_
  ·intro k x hx hk;have hd:=qq4 x (hL.2 x (zG hx));obtain⟨n,p,cs⟩:=x;unfold pV;simp only[gS hx,aP,bR hx,af,Yo,hd,aO (show k<=1000000000 by omega),ai];cases Hs (n,p,cs)<;>rfl
  ·unfold pV;simp only[gU,aH]
 rw[Yq,Yp];refine(M8 e _).trans ?_;rw[CB,List.not_all_eq_any_not]
theorem z9z(b:Bool)(L:List DD)(hL:GD L)(d:DD):sx (⟨b,L⟩,d,())=some (iD (fun x=>bx x.1 d.1) 0 L,()):=by
 obtain⟨n,p,cs⟩:=d;rw[Ys];refine wU tL (fun k=>(⟨b,L⟩,(n,p,cs),ae L,k,())) (fun z=>(z,())) L (by have:=hL.1;omega) (fun x=>bx x.1 n) ?_ ?_
 ·intro k x hx hk;obtain⟨m,q,ds⟩:=x;unfold tL;simp only[gS hx,aP,bR hx,af,Yr,aO (show k<=1000000000 by omega)];cases bx m n<;>rfl
 ·unfold tL;simp only[gU,aH]
def Qv(n:Tx)(i:Nat)(d:DD):Option (Bool×Int×Int×Unit):=bif bJ 0 (iD (fun c:CT=>bx c.1 n) 0 d.2.2.l) then some (true,(i:Int),iD (fun c:CT=>bx c.1 n) 0 d.2.2.l,()) else none
def BF(s:Sl DD)(n:Tx)(i:Nat)(z:Int):((Sl DD)×Tx×(Sl DD)×Int×Int×Int×Int×Unit)⊕(Bool×Int×Int×Unit):=bif bJ 0 z then .inr (true,(i:Int),z,()) else .inl (s,n,s,ae s.l,((i+1:Nat):Int),0,0,())
theorem zaz(s:Sl DD)(hL:GD s.l)(n:Tx):vf (s,s,n,0,0,())=some (scan (Qv n) (false,0,0,()) 0 s.l):=by
 rw[Yu];refine lI tM (fun k=>(s,n,s,ae s.l,k,0,0,())) s.l (by have:=hL.1;omega) (Qv n) (false,0,0,()) ?_ ?_
 ·intro i d hd hi;obtain⟨g1,g2,g3⟩:=hL.2 d (zG hd);have e:aM pW (s,n,(i:Int),s,ae s.l,(i:Int),ae d.2.2.l,0,0,0,())=some (BF s n i (iD (fun c:CT=>bx c.1 n) 0 d.2.2.l)):=by
   refine wU pW (fun k=>(s,n,(i:Int),s,ae s.l,(i:Int),ae d.2.2.l,k,0,0,())) (BF s n i) d.2.2.l om (fun c:CT=>bx c.1 n) ?_ ?_
   ·intro k c hc hk;have h0:bJ 0 (k:Int)=true:=zo om;unfold pW BF;simp only[gS hc,aP,Yt,bR hd,bR hc,af,aO (show k<=1000000000 by omega),h0,cond_true];cases bx c.1 n<;>rfl
   ·have h0:bJ 0 (-1)=false:=id (Eq.refl _);unfold pW BF;simp only[gU,aH,h0,cond_false,aO (show i<=1000000000 by omega)]
  unfold tM;simp only[gS hd,aP,bR hd,af,e];unfold Qv BF;cases bJ 0 (iD (fun c:CT=>bx c.1 n) 0 d.2.2.l)<;>rfl
 ·unfold tM;simp only[gU,aH]
theorem qzi(i:Nat)(n:Tx):∀(l:List CT) (k:Nat),qU (PC i k l) n=bif bJ 0 (iD (fun c:CT=>bx c.1 n) k l) then some ((i:Int),iD (fun c:CT=>bx c.1 n) k l) else none
 |[],_=>rfl
 |c::r,k=>by
  unfold PC iD qU;rw[List.find?_cons];cases hc:bx c.1 n with
  |true=>have:bJ 0 (k:Int)=true:=zo om;simp only[cond_true,this];rfl
  |false=>simp only[cond_false];exact qzi i n r (k+1)
theorem qjj(n:Tx):∀(L:List DD) (i:Nat),scan (Qv n) (false,0,0,()) i L=match qU (PD i L) n with|some q=>(true,q.1,q.2,())|none=>(false,0,0,())
 |[],_=>rfl
 |d::r,i=>by
  have ih:=qjj n r (i+1);have h:qU (PD i (d::r)) n=(qU (PC i 0 d.2.2.l) n).or (qU (PD (i+1) r) n):=by show((PC i 0 d.2.2.l++PD (i+1) r).find? _).map _=_;unfold qU;rw[List.find?_append];cases (PC i 0 d.2.2.l).find? (fun e=>bx e.2 n)<;>rfl
  rw[h,qzi];unfold scan Qv;cases bJ 0 (iD (fun c:CT=>bx c.1 n) 0 d.2.2.l) with
  |true=>rfl
  |false=>exact ih
theorem z4x(P:(Int×Int)×Tx->Bool)(i:Nat):∀(l:List CT) (k:Nat),jR (fun k c=>P (((i:Int),(k:Int)),c.1)) k l=(PC i k l).any P
 |[],_=>rfl
 |c::r,k=>by unfold jR PC;rw[List.any_cons,z4x P i r]
theorem z4y(P:(Int×Int)×Tx->Bool):∀(L:List DD) (i:Nat),jR (fun i d=>jR (fun k c=>P (((i:Int),(k:Int)),c.1)) 0 d.2.2.l) i L=(PD i L).any P
 |[],_=>rfl
 |d::r,i=>by unfold jR PD;rw[List.any_append,z4x,z4y P r]
def Gi(L:List DD)(e:(Int×Int)×Tx):Bool:=!decide (qU (PD 0 L) e.2=some e.1)
theorem z4z:∀(L:List DD) (i0 i k:Nat) (d:DD) (c:CT),L[i]?=some d->d.2.2.l[k]?=some c->((((i0+i:Nat):Int),(k:Int)),c.1)∈PD i0 L
 |[],_,_,_,_,_,h,_=>by cases h
 |d0::r,i0,0,k,d,c,h,hc=>by
  injection h with h;subst h;refine List.mem_append_left _ ?_;have aux:∀(l:List CT) (k0 k:Nat),l[k]?=some c->(((i0:Int),((k0+k:Nat):Int)),c.1)∈PC i0 k0 l:=by
   intro l
   induction l with
   |nil=>intro k0 k h;cases h
   |cons c0 r ih=>
    intro k0 k h;cases k with
    |zero=>injection h with h;subst h;exact zj ..
    |succ k=>have:=ih (k0+1) k h;rw[show k0+1+k=k0+(k+1) by omega] at this;exact zm _ this
  have:=aux d0.2.2.l 0 k hc;rw[zO] at this;exact this
 |d0::r,i0,i+1,k,d,c,h,hc=>by have:=z4z r (i0+1) i k d c h hc;rw[show i0+1+i=i0+(i+1) by omega] at this;exact List.mem_append_right _ this
theorem quq(s:Sl DD)(hL:GD s.l){i k:Nat}{d:DD}{c:CT}(hd:s.l[i]?=some d)(hc:d.2.2.l[k]?=some c):pn ((i:Int),(k:Int),s,())=some (Gi s.l (((i:Int),(k:Int)),c.1),s,()):=by
 have hm:=z4z s.l 0 i k d c hd hc;rw[zO] at hm;have hf:∃q,qU (PD 0 s.l) c.1=some q:=by
  unfold qU;cases h:(PD 0 s.l).find? (fun e=>bx e.2 c.1) with
  |some q=>exact⟨q.1,rfl⟩
  |none=>exact absurd (wF c.1) (List.find?_eq_none.1 h _ hm)
 obtain⟨⟨x,y⟩,hq⟩:=hf;rw[Yw,bR hd,af,bR hc,af,Yv,zaz s hL,af,qjj,hq,af];unfold Gi;rw[hq];simp only;by_cases h1:x=(i:Int)
 ·by_cases h2:y=(k:Int)
  ·subst h1 h2;rw[fY,fY,zo rfl];rfl
  ·subst h1;rw[fY,eP h2,zn (by intro h;injection h with h;injection h with h h';exact h2 h')];rfl
 ·rw[eP h1,zn (by intro h;injection h with h;injection h with h h';exact h1 h)];rfl
theorem zb0(s:Sl DD)(hL:GD s.l):sA (s,s,())=some ((PD 0 s.l).any (Gi s.l),s,()):=by
 rw[Yx];refine(lI tO (fun k=>(s,ae s.l,k,s,())) s.l (by have:=hL.1;omega) (fun i d=>bif jR (fun k c=>Gi s.l (((i:Int),(k:Int)),c.1)) 0 d.2.2.l then some (true,s,()) else none) (false,s,()) ?_ ?_).trans ?_
 ·intro i d hd hi;obtain⟨g1,g2,g3⟩:=hL.2 d (zG hd);have e:=lI tN (fun k=>((i:Int),s,ae s.l,(i:Int),ae d.2.2.l,k,s,())) d.2.2.l om
   (fun k c=>bif Gi s.l (((i:Int),(k:Int)),c.1) then some (.inr (true,s,())) else none) (.inl (s,ae s.l,((i+1:Nat):Int),s,()))
   (fun k c hc hk=>by unfold tN;simp only[gS hc,aP,quq s hL hd hc,af,aO (show k<=1000000000 by omega)];cases Gi s.l (((i:Int),(k:Int)),c.1)<;>rfl)
   (by
    unfold tN;simp only[gU,aH,aO (show i<=1000000000 by omega)])
  rw[Um] at e;unfold tO;simp only[gS hd,aP,bR hd,af];refine e.trans ?_;cases jR (fun k c=>Gi s.l (((i:Int),(k:Int)),c.1)) 0 d.2.2.l<;>rfl
 ·unfold tO;simp only[gU,aH]
 ·rw[Um,z4y];cases (PD 0 s.l).any (Gi s.l)<;>rfl
theorem qzj(L:List DD):(PD 0 L).any (Gi L)=cw (M9 L):=by have:=qo3 (PD 0 L) (qsk L 0);rw[qsi] at this;exact this
theorem qur(s:Sl DD)(hL:s.l.length<=1000)(x:ND):sC (s,x,())=some (Na s.l x,()):=by
 obtain⟨a,t,n,c⟩:=x;have e:aM pX (s,(a,t,n,c),ae s.l,0,())=some (iD (fun d:DD=>bx d.1 t&&ak d.2.1 c) 0 s.l,()):=by
  refine wU pX (fun k=>(s,(a,t,n,c),ae s.l,k,())) (fun z=>(z,())) s.l om (fun d:DD=>bx d.1 t&&ak d.2.1 c) ?_ ?_
  ·intro k d hx hk;obtain⟨m,q,ds⟩:=d;unfold pX;simp only[gS hx,aP,bR hx,af,Yy,aO (show k<=1000000000 by omega)];cases bx m t<;>cases ak q c<;>rfl
  ·unfold pX;simp only[gU,aH]
 rw[YA,Yz,e,af,CB];rfl
theorem qus(s:Sl DD)(hL:s.l.length<=1000)(x:ND)(hx:F4 x):po (x,s,())=some (s7 s.l x,s,()):=by have hk:=qur s hL x;have hn:=qdu x.2.1 ⟨hx.1,hx.2.1⟩;obtain⟨a,t,n,c⟩:=x;rw[YB];unfold s7;simp only[hk,hn,af];cases ak a 32<;>cases lx t<;>cases Na s.l (a,t,n,c)<;>rfl
theorem qut(s:Sl DD)(hL:s.l.length<=1000)(t:SN)(ht:gA t):pq (t,s,())=some (t.l.any (s7 s.l),s,()):=by
 have hl:=ht.2;have e:aM pY (t,ae t.l,0,s,())=some (iD (s7 s.l) 0 t.l,s,()):=by
  refine wU pY (fun k=>(t,ae t.l,k,s,())) (fun z=>(z,s,())) t.l om (s7 s.l) ?_ ?_
  ·intro k x hx hk;unfold pY;simp only[gS hx,aP,bR hx,af,qus s hL x (ht.1.at hx),aO (show k<=1000000000 by omega)];cases s7 s.l x<;>rfl
  ·unfold pY;simp only[gU,aH]
 rw[YE,YD,YC,e,af,af,CB]
theorem quu(s:Sl DD)(hL:GD s.l){i k:Nat}{d:DD}{c:CT}(hd:s.l[i]?=some d)(hc:d.2.2.l[k]?=some c):pr ((i:Int),(k:Int),s,())=some (ui s.l c,s,()):=by
 obtain⟨g1,g2,g3⟩:=(hL.2 d (zG hd)).2.2 c (zG hc);have e:aM pZ (c.2,ae c.2.l,0,s,())=some (iD (fun t:SN=>t.l.any (s7 s.l)) 0 c.2.l,s,()):=by
  refine wU pZ (fun k=>(c.2,ae c.2.l,k,s,())) (fun z=>(z,s,())) c.2.l om (fun t:SN=>t.l.any (s7 s.l)) ?_ ?_
  ·intro k t hx hk;unfold pZ;simp only[gS hx,aP,bR hx,af,qut s hL.1 t (g3 t (zG hx)),aO (show k<=1000000000 by omega)];cases t.l.any (s7 s.l)<;>rfl
  ·unfold pZ;simp only[gU,aH]
 rw[YH,bR hd,af,bR hc,af,YG,YF,e,af,af,CB];rfl
theorem zb1(s:Sl DD)(hL:GD s.l):sD (s,s,())=some (Ht s.l,s,()):=by
 rw[YI];refine(lI tQ (fun k=>(s,ae s.l,k,s,())) s.l (by have:=hL.1;omega) (fun _ d=>bif d.2.2.l.any (ui s.l) then some (true,s,()) else none) (false,s,()) ?_ ?_).trans ?_
 ·intro i d hd hi;obtain⟨g1,g2,g3⟩:=hL.2 d (zG hd);have e:=lI tP (fun k=>((i:Int),s,ae s.l,(i:Int),ae d.2.2.l,k,s,())) d.2.2.l om
   (fun _ c=>bif ui s.l c then some (.inr (true,s,())) else none) (.inl (s,ae s.l,((i+1:Nat):Int),s,()))
   (fun k c hc hk=>by unfold tP;simp only[gS hc,aP,quu s hL hd hc,af,aO (show k<=1000000000 by omega)];cases ui s.l c<;>rfl)
   (by
    unfold tP;simp only[gU,aH,aO (show i<=1000000000 by omega)])
  rw[Gg] at e;unfold tQ;simp only[gS hd,aP,bR hd,af];refine e.trans ?_;cases d.2.2.l.any (ui s.l)<;>rfl
 ·unfold tQ;simp only[gU,aH]
 ·rw[Gg];unfold Ht;cases s.l.any (fun d=>d.2.2.l.any (ui s.l))<;>rfl
def jS(L:List DD):Int:=bif decide (L.length<=60)&&L.all Hs then(bif cw (L.map fun d=>d.1)||cw (M9 L) then 101 else bif Ht L then 102 else 0) else 100
theorem zb2(L:List DD):aE 60 (ae L)=!decide (L.length<=60):=by
 unfold aE ae;by_cases e:L.length<=60
 ·rw[zo e,zn om];rfl
 ·rw[zn e,zo om];rfl
theorem qh6(s:Sl DD)(hL:GD s.l):kT (s,())=some (jS s.l,()):=by
 obtain⟨b,L⟩:=s;have hL:GD L:=hL;have e:aM p0 (⟨b,L⟩,ae L,0,⟨b,L⟩,())=some (bif cw (L.map fun d=>d.1)||cw (M9 L) then 101 else bif Ht L then 102 else 0,()):=by
  refine(lI p0 (fun k=>(⟨b,L⟩,ae L,k,⟨b,L⟩,())) L (by have:=hL.1;omega) (fun i d=>bif aE (iD (fun x:DD=>bx x.1 d.1) 0 L) (i:Int) then some (101,()) else none)
   (bif cw (M9 L) then 101 else bif Ht L then 102 else 0,()) ?_ ?_).trans ?_
  ·intro k d hx hk;have hn:=z9z b L hL d;obtain⟨n,p,cs⟩:=d;unfold p0;simp only[gS hx,aP,bR hx,af,hn,aO (show k<=1000000000 by omega)];cases aE (iD (fun x:DD=>bx x.1 n) 0 L) (k:Int)<;>rfl
  ·have h1:=zb0 ⟨b,L⟩ hL;have h2:=zb1 ⟨b,L⟩ hL;rw[qzj] at h1;unfold p0;simp only[gU,aH,h1,h2,af];cases cw (M9 L)<;>cases Ht L<;>rfl
  ·rw[Um,qse (fun d:DD=>d.1) (fun i d=>aE (iD (fun x:DD=>bx x.1 d.1) 0 L) (i:Int)) L (fun k x hx=>by have:=qsf (fun y:DD=>bx y.1 x.1) L k 0 x hx (wF _);rw[zO] at this;rw[this,qsg])];cases cw (L.map fun d=>d.1)<;>rfl
 rw[YJ,z32 b L hL];simp only[zb2,e,af];unfold jS;cases decide (L.length<=60)<;>cases L.all Hs<;>rfl
theorem qq5(s:Sl DD)(hL:s.l.length<=1000)(x:ND):I6 (s,x,())=some (Na s.l x,()):=by
 obtain⟨a,t,n,c⟩:=x;rw[ZH];refine(lI tS (fun k=>(s,k,a,t,n,c,())) s.l om (fun _ d=>bif bx d.1 t&&ak d.2.1 c then some (true,()) else none) (false,()) ?_ ?_).trans ?_
 ·intro k d hx hk;unfold tS;simp only[gS hx,aP,bR hx,af,aO (show k<=1000000000 by omega)];cases bx d.1 t<;>cases ak d.2.1 c<;>rfl
 ·unfold tS;simp only[gU,aH]
 ·rw[Gg];unfold Na;cases s.l.any (fun d=>bx d.1 t&&ak d.2.1 c)<;>rfl
theorem r3(s:Sl DD)(hL:s.l.length<=1000)(i k:Int)(m:Nat)(hm:m<=1000000)(t:SN)(ht:gA t):aM Pw (s,i,k,(m:Int),t,0,())=some (bif t.l.any (s7 s.l) then .inr (.inr (.inr (.inr (.inr (.inr (102,())))))) else .inl (s,i,k,((m+1:Nat):Int),())):=by
 have hl:=ht.2;refine(lI Pw (fun n=>(s,i,k,(m:Int),t,n,())) t.l om (fun _ x=>bif s7 s.l x then some (.inr (.inr (.inr (.inr (.inr (.inr (102,()))))))) else none) (.inl (s,i,k,((m+1:Nat):Int),())) ?_ ?_).trans ?_
 ·intro n x hx hk;have hg:=ht.1.at hx;have hc:=qq5 s hL x;have hn:=z2z x.2.1 ⟨hg.1,hg.2.1⟩;unfold Pw s7;simp only[gS hx,aP,bR hx,af,hc,hn,aO (show n<=1000000000 by omega)];cases ak x.1 32<;>cases lx x.2.1<;>cases Na s.l x<;>rfl
 ·unfold Pw;simp only[gU,aH,aO (show m<=1000000000 by omega)]
 ·rw[Gg]
theorem r4(s:Sl DD)(hL:GD s.l){i k:Nat}{d:DD}{c:CT}(hd:s.l[i]?=some d)(hc:d.2.2.l[k]?=some c)(hk:k<=1000000):aM Px (s,(i:Int),(k:Int),0,())=some (bif ui s.l c then .inr (.inr (.inr (.inr (.inr (102,()))))) else .inl (s,(i:Int),((k+1:Nat):Int),())):=by
 obtain⟨g1,g2,g3⟩:=(hL.2 d (zG hd)).2.2 c (zG hc);refine(lI Px (fun m=>(s,(i:Int),(k:Int),m,())) c.2.l om (fun _ t=>bif t.l.any (s7 s.l) then some (.inr (.inr (.inr (.inr (.inr (102,())))))) else none) (.inl (s,(i:Int),((k+1:Nat):Int),())) ?_ ?_).trans ?_
 ·intro m t hx hm;unfold Px;simp only[bR hd,bR hc,gS hx,aP,bR hx,af,r3 s hL.1 i k m hm t (g3 t (zG hx))];cases t.l.any (s7 s.l)<;>rfl
 ·unfold Px;simp only[bR hd,bR hc,af,gU,aH,aO (show k<=1000000000 by omega)]
 ·rw[Gg];rfl
theorem r5(s:Sl DD)(hL:GD s.l){i:Nat}{d:DD}(hd:s.l[i]?=some d)(hi:i<=1000000):aM Py (s,(i:Int),0,())=some (bif d.2.2.l.any (ui s.l) then .inr (.inr (.inr (.inr (102,())))) else .inl (s,((i+1:Nat):Int),())):=by
 obtain⟨g1,g2,g3⟩:=hL.2 d (zG hd);refine(lI Py (fun k=>(s,(i:Int),k,())) d.2.2.l om (fun _ c=>bif ui s.l c then some (.inr (.inr (.inr (.inr (102,()))))) else none) (.inl (s,((i+1:Nat):Int),())) ?_ ?_).trans ?_
 ·intro k c hx hk;unfold Py;simp only[bR hd,af,gS hx,aP,r4 s hL hd hx hk];cases ui s.l c<;>rfl
 ·unfold Py;simp only[bR hd,af,gU,aH,aO (show i<=1000000000 by omega)]
 ·rw[Gg]
theorem r6(s:Sl DD)(hL:GD s.l):aM TJ (s,0,())=some (.inr (.inr (.inr (bif Ht s.l then 102 else 0,())))):=by
 refine(lI TJ (fun i=>(s,i,())) s.l (by have:=hL.1;omega) (fun _ d=>bif d.2.2.l.any (ui s.l) then some (.inr (.inr (.inr (102,())))) else none) (.inr (.inr (.inr (0,())))) ?_ ?_).trans ?_
 ·intro i d hx hi;unfold TJ;simp only[gS hx,aP,r5 s hL hx hi];cases d.2.2.l.any (ui s.l)<;>rfl
 ·unfold TJ;simp only[gU,aH]
 ·rw[Gg];unfold Ht;cases s.l.any (fun d=>d.2.2.l.any (ui s.l))<;>rfl
theorem qsl{α:Type}{l:List α}{i k:Nat}{x:α}(h:(l.take i)[k]?=some x):l[k]?=some x/\k<i:=by have h1:=vY h;rw[zJ] at h1;rw[List.getElem?_take_of_lt om] at h;exact⟨h,by omega⟩
theorem ltT{i k:Nat}(h:k<i):aE (k:Int) (i:Int)=true:=zo om
theorem z7y(l:List Tx)(n:Tx):(l.any fun x=>bx x n)=decide (n∈l):=by rw[Bool.eq_iff_iff];simp only[jb,decide_eq_true_eq];exact⟨fun⟨x,h1,h2⟩=>by rw[<-ou.1 h2];exact h1,fun h=>⟨n,h,wF n⟩⟩
theorem r2(s:Sl DD)(ns:Sl Tx){i:Nat}{n:Tx}(hn:ns.l[i]?=some n)(hi:i<=1000000):aM TI (s,ns,(i:Int),0,())=some (bif decide (n∈ns.l.take i) then .inr (.inr (.inr (101,()))) else .inl (s,ns,((i+1:Nat):Int),())):=by
 have hc:(ns.l.take i).length=i:=by rw[zJ];have:=vY hn;omega
 refine(lI TI (fun k=>(s,ns,(i:Int),k,())) (ns.l.take i) om (fun _ x=>bif bx x n then some (.inr (.inr (.inr (101,())))) else none) (.inl (s,ns,((i+1:Nat):Int),())) ?_ ?_).trans ?_
 ·intro k x hx hk;obtain⟨h1,h2⟩:=qsl hx;unfold TI;simp only[ltT h2,aP,bR h1,bR hn,af,aO (show k<=1000000000 by omega)];cases bx x n<;>rfl
 ·have h0:aE (i:Int) (i:Int)=false:=zn om;unfold TI;simp only[hc,h0,aH,aO (show i<=1000000000 by omega)]
 ·rw[Gg,z7y]
theorem r1(s:Sl DD)(ns:Sl Tx){i:Nat}{d:DD}(hn:s.l[i]?=some d)(hi:i<=1000000):aM TH (s,ns,(i:Int),0,())=some (bif decide (d.1∈(s.l.take i).map fun d=>d.1) then .inr (.inr (101,())) else .inl (s,ns,((i+1:Nat):Int),())):=by
 have hc:(s.l.take i).length=i:=by rw[zJ];have:=vY hn;omega
 refine(lI TH (fun k=>(s,ns,(i:Int),k,())) (s.l.take i) om (fun _ x=>bif bx x.1 d.1 then some (.inr (.inr (101,()))) else none) (.inl (s,ns,((i+1:Nat):Int),())) ?_ ?_).trans ?_
 ·intro k x hx hk;obtain⟨h1,h2⟩:=qsl hx;unfold TH;simp only[ltT h2,aP,bR h1,bR hn,af,aO (show k<=1000000000 by omega)];cases bx x.1 d.1<;>rfl
 ·have h0:aE (i:Int) (i:Int)=false:=zn om;unfold TH;simp only[hc,h0,aH,aO (show i<=1000000000 by omega)]
 ·rw[Gg,qsg]
end Fn
end Ev
namespace Ev
namespace Pz
abbrev BG:=Int×Tx×Int
def bE(t:Tk):BG:=(t.1,t.2.1,t.2.2.1)
abbrev CX:=Tx×Sl (Sl ND)
abbrev DX:=Tx×Int×Sl CX
def fC:Tx:=[114,101,102]
def gV:Tx:=[105,110,116]
def qV:Tx:=[116,101,120,116]
def Uo:Tx:=[111,102]
def BH:Tx:=[116,121,112,101]
section
variable (l:List BG)
def cV(i:Nat)(k:Int)(s:Tx):Bool:=match l[i]? with
 |some t=>decide (t.1=k)&&(decide (s=[])||decide (t.2.1=s))
 |none=>false
def tx(i:Nat):Tx:=match l[i]? with
 |some t=>t.2.1
 |none=>[]
def Qw(i:Nat):Int:=match l[i]? with
 |some t=>t.2.2
 |none=>0
def kD(i:Nat)(k:Int)(s:Tx):Option Nat:=bif cV l i k s then some (i+1) else none
abbrev PX:=Nat->Option (List ND×Nat)
variable (P:List Tx)
def Qx(s:Tx):Option (List ND):=bif decide (s∈P) then some [(31,[],((P.idxOf s:Nat):Int),0)] else bif decide (s=gV)||decide (s=qV) then some [(32,s,0,0)] else none
def Nb(iK:PX):PX:=fun i=>
 bif cV l i 1 [] then(Qx P (tx l i)).map fun t=>(t,i+1) else
 bif cV l i 2 [] then some ([(32,tx l i,0,0)],i+1) else
 (kD l i 6 kL).bind fun j=>(iK j).bind fun x=>(kD l x.2 6 kR).map fun j=>(x.1,j)
def Lt(i:Nat):Bool:=cV l i 1 []||(cV l i 2 []||cV l i 6 kL)
def Hu(iK:PX):Nat->Nat->List (List ND)->Option (List (List ND)×Nat)
 |0,_,_=>none
 |f+1,i,acc=>bif Lt l i then(Nb l P iK i).bind fun x=>Hu iK f x.2 (acc++[x.1]) else some (acc,i)
def z33(iK:PX):PX:=fun i=>
 bif cV l i 1 fC then(Nb l P iK (i+1)).map fun x=>(nd 32 fC [x.1],x.2) else
 bif cV l i 2 [] then(Hu l P iK (l.length+1) (i+1) []).map fun x=>(nd 32 (tx l i) x.1,x.2) else
 Nb l P iK i
def Lu(iK:PX):PX:=fun i=>(z33 l P iK i).bind fun x=>bif cV l x.2 6 bF then(iK (x.2+1)).map fun y=>(nd 32 bF [x.1,y.1],y.2) else some x
def BI:Nat->PX
 |0=>fun _=>none
 |f+1=>Lu l P (BI f)
def fN(ts:List (List ND)):Sl (Sl ND):=⟨ts.isEmpty,ts.map fun t=>⟨false,t⟩⟩
def vZ(i:Nat):Option (CX×Nat):=(kD l i 2 []).bind fun j=>bif cV l j 6 Uo then(Nb l P (BI l P (l.length+1)) (j+1)).bind fun x=>(Hu l P (BI l P (l.length+1)) (l.length+1) x.2 []).map fun y=>((tx l i,fN (x.1::y.1)),y.2) else some ((tx l i,fN []),j)
def Hv:Nat->Nat->List CX->Option (List CX×Nat)
 |0,_,_=>none
 |f+1,i,acc=>bif cV l i 6 mE then(vZ l P (i+1)).bind fun x=>Hv f x.2 (acc++[x.1]) else some (acc,i)
end
section
variable (l:List BG)
def wW:Nat->Nat->List Tx->Option (List Tx×Nat)
 |0,_,_=>none
 |f+1,i,P=>bif cV l i 1 [] then(bif decide (tx l i∈[gV,qV,fC]++P) then none else wW f (i+1) (P++[tx l i])) else some (P,i)
def Uq:Option (DX×Nat):=(kD l 0 6 BH).bind fun i=>(kD l i 2 []).bind fun j=>(wW l (l.length+1) j []).bind fun p=>(kD l p.2 6 Bw).bind fun i2=>(vZ l p.1 i2).bind fun c=>(Hv l p.1 (l.length+1) c.2 [c.1]).map fun cs=>((tx l i,(p.1.length:Int),⟨false,cs.1⟩),cs.2)
def Qy(i:Nat):Option (Tx×Nat):=bif cV l i 6 kL then(kD l (i+1) 5 []).bind fun j=>(kD l j 6 kR).map fun k=>(tx l (i+1),k) else(kD l i 1 []).map fun j=>(tx l i,j)
end
end Pz
end Ev

namespace Ev
namespace Pz
abbrev FX:=Tx×Int×Int
abbrev LX:=Tx×Bool×List ND
structure MX where
 opens:List Tx
 bc:List FX
 aZ:List DX
 lets:List LX
structure MC where
 dE:List DX->Int
 fE:List FX->Int
 set:List FX->FX->List FX×Int
 toks:List FX->List Tk->Int->PR (List ND)
 named:Tx->Bool
 lt:LX->Bool
def Hw:Tx:=[111,112,101,110]
def Hx:Tx:=[105,110,102,105,120]
def v7:Tx:=[105,110,102,105,120,108]
def v8:Tx:=[105,110,102,105,120,114]
def z35:Tx:=[59,59]
def CC(s:Tx):Int:=bif decide (s=v7) then -1 else bif decide (s=v8) then 1 else 0
def BJ(l:List BG):Option (FX×Nat):=(kD l 1 3 []).bind fun i=>bif decide (0<=Qw l 1/\Qw l 1<=9) then(kD l i 5 []).map fun j=>((tx l i,Qw l 1,CC (tx l 0)),j) else none
section
variable (C:MC)
def Hy{α:Type}(a:Int)(x:Option α):PR α:=match x with
 |some x=>.ok x
 |none=>.error (a,240)
def qA{α:Type}(a:Int)(b:Bool)(x:α):PR α:=bif b then .ok x else .error (a,240)
def Hz(m:MX)(fx:List FX)(l:List BG)(a:Int):PR (MX×List FX):=eb (Hy a (kD l 1 2 [])) fun j=>qA a (decide (j=l.length)&&C.named (tx l 1)) (⟨m.opens++[tx l 1],m.bc,m.aZ,m.lets⟩,fx)
def qB(m:MX)(fx:List FX)(l:List BG)(a:Int):PR (MX×List FX):=eb (Hy a (BJ l)) fun f=>qA a (decide (f.2=l.length)&&(decide ((C.set fx f.1).2=0)&&decide (C.fE (m.bc++[f.1])=0))) (⟨m.opens,m.bc++[f.1],m.aZ,m.lets⟩,(C.set fx f.1).1)
def HA(m:MX)(fx:List FX)(l:List BG)(a:Int):PR (MX×List FX):=eb (Hy a (Uq l)) fun d=>qA a (decide (d.2=l.length)&&(decide (C.dE (m.aZ++[d.1])=0)||decide (C.dE (m.aZ++[d.1])=102))) (⟨m.opens,m.bc,m.aZ++[d.1],m.lets⟩,fx)
def qC(m:MX)(fx:List FX)(d:List Tk)(e a:Int):PR (MX×List FX):=
 let l:=d.map bE;let rc:=cV l 1 6 gH
 eb (Hy a ((Qy l (bif rc then 2 else 1)).bind fun x=>(kD l x.2 6 Bw).map fun k=>(x.1,k))) fun x=>eb (C.toks fx (d.drop x.2) e) fun t=>qA a (C.lt (x.1,rc,t)) (⟨m.opens,m.bc,m.aZ,m.lets++[(x.1,rc,t)]⟩,fx)
def wX(m:MX)(fx:List FX)(d:List Tk)(e:Int):PR (MX×List FX):=match d with
 |[]=>.error (e,240)
 |t::_=>
  let l:=d.map bE;let a:=t.2.2.2
  bif decide (t.1=6) then
   (bif decide (t.2.1=Hw) then Hz C m fx l a else
    bif decide (t.2.1=v7)||(decide (t.2.1=v8)||decide (t.2.1=Hx)) then qB C m fx l a else
    bif decide (t.2.1=BH) then HA C m fx l a else
    bif decide (t.2.1=jN) then qC C m fx d e a else .error (a,240))
  else .error (a,240)
def uj(t:Tk):Bool:=decide (t.1=6)&&decide (t.2.1=z35)
def mK:List Tk->List Tk->MX->List FX->PR (List Tk×MX×List FX)
 |[],cur,m,fx=>.ok (cur,m,fx)
 |t::r,cur,m,fx=>bif uj t then eb (wX C m fx cur t.2.2.2) fun x=>mK r [] x.1 x.2 else mK r (cur++[t]) m fx
theorem qh8:∀(a b cur:List Tk) (m:MX) (fx:List FX),mK C (a++b) cur m fx=eb (mK C a cur m fx) fun x=>mK C b x.1 x.2.1 x.2.2
 |[],b,cur,m,fx=>rfl
 |t::a,b,cur,m,fx=>by
  show(bif uj t then _ else _)=eb (bif uj t then _ else _) _;cases uj t with
  |true=>
   show eb (wX C m fx cur t.2.2.2) (fun x=>mK C (a++b) [] x.1 x.2)=eb (eb (wX C m fx cur t.2.2.2) fun x=>mK C a [] x.1 x.2) _;cases wX C m fx cur t.2.2.2 with
   |error e=>rfl
   |ok x=>exact qh8 a b [] x.1 x.2
  |false=>exact qh8 a b (cur++[t]) m fx
variable {C}
theorem Ur{α:Type}{a:Int}{x:Option α}{y:α}(h:Hy a x=.ok y):x=some y:=by
 cases x with
 |none=>cases h
 |some z=>injection h with h;rw[h]
theorem HE{α:Type}{a:Int}{b:Bool}{x y:α}(h:qA a b x=.ok y):b=true/\x=y:=by
 cases b with
 |false=>cases h
 |true=>injection h with h;exact⟨rfl,h⟩
def dJ(b:Int)(t:Tk):Tk:=(t.1,t.2.1,t.2.2.1,t.2.2.2+b)
theorem z50(b:Int)(d:List Tk):(d.map (dJ b)).map bE=d.map bE:=by rw[zX];rfl
def cI(m n:MX):MX:=⟨m.opens++n.opens,n.bc,m.aZ++n.aZ,m.lets++n.lets⟩
def Us(C:MC):Prop:=∀(fx:List FX) (b:Int) (d:List Tk) (e:Int) (t:List ND),C.toks fx d e=.ok t->C.toks fx (d.map (dJ b)) (e+b)=.ok t
def HF(r:PR (MX×List FX))(m:MX)(x:MX×List FX):Prop:=r=.ok (cI m x.1,x.2)\/∃a,r=.error (a,240)
theorem qzm{m n:MX}{fx:List FX}{l:List BG}{a a':Int}{x:MX×List FX}(h:Hz C n fx l a=.ok x):HF (Hz C (cI m n) fx l a') m x:=by unfold Hz at h ⊢;obtain⟨j,h1,h2⟩:=eI h;obtain⟨h3,h4⟩:=HE h2;rw[Ur h1,<-h4];left;show qA a' _ _=_;rw[h3];show(Except.ok _:PR _)=_;unfold cI;simp only[zC]
theorem z36{m n:MX}{fx:List FX}{l:List BG}{a a':Int}{x:MX×List FX}(h:qB C n fx l a=.ok x):HF (qB C (cI m n) fx l a') m x:=by unfold qB at h ⊢;obtain⟨f,h1,h2⟩:=eI h;obtain⟨h3,h4⟩:=HE h2;rw[Ur h1,<-h4];left;show qA a' (decide (f.2=l.length)&&(decide ((C.set fx f.1).2=0)&&decide (C.fE (n.bc++[f.1])=0))) _=_;rw[h3];rfl
theorem qzn{m n:MX}{fx:List FX}{l:List BG}{a a':Int}{x:MX×List FX}(h:HA C n fx l a=.ok x):HF (HA C (cI m n) fx l a') m x:=by
 unfold HA at h ⊢;obtain⟨d,h1,h2⟩:=eI h;obtain⟨h3,h4⟩:=HE h2;rw[Ur h1,<-h4];show HF (qA a' _ _) m _;unfold qA;cases (decide (d.2=l.length)&&(decide (C.dE ((cI m n).aZ++[d.1])=0)||decide (C.dE ((cI m n).aZ++[d.1])=102))) with
 |false=>exact .inr ⟨a',rfl⟩
 |true=>left;show(Except.ok _:PR _)=_;unfold cI;simp only[zC]
theorem z38(hT:Us C){m n:MX}{fx:List FX}{d:List Tk}{e a a' b:Int}{x:MX×List FX}(h:qC C n fx d e a=.ok x):HF (qC C (cI m n) fx (d.map (dJ b)) (e+b) a') m x:=by unfold qC at h ⊢;simp only at h ⊢;rw[z50];obtain⟨y,h1,h2⟩:=eI h;obtain⟨t,h3,h4⟩:=eI h2;obtain⟨h5,h6⟩:=HE h4;rw[Ur h1,<-h6];left;show eb (C.toks fx ((d.map (dJ b)).drop y.2) (e+b)) _=_;rw[<-List.map_drop,hT fx b _ e t h3];show qA a' (C.lt (y.1,cV (d.map bE) 1 6 gH,t)) _=_;rw[h5];show(Except.ok _:PR _)=_;unfold cI;simp only[zC]
theorem qzo(hT:Us C){m n:MX}{fx:List FX}{d:List Tk}{e b:Int}{x:MX×List FX}(h:wX C n fx d e=.ok x):HF (wX C (cI m n) fx (d.map (dJ b)) (e+b)) m x:=by
 cases d with
 |nil=>cases h
 |cons t d=>
  have h:(bif decide (t.1=6) then _ else _)=Except.ok x:=h;show HF (bif decide (t.1=6) then _ else _) m x;cases h6:decide (t.1=6) with
  |false=>rw[h6] at h;cases h
  |true=>
   rw[h6,cond_true] at h;rw[cond_true];have hs:=z50 b (t::d);rw[zI] at hs;show HF (bif decide (t.2.1=Hw) then Hz C (cI m n) fx (((dJ b t)::d.map (dJ b)).map bE) _ else bif decide (t.2.1=v7)||(decide (t.2.1=v8)||decide (t.2.1=Hx)) then qB C (cI m n) fx (((dJ b t)::d.map (dJ b)).map bE) _ else
    bif decide (t.2.1=BH) then HA C (cI m n) fx (((dJ b t)::d.map (dJ b)).map bE) _ else bif decide (t.2.1=jN) then qC C (cI m n) fx ((t::d).map (dJ b)) (e+b) (t.2.2.2+b) else .error (t.2.2.2+b,240)) m x
   rw[hs];cases h1:decide (t.2.1=Hw) with
   |true=>rw[h1] at h;exact qzm h
   |false=>
    rw[h1,cond_false] at h;rw[cond_false];cases h2:(decide (t.2.1=v7)||(decide (t.2.1=v8)||decide (t.2.1=Hx))) with
    |true=>rw[h2] at h;exact z36 h
    |false=>
     rw[h2,cond_false] at h;rw[cond_false];cases h3:decide (t.2.1=BH) with
     |true=>rw[h3] at h;exact qzn h
     |false=>
      rw[h3,cond_false] at h;rw[cond_false];cases h4:decide (t.2.1=jN) with
      |true=>rw[h4] at h;exact z38 hT h
      |false=>rw[h4] at h;cases h
theorem qh9(hT:Us C)(b:Int):∀(l cur:List Tk) (m n:MX) (fx:List FX) (x:List Tk×MX×List FX),mK C l cur n fx=.ok x->mK C (l.map (dJ b)) (cur.map (dJ b)) (cI m n) fx=.ok (x.1.map (dJ b),cI m x.2.1,x.2.2)\/∃a,mK C (l.map (dJ b)) (cur.map (dJ b)) (cI m n) fx=.error (a,240)
 |[],cur,m,n,fx,x,h=>by injection h with h;subst h;exact .inl rfl
 |t::l,cur,m,n,fx,x,h=>by
  have h:(bif uj t then _ else _)=Except.ok x:=h;show(bif uj t then _ else _)=_\/∃a,(bif uj t then _ else _)=_;cases hE:uj t with
  |true=>
   rw[hE,cond_true] at h;obtain⟨y,h1,h2⟩:=eI h;rw[cond_true];show eb (wX C (cI m n) fx (cur.map (dJ b)) (t.2.2.2+b)) (fun x=>mK C (l.map (dJ b)) [] x.1 x.2)=_\/∃a,eb (wX C (cI m n) fx (cur.map (dJ b)) (t.2.2.2+b)) (fun x=>mK C (l.map (dJ b)) [] x.1 x.2)=_;rcases qzo hT (m:=m) (b:=b) h1 with h3|⟨a,h3⟩
   ·rw[h3];exact qh9 hT b l [] m y.1 y.2 x h2
   ·rw[h3];exact .inr ⟨a,rfl⟩
  |false=>rw[hE,cond_false] at h;rw[cond_false];have:=qh9 hT b l (cur++[t]) m n fx x h;rw[zP] at this;exact this
theorem z39{n:MX}{fx:List FX}{d:List Tk}{e:Int}{x:MX×List FX}(h:wX C n fx d e=.ok x):(x.1.bc=n.bc/\x.2=fx)\/n.bc.length<x.1.bc.length:=by
 cases d with
 |nil=>cases h
 |cons t d=>
  have h:(bif decide (t.1=6) then(bif decide (t.2.1=Hw) then Hz C n fx ((t::d).map bE) t.2.2.2 else bif decide (t.2.1=v7)||(decide (t.2.1=v8)||decide (t.2.1=Hx)) then qB C n fx ((t::d).map bE) t.2.2.2 else
    bif decide (t.2.1=BH) then HA C n fx ((t::d).map bE) t.2.2.2 else bif decide (t.2.1=jN) then qC C n fx (t::d) e t.2.2.2 else .error (t.2.2.2,240)) else .error (t.2.2.2,240))=Except.ok x:=h
  cases h6:decide (t.1=6) with
  |false=>rw[h6] at h;cases h
  |true=>
   rw[h6,cond_true] at h;cases h1:decide (t.2.1=Hw) with
   |true=>rw[h1,cond_true] at h;obtain⟨j,_,h⟩:=eI h;rw[<-(HE h).2];exact .inl ⟨rfl,rfl⟩
   |false=>
    rw[h1,cond_false] at h;cases h2:(decide (t.2.1=v7)||(decide (t.2.1=v8)||decide (t.2.1=Hx))) with
    |true=>rw[h2,cond_true] at h;obtain⟨j,_,h⟩:=eI h;rw[<-(HE h).2];right;show n.bc.length<(n.bc++[j.1]).length;rw[zh,List.length_singleton];exact Nat.lt_succ_self _
    |false=>
     rw[h2,cond_false] at h;cases h3:decide (t.2.1=BH) with
     |true=>rw[h3,cond_true] at h;obtain⟨j,_,h⟩:=eI h;rw[<-(HE h).2];exact .inl ⟨rfl,rfl⟩
     |false=>
      rw[h3,cond_false] at h;cases h4:decide (t.2.1=jN) with
      |true=>rw[h4,cond_true] at h;obtain⟨j,_,h⟩:=eI h;obtain⟨q,_,h⟩:=eI h;rw[<-(HE h).2];exact .inl ⟨rfl,rfl⟩
      |false=>rw[h4] at h;cases h
theorem ql4:∀(l cur:List Tk) (n:MX) (fx:List FX) (x:List Tk×MX×List FX),mK C l cur n fx=.ok x->(x.2.1.bc=n.bc/\x.2.2=fx)\/n.bc.length<x.2.1.bc.length
 |[],cur,n,fx,x,h=>by injection h with h;subst h;exact .inl ⟨rfl,rfl⟩
 |t::l,cur,n,fx,x,h=>by
  have h:(bif uj t then _ else _)=Except.ok x:=h;cases hE:uj t with
  |true=>
   rw[hE,cond_true] at h;obtain⟨y,h1,h2⟩:=eI h;rcases z39 h1 with ⟨h3,h4⟩|h3<;>rcases ql4 l [] y.1 y.2 x h2 with ⟨h5,h6⟩|h5
   ·exact .inl ⟨h5.trans h3,h6.trans h4⟩
   ·exact .inr (by rw[h3] at h5;exact h5)
   ·exact .inr (by rw[h5];exact h3)
   ·exact .inr (Nat.lt_trans h3 h5)
  |false=>rw[hE,cond_false] at h;exact ql4 l (cur++[t]) n fx x h
end
end Pz
end Ev

namespace Ev
open Go
namespace Fn
open Pz
section
variable (nb:Bool) (l:List Tk) (q:Sl Tx)
abbrev RS(a:Nat)(bad:Bool):(Sl Tk)×Int×Bool×(Sl Tx)×Unit:=(⟨nb,l⟩,(a:Int),bad,q,())
variable {nb l q}
theorem uk(a b:Tx):bx a b=decide (a=b):=by
 by_cases e:a=b
 ·rw[e,wF];exact(zo rfl).symm
 ·rw[zn e];cases h:bx a b with
  |false=>rfl
  |true=>exact absurd (eq_of_beq h) e
theorem wa(a b:Int):ak a b=decide (a=b):=rfl
theorem Ut(i:Nat):(l.map bE)[i]?=(l[i]?).map bE:=zV
theorem Qz(k:Int)(s:Tx)(a:Nat):fq (k,s,RS nb l q a true)=some (false,RS nb l q a true):=by rw[Pj];rfl
theorem qD(k:Int)(s:Tx)(a:Nat):fq (k,s,RS nb l q a false)=some (cV (l.map bE) a k s,RS nb l q a false):=by
 rw[Pj];simp only[ai,Bool.not_false,aP];rw[cd];unfold cV;rw[Ut];by_cases hj:a<l.length
 ·have hg:=ze hj;rw[if_pos (by show(a:Int)<(l.length:Int);omega),bR hg,hg,af,af,wa,uk,uk];show _=some (decide (l[a].1=k)&&(decide (s=[])||decide (l[a].2.1=s)),RS nb l q a false);cases decide (l[a].1=k)<;>cases decide (s=[])<;>rfl
 ·rw[if_neg (by show ¬(a:Int)<(l.length:Int);omega),zU om];rfl
theorem Gj(k:Int)(s:Tx)(a:Nat):cj (k,s,RS nb l q a true)=some ((0,[],0,0),RS nb l q a true):=by rw[Jb];rfl
theorem jT{a:Nat}{k:Int}{s:Tx}(h:cV (l.map bE) a k s=true):a<l.length:=by
 unfold cV at h;rw[Ut] at h;by_cases hj:a<l.length
 ·exact hj
 ·rw[zU om] at h;cases h
theorem wb{k:Int}{s:Tx}{a:Nat}(h:cV (l.map bE) a k s=false):cj (k,s,RS nb l q a false)=some ((0,[],0,0),RS nb l q a true):=by rw[Jb,aH,qD,af,h];rfl
theorem lT{k:Int}{s:Tx}{a:Nat}(hn:l.length<=1000000)(h:cV (l.map bE) a k s=true):∃t,l[a]?=some t/\cj (k,s,RS nb l q a false)=some (t,RS nb l q (a+1) false):=by
 have hj:=jT h;refine⟨l[a],ze hj,?_⟩;rw[Jb,aH,qD,af,h];have e1:aA .i64 (a:Int) 1=((a+1:Nat):Int):=aO om;have e2:cq .i64 (((a+1:Nat):Int)) 1=(a:Int):=by rw[qL om om];omega
 simp only[ai,Bool.not_true,aH];rw[e1,e2,bR (ze hj),af]
theorem CD{a:Nat}{t:Tk}(h:l[a]?=some t):tx (l.map bE) a=t.2.1:=by unfold tx;rw[Ut,h];rfl
theorem za0{a:Nat}{t:Tk}(h:l[a]?=some t):Qw (l.map bE) a=t.2.2.1:=by unfold Qw;rw[Ut,h];rfl
def eJ(l:List Tk):Prop:=∀t,t∈l->((∀b,b∈t.2.1->0<=b/\b<=255)/\t.2.1.length<=1000000)/\lA t.2.2.1
theorem eJ.at{a:Nat}{t:Tk}(h:eJ l)(e:l[a]?=some t):((∀b,b∈t.2.1->0<=b/\b<=255)/\t.2.1.length<=1000000)/\lA t.2.2.1:=h t (zG e)
theorem GL.one{x:ND}(h:F4 x):GL [x]:=fun y hy=>by rw[zB.1 hy];exact h
theorem GL.nil:GL []:=fun _ h=>absurd h List.not_mem_nil
theorem GL.app{a b:List ND}(h1:GL a)(h2:GL b):GL (a++b):=fun x hx=>(zL.1 hx).elim (h1 x) (h2 x)
theorem GL.cons{a:ND}{b:List ND}(h1:F4 a)(h2:GL b):GL (a::b):=fun x hx=>(zt.1 hx).elim (fun e=>e▸h1) (h2 x)
theorem QA:lA 0:=by unfold lA;omega
theorem qso{s:Tx}(h:(∀b,b∈s->0<=b/\b<=255)/\s.length<=1000000):F4 (32,s,0,0):=⟨h.1,h.2,QA⟩
theorem quv(b:Bool)(P:List Tx)(s:Tx)(hP:P.length<=1000000):∃r:Int,o7 (⟨b,P⟩,s,())=some (r,())/\((s∈P/\r=((P.idxOf s:Nat):Int))\/(s∉P/\r=-1)):=by
 have key:∀(m k:Nat),k+m=P.length->s∉P.take k->∃r:Int,aM gw (⟨b,P⟩,s,(P.length:Int),(k:Int),())=some (r,())/\((s∈P/\r=((P.idxOf s:Nat):Int))\/(s∉P/\r=-1)):=by
  intro m
  induction m with
  |zero=>intro k hk hn;rw[zT om] at hn;refine⟨-1,bX ?_,.inr ⟨hn,rfl⟩⟩;unfold gw;simp only;rw[cd,if_neg om]
  |succ m ih=>
   intro k hk hn;have hc:k<P.length:=om
   have step:gw (⟨b,P⟩,s,(P.length:Int),(k:Int),())=aq (bx s P[k]) (some (.inr ((k:Int),()))) (some (.inl (⟨b,P⟩,s,(P.length:Int),((k+1:Nat):Int),()))):=by unfold gw;simp only;rw[cd,if_pos om,bR (ze hc),af,aO om]
   rw[uk] at step;by_cases e:s=P[k]
   ·rw[zo e,aP] at step;refine⟨(k:Int),bX step,.inl ⟨e▸List.getElem_mem hc,?_⟩⟩;have hd:P.idxOf s=k:=by
     have h1:P=P.take k++P[k]::P.drop (k+1):=by rw[<-List.drop_eq_getElem_cons hc,List.take_append_drop]
     rw[h1,List.idxOf_append,if_neg hn,<-e,List.idxOf_cons_self,zJ];omega
    rw[hd]
   ·rw[zn e,aH] at step;obtain⟨r,h1,h2⟩:=ih (k+1) om (fun hm=>by
     rw[List.take_add_one,ze hc] at hm;rcases zL.1 hm with hm|hm
     ·exact hn hm
     ·exact e (by simpa using hm))
    exact⟨r,by rw[dC step,h1],h2⟩
 rw[I7];exact key P.length 0 om (by simp)
def Rm(nb:Bool)(l:List Tk)(q:Sl Tx)(lo:Nat)(r:Option (List ND×Nat))(o:Option ((Sl ND)×(Sl Tk)×Int×Bool×(Sl Tx)×Unit)):Prop:=
 ∃(v:Sl ND) (a:Nat) (bad:Bool),o=some (v,RS nb l q a bad)/\lo<=a/\a<=l.length/\v.l.length<=a-lo/\GL v.l/\(match r with
  |some x=>v=⟨false,x.1⟩/\a=x.2/\bad=false/\lo<a
  |none=>bad=true)
theorem zb3{s:Tx}{a:Nat}(hq:q.l.length<=1000000)(hs:(∀b,b∈s->0<=b/\b<=255)/\s.length<=1000000):∃x bad,nR (s,RS nb l q a false)=some (⟨false,[x]⟩,RS nb l q a bad)/\F4 x/\(match Qx q.l s with
  |some t=>t=[x]/\bad=false
  |none=>bad=true):=by
 obtain⟨r,h1,h2⟩:=quv q.nil q.l s hq;have h1:o7 (q,s,())=some (r,()):=h1;rw[Zh,h1,af];unfold Qx;rcases h2 with ⟨h2,rfl⟩|⟨h2,rfl⟩
 ·have:bJ 0 ((q.l.idxOf s:Nat):Int)=true:=zo om;have hi:q.l.idxOf s<q.l.length:=List.idxOf_lt_length_iff.2 h2;rw[this,aP,zo h2];refine⟨_,false,rfl,⟨fun b hb=>absurd hb List.not_mem_nil,Nat.zero_le _,?_⟩,rfl,rfl⟩;show lA ((q.l.idxOf s:Nat):Int);unfold lA;omega
 ·have:bJ 0 (-1)=false:=rfl;rw[this,aH,zn h2,cond_false,show bx s [105,110,116]=decide (s=gV) from uk s gV,show bx s [116,101,120,116]=decide (s=qV) from uk s qV];refine⟨(32,s,0,0),!(decide (s=gV)||decide (s=qV)),?_,qso hs,?_⟩
  ·cases decide (s=gV)<;>cases decide (s=qV)<;>rfl
  ·cases decide (s=gV)<;>cases decide (s=qV)<;>first|rfl|exact⟨rfl,rfl⟩
structure Sv (nb:Bool) (l:List Tk) (q:Sl Tx) (sf:(Sl Tk)×Int×Bool×(Sl Tx)×Unit->Option ((Sl ND)×(Sl Tk)×Int×Bool×(Sl Tx)×Unit)) (iK:PX) (i:Nat):Prop where
 err:∀a:Nat,sf (RS nb l q a true)=some (⟨true,[]⟩,RS nb l q a true)
 ok:∀j:Nat,i<j->j<=l.length->Rm nb l q j (iK j) (sf (RS nb l q j false))
variable {self:(Sl Tk)×Int×Bool×(Sl Tx)×Unit→Option ((Sl ND)×(Sl Tk)×Int×Bool×(Sl Tx)×Unit)} {iK:PX}
theorem Sv.le{i j:Nat}(h:Sv nb l q self iK i)(hj:i<=j):Sv nb l q self iK j:=⟨h.err,fun k h1 h2=>h.ok k om h2⟩
theorem Uu(hn:l.length<=1000000)(hq:q.l.length<=1000000)(hT:eJ l){i:Nat}(hs:Sv nb l q self iK i)(hi:i<=l.length):Rm nb l q i (Nb (l.map bE) q.l iK i) (gu self (RS nb l q i false)):=by
 rw[Jc,aH,qD,af];unfold Nb;cases h1:cV (l.map bE) i 1 [] with
 |true=>
  obtain⟨t,g1,g2⟩:=lT (nb:=nb) (q:=q) hn h1;have hc:=jT h1;rw[aP,g2,af,CD g1];obtain⟨x,bad,k1,k2,k3⟩:=zb3 (nb:=nb) (l:=l) (a:=i+1) hq (hT.at g1).1;have k1:nR (t.2.1,RS nb l q (i+1) false)=_:=k1;rw[k1,af];refine⟨_,i+1,bad,rfl,by omega,by omega,by simp,GL.one k2,?_⟩;show match((Qx q.l t.2.1).map fun t=>(t,i+1)) with|some x=>_|none=>_
  cases hx:Qx q.l t.2.1 with
  |none=>rw[hx] at k3;exact k3
  |some y=>rw[hx] at k3;obtain⟨rfl,k4⟩:=k3;exact⟨rfl,rfl,k4,by omega⟩
 |false=>
  rw[aH,qD,af,cond_false];cases h2:cV (l.map bE) i 2 [] with
  |true=>obtain⟨t,g1,g2⟩:=lT (nb:=nb) (q:=q) hn h2;have hc:=jT h2;rw[aP,g2,af,CD g1];exact⟨_,i+1,false,rfl,by omega,by omega,by simp,GL.one (qso (hT.at g1).1),rfl,rfl,rfl,by omega⟩
  |false=>
   rw[aH,cond_false];unfold kD;cases h3:cV (l.map bE) i 6 kL with
   |false=>have:=wb (nb:=nb) (q:=q) h3;have this:cj (6,[40],RS nb l q i false)=_:=this;rw[this,af,hs.err,af,Gj,af];exact⟨_,i,true,rfl,by omega,hi,by simp,GL.nil,rfl⟩
   |true=>
    obtain⟨t,g1,g2⟩:=lT (nb:=nb) (q:=q) hn h3;have hc:=jT h3;have g2:cj (6,[40],RS nb l q i false)=_:=g2;rw[g2,af];obtain⟨v,a,bad,k1,k2,k3,k4,k5,k6⟩:=hs.ok (i+1) om om;rw[k1,af];show Rm nb l q i ((iK (i+1)).bind fun x=>Option.map (fun j=>(x.1,j)) (bif cV (l.map bE) x.2 6 kR then some (x.2+1) else none)) _;cases hy:iK (i+1) with
    |none=>rw[hy] at k6;rw[k6,Gj,af];exact⟨v,a,true,rfl,by omega,k3,by omega,k5,rfl⟩
    |some y=>
     rw[hy] at k6;obtain⟨rfl,rfl,rfl,k7⟩:=k6;show Rm nb l q i (Option.map (fun j=>(y.1,j)) (bif cV (l.map bE) y.2 6 kR then some (y.2+1) else none)) _;cases h4:cV (l.map bE) y.2 6 kR with
     |false=>have:=wb (nb:=nb) (q:=q) h4;have this:cj (6,[41],RS nb l q y.2 false)=_:=this;rw[this,af];exact⟨_,y.2,true,rfl,by omega,k3,by show y.1.length<=_;have k4:y.1.length<=_:=k4;omega,k5,rfl⟩
     |true=>obtain⟨t,g1,g2⟩:=lT (nb:=nb) (q:=q) hn h4;have hc:=jT h4;have g2:cj (6,[41],RS nb l q y.2 false)=_:=g2;rw[g2,af];exact⟨_,y.2+1,false,rfl,by omega,by omega,by show y.1.length<=_;have k4:y.1.length<=_:=k4;omega,k5,rfl,rfl,rfl,by omega⟩
end
open Pz
section
variable {nb:Bool} {l:List Tk} {q:Sl Tx}
theorem Rm.cases{lo:Nat}{r:Option (List ND×Nat)}{o:Option ((Sl ND)×(Sl Tk)×Int×Bool×(Sl Tx)×Unit)}(h:Rm nb l q lo r o):(r=none/\∃(v:Sl ND) (a:Nat),o=some (v,RS nb l q a true)/\lo<=a/\a<=l.length/\v.l.length<=a-lo/\GL v.l)\/(∃x,r=some x/\o=some (⟨false,x.1⟩,RS nb l q x.2 false)/\lo<x.2/\x.2<=l.length/\x.1.length<=x.2-lo/\GL x.1):=by
 obtain⟨v,a,bad,h1,h2,h3,h4,h5,h6⟩:=h;cases r with
 |none=>subst h6;exact .inl ⟨rfl,v,a,h1,h2,h3,h4,h5⟩
 |some x=>obtain⟨rfl,rfl,rfl,h7⟩:=h6;exact .inr ⟨x,rfl,h1,h7,h3,h4,h5⟩
theorem Rm.bad{lo:Nat}{v:Sl ND}{a:Nat}(h2:lo<=a)(h3:a<=l.length)(h4:v.l.length<=a-lo)(h5:GL v.l):Rm nb l q lo none (some (v,RS nb l q a true)):=⟨v,a,true,rfl,h2,h3,h4,h5,rfl⟩
theorem Rm.fk{lo:Nat}{x:List ND×Nat}(h2:lo<x.2)(h3:x.2<=l.length)(h4:x.1.length<=x.2-lo)(h5:GL x.1):Rm nb l q lo (some x) (some (⟨false,x.1⟩,RS nb l q x.2 false)):=⟨_,_,false,rfl,by omega,h3,h4,h5,rfl,rfl,rfl,h2⟩
theorem qq6(a:Nat):nS (RS nb l q a false)=some (Lt (l.map bE) a,RS nb l q a false):=by
 rw[Zi,qD,af];unfold Lt;cases cV (l.map bE) a 1 [] with
 |true=>rfl
 |false=>
  rw[aH,qD,af];cases cV (l.map bE) a 2 [] with
  |true=>rfl
  |false=>rw[aH];have:=qD (nb:=nb) (l:=l) (q:=q) 6 [40] a;rw[this,af];rfl
def ll(ts:List (List ND)):Nat:=(ts.map fun t=>t.length).sum
theorem za1(a b:List (List ND)):ll (a++b)=ll a+ll b:=by unfold ll;rw[zP,List.sum_append]
theorem qhb(ts:List (List ND)):lens (fN ts).l=ll ts:=by unfold lens fN ll;rw[zX];rfl
theorem z3a(a b:List (Sl ND)):lens (a++b)=lens a+lens b:=by unfold lens;rw[zP,List.sum_append]
theorem z3b(ts:List (List ND))(t:List ND):(⟨aD (fN ts).nil (ch [(⟨false,t⟩:Sl ND)]),app (fN ts).l [(⟨false,t⟩:Sl ND)]⟩:Sl (Sl ND))=fN (ts++[t]):=by
 unfold fN;rw[kB,zP];cases ts with
 |nil=>rfl
 |cons a ts=>rfl
def Rs(nb:Bool)(l:List Tk)(q:Sl Tx)(lo:Nat)(r:Option (List (List ND)×Nat))(o:Option ((Sl (Sl ND))×(Sl Tk)×Int×Bool×(Sl Tx)×Unit)):Prop:=
 (r=none/\∃(v:Sl (Sl ND)) (a:Nat),o=some (v,RS nb l q a true)/\lo<=a/\a<=l.length/\lens v.l<=a-lo/\v.l.length<=a-lo+1/\∀t,t∈v.l->GL t.l)\/
 (∃x,r=some x/\o=some (fN x.1,RS nb l q x.2 false)/\lo<=x.2/\x.2<=l.length/\ll x.1<=x.2-lo/\x.1.length<=x.2-lo/\∀t,t∈x.1->GL t)
variable {self:(Sl Tk)×Int×Bool×(Sl Tx)×Unit→Option ((Sl ND)×(Sl Tk)×Int×Bool×(Sl Tx)×Unit)} {iK:PX}
theorem qjl(a:Nat)(v:Sl (Sl ND)):aM (gz self) (⟨nb,l⟩,(a:Int),true,q,v,())=some (v,RS nb l q a true):=by apply bX;unfold gz;rfl
theorem quw(hn:l.length<=1000000)(hq:q.l.length<=1000000)(hT:eJ l)(lo:Nat):∀(m f j:Nat) (acc:List (List ND)),Sv nb l q self iK j->l.length-j<=m->l.length-j<f->lo<=j->j<=l.length->ll acc<=j-lo->acc.length<=j-lo->(∀t,t∈acc->GL t)->Rs nb l q lo (Hu (l.map bE) q.l iK f j acc) (aM (gz self) (⟨nb,l⟩,(j:Int),false,q,fN acc,())):=by
 intro m
 induction m with
 |zero=>
  intro f j acc hs hm hf h1 h2 h3 h4 h5;obtain⟨f,rfl⟩:∃g,f=g+1:=⟨f-1,by omega⟩;have hc:Lt (l.map bE) j=false:=by
   cases h:Lt (l.map bE) j with
   |false=>rfl
   |true=>exfalso;unfold Lt at h;simp only[Bool.or_eq_true] at h;rcases h with h|h|h<;>exact absurd (jT h) om
  refine .inr ⟨(acc,j),?_,?_,h1,h2,h3,h4,h5⟩
  ·unfold Hu;rw[hc];rfl
  ·apply bX;unfold gz;simp only[ai,Bool.not_false,aP];rw[qq6,af,hc];rfl
 |succ m ih=>
  intro f j acc hs hm hf h1 h2 h3 h4 h5;obtain⟨f,rfl⟩:∃g,f=g+1:=⟨f-1,by omega⟩;unfold Hu;cases hd:Lt (l.map bE) j with
  |false=>refine .inr ⟨(acc,j),rfl,?_,h1,h2,h3,h4,h5⟩;apply bX;unfold gz;simp only[ai,Bool.not_false,aP];rw[qq6,af,hd];rfl
  |true=>
   rw[cond_true];have step:∀(v:Sl ND) (a:Nat) (bad:Bool),gu self (RS nb l q j false)=some (v,RS nb l q a bad)->
     gz self (⟨nb,l⟩,(j:Int),false,q,fN acc,())=some (.inl (⟨nb,l⟩,(a:Int),bad,q,⟨aD (fN acc).nil (ch [v]),app (fN acc).l [v]⟩,())):=by
    intro v a bad hv;unfold gz;simp only[ai,Bool.not_false,aP];rw[qq6,af,hd,aP,hv,af,fm (by
     show(((fN acc).l.length:Nat):Int)+1<=_;have:(fN acc).l.length=acc.length:=zA _;omega),af]
   rcases(Uu hn hq hT hs h2).cases with ⟨e,v,a,g1,g2,g3,g4,g5⟩|⟨x,e,g1,g2,g3,g4,g5⟩
   ·rw[e,dC (step _ _ _ g1),qjl];refine .inl ⟨rfl,_,a,rfl,by omega,g3,?_,?_,?_⟩
    ·show lens (app (fN acc).l [v])<=_;rw[kB,z3a,qhb];show ll acc+(v.l.length+0)<=_;omega
    ·show(app (fN acc).l [v]).length<=_;rw[kB,zh];have:(fN acc).l.length=acc.length:=zA _;simp only[List.length_singleton];omega
    ·intro t ht;have ht:t∈app (fN acc).l [v]:=ht;rw[kB] at ht;rcases zL.1 ht with ht|ht
     ·obtain⟨s,hs,rfl⟩:=zZ.1 ht;exact h5 s hs
     ·rw[zB.1 ht];exact g5
   ·rw[e,dC (step _ _ _ g1),z3b];exact ih f x.2 (acc++[x.1]) (hs.le om) om om om g3 (by rw[za1];show _+(x.1.length+0)<=_;omega) (by rw[zh,List.length_singleton];omega) (fun t ht=>by
     rcases zL.1 ht with ht|ht
     ·exact h5 t ht
     ·rw[zB.1 ht];exact g5)
theorem za2(hn:l.length<=1000000)(hq:q.l.length<=1000000)(hT:eJ l){j:Nat}(hs:Sv nb l q self iK j)(hj:j<=l.length):Rs nb l q j (Hu (l.map bE) q.l iK (l.length+1) j []) (ko self (RS nb l q j false)):=by rw[Fy];exact quw hn hq hT j (l.length-j) (l.length+1) j [] hs (Nat.le_refl _) om (Nat.le_refl _) hj (Nat.zero_le _) (Nat.zero_le _) (fun t ht=>absurd ht List.not_mem_nil)
theorem qzp(a:Nat):ko self (RS nb l q a true)=some (⟨true,[]⟩,RS nb l q a true):=by rw[Fy];exact qjl a _
theorem z3c(ts:List (Sl ND)):(ts.map (·.l)).flatten.length=lens ts:=by unfold lens;rw[List.length_flatten,zX];rfl
theorem z7z{ts:List (Sl ND)}(h:∀t,t∈ts->GL t.l):GL (ts.map (·.l)).flatten:=by intro x hx;obtain⟨s,h1,h2⟩:=List.mem_flatten.1 hx;obtain⟨t,h3,rfl⟩:=zZ.1 h1;exact h t h3 x h2
theorem qzq(x:List (List ND)):(fN x).l.map (·.l)=x:=by unfold fN;rw[zX];exact List.map_id _
theorem qjm(t u:Sl ND)(h:t.l.length+u.l.length<=2000000):pA (⟨false,[t]⟩,u,())=some (⟨false,nd 32 bF [t.l,u.l]⟩,()):=by
 rw[Zj];have s1:p7 (u,⟨false,[t]⟩,1,0,⟨true,[]⟩,())=some (.inl (u,⟨false,[t]⟩,1,1,⟨false,(32,bF,0,2)::t.l⟩,())):=by unfold p7;show aq true (ag (some t) _) _=_;rw[aP,af];show ag (fit 1) _=_;rw[fm dc,af,fm (by show(1:Int)+(t.l.length:Int)<=_;omega),af];rfl
 have s1:p7 (u,⟨false,[t]⟩,ae [t],0,⟨true,[]⟩,())=_:=s1;rw[dC s1];apply bX;unfold p7;show aq false _ (ag (fit (((t.l.length+1:Nat):Int)+(u.l.length:Int))) _)=_;rw[aH,fm om,af];show some (Sum.inr ((⟨false,(32,bF,0,2)::t.l++u.l⟩:Sl ND),()))=some (Sum.inr (⟨false,nd 32 bF [t.l,u.l]⟩,()));unfold nd;simp
theorem Uv(s:Tx)(v:Sl (Sl ND))(h1:v.l.length<=1000000)(h2:lens v.l<=1000000):fp ((32,s,0,0),v,())=some (⟨false,(32,s,0,(v.l.length:Int))::(v.l.map (·.l)).flatten⟩,()):=qh4 32 s 0 0 v.nil v.l h1 h2
theorem Nc{s:Tx}(h:(∀b,b∈s->0<=b/\b<=255)/\s.length<=1000000)(n:Int):F4 (32,s,0,n):=⟨h.1,h.2,QA⟩
theorem qo9:(∀b,b∈fC->0<=b/\b<=255)/\fC.length<=1000000:=⟨by decide,by decide⟩
theorem qhc:(∀b,b∈bF->0<=b/\b<=255)/\bF.length<=1000000:=⟨by decide,by decide⟩
theorem z80(s:Tx)(x:List (List ND)):(32,s,0,((fN x).l.length:Int))::((fN x).l.map (·.l)).flatten=nd 32 s x:=by unfold nd;rw[qzq];have:(fN x).l.length=x.length:=zA _;rw[this]
theorem QC(hn:l.length<=1000000)(hq:q.l.length<=1000000)(hT:eJ l){i:Nat}(hs:Sv nb l q self iK i)(hi:i<=l.length):Rm nb l q i (Lu (l.map bE) q.l iK i) (mq self (RS nb l q i false)):=by
 rw[Fz,aH];have e1:=qD (nb:=nb) (l:=l) (q:=q) 1 [114,101,102] i;rw[e1,af];unfold Lu;have tail:∀(o:Option ((Sl ND)×(Sl Tk)×Int×Bool×(Sl Tx)×Unit)),Rm nb l q i (z33 (l.map bE) q.l iK i) o->Rm nb l q i ((z33 (l.map bE) q.l iK i).bind fun x=>bif cV (l.map bE) x.2 6 bF then(iK (x.2+1)).map fun y=>(nd 32 bF [x.1,y.1],y.2) else some x)
   (ag o fun ku=>ag (fq (6,[45,62],ku.2.1,ku.2.2.1,ku.2.2.2.1,ku.2.2.2.2.1,())) fun nk=>aq nk.1 (ag (cj (6,[45,62],nk.2.1,nk.2.2.1,nk.2.2.2.1,nk.2.2.2.2.1,())) fun lG=>ag (self (lG.2.1,lG.2.2.1,lG.2.2.2.1,lG.2.2.2.2.1,())) fun fi=>ag (pA (⟨false,[ku.1]⟩,fi.1,())) fun kr=>some (kr.1,fi.2.1,fi.2.2.1,fi.2.2.2.1,fi.2.2.2.2.1,())) (some (ku.1,nk.2.1,nk.2.2.1,nk.2.2.2.1,nk.2.2.2.2.1,()))):=by
  intro o ho;rcases ho.cases with ⟨e,v,a,rfl,g2,g3,g4,g5⟩|⟨x,e,rfl,g2,g3,g4,g5⟩
  ·rw[e,af];have:=Qz (nb:=nb) (l:=l) (q:=q) 6 [45,62] a;rw[this,af,aH];exact Rm.bad g2 g3 g4 g5
  ·rw[e,af];have:=qD (nb:=nb) (l:=l) (q:=q) 6 [45,62] x.2;rw[this,af];show Rm nb l q i (bif cV (l.map bE) x.2 6 bF then _ else _) (aq (cV (l.map bE) x.2 6 bF) _ _);cases ha:cV (l.map bE) x.2 6 bF with
   |false=>exact Rm.fk g2 g3 g4 g5
   |true=>
    obtain⟨t,k1,k2⟩:=lT (nb:=nb) (q:=q) hn ha;have hc:=jT ha;have k2:cj (6,[45,62],RS nb l q x.2 false)=_:=k2;rw[aP,k2,af,cond_true];rcases(hs.ok (x.2+1) om om).cases with ⟨e2,v,a,h1,h2,h3,h4,h5⟩|⟨y,e2,h1,h2,h3,h4,h5⟩
    ·rw[e2,h1,af,qjm ⟨false,x.1⟩ v (by show x.1.length+v.l.length<=_;omega),af];refine Rm.bad om h3 ?_ ?_
     ·show(nd 32 bF [x.1,v.l]).length<=_;unfold nd;simp only[zf,List.flatten_cons,List.flatten_nil,zh,List.length_nil];omega
     ·refine GL.cons (Nc qhc _) ?_;show GL (x.1++(v.l++[]));exact GL.app g5 (GL.app h5 GL.nil)
    ·rw[e2,h1,af,qjm ⟨false,x.1⟩ ⟨false,y.1⟩ (by show x.1.length+y.1.length<=_;omega),af];refine Rm.fk (x:=(nd 32 bF [x.1,y.1],y.2)) (by show i<y.2;omega) h3 ?_ ?_
     ·show(nd 32 bF [x.1,y.1]).length<=y.2-i;unfold nd;simp only[zf,List.flatten_cons,List.flatten_nil,zh,List.length_nil];omega
     ·refine GL.cons (Nc qhc _) ?_;show GL (x.1++(y.1++[]));exact GL.app g5 (GL.app h5 GL.nil)
 refine tail _ ?_;unfold z33;show Rm nb l q i (bif cV (l.map bE) i 1 fC then _ else _) (aq (cV (l.map bE) i 1 fC) _ _);cases h1:cV (l.map bE) i 1 fC with
 |true=>
  obtain⟨t,k1,k2⟩:=lT (nb:=nb) (q:=q) hn h1;have hc:=jT h1;have k2:cj (1,[114,101,102],RS nb l q i false)=_:=k2;rw[aP,k2,af,cond_true];rcases(Uu hn hq hT (hs.le (Nat.le_succ i)) (show i+1<=l.length by omega)).cases with ⟨e2,v,a,h1,h2,h3,h4,h5⟩|⟨y,e2,h1,h2,h3,h4,h5⟩
  ·rw[e2,h1,af];have:=Uv fC ⟨false,[v]⟩ (by show 1<=_;omega) (by show v.l.length+0<=_;omega);have this:fp ((32,[114,101,102],0,0),⟨false,[v]⟩,())=_:=this;rw[this,af];refine Rm.bad om h3 ?_ (GL.cons (Nc qo9 _) (GL.app h5 GL.nil));show((v.l++[]).length+1)<=_;rw[zu];omega
  ·rw[e2,h1,af];have:=Uv fC ⟨false,[⟨false,y.1⟩]⟩ (by show 1<=_;omega) (by show y.1.length+0<=_;omega);have this:fp ((32,[114,101,102],0,0),⟨false,[⟨false,y.1⟩]⟩,())=_:=this;rw[this,af];refine Rm.fk (x:=(nd 32 fC [y.1],y.2)) (by show i<y.2;omega) h3 ?_ (GL.cons (Nc qo9 _) (GL.app h5 GL.nil));show((y.1++[]).length+1)<=y.2-i;rw[zu];omega
 |false=>
  rw[aH,qD,af,cond_false];cases h2:cV (l.map bE) i 2 [] with
  |true=>
   obtain⟨t,k1,k2⟩:=lT (nb:=nb) (q:=q) hn h2;have hc:=jT h2;rw[aP,k2,af,CD k1,cond_true];have hg:=(hT.at k1).1;have hd:=za2 (nb:=nb) hn hq hT (j:=i+1) (hs.le (Nat.le_succ i)) (show i+1<=l.length by omega);rw[zA];rcases hd with ⟨e2,v,a,h1,h2,h3,h4,h5,h6⟩|⟨y,e2,h1,h2,h3,h4,h5,h6⟩
   ·rw[e2,h1,af,Uv t.2.1 v om om,af];refine Rm.bad om h3 ?_ (GL.cons (Nc hg _) (z7z h6));show(v.l.map (·.l)).flatten.length+1<=_;rw[z3c];omega
   ·rw[e2,h1,af];have hl:(fN y.1).l.length=y.1.length:=zA _;rw[Uv t.2.1 (fN y.1) om (by rw[qhb];omega),af,z80];refine Rm.fk (x:=(nd 32 t.2.1 y.1,y.2)) (by show i<y.2;omega) h3 ?_ (GL.cons (Nc hg _) ?_)
    ·show y.1.flatten.length+1<=y.2-i;rw[List.length_flatten];show ll y.1+1<=_;omega
    ·intro x hx;obtain⟨s,h7,h8⟩:=List.mem_flatten.1 hx;exact h6 s h7 x h8
  |false=>
   rw[aH,cond_false];rcases(Uu hn hq hT hs hi).cases with ⟨e2,v,a,h1,h2,h3,h4,h5⟩|⟨y,e2,h1,h2,h3,h4,h5⟩
   ·rw[e2,h1];exact Rm.bad h2 h3 h4 h5
   ·rw[e2,h1];exact Rm.fk h2 h3 h4 h5
theorem ql6(a:Nat):mq self (RS nb l q a true)=some (⟨true,[]⟩,RS nb l q a true):=by rw[Fz];rfl
section
variable {f g:(Sl Tk)×Int×Bool×(Sl Tx)×Unit→Option ((Sl ND)×(Sl Tk)×Int×Bool×(Sl Tx)×Unit)} (h:∀x,lq (f x) (g x))
include h
theorem qsq(x):lq (gu f x) (gu g x):=by
 obtain⟨a0,a1,a2,a3,u⟩:=x;rw[Jc,Jc]
 repeat' (first|with_reducible apply oH|with_reducible apply oI|with_reducible exact h _|with_reducible exact lR _|intro _)
theorem z3e(x):lq (gz f x) (gz g x):=by
 unfold gz
 repeat' (first|with_reducible apply oH|with_reducible apply oI|with_reducible exact qsq h _|with_reducible exact lR _|intro _)
theorem z81(x):lq (ko f x) (ko g x):=by obtain⟨a0,a1,a2,a3,u⟩:=x;rw[Fy,Fy];exact Qo (z3e h) _
theorem z51(x):lq (mq f x) (mq g x):=by
 obtain⟨a0,a1,a2,a3,u⟩:=x;rw[Fz,Fz]
 repeat' (first|with_reducible apply oH|with_reducible apply oI|with_reducible exact h _|with_reducible exact qsq h _|with_reducible exact z81 h _|with_reducible exact lR _|intro _)
end
theorem z3f(hn:l.length<=1000000)(hq:q.l.length<=1000000)(hT:eJ l):∀(f i:Nat),l.length-i<=f->i<=l.length->Rm nb l q i (BI (l.map bE) q.l (f+1) i) (cM mq (f+2) (RS nb l q i false)):=by
 intro f
 induction f with
 |zero=>intro i h1 h2;exact QC hn hq hT ⟨fun a=>ql6 a,fun j h3 h4=>by omega⟩ h2
 |succ f ih=>intro i h1 h2;exact QC hn hq hT ⟨fun a=>ql6 a,fun j h3 h4=>ih j om h4⟩ h2
theorem Rm.up{lo:Nat}{r:Option (List ND×Nat)}{o o':Option ((Sl ND)×(Sl Tk)×Int×Bool×(Sl Tx)×Unit)}(h:Rm nb l q lo r o)(hl:lq o o'):Rm nb l q lo r o':=by obtain⟨v,a,bad,h1,h2⟩:=h;exact⟨v,a,bad,hl _ h1,h2⟩
theorem z82(hn:l.length<=1000000)(hq:q.l.length<=1000000)(hT:eJ l):∀i,Sv nb l q nU (BI (l.map bE) q.l (l.length+1)) i:=fun i=>⟨fun a=>Uk (fun _ _ h=>z51 h) (n:=1) (ql6 a),fun j _ h2=>(z3f hn hq hT l.length j om h2).up fun _ e=>Uk (fun _ _ h=>z51 h) e⟩
end
open Pz
section
variable {nb:Bool} {l:List Tk} {q:Sl Tx}
def wY(N:Nat)(c:CX):Prop:=gT c.1/\lens c.2.l<=N/\c.2.l.length<=N+2/\∀t,t∈c.2.l->GL t.l
theorem wY.nil{N:Nat}{s:Tx}(h:gT s)(b:Bool):wY N (s,⟨b,[]⟩):=⟨h,Nat.zero_le _,by show 0<=_;omega,fun t ht=>absurd ht List.not_mem_nil⟩
theorem gT.nil:gT []:=⟨fun _ hb=>absurd hb List.not_mem_nil,Nat.zero_le _⟩
theorem qux:Fh=gu nU:=rfl
theorem qzr:Fi=ko nU:=rfl
theorem qzs(x:List ND)(ts:List (List ND)):(⟨aD false (ch (fN ts).l),app [(⟨false,x⟩:Sl ND)] (fN ts).l⟩:Sl (Sl ND))=fN (x::ts):=by unfold fN;rw[kB];rfl
theorem z3g{t:Sl ND}{ts:List (Sl ND)}(h:t∈ts):t.l.length<=lens ts:=by
 unfold lens
 induction ts with
 |nil=>exact absurd h List.not_mem_nil
 |cons a ts ih=>
  rw[zI,List.sum_cons];rcases zt.1 h with rfl|h
  ·omega
  ·have:=ih h;omega
def Rc(nb:Bool)(l:List Tk)(q:Sl Tx)(lo:Nat)(r:Option (CX×Nat))(o:Option (CX×(Sl Tk)×Int×Bool×(Sl Tx)×Unit)):Prop:=
 (r=none/\∃(c:CX) (a:Nat),o=some (c,RS nb l q a true)/\lo<=a/\a<=l.length/\wY l.length c)\/
 (∃x,r=some x/\o=some (x.1,RS nb l q x.2 false)/\lo<x.2/\x.2<=l.length/\wY l.length x.1)
theorem qsr(a:Nat):jJ (RS nb l q a true)=some (([],⟨true,[]⟩),RS nb l q a true):=by rw[Pl,Gj,af,Qz,af];rfl
theorem QD(hn:l.length<=1000000)(hq:q.l.length<=1000000)(hT:eJ l){i:Nat}(hi:i<=l.length):Rc nb l q i (vZ (l.map bE) q.l i) (jJ (RS nb l q i false)):=by
 rw[Pl];unfold vZ kD;cases h1:cV (l.map bE) i 2 [] with
 |false=>rw[wb h1,af,Qz,af];exact .inl ⟨rfl,_,i,rfl,Nat.le_refl _,hi,wY.nil gT.nil _⟩
 |true=>
  obtain⟨t,k1,k2⟩:=lT (nb:=nb) (q:=q) hn h1;have hc:=jT h1;have hg:=(hT.at k1).1;rw[k2,af,cond_true,CD k1];have e1:=qD (nb:=nb) (l:=l) (q:=q) 6 [111,102] (i+1);rw[e1,af];show Rc nb l q i (bif cV (l.map bE) (i+1) 6 Uo then _ else _) (ag (aq (cV (l.map bE) (i+1) 6 Uo) _ _) _);cases h2:cV (l.map bE) (i+1) 6 Uo with
  |false=>exact .inr ⟨((t.2.1,fN []),i+1),rfl,rfl,by show i<i+1;omega,hc,wY.nil hg _⟩
  |true=>
   obtain⟨t2,k3,k4⟩:=lT (nb:=nb) (q:=q) hn h2;have hd:=jT h2;have k4:cj (6,[111,102],RS nb l q (i+1) false)=_:=k4;rw[aP,k4,af,cond_true,qux,qzr,zA];have sv:=z82 (nb:=nb) hn hq hT;rcases(Uu hn hq hT (sv (i+1+1)) (show i+1+1<=l.length by omega)).cases with ⟨e2,v,a,h1,h2,h3,h4,h5⟩|⟨y,e2,h1,h2,h3,h4,h5⟩
   ·rw[e2,h1,af,qzp,af,fm (by show(1:Int)+0<=_;omega),af,af];refine .inl ⟨rfl,_,a,rfl,by omega,h3,hg,?_,?_,?_⟩
    ·show v.l.length+0<=_;omega
    ·show 1<=_;omega
    ·intro s hs;have hs:s∈[v]++[]:=hs;rw[zu,zB] at hs;rw[hs];exact h5
   ·rw[e2,h1,af];show Rc nb l q i (Option.map _ (Hu (l.map bE) q.l _ (l.length+1) y.2 [])) _;rcases za2 (nb:=nb) hn hq hT (sv y.2) h3 with ⟨e3,w,a,g1,g2,g3,g4,g5,g6⟩|⟨z,e3,g1,g2,g3,g4,g5,g6⟩
    ·rw[e3,g1,af,fm (by show(1:Int)+(w.l.length:Int)<=_;omega),af,af];refine .inl ⟨rfl,_,a,rfl,by omega,g3,hg,?_,?_,?_⟩
     ·show y.1.length+lens w.l<=_;omega
     ·show w.l.length+1<=_;omega
     ·intro s hs;have hs:s∈(⟨false,y.1⟩:Sl ND)::w.l:=hs;rcases zt.1 hs with rfl|hs
      ·exact h5
      ·exact g6 s hs
    ·have hl:(fN z.1).l.length=z.1.length:=zA _;rw[e3,g1,af,fm (by show(1:Int)+((fN z.1).l.length:Int)<=_;omega),af,af];show Rc nb l q i (some ((t.2.1,fN (y.1::z.1)),z.2)) (some ((t.2.1,(⟨aD false (ch (fN z.1).l),app [(⟨false,y.1⟩:Sl ND)] (fN z.1).l⟩:Sl (Sl ND))),RS nb l q z.2 false));rw[qzs];refine .inr ⟨_,rfl,rfl,by show i<z.2;omega,g3,hg,?_,?_,?_⟩
     ·show lens (fN (y.1::z.1)).l<=_;rw[qhb];show y.1.length+ll z.1<=_;omega
     ·show(fN (y.1::z.1)).l.length<=_;have:(fN (y.1::z.1)).l.length=(y.1::z.1).length:=zA _;rw[this,zf];omega
     ·intro s hs;obtain⟨r,hr,rfl⟩:=zZ.1 (show s∈(y.1::z.1).map fun t=>(⟨false,t⟩:Sl ND) from hs);rcases zt.1 hr with rfl|hr
      ·exact h5
      ·exact g6 r hr
theorem Nd(a:Nat)(bad:Bool)(rt:Tx)(rp:Int)(name:Tx)(np:Int)(rc cs:Sl CX)(h:bad=true\/(bad=false/\cV (l.map bE) a 6 mE=false)):aM j5 (⟨nb,l⟩,(a:Int),bad,rt,rp,name,np,q,rc,cs,())=some (.inr ((name,np,cs),RS nb l q a bad)):=by
 apply bX;unfold j5;rcases h with rfl|⟨rfl,h⟩
 ·have e:=Qz (nb:=nb) (l:=l) (q:=q) 6 [124] a;simp only;rw[e,af];rfl
 ·have e:=qD (nb:=nb) (l:=l) (q:=q) 6 [124] a;simp only;rw[e,af];have h:cV (l.map bE) a 6 [124]=false:=h;rw[h];rfl
theorem zb4(hn:l.length<=1000000)(hq:q.l.length<=1000000)(hT:eJ l)(rt:Tx)(rp:Int)(name:Tx)(np:Int)(rc:Sl CX):∀(m f j:Nat) (cs:List CX),l.length-j<=m->l.length-j<f->j<=l.length->cs.length<=j->(∀c,c∈cs->wY l.length c)->∃(ds:List CX) (a:Nat) (bad:Bool),aM j5 (⟨nb,l⟩,(j:Int),false,rt,rp,name,np,q,rc,⟨false,cs⟩,())=some (.inr ((name,np,⟨false,ds⟩),RS nb l q a bad))/\a<=l.length/\ds.length<=l.length+1/\(∀c,c∈ds->wY l.length c)/\(match Hv (l.map bE) q.l f j cs with
    |some x=>ds=x.1/\a=x.2/\bad=false
    |none=>bad=true):=by
 intro m
 induction m with
 |zero=>
  intro f j cs hm hf hj hc ho;obtain⟨f,rfl⟩:∃g,f=g+1:=⟨f-1,by omega⟩;have he:cV (l.map bE) j 6 mE=false:=by
   cases h:cV (l.map bE) j 6 mE with
   |false=>rfl
   |true=>exact absurd (jT h) om
  refine⟨cs,j,false,Nd _ _ _ _ _ _ _ _ (.inr ⟨rfl,he⟩),hj,by omega,ho,?_⟩;unfold Hv;rw[he];exact⟨rfl,rfl,rfl⟩
 |succ m ih=>
  intro f j cs hm hf hj hc ho;obtain⟨f,rfl⟩:∃g,f=g+1:=⟨f-1,by omega⟩;unfold Hv;cases hb:cV (l.map bE) j 6 mE with
  |false=>exact⟨cs,j,false,Nd _ _ _ _ _ _ _ _ (.inr ⟨rfl,hb⟩),hj,by omega,ho,rfl,rfl,rfl⟩
  |true=>
   obtain⟨t,k1,k2⟩:=lT (nb:=nb) (q:=q) hn hb;have hk:=jT hb;have step:∀(c:CX) (a:Nat) (bad:Bool),jJ (RS nb l q (j+1) false)=some (c,RS nb l q a bad)->
     j5 (⟨nb,l⟩,(j:Int),false,rt,rp,name,np,q,rc,⟨false,cs⟩,())=some (.inl (⟨nb,l⟩,(a:Int),bad,rt,rp,name,np,q,rc,⟨false,cs++[c]⟩,())):=by
    intro c a bad hg;unfold j5;simp only;have e:=qD (nb:=nb) (l:=l) (q:=q) 6 [124] j;have k2:cj (6,[124],RS nb l q j false)=_:=k2;have hb:cV (l.map bE) j 6 [124]=true:=hb;rw[e,af,hb,aP,k2,af,hg,af,fm (by show(cs.length:Int)+1<=_;omega),af,kB];rfl
   rw[cond_true];rcases QD hn hq hT (show j+1<=l.length by omega) with ⟨e2,c,a,h1,h2,h3,h4⟩|⟨y,e2,h1,h2,h3,h4⟩
   ·rw[e2];refine⟨cs++[c],a,true,by rw[dC (step _ _ _ h1)];exact Nd _ _ _ _ _ _ _ _ (.inl rfl),h3,by rw[zh,List.length_singleton];omega,?_,rfl⟩;intro d hd;rcases zL.1 hd with hd|hd
    ·exact ho d hd
    ·rw[zB.1 hd];exact h4
   ·rw[e2,dC (step _ _ _ h1)];exact ih f y.2 (cs++[y.1]) om om h3 (by rw[zh,List.length_singleton];omega) (fun d hd=>by
     rcases zL.1 hd with hd|hd
     ·exact ho d hd
     ·rw[zB.1 hd];exact h4)
end
open Pz
section
variable {nb:Bool} {l:List Tk}
def okD(N:Nat)(d:DX):Prop:=gT d.1/\d.2.2.l.length<=N+1/\∀c,c∈d.2.2.l->wY N c
theorem qzt(_:Bool)(P:List Tx)(s:Tx)(h:P.length<=999990):iW (⟨aD false (ch P),app [gV,qV,fC] P⟩,s,())=some (decide (s∈[gV,qV,fC]++P),()):=by rw[kB];have e:(⟨aD false (ch P),[gV,qV,fC]++P⟩:Sl Tx)=⟨false,[gV,qV,fC]++P⟩:=rfl;rw[e];exact q8j false _ s (by rw[zh];show 3+P.length<=_;omega)
def Uw(l:List BG)(name:Tx)(p:List Tx×Nat):Option (DX×Nat):=(kD l p.2 6 Bw).bind fun i2=>(vZ l p.1 i2).bind fun c=>(Hv l p.1 (l.length+1) c.2 [c.1]).map fun cs=>((name,(p.1.length:Int),⟨false,cs.1⟩),cs.2)
def RD(nb:Bool)(l:List Tk)(r:Option (DX×Nat))(o:Option (DX×(Sl Tk)×Int×Bool×(Sl Tx)×Unit)):Prop:=
 ∃(d:DX) (a:Nat) (bad:Bool) (q:Sl Tx),o=some (d,RS nb l q a bad)/\a<=l.length/\okD l.length d/\(match r with
  |some x=>d=x.1/\a=x.2/\bad=false
  |none=>bad=true)
theorem qhd(a:Nat)(ha:a<=l.length)(rt:Tx)(rp:Int)(name:Tx)(hd:gT name)(np:Int)(P:Sl Tx)(rc c0:Sl CX):RD nb l none (aM gB (⟨nb,l⟩,(a:Int),true,rt,rp,name,np,P,rc,c0,())):=by
 have e:gB (⟨nb,l⟩,(a:Int),true,rt,rp,name,np,P,rc,c0,())=some (.inr ((name,ae P.l,⟨false,[([],⟨true,[]⟩)]⟩),RS nb l P a true)):=by unfold gB;simp only;rw[Qz,af,aH];have e:=Gj (nb:=nb) (l:=l) (q:=P) 6 [61] a;rw[e,af,qsr,af,Nd _ _ _ _ _ _ _ _ (.inl rfl)]
 rw[bX e];refine⟨_,a,true,P,rfl,ha,⟨hd,by show 1<=_;omega,fun c hc=>?_⟩,rfl⟩;rw[zB.1 hc];exact wY.nil gT.nil _
theorem za3(hn:l.length<=900000)(hT:eJ l)(j:Nat)(hj:j<=l.length)(rt:Tx)(rp:Int)(name:Tx)(hd:gT name)(P:Sl Tx)(hP:P.l.length<=900000)(rc:Sl CX)(c0:Sl CX)(np:Int)(he:cV (l.map bE) j 1 []=false):RD nb l (Uw (l.map bE) name (P.l,j)) (aM gB (⟨nb,l⟩,(j:Int),false,rt,rp,name,np,P,rc,c0,())):=by
 have st:∀z,ag (cj (6,[61],RS nb l P j false)) (fun x9=>ag (jJ (x9.2.1,x9.2.2.1,x9.2.2.2.1,x9.2.2.2.2.1,())) (fun ku=>aM j5 (ku.2.1,ku.2.2.1,ku.2.2.2.1,rt,rp,name,ae P.l,ku.2.2.2.2.1,rc,⟨false,[ku.1]⟩,())))=some z->
   gB (⟨nb,l⟩,(j:Int),false,rt,rp,name,np,P,rc,c0,())=some z:=by
  intro z hz;unfold gB;simp only;rw[qD,af,he];exact hz
 have hN:l.length<=1000000:=om
 have fin:∀(d:DX) (a:Nat) (bad:Bool),ag (cj (6,[61],RS nb l P j false)) (fun x9=>ag (jJ (x9.2.1,x9.2.2.1,x9.2.2.2.1,x9.2.2.2.2.1,())) (fun ku=>aM j5 (ku.2.1,ku.2.2.1,ku.2.2.2.1,rt,rp,name,ae P.l,ku.2.2.2.2.1,rc,⟨false,[ku.1]⟩,())))=some (.inr (d,RS nb l P a bad))->
   aM gB (⟨nb,l⟩,(j:Int),false,rt,rp,name,np,P,rc,c0,())=some (d,RS nb l P a bad):=fun d a bad h=>bX (st _ h)
 unfold Uw kD;have one:∀{c:CX},wY l.length c->okD l.length (name,ae P.l,⟨false,[c]⟩):=fun h=>⟨hd,by show 1<=_;omega,fun c hc=>by rw[zB.1 hc];exact h⟩;cases h1:cV (l.map bE) j 6 Bw with
 |false=>have e1:=wb (nb:=nb) (q:=P) h1;have e1:cj (6,[61],RS nb l P j false)=_:=e1;refine⟨_,j,true,P,fin _ j true ?_,hj,one (wY.nil gT.nil true),rfl⟩;rw[e1,af,qsr,af,Nd _ _ _ _ _ _ _ _ (.inl rfl)]
 |true=>
  obtain⟨t,k1,k2⟩:=lT (nb:=nb) (q:=P) hN h1;have hf:=jT h1;have k2:cj (6,[61],RS nb l P j false)=_:=k2;show RD nb l (Option.bind (vZ (l.map bE) P.l (j+1)) _) _;rcases QD (nb:=nb) (q:=P) hN om hT (show j+1<=l.length by omega) with ⟨e2,c,a,h1,h2,h3,h4⟩|⟨y,e2,h1,h2,h3,h4⟩
  ·rw[e2];refine⟨_,a,true,P,fin _ a true ?_,h3,one h4,rfl⟩;rw[k2,af,h1,af,Nd _ _ _ _ _ _ _ _ (.inl rfl)]
  ·rw[e2];show RD nb l (Option.map _ (Hv (l.map bE) P.l ((l.map bE).length+1) y.2 [y.1])) _;rw[zA];obtain⟨ds,a,bad,g1,g2,g3,g4,g5⟩:=zb4 (nb:=nb) (q:=P) hN om hT rt rp name (ae P.l) rc l.length (l.length+1) y.2 [y.1] om om h3 (by show 1<=y.2;omega) (fun c hc=>by rw[zB.1 hc];exact h4);refine⟨_,a,bad,P,fin _ a bad (by rw[k2,af,h1,af,g1]),g2,⟨hd,g3,g4⟩,?_⟩;cases hc:Hv (l.map bE) P.l (l.length+1) y.2 [y.1] with
   |none=>rw[hc] at g5;exact g5
   |some x=>rw[hc] at g5;obtain⟨rfl,rfl,rfl⟩:=g5;exact⟨rfl,rfl,rfl⟩
theorem zb5(hn:l.length<=900000)(hT:eJ l)(rt:Tx)(rp:Int)(name:Tx)(he:gT name)(rc c0:Sl CX)(np:Int):∀(m f j:Nat) (P:Sl Tx),l.length-j<=m->l.length-j<f->j<=l.length->P.l.length<=j->RD nb l ((wW (l.map bE) f j P.l).bind (Uw (l.map bE) name)) (aM gB (⟨nb,l⟩,(j:Int),false,rt,rp,name,np,P,rc,c0,())):=by
 intro m
 induction m with
 |zero=>
  intro f j P hm hf hj hP;obtain⟨f,rfl⟩:∃g,f=g+1:=⟨f-1,by omega⟩;have hg:cV (l.map bE) j 1 []=false:=by
   cases h:cV (l.map bE) j 1 [] with
   |false=>rfl
   |true=>exact absurd (jT h) om
  have e:wW (l.map bE) (f+1) j P.l=some (P.l,j):=by unfold wW;rw[hg];rfl
  rw[e];exact za3 hn hT j hj rt rp name he P om rc c0 np hg
 |succ m ih=>
  intro f j P hm hf hj hP;obtain⟨f,rfl⟩:∃g,f=g+1:=⟨f-1,by omega⟩;cases h1:cV (l.map bE) j 1 [] with
  |false=>
   have e:wW (l.map bE) (f+1) j P.l=some (P.l,j):=by unfold wW;rw[h1];rfl
   rw[e];exact za3 hn hT j hj rt rp name he P om rc c0 np h1
  |true=>
   obtain⟨t,k1,k2⟩:=lT (nb:=nb) (q:=P) om h1;have hk:=jT h1;have e:wW (l.map bE) (f+1) j P.l=bif decide (t.2.1∈[gV,qV,fC]++P.l) then none else wW (l.map bE) f (j+1) (P.l++[t.2.1]):=by
    have:wW (l.map bE) (f+1) j P.l=bif cV (l.map bE) j 1 [] then(bif decide (tx (l.map bE) j∈[gV,qV,fC]++P.l) then none else wW (l.map bE) f (j+1) (P.l++[tx (l.map bE) j])) else some (P.l,j):=rfl
    rw[this,h1,CD k1];rfl
   have step:gB (⟨nb,l⟩,(j:Int),false,rt,rp,name,np,P,rc,c0,())=some (.inl (⟨nb,l⟩,((j+1:Nat):Int),decide (t.2.1∈[gV,qV,fC]++P.l),rt,rp,name,np,⟨aD P.nil (ch [t.2.1]),P.l++[t.2.1]⟩,rc,c0,())):=by
    unfold gB;simp only;rw[qD,af,h1,aP,k2,af,fm (by show(3:Int)+(P.l.length:Int)<=_;omega),af];have hc:=qzt true P.l t.2.1 om;have hc:iW (⟨aD false (ch P.l),app [[105,110,116],[116,101,120,116],[114,101,102]] P.l⟩,t.2.1,())=_:=hc;rw[hc,af];cases decide (t.2.1∈[gV,qV,fC]++P.l) with
    |true=>rw[aP,af];show ag (fit ((P.l.length:Int)+1)) _=_;rw[fm om,af,kB]
    |false=>rw[aH,af];show ag (fit ((P.l.length:Int)+1)) _=_;rw[fm om,af,kB]
   rw[e,dC step];cases hd:decide (t.2.1∈[gV,qV,fC]++P.l) with
   |true=>exact qhd (j+1) om rt rp name he np _ rc c0
   |false=>rw[cond_false];exact ih f (j+1) ⟨aD P.nil (ch [t.2.1]),P.l++[t.2.1]⟩ om om om (by show(P.l++[t.2.1]).length<=_;rw[zh,List.length_singleton];omega)
theorem zb6(hn:l.length<=900000)(hT:eJ l):RD nb l (Uq (l.map bE)) (sN (RS nb l ⟨true,[]⟩ 0 false)):=by
 rw[Zk];have hN:l.length<=1000000:=om
 have eD:Uq (l.map bE)=(kD (l.map bE) 0 6 BH).bind fun i=>(kD (l.map bE) i 2 []).bind fun j=>(wW (l.map bE) ((l.map bE).length+1) j []).bind (Uw (l.map bE) (tx (l.map bE) i)):=rfl;rw[eD,zA];have h0:(⟨nb,l⟩,((0:Nat):Int),false,(⟨true,[]⟩:Sl Tx),())=RS nb l ⟨true,[]⟩ 0 false:=rfl;unfold kD;cases h1:cV (l.map bE) 0 6 BH with
 |false=>have e1:=wb (nb:=nb) (q:=⟨true,[]⟩) h1;have e1:cj (6,[116,121,112,101],⟨nb,l⟩,((0:Nat):Int),false,⟨true,[]⟩,())=_:=e1;rw[e1,af,Gj,af];exact qhd 0 (Nat.zero_le _) [] 0 [] gT.nil 0 _ _ _
 |true=>
  obtain⟨t,k1,k2⟩:=lT (nb:=nb) (q:=⟨true,[]⟩) hN h1;have hd:=jT h1;have k2:cj (6,[116,121,112,101],⟨nb,l⟩,((0:Nat):Int),false,⟨true,[]⟩,())=_:=k2;rw[k2,af,cond_true];show RD nb l ((bif cV (l.map bE) 1 2 [] then some (1+1) else none).bind _) _;cases h2:cV (l.map bE) 1 2 [] with
  |false=>rw[wb (nb:=nb) (q:=⟨true,[]⟩) h2,af];exact qhd 1 om [] 0 [] gT.nil 0 _ _ _
  |true=>obtain⟨t2,k3,k4⟩:=lT (nb:=nb) (q:=⟨true,[]⟩) hN h2;have hc:=jT h2;rw[k4,af,cond_true,CD k3];exact zb5 hn hT [] 0 t2.2.1 (hT.at k3).1 _ _ 0 l.length (l.length+1) 2 ⟨true,[]⟩ om om om (Nat.zero_le _)
variable {q:Sl Tx}
theorem zb7(hn:l.length<=900000)(hT:eJ l){i:Nat}(hi:i<=l.length):∃(s:Tx) (a:Nat) (bad:Bool),nV (RS nb l q i false)=some (s,RS nb l q a bad)/\a<=l.length/\gT s/\(match Qy (l.map bE) i with
  |some x=>s=x.1/\a=x.2/\bad=false
  |none=>bad=true):=by
 have hN:l.length<=1000000:=om
 rw[Zl];have e1:=qD (nb:=nb) (l:=l) (q:=q) 6 [40] i;rw[e1,af];unfold Qy kD;show ∃s a bad,aq (ai (cV (l.map bE) i 6 kL)) _ _=_/\_;cases h1:cV (l.map bE) i 6 kL with
 |false=>
  rw[cond_false];simp only[ai,Bool.not_false,aP];cases h2:cV (l.map bE) i 1 [] with
  |false=>rw[wb h2,af];exact⟨_,i,true,rfl,hi,gT.nil,rfl⟩
  |true=>obtain⟨t,k1,k2⟩:=lT (nb:=nb) (q:=q) hN h2;have hc:=jT h2;rw[k2,af,CD k1];exact⟨_,i+1,false,rfl,by omega,(hT.at k1).1,rfl,rfl,rfl⟩
 |true=>
  obtain⟨t,k1,k2⟩:=lT (nb:=nb) (q:=q) hN h1;have hc:=jT h1;have k2:cj (6,[40],RS nb l q i false)=_:=k2;rw[cond_true];simp only[ai,Bool.not_true,aH];rw[k2,af];have b3:∀a,cj (6,[41],RS nb l q a true)=_:=fun a=>Gj 6 [41] a;cases h2:cV (l.map bE) (i+1) 5 [] with
  |false=>rw[wb h2,af,b3,af];exact⟨_,i+1,true,rfl,by omega,gT.nil,rfl⟩
  |true=>
   obtain⟨t2,k3,k4⟩:=lT (nb:=nb) (q:=q) hN h2;have hd:=jT h2;rw[k4,af,CD k3];show ∃s a bad,_/\_/\_/\(match Option.map (fun k=>(t2.2.1,k)) (bif cV (l.map bE) (i+1+1) 6 kR then some (i+1+1+1) else none) with|some x=>_|none=>_);cases h3:cV (l.map bE) (i+1+1) 6 kR with
   |false=>have e3:=wb (nb:=nb) (q:=q) h3;have e3:cj (6,[41],RS nb l q (i+1+1) false)=_:=e3;rw[e3,af];exact⟨_,i+1+1,true,rfl,by omega,(hT.at k3).1,rfl⟩
   |true=>obtain⟨t3,k5,k6⟩:=lT (nb:=nb) (q:=q) hN h3;have he:=jT h3;have k6:cj (6,[41],RS nb l q (i+1+1) false)=_:=k6;rw[k6,af];exact⟨_,i+1+1+1,false,rfl,by omega,(hT.at k3).1,rfl,rfl,rfl⟩
end
open Pz
noncomputable def qE(fx:List ay)(d:List Tk)(e:Int):PR (List ND):=match lE (ot fx d e) with
 |.error q=>.error q
 |.ok t=>if lH t≠0 then .error (0,74) else .ok t
def nm(s:Tx):Bool:=lx s&&decide (s.length<=60)
def zb8:List ND->Int
 |[]=>0
 |a::_=>a.1
noncomputable def gW(x:LX):Bool:=bK x.1&&(decide (lH x.2.2=0)&&(!x.2.1||decide (zb8 x.2.2=5)))
noncomputable def qF:MC:=⟨jS,eH,dz,qE,nm,gW⟩
theorem Ux(s:Tx)(hs:gT s):kP (s,())=some (nm s,()):=by rw[XG,qry hs.1,af];have e:bJ (ae s) 60=decide (s.length<=60):=decide_eq_decide.2 (by unfold ae;omega);rw[e];unfold nm;cases lx s<;>rfl
theorem z3i:lH []=60:=by unfold lH;rw[qj9 true [] dc (by rfl)]
theorem z52(s:Tx)(rc b:Bool)(t:List ND)(hs:gT s)(hl:t.length<=4000)(hg:GL t):kS ((s,rc,⟨b,t⟩),())=some (gW (s,rc,t),()):=by
 rw[X0,qnc hs.1,af];unfold gW;cases bK s with
 |false=>rfl
 |true=>
  rw[aP,z4v hl hg,af,af,wa];simp only;by_cases h:lH t=0
  ·rw[zo h,aP];cases rc with
   |false=>rfl
   |true=>
    cases t with
    |nil=>rw[z3i] at h;cases h
    |cons a t=>have e0:bA (a::t) 0=some a:=rfl;simp only[ai,Bool.not_true,aH];rw[e0,af,af,wa];rfl
  ·rw[zn h];rfl
abbrev LY:=Tx×Bool×Sl ND
def er(x:LY):LX:=(x.1,x.2.1,x.2.2.l)
structure MV (K:Sl ay) (O:Sl Tx) (X:Sl ay) (D:Sl DX) (L:Sl LY) (m:MX) (fx:List ay):Prop where
 k:K.l=fx
 kn:K.nil=true->fx=[]
 o:O.l=m.opens
 x:X.l=m.bc
 d:D.l=m.aZ
 l:L.l.map er=m.lets
structure Inv (n:Nat) (m:MX) (fx:List ay):Prop where
 go:m.opens.length<=n
 gx:m.bc.length<=n
 gd:m.aZ.length<=n
 gl:m.lets.length<=n
 fg:gL fx
 fz:eH fx=0
 xg:gL m.bc
 dg:∀d,d∈m.aZ->gD d
 og:∀s,s∈m.opens->gT s
 lg:∀x,x∈m.lets->gT x.1/\GL x.2.2/\x.2.2.length<=4000
abbrev OT:=Int×Int×Tx×Sl ay×Sl Tx×Sl ay×Sl DX×Sl LY×Unit
def bZ(name:Tx)(n:Nat)(r:PR (MX×List ay))(o:Option OT):Prop:=∃(a e:Int) (K:Sl ay) (O:Sl Tx) (X:Sl ay) (D:Sl DX) (L:Sl LY),o=some (a,e,name,K,O,X,D,L,())/\(match r with
 |.ok x=>a=0/\e=0/\MV K O X D L x.1 x.2/\Inv (n+1) x.1 x.2
 |.error q=>a=q.1/\e=q.2/\e≠0)
theorem bZ.err{name:Tx}{n:Nat}{a e:Int}{K:Sl ay}{O:Sl Tx}{X:Sl ay}{D:Sl DX}{L:Sl LY}(h:e≠0):bZ name n (.error (a,e)) (some (a,e,name,K,O,X,D,L,())):=⟨a,e,K,O,X,D,L,rfl,rfl,rfl,h⟩
theorem bZ.fk{name:Tx}{n:Nat}{x:MX×List ay}{K:Sl ay}{O:Sl Tx}{X:Sl ay}{D:Sl DX}{L:Sl LY}(h:MV K O X D L x.1 x.2)(i:Inv (n+1) x.1 x.2):bZ name n (.ok x) (some (0,0,name,K,O,X,D,L,())):=⟨0,0,K,O,X,D,L,rfl,rfl,rfl,h,i⟩
def s8(E:Int)(d:List Tk):Prop:=∀t,t∈d->(gT t.2.1/\lA t.2.2.1)/\0<=t.2.2.2/\t.2.2.2<=E
theorem s8.tok{E:Int}{d:List Tk}(h:s8 E d):eJ d:=fun t ht=>(h t ht).1
theorem QE(w nb:Bool)(t:Tk)(r:List Tk)(q:Sl Tx)(a:Nat)(bad:Bool):iu (w,⟨nb,t::r⟩,RS nb (t::r) q a bad)=some (bif bad||(decide (a<(t::r).length)||w) then t.2.2.2 else 0,bif bad||(decide (a<(t::r).length)||w) then 240 else 0,⟨nb,t::r⟩,RS nb (t::r) q a bad):=by
 rw[Zf];have e:bA (⟨nb,t::r⟩:Sl Tk).l 0=some t:=rfl;have e2:aE (a:Int) (ae (⟨nb,t::r⟩:Sl Tk).l)=decide (a<(t::r).length):=decide_eq_decide.2 (by unfold ae;simp only;omega);rw[e2,e];cases bad with
 |true=>rfl
 |false=>
  cases decide (a<(t::r).length) with
  |true=>rfl
  |false=>cases w<;>rfl
theorem qq7{j n:Nat}(h:j<=n):decide (j<n)=!decide (j=n):=by
 by_cases e:j=n
 ·rw[zo e,zn om];rfl
 ·rw[zn e,zo om];rfl
section
variable {nb:Bool} {name:Tx} {K:Sl ay} {O:Sl Tx} {X:Sl ay} {D:Sl DX} {L:Sl LY} {m:MX} {fx:List ay} {n:Nat} {t:Tk} {r:List Tk} {E:Int}
abbrev q0:Sl Tx:=⟨true,[]⟩
theorem MV.aae(h:MV K O X D L m fx):L.l.length=m.lets.length:=by rw[<-h.l,zA]
theorem Nf{α:Type}{P:α->Prop}{l:List α}{a:α}(h:∀x,x∈l->P x)(ha:P a):∀x,x∈l++[a]->P x:=fun x hx=>(zL.1 hx).elim (h x) fun e=>by rw[zB.1 e];exact ha
theorem za4(hd:(t::r).length<=900)(hT:s8 E (t::r))(V:MV K O X D L m fx)(I:Inv n m fx)(hn:n<=900):bZ name n (Hz qF m fx ((t::r).map bE) t.2.2.2) (ag (cj (2,[],RS nb (t::r) q0 1 false)) fun x3=>ag (fit (aW (ae O.l) (ae [x3.1.2.1]))) fun _=>ag (kP (x3.1.2.1,())) fun x5=>ag (iu (ai x5.1,⟨nb,t::r⟩,x3.2.1,x3.2.2.1,x3.2.2.2.1,x3.2.2.2.2.1,())) fun x6=>some (x6.1,x6.2.1,name,K,⟨aD O.nil (ch [x3.1.2.1]),app O.l [x3.1.2.1]⟩,X,D,L,())):=by
 have ho:=I.go;rw[<-V.o] at ho;unfold Hz kD;cases h1:cV ((t::r).map bE) 1 2 [] with
 |false=>rw[wb h1,af,fm (by show(O.l.length:Int)+1<=_;omega),af,Ux _ gT.nil,af];have e:=QE (ai (nm [])) nb t r q0 1 true;rw[e,af];exact bZ.err dc
 |true=>
  obtain⟨s,k1,k2⟩:=lT (nb:=nb) (q:=q0) (show(t::r).length<=1000000 by omega) h1;have hc:=jT h1;have hg:=(hT.tok.at k1).1;rw[k2,af,fm (by show(O.l.length:Int)+1<=_;omega),af,Ux _ hg,af];have e:=QE (ai (nm s.2.1)) nb t r q0 2 false;have e':iu (ai (nm s.2.1),⟨nb,t::r⟩,RS nb (t::r) q0 (1+1) false)=_:=e;rw[e',af,qq7 (show 2<=(t::r).length by omega)];show bZ name n (eb (Hy t.2.2.2 (some 2)) fun j=>qA t.2.2.2 (decide (j=((t::r).map bE).length)&&nm (tx ((t::r).map bE) 1)) _) _;rw[CD k1];show bZ name n (qA t.2.2.2 (decide (2=((t::r).map bE).length)&&nm s.2.1) _) _;rw[zA];cases decide (2=(t::r).length) with
  |false=>exact bZ.err dc
  |true=>
   cases nm s.2.1 with
   |false=>exact bZ.err dc
   |true=>
    refine bZ.fk (x:=(⟨m.opens++[s.2.1],m.bc,m.aZ,m.lets⟩,fx)) ⟨V.k,V.kn,?_,V.x,V.d,V.l⟩ ⟨?_,Nat.le_succ_of_le I.gx,Nat.le_succ_of_le I.gd,Nat.le_succ_of_le I.gl,I.fg,I.fz,I.xg,I.dg,Nf I.og hg,I.lg⟩
    ·show app O.l [s.2.1]=m.opens++[s.2.1];rw[kB,V.o]
    ·show(m.opens++[s.2.1]).length<=_;have:=I.go;rw[zh,List.length_singleton];omega
theorem za5{d:DX}{N:Nat}(h:okD N d)(hN:N<=900):gD d:=by refine⟨h.1,by have:=h.2.1;omega,fun c hc=>?_⟩;obtain⟨h1,h2,h3,h4⟩:=h.2.2 c hc;exact⟨h1,by omega,fun s hs=>⟨h4 s hs,by have:=z3g hs;omega⟩⟩
theorem za6(hd:(t::r).length<=900)(hT:s8 E (t::r))(V:MV K O X D L m fx)(I:Inv n m fx)(hn:n<=900):bZ name n (HA qF m fx ((t::r).map bE) t.2.2.2) (ag (sN (RS nb (t::r) q0 0 false)) fun x7=>ag (fit (aW (ae D.l) (ae [x7.1]))) fun _=>ag (kT (⟨aD D.nil (ch [x7.1]),app D.l [x7.1]⟩,())) fun x9=>ag (aq (ai (ak x9.1 0)) (some (ai (ak x9.1 102))) (some false)) fun ku=>ag (iu (ku,⟨nb,t::r⟩,x7.2.1,x7.2.2.1,x7.2.2.2.1,x7.2.2.2.2.1,())) fun nk=>some (nk.1,nk.2.1,name,K,O,X,⟨aD D.nil (ch [x7.1]),app D.l [x7.1]⟩,L,())):=by
 have ho:=I.gd;obtain⟨d,a,bad,q,h1,h2,h3,h4⟩:=zb6 (nb:=nb) (show(t::r).length<=900000 by omega) hT.tok;have gd:=za5 h3 hd;have hG:GD (m.aZ++[d]):=⟨by rw[zh,List.length_singleton];omega,Nf I.dg gd⟩;have hc:kT (⟨aD D.nil (ch [d]),app D.l [d]⟩,())=some (jS (m.aZ++[d]),()):=by rw[kB,V.d];exact qh6 _ hG
 have hl:D.l.length<=n:=by rw[V.d];exact ho
 rw[h1,af,fm (by show(D.l.length:Int)+1<=_;omega),af,hc,af];have hw:(aq (ai (ak (jS (m.aZ++[d])) 0)) (some (ai (ak (jS (m.aZ++[d])) 102))) (some false):Option Bool)=some (!(decide (jS (m.aZ++[d])=0)||decide (jS (m.aZ++[d])=102))):=by rw[wa,wa];cases decide (jS (m.aZ++[d])=0)<;>cases decide (jS (m.aZ++[d])=102)<;>rfl
 have he:ag (aq (ai (ak (jS (m.aZ++[d]),()).1 0)) (some (ai (ak (jS (m.aZ++[d]),()).1 102))) (some false))=fun g:Bool->Option OT=>g (!(decide (jS (m.aZ++[d])=0)||decide (jS (m.aZ++[d])=102))):=by funext g;rw[hw];rfl
 rw[he];have e:=QE (!(decide (jS (m.aZ++[d])=0)||decide (jS (m.aZ++[d])=102))) nb t r q a bad;simp only;rw[e,af];unfold HA;cases hx:Uq ((t::r).map bE) with
 |none=>rw[hx] at h4;rw[h4];exact bZ.err dc
 |some x=>
  rw[hx] at h4;obtain⟨rfl,rfl,rfl⟩:=h4;rw[qq7 h2];show bZ name n (qA t.2.2.2 (decide (x.2=((t::r).map bE).length)&&(decide (jS (m.aZ++[x.1])=0)||decide (jS (m.aZ++[x.1])=102))) _) _;rw[zA];cases decide (x.2=(t::r).length) with
  |false=>exact bZ.err dc
  |true=>
   cases hq:(decide (jS (m.aZ++[x.1])=0)||decide (jS (m.aZ++[x.1])=102)) with
   |false=>exact bZ.err dc
   |true=>
    refine bZ.fk (x:=(⟨m.opens,m.bc,m.aZ++[x.1],m.lets⟩,fx)) ⟨V.k,V.kn,V.o,V.x,?_,V.l⟩ ⟨Nat.le_succ_of_le I.go,Nat.le_succ_of_le I.gx,?_,Nat.le_succ_of_le I.gl,I.fg,I.fz,I.xg,Nf I.dg gd,I.og,I.lg⟩
    ·show app D.l [x.1]=m.aZ++[x.1];rw[kB,V.d]
    ·show(m.aZ++[x.1]).length<=_;rw[zh,List.length_singleton];omega
end
open Pz
section
variable {nb:Bool} {name:Tx} {K:Sl ay} {O:Sl Tx} {X:Sl ay} {D:Sl DX} {L:Sl LY} {m:MX} {fx:List ay} {n:Nat} {t:Tk} {r:List Tk} {E:Int}
theorem z3j(s:Tx):-9223372036854775808<=CC s/\CC s<=9223372036854775807:=by
 unfold CC;cases decide (s=v7) with
 |true=>rw[cond_true];omega
 |false=>cases decide (s=v8)<;>simp
theorem Uy{s:Tx}(h:gT s){a b:Int}(ha:-9223372036854775808<=a/\a<=9223372036854775807)(hb:-9223372036854775808<=b/\b<=9223372036854775807):gF (s,a,b):=⟨h.1,by have:=h.2;show s.length<=_;omega,ha,hb⟩
def RF(nb:Bool)(l:List Tk)(r:Option (ay×Nat))(o:Option (ay×(Sl Tk)×Int×Bool×(Sl Tx)×Unit)):Prop:=
 ∃(f:ay) (a:Nat) (bad:Bool),o=some (f,RS nb l q0 a bad)/\a<=l.length/\gF f/\f.1.length<=1000000/\(match r with
  |some x=>f=x.1/\a=x.2/\bad=false
  |none=>bad=true)
theorem aaf(hd:(t::r).length<=900000)(hT:eJ (t::r)):RF nb (t::r) (BJ ((t::r).map bE)) (pz (RS nb (t::r) q0 0 false)):=by
 have hN:(t::r).length<=1000000:=om
 have h0:bA (⟨nb,t::r⟩:Sl Tk).l 0=some t:=rfl;have et:tx ((t::r).map bE) 0=t.2.1:=rfl;have e1:bx t.2.1 [105,110,102,105,120,108]=decide (t.2.1=v7):=uk _ v7;have e2:bx t.2.1 [105,110,102,105,120,114]=decide (t.2.1=v8):=uk _ v8;rw[Zg,h0,af,e1,e2]
 suffices rest:∀sd:Int,CC t.2.1=sd->RF nb (t::r) (BJ ((t::r).map bE)) (ag (cj (3,[],⟨nb,t::r⟩,aA .i64 ((0:Nat):Int) 1,false,q0,())) (fun x3=>ag (aq (aE x3.1.2.2.1 0) (some true) (some (aE 9 x3.1.2.2.1))) (fun x4=>ag (aq x4 (some (sd,(0:Int),x3.2.1,x3.2.2.1,true,x3.2.2.2.2.1,([]:Tx),(0:Int),(0:Int),())) (some (sd,x3.1.2.2.1,x3.2.1,x3.2.2.1,x3.2.2.2.1,x3.2.2.2.2.1,([]:Tx),(0:Int),(0:Int),()))) (fun x5=>ag (cj (5,[],x5.2.2.1,x5.2.2.2.1,x5.2.2.2.2.1,x5.2.2.2.2.2.1,())) (fun x6=>some ((x6.1.2.1,x5.2.1,x5.1),x6.2.1,x6.2.2.1,x6.2.2.2.1,x6.2.2.2.2.1,())))))) by
  cases h1:decide (t.2.1=v7) with
  |true=>rw[aP,af];exact rest (-1) (by unfold CC;rw[h1];rfl)
  |false=>
   cases h2:decide (t.2.1=v8) with
   |true=>rw[aH,aP,af,af];exact rest 1 (by unfold CC;rw[h1,h2];rfl)
   |false=>rw[aH,aH,af,af];exact rest 0 (by unfold CC;rw[h1,h2];rfl)
 intro sd hc;have one:aA .i64 ((0:Nat):Int) 1=((1:Nat):Int):=aO om;rw[one];unfold BJ kD;have sr:=z3j t.2.1;rw[hc] at sr;cases h1:cV ((t::r).map bE) 1 3 [] with
 |false=>rw[wb h1,af];have z:(aq (aE 0 0) (some true) (some (aE 9 0)):Option Bool)=some false:=rfl;simp only;rw[z,af,aH,af,Gj,af];exact⟨_,1,true,rfl,by simp,Uy gT.nil (by show -9223372036854775808<=(0:Int)/\(0:Int)<=_;omega) sr,Nat.zero_le _,rfl⟩
 |true=>
  obtain⟨s,k1,k2⟩:=lT (nb:=nb) (q:=q0) hN h1;have hf:=jT h1;rw[k2,af,za0 k1,cond_true];have hz:(aq (aE s.2.2.1 0) (some true) (some (aE 9 s.2.2.1)):Option Bool)=some (!decide (0<=s.2.2.1/\s.2.2.1<=9)):=by
   unfold aE;by_cases h:s.2.2.1<0
   ·have e:decide (0<=s.2.2.1/\s.2.2.1<=9)=false:=zn om;rw[zo h,e];rfl
   ·rw[zn h,aH];by_cases h2:9<s.2.2.1
    ·have e:decide (0<=s.2.2.1/\s.2.2.1<=9)=false:=zn om;rw[zo h2,e];rfl
    ·have e:decide (0<=s.2.2.1/\s.2.2.1<=9)=true:=zo om;rw[zn h2,e];rfl
  simp only;rw[hz,af];by_cases hr:0<=s.2.2.1/\s.2.2.1<=9
  ·rw[zo hr];simp only[Bool.not_true,aH];rw[af];show RF nb (t::r) (Option.map (fun j=>((tx ((t::r).map bE) 2,s.2.2.1,CC (tx ((t::r).map bE) 0)),j)) (bif cV ((t::r).map bE) (1+1) 5 [] then some (1+1+1) else none)) (ag (cj (5,[],RS nb (t::r) q0 (1+1) false)) _);have lv:-9223372036854775808<=s.2.2.1/\s.2.2.1<=9223372036854775807:=om
   cases h2:cV ((t::r).map bE) (1+1) 5 [] with
   |false=>rw[wb h2,af];exact⟨_,1+1,true,rfl,by omega,Uy gT.nil lv sr,Nat.zero_le _,rfl⟩
   |true=>obtain⟨s2,k3,k4⟩:=lT (nb:=nb) (q:=q0) hN h2;have he:=jT h2;have hg:=(hT.at k3).1;rw[k4,af];refine⟨_,1+1+1,false,rfl,by omega,Uy hg lv sr,hg.2,?_⟩;show(s2.2.1,s.2.2.1,sd)=(tx ((t::r).map bE) 2,s.2.2.1,CC (tx ((t::r).map bE) 0))/\_;rw[CD k3,et,hc];exact⟨rfl,rfl,rfl⟩
  ·rw[zn hr];simp only[Bool.not_false,aP];rw[af];have e:=Gj (nb:=nb) (l:=t::r) (q:=q0) 5 [] (1+1);simp only;rw[e,af];exact⟨_,1+1,true,rfl,by omega,Uy gT.nil (by show -9223372036854775808<=(0:Int)/\(0:Int)<=_;omega) sr,Nat.zero_le _,rfl⟩
theorem z83(hd:(t::r).length<=900)(hT:s8 E (t::r))(V:MV K O X D L m fx)(I:Inv n m fx)(hn:n<=900):bZ name n (qB qF m fx ((t::r).map bE) t.2.2.2) (ag (pz (RS nb (t::r) q0 0 false)) fun lU=>ag (fit (aW (ae X.l) (ae [(lU.1.1,lU.1.2.1,lU.1.2.2)]))) fun _=>ag (kW (K,(lU.1.1,lU.1.2.1,lU.1.2.2),())) fun x26=>ag (aq (ai (ak x26.2.1 0)) (some true) (ag (fK (⟨aD X.nil (ch [(lU.1.1,lU.1.2.1,lU.1.2.2)]),app X.l [(lU.1.1,lU.1.2.1,lU.1.2.2)]⟩,())) fun x27=>some (ai (ak x27.1 0)))) fun x28=>ag (iu (x28,⟨nb,t::r⟩,lU.2.1,lU.2.2.1,lU.2.2.2.1,lU.2.2.2.2.1,())) fun x29=>some (x29.1,x29.2.1,name,x26.1,O,⟨aD X.nil (ch [(lU.1.1,lU.1.2.1,lU.1.2.2)]),app X.l [(lU.1.1,lU.1.2.1,lU.1.2.2)]⟩,D,L,())):=by
 have ho:=I.gx;obtain⟨f,a,bad,h1,h2,h3,h4,h5⟩:=aaf (nb:=nb) (show(t::r).length<=900000 by omega) hT.tok;have hl:X.l.length<=n:=by rw[V.x];exact ho
 have hK:K=⟨K.nil,fx⟩:=by rw[<-V.k]
 obtain⟨q,s1,s2⟩:=z2f K.nil I.fg V.kn f h3 h4;have s1:kW (K,(f.1,f.2.1,f.2.2),())=some (⟨q,(dz fx f).1⟩,(dz fx f).2,()):=by rw[hK];exact s1
 have xg:gL (m.bc++[f]):=⟨Nf I.xg.1 h3,Nf I.xg.2.1 h4,by rw[zh,List.length_singleton];omega⟩;have hc:fK (⟨aD X.nil (ch [(f.1,f.2.1,f.2.2)]),app X.l [(f.1,f.2.1,f.2.2)]⟩,())=some (eH (m.bc++[f]),()):=by rw[kB,V.x];exact MU _ xg
 rw[h1,af];simp only;rw[fm (by show(X.l.length:Int)+1<=_;omega),af,s1,af,hc];have hw:ag (aq (ai (ak (dz fx f).2 0)) (some true) (ag (some (eH (m.bc++[f]),())) fun x27=>some (ai (ak x27.1 0))))=fun g:Bool->Option OT=>g (!(decide ((dz fx f).2=0)&&decide (eH (m.bc++[f])=0))):=by funext g;rw[af,wa,wa];cases decide ((dz fx f).2=0)<;>cases decide (eH (m.bc++[f])=0)<;>rfl
 simp only;rw[hw];have e:=QE (!(decide ((dz fx f).2=0)&&decide (eH (m.bc++[f])=0))) nb t r q0 a bad;simp only;rw[e,af];unfold qB;cases hx:BJ ((t::r).map bE) with
 |none=>rw[hx] at h5;rw[h5];exact bZ.err dc
 |some x=>
  rw[hx] at h5;obtain⟨rfl,rfl,rfl⟩:=h5;rw[qq7 h2];show bZ name n (qA t.2.2.2 (decide (x.2=((t::r).map bE).length)&&(decide ((dz fx x.1).2=0)&&decide (eH (m.bc++[x.1])=0))) _) _;rw[zA];cases decide (x.2=(t::r).length) with
  |false=>exact bZ.err dc
  |true=>
   cases hq:(decide ((dz fx x.1).2=0)&&decide (eH (m.bc++[x.1])=0)) with
   |false=>exact bZ.err dc
   |true=>
    rw[zd,decide_eq_true_eq,decide_eq_true_eq] at hq;have hz:eH (dz fx x.1).1=0:=by
     by_cases hf:fx.length<400
     ·exact((z7h hf x.1).2 hq.1).2.1
     ·obtain⟨c1,c2,c3⟩:=MW I.fz;have he:=hq.1;unfold dz at he ⊢;rw[if_neg (by rw[I.fz];simp)] at he ⊢;by_cases hb:gQ x.1=false\/(cP fx x.1.1).length=400
      ·rw[if_pos hb] at he;cases he
      ·rw[if_neg hb];have hr:gQ x.1=true:=by
        cases hh:gQ x.1 with
        |true=>rfl
        |false=>exact absurd (.inl hh) hb
       have hj:(cP fx x.1.1).length≠400:=fun hh=>hb (.inr hh);have dl:=Uf fx x.1.1;have np:=ql0 (jl.1 c3) x.1;have hg:(wR (cP fx x.1.1++[x.1])).length=(cP fx x.1.1).length+1:=by rw[qh3,zh,List.length_singleton]
       refine qs2 (by show(wR _).length<=400;omega) (fun y hy=>?_) ?_
       ·rcases zL.1 ((qh2 _ y).1 hy) with hy|hy
        ·exact c2 y (gJ.1 hy).1
        ·rw[zB.1 hy];exact hr
       ·exact((List.mergeSort_perm _ _).pairwise_iff (fun h=>Ne.symm h)).2 np
    refine bZ.fk (x:=(⟨m.opens,m.bc++[x.1],m.aZ,m.lets⟩,(dz fx x.1).1)) ⟨rfl,s2,V.o,?_,V.d,V.l⟩ ⟨Nat.le_succ_of_le I.go,?_,Nat.le_succ_of_le I.gd,Nat.le_succ_of_le I.gl,z7g I.fg h3 h4,hz,xg,I.dg,I.og,I.lg⟩
    ·show app X.l [x.1]=m.bc++[x.1];rw[kB,V.x]
    ·show(m.bc++[x.1]).length<=_;rw[zh,List.length_singleton];omega
end
open Pz
section
variable {nb:Bool} {name:Tx} {K:Sl ay} {O:Sl Tx} {X:Sl ay} {D:Sl DX} {L:Sl LY} {m:MX} {fx:List ay} {n:Nat} {t:Tk} {r:List Tk} {E e:Int}
theorem z3l{α:Type}{l:List α}{k:Nat}(h:k<=l.length):cg l (k:Int) (ae l)=some (l.drop k):=by
 unfold cg;have h1:(0:Int)<=(k:Int):=om
 have h2:(k:Int)<=ae l:=by show(k:Int)<=(l.length:Int);omega
 simp[h1,ae,h,List.take_of_length_le]
theorem z84{d:List Tk}(hT:s8 E d)(h0:0<=e)(h1:e<=E)(hz:eH fx=0):oe (ot fx d e) E QB lA where
 tk t ht:=by obtain⟨⟨q1,q2⟩,q3,q4⟩:=hT t ht;exact⟨q1,q2,q3,q4⟩
 e0:=h0
 e1:=h1
 q0:=⟨fun b h=>absurd h (List.not_mem_nil),Nat.zero_le _⟩
 n0:=⟨by decide,by decide⟩
 cl ops x h:=qyx hz h
theorem z85{d:List Tk}(hd:d.length<=900)(hT:s8 E d)(h0:0<=e)(h1:e<=E)(F:Sl ay)(hg:gL F.l)(hz:eH F.l=0):(∃b t,qE F.l d e=.ok t/\iY (⟨nb,d⟩,e,F,())=some (⟨b,t⟩,0,0,())/\t.length<=4000/\GL t)\/(∃q,qE F.l d e=.error q/\iY (⟨nb,d⟩,e,F,())=some (⟨true,[]⟩,q.1,q.2,())/\q.2≠0):=by
 have H:=z84 hT h0 h1 hz;obtain⟨b,hb⟩:=qq0 (nb:=nb) (c:=ot F.l d e) (by show d.length<=_;omega) H (z7v hg hz d e);have hb:iY (⟨nb,d⟩,e,F,())=_:=hb;have ho:=Pz.cH H;unfold qE;cases hr:lE (ot F.l d e) with
 |error q=>rw[hr] at hb ho;exact .inr ⟨q,rfl,hb,by have:=ho.2.1;omega⟩
 |ok t=>
  rw[hr] at hb ho;obtain⟨g1,g2⟩:=ho;have g1:t.length+1<=3*d.length:=g1;have hc:GL t:=fun x hx=>by obtain⟨⟨q1,q2⟩,q3⟩:=g2 x hx;exact⟨q1,q2,q3⟩
  have hb:iY (⟨nb,d⟩,e,F,())=ag (im (⟨b,t⟩,())) fun x=>aq (ai (ak x.1 0)) (some (⟨true,[]⟩,0,74,())) (some (⟨b,t⟩,0,0,())):=hb;rw[z4v (show t.length<=4000 by omega) hc,af,wa] at hb;by_cases hs:lH t=0
  ·rw[zo hs] at hb;show(∃b' t',(if lH t≠0 then Except.error (0,74) else .ok t)=_/\_)\/_;rw[if_neg (by simpa using hs)];exact .inl ⟨b,t,rfl,hb,by omega,hc⟩
  ·rw[zn hs] at hb;right;show ∃q,(if lH t≠0 then Except.error (0,74) else .ok t)=Except.error q/\_;rw[if_pos hs];exact⟨(0,74),rfl,hb,by decide⟩
theorem s8.drop{d:List Tk}(h:s8 E d)(k:Nat):s8 E (d.drop k):=fun t ht=>h t (List.mem_of_mem_drop ht)
theorem zb9(hd:(t::r).length<=900)(hT:s8 E (t::r))(h0:0<=e)(h1:e<=E)(V:MV K O X D L m fx)(I:Inv n m fx)(hn:n<=900):bZ name n (qC qF m fx (t::r) e t.2.2.2) (ag (fq (6,[114,101,99],RS nb (t::r) q0 1 false)) fun lG=>ag (aq lG.1 (some (e,name,K,(⟨nb,t::r⟩:Sl Tk),([]:Tx),lG.1,O,X,D,L,lG.2.1,aA .i64 lG.2.2.1 1,lG.2.2.2.1,(⟨true,[]⟩:Sl ND),lG.2.2.2.2.1,())) (some (e,name,K,⟨nb,t::r⟩,[],lG.1,O,X,D,L,lG.2.1,lG.2.2.1,lG.2.2.2.1,⟨true,[]⟩,lG.2.2.2.2.1,()))) fun fi=>ag (nV (fi.2.2.2.2.2.2.2.2.2.2.1,fi.2.2.2.2.2.2.2.2.2.2.2.1,fi.2.2.2.2.2.2.2.2.2.2.2.2.1,fi.2.2.2.2.2.2.2.2.2.2.2.2.2.2.1,())) fun kr=>ag (cj (6,[61],kr.2.1,kr.2.2.1,kr.2.2.2.1,kr.2.2.2.2.1,())) fun oq=>aq oq.2.2.2.1 (ag (bA fi.2.2.2.1.l 0) fun Gd=>some (Gd.2.2.2,240,fi.2.1,fi.2.2.1,fi.2.2.2.2.2.2.1,fi.2.2.2.2.2.2.2.1,fi.2.2.2.2.2.2.2.2.1,fi.2.2.2.2.2.2.2.2.2.1,())) (ag (cg fi.2.2.2.1.l oq.2.2.1 (ae fi.2.2.2.1.l)) fun wS=>ag (iY (⟨fi.2.2.2.1.nil,wS⟩,fi.1,fi.2.2.1,())) fun jQ=>aq (ai (ak jQ.2.2.1 0)) (some (jQ.2.1,jQ.2.2.1,fi.2.1,fi.2.2.1,fi.2.2.2.2.2.2.1,fi.2.2.2.2.2.2.2.1,fi.2.2.2.2.2.2.2.2.1,fi.2.2.2.2.2.2.2.2.2.1,())) (ag (fit (aW (ae fi.2.2.2.2.2.2.2.2.2.1.l) (ae [(kr.1,fi.2.2.2.2.2.1,jQ.1)]))) fun _=>ag (kS ((kr.1,fi.2.2.2.2.2.1,jQ.1),())) fun QF=>ag (iu (ai QF.1,fi.2.2.2.1,oq.2.1,ae fi.2.2.2.1.l,oq.2.2.2.1,oq.2.2.2.2.1,())) fun HG=>some (HG.1,HG.2.1,fi.2.1,fi.2.2.1,fi.2.2.2.2.2.2.1,fi.2.2.2.2.2.2.2.1,fi.2.2.2.2.2.2.2.2.1,⟨aD fi.2.2.2.2.2.2.2.2.2.1.nil (ch [(kr.1,fi.2.2.2.2.2.1,jQ.1)]),app fi.2.2.2.2.2.2.2.2.2.1.l [(kr.1,fi.2.2.2.2.2.1,jQ.1)]⟩,())))):=by
 have hN:(t::r).length<=1000000:=om
 have e1:=qD (nb:=nb) (l:=t::r) (q:=q0) 6 [114,101,99] 1;rw[e1,af];unfold qC;simp only;have hk:cV ((t::r).map bE) 1 6 [114,101,99]=cV ((t::r).map bE) 1 6 gH:=rfl;rw[hk]
 have main:∀(rc:Bool) (i:Nat),i<=(t::r).length->
   bZ name n (eb (Hy t.2.2.2 ((Qy ((t::r).map bE) i).bind fun x=>(kD ((t::r).map bE) x.2 6 Bw).map fun k=>(x.1,k))) fun x=>eb (qF.toks fx ((t::r).drop x.2) e) fun z=>qA t.2.2.2 (qF.lt (x.1,rc,z)) (⟨m.opens,m.bc,m.aZ,m.lets++[(x.1,rc,z)]⟩,fx))
    (ag (nV (RS nb (t::r) q0 i false)) fun kr=>ag (cj (6,[61],kr.2.1,kr.2.2.1,kr.2.2.2.1,kr.2.2.2.2.1,())) fun oq=>
   aq oq.2.2.2.1 (ag (bA (t::r) 0) fun Gd=>some (Gd.2.2.2,240,name,K,O,X,D,L,()))
    (ag (cg (t::r) oq.2.2.1 (ae (t::r))) fun wS=>ag (iY (⟨nb,wS⟩,e,K,())) fun jQ=>aq (ai (ak jQ.2.2.1 0)) (some (jQ.2.1,jQ.2.2.1,name,K,O,X,D,L,()))
     (ag (fit (aW (ae L.l) (ae [(kr.1,rc,jQ.1)]))) fun _=>ag (kS ((kr.1,rc,jQ.1),())) fun QF=>ag (iu (ai QF.1,⟨nb,t::r⟩,oq.2.1,ae (t::r),oq.2.2.2.1,oq.2.2.2.2.1,())) fun HG=>
      some (HG.1,HG.2.1,name,K,O,X,D,⟨aD L.nil (ch [(kr.1,rc,jQ.1)]),app L.l [(kr.1,rc,jQ.1)]⟩,())))):=by
  intro rc i hi;have hc:bA (t::r) 0=some t:=rfl;obtain⟨s,a,bad,g1,g2,g3,g4⟩:=zb7 (nb:=nb) (q:=q0) (show(t::r).length<=900000 by omega) hT.tok hi;rw[g1,af];have no:∀a,bZ name n (.error (t.2.2.2,240)) (ag (cj (6,[61],RS nb (t::r) q0 a true)) fun oq=>aq oq.2.2.2.1 (ag (bA (t::r) 0) fun Gd=>some (Gd.2.2.2,240,name,K,O,X,D,L,()))
    (ag (cg (t::r) oq.2.2.1 (ae (t::r))) fun wS=>ag (iY (⟨nb,wS⟩,e,K,())) fun jQ=>aq (ai (ak jQ.2.2.1 0)) (some (jQ.2.1,jQ.2.2.1,name,K,O,X,D,L,()))
     (ag (fit (aW (ae L.l) (ae [(s,rc,jQ.1)]))) fun _=>ag (kS ((s,rc,jQ.1),())) fun QF=>ag (iu (ai QF.1,⟨nb,t::r⟩,oq.2.1,ae (t::r),oq.2.2.2.1,oq.2.2.2.2.1,())) fun HG=>
      some (HG.1,HG.2.1,name,K,O,X,D,⟨aD L.nil (ch [(s,rc,jQ.1)]),app L.l [(s,rc,jQ.1)]⟩,())))):=by
   intro a;have e2:=Gj (nb:=nb) (l:=t::r) (q:=q0) 6 [61] a;rw[e2,af,aP,hc,af];exact bZ.err dc
  cases hx:Qy ((t::r).map bE) i with
  |none=>rw[hx] at g4;rw[g4];exact no a
  |some x=>
   rw[hx] at g4;obtain⟨rfl,rfl,rfl⟩:=g4;show bZ name n (eb (Hy t.2.2.2 ((bif cV ((t::r).map bE) x.2 6 Bw then some (x.2+1) else none).map fun k=>(x.1,k))) _) _;cases h2:cV ((t::r).map bE) x.2 6 Bw with
   |false=>have e2:=wb (nb:=nb) (q:=q0) h2;have e2:cj (6,[61],RS nb (t::r) q0 x.2 false)=_:=e2;rw[e2,af,aP,hc,af];exact bZ.err dc
   |true=>
    obtain⟨s2,k3,k4⟩:=lT (nb:=nb) (q:=q0) hN h2;have he:=jT h2;have k4:cj (6,[61],RS nb (t::r) q0 x.2 false)=_:=k4;rw[k4,af,aH,z3l (show x.2+1<=(t::r).length by omega),af];show bZ name n (eb (qE fx ((t::r).drop (x.2+1)) e) fun z=>qA t.2.2.2 (gW (x.1,rc,z)) (⟨m.opens,m.bc,m.aZ,m.lets++[(x.1,rc,z)]⟩,fx)) _;have hg:gL K.l:=by rw[V.k];exact I.fg
    have hz:eH K.l=0:=by rw[V.k];exact I.fz
    rcases z85 (nb:=nb) (e:=e) (show((t::r).drop (x.2+1)).length<=900 by rw[zD];omega) (hT.drop _) h0 h1 K hg hz with ⟨b,z,z1,z2,z3,z4⟩|⟨q,z1,z2,z3⟩
    ·rw[V.k] at z1;have hl:=V.aae;have hf:=I.gl;rw[z1,z2,af];show bZ name n (qA t.2.2.2 (gW (x.1,rc,z)) _) (aq false _ (ag (fit ((L.l.length:Int)+1)) _));rw[aH,fm om,af,z52 x.1 rc b z g3 z3 z4,af];have ew:=QE (ai (gW (x.1,rc,z))) nb t r q0 (t::r).length false;have ew':iu (ai (gW (x.1,rc,z)),⟨nb,t::r⟩,⟨nb,t::r⟩,ae (t::r),false,q0,())=_:=ew;simp only;rw[ew',af,zn (Nat.lt_irrefl _)];cases hj:gW (x.1,rc,z) with
     |false=>exact bZ.err dc
     |true=>
      refine bZ.fk (x:=(⟨m.opens,m.bc,m.aZ,m.lets++[(x.1,rc,z)]⟩,fx)) ⟨V.k,V.kn,V.o,V.x,V.d,?_⟩ ⟨Nat.le_succ_of_le I.go,Nat.le_succ_of_le I.gx,Nat.le_succ_of_le I.gd,?_,I.fg,I.fz,I.xg,I.dg,I.og,Nf I.lg ⟨g3,z4,z3⟩⟩
      ·show(app L.l [(x.1,rc,(⟨b,z⟩:Sl ND))]).map er=m.lets++[(x.1,rc,z)];rw[kB,zP,V.l];rfl
      ·show(m.lets++[(x.1,rc,z)]).length<=_;rw[zh,List.length_singleton];omega
    ·rw[V.k] at z1;rw[z1,z2,af,eP z3];simp only[ai,Bool.not_false,aP];exact bZ.err z3
 cases hr:cV ((t::r).map bE) 1 6 gH with
 |true=>have he:=jT hr;rw[aP,af];have a1:aA .i64 ((1:Nat):Int) 1=((2:Nat):Int):=aO om;simp only;rw[a1];exact main true 2 om
 |false=>rw[aH,af];exact main false 1 (by simp)
end
open Pz
theorem qhe(b:Bool)(l:List Tx)(hl:l.length<=1000000):mn (⟨b,l⟩,())=some (cw l,()):=by
 rw[YK];have e:=lI tR (fun k=>(⟨b,l⟩,⟨b,l⟩,ae l,k,())) l hl (fun k x=>bif decide (x∈l.take k) then some (true,()) else none) (false,()) (fun k x hx hk=>by
  have hc:=vY hx;unfold tR;simp only[gS hx,aP,bR hx,af];rw[Hj (Nat.le_of_lt hc),af,q8j _ _ _ (by rw[zJ];omega),af,aO (show k<=1000000000 by omega)];cases decide (x∈l.take k)<;>rfl) (by
  unfold tR;simp only[gU,aH])
 refine e.trans ?_;rw[Um (fun k x=>decide (x∈l.take k)),qse (key:=fun x=>x) _ l (fun k x _=>by rw[List.map_id'])];rw[List.map_id'];cases cw l<;>rfl
theorem qzu(b:Bool)(l:List Tx)(hl:l.length<=1000000)(hg:∀s,s∈l->gT s):nK (⟨b,l⟩,())=some (l.any fun s=>!nm s,()):=by
 have e:aM pK (⟨b,l⟩,ae l,0,())=some (iD (fun s=>!nm s) 0 l,()):=by
  refine wU pK (fun k=>(⟨b,l⟩,ae l,k,())) (fun z=>(z,())) l hl (fun s=>!nm s) ?_ ?_
  ·intro k x hx hk;unfold pK;simp only[gS hx,aP,bR hx,af,XH,Ux x (hg x (zG hx)),aO (show k<=1000000000 by omega),ai];cases nm x<;>rfl
  ·unfold pK;simp only[gU,aH]
 rw[XJ,XI];refine(M8 e _).trans ?_;rw[CB]
def QG(x:LX):Prop:=gT x.1/\GL x.2.2/\x.2.2.length<=4000
theorem z3m(b:Bool)(l:List LY)(hl:l.length<=1000000)(hg:∀x,x∈l->QG (er x)):nM (⟨b,l⟩,())=some (l.any fun x=>!gW (er x),()):=by
 have e:aM pM (⟨b,l⟩,ae l,0,())=some (iD (fun x=>!gW (er x)) 0 l,()):=by
  refine wU pM (fun k=>(⟨b,l⟩,ae l,k,())) (fun z=>(z,())) l hl (fun x=>!gW (er x)) ?_ ?_
  ·intro k x hx hk;obtain⟨h1,h2,h3⟩:=hg x (zG hx);obtain⟨s,rc,c,t⟩:=x;have hi:=z52 s rc c t h1 h3 h2;unfold pM;simp only[gS hx,aP,bR hx,af,X4,hi,aO (show k<=1000000000 by omega),ai];have ee:er (s,rc,(⟨c,t⟩:Sl ND))=(s,rc,t):=rfl;rw[ee];cases gW (s,rc,t)<;>rfl
  ·unfold pM;simp only[gU,aH]
 rw[X6,X5];refine(M8 e _).trans ?_;rw[CB]
noncomputable def dZ(name:Tx)(m:MX):Int:=
 bif !nm name||(decide (60<m.opens.length)||(decide (200<m.lets.length)||((m.opens.any fun s=>!nm s)||m.lets.any fun x=>!gW x))) then 240 else
 bif !(decide (jS m.aZ=0)||decide (jS m.aZ=102))||!decide (eH m.bc=0) then 240 else
 bif cw (name::m.opens)||cw (m.lets.map fun x=>x.1) then 241 else 0
theorem qzv(name:Tx)(m:MX):dZ name m=0\/dZ name m=240\/dZ name m=241:=by
 unfold dZ;cases (!nm name||(decide (60<m.opens.length)||(decide (200<m.lets.length)||((m.opens.any fun s=>!nm s)||m.lets.any fun x=>!gW x)))) with
 |true=>exact .inr (.inl rfl)
 |false=>
  cases (!(decide (jS m.aZ=0)||decide (jS m.aZ=102))||!decide (eH m.bc=0)) with
  |true=>exact .inr (.inl rfl)
  |false=>
   cases (cw (name::m.opens)||cw (m.lets.map fun x=>x.1)) with
   |true=>exact .inr (.inr rfl)
   |false=>exact .inl rfl
structure GM (m:MX):Prop where
 o:m.opens.length<=1000
 l:m.lets.length<=1000
 og:∀s,s∈m.opens->gT s
 dg:GD m.aZ
 xg:gL m.bc
 lg:∀x,x∈m.lets->QG x
theorem qq8(name:Tx)(O:Sl Tx)(X:Sl ay)(D:Sl DX)(L:Sl LY)(hO:O.l.length<=1000)(hL:L.l.length<=1000):∀(m k:Nat) (N:Sl Tx),k+m=L.l.length->N.l=(L.l.take k).map (fun x=>x.1)->aM ng (L,ae L.l,(k:Int),name,O,X,D,L,N,())=some (bif cw (name::O.l)||cw (L.l.map fun x=>x.1) then 241 else 0,()):=by
 intro m
 induction m with
 |zero=>
  intro k N hk hN;apply bX;unfold ng;simp only;rw[cd,if_neg (by show ¬(k:Int)<(L.l.length:Int);omega),fm (by show(1:Int)+(O.l.length:Int)<=_;omega),af,kB];have e1:=qhe (aD false (ch O.l)) (name::O.l) (by rw[zf];omega);have e1:mn (⟨aD false (ch O.l),[name]++O.l⟩,())=_:=e1;have hc:N.l=L.l.map fun x=>x.1:=by rw[hN,zT om]
  have e2:mn (N,())=some (cw (L.l.map fun x=>x.1),()):=by rw[<-hc];exact qhe N.nil N.l (by rw[hc,zA];omega)
  rw[e1,af,e2];cases cw (name::O.l) with
  |true=>rfl
  |false=>cases cw (L.l.map fun x=>x.1)<;>rfl
 |succ m ih=>
  intro k N hk hN;have hd:k<L.l.length:=om
  have hx:=ze hd;have step:ng (L,ae L.l,(k:Int),name,O,X,D,L,N,())=some (.inl (L,ae L.l,((k+1:Nat):Int),name,O,X,D,L,⟨aD N.nil (ch [(L.l[k]).1]),app N.l [(L.l[k]).1]⟩,())):=by
   unfold ng;simp only;have he:N.l.length=k:=by rw[hN,zA,zJ];omega
   rw[cd,if_pos (by show(k:Int)<(L.l.length:Int);omega),bR hx,af,fm (by show(N.l.length:Int)+1<=_;omega),af,aO (show k<=1000000000 by omega)]
  rw[dC step];refine ih (k+1) _ om ?_;show app N.l [(L.l[k]).1]=_;rw[kB,hN,List.take_add_one,hx,zP];rfl
theorem z3n(name:Tx)(hc:gT name)(O:Sl Tx)(X:Sl ay)(D:Sl DX)(L:Sl LY)(m:MX)(ho:O.l=m.opens)(hx:X.l=m.bc)(hd:D.l=m.aZ)(hl:L.l.map er=m.lets)(G:GM m):nO ((name,O,X,D,L),())=some (dZ name m,()):=by
 have hg:O.l.length<=1000:=by rw[ho];exact G.o
 have hj:L.l.length=m.lets.length:=by rw[<-hl,zA]
 have hk:=G.l;have e1:nK (O,())=some (m.opens.any fun s=>!nm s,()):=by rw[<-ho];exact qzu O.nil O.l om (by rw[ho];exact G.og)
 have e2:nM (L,())=some (m.lets.any fun x=>!gW x,()):=by have:=z3m L.nil L.l om (fun x hx=>G.lg _ (by rw[<-hl];exact List.mem_map_of_mem hx));rw[<-hl,List.any_map];exact this
 have e3:kT (D,())=some (jS m.aZ,()):=by rw[<-hd];exact qh6 D (by rw[hd];exact G.dg)
 have e4:fK (X,())=some (eH m.bc,()):=by rw[<-hx];exact MU X.nil (by rw[hx];exact G.xg)
 have hm:aE 60 (ae O.l)=decide (60<m.opens.length):=by rw[ho];exact decide_eq_decide.2 (by unfold ae;omega)
 have he:aE 200 (ae L.l)=decide (200<m.lets.length):=by rw[<-hj];exact decide_eq_decide.2 (by unfold ae;omega)
 have hf:=qq8 name O X D L hg om L.l.length 0 ⟨true,[]⟩ om rfl;rw[YL,Ux name hc,af,hm,he,e1,e2,e3,e4];have hf:aM ng (L,ae L.l,0,name,O,X,D,L,⟨true,[]⟩,())=_:=hf;rw[hf,ho];have hn:(L.l.map fun x=>x.1)=m.lets.map fun x=>x.1:=by rw[<-hl,zX];rfl
 rw[hn];unfold dZ;simp only[af,wa];cases nm name with
 |false=>rfl
 |true=>
  cases decide (60<m.opens.length) with
  |true=>rfl
  |false=>
   cases decide (200<m.lets.length) with
   |true=>rfl
   |false=>
    cases (m.opens.any fun s=>!nm s) with
    |true=>rfl
    |false=>
     cases (m.lets.any fun x=>!gW x) with
     |true=>rfl
     |false=>
      cases decide (jS m.aZ=0) with
      |true=>cases decide (eH m.bc=0)<;>cases (cw (name::m.opens)||cw (m.lets.map fun x=>x.1))<;>rfl
      |false=>cases decide (jS m.aZ=102)<;>cases decide (eH m.bc=0)<;>cases (cw (name::m.opens)||cw (m.lets.map fun x=>x.1))<;>rfl
open Pz
theorem Ng{α β γ:Type}(x:Option α)(f:α->Option β)(g:β->Option γ):ag (ag x f) g=ag x fun a=>ag (f a) g:=by cases x<;>rfl
theorem z86{α β:Type}(c:Bool)(x y:Option α)(g:α->Option β):ag (aq c x y) g=aq c (ag x g) (ag y g):=by cases c<;>rfl
theorem Lv{α β:Type}(f:α->Option β)(b:β):bT f (.inr b)=some b:=id (Eq.refl (some b))
theorem Lw{α β:Type}(f:α->Option β)(a:α):bT f (.inl a)=f a:=id (Eq.refl (f a))
theorem z87{nb:Bool}{name:Tx}{K:Sl ay}{O:Sl Tx}{X:Sl ay}{D:Sl DX}{L:Sl LY}{m:MX}{fx:List ay}{n:Nat}{d:List Tk}{E e:Int}(hd:d.length<=900)(hT:s8 E d)(h0:0<=e)(h1:e<=E)(V:MV K O X D L m fx)(I:Inv n m fx)(hn:n<=900):bZ name n (wX qF m fx d e) (pE (⟨nb,d⟩,e,name,K,O,X,D,L,())):=by
 rw[ZC];cases d with
 |nil=>exact bZ.err dc
 |cons t r=>
  have c0:ak (ae (⟨nb,t::r⟩:Sl Tk).l) 0=false:=eP (by show(((t::r).length:Nat):Int)≠0;rw[zf];omega);have a0:bA (⟨nb,t::r⟩:Sl Tk).l 0=some t:=rfl;rw[c0,aH,a0,af,af,af,wa];unfold wX;simp only;cases decide (t.1=6) with
  |false=>exact bZ.err dc
  |true=>
   rw[cond_true];simp only[ai,Bool.not_true,aH];have w1:bx t.2.1 [111,112,101,110]=decide (t.2.1=Hw):=uk _ Hw;have w2:bx t.2.1 [105,110,102,105,120,108]=decide (t.2.1=v7):=uk _ v7;have w3:bx t.2.1 [105,110,102,105,120,114]=decide (t.2.1=v8):=uk _ v8;have w4:bx t.2.1 [105,110,102,105,120]=decide (t.2.1=Hx):=uk _ Hx;have w5:bx t.2.1 [116,121,112,101]=decide (t.2.1=BH):=uk _ BH;have w6:bx t.2.1 [108,101,116]=decide (t.2.1=jN):=uk _ jN;rw[w1,w2,w3,w4,w5,w6];have one:aA .i64 0 1=((1:Nat):Int):=rfl;rw[one];have key:∀(r0:PR (MX×List ay)) (o o':Option OT),bZ name n r0 o->o'=o->bZ name n r0 o':=fun r0 o o' h e=>by rw[e];exact h
   cases decide (t.2.1=Hw) with
   |true=>refine key _ _ _ (za4 (nb:=nb) (name:=name) hd hT V I hn) ?_;simp only[aP,Ng,af,Lv];rfl
   |false=>
    rw[aH,cond_false];cases hl:decide (t.2.1=v7) with
    |true=>refine key _ _ _ (z83 (nb:=nb) (name:=name) hd hT V I hn) ?_;simp only[aP,Ng,af,Lv,Lw];rfl
    |false=>
     rw[aH];cases hr:decide (t.2.1=v8) with
     |true=>refine key _ _ _ (z83 (nb:=nb) (name:=name) hd hT V I hn) ?_;simp only[aP,Ng,af,Lv,Lw];rfl
     |false=>
      rw[aH];cases hi:decide (t.2.1=Hx) with
      |true=>refine key _ _ _ (z83 (nb:=nb) (name:=name) hd hT V I hn) ?_;simp only[aP,Ng,af,Lv,Lw];rfl
      |false=>
       rw[aH];simp only[Bool.false_or,cond_false];cases ht:decide (t.2.1=BH) with
       |true=>refine key _ _ _ (za6 (nb:=nb) (name:=name) hd hT V I hn) ?_;simp only[aP,Ng,af,Lv];rfl
       |false=>
        rw[aH,cond_false];cases hl:decide (t.2.1=jN) with
        |true=>refine key _ _ _ (zb9 (nb:=nb) (name:=name) hd hT h0 h1 V I hn) ?_;simp only[aP,Ng,z86,af,Lv];rfl
        |false=>rw[aH,cond_false];simp only[af,Lv,Lw];rw[a0,af];exact bZ.err dc
open Pz
noncomputable def BK(name s:Tx)(fx:List ay):PR MX:=if eH fx≠0 then .error (0,eH fx) else eb (dT (s.length+1) s 0) fun l=>eb (mK qF l [] ⟨[],[],[],[]⟩ fx) fun x=>bif x.1.isEmpty then(if dZ name x.2.1=0 then .ok x.2.1 else .error (0,dZ name x.2.1)) else .error ((s.length:Int),240)
abbrev MT:=Tx×Sl Tx×Sl ay×Sl DX×Sl LY
abbrev Lx:MT:=([],⟨true,[]⟩,⟨true,[]⟩,⟨true,[]⟩,⟨true,[]⟩)
structure Is (v:MT) (name:Tx) (m:MX):Prop where
 n:v.1=name
 o:v.2.1.l=m.opens
 x:v.2.2.1.l=m.bc
 d:v.2.2.2.1.l=m.aZ
 l:v.2.2.2.2.l.map er=m.lets
def wc(name:Tx)(r:PR MX)(o:Option (MT×Int×Int×Unit)):Prop:=∃(v:MT) (a e:Int),o=some (v,a,e,())/\(match r with
 |.ok m=>a=0/\e=0/\Is v name m/\∃fx,Inv 900 m fx
 |.error q=>a=q.1/\e=q.2/\e≠0/\v=Lx)
theorem wc.err{name:Tx}{a e:Int}(h:e≠0):wc name (.error (a,e)) (some (Lx,a,e,())):=⟨Lx,a,e,rfl,rfl,rfl,h,rfl⟩
theorem Inv.mono{n k:Nat}{m:MX}{fx:List ay}(h:Inv n m fx)(hk:n<=k):Inv k m fx:=⟨Nat.le_trans h.go hk,Nat.le_trans h.gx hk,Nat.le_trans h.gd hk,Nat.le_trans h.gl hk,h.fg,h.fz,h.xg,h.dg,h.og,h.lg⟩
theorem Inv.gm{m:MX}{fx:List ay}(h:Inv 900 m fx):GM m:=⟨by have:=h.go;omega,by have:=h.gl;omega,h.og,⟨by have:=h.gd;omega,h.dg⟩,h.xg,h.lg⟩
theorem z88{α:Type}{l:List α}{p i:Nat}(h1:p<=i)(h2:i<=l.length):cg l (p:Int) (i:Int)=some ((l.take i).drop p):=by
 unfold cg;have h1:(0:Int)<=(p:Int):=om
 have h3:(p:Int)<=(i:Int):=om
 have h4:(i:Int)<=(l.length:Int):=om
 simp[h1,h3,h4]
theorem quy(name:Tx)(hf:gT name)(s:Tx)(nb:Bool)(l:List Tk)(hl:l.length<=900)(_:s.length<=900)(hT:s8 (s.length:Int) l)(rn:Tx)(rO:Sl Tx)(rX:Sl ay)(rD:Sl DX)(rL:Sl LY):∀(w i p:Nat) (K:Sl ay) (O:Sl Tx) (X:Sl ay) (D:Sl DX) (L:Sl LY) (m:MX) (fx:List ay),i+w=l.length->p<=i->MV K O X D L m fx->Inv i m fx->wc name (eb (mK qF (l.drop i) ((l.take i).drop p) m fx) fun x=>bif x.1.isEmpty then(if dZ name x.2.1=0 then .ok x.2.1 else .error (0,dZ name x.2.1)) else .error ((s.length:Int),240)) (aM gE (s,⟨nb,l⟩,(p:Int),⟨nb,l⟩,(l.length:Int),(i:Int),rn,name,K,rO,rX,rD,rL,O,X,D,L,())):=by
 intro w
 induction w with
 |zero=>
  intro i p K O X D L m fx hi hp V I;have hd:l.drop i=[]:=zw om;rw[hd];show wc name (bif ((l.take i).drop p).isEmpty then _ else _) _;have I9:Inv 900 m fx:=I.mono om;by_cases hu:p<l.length
  ·have e:gE (s,⟨nb,l⟩,(p:Int),⟨nb,l⟩,(l.length:Int),(i:Int),rn,name,K,rO,rX,rD,rL,O,X,D,L,())=some (.inr (Lx,(s.length:Int),240,())):=by
    unfold gE
    simp only;rw[cd,if_neg om,cd,if_pos (by show(p:Int)<(l.length:Int);omega)];rfl
   rw[bX e];have hj:((l.take i).drop p).isEmpty=false:=by
    cases h:(l.take i).drop p with
    |nil=>have:=List.drop_eq_nil_iff.1 h;rw[zJ] at this;omega
    |cons a b=>rfl
   rw[hj];exact wc.err dc
  ·have hj:((l.take i).drop p).isEmpty=true:=by rw[zw (by rw[zJ];omega)];rfl
   rw[hj,cond_true];have hc:=z3n name hf O X D L m V.o V.x V.d V.l I9.gm;have e:gE (s,⟨nb,l⟩,(p:Int),⟨nb,l⟩,(l.length:Int),(i:Int),rn,name,K,rO,rX,rD,rL,O,X,D,L,())=some (.inr (if dZ name m=0 then((name,O,X,D,L),0,0,()) else(Lx,0,dZ name m,()))):=by
    unfold gE
    simp only;rw[cd,if_neg om,cd,if_neg (by show ¬(p:Int)<(l.length:Int);omega),hc,af,wa];by_cases hz:dZ name m=0
    ·rw[zo hz,if_pos hz];rfl
    ·rw[zn hz,if_neg hz];rfl
   rw[bX e];by_cases hz:dZ name m=0
   ·rw[if_pos hz,if_pos hz];exact⟨_,0,0,rfl,rfl,rfl,⟨rfl,V.o,V.x,V.d,V.l⟩,fx,I9⟩
   ·rw[if_neg hz,if_neg hz];exact wc.err hz
 |succ w ih=>
  intro i p K O X D L m fx hi hp V I;have hm:i<l.length:=om
  have hx:=ze hm;rw[jk hm];show wc name (eb (bif uj l[i] then _ else _) _) _;have hg:(l.take i).drop p++[l[i]]=(l.take (i+1)).drop p:=by rw[List.take_add_one,hx,jf (by rw[zJ];omega)];rfl
  have hk:(aq (ai (ak l[i].1 6)) (some true) (some (ai (bx l[i].2.1 [59,59]))):Option Bool)=some (!uj l[i]):=by rw[wa,show bx l[i].2.1 [59,59]=decide (l[i].2.1=z35) from uk _ z35];unfold uj;cases decide (l[i].1=6)<;>cases decide (l[i].2.1=z35)<;>rfl
  cases hE:uj l[i] with
  |false=>
   have step:gE (s,⟨nb,l⟩,(p:Int),⟨nb,l⟩,(l.length:Int),(i:Int),rn,name,K,rO,rX,rD,rL,O,X,D,L,())=some (.inl (s,⟨nb,l⟩,(p:Int),⟨nb,l⟩,(l.length:Int),((i+1:Nat):Int),rn,name,K,rO,rX,rD,rL,O,X,D,L,())):=by
    unfold gE
    simp only;rw[cd,if_pos om,bR hx,af,hk,hE,af];simp only[Bool.not_false,aP];rw[af,Lw,aO (show i<=1000000000 by omega)]
   rw[dC step,cond_false,hg];exact ih (i+1) p K O X D L m fx om om V (I.mono (Nat.le_succ _))
  |true=>
   rw[cond_true];have ht:=hT l[i] (List.getElem_mem hm);have hq:s8 (s.length:Int) ((l.take i).drop p):=fun t h=>hT t (List.mem_of_mem_take (List.mem_of_mem_drop h));have hn:((l.take i).drop p).length<=900:=by rw[zD,zJ];omega
   obtain⟨a,e,K2,O2,X2,D2,L2,ho,he⟩:=z87 (nb:=nb) (name:=name) hn hq ht.2.1 ht.2.2 V I om;have HH:∀z,(aq (ai (ak e 0)) (some (.inr (.inr (Lx,a,e,())))) (some (.inl (s,⟨nb,l⟩,((i+1:Nat):Int),⟨nb,l⟩,(l.length:Int),(i:Int),rn,name,K2,rO,rX,rD,rL,O2,X2,D2,L2,()))):Option (OI⊕(OI⊕xK)))=some z->
     gE (s,⟨nb,l⟩,(p:Int),⟨nb,l⟩,(l.length:Int),(i:Int),rn,name,K,rO,rX,rD,rL,O,X,D,L,())=bT (fun x8=>some (.inl (x8.1,x8.2.1,x8.2.2.1,x8.2.2.2.1,x8.2.2.2.2.1,aA .i64 x8.2.2.2.2.2.1 1,x8.2.2.2.2.2.2.1,x8.2.2.2.2.2.2.2.1,x8.2.2.2.2.2.2.2.2.1,x8.2.2.2.2.2.2.2.2.2.1,x8.2.2.2.2.2.2.2.2.2.2.1,x8.2.2.2.2.2.2.2.2.2.2.2.1,x8.2.2.2.2.2.2.2.2.2.2.2.2.1,x8.2.2.2.2.2.2.2.2.2.2.2.2.2.1,x8.2.2.2.2.2.2.2.2.2.2.2.2.2.2.1,x8.2.2.2.2.2.2.2.2.2.2.2.2.2.2.2.1,x8.2.2.2.2.2.2.2.2.2.2.2.2.2.2.2.2.1,()))) z:=by
    intro z hz;unfold gE
    simp only;rw[cd,if_pos om,bR hx,af,hk,hE,af];simp only[Bool.not_true,aH];rw[z88 hp om,af,ho,af];simp only;rw[aO (show i<=1000000000 by omega)];exact(M8 hz _)
   cases hr:wX qF m fx ((l.take i).drop p) l[i].2.2.2 with
   |error q=>rw[hr] at he;obtain⟨h1,h2,h3⟩:=he;have st:=HH (.inr (.inr (Lx,a,e,()))) (by rw[eP h3];rfl);rw[bX st,h1,h2];exact wc.err (h2▸h3)
   |ok x=>rw[hr] at he;obtain⟨h1,rfl,V2,I2⟩:=he;have st:=HH (.inl (s,⟨nb,l⟩,((i+1:Nat):Int),⟨nb,l⟩,(l.length:Int),(i:Int),rn,name,K2,rO,rX,rD,rL,O2,X2,D2,L2,())) rfl;have st:gE (s,⟨nb,l⟩,(p:Int),⟨nb,l⟩,(l.length:Int),(i:Int),rn,name,K,rO,rX,rD,rL,O,X,D,L,())=some (.inl (s,⟨nb,l⟩,((i+1:Nat):Int),⟨nb,l⟩,(l.length:Int),aA .i64 (i:Int) 1,rn,name,K2,rO,rX,rD,rL,O2,X2,D2,L2,())):=st;rw[aO (show i<=1000000000 by omega)] at st;rw[dC st];have:=ih (i+1) (i+1) K2 O2 X2 D2 L2 x.1 x.2 om (Nat.le_refl _) V2 I2;have e0:(l.take (i+1)).drop (i+1)=[]:=zw (by rw[zJ];omega);rw[e0] at this;exact this
theorem qzw(b:Bool)(l:List ay)(hl:l.length<=1000000)(hb:b=true->l=[]):∃q,kU (⟨b,l⟩,())=some (⟨q,l⟩,())/\(q=true->l=[]):=by
 rw[Pg];cases b with
 |true=>rw[aP,hb rfl];exact⟨_,rfl,fun _=>rfl⟩
 |false=>rw[aH,fm (by simp only[aW,ae,List.length_nil];omega),af];refine⟨_,rfl,fun h=>?_⟩;cases h
theorem ql7(name:Tx)(hd:gT name)(s:Tx)(hs:s.length<=900)(hb:∀x,x∈s->0<=x/\x<=255)(b:Bool)(fx:List ay)(hg:gL fx)(hk:b=true->fx=[]):wc name (BK name s fx) (sT (name,s,⟨b,fx⟩,())):=by
 rw[ZD,MU b hg,af,wa];unfold BK;by_cases hz:eH fx=0
 ·rw[zo hz,if_neg (by simpa using hz)];simp only[ai,Bool.not_true,aH];rw[cd,if_neg (by show ¬(262144:Int)<(s.length:Int);omega)];have he:=z2w s om hb;have hf:wT 0 s.length (dT (s.length+1) s 0):=.inl om;obtain⟨c,hc⟩:=z2v s om hb hf;rw[hc,af];cases hj:dT (s.length+1) s 0 with
  |error q=>
   rw[hj] at he;have h2:q.2≠0:=by have:=he.2;omega
   show wc name (.error q) (aq (ai (ak q.2 0)) _ _);rw[eP h2];exact wc.err h2
  |ok l=>
   rw[hj] at he;obtain⟨h1,h2⟩:=he;show wc name (eb (mK qF l [] ⟨[],[],[],[]⟩ fx) _) (aq (ai (ak 0 0)) _ _);rw[fY];simp only[ai,Bool.not_true,aH];obtain⟨q,hq,hl⟩:=qzw b fx hg.2.2 hk;rw[hq,af];have hT:s8 (s.length:Int) l:=fun t ht=>by obtain⟨⟨q1,q2,q3⟩,q4,q5⟩:=h2 t ht;exact⟨⟨⟨q1,by omega⟩,q3⟩,q4,by omega⟩
   have:=quy name hd s c l om hs hT [] ⟨true,[]⟩ ⟨true,[]⟩ ⟨true,[]⟩ ⟨true,[]⟩ l.length 0 0 ⟨q,fx⟩ ⟨true,[]⟩ ⟨true,[]⟩ ⟨true,[]⟩ ⟨true,[]⟩ ⟨[],[],[],[]⟩ fx om (Nat.le_refl _) ⟨rfl,hl,rfl,rfl,rfl,rfl⟩
    ⟨Nat.le_refl _,Nat.le_refl _,Nat.le_refl _,Nat.le_refl _,hg,hz,⟨fun x hx=>absurd hx List.not_mem_nil,fun x hx=>absurd hx List.not_mem_nil,Nat.zero_le _⟩,fun x hx=>absurd hx List.not_mem_nil,fun x hx=>absurd hx List.not_mem_nil,fun x hx=>absurd hx List.not_mem_nil⟩
   exact this
 ·rw[zn hz,if_pos hz];exact wc.err hz
open Pz
theorem HI{α ρ:Type}(R:ρ):∀(l:List α) (k:Nat),scan (fun _ _=>none) R k l=R
 |[],_=>rfl
 |_::l,k=>HI R l (k+1)
theorem z53(b1 b2:Bool)(l:List ND)(hl:l.length<=1000000):pG (⟨b1,l⟩,⟨b2,l⟩,())=some (true,()):=by
 rw[ZJ];have e:ak (ae l) (ae l)=true:=fY _;simp only;rw[e];simp only[ai,Bool.not_true,aH];have:=lI tU (fun k=>(⟨b1,l⟩,⟨b2,l⟩,k,())) l hl (fun _ _=>none) (true,()) (fun k x hx hk=>by
  unfold tU;simp only[gS hx,aP,bR hx,af,fY,wF,aD,Bool.and_self,ai,Bool.not_true,aH];rw[aO (show k<=1000000000 by omega)]) (by
  unfold tU;simp only[gU,aH])
 rw[HI] at this;exact this
theorem za7(b1 b2:Bool)(l:List Tx)(hl:l.length<=1000000):vB (⟨b1,l⟩,⟨b2,l⟩,())=some (true,()):=by
 rw[ZI];have e:ak (ae l) (ae l)=true:=fY _;simp only;rw[e];simp only[ai,Bool.not_true,aH];have:=lI tT (fun k=>(⟨b1,l⟩,⟨b2,l⟩,k,())) l hl (fun _ _=>none) (true,()) (fun k x hx hk=>by
  unfold tT;simp only[gS hx,aP,bR hx,af,wF,ai,Bool.not_true,aH];rw[aO (show k<=1000000000 by omega)]) (by
  unfold tT;simp only[gU,aH])
 rw[HI] at this;exact this
theorem qzx(s:Sl (Sl ND))(hl:s.l.length<=1000000)(ht:∀t,t∈s.l->t.l.length<=1000000):sU (s,s,())=some (true,()):=by
 rw[ZK,fY];simp only[ai,Bool.not_true,aH];have:=lI tV (fun k=>(s,s,k,())) s.l hl (fun _ _=>none) (true,()) (fun k x hx hk=>by
  have hs:pG (x,x,())=some (true,()):=z53 x.nil x.nil x.l (ht x (zG hx));unfold tV;simp only[gS hx,aP,bR hx,af,hs,ai,Bool.not_true,aH];rw[aO (show k<=1000000000 by omega)]) (by
  unfold tV;simp only[gU,aH])
 rw[HI] at this;exact this
theorem z3o(b1 b2:Bool)(L:List DX){i:Nat}{d:DX}(hd:L[i]?=some d)(hi:i<=1000000)(hc:d.2.2.l.length<=1000000)(hg:∀c,c∈d.2.2.l->c.2.l.length<=1000000/\∀t,t∈c.2.l->t.l.length<=1000000):aM qg (⟨b1,L⟩,⟨b2,L⟩,(i:Int),0,())=some (.inl (⟨b1,L⟩,⟨b2,L⟩,((i+1:Nat):Int),())):=by
 have:=lI qg (fun k=>(⟨b1,L⟩,⟨b2,L⟩,(i:Int),k,())) d.2.2.l hc (fun _ _=>none) (.inl (⟨b1,L⟩,⟨b2,L⟩,((i+1:Nat):Int),())) (fun k x hx hk=>by
  obtain⟨g1,g2⟩:=hg x (zG hx);have hs:=qzx x.2 g1 g2;unfold qg;simp only[bR hd,af,gS hx,aP,bR hx,wF,hs,ai,Bool.not_true,aH];rw[aO (show k<=1000000000 by omega)]) (by
  unfold qg;simp only[bR hd,af,gU,aH];rw[aO (show i<=1000000000 by omega)])
 rw[HI] at this;exact this
theorem qzy(b1 b2:Bool)(L:List DX)(hL:GD L):vC (⟨b1,L⟩,⟨b2,L⟩,())=some (true,()):=by
 have hn:=hL.1;rw[ZL];have e:ak (ae L) (ae L)=true:=fY _;simp only;rw[e];simp only[ai,Bool.not_true,aH];have:=lI tW (fun k=>(⟨b1,L⟩,⟨b2,L⟩,k,())) L om (fun _ _=>none) (true,()) (fun k x hx hk=>by
  obtain⟨g1,g2,g3⟩:=hL.2 x (zG hx);have hs:=z3o b1 b2 L hx hk om (fun c hc=>by obtain⟨h1,h2,h3⟩:=g3 c hc;exact⟨by omega,fun t ht=>by have:=(h3 t ht).2;omega⟩);unfold tW;simp only[gS hx,aP,bR hx,af,wF,fY,ai,Bool.not_true,aH];exact hs) (by
  unfold tW;simp only[gU,aH])
 rw[HI] at this;exact this
theorem z3p(a:Bool):eU a a=true:=by cases a<;>rfl
theorem z3q{v w:MT}{name:Tx}{m:MX}(hv:Is v name m)(hw:Is w name m)(G:GM m):Bb (v,w,())=some (true,()):=by
 obtain⟨vn,vo,vx,vd,vl⟩:=v;obtain⟨wn,wo,wx,wd,wl⟩:=w;obtain⟨a1,a2,a3,a4,a5⟩:=hv;obtain⟨b1,b2,b3,b4,b5⟩:=hw;simp only at a1 a2 a3 a4 a5 b1 b2 b3 b4 b5;have hO:=G.o;have hX:=G.xg.2.2;have hL:=G.l;have s1:vB (vo,wo,())=some (true,()):=by
  have:=za7 vo.nil wo.nil m.opens om;rw[<-a2] at this;have e:(⟨wo.nil,vo.l⟩:Sl Tx)=wo:=by rw[a2,<-b2]
  rw[e] at this;exact this
 have s2:vC (vd,wd,())=some (true,()):=by
  have:=qzy vd.nil wd.nil m.aZ G.dg;rw[<-a4] at this;have e:(⟨wd.nil,vd.l⟩:Sl DX)=wd:=by rw[a4,<-b4]
  rw[e] at this;exact this
 have x1:vx.l.length=m.bc.length:=by rw[a3]
 have x2:wx.l.length=m.bc.length:=by rw[b3]
 have l1:vl.l.length=m.lets.length:=by rw[<-a5,zA]
 have l2:wl.l.length=m.lets.length:=by rw[<-b5,zA]
 have e1:ak (ae vx.l) (ae wx.l)=true:=cT.2 (by unfold ae;omega);have e2:ak (ae vl.l) (ae wl.l)=true:=cT.2 (by unfold ae;omega);rw[ZM,a1,b1,wF,s1,s2,e1,e2];simp only[ai,Bool.not_true,aH,af];have lets:aM qh (0,name,vo,vx,vd,vl,name,wo,wx,wd,wl,())=some (.inr (true,())):=by
  have:=lI qh (fun k=>(k,name,vo,vx,vd,vl,name,wo,wx,wd,wl,())) vl.l om (fun _ _=>none) (.inr (true,())) (fun k x hx hk=>by
   have hd:=vY hx;have hy:wl.l[k]?=some (wl.l[k]' om):=ze om;generalize (wl.l[k]' om)=y at hy;have hc:er x=er y:=by
    have q1:(vl.l.map er)[k]?=some (er x):=by rw[zV,hx];rfl
    have q2:(wl.l.map er)[k]?=some (er y):=by rw[zV,hy];rfl
    rw[a5,<-b5,q2] at q1;injection q1 with q1;exact q1.symm
   have hg:=G.lg (er x) (by rw[<-a5];exact List.mem_map_of_mem (zG hx));obtain⟨xn,xr,xb,xt⟩:=x;obtain⟨yn,yr,yb,yt⟩:=y;injection hc with q1 q2;injection q2 with q2 q3;simp only at q1 q2 q3;subst q1 q2 q3;have hs:=z53 xb yb xt (by have:=hg.2.2;show xt.length<=_;have h2:xt.length<=4000:=this;omega);unfold qh;simp only[gS hx,aP,bR hx,bR hy,af,wF,z3p,hs,ai,Bool.not_true,aH];rw[aO (show k<=1000000000 by omega)]) (by
   unfold qh;simp only[gU,aH])
  rw[HI] at this;exact this
 have bc:aM qi (0,name,vo,vx,vd,vl,name,wo,wx,wd,wl,())=some (true,()):=by
  have:=lI qi (fun k=>(k,name,vo,vx,vd,vl,name,wo,wx,wd,wl,())) vx.l om (fun _ _=>none) (true,()) (fun k x hx hk=>by
   have hy:wx.l[k]?=some x:=by rw[b3,<-a3];exact hx
   unfold qi;simp only[gS hx,aP,bR hx,bR hy,af,wF,fY,aD,Bool.and_self,ai,Bool.not_true,aH];rw[aO (show k<=1000000000 by omega)]) (by
   unfold qi;simp only[gU,aH];exact lets)
  rw[HI] at this;exact this
 exact bc
open Pz
theorem z3r(n:Bool)(l:List ay):∀(m k:Nat),k+m=21->k<=l.length->(∀j (h:j<l.length),j<k->l[j].1.length<=20)->∃r,aM MO (⟨n,l⟩,(k:Int),())=some (r,())/\(r=true->l.length<=20/\∀x,x∈l->x.1.length<=20):=by
 intro m
 induction m with
 |zero=>
  intro k hk hl hj;refine⟨bJ (ae l) 20,bX ?_,fun h=>?_⟩
  ·unfold MO;simp only;have e:aE (k:Int) 21=false:=zn om;rw[e];cases aE (k:Int) (ae l)<;>rfl
  ·have h:((l.length:Nat):Int)<=20:=jc h;omega
 |succ m ih=>
  intro k hk hl hj;have e:aE (k:Int) 21=true:=zo om;by_cases hd:k<l.length
  ·have hc:aE (k:Int) (ae l)=true:=zo (show(k:Int)<((l.length:Nat):Int) by omega);have step:MO (⟨n,l⟩,(k:Int),())=if 20<l[k].1.length then some (.inr (false,())) else some (.inl (⟨n,l⟩,((k+1:Nat):Int),())):=by
    unfold MO;simp only;rw[hc,aP,e,af,aP,bR (ze hd),af,cd,aO om];by_cases h:20<l[k].1.length
    ·rw[if_pos h,if_pos (show(20:Int)<ae l[k].1 by show(20:Int)<((l[k].1.length:Nat):Int);omega)]
    ·rw[if_neg h,if_neg (show ¬(20:Int)<ae l[k].1 by show ¬(20:Int)<((l[k].1.length:Nat):Int);omega)]
   by_cases h:20<l[k].1.length
   ·rw[if_pos h] at step;exact⟨false,bX step,(fun h=>by cases h)⟩
   ·rw[if_neg h] at step;rw[dC step];refine ih (k+1) om hd fun j h1 h2=>?_;rcases Nat.lt_or_eq_of_le (Nat.le_of_lt_succ h2) with h3|h3
    ·exact hj j h1 h3
    ·subst h3;omega
  ·have hc:aE (k:Int) (ae l)=false:=zn (show ¬(k:Int)<((l.length:Nat):Int) by omega);refine⟨bJ (ae l) 20,bX ?_,fun _=>⟨by omega,fun x hx=>?_⟩⟩
   ·unfold MO;simp only;rw[hc];rfl
   ·obtain⟨j,h1,h2⟩:=List.getElem_of_mem hx;rw[<-h2];exact hj j h1 om
theorem z3s(n:Bool)(l:List ay):∃r,O1 (⟨n,l⟩,())=some (r,())/\(r=true->l.length<=20/\∀x,x∈l->x.1.length<=20):=by rw[qpk];exact z3r n l 21 0 rfl (Nat.zero_le _) fun j _ h=>absurd h om
theorem zba{l:List ay}(hg:∀x,x∈l->gF x)(h1:l.length<=20)(h2:∀x,x∈l->x.1.length<=20):gL l:=⟨hg,fun x hx=>by have:=h2 x hx;omega,by omega⟩
theorem quz(n:Bool)(l:List ay)(h:l.length<=20):O3 (⟨n,l⟩,())=some (⟨false,l⟩,()):=by rw[qkr,fm (by show((0:Nat):Int)+((l.length:Nat):Int)<=_;omega),af];rfl
theorem z89:Us qF:=by
 intro fx b d e t h;have h:qE fx d e=.ok t:=h;show qE fx (d.map (dJ b)) (e+b)=.ok t;have es:ot fx (d.map (dJ b)) (e+b)=fV b (ot fx d e):=rfl;unfold qE at h ⊢;rw[es,z9o];cases hr:lE (ot fx d e) with
 |error q=>rw[hr] at h;cases h
 |ok z=>rw[hr] at h;exact h
theorem z8a{a b:Tx}{la lb:List Tk}(ha:dT (a.length+1) a 0=.ok la)(hb:dT (b.length+1) b 0=.ok lb):dT ((a++10::b).length+1) (a++10::b) 0=.ok (la++lb.map (dJ ((a.length:Int)+1))):=by
 have hN:(a++10::b).length=a.length+b.length+1:=by rw[zh,zf];omega
 have h1:=z7e (keyw:=oM) (rd:=kC) Ls b a.length a (Nat.le_refl _) (a.length+1) ((a++10::b).length+1) 0 la (Nat.lt_succ_self _) om ha;have h1:dT ((a++10::b).length+1) (a++10::b) 0=_:=h1;rw[h1];have h2:=Ue (inn:=fh) (sgn:=fM) (keyw:=oM) (rd:=kC) (a++10::b).length [10] b (0+(a.length:Int)) (qz8 b (.inr rfl));have h2:dG fh fM oM kC ((a++10::b).length+1) (10::b) (0+(a.length:Int))=dG fh fM oM kC ((a++10::b).length+1) b (0+(a.length:Int)+1):=h2;rw[h2,Qj (keyw:=oM) (rd:=kC) Ls b.length b (Nat.le_refl _) ((a++10::b).length+1) (b.length+1) (0+(a.length:Int)+1) om om];have h3:=qnu (inn:=fh) (sgn:=fM) (keyw:=oM) (rd:=kC) ((a.length:Int)+1) (b.length+1) b 0;have e:(0:Int)+(a.length:Int)+1=0+((a.length:Int)+1):=om
 have hb:dG fh fM oM kC (b.length+1) b 0=.ok lb:=hb;rw[e,h3,hb];rfl
theorem qss{name s:Tx}{fx:List ay}{m:MX}(h:BK name s fx=.ok m):eH fx=0/\∃l fx',dT (s.length+1) s 0=.ok l/\mK qF l [] ⟨[],[],[],[]⟩ fx=.ok ([],m,fx')/\dZ name m=0:=by
 unfold BK at h;by_cases hz:eH fx=0
 ·rw[if_neg (by simpa using hz)] at h;obtain⟨l,h1,h2⟩:=eI h;obtain⟨x,h3,h4⟩:=eI h2;obtain⟨cur,m',fx'⟩:=x;cases cur with
  |cons a c=>cases h4
  |nil=>
   have h4:(if dZ name m'=0 then Except.ok m' else .error (0,dZ name m'):PR MX)=.ok m:=h4;by_cases hc:dZ name m'=0
   ·rw[if_pos hc] at h4;injection h4 with h4;subst h4;exact⟨hz,l,fx',h1,h3,hc⟩
   ·rw[if_neg hc] at h4;cases h4
 ·rw[if_pos hz] at h;cases h
theorem z3t{name a b:Tx}{fx:List ay}{m n:MX}(hm:BK name a fx=.ok m)(hn:BK name b fx=.ok n)(hf:m.bc=[]):BK name (a++10::b) fx=.ok (cI m n)\/∃q,BK name (a++10::b) fx=.error q/\(q.2=240\/q.2=241):=by
 obtain⟨hz,la,f1,h1,h2,h3⟩:=qss hm;obtain⟨_,lb,f2,g1,g2,g3⟩:=qss hn;have e1:f1=fx:=by
  rcases ql4 la [] ⟨[],[],[],[]⟩ fx _ h2 with ⟨_,h⟩|h
  ·exact h
  ·have h:([]:List FX).length<m.bc.length:=h;rw[hf] at h;exact absurd h (Nat.lt_irrefl _)
 subst e1;unfold BK;rw[if_neg (by simpa using hz),z8a h1 g1];show eb (mK qF (la++lb.map (dJ ((a.length:Int)+1))) [] ⟨[],[],[],[]⟩ f1) _=_\/∃q,eb (mK qF (la++lb.map (dJ ((a.length:Int)+1))) [] ⟨[],[],[],[]⟩ f1) _=_/\_;rw[qh8,h2];have he:cI m ⟨[],[],[],[]⟩=m:=by obtain⟨o,x,d,l⟩:=m;simp only at hf;subst hf;unfold cI;simp only[zu]
 have hj:=qh9 z89 ((a.length:Int)+1) lb [] m ⟨[],[],[],[]⟩ f1 _ g2;rw[he] at hj;show eb (mK qF (lb.map (dJ ((a.length:Int)+1))) [] m f1) _=_\/∃q,eb (mK qF (lb.map (dJ ((a.length:Int)+1))) [] m f1) _=_/\_;have hd:([]:List Tk).map (dJ ((a.length:Int)+1))=[]:=rfl;rw[hd] at hj;rcases hj with hj|⟨p,hj⟩
 ·rw[hj];rcases qzv name (cI m n) with hc|hc|hc
  ·left;show(if dZ name (cI m n)=0 then Except.ok (cI m n) else .error (0,dZ name (cI m n)):PR MX)=_;rw[if_pos hc]
  ·right;refine⟨(0,dZ name (cI m n)),?_,.inl hc⟩;show(if dZ name (cI m n)=0 then Except.ok (cI m n) else .error (0,dZ name (cI m n)):PR MX)=_;rw[if_neg (by rw[hc];decide)]
  ·right;refine⟨(0,dZ name (cI m n)),?_,.inr hc⟩;show(if dZ name (cI m n)=0 then Except.ok (cI m n) else .error (0,dZ name (cI m n)):PR MX)=_;rw[if_neg (by rw[hc];decide)]
 ·rw[hj];exact .inr ⟨(p,240),rfl,.inl rfl⟩
open Pz
theorem z8b:ag (MN ()) (fun x4=>some (x4.1,()))=some (true,()):=by rw[qrv];rfl
theorem za8{α:Type}(n:Bool)(l:List ay)(t1 t2 t3:Bool)(X Y:Option α):∃r:Bool,(r=true->t1=false/\t2=false/\t3=false/\l.length<=20/\∀x,x∈l->x.1.length<=20)/\ag (aq (ai true) (some true) (some t1)) (fun x1=>ag (aq x1 (some true) (some t2)) (fun x2=>ag (aq x2 (some true) (some t3)) (fun x3=>ag (aq x3 (some true) (ag (O1 (⟨n,l⟩,())) (fun x4=>some (ai x4.1)))) (fun x5=>aq x5 X Y))))=if r=true then Y else X:=by
 obtain⟨r,h1,h2⟩:=z3s n l;rw[h1];cases t1 with
 |true=>exact⟨false,(fun h=>by cases h),rfl⟩
 |false=>
  cases t2 with
  |true=>exact⟨false,(fun h=>by cases h),rfl⟩
  |false=>
   cases t3 with
   |true=>exact⟨false,(fun h=>by cases h),rfl⟩
   |false=>
    cases r with
    |true=>exact⟨true,fun _=>⟨rfl,rfl,rfl,h2 rfl⟩,rfl⟩
    |false=>exact⟨false,(fun h=>by cases h),rfl⟩
theorem ql8{s:Tx}{k:Nat}(h:aE (k:Int) (ae s)=false):s.length<=k:=by have:¬(k:Int)<(s.length:Int):=of_decide_eq_false h;omega
theorem we(name a b:Tx)(hk:∀x,x∈name->0<=x/\x<=255)(hd:∀x,x∈a->0<=x/\x<=255)(he:∀x,x∈b->0<=x/\x<=255)(n:Bool)(l:List ay)(hg:∀x,x∈l->gF x):cD (name,a,b,⟨n,l⟩,())=some (true,()):=by
 rw[qeo,z8b,qrv,af];simp only;obtain⟨r,h1,h2⟩:=za8 n l (aE 100 (ae name)) (aE 400 (ae a)) (aE 400 (ae b)) (some (true,())) _;rw[h2];cases r with
 |false=>rw[if_neg dc]
 |true=>
  rw[if_pos rfl];obtain⟨k1,k2,k3,k4,k5⟩:=h1 rfl;have k1:name.length<=100:=ql8 k1;have k2:a.length<=400:=ql8 k2;have k3:b.length<=400:=ql8 k3;have hc:gT name:=⟨hk,by omega⟩;have gl:=zba hg k4 k5;rw[quz n l k4,af];obtain⟨v,p,e,hv,rv⟩:=ql7 name hc a om hd false l gl (fun h=>by cases h);rw[hv,af,af];obtain⟨w,p2,e2,hw,Uz⟩:=ql7 name hc b om he false l gl (fun h=>by cases h);rw[hw,af];simp only;cases hm:BK name a l with
  |error q=>rw[hm] at rv;rw[eP rv.2.2.1];rfl
  |ok m=>
   rw[hm] at rv;obtain⟨_,rfl,vI,fx,vV⟩:=rv;cases hn:BK name b l with
   |error q=>rw[hn] at Uz;rw[eP Uz.2.2.1];rfl
   |ok m2=>
    rw[hn] at Uz;obtain⟨_,rfl,wI,fx2,wV⟩:=Uz;have z:ag (aq (ai (ak 0 0)) (some true) (some (ai (ak 0 0)))) (fun nk=>ag (aq nk (some true) (some (aE 0 (ae v.2.2.1.l)))) (fun lG=>(some lG:Option Bool)))=some (decide (0<v.2.2.1.l.length)):=by show some (aE 0 (ae v.2.2.1.l))=_;exact congrArg some (decide_eq_decide.2 (by unfold ae;omega))
    by_cases hf:m.bc=[]
    ·have z2:aE 0 (ae v.2.2.1.l)=false:=by rw[vI.x,hf];rfl
     have c1:∀{β:Type} (k:Bool->Option β),ag (aq (ai (ak 0 0)) (some true) (some (ai (ak 0 0)))) (fun nk=>ag (aq nk (some true) (some (aE 0 (ae v.2.2.1.l)))) k)=k false:=by intro β k;rw[z2];rfl
     rw[c1,aH];have s1:fit (aW (ae a) (ae ([10]:Tx)))=some ():=fm (by show(a.length:Int)+1<=_;omega);have s2:fit (aW (ae (CE a [10])) (ae b))=some ():=fm (by
      show(((a++[10]).length:Nat):Int)+(b.length:Int)<=_;rw[zh,List.length_singleton];omega)
     rw[s1,af,s2,af,af];have ec:CE (CE a [10]) b=a++10::b:=by show(a++[10])++b=_;rw[zC];rfl
     have hl:∀x,x∈a++10::b->0<=x/\x<=255:=fun x hx=>by
      rcases zL.1 hx with hx|hx
      ·exact hd x hx
      ·rcases zt.1 hx with rfl|hx
       ·decide
       ·exact he x hx
     obtain⟨u,p3,e3,hu,ru⟩:=ql7 name hc (a++10::b) (by rw[zh,zf];omega) hl false l gl (fun h=>by cases h);rw[ec,hu,af];rcases z3t hm hn hf with hj|⟨q,hj,hq⟩
     ·rw[hj] at ru;obtain⟨_,rfl,uI,fx3,uV⟩:=ru;simp only;rw[fY];simp only[ai,Bool.not_true,aH];have go:=vV.go;have go2:=wV.go;have gd:=vV.gd;have gd2:=wV.gd;have gl1:=vV.gl;have gl2:=wV.gl;have lv:v.2.2.2.2.l.length=m.lets.length:=by rw[<-vI.l,zA]
      have lw:w.2.2.2.2.l.length=m2.lets.length:=by rw[<-wI.l,zA]
      have f1:fit (aW (ae ([]:List Tx)) (ae v.2.1.l))=some ():=fm (by show(0:Int)+(v.2.1.l.length:Int)<=_;rw[vI.o];omega);have f2:fit (aW (ae (app ([]:List Tx) v.2.1.l)) (ae w.2.1.l))=some ():=fm (by show(v.2.1.l.length:Int)+(w.2.1.l.length:Int)<=_;rw[vI.o,wI.o];omega);have f3:fit (aW (ae ([]:List DX)) (ae v.2.2.2.1.l))=some ():=fm (by show(0:Int)+(v.2.2.2.1.l.length:Int)<=_;rw[vI.d];omega);have f4:fit (aW (ae (app ([]:List DX) v.2.2.2.1.l)) (ae w.2.2.2.1.l))=some ():=fm (by show(v.2.2.2.1.l.length:Int)+(w.2.2.2.1.l.length:Int)<=_;rw[vI.d,wI.d];omega);have f5:fit (aW (ae ([]:List LY)) (ae v.2.2.2.2.l))=some ():=fm (by show(0:Int)+(v.2.2.2.2.l.length:Int)<=_;omega);have f6:fit (aW (ae (app ([]:List LY) v.2.2.2.2.l)) (ae w.2.2.2.2.l))=some ():=fm (by show(v.2.2.2.2.l.length:Int)+(w.2.2.2.2.l.length:Int)<=_;omega);rw[f1,af,f2,af,f3,af,f4,af,f5,af,f6,af];have gm:GM (cI m m2):=uV.gm;have all:Is (name,⟨aD (aD true (ch v.2.1.l)) (ch w.2.1.l),app (app ([]:List Tx) v.2.1.l) w.2.1.l⟩,w.2.2.1,⟨aD (aD true (ch v.2.2.2.1.l)) (ch w.2.2.2.1.l),app (app ([]:List DX) v.2.2.2.1.l) w.2.2.2.1.l⟩,⟨aD (aD true (ch v.2.2.2.2.l)) (ch w.2.2.2.2.l),app (app ([]:List LY) v.2.2.2.2.l) w.2.2.2.2.l⟩) name (cI m m2):=by
       refine⟨rfl,?_,wI.x,?_,?_⟩
       ·show app (app ([]:List Tx) v.2.1.l) w.2.1.l=m.opens++m2.opens;rw[kB,kB,vI.o,wI.o];rfl
       ·show app (app ([]:List DX) v.2.2.2.1.l) w.2.2.2.1.l=m.aZ++m2.aZ;rw[kB,kB,vI.d,wI.d];rfl
       ·show(app (app ([]:List LY) v.2.2.2.2.l) w.2.2.2.2.l).map er=m.lets++m2.lets;rw[kB,kB,<-vI.l,<-wI.l,<-zP];rfl
      have hs:=z3q uI all gm;have hs:Bb ((u.1,u.2.1,u.2.2.1,u.2.2.2.1,u.2.2.2.2),_,())=_:=hs;rw[hs];rfl
     ·rw[hj] at ru;obtain⟨h1,h2,h3,h4⟩:=ru;simp only;rw[eP h3];simp only[ai,Bool.not_false,aP];rcases hq with hq|hq
      ·rw[h2,hq];rfl
      ·rw[h2,hq];rfl
    ·have z2:aE 0 (ae v.2.2.1.l)=true:=zo (by
      show(0:Int)<((v.2.2.1.l.length:Nat):Int);rw[vI.x];have:=List.length_pos_iff.2 hf;omega)
     have c1:∀{β:Type} (k:Bool->Option β),ag (aq (ai (ak 0 0)) (some true) (some (ai (ak 0 0)))) (fun nk=>ag (aq nk (some true) (some (aE 0 (ae v.2.2.1.l)))) k)=k true:=by intro β k;rw[z2];rfl
     rw[c1,aP]
theorem ow{s:List Int}(h:fk .str s):∀b,b∈s->0<=b/\b<=255:=fun b hb=>by have:=h.2 b hb;omega
theorem Gk{x:ay}(h:fk (.st (.pair .str (.pair (.int .i64) (.int .i64)))) x):gF x:=by obtain⟨⟨h2,h3⟩,h1,h4⟩:=h;exact⟨fun b hb=>by have:=h3 b hb;omega,h2,tI.1 h1,tI.1 h4⟩
end Fn
end Ev