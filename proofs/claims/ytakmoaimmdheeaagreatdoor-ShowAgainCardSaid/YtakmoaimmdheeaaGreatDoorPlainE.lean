/- What is shown is lexed and parsed as what it was. No statement of its own about the program. -/
import Derived.Test.YtakmoaimmdheeaaGreatDoorPlainD
namespace Ev
open Go
namespace Fn
open Pz
def CL(t:Tk):T3:=(t.1,t.2.1,t.2.2.1)
def fA(s:Tx)(ts:List T3):Prop:=∀(f:Nat) (a:Int),s.length<f->∃l,eE f s a=.ok l/\l.map CL=ts
theorem fA.nil:fA [] []:=fun f a h=>by obtain⟨g,rfl⟩:∃g,f=g+1:=⟨f-1,by omega⟩;exact⟨[],rfl,rfl⟩
theorem fA.blank{c:Int}{s:Tx}{ts:List T3}(hc:c=32\/c=10)(h:fA s ts):fA (c::s) ts:=fun f a hf=>by obtain⟨g,rfl⟩:∃g,f=g+1:=⟨f-1,by omega⟩;have hf:s.length+1<g+1:=hf;have e:=UK (inn:=eW) (sgn:=df) (keyw:=fB) (rd:=gV) g [c] s a (z00 s hc);obtain⟨l,h1,h2⟩:=h (g+1) (a+((1:Nat):Int)) om;exact⟨l,Eq.trans e h1,h2⟩
theorem fA.tok{p z:Tx}{t:T3}{ts:List T3}(hp:p≠[])(hb:Pz.blank false (p++z)=0)(h1:iF (p++z)=(t,p.length,0))(h:fA z ts):fA (p++z) (t::ts):=fun f a hf=>by
 obtain⟨g,rfl⟩:∃g,f=g+1:=⟨f-1,by omega⟩;have hl:1<=p.length:=by
  cases p with
  |nil=>exact absurd rfl hp
  |cons _ _=>exact Nat.le_add_left _ _
 rw[zd] at hf;obtain⟨l,e1,e2⟩:=h g (a+((0:Nat):Int)+((p.length:Nat):Int)) om;refine⟨yN t (a+((0:Nat):Int))::l,?_,by rw[zJ,e2];rfl⟩;have h1:one eW df fB gV (p++z)=(t,p.length,0):=h1;unfold eE iE;rw[hb,List.drop_zero,if_neg (by cases p with|nil=>exact absurd rfl hp|cons _ _=>exact fun e=>by cases e),h1,if_neg (by exact fun e=>e rfl),List.drop_left];show eb (eE g z _) _=_;rw[e1];rfl
def Sep(z:Tx):Prop:=∀c,z.head?=some c->c=32\/c=10\/c=41
theorem Sep.nil:Sep []:=fun _ h=>by cases h
theorem Sep.cons{c:Int}(z:Tx)(h:c=32\/c=10\/c=41):Sep (c::z):=fun d e=>by injection e with e;subst e;exact h
theorem Sep.app{a b:Tx}(ha:Sep a)(hb:Sep b):Sep (a++b):=by
 cases a with
 |nil=>exact hb
 |cons c a=>exact fun d e=>ha d e
def LX(s:Tx)(ts:List T3):Prop:=∀z us,Sep z->fA z us->fA (s++z) (ts++us)
def LO(s:Tx)(ts:List T3):Prop:=∀z us,fA z us->fA (s++z) (ts++us)
theorem LO.lx{s:Tx}{ts:List T3}(h:LO s ts):LX s ts:=fun z us _ hz=>h z us hz
theorem LX.nil:LO [] []:=fun _ _ h=>h
theorem LX.app{a b:Tx}{s t:List T3}(ha:LX a s)(hb:LX b t)(hs:Sep b):LX (a++b) (s++t):=fun z us hz h=>by rw[zo,zo];exact ha _ _ (hs.app hz) (hb z us hz h)
theorem LO.app{a b:Tx}{s t:List T3}(ha:LO a s)(hb:LX b t):LX (a++b) (s++t):=fun z us hz h=>by rw[zo,zo];exact ha _ _ (hb z us hz h)
theorem LX.whole{s:Tx}{ts:List T3}(h:LX s ts):fA s ts:=by
 have:=h [] [] Sep.nil fA.nil
 rwa [zt,zt] at this
theorem LX.text{s s':Tx}{ts ts':List T3}(h:LX s ts)(e:s=s')(e2:ts=ts'):LX s' ts':=by subst e;subst e2;exact h
theorem LO.sp{c:Int}(h:c=32\/c=10):LO [c] []:=fun _ _ hz=>fA.blank h hz
theorem LO.bl:∀{s:Tx},(∀c,c∈s->c=32\/c=10)->LO s []
 |[],_=>LX.nil
 |_::_,h=>fun z us hz=>fA.blank (h _ (zf ..)) (LO.bl (fun c hc=>h c (zh _ hc)) z us hz)
theorem OR{p:Int->Bool}(hc:p 32=false)(he:p 10=false)(hf:p 41=false):∀(s:Tx),s.all p=true->∀z,Sep z->dZ p (s++z)=s.length
 |[],_,z,hz=>by
  cases z with
  |nil=>rfl
  |cons c z=>
   have:p c=false:=by rcases hz c rfl with rfl|rfl|rfl<;>assumption
   show dZ p (c::z)=0;unfold dZ;rw[this];rfl
 |b::s,h,z,hz=>by rw[List.all_cons,ze] at h;show dZ p (b::(s++z))=s.length+1;unfold dZ;rw[h.1,OR hc he hf s h.2 z hz];rfl
theorem Ld{c:Int}(l:Tx)(h:36<=c\/c=33\/c=34):Pz.blank false (c::l)=0:=z01 l om om
theorem Vn{b:Int}{s:Tx}(hb:oJ b=true\/uU b=true)(h:(b::s).all eW=true):LX (b::s) [((bif fB (b::s) then 6 else(bif oJ b then 1 else 2)),b::s,0)]:=fun z us hz h2=>by
 have hr:65<=b:=by unfold oJ uU at hb;simp only[ze,decide_eq_true_eq] at hb;omega
 refine fA.tok (fun e=>by cases e) (Ld _ (.inl om)) ?_ h2;have hc:=OR (p:=eW) rfl rfl rfl (b::s) h z hz;show fL eW df fB gV b (s++z)=_;have hc:dZ eW (b::(s++z))=s.length+1:=hc;have he:(b::(s++z)).take (s.length+1)=b::s:=by show(b::s++z).take (b::s).length=_;rw[List.take_left'];rfl
 unfold fL jv;rw[hc,he];cases hs:oJ b with
 |true=>rw[cond_true,cond_true];rfl
 |false=>
  rcases hb with hb|hb
  ·rw[hs] at hb;cases hb
  ·rw[hb,cond_false,cond_true,cond_false];rfl
theorem z12{s:Tx}(h:oD s=true):LX s [((bif fB s then 6 else 5),s,0)]:=fun z us hz h2=>by
 cases s with
 |nil=>cases h
 |cons b s=>
  unfold oD at h;rw[ze] at h;have h:=h.2;have he:=OR (p:=df) rfl rfl rfl (b::s) h z hz;have hc:b∈bN:=by rw[List.all_cons,ze,decide_eq_true_eq] at h;exact h.1
  have hr:(36<=b\/b=33\/b=34)/\oJ b=false/\uU b=false:=by unfold bN at hc;simp only[zw,List.not_mem_nil,or_false] at hc;rcases hc with e|e|e|e|e|e|e|e|e|e|e|e|e|e|e|e<;>subst e<;>decide
  refine fA.tok (fun e=>by cases e) (Ld _ hr.1) ?_ h2;show fL eW df fB gV b (s++z)=_;have he:dZ df (b::(s++z))=s.length+1:=he;have hf:(b::(s++z)).take (s.length+1)=b::s:=by show(b::s++z).take (b::s).length=_;rw[List.take_left'];rfl
  have hg:df b=true:=zu hc;unfold fL jv;rw[he,hf,hr.2.1,hr.2.2,hg];rfl
theorem GU{b:Int}(h:b=40\/b=41\/b=95):LO [b] [(6,[b],0)]:=fun z us h2=>by
 refine fA.tok (fun e=>by cases e) (Ld _ om) ?_ h2;show fL eW df fB gV b z=_;rcases h with rfl|rfl|rfl
 ·show jv fB 1 6 (40::z)=_;unfold jv;show((bif fB [40] then(6:Int) else 6,[(40:Int)],(0:Int)),1,(0:Int))=_;cases fB [40]<;>rfl
 ·show jv fB 1 6 (41::z)=_;unfold jv;show((bif fB [41] then(6:Int) else 6,[(41:Int)],(0:Int)),1,(0:Int))=_;cases fB [41]<;>rfl
 ·show jv fB 1 6 (95::z)=_;unfold jv;show((bif fB [95] then(6:Int) else 6,[(95:Int)],(0:Int)),1,(0:Int))=_;cases fB [95]<;>rfl
def cG(s:Tx):T3:=(6,s,0)
theorem zco{b:Int}{s:Tx}(hb:oJ b=true)(h:(b::s).all eW=true)(hk:fB (b::s)=true):LX (b::s) [cG (b::s)]:=by have:=Vn (.inl hb) h;rw[hk] at this;exact this
theorem OS{s:Tx}(h:oD s=true)(hk:fB s=true):LX s [cG s]:=by have:=z12 h;rw[hk] at this;exact this
def jw(t:Tx):List T3:=bif da t then [cG [40],(5,t,0),cG [41]] else [(1,t,0)]
theorem zb9{t:Tx}(h:da t=true):LX t [(5,t,0)]:=by
 unfold da at h;rw[ze] at h;have hk:fB t=false:=by
  have:=h.2;unfold fB;cases hd:decide (t∈uL) with
  |false=>rfl
  |true=>rw[hd] at this;cases this
 have:=z12 h.1;rw[hk] at this;exact this
theorem qu3{p:Int->Bool}{t:Tx}(h:vB p t=true):∃b s,t=b::s/\p b=true/\(b::s).all eW=true/\fB (b::s)=false:=by
 unfold vB at h;simp only[ze,Bool.not_eq_true'] at h;obtain⟨⟨⟨h1,h2⟩,h3⟩,h4⟩:=h;cases t with
 |nil=>cases h2
 |cons b s=>exact⟨b,s,rfl,h3,h1,h4⟩
theorem z65{t:Tx}(h:qB t=true):LX t [(2,t,0)]:=by
 obtain⟨b,s,rfl,h1,h2,h3⟩:=qu3 h;have hg:uU b=true:=h1;have hs:oJ b=false:=by unfold uU at hg;unfold oJ;simp only[ze,decide_eq_true_eq] at hg;rw[zn (show ¬97<=b by omega)];rfl
 have:=Vn (.inr hg) h2;rw[h3,hs] at this;exact this
theorem Vo{t:Tx}(h:aS t=true):LX (nI t) (jw t):=by
 unfold nI jw;cases ho:da t with
 |true=>rw[cond_true,cond_true];have h1:=(GU (b:=40) (.inl rfl)).app (zb9 ho);exact h1.app (GU (b:=41) (.inr (.inl rfl))).lx (Sep.cons _ (.inr (.inr rfl)))
 |false=>rw[cond_false,cond_false];unfold aS at h;rw[ho,Bool.or_false] at h;obtain⟨b,s,rfl,h1,h2,h3⟩:=qu3 h;have h1:oJ b=true:=h1;have:=Vn (.inl h1) h2;rw[h3,h1] at this;exact this
open Pz
theorem OT:∀(f u:Nat),∀b,b∈dL f u->48<=b/\b<=57
 |0,_,b,h=>by cases h
 |f+1,u,b,h=>by
  unfold dL at h;split at h
  ·rename_i hu;rw[zK] at h;omega
  ·rcases zN.1 h with h|h
   ·exact OT f _ b h
   ·rw[zK] at h;omega
theorem z9b(f u:Nat):dL (f+1) u≠[]:=by
 unfold dL;split
 ·exact fun e=>by cases e
 ·exact fun e=>by have:=congrArg List.length e;rw[zd] at this;exact absurd this (Nat.succ_ne_zero _)
theorem qpc(s:Tx)(bl:Bool){r:Tx}(hr:∀b,b∈r->0<=b/\b<=255){k:Nat}{n d:Int}(hk:r[k]?=some (48+d))(hd:0<=d/\d<=9)(hn:-461168601842738790<=n/\n<=0):aX fp (s,bl,n,r,(k:Int),())=aX fp (s,bl,10*n-d,r,((k+1:Nat):Int),()):=by
 obtain⟨he,hg⟩:=zF.1 hk;have hc:(k:Int)<ae r:=by show(k:Int)<((r.length:Nat):Int);omega
 obtain⟨b1,b2⟩:=(KJ hr he).1 om;rw[hg] at b1;refine ew ?_;unfold fp;simp only;rw[bP,if_pos hc,bP,if_pos hc,af,b1,b2,bP,if_neg om];have e:aK 57 (48+d)=false:=zn om;have e2:aK n (-461168601842738790)=false:=zn om;have e3:bU .i32 (48+d) 48=d:=by
  show IntKind.i32.wrap (48+d-48)=d;have:(48+d-48:Int)=d:=om
  rw[this];have:d=0\/d=1\/d=2\/d=3\/d=4\/d=5\/d=6\/d=7\/d=8\/d=9:=om
  rcases this with rfl|rfl|rfl|rfl|rfl|rfl|rfl|rfl|rfl|rfl<;>rfl
 have e4:fS .i64 d=d:=by
  have:d=0\/d=1\/d=2\/d=3\/d=4\/d=5\/d=6\/d=7\/d=8\/d=9:=om
  rcases this with rfl|rfl|rfl|rfl|rfl|rfl|rfl|rfl|rfl|rfl<;>rfl
 have e5:mq .i64 10 n=10*n:=z2y om om;rw[e,af,aD,e2,af,aD,e3,e4,e5,nv om om]
theorem Vp(s:Tx)(bl:Bool){r:Tx}(hr:∀b,b∈r->0<=b/\b<=255):∀(f u:Nat) (pre post:Tx),r=pre++(dL f u++post)->u<10 ^ f->u<=4611686018427387904->aX fp (s,bl,0,r,(pre.length:Int),())=aX fp (s,bl,-(u:Int),r,((pre.length+(dL f u).length:Nat):Int),())
 |0,u,pre,post,_,hu,_=>by
  have:u=0:=om
  subst this;rfl
 |f+1,u,pre,post,e,hu,hb=>by
  unfold dL at e ⊢;by_cases h:u<10
  ·rw[if_pos h] at e ⊢;have hk:r[pre.length]?=some (48+(u:Int)):=by rw[e,zG (Nat.le_refl _),Nat.sub_self];rfl
   rw[qpc s bl hr hk om ⟨by decide,by decide⟩];have:(10*0-(u:Int))=-(u:Int):=om
   rw[this];rfl
  ·rw[if_neg h] at e ⊢;have hp:10 ^ (f+1)=10*10 ^ f:=by rw[Nat.pow_succ,Nat.mul_comm]
   rw[zo] at e;rw[Vp s bl hr f (u / 10) pre _ e om om];have hk:r[pre.length+(dL f (u / 10)).length]?=some (48+((u % 10:Nat):Int)):=by rw[e,<-zo,zG (by rw[zd];exact Nat.le_refl _),zd,Nat.sub_self];rfl
   rw[qpc s bl hr hk om om];have e1:10*-((u / 10:Nat):Int)-((u % 10:Nat):Int)=-(u:Int):=om
   rw[e1,zd,Nat.add_assoc];rfl
theorem qu4{n v:Int}(bl:Bool){r:Tx}(hw:oG n=true)(hv:(bif bl then v else bU .i64 0 v)=n):aX fp (fi n,bl,v,r,((r.length:Nat):Int),())=some (n,0,()):=by
 have hc:¬((r.length:Nat):Int)<ae r:=by show ¬((r.length:Nat):Int)<((r.length:Nat):Int);omega
 have he:=zM hw;have c1:aK 4611686018427387903 n=false:=zn om;have c2:aK n (-4611686018427387904)=false:=zn om;refine cw ?_;unfold fp;simp only;rw[bP,if_neg hc];cases bl with
 |true=>have hv:v=n:=hv;subst hv;simp only[av,Bool.not_true,aD,af,c1,c2,OE hw,Nz]
 |false=>have hv:bU .i64 0 v=n:=hv;simp only[av,Bool.not_false,aU,af,hv,c1,c2,aD,OE hw,Nz,Bool.not_true]
theorem Vq(s:Tx):pX (s,[126],())=some (match s with|126::l=>(l,true,())|_=>(s,false,())):=by
 rw[Kn,Km,Fe];have e1:ae ([126]:Tx)=((1:Nat):Int):=rfl;rw[e1,EU];cases s with
 |nil=>rw[if_neg (by show ¬((1:Nat):Int)<=((0:Nat):Int);omega)];rfl
 |cons b l=>
  have hc:cf (b::l) ((1:Nat):Int) (ae (b::l))=some l:=by unfold cf ae;rw[if_pos (by rw[zj];omega)];simp
  rw[if_pos (by show((1:Nat):Int)<=((l.length+1:Nat):Int);omega),DQ (k:=1) (by rw[zj];omega),af,af,af,tZ];have e2:eU (List.take 1 (b::l)) [126]=decide (b=126):=by
   show(([b]:List Int)==[126])=_;by_cases h:b=126
   ·rw[zu h,h];rfl
   ·rw[zn h];exact beq_eq_false_iff_ne.2 (fun e=>h (by injection e))
  rw[e2];by_cases h:b=126
  ·subst h;rw[zu rfl,aU,hc];rfl
  ·rw[zn h,aD];simp only[af];split
   ·rename_i e;injection e with e _;exact absurd e h
   ·rfl
theorem z4t{n:Int}(hw:oG n=true):gV (fi n)=(n,0):=by
 have hf:=zM hw;have main:oy (fi n,())=some (n,0,()):=by
  rw[Ko,Vq];have p20:(10:Nat) ^ 20=100000000000000000000:=rfl;have hb:∀u:Nat,∀b,b∈dL 20 u->0<=b/\b<=255:=fun u b h=>by have:=OT _ _ b h;omega
  by_cases h:n<0
  ·have he:fi n=126::dL 20 n.natAbs:=by rw[OF,if_pos h]
   have h1:=Vp (fi n) true (hb n.natAbs) 20 n.natAbs [] [] (by rw[zt];rfl) (by rw[p20];omega) om;have h2:=qu4 (n:=n) (v:=-(n.natAbs:Int)) true (r:=dL 20 n.natAbs) hw (by show -(n.natAbs:Int)=n;omega);rw[show((([]:Tx).length:Nat):Int)=0 from rfl,show([]:Tx).length+(dL 20 n.natAbs).length=(dL 20 n.natAbs).length from zD _,h2] at h1
   conv=>lhs;arg 1;rw[he]
   rw[af];exact h1
  ·have he:fi n=dL 20 n.toNat:=by rw[OF,if_neg h]
   have h1:=Vp (fi n) false (hb n.toNat) 20 n.toNat [] [] (by rw[zt];rfl) (by rw[p20];omega) om;have h2:=qu4 (n:=n) (v:=-(n.toNat:Int)) false (r:=dL 20 n.toNat) hw (by show bU .i64 0 (-(n.toNat:Int))=n;rw[nv om om];omega);rw[show((([]:Tx).length:Nat):Int)=0 from rfl,show([]:Tx).length+(dL 20 n.toNat).length=(dL 20 n.toNat).length from zD _,h2] at h1;have hc:∀l,fi n≠126::l:=fun l e=>by rw[he] at e;have:=OT 20 n.toNat 126 (by rw[e];exact zf ..);omega
   have hm:(match fi n with|126::l=>((l,true,()):Y2×Bool×Unit)|_=>(fi n,false,()))=(fi n,false,()):=by
    split
    ·rename_i l e;exact absurd e (hc l)
    ·rfl
   rw[hm,af];simp only
   conv=>lhs;arg 2;arg 2;arg 2;arg 2;arg 1;rw[he]
   exact h1
 unfold gV;rw[main]
theorem z66{n:Int}(hw:oG n=true):LX (fi n) [(3,[],n)]:=fun z us hz h2=>by
 have key:∀(c:Int) (l:Tx),fi n=c::l->(gC c=true\/c=126)->l.all gC=true->fA (fi n++z) ([(3,[],n)]++us):=fun c l e hc hl=>by
  have hr:(48<=c/\c<=57)\/c=126:=by
   rcases hc with hc|hc
   ·unfold gC at hc;simp only[ze,decide_eq_true_eq] at hc;exact .inl hc
   ·exact .inr hc
  refine fA.tok (fun e2=>by rw[e] at e2;cases e2) (by rw[e];exact Ld _ (.inl om)) ?_ h2;have hf:=z4t hw;rw[e] at hf ⊢;show fL eW df fB gV c (l++z)=_;have hg:=OR (p:=gC) rfl rfl rfl l hl z hz;have hj:(c::(l++z)).take (1+l.length)=c::l:=by rw[Nat.add_comm];show(c::l++z).take (c::l).length=_;rw[List.take_left'];rfl
  have hs:oJ c=false/\uU c=false/\df c=false/\(decide (c=40)||(decide (c=41)||decide (c=95)))=false/\decide (c=59)=false:=by
   have:c=48\/c=49\/c=50\/c=51\/c=52\/c=53\/c=54\/c=55\/c=56\/c=57\/c=126:=om
   rcases this with rfl|rfl|rfl|rfl|rfl|rfl|rfl|rfl|rfl|rfl|rfl<;>decide
  have hd:(gC c||decide (c=126))=true:=by
   rcases hc with hc|hc
   ·rw[hc];rfl
   ·rw[zu hc,Bool.or_true]
  unfold fL;rw[hs.1,hs.2.1,hs.2.2.1,hs.2.2.2.1,hs.2.2.2.2,hd,hg,hj,hf,Nat.add_comm];rfl
 have dg:∀u,(dL 20 u).all gC=true:=fun u=>zU.2 fun b hb=>by have:=OT _ _ b hb;unfold gC;rw[zu this.1,zu this.2];rfl
 by_cases h:n<0
 ·exact key 126 (dL 20 n.natAbs) (by rw[OF,if_pos h]) (.inr rfl) (dg _)
 ·have he:fi n=dL 20 n.toNat:=by rw[OF,if_neg h]
  have hd:=dg n.toNat
  cases hl:dL 20 n.toNat with
  |nil=>exact absurd hl (z9b 19 _)
  |cons c l=>rw[hl,List.all_cons,ze] at hd;exact key c l (by rw[he,hl]) (.inl hd.1) hd.2
open Pz
theorem z67{n:Int}(h:0<=n/\n<16):cN (gD n)=n:=by
 have:n=0\/n=1\/n=2\/n=3\/n=4\/n=5\/n=6\/n=7\/n=8\/n=9\/n=10\/n=11\/n=12\/n=13\/n=14\/n=15:=om
 rcases this with rfl|rfl|rfl|rfl|rfl|rfl|rfl|rfl|rfl|rfl|rfl|rfl|rfl|rfl|rfl|rfl<;>rfl
theorem zcp(l b:Tx)(i:Nat):qt (34::l) b i=(b,i+1):=by unfold qt;rw[if_pos rfl]
theorem zba{c:Int}(h:32<=c/\c<=126)(h1:c≠34)(h2:c≠92)(l b:Tx)(i:Nat):qt (c::l) b i=qt l (b++[c]) (i+1):=by
 conv=>lhs;unfold qt
 rw[if_neg h1,if_neg om,if_pos h2]
theorem zcq{d:Int}(h:d=34\/d=92)(l b:Tx)(i:Nat):qt (92::d::l) b i=qt l (b++[d]) (i+2):=by
 conv=>lhs;unfold qt
 rw[if_neg dc,if_neg dc,if_neg dc];show(if d=34\/d=92 then _ else _)=_;rw[if_pos h]
theorem Vr(l b:Tx)(i:Nat):qt (92::110::l) b i=qt l (b++[10]) (i+2):=by
 conv=>lhs;unfold qt
 rw[if_neg dc,if_neg dc,if_neg dc];show(if(110:Int)=34\/(110:Int)=92 then _ else _)=_;rw[if_neg dc,if_pos rfl]
theorem Vs{x y:Int}(hx:0<=cN x)(hy:0<=cN y)(l b:Tx)(i:Nat):qt (92::120::x::y::l) b i=qt l (b++[16*cN x+cN y]) (i+4):=by
 conv=>lhs;unfold qt
 rw[if_neg dc,if_neg dc,if_neg dc];show(if(120:Int)=34\/(120:Int)=92 then _ else _)=_;rw[if_neg dc,if_neg dc,if_pos rfl];show(if cN x<0\/cN y<0 then _ else _)=_;rw[if_neg om]
theorem z9c{c:Int}(h:0<=c/\c<=255)(l b:Tx)(i:Nat):qt (eB c++l) b i=qt l (b++[c]) (i+(eB c).length):=by
 unfold eB;by_cases h1:c=34\/c=92
 ·rw[if_pos h1];exact zcq h1 l b i
 rw[if_neg h1];by_cases h2:c=10
 ·rw[if_pos h2,h2];exact Vr l b i
 rw[if_neg h2];by_cases h3:c<32\/126<c
 ·rw[if_pos h3];have e1:=z67 (n:=c / 16) om;have e2:=z67 (n:=c % 16) om;have e:=Vs (x:=gD (c / 16)) (y:=gD (c % 16)) om om l b i;rw[e1,e2,show 16*(c / 16)+c % 16=c by omega] at e;exact e
 ·rw[if_neg h3];exact zba om (fun e=>h1 (.inl e)) (fun e=>h1 (.inr e)) l b i
theorem z68:∀(s l b:Tx) (i:Nat),(∀c,c∈s->0<=c/\c<=255)->qt (s.flatMap eB++l) b i=qt l (b++s) (i+(s.flatMap eB).length)
 |[],l,b,i,_=>by rw[zt];rfl
 |c::s,l,b,i,h=>by rw[List.flatMap_cons,zo,z9c (h c (zf ..)),z68 s l _ _ fun x hx=>h x (zh _ hx),zo,zd,Nat.add_assoc];rfl
theorem z9d(Q t z:Tx)(hq:qt (Q++[34]++z) [] 1=(t,1+Q.length+1))(hl:t.length<=200):iF (34::(Q++[34])++z)=((4,t,0),Q.length+2,0):=by
 have e:iF (34::(Q++[34])++z)=fL eW df fB gV 34 (Q++[34]++z):=Eq.refl _;have c1:(decide (1+Q.length+1=0)||decide (200<t.length))=false:=by rw[zn om,zn om];rfl
 have g1:oJ 34=false:=rfl;have g2:uU 34=false:=rfl;have g3:df 34=false:=dc
 have g4:(decide ((34:Int)=40)||(decide ((34:Int)=41)||decide ((34:Int)=95)))=false:=rfl;have g5:decide ((34:Int)=59)=false:=rfl;have g6:(gC 34||decide ((34:Int)=126))=false:=rfl;have g7:decide ((34:Int)=34)=true:=rfl;rw[e];unfold fL;rw[hq,g1,g2,g3,g4,g5,g6,g7,c1,Bool.false_and];simp only[cond_true,cond_false];congr 2;omega
theorem zbb{t:Tx}(h:∀c,c∈t->0<=c/\c<=255)(hl:t.length<=200):LO (sK t) [(4,t,0)]:=fun z us h2=>by
 have hq:qt (t.flatMap eB++[34]++z) [] 1=(t,1+(t.flatMap eB).length+1):=by rw[zo,z68 t _ [] 1 h];exact zcp z t _
 have e0:sK t=34::(t.flatMap eB++[34]):=Eq.refl _;rw[e0];have h1:=z9d _ t z hq hl;generalize t.flatMap eB=Q at h1;exact fA.tok (p:=34::(Q++[34])) (t:=(4,t,0)) (List.cons_ne_nil _ _) (Ld _ (.inr (.inr rfl))) (by rw[h1,zj,zd];rfl) h2
def Lay:F->Tx->Prop
 |.nil,s=>s=[]
 |.cons k t _ ks r,s=>∃s1 s2,s=s1++s2/\(if k=41 then s1=t else if k=42 then s1≠[]/\∀c,c∈s1->c=32\/c=10 else Lay ks s1)/\Lay r s2
theorem Le(W:Nat):∀(f:F) (fl:Bool) (c i:Nat),Lay f (bB W f fl c i)
 |.nil,_,_,_=>rfl
 |.cons k t n ks r,fl,c,i=>by
  refine⟨_,_,rfl,?_,Le W r fl _ i⟩;unfold gq;by_cases h1:k=41
  ·rw[if_pos h1,if_pos h1]
  rw[if_neg h1,if_neg h1];by_cases h2:k=42
  ·rw[if_pos h2,if_pos h2];cases fl with
   |true=>exact⟨List.cons_ne_nil _ _,fun c hc=>.inl (zK.1 hc)⟩
   |false=>
    refine⟨List.cons_ne_nil _ _,fun c hc=>?_⟩;rcases zw.1 hc with rfl|hc
    ·exact .inr rfl
    ·exact .inl (List.eq_of_mem_replicate hc)
  rw[if_neg h2,if_neg h2];split
  ·exact Le W ks _ _ _
  split
  ·exact Le W ks _ _ _
  ·exact Le W ks _ _ _
theorem Vt:∀f:F,Lay f (eC f)
 |.nil=>rfl
 |.cons k t n ks r=>by
  refine⟨_,_,rfl,?_,Vt r⟩;by_cases h1:k=41
  ·rw[if_pos h1,if_pos h1]
  rw[if_neg h1,if_neg h1];by_cases h2:k=42
  ·rw[if_pos h2,if_pos h2];exact⟨List.cons_ne_nil _ _,fun c hc=>.inl (zK.1 hc)⟩
  rw[if_neg h2,if_neg h2];exact Vt ks
theorem Lay.app:∀{f g:F} {s:Tx},Lay (f.app g) s->∃s1 s2,s=s1++s2/\Lay f s1/\Lay g s2
 |.nil,g,s,h=>⟨[],s,rfl,rfl,h⟩
 |.cons k t n ks r,g,s,h=>by obtain⟨s1,s2,e,h1,h2⟩:=h;obtain⟨s3,s4,e2,h3,h4⟩:=Lay.app h2;exact⟨s1++s3,s4,by rw[e,e2,zo],⟨s1,s3,rfl,h1,h3⟩,h4⟩
def FX(b:Bool)(f:F)(ts:List T3):Prop:=∀s,Lay f s->LX s ts/\(b=true->Sep s)
def FO(f:F)(ts:List T3):Prop:=∀s,Lay f s->LO s ts
theorem FX.nil(b:Bool):FX b .nil []:=fun s h=>by have h:s=[]:=h;subst h;exact⟨LX.nil.lx,fun _=>Sep.nil⟩
theorem FX.app{b:Bool}{f g:F}{s t:List T3}(h1:FX b f s)(h2:FX true g t):FX b (f.app g) (s++t):=fun x hx=>by obtain⟨x1,x2,rfl,a,c⟩:=hx.app;exact⟨(h1 x1 a).1.app (h2 x2 c).1 ((h2 x2 c).2 rfl),fun hb=>((h1 x1 a).2 hb).app ((h2 x2 c).2 rfl)⟩
theorem FO.app{b:Bool}{f g:F}{s t:List T3}(h1:FO f s)(h2:FX b g t):FX false (f.app g) (s++t):=fun x hx=>by obtain⟨x1,x2,rfl,a,c⟩:=hx.app;exact⟨(h1 x1 a).app (h2 x2 c).1,fun hb=>by cases hb⟩
theorem Vu{t s:Tx}(h:Lay (cq t) s):s=t:=by obtain⟨s1,s2,e,h1,h2⟩:=h;rw[if_pos rfl] at h1;have h2:s2=[]:=h2;rw[e,h1,h2,zt]
theorem FX.tx{t:Tx}{ts:List T3}(h:LX t ts):FX false (cq t) ts:=fun s hs=>by rw[Vu hs];exact⟨h,fun hb=>by cases hb⟩
theorem FX.shut:FX true (cq [41]) [cG [41]]:=fun s hs=>by rw[Vu hs];exact⟨(GU (.inr (.inl rfl))).lx,fun _=>Sep.cons _ (.inr (.inr rfl))⟩
theorem FO.tx{t:Tx}{ts:List T3}(h:LO t ts):FO (cq t) ts:=fun s hs=>by rw[Vu hs];exact h
theorem FX.line{b:Bool}{g:F}{ts:List T3}(h:FX b g ts):FX true (cB.app g) ts:=fun x hx=>by
 obtain⟨x1,x2,rfl,a,c⟩:=hx.app;obtain⟨s1,s2,e,h1,h2⟩:=a;rw[if_neg dc,if_pos rfl] at h1;have h2:s2=[]:=h2;rw[h2,zt] at e;subst e;refine⟨(LO.bl h1.2).app (h x2 c).1,fun _=>?_⟩;cases x1 with
 |nil=>exact absurd rfl h1.1
 |cons d x1=>exact Sep.cons _ (by rcases h1.2 d (zf ..) with h|h;exact .inl h;exact .inr (.inl h))
theorem Lg{k:Int}{t:Tx}{n:Int}{f:F}{s:Tx}(hk:k≠41/\k≠42)(h:Lay (tr k t n f) s):Lay f s:=by obtain⟨s1,s2,e,h1,h2⟩:=h;rw[if_neg hk.1,if_neg hk.2] at h1;have h2:s2=[]:=h2;rw[e,h2,zt];exact h1
theorem qu5{l:List F}{s:Tx}(h:Lay (yT l) s):Lay (bD l) s:=by
 match l,h with
 |[],h=>exact Lg dc h
 |[d],h=>exact(congrArg (fun f=>Lay f s) (F.oM d)).mpr h
 |_::_::_,h=>exact Lg dc h
theorem FX.oO{b:Bool}{l:List F}{ts:List T3}(h:FX b (bD l) ts):FX b (fD l) ts:=fun s hs=>h s (qu5 (Lg dc hs))
theorem FX.nest{b:Bool}{l:List F}{ts:List T3}(h:FX b (bD l) ts):FX b (kJ l) ts:=fun s hs=>h s (qu5 (Lg dc hs))
theorem FX.cat{b:Bool}{l:List F}{ts:List T3}(h:FX b (bD l) ts):FX b (yS l) ts:=fun s hs=>h s (Lg dc hs)
theorem FX.one{b:Bool}{d:F}{ts:List T3}(h:FX b d ts):FX b (bD [d]) ts:=fun s hs=>h s ((congrArg (fun f=>Lay f s) (F.oM d)).mp hs)
theorem FX.cons{b:Bool}{d:F}{l:List F}{s t:List T3}(h1:FX b d s)(h2:FX true (bD l) t):FX b (bD (d::l)) (s++t):=h1.app h2
theorem FX.ll{d:F}{ts:List T3}(h:FX false d ts):FX true (cm d) ts:=FX.nest (FX.line (FX.one h))
theorem FX.ln{b:Bool}{l:List F}{ts:List T3}(h:FX b (bD l) ts):FX true (bD (cB::l)) ts:=FX.line h
theorem FX.brk{d:F}{ts:List T3}(h:FX false d ts):FX false (mY true d) ([cG [40]]++(ts++[cG [41]])):=FX.cat ((FO.tx (GU (.inl rfl))).app (FX.cons h (FX.one FX.shut)))
theorem FX.eq{b:Bool}{f:F}{s t:List T3}(h:FX b f s)(e:s=t):FX b f t:=by subst e;exact h
open Pz
def At(c:PC)(i:Nat)(t:T3):Prop:=(c.l[i]?).map CL=some t
def Has(c:PC):Nat->List T3->Prop
 |_,[]=>True
 |i,t::ts=>At c i t/\Has c (i+1) ts
theorem Has.app{c:PC}:∀{a b:List T3} {i:Nat},Has c i (a++b)->Has c i a/\Has c (i+a.length) b
 |[],b,i,h=>⟨trivial,h⟩
 |t::a,b,i,h=>by
  obtain⟨h1,h2⟩:=h;obtain⟨h3,h4⟩:=Has.app (a:=a) h2;refine⟨⟨h1,h3⟩,?_⟩;have e:i+(t::a).length=i+1+a.length:=by rw[zj];omega
  rw[e];exact h4
theorem At.get{c:PC}{i:Nat}{t:T3}(h:At c i t):∃x,c.l[i]?=some x/\x.1=t.1/\x.2.1=t.2.1/\x.2.2.1=t.2.2:=by
 unfold At at h;cases e:c.l[i]? with
 |none=>rw[e] at h;cases h
 |some x=>rw[e] at h;injection h with h;subst h;exact⟨x,rfl,rfl,rfl,rfl⟩
theorem At.lt{c:PC}{i:Nat}{t:T3}(h:At c i t):i<c.l.length:=by obtain⟨x,h,_⟩:=h.get;exact(zF.1 h).1
theorem At.aW{c:PC}{i:Nat}{t:T3}(h:At c i t)(k:Int):aW c i k=decide (t.1=k):=by obtain⟨x,h,e,_⟩:=h.get;rw[Od h,e]
theorem At.ct{c:PC}{i:Nat}{t:T3}(h:At c i t)(ks:List Tx):ct c i ks=(decide (t.1=6)&&decide (t.2.1∈ks)):=by obtain⟨x,h,e,e2,_⟩:=h.get;rw[Oe h,e,e2]
theorem At.dN{c:PC}{i:Nat}{t:T3}(h:At c i t):dN c i=t.2.1:=by obtain⟨x,h,_,e2,_⟩:=h.get;rw[UG h,e2]
theorem At.num{c:PC}{i:Nat}{t:T3}(h:At c i t):num c i=t.2.2:=by obtain⟨x,h,_,_,e2⟩:=h.get;unfold Pz.num;rw[h];exact e2
theorem Has.le{c:PC}:∀{ts:List T3} {i:Nat},Has c i ts->i<=c.l.length->i+ts.length<=c.l.length
 |[],i,_,h=>h
 |t::ts,i,h,_=>by have:=h.1.lt;have:=Has.le h.2 om;rw[zj];omega
theorem dO{c:PC}{i:Nat}{s:Tx}(h:At c i (cG s)):cY c i s=.ok (i+1):=by unfold cY;rw[h.ct,zu (show(cG s).1=6 from rfl),zu (show(cG s).2.1∈[s] from zK.2 rfl)];rfl
theorem ey{c:PC}{i:Nat}{t:Tx}(h:Has c i (jw t)):pf c i=.ok (t,i+(jw t).length):=by
 unfold jw at h ⊢;unfold pf;cases ho:da t with
 |true=>rw[ho,cond_true] at h;obtain⟨h1,h2,h3,_⟩:=h;have h3:At c (i+2) (cG kR):=h3;rw[h1.aW,zn dc,h1.ct,h2.aW,h2.dN,dO h3];rfl
 |false=>rw[ho,cond_false] at h;obtain⟨h1,_⟩:=h;rw[h1.aW,zu rfl,h1.dN];rfl
def GV(c:PC)(i:Nat):Bool:=aW c i 3||(aW c i 2||(aW c i 1||ct c i [jr,kL]))
theorem At.pg{c:PC}{i:Nat}{t:T3}(h:At c i t):GV c i=(decide (t.1=3)||(decide (t.1=2)||(decide (t.1=1)||(decide (t.1=6)&&decide (t.2.1∈[jr,kL]))))):=by unfold GV;rw[h.aW,h.aW,h.aW,h.ct]
def Lh(m:Nat)(ts:List T3)(l:List ND):Prop:=∀(c:PC) (d i:Nat),Has c i ts->m<=d->GV c i=true/\qF c (cW c d) i=.ok (l,i+ts.length)
def GW(m:Nat)(ts:List T3)(l:List ND):Prop:=∀(c:PC) (d i:Nat),Has c i ts->GV c (i+ts.length)=false->m<=d->aW c i 5=false/\cW c d i=.ok (l,i+ts.length)
theorem Lh.pt{ts:List T3}{l:List ND}(h:Lh 0 ts l)(h2:∀(c:PC) i,Has c i ts->aW c i 2=false/\aW c i 5=false):GW 1 ts l:=fun c d i hh _ hd=>by obtain⟨d,rfl⟩:∃e,d=e+1:=⟨d-1,by omega⟩;obtain⟨e2,e5⟩:=h2 c i hh;refine⟨e5,?_⟩;show kz c (cW c d) i=_;unfold kz;rw[e2];exact(h c d i hh (Nat.zero_le _)).2
theorem GW.brk{m:Nat}{ts:List T3}{l:List ND}(h:GW m ts l):Lh m ([cG kL]++(ts++[cG kR])) l:=fun c d i hh hd=>by
 obtain⟨⟨h1,_⟩,h2⟩:=hh.app;obtain⟨h3,h4,_⟩:=h2.app;have hf:GV c (i+1+ts.length)=false:=by have h4:At c (i+1+ts.length) (cG kR):=h4;rw[h4.pg];decide
 obtain⟨e5,e⟩:=h c d (i+1) h3 hf hd;refine⟨by rw[h1.pg];decide,?_⟩;unfold qF;have h4:At c (i+1+ts.length) (cG kR):=h4;rw[h1.ct,h1.aW,h1.aW,h1.ct,e5,e];show eb (cY c (i+1+ts.length) kR) _=_;rw[dO h4];rw[zd,zd];show Except.ok (l,i+1+ts.length+1)=Except.ok (l,i+(1+(ts.length+1)));congr 2;omega
def uX:F->List (List ND)
 |.nil=>[]
 |.cons k t n ks r=>(tr k t n ks).flat::uX r
theorem qpd:∀f:F,(uX f).length=f.au
 |.nil=>rfl
 |.cons k t n ks r=>by show(uX r).length+1=r.au+1;rw[qpd r]
theorem qkn:∀f:F,(uX f).flatten=f.flat
 |.nil=>rfl
 |.cons k t n ks r=>by show((tr k t n ks).flat::uX r).flatten=(k,t,n,(ks.au:Int))::(ks.flat++r.flat);rw[List.flatten_cons,qkn r,vC];rfl
theorem CM(k:Int)(t:Tx)(ks:F):nd k t (uX ks)=(tr k t 0 ks).flat:=by unfold nd;rw[qpd,qkn,vC]
def kM:F->Nat
 |.nil=>0
 |.cons _ _ _ ks r=>max (if ks.au=0 then 0 else kM ks+1) (kM r)
def OU(k:Int)(t:Tx)(n:Int)(ks:F):Prop:=∃ts ti:List T3,LX (cy k t n (bL ks)) ts/\LX (gp k ks.au (cy k t n (bL ks))) ti/\GW (kM ks+1) ts (tr k t n ks).flat/\
 Lh (if ks.au=0 then 0 else kM ks+1) ti (tr k t n ks).flat/\ts.length+3<=6*(ks.size+1)/\ti.length+1<=6*(ks.size+1)/\1<=ti.length
def z69(f:F):Prop:=∃ts:List T3,LX (sL (bL f)) ts/\Sep (sL (bL f))/\ts.length<=6*f.size/\f.au<=ts.length/\
 ∀(c:PC) (d i g:Nat) (acc:List (List ND)),Has c i ts->GV c (i+ts.length)=false->kM f<=d->f.au<g->uT c (cW c d) g i acc=.ok (acc++uX f,i+ts.length)
theorem z9e{t:Tx}(h:qT 22 t=true):aS t=true:=by
 unfold qT at h;cases hn:aS t with
 |true=>rfl
 |false=>rw[hn] at h;simp[jZ,ag,av] at h
theorem z9f{t:Tx}(h:qT 24 t=true):qB t=true:=by
 unfold qT at h;cases hn:qB t with
 |true=>rfl
 |false=>rw[hn] at h;simp[jZ,ag,av] at h
theorem D3{k:Int}{t:Tx}(hk:k=1\/k=6\/k=9\/k=10\/k=11\/k=21\/k=23)(h:qT k t=true):t=[]:=by
 unfold qT at h;have:eU t []=true:=by
  cases he:eU t [] with
  |true=>rfl
  |false=>rw[he] at h;rcases hk with rfl|rfl|rfl|rfl|rfl|rfl|rfl<;>simp[jZ,ag,av] at h
 exact eq_of_beq this
theorem CN{k n:Int}(h:DT k n=true)(hk:k≠1/\k≠23):n=0:=by unfold DT at h;rw[dx hk.1,dx hk.2] at h;exact dB.1 h
theorem zbc{k n:Int}(h:DT k n=true)(hk:k=1\/k=23):oG n=true:=by unfold DT at h;rcases hk with rfl|rfl<;>exact h
theorem qpe{k:Int}{c:Nat}{s:Tx}(h:k=21\/k=22\/k=23\/c=0):gp k c s=s:=by
 unfold gp;rw[if_neg (fun e=>by
  obtain⟨a,b,d,f⟩:=e;rcases h with h|h|h|h
  ·exact a h
  ·exact b h
  ·exact d h
  ·exact f h)]
theorem Vv{k:Int}{t:Tx}{n:Int}{ts:List T3}(hx:LX (cy k t n []) ts)(ha:Lh 0 ts (tr k t n .nil).flat)(h2:∀(c:PC) i,Has c i ts->aW c i 2=false/\aW c i 5=false)(hl:ts.length<=3/\1<=ts.length):OU k t n .nil:=by refine⟨ts,ts,hx,?_,ha.pt h2,ha,by show _<=6;omega,by show _<=6;omega,hl.2⟩;show LX (gp k 0 _) ts;rw[qpe (.inr (.inr (.inr rfl)))];exact hx
theorem z14{k:Int}{t:Tx}{n:Int}{ks:F}(hv:bI k t n ks true=0)(ht:z69 ks):OU k t n ks:=by
 obtain⟨hn,hf⟩:=bG.1 hv;obtain⟨hz,hm,hk,he,hj,_⟩:=bF.1 hn;have hw:k=21\/k=22\/k=23\/k=24:=by unfold iQ cK at hm;rw[ze,decide_eq_true_eq,decide_eq_true_eq] at hm;omega
 obtain⟨_,_,_,_,c0⟩:=vD hk;rcases hw with rfl|rfl|rfl|rfl
 ·obtain rfl:=uN (c0 (by simp));obtain rfl:=D3 (by simp) hj;obtain rfl:=CN he dc;refine Vv (ts:=[cG jr]) (GU (.inr (.inr rfl))).lx (fun c d i h hd=>?_) (fun c i h=>?_) dc
  ·refine⟨by rw[h.1.pg];decide,?_⟩;unfold qF;rw[h.1.ct];rfl
  ·exact⟨by rw[h.1.aW];decide,by rw[h.1.aW];decide⟩
 ·obtain rfl:=uN (c0 (by simp));obtain rfl:=CN he dc;have hy:=z9e hj;refine Vv (ts:=jw t) (Vo hy) (fun c d i h hd=>?_) (fun c i h=>?_) (by unfold jw;cases da t<;>simp)
  ·have hb:=ey h;unfold jw at h;cases ho:da t with
   |true=>rw[ho,cond_true] at h;obtain⟨h1,h2,h3,_⟩:=h;refine⟨by rw[h1.pg];decide,?_⟩;unfold qF;rw[h1.ct,h1.aW,h1.aW,h1.ct,h2.aW,hb];rfl
   |false=>rw[ho,cond_false] at h;obtain⟨h1,_⟩:=h;refine⟨by rw[h1.pg,zu (show((1:Int),t,(0:Int)).1=1 from rfl)];simp,?_⟩;unfold qF;rw[h1.ct,h1.aW,h1.aW,h1.ct,hb];rfl
  ·unfold jw at h;cases ho:da t with
   |true=>rw[ho,cond_true] at h;exact⟨by rw[h.1.aW];decide,by rw[h.1.aW];decide⟩
   |false=>rw[ho,cond_false] at h;exact⟨by rw[h.1.aW];exact zn (show ¬(1:Int)=2 by decide),by rw[h.1.aW];exact zn (show ¬(1:Int)=5 by decide)⟩
 ·obtain rfl:=uN (c0 (by simp));obtain rfl:=D3 (by simp) hj;refine Vv (ts:=[(3,[],n)]) (z66 (zbc he (.inr rfl))) (fun c d i h hd=>?_) (fun c i h=>?_) (by simp)
  ·refine⟨by rw[h.1.pg,zu (show((3:Int),([]:Tx),n).1=3 from rfl)];rfl,?_⟩;unfold qF;rw[h.1.ct,h.1.aW,h.1.num];rfl
  ·exact⟨by rw[h.1.aW];exact zn (show ¬(3:Int)=2 by decide),by rw[h.1.aW];exact zn (show ¬(3:Int)=5 by decide)⟩
 ·obtain rfl:=CN he dc;have hc:=z9f hj;obtain⟨us,k1,k2,k3,k5,k4⟩:=ht;have hx:LX (cy 24 t 0 (bL ks)) ([(2,t,0)]++us):=(z65 hc).app k1 k2;have e1:∀i,i+([((2:Int),t,(0:Int))]++us).length=i+1+us.length:=fun i=>by rw[zd,<-Nat.add_assoc];rfl
  have el:([((2:Int),t,(0:Int))]++us).length=us.length+1:=by rw[zd];exact Nat.add_comm _ _
  have hp:GW (kM ks+1) ([(2,t,0)]++us) (tr 24 t 0 ks).flat:=fun c d i h hg hd=>by obtain⟨d,rfl⟩:∃e,d=e+1:=⟨d-1,by omega⟩;obtain⟨⟨h1,_⟩,h2⟩:=h.app;rw[e1] at hg ⊢;have hq:=h2.le (by have:=h1.lt;exact this);have hq:i+1+us.length<=c.l.length:=hq;refine⟨by rw[h1.aW];exact zn (show ¬(2:Int)=5 by decide),?_⟩;show kz c (cW c d) i=_;unfold kz;rw[h1.aW,zu (show((2:Int),t,(0:Int)).1=2 from rfl),h1.dN,k4 c d (i+1) (c.l.length+1) [] h2 hg om om];show Except.ok (nd 24 t ([]++uX ks),i+1+us.length)=_;rw[List.nil_append,CM]
  have hl:([((2:Int),t,(0:Int))]++us).length+3<=6*(ks.size+1):=by rw[el];omega
  by_cases h0:ks.au=0
  ·obtain rfl:=uN (f:=ks) om;have hu:us=[]:=zP (by have:us.length<=6*0:=k3;omega);subst hu;refine⟨_,_,hx,(by show LX (gp 24 0 _) _;rw[qpe (.inr (.inr (.inr rfl)))];exact hx),hp,fun c d i h _=>?_,hl,(by rw[el] at hl ⊢;omega),(by rw[el];omega)⟩;have h1:At c i (2,t,0):=h.1;refine⟨by rw[h1.pg,zu (show((2:Int),t,(0:Int)).1=2 from rfl)];simp,?_⟩;unfold qF;rw[h1.ct,h1.aW,h1.aW,h1.dN];rfl
  ·have hb:=hp.brk;have hi:gp 24 ks.au (cy 24 t 0 (bL ks))=[40]++cy 24 t 0 (bL ks)++[41]:=by unfold gp;rw[if_pos ⟨by decide,by decide,by decide,h0⟩]
   have hs:=((GU (b:=40) (.inl rfl)).app hx).app (GU (b:=41) (.inr (.inl rfl))).lx (Sep.cons _ (.inr (.inr rfl)));rw[<-hi,zo] at hs;refine⟨_,_,hx,hs,hp,(by rw[if_neg h0];exact hb),hl,?_,?_⟩
   all_goals
    rw[zd,zd];rw[el] at hl ⊢;show _<=_;simp only[zj,List.length_nil];omega
theorem Vw:∀(f:F) (m dS:Bool),eD m true dS f=0->z69 f
 |.nil,_,_,_=>⟨[],LX.nil.lx,Sep.nil,Nat.le_refl _,Nat.le_refl _,fun c d i g acc _ hf _ hg=>by obtain⟨g,rfl⟩:∃e,g=e+1:=⟨g-1,by omega⟩;have hf:(aW c i 3||(aW c i 2||(aW c i 1||ct c i [jr,kL])))=false:=hf;unfold uT;rw[hf];show Except.ok (acc,i)=Except.ok (acc++[],i+0);rw[zt];rfl⟩
 |.cons k t n ks r,m,dS,h=>by
  obtain⟨h1,h2⟩:=cJ.1 h;rw[Bool.true_or] at h1;obtain⟨ts,ti,_,x2,_,x4,_,x6,x7⟩:=z14 h1 (Vw ks _ _ (bG.1 h1).2);obtain⟨us,k1,k2,k3,k5,k4⟩:=Vw r m (!dS) h2;have hx:=((LO.sp (c:=32) (.inl rfl)).app x2).app k1 k2;refine⟨ti++us,hx,Sep.cons _ (.inl rfl),?_,?_,fun c d i g acc hh hc hd hg=>?_⟩
  ·rw[zd];show _<=6*(ks.size+r.size+1);omega
  ·rw[zd];show r.au+1<=_;omega
  ·obtain⟨a1,a2⟩:=hh.app;rw[zd,<-Nat.add_assoc] at hc ⊢;have hd:max (if ks.au=0 then 0 else kM ks+1) (kM r)<=d:=hd;have hg:r.au+1<g:=hg;obtain⟨g,rfl⟩:∃e,g=e+1:=⟨g-1,by omega⟩;obtain⟨b1,b2⟩:=x4 c d i a1 om;have b1:(aW c i 3||(aW c i 2||(aW c i 1||ct c i [jr,kL])))=true:=b1
   conv=>lhs;unfold uT
   rw[b1,b2];show uT c (cW c d) g (i+ti.length) (acc++[(tr k t n ks).flat])=_;rw[k4 c d _ g _ a2 hc om om,zo];rfl
theorem sI{k:Int}{t:Tx}{n:Int}{ks:F}(hv:bI k t n ks true=0):OU k t n ks:=z14 hv (Vw ks _ _ (bG.1 hv).2)
open Pz
theorem At.bg{c:PC}{i:Nat}{t:T3}(h:At c i t):iD c i=(decide (t.1=3)||(decide (t.1=4)||(decide (t.1=1)||(decide (t.1=2)||(decide (t.1=6)&&decide (t.2.1∈[kL,cX])))))):=by unfold iD;rw[h.aW,h.aW,h.aW,h.aW,h.ct]
theorem OV{c:PC}{i:Nat}(h:iD c i=true):i<c.l.length:=by
 by_cases hl:i<c.l.length
 ·exact hl
 ·rw[qki om] at h;cases h
theorem zbd{c:PC}{i:Nat}(h:iD c i=true):aW c i 5=false/\ct c i [ix,gm,pe,cU,iU]=false:=by
 have hl:=OV h;have hg:c.l[i]?=some c.l[i]:=zg hl;unfold iD at h;rw[Od hg,Oe hg];simp only[Od hg,Oe hg,Bool.or_eq_true,ze,decide_eq_true_eq] at h;generalize c.l[i]=x at h;refine⟨zn om,?_⟩;rcases h with h|h|h|h|⟨_,h⟩
 ·rw[h];rfl
 ·rw[h];rfl
 ·rw[h];rfl
 ·rw[h];rfl
 ·have:decide (x.2.1∈[ix,gm,pe,cU,iU])=false:=by
   rcases zw.1 h with h|h
   ·rw[h];decide
   ·rw[zK.1 h];decide
  rw[this,Bool.and_false]
variable {fx:List ar}
structure AO (c:PC) (fx:List ar):Prop where
 f:c.fx=yQ fx
 l:c.cl=l0 fx
def iV(fx:List ar)(m:Nat)(ts:List T3)(l:List ND):Prop:=∀(c:PC) (d i:Nat),AO c fx->Has c i ts->iD c (i+ts.length)=false->aW c (i+ts.length) 5=false->m<=d->aW c i 5=false/\cE c d i=.ok (l,i+ts.length)
def qU(fx:List ar)(m:Nat)(ts:List T3)(l:List ND):Prop:=∀(c:PC) (d i:Nat),AO c fx->Has c i ts->m<=d->iD c i=true/\oI c (cE c d) (cW c d) i=.ok (l,i+ts.length)
def D4(fx:List ar)(m:Nat)(ts:List T3)(l:List ND):Prop:=∀(c:PC) (d i:Nat),AO c fx->Has c i ts->m<=d->iD c i=true/\∃q,q<=ts.length/\gS c (cE c d) (cW c d) i=vF c (cE c d) (cW c d) (c.l.length+1-q) (i+ts.length) l
structure CO (fx:List ar) (m:Nat) (ts:List T3) (l:List ND) (fs:List ar) (As:List (List ND)) (x:Nat->List Int):Prop where
 len:As.length=fs.length+1
 xl:∀a,(x a).length=2*fs.length+1
 b:∀pre post:List ar,Fx.B (gj (pre++(fs++post))) (dW (pre++(fs++post))) pre.length (pre.length+fs.length) (x pre.length)
 bl:∀(A A':List (List ND)) (O O':List Tx),A.length=O.length->∀(g:Nat) (rest:List Int),2*fs.length+1<=g->gW (A++(As++A')) (O++(fs.map (·.1)++O')) g (x A.length++rest)=(l,rest)
 p:∀(c:PC) (d i:Nat),AO c fx->Has c i ts->m<=d->iD c i=true/\(iD c (i+ts.length)=false->∀(g:Nat) (A:List (List ND)) (O:List Tx) (P:List Int),ts.length<g->∃g' ps,ps.length=fs.length/\g<=g'+ts.length/\
  eb (gS c (cE c d) (cW c d) i) (fun x=>gT c (cE c d) (cW c d) g x.2 ⟨A++[x.1],O,P⟩)=gT c (cE c d) (cW c d) g' (i+ts.length) ⟨A++As,O++fs.map (·.1),P++ps⟩)
 f:∀f,f∈fs->jq fx f.1=some f
theorem qU.ap{m:Nat}{ts:List T3}{l:List ND}(h:qU fx m ts l):D4 fx m ts l:=fun c d i hc hh hd=>by obtain⟨h1,h2⟩:=h c d i hc hh hd;refine⟨h1,0,Nat.zero_le _,?_⟩;unfold gS;rw[h2];rfl
theorem D4.app{m m':Nat}{ts us:List T3}{l l':List ND}(h:D4 fx m ts l)(h':qU fx m' us l')(hu:1<=us.length):D4 fx (max m m') (ts++us) (nd 6 [] [l,l']):=fun c d i hc hh hd=>by
 obtain⟨a1,a2⟩:=hh.app;obtain⟨h1,q,hq,h2⟩:=h c d i hc a1 om;obtain⟨g1,g2⟩:=h' c d _ hc a2 om;have hl:=a1.le (by have:=OV h1;omega);refine⟨h1,q+1,by rw[zd];omega,?_⟩;rw[h2,zd];obtain⟨f,hf⟩:∃f,c.l.length+1-q=f+1:=⟨c.l.length-q,by omega⟩;rw[hf]
 conv=>lhs;unfold vF
 rw[g1,g2,show c.l.length+1-(q+1)=f by omega,<-Nat.add_assoc];rfl
theorem D4.rw{m:Nat}{ts:List T3}{l:List ND}(h:D4 fx m ts l):CO fx m ts l [] [l] (fun a=>[-1-(a:Int)]) where
 len:=rfl
 xl _:=rfl
 b pre post:=Fx.B.nil _
 bl A A' O O' _ g rest hg:=by obtain⟨g,rfl⟩:∃e,g=e+1:=⟨g-1,by omega⟩;show(if(-1-(A.length:Int))<0 then _ else _)=_;rw[if_pos om,show(-1-(-1-(A.length:Int))).toNat=A.length by omega,zG (Nat.le_refl _),Nat.sub_self];rfl
 p c d i hc hh hd:=by
  obtain⟨h1,q,hq,h2⟩:=h c d i hc hh hd;refine⟨h1,fun hb g A O P hg=>⟨g,[],rfl,by omega,?_⟩⟩;have hl:=hh.le (by have:=OV h1;omega);obtain⟨f,hf⟩:∃f,c.l.length+1-q=f+1:=⟨c.l.length-q,by omega⟩;rw[h2,hf];have:vF c (cE c d) (cW c d) (f+1) (i+ts.length) l=.ok (l,i+ts.length):=by unfold vF;rw[hb];rfl
  rw[this,zt];show _=gT c (cE c d) (cW c d) g (i+ts.length) ⟨A++[l],O++[],P⟩;rw[zt];rfl
 f _ h:=by cases h
theorem zcr(pre:List ar)(f:ar)(post:List ar):gj (pre++f::post) pre.length=f.2.1/\dW (pre++f::post) pre.length=f.2.2:=by
 have:(pre++f::post)[pre.length]?=some f:=by rw[zG (Nat.le_refl _),Nat.sub_self];rfl
 exact⟨DU this,Cw this⟩
theorem zbe{pre fs post:List ar}{i:Nat}(h1:pre.length<=i)(h2:i<pre.length+fs.length):∃g,g∈fs/\gj (pre++(fs++post)) i=g.2.1/\dW (pre++(fs++post)) i=g.2.2:=by
 have hc:i-pre.length<fs.length:=om
 have:(pre++(fs++post))[i]?=some fs[i-pre.length]:=by rw[zG h1,zR hc,zg hc]
 exact⟨_,List.getElem_mem hc,DU this,Cw this⟩
def Li(f g:ar):Prop:=f.2.1<g.2.1\/(f.2.1=g.2.1/\f.2.2<0/\g.2.2<0)
def Lj(f g:ar):Prop:=f.2.1<g.2.1\/(f.2.1=g.2.1/\0<f.2.2/\0<g.2.2)
theorem CO.op{m m':Nat}{ts us:List T3}{l l':List ND}{fs kl:List ar}{As CP:List (List ND)}{x x':Nat->List Int}(h:CO fx m ts l fs As x)(h':CO fx m' us l' kl CP x'){f:ar}(hf:jq fx f.1=some f)(hL:∀g,g∈fs->Li f g)(hR:∀g,g∈kl->Lj f g):CO fx (max m m') (ts++([(5,f.1,0)]++us)) (nd 6 [] [nd 6 [] [nd 3 f.1 [],l],l']) (fs++f::kl) (As++CP) (fun a=>((a+fs.length:Nat):Int)::(x a++x' (a+fs.length+1))) where
 len:=by rw[zd,zd,h.len,h'.len,zj];omega
 xl a:=by rw[zj,zd,h.xl,h'.xl,zd,zj];omega
 b pre post:=by
  have e:pre++(fs++f::kl++post)=pre++(fs++(f::(kl++post))):=by rw[zo];rfl
  have e':pre++(fs++f::kl++post)=(pre++(fs++[f]))++(kl++post):=by simp only[zo,List.cons_append,List.nil_append]
  have b1:=h.b pre (f::(kl++post));have b2:=h'.b (pre++(fs++[f])) post;have er:pre.length+fs.length=(pre++fs).length:=(zd).symm;have e2:pre++(fs++f::kl++post)=(pre++fs)++f::(kl++post):=by rw[e,zo]
  obtain⟨r1,r2⟩:=zcr (pre++fs) f (kl++post);rw[<-e2,<-er] at r1 r2;have GX:(pre++(fs++[f])).length=pre.length+fs.length+1:=by rw[zd,zd,List.length_singleton];omega
  rw[<-e] at b1;rw[<-e',GX] at b2;have ee:pre.length+(fs++f::kl).length=pre.length+fs.length+1+kl.length:=by rw[zd,zj];omega
  rw[ee];refine Fx.B.node _ _ _ _ _ om om (fun i h1 h2=>?_) (fun i h1 h2=>?_) b1 b2
  ·obtain⟨g,g1,g2,g3⟩:=zbe (post:=f::(kl++post)) h1 h2;rw[<-e] at g2 g3;unfold Fx.LB;rw[r1,r2,g2,g3];exact hL g g1
  ·obtain⟨g,g1,g2,g3⟩:=zbe (pre:=pre++(fs++[f])) (fs:=kl) (post:=post) (i:=i) (by rw[GX];omega) (by rw[GX];omega);rw[<-e'] at g2 g3;unfold Fx.RB;rw[r1,r2,g2,g3];exact hR g g1
 bl A A' O O' hA g rest hg:=by
  rw[zd,zj] at hg;obtain⟨g,rfl⟩:∃e,g=e+1:=⟨g-1,by omega⟩;have e1:A++(As++CP++A')=A++(As++(CP++A')):=by rw[zo]
  have e2:O++((fs++f::kl).map (·.1)++O')=O++(fs.map (·.1)++(f.1::kl.map (·.1)++O')):=by rw[zT,zJ,zo]
  have e3:A++(As++CP++A')=(A++As)++(CP++A'):=by rw[e1,zo]
  have e4:O++((fs++f::kl).map (·.1)++O')=(O++(fs.map (·.1)++[f.1]))++(kl.map (·.1)++O'):=by rw[e2];simp only[zo,List.cons_append,List.nil_append]
  have b1:=h.bl A (CP++A') O (f.1::kl.map (·.1)++O') hA g (x' (A.length+fs.length+1)++rest) om;have hj:(A++As).length=(O++(fs.map (·.1)++[f.1])).length:=by rw[zd,zd,zd,zO,h.len,hA,List.length_singleton]
  have b2:=h'.bl (A++As) A' (O++(fs.map (·.1)++[f.1])) O' hj g rest om;have el:(A++As).length=A.length+fs.length+1:=by rw[zd,h.len];omega
  rw[<-e3,<-e4,el] at b2;rw[<-e1,<-e2] at b1;have he:(O++((fs++f::kl).map (·.1)++O'))[((A.length+fs.length:Nat):Int).toNat]?=some f.1:=by rw[Int.toNat_natCast,e2,<-zo,show A.length+fs.length=(O++fs.map (·.1)).length by rw[zd,zO,hA],List.cons_append,zG (Nat.le_refl _),Nat.sub_self];rfl
  show(if((A.length+fs.length:Nat):Int)<0 then _ else _)=_;rw[if_neg om];have ea:(x A.length++x' (A.length+fs.length+1)).append rest=x A.length++(x' (A.length+fs.length+1)++rest):=zo ..;rw[ea,b1];simp only;rw[b2,he];rfl
 p c d i hc hh hd:=by
  obtain⟨a1,a2⟩:=hh.app;obtain⟨⟨a3,_⟩,a4⟩:=a2.app;have a4:Has c (i+ts.length+1) us:=a4;obtain⟨p1,p2⟩:=h.p c d i hc a1 om;obtain⟨q1,q2⟩:=h'.p c d _ hc a4 om;have hk:aW c (i+ts.length) 5=true:=by rw[a3.aW];exact zu rfl
  have hl:iD c (i+ts.length)=false:=by rw[a3.bg];simp
  refine⟨p1,fun hb g A O P hg=>?_⟩;have el:(ts++([((5:Int),f.1,(0:Int))]++us)).length=ts.length+1+us.length:=by rw[zd,zd,List.length_singleton];omega
  rw[el] at hb hg;rw[<-Nat.add_assoc,<-Nat.add_assoc] at hb;obtain⟨g1,ps,s1,s2,s3⟩:=p2 hl g A O P om;obtain⟨g1,rfl⟩:∃e,g1=e+1:=⟨g1-1,by omega⟩;obtain⟨g2,aZ,t1,t2,t3⟩:=q2 hb g1 (A++As) (O++fs.map (·.1)++[f.1]) (P++ps++[jB c (i+ts.length)]) om;refine⟨g2,ps++jB c (i+ts.length)::aZ,by rw[zd,zj,zd,zj,s1,t1],by rw[el];omega,?_⟩;rw[s3]
  conv=>lhs;unfold gT
  rw[hk,a3.dN,el,<-Nat.add_assoc,<-Nat.add_assoc];show eb (gS c (cE c d) (cW c d) (i+ts.length+1)) (fun x=>gT c (cE c d) (cW c d) g1 x.2 ⟨A++As++[x.1],O++fs.map (·.1)++[f.1],P++ps++[jB c (i+ts.length)]⟩)=_;rw[t3];simp only[zo,zT,zJ,List.cons_append,List.nil_append]
 f g hg:=by
  rcases zN.1 hg with hg|hg
  ·exact h.f g hg
  ·rcases zw.1 hg with rfl|hg
   ·exact hf
   ·exact h'.f g hg
open Pz
section
variable {fx:List ar}
theorem Has.one{c:PC}{i:Nat}{t:T3}{b:List T3}(h:Has c i ([t]++b)):At c i t/\Has c (i+1) b:=⟨h.1,h.2⟩
theorem zcs{lv sd:Nat->Int}{a b:Nat}{x:List Int}(h:Fx.B lv sd a b x)(e:a=b):x=[-1-(a:Int)]:=by
 cases h with
 |nil=>rfl
 |node _ r _ _ _ h1 h2=>omega
theorem CQ{c:PC}{j:Nat}{s:Tx}(h:At c j (cG s))(hs:decide (s∈[kL,cX])=false):iD c j=false/\aW c j 5=false:=by refine⟨?_,by rw[h.aW];exact zn (show ¬(6:Int)=5 by decide)⟩;rw[h.bg,show(cG s).2.1=s from rfl,hs];show(decide ((6:Int)=3)||(decide ((6:Int)=4)||(decide ((6:Int)=1)||(decide ((6:Int)=2)||(decide ((6:Int)=6)&&false)))))=false;decide
theorem qu6{c:PC}:∀(ops:List Tx) (ps:List Int),(∀s,s∈ops->c.fx s=true)->yL c ops ps=none
 |[],ps,_=>by cases ps<;>rfl
 |s::ops,[],_=>rfl
 |s::ops,p::ps,h=>by show(bif c.fx s then yL c ops ps else some p)=none;rw[h s (zf ..),qu6 ops ps fun x hx=>h x (zh _ hx)];rfl
theorem qko:∀fs:List ar,(∀f,f∈fs->jq fx f.1=some f)->nH fx (fs.map (·.1))=some fs
 |[],_=>rfl
 |f::fs,h=>by show(match jq fx f.1 with|none=>none|some x=>match nH fx (fs.map fun x=>x.1) with|none=>none|some y=>some (x::y))=some (f::fs);rw[h f (zf ..),qko fs fun x hx=>h x (zh _ hx)]
theorem zct(hz:fb fx=0){fs:List ar}{x:List Int}(hf:∀f,f∈fs->jq fx f.1=some f)(hn:fs.length<=400)(hb:Fx.B (gj fs) (dW fs) 0 fs.length x):l0 fx (fs.map (·.1))=some x:=by
 unfold l0;rw[zO,if_neg om,qko fs hf];show Fx.fU (gj fs) (dW fs) fs.length=some x;obtain⟨_,hr,_⟩:=N5 hz;have h:=Fx.ky (lv:=gj fs) (sd:=dW fs) (n:=fs.length) (N8 hr fun f h=>(AI (hf f h)).1);cases hc:Fx.fU (gj fs) (dW fs) fs.length with
 |none=>rw[hc] at h;exact absurd hb (h x)
 |some y=>rw[hc] at h;rw[Fx.B.unique h hb]
theorem CO.ex{m:Nat}{ts:List T3}{l:List ND}{fs:List ar}{As:List (List ND)}{x:Nat->List Int}(hz:fb fx=0)(h:CO fx m ts l fs As x)(hn:fs.length<=400):iV fx (m+1) ts l:=fun c d i hc hh h1 h2 hd=>by
 obtain⟨d,rfl⟩:∃e,d=e+1:=⟨d-1,by omega⟩;obtain⟨p1,p2⟩:=h.p c d i hc hh om;obtain⟨n1,n2⟩:=zbd p1;have hl:=hh.le (by have:=OV p1;omega);obtain⟨g,ps,q1,q2,q3⟩:=p2 h1 (c.l.length+1) [] [] [] om;obtain⟨g,rfl⟩:∃e,g=e+1:=⟨g-1,by omega⟩;refine⟨n1,?_⟩;show ph c (cE c d) (cW c d) i=_;unfold ph;rw[n2];show lY c (cE c d) (cW c d) i=_;have he:gT c (cE c d) (cW c d) (g+1) (i+ts.length) ⟨[]++As,[]++fs.map (·.1),[]++ps⟩=.ok (⟨As,fs.map (·.1),ps⟩,i+ts.length):=by unfold gT;rw[h2];rfl
 have e:lY c (cE c d) (cW c d) i=mU c (jB c i) ⟨As,fs.map (·.1),ps⟩ (i+ts.length):=by
  have q3:eb (gS c (cE c d) (cW c d) i) (fun x=>gT c (cE c d) (cW c d) (c.l.length+1) x.2 ⟨[x.1],[],[]⟩)=_:=q3;rw[he] at q3;unfold lY;cases ha:gS c (cE c d) (cW c d) i with
  |error e=>rw[ha] at q3;cases q3
  |ok a=>rw[ha] at q3;have q3:gT c (cE c d) (cW c d) (c.l.length+1) a.2 ⟨[a.1],[],[]⟩=_:=q3;show eb (gT c (cE c d) (cW c d) (c.l.length+1) a.2 ⟨[a.1],[],[]⟩) _=_;rw[q3];rfl
 rw[e];have hb:=h.bl [] [] [] [] rfl (2*fs.length+1) [] (Nat.le_refl _);have hB:=h.b [] [];simp only[List.nil_append,zt,List.length_nil,zD] at hb hB;unfold mU;by_cases h0:fs=[]
 ·subst h0;rw[if_pos (show([]:List ar).map (·.1)=[] from rfl)];have hx:x 0=[-1-((0:Nat):Int)]:=zcs hB rfl;rw[hx] at hb;have hb:(((As[0]?).getD [],[]):List ND×List Int)=(l,[]):=hb;injection hb with hb;show Except.ok ((As[0]?).getD [],i+ts.length)=_;rw[hb]
 ·rw[if_neg (by intro e;exact h0 (List.map_eq_nil_iff.1 e))];have hf:∀s,s∈fs.map (·.1)->c.fx s=true:=fun s hs=>by obtain⟨f,h3,rfl⟩:=List.mem_map.1 hs;rw[hc.f];unfold yQ;rw[h.f f h3];rfl
  rw[qu6 _ _ hf,hc.l,zct hz h.f hn hB];show Except.ok ((gW As (fs.map (·.1)) (x 0).length (x 0)).1,i+ts.length)=_;rw[h.xl,hb]
theorem iV.brk{m:Nat}{ts:List T3}{l:List ND}(h:iV fx m ts l):qU fx m ([cG kL]++(ts++[cG kR])) l:=fun c d i hc hh hd=>by
 obtain⟨h1,h2⟩:=Has.one hh;obtain⟨h3,h4,_⟩:=h2.app;have h4:At c (i+1+ts.length) (cG kR):=h4;obtain⟨f1,f2⟩:=CQ h4 dc;obtain⟨e5,e⟩:=h c d (i+1) hc h3 f1 f2 hd;have hb:iD c i=true:=by rw[h1.bg];decide
 refine⟨hb,?_⟩;unfold oI;rw[hb,h1.aW,h1.aW,h1.aW,h1.aW,h1.dN,e5,e];show eb (cY c (i+1+ts.length) kR) _=_;rw[dO h4,zd,zd];show Except.ok (l,i+1+ts.length+1)=Except.ok (l,i+(1+(ts.length+1)));congr 2;omega
theorem zbf(n:Int):qU fx 0 [(3,[],n)] [(1,[],n,0)]:=fun c d i _ hh _=>by
 have h1:At c i (3,[],n):=hh.1;have hb:iD c i=true:=by rw[h1.bg];rfl
 refine⟨hb,?_⟩;unfold oI;rw[hb,h1.aW,h1.num];rfl
theorem zbg(t:Tx):qU fx 0 [(4,t,0)] (nd 2 t []):=fun c d i _ hh _=>by
 have h1:At c i (4,t,0):=hh.1;have hb:iD c i=true:=by rw[h1.bg];rfl
 refine⟨hb,?_⟩;unfold oI;rw[hb,h1.aW,h1.aW,h1.dN];rfl
theorem zbh(t:Tx):qU fx 0 [(2,t,0)] (nd 4 t []):=fun c d i _ hh _=>by
 have h1:At c i (2,t,0):=hh.1;have hb:iD c i=true:=by rw[h1.bg];rfl
 refine⟨hb,?_⟩;unfold oI;rw[hb,h1.aW,h1.aW,h1.aW,h1.aW,h1.dN];rfl
theorem z9g(t:Tx):qU fx 0 (jw t) (nd 3 t []):=fun c d i _ hh _=>by
 unfold jw at hh ⊢;cases ho:da t with
 |true=>
  rw[ho,cond_true] at hh;obtain⟨h1,h2,h3,_⟩:=hh;have h3:At c (i+2) (cG kR):=h3;have hb:iD c i=true:=by rw[h1.bg];decide
  refine⟨hb,?_⟩;unfold oI;rw[hb,h1.aW,h1.aW,h1.aW,h1.aW,h1.dN,h2.aW,h2.dN,dO h3];rfl
 |false=>
  rw[ho,cond_false] at hh;have h1:At c i (1,t,0):=hh.1;have hb:iD c i=true:=by rw[h1.bg];rfl
  refine⟨hb,?_⟩;unfold oI;rw[hb,h1.aW,h1.aW,h1.aW,h1.dN];rfl
theorem ck{c:PC}{d i m:Nat}{s:Tx}{ts:List T3}{l:List ND}(hc:AO c fx)(h:iV fx m ts l)(h1:At c i (cG s))(h2:Has c (i+1) ts)(f:iD c (i+1+ts.length)=false/\aW c (i+1+ts.length) 5=false)(hd:m<=d):eQ c (cE c d) i s=.ok (l,i+1+ts.length):=by unfold eQ;rw[dO h1];exact(h c d (i+1) hc h2 f.1 f.2 hd).2
theorem Ix{m:Nat}{w:Tx}{ts:List T3}{l:List ND}(_hw:w=ix\/w=gm\/w=pe\/w=cU\/w=iU)(h:∀(c:PC) (d i:Nat),AO c fx->At c i (cG w)->Has c (i+1) ts->iD c (i+1+ts.length)=false/\aW c (i+1+ts.length) 5=false->m<=d->ph c (cE c d) (cW c d) i=.ok (l,i+1+ts.length)):iV fx (m+1) ([cG w]++ts) l:=fun c d i hc hh h1 h2 hd=>by
 obtain⟨d,rfl⟩:∃e,d=e+1:=⟨d-1,by omega⟩;obtain⟨a1,a2⟩:=Has.one hh;have e:i+([cG w]++ts).length=i+1+ts.length:=by rw[zd,<-Nat.add_assoc];rfl
 rw[e] at h1 h2 ⊢;exact⟨by rw[a1.aW];exact zn (show ¬(6:Int)=5 by decide),h c d i hc a1 a2 ⟨h1,h2⟩ om⟩
theorem Iy{c:PC}{i:Nat}{w:Tx}(h:At c i (cG w))(hw:w∈[ix,gm,pe,cU,iU]):ct c i [ix,gm,pe,cU,iU]=true:=by rw[h.ct,zu (show(cG w).1=6 from rfl),zu (show(cG w).2.1∈[ix,gm,pe,cU,iU] from hw)];rfl
theorem zbi{m:Nat}{ts:List T3}{l:List ND}(t:Tx)(h:iV fx m ts l):iV fx (m+1) ([cG ix]++(jw t++([cG gQ]++ts))) (nd 5 t [l]):=Ix (.inl rfl) fun c d i hc h0 hh hf hd=>by obtain⟨a1,a2⟩:=hh.app;obtain⟨a3,a4⟩:=Has.one a2;rw[zd,zd,<-Nat.add_assoc,<-Nat.add_assoc] at hf ⊢;unfold ph;rw[Iy h0 dc,h0.dN,ey a1];show eb (eQ c (cE c d) (i+1+(jw t).length) gQ) _=_;rw[ck hc h a3 a4 hf hd];rfl
theorem z4w{m:Nat}{ts:List T3}{l:List ND}(h:iV fx m ts l):iV fx (m+1) ([cG cU]++ts) (nd 11 [] [l]):=Ix (.inr (.inr (.inr (.inl rfl)))) fun c d i hc h0 hh hf hd=>by unfold ph;rw[Iy h0 dc,h0.dN,(h c d (i+1) hc hh hf.1 hf.2 hd).2];rfl
theorem zcu{m m' m2:Nat}{ts us vs:List T3}{l l' l2:List ND}(h:iV fx m ts l)(h':iV fx m' us l')(h2:iV fx m2 vs l2):iV fx (max m (max m' m2)+1) ([cG pe]++(ts++([cG iy]++(us++([cG iz]++vs))))) (nd 9 [] [l,l',l2]):=Ix (.inr (.inr (.inl rfl))) fun c d i hc h0 hh hf hd=>by obtain⟨a1,a2⟩:=hh.app;obtain⟨a3,a4⟩:=Has.one a2;obtain⟨a5,a6⟩:=a4.app;obtain⟨a7,a8⟩:=Has.one a6;have f1:=CQ a3 dc;have f2:=CQ a7 dc;simp only[zd,List.length_singleton,<-Nat.add_assoc] at hf ⊢;unfold ph;rw[Iy h0 dc,h0.dN,(h c d (i+1) hc a1 f1.1 f1.2 om).2];show eb (eQ c (cE c d) (i+1+ts.length) iy) _=_;rw[ck hc h' a3 a5 f2 om];show eb (eQ c (cE c d) (i+1+ts.length+1+us.length) iz) _=_;rw[ck hc h2 a7 a8 hf om];rfl
theorem zbj{m m':Nat}{ts us:List T3}{l l':List ND}(t:Tx)(h:iV fx m ts l)(h':iV fx m' us l'):iV fx (max m m'+1) ([cG iU]++(ts++([cG dX]++(jw t++([cG gQ]++us))))) (nd 12 t [l,l']):=Ix (.inr (.inr (.inr (.inr rfl)))) fun c d i hc h0 hh hf hd=>by obtain⟨a1,a2⟩:=hh.app;obtain⟨a3,a4⟩:=Has.one a2;obtain⟨a5,a6⟩:=a4.app;obtain⟨a7,a8⟩:=Has.one a6;have f1:=CQ a3 dc;simp only[zd,List.length_singleton,<-Nat.add_assoc] at hf ⊢;unfold ph;rw[Iy h0 dc,h0.dN,(h c d (i+1) hc a1 f1.1 f1.2 om).2];show eb (cY c (i+1+ts.length) dX) _=_;rw[dO a3];show eb (pf c (i+1+ts.length+1)) _=_;rw[ey a5];show eb (eQ c (cE c d) (i+1+ts.length+1+(jw t).length) gQ) _=_;rw[ck hc h' a7 a8 hf om];rfl
theorem z9h{c:PC}{i:Nat}{t:Tx}(h:Has c i (jw t)):ct c i [gn]=false:=by
 unfold jw at h;cases ho:da t with
 |true=>rw[ho,cond_true] at h;rw[h.1.ct];decide
 |false=>rw[ho,cond_false] at h;rw[h.1.ct];rfl
theorem zbk{m m':Nat}{ts us:List T3}{l l':List ND}(t:Tx)(h:iV fx m ts l)(h':iV fx m' us l'):iV fx (max m m'+1) ([cG gm]++(jw t++([cG vE]++(ts++([cG uS]++us))))) (nd 7 t [l,l']):=Ix (.inr (.inl rfl)) fun c d i hc h0 hh hf hd=>by obtain⟨a1,a2⟩:=hh.app;obtain⟨a3,a4⟩:=Has.one a2;obtain⟨a5,a6⟩:=a4.app;obtain⟨a7,a8⟩:=Has.one a6;have f1:=CQ a7 dc;simp only[zd,List.length_singleton,<-Nat.add_assoc] at hf ⊢;unfold ph;rw[Iy h0 dc,h0.dN,z9h a1];show eb (pf c (i+1)) _=_;rw[ey a1];show eb (eQ c (cE c d) (i+1+(jw t).length) vE) _=_;rw[ck hc h a3 a5 f1 om];show eb (eQ c (cE c d) (i+1+(jw t).length+1+ts.length) uS) _=_;rw[ck hc h' a7 a8 hf om];rfl
theorem zbl{m m':Nat}{ts us:List T3}{l l':List ND}(t:Tx)(h:iV fx m ts l)(h':iV fx m' us l'):iV fx (max m m'+1) ([cG gm]++([cG gn]++(jw t++([cG vE]++(ts++([cG uS]++us)))))) (nd 8 t [l,l']):=Ix (.inr (.inl rfl)) fun c d i hc h0 hh hf hd=>by obtain⟨a0,hh⟩:=Has.one hh;obtain⟨a1,a2⟩:=hh.app;obtain⟨a3,a4⟩:=Has.one a2;obtain⟨a5,a6⟩:=a4.app;obtain⟨a7,a8⟩:=Has.one a6;have f1:=CQ a7 dc;simp only[zd,List.length_singleton,<-Nat.add_assoc] at hf ⊢;unfold ph;rw[Iy h0 dc,h0.dN,show ct c (i+1) [gn]=true by rw[a0.ct];decide];show eb (pf c (i+1+1)) _=_;rw[ey a1];show eb (eQ c (cE c d) (i+1+1+(jw t).length) vE) _=_;rw[ck hc h a3 a5 f1 om];show eb (eQ c (cE c d) (i+1+1+(jw t).length+1+ts.length) uS) _=_;rw[ck hc h' a7 a8 hf om];rfl
def jR(fx:List ar)(m:Nat)(ts:List T3)(ls:List (List ND)):Prop:=∀(c:PC) (d i g:Nat) (acc:List (List ND)),AO c fx->Has c i ts->At c (i+ts.length) (cG eX)->m<=d->ts.length<g->sG c (cE c d) (cW c d) g i acc=.ok (acc++ls,i+ts.length)
theorem qu7{c:PC}{j:Nat}(h:At c j (cG gQ)):GV c j=false:=by rw[h.pg];decide
theorem jR.last{m m':Nat}{ps es:List T3}{l l':List ND}(hp:GW m ps l)(h:iV fx m' es l'):jR fx (max m m') (ps++([cG gQ]++es)) [l,l']:=fun c d i g acc hc hh hf hd hg=>by obtain⟨a1,a2⟩:=hh.app;obtain⟨a3,a4⟩:=Has.one a2;simp only[zd,List.length_singleton,<-Nat.add_assoc] at hf hg ⊢;obtain⟨g,rfl⟩:∃e,g=e+1:=⟨g-1,by omega⟩;unfold sG;rw[(hp c d i a1 (qu7 a3) om).2];show eb (eQ c (cE c d) (i+ps.length) gQ) _=_;rw[ck hc h a3 a4 (CQ hf dc) om];show(bif ct c (i+ps.length+1+es.length) [gR] then _ else _)=_;rw[hf.ct,show(decide ((cG eX).1=6)&&decide ((cG eX).2.1∈[gR]))=false by decide];rfl
theorem jR.cons{m m' m2:Nat}{ps es ts:List T3}{l l':List ND}{ls:List (List ND)}(hp:GW m ps l)(h:iV fx m' es l')(h2:jR fx m2 ts ls):jR fx (max m (max m' m2)) (ps++([cG gQ]++(es++([cG gR]++ts)))) (l::l'::ls):=fun c d i g acc hc hh hf hd hg=>by
 obtain⟨a1,a2⟩:=hh.app;obtain⟨a3,a4⟩:=Has.one a2;obtain⟨a5,a6⟩:=a4.app;obtain⟨a7,a8⟩:=Has.one a6;simp only[zd,List.length_singleton,<-Nat.add_assoc] at hf hg ⊢;obtain⟨g,rfl⟩:∃e,g=e+1:=⟨g-1,by omega⟩
 conv=>lhs;unfold sG
 rw[(hp c d i a1 (qu7 a3) om).2];show eb (eQ c (cE c d) (i+ps.length) gQ) _=_;rw[ck hc h a3 a5 (CQ a7 dc) om];show(bif ct c (i+ps.length+1+es.length) [gR] then sG c (cE c d) (cW c d) g (i+ps.length+1+es.length+1) (acc++[l,l']) else _)=_;rw[show ct c (i+ps.length+1+es.length) [gR]=true by rw[At.ct a7];decide];have a8:Has c (i+ps.length+1+es.length+1) ts:=a8;rw[cond_true,h2 c d _ g _ hc a8 hf om om,zo];rfl
theorem z4x{m m':Nat}{ts us:List T3}{l:List ND}{ls:List (List ND)}(h:iV fx m ts l)(h':jR fx m' us ls):qU fx (max m m') ([cG cX]++(ts++([cG dX]++(us++[cG eX])))) (nd 10 [] (l::ls)):=fun c d i hc hh hd=>by
 obtain⟨h0,hh⟩:=Has.one hh;obtain⟨a1,a2⟩:=hh.app;obtain⟨a3,a4⟩:=Has.one a2;obtain⟨a5,a6,_⟩:=a4.app;have a5:Has c (i+1+ts.length+1) us:=a5;have a6:At c (i+1+ts.length+1+us.length) (cG eX):=a6;have hb:iD c i=true:=by rw[h0.bg];decide
 have f1:=CQ a3 dc;have hl:=a5.le (by have:=At.lt a3;exact this);refine⟨hb,?_⟩;unfold oI;rw[hb,h0.aW,h0.aW,h0.aW,h0.aW,h0.dN];show Cy c (cE c d) (cW c d) (i+1)=_;unfold Cy;rw[(h c d (i+1) hc a1 f1.1 f1.2 om).2];show eb (cY c (i+1+ts.length) dX) _=_;rw[dO a3];show eb (sG c (cE c d) (cW c d) (c.l.length+1) (i+1+ts.length+1) [l]) _=_;rw[h' c d _ _ _ hc a5 a6 om om];show eb (cY c (i+1+ts.length+1+us.length) eX) _=_;rw[dO a6];simp only[zd,List.length_singleton,<-Nat.add_assoc];rfl
end
open Pz
structure Nn where
 i:Nat
 b:Nat
 p:Nat
def jS(ns:List Nn)(j:Nat):Nn:=(ns[j]?).getD ⟨0,0,0⟩
def jT(b:Bool)(n:Nat):Nat:=bif b then n+1 else n
def sO:List Nn->Nat
 |[]=>0
 |a::r=>max (a.i+1) (sO r)
def y0:List Nn->Nat
 |p::e::r=>max p.p (max (e.i+1) (y0 r))
 |_=>0
def Vx:List Nn->Nat
 |[]=>0
 |a::r=>max (a.i+1) (y0 r)
def mZ(p:Pt)(lv sd s:Int):Bool:=decide (p.lk=3)||sM p lv sd s
def CR(p:Pt):Bool:=decide (p.lk=2)||decide (p.lk=3)
def lp(p:Pt):Bool:=decide (p.lk≠0)
def fV(fx:List ar)(k:Int)(ks:F)(ds:List Dc)(ns:List Nn):Nat:=
 if k=6 then(match rowOf fx k ks with
  |some f=>max (jT (mZ (cF ds 0).b f.2.1 f.2.2 (-1)) (jS ns 0).b) (jT (mZ (cF ds 1).p f.2.1 f.2.2 1) (jS ns 1).i)
  |none=>max (jT (CR (cF ds 0).p) (jS ns 0).i) (jT (lp (cF ds 1).p) (jS ns 1).i))
 else if k=10 then Vx ns else sO ns
def j0(fx:List ar):F->List Nn
 |.nil=>[]
 |.cons k _ _ ks r=>⟨fV fx k ks (dF fx ks) (j0 fx ks),(jS (j0 fx ks) 1).i,kM ks+1⟩::j0 fx r
def cV(fx:List ar)(k:Int)(ks:F):Nn:=⟨fV fx k ks (dF fx ks) (j0 fx ks),(jS (j0 fx ks) 1).i,kM ks+1⟩
def Wk(lv sd:Int)(g:ar):Prop:=lv<g.2.1\/(lv=g.2.1/\sd=g.2.2)
def fP(fx:List ar)(p:Pt)(m:Nat)(l:List ND)(sz:Nat):Prop:=∃ts,FX false p.doc ts/\ts.length+1<=6*sz/\1<=ts.length/\iV fx (m+1) ts l/\
 (p.lk≠3->∃fs As x,CO fx m ts l fs As x/\3*fs.length+1<=sz/\(∀g,g∈fs->Wk p.lv p.sd g)/\(p.lk≠2->fs=[]))/\(p.lk=0->qU fx m ts l)
def Lk:F->F
 |.cons _ _ _ _ (.cons k t n ks _)=>tr k t n ks
 |_=>.nil
def Ll(fx:List ar)(d:Dc)(m:Nat)(l:List ND)(sz:Nat):Prop:=∃hs as,FX false (tq d.hd) hs/\FX true (bD d.args) as/\D4 fx (jT (CR d.p) m) (hs++as) l/\(hs++as).length<=6*sz+1
def sP(fx:List ar)(k:Int)(t:Tx)(n:Int)(ks:F):Prop:=fP fx (dT fx k t n ks).p (cV fx k ks).i (tr k t n ks).flat (ks.size+1)/\Ll fx (dT fx k t n ks) (cV fx k ks).i (tr k t n ks).flat (ks.size+1)/\
 (k=6->fP fx (dT fx k t n ks).b (cV fx k ks).b (Lk ks).flat (Lk ks).size)
def Iz(fx:List ar):Bool->Bool->F->Prop
 |_,_,.nil=>True
 |m,dS,.cons k t n ks r=>(((m&&dS)=false->sP fx k t n ks)/\((m&&dS)=true->OU k t n ks))/\Iz fx m (!dS) r
section
variable {fx:List ar} {p:Pt} {m sz:Nat} {l:List ND}
theorem Lm(ts:List T3):([cG [40]]++(ts++[cG [41]])).length=ts.length+2:=by rw[zd,zd,List.length_singleton,List.length_singleton];omega
theorem fP.arg(h:fP fx p m l sz):∃as,FX false (fy p) as/\qU fx (jT (lp p) m) as l/\as.length<=6*sz+1/\1<=as.length:=by
 obtain⟨ts,h1,h2,h3,h4,_,h6⟩:=h;unfold fy lp;by_cases h0:p.lk=0
 ·rw[zn (fun e=>e h0)];exact⟨ts,h1,h6 h0,by omega,h3⟩
 ·rw[zu h0];exact⟨_,h1.brk,h4.brk,by rw[Lm];omega,by rw[Lm];omega⟩
theorem fP.head(h:fP fx p m l sz)(hk:p.lk=0\/p.lk=2\/p.lk=3):∃hs,FX false (tq p) hs/\D4 fx (jT (CR p) m) hs l/\hs.length<=6*sz+1:=by
 obtain⟨ts,h1,h2,h3,h4,_,h6⟩:=h;unfold tq CR;rcases hk with h0|h0
 ·rw[zn (show ¬p.lk=2 by omega),zn (show ¬p.lk=3 by omega)];exact⟨ts,h1,(h6 h0).ap,by omega⟩
 ·rw[show(decide (p.lk=2)||decide (p.lk=3))=true by rcases h0 with h0|h0<;>rw[h0]<;>rfl];exact⟨_,h1.brk,h4.brk.ap,by rw[Lm];omega⟩
theorem fP.side(h:fP fx p m l sz)(f:ar)(s:Int):∃ts fs As x,FX false (qI p f.2.1 f.2.2 s) ts/\CO fx (jT (mZ p f.2.1 f.2.2 s) m) ts l fs As x/\ts.length<=6*sz+1/\1<=ts.length/\3*fs.length+1<=sz/\∀g,g∈fs->Wk p.lv p.sd g/\sM p f.2.1 f.2.2 s=false/\p.lk=2:=by
 obtain⟨ts,h1,h2,h3,h4,h5,h6⟩:=h;unfold qI;show ∃ts fs As x,FX false (mY (mZ p f.2.1 f.2.2 s) p.doc) ts/\_;cases hb:mZ p f.2.1 f.2.2 s with
 |true=>exact⟨_,[],_,_,h1.brk,h4.brk.ap.rw,by rw[Lm];omega,by rw[Lm];omega,by show 3*0+1<=sz;omega,fun g hg=>by cases hg⟩
 |false=>unfold mZ at hb;rw[Bool.or_eq_false_iff,decide_eq_false_iff_not] at hb;obtain⟨fs,As,x,g1,g2,g3,g4⟩:=h5 hb.1;refine⟨ts,fs,As,x,h1,g1,by omega,h3,g2,fun g hg=>⟨g3 g hg,hb.2,zA fun h=>?_⟩⟩;rw[g4 h] at hg;cases hg
theorem fP.at(hz:fb fx=0){ts:List T3}(h1:FX false p.doc ts)(h2:ts.length+1<=6*sz)(h3:1<=ts.length)(_hk:p.lk=0)(h:qU fx m ts l):fP fx p m l sz:=⟨ts,h1,h2,h3,h.ap.rw.ex hz (Nat.zero_le _),fun _=>⟨[],_,_,h.ap.rw,by show 3*0+1<=sz;omega,(fun g hg=>by cases hg),fun _=>rfl⟩,fun _=>h⟩
theorem fP.op{ts:List T3}(h1:FX false p.doc ts)(h2:ts.length+1<=6*sz)(h3:1<=ts.length)(hk:p.lk=3)(h:iV fx (m+1) ts l):fP fx p m l sz:=⟨ts,h1,h2,h3,h,fun e=>absurd hk e,fun e=>by rw[hk] at e;cases e⟩
end
theorem zcv{t:Tx}(h:da t=true):LO (t++[32]) [(5,t,0)]:=fun z us hz=>by have:=zb9 h ([32]++z) us (Sep.cons _ (.inl rfl)) (fA.blank (.inl rfl) hz);rw[<-zo] at this;exact this
theorem OW{a b t:Tx}{s u:List T3}(ha:LX a s)(hb:LX b u)(ht:aS t=true):LX (a++[32]++nI t++([32]++b)) (s++(jw t++u)):=by have h1:=(ha.app ((LO.sp (c:=32) (.inl rfl)).app (Vo ht)) (Sep.cons _ (.inl rfl))).app ((LO.sp (c:=32) (.inl rfl)).app hb) (Sep.cons _ (.inl rfl));refine h1.text (by simp only[zo]) (by simp only[zo,List.nil_append])
open Pz
section
variable {fx:List ar}
theorem z6a{k:Int}{t:Tx}{n:Int}{ks:F}(hl:cO fx k ks≠1){m sz:Nat}{l:List ND}(h:fP fx (dT fx k t n ks).p m l sz):Ll fx (dT fx k t n ks) m l sz:=by
 have hk:(dT fx k t n ks).p.lk=cO fx k ks:=rfl;have h3:cO fx k ks=0\/cO fx k ks=2\/cO fx k ks=3:=by
  unfold cO at hl ⊢;split
  ·split
   ·exact .inr (.inl rfl)
   ·rename_i h1 _ h2;rw[if_pos h1,h2] at hl;exact absurd rfl hl
  ·split
   ·exact .inr (.inr rfl)
   ·exact .inl rfl
 obtain⟨hs,a1,a2,a3⟩:=h.head (by rw[hk];exact h3);have e1:(dT fx k t n ks).hd=(dT fx k t n ks).p:=by show(if cO fx k ks=1 then _ else oL fx k t n ks (dF fx ks))=_;rw[if_neg hl];rfl
 have e2:(dT fx k t n ks).args=[]:=by show(if cO fx k ks=1 then _ else [])=_;rw[if_neg hl]
 refine⟨hs,[],by rw[e1];exact a1,by rw[e2];exact FX.nil _,by rw[zt];exact a2,by rw[zt];omega⟩
theorem Vy{k:Int}{t:Tx}{n:Int}{ks:F}(h6:k≠6)(h:fP fx (dT fx k t n ks).p (cV fx k ks).i (tr k t n ks).flat (ks.size+1)):sP fx k t n ks:=by refine⟨h,z6a ?_ h,fun e=>absurd e h6⟩;unfold cO;rw[if_neg h6];split<;>decide
theorem z16{k:Int}{ks:F}(h6:k≠6)(ho:kK k≠true):cO fx k ks=0:=by unfold cO;rw[if_neg h6,if_neg ho]
theorem z9i{k:Int}{ks:F}(ho:kK k=true):cO fx k ks=3:=by have h6:=(Oz ho).2.2.2.1;unfold cO;rw[if_neg h6,if_pos ho]
theorem vK(k:Int)(t:Tx):nd k t []=(tr k t 0 .nil).flat:=CM k t .nil
theorem fw(hz:fb fx=0){k:Int}{t:Tx}{n:Int}{ts:List T3}{s:Tx}(h6:k≠6)(hc:k≠10)(ho:kK k≠true)(hd:eF fx k t n .nil []=cq s)(hx:LX s ts)(hl:ts.length<=3/\1<=ts.length)(h:qU fx 0 ts (tr k t n .nil).flat):sP fx k t n .nil:=by
 have hi:(cV fx k .nil).i=0:=by show fV fx k .nil [] []=0;unfold fV;rw[if_neg h6,if_neg hc];rfl
 refine Vy h6 (fP.at hz (ts:=ts) ?_ ?_ hl.2 (show cO fx k .nil=0 from z16 h6 ho) (by rw[hi];exact h))
 ·show FX false (eF fx k t n .nil []) ts;rw[hd];exact FX.tx hx
 ·show ts.length+1<=6*(0+1);omega
theorem jP:∀(N:Nat) (r:F),r.size<=N->Iz fx true true r->r.au % 2=0->r≠.nil->∃ts,FX true (bD (nJ (dF fx r))) ([cG gR]++ts)/\jR fx (y0 (j0 fx r)) ts (uX r)/\ts.length+1<=6*r.size
 |_,.nil,_,_,_,h=>absurd rfl h
 |_,.cons k t n ks .nil,_,_,h,_=>absurd h (by show ¬(0+1) % 2=0;decide)
 |0,.cons k t n ks (.cons k' t' n' bO r),h,_,_,_=>by have h:ks.size+(bO.size+r.size+1)+1<=0:=h;omega
 |N+1,.cons k t n ks (.cons k' t' n' bO r),h,hs,hc,_=>by
  have h:ks.size+(bO.size+r.size+1)+1<=N+1:=h;obtain⟨⟨_,h1⟩,⟨h2,_⟩,h3⟩:=hs;obtain⟨ps,_,x1,_,x3,_,x5,_,_⟩:=h1 rfl;obtain⟨⟨es,y1,y2,y3,y4,_⟩,_⟩:=h2 rfl;have hc:(r.au+1+1) % 2=0:=hc;have he:LX ([124,32]++(cy k t n (bL ks)++[32,45,62])) ([cG gR]++(ps++[cG gQ])):=by have a1:LX gR [cG gR]:=OS rfl dc;have a2:LX gQ [cG gQ]:=OS rfl dc;have:=a1.app ((LO.sp (c:=32) (.inl rfl)).app (x1.app ((LO.sp (c:=32) (.inl rfl)).app a2) (Sep.cons _ (.inl rfl)))) (Sep.cons _ (.inl rfl));exact this.text (by simp[gR,gQ]) rfl
  have hg:(dT fx k t n ks).pt=cy k t n (bL ks):=rfl;have e:nJ (dF fx (.cons k t n ks (.cons k' t' n' bO r)))=[cB,cq ([124,32]++(cy k t n (bL ks)++[32,45,62])),cm (dT fx k' t' n' bO).p.doc]++nJ (dF fx r):=rfl;have hf:=fun {b:List F} {us:List T3} (hb:FX true (bD b) us)=>FX.ln (b:=false) (FX.cons (FX.tx he) (FX.cons (FX.ll y1) hb));rw[e];by_cases hr:r=.nil
  ·subst hr;have:=hf (b:=[]) (us:=[]) (FX.nil true);refine⟨ps++([cG gQ]++es),this.eq (by simp only[zo,zt]),?_,?_⟩
   ·have:=jR.last x3 y4;show jR fx (max (kM ks+1) (max ((cV fx k' bO).i+1) 0)) _ _;rw[Nat.max_zero];exact this
   ·rw[zd,zd,List.length_singleton];show _<=6*(ks.size+(bO.size+0+1)+1);omega
  ·obtain⟨us,z1,z2,z3⟩:=jP N r om h3 om hr;have:=hf z1;refine⟨ps++([cG gQ]++(es++([cG gR]++us))),this.eq (by simp only[zo]),jR.cons x3 y4 z2,?_⟩;simp only[zd,List.length_singleton];show _<=6*(ks.size+(bO.size+r.size+1)+1);omega
end
open Pz
section
variable {fx:List ar}
theorem Vz(k:Int)(t:Tx)(a:Int)(b:Tx)(c:Int)(d:F):(tr k t 0 (.cons a b c d .nil)).flat=nd k t [(tr a b c d).flat]:=(CM k t (.cons a b c d .nil)).symm
theorem AP(k:Int)(t:Tx)(a:Int)(b:Tx)(c:Int)(d:F)(a':Int)(b':Tx)(c':Int)(d':F):(tr k t 0 (.cons a b c d (.cons a' b' c' d' .nil))).flat=nd k t [(tr a b c d).flat,(tr a' b' c' d').flat]:=(CM k t (.cons a b c d (.cons a' b' c' d' .nil))).symm
theorem z4y(hz:fb fx=0){a:Int}{b:Tx}{c:Int}{d:F}{a':Int}{b':Tx}{c':Int}{d':F}(he:rowOf fx 6 (.cons a b c d (.cons a' b' c' d' .nil))=none)(s1:sP fx a b c d)(s2:sP fx a' b' c' d'):sP fx 6 [] 0 (.cons a b c d (.cons a' b' c' d' .nil)):=by
 obtain⟨_,⟨hs,as,h1,h2,h3,h4⟩,_⟩:=s1;obtain⟨us,g1,g2,g3,g4⟩:=s2.1.arg;have e0:cF (dF fx (.cons a b c d (.cons a' b' c' d' .nil))) 0=dT fx a b c d:=rfl;have e1:cF (dF fx (.cons a b c d (.cons a' b' c' d' .nil))) 1=dT fx a' b' c' d':=rfl;have n0:jS (j0 fx (.cons a b c d (.cons a' b' c' d' .nil))) 0=cV fx a d:=rfl;have n1:jS (j0 fx (.cons a b c d (.cons a' b' c' d' .nil))) 1=cV fx a' d':=rfl;have hj:cO fx 6 (.cons a b c d (.cons a' b' c' d' .nil))=1:=by unfold cO;rw[if_pos rfl,he]
 have hn:(F.cons a b c d (.cons a' b' c' d' .nil)).size=d.size+1+(d'.size+1):=by show d.size+(d'.size+0+1)+1=_;omega
 have hc:FX true (bD ((dT fx a b c d).args++[cB,fy (dT fx a' b' c' d').p])) (as++us):=by rw[Ou];exact h2.app (FX.ln (FX.one g1))
 have hf:=h3.app g2 g4;rw[<-AP 6 [] a b c d a' b' c' d'] at hf;have hi:(cV fx 6 (.cons a b c d (.cons a' b' c' d' .nil))).i=max (jT (CR (dT fx a b c d).p) (cV fx a d).i) (jT (lp (dT fx a' b' c' d').p) (cV fx a' d').i):=by show fV fx 6 _ _ _=_;unfold fV;rw[if_pos rfl,he,e0,e1,n0,n1]
 have hk:(dT fx 6 [] 0 (.cons a b c d (.cons a' b' c' d' .nil))).p.doc=GP (dT fx a b c d).hd ((dT fx a b c d).args++[cB,fy (dT fx a' b' c' d').p]):=by show eF fx 6 [] 0 _ _=_;unfold eF;rw[if_neg dc,if_neg dc,if_neg dc,if_neg dc,if_neg dc,if_pos rfl,he,e0,e1]
 have hm:FX false (dT fx 6 [] 0 (.cons a b c d (.cons a' b' c' d' .nil))).p.doc (hs++(as++us)):=by rw[hk];exact FX.oO (FX.cons h1 (FX.one (FX.nest hc)))
 rw[<-zo] at hm;rw[<-hi] at hf;have hl:(hs++as++us).length+1<=6*((F.cons a b c d (.cons a' b' c' d' .nil)).size+1):=by rw[zd,hn];omega
 refine⟨⟨_,hm,hl,by rw[zd];omega,hf.rw.ex hz (Nat.zero_le _),fun _=>⟨[],_,_,hf.rw,by show 3*0+1<=_;omega,(fun g hg=>by cases hg),fun _=>rfl⟩,fun e=>?_⟩,⟨hs,as++us,?_,?_,?_,?_⟩,fun _=>?_⟩
 ·have:cO fx 6 (.cons a b c d (.cons a' b' c' d' .nil))=0:=e;rw[hj] at this;cases this
 ·show FX false (tq (if _ then _ else _)) hs;rw[if_pos hj,e0];exact h1
 ·show FX true (bD (if _ then _ else _)) _;rw[if_pos hj,e0,e1];exact hc
 ·rw[<-zo];have:CR (dT fx 6 [] 0 (.cons a b c d (.cons a' b' c' d' .nil))).p=false:=by show(decide (cO fx 6 _=2)||decide (cO fx 6 _=3))=false;rw[hj];rfl
  rw[this];exact hf
 ·rw[<-zo];omega
 ·show fP fx (if(6:Int)=6 then(dT fx a' b' c' d').p else pz) (cV fx a' d').i (tr a' b' c' d').flat (d'.size+0+1);rw[if_pos rfl];exact s2.1
theorem Ln{p:Pt}{f g:ar}(hw:Wk p.lv p.sd g)(hl:sM p f.2.1 f.2.2 (-1)=false)(hk:p.lk=2):Li f g:=by unfold sM at hl;rw[zu hk,Bool.true_and,Bool.or_eq_false_iff,decide_eq_false_iff_not,Bool.and_eq_false_iff,decide_eq_false_iff_not,Bool.or_eq_false_iff,decide_eq_false_iff_not,decide_eq_false_iff_not] at hl;unfold Wk at hw;unfold Li;omega
theorem Lo{p:Pt}{f g:ar}(hw:Wk p.lv p.sd g)(hl:sM p f.2.1 f.2.2 1=false)(hk:p.lk=2):Lj f g:=by unfold sM at hl;rw[zu hk,Bool.true_and,Bool.or_eq_false_iff,decide_eq_false_iff_not,Bool.and_eq_false_iff,decide_eq_false_iff_not,Bool.or_eq_false_iff,decide_eq_false_iff_not,decide_eq_false_iff_not] at hl;unfold Wk at hw;unfold Lj;omega
theorem zbm(hz:fb fx=0){f g:ar}(hf:f∈fx)(hg:g∈fx)(h:Li f g\/Lj f g):Wk f.2.1 f.2.2 g:=by have r1:=OQ hz f hf;have r2:=OQ hz g hg;unfold lj at r1 r2;simp only[ze,decide_eq_true_eq] at r1 r2;unfold Li Lj at h;unfold Wk;omega
theorem z4z(hz:fb fx=0){f:ar}{d:F}{b:Tx}{c:Int}{a':Int}{b':Tx}{c':Int}{d':F}(hv:d.size+d'.size<=1000)(hf:eD false false false (.cons 6 b c d (.cons a' b' c' d' .nil))=0)(he:rowOf fx 6 (.cons 6 b c d (.cons a' b' c' d' .nil))=some f)(s1:sP fx 6 b c d)(s2:sP fx a' b' c' d'):sP fx 6 [] 0 (.cons 6 b c d (.cons a' b' c' d' .nil)):=by
 obtain⟨v1,_⟩:=cJ.1 hf;obtain⟨w1,w2⟩:=bG.1 v1;obtain⟨_,_,wk,wn,wt,_⟩:=bF.1 w1;obtain rfl:=CN wn dc;obtain rfl:=D3 (by simp) wt;obtain⟨a3,s3,c3,d3,r,rfl,hr⟩:=fX (ks:=d) (n:=1) (by have:=(vD wk).2.1 (.inl rfl);omega);obtain⟨a4,b4,c4,d4,r',rfl,hw⟩:=fX (n:=0) hr;obtain rfl:=tw hw;have hc:(if(6:Int)=6/\(6:Int)=6/\a3=3 then jq fx s3 else none)=some f:=he;have hx:a3=3:=zA fun h=>by rw[if_neg (fun e=>h e.2.2)] at hc;cases hc
 subst hx;rw[if_pos ⟨rfl,rfl,rfl⟩] at hc;obtain⟨hl,hy⟩:=AI hc;subst hy;obtain⟨x1,_⟩:=cJ.1 w2;obtain⟨y1,_⟩:=bG.1 x1;obtain⟨_,_,yk,yn,_,_⟩:=bF.1 y1;obtain rfl:=uN ((vD yk).2.2.2.2 (by simp));obtain rfl:=CN yn dc;have hj:(tr 6 [] 0 (.cons 6 [] 0 (.cons 3 f.1 0 .nil (.cons a4 b4 c4 d4 .nil)) (.cons a' b' c' d' .nil))).flat=nd 6 [] [nd 6 [] [nd 3 f.1 [],(tr a4 b4 c4 d4).flat],(tr a' b' c' d').flat]:=by rw[AP,AP,vK]
 have hb:=s1.2.2 rfl;have hb:fP fx (dT fx 6 [] 0 (.cons 3 f.1 0 .nil (.cons a4 b4 c4 d4 .nil))).b (cV fx 6 (.cons 3 f.1 0 .nil (.cons a4 b4 c4 d4 .nil))).b (tr a4 b4 c4 d4).flat (d4.size+1):=hb;obtain⟨ts,fs,As,x,p1,p2,p3,p4,p5,p6⟩:=hb.side f (-1);obtain⟨us,kl,CP,x',q1,q2,q3,q4,q5,q6⟩:=s2.1.side f 1;have hm:=p2.op q2 hc (fun g hg=>Ln (p6 g hg).1 (p6 g hg).2.1 (p6 g hg).2.2) (fun g hg=>Lo (q6 g hg).1 (q6 g hg).2.1 (q6 g hg).2.2);rw[<-hj] at hm;have hA:=Vm hz f hl;have hB:FX false (CE f (dT fx 6 [] 0 (.cons 3 f.1 0 .nil (.cons a4 b4 c4 d4 .nil))).b (dT fx a' b' c' d').p) (ts++([(5,f.1,0)]++us)):=FX.oO (FX.cons p1 (FX.one (FX.nest (FX.ln ((FO.tx (zcv hA)).app (FX.one q1))))));have hq:(F.cons 3 f.1 0 .nil (.cons a4 b4 c4 d4 .nil)).size=d4.size+2:=by show 0+(d4.size+0+1)+1=_;omega
 rw[hq] at hv;have hs:(F.cons 6 [] 0 (.cons 3 f.1 0 .nil (.cons a4 b4 c4 d4 .nil)) (.cons a' b' c' d' .nil)).size+1=d4.size+1+(d'.size+1)+3:=by show(F.cons 3 f.1 0 .nil (.cons a4 b4 c4 d4 .nil)).size+(d'.size+0+1)+1+1=_;rw[hq];omega
 have hk:(ts++([((5:Int),f.1,(0:Int))]++us)).length=ts.length+us.length+1:=by rw[zd,zd,List.length_singleton];omega
 have ht:(fs++f::kl).length=fs.length+kl.length+1:=by rw[zd,zj];omega
 have hn:cO fx 6 (.cons 6 [] 0 (.cons 3 f.1 0 .nil (.cons a4 b4 c4 d4 .nil)) (.cons a' b' c' d' .nil))=2:=by unfold cO;rw[if_pos rfl,he]
 have hu:fP fx (dT fx 6 [] 0 (.cons 6 [] 0 (.cons 3 f.1 0 .nil (.cons a4 b4 c4 d4 .nil)) (.cons a' b' c' d' .nil))).p (cV fx 6 (.cons 6 [] 0 (.cons 3 f.1 0 .nil (.cons a4 b4 c4 d4 .nil)) (.cons a' b' c' d' .nil))).i
   (tr 6 [] 0 (.cons 6 [] 0 (.cons 3 f.1 0 .nil (.cons a4 b4 c4 d4 .nil)) (.cons a' b' c' d' .nil))).flat ((F.cons 6 [] 0 (.cons 3 f.1 0 .nil (.cons a4 b4 c4 d4 .nil)) (.cons a' b' c' d' .nil)).size+1):=by
  have hi:(cV fx 6 (.cons 6 [] 0 (.cons 3 f.1 0 .nil (.cons a4 b4 c4 d4 .nil)) (.cons a' b' c' d' .nil))).i=max (jT (mZ (dT fx 6 [] 0 (.cons 3 f.1 0 .nil (.cons a4 b4 c4 d4 .nil))).b f.2.1 f.2.2 (-1)) (cV fx 6 (.cons 3 f.1 0 .nil (.cons a4 b4 c4 d4 .nil))).b) (jT (mZ (dT fx a' b' c' d').p f.2.1 f.2.2 1) (cV fx a' d').i):=by show fV fx 6 _ _ _=_;unfold fV;rw[if_pos rfl,he];rfl
  refine⟨ts++([(5,f.1,0)]++us),?_,?_,?_,?_,fun _=>⟨fs++f::kl,As++CP,fun a=>((a+fs.length:Nat):Int)::(x a++x' (a+fs.length+1)),?_,?_,?_,fun e=>absurd hn e⟩,fun e=>?_⟩
  ·have ho:(dT fx 6 [] 0 (.cons 6 [] 0 (.cons 3 f.1 0 .nil (.cons a4 b4 c4 d4 .nil)) (.cons a' b' c' d' .nil))).p.doc=CE f (dT fx 6 [] 0 (.cons 3 f.1 0 .nil (.cons a4 b4 c4 d4 .nil))).b (dT fx a' b' c' d').p:=by show eF fx 6 [] 0 _ _=_;unfold eF;rw[if_neg dc,if_neg dc,if_neg dc,if_neg dc,if_neg dc,if_pos rfl,he];rfl
   rw[ho];exact hB
  ·rw[hk,hs];omega
  ·rw[hk];omega
  ·rw[hi];exact hm.ex hz (by rw[ht];omega)
  ·rw[hi];exact hm
  ·rw[ht,hs];omega
  ·have elv:(dT fx 6 [] 0 (.cons 6 [] 0 (.cons 3 f.1 0 .nil (.cons a4 b4 c4 d4 .nil)) (.cons a' b' c' d' .nil))).p.lv=f.2.1:=by show((rowOf fx 6 _).getD ([],0,0)).2.1=_;rw[he];rfl
   have esd:(dT fx 6 [] 0 (.cons 6 [] 0 (.cons 3 f.1 0 .nil (.cons a4 b4 c4 d4 .nil)) (.cons a' b' c' d' .nil))).p.sd=f.2.2:=by show((rowOf fx 6 _).getD ([],0,0)).2.2=_;rw[he];rfl
   intro g hg;rw[elv,esd];rcases zN.1 hg with hg|hg
   ·exact zbm hz hl (AI (p2.f g hg)).1 (.inl (Ln (p6 g hg).1 (p6 g hg).2.1 (p6 g hg).2.2))
   ·rcases zw.1 hg with rfl|hg
    ·exact .inr ⟨rfl,rfl⟩
    ·exact zbm hz hl (AI (q2.f g hg)).1 (.inr (Lo (q6 g hg).1 (q6 g hg).2.1 (q6 g hg).2.2))
  ·have:cO fx 6 _=0:=e;rw[hn] at this;cases this
 refine⟨hu,z6a (by rw[hn];decide) hu,fun _=>?_⟩;show fP fx (if(6:Int)=6 then(dT fx a' b' c' d').p else pz) (cV fx a' d').i (tr a' b' c' d').flat (d'.size+0+1);rw[if_pos rfl];exact s2.1
end
open Pz
section
variable {fx:List ar}
theorem iV.mono{m m':Nat}{ts:List T3}{l:List ND}(h:iV fx m ts l)(hm:m<=m'):iV fx m' ts l:=fun c d i hc hh h1 h2 hd=>h c d i hc hh h1 h2 om
theorem qU.mono{m m':Nat}{ts:List T3}{l:List ND}(h:qU fx m ts l)(hm:m<=m'):qU fx m' ts l:=fun c d i hc hh hd=>h c d i hc hh om
theorem sQ{w:Tx}(hw:w∈[ix,gm,pe,cU,iU,gn,uS,iy,iz,cX,dX,eX]):LX w [cG w]:=by simp only[zw,List.not_mem_nil,or_false] at hw;rcases hw with rfl|rfl|rfl|rfl|rfl|rfl|rfl|rfl|rfl|rfl|rfl|rfl<;>exact zco rfl rfl dc
theorem VA:LX gQ [cG gQ]:=OS rfl dc
theorem zbn:LX vE [cG vE]:=OS rfl dc
theorem IA{k:Int}{t:Tx}{n:Int}{ks:F}(ho:kK k=true){ts:List T3}{m:Nat}(h1:FX false (GO k t (cF (dF fx ks) 0).p.doc (cF (dF fx ks) 1).p.doc (cF (dF fx ks) 2).p.doc) ts)(h2:ts.length+1<=6*(ks.size+1))(h3:1<=ts.length)(h4:iV fx m ts (tr k t n ks).flat)(hm:m<=sO (j0 fx ks)+1):sP fx k t n ks:=by
 obtain⟨_,_,_,h6,hc⟩:=Oz ho;have hi:(cV fx k ks).i=sO (j0 fx ks):=by show fV fx k ks _ _=_;unfold fV;rw[if_neg h6,if_neg hc]
 refine Vy h6 (fP.op (ts:=ts) ?_ h2 h3 (show cO fx k ks=3 from z9i ho) (h4.mono (by rw[hi];exact hm)));show FX false (eF fx k t n ks (dF fx ks)) ts;rw[OA fx t n ks _ ho];exact h1
theorem CS{p:Pt}{m sz:Nat}{l:List ND}(h:fP fx p m l sz):∃ts,FX false p.doc ts/\ts.length+1<=6*sz/\1<=ts.length/\iV fx (m+1) ts l:=by obtain⟨ts,h1,h2,h3,h4,_⟩:=h;exact⟨ts,h1,h2,h3,h4⟩
theorem qu8(t:Tx):(jw t).length<=3/\1<=(jw t).length:=by unfold jw;cases da t<;>simp
theorem zbo{k:Int}{t:Tx}{n:Int}{ks:F}(ho:kK k=true)(hv:bI k t n ks false=0)(hs:Iz fx false false ks):sP fx k t n ks:=by
 obtain⟨hn,_⟩:=bG.1 hv;obtain⟨_,_,hk,he,hc,_⟩:=bF.1 hn;obtain⟨c1,c2,c3,_,_⟩:=vD hk;obtain⟨g1,_,_,_,_⟩:=Oz ho;have g23:k≠23:=by rcases yV ho with h|h|h|h|h|h<;>omega
 obtain rfl:=CN he ⟨g1,g23⟩;have hl:=qu8 t;by_cases hA:k=5\/k=11
 ·obtain⟨a,b,c,d,rfl⟩:=Ox (c1 hA);obtain⟨ts,x1,x2,x3,x4⟩:=CS (hs.1.1 rfl).1;rcases hA with rfl|rfl
  ·have h:=zbi t x4;rw[<-Vz] at h;refine IA rfl (ts:=[cG ix]++(jw t++([cG gQ]++ts))) ?_ ?_ ?_ h (Nat.succ_le_succ (Nat.le_max_left _ _))
   ·have h1:=FX.tx ((OW (sQ (w:=ix) dc) VA (AM (.inr (.inl rfl)) hc)));exact(FX.oO (FX.cons h1 (FX.one (FX.ll x1)))).eq (by simp only[zo])
   ·simp only[zd,List.length_singleton];show _<=6*(d.size+0+1+1);omega
   ·simp only[zd,List.length_singleton];omega
  ·obtain rfl:=D3 (by simp) hc;have h:=z4w x4;rw[<-Vz] at h;refine IA rfl (ts:=[cG cU]++ts) ?_ ?_ ?_ h (Nat.succ_le_succ (Nat.le_max_left _ _))
   ·exact FX.oO (FX.cons (FX.tx (sQ dc)) (FX.one (FX.ll x1)))
   ·simp only[zd,List.length_singleton];show _<=6*(d.size+0+1+1);omega
   ·simp only[zd,List.length_singleton];omega
 by_cases h9:k=9
 ·subst h9;obtain rfl:=D3 (by simp) hc;obtain⟨a,b,c,d,r,rfl,hr⟩:=fX (ks:=ks) (n:=2) (by have:=c3 rfl;omega);obtain⟨a',b',c',d',r',rfl,hf⟩:=fX (n:=1) hr;obtain⟨a2,b2,jh,d2,r2,rfl,hj⟩:=fX (n:=0) hf;obtain rfl:=tw hj;obtain⟨⟨s1,_⟩,⟨s2,_⟩,⟨s3,_⟩,_⟩:=hs;obtain⟨ts,x1,x2,x3,x4⟩:=CS (s1 rfl).1;obtain⟨us,y1,y2,y3,y4⟩:=CS (s2 rfl).1;obtain⟨vs,z1,z2,z3,z4⟩:=CS (s3 rfl).1;have h:=zcu x4 y4 z4;have e:nd 9 [] [(tr a b c d).flat,(tr a' b' c' d').flat,(tr a2 b2 jh d2).flat]=(tr 9 [] 0 (.cons a b c d (.cons a' b' c' d' (.cons a2 b2 jh d2 .nil)))).flat:=CM 9 [] (.cons a b c d (.cons a' b' c' d' (.cons a2 b2 jh d2 .nil)));rw[e] at h;refine IA rfl (ts:=[cG pe]++(ts++([cG iy]++(us++([cG iz]++vs))))) ?_ ?_ ?_ h ?_
  ·exact FX.oO (FX.cons (FX.tx (sQ dc)) (FX.cons (FX.ll x1) (FX.ln (FX.cons (FX.tx (sQ (w:=iy) dc)) (FX.cons (FX.ll y1) (FX.ln (FX.cons (FX.tx (sQ (w:=iz) dc)) (FX.one (FX.ll z1)))))))))
  ·simp only[zd,List.length_singleton];show _<=6*(d.size+(d'.size+(d2.size+0+1)+1)+1+1);omega
  ·simp only[zd,List.length_singleton];omega
  ·show _<=max ((cV fx a d).i+1) (max ((cV fx a' d').i+1) (max ((cV fx a2 d2).i+1) 0))+1;omega
 have h2:k=7\/k=8\/k=12:=by
  rcases yV ho with h|h|h|h|h|h
  ·exact absurd (.inl h) hA
  ·exact .inl h
  ·exact .inr (.inl h)
  ·exact absurd h h9
  ·exact absurd (.inr h) hA
  ·exact .inr (.inr h)
 obtain⟨a,b,c,d,r,rfl,hr⟩:=fX (ks:=ks) (n:=1) (by have:=c2 om;omega);obtain⟨a',b',c',d',r',rfl,hf⟩:=fX (n:=0) hr;obtain rfl:=tw hf;obtain⟨⟨s1,_⟩,⟨s2,_⟩,_⟩:=hs;obtain⟨ts,x1,x2,x3,x4⟩:=CS (s1 rfl).1;obtain⟨us,y1,y2,y3,y4⟩:=CS (s2 rfl).1;have hm:max ((cV fx a d).i+1) ((cV fx a' d').i+1)+1<=sO (j0 fx (.cons a b c d (.cons a' b' c' d' .nil)))+1:=by show _<=max ((cV fx a d).i+1) (max ((cV fx a' d').i+1) 0)+1;omega
 have hg:6*((F.cons a b c d (.cons a' b' c' d' .nil)).size+1)=6*(d.size+1)+6*(d'.size+1)+6:=by show 6*(d.size+(d'.size+0+1)+1+1)=_;omega
 rcases h2 with rfl|rfl|rfl
 ·have h:=zbk t x4 y4;rw[<-AP] at h;refine IA rfl (ts:=[cG gm]++(jw t++([cG vE]++(ts++([cG uS]++us))))) ?_ ?_ ?_ h hm
  ·have h1:=FX.tx ((OW (sQ (w:=gm) dc) zbn (AM (.inr (.inr (.inl rfl))) hc)));exact(FX.oO (FX.cons h1 (FX.cons (FX.ll x1) (FX.ln (FX.cons (FX.tx (sQ (w:=uS) dc)) (FX.ln (FX.one y1))))))).eq (by simp only[zo])
  ·rw[hg];simp only[zd,List.length_singleton];omega
  ·simp only[zd,List.length_singleton];omega
 ·have h:=zbl t x4 y4;rw[<-AP] at h;refine IA rfl (ts:=[cG gm]++([cG gn]++(jw t++([cG vE]++(ts++([cG uS]++us)))))) ?_ ?_ ?_ h hm
  ·have h0:=(sQ (w:=gm) dc).app ((LO.sp (c:=32) (.inl rfl)).app (sQ (w:=gn) dc)) (Sep.cons _ (.inl rfl));have h1:=FX.tx ((OW h0 zbn (AM (.inr (.inr (.inr (.inl rfl)))) hc)));exact(FX.oO (FX.cons h1 (FX.cons (FX.ll x1) (FX.ln (FX.cons (FX.tx (sQ (w:=uS) dc)) (FX.ln (FX.one y1))))))).eq (by simp only[zo,List.nil_append])
  ·rw[hg];simp only[zd,List.length_singleton];omega
  ·simp only[zd,List.length_singleton];omega
 ·have h:=zbj t x4 y4;rw[<-AP] at h;refine IA rfl (ts:=[cG iU]++(ts++([cG dX]++(jw t++([cG gQ]++us))))) ?_ ?_ ?_ h hm
  ·have h1:=FX.tx ((OW (sQ (w:=dX) dc) VA (AM (.inr (.inr (.inr (.inr rfl)))) hc)));exact(FX.oO (FX.cons (FX.tx (sQ (w:=iU) dc)) (FX.cons (FX.ll x1) (FX.ln (FX.cons h1 (FX.one (FX.ll y1))))))).eq (by simp only[zo])
  ·rw[hg];simp only[zd,List.length_singleton];omega
  ·simp only[zd,List.length_singleton];omega
theorem z17{ks:F}(ds:List Dc)(ns:List Nn):fV fx 10 ks ds ns=Vx ns:=by unfold fV;rw[if_neg dc,if_pos rfl]
theorem z9j(hz:fb fx=0){t:Tx}{n:Int}{ks:F}(hv:bI 10 t n ks false=0)(hs:Iz fx true false ks):sP fx 10 t n ks:=by
 obtain⟨hn,_⟩:=bG.1 hv;obtain⟨_,_,hk,hj,hm,_⟩:=bF.1 hn;obtain⟨_,_,_,rY,_⟩:=vD hk;obtain rfl:=CN hj dc;obtain rfl:=D3 (by simp) hm;obtain⟨rY,J6⟩:=rY rfl;obtain⟨a,b,c,d,r,rfl,hr⟩:=fX (ks:=ks) (n:=ks.au-1) om;have hc:(F.cons a b c d r).au=r.au+1:=rfl;obtain⟨a',b',c',d',r',rfl,ho⟩:=fX (ks:=r) (n:=r.au-1) om;have hq:(F.cons a' b' c' d' r').au=r'.au+1:=rfl;obtain⟨a2,b2,jh,d2,r2,rfl,ht⟩:=fX (ks:=r') (n:=r'.au-1) om;have hu:(F.cons a2 b2 jh d2 r2).au=r2.au+1:=rfl;obtain⟨⟨s1,_⟩,⟨_,s2⟩,⟨s3,_⟩,s4⟩:=hs;obtain⟨ts,x1,x2,x3,x4⟩:=CS (s1 rfl).1;obtain⟨ps,_,p1,_,p3,_,p5,_,_⟩:=s2 rfl;obtain⟨es,y1,y2,y3,y4⟩:=CS (s3 rfl).1;have hi:(cV fx 10 (.cons a b c d (.cons a' b' c' d' (.cons a2 b2 jh d2 r2)))).i=max ((cV fx a d).i+1) (max (kM d'+1) (max ((cV fx a2 d2).i+1) (y0 (j0 fx r2)))):=by exact z17 (fx:=fx) (ks:=.cons a b c d (.cons a' b' c' d' (.cons a2 b2 jh d2 r2))) (dF fx (.cons a b c d (.cons a' b' c' d' (.cons a2 b2 jh d2 r2)))) (j0 fx (.cons a b c d (.cons a' b' c' d' (.cons a2 b2 jh d2 r2))))
 have he:LX (cy a' b' c' (bL d')++[32,45,62]) (ps++[cG gQ]):=p1.app ((LO.sp (c:=32) (.inl rfl)).app VA) (Sep.cons _ (.inl rfl));have hg:FX true (bD [cB,cq eX]) [cG eX]:=FX.ln (FX.one (FX.tx (sQ (w:=eX) dc)));have hl:=fun {us:List T3} {f:F} (hf:FX true f us)=>FX.app hf hg;have key:∀us:List T3,FX true (bD (nJ (dF fx r2)++[cB,cq eX])) (us++[cG eX])->jR fx (max (kM d'+1) (max ((cV fx a2 d2).i+1) (y0 (j0 fx r2)))) (ps++([cG gQ]++(es++us))) ((tr a' b' c' d').flat::(tr a2 b2 jh d2).flat::uX r2)->us.length<=6*r2.size->
   sP fx 10 [] 0 (.cons a b c d (.cons a' b' c' d' (.cons a2 b2 jh d2 r2))):=fun us h1 h2 h3=>by
  have h:=z4x x4 h2;have e:nd 10 [] ((tr a b c d).flat::(tr a' b' c' d').flat::(tr a2 b2 jh d2).flat::uX r2)=(tr 10 [] 0 (.cons a b c d (.cons a' b' c' d' (.cons a2 b2 jh d2 r2)))).flat:=CM 10 [] (.cons a b c d (.cons a' b' c' d' (.cons a2 b2 jh d2 r2)));rw[e,<-hi] at h;refine Vy dc (fP.at hz ?_ ?_ ?_ (z16 (fx:=fx) (ks:=.cons a b c d (.cons a' b' c' d' (.cons a2 b2 jh d2 r2))) (show(10:Int)≠6 by decide) (show kK 10≠true by decide)) h)
  ·have hn:FX true (kJ [cB,cq (cy a' b' c' (bL d')++[32,45,62]),cm (dT fx a2 b2 jh d2).p.doc]) (ps++[cG gQ]++es):=FX.nest (FX.ln (FX.cons (FX.tx he) (FX.one (FX.ll y1))));have:=FX.oO (l:=[cq cX,cm (dT fx a b c d).p.doc,cB,cq dX]++([kJ [cB,cq (cy a' b' c' (bL d')++[32,45,62]),cm (dT fx a2 b2 jh d2).p.doc]]++(nJ (dF fx r2)++[cB,cq eX]))) (FX.cons (FX.tx (sQ (w:=cX) dc)) (FX.cons (FX.ll x1) (FX.ln (FX.cons (FX.tx (sQ (w:=dX) dc)) (FX.cons hn h1)))));exact this.eq (by simp only[zo])
  ·simp only[zd,List.length_singleton];show _<=6*(d.size+(d'.size+(d2.size+r2.size+1)+1)+1+1);omega
  ·simp only[zd,List.length_singleton];omega
 by_cases h0:r2=.nil
 ·subst h0;refine key [] hg ?_ (Nat.zero_le _);rw[zt];show jR fx (max (kM d'+1) (max ((cV fx a2 d2).i+1) 0)) _ _;rw[Nat.max_zero];exact jR.last p3 y4
 ·obtain⟨us,z1,z2,z3⟩:=jP r2.size r2 (Nat.le_refl _) s4 om h0;refine key ([cG gR]++us) ?_ (jR.cons p3 y4 z2) (by rw[zd,List.length_singleton];omega);rw[Ou];exact hl z1
theorem zcw(hz:fb fx=0){k:Int}{t:Tx}{n:Int}{ks:F}(hm:ks.size<=1000)(hb:∀c,c∈t->0<=c/\c<=255)(hv:bI k t n ks false=0)(hs:Iz fx (ag k 10) false ks):sP fx k t n ks:=by
 obtain⟨hn,hf⟩:=bG.1 hv;obtain⟨ht,hq,hk,he,hg,_⟩:=bF.1 hn;obtain⟨_,c2,_,_,c0⟩:=vD hk;by_cases ho:kK k=true
 ·have lW:ag k 10=false:=by rcases yV ho with h|h|h|h|h|h<;>subst h<;>rfl
  rw[lW] at hs;exact zbo ho hv hs
 by_cases g10:k=10
 ·subst g10;exact z9j hz hv hs
 by_cases h6:k=6
 ·subst h6;obtain rfl:=CN he dc;obtain rfl:=D3 (by simp) hg;obtain⟨a,b,c,d,r,rfl,hr⟩:=fX (ks:=ks) (n:=1) (by have:=c2 (.inl rfl);omega);obtain⟨a',b',c',d',r',rfl,hu⟩:=fX (n:=0) hr;obtain rfl:=tw hu;obtain⟨⟨s1,_⟩,⟨s2,_⟩,_⟩:=hs;cases hc:rowOf fx 6 (.cons a b c d (.cons a' b' c' d' .nil)) with
  |none=>exact z4y hz hc (s1 rfl) (s2 rfl)
  |some f=>
   have ha:a=6:=zA fun h=>by rw[K6 fx h] at hc;cases hc
   subst ha;have hm:d.size+(d'.size+0+1)+1<=1000:=hm;exact z4z hz om hf hc (s1 rfl) (s2 rfl)
 by_cases g1:k=1
 ·subst g1;obtain rfl:=D3 (by simp) hg;obtain rfl:=uN (c0 (by simp));exact fw hz dc dc dc rfl (z66 (zbc he (.inl rfl))) (by simp) (zbf n)
 have hj:k≠23:=by intro e;subst e;exact absurd hq dc
 obtain rfl:=CN he ⟨g1,hj⟩;by_cases g2:k=2
 ·subst g2;obtain rfl:=uN (c0 (by simp));have hl:t.length<=200:=by
   unfold qT at hg;by_cases h:t.length<=200
   ·exact h
   ·rw[show aK 200 (ae t)=true from zu (show(200:Int)<((t.length:Nat):Int) by omega)] at hg;cases hg
  exact fw hz dc dc dc rfl (zbb hb hl).lx (by simp) (by rw[<-vK];exact zbg t)
 by_cases g3:k=3
 ·subst g3;obtain rfl:=uN (c0 (by simp));exact fw hz dc dc dc rfl (Vo (AM (.inl rfl) hg)) (qu8 t) (by rw[<-vK];exact z9g t)
 have k4:k=4:=zb4 k ht hq (by cases h:kK k with|true=>exact absurd h ho|false=>rfl) (dx g1) (dx g2) (dx g3) (dx h6) (dx g10);subst k4;obtain rfl:=uN (c0 (by simp));exact fw hz dc dc dc rfl (z65 (z63 hg)) (by simp) (by rw[<-vK];exact zbh t)
theorem VB(hz:fb fx=0):∀(f:F) (m dS:Bool),f.size<=1000->(∀x,x∈f.flat->∀c,c∈x.2.1->0<=c/\c<=255)->eD m false dS f=0->Iz fx m dS f
 |.nil,_,_,_,_,_=>trivial
 |.cons k t n ks r,m,dS,hc,hb,h=>by
  have hc:ks.size+r.size+1<=1000:=hc;obtain⟨h1,h2⟩:=cJ.1 h;have he:=hb _ (zf ..);have hf:=fun x hx=>hb x (zh _ (List.mem_append_left r.flat hx));refine⟨⟨fun hm=>?_,fun hm=>?_⟩,VB hz r m (!dS) om (fun x hx=>hb x (zh _ (List.mem_append_right _ hx))) h2⟩
  ·rw[hm,Bool.or_false] at h1;exact zcw hz om he h1 (VB hz ks _ _ om hf (bG.1 h1).2)
  ·rw[hm,Bool.or_true] at h1;exact sI h1
theorem zbp(hz:fb fx=0){k:Int}{t:Tx}{n:Int}{ks:F}(hc:ks.size<=999)(hb:∀x,x∈(tr k t n ks).flat->∀c,c∈x.2.1->0<=c/\c<=255)(hv:bI k t n ks false=0):sP fx k t n ks:=(VB hz (tr k t n ks) false false (by show ks.size+0+1<=1000;omega) hb (cJ.2 ⟨by rw[Bool.false_and,Bool.or_false];exact hv,rfl⟩)).1.1 rfl
end
open Pz
theorem Has.of{c:PC}:∀{ts:List T3} {i:Nat},(c.l.map CL).drop i=ts->Has c i ts
 |[],_,_=>trivial
 |t::ts,i,h=>by refine⟨?_,Has.of (by rw[<-List.drop_drop,h];rfl)⟩;show(c.l[i]?).map CL=some t;rw[<-zY,<-List.head?_drop,h];rfl
def iW(F:List ar)(toks:List Tk)(e:Int):PC:=⟨toks,e,yQ F,l0 F⟩
theorem z18{F:Y1}(hg:gL F.l)(hz:fb F.l=0)(toks:List Tk)(e:Int):mX (iW F.l toks e) F:=⟨hg,hz,rfl,rfl⟩
theorem qw5{s:Tx}(hs:s.length<=900000000)(hb:∀x,x∈s->0<=x/\x<=255){fl:List ar}(hg:gL fl)(hz:fb fl=0){ts:List T3}(hx:fA s ts)(ht:ts.length<=4000){m:Nat}(hm:m<=100){l:List ND}(hp:iV fl m ts l)(hc:∀b,ga (⟨b,l⟩,())=some (0,()))(fn:Bool):∃b,lh (s,⟨fn,fl⟩,())=some (⟨b,l⟩,0,0,()):=by
 obtain⟨tk,h1,h2⟩:=hx (s.length+1) 0 (Nat.lt_succ_self _);have hl:tk.length=ts.length:=by rw[<-h2,zO]
 obtain⟨b,hf⟩:=qtp s hs hb (.inr ⟨tk,h1,by omega⟩);rw[h1] at hf;have hj:=UL (inn:=eW) (sgn:=df) (keyw:=fB) (rd:=gV) (N:=fun _=>True) CD trivial s.length (fun _ _ _=>trivial) (s.length+1) s 0 (Nat.le_refl _) hb;rw[show iE eW df fB gV (s.length+1) s 0=.ok tk from h1] at hj;have H:mV (iW fl tk (s.length:Int)) (s.length:Int) (fun _=>True) (fun _=>True):={
  tk:=fun t ht=>by obtain⟨_,q4,q5⟩:=hj.2 t ht;exact⟨trivial,trivial,q4,by omega⟩
  e0:=by show(0:Int)<=(s.length:Int);omega
  e1:=Int.le_refl _
  q0:=trivial
  n0:=trivial
  cl:=fun ops x h=>Om hz h}
 obtain⟨b2,he⟩:=qic (nb:=b) (c:=iW fl tk (s.length:Int)) (F:=⟨fn,fl⟩) (show tk.length<=10000 by omega) H (z18 (F:=⟨fn,fl⟩) hg hz _ _);have he:lg (⟨b,tk⟩,ae s,⟨fn,fl⟩,())=_:=he;have hd:=(hp (iW fl tk (s.length:Int)) 100 0 ⟨rfl,rfl⟩ (Has.of h2) (qki (show tk.length<=0+ts.length by omega)) (UH (show tk.length<=0+ts.length by omega) 5) hm).2;have ha:jt (iW fl tk (s.length:Int))=.ok l:=by unfold jt;rw[hd];show(if 0+ts.length<tk.length then _ else _)=_;rw[if_neg om]
 rw[ha] at he;refine⟨b2,?_⟩;rw[Kv,Ik fn hg,hz,af];simp only;rw[iY];simp only[av,Bool.not_true,aD];rw[hf,af];show az (av (ag (0:Int) 0)) _ (aj (lg (⟨b,tk⟩,ae s,⟨fn,fl⟩,())) _)=_;rw[iY,he];simp only[av,Bool.not_true,aD];rw[hc b2];rfl
theorem VC(b:Bool)(n:Nat):jT b n<=n+1:=by cases b<;>simp[jT]
theorem VD:∀f:F,kM f<=f.size
 |.nil=>Nat.le_refl _
 |.cons _ _ _ ks r=>by have h1:=VD ks;have h2:=VD r;show max (if ks.au=0 then 0 else kM ks+1) (kM r)<=ks.size+r.size+1;split<;>omega
def CT:List Nn->F->Prop
 |[],_=>True
 |_::_,.nil=>False
 |a::ns,.cons _ _ _ ks r=>a.i<=ks.size/\(a.b=0\/a.b+1<=ks.size)/\a.p<=ks.size+1/\CT ns r
theorem z6b:∀{ns:List Nn} {f:F},CT ns f->sO ns<=f.size
 |[],_,_=>Nat.zero_le _
 |a::ns,.cons _ _ _ ks r,h=>by have:=z6b h.2.2.2;have:=h.1;show max (a.i+1) (sO ns)<=ks.size+r.size+1;omega
theorem z1a:∀{ns:List Nn} {f:F},CT ns f->y0 ns<=f.size
 |[],_,_=>Nat.zero_le _
 |[_],_,_=>Nat.zero_le _
 |a::b::ns,.cons _ _ _ ks (.cons _ _ _ bO r),h=>by obtain⟨_,_,h1,h2,_,_,h3⟩:=h;have:=z1a h3;show max a.p (max (b.i+1) (y0 ns))<=ks.size+(bO.size+r.size+1)+1;omega
theorem VE(fx:List ar):∀f:F,CT (j0 fx f) f
 |.nil=>trivial
 |.cons k t n ks r=>by
  have ih:=VE fx ks;have h0:ks=.nil\/((jS (j0 fx ks) 0).i+1<=ks.size/\(jS (j0 fx ks) 0).b+1<=ks.size/\(jS (j0 fx ks) 1).i+1<=ks.size/\Vx (j0 fx ks)<=ks.size):=by
   cases ks with
   |nil=>exact .inl rfl
   |cons a b c d r'=>
    obtain⟨i1,i2,_,i3⟩:=ih;have i1:(cV fx a d).i<=d.size:=i1;have i2:(cV fx a d).b=0\/(cV fx a d).b+1<=d.size:=i2;have i4:=z1a i3;refine .inr ⟨?_,?_,?_,?_⟩
    ·show(cV fx a d).i+1<=d.size+r'.size+1;omega
    ·show(cV fx a d).b+1<=d.size+r'.size+1;omega
    ·cases r' with
     |nil=>show 0+1<=d.size+0+1;omega
     |cons a' b' c' d' r2=>have i5:(cV fx a' d').i<=d'.size:=i3.1;show(cV fx a' d').i+1<=d.size+(d'.size+r2.size+1)+1;omega
    ·show max ((cV fx a d).i+1) (y0 (j0 fx r'))<=d.size+r'.size+1;omega
  refine⟨?_,?_,by have:=VD ks;show kM ks+1<=_;omega,VE fx r⟩
  ·show fV fx k ks (dF fx ks) (j0 fx ks)<=ks.size;rcases h0 with rfl|⟨h1,h2,h3,h4⟩
   ·unfold fV;split
    ·rename_i h6;subst h6;exact Nat.zero_le _
    split
    ·exact Nat.zero_le _
    ·exact Nat.zero_le _
   ·have u1:=fun b=>VC b (jS (j0 fx ks) 0).b;have u2:=fun b=>VC b (jS (j0 fx ks) 1).i;have u3:=fun b=>VC b (jS (j0 fx ks) 0).i;unfold fV;split
    ·split
     ·exact Nat.max_le.2 ⟨Nat.le_trans (u1 _) h2,Nat.le_trans (u2 _) h3⟩
     ·exact Nat.max_le.2 ⟨Nat.le_trans (u3 _) h1,Nat.le_trans (u2 _) h3⟩
    split
    ·exact h4
    ·exact z6b ih
  ·rcases h0 with rfl|⟨h1,h2,h3,h4⟩
   ·exact .inl rfl
   ·exact .inr h3
theorem zbq(fx:List ar)(k:Int)(ks:F):(cV fx k ks).i<=ks.size:=(VE fx (tr k [] 0 ks)).1
open Pz
theorem VF:∀(f:F) (s:Tx),RD f->Lay f s->∀x,x∈s->0<=x/\x<=255
 |.nil,s,_,h,x,hx=>by have h:s=[]:=h;subst h;cases hx
 |.cons k t n ks r,s,⟨hk,hc,hr⟩,⟨s1,s2,e,h1,h2⟩,x,hx=>by
  subst e;rcases zN.1 hx with hx|hx
  ·by_cases k1:k=41
   ·rw[if_pos k1] at h1;subst h1;rcases hk with h|h|h|h|h
    ·have:=h.2.2.2 x hx;omega
    all_goals rw[h.2.1] at hx;cases hx
   ·rw[if_neg k1] at h1;by_cases k2:k=42
    ·rw[if_pos k2] at h1;have:=h1.2 x hx;omega
    ·rw[if_neg k2] at h1;exact VF ks s1 hc h1 x hx
  ·exact VF r s2 hr h2 x hx
theorem z1b(t:List ND)(fx:List ar)(ht:t.length<=4000)(hg:GL t)(hf:gL fx):∃c,(c≠0/\∀b n,kr (⟨b,t⟩,⟨n,fx⟩,())=some (⟨true,[]⟩,c,()))\/(c=0/\∃k s m ks,t=(tr k s m ks).flat/\bI k s m ks false=0/\(∀b,ga (⟨b,t⟩,())=some (0,()))/\fb fx=0):=by
 have hs:∃c,(∀b,ga (⟨b,t⟩,())=some (c,()))/\(c=0->∃k s m ks,t=(tr k s m ks).flat/\bI k s m ks false=0):=by
  rcases qyy t with h|⟨k,s,m,ks,h⟩
  ·exact⟨60,fun b=>qkf b t ht h,fun e=>by cases e⟩
  ·subst h;have hl:(tr k s m ks).flat.length=ks.size+1:=(tr k s m ks).len;exact⟨uO k s m ks false,fun b=>UA b k s m ks om hg,fun e=>⟨k,s,m,ks,rfl,qty e⟩⟩
 obtain⟨c,h1,h2⟩:=hs;by_cases hc:c=0
 ·subst hc;obtain⟨k,s,m,ks,e,h⟩:=h2 rfl;by_cases hz:fb fx=0
  ·exact⟨0,.inr ⟨rfl,k,s,m,ks,e,h,h1,hz⟩⟩
  ·refine⟨fb fx,.inl ⟨hz,fun b n=>?_⟩⟩;rw[Fa,h1,af];simp only;rw[iY,Ik n hf,af];simp only[av,Bool.not_true,aD];rw[dx hz];rfl
 ·refine⟨c,.inl ⟨hc,fun b n=>?_⟩⟩;rw[Fa,h1,af];simp only;rw[dx hc];rfl
theorem z1c{fx:List ar}{k:Int}{t:Tx}{n:Int}{ks:F}(hv:bI k t n ks false=0)(hz:fb fx=0)(hg:gL fx)(hG:GL (tr k t n ks).flat)(he:Lc (dT fx k t n ks).p.doc)(hs:ks.size+1<=600)(hi:(cV fx k ks).i+1<=100)(hc:∀b,ga (⟨b,(tr k t n ks).flat⟩,())=some (0,()))(W:Nat)(fn:Bool):∃b,lh (D2 fx k t n ks W,⟨fn,fx⟩,())=some (⟨b,(tr k t n ks).flat⟩,0,0,()):=by
 obtain⟨ts,h1,h2,_,h4⟩:=CS (zbp hz (k:=k) (t:=t) (n:=n) (ks:=ks) om (fun x hx c hc=>(hG x hx).1 c hc) hv).1;have hf:Lay (dT fx k t n ks).p.doc (D2 fx k t n ks W):=by
  unfold D2;split
  ·exact Vt _
  ·exact Le W _ _ _ _
 have hj:=z11 (fx:=fx) he W;exact qw5 om (VF _ _ he.rd hf) hg hz (h1 _ hf).1.whole om hi h4 hc fn
theorem y5(nb:Bool)(t:List ND)(hg:∀x,x∈t->N4 x\/1000000<x.2.1.length)(n:Bool)(l:List ar)(hf:∀x,x∈l->gF x)(W:Int):cT (⟨nb,t⟩,⟨n,l⟩,W,())=some (true,()):=by
 rw[qfp,z0l];obtain⟨r,h1,h2⟩:=qw3 nb n t l (some (true,())) (aj (DC (⟨nb,t⟩,())) (fun x4=>aj (DD (⟨n,l⟩,())) (fun x5=>aj (ku (x4.1,x5.1,W,())) (fun x6=>az (av (ag x6.2.1 0)) (some (eU x6.1 ([]:Y2),())) (aj (DD (⟨n,l⟩,())) (fun x7=>aj (lh (x6.1,x7.1,())) (fun x8=>aj (az (ag x8.2.2.1 0) (some (ag x8.2.1 0)) (some false)) (fun x9=>aj (az x9 (aj (uB (x8.1,⟨nb,t⟩,())) (fun Is=>some Is.1)) (some false)) (fun UR=>some (UR,()))))))))));refine Eq.trans h2 ?_;cases r with
 |false=>rfl
 |true=>
  obtain⟨h3,h4,h5,h6⟩:=h1 rfl;have hG:GL t:=fun x hx=>(hg x hx).elim id fun h=>by have:=h4 x hx;omega
  have hj:=zb5 hf h5 h6;rw[if_pos rfl,z4j nb t h3,qkm n l h5];simp only[af];obtain⟨c,⟨hc,e2⟩|⟨_,k,s,m,ks,e,hv,e3,hk⟩⟩:=z1b t l om hG hj
  ·rw[(z4q false false hc (e2 false false) W).1];simp only[af];rw[dx hc];rfl
  ·subst e;have hm:(tr k s m ks).flat.length=ks.size+1:=(tr k s m ks).len;have he:=z0y hv hk h6 hG om fun x hx=>by have:=h4 x hx;omega
   have hl:=z0z false false hv hk hj h6 hG om (fun x hx=>by have:=h4 x hx;omega) (e3 false);rcases z4r false false hl he W with ⟨a,_⟩|⟨w,rfl,_,_,a⟩
   ·rw[a];rfl
   ·have hi:=zbq l k ks;obtain⟨b,hp⟩:=z1c hv hk hj hG he om om e3 w false;rw[a];simp only[af];rw[show ag 0 0=true from rfl];simp only[av,Bool.not_true,aD];rw[hp];simp only[af];rw[show ag 0 0=true from rfl,aU,af,aU,qp9 b nb _ om];rfl
open Pz
def CU(k:Int)(t:Tx):Nat:=if k=6/\t=cU then 3 else 1
theorem zbr{k:Int}{t:Tx}(h:1<=t.length):CU k t<=t.length:=by
 unfold CU;split
 ·rename_i h;rw[h.2];decide
 ·exact h
theorem z1d(k:Int)(t:Tx):1<=CU k t:=by unfold CU;split<;>decide
def CV(t:T3)(n:Nat):Prop:=CU t.1 t.2.1<=n/\t.2.1.length<=max 200 n/\(t.1=1->da t.2.1=false)
theorem z50{b:Int}(h:oJ b=true)(l:Tx):da (b::l)=false:=by
 have hb:b∉bN:=by unfold oJ at h;simp only[ze,decide_eq_true_eq] at h;unfold bN;simp only[zw,List.not_mem_nil,or_false];omega
 unfold da oD;rw[List.all_cons,zn hb];simp
theorem Lp{n:Nat}{k:Int}{s:Tx}(h1:1<=n)(h2:n<=s.length)(hk:k=1->da (s.take n)=false):CV (jv fB n k s).1 n:=by
 have hl:(s.take n).length=n:=by rw[zQ];omega
 refine⟨?_,?_,fun e=>?_⟩
 ·have:=zbr (k:=bif fB (s.take n) then 6 else k) (t:=s.take n) om;rw[hl] at this;exact this
 ·show(s.take n).length<=_;omega
 ·have e:(bif fB (s.take n) then 6 else k)=1:=e;cases hq:fB (s.take n) with
  |true=>rw[hq] at e;cases e
  |false=>rw[hq] at e;exact hk e
theorem zcx(c:Int)(l:Tx):(fL eW df fB gV c l).2.2=0->CV (fL eW df fB gV c l).1 (fL eW df fB gV c l).2.1:=by
 have sp1:=vG eW (c::l);have sp2:=vG df (c::l);have hl:(c::l).length=l.length+1:=rfl;have bad:∀e:Int,e≠0->(qG e).2.2=0->CV (qG e).1 (qG e).2.1:=fun e h h2=>absurd h2 h;unfold fL;cases h1:oJ c with
 |true=>have:=GF (p:=eW) (l:=l) (CD.oY c (.inl h1));refine fun _=>Lp om sp1 fun _=>?_;obtain⟨m,hm⟩:∃m,dZ eW (c::l)=m+1:=⟨dZ eW (c::l)-1,by omega⟩;rw[hm,List.take_succ_cons];exact z50 h1 _
 |false=>
  rw[cond_false];cases h2:uU c with
  |true=>have:=GF (p:=eW) (l:=l) (CD.oY c (.inr h2));exact fun _=>Lp om sp1 fun e=>by cases e
  |false=>
   rw[cond_false];cases h3:df c with
   |true=>have:=GF (p:=df) (l:=l) h3;exact fun _=>Lp om sp2 fun e=>by cases e
   |false=>
    rw[cond_false];cases (decide (c=40)||(decide (c=41)||decide (c=95))) with
    |true=>exact fun _=>Lp (Nat.le_refl _) om fun e=>by cases e
    |false=>
     rw[cond_false];cases h5:(decide (c=59)&&decide (l.head?=some 59)) with
     |true=>
      refine fun _=>Lp dc ?_ fun e=>by cases e
      cases l with
      |nil=>rw[ze] at h5;cases h5.2
      |cons _ _=>simp only[zj];omega
     |false=>
      rw[cond_false];cases (gC c||decide (c=126)) with
      |true=>
       rw[cond_true];cases decide ((gV ((c::l).take (1+dZ gC l))).2=0) with
       |true=>exact fun _=>⟨by show 1<=1+_;omega,Nat.zero_le _,fun e=>by cases e⟩
       |false=>exact bad 31 dc
      |false=>
       rw[cond_false];cases decide (c=34) with
       |true=>
        rw[cond_true];cases h8:(decide ((qt l [] 1).2=0)||decide (200<(qt l [] 1).1.length)) with
        |true=>exact bad 32 dc
        |false=>rw[Bool.or_eq_false_iff,decide_eq_false_iff_not,decide_eq_false_iff_not] at h8;exact fun _=>⟨by show 1<=(qt l [] 1).2;omega,by show(qt l [] 1).1.length<=max 200 _;omega,fun e=>by cases e⟩
       |false=>exact bad 30 dc
def IB(t:Tk):Nat:=CU t.1 t.2.1
theorem zbs:∀(f:Nat) (s:Tx) (a:Int) (l:List Tk),eE f s a=.ok l->(l.map IB).sum<=s.length/\∀t,t∈l->t.2.1.length<=max 200 s.length/\(t.1=1->da t.2.1=false)
 |0,s,a,l,h=>by injection h with h;subst h;exact⟨Nat.zero_le _,fun t ht=>by cases ht⟩
 |f+1,s,a,l,h=>by
  have hb:=GH false s;unfold eE iE at h;by_cases h0:s.drop (Pz.blank false s)=[]
  ·rw[if_pos h0] at h;injection h with h;subst h;exact⟨Nat.zero_le _,fun t ht=>by cases ht⟩
  ·rw[if_neg h0] at h;by_cases he:(one eW df fB gV (s.drop (Pz.blank false s))).2.2=0
   ·rw[if_neg (fun h=>h he)] at h;obtain⟨l',e1,e2⟩:=gU h;injection e2 with e2;subst e2;have hc:=Of (keyw:=fB) (rd:=gV) CD (s.drop (Pz.blank false s)) he;have hd:(s.drop (Pz.blank false s)).length=s.length-Pz.blank false s:=zH;obtain⟨g1,g2⟩:=zbs f _ _ _ e1;rw[zH] at g1 g2;have ho:CV (one eW df fB gV (s.drop (Pz.blank false s))).1 (one eW df fB gV (s.drop (Pz.blank false s))).2.1:=by
     revert he;cases s.drop (Pz.blank false s) with
     |nil=>exact fun e=>absurd e (show ¬(30:Int)=0 by decide)
     |cons c l=>exact zcx c l
    generalize one eW df fB gV (s.drop (Pz.blank false s))=r at*
    obtain⟨w1,w2,w3⟩:=ho;refine⟨?_,fun t ht=>?_⟩
    ·rw[zJ,List.sum_cons];show CU r.1.1 r.1.2.1+_<=_;omega
    ·rcases zw.1 ht with rfl|ht
     ·exact⟨by show r.1.2.1.length<=_;omega,w3⟩
     ·obtain⟨k1,k2⟩:=g2 t ht;exact⟨by omega,k2⟩
   ·rw[if_pos he] at h;cases h
open Pz
section
variable {c:PC}
def wS(c:PC)(i:Nat):Nat:=((c.l.take i).map IB).sum
theorem VG{i:Nat}(h:i<c.l.length):wS c (i+1)=wS c i+IB c.l[i]:=by unfold wS;rw[List.take_succ_eq_append_getElem h,zT,List.sum_append];simp
theorem z6c{i:Nat}{k:Int}(h:aW c i k=true):∃hi:i<c.l.length,c.l[i].1=k:=by
 by_cases hl:i<c.l.length
 ·rw[Od (zg hl)] at h;exact⟨hl,zM h⟩
 ·rw[UH om] at h;cases h
theorem z6d{i:Nat}{ks:List Tx}(h:ct c i ks=true):∃hi:i<c.l.length,c.l[i].1=6/\c.l[i].2.1∈ks:=by
 by_cases hl:i<c.l.length
 ·rw[Oe (zg hl),ze] at h;exact⟨hl,zM h.1,zM h.2⟩
 ·rw[qzd om] at h;cases h
theorem y6{i:Nat}{k:Int}(h:aW c i k=true):∃v,1<=v/\wS c (i+1)=wS c i+v:=by obtain⟨hi,_⟩:=z6c h;exact⟨_,z1d _ _,VG hi⟩
theorem D5{i:Nat}{ks:List Tx}(h:ct c i ks=true):∃v,1<=v/\wS c (i+1)=wS c i+v:=by obtain⟨hi,_⟩:=z6d h;exact⟨_,z1d _ _,VG hi⟩
theorem z9k{i:Nat}{ks:List Tx}(h:ct c i ks=true)(h2:dN c i=cU):wS c (i+1)=wS c i+3:=by obtain⟨hi,h3,_⟩:=z6d h;rw[UG (zg hi)] at h2;rw[VG hi];show _+CU c.l[i].1 c.l[i].2.1=_;unfold CU;rw[if_pos ⟨h3,h2⟩]
theorem D6{i j:Nat}{s:Tx}(h:cY c i s=.ok j):j=i+1/\∃v,1<=v/\wS c (i+1)=wS c i+v:=by
 unfold cY at h;cases hk:ct c i [s] with
 |true=>rw[hk] at h;injection h with h;exact⟨h.symm,D5 hk⟩
 |false=>rw[hk] at h;cases h
theorem OX{i:Nat}{x:Tx×Nat}(h:pf c i=.ok x):∃v,1<=v/\wS c x.2=wS c i+v:=by
 unfold pf at h;cases h1:aW c i 1 with
 |true=>rw[h1] at h;injection h with h;subst h;exact y6 h1
 |false=>
  rw[h1] at h;cases h2:(ct c i [kL]&&aW c (i+1) 5) with
  |true=>rw[h2] at h;rw[ze] at h2;obtain⟨j,e1,e2⟩:=gU h;obtain⟨rfl,v3,g3,g4⟩:=D6 e1;injection e2 with e2;subst e2;obtain⟨v1,g1,g2⟩:=D5 h2.1;obtain⟨v2,g5,g6⟩:=y6 h2.2;exact⟨v1+v2+v3,by omega,by show wS c (i+2+1)=_;rw[g4];show wS c (i+1+1)+v3=_;rw[g6,g2];omega⟩
  |false=>rw[h2] at h;cases h3:ct c i [kL]<;>rw[h3] at h<;>cases h
def PW(c:PC)(i:Nat)(x:List ND×Nat):Prop:=∃k t n ks w,x.1=(tr k t n ks).flat/\wS c x.2=wS c i+w/\ks.size+2<=2*w/\3*kM ks+1<=w
def PWa(c:PC)(i:Nat)(x:List ND×Nat):Prop:=∃k t n ks w,x.1=(tr k t n ks).flat/\wS c x.2=wS c i+w/\ks.size+2<=2*w/\3*kM ks+1<=w/\3*(if ks.au=0 then 0 else kM ks+1)<=w
theorem z51{i j:Nat}{k:Int}{t:Tx}{n:Int}{v:Nat}(hv:1<=v)(h:wS c j=wS c i+v):PWa c i ((tr k t n .nil).flat,j):=⟨k,t,n,.nil,v,rfl,h,by show 0+2<=_;omega,by show 3*0+1<=_;omega,by show 3*0<=_;omega⟩
variable {self:PT}
theorem z1e(hs:∀i x,self i=.ok x->PW c i x){i:Nat}{x:List ND×Nat}(h:qF c self i=.ok x):PWa c i x:=by
 unfold qF at h;cases h1:ct c i [jr] with
 |true=>rw[h1] at h;injection h with h;subst h;obtain⟨v,hv,e⟩:=D5 h1;rw[vK];exact z51 hv e
 |false=>
  rw[h1] at h;cases h2:aW c i 3 with
  |true=>rw[h2] at h;injection h with h;subst h;obtain⟨v,hv,e⟩:=y6 h2;exact z51 (k:=23) (t:=[]) (n:=num c i) hv e
  |false=>
   rw[h2] at h;cases h3:aW c i 2 with
   |true=>rw[h3] at h;injection h with h;subst h;obtain⟨v,hv,e⟩:=y6 h3;rw[vK];exact z51 hv e
   |false=>
    rw[h3] at h;cases h4:(ct c i [kL]&&!aW c (i+1) 5) with
    |true=>rw[h4] at h;rw[ze] at h4;obtain⟨p,e1,e2⟩:=gU h;obtain⟨j,e3,e4⟩:=gU e2;injection e4 with e4;subst e4;obtain⟨k,t,n,ks,w,a1,a2,a3,a4⟩:=hs _ _ e1;obtain⟨rfl,v2,g3,g4⟩:=D6 e3;obtain⟨v1,g1,g2⟩:=D5 h4.1;refine⟨k,t,n,ks,v1+w+v2,a1,by show wS c (p.2+1)=_;omega,by omega,by omega,?_⟩;split<;>omega
    |false=>rw[h4] at h;obtain⟨s,e1,e2⟩:=gU h;injection e2 with e2;subst e2;obtain⟨v,hv,e⟩:=OX e1;rw[vK];exact z51 hv e
def KW(c:PC)(i:Nat)(acc:List (List ND))(x:List (List ND)×Nat):Prop:=∃r w,x.1=acc++uX r/\wS c x.2=wS c i+w/\r.size+r.au<=2*w/\3*kM r<=w
theorem z6e(hs:∀i x,self i=.ok x->PW c i x):∀(f i:Nat) (acc:List (List ND)) (x:List (List ND)×Nat),uT c self f i acc=.ok x->KW c i acc x
 |0,i,acc,x,h=>by injection h with h;subst h;exact⟨.nil,0,(zt _).symm,rfl,Nat.le_refl _,Nat.le_refl _⟩
 |f+1,i,acc,x,h=>by
  unfold uT at h;cases h1:(aW c i 3||(aW c i 2||(aW c i 1||ct c i [jr,kL]))) with
  |false=>rw[h1] at h;injection h with h;subst h;exact⟨.nil,0,(zt _).symm,rfl,Nat.le_refl _,Nat.le_refl _⟩
  |true=>
   rw[h1] at h;obtain⟨p,e1,e2⟩:=gU h;obtain⟨k,t,n,ks,w,a1,a2,a3,a4,a5⟩:=z1e hs e1;obtain⟨r,w2,b1,b2,b3,b4⟩:=z6e hs f _ _ _ e2;refine⟨.cons k t n ks r,w+w2,by rw[b1,a1,zo];rfl,by omega,?_,?_⟩
   ·show ks.size+r.size+1+(r.au+1)<=_;omega
   ·show 3*max (if ks.au=0 then 0 else kM ks+1) (kM r)<=_;omega
theorem zcy(hs:∀i x,self i=.ok x->PW c i x){i:Nat}{x:List ND×Nat}(h:kz c self i=.ok x):PW c i x:=by
 unfold kz at h;cases h1:aW c i 2 with
 |true=>rw[h1] at h;obtain⟨p,e1,e2⟩:=gU h;injection e2 with e2;subst e2;obtain⟨v,hv,e⟩:=y6 h1;obtain⟨r,w,b1,b2,b3,b4⟩:=z6e hs _ _ _ _ e1;rw[List.nil_append] at b1;exact⟨24,dN c i,0,r,v+w,by rw[b1];exact CM _ _ _,by show wS c p.2=_;omega,by omega,by omega⟩
 |false=>rw[h1] at h;obtain⟨k,t,n,ks,w,a1,a2,a3,a4,_⟩:=z1e hs h;exact⟨k,t,n,ks,w,a1,a2,a3,a4⟩
theorem z6f:∀(d i:Nat) (x:List ND×Nat),cW c d i=.ok x->PW c i x
 |0,i,x,h=>by cases h
 |d+1,i,x,h=>zcy (z6f d) h
end
section
variable {fx:List ar}
def Wt(fx:List ar)(k:Int)(t:Tx)(ks:F)(w:Nat):Prop:=3*(cV fx k ks).i+1<=w/\ks.size+2<=2*w/\(k=3->da t=true->3<=w)/\
 (k=6->∃a b c d a' b' c' d',ks=.cons a b c d (.cons a' b' c' d' .nil)/\(a=3->da b=true->3*jT (lp (dT fx a' b' c' d').p) (cV fx a' d').i+3<=w))
def WA(fx:List ar)(k:Int)(t:Tx)(ks:F)(w:Nat):Prop:=Wt fx k t ks w/\(cO fx k ks=2\/cO fx k ks=3->3*(cV fx k ks).i+3<=w)
def WT(fx:List ar)(k:Int)(t:Tx)(ks:F)(w:Nat):Prop:=Wt fx k t ks w/\(cO fx k ks≠0->3*(cV fx k ks).i+3<=w)
theorem Wt.mono{k:Int}{t:Tx}{ks:F}{w w':Nat}(h:Wt fx k t ks w)(hw:w<=w'):Wt fx k t ks w':=by obtain⟨h1,h2,h3,h4⟩:=h;refine⟨by omega,by omega,fun a b=>Nat.le_trans (h3 a b) hw,fun a=>?_⟩;obtain⟨a1,b1,c1,d1,a2,b2,c2,d2,e1,e2⟩:=h4 a;exact⟨a1,b1,c1,d1,a2,b2,c2,d2,e1,fun p q=>Nat.le_trans (e2 p q) hw⟩
theorem WT.arg{k:Int}{t:Tx}{n:Int}{ks:F}{w:Nat}(h:WT fx k t ks w):3*jT (lp (dT fx k t n ks).p) (cV fx k ks).i<=w:=by
 have hk:(dT fx k t n ks).p.lk=cO fx k ks:=rfl;unfold lp;rw[hk];by_cases h0:cO fx k ks=0
 ·rw[zn (fun e=>e h0)];have:=h.1.1;show 3*(cV fx k ks).i<=w;omega
 ·rw[zu h0];have:=h.2 h0;show 3*((cV fx k ks).i+1)<=w;omega
theorem WA.head{k:Int}{t:Tx}{n:Int}{ks:F}{w:Nat}(h:WA fx k t ks w):3*jT (CR (dT fx k t n ks).p) (cV fx k ks).i<=w:=by
 have hk:(dT fx k t n ks).p.lk=cO fx k ks:=rfl;unfold CR;rw[hk];by_cases h0:cO fx k ks=2\/cO fx k ks=3
 ·have:=h.2 h0;rw[show(decide (cO fx k ks=2)||decide (cO fx k ks=3))=true by rcases h0 with h0|h0<;>rw[h0]<;>rfl];show 3*((cV fx k ks).i+1)<=w;omega
 ·rw[zn (fun e=>h0 (.inl e)),zn (fun e=>h0 (.inr e))];have:=h.1.1;show 3*(cV fx k ks).i<=w;omega
theorem qua(p:Pt)(a b s:Int)(m:Nat):jT (mZ p a b s) m<=jT (lp p) m:=by
 cases h:mZ p a b s with
 |false=>unfold jT;cases lp p<;>simp
 |true=>
  have:lp p=true:=by unfold mZ sM at h;unfold lp;rw[Bool.or_eq_true,ze,decide_eq_true_eq,decide_eq_true_eq] at h;exact zu om
  rw[this];exact Nat.le_refl _
theorem WA.app(hz:fb fx=0){k:Int}{t:Tx}{n:Int}{ks:F}{k':Int}{t':Tx}{n':Int}{bO:F}{w w':Nat}(h:WA fx k t ks w)(h':WT fx k' t' bO w'):WA fx 6 [] (.cons k t n ks (.cons k' t' n' bO .nil)) (w+w'):=by
 obtain⟨g1,g2,g3,g4⟩:=h.1;obtain⟨X6,HK,_,_⟩:=h'.1;have ha:=h'.arg (n:=n');have hh:=h.head (n:=n);have hf:(F.cons k t n ks (.cons k' t' n' bO .nil)).size+2<=2*(w+w'):=by show ks.size+(bO.size+0+1)+1+2<=_;omega
 cases he:rowOf fx 6 (.cons k t n ks (.cons k' t' n' bO .nil)) with
 |none=>
  have hi:(cV fx 6 (.cons k t n ks (.cons k' t' n' bO .nil))).i=max (jT (CR (dT fx k t n ks).p) (cV fx k ks).i) (jT (lp (dT fx k' t' n' bO).p) (cV fx k' bO).i):=by show fV fx 6 _ _ _=_;unfold fV;rw[if_pos rfl,he];rfl
  have hj:cO fx 6 (.cons k t n ks (.cons k' t' n' bO .nil))=1:=by unfold cO;rw[if_pos rfl,he]
  refine⟨⟨by rw[hi];omega,hf,(fun e=>by cases e),fun _=>⟨_,_,_,_,_,_,_,_,rfl,fun e1 e2=>?_⟩⟩,fun e=>by rw[hj] at e;omega⟩;have:=g3 e1 e2;omega
 |some f=>
  have hk:k=6:=zA fun h=>by rw[K6 fx h] at he;cases he
  subst hk;obtain⟨a,b,c,d,a',b',c',d',rfl,hC⟩:=g4 rfl;have hc:(if(6:Int)=6/\(6:Int)=6/\a=3 then jq fx b else none)=some f:=he;have hg:a=3:=zA fun h=>by rw[if_neg (fun e=>h e.2.2)] at hc;cases hc
  rw[if_pos ⟨rfl,rfl,hg⟩] at hc;obtain⟨hl,hm⟩:=AI hc;have hC:=hC hg (by rw[<-hm];exact Vm hz f hl);have hi:(cV fx 6 (.cons 6 t n (.cons a b c d (.cons a' b' c' d' .nil)) (.cons k' t' n' bO .nil))).i=max (jT (mZ (dT fx a' b' c' d').p f.2.1 f.2.2 (-1)) (cV fx a' d').i) (jT (mZ (dT fx k' t' n' bO).p f.2.1 f.2.2 1) (cV fx k' bO).i):=by show fV fx 6 _ _ _=_;unfold fV;rw[if_pos rfl,he];rfl
  have s1:=qua (dT fx a' b' c' d').p f.2.1 f.2.2 (-1) (cV fx a' d').i;have s2:=qua (dT fx k' t' n' bO).p f.2.1 f.2.2 1 (cV fx k' bO).i;refine⟨⟨by rw[hi];omega,hf,(fun e=>by cases e),fun _=>⟨_,_,_,_,_,_,_,_,rfl,fun e1 e2=>by cases e1⟩⟩,fun _=>by rw[hi];omega⟩
end
open Pz
section
variable {c:PC} {fx:List ar}
def XW(c:PC)(fx:List ar)(i:Nat)(x:List ND×Nat):Prop:=∃k t n ks w,x.1=(tr k t n ks).flat/\wS c x.2=wS c i+w/\Wt fx k t ks w
def IC(c:PC)(fx:List ar)(i:Nat)(x:List ND×Nat):Prop:=∃k t n ks w,x.1=(tr k t n ks).flat/\wS c x.2=wS c i+w/\WA fx k t ks w
def ID(c:PC)(fx:List ar)(i:Nat)(x:List ND×Nat):Prop:=∃k t n ks w,x.1=(tr k t n ks).flat/\wS c x.2=wS c i+w/\WT fx k t ks w
theorem ID.aw{i:Nat}{x:List ND×Nat}(h:ID c fx i x):IC c fx i x:=by obtain⟨k,t,n,ks,w,h1,h2,h3,h4⟩:=h;exact⟨k,t,n,ks,w,h1,h2,h3,fun e=>h4 om⟩
variable {self aO:PT}
theorem GY{i:Nat}{s:Tx}{x:List ND×Nat}(hs:∀i x,self i=.ok x->XW c fx i x)(h:eQ c self i s=.ok x):∃k t n ks w v,1<=v/\x.1=(tr k t n ks).flat/\wS c x.2=wS c i+v+w/\Wt fx k t ks w:=by unfold eQ at h;obtain⟨j,e1,e2⟩:=gU h;obtain⟨rfl,v,g1,g2⟩:=D6 e1;obtain⟨k,t,n,ks,w,a1,a2,a3⟩:=hs _ _ e2;exact⟨k,t,n,ks,w,v,g1,a1,by omega,a3⟩
theorem z6g(hs:∀i x,self i=.ok x->XW c fx i x)(hp:∀i x,aO i=.ok x->PW c i x):∀(f i:Nat) (acc:List (List ND)) (x:List (List ND)×Nat),sG c self aO f i acc=.ok x->∃r w,x.1=acc++uX r/\wS c x.2=wS c i+w/\r.size+r.au<=2*w/\3*y0 (j0 fx r)<=w
 |0,i,acc,x,h=>by injection h with h;subst h;exact⟨.nil,0,(zt _).symm,rfl,Nat.le_refl _,Nat.le_refl _⟩
 |f+1,i,acc,x,h=>by
  unfold sG at h;obtain⟨p,e1,e2⟩:=gU h;obtain⟨b,e3,e4⟩:=gU e2;obtain⟨k,t,n,ks,w,a1,a2,a3,a4⟩:=hp _ _ e1;obtain⟨k',t',n',bO,w',v',v1,b1,b2,b3,b4,_⟩:=GY hs e3;cases h1:ct c b.2 [gR] with
  |true=>
   rw[h1] at e4;obtain⟨v2,g1,g2⟩:=D5 h1;obtain⟨r,w2,d1,d2,d3,d4⟩:=z6g hs hp f _ _ _ e4;refine⟨.cons k t n ks (.cons k' t' n' bO r),w+v'+w'+v2+w2,by rw[d1,a1,b1,zo];rfl,by omega,?_,?_⟩
   ·show ks.size+(bO.size+r.size+1)+1+(r.au+1+1)<=_;omega
   ·show 3*max (kM ks+1) (max ((cV fx k' bO).i+1) (y0 (j0 fx r)))<=_;omega
  |false=>
   rw[h1] at e4;injection e4 with e4;subst e4;refine⟨.cons k t n ks (.cons k' t' n' bO .nil),w+v'+w',by rw[a1,b1];rfl,by show wS c b.2=_;omega,?_,?_⟩
   ·show ks.size+(bO.size+0+1)+1+(0+1+1)<=_;omega
   ·show 3*max (kM ks+1) (max ((cV fx k' bO).i+1) 0)<=_;omega
theorem Lq{i j:Nat}{k:Int}{t:Tx}{n:Int}{v:Nat}(hv:1<=v)(h:wS c j=wS c i+v)(hk:k=1\/k=2\/k=3\/k=4)(ho:k=3->da t=true->3<=v):ID c fx i ((tr k t n .nil).flat,j):=by
 have hi:(cV fx k .nil).i=0:=by rcases hk with rfl|rfl|rfl|rfl<;>rfl
 have hl:cO fx k .nil=0:=by rcases hk with rfl|rfl|rfl|rfl<;>rfl
 exact⟨k,t,n,.nil,v,rfl,h,⟨by rw[hi];omega,by show 0+2<=_;omega,ho,fun e=>by omega⟩,fun e=>absurd hl e⟩
theorem zbt(hN:∀t,t∈c.l->t.1=1->da t.2.1=false)(hs:∀i x,self i=.ok x->XW c fx i x)(hp:∀i x,aO i=.ok x->PW c i x){i:Nat}{x:List ND×Nat}(h:oI c self aO i=.ok x):ID c fx i x:=by
 unfold oI at h;cases h0:iD c i with
 |false=>rw[h0] at h;cases h
 |true=>
  rw[h0,cond_true] at h;cases h1:aW c i 3 with
  |true=>rw[h1] at h;injection h with h;subst h;obtain⟨v,hv,e⟩:=y6 h1;exact Lq (t:=[]) (n:=num c i) hv e (.inl rfl) fun e=>by cases e
  |false=>
  rw[h1,cond_false] at h;cases h2:aW c i 4 with
  |true=>rw[h2] at h;injection h with h;subst h;obtain⟨v,hv,e⟩:=y6 h2;rw[vK];exact Lq hv e (.inr (.inl rfl)) fun e=>by cases e
  |false=>
  rw[h2,cond_false] at h;cases h3:aW c i 1 with
  |true=>rw[h3] at h;injection h with h;subst h;obtain⟨v,hv,e⟩:=y6 h3;rw[vK];refine Lq hv e (.inr (.inr (.inl rfl))) fun _ ho=>?_;obtain⟨hi,hk⟩:=z6c h3;rw[UG (zg hi),hN _ (List.getElem_mem hi) hk] at ho;cases ho
  |false=>
  rw[h3,cond_false] at h;cases h4:aW c i 2 with
  |true=>rw[h4] at h;injection h with h;subst h;obtain⟨v,hv,e⟩:=y6 h4;rw[vK];exact Lq hv e (.inr (.inr (.inr rfl))) fun e=>by cases e
  |false=>
  rw[h4,cond_false] at h;have hk:ct c i [kL,cX]=true:=by unfold iD at h0;rw[h1,h2,h3,h4] at h0;exact h0
  obtain⟨v1,g1,g2⟩:=D5 hk;cases h5:decide (dN c i=cX) with
  |true=>
   rw[h5,cond_true] at h;unfold Cy at h;obtain⟨y,e1,e2⟩:=gU h;obtain⟨j,e3,e4⟩:=gU e2;obtain⟨r,e5,e6⟩:=gU e4;obtain⟨j2,e7,e8⟩:=gU e6;injection e8 with e8;subst e8;obtain⟨k,t,n,ks,w,a1,a2,a3,a4,_⟩:=hs _ _ e1;obtain⟨rfl,v2,b1,b2⟩:=D6 e3;obtain⟨q,w2,d1,d2,d3,d4⟩:=z6g hs hp _ _ _ _ e5;obtain⟨rfl,v3,f1,f2⟩:=D6 e7;have e:nd 10 [] r.1=(tr 10 [] 0 (.cons k t n ks q)).flat:=by rw[d1,a1];exact CM 10 [] (.cons k t n ks q)
   refine⟨10,[],0,.cons k t n ks q,v1+w+v2+w2+v3,e,by show wS c (r.2+1)=_;omega,⟨?_,?_,(fun e=>by cases e),(fun e=>by cases e)⟩,fun e=>absurd rfl e⟩
   ·have hi:(cV fx 10 (.cons k t n ks q)).i=max ((cV fx k ks).i+1) (y0 (j0 fx q)):=z17 (fx:=fx) (ks:=.cons k t n ks q) (dF fx (.cons k t n ks q)) (j0 fx (.cons k t n ks q));rw[hi];omega
   ·show ks.size+q.size+1+2<=_;omega
  |false=>
  rw[h5,cond_false] at h;cases h6:aW c (i+1) 5 with
  |true=>rw[h6,cond_true] at h;obtain⟨j,e1,e2⟩:=gU h;injection e2 with e2;subst e2;obtain⟨v2,b1,b2⟩:=y6 h6;obtain⟨rfl,v3,f1,f2⟩:=D6 e1;rw[vK];exact Lq (v:=v1+v2+v3) om (by show wS c (i+2+1)=_;rw[f2];show wS c (i+1+1)+v3=_;omega) (.inr (.inr (.inl rfl))) fun _ _=>by omega
  |false=>
  rw[h6,cond_false] at h;obtain⟨y,e1,e2⟩:=gU h;obtain⟨j,e3,e4⟩:=gU e2;injection e4 with e4;subst e4;obtain⟨k,t,n,ks,w,a1,a2,a3⟩:=hs _ _ e1;obtain⟨rfl,v3,f1,f2⟩:=D6 e3;exact⟨k,t,n,ks,v1+w+v3,a1,by show wS c (y.2+1)=_;omega,a3.mono om,fun _=>by have:=a3.1;omega⟩
theorem z6h(hz:fb fx=0)(ha:∀i x,oI c self aO i=.ok x->ID c fx i x)(i0:Nat):∀(f i:Nat) (l:List ND) (x:List ND×Nat),IC c fx i0 (l,i)->vF c self aO f i l=.ok x->IC c fx i0 x
 |0,i,l,x,hl,h=>by injection h with h;subst h;exact hl
 |f+1,i,l,x,hl,h=>by
  unfold vF at h;cases h0:iD c i with
  |false=>rw[h0] at h;injection h with h;subst h;exact hl
  |true=>rw[h0] at h;obtain⟨m,e1,e2⟩:=gU h;refine z6h hz ha i0 f _ _ _ ?_ e2;obtain⟨k,t,n,ks,w,a1,a2,a3⟩:=hl;obtain⟨k',t',n',bO,w',b1,b2,b3⟩:=ha _ _ e1;have a1:l=(tr k t n ks).flat:=a1;have a2:wS c i=wS c i0+w:=a2;exact⟨6,[],0,_,w+w',by rw[a1,b1];exact(AP 6 [] k t n ks k' t' n' bO).symm,by show wS c m.2=_;omega,WA.app hz a3 b3⟩
theorem zcz(hz:fb fx=0)(ha:∀i x,oI c self aO i=.ok x->ID c fx i x){i:Nat}{x:List ND×Nat}(h:gS c self aO i=.ok x):IC c fx i x:=by unfold gS at h;obtain⟨a,e1,e2⟩:=gU h;exact z6h hz ha i _ _ _ _ (ha _ _ e1).aw e2
structure y7 (c:PC) (fx:List ar) (i0 i:Nat) (r:Row) (se:List (Nat×Nat)):Prop where
 l1:se.length=r.ops.length+1
 l2:r.apps.length=r.ops.length+1
 a:∀(j:Nat) (p:Nat×Nat),se[j]?=some p->∃k t n ks w,r.apps[j]?=some (tr k t n ks).flat/\WA fx k t ks w/\p.1+w<=p.2
 s:∀(j:Nat) (p q:Nat×Nat),se[j]?=some p->se[j+1]?=some q->p.2+1<=q.1
 f:∀p:Nat×Nat,se[0]?=some p->wS c i0<=p.1
 e:∀p:Nat×Nat,se[r.ops.length]?=some p->p.2<=wS c i
theorem zbu(ha:∀i x,gS c self aO i=.ok x->IC c fx i x)(i0:Nat):∀(f i:Nat) (r:Row) (se:List (Nat×Nat)) (x:Row×Nat),y7 c fx i0 i r se->gT c self aO f i r=.ok x->∃se',y7 c fx i0 x.2 x.1 se'
 |0,i,r,se,x,hr,h=>by injection h with h;subst h;exact⟨se,hr⟩
 |f+1,i,r,se,x,hr,h=>by
  unfold gT at h;cases h0:aW c i 5 with
  |false=>rw[h0] at h;injection h with h;subst h;exact⟨se,hr⟩
  |true=>
   rw[h0] at h;obtain⟨y,e1,e2⟩:=gU h;obtain⟨v,g1,g2⟩:=y6 h0;obtain⟨k,t,n,ks,w,a1,a2,a3⟩:=ha _ _ e1;have he:∃p,se[r.ops.length]?=some p:=⟨_,zg (by rw[hr.l1];omega)⟩;refine zbu ha i0 f _ _ (se++[(wS c (i+1),wS c y.2)]) _ ⟨by simp only[zd,List.length_singleton,hr.l1],by simp only[zd,List.length_singleton,hr.l2],fun j p hp=>?_,fun j p q hp hq=>?_,fun p hp=>?_,fun p hp=>?_⟩ e2
   ·rcases Nat.lt_trichotomy j se.length with hj|hj|hj
    ·rw[zR hj] at hp;obtain⟨k,t,n,ks,w,b1,b2,b3⟩:=hr.a j p hp;exact⟨k,t,n,ks,w,by rw[zR (by rw[hr.l2,<-hr.l1];exact hj)];exact b1,b2,b3⟩
    ·subst hj;rw[zG (Nat.le_refl _),Nat.sub_self] at hp;injection hp with hp;subst hp;refine⟨k,t,n,ks,w,?_,a3,by show wS c (i+1)+w<=wS c y.2;omega⟩;rw[hr.l1,<-hr.l2,zG (Nat.le_refl _),Nat.sub_self,a1];rfl
    ·rw[zV (by rw[zd,List.length_singleton];omega)] at hp;cases hp
   ·have hj:j+1<se.length+1:=by have:=(zF.1 hq).1;rw[zd,List.length_singleton] at this;exact this
    rw[zR om] at hp;by_cases h1:j+1<se.length
    ·rw[zR h1] at hq;exact hr.s j p q hp hq
    ·have hf:j+1=se.length:=om
     rw[hf,zG (Nat.le_refl _),Nat.sub_self] at hq;injection hq with hq;subst hq;have hg:j=r.ops.length:=by have:=hr.l1;omega
     subst hg;have:=hr.e p hp;show p.2+1<=wS c (i+1);omega
   ·rw[zR (by rw[hr.l1];omega)] at hp;exact hr.f p hp
   ·have hc:(r.ops++[dN c i]).length=se.length:=by rw[zd,List.length_singleton,hr.l1]
    have hp:(se++[(wS c (i+1),wS c y.2)])[(r.ops++[dN c i]).length]?=some p:=hp;rw[hc,zG (Nat.le_refl _),Nat.sub_self] at hp;injection hp with hp;subst hp;exact Nat.le_refl _
end
open Pz
section
variable {c:PC} {fx:List ar}
theorem qiv:∀{ops:List Tx} {fs:List ar},nH fx ops=some fs->∀i:Nat,i<ops.length->∃op f,ops[i]?=some op/\fs[i]?=some f/\jq fx op=some f
 |[],_,_,i,hi=>by cases hi
 |op::r,fs,h,i,hi=>by
  unfold nH at h;cases h1:jq fx op with
  |none=>rw[h1] at h;cases h
  |some f=>
   rw[h1] at h;cases h2:nH fx r with
   |none=>rw[h2] at h;cases h
   |some y=>
    rw[h2] at h;injection h with h;subst h;cases i with
    |zero=>exact⟨op,f,rfl,rfl,h1⟩
    |succ i=>exact qiv h2 i (by have:i+1<r.length+1:=hi;omega)
theorem zbv(hz:fb fx=0){ops:List Tx}{x:List Int}(h:l0 fx ops=some x):∃fs,nH fx ops=some fs/\Fx.B (gj fs) (dW fs) 0 ops.length x:=by
 unfold l0 at h;split at h
 ·cases h
 ·cases hf:nH fx ops with
  |none=>rw[hf] at h;cases h
  |some fs=>rw[hf] at h;obtain⟨f1,f2⟩:=KS hf;obtain⟨_,hr,_⟩:=N5 hz;have:=Fx.ky (lv:=gj fs) (sd:=dW fs) (n:=fs.length) (N8 hr f2);have h:Fx.fU (gj fs) (dW fs) fs.length=some x:=h;rw[h,f1] at this;exact⟨fs,rfl,this⟩
theorem z6i{k:Int}{t:Tx}{n:Int}{ks:F}{w:Nat}(f:ar)(s:Int)(h:Wt fx k t ks w)(h2:WA fx k t ks w\/(k=6/\∃g,rowOf fx 6 ks=some g/\sM (dT fx k t n ks).p f.2.1 f.2.2 s=false)):3*jT (mZ (dT fx k t n ks).p f.2.1 f.2.2 s) (cV fx k ks).i<=w:=by
 have hk:(dT fx k t n ks).p.lk=cO fx k ks:=rfl;have h1:=h.1;cases hb:mZ (dT fx k t n ks).p f.2.1 f.2.2 s with
 |false=>show 3*(cV fx k ks).i<=w;omega
 |true=>
  show 3*((cV fx k ks).i+1)<=w;rcases h2 with h2|⟨h6,g,hg,hl⟩
  ·have:cO fx k ks=2\/cO fx k ks=3:=by unfold mZ sM at hb;rw[hk,Bool.or_eq_true,ze,decide_eq_true_eq,decide_eq_true_eq] at hb;omega
   have:=h2.2 this;omega
  ·subst h6;unfold mZ at hb;rw[hl,Bool.or_false,decide_eq_true_eq,hk] at hb;unfold cO at hb;rw[if_pos rfl,hg] at hb;cases hb
theorem OY{t:Tx}{n:Int}{ks:F}{g:ar}(h:rowOf fx 6 ks=some g):(dT fx 6 t n ks).p.lv=g.2.1/\(dT fx 6 t n ks).p.sd=g.2.2:=by
 refine⟨?_,?_⟩
 ·show((rowOf fx 6 ks).getD ([],0,0)).2.1=_;rw[h];rfl
 ·show((rowOf fx 6 ks).getD ([],0,0)).2.2=_;rw[h];rfl
theorem qpi{p:Pt}{f g:ar}{s:Int}(h1:p.lv=g.2.1)(h2:p.sd=g.2.2)(h:f.2.1<g.2.1\/(f.2.1=g.2.1/\f.2.2=s/\g.2.2=s)):sM p f.2.1 f.2.2 s=false:=by
 unfold sM;rw[h1,h2];rcases h with h|⟨h,h3,h4⟩
 ·rw[zn (show ¬g.2.1<f.2.1 by omega),zn (show ¬g.2.1=f.2.1 by omega),Bool.false_and,Bool.or_false,Bool.and_false]
 ·rw[zn (show ¬g.2.1<f.2.1 by omega),zn (show ¬g.2.2≠s by omega),zn (show ¬f.2.2≠s by omega),Bool.or_false,Bool.and_false,Bool.or_false,Bool.and_false]
theorem zd0(hz:fb fx=0){i0 i:Nat}{r:Row}{se:List (Nat×Nat)}(hr:y7 c fx i0 i r se){fs:List ar}(hf:nH fx r.ops=some fs):∀{a b:Nat} {x:List Int},Fx.B (gj fs) (dW fs) a b x->b<=r.ops.length->∀(g:Nat) (post:List Int),x.length<=g->∃k t n ks w pa pb,gW r.apps r.ops g (x++post)=((tr k t n ks).flat,post)/\se[a]?=some pa/\se[b]?=some pb/\pa.1+w<=pb.2/\Wt fx k t ks w/\(a=b->WA fx k t ks w)/\(a<b->k=6/\∃q f,a<=q/\q<b/\fs[q]?=some f/\rowOf fx 6 ks=some f):=by
 intro a b x hB
 induction hB with
 |nil a=>intro ha g post hg;obtain⟨g,rfl⟩:∃e,g=e+1:=⟨g-1,by have:1<=g:=hg;omega⟩;obtain⟨p,hp⟩:∃p,se[a]?=some p:=⟨_,zg (by rw[hr.l1];omega)⟩;obtain⟨k,t,n,ks,w,h1,h2,h3⟩:=hr.a a _ hp;refine⟨k,t,n,ks,w,_,_,?_,hp,hp,h3,h2.1,fun _=>h2,fun e=>absurd e (Nat.lt_irrefl _)⟩;show(if(-1-(a:Int))<0 then((r.apps[(-1-(-1-(a:Int))).toNat]?).getD [],post) else _)=_;rw[if_pos om,show(-1-(-1-(a:Int))).toNat=a by omega,h1];rfl
 |node a q b x y h1 h2 h3 h4 hx hy il im=>
  intro hb g post hg;rw[zj,zd] at hg;obtain⟨g,rfl⟩:∃e,g=e+1:=⟨g-1,by omega⟩;obtain⟨k,t,n,ks,w,pa,pq,b1,b2,b3,b4,b5,b6,b7⟩:=il om g (y++post) om;obtain⟨k',t',n',bO,w',pr,pb,c1,c2,c3,c4,c5,c6,c7⟩:=im om g post om;obtain⟨op,f,d1,d2,d3⟩:=qiv hf q om;obtain⟨hk,hm⟩:=AI d3;have hl:=hr.s q pq pr b3 c2;have rg:∀f:ar,f∈fx->-1<=f.2.2/\f.2.2<=1:=fun f hf=>by have:=OQ hz f hf;unfold lj at this;simp only[ze,decide_eq_true_eq] at this;exact this.2
  have hc:=(KS hf).2;have hL:3*jT (mZ (dT fx k t n ks).p f.2.1 f.2.2 (-1)) (cV fx k ks).i<=w:=by
   refine z6i f (-1) b5 ?_;by_cases h:a=q
   ·exact .inl (b6 h)
   ·obtain⟨h6,z,fz,z1,z2,z3,z4⟩:=b7 om;subst h6;refine .inr ⟨rfl,fz,z4,qpi (OY z4).1 (OY z4).2 ?_⟩;have he:=h3 z z1 z2;unfold Fx.LB at he;rw[DU d2,DU z3,Cw d2,Cw z3] at he;have e1:=rg f hk;have e2:=rg fz (hc _ (zS z3));omega
  have hR:3*jT (mZ (dT fx k' t' n' bO).p f.2.1 f.2.2 1) (cV fx k' bO).i<=w':=by
   refine z6i f 1 c5 ?_;by_cases h:q+1=b
   ·exact .inl (c6 h)
   ·obtain⟨h6,z,fz,z1,z2,z3,z4⟩:=c7 om;subst h6;refine .inr ⟨rfl,fz,z4,qpi (OY z4).1 (OY z4).2 ?_⟩;have he:=h4 z om z2;unfold Fx.RB at he;rw[DU d2,DU z3,Cw d2,Cw z3] at he;have e1:=rg f hk;have e2:=rg fz (hc _ (zS z3));omega
  have hj:rowOf fx 6 (.cons 6 [] 0 (.cons 3 op 0 .nil (.cons k t n ks .nil)) (.cons k' t' n' bO .nil))=some f:=by show(if(6:Int)=6/\(6:Int)=6/\(3:Int)=3 then jq fx op else none)=_;rw[if_pos ⟨rfl,rfl,rfl⟩];exact d3
  have hi:(cV fx 6 (.cons 6 [] 0 (.cons 3 op 0 .nil (.cons k t n ks .nil)) (.cons k' t' n' bO .nil))).i=max (jT (mZ (dT fx k t n ks).p f.2.1 f.2.2 (-1)) (cV fx k ks).i) (jT (mZ (dT fx k' t' n' bO).p f.2.1 f.2.2 1) (cV fx k' bO).i):=by show fV fx 6 _ _ _=_;unfold fV;rw[if_pos rfl,hj];rfl
  refine⟨6,[],0,_,w+1+w',pa,pb,?_,b2,c3,by omega,⟨by rw[hi];omega,?_,(fun e=>by cases e),fun _=>⟨_,_,_,_,_,_,_,_,rfl,(fun e=>by cases e)⟩⟩,(fun e=>by omega),fun _=>⟨rfl,q,f,h1,h2,d2,hj⟩⟩
  ·have e:(q:Int)::(x++y)++post=(q:Int)::(x++(y++post)):=by rw[List.cons_append,zo]
   rw[e];show(if(q:Int)<0 then _ else _)=_;rw[if_neg om,b1];simp only;rw[c1,Int.toNat_natCast,d1];show(nd 6 [] [nd 6 [] [nd 3 op [],(tr k t n ks).flat],(tr k' t' n' bO).flat],post)=_;rw[vK,<-AP,<-AP]
  ·obtain⟨_,s1,_,_⟩:=b5;obtain⟨_,s2,_,_⟩:=c5;show(0+(ks.size+0+1)+1)+(bO.size+0+1)+1+2<=_;omega
variable {self aO:PT}
theorem zd1(hz:fb fx=0)(hc:AO c fx)(ha:∀i x,gS c self aO i=.ok x->IC c fx i x){i:Nat}{x:List ND×Nat}(h:lY c self aO i=.ok x):XW c fx i x:=by
 unfold lY at h;obtain⟨y,e1,e2⟩:=gU h;obtain⟨r,e3,e4⟩:=gU e2;obtain⟨k,t,n,ks,w,a1,a2,a3⟩:=ha _ _ e1;have h0:y7 c fx i y.2 ⟨[y.1],[],[]⟩ [(wS c i,wS c y.2)]:={
  l1:=rfl
  l2:=rfl
  a:=fun j p hp=>by
   cases j with
   |zero=>injection hp with hp;subst hp;exact⟨k,t,n,ks,w,by rw[a1];rfl,a3,by show wS c i+w<=wS c y.2;omega⟩
   |succ j=>cases hp
  s:=fun j p q _ hq=>by cases hq
  f:=fun p hp=>by injection hp with hp;subst hp;exact Nat.le_refl _
  e:=fun p hp=>by injection hp with hp;subst hp;exact Nat.le_refl _}
 obtain⟨se,hr⟩:=zbu ha i _ _ _ _ _ h0 e3;obtain⟨r,j⟩:=r;have hr:y7 c fx i j r se:=hr;have fin:∀{k:Int} {t:Tx} {n:Int} {ks:F} {w:Nat} {pa pb:Nat×Nat},se[0]?=some pa->se[r.ops.length]?=some pb->pa.1+w<=pb.2->Wt fx k t ks w->x=((tr k t n ks).flat,j)->XW c fx i x:=fun {k t n ks w pa pb} p1 p2 p3 p4 p5=>by subst p5;have:=hr.f _ p1;have:=hr.e _ p2;exact⟨k,t,n,ks,wS c j-wS c i,rfl,by show wS c j=_;omega,p4.mono om⟩
 have e4:mU c (jB c i) r j=.ok x:=e4;unfold mU at e4;by_cases h0:r.ops=[]
 ·rw[if_pos h0] at e4;have hl:r.ops.length=0:=by rw[h0];rfl
  obtain⟨p,hp⟩:∃p,se[0]?=some p:=⟨_,zg (by rw[hr.l1];omega)⟩;obtain⟨k,t,n,ks,w,h1,h2,h3⟩:=hr.a 0 _ hp;rw[h1] at e4;injection e4 with e4;exact fin hp (by rw[hl];exact hp) h3 h2.1 e4.symm
 ·rw[if_neg h0] at e4;cases hn:yL c r.ops r.at_ with
  |some p=>rw[hn] at e4;cases e4
  |none=>
   rw[hn] at e4;cases he:c.cl r.ops with
   |none=>rw[he] at e4;cases e4
   |some z=>rw[he] at e4;rw[hc.l] at he;obtain⟨fs,f1,f2⟩:=zbv hz he;obtain⟨k,t,n,ks,w,pa,pb,b1,b2,b3,b4,b5,_⟩:=zd0 hz hr f1 f2 (Nat.le_refl _) z.length [] (Nat.le_refl _);rw[zt] at b1;have e4:(Except.ok ((gW r.apps r.ops z.length z).1,j):PR (List ND×Nat))=.ok x:=e4;rw[b1] at e4;injection e4 with e4;exact fin b2 b3 b4 b5 e4.symm
theorem z1f{i j:Nat}{k:Int}{t s:Tx}{n:Int}{ks:F}{w v:Nat}(kk:Int)(hk:kk=5\/kk=11)(h:Wt fx k t ks w)(hv:3<=v)(e:wS c j=wS c i+v+w):XW c fx i (nd kk s [(tr k t n ks).flat],j):=by
 have hi:(cV fx kk (.cons k t n ks .nil)).i=max ((cV fx k ks).i+1) 0:=by rcases hk with rfl|rfl<;>rfl
 have h1:=h.1;have h2:=h.2.1;clear h;exact⟨kk,s,0,_,v+w,(Vz kk s k t n ks).symm,by show wS c j=_;omega,by rw[hi];omega,by show ks.size+0+1+2<=_;omega,(fun e=>by omega),(fun e=>by omega)⟩
theorem VH{i j:Nat}{k:Int}{t s:Tx}{n:Int}{ks:F}{w v:Nat}{k':Int}{t':Tx}{n':Int}{bO:F}{w':Nat}(kk:Int)(hk:kk=7\/kk=8\/kk=12)(h:Wt fx k t ks w)(h':Wt fx k' t' bO w')(hv:3<=v)(e:wS c j=wS c i+v+w+w'):XW c fx i (nd kk s [(tr k t n ks).flat,(tr k' t' n' bO).flat],j):=by
 have hi:(cV fx kk (.cons k t n ks (.cons k' t' n' bO .nil))).i=max ((cV fx k ks).i+1) (max ((cV fx k' bO).i+1) 0):=by rcases hk with rfl|rfl|rfl<;>rfl
 have h1:=h.1;have h2:=h.2.1;have hc:=h'.1;have he:=h'.2.1;clear h h';exact⟨kk,s,0,_,v+w+w',(AP kk s k t n ks k' t' n' bO).symm,by show wS c j=_;omega,by rw[hi];omega,by show ks.size+(bO.size+0+1)+1+2<=_;omega,(fun e=>by omega),(fun e=>by omega)⟩
theorem zbw(hr:∀i x,lY c self aO i=.ok x->XW c fx i x)(hs:∀i x,self i=.ok x->XW c fx i x){i:Nat}{x:List ND×Nat}(h:ph c self aO i=.ok x):XW c fx i x:=by
 unfold ph at h;cases h0:ct c i [ix,gm,pe,cU,iU] with
 |false=>rw[h0] at h;exact hr _ _ h
 |true=>
 rw[h0,cond_true] at h;obtain⟨v0,g1,g2⟩:=D5 h0;cases h1:decide (dN c i=ix) with
 |true=>rw[h1,cond_true] at h;obtain⟨s,e1,e2⟩:=gU h;obtain⟨y,e3,e4⟩:=gU e2;injection e4 with e4;subst e4;obtain⟨v1,b1,b2⟩:=OX e1;obtain⟨k,t,n,ks,w,v2,a0,a1,a2,a3⟩:=GY hs e3;rw[a1];exact z1f (v:=v0+v1+v2) 5 (.inl rfl) a3 om om
 |false=>
 rw[h1,cond_false] at h;cases h2:decide (dN c i=gm) with
 |true=>
  rw[h2,cond_true] at h;obtain⟨s,e1,e2⟩:=gU h;obtain⟨y,e3,e4⟩:=gU e2;obtain⟨z,e5,e6⟩:=gU e4;injection e6 with e6;subst e6;obtain⟨v1,b1,b2⟩:=OX e1;obtain⟨k,t,n,ks,w,v2,a0,a1,a2,a3⟩:=GY hs e3;obtain⟨k',t',n',bO,w',v3,a0',Lr,a2',Ls⟩:=GY hs e5;rw[a1,Lr];cases h3:ct c (i+1) [gn] with
  |true=>rw[h3] at b2;have b2:wS c s.2=wS c (i+2)+v1:=b2;obtain⟨v4,f1,f2⟩:=D5 h3;have f2:wS c (i+2)=wS c (i+1)+v4:=f2;exact VH (v:=v0+v4+v1+v2+v3) 8 (.inr (.inl rfl)) a3 Ls om om
  |false=>rw[h3] at b2;have b2:wS c s.2=wS c (i+1)+v1:=b2;exact VH (v:=v0+v1+v2+v3) 7 (.inl rfl) a3 Ls om om
 |false=>
 rw[h2,cond_false] at h;cases h3:decide (dN c i=pe) with
 |true=>rw[h3,cond_true] at h;obtain⟨x1,e1,e2⟩:=gU h;obtain⟨y,e3,e4⟩:=gU e2;obtain⟨z,e5,e6⟩:=gU e4;injection e6 with e6;subst e6;obtain⟨k,t,n,ks,w,a1,a2,a3,a4,_⟩:=hs _ _ e1;obtain⟨k',t',n',bO,w',v2,a0',Lr,a2',Ls,a4',_⟩:=GY hs e3;obtain⟨k2,t2,n2,Lt,w2,v3,b0,b1,b2,b3,b4,_⟩:=GY hs e5;have hi:(cV fx 9 (.cons k t n ks (.cons k' t' n' bO (.cons k2 t2 n2 Lt .nil)))).i=max ((cV fx k ks).i+1) (max ((cV fx k' bO).i+1) (max ((cV fx k2 Lt).i+1) 0)):=rfl;rw[a1,Lr,b1];exact⟨9,[],0,.cons k t n ks (.cons k' t' n' bO (.cons k2 t2 n2 Lt .nil)),v0+w+v2+w'+v3+w2,CM 9 [] (.cons k t n ks (.cons k' t' n' bO (.cons k2 t2 n2 Lt .nil))),by show wS c z.2=_;omega,by rw[hi];omega,by show ks.size+(bO.size+(Lt.size+0+1)+1)+1+2<=_;omega,(fun e=>by cases e),(fun e=>by cases e)⟩
 |false=>
 rw[h3,cond_false] at h;cases h4:decide (dN c i=cU) with
 |true=>rw[h4,cond_true] at h;have g3:=z9k h0 (zM h4);obtain⟨x1,e1,e2⟩:=gU h;injection e2 with e2;subst e2;obtain⟨k,t,n,ks,w,a1,a2,a3⟩:=hs _ _ e1;rw[a1];exact z1f (v:=3) 11 (.inr rfl) a3 om om
 |false=>rw[h4,cond_false] at h;obtain⟨x1,e1,e2⟩:=gU h;obtain⟨j,e3,e4⟩:=gU e2;obtain⟨s,e5,e6⟩:=gU e4;obtain⟨y,e7,e8⟩:=gU e6;injection e8 with e8;subst e8;obtain⟨k,t,n,ks,w,a1,a2,a3⟩:=hs _ _ e1;obtain⟨rfl,v1,f1,f2⟩:=D6 e3;obtain⟨v2,b1,b2⟩:=OX e5;obtain⟨k',t',n',bO,w',v3,a0',Lr,a2',Ls⟩:=GY hs e7;rw[a1,Lr];exact VH (v:=v0+v1+v2+v3) 12 (.inr (.inr rfl)) a3 Ls om om
theorem z6j(hz:fb fx=0)(hc:AO c fx)(hN:∀t,t∈c.l->t.1=1->da t.2.1=false):∀(d i:Nat) (x:List ND×Nat),cE c d i=.ok x->XW c fx i x
 |0,i,x,h=>by cases h
 |d+1,i,x,h=>by have ih:=z6j hz hc hN d;have ha:=fun i x h=>zcz hz (fun i x h=>zbt hN ih (z6f d) h) (i:=i) (x:=x) h;exact zbw (fun i x h=>zd1 hz hc ha h) ih h
theorem zd2(hz:fb fx=0)(hc:AO c fx)(hN:∀t,t∈c.l->t.1=1->da t.2.1=false){l:List ND}(h:jt c=.ok l):∃k t n ks w,l=(tr k t n ks).flat/\w<=(c.l.map IB).sum/\Wt fx k t ks w:=by
 unfold jt at h;obtain⟨x,e1,e2⟩:=gU h;obtain⟨k,t,n,ks,w,a1,a2,a3⟩:=z6j hz hc hN _ _ _ e1;by_cases hl:x.2<c.l.length
 ·rw[if_pos hl] at e2;cases e2
 ·rw[if_neg hl] at e2;injection e2 with e2;subst e2;refine⟨k,t,n,ks,w,a1,?_,a3⟩;have e:wS c x.2=(c.l.map IB).sum:=by unfold wS;rw[zZ om]
  have e0:wS c 0=0:=rfl;omega
end
open Pz
noncomputable def nc(t:List ND):Int:=match ga (⟨true,t⟩,()) with
 |some x=>x.1
 |none=>0
noncomputable def tokR(F:List ar)(l:List Tk)(e:Int):List ND×Int×Int:=match jt (iW F l e) with
 |.error q=>([],q.1,q.2)
 |.ok t=>if nc t≠0 then([],0,74) else(t,0,0)
noncomputable def full(F:List ar)(s:Tx):List ND×Int×Int:=
 if fb F≠0 then([],0,fb F) else match eE (s.length+1) s 0 with
 |.error e=>([],e.1,e.2)
 |.ok l=>tokR F l (s.length:Int)
def QB(t:Tx):Prop:=(∀b,b∈t->0<=b/\b<=255)/\t.length<=1000000
theorem z6k{t:List ND}(hl:t.length<=4000)(hg:GL t)(b:Bool):ga (⟨b,t⟩,())=some (nc t,()):=by
 have h:∃er,∀b,ga (⟨b,t⟩,())=some (er,()):=by
  rcases qyy t with h|⟨kd,x,n,ks,rfl⟩
  ·exact⟨60,fun b=>qkf b t hl h⟩
  ·have e:(tr kd x n ks).flat.length=ks.size+1:=by rw[F.len];rfl
   exact⟨_,fun b=>UA b kd x n ks om hg⟩
 obtain⟨er,h⟩:=h;have h1:=h true;unfold nc;rw[h1,h b]
theorem VI(s:Tx)(hs:s.length<=1000)(hb:∀x,x∈s->0<=x/\x<=255):KX mP 0 s.length (eE (s.length+1) s 0):=UL (N:=mP) CD ⟨by decide,by decide⟩ 1000 (fun t h1 h2=>(qzx t h1 om).2) _ s 0 hs hb
theorem OZ{F:List ar}(hz:fb F=0){s:Tx}(hs:s.length<=1000){l:List Tk}(h:KX mP 0 s.length (.ok l)):mV (iW F l (s.length:Int)) (s.length:Int) QB mP where
 tk t ht:=by obtain⟨h1,h2⟩:=h;obtain⟨⟨q1,q2,q3⟩,q4,q5⟩:=h2 t ht;exact⟨⟨q1,by omega⟩,q3,q4,by omega⟩
 e0:=by show(0:Int)<=(s.length:Int);omega
 e1:=Int.le_refl _
 q0:=⟨fun b h=>absurd h (List.not_mem_nil),Nat.zero_le _⟩
 n0:=⟨by decide,by decide⟩
 cl ops x h:=Om hz h
theorem qpj{F:List ar}(hz:fb F=0){s:Tx}(hs:s.length<=1000){l:List Tk}(h:KX mP 0 s.length (.ok l)){t:List ND}(ht:jt (iW F l (s.length:Int))=.ok t):t.length<=4000/\GL t:=by have ho:=Pz.cM (OZ hz hs h);rw[ht] at ho;obtain⟨h1,h2⟩:=ho;have h3:l.length<=s.length:=h.1;have h1:t.length+1<=3*l.length:=h1;refine⟨by omega,fun x hx=>?_⟩;obtain⟨⟨q1,q2⟩,q3⟩:=h2 x hx;exact⟨q1,q2,q3⟩
theorem qw6(s:Tx)(hs:s.length<=1000)(hb:∀x,x∈s->0<=x/\x<=255)(F:Y1)(hg:gL F.l):∃b,lh (s,F,())=some (⟨b,(full F.l s).1⟩,(full F.l s).2.1,(full F.l s).2.2,()):=by
 obtain⟨fn,fl⟩:=F;rw[Kv,Ik fn hg,af];simp only;unfold full;by_cases hz:fb fl=0
 ·rw[hz,iY,if_neg (fun h=>h rfl)];simp only[av,Bool.not_true,aD];obtain⟨b,hl⟩:=qtp s om hb (.inl om);have hc:=VI s hs hb;rw[hl,af];cases hr:eE (s.length+1) s 0 with
  |error e=>rw[hr] at hc;have he:ag e.2 0=false:=dx (by have:=hc.2.1;omega);refine⟨true,?_⟩;show az (av (ag e.2 0)) (some ((⟨true,[]⟩:Y0),e.1,e.2,())) _=_;rw[he];rfl
  |ok l=>
   rw[hr] at hc;have H:=OZ hz hs hc;have hn:l.length<=10000:=by have:=hc.1;omega
   obtain⟨b2,ht⟩:=qic (nb:=b) (c:=iW fl l (s.length:Int)) (F:=⟨fn,fl⟩) hn H (z18 hg hz _ _);have ht:lg (⟨b,[]++l⟩,ae s,⟨fn,fl⟩,())=_:=ht;have e0:az (av (ag (0:Int) 0)) (some ((⟨true,[]⟩:Y0),(0:Int),(0:Int),())) (aj (lg (⟨b,[]++l⟩,ae s,⟨fn,fl⟩,())) (fun x2=>some (x2.1,x2.2.1,x2.2.2.1,())))=(aj (lg (⟨b,[]++l⟩,ae s,⟨fn,fl⟩,())) (fun x2=>some (x2.1,x2.2.1,x2.2.2.1,()))):=rfl;show ∃b',_=some ((⟨b',(tokR fl l (s.length:Int)).1⟩:Y0),(tokR fl l (s.length:Int)).2.1,(tokR fl l (s.length:Int)).2.2,());refine Exists.imp (fun b h=>Eq.trans e0 h) ?_;rw[ht];unfold tokR;cases ha:jt (iW fl l (s.length:Int)) with
   |error q=>exact⟨true,rfl⟩
   |ok t=>
    obtain⟨g1,g2⟩:=qpj hz hs hc ha;simp only;rw[z6k g1 g2,af];simp only;by_cases hy:nc t=0
    ·rw[hy,iY,if_neg (fun h=>h rfl)];exact⟨b2,rfl⟩
    ·rw[dx hy,if_pos hy];exact⟨true,rfl⟩
 ·rw[dx hz,if_pos hz];exact⟨true,rfl⟩
theorem z1g(F:List ar)(s:Tx)(hs:s.length<=1000)(hb:∀x,x∈s->0<=x/\x<=255):((full F s).2.2=0->(full F s).2.1=0/\nc (full F s).1=0/\(full F s).1.length<=4000/\GL (full F s).1)/\((full F s).2.2≠0->(full F s).1=[]/\0<=(full F s).2.1/\(full F s).2.1<=s.length):=by
 unfold full;by_cases hz:fb F=0
 ·rw[if_neg (fun h=>h hz)];have hc:=VI s hs hb;cases hr:eE (s.length+1) s 0 with
  |error e=>rw[hr] at hc;obtain⟨⟨h1,h2⟩,h3,h4⟩:=hc;exact⟨fun h=>by have h:e.2=0:=h;omega,fun _=>⟨rfl,h1,by show e.1<=_;omega⟩⟩
  |ok l=>
   rw[hr] at hc;have H:=OZ hz hs hc;have ho:=Pz.cM H;show((tokR F l (s.length:Int)).2.2=0->(tokR F l (s.length:Int)).2.1=0/\nc (tokR F l (s.length:Int)).1=0/\(tokR F l (s.length:Int)).1.length<=4000/\GL (tokR F l (s.length:Int)).1)/\
    ((tokR F l (s.length:Int)).2.2≠0->(tokR F l (s.length:Int)).1=[]/\0<=(tokR F l (s.length:Int)).2.1/\(tokR F l (s.length:Int)).2.1<=s.length)
   unfold tokR;cases ha:jt (iW F l (s.length:Int)) with
   |error q=>rw[ha] at ho;obtain⟨⟨h1,h2⟩,h3,h4⟩:=ho;exact⟨fun h=>by have h:q.2=0:=h;omega,fun _=>⟨rfl,h1,h2⟩⟩
   |ok t=>
    obtain⟨g1,g2⟩:=qpj hz hs hc ha;simp only;by_cases hy:nc t=0
    ·rw[if_neg (fun h=>h hy)];exact⟨fun _=>⟨rfl,hy,g1,g2⟩,fun h=>absurd rfl h⟩
    ·rw[if_pos hy];exact⟨fun h=>absurd h dc,fun _=>⟨rfl,Int.le_refl _,by show(0:Int)<=_;omega⟩⟩
 ·rw[if_pos hz];exact⟨fun h=>absurd h hz,fun _=>⟨rfl,Int.le_refl _,by show(0:Int)<=_;omega⟩⟩
theorem z53{F:List ar}{s:Tx}(h:(full F s).2.2=0)(hs:s.length<=1000)(hb:∀x,x∈s->0<=x/\x<=255):fb F=0/\∃l,eE (s.length+1) s 0=.ok l/\KX mP 0 s.length (.ok l)/\jt (iW F l (s.length:Int))=.ok (full F s).1/\nc (full F s).1=0:=by
 unfold full at h ⊢;by_cases hz:fb F=0
 ·rw[if_neg (fun h=>h hz)] at h ⊢;have hc:=VI s hs hb;refine⟨hz,?_⟩;cases hr:eE (s.length+1) s 0 with
  |error e=>rw[hr] at hc h;have h1:=hc.2.1;have h:e.2=0:=h;omega
  |ok l=>
   rw[hr] at hc h;have h:(tokR F l (s.length:Int)).2.2=0:=h;refine⟨l,rfl,hc,?_⟩;show jt (iW F l (s.length:Int))=.ok (tokR F l (s.length:Int)).1/\nc (tokR F l (s.length:Int)).1=0;unfold tokR at h ⊢;have ho:=Pz.cM (OZ hz hs hc);cases ha:jt (iW F l (s.length:Int)) with
   |error q=>rw[ha] at ho h;have h1:=ho.2.1;have h:q.2=0:=h;omega
   |ok t=>
    rw[ha] at h;simp only at h ⊢;by_cases hy:nc t=0
    ·rw[if_neg (fun h=>h hy)];exact⟨rfl,hy⟩
    ·rw[if_pos hy] at h;cases h
 ·rw[if_pos hz] at h;exact absurd h hz
theorem z1h(n:Bool)(l:List ND)(h:l.length<=4000):DC (⟨n,l⟩,())=some (⟨false,l⟩,()):=by rw[qi1,o4 (by show((0:Nat):Int)+((l.length:Nat):Int)<=_;omega),af];rfl
theorem z1i{F:List ar}{s:Tx}(h:(full F s).2.2=0)(hs:s.length<=300)(hb:∀x,x∈s->0<=x/\x<=255):fb F=0/\∃k t n ks,(full F s).1=(tr k t n ks).flat/\bI k t n ks false=0/\(∀b,ga (⟨b,(tr k t n ks).flat⟩,())=some (0,()))/\GL (tr k t n ks).flat/\TL 300 (tr k t n ks).flat/\ks.size+1<=600/\(cV F k ks).i+1<=100:=by
 obtain⟨g0,_⟩:=z1g F s om hb;obtain⟨_,_,gl,gG⟩:=g0 h;obtain⟨hz,l,hl,he,ha,hy⟩:=z53 h om hb;obtain⟨w1,w2⟩:=zbs _ _ _ _ hl;obtain⟨k,t,n,ks,w,a1,a2,a3,a4,_⟩:=zd2 hz (c:=iW F l (s.length:Int)) ⟨rfl,rfl⟩ (fun t ht=>(w2 t ht).2) ha;have a2:w<=(l.map IB).sum:=a2;have H:mV (iW F l (s.length:Int)) (s.length:Int) (fun t=>t.length<=300) (fun _=>True):={
  tk:=fun t ht=>by obtain⟨_,q4,q5⟩:=he.2 t ht;exact⟨by have:=(w2 t ht).1;omega,trivial,q4,by omega⟩
  e0:=by show(0:Int)<=(s.length:Int);omega
  e1:=Int.le_refl _
  q0:=Nat.zero_le _
  n0:=trivial
  cl:=fun ops x h=>Om hz h}
 have ho:=Pz.cM H;rw[ha] at ho;have hT:TL 300 (full F s).1:=fun x hx=>(ho.2 x hx).1;have hc:∀b,ga (⟨b,(full F s).1⟩,())=some (0,()):=fun b=>by rw[z6k gl gG b,hy]
 rw[a1] at gl gG hT hc;have hf:(tr k t n ks).flat.length=ks.size+1:=(tr k t n ks).len;have hv:bI k t n ks false=0:=by have h1:=hc true;rw[UA true k t n ks om gG] at h1;injection h1 with h1;injection h1 with h1;exact qty h1
 exact⟨hz,k,t,n,ks,a1,hv,hc,gG,hT,by omega,by omega⟩
theorem uY(s:Tx)(hb:∀x,x∈s->0<=x/\x<=255)(n:Bool)(l:List ar)(hf:∀x,x∈l->gF x)(W:Int):cI (s,⟨n,l⟩,W,())=some (true,()):=by
 rw[qej,z0l,Uj,af];show aj (some (aK 300 (ae s))) _=_;rw[af];obtain⟨r,h1,h2⟩:=qtx true n [] l;rw[h1];have e0:∀b1 b2 b3 b4:Bool,∀X Y:Option (Bool×Unit),(b1||(b2||(b3||b4)))=true->aj (az b1 (some true) (aj (some (!b2,())) (fun x2=>some (av x2.1)))) (fun x3=>aj (az x3 (some true) (some b3)) (fun x4=>aj (az x4 (some true) (some b4)) (fun x5=>az x5 X Y)))=X:=by intro b1 b2 b3 b4 X Y h;cases b1<;>cases b2<;>cases b3<;>cases b4<;>first|rfl|cases h
 have e1:∀b1 b2 b3 b4:Bool,∀X Y:Option (Bool×Unit),(b1||(b2||(b3||b4)))=false->aj (az b1 (some true) (aj (some (!b2,())) (fun x2=>some (av x2.1)))) (fun x3=>aj (az x3 (some true) (some b3)) (fun x4=>aj (az x4 (some true) (some b4)) (fun x5=>az x5 X Y)))=Y:=by intro b1 b2 b3 b4 X Y h;cases b1<;>cases b2<;>cases b3<;>cases b4<;>first|rfl|cases h
 have er:r=!(!r):=(Bool.not_not r).symm;cases hG:(aK 300 (ae s)||(!r||(aK W 1||aK 1000 W))) with
 |true=>rw[er];exact e0 _ _ _ _ _ _ hG
 |false=>
  rw[er];refine Eq.trans (e1 _ _ _ _ _ _ hG) ?_;rw[Bool.or_eq_false_iff,Bool.or_eq_false_iff,Bool.or_eq_false_iff,Bool.not_eq_false'] at hG;obtain⟨q1,q2,q3,q4⟩:=hG;have q1:¬(300:Int)<((s.length:Nat):Int):=of_decide_eq_false q1;have q3:¬W<1:=of_decide_eq_false q3;have q4:¬1000<W:=of_decide_eq_false q4;obtain⟨_,_,h5,h6⟩:=h2 q2;have hj:=zb5 hf h5 h6;obtain⟨w,rfl⟩:=Int.eq_ofNat_of_zero_le (show 0<=W by omega);obtain⟨b,hp⟩:=qw6 s om hb ⟨false,l⟩ hj;rw[qkm n l h5];simp only[af];rw[hp];simp only[af];by_cases he:(full l s).2.2=0
  ·obtain⟨hz,k,t,m,ks,et,hv,hc,hk,hn,hl,hi⟩:=z1i he om hb;rw[he,et];have ho:(tr k t m ks).flat.length=ks.size+1:=(tr k t m ks).len;have hg:=z0y hv hz h6 hk hl hn;have hm:=z0z false false hv hz hj h6 hk hl hn (hc false);have ha:=z10 false false hm hg (W:=w) ⟨by omega,by omega⟩;obtain⟨b2,hq⟩:=z1c hv hz hj hk hg hl hi hc w false;rw[show ag 0 0=true from rfl];simp only[av,Bool.not_true,aD];rw[z1h b _ om];simp only[af];rw[ha];simp only[af];rw[hq];simp only[af];rw[z1h b2 _ om];simp only[af];rw[ha];simp only[af];rw[show ag 0 0=true from rfl,qp9 b b2 _ om,Nz];rfl
  ·rw[dx he];obtain⟨_,g0⟩:=z1g l s om hb;rw[(g0 he).1];rfl
end Fn
end Ev