/- What is shown is read again: tokens, trees, declarations; the law, in plain words. -/
import Derived.Test.YtdgmbemagoakjaaGreatDoorPlainE
namespace Ev
open Go
namespace Fn
open Pz
variable{α:Type}{E a' c' e k n:Int}{As ls:List (List ND)}{D:List DX}{l l':List ND}{x:List ND×Nat}{es ps r ts us:List T3}{Q:List T3→Prop}{d:List Tk}{X fs fx fx' iH:List af}{N cs i i' j m m' m2 p:Nat}{c:PC}{typ:PX}{b b' nm t w z:Tx}{f g:af}
def Gb(t:Tk):T3:=(t.1,t.2.1,t.2.2.1)
def fI(s:Tx)(ts:List T3):Prop:=∀(f:Nat) (a:Int),s.length<f->∃l,fB f s a=.ok l/\l.map Gb=ts
theorem fI.nil:fI [] []:=fun f a h=>by obtain⟨g,rfl⟩:∃g,f=g+1:=⟨f-1,by omega⟩;exact⟨[],rfl,rfl⟩
theorem fI.blank{c:Int}{s:Tx}(hc:c=32\/c=10)(h:fI s ts):fI (c::s) ts:=fun f a hf=>by
 obtain⟨g,rfl⟩:∃g,f=g+1:=⟨f-1,by omega⟩;have hf:s.length+1<g+1:=hf;have e:=qse (inn:=fy) (sgn:=dV) (keyw:=ik) (rd:=ky) g [c] s a (z8e s hc);have⟨l,h1,h2⟩:=h (g+1) (a+((1:Nat):Int)) om
 grind
theorem fI.tok{p:Tx}{t:T3}(hp:p≠[])(hb:Pz.blank false (p++z)=0)(h1:j4 (p++z)=(t,p.length,0))(h:fI z ts):fI (p++z) (t::ts):=fun f a hf=>by
 obtain⟨g,rfl⟩:∃g,f=g+1:=⟨f-1,by omega⟩;have hl:1<=p.length:=by
  cases p with
  |nil=>exact absurd rfl hp
  |cons _ _=>exact Nat.le_add_left _ _
 rw[zd] at hf;have⟨l,e1,e2⟩:=h g (a+((0:Nat):Int)+((p.length:Nat):Int)) om;refine⟨FR t (a+((0:Nat):Int))::l,?_,by rw[zX,e2];rfl⟩;have h1:one fy dV ik ky (p++z)=(t,p.length,0):=h1;unfold fB kx;rw[hb,jh,zj (by cases p with|nil=>exact absurd rfl hp|cons _ _=>exact fun e=>by cases e),h1,zj (by exact fun e=>e rfl),ZZ];show eb (fB g z _) _=_;rw[e1];rfl
def Sep(z:Tx):Prop:=∀c,z.head?=some c->c=32\/c=10\/c=41\/c=59
theorem Sep.nil:Sep []:=nofun
theorem Sep.cons{c:Int}(z:Tx)(h:c=32\/c=10\/c=41\/c=59):Sep (c::z):=fun d e=>by grind
theorem Sep.app{a:Tx}(ha:Sep a)(hb:Sep b):Sep (a++b):=by
 cases a with
 |nil=>exact hb
 |cons c a=>exact fun d e=>ha d e
def LX(s:Tx)(ts:List T3):Prop:=∀z us,Sep z->fI z us->fI (s++z) (ts++us)
def LO(s:Tx)(ts:List T3):Prop:=∀z us,fI z us->fI (s++z) (ts++us)
theorem LO.lx{s:Tx}(h:LO s ts):LX s ts:=fun z us _ hz=>h z us hz
theorem LX.nil:LO [] []:=fun _ _ h=>h
theorem LX.app{a:Tx}{s t:List T3}(ha:LX a s)(hb:LX b t)(hs:Sep b):LX (a++b) (s++t):=fun z us hz h=>by rw[zk,zk];exact ha _ _ (hs.app hz) (hb z us hz h)
theorem LO.app{a:Tx}{s t:List T3}(ha:LO a s)(hb:LX b t):LX (a++b) (s++t):=fun z us hz h=>by rw[zk,zk];exact ha _ _ (hb z us hz h)
theorem LO.TK{a:Tx}{s t:List T3}(ha:LO a s)(hb:LO b t):LO (a++b) (s++t):=fun z us h=>by rw[zk,zk];exact ha _ _ (hb z us h)
theorem LX.whole{s:Tx}(h:LX s ts):fI s ts:=by
 have:=h [] [] Sep.nil fI.nil
 grind
theorem LX.text{s s':Tx}{ts':List T3}(h:LX s ts)(e:s=s')(e2:ts=ts'):LX s' ts':=by subst e;subst e2;exact h
theorem LO.sp{c:Int}(h:c=32\/c=10):LO [c] []:=fun _ _ hz=>fI.blank h hz
theorem LO.bl:∀{s:Tx},(∀c,c∈s->c=32\/c=10)->LO s []
 |[],_=>LX.nil
 |_::_,h=>fun z us hz=>fI.blank (h _ (zg ..)) (LO.bl (fun c hc=>h c (zf _ hc)) z us hz)
theorem Ya{p:Int->Bool}(hc:p 32=false)(he:p 10=false)(hf:p 41=false)(hg:p 59=false):∀(s:Tx),s.all p=true->∀z,Sep z->eB p (s++z)=s.length
 |[],_,z,hz=>by
  cases z with
  |nil=>rfl
  |cons c z=>
   have:p c=false:=by rcases hz c rfl with rfl|rfl|rfl|rfl<;>assumption
   show eB p (c::z)=0;unfold eB;rw[this];rfl
 |b::s,h,z,hz=>by rw[Jh,ze] at h;show eB p (b::(s++z))=s.length+1;unfold eB;rw[h.1,Ya hc he hf hg s h.2 z hz];rfl
theorem O5{c:Int}(l:Tx)(h:36<=c\/c=33\/c=34):Pz.blank false (c::l)=0:=z8f l om om
theorem TM{b:Int}{s:Tx}(hb:qQ b=true\/y9 b=true)(h:(b::s).all fy=true):LX (b::s) [((bif ik (b::s) then 6 else(bif qQ b then 1 else 2)),b::s,0)]:=fun z us hz h2=>by
 have hr:65<=b:=by
  unfold qQ y9 at hb
  grind
 refine fI.tok nofun (O5 _ (.inl om)) ?_ h2
 have hc:=Ya (p:=fy) rfl rfl rfl rfl (b::s) h z hz;show gJ fy dV ik ky b (s++z)=_;have hc:eB fy (b::(s++z))=s.length+1:=hc;have he:(b::(s++z)).take (s.length+1)=b::s:=by grind
 unfold gJ qR;rw[hc,he];cases hs:qQ b with
 |true=>rw[zK];rfl
 |false=>grind
theorem za2{s:Tx}(h:qH s=true):LX s [((bif ik s then 6 else 5),s,0)]:=fun z us hz h2=>by
 cases s with
 |nil=>cases h
 |cons b s=>
  unfold qH at h;rw[ze] at h;have h:=h.2;have he:=Ya (p:=dV) rfl rfl rfl rfl (b::s) h z hz;have hc:b∈qG:=by grind
  have hr:(36<=b\/b=33\/b=34)/\qQ b=false/\y9 b=false:=by unfold qG at hc;simp[List.mem_cons,List.not_mem_nil,or_false] at hc;rcases hc with e|e|e|e|e|e|e|e|e|e|e|e|e|e|e|e<;>subst e<;>decide
  refine fI.tok nofun (O5 _ hr.1) ?_ h2
  show gJ fy dV ik ky b (s++z)=_;have he:=he;have hf:(b::(s++z)).take (s.length+1)=b::s:=by grind
  have hg:dV b=true:=zw hc;unfold gJ qR
  grind
theorem Gc{b:Int}(h:b=40\/b=41\/b=95):LO [b] [(6,[b],0)]:=fun z us h2=>by
 refine fI.tok nofun (O5 _ om) ?_ h2
 rcases h with rfl|rfl|rfl
 all_goals rfl
def aO(s:Tx):T3:=(6,s,0)
theorem MY:LO [59,59] [aO [59,59]]:=fun z us h2=>fI.tok (p:=[59,59]) nofun (O5 _ (.inl dc)) rfl h2
theorem MZ{b:Int}{s:Tx}(hb:qQ b=true)(h:(b::s).all fy=true)(hk:ik (b::s)=true):LX (b::s) [aO (b::s)]:=by
 have:=TM (.inl hb) h
 rwa [hk] at this
theorem TN{s:Tx}(h:qH s=true)(hk:ik s=true):LX s [aO s]:=by
 have:=za2 h
 rwa [hk] at this
def fK(t:Tx):List T3:=bif bX t then [aO [40],(5,t,0),aO [41]] else [(1,t,0)]
theorem zli(h:bX t=true):LX t [(5,t,0)]:=by
 unfold bX at h;rw[ze] at h;have hk:ik t=false:=by
  have:=h.2;unfold ik;cases hd:decide (t∈yV) with
  |false=>rfl
  |true=>rw[hd] at this;cases this
 have:=za2 h.1
 grind
theorem z1o{p:Int->Bool}(h:AS p t=true):∃b s,t=b::s/\p b=true/\(b::s).all fy=true/\ik (b::s)=false:=by
 unfold AS at h;simp only[ze,ZG] at h;have⟨⟨⟨h1,h2⟩,h3⟩,h4⟩:=h;cases t with
 |nil=>cases h2
 |cons b s=>exact⟨b,s,rfl,h3,h1,h4⟩
theorem O6(h:fb t=true):LX t [(2,t,0)]:=by
 obtain⟨b,s,rfl,h1,h2,h3⟩:=z1o h;have hg:y9 b=true:=h1;have hs:qQ b=false:=by
  unfold y9 at hg;unfold qQ
  grind
 have:=TM (.inr hg) h2
 grind
theorem Yb(h:aS t=true):LX (iG t) (fK t):=by
 unfold iG fK;cases ho:bX t with
 |true=>have h1:=(Gc (b:=40) (.inl rfl)).app (zli ho);exact h1.app (Gc (b:=41) (.inr (.inl rfl))).lx (Sep.cons _ (.inr (.inr (.inl rfl))))
 |false=>
  rw[zE];unfold aS at h;rw[ho,Zo] at h;obtain⟨b,s,rfl,h1,h2,h3⟩:=z1o h;have h1:qQ b=true:=h1;have:=TM (.inl h1) h2
  grind
theorem Yc:∀(f u:Nat),∀b,b∈dO f u->48<=b/\b<=57
 |0,_,b,h=>by cases h
 |f+1,u,b,h=>by
  unfold dO at h;split at h
  ·grind
  ·rcases zD.1 h with h|h
   ·exact Yc f _ b h
   grind
theorem zlj(f u:Nat):dO (f+1) u≠[]:=by
 unfold dO;split
 all_goals simp_all
theorem qw4(s:Tx)(bl:Bool){r:Tx}(hr:∀b,b∈r->0<=b/\b<=255){k:Nat}{d:Int}(hk:r[k]?=some (48+d))(hd:0<=d/\d<=9)(hn:-461168601842738790<=n/\n<=0):aI iq (s,bl,n,r,(k:Int),())=aI iq (s,bl,10*n-d,r,((k+1:Nat):Int),()):=by
 obtain⟨he,hg⟩:=zT.1 hk;have hc:(k:Int)<aa r:=by show(k:Int)<((r.length:Nat):Int);omega
 obtain⟨b1,b2⟩:=(SS hr he).1 om;rw[hg] at b1;refine cY ?_;rw[SG];rw[bf,zu hc,bf,zu hc,ae,b1,b2,bf,zj om];have e:aZ 57 (48+d)=false:=zt om;have e2:aZ n (-461168601842738790)=false:=zt om;have e3:dx .i32 (48+d) 48=d:=by
  show IntKind.i32.wrap (48+d-48)=d;have:(48+d-48:Int)=d:=om
  rw[this];have:d=0\/d=1\/d=2\/d=3\/d=4\/d=5\/d=6\/d=7\/d=8\/d=9:=om
  rcases this with rfl|rfl|rfl|rfl|rfl|rfl|rfl|rfl|rfl|rfl<;>rfl
 have e4:fR .i64 d=d:=by
  have:d=0\/d=1\/d=2\/d=3\/d=4\/d=5\/d=6\/d=7\/d=8\/d=9:=om
  rcases this with rfl|rfl|rfl|rfl|rfl|rfl|rfl|rfl|rfl|rfl<;>rfl
 have e5:pW .i64 10 n=10*n:=zcm om om;rw[e,ae,aJ,e2,ae,aJ,e3,e4,e5,oY om om]
theorem qog(s:Tx)(bl:Bool){r:Tx}(hr:∀b,b∈r->0<=b/\b<=255):∀(f u:Nat) (pre post:Tx),r=pre++(dO f u++post)->u<10 ^ f->u<=4611686018427387904->aI iq (s,bl,0,r,(pre.length:Int),())=aI iq (s,bl,-(u:Int),r,((pre.length+(dO f u).length:Nat):Int),())
 |0,u,pre,post,_,hu,_=>by
  have:u=0:=om
  subst this;rfl
 |f+1,u,pre,post,e,hu,hb=>by
  unfold dO at e ⊢;by_cases h:u<10
  ·rw[zu h] at e ⊢;have hk:r[pre.length]?=some (48+(u:Int)):=by rw[e,zM (zm _),jy];rfl
   rw[qw4 s bl hr hk om ⟨by decide,by decide⟩]
   grind
  ·rw[zj h] at e ⊢;rw[zk] at e;rw[qog s bl hr f (u / 10) pre _ e om om];have hk:r[pre.length+(dO f (u / 10)).length]?=some (48+((u % 10:Nat):Int)):=by grind
   rw[qw4 s bl hr hk om om]
   grind
theorem z1p{v:Int}(bl:Bool){r:Tx}(hw:rz n=true)(hv:(bif bl then v else dx .i64 0 v)=n):aI iq (fC n,bl,v,r,((r.length:Nat):Int),())=some (n,0,()):=by
 have hc:¬((r.length:Nat):Int)<aa r:=by show ¬((r.length:Nat):Int)<((r.length:Nat):Int);omega
 have he:=zZ hw;have c1:aZ 4611686018427387903 n=false:=zt om;have c2:aZ n (-4611686018427387904)=false:=zt om;refine bG ?_;rw[SG];rw[bf,zj hc];cases bl with
 |true=>have hv:v=n:=hv;subst hv;simp[ai,Bool.not_true,aJ,ae,c1,c2,XR hw,vg]
 |false=>have hv:dx .i64 0 v=n:=hv;simp[ai,Bool.not_false,aM,ae,hv,c1,c2,aJ,XR hw,vg,Bool.not_true]
theorem ac2(s:Tx):yK (s,[126],())=some (match s with|126::l=>(l,true,())|_=>(s,false,())):=by
 rw[SF,SE,Mu];have e1:aa ([126]:Tx)=((1:Nat):Int):=rfl;rw[e1,IX];cases s with
 |nil=>rfl
 |cons b l=>
  have hc:bS (b::l) ((1:Nat):Int) (aa (b::l))=some l:=by unfold bS aa;rw[zu (by rw[zn];omega)];simp
  rw[zu (by show((1:Nat):Int)<=((l.length+1:Nat):Int);omega),FK (k:=1) (by rw[zn];omega),ae,ae,ae,DH];have e2:bW (List.take 1 (b::l)) [126]=decide (b=126):=by
   show(([b]:List Int)==[126])=_
   grind
  rw[e2];by_cases h:b=126
  ·subst h;rw[zw rfl,aM,hc];rfl
  ·rw[zt h,aJ];simp[ae]
   grind
theorem zf7(hw:rz n=true):ky (fC n)=(n,0):=by
 have hc:=zZ hw;have main:vG (fC n,())=some (n,0,()):=by
  rw[SH,ac2];have p20:(10:Nat) ^ 20=100000000000000000000:=rfl;have hb:∀u:Nat,∀b,b∈dO 20 u->0<=b/\b<=255:=fun u b h=>by have:=Yc _ _ b h;omega
  by_cases h:n<0
  ·have he:fC n=126::dO 20 n.natAbs:=by rw[XS,zu h]
   have h1:=qog (fC n) true (hb n.natAbs) 20 n.natAbs [] [] (by rw[zv];rfl) (by rw[p20];omega) om;have h2:=z1p (n:=n) (v:=-(n.natAbs:Int)) true (r:=dO 20 n.natAbs) hw (by show -(n.natAbs:Int)=n;omega);rw[show((([]:Tx).length:Nat):Int)=0 from rfl,show([]:Tx).length+(dO 20 n.natAbs).length=(dO 20 n.natAbs).length from zW _,h2] at h1
   conv=>lhs;arg 1;rw[he]
   exact h1
  ·have he:fC n=dO 20 n.toNat:=by rw[XS,zj h]
   have h1:=qog (fC n) false (hb n.toNat) 20 n.toNat [] [] (by rw[zv];rfl) (by rw[p20];omega) om;have h2:=z1p (n:=n) (v:=-(n.toNat:Int)) false (r:=dO 20 n.toNat) hw (by show dx .i64 0 (-(n.toNat:Int))=n;rw[oY om om];omega);rw[show((([]:Tx).length:Nat):Int)=0 from rfl,show([]:Tx).length+(dO 20 n.toNat).length=(dO 20 n.toNat).length from zW _,h2] at h1;have hf:∀l,fC n≠126::l:=fun l e=>by rw[he] at e;have:=Yc 20 n.toNat 126 (by rw[e];exact zg ..);omega
   have hm:(match fC n with|126::l=>((l,true,()):Y1×Bool×Unit)|_=>(fC n,false,()))=(fC n,false,()):=by grind
   rw[hm,ae]
   grind
 unfold ky;rw[main]
theorem za4(hw:rz n=true):LX (fC n) [(3,[],n)]:=fun z us hz h2=>by
 have key:∀(c:Int) (l:Tx),fC n=c::l->(iw c=true\/c=126)->l.all iw=true->fI (fC n++z) ([(3,[],n)]++us):=fun c l e hc hl=>by
  have hr:(48<=c/\c<=57)\/c=126:=by
   rcases hc with hc|hc
   ·unfold iw at hc;simp[Bool.and_eq_true,decide_eq_true_eq] at hc;exact .inl hc
   ·exact .inr hc
  refine fI.tok (fun e2=>by rw[e] at e2;cases e2) (by rw[e];exact O5 _ (.inl om)) ?_ h2;have hf:=zf7 hw;rw[e] at hf ⊢;show gJ fy dV ik ky c (l++z)=_;have hg:=Ya (p:=iw) rfl rfl rfl rfl l hl z hz;have hj:(c::(l++z)).take (1+l.length)=c::l:=by grind
  have hs:qQ c=false/\y9 c=false/\dV c=false/\(decide (c=40)||(decide (c=41)||decide (c=95)))=false/\decide (c=59)=false:=by
   have:c=48\/c=49\/c=50\/c=51\/c=52\/c=53\/c=54\/c=55\/c=56\/c=57\/c=126:=om
   rcases this with rfl|rfl|rfl|rfl|rfl|rfl|rfl|rfl|rfl|rfl|rfl<;>decide
  have hd:(iw c||decide (c=126))=true:=by grind
  unfold gJ
  grind
 have dg:∀u,(dO 20 u).all iw=true:=fun u=>ju.2 fun b hb=>by
  have:=Yc _ _ b hb;unfold iw
  grind
 by_cases h:n<0
 ·exact key 126 (dO 20 n.natAbs) (by rw[XS,zu h]) (.inr rfl) (dg _)
 ·have he:fC n=dO 20 n.toNat:=by rw[XS,zj h]
  cases hl:dO 20 n.toNat with
  |nil=>exact absurd hl (zlj 19 _)
  |cons c l=>grind
theorem zhl(h:0<=n/\n<16):cL (il n)=n:=by
 have:n=0\/n=1\/n=2\/n=3\/n=4\/n=5\/n=6\/n=7\/n=8\/n=9\/n=10\/n=11\/n=12\/n=13\/n=14\/n=15:=om
 rcases this with rfl|rfl|rfl|rfl|rfl|rfl|rfl|rfl|rfl|rfl|rfl|rfl|rfl|rfl|rfl|rfl<;>rfl
theorem zq9(l b:Tx)(i:Nat):qt (34::l) b i=(b,i+1):=by unfold qt;rw[zu rfl]
theorem zob{c:Int}(h:32<=c/\c<=126)(h1:c≠34)(h2:c≠92)(l b:Tx)(i:Nat):qt (c::l) b i=qt l (b++[c]) (i+1):=by
 conv=>lhs;unfold qt
 grind
theorem zqa{d:Int}(h:d=34\/d=92)(l b:Tx)(i:Nat):qt (92::d::l) b i=qt l (b++[d]) (i+2):=by
 conv=>lhs;unfold qt
 grind
theorem ac3(l b:Tx)(i:Nat):qt (92::110::l) b i=qt l (b++[10]) (i+2):=by
 conv=>lhs;unfold qt
 rfl
theorem ac4{x y:Int}(hx:0<=cL x)(hy:0<=cL y)(l b:Tx)(i:Nat):qt (92::120::x::y::l) b i=qt l (b++[16*cL x+cL y]) (i+4):=by
 conv=>lhs;unfold qt
 grind
theorem zlk{c:Int}(h:0<=c/\c<=255)(l b:Tx)(i:Nat):qt (eW c++l) b i=qt l (b++[c]) (i+(eW c).length):=by
 unfold eW;by_cases h1:c=34\/c=92
 ·rw[zu h1];exact zqa h1 l b i
 rw[zj h1];by_cases h2:c=10
 ·rw[zu h2,h2];exact ac3 l b i
 rw[zj h2];by_cases h3:c<32\/126<c
 ·rw[zu h3];have e1:=zhl (n:=c / 16) om;have e2:=zhl (n:=c % 16) om;have e:=ac4 (x:=il (c / 16)) (y:=il (c % 16)) om om l b i
  grind
 ·rw[zj h3];exact zob om (fun e=>h1 (.inl e)) (fun e=>h1 (.inr e)) l b i
theorem zhm:∀(s l b:Tx) (i:Nat),(∀c,c∈s->0<=c/\c<=255)->qt (s.flatMap eW++l) b i=qt l (b++s) (i+(s.flatMap eW).length)
 |[],l,b,i,_=>by rw[zv];rfl
 |c::s,l,b,i,h=>by rw[jM,zk,zlk (h c (zg ..)),zhm s l _ _ fun x hx=>h x (zf _ hx),zk,zd,jr];rfl
theorem zll(Q t z:Tx)(hq:qt (Q++[34]++z) [] 1=(t,1+Q.length+1))(hl:t.length<=200):j4 (34::(Q++[34])++z)=((4,t,0),Q.length+2,0):=by
 have e:j4 (34::(Q++[34])++z)=gJ fy dV ik ky 34 (Q++[34]++z):=Eq.refl _;have c1:(decide (1+Q.length+1=0)||decide (200<t.length))=false:=by grind
 have g1:qQ 34=false:=rfl;have g2:y9 34=false:=rfl;have g3:dV 34=false:=dc
 have g6:(iw 34||decide ((34:Int)=126))=false:=rfl;rw[e];unfold gJ
 grind
theorem zoc(h:∀c,c∈t->0<=c/\c<=255)(hl:t.length<=200):LO (vV t) [(4,t,0)]:=fun z us h2=>by
 have hq:qt (t.flatMap eW++[34]++z) [] 1=(t,1+(t.flatMap eW).length+1):=by rw[zk,zhm t _ [] 1 h];exact zq9 z t _
 have e0:vV t=34::(t.flatMap eW++[34]):=Eq.refl _;rw[e0];have h1:=zll _ t z hq hl;generalize t.flatMap eW=Q at h1;exact fI.tok (p:=34::(Q++[34])) (t:=(4,t,0)) (List.cons_ne_nil _ _) (O5 _ (.inr (.inr rfl))) (by rw[h1,zn,zd];rfl) h2
def Lay:F->Tx->Prop
 |.nil,s=>s=[]
 |.cons k t _ ks r,s=>∃s1 s2,s=s1++s2/\(if k=41 then s1=t else if k=42 then s1≠[]/\∀c,c∈s1->c=32\/c=10 else Lay ks s1)/\Lay r s2
theorem Yd:∀f:F,Lay f (dW f)
 |.nil=>rfl
 |.cons k t n ks r=>by
  refine⟨_,_,rfl,?_,Yd r⟩;by_cases h1:k=41
  ·grind
  rw[zj h1,zj h1];by_cases h2:k=42
  ·grind
  rw[zj h2,zj h2];exact Yd ks
theorem Lay.app:∀{f g:F} {s:Tx},Lay (f.app g) s->∃s1 s2,s=s1++s2/\Lay f s1/\Lay g s2
 |.nil,g,s,h=>⟨[],s,rfl,rfl,h⟩
 |.cons k t n ks r,g,s,h=>by have⟨s1,s2,e,h1,h2⟩:=h;have⟨s3,s4,e2,h3,h4⟩:=Lay.app h2;exact⟨s1++s3,s4,by rw[e,e2,zk],⟨s1,s3,rfl,h1,h3⟩,h4⟩
def FX(b:Bool)(f:F)(ts:List T3):Prop:=∀s,Lay f s->LX s ts/\(b=true->Sep s)
def FO(f:F)(ts:List T3):Prop:=∀s,Lay f s->LO s ts
theorem FX.nil(b:Bool):FX b .nil []:=fun s h=>by subst h;exact⟨LX.nil.lx,fun _=>Sep.nil⟩
theorem FX.app{b:Bool}{f g:F}{s t:List T3}(h1:FX b f s)(h2:FX true g t):FX b (f.app g) (s++t):=fun x hx=>by obtain⟨x1,x2,rfl,a,c⟩:=hx.app;exact⟨(h1 x1 a).1.app (h2 x2 c).1 ((h2 x2 c).2 rfl),fun hb=>((h1 x1 a).2 hb).app ((h2 x2 c).2 rfl)⟩
theorem FO.app{b:Bool}{f g:F}{s t:List T3}(h1:FO f s)(h2:FX b g t):FX false (f.app g) (s++t):=fun x hx=>by obtain⟨x1,x2,rfl,a,c⟩:=hx.app;exact⟨(h1 x1 a).app (h2 x2 c).1,nofun⟩
theorem za5{s:Tx}(h:Lay (ch t) s):s=t:=by
 have⟨s1,s2,e,h1,h2⟩:=h;have h2:s2=[]:=h2
 grind
theorem FX.tx(h:LX t ts):FX false (ch t) ts:=fun s hs=>by rw[za5 hs];exact⟨h,nofun⟩
theorem FX.shut:FX true (ch [41]) [aO [41]]:=fun s hs=>by rw[za5 hs];exact⟨(Gc (.inr (.inl rfl))).lx,fun _=>Sep.cons _ (.inr (.inr (.inl rfl)))⟩
theorem FO.tx(h:LO t ts):FO (ch t) ts:=fun s hs=>by rw[za5 hs];exact h
theorem FX.line{b:Bool}{g:F}(h:FX b g ts):FX true (cI.app g) ts:=fun x hx=>by
 obtain⟨x1,x2,rfl,a,c⟩:=hx.app;have⟨s1,s2,e,h1,h2⟩:=a;rw[h2,zv] at e;subst e;refine⟨(LO.bl h1.2).app (h x2 c).1,fun _=>?_⟩;cases x1 with
 |nil=>exact absurd rfl h1.1
 |cons d x1=>exact Sep.cons _ (by rcases h1.2 d (zg ..) with h|h;exact .inl h;exact .inr (.inl h))
theorem TO{f:F}{s:Tx}(hk:k≠41/\k≠42)(h:Lay (tr k t n f) s):Lay f s:=by
 have⟨s1,s2,e,h1,h2⟩:=h;have h2:s2=[]:=h2
 grind
theorem z1q{l:List F}{s:Tx}(h:Lay (CW l) s):Lay (bH l) s:=by
 match l,h with
 |[],h=>exact TO dc h
 |[d],h=>exact(jd (fun f=>Lay f s) (F.qW d)).mpr h
 |_::_::_,h=>exact TO dc h
theorem FX.qY{b:Bool}{l:List F}(h:FX b (bH l) ts):FX b (gi l) ts:=fun s hs=>h s (z1q (TO dc hs))
theorem FX.nest{b:Bool}{l:List F}(h:FX b (bH l) ts):FX b (nC l) ts:=fun s hs=>h s (z1q (TO dc hs))
theorem FX.cat{b:Bool}{l:List F}(h:FX b (bH l) ts):FX b (CV l) ts:=fun s hs=>h s (TO dc hs)
theorem FX.one{b:Bool}{d:F}(h:FX b d ts):FX b (bH [d]) ts:=fun s hs=>h s ((jd (fun f=>Lay f s) (F.qW d)).mp hs)
theorem FX.cons{b:Bool}{d:F}{l:List F}{s t:List T3}(h1:FX b d s)(h2:FX true (bH l) t):FX b (bH (d::l)) (s++t):=h1.app h2
theorem FX.nD{d:F}(h:FX false d ts):FX true (cf d) ts:=FX.nest (FX.line (FX.one h))
theorem FX.ln{b:Bool}{l:List F}(h:FX b (bH l) ts):FX true (bH (cI::l)) ts:=FX.line h
theorem FX.brk{d:F}(h:FX false d ts):FX false (pA true d) ([aO [40]]++(ts++[aO [41]])):=FX.cat ((FO.tx (Gc (.inl rfl))).app (FX.cons h (FX.one FX.shut)))
theorem FX.eq{b:Bool}{f:F}{s t:List T3}(h:FX b f s)(e:s=t):FX b f t:=by subst e;exact h
def At(c:PC)(i:Nat)(t:T3):Prop:=(c.l[i]?).map Gb=some t
def Has(c:PC):Nat->List T3->Prop
 |_,[]=>True
 |i,t::ts=>At c i t/\Has c (i+1) ts
theorem Has.app:∀{a b:List T3} {i:Nat},Has c i (a++b)->Has c i a/\Has c (i+a.length) b
 |[],b,i,h=>⟨trivial,h⟩
 |t::a,b,i,h=>by
  have⟨h1,h2⟩:=h;have⟨h3,h4⟩:=Has.app (a:=a) h2;refine⟨⟨h1,h3⟩,?_⟩
  grind
theorem At.get{t:T3}(h:At c i t):∃x,c.l[i]?=some x/\x.1=t.1/\x.2.1=t.2.1/\x.2.2.1=t.2.2:=by
 unfold At at h;cases e:c.l[i]? with
 |none=>rw[e] at h;cases h
 |some x=>rw[e] at h;cases h;exact⟨x,rfl,rfl,rfl,rfl⟩
theorem At.lt{t:T3}(h:At c i t):i<c.l.length:=by
 have⟨x,h,_⟩:=h.get
 grind
theorem At.aX{t:T3}(h:At c i t)(k:Int):aX c i k=decide (t.1=k):=by have⟨x,h,e,_⟩:=h.get;rw[Xk h,e]
theorem At.cy{t:T3}(h:At c i t)(ks:List Tx):cy c i ks=(decide (t.1=6)&&decide (t.2.1∈ks)):=by have⟨x,h,e,e2,_⟩:=h.get;rw[z7q h,e,e2]
theorem At.dC{t:T3}(h:At c i t):dC c i=t.2.1:=by have⟨x,h,_,e2,_⟩:=h.get;rw[z7r h,e2]
theorem At.num{t:T3}(h:At c i t):num c i=t.2.2:=by have⟨x,h,_,_,e2⟩:=h.get;unfold Pz.num;rw[h];exact e2
theorem Has.le:∀{ts:List T3} {i:Nat},Has c i ts->i<=c.l.length->i+ts.length<=c.l.length
 |[],i,_,h=>h
 |t::ts,i,h,_=>by
  have:=h.1.lt;have:=Has.le h.2 om
  grind
theorem dP{s:Tx}(h:At c i (aO s)):eQ c i s=.ok (i+1):=by unfold eQ;rw[h.cy,zw (show(aO s).1=6 from rfl),zw (show(aO s).2.1∈[s] from zJ.2 rfl)];rfl
theorem eV(h:Has c i (fK t)):uf c i=.ok (t,i+(fK t).length):=by
 unfold fK at h ⊢;unfold uf;cases ho:bX t with
 |true=>rw[ho] at h;have⟨h1,h2,h3,_⟩:=h;have h3:At c (i+2) (aO kR):=h3;rw[h1.aX,zt dc,h1.cy,h2.aX,h2.dC,dP h3];rfl
 |false=>rw[ho] at h;have⟨h1,_⟩:=h;rw[h1.aX,zw rfl,h1.dC];rfl
def O7(t:T3):Bool:=!(decide (t.1=6)&&decide (t.2.1=[59,59]))
def df(ts:List T3):Prop:=ts.all O7=true
theorem df.app{a b:List T3}(ha:df a)(hb:df b):df (a++b):=by
 unfold df at*
 grind
theorem df.kw(h:decide (w=[59,59])=false){b:List T3}(hb:df b):df ([aO w]++b):=by refine df.app ?_ hb;show(!(true&&decide (w=[59,59]))&&true)=true;rw[h];rfl
theorem df.name(t:Tx):df (fK t):=by unfold fK;cases bX t<;>rfl
def M0(c:PC)(i:Nat):Bool:=aX c i 3||(aX c i 2||(aX c i 1||cy c i [kM,kL]))
theorem At.pg{t:T3}(h:At c i t):M0 c i=(decide (t.1=3)||(decide (t.1=2)||(decide (t.1=1)||(decide (t.1=6)&&decide (t.2.1∈[kM,kL]))))):=by unfold M0;rw[h.aX,h.aX,h.aX,h.cy]
def TP(m:Nat)(ts:List T3)(l:List ND):Prop:=df ts/\∀(c:PC) (d i:Nat),Has c i ts->m<=d->M0 c i=true/\uL c (dU c d) i=.ok (l,i+ts.length)
def M3(m:Nat)(ts:List T3)(l:List ND):Prop:=df ts/\∀(c:PC) (d i:Nat),Has c i ts->M0 c (i+ts.length)=false->m<=d->aX c i 5=false/\dU c d i=.ok (l,i+ts.length)
theorem TP.pt(h:TP 0 ts l)(h2:∀(c:PC) i,Has c i ts->aX c i 2=false/\aX c i 5=false):M3 1 ts l:=And.intro h.1 fun c d i hh _ hd=>by obtain⟨d,rfl⟩:∃e,d=e+1:=⟨d-1,by omega⟩;have⟨e2,e5⟩:=h2 c i hh;refine⟨e5,?_⟩;show nv c (dU c d) i=_;unfold nv;rw[e2];exact(h.2 c d i hh (zC _)).2
theorem M3.brk(h:M3 m ts l):TP m ([aO kL]++(ts++[aO kR])) l:=And.intro (df.kw rfl (h.1.app rfl)) fun c d i hh hd=>by
 have⟨⟨h1,_⟩,h2⟩:=hh.app;have⟨h3,h4,_⟩:=h2.app;have hf:M0 c (i+1+ts.length)=false:=by have h4:At c (i+1+ts.length) (aO kR):=h4;rw[h4.pg];decide
 have⟨e5,e⟩:=h.2 c d (i+1) h3 hf hd;refine⟨by rw[h1.pg];decide,?_⟩;unfold uL;have h4:At c (i+1+ts.length) (aO kR):=h4;rw[h1.cy,h1.aX,h1.aX,h1.cy,e5,e];show eb (eQ c (i+1+ts.length) kR) _=_;rw[dP h4];rw[zd,zd];show Except.ok (l,i+1+ts.length+1)=Except.ok (l,i+(1+(ts.length+1)));congr 2;omega
def kE:F->List (List ND)
 |.nil=>[]
 |.cons k t n ks r=>(tr k t n ks).flat::kE r
theorem qoh:∀f:F,(kE f).length=f.aq
 |.nil=>rfl
 |.cons k t n ks r=>by show(kE r).length+1=r.aq+1;rw[qoh r]
theorem qqv:∀f:F,(kE f).flatten=f.flat
 |.nil=>rfl
 |.cons k t n ks r=>by show((tr k t n ks).flat::kE r).flatten=(k,t,n,(ks.aq:Int))::(ks.flat++r.flat);rw[ja,qqv r,yW];rfl
theorem vZ(k:Int)(t:Tx)(ks:F):nd k t (kE ks)=(tr k t 0 ks).flat:=by unfold nd;rw[qoh,qqv,yW]
def uv:F->Nat
 |.nil=>0
 |.cons _ _ _ ks r=>max (if ks.aq=0 then 0 else uv ks+1) (uv r)
def oc(k:Int)(t:Tx):Nat:=if k=6 then 3 else if k=1\/k=2\/k=4 then 2 else if k=3 then(bif bX t then 4 else 2) else 6
def dJ:F->Nat
 |.nil=>0
 |.cons k t _ ks r=>oc k t+dJ ks+dJ r
theorem TQ(t:Tx)(h:20<=k):oc k t=6:=by
 unfold oc
 grind
def Ye(k:Int)(t:Tx)(n:Int)(ks:F):Prop:=∃ts ti:List T3,LX (cF k t n (bK ks)) ts/\LX (gY k ks.aq (cF k t n (bK ks))) ti/\M3 (uv ks+1) ts (tr k t n ks).flat/\
 TP (if ks.aq=0 then 0 else uv ks+1) ti (tr k t n ks).flat/\ts.length+3<=oc k t+dJ ks/\ti.length+1<=oc k t+dJ ks/\1<=ti.length
def zhn(f:F):Prop:=∃ts:List T3,LX (vW (bK f)) ts/\Sep (vW (bK f))/\ts.length<=dJ f/\f.aq<=ts.length/\df ts/\
 ∀(c:PC) (d i g:Nat) (acc:List (List ND)),Has c i ts->M0 c (i+ts.length)=false->uv f<=d->f.aq<g->AV c (dU c d) g i acc=.ok (acc++kE f,i+ts.length)
theorem zlm(h:uJ 22 t=true):aS t=true:=by
 unfold uJ at h;cases hn:aS t with
 |true=>rfl
 |false=>rw[hn] at h;simp[lY,ah,ai] at h
theorem zln(h:uJ 24 t=true):fb t=true:=by
 unfold uJ at h;cases hn:fb t with
 |true=>rfl
 |false=>rw[hn] at h;simp[lY,ah,ai] at h
theorem HX(hk:k=1\/k=6\/k=9\/k=10\/k=11\/k=21\/k=23)(h:uJ k t=true):t=[]:=by
 unfold uJ at h;have:bW t []=true:=by
  cases he:bW t [] with
  |true=>rfl
  |false=>rw[he] at h;rcases hk with rfl|rfl|rfl|rfl|rfl|rfl|rfl<;>simp[lY,ah,ai] at h
 exact eq_of_beq this
theorem Gd(h:Mz k n=true)(hk:k≠1/\k≠23):n=0:=by unfold Mz at h;rw[cZ hk.1,cZ hk.2] at h;exact cQ.1 h
theorem zod(h:Mz k n=true)(hk:k=1\/k=23):rz n=true:=by rcases hk with rfl|rfl<;>exact h
theorem qw6{c:Nat}{s:Tx}(h:k=21\/k=22\/k=23\/c=0):gY k c s=s:=by
 unfold gY
 grind
theorem qt5(hk:20<=k)(hx:LX (cF k t n []) ts)(ha:TP 0 ts (tr k t n .nil).flat)(h2:∀(c:PC) i,Has c i ts->aX c i 2=false/\aX c i 5=false)(hl:ts.length<=3/\1<=ts.length):Ye k t n .nil:=by
 refine⟨ts,ts,hx,?_,ha.pt h2,ha,by rw[TQ t hk];show _<=6;omega,by rw[TQ t hk];show _<=6;omega,hl.2⟩;show LX (gY k 0 _) ts
 rwa [qw6 (.inr (.inr (.inr rfl)))]
theorem za6{ks:F}(hv:bO k t n ks true=0)(hq:zhn ks):Ye k t n ks:=by
 obtain⟨hn,hf⟩:=bE.1 hv;obtain⟨hy,hs,hk,he,hj,_⟩:=bC.1 hn;have ht:k=21\/k=22\/k=23\/k=24:=by
  unfold ku cD at hs
  grind
 obtain⟨_,_,_,_,c0⟩:=AU hk;rcases ht with rfl|rfl|rfl|rfl
 ·obtain rfl:=xh (c0 (by simp));obtain rfl:=HX (by simp) hj;obtain rfl:=Gd he dc;refine qt5 dc (ts:=[aO kM]) (Gc (.inr (.inr rfl))).lx (And.intro rfl fun c d i h hd=>?_) (fun c i h=>?_) dc
  ·refine⟨by rw[h.1.pg];decide,?_⟩;unfold uL;rw[h.1.cy];rfl
  ·exact⟨by rw[h.1.aX];decide,by rw[h.1.aX];decide⟩
 ·obtain rfl:=xh (c0 (by simp));obtain rfl:=Gd he dc;have hw:=zlm hj;refine qt5 dc (ts:=fK t) (Yb hw) (And.intro (df.name t) fun c d i h hd=>?_) (fun c i h=>?_) (by unfold fK;cases bX t<;>simp)
  ·have hb:=eV h;unfold fK at h;cases ho:bX t with
   |true=>rw[ho] at h;have⟨h1,h2,h3,_⟩:=h;refine⟨by rw[h1.pg];decide,?_⟩;unfold uL;rw[h1.cy,h1.aX,h1.aX,h1.cy,h2.aX,hb];rfl
   |false=>rw[ho] at h;have⟨h1,_⟩:=h;refine⟨by rw[h1.pg];simp,?_⟩;unfold uL;rw[h1.cy,h1.aX,h1.aX,h1.cy,hb];rfl
  ·unfold fK at h;cases ho:bX t with
   |true=>rw[ho] at h;exact⟨by rw[h.1.aX];decide,by rw[h.1.aX];decide⟩
   |false=>rw[ho] at h;exact⟨by rw[h.1.aX];exact zt (show ¬(1:Int)=2 by decide),by rw[h.1.aX];exact zt (show ¬(1:Int)=5 by decide)⟩
 ·obtain rfl:=xh (c0 (by simp));obtain rfl:=HX (by simp) hj;refine qt5 dc (ts:=[(3,[],n)]) (za4 (zod he (.inr rfl))) (And.intro rfl fun c d i h hd=>?_) (fun c i h=>?_) (by simp)
  ·refine⟨by rw[h.1.pg];rfl,?_⟩;unfold uL;rw[h.1.cy,h.1.aX,h.1.num];rfl
  ·exact⟨by rw[h.1.aX];exact zt (show ¬(3:Int)=2 by decide),by rw[h.1.aX];exact zt (show ¬(3:Int)=5 by decide)⟩
 ·obtain rfl:=Gd he dc;have hc:=zln hj;obtain⟨us,k1,k2,k3,k5,k6,k4⟩:=hq;have hx:LX (cF 24 t 0 (bK ks)) ([(2,t,0)]++us):=(O6 hc).app k1 k2;have e1:∀i,i+([((2:Int),t,(0:Int))]++us).length=i+1+us.length:=fun i=>by rw[zd,<-jr];rfl
  have el:([((2:Int),t,(0:Int))]++us).length=us.length+1:=by rw[zd];exact Jb _ _
  have hp:M3 (uv ks+1) ([(2,t,0)]++us) (tr 24 t 0 ks).flat:=And.intro (df.app rfl k6) fun c d i h hg hd=>by obtain⟨d,rfl⟩:∃e,d=e+1:=⟨d-1,by omega⟩;have⟨⟨h1,_⟩,h2⟩:=h.app;rw[e1] at hg ⊢;have hz:=h2.le (by have:=h1.lt;exact this);refine⟨by rw[h1.aX];exact zt (show ¬(2:Int)=5 by decide),?_⟩;show nv c (dU c d) i=_;unfold nv;rw[h1.aX,zw (show((2:Int),t,(0:Int)).1=2 from rfl),h1.dC,k4 c d (i+1) (c.l.length+1) [] h2 hg om om];show Except.ok (nd 24 t ([]++kE ks),i+1+us.length)=_;rw[jF,vZ]
  have hl:([((2:Int),t,(0:Int))]++us).length+3<=oc 24 t+dJ ks:=by rw[el,TQ t dc];omega
  by_cases h0:ks.aq=0
  ·obtain rfl:=xh (f:=ks) om;have hu:us=[]:=jl (by have:us.length<=0:=k3;omega);subst hu;refine⟨_,_,hx,(by show LX (gY 24 0 _) _;rw[qw6 (.inr (.inr (.inr rfl)))];exact hx),hp,And.intro (show df ([((2:Int),t,(0:Int))]++[]) from rfl) fun c d i h _=>?_,hl,om,(by rw[el];omega)⟩;have h1:=h.1;refine⟨by rw[h1.pg];simp,?_⟩;unfold uL;rw[h1.cy,h1.aX,h1.aX,h1.dC];rfl
  ·have hb:=hp.brk;have hi:gY 24 ks.aq (cF 24 t 0 (bK ks))=[40]++cF 24 t 0 (bK ks)++[41]:=by
    unfold gY
    grind
   have hm:=((Gc (b:=40) (.inl rfl)).app hx).app (Gc (b:=41) (.inr (.inl rfl))).lx (Sep.cons _ (.inr (.inr (.inl rfl))));rw[<-hi] at hm;refine⟨_,_,hx,hm,hp,(by rw[zj h0];exact hb),hl,?_,?_⟩
   all_goals grind
theorem qyk:∀(f:F) (m eh:Bool),fc m true eh f=0->zhn f
 |.nil,_,_,_=>⟨[],LX.nil.lx,Sep.nil,zm _,zm _,rfl,fun c d i g acc _ hf _ hg=>by obtain⟨g,rfl⟩:∃e,g=e+1:=⟨g-1,by omega⟩;have hf:(aX c i 3||(aX c i 2||(aX c i 1||cy c i [kM,kL])))=false:=hf;unfold AV;rw[hf];show Except.ok (acc,i)=Except.ok (acc++[],i+0);rw[zv];rfl⟩
 |.cons k t n ks r,m,eh,h=>by
  have⟨h1,h2⟩:=cK.1 h;have⟨ts,ti,_,x2,_,x4,_,x6,x7⟩:=za6 h1 (qyk ks _ _ (bE.1 h1).2);have⟨us,k1,k2,k3,k5,k6,k4⟩:=qyk r m (!eh) h2;have hx:=((LO.sp (c:=32) (.inl rfl)).app x2).app k1 k2;refine⟨ti++us,hx,Sep.cons _ (.inl rfl),?_,?_,x4.1.app k6,fun c d i g acc hh hc hd hg=>?_⟩
  ·rw[zd];show _<=oc k t+dJ ks+dJ r;omega
  ·rw[zd];show r.aq+1<=_;omega
  ·have⟨a1,a2⟩:=hh.app;rw[zd,<-jr] at hc ⊢;have hd:max (if ks.aq=0 then 0 else uv ks+1) (uv r)<=d:=hd;have hg:r.aq+1<g:=hg;obtain⟨g,rfl⟩:∃e,g=e+1:=⟨g-1,by omega⟩;have⟨b1,b2⟩:=x4.2 c d i a1 om;have b1:(aX c i 3||(aX c i 2||(aX c i 1||cy c i [kM,kL])))=true:=b1
   conv=>lhs;unfold AV
   rw[b1,b2];show AV c (dU c d) g (i+ti.length) (acc++[(tr k t n ks).flat])=_;rw[k4 c d _ g _ a2 hc om om,zk];rfl
theorem vM{ks:F}(hv:bO k t n ks true=0):Ye k t n ks:=za6 hv (qyk ks _ _ (bE.1 hv).2)
theorem At.bg{t:T3}(h:At c i t):j0 c i=(decide (t.1=3)||(decide (t.1=4)||(decide (t.1=1)||(decide (t.1=2)||(decide (t.1=6)&&decide (t.2.1∈[kL,dB])))))):=by unfold j0;rw[h.aX,h.aX,h.aX,h.aX,h.cy]
theorem Yf(h:j0 c i=true):i<c.l.length:=by
 by_cases hl:i<c.l.length
 ·exact hl
 ·rw[qql om] at h;cases h
theorem zoe(h:j0 c i=true):aX c i 5=false/\cy c i [iX,cN,rC,dA,kv]=false:=by
 have hl:=Yf h;have hg:=zh hl;unfold j0 at h;rw[Xk hg,z7q hg];simp only[Xk hg,z7q hg,jk,ze,zV] at h;generalize c.l[i]=x at h;refine⟨zt om,?_⟩;rcases h with h|h|h|h|⟨_,h⟩
 ·rw[h];rfl
 ·rw[h];rfl
 ·rw[h];rfl
 ·rw[h];rfl
 ·have:decide (x.2.1∈[iX,cN,rC,dA,kv])=false:=by
   rcases zA.1 h with h|h
   ·rw[h];decide
   ·rw[zJ.1 h];decide
  grind
variable {fx:List af}
structure C4 (c:PC) (fx:List af):Prop where
 f:c.fx=CR fx
 l:c.cl=ox fx
def kz(fx:List af)(m:Nat)(ts:List T3)(l:List ND):Prop:=df ts/\∀(c:PC) (d i:Nat),C4 c fx->Has c i ts->j0 c (i+ts.length)=false->aX c (i+ts.length) 5=false->m<=d->aX c i 5=false/\da c d i=.ok (l,i+ts.length)
def uS(fx:List af)(m:Nat)(ts:List T3)(l:List ND):Prop:=df ts/\∀(c:PC) (d i:Nat),C4 c fx->Has c i ts->m<=d->j0 c i=true/\rE c (da c d) (dU c d) i=.ok (l,i+ts.length)
def HY(fx:List af)(m:Nat)(ts:List T3)(l:List ND):Prop:=df ts/\∀(c:PC) (d i:Nat),C4 c fx->Has c i ts->m<=d->j0 c i=true/\∃q,q<=ts.length/\mB c (da c d) (dU c d) i=CN c (da c d) (dU c d) (c.l.length+1-q) (i+ts.length) l
structure Ge (fx:List af) (m:Nat) (ts:List T3) (l:List ND) (fs:List af) (As:List (List ND)) (x:Nat->List Int):Prop where
 n:df ts
 len:As.length=fs.length+1
 xl:∀a,(x a).length=2*fs.length+1
 b:∀pre post:List af,Fx.B (gV (pre++(fs++post))) (eE (pre++(fs++post))) pre.length (pre.length+fs.length) (x pre.length)
 bl:∀(A A':List (List ND)) (O O':List Tx),A.length=O.length->∀(g:Nat) (rest:List Int),2*fs.length+1<=g->nR (A++(As++A')) (O++(fs.map (·.1)++O')) g (x A.length++rest)=(l,rest)
 p:∀(c:PC) (d i:Nat),C4 c fx->Has c i ts->m<=d->j0 c i=true/\(j0 c (i+ts.length)=false->∀(g:Nat) (A:List (List ND)) (O:List Tx) (P:List Int),ts.length<g->∃g' ps,ps.length=fs.length/\g<=g'+ts.length/\
  eb (mB c (da c d) (dU c d) i) (fun x=>kN c (da c d) (dU c d) g x.2 ⟨A++[x.1],O,P⟩)=kN c (da c d) (dU c d) g' (i+ts.length) ⟨A++As,O++fs.map (·.1),P++ps⟩)
 f:∀f,f∈fs->lZ fx f.1=some f
theorem uS.ap(h:uS fx m ts l):HY fx m ts l:=And.intro h.1 fun c d i hc hh hd=>by have⟨h1,h2⟩:=h.2 c d i hc hh hd;refine⟨h1,0,zC _,?_⟩;unfold mB;rw[h2];rfl
theorem HY.app(h:HY fx m ts l)(h':uS fx m' us l')(hu:1<=us.length):HY fx (max m m') (ts++us) (nd 6 [] [l,l']):=And.intro (h.1.app h'.1) fun c d i hc hh hd=>by
 have⟨a1,a2⟩:=hh.app;have⟨h1,q,hq,h2⟩:=h.2 c d i hc a1 om;have⟨g1,g2⟩:=h'.2 c d _ hc a2 om;have hl:=a1.le (by have:=Yf h1;omega);refine⟨h1,q+1,by rw[zd];omega,?_⟩;rw[h2,zd];obtain⟨f,hf⟩:∃f,c.l.length+1-q=f+1:=⟨c.l.length-q,by omega⟩;rw[hf]
 conv=>lhs;unfold CN
 rw[g1,g2,show c.l.length+1-(q+1)=f by omega,<-jr];rfl
theorem HY.rw(h:HY fx m ts l):Ge fx m ts l [] [l] (fun a=>[-1-(a:Int)]) where
 n:=h.1
 len:=rfl
 xl _:=rfl
 b pre post:=Fx.B.nil _
 bl A A' O O' _ g rest hg:=by obtain⟨g,rfl⟩:∃e,g=e+1:=⟨g-1,by omega⟩;show(if(-1-(A.length:Int))<0 then _ else _)=_;rw[zu om,show(-1-(-1-(A.length:Int))).toNat=A.length by omega,zM (zm _),jy];rfl
 p c d i hc hh hd:=by
  have⟨h1,q,hq,h2⟩:=h.2 c d i hc hh hd;refine⟨h1,fun hb g A O P hg=>⟨g,[],rfl,by omega,?_⟩⟩;have hl:=hh.le (by have:=Yf h1;omega);obtain⟨f,hf⟩:∃f,c.l.length+1-q=f+1:=⟨c.l.length-q,by omega⟩;rw[h2,hf];have:CN c (da c d) (dU c d) (f+1) (i+ts.length) l=.ok (l,i+ts.length):=by unfold CN;rw[hb];rfl
  rw[this,zv];show _=kN c (da c d) (dU c d) g (i+ts.length) ⟨A++[l],O++[],P⟩;rw[zv];rfl
 f _ h:=by cases h
theorem zqb(pre:List af)(f:af)(post:List af):gV (pre++f::post) pre.length=f.2.1/\eE (pre++f::post) pre.length=f.2.2:=by
 have:(pre++f::post)[pre.length]?=some f:=by rw[zM (zm _),jy];rfl
 exact⟨Xe this,S5 this⟩
theorem zof{pre post:List af}(h1:pre.length<=i)(h2:i<pre.length+fs.length):∃g,g∈fs/\gV (pre++(fs++post)) i=g.2.1/\eE (pre++(fs++post)) i=g.2.2:=by
 have hc:i-pre.length<fs.length:=om
 have:(pre++(fs++post))[i]?=some fs[i-pre.length]:=by grind
 exact⟨_,jx hc,Xe this,S5 this⟩
def TR(f g:af):Prop:=f.2.1<g.2.1\/(f.2.1=g.2.1/\f.2.2<0/\g.2.2<0)
def TT(f g:af):Prop:=f.2.1<g.2.1\/(f.2.1=g.2.1/\0<f.2.2/\0<g.2.2)
theorem Ge.op{mi:List af}{Gf:List (List ND)}{x x':Nat->List Int}(h:Ge fx m ts l fs As x)(h':Ge fx m' us l' mi Gf x')(hf:lZ fx f.1=some f)(hL:∀g,g∈fs->TR f g)(hR:∀g,g∈mi->TT f g):Ge fx (max m m') (ts++([(5,f.1,0)]++us)) (nd 6 [] [nd 6 [] [nd 3 f.1 [],l],l']) (fs++f::mi) (As++Gf) (fun a=>((a+fs.length:Nat):Int)::(x a++x' (a+fs.length+1))) where
 n:=h.n.app (df.app rfl h'.n)
 len:=by rw[zd,zd,h.len,h'.len,zn];omega
 xl a:=by rw[zn,zd,h.xl,h'.xl,zd,zn];omega
 b pre post:=by
  have e:pre++(fs++f::mi++post)=pre++(fs++(f::(mi++post))):=by rw[zk];rfl
  have e':pre++(fs++f::mi++post)=(pre++(fs++[f]))++(mi++post):=by simp only[zk,jL,jF]
  have b1:=h.b pre (f::(mi++post));have b2:=h'.b (pre++(fs++[f])) post;have er:pre.length+fs.length=(pre++fs).length:=(zd).symm;have e2:pre++(fs++f::mi++post)=(pre++fs)++f::(mi++post):=by rw[e,zk]
  obtain⟨r1,r2⟩:=zqb (pre++fs) f (mi++post);rw[<-e2,<-er] at r1 r2;have TU:(pre++(fs++[f])).length=pre.length+fs.length+1:=by rw[zd,zd,zB];omega
  rw[<-e] at b1;rw[<-e',TU] at b2;have ee:pre.length+(fs++f::mi).length=pre.length+fs.length+1+mi.length:=by rw[zd,zn];omega
  rw[ee];refine Fx.B.node _ _ _ _ _ om om (fun i h1 h2=>?_) (fun i h1 h2=>?_) b1 b2
  ·obtain⟨g,g1,g2,g3⟩:=zof (post:=f::(mi++post)) h1 h2;rw[<-e] at g2 g3;unfold Fx.LB;rw[r1,r2,g2,g3];exact hL g g1
  ·obtain⟨g,g1,g2,g3⟩:=zof (pre:=pre++(fs++[f])) (fs:=mi) (post:=post) (i:=i) om (by rw[TU];omega);rw[<-e'] at g2 g3;unfold Fx.RB;rw[r1,r2,g2,g3];exact hR g g1
 bl A A' O O' hA g rest hg:=by
  rw[zd,zn] at hg;obtain⟨g,rfl⟩:∃e,g=e+1:=⟨g-1,by omega⟩;have e1:A++(As++Gf++A')=A++(As++(Gf++A')):=by rw[zk]
  have e2:O++((fs++f::mi).map (·.1)++O')=O++(fs.map (·.1)++(f.1::mi.map (·.1)++O')):=by rw[jn,zX,zk]
  have e3:A++(As++Gf++A')=(A++As)++(Gf++A'):=by rw[e1,zk]
  have e4:O++((fs++f::mi).map (·.1)++O')=(O++(fs.map (·.1)++[f.1]))++(mi.map (·.1)++O'):=by rw[e2];simp only[zk,jL,jF]
  have b1:=h.bl A (Gf++A') O (f.1::mi.map (·.1)++O') hA g (x' (A.length+fs.length+1)++rest) om;have hj:(A++As).length=(O++(fs.map (·.1)++[f.1])).length:=by rw[zd,zd,zd,zI,h.len,hA,zB]
  have b2:=h'.bl (A++As) A' (O++(fs.map (·.1)++[f.1])) O' hj g rest om;have el:(A++As).length=A.length+fs.length+1:=by rw[zd,h.len];omega
  rw[<-e3,<-e4,el] at b2;rw[<-e1,<-e2] at b1;have he:(O++((fs++f::mi).map (·.1)++O'))[((A.length+fs.length:Nat):Int).toNat]?=some f.1:=by grind
  show(if((A.length+fs.length:Nat):Int)<0 then _ else _)=_;have ea:(x A.length++x' (A.length+fs.length+1)).append rest=x A.length++(x' (A.length+fs.length+1)++rest):=zk ..;rw[ea,b1];simp only;rw[b2,he];rfl
 p c d i hc hh hd:=by
  have⟨a1,a2⟩:=hh.app;have⟨⟨a3,_⟩,a4⟩:=a2.app;have⟨p1,p2⟩:=h.p c d i hc a1 om;have⟨q1,q2⟩:=h'.p c d _ hc a4 om;have hk:aX c (i+ts.length) 5=true:=by rw[a3.aX];exact zw rfl
  have hl:j0 c (i+ts.length)=false:=by rw[a3.bg];simp
  refine⟨p1,fun hb g A O P hg=>?_⟩;have el:(ts++([((5:Int),f.1,(0:Int))]++us)).length=ts.length+1+us.length:=by rw[zd,zd,zB];omega
  rw[el] at hb hg;rw[<-jr] at hb;have⟨g1,ps,s1,s2,s3⟩:=p2 hl g A O P om;obtain⟨g1,rfl⟩:∃e,g1=e+1:=⟨g1-1,by omega⟩;have⟨g2,bM,t1,t2,t3⟩:=q2 hb g1 (A++As) (O++fs.map (·.1)++[f.1]) (P++ps++[l0 c (i+ts.length)]) om;refine⟨g2,ps++l0 c (i+ts.length)::bM,by rw[zd,zn,zd,zn,s1,t1],by omega,?_⟩;rw[s3]
  conv=>lhs;unfold kN
  rw[hk,a3.dC,el]
  grind
 f g hg:=by
  rcases zD.1 hg with hg|hg
  ·exact h.f g hg
  ·rcases zA.1 hg with rfl|hg
   ·exact hf
   ·exact h'.f g hg
section
variable {fx:List af}
theorem Has.one{t:T3}{b:List T3}(h:Has c i ([t]++b)):At c i t/\Has c (i+1) b:=⟨h.1,h.2⟩
theorem zqc{lv sd:Nat->Int}{a b:Nat}{x:List Int}(h:Fx.B lv sd a b x)(e:a=b):x=[-1-(a:Int)]:=by
 cases h with
 |nil=>rfl
 |node _ r _ _ _ h1 h2=>omega
theorem Gg{s:Tx}(h:At c j (aO s))(hs:decide (s∈[kL,dB])=false):j0 c j=false/\aX c j 5=false:=by refine⟨?_,by rw[h.aX];exact zt (show ¬(6:Int)=5 by decide)⟩;rw[h.bg,show(aO s).2.1=s from rfl,hs];rfl
theorem z1r:∀(ops:List Tx) (ps:List Int),(∀s,s∈ops->c.fx s=true)->CO c ops ps=none
 |[],ps,_=>by cases ps<;>rfl
 |s::ops,[],_=>rfl
 |s::ops,p::ps,h=>by show(bif c.fx s then CO c ops ps else some p)=none;rw[h s (zg ..),z1r ops ps fun x hx=>h x (zf _ hx)];rfl
theorem qqw:∀fs:List af,(∀f,f∈fs->lZ fx f.1=some f)->uK fx (fs.map (·.1))=some fs
 |[],_=>rfl
 |f::fs,h=>by show(match lZ fx f.1 with|none=>none|some x=>match uK fx (fs.map fun x=>x.1) with|none=>none|some y=>some (x::y))=some (f::fs);rw[h f (zg ..),qqw fs fun x hx=>h x (zf _ hx)]
theorem zqd(hz:cT fx=0){x:List Int}(hf:∀f,f∈fs->lZ fx f.1=some f)(hn:fs.length<=400)(hb:Fx.B (gV fs) (eE fs) 0 fs.length x):ox fx (fs.map (·.1))=some x:=by
 unfold ox;rw[zI,zj om,qqw fs hf];show Fx.gH (gV fs) (eE fs) fs.length=some x;have⟨_,hr,_⟩:=Hv hz;have h:=Fx.mA (lv:=gV fs) (sd:=eE fs) (n:=fs.length) (Xg hr fun f h=>(Hu (hf f h)).1);cases hc:Fx.gH (gV fs) (eE fs) fs.length with
 |none=>rw[hc] at h;exact absurd hb (h x)
 |some y=>rw[hc] at h;rw[Fx.B.unique h hb]
theorem Ge.ex{x:Nat->List Int}(hz:cT fx=0)(h:Ge fx m ts l fs As x)(hn:fs.length<=400):kz fx (m+1) ts l:=And.intro h.n fun c d i hc hh h1 h2 hd=>by
 obtain⟨d,rfl⟩:∃e,d=e+1:=⟨d-1,by omega⟩;have⟨p1,p2⟩:=h.p c d i hc hh om;have⟨n1,n2⟩:=zoe p1;have hl:=hh.le (by have:=Yf p1;omega);have⟨g,ps,q1,q2,q3⟩:=p2 h1 (c.l.length+1) [] [] [] om;obtain⟨g,rfl⟩:∃e,g=e+1:=⟨g-1,by omega⟩;refine⟨n1,?_⟩;show uh c (da c d) (dU c d) i=_;unfold uh;rw[n2];have he:kN c (da c d) (dU c d) (g+1) (i+ts.length) ⟨[]++As,[]++fs.map (·.1),[]++ps⟩=.ok (⟨As,fs.map (·.1),ps⟩,i+ts.length):=by unfold kN;rw[h2];rfl
 have e:ug c (da c d) (dU c d) i=qP c (l0 c i) ⟨As,fs.map (·.1),ps⟩ (i+ts.length):=by
  rw[he] at q3;unfold ug;cases ha:mB c (da c d) (dU c d) i with
  |error e=>rw[ha] at q3;cases q3
  |ok a=>rw[ha] at q3;have q3:kN c (da c d) (dU c d) (c.l.length+1) a.2 ⟨[a.1],[],[]⟩=_:=q3;show eb (kN c (da c d) (dU c d) (c.l.length+1) a.2 ⟨[a.1],[],[]⟩) _=_;rw[q3];rfl
 rw[e];have hb:=h.bl [] [] [] [] rfl (2*fs.length+1) [] (zm _);have hB:=h.b [] [];simp[List.nil_append,List.append_nil,List.length_nil,Nat.zero_add] at hb hB;unfold qP;by_cases h0:fs=[]
 ·subst h0;have hx:=zqc hB rfl;rw[hx] at hb;have hb:(((As[0]?).getD [],[]):List ND×List Int)=(l,[]):=hb
  grind
 ·rw[zj (by intro e;exact h0 (Jm.1 e))];have hf:∀s,s∈fs.map (·.1)->c.fx s=true:=fun s hs=>by obtain⟨f,h3,rfl⟩:=jS.1 hs;rw[hc.f];unfold CR;rw[h.f f h3];rfl
  rw[z1r _ _ hf,hc.l,zqd hz h.f hn hB];show Except.ok ((nR As (fs.map (·.1)) (x 0).length (x 0)).1,i+ts.length)=_;rw[h.xl,hb]
theorem kz.brk(h:kz fx m ts l):uS fx m ([aO kL]++(ts++[aO kR])) l:=And.intro (df.kw rfl (h.1.app rfl)) fun c d i hc hh hd=>by
 have⟨h1,h2⟩:=Has.one hh;have⟨h3,h4,_⟩:=h2.app;have⟨f1,f2⟩:=Gg h4 dc;have⟨e5,e⟩:=h.2 c d (i+1) hc h3 f1 f2 hd;have hb:j0 c i=true:=by rw[h1.bg];decide
 refine⟨hb,?_⟩;unfold rE;rw[hb,h1.aX,h1.aX,h1.aX,h1.aX,h1.dC,e5,e];show eb (eQ c (i+1+ts.length) kR) _=_;rw[dP h4,zd,zd];show Except.ok (l,i+1+ts.length+1)=Except.ok (l,i+(1+(ts.length+1)));congr 2;omega
theorem zog(n:Int):uS fx 0 [(3,[],n)] [(1,[],n,0)]:=And.intro rfl fun c d i _ hh _=>by
 have h1:=hh.1;have hb:j0 c i=true:=by rw[h1.bg];rfl
 refine⟨hb,?_⟩;unfold rE;rw[hb,h1.aX,h1.num];rfl
theorem zoh(t:Tx):uS fx 0 [(4,t,0)] (nd 2 t []):=And.intro rfl fun c d i _ hh _=>by
 have h1:=hh.1;have hb:j0 c i=true:=by rw[h1.bg];rfl
 refine⟨hb,?_⟩;unfold rE;rw[hb,h1.aX,h1.aX,h1.dC];rfl
theorem zoi(t:Tx):uS fx 0 [(2,t,0)] (nd 4 t []):=And.intro rfl fun c d i _ hh _=>by
 have h1:=hh.1;have hb:j0 c i=true:=by rw[h1.bg];rfl
 refine⟨hb,?_⟩;unfold rE;rw[hb,h1.aX,h1.aX,h1.aX,h1.aX,h1.dC];rfl
theorem zlp(t:Tx):uS fx 0 (fK t) (nd 3 t []):=And.intro (df.name t) fun c d i _ hh _=>by
 unfold fK at hh ⊢;cases ho:bX t with
 |true=>
  rw[ho] at hh;have⟨h1,h2,h3,_⟩:=hh;have h3:At c (i+2) (aO kR):=h3;have hb:j0 c i=true:=by rw[h1.bg];decide
  refine⟨hb,?_⟩;unfold rE;rw[hb,h1.aX,h1.aX,h1.aX,h1.aX,h1.dC,h2.aX,h2.dC,dP h3];rfl
 |false=>
  rw[ho] at hh;have h1:=hh.1;have hb:j0 c i=true:=by rw[h1.bg];rfl
  refine⟨hb,?_⟩;unfold rE;rw[hb,h1.aX,h1.aX,h1.aX,h1.dC];rfl
theorem bZ{d:Nat}{s:Tx}(hc:C4 c fx)(h:kz fx m ts l)(h1:At c i (aO s))(h2:Has c (i+1) ts)(f:j0 c (i+1+ts.length)=false/\aX c (i+1+ts.length) 5=false)(hd:m<=d):fO c (da c d) i s=.ok (l,i+1+ts.length):=by unfold fO;rw[dP h1];exact(h.2 c d (i+1) hc h2 f.1 f.2 hd).2
theorem O8(hw:w=iX\/w=cN\/w=rC\/w=dA\/w=kv)(hn:df ts)(h:∀(c:PC) (d i:Nat),C4 c fx->At c i (aO w)->Has c (i+1) ts->j0 c (i+1+ts.length)=false/\aX c (i+1+ts.length) 5=false->m<=d->uh c (da c d) (dU c d) i=.ok (l,i+1+ts.length)):kz fx (m+1) ([aO w]++ts) l:=And.intro (df.kw (by rcases hw with rfl|rfl|rfl|rfl|rfl<;>rfl) hn) fun c d i hc hh h1 h2 hd=>by
 obtain⟨d,rfl⟩:∃e,d=e+1:=⟨d-1,by omega⟩;have⟨a1,a2⟩:=Has.one hh;have e:i+([aO w]++ts).length=i+1+ts.length:=by rw[zd,<-jr];rfl
 rw[e] at h1 h2 ⊢;exact⟨by rw[a1.aX];exact zt (show ¬(6:Int)=5 by decide),h c d i hc a1 a2 ⟨h1,h2⟩ om⟩
theorem O9(h:At c i (aO w))(hw:w∈[iX,cN,rC,dA,kv]):cy c i [iX,cN,rC,dA,kv]=true:=by rw[h.cy,zw (show(aO w).1=6 from rfl),zw (show(aO w).2.1∈[iX,cN,rC,dA,kv] from hw)];rfl
theorem zoj(t:Tx)(h:kz fx m ts l):kz fx (m+1) ([aO iX]++(fK t++([aO av]++ts))) (nd 5 t [l]):=O8 (.inl rfl) ((df.name t).app (df.kw rfl h.1)) fun c d i hc h0 hh hf hd=>by have⟨a1,a2⟩:=hh.app;have⟨a3,a4⟩:=Has.one a2;rw[zd,zd,<-jr,<-jr] at hf ⊢;unfold uh;rw[O9 h0 dc,h0.dC,eV a1];show eb (fO c (da c d) (i+1+(fK t).length) av) _=_;rw[bZ hc h a3 a4 hf hd];rfl
theorem zfa(h:kz fx m ts l):kz fx (m+1) ([aO dA]++ts) (nd 11 [] [l]):=O8 (.inr (.inr (.inr (.inl rfl)))) h.1 fun c d i hc h0 hh hf hd=>by unfold uh;rw[O9 h0 dc,h0.dC,(h.2 c d (i+1) hc hh hf.1 hf.2 hd).2];rfl
theorem zqe{vs:List T3}{l2:List ND}(h:kz fx m ts l)(h':kz fx m' us l')(h2:kz fx m2 vs l2):kz fx (max m (max m' m2)+1) ([aO rC]++(ts++([aO iY]++(us++([aO iZ]++vs))))) (nd 9 [] [l,l',l2]):=O8 (.inr (.inr (.inl rfl))) (h.1.app (df.kw rfl (h'.1.app (df.kw rfl h2.1)))) fun c d i hc h0 hh hf hd=>by have⟨a1,a2⟩:=hh.app;have⟨a3,a4⟩:=Has.one a2;have⟨a5,a6⟩:=a4.app;have⟨a7,a8⟩:=Has.one a6;have f1:=Gg a3 dc;have f2:=Gg a7 dc;simp only[zd,zB,<-jr] at hf ⊢;unfold uh;rw[O9 h0 dc,h0.dC,(h.2 c d (i+1) hc a1 f1.1 f1.2 om).2];show eb (fO c (da c d) (i+1+ts.length) iY) _=_;rw[bZ hc h' a3 a5 f2 om];show eb (fO c (da c d) (i+1+ts.length+1+us.length) iZ) _=_;rw[bZ hc h2 a7 a8 hf om];rfl
theorem zok(t:Tx)(h:kz fx m ts l)(h':kz fx m' us l'):kz fx (max m m'+1) ([aO kv]++(ts++([aO eH]++(fK t++([aO av]++us))))) (nd 12 t [l,l']):=O8 (.inr (.inr (.inr (.inr rfl)))) (h.1.app (df.kw rfl ((df.name t).app (df.kw rfl h'.1)))) fun c d i hc h0 hh hf hd=>by have⟨a1,a2⟩:=hh.app;have⟨a3,a4⟩:=Has.one a2;have⟨a5,a6⟩:=a4.app;have⟨a7,a8⟩:=Has.one a6;have f1:=Gg a3 dc;simp only[zd,zB,<-jr] at hf ⊢;unfold uh;rw[O9 h0 dc,h0.dC,(h.2 c d (i+1) hc a1 f1.1 f1.2 om).2];show eb (eQ c (i+1+ts.length) eH) _=_;rw[dP a3];show eb (uf c (i+1+ts.length+1)) _=_;rw[eV a5];show eb (fO c (da c d) (i+1+ts.length+1+(fK t).length) av) _=_;rw[bZ hc h' a7 a8 hf om];rfl
theorem zlq(h:Has c i (fK t)):cy c i [eF]=false:=by
 unfold fK at h;cases ho:bX t with
 |true=>rw[ho] at h;rw[h.1.cy];decide
 |false=>rw[ho] at h;rw[h.1.cy];rfl
theorem zol(t:Tx)(h:kz fx m ts l)(h':kz fx m' us l'):kz fx (max m m'+1) ([aO cN]++(fK t++([aO iv]++(ts++([aO y7]++us))))) (nd 7 t [l,l']):=O8 (.inr (.inl rfl)) ((df.name t).app (df.kw rfl (h.1.app (df.kw rfl h'.1)))) fun c d i hc h0 hh hf hd=>by have⟨a1,a2⟩:=hh.app;have⟨a3,a4⟩:=Has.one a2;have⟨a5,a6⟩:=a4.app;have⟨a7,a8⟩:=Has.one a6;have f1:=Gg a7 dc;simp only[zd,zB,<-jr] at hf ⊢;unfold uh;rw[O9 h0 dc,h0.dC,zlq a1];show eb (uf c (i+1)) _=_;rw[eV a1];show eb (fO c (da c d) (i+1+(fK t).length) iv) _=_;rw[bZ hc h a3 a5 f1 om];show eb (fO c (da c d) (i+1+(fK t).length+1+ts.length) y7) _=_;rw[bZ hc h' a7 a8 hf om];rfl
theorem zom(t:Tx)(h:kz fx m ts l)(h':kz fx m' us l'):kz fx (max m m'+1) ([aO cN]++([aO eF]++(fK t++([aO iv]++(ts++([aO y7]++us)))))) (nd 8 t [l,l']):=O8 (.inr (.inl rfl)) (df.kw rfl ((df.name t).app (df.kw rfl (h.1.app (df.kw rfl h'.1))))) fun c d i hc h0 hh hf hd=>by have⟨a0,hh⟩:=Has.one hh;have⟨a1,a2⟩:=hh.app;have⟨a3,a4⟩:=Has.one a2;have⟨a5,a6⟩:=a4.app;have⟨a7,a8⟩:=Has.one a6;have f1:=Gg a7 dc;simp only[zd,zB,<-jr] at hf ⊢;unfold uh;rw[O9 h0 dc,h0.dC,show cy c (i+1) [eF]=true by rw[a0.cy];decide];show eb (uf c (i+1+1)) _=_;rw[eV a1];show eb (fO c (da c d) (i+1+1+(fK t).length) iv) _=_;rw[bZ hc h a3 a5 f1 om];show eb (fO c (da c d) (i+1+1+(fK t).length+1+ts.length) y7) _=_;rw[bZ hc h' a7 a8 hf om];rfl
def mH(fx:List af)(m:Nat)(ts:List T3)(ls:List (List ND)):Prop:=df ts/\∀(c:PC) (d i g:Nat) (acc:List (List ND)),C4 c fx->Has c i ts->At c (i+ts.length) (aO gI)->m<=d->ts.length<g->y8 c (da c d) (dU c d) g i acc=.ok (acc++ls,i+ts.length)
theorem z1s(h:At c j (aO av)):M0 c j=false:=by rw[h.pg];decide
theorem mH.last(hp:M3 m ps l)(h:kz fx m' es l'):mH fx (max m m') (ps++([aO av]++es)) [l,l']:=And.intro (hp.1.app (df.kw rfl h.1)) fun c d i g acc hc hh hf hd hg=>by have⟨a1,a2⟩:=hh.app;have⟨a3,a4⟩:=Has.one a2;simp only[zd,zB,<-jr] at hf hg ⊢;obtain⟨g,rfl⟩:∃e,g=e+1:=⟨g-1,by omega⟩;unfold y8;rw[(hp.2 c d i a1 (z1s a3) om).2];show eb (fO c (da c d) (i+ps.length) av) _=_;rw[bZ hc h a3 a4 (Gg hf dc) om];show(bif cy c (i+ps.length+1+es.length) [fA] then _ else _)=_;rw[hf.cy];rfl
theorem mH.cons(hp:M3 m ps l)(h:kz fx m' es l')(h2:mH fx m2 ts ls):mH fx (max m (max m' m2)) (ps++([aO av]++(es++([aO fA]++ts)))) (l::l'::ls):=And.intro (hp.1.app (df.kw rfl (h.1.app (df.kw rfl h2.1)))) fun c d i g acc hc hh hf hd hg=>by
 have⟨a1,a2⟩:=hh.app;have⟨a3,a4⟩:=Has.one a2;have⟨a5,a6⟩:=a4.app;have⟨a7,a8⟩:=Has.one a6;simp only[zd,zB,<-jr] at hf hg ⊢;obtain⟨g,rfl⟩:∃e,g=e+1:=⟨g-1,by omega⟩
 conv=>lhs;unfold y8
 rw[(hp.2 c d i a1 (z1s a3) om).2];show eb (fO c (da c d) (i+ps.length) av) _=_;rw[bZ hc h a3 a5 (Gg a7 dc) om];show(bif cy c (i+ps.length+1+es.length) [fA] then y8 c (da c d) (dU c d) g (i+ps.length+1+es.length+1) (acc++[l,l']) else _)=_;rw[show cy c (i+ps.length+1+es.length) [fA]=true by rw[At.cy a7];decide];rw[zK,h2.2 c d _ g _ hc a8 hf om om,zk];rfl
theorem zfb(h:kz fx m ts l)(h':mH fx m' us ls):uS fx (max m m') ([aO dB]++(ts++([aO eH]++(us++[aO gI])))) (nd 10 [] (l::ls)):=And.intro (df.kw rfl (h.1.app (df.kw rfl (h'.1.app rfl)))) fun c d i hc hh hd=>by
 have⟨h0,hh⟩:=Has.one hh;have⟨a1,a2⟩:=hh.app;have⟨a3,a4⟩:=Has.one a2;have⟨a5,a6,_⟩:=a4.app;have hb:j0 c i=true:=by rw[h0.bg];decide
 have f1:=Gg a3 dc;have hl:=a5.le (by have:=At.lt a3;exact this);refine⟨hb,?_⟩;unfold rE;rw[hb,h0.aX,h0.aX,h0.aX,h0.aX,h0.dC];unfold S6;rw[(h.2 c d (i+1) hc a1 f1.1 f1.2 om).2];show eb (eQ c (i+1+ts.length) eH) _=_;rw[dP a3];show eb (y8 c (da c d) (dU c d) (c.l.length+1) (i+1+ts.length+1) [l]) _=_;rw[h'.2 c d _ _ _ hc a5 a6 om om];show eb (eQ c (i+1+ts.length+1+us.length) gI) _=_;rw[dP a6];simp only[zd,zB,<-jr];rfl
end
structure Nn where
 i:Nat
 b:Nat
 p:Nat
def lQ(ns:List Nn)(j:Nat):Nn:=(ns[j]?).getD ⟨0,0,0⟩
def xy(b:Bool)(n:Nat):Nat:=bif b then n+1 else n
def v7:List Nn->Nat
 |[]=>0
 |a::r=>max (a.i+1) (v7 r)
def HZ:List Nn->Nat
 |p::e::r=>max p.p (max (e.i+1) (HZ r))
 |_=>0
def za7:List Nn->Nat
 |[]=>0
 |a::r=>max (a.i+1) (HZ r)
def H0(p:Pt)(lv sd s:Int):Bool:=decide (p.lk=3)||D7 p lv sd s
def Pa(p:Pt):Bool:=decide (p.lk=2)||decide (p.lk=3)
def Gh(p:Pt):Bool:=decide (p.lk≠0)
def lR(fx:List af)(k:Int)(ks:F)(ds:List Dc)(ns:List Nn):Nat:=
 if k=6 then(match rowOf fx k ks with
  |some f=>max (xy (H0 (cJ ds 0).b f.2.1 f.2.2 (-1)) (lQ ns 0).b) (xy (H0 (cJ ds 1).p f.2.1 f.2.2 1) (lQ ns 1).i)
  |none=>max (xy (Pa (cJ ds 0).p) (lQ ns 0).i) (xy (Gh (cJ ds 1).p) (lQ ns 1).i))
 else if k=10 then za7 ns else v7 ns
def nN(fx:List af):F->List Nn
 |.nil=>[]
 |.cons k _ _ ks r=>⟨lR fx k ks (dF fx ks) (nN fx ks),(lQ (nN fx ks) 1).i,uv ks+1⟩::nN fx r
def ic(fx:List af)(k:Int)(ks:F):Nn:=⟨lR fx k ks (dF fx ks) (nN fx ks),(lQ (nN fx ks) 1).i,uv ks+1⟩
def Wk(lv sd:Int)(g:af):Prop:=lv<g.2.1\/(lv=g.2.1/\sd=g.2.2)
def gp(fx:List af)(p:Pt)(m:Nat)(l:List ND)(cs:Nat):Prop:=∃ts,FX false p.doc ts/\ts.length+1<=cs/\1<=ts.length/\kz fx (m+1) ts l/\
 (p.lk≠3->∃fs As x,Ge fx m ts l fs As x/\9*fs.length+1<=cs/\(∀g,g∈fs->Wk p.lv p.sd g)/\(p.lk≠2->fs=[]))/\(p.lk=0->uS fx m ts l)
def TV:F->F
 |.cons _ _ _ _ (.cons k t n ks _)=>tr k t n ks
 |_=>.nil
def TW(fx:List af)(d:Dc)(m:Nat)(l:List ND)(cs:Nat):Prop:=∃hs as,FX false (xq d.hd) hs/\FX true (bH d.args) as/\HY fx (xy (Pa d.p) m) (hs++as) l/\(hs++as).length<=cs+1
def v8(fx:List af)(k:Int)(t:Tx)(n:Int)(ks:F):Prop:=gp fx (dT fx k t n ks).p (ic fx k ks).i (tr k t n ks).flat (oc k t+dJ ks)/\TW fx (dT fx k t n ks) (ic fx k ks).i (tr k t n ks).flat (oc k t+dJ ks)/\
 (k=6->gp fx (dT fx k t n ks).b (ic fx k ks).b (TV ks).flat (dJ (TV ks)))
def Pb(fx:List af):Bool->Bool->F->Prop
 |_,_,.nil=>True
 |m,eh,.cons k t n ks r=>(((m&&eh)=false->v8 fx k t n ks)/\((m&&eh)=true->Ye k t n ks))/\Pb fx m (!eh) r
section
variable {fx:List af} {p:Pt} {m cs:Nat} {l:List ND}
theorem TX(ts:List T3):([aO [40]]++(ts++[aO [41]])).length=ts.length+2:=by grind
theorem gp.arg(h:gp fx p m l cs):∃as,FX false (fV p) as/\uS fx (xy (Gh p) m) as l/\as.length<=cs+1/\1<=as.length:=by
 have⟨ts,h1,h2,h3,h4,_,h6⟩:=h;unfold fV Gh;by_cases h0:p.lk=0
 ·rw[zt (fun e=>e h0)];exact⟨ts,h1,h6 h0,by omega,h3⟩
 ·rw[zw h0];exact⟨_,h1.brk,h4.brk,by rw[TX];omega,by rw[TX];omega⟩
theorem gp.head(h:gp fx p m l cs)(hk:p.lk=0\/p.lk=2\/p.lk=3):∃hs,FX false (xq p) hs/\HY fx (xy (Pa p) m) hs l/\hs.length<=cs+1:=by
 have⟨ts,h1,h2,h3,h4,_,h6⟩:=h;unfold xq Pa;rcases hk with h0|h0
 ·rw[zt (show ¬p.lk=2 by omega),zt (show ¬p.lk=3 by omega)];exact⟨ts,h1,(h6 h0).ap,by omega⟩
 ·rw[show(decide (p.lk=2)||decide (p.lk=3))=true by rcases h0 with h0|h0<;>rw[h0]<;>rfl];exact⟨_,h1.brk,h4.brk.ap,by rw[TX];omega⟩
theorem gp.side(h:gp fx p m l cs)(f:af)(s:Int):∃ts fs As x,FX false (uR p f.2.1 f.2.2 s) ts/\Ge fx (xy (H0 p f.2.1 f.2.2 s) m) ts l fs As x/\ts.length<=cs+1/\1<=ts.length/\9*fs.length+1<=cs/\∀g,g∈fs->Wk p.lv p.sd g/\D7 p f.2.1 f.2.2 s=false/\p.lk=2:=by
 have⟨ts,h1,h2,h3,h4,h5,h6⟩:=h;show ∃ts fs As x,FX false (pA (H0 p f.2.1 f.2.2 s) p.doc) ts/\_;cases hb:H0 p f.2.1 f.2.2 s with
 |true=>exact⟨_,[],_,_,h1.brk,h4.brk.ap.rw,by rw[TX];omega,by rw[TX];omega,by show 9*0+1<=cs;omega,fun g hg=>by cases hg⟩
 |false=>
  unfold H0 at hb;rw[jc,jg] at hb;have⟨fs,As,x,g1,g2,g3,g4⟩:=h5 hb.1;refine⟨ts,fs,As,x,h1,g1,by omega,h3,g2,fun g hg=>⟨g3 g hg,hb.2,zF fun h=>?_⟩⟩
  grind
theorem gp.at(hz:cT fx=0)(h1:FX false p.doc ts)(h2:ts.length+1<=cs)(h3:1<=ts.length)(_hk:p.lk=0)(h:uS fx m ts l):gp fx p m l cs:=⟨ts,h1,h2,h3,h.ap.rw.ex hz (zC _),fun _=>⟨[],_,_,h.ap.rw,by show 9*0+1<=cs;omega,(fun g hg=>by cases hg),fun _=>rfl⟩,fun _=>h⟩
theorem gp.op(h1:FX false p.doc ts)(h2:ts.length+1<=cs)(h3:1<=ts.length)(hk:p.lk=3)(h:kz fx (m+1) ts l):gp fx p m l cs:=⟨ts,h1,h2,h3,h,fun e=>absurd hk e,fun e=>by rw[hk] at e;cases e⟩
end
theorem zqf(h:bX t=true):LO (t++[32]) [(5,t,0)]:=fun z us hz=>by
 have:=zli h ([32]++z) us (Sep.cons _ (.inl rfl)) (fI.blank (.inl rfl) hz)
 grind
theorem Yg{a:Tx}{s u:List T3}(ha:LX a s)(hb:LX b u)(ht:aS t=true):LX (a++[32]++iG t++([32]++b)) (s++(fK t++u)):=by
 have h1:=(ha.app ((LO.sp (c:=32) (.inl rfl)).app (Yb ht)) (Sep.cons _ (.inl rfl))).app ((LO.sp (c:=32) (.inl rfl)).app hb) (Sep.cons _ (.inl rfl))
 grind
section
variable {fx:List af}
theorem zho{ks:F}(hl:dX fx k ks≠1)(h:gp fx (dT fx k t n ks).p m l cs):TW fx (dT fx k t n ks) m l cs:=by
 have hk:(dT fx k t n ks).p.lk=dX fx k ks:=rfl;have h3:dX fx k ks=0\/dX fx k ks=2\/dX fx k ks=3:=by
  unfold dX at hl ⊢
  grind
 obtain⟨hs,a1,a2,a3⟩:=h.head (by rw[hk];exact h3);have e1:(dT fx k t n ks).hd=(dT fx k t n ks).p:=by show(if dX fx k ks=1 then _ else qV fx k t n ks (dF fx ks))=_;rw[zj hl];rfl
 have e2:(dT fx k t n ks).args=[]:=by show(if dX fx k ks=1 then _ else [])=_;rw[zj hl]
 refine⟨hs,[],by rw[e1];exact a1,by rw[e2];exact FX.nil _,by rw[zv];exact a2,by rw[zv];omega⟩
theorem qt7{ks:F}(h6:k≠6)(h:gp fx (dT fx k t n ks).p (ic fx k ks).i (tr k t n ks).flat (oc k t+dJ ks)):v8 fx k t n ks:=by refine⟨h,zho ?_ h,fun e=>absurd e h6⟩;unfold dX;omega
theorem za8{ks:F}(h6:k≠6)(ho:mT k≠true):dX fx k ks=0:=by
 unfold dX
 grind
theorem zlr{ks:F}(ho:mT k=true):dX fx k ks=3:=by
 have h6:=(XM ho).2.2.2.1;unfold dX
 grind
theorem nd0(k:Int)(t:Tx):nd k t []=(tr k t 0 .nil).flat:=vZ k t .nil
theorem fP(hz:cT fx=0){s:Tx}(h6:k≠6)(hc:k≠10)(ho:mT k≠true)(hd:fe fx k t n .nil []=ch s)(hx:LX s ts)(hl:ts.length+1<=oc k t/\1<=ts.length)(h:uS fx 0 ts (tr k t n .nil).flat):v8 fx k t n .nil:=by
 have hi:(ic fx k .nil).i=0:=by show lR fx k .nil [] []=0;unfold lR;rw[zj h6,zj hc];rfl
 refine qt7 h6 (gp.at hz (ts:=ts) ?_ ?_ hl.2 (show dX fx k .nil=0 from za8 h6 ho) (by rw[hi];exact h))
 ·show FX false (fe fx k t n .nil []) ts;rw[hd];exact FX.tx hx
 ·exact hl.1
theorem lL:∀(N:Nat) (r:F),r.size<=N->Pb fx true true r->r.aq % 2=0->r≠.nil->∃ts,FX true (bH (pT (dF fx r))) ([aO fA]++ts)/\mH fx (HZ (nN fx r)) ts (kE r)/\ts.length+1<=dJ r
 |_,.nil,_,_,_,h=>absurd rfl h
 |_,.cons k t n ks .nil,_,_,h,_=>absurd h (by show ¬(0+1) % 2=0;decide)
 |0,.cons k t n ks (.cons k' t' n' cm r),h,_,_,_=>by have h:ks.size+(cm.size+r.size+1)+1<=0:=h;omega
 |N+1,.cons k t n ks (.cons k' t' n' cm r),h,hs,hc,_=>by
  have h:ks.size+(cm.size+r.size+1)+1<=N+1:=h;obtain⟨⟨_,h1⟩,⟨h2,_⟩,h3⟩:=hs;obtain⟨ps,_,x1,_,x3,_,x5,_,_⟩:=h1 rfl;obtain⟨⟨es,y1,y2,y3,y4,_⟩,_⟩:=h2 rfl;have hc:(r.aq+1+1) % 2=0:=hc;have he:LX ([124,32]++(cF k t n (bK ks)++[32,45,62])) ([aO fA]++(ps++[aO av])):=by have a1:LX fA [aO fA]:=TN rfl dc;have a2:LX av [aO av]:=TN rfl dc;have:=a1.app ((LO.sp (c:=32) (.inl rfl)).app (x1.app ((LO.sp (c:=32) (.inl rfl)).app a2) (Sep.cons _ (.inl rfl)))) (Sep.cons _ (.inl rfl));exact this.text (by simp[fA,av]) rfl
  have hg:(dT fx k t n ks).pt=cF k t n (bK ks):=rfl;have e:pT (dF fx (.cons k t n ks (.cons k' t' n' cm r)))=[cI,ch ([124,32]++(cF k t n (bK ks)++[32,45,62])),cf (dT fx k' t' n' cm).p.doc]++pT (dF fx r):=rfl;have hf:=fun {b:List F} {us:List T3} (hb:FX true (bH b) us)=>FX.ln (b:=false) (FX.cons (FX.tx he) (FX.cons (FX.nD y1) hb));rw[e];by_cases hr:r=.nil
  ·subst hr;have:=hf (b:=[]) (us:=[]) (FX.nil true);refine⟨ps++([aO av]++es),this.eq (by simp only[zk,zv]),?_,?_⟩
   ·have:=mH.last x3 y4;show mH fx (max (uv ks+1) (max ((ic fx k' cm).i+1) 0)) _ _;rw[Nat.max_zero];exact this
   ·rw[zd,zd,zB];show _<=oc k t+dJ ks+(oc k' t'+dJ cm+0);omega
  ·obtain⟨us,z1,z2,z3⟩:=lL N r om h3 om hr;have:=hf z1;refine⟨ps++([aO av]++(es++([aO fA]++us))),this.eq (by simp only[zk]),mH.cons x3 y4 z2,?_⟩;simp only[zd,zB];show _<=oc k t+dJ ks+(oc k' t'+dJ cm+dJ r);omega
end
section
variable {fx:List af}
theorem za9(k:Int)(t:Tx)(a:Int)(b:Tx)(c:Int)(d:F):(tr k t 0 (.cons a b c d .nil)).flat=nd k t [(tr a b c d).flat]:=(vZ k t (.cons a b c d .nil)).symm
theorem C5(k:Int)(t:Tx)(a:Int)(b:Tx)(c:Int)(d:F)(a':Int)(b':Tx)(c':Int)(d':F):(tr k t 0 (.cons a b c d (.cons a' b' c' d' .nil))).flat=nd k t [(tr a b c d).flat,(tr a' b' c' d').flat]:=(vZ k t (.cons a b c d (.cons a' b' c' d' .nil))).symm
theorem zfc(hz:cT fx=0){a:Int}{c:Int}{d:F}{d':F}(he:rowOf fx 6 (.cons a b c d (.cons a' b' c' d' .nil))=none)(s1:v8 fx a b c d)(s2:v8 fx a' b' c' d'):v8 fx 6 [] 0 (.cons a b c d (.cons a' b' c' d' .nil)):=by
 have⟨_,⟨hs,as,h1,h2,h3,h4⟩,_⟩:=s1;have⟨us,g1,g2,g3,g4⟩:=s2.1.arg;have e0:cJ (dF fx (.cons a b c d (.cons a' b' c' d' .nil))) 0=dT fx a b c d:=rfl;have e1:cJ (dF fx (.cons a b c d (.cons a' b' c' d' .nil))) 1=dT fx a' b' c' d':=rfl;have n0:lQ (nN fx (.cons a b c d (.cons a' b' c' d' .nil))) 0=ic fx a d:=rfl;have n1:lQ (nN fx (.cons a b c d (.cons a' b' c' d' .nil))) 1=ic fx a' d':=rfl;have hj:dX fx 6 (.cons a b c d (.cons a' b' c' d' .nil))=1:=by unfold dX;rw[zu rfl,he]
 have hc:FX true (bH ((dT fx a b c d).args++[cI,fV (dT fx a' b' c' d').p])) (as++us):=by rw[XH];exact h2.app (FX.ln (FX.one g1))
 have hf:=h3.app g2 g4;rw[<-C5 6 [] a b c d a' b' c' d'] at hf;have hi:(ic fx 6 (.cons a b c d (.cons a' b' c' d' .nil))).i=max (xy (Pa (dT fx a b c d).p) (ic fx a d).i) (xy (Gh (dT fx a' b' c' d').p) (ic fx a' d').i):=by
  show lR fx 6 _ _ _=_;unfold lR
  grind
 have hk:(dT fx 6 [] 0 (.cons a b c d (.cons a' b' c' d' .nil))).p.doc=MO (dT fx a b c d).hd ((dT fx a b c d).args++[cI,fV (dT fx a' b' c' d').p]):=by show fe fx 6 [] 0 _ _=_;unfold fe;rw[zj dc,zj dc,zj dc,zj dc,zj dc,zu rfl,he,e0,e1]
 have hm:FX false (dT fx 6 [] 0 (.cons a b c d (.cons a' b' c' d' .nil))).p.doc (hs++(as++us)):=by rw[hk];exact FX.qY (FX.cons h1 (FX.one (FX.nest hc)))
 rw[<-zk] at hm;rw[<-hi] at hf;have hl:(hs++as++us).length+1<=oc 6 []+dJ (F.cons a b c d (.cons a' b' c' d' .nil)):=by rw[zd];show _<=3+(oc a b+dJ d+(oc a' b'+dJ d'+0));omega
 refine⟨⟨_,hm,hl,by rw[zd];omega,hf.rw.ex hz (zC _),fun _=>⟨[],_,_,hf.rw,by show 9*0+1<=_;omega,(fun g hg=>by cases hg),fun _=>rfl⟩,fun e=>?_⟩,⟨hs,as++us,?_,?_,?_,?_⟩,fun _=>?_⟩
 ·have:dX fx 6 (.cons a b c d (.cons a' b' c' d' .nil))=0:=e;rw[hj] at this;cases this
 ·show FX false (xq (if _ then _ else _)) hs;rw[zu hj,e0];exact h1
 ·show FX true (bH (if _ then _ else _)) _;rw[zu hj,e0];exact hc
 ·rw[<-zk];have:Pa (dT fx 6 [] 0 (.cons a b c d (.cons a' b' c' d' .nil))).p=false:=by show(decide (dX fx 6 _=2)||decide (dX fx 6 _=3))=false;rw[hj];rfl
  rw[this];exact hf
 ·rw[<-zk];omega
 ·show gp fx (if(6:Int)=6 then(dT fx a' b' c' d').p else pz) (ic fx a' d').i (tr a' b' c' d').flat (oc a' b'+dJ d'+0);rw[zu rfl];exact s2.1
theorem TY{p:Pt}(hw:Wk p.lv p.sd g)(hl:D7 p f.2.1 f.2.2 (-1)=false)(hk:p.lk=2):TR f g:=by unfold D7 at hl;rw[zw hk,jV,jc,jg,Jc,jg,jc,jg,jg] at hl;unfold Wk at hw;unfold TR;omega
theorem TZ{p:Pt}(hw:Wk p.lv p.sd g)(hl:D7 p f.2.1 f.2.2 1=false)(hk:p.lk=2):TT f g:=by unfold D7 at hl;rw[zw hk,jV,jc,jg,Jc,jg,jc,jg,jg] at hl;unfold Wk at hw;unfold TT;omega
theorem zon(hz:cT fx=0)(hf:f∈fx)(hg:g∈fx)(h:TR f g\/TT f g):Wk f.2.1 f.2.2 g:=by have r1:=TF hz f hf;have r2:=TF hz g hg;unfold iu at r1 r2;simp[Bool.and_eq_true,decide_eq_true_eq] at r1 r2;unfold TR TT at h;unfold Wk;omega
theorem zfd(hz:cT fx=0){d:F}{c:Int}{d':F}(hx:oc 6 []+dJ (F.cons 6 b c d (.cons a' b' c' d' .nil))<=3600)(hf:fc false false false (.cons 6 b c d (.cons a' b' c' d' .nil))=0)(he:rowOf fx 6 (.cons 6 b c d (.cons a' b' c' d' .nil))=some f)(s1:v8 fx 6 b c d)(s2:v8 fx a' b' c' d'):v8 fx 6 [] 0 (.cons 6 b c d (.cons a' b' c' d' .nil)):=by
 have⟨v1,_⟩:=cK.1 hf;have⟨w1,w2⟩:=bE.1 v1;have⟨_,_,wk,wn,wt,_⟩:=bC.1 w1;obtain rfl:=Gd wn dc;obtain rfl:=HX (by simp) wt;obtain⟨a3,s3,c3,d3,r,rfl,hr⟩:=gO (ks:=d) (n:=1) (by have:=(AU wk).2.1 (.inl rfl);omega);obtain⟨a4,b4,c4,d4,r',rfl,hs⟩:=gO (n:=0) hr;obtain rfl:=A6 hs;have hc:(if(6:Int)=6/\(6:Int)=6/\a3=3 then lZ fx s3 else none)=some f:=he;have ht:=zF fun h=>by rw[zj (fun e=>h e.2.2)] at hc;cases hc
 subst ht;have⟨hk,hu⟩:=Hu hc;subst hu;have⟨x1,_⟩:=cK.1 w2;have⟨y1,_⟩:=bE.1 x1;have⟨_,_,yk,yn,_,_⟩:=bC.1 y1;obtain rfl:=xh ((AU yk).2.2.2.2 (by simp));obtain rfl:=Gd yn dc;have hj:(tr 6 [] 0 (.cons 6 [] 0 (.cons 3 f.1 0 .nil (.cons a4 b4 c4 d4 .nil)) (.cons a' b' c' d' .nil))).flat=nd 6 [] [nd 6 [] [nd 3 f.1 [],(tr a4 b4 c4 d4).flat],(tr a' b' c' d').flat]:=by rw[C5,C5,nd0]
 have hb:=s1.2.2 rfl;have hb:gp fx (dT fx 6 [] 0 (.cons 3 f.1 0 .nil (.cons a4 b4 c4 d4 .nil))).b (ic fx 6 (.cons 3 f.1 0 .nil (.cons a4 b4 c4 d4 .nil))).b (tr a4 b4 c4 d4).flat (oc a4 b4+dJ d4):=hb;have⟨ts,fs,As,x,p1,p2,p3,p4,p5,p6⟩:=hb.side f (-1);have⟨us,mi,Gf,x',q1,q2,q3,q4,q5,q6⟩:=s2.1.side f 1;have hl:=p2.op q2 hc (fun g hg=>TY (p6 g hg).1 (p6 g hg).2.1 (p6 g hg).2.2) (fun g hg=>TZ (q6 g hg).1 (q6 g hg).2.1 (q6 g hg).2.2);rw[<-hj] at hl;have ho:=qqt hz f hk;have hv:FX false (F3 f (dT fx 6 [] 0 (.cons 3 f.1 0 .nil (.cons a4 b4 c4 d4 .nil))).b (dT fx a' b' c' d').p) (ts++([(5,f.1,0)]++us)):=FX.qY (FX.cons p1 (FX.one (FX.nest (FX.ln ((FO.tx (zqf ho)).app (FX.one q1))))));have o3:oc 3 f.1=4:=by show(bif bX f.1 then 4 else 2)=4;rw[ho];rfl
 have hy:oc 6 []+dJ (F.cons 6 [] 0 (.cons 3 f.1 0 .nil (.cons a4 b4 c4 d4 .nil)) (.cons a' b' c' d' .nil))=oc a4 b4+dJ d4+(oc a' b'+dJ d')+10:=by show 3+(3+(oc 3 f.1+0+(oc a4 b4+dJ d4+0))+(oc a' b'+dJ d'+0))=_;omega
 have hw:(ts++([((5:Int),f.1,(0:Int))]++us)).length=ts.length+us.length+1:=by rw[zd,zd,zB];omega
 have hA:(fs++f::mi).length=fs.length+mi.length+1:=by rw[zd,zn];omega
 have hm:dX fx 6 (.cons 6 [] 0 (.cons 3 f.1 0 .nil (.cons a4 b4 c4 d4 .nil)) (.cons a' b' c' d' .nil))=2:=by unfold dX;rw[zu rfl,he]
 have hq:gp fx (dT fx 6 [] 0 (.cons 6 [] 0 (.cons 3 f.1 0 .nil (.cons a4 b4 c4 d4 .nil)) (.cons a' b' c' d' .nil))).p (ic fx 6 (.cons 6 [] 0 (.cons 3 f.1 0 .nil (.cons a4 b4 c4 d4 .nil)) (.cons a' b' c' d' .nil))).i
   (tr 6 [] 0 (.cons 6 [] 0 (.cons 3 f.1 0 .nil (.cons a4 b4 c4 d4 .nil)) (.cons a' b' c' d' .nil))).flat (oc 6 []+dJ (F.cons 6 [] 0 (.cons 3 f.1 0 .nil (.cons a4 b4 c4 d4 .nil)) (.cons a' b' c' d' .nil))):=by
  have hi:(ic fx 6 (.cons 6 [] 0 (.cons 3 f.1 0 .nil (.cons a4 b4 c4 d4 .nil)) (.cons a' b' c' d' .nil))).i=max (xy (H0 (dT fx 6 [] 0 (.cons 3 f.1 0 .nil (.cons a4 b4 c4 d4 .nil))).b f.2.1 f.2.2 (-1)) (ic fx 6 (.cons 3 f.1 0 .nil (.cons a4 b4 c4 d4 .nil))).b) (xy (H0 (dT fx a' b' c' d').p f.2.1 f.2.2 1) (ic fx a' d').i):=by show lR fx 6 _ _ _=_;unfold lR;rw[zu rfl,he];rfl
  refine⟨ts++([(5,f.1,0)]++us),?_,?_,?_,?_,fun _=>⟨fs++f::mi,As++Gf,fun a=>((a+fs.length:Nat):Int)::(x a++x' (a+fs.length+1)),?_,?_,?_,fun e=>absurd hm e⟩,fun e=>?_⟩
  ·have hn:(dT fx 6 [] 0 (.cons 6 [] 0 (.cons 3 f.1 0 .nil (.cons a4 b4 c4 d4 .nil)) (.cons a' b' c' d' .nil))).p.doc=F3 f (dT fx 6 [] 0 (.cons 3 f.1 0 .nil (.cons a4 b4 c4 d4 .nil))).b (dT fx a' b' c' d').p:=by show fe fx 6 [] 0 _ _=_;unfold fe;rw[zj dc,zj dc,zj dc,zj dc,zj dc,zu rfl,he];rfl
   rw[hn];exact hv
  ·omega
  ·omega
  ·rw[hi];exact hl.ex hz om
  ·rw[hi];exact hl
  ·omega
  ·have elv:(dT fx 6 [] 0 (.cons 6 [] 0 (.cons 3 f.1 0 .nil (.cons a4 b4 c4 d4 .nil)) (.cons a' b' c' d' .nil))).p.lv=f.2.1:=by show((rowOf fx 6 _).getD ([],0,0)).2.1=_;rw[he];rfl
   have esd:(dT fx 6 [] 0 (.cons 6 [] 0 (.cons 3 f.1 0 .nil (.cons a4 b4 c4 d4 .nil)) (.cons a' b' c' d' .nil))).p.sd=f.2.2:=by show((rowOf fx 6 _).getD ([],0,0)).2.2=_;rw[he];rfl
   intro g hg;rw[elv,esd];rcases zD.1 hg with hg|hg
   ·exact zon hz hk (Hu (p2.f g hg)).1 (.inl (TY (p6 g hg).1 (p6 g hg).2.1 (p6 g hg).2.2))
   ·rcases zA.1 hg with rfl|hg
    ·exact .inr ⟨rfl,rfl⟩
    ·exact zon hz hk (Hu (q2.f g hg)).1 (.inr (TZ (q6 g hg).1 (q6 g hg).2.1 (q6 g hg).2.2))
  ·have:dX fx 6 _=0:=e;rw[hm] at this;cases this
 refine⟨hq,zho (by rw[hm];decide) hq,fun _=>?_⟩;show gp fx (if(6:Int)=6 then(dT fx a' b' c' d').p else pz) (ic fx a' d').i (tr a' b' c' d').flat (oc a' b'+dJ d'+0);exact s2.1
end
section
variable {fx:List af}
theorem kz.mono(h:kz fx m ts l)(hm:m<=m'):kz fx m' ts l:=And.intro h.1 fun c d i hc hh h1 h2 hd=>h.2 c d i hc hh h1 h2 om
theorem uS.mono(h:uS fx m ts l)(hm:m<=m'):uS fx m' ts l:=And.intro h.1 fun c d i hc hh hd=>h.2 c d i hc hh om
theorem rI(hw:w∈[iX,cN,rC,dA,kv,eF,y7,iY,iZ,dB,eH,gI]):LX w [aO w]:=by simp[List.mem_cons,List.not_mem_nil,or_false] at hw;rcases hw with rfl|rfl|rfl|rfl|rfl|rfl|rfl|rfl|rfl|rfl|rfl|rfl<;>exact MZ rfl rfl dc
theorem Yh:LX av [aO av]:=TN rfl dc
theorem Yi:LX iv [aO iv]:=TN rfl dc
theorem Pc{ks:F}(ho:mT k=true)(h1:FX false (MN k t (cJ (dF fx ks) 0).p.doc (cJ (dF fx ks) 1).p.doc (cJ (dF fx ks) 2).p.doc) ts)(h2:ts.length+1<=6+dJ ks)(h3:1<=ts.length)(h4:kz fx m ts (tr k t n ks).flat)(hm:m<=v7 (nN fx ks)+1):v8 fx k t n ks:=by
 have⟨_,_,_,h6,hc⟩:=XM ho;have hi:(ic fx k ks).i=v7 (nN fx ks):=by
  show lR fx k ks _ _=_;unfold lR
  grind
 have ek:oc k t=6:=by
  have:=A7 ho;unfold oc
  grind
 refine qt7 h6 (gp.op (ts:=ts) ?_ (by rw[ek];exact h2) h3 (show dX fx k ks=3 from zlr ho) (h4.mono (by rw[hi];exact hm)));show FX false (fe fx k t n ks (dF fx ks)) ts
 rwa [XN fx t n ks _ ho]
theorem Gi{p:Pt}(h:gp fx p m l cs):∃ts,FX false p.doc ts/\ts.length+1<=cs/\1<=ts.length/\kz fx (m+1) ts l:=by
 have⟨ts,h1,h2,h3,h4,_⟩:=h
 grind
theorem z1t(t:Tx):(fK t).length<=3/\1<=(fK t).length:=by unfold fK;cases bX t<;>simp
theorem zls(t:Tx):(fK t).length+1<=oc 3 t/\1<=(fK t).length:=by
 have e:oc 3 t=bif bX t then 4 else 2:=rfl
 rw[e];unfold fK;cases bX t<;>simp
theorem zoo{ks:F}(ho:mT k=true)(hv:bO k t n ks false=0)(hs:Pb fx false false ks):v8 fx k t n ks:=by
 obtain⟨hn,_⟩:=bE.1 hv;obtain⟨_,_,hk,he,hc,_⟩:=bC.1 hn;obtain⟨c1,c2,c3,_,_⟩:=AU hk;obtain⟨g1,_,_,_,_⟩:=XM ho;have g23:k≠23:=by rcases A7 ho with h|h|h|h|h|h<;>omega
 obtain rfl:=Gd he ⟨g1,g23⟩;have hl:=z1t t;by_cases hA:k=5\/k=11
 ·obtain⟨a,b,c,d,rfl⟩:=XK (c1 hA);have⟨ts,x1,x2,x3,x4⟩:=Gi (hs.1.1 rfl).1;rcases hA with rfl|rfl
  ·have h:=zoj t x4;refine Pc rfl (ts:=[aO iX]++(fK t++([aO av]++ts))) ?_ ?_ ?_ h (Nat.succ_le_succ (Nat.le_max_left _ _))
   ·have h1:=FX.tx ((Yg (rI (w:=iX) dc) Yh (D9 (.inr (.inl rfl)) hc)));exact(FX.qY (FX.cons h1 (FX.one (FX.nD x1)))).eq (by simp[List.append_assoc])
   ·simp[List.length_append];show _<=6+(oc a b+dJ d+0);omega
   grind
  ·obtain rfl:=HX (by simp) hc;have h:=zfa x4;refine Pc rfl (ts:=[aO dA]++ts) ?_ ?_ ?_ h (Nat.succ_le_succ (Nat.le_max_left _ _))
   ·exact FX.qY (FX.cons (FX.tx (rI dc)) (FX.one (FX.nD x1)))
   ·simp;show _<=6+(oc a b+dJ d+0);omega
   grind
 by_cases h9:k=9
 ·subst h9;obtain rfl:=HX (by simp) hc;obtain⟨a,b,c,d,r,rfl,hr⟩:=gO (ks:=ks) (n:=2) (by have:=c3 rfl;omega);obtain⟨a',b',c',d',r',rfl,hf⟩:=gO (n:=1) hr;obtain⟨a2,b2,lh,d2,r2,rfl,hg⟩:=gO (n:=0) hf;obtain rfl:=A6 hg;obtain⟨⟨s1,_⟩,⟨s2,_⟩,⟨s3,_⟩,_⟩:=hs;obtain⟨ts,x1,x2,x3,x4⟩:=Gi (s1 rfl).1;obtain⟨us,y1,y2,y3,y4⟩:=Gi (s2 rfl).1;obtain⟨vs,z1,z2,z3,z4⟩:=Gi (s3 rfl).1;have h:=zqe x4 y4 z4;have e:nd 9 [] [(tr a b c d).flat,(tr a' b' c' d').flat,(tr a2 b2 lh d2).flat]=(tr 9 [] 0 (.cons a b c d (.cons a' b' c' d' (.cons a2 b2 lh d2 .nil)))).flat:=vZ 9 [] (.cons a b c d (.cons a' b' c' d' (.cons a2 b2 lh d2 .nil)));rw[e] at h;refine Pc rfl (ts:=[aO rC]++(ts++([aO iY]++(us++([aO iZ]++vs))))) ?_ ?_ ?_ h ?_
  ·exact FX.qY (FX.cons (FX.tx (rI dc)) (FX.cons (FX.nD x1) (FX.ln (FX.cons (FX.tx (rI (w:=iY) dc)) (FX.cons (FX.nD y1) (FX.ln (FX.cons (FX.tx (rI (w:=iZ) dc)) (FX.one (FX.nD z1)))))))))
  ·simp only[zd,zB];show _<=6+(oc a b+dJ d+(oc a' b'+dJ d'+(oc a2 b2+dJ d2+0)));omega
  ·grind
  ·show _<=max ((ic fx a d).i+1) (max ((ic fx a' d').i+1) (max ((ic fx a2 d2).i+1) 0))+1;omega
 have h2:k=7\/k=8\/k=12:=by
  rcases A7 ho with h|h|h|h|h|h
  all_goals omega
 obtain⟨a,b,c,d,r,rfl,hr⟩:=gO (ks:=ks) (n:=1) om;obtain⟨a',b',c',d',r',rfl,hf⟩:=gO (n:=0) hr;obtain rfl:=A6 hf;obtain⟨⟨s1,_⟩,⟨s2,_⟩,_⟩:=hs;obtain⟨ts,x1,x2,x3,x4⟩:=Gi (s1 rfl).1;obtain⟨us,y1,y2,y3,y4⟩:=Gi (s2 rfl).1;have hm:max ((ic fx a d).i+1) ((ic fx a' d').i+1)+1<=v7 (nN fx (.cons a b c d (.cons a' b' c' d' .nil)))+1:=by show _<=max ((ic fx a d).i+1) (max ((ic fx a' d').i+1) 0)+1;omega
 have hj:dJ (F.cons a b c d (.cons a' b' c' d' .nil))=oc a b+dJ d+(oc a' b'+dJ d'+0):=rfl;rcases h2 with rfl|rfl|rfl
 ·have h:=zol t x4 y4;rw[<-C5] at h;refine Pc rfl (ts:=[aO cN]++(fK t++([aO iv]++(ts++([aO y7]++us))))) ?_ ?_ ?_ h hm
  ·have h1:=FX.tx ((Yg (rI (w:=cN) dc) Yi (D9 (.inr (.inr (.inl rfl))) hc)));exact(FX.qY (FX.cons h1 (FX.cons (FX.nD x1) (FX.ln (FX.cons (FX.tx (rI (w:=y7) dc)) (FX.ln (FX.one y1))))))).eq (by simp[List.append_assoc])
  all_goals grind
 ·have h:=zom t x4 y4;rw[<-C5] at h;refine Pc rfl (ts:=[aO cN]++([aO eF]++(fK t++([aO iv]++(ts++([aO y7]++us)))))) ?_ ?_ ?_ h hm
  ·have h0:=(rI (w:=cN) dc).app ((LO.sp (c:=32) (.inl rfl)).app (rI (w:=eF) dc)) (Sep.cons _ (.inl rfl));have h1:=FX.tx ((Yg h0 Yi (D9 (.inr (.inr (.inr (.inl rfl)))) hc)));exact(FX.qY (FX.cons h1 (FX.cons (FX.nD x1) (FX.ln (FX.cons (FX.tx (rI (w:=y7) dc)) (FX.ln (FX.one y1))))))).eq (by simp[List.append_assoc,List.nil_append])
  all_goals grind
 ·have h:=zok t x4 y4;rw[<-C5] at h;refine Pc rfl (ts:=[aO kv]++(ts++([aO eH]++(fK t++([aO av]++us))))) ?_ ?_ ?_ h hm
  ·have h1:=FX.tx ((Yg (rI (w:=eH) dc) Yh (D9 (.inr (.inr (.inr (.inr rfl)))) hc)));exact(FX.qY (FX.cons (FX.tx (rI (w:=kv) dc)) (FX.cons (FX.nD x1) (FX.ln (FX.cons h1 (FX.one (FX.nD y1))))))).eq (by simp[List.append_assoc])
  all_goals grind
theorem zlt{ks:F}(ds:List Dc)(ns:List Nn):lR fx 10 ks ds ns=za7 ns:=by rfl
theorem zlu(hz:cT fx=0){ks:F}(hv:bO 10 t n ks false=0)(hs:Pb fx true false ks):v8 fx 10 t n ks:=by
 obtain⟨hn,_⟩:=bE.1 hv;obtain⟨_,_,hk,hg,hl,_⟩:=bC.1 hn;obtain⟨_,_,_,sF,_⟩:=AU hk;obtain rfl:=Gd hg dc;obtain rfl:=HX (by simp) hl;obtain⟨sF,Lk⟩:=sF rfl;obtain⟨a,b,c,d,r,rfl,hr⟩:=gO (ks:=ks) (n:=ks.aq-1) om;obtain⟨a',b',c',d',r',rfl,hm⟩:=gO (ks:=r) (n:=r.aq-1) om;obtain⟨a2,b2,lh,d2,r2,rfl,ho⟩:=gO (ks:=r') (n:=r'.aq-1) om;obtain⟨⟨s1,_⟩,⟨_,s2⟩,⟨s3,_⟩,s4⟩:=hs;obtain⟨ts,x1,x2,x3,x4⟩:=Gi (s1 rfl).1;obtain⟨ps,_,p1,_,p3,_,p5,_,_⟩:=s2 rfl;obtain⟨es,y1,y2,y3,y4⟩:=Gi (s3 rfl).1;have hi:(ic fx 10 (.cons a b c d (.cons a' b' c' d' (.cons a2 b2 lh d2 r2)))).i=max ((ic fx a d).i+1) (max (uv d'+1) (max ((ic fx a2 d2).i+1) (HZ (nN fx r2)))):=by exact zlt (fx:=fx) (ks:=.cons a b c d (.cons a' b' c' d' (.cons a2 b2 lh d2 r2))) (dF fx (.cons a b c d (.cons a' b' c' d' (.cons a2 b2 lh d2 r2)))) (nN fx (.cons a b c d (.cons a' b' c' d' (.cons a2 b2 lh d2 r2))))
 have hc:LX (cF a' b' c' (bK d')++[32,45,62]) (ps++[aO av]):=p1.app ((LO.sp (c:=32) (.inl rfl)).app Yh) (Sep.cons _ (.inl rfl));have he:=FX.ln (FX.one (FX.tx (rI (w:=gI) dc)));have hj:=fun {us:List T3} {f:F} (hf:FX true f us)=>FX.app hf he;have key:∀us:List T3,FX true (bH (pT (dF fx r2)++[cI,ch gI])) (us++[aO gI])->mH fx (max (uv d'+1) (max ((ic fx a2 d2).i+1) (HZ (nN fx r2)))) (ps++([aO av]++(es++us))) ((tr a' b' c' d').flat::(tr a2 b2 lh d2).flat::kE r2)->us.length<=dJ r2->
   v8 fx 10 [] 0 (.cons a b c d (.cons a' b' c' d' (.cons a2 b2 lh d2 r2))):=fun us h1 h2 h3=>by
  have h:=zfb x4 h2;have e:nd 10 [] ((tr a b c d).flat::(tr a' b' c' d').flat::(tr a2 b2 lh d2).flat::kE r2)=(tr 10 [] 0 (.cons a b c d (.cons a' b' c' d' (.cons a2 b2 lh d2 r2)))).flat:=vZ 10 [] (.cons a b c d (.cons a' b' c' d' (.cons a2 b2 lh d2 r2)));rw[e] at h;refine qt7 dc (gp.at hz ?_ ?_ ?_ (za8 (fx:=fx) (ks:=.cons a b c d (.cons a' b' c' d' (.cons a2 b2 lh d2 r2))) (show(10:Int)≠6 by decide) (show mT 10≠true by decide)) h)
  ·have hn:=FX.nest (FX.ln (FX.cons (FX.tx hc) (FX.one (FX.nD y1))));have:=FX.qY (l:=[ch dB,cf (dT fx a b c d).p.doc,cI,ch eH]++([nC [cI,ch (cF a' b' c' (bK d')++[32,45,62]),cf (dT fx a2 b2 lh d2).p.doc]]++(pT (dF fx r2)++[cI,ch gI]))) (FX.cons (FX.tx (rI (w:=dB) dc)) (FX.cons (FX.nD x1) (FX.ln (FX.cons (FX.tx (rI (w:=eH) dc)) (FX.cons hn h1)))));exact this.eq (by simp[List.append_assoc])
  ·simp[List.length_append];show _<=6+(oc a b+dJ d+(oc a' b'+dJ d'+(oc a2 b2+dJ d2+dJ r2)));omega
  ·simp only[zd,zB];omega
 by_cases h0:r2=.nil
 ·subst h0;refine key [] he ?_ (zC _);rw[zv];exact mH.last p3 y4
 ·have⟨us,z1,z2,z3⟩:=lL r2.size r2 (zm _) s4 om h0;refine key ([aO fA]++us) ?_ (mH.cons p3 y4 z2) (by rw[zd,zB];omega);rw[XH];exact hj z1
theorem zqg(hz:cT fx=0){ks:F}(hq:oc k t+dJ ks<=3600)(hb:∀c,c∈t->0<=c/\c<=255)(hv:bO k t n ks false=0)(hs:Pb fx (ah k 10) false ks):v8 fx k t n ks:=by
 obtain⟨hn,hf⟩:=bE.1 hv;obtain⟨ht,hm,hk,he,hg,_⟩:=bC.1 hn;obtain⟨_,c2,_,_,c0⟩:=AU hk;by_cases ho:mT k=true
 ·have rA:ah k 10=false:=by rcases A7 ho with h|h|h|h|h|h<;>subst h<;>rfl
  rw[rA] at hs;exact zoo ho hv hs
 by_cases g10:k=10
 ·subst g10;exact zlu hz hv hs
 by_cases h6:k=6
 ·subst h6;obtain rfl:=Gd he dc;obtain rfl:=HX (by simp) hg;obtain⟨a,b,c,d,r,rfl,hr⟩:=gO (ks:=ks) (n:=1) om;obtain⟨a',b',c',d',r',rfl,hu⟩:=gO (n:=0) hr;obtain rfl:=A6 hu;obtain⟨⟨s1,_⟩,⟨s2,_⟩,_⟩:=hs;cases hc:rowOf fx 6 (.cons a b c d (.cons a' b' c' d' .nil)) with
  |none=>exact zfc hz hc (s1 rfl) (s2 rfl)
  |some f=>
   have ha:=zF fun h=>by rw[XY fx h] at hc;cases hc
   subst ha;exact zfd hz hq hf hc (s1 rfl) (s2 rfl)
 by_cases g1:k=1
 ·subst g1;obtain rfl:=HX (by simp) hg;obtain rfl:=xh (c0 (by simp));exact fP hz dc dc dc rfl (za4 (zod he (.inl rfl))) ⟨zm _,zm _⟩ (zog n)
 have hj:k≠23:=by intro e;subst e;exact absurd hm dc
 obtain rfl:=Gd he ⟨g1,hj⟩;by_cases g2:k=2
 ·subst g2;obtain rfl:=xh (c0 (by simp));have hl:t.length<=200:=by
   unfold uJ at hg;by_cases h:t.length<=200
   ·exact h
   ·rw[show aZ 200 (aa t)=true from zw (show(200:Int)<((t.length:Nat):Int) by omega)] at hg;cases hg
  exact fP hz dc dc dc rfl (zoc hb hl).lx ⟨zm _,zm _⟩ (by exact zoh t)
 by_cases g3:k=3
 ·subst g3;obtain rfl:=xh (c0 (by simp));exact fP hz dc dc dc rfl (Yb (D9 (.inl rfl) hg)) (zls t) (by exact zlp t)
 have k4:=zo7 k ht hm (by cases h:mT k with|true=>exact absurd h ho|false=>rfl) (cZ g1) (cZ g2) (cZ g3) (cZ h6) (cZ g10);subst k4;obtain rfl:=xh (c0 (by simp));exact fP hz dc dc dc rfl (O6 (zhg hg)) ⟨zm _,zm _⟩ (by exact zoi t)
theorem xsF(hz:cT fx=0):∀(f:F) (m eh:Bool),dJ f<=3600->(∀x,x∈f.flat->∀c,c∈x.2.1->0<=c/\c<=255)->fc m false eh f=0->Pb fx m eh f
 |.nil,_,_,_,_,_=>trivial
 |.cons k t n ks r,m,eh,hc,hb,h=>by
  have hc:oc k t+dJ ks+dJ r<=3600:=hc;have⟨h1,h2⟩:=cK.1 h;have he:=hb _ (zg ..);have hf:=fun x hx=>hb x (zf _ (zN r.flat hx));refine⟨⟨fun hm=>?_,fun hm=>?_⟩,xsF hz r m (!eh) om (fun x hx=>hb x (zf _ (zG _ hx))) h2⟩
  ·rw[hm] at h1;exact zqg hz om he h1 (xsF hz ks _ _ om hf (bE.1 h1).2)
  ·rw[hm] at h1;exact vM h1
theorem zop(hz:cT fx=0){ks:F}(hc:oc k t+dJ ks<=3600)(hb:∀x,x∈(tr k t n ks).flat->∀c,c∈x.2.1->0<=c/\c<=255)(hv:bO k t n ks false=0):v8 fx k t n ks:=(xsF hz (tr k t n ks) false false (by show oc k t+dJ ks+0<=3600;omega) hb (cK.2 ⟨by exact hv,rfl⟩)).1.1 rfl
end
theorem Has.of:∀{ts:List T3} {i:Nat},(c.l.map Gb).drop i=ts->Has c i ts
 |[],_,_=>trivial
 |t::ts,i,h=>by refine⟨?_,Has.of (by rw[<-jw,h];rfl)⟩;show(c.l[i]?).map Gb=some t;rw[<-jZ,<-List.head?_drop,h];rfl
theorem zaa(b:Bool)(n:Nat):xy b n<=n+1:=by cases b<;>simp[xy]
theorem qoi:∀(f:F) (s:Tx),ur f->Lay f s->∀x,x∈s->0<=x/\x<=255
 |.nil,s,_,h,x,hx=>by have h:s=[]:=h;subst h;cases hx
 |.cons k t n ks r,s,⟨hk,hc,hr⟩,⟨s1,s2,e,h1,h2⟩,x,hx=>by
  subst e;rcases zD.1 hx with hx|hx
  ·by_cases k1:k=41
   ·rw[zu k1] at h1;subst h1;rcases hk with h|h|h|h|h
    ·have:=h.2.2.2 x hx;omega
    all_goals rw[h.2.1] at hx;cases hx
   ·rw[zj k1] at h1;by_cases k2:k=42
    ·rw[zu k2] at h1;have:=h1.2 x hx;omega
    ·rw[zj k2] at h1;exact qoi ks s1 hc h1 x hx
  ·exact qoi r s2 hr h2 x hx
theorem zab(t:List ND)(fx:List af)(ht:t.length<=4000)(hg:GL t)(hf:gL fx):∃c,(c≠0/\∀b n,sG (⟨b,t⟩,⟨n,fx⟩,())=some (⟨true,[]⟩,c,()))\/(c=0/\∃k s m ks,t=(tr k s m ks).flat/\bO k s m ks false=0/\(∀b,iU (⟨b,t⟩,())=some (0,()))/\cT fx=0):=by
 have hs:∃c,(∀b,iU (⟨b,t⟩,())=some (c,()))/\(c=0->∃k s m ks,t=(tr k s m ks).flat/\bO k s m ks false=0):=by
  rcases z7d t with h|⟨k,s,m,ks,h⟩
  ·exact⟨60,fun b=>qqh b t ht h,fun e=>by cases e⟩
  ·subst h;have hl:(tr k s m ks).flat.length=ks.size+1:=(tr k s m ks).len;exact⟨ua k s m ks false,fun b=>qju b k s m ks om hg,fun e=>⟨k,s,m,ks,rfl,zet e⟩⟩
 obtain⟨c,h1,h2⟩:=hs;by_cases hc:c=0
 ·subst hc;obtain⟨k,s,m,ks,e,h⟩:=h2 rfl;by_cases hz:cT fx=0
  ·exact⟨0,.inr ⟨rfl,k,s,m,ks,e,h,h1,hz⟩⟩
  ·refine⟨cT fx,.inl ⟨hz,fun b n=>?_⟩⟩;rw[Mr,h1,ae];simp only;rw[mo,FQ n hf,ae];simp only[ai,zY,aJ];rw[cZ hz];rfl
 ·refine⟨c,.inl ⟨hc,fun b n=>?_⟩⟩;rw[Mr,h1,ae];simp only;rw[cZ hc];rfl
def wT(lam:Tx->Nat)(c:PC):Nat->Nat
 |0=>0
 |i+1=>wT lam c i+6+lam (dC c i)
def cw(lam:Tx->Nat):F->Nat
 |.nil=>0
 |.cons k t _ ks r=>oc k t+lam t+cw lam ks+cw lam r
theorem zoq(h:aX c i k=true):∃hi:i<c.l.length,c.l[i].1=k:=by
 by_cases hl:i<c.l.length
 ·rw[Xk (zh hl)] at h
  grind
 ·rw[qxy om] at h;cases h
theorem H5{s:Tx}(h:eQ c i s=.ok j):j=i+1:=by
 unfold eQ at h;cases hk:cy c i [s] with
 |true=>grind
 |false=>rw[hk] at h;cases h
section
variable {lam:Tx→Nat} {c:PC}
theorem ia(i:Nat):wT lam c (i+1)=wT lam c i+6+lam (dC c i):=rfl
theorem wT_2(i:Nat):wT lam c (i+2)=wT lam c (i+1)+6+lam (dC c (i+1)):=rfl
theorem wT_3(i:Nat):wT lam c (i+2+1)=wT lam c (i+2)+6+lam (dC c (i+2)):=rfl
theorem Yj{x:Tx×Nat}(h:uf c i=.ok x):wT lam c i+6+lam x.1<=wT lam c x.2:=by
 unfold uf at h;have w1:=ia (lam:=lam) (c:=c) i;cases h1:aX c i 1 with
 |true=>grind
 |false=>
  rw[h1] at h;cases h2:(cy c i [kL]&&aX c (i+1) 5) with
  |true=>
   rw[h2] at h;have⟨j,e1,e2⟩:=iE h;obtain rfl:=H5 e1;cases e2;have w2:=wT_2 (lam:=lam) (c:=c) i;have w3:=wT_3 (lam:=lam) (c:=c) i
   grind
  |false=>grind
def PW(lam:Tx->Nat)(c:PC)(i:Nat)(x:List ND×Nat):Prop:=∃k t n ks,x.1=(tr k t n ks).flat/\oc k t+lam t+cw lam ks+wT lam c i<=wT lam c x.2
theorem Yk(hk:20<=k)(h:wT lam c i+6+lam t<=wT lam c j):PW lam c i ((tr k t n .nil).flat,j):=⟨k,t,n,.nil,rfl,by rw[TQ t hk];show 6+lam t+0+_<=wT lam c j;omega⟩
variable {self:PT}
theorem zac(h0:lam []=0)(hs:∀i x,self i=.ok x->PW lam c i x)(h:uL c self i=.ok x):PW lam c i x:=by
 have w1:=ia (lam:=lam) (c:=c) i;unfold uL at h;cases h1:cy c i [kM] with
 |true=>rw[h1] at h;cases h;exact Yk dc om
 |false=>
  rw[h1] at h;cases h2:aX c i 3 with
  |true=>rw[h2] at h;cases h;exact Yk (k:=23) (t:=[]) (n:=num c i) dc om
  |false=>
   rw[h2] at h;cases h3:aX c i 2 with
   |true=>rw[h3] at h;cases h;exact Yk dc om
   |false=>
    rw[h3] at h;cases h4:(cy c i [kL]&&!aX c (i+1) 5) with
    |true=>rw[h4] at h;have⟨p,e1,e2⟩:=iE h;have⟨j,e3,e4⟩:=iE e2;cases e4;have⟨k,t,n,ks,a1,a2⟩:=hs _ _ e1;obtain rfl:=H5 e3;have w2:=ia (lam:=lam) (c:=c) p.2;exact⟨k,t,n,ks,a1,by show _<=wT lam c (p.2+1);omega⟩
    |false=>rw[h4] at h;have⟨s,e1,e2⟩:=iE h;cases e2;exact Yk dc (Yj e1)
theorem zhp(h0:lam []=0)(hs:∀i x,self i=.ok x->PW lam c i x):∀(f i:Nat) (acc:List (List ND)) (x:List (List ND)×Nat),AV c self f i acc=.ok x->∃r,x.1=acc++kE r/\cw lam r+wT lam c i<=wT lam c x.2
 |0,i,acc,x,h=>by cases h;exact⟨.nil,(zv _).symm,by show 0+_<=wT lam c i;omega⟩
 |f+1,i,acc,x,h=>by
  unfold AV at h;cases h1:(aX c i 3||(aX c i 2||(aX c i 1||cy c i [kM,kL]))) with
  |false=>rw[h1] at h;cases h;exact⟨.nil,(zv _).symm,by show 0+_<=wT lam c i;omega⟩
  |true=>rw[h1] at h;have⟨p,e1,e2⟩:=iE h;have⟨k,t,n,ks,a1,a2⟩:=zac h0 hs e1;have⟨r,b1,b2⟩:=zhp h0 hs f _ _ _ e2;exact⟨.cons k t n ks r,by rw[b1,a1,zk];rfl,by show oc k t+lam t+cw lam ks+cw lam r+_<=_;omega⟩
theorem zqh(h0:lam []=0)(hs:∀i x,self i=.ok x->PW lam c i x)(h:nv c self i=.ok x):PW lam c i x:=by
 unfold nv at h;cases h1:aX c i 2 with
 |true=>rw[h1] at h;have⟨p,e1,e2⟩:=iE h;cases e2;have⟨r,b1,b2⟩:=zhp h0 hs _ _ _ _ e1;have w1:=ia (lam:=lam) (c:=c) i;exact⟨24,dC c i,0,r,by rw[b1];exact vZ _ _ _,by rw[TQ _ dc];show _<=wT lam c p.2;omega⟩
 |false=>rw[h1] at h;exact zac h0 hs h
theorem zhq(h0:lam []=0):∀(d i:Nat) (x:List ND×Nat),dU c d i=.ok x->PW lam c i x
 |0,i,x,h=>by cases h
 |d+1,i,x,h=>zqh h0 (zhq h0 d) h
def XW(lam:Tx->Nat)(c:PC)(i:Nat)(x:List ND×Nat):Prop:=∃k t n ks,x.1=(tr k t n ks).flat/\oc k t+lam t+cw lam ks+4+wT lam c i<=wT lam c x.2
variable {aT:PT}
theorem M4{s:Tx}(hs:∀i x,self i=.ok x->XW lam c i x)(h:fO c self i s=.ok x):XW lam c (i+1) x:=by have⟨j,e1,e2⟩:=iE h;obtain rfl:=H5 e1;exact hs _ _ e2
theorem zhr(hs:∀i x,self i=.ok x->XW lam c i x)(hp:∀i x,aT i=.ok x->PW lam c i x):∀(f i:Nat) (acc:List (List ND)) (x:List (List ND)×Nat),y8 c self aT f i acc=.ok x->∃r,x.1=acc++kE r/\cw lam r+wT lam c i<=wT lam c x.2
 |0,i,acc,x,h=>by cases h;exact⟨.nil,(zv _).symm,by show 0+_<=wT lam c i;omega⟩
 |f+1,i,acc,x,h=>by
  have⟨p,e1,e2⟩:=iE h;have⟨b,e3,e4⟩:=iE e2;have⟨k,t,n,ks,a1,a2⟩:=hp _ _ e1;have⟨k',t',n',cm,b1,b2⟩:=M4 hs e3;have w1:=ia (lam:=lam) (c:=c) p.2;have w2:=ia (lam:=lam) (c:=c) b.2;cases h1:cy c b.2 [fA] with
  |true=>rw[h1] at e4;have⟨r,d1,d2⟩:=zhr hs hp f _ _ _ e4;refine⟨.cons k t n ks (.cons k' t' n' cm r),by rw[d1,a1,b1,zk];rfl,?_⟩;show oc k t+lam t+cw lam ks+(oc k' t'+lam t'+cw lam cm+cw lam r)+_<=_;omega
  |false=>rw[h1] at e4;cases e4;refine⟨.cons k t n ks (.cons k' t' n' cm .nil),by rw[a1,b1];rfl,?_⟩;show oc k t+lam t+cw lam ks+(oc k' t'+lam t'+cw lam cm+0)+_<=wT lam c b.2;omega
theorem Ua(h:oc k t+lam t+4+wT lam c i<=wT lam c j):XW lam c i ((tr k t n .nil).flat,j):=⟨k,t,n,.nil,rfl,by show oc k t+lam t+0+4+_<=wT lam c j;omega⟩
theorem zlv(h:bX t=false):oc 3 t=2:=by show(bif bX t then 4 else 2)=2;rw[h];rfl
theorem zhs(t:Tx):oc 3 t<=4:=by show(bif bX t then 4 else 2)<=4;cases bX t<;>decide
theorem zor(hc:lam []=0)(hN:∀t,t∈c.l->t.1=1->bX t.2.1=false)(hs:∀i x,self i=.ok x->XW lam c i x)(hp:∀i x,aT i=.ok x->PW lam c i x)(h:rE c self aT i=.ok x):XW lam c i x:=by
 have w1:=ia (lam:=lam) (c:=c) i;unfold rE at h;cases h0:j0 c i with
 |false=>rw[h0] at h;cases h
 |true=>
  rw[h0] at h;cases h1:aX c i 3 with
  |true=>rw[h1] at h;cases h;exact Ua (t:=[]) (n:=num c i) (by rw[hc];show 2+0+4+_<=_;omega)
  |false=>
  rw[h1] at h;cases h2:aX c i 4 with
  |true=>rw[h2] at h;cases h;exact Ua (by show 2+_+4+_<=_;omega)
  |false=>
  rw[h2] at h;cases h3:aX c i 1 with
  |true=>
   rw[h3] at h;cases h;refine Ua ?_;have⟨hi,hk⟩:=zoq h3;have ho:oc 3 (dC c i)=2:=by rw[z7r (zh hi)];exact zlv (hN _ (jx hi) hk)
   omega
  |false=>
  rw[h3] at h;cases h4:aX c i 2 with
  |true=>rw[h4] at h;cases h;exact Ua (by show 2+_+4+_<=_;omega)
  |false=>
  rw[h4] at h;cases h5:decide (dC c i=dB) with
  |true=>
   rw[h5] at h;have⟨y,e1,e2⟩:=iE h;have⟨j,e3,e4⟩:=iE e2;have⟨r,e5,e6⟩:=iE e4;have⟨j2,e7,e8⟩:=iE e6;cases e8;have⟨k,t,n,ks,a1,a2⟩:=hs _ _ e1;obtain rfl:=H5 e3;have⟨q,d1,d2⟩:=zhr hs hp _ _ _ _ e5;obtain rfl:=H5 e7;have e:nd 10 [] r.1=(tr 10 [] 0 (.cons k t n ks q)).flat:=by rw[d1,a1];exact vZ 10 [] (.cons k t n ks q)
   have w2:=ia (lam:=lam) (c:=c) y.2;have w3:=ia (lam:=lam) (c:=c) r.2;exact⟨10,[],0,.cons k t n ks q,e,by rw[hc];show 6+0+(oc k t+lam t+cw lam ks+cw lam q)+4+_<=wT lam c (r.2+1);omega⟩
  |false=>
  rw[h5] at h;cases h6:aX c (i+1) 5 with
  |true=>rw[h6] at h;have⟨j,e1,e2⟩:=iE h;cases e2;obtain rfl:=H5 e1;have:=zhs (dC c (i+1));have w2:=wT_2 (lam:=lam) (c:=c) i;have w3:=wT_3 (lam:=lam) (c:=c) i;exact Ua om
  |false=>
  rw[h6] at h;have⟨y,e1,e2⟩:=iE h;have⟨j,e3,e4⟩:=iE e2;cases e4;have⟨k,t,n,ks,a1,a2⟩:=hs _ _ e1;obtain rfl:=H5 e3;have w2:=ia (lam:=lam) (c:=c) y.2;exact⟨k,t,n,ks,a1,by show _<=wT lam c (y.2+1);omega⟩
theorem zht(hc:lam []=0)(ha:∀i x,rE c self aT i=.ok x->XW lam c i x)(i0:Nat):∀(f i:Nat) (l:List ND) (x:List ND×Nat),XW lam c i0 (l,i)->CN c self aT f i l=.ok x->XW lam c i0 x
 |0,i,l,x,hl,h=>by injection h with h;subst h;exact hl
 |f+1,i,l,x,hl,h=>by
  unfold CN at h;cases h0:j0 c i with
  |false=>grind
  |true=>rw[h0] at h;have⟨m,e1,e2⟩:=iE h;refine zht hc ha i0 f _ _ _ ?_ e2;have⟨k,t,n,ks,a1,a2⟩:=hl;have⟨k',t',n',cm,b1,b2⟩:=ha _ _ e1;have a1:l=(tr k t n ks).flat:=a1;have a2:oc k t+lam t+cw lam ks+4+wT lam c i0<=wT lam c i:=a2;exact⟨6,[],0,_,by rw[a1,b1];exact(C5 6 [] k t n ks k' t' n' cm).symm,by rw[hc];show 3+0+(oc k t+lam t+cw lam ks+(oc k' t'+lam t'+cw lam cm+0))+4+_<=wT lam c m.2;omega⟩
theorem zqi(hc:lam []=0)(ha:∀i x,rE c self aT i=.ok x->XW lam c i x)(h:mB c self aT i=.ok x):XW lam c i x:=by have⟨a,e1,e2⟩:=iE h;exact zht hc ha i _ _ _ _ (ha _ _ e1) e2
end
section
variable {lam:Tx→Nat} {c:PC} {fx:List af} {self aT:PT}
structure C6 (lam:Tx->Nat) (c:PC) (i0 i:Nat) (r:Row) (se:List (Nat×Nat)):Prop where
 l1:se.length=r.ops.length+1
 l2:r.apps.length=r.ops.length+1
 a:∀(j:Nat) (p:Nat×Nat),se[j]?=some p->∃k t n ks,r.apps[j]?=some (tr k t n ks).flat/\oc k t+lam t+cw lam ks+4+p.1<=p.2
 s:∀(j:Nat) (p q:Nat×Nat) (o:Tx),se[j]?=some p->se[j+1]?=some q->r.ops[j]?=some o->p.2+6+lam o<=q.1
 f:∀p:Nat×Nat,se[0]?=some p->wT lam c i0<=p.1
 e:∀p:Nat×Nat,se[r.ops.length]?=some p->p.2<=wT lam c i
theorem zos(ha:∀i x,mB c self aT i=.ok x->XW lam c i x)(i0:Nat):∀(f i:Nat) (r:Row) (se:List (Nat×Nat)) (x:Row×Nat),C6 lam c i0 i r se->kN c self aT f i r=.ok x->∃se',C6 lam c i0 x.2 x.1 se'
 |0,i,r,se,x,hr,h=>by injection h with h;subst h;exact⟨se,hr⟩
 |f+1,i,r,se,x,hr,h=>by
  unfold kN at h;cases h0:aX c i 5 with
  |false=>grind
  |true=>
   rw[h0] at h;have⟨y,e1,e2⟩:=iE h;have w1:=ia (lam:=lam) (c:=c) i;have⟨k,t,n,ks,a1,a2⟩:=ha _ _ e1;refine zos ha i0 f _ _ (se++[(wT lam c (i+1),wT lam c y.2)]) _ ⟨by simp[List.length_append,hr.l1],by simp only[zd,zB,hr.l2],fun j p hp=>?_,fun j p q o hp hq ho=>?_,fun p hp=>?_,fun p hp=>?_⟩ e2
   ·rcases Za j se.length with hj|hj|hj
    ·rw[jE hj] at hp;have⟨k,t,n,ks,b1,b2⟩:=hr.a j p hp
     grind
    ·subst hj;rw[zM (zm _),jy] at hp;cases hp;refine⟨k,t,n,ks,?_,a2⟩;rw[hr.l1,<-hr.l2,zM (zm _),jy,a1];rfl
    grind
   ·have hj:j+1<se.length+1:=by grind
    rw[jE om] at hp;by_cases h1:j+1<se.length
    ·rw[jE h1] at hq;have hc:j<r.ops.length:=by have:=hr.l1;omega
     rw[jE hc] at ho;exact hr.s j p q o hp hq ho
    ·have he:j+1=se.length:=om
     rw[he,zM (zm _),jy] at hq;cases hq;have hf:j=r.ops.length:=by have:=hr.l1;omega
     subst hf;have:=hr.e p hp
     grind
   ·rw[jE (by rw[hr.l1];omega)] at hp;exact hr.f p hp
   ·have hg:(r.ops++[dC c i]).length=se.length:=by rw[zd,zB,hr.l1]
    grind
theorem zot(hz:cT fx=0){ops:List Tx}{x:List Int}(h:ox fx ops=some x):∃fs,uK fx ops=some fs/\Fx.B (gV fs) (eE fs) 0 ops.length x:=by
 unfold ox at h;split at h
 ·cases h
 ·cases hf:uK fx ops with
  |none=>rw[hf] at h;cases h
  |some fs=>
   rw[hf] at h;have⟨f1,f2⟩:=Xf hf;have⟨_,hr,_⟩:=Hv hz;have:=Fx.mA (lv:=gV fs) (sd:=eE fs) (n:=fs.length) (Xg hr f2);have h:Fx.gH (gV fs) (eE fs) fs.length=some x:=h
   grind
theorem zqj(he:lam []=0){i0:Nat}{r:Row}{se:List (Nat×Nat)}(hr:C6 lam c i0 i r se):∀{a b:Nat} {x:List Int},Fx.B (gV fs) (eE fs) a b x->b<=r.ops.length->∀(g:Nat) (post:List Int),x.length<=g->∃k t n ks pa pb,nR r.apps r.ops g (x++post)=((tr k t n ks).flat,post)/\se[a]?=some pa/\se[b]?=some pb/\oc k t+lam t+cw lam ks+4+pa.1<=pb.2:=by
 intro a b x hB
 induction hB with
 |nil a=>intro ha g post hg;obtain⟨g,rfl⟩:∃e,g=e+1:=⟨g-1,by have:1<=g:=hg;omega⟩;obtain⟨p,hp⟩:∃p,se[a]?=some p:=⟨_,zh (by rw[hr.l1];omega)⟩;have⟨k,t,n,ks,h1,h2⟩:=hr.a a _ hp;refine⟨k,t,n,ks,_,_,?_,hp,hp,h2⟩;show(if(-1-(a:Int))<0 then((r.apps[(-1-(-1-(a:Int))).toNat]?).getD [],post) else _)=_;rw[zu om,show(-1-(-1-(a:Int))).toNat=a by omega,h1];rfl
 |node a q b x y h1 h2 h3 h4 hx hy kq kC=>
  intro hb g post hg;rw[zn,zd] at hg;obtain⟨g,rfl⟩:∃e,g=e+1:=⟨g-1,by omega⟩;have⟨k,t,n,ks,pa,pq,b1,b2,b3,b4⟩:=kq om g (y++post) om;have⟨k',t',n',cm,pr,pb,c1,c2,c3,c4⟩:=kC om g post om;obtain⟨op,d1⟩:∃op,r.ops[q]?=some op:=⟨_,zh om⟩;have hc:=hr.s q pq pr op b3 c2 d1;refine⟨6,[],0,.cons 6 [] 0 (.cons 3 op 0 .nil (.cons k t n ks .nil)) (.cons k' t' n' cm .nil),pa,pb,?_,b2,c3,?_⟩
  ·have e:(q:Int)::(x++y)++post=(q:Int)::(x++(y++post)):=by rw[jL,zk]
   rw[e];show(if(q:Int)<0 then _ else _)=_;rw[zj om,b1];simp only;rw[c1,jq,d1];show(nd 6 [] [nd 6 [] [nd 3 op [],(tr k t n ks).flat],(tr k' t' n' cm).flat],post)=_;rw[nd0,<-C5,<-C5]
  ·have:=zhs op;show 3+lam []+(3+lam []+(oc 3 op+lam op+0+(oc k t+lam t+cw lam ks+0))+(oc k' t'+lam t'+cw lam cm+0))+4+_<=_;omega
theorem zqk(hf:lam []=0)(hz:cT fx=0)(hc:C4 c fx)(ha:∀i x,mB c self aT i=.ok x->XW lam c i x)(h:ug c self aT i=.ok x):XW lam c i x:=by
 have⟨y,e1,e2⟩:=iE h;have⟨r,e3,e4⟩:=iE e2;have⟨k,t,n,ks,a1,a2⟩:=ha _ _ e1;have h0:C6 lam c i y.2 ⟨[y.1],[],[]⟩ [(wT lam c i,wT lam c y.2)]:={
  l1:=rfl
  l2:=rfl
  a:=fun j p hp=>by
   cases j with
   |zero=>grind
   |succ j=>cases hp
  s:=fun j p q _ _ hq _=>by cases hq
  f:=fun p hp=>by grind
  e:=fun p hp=>by injection hp with hp;subst hp;exact zm _}
 have⟨se,hr⟩:=zos ha i _ _ _ _ _ h0 e3;have⟨r,j⟩:=r;have hr:C6 lam c i j r se:=hr;have fin:∀{k:Int} {t:Tx} {n:Int} {ks:F} {pa pb:Nat×Nat},se[0]?=some pa->se[r.ops.length]?=some pb->oc k t+lam t+cw lam ks+4+pa.1<=pb.2->x=((tr k t n ks).flat,j)->XW lam c i x:=fun {k t n ks pa pb} p1 p2 p3 p5=>by subst p5;have:=hr.f _ p1;have:=hr.e _ p2;exact⟨k,t,n,ks,rfl,by show _<=wT lam c j;omega⟩
 unfold qP at e4;by_cases h0:r.ops=[]
 ·rw[zu h0] at e4;obtain⟨p,hp⟩:∃p,se[0]?=some p:=⟨_,zh (by rw[hr.l1];omega)⟩;have⟨k,t,n,ks,h1,h2⟩:=hr.a 0 _ hp
  grind
 ·rw[zj h0] at e4;cases hn:CO c r.ops r.at_ with
  |some p=>rw[hn] at e4;cases e4
  |none=>
   rw[hn] at e4;cases he:c.cl r.ops with
   |none=>rw[he] at e4;cases e4
   |some z=>
    rw[he] at e4;rw[hc.l] at he;have⟨fs,f1,f2⟩:=zot hz he;have⟨k,t,n,ks,pa,pb,b1,b2,b3,b4⟩:=zqj hf hr f2 (zm _) z.length [] (zm _)
    grind
theorem zad{s:Tx}{ks:F}(kk:Int)(hk:kk=5\/kk=11)(h:oc k t+lam t+cw lam ks+4+wT lam c i'<=wT lam c j)(e:wT lam c i+6+lam s<=wT lam c i'):XW lam c i (nd kk s [(tr k t n ks).flat],j):=by
 have ho:oc kk s=6:=by rcases hk with rfl|rfl<;>rfl
 exact⟨kk,s,0,_,(za9 kk s k t n ks).symm,by rw[ho];show 6+lam s+(oc k t+lam t+cw lam ks+0)+4+_<=wT lam c j;omega⟩
theorem zae{s:Tx}{ks:F}{k':Int}{t':Tx}{n':Int}{cm:F}(kk:Int)(hk:kk=7\/kk=8\/kk=12){j':Nat}(h:oc k t+lam t+cw lam ks+4+wT lam c i'<=wT lam c j')(h':oc k' t'+lam t'+cw lam cm+4+wT lam c (j'+1)<=wT lam c j)(e:wT lam c i+6+lam s<=wT lam c i'):XW lam c i (nd kk s [(tr k t n ks).flat,(tr k' t' n' cm).flat],j):=by
 have ho:oc kk s=6:=by rcases hk with rfl|rfl|rfl<;>rfl
 have w1:=ia (lam:=lam) (c:=c) j';exact⟨kk,s,0,_,(C5 kk s k t n ks k' t' n' cm).symm,by rw[ho];show 6+lam s+(oc k t+lam t+cw lam ks+(oc k' t'+lam t'+cw lam cm+0))+4+_<=wT lam c j;omega⟩
theorem zou(hc:lam []=0)(hr:∀i x,ug c self aT i=.ok x->XW lam c i x)(hs:∀i x,self i=.ok x->XW lam c i x)(h:uh c self aT i=.ok x):XW lam c i x:=by
 have w1:=ia (lam:=lam) (c:=c) i;unfold uh at h;cases h0:cy c i [iX,cN,rC,dA,kv] with
 |false=>rw[h0] at h;exact hr _ _ h
 |true=>
 rw[h0] at h;cases h1:decide (dC c i=iX) with
 |true=>rw[h1] at h;have⟨s,e1,e2⟩:=iE h;have⟨y,e3,e4⟩:=iE e2;cases e4;have b1:=Yj (lam:=lam) e1;have⟨k,t,n,ks,a1,a2⟩:=M4 hs e3;have w2:=ia (lam:=lam) (c:=c) s.2;rw[a1];exact zad 5 (.inl rfl) a2 om
 |false=>
 rw[h1,zE] at h;cases h2:decide (dC c i=cN) with
 |true=>
  rw[h2] at h;obtain⟨s,e1,e2⟩:=iE h;obtain⟨y,e3,e4⟩:=iE e2;obtain⟨z,e5,e6⟩:=iE e4;cases e6;have b1:=Yj (lam:=lam) e1;have⟨k,t,n,ks,a1,a2⟩:=M4 hs e3;have⟨k',t',n',cm,Ub,Yl⟩:=M4 hs e5;have w2:=ia (lam:=lam) (c:=c) s.2;have w3:=wT_2 (lam:=lam) (c:=c) i;rw[a1,Ub];cases h3:cy c (i+1) [eF] with
  |true=>rw[h3] at b1;have b1:wT lam c (i+2)+6+lam s.1<=wT lam c s.2:=b1;exact zae 8 (.inr (.inl rfl)) a2 Yl om
  |false=>rw[h3] at b1;have b1:wT lam c (i+1)+6+lam s.1<=wT lam c s.2:=b1;exact zae 7 (.inl rfl) a2 Yl om
 |false=>
 rw[h2,zE] at h;cases h3:decide (dC c i=rC) with
 |true=>rw[h3] at h;obtain⟨x1,e1,e2⟩:=iE h;obtain⟨y,e3,e4⟩:=iE e2;have⟨z,e5,e6⟩:=iE e4;cases e6;have⟨k,t,n,ks,a1,a2⟩:=hs _ _ e1;have⟨k',t',n',cm,Ub,Yl⟩:=M4 hs e3;have⟨k2,t2,n2,ks2,b1,b2⟩:=M4 hs e5;have w2:=ia (lam:=lam) (c:=c) x1.2;have w3:=ia (lam:=lam) (c:=c) y.2;rw[a1,Ub,b1];exact⟨9,[],0,.cons k t n ks (.cons k' t' n' cm (.cons k2 t2 n2 ks2 .nil)),vZ 9 [] (.cons k t n ks (.cons k' t' n' cm (.cons k2 t2 n2 ks2 .nil))),by rw[hc];show 6+0+(oc k t+lam t+cw lam ks+(oc k' t'+lam t'+cw lam cm+(oc k2 t2+lam t2+cw lam ks2+0)))+4+_<=wT lam c z.2;omega⟩
 |false=>
 rw[h3] at h;cases h4:decide (dC c i=dA) with
 |true=>rw[h4] at h;have⟨x1,e1,e2⟩:=iE h;cases e2;have⟨k,t,n,ks,a1,a2⟩:=hs _ _ e1;rw[a1];exact zad 11 (.inr rfl) a2 om
 |false=>rw[h4,zE] at h;obtain⟨x1,e1,e2⟩:=iE h;have⟨j,e3,e4⟩:=iE e2;obtain⟨s,e5,e6⟩:=iE e4;obtain⟨y,e7,e8⟩:=iE e6;cases e8;obtain⟨k,t,n,ks,a1,a2⟩:=hs _ _ e1;obtain rfl:=H5 e3;have b1:=Yj (lam:=lam) e5;have⟨k',t',n',cm,Ub,Yl⟩:=M4 hs e7;have w2:=ia (lam:=lam) (c:=c) x1.2;have w3:=ia (lam:=lam) (c:=c) s.2;rw[a1,Ub];have ho:oc 12 s.1=6:=rfl;exact⟨12,s.1,0,_,(C5 12 s.1 k t n ks k' t' n' cm).symm,by rw[ho];show 6+lam s.1+(oc k t+lam t+cw lam ks+(oc k' t'+lam t'+cw lam cm+0))+4+_<=wT lam c y.2;omega⟩
theorem zhu(he:lam []=0)(hz:cT fx=0)(hc:C4 c fx)(hN:∀t,t∈c.l->t.1=1->bX t.2.1=false):∀(d i:Nat) (x:List ND×Nat),da c d i=.ok x->XW lam c i x
 |0,i,x,h=>by cases h
 |d+1,i,x,h=>by have ih:=zhu he hz hc hN d;have ha:=fun i x h=>zqi he (fun i x h=>zor he hN ih (zhq he d) h) (i:=i) (x:=x) h;exact zou he (fun i x h=>zqk he hz hc ha h) ih h
def lw(lam:Tx->Nat)(l:List Tk):Nat:=(l.map fun t=>6+lam t.2.1).sum
theorem zov:∀i,i<=c.l.length->wT lam c i=lw lam (c.l.take i)
 |0,_=>rfl
 |i+1,h=>by
  have hi:=h;rw[ia,zov i om,List.take_succ_eq_append_getElem hi,z7r (zh hi)];unfold lw
  grind
theorem zow{Q:Tx->Prop}{N:Int->Prop}(H:po c E Q N)(he:lam []=0)(hz:cT fx=0)(hc:C4 c fx)(hN:∀t,t∈c.l->t.1=1->bX t.2.1=false)(h:pn c=.ok l):∃k t n ks,l=(tr k t n ks).flat/\oc k t+lam t+cw lam ks+4<=lw lam c.l:=by
 have⟨x,e1,e2⟩:=iE h;have⟨k,t,n,ks,a1,a2⟩:=zhu he hz hc hN _ _ _ e1;by_cases hl:x.2<c.l.length
 ·grind
 ·rw[zj hl] at e2;cases e2;have:=Pz.lM H 100 0;rw[e1] at this;have:=this.2.1;have e:x.2=c.l.length:=om
  rw[e,zov _ (zm _)] at a2
  grind
end
theorem Uc:∀(n:Nat) (s b:Tx) (i:Nat),s.length<=n->(qt s b i).2≠0->(qt s b i).1.length+i<=b.length+(qt s b i).2
 |_,[],b,i,_=>fun h=>absurd rfl h
 |0,c::l,b,i,h=>by simp at h
 |n+1,c::l,b,i,h=>by
  have hl:l.length<=n:=by simp_all
  unfold qt;split
  ·intro _;show b.length+i<=b.length+(i+1);omega
  split
  ·exact fun h=>absurd rfl h
  split
  ·intro h;have:=Uc n l (b++[c]) (i+1) hl h;rw[zd,zB] at this;omega
  cases l with
  |nil=>exact fun h=>absurd rfl h
  |cons d l2=>
   simp[List.length_cons] at hl ⊢;split
   ·intro h;have:=Uc n l2 (b++[d]) (i+2) om h;rw[zd,zB] at this;omega
   split
   ·intro h;have:=Uc n l2 (b++[10]) (i+2) om h;rw[zd,zB] at this;omega
   split
   ·match l2,hl with
    |[],_=>exact fun h=>absurd rfl h
    |[x],_=>exact fun h=>absurd rfl h
    |x::y::l3,hl=>
     simp[List.length_cons] at hl ⊢;split
     ·exact fun h=>absurd rfl h
     ·intro h;have:=Uc n l3 (b++[16*cL x+cL y]) (i+4) om h;rw[zd,zB] at this;omega
   ·exact fun h=>absurd rfl h
def Gj(t:T3)(n:Nat):Prop:=(t.2.1.length<=n/\1<=n)/\(t.1=1->bX t.2.1=false)/\(t.1=2->fb t.2.1=true)
theorem z1v(p:Int->Bool):∀s:Tx,(s.take (eB p s)).all p=true
 |[]=>rfl
 |b::l=>by
  unfold eB;cases h:p b with
  |true=>rw[zK,Jo,Jh,h,z1v p l];rfl
  |false=>rfl
theorem zfg{b:Int}(h:qQ b=true)(l:Tx):bX (b::l)=false:=by
 have hb:b∉qG:=by unfold qQ at h;simp[Bool.and_eq_true,decide_eq_true_eq] at h;unfold qG;simp[List.mem_cons,List.not_mem_nil,or_false];omega
 unfold bX qH
 grind
theorem Ud{n:Nat}{s:Tx}(h1:1<=n)(h2:n<=s.length)(hk:k=1->bX (s.take n)=false)(hc:k=2->ik (s.take n)=false->fb (s.take n)=true):Gj (qR ik n k s).1 n:=by
 have hl:(s.take n).length=n:=by rw[jv];omega
 refine⟨⟨Nat.le_of_eq hl,h1⟩,fun e=>?_,fun e=>?_⟩
 ·have e:(bif ik (s.take n) then 6 else k)=1:=e;cases hq:ik (s.take n) with
  |true=>rw[hq] at e;cases e
  |false=>rw[hq] at e;exact hk e
 ·have e:(bif ik (s.take n) then 6 else k)=2:=e;cases hq:ik (s.take n) with
  |true=>rw[hq] at e;cases e
  |false=>rw[hq] at e;exact hc e hq
theorem zql(c:Int)(l:Tx):(gJ fy dV ik ky c l).2.2=0->Gj (gJ fy dV ik ky c l).1 (gJ fy dV ik ky c l).2.1:=by
 have sp1:=AW fy (c::l);have sp2:=AW dV (c::l);have hl:(c::l).length=l.length+1:=rfl;have bad:∀e:Int,e≠0->(ui e).2.2=0->Gj (ui e).1 (ui e).2.1:=fun e h h2=>absurd h2 h;unfold gJ;cases h1:qQ c with
 |true=>
  have:=MF (p:=fy) (l:=l) (Hz.ru c (.inl h1));refine fun _=>Ud om sp1 (fun _=>?_) nofun
  obtain⟨m,hm⟩:∃m,eB fy (c::l)=m+1:=⟨eB fy (c::l)-1,by omega⟩;rw[hm];exact zfg h1 _
 |false=>
  cases h2:y9 c with
  |true=>
   have:=MF (p:=fy) (l:=l) (Hz.ru c (.inr h2));refine fun _=>Ud om sp1 nofun fun _ hq=>?_
   have ha:=z1v fy (c::l);obtain⟨m,hm⟩:∃m,eB fy (c::l)=m+1:=⟨eB fy (c::l)-1,by omega⟩;rw[hm,Jo] at ha hq ⊢;have h2:w9 c=true:=h2;unfold fb AS;rw[ha,show z77 w9 (c::l.take m)=w9 c from rfl,h2];unfold ik at hq;rw[hq];rfl
  |false=>
   cases h3:dV c with
   |true=>have:=MF (p:=dV) (l:=l) h3;exact fun _=>Ud om sp2 nofun fun e=>by cases e
   |false=>
    cases (decide (c=40)||(decide (c=41)||decide (c=95))) with
    |true=>exact fun _=>Ud (zm _) om (fun e=>by cases e) nofun
    |false=>
     cases h5:(decide (c=59)&&decide (l.head?=some 59)) with
     |true=>
      refine fun _=>Ud dc ?_ nofun fun e=>by cases e
      cases l with
      |nil=>rw[ze] at h5;cases h5.2
      |cons _ _=>simp only[zn];omega
     |false=>
      cases (iw c||decide (c=126)) with
      |true=>
       cases decide ((ky ((c::l).take (1+eB iw l))).2=0) with
       |true=>exact fun _=>⟨⟨zC _,by show 1<=1+_;omega⟩,nofun,fun e=>by cases e⟩
       |false=>exact bad 31 dc
      |false=>
       cases decide (c=34) with
       |true=>
        cases h8:(decide ((qt l [] 1).2=0)||decide (200<(qt l [] 1).1.length)) with
        |true=>exact bad 32 dc
        |false=>rw[jc,jg] at h8;have:=Uc l.length l [] 1 (zm _) h8.1;have e0:([]:Tx).length=0:=rfl;exact fun _=>⟨⟨by show(qt l [] 1).1.length<=(qt l [] 1).2;omega,by show 1<=(qt l [] 1).2;omega⟩,nofun,fun e=>by cases e⟩
       |false=>exact bad 30 dc
def Eb(l:List Tk):Nat:=(l.map fun t=>t.2.1.length).sum
theorem zox:∀(f:Nat) (s:Tx) (a:Int) (l:List Tk),fB f s a=.ok l->Eb l<=s.length/\∀t,t∈l->t.2.1.length<=s.length/\(t.1=1->bX t.2.1=false)/\(t.1=2->fb t.2.1=true)
 |0,s,a,l,h=>by cases h;exact⟨zC _,fun t ht=>by cases ht⟩
 |f+1,s,a,l,h=>by
  unfold fB kx at h;by_cases h0:s.drop (Pz.blank false s)=[]
  ·rw[zu h0] at h;cases h;exact⟨zC _,fun t ht=>by cases ht⟩
  ·rw[zj h0] at h;by_cases he:(one fy dV ik ky (s.drop (Pz.blank false s))).2.2=0
   ·rw[zj (fun h=>h he)] at h;have⟨l',e1,e2⟩:=iE h;cases e2;have hc:=Xl (keyw:=ik) (rd:=ky) Hz (s.drop (Pz.blank false s)) he;have hd:(s.drop (Pz.blank false s)).length=s.length-Pz.blank false s:=jf;have⟨g1,g2⟩:=zox f _ _ _ e1;rw[jf] at g1 g2;have ho:Gj (one fy dV ik ky (s.drop (Pz.blank false s))).1 (one fy dV ik ky (s.drop (Pz.blank false s))).2.1:=by
     revert he;cases s.drop (Pz.blank false s) with
     |nil=>exact fun e=>absurd e (show ¬(30:Int)=0 by decide)
     |cons c l=>exact zql c l
    generalize one fy dV ik ky (s.drop (Pz.blank false s))=r at*
    have⟨⟨w1,w0⟩,w2,w3⟩:=ho;refine⟨?_,fun t ht=>?_⟩
    ·unfold Eb at g1 ⊢;rw[zX,jW];show r.1.2.1.length+_<=_;omega
    ·rcases zA.1 ht with rfl|ht
     ·exact⟨by show r.1.2.1.length<=_;omega,w2,w3⟩
     grind
   grind
theorem zaf:∀f:F,uv f<=f.dep
 |.nil=>zm _
 |.cons _ _ _ ks r=>by have h1:=zaf ks;have h2:=zaf r;show max (if ks.aq=0 then 0 else uv ks+1) (uv r)<=max (ks.dep+1) r.dep;split<;>omega
def Ym:List Nn->F->Prop
 |[],_=>True
 |_::_,.nil=>False
 |a::ns,.cons _ _ _ ks r=>a.i<=ks.dep/\(a.b=0\/a.b+1<=ks.dep)/\a.p<=ks.dep+1/\Ym ns r
theorem zag:∀{ns:List Nn} {f:F},Ym ns f->v7 ns<=f.dep
 |[],_,_=>zC _
 |a::ns,.cons _ _ _ ks r,h=>by have:=zag h.2.2.2;have:=h.1;show max (a.i+1) (v7 ns)<=max (ks.dep+1) r.dep;omega
theorem z1w:∀{ns:List Nn} {f:F},Ym ns f->HZ ns<=f.dep
 |[],_,_=>zC _
 |[_],_,_=>zC _
 |a::b::ns,.cons _ _ _ ks (.cons _ _ _ cm r),h=>by obtain⟨_,_,h1,h2,_,_,h3⟩:=h;have:=z1w h3;show max a.p (max (b.i+1) (HZ ns))<=max (ks.dep+1) (max (cm.dep+1) r.dep);omega
theorem nsD(fx:List af):∀f:F,Ym (nN fx f) f
 |.nil=>trivial
 |.cons k t n ks r=>by
  have ih:=nsD fx ks;have h0:ks=.nil\/((lQ (nN fx ks) 0).i+1<=ks.dep/\(lQ (nN fx ks) 0).b+1<=ks.dep/\(lQ (nN fx ks) 1).i+1<=ks.dep/\za7 (nN fx ks)<=ks.dep):=by
   cases ks with
   |nil=>exact .inl rfl
   |cons a b c d r'=>
    obtain⟨i1,i2,_,i3⟩:=ih;have i1:(ic fx a d).i<=d.dep:=i1;have i2:(ic fx a d).b=0\/(ic fx a d).b+1<=d.dep:=i2;have i4:=z1w i3;refine .inr ⟨?_,?_,?_,?_⟩
    ·show(ic fx a d).i+1<=max (d.dep+1) r'.dep;omega
    ·show(ic fx a d).b+1<=max (d.dep+1) r'.dep;omega
    ·cases r' with
     |nil=>show 0+1<=max (d.dep+1) 0;omega
     |cons a' b' c' d' r2=>have i5:(ic fx a' d').i<=d'.dep:=i3.1;show(ic fx a' d').i+1<=max (d.dep+1) (max (d'.dep+1) r2.dep);omega
    ·show max ((ic fx a d).i+1) (HZ (nN fx r'))<=max (d.dep+1) r'.dep;omega
  refine⟨?_,?_,by have:=zaf ks;show uv ks+1<=_;omega,nsD fx r⟩
  ·show lR fx k ks (dF fx ks) (nN fx ks)<=ks.dep;rcases h0 with rfl|⟨h1,h2,h3,h4⟩
   ·unfold lR;split
    ·rename_i h6;subst h6;exact zC _
    split
    ·exact zC _
    ·exact zC _
   ·have u1:=fun b=>zaa b (lQ (nN fx ks) 0).b;have u2:=fun b=>zaa b (lQ (nN fx ks) 1).i;have u3:=fun b=>zaa b (lQ (nN fx ks) 0).i;unfold lR;split
    ·split
     ·exact Nat.max_le.2 ⟨je (u1 _) h2,je (u2 _) h3⟩
     ·exact Nat.max_le.2 ⟨je (u3 _) h1,je (u2 _) h3⟩
    split
    ·exact h4
    ·exact zag ih
  ·rcases h0 with rfl|⟨h1,h2,h3,h4⟩
   ·exact .inl rfl
   ·exact .inr h3
theorem zoy(fx:List af)(k:Int)(ks:F):(ic fx k ks).i<=ks.dep:=(nsD fx (tr k [] 0 ks)).1
theorem LX.feed{a:Tx}{s:List T3}(ha:LX a s):LO (a++feed) (s++[aO oz]):=fun z us h=>by rw[zk,zk];exact ha _ _ (Sep.cons _ (.inr (.inr (.inr rfl)))) ((MY.TK (LO.sp (c:=10) (.inr rfl))) z us h)
theorem Ec{a:Tx}{s t:List T3}(ha:LX a s)(hb:LX b t):LX (a++[32]++b) (s++t):=(ha.app ((LO.sp (c:=32) (.inl rfl)).app hb) (Sep.cons _ (.inl rfl))).text (by rw[zk]) rfl
theorem zlw{s:Tx}(h:fb s=true):LO (O4 s) [aO CU,(2,s,0),aO oz]:=by have:=(Ec (MZ (b:=111) (s:=[112,101,110]) dc dc dc) (O6 h)).feed;exact this
theorem zoz(ho:bX f.1=true)(h0:0<=f.2.1)(h9:f.2.1<=9):LO (vY f) [aO (mU f.2.2),(3,[],f.2.1),(5,f.1,0),aO oz]:=by
 have hw:LX (mU f.2.2) [aO (mU f.2.2)]:=by
  unfold mU;split
  ·exact MZ dc dc dc
  ·split
   ·exact MZ dc dc dc
   ·exact MZ dc dc dc
 have hn:LX [48+f.2.1] [(3,[],f.2.1)]:=by
  have hr:f.2.1∈[0,1,2,3,4,5,6,7,8,9]:=by simp only[zA,zL,Zt];omega
  have:∀n:Int,n∈[0,1,2,3,4,5,6,7,8,9]->fC n=[48+n]/\rz n=true:=dc
  obtain⟨e,h⟩:=this _ hr;rw[<-e];exact za4 h
 exact(Ec (Ec hw hn) (zli ho)).feed
theorem zp0{r:Bool}{s:Tx}(hn:aS nm=true)(hs:LX s ts):LO (Ea r nm s) (bif r then aO cN::aO eF::(fK nm++(aO iv::ts)++[aO oz]) else aO cN::(fK nm++(aO iv::ts)++[aO oz])):=by
 have h1:=Ec (Ec (Yb hn) Yi) hs;cases r with
 |true=>
  have:=(Ec (Ec (rI (w:=cN) dc) (rI (w:=eF) dc)) h1).feed;unfold Ea;rw[show lP true=cN++[32]++eF++[32] from rfl];simp only[zK];have e:cN++[32]++eF++[32]++iG nm++[32,61,32]++s++feed=cN++[32]++eF++[32]++(iG nm++[32]++iv++[32]++s)++feed:=by simp[iv]
  rw[e];exact(by simpa using this)
 |false=>
  have:=(Ec (rI (w:=cN) dc) h1).feed;unfold Ea;rw[show lP false=cN++[32] from rfl];simp only[zE];have e:cN++[32]++iG nm++[32,61,32]++s++feed=cN++[32]++(iG nm++[32]++iv++[32]++s)++feed:=by simp[iv]
  rw[e];exact(by simpa using this)
def C7(b:Bool)(l:List T3):List T3:=bif b then [aO kL]++l++[aO kR] else l
def wa(s:Tx):T3:=(bif fb s then 2 else 1,s,0)
def Ue(i e:Bool)(a b:List T3):List T3:=C7 (i||e) (a++[aO av]++b)
def Gk(i:Bool)(c:Nat)(s:Tx)(a:List T3):List T3:=C7 (i&&decide (0<c)) ([wa s]++a)
def fX(k:Int)(s:Tx)(n:Int)(c:Nat)(a b d:List T3)(i e:Bool):List T3:=if k=31 then [(1,[97+n],0)] else if s=[45,62] then Ue i e a b else Gk i c s d
def eu:F->Nat->List T3
 |.nil,_=>[]
 |.cons k s n ks r,m=>
  match m with
  |0=>fX k s n ks.aq (eu ks 2) (eu ks 4) (eu ks 0) true false++eu r 0
  |1=>fX k s n ks.aq (eu ks 2) (eu ks 4) (eu ks 0) true false
  |2=>fX k s n ks.aq (eu ks 2) (eu ks 4) (eu ks 0) false true
  |3=>fX k s n ks.aq (eu ks 2) (eu ks 4) (eu ks 0) false false
  |_=>eu r 3
def wb(p:Int)(k:Int)(s:Tx)(n:Int)(ks:F):Prop:=(k=31/\s=[]/\0<=n/\n<p/\ks=.nil)\/(k=32/\n=0/\((s=[45,62]/\ks.aq=2)\/(s=dI/\ks.aq=1)\/((s=eS\/s=lN)/\ks=.nil)\/fb s=true))
def km(p:Int):F->Prop
 |.nil=>True
 |.cons k s n ks r=>wb p k s n ks/\km p ks/\km p r
theorem LX.brk{a:Tx}{s:List T3}(b:Bool)(h:LX a s):LX (Ai b a) (C7 b s):=by
 cases b with
 |false=>exact h
 |true=>exact((Gc (b:=40) (.inl rfl)).app h).app (Gc (b:=41) (.inr (.inl rfl))).lx (Sep.cons _ (.inr (.inr (.inl rfl))))
theorem zhv{s:Tx}(h:fb s=true):s≠[45,62]:=fun e=>by subst e;revert h;decide
theorem z1x{s:Tx}(h:s=dI\/s=eS\/s=lN):LX s [wa s]:=by rcases h with rfl|rfl|rfl<;>exact TM (.inl dc) dc
theorem qwd(h:0<=n/\n<8):LX [97+n] [(1,[97+n],0)]:=by
 have:n=0\/n=1\/n=2\/n=3\/n=4\/n=5\/n=6\/n=7:=om
 rcases this with rfl|rfl|rfl|rfl|rfl|rfl|rfl|rfl<;>exact TM (.inl dc) dc
theorem zp1{p:Int}(hp:p<=8){s:Tx}{ks:F}{a d:Tx}{ta tb td:List T3}(h:wb p k s n ks)(ha:LX a ta)(hb:LX b tb)(hd:LX d td)(hs:Sep d)(i e:Bool):LX (j6 k s n ks.aq a b d i e) (fX k s n ks.aq ta tb td i e):=by
 unfold j6 fX;by_cases h1:k=31
 ·rw[zu h1,zu h1];rcases h with ⟨_,_,h2,h3,_⟩|⟨h2,_⟩
  ·exact qwd ⟨h2,by omega⟩
  ·omega
 ·rw[zj h1,zj h1];by_cases h2:s=[45,62]
  ·rw[zu h2,zu h2];have h3:=Ec (Ec ha Yh) hb;exact LX.brk _ (h3.text (by simp[av]) rfl)
  ·rw[zj h2,zj h2];refine LX.brk _ (LX.app ?_ hd hs);rcases h with ⟨h,_⟩|⟨_,_,⟨h,_⟩|⟨h,_⟩|⟨h,_⟩|h⟩
   ·exact absurd h h1
   ·exact absurd h h2
   ·exact z1x (.inl h)
   ·exact z1x (.inr h)
   ·have:=O6 h;unfold wa;rw[h];exact this
theorem qym:∀f:F,Sep (eX f 0)
 |.nil=>Sep.nil
 |.cons .. =>Sep.cons _ (.inl rfl)
theorem zlx{p:Int}(hp:p<=8):∀f:F,km p f->∀m,LX (eX f m) (eu f m)
 |.nil,_,_=>LX.nil.lx
 |.cons k s n ks r,⟨h1,h2,h3⟩,m=>by
  have hk:=zlx hp ks h2;have hr:=zlx hp r h3;have hn:=zp1 hp h1 (hk 2) (hk 4) (hk 0) (qym ks)
  match m with
  |0=>exact(((LO.sp (c:=32) (.inl rfl)).app (hn true false)).app (hr 0) (qym r))
  |1=>exact hn true false
  |2=>exact hn false true
  |3=>exact hn false false
  |m+4=>exact hr 3
section
variable {l:List T3} {i:Nat} {t:T3} {r:List T3}
theorem zhw(h:l.drop i=t::r):l[i]?=some t:=by rw[<-List.head?_drop,h];rfl
theorem Ak(h:l.drop i=t::r):l.drop (i+1)=r:=by rw[<-jw,h];rfl
theorem Gl{a:List T3}(h:l.drop i=a++r):l.drop (i+a.length)=r:=by rw[<-jw,h,ZZ]
theorem lp(h:l.drop i=t::r)(k:Int)(s:Tx):cA l i k s=(decide (t.1=k)&&(decide (s=[])||decide (t.2.1=s))):=by unfold cA;rw[zhw h]
theorem M5(h:l.drop i=t::r):tx l i=t.2.1:=by unfold tx;rw[zhw h]
def Gm(r:List T3):Prop:=∀t,r.head?=some t->t.1≠1/\t.1≠2/\(t.1=6->t.2.1≠kL)
def NoR(r:List T3):Prop:=∀t,r.head?=some t->t.1=6->t.2.1≠av
theorem M6(k:Int)(s:Tx)(h:l.drop i=[]):cA l i k s=false:=by
 unfold cA
 simp_all
theorem zp2(h:l.drop i=r)(hr:Gm r):A3 l i=false:=by
 unfold A3;cases r with
 |nil=>rw[M6 _ _ h,M6 _ _ h,M6 _ _ h];rfl
 |cons t r=>
  obtain⟨h1,h2,h3⟩:=hr t rfl;rw[lp h,lp h,lp h,zt h1,zt h2];by_cases h6:t.1=6
  ·rw[zt (h3 h6)];simp[kL]
  grind
theorem zp3(h:l.drop i=r)(hr:NoR r):cA l i 6 av=false:=by
 cases r with
 |nil=>exact M6 _ _ h
 |cons t r=>
  rw[lp h];by_cases h6:t.1=6
  ·rw[zt (hr t rfl h6)];simp[av]
  grind
end
def Al:List Tx:=[[97],[98],[99],[100],[101],[102],[103],[104]]
def cU(p:Nat):List Tx:=Al.take p
theorem zfh:∀p,p<=8->∀n,n<p->[97+(n:Int)]∈cU p/\(cU p).idxOf [97+(n:Int)]=n:=by
 intro p hp n hn;have:p=0\/p=1\/p=2\/p=3\/p=4\/p=5\/p=6\/p=7\/p=8:=om
 have:n=0\/n=1\/n=2\/n=3\/n=4\/n=5\/n=6\/n=7:=om
 rcases this with rfl|rfl|rfl|rfl|rfl|rfl|rfl|rfl<;>rcases ‹p=0\/_› with rfl|rfl|rfl|rfl|rfl|rfl|rfl|rfl|rfl<;>first|omega|exact⟨by simp[cU,Al],rfl⟩
theorem zfi(hp:p<=8)(h:0<=n/\n<p):vQ (cU p) [97+n]=some [(31,[],n,0)]:=by
 obtain⟨m,rfl⟩:∃m:Nat,n=m:=⟨n.toNat,by omega⟩;obtain⟨h1,h2⟩:=zfh p hp m om;unfold vQ
 grind
theorem zah:∀p,p<=8->vQ (cU p) eS=some [(32,eS,0,0)]/\vQ (cU p) lN=some [(32,lN,0,0)]:=by
 intro p hp;have:p=0\/p=1\/p=2\/p=3\/p=4\/p=5\/p=6\/p=7\/p=8:=om
 rcases this with rfl|rfl|rfl|rfl|rfl|rfl|rfl|rfl|rfl<;>exact⟨by simp[vQ,cU,Al,eS],by simp[vQ,cU,Al,eS,lN]⟩
def wc(p:Int)(k:Int)(s:Tx)(n:Int)(ks:F):Prop:=(k=31/\0<=n/\n<p/\s=[]/\ks=.nil)\/(k=32/\n=0/\ks=.nil/\(s=eS\/s=lN\/fb s=true))
theorem zai{p:Int}{s:Tx}{ks:F}(h:wb p k s n ks)(a b d:List T3):(wc p k s n ks)\/(¬wc p k s n ks/\fX k s n ks.aq a b d true false=[aO kL]++fX k s n ks.aq a b d false false++[aO kR]):=by
 by_cases hl:wc p k s n ks
 ·exact .inl hl
 ·refine .inr ⟨hl,?_⟩;have h1:k≠31:=by
   rintro rfl;rcases h with ⟨_,a,b,c,d⟩|⟨h,_⟩
   ·exact hl (.inl ⟨rfl,b,c,a,d⟩)
   ·omega
  unfold fX;rw[zj h1,zj h1];by_cases h2:s=[45,62]
  ·rw[zu h2,zu h2];rfl
  ·rw[zj h2,zj h2];have hc:0<ks.aq:=by
    cases ks with
    |nil=>
     rcases h with ⟨h,_⟩|⟨a,b,⟨h,_⟩|⟨_,h⟩|⟨h,_⟩|h⟩
     ·exact absurd h h1
     ·exact absurd h h2
     ·omega
     ·exact absurd (.inr ⟨a,b,rfl,h.elim .inl fun h=>.inr (.inl h)⟩) hl
     ·exact absurd (.inr ⟨a,b,rfl,.inr (.inr h)⟩) hl
    |cons=>exact Nat.succ_pos _
   unfold Gk;rw[zw hc];rfl
def fQ(k:Int)(s:Tx)(n:Int)(ks:F)(i e:Bool):List T3:=fX k s n ks.aq (eu ks 2) (eu ks 4) (eu ks 0) i e
section
variable (l:List T3) (p:Nat)
def M7(typ:PX)(N:Nat):Prop:=∀(k:Int) (s:Tx) (n:Int) (ks:F) (i:Nat) (r:List T3),wb p k s n ks->km p ks->l.drop i=fQ k s n ks false false++r->(fQ k s n ks false false).length<N->Gm r->NoR r->
 typ i=some ((tr k s n ks).flat,i+(fQ k s n ks false false).length)
variable {l p}
theorem zp4(r:List T3):Gm (aO kR::r):=fun t h=>by injection h with h;subst h;exact⟨by decide,by decide,fun _=>by decide⟩
theorem zp5(r:List T3):NoR (aO kR::r):=fun t h _=>by injection h with h;subst h;decide
theorem Pd{s:Tx}{ks:F}(h:wc p k s n ks)(i e:Bool):fQ k s n ks i e=[if k=31 then(1,[97+n],0) else wa s]:=by
 unfold fQ fX;rcases h with ⟨rfl,_⟩|⟨rfl,_,rfl,h⟩
 ·rw[zu rfl,zu rfl]
 ·have hs:s≠[45,62]:=by
   rintro rfl;rcases h with h|h|h
   ·cases h
   ·cases h
   ·exact zhv h rfl
  rw[zj (show ¬(32:Int)=31 by decide),zj hs,zj (show ¬(32:Int)=31 by decide)];unfold Gk;cases i<;>rfl
theorem qok(hp:p<=8){s:Tx}{ks:F}(h:wc p k s n ks)(hl:l.drop i=fQ k s n ks true false++r):xo l (cU p) typ i=some ((tr k s n ks).flat,i+1):=by
 rw[Pd h] at hl;have hl:l.drop i=(if k=31 then(1,[97+n],0) else wa s)::r:=hl;unfold xo;rw[lp hl,lp hl,M5 hl];rcases h with ⟨rfl,h1,h2,rfl,rfl⟩|⟨rfl,rfl,rfl,h⟩
 ·rw[zu rfl];show Option.map _ (vQ (cU p) [97+n])=_;rw[zfi hp ⟨h1,h2⟩];rfl
 ·rw[zj dc];obtain⟨w1,w2⟩:=zah p hp;rcases h with rfl|rfl|h
  ·show Option.map _ (vQ (cU p) eS)=_;rw[w1];rfl
  ·show Option.map _ (vQ (cU p) lN)=_;rw[w2];rfl
  ·unfold wa;rw[h];rfl
theorem Pe(hl:l.drop i=aO w::r):gy l i 6 w=some (i+1):=by unfold gy;rw[lp hl,show decide ((aO w).1=6)=true from rfl,show decide ((aO w).2.1=w)=true from zw rfl,JF];rfl
theorem Yn(hp:p<=8)(hT:M7 l p typ N){s:Tx}{ks:F}(h:wb p k s n ks)(hk:km p ks)(hl:l.drop i=fQ k s n ks true false++r)(hN:(fQ k s n ks true false).length<=N):xo l (cU p) typ i=some ((tr k s n ks).flat,i+(fQ k s n ks true false).length):=by
 rcases zai h (eu ks 2) (eu ks 4) (eu ks 0) with hf|⟨hf,e⟩
 ·rw[qok hp hf hl,Pd hf];rfl
 ·have e:fQ k s n ks true false=[aO kL]++fQ k s n ks false false++[aO kR]:=e;rw[e] at hl hN ⊢;simp only[zd,zB] at hN ⊢;have hl:l.drop i=aO kL::(fQ k s n ks false false++(aO kR::r)):=by rw[hl];simp
  have h2:=Ak hl;have h3:=hT k s n ks (i+1) _ h hk h2 om (zp4 r) (zp5 r);have h4:=Gl h2;unfold xo;rw[lp hl,lp hl,Pe hl];show(Option.bind (typ (i+1)) _)=_;rw[h3];show Option.map _ (gy l (i+1+(fQ k s n ks false false).length) 6 kR)=_;rw[Pe h4];show some _=some _;congr 2;omega
end
section
variable {l:List T3} {p:Nat}
theorem zaj{s:Tx}{ks:F}(h:wb p k s n ks):∃t r',fQ k s n ks true false=t::r'/\(t.1=1\/t.1=2\/t=aO kL):=by
 rcases zai h (eu ks 2) (eu ks 4) (eu ks 0) with hf|⟨hf,e⟩
 ·refine⟨_,_,Pd hf _ _,?_⟩;split
  ·exact .inl rfl
  ·show(bif fb s then(2:Int) else 1)=1\/(bif fb s then(2:Int) else 1)=2\/_;cases fb s
   all_goals grind
 ·exact⟨aO kL,fQ k s n ks false false++[aO kR],e,.inr (.inr rfl)⟩
theorem zfj{s:Tx}{ks:F}(h:wb p k s n ks)(hl:l.drop i=fQ k s n ks true false++r):A3 l i=true:=by
 obtain⟨t,r',e,h1⟩:=zaj h;rw[e] at hl;have hl:l.drop i=t::(r'++r):=hl;unfold A3;rw[lp hl,lp hl,lp hl];rcases h1 with h1|h1|h1
 ·simp[h1]
 ·simp[h1]
 ·subst h1;rfl
theorem qyo(hp:p<=8)(hT:M7 l p typ N):∀(ks:F) (f:Nat) (acc:List (List ND)) (i:Nat) (r:List T3),km p ks->l.drop i=eu ks 0++r->(eu ks 0).length<=N->Gm r->ks.aq<f->uO l (cU p) typ f i acc=some (acc++kE ks,i+(eu ks 0).length)
 |.nil,f,acc,i,r,_,hl,_,hr,hf=>by
  obtain⟨g,rfl⟩:∃g,f=g+1:=⟨f-1,by omega⟩;unfold uO;rw[zp2 hl hr];show some (acc,i)=some (acc++[],i+0)
  grind
 |.cons k s n a b,f,acc,i,r,⟨h1,h2,h3⟩,hl,hN,hr,hf=>by
  obtain⟨g,rfl⟩:∃g,f=g+1:=⟨f-1,by omega⟩;have e:eu (.cons k s n a b) 0=fQ k s n a true false++eu b 0:=rfl;rw[e] at hl hN ⊢;rw[zk] at hl;rw[zd] at hN ⊢;have hc:(F.cons k s n a b).aq=b.aq+1:=rfl;unfold uO;rw[zfj h1 hl,Yn hp hT h1 h2 hl om];show uO l (cU p) typ g (i+(fQ k s n a true false).length) (acc++[(tr k s n a).flat])=_;rw[qyo hp hT b g _ _ r h3 (Gl hl) om hr om];show some (acc++[(tr k s n a).flat]++kE b,_)=some (acc++((tr k s n a).flat::kE b),_)
  grind
def Uf(k:Int)(s:Tx):Prop:=k=31\/s≠[45,62]
theorem z1z{s:Tx}{ks:F}(_:wb p k s n ks)(ha:Uf k s)(e:Bool):fQ k s n ks false e=bif decide (k=31) then [(1,[97+n],0)] else wa s::eu ks 0:=by
 unfold fQ fX;by_cases hk:k=31
 ·grind
 ·rw[zj hk,zj (ha.resolve_left hk),zt hk];rfl
theorem zak(hp:p<=8)(hT:M7 l p typ N){s:Tx}{ks:F}(h:wb p k s n ks)(hk:km p ks)(ha:Uf k s)(e:Bool)(hl:l.drop i=fQ k s n ks false e++r)(hN:(fQ k s n ks false e).length<=N)(hr:Gm r)(hc:ks.aq<=l.length):D4 l (cU p) typ i=some ((tr k s n ks).flat,i+(fQ k s n ks false e).length):=by
 have hw:=z1z h ha e;by_cases he:k=31
 ·have hf:wc p k s n ks:=by
   rcases h with ⟨h,a,b,c,d⟩|⟨h,_⟩
   ·exact .inl ⟨h,b,c,a,d⟩
   ·omega
  have h0:=Pd hf false e;have h1:=Pd hf true false;rw[h0] at hl ⊢;have hg:l.drop i=fQ k s n ks true false++r:=by rw[h1];exact hl
  have hl:l.drop i=(if k=31 then(1,[97+n],0) else wa s)::r:=hl;unfold D4;rw[lp hl,lp hl,zu he,qok hp hf hg];have:decide ([97+n]=dI)=false:=zt (fun h=>absurd (jd List.length h) (show ¬(1:Nat)=3 by decide));show(bif decide (1=1)&&(decide (dI=[])||decide ([97+n]=dI)) then _ else _)=_;rw[this];rfl
 ·obtain⟨_,rfl,hh⟩:=(h.resolve_left fun h=>he h.1).2|>fun⟨a,b⟩=>(⟨he,a,b⟩:_/\n=0/\_);obtain rfl:k=32:=(h.resolve_left fun h=>he h.1).1;rw[zt he,zE] at hw;rw[hw] at hl hN ⊢;rw[zn] at hN ⊢;have hl:l.drop i=wa s::(eu ks 0++r):=hl;have h2:=Ak hl;have hs:s≠[45,62]:=ha.resolve_left dc;unfold D4;rw[lp hl,lp hl,M5 hl];clear h;rcases hh with ⟨h,_⟩|⟨rfl,h⟩|⟨h,rfl⟩|h
  ·exact absurd h hs
  ·match ks,h with
   |.cons k' s' n' a .nil,_=>obtain⟨g1,g2,_⟩:=hk;have e0:eu (.cons k' s' n' a .nil) 0=fQ k' s' n' a true false++[]:=rfl;rw[e0,zv] at h2 hN ⊢;show Option.map _ (xo l (cU p) typ (i+1))=_;rw[Yn hp hT g1 g2 h2 om];show some (nd 32 dI (kE (.cons k' s' n' a .nil)),_)=_;rw[vZ];congr 2;omega
  ·have hf:wc p 32 s 0 .nil:=.inr ⟨rfl,rfl,rfl,h.elim .inl fun h=>.inr (.inl h)⟩;have:=qok hp (typ:=typ) (i:=i) (r:=r) hf (by rw[Pd hf];exact hl);rcases h with rfl|rfl<;>exact this
  ·have e1:wa s=(2,s,0):=by unfold wa;rw[h];rfl
   rw[e1];show Option.map _ (uO l (cU p) typ (l.length+1) (i+1) [])=_;rw[qyo hp hT ks _ [] _ r hk h2 om hr om];show some (nd 32 s (kE ks),_)=_;rw[vZ];congr 2;omega
end
section
variable {l:List T3} {p:Nat}
theorem qyp:∀{f:F},km p f->f.aq<=(eu f 0).length
 |.nil,_=>zm _
 |.cons k s n a b,⟨h1,_,h3⟩=>by
  obtain⟨t,r',e,_⟩:=zaj h1;have:=qyp h3;show b.aq+1<=(fQ k s n a true false++eu b 0).length
  grind
theorem zp6{s:Tx}{ks:F}(h:wb p k s n ks)(hk:km p ks)(ha:Uf k s)(e:Bool):ks.aq<=(fQ k s n ks false e).length:=by
 rw[z1z h ha e];by_cases h1:k=31
 ·rcases h with ⟨_,_,_,_,rfl⟩|⟨h,_⟩
  ·exact zC _
  ·omega
 ·rw[zt h1,zE,zn];have:=qyp hk;omega
theorem Yo{a:List T3}(h:l.drop i=a++r):a.length<=l.length:=by
 have:=jd List.length h
 grind
theorem zly(r:List T3):Gm (aO av::r):=fun t h=>by injection h with h;subst h;exact⟨by decide,by decide,fun _=>by decide⟩
theorem zlz(hp:p<=8)(hT:M7 l p typ N){s:Tx}{ks:F}(h:wb p k s n ks)(hk:km p ks)(hl:l.drop i=fQ k s n ks false true++r)(hN:(fQ k s n ks false true).length<=N)(hr:Gm r):D4 l (cU p) typ i=some ((tr k s n ks).flat,i+(fQ k s n ks false true).length):=by
 by_cases ha:Uf k s
 ·exact zak hp hT h hk ha true hl hN hr (je (zp6 h hk ha true) (Yo hl))
 ·have h1:k≠31:=fun e=>ha (.inl e);have h2:s=[45,62]:=zF fun e=>ha (.inr e);have e:fQ k s n ks false true=fQ k s n ks true false:=by unfold fQ fX;rw[zj h1,zj h1,zu h2,zu h2];rfl
  have e2:fQ k s n ks true false=[aO kL]++(eu ks 2++[aO av]++eu ks 4)++[aO kR]:=by unfold fQ fX;rw[zj h1,zu h2];rfl
  rw[e] at hl hN ⊢;have h3:=Yn hp hT h hk hl hN;have hc:l.drop i=aO kL::(eu ks 2++[aO av]++eu ks 4++[aO kR]++r):=by rw[hl,e2];simp
  unfold D4;rw[lp hc,lp hc];exact h3
theorem zfk(hp:p<=8)(hT:M7 l p typ N):M7 l p (z7 l (cU p) typ) (N+1):=fun k s n ks i r h hk hl hN hr hq=>by
 unfold z7;by_cases ha:Uf k s
 ·rw[zak hp hT h hk ha false hl om hr (je (zp6 h hk ha false) (Yo hl))];show(bif cA l (i+(fQ k s n ks false false).length) 6 av then _ else _)=_;rw[zp3 (Gl hl) hq];rfl
 ·have h1:k≠31:=fun e=>ha (.inl e);have h2:s=[45,62]:=zF fun e=>ha (.inr e);subst h2;have h3:=h.resolve_left fun h=>h1 h.1;obtain⟨rfl,rfl,h3⟩:=h3;have hc:ks.aq=2:=by
   rcases h3 with ⟨_,h⟩|⟨h,_⟩|⟨h|h,_⟩|h
   ·exact h
   ·exact absurd h dc
   ·exact absurd h dc
   ·exact absurd h dc
   ·exact absurd h dc
  obtain⟨k1,s1,n1,a,k2,s2,n2,b,rfl⟩:=z1l hc;obtain⟨g1,g2,g3,g4,_⟩:=hk;have e:fQ 32 [45,62] 0 (.cons k1 s1 n1 a (.cons k2 s2 n2 b .nil)) false false=fQ k1 s1 n1 a false true++[aO av]++fQ k2 s2 n2 b false false:=rfl;rw[e] at hl hN ⊢;simp only[zd,zB] at hN ⊢;have hl:l.drop i=fQ k1 s1 n1 a false true++(aO av::(fQ k2 s2 n2 b false false++r)):=by rw[hl];simp
  rw[zlz hp hT g1 g2 hl om (zly _)];have h5:=Gl hl;have h6:=Ak h5;show(bif cA l (i+(fQ k1 s1 n1 a false true).length) 6 av then _ else _)=_;rw[lp h5];show Option.map _ (typ (i+(fQ k1 s1 n1 a false true).length+1))=_;rw[hT k2 s2 n2 b _ r g3 g4 h6 om hr hq];show some (nd 32 av (kE (.cons k1 s1 n1 a (.cons k2 s2 n2 b .nil))),_)=_;rw[vZ];congr 2;omega
theorem qyq(hp:p<=8):∀d,M7 l p (qU l (cU p) d) d
 |0=>fun _ _ _ _ _ _ _ _ _ h=>absurd h (ZA _)
 |d+1=>zfk hp (qyq hp d)
end
section
variable {l:List T3} {p:Nat}
def NoO(r:List T3):Prop:=∀t,r.head?=some t->t.1=6->t.2.1≠xm
theorem zp7(h:l.drop i=r)(hr:NoO r):cA l i 6 xm=false:=by
 cases r with
 |nil=>exact M6 _ _ h
 |cons t r=>
  rw[lp h];by_cases h6:t.1=6
  ·rw[zt (hr t rfl h6)];simp[xm]
  grind
def ofK:F->List T3
 |.nil=>[]
 |ks=>aO xm::eu ks 0
def uw(c:Tx×F):List T3:=(2,c.1,0)::ofK c.2
def cg(c:Tx×F):CX:=(c.1,ix (kE c.2))
theorem zhx(hp:p<=8){c:Tx×F}(hk:km p c.2)(hl:l.drop i=uw c++r)(hr:Gm r)(ho:NoO r):nA l (cU p) i=some (cg c,i+(uw c).length):=by
 obtain⟨c,ks⟩:=c;have hc:l.drop i=(2,c,0)::(ofK ks++r):=hl;have h1:=Ak hc;have ht:gy l i 2 []=some (i+1):=by unfold gy;rw[lp hc];rfl
 unfold nA;rw[ht,M5 hc];show(bif cA l (i+1) 6 xm then _ else _)=_;cases ks with
 |nil=>rw[zp7 h1 ho];rfl
 |cons k s n a b=>
  obtain⟨g1,g2,g3⟩:=hk;have h1:l.drop (i+1)=aO xm::(fQ k s n a true false++(eu b 0++r)):=by rw[h1];show aO xm::(fQ k s n a true false++eu b 0++r)=_;rw[zk]
  have h2:=Ak h1;have h3:=Gl h2;have q1:=Yo h2;have q2:=Yo h3;have q3:=qyp g3;rw[lp h1];show(Option.bind (xo l (cU p) (qU l (cU p) (l.length+1)) (i+1+1)) _)=_;rw[Yn hp (qyq hp _) g1 g2 h2 om];show Option.map _ (uO l (cU p) (qU l (cU p) (l.length+1)) (l.length+1) (i+1+1+(fQ k s n a true false).length) [])=_;rw[qyo hp (qyq hp _) b _ [] _ r g3 h3 om hr om];have e:(uw (c,.cons k s n a b)).length=1+1+((fQ k s n a true false).length+(eu b 0).length):=by
   show((2,c,0)::aO xm::(fQ k s n a true false++eu b 0)).length=_
   grind
  rw[e];show some (cg (c,.cons k s n a b),_)=_;congr 2;omega
def j7:List (Tx×F)->List T3
 |[]=>[]
 |c::r=>aO fA::(uw c++j7 r)
theorem zhy(cs:List (Tx×F)):Gm (j7 cs)/\NoO (j7 cs):=by
 cases cs with
 |nil=>exact⟨fun _ h=>(by cases h),fun _ h=>(by cases h)⟩
 |cons c r=>exact⟨fun t h=>(by injection h with h;subst h;exact⟨by decide,by decide,fun _=>by decide⟩),fun t h _=>(by injection h with h;subst h;decide)⟩
theorem zal(hp:p<=8):∀(cs:List (Tx×F)) (f i:Nat) (acc:List CX),(∀c,c∈cs->km p c.2)->l.drop i=j7 cs->cs.length<f->vR l (cU p) f i acc=some (acc++cs.map cg,i+(j7 cs).length)
 |[],f,i,acc,_,hl,hf=>by
  obtain⟨g,rfl⟩:∃g,f=g+1:=⟨f-1,by omega⟩;unfold vR;rw[M6 _ _ hl];show some (acc,i)=some (acc++[],i+0)
  grind
 |c::cs,f,i,acc,h,hl,hf=>by
  obtain⟨g,rfl⟩:∃g,f=g+1:=⟨f-1,by omega⟩;rw[zn] at hf;have hc:l.drop i=aO fA::(uw c++j7 cs):=hl;have h1:=Ak hc;obtain⟨b1,b2⟩:=zhy cs;unfold vR;rw[lp hc];show(Option.bind (nA l (cU p) (i+1)) _)=_;rw[zhx hp (h c (zg ..)) h1 b1 b2];show vR l (cU p) g (i+1+(uw c).length) (acc++[cg c])=_;rw[zal hp cs g _ _ (fun x hx=>h x (zf _ hx)) (Gl h1) om,zk]
  grind
end
def oE:Nat->Nat->List T3
 |_,0=>[]
 |k,m+1=>(1,[97+(k:Int)],0)::oE (k+1) m
theorem qt9:∀m k,(oE k m).length=m
 |0,_=>rfl
 |m+1,k=>by show(oE (k+1) m).length+1=_;rw[qt9 m]
theorem zam{k:Nat}(h:k<8):decide (([97+(k:Int)]:Tx)∈[eS,lN,dI]++cU k)=false/\cU k++[[97+(k:Int)]]=cU (k+1):=by
 have:k=0\/k=1\/k=2\/k=3\/k=4\/k=5\/k=6\/k=7:=om
 rcases this with rfl|rfl|rfl|rfl|rfl|rfl|rfl|rfl<;>exact⟨by simp[cU,Al,eS,lN,dI],rfl⟩
section
variable {l:List T3}
theorem zan:∀(m k f i:Nat) (r:List T3),k+m<=8->l.drop i=oE k m++r->(∀t,r.head?=some t->t.1≠1)->m<f->rF l f i (cU k)=some (cU (k+m),i+m)
 |0,k,f,i,r,_,hl,hr,hf=>by
  obtain⟨g,rfl⟩:∃g,f=g+1:=⟨f-1,by omega⟩;have hl:l.drop i=r:=hl;have h1:cA l i 1 []=false:=by
   cases r with
   |nil=>exact M6 _ _ hl
   |cons t r=>rw[lp hl,zt (hr t rfl)];rfl
  unfold rF;rw[h1];rfl
 |m+1,k,f,i,r,hk,hl,hr,hf=>by
  obtain⟨g,rfl⟩:∃g,f=g+1:=⟨f-1,by omega⟩;have hc:l.drop i=(1,[97+(k:Int)],0)::(oE (k+1) m++r):=hl;obtain⟨e1,e2⟩:=zam (k:=k) om;have ih:=zan m (k+1) g (i+1) r om (Ak hc) hr om;unfold rF;rw[lp hc,M5 hc]
  grind
end
def H6(nm:Tx)(p:Nat)(c:Tx×F)(cs:List (Tx×F)):List T3:=aO nz::(2,nm,0)::(oE 0 p++(aO iv::(uw c++j7 cs)))
theorem zm0(hp:p<=8){c:Tx×F}{cs:List (Tx×F)}(hc:∀x,x∈c::cs->km p x.2):D5 (H6 nm p c cs)=some ((nm,(p:Int),⟨false,(c::cs).map cg⟩),(H6 nm p c cs).length):=by
 generalize hL:H6 nm p c cs=l;have h0:l.drop 0=aO nz::(2,nm,0)::(oE 0 p++(aO iv::(uw c++j7 cs))):=hL.symm;have h1:=Ak h0;have h2:=Ak h1;have h3:=Gl h2;rw[qt9] at h3;have h4:=Ak h3;have h5:=Gl h4;obtain⟨b1,b2⟩:=zhy cs;have he:l.length=2+(p+(1+((uw c).length+(j7 cs).length))):=by grind
 have hb:∀cs:List (Tx×F),cs.length<=(j7 cs).length:=fun cs=>by
  induction cs with
  |nil=>exact zm _
  |cons c r ih=>show r.length+1<=(uw c++j7 r).length+1;rw[zd];omega
 have hb:=hb cs;have ht:gy l 1 2 []=some 2:=by unfold gy;rw[lp h1];rfl
 unfold D5;rw[Pe h0];show Option.bind (gy l 1 2 []) _=_;rw[ht,M5 h1];show Option.bind (rF l (l.length+1) 2 (cU 0)) _=_;rw[zan p 0 _ 2 _ om h2 (fun t h=>(by injection h with h;subst h;decide)) om,zW];show Option.bind (gy l (2+p) 6 iv) _=_;rw[Pe h3];show Option.bind (nA l (cU p) (2+p+1)) _=_;rw[zhx hp (hc c (zg ..)) h4 b1 b2];show Option.map _ (vR l (cU p) (l.length+1) (2+p+1+(uw c).length) [cg c])=_;rw[zal hp cs _ _ _ (fun x hx=>hc x (zf _ hx)) h5 om];have hq:(cU p).length=p:=by show(Al.take p).length=p;rw[jv];show min p 8=p;omega
 show some (((nm,(((cU p).length:Nat):Int),(⟨false,[cg c]++cs.map cg⟩:Sl CX)):DX),_)=_;rw[hq,he];show some (((nm,(p:Int),(⟨false,(c::cs).map cg⟩:Sl CX)):DX),_)=_;congr 2;omega
def ofG:F->Tx
 |.nil=>[]
 |.cons k s n a b=>[32]++([111,102]++eX (.cons k s n a b) 0)
def kA(c:Tx×F):Tx:=c.1++ofG c.2
def we:List (Tx×F)->Tx
 |[]=>[]
 |c::r=>[32]++([124]++([32]++(kA c++we r)))
def Ba(nm:Tx)(p:Nat)(c:Tx×F)(cs:List (Tx×F)):Tx:=[116,121,112,101]++([32]++(nm++(Aj 0 p++([32]++([61]++([32]++(kA c++we cs)))))))
theorem M8{t:List T3}(hb:LX b t):LX ([32]++b) t:=(LO.sp (c:=32) (.inl rfl)).app hb
theorem Am(b:Tx):Sep ([32]++b):=Sep.cons _ (.inl rfl)
theorem zp8(hp:p<=8):∀ks:F,km p ks->LX (ofG ks) (ofK ks)/\Sep (ofG ks)
 |.nil,_=>⟨LX.nil.lx,Sep.nil⟩
 |.cons k s n a b,h=>⟨M8 ((MZ (b:=111) (s:=[102]) dc dc dc).app (zlx (p:=p) om _ h 0) (qym _)),Am _⟩
theorem zhz(hp:p<=8){c:Tx×F}(hc:fb c.1=true)(h:km p c.2):LX (kA c) (uw c):=(O6 hc).app (zp8 hp c.2 h).1 (zp8 hp c.2 h).2
theorem z20(cs:List (Tx×F)):Sep (we cs):=by
 cases cs with
 |nil=>exact Sep.nil
 |cons=>exact Am _
theorem zi0(hp:p<=8):∀cs:List (Tx×F),(∀c,c∈cs->fb c.1=true/\km p c.2)->LX (we cs) (j7 cs)
 |[],_=>LX.nil.lx
 |c::cs,h=>by obtain⟨h1,h2⟩:=h c (zg ..);exact M8 ((TN (s:=[124]) rfl dc).app (M8 ((zhz hp h1 h2).app (zi0 hp cs fun x hx=>h x (zf _ hx)) (z20 cs))) (Am _))
theorem z21(k m:Nat)(z:Tx):Sep (Aj k m++([32]++z)):=by
 cases m with
 |zero=>exact Am z
 |succ=>exact Sep.cons _ (.inl rfl)
theorem zao{t:List T3}(hz:LX ([32]++z) t):∀m k,k+m<=8->LX (Aj k m++([32]++z)) (oE k m++t)
 |0,_,_=>hz
 |m+1,k,h=>by have h1:=M8 ((qwd (n:=(k:Int)) om).app (zao hz m (k+1) om) (z21 _ _ _));exact h1
theorem zm1(hp:p<=8)(hn:fb nm=true){c:Tx×F}{cs:List (Tx×F)}(hc:∀x,x∈c::cs->fb x.1=true/\km p x.2):LX (Ba nm p c cs) (H6 nm p c cs):=by obtain⟨h1,h2⟩:=hc c (zg ..);have h3:=(zhz hp h1 h2).app (zi0 hp cs fun x hx=>hc x (zf _ hx)) (z20 cs);have h4:=M8 ((Yi).app (M8 h3) (Am _));have h5:=(O6 hn).app (zao h4 p 0 om) (z21 _ _ _);exact(MZ (b:=116) (s:=[121,112,101]) dc dc dc).app (M8 h5) (Am _)
theorem zm2(hp:p<=8)(hn:fb nm=true){c:Tx×F}{cs:List (Tx×F)}(hc:∀x,x∈c::cs->fb x.1=true/\km p x.2):LO (Ba nm p c cs++feed) (H6 nm p c cs++[aO oz]):=(zm1 hp hn hc).feed
theorem Yp{t:T3}(hd:d.map aY=t::ts):∃x r,d=x::r/\x.1=t.1/\x.2.1=t.2.1:=by
 cases d with
 |nil=>cases hd
 |cons x r=>rw[zX] at hd;injection hd with h1 h2;exact⟨x,r,rfl,by rw[<-h1];rfl,by rw[<-h1];rfl⟩
theorem zap{C:MC}{m:MX}{s:Tx}(e:Int)(hd:d.map aY=[aO CU,(2,s,0)])(hn:C.named s=true):vU C m fx d e=.ok (⟨m.opens++[s],m.aU,m.aE,m.lets⟩,fx):=by obtain⟨x,r,rfl,h1,h2⟩:=Yp hd;unfold vU;have h1:x.1=6:=h1;have h2:x.2.1=CU:=h2;simp only[h1,h2,hd];show vT x.2.2.2 (decide ((2:Nat)=2)&&C.named s) ((⟨m.opens++[s],m.aU,m.aE,m.lets⟩,fx):MX×List af)=_;rw[hn];rfl
theorem zfl{C:MC}{m:MX}(e:Int)(hd:d.map aY=[aO (mU f.2.2),(3,[],f.2.1),(5,f.1,0)])(h0:0<=f.2.1)(h9:f.2.1<=9)(hs:f.2.2=-1\/f.2.2=0\/f.2.2=1)(h1:(C.set fx f).2=0)(h2:C.fE (m.aU++[f])=0):vU C m fx d e=.ok (⟨m.opens,m.aU++[f],m.aE,m.lets⟩,(C.set fx f).1):=by
 obtain⟨x,r,rfl,q1,q2⟩:=Yp hd;obtain⟨op,lv,sd⟩:=f;have hw:mU sd=z8/\Ab z8=sd\/mU sd=Aa/\Ab Aa=sd\/mU sd=HH/\Ab HH=sd:=by rcases hs with h|h|h<;>(have h:sd=_:=h;subst h;decide)
 have key:Ac C m fx ((x::r).map aY) x.2.2.2=.ok (⟨m.opens,m.aU++[(op,lv,sd)],m.aE,m.lets⟩,(C.set fx (op,lv,sd)).1):=by
  have hf:vS ((x::r).map aY)=some ((op,lv,sd),3):=by
   rw[hd];show(bif decide (0<=lv/\lv<=9) then some ((op,lv,Ab (mU sd)),3) else none)=_
   grind
  unfold Ac;rw[hf,hd];show vT _ (decide ((3:Nat)=3)&&(decide ((C.set fx (op,lv,sd)).2=0)&&decide (C.fE (m.aU++[(op,lv,sd)])=0))) _=_;rw[zw h1,zw h2];rfl
 unfold vU;have q1:x.1=6:=q1;have q2:x.2.1=mU sd:=q2;simp only[q1,q2];rcases hw with ⟨a,b⟩|⟨a,b⟩|⟨a,b⟩<;>(rw[a];exact key)
theorem zaq{C:MC}{m:MX}{D:DX}(e:Int)(hd:d.map aY=aO nz::ts)(hD:D5 (aO nz::ts)=some (D,(aO nz::ts).length))(h:C.dE (m.aE++[D])=0\/C.dE (m.aE++[D])=102):vU C m fx d e=.ok (⟨m.opens,m.aU,m.aE++[D],m.lets⟩,fx):=by
 obtain⟨x,r,rfl,h1,h2⟩:=Yp hd;unfold vU;have h1:x.1=6:=h1;have h2:x.2.1=nz:=h2;simp only[h1,h2,hd];show OR C m fx (aO nz::ts) _=_;unfold OR;rw[hD];show vT _ (decide ((aO nz::ts).length=(aO nz::ts).length)&&(decide (C.dE (m.aE++[D])=0)||decide (C.dE (m.aE++[D])=102))) _=_;rw[zw rfl,jV];rcases h with h|h
 ·rw[zw h];rfl
 ·rw[h];rfl
theorem z22(C:MC)(m:MX)(fx:List af)(rest:List T3):∀(ts:List T3) (l cur:List Tk),l.map aY=ts++aO oz::rest->ts.all O7=true->∃d x l',d.map aY=ts/\l'.map aY=rest/\py C l cur m fx=eb (vU C m fx (cur++d) x) fun y=>py C l' [] y.1 y.2
 |[],l,cur,h,_=>by
  cases l with
  |nil=>cases h
  |cons t l=>
   rw[zX] at h;injection h with h1 h2;have e:Ae t=true:=by have a:t.1=6:=jd (·.1) h1;have b:t.2.1=oz:=jd (·.2.1) h1;unfold Ae;rw[a,b];decide
   refine⟨[],t.2.2.2,l,rfl,h2,?_⟩;rw[zv];show(bif Ae t then _ else _)=_;rw[e];rfl
 |u::ts,l,cur,h,hn=>by
  rw[Jh,ze] at hn;cases l with
  |nil=>cases h
  |cons t l=>
   rw[zX] at h;injection h with h1 h2;have e:Ae t=false:=by have:=hn.1;rw[<-h1] at this;unfold O7 at this;unfold Ae;exact ZG _▸this
   obtain⟨d,x,l',q1,q2,q3⟩:=z22 C m fx rest ts l (cur++[t]) h2 hn.2;refine⟨t::d,x,l',by rw[zX,h1,q1],q2,?_⟩;show(bif Ae t then _ else py C l (cur++[t]) m fx)=_;rw[e,zE,q3,zk];rfl
theorem Yq{C:MC}{m m':MX}{rest:List T3}{l:List Tk}(h:l.map aY=ts++aO oz::rest)(hn:ts.all O7=true)(hd:∀d e,d.map aY=ts->vU C m fx d e=.ok (m',fx')):∃l',l'.map aY=rest/\py C l [] m fx=py C l' [] m' fx':=by obtain⟨d,x,l',q1,q2,q3⟩:=z22 C m fx rest ts l [] h hn;refine⟨l',q2,?_⟩;rw[q3,jF,hd d x q1];rfl
theorem zm3{l:List T3}(h:l.drop i=fK nm++r):F1 l i=some (nm,i+(fK nm).length):=by
 unfold fK at h ⊢;cases ho:bX nm with
 |true=>
  rw[ho] at h;have h:l.drop i=aO [40]::(5,nm,0)::aO [41]::r:=h;have h1:=Ak h;have h2:=Ak h1;unfold F1;rw[lp h,M5 h1];have ht:gy l (i+1) 5 []=some (i+2):=by unfold gy;rw[lp h1];rfl
  show Option.bind (gy l (i+1) 5 []) _=_;rw[ht];show Option.map _ (gy l (i+2) 6 kR)=_;rw[show gy l (i+2) 6 kR=some (i+3) from Pe (w:=kR) h2];rfl
 |false=>
  rw[ho] at h;have h:l.drop i=(1,nm,0)::r:=h;unfold F1;rw[lp h,M5 h];have ht:gy l i 1 []=some (i+1):=by unfold gy;rw[lp h];rfl
  show Option.map _ (gy l i 1 [])=_;rw[ht];rfl
def Bb(rc:Bool)(nm:Tx)(ts:List T3):List T3:=aO cN::bif rc then aO eF::(fK nm++aO iv::ts) else fK nm++aO iv::ts
theorem zfm{C:MC}{m:MX}{rc:Bool}{t:List ND}(e:Int)(hd:d.map aY=Bb rc nm ts)(ht:∀d' e,d'.map aY=ts->C.toks fx d' e=.ok t)(hl:C.lt (nm,rc,t)=true):vU C m fx d e=.ok (⟨m.opens,m.aU,m.aE,m.lets++[(nm,rc,t)]⟩,fx):=by
 obtain⟨x,r,rfl,h1,h2⟩:=Yp hd;have h1:x.1=6:=h1;have h2:x.2.1=cN:=h2;generalize hL:(x::r).map aY=l at hd;have hr:cA l 1 6 eF=rc:=by
  rw[hd];cases rc with
  |true=>rfl
  |false=>unfold Bb fK;cases bX nm<;>rfl
 have h3:l.drop (bif rc then 2 else 1)=fK nm++aO iv::ts:=by rw[hd];cases rc<;>rfl
 have h4:=Gl h3;have h5:=Ak h4;have h6:((x::r).drop ((bif rc then 2 else 1)+(fK nm).length+1)).map aY=ts:=by rw[List.map_drop,hL];exact h5
 have key:Ad C m fx (x::r) e x.2.2.2=.ok (⟨m.opens,m.aU,m.aE,m.lets++[(nm,rc,t)]⟩,fx):=by unfold Ad;simp only[hL,hr];rw[zm3 h3];show eb (HI _ (Option.map _ (gy l ((bif rc then 2 else 1)+(fK nm).length) 6 iv))) _=_;rw[Pe h4];show eb (C.toks fx ((x::r).drop ((bif rc then 2 else 1)+(fK nm).length+1)) e) _=_;rw[ht _ e h6];show vT _ (C.lt (nm,rc,t)) _=_;rw[hl];rfl
 unfold vU;simp only[h1,h2];exact key
section
variable {l:List T3} {P:List Tx}
def TyV(P:List Tx)(t:List ND):Prop:=∃k s n ks,t=(tr k s n ks).flat/\wb P.length k s n ks/\km P.length ks
def H7(P:List Tx)(i:Nat)(x:List ND×Nat):Prop:=TyV P x.1/\TL 600 x.1/\x.1.length+i<=x.2
def Bc(l:List T3):Prop:=∀t,t∈l->t.2.1.length<=600/\(t.1=2->fb t.2.1=true)
theorem TL.one{x:ND}(h:x.2.1.length<=600):TL 600 [x]:=fun y hy=>by rw[zJ.1 hy];exact h
theorem TL.tree{s:Tx}{ks:F}(h1:s.length<=600)(h2:TL 600 ks.flat):TL 600 (tr k s n ks).flat:=fun x hx=>by
 rw[yW] at hx;rcases zA.1 hx with rfl|hx
 ·exact h1
 ·exact h2 x hx
theorem TL.app{a b:List ND}(h1:TL 600 a)(h2:TL 600 b):TL 600 (a++b):=fun x hx=>(zD.1 hx).elim (h1 x) (h2 x)
theorem TL.cons{s:Tx}{a r:F}(h1:TL 600 (tr k s n a).flat)(h2:TL 600 r.flat):TL 600 (F.cons k s n a r).flat:=fun x hx=>by
 rw[yW] at h1;rcases zA.1 hx with rfl|hx
 ·exact h1 _ (zg ..)
 ·exact(zD.1 hx).elim (fun h=>h1 x (zf _ h)) (h2 x)
theorem TL.nil:TL 600 []:=nofun
theorem Pf(hc:Bc l)(i:Nat):(tx l i).length<=600:=by
 unfold tx;cases hi:l[i]? with
 |none=>exact zC _
 |some t=>exact(hc t (zH hi)).1
theorem zfn{s:Tx}{t:List ND}(h:vQ P s=some t):TyV P t/\t.length=1/\TL 600 t:=by
 unfold vQ at h;by_cases h1:s∈P
 ·rw[zw h1] at h;cases h;refine⟨⟨31,[],((P.idxOf s:Nat):Int),.nil,rfl,.inl ⟨rfl,rfl,by omega,?_,rfl⟩,trivial⟩,rfl,TL.one (zC _)⟩
  grind
 ·rw[zt h1] at h;by_cases h2:s=eS\/s=lN
  ·have e:(decide (s=eS)||decide (s=lN))=true:=by simp_all
   rw[e] at h;cases h;exact⟨⟨32,s,0,.nil,rfl,.inr ⟨rfl,rfl,.inr (.inr (.inl ⟨h2,rfl⟩))⟩,trivial⟩,rfl,TL.one (by rcases h2 with rfl|rfl<;>decide)⟩
  grind
theorem Gn{s:Tx}(h:gy l i k s=some j):j=i+1/\cA l i k s=true:=by
 unfold gy at h;cases h2:cA l i k s with
 |true=>rw[h2] at h;injection h with h;exact⟨h.symm,rfl⟩
 |false=>rw[h2] at h;cases h
theorem Yr(hc:Bc l)(h:cA l i 2 []=true):fb (tx l i)=true:=by
 unfold cA at h;unfold tx;cases hi:l[i]? with
 |none=>rw[hi] at h;cases h
 |some t=>rw[hi] at h;rw[ze,zV] at h;exact(hc t (zH hi)).2 h.1
theorem Ys(hc:Bc l)(hT:∀i x,typ i=some x->H7 P i x)(h:xo l P typ i=some x):H7 P i x:=by
 unfold xo at h;cases h1:cA l i 1 [] with
 |true=>rw[h1,zK,jj] at h;obtain⟨t,h2,rfl⟩:=h;have⟨a,b,c⟩:=zfn h2;exact⟨a,c,by show t.length+i<=i+1;omega⟩
 |false=>
  rw[h1,zE] at h;cases h2:cA l i 2 [] with
  |true=>rw[h2] at h;cases h;exact⟨⟨32,tx l i,0,.nil,rfl,.inr ⟨rfl,rfl,.inr (.inr (.inr (Yr hc h2)))⟩,trivial⟩,TL.one (Pf hc i),by show 1+i<=i+1;omega⟩
  |false=>rw[h2,zE,zO] at h;have⟨j,h4,h⟩:=h;rw[zO] at h;have⟨y,h3,h⟩:=h;rw[jj] at h;obtain⟨z,h5,rfl⟩:=h;have q1:=(Gn h4).1;have q2:=(Gn h5).1;have⟨a,c,b⟩:=hT j y h3;exact⟨a,c,by show y.1.length+i<=z;omega⟩
theorem F.snoc(f:F)(k:Int)(s:Tx)(n:Int)(ks:F)(h:km P.length f)(h1:wb P.length k s n ks)(h2:km P.length ks):∃g,km P.length g/\kE g=kE f++[(tr k s n ks).flat]/\g.size=f.size+(ks.size+1)/\g.flat=f.flat++(tr k s n ks).flat:=by
 induction f with
 |nil=>exact⟨.cons k s n ks .nil,⟨h1,h2,trivial⟩,rfl,by show ks.size+0+1=0+_;omega,rfl⟩
 |cons a b c d r _ ih=>
  have⟨g,e1,e2,e3,e4⟩:=ih h.2.2;refine⟨.cons a b c d g,⟨h.1,h.2.1,e1⟩,?_,by show d.size+g.size+1=d.size+r.size+1+_;omega,?_⟩
  ·show _::kE g=(_::kE r)++_;rw[e2];rfl
  ·show _::(d.flat++g.flat)=(_::(d.flat++r.flat))++_
   grind
theorem C8(k:Int)(s:Tx)(n:Int)(ks:F):(tr k s n ks).flat.length=ks.size+1:=(tr k s n ks).len
theorem qtc(hc:Bc l)(hT:∀i x,typ i=some x->H7 P i x):∀(f i:Nat) (ks:F) (x:List (List ND)×Nat),km P.length ks->TL 600 ks.flat->uO l P typ f i (kE ks)=some x->∃g,km P.length g/\x.1=kE g/\g.size+i<=x.2+ks.size/\TL 600 g.flat
 |0,_,_,_,_,_,h=>by cases h
 |f+1,i,ks,x,hk,he,h=>by
  unfold uO at h;cases h1:A3 l i with
  |true=>
   rw[h1,zK,zO] at h;have⟨y,h2,h⟩:=h;have⟨⟨k,s,n,a,e,g1,g2⟩,g6,g3⟩:=Ys hc hT h2;rw[e,C8] at g3;rw[e] at g6;have⟨g,e1,e2,e3,e4⟩:=F.snoc ks k s n a hk g1 g2;rw[e,<-e2] at h;have⟨g',q1,q2,q3,q4⟩:=qtc hc hT f _ g x e1 (by rw[e4];exact he.app g6) h
   grind
  |false=>grind
end
section
variable {l:List T3} {P:List Tx}
theorem zfo(hc:Bc l)(hT:∀i x,typ i=some x->H7 P i x)(h:D4 l P typ i=some x):H7 P i x:=by
 unfold D4 at h;cases h1:cA l i 1 dI with
 |true=>
  rw[h1,zK,jj] at h;obtain⟨y,h2,rfl⟩:=h;obtain⟨⟨k,s,n,a,e,g1,g2⟩,g6,g3⟩:=Ys hc hT h2;rw[e,C8] at g3;rw[e] at g6;have e1:nd 32 dI [y.1]=(tr 32 dI 0 (.cons k s n a .nil)).flat:=by rw[<-vZ,e];rfl
  refine⟨⟨32,dI,0,.cons k s n a .nil,e1,.inr ⟨rfl,rfl,.inr (.inl ⟨rfl,rfl⟩)⟩,g1,g2,trivial⟩,?_,?_⟩
  ·show TL 600 (nd 32 dI [y.1]);rw[e1];exact TL.tree dc g6
  show(nd 32 dI [y.1]).length+i<=y.2;rw[e1,C8];show a.size+0+1+1+i<=_;omega
 |false=>
  rw[h1,zE] at h;cases h2:cA l i 2 [] with
  |true=>
   rw[h2,zK,jj] at h;obtain⟨y,h3,rfl⟩:=h;obtain⟨g,e1,e2,e3,e6⟩:=qtc hc hT _ _ .nil y trivial TL.nil h3;have e4:nd 32 (tx l i) y.1=(tr 32 (tx l i) 0 g).flat:=by rw[<-vZ,<-e2]
   refine⟨⟨32,tx l i,0,g,e4,.inr ⟨rfl,rfl,.inr (.inr (.inr (Yr hc h2)))⟩,e1⟩,?_,?_⟩
   ·show TL 600 (nd 32 (tx l i) y.1);rw[e4];exact TL.tree (Pf hc i) e6
   show(nd 32 (tx l i) y.1).length+i<=y.2;rw[e4,C8];have e3:g.size+(i+1)<=y.2+0:=e3;omega
  |false=>rw[h2,zE] at h;exact Ys hc hT h
theorem zfp(hc:Bc l)(hT:∀i x,typ i=some x->H7 P i x)(h:z7 l P typ i=some x):H7 P i x:=by
 unfold z7 at h;rw[zO] at h;obtain⟨y,h1,h⟩:=h;have hy:=zfo hc hT h1;cases h2:cA l y.2 6 av with
 |true=>
  rw[h2,zK,jj] at h;obtain⟨z,h3,rfl⟩:=h;obtain⟨⟨k,s,n,a,e,g1,g2⟩,g6,g3⟩:=hy;obtain⟨⟨k',s',n',a',e',g1',IA⟩,g6',Qh⟩:=hT _ z h3;rw[e] at g6;rw[e'] at g6';rw[e,C8] at g3;rw[e',C8] at Qh;have e4:nd 32 av [y.1,z.1]=(tr 32 av 0 (.cons k s n a (.cons k' s' n' a' .nil))).flat:=by rw[<-vZ,e,e'];rfl
  refine⟨⟨32,av,0,.cons k s n a (.cons k' s' n' a' .nil),e4,.inr ⟨rfl,rfl,.inl ⟨rfl,rfl⟩⟩,g1,g2,g1',IA,trivial⟩,?_,?_⟩
  ·show TL 600 (nd 32 av [y.1,z.1]);rw[e4];exact TL.tree dc (TL.cons g6 (TL.cons g6' TL.nil))
  show(nd 32 av [y.1,z.1]).length+i<=z.2;rw[e4,C8];show a.size+(a'.size+0+1)+1+1+i<=_;omega
 |false=>grind
theorem qtd(hc:Bc l):∀(d i:Nat) (x:List ND×Nat),qU l P d i=some x->H7 P i x
 |0,_,_,h=>by cases h
 |d+1,_,_,h=>zfp hc (qtd hc d) h
def CnV(P:List Tx)(i:Nat)(x:CX×Nat):Prop:=∃c:Tx×F,x.1=cg c/\fb c.1=true/\km P.length c.2/\1+c.2.size+i<=x.2/\c.1.length<=600/\TL 600 c.2.flat
theorem zar(hc:Bc l){x:CX×Nat}(h:nA l P i=some x):CnV P i x:=by
 unfold nA at h;rw[zO] at h;obtain⟨j,h1,h⟩:=h;obtain⟨h5,h6⟩:=Gn h1;have hn:=Yr hc h6;cases h2:cA l j 6 xm with
 |true=>
  rw[h2,zK,zO] at h;obtain⟨y,h3,h⟩:=h;rw[jj] at h;obtain⟨z,h4,rfl⟩:=h;obtain⟨⟨k,s,n,a,e,g1,g2⟩,g6,g3⟩:=Ys hc (qtd hc _) h3;rw[e,C8] at g3;rw[e] at g6;obtain⟨ks,k1,k2,k3,k6⟩:=qtc hc (qtd hc _) _ _ .nil z trivial TL.nil h4;have k3:ks.size+y.2<=z.2+0:=k3;refine⟨(tx l i,.cons k s n a ks),?_,hn,⟨g1,g2,k1⟩,?_,Pf hc i,TL.cons g6 k6⟩
  ·show(tx l i,ix (y.1::z.1))=(tx l i,ix ((tr k s n a).flat::kE ks));rw[e,k2]
  ·show 1+(a.size+ks.size+1)+i<=z.2;omega
 |false=>rw[h2,zE] at h;injection h with h;subst h;exact⟨(tx l i,.nil),rfl,hn,trivial,by show 1+0+i<=j;omega,Pf hc i,TL.nil⟩
end
def aB:List (Tx×F)->Nat
 |[]=>0
 |c::r=>1+c.2.size+aB r
section
variable {l:List T3} {P:List Tx}
theorem z23(hc:Bc l):∀(f i:Nat) (acc:List CX) (x:List CX×Nat),vR l P f i acc=some x->∃cs:List (Tx×F),x.1=acc++cs.map cg/\(∀c,c∈cs->(fb c.1=true/\km P.length c.2)/\c.1.length<=600/\TL 600 c.2.flat)/\aB cs+i<=x.2
 |0,_,_,_,h=>by cases h
 |f+1,i,acc,x,h=>by
  unfold vR at h;cases h1:cA l i 6 fA with
  |true=>
   rw[h1,zK,zO] at h;obtain⟨y,h2,h⟩:=h;obtain⟨c,e,g1,g2,g3,g4⟩:=zar hc h2;obtain⟨cs,e1,e2,e3⟩:=z23 hc f _ _ x h;refine⟨c::cs,?_,fun d hd=>?_,by show 1+c.2.size+aB cs+i<=_;omega⟩
   all_goals grind
  |false=>rw[h1] at h;injection h with h;subst h;exact⟨[],by show acc=acc++[];rw[zv],(fun _ h=>(by cases h)),by show 0+i<=i;omega⟩
theorem z24:∀(f i:Nat) (P:List Tx) (x:List Tx×Nat),rF l f i P=some x->x.1.length+i=x.2+P.length
 |0,_,_,_,h=>by cases h
 |f+1,i,P,x,h=>by
  unfold rF at h;cases h1:cA l i 1 [] with
  |true=>
   rw[h1,zK] at h;cases h2:decide (tx l i∈[eS,lN,dI]++P) with
   |true=>rw[h2] at h;cases h
   |false=>
    rw[h2,zE] at h;have:=z24 f _ _ x h
    grind
  |false=>grind
def H8(N:Nat)(d:DX):Prop:=∃(nm:Tx) (p:Nat) (c:Tx×F) (cs:List (Tx×F)),d=(nm,(p:Int),⟨false,(c::cs).map cg⟩)/\(fb nm=true/\nm.length<=600)/\(∀x,x∈c::cs->(fb x.1=true/\km p x.2)/\x.1.length<=600/\TL 600 x.2.flat)/\3+p+aB (c::cs)<=N
theorem zfq(hc:Bc l){x:DX×Nat}(h:D5 l=some x):H8 x.2 x.1:=by
 unfold D5 at h;rw[zO] at h;obtain⟨i,q0,h⟩:=h;rw[zO] at h;obtain⟨j,h1,h⟩:=h;have q0:=(Gn q0).1;obtain⟨q1,q2⟩:=Gn h1;have hn:=Yr hc q2;rw[zO] at h;obtain⟨p,q3,h⟩:=h;have q3:=z24 _ _ _ _ q3;have q3:p.1.length+j=p.2+0:=q3;rw[zO] at h;obtain⟨i2,q4,h⟩:=h;have q4:=(Gn q4).1;rw[zO] at h;obtain⟨c,h2,h⟩:=h;rw[jj] at h;obtain⟨y,h3,rfl⟩:=h;obtain⟨c0,e,g1,g2,g3,g4⟩:=zar hc h2;obtain⟨cs,e1,e2,e3⟩:=z23 hc _ _ _ y h3;refine⟨tx l i,p.1.length,c0,cs,?_,⟨hn,Pf hc i⟩,fun d hd=>?_,?_⟩
 ·grind
 ·grind
 ·show 3+p.1.length+(1+c0.2.size+aB cs)<=y.2;omega
end
inductive Gp (iH:List af):List af->List af->Prop
 |nil:Gp iH [] iH
 |snoc {X fx:List af} {f:af}:Gp iH X fx->(cX fx f).2=0->cT (X++[f])=0->f.1.length<=600->Gp iH (X++[f]) (cX fx f).1
def An(d:DX):Nat:=3+d.2.1.toNat+(d.2.2.l.map fun c=>1+lens c.2.l).sum
inductive M9:List DX->Prop
 |nil:M9 []
 |snoc {D:List DX} {d:DX}:M9 D->H8 (An d) d->(iF (D++[d])=0\/iF (D++[d])=102)->M9 (D++[d])
theorem zi1:∀f:F,ll (kE f)=f.size
 |.nil=>rfl
 |.cons k s n ks r=>by show(((tr k s n ks).flat::kE r).map fun t=>t.length).sum=ks.size+r.size+1;rw[zX,jW,C8];have:=zi1 r;unfold ll at this;omega
theorem zi2:∀cs:List (Tx×F),((cs.map cg).map fun c=>1+lens c.2.l).sum=aB cs
 |[]=>rfl
 |c::r=>by rw[zX,zX,jW,zi2 r];show 1+lens (ix (kE c.2)).l+aB r=1+c.2.size+aB r;rw[Xz,zi1]
theorem H8.sz{d:DX}(h:H8 N d):H8 (An d) d/\An d<=N:=by
 obtain⟨nm,p,c,cs,rfl,h1,h2,h3⟩:=h;have e:An (nm,(p:Int),⟨false,(c::cs).map cg⟩)=3+p+aB (c::cs):=by unfold An;rw[zi2];rfl
 exact⟨⟨nm,p,c,cs,rfl,h1,h2,Nat.le_of_eq e.symm⟩,by rw[e];exact h3⟩
def q7(t:List ND):Nat:=(t.map fun x=>oc x.1 x.2.1).sum
def xz(t:List ND):Nat:=(t.map fun x=>x.2.1.length).sum
theorem Yt:∀f:F,q7 f.flat=dJ f
 |.nil=>rfl
 |.cons k t n ks r=>by
  have h1:=Yt ks;have h2:=Yt r;show((((k,t,n,(ks.aq:Int)):ND)::(ks.flat++r.flat)).map fun x=>oc x.1 x.2.1).sum=oc k t+dJ ks+dJ r;unfold q7 at h1 h2
  grind
theorem cw_0:∀f:F,cw (fun _=>0) f=dJ f
 |.nil=>rfl
 |.cons k t n ks r=>by show oc k t+0+cw _ ks+cw _ r=oc k t+dJ ks+dJ r;rw[cw_0 ks,cw_0 r];omega
theorem zm4:∀f:F,cw List.length f=dJ f+xz f.flat
 |.nil=>rfl
 |.cons k t n ks r=>by
  have h1:=zm4 ks;have h2:=zm4 r;have e:xz (F.cons k t n ks r).flat=t.length+(xz ks.flat+xz r.flat):=by show((((k,t,n,(ks.aq:Int)):ND)::(ks.flat++r.flat)).map fun x=>x.2.1.length).sum=_;rw[zX,jn,jW,Zy];rfl
  show oc k t+t.length+cw _ ks+cw _ r=oc k t+dJ ks+dJ r+_;omega
theorem lw_0(l:List Tk):lw (fun _=>0) l=6*l.length:=by
 induction l with
 |nil=>rfl
 |cons t l ih=>
  unfold lw at ih ⊢
  grind
theorem zqm(l:List Tk):lw List.length l=6*l.length+Eb l:=by
 induction l with
 |nil=>rfl
 |cons t l ih=>
  unfold lw Eb at ih ⊢
  grind
structure Ug (x:Pz.LX):Prop where
 m:gK x=true
 t:∃k t n ks,x.2.2=(tr k t n ks).flat
 tl:TL 600 x.2.2
 gl:GL x.2.2
 ln:xz x.2.2<=4200
def q8(D:List DX):Nat:=(D.map An).sum
def mI(L:List Pz.LX):Nat:=(L.map fun x=>q7 x.2.2+8).sum
structure Ed (iH:List af) (m:MX) (fx:List af) (n:Nat):Prop where
 o:∀s,s∈m.opens->nB s=true
 x:Gp iH m.aU fx
 z:cT fx=0
 d:M9 m.aE
 l:∀x,x∈m.lets->Ug x
 c:3*m.opens.length+4*m.aU.length+6*q8 m.aE+mI m.lets<=6*n
structure TG (E:Int) (d:List Tk):Prop where
 t:∀t,t∈d->t.2.1.length<=600/\(t.1=1->bX t.2.1=false)/\(t.1=2->fb t.2.1=true)
 n:Eb d<=600
 l:d.length<=600
 k:uP E d
theorem zas(a b:List Tk):Eb (a++b)=Eb a+Eb b:=by unfold Eb;rw[jn,Zy]
theorem TG.drop(h:TG E d)(k:Nat):TG E (d.drop k):=by have e:=zas (d.take k) (d.drop k);rw[jH] at e;exact⟨fun t ht=>h.t t (jB ht),by have:=h.n;omega,by have:=h.l;rw[jf];omega,h.k.drop k⟩
theorem zp9(f:α->Nat)(l:List α)(a:α):((l++[a]).map f).sum=(l.map f).sum+f a:=by grind
theorem zpa{t:List ND}(hG:TG E d)(h0:0<=e)(h1:e<=E)(hz:cT fx=0)(h:oA fx d e=.ok t):(∃k s n ks,t=(tr k s n ks).flat)/\TL 600 t/\GL t/\xz t<=4200/\q7 t+4<=6*d.length:=by
 have ha:pn (kP fx d e)=.ok t:=by
  unfold oA at h;cases hr:pn (kP fx d e) with
  |error q=>rw[hr] at h;cases h
  |ok z=>grind
 have H:=z8x (fx:=fx) hG.k h0 h1 hz;have hc:C4 (kP fx d e) fx:=⟨rfl,rfl⟩;have hN:∀t,t∈(kP fx d e).l->t.1=1->bX t.2.1=false:=fun t ht=>(hG.t t ht).2.1;have⟨k,s,n,ks,e1,a1⟩:=zow (lam:=fun _=>0) H rfl hz hc hN ha;have⟨k',s',n',cm,e2,a2⟩:=zow (lam:=List.length) H rfl hz hc hN ha;have a1:oc k s+0+cw (fun _=>0) ks+4<=lw (fun _=>0) d:=a1;have a2:oc k' s'+s'.length+cw List.length cm+4<=lw List.length d:=a2;rw[lw_0,cw_0] at a1;rw[zqm,zm4] at a2;have o1:q7 t=oc k s+dJ ks:=by rw[e1,Yt];rfl
 have o2:xz t=s'.length+xz cm.flat:=by rw[e2,yW];rfl
 have H2:po (kP fx d e) E (fun t=>t.length<=600) (fun _=>True):={
  tk:=fun t ht=>by have⟨_,q4,q5⟩:=hG.k t ht;exact⟨(hG.t t ht).1,trivial,q4,q5⟩
  e0:=h0
  e1:=h1
  q0:=zC _
  n0:=trivial
  cl:=fun ops x h=>qxz hz h}
 have ho:=Pz.cR H;have he:=Pz.cR H2;rw[ha] at ho he;have hl:=hG.l;have hn:=hG.n;refine⟨⟨k,s,n,ks,e1⟩,fun x hx=>(he.2 x hx).1,fun x hx=>?_,by omega,by omega⟩;have⟨⟨q1,q2⟩,q3⟩:=ho.2 x hx;exact⟨q1,q2,q3⟩
theorem zm5{m m':MX}{n:Nat}(hG:TG E d)(h0:0<=e)(h1:e<=E)(hI:Ed iH m fx n)(h:vU kS m fx d e=.ok (m',fx')):Ed iH m' fx' (n+d.length):=by
 have hc:=hI.c;cases d with
 |nil=>cases h
 |cons t d=>
  have h:(bif decide (t.1=6) then(bif decide (t.2.1=CU) then Xw kS m fx ((t::d).map aY) t.2.2.2 else bif decide (t.2.1=z8)||(decide (t.2.1=Aa)||decide (t.2.1=HH)) then Ac kS m fx ((t::d).map aY) t.2.2.2 else
    bif decide (t.2.1=nz) then OR kS m fx ((t::d).map aY) t.2.2.2 else bif decide (t.2.1=cN) then Ad kS m fx (t::d) e t.2.2.2 else .error (t.2.2.2,240)) else .error (t.2.2.2,240))=Except.ok (m',fx'):=h
  cases h6:decide (t.1=6) with
  |false=>rw[h6] at h;cases h
  |true=>
   rw[h6] at h;cases q1:decide (t.2.1=CU) with
   |true=>
    rw[q1] at h;have⟨j,_,h⟩:=HK h;have⟨g1,g2⟩:=z12 h;rw[ze] at g1;injection g2 with g2 g3;subst g2 g3;refine⟨fun s hs=>?_,hI.x,hI.z,hI.d,hI.l,?_⟩
    ·rcases zD.1 hs with hs|hs
     ·exact hI.o s hs
     ·rw[zJ.1 hs];exact g1.2
    grind
   |false=>
    rw[q1] at h;cases q2:(decide (t.2.1=z8)||(decide (t.2.1=Aa)||decide (t.2.1=HH))) with
    |true=>
     rw[q2] at h;have⟨f,k1,h⟩:=HK h;have⟨g1,g2⟩:=z12 h;rw[ze,ze] at g1;have he:Bc ((t::d).map aY):=fun u hu=>by obtain⟨v,hv,rfl⟩:=jS.1 hu;exact⟨(hG.t v hv).1,(hG.t v hv).2.2⟩
     have g6:f.1.1.length<=600:=by
      have k1:=z8s k1;unfold vS at k1;rw[zO] at k1;have⟨i,_,k1⟩:=k1;cases hr:decide (0<=ML ((t::d).map aY) 1/\ML ((t::d).map aY) 1<=9) with
      |false=>rw[hr] at k1;cases k1
      |true=>rw[hr,zK,jj] at k1;obtain⟨j,_,rfl⟩:=k1;exact Pf he i
     have g4:=zZ g1.2.1;have g5:=zZ g1.2.2;injection g2 with g2 g3;subst g2 g3;refine⟨hI.o,.snoc hI.x g4 g5 g6,zh7 hI.z g4,hI.d,hI.l,?_⟩
     grind
    |false=>
     rw[q2] at h;cases q3:decide (t.2.1=nz) with
     |true=>
      rw[q3] at h;have⟨f,k1,h⟩:=HK h;have⟨g1,g2⟩:=z12 h;rw[ze,jk] at g1;have g4:=zZ g1.1;have g5:=g1.2.imp zZ zZ;rw[zI] at g4;injection g2 with g2 g3;subst g2 g3;have he:Bc ((t::d).map aY):=fun u hu=>by obtain⟨v,hv,rfl⟩:=jS.1 hu;exact⟨(hG.t v hv).1,(hG.t v hv).2.2⟩
      have⟨v1,v2⟩:=(zfq he (z8s k1)).sz;refine⟨hI.o,hI.x,hI.z,.snoc hI.d v1 g5,hI.l,?_⟩;show 3*m.opens.length+4*m.aU.length+6*((m.aE++[_]).map An).sum+mI m.lets<=_;rw[zp9];have:q8 m.aE=(m.aE.map An).sum:=rfl;omega
     |false=>
      rw[q3] at h;cases q4:decide (t.2.1=cN) with
      |true=>
       rw[q4] at h;have⟨j,k1,h⟩:=HK h;have⟨z,k2,h⟩:=HK h;have⟨g1,g2⟩:=z12 h;injection g2 with g2 g3;subst g2 g3;have⟨v1,v2,v3,v4,v5⟩:=zpa (hG.drop j.2) h0 h1 hI.z k2;have hj:2<=j.2:=by
        have k1:=z8s k1;rw[zO] at k1;have⟨b,k3,k4⟩:=k1;rw[jj] at k4;obtain⟨i2,k5,rfl⟩:=k4;have:=(Gn k5).1;unfold F1 at k3;have hb:1<=b.2:=by
         cases hx:cA ((t::d).map aY) (bif cA ((t::d).map aY) 1 6 eF then 2 else 1) 6 kL with
         |true=>rw[hx,zK,zO] at k3;have⟨p,_,k6⟩:=k3;rw[jj] at k6;obtain⟨p2,k7,rfl⟩:=k6;have:=(Gn k7).1;omega
         |false=>rw[hx,zE,jj] at k3;obtain⟨p,k7,rfl⟩:=k3;have:=(Gn k7).1;omega
        omega
       refine⟨hI.o,hI.x,hI.z,hI.d,fun y hy=>?_,?_⟩
       ·rcases zD.1 hy with hy|hy
        ·exact hI.l y hy
        ·rw[zJ.1 hy];exact⟨g1,v1,v2,v3,v4⟩
       ·show 3*m.opens.length+4*m.aU.length+6*q8 m.aE+((m.lets++[_]).map fun x:Pz.LX=>q7 x.2.2+8).sum<=_;rw[zp9];have:mI m.lets=(m.lets.map fun x=>q7 x.2.2+8).sum:=rfl
        grind
      |false=>rw[q4] at h;cases h
theorem Ed.mono{m:MX}{n k:Nat}(h:Ed iH m fx n)(hk:n<=k):Ed iH m fx k:=⟨h.o,h.x,h.z,h.d,h.l,by have:=h.c;omega⟩
theorem TG.app{a b:List Tk}(h:TG E (a++b)):TG E a/\TG E b:=by have e:=zas a b;have hn:=h.n;have hl:=h.l;rw[zd] at hl;exact⟨⟨fun t ht=>h.t t (zN _ ht),by omega,by omega,fun t ht=>h.k t (zN _ ht)⟩,⟨fun t ht=>h.t t (zG _ ht),by omega,by omega,fun t ht=>h.k t (zG _ ht)⟩⟩
theorem qyr{m':MX}:∀(l cur:List Tk) (m:MX) (fx:List af) (n:Nat),TG E (cur++l)->Ed iH m fx n->py kS l cur m fx=.ok ([],m',fx')->Ed iH m' fx' (n+(cur.length+l.length))
 |[],cur,m,fx,n,_,hI,h=>by
  injection h with h
  grind
 |t::l,cur,m,fx,n,hG,hI,h=>by
  have h:(bif Ae t then _ else _)=Except.ok ([],m',fx'):=h;have hl:(t::l).length=l.length+1:=rfl;cases hE:Ae t with
  |true=>rw[hE] at h;have⟨y,h1,h2⟩:=HK h;have⟨g1,g2⟩:=hG.app;have ht:=g2.k t (zg ..);have hc:=zm5 g1 ht.2.1 ht.2.2 hI h1;have g3:=(TG.app (a:=[t]) g2).2;exact(qyr l [] y.1 y.2 _ g3 hc h2).mono (by show n+cur.length+(0+l.length)<=_;omega)
  |false=>
   rw[hE] at h;have:=qyr l (cur++[t]) m fx n (by rw[zk];exact hG) hI h
   grind
theorem M9.at(h:M9 D):∀D0 d D1,D=D0++d::D1->(iF (D0++[d])=0\/iF (D0++[d])=102)/\H8 (An d) d:=by
 induction h with
 |nil=>intro D0 d D1 h;cases D0<;>cases h
 |@snoc D d' _ h2 h3 ih=>
  intro D0 d D1 h;rcases List.eq_nil_or_concat D1 with rfl|⟨D2,x,rfl⟩
  ·simp_all
  ·rw[List.concat_eq_append,<-jL,<-zk] at h;exact ih D0 d D2 (List.append_inj' h rfl).1
def Na(s:Tx):List T3:=[aO CU,(2,s,0)]++[aO oz]
def wg(f:af):List T3:=[aO (mU f.2.2),(3,[],f.2.1),(5,f.1,0)]++[aO oz]
theorem qol(fx:List af)(rest:List T3):∀(O' O:List Tx) (l:List Tk),(∀s,s∈O'->nB s=true)->l.map aY=O'.flatMap Na++rest->∃l',l'.map aY=rest/\py kS l [] ⟨O,[],[],[]⟩ fx=py kS l' [] ⟨O++O',[],[],[]⟩ fx
 |[],O,l,_,h=>⟨l,h,by rw[zv]⟩
 |s::O',O,l,hs,h=>by
  have⟨l1,h1,h2⟩:=Yq (C:=kS) (m:=⟨O,[],[],[]⟩) (m':=⟨O++[s],[],[],[]⟩) (fx:=fx) (fx':=fx) (ts:=[aO CU,(2,s,0)]) (rest:=O'.flatMap Na++rest) h rfl
   (fun d e hd=>zap e hd (hs s (zg ..)))
  have⟨l2,h3,h4⟩:=qol fx rest O' (O++[s]) l1 (fun x hx=>hs x (zf _ hx)) h1
  grind
theorem zfr(x:Int):O7 (aO (mU x))=true:=by
 unfold mU;split
 ·rfl
 split<;>rfl
theorem qyu(O:List Tx)(h:Gp iH X fx):∀(rest:List T3) (l:List Tk),l.map aY=X.flatMap wg++rest->∃l',l'.map aY=rest/\py kS l [] ⟨O,[],[],[]⟩ iH=py kS l' [] ⟨O,X,[],[]⟩ fx:=by
 induction h with
 |nil=>exact fun rest l h=>⟨l,h,rfl⟩
 |@snoc X fx f h1 h2 h3 _ ih=>
  intro rest l h;rw[List.flatMap_append,zk] at h;have⟨l1,g1,g2⟩:=ih _ l h;have hr:=TF h3 f (zG _ (zJ.2 rfl));have so:=za1 hr;have g1:l1.map aY=[aO (mU f.2.2),(3,[],f.2.1),(5,f.1,0)]++aO oz::rest:=by rw[g1];rfl
  have⟨l2,g3,g4⟩:=Yq (C:=kS) (m:=⟨O,X,[],[]⟩) (m':=⟨O,X++[f],[],[]⟩) (fx:=fx) (fx':=(cX fx f).1) g1
   (by show(O7 (aO (mU f.2.2))&&_)=true;rw[zfr];rfl)
   (fun d e hd=>zfl e hd so.1 so.2.1 om h2 h3)
  grind
def Ee:List DX->List T3->Prop
 |[],TS=>TS=[]
 |d::D,TS=>∃ts Ao,TS=aO nz::ts++aO oz::Ao/\df (aO nz::ts)/\D5 (aO nz::ts)=some (d,(aO nz::ts).length)/\ts.length+2<=3*An d/\Ee D Ao
theorem qom(O:List Tx)(X fx:List af)(rest:List T3)(hD:M9 D):∀(D1 D0:List DX) (TS:List T3) (l:List Tk),D=D0++D1->Ee D1 TS->l.map aY=TS++rest->∃l',l'.map aY=rest/\py kS l [] ⟨O,X,D0,[]⟩ fx=py kS l' [] ⟨O,X,D,[]⟩ fx
 |[],D0,TS,l,e,ht,h=>by
  have ht:TS=[]:=ht
  grind
 |d::D1,D0,TS,l,e,⟨ts,Ao,e1,h1,h2,_,h4⟩,h=>by
  rw[e1,zk] at h;have⟨l1,g1,g2⟩:=Yq (C:=kS) (m:=⟨O,X,D0,[]⟩) (m':=⟨O,X,D0++[d],[]⟩) (fx:=fx) (fx':=fx) (ts:=aO nz::ts) (rest:=Ao++rest) h h1
   (fun d' e' hd=>zaq e' hd h2 (hD.at D0 d D1 e).1)
  have⟨l2,g3,g4⟩:=qom O X fx rest hD D1 (D0++[d]) Ao l1 (by rw[zk];exact e) h4 g1
  grind
def C9(fx:List af):List Pz.LX->List T3->Prop
 |[],TS=>TS=[]
 |x::L,TS=>∃ts Ao,TS=Bb x.2.1 x.1 ts++aO oz::Ao/\df (Bb x.2.1 x.1 ts)/\(∀d e,d.map aY=ts->oA fx d e=.ok x.2.2)/\(Bb x.2.1 x.1 ts).length+1<=q7 x.2.2+8/\C9 fx L Ao
theorem qqy(O:List Tx)(X fx:List af)(D:List DX)(rest:List T3):∀(L1 L0:List Pz.LX) (TS:List T3) (l:List Tk),(∀x,x∈L1->gK x=true)->C9 fx L1 TS->l.map aY=TS++rest->∃l',l'.map aY=rest/\py kS l [] ⟨O,X,D,L0⟩ fx=py kS l' [] ⟨O,X,D,L0++L1⟩ fx
 |[],L0,TS,l,_,ht,h=>by
  have ht:TS=[]:=ht
  grind
 |x::L1,L0,TS,l,hm,⟨ts,Ao,e1,h1,h2,_,h4⟩,h=>by
  rw[e1,zk] at h;have⟨l1,g1,g2⟩:=Yq (C:=kS) (m:=⟨O,X,D,L0⟩) (m':=⟨O,X,D,L0++[x]⟩) (fx:=fx) (fx':=fx) (rest:=Ao++rest) h h1
   (fun d' e' hd=>zfm e' hd h2 (hm x (zg ..)))
  have⟨l2,g3,g4⟩:=qqy O X fx D rest L1 (L0++[x]) Ao l1 (fun y hy=>hm y (zf _ hy)) h4 g1
  grind
theorem z4s{name s T:Tx}{m:MX}(h:F2 name s iH=.ok m){n:Nat}(hI:Ed iH m fx n){TD TL:List T3}(h1:Ee m.aE TD)(h2:C9 fx m.lets TL)(hT:LO T (m.opens.flatMap Na++(m.aU.flatMap wg++(TD++TL)))):F2 name T iH=.ok m/\∃l,fB (T.length+1) T 0=.ok l/\l.length=(m.opens.flatMap Na++(m.aU.flatMap wg++(TD++TL))).length:=by have⟨hz,_,_,_,_,hc⟩:=qso h;have hx:=hT [] [] fI.nil;rw[zv,zv] at hx;have⟨l,e1,e2⟩:=hx (T.length+1) 0 (jG _);refine⟨?_,l,e1,by rw[<-e2,zI]⟩;have⟨l1,a1,a2⟩:=qol iH _ m.opens [] l hI.o e2;have⟨l2,b1,b2⟩:=qyu ([]++m.opens) hI.x _ l1 a1;have⟨l3,c1,c2⟩:=qom ([]++m.opens) m.aU fx _ hI.d m.aE [] TD l2 rfl h1 b1;rw[<-zv TL] at c1;have⟨l4,d1,d2⟩:=qqy ([]++m.opens) m.aU fx m.aE [] m.lets [] TL l3 (fun x hx=>(hI.l x hx).m) h2 c1;have d1:=Jm.1 d1;subst d1;unfold F2;rw[zj (by simp_all),e1];show eb (py kS l [] ⟨[],[],[],[]⟩ iH) _=_;rw[a2,b2,c2,d2];show(if gX name m=0 then Except.ok m else .error (0,gX name m):PR MX)=_;rw[zu hc]
theorem zat(hp:p<=8):∀f:F,km p f->∀x,x∈f.flat->OkT x
 |.nil,_,_,h=>by cases h
 |.cons k s n ks r,⟨h1,h2,h3⟩,x,hx=>by
  rcases zA.1 hx with rfl|hx
  ·refine⟨fun e=>?_,fun e e2=>?_⟩
   ·have e:=e;rcases h1 with ⟨_,_,h4,h5,_⟩|⟨h4,_⟩
    all_goals grind
   ·have e2:=e2;show(ks.aq:Int)=2;rcases h1 with ⟨h4,_⟩|⟨_,_,⟨_,h⟩|⟨h,_⟩|⟨h,_⟩|h⟩
    ·exact absurd h4 e
    ·omega
    ·rw[h] at e2;cases e2
    ·rcases h with h|h<;>(rw[h] at e2;cases e2)
    ·exact absurd e2 (zhv h)
  ·exact(zD.1 hx).elim (zat hp ks h2 x) (zat hp r h3 x)
theorem zfs(hp:p<=8){s:Tx}{ks:F}(h1:wb p k s n ks)(h2:km p ks)(ht:TL 600 (tr k s n ks).flat)(hs:ks.size<=900)(b:Bool):Cl (⟨b,(tr k s n ks).flat⟩,0,true,false,())=some (oD k s n ks true false,()):=z9y (b:=b) (l:=(tr k s n ks).flat) ⟨zat hp (tr k s n ks) ⟨h1,h2,trivial⟩,fun x hx=>je (ht x hx) dc,by rw[C8];omega⟩ (S1 k s n ks) true false
abbrev Ap(r:F):List SN:=(kE r).map fun t=>(⟨false,t⟩:SN)
theorem TL.fst{s:Tx}{a r:F}(h:TL 600 (F.cons k s n a r).flat):TL 600 (Fn.tr k s n a).flat/\TL 600 r.flat:=by exact⟨TL.tree (h _ (zg ..)) fun x hx=>h x (zf _ (zN _ hx)),fun x hx=>h x (zf _ (zG _ hx))⟩
theorem qon(hp:p<=8)(b:Bool)(C:Sl CT)(n i:Int):∀(r:F) (pre:List SN) (s:Tx),km p r->TL 600 r.flat->r.size<=900->pre.length+r.size<=1000->s.length+610*r.size<=2000000000->aI tC (s,C,n,i,⟨b,pre++Ap r⟩,((pre.length+r.aq:Nat):Int),(pre.length:Int),())=some (.inl (s++eX r 0,C,n,bc .i64 i 1,()))
 |.nil,pre,s,_,_,_,_,_=>by refine bG ?_;rw[q9l];rw[bf,zj (by show ¬(pre.length:Int)<((pre.length+0:Nat):Int);omega),show eX .nil 0=[] from rfl,zv]
 |.cons k t m ks r,pre,s,⟨h1,h2,h3⟩,ht,hz,he,hs=>by
  have hz:ks.size+r.size+1<=900:=hz;have he:pre.length+(ks.size+r.size+1)<=1000:=he;have hs:s.length+610*(ks.size+r.size+1)<=2000000000:=hs;obtain⟨t1,t2⟩:=ht.fst;have e:=zfs hp h1 h2 t1 om false;have hf:=z9u (B:=600) (k:=k) (s:=t) (n:=m) (ks:=ks) true false t1;have step:tC (s,C,n,i,⟨b,pre++Ap (.cons k t m ks r)⟩,((pre.length+(F.cons k t m ks r).aq:Nat):Int),(pre.length:Int),())=some (.inl (s++([32]++oD k t m ks true false),C,n,i,⟨b,pre++Ap (.cons k t m ks r)⟩,((pre.length+(F.cons k t m ks r).aq:Nat):Int),((pre.length+1:Nat):Int),())):=by rw[q9l];have a0:fL (pre++Ap (.cons k t m ks r)) (pre.length:Int)=some (⟨false,(tr k t m ks).flat⟩:SN):=XV pre _ _;rw[bf,zu (by show(pre.length:Int)<((pre.length+(r.aq+1):Nat):Int);omega),a0,ae,e,ae];simp only;rw[en (by show 1+_<=_;omega),en (by rw[lj,zd];show _+(1+_)<=_;omega),lj,lj,aG om]
  have e2:pre++Ap (.cons k t m ks r)=(pre++[(⟨false,(tr k t m ks).flat⟩:SN)])++Ap r:=by rw[zk];rfl
  have hc:(pre++[(⟨false,(tr k t m ks).flat⟩:SN)]).length=pre.length+1:=by rw[zd];rfl
  have hg:pre.length+(F.cons k t m ks r).aq=(pre++[(⟨false,(tr k t m ks).flat⟩:SN)]).length+r.aq:=by rw[hc];show pre.length+(r.aq+1)=_;omega
  have ih:=qon hp b C n i r (pre++[(⟨false,(tr k t m ks).flat⟩:SN)]) (s++([32]++oD k t m ks true false)) h3 t2 om (by rw[hc];omega) (by rw[zd,zd];show _+(1+_)+_<=_;omega);rw[cY step,e2,hg,<-hc,ih];show some (Sum.inl (s++([32]++oD k t m ks true false)++eX r 0,C,n,bc .i64 i 1,()))=some (Sum.inl (s++([32]++oD k t m ks true false++eX r 0),C,n,bc .i64 i 1,()));rw[zk]
def xA:Nat->List (Tx×F)->Tx
 |_,[]=>[]
 |k,c::r=>qZ k++kA c++xA (k+1) r
theorem qoo:∀(cs:List (Tx×F)) (k:Nat),xA (k+1) cs=we cs
 |[],_=>rfl
 |c::r,k=>by show qZ (k+1)++kA c++xA (k+1+1) r=[32]++([124]++([32]++(kA c++we r)));rw[qoo r (k+1),show qZ (k+1)=[32,124,32] from zj (Jg k)];simp
theorem qyv(c:Tx×F):kA c=c.1++(Ga (cg c)++eX c.2 0):=by
 have⟨s,ks⟩:=c;cases ks with
 |nil=>rfl
 |cons k t n a b=>rfl
theorem z25{c:Tx×F}(_:km p c.2)(h1:c.1.length<=600)(ht:TL 600 c.2.flat):(kA c).length+3<=610*(1+c.2.size):=by have h3:=z9z (cg c);have h4:=(TH (B:=600) c.2 ht).1;rw[qyv,zd,zd];omega
def wh(p:Nat)(cs:List (Tx×F)):Prop:=∀x,x∈cs->(fb x.1=true/\km p x.2)/\x.1.length<=600/\TL 600 x.2.flat
theorem qwg:∀(cs:List (Tx×F)) (k:Nat),wh p cs->(xA k cs).length<=610*aB cs
 |[],_,_=>zC _
 |c::r,k,h=>by have⟨⟨_,h1⟩,h2,h3⟩:=h c (zg ..);have a:=z25 h1 h2 h3;have b:=qwg r (k+1) fun x hx=>h x (zf _ hx);show(qZ k++kA c++xA (k+1) r).length<=610*(1+c.2.size+aB r);rw[zd,zd,qyi];omega
theorem zau:∀cs:List (Tx×F),cs.length<=aB cs
 |[]=>zC _
 |c::r=>by have:=zau r;show r.length+1<=1+c.2.size+aB r;omega
theorem qop(hp:p<=8):∀(cs:List (Tx×F)) (pre:List CT) (s:Tx) (C:Sl CT),C.l=pre++cs.map cg->wh p cs->aB cs<=900->pre.length+cs.length<=1000->s.length+610*aB cs<=2000000000->aI tD (s,C,aa C.l,(pre.length:Int),())=some (.inr (s++xA pre.length cs,()))
 |[],pre,s,C,hC,_,_,_,_=>by
  refine bG ?_;rw[q9m];simp only;have hl:aa C.l=(pre.length:Int):=by rw[hC];show((pre++[]).length:Int)=_;rw[zv]
  rw[hl,bf,zj om,show xA pre.length []=[] from rfl,zv]
 |c::cs,pre,s,C,hC,hk,hz,he,hs=>by
  have hz:1+c.2.size+aB cs<=900:=hz;have he:pre.length+(cs.length+1)<=1000:=he;have hs:s.length+610*(1+c.2.size+aB cs)<=2000000000:=hs;obtain⟨⟨_,h1⟩,h2,h3⟩:=hk c (zg ..);have hf:C.l[pre.length]?=some (cg c):=by rw[hC,zM (zm _),jy];rfl
  have e0:(qZ pre.length++c.1).length=3+c.1.length:=by rw[zd,qyi]
  have hm:=z25 h1 h2 h3;have hg:c.2.size<=900:=om
  have e1:(aL (ah (pre.length:Int) 0) (aw (fit (bL (aa ([32,61,32]:Y1)) (aa c.1))) (fun _=>aw (fit (bL (aa s) (aa (fw ([32,61,32]:Y1) c.1)))) (fun _=>some (fw s (fw ([32,61,32]:Y1) c.1),C,aa C.l,(pre.length:Int),c.1,(cg c).2,())))) (aw (fit (bL (aa ([32,124,32]:Y1)) (aa c.1))) (fun _=>aw (fit (bL (aa s) (aa (fw ([32,124,32]:Y1) c.1)))) (fun _=>some (fw s (fw ([32,124,32]:Y1) c.1),C,aa C.l,(pre.length:Int),c.1,(cg c).2,())))))=some (s++(qZ pre.length++c.1),C,aa C.l,(pre.length:Int),c.1,(cg c).2,()):=by
   rw[kI];unfold qZ at e0 ⊢;by_cases h:pre.length=0
   ·rw[zu om,zu h,en (by show 3+_<=_;omega),en (by rw[lj,zd];show _+(3+_)<=_;omega)];rfl
   ·rw[zj om,zj h,en (by show 3+_<=_;omega),en (by rw[lj,zd];show _+(3+_)<=_;omega)];rfl
  have hn:=z9z (cg c);have hj:(cg c).2.l.length=c.2.aq:=by show((kE c.2).map fun t=>(⟨false,t⟩:SN)).length=_;rw[zI,qoh]
  have e2:(aL (aZ 0 (aa (cg c).2.l)) (aw (fit (bL (aa (s++(qZ pre.length++c.1))) (aa ([32,111,102]:Y1)))) (fun _=>some (fw (s++(qZ pre.length++c.1)) ([32,111,102]:Y1),C,aa C.l,(pre.length:Int),c.1,(cg c).2,()))) (some (s++(qZ pre.length++c.1),C,aa C.l,(pre.length:Int),c.1,(cg c).2,())))=some (s++(qZ pre.length++c.1)++Ga (cg c),C,aa C.l,(pre.length:Int),c.1,(cg c).2,()):=by
   unfold Ga;rw[show aZ 0 (aa (cg c).2.l)=decide (0<(cg c).2.l.length) from jz.2 (by show(0:Int)<(((cg c).2.l.length:Nat):Int)↔_;omega)];cases decide (0<(cg c).2.l.length) with
   |false=>rw[aJ,zE,zv]
   |true=>rw[aM,en (by rw[zd,e0];show _+3<=_;omega)];rfl
  have l1:(s++(qZ pre.length++c.1)++Ga (cg c)).length=s.length+(3+c.1.length)+(Ga (cg c)).length:=by rw[zd,zd,e0]
  have eG:=qyv c;have step:tD (s,C,aa C.l,(pre.length:Int),())=some (.inl (s++(qZ pre.length++kA c),C,aa C.l,((pre.length+1:Nat):Int),())):=by
   rw[q9m];simp only;rw[kl hf,aM,bJ hf,ae];refine jU (HA e1 _) ?_;refine jU (HA e2 _) ?_;simp only;have h:=qon hp (cg c).2.nil C (aa C.l) (pre.length:Int) c.2 [] (s++(qZ pre.length++c.1)++Ga (cg c)) h1 h3 hg (by show 0+_<=_;omega) (by rw[l1];omega);have hl:aa (cg c).2.l=((([]:List SN).length+c.2.aq:Nat):Int):=by
    show(((cg c).2.l.length:Nat):Int)=_
    grind
   rw[hl];refine jU h ?_;rw[aG om,eG]
   grind
  have e3:C.l=(pre++[cg c])++cs.map cg:=by rw[hC,zk];rfl
  have hc:(pre++[cg c]).length=pre.length+1:=by rw[zd];rfl
  have ih:=qop hp cs (pre++[cg c]) (s++(qZ pre.length++kA c)) C e3 (fun x hx=>hk x (zf _ hx)) om (by rw[hc];omega) (by rw[zd,zd,qyi];omega);rw[hc] at ih;rw[cY step,ih];show some (Sum.inr (s++(qZ pre.length++kA c)++xA (pre.length+1) cs,()))=some (Sum.inr (s++(qZ pre.length++kA c++xA (pre.length+1) cs),()));rw[zk]
theorem qyw(hp:p<=8)(nm:Tx){cs:List (Tx×F)}(hk:wh p cs)(hz:aB cs<=900):∀(m k:Nat) (s:Tx),k+m=p->s.length<=700+2*k->aI tE (s,(p:Int),(k:Int),nm,(p:Int),⟨false,cs.map cg⟩,())=some (s++Aj k m++xA 0 cs,()):=by
 intro m
 induction m with
 |zero=>intro k s hc hs;refine bG ?_;rw[q9n];simp only;rw[bf,zj om];have he:=zau cs;have e:=qop hp cs [] s ⟨false,cs.map cg⟩ rfl hk hz (by show 0+_<=_;omega) om;refine jU e ?_;rw[show Aj k 0=[] from rfl,zv];rfl
 |succ m ih=>
  intro k s hc hs;have hv:=zhk (n:=(k:Int)) om;have step:tE (s,(p:Int),(k:Int),nm,(p:Int),⟨false,cs.map cg⟩,())=some (.inl (s++[32,97+(k:Int)],(p:Int),((k+1:Nat):Int),nm,(p:Int),⟨false,cs.map cg⟩,())):=by rw[q9n];simp only;rw[bf,zu om,hv,en (by show 1+1<=_;omega),en (by show s.length+2<=_;omega),aG om];rfl
  rw[cY step];show _=some (s++([32,97+(k:Int)]++Aj (k+1) m)++xA 0 cs,())
  grind
theorem zav{c:Tx×F}{cs:List (Tx×F)}(_:p<=8)(hn:nm.length<=600)(hk:wh p (c::cs)):(Ba nm p c cs).length+3<=630*(3+p+aB (c::cs)):=by
 have h1:=qwg (c::cs) 0 hk;have e:Ba nm p c cs=[116,121,112,101,32]++nm++Aj 0 p++xA 0 (c::cs):=by show _=[116,121,112,101,32]++nm++Aj 0 p++([32,61,32]++kA c++xA 1 cs);rw[qoo cs 0];unfold Ba;simp
 rw[e,zd,zd,zd,qw3]
 grind
theorem zaw(hp:p<=8){c:Tx×F}{cs:List (Tx×F)}(hn:nm.length<=600)(hk:wh p (c::cs))(hz:aB (c::cs)<=900):yB ((nm,(p:Int),⟨false,(c::cs).map cg⟩),())=some (Ba nm p c cs,()):=by have e:=abL nm (p:Int) ⟨false,(c::cs).map cg⟩;rw[e,en (by show 5+_<=_;omega)];have h3:=qyw hp nm hk hz p 0 ([116,121,112,101,32]++nm) om (by rw[zd];show 5+_<=_;omega);refine jU h3 ?_;show some ([116,121,112,101,32]++nm++Aj 0 p++([32,61,32]++kA c++xA 1 cs),())=_;rw[qoo cs 0];unfold Ba;simp
theorem zpb(k:Int)(t:Tx):2<=oc k t:=by
 unfold oc
 grind
theorem qyx:∀t:List ND,2*t.length<=q7 t
 |[]=>zC _
 |x::r=>by
  have h1:=qyx r;have h2:=zpb x.1 x.2.1;unfold q7 at h1 ⊢
  grind
theorem zm6:∀f:F,wz f=4*xz f.flat+30*f.size
 |.nil=>rfl
 |.cons k t n ks r=>by
  have e:xz (F.cons k t n ks r).flat=t.length+(xz ks.flat+xz r.flat):=by show((((k,t,n,(ks.aq:Int)):ND)::(ks.flat++r.flat)).map fun x=>x.2.1.length).sum=_;rw[zX,jn,jW,Zy];rfl
  rw[e];show 4*t.length+30+wz ks+wz r=4*_+30*(ks.size+r.size+1);rw[zm6 ks,zm6 r];omega
theorem zm7(h:kz fx m ts l)(hm:m<=100)(hs:mD l=0)(d:List Tk)(e:Int)(hd:d.map aY=ts):oA fx d e=.ok l:=by
 have hc:ts.length=d.length:=by rw[<-hd,zI]
 have hh:Has (kP fx d e) 0 ts:=Has.of (by show(d.map aY).drop 0=ts;rw[hd];rfl);obtain⟨_,h2⟩:=h.2 (kP fx d e) 100 0 ⟨rfl,rfl⟩ hh (show j0 (kP fx d e) (0+ts.length)=false from qql (by show d.length<=0+ts.length;omega)) (show aX (kP fx d e) (0+ts.length) 5=false from qxy (by show d.length<=0+ts.length;omega) 5) hm;have ha:pn (kP fx d e)=.ok l:=by unfold pn;rw[h2];show(if 0+ts.length<d.length then _ else _)=_;rw[zj om]
 unfold oA
 grind
theorem z26{x:Pz.LX}(h:gK x=true):aS x.1=true/\mD x.2.2=0:=by
 unfold gK at h
 grind
theorem zft(b nb:Bool){x:Pz.LX}(hx:Ug x)(hf:gL fx)(hu:∀f,f∈fx->f.1.length<=700)(hz:cT fx=0)(ho:q7 x.2.2<=3600):∃s c,qC (⟨b,x.2.2⟩,⟨nb,fx⟩,())=some (s,c,())/\s.length<=540000*x.2.2.length/\(c=0->dL s/\∃ts,LX s ts/\df ts/\ts.length+1<=q7 x.2.2/\∀d e,d.map aY=ts->oA fx d e=.ok x.2.2)/\(c≠0->s=[]):=by
 obtain⟨_,hy⟩:=z26 hx.m;have hl:=qyx x.2.2;obtain⟨c,hc⟩:=zab x.2.2 fx om hx.gl hf;rcases hc with ⟨hc,h⟩|⟨rfl,k,t,m,ks,e,hv,he,_⟩
 ·refine⟨[],c,?_,zC _,fun e=>absurd e hc,fun _=>rfl⟩;rw[Mt,h,ae];simp only;rw[cZ hc];rfl
 ·have ht:=hx.tl;have hg:=hx.gl;have hB:=hx.ln;rw[e] at ht hg hB he hl ho hy ⊢;have hn:(tr k t m ks).flat.length=ks.size+1:=C8 k t m ks;have hC:q7 (tr k t m ks).flat=oc k t+dJ ks:=by rw[Yt];show oc k t+dJ ks+0=_;omega
  have hD:xz (tr k t m ks).flat=t.length+xz ks.flat:=by rw[yW];rfl
  have hw:=zm6 ks;have hA:TL 700 (tr k t m ks).flat:=fun x hx=>je (ht x hx) dc;have hj:=zle hv hz hu hg om hA;have hk:=zlf b nb hv hz hf hu hg om hA (he b);have hE:=z1a fx hv;by_cases hs:(dT fx k t m ks).p.doc.size<=4000
  ·have hm:=zop (fx:=fx) hz (k:=k) (t:=t) (n:=m) (ks:=ks) om (fun x hx=>(hg x hx).1) hv;obtain⟨ts,q1,q2,_,q4⟩:=Gi hm.1;have hq:(ic fx k ks).i+1<=100:=by have h1:=he true;rw[qju true k t m ks om hg] at h1;injection h1 with h1;injection h1 with h1;have h2:=(FP.1 h1).1;have h3:=zoy fx k ks;omega
   refine⟨_,0,z9t b nb hk hj hs,?_,fun _=>⟨qoi _ _ hj.rd (Yd _),ts,(q1 _ (Yd _)).1,q4.1,by rw[hC];exact q2,fun d e hd=>zm7 q4 hq hy d e hd⟩,fun e=>absurd rfl e⟩;refine je hj.len ?_;rw[hn];omega
  ·obtain⟨c,h1,h2⟩:=zf0 b nb hk hs;exact⟨[],c,h2,zC _,fun e=>absurd e h1,fun _=>rfl⟩
def Rest(s r:Tx)(c:Int)(Q:List T3->Prop):Prop:=(c≠0->r=[])/\(c=0->r.length<=262144/\∃u TS,r=s++u/\LO u TS/\dL u/\Q TS)
theorem dL.app{a:Tx}(ha:dL a)(hb:dL b):dL (a++b):=fun x hx=>(zD.1 hx).elim (ha x) (hb x)
theorem dL.of{a:Tx}(h:a.all (fun c=>decide (0<=c)&&decide (c<=255))=true):dL a:=fun x hx=>by grind
theorem dL.pc{a:Tx}(h:pc a):dL a:=fun x hx=>by have:=h x hx;omega
theorem dL.brk(b:Bool){a:Tx}(h:dL a):dL (Ai b a):=by
 cases b with
 |false=>exact h
 |true=>exact((dL.of rfl).app h).app (dL.of rfl)
theorem Rest.none{s:Tx}{c:Int}(h:c≠0):Rest s [] c Q:=⟨fun _=>rfl,fun e=>absurd e h⟩
theorem Rest.cons{s r v:Tx}{c:Int}{Q':List T3->Prop}(h:Rest (s++v) r c Q')(hv:LO v ts)(hb:dL v)(hq:∀TS,Q' TS->Q (ts++TS)):Rest s r c Q:=⟨h.1,fun e=>by have⟨h1,u,TS,h2,h3,h5,h4⟩:=h.2 e;exact⟨h1,v++u,ts++TS,by rw[h2,zk],hv.TK h3,hb.app h5,hq TS h4⟩⟩
theorem zm8{r:Bool}{s:Tx}(hn:aS nm=true)(hs:LX s ts):LO (Ea r nm s) (Bb r nm ts++[aO oz]):=by
 have h:=zp0 (r:=r) hn hs;have e:(bif r then aO cN::aO eF::(fK nm++(aO iv::ts)++[aO oz]) else aO cN::(fK nm++(aO iv::ts)++[aO oz]))=Bb r nm ts++[aO oz]:=by unfold Bb;cases r<;>simp
 rw[<-e];exact h
theorem zm9{r:Bool}(h:df ts):df (Bb r nm ts):=by
 have h1:=(df.name nm).app (df.kw (w:=iv) rfl h);cases r with
 |true=>exact df.kw (w:=cN) rfl (df.kw (w:=eF) rfl h1)
 |false=>exact df.kw (w:=cN) rfl h1
theorem zax(r:Bool)(nm:Tx)(ts:List T3):(Bb r nm ts).length<=6+ts.length:=by
 have h:=(z1t nm).1;unfold Bb;cases r with
 |true=>grind
 |false=>grind
theorem zfu(h:dL nm):dL (iG nm):=by
 unfold iG;cases bX nm with
 |false=>exact h
 |true=>exact((dL.of rfl).app h).app (dL.of rfl)
theorem zfv{r:Bool}{s:Tx}(h:dL nm)(hs:dL s):dL (Ea r nm s):=by have h1:dL (lP r):=dL.of (by cases r<;>rfl);exact(((h1.app (zfu h)).app (dL.of rfl)).app hs).app (dL.of rfl)
theorem zay(x:Pz.LX)(L:List Pz.LX):mI (x::L)=q7 x.2.2+8+mI L:=by rfl
section
variable {A:List af} {qp:Bool}
theorem qwh(hA:gL A)(he:∀f,f∈A->f.1.length<=700)(hz:cT A=0):∀(L1 pre:List LY) (L:Sl LY) (s:Tx) (b q:Bool),L.l=pre++L1->pre.length+L1.length<=1000->(∀x,x∈L1->Ug (er x)/\gT x.1)->mI (L1.map er)<=3600->s.length+407500*mI (L1.map er)<=2000000000->∃r c,aI tK (⟨qp,A⟩,L,aa L.l,(pre.length:Int),b,⟨q,s⟩,())=some (.inr (.inr (.inr (r,c,()))))/\Rest s r c (C9 A (L1.map er))
 |[],pre,L,s,b,q,hL,_,_,_,_=>by
  refine⟨bif aZ 262144 (aa s) then [] else s,bif aZ 262144 (aa s) then 240 else 0,bG ?_,?_⟩
  ·have hl:aa L.l=(pre.length:Int):=by rw[hL,zv];rfl
   rw[q9p];simp only;rw[hl,bf,zj om,aci,ae];cases aZ 262144 (aa s)<;>rfl
  ·cases h:aZ 262144 (aa s) with
   |true=>exact Rest.none dc
   |false=>refine⟨fun e=>absurd rfl e,fun _=>⟨?_,[],[],(zv s).symm,LX.nil,nofun,rfl⟩⟩;have:=Ze h;unfold aa at this;show s.length<=_;omega
 |x::L1,pre,L,s,b,q,hL,hg,hx,hf,hs=>by
  obtain⟨hv,hn⟩:=hx x (zg ..);rw[zn] at hg;have hk:L.l[pre.length]?=some x:=by rw[hL,zM (zm _),jy];rfl
  obtain⟨xn,xr,xb,xl⟩:=x;have hf:q7 xl+8+mI (L1.map er)<=3600:=hf;have hs:s.length+407500*(q7 xl+8+mI (L1.map er))<=2000000000:=hs;obtain⟨t,c,e1,e2,e3,e4⟩:=zft xb qp hv hA he hz (by show q7 xl<=3600;omega);have e1:qC (⟨xb,xl⟩,⟨qp,A⟩,())=some (t,c,()):=e1;have e2:t.length<=540000*xl.length:=e2;have ho:=qyx xl;have hn:gT xn:=hn;have hq:=hn.2;by_cases hc:c=0
  ·subst hc;obtain⟨q5,ts,q1,q2,q3,q4⟩:=e3 rfl;have q3:ts.length+1<=q7 xl:=q3;have w1:=zf4 xr;have w2:=XT xn;have eb:=zf3 hn.1 hn.2;have z1:(lP xr++iG xn).length=(lP xr).length+(iG xn).length:=zd;have z2:(lP xr++iG xn++[32,61,32]).length=(lP xr).length+(iG xn).length+3:=by rw[zd,z1];rfl
   have z3:(lP xr++iG xn++[32,61,32]++t).length=(lP xr).length+(iG xn).length+3+t.length:=by rw[zd,z2]
   have z4:(Ea xr xn t).length=(lP xr).length+(iG xn).length+3+t.length+3:=by
    unfold Ea
    grind
   obtain⟨q2',ew⟩:=X9 (Ea xr xn t) b q s om;obtain⟨r,c,i1,i2⟩:=qwh hA he hz L1 (pre++[((xn,xr,⟨xb,xl⟩):LY)]) L (s++Ea xr xn t) true q2' (by rw[zk];exact hL) (by rw[zd];show _+1+_<=_;omega) (fun y hy=>hx y (zf _ hy)) om (by rw[zd,z4];omega);have hj:(pre++[((xn,xr,⟨xb,xl⟩):LY)]).length=pre.length+1:=by rw[zd];rfl
   rw[hj] at i1;have p1:tK (⟨qp,A⟩,L,aa L.l,(pre.length:Int),b,⟨q,s⟩,())=some (.inl (⟨qp,A⟩,L,aa L.l,((pre.length+1:Nat):Int),true,⟨q2',s++Ea xr xn t⟩,())):=by
    rw[q9p];simp only;rw[kl hk,aM,bJ hk,ae];simp only;rw[e1,ae];simp only;rw[show ai (ah 0 0)=false from rfl,aJ];have e4:(aL xr (some ((⟨qp,A⟩:Y3),t,([108,101,116,32,114,101,99,32]:Y1),L,aa L.l,(pre.length:Int),b,xn,xr,(⟨xb,xl⟩:Sl Y0),(⟨q,s⟩:Sl Int),())) (some ((⟨qp,A⟩:Y3),t,([108,101,116,32]:Y1),L,aa L.l,(pre.length:Int),b,xn,xr,(⟨xb,xl⟩:Sl Y0),(⟨q,s⟩:Sl Int),())))=some ((⟨qp,A⟩:Y3),t,lP xr,L,aa L.l,(pre.length:Int),b,xn,xr,(⟨xb,xl⟩:Sl Y0),(⟨q,s⟩:Sl Int),()):=by cases xr<;>rfl
    rw[e4,ae];simp only;rw[eb,ae];simp only[lj];rw[en om,en (by show _+3<=_;omega),en om,en (by show _+3<=_;omega)];have ew:kJ (lP xr++iG xn++[32,61,32]++t++[59,59,10],b,⟨q,s⟩,())=_:=ew;rw[ew,ae];simp only;rw[aG om]
   refine⟨r,c,by rw[cY p1];exact i1,i2.cons (zm8 (z26 hv.m).1 q1) (zfv hn.1 q5) fun TS hm=>⟨ts,TS,?_,zm9 q2,q4,?_,hm⟩⟩
   ·rw[zk];rfl
   ·have:=zax xr xn ts;show(Bb xr xn ts).length+1<=q7 xl+8;omega
  ·refine⟨[],c,bG ?_,Rest.none hc⟩;rw[q9p];rw[kl hk,aM,bJ hk,ae];rw[e1,ae];rw[cZ hc];rfl
end
theorem zaz(b:Bool){l:List T3}(h:df l):df (C7 b l):=by
 cases b with
 |false=>exact h
 |true=>exact(df.kw (w:=kL) rfl h).app rfl
theorem z27(b:Bool)(l:List T3):(C7 b l).length<=l.length+2:=by
 cases b with
 |false=>exact Je _ _
 |true=>
  show([aO kL]++l++[aO kR]).length<=_
  grind
theorem zpc(s:Tx){l:List T3}(h:df l):df ([wa s]++l):=by refine df.app ?_ h;unfold wa;cases fb s<;>rfl
theorem zma(k:Int)(s:Tx)(n:Int)(c:Nat){a b d:List T3}(i e:Bool)(ha:df a)(hb:df b)(hd:df d):df (fX k s n c a b d i e):=by
 unfold fX;split
 ·rfl
 split
 ·exact zaz _ ((ha.app (b:=[aO av]) rfl).app hb)
 ·exact zaz _ (zpc s hd)
theorem zfw{s:Tx}{c:Nat}{a b d:List T3}{i e:Bool}{z:Nat}(ha:a.length+b.length<=z)(hd:d.length<=z):(fX k s n c a b d i e).length<=z+3:=by
 unfold fX;split
 ·show 1<=_;omega
 split
 ·have:=z27 (i||e) (a++[aO av]++b);rw[zd,zd] at this;have h1:([aO av]:List T3).length=1:=rfl;unfold Ue;omega
 ·have:=z27 (i&&decide (0<c)) ([wa s]++d);rw[zd] at this;have h1:([wa s]:List T3).length=1:=rfl;unfold Gk;omega
theorem Pg:∀(f:F) (m:Nat),df (eu f m)
 |.nil,_=>rfl
 |.cons k s n ks r,m=>by
  have h:=fun i e=>zma k s n ks.aq i e (Pg ks 2) (Pg ks 4) (Pg ks 0)
  match m with
  |0=>exact(h _ _).app (Pg r 0)
  |1=>exact h _ _
  |2=>exact h _ _
  |3=>exact h _ _
  |m+4=>exact Pg r 3
theorem qyy:∀f:F,(eu f 0).length<=3*f.size/\(eu f 1).length<=3*f.size/\(eu f 2).length+(eu f 4).length<=3*f.size/\(eu f 3).length<=3*f.size
 |.nil=>⟨zC _,zC _,zC _,zC _⟩
 |.cons k s n ks r=>by
  have⟨a0,_,a2,_⟩:=qyy ks;have⟨b0,_,b2,b3⟩:=qyy r;have q1:∀i e,(fX k s n ks.aq (eu ks 2) (eu ks 4) (eu ks 0) i e).length<=3*ks.size+3:=fun i e=>zfw a2 a0;have t1:=q1 true false;have t2:=q1 false true;have t3:=q1 false false;have hz:(F.cons k s n ks r).size=ks.size+r.size+1:=rfl;refine⟨?_,?_,?_,?_⟩
  ·show(fX k s n ks.aq (eu ks 2) (eu ks 4) (eu ks 0) true false++eu r 0).length<=_
   grind
  ·show(fX k s n ks.aq (eu ks 2) (eu ks 4) (eu ks 0) true false).length<=_;omega
  ·show(fX k s n ks.aq (eu ks 2) (eu ks 4) (eu ks 0) false true).length+(eu r 3).length<=_;omega
  ·show(fX k s n ks.aq (eu ks 2) (eu ks 4) (eu ks 0) false false).length<=_;omega
theorem zb0(c:Tx×F):df (uw c)/\(uw c).length<=2+3*c.2.size:=by
 have⟨s,ks⟩:=c;cases ks with
 |nil=>exact⟨rfl,by show 1<=_;omega⟩
 |cons k t n a b=>have h:=(qyy (.cons k t n a b)).1;refine⟨df.app (a:=[(2,s,0),aO xm]) rfl (Pg (.cons k t n a b) 0),?_⟩;show(eu (.cons k t n a b) 0).length+1+1<=2+3*(F.cons k t n a b).size;omega
theorem zb1:∀cs:List (Tx×F),df (j7 cs)/\(j7 cs).length<=3*aB cs
 |[]=>⟨rfl,zC _⟩
 |c::cs=>by
  have⟨a1,a2⟩:=zb0 c;have⟨b1,b2⟩:=zb1 cs;refine⟨df.kw (w:=fA) rfl (a1.app b1),?_⟩;show(uw c++j7 cs).length+1<=3*(1+c.2.size+aB cs)
  grind
theorem z28:∀m k,df (oE k m)
 |0,_=>rfl
 |m+1,k=>df.app (a:=[(1,[97+(k:Int)],0)]) rfl (z28 m (k+1))
theorem zfx(nm:Tx)(p:Nat)(c:Tx×F)(cs:List (Tx×F)):df (H6 nm p c cs)/\(H6 nm p c cs).length+1<=3*(3+p+aB (c::cs)):=by have⟨a1,a2⟩:=zb0 c;have⟨b1,b2⟩:=zb1 cs;refine⟨df.app (a:=[aO nz,(2,nm,0)]) rfl ((z28 p 0).app (df.kw (w:=iv) rfl (a1.app b1))),?_⟩;show(oE 0 p++(aO iv::(uw c++j7 cs))).length+1+1+1<=3*(3+p+(1+c.2.size+aB cs));rw[zd,zn,zd,qt9];omega
theorem Yu{s:Tx}(h:s=dI\/s=eS\/s=lN\/fb s=true):dL s:=by
 rcases h with rfl|rfl|rfl|h
 ·exact dL.of rfl
 ·exact dL.of rfl
 ·exact dL.of rfl
 ·exact dL.pc (X7 h)
theorem zmb(hp:p<=8){s:Tx}{ks:F}{a d:Tx}(h:wb p k s n ks)(ha:dL a)(hb:dL b)(hd:dL d)(i e:Bool):dL (j6 k s n ks.aq a b d i e):=by
 unfold j6;by_cases h1:k=31
 ·rw[zu h1];rcases h with ⟨_,_,h2,h3,_⟩|⟨h2,_⟩
  ·intro x hx
   grind
  ·omega
 ·rw[zj h1];by_cases h2:s=[45,62]
  ·rw[zu h2];exact dL.brk _ ((ha.app (dL.of rfl)).app hb)
  ·rw[zj h2];refine dL.brk _ ((Yu ?_).app hd);rcases h with ⟨h,_⟩|⟨_,_,⟨h,_⟩|⟨h,_⟩|⟨h,_⟩|h⟩
   all_goals grind
theorem Yv(hp:p<=8):∀f:F,km p f->∀m,dL (eX f m)
 |.nil,_,_=>nofun
 |.cons k s n ks r,⟨h1,h2,h3⟩,m=>by
  have hk:=Yv hp ks h2;have hn:=zmb hp h1 (hk 2) (hk 4) (hk 0)
  match m with
  |0=>exact((dL.of (a:=[32]) rfl).app (hn true false)).app (Yv hp r h3 0)
  |1=>exact hn true false
  |2=>exact hn false true
  |3=>exact hn false false
  |m+4=>exact Yv hp r h3 3
theorem zb2(hp:p<=8){c:Tx×F}(h1:fb c.1=true)(h2:km p c.2):dL (kA c):=by rw[qyv];refine(Yu (.inr (.inr (.inr h1)))).app (dL.app ?_ (Yv hp c.2 h2 0));unfold Ga;cases decide (0<(cg c).2.l.length)<;>exact dL.of rfl
theorem zb3(hp:p<=8):∀cs:List (Tx×F),wh p cs->dL (we cs)
 |[],_=>nofun
 |c::cs,h=>by have⟨⟨h1,h2⟩,_⟩:=h c (zg ..);exact(dL.of (a:=[32]) rfl).app ((dL.of (a:=[124]) rfl).app ((dL.of (a:=[32]) rfl).app ((zb2 hp h1 h2).app (zb3 hp cs fun x hx=>h x (zf _ hx)))))
theorem z2a:∀m k,k+m<=8->dL (Aj k m)
 |0,_,_=>nofun
 |m+1,k,h=>by
  refine dL.app (fun x hx=>?_) (z2a m (k+1) om)
  grind
theorem zfy(hp:p<=8)(hn:fb nm=true){c:Tx×F}{cs:List (Tx×F)}(h:wh p (c::cs)):dL (Ba nm p c cs++feed):=by have⟨⟨h1,h2⟩,_⟩:=h c (zg ..);have hb:=zb3 hp cs fun x hx=>h x (zf _ hx);exact dL.app ((dL.of (a:=[116,121,112,101]) rfl).app ((dL.of (a:=[32]) rfl).app ((Yu (.inr (.inr (.inr hn)))).app ((z2a p 0 om).app ((dL.of (a:=[32]) rfl).app ((dL.of (a:=[61]) rfl).app ((dL.of (a:=[32]) rfl).app ((zb2 hp h1 h2).app hb)))))))) (dL.of rfl)
theorem qwi(d:DX)(D:List DX):q8 (d::D)=An d+q8 D:=by rfl
section
variable {A:List af} {qp:Bool} (nm:Tx) (O:Sl Y1) (X:Y3)
theorem qr0(hA:gL A)(he:∀f,f∈A->f.1.length<=700)(hz:cT A=0)(L:Sl LY)(hL:L.l.length<=1000)(hx:∀x,x∈L.l->Ug (er x)/\gT x.1)(hf:mI (L.l.map er)<=3600):∀(D1 pre:List DX) (D:Sl DX) (s:Tx) (b q:Bool),D.l=pre++D1->pre.length+D1.length<=1000->(∀d,d∈D1->H8 (An d) d/\d.2.1<=8)->q8 D1<=600->s.length+700*q8 D1+407500*mI (L.l.map er)<=2000000000->∃r c,aI tL (⟨qp,A⟩,D,aa D.l,(pre.length:Int),nm,O,X,D,L,b,⟨q,s⟩,())=some (.inr (.inr (r,c,())))/\Rest s r c fun TS=>∃TD TL,TS=TD++TL/\Ee D1 TD/\C9 A (L.l.map er) TL
 |[],pre,D,s,b,q,hD,_,_,_,hs=>by
  have⟨r,c,e1,e2⟩:=qwh (qp:=qp) hA he hz L.l [] L s b q rfl (by show 0+_<=_;omega) hx hf om;refine⟨r,c,bG ?_,e2.1,fun h=>?_⟩
  ·have hl:aa D.l=(pre.length:Int):=by rw[hD,zv];rfl
   rw[qe2];simp only
   rwa [hl,bf,zj om]
  ·have⟨h1,u,TS,h2,h3,h5,h4⟩:=e2.2 h;exact⟨h1,u,TS,h2,h3,h5,[],TS,rfl,rfl,h4⟩
 |d::D1,pre,D,s,b,q,hD,hm,hd,ho,hs=>by
  have⟨hv,hC⟩:=hd d (zg ..);rw[qwi] at ho hs;rw[zn] at hm;have hk:D.l[pre.length]?=some d:=by rw[hD,zM (zm _),jy];rfl
  have hq:D.l=(pre++[d])++D1:=by rw[zk];exact hD
  have ht:(pre++[d]).length=pre.length+1:=by rw[zd];rfl
  obtain⟨dn,p,c0,cs,rfl,⟨hn,hg⟩,hc,hN⟩:=hv;generalize hj:((dn,(p:Int),(⟨false,(c0::cs).map cg⟩:Sl CX)):DX)=d at*
  have hp:p<=8:=by grind
  have ed:yB (d,())=some (Ba dn p c0 cs,()):=by rw[<-hj];exact zaw hp hg hc om
  have hu:=zav (nm:=dn) hp hg hc;have hw:=zm2 (nm:=dn) hp hn fun x hx=>(hc x hx).1;have hB:=zm0 (nm:=dn) hp fun x hx=>(hc x hx).1.2;have⟨k1,k2⟩:=zfx dn p c0 cs;have⟨q2,ew⟩:=X9 (Ba dn p c0 cs++feed) b q s (by rw[zd];show _+(_+3)<=_;omega);have⟨r,c,i1,i2⟩:=qr0 hA he hz L hL hx hf D1 (pre++[d]) D (s++(Ba dn p c0 cs++feed)) true q2 hq om (fun y hy=>hd y (zf _ hy)) om (by rw[zd,zd];show _+(_+3)+_+_<=_;omega);rw[ht] at i1;have p1:tL (⟨qp,A⟩,D,aa D.l,(pre.length:Int),nm,O,X,D,L,b,⟨q,s⟩,())=some (.inl (⟨qp,A⟩,D,aa D.l,((pre.length+1:Nat):Int),nm,O,X,D,L,true,⟨q2,s++(Ba dn p c0 cs++feed)⟩,())):=by rw[qe2];rw[kl hk,aM,bJ hk,ae,ed,ae];simp only[lj];rw[en (by show _+3<=_;omega)];rw[ew,ae];rw[aG om]
  refine⟨r,c,by rw[cY p1];exact i1,i2.cons hw (zfy hp hn hc) ?_⟩;rintro TS ⟨TD,TL,rfl,h1,h2⟩;refine⟨H6 dn p c0 cs++[aO oz]++TD,TL,(zk ..).symm,⟨_,TD,?_,k1,?_,?_,h1⟩,h2⟩
  ·rw[zk];rfl
  ·rw[<-hj];exact hB
  ·have k2:(aO nz::(2,dn,0)::(oE 0 p++(aO iv::(uw c0++j7 cs)))).length+1<=3*(3+p+aB (c0::cs)):=k2
   grind
end
def Ph(A:List af)(X:List af):List af:=X.foldl (fun a f=>(cX a f).1) A
theorem Gp.ac5(h:Gp iH X fx):fx=Ph iH X:=by
 induction h with
 |nil=>rfl
 |snoc _ _ _ _ ih=>
  unfold Ph at ih ⊢
  grind
theorem Gp.len(h:Gp iH X fx):∀f,f∈X->f.1.length<=600:=by
 induction h with
 |nil=>exact nofun
 |snoc _ _ _ h2 ih=>exact fun f hf=>(zD.1 hf).elim (ih f) fun hf=>by rw[zJ.1 hf];exact h2
theorem zmc{lv sd:Int}(ho:bX t=true)(h0:0<=lv)(h9:lv<=9):dL (vY (t,lv,sd)):=by
 have h1:dL (mU sd):=by
  unfold mU;split
  ·exact dL.of rfl
  split<;>exact dL.of rfl
 have h2:dL [48+lv]:=fun x hx=>by rw[zJ.1 hx];omega
 exact((((h1.app (dL.of rfl)).app h2).app (dL.of rfl)).app (dL.pc (zla ho))).app (dL.of rfl)
structure Uh (D:Sl DX) (L:Sl LY):Prop where
 l:L.l.length<=1000
 x:∀x,x∈L.l->Ug (er x)/\gT x.1
 z:mI (L.l.map er)<=3600
 dl:D.l.length<=1000
 d:∀d,d∈D.l->H8 (An d) d/\d.2.1<=8
 dz:q8 D.l<=600
section
variable (nm:Tx) (O:Sl Y1) {D:Sl DX} {L:Sl LY} (H:Uh D L)
include H
theorem qr1:∀(X1 pre:List af) (X:Y3) (A:List af) (qp:Bool) (s:Tx) (b q:Bool),X.l=pre++X1->pre.length+X1.length<=1000->(∀f,f∈X1->iu f=true/\gF f/\f.1.length<=600)->gL A->(∀f,f∈A->f.1.length<=700)->(qp=true->A=[])->cT (Ph A X1)=0->s.length+700*X1.length<=2000000->∃r c,aI tM (⟨qp,A⟩,X,aa X.l,(pre.length:Int),nm,O,X,D,L,b,⟨q,s⟩,())=some (.inr (r,c,()))/\Rest s r c fun TS=>∃TD TL,TS=X1.flatMap wg++(TD++TL)/\Ee D.l TD/\C9 (Ph A X1) (L.l.map er) TL
 |[],pre,X,A,qp,s,b,q,hX,_,_,hA,h7,_,hz,hs=>by
  have hg:=H.z;have hj:=H.dz;have hm:=H.dl;have⟨r,c,e1,e2⟩:=qr0 (qp:=qp) nm O X hA h7 hz L H.l H.x H.z D.l [] D s b q rfl (by show 0+_<=_;omega) H.d H.dz om;refine⟨r,c,bG ?_,e2.1,fun h=>?_⟩
  ·have hl:aa X.l=(pre.length:Int):=by rw[hX,zv];rfl
   rw[qe3];simp only
   rwa [hl,bf,zj om]
  ·have⟨h1,u,TS,h2,h3,h7,TD,TL,h4,h5,h6⟩:=e2.2 h;exact⟨h1,u,TS,h2,h3,h7,TD,TL,h4,h5,h6⟩
 |f::X1,pre,X,A,qp,s,b,q,hX,he,hf,hA,h7,hq,hz,hs=>by
  obtain⟨g1,g2,g3⟩:=hf f (zg ..);rw[zn] at he hs;have hk:X.l[pre.length]?=some f:=by rw[hX,zM (zm _),jy];rfl
  obtain⟨t,lv,sd⟩:=f;have so:=za1 g1;have g3:t.length<=600:=g3;have ho:bX t=true:=by
   unfold iu at g1
   grind
  have z0:=za0 sd;have z1:(mU sd++[32]).length<=7:=by rw[zd];show _+1<=_;omega
  have z2:(mU sd++[32]++[48+lv]).length<=8:=by rw[zd];show _+1<=_;omega
  have z3:(mU sd++[32]++[48+lv]++[32]).length<=9:=by rw[zd];show _+1<=_;omega
  have z4:(mU sd++[32]++[48+lv]++[32]++t).length<=609:=by rw[zd];omega
  have z5:(vY (t,lv,sd)).length<=612:=by
   unfold vY
   grind
  obtain⟨p1,e1,q1⟩:=z0p qp hA hq (t,lv,sd) g2 (by show t.length<=_;omega);obtain⟨q2,ew⟩:=X9 (vY (t,lv,sd)) b q s om;have hc:(pre++[((t,lv,sd):af)]).length=pre.length+1:=by rw[zd];rfl
  obtain⟨r,c,i1,i2⟩:=qr1 X1 (pre++[((t,lv,sd):af)]) X (cX A (t,lv,sd)).1 p1 (s++vY (t,lv,sd)) true q2 (by rw[zk];exact hX) (by rw[hc];omega) (fun y hy=>hf y (zf _ hy)) (z7w hA g2 (by show t.length<=_;omega)) (zf5 h7 (by show t.length<=_;omega)) q1 hz (by rw[zd];omega);rw[hc] at i1;have s1:tM (⟨qp,A⟩,X,aa X.l,(pre.length:Int),nm,O,X,D,L,b,⟨q,s⟩,())=some (.inl (⟨p1,(cX A (t,lv,sd)).1⟩,X,aa X.l,((pre.length+1:Nat):Int),nm,O,X,D,L,true,⟨q2,s++vY (t,lv,sd)⟩,())):=by rw[qe3];simp only;rw[kl hk,aM,bJ hk,ae];simp only;rw[zlg ⟨so.2.2.1,so.2.2.2⟩,ae,zoa ⟨so.1,so.2.1⟩];simp only[lj];rw[en (by show _+1<=_;omega),en (by show _+1<=_;omega),en (by show _+1<=_;omega),en om,en (by show _+3<=_;omega)];have ew:kJ (mU sd++[32]++[48+lv]++[32]++t++[59,59,10],b,⟨q,s⟩,())=_:=ew;rw[ew,ae];simp only;rw[e1,ae];simp only;rw[aG om]
  refine⟨r,c,by rw[cY s1];exact i1,i2.cons (zoz (f:=(t,lv,sd)) ho so.1 so.2.1) (zmc ho so.1 so.2.1) ?_⟩;rintro TS ⟨TD,TL,rfl,h1,h2⟩;exact⟨TD,TL,by rfl,h1,h2⟩
theorem qr2{X:Y3}{A:List af}{fp:Bool}(hX:X.l.length<=1000)(hf:∀f,f∈X.l->iu f=true/\gF f/\f.1.length<=600)(hA:gL A)(h7:∀f,f∈A->f.1.length<=700)(he:fp=true->A=[])(hz:cT (Ph A X.l)=0):∀(O1 pre:List Tx) (s:Tx) (b q:Bool),O.l=pre++O1->pre.length+O1.length<=1000->(∀x,x∈O1->nB x=true)->s.length+100*O1.length<=200000->∃r c,aI tN (⟨fp,A⟩,O,aa O.l,(pre.length:Int),nm,O,X,D,L,b,⟨q,s⟩,())=some (r,c,())/\Rest s r c fun TS=>∃TD TL,TS=O1.flatMap Na++(X.l.flatMap wg++(TD++TL))/\Ee D.l TD/\C9 (Ph A X.l) (L.l.map er) TL
 |[],pre,s,b,q,hO,_,_,hs=>by
  have⟨q1,hc,hj⟩:=qvt fp A hA.2.2 he;have⟨r,c,e1,e2⟩:=qr1 nm O H X.l [] X A q1 s b q rfl (by show 0+_<=_;omega) hf hA h7 hj hz om;refine⟨r,c,bG ?_,e2⟩;have hl:aa O.l=(pre.length:Int):=by rw[hO,zv];rfl
  rw[qe4];simp only;rw[hl,bf,zj om,hc];exact e1
 |o::O1,pre,s,b,q,hO,hn,ho,hs=>by
  rw[zn] at hn hs;have hm:=ho o (zg ..);unfold nB at hm;rw[ze,zV] at hm;have hk:O.l[pre.length]?=some o:=by rw[hO,zM (zm _),jy];rfl
  have z1:([111,112,101,110,32]++o).length<=65:=by rw[zd];show 5+_<=_;omega
  have z2:(O4 o).length<=68:=by unfold O4;rw[zd];show _+3<=_;omega
  obtain⟨q2,ew⟩:=X9 (O4 o) b q s om;have hg:(pre++[o]).length=pre.length+1:=by rw[zd];rfl
  obtain⟨r,c,i1,i2⟩:=qr2 hX hf hA h7 he hz O1 (pre++[o]) (s++O4 o) true q2 (by rw[zk];exact hO) (by rw[hg];omega) (fun y hy=>ho y (zf _ hy)) (by rw[zd];omega);rw[hg] at i1;have s1:tN (⟨fp,A⟩,O,aa O.l,(pre.length:Int),nm,O,X,D,L,b,⟨q,s⟩,())=some (.inl (⟨fp,A⟩,O,aa O.l,((pre.length+1:Nat):Int),nm,O,X,D,L,true,⟨q2,s++O4 o⟩,())):=by rw[qe4];simp only;rw[kl hk,aM,bJ hk,ae];simp only[lj];rw[en (by show 5+_<=_;omega),en (by show _+3<=_;omega)];have ew:kJ ([111,112,101,110,32]++o++[59,59,10],b,⟨q,s⟩,())=_:=ew;rw[ew,ae];simp only;rw[aG om]
  refine⟨r,c,by rw[cY s1];exact i1,i2.cons (zlw hm.1) (((dL.of rfl).app (Yu (.inr (.inr (.inr hm.1))))).app (dL.of rfl)) ?_⟩;rintro TS ⟨TD,TL,rfl,h1,h2⟩;exact⟨TD,TL,by rfl,h1,h2⟩
end
theorem zfz{m:MX}(h:gX nm m=0):m.opens.length<=60/\m.lets.length<=200/\m.aE.length<=60:=by
 have hd:=(z1n h).1;unfold gX at h;cases h1:(!nB nm||(decide (60<m.opens.length)||(decide (200<m.lets.length)||((m.opens.any fun s=>!nB s)||m.lets.any fun x=>!gK x)))) with
 |true=>rw[h1] at h;cases h
 |false=>
  rw[jc,jc,jc,jg,jg] at h1;refine⟨by omega,by omega,?_⟩;unfold iF at hd;cases h2:(decide (m.aE.length<=60)&&m.aE.all A2) with
  |false=>rw[h2] at hd;rcases hd with hd|hd<;>cases hd
  |true=>grind
theorem zmd{name:Tx}{v:MT}{m:MX}{n k:Nat}(he:gT name)(V:Is v name m)(I:Inv k m fx')(hk:k<=4100)(hI:Ed iH m fx n)(hn:n<=600)(hc:gX name m=0)(hz:cT iH=0)(g0:gL iH)(h7:∀f,f∈iH->f.1.length<=700)(b:Bool)(hb:b=true->iH=[]):∃r c,Cs (v,⟨b,iH⟩,())=some (r,c,())/\Rest [] r c fun TS=>∃TD TL,TS=m.opens.flatMap Na++(m.aU.flatMap wg++(TD++TL))/\Ee m.aE TD/\C9 fx m.lets TL:=by
 have⟨nm,O,X,D,L⟩:=v;have⟨a1,a2,a3,a4,a5⟩:=V;subst a1;have G:=(I.mono hk).gm;have hj:=qsl nm he O X D L m a2 a3 a4 a5 G;have⟨c1,c2,c3⟩:=zfz hc;have⟨d1,d2⟩:=z1n hc;have hl:=hI.c;have ho:L.l.length=m.lets.length:=by rw[<-a5,zI]
 have H:Uh D L:=by
  refine⟨by omega,fun x hx=>?_,by rw[a5];omega,by rw[a4];omega,fun d hd=>?_,by rw[a4];omega⟩
  ·have hm:er x∈m.lets:=by rw[<-a5];exact Zp hx
   exact⟨hI.l _ hm,(I.lg _ hm).1⟩
  ·rw[a4] at hd;have⟨D0,D1,e⟩:=Jr hd;refine⟨(hI.d.at D0 d D1 e).2,?_⟩;have hr:=zf6 d1 d hd;unfold A2 at hr;simp[Bool.and_eq_true] at hr;exact zZ hr.2.2.1
 have hS:=acj nm O X D L ⟨b,iH⟩;have hg:=hI.x.ac5;obtain⟨r,c,e1,e2⟩:=qr2 nm O H (X:=X) (A:=iH) (fp:=b) (by rw[a3];omega) (fun f hf=>by rw[a3] at hf;exact⟨TF d2 f hf,I.xg.1 f hf,hI.x.len f hf⟩) g0 h7 hb (by rw[a3,<-hg];exact hI.z) O.l [] [] false true rfl (by rw[a2];show 0+_<=_;omega) (fun s hs=>by rw[a2] at hs;exact hI.o s hs) (by rw[a2];show 0+_<=_;omega);refine⟨r,c,?_,?_⟩
 ·rw[hS,hj,hc,FQ b g0,hz];exact e1
 ·rw[a2,a3,a4,a5,<-hg] at e2;exact e2
theorem Ee.len:∀{D:List DX} {TS:List T3},Ee D TS->TS.length<=3*q8 D
 |[],TS,h=>by
  have h:TS=[]:=h
  grind
 |d::D,TS,⟨ts,Ao,e,_,_,h,h2⟩=>by have:=Ee.len h2;rw[e,zd,zn,zn,qwi];omega
theorem C9.len:∀{L:List Pz.LX} {TS:List T3},C9 fx L TS->TS.length<=mI L
 |[],TS,h=>by
  have h:TS=[]:=h
  grind
 |x::L,TS,⟨ts,Ao,e,_,_,h,h2⟩=>by have:=C9.len h2;rw[e,zd,zn,zay];omega
theorem qwj:∀O:List Tx,(O.flatMap Na).length=3*O.length
 |[]=>rfl
 |s::O=>by rw[jM,zd,qwj O,zn];show 3+_=_;omega
theorem qwk:∀X:List af,(X.flatMap wg).length=4*X.length
 |[]=>rfl
 |s::O=>by rw[jM,zd,qwk O,zn];show 4+_=_;omega
theorem zg0{name s:Tx}(hs:s.length<=600)(hb:dL s){m:MX}(h:F2 name s iH=.ok m):∃fx,Ed iH m fx 600:=by obtain⟨hz,l,fx,h1,h2,hc⟩:=qso h;have he:=z0t s om hb;rw[h1] at he;obtain⟨k1,k2⟩:=he;have k1:l.length<=s.length:=k1;obtain⟨w1,w2⟩:=zox _ _ _ _ h1;have hG:TG (s.length:Int) ([]++l):=⟨fun t ht=>⟨by have:=(w2 t ht).1;omega,(w2 t ht).2⟩,by show Eb l<=600;omega,by show l.length<=600;omega,fun t ht=>by obtain⟨⟨q1,q2,q3⟩,q4,q5⟩:=k2 t ht;exact⟨⟨⟨q1,by omega⟩,q3⟩,q4,by omega⟩⟩;exact⟨fx,(qyr l [] ⟨[],[],[],[]⟩ iH 0 hG ⟨(fun _ h=>by cases h),.nil,hz,.nil,(fun _ h=>by cases h),zC _⟩ h2).mono (by show 0+(0+l.length)<=_;omega)⟩
theorem zpd(t1 t2:Bool)(n:Bool)(l:List af)(X Y:Option α):∃r:Bool,(r=true->t1=false/\t2=false/\l.length<=20/\∀x,x∈l->x.1.length<=20)/\aw (aL (ai true) (some true) (some t1)) (fun x1=>aw (aL x1 (some true) (some t2)) (fun x2=>aw (aL x2 (some true) (aw (R7 (⟨n,l⟩,())) (fun x3=>some (ai x3.1)))) (fun x4=>aL x4 X Y)))=if r=true then Y else X:=by
 obtain⟨r,h1,h2⟩:=zei n l;rw[h1];cases t1 with
 |true=>exact⟨false,(fun h=>by cases h),rfl⟩
 |false=>
  cases t2 with
  |true=>exact⟨false,(fun h=>by cases h),rfl⟩
  |false=>
   cases r with
   |true=>exact⟨true,fun _=>⟨rfl,rfl,h2 rfl⟩,rfl⟩
   |false=>exact⟨false,(fun h=>by cases h),rfl⟩
theorem Aq(name s:Tx)(hn:dL name)(hb:dL s)(n:Bool)(l:List af)(hg:∀x,x∈l->gF x):cq (name,s,⟨n,l⟩,())=some (true,()):=by
 have hh:cq (name,s,⟨n,l⟩,())=_:=ql0 name s ⟨n,l⟩;rw[hh,zlh,z0c,ae];simp only;obtain⟨r,h1,h2⟩:=zpd (aZ 100 (aa name)) (aZ 600 (aa s)) n l (some (true,())) _;refine jU h2 ?_;cases r with
 |false=>rw[zj dc]
 |true=>
  rw[zu rfl];obtain⟨k1,k2,k4,k5⟩:=h1 rfl;have k1:=Ze k1;have k2:=Ze k2;unfold aa at k1 k2;have gl:=zq7 hg k4 k5;have he:gT name:=⟨hn,by omega⟩;obtain⟨v,a,e,hv,rv⟩:=qsn name he s om (.inl om) hb false l gl (fun h=>by cases h);rw[z4h n l k4];simp only[ae];rw[hv];simp only[ae];have ev:(v.1,v.2.1,v.2.2.1,v.2.2.2.1,v.2.2.2.2)=v:=rfl;cases hr:F2 name s l with
  |error q=>rw[hr] at rv;obtain⟨_,r2,r3,r4⟩:=rv;rw[cZ r3];have i0:Is HP [] ⟨[],[],[],[]⟩:=⟨rfl,rfl,rfl,rfl,rfl⟩;have G0:GM ⟨[],[],[],[]⟩:=⟨zC _,zC _,(fun _ h=>by cases h),⟨zC _,fun _ h=>by cases h⟩,⟨(fun _ h=>by cases h),(fun _ h=>by cases h),zC _⟩,fun _ h=>by cases h⟩;have hs:=z16 i0 i0 G0;rw[r4];simp only[n0,aM];have hs:yU ((([]:Y1),(⟨true,([]:List Y1)⟩:Sl Y1),(⟨true,([]:List Y6)⟩:Sl Y6),(⟨true,([]:List Y2)⟩:Sl Y2),(⟨true,([]:List Y5)⟩:Sl Y5)),(([]:Y1),(⟨true,([]:List Y1)⟩:Sl Y1),(⟨true,([]:List Y6)⟩:Sl Y6),(⟨true,([]:List Y2)⟩:Sl Y2),(⟨true,([]:List Y5)⟩:Sl Y5)),())=some (true,()):=hs;rw[hs];rfl
  |ok m=>
   rw[hr] at rv;obtain⟨_,r2,V,fx',I⟩:=rv;rw[r2,e0z];simp only[n1,aJ];obtain⟨hz,_,_,_,_,hc⟩:=qso hr;obtain⟨fx,hI⟩:=zg0 om hb hr;obtain⟨t,c,e1,e2⟩:=zmd he V I (zm _) hI (zm _) hc hz gl (fun f h=>by have:=k5 f h;omega) false (fun h=>by cases h);rw[e1];simp only[ae];have G:=I.gm;have hk:o9 (v,())=some (gX name m,()):=by
    have:=qsl v.1 (by rw[V.n];exact he) v.2.1 v.2.2.1 v.2.2.2.1 v.2.2.2.2 m V.o V.x V.d V.l G;rw[V.n] at this;have e:(name,v.2.1,v.2.2.1,v.2.2.2.1,v.2.2.2.2)=v:=by rw[<-V.n]
    grind
   by_cases hf:c=0
   ·subst hf;obtain⟨q1,u,TS,q2,q3,q4,TD,TL,rfl,q5,q6⟩:=e2.2 rfl;have q2:t=u:=q2;subst q2;obtain⟨y1,l2,y2,y3⟩:=z4s hr hI q5 q6 q3;have hl:=hI.c;have z1:=q5.len;have z2:=q6.len;rw[zd,zd,zd,qwj,qwk] at y3;obtain⟨w,a2,f,hw,rw2⟩:=qsn name he t q1 (.inr ⟨l2,y2,by omega⟩) q4 false l gl (fun h=>by cases h);rw[hw];simp only[ae];rw[y1] at rw2;obtain⟨_,f0,W,_⟩:=rw2;have hj:=z16 V W G;rw[hk,hc,f0];simp only[ae,e0z,n1,aM,aJ];rw[V.n,vg];simp only[aM];have hj:yU ((name,v.2.1,v.2.2.1,v.2.2.2.1,v.2.2.2.2),(w.1,w.2.1,w.2.2.1,w.2.2.2.1,w.2.2.2.2),())=some (true,()):=by
     have e:((name,v.2.1,v.2.2.1,v.2.2.2.1,v.2.2.2.2):MT)=v:=by rw[<-V.n]
     rw[e];exact hj
    rw[hj];rfl
   ·have ht:t=[]:=e2.1 hf;subst ht;obtain⟨w,a2,f,hw,_⟩:=qsn name he [] (zC _) (.inl (zC _)) (fun _ h=>by cases h) false l gl (fun h=>by cases h);rw[hw];simp only[ae];rw[hk,hc];simp only[ae,e0z,aM];rw[V.n,vg];simp only[aM];rw[cZ hf];rfl
end Fn
end Ev