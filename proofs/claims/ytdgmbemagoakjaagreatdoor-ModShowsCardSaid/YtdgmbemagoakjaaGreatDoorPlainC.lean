/- The parser does what the plain words say. -/
import Derived.Test.YtdgmbemagoakjaaGreatDoorPlainB
set_option linter.defProp false
namespace Ev
open Go
namespace Fn
open Pz
def qt6(n:Bool)(l:List (List Int))(s:List Int)(hl:l.length<=1000000):nx (⟨n,l⟩,s,())=some (decide (s∈l),()):=by obtain⟨r,h1,h2⟩:=qr8 s n l hl l.length 0 om;rw[List.drop_zero] at h2;have h1:aD nI (⟨n,l⟩,s,ae l,0,())=some (r,()):=h1;rw[Uk,Uj,h1,af];have:bJ 0 r=decide (s∈l):=decide_eq_decide.2 (by rw[h2]);rw[this]
section
variable (nb:Bool) (c:PC) (F:Y3)
abbrev S(a d w k:Int):Y7:=(⟨nb,c.l⟩,c.e,F,a,d,w,k,())
variable {nb c F}
end
open Pz
def lens(kids:List (Sl Y0)):Nat:=(kids.map fun k=>k.l.length).sum
def z90(q:Bool)(kids:List (Sl Y0))(hn:kids.length<=1000000)(_hs:lens kids<=1000000):∀(m k:Nat) (acc:List Y0),k+m=kids.length->acc.length+lens (kids.drop k)<=1000001->aD uc (⟨q,kids⟩,(kids.length:Int),(k:Int),⟨false,acc⟩,())=some (⟨false,acc++((kids.drop k).map (·.l)).flatten⟩,()):=by
 intro m
 induction m with
 |zero=>intro k acc hk hl;apply bZ;rw[qjm];simp only;rw[bD,if_neg om,zw om];simp
 |succ m ih=>
  intro k acc hk hl;have hc:k<kids.length:=om
  have hd:=jW hc;have he:lens (kids.drop k)=kids[k].l.length+lens (kids.drop (k+1)):=by unfold lens;rw[hd,zN,List.sum_cons]
  have step:uc (⟨q,kids⟩,(kids.length:Int),(k:Int),⟨false,acc⟩,())=some (.inl (⟨q,kids⟩,(kids.length:Int),((k+1:Nat):Int),⟨false,acc++kids[k].l⟩,())):=by
   rw[qjm];simp only;rw[bD,if_pos om,aU (zf hc),af,vX (by
    show((acc.length:Nat):Int)+((kids[k].l.length:Nat):Int)<=_;omega),af,aB om]
   rfl
  rw[cU step,ih (k+1) _ om (by rw[zd];omega),hd,zN,List.flatten_cons,zm]
def Vf(k:Int)(s:Tx)(n z:Int)(q:Bool)(kids:List (Sl Y0))(hn:kids.length<=1000000)(hs:lens kids<=1000000):jf ((k,s,n,z),⟨q,kids⟩,())=some (⟨false,(k,s,n,(kids.length:Int))::(kids.map (·.l)).flatten⟩,()):=by have h:=z90 q kids hn hs kids.length 0 [(k,s,n,(kids.length:Int))] om (by rw[List.drop_zero,List.length_singleton];omega);rw[List.drop_zero] at h;rw[abQ];exact h
section
variable (nb:Bool) (c:PC) (F:Y3)
variable {nb c F}
end
open Pz
section
variable (nb:Bool) (c:PC) (F:Y3)
variable {nb c F} {E:Int} {Q:Tx→Prop} {N:Int→Prop}
variable {self:fC} {ps:PT} {d B:Int}
def PU(kids:List (Sl Y0)):List (List ND):=kids.map (·.l)
def zha(a:List (Sl Y0)):(PU a).length=a.length:=zG _
def zd0(a:List (Sl Y0)):lens a=(PU a).flatten.length:=by unfold lens PU;rw[List.length_flatten,zS];rfl
end
open Pz
section
variable {f g:fC} (h:∀x,lq (f x) (g x))
include h
end
section
variable {nb:Bool} {c:PC} {F:Y3} {E:Int} {Q:Tx→Prop} {N:Int→Prop}
end
open Pz
section
variable {nb:Bool} {c:PC} {F:Y3} {E:Int} {Q:Tx→Prop} {N:Int→Prop}
variable {self:fC} {ps pp:PT} {d B:Int}
end
open Pz
def adv(l:List ak)(op:Tx):Bool:=(kP l op).isSome
def adw(l:List ak)(ops:List Tx):Option (List Int):=if 400<ops.length then none else match z8e l ops with
 |none=>none
 |some fs=>zjc fs
section
variable {nb:Bool} {c:PC} {F:Y3} {E:Int} {Q:Tx→Prop} {N:Int→Prop}
end
open Pz
section
variable {nb:Bool} {c:PC} {F:Y3} {E:Int} {Q:Tx→Prop} {N:Int→Prop}
variable {self:fC} {ps pp:PT} {d B:Int}
end
open Pz
section
variable {nb:Bool} {c:PC} {F:Y3} {E:Int} {Q:Tx→Prop} {N:Int→Prop}
variable {self:fC} {ps pp:PT} {d B:Int}
end
open Pz
def adx(c:Int):Bool:=decide (c∈aR)
def zkk(t:Tx):Bool:=decide (t∈vA)
noncomputable def rdF(s:Tx):Int×Int:=match Ej (s,()) with
 |some x=>(x.1,x.2.1)
 |none=>(0,0)
open Pz
open Pz
noncomputable abbrev ady:=Vd j7 adx zkk rdF
def Few(n r:Nat)(x:PR (List Tk)):Prop:=n+r<=4000\/∃l,x=.ok l/\n+l.length<=4000
def Few.mono{n r r':Nat}{x:PR (List Tk)}(h:Few n r x)(hr:r'<=r):Few n r' x:=by
 rcases h with h|h
 ·exact .inl om
 ·exact .inr h
open Pz
def adz(F:List ak)(toks:List Tk)(e:Int):PC:=⟨toks,e,adv F,adw F⟩
noncomputable def mO(t:List ND):Int:=match jc (⟨true,t⟩,()) with
 |some x=>x.1
 |none=>0
noncomputable def tokR(F:List ak)(l:List Tk)(e:Int):List ND×Int×Int:=match PL (adz F l e) with
 |.error q=>([],q.1,q.2)
 |.ok t=>if mO t≠0 then([],0,74) else(t,0,0)
noncomputable def full(F:List ak)(s:Tx):List ND×Int×Int:=
 if iD F≠0 then([],0,iD F) else match ady (s.length+1) s 0 with
 |.error e=>([],e.1,e.2)
 |.ok l=>tokR F l (s.length:Int)
def zjj{t:List ND}(hl:t.length<=4000)(hg:GL t)(b:Bool):jc (⟨b,t⟩,())=some (mO t,()):=by
 have h:∃er,∀b,jc (⟨b,t⟩,())=some (er,()):=by
  rcases qym t with h|⟨kd,x,n,ks,rfl⟩
  ·exact⟨60,fun b=>qre b t hl h⟩
  ·have e:(tr kd x n ks).flat.length=ks.size+1:=by rw[F.len];rfl
   exact⟨_,fun b=>z41 b kd x n ks om hg⟩
 obtain⟨er,h⟩:=h;have h1:=h true;unfold mO;rw[h1,h b]
end Fn
end Ev