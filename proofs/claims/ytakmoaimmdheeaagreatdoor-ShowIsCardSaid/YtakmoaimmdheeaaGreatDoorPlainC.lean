/- The parser does what the plain words say. No statement of its own about the program. -/
import Derived.Test.YtakmoaimmdheeaaGreatDoorPlainB
namespace Ev
open Go
namespace Fn
open Pz
section
variable (nb:Bool) (c:PC) (F:Y1)
abbrev S(a d w k:Int):Y5:=(⟨nb,c.l⟩,c.e,F,a,d,w,k,())
variable {nb c F}
end
open Pz
def lens(kids:List Y0):Nat:=(kids.map fun k=>k.l.length).sum
theorem qy7(q:Bool)(kids:List Y0)(hn:kids.length<=1000000)(_hs:lens kids<=1000000):∀(m k:Nat) (acc:List Y4),k+m=kids.length->acc.length+lens (kids.drop k)<=1000001->q0g l1_ep (⟨q,kids⟩,(kids.length:Int),(k:Int),⟨false,acc⟩,())=some (⟨false,acc++((kids.drop k).map (·.l)).flatten⟩,()):=by
 intro m
 induction m with
 |zero=>intro k acc hk hl;apply q08;unfold l1_ep;simp only;rw[q0f,if_neg (by omega),zB (by omega)];simp
 |succ m ih=>
  intro k acc hk hl;have hc:k<kids.length:=by omega
  have hd:=q15 hc;have he:lens (kids.drop k)=kids[k].l.length+lens (kids.drop (k+1)):=by unfold lens;rw[hd,zI,List.sum_cons]
  have step:l1_ep (⟨q,kids⟩,(kids.length:Int),(k:Int),⟨false,acc⟩,())=some (.inl (⟨q,kids⟩,(kids.length:Int),((k+1:Nat):Int),⟨false,acc++kids[k].l⟩,())):=by
   unfold l1_ep;simp only;rw[q0f,if_pos (by omega),q0e (zj hc),q00,qag (by
    show((acc.length:Nat):Int)+((kids[k].l.length:Nat):Int)<=_;omega),q00,add1 (by omega)]
   rfl
  rw[q0d step,ih (k+1) _ (by omega) (by rw[ze];omega),hd,zI,List.flatten_cons,zm]
theorem q9d(k:Int)(s:Tx)(n z:Int)(q:Bool)(kids:List Y0)(hn:kids.length<=1000000)(hs:lens kids<=1000000):f_ep ((k,s,n,z),⟨q,kids⟩,())=some (⟨false,(k,s,n,(kids.length:Int))::(kids.map (·.l)).flatten⟩,()):=by have h:=qy7 q kids hn hs kids.length 0 [(k,s,n,(kids.length:Int))] (by omega) (by rw[List.drop_zero,List.length_singleton];omega);rw[List.drop_zero] at h;rw[u_ep];exact h
section
variable (nb:Bool) (c:PC) (F:Y1)
def Sm(lo:Nat)(B:Int)(d:Int)(r:PR (List ND×Nat))(o:Option Y3):Prop:=match r with
 |.ok x=>∃b,o=some (⟨b,x.1⟩,S nb c F (x.2:Int) d 0 0)
 |.error q=>∃v a d',o=some (v,S nb c F a d' q.1 q.2)/\q.2≠0/\((lo:Int)<=a/\a<=B)/\(v.l.length:Int)<=3*(a-lo)+1
variable {nb c F}
end
open Pz
section
variable (nb:Bool) (c:PC) (F:Y1)
def Er(lo:Nat)(B w er:Int)(o:Option Y3):Prop:=∃v a d',o=some (v,S nb c F a d' w er)/\((lo:Int)<=a/\a<=B)/\(v.l.length:Int)<=3*(a-lo)+1
variable {nb c F} {E:Int} {Q:Tx→Prop} {N:Int→Prop}
theorem Sm.bind{lo1 lo:Nat}{B1 B d:Int}{A:List ND×Nat->Prop}{r:PR (List ND×Nat)}{o:Option Y3}{f:List ND×Nat->PR (List ND×Nat)}{K:Y3->Option Y3}(h:Sm nb c F lo1 B1 d r o)(ho:Oks E A r)(h1:∀b x,A x->Sm nb c F lo B d (f x) (K (⟨b,x.1⟩,S nb c F (x.2:Int) d 0 0)))(h2:∀(v:Y0) (a d' w er:Int),er≠0->((lo1:Int)<=a/\a<=B1)->(v.l.length:Int)<=3*(a-lo1)+1->Er nb c F lo B w er (K (v,S nb c F a d' w er))):Sm nb c F lo B d (eb r f) (bnd o K):=by
 cases r with
 |ok x=>obtain⟨b,rfl⟩:=h;exact h1 b x ho
 |error q=>obtain⟨v,a,d',rfl,g1,g2,g3⟩:=h;obtain⟨v',a',d'',e1,e2,e3⟩:=h2 v a d' q.1 q.2 g1 g2 g3;exact⟨v',a',d'',e1,g1,e2,e3⟩
variable {self:Yf0} {ps:PT} {d B:Int}
def slY(kids:List Y0):List (List ND):=kids.map (·.l)
theorem z4z(a:List Y0):(slY a).length=a.length:=zJ _
theorem z1m(a:List Y0):lens a=(slY a).flatten.length:=by unfold lens slY;rw[List.length_flatten,zY];rfl
end
open Pz
section
variable {f g:Yf0} (h:∀x,lq (f x) (g x))
include h
end
section
variable {nb:Bool} {c:PC} {F:Y1} {E:Int} {Q:Tx→Prop} {N:Int→Prop}
theorem Sm.up{lo:Nat}{B d:Int}{r:PR (List ND×Nat)}{o o':Option Y3}(h:Sm nb c F lo B d r o)(hl:lq o o'):Sm nb c F lo B d r o':=by
 cases r with
 |ok x=>obtain⟨b,hb⟩:=h;exact⟨b,hl _ hb⟩
 |error q=>obtain⟨v,a,d',hv,h2⟩:=h;exact⟨v,a,d',hl _ hv,h2⟩
end
open Pz
section
variable {nb:Bool} {c:PC} {F:Y1} {E:Int} {Q:Tx→Prop} {N:Int→Prop}
variable {self:Yf0} {ps pp:PT} {d B:Int}
end
open Pz
section
variable {nb:Bool} {c:PC} {F:Y1} {E:Int} {Q:Tx→Prop} {N:Int→Prop}
end
open Pz
section
variable {nb:Bool} {c:PC} {F:Y1} {E:Int} {Q:Tx→Prop} {N:Int→Prop}
variable {self:Yf0} {ps pp:PT} {d B:Int}
end
open Pz
section
variable {nb:Bool} {c:PC} {F:Y1} {E:Int} {Q:Tx→Prop} {N:Int→Prop}
variable {self:Yf0} {ps pp:PT} {d B:Int}
end
open Pz
open Pz
open Pz
def Few(n r:Nat)(x:PR (List Tk)):Prop:=n+r<=4000\/∃l,x=.ok l/\n+l.length<=4000
theorem Few.le{n r:Nat}{x:PR (List Tk)}(h:Few n r x):n<=4000:=by rcases h with h|⟨l,_,h⟩<;>omega
theorem Few.mono{n r r':Nat}{x:PR (List Tk)}(h:Few n r x)(hr:r'<=r):Few n r' x:=by
 rcases h with h|h
 ·exact .inl (by omega)
 ·exact .inr h
theorem Few.lt{n r:Nat}{x:PR (List Tk)}{t:Tk}(h:Few n (r+1) (eb x fun l=>.ok (t::l))):n<4000/\Few (n+1) r x:=by
 rcases h with h|⟨l,h1,h2⟩
 ·exact⟨by omega,.inl (by omega)⟩
 ·obtain⟨l',e1,e2⟩:=z7m h1;injection e2 with e2;subst e2;rw[zt] at h2;exact⟨by omega,.inr ⟨l',e1,by omega⟩⟩
end Fn
end Ev