/- All operations are sound; the frame rule; packing. -/
import Derived.Test.YtdgmbemagoakjaaGreatDoorEvD
set_option linter.defProp false
namespace Ev
open Go
section
variable {C:Cx} {X:Nat→Prop} {φ:Nat→Addr} {o:Nat→Obj} {w:World} {imm:Nat→Prop} {R:jU C.sigs} {env:Nat→V} {ρ:Operand→Value}
def dQ(C:Cx)(X:Nat->Prop)(φ:Nat->Addr)(o:Nat->Obj)(w:World)(v:V)(u:List (Nat×Obj))(r:Result Next):Prop:=
 (∃val w' φ',r=.ok (.value val) w'/\Comes C X φ φ' o u w w' v val)\/
 (∃w' φ',r=.ok .skip w'/\Comes C X φ φ' o u w w' v undef)\/
 (∃f args,r=.ok (.enter f args) w/\Calls C.P f args w fun e w'=>∃val φ',e=.returned val/\Comes C X φ φ' o u w w' v val)
def dQ.upon{v:V}{u:List (Nat×Obj)}{r:Result Next}(h:dQ C X φ o w v u r){op:Oper}{a:Act}{next:Act->World->Prop}{Q:Exit->Act->World->Prop}(hn:∀val w' φ',Comes C X φ φ' o u w w' v val->next (a.put op.dst val) w'):op.upon C.P a next Q r:=by
 rcases h with ⟨val,w',φ',rfl,hc⟩|⟨w',φ',rfl,hc⟩|⟨f,args,rfl,hc⟩
 ·exact hn _ _ _ hc
 ·exact hn _ _ _ hc
 ·refine Calls.mono hc fun e w' h=>?_;obtain⟨val,φ',rfl,h⟩:=h;exact hn _ _ _ h
def dY.cF{v:V}{u:List (Nat×Obj)}{s:Sem Value}(h:dY C X φ o w v u s):dQ C X φ o w v u ((do pure (Next.value (<-s)):Sem Next).run C.P w):=by obtain⟨val,w',φ',h1,h2⟩:=h;exact .inl ⟨val,w',φ',by simp[h1],h2⟩
def L5.cF{v:V}{u:List (Nat×Obj)}{s:Sem Unit}(h:L5 C X φ o w v u s):dQ C X φ o w v u ((do s;pure Next.skip:Sem Next).run C.P w):=by obtain⟨w',φ',h1,h2⟩:=h;exact .inr (.inl ⟨w',φ',by simp[h1],h2⟩)
def dQ.same(hm:MRel C X φ o w){v:V}{z:Value}(h:ay φ o (aj X φ o w) w v z):dQ C X φ o w v [] (.ok (.value z) w):=.inl ⟨z,w,φ,rfl,.same hm h⟩
def qxy{op:BinOp}{t:TypeId}{x y:V}{zx zy:Value}{v:V}{u:List (Nat×Obj)}(hl:∀id,rY φ o imm w id (o id))(hx:ay φ o imm w x zx)(hy:ay φ o imm w y zy)(h:(QA lf C o op t x y).aN v u):qu6 zx=true\/(bQ t C.eqs=true/\∃xs ys,zx=.agg xs/\zy=.agg ys):=by
 unfold QA at h;split at h
 ·obtain⟨rfl,_⟩:=oH hx;exact .inl rfl
 ·obtain⟨s,rfl,_⟩:=rZ hx;exact .inl rfl
 ·have:=Sb hx;subst this;exact .inl rfl
 ·have:=QO hx;subst this;exact .inl rfl
 ·have:=vr hx;subst this;exact .inl rfl
 ·split at h
  ·rw[dX,ze] at h;obtain⟨xs,rfl,_⟩:=hx;obtain⟨ys,rfl,_⟩:=hy;exact .inr ⟨h.1.1,xs,ys,rfl,rfl⟩
  ·cases h
 ·obtain⟨_,h2⟩:=Kx hx;rcases h2 with ⟨_,_,rfl⟩|⟨_,a,cap,ec,rfl,_⟩<;>exact .inl rfl
 ·have:zx=.slice none 0 0:=hx;subst this;exact .inl rfl
 ·obtain⟨c,rfl,_⟩:=hx;exact .inl rfl
 ·have:zx=.nilFunc:=hx;subst this;exact .inl rfl
 ·rename_i a k n;have hx:yQ imm w a k n zx:=hx;rcases W2 a hx with ⟨rfl,_⟩|⟨_,_,rfl,_⟩<;>exact .inl rfl
 ·have:zx=.pointer none:=hx;subst this;exact .inl rfl
 ·rw[dX,ze] at h;obtain⟨a,rfl⟩:=qnr hx h.1.2;exact .inl rfl
 ·split at h
  ·rename_i e s he;rcases qqj hx he hl with ⟨_,_,rfl⟩|⟨_,a,cap,rfl⟩<;>exact .inl rfl
  ·cases h
 ·cases h
def zbn(hE:mw C)(hm:MRel C X φ o w){op:BinOp}{t:TypeId}{x y:Operand}{vx vy:V}{v:V}{u:List (Nat×Obj)}(hx:ay φ o (aj X φ o w) w vx (ρ x))(hy:ay φ o (aj X φ o w) w vy (ρ y))(h:(QA lf C o op t vx vy).aN v u):dY C X φ o w v u (do eqGuard op t x y (ρ x) (ρ y);binOp op t (ρ x) (ρ y)):=by
 have h1:=zbe hm.aw hx hy (fun t p a b xs ys=>hE.eq w _ t p a b xs ys) h;obtain⟨hu,val,h2,h3⟩:=h1;refine dY.aZ hm ⟨hu,val,?_,h3⟩;rcases qxy hm.aw hx hy h with hg|⟨hg,xs,ys,e1,e2⟩
 ·simp[qxp hg,h2]
 ·rw[e1,e2] at h2 ⊢;simp[run_eqGuard_agg w op t x y xs ys (hE.guard t hg),h2]
def SA(cW:∀x,ay φ o imm w (cG C env x) (ρ x)):∀(l:List Operand),ck φ o imm w (l.map (cG C env)) (l.map ρ)
 |[]=>rfl
 |x::l=>⟨_,_,rfl,cW x,SA cW l⟩
def qo5(cW:∀x,ay φ o imm w (cG C env x) (ρ x)):∀(l:List (Nat×Operand)),FI φ o imm w (l.map fun p=>(p.1,cG C env p.2)) (l.map fun p=>(p.1,ρ p.2))
 |[]=>rfl
 |x::l=>⟨_,_,rfl,cW x.2,qo5 cW l⟩
def qsf(cW:∀x,ay φ o imm w (cG C env x) (ρ x))(x:Option Operand):B6 φ o imm w (x.map (cG C env)) (x.map ρ):=by
 cases x with
 |none=>trivial
 |some x=>exact cW x
def qur{xs:Array Operand}{ρ:Operand->Value}{l:List Operand}(h:xs.toList=l):xs.map ρ=(l.map ρ).toArray:=by rw[<-h,<-Array.toList_map,Array.toArray_toList]
def Gt(C:Cx)(R:jU C.sigs)(X:Nat->Prop)(φ:Nat->Addr)(o:Nat->Obj)(w:World)(fr f:Nat):Prop:=
 ∀(vs:List V) (zs:List Value) (v:V) (u:List (Nat×Obj)),ck φ o (aj X φ o w) w vs zs->(Fz lf C R o fr f vs C.sigs 0).aN v u->mU fr o u->
  (∃fn,C.P.funcs[f]?=some fn/\(fn.name== "runtime.NumGoroutine")=false/\fn.body.isNone=false)/\
  Calls C.P f zs.toArray w fun e w'=>∃val φ',e=.returned val/\Comes C X φ φ' o u w w' v val
def zin(hm:MRel C X φ o w)(cW:∀x,ay φ o (aj X φ o w) w (cG C env x) (ρ x)){fr:Nat}{ty:TypeId}{v:V}{u:List (Nat×Obj)}(x:Operand)(h:(RW C fr ty (cG C env x)).aN v u)(hf:mU fr o u):dQ C X φ o w v u (.ok (.value (ρ x)) w):=by
 have hx:=cW x;unfold RW at h;split at h
 ·rename_i e1;rw[e1] at hx;split at h
  ·rename_i e _;rw[dW] at h;obtain⟨rfl,rfl⟩:=h;have hc:o fr=.none:=hf _ (zg ..) (Nat.le_refl _) (by show fr<fr+16;omega);refine .inl ⟨_,w,φ,rfl,Comes.write hm (.vec e 0 false ⟨true,[]⟩) (by simp[aV,live]) rfl (fun _ _=>rfl) (QV hc _) (fun _ _ _=>⟨Nat.zero_le _,fun _=>rfl,fun h=>by simp at h⟩) (fun _ h=>by simp at h) (fun he=>?_)⟩;unfold ay;rw[he];exact⟨Nat.le_refl _,fun _=>.inl ⟨rfl,hx⟩⟩
  ·rw[dW] at h;obtain⟨rfl,rfl⟩:=h;exact .same hm hx
 ·rw[dW] at h;obtain⟨rfl,rfl⟩:=h;exact .same hm hx
def zg0(hm:MRel C X φ o w)(cW:∀x,ay φ o (aj X φ o w) w (cG C env x) (ρ x)){v:V}{u:List (Nat×Obj)}{c a b:Operand}{dst:Option Tmp}{ty:TypeId}{pos:String}{after:Array Edge}{guard:Option (Nat×Bool)}{fr:Nat}(h:(cZ lf C R env o fr ty (.pick c a b)).aN v u):dQ C X φ o w v u ((execOp ρ ⟨dst,.pick c a b,ty,pos,after,guard⟩).run C.P w):=by
 have hc:=cW c;have key:∀x,(Ge C env c=.lb x\/Ge C env c=.d .bool x)->cG C env c=.d .bool x:=by
  intro x h;cases c with
  |tmp t=>show dO (env t)=_;have h:env t=.lb x\/env t=.d .bool x:=h;rcases h with h|h<;>rw[h]<;>rfl
  |const z=>
   rcases h with h|h
   ·exfalso;have h:Kq z=.lb x:=h;have hn:∀(b:Bool) (y:V),(∀x,y≠.lb x)->(bif b then y else V.dH)≠.lb x:=by
     intro b y hy;cases b
     ·intro h;cases h
     ·exact hy x
    unfold Kq at h;split at h<;>first|exact hn _ _ (fun _ h=>by cases h) h|cases h
   ·exact h
  |global g=>
   rcases h with h|h
   ·exfalso;have h:cG C env (.global g)=.lb x:=h;simp only[cG] at h;split at h<;>cases h
   ·exact h
  |func f=>
   rcases h with h|h
   ·have h:(bif Nat.blt f 1048576 then V.fn f [] else .dH)=.lb x:=h;cases hb:Nat.blt f 1048576<;>rw[hb] at h<;>cases h
   ·have h:(bif Nat.blt f 1048576 then V.fn f [] else .dH)=.d .bool x:=h;cases hb:Nat.blt f 1048576<;>rw[hb] at h<;>cases h
 simp only[cZ] at h;split at h
 ·rename_i x e;rw[dW] at h;obtain⟨rfl,rfl⟩:=h;rw[key x (.inl e)] at hc;have hc:=vr hc;simp only[execOp,hc,asBool];cases x
  ·exact .same hm (cW b)
  ·exact .same hm (cW a)
 ·rename_i x e;rw[dW] at h;obtain⟨rfl,rfl⟩:=h;rw[key x (.inr e)] at hc;have hc:=vr hc;simp only[execOp,hc,asBool];exact .same hm (zbi (cW a) (cW b))
 ·cases h
def zg1(hm:MRel C X φ o w)(cW:∀x,ay φ o (aj X φ o w) w (cG C env x) (ρ x)){v:V}{u:List (Nat×Obj)}{op:UnOp}{t:TypeId}{x:Operand}{dst:Option Tmp}{ty:TypeId}{pos:String}{after:Array Edge}{guard:Option (Nat×Bool)}{fr:Nat}(h:(cZ lf C R env o fr ty (.unOp op t x)).aN v u):dQ C X φ o w v u ((execOp ρ ⟨dst,.unOp op t x,ty,pos,after,guard⟩).run C.P w):=by
 have hx:=cW x;cases op with
 |xor=>
  simp only[cZ] at h;split at h
  ·rename_i k n e;rw[e] at hx;rw[dW] at h;obtain⟨rfl,rfl⟩:=h;obtain⟨hz,_⟩:=oH hx;simp only[execOp,hz];have e1:LK k=if k.signed then -1 else k.max:=by cases k<;>decide
   exact(dY.aZ hm ⟨rfl,.int k (lf.qk k (LK k) n),by rw[e1];simp[Op.unary,Op.intBits,lf,qk,pure],nf (QP _ _)⟩).cF
  ·cases h
 |plus=>exact False.elim h
 |neg=>
  simp only[cZ] at h;split at h
  ·rename_i k n e;rw[e] at hx;rw[dW] at h;obtain⟨rfl,rfl⟩:=h;obtain⟨hz,_⟩:=oH hx;simp only[execOp,hz];exact(dY.aZ hm ⟨rfl,.int k (k.wrap (0-n)),by simp[Op.unary,Op.intArith],nf (QP _ _)⟩).cF
  ·cases h
 |not=>
  simp only[cZ] at h;split at h
  ·rename_i b e;rw[e] at hx;rw[dW] at h;obtain⟨rfl,rfl⟩:=h;have hz:=vr hx;simp only[execOp,hz];exact(dY.aZ hm ⟨rfl,.bool (!b),by simp[Op.unary],Gp⟩).cF
  ·cases h
def qxz(hm:MRel C X φ o w)(cW:∀x,ay φ o (aj X φ o w) w (cG C env x) (ρ x)){v:V}{u:List (Nat×Obj)}{fn:Fn}{first caps:Array Operand}{dst:Option Tmp}{ty:TypeId}{pos:String}{after:Array Edge}{guard:Option (Nat×Bool)}{fr:Nat}(h:(cZ lf C R env o fr ty (.makeFunc fn first caps)).aN v u):dQ C X φ o w v u ((execOp ρ ⟨dst,.makeFunc fn first caps,ty,pos,after,guard⟩).run C.P w):=by
 cases fn<;>try exact False.elim h
 rename_i f;simp only[cZ] at h;cases hb:Nat.blt f 1048576 with
 |false=>rw[hb] at h;exact False.elim h
 |true=>
  rw[hb] at h;have h:(Pk.now (.fn (f+1048576*first.toList.length) (first.toList.map (cG C env)++caps.toList.map (cG C env)))).aN v u:=h;rw[dW] at h;obtain⟨rfl,rfl⟩:=h;have hc:f<1048576:=zD hb;have e1:(f+1048576*first.toList.length) % 1048576=f:=by rw[Nat.add_mul_mod_self_left];exact Nat.mod_eq_of_lt hc
  have e2:(f+1048576*first.toList.length) / 1048576=first.toList.length:=by rw[Nat.add_mul_div_left _ _ dc,Nat.div_eq_of_lt hc,zC]
  have hl:(first.toList.map ρ).length=first.toList.length:=zG _;simp only[execOp,Instr.makeFunc];have hv:ay φ o (aj X φ o w) w (.fn (f+1048576*first.toList.length) (first.toList.map (cG C env)++caps.toList.map (cG C env))) (.func (.func f) (first.map ρ) (caps.map ρ)):=by
   refine⟨(first.toList.map ρ++caps.toList.map ρ).toArray,?_,?_⟩
   ·unfold R6;rw[e1,e2];have t1:((first.toList.map ρ++caps.toList.map ρ).take first.toList.length).toArray=first.map ρ:=by rw[<-hl,List.take_left];apply Array.toList_inj.1;simp
    have t2:((first.toList.map ρ++caps.toList.map ρ).drop first.toList.length).toArray=caps.map ρ:=by rw[<-hl,List.drop_left];apply Array.toList_inj.1;simp
    show _=Value.func (.func f) ((first.toList.map ρ++caps.toList.map ρ).take first.toList.length).toArray ((first.toList.map ρ++caps.toList.map ρ).drop first.toList.length).toArray;rw[t1,t2]
   ·exact KD (SA cW _) (SA cW _)
  exact(dY.aZ (s:=pure (.func (.func f) (first.map ρ) (caps.map ρ))) hm ⟨rfl,_,rfl,hv⟩).cF
def z35(hm:MRel C X φ o w)(cW:∀x,ay φ o (aj X φ o w) w (cG C env x) (ρ x)){v:V}{u:List (Nat×Obj)}{x:Operand}{i:Nat}{dst:Option Tmp}{ty:TypeId}{pos:String}{after:Array Edge}{guard:Option (Nat×Bool)}{fr:Nat}(h:(cZ lf C R env o fr ty (.extract x i)).aN v u):dQ C X φ o w v u ((execOp ρ ⟨dst,.extract x i,ty,pos,after,guard⟩).run C.P w):=by exact(zbm hm (cW x) h).cF
def zg2(hm:MRel C X φ o w)(cW:∀x,ay φ o (aj X φ o w) w (cG C env x) (ρ x)){v:V}{u:List (Nat×Obj)}{x:Operand}{b:Bool}{dst:Option Tmp}{ty:TypeId}{pos:String}{after:Array Edge}{guard:Option (Nat×Bool)}{fr:Nat}(h:(cZ lf C R env o fr ty (.next x b)).aN v u):dQ C X φ o w v u ((execOp ρ ⟨dst,.next x b,ty,pos,after,guard⟩).run C.P w):=by
 cases b with
 |false=>exact False.elim h
 |true=>exact(z6n hm (cW x) h).cF
def qo6{fr:Nat}{n:Int}{vs:List V}{z:Value}{b:Bool}:∀(a:List (Nat×Bool)) (i:Nat) (k:Int),RY lf C R o fr (k+(i:Int)) n vs a i=some (some b)->yQ imm w a k n z->∃f caps KE,z=.func (.func f) #[] KE/\ck φ o imm w caps KE.toList/\(Fz lf C R o fr f (vs++caps) C.sigs 0).aN (.d .bool b) []
 |[],_,_,h,_=>by cases h
 |(f,c)::r,i,k,h,hr=>by
  unfold RY at h;split at h
  ·rename_i x hx;split at h
   ·rename_i y hy;injection h with h;rcases hr with ⟨rfl,h2⟩|⟨h1,h2⟩
    ·have he:lf.e (0+(i:Int)) (Int.ofNat i)=true:=by show((0+(i:Int))==Int.ofNat i)=true;simp
     rw[he] at h;have h:x=some b:=h;subst h;have gv:(Fz lf C R o fr f (vs++bif c then [.ref (.int .i64) n] else []) C.sigs 0).aN (.d .bool b) []:=by
      revert hx;generalize Fz lf C R o fr f (vs++bif c then [.ref (.int .i64) n] else []) C.sigs 0=p;intro hx;cases p with
      |fail=>cases hx
      |mW v u=>cases hx
      |dyn α x' out=>
       injection hx with hx;cases x' with
       |none=>cases hx
       |some q=>
        have hx:(match out q with|(.d .bool b,[])=>some b|_=>none)=some b:=hx;split at hx
        ·rename_i b' eo;injection hx with hx;subst hx;exact⟨q,rfl,eo⟩
        ·cases hx
     cases c with
     |false=>exact⟨f,[],#[],h2,rfl,gv⟩
     |true=>obtain⟨p,h3,h4⟩:=h2;exact⟨f,[.ref (.int .i64) n],#[p],h3,⟨p,[],rfl,h4,rfl⟩,gv⟩
    ·have he:lf.e (k+(i:Int)) (Int.ofNat i)=false:=by
      show((k+(i:Int))==Int.ofNat i)=false;have:k+(i:Int)≠Int.ofNat i:=by show k+(i:Int)≠(i:Int);omega
      exact beq_false_of_ne this
     rw[he] at h;have h:y=some b:=h;subst h;refine qo6 r (i+1) (k-1) ?_ h2;have:k-1+((i+1:Nat):Int)=k+(i:Int):=om
     rw[this];exact hy
   ·cases h
  ·cases h
def zbo(cW:∀x,ay φ o (aj X φ o w) w (cG C env x) (ρ x)){v:V}{u:List (Nat×Obj)}{f:Operand}{args:Array Operand}{yS:Array TypeId}{dst:Option Tmp}{ty:TypeId}{pos:String}{after:Array Edge}{guard:Option (Nat×Bool)}{fr:Nat}(he:∀f,Gt C R X φ o w fr f)(h:(cZ lf C R env o fr ty (.call ⟨.value f,args,yS⟩)).aN v u)(hf:mU fr o u):dQ C X φ o w v u ((execOp ρ ⟨dst,.call ⟨.value f,args,yS⟩,ty,pos,after,guard⟩).run C.P w):=by
 have hx:=cW f;simp only[cZ] at h;split at h
 ·rename_i vS caps e;rw[e] at hx;obtain⟨cz,hz,hr⟩:=hx;have hc:ck φ o (aj X φ o w) w (caps.take (vS / 1048576)++(args.toList.map (cG C env)++caps.drop (vS / 1048576))) (cz.toList.take (vS / 1048576)++((args.map ρ).toList++cz.toList.drop (vS / 1048576))):=by rw[Array.toList_map];exact KD (Sq _ hr) (KD (SA cW _) (Sp _ hr))
  obtain⟨⟨fn,g1,g2,g3⟩,g4⟩:=he (vS % 1048576) _ _ v u hc h hf;refine .inr (.inr ⟨vS % 1048576,(cz.toList.take (vS / 1048576)++((args.map ρ).toList++cz.toList.drop (vS / 1048576))).toArray,?_,g4⟩);have e2:(cz.toList.take (vS / 1048576)++((args.map ρ).toList++cz.toList.drop (vS / 1048576))).toArray=(cz.toList.take (vS / 1048576)).toArray++args.map ρ++(cz.toList.drop (vS / 1048576)).toArray:=by apply Array.toList_inj.1;simp
  rw[e2];have Su:¬fn.name= "runtime.NumGoroutine":=by simpa using g2
  have g3':fn.body≠none:=by intro e;rw[e] at g3;cases g3
  unfold R6 at hz;simp[execOp,resolve,hz,Deferred.ofValue,invoke,callFunc,g1,Su,g3']
 ·rename_i a k n e;rw[e] at hx;split at h
  ·rename_i x hg;obtain⟨b,hb,ho⟩:=h;subst hb;injection ho with hj hk;subst hj hk;have hg:RY lf C R o fr (k+((0:Nat):Int)) n (args.toList.map (cG C env)) a 0=some (some b):=by
    have:k+((0:Nat):Int)=k:=om
    rw[this];exact hg
   obtain⟨vS,caps,cz,hz,hr,h⟩:=qo6 (φ:=φ) (imm:=aj X φ o w) (w:=w) a 0 k hg hx;have hc:ck φ o (aj X φ o w) w (args.toList.map (cG C env)++caps) ((args.map ρ).toList++cz.toList):=by rw[Array.toList_map];exact KD (SA cW _) hr
   obtain⟨⟨fn,g1,g2,g3⟩,g4⟩:=he vS _ _ _ _ hc h hf;refine .inr (.inr ⟨vS,((args.map ρ).toList++cz.toList).toArray,?_,g4⟩);have e2:((args.map ρ).toList++cz.toList).toArray=args.map ρ++cz:=by apply Array.toList_inj.1;simp
   rw[e2];have Su:¬fn.name= "runtime.NumGoroutine":=by simpa using g2
   have g3':fn.body≠none:=by intro e;rw[e] at g3;cases g3
   simp[execOp,resolve,hz,Deferred.ofValue,invoke,callFunc,g1,Su,g3']
  ·exact False.elim h
 ·cases h
def qus{k:IntKind}{a b:Int}(ha:gE k a)(hb:gE k b):gE k (kC a b)/\gE k (kD a b):=by unfold kC kD;constructor<;>split<;>assumption
def z36(hC:cV C)(hm:MRel C X φ o w)(cW:∀x,ay φ o (aj X φ o w) w (cG C env x) (ρ x)){v:V}{u:List (Nat×Obj)}{b:Builtin}{args:Array Operand}{yS:Array TypeId}{dst:Option Tmp}{ty:TypeId}{pos:String}{after:Array Edge}{guard:Option (Nat×Bool)}{fr:Nat}(h:(cZ lf C R env o fr ty (.call ⟨.builtin b,args,yS⟩)).aN v u)(hf:mU fr o u):dQ C X φ o w v u ((execOp ρ ⟨dst,.call ⟨.builtin b,args,yS⟩,ty,pos,after,guard⟩).run C.P w):=by
 have sf:∀{x y:V},args.toList.map (cG C env)=[x,y]->∃zx zy,args.map ρ=#[zx,zy]/\ay φ o (aj X φ o w) w x zx/\ay φ o (aj X φ o w) w y zy:=by
  intro x y e
  match hl:args.toList,e with
  |[a,b],e=>simp only[zN,List.map_nil,List.cons.injEq,and_true] at e;obtain⟨rfl,rfl⟩:=e;exact⟨ρ a,ρ b,qur hl,cW a,cW b⟩
 have xD:∀{x:V},args.toList.map (cG C env)=[x]->∃zx,args.map ρ=#[zx]/\ay φ o (aj X φ o w) w x zx:=by
  intro x e
  match hl:args.toList,e with
  |[a],e=>simp only[zN,List.map_nil,List.cons.injEq,and_true] at e;subst e;exact⟨ρ a,qur hl,cW a⟩
 have aS:∀{l:List TypeId},yS.toList=l->yS=l.toArray:=fun e=>by rw[<-e,Array.toArray_toList]
 simp only[cZ,qu0] at h;split at h
 ·rename_i t ts x e1 e2;obtain⟨zx,h1,h2⟩:=xD e2;have:=(dY.aZ hm (zbg (ts:=ts) (ty:=ty) hm h2 h)).cF;rw[<-aS e1] at this;simpa[execOp,resolve,invoke,builtin,h1] using this
 ·rename_i t u' ts x y e1 e2;obtain⟨zx,zy,h1,h2,h3⟩:=sf e2;have:=(qxw (ts:=ts) (ty:=ty) hC hm h2 h3 h hf).cF;rw[<-aS e1] at this;simpa[execOp,resolve,invoke,builtin,h1] using this
 ·rename_i t ts x y e1 e2;obtain⟨zx,zy,h1,h2,h3⟩:=sf e2;have:=(z6g (ts:=ts) (ty:=ty) hC hm h2 h3 h).cF;rw[<-aS e1] at this;simpa[execOp,resolve,invoke,builtin,h1] using this
 ·rename_i t ts x e1 e2;obtain⟨zx,h1,h2⟩:=xD e2;have:=(z32 (ts:=ts) (ty:=ty) hC hm h2 h).cF;rw[<-aS e1] at this;simpa[execOp,resolve,invoke,builtin,h1] using this
 ·rename_i k a k' b e2;obtain⟨zx,zy,h1,h2,h3⟩:=sf e2;obtain⟨rfl,i1⟩:=oH h2;obtain⟨rfl,i2⟩:=oH h3;rw[dX,dW] at h;obtain⟨hk,rfl,rfl⟩:=h;have:=Sd hk;subst this;have:dQ C X φ o w (.d (.int k) (lf.kC a b)) [] _:=(dY.aZ (s:=Builtin.min_ yS ty #[.int k a,.int k b]) hm ⟨rfl,.int k (kC a b),by simp[Builtin.min_,Builtin.min2,kC],nf (qus i1 i2).1⟩).cF;simpa[execOp,resolve,invoke,builtin,h1] using this
 ·rename_i k a k' b e2;obtain⟨zx,zy,h1,h2,h3⟩:=sf e2;obtain⟨rfl,i1⟩:=oH h2;obtain⟨rfl,i2⟩:=oH h3;rw[dX,dW] at h;obtain⟨hk,rfl,rfl⟩:=h;have:=Sd hk;subst this;have:dQ C X φ o w (.d (.int k) (lf.kD a b)) [] _:=(dY.aZ (s:=Builtin.max_ yS ty #[.int k a,.int k b]) hm ⟨rfl,.int k (kD a b),by simp[Builtin.max_,Builtin.max2,kD],nf (qus i1 i2).2⟩).cF;simpa[execOp,resolve,invoke,builtin,h1] using this
 ·rename_i a b e2;obtain⟨zx,zy,h1,h2,h3⟩:=sf e2;have g1:=Sb h2;have g2:=Sb h3;subst g1 g2;rw[dW] at h;obtain⟨rfl,rfl⟩:=h;have:dQ C X φ o w (.d .dG ((a:Nat),(b:Nat))) [] _:=(dY.aZ (s:=Builtin.complex_ yS ty #[.float .f64 a,.float .f64 b]) hm ⟨rfl,.complex .f64 a b,rfl,z60 (b:=(a,b))⟩).cF;simpa[execOp,resolve,invoke,builtin,h1] using this
 ·rename_i a e2;obtain⟨zx,h1,h2⟩:=xD e2;have g1:=QO h2;subst g1;rw[dW] at h;obtain⟨rfl,rfl⟩:=h;have:dQ C X φ o w (.d .fG (Prod.fst (α:=Nat) (β:=Nat) a)) [] _:=(dY.aZ (s:=Builtin.real_ yS ty #[.complex .f64 (Prod.fst (α:=Nat) (β:=Nat) a) (Prod.snd (α:=Nat) (β:=Nat) a)]) hm ⟨rfl,.float .f64 _,rfl,W3⟩).cF;simpa[execOp,resolve,invoke,builtin,h1] using this
 ·rename_i a e2;obtain⟨zx,h1,h2⟩:=xD e2;have g1:=QO h2;subst g1;rw[dW] at h;obtain⟨rfl,rfl⟩:=h;have:dQ C X φ o w (.d .fG (Prod.snd (α:=Nat) (β:=Nat) a)) [] _:=(dY.aZ (s:=Builtin.imag_ yS ty #[.complex .f64 (Prod.fst (α:=Nat) (β:=Nat) a) (Prod.snd (α:=Nat) (β:=Nat) a)]) hm ⟨rfl,.float .f64 _,rfl,W3⟩).cF;simpa[execOp,resolve,invoke,builtin,h1] using this
 ·cases h
set_option maxHeartbeats 4000000 in
def zg3(hC:cV C)(hE:mw C)(hm:MRel C X φ o w)(cW:∀x,ay φ o (aj X φ o w) w (cG C env x) (ρ x)){op:Oper}{fr:Nat}(hc:∀f,Gt C R X φ o w fr f){v:V}{u:List (Nat×Obj)}(h:(cZ lf C R env o fr op.type op.op).aN v u)(hf:mU fr o u):dQ C X φ o w v u ((execOp ρ op).run C.P w):=by
 obtain⟨dst,op,ty,pos,after,guard⟩:=op;cases op
 case move x=>exact zin hm cW x h hf
 case assign x=>exact zin hm cW x h hf
 case pick c a b=>exact zg0 hm cW h
 case alloc e=>exact(z2z hC hm h hf _).cF
 case box e x=>exact(zbk hm (cW x) h hf).cF
 case build t ps=>refine(z6c (fun v u h=>z30 (zparts:=ps.map fun p=>(p.1,ρ p.2)) hC hm ?_ h) h hf).cF;rw[Array.toList_map];exact qo5 cW _
 case buildSlice t n ps=>refine(qo1 (zparts:=ps.map fun p=>(p.1,ρ p.2)) hC hm ?_ h hf).cF;rw[Array.toList_map];exact qo5 cW _
 case load t a=>exact(dY.aZ hm (qud hC hm (cW a) h)).cF
 case store t a x=>exact(z31 hC hm (cW a) (cW x) h).cF
 case nilCheck x=>obtain⟨rfl,rfl,hz⟩:=zbj (cW x) h;have hx:=cW x;rcases hz with ⟨a,e⟩|⟨f,p,c,e⟩<;>simp only[execOp,e]<;>rw[e] at hx<;>exact .same hm hx
 case binOp op t x y yt=>exact(zbn hE hm (cW x) (cW y) h).cF
 case unOp op t x=>exact zg1 hm cW h
 case convert s d x=>exact(quk hC hm (cW x) h hf).cF
 case makeFunc fn first caps=>exact qxz hm cW h
 case makeSlice t l c=>exact(qq2 hC hm (cW l) (cW c) h hf).cF
 case slice t x lo hi mx=>exact(z2x hC hm (cW x) (qsf cW lo) (qsf cW hi) (qsf cW mx) h hf).cF
 case fieldAddr t x f=>exact(dY.aZ hm (qpz hC hm (cW x) h)).cF
 case field t x f=>exact(dY.aZ hm (z2v hC hm (cW x) h)).cF
 case indexAddr t x i=>exact(dY.aZ hm (qq0 hC hm (cW x) (cW i) h)).cF
 case index t x i=>exact(dY.aZ hm (z2w hC (cW x) (cW i) h)).cF
 case extract x i=>exact z35 hm cW h
 case range t x=>exact(z34 hm (cW x) h hf).cF
 case next x b=>exact zg2 hm cW h
 case makeMap t r=>exact False.elim h
 case lookup t x k ok=>exact False.elim h
 case mapUpdate t m k x=>exact False.elim h
 case call c=>
  obtain⟨callee,args,yS⟩:=c;cases callee with
  |invoke r m=>exact False.elim h
  |value f=>exact zbo cW hc h hf
  |builtin b=>exact z36 hC hm cW h hf
 all_goals exact False.elim h
end
def cP{j:Nat}:∀{l:List Nat},bQ j l=true↔j∈l
 |[]=>by simp[bQ]
 |b::r=>by
  simp only[bQ,zk];cases h:Nat.beq b j with
  |true=>have:=zj h;simp[this]
  |false=>
   have:¬j=b:=fun e=>by subst e;rw[Nat.beq_refl] at h;cases h
   simp[this,cP]
def SB:∀{u:List (Nat×Obj)} {o o':Nat->Obj} {id:Nat},id∈bW u->aq o u id=aq o' u id
 |(i,x)::r,o,o',id,h=>by
  show aq (cy o i x) r id=aq (cy o' i x) r id;by_cases hr:id∈bW r
  ·exact SB hr
  ·rw[iU hr,iU hr];simp only[bW,zk,hr,or_false] at h;subst h;rw[eQ,eQ]
section
variable {C:Cx} {X:Nat→Prop} {φ φ':Nat→Addr} {o o':Nat→Obj} {w w':World} {imm:Nat→Prop} {F:List Nat}
def qqn:∀(x:V) (z:Value),(∀id,id∈fi x->o' id=o id)->ay φ o imm w x z->ay φ o' imm w x z:=by
 intro x;refine V.rec (motive_1:=fun x=>∀z,(∀id,id∈fi x->o' id=o id)->ay φ o imm w x z->ay φ o' imm w x z)
  (motive_2:=fun l=>∀zs,(∀id,id∈iP l->o' id=o id)->ck φ o imm w l zs->ck φ o' imm w l zs)
  ?_ ?_ ?_ ?_ ?_ ?_ ?_ ?_ ?_ ?_ ?_ ?_ ?_ ?_ ?_ ?_ ?_ ?_ ?_ ?_ ?_ ?_ ?_ ?_ x
 ·exact fun t x z _ h=>h
 ·intro id ver z hs h;have:=hs id (by simp[fi]);unfold ay at*;rw[this];exact h
 ·intro id ver n cp z hs h;have:=hs id (by simp[fi]);unfold ay at*;rw[this];exact h
 ·intro id off z hs h;have:=hs id (by simp[fi]);unfold ay at*;rw[this];exact h
 ·intro id ver i path z hs h;have:=hs id (by simp[fi]);unfold ay at*;rw[this];exact h
 ·exact fun t x z _ h=>h
 ·exact fun z _ h=>h
 ·exact fun f l ih z hs ⟨c,h1,h2⟩=>⟨c,h1,ih _ (fun id h=>hs id (by unfold fi;exact h)) h2⟩
 ·exact fun z _ h=>h
 ·exact fun l ih z hs ⟨c,h1,h2⟩=>⟨c,h1,ih _ (fun id h=>hs id (by unfold fi;exact h)) h2⟩
 ·exact fun l ih z hs ⟨c,h1,h2⟩=>⟨c,h1,ih _ (fun id h=>hs id (by unfold fi;exact h)) h2⟩
 ·exact fun z _ h=>h
 ·exact fun z _ h=>h
 ·exact fun b z _ h=>h
 ·exact fun z _ h=>h
 ·exact fun z _ h=>h
 ·intro id b z hs h;have:=hs id (by simp[fi]);unfold ay at*;rw[this];exact h
 ·intro id ver lo z hs h;have:=hs id (by simp[fi]);unfold ay at*;rw[this];exact h
 ·intro id z hs h;have:=hs id (by simp[fi]);unfold ay at*;rw[this];exact h
 ·exact fun b p c z _ h=>h
 ·exact fun a k n z _ h=>h
 ·exact fun t x z _ h=>h
 ·exact fun zs _ h=>h
 ·exact fun x l mY mZ zs hs ⟨v,r,h1,h2,h3⟩=>⟨v,r,h1,mY _ (fun id h=>hs id (by unfold iP;exact List.mem_append_left _ h)) h2,
   mZ _ (fun id h=>hs id (by unfold iP;exact List.mem_append_right _ h)) h3⟩
def qut:∀(l:List V) (zs:List Value),(∀id,id∈iP l->o' id=o id)->ck φ o imm w l zs->ck φ o' imm w l zs
 |[],_,_,h=>h
 |x::l,_,hs,⟨v,r,h1,h2,h3⟩=>⟨v,r,h1,qqn x v (fun id h=>hs id (by unfold iP;exact List.mem_append_left _ h)) h2,
   qut l r (fun id h=>hs id (by unfold iP;exact List.mem_append_right _ h)) h3⟩
def Xr(X:Nat->Prop)(φ:Nat->Addr)(o:Nat->Obj)(F:List Nat)(b:Nat):Prop:=X b\/∃id,id∉F/\aV (φ id) (o id)=true/\(φ id).block=b
def ow{id:Nat}(h:id∈F):dR o F id=o id:=by unfold dR;rw[cP.2 h];rfl
def yT{id:Nat}(h:id∉F):dR o F id=.none:=by
 unfold dR;cases e:bQ id F with
 |true=>exact absurd (cP.1 e) h
 |false=>rfl
def yU(b:Nat):aj (Xr X φ o F) φ (dR o F) w b↔aj X φ o w b:=by
 constructor
 ·rintro⟨h1,h2,h3⟩;refine⟨h1,fun h=>h2 (.inl h),fun⟨id,e1,e2⟩=>?_⟩;by_cases hi:id∈F
  ·exact h3 ⟨id,by rw[ow hi];exact e1,e2⟩
  ·exact h2 (.inr ⟨id,hi,e1,e2⟩)
 ·rintro⟨h1,h2,h3⟩;refine⟨h1,?_,fun⟨id,e1,e2⟩=>?_⟩
  ·rintro(h|⟨id,_,e1,e2⟩)
   ·exact h2 h
   ·exact h3 ⟨id,e1,e2⟩
  ·by_cases hi:id∈F
   ·rw[ow hi] at e1;exact h3 ⟨id,e1,e2⟩
   ·rw[yT hi] at e1;exact(mT e1).elim
def z38{imm':Nat->Prop}{id:Nat}{x:Obj}(hi:∀b,imm b->imm' b)(hs:∀j,j∈B3 x->o' j=o j)(h:rY φ o imm w id x):rY φ o' imm' w id x:=by
 have hk:∀x z,ay φ o' imm w x z->ay φ o' imm' w x z:=fun x z h=>BA hi (fun _ _=>rfl) (fun _=>Up.same fun _ _ h=>h) x z h;cases x with
 |dead=>trivial
 |none=>trivial
 |box cs=>obtain⟨h1,c,el,lo,hc,h2,h3,h4⟩:=h;exact⟨h1,c,el,lo,hc,h2,h3,LU hk _ _ (qut cs _ hs h4)⟩
 |iter l p=>exact h
 |vec t ver fr s=>obtain⟨h1,h2,h3⟩:=h;refine⟨h1,h2,fun hn=>?_⟩;refine(h3 hn).imp (fun⟨h4,ec,h5,h6,h7,h8,h9⟩=>?_) fun g=>g;exact⟨h4,ec,rJ (jH hi (fun _ _=>rfl) t) h5,h6,h7,h8,fun hf=>hi _ (h9 hf)⟩
def MRel.kE(hm:MRel C X φ o w)(id:Nat)(hb:aV (φ id) (o id)=true->fb w w' (φ id).block)(stays:∀b,aj X φ o w b->w'.heap[b]?=w.heap[b]?):iT C w' (φ id) (o id):=by
 refine(hm.rK id).bN hb (fun ver s e hn=>.same ?_) (hm.R8 id);have ho:=hm.aw id;rw[e] at ho;obtain⟨_,_,ho⟩:=ho
 grind
def MRel.restrict(hm:MRel C X φ o w)(hc:∀id,id∈F->∀j,j∈B3 (o id)->j∈F):MRel C (Xr X φ o F) φ (dR o F) w:=by
 refine⟨fun id=>?_,fun i j hi hj e=>?_,fun i hi=>?_,fun b hb=>?_,fun id=>?_,fun g t x hg=>?_,hm.QN⟩
 ·by_cases h:id∈F
  ·rw[ow h];exact z38 (fun b hb=>(yU b).2 hb) (fun j hj=>ow (hc id h j hj)) (hm.aw id)
  ·rw[yT h];trivial
 ·have h1:i∈F:=zA fun h=>by rw[yT h] at hi;exact mT hi
  have h2:j∈F:=zA fun h=>by rw[yT h] at hj;exact mT hj
  rw[ow h1] at hi;rw[ow h2] at hj;exact hm.inj i j hi hj e
 ·have h1:i∈F:=zA fun h=>by rw[yT h] at hi;exact mT hi
  rw[ow h1] at hi;refine⟨(hm.sep i hi).1,?_⟩;rintro(h|⟨id,h2,h3,h4⟩)
  ·exact(hm.sep i hi).2 h
  ·have:=hm.inj id i h3 hi h4;exact h2 (this▸h1)
 ·rcases hb with hb|⟨id,_,h3,h4⟩
  ·exact hm.xs b hb
  ·exact h4▸(hm.sep id h3).1
 ·by_cases h:id∈F
  ·rw[ow h];exact hm.rK id
  ·rw[yT h];trivial
 ·obtain⟨a,cs,h1,h2,h3,h4,h5⟩:=hm.fe g t x hg;exact⟨a,cs,h1,h2,(yU _).2 h3,jH (fun b hb=>(yU b).2 hb) (fun _ _=>rfl) t x cs h4,h5⟩
def qo8{x:V}{z:Value}(hs:∀id,id∈fi x->id∈F)(h:ay φ o (aj X φ o w) w x z):ay φ (dR o F) (aj (Xr X φ o F) φ (dR o F) w) w x z:=BA (fun b hb=>(yU b).2 hb) (fun _ _=>rfl) (fun _=>Up.same fun _ _ h=>h) x z (qqn x z (fun id hi=>ow (hs id hi)) h)
def Comes.vT(hm:MRel C X φ o w){u:List (Nat×Obj)}{v:V}{z:Value}(hu:∀id,id∈bW u->id∉F->o id=.none)(h:Comes C (Xr X φ o F) φ φ' (dR o F) u w w' v z):∃gW,Comes C X φ gW o u w w' v z:=by
 let ins:Nat->Prop:=fun id=>id∈F\/id∈bW u;refine⟨fun id=>bif bQ id F||bQ id (bW u) then φ' id else φ id,?_⟩;generalize dZ:(fun id=>bif bQ id F||bQ id (bW u) then φ' id else φ id)=gW;have p1:∀id,ins id->gW id=φ' id:=fun id hi=>by
  rw[<-dZ];have:(bQ id F||bQ id (bW u))=true:=by rw[Bool.or_eq_true];exact hi.imp cP.2 cP.2
  grind
 have p2:∀id,¬ins id->gW id=φ id:=fun id hi=>by
  rw[<-dZ];have:(bQ id F||bQ id (bW u))=false:=by
   cases e:(bQ id F||bQ id (bW u)) with
   |false=>rfl
   |true=>rw[Bool.or_eq_true] at e;exact absurd (e.imp cP.1 cP.1) hi
  grind
 have q1:∀id,ins id->aq o u id=aq (dR o F) u id:=fun id hi=>by
  by_cases hk:id∈bW u
  ·exact SB hk
  ·rw[iU hk,iU hk,ow (hi.resolve_right hk)]
 have q2:∀id,¬ins id->aq o u id=o id/\aq (dR o F) u id=.none:=fun id hi=>⟨iU fun hk=>hi (.inr hk),by rw[iU fun hk=>hi (.inr hk),yT fun hf=>hi (.inl hf)]⟩;have q3:∀id,ins id->id∉F->o id=.none:=fun id hi hf=>hu id (hi.resolve_left hf) hf;have hl:∀b,aj (Xr X φ o F) φ' (aq (dR o F) u) w' b↔aj X gW (aq o u) w' b:=fun b=>by
  constructor
  ·rintro⟨h1,h2,h3⟩;refine⟨h1,fun hx=>h2 (.inl hx),fun⟨id,e1,e2⟩=>?_⟩;by_cases hi:ins id
   ·exact h3 ⟨id,by rw[<-q1 id hi,<-p1 id hi];exact e1,by rw[<-p1 id hi];exact e2⟩
   ·rw[(q2 id hi).1,p2 id hi] at e1;rw[p2 id hi] at e2;exact h2 (.inr ⟨id,fun hf=>hi (.inl hf),e1,e2⟩)
  ·rintro⟨h1,h2,h3⟩;refine⟨h1,?_,fun⟨id,e1,e2⟩=>?_⟩
   ·rintro(hx|⟨id,hf,e1,e2⟩)
    ·exact h2 hx
    ·by_cases hi:ins id
     ·rw[q3 id hi hf] at e1;exact(mT e1).elim
     ·exact h3 ⟨id,by rw[(q2 id hi).1,p2 id hi];exact e1,by rw[p2 id hi];exact e2⟩
   ·by_cases hi:ins id
    ·exact h3 ⟨id,by rw[q1 id hi,p1 id hi];exact e1,by rw[p1 id hi];exact e2⟩
    ·rw[(q2 id hi).2] at e1;exact(mT e1).elim
 have ext:∀x z,ay φ' (aq (dR o F) u) (aj (Xr X φ o F) φ' (aq (dR o F) u) w') w' x z->ay gW (aq o u) (aj X gW (aq o u) w') w' x z:=
  fun x z hx=>BA (fun b hb=>(hl b).1 hb) (fun _ _=>rfl) (fun id=>by
   by_cases hi:ins id
   ·rw[q1 id hi,p1 id hi];exact Up.same fun _ _ h=>h
   ·rw[(q2 id hi).2];trivial) x z hx
 have bl:∀id,¬ins id->aV (φ id) (o id)=true->w'.heap[(φ id).block]?=w.heap[(φ id).block]?:=fun id hi hx=>
  h.frame _ (hm.sep id hx).1 fun⟨j,j1,j2,j3⟩=>by
   have hj:j∈F:=zA fun hf=>by rw[yT hf] at j2;exact mT j2
   rw[ow hj] at j2;have:=hm.inj j id j2 hx j3
   grind
 have stays:∀b,aj X φ o w b->w'.heap[b]?=w.heap[b]?:=fun b hb=>h.stays b ((yU b).2 hb);have imm:∀b,aj X φ o w b->aj X gW (aq o u) w' b:=fun b hb=>(hl b).1 (h.imm b ((yU b).2 hb));have Ky:∀id,Up w w' (φ id) (gW id) (o id) (aq o u id):=fun id=>by
  by_cases hi:ins id
  ·by_cases hf:id∈F
   ·have:=h.up id;rw[ow hf] at this
    grind
   ·rw[q3 id hi hf];trivial
  ·rw[p2 id hi,(q2 id hi).1];exact Up.same fun hx n hr=>Gn (bl id hi hx) hr
 have keeps:∀x z,ay φ o (aj X φ o w) w x z->ay gW (aq o u) (aj X gW (aq o u) w') w' x z:=fun x z hx=>BA imm stays Ky x z hx;refine⟨⟨fun id=>?_,fun i j hi hj e=>?_,fun i hi=>?_,fun b hb=>Nat.lt_of_lt_of_le (hm.xs b hb) h.size,fun id=>?_,fun g t x hg=>ext _ _ (h.mem.fe g t x hg),h.mem.QN⟩,ext _ _ h.val,Ky,h.size,fun b hb hh=>?_,fun id hn hk=>?_,fun id hx=>?_,h.still⟩
 ·by_cases hi:ins id
  ·rw[q1 id hi];exact LV (fun b hb=>(hl b).1 hb) (fun _ _=>rfl) ext (p1 id hi) (fun _=>rfl) (h.mem.aw id)
  ·rw[(q2 id hi).1];exact LV imm stays keeps (p2 id hi) (bl id hi) (hm.aw id)
 ·by_cases hc:ins i<;>by_cases he:ins j
  ·rw[q1 i hc,p1 i hc] at hi;rw[q1 j he,p1 j he] at hj;rw[p1 i hc,p1 j he] at e;exact h.mem.inj i j hi hj e
  ·rw[q1 i hc,p1 i hc] at hi;rw[(q2 j he).1,p2 j he] at hj;rw[p1 i hc,p2 j he] at e;exact absurd (.inr ⟨j,fun hf=>he (.inl hf),hj,e.symm⟩) (h.mem.sep i hi).2
  ·rw[q1 j he,p1 j he] at hj;rw[(q2 i hc).1,p2 i hc] at hi;rw[p1 j he,p2 i hc] at e;exact absurd (.inr ⟨i,fun hf=>hc (.inl hf),hi,e⟩) (h.mem.sep j hj).2
  ·rw[(q2 i hc).1,p2 i hc] at hi;rw[(q2 j he).1,p2 j he] at hj;rw[p2 i hc,p2 j he] at e;exact hm.inj i j hi hj e
 ·by_cases hc:ins i
  ·rw[q1 i hc,p1 i hc] at hi;rw[p1 i hc];exact⟨(h.mem.sep i hi).1,fun hx=>(h.mem.sep i hi).2 (.inl hx)⟩
  ·rw[(q2 i hc).1,p2 i hc] at hi;rw[p2 i hc];exact⟨Nat.lt_of_lt_of_le (hm.sep i hi).1 h.size,(hm.sep i hi).2⟩
 ·by_cases hi:ins id
  ·rw[q1 id hi,p1 id hi];exact h.mem.rK id
  ·rw[(q2 id hi).1,p2 id hi];exact hm.kE id (fun hx=>.same (bl id hi hx)) stays
 ·refine h.frame b hb fun⟨j,j1,j2,j3⟩=>hh ⟨j,j1,?_,j3⟩;have hj:j∈F:=zA fun hf=>by rw[yT hf] at j2;exact mT j2
  rwa [ow hj] at j2
 ·by_cases hf:id∈F
  ·rw[p1 id (.inl hf)];exact h.vq id (by rw[ow hf];exact hn) hk
  grind
 ·by_cases hi:ins id
  ·rw[q1 id hi,p1 id hi] at hx;rw[p1 id hi];rcases h.news id hx with h1|⟨j,j1,j2⟩
   ·exact .inl h1
   ·have hj:j∈F:=zA fun hf=>by rw[yT hf] at j1;exact mT j1
    rw[ow hj] at j1;exact .inr ⟨j,j1,j2⟩
  ·rw[(q2 id hi).1,p2 id hi] at hx;rw[p2 id hi];exact .inr ⟨id,hx,rfl⟩
end
structure fj (a b:PS):Prop where
 aT:∀p,p∈a.aT->p∈b.aT
 cut:∀p,p∈a.cut->p∈b.cut
 cq:∀p,p∈a.cq->p∈b.cq
 full:∀p,p∈a.full->p∈b.full
def fj.refl(a:PS):fj a a:=⟨fun _ h=>h,fun _ h=>h,fun _ h=>h,fun _ h=>h⟩
def fj.trans{a b c:PS}(h:fj a b)(h':fj b c):fj a c:=⟨fun p hp=>h'.aT p (h.aT p hp),fun p hp=>h'.cut p (h.cut p hp),fun p hp=>h'.cq p (h.cq p hp),fun p hp=>h'.full p (h.full p hp)⟩
abbrev cJ:Nat->Nat:=fun i=>i
abbrev cd:Nat->Nat:=fun _=>0
section
variable {o:Nat→Obj}
def zed(o:Nat->Obj)(s:Sh):Prop:=∀v ps bG f,Kp lf o s v ps=some (bG,f)->fj ps bG/\∀(ρ κ:Nat->Nat) r c,(lT ρ κ s r (f r c)).2=c
def zee(o:Nat->Obj)(l:List Sh):Prop:=∀vs ps bG f,oq lf o l vs ps=some (bG,f)->fj ps bG/\∀(ρ κ:Nat->Nat) r c,(fH ρ κ l r (f r c)).2=c
def vv{b:Bool}{ps bG:PS}{f:∀r,ai r->ai r}(h:BW b ps=some (bG,f)):b=true/\bG=ps/\f=fun _ c=>c:=by
 cases b
 ·cases h
 ·injection h with h;injection h with h1 h2;exact⟨rfl,h1.symm,h2.symm⟩
def fj.tie{ps:PS}(i id:Nat):fj ps (tie i id ps):=⟨fun _ h=>zh _ h,fun _ h=>h,fun _ h=>h,fun _ h=>h⟩
def z39{i:Nat}{v:V}{ps bG:PS}{f:∀r,ai r->ai r}(h:RN o i v ps=some (bG,f)):fj ps bG/\f=fun _ c=>c:=by
 unfold RN at h;split at h
 ·split at h
  ·obtain⟨_,rfl,rfl⟩:=vv h;exact⟨⟨fun _ h=>zh _ h,fun _ h=>h,fun _ h=>h,fun _ h=>zh _ h⟩,rfl⟩
  ·cases h
 ·split at h
  ·obtain⟨_,rfl,rfl⟩:=vv h;exact⟨⟨fun _ h=>zh _ h,fun _ h=>zh _ h,fun _ h=>h,fun _ h=>h⟩,rfl⟩
  ·cases h
 ·cases h
def z3a{i off:Nat}{v:V}{ps bG:PS}{f:∀r,ai r->ai r}(h:RO o i off v ps=some (bG,f)):fj ps bG/\f=fun _ c=>c:=by
 unfold RO at h;split at h
 ·split at h
  ·obtain⟨_,rfl,rfl⟩:=vv h;exact⟨.tie _ _,rfl⟩
  ·obtain⟨_,rfl,rfl⟩:=vv h;exact⟨.tie _ _,rfl⟩
  ·cases h
 ·cases h
def z6o{i:Nat}{v:V}{ps bG:PS}{f:∀r,ai r->ai r}(h:BX o i v ps=some (bG,f)):fj ps bG/\f=fun _ c=>c:=by
 unfold BX at h;split at h
 ·split at h
  ·injection h with h;injection h with h1 h2;subst h1 h2;exact⟨.tie _ _,rfl⟩
  ·cases h
 ·cases h
def ql7{i:Nat}{v:V}{ps bG:PS}{f:∀r,ai r->den .bool×ai r}(h:RP o i v ps=some (bG,f)):∃id b cs,v=.cX id b/\o id=.box cs/\bG=tie i id ps/\f=fun _ c=>(b,c):=by
 unfold RP at h
 grind
def zef:∀{b a:List (Nat×Bool)},RQ b a=true->b=a
 |[],[],_=>rfl
 |[],_::_,h=>by cases h
 |_::_,[],h=>by cases h
 |(f,c)::b,(g,d)::a,h=>by
  unfold RQ at h;rw[ze,ze] at h;obtain⟨⟨h1,h2⟩,h3⟩:=h;have h1:=zj h1;have h2:c=d:=by cases c<;>cases d<;>first|rfl|cases h2
  rw[h1,h2,zef h3]
def quu{imm:Nat->Prop}{w:World}{n:Int}:∀(a:List (Nat×Bool)),yQ imm w a ((a.length:Nat):Int) n .nilFunc
 |[]=>⟨rfl,rfl⟩
 |(f,c)::r=>by
  refine .inr ⟨by rw[zu];omega,?_⟩;have:(((f,c)::r).length:Int)-1=((r.length:Nat):Int):=by rw[zu];omega
  rw[this];exact quu r
def qsg{imm:Nat->Prop}{w:World}{n:Int}{v:Value}{f:Nat}{c:Bool}(hv:match c with|false=>v=.func (.func f) #[] #[]|true=>∃p,v=.func (.func f) #[] #[p]/\W1 imm w n p):∀(a:List (Nat×Bool)) (i0 i:Nat),LI f c a i0=some i->∃j:Nat,i=i0+j/\yQ imm w a (j:Int) n v
 |[],_,_,h=>by cases h
 |(g,d)::r,i0,i,h=>by
  unfold LI at h;cases hb:(Nat.beq g f&&(bif c then d else !d)) with
  |true=>
   rw[hb] at h;injection h with h;subst h;rw[ze] at hb;have h1:=zj hb.1;have h2:d=c:=by grind
   subst h1 h2;exact⟨0,rfl,.inl ⟨rfl,hv⟩⟩
  |false=>
   rw[hb] at h;obtain⟨j,h1,h2⟩:=qsg hv r (i0+1) i h;refine⟨j+1,by omega,.inr ⟨by omega,?_⟩⟩
   grind
def zeg{α:Type}{g:Nat}{x:Option α}{i:α}(h:(bif Nat.blt g 1048576 then x else none)=some i):g<1048576/\x=some i:=by
 cases hb:Nat.blt g 1048576 with
 |false=>rw[hb] at h;cases h
 |true=>rw[hb] at h;exact⟨zD hb,h⟩
def quv{a:List (Nat×Bool)}{v:V}{ps bG:PS}{f:∀r,ai r->den (.int .i64)×den (.int .i64)×ai r}(h:F8 lf o a v ps=some (bG,f)):(∃k n,v=.fa a k n/\bG=ps/\f=fun _ c=>(k,n,c))\/(v=.ga/\bG=ps/\f=fun _ c=>(Int.ofNat a.length,(0:Int),c))\/(∃g i,v=.fn g []/\g<1048576/\LI g false a 0=some i/\bG=ps/\f=fun _ c=>(Int.ofNat i,(0:Int),c))\/(∃g i w p,v=.fn g [w]/\g<1048576/\LI g true a 0=some i/\RM lf o (.int .i64) w ps=some (bG,p)/\f=fun r c=>(Int.ofNat i,p r c)):=by
 unfold F8 at h;split at h
 ·rename_i b k n;cases hb:RQ b a<;>rw[hb] at h
  ·cases h
  ·have:=zef hb;subst this
   grind
 ·injection h with h;injection h with h1 h2;subst h1 h2;refine .inr (.inl ⟨rfl,rfl,?_⟩);have:ql a 0=a.length:=by rw[qxm,zC]
  rw[this]
 ·rename_i g;split at h
  ·rename_i i e;injection h with h;injection h with h1 h2;subst h1 h2;obtain⟨hc,e⟩:=zeg e
   grind
  ·cases h
 ·rename_i g w;split at h
  ·rename_i i e;split at h
   ·rename_i QW p e2;injection h with h;injection h with h1 h2;subst h1 h2;obtain⟨hc,e⟩:=zeg e
    grind
   ·cases h
  ·cases h
 ·cases h
def qqo{i:Nat}{v:V}{ps bG:PS}{f:∀r,ai r->den (.int .i64)×ai r}(h:Wx o i v ps=some (bG,f)):∃id ver lo t s,v=.iM id ver lo/\o id=.vec t ver false s/\bG={tie i id ps with full:=id::ps.full}/\f=fun _ c=>((lo:den (.int .i64)),c):=by
 unfold Wx at h;split at h
 ·rename_i id ver lo;split at h
  ·rename_i t aC s e;cases hb:Nat.beq ver aC<;>rw[hb] at h
   ·cases h
   ·have:=zj hb
    grind
  ·cases h
 ·cases h
def z07{t:Ty}{v:V}{ps bG:PS}{f:∀r,ai r->den t×ai r}(h:paD lf o t v ps=some (bG,f)):fj ps bG/\∃x,lj lf o t v=some x/\bG={ps with cq:=fq o v++ps.cq}/\f=fun _ c=>(x,c):=by
 unfold paD at h;split at h
 ·rename_i x e;injection h with h;injection h with h1 h2;subst h1 h2;exact⟨⟨fun _ h=>h,fun _ h=>h,fun _ h=>List.mem_append_right _ h,fun _ h=>h⟩,x,e,rfl,rfl⟩
 ·cases h
def ql8{t:Ty}{v:V}{ps bG:PS}{f:∀r,ai r->den t×ai r}(h:RM lf o t v ps=some (bG,f)):fj ps bG/\∃x,f=(fun _ c=>(x,c))/\((v=.ref t x/\bG=ps)\/(∃id,v=.ptr id 0/\vM lf o t id=some x/\bG={ps with cq:=id::(Qx o id++ps.cq)})):=by
 unfold RM at h;split at h
 ·split at h
  ·rename_i x e;injection h with h;injection h with h1 h2;subst h1 h2;obtain⟨rfl,rfl⟩:=B5 e;exact⟨.refl _,_,rfl,.inl ⟨rfl,rfl⟩⟩
  ·cases h
 ·rename_i id off;cases hb:Nat.beq off 0<;>rw[hb] at h
  ·cases h
  ·have:=zj hb;subst this;simp only[cond_true] at h;split at h
   ·rename_i x e;injection h with h;injection h with h1 h2;subst h1 h2;exact⟨⟨fun _ h=>h,fun _ h=>h,fun _ h=>zh _ (List.mem_append_right _ h),fun _ h=>h⟩,x,rfl,.inr ⟨id,rfl,e,rfl⟩⟩
   ·cases h
 ·cases h
def zbp{t:Ty}{id lU:Nat}{x:den t}(h:rrD lf o t id=some (lU,x)):o id=.box [.ptr lU 0]/\vM lf o t lU=some x:=by
 unfold rrD at h;split at h
 ·rename_i i2 LD e;cases hb:Nat.beq LD 0<;>rw[hb] at h
  ·cases h
  ·have:=zj hb
   grind
 ·cases h
def quw{t:Ty}{v:V}{ps bG:PS}{f:∀r,ai r->den t×ai r}(h:LG lf o t v ps=some (bG,f)):fj ps bG/\∃x,f=(fun _ c=>(x,c))/\((v=.rr t x/\bG=ps)\/(∃id lU,v=.ptr id 0/\o id=.box [.ptr lU 0]/\vM lf o t lU=some x/\bG={ps with cq:=id::lU::(Qx o lU++ps.cq)})):=by
 unfold LG at h;split at h
 ·split at h
  ·rename_i x e;injection h with h;injection h with h1 h2;subst h1 h2;obtain⟨rfl,rfl⟩:=B5 e;exact⟨.refl _,_,rfl,.inl ⟨rfl,rfl⟩⟩
  ·cases h
 ·rename_i id off;cases hb:Nat.beq off 0<;>rw[hb] at h
  ·cases h
  ·have:=zj hb;subst this;simp only[cond_true] at h;split at h
   ·rename_i lU x e;injection h with h;injection h with h1 h2;subst h1 h2;obtain⟨e1,e2⟩:=zbp e;exact⟨⟨fun _ h=>h,fun _ h=>h,fun _ h=>zh _ (zh _ (List.mem_append_right _ h)),fun _ h=>h⟩,x,rfl,.inr ⟨id,lU,rfl,e1,e2,rfl⟩⟩
   ·cases h
 ·cases h
def z6p{f:Nat}{v:V}{l:List V}(h:F9 f v=some l):v=.fn f l:=by
 unfold F9 at h;split at h
 ·rename_i f' l';cases hb:Nat.beq f f'<;>rw[hb] at h
  all_goals simp_all
 ·cases h
def z3b{v:V}{l:List V}(h:Wy v=some l):v=.mc l:=by
 unfold Wy at h
 grind
def z6q{v:V}{l:List V}(h:Ga v=some l):v=.agg l:=by
 unfold Ga at h
 grind
def Xq{vs:List V}{ps bG:PS}{f:∀r,ai r->ai (jG [] r)}(h:oq lf o [] vs ps=some (bG,f)):vs=[]/\bG=ps/\f=fun _ c=>c:=by
 have h:BW vs.isEmpty ps=some (bG,f):=h;obtain⟨h1,h2,h3⟩:=vv h
 grind
def SC{s:Sh}{l:List Sh}{vs:List V}{ps bG:PS}{f:∀r,ai r->ai (jG (s::l) r)}(h:oq lf o (s::l) vs ps=some (bG,f)):∃v L7 ox f1 g1,vs=v::L7/\Kp lf o s v ps=some (ox,f1)/\oq lf o l L7 ox=some (bG,g1)/\f=fun r c=>f1 _ (g1 r c):=by
 cases vs with
 |nil=>cases h
 |cons v vs=>
  have h:(match Kp lf o s v ps with
   |some (ps,f)=>match oq lf o l vs ps with
    |some (ps,g)=>some (ps,fun r c=>f _ (g r c))
    |none=>none
   |none=>none)=some (bG,f):=h
  grind
def zeh{g:Nat}{l:List Sh}{v:V}{ps bG:PS}{f:∀r,ai r->ai (Qt (.fn g l) r)}(h:Kp lf o (.fn g l) v ps=some (bG,f)):∃l',v=.fn g l'/\oq lf o l l' ps=some (bG,f):=by
 have h:(match F9 g v with|some l'=>oq lf o l l' ps|none=>none)=some (bG,f):=h;split at h
 ·rename_i l' e;exact⟨l',z6p e,h⟩
 ·cases h
def z6r{l:List Sh}{v:V}{ps bG:PS}{f:∀r,ai r->ai (Qt (.mc l) r)}(h:Kp lf o (.mc l) v ps=some (bG,f)):∃l',v=.mc l'/\oq lf o l l' ps=some (bG,f):=by
 have h:(match Wy v with|some l'=>oq lf o l l' ps|none=>none)=some (bG,f):=h;split at h
 ·rename_i l' e;exact⟨l',z3b e,h⟩
 ·cases h
def z6s{l:List Sh}{v:V}{ps bG:PS}{f:∀r,ai r->ai (Qt (.agg l) r)}(h:Kp lf o (.agg l) v ps=some (bG,f)):∃l',v=.agg l'/\oq lf o l l' ps=some (bG,f):=by
 have h:(match Ga v with|some l'=>oq lf o l l' ps|none=>none)=some (bG,f):=h;split at h
 ·rename_i l' e;exact⟨l',z6q e,h⟩
 ·cases h
def zg4(s:Sh):zed o s:=by
 refine Sh.rec (motive_1:=zed o) (motive_2:=zee o) ?_ ?_ ?_ ?_ ?_ ?_ ?_ ?_ ?_ ?_ ?_ ?_ ?_ ?_ ?_ ?_ ?_ ?_ s
 ·intro t v ps bG f h;obtain⟨h1,x,_,_,rfl⟩:=z07 (o:=o) h;exact⟨h1,fun _ _ _ _=>rfl⟩
 ·intro i v ps bG f h;obtain⟨h1,rfl⟩:=z39 (o:=o) h;exact⟨h1,fun _ _ _ _=>rfl⟩
 ·intro i off v ps bG f h;obtain⟨h1,rfl⟩:=z3a (o:=o) h;exact⟨h1,fun _ _ _ _=>rfl⟩
 ·intro t v ps bG f h;obtain⟨h1,x,rfl,_⟩:=ql8 (o:=o) h;exact⟨h1,fun _ _ _ _=>rfl⟩
 ·intro v ps bG f h;obtain⟨_,rfl,rfl⟩:=vv h;exact⟨.refl _,fun _ _ _ _=>rfl⟩
 ·intro g l ih v ps bG f h;obtain⟨l',rfl,h'⟩:=zeh h;obtain⟨h1,h2⟩:=ih _ _ _ _ h';exact⟨h1,h2⟩
 ·intro v ps bG f h;obtain⟨_,rfl,rfl⟩:=vv h;exact⟨.refl _,fun _ _ _ _=>rfl⟩
 ·intro l ih v ps bG f h;obtain⟨l',rfl,h'⟩:=z6r h;obtain⟨h1,h2⟩:=ih _ _ _ _ h';exact⟨h1,h2⟩
 ·intro l ih v ps bG f h;obtain⟨l',rfl,h'⟩:=z6s h;obtain⟨h1,h2⟩:=ih _ _ _ _ h';exact⟨h1,h2⟩
 ·intro v ps bG f h;obtain⟨_,rfl,rfl⟩:=vv h;exact⟨.refl _,fun _ _ _ _=>rfl⟩
 ·intro v ps bG f h;obtain⟨_,rfl,rfl⟩:=vv (b:=true) (ps:=ps) h;exact⟨.refl _,fun _ _ _ _=>rfl⟩
 ·intro i v ps bG f h;obtain⟨id,b,cs,rfl,_,rfl,rfl⟩:=ql7 (o:=o) h;exact⟨.tie _ _,fun _ _ _ _=>rfl⟩
 ·intro i v ps bG f h;obtain⟨id,ver,lo,t,s,rfl,_,rfl,rfl⟩:=qqo (o:=o) h;exact⟨⟨fun _ h=>zh _ h,fun _ h=>h,fun _ h=>h,fun _ h=>zh _ h⟩,fun _ _ _ _=>rfl⟩
 ·intro i v ps bG f h;obtain⟨h1,rfl⟩:=z6o (o:=o) h;exact⟨h1,fun _ _ _ _=>rfl⟩
 ·intro a v ps bG f h;rcases quv (o:=o) h with ⟨k,n,rfl,rfl,rfl⟩|⟨rfl,rfl,rfl⟩|⟨g,i,rfl,_,_,rfl,rfl⟩|⟨g,i,w,p,rfl,_,_,h2,rfl⟩
  ·exact⟨.refl _,fun _ _ _ _=>rfl⟩
  ·exact⟨.refl _,fun _ _ _ _=>rfl⟩
  ·exact⟨.refl _,fun _ _ _ _=>rfl⟩
  ·obtain⟨h1,x,rfl,_⟩:=ql8 (o:=o) h2;exact⟨h1,fun _ _ _ _=>rfl⟩
 ·intro t v ps bG f h;obtain⟨h1,x,rfl,_⟩:=quw (o:=o) h;exact⟨h1,fun _ _ _ _=>rfl⟩
 ·intro vs ps bG f h;obtain⟨rfl,rfl,rfl⟩:=Xq h;exact⟨.refl _,fun _ _ _ _=>rfl⟩
 ·intro s l mY mZ vs ps bG f h;obtain⟨v,L7,ox,f1,g1,rfl,h1,h2,rfl⟩:=SC h;obtain⟨a1,a2⟩:=mY _ _ _ _ h1;obtain⟨b1,b2⟩:=mZ _ _ _ _ h2;refine⟨a1.trans b1,fun ρ κ r c=>?_⟩;show(fH ρ κ l r (lT ρ κ s (jG l r) (f1 _ (g1 r c))).2).2=c;rw[a2,b2]
def QX:∀l:List Sh,zee o l
 |[]=>by intro vs ps bG f h;obtain⟨rfl,rfl,rfl⟩:=Xq h;exact⟨.refl _,fun _ _ _ _=>rfl⟩
 |s::l=>by intro vs ps bG f h;obtain⟨v,L7,ox,f1,g1,rfl,h1,h2,rfl⟩:=SC h;obtain⟨a1,a2⟩:=zg4 s _ _ _ _ h1;obtain⟨b1,b2⟩:=QX l _ _ _ _ h2;refine⟨a1.trans b1,fun ρ κ r c=>?_⟩;show(fH ρ κ l r (lT ρ κ s (jG l r) (f1 _ (g1 r c))).2).2=c;rw[a2,b2]
def z6t{cN:Nat}{s:fS}{ps bG:PS}{f:∀r,ai r->ai (Qu s r)}(h:Gb lf o cN s ps=some (bG,f)):fj ps bG/\∀(ρ κ:Nat->Nat) i r c,(fI ρ κ i s r (f r c)).2=c:=by
 cases s with
 |box l=>
  simp only[Gb] at h;cases e:o cN<;>rw[e] at h<;>simp only at h<;>try (cases h;done)
  obtain⟨h1,h2⟩:=QX l _ _ _ _ h;exact⟨h1,fun ρ κ i r c=>h2 ρ κ r c⟩
 |vec t=>
  simp only[Gb] at h;split at h
  ·split at h
   ·split at h
    ·injection h with h;injection h with h1 h2;subst h1 h2;exact⟨.refl _,fun _ _ _ _ _=>rfl⟩
    ·injection h with h;injection h with h1 h2;subst h1 h2;exact⟨⟨fun _ h=>h,fun _ h=>h,fun _ h=>h,fun _ h=>zh _ h⟩,fun _ _ _ _ _=>rfl⟩
   ·cases h
  ·cases h
 |gone=>simp only[Gb] at h;injection h with h;injection h with h1 h2;subst h1 h2;exact⟨.refl _,fun _ _ _ _ _=>rfl⟩
 |iter=>
  simp only[Gb] at h;split at h
  ·injection h with h;injection h with h1 h2;subst h1 h2;exact⟨.refl _,fun _ _ _ _ _=>rfl⟩
  ·cases h
def Gu(o:Nat->Obj)(psF:PS)(i:Nat)(sh:fS)(ob:Obj):Prop:=(sh=.gone/\ob=.dead)\/∃cN Gv B8 f,(i,cN)∈psF.aT/\Gb lf o cN sh Gv=some (B8,f)/\fj B8 psF/\∃r c,ob=(fI cJ cd i sh r (f r c)).1
def zg5(o:Nat->Obj)(psF:PS):Nat->List fS->List (Nat×Obj)->Prop
 |_,[],os=>os=[]
 |i,s::l,os=>∃ob r,os=(i,ob)::r/\Gu o psF i s ob/\zg5 o psF (i+1) l r
def QY:∀{l:List (Nat×Nat)} {i x:Nat},iO i l=some x->(i,x)∈l
 |(a,b)::r,i,x,h=>by
  simp only[iO] at h;cases hb:Nat.beq a i with
  |true=>simp_all
  |false=>rw[hb] at h;exact zh _ (QY h)
def SD{psF:PS}:∀(l:List fS) (i:Nat) (ps bG:PS) (g:∀r,ai r->ai (bY l r)),qm lf o i l ps=some (bG,g)->fj ps bG/\(fj bG psF->∀r c,zg5 o psF i l (gf cJ cd i l r (g r c)))
 |[],i,ps,bG,g,h=>by simp only[qm] at h;injection h with h;injection h with h1 h2;subst h1 h2;exact⟨.refl _,fun _ _ _=>rfl⟩
 |.gone::l,i,ps,bG,g,h=>by
  simp only[qm] at h;split at h
  ·rename_i ox g1 h1;injection h with h;injection h with h2 h3;subst h2 h3;obtain⟨a1,a2⟩:=SD l (i+1) _ _ _ h1;exact⟨a1,fun hm r c=>⟨.dead,_,rfl,.inl ⟨rfl,rfl⟩,a2 hm r c⟩⟩
  ·cases h
 |.box q::l,i,ps,bG,g,h=>by
  simp only[qm] at h;split at h
  ·rename_i cN h0;split at h
   ·rename_i ox f1 h1;split at h
    ·rename_i QW g2 h2;injection h with h;injection h with h3 h4;subst h3 h4;obtain⟨b1,b2⟩:=z6t h1;obtain⟨a1,a2⟩:=SD l (i+1) _ _ _ h2;refine⟨b1.trans a1,fun hm r c=>⟨_,_,rfl,.inr ⟨cN,ps,ox,f1,hm.aT _ ((b1.trans a1).aT _ (QY h0)),h1,a1.trans hm,_,_,rfl⟩,?_⟩⟩;rw[b2];exact a2 hm r c
    ·cases h
   ·cases h
  ·cases h
 |.vec q::l,i,ps,bG,g,h=>by
  simp only[qm] at h;split at h
  ·rename_i cN h0;split at h
   ·rename_i ox f1 h1;split at h
    ·rename_i QW g2 h2;injection h with h;injection h with h3 h4;subst h3 h4;obtain⟨b1,b2⟩:=z6t h1;obtain⟨a1,a2⟩:=SD l (i+1) _ _ _ h2;refine⟨b1.trans a1,fun hm r c=>⟨_,_,rfl,.inr ⟨cN,ps,ox,f1,hm.aT _ ((b1.trans a1).aT _ (QY h0)),h1,a1.trans hm,_,_,rfl⟩,?_⟩⟩;rw[b2];exact a2 hm r c
    ·cases h
   ·cases h
  ·cases h
 |.iter::l,i,ps,bG,g,h=>by
  simp only[qm] at h;split at h
  ·rename_i cN h0;split at h
   ·rename_i ox f1 h1;split at h
    ·rename_i QW g2 h2;injection h with h;injection h with h3 h4;subst h3 h4;obtain⟨b1,b2⟩:=z6t h1;obtain⟨a1,a2⟩:=SD l (i+1) _ _ _ h2;refine⟨b1.trans a1,fun hm r c=>⟨_,_,rfl,.inr ⟨cN,ps,ox,f1,hm.aT _ ((b1.trans a1).aT _ (QY h0)),h1,a1.trans hm,_,_,rfl⟩,?_⟩⟩;rw[b2];exact a2 hm r c
    ·cases h
   ·cases h
  ·cases h
end
def z08{n:Nat}{x:Option Nat}(h:isN n x=true):x=some n:=by
 cases x with
 |none=>cases h
 |some m=>exact congrArg some (zj h)
def Xs{x:Option Nat}(h:RJ x=true):x=none:=by
 cases x with
 |none=>rfl
 |some m=>cases h
def qqq{k:Nat}{all:List (Nat×Nat)}:∀{l:List (Nat×Nat)},Ws k all l=true->∀p,p∈l->p.1<k/\iO p.1 all=some p.2/\Wr p.2 all=some p.1
 |(i,cN)::r,h,p,hp=>by
  simp only[Ws,ze] at h;obtain⟨⟨⟨h1,h2⟩,h3⟩,h4⟩:=h;rcases zk.1 hp with rfl|hp
  ·exact⟨zD h1,z08 h2,z08 h3⟩
  ·exact qqq h4 p hp
def qqr{id n:Nat}:∀{l:List (Nat×Nat)},(id,n)∈l->∃m,iO id l=some m
 |(i,m)::r,h=>by
  simp only[iO];cases hb:Nat.beq i id with
  |true=>exact⟨m,rfl⟩
  |false=>
   rcases zk.1 h with h|h
   ·simp_all
   ·exact qqr h
def qqs:∀{l:List (Nat×Nat)},Wt l=true->∀p,p∈l->iO p.1 l=some p.2
 |(i,n)::r,h,p,hp=>by
  simp only[Wt,ze] at h;simp only[iO];rcases zk.1 hp with rfl|hc
  ·simp_all
  ·cases hb:Nat.beq i p.1 with
   |true=>have:=zj hb;subst this;obtain⟨m,hm⟩:=qqr (id:=p.1) (n:=p.2) hc;rw[Xs h.1] at hm;cases hm
   |false=>exact qqs h.2 p hc
def qo9{cut:List (Nat×Nat)}:∀{l:List Nat},Wu cut l=true->∀p,p∈l->iO p cut=none
 |i::r,h,p,hp=>by
  simp only[Wu,ze] at h;rcases zk.1 hp with rfl|hp
  ·exact Xs h.1
  ·exact qo9 h.2 p hp
def zbq{aT:List (Nat×Nat)}:∀{i j:Nat},(i,j)∈aT->BU j aT=true:=by
 induction aT with
 |nil=>intro i j h;cases h
 |cons p r ih=>
  obtain⟨a,b⟩:=p;intro i j h;simp only[BU];rcases zk.1 h with h|h
  ·simp_all
  grind
def qoa{aT:List (Nat×Nat)}:∀{l:List Nat},Wv l aT=true->∀j,j∈l->∀i,(i,j)∉aT
 |a::r,h,j,hj,i,hi=>by
  simp only[Wv] at h;cases hb:BU a aT with
  |true=>rw[hb] at h;cases h
  |false=>
   rw[hb] at h;rcases zk.1 hj with rfl|hj
   ·rw[zbq hi] at hb;cases hb
   ·exact qoa h j hj i hi
section
variable {C:Cx} {X:Nat→Prop} {φ:Nat→Addr} {o:Nat→Obj} {w:World} {imm imm':Nat→Prop}
def z09(hl:∀id,rY φ o imm w id (o id))(hi:∀b,imm b->imm' b){t:Ty}{x:V}{d:den t}{z:Value}(hx:ay φ o imm w x z)(hf:∀id,id∈fq o x->∀t ver s,o id=.vec t ver false s->s.nil=false->(φ id).spot=none->imm' (φ id).block)(h:py lf o t x=some d):cY imm' w t d z:=by
 rcases qnt h with rfl|⟨e',ht,s',h1,h2⟩|⟨e',ht,rfl,h2⟩
 ·exact qnm hi (fun _ _=>rfl) _ _ _ hx
 ·subst ht;subst h2;obtain⟨⟨g1,g2⟩,id,ver,fr,s0,g3,g4,g5,g6,g8⟩:=W4 hl hx h1;refine⟨z,rfl,g1,?_⟩;rcases g2 with g2|⟨hn,a,cap,ec,h5,h6,h7,h8,h9⟩
  ·exact .inl g2
  ·refine .inr ⟨hn,a,cap,ec,h5,h6,fun hc=>?_,rJ (jH hi (fun _ _=>rfl) _) h7,h8,h9⟩;rw[g4 hn _ _ _ h5];have ho:=hl id;rw[g3] at ho;obtain⟨_,_,ho⟩:=ho
   grind
 ·subst ht;subst h2;exact⟨z,rfl,Nat.zero_le _,.inl ⟨rfl,rfl,hx⟩⟩
def Gw(φ:Nat->Addr)(o:Nat->Obj)(imm':Nat->Prop)(x:V):Prop:=∀id,id∈fq o x->∀t ver s,o id=.vec t ver false s->s.nil=false->(φ id).spot=none->imm' (φ id).block
def qsi(hl:∀id,rY φ o imm w id (o id))(hi:∀b,imm b->imm' b):∀(t:Ty) (cs r:List V) (d:den t) (zs:List Value),ck φ o imm w cs zs->(∀c,c∈cs->Gw φ o imm' c)->oh lf o t cs=some (d,r)->∃zc zr,zs=zc++zr/\aE imm' w t d zc/\ck φ o imm w r zr/\(∀c,c∈r->Gw φ o imm' c):=by
 have one:∀(t:Ty) (cs r:List V) (d:den t) (zs:List Value),ck φ o imm w cs zs->(∀c,c∈cs->Gw φ o imm' c)->
   (match cs with|c::r=>(match py lf o t c with|some x=>some (x,r)|none=>none)|[]=>none)=some (d,r)->
   ∃z zr,zs=z::zr/\cY imm' w t d z/\ck φ o imm w r zr/\(∀c,c∈r->Gw φ o imm' c):=by
  intro t cs r d zs hr hf h;cases cs with
  |nil=>cases h
  |cons c cs=>
   simp only at h;split at h
   ·rename_i x hx;injection h with h;injection h with h1 h2;subst h1 h2;obtain⟨z,zr,h3,h4,h5⟩:=hr;exact⟨z,zr,h3,z09 hl hi h4 (hf _ (zg ..)) hx,h5,fun c hc=>hf c (zh _ hc)⟩
   ·cases h
 intro t
 induction t with
 |unit=>intro cs r d zs hr hf h;simp only[oh,zB,Prod.mk.injEq] at h;obtain⟨_,rfl⟩:=h;exact⟨[],zs,rfl,rfl,hr,hf⟩
 |pair a b qv lA=>
  intro cs r d zs hr hf h;simp only[oh] at h;split at h
  ·rename_i x r1 h1;split at h
   ·rename_i y r2 h2;injection h with h;injection h with h3 h4;subst h3 h4;obtain⟨zc,zr,e1,e2,e3,e4⟩:=qv _ _ _ _ hr hf h1;obtain⟨Sm,zr',g1,g2,g3,g4⟩:=lA _ _ _ _ e3 e4 h2;exact⟨zc++Sm,zr',by rw[e1,g1,zm],⟨zc,Sm,rfl,e2,g2⟩,g3,g4⟩
   ·cases h
  ·cases h
 |st p ih=>intro cs r d zs hr hf h;exact ih _ _ _ _ hr hf h
 |arr n e _=>intro cs r d zs hr hf h;cases h
 |int k=>intro cs r d zs hr hf h;obtain⟨z,zr,e1,e2,e3⟩:=one _ cs r d zs hr hf (by cases cs<;>exact h);exact⟨[z],zr,e1,e2,e3⟩
 |bool=>intro cs r d zs hr hf h;obtain⟨z,zr,e1,e2,e3⟩:=one _ cs r d zs hr hf (by cases cs<;>exact h);exact⟨[z],zr,e1,e2,e3⟩
 |fG=>intro cs r d zs hr hf h;obtain⟨z,zr,e1,e2,e3⟩:=one _ cs r d zs hr hf (by cases cs<;>exact h);exact⟨[z],zr,e1,e2,e3⟩
 |dG=>intro cs r d zs hr hf h;obtain⟨z,zr,e1,e2,e3⟩:=one _ cs r d zs hr hf (by cases cs<;>exact h);exact⟨[z],zr,e1,e2,e3⟩
 |str=>intro cs r d zs hr hf h;obtain⟨z,zr,e1,e2,e3⟩:=one _ cs r d zs hr hf (by cases cs<;>exact h);exact⟨[z],zr,e1,e2,e3⟩
 |sl e _=>intro cs r d zs hr hf h;obtain⟨z,zr,e1,e2,e3⟩:=one _ cs r d zs hr hf (by cases cs<;>exact h);exact⟨[z],zr,e1,e2,e3⟩
def qm5:∀{cs:List V},Gw φ o imm' (.agg cs)->∀c,c∈cs->Gw φ o imm' c
 |c'::cs,h,c,hc,id,hi=>by
  rcases zk.1 hc with rfl|hc
  ·exact h id (by unfold fq rT;exact List.mem_append_left _ hi)
  ·exact qm5 (cs:=cs) (fun id hi=>h id (by unfold fq at hi ⊢;unfold rT;exact List.mem_append_right _ hi)) c hc id hi
def z6u(hl:∀id,rY φ o imm w id (o id))(hi:∀b,imm b->imm' b){t:Ty}{x:V}{d:den t}{z:Value}(hx:ay φ o imm w x z)(hf:Gw φ o imm' x)(h:lj lf o t x=some d):cY imm' w t d z:=by
 by_cases hc:∃cs,x=.agg cs
 ·obtain⟨cs,rfl⟩:=hc;simp only[lj] at h;split at h
  ·rename_i p;split at h
   ·rename_i y h1;injection h with h;subst h;obtain⟨c,rfl,hr⟩:=hx;obtain⟨zc,zr,e1,e2,e3,_⟩:=qsi hl hi _ _ _ _ _ hr (qm5 hf) h1;have:zr=[]:=e3;subst this;exact⟨c,rfl,by rw[e1,zn];exact e2⟩
   ·cases h
  ·cases h
 ·have:lj lf o t x=py lf o t x:=by cases x<;>first|rfl|exact absurd ⟨_,rfl⟩ hc
  exact z09 hl hi hx hf (this▸h)
structure bU (o:Nat->Obj) (psF:PS) (k:Nat) (aw:List fS) (oc:Nat->Obj):Prop where
 fin:LC k psF=true
 len:aw.length=k
 ob:∀i sh,aw[i]?=some sh->Gu o psF i sh (oc i)
 none:∀i,k<=i->oc i=.none
def yV(psF:PS)(i:Nat):Nat:=(iO i psF.aT).getD 0
def bU.aT{psF:PS}{k:Nat}{aw:List fS}{oc:Nat->Obj}(h:bU o psF k aw oc){i cN:Nat}(hp:(i,cN)∈psF.aT):i<k/\yV psF i=cN/\Wr cN psF.aT=some i:=by have hf:=h.fin;unfold LC at hf;simp only[ze] at hf;obtain⟨h1,h2,h3⟩:=qqq hf.1.1.1 _ hp;exact⟨h1,by unfold yV;rw[h2];rfl,h3⟩
def bU.cq{psF:PS}{k:Nat}{aw:List fS}{oc:Nat->Obj}(h:bU o psF k aw oc){i cN:Nat}(hp:(i,cN)∈psF.aT):cN∉psF.cq:=fun hl=>by have hf:=h.fin;unfold LC at hf;simp only[ze] at hf;exact qoa hf.2 cN hl i hp
def bU.cut{psF:PS}{k:Nat}{aw:List fS}{oc:Nat->Obj}(h:bU o psF k aw oc){id n:Nat}(hp:(id,n)∈psF.cut):iO id psF.cut=some n:=by have hf:=h.fin;unfold LC at hf;simp only[ze] at hf;exact qqs hf.1.1.2 _ hp
def bU.full{psF:PS}{k:Nat}{aw:List fS}{oc:Nat->Obj}(h:bU o psF k aw oc){id:Nat}(hp:id∈psF.full):iO id psF.cut=.none:=by have hf:=h.fin;unfold LC at hf;simp only[ze] at hf;exact qo9 hf.1.2 _ hp
noncomputable def Gx{t:Ty}(s:Sl (den t)):Option Nat->Sl (den t)
 |some n=>⟨s.nil,lf.aH s.l n⟩
 |none=>s
def bU.kind{psF:PS}{k:Nat}{aw:List fS}{oc:Nat->Obj}(h:bU o psF k aw oc){i:Nat}(hi:i<k):oc i=.dead\/∃cN,(i,cN)∈psF.aT/\((∃l cs Gv B8 f r c,o cN=.box cs/\oq lf o l cs Gv=some (B8,f)/\fj B8 psF/\oc i=.box (fH cJ cd l r (f r c)).1)\/(∃t ver s,o cN=.vec t ver false s/\oc i=.vec t 0 false (Gx s (iO cN psF.cut)))\/(∃l p,o cN=.iter l p/\oc i=.iter l p)):=by
 have hc:i<aw.length:=by rw[h.len];exact hi
 rcases h.ob i _ (zf hc) with ⟨_,h1⟩|⟨cN,Gv,B8,f,h1,h2,h3,r,c,h4⟩
 ·exact .inl h1
 ·generalize he:aw[i]=sh at*
  cases sh with
  |gone=>exact .inl h4
  |box l=>
   have h2:(match o cN with|.box cs=>oq lf o l cs Gv|_=>.none)=some (B8,f):=h2;cases e:o cN<;>rw[e] at h2<;>try (cases h2;done)
   exact .inr ⟨cN,h1,.inl ⟨l,_,Gv,B8,f,r,c,e,h2,h3,h4⟩⟩
  |vec t=>
   simp only[Gb] at h2;cases e:o cN<;>rw[e] at h2<;>try (cases h2;done)
   rename_i t' ver fr s;cases fr<;>try (cases h2;done)
   simp only at h2;split at h2
   ·rename_i s' hs;obtain⟨ht,hs⟩:=B5 hs;injection ht with ht;subst ht;subst hs;refine .inr ⟨cN,h1,.inr (.inl ⟨t',ver,_,e,?_⟩)⟩;split at h2
    ·rename_i n hn;injection h2 with h2;injection h2 with h5 h6;subst h5 h6;rw[h4,h.cut (h3.cut _ (QY hn))];rfl
    ·injection h2 with h2;injection h2 with h5 h6;subst h5 h6;rw[h4,h.full (h3.full _ (zg ..))];rfl
   ·cases h2
  |iter=>
   simp only[Gb] at h2;cases e:o cN<;>rw[e] at h2<;>try (cases h2;done)
   injection h2 with h2;injection h2 with h5 h6;subst h5 h6;exact .inr ⟨cN,h1,.inr (.inr ⟨_,_,e,h4⟩)⟩
end
section
variable {C:Cx} {X:Nat→Prop} {φ:Nat→Addr} {o oc:Nat→Obj} {w:World} {psF:PS} {k:Nat} {aw:List fS}
def ft(φ:Nat->Addr)(psF:PS):Nat->Addr:=fun i=>φ (yV psF i)
def XC(X:Nat->Prop)(φ:Nat->Addr)(o oc:Nat->Obj)(psF:PS)(b:Nat):Prop:=X b\/∃id,aV (φ id) (o id)=true/\(φ id).block=b/\id∉psF.cq/\¬∃i,aV (ft φ psF i) (oc i)=true/\yV psF i=id
def bU.L8(h:bU o psF k aw oc){i:Nat}(hx:aV (ft φ psF i) (oc i)=true):i<k/\(i,yV psF i)∈psF.aT/\aV (φ (yV psF i)) (o (yV psF i))=true:=by
 have hi:i<k:=zA fun hn=>by rw[h.none i om] at hx;exact mT hx
 rcases h.kind hi with h1|⟨cN,h1,h2⟩
 ·rw[h1] at hx;simp[aV,live] at hx
 ·have:=(h.aT h1).2.1;unfold ft at hx;rw[this] at hx ⊢;refine⟨hi,h1,?_⟩;rcases h2 with ⟨l,cs,Gv,B8,f,r,c,e,_⟩|⟨t,ver,s,e,e'⟩|⟨_,_,e,_⟩
  ·rw[e];rfl
  ·rw[e'] at hx;obtain⟨hn,_,hs⟩:=Gm hx;have hn:s.nil=false:=by cases hc:iO cN psF.cut<;>rw[hc] at hn<;>simpa[Gx] using hn
   rw[e];exact rX hn hs
  ·rw[e];rfl
def bU.nk(h:bU o psF k aw oc){b:Nat}(hb:oG (ft φ psF) oc b):oG φ o b:=by obtain⟨i,h1,h2⟩:=hb;exact⟨yV psF i,(h.L8 h1).2.2,h2⟩
def bU.imm(h:bU o psF k aw oc){b:Nat}(hb:aj X φ o w b):aj (XC X φ o oc psF) (ft φ psF) oc w b:=by
 obtain⟨h1,h2,h3⟩:=hb;refine⟨h1,?_,fun hn=>h3 (h.nk hn)⟩;rintro(hx|⟨id,e1,e2,_⟩)
 ·exact h2 hx
 ·exact h3 ⟨id,e1,e2⟩
def bU.pF(h:bU o psF k aw oc)(hm:MRel C X φ o w){id:Nat}(hx:aV (φ id) (o id)=true)(hl:id∈psF.cq):aj (XC X φ o oc psF) (ft φ psF) oc w (φ id).block:=by
 obtain⟨h1,h2⟩:=hm.sep id hx;refine⟨h1,?_,fun⟨i,e1,e2⟩=>?_⟩
 ·rintro(hc|⟨se,e1,e2,e3,_⟩)
  ·exact h2 hc
  ·have:=hm.inj se id e1 hx e2;exact e3 (this▸hl)
 ·obtain⟨_,g1,g2⟩:=h.L8 e1;have:=hm.inj _ id g2 hx e2;exact h.cq g1 (this▸hl)
def Xt(φ:Nat->Addr)(o oc:Nat->Obj)(imm L9:Nat->Prop)(w:World)(psF:PS)(s:Sh):Prop:=∀v z ps bG f,ay φ o imm w v z->Kp lf o s v ps=some (bG,f)->fj bG psF->
 ∀r c,ay (ft φ psF) oc L9 w (lT cJ cd s r (f r c)).1 z
def zio(φ:Nat->Addr)(o oc:Nat->Obj)(imm L9:Nat->Prop)(w:World)(psF:PS)(l:List Sh):Prop:=∀vs zs ps bG f,ck φ o imm w vs zs->oq lf o l vs ps=some (bG,f)->fj bG psF->
 ∀r c,ck (ft φ psF) oc L9 w (fH cJ cd l r (f r c)).1 zs
def Gy(h:bU o psF k aw oc){i id:Nat}(hp:(i,id)∈psF.aT):oc i=.dead\/((∃cs lW,o id=.box cs/\oc i=.box lW)\/(∃t ver s,o id=.vec t ver false s/\oc i=.vec t 0 false (Gx s (iO id psF.cut)))\/(∃l p,o id=.iter l p/\oc i=.iter l p))/\ft φ psF i=φ id:=by
 obtain⟨h1,h2,_⟩:=h.aT hp;rcases h.kind h1 with h3|⟨cN,h3,h4⟩
 ·exact .inl h3
 ·have:=(h.aT h3).2.1;rw[h2] at this;subst this;refine .inr ⟨?_,by unfold ft;rw[h2]⟩
  grind
def qob:∀{cs:List V} {q:V} {id:Nat},q∈cs->id∈fq o q->id∈rT o cs
 |c::cs,q,id,hq,hi=>by
  unfold rT;rcases zk.1 hq with rfl|hq
  ·grind
  ·exact List.mem_append_right _ (qob hq hi)
def z0a(hm:MRel C X φ o w)(h:bU o psF k aw oc)(t:Ty):Xt φ o oc (aj X φ o w) (aj (XC X φ o oc psF) (ft φ psF) oc w) w psF (.ref t):=by
 intro v z ps bG f hv hp hM r c;obtain⟨_,x,rfl,hx⟩:=ql8 (o:=o) hp;show ay (ft φ psF) oc _ w (.ref t x) z;rcases hx with ⟨rfl,rfl⟩|⟨id,rfl,hb,rfl⟩
 ·obtain⟨a,cs,h1,h2,h3,h4,h5⟩:=hv;exact⟨a,cs,h1,h2,h.imm h3,jH (fun b hb=>h.imm hb) (fun _ _=>rfl) _ _ _ h4,h5⟩
 ·unfold vM at hb;split at hb
  ·rename_i cs e;split at hb
   ·rename_i y hy;injection hb with hb;subst hb;have he:aV (φ id) (o id)=true:=by rw[e];rfl
    have hc:id∈psF.cq:=hM.cq _ (zg ..);have ho:=hm.aw id;unfold ay at hv;rw[e] at hv ho;simp only at hv;subst hv;obtain⟨h0,cz,el,lo,hg,g1,g2,g3⟩:=ho;have hf:∀q,q∈cs->Gw φ o (aj (XC X φ o oc psF) (ft φ psF) oc w) q:=by intro q hq se hi t ver s e' hn hs;refine h.pF hm (by rw[e'];exact rX hn hs) (hM.cq _ (zh _ (List.mem_append_left _ ?_)));unfold Qx;rw[e];exact qob hq hi
    obtain⟨zc,zr,a1,a2,a3,_⟩:=qsi hm.aw (fun b hb=>h.imm hb) _ _ _ _ _ g3 hf hy;have:zr=[]:=a3;subst this;refine⟨_,zc,rfl,rfl,h.pF hm he hc,a2,?_⟩;have:=Sr g1 0 cz.size
    grind
   ·cases hb
  ·cases hb
def zg6(hm:MRel C X φ o w)(h:bU o psF k aw oc)(t:Ty):Xt φ o oc (aj X φ o w) (aj (XC X φ o oc psF) (ft φ psF) oc w) w psF (.rr t):=by
 intro v z ps bG f hv hp hM r c;obtain⟨_,x,rfl,hx⟩:=quw (o:=o) hp;show ay (ft φ psF) oc _ w (.rr t x) z;rcases hx with ⟨rfl,rfl⟩|⟨id,lU,rfl,hf,hb,rfl⟩
 ·obtain⟨a,b,cs,h1,h2,h3,h4,h5,h6,h7,h8⟩:=hv;exact⟨a,b,cs,h1,h2,h.imm h3,h4,h5,h.imm h6,jH (fun b hb=>h.imm hb) (fun _ _=>rfl) _ _ _ h7,h8⟩
 ·unfold vM at hb;split at hb
  ·rename_i cs e;split at hb
   ·rename_i y hy;injection hb with hb;subst hb;have hc:aV (φ id) (o id)=true:=by rw[hf];rfl
    have hj:aV (φ lU) (o lU)=true:=by rw[e];rfl
    have hk:id∈psF.cq:=hM.cq _ (zg ..);have he:lU∈psF.cq:=hM.cq _ (zh _ (zg ..));have hg:=hm.aw id;have ho:=hm.aw lU;unfold ay at hv;rw[hf] at hv hg;rw[e] at ho;simp only at hv;subst hv;obtain⟨k0,cz1,el1,lo1,ht,q1,q2,q3⟩:=hg;obtain⟨zp,rp,p1,p2,p3⟩:=q3;have p3:rp=[]:=p3;have p2:ay φ o (aj X φ o w) w (.ptr lU 0) zp:=p2;unfold ay at p2;rw[e] at p2;simp only at p2;subst p2 p3;obtain⟨h0,cz,el,lo,hu,g1,g2,g3⟩:=ho;have hl:∀q,q∈cs->Gw φ o (aj (XC X φ o oc psF) (ft φ psF) oc w) q:=by intro q hq se hi t ver s e' hn hs;refine h.pF hm (by rw[e'];exact rX hn hs) (hM.cq _ (zh _ (zh _ (List.mem_append_left _ ?_))));unfold Qx;rw[e];exact qob hq hi
    obtain⟨zc,zr,a1,a2,a3,_⟩:=qsi hm.aw (fun b hb=>h.imm hb) _ _ _ _ _ g3 hl hy;have:zr=[]:=a3;subst this;refine⟨⟨(φ id).block,(φ id).off+0,none⟩,⟨(φ lU).block,(φ lU).off+0,none⟩,zc,rfl,rfl,h.pF hm hc hk,?_,rfl,h.pF hm hj he,a2,?_⟩
    ·have:=Sr q1 0 cz1.size;rw[List.drop_zero,p1] at this;have hw:[Value.pointer (some ⟨(φ lU).block,(φ lU).off+0,none⟩)].length=cz1.size:=by rw[<-Array.length_toList,p1]
     grind
    ·have:=Sr g1 0 cz.size
     grind
   ·cases hb
  ·cases hb
def aae(hm:MRel C X φ o w)(h:bU o psF k aw oc)(s:Sh):Xt φ o oc (aj X φ o w) (aj (XC X φ o oc psF) (ft φ psF) oc w) w psF s:=by
 refine Sh.rec (motive_1:=Xt φ o oc (aj X φ o w) (aj (XC X φ o oc psF) (ft φ psF) oc w) w psF) (motive_2:=zio φ o oc (aj X φ o w) (aj (XC X φ o oc psF) (ft φ psF) oc w) w psF)
  ?_ ?_ ?_ ?_ ?_ ?_ ?_ ?_ ?_ ?_ ?_ ?_ ?_ ?_ ?_ ?_ ?_ ?_ s
 ·intro t v z ps bG f hv hp hM r c;obtain⟨_,x,h1,rfl,rfl⟩:=z07 (o:=o) hp;refine z6u hm.aw (fun b hb=>h.imm hb) hv (fun id hi t ver s e hn hs=>h.pF hm (by rw[e];exact rX hn hs) (hM.cq _ (List.mem_append_left _ hi))) h1
 ·intro i v z ps bG f hv hp hM r c;replace hp:RN o i v ps=some (bG,f):=hp;unfold RN at hp;show ay (ft φ psF) oc _ w (.aY i 0) z;split at hp
  ·rename_i id ver;split at hp
   ·rename_i t aC s e;obtain⟨hb,rfl,rfl⟩:=vv hp;have hr:=hM.aT _ (zg ..);have he:=h.full (hM.full _ (zg ..));unfold ay at hv ⊢;rw[e] at hv;replace hv:=hv.2 (zj hb);rcases Gy (φ:=φ) h hr with hd|⟨⟨cs,lW,e1,_⟩|⟨t',yW,s',e1,e2⟩|⟨_,_,e1,e3⟩,dZ⟩
    ·rw[hd];trivial
    ·rw[e1] at e;cases e
    ·rw[e1] at e;injection e with ea eb ec ed;subst ea eb;have ed:=eq_of_heq ed;subst ed;rw[e2,he,dZ];exact⟨Nat.le_refl _,fun _=>hv⟩
    ·rw[e1] at e;cases e
   ·cases hp
  ·rename_i id ver n cp;split at hp
   ·rename_i t aC s e;obtain⟨hb,rfl,rfl⟩:=vv hp;have hr:=hM.aT _ (zg ..);have hc:=h.cut (hM.cut _ (zg ..));unfold ay at hv ⊢;rw[e] at hv;obtain⟨hn,hj,_⟩:=hv.2 (zj hb);clear hv;rcases Gy (φ:=φ) h hr with hd|⟨⟨cs,lW,e1,_⟩|⟨t',yW,s',e1,e2⟩|⟨_,_,e1,e3⟩,dZ⟩
    ·rw[hd];trivial
    ·rw[e1] at e;cases e
    ·rw[e1] at e;injection e with ea eb ec ed;subst ea eb;have ed:=eq_of_heq ed;subst ed;rw[e2,hc,dZ];have hl:(lf.aH s'.l n).length=n:=by simp[lf,aH,Nat.min_eq_left hn]
     refine⟨Nat.le_refl _,fun _=>?_⟩;simp only[Gx];rw[hl];exact hj
    ·rw[e1] at e;cases e
   ·cases hp
  ·cases hp
 ·intro i off v z ps bG f hv hp hM r c;replace hp:RO o i off v ps=some (bG,f):=hp;unfold RO at hp;show ay (ft φ psF) oc _ w (.ptr i off) z;split at hp
  ·rename_i id LH;unfold ay at hv ⊢;split at hp
   ·rename_i cs0 e;obtain⟨hb,rfl,rfl⟩:=vv hp;have hr:=hM.aT _ (zg ..);have:=zj hb;subst this;rw[e] at hv;rcases Gy (φ:=φ) h hr with hd|⟨⟨cs,lW,e1,e2⟩|⟨t',yW,s',e1,e2⟩|⟨_,_,e1,e3⟩,dZ⟩
    all_goals grind
   ·rename_i t aC s e;obtain⟨hb,rfl,rfl⟩:=vv hp;rw[ze] at hb;have hr:=hM.aT _ (zg ..);have:=zj hb.1;subst this;rw[e] at hv;replace hv:=hv (zj hb.2).symm;rcases Gy (φ:=φ) h hr with hd|⟨⟨cs,lW,e1,e2⟩|⟨t',yW,s',e1,e2⟩|⟨_,_,e1,e3⟩,dZ⟩
    all_goals grind
   ·cases hp
  ·cases hp
 ·exact fun t=>z0a hm h t
 ·intro v z ps bG f hv hp hM r c;obtain⟨hb,_,rfl⟩:=vv hp;have:v=.gU:=by cases v<;>first|rfl|cases hb
  subst this;exact hv
 ·intro g l ih v z ps bG f hv hp hM r c;obtain⟨l',rfl,hf⟩:=zeh hp;obtain⟨cz,h1,h2⟩:=hv;exact⟨cz,h1,ih _ _ _ _ _ h2 hf hM r c⟩
 ·intro v z ps bG f hv hp hM r c;obtain⟨hb,_,rfl⟩:=vv hp;have:v=.ga:=by cases v<;>first|rfl|cases hb
  subst this;exact hv
 ·intro l ih v z ps bG f hv hp hM r c;obtain⟨l',rfl,hf⟩:=z6r hp;obtain⟨cz,h1,h2⟩:=hv;exact⟨cz,h1,ih _ _ _ _ _ h2 hf hM r c⟩
 ·intro l ih v z ps bG f hv hp hM r c;obtain⟨l',rfl,hf⟩:=z6s hp;obtain⟨cz,h1,h2⟩:=hv;exact⟨cz,h1,ih _ _ _ _ _ h2 hf hM r c⟩
 ·intro v z ps bG f hv hp hM r c;obtain⟨hb,_,rfl⟩:=vv hp;have:v=.iK:=by cases v<;>first|rfl|cases hb
  subst this;exact hv
 ·intro v z ps bG f hv hp hM r c;exact trivial
 ·intro i v z ps bG f hv hp hM r c;replace hp:RP o i v ps=some (bG,f):=hp;obtain⟨id,b,cs,rfl,e,rfl,rfl⟩:=ql7 hp;have hr:=hM.aT _ (zg ..);show ay (ft φ psF) oc _ w (.cX i b) z;unfold ay at hv ⊢;rw[e] at hv;rcases Gy (φ:=φ) h hr with hd|⟨⟨cs,lW,e1,e2⟩|⟨t',yW,s',e1,e2⟩|⟨_,_,e1,e3⟩,dZ⟩
  all_goals grind
 ·intro i v z ps bG f hv hp hM r c;replace hp:Wx o i v ps=some (bG,f):=hp;obtain⟨id,ver,lo,t,s,rfl,e,rfl,rfl⟩:=qqo hp;have hr:=hM.aT _ (zg ..);have hc:=h.full (hM.full _ (zg ..));show ay (ft φ psF) oc _ w (.iM i 0 lo) z;unfold ay at hv ⊢;rw[e] at hv;replace hv:=hv.2 rfl;rcases Gy (φ:=φ) h hr with hd|⟨⟨cs,lW,e1,e2⟩|⟨t',yW,s',e1,e2⟩|⟨_,_,e1,e3⟩,dZ⟩
  ·rw[hd];trivial
  ·rw[e1] at e;cases e
  ·rw[e1] at e;injection e with ea eb ec ed;subst ea eb;have ed:=eq_of_heq ed;subst ed;rw[e2,hc,dZ];exact⟨Nat.le_refl _,fun _=>hv⟩
  ·rw[e1] at e;cases e
 ·intro i v z ps bG f hv hp hM r c;replace hp:BX o i v ps=some (bG,f):=hp;unfold BX at hp;show ay (ft φ psF) oc _ w (.it i) z;split at hp
  ·rename_i id;unfold ay at hv ⊢;split at hp
   ·rename_i e;injection hp with hp;injection hp with h1 h2;subst h1 h2;have hr:=hM.aT _ (zg ..);rw[e] at hv;rcases Gy (φ:=φ) h hr with hd|⟨⟨cs,lW,e1,e2⟩|⟨t',yW,s',e1,e2⟩|⟨_,_,e1,e3⟩,dZ⟩
    all_goals grind
   ·cases hp
  ·cases hp
 ·intro a v z ps bG f hv hp hM r c;replace hp:F8 lf o a v ps=some (bG,f):=hp;rcases quv (o:=o) hp with ⟨k,n,rfl,rfl,rfl⟩|⟨rfl,rfl,rfl⟩|⟨g,i,rfl,hg,e,rfl,rfl⟩|⟨g,i,x,p,rfl,hg,e,h2,rfl⟩
  ·show yQ _ w a k n z;exact qnl (fun q ⟨b,cs,h1,h2,h3,h4,h5⟩=>⟨b,cs,h1,h2,h.imm h3,jH (fun b hb=>h.imm hb) (fun _ _=>rfl) (.int .i64) n cs h4,h5⟩) a k z hv
  ·show yQ _ w a _ _ z;replace hv:z=.nilFunc:=hv;subst hv;exact quu a
  ·obtain⟨cz,h1,h2⟩:=hv;have h2:cz.toList=[]:=h2;have hz:z=.func (.func g) #[] #[]:=by rw[h1,show cz=#[] from Array.toList_eq_nil_iff.1 h2,R7 hg]
   obtain⟨j,e1,e2⟩:=qsg (c:=false) hz a 0 i e;rw[zC] at e1;subst e1;exact e2
  ·obtain⟨cz,h1,y,r',e3,hy,e4⟩:=hv;have e4:r'=[]:=e4;subst e4;have hz:z=.func (.func g) #[] #[y]:=by rw[h1,show cz=#[y] from Array.toList_inj.1 e3,R7 hg]
   have key:ay (ft φ psF) oc _ w (lT cJ cd (.ref (.int .i64)) r (p r c)).1 y:=z0a hm h (.int .i64) x y _ _ _ hy h2 hM r c;obtain⟨j,e1,e2⟩:=qsg (c:=true) (n:=(p r c).1) ⟨y,hz,key⟩ a 0 i e;rw[zC] at e1;subst e1;exact e2
 ·exact fun t=>zg6 hm h t
 ·intro vs zs ps bG f hv hp hM r c;obtain⟨rfl,_,rfl⟩:=Xq hp;exact hv
 ·intro s l mY mZ vs zs ps bG f hv hp hM r c;obtain⟨v,L7,ox,f1,g1,rfl,h1,h2,rfl⟩:=SC hp;obtain⟨z,zr,e,r1,r2⟩:=hv;have hk:=(QX l _ _ _ _ h2).1.trans hM;have a1:=mY _ _ _ _ _ r1 h1 hk _ (g1 r c);have e2:(lT cJ cd s (jG l r) (f1 (jG l r) (g1 r c))).2=g1 r c:=(zg4 s _ _ _ _ h1).2 _ _ _ _;refine⟨z,zr,e,a1,?_⟩;show ck _ _ _ _ (fH cJ cd l r (lT cJ cd s (jG l r) (f1 (jG l r) (g1 r c))).2).1 zr;rw[e2];exact mZ _ _ _ _ _ r2 h2 hM r c
def zg7(hm:MRel C X φ o w)(h:bU o psF k aw oc):∀l,zio φ o oc (aj X φ o w) (aj (XC X φ o oc psF) (ft φ psF) oc w) w psF l
 |[]=>by intro vs zs ps bG f hv hp hM r c;obtain⟨rfl,_,rfl⟩:=Xq hp;exact hv
 |s::l=>by intro vs zs ps bG f hv hp hM r c;obtain⟨v,L7,ox,f1,g1,rfl,h1,h2,rfl⟩:=SC hp;obtain⟨z,zr,e,r1,r2⟩:=hv;have hc:=(QX l _ _ _ _ h2).1.trans hM;have a1:=aae hm h s _ _ _ _ _ r1 h1 hc _ (g1 r c);have e2:(lT cJ cd s (jG l r) (f1 (jG l r) (g1 r c))).2=g1 r c:=(zg4 s _ _ _ _ h1).2 _ _ _ _;refine⟨z,zr,e,a1,?_⟩;show ck _ _ _ _ (fH cJ cd l r (lT cJ cd s (jG l r) (f1 (jG l r) (g1 r c))).2).1 zr;rw[e2];exact zg7 hm h l _ _ _ _ _ r2 h2 hM r c
def zg8{l:List Sh}{cs:List V}{ps bG:PS}{f:∀r,ai r->ai (jG l r)}(h:oq lf o l cs ps=some (bG,f)){r:List Ty}{q:ai (jG l r)}(hs:qn (fH cJ cd l r q).1=true):qn cs=true:=by
 cases l with
 |nil=>cases hs
 |cons s l=>
  obtain⟨v,L7,ox,f1,g1,rfl,h1,h2,rfl⟩:=SC h;have hs:qn ((lT cJ cd s (jG l r) q).1::(fH cJ cd l r (lT cJ cd s (jG l r) q).2).1)=true:=hs;cases s with
  |cX i=>obtain⟨id,b,cs,rfl,_⟩:=ql7 (o:=o) (show RP o i v ps=some (ox,f1) from h1);rfl
  |_=>cases hs
def bU.mem(hm:MRel C X φ o w)(h:bU o psF k aw oc):MRel C (XC X φ o oc psF) (ft φ psF) oc w:=by
 have hi:∀b,aj X φ o w b->aj (XC X φ o oc psF) (ft φ psF) oc w b:=fun b hb=>h.imm hb;refine⟨fun i=>?_,fun i j hq hu e=>?_,fun i hx=>?_,fun b hb=>?_,fun i=>?_,fun g t x hg=>?_,hm.QN⟩
 ·by_cases hj:i<k
  ·rcases h.kind hj with hd|⟨cN,h1,h2⟩
   ·rw[hd];trivial
   ·have dZ:ft φ psF i=φ cN:=by unfold ft;rw[(h.aT h1).2.1]
    have ho:=hm.aw cN;rcases h2 with ⟨l,cs,Gv,B8,f,r,c,e,hp,hM,e'⟩|⟨t,ver,s,e,e'⟩|⟨_,_,e,e'⟩
    ·rw[e] at ho;rw[e'];obtain⟨h3,cz,el,lo,hf,h4,h5,h6⟩:=ho;exact⟨by rw[dZ];exact h3,cz,el,lo,hf,by rw[dZ];exact h4,h5,zg7 hm h l _ _ _ _ _ h6 hp hM r c⟩
    ·rw[e] at ho;rw[e'];obtain⟨h3,h4,h5⟩:=ho;cases hc:iO cN psF.cut with
     |none=>refine⟨h3,h4,fun hn=>?_⟩;rw[dZ];refine(h5 hn).imp (fun⟨g1,ec,g2,g3,g4,g5,g6⟩=>?_) fun g=>g;exact⟨g1,ec,rJ (jH hi (fun _ _=>rfl) t) g2,g3,g4,g5,by simp⟩
     |some n=>
      have hv:(lf.aH s.l n).length<=s.l.length:=by simp[lf,aH];omega
      refine⟨by show(lf.aH s.l n).length<=cv;omega,fun hn=>?_,fun hn=>?_⟩
      ·show s.l.take n=[];rw[h4 hn];simp
      ·rw[dZ];refine(h5 hn).imp (fun⟨g1,ec,g2,g3,g4,g5,g6⟩=>?_) fun g=>⟨g.1,(by show s.l.take n=[];rw[g.2.1];simp),g.2.2⟩;have hw:=qu g2;have hk:min n s.l.length<=s.l.length:=Nat.min_le_right _ _;have hl:=(yP (min n s.l.length) hk g2).1;have hy:s.l.take (min n s.l.length)=s.l.take n:=by grind
       rw[hy] at hl;refine⟨g1,ec.take (min n s.l.length*aM t),rJ (jH hi (fun _ _=>rfl) t) hl,Sk _ g3,g4,fun _=>?_,by simp⟩;obtain⟨cz,el,lo,hf,k1,k2,k3⟩:=g5 rfl;have hA:(lf.aH s.l n).length*aM t<=s.l.length*aM t:=Nat.mul_le_mul_right _ hv;exact⟨cz,el,lo,hf,k1,by show _+(lf.aH s.l n).length*aM t<=_;omega,by show hf<=lo\/hf<=_\/_+(lf.aH s.l n).length*aM t<=lo;omega⟩
    ·rw[e] at ho;rw[e'];obtain⟨s,n,h3,h4⟩:=ho;exact⟨s,n,by rw[dZ];exact h3,h4⟩
  ·rw[h.none i om];trivial
 ·obtain⟨_,a1,a2⟩:=h.L8 hq;obtain⟨_,b1,b2⟩:=h.L8 hu;have:=hm.inj _ _ a2 b2 e;have ra:=(h.aT a1).2.2;have rb:=(h.aT b1).2.2
  grind
 ·obtain⟨_,a1,a2⟩:=h.L8 hx;obtain⟨s1,s2⟩:=hm.sep _ a2;refine⟨s1,?_⟩;rintro(hz|⟨id,e1,e2,_,e4⟩)
  ·exact s2 hz
  ·have:=hm.inj _ _ e1 a2 e2
   grind
 ·rcases hb with hb|⟨id,e1,e2,_⟩
  ·exact hm.xs b hb
  ·exact e2▸(hm.sep id e1).1
 ·by_cases hj:i<k
  ·rcases h.kind hj with hd|⟨cN,h1,h2⟩
   ·rw[hd];trivial
   ·have dZ:ft φ psF i=φ cN:=by unfold ft;rw[(h.aT h1).2.1]
    have he:=hm.rK cN;rcases h2 with ⟨l,cs,Gv,B8,f,r,c,e,hp,hM,e'⟩|⟨t,ver,s,e,e'⟩|⟨_,_,e,e'⟩
    ·rw[e] at he;rw[e',dZ];exact fun hs=>he (zg8 hp hs)
    ·rw[e] at he;rw[e',dZ];refine fun ht hn=>he ht ?_;cases hc:iO cN psF.cut<;>rw[hc] at hn<;>exact hn
    ·rw[e'];trivial
  ·rw[h.none i om];trivial
 ·obtain⟨a,cs,h1,h2,h3,h4,h5⟩:=hm.fe g t x hg;exact⟨a,cs,h1,h2,hi _ h3,jH hi (fun _ _=>rfl) _ _ _ h4,h5⟩
end
def si{β:Type}(n:Nat)(k:Nat->β):ml n k=k n:=by cases n<;>rfl
mutual
def z6v{β:Type}:∀(v:V) (k:V->β),pB v k=k v
 |.d t x,k=>rfl
 |.aY id ver,k=>by simp only[pB,si]
 |.pre id ver n c,k=>by simp only[pB,si]
 |.ptr id off,k=>by simp only[pB,si]
 |.lh ..,k=>rfl
 |.ref ..,k=>rfl
 |.rr ..,k=>rfl
 |.gU,k=>rfl
 |.fn f l,k=>by simp only[pB,si,QZ]
 |.ga,k=>rfl
 |.mc l,k=>by simp only[pB,QZ]
 |.agg l,k=>by simp only[pB,QZ]
 |.iK,k=>rfl
 |.fh,k=>rfl
 |.lb _,k=>rfl
 |.undef,k=>rfl
 |.dH,k=>rfl
 |.cX id b,k=>by simp only[pB,si]
 |.iM id ver lo,k=>by simp only[pB,si]
 |.it _,k=>rfl
 |.Wp ..,k=>rfl
 |.fa ..,k=>rfl
def QZ{β:Type}:∀(l:List V) (k:List V->β),Kt l k=k l
 |[],k=>rfl
 |v::l,k=>by simp only[Kt,z6v,QZ]
end
def zei{β:Type}(x:Obj)(k:Obj->β):R1 x k=k x:=by cases x<;>simp only[R1,QZ,si]
def zej{β:Type}:∀(u:List (Nat×Obj)) (o:Nat->Obj) (k:(Nat->Obj)->β),WS o u k=k (aq o u)
 |[],_,_=>rfl
 |(i,x)::r,o,k=>by simp only[WS,si,zei,zej r];rfl
def qsj{β:Type}{fr:Nat}:∀(u:List (Nat×Obj)) (o:Nat->Obj) (k:(Nat->Obj)->Option β) (y:β),vP fr o u k=some y->k (aq o u)=some y/\mU fr o u
 |[],o,k,y,h=>⟨h,(fun p hp=>by cases hp)⟩
 |(i,x)::r,o,k,y,h=>by
  simp only[vP,si,zei] at h;have next:∀(hc:fr<=i->i<fr+16->o i=.none),vP fr (cy o i x) r k=some y->k (aq o ((i,x)::r))=some y/\mU fr o ((i,x)::r):=by
   intro hc h;obtain⟨h1,h2⟩:=qsj r _ _ _ h;refine⟨h1,fun p hp g1 g2=>?_⟩;rcases zk.1 hp with rfl|hp
   ·exact hc g1 g2
   ·by_cases e:p.1=i
    ·grind
    ·have:=h2 p hp g1 g2
     rwa [jI e] at this
  cases hb:(Nat.ble fr i&&Nat.blt i (fr+16)) with
  |true=>grind
  |false=>
   rw[hb] at h;simp only[cond_false] at h;refine next (fun g1 g2=>?_) h
   have:(Nat.ble fr i&&Nat.blt i (fr+16))=true:=by rw[ze];exact⟨Nat.ble_eq▸g1,(Nat.ble_eq▸g2:Nat.ble (i+1) (fr+16)=true)⟩
   grind
mutual
def zg9{β:Type}:∀(s:Sh) (k:Sh->β),oF s k=k s
 |.d t,k=>rfl
 |.aY id,k=>by simp only[oF,si]
 |.ptr id off,k=>by simp only[oF,si]
 |.ref t,k=>rfl
 |.rr t,k=>rfl
 |.gU,k=>rfl
 |.fn f l,k=>by simp only[oF,si,Q0]
 |.ga,k=>rfl
 |.mc l,k=>by simp only[oF,Q0]
 |.agg l,k=>by simp only[oF,Q0]
 |.it id,k=>by simp only[oF,si]
 |.iK,k=>rfl
 |.dH,k=>rfl
 |.cX id,k=>by simp only[oF,si]
 |.iM id,k=>by simp only[oF,si]
 |.fa _,k=>rfl
def Q0{β:Type}:∀(l:List Sh) (k:List Sh->β),Ku l k=k l
 |[],k=>rfl
 |v::l,k=>by simp only[Ku,zg9,Q0]
end
def zbs{β:Type}(s:fS)(k:fS->β):zfk s k=k s:=by cases s<;>simp only[zfk,Q0]
def qux{β:Type}:∀(l:List fS) (k:List fS->β),WT l k=k l
 |[],_=>rfl
 |s::l,k=>by simp only[WT,zbs,qux l]
def Xu{β:Type}(C:Cx)(sk:List Nat)(st:St)(ts:List Nat)(ops:List Oper)(k:Shape->β):QH C sk st ts ops k=k (QG C sk st ts ops):=by simp only[QH,Q0,qux]
def j0(sk ts:List Nat)(s:Shape)(c:ai s.aS):St:=⟨R0 ts (fill (dx sk) cd s c).1,aq (fun _=>Obj.none) (fill (dx sk) cd s c).2⟩
def Xv{β:Type}(sk ts:List Nat)(s:Shape)(c:ai s.aS)(k:St->β):xA sk ts s c k=k (j0 sk ts s c):=by simp only[xA,QZ,zej];rfl
section
variable {C:Cx} {X:Nat→Prop} {φ φ':Nat→Addr} {o oc:Nat→Obj} {w:World} {imm:Nat→Prop} {ρ κ:Nat→Nat}
def qoc(ρ κ Ma Mb:Nat->Nat)(s:Sh):∀r c,(lT ρ κ s r c).2=(lT Ma Mb s r c).2:=by
 refine Sh.rec (motive_1:=fun s=>∀r c,(lT ρ κ s r c).2=(lT Ma Mb s r c).2) (motive_2:=fun l=>∀r c,(fH ρ κ l r c).2=(fH Ma Mb l r c).2)
  ?_ ?_ ?_ ?_ ?_ ?_ ?_ ?_ ?_ ?_ ?_ ?_ ?_ ?_ ?_ ?_ ?_ ?_ s
 ·exact fun t r c=>rfl
 ·exact fun i r c=>rfl
 ·exact fun i off r c=>rfl
 ·exact fun t r c=>rfl
 ·exact fun r c=>rfl
 ·exact fun f l ih r c=>ih r c
 ·exact fun r c=>rfl
 ·exact fun l ih r c=>ih r c
 ·exact fun l ih r c=>ih r c
 ·exact fun r c=>rfl
 ·exact fun r c=>rfl
 ·exact fun i r c=>rfl
 ·exact fun i r c=>rfl
 ·exact fun i r c=>rfl
 ·exact fun a r c=>rfl
 ·exact fun t r c=>rfl
 ·exact fun r c=>rfl
 ·intro s l mY mZ r c;exact(congrArg (fun q=>(fH ρ κ l r q).2) (mY (jG l r) c)).trans (mZ r _)
def SE(ρ κ Ma Mb:Nat->Nat):∀(l:List Sh) r c,(fH ρ κ l r c).2=(fH Ma Mb l r c).2
 |[],_,_=>rfl
 |s::l,r,c=>by exact(congrArg (fun q=>(fH ρ κ l r q).2) (qoc ρ κ Ma Mb s (jG l r) c)).trans (SE ρ κ Ma Mb l r _)
def Xw(κ:Nat):Obj->Obj->Prop
 |.none,_=>True
 |.dead,.dead=>True
 |.box _,.box _=>True
 |.vec t v f s,y=>v=0/\y=.vec t κ f s
 |.iter _ _,.iter _ _=>True
 |_,_=>False
def aaf(hl:∀i,Xw (κ i) (oc i) (o (ρ i)))(dZ:∀i,oc i≠.none->oc i≠.dead->φ' (ρ i)=φ i)(s:Sh):∀r c z,ay φ oc imm w (lT cJ cd s r c).1 z->ay φ' o imm w (lT ρ κ s r c).1 z:=by
 refine Sh.rec (motive_1:=fun s=>∀r c z,ay φ oc imm w (lT cJ cd s r c).1 z->ay φ' o imm w (lT ρ κ s r c).1 z)
  (motive_2:=fun l=>∀r c zs,ck φ oc imm w (fH cJ cd l r c).1 zs->ck φ' o imm w (fH ρ κ l r c).1 zs)
  ?_ ?_ ?_ ?_ ?_ ?_ ?_ ?_ ?_ ?_ ?_ ?_ ?_ ?_ ?_ ?_ ?_ ?_ s
 ·exact fun t r c z h=>h
 ·intro i r c z h;replace h:ay φ oc imm w (.aY i 0) z:=h;show ay φ' o imm w (.aY (ρ i) (κ i)) z;have h1:=hl i;have h2:=dZ i;unfold ay at h ⊢;cases e:oc i<;>rw[e] at h h1 h2
  ·cases e2:o (ρ i)<;>rw[e2] at h1<;>first|exact h1.elim|trivial
  ·rename_i t v fr s;obtain⟨hv,h1⟩:v=0/\o (ρ i)=.vec t (κ i) fr s:=h1
   grind
  ·cases e2:o (ρ i)<;>rw[e2] at h1<;>first|exact h1.elim|trivial
  ·exact h.elim
  ·cases e2:o (ρ i)<;>rw[e2] at h1<;>first|exact h1.elim|trivial
 ·intro i off r c z h;replace h:ay φ oc imm w (.ptr i off) z:=h;show ay φ' o imm w (.ptr (ρ i) off) z;have h1:=hl i;have h2:=dZ i;unfold ay at h ⊢;cases e:oc i<;>rw[e] at h h1 h2
  ·cases e2:o (ρ i)<;>rw[e2] at h1<;>first|exact h1.elim|(rw[h2 (by simp) (by simp)];exact h)
  ·rename_i t v fr s;obtain⟨hv,h1⟩:v=0/\o (ρ i)=.vec t (κ i) fr s:=h1
   grind
  ·cases e2:o (ρ i)<;>rw[e2] at h1<;>first|exact h1.elim|trivial
  ·exact h.elim
  ·cases e2:o (ρ i)<;>rw[e2] at h1<;>first|exact h1.elim|(rw[h2 (by simp) (by simp)];exact h)
 ·exact fun t r c z h=>h
 ·exact fun r c z h=>h
 ·exact fun f l ih r c z ⟨cz,h1,h2⟩=>⟨cz,h1,ih _ _ _ h2⟩
 ·exact fun r c z h=>h
 ·exact fun l ih r c z ⟨cz,h1,h2⟩=>⟨cz,h1,ih _ _ _ h2⟩
 ·exact fun l ih r c z ⟨cz,h1,h2⟩=>⟨cz,h1,ih _ _ _ h2⟩
 ·exact fun r c z h=>h
 ·exact fun r c z h=>h
 ·intro i r c z h;replace h:ay φ oc imm w (.cX i c.1) z:=h;show ay φ' o imm w (.cX (ρ i) c.1) z;have h1:=hl i;have h2:=dZ i;unfold ay at h ⊢;cases e:oc i<;>rw[e] at h h1 h2
  ·cases e2:o (ρ i)<;>rw[e2] at h1<;>first|exact h1.elim|(rw[h2 (by simp) (by simp)];exact h)
  ·rename_i t v fr s;obtain⟨hv,h1⟩:v=0/\o (ρ i)=.vec t (κ i) fr s:=h1;rw[h1];trivial
  ·cases e2:o (ρ i)<;>rw[e2] at h1<;>first|exact h1.elim|trivial
  ·exact h.elim
  ·cases e2:o (ρ i)<;>rw[e2] at h1<;>first|exact h1.elim|trivial
 ·intro i r c z h;replace h:ay φ oc imm w (.iM i 0 c.1) z:=h;show ay φ' o imm w (.iM (ρ i) (κ i) c.1) z;have h1:=hl i;have h2:=dZ i;unfold ay at h ⊢;cases e:oc i<;>rw[e] at h h1 h2
  ·cases e2:o (ρ i)<;>rw[e2] at h1<;>first|exact h1.elim|trivial
  ·rename_i t v fr s;obtain⟨hv,h1⟩:v=0/\o (ρ i)=.vec t (κ i) fr s:=h1
   grind
  ·cases e2:o (ρ i)<;>rw[e2] at h1<;>first|exact h1.elim|trivial
  ·exact h.elim
  ·cases e2:o (ρ i)<;>rw[e2] at h1<;>first|exact h1.elim|trivial
 ·intro i r c z h;replace h:ay φ oc imm w (.it i) z:=h;show ay φ' o imm w (.it (ρ i)) z;have h1:=hl i;have h2:=dZ i;unfold ay at h ⊢;cases e:oc i<;>rw[e] at h h1 h2
  ·cases e2:o (ρ i)<;>rw[e2] at h1<;>first|exact h1.elim|trivial
  ·rename_i t v fr s;obtain⟨hv,h1⟩:v=0/\o (ρ i)=.vec t (κ i) fr s:=h1;rw[h1];trivial
  ·cases e2:o (ρ i)<;>rw[e2] at h1<;>first|exact h1.elim|trivial
  ·exact h.elim
  ·cases e2:o (ρ i)<;>rw[e2] at h1<;>first|exact h1.elim|(rw[h2 (by simp) (by simp)];exact h)
 ·exact fun a r c z h=>h
 ·exact fun t r c z h=>h
 ·exact fun r c z h=>h
 ·intro s l mY mZ r c zs ⟨z,zr,e,h1,h2⟩;refine⟨z,zr,e,mY _ _ _ h1,?_⟩;exact(congrArg (fun q=>ck φ' o imm w (fH ρ κ l r q).1 zr) (qoc ρ κ cJ cd s (jG l r) c)).mpr (mZ _ _ _ h2)
def Xx(hl:∀i,Xw (κ i) (oc i) (o (ρ i)))(dZ:∀i,oc i≠.none->oc i≠.dead->φ' (ρ i)=φ i):∀(l:List Sh) r c zs,ck φ oc imm w (fH cJ cd l r c).1 zs->ck φ' o imm w (fH ρ κ l r c).1 zs
 |[],_,_,_,h=>h
 |s::l,r,c,zs,⟨z,zr,e,h1,h2⟩=>by refine⟨z,zr,e,aaf hl dZ s _ _ _ h1,?_⟩;exact(congrArg (fun q=>ck φ' o imm w (fH ρ κ l r q).1 zr) (qoc ρ κ cJ cd s (jG l r) c)).mpr (Xx hl dZ l _ _ _ h2)
end
def quy{o:Nat->Obj}{psF:PS}:∀(l:List fS) (i:Nat) (os:List (Nat×Obj)) (o':Nat->Obj),zg5 o psF i l os->(∀j sh,l[j]?=some sh->Gu o psF (i+j) sh (aq o' os (i+j)))/\(∀j,(j<i\/i+l.length<=j)->aq o' os j=o' j)
 |[],i,os,o',h=>by have h:os=[]:=h;subst h;exact⟨fun j sh hj=>by simp at hj,fun j _=>rfl⟩
 |s::l,i,os,o',⟨ob,r,e,h1,h2⟩=>by
  subst e;obtain⟨a1,a2⟩:=quy l (i+1) r (cy o' i ob) h2;refine⟨fun j sh hj=>?_,fun j hj=>?_⟩
  ·cases j with
   |zero=>simp only[List.getElem?_cons_zero,zB] at hj;subst hj;show Gu o psF i s (aq (cy o' i ob) r i);rw[a2 i (.inl om),eQ];exact h1
   |succ j=>have:=a1 j sh (by simpa using hj);rw[show i+1+j=i+(j+1) by omega] at this;exact this
  ·show aq (cy o' i ob) r j=o' j;simp only[zu] at hj;rw[a2 j om,jI om]
def ba(s:Shape)(c:ai s.aS):Nat->Obj:=aq (fun _=>Obj.none) (fill cJ cd s c).2
def SF{o:Nat->Obj}{aT:List (Nat×Nat)}{s:Shape}{vs:List V}{ps:PS}{c:ai s.aS}(h:pack lf o aT s vs=some (ps,c)):bU o ps s.aw.length s.aw (ba s c)/\∃ox f,oq lf o s.roots vs ⟨aT,[],[],[]⟩=some (ox,f)/\fj ox ps/\∃q,c=f _ q:=by
 unfold pack at h;split at h
 ·rename_i ox f h1;split at h
  ·rename_i QW g h2;cases hb:LC s.aw.length QW with
   |false=>rw[hb] at h;cases h
   |true=>
    rw[hb] at h;injection h with h;injection h with h3 h4;subst h3;obtain⟨m1,e1⟩:=QX s.roots _ _ _ _ h1;obtain⟨m2,e2⟩:=SD (psF:=QW) s.aw 0 _ _ _ h2;have he:=e2 (.refl _) [] ();have hc:ba s c=aq (fun _=>Obj.none) (gf cJ cd 0 s.aw [] (g [] ())):=by unfold ba fill;simp only;rw[<-h4,e1]
    obtain⟨a1,a2⟩:=quy _ _ _ (fun _=>Obj.none) he;refine⟨⟨hb,rfl,fun i sh hi=>?_,fun i hi=>?_⟩,ox,f,h1,m2,_,h4.symm⟩
    all_goals simp_all
  ·cases h
 ·cases h
def qy0{C:Cx}{X:Nat->Prop}{φ:Nat->Addr}{o:Nat->Obj}{w:World}(hm:MRel C X φ o w){aT:List (Nat×Nat)}{s:Shape}{vs:List V}{zs:List Value}{ps:PS}{c:ai s.aS}(h:pack lf o aT s vs=some (ps,c))(hr:ck φ o (aj X φ o w) w vs zs):MRel C (XC X φ o (ba s c) ps) (ft φ ps) (ba s c) w/\ck (ft φ ps) (ba s c) (aj (XC X φ o (ba s c) ps) (ft φ ps) (ba s c) w) w (fill cJ cd s c).1 zs:=by obtain⟨hp,ox,f,h1,h2,q,h3⟩:=SF h;refine⟨hp.mem hm,?_⟩;have:=zg7 hm hp s.roots _ _ _ _ _ hr h1 h2 _ q;rw[<-h3] at this;exact this
def lC(sk:List Nat):Prop:=∃inv:Nat->Nat,∀j,inv (dx sk j)=j
def lC.inj{sk:List Nat}(h:lC sk):∀i j,dx sk i=dx sk j->i=j:=fun i j e=>by obtain⟨inv,h⟩:=h;rw[<-h i,<-h j,e]
def iW{j:Nat}:∀{l:List Nat},bQ j l=true↔j∈l
 |[]=>⟨fun h=>(by cases h),fun h=>(by cases h)⟩
 |b::r=>by
  simp only[bQ];cases hb:Nat.beq b j with
  |true=>simp_all
  |false=>
   have hc:b≠j:=fun e=>by rw[e,Nat.beq_refl] at hb;cases hb
   rw[cond_false,iW (l:=r),zk]
   grind
def qiw{k:Nat}:∀{sk:List Nat},Qw k sk=true->(∀id,id∈sk->id<k/\id<1000000)/\sk.Nodup
 |[],_=>⟨fun id h=>(by cases h),List.nodup_nil⟩
 |b::r,h=>by
  simp only[Qw,ze,Nat.blt_eq] at h;obtain⟨⟨⟨h1,h2⟩,h3⟩,h4⟩:=h;obtain⟨g1,g2⟩:=qiw h4;refine⟨fun id hi=>?_,List.nodup_cons.2 ⟨fun hm=>?_,g2⟩⟩
  ·rcases zk.1 hi with rfl|hi
   ·exact⟨h1,h2⟩
   ·exact g1 id hi
  ·rw[iW.2 hm] at h3;cases h3
def z6w{k:Nat}{sk:List Nat}(h:Qw k sk=true):lC sk:=by
 obtain⟨g1,g2⟩:=qiw h;have inj:∀i j,dx sk i=dx sk j->i=j:=fun i j e=>by
  unfold dx at e;split at e
  ·rename_i a ha;split at e
   ·rename_i b hb;subst e;obtain⟨hi,ea⟩:=zE.1 ha;obtain⟨hj,eb⟩:=zE.1 hb;exact(List.getElem_inj (h₀:=hi) (h₁:=hj) g2).1 (by rw[ea,eb])
   ·have:=(g1 a (zv ha)).2;omega
  ·split at e
   ·rename_i b hb;have:=(g1 b (zv hb)).2;omega
   ·omega
 refine⟨fun id=>by
  classical
  exact if h:∃j,dx sk j=id then h.choose else 0,fun j=>?_⟩
 have hx:∃i,dx sk i=dx sk j:=⟨j,rfl⟩
 grind
def quz:∀{sk:List Nat} {n i id:Nat},sk[i]?=some id->(n+i,id)∈vL n sk
 |[],_,i,_,h=>by simp at h
 |b::r,n,i,id,h=>by
  cases i with
  |zero=>simp only[List.getElem?_cons_zero,zB] at h;subst h;exact zg ..
  |succ i=>have:=quz (n:=n+1) (i:=i) (by simpa using h);rw[show n+1+i=n+(i+1) by omega] at this;exact zh _ this
def qod:∀{sk:List Nat} {id:Nat},id∈sk->(id,id)∈qx8 sk
 |b::r,id,h=>by
  rcases zk.1 h with rfl|h
  ·exact zg ..
  ·exact zh _ (qod h)
def qoe{o:Nat->Obj}:∀{sk:List Nat},BV o sk=true->∀id,id∈sk->Ww o id=true
 |b::r,h,id,hi=>by
  simp only[BV,ze] at h;rcases zk.1 hi with rfl|hi
  ·exact h.1
  ·exact qoe h.2 id hi
def qla{cut:List (Nat×Nat)}:∀{sk:List Nat},RL cut sk=true->∀id,id∈sk->iO id cut=none
 |b::r,h,id,hi=>by
  simp only[RL,ze] at h;rcases zk.1 hi with rfl|hi
  ·exact Xs h.1
  ·exact qla h.2 id hi
def qqu{sk:List Nat}{aT:List (Nat×Nat)}{o:Nat->Obj}{s:Shape}{vs:List V}{p:PS×ai s.aS}(h:LJ lf sk aT o s vs=some p):pack lf o aT s vs=some p/\BV o sk=true/\RL p.1.cut sk=true:=by
 unfold LJ at h
 grind
def z0d{o:Nat->Obj}{aT:List (Nat×Nat)}{s:Shape}{vs:List V}{ps:PS}{c:ai s.aS}(h:pack lf o aT s vs=some (ps,c)):∀p,p∈aT->p∈ps.aT:=by obtain⟨_,ox,f,h1,h2,_⟩:=SF h;exact fun p hp=>h2.aT p ((QX s.roots _ _ _ _ h1).1.aT p hp)
def z6x{φ:Nat->Addr}{o oc:Nat->Obj}{w:World}{psF:PS}{k:Nat}{aw:List fS}(h:bU o psF k aw oc){i id:Nat}(hp:(i,id)∈psF.aT)(hk:Ww o id=true)(hc:iO id psF.cut=none):Up w w (φ id) (ft φ psF i) (o id) (oc i):=by
 rcases Gy (φ:=φ) h hp with hd|⟨⟨cs,lW,e1,e2⟩|⟨t',ver,s,e1,e2⟩|⟨_,_,e1,e2⟩,dZ⟩
 ·rw[hd];cases o id<;>trivial
 ·rw[e1,e2];exact dZ
 ·rw[e1,e2,hc];unfold Ww at hk;rw[e1] at hk;have hv:ver=0:=zj hk;exact .inr ⟨hv,rfl,rfl,rfl,dZ,fun _=>⟨rfl,fun _ _ n hr=>hr⟩⟩
 ·rw[e1,e2];exact dZ
def ObR(ρ:Nat->Nat)(a b:Obj):Prop:=(∃l r c,a=.box (fH cJ cd l r c).1/\b=.box (fH ρ cd l r c).1)\/(a=b/\∀cs,a≠.box cs)
def z6y(ρ:Nat->Nat)(i:Nat)(s:fS)(r:List Ty)(c:ai (Qu s r)):ObR ρ (fI cJ cd i s r c).1 (fI ρ cd i s r c).1/\(fI ρ cd i s r c).2=(fI cJ cd i s r c).2:=by
 cases s with
 |box l=>exact⟨.inl ⟨l,r,c,rfl,rfl⟩,SE ρ cd cJ cd l r c⟩
 |vec t=>exact⟨.inr ⟨rfl,fun _ h=>by cases h⟩,rfl⟩
 |iter=>exact⟨.inr ⟨rfl,fun _ h=>by cases h⟩,rfl⟩
 |gone=>exact⟨.inr ⟨rfl,fun _ h=>by cases h⟩,rfl⟩
def qqv(ρ:Nat->Nat)(cW:∀i j,ρ i=ρ j->i=j):∀(l:List fS) (i:Nat) (r:List Ty) (c:ai (bY l r)) (o1 o2:Nat->Obj),(∀j,i<=j->j<i+l.length->ObR ρ (aq o1 (gf cJ cd i l r c) j) (aq o2 (gf ρ cd i l r c) (ρ j)))/\(∀j,(j<i\/i+l.length<=j)->aq o1 (gf cJ cd i l r c) j=o1 j)/\(∀id,(∀j,i<=j->j<i+l.length->ρ j≠id)->aq o2 (gf ρ cd i l r c) id=o2 id)
 |[],i,r,c,o1,o2=>⟨fun j h1 h2=>absurd h2 (by simp;omega),fun _ _=>rfl,fun _ _=>rfl⟩
 |s::l,i,r,c,o1,o2=>by
  obtain⟨e1,e2⟩:=z6y ρ i s (bY l r) c;obtain⟨a1,a2,a3⟩:=qqv ρ cW l (i+1) r (fI cJ cd i s (bY l r) c).2 (cy o1 i (fI cJ cd i s (bY l r) c).1) (cy o2 (ρ i) (fI ρ cd i s (bY l r) c).1);have f1:∀j,aq o1 (gf cJ cd i (s::l) r c) j=aq (cy o1 i (fI cJ cd i s (bY l r) c).1) (gf cJ cd (i+1) l r (fI cJ cd i s (bY l r) c).2) j:=fun _=>rfl;have f2:∀id,aq o2 (gf ρ cd i (s::l) r c) id=aq (cy o2 (ρ i) (fI ρ cd i s (bY l r) c).1) (gf ρ cd (i+1) l r (fI cJ cd i s (bY l r) c).2) id:=fun id=>(congrArg (fun q=>aq (cy o2 (ρ i) (fI ρ cd i s (bY l r) c).1) (gf ρ cd (i+1) l r q) id) e2);refine⟨fun j h1 h2=>?_,fun j hj=>?_,fun id hc=>?_⟩
  ·rw[f1,f2];simp only[zu] at h2;by_cases he:j=i
   ·subst he;rw[a2 j (.inl om),a3 (ρ j) (fun q hq _ e=>by have:=cW _ _ e;omega),eQ,eQ];exact e1
   ·exact a1 j om om
  ·rw[f1];simp only[zu] at hj;rw[a2 j om,jI om]
  ·rw[f2];simp only[zu] at hc;rw[a3 id (fun q h1 h2=>hc q om om),jI];exact fun e=>hc i (Nat.le_refl _) om e.symm
section
variable {C:Cx} {X:Nat→Prop} {φ:Nat→Addr} {w:World} {s:Shape} {c:ai s.aS} {sk:List Nat} {inv:Nat→Nat}
def zek(hc:∀i j,dx sk i=dx sk j->i=j)(ts:List Nat)(s:Shape)(c:ai s.aS):(∀j,j<s.aw.length->ObR (dx sk) (ba s c j) ((j0 sk ts s c).obj (dx sk j)))/\(∀j,s.aw.length<=j->ba s c j=.none)/\(∀id,(∀j,j<s.aw.length->dx sk j≠id)->(j0 sk ts s c).obj id=.none):=by
 obtain⟨a1,a2,a3⟩:=qqv (dx sk) hc s.aw 0 [] (fH cJ cd s.roots (bY s.aw []) c).2 (fun _=>.none) (fun _=>.none);have e:(j0 sk ts s c).obj=aq (fun _=>.none) (gf (dx sk) cd 0 s.aw [] (fH cJ cd s.roots (bY s.aw []) c).2):=congrArg (fun q=>aq (fun _=>Obj.none) (gf (dx sk) cd 0 s.aw [] q)) (SE (dx sk) cd cJ cd s.roots (bY s.aw []) c);refine⟨fun j hj=>?_,fun j hj=>a2 j (.inr om),fun id he=>?_⟩
 ·rw[e];exact a1 j (Nat.zero_le _) om
 simp_all
def qqw(ρ:Nat->Nat):∀(l:List fS) (i:Nat) (r:List Ty) (c:ai (bY l r)) (o:Nat->Obj),(∀j t v f s,o j=.vec t v f s->v=0)->∀j t v f s,aq o (gf ρ cd i l r c) j=.vec t v f s->v=0
 |[],i,r,c,o,h=>h
 |s::l,i,r,c,o,h=>by
  refine qqw ρ l (i+1) r (fI ρ cd i s (bY l r) c).2 (cy o (ρ i) (fI ρ cd i s (bY l r) c).1) ?_;intro j t v f s' e;by_cases hj:j=ρ i
  ·subst hj;rw[eQ] at e;cases s with
   |box l=>cases e
   |gone=>cases e
   |iter=>cases e
   |vec t=>injection e with _ e;exact e.symm
  ·rw[jI hj] at e;exact h _ _ _ _ _ e
def z0e{s:Shape}{c:ai s.aS}{j:Nat}{t:Ty}{v:Nat}{f:Bool}{x:Sl (den t)}(h:ba s c j=.vec t v f x):v=0:=qqw cJ s.aw 0 [] _ (fun _=>.none) (fun _ _ _ _ _ e=>by cases e) j t v f x h
def qqx(ρ κ:Nat->Nat):∀(l:List Sh) (r:List Ty) (c:ai (jG l r)),qn (fH ρ κ l r c).1=qn (fH cJ cd l r c).1
 |[],_,_=>rfl
 |s::l,r,c=>by show qn ((lT ρ κ s (jG l r) c).1::_)=qn ((lT cJ cd s (jG l r) c).1::_);cases s<;>rfl
def zip(hf:∀j,inv (dx sk j)=j)(ts:List Nat)(hm:MRel C X φ (ba s c) w):MRel C X (fun id=>φ (inv id)) (j0 sk ts s c).obj w/\(∀b,oG (fun id=>φ (inv id)) (j0 sk ts s c).obj b↔oG φ (ba s c) b)/\(∀zs,ck φ (ba s c) (aj X φ (ba s c) w) w (fill cJ cd s c).1 zs->ck (fun id=>φ (inv id)) (j0 sk ts s c).obj (aj X (fun id=>φ (inv id)) (j0 sk ts s c).obj w) w (fill (dx sk) cd s c).1 zs):=by
 obtain⟨a1,a2,a3⟩:=zek (fun i j e=>by rw[<-hf i,<-hf j,e]) ts s c;generalize ho:(j0 sk ts s c).obj=o at*
 have dZ:∀j,(fun id=>φ (inv id)) (dx sk j)=φ j:=fun j=>by simp only[hf]
 have ht:∀j a,j<s.aw.length->aV a (o (dx sk j))=aV a (ba s c j):=fun j a hj=>by
  rcases a1 j hj with ⟨l,r,q,e1,e2⟩|⟨e1,_⟩
  ·rw[e1,e2];rfl
  ·rw[e1]
 have hl:∀id,(∃j,j<s.aw.length/\dx sk j=id)\/o id=.none:=fun id=>by grind
 have hB:∀j a,aV a (ba s c j)=true->j<s.aw.length:=fun j a hx=>zA fun h=>by rw[a2 j om] at hx;exact mT hx
 have hu:∀b,oG (fun id=>φ (inv id)) o b↔oG φ (ba s c) b:=fun b=>by
  constructor
  ·rintro⟨id,e1,e2⟩;rcases hl id with ⟨j,hj,rfl⟩|h
   ·simp only[hf] at e1;exact⟨j,by rw[<-ht j _ hj];exact e1,by rw[<-dZ j];exact e2⟩
   ·rw[h] at e1;exact(mT e1).elim
  ·rintro⟨j,e1,e2⟩;exact⟨dx sk j,by simp only[hf];rw[ht j _ (hB j _ e1)];exact e1,by rw[dZ];exact e2⟩
 have hy:∀b,aj X φ (ba s c) w b↔aj X (fun id=>φ (inv id)) o w b:=fun b=>by unfold aj;rw[hu b]
 have hA:∀i,Xw (cd i) (ba s c i) (o (dx sk i)):=fun i=>by
  by_cases hi:i<s.aw.length
  ·rcases a1 i hi with ⟨l,r,q,e1,e2⟩|⟨e1,e2⟩
   ·rw[e1,e2];trivial
   ·rw[<-e1];cases hc:ba s c i with
    |vec t v f s'=>exact⟨z0e hc,by rw[z0e hc]⟩
    |box cs=>exact absurd hc (e2 _)
    |dead=>trivial
    |none=>trivial
    |iter l p=>trivial
  ·rw[a2 i om];trivial
 have hv:(fun b=>aj X φ (ba s c) w b)=aj X (fun id=>φ (inv id)) o w:=funext fun b=>propext (hy b);have hk:aj X φ (ba s c) w=aj X (fun id=>φ (inv id)) o w:=hv;refine⟨⟨fun id=>?_,fun i j hi hj e=>?_,fun i hi=>?_,hm.xs,fun id=>?_,fun g t x hg=>?_,hm.QN⟩,hu,fun zs hz=>?_⟩
 ·rcases hl id with ⟨j,hj,rfl⟩|h
  ·have hq:=hm.aw j;rcases a1 j hj with ⟨l,r,q,e1,e2⟩|⟨e1,e2⟩
   ·rw[e1] at hq;rw[e2];obtain⟨h1,cz,el,lo,hw,h2,h3,h4⟩:=hq;refine⟨by rw[dZ];exact h1,cz,el,lo,hw,by rw[dZ];exact h2,h3,?_⟩;rw[hk] at h4;exact Xx (φ':=fun id=>φ (inv id)) hA (fun i _ _=>dZ i) l r q _ h4
   ·rw[<-e1];cases hc:ba s c j with
    |box cs=>exact absurd hc (e2 _)
    |dead=>trivial
    |none=>trivial
    |iter l p=>rw[hc] at hq;obtain⟨s',n,h1,h2⟩:=hq;exact⟨s',n,by rw[dZ];exact h1,h2⟩
    |vec t ver fr sl=>rw[hc] at hq;obtain⟨h1,h2,h3⟩:=hq;rw[hk] at h3;refine⟨h1,h2,fun hn=>?_⟩;rw[dZ];exact h3 hn
  ·rw[h];trivial
 ·rcases hl i with ⟨i',hw,rfl⟩|h
  ·rcases hl j with ⟨j',hC,rfl⟩|h
   ·have hr:∀j,inv (dx sk j)=j:=hf;simp only[hr] at e hi hj;rw[hm.inj i' j' (by rw[<-ht i' _ hw];exact hi) (by rw[<-ht j' _ hC];exact hj) e]
   ·rw[h] at hj;exact(mT hj).elim
  ·rw[h] at hi;exact(mT hi).elim
 ·rcases hl i with ⟨i',hw,rfl⟩|h
  ·have hr:∀j,inv (dx sk j)=j:=hf;simp only[hr] at hi ⊢;exact hm.sep i' (by rw[<-ht i' _ hw];exact hi)
  ·rw[h] at hi;exact(mT hi).elim
 ·rcases hl id with ⟨j,hj,rfl⟩|h
  ·have he:=hm.rK j;show iT C w (φ (inv (dx sk j))) (o (dx sk j));rw[hf];rcases a1 j hj with ⟨l,r,q,e1,e2⟩|⟨e1,e2⟩
   ·rw[e1] at he;rw[e2];exact fun hs=>he (by rw[<-qqx (dx sk) cd];exact hs)
   ·rw[<-e1];exact he
  ·rw[h];trivial
 ·obtain⟨a,cs,h1,h2,h3,h4,h5⟩:=hm.fe g t x hg;rw[hk] at h3 h4;exact⟨a,cs,h1,h2,h3,h4,h5⟩
 ·rw[hk] at hz;exact Xx (φ':=fun id=>φ (inv id)) hA (fun i _ _=>dZ i) s.roots _ _ _ hz
def z6z{φ:Nat->Addr}{o:Nat->Obj}{imm:Nat->Prop}{g:Nat->Value}:∀(ts:List Nat) (vs:List V),ck φ o imm w vs (ts.map g)->∀t,ay φ o imm w (R0 ts vs t) (g t)
 |[],_,_,_=>by cases ‹List V›<;>trivial
 |t'::ts,vs,h,t=>by
  cases vs with
  |nil=>trivial
  |cons v vs=>
   obtain⟨z,r,e,h1,h2⟩:=h;injection e with e1 e2;show ay φ o imm w (cy (R0 ts vs) t' v t) (g t);by_cases ht:t=t'
   ·subst ht;rw[eQ,e1];exact h1
   ·rw[jI ht];exact z6z ts vs (e2▸h2) t
end
structure dC (sk:List Nat) (eJ:Nat->Addr) (o0:Nat->Obj) (w0:World) (φ:Nat->Addr) (o:Nat->Obj) (w:World):Prop where
 size:w0.heap.size<=w.heap.size
 frame:∀b,b<w0.heap.size->¬oG eJ o0 b->w.heap[b]?=w0.heap[b]?
 news:∀b,oG φ o b->w0.heap.size<=b\/oG eJ o0 b
 still:xB w0 w
 up:∀id,id∈sk->Up w0 w (eJ id) (φ id) (o0 id) (o id)
def dC.refl(sk:List Nat)(eJ:Nat->Addr)(o0:Nat->Obj)(w0:World):dC sk eJ o0 w0 eJ o0 w0:=⟨Nat.le_refl _,fun _ _ _=>rfl,fun _ h=>.inr h,⟨rfl,rfl⟩,fun _ _=>Up.same fun _ _ h=>h⟩
def dC.step{C:Cx}{X:Nat->Prop}{eJ φ φ':Nat->Addr}{o0 o:Nat->Obj}{w0 w w':World}{u:List (Nat×Obj)}{v:V}{z:Value}{sk:List Nat}(h:dC sk eJ o0 w0 φ o w)(hc:Comes C X φ φ' o u w w' v z):dC sk eJ o0 w0 φ' (aq o u) w':=by
 refine⟨Nat.le_trans h.size hc.size,fun b hb hn=>?_,fun b ⟨id,e1,e2⟩=>?_,⟨hc.still.1.trans h.still.1,hc.still.2.trans h.still.2⟩,fun id hi=>(h.up id hi).trans (hc.up id)⟩
 ·rw[hc.frame b (Nat.lt_of_lt_of_le hb h.size),h.frame b hb hn];rintro⟨id,_,e1,e2⟩;rcases h.news b ⟨id,e1,e2⟩ with h1|h1
  ·omega
  ·exact hn h1
 ·rcases hc.news id e1 with h1|h1
  ·exact .inl (by have:=h.size;omega)
  ·rw[e2] at h1;exact h.news b h1
def SG{C:Cx}{nt:Nat}{X:Nat->Prop}{φ eJ:Nat->Addr}{o0:Nat->Obj}{w0:World}{st:St}{a:Act}{w:World}{sk:List Nat}(hj:lC sk)(h:Rel C nt X φ st a w)(hh:dC sk eJ o0 w0 φ st.obj w){s:Shape}{ts:List Nat}{ps:PS}{c:ai s.aS}(hp:LJ lf sk (vL 0 sk) st.obj s (ts.map fun t=>dO (st.env t))=some (ps,c)):∃eZ X2,(∀b,X b->X2 b)/\Rel C nt X2 eZ (j0 sk ts s c) a w/\dC sk eJ o0 w0 eZ (j0 sk ts s c).obj w:=by
 obtain⟨hk,hm,he⟩:=qqu hp;clear hp;have hp:=hk;clear hk;have hf:=hj.inj;obtain⟨inv,hc⟩:=hj;have hv:ck φ st.obj (aj X φ st.obj w) w (ts.map fun t=>dO (st.env t)) (ts.map fun t=>a.tmps.getD t undef):=by
  clear hp
  induction ts with
  |nil=>rfl
  |cons t ts ih=>exact⟨_,_,rfl,R9 (h.env t),ih⟩
 obtain⟨h1,h2⟩:=qy0 h.toMRel hp hv;obtain⟨hg,_⟩:=SF hp;obtain⟨g1,g2,g3⟩:=zip hc ts h1;refine⟨_,_,fun b hb=>.inl hb,⟨g1,h.size,fun t=>?_,h.defers⟩,⟨hh.size,hh.frame,fun b hb=>hh.news b (hg.nk ((g2 b).1 hb)),hh.still,fun id hi=>(hh.up id hi).trans ?_⟩⟩
 ·exact z6z ts _ (g3 _ h2) t
 ·obtain⟨i,hn,hq⟩:=List.mem_iff_getElem.1 hi;have hl:sk[i]?=some id:=by rw[zf hn,hq]
  have e:dx sk i=id:=by unfold dx;rw[hl]
  have hr:(i,id)∈ps.aT:=z0d hp _ (by have:=quz (n:=0) hl;rwa [zC] at this);have hu:=z6x (φ:=φ) (w:=w) hg hr (qoe hm id hi) (qla he id hi);have dZ:ft φ ps (inv id)=ft φ ps i:=by rw[<-e,hc]
  obtain⟨a1,_⟩:=zek hf ts s c;have ha:=a1 i (hg.aT hr).1;rw[e] at ha;show Up w w (φ id) (ft φ ps (inv id)) (st.obj id) _;rw[dZ];rcases ha with ⟨l,r,q,e1,e2⟩|⟨e1,_⟩
  ·rw[e2];rw[e1] at hu;cases ho:st.obj id<;>rw[ho] at hu<;>exact hu
  ·rw[<-e1];exact hu
end Ev