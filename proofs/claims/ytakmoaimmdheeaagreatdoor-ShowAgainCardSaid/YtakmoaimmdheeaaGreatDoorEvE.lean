/- All operations are sound; the frame rule; packing. No statement of its own about the program. -/
import Derived.Test.YtakmoaimmdheeaaGreatDoorEvD
namespace Ev
open Go
section
variable {C:Cx} {X:Nat→Prop} {φ:Nat→Addr} {o:Nat→Obj} {w:World} {imm:Nat→Prop} {R:iX C.sigs} {env:Nat→V} {ρ:Operand→Value}
def ej(C:Cx)(X:Nat->Prop)(φ:Nat->Addr)(o:Nat->Obj)(w:World)(v:V)(u:List (Nat×Obj))(r:Result Next):Prop:=
 (∃val w' φ',r=.ok (.value val) w'/\Comes C X φ φ' o u w w' v val)\/
 (∃w' φ',r=.ok .skip w'/\Comes C X φ φ' o u w w' v undef)\/
 (∃f args,r=.ok (.enter f args) w/\Calls C.P f args w fun e w'=>∃val φ',e=.returned val/\Comes C X φ φ' o u w w' v val)
theorem ej.upon{v:V}{u:List (Nat×Obj)}{r:Result Next}(h:ej C X φ o w v u r){op:Oper}{a:Act}{next:Act->World->Prop}{Q:Exit->Act->World->Prop}(hn:∀val w' φ',Comes C X φ φ' o u w w' v val->next (a.put op.dst val) w'):op.upon C.P a next Q r:=by
 rcases h with ⟨val,w',φ',rfl,hc⟩|⟨w',φ',rfl,hc⟩|⟨f,args,rfl,hc⟩
 ·exact hn _ _ _ hc
 ·exact hn _ _ _ hc
 ·refine Calls.mono hc fun e w' h=>?_;obtain⟨val,φ',rfl,h⟩:=h;exact hn _ _ _ h
theorem dY.bZ{v:V}{u:List (Nat×Obj)}{s:Sem Value}(h:dY C X φ o w v u s):ej C X φ o w v u ((do pure (Next.value (<-s)):Sem Next).run C.P w):=by obtain⟨val,w',φ',h1,h2⟩:=h;exact .inl ⟨val,w',φ',by simp[h1],h2⟩
theorem wa.bZ{v:V}{u:List (Nat×Obj)}{s:Sem Unit}(h:wa C X φ o w v u s):ej C X φ o w v u ((do s;pure Next.skip:Sem Next).run C.P w):=by obtain⟨w',φ',h1,h2⟩:=h;exact .inr (.inl ⟨w',φ',by simp[h1],h2⟩)
theorem ej.same(hm:MRel C X φ o w){v:V}{z:Value}(h:aq φ o (ah X φ o w) w v z):ej C X φ o w v [] (.ok (.value z) w):=.inl ⟨z,w,φ,rfl,.same hm h⟩
theorem qqk{op:BinOp}{t:TypeId}{x y:V}{zx zy:Value}{v:V}{u:List (Nat×Obj)}(hl:∀id,oV φ o imm w id (o id))(hx:aq φ o imm w x zx)(hy:aq φ o imm w y zy)(h:(Hm lf C o op t x y).aE v u):Xs zx=true\/(bJ t C.eqs=true/\∃xs ys,zx=.agg xs/\zy=.agg ys):=by
 unfold Hm at h;split at h
 ·obtain⟨rfl,_⟩:=lG hx;exact .inl rfl
 ·obtain⟨s,rfl,_⟩:=nV hx;exact .inl rfl
 ·have:=I8 hx;subst this;exact .inl rfl
 ·have:=HA hx;subst this;exact .inl rfl
 ·have:=oX hx;subst this;exact .inl rfl
 ·split at h
  ·rw[dU,ze] at h;obtain⟨xs,rfl,_⟩:=hx;obtain⟨ys,rfl,_⟩:=hy;exact .inr ⟨h.1.1,xs,ys,rfl,rfl⟩
  ·cases h
 ·obtain⟨_,h2⟩:=Dg hx;rcases h2 with ⟨_,_,rfl⟩|⟨_,a,cap,ec,rfl,_⟩<;>exact .inl rfl
 ·have:zx=.slice none 0 0:=hx;subst this;exact .inl rfl
 ·obtain⟨c,rfl,_⟩:=hx;exact .inl rfl
 ·have:zx=.nilFunc:=hx;subst this;exact .inl rfl
 ·rename_i a k n;have hx:tQ imm w a k n zx:=hx;rcases MD a hx with ⟨rfl,_⟩|⟨_,_,rfl,_⟩<;>exact .inl rfl
 ·have:zx=.pointer none:=hx;subst this;exact .inl rfl
 ·rw[dU,ze] at h;obtain⟨a,rfl⟩:=P6 hx h.1.2;exact .inl rfl
 ·split at h
  ·rename_i e s he;rcases Xq hx he hl with ⟨_,_,rfl⟩|⟨_,a,cap,rfl⟩<;>exact .inl rfl
  ·cases h
 ·cases h
theorem z2i(hE:kP C)(hm:MRel C X φ o w){op:BinOp}{t:TypeId}{x y:Operand}{vx vy:V}{v:V}{u:List (Nat×Obj)}(hx:aq φ o (ah X φ o w) w vx (ρ x))(hy:aq φ o (ah X φ o w) w vy (ρ y))(h:(Hm lf C o op t vx vy).aE v u):dY C X φ o w v u (do eqGuard op t x y (ρ x) (ρ y);binOp op t (ρ x) (ρ y)):=by
 have h1:=z29 hm.ay hx hy (fun t p a b xs ys=>hE.eq w _ t p a b xs ys) h;obtain⟨hu,val,h2,h3⟩:=h1;refine dY.aR hm ⟨hu,val,?_,h3⟩;rcases qqk hm.ay hx hy h with hg|⟨hg,xs,ys,e1,e2⟩
 ·simp[qq7 hg,h2]
 ·rw[e1,e2] at h2 ⊢;simp[run_eqGuard_agg w op t x y xs ys (hE.guard t hg),h2]
theorem Js(cP:∀x,aq φ o imm w (cv C env x) (ρ x)):∀(l:List Operand),cd φ o imm w (l.map (cv C env)) (l.map ρ)
 |[]=>rfl
 |x::l=>⟨_,_,rfl,cP x,Js cP l⟩
theorem QC(cP:∀x,aq φ o imm w (cv C env x) (ρ x)):∀(l:List (Nat×Operand)),An φ o imm w (l.map fun p=>(p.1,cv C env p.2)) (l.map fun p=>(p.1,ρ p.2))
 |[]=>rfl
 |x::l=>⟨_,_,rfl,cP x.2,QC cP l⟩
theorem QD(cP:∀x,aq φ o imm w (cv C env x) (ρ x))(x:Option Operand):v7 φ o imm w (x.map (cv C env)) (x.map ρ):=by
 cases x with
 |none=>trivial
 |some x=>exact cP x
theorem Ym{xs:Array Operand}{ρ:Operand->Value}{l:List Operand}(h:xs.toList=l):xs.map ρ=(l.map ρ).toArray:=by rw[<-h,<-Array.toList_map,Array.toArray_toList]
def Bb(C:Cx)(R:iX C.sigs)(X:Nat->Prop)(φ:Nat->Addr)(o:Nat->Obj)(w:World)(fr f:Nat):Prop:=
 ∀(vs:List V) (zs:List Value) (v:V) (u:List (Nat×Obj)),cd φ o (ah X φ o w) w vs zs->(Af lf C R o fr f vs C.sigs 0).aE v u->kO fr o u->
  (∃fn,C.P.funcs[f]?=some fn/\(fn.name== "runtime.NumGoroutine")=false/\fn.body.isNone=false)/\
  Calls C.P f zs.toArray w fun e w'=>∃val φ',e=.returned val/\Comes C X φ φ' o u w w' v val
theorem Yn(hm:MRel C X φ o w)(cP:∀x,aq φ o (ah X φ o w) w (cv C env x) (ρ x)){fr:Nat}{ty:TypeId}{v:V}{u:List (Nat×Obj)}(x:Operand)(h:(IT C fr ty (cv C env x)).aE v u)(hf:kO fr o u):ej C X φ o w v u (.ok (.value (ρ x)) w):=by
 have hx:=cP x;unfold IT at h;split at h
 ·rename_i e1;rw[e1] at hx;split at h
  ·rename_i e _;rw[dR] at h;obtain⟨rfl,rfl⟩:=h;have hc:o fr=.none:=hf _ (zf ..) (Nat.le_refl _) (by show fr<fr+16;omega);refine .inl ⟨_,w,φ,rfl,Comes.write hm (.vec e 0 false ⟨true,[]⟩) (by simp[aP,live]) rfl (fun _ _=>rfl) (HM hc _) (fun _ _ _=>⟨Nat.zero_le _,fun _=>rfl,fun h=>by simp at h⟩) (fun _ h=>by simp at h) (fun he=>?_)⟩;unfold aq;rw[he];exact⟨Nat.le_refl _,fun _=>.inl ⟨rfl,hx⟩⟩
  ·rw[dR] at h;obtain⟨rfl,rfl⟩:=h;exact .same hm hx
 ·rw[dR] at h;obtain⟨rfl,rfl⟩:=h;exact .same hm hx
theorem z7e(hm:MRel C X φ o w)(cP:∀x,aq φ o (ah X φ o w) w (cv C env x) (ρ x)){v:V}{u:List (Nat×Obj)}{c a b:Operand}{dst:Option Tmp}{ty:TypeId}{pos:String}{after:Array Edge}{guard:Option (Nat×Bool)}{fr:Nat}(h:(dE lf C R env o fr ty (.pick c a b)).aE v u):ej C X φ o w v u ((execOp ρ ⟨dst,.pick c a b,ty,pos,after,guard⟩).run C.P w):=by
 have hc:=cP c;have key:∀x,(AW C env c=.lb x\/AW C env c=.d .bool x)->cv C env c=.d .bool x:=by
  intro x h;cases c with
  |tmp t=>show eg (env t)=_;have h:env t=.lb x\/env t=.d .bool x:=h;rcases h with h|h<;>rw[h]<;>rfl
  |const z=>
   rcases h with h|h
   ·exfalso;have h:C8 z=.lb x:=h;have hn:∀(b:Bool) (y:V),(∀x,y≠.lb x)->(bif b then y else V.dQ)≠.lb x:=by
     intro b y hy;cases b
     ·intro h;cases h
     ·exact hy x
    unfold C8 at h;split at h<;>first|exact hn _ _ (fun _ h=>by cases h) h|cases h
   ·exact h
  |global g=>
   rcases h with h|h
   ·exfalso;have h:cv C env (.global g)=.lb x:=h;simp only[cv] at h;split at h<;>cases h
   ·exact h
  |func f=>
   rcases h with h|h
   ·have h:(bif Nat.blt f 1048576 then V.fn f [] else .dQ)=.lb x:=h;cases hb:Nat.blt f 1048576<;>rw[hb] at h<;>cases h
   ·have h:(bif Nat.blt f 1048576 then V.fn f [] else .dQ)=.d .bool x:=h;cases hb:Nat.blt f 1048576<;>rw[hb] at h<;>cases h
 simp only[dE] at h;split at h
 ·rename_i x e;rw[dR] at h;obtain⟨rfl,rfl⟩:=h;rw[key x (.inl e)] at hc;have hc:=oX hc;simp only[execOp,hc,asBool];cases x
  ·exact .same hm (cP b)
  ·exact .same hm (cP a)
 ·rename_i x e;rw[dR] at h;obtain⟨rfl,rfl⟩:=h;rw[key x (.inr e)] at hc;have hc:=oX hc;simp only[execOp,hc,asBool];exact .same hm (z2d (cP a) (cP b))
 ·cases h
theorem z7f(hm:MRel C X φ o w)(cP:∀x,aq φ o (ah X φ o w) w (cv C env x) (ρ x)){v:V}{u:List (Nat×Obj)}{op:UnOp}{t:TypeId}{x:Operand}{dst:Option Tmp}{ty:TypeId}{pos:String}{after:Array Edge}{guard:Option (Nat×Bool)}{fr:Nat}(h:(dE lf C R env o fr ty (.unOp op t x)).aE v u):ej C X φ o w v u ((execOp ρ ⟨dst,.unOp op t x,ty,pos,after,guard⟩).run C.P w):=by
 have hx:=cP x;cases op with
 |xor=>
  simp only[dE] at h;split at h
  ·rename_i k n e;rw[e] at hx;rw[dR] at h;obtain⟨rfl,rfl⟩:=h;obtain⟨hz,_⟩:=lG hx;simp only[execOp,hz];have e1:Eh k=if k.signed then -1 else k.max:=by cases k<;>decide
   exact(dY.aR hm ⟨rfl,.int k (lf.nM k (Eh k) n),by rw[e1];simp[Op.unary,Op.intBits,lf,nM,pure],lA (HE _ _)⟩).bZ
  ·cases h
 |plus=>exact False.elim h
 |neg=>
  simp only[dE] at h;split at h
  ·rename_i k n e;rw[e] at hx;rw[dR] at h;obtain⟨rfl,rfl⟩:=h;obtain⟨hz,_⟩:=lG hx;simp only[execOp,hz];exact(dY.aR hm ⟨rfl,.int k (k.wrap (0-n)),by simp[Op.unary,Op.intArith],lA (HE _ _)⟩).bZ
  ·cases h
 |not=>
  simp only[dE] at h;split at h
  ·rename_i b e;rw[e] at hx;rw[dR] at h;obtain⟨rfl,rfl⟩:=h;have hz:=oX hx;simp only[execOp,hz];exact(dY.aR hm ⟨rfl,.bool (!b),by simp[Op.unary],Ai⟩).bZ
  ·cases h
theorem qql(hm:MRel C X φ o w)(cP:∀x,aq φ o (ah X φ o w) w (cv C env x) (ρ x)){v:V}{u:List (Nat×Obj)}{fn:Fn}{first caps:Array Operand}{dst:Option Tmp}{ty:TypeId}{pos:String}{after:Array Edge}{guard:Option (Nat×Bool)}{fr:Nat}(h:(dE lf C R env o fr ty (.makeFunc fn first caps)).aE v u):ej C X φ o w v u ((execOp ρ ⟨dst,.makeFunc fn first caps,ty,pos,after,guard⟩).run C.P w):=by
 cases fn<;>try exact False.elim h
 rename_i f;simp only[dE] at h;cases hb:Nat.blt f 1048576 with
 |false=>rw[hb] at h;exact False.elim h
 |true=>
  rw[hb] at h;have h:(Pk.now (.fn (f+1048576*first.toList.length) (first.toList.map (cv C env)++caps.toList.map (cv C env)))).aE v u:=h;rw[dR] at h;obtain⟨rfl,rfl⟩:=h;have hc:f<1048576:=zB hb;have e1:(f+1048576*first.toList.length) % 1048576=f:=by rw[Nat.add_mul_mod_self_left];exact Nat.mod_eq_of_lt hc
  have e2:(f+1048576*first.toList.length) / 1048576=first.toList.length:=by rw[Nat.add_mul_div_left _ _ dc,Nat.div_eq_of_lt hc,zD]
  have hl:(first.toList.map ρ).length=first.toList.length:=zO _;simp only[execOp,Instr.makeFunc];have hv:aq φ o (ah X φ o w) w (.fn (f+1048576*first.toList.length) (first.toList.map (cv C env)++caps.toList.map (cv C env))) (.func (.func f) (first.map ρ) (caps.map ρ)):=by
   refine⟨(first.toList.map ρ++caps.toList.map ρ).toArray,?_,?_⟩
   ·unfold I4;rw[e1,e2];have t1:((first.toList.map ρ++caps.toList.map ρ).take first.toList.length).toArray=first.map ρ:=by rw[<-hl,List.take_left];apply Array.toList_inj.1;simp
    have t2:((first.toList.map ρ++caps.toList.map ρ).drop first.toList.length).toArray=caps.map ρ:=by rw[<-hl,List.drop_left];apply Array.toList_inj.1;simp
    show _=Value.func (.func f) ((first.toList.map ρ++caps.toList.map ρ).take first.toList.length).toArray ((first.toList.map ρ++caps.toList.map ρ).drop first.toList.length).toArray;rw[t1,t2]
   ·exact Dm (Js cP _) (Js cP _)
  exact(dY.aR (s:=pure (.func (.func f) (first.map ρ) (caps.map ρ))) hm ⟨rfl,_,rfl,hv⟩).bZ
theorem qv0(hm:MRel C X φ o w)(cP:∀x,aq φ o (ah X φ o w) w (cv C env x) (ρ x)){v:V}{u:List (Nat×Obj)}{x:Operand}{i:Nat}{dst:Option Tmp}{ty:TypeId}{pos:String}{after:Array Edge}{guard:Option (Nat×Bool)}{fr:Nat}(h:(dE lf C R env o fr ty (.extract x i)).aE v u):ej C X φ o w v u ((execOp ρ ⟨dst,.extract x i,ty,pos,after,guard⟩).run C.P w):=by exact(z2h hm (cP x) h).bZ
theorem z7g(hm:MRel C X φ o w)(cP:∀x,aq φ o (ah X φ o w) w (cv C env x) (ρ x)){v:V}{u:List (Nat×Obj)}{x:Operand}{b:Bool}{dst:Option Tmp}{ty:TypeId}{pos:String}{after:Array Edge}{guard:Option (Nat×Bool)}{fr:Nat}(h:(dE lf C R env o fr ty (.next x b)).aE v u):ej C X φ o w v u ((execOp ρ ⟨dst,.next x b,ty,pos,after,guard⟩).run C.P w):=by
 cases b with
 |false=>exact False.elim h
 |true=>exact(qxj hm (cP x) h).bZ
theorem Yo{fr:Nat}{n:Int}{vs:List V}{z:Value}{b:Bool}:∀(a:List (Nat×Bool)) (i:Nat) (k:Int),IX lf C R o fr (k+(i:Int)) n vs a i=some (some b)->tQ imm w a k n z->∃f caps Dn,z=.func (.func f) #[] Dn/\cd φ o imm w caps Dn.toList/\(Af lf C R o fr f (vs++caps) C.sigs 0).aE (.d .bool b) []
 |[],_,_,h,_=>by cases h
 |(f,c)::r,i,k,h,hr=>by
  unfold IX at h;split at h
  ·rename_i x hx;split at h
   ·rename_i y hy;injection h with h;rcases hr with ⟨rfl,h2⟩|⟨h1,h2⟩
    ·have he:lf.e (0+(i:Int)) (Int.ofNat i)=true:=by show((0+(i:Int))==Int.ofNat i)=true;simp
     rw[he] at h;have h:x=some b:=h;subst h;have gv:(Af lf C R o fr f (vs++bif c then [.ref (.int .i64) n] else []) C.sigs 0).aE (.d .bool b) []:=by
      revert hx;generalize Af lf C R o fr f (vs++bif c then [.ref (.int .i64) n] else []) C.sigs 0=p;intro hx;cases p with
      |fail=>cases hx
      |lE v u=>cases hx
      |dyn α x' out=>
       injection hx with hx;cases x' with
       |none=>cases hx
       |some q=>
        have hx:(match out q with|(.d .bool b,[])=>some b|_=>none)=some b:=hx;split at hx
        ·rename_i b' eo;injection hx with hx;subst hx;exact⟨q,rfl,eo⟩
        ·cases hx
     cases c with
     |false=>exact⟨f,[],#[],h2,rfl,gv⟩
     |true=>obtain⟨p,h3,h4⟩:=h2;exact⟨f,[.ref (.int .i64) n],#[p],h3,⟨p,[],rfl,h4,rfl⟩,gv⟩
    ·have he:lf.e (k+(i:Int)) (Int.ofNat i)=false:=by
      show((k+(i:Int))==Int.ofNat i)=false;have:k+(i:Int)≠Int.ofNat i:=by show k+(i:Int)≠(i:Int);omega
      exact beq_false_of_ne this
     rw[he] at h;have h:y=some b:=h;subst h;refine Yo r (i+1) (k-1) ?_ h2;have:k-1+((i+1:Nat):Int)=k+(i:Int):=om
     rw[this];exact hy
   ·cases h
  ·cases h
theorem z2j(cP:∀x,aq φ o (ah X φ o w) w (cv C env x) (ρ x)){v:V}{u:List (Nat×Obj)}{f:Operand}{args:Array Operand}{tS:Array TypeId}{dst:Option Tmp}{ty:TypeId}{pos:String}{after:Array Edge}{guard:Option (Nat×Bool)}{fr:Nat}(he:∀f,Bb C R X φ o w fr f)(h:(dE lf C R env o fr ty (.call ⟨.value f,args,tS⟩)).aE v u)(hf:kO fr o u):ej C X φ o w v u ((execOp ρ ⟨dst,.call ⟨.value f,args,tS⟩,ty,pos,after,guard⟩).run C.P w):=by
 have hx:=cP f;simp only[dE] at h;split at h
 ·rename_i rj caps e;rw[e] at hx;obtain⟨cz,hz,hr⟩:=hx;have hc:cd φ o (ah X φ o w) w (caps.take (rj / 1048576)++(args.toList.map (cv C env)++caps.drop (rj / 1048576))) (cz.toList.take (rj / 1048576)++((args.map ρ).toList++cz.toList.drop (rj / 1048576))):=by rw[Array.toList_map];exact Dm (Jk _ hr) (Dm (Js cP _) (Jj _ hr))
  obtain⟨⟨fn,g1,g2,g3⟩,g4⟩:=he (rj % 1048576) _ _ v u hc h hf;refine .inr (.inr ⟨rj % 1048576,(cz.toList.take (rj / 1048576)++((args.map ρ).toList++cz.toList.drop (rj / 1048576))).toArray,?_,g4⟩);have e2:(cz.toList.take (rj / 1048576)++((args.map ρ).toList++cz.toList.drop (rj / 1048576))).toArray=(cz.toList.take (rj / 1048576)).toArray++args.map ρ++(cz.toList.drop (rj / 1048576)).toArray:=by apply Array.toList_inj.1;simp
  rw[e2];have HK:¬fn.name= "runtime.NumGoroutine":=by simpa using g2
  have QE:fn.body≠none:=by intro e;rw[e] at g3;cases g3
  unfold I4 at hz;simp[execOp,resolve,hz,Deferred.ofValue,invoke,callFunc,g1,HK,QE]
 ·rename_i a k n e;rw[e] at hx;split at h
  ·rename_i x hg;obtain⟨b,hb,ho⟩:=h;subst hb;injection ho with hj hk;subst hj hk;have hg:IX lf C R o fr (k+((0:Nat):Int)) n (args.toList.map (cv C env)) a 0=some (some b):=by
    have:k+((0:Nat):Int)=k:=om
    rw[this];exact hg
   obtain⟨rj,caps,cz,hz,hr,h⟩:=Yo (φ:=φ) (imm:=ah X φ o w) (w:=w) a 0 k hg hx;have hc:cd φ o (ah X φ o w) w (args.toList.map (cv C env)++caps) ((args.map ρ).toList++cz.toList):=by rw[Array.toList_map];exact Dm (Js cP _) hr
   obtain⟨⟨fn,g1,g2,g3⟩,g4⟩:=he rj _ _ _ _ hc h hf;refine .inr (.inr ⟨rj,((args.map ρ).toList++cz.toList).toArray,?_,g4⟩);have e2:((args.map ρ).toList++cz.toList).toArray=args.map ρ++cz:=by apply Array.toList_inj.1;simp
   rw[e2];have HK:¬fn.name= "runtime.NumGoroutine":=by simpa using g2
   have QE:fn.body≠none:=by intro e;rw[e] at g3;cases g3
   simp[execOp,resolve,hz,Deferred.ofValue,invoke,callFunc,g1,HK,QE]
  ·exact False.elim h
 ·cases h
theorem Yp{k:IntKind}{a b:Int}(ha:gH k a)(hb:gH k b):gH k (jF a b)/\gH k (ji a b):=by unfold jF ji;constructor<;>split<;>assumption
theorem qv1(hC:cD C)(hm:MRel C X φ o w)(cP:∀x,aq φ o (ah X φ o w) w (cv C env x) (ρ x)){v:V}{u:List (Nat×Obj)}{b:Builtin}{args:Array Operand}{tS:Array TypeId}{dst:Option Tmp}{ty:TypeId}{pos:String}{after:Array Edge}{guard:Option (Nat×Bool)}{fr:Nat}(h:(dE lf C R env o fr ty (.call ⟨.builtin b,args,tS⟩)).aE v u)(hf:kO fr o u):ej C X φ o w v u ((execOp ρ ⟨dst,.call ⟨.builtin b,args,tS⟩,ty,pos,after,guard⟩).run C.P w):=by
 have nj:∀{x y:V},args.toList.map (cv C env)=[x,y]->∃zx zy,args.map ρ=#[zx,zy]/\aq φ o (ah X φ o w) w x zx/\aq φ o (ah X φ o w) w y zy:=by
  intro x y e
  match hl:args.toList,e with
  |[a,b],e=>simp only[zJ,List.map_nil,List.cons.injEq,and_true] at e;obtain⟨rfl,rfl⟩:=e;exact⟨ρ a,ρ b,Ym hl,cP a,cP b⟩
 have s7:∀{x:V},args.toList.map (cv C env)=[x]->∃zx,args.map ρ=#[zx]/\aq φ o (ah X φ o w) w x zx:=by
  intro x e
  match hl:args.toList,e with
  |[a],e=>simp only[zJ,List.map_nil,List.cons.injEq,and_true] at e;subst e;exact⟨ρ a,Ym hl,cP a⟩
 have aN:∀{l:List TypeId},tS.toList=l->tS=l.toArray:=fun e=>by rw[<-e,Array.toArray_toList]
 simp only[dE,W9] at h;split at h
 ·rename_i t ts x e1 e2;obtain⟨zx,h1,h2⟩:=s7 e2;have:=(dY.aR hm (z2b (ts:=ts) (ty:=ty) hm h2 h)).bZ;rw[<-aN e1] at this;simpa[execOp,resolve,invoke,builtin,h1] using this
 ·rename_i t u' ts x y e1 e2;obtain⟨zx,zy,h1,h2,h3⟩:=nj e2;have:=(qqe (ts:=ts) (ty:=ty) hC hm h2 h3 h hf).bZ;rw[<-aN e1] at this;simpa[execOp,resolve,invoke,builtin,h1] using this
 ·rename_i t ts x y e1 e2;obtain⟨zx,zy,h1,h2,h3⟩:=nj e2;have:=(qxa (ts:=ts) (ty:=ty) hC hm h2 h3 h).bZ;rw[<-aN e1] at this;simpa[execOp,resolve,invoke,builtin,h1] using this
 ·rename_i t ts x e1 e2;obtain⟨zx,h1,h2⟩:=s7 e2;have:=(qux (ts:=ts) (ty:=ty) hC hm h2 h).bZ;rw[<-aN e1] at this;simpa[execOp,resolve,invoke,builtin,h1] using this
 ·rename_i t ts x y e1 e2;obtain⟨zx,zy,h1,h2,h3⟩:=nj e2;have:=(qqj (ts:=ts) (ty:=ty) hC hm h2 h3 h).bZ;rw[<-aN e1] at this;simpa[execOp,resolve,invoke,builtin,h1] using this
 ·rename_i k a k' b e2;obtain⟨zx,zy,h1,h2,h3⟩:=nj e2;obtain⟨rfl,i1⟩:=lG h2;obtain⟨rfl,i2⟩:=lG h3;rw[dU,dR] at h;obtain⟨hk,rfl,rfl⟩:=h;have:=Ja hk;subst this;have:ej C X φ o w (.d (.int k) (lf.jF a b)) [] _:=(dY.aR (s:=Builtin.min_ tS ty #[.int k a,.int k b]) hm ⟨rfl,.int k (jF a b),by simp[Builtin.min_,Builtin.min2,jF],lA (Yp i1 i2).1⟩).bZ;simpa[execOp,resolve,invoke,builtin,h1] using this
 ·rename_i k a k' b e2;obtain⟨zx,zy,h1,h2,h3⟩:=nj e2;obtain⟨rfl,i1⟩:=lG h2;obtain⟨rfl,i2⟩:=lG h3;rw[dU,dR] at h;obtain⟨hk,rfl,rfl⟩:=h;have:=Ja hk;subst this;have:ej C X φ o w (.d (.int k) (lf.ji a b)) [] _:=(dY.aR (s:=Builtin.max_ tS ty #[.int k a,.int k b]) hm ⟨rfl,.int k (ji a b),by simp[Builtin.max_,Builtin.max2,ji],lA (Yp i1 i2).2⟩).bZ;simpa[execOp,resolve,invoke,builtin,h1] using this
 ·rename_i a b e2;obtain⟨zx,zy,h1,h2,h3⟩:=nj e2;have g1:=I8 h2;have g2:=I8 h3;subst g1 g2;rw[dR] at h;obtain⟨rfl,rfl⟩:=h;have:ej C X φ o w (.d .dC ((a:Nat),(b:Nat))) [] _:=(dY.aR (s:=Builtin.complex_ tS ty #[.float .f64 a,.float .f64 b]) hm ⟨rfl,.complex .f64 a b,rfl,P1 (b:=(a,b))⟩).bZ;simpa[execOp,resolve,invoke,builtin,h1] using this
 ·rename_i a e2;obtain⟨zx,h1,h2⟩:=s7 e2;have g1:=HA h2;subst g1;rw[dR] at h;obtain⟨rfl,rfl⟩:=h;have:ej C X φ o w (.d .fc (Prod.fst (α:=Nat) (β:=Nat) a)) [] _:=(dY.aR (s:=Builtin.real_ tS ty #[.complex .f64 (Prod.fst (α:=Nat) (β:=Nat) a) (Prod.snd (α:=Nat) (β:=Nat) a)]) hm ⟨rfl,.float .f64 _,rfl,MF⟩).bZ;simpa[execOp,resolve,invoke,builtin,h1] using this
 ·rename_i a e2;obtain⟨zx,h1,h2⟩:=s7 e2;have g1:=HA h2;subst g1;rw[dR] at h;obtain⟨rfl,rfl⟩:=h;have:ej C X φ o w (.d .fc (Prod.snd (α:=Nat) (β:=Nat) a)) [] _:=(dY.aR (s:=Builtin.imag_ tS ty #[.complex .f64 (Prod.fst (α:=Nat) (β:=Nat) a) (Prod.snd (α:=Nat) (β:=Nat) a)]) hm ⟨rfl,.float .f64 _,rfl,MF⟩).bZ;simpa[execOp,resolve,invoke,builtin,h1] using this
 ·cases h
set_option maxHeartbeats 4000000 in
theorem QF(hC:cD C)(hE:kP C)(hm:MRel C X φ o w)(cP:∀x,aq φ o (ah X φ o w) w (cv C env x) (ρ x)){op:Oper}{fr:Nat}(hc:∀f,Bb C R X φ o w fr f){v:V}{u:List (Nat×Obj)}(h:(dE lf C R env o fr op.type op.op).aE v u)(hf:kO fr o u):ej C X φ o w v u ((execOp ρ op).run C.P w):=by
 obtain⟨dst,op,ty,pos,after,guard⟩:=op;cases op
 case move x=>exact Yn hm cP x h hf
 case assign x=>exact Yn hm cP x h hf
 case pick c a b=>exact z7e hm cP h
 case alloc e=>exact(quu hC hm h hf _).bZ
 case box e x=>exact(z2f hm (cP x) h hf).bZ
 case build t ps=>refine(qx6 (fun v u h=>quv (zparts:=ps.map fun p=>(p.1,ρ p.2)) hC hm ?_ h) h hf).bZ;rw[Array.toList_map];exact QC cP _
 case buildSlice t n ps=>refine(qh4 (zparts:=ps.map fun p=>(p.1,ρ p.2)) hC hm ?_ h hf).bZ;rw[Array.toList_map];exact QC cP _
 case load t a=>exact(dY.aR hm (XK hC hm (cP a) h)).bZ
 case store t a x=>exact(quw hC hm (cP a) (cP x) h).bZ
 case nilCheck x=>obtain⟨rfl,rfl,hz⟩:=z2e (cP x) h;have hx:=cP x;rcases hz with ⟨a,e⟩|⟨f,p,c,e⟩<;>simp only[execOp,e]<;>rw[e] at hx<;>exact .same hm hx
 case binOp op t x y yt=>exact(z2i hE hm (cP x) (cP y) h).bZ
 case unOp op t x=>exact z7f hm cP h
 case convert s d x=>exact(qnj hC hm (cP x) h hf).bZ
 case makeFunc fn first caps=>exact qql hm cP h
 case makeSlice t l c=>exact(qj4 hC hm (cP l) (cP c) h hf).bZ
 case slice t x lo hi mx=>exact(qus hC hm (cP x) (QD cP lo) (QD cP hi) (QD cP mx) h hf).bZ
 case fieldAddr t x f=>exact(dY.aR hm (qj1 hC hm (cP x) h)).bZ
 case field t x f=>exact(dY.aR hm (quq hC hm (cP x) h)).bZ
 case indexAddr t x i=>exact(dY.aR hm (qj2 hC hm (cP x) (cP i) h)).bZ
 case index t x i=>exact(dY.aR hm (qur hC (cP x) (cP i) h)).bZ
 case extract x i=>exact qv0 hm cP h
 case range t x=>exact(quz hm (cP x) h hf).bZ
 case next x b=>exact z7g hm cP h
 case makeMap t r=>
  cases r with
  |none=>exact(qno hm h hf).bZ
  |some x=>exact False.elim h
 case lookup t x k ok=>exact(qqi hC hm (cP x) (cP k) h).bZ
 case mapUpdate t m k x=>exact(qj5 hC hm (cP m) (cP k) (cP x) h).bZ
 case call c=>
  obtain⟨callee,args,tS⟩:=c;cases callee with
  |invoke r m=>exact False.elim h
  |value f=>exact z2j cP hc h hf
  |builtin b=>exact qv1 hC hm cP h hf
 all_goals exact False.elim h
end
theorem cS{j:Nat}:∀{l:List Nat},bJ j l=true↔j∈l
 |[]=>by simp[bJ]
 |b::r=>by
  simp only[bJ,zw];cases h:Nat.beq b j with
  |true=>have:=zm h;simp[this]
  |false=>
   have:¬j=b:=fun e=>by subst e;rw[Nat.beq_refl] at h;cases h
   simp[this,cS]
theorem Jt:∀{u:List (Nat×Obj)} {o o':Nat->Obj} {id:Nat},id∈bW u->ak o u id=ak o' u id
 |(i,x)::r,o,o',id,h=>by
  show ak (cu o i x) r id=ak (cu o' i x) r id;by_cases hr:id∈bW r
  ·exact Jt hr
  ·rw[iq hr,iq hr];simp only[bW,zw,hr,or_false] at h;subst h;rw[eH,eH]
section
variable {C:Cx} {X:Nat→Prop} {φ φ':Nat→Addr} {o o':Nat→Obj} {w w':World} {imm:Nat→Prop} {F:List Nat}
theorem Yq:∀(x:V) (z:Value),(∀id,id∈fe x->o' id=o id)->aq φ o imm w x z->aq φ o' imm w x z:=by
 intro x;refine V.rec (motive_1:=fun x=>∀z,(∀id,id∈fe x->o' id=o id)->aq φ o imm w x z->aq φ o' imm w x z)
  (motive_2:=fun l=>∀zs,(∀id,id∈ij l->o' id=o id)->cd φ o imm w l zs->cd φ o' imm w l zs)
  ?_ ?_ ?_ ?_ ?_ ?_ ?_ ?_ ?_ ?_ ?_ ?_ ?_ ?_ ?_ ?_ ?_ ?_ ?_ ?_ ?_ ?_ ?_ ?_ ?_ ?_ x
 ·exact fun t x z _ h=>h
 ·intro id ver z hs h;have:=hs id (by simp[fe]);unfold aq at*;rw[this];exact h
 ·intro id ver n cp z hs h;have:=hs id (by simp[fe]);unfold aq at*;rw[this];exact h
 ·intro id off z hs h;have:=hs id (by simp[fe]);unfold aq at*;rw[this];exact h
 ·intro id ver i path z hs h;have:=hs id (by simp[fe]);unfold aq at*;rw[this];exact h
 ·exact fun t x z _ h=>h
 ·exact fun z _ h=>h
 ·exact fun f l ih z hs ⟨c,h1,h2⟩=>⟨c,h1,ih _ (fun id h=>hs id (by unfold fe;exact h)) h2⟩
 ·exact fun z _ h=>h
 ·exact fun l ih z hs ⟨c,h1,h2⟩=>⟨c,h1,ih _ (fun id h=>hs id (by unfold fe;exact h)) h2⟩
 ·exact fun l ih z hs ⟨c,h1,h2⟩=>⟨c,h1,ih _ (fun id h=>hs id (by unfold fe;exact h)) h2⟩
 ·intro id z hs h;have:=hs id (by simp[fe]);unfold aq at*;rw[this];exact h
 ·exact fun z _ h=>h
 ·exact fun z _ h=>h
 ·exact fun z _ h=>h
 ·exact fun b z _ h=>h
 ·exact fun z _ h=>h
 ·exact fun z _ h=>h
 ·intro id b z hs h;have:=hs id (by simp[fe]);unfold aq at*;rw[this];exact h
 ·intro id ver lo z hs h;have:=hs id (by simp[fe]);unfold aq at*;rw[this];exact h
 ·intro id z hs h;have:=hs id (by simp[fe]);unfold aq at*;rw[this];exact h
 ·exact fun b p c z _ h=>h
 ·exact fun a k n z _ h=>h
 ·exact fun t x z _ h=>h
 ·exact fun zs _ h=>h
 ·exact fun x l il im zs hs ⟨v,r,h1,h2,h3⟩=>⟨v,r,h1,il _ (fun id h=>hs id (by unfold ij;exact List.mem_append_left _ h)) h2,
   im _ (fun id h=>hs id (by unfold ij;exact List.mem_append_right _ h)) h3⟩
theorem Yr:∀(l:List V) (zs:List Value),(∀id,id∈ij l->o' id=o id)->cd φ o imm w l zs->cd φ o' imm w l zs
 |[],_,_,h=>h
 |x::l,_,hs,⟨v,r,h1,h2,h3⟩=>⟨v,r,h1,Yq x v (fun id h=>hs id (by unfold ij;exact List.mem_append_left _ h)) h2,
   Yr l r (fun id h=>hs id (by unfold ij;exact List.mem_append_right _ h)) h3⟩
def Xr(X:Nat->Prop)(φ:Nat->Addr)(o:Nat->Obj)(F:List Nat)(b:Nat):Prop:=X b\/∃id,id∉F/\aP (φ id) (o id)=true/\(φ id).block=b
theorem ml{id:Nat}(h:id∈F):ek o F id=o id:=by unfold ek;rw[cS.2 h];rfl
theorem tT{id:Nat}(h:id∉F):ek o F id=.none:=by
 unfold ek;cases e:bJ id F with
 |true=>exact absurd (cS.1 e) h
 |false=>rfl
theorem tU(b:Nat):ah (Xr X φ o F) φ (ek o F) w b↔ah X φ o w b:=by
 constructor
 ·rintro⟨h1,h2,h3⟩;refine⟨h1,fun h=>h2 (.inl h),fun⟨id,e1,e2⟩=>?_⟩;by_cases hi:id∈F
  ·exact h3 ⟨id,by rw[ml hi];exact e1,e2⟩
  ·exact h2 (.inr ⟨id,hi,e1,e2⟩)
 ·rintro⟨h1,h2,h3⟩;refine⟨h1,?_,fun⟨id,e1,e2⟩=>?_⟩
  ·rintro(h|⟨id,_,e1,e2⟩)
   ·exact h2 h
   ·exact h3 ⟨id,e1,e2⟩
  ·by_cases hi:id∈F
   ·rw[ml hi] at e1;exact h3 ⟨id,e1,e2⟩
   ·rw[tT hi] at e1;exact(lz e1).elim
theorem qv2{imm':Nat->Prop}{id:Nat}{x:Obj}(hi:∀b,imm b->imm' b)(hs:∀j,j∈vX x->o' j=o j)(h:oV φ o imm w id x):oV φ o' imm' w id x:=by
 have hk:∀x z,aq φ o' imm w x z->aq φ o' imm' w x z:=fun x z h=>vj hi (fun _ _=>rfl) (fun _=>Up.same fun _ _ h=>h) x z h;cases x with
 |dead=>trivial
 |none=>trivial
 |box cs=>obtain⟨h1,c,el,lo,hc,h2,h3,h4⟩:=h;exact⟨h1,c,el,lo,hc,h2,h3,Eu hk _ _ (Yr cs _ hs h4)⟩
 |map k v m=>obtain⟨es,clock,h1,h2⟩:=h;exact⟨es,clock,h1,Dh (rf hi (fun _ _=>rfl) _) (rf hi (fun _ _=>rfl) _) h2⟩
 |iter l p=>exact h
 |vec t ver fr s=>obtain⟨h1,h2,h3⟩:=h;refine⟨h1,h2,fun hn=>?_⟩;refine(h3 hn).imp (fun⟨h4,ec,h5,h6,h7,h8,h9⟩=>?_) fun g=>g;exact⟨h4,ec,nh (gX hi (fun _ _=>rfl) t) h5,h6,h7,h8,fun hf=>hi _ (h9 hf)⟩
theorem MRel.jI(hm:MRel C X φ o w)(id:Nat)(hb:aP (φ id) (o id)=true->ff w w' (φ id).block)(stays:∀b,ah X φ o w b->w'.heap[b]?=w.heap[b]?):ik C w' (φ id) (o id):=by
 refine(hm.oW id).bH hb (fun ver s e hn=>.same ?_) (hm.I5 id);have ho:=hm.ay id;rw[e] at ho;obtain⟨_,_,ho⟩:=ho;rcases ho hn with ⟨_,_,_,_,_,_,g7⟩|g7
 ·exact stays _ (g7 rfl)
 ·exact absurd rfl g7.2.2
theorem MRel.restrict(hm:MRel C X φ o w)(hc:∀id,id∈F->∀j,j∈vX (o id)->j∈F):MRel C (Xr X φ o F) φ (ek o F) w:=by
 refine⟨fun id=>?_,fun i j hi hj e=>?_,fun i hi=>?_,fun b hb=>?_,fun id=>?_,fun g t x hg=>?_,hm.Hz⟩
 ·by_cases h:id∈F
  ·rw[ml h];exact qv2 (fun b hb=>(tU b).2 hb) (fun j hj=>ml (hc id h j hj)) (hm.ay id)
  ·rw[tT h];trivial
 ·have h1:i∈F:=zA fun h=>by rw[tT h] at hi;exact lz hi
  have h2:j∈F:=zA fun h=>by rw[tT h] at hj;exact lz hj
  rw[ml h1] at hi;rw[ml h2] at hj;exact hm.inj i j hi hj e
 ·have h1:i∈F:=zA fun h=>by rw[tT h] at hi;exact lz hi
  rw[ml h1] at hi;refine⟨(hm.sep i hi).1,?_⟩;rintro(h|⟨id,h2,h3,h4⟩)
  ·exact(hm.sep i hi).2 h
  ·have:=hm.inj id i h3 hi h4;exact h2 (this▸h1)
 ·rcases hb with hb|⟨id,_,h3,h4⟩
  ·exact hm.xs b hb
  ·exact h4▸(hm.sep id h3).1
 ·by_cases h:id∈F
  ·rw[ml h];exact hm.oW id
  ·rw[tT h];trivial
 ·obtain⟨a,cs,h1,h2,h3,h4,h5⟩:=hm.fk g t x hg;exact⟨a,cs,h1,h2,(tU _).2 h3,gX (fun b hb=>(tU b).2 hb) (fun _ _=>rfl) t x cs h4,h5⟩
theorem qhc{x:V}{z:Value}(hs:∀id,id∈fe x->id∈F)(h:aq φ o (ah X φ o w) w x z):aq φ (ek o F) (ah (Xr X φ o F) φ (ek o F) w) w x z:=vj (fun b hb=>(tU b).2 hb) (fun _ _=>rfl) (fun _=>Up.same fun _ _ h=>h) x z (Yq x z (fun id hi=>ml (hs id hi)) h)
theorem Comes.rk(hm:MRel C X φ o w){u:List (Nat×Obj)}{v:V}{z:Value}(hu:∀id,id∈bW u->id∉F->o id=.none)(h:Comes C (Xr X φ o F) φ φ' (ek o F) u w w' v z):∃gN,Comes C X φ gN o u w w' v z:=by
 let ins:Nat->Prop:=fun id=>id∈F\/id∈bW u;refine⟨fun id=>bif bJ id F||bJ id (bW u) then φ' id else φ id,?_⟩;generalize dJ:(fun id=>bif bJ id F||bJ id (bW u) then φ' id else φ id)=gN;have p1:∀id,ins id->gN id=φ' id:=fun id hi=>by
  rw[<-dJ];have:(bJ id F||bJ id (bW u))=true:=by rw[Bool.or_eq_true];exact hi.imp cS.2 cS.2
  simp only[this,cond_true]
 have p2:∀id,¬ins id->gN id=φ id:=fun id hi=>by
  rw[<-dJ];have:(bJ id F||bJ id (bW u))=false:=by
   cases e:(bJ id F||bJ id (bW u)) with
   |false=>rfl
   |true=>rw[Bool.or_eq_true] at e;exact absurd (e.imp cS.1 cS.1) hi
  simp only[this,cond_false]
 have q1:∀id,ins id->ak o u id=ak (ek o F) u id:=fun id hi=>by
  by_cases hk:id∈bW u
  ·exact Jt hk
  ·rw[iq hk,iq hk,ml (hi.resolve_right hk)]
 have q2:∀id,¬ins id->ak o u id=o id/\ak (ek o F) u id=.none:=fun id hi=>⟨iq fun hk=>hi (.inr hk),by rw[iq fun hk=>hi (.inr hk),tT fun hf=>hi (.inl hf)]⟩;have q3:∀id,ins id->id∉F->o id=.none:=fun id hi hf=>hu id (hi.resolve_left hf) hf;have hl:∀b,ah (Xr X φ o F) φ' (ak (ek o F) u) w' b↔ah X gN (ak o u) w' b:=fun b=>by
  constructor
  ·rintro⟨h1,h2,h3⟩;refine⟨h1,fun hx=>h2 (.inl hx),fun⟨id,e1,e2⟩=>?_⟩;by_cases hi:ins id
   ·exact h3 ⟨id,by rw[<-q1 id hi,<-p1 id hi];exact e1,by rw[<-p1 id hi];exact e2⟩
   ·rw[(q2 id hi).1,p2 id hi] at e1;rw[p2 id hi] at e2;exact h2 (.inr ⟨id,fun hf=>hi (.inl hf),e1,e2⟩)
  ·rintro⟨h1,h2,h3⟩;refine⟨h1,?_,fun⟨id,e1,e2⟩=>?_⟩
   ·rintro(hx|⟨id,hf,e1,e2⟩)
    ·exact h2 hx
    ·by_cases hi:ins id
     ·rw[q3 id hi hf] at e1;exact(lz e1).elim
     ·exact h3 ⟨id,by rw[(q2 id hi).1,p2 id hi];exact e1,by rw[p2 id hi];exact e2⟩
   ·by_cases hi:ins id
    ·exact h3 ⟨id,by rw[q1 id hi,p1 id hi];exact e1,by rw[p1 id hi];exact e2⟩
    ·rw[(q2 id hi).2] at e1;exact(lz e1).elim
 have ext:∀x z,aq φ' (ak (ek o F) u) (ah (Xr X φ o F) φ' (ak (ek o F) u) w') w' x z->aq gN (ak o u) (ah X gN (ak o u) w') w' x z:=
  fun x z hx=>vj (fun b hb=>(hl b).1 hb) (fun _ _=>rfl) (fun id=>by
   by_cases hi:ins id
   ·rw[q1 id hi,p1 id hi];exact Up.same fun _ _ h=>h
   ·rw[(q2 id hi).2];trivial) x z hx
 have bl:∀id,¬ins id->aP (φ id) (o id)=true->w'.heap[(φ id).block]?=w.heap[(φ id).block]?:=fun id hi hx=>
  h.frame _ (hm.sep id hx).1 fun⟨j,j1,j2,j3⟩=>by
   have hj:j∈F:=zA fun hf=>by rw[tT hf] at j2;exact lz j2
   rw[ml hj] at j2;have:=hm.inj j id j2 hx j3;exact hi (.inl (this▸hj))
 have stays:∀b,ah X φ o w b->w'.heap[b]?=w.heap[b]?:=fun b hb=>h.stays b ((tU b).2 hb);have imm:∀b,ah X φ o w b->ah X gN (ak o u) w' b:=fun b hb=>(hl b).1 (h.imm b ((tU b).2 hb));have Di:∀id,Up w w' (φ id) (gN id) (o id) (ak o u id):=fun id=>by
  by_cases hi:ins id
  ·by_cases hf:id∈F
   ·have:=h.up id;rw[ml hf] at this;rw[p1 id hi,q1 id hi];exact this
   ·rw[q3 id hi hf];trivial
  ·rw[p2 id hi,(q2 id hi).1];exact Up.same fun hx n hr=>A5 (bl id hi hx) hr
 have keeps:∀x z,aq φ o (ah X φ o w) w x z->aq gN (ak o u) (ah X gN (ak o u) w') w' x z:=fun x z hx=>vj imm stays Di x z hx;refine⟨⟨fun id=>?_,fun i j hi hj e=>?_,fun i hi=>?_,fun b hb=>Nat.lt_of_lt_of_le (hm.xs b hb) h.size,fun id=>?_,fun g t x hg=>ext _ _ (h.mem.fk g t x hg),h.mem.Hz⟩,ext _ _ h.val,Di,h.size,fun b hb hh=>?_,fun id hn hk=>?_,fun id hx=>?_,h.still⟩
 ·by_cases hi:ins id
  ·rw[q1 id hi];exact Ew (fun b hb=>(hl b).1 hb) (fun _ _=>rfl) ext (p1 id hi) (fun _=>rfl) (h.mem.ay id)
  ·rw[(q2 id hi).1];exact Ew imm stays keeps (p2 id hi) (bl id hi) (hm.ay id)
 ·by_cases hc:ins i<;>by_cases he:ins j
  ·rw[q1 i hc,p1 i hc] at hi;rw[q1 j he,p1 j he] at hj;rw[p1 i hc,p1 j he] at e;exact h.mem.inj i j hi hj e
  ·rw[q1 i hc,p1 i hc] at hi;rw[(q2 j he).1,p2 j he] at hj;rw[p1 i hc,p2 j he] at e;exact absurd (.inr ⟨j,fun hf=>he (.inl hf),hj,e.symm⟩) (h.mem.sep i hi).2
  ·rw[q1 j he,p1 j he] at hj;rw[(q2 i hc).1,p2 i hc] at hi;rw[p1 j he,p2 i hc] at e;exact absurd (.inr ⟨i,fun hf=>hc (.inl hf),hi,e⟩) (h.mem.sep j hj).2
  ·rw[(q2 i hc).1,p2 i hc] at hi;rw[(q2 j he).1,p2 j he] at hj;rw[p2 i hc,p2 j he] at e;exact hm.inj i j hi hj e
 ·by_cases hc:ins i
  ·rw[q1 i hc,p1 i hc] at hi;rw[p1 i hc];exact⟨(h.mem.sep i hi).1,fun hx=>(h.mem.sep i hi).2 (.inl hx)⟩
  ·rw[(q2 i hc).1,p2 i hc] at hi;rw[p2 i hc];exact⟨Nat.lt_of_lt_of_le (hm.sep i hi).1 h.size,(hm.sep i hi).2⟩
 ·by_cases hi:ins id
  ·rw[q1 id hi,p1 id hi];exact h.mem.oW id
  ·rw[(q2 id hi).1,p2 id hi];exact hm.jI id (fun hx=>.same (bl id hi hx)) stays
 ·refine h.frame b hb fun⟨j,j1,j2,j3⟩=>hh ⟨j,j1,?_,j3⟩;have hj:j∈F:=zA fun hf=>by rw[tT hf] at j2;exact lz j2
  rwa [ml hj] at j2
 ·by_cases hf:id∈F
  ·rw[p1 id (.inl hf)];exact h.nU id (by rw[ml hf];exact hn) hk
  ·exact p2 id fun hi=>hi.elim hf hk
 ·by_cases hi:ins id
  ·rw[q1 id hi,p1 id hi] at hx;rw[p1 id hi];rcases h.news id hx with h1|⟨j,j1,j2⟩
   ·exact .inl h1
   ·have hj:j∈F:=zA fun hf=>by rw[tT hf] at j1;exact lz j1
    rw[ml hj] at j1;exact .inr ⟨j,j1,j2⟩
  ·rw[(q2 id hi).1,p2 id hi] at hx;rw[p2 id hi];exact .inr ⟨id,hx,rfl⟩
end
structure fg (a b:PS):Prop where
 aL:∀p,p∈a.aL->p∈b.aL
 cut:∀p,p∈a.cut->p∈b.cut
 cg:∀p,p∈a.cg->p∈b.cg
 full:∀p,p∈a.full->p∈b.full
theorem fg.refl(a:PS):fg a a:=⟨fun _ h=>h,fun _ h=>h,fun _ h=>h,fun _ h=>h⟩
theorem fg.trans{a b c:PS}(h:fg a b)(h':fg b c):fg a c:=⟨fun p hp=>h'.aL p (h.aL p hp),fun p hp=>h'.cut p (h.cut p hp),fun p hp=>h'.cg p (h.cg p hp),fun p hp=>h'.full p (h.full p hp)⟩
abbrev cH:Nat->Nat:=fun i=>i
abbrev bX:Nat->Nat:=fun _=>0
section
variable {o:Nat→Obj}
def z59(o:Nat->Obj)(s:Sh):Prop:=∀v ps aZ f,C6 lf o s v ps=some (aZ,f)->fg ps aZ/\∀(ρ κ:Nat->Nat) r c,(kD ρ κ s r (f r c)).2=c
def Ys(o:Nat->Obj)(l:List Sh):Prop:=∀vs ps aZ f,mh lf o l vs ps=some (aZ,f)->fg ps aZ/\∀(ρ κ:Nat->Nat) r c,(fG ρ κ l r (f r c)).2=c
theorem oZ{b:Bool}{ps aZ:PS}{f:∀r,ai r->ai r}(h:vd b ps=some (aZ,f)):b=true/\aZ=ps/\f=fun _ c=>c:=by
 cases b
 ·cases h
 ·injection h with h;injection h with h1 h2;exact⟨rfl,h1.symm,h2.symm⟩
theorem fg.tie{ps:PS}(i id:Nat):fg ps (tie i id ps):=⟨fun _ h=>zh _ h,fun _ h=>h,fun _ h=>h,fun _ h=>h⟩
theorem qv3{i:Nat}{v:V}{ps aZ:PS}{f:∀r,ai r->ai r}(h:IK o i v ps=some (aZ,f)):fg ps aZ/\f=fun _ c=>c:=by
 unfold IK at h;split at h
 ·split at h
  ·obtain⟨_,rfl,rfl⟩:=oZ h;exact⟨⟨fun _ h=>zh _ h,fun _ h=>h,fun _ h=>h,fun _ h=>zh _ h⟩,rfl⟩
  ·cases h
 ·split at h
  ·obtain⟨_,rfl,rfl⟩:=oZ h;exact⟨⟨fun _ h=>zh _ h,fun _ h=>zh _ h,fun _ h=>h,fun _ h=>h⟩,rfl⟩
  ·cases h
 ·cases h
theorem qv4{i off:Nat}{v:V}{ps aZ:PS}{f:∀r,ai r->ai r}(h:IL o i off v ps=some (aZ,f)):fg ps aZ/\f=fun _ c=>c:=by
 unfold IL at h;split at h
 ·split at h
  ·obtain⟨_,rfl,rfl⟩:=oZ h;exact⟨.tie _ _,rfl⟩
  ·obtain⟨_,rfl,rfl⟩:=oZ h;exact⟨.tie _ _,rfl⟩
  ·cases h
 ·cases h
theorem qxk{i:Nat}{v:V}{ps aZ:PS}{f:∀r,ai r->ai r}(h:vP o i v ps=some (aZ,f)):fg ps aZ/\f=fun _ c=>c:=by
 unfold vP at h;split at h
 ·split at h
  ·injection h with h;injection h with h1 h2;subst h1 h2;exact⟨.tie _ _,rfl⟩
  ·cases h
 ·cases h
theorem qxl{i:Nat}{v:V}{ps aZ:PS}{f:∀r,ai r->ai r}(h:vQ o i v ps=some (aZ,f)):fg ps aZ/\f=fun _ c=>c:=by
 unfold vQ at h;split at h
 ·split at h
  ·injection h with h;injection h with h1 h2;subst h1 h2;exact⟨.tie _ _,rfl⟩
  ·cases h
 ·cases h
theorem QG{i:Nat}{v:V}{ps aZ:PS}{f:∀r,ai r->den .bool×ai r}(h:IM o i v ps=some (aZ,f)):∃id b cs,v=.dA id b/\o id=.box cs/\aZ=tie i id ps/\f=fun _ c=>(b,c):=by
 unfold IM at h;split at h
 ·rename_i id b;split at h
  ·rename_i cs e;injection h with h;injection h with h1 h2;subst h1 h2;exact⟨id,b,cs,rfl,e,rfl,rfl⟩
  ·cases h
 ·cases h
theorem Yt:∀{b a:List (Nat×Bool)},IN b a=true->b=a
 |[],[],_=>rfl
 |[],_::_,h=>by cases h
 |_::_,[],h=>by cases h
 |(f,c)::b,(g,d)::a,h=>by
  unfold IN at h;rw[ze,ze] at h;obtain⟨⟨h1,h2⟩,h3⟩:=h;have h1:=zm h1;have h2:c=d:=by cases c<;>cases d<;>first|rfl|cases h2
  rw[h1,h2,Yt h3]
theorem Yu{imm:Nat->Prop}{w:World}{n:Int}:∀(a:List (Nat×Bool)),tQ imm w a ((a.length:Nat):Int) n .nilFunc
 |[]=>⟨rfl,rfl⟩
 |(f,c)::r=>by
  refine .inr ⟨by rw[zj];omega,?_⟩;have:(((f,c)::r).length:Int)-1=((r.length:Nat):Int):=by rw[zj];omega
  rw[this];exact Yu r
theorem QH{imm:Nat->Prop}{w:World}{n:Int}{v:Value}{f:Nat}{c:Bool}(hv:match c with|false=>v=.func (.func f) #[] #[]|true=>∃p,v=.func (.func f) #[] #[p]/\MC imm w n p):∀(a:List (Nat×Bool)) (i0 i:Nat),Ef f c a i0=some i->∃j:Nat,i=i0+j/\tQ imm w a (j:Int) n v
 |[],_,_,h=>by cases h
 |(g,d)::r,i0,i,h=>by
  unfold Ef at h;cases hb:(Nat.beq g f&&(bif c then d else !d)) with
  |true=>
   rw[hb] at h;injection h with h;subst h;rw[ze] at hb;have h1:=zm hb.1;have h2:d=c:=by have:=hb.2;cases c<;>cases d<;>first|rfl|cases this
   subst h1 h2;exact⟨0,rfl,.inl ⟨rfl,hv⟩⟩
  |false=>
   rw[hb] at h;obtain⟨j,h1,h2⟩:=QH hv r (i0+1) i h;refine⟨j+1,by omega,.inr ⟨by omega,?_⟩⟩;have:((j+1:Nat):Int)-1=(j:Int):=om
   rw[this];exact h2
theorem Yv{α:Type}{g:Nat}{x:Option α}{i:α}(h:(bif Nat.blt g 1048576 then x else none)=some i):g<1048576/\x=some i:=by
 cases hb:Nat.blt g 1048576 with
 |false=>rw[hb] at h;cases h
 |true=>rw[hb] at h;exact⟨zB hb,h⟩
theorem Yw{a:List (Nat×Bool)}{v:V}{ps aZ:PS}{f:∀r,ai r->den (.int .i64)×den (.int .i64)×ai r}(h:AR lf o a v ps=some (aZ,f)):(∃k n,v=.fa a k n/\aZ=ps/\f=fun _ c=>(k,n,c))\/(v=.gw/\aZ=ps/\f=fun _ c=>(Int.ofNat a.length,(0:Int),c))\/(∃g i,v=.fn g []/\g<1048576/\Ef g false a 0=some i/\aZ=ps/\f=fun _ c=>(Int.ofNat i,(0:Int),c))\/(∃g i w p,v=.fn g [w]/\g<1048576/\Ef g true a 0=some i/\IJ lf o (.int .i64) w ps=some (aZ,p)/\f=fun r c=>(Int.ofNat i,p r c)):=by
 unfold AR at h;split at h
 ·rename_i b k n;cases hb:IN b a<;>rw[hb] at h
  ·cases h
  ·have:=Yt hb;subst this;injection h with h;injection h with h1 h2;subst h1 h2;exact .inl ⟨k,n,rfl,rfl,rfl⟩
 ·injection h with h;injection h with h1 h2;subst h1 h2;refine .inr (.inl ⟨rfl,rfl,?_⟩);have:nN a 0=a.length:=by rw[PY,zD]
  rw[this]
 ·rename_i g;split at h
  ·rename_i i e;injection h with h;injection h with h1 h2;subst h1 h2;obtain⟨hc,e⟩:=Yv e;exact .inr (.inr (.inl ⟨g,i,rfl,hc,e,rfl,rfl⟩))
  ·cases h
 ·rename_i g w;split at h
  ·rename_i i e;split at h
   ·rename_i Dp p e2;injection h with h;injection h with h1 h2;subst h1 h2;obtain⟨hc,e⟩:=Yv e;exact .inr (.inr (.inr ⟨g,i,w,p,rfl,hc,e,e2,rfl⟩))
   ·cases h
  ·cases h
 ·cases h
theorem Yx{i:Nat}{v:V}{ps aZ:PS}{f:∀r,ai r->den (.int .i64)×ai r}(h:L9 o i v ps=some (aZ,f)):∃id ver lo t s,v=.jG id ver lo/\o id=.vec t ver false s/\aZ={tie i id ps with full:=id::ps.full}/\f=fun _ c=>((lo:den (.int .i64)),c):=by
 unfold L9 at h;split at h
 ·rename_i id ver lo;split at h
  ·rename_i t aC s e;cases hb:Nat.beq ver aC<;>rw[hb] at h
   ·cases h
   ·have:=zm hb;subst this;injection h with h;injection h with h1 h2;subst h1 h2;exact⟨id,ver,lo,t,s,rfl,e,rfl,rfl⟩
  ·cases h
 ·cases h
theorem Yy{t:Ty}{v:V}{ps aZ:PS}{f:∀r,ai r->den t×ai r}(h:O3 lf o t v ps=some (aZ,f)):fg ps aZ/\∃x,fT lf o t v=some x/\aZ={ps with cg:=fj o v++ps.cg}/\f=fun _ c=>(x,c):=by
 unfold O3 at h;split at h
 ·rename_i x e;injection h with h;injection h with h1 h2;subst h1 h2;exact⟨⟨fun _ h=>h,fun _ h=>h,fun _ h=>List.mem_append_right _ h,fun _ h=>h⟩,x,e,rfl,rfl⟩
 ·cases h
theorem QI{t:Ty}{v:V}{ps aZ:PS}{f:∀r,ai r->den t×ai r}(h:IJ lf o t v ps=some (aZ,f)):fg ps aZ/\∃x,f=(fun _ c=>(x,c))/\((v=.ref t x/\aZ=ps)\/(∃id,v=.ptr id 0/\qW lf o t id=some x/\aZ={ps with cg:=id::(Hj o id++ps.cg)})):=by
 unfold IJ at h;split at h
 ·split at h
  ·rename_i x e;injection h with h;injection h with h1 h2;subst h1 h2;obtain⟨rfl,rfl⟩:=vk e;exact⟨.refl _,_,rfl,.inl ⟨rfl,rfl⟩⟩
  ·cases h
 ·rename_i id off;cases hb:Nat.beq off 0<;>rw[hb] at h
  ·cases h
  ·have:=zm hb;subst this;simp only[cond_true] at h;split at h
   ·rename_i x e;injection h with h;injection h with h1 h2;subst h1 h2;exact⟨⟨fun _ h=>h,fun _ h=>h,fun _ h=>zh _ (List.mem_append_right _ h),fun _ h=>h⟩,x,rfl,.inr ⟨id,rfl,e,rfl⟩⟩
   ·cases h
 ·cases h
theorem z2k{t:Ty}{id kE:Nat}{x:den t}(h:O4 lf o t id=some (kE,x)):o id=.box [.ptr kE 0]/\qW lf o t kE=some x:=by
 unfold O4 at h;split at h
 ·rename_i i2 Ec e;cases hb:Nat.beq Ec 0<;>rw[hb] at h
  ·cases h
  ·have:=zm hb;subst this;simp only[cond_true] at h;split at h
   ·rename_i y e2;injection h with h;injection h with h1 h2;subst h1 h2;exact⟨e,e2⟩
   ·cases h
 ·cases h
theorem Yz{t:Ty}{v:V}{ps aZ:PS}{f:∀r,ai r->den t×ai r}(h:Ed lf o t v ps=some (aZ,f)):fg ps aZ/\∃x,f=(fun _ c=>(x,c))/\((v=.rr t x/\aZ=ps)\/(∃id kE,v=.ptr id 0/\o id=.box [.ptr kE 0]/\qW lf o t kE=some x/\aZ={ps with cg:=id::kE::(Hj o kE++ps.cg)})):=by
 unfold Ed at h;split at h
 ·split at h
  ·rename_i x e;injection h with h;injection h with h1 h2;subst h1 h2;obtain⟨rfl,rfl⟩:=vk e;exact⟨.refl _,_,rfl,.inl ⟨rfl,rfl⟩⟩
  ·cases h
 ·rename_i id off;cases hb:Nat.beq off 0<;>rw[hb] at h
  ·cases h
  ·have:=zm hb;subst this;simp only[cond_true] at h;split at h
   ·rename_i kE x e;injection h with h;injection h with h1 h2;subst h1 h2;obtain⟨e1,e2⟩:=z2k e;exact⟨⟨fun _ h=>h,fun _ h=>h,fun _ h=>zh _ (zh _ (List.mem_append_right _ h)),fun _ h=>h⟩,x,rfl,.inr ⟨id,kE,rfl,e1,e2,rfl⟩⟩
   ·cases h
 ·cases h
theorem qxm{f:Nat}{v:V}{l:List V}(h:AS f v=some l):v=.fn f l:=by
 unfold AS at h;split at h
 ·rename_i f' l';cases hb:Nat.beq f f'<;>rw[hb] at h
  ·cases h
  ·have:=zm hb;injection h with h;subst this h;rfl
 ·cases h
theorem qv5{v:V}{l:List V}(h:Ma v=some l):v=.jx l:=by
 unfold Ma at h;split at h
 ·injection h with h;subst h;rfl
 ·cases h
theorem qxn{v:V}{l:List V}(h:AT v=some l):v=.agg l:=by
 unfold AT at h;split at h
 ·injection h with h;subst h;rfl
 ·cases h
theorem M8{vs:List V}{ps aZ:PS}{f:∀r,ai r->ai (iH [] r)}(h:mh lf o [] vs ps=some (aZ,f)):vs=[]/\aZ=ps/\f=fun _ c=>c:=by have h:vd vs.isEmpty ps=some (aZ,f):=h;obtain⟨h1,h2,h3⟩:=oZ h;exact⟨by simpa using h1,h2,h3⟩
theorem Ju{s:Sh}{l:List Sh}{vs:List V}{ps aZ:PS}{f:∀r,ai r->ai (iH (s::l) r)}(h:mh lf o (s::l) vs ps=some (aZ,f)):∃v EH kG f1 g1,vs=v::EH/\C6 lf o s v ps=some (kG,f1)/\mh lf o l EH kG=some (aZ,g1)/\f=fun r c=>f1 _ (g1 r c):=by
 cases vs with
 |nil=>cases h
 |cons v vs=>
  have h:(match C6 lf o s v ps with
   |some (ps,f)=>match mh lf o l vs ps with
    |some (ps,g)=>some (ps,fun r c=>f _ (g r c))
    |none=>none
   |none=>none)=some (aZ,f):=h
  split at h
  ·rename_i kG f1 h1;split at h
   ·rename_i Dp f2 h2;injection h with h;injection h with h3 h4;subst h3 h4;exact⟨v,vs,kG,f1,f2,rfl,h1,h2,rfl⟩
   ·cases h
  ·cases h
theorem YA{g:Nat}{l:List Sh}{v:V}{ps aZ:PS}{f:∀r,ai r->ai (Hf (.fn g l) r)}(h:C6 lf o (.fn g l) v ps=some (aZ,f)):∃l',v=.fn g l'/\mh lf o l l' ps=some (aZ,f):=by
 have h:(match AS g v with|some l'=>mh lf o l l' ps|none=>none)=some (aZ,f):=h;split at h
 ·rename_i l' e;exact⟨l',qxm e,h⟩
 ·cases h
theorem YB{l:List Sh}{v:V}{ps aZ:PS}{f:∀r,ai r->ai (Hf (.jx l) r)}(h:C6 lf o (.jx l) v ps=some (aZ,f)):∃l',v=.jx l'/\mh lf o l l' ps=some (aZ,f):=by
 have h:(match Ma v with|some l'=>mh lf o l l' ps|none=>none)=some (aZ,f):=h;split at h
 ·rename_i l' e;exact⟨l',qv5 e,h⟩
 ·cases h
theorem YC{l:List Sh}{v:V}{ps aZ:PS}{f:∀r,ai r->ai (Hf (.agg l) r)}(h:C6 lf o (.agg l) v ps=some (aZ,f)):∃l',v=.agg l'/\mh lf o l l' ps=some (aZ,f):=by
 have h:(match AT v with|some l'=>mh lf o l l' ps|none=>none)=some (aZ,f):=h;split at h
 ·rename_i l' e;exact⟨l',qxn e,h⟩
 ·cases h
theorem QJ(s:Sh):z59 o s:=by
 refine Sh.rec (motive_1:=z59 o) (motive_2:=Ys o) ?_ ?_ ?_ ?_ ?_ ?_ ?_ ?_ ?_ ?_ ?_ ?_ ?_ ?_ ?_ ?_ ?_ ?_ ?_ ?_ s
 ·intro t v ps aZ f h;obtain⟨h1,x,_,_,rfl⟩:=Yy (o:=o) h;exact⟨h1,fun _ _ _ _=>rfl⟩
 ·intro i v ps aZ f h;obtain⟨h1,rfl⟩:=qv3 (o:=o) h;exact⟨h1,fun _ _ _ _=>rfl⟩
 ·intro i off v ps aZ f h;obtain⟨h1,rfl⟩:=qv4 (o:=o) h;exact⟨h1,fun _ _ _ _=>rfl⟩
 ·intro t v ps aZ f h;obtain⟨h1,x,rfl,_⟩:=QI (o:=o) h;exact⟨h1,fun _ _ _ _=>rfl⟩
 ·intro v ps aZ f h;obtain⟨_,rfl,rfl⟩:=oZ h;exact⟨.refl _,fun _ _ _ _=>rfl⟩
 ·intro g l ih v ps aZ f h;obtain⟨l',rfl,h'⟩:=YA h;obtain⟨h1,h2⟩:=ih _ _ _ _ h';exact⟨h1,h2⟩
 ·intro v ps aZ f h;obtain⟨_,rfl,rfl⟩:=oZ h;exact⟨.refl _,fun _ _ _ _=>rfl⟩
 ·intro l ih v ps aZ f h;obtain⟨l',rfl,h'⟩:=YB h;obtain⟨h1,h2⟩:=ih _ _ _ _ h';exact⟨h1,h2⟩
 ·intro l ih v ps aZ f h;obtain⟨l',rfl,h'⟩:=YC h;obtain⟨h1,h2⟩:=ih _ _ _ _ h';exact⟨h1,h2⟩
 ·intro i v ps aZ f h;obtain⟨h1,rfl⟩:=qxk (o:=o) h;exact⟨h1,fun _ _ _ _=>rfl⟩
 ·intro v ps aZ f h;obtain⟨_,rfl,rfl⟩:=oZ h;exact⟨.refl _,fun _ _ _ _=>rfl⟩
 ·intro v ps aZ f h;obtain⟨_,rfl,rfl⟩:=oZ h;exact⟨.refl _,fun _ _ _ _=>rfl⟩
 ·intro v ps aZ f h;obtain⟨_,rfl,rfl⟩:=oZ (b:=true) (ps:=ps) h;exact⟨.refl _,fun _ _ _ _=>rfl⟩
 ·intro i v ps aZ f h;obtain⟨id,b,cs,rfl,_,rfl,rfl⟩:=QG (o:=o) h;exact⟨.tie _ _,fun _ _ _ _=>rfl⟩
 ·intro i v ps aZ f h;obtain⟨id,ver,lo,t,s,rfl,_,rfl,rfl⟩:=Yx (o:=o) h;exact⟨⟨fun _ h=>zh _ h,fun _ h=>h,fun _ h=>h,fun _ h=>zh _ h⟩,fun _ _ _ _=>rfl⟩
 ·intro i v ps aZ f h;obtain⟨h1,rfl⟩:=qxl (o:=o) h;exact⟨h1,fun _ _ _ _=>rfl⟩
 ·intro a v ps aZ f h;rcases Yw (o:=o) h with ⟨k,n,rfl,rfl,rfl⟩|⟨rfl,rfl,rfl⟩|⟨g,i,rfl,_,_,rfl,rfl⟩|⟨g,i,w,p,rfl,_,_,h2,rfl⟩
  ·exact⟨.refl _,fun _ _ _ _=>rfl⟩
  ·exact⟨.refl _,fun _ _ _ _=>rfl⟩
  ·exact⟨.refl _,fun _ _ _ _=>rfl⟩
  ·obtain⟨h1,x,rfl,_⟩:=QI (o:=o) h2;exact⟨h1,fun _ _ _ _=>rfl⟩
 ·intro t v ps aZ f h;obtain⟨h1,x,rfl,_⟩:=Yz (o:=o) h;exact⟨h1,fun _ _ _ _=>rfl⟩
 ·intro vs ps aZ f h;obtain⟨rfl,rfl,rfl⟩:=M8 h;exact⟨.refl _,fun _ _ _ _=>rfl⟩
 ·intro s l il im vs ps aZ f h;obtain⟨v,EH,kG,f1,g1,rfl,h1,h2,rfl⟩:=Ju h;obtain⟨a1,a2⟩:=il _ _ _ _ h1;obtain⟨b1,b2⟩:=im _ _ _ _ h2;refine⟨a1.trans b1,fun ρ κ r c=>?_⟩;show(fG ρ κ l r (kD ρ κ s (iH l r) (f1 _ (g1 r c))).2).2=c;rw[a2,b2]
theorem HQ:∀l:List Sh,Ys o l
 |[]=>by intro vs ps aZ f h;obtain⟨rfl,rfl,rfl⟩:=M8 h;exact⟨.refl _,fun _ _ _ _=>rfl⟩
 |s::l=>by intro vs ps aZ f h;obtain⟨v,EH,kG,f1,g1,rfl,h1,h2,rfl⟩:=Ju h;obtain⟨a1,a2⟩:=QJ s _ _ _ _ h1;obtain⟨b1,b2⟩:=HQ l _ _ _ _ h2;refine⟨a1.trans b1,fun ρ κ r c=>?_⟩;show(fG ρ κ l r (kD ρ κ s (iH l r) (f1 _ (g1 r c))).2).2=c;rw[a2,b2]
theorem M9{cC:Nat}{s:fW}{ps aZ:PS}{f:∀r,ai r->ai (Hg s r)}(h:vR lf o cC s ps=some (aZ,f)):fg ps aZ/\∀(ρ κ:Nat->Nat) i r c,(fH ρ κ i s r (f r c)).2=c:=by
 cases s with
 |box l=>
  simp only[vR] at h;cases e:o cC<;>rw[e] at h<;>simp only at h<;>try (cases h;done)
  obtain⟨h1,h2⟩:=HQ l _ _ _ _ h;exact⟨h1,fun ρ κ i r c=>h2 ρ κ r c⟩
 |vec t=>
  simp only[vR] at h;split at h
  ·split at h
   ·split at h
    ·injection h with h;injection h with h1 h2;subst h1 h2;exact⟨.refl _,fun _ _ _ _ _=>rfl⟩
    ·injection h with h;injection h with h1 h2;subst h1 h2;exact⟨⟨fun _ h=>h,fun _ h=>h,fun _ h=>h,fun _ h=>zh _ h⟩,fun _ _ _ _ _=>rfl⟩
   ·cases h
  ·cases h
 |map k v=>
  simp only[vR] at h;split at h
  ·split at h
   ·injection h with h;injection h with h1 h2;subst h1 h2;exact⟨.refl _,fun _ _ _ _ _=>rfl⟩
   ·cases h
  ·cases h
 |gone=>simp only[vR] at h;injection h with h;injection h with h1 h2;subst h1 h2;exact⟨.refl _,fun _ _ _ _ _=>rfl⟩
 |iter=>
  simp only[vR] at h;split at h
  ·injection h with h;injection h with h1 h2;subst h1 h2;exact⟨.refl _,fun _ _ _ _ _=>rfl⟩
  ·cases h
def Bc(o:Nat->Obj)(psF:PS)(i:Nat)(sh:fW)(ob:Obj):Prop:=(sh=.gone/\ob=.dead)\/∃cC Ap vl f,(i,cC)∈psF.aL/\vR lf o cC sh Ap=some (vl,f)/\fg vl psF/\∃r c,ob=(fH cH bX i sh r (f r c)).1
def QK(o:Nat->Obj)(psF:PS):Nat->List fW->List (Nat×Obj)->Prop
 |_,[],os=>os=[]
 |i,s::l,os=>∃ob r,os=(i,ob)::r/\Bc o psF i s ob/\QK o psF (i+1) l r
theorem EI:∀{l:List (Nat×Nat)} {i x:Nat},ig i l=some x->(i,x)∈l
 |(a,b)::r,i,x,h=>by
  simp only[ig] at h;cases hb:Nat.beq a i with
  |true=>rw[hb] at h;have h1:=zm hb;have h2:=zI h;subst h1 h2;exact zf ..
  |false=>rw[hb] at h;exact zh _ (EI h)
theorem HS{psF:PS}:∀(l:List fW) (i:Nat) (ps aZ:PS) (g:∀r,ai r->ai (bV l r)),mv lf o i l ps=some (aZ,g)->fg ps aZ/\(fg aZ psF->∀r c,QK o psF i l (gx cH bX i l r (g r c)))
 |[],i,ps,aZ,g,h=>by simp only[mv] at h;injection h with h;injection h with h1 h2;subst h1 h2;exact⟨.refl _,fun _ _ _=>rfl⟩
 |.gone::l,i,ps,aZ,g,h=>by
  simp only[mv] at h;split at h
  ·rename_i kG g1 h1;injection h with h;injection h with h2 h3;subst h2 h3;obtain⟨a1,a2⟩:=HS l (i+1) _ _ _ h1;exact⟨a1,fun hm r c=>⟨.dead,_,rfl,.inl ⟨rfl,rfl⟩,a2 hm r c⟩⟩
  ·cases h
 |.box q::l,i,ps,aZ,g,h=>by
  simp only[mv] at h;split at h
  ·rename_i cC h0;split at h
   ·rename_i kG f1 h1;split at h
    ·rename_i Dp g2 h2;injection h with h;injection h with h3 h4;subst h3 h4;obtain⟨b1,b2⟩:=M9 h1;obtain⟨a1,a2⟩:=HS l (i+1) _ _ _ h2;refine⟨b1.trans a1,fun hm r c=>⟨_,_,rfl,.inr ⟨cC,ps,kG,f1,hm.aL _ ((b1.trans a1).aL _ (EI h0)),h1,a1.trans hm,_,_,rfl⟩,?_⟩⟩;rw[b2];exact a2 hm r c
    ·cases h
   ·cases h
  ·cases h
 |.vec q::l,i,ps,aZ,g,h=>by
  simp only[mv] at h;split at h
  ·rename_i cC h0;split at h
   ·rename_i kG f1 h1;split at h
    ·rename_i Dp g2 h2;injection h with h;injection h with h3 h4;subst h3 h4;obtain⟨b1,b2⟩:=M9 h1;obtain⟨a1,a2⟩:=HS l (i+1) _ _ _ h2;refine⟨b1.trans a1,fun hm r c=>⟨_,_,rfl,.inr ⟨cC,ps,kG,f1,hm.aL _ ((b1.trans a1).aL _ (EI h0)),h1,a1.trans hm,_,_,rfl⟩,?_⟩⟩;rw[b2];exact a2 hm r c
    ·cases h
   ·cases h
  ·cases h
 |.map q q'::l,i,ps,aZ,g,h=>by
  simp only[mv] at h;split at h
  ·rename_i cC h0;split at h
   ·rename_i kG f1 h1;split at h
    ·rename_i Dp g2 h2;injection h with h;injection h with h3 h4;subst h3 h4;obtain⟨b1,b2⟩:=M9 h1;obtain⟨a1,a2⟩:=HS l (i+1) _ _ _ h2;refine⟨b1.trans a1,fun hm r c=>⟨_,_,rfl,.inr ⟨cC,ps,kG,f1,hm.aL _ ((b1.trans a1).aL _ (EI h0)),h1,a1.trans hm,_,_,rfl⟩,?_⟩⟩;rw[b2];exact a2 hm r c
    ·cases h
   ·cases h
  ·cases h
 |.iter::l,i,ps,aZ,g,h=>by
  simp only[mv] at h;split at h
  ·rename_i cC h0;split at h
   ·rename_i kG f1 h1;split at h
    ·rename_i Dp g2 h2;injection h with h;injection h with h3 h4;subst h3 h4;obtain⟨b1,b2⟩:=M9 h1;obtain⟨a1,a2⟩:=HS l (i+1) _ _ _ h2;refine⟨b1.trans a1,fun hm r c=>⟨_,_,rfl,.inr ⟨cC,ps,kG,f1,hm.aL _ ((b1.trans a1).aL _ (EI h0)),h1,a1.trans hm,_,_,rfl⟩,?_⟩⟩;rw[b2];exact a2 hm r c
    ·cases h
   ·cases h
  ·cases h
end
theorem YD{n:Nat}{x:Option Nat}(h:O1 n x=true):x=some n:=by
 cases x with
 |none=>cases h
 |some m=>exact congrArg some (zm h)
theorem Na{x:Option Nat}(h:II x=true):x=none:=by
 cases x with
 |none=>rfl
 |some m=>cases h
theorem YE{k:Nat}{all:List (Nat×Nat)}:∀{l:List (Nat×Nat)},L4 k all l=true->∀p,p∈l->p.1<k/\ig p.1 all=some p.2/\L3 p.2 all=some p.1
 |(i,cC)::r,h,p,hp=>by
  simp only[L4,ze] at h;obtain⟨⟨⟨h1,h2⟩,h3⟩,h4⟩:=h;rcases zw.1 hp with rfl|hp
  ·exact⟨zB h1,YD h2,YD h3⟩
  ·exact YE h4 p hp
theorem YF{id n:Nat}:∀{l:List (Nat×Nat)},(id,n)∈l->∃m,ig id l=some m
 |(i,m)::r,h=>by
  simp only[ig];cases hb:Nat.beq i id with
  |true=>exact⟨m,rfl⟩
  |false=>
   rcases zw.1 h with h|h
   ·injection h with h _;subst h;rw[Nat.beq_refl] at hb;cases hb
   ·exact YF h
theorem YG:∀{l:List (Nat×Nat)},L5 l=true->∀p,p∈l->ig p.1 l=some p.2
 |(i,n)::r,h,p,hp=>by
  simp only[L5,ze] at h;simp only[ig];rcases zw.1 hp with rfl|hc
  ·rw[Nat.beq_refl];rfl
  ·cases hb:Nat.beq i p.1 with
   |true=>have:=zm hb;subst this;obtain⟨m,hm⟩:=YF (id:=p.1) (n:=p.2) hc;rw[Na h.1] at hm;cases hm
   |false=>exact YG h.2 p hc
theorem YH{cut:List (Nat×Nat)}:∀{l:List Nat},L6 cut l=true->∀p,p∈l->ig p cut=none
 |i::r,h,p,hp=>by
  simp only[L6,ze] at h;rcases zw.1 hp with rfl|hp
  ·exact Na h.1
  ·exact YH h.2 p hp
theorem z2l{aL:List (Nat×Nat)}:∀{i j:Nat},(i,j)∈aL->vO j aL=true:=by
 induction aL with
 |nil=>intro i j h;cases h
 |cons p r ih=>
  obtain⟨a,b⟩:=p;intro i j h;simp only[vO];rcases zw.1 h with h|h
  ·injection h with _ h;subst h;rw[Nat.beq_refl];rfl
  ·cases hb:Nat.beq b j
   ·exact ih h
   ·rfl
theorem YI{aL:List (Nat×Nat)}:∀{l:List Nat},L7 l aL=true->∀j,j∈l->∀i,(i,j)∉aL
 |a::r,h,j,hj,i,hi=>by
  simp only[L7] at h;cases hb:vO a aL with
  |true=>rw[hb] at h;cases h
  |false=>
   rw[hb] at h;rcases zw.1 hj with rfl|hj
   ·rw[z2l hi] at hb;cases hb
   ·exact YI h j hj i hi
section
variable {C:Cx} {X:Nat→Prop} {φ:Nat→Addr} {o:Nat→Obj} {w:World} {imm imm':Nat→Prop}
theorem YJ(hl:∀id,oV φ o imm w id (o id))(hi:∀b,imm b->imm' b){t:Ty}{x:V}{d:den t}{z:Value}(hx:aq φ o imm w x z)(hf:∀id,id∈fj o x->∀t ver s,o id=.vec t ver false s->s.nil=false->(φ id).spot=none->imm' (φ id).block)(h:jk lf o t x=some d):aT imm' w t d z:=by
 rcases MH h with rfl|⟨e',ht,s',h1,h2⟩|⟨e',ht,rfl,h2⟩
 ·exact rf hi (fun _ _=>rfl) _ _ _ hx
 ·subst ht;subst h2;obtain⟨⟨g1,g2⟩,id,ver,fr,s0,g3,g4,g5,g6,g8⟩:=MG hl hx h1;refine⟨z,rfl,g1,?_⟩;rcases g2 with g2|⟨hn,a,cap,ec,h5,h6,h7,h8,h9⟩
  ·exact .inl g2
  ·refine .inr ⟨hn,a,cap,ec,h5,h6,fun hc=>?_,nh (gX hi (fun _ _=>rfl) _) h7,h8,h9⟩;rw[g4 hn _ _ _ h5];have ho:=hl id;rw[g3] at ho;obtain⟨_,_,ho⟩:=ho;rcases ho (g5▸hn) with ⟨g9,_,_,_,_,_,g7⟩|⟨_,g7,_⟩
   ·cases e:fr with
    |false=>subst e;exact hf id (g6 rfl) _ _ _ g3 (g5▸hn) g9
    |true=>exact hi _ (g7 e)
   ·exact absurd (g8 g7) hc
 ·subst ht;subst h2;exact⟨z,rfl,Nat.zero_le _,.inl ⟨rfl,rfl,hx⟩⟩
theorem YK(hl:∀id,oV φ o imm w id (o id))(hi:∀b,imm b->imm' b){t:Ty}{x:V}{d:den t}{z:Value}(hx:aq φ o imm w x z)(hf:∀id,id∈fj o x->∀t ver s,o id=.vec t ver false s->s.nil=false->(φ id).spot=none->imm' (φ id).block)(h:mu lf o t x=some d):aT imm' w t d z:=by
 rcases MI h with h|⟨p,ht,s,h1,h2⟩
 ·exact YJ hl hi hx hf h
 ·subst ht;subst h2;have h3:aA imm' w (.sl (mg p)) s [z]:=YJ hl hi hx hf h1;show aA imm' w (.ks p) (Hb p s) [z];rw[Hx,PU];exact h3
def Bd(φ:Nat->Addr)(o:Nat->Obj)(imm':Nat->Prop)(x:V):Prop:=∀id,id∈fj o x->∀t ver s,o id=.vec t ver false s->s.nil=false->(φ id).spot=none->imm' (φ id).block
theorem QL(hl:∀id,oV φ o imm w id (o id))(hi:∀b,imm b->imm' b):∀(t:Ty) (cs r:List V) (d:den t) (zs:List Value),cd φ o imm w cs zs->(∀c,c∈cs->Bd φ o imm' c)->lD lf o t cs=some (d,r)->∃zc zr,zs=zc++zr/\aA imm' w t d zc/\cd φ o imm w r zr/\(∀c,c∈r->Bd φ o imm' c):=by
 have one:∀(t:Ty) (cs r:List V) (d:den t) (zs:List Value),cd φ o imm w cs zs->(∀c,c∈cs->Bd φ o imm' c)->
   (match cs with|c::r=>(match mu lf o t c with|some x=>some (x,r)|none=>none)|[]=>none)=some (d,r)->
   ∃z zr,zs=z::zr/\aT imm' w t d z/\cd φ o imm w r zr/\(∀c,c∈r->Bd φ o imm' c):=by
  intro t cs r d zs hr hf h;cases cs with
  |nil=>cases h
  |cons c cs=>
   simp only at h;split at h
   ·rename_i x hx;injection h with h;injection h with h1 h2;subst h1 h2;obtain⟨z,zr,h3,h4,h5⟩:=hr;exact⟨z,zr,h3,YK hl hi h4 (hf _ (zf ..)) hx,h5,fun c hc=>hf c (zh _ hc)⟩
   ·cases h
 intro t
 induction t with
 |unit=>intro cs r d zs hr hf h;simp only[lD,zE,Prod.mk.injEq] at h;obtain⟨_,rfl⟩:=h;exact⟨[],zs,rfl,rfl,hr,hf⟩
 |pair a b nW kh=>
  intro cs r d zs hr hf h;simp only[lD] at h;split at h
  ·rename_i x r1 h1;split at h
   ·rename_i y r2 h2;injection h with h;injection h with h3 h4;subst h3 h4;obtain⟨zc,zr,e1,e2,e3,e4⟩:=nW _ _ _ _ hr hf h1;obtain⟨Jg,Qa,g1,g2,g3,g4⟩:=kh _ _ _ _ e3 e4 h2;exact⟨zc++Jg,Qa,by rw[e1,g1,zo],⟨zc,Jg,rfl,e2,g2⟩,g3,g4⟩
   ·cases h
  ·cases h
 |st p ih=>intro cs r d zs hr hf h;exact ih _ _ _ _ hr hf h
 |arr n e _=>intro cs r d zs hr hf h;cases h
 |int k=>intro cs r d zs hr hf h;obtain⟨z,zr,e1,e2,e3⟩:=one _ cs r d zs hr hf (by cases cs<;>exact h);exact⟨[z],zr,e1,e2,e3⟩
 |bool=>intro cs r d zs hr hf h;obtain⟨z,zr,e1,e2,e3⟩:=one _ cs r d zs hr hf (by cases cs<;>exact h);exact⟨[z],zr,e1,e2,e3⟩
 |fc=>intro cs r d zs hr hf h;obtain⟨z,zr,e1,e2,e3⟩:=one _ cs r d zs hr hf (by cases cs<;>exact h);exact⟨[z],zr,e1,e2,e3⟩
 |dC=>intro cs r d zs hr hf h;obtain⟨z,zr,e1,e2,e3⟩:=one _ cs r d zs hr hf (by cases cs<;>exact h);exact⟨[z],zr,e1,e2,e3⟩
 |str=>intro cs r d zs hr hf h;obtain⟨z,zr,e1,e2,e3⟩:=one _ cs r d zs hr hf (by cases cs<;>exact h);exact⟨[z],zr,e1,e2,e3⟩
 |sl e _=>intro cs r d zs hr hf h;obtain⟨z,zr,e1,e2,e3⟩:=one _ cs r d zs hr hf (by cases cs<;>exact h);exact⟨[z],zr,e1,e2,e3⟩
 |ks e _=>intro cs r d zs hr hf h;obtain⟨z,zr,e1,e2,e3⟩:=one _ cs r d zs hr hf (by cases cs<;>exact h);exact⟨[z],zr,e1,e2,e3⟩
theorem YL:∀{cs:List V},Bd φ o imm' (.agg cs)->∀c,c∈cs->Bd φ o imm' c
 |c'::cs,h,c,hc,id,hi=>by
  rcases zw.1 hc with rfl|hc
  ·exact h id (by unfold fj pw;exact List.mem_append_left _ hi)
  ·exact YL (cs:=cs) (fun id hi=>h id (by unfold fj at hi ⊢;unfold pw;exact List.mem_append_right _ hi)) c hc id hi
theorem qxq(hl:∀id,oV φ o imm w id (o id))(hi:∀b,imm b->imm' b){t:Ty}{x:V}{d:den t}{z:Value}(hx:aq φ o imm w x z)(hf:Bd φ o imm' x)(h:fT lf o t x=some d):aT imm' w t d z:=by
 by_cases hc:∃cs,x=.agg cs
 ·obtain⟨cs,rfl⟩:=hc;simp only[fT] at h;split at h
  ·rename_i p;split at h
   ·rename_i y h1;injection h with h;subst h;obtain⟨c,rfl,hr⟩:=hx;obtain⟨zc,zr,e1,e2,e3,_⟩:=QL hl hi _ _ _ _ _ hr (YL hf) h1;have:zr=[]:=e3;subst this;exact⟨c,rfl,by rw[e1,zt];exact e2⟩
   ·cases h
  ·cases h
 ·have:fT lf o t x=mu lf o t x:=by cases x<;>first|rfl|exact absurd ⟨_,rfl⟩ hc
  exact YK hl hi hx hf (this▸h)
structure bS (o:Nat->Obj) (psF:PS) (k:Nat) (ay:List fW) (oc:Nat->Obj):Prop where
 fin:Eb k psF=true
 len:ay.length=k
 ob:∀i sh,ay[i]?=some sh->Bc o psF i sh (oc i)
 none:∀i,k<=i->oc i=.none
def tV(psF:PS)(i:Nat):Nat:=(ig i psF.aL).getD 0
theorem bS.aL{psF:PS}{k:Nat}{ay:List fW}{oc:Nat->Obj}(h:bS o psF k ay oc){i cC:Nat}(hp:(i,cC)∈psF.aL):i<k/\tV psF i=cC/\L3 cC psF.aL=some i:=by have hf:=h.fin;unfold Eb at hf;simp only[ze] at hf;obtain⟨h1,h2,h3⟩:=YE hf.1.1.1 _ hp;exact⟨h1,by unfold tV;rw[h2];rfl,h3⟩
theorem bS.cg{psF:PS}{k:Nat}{ay:List fW}{oc:Nat->Obj}(h:bS o psF k ay oc){i cC:Nat}(hp:(i,cC)∈psF.aL):cC∉psF.cg:=fun hl=>by have hf:=h.fin;unfold Eb at hf;simp only[ze] at hf;exact YI hf.2 cC hl i hp
theorem bS.cut{psF:PS}{k:Nat}{ay:List fW}{oc:Nat->Obj}(h:bS o psF k ay oc){id n:Nat}(hp:(id,n)∈psF.cut):ig id psF.cut=some n:=by have hf:=h.fin;unfold Eb at hf;simp only[ze] at hf;exact YG hf.1.1.2 _ hp
theorem bS.full{psF:PS}{k:Nat}{ay:List fW}{oc:Nat->Obj}(h:bS o psF k ay oc){id:Nat}(hp:id∈psF.full):ig id psF.cut=.none:=by have hf:=h.fin;unfold Eb at hf;simp only[ze] at hf;exact YH hf.1.2 _ hp
noncomputable def Be{t:Ty}(s:Sl (den t)):Option Nat->Sl (den t)
 |some n=>⟨s.nil,lf.aI s.l n⟩
 |none=>s
theorem bS.kind{psF:PS}{k:Nat}{ay:List fW}{oc:Nat->Obj}(h:bS o psF k ay oc){i:Nat}(hi:i<k):oc i=.dead\/∃cC,(i,cC)∈psF.aL/\((∃l cs Ap vl f r c,o cC=.box cs/\mh lf o l cs Ap=some (vl,f)/\fg vl psF/\oc i=.box (fG cH bX l r (f r c)).1)\/(∃t ver s,o cC=.vec t ver false s/\oc i=.vec t 0 false (Be s (ig cC psF.cut)))\/(∃k v m,o cC=.map k v m/\oc i=.map k v m)\/(∃l p,o cC=.iter l p/\oc i=.iter l p)):=by
 have hc:i<ay.length:=by rw[h.len];exact hi
 rcases h.ob i _ (zg hc) with ⟨_,h1⟩|⟨cC,Ap,vl,f,h1,h2,h3,r,c,h4⟩
 ·exact .inl h1
 ·generalize hg:ay[i]=sh at*
  cases sh with
  |gone=>exact .inl h4
  |box l=>
   have h2:(match o cC with|.box cs=>mh lf o l cs Ap|_=>.none)=some (vl,f):=h2;cases e:o cC<;>rw[e] at h2<;>try (cases h2;done)
   exact .inr ⟨cC,h1,.inl ⟨l,_,Ap,vl,f,r,c,e,h2,h3,h4⟩⟩
  |vec t=>
   simp only[vR] at h2;cases e:o cC<;>rw[e] at h2<;>try (cases h2;done)
   rename_i t' ver fr s;cases fr<;>try (cases h2;done)
   simp only at h2;split at h2
   ·rename_i s' hs;obtain⟨ht,hs⟩:=vk hs;injection ht with ht;subst ht;subst hs;refine .inr ⟨cC,h1,.inr (.inl ⟨t',ver,_,e,?_⟩)⟩;split at h2
    ·rename_i n hn;injection h2 with h2;injection h2 with h5 h6;subst h5 h6;rw[h4,h.cut (h3.cut _ (EI hn))];rfl
    ·injection h2 with h2;injection h2 with h5 h6;subst h5 h6;rw[h4,h.full (h3.full _ (zf ..))];rfl
   ·cases h2
  |map kt vt=>
   simp only[vR] at h2;cases e:o cC<;>rw[e] at h2<;>try (cases h2;done)
   rename_i k' v' m;simp only at h2;split at h2
   ·rename_i m' hs;obtain⟨ht,hs⟩:=vk hs;injection ht with _ ht;injection ht with he hf;subst he hf;subst hs;injection h2 with h2;injection h2 with h5 h6;subst h5 h6;exact .inr ⟨cC,h1,.inr (.inr (.inl ⟨_,_,_,e,h4⟩))⟩
   ·cases h2
  |iter=>
   simp only[vR] at h2;cases e:o cC<;>rw[e] at h2<;>try (cases h2;done)
   injection h2 with h2;injection h2 with h5 h6;subst h5 h6;exact .inr ⟨cC,h1,.inr (.inr (.inr ⟨_,_,e,h4⟩))⟩
end
section
variable {C:Cx} {X:Nat→Prop} {φ:Nat→Addr} {o oc:Nat→Obj} {w:World} {psF:PS} {k:Nat} {ay:List fW}
def ft(φ:Nat->Addr)(psF:PS):Nat->Addr:=fun i=>φ (tV psF i)
def XC(X:Nat->Prop)(φ:Nat->Addr)(o oc:Nat->Obj)(psF:PS)(b:Nat):Prop:=X b\/∃id,aP (φ id) (o id)=true/\(φ id).block=b/\id∉psF.cg/\¬∃i,aP (ft φ psF i) (oc i)=true/\tV psF i=id
theorem bS.EJ(h:bS o psF k ay oc){i:Nat}(hx:aP (ft φ psF i) (oc i)=true):i<k/\(i,tV psF i)∈psF.aL/\aP (φ (tV psF i)) (o (tV psF i))=true:=by
 have hi:i<k:=zA fun hn=>by rw[h.none i om] at hx;exact lz hx
 rcases h.kind hi with h1|⟨cC,h1,h2⟩
 ·rw[h1] at hx;simp[aP,live] at hx
 ·have:=(h.aL h1).2.1;unfold ft at hx;rw[this] at hx ⊢;refine⟨hi,h1,?_⟩;rcases h2 with ⟨l,cs,Ap,vl,f,r,c,e,_⟩|⟨t,ver,s,e,e'⟩|⟨_,_,m,e,_⟩|⟨_,_,e,_⟩
  ·rw[e];rfl
  ·rw[e'] at hx;obtain⟨hn,_,hs⟩:=A4 hx;have hn:s.nil=false:=by cases hc:ig cC psF.cut<;>rw[hc] at hn<;>simpa[Be] using hn
   rw[e];exact qM hn hs
  ·rw[e];rfl
  ·rw[e];rfl
theorem bS.lI(h:bS o psF k ay oc){b:Nat}(hb:mw (ft φ psF) oc b):mw φ o b:=by obtain⟨i,h1,h2⟩:=hb;exact⟨tV psF i,(h.EJ h1).2.2,h2⟩
theorem bS.imm(h:bS o psF k ay oc){b:Nat}(hb:ah X φ o w b):ah (XC X φ o oc psF) (ft φ psF) oc w b:=by
 obtain⟨h1,h2,h3⟩:=hb;refine⟨h1,?_,fun hn=>h3 (h.lI hn)⟩;rintro(hx|⟨id,e1,e2,_⟩)
 ·exact h2 hx
 ·exact h3 ⟨id,e1,e2⟩
theorem bS.nk(h:bS o psF k ay oc)(hm:MRel C X φ o w){id:Nat}(hx:aP (φ id) (o id)=true)(hl:id∈psF.cg):ah (XC X φ o oc psF) (ft φ psF) oc w (φ id).block:=by
 obtain⟨h1,h2⟩:=hm.sep id hx;refine⟨h1,?_,fun⟨i,e1,e2⟩=>?_⟩
 ·rintro(hc|⟨nX,e1,e2,e3,_⟩)
  ·exact h2 hc
  ·have:=hm.inj nX id e1 hx e2;exact e3 (this▸hl)
 ·obtain⟨_,g1,g2⟩:=h.EJ e1;have:=hm.inj _ id g2 hx e2;exact h.cg g1 (this▸hl)
def Nb(φ:Nat->Addr)(o oc:Nat->Obj)(imm EK:Nat->Prop)(w:World)(psF:PS)(s:Sh):Prop:=∀v z ps aZ f,aq φ o imm w v z->C6 lf o s v ps=some (aZ,f)->fg aZ psF->
 ∀r c,aq (ft φ psF) oc EK w (kD cH bX s r (f r c)).1 z
def YM(φ:Nat->Addr)(o oc:Nat->Obj)(imm EK:Nat->Prop)(w:World)(psF:PS)(l:List Sh):Prop:=∀vs zs ps aZ f,cd φ o imm w vs zs->mh lf o l vs ps=some (aZ,f)->fg aZ psF->
 ∀r c,cd (ft φ psF) oc EK w (fG cH bX l r (f r c)).1 zs
theorem Aq(h:bS o psF k ay oc){i id:Nat}(hp:(i,id)∈psF.aL):oc i=.dead\/((∃cs km,o id=.box cs/\oc i=.box km)\/(∃t ver s,o id=.vec t ver false s/\oc i=.vec t 0 false (Be s (ig id psF.cut)))\/(∃k v m,o id=.map k v m/\oc i=.map k v m)\/(∃l p,o id=.iter l p/\oc i=.iter l p))/\ft φ psF i=φ id:=by
 obtain⟨h1,h2,_⟩:=h.aL hp;rcases h.kind h1 with h3|⟨cC,h3,h4⟩
 ·exact .inl h3
 ·have:=(h.aL h3).2.1;rw[h2] at this;subst this;refine .inr ⟨?_,by unfold ft;rw[h2]⟩;rcases h4 with ⟨l,cs,Ap,vl,f,r,c,e,_,_,e'⟩|h4|h4|h4
  ·exact .inl ⟨cs,_,e,e'⟩
  ·exact .inr (.inl h4)
  ·exact .inr (.inr (.inl h4))
  ·exact .inr (.inr (.inr h4))
theorem QM:∀{cs:List V} {q:V} {id:Nat},q∈cs->id∈fj o q->id∈pw o cs
 |c::cs,q,id,hq,hi=>by
  unfold pw;rcases zw.1 hq with rfl|hq
  ·exact List.mem_append_left _ hi
  ·exact List.mem_append_right _ (QM hq hi)
theorem YN(hm:MRel C X φ o w)(h:bS o psF k ay oc)(t:Ty):Nb φ o oc (ah X φ o w) (ah (XC X φ o oc psF) (ft φ psF) oc w) w psF (.ref t):=by
 intro v z ps aZ f hv hp hM r c;obtain⟨_,x,rfl,hx⟩:=QI (o:=o) hp;show aq (ft φ psF) oc _ w (.ref t x) z;rcases hx with ⟨rfl,rfl⟩|⟨id,rfl,hb,rfl⟩
 ·obtain⟨a,cs,h1,h2,h3,h4,h5⟩:=hv;exact⟨a,cs,h1,h2,h.imm h3,gX (fun b hb=>h.imm hb) (fun _ _=>rfl) _ _ _ h4,h5⟩
 ·unfold qW at hb;split at hb
  ·rename_i cs e;split at hb
   ·rename_i y hy;injection hb with hb;subst hb;have he:aP (φ id) (o id)=true:=by rw[e];rfl
    have hc:id∈psF.cg:=hM.cg _ (zf ..);have ho:=hm.ay id;unfold aq at hv;rw[e] at hv ho;simp only at hv;subst hv;obtain⟨h0,cz,el,lo,hj,g1,g2,g3⟩:=ho;have hf:∀q,q∈cs->Bd φ o (ah (XC X φ o oc psF) (ft φ psF) oc w) q:=by intro q hq nX hi t ver s e' hn hs;refine h.nk hm (by rw[e'];exact qM hn hs) (hM.cg _ (zh _ (List.mem_append_left _ ?_)));unfold Hj;rw[e];exact QM hq hi
    obtain⟨zc,zr,a1,a2,a3,_⟩:=QL hm.ay (fun b hb=>h.imm hb) _ _ _ _ _ g3 hf hy;have:zr=[]:=a3;subst this;refine⟨_,zc,rfl,rfl,h.nk hm he hc,a2,?_⟩;have:=Jl g1 0 cz.size;rw[List.drop_zero,a1,zt] at this;have hg:zc.length=cz.size:=by rw[<-Array.length_toList,a1,zt]
    rw[<-hg,List.take_length] at this;rw[h0,zD];exact this
   ·cases hb
  ·cases hb
theorem z7k(hm:MRel C X φ o w)(h:bS o psF k ay oc)(t:Ty):Nb φ o oc (ah X φ o w) (ah (XC X φ o oc psF) (ft φ psF) oc w) w psF (.rr t):=by
 intro v z ps aZ f hv hp hM r c;obtain⟨_,x,rfl,hx⟩:=Yz (o:=o) hp;show aq (ft φ psF) oc _ w (.rr t x) z;rcases hx with ⟨rfl,rfl⟩|⟨id,kE,rfl,hg,hb,rfl⟩
 ·obtain⟨a,b,cs,h1,h2,h3,h4,h5,h6,h7,h8⟩:=hv;exact⟨a,b,cs,h1,h2,h.imm h3,h4,h5,h.imm h6,gX (fun b hb=>h.imm hb) (fun _ _=>rfl) _ _ _ h7,h8⟩
 ·unfold qW at hb;split at hb
  ·rename_i cs e;split at hb
   ·rename_i y hy;injection hb with hb;subst hb;have hc:aP (φ id) (o id)=true:=by rw[hg];rfl
    have hk:aP (φ kE) (o kE)=true:=by rw[e];rfl
    have hl:id∈psF.cg:=hM.cg _ (zf ..);have he:kE∈psF.cg:=hM.cg _ (zh _ (zf ..));have hj:=hm.ay id;have ho:=hm.ay kE;unfold aq at hv;rw[hg] at hv hj;rw[e] at ho;simp only at hv;subst hv;obtain⟨k0,YO,el1,Nc,hu,q1,q2,q3⟩:=hj;obtain⟨zp,rp,p1,p2,p3⟩:=q3;have p3:rp=[]:=p3;have p2:aq φ o (ah X φ o w) w (.ptr kE 0) zp:=p2;unfold aq at p2;rw[e] at p2;simp only at p2;subst p2 p3;obtain⟨h0,cz,el,lo,hw,g1,g2,g3⟩:=ho;have ht:∀q,q∈cs->Bd φ o (ah (XC X φ o oc psF) (ft φ psF) oc w) q:=by intro q hq nX hi t ver s e' hn hs;refine h.nk hm (by rw[e'];exact qM hn hs) (hM.cg _ (zh _ (zh _ (List.mem_append_left _ ?_))));unfold Hj;rw[e];exact QM hq hi
    obtain⟨zc,zr,a1,a2,a3,_⟩:=QL hm.ay (fun b hb=>h.imm hb) _ _ _ _ _ g3 ht hy;have:zr=[]:=a3;subst this;refine⟨⟨(φ id).block,(φ id).off+0,none⟩,⟨(φ kE).block,(φ kE).off+0,none⟩,zc,rfl,rfl,h.nk hm hc hl,?_,rfl,h.nk hm hk he,a2,?_⟩
    ·have:=Jl q1 0 YO.size;rw[List.drop_zero,p1] at this;have hf:[Value.pointer (some ⟨(φ kE).block,(φ kE).off+0,none⟩)].length=YO.size:=by rw[<-Array.length_toList,p1]
     rw[<-hf,List.take_length] at this;rw[k0,zD];exact this
    ·have:=Jl g1 0 cz.size;rw[List.drop_zero,a1,zt] at this;have hf:zc.length=cz.size:=by rw[<-Array.length_toList,a1,zt]
     rw[<-hf,List.take_length] at this;rw[h0,zD];exact this
   ·cases hb
  ·cases hb
theorem QN(hm:MRel C X φ o w)(h:bS o psF k ay oc)(s:Sh):Nb φ o oc (ah X φ o w) (ah (XC X φ o oc psF) (ft φ psF) oc w) w psF s:=by
 refine Sh.rec (motive_1:=Nb φ o oc (ah X φ o w) (ah (XC X φ o oc psF) (ft φ psF) oc w) w psF) (motive_2:=YM φ o oc (ah X φ o w) (ah (XC X φ o oc psF) (ft φ psF) oc w) w psF)
  ?_ ?_ ?_ ?_ ?_ ?_ ?_ ?_ ?_ ?_ ?_ ?_ ?_ ?_ ?_ ?_ ?_ ?_ ?_ ?_ s
 ·intro t v z ps aZ f hv hp hM r c;obtain⟨_,x,h1,rfl,rfl⟩:=Yy (o:=o) hp;refine qxq hm.ay (fun b hb=>h.imm hb) hv (fun id hi t ver s e hn hs=>h.nk hm (by rw[e];exact qM hn hs) (hM.cg _ (List.mem_append_left _ hi))) h1
 ·intro i v z ps aZ f hv hp hM r c;replace hp:IK o i v ps=some (aZ,f):=hp;unfold IK at hp;show aq (ft φ psF) oc _ w (.bM i 0) z;split at hp
  ·rename_i id ver;split at hp
   ·rename_i t aC s e;obtain⟨hb,rfl,rfl⟩:=oZ hp;have hr:=hM.aL _ (zf ..);have he:=h.full (hM.full _ (zf ..));unfold aq at hv ⊢;rw[e] at hv;replace hv:=hv.2 (zm hb);rcases Aq (φ:=φ) h hr with hd|⟨⟨cs,km,e1,_⟩|⟨t',rl,s',e1,e2⟩|⟨_,_,m,e1,_⟩|⟨_,_,e1,e3⟩,dJ⟩
    ·rw[hd];trivial
    ·rw[e1] at e;cases e
    ·rw[e1] at e;injection e with ea eb ec ed;subst ea eb;have ed:=eq_of_heq ed;subst ed;rw[e2,he,dJ];exact⟨Nat.le_refl _,fun _=>hv⟩
    ·rw[e1] at e;cases e
    ·rw[e1] at e;cases e
   ·cases hp
  ·rename_i id ver n cp;split at hp
   ·rename_i t aC s e;obtain⟨hb,rfl,rfl⟩:=oZ hp;have hr:=hM.aL _ (zf ..);have hc:=h.cut (hM.cut _ (zf ..));unfold aq at hv ⊢;rw[e] at hv;obtain⟨hn,hj,_⟩:=hv.2 (zm hb);clear hv;rcases Aq (φ:=φ) h hr with hd|⟨⟨cs,km,e1,_⟩|⟨t',rl,s',e1,e2⟩|⟨_,_,m,e1,_⟩|⟨_,_,e1,e3⟩,dJ⟩
    ·rw[hd];trivial
    ·rw[e1] at e;cases e
    ·rw[e1] at e;injection e with ea eb ec ed;subst ea eb;have ed:=eq_of_heq ed;subst ed;rw[e2,hc,dJ];have hl:(lf.aI s'.l n).length=n:=by simp[lf,aI,Nat.min_eq_left hn]
     refine⟨Nat.le_refl _,fun _=>?_⟩;simp only[Be];rw[hl];exact hj
    ·rw[e1] at e;cases e
    ·rw[e1] at e;cases e
   ·cases hp
  ·cases hp
 ·intro i off v z ps aZ f hv hp hM r c;replace hp:IL o i off v ps=some (aZ,f):=hp;unfold IL at hp;show aq (ft φ psF) oc _ w (.ptr i off) z;split at hp
  ·rename_i id Ee;unfold aq at hv ⊢;split at hp
   ·rename_i cs0 e;obtain⟨hb,rfl,rfl⟩:=oZ hp;have hr:=hM.aL _ (zf ..);have:=zm hb;subst this;rw[e] at hv;rcases Aq (φ:=φ) h hr with hd|⟨⟨cs,km,e1,e2⟩|⟨t',rl,s',e1,e2⟩|⟨_,_,m,e1,_⟩|⟨_,_,e1,e3⟩,dJ⟩
    ·rw[hd];trivial
    ·rw[e2,dJ];exact hv
    ·rw[e1] at e;cases e
    ·rw[e1] at e;cases e
    ·rw[e1] at e;cases e
   ·rename_i t aC s e;obtain⟨hb,rfl,rfl⟩:=oZ hp;rw[ze] at hb;have hr:=hM.aL _ (zf ..);have:=zm hb.1;subst this;rw[e] at hv;replace hv:=hv (zm hb.2).symm;rcases Aq (φ:=φ) h hr with hd|⟨⟨cs,km,e1,e2⟩|⟨t',rl,s',e1,e2⟩|⟨_,_,m,e1,_⟩|⟨_,_,e1,e3⟩,dJ⟩
    ·rw[hd];trivial
    ·rw[e1] at e;cases e
    ·rw[e2,dJ];exact fun _=>hv
    ·rw[e1] at e;cases e
    ·rw[e1] at e;cases e
   ·cases hp
  ·cases hp
 ·exact fun t=>YN hm h t
 ·intro v z ps aZ f hv hp hM r c;obtain⟨hb,_,rfl⟩:=oZ hp;have:v=.gI:=by cases v<;>first|rfl|cases hb
  subst this;exact hv
 ·intro g l ih v z ps aZ f hv hp hM r c;obtain⟨l',rfl,hf⟩:=YA hp;obtain⟨cz,h1,h2⟩:=hv;exact⟨cz,h1,ih _ _ _ _ _ h2 hf hM r c⟩
 ·intro v z ps aZ f hv hp hM r c;obtain⟨hb,_,rfl⟩:=oZ hp;have:v=.gw:=by cases v<;>first|rfl|cases hb
  subst this;exact hv
 ·intro l ih v z ps aZ f hv hp hM r c;obtain⟨l',rfl,hf⟩:=YB hp;obtain⟨cz,h1,h2⟩:=hv;exact⟨cz,h1,ih _ _ _ _ _ h2 hf hM r c⟩
 ·intro l ih v z ps aZ f hv hp hM r c;obtain⟨l',rfl,hf⟩:=YC hp;obtain⟨cz,h1,h2⟩:=hv;exact⟨cz,h1,ih _ _ _ _ _ h2 hf hM r c⟩
 ·intro i v z ps aZ f hv hp hM r c;replace hp:vP o i v ps=some (aZ,f):=hp;unfold vP at hp;show aq (ft φ psF) oc _ w (.mp i) z;split at hp
  ·rename_i id;unfold aq at hv ⊢;split at hp
   ·rename_i e;injection hp with hp;injection hp with h1 h2;subst h1 h2;have hr:=hM.aL _ (zf ..);rw[e] at hv;rcases Aq (φ:=φ) h hr with hd|⟨⟨cs,km,e1,e2⟩|⟨t',rl,s',e1,e2⟩|⟨_,_,m,e1,e2⟩|⟨_,_,e1,e3⟩,dJ⟩
    ·rw[hd];trivial
    ·rw[e1] at e;cases e
    ·rw[e1] at e;cases e
    ·rw[e2,dJ];exact hv
    ·rw[e1] at e;cases e
   ·cases hp
  ·cases hp
 ·intro v z ps aZ f hv hp hM r c;obtain⟨hb,_,rfl⟩:=oZ hp;have:v=.jj:=by cases v<;>first|rfl|cases hb
  subst this;exact hv
 ·intro v z ps aZ f hv hp hM r c;obtain⟨hb,_,rfl⟩:=oZ hp;have:v=.ie:=by cases v<;>first|rfl|cases hb
  subst this;exact hv
 ·intro v z ps aZ f hv hp hM r c;exact trivial
 ·intro i v z ps aZ f hv hp hM r c;replace hp:IM o i v ps=some (aZ,f):=hp;obtain⟨id,b,cs,rfl,e,rfl,rfl⟩:=QG hp;have hr:=hM.aL _ (zf ..);show aq (ft φ psF) oc _ w (.dA i b) z;unfold aq at hv ⊢;rw[e] at hv;rcases Aq (φ:=φ) h hr with hd|⟨⟨cs,km,e1,e2⟩|⟨t',rl,s',e1,e2⟩|⟨_,_,m,e1,e2⟩|⟨_,_,e1,e3⟩,dJ⟩
  ·rw[hd];trivial
  ·rw[e2,dJ];exact hv
  ·rw[e1] at e;cases e
  ·rw[e1] at e;cases e
  ·rw[e1] at e;cases e
 ·intro i v z ps aZ f hv hp hM r c;replace hp:L9 o i v ps=some (aZ,f):=hp;obtain⟨id,ver,lo,t,s,rfl,e,rfl,rfl⟩:=Yx hp;have hr:=hM.aL _ (zf ..);have hc:=h.full (hM.full _ (zf ..));show aq (ft φ psF) oc _ w (.jG i 0 lo) z;unfold aq at hv ⊢;rw[e] at hv;replace hv:=hv.2 rfl;rcases Aq (φ:=φ) h hr with hd|⟨⟨cs,km,e1,e2⟩|⟨t',rl,s',e1,e2⟩|⟨_,_,m,e1,e2⟩|⟨_,_,e1,e3⟩,dJ⟩
  ·rw[hd];trivial
  ·rw[e1] at e;cases e
  ·rw[e1] at e;injection e with ea eb ec ed;subst ea eb;have ed:=eq_of_heq ed;subst ed;rw[e2,hc,dJ];exact⟨Nat.le_refl _,fun _=>hv⟩
  ·rw[e1] at e;cases e
  ·rw[e1] at e;cases e
 ·intro i v z ps aZ f hv hp hM r c;replace hp:vQ o i v ps=some (aZ,f):=hp;unfold vQ at hp;show aq (ft φ psF) oc _ w (.it i) z;split at hp
  ·rename_i id;unfold aq at hv ⊢;split at hp
   ·rename_i e;injection hp with hp;injection hp with h1 h2;subst h1 h2;have hr:=hM.aL _ (zf ..);rw[e] at hv;rcases Aq (φ:=φ) h hr with hd|⟨⟨cs,km,e1,e2⟩|⟨t',rl,s',e1,e2⟩|⟨_,_,m,e1,e2⟩|⟨_,_,e1,e3⟩,dJ⟩
    ·rw[hd];trivial
    ·rw[e1] at e;cases e
    ·rw[e1] at e;cases e
    ·rw[e1] at e;cases e
    ·rw[e3,dJ];exact hv
   ·cases hp
  ·cases hp
 ·intro a v z ps aZ f hv hp hM r c;replace hp:AR lf o a v ps=some (aZ,f):=hp;rcases Yw (o:=o) hp with ⟨k,n,rfl,rfl,rfl⟩|⟨rfl,rfl,rfl⟩|⟨g,i,rfl,hg,e,rfl,rfl⟩|⟨g,i,x,p,rfl,hg,e,h2,rfl⟩
  ·show tQ _ w a k n z;exact PZ (fun q ⟨b,cs,h1,h2,h3,h4,h5⟩=>⟨b,cs,h1,h2,h.imm h3,gX (fun b hb=>h.imm hb) (fun _ _=>rfl) (.int .i64) n cs h4,h5⟩) a k z hv
  ·show tQ _ w a _ _ z;replace hv:z=.nilFunc:=hv;subst hv;exact Yu a
  ·obtain⟨cz,h1,h2⟩:=hv;have h2:cz.toList=[]:=h2;have hz:z=.func (.func g) #[] #[]:=by rw[h1,show cz=#[] from Array.toList_eq_nil_iff.1 h2,ME hg]
   obtain⟨j,e1,e2⟩:=QH (c:=false) hz a 0 i e;rw[zD] at e1;subst e1;exact e2
  ·obtain⟨cz,h1,y,r',e3,hy,e4⟩:=hv;have e4:r'=[]:=e4;subst e4;have hz:z=.func (.func g) #[] #[y]:=by rw[h1,show cz=#[y] from Array.toList_inj.1 e3,ME hg]
   have key:aq (ft φ psF) oc _ w (kD cH bX (.ref (.int .i64)) r (p r c)).1 y:=YN hm h (.int .i64) x y _ _ _ hy h2 hM r c;obtain⟨j,e1,e2⟩:=QH (c:=true) (n:=(p r c).1) ⟨y,hz,key⟩ a 0 i e;rw[zD] at e1;subst e1;exact e2
 ·exact fun t=>z7k hm h t
 ·intro vs zs ps aZ f hv hp hM r c;obtain⟨rfl,_,rfl⟩:=M8 hp;exact hv
 ·intro s l il im vs zs ps aZ f hv hp hM r c;obtain⟨v,EH,kG,f1,g1,rfl,h1,h2,rfl⟩:=Ju hp;obtain⟨z,zr,e,r1,r2⟩:=hv;have hk:=(HQ l _ _ _ _ h2).1.trans hM;have a1:=il _ _ _ _ _ r1 h1 hk _ (g1 r c);have e2:(kD cH bX s (iH l r) (f1 (iH l r) (g1 r c))).2=g1 r c:=(QJ s _ _ _ _ h1).2 _ _ _ _;refine⟨z,zr,e,a1,?_⟩;show cd _ _ _ _ (fG cH bX l r (kD cH bX s (iH l r) (f1 (iH l r) (g1 r c))).2).1 zr;rw[e2];exact im _ _ _ _ _ r2 h2 hM r c
theorem QO(hm:MRel C X φ o w)(h:bS o psF k ay oc):∀l,YM φ o oc (ah X φ o w) (ah (XC X φ o oc psF) (ft φ psF) oc w) w psF l
 |[]=>by intro vs zs ps aZ f hv hp hM r c;obtain⟨rfl,_,rfl⟩:=M8 hp;exact hv
 |s::l=>by intro vs zs ps aZ f hv hp hM r c;obtain⟨v,EH,kG,f1,g1,rfl,h1,h2,rfl⟩:=Ju hp;obtain⟨z,zr,e,r1,r2⟩:=hv;have hc:=(HQ l _ _ _ _ h2).1.trans hM;have a1:=QN hm h s _ _ _ _ _ r1 h1 hc _ (g1 r c);have e2:(kD cH bX s (iH l r) (f1 (iH l r) (g1 r c))).2=g1 r c:=(QJ s _ _ _ _ h1).2 _ _ _ _;refine⟨z,zr,e,a1,?_⟩;show cd _ _ _ _ (fG cH bX l r (kD cH bX s (iH l r) (f1 (iH l r) (g1 r c))).2).1 zr;rw[e2];exact QO hm h l _ _ _ _ _ r2 h2 hM r c
theorem z7m{l:List Sh}{cs:List V}{ps aZ:PS}{f:∀r,ai r->ai (iH l r)}(h:mh lf o l cs ps=some (aZ,f)){r:List Ty}{q:ai (iH l r)}(hs:nP (fG cH bX l r q).1=true):nP cs=true:=by
 cases l with
 |nil=>cases hs
 |cons s l=>
  obtain⟨v,EH,kG,f1,g1,rfl,h1,h2,rfl⟩:=Ju h;have hs:nP ((kD cH bX s (iH l r) q).1::(fG cH bX l r (kD cH bX s (iH l r) q).2).1)=true:=hs;cases s with
  |dA i=>obtain⟨id,b,cs,rfl,_⟩:=QG (o:=o) (show IM o i v ps=some (kG,f1) from h1);rfl
  |_=>cases hs
theorem bS.mem(hm:MRel C X φ o w)(h:bS o psF k ay oc):MRel C (XC X φ o oc psF) (ft φ psF) oc w:=by
 have hi:∀b,ah X φ o w b->ah (XC X φ o oc psF) (ft φ psF) oc w b:=fun b hb=>h.imm hb;refine⟨fun i=>?_,fun i j hq hu e=>?_,fun i hx=>?_,fun b hb=>?_,fun i=>?_,fun g t x hg=>?_,hm.Hz⟩
 ·by_cases hj:i<k
  ·rcases h.kind hj with hd|⟨cC,h1,h2⟩
   ·rw[hd];trivial
   ·have dJ:ft φ psF i=φ cC:=by unfold ft;rw[(h.aL h1).2.1]
    have ho:=hm.ay cC;rcases h2 with ⟨l,cs,Ap,vl,f,r,c,e,hp,hM,e'⟩|⟨t,ver,s,e,e'⟩|⟨_,_,m,e,e'⟩|⟨_,_,e,e'⟩
    ·rw[e] at ho;rw[e'];obtain⟨h3,cz,el,lo,hf,h4,h5,h6⟩:=ho;exact⟨by rw[dJ];exact h3,cz,el,lo,hf,by rw[dJ];exact h4,h5,QO hm h l _ _ _ _ _ h6 hp hM r c⟩
    ·rw[e] at ho;rw[e'];obtain⟨h3,h4,h5⟩:=ho;cases hc:ig cC psF.cut with
     |none=>refine⟨h3,h4,fun hn=>?_⟩;rw[dJ];refine(h5 hn).imp (fun⟨g1,ec,g2,g3,g4,g5,g6⟩=>?_) fun g=>g;exact⟨g1,ec,nh (gX hi (fun _ _=>rfl) t) g2,g3,g4,g5,by simp⟩
     |some n=>
      have hv:(lf.aI s.l n).length<=s.l.length:=by simp[lf,aI];omega
      refine⟨by show(lf.aI s.l n).length<=ch;omega,fun hn=>?_,fun hn=>?_⟩
      ·show s.l.take n=[];rw[h4 hn];simp
      ·rw[dJ];refine(h5 hn).imp (fun⟨g1,ec,g2,g3,g4,g5,g6⟩=>?_) fun g=>⟨g.1,(by show s.l.take n=[];rw[g.2.1];simp),g.2.2⟩;have hw:=nS g2;have hk:min n s.l.length<=s.l.length:=Nat.min_le_right _ _;have hl:=(tP (min n s.l.length) hk g2).1;have hy:s.l.take (min n s.l.length)=s.l.take n:=by
        rcases Nat.le_total n s.l.length with h|h
        ·rw[Nat.min_eq_left h]
        ·rw[Nat.min_eq_right h,List.take_length,zZ h]
       rw[hy] at hl;refine⟨g1,ec.take (min n s.l.length*aJ t),nh (gX hi (fun _ _=>rfl) t) hl,Jf _ g3,g4,fun _=>?_,by simp⟩;obtain⟨cz,el,lo,hf,k1,k2,k3⟩:=g5 rfl;have hA:(lf.aI s.l n).length*aJ t<=s.l.length*aJ t:=Nat.mul_le_mul_right _ hv;exact⟨cz,el,lo,hf,k1,by show _+(lf.aI s.l n).length*aJ t<=_;omega,by show hf<=lo\/hf<=_\/_+(lf.aI s.l n).length*aJ t<=lo;omega⟩
    ·rw[e] at ho;rw[e'];obtain⟨es,clock,h3,h4⟩:=ho;exact⟨es,clock,by rw[dJ];exact h3,Dh (rf hi (fun _ _=>rfl) _) (rf hi (fun _ _=>rfl) _) h4⟩
    ·rw[e] at ho;rw[e'];obtain⟨s,n,h3,h4⟩:=ho;exact⟨s,n,by rw[dJ];exact h3,h4⟩
  ·rw[h.none i om];trivial
 ·obtain⟨_,a1,a2⟩:=h.EJ hq;obtain⟨_,b1,b2⟩:=h.EJ hu;have:=hm.inj _ _ a2 b2 e;have ra:=(h.aL a1).2.2;have rb:=(h.aL b1).2.2;rw[this,rb] at ra;injection ra with ra;exact ra.symm
 ·obtain⟨_,a1,a2⟩:=h.EJ hx;obtain⟨s1,s2⟩:=hm.sep _ a2;refine⟨s1,?_⟩;rintro(hz|⟨id,e1,e2,_,e4⟩)
  ·exact s2 hz
  ·have:=hm.inj _ _ e1 a2 e2;exact e4 ⟨i,hx,this.symm⟩
 ·rcases hb with hb|⟨id,e1,e2,_⟩
  ·exact hm.xs b hb
  ·exact e2▸(hm.sep id e1).1
 ·by_cases hj:i<k
  ·rcases h.kind hj with hd|⟨cC,h1,h2⟩
   ·rw[hd];trivial
   ·have dJ:ft φ psF i=φ cC:=by unfold ft;rw[(h.aL h1).2.1]
    have he:=hm.oW cC;rcases h2 with ⟨l,cs,Ap,vl,f,r,c,e,hp,hM,e'⟩|⟨t,ver,s,e,e'⟩|⟨_,_,m,e,e'⟩|⟨_,_,e,e'⟩
    ·rw[e] at he;rw[e',dJ];exact fun hs=>he (z7m hp hs)
    ·rw[e] at he;rw[e',dJ];refine fun ht hn=>he ht ?_;cases hc:ig cC psF.cut<;>rw[hc] at hn<;>exact hn
    ·rw[e'];trivial
    ·rw[e'];trivial
  ·rw[h.none i om];trivial
 ·obtain⟨a,cs,h1,h2,h3,h4,h5⟩:=hm.fk g t x hg;exact⟨a,cs,h1,h2,hi _ h3,gX hi (fun _ _=>rfl) _ _ _ h4,h5⟩
end
theorem o3{β:Type}(n:Nat)(k:Nat->β):kF n k=k n:=by cases n<;>rfl
mutual
theorem QP{β:Type}:∀(v:V) (k:V->β),ng v k=k v
 |.d t x,k=>rfl
 |.bM id ver,k=>by simp only[ng,o3]
 |.pre id ver n c,k=>by simp only[ng,o3]
 |.ptr id off,k=>by simp only[ng,o3]
 |.j7 ..,k=>rfl
 |.ref ..,k=>rfl
 |.rr ..,k=>rfl
 |.gI,k=>rfl
 |.fn f l,k=>by simp only[ng,o3,HT]
 |.gw,k=>rfl
 |.jx l,k=>by simp only[ng,HT]
 |.agg l,k=>by simp only[ng,HT]
 |.mp _,k=>rfl
 |.jj,k=>rfl
 |.ie,k=>rfl
 |.fq,k=>rfl
 |.lb _,k=>rfl
 |.undef,k=>rfl
 |.dQ,k=>rfl
 |.dA id b,k=>by simp only[ng,o3]
 |.jG id ver lo,k=>by simp only[ng,o3]
 |.it _,k=>rfl
 |.L1 ..,k=>rfl
 |.fa ..,k=>rfl
theorem HT{β:Type}:∀(l:List V) (k:List V->β),Db l k=k l
 |[],k=>rfl
 |v::l,k=>by simp only[Db,QP,HT]
end
theorem YP{β:Type}(x:Obj)(k:Obj->β):I0 x k=k x:=by cases x<;>simp only[I0,HT,o3]
theorem YQ{β:Type}:∀(u:List (Nat×Obj)) (o:Nat->Obj) (k:(Nat->Obj)->β),Mu o u k=k (ak o u)
 |[],_,_=>rfl
 |(i,x)::r,o,k=>by simp only[Mu,o3,YP,YQ r];rfl
theorem QQ{β:Type}{fr:Nat}:∀(u:List (Nat×Obj)) (o:Nat->Obj) (k:(Nat->Obj)->Option β) (y:β),q7 fr o u k=some y->k (ak o u)=some y/\kO fr o u
 |[],o,k,y,h=>⟨h,(fun p hp=>by cases hp)⟩
 |(i,x)::r,o,k,y,h=>by
  simp only[q7,o3,YP] at h;have next:∀(hc:fr<=i->i<fr+16->o i=.none),q7 fr (cu o i x) r k=some y->k (ak o ((i,x)::r))=some y/\kO fr o ((i,x)::r):=by
   intro hc h;obtain⟨h1,h2⟩:=QQ r _ _ _ h;refine⟨h1,fun p hp g1 g2=>?_⟩;rcases zw.1 hp with rfl|hp
   ·exact hc g1 g2
   ·by_cases e:p.1=i
    ·rw[e] at g1 g2 ⊢;exact hc g1 g2
    ·have:=h2 p hp g1 g2
     rwa [iI e] at this
  cases hb:(Nat.ble fr i&&Nat.blt i (fr+16)) with
  |true=>
   rw[hb] at h;simp only[cond_true] at h;split at h
   ·rename_i e;exact next (fun _ _=>e) h
   ·cases h
  |false=>
   rw[hb] at h;simp only[cond_false] at h;refine next (fun g1 g2=>?_) h
   have:(Nat.ble fr i&&Nat.blt i (fr+16))=true:=by rw[ze];exact⟨Nat.ble_eq▸g1,(Nat.ble_eq▸g2:Nat.ble (i+1) (fr+16)=true)⟩
   rw[this] at hb;cases hb
mutual
theorem z7n{β:Type}:∀(s:Sh) (k:Sh->β),lF s k=k s
 |.d t,k=>rfl
 |.bM id,k=>by simp only[lF,o3]
 |.ptr id off,k=>by simp only[lF,o3]
 |.ref t,k=>rfl
 |.rr t,k=>rfl
 |.gI,k=>rfl
 |.fn f l,k=>by simp only[lF,o3,HU]
 |.gw,k=>rfl
 |.jx l,k=>by simp only[lF,HU]
 |.agg l,k=>by simp only[lF,HU]
 |.mp id,k=>by simp only[lF,o3]
 |.it id,k=>by simp only[lF,o3]
 |.jj,k=>rfl
 |.ie,k=>rfl
 |.dQ,k=>rfl
 |.dA id,k=>by simp only[lF,o3]
 |.jG id,k=>by simp only[lF,o3]
 |.fa _,k=>rfl
theorem HU{β:Type}:∀(l:List Sh) (k:List Sh->β),Dd l k=k l
 |[],k=>rfl
 |v::l,k=>by simp only[Dd,z7n,HU]
end
theorem z2n{β:Type}(s:fW)(k:fW->β):PI s k=k s:=by cases s<;>simp only[PI,HU]
theorem YR{β:Type}:∀(l:List fW) (k:List fW->β),Mv l k=k l
 |[],_=>rfl
 |s::l,k=>by simp only[Mv,z2n,YR l]
theorem Nd{β:Type}(C:Cx)(sk:List Nat)(st:St)(ts:List Nat)(ops:List Oper)(k:Shape->β):Hs C sk st ts ops k=k (Hr C sk st ts ops):=by simp only[Hs,HU,YR]
def jm(sk ts:List Nat)(s:Shape)(c:ai s.aN):St:=⟨IZ ts (fill (dD sk) bX s c).1,ak (fun _=>Obj.none) (fill (dD sk) bX s c).2⟩
theorem Nf{β:Type}(sk ts:List Nat)(s:Shape)(c:ai s.aN)(k:St->β):sY sk ts s c k=k (jm sk ts s c):=by simp only[sY,HT,YQ];rfl
section
variable {C:Cx} {X:Nat→Prop} {φ φ':Nat→Addr} {o oc:Nat→Obj} {w:World} {imm:Nat→Prop} {ρ κ:Nat→Nat}
theorem QR(ρ κ EL EM:Nat->Nat)(s:Sh):∀r c,(kD ρ κ s r c).2=(kD EL EM s r c).2:=by
 refine Sh.rec (motive_1:=fun s=>∀r c,(kD ρ κ s r c).2=(kD EL EM s r c).2) (motive_2:=fun l=>∀r c,(fG ρ κ l r c).2=(fG EL EM l r c).2)
  ?_ ?_ ?_ ?_ ?_ ?_ ?_ ?_ ?_ ?_ ?_ ?_ ?_ ?_ ?_ ?_ ?_ ?_ ?_ ?_ s
 ·exact fun t r c=>rfl
 ·exact fun i r c=>rfl
 ·exact fun i off r c=>rfl
 ·exact fun t r c=>rfl
 ·exact fun r c=>rfl
 ·exact fun f l ih r c=>ih r c
 ·exact fun r c=>rfl
 ·exact fun l ih r c=>ih r c
 ·exact fun l ih r c=>ih r c
 ·exact fun i r c=>rfl
 ·exact fun r c=>rfl
 ·exact fun r c=>rfl
 ·exact fun r c=>rfl
 ·exact fun i r c=>rfl
 ·exact fun i r c=>rfl
 ·exact fun i r c=>rfl
 ·exact fun a r c=>rfl
 ·exact fun t r c=>rfl
 ·exact fun r c=>rfl
 ·intro s l il im r c;exact(congrArg (fun q=>(fG ρ κ l r q).2) (il (iH l r) c)).trans (im r _)
theorem Jv(ρ κ EL EM:Nat->Nat):∀(l:List Sh) r c,(fG ρ κ l r c).2=(fG EL EM l r c).2
 |[],_,_=>rfl
 |s::l,r,c=>by exact(congrArg (fun q=>(fG ρ κ l r q).2) (QR ρ κ EL EM s (iH l r) c)).trans (Jv ρ κ EL EM l r _)
def Ng(κ:Nat):Obj->Obj->Prop
 |.none,_=>True
 |.dead,.dead=>True
 |.box _,.box _=>True
 |.vec t v f s,y=>v=0/\y=.vec t κ f s
 |.map _ _ _,.map _ _ _=>True
 |.iter _ _,.iter _ _=>True
 |_,_=>False
theorem QT(hl:∀i,Ng (κ i) (oc i) (o (ρ i)))(dJ:∀i,oc i≠.none->oc i≠.dead->φ' (ρ i)=φ i)(s:Sh):∀r c z,aq φ oc imm w (kD cH bX s r c).1 z->aq φ' o imm w (kD ρ κ s r c).1 z:=by
 refine Sh.rec (motive_1:=fun s=>∀r c z,aq φ oc imm w (kD cH bX s r c).1 z->aq φ' o imm w (kD ρ κ s r c).1 z)
  (motive_2:=fun l=>∀r c zs,cd φ oc imm w (fG cH bX l r c).1 zs->cd φ' o imm w (fG ρ κ l r c).1 zs)
  ?_ ?_ ?_ ?_ ?_ ?_ ?_ ?_ ?_ ?_ ?_ ?_ ?_ ?_ ?_ ?_ ?_ ?_ ?_ ?_ s
 ·exact fun t r c z h=>h
 ·intro i r c z h;replace h:aq φ oc imm w (.bM i 0) z:=h;show aq φ' o imm w (.bM (ρ i) (κ i)) z;have h1:=hl i;have h2:=dJ i;unfold aq at h ⊢;cases e:oc i<;>rw[e] at h h1 h2
  ·cases e2:o (ρ i)<;>rw[e2] at h1<;>first|exact h1.elim|trivial
  ·rename_i t v fr s;obtain⟨hv,h1⟩:v=0/\o (ρ i)=.vec t (κ i) fr s:=h1;subst hv;rw[h1,h2 (by simp) (by simp)];exact⟨Nat.le_refl _,fun _=>h.2 rfl⟩
  ·cases e2:o (ρ i)<;>rw[e2] at h1<;>first|exact h1.elim|trivial
  ·cases e2:o (ρ i)<;>rw[e2] at h1<;>first|exact h1.elim|trivial
  ·exact h.elim
  ·cases e2:o (ρ i)<;>rw[e2] at h1<;>first|exact h1.elim|trivial
 ·intro i off r c z h;replace h:aq φ oc imm w (.ptr i off) z:=h;show aq φ' o imm w (.ptr (ρ i) off) z;have h1:=hl i;have h2:=dJ i;unfold aq at h ⊢;cases e:oc i<;>rw[e] at h h1 h2
  ·cases e2:o (ρ i)<;>rw[e2] at h1<;>first|exact h1.elim|(rw[h2 (by simp) (by simp)];exact h)
  ·rename_i t v fr s;obtain⟨hv,h1⟩:v=0/\o (ρ i)=.vec t (κ i) fr s:=h1;subst hv;rw[h1,h2 (by simp) (by simp)];exact fun _=>h rfl
  ·cases e2:o (ρ i)<;>rw[e2] at h1<;>first|exact h1.elim|(rw[h2 (by simp) (by simp)];exact h)
  ·cases e2:o (ρ i)<;>rw[e2] at h1<;>first|exact h1.elim|trivial
  ·exact h.elim
  ·cases e2:o (ρ i)<;>rw[e2] at h1<;>first|exact h1.elim|(rw[h2 (by simp) (by simp)];exact h)
 ·exact fun t r c z h=>h
 ·exact fun r c z h=>h
 ·exact fun f l ih r c z ⟨cz,h1,h2⟩=>⟨cz,h1,ih _ _ _ h2⟩
 ·exact fun r c z h=>h
 ·exact fun l ih r c z ⟨cz,h1,h2⟩=>⟨cz,h1,ih _ _ _ h2⟩
 ·exact fun l ih r c z ⟨cz,h1,h2⟩=>⟨cz,h1,ih _ _ _ h2⟩
 ·intro i r c z h;replace h:aq φ oc imm w (.mp i) z:=h;show aq φ' o imm w (.mp (ρ i)) z;have h1:=hl i;have h2:=dJ i;unfold aq at h ⊢;cases e:oc i<;>rw[e] at h h1 h2
  ·cases e2:o (ρ i)<;>rw[e2] at h1<;>first|exact h1.elim|trivial
  ·rename_i t v fr s;obtain⟨hv,h1⟩:v=0/\o (ρ i)=.vec t (κ i) fr s:=h1;rw[h1];trivial
  ·cases e2:o (ρ i)<;>rw[e2] at h1<;>first|exact h1.elim|(rw[h2 (by simp) (by simp)];exact h)
  ·cases e2:o (ρ i)<;>rw[e2] at h1<;>first|exact h1.elim|trivial
  ·exact h.elim
  ·cases e2:o (ρ i)<;>rw[e2] at h1<;>first|exact h1.elim|trivial
 ·exact fun r c z h=>h
 ·exact fun r c z h=>h
 ·exact fun r c z h=>h
 ·intro i r c z h;replace h:aq φ oc imm w (.dA i c.1) z:=h;show aq φ' o imm w (.dA (ρ i) c.1) z;have h1:=hl i;have h2:=dJ i;unfold aq at h ⊢;cases e:oc i<;>rw[e] at h h1 h2
  ·cases e2:o (ρ i)<;>rw[e2] at h1<;>first|exact h1.elim|(rw[h2 (by simp) (by simp)];exact h)
  ·rename_i t v fr s;obtain⟨hv,h1⟩:v=0/\o (ρ i)=.vec t (κ i) fr s:=h1;rw[h1];trivial
  ·cases e2:o (ρ i)<;>rw[e2] at h1<;>first|exact h1.elim|trivial
  ·cases e2:o (ρ i)<;>rw[e2] at h1<;>first|exact h1.elim|trivial
  ·exact h.elim
  ·cases e2:o (ρ i)<;>rw[e2] at h1<;>first|exact h1.elim|trivial
 ·intro i r c z h;replace h:aq φ oc imm w (.jG i 0 c.1) z:=h;show aq φ' o imm w (.jG (ρ i) (κ i) c.1) z;have h1:=hl i;have h2:=dJ i;unfold aq at h ⊢;cases e:oc i<;>rw[e] at h h1 h2
  ·cases e2:o (ρ i)<;>rw[e2] at h1<;>first|exact h1.elim|trivial
  ·rename_i t v fr s;obtain⟨hv,h1⟩:v=0/\o (ρ i)=.vec t (κ i) fr s:=h1;subst hv;rw[h1,h2 (by simp) (by simp)];exact⟨Nat.le_refl _,fun _=>h.2 rfl⟩
  ·cases e2:o (ρ i)<;>rw[e2] at h1<;>first|exact h1.elim|trivial
  ·cases e2:o (ρ i)<;>rw[e2] at h1<;>first|exact h1.elim|trivial
  ·exact h.elim
  ·cases e2:o (ρ i)<;>rw[e2] at h1<;>first|exact h1.elim|trivial
 ·intro i r c z h;replace h:aq φ oc imm w (.it i) z:=h;show aq φ' o imm w (.it (ρ i)) z;have h1:=hl i;have h2:=dJ i;unfold aq at h ⊢;cases e:oc i<;>rw[e] at h h1 h2
  ·cases e2:o (ρ i)<;>rw[e2] at h1<;>first|exact h1.elim|trivial
  ·rename_i t v fr s;obtain⟨hv,h1⟩:v=0/\o (ρ i)=.vec t (κ i) fr s:=h1;rw[h1];trivial
  ·cases e2:o (ρ i)<;>rw[e2] at h1<;>first|exact h1.elim|trivial
  ·cases e2:o (ρ i)<;>rw[e2] at h1<;>first|exact h1.elim|trivial
  ·exact h.elim
  ·cases e2:o (ρ i)<;>rw[e2] at h1<;>first|exact h1.elim|(rw[h2 (by simp) (by simp)];exact h)
 ·exact fun a r c z h=>h
 ·exact fun t r c z h=>h
 ·exact fun r c z h=>h
 ·intro s l il im r c zs ⟨z,zr,e,h1,h2⟩;refine⟨z,zr,e,il _ _ _ h1,?_⟩;exact(congrArg (fun q=>cd φ' o imm w (fG ρ κ l r q).1 zr) (QR ρ κ cH bX s (iH l r) c)).mpr (im _ _ _ h2)
theorem Nh(hl:∀i,Ng (κ i) (oc i) (o (ρ i)))(dJ:∀i,oc i≠.none->oc i≠.dead->φ' (ρ i)=φ i):∀(l:List Sh) r c zs,cd φ oc imm w (fG cH bX l r c).1 zs->cd φ' o imm w (fG ρ κ l r c).1 zs
 |[],_,_,_,h=>h
 |s::l,r,c,zs,⟨z,zr,e,h1,h2⟩=>by refine⟨z,zr,e,QT hl dJ s _ _ _ h1,?_⟩;exact(congrArg (fun q=>cd φ' o imm w (fG ρ κ l r q).1 zr) (QR ρ κ cH bX s (iH l r) c)).mpr (Nh hl dJ l _ _ _ h2)
end
theorem YS{o:Nat->Obj}{psF:PS}:∀(l:List fW) (i:Nat) (os:List (Nat×Obj)) (o':Nat->Obj),QK o psF i l os->(∀j sh,l[j]?=some sh->Bc o psF (i+j) sh (ak o' os (i+j)))/\(∀j,(j<i\/i+l.length<=j)->ak o' os j=o' j)
 |[],i,os,o',h=>by have h:os=[]:=h;subst h;exact⟨fun j sh hj=>by simp at hj,fun j _=>rfl⟩
 |s::l,i,os,o',⟨ob,r,e,h1,h2⟩=>by
  subst e;obtain⟨a1,a2⟩:=YS l (i+1) r (cu o' i ob) h2;refine⟨fun j sh hj=>?_,fun j hj=>?_⟩
  ·cases j with
   |zero=>simp only[List.getElem?_cons_zero,zE] at hj;subst hj;show Bc o psF i s (ak (cu o' i ob) r i);rw[a2 i (.inl om),eH];exact h1
   |succ j=>have:=a1 j sh (by simpa using hj);rw[show i+1+j=i+(j+1) by omega] at this;exact this
  ·show ak (cu o' i ob) r j=o' j;simp only[zj] at hj;rw[a2 j om,iI om]
def aV(s:Shape)(c:ai s.aN):Nat->Obj:=ak (fun _=>Obj.none) (fill cH bX s c).2
theorem Jw{o:Nat->Obj}{aL:List (Nat×Nat)}{s:Shape}{vs:List V}{ps:PS}{c:ai s.aN}(h:pack lf o aL s vs=some (ps,c)):bS o ps s.ay.length s.ay (aV s c)/\∃kG f,mh lf o s.roots vs ⟨aL,[],[],[]⟩=some (kG,f)/\fg kG ps/\∃q,c=f _ q:=by
 unfold pack at h;split at h
 ·rename_i kG f h1;split at h
  ·rename_i Dp g h2;cases hb:Eb s.ay.length Dp with
   |false=>rw[hb] at h;cases h
   |true=>
    rw[hb] at h;injection h with h;injection h with h3 h4;subst h3;obtain⟨m1,e1⟩:=HQ s.roots _ _ _ _ h1;obtain⟨m2,e2⟩:=HS (psF:=Dp) s.ay 0 _ _ _ h2;have he:=e2 (.refl _) [] ();have hc:aV s c=ak (fun _=>Obj.none) (gx cH bX 0 s.ay [] (g [] ())):=by unfold aV fill;simp only;rw[<-h4,e1]
    obtain⟨a1,a2⟩:=YS _ _ _ (fun _=>Obj.none) he;refine⟨⟨hb,rfl,fun i sh hi=>?_,fun i hi=>?_⟩,kG,f,h1,m2,_,h4.symm⟩
    ·have:=a1 i sh hi;rw[zD] at this;rw[hc];exact this
    ·rw[hc];exact a2 i (.inr om)
  ·cases h
 ·cases h
theorem QU{C:Cx}{X:Nat->Prop}{φ:Nat->Addr}{o:Nat->Obj}{w:World}(hm:MRel C X φ o w){aL:List (Nat×Nat)}{s:Shape}{vs:List V}{zs:List Value}{ps:PS}{c:ai s.aN}(h:pack lf o aL s vs=some (ps,c))(hr:cd φ o (ah X φ o w) w vs zs):MRel C (XC X φ o (aV s c) ps) (ft φ ps) (aV s c) w/\cd (ft φ ps) (aV s c) (ah (XC X φ o (aV s c) ps) (ft φ ps) (aV s c) w) w (fill cH bX s c).1 zs:=by obtain⟨hp,kG,f,h1,h2,q,h3⟩:=Jw h;refine⟨hp.mem hm,?_⟩;have:=QO hm hp s.roots _ _ _ _ _ hr h1 h2 _ q;rw[<-h3] at this;exact this
def ko(sk:List Nat):Prop:=∃inv:Nat->Nat,∀j,inv (dD sk j)=j
theorem ko.inj{sk:List Nat}(h:ko sk):∀i j,dD sk i=dD sk j->i=j:=fun i j e=>by obtain⟨inv,h⟩:=h;rw[<-h i,<-h j,e]
theorem iu{j:Nat}:∀{l:List Nat},bJ j l=true↔j∈l
 |[]=>⟨fun h=>(by cases h),fun h=>(by cases h)⟩
 |b::r=>by
  simp only[bJ];cases hb:Nat.beq b j with
  |true=>have:=zm hb;subst this;simp
  |false=>
   have hc:b≠j:=fun e=>by rw[e,Nat.beq_refl] at hb;cases hb
   rw[cond_false,iu (l:=r),zw];exact⟨.inr,fun h=>h.resolve_left fun e=>hc e.symm⟩
theorem YT{k:Nat}:∀{sk:List Nat},Hi k sk=true->(∀id,id∈sk->id<k/\id<1000000)/\sk.Nodup
 |[],_=>⟨fun id h=>(by cases h),List.nodup_nil⟩
 |b::r,h=>by
  simp only[Hi,ze,Nat.blt_eq] at h;obtain⟨⟨⟨h1,h2⟩,h3⟩,h4⟩:=h;obtain⟨g1,g2⟩:=YT h4;refine⟨fun id hi=>?_,List.nodup_cons.2 ⟨fun hm=>?_,g2⟩⟩
  ·rcases zw.1 hi with rfl|hi
   ·exact⟨h1,h2⟩
   ·exact g1 id hi
  ·rw[iu.2 hm] at h3;cases h3
theorem qxs{k:Nat}{sk:List Nat}(h:Hi k sk=true):ko sk:=by
 obtain⟨g1,g2⟩:=YT h;have inj:∀i j,dD sk i=dD sk j->i=j:=fun i j e=>by
  unfold dD at e;split at e
  ·rename_i a ha;split at e
   ·rename_i b hb;subst e;obtain⟨hi,ea⟩:=zF.1 ha;obtain⟨hj,eb⟩:=zF.1 hb;exact(List.getElem_inj (h₀:=hi) (h₁:=hj) g2).1 (by rw[ea,eb])
   ·have:=(g1 a (zS ha)).2;omega
  ·split at e
   ·rename_i b hb;have:=(g1 b (zS hb)).2;omega
   ·omega
 refine⟨fun id=>by
  classical
  exact if h:∃j,dD sk j=id then h.choose else 0,fun j=>?_⟩
 have hx:∃i,dD sk i=dD sk j:=⟨j,rfl⟩;simp only[dif_pos hx];exact inj _ _ hx.choose_spec
theorem YU:∀{sk:List Nat} {n i id:Nat},sk[i]?=some id->(n+i,id)∈qV n sk
 |[],_,i,_,h=>by simp at h
 |b::r,n,i,id,h=>by
  cases i with
  |zero=>simp only[List.getElem?_cons_zero,zE] at h;subst h;exact zf ..
  |succ i=>have:=YU (n:=n+1) (i:=i) (by simpa using h);rw[show n+1+i=n+(i+1) by omega] at this;exact zh _ this
theorem YV:∀{sk:List Nat} {id:Nat},id∈sk->(id,id)∈O2 sk
 |b::r,id,h=>by
  rcases zw.1 h with rfl|h
  ·exact zf ..
  ·exact zh _ (YV h)
theorem QV{o:Nat->Obj}:∀{sk:List Nat},tG o sk=true->∀id,id∈sk->L8 o id=true
 |b::r,h,id,hi=>by
  simp only[tG,ze] at h;rcases zw.1 hi with rfl|hi
  ·exact h.1
  ·exact QV h.2 id hi
theorem QW{cut:List (Nat×Nat)}:∀{sk:List Nat},Hh cut sk=true->∀id,id∈sk->ig id cut=none
 |b::r,h,id,hi=>by
  simp only[Hh,ze] at h;rcases zw.1 hi with rfl|hi
  ·exact Na h.1
  ·exact QW h.2 id hi
theorem YW{sk:List Nat}{aL:List (Nat×Nat)}{o:Nat->Obj}{s:Shape}{vs:List V}{p:PS×ai s.aN}(h:Eg lf sk aL o s vs=some p):pack lf o aL s vs=some p/\tG o sk=true/\Hh p.1.cut sk=true:=by
 unfold Eg at h;split at h
 ·rename_i q e;cases hb:(tG o sk&&Hh q.1.cut sk) with
  |false=>rw[hb] at h;cases h
  |true=>rw[hb,cond_true] at h;injection h with h;subst h;rw[ze] at hb;exact⟨e,hb⟩
 ·cases h
theorem YX{o:Nat->Obj}{aL:List (Nat×Nat)}{s:Shape}{vs:List V}{ps:PS}{c:ai s.aN}(h:pack lf o aL s vs=some (ps,c)):∀p,p∈aL->p∈ps.aL:=by obtain⟨_,kG,f,h1,h2,_⟩:=Jw h;exact fun p hp=>h2.aL p ((HQ s.roots _ _ _ _ h1).1.aL p hp)
theorem YY{φ:Nat->Addr}{o oc:Nat->Obj}{w:World}{psF:PS}{k:Nat}{ay:List fW}(h:bS o psF k ay oc){i id:Nat}(hp:(i,id)∈psF.aL)(hk:L8 o id=true)(hc:ig id psF.cut=none):Up w w (φ id) (ft φ psF i) (o id) (oc i):=by
 rcases Aq (φ:=φ) h hp with hd|⟨⟨cs,km,e1,e2⟩|⟨t',ver,s,e1,e2⟩|⟨k,v,m,e1,e2⟩|⟨_,_,e1,e2⟩,dJ⟩
 ·rw[hd];cases o id<;>trivial
 ·rw[e1,e2];exact dJ
 ·rw[e1,e2,hc];unfold L8 at hk;rw[e1] at hk;have hv:ver=0:=zm hk;exact .inr ⟨hv,rfl,rfl,rfl,dJ,fun _=>⟨rfl,fun _ _ n hr=>hr⟩⟩
 ·rw[e1,e2];exact dJ
 ·rw[e1,e2];exact dJ
def QX(ρ:Nat->Nat)(a b:Obj):Prop:=(∃l r c,a=.box (fG cH bX l r c).1/\b=.box (fG ρ bX l r c).1)\/(a=b/\∀cs,a≠.box cs)
theorem qxu(ρ:Nat->Nat)(i:Nat)(s:fW)(r:List Ty)(c:ai (Hg s r)):QX ρ (fH cH bX i s r c).1 (fH ρ bX i s r c).1/\(fH ρ bX i s r c).2=(fH cH bX i s r c).2:=by
 cases s with
 |box l=>exact⟨.inl ⟨l,r,c,rfl,rfl⟩,Jv ρ bX cH bX l r c⟩
 |vec t=>exact⟨.inr ⟨rfl,fun _ h=>by cases h⟩,rfl⟩
 |map k v=>exact⟨.inr ⟨rfl,fun _ h=>by cases h⟩,rfl⟩
 |iter=>exact⟨.inr ⟨rfl,fun _ h=>by cases h⟩,rfl⟩
 |gone=>exact⟨.inr ⟨rfl,fun _ h=>by cases h⟩,rfl⟩
theorem YZ(ρ:Nat->Nat)(cP:∀i j,ρ i=ρ j->i=j):∀(l:List fW) (i:Nat) (r:List Ty) (c:ai (bV l r)) (o1 o2:Nat->Obj),(∀j,i<=j->j<i+l.length->QX ρ (ak o1 (gx cH bX i l r c) j) (ak o2 (gx ρ bX i l r c) (ρ j)))/\(∀j,(j<i\/i+l.length<=j)->ak o1 (gx cH bX i l r c) j=o1 j)/\(∀id,(∀j,i<=j->j<i+l.length->ρ j≠id)->ak o2 (gx ρ bX i l r c) id=o2 id)
 |[],i,r,c,o1,o2=>⟨fun j h1 h2=>absurd h2 (by simp;omega),fun _ _=>rfl,fun _ _=>rfl⟩
 |s::l,i,r,c,o1,o2=>by
  obtain⟨e1,e2⟩:=qxu ρ i s (bV l r) c;obtain⟨a1,a2,a3⟩:=YZ ρ cP l (i+1) r (fH cH bX i s (bV l r) c).2 (cu o1 i (fH cH bX i s (bV l r) c).1) (cu o2 (ρ i) (fH ρ bX i s (bV l r) c).1);have f1:∀j,ak o1 (gx cH bX i (s::l) r c) j=ak (cu o1 i (fH cH bX i s (bV l r) c).1) (gx cH bX (i+1) l r (fH cH bX i s (bV l r) c).2) j:=fun _=>rfl;have f2:∀id,ak o2 (gx ρ bX i (s::l) r c) id=ak (cu o2 (ρ i) (fH ρ bX i s (bV l r) c).1) (gx ρ bX (i+1) l r (fH cH bX i s (bV l r) c).2) id:=fun id=>(congrArg (fun q=>ak (cu o2 (ρ i) (fH ρ bX i s (bV l r) c).1) (gx ρ bX (i+1) l r q) id) e2);refine⟨fun j h1 h2=>?_,fun j hj=>?_,fun id hc=>?_⟩
  ·rw[f1,f2];simp only[zj] at h2;by_cases he:j=i
   ·subst he;rw[a2 j (.inl om),a3 (ρ j) (fun q hq _ e=>by have:=cP _ _ e;omega),eH,eH];exact e1
   ·exact a1 j om om
  ·rw[f1];simp only[zj] at hj;rw[a2 j om,iI om]
  ·rw[f2];simp only[zj] at hc;rw[a3 id (fun q h1 h2=>hc q om om),iI];exact fun e=>hc i (Nat.le_refl _) om e.symm
section
variable {C:Cx} {X:Nat→Prop} {φ:Nat→Addr} {w:World} {s:Shape} {c:ai s.aN} {sk:List Nat} {inv:Nat→Nat}
theorem Za(hc:∀i j,dD sk i=dD sk j->i=j)(ts:List Nat)(s:Shape)(c:ai s.aN):(∀j,j<s.ay.length->QX (dD sk) (aV s c j) ((jm sk ts s c).obj (dD sk j)))/\(∀j,s.ay.length<=j->aV s c j=.none)/\(∀id,(∀j,j<s.ay.length->dD sk j≠id)->(jm sk ts s c).obj id=.none):=by
 obtain⟨a1,a2,a3⟩:=YZ (dD sk) hc s.ay 0 [] (fG cH bX s.roots (bV s.ay []) c).2 (fun _=>.none) (fun _=>.none);have e:(jm sk ts s c).obj=ak (fun _=>.none) (gx (dD sk) bX 0 s.ay [] (fG cH bX s.roots (bV s.ay []) c).2):=congrArg (fun q=>ak (fun _=>Obj.none) (gx (dD sk) bX 0 s.ay [] q)) (Jv (dD sk) bX cH bX s.roots (bV s.ay []) c);refine⟨fun j hj=>?_,fun j hj=>a2 j (.inr om),fun id he=>?_⟩
 ·rw[e];exact a1 j (Nat.zero_le _) om
 ·rw[e];exact a3 id (fun j _ hj=>he j om)
theorem Zb(ρ:Nat->Nat):∀(l:List fW) (i:Nat) (r:List Ty) (c:ai (bV l r)) (o:Nat->Obj),(∀j t v f s,o j=.vec t v f s->v=0)->∀j t v f s,ak o (gx ρ bX i l r c) j=.vec t v f s->v=0
 |[],i,r,c,o,h=>h
 |s::l,i,r,c,o,h=>by
  refine Zb ρ l (i+1) r (fH ρ bX i s (bV l r) c).2 (cu o (ρ i) (fH ρ bX i s (bV l r) c).1) ?_;intro j t v f s' e;by_cases hj:j=ρ i
  ·subst hj;rw[eH] at e;cases s with
   |box l=>cases e
   |map k v=>cases e
   |gone=>cases e
   |iter=>cases e
   |vec t=>injection e with _ e;exact e.symm
  ·rw[iI hj] at e;exact h _ _ _ _ _ e
theorem Zc{s:Shape}{c:ai s.aN}{j:Nat}{t:Ty}{v:Nat}{f:Bool}{x:Sl (den t)}(h:aV s c j=.vec t v f x):v=0:=Zb cH s.ay 0 [] _ (fun _=>.none) (fun _ _ _ _ _ e=>by cases e) j t v f x h
theorem Zd(ρ κ:Nat->Nat):∀(l:List Sh) (r:List Ty) (c:ai (iH l r)),nP (fG ρ κ l r c).1=nP (fG cH bX l r c).1
 |[],_,_=>rfl
 |s::l,r,c=>by show nP ((kD ρ κ s (iH l r) c).1::_)=nP ((kD cH bX s (iH l r) c).1::_);cases s<;>rfl
theorem za1(hf:∀j,inv (dD sk j)=j)(ts:List Nat)(hm:MRel C X φ (aV s c) w):MRel C X (fun id=>φ (inv id)) (jm sk ts s c).obj w/\(∀b,mw (fun id=>φ (inv id)) (jm sk ts s c).obj b↔mw φ (aV s c) b)/\(∀zs,cd φ (aV s c) (ah X φ (aV s c) w) w (fill cH bX s c).1 zs->cd (fun id=>φ (inv id)) (jm sk ts s c).obj (ah X (fun id=>φ (inv id)) (jm sk ts s c).obj w) w (fill (dD sk) bX s c).1 zs):=by
 obtain⟨a1,a2,a3⟩:=Za (fun i j e=>by rw[<-hf i,<-hf j,e]) ts s c;generalize ho:(jm sk ts s c).obj=o at*
 have dJ:∀j,(fun id=>φ (inv id)) (dD sk j)=φ j:=fun j=>by simp only[hf]
 have ht:∀j a,j<s.ay.length->aP a (o (dD sk j))=aP a (aV s c j):=fun j a hj=>by
  rcases a1 j hj with ⟨l,r,q,e1,e2⟩|⟨e1,_⟩
  ·rw[e1,e2];rfl
  ·rw[e1]
 have hq:∀id,(∃j,j<s.ay.length/\dD sk j=id)\/o id=.none:=fun id=>by
  by_cases h:∃j,j<s.ay.length/\dD sk j=id
  ·exact .inl h
  ·exact .inr (a3 id fun j hj e=>h ⟨j,hj,e⟩)
 have hB:∀j a,aP a (aV s c j)=true->j<s.ay.length:=fun j a hx=>zA fun h=>by rw[a2 j om] at hx;exact lz hx
 have hu:∀b,mw (fun id=>φ (inv id)) o b↔mw φ (aV s c) b:=fun b=>by
  constructor
  ·rintro⟨id,e1,e2⟩;rcases hq id with ⟨j,hj,rfl⟩|h
   ·simp only[hf] at e1;exact⟨j,by rw[<-ht j _ hj];exact e1,by rw[<-dJ j];exact e2⟩
   ·rw[h] at e1;exact(lz e1).elim
  ·rintro⟨j,e1,e2⟩;exact⟨dD sk j,by simp only[hf];rw[ht j _ (hB j _ e1)];exact e1,by rw[dJ];exact e2⟩
 have hy:∀b,ah X φ (aV s c) w b↔ah X (fun id=>φ (inv id)) o w b:=fun b=>by unfold ah;rw[hu b]
 have hA:∀i,Ng (bX i) (aV s c i) (o (dD sk i)):=fun i=>by
  by_cases hi:i<s.ay.length
  ·rcases a1 i hi with ⟨l,r,q,e1,e2⟩|⟨e1,e2⟩
   ·rw[e1,e2];trivial
   ·rw[<-e1];cases hc:aV s c i with
    |vec t v f s'=>exact⟨Zc hc,by rw[Zc hc]⟩
    |box cs=>exact absurd hc (e2 _)
    |map k v m=>trivial
    |dead=>trivial
    |none=>trivial
    |iter l p=>trivial
  ·rw[a2 i om];trivial
 have hv:(fun b=>ah X φ (aV s c) w b)=ah X (fun id=>φ (inv id)) o w:=funext fun b=>propext (hy b);have hk:ah X φ (aV s c) w=ah X (fun id=>φ (inv id)) o w:=hv;refine⟨⟨fun id=>?_,fun i j hi hj e=>?_,fun i hi=>?_,hm.xs,fun id=>?_,fun g t x hg=>?_,hm.Hz⟩,hu,fun zs hz=>?_⟩
 ·rcases hq id with ⟨j,hj,rfl⟩|h
  ·have hl:=hm.ay j;rcases a1 j hj with ⟨l,r,q,e1,e2⟩|⟨e1,e2⟩
   ·rw[e1] at hl;rw[e2];obtain⟨h1,cz,el,lo,hw,h2,h3,h4⟩:=hl;refine⟨by rw[dJ];exact h1,cz,el,lo,hw,by rw[dJ];exact h2,h3,?_⟩;rw[hk] at h4;exact Nh (φ':=fun id=>φ (inv id)) hA (fun i _ _=>dJ i) l r q _ h4
   ·rw[<-e1];cases hc:aV s c j with
    |box cs=>exact absurd hc (e2 _)
    |dead=>trivial
    |none=>trivial
    |map k v m=>rw[hc] at hl;obtain⟨es,clock,h1,h2⟩:=hl;rw[hk] at h2;exact⟨es,clock,by rw[dJ];exact h1,h2⟩
    |iter l p=>rw[hc] at hl;obtain⟨s',n,h1,h2⟩:=hl;exact⟨s',n,by rw[dJ];exact h1,h2⟩
    |vec t ver fr sl=>rw[hc] at hl;obtain⟨h1,h2,h3⟩:=hl;rw[hk] at h3;refine⟨h1,h2,fun hn=>?_⟩;rw[dJ];exact h3 hn
  ·rw[h];trivial
 ·rcases hq i with ⟨i',hw,rfl⟩|h
  ·rcases hq j with ⟨j',hC,rfl⟩|h
   ·have hr:∀j,inv (dD sk j)=j:=hf;simp only[hr] at e hi hj;rw[hm.inj i' j' (by rw[<-ht i' _ hw];exact hi) (by rw[<-ht j' _ hC];exact hj) e]
   ·rw[h] at hj;exact(lz hj).elim
  ·rw[h] at hi;exact(lz hi).elim
 ·rcases hq i with ⟨i',hw,rfl⟩|h
  ·have hr:∀j,inv (dD sk j)=j:=hf;simp only[hr] at hi ⊢;exact hm.sep i' (by rw[<-ht i' _ hw];exact hi)
  ·rw[h] at hi;exact(lz hi).elim
 ·rcases hq id with ⟨j,hj,rfl⟩|h
  ·have he:=hm.oW j;show ik C w (φ (inv (dD sk j))) (o (dD sk j));rw[hf];rcases a1 j hj with ⟨l,r,q,e1,e2⟩|⟨e1,e2⟩
   ·rw[e1] at he;rw[e2];exact fun hs=>he (by rw[<-Zd (dD sk) bX];exact hs)
   ·rw[<-e1];exact he
  ·rw[h];trivial
 ·obtain⟨a,cs,h1,h2,h3,h4,h5⟩:=hm.fk g t x hg;rw[hk] at h3 h4;exact⟨a,cs,h1,h2,h3,h4,h5⟩
 ·rw[hk] at hz;exact Nh (φ':=fun id=>φ (inv id)) hA (fun i _ _=>dJ i) s.roots _ _ _ hz
theorem Ze{φ:Nat->Addr}{o:Nat->Obj}{imm:Nat->Prop}{g:Nat->Value}:∀(ts:List Nat) (vs:List V),cd φ o imm w vs (ts.map g)->∀t,aq φ o imm w (IZ ts vs t) (g t)
 |[],_,_,_=>by cases ‹List V›<;>trivial
 |t'::ts,vs,h,t=>by
  cases vs with
  |nil=>trivial
  |cons v vs=>
   obtain⟨z,r,e,h1,h2⟩:=h;injection e with e1 e2;show aq φ o imm w (cu (IZ ts vs) t' v t) (g t);by_cases ht:t=t'
   ·subst ht;rw[eH,e1];exact h1
   ·rw[iI ht];exact Ze ts vs (e2▸h2) t
end
structure dV (sk:List Nat) (eI:Nat->Addr) (o0:Nat->Obj) (w0:World) (φ:Nat->Addr) (o:Nat->Obj) (w:World):Prop where
 size:w0.heap.size<=w.heap.size
 frame:∀b,b<w0.heap.size->¬mw eI o0 b->w.heap[b]?=w0.heap[b]?
 news:∀b,mw φ o b->w0.heap.size<=b\/mw eI o0 b
 still:tR w0 w
 up:∀id,id∈sk->Up w0 w (eI id) (φ id) (o0 id) (o id)
theorem dV.refl(sk:List Nat)(eI:Nat->Addr)(o0:Nat->Obj)(w0:World):dV sk eI o0 w0 eI o0 w0:=⟨Nat.le_refl _,fun _ _ _=>rfl,fun _ h=>.inr h,⟨rfl,rfl⟩,fun _ _=>Up.same fun _ _ h=>h⟩
theorem dV.step{C:Cx}{X:Nat->Prop}{eI φ φ':Nat->Addr}{o0 o:Nat->Obj}{w0 w w':World}{u:List (Nat×Obj)}{v:V}{z:Value}{sk:List Nat}(h:dV sk eI o0 w0 φ o w)(hc:Comes C X φ φ' o u w w' v z):dV sk eI o0 w0 φ' (ak o u) w':=by
 refine⟨Nat.le_trans h.size hc.size,fun b hb hn=>?_,fun b ⟨id,e1,e2⟩=>?_,⟨hc.still.1.trans h.still.1,hc.still.2.trans h.still.2⟩,fun id hi=>(h.up id hi).trans (hc.up id)⟩
 ·rw[hc.frame b (Nat.lt_of_lt_of_le hb h.size),h.frame b hb hn];rintro⟨id,_,e1,e2⟩;rcases h.news b ⟨id,e1,e2⟩ with h1|h1
  ·omega
  ·exact hn h1
 ·rcases hc.news id e1 with h1|h1
  ·exact .inl (by have:=h.size;omega)
  ·rw[e2] at h1;exact h.news b h1
theorem Jx{C:Cx}{nt:Nat}{X:Nat->Prop}{φ eI:Nat->Addr}{o0:Nat->Obj}{w0:World}{st:St}{a:Act}{w:World}{sk:List Nat}(hj:ko sk)(h:Rel C nt X φ st a w)(hh:dV sk eI o0 w0 φ st.obj w){s:Shape}{ts:List Nat}{ps:PS}{c:ai s.aN}(hp:Eg lf sk (qV 0 sk) st.obj s (ts.map fun t=>eg (st.env t))=some (ps,c)):∃eY X2,(∀b,X b->X2 b)/\Rel C nt X2 eY (jm sk ts s c) a w/\dV sk eI o0 w0 eY (jm sk ts s c).obj w:=by
 obtain⟨hk,hm,he⟩:=YW hp;clear hp;have hp:=hk;clear hk;have hf:=hj.inj;obtain⟨inv,hc⟩:=hj;have hv:cd φ st.obj (ah X φ st.obj w) w (ts.map fun t=>eg (st.env t)) (ts.map fun t=>a.tmps.getD t undef):=by
  clear hp
  induction ts with
  |nil=>rfl
  |cons t ts ih=>exact⟨_,_,rfl,I6 (h.env t),ih⟩
 obtain⟨h1,h2⟩:=QU h.toMRel hp hv;obtain⟨hg,_⟩:=Jw hp;obtain⟨g1,g2,g3⟩:=za1 hc ts h1;refine⟨_,_,fun b hb=>.inl hb,⟨g1,h.size,fun t=>?_,h.defers⟩,⟨hh.size,hh.frame,fun b hb=>hh.news b (hg.lI ((g2 b).1 hb)),hh.still,fun id hi=>(hh.up id hi).trans ?_⟩⟩
 ·exact Ze ts _ (g3 _ h2) t
 ·obtain⟨i,hn,hq⟩:=jc.1 hi;have hl:sk[i]?=some id:=by rw[zg hn,hq]
  have e:dD sk i=id:=by unfold dD;rw[hl]
  have hr:(i,id)∈ps.aL:=YX hp _ (by have:=YU (n:=0) hl;rwa [zD] at this);have hu:=YY (φ:=φ) (w:=w) hg hr (QV hm id hi) (QW he id hi);have dJ:ft φ ps (inv id)=ft φ ps i:=by rw[<-e,hc]
  obtain⟨a1,_⟩:=Za hf ts s c;have ha:=a1 i (hg.aL hr).1;rw[e] at ha;show Up w w (φ id) (ft φ ps (inv id)) (st.obj id) _;rw[dJ];rcases ha with ⟨l,r,q,e1,e2⟩|⟨e1,_⟩
  ·rw[e2];rw[e1] at hu;cases ho:st.obj id<;>rw[ho] at hu<;>exact hu
  ·rw[<-e1];exact hu
end Ev