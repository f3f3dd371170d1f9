/- All operations are sound; the frame rule; packing. No statement of its own about the program. -/
import Derived.Test.YtfgngipmbogcjaaGreatDoorEvD
namespace Ev
open Go
section
variable {C:Cx} {X:Nat→Prop} {φ:Nat→Addr} {o:Nat→Obj} {w:World} {imm:Nat→Prop} {R:gF C.sigs} {env:Nat→V} {ρ:Operand→Value}
def dV(C:Cx)(X:Nat->Prop)(φ:Nat->Addr)(o:Nat->Obj)(w:World)(v:V)(u:List (Nat×Obj))(r:Result Next):Prop:=
 (∃val w' φ',r=.ok (.value val) w'/\Comes C X φ φ' o u w w' v val)\/
 (∃w' φ',r=.ok .skip w'/\Comes C X φ φ' o u w w' v undef)\/
 (∃f args,r=.ok (.enter f args) w/\Calls C.P f args w fun e w'=>∃val φ',e=.returned val/\Comes C X φ φ' o u w w' v val)
theorem dV.upon{v:V}{u:List (Nat×Obj)}{r:Result Next}(h:dV C X φ o w v u r){op:Oper}{a:Act}{next:Act->World->Prop}{Q:Exit->Act->World->Prop}(hn:∀val w' φ',Comes C X φ φ' o u w w' v val->next (a.put op.dst val) w'):op.upon C.P a next Q r:=by
 rcases h with ⟨val,w',φ',rfl,hc⟩|⟨w',φ',rfl,hc⟩|⟨f,args,rfl,hc⟩
 ·exact hn _ _ _ hc
 ·exact hn _ _ _ hc
 ·refine Calls.mono hc fun e w' h=>?_;obtain⟨val,φ',rfl,h⟩:=h;exact hn _ _ _ h
theorem dR.cf{v:V}{u:List (Nat×Obj)}{s:Sem Value}(h:dR C X φ o w v u s):dV C X φ o w v u ((do pure (Next.value (<-s)):Sem Next).run C.P w):=by obtain⟨val,w',φ',h1,h2⟩:=h;exact .inl ⟨val,w',φ',by simp[h1],h2⟩
theorem ym.cf{v:V}{u:List (Nat×Obj)}{s:Sem Unit}(h:ym C X φ o w v u s):dV C X φ o w v u ((do s;pure Next.skip:Sem Next).run C.P w):=by obtain⟨w',φ',h1,h2⟩:=h;exact .inr (.inl ⟨w',φ',by simp[h1],h2⟩)
theorem dV.same(hm:MRel C X φ o w){v:V}{z:Value}(h:ay φ o (ah X φ o w) w v z):dV C X φ o w v [] (.ok (.value z) w):=.inl ⟨z,w,φ,rfl,.same hm h⟩
theorem qo8{op:BinOp}{t:TypeId}{x y:V}{zx zy:Value}{v:V}{u:List (Nat×Obj)}(hl:∀id,qq φ o imm w id (o id))(hx:ay φ o imm w x zx)(hy:ay φ o imm w y zy)(h:(Jk lf C o op t x y).gives v u):qkt zx=true\/(bM t C.eqs=true/\∃xs ys,zx=.agg xs/\zy=.agg ys):=by
 unfold Jk at h;split at h
 ·obtain⟨rfl,_⟩:=o5 hx;exact .inl rfl
 ·obtain⟨s,rfl,_⟩:=sV hx;exact .inl rfl
 ·have:=K4 hx;subst this;exact .inl rfl
 ·have:=K5 hx;subst this;exact .inl rfl
 ·have:=pT hx;subst this;exact .inl rfl
 ·split at h
  ·rw[dN,zd] at h;obtain⟨xs,rfl,_⟩:=hx;obtain⟨ys,rfl,_⟩:=hy;exact .inr ⟨h.1.1,xs,ys,rfl,rfl⟩
  ·cases h
 ·obtain⟨_,h2⟩:=Fc hx;rcases h2 with ⟨_,_,rfl⟩|⟨_,a,cap,ec,rfl,_⟩<;>exact .inl rfl
 ·have:zx=.slice none 0 0:=hx;subst this;exact .inl rfl
 ·obtain⟨c,rfl,_⟩:=hx;exact .inl rfl
 ·have:zx=.nilFunc:=hx;subst this;exact .inl rfl
 ·rename_i a k n;have hx:wD imm w a k n zx:=hx;rcases OY a hx with ⟨rfl,_⟩|⟨_,_,rfl,_⟩<;>exact .inl rfl
 ·have:zx=.pointer none:=hx;subst this;exact .inl rfl
 ·rw[dN,zd] at h;obtain⟨a,rfl⟩:=RV hx h.1.2;exact .inl rfl
 ·split at h
  ·rename_i e s he;rcases qgz hx he hl with ⟨_,_,rfl⟩|⟨_,a,cap,rfl⟩<;>exact .inl rfl
  ·cases h
 ·cases h
theorem z0g(hE:kD C)(hm:MRel C X φ o w){op:BinOp}{t:TypeId}{x y:Operand}{vx vy:V}{v:V}{u:List (Nat×Obj)}(hx:ay φ o (ah X φ o w) w vx (ρ x))(hy:ay φ o (ah X φ o w) w vy (ρ y))(h:(Jk lf C o op t vx vy).gives v u):dR C X φ o w v u (do eqGuard op t x y (ρ x) (ρ y);binOp op t (ρ x) (ρ y)):=by
 have h1:=z07 hm.aB hx hy (fun t p a b xs ys=>hE.eq w _ t p a b xs ys) h;obtain⟨hu,val,h2,h3⟩:=h1;refine dR.a7 hm ⟨hu,val,?_,h3⟩;rcases qo8 hm.aB hx hy h with hg|⟨hg,xs,ys,e1,e2⟩
 ·simp[qnv hg,h2]
 ·rw[e1,e2] at h2 ⊢;simp[run_eqGuard_agg w op t x y xs ys (hE.guard t hg),h2]
theorem JK(cG:∀x,ay φ o imm w (bZ C env x) (ρ x)):∀(l:List Operand),cd φ o imm w (l.map (bZ C env)) (l.map ρ)
 |[]=>rfl
 |x::l=>⟨_,_,rfl,cG x,JK cG l⟩
theorem Sw(cG:∀x,ay φ o imm w (bZ C env x) (ρ x)):∀(l:List (Nat×Operand)),BV φ o imm w (l.map fun p=>(p.1,bZ C env p.2)) (l.map fun p=>(p.1,ρ p.2))
 |[]=>rfl
 |x::l=>⟨_,_,rfl,cG x.2,Sw cG l⟩
theorem Sx(cG:∀x,ay φ o imm w (bZ C env x) (ρ x))(x:Option Operand):yk φ o imm w (x.map (bZ C env)) (x.map ρ):=by
 cases x with
 |none=>trivial
 |some x=>exact cG x
theorem qlf{xs:Array Operand}{ρ:Operand->Value}{l:List Operand}(h:xs.toList=l):xs.map ρ=(l.map ρ).toArray:=by rw[<-h,<-Array.toList_map,Array.toArray_toList]
def tz(l:List Value):Value:=match l with
 |[v]=>v
 |l=>.tuple l.toArray
def oC(t:TypeId)(v:Value):List PanicEntry:=[{v:=.iface t v,recovered:=false}]
def yn(p:Bool)(val:Value)(e:Ending):Prop:=match p with
 |false=>e=.returned val
 |true=>∃z b r,val=.tuple (z::.bool b::r).toArray/\((b=false/\e=.returned (tz r))\/(b=true/\∃t v,e=.panicked (oC t v)))
def tA(C:Cx)(R:gF C.sigs)(X:Nat->Prop)(φ:Nat->Addr)(o:Nat->Obj)(w:World)(fr f:Nat):Prop:=
 ∀(p:Bool) (vs:List V) (zs:List Value) (v:V) (u:List (Nat×Obj)),cd φ o (ah X φ o w) w vs zs->(xC lf C R p o fr f vs C.sigs 0).gives v u->kC fr o u->
  (∃fn,C.P.funcs[f]?=some fn/\(fn.name== "runtime.NumGoroutine")=false/\fn.body.isNone=false)/\
  Calls C.P f zs.toArray w fun e w'=>∃val φ',yn p val e/\Comes C X φ φ' o u w w' v val
theorem z6o(hm:MRel C X φ o w)(cG:∀x,ay φ o (ah X φ o w) w (bZ C env x) (ρ x)){fr:Nat}{ty:TypeId}{v:V}{u:List (Nat×Obj)}(x:Operand)(h:(KN C fr ty (bZ C env x)).gives v u)(hf:kC fr o u):dV C X φ o w v u (.ok (.value (ρ x)) w):=by
 have hx:=cG x;unfold KN at h;split at h
 ·rename_i e1;rw[e1] at hx;split at h
  ·rename_i e _;rw[dJ] at h;obtain⟨rfl,rfl⟩:=h;have hc:o fr=.none:=hf _ (zf ..) (Nat.le_refl _) (by show fr<fr+16;omega);refine .inl ⟨_,w,φ,rfl,Comes.write hm (.vec e 0 false ⟨true,[]⟩) (by simp[aX,live]) rfl (fun _ _=>rfl) (JH hc _) (fun _ _ _=>⟨Nat.zero_le _,fun _=>rfl,fun h=>by simp at h⟩) (fun _ h=>by simp at h) (fun he=>?_)⟩;unfold ay;rw[he];exact⟨Nat.le_refl _,fun _=>.inl ⟨rfl,hx⟩⟩
  ·rw[dJ] at h;obtain⟨rfl,rfl⟩:=h;exact .same hm hx
 ·rw[dJ] at h;obtain⟨rfl,rfl⟩:=h;exact .same hm hx
theorem z4f(hm:MRel C X φ o w)(cG:∀x,ay φ o (ah X φ o w) w (bZ C env x) (ρ x)){v:V}{u:List (Nat×Obj)}{c a b:Operand}{dst:Option Tmp}{ty:TypeId}{pos:String}{after:Array Edge}{guard:Option (Nat×Bool)}{fr:Nat}(h:(df lf C R env o fr ty (.pick c a b)).gives v u):dV C X φ o w v u ((execOp ρ ⟨dst,.pick c a b,ty,pos,after,guard⟩).run C.P w):=by
 have hc:=cG c;have key:∀x,(Cs C env c=.lb x\/Cs C env c=.d .bool x)->bZ C env c=.d .bool x:=by
  intro x h;cases c with
  |tmp t=>show dK (env t)=_;have h:env t=.lb x\/env t=.d .bool x:=h;rcases h with h|h<;>rw[h]<;>rfl
  |const z=>
   rcases h with h|h
   ·exfalso;have h:EX z=.lb x:=h;have hn:∀(b:Bool) (y:V),(∀x,y≠.lb x)->(bif b then y else V.bP)≠.lb x:=by
     intro b y hy;cases b
     ·intro h;cases h
     ·exact hy x
    unfold EX at h;split at h<;>first|exact hn _ _ (fun _ h=>by cases h) h|cases h
   ·exact h
  |global g=>
   rcases h with h|h
   ·exfalso;have h:bZ C env (.global g)=.lb x:=h;simp only[bZ] at h;split at h<;>cases h
   ·exact h
  |func f=>
   rcases h with h|h
   ·have h:(bif Nat.blt f 1048576 then V.fn f [] else .bP)=.lb x:=h;cases hb:Nat.blt f 1048576<;>rw[hb] at h<;>cases h
   ·have h:(bif Nat.blt f 1048576 then V.fn f [] else .bP)=.d .bool x:=h;cases hb:Nat.blt f 1048576<;>rw[hb] at h<;>cases h
 simp only[df] at h;split at h
 ·rename_i x e;rw[dJ] at h;obtain⟨rfl,rfl⟩:=h;rw[key x (.inl e)] at hc;have hc:=pT hc;simp only[execOp,hc,asBool];cases x
  ·exact .same hm (cG b)
  ·exact .same hm (cG a)
 ·rename_i x e;rw[dJ] at h;obtain⟨rfl,rfl⟩:=h;rw[key x (.inr e)] at hc;have hc:=pT hc;simp only[execOp,hc,asBool];exact .same hm (z0b (cG a) (cG b))
 ·cases h
theorem z4g(hm:MRel C X φ o w)(cG:∀x,ay φ o (ah X φ o w) w (bZ C env x) (ρ x)){v:V}{u:List (Nat×Obj)}{op:UnOp}{t:TypeId}{x:Operand}{dst:Option Tmp}{ty:TypeId}{pos:String}{after:Array Edge}{guard:Option (Nat×Bool)}{fr:Nat}(h:(df lf C R env o fr ty (.unOp op t x)).gives v u):dV C X φ o w v u ((execOp ρ ⟨dst,.unOp op t x,ty,pos,after,guard⟩).run C.P w):=by
 have hx:=cG x;cases op with
 |xor=>
  simp only[df] at h;split at h
  ·rename_i k n e;rw[e] at hx;rw[dJ] at h;obtain⟨rfl,rfl⟩:=h;obtain⟨hz,_⟩:=o5 hx;simp only[execOp,hz];have e1:F3 k=if k.signed then -1 else k.max:=by cases k<;>decide
   exact(dR.a7 hm ⟨rfl,.int k (lf.nu k (F3 k) n),by rw[e1];simp[Op.unary,Op.intBits,lf,nu,pure],ng (Jz _ _)⟩).cf
  ·cases h
 |plus=>exact False.elim h
 |neg=>
  simp only[df] at h;split at h
  ·rename_i k n e;rw[e] at hx;rw[dJ] at h;obtain⟨rfl,rfl⟩:=h;obtain⟨hz,_⟩:=o5 hx;simp only[execOp,hz];exact(dR.a7 hm ⟨rfl,.int k (k.wrap (0-n)),by simp[Op.unary,Op.intArith],ng (Jz _ _)⟩).cf
  ·cases h
 |not=>
  simp only[df] at h;split at h
  ·rename_i b e;rw[e] at hx;rw[dJ] at h;obtain⟨rfl,rfl⟩:=h;have hz:=pT hx;simp only[execOp,hz];exact(dR.a7 hm ⟨rfl,.bool (!b),by simp[Op.unary],u9⟩).cf
  ·cases h
theorem qo9(hm:MRel C X φ o w)(cG:∀x,ay φ o (ah X φ o w) w (bZ C env x) (ρ x)){v:V}{u:List (Nat×Obj)}{fn:Fn}{first caps:Array Operand}{dst:Option Tmp}{ty:TypeId}{pos:String}{after:Array Edge}{guard:Option (Nat×Bool)}{fr:Nat}(h:(df lf C R env o fr ty (.makeFunc fn first caps)).gives v u):dV C X φ o w v u ((execOp ρ ⟨dst,.makeFunc fn first caps,ty,pos,after,guard⟩).run C.P w):=by
 cases fn<;>try exact False.elim h
 rename_i f;simp only[df] at h;cases hb:Nat.blt f 1048576 with
 |false=>rw[hb] at h;exact False.elim h
 |true=>
  rw[hb] at h;have h:(Pk.now (.fn (f+1048576*first.toList.length) (first.toList.map (bZ C env)++caps.toList.map (bZ C env)))).gives v u:=h;rw[dJ] at h;obtain⟨rfl,rfl⟩:=h;have hc:f<1048576:=zH hb;have e1:(f+1048576*first.toList.length) % 1048576=f:=by rw[Nat.add_mul_mod_self_left];exact Nat.mod_eq_of_lt hc
  have e2:(f+1048576*first.toList.length) / 1048576=first.toList.length:=by rw[Nat.add_mul_div_left _ _ dc,Nat.div_eq_of_lt hc,zN]
  have hl:(first.toList.map ρ).length=first.toList.length:=zA _;simp only[execOp,Instr.makeFunc];have hv:ay φ o (ah X φ o w) w (.fn (f+1048576*first.toList.length) (first.toList.map (bZ C env)++caps.toList.map (bZ C env))) (.func (.func f) (first.map ρ) (caps.map ρ)):=by
   refine⟨(first.toList.map ρ++caps.toList.map ρ).toArray,?_,?_⟩
   ·unfold Jw;rw[e1,e2];have t1:((first.toList.map ρ++caps.toList.map ρ).take first.toList.length).toArray=first.map ρ:=by rw[<-hl,List.take_left];apply Array.toList_inj.1;simp
    have t2:((first.toList.map ρ++caps.toList.map ρ).drop first.toList.length).toArray=caps.map ρ:=by rw[<-hl,List.drop_left];apply Array.toList_inj.1;simp
    show _=Value.func (.func f) ((first.toList.map ρ++caps.toList.map ρ).take first.toList.length).toArray ((first.toList.map ρ++caps.toList.map ρ).drop first.toList.length).toArray;rw[t1,t2]
   ·exact BS (JK cG _) (JK cG _)
  exact(dR.a7 (s:=pure (.func (.func f) (first.map ρ) (caps.map ρ))) hm ⟨rfl,_,rfl,hv⟩).cf
theorem qsk(hm:MRel C X φ o w)(cG:∀x,ay φ o (ah X φ o w) w (bZ C env x) (ρ x)){v:V}{u:List (Nat×Obj)}{x:Operand}{i:Nat}{dst:Option Tmp}{ty:TypeId}{pos:String}{after:Array Edge}{guard:Option (Nat×Bool)}{fr:Nat}(h:(df lf C R env o fr ty (.extract x i)).gives v u):dV C X φ o w v u ((execOp ρ ⟨dst,.extract x i,ty,pos,after,guard⟩).run C.P w):=by exact(z0f hm (cG x) h).cf
theorem z4h(hm:MRel C X φ o w)(cG:∀x,ay φ o (ah X φ o w) w (bZ C env x) (ρ x)){v:V}{u:List (Nat×Obj)}{x:Operand}{b:Bool}{dst:Option Tmp}{ty:TypeId}{pos:String}{after:Array Edge}{guard:Option (Nat×Bool)}{fr:Nat}(h:(df lf C R env o fr ty (.next x b)).gives v u):dV C X φ o w v u ((execOp ρ ⟨dst,.next x b,ty,pos,after,guard⟩).run C.P w):=by
 cases b with
 |false=>exact False.elim h
 |true=>exact(qvv hm (cG x) h).cf
theorem qev{fr:Nat}{n:Int}{vs:List V}{z:Value}{b:Bool}:∀(a:List (Nat×Bool)) (i:Nat) (k:Int),KR lf C R o fr (k+(i:Int)) n vs a i=some (some b)->wD imm w a k n z->∃f caps Fj,z=.func (.func f) #[] Fj/\cd φ o imm w caps Fj.toList/\(xC lf C R false o fr f (vs++caps) C.sigs 0).gives (.d .bool b) []
 |[],_,_,h,_=>by cases h
 |(f,c)::r,i,k,h,hr=>by
  unfold KR at h;split at h
  ·rename_i x hx;split at h
   ·rename_i y hy;injection h with h;rcases hr with ⟨rfl,h2⟩|⟨h1,h2⟩
    ·have he:lf.e (0+(i:Int)) (Int.ofNat i)=true:=by show((0+(i:Int))==Int.ofNat i)=true;simp
     rw[he] at h;have h:x=some b:=h;subst h;have gv:(xC lf C R false o fr f (vs++bif c then [.ref (.int .i64) n] else []) C.sigs 0).gives (.d .bool b) []:=by
      revert hx;generalize xC lf C R false o fr f (vs++bif c then [.ref (.int .i64) n] else []) C.sigs 0=p;intro hx;cases p with
      |fail=>cases hx
      |mw v u=>cases hx
      |dyn α x' out=>
       injection hx with hx;cases x' with
       |none=>cases hx
       |some q=>
        have hx:(match out q with|(.d .bool b,[])=>some b|_=>none)=some b:=hx;split at hx
        ·rename_i b' eo;injection hx with hx;subst hx;exact⟨q,rfl,eo⟩
        ·cases hx
     cases c with
     |false=>exact⟨f,[],#[],h2,rfl,gv⟩
     |true=>obtain⟨p,h3,h4⟩:=h2;exact⟨f,[.ref (.int .i64) n],#[p],h3,⟨p,[],rfl,h4,rfl⟩,gv⟩
    ·have he:lf.e (k+(i:Int)) (Int.ofNat i)=false:=by
      show((k+(i:Int))==Int.ofNat i)=false;have:k+(i:Int)≠Int.ofNat i:=by show k+(i:Int)≠(i:Int);omega
      exact beq_false_of_ne this
     rw[he] at h;have h:y=some b:=h;subst h;refine qev r (i+1) (k-1) ?_ h2;have:k-1+((i+1:Nat):Int)=k+(i:Int):=om
     rw[this];exact hy
   ·cases h
  ·cases h
theorem z0h(cG:∀x,ay φ o (ah X φ o w) w (bZ C env x) (ρ x)){v:V}{u:List (Nat×Obj)}{f:Operand}{args:Array Operand}{qM:Array TypeId}{dst:Option Tmp}{ty:TypeId}{pos:String}{after:Array Edge}{guard:Option (Nat×Bool)}{fr:Nat}(he:∀f,tA C R X φ o w fr f)(h:(df lf C R env o fr ty (.call ⟨.value f,args,qM⟩)).gives v u)(hf:kC fr o u):dV C X φ o w v u ((execOp ρ ⟨dst,.call ⟨.value f,args,qM⟩,ty,pos,after,guard⟩).run C.P w):=by
 have hx:=cG f;simp only[df] at h;split at h
 ·rename_i jF caps e;rw[e] at hx;obtain⟨cz,hz,hr⟩:=hx;have hc:cd φ o (ah X φ o w) w (caps.take (jF / 1048576)++(args.toList.map (bZ C env)++caps.drop (jF / 1048576))) (cz.toList.take (jF / 1048576)++((args.map ρ).toList++cz.toList.drop (jF / 1048576))):=by rw[Array.toList_map];exact BS (JF _ hr) (BS (JK cG _) (JE _ hr))
  obtain⟨⟨fn,g1,g2,g3⟩,g4⟩:=he (jF % 1048576) false _ _ v u hc h hf;refine .inr (.inr ⟨jF % 1048576,(cz.toList.take (jF / 1048576)++((args.map ρ).toList++cz.toList.drop (jF / 1048576))).toArray,?_,g4⟩);have e2:(cz.toList.take (jF / 1048576)++((args.map ρ).toList++cz.toList.drop (jF / 1048576))).toArray=(cz.toList.take (jF / 1048576)).toArray++args.map ρ++(cz.toList.drop (jF / 1048576)).toArray:=by apply Array.toList_inj.1;simp
  rw[e2];have CF:¬fn.name= "runtime.NumGoroutine":=by simpa using g2
  have Gl:fn.body≠none:=by intro e;rw[e] at g3;cases g3
  unfold Jw at hz;simp[execOp,resolve,hz,Deferred.ofValue,invoke,callFunc,g1,CF,Gl]
 ·rename_i a k n e;rw[e] at hx;split at h
  ·rename_i x hg;obtain⟨b,hb,ho⟩:=h;subst hb;injection ho with hj hk;subst hj hk;have hg:KR lf C R o fr (k+((0:Nat):Int)) n (args.toList.map (bZ C env)) a 0=some (some b):=by
    have:k+((0:Nat):Int)=k:=om
    rw[this];exact hg
   obtain⟨jF,caps,cz,hz,hr,h⟩:=qev (φ:=φ) (imm:=ah X φ o w) (w:=w) a 0 k hg hx;have hc:cd φ o (ah X φ o w) w (args.toList.map (bZ C env)++caps) ((args.map ρ).toList++cz.toList):=by rw[Array.toList_map];exact BS (JK cG _) hr
   obtain⟨⟨fn,g1,g2,g3⟩,g4⟩:=he jF false _ _ _ _ hc h hf;refine .inr (.inr ⟨jF,((args.map ρ).toList++cz.toList).toArray,?_,g4⟩);have e2:((args.map ρ).toList++cz.toList).toArray=args.map ρ++cz:=by apply Array.toList_inj.1;simp
   rw[e2];have CF:¬fn.name= "runtime.NumGoroutine":=by simpa using g2
   have Gl:fn.body≠none:=by intro e;rw[e] at g3;cases g3
   simp[execOp,resolve,hz,Deferred.ofValue,invoke,callFunc,g1,CF,Gl]
  ·exact False.elim h
 ·cases h
theorem qvw(cG:∀x,ay φ o (ah X φ o w) w (bZ C env x) (ρ x)){v:V}{u:List (Nat×Obj)}{f:Operand}{args:Array Operand}{qM:Array TypeId}{dst:Option Tmp}{ty:TypeId}{pos:String}{after:Array Edge}{guard:Option (Nat×Bool)}{fr:Nat}(hc:∀f,tA C R X φ o w fr f){jF:Nat}{caps:List V}(e:bZ C env f=.fn jF caps)(h:(xC lf C R true o fr (jF % 1048576) (caps.take (jF / 1048576)++(args.toList.map (bZ C env)++caps.drop (jF / 1048576))) C.sigs 0).gives v u)(hf:kC fr o u):∃f' az,(execOp ρ ⟨dst,.call ⟨.value f,args,qM⟩,ty,pos,after,guard⟩).run C.P w=.ok (.enter f' az) w/\Calls C.P f' az w fun e w'=>∃val φ',yn true val e/\Comes C X φ φ' o u w w' v val:=by
 have hx:=cG f;rw[e] at hx;obtain⟨cz,hz,hr⟩:=hx;have he:cd φ o (ah X φ o w) w (caps.take (jF / 1048576)++(args.toList.map (bZ C env)++caps.drop (jF / 1048576))) (cz.toList.take (jF / 1048576)++((args.map ρ).toList++cz.toList.drop (jF / 1048576))):=by rw[Array.toList_map];exact BS (JF _ hr) (BS (JK cG _) (JE _ hr))
 obtain⟨⟨fn,g1,g2,g3⟩,g4⟩:=hc (jF % 1048576) true _ _ v u he h hf;refine⟨jF % 1048576,(cz.toList.take (jF / 1048576)++((args.map ρ).toList++cz.toList.drop (jF / 1048576))).toArray,?_,g4⟩;have e2:(cz.toList.take (jF / 1048576)++((args.map ρ).toList++cz.toList.drop (jF / 1048576))).toArray=(cz.toList.take (jF / 1048576)).toArray++args.map ρ++(cz.toList.drop (jF / 1048576)).toArray:=by apply Array.toList_inj.1;simp
 rw[e2];have CF:¬fn.name= "runtime.NumGoroutine":=by simpa using g2
 have Gl:fn.body≠none:=by intro e;rw[e] at g3;cases g3
 unfold Jw at hz;simp[execOp,resolve,hz,Deferred.ofValue,invoke,callFunc,g1,CF,Gl]
theorem qqd(cG:∀x,ay φ o (ah X φ o w) w (bZ C env x) (ρ x)){v:V}{u:List (Nat×Obj)}{q:Oper}{fr:Nat}(hc:∀f,tA C R X φ o w fr f)(h:(E7 lf C R env o fr q.op).gives v u)(hf:kC fr o u):∃f' az,(execOp ρ q).run C.P w=.ok (.enter f' az) w/\Calls C.P f' az w fun e w'=>∃val φ',yn true val e/\Comes C X φ φ' o u w w' v val:=by
 obtain⟨dst,op,ty,pos,after,guard⟩:=q;unfold E7 at h;simp only at h;split at h
 ·rename_i c;obtain⟨callee,args,qM⟩:=c;simp only at h;split at h
  ·rename_i f;split at h
   ·rename_i jF caps e;exact qvw cG hc e h hf
   ·exact h.elim
  ·exact h.elim
 ·exact h.elim
theorem qh5{vs:List V}{zs:List Value}(h:cd φ o imm w vs zs):ay φ o imm w (lz vs) (tz zs):=by
 match vs,zs,h with
 |[],zs,h=>have h:zs=[]:=h;subst h;exact⟨#[],rfl,rfl⟩
 |[v],zs,⟨z,r,e,h1,h2⟩=>have h2:r=[]:=h2;subst e h2;exact h1
 |v::v'::vs,zs,⟨z,r,e,h1,z',r',e',h2,h3⟩=>subst e e';exact⟨(z::z'::r').toArray,rfl,z,z'::r',by simp,h1,z',r',rfl,h2,h3⟩
theorem qlg{k:IntKind}{a b:Int}(ha:gG k a)(hb:gG k b):gG k (kl a b)/\gG k (jQ a b):=by unfold kl jQ;constructor<;>split<;>assumption
theorem qsl(hC:cw C)(hm:MRel C X φ o w)(cG:∀x,ay φ o (ah X φ o w) w (bZ C env x) (ρ x)){v:V}{u:List (Nat×Obj)}{b:Builtin}{args:Array Operand}{qM:Array TypeId}{dst:Option Tmp}{ty:TypeId}{pos:String}{after:Array Edge}{guard:Option (Nat×Bool)}{fr:Nat}(h:(df lf C R env o fr ty (.call ⟨.builtin b,args,qM⟩)).gives v u)(hf:kC fr o u):dV C X φ o w v u ((execOp ρ ⟨dst,.call ⟨.builtin b,args,qM⟩,ty,pos,after,guard⟩).run C.P w):=by
 have o7:∀{x y:V},args.toList.map (bZ C env)=[x,y]->∃zx zy,args.map ρ=#[zx,zy]/\ay φ o (ah X φ o w) w x zx/\ay φ o (ah X φ o w) w y zy:=by
  intro x y e
  match hl:args.toList,e with
  |[a,b],e=>simp only[zQ,List.map_nil,List.cons.injEq,and_true] at e;obtain⟨rfl,rfl⟩:=e;exact⟨ρ a,ρ b,qlf hl,cG a,cG b⟩
 have vf:∀{x:V},args.toList.map (bZ C env)=[x]->∃zx,args.map ρ=#[zx]/\ay φ o (ah X φ o w) w x zx:=by
  intro x e
  match hl:args.toList,e with
  |[a],e=>simp only[zQ,List.map_nil,List.cons.injEq,and_true] at e;subst e;exact⟨ρ a,qlf hl,cG a⟩
 have aW:∀{l:List TypeId},qM.toList=l->qM=l.toArray:=fun e=>by rw[<-e,Array.toArray_toList]
 simp only[df,qkj] at h;split at h
 ·rename_i t ts x e1 e2;obtain⟨zx,h1,h2⟩:=vf e2;have:=(dR.a7 hm (z09 (ts:=ts) (ty:=ty) hm h2 h)).cf;rw[<-aW e1] at this;simpa[execOp,resolve,invoke,builtin,h1] using this
 ·rename_i t u' ts x y e1 e2;obtain⟨zx,zy,h1,h2,h3⟩:=o7 e2;have:=(qo2 (ts:=ts) (ty:=ty) hC hm h2 h3 h hf).cf;rw[<-aW e1] at this;simpa[execOp,resolve,invoke,builtin,h1] using this
 ·rename_i t ts x y e1 e2;obtain⟨zx,zy,h1,h2,h3⟩:=o7 e2;have:=(qvm (ts:=ts) (ty:=ty) hC hm h2 h3 h).cf;rw[<-aW e1] at this;simpa[execOp,resolve,invoke,builtin,h1] using this
 ·rename_i t ts x e1 e2;obtain⟨zx,h1,h2⟩:=vf e2;have:=(qsh (ts:=ts) (ty:=ty) hC hm h2 h).cf;rw[<-aW e1] at this;simpa[execOp,resolve,invoke,builtin,h1] using this
 ·rename_i t ts x y e1 e2;obtain⟨zx,zy,h1,h2,h3⟩:=o7 e2;have:=(qo7 (ts:=ts) (ty:=ty) hC hm h2 h3 h).cf;rw[<-aW e1] at this;simpa[execOp,resolve,invoke,builtin,h1] using this
 ·rename_i k a k' b e2;obtain⟨zx,zy,h1,h2,h3⟩:=o7 e2;obtain⟨rfl,i1⟩:=o5 h2;obtain⟨rfl,i2⟩:=o5 h3;rw[dN,dJ] at h;obtain⟨hk,rfl,rfl⟩:=h;have:=K8 hk;subst this;have:dV C X φ o w (.d (.int k) (lf.kl a b)) [] _:=(dR.a7 (s:=Builtin.min_ qM ty #[.int k a,.int k b]) hm ⟨rfl,.int k (kl a b),by simp[Builtin.min_,Builtin.min2,kl],ng (qlg i1 i2).1⟩).cf;simpa[execOp,resolve,invoke,builtin,h1] using this
 ·rename_i k a k' b e2;obtain⟨zx,zy,h1,h2,h3⟩:=o7 e2;obtain⟨rfl,i1⟩:=o5 h2;obtain⟨rfl,i2⟩:=o5 h3;rw[dN,dJ] at h;obtain⟨hk,rfl,rfl⟩:=h;have:=K8 hk;subst this;have:dV C X φ o w (.d (.int k) (lf.jQ a b)) [] _:=(dR.a7 (s:=Builtin.max_ qM ty #[.int k a,.int k b]) hm ⟨rfl,.int k (jQ a b),by simp[Builtin.max_,Builtin.max2,jQ],ng (qlg i1 i2).2⟩).cf;simpa[execOp,resolve,invoke,builtin,h1] using this
 ·rename_i a b e2;obtain⟨zx,zy,h1,h2,h3⟩:=o7 e2;have g1:=K4 h2;have g2:=K4 h3;subst g1 g2;rw[dJ] at h;obtain⟨rfl,rfl⟩:=h;have:dV C X φ o w (.d .fl ((a:Nat),(b:Nat))) [] _:=(dR.a7 (s:=Builtin.complex_ qM ty #[.float .f64 a,.float .f64 b]) hm ⟨rfl,.complex .f64 a b,rfl,z2x (b:=(a,b))⟩).cf;simpa[execOp,resolve,invoke,builtin,h1] using this
 ·rename_i a e2;obtain⟨zx,h1,h2⟩:=vf e2;have g1:=K5 h2;subst g1;rw[dJ] at h;obtain⟨rfl,rfl⟩:=h;have:dV C X φ o w (.d .eP (Prod.fst (α:=Nat) (β:=Nat) a)) [] _:=(dR.a7 (s:=Builtin.real_ qM ty #[.complex .f64 (Prod.fst (α:=Nat) (β:=Nat) a) (Prod.snd (α:=Nat) (β:=Nat) a)]) hm ⟨rfl,.float .f64 _,rfl,OZ⟩).cf;simpa[execOp,resolve,invoke,builtin,h1] using this
 ·rename_i a e2;obtain⟨zx,h1,h2⟩:=vf e2;have g1:=K5 h2;subst g1;rw[dJ] at h;obtain⟨rfl,rfl⟩:=h;have:dV C X φ o w (.d .eP (Prod.snd (α:=Nat) (β:=Nat) a)) [] _:=(dR.a7 (s:=Builtin.imag_ qM ty #[.complex .f64 (Prod.fst (α:=Nat) (β:=Nat) a) (Prod.snd (α:=Nat) (β:=Nat) a)]) hm ⟨rfl,.float .f64 _,rfl,OZ⟩).cf;simpa[execOp,resolve,invoke,builtin,h1] using this
 ·cases h
set_option maxHeartbeats 4000000 in
theorem Sy(hC:cw C)(hE:kD C)(hm:MRel C X φ o w)(cG:∀x,ay φ o (ah X φ o w) w (bZ C env x) (ρ x)){op:Oper}{fr:Nat}(hc:∀f,tA C R X φ o w fr f){v:V}{u:List (Nat×Obj)}(h:(df lf C R env o fr op.type op.op).gives v u)(hf:kC fr o u):dV C X φ o w v u ((execOp ρ op).run C.P w):=by
 obtain⟨dst,op,ty,pos,after,guard⟩:=op;cases op
 case move x=>exact z6o hm cG x h hf
 case assign x=>exact z6o hm cG x h hf
 case pick c a b=>exact z4f hm cG h
 case alloc e=>exact(qsf hC hm h hf _).cf
 case box e x=>exact(z0d hm (cG x) h hf).cf
 case build t ps=>refine(qvi (fun v u h=>qsg (zparts:=ps.map fun p=>(p.1,ρ p.2)) hC hm ?_ h) h hf).cf;rw[Array.toList_map];exact Sw cG _
 case buildSlice t n ps=>refine(qeo (zparts:=ps.map fun p=>(p.1,ρ p.2)) hC hm ?_ h hf).cf;rw[Array.toList_map];exact Sw cG _
 case load t a=>exact(dR.a7 hm (ql0 hC hm (cG a) h)).cf
 case store t a x=>exact(qh3 hC hm (cG a) (cG x) h).cf
 case nilCheck x=>obtain⟨rfl,rfl,hz⟩:=z0c (cG x) h;have hx:=cG x;rcases hz with ⟨a,e⟩|⟨f,p,c,e⟩<;>simp only[execOp,e]<;>rw[e] at hx<;>exact .same hm hx
 case binOp op t x y yt=>exact(z0g hE hm (cG x) (cG y) h).cf
 case unOp op t x=>exact z4g hm cG h
 case convert s d x=>exact(ql7 hC hm (cG x) h hf).cf
 case makeFunc fn first caps=>exact qo9 hm cG h
 case makeInterface t x=>
  have h:(Rz C t).gives v u:=h;unfold Rz at h;split at h
  ·cases h
  ·rename_i d hd hn;rw[dJ] at h;obtain⟨rfl,rfl⟩:=h;refine .inl ⟨.iface t (ρ x),w,φ,?_,.same hm ⟨t,ρ x,rfl⟩⟩;have hu:=lQ hn;cases d with
   |interface _=>exact absurd rfl (hd _)
   |_=>simp[execOp,Instr.makeInterface,run_underlying hu]
  ·cases h
 case makeSlice t l c=>exact(qgk hC hm (cG l) (cG c) h hf).cf
 case slice t x lo hi mx=>exact(qsd hC hm (cG x) (Sx cG lo) (Sx cG hi) (Sx cG mx) h hf).cf
 case fieldAddr t x f=>exact(dR.a7 hm (qgh hC hm (cG x) h)).cf
 case field t x f=>exact(dR.a7 hm (qsb hC hm (cG x) h)).cf
 case indexAddr t x i=>exact(dR.a7 hm (qgi hC hm (cG x) (cG i) h)).cf
 case index t x i=>exact(dR.a7 hm (qsc hC (cG x) (cG i) h)).cf
 case extract x i=>exact qsk hm cG h
 case range t x=>exact(qsj hm (cG x) h hf).cf
 case next x b=>exact z4h hm cG h
 case makeMap t r=>
  cases r with
  |none=>exact(qlc hm h hf).cf
  |some x=>exact False.elim h
 case lookup t x k ok=>exact(qo6 hC hm (cG x) (cG k) h).cf
 case mapUpdate t m k x=>exact(qgl hC hm (cG m) (cG k) (cG x) h).cf
 case call c=>
  obtain⟨callee,args,qM⟩:=c;cases callee with
  |invoke r m=>exact False.elim h
  |value f=>exact z0h cG hc h hf
  |builtin b=>exact qsl hC hm cG h hf
 all_goals exact False.elim h
end
theorem cH{j:Nat}:∀{l:List Nat},bM j l=true↔j∈l
 |[]=>by simp[bM]
 |b::r=>by
  simp only[bM,zu];cases h:Nat.beq b j with
  |true=>have:=zh h;simp[this]
  |false=>
   have:¬j=b:=fun e=>by subst e;rw[Nat.beq_refl] at h;cases h
   simp[this,cH]
theorem Lo:∀{u:List (Nat×Obj)} {o o':Nat->Obj} {id:Nat},id∈bO u->ar o u id=ar o' u id
 |(i,x)::r,o,o',id,h=>by
  show ar (cV o i x) r id=ar (cV o' i x) r id;by_cases hr:id∈bO r
  ·exact Lo hr
  ·rw[iM hr,iM hr];simp only[bO,zu,hr,or_false] at h;subst h;rw[eY,eY]
section
variable {C:Cx} {X:Nat→Prop} {φ φ':Nat→Addr} {o o':Nat→Obj} {w w':World} {imm:Nat→Prop} {F:List Nat}
theorem qh6:∀(x:V) (z:Value),(∀id,id∈eT x->o' id=o id)->ay φ o imm w x z->ay φ o' imm w x z:=by
 intro x;refine V.rec (motive_1:=fun x=>∀z,(∀id,id∈eT x->o' id=o id)->ay φ o imm w x z->ay φ o' imm w x z)
  (motive_2:=fun l=>∀zs,(∀id,id∈gZ l->o' id=o id)->cd φ o imm w l zs->cd φ o' imm w l zs)
  ?_ ?_ ?_ ?_ ?_ ?_ ?_ ?_ ?_ ?_ ?_ ?_ ?_ ?_ ?_ ?_ ?_ ?_ ?_ ?_ ?_ ?_ ?_ ?_ ?_ ?_ ?_ x
 ·exact fun t x z _ h=>h
 ·intro id ver z hs h;have:=hs id (by simp[eT]);unfold ay at*;rw[this];exact h
 ·intro id ver n cp z hs h;have:=hs id (by simp[eT]);unfold ay at*;rw[this];exact h
 ·intro id off z hs h;have:=hs id (by simp[eT]);unfold ay at*;rw[this];exact h
 ·intro id ver i path z hs h;have:=hs id (by simp[eT]);unfold ay at*;rw[this];exact h
 ·exact fun t x z _ h=>h
 ·exact fun z _ h=>h
 ·exact fun f l ih z hs ⟨c,h1,h2⟩=>⟨c,h1,ih _ (fun id h=>hs id (by unfold eT;exact h)) h2⟩
 ·exact fun z _ h=>h
 ·exact fun l ih z hs ⟨c,h1,h2⟩=>⟨c,h1,ih _ (fun id h=>hs id (by unfold eT;exact h)) h2⟩
 ·exact fun l ih z hs ⟨c,h1,h2⟩=>⟨c,h1,ih _ (fun id h=>hs id (by unfold eT;exact h)) h2⟩
 ·intro id z hs h;have:=hs id (by simp[eT]);unfold ay at*;rw[this];exact h
 ·exact fun z _ h=>h
 ·exact fun z _ h=>h
 ·exact fun z _ h=>h
 ·exact fun b z _ h=>h
 ·exact fun z _ h=>h
 ·exact fun z _ h=>h
 ·intro id b z hs h;have:=hs id (by simp[eT]);unfold ay at*;rw[this];exact h
 ·intro id ver lo z hs h;have:=hs id (by simp[eT]);unfold ay at*;rw[this];exact h
 ·intro id z hs h;have:=hs id (by simp[eT]);unfold ay at*;rw[this];exact h
 ·exact fun b p c z _ h=>h
 ·exact fun a k n z _ h=>h
 ·exact fun t x z _ h=>h
 ·exact fun z _ h=>h
 ·exact fun zs _ h=>h
 ·exact fun x l ow ox zs hs ⟨v,r,h1,h2,h3⟩=>⟨v,r,h1,ow _ (fun id h=>hs id (by unfold gZ;exact List.mem_append_left _ h)) h2,
   ox _ (fun id h=>hs id (by unfold gZ;exact List.mem_append_right _ h)) h3⟩
theorem qlh:∀(l:List V) (zs:List Value),(∀id,id∈gZ l->o' id=o id)->cd φ o imm w l zs->cd φ o' imm w l zs
 |[],_,_,h=>h
 |x::l,_,hs,⟨v,r,h1,h2,h3⟩=>⟨v,r,h1,qh6 x v (fun id h=>hs id (by unfold gZ;exact List.mem_append_left _ h)) h2,
   qlh l r (fun id h=>hs id (by unfold gZ;exact List.mem_append_right _ h)) h3⟩
def Xr(X:Nat->Prop)(φ:Nat->Addr)(o:Nat->Obj)(F:List Nat)(b:Nat):Prop:=X b\/∃id,id∉F/\aX (φ id) (o id)=true/\(φ id).block=b
theorem mD{id:Nat}(h:id∈F):cY o F id=o id:=by unfold cY;rw[cH.2 h];rfl
theorem sX{id:Nat}(h:id∉F):cY o F id=.none:=by
 unfold cY;cases e:bM id F with
 |true=>exact absurd (cH.1 e) h
 |false=>rfl
theorem wE(b:Nat):ah (Xr X φ o F) φ (cY o F) w b↔ah X φ o w b:=by
 constructor
 ·rintro⟨h1,h2,h3⟩;refine⟨h1,fun h=>h2 (.inl h),fun⟨id,e1,e2⟩=>?_⟩;by_cases hi:id∈F
  ·exact h3 ⟨id,by rw[mD hi];exact e1,e2⟩
  ·exact h2 (.inr ⟨id,hi,e1,e2⟩)
 ·rintro⟨h1,h2,h3⟩;refine⟨h1,?_,fun⟨id,e1,e2⟩=>?_⟩
  ·rintro(h|⟨id,_,e1,e2⟩)
   ·exact h2 h
   ·exact h3 ⟨id,e1,e2⟩
  ·by_cases hi:id∈F
   ·rw[mD hi] at e1;exact h3 ⟨id,e1,e2⟩
   ·rw[sX hi] at e1;exact(nf e1).elim
theorem qsm{imm':Nat->Prop}{id:Nat}{x:Obj}(hi:∀b,imm b->imm' b)(hs:∀j,j∈yf x->o' j=o j)(h:qq φ o imm w id x):qq φ o' imm' w id x:=by
 have hk:∀x z,ay φ o' imm w x z->ay φ o' imm' w x z:=fun x z h=>BQ hi (fun _ _=>rfl) (fun _=>Up.same fun _ _ h=>h) x z h;cases x with
 |dead=>trivial
 |none=>trivial
 |box cs=>obtain⟨h1,c,el,lo,hc,h2,h3,h4⟩:=h;exact⟨h1,c,el,lo,hc,h2,h3,Ff hk _ _ (qlh cs _ hs h4)⟩
 |map k v m=>obtain⟨es,clock,h1,h2⟩:=h;exact⟨es,clock,h1,Fe (tu hi (fun _ _=>rfl) _) (tu hi (fun _ _=>rfl) _) h2⟩
 |iter l p=>exact h
 |vec t ver fr s=>obtain⟨h1,h2,h3⟩:=h;refine⟨h1,h2,fun hn=>?_⟩;refine(h3 hn).imp (fun⟨h4,ec,h5,h6,h7,h8,h9⟩=>?_) fun g=>g;exact⟨h4,ec,oY (iF hi (fun _ _=>rfl) t) h5,h6,h7,h8,fun hf=>hi _ (h9 hf)⟩
theorem MRel.kE(hm:MRel C X φ o w)(id:Nat)(hb:aX (φ id) (o id)=true->eU w w' (φ id).block)(stays:∀b,ah X φ o w b->w'.heap[b]?=w.heap[b]?):iL C w' (φ id) (o id):=by
 refine(hm.u0 id).bJ hb (fun ver s e hn=>.same ?_) (hm.K1 id);have ho:=hm.aB id;rw[e] at ho;obtain⟨_,_,ho⟩:=ho;rcases ho hn with ⟨_,_,_,_,_,_,g7⟩|g7
 ·exact stays _ (g7 rfl)
 ·exact absurd rfl g7.2.2
theorem MRel.restrict(hm:MRel C X φ o w)(hc:∀id,id∈F->∀j,j∈yf (o id)->j∈F):MRel C (Xr X φ o F) φ (cY o F) w:=by
 refine⟨fun id=>?_,fun i j hi hj e=>?_,fun i hi=>?_,fun b hb=>?_,fun id=>?_,fun g t x hg=>?_,hm.Jy⟩
 ·by_cases h:id∈F
  ·rw[mD h];exact qsm (fun b hb=>(wE b).2 hb) (fun j hj=>mD (hc id h j hj)) (hm.aB id)
  ·rw[sX h];trivial
 ·have h1:i∈F:=zP fun h=>by rw[sX h] at hi;exact nf hi
  have h2:j∈F:=zP fun h=>by rw[sX h] at hj;exact nf hj
  rw[mD h1] at hi;rw[mD h2] at hj;exact hm.inj i j hi hj e
 ·have h1:i∈F:=zP fun h=>by rw[sX h] at hi;exact nf hi
  rw[mD h1] at hi;refine⟨(hm.sep i hi).1,?_⟩;rintro(h|⟨id,h2,h3,h4⟩)
  ·exact(hm.sep i hi).2 h
  ·have:=hm.inj id i h3 hi h4;exact h2 (this▸h1)
 ·rcases hb with hb|⟨id,_,h3,h4⟩
  ·exact hm.xs b hb
  ·exact h4▸(hm.sep id h3).1
 ·by_cases h:id∈F
  ·rw[mD h];exact hm.u0 id
  ·rw[sX h];trivial
 ·obtain⟨a,cs,h1,h2,h3,h4,h5⟩:=hm.fC g t x hg;exact⟨a,cs,h1,h2,(wE _).2 h3,iF (fun b hb=>(wE b).2 hb) (fun _ _=>rfl) t x cs h4,h5⟩
theorem qex{x:V}{z:Value}(hs:∀id,id∈eT x->id∈F)(h:ay φ o (ah X φ o w) w x z):ay φ (cY o F) (ah (Xr X φ o F) φ (cY o F) w) w x z:=BQ (fun b hb=>(wE b).2 hb) (fun _ _=>rfl) (fun _=>Up.same fun _ _ h=>h) x z (qh6 x z (fun id hi=>mD (hs id hi)) h)
theorem Comes.jU(hm:MRel C X φ o w){u:List (Nat×Obj)}{v:V}{z:Value}(hu:∀id,id∈bO u->id∉F->o id=.none)(h:Comes C (Xr X φ o F) φ φ' (cY o F) u w w' v z):∃fy,Comes C X φ fy o u w w' v z:=by
 let ins:Nat->Prop:=fun id=>id∈F\/id∈bO u;refine⟨fun id=>bif bM id F||bM id (bO u) then φ' id else φ id,?_⟩;generalize dx:(fun id=>bif bM id F||bM id (bO u) then φ' id else φ id)=fy;have p1:∀id,ins id->fy id=φ' id:=fun id hi=>by
  rw[<-dx];have:(bM id F||bM id (bO u))=true:=by rw[Bool.or_eq_true];exact hi.imp cH.2 cH.2
  simp only[this,cond_true]
 have p2:∀id,¬ins id->fy id=φ id:=fun id hi=>by
  rw[<-dx];have:(bM id F||bM id (bO u))=false:=by
   cases e:(bM id F||bM id (bO u)) with
   |false=>rfl
   |true=>rw[Bool.or_eq_true] at e;exact absurd (e.imp cH.1 cH.1) hi
  simp only[this,cond_false]
 have q1:∀id,ins id->ar o u id=ar (cY o F) u id:=fun id hi=>by
  by_cases hk:id∈bO u
  ·exact Lo hk
  ·rw[iM hk,iM hk,mD (hi.resolve_right hk)]
 have q2:∀id,¬ins id->ar o u id=o id/\ar (cY o F) u id=.none:=fun id hi=>⟨iM fun hk=>hi (.inr hk),by rw[iM fun hk=>hi (.inr hk),sX fun hf=>hi (.inl hf)]⟩;have q3:∀id,ins id->id∉F->o id=.none:=fun id hi hf=>hu id (hi.resolve_left hf) hf;have hl:∀b,ah (Xr X φ o F) φ' (ar (cY o F) u) w' b↔ah X fy (ar o u) w' b:=fun b=>by
  constructor
  ·rintro⟨h1,h2,h3⟩;refine⟨h1,fun hx=>h2 (.inl hx),fun⟨id,e1,e2⟩=>?_⟩;by_cases hi:ins id
   ·exact h3 ⟨id,by rw[<-q1 id hi,<-p1 id hi];exact e1,by rw[<-p1 id hi];exact e2⟩
   ·rw[(q2 id hi).1,p2 id hi] at e1;rw[p2 id hi] at e2;exact h2 (.inr ⟨id,fun hf=>hi (.inl hf),e1,e2⟩)
  ·rintro⟨h1,h2,h3⟩;refine⟨h1,?_,fun⟨id,e1,e2⟩=>?_⟩
   ·rintro(hx|⟨id,hf,e1,e2⟩)
    ·exact h2 hx
    ·by_cases hi:ins id
     ·rw[q3 id hi hf] at e1;exact(nf e1).elim
     ·exact h3 ⟨id,by rw[(q2 id hi).1,p2 id hi];exact e1,by rw[p2 id hi];exact e2⟩
   ·by_cases hi:ins id
    ·exact h3 ⟨id,by rw[q1 id hi,p1 id hi];exact e1,by rw[p1 id hi];exact e2⟩
    ·rw[(q2 id hi).2] at e1;exact(nf e1).elim
 have ext:∀x z,ay φ' (ar (cY o F) u) (ah (Xr X φ o F) φ' (ar (cY o F) u) w') w' x z->ay fy (ar o u) (ah X fy (ar o u) w') w' x z:=
  fun x z hx=>BQ (fun b hb=>(hl b).1 hb) (fun _ _=>rfl) (fun id=>by
   by_cases hi:ins id
   ·rw[q1 id hi,p1 id hi];exact Up.same fun _ _ h=>h
   ·rw[(q2 id hi).2];trivial) x z hx
 have bl:∀id,¬ins id->aX (φ id) (o id)=true->w'.heap[(φ id).block]?=w.heap[(φ id).block]?:=fun id hi hx=>
  h.frame _ (hm.sep id hx).1 fun⟨j,j1,j2,j3⟩=>by
   have hj:j∈F:=zP fun hf=>by rw[sX hf] at j2;exact nf j2
   rw[mD hj] at j2;have:=hm.inj j id j2 hx j3;exact hi (.inl (this▸hj))
 have stays:∀b,ah X φ o w b->w'.heap[b]?=w.heap[b]?:=fun b hb=>h.stays b ((wE b).2 hb);have imm:∀b,ah X φ o w b->ah X fy (ar o u) w' b:=fun b hb=>(hl b).1 (h.imm b ((wE b).2 hb));have Fg:∀id,Up w w' (φ id) (fy id) (o id) (ar o u id):=fun id=>by
  by_cases hi:ins id
  ·by_cases hf:id∈F
   ·have:=h.up id;rw[mD hf] at this;rw[p1 id hi,q1 id hi];exact this
   ·rw[q3 id hi hf];trivial
  ·rw[p2 id hi,(q2 id hi).1];exact Up.same fun hx n hr=>CA (bl id hi hx) hr
 have keeps:∀x z,ay φ o (ah X φ o w) w x z->ay fy (ar o u) (ah X fy (ar o u) w') w' x z:=fun x z hx=>BQ imm stays Fg x z hx;refine⟨⟨fun id=>?_,fun i j hi hj e=>?_,fun i hi=>?_,fun b hb=>Nat.lt_of_lt_of_le (hm.xs b hb) h.size,fun id=>?_,fun g t x hg=>ext _ _ (h.mem.fC g t x hg),h.mem.Jy⟩,ext _ _ h.val,Fg,h.size,fun b hb hh=>?_,fun id hn hk=>?_,fun id hx=>?_,h.still⟩
 ·by_cases hi:ins id
  ·rw[q1 id hi];exact Gb (fun b hb=>(hl b).1 hb) (fun _ _=>rfl) ext (p1 id hi) (fun _=>rfl) (h.mem.aB id)
  ·rw[(q2 id hi).1];exact Gb imm stays keeps (p2 id hi) (bl id hi) (hm.aB id)
 ·by_cases hc:ins i<;>by_cases he:ins j
  ·rw[q1 i hc,p1 i hc] at hi;rw[q1 j he,p1 j he] at hj;rw[p1 i hc,p1 j he] at e;exact h.mem.inj i j hi hj e
  ·rw[q1 i hc,p1 i hc] at hi;rw[(q2 j he).1,p2 j he] at hj;rw[p1 i hc,p2 j he] at e;exact absurd (.inr ⟨j,fun hf=>he (.inl hf),hj,e.symm⟩) (h.mem.sep i hi).2
  ·rw[q1 j he,p1 j he] at hj;rw[(q2 i hc).1,p2 i hc] at hi;rw[p1 j he,p2 i hc] at e;exact absurd (.inr ⟨i,fun hf=>hc (.inl hf),hi,e⟩) (h.mem.sep j hj).2
  ·rw[(q2 i hc).1,p2 i hc] at hi;rw[(q2 j he).1,p2 j he] at hj;rw[p2 i hc,p2 j he] at e;exact hm.inj i j hi hj e
 ·by_cases hc:ins i
  ·rw[q1 i hc,p1 i hc] at hi;rw[p1 i hc];exact⟨(h.mem.sep i hi).1,fun hx=>(h.mem.sep i hi).2 (.inl hx)⟩
  ·rw[(q2 i hc).1,p2 i hc] at hi;rw[p2 i hc];exact⟨Nat.lt_of_lt_of_le (hm.sep i hi).1 h.size,(hm.sep i hi).2⟩
 ·by_cases hi:ins id
  ·rw[q1 id hi,p1 id hi];exact h.mem.u0 id
  ·rw[(q2 id hi).1,p2 id hi];exact hm.kE id (fun hx=>.same (bl id hi hx)) stays
 ·refine h.frame b hb fun⟨j,j1,j2,j3⟩=>hh ⟨j,j1,?_,j3⟩;have hj:j∈F:=zP fun hf=>by rw[sX hf] at j2;exact nf j2
  rwa [mD hj] at j2
 ·by_cases hf:id∈F
  ·rw[p1 id (.inl hf)];exact h.oZ id (by rw[mD hf];exact hn) hk
  ·exact p2 id fun hi=>hi.elim hf hk
 ·by_cases hi:ins id
  ·rw[q1 id hi,p1 id hi] at hx;rw[p1 id hi];rcases h.news id hx with h1|⟨j,j1,j2⟩
   ·exact .inl h1
   ·have hj:j∈F:=zP fun hf=>by rw[sX hf] at j1;exact nf j1
    rw[mD hj] at j1;exact .inr ⟨j,j1,j2⟩
  ·rw[(q2 id hi).1,p2 id hi] at hx;rw[p2 id hi];exact .inr ⟨id,hx,rfl⟩
end
structure eV (a b:PS):Prop where
 aS:∀p,p∈a.aS->p∈b.aS
 cut:∀p,p∈a.cut->p∈b.cut
 cj:∀p,p∈a.cj->p∈b.cj
 full:∀p,p∈a.full->p∈b.full
theorem eV.refl(a:PS):eV a a:=⟨fun _ h=>h,fun _ h=>h,fun _ h=>h,fun _ h=>h⟩
theorem eV.trans{a b c:PS}(h:eV a b)(h':eV b c):eV a c:=⟨fun p hp=>h'.aS p (h.aS p hp),fun p hp=>h'.cut p (h.cut p hp),fun p hp=>h'.cj p (h.cj p hp),fun p hp=>h'.full p (h.full p hp)⟩
abbrev cy:Nat->Nat:=fun i=>i
abbrev bR:Nat->Nat:=fun _=>0
section
variable {o:Nat→Obj}
def z2z(o:Nat->Obj)(s:Sh):Prop:=∀v ps bD f,EU lf o s v ps=some (bD,f)->eV ps bD/\∀(ρ κ:Nat->Nat) r c,(lM ρ κ s r (f r c)).2=c
def z30(o:Nat->Obj)(l:List Sh):Prop:=∀vs ps bD f,nY lf o l vs ps=some (bD,f)->eV ps bD/\∀(ρ κ:Nat->Nat) r c,(fw ρ κ l r (f r c)).2=c
theorem qs{b:Bool}{ps bD:PS}{f:∀r,ai r->ai r}(h:xy b ps=some (bD,f)):b=true/\bD=ps/\f=fun _ c=>c:=by
 cases b
 ·cases h
 ·injection h with h;injection h with h1 h2;exact⟨rfl,h1.symm,h2.symm⟩
theorem eV.tie{ps:PS}(i id:Nat):eV ps (tie i id ps):=⟨fun _ h=>zg _ h,fun _ h=>h,fun _ h=>h,fun _ h=>h⟩
theorem qsn{i:Nat}{v:V}{ps bD:PS}{f:∀r,ai r->ai r}(h:KG o i v ps=some (bD,f)):eV ps bD/\f=fun _ c=>c:=by
 unfold KG at h;split at h
 ·split at h
  ·obtain⟨_,rfl,rfl⟩:=qs h;exact⟨⟨fun _ h=>zg _ h,fun _ h=>h,fun _ h=>h,fun _ h=>zg _ h⟩,rfl⟩
  ·cases h
 ·split at h
  ·obtain⟨_,rfl,rfl⟩:=qs h;exact⟨⟨fun _ h=>zg _ h,fun _ h=>zg _ h,fun _ h=>h,fun _ h=>h⟩,rfl⟩
  ·cases h
 ·cases h
theorem qso{i off:Nat}{v:V}{ps bD:PS}{f:∀r,ai r->ai r}(h:KH o i off v ps=some (bD,f)):eV ps bD/\f=fun _ c=>c:=by
 unfold KH at h;split at h
 ·split at h
  ·obtain⟨_,rfl,rfl⟩:=qs h;exact⟨.tie _ _,rfl⟩
  ·obtain⟨_,rfl,rfl⟩:=qs h;exact⟨.tie _ _,rfl⟩
  ·cases h
 ·cases h
theorem qvx{i:Nat}{v:V}{ps bD:PS}{f:∀r,ai r->ai r}(h:xW o i v ps=some (bD,f)):eV ps bD/\f=fun _ c=>c:=by
 unfold xW at h;split at h
 ·split at h
  ·injection h with h;injection h with h1 h2;subst h1 h2;exact⟨.tie _ _,rfl⟩
  ·cases h
 ·cases h
theorem qvy{i:Nat}{v:V}{ps bD:PS}{f:∀r,ai r->ai r}(h:xX o i v ps=some (bD,f)):eV ps bD/\f=fun _ c=>c:=by
 unfold xX at h;split at h
 ·split at h
  ·injection h with h;injection h with h1 h2;subst h1 h2;exact⟨.tie _ _,rfl⟩
  ·cases h
 ·cases h
theorem Sz{i:Nat}{v:V}{ps bD:PS}{f:∀r,ai r->den .bool×ai r}(h:KI o i v ps=some (bD,f)):∃id b cs,v=.iH id b/\o id=.box cs/\bD=tie i id ps/\f=fun _ c=>(b,c):=by
 unfold KI at h;split at h
 ·rename_i id b;split at h
  ·rename_i cs e;injection h with h;injection h with h1 h2;subst h1 h2;exact⟨id,b,cs,rfl,e,rfl,rfl⟩
  ·cases h
 ·cases h
theorem z31:∀{b a:List (Nat×Bool)},KJ b a=true->b=a
 |[],[],_=>rfl
 |[],_::_,h=>by cases h
 |_::_,[],h=>by cases h
 |(f,c)::b,(g,d)::a,h=>by
  unfold KJ at h;rw[zd,zd] at h;obtain⟨⟨h1,h2⟩,h3⟩:=h;have h1:=zh h1;have h2:c=d:=by cases c<;>cases d<;>first|rfl|cases h2
  rw[h1,h2,z31 h3]
theorem qli{imm:Nat->Prop}{w:World}{n:Int}:∀(a:List (Nat×Bool)),wD imm w a ((a.length:Nat):Int) n .nilFunc
 |[]=>⟨rfl,rfl⟩
 |(f,c)::r=>by
  refine .inr ⟨by rw[zw];omega,?_⟩;have:(((f,c)::r).length:Int)-1=((r.length:Nat):Int):=by rw[zw];omega
  rw[this];exact qli r
theorem SA{imm:Nat->Prop}{w:World}{n:Int}{v:Value}{f:Nat}{c:Bool}(hv:match c with|false=>v=.func (.func f) #[] #[]|true=>∃p,v=.func (.func f) #[] #[p]/\OX imm w n p):∀(a:List (Nat×Bool)) (i0 i:Nat),F0 f c a i0=some i->∃j:Nat,i=i0+j/\wD imm w a (j:Int) n v
 |[],_,_,h=>by cases h
 |(g,d)::r,i0,i,h=>by
  unfold F0 at h;cases hb:(Nat.beq g f&&(bif c then d else !d)) with
  |true=>
   rw[hb] at h;injection h with h;subst h;rw[zd] at hb;have h1:=zh hb.1;have h2:d=c:=by have:=hb.2;cases c<;>cases d<;>first|rfl|cases this
   subst h1 h2;exact⟨0,rfl,.inl ⟨rfl,hv⟩⟩
  |false=>
   rw[hb] at h;obtain⟨j,h1,h2⟩:=SA hv r (i0+1) i h;refine⟨j+1,by omega,.inr ⟨by omega,?_⟩⟩;have:((j+1:Nat):Int)-1=(j:Int):=om
   rw[this];exact h2
theorem z32{α:Type}{g:Nat}{x:Option α}{i:α}(h:(bif Nat.blt g 1048576 then x else none)=some i):g<1048576/\x=some i:=by
 cases hb:Nat.blt g 1048576 with
 |false=>rw[hb] at h;cases h
 |true=>rw[hb] at h;exact⟨zH hb,h⟩
theorem qlj{a:List (Nat×Bool)}{v:V}{ps bD:PS}{f:∀r,ai r->den (.int .i64)×den (.int .i64)×ai r}(h:Cn lf o a v ps=some (bD,f)):(∃k n,v=.fa a k n/\bD=ps/\f=fun _ c=>(k,n,c))\/(v=.gB/\bD=ps/\f=fun _ c=>(Int.ofNat a.length,(0:Int),c))\/(∃g i,v=.fn g []/\g<1048576/\F0 g false a 0=some i/\bD=ps/\f=fun _ c=>(Int.ofNat i,(0:Int),c))\/(∃g i w p,v=.fn g [w]/\g<1048576/\F0 g true a 0=some i/\KF lf o (.int .i64) w ps=some (bD,p)/\f=fun r c=>(Int.ofNat i,p r c)):=by
 unfold Cn at h;split at h
 ·rename_i b k n;cases hb:KJ b a<;>rw[hb] at h
  ·cases h
  ·have:=z31 hb;subst this;injection h with h;injection h with h1 h2;subst h1 h2;exact .inl ⟨k,n,rfl,rfl,rfl⟩
 ·injection h with h;injection h with h1 h2;subst h1 h2;refine .inr (.inl ⟨rfl,rfl,?_⟩);have:pL a 0=a.length:=by rw[RP,zN]
  rw[this]
 ·rename_i g;split at h
  ·rename_i i e;injection h with h;injection h with h1 h2;subst h1 h2;obtain⟨hc,e⟩:=z32 e;exact .inr (.inr (.inl ⟨g,i,rfl,hc,e,rfl,rfl⟩))
  ·cases h
 ·rename_i g w;split at h
  ·rename_i i e;split at h
   ·rename_i Fk p e2;injection h with h;injection h with h1 h2;subst h1 h2;obtain⟨hc,e⟩:=z32 e;exact .inr (.inr (.inr ⟨g,i,w,p,rfl,hc,e,e2,rfl⟩))
   ·cases h
  ·cases h
 ·cases h
theorem qh7{i:Nat}{v:V}{ps bD:PS}{f:∀r,ai r->den (.int .i64)×ai r}(h:Oq o i v ps=some (bD,f)):∃id ver lo t s,v=.iI id ver lo/\o id=.vec t ver false s/\bD={tie i id ps with full:=id::ps.full}/\f=fun _ c=>((lo:den (.int .i64)),c):=by
 unfold Oq at h;split at h
 ·rename_i id ver lo;split at h
  ·rename_i t aF s e;cases hb:Nat.beq ver aF<;>rw[hb] at h
   ·cases h
   ·have:=zh hb;subst this;injection h with h;injection h with h1 h2;subst h1 h2;exact⟨id,ver,lo,t,s,rfl,e,rfl,rfl⟩
  ·cases h
 ·cases h
theorem qqe{t:Ty}{v:V}{ps bD:PS}{f:∀r,ai r->den t×ai r}(h:Q0 lf o t v ps=some (bD,f)):eV ps bD/\∃x,fI lf o t v=some x/\bD={ps with cj:=eX o v++ps.cj}/\f=fun _ c=>(x,c):=by
 unfold Q0 at h;split at h
 ·rename_i x e;injection h with h;injection h with h1 h2;subst h1 h2;exact⟨⟨fun _ h=>h,fun _ h=>h,fun _ h=>List.mem_append_right _ h,fun _ h=>h⟩,x,e,rfl,rfl⟩
 ·cases h
theorem SB{t:Ty}{v:V}{ps bD:PS}{f:∀r,ai r->den t×ai r}(h:KF lf o t v ps=some (bD,f)):eV ps bD/\∃x,f=(fun _ c=>(x,c))/\((v=.ref t x/\bD=ps)\/(∃id,v=.ptr id 0/\tj lf o t id=some x/\bD={ps with cj:=id::(Jh o id++ps.cj)})):=by
 unfold KF at h;split at h
 ·split at h
  ·rename_i x e;injection h with h;injection h with h1 h2;subst h1 h2;obtain⟨rfl,rfl⟩:=xE e;exact⟨.refl _,_,rfl,.inl ⟨rfl,rfl⟩⟩
  ·cases h
 ·rename_i id off;cases hb:Nat.beq off 0<;>rw[hb] at h
  ·cases h
  ·have:=zh hb;subst this;simp only[cond_true] at h;split at h
   ·rename_i x e;injection h with h;injection h with h1 h2;subst h1 h2;exact⟨⟨fun _ h=>h,fun _ h=>h,fun _ h=>zg _ (List.mem_append_right _ h),fun _ h=>h⟩,x,rfl,.inr ⟨id,rfl,e,rfl⟩⟩
   ·cases h
 ·cases h
theorem z0i{t:Ty}{id lO:Nat}{x:den t}(h:Q3 lf o t id=some (lO,x)):o id=.box [.ptr lO 0]/\tj lf o t lO=some x:=by
 unfold Q3 at h;split at h
 ·rename_i i2 FX e;cases hb:Nat.beq FX 0<;>rw[hb] at h
  ·cases h
  ·have:=zh hb;subst this;simp only[cond_true] at h;split at h
   ·rename_i y e2;injection h with h;injection h with h1 h2;subst h1 h2;exact⟨e,e2⟩
   ·cases h
 ·cases h
theorem qlk{t:Ty}{v:V}{ps bD:PS}{f:∀r,ai r->den t×ai r}(h:FY lf o t v ps=some (bD,f)):eV ps bD/\∃x,f=(fun _ c=>(x,c))/\((v=.rr t x/\bD=ps)\/(∃id lO,v=.ptr id 0/\o id=.box [.ptr lO 0]/\tj lf o t lO=some x/\bD={ps with cj:=id::lO::(Jh o lO++ps.cj)})):=by
 unfold FY at h;split at h
 ·split at h
  ·rename_i x e;injection h with h;injection h with h1 h2;subst h1 h2;obtain⟨rfl,rfl⟩:=xE e;exact⟨.refl _,_,rfl,.inl ⟨rfl,rfl⟩⟩
  ·cases h
 ·rename_i id off;cases hb:Nat.beq off 0<;>rw[hb] at h
  ·cases h
  ·have:=zh hb;subst this;simp only[cond_true] at h;split at h
   ·rename_i lO x e;injection h with h;injection h with h1 h2;subst h1 h2;obtain⟨e1,e2⟩:=z0i e;exact⟨⟨fun _ h=>h,fun _ h=>h,fun _ h=>zg _ (zg _ (List.mem_append_right _ h)),fun _ h=>h⟩,x,rfl,.inr ⟨id,lO,rfl,e1,e2,rfl⟩⟩
   ·cases h
 ·cases h
theorem qvz{f:Nat}{v:V}{l:List V}(h:Co f v=some l):v=.fn f l:=by
 unfold Co at h;split at h
 ·rename_i f' l';cases hb:Nat.beq f f'<;>rw[hb] at h
  ·cases h
  ·have:=zh hb;injection h with h;subst this h;rfl
 ·cases h
theorem qsp{v:V}{l:List V}(h:Ot v=some l):v=.gV l:=by
 unfold Ot at h;split at h
 ·injection h with h;subst h;rfl
 ·cases h
theorem qw0{v:V}{l:List V}(h:Cp v=some l):v=.agg l:=by
 unfold Cp at h;split at h
 ·injection h with h;subst h;rfl
 ·cases h
theorem Pr{vs:List V}{ps bD:PS}{f:∀r,ai r->ai (jD [] r)}(h:nY lf o [] vs ps=some (bD,f)):vs=[]/\bD=ps/\f=fun _ c=>c:=by have h:xy vs.isEmpty ps=some (bD,f):=h;obtain⟨h1,h2,h3⟩:=qs h;exact⟨by simpa using h1,h2,h3⟩
theorem Lp{s:Sh}{l:List Sh}{vs:List V}{ps bD:PS}{f:∀r,ai r->ai (jD (s::l) r)}(h:nY lf o (s::l) vs ps=some (bD,f)):∃v Gm lR f1 g1,vs=v::Gm/\EU lf o s v ps=some (lR,f1)/\nY lf o l Gm lR=some (bD,g1)/\f=fun r c=>f1 _ (g1 r c):=by
 cases vs with
 |nil=>cases h
 |cons v vs=>
  have h:(match EU lf o s v ps with
   |some (ps,f)=>match nY lf o l vs ps with
    |some (ps,g)=>some (ps,fun r c=>f _ (g r c))
    |none=>none
   |none=>none)=some (bD,f):=h
  split at h
  ·rename_i lR f1 h1;split at h
   ·rename_i Fk f2 h2;injection h with h;injection h with h3 h4;subst h3 h4;exact⟨v,vs,lR,f1,f2,rfl,h1,h2,rfl⟩
   ·cases h
  ·cases h
theorem z33{g:Nat}{l:List Sh}{v:V}{ps bD:PS}{f:∀r,ai r->ai (Jc (.fn g l) r)}(h:EU lf o (.fn g l) v ps=some (bD,f)):∃l',v=.fn g l'/\nY lf o l l' ps=some (bD,f):=by
 have h:(match Co g v with|some l'=>nY lf o l l' ps|none=>none)=some (bD,f):=h;split at h
 ·rename_i l' e;exact⟨l',qvz e,h⟩
 ·cases h
theorem qw1{l:List Sh}{v:V}{ps bD:PS}{f:∀r,ai r->ai (Jc (.gV l) r)}(h:EU lf o (.gV l) v ps=some (bD,f)):∃l',v=.gV l'/\nY lf o l l' ps=some (bD,f):=by
 have h:(match Ot v with|some l'=>nY lf o l l' ps|none=>none)=some (bD,f):=h;split at h
 ·rename_i l' e;exact⟨l',qsp e,h⟩
 ·cases h
theorem qw2{l:List Sh}{v:V}{ps bD:PS}{f:∀r,ai r->ai (Jc (.agg l) r)}(h:EU lf o (.agg l) v ps=some (bD,f)):∃l',v=.agg l'/\nY lf o l l' ps=some (bD,f):=by
 have h:(match Cp v with|some l'=>nY lf o l l' ps|none=>none)=some (bD,f):=h;split at h
 ·rename_i l' e;exact⟨l',qw0 e,h⟩
 ·cases h
theorem SC(s:Sh):z2z o s:=by
 refine Sh.rec (motive_1:=z2z o) (motive_2:=z30 o) ?_ ?_ ?_ ?_ ?_ ?_ ?_ ?_ ?_ ?_ ?_ ?_ ?_ ?_ ?_ ?_ ?_ ?_ ?_ ?_ s
 ·intro t v ps bD f h;obtain⟨h1,x,_,_,rfl⟩:=qqe (o:=o) h;exact⟨h1,fun _ _ _ _=>rfl⟩
 ·intro i v ps bD f h;obtain⟨h1,rfl⟩:=qsn (o:=o) h;exact⟨h1,fun _ _ _ _=>rfl⟩
 ·intro i off v ps bD f h;obtain⟨h1,rfl⟩:=qso (o:=o) h;exact⟨h1,fun _ _ _ _=>rfl⟩
 ·intro t v ps bD f h;obtain⟨h1,x,rfl,_⟩:=SB (o:=o) h;exact⟨h1,fun _ _ _ _=>rfl⟩
 ·intro v ps bD f h;obtain⟨_,rfl,rfl⟩:=qs h;exact⟨.refl _,fun _ _ _ _=>rfl⟩
 ·intro g l ih v ps bD f h;obtain⟨l',rfl,h'⟩:=z33 h;obtain⟨h1,h2⟩:=ih _ _ _ _ h';exact⟨h1,h2⟩
 ·intro v ps bD f h;obtain⟨_,rfl,rfl⟩:=qs h;exact⟨.refl _,fun _ _ _ _=>rfl⟩
 ·intro l ih v ps bD f h;obtain⟨l',rfl,h'⟩:=qw1 h;obtain⟨h1,h2⟩:=ih _ _ _ _ h';exact⟨h1,h2⟩
 ·intro l ih v ps bD f h;obtain⟨l',rfl,h'⟩:=qw2 h;obtain⟨h1,h2⟩:=ih _ _ _ _ h';exact⟨h1,h2⟩
 ·intro i v ps bD f h;obtain⟨h1,rfl⟩:=qvx (o:=o) h;exact⟨h1,fun _ _ _ _=>rfl⟩
 ·intro v ps bD f h;obtain⟨_,rfl,rfl⟩:=qs h;exact⟨.refl _,fun _ _ _ _=>rfl⟩
 ·intro v ps bD f h;obtain⟨_,rfl,rfl⟩:=qs h;exact⟨.refl _,fun _ _ _ _=>rfl⟩
 ·intro v ps bD f h;obtain⟨_,rfl,rfl⟩:=qs (b:=true) (ps:=ps) h;exact⟨.refl _,fun _ _ _ _=>rfl⟩
 ·intro i v ps bD f h;obtain⟨id,b,cs,rfl,_,rfl,rfl⟩:=Sz (o:=o) h;exact⟨.tie _ _,fun _ _ _ _=>rfl⟩
 ·intro i v ps bD f h;obtain⟨id,ver,lo,t,s,rfl,_,rfl,rfl⟩:=qh7 (o:=o) h;exact⟨⟨fun _ h=>zg _ h,fun _ h=>h,fun _ h=>h,fun _ h=>zg _ h⟩,fun _ _ _ _=>rfl⟩
 ·intro i v ps bD f h;obtain⟨h1,rfl⟩:=qvy (o:=o) h;exact⟨h1,fun _ _ _ _=>rfl⟩
 ·intro a v ps bD f h;rcases qlj (o:=o) h with ⟨k,n,rfl,rfl,rfl⟩|⟨rfl,rfl,rfl⟩|⟨g,i,rfl,_,_,rfl,rfl⟩|⟨g,i,w,p,rfl,_,_,h2,rfl⟩
  ·exact⟨.refl _,fun _ _ _ _=>rfl⟩
  ·exact⟨.refl _,fun _ _ _ _=>rfl⟩
  ·exact⟨.refl _,fun _ _ _ _=>rfl⟩
  ·obtain⟨h1,x,rfl,_⟩:=SB (o:=o) h2;exact⟨h1,fun _ _ _ _=>rfl⟩
 ·intro t v ps bD f h;obtain⟨h1,x,rfl,_⟩:=qlk (o:=o) h;exact⟨h1,fun _ _ _ _=>rfl⟩
 ·intro vs ps bD f h;obtain⟨rfl,rfl,rfl⟩:=Pr h;exact⟨.refl _,fun _ _ _ _=>rfl⟩
 ·intro s l ow ox vs ps bD f h;obtain⟨v,Gm,lR,f1,g1,rfl,h1,h2,rfl⟩:=Lp h;obtain⟨a1,a2⟩:=ow _ _ _ _ h1;obtain⟨b1,b2⟩:=ox _ _ _ _ h2;refine⟨a1.trans b1,fun ρ κ r c=>?_⟩;show(fw ρ κ l r (lM ρ κ s (jD l r) (f1 _ (g1 r c))).2).2=c;rw[a2,b2]
theorem JL:∀l:List Sh,z30 o l
 |[]=>by intro vs ps bD f h;obtain⟨rfl,rfl,rfl⟩:=Pr h;exact⟨.refl _,fun _ _ _ _=>rfl⟩
 |s::l=>by intro vs ps bD f h;obtain⟨v,Gm,lR,f1,g1,rfl,h1,h2,rfl⟩:=Lp h;obtain⟨a1,a2⟩:=SC s _ _ _ _ h1;obtain⟨b1,b2⟩:=JL l _ _ _ _ h2;refine⟨a1.trans b1,fun ρ κ r c=>?_⟩;show(fw ρ κ l r (lM ρ κ s (jD l r) (f1 _ (g1 r c))).2).2=c;rw[a2,b2]
theorem Ps{cE:Nat}{s:fO}{ps bD:PS}{f:∀r,ai r->ai (Jd s r)}(h:xY lf o cE s ps=some (bD,f)):eV ps bD/\∀(ρ κ:Nat->Nat) i r c,(fx ρ κ i s r (f r c)).2=c:=by
 cases s with
 |box l=>
  simp only[xY] at h;cases e:o cE<;>rw[e] at h<;>simp only at h<;>try (cases h;done)
  obtain⟨h1,h2⟩:=JL l _ _ _ _ h;exact⟨h1,fun ρ κ i r c=>h2 ρ κ r c⟩
 |vec t=>
  simp only[xY] at h;split at h
  ·split at h
   ·split at h
    ·injection h with h;injection h with h1 h2;subst h1 h2;exact⟨.refl _,fun _ _ _ _ _=>rfl⟩
    ·injection h with h;injection h with h1 h2;subst h1 h2;exact⟨⟨fun _ h=>h,fun _ h=>h,fun _ h=>h,fun _ h=>zg _ h⟩,fun _ _ _ _ _=>rfl⟩
   ·cases h
  ·cases h
 |map k v=>
  simp only[xY] at h;split at h
  ·split at h
   ·injection h with h;injection h with h1 h2;subst h1 h2;exact⟨.refl _,fun _ _ _ _ _=>rfl⟩
   ·cases h
  ·cases h
 |gone=>simp only[xY] at h;injection h with h;injection h with h1 h2;subst h1 h2;exact⟨.refl _,fun _ _ _ _ _=>rfl⟩
 |iter=>
  simp only[xY] at h;split at h
  ·injection h with h;injection h with h1 h2;subst h1 h2;exact⟨.refl _,fun _ _ _ _ _=>rfl⟩
  ·cases h
def CI(o:Nat->Obj)(psF:PS)(i:Nat)(sh:fO)(ob:Obj):Prop:=(sh=.gone/\ob=.dead)\/∃cE BX xG f,(i,cE)∈psF.aS/\xY lf o cE sh BX=some (xG,f)/\eV xG psF/\∃r c,ob=(fx cy bR i sh r (f r c)).1
def SD(o:Nat->Obj)(psF:PS):Nat->List fO->List (Nat×Obj)->Prop
 |_,[],os=>os=[]
 |i,s::l,os=>∃ob r,os=(i,ob)::r/\CI o psF i s ob/\SD o psF (i+1) l r
theorem Gn:∀{l:List (Nat×Nat)} {i x:Nat},iJ i l=some x->(i,x)∈l
 |(a,b)::r,i,x,h=>by
  simp only[iJ] at h;cases hb:Nat.beq a i with
  |true=>rw[hb] at h;have h1:=zh hb;have h2:=zG h;subst h1 h2;exact zf ..
  |false=>rw[hb] at h;exact zg _ (Gn h)
theorem JM{psF:PS}:∀(l:List fO) (i:Nat) (ps bD:PS) (g:∀r,ai r->ai (bY l r)),ot lf o i l ps=some (bD,g)->eV ps bD/\(eV bD psF->∀r c,SD o psF i l (gE cy bR i l r (g r c)))
 |[],i,ps,bD,g,h=>by simp only[ot] at h;injection h with h;injection h with h1 h2;subst h1 h2;exact⟨.refl _,fun _ _ _=>rfl⟩
 |.gone::l,i,ps,bD,g,h=>by
  simp only[ot] at h;split at h
  ·rename_i lR g1 h1;injection h with h;injection h with h2 h3;subst h2 h3;obtain⟨a1,a2⟩:=JM l (i+1) _ _ _ h1;exact⟨a1,fun hm r c=>⟨.dead,_,rfl,.inl ⟨rfl,rfl⟩,a2 hm r c⟩⟩
  ·cases h
 |.box q::l,i,ps,bD,g,h=>by
  simp only[ot] at h;split at h
  ·rename_i cE h0;split at h
   ·rename_i lR f1 h1;split at h
    ·rename_i Fk g2 h2;injection h with h;injection h with h3 h4;subst h3 h4;obtain⟨b1,b2⟩:=Ps h1;obtain⟨a1,a2⟩:=JM l (i+1) _ _ _ h2;refine⟨b1.trans a1,fun hm r c=>⟨_,_,rfl,.inr ⟨cE,ps,lR,f1,hm.aS _ ((b1.trans a1).aS _ (Gn h0)),h1,a1.trans hm,_,_,rfl⟩,?_⟩⟩;rw[b2];exact a2 hm r c
    ·cases h
   ·cases h
  ·cases h
 |.vec q::l,i,ps,bD,g,h=>by
  simp only[ot] at h;split at h
  ·rename_i cE h0;split at h
   ·rename_i lR f1 h1;split at h
    ·rename_i Fk g2 h2;injection h with h;injection h with h3 h4;subst h3 h4;obtain⟨b1,b2⟩:=Ps h1;obtain⟨a1,a2⟩:=JM l (i+1) _ _ _ h2;refine⟨b1.trans a1,fun hm r c=>⟨_,_,rfl,.inr ⟨cE,ps,lR,f1,hm.aS _ ((b1.trans a1).aS _ (Gn h0)),h1,a1.trans hm,_,_,rfl⟩,?_⟩⟩;rw[b2];exact a2 hm r c
    ·cases h
   ·cases h
  ·cases h
 |.map q q'::l,i,ps,bD,g,h=>by
  simp only[ot] at h;split at h
  ·rename_i cE h0;split at h
   ·rename_i lR f1 h1;split at h
    ·rename_i Fk g2 h2;injection h with h;injection h with h3 h4;subst h3 h4;obtain⟨b1,b2⟩:=Ps h1;obtain⟨a1,a2⟩:=JM l (i+1) _ _ _ h2;refine⟨b1.trans a1,fun hm r c=>⟨_,_,rfl,.inr ⟨cE,ps,lR,f1,hm.aS _ ((b1.trans a1).aS _ (Gn h0)),h1,a1.trans hm,_,_,rfl⟩,?_⟩⟩;rw[b2];exact a2 hm r c
    ·cases h
   ·cases h
  ·cases h
 |.iter::l,i,ps,bD,g,h=>by
  simp only[ot] at h;split at h
  ·rename_i cE h0;split at h
   ·rename_i lR f1 h1;split at h
    ·rename_i Fk g2 h2;injection h with h;injection h with h3 h4;subst h3 h4;obtain⟨b1,b2⟩:=Ps h1;obtain⟨a1,a2⟩:=JM l (i+1) _ _ _ h2;refine⟨b1.trans a1,fun hm r c=>⟨_,_,rfl,.inr ⟨cE,ps,lR,f1,hm.aS _ ((b1.trans a1).aS _ (Gn h0)),h1,a1.trans hm,_,_,rfl⟩,?_⟩⟩;rw[b2];exact a2 hm r c
    ·cases h
   ·cases h
  ·cases h
end
theorem qqg{n:Nat}{x:Option Nat}(h:lN n x=true):x=some n:=by
 cases x with
 |none=>cases h
 |some m=>exact congrArg some (zh h)
theorem Pt{x:Option Nat}(h:KE x=true):x=none:=by
 cases x with
 |none=>rfl
 |some m=>cases h
theorem qh9{k:Nat}{all:List (Nat×Nat)}:∀{l:List (Nat×Nat)},Oi k all l=true->∀p,p∈l->p.1<k/\iJ p.1 all=some p.2/\Oh p.2 all=some p.1
 |(i,cE)::r,h,p,hp=>by
  simp only[Oi,zd] at h;obtain⟨⟨⟨h1,h2⟩,h3⟩,h4⟩:=h;rcases zu.1 hp with rfl|hp
  ·exact⟨zH h1,qqg h2,qqg h3⟩
  ·exact qh9 h4 p hp
theorem qha{id n:Nat}:∀{l:List (Nat×Nat)},(id,n)∈l->∃m,iJ id l=some m
 |(i,m)::r,h=>by
  simp only[iJ];cases hb:Nat.beq i id with
  |true=>exact⟨m,rfl⟩
  |false=>
   rcases zu.1 h with h|h
   ·injection h with h _;subst h;rw[Nat.beq_refl] at hb;cases hb
   ·exact qha h
theorem qhb:∀{l:List (Nat×Nat)},Oj l=true->∀p,p∈l->iJ p.1 l=some p.2
 |(i,n)::r,h,p,hp=>by
  simp only[Oj,zd] at h;simp only[iJ];rcases zu.1 hp with rfl|hc
  ·rw[Nat.beq_refl];rfl
  ·cases hb:Nat.beq i p.1 with
   |true=>have:=zh hb;subst this;obtain⟨m,hm⟩:=qha (id:=p.1) (n:=p.2) hc;rw[Pt h.1] at hm;cases hm
   |false=>exact qhb h.2 p hc
theorem qey{cut:List (Nat×Nat)}:∀{l:List Nat},Ol cut l=true->∀p,p∈l->iJ p cut=none
 |i::r,h,p,hp=>by
  simp only[Ol,zd] at h;rcases zu.1 hp with rfl|hp
  ·exact Pt h.1
  ·exact qey h.2 p hp
theorem z0j{aS:List (Nat×Nat)}:∀{i j:Nat},(i,j)∈aS->xV j aS=true:=by
 induction aS with
 |nil=>intro i j h;cases h
 |cons p r ih=>
  obtain⟨a,b⟩:=p;intro i j h;simp only[xV];rcases zu.1 h with h|h
  ·injection h with _ h;subst h;rw[Nat.beq_refl];rfl
  ·cases hb:Nat.beq b j
   ·exact ih h
   ·rfl
theorem qez{aS:List (Nat×Nat)}:∀{l:List Nat},Om l aS=true->∀j,j∈l->∀i,(i,j)∉aS
 |a::r,h,j,hj,i,hi=>by
  simp only[Om] at h;cases hb:xV a aS with
  |true=>rw[hb] at h;cases h
  |false=>
   rw[hb] at h;rcases zu.1 hj with rfl|hj
   ·rw[z0j hi] at hb;cases hb
   ·exact qez h j hj i hi
section
variable {C:Cx} {X:Nat→Prop} {φ:Nat→Addr} {o:Nat→Obj} {w:World} {imm imm':Nat→Prop}
theorem qll(hl:∀id,qq φ o imm w id (o id))(hi:∀b,imm b->imm' b){t:Ty}{x:V}{d:den t}{z:Value}(hx:ay φ o imm w x z)(hf:∀id,id∈eX o x->∀t ver s,o id=.vec t ver false s->s.nil=false->(φ id).spot=none->imm' (φ id).block)(h:jS lf o t x=some d):aZ imm' w t d z:=by
 rcases O1 h with rfl|⟨e',ht,s',h1,h2⟩|⟨e',ht,rfl,h2⟩
 ·exact tu hi (fun _ _=>rfl) _ _ _ hx
 ·subst ht;subst h2;obtain⟨⟨g1,g2⟩,id,ver,fr,s0,g3,g4,g5,g6,g8⟩:=O0 hl hx h1;refine⟨z,rfl,g1,?_⟩;rcases g2 with g2|⟨hn,a,cap,ec,h5,h6,h7,h8,h9⟩
  ·exact .inl g2
  ·refine .inr ⟨hn,a,cap,ec,h5,h6,fun hc=>?_,oY (iF hi (fun _ _=>rfl) _) h7,h8,h9⟩;rw[g4 hn _ _ _ h5];have ho:=hl id;rw[g3] at ho;obtain⟨_,_,ho⟩:=ho;rcases ho (g5▸hn) with ⟨g9,_,_,_,_,_,g7⟩|⟨_,g7,_⟩
   ·cases e:fr with
    |false=>subst e;exact hf id (g6 rfl) _ _ _ g3 (g5▸hn) g9
    |true=>exact hi _ (g7 e)
   ·exact absurd (g8 g7) hc
 ·subst ht;subst h2;exact⟨z,rfl,Nat.zero_le _,.inl ⟨rfl,rfl,hx⟩⟩
theorem qqh(hl:∀id,qq φ o imm w id (o id))(hi:∀b,imm b->imm' b){t:Ty}{x:V}{d:den t}{z:Value}(hx:ay φ o imm w x z)(hf:∀id,id∈eX o x->∀t ver s,o id=.vec t ver false s->s.nil=false->(φ id).spot=none->imm' (φ id).block)(h:oq lf o t x=some d):aZ imm' w t d z:=by
 rcases O2 h with h|⟨p,ht,s,h1,h2⟩
 ·exact qll hl hi hx hf h
 ·subst ht;subst h2;have h3:aC imm' w (.sl (nX p)) s [z]:=qll hl hi hx hf h1;show aC imm' w (.ks p) (I8 p s) [z];rw[Ju,RL];exact h3
def CJ(φ:Nat->Addr)(o:Nat->Obj)(imm':Nat->Prop)(x:V):Prop:=∀id,id∈eX o x->∀t ver s,o id=.vec t ver false s->s.nil=false->(φ id).spot=none->imm' (φ id).block
theorem SE(hl:∀id,qq φ o imm w id (o id))(hi:∀b,imm b->imm' b):∀(t:Ty) (cs r:List V) (d:den t) (zs:List Value),cd φ o imm w cs zs->(∀c,c∈cs->CJ φ o imm' c)->nx lf o t cs=some (d,r)->∃zc zr,zs=zc++zr/\aC imm' w t d zc/\cd φ o imm w r zr/\(∀c,c∈r->CJ φ o imm' c):=by
 have one:∀(t:Ty) (cs r:List V) (d:den t) (zs:List Value),cd φ o imm w cs zs->(∀c,c∈cs->CJ φ o imm' c)->
   (match cs with|c::r=>(match oq lf o t c with|some x=>some (x,r)|none=>none)|[]=>none)=some (d,r)->
   ∃z zr,zs=z::zr/\aZ imm' w t d z/\cd φ o imm w r zr/\(∀c,c∈r->CJ φ o imm' c):=by
  intro t cs r d zs hr hf h;cases cs with
  |nil=>cases h
  |cons c cs=>
   simp only at h;split at h
   ·rename_i x hx;injection h with h;injection h with h1 h2;subst h1 h2;obtain⟨z,zr,h3,h4,h5⟩:=hr;exact⟨z,zr,h3,qqh hl hi h4 (hf _ (zf ..)) hx,h5,fun c hc=>hf c (zg _ hc)⟩
   ·cases h
 intro t
 induction t with
 |unit=>intro cs r d zs hr hf h;simp only[nx,zK,Prod.mk.injEq] at h;obtain⟨_,rfl⟩:=h;exact⟨[],zs,rfl,rfl,hr,hf⟩
 |pair a b oz kA=>
  intro cs r d zs hr hf h;simp only[nx] at h;split at h
  ·rename_i x r1 h1;split at h
   ·rename_i y r2 h2;injection h with h;injection h with h3 h4;subst h3 h4;obtain⟨zc,zr,e1,e2,e3,e4⟩:=oz _ _ _ _ hr hf h1;obtain⟨Le,RZ,g1,g2,g3,g4⟩:=kA _ _ _ _ e3 e4 h2;exact⟨zc++Le,RZ,by rw[e1,g1,zD],⟨zc,Le,rfl,e2,g2⟩,g3,g4⟩
   ·cases h
  ·cases h
 |st p ih=>intro cs r d zs hr hf h;exact ih _ _ _ _ hr hf h
 |arr n e _=>intro cs r d zs hr hf h;cases h
 |int k=>intro cs r d zs hr hf h;obtain⟨z,zr,e1,e2,e3⟩:=one _ cs r d zs hr hf (by cases cs<;>exact h);exact⟨[z],zr,e1,e2,e3⟩
 |bool=>intro cs r d zs hr hf h;obtain⟨z,zr,e1,e2,e3⟩:=one _ cs r d zs hr hf (by cases cs<;>exact h);exact⟨[z],zr,e1,e2,e3⟩
 |eP=>intro cs r d zs hr hf h;obtain⟨z,zr,e1,e2,e3⟩:=one _ cs r d zs hr hf (by cases cs<;>exact h);exact⟨[z],zr,e1,e2,e3⟩
 |fl=>intro cs r d zs hr hf h;obtain⟨z,zr,e1,e2,e3⟩:=one _ cs r d zs hr hf (by cases cs<;>exact h);exact⟨[z],zr,e1,e2,e3⟩
 |str=>intro cs r d zs hr hf h;obtain⟨z,zr,e1,e2,e3⟩:=one _ cs r d zs hr hf (by cases cs<;>exact h);exact⟨[z],zr,e1,e2,e3⟩
 |sl e _=>intro cs r d zs hr hf h;obtain⟨z,zr,e1,e2,e3⟩:=one _ cs r d zs hr hf (by cases cs<;>exact h);exact⟨[z],zr,e1,e2,e3⟩
 |ks e _=>intro cs r d zs hr hf h;obtain⟨z,zr,e1,e2,e3⟩:=one _ cs r d zs hr hf (by cases cs<;>exact h);exact⟨[z],zr,e1,e2,e3⟩
theorem qd2:∀{cs:List V},CJ φ o imm' (.agg cs)->∀c,c∈cs->CJ φ o imm' c
 |c'::cs,h,c,hc,id,hi=>by
  rcases zu.1 hc with rfl|hc
  ·exact h id (by unfold eX qH;exact List.mem_append_left _ hi)
  ·exact qd2 (cs:=cs) (fun id hi=>h id (by unfold eX at hi ⊢;unfold qH;exact List.mem_append_right _ hi)) c hc id hi
theorem qw3(hl:∀id,qq φ o imm w id (o id))(hi:∀b,imm b->imm' b){t:Ty}{x:V}{d:den t}{z:Value}(hx:ay φ o imm w x z)(hf:CJ φ o imm' x)(h:fI lf o t x=some d):aZ imm' w t d z:=by
 by_cases hc:∃cs,x=.agg cs
 ·obtain⟨cs,rfl⟩:=hc;simp only[fI] at h;split at h
  ·rename_i p;split at h
   ·rename_i y h1;injection h with h;subst h;obtain⟨c,rfl,hr⟩:=hx;obtain⟨zc,zr,e1,e2,e3,_⟩:=SE hl hi _ _ _ _ _ hr (qd2 hf) h1;have:zr=[]:=e3;subst this;exact⟨c,rfl,by rw[e1,zC];exact e2⟩
   ·cases h
  ·cases h
 ·have:fI lf o t x=oq lf o t x:=by cases x<;>first|rfl|exact absurd ⟨_,rfl⟩ hc
  exact qqh hl hi hx hf (this▸h)
structure bS (o:Nat->Obj) (psF:PS) (k:Nat) (aB:List fO) (oc:Nat->Obj):Prop where
 fin:FW k psF=true
 len:aB.length=k
 ob:∀i sh,aB[i]?=some sh->CI o psF i sh (oc i)
 none:∀i,k<=i->oc i=.none
def wF(psF:PS)(i:Nat):Nat:=(iJ i psF.aS).getD 0
theorem bS.aS{psF:PS}{k:Nat}{aB:List fO}{oc:Nat->Obj}(h:bS o psF k aB oc){i cE:Nat}(hp:(i,cE)∈psF.aS):i<k/\wF psF i=cE/\Oh cE psF.aS=some i:=by have hf:=h.fin;unfold FW at hf;simp only[zd] at hf;obtain⟨h1,h2,h3⟩:=qh9 hf.1.1.1 _ hp;exact⟨h1,by unfold wF;rw[h2];rfl,h3⟩
theorem bS.cj{psF:PS}{k:Nat}{aB:List fO}{oc:Nat->Obj}(h:bS o psF k aB oc){i cE:Nat}(hp:(i,cE)∈psF.aS):cE∉psF.cj:=fun hl=>by have hf:=h.fin;unfold FW at hf;simp only[zd] at hf;exact qez hf.2 cE hl i hp
theorem bS.cut{psF:PS}{k:Nat}{aB:List fO}{oc:Nat->Obj}(h:bS o psF k aB oc){id n:Nat}(hp:(id,n)∈psF.cut):iJ id psF.cut=some n:=by have hf:=h.fin;unfold FW at hf;simp only[zd] at hf;exact qhb hf.1.1.2 _ hp
theorem bS.full{psF:PS}{k:Nat}{aB:List fO}{oc:Nat->Obj}(h:bS o psF k aB oc){id:Nat}(hp:id∈psF.full):iJ id psF.cut=.none:=by have hf:=h.fin;unfold FW at hf;simp only[zd] at hf;exact qey hf.1.2 _ hp
noncomputable def CK{t:Ty}(s:Sl (den t)):Option Nat->Sl (den t)
 |some n=>⟨s.nil,lf.aO s.l n⟩
 |none=>s
theorem bS.kind{psF:PS}{k:Nat}{aB:List fO}{oc:Nat->Obj}(h:bS o psF k aB oc){i:Nat}(hi:i<k):oc i=.dead\/∃cE,(i,cE)∈psF.aS/\((∃l cs BX xG f r c,o cE=.box cs/\nY lf o l cs BX=some (xG,f)/\eV xG psF/\oc i=.box (fw cy bR l r (f r c)).1)\/(∃t ver s,o cE=.vec t ver false s/\oc i=.vec t 0 false (CK s (iJ cE psF.cut)))\/(∃k v m,o cE=.map k v m/\oc i=.map k v m)\/(∃l p,o cE=.iter l p/\oc i=.iter l p)):=by
 have hc:i<aB.length:=by rw[h.len];exact hi
 rcases h.ob i _ (ze hc) with ⟨_,h1⟩|⟨cE,BX,xG,f,h1,h2,h3,r,c,h4⟩
 ·exact .inl h1
 ·generalize hg:aB[i]=sh at*
  cases sh with
  |gone=>exact .inl h4
  |box l=>
   have h2:(match o cE with|.box cs=>nY lf o l cs BX|_=>.none)=some (xG,f):=h2;cases e:o cE<;>rw[e] at h2<;>try (cases h2;done)
   exact .inr ⟨cE,h1,.inl ⟨l,_,BX,xG,f,r,c,e,h2,h3,h4⟩⟩
  |vec t=>
   simp only[xY] at h2;cases e:o cE<;>rw[e] at h2<;>try (cases h2;done)
   rename_i t' ver fr s;cases fr<;>try (cases h2;done)
   simp only at h2;split at h2
   ·rename_i s' hs;obtain⟨ht,hs⟩:=xE hs;injection ht with ht;subst ht;subst hs;refine .inr ⟨cE,h1,.inr (.inl ⟨t',ver,_,e,?_⟩)⟩;split at h2
    ·rename_i n hn;injection h2 with h2;injection h2 with h5 h6;subst h5 h6;rw[h4,h.cut (h3.cut _ (Gn hn))];rfl
    ·injection h2 with h2;injection h2 with h5 h6;subst h5 h6;rw[h4,h.full (h3.full _ (zf ..))];rfl
   ·cases h2
  |map kt vt=>
   simp only[xY] at h2;cases e:o cE<;>rw[e] at h2<;>try (cases h2;done)
   rename_i k' v' m;simp only at h2;split at h2
   ·rename_i m' hs;obtain⟨ht,hs⟩:=xE hs;injection ht with _ ht;injection ht with he hf;subst he hf;subst hs;injection h2 with h2;injection h2 with h5 h6;subst h5 h6;exact .inr ⟨cE,h1,.inr (.inr (.inl ⟨_,_,_,e,h4⟩))⟩
   ·cases h2
  |iter=>
   simp only[xY] at h2;cases e:o cE<;>rw[e] at h2<;>try (cases h2;done)
   injection h2 with h2;injection h2 with h5 h6;subst h5 h6;exact .inr ⟨cE,h1,.inr (.inr (.inr ⟨_,_,e,h4⟩))⟩
end
section
variable {C:Cx} {X:Nat→Prop} {φ:Nat→Addr} {o oc:Nat→Obj} {w:World} {psF:PS} {k:Nat} {aB:List fO}
def fg(φ:Nat->Addr)(psF:PS):Nat->Addr:=fun i=>φ (wF psF i)
def XC(X:Nat->Prop)(φ:Nat->Addr)(o oc:Nat->Obj)(psF:PS)(b:Nat):Prop:=X b\/∃id,aX (φ id) (o id)=true/\(φ id).block=b/\id∉psF.cj/\¬∃i,aX (fg φ psF i) (oc i)=true/\wF psF i=id
theorem bS.Gq(h:bS o psF k aB oc){i:Nat}(hx:aX (fg φ psF i) (oc i)=true):i<k/\(i,wF psF i)∈psF.aS/\aX (φ (wF psF i)) (o (wF psF i))=true:=by
 have hi:i<k:=zP fun hn=>by rw[h.none i om] at hx;exact nf hx
 rcases h.kind hi with h1|⟨cE,h1,h2⟩
 ·rw[h1] at hx;simp[aX,live] at hx
 ·have:=(h.aS h1).2.1;unfold fg at hx;rw[this] at hx ⊢;refine⟨hi,h1,?_⟩;rcases h2 with ⟨l,cs,BX,xG,f,r,c,e,_⟩|⟨t,ver,s,e,e'⟩|⟨_,_,m,e,_⟩|⟨_,_,e,_⟩
  ·rw[e];rfl
  ·rw[e'] at hx;obtain⟨hn,_,hs⟩:=Cz hx;have hn:s.nil=false:=by cases hc:iJ cE psF.cut<;>rw[hc] at hn<;>simpa[CK] using hn
   rw[e];exact uZ hn hs
  ·rw[e];rfl
  ·rw[e];rfl
theorem bS.iO(h:bS o psF k aB oc){b:Nat}(hb:qJ (fg φ psF) oc b):qJ φ o b:=by obtain⟨i,h1,h2⟩:=hb;exact⟨wF psF i,(h.Gq h1).2.2,h2⟩
theorem bS.imm(h:bS o psF k aB oc){b:Nat}(hb:ah X φ o w b):ah (XC X φ o oc psF) (fg φ psF) oc w b:=by
 obtain⟨h1,h2,h3⟩:=hb;refine⟨h1,?_,fun hn=>h3 (h.iO hn)⟩;rintro(hx|⟨id,e1,e2,_⟩)
 ·exact h2 hx
 ·exact h3 ⟨id,e1,e2⟩
theorem bS.o8(h:bS o psF k aB oc)(hm:MRel C X φ o w){id:Nat}(hx:aX (φ id) (o id)=true)(hl:id∈psF.cj):ah (XC X φ o oc psF) (fg φ psF) oc w (φ id).block:=by
 obtain⟨h1,h2⟩:=hm.sep id hx;refine⟨h1,?_,fun⟨i,e1,e2⟩=>?_⟩
 ·rintro(hc|⟨pU,e1,e2,e3,_⟩)
  ·exact h2 hc
  ·have:=hm.inj pU id e1 hx e2;exact e3 (this▸hl)
 ·obtain⟨_,g1,g2⟩:=h.Gq e1;have:=hm.inj _ id g2 hx e2;exact h.cj g1 (this▸hl)
def Pu(φ:Nat->Addr)(o oc:Nat->Obj)(imm Gr:Nat->Prop)(w:World)(psF:PS)(s:Sh):Prop:=∀v z ps bD f,ay φ o imm w v z->EU lf o s v ps=some (bD,f)->eV bD psF->
 ∀r c,ay (fg φ psF) oc Gr w (lM cy bR s r (f r c)).1 z
def z6p(φ:Nat->Addr)(o oc:Nat->Obj)(imm Gr:Nat->Prop)(w:World)(psF:PS)(l:List Sh):Prop:=∀vs zs ps bD f,cd φ o imm w vs zs->nY lf o l vs ps=some (bD,f)->eV bD psF->
 ∀r c,cd (fg φ psF) oc Gr w (fw cy bR l r (f r c)).1 zs
theorem BY(h:bS o psF k aB oc){i id:Nat}(hp:(i,id)∈psF.aS):oc i=.dead\/((∃cs lB,o id=.box cs/\oc i=.box lB)\/(∃t ver s,o id=.vec t ver false s/\oc i=.vec t 0 false (CK s (iJ id psF.cut)))\/(∃k v m,o id=.map k v m/\oc i=.map k v m)\/(∃l p,o id=.iter l p/\oc i=.iter l p))/\fg φ psF i=φ id:=by
 obtain⟨h1,h2,_⟩:=h.aS hp;rcases h.kind h1 with h3|⟨cE,h3,h4⟩
 ·exact .inl h3
 ·have:=(h.aS h3).2.1;rw[h2] at this;subst this;refine .inr ⟨?_,by unfold fg;rw[h2]⟩;rcases h4 with ⟨l,cs,BX,xG,f,r,c,e,_,_,e'⟩|h4|h4|h4
  ·exact .inl ⟨cs,_,e,e'⟩
  ·exact .inr (.inl h4)
  ·exact .inr (.inr (.inl h4))
  ·exact .inr (.inr (.inr h4))
theorem SF:∀{cs:List V} {q:V} {id:Nat},q∈cs->id∈eX o q->id∈qH o cs
 |c::cs,q,id,hq,hi=>by
  unfold qH;rcases zu.1 hq with rfl|hq
  ·exact List.mem_append_left _ hi
  ·exact List.mem_append_right _ (SF hq hi)
theorem qqi(hm:MRel C X φ o w)(h:bS o psF k aB oc)(t:Ty):Pu φ o oc (ah X φ o w) (ah (XC X φ o oc psF) (fg φ psF) oc w) w psF (.ref t):=by
 intro v z ps bD f hv hp hM r c;obtain⟨_,x,rfl,hx⟩:=SB (o:=o) hp;show ay (fg φ psF) oc _ w (.ref t x) z;rcases hx with ⟨rfl,rfl⟩|⟨id,rfl,hb,rfl⟩
 ·obtain⟨a,cs,h1,h2,h3,h4,h5⟩:=hv;exact⟨a,cs,h1,h2,h.imm h3,iF (fun b hb=>h.imm hb) (fun _ _=>rfl) _ _ _ h4,h5⟩
 ·unfold tj at hb;split at hb
  ·rename_i cs e;split at hb
   ·rename_i y hy;injection hb with hb;subst hb;have he:aX (φ id) (o id)=true:=by rw[e];rfl
    have hc:id∈psF.cj:=hM.cj _ (zf ..);have ho:=hm.aB id;unfold ay at hv;rw[e] at hv ho;simp only at hv;subst hv;obtain⟨h0,cz,el,lo,hj,g1,g2,g3⟩:=ho;have hf:∀q,q∈cs->CJ φ o (ah (XC X φ o oc psF) (fg φ psF) oc w) q:=by intro q hq pU hi t ver s e' hn hs;refine h.o8 hm (by rw[e'];exact uZ hn hs) (hM.cj _ (zg _ (List.mem_append_left _ ?_)));unfold Jh;rw[e];exact SF hq hi
    obtain⟨zc,zr,a1,a2,a3,_⟩:=SE hm.aB (fun b hb=>h.imm hb) _ _ _ _ _ g3 hf hy;have:zr=[]:=a3;subst this;refine⟨_,zc,rfl,rfl,h.o8 hm he hc,a2,?_⟩;have:=Lh g1 0 cz.size;rw[List.drop_zero,a1,zC] at this;have hg:zc.length=cz.size:=by rw[<-Array.length_toList,a1,zC]
    rw[<-hg,List.take_length] at this;rw[h0,zN];exact this
   ·cases hb
  ·cases hb
theorem z4l(hm:MRel C X φ o w)(h:bS o psF k aB oc)(t:Ty):Pu φ o oc (ah X φ o w) (ah (XC X φ o oc psF) (fg φ psF) oc w) w psF (.rr t):=by
 intro v z ps bD f hv hp hM r c;obtain⟨_,x,rfl,hx⟩:=qlk (o:=o) hp;show ay (fg φ psF) oc _ w (.rr t x) z;rcases hx with ⟨rfl,rfl⟩|⟨id,lO,rfl,hg,hb,rfl⟩
 ·obtain⟨a,b,cs,h1,h2,h3,h4,h5,h6,h7,h8⟩:=hv;exact⟨a,b,cs,h1,h2,h.imm h3,h4,h5,h.imm h6,iF (fun b hb=>h.imm hb) (fun _ _=>rfl) _ _ _ h7,h8⟩
 ·unfold tj at hb;split at hb
  ·rename_i cs e;split at hb
   ·rename_i y hy;injection hb with hb;subst hb;have hc:aX (φ id) (o id)=true:=by rw[hg];rfl
    have hk:aX (φ lO) (o lO)=true:=by rw[e];rfl
    have hl:id∈psF.cj:=hM.cj _ (zf ..);have he:lO∈psF.cj:=hM.cj _ (zg _ (zf ..));have hj:=hm.aB id;have ho:=hm.aB lO;unfold ay at hv;rw[hg] at hv hj;rw[e] at ho;simp only at hv;subst hv;obtain⟨k0,cz1,el1,lo1,hu,q1,q2,q3⟩:=hj;obtain⟨zp,rp,p1,p2,p3⟩:=q3;have p3:rp=[]:=p3;have p2:ay φ o (ah X φ o w) w (.ptr lO 0) zp:=p2;unfold ay at p2;rw[e] at p2;simp only at p2;subst p2 p3;obtain⟨h0,cz,el,lo,hw,g1,g2,g3⟩:=ho;have ht:∀q,q∈cs->CJ φ o (ah (XC X φ o oc psF) (fg φ psF) oc w) q:=by intro q hq pU hi t ver s e' hn hs;refine h.o8 hm (by rw[e'];exact uZ hn hs) (hM.cj _ (zg _ (zg _ (List.mem_append_left _ ?_))));unfold Jh;rw[e];exact SF hq hi
    obtain⟨zc,zr,a1,a2,a3,_⟩:=SE hm.aB (fun b hb=>h.imm hb) _ _ _ _ _ g3 ht hy;have:zr=[]:=a3;subst this;refine⟨⟨(φ id).block,(φ id).off+0,none⟩,⟨(φ lO).block,(φ lO).off+0,none⟩,zc,rfl,rfl,h.o8 hm hc hl,?_,rfl,h.o8 hm hk he,a2,?_⟩
    ·have:=Lh q1 0 cz1.size;rw[List.drop_zero,p1] at this;have hf:[Value.pointer (some ⟨(φ lO).block,(φ lO).off+0,none⟩)].length=cz1.size:=by rw[<-Array.length_toList,p1]
     rw[<-hf,List.take_length] at this;rw[k0,zN];exact this
    ·have:=Lh g1 0 cz.size;rw[List.drop_zero,a1,zC] at this;have hf:zc.length=cz.size:=by rw[<-Array.length_toList,a1,zC]
     rw[<-hf,List.take_length] at this;rw[h0,zN];exact this
   ·cases hb
  ·cases hb
theorem SG(hm:MRel C X φ o w)(h:bS o psF k aB oc)(s:Sh):Pu φ o oc (ah X φ o w) (ah (XC X φ o oc psF) (fg φ psF) oc w) w psF s:=by
 refine Sh.rec (motive_1:=Pu φ o oc (ah X φ o w) (ah (XC X φ o oc psF) (fg φ psF) oc w) w psF) (motive_2:=z6p φ o oc (ah X φ o w) (ah (XC X φ o oc psF) (fg φ psF) oc w) w psF)
  ?_ ?_ ?_ ?_ ?_ ?_ ?_ ?_ ?_ ?_ ?_ ?_ ?_ ?_ ?_ ?_ ?_ ?_ ?_ ?_ s
 ·intro t v z ps bD f hv hp hM r c;obtain⟨_,x,h1,rfl,rfl⟩:=qqe (o:=o) hp;refine qw3 hm.aB (fun b hb=>h.imm hb) hv (fun id hi t ver s e hn hs=>h.o8 hm (by rw[e];exact uZ hn hs) (hM.cj _ (List.mem_append_left _ hi))) h1
 ·intro i v z ps bD f hv hp hM r c;replace hp:KG o i v ps=some (bD,f):=hp;unfold KG at hp;show ay (fg φ psF) oc _ w (.cR i 0) z;split at hp
  ·rename_i id ver;split at hp
   ·rename_i t aF s e;obtain⟨hb,rfl,rfl⟩:=qs hp;have hr:=hM.aS _ (zf ..);have he:=h.full (hM.full _ (zf ..));unfold ay at hv ⊢;rw[e] at hv;replace hv:=hv.2 (zh hb);rcases BY (φ:=φ) h hr with hd|⟨⟨cs,lB,e1,_⟩|⟨t',tB,s',e1,e2⟩|⟨_,_,m,e1,_⟩|⟨_,_,e1,e3⟩,dx⟩
    ·rw[hd];trivial
    ·rw[e1] at e;cases e
    ·rw[e1] at e;injection e with ea eb ec ed;subst ea eb;have ed:=eq_of_heq ed;subst ed;rw[e2,he,dx];exact⟨Nat.le_refl _,fun _=>hv⟩
    ·rw[e1] at e;cases e
    ·rw[e1] at e;cases e
   ·cases hp
  ·rename_i id ver n cp;split at hp
   ·rename_i t aF s e;obtain⟨hb,rfl,rfl⟩:=qs hp;have hr:=hM.aS _ (zf ..);have hc:=h.cut (hM.cut _ (zf ..));unfold ay at hv ⊢;rw[e] at hv;obtain⟨hn,hj,_⟩:=hv.2 (zh hb);clear hv;rcases BY (φ:=φ) h hr with hd|⟨⟨cs,lB,e1,_⟩|⟨t',tB,s',e1,e2⟩|⟨_,_,m,e1,_⟩|⟨_,_,e1,e3⟩,dx⟩
    ·rw[hd];trivial
    ·rw[e1] at e;cases e
    ·rw[e1] at e;injection e with ea eb ec ed;subst ea eb;have ed:=eq_of_heq ed;subst ed;rw[e2,hc,dx];have hl:(lf.aO s'.l n).length=n:=by simp[lf,aO,Nat.min_eq_left hn]
     refine⟨Nat.le_refl _,fun _=>?_⟩;simp only[CK];rw[hl];exact hj
    ·rw[e1] at e;cases e
    ·rw[e1] at e;cases e
   ·cases hp
  ·cases hp
 ·intro i off v z ps bD f hv hp hM r c;replace hp:KH o i off v ps=some (bD,f):=hp;unfold KH at hp;show ay (fg φ psF) oc _ w (.ptr i off) z;split at hp
  ·rename_i id FZ;unfold ay at hv ⊢;split at hp
   ·rename_i cs0 e;obtain⟨hb,rfl,rfl⟩:=qs hp;have hr:=hM.aS _ (zf ..);have:=zh hb;subst this;rw[e] at hv;rcases BY (φ:=φ) h hr with hd|⟨⟨cs,lB,e1,e2⟩|⟨t',tB,s',e1,e2⟩|⟨_,_,m,e1,_⟩|⟨_,_,e1,e3⟩,dx⟩
    ·rw[hd];trivial
    ·rw[e2,dx];exact hv
    ·rw[e1] at e;cases e
    ·rw[e1] at e;cases e
    ·rw[e1] at e;cases e
   ·rename_i t aF s e;obtain⟨hb,rfl,rfl⟩:=qs hp;rw[zd] at hb;have hr:=hM.aS _ (zf ..);have:=zh hb.1;subst this;rw[e] at hv;replace hv:=hv (zh hb.2).symm;rcases BY (φ:=φ) h hr with hd|⟨⟨cs,lB,e1,e2⟩|⟨t',tB,s',e1,e2⟩|⟨_,_,m,e1,_⟩|⟨_,_,e1,e3⟩,dx⟩
    ·rw[hd];trivial
    ·rw[e1] at e;cases e
    ·rw[e2,dx];exact fun _=>hv
    ·rw[e1] at e;cases e
    ·rw[e1] at e;cases e
   ·cases hp
  ·cases hp
 ·exact fun t=>qqi hm h t
 ·intro v z ps bD f hv hp hM r c;obtain⟨hb,_,rfl⟩:=qs hp;have:v=.gU:=by cases v<;>first|rfl|cases hb
  subst this;exact hv
 ·intro g l ih v z ps bD f hv hp hM r c;obtain⟨l',rfl,hf⟩:=z33 hp;obtain⟨cz,h1,h2⟩:=hv;exact⟨cz,h1,ih _ _ _ _ _ h2 hf hM r c⟩
 ·intro v z ps bD f hv hp hM r c;obtain⟨hb,_,rfl⟩:=qs hp;have:v=.gB:=by cases v<;>first|rfl|cases hb
  subst this;exact hv
 ·intro l ih v z ps bD f hv hp hM r c;obtain⟨l',rfl,hf⟩:=qw1 hp;obtain⟨cz,h1,h2⟩:=hv;exact⟨cz,h1,ih _ _ _ _ _ h2 hf hM r c⟩
 ·intro l ih v z ps bD f hv hp hM r c;obtain⟨l',rfl,hf⟩:=qw2 hp;obtain⟨cz,h1,h2⟩:=hv;exact⟨cz,h1,ih _ _ _ _ _ h2 hf hM r c⟩
 ·intro i v z ps bD f hv hp hM r c;replace hp:xW o i v ps=some (bD,f):=hp;unfold xW at hp;show ay (fg φ psF) oc _ w (.mp i) z;split at hp
  ·rename_i id;unfold ay at hv ⊢;split at hp
   ·rename_i e;injection hp with hp;injection hp with h1 h2;subst h1 h2;have hr:=hM.aS _ (zf ..);rw[e] at hv;rcases BY (φ:=φ) h hr with hd|⟨⟨cs,lB,e1,e2⟩|⟨t',tB,s',e1,e2⟩|⟨_,_,m,e1,e2⟩|⟨_,_,e1,e3⟩,dx⟩
    ·rw[hd];trivial
    ·rw[e1] at e;cases e
    ·rw[e1] at e;cases e
    ·rw[e2,dx];exact hv
    ·rw[e1] at e;cases e
   ·cases hp
  ·cases hp
 ·intro v z ps bD f hv hp hM r c;obtain⟨hb,_,rfl⟩:=qs hp;have:v=.jR:=by cases v<;>first|rfl|cases hb
  subst this;exact hv
 ·intro v z ps bD f hv hp hM r c;obtain⟨hb,_,rfl⟩:=qs hp;have:v=.ll:=by cases v<;>first|rfl|cases hb
  subst this;exact hv
 ·intro v z ps bD f hv hp hM r c;exact trivial
 ·intro i v z ps bD f hv hp hM r c;replace hp:KI o i v ps=some (bD,f):=hp;obtain⟨id,b,cs,rfl,e,rfl,rfl⟩:=Sz hp;have hr:=hM.aS _ (zf ..);show ay (fg φ psF) oc _ w (.iH i b) z;unfold ay at hv ⊢;rw[e] at hv;rcases BY (φ:=φ) h hr with hd|⟨⟨cs,lB,e1,e2⟩|⟨t',tB,s',e1,e2⟩|⟨_,_,m,e1,e2⟩|⟨_,_,e1,e3⟩,dx⟩
  ·rw[hd];trivial
  ·rw[e2,dx];exact hv
  ·rw[e1] at e;cases e
  ·rw[e1] at e;cases e
  ·rw[e1] at e;cases e
 ·intro i v z ps bD f hv hp hM r c;replace hp:Oq o i v ps=some (bD,f):=hp;obtain⟨id,ver,lo,t,s,rfl,e,rfl,rfl⟩:=qh7 hp;have hr:=hM.aS _ (zf ..);have hc:=h.full (hM.full _ (zf ..));show ay (fg φ psF) oc _ w (.iI i 0 lo) z;unfold ay at hv ⊢;rw[e] at hv;replace hv:=hv.2 rfl;rcases BY (φ:=φ) h hr with hd|⟨⟨cs,lB,e1,e2⟩|⟨t',tB,s',e1,e2⟩|⟨_,_,m,e1,e2⟩|⟨_,_,e1,e3⟩,dx⟩
  ·rw[hd];trivial
  ·rw[e1] at e;cases e
  ·rw[e1] at e;injection e with ea eb ec ed;subst ea eb;have ed:=eq_of_heq ed;subst ed;rw[e2,hc,dx];exact⟨Nat.le_refl _,fun _=>hv⟩
  ·rw[e1] at e;cases e
  ·rw[e1] at e;cases e
 ·intro i v z ps bD f hv hp hM r c;replace hp:xX o i v ps=some (bD,f):=hp;unfold xX at hp;show ay (fg φ psF) oc _ w (.it i) z;split at hp
  ·rename_i id;unfold ay at hv ⊢;split at hp
   ·rename_i e;injection hp with hp;injection hp with h1 h2;subst h1 h2;have hr:=hM.aS _ (zf ..);rw[e] at hv;rcases BY (φ:=φ) h hr with hd|⟨⟨cs,lB,e1,e2⟩|⟨t',tB,s',e1,e2⟩|⟨_,_,m,e1,e2⟩|⟨_,_,e1,e3⟩,dx⟩
    ·rw[hd];trivial
    ·rw[e1] at e;cases e
    ·rw[e1] at e;cases e
    ·rw[e1] at e;cases e
    ·rw[e3,dx];exact hv
   ·cases hp
  ·cases hp
 ·intro a v z ps bD f hv hp hM r c;replace hp:Cn lf o a v ps=some (bD,f):=hp;rcases qlj (o:=o) hp with ⟨k,n,rfl,rfl,rfl⟩|⟨rfl,rfl,rfl⟩|⟨g,i,rfl,hg,e,rfl,rfl⟩|⟨g,i,x,p,rfl,hg,e,h2,rfl⟩
  ·show wD _ w a k n z;exact RQ (fun q ⟨b,cs,h1,h2,h3,h4,h5⟩=>⟨b,cs,h1,h2,h.imm h3,iF (fun b hb=>h.imm hb) (fun _ _=>rfl) (.int .i64) n cs h4,h5⟩) a k z hv
  ·show wD _ w a _ _ z;replace hv:z=.nilFunc:=hv;subst hv;exact qli a
  ·obtain⟨cz,h1,h2⟩:=hv;have h2:cz.toList=[]:=h2;have hz:z=.func (.func g) #[] #[]:=by rw[h1,show cz=#[] from Array.toList_eq_nil_iff.1 h2,K0 hg]
   obtain⟨j,e1,e2⟩:=SA (c:=false) hz a 0 i e;rw[zN] at e1;subst e1;exact e2
  ·obtain⟨cz,h1,y,r',e3,hy,e4⟩:=hv;have e4:r'=[]:=e4;subst e4;have hz:z=.func (.func g) #[] #[y]:=by rw[h1,show cz=#[y] from Array.toList_inj.1 e3,K0 hg]
   have key:ay (fg φ psF) oc _ w (lM cy bR (.ref (.int .i64)) r (p r c)).1 y:=qqi hm h (.int .i64) x y _ _ _ hy h2 hM r c;obtain⟨j,e1,e2⟩:=SA (c:=true) (n:=(p r c).1) ⟨y,hz,key⟩ a 0 i e;rw[zN] at e1;subst e1;exact e2
 ·exact fun t=>z4l hm h t
 ·intro vs zs ps bD f hv hp hM r c;obtain⟨rfl,_,rfl⟩:=Pr hp;exact hv
 ·intro s l ow ox vs zs ps bD f hv hp hM r c;obtain⟨v,Gm,lR,f1,g1,rfl,h1,h2,rfl⟩:=Lp hp;obtain⟨z,zr,e,r1,r2⟩:=hv;have hk:=(JL l _ _ _ _ h2).1.trans hM;have a1:=ow _ _ _ _ _ r1 h1 hk _ (g1 r c);have e2:(lM cy bR s (jD l r) (f1 (jD l r) (g1 r c))).2=g1 r c:=(SC s _ _ _ _ h1).2 _ _ _ _;refine⟨z,zr,e,a1,?_⟩;show cd _ _ _ _ (fw cy bR l r (lM cy bR s (jD l r) (f1 (jD l r) (g1 r c))).2).1 zr;rw[e2];exact ox _ _ _ _ _ r2 h2 hM r c
theorem SH(hm:MRel C X φ o w)(h:bS o psF k aB oc):∀l,z6p φ o oc (ah X φ o w) (ah (XC X φ o oc psF) (fg φ psF) oc w) w psF l
 |[]=>by intro vs zs ps bD f hv hp hM r c;obtain⟨rfl,_,rfl⟩:=Pr hp;exact hv
 |s::l=>by intro vs zs ps bD f hv hp hM r c;obtain⟨v,Gm,lR,f1,g1,rfl,h1,h2,rfl⟩:=Lp hp;obtain⟨z,zr,e,r1,r2⟩:=hv;have hc:=(JL l _ _ _ _ h2).1.trans hM;have a1:=SG hm h s _ _ _ _ _ r1 h1 hc _ (g1 r c);have e2:(lM cy bR s (jD l r) (f1 (jD l r) (g1 r c))).2=g1 r c:=(SC s _ _ _ _ h1).2 _ _ _ _;refine⟨z,zr,e,a1,?_⟩;show cd _ _ _ _ (fw cy bR l r (lM cy bR s (jD l r) (f1 (jD l r) (g1 r c))).2).1 zr;rw[e2];exact SH hm h l _ _ _ _ _ r2 h2 hM r c
theorem z4n{l:List Sh}{cs:List V}{ps bD:PS}{f:∀r,ai r->ai (jD l r)}(h:nY lf o l cs ps=some (bD,f)){r:List Ty}{q:ai (jD l r)}(hs:pP (fw cy bR l r q).1=true):pP cs=true:=by
 cases l with
 |nil=>cases hs
 |cons s l=>
  obtain⟨v,Gm,lR,f1,g1,rfl,h1,h2,rfl⟩:=Lp h;have hs:pP ((lM cy bR s (jD l r) q).1::(fw cy bR l r (lM cy bR s (jD l r) q).2).1)=true:=hs;cases s with
  |iH i=>obtain⟨id,b,cs,rfl,_⟩:=Sz (o:=o) (show KI o i v ps=some (lR,f1) from h1);rfl
  |_=>cases hs
theorem bS.mem(hm:MRel C X φ o w)(h:bS o psF k aB oc):MRel C (XC X φ o oc psF) (fg φ psF) oc w:=by
 have hi:∀b,ah X φ o w b->ah (XC X φ o oc psF) (fg φ psF) oc w b:=fun b hb=>h.imm hb;refine⟨fun i=>?_,fun i j hq hu e=>?_,fun i hx=>?_,fun b hb=>?_,fun i=>?_,fun g t x hg=>?_,hm.Jy⟩
 ·by_cases hj:i<k
  ·rcases h.kind hj with hd|⟨cE,h1,h2⟩
   ·rw[hd];trivial
   ·have dx:fg φ psF i=φ cE:=by unfold fg;rw[(h.aS h1).2.1]
    have ho:=hm.aB cE;rcases h2 with ⟨l,cs,BX,xG,f,r,c,e,hp,hM,e'⟩|⟨t,ver,s,e,e'⟩|⟨_,_,m,e,e'⟩|⟨_,_,e,e'⟩
    ·rw[e] at ho;rw[e'];obtain⟨h3,cz,el,lo,hf,h4,h5,h6⟩:=ho;exact⟨by rw[dx];exact h3,cz,el,lo,hf,by rw[dx];exact h4,h5,SH hm h l _ _ _ _ _ h6 hp hM r c⟩
    ·rw[e] at ho;rw[e'];obtain⟨h3,h4,h5⟩:=ho;cases hc:iJ cE psF.cut with
     |none=>refine⟨h3,h4,fun hn=>?_⟩;rw[dx];refine(h5 hn).imp (fun⟨g1,ec,g2,g3,g4,g5,g6⟩=>?_) fun g=>g;exact⟨g1,ec,oY (iF hi (fun _ _=>rfl) t) g2,g3,g4,g5,by simp⟩
     |some n=>
      have hv:(lf.aO s.l n).length<=s.l.length:=by simp[lf,aO];omega
      refine⟨by show(lf.aO s.l n).length<=cC;omega,fun hn=>?_,fun hn=>?_⟩
      ·show s.l.take n=[];rw[h4 hn];simp
      ·rw[dx];refine(h5 hn).imp (fun⟨g1,ec,g2,g3,g4,g5,g6⟩=>?_) fun g=>⟨g.1,(by show s.l.take n=[];rw[g.2.1];simp),g.2.2⟩;have hw:=pS g2;have hk:min n s.l.length<=s.l.length:=Nat.min_le_right _ _;have hl:=(wC (min n s.l.length) hk g2).1;have hy:s.l.take (min n s.l.length)=s.l.take n:=by
        rcases Nat.le_total n s.l.length with h|h
        ·rw[Nat.min_eq_left h]
        ·rw[Nat.min_eq_right h,List.take_length,jl h]
       rw[hy] at hl;refine⟨g1,ec.take (min n s.l.length*aN t),oY (iF hi (fun _ _=>rfl) t) hl,Ld _ g3,g4,fun _=>?_,by simp⟩;obtain⟨cz,el,lo,hf,k1,k2,k3⟩:=g5 rfl;have hA:(lf.aO s.l n).length*aN t<=s.l.length*aN t:=Nat.mul_le_mul_right _ hv;exact⟨cz,el,lo,hf,k1,by show _+(lf.aO s.l n).length*aN t<=_;omega,by show hf<=lo\/hf<=_\/_+(lf.aO s.l n).length*aN t<=lo;omega⟩
    ·rw[e] at ho;rw[e'];obtain⟨es,clock,h3,h4⟩:=ho;exact⟨es,clock,by rw[dx];exact h3,Fe (tu hi (fun _ _=>rfl) _) (tu hi (fun _ _=>rfl) _) h4⟩
    ·rw[e] at ho;rw[e'];obtain⟨s,n,h3,h4⟩:=ho;exact⟨s,n,by rw[dx];exact h3,h4⟩
  ·rw[h.none i om];trivial
 ·obtain⟨_,a1,a2⟩:=h.Gq hq;obtain⟨_,b1,b2⟩:=h.Gq hu;have:=hm.inj _ _ a2 b2 e;have ra:=(h.aS a1).2.2;have rb:=(h.aS b1).2.2;rw[this,rb] at ra;injection ra with ra;exact ra.symm
 ·obtain⟨_,a1,a2⟩:=h.Gq hx;obtain⟨s1,s2⟩:=hm.sep _ a2;refine⟨s1,?_⟩;rintro(hz|⟨id,e1,e2,_,e4⟩)
  ·exact s2 hz
  ·have:=hm.inj _ _ e1 a2 e2;exact e4 ⟨i,hx,this.symm⟩
 ·rcases hb with hb|⟨id,e1,e2,_⟩
  ·exact hm.xs b hb
  ·exact e2▸(hm.sep id e1).1
 ·by_cases hj:i<k
  ·rcases h.kind hj with hd|⟨cE,h1,h2⟩
   ·rw[hd];trivial
   ·have dx:fg φ psF i=φ cE:=by unfold fg;rw[(h.aS h1).2.1]
    have he:=hm.u0 cE;rcases h2 with ⟨l,cs,BX,xG,f,r,c,e,hp,hM,e'⟩|⟨t,ver,s,e,e'⟩|⟨_,_,m,e,e'⟩|⟨_,_,e,e'⟩
    ·rw[e] at he;rw[e',dx];exact fun hs=>he (z4n hp hs)
    ·rw[e] at he;rw[e',dx];refine fun ht hn=>he ht ?_;cases hc:iJ cE psF.cut<;>rw[hc] at hn<;>exact hn
    ·rw[e'];trivial
    ·rw[e'];trivial
  ·rw[h.none i om];trivial
 ·obtain⟨a,cs,h1,h2,h3,h4,h5⟩:=hm.fC g t x hg;exact⟨a,cs,h1,h2,hi _ h3,iF hi (fun _ _=>rfl) _ _ _ h4,h5⟩
end
theorem qt{β:Type}(n:Nat)(k:Nat->β):lP n k=k n:=by cases n<;>rfl
mutual
theorem Lq{β:Type}:∀(v:V) (k:V->β),nZ v k=k v
 |.d t x,k=>rfl
 |.cR id ver,k=>by simp only[nZ,qt]
 |.pre id ver n c,k=>by simp only[nZ,qt]
 |.ptr id off,k=>by simp only[nZ,qt]
 |.lh ..,k=>rfl
 |.ref ..,k=>rfl
 |.rr ..,k=>rfl
 |.gU,k=>rfl
 |.fn f l,k=>by simp only[nZ,qt,JN]
 |.gB,k=>rfl
 |.gV l,k=>by simp only[nZ,JN]
 |.agg l,k=>by simp only[nZ,JN]
 |.mp _,k=>rfl
 |.jR,k=>rfl
 |.ll,k=>rfl
 |.Of,k=>rfl
 |.eQ,k=>rfl
 |.lb _,k=>rfl
 |.undef,k=>rfl
 |.bP,k=>rfl
 |.iH id b,k=>by simp only[nZ,qt]
 |.iI id ver lo,k=>by simp only[nZ,qt]
 |.it _,k=>rfl
 |.Oe ..,k=>rfl
 |.fa ..,k=>rfl
theorem JN{β:Type}:∀(l:List V) (k:List V->β),E5 l k=k l
 |[],k=>rfl
 |v::l,k=>by simp only[E5,Lq,JN]
end
theorem z34{β:Type}(x:Obj)(k:Obj->β):KV x k=k x:=by cases x<;>simp only[KV,JN,qt]
theorem SI{β:Type}:∀(u:List (Nat×Obj)) (o:Nat->Obj) (k:(Nat->Obj)->β),KW o u k=k (ar o u)
 |[],_,_=>rfl
 |(i,x)::r,o,k=>by simp only[KW,qt,z34,SI r];rfl
theorem Lr{β:Type}{fr:Nat}:∀(u:List (Nat×Obj)) (o:Nat->Obj) (k:(Nat->Obj)->Option β) (y:β),qI fr o u k=some y->k (ar o u)=some y/\kC fr o u
 |[],o,k,y,h=>⟨h,(fun p hp=>by cases hp)⟩
 |(i,x)::r,o,k,y,h=>by
  simp only[qI,qt,z34] at h;have next:∀(hc:fr<=i->i<fr+16->o i=.none),qI fr (cV o i x) r k=some y->k (ar o ((i,x)::r))=some y/\kC fr o ((i,x)::r):=by
   intro hc h;obtain⟨h1,h2⟩:=Lr r _ _ _ h;refine⟨h1,fun p hp g1 g2=>?_⟩;rcases zu.1 hp with rfl|hp
   ·exact hc g1 g2
   ·by_cases e:p.1=i
    ·rw[e] at g1 g2 ⊢;exact hc g1 g2
    ·have:=h2 p hp g1 g2
     rwa [o6 e] at this
  cases hb:(Nat.ble fr i&&Nat.blt i (fr+16)) with
  |true=>
   rw[hb] at h;simp only[cond_true] at h;split at h
   ·rename_i e;exact next (fun _ _=>e) h
   ·cases h
  |false=>
   rw[hb] at h;simp only[cond_false] at h;refine next (fun g1 g2=>?_) h
   have:(Nat.ble fr i&&Nat.blt i (fr+16))=true:=by rw[zd];exact⟨Nat.ble_eq▸g1,(Nat.ble_eq▸g2:Nat.ble (i+1) (fr+16)=true)⟩
   rw[this] at hb;cases hb
mutual
theorem z4o{β:Type}:∀(s:Sh) (k:Sh->β),ny s k=k s
 |.d t,k=>rfl
 |.cR id,k=>by simp only[ny,qt]
 |.ptr id off,k=>by simp only[ny,qt]
 |.ref t,k=>rfl
 |.rr t,k=>rfl
 |.gU,k=>rfl
 |.fn f l,k=>by simp only[ny,qt,JO]
 |.gB,k=>rfl
 |.gV l,k=>by simp only[ny,JO]
 |.agg l,k=>by simp only[ny,JO]
 |.mp id,k=>by simp only[ny,qt]
 |.it id,k=>by simp only[ny,qt]
 |.jR,k=>rfl
 |.ll,k=>rfl
 |.bP,k=>rfl
 |.iH id,k=>by simp only[ny,qt]
 |.iI id,k=>by simp only[ny,qt]
 |.fa _,k=>rfl
theorem JO{β:Type}:∀(l:List Sh) (k:List Sh->β),E6 l k=k l
 |[],k=>rfl
 |v::l,k=>by simp only[E6,z4o,JO]
end
theorem z0l{β:Type}(s:fO)(k:fO->β):RC s k=k s:=by cases s<;>simp only[RC,JO]
theorem qln{β:Type}:∀(l:List fO) (k:List fO->β),OM l k=k l
 |[],_=>rfl
 |s::l,k=>by simp only[OM,z0l,qln l]
theorem Pv{β:Type}(C:Cx)(sk:List Nat)(st:St)(ts:List Nat)(ops:List Oper)(k:Shape->β):Jq C sk st ts ops k=k (Jp C sk st ts ops):=by simp only[Jq,JO,qln]
def jV(sk ts:List Nat)(s:Shape)(c:ai s.aW):St:=⟨KU ts (fill (cK sk) bR s c).1,ar (fun _=>Obj.none) (fill (cK sk) bR s c).2⟩
theorem Pw{β:Type}(sk ts:List Nat)(s:Shape)(c:ai s.aW)(k:St->β):uW sk ts s c k=k (jV sk ts s c):=by simp only[uW,JN,SI];rfl
section
variable {C:Cx} {X:Nat→Prop} {φ φ':Nat→Addr} {o oc:Nat→Obj} {w:World} {imm:Nat→Prop} {ρ κ:Nat→Nat}
theorem SJ(ρ κ Gs Gt:Nat->Nat)(s:Sh):∀r c,(lM ρ κ s r c).2=(lM Gs Gt s r c).2:=by
 refine Sh.rec (motive_1:=fun s=>∀r c,(lM ρ κ s r c).2=(lM Gs Gt s r c).2) (motive_2:=fun l=>∀r c,(fw ρ κ l r c).2=(fw Gs Gt l r c).2)
  ?_ ?_ ?_ ?_ ?_ ?_ ?_ ?_ ?_ ?_ ?_ ?_ ?_ ?_ ?_ ?_ ?_ ?_ ?_ ?_ s
 ·exact fun t r c=>rfl
 ·exact fun i r c=>rfl
 ·exact fun i off r c=>rfl
 ·exact fun t r c=>rfl
 ·exact fun r c=>rfl
 ·exact fun f l ih r c=>ih r c
 ·exact fun r c=>rfl
 ·exact fun l ih r c=>ih r c
 ·exact fun l ih r c=>ih r c
 ·exact fun i r c=>rfl
 ·exact fun r c=>rfl
 ·exact fun r c=>rfl
 ·exact fun r c=>rfl
 ·exact fun i r c=>rfl
 ·exact fun i r c=>rfl
 ·exact fun i r c=>rfl
 ·exact fun a r c=>rfl
 ·exact fun t r c=>rfl
 ·exact fun r c=>rfl
 ·intro s l ow ox r c;exact(congrArg (fun q=>(fw ρ κ l r q).2) (ow (jD l r) c)).trans (ox r _)
theorem Ls(ρ κ Gs Gt:Nat->Nat):∀(l:List Sh) r c,(fw ρ κ l r c).2=(fw Gs Gt l r c).2
 |[],_,_=>rfl
 |s::l,r,c=>by exact(congrArg (fun q=>(fw ρ κ l r q).2) (SJ ρ κ Gs Gt s (jD l r) c)).trans (Ls ρ κ Gs Gt l r _)
def Px(κ:Nat):Obj->Obj->Prop
 |.none,_=>True
 |.dead,.dead=>True
 |.box _,.box _=>True
 |.vec t v f s,y=>v=0/\y=.vec t κ f s
 |.map _ _ _,.map _ _ _=>True
 |.iter _ _,.iter _ _=>True
 |_,_=>False
theorem SK(hl:∀i,Px (κ i) (oc i) (o (ρ i)))(dx:∀i,oc i≠.none->oc i≠.dead->φ' (ρ i)=φ i)(s:Sh):∀r c z,ay φ oc imm w (lM cy bR s r c).1 z->ay φ' o imm w (lM ρ κ s r c).1 z:=by
 refine Sh.rec (motive_1:=fun s=>∀r c z,ay φ oc imm w (lM cy bR s r c).1 z->ay φ' o imm w (lM ρ κ s r c).1 z)
  (motive_2:=fun l=>∀r c zs,cd φ oc imm w (fw cy bR l r c).1 zs->cd φ' o imm w (fw ρ κ l r c).1 zs)
  ?_ ?_ ?_ ?_ ?_ ?_ ?_ ?_ ?_ ?_ ?_ ?_ ?_ ?_ ?_ ?_ ?_ ?_ ?_ ?_ s
 ·exact fun t r c z h=>h
 ·intro i r c z h;replace h:ay φ oc imm w (.cR i 0) z:=h;show ay φ' o imm w (.cR (ρ i) (κ i)) z;have h1:=hl i;have h2:=dx i;unfold ay at h ⊢;cases e:oc i<;>rw[e] at h h1 h2
  ·cases e2:o (ρ i)<;>rw[e2] at h1<;>first|exact h1.elim|trivial
  ·rename_i t v fr s;obtain⟨hv,h1⟩:v=0/\o (ρ i)=.vec t (κ i) fr s:=h1;subst hv;rw[h1,h2 (by simp) (by simp)];exact⟨Nat.le_refl _,fun _=>h.2 rfl⟩
  ·cases e2:o (ρ i)<;>rw[e2] at h1<;>first|exact h1.elim|trivial
  ·cases e2:o (ρ i)<;>rw[e2] at h1<;>first|exact h1.elim|trivial
  ·exact h.elim
  ·cases e2:o (ρ i)<;>rw[e2] at h1<;>first|exact h1.elim|trivial
 ·intro i off r c z h;replace h:ay φ oc imm w (.ptr i off) z:=h;show ay φ' o imm w (.ptr (ρ i) off) z;have h1:=hl i;have h2:=dx i;unfold ay at h ⊢;cases e:oc i<;>rw[e] at h h1 h2
  ·cases e2:o (ρ i)<;>rw[e2] at h1<;>first|exact h1.elim|(rw[h2 (by simp) (by simp)];exact h)
  ·rename_i t v fr s;obtain⟨hv,h1⟩:v=0/\o (ρ i)=.vec t (κ i) fr s:=h1;subst hv;rw[h1,h2 (by simp) (by simp)];exact fun _=>h rfl
  ·cases e2:o (ρ i)<;>rw[e2] at h1<;>first|exact h1.elim|(rw[h2 (by simp) (by simp)];exact h)
  ·cases e2:o (ρ i)<;>rw[e2] at h1<;>first|exact h1.elim|trivial
  ·exact h.elim
  ·cases e2:o (ρ i)<;>rw[e2] at h1<;>first|exact h1.elim|(rw[h2 (by simp) (by simp)];exact h)
 ·exact fun t r c z h=>h
 ·exact fun r c z h=>h
 ·exact fun f l ih r c z ⟨cz,h1,h2⟩=>⟨cz,h1,ih _ _ _ h2⟩
 ·exact fun r c z h=>h
 ·exact fun l ih r c z ⟨cz,h1,h2⟩=>⟨cz,h1,ih _ _ _ h2⟩
 ·exact fun l ih r c z ⟨cz,h1,h2⟩=>⟨cz,h1,ih _ _ _ h2⟩
 ·intro i r c z h;replace h:ay φ oc imm w (.mp i) z:=h;show ay φ' o imm w (.mp (ρ i)) z;have h1:=hl i;have h2:=dx i;unfold ay at h ⊢;cases e:oc i<;>rw[e] at h h1 h2
  ·cases e2:o (ρ i)<;>rw[e2] at h1<;>first|exact h1.elim|trivial
  ·rename_i t v fr s;obtain⟨hv,h1⟩:v=0/\o (ρ i)=.vec t (κ i) fr s:=h1;rw[h1];trivial
  ·cases e2:o (ρ i)<;>rw[e2] at h1<;>first|exact h1.elim|(rw[h2 (by simp) (by simp)];exact h)
  ·cases e2:o (ρ i)<;>rw[e2] at h1<;>first|exact h1.elim|trivial
  ·exact h.elim
  ·cases e2:o (ρ i)<;>rw[e2] at h1<;>first|exact h1.elim|trivial
 ·exact fun r c z h=>h
 ·exact fun r c z h=>h
 ·exact fun r c z h=>h
 ·intro i r c z h;replace h:ay φ oc imm w (.iH i c.1) z:=h;show ay φ' o imm w (.iH (ρ i) c.1) z;have h1:=hl i;have h2:=dx i;unfold ay at h ⊢;cases e:oc i<;>rw[e] at h h1 h2
  ·cases e2:o (ρ i)<;>rw[e2] at h1<;>first|exact h1.elim|(rw[h2 (by simp) (by simp)];exact h)
  ·rename_i t v fr s;obtain⟨hv,h1⟩:v=0/\o (ρ i)=.vec t (κ i) fr s:=h1;rw[h1];trivial
  ·cases e2:o (ρ i)<;>rw[e2] at h1<;>first|exact h1.elim|trivial
  ·cases e2:o (ρ i)<;>rw[e2] at h1<;>first|exact h1.elim|trivial
  ·exact h.elim
  ·cases e2:o (ρ i)<;>rw[e2] at h1<;>first|exact h1.elim|trivial
 ·intro i r c z h;replace h:ay φ oc imm w (.iI i 0 c.1) z:=h;show ay φ' o imm w (.iI (ρ i) (κ i) c.1) z;have h1:=hl i;have h2:=dx i;unfold ay at h ⊢;cases e:oc i<;>rw[e] at h h1 h2
  ·cases e2:o (ρ i)<;>rw[e2] at h1<;>first|exact h1.elim|trivial
  ·rename_i t v fr s;obtain⟨hv,h1⟩:v=0/\o (ρ i)=.vec t (κ i) fr s:=h1;subst hv;rw[h1,h2 (by simp) (by simp)];exact⟨Nat.le_refl _,fun _=>h.2 rfl⟩
  ·cases e2:o (ρ i)<;>rw[e2] at h1<;>first|exact h1.elim|trivial
  ·cases e2:o (ρ i)<;>rw[e2] at h1<;>first|exact h1.elim|trivial
  ·exact h.elim
  ·cases e2:o (ρ i)<;>rw[e2] at h1<;>first|exact h1.elim|trivial
 ·intro i r c z h;replace h:ay φ oc imm w (.it i) z:=h;show ay φ' o imm w (.it (ρ i)) z;have h1:=hl i;have h2:=dx i;unfold ay at h ⊢;cases e:oc i<;>rw[e] at h h1 h2
  ·cases e2:o (ρ i)<;>rw[e2] at h1<;>first|exact h1.elim|trivial
  ·rename_i t v fr s;obtain⟨hv,h1⟩:v=0/\o (ρ i)=.vec t (κ i) fr s:=h1;rw[h1];trivial
  ·cases e2:o (ρ i)<;>rw[e2] at h1<;>first|exact h1.elim|trivial
  ·cases e2:o (ρ i)<;>rw[e2] at h1<;>first|exact h1.elim|trivial
  ·exact h.elim
  ·cases e2:o (ρ i)<;>rw[e2] at h1<;>first|exact h1.elim|(rw[h2 (by simp) (by simp)];exact h)
 ·exact fun a r c z h=>h
 ·exact fun t r c z h=>h
 ·exact fun r c z h=>h
 ·intro s l ow ox r c zs ⟨z,zr,e,h1,h2⟩;refine⟨z,zr,e,ow _ _ _ h1,?_⟩;exact(congrArg (fun q=>cd φ' o imm w (fw ρ κ l r q).1 zr) (SJ ρ κ cy bR s (jD l r) c)).mpr (ox _ _ _ h2)
theorem Py(hl:∀i,Px (κ i) (oc i) (o (ρ i)))(dx:∀i,oc i≠.none->oc i≠.dead->φ' (ρ i)=φ i):∀(l:List Sh) r c zs,cd φ oc imm w (fw cy bR l r c).1 zs->cd φ' o imm w (fw ρ κ l r c).1 zs
 |[],_,_,_,h=>h
 |s::l,r,c,zs,⟨z,zr,e,h1,h2⟩=>by refine⟨z,zr,e,SK hl dx s _ _ _ h1,?_⟩;exact(congrArg (fun q=>cd φ' o imm w (fw ρ κ l r q).1 zr) (SJ ρ κ cy bR s (jD l r) c)).mpr (Py hl dx l _ _ _ h2)
end
theorem qlo{o:Nat->Obj}{psF:PS}:∀(l:List fO) (i:Nat) (os:List (Nat×Obj)) (o':Nat->Obj),SD o psF i l os->(∀j sh,l[j]?=some sh->CI o psF (i+j) sh (ar o' os (i+j)))/\(∀j,(j<i\/i+l.length<=j)->ar o' os j=o' j)
 |[],i,os,o',h=>by have h:os=[]:=h;subst h;exact⟨fun j sh hj=>by simp at hj,fun j _=>rfl⟩
 |s::l,i,os,o',⟨ob,r,e,h1,h2⟩=>by
  subst e;obtain⟨a1,a2⟩:=qlo l (i+1) r (cV o' i ob) h2;refine⟨fun j sh hj=>?_,fun j hj=>?_⟩
  ·cases j with
   |zero=>simp only[List.getElem?_cons_zero,zK] at hj;subst hj;show CI o psF i s (ar (cV o' i ob) r i);rw[a2 i (.inl om),eY];exact h1
   |succ j=>have:=a1 j sh (by simpa using hj);rw[show i+1+j=i+(j+1) by omega] at this;exact this
  ·show ar (cV o' i ob) r j=o' j;simp only[zw] at hj;rw[a2 j om,o6 om]
def bB(s:Shape)(c:ai s.aW):Nat->Obj:=ar (fun _=>Obj.none) (fill cy bR s c).2
theorem Gu{o:Nat->Obj}{aS:List (Nat×Nat)}{s:Shape}{vs:List V}{ps:PS}{c:ai s.aW}(h:pack lf o aS s vs=some (ps,c)):bS o ps s.aB.length s.aB (bB s c)/\∃lR f,nY lf o s.roots vs ⟨aS,[],[],[]⟩=some (lR,f)/\eV lR ps/\∃q,c=f _ q:=by
 unfold pack at h;split at h
 ·rename_i lR f h1;split at h
  ·rename_i Fk g h2;cases hb:FW s.aB.length Fk with
   |false=>rw[hb] at h;cases h
   |true=>
    rw[hb] at h;injection h with h;injection h with h3 h4;subst h3;obtain⟨m1,e1⟩:=JL s.roots _ _ _ _ h1;obtain⟨m2,e2⟩:=JM (psF:=Fk) s.aB 0 _ _ _ h2;have he:=e2 (.refl _) [] ();have hc:bB s c=ar (fun _=>Obj.none) (gE cy bR 0 s.aB [] (g [] ())):=by unfold bB fill;simp only;rw[<-h4,e1]
    obtain⟨a1,a2⟩:=qlo _ _ _ (fun _=>Obj.none) he;refine⟨⟨hb,rfl,fun i sh hi=>?_,fun i hi=>?_⟩,lR,f,h1,m2,_,h4.symm⟩
    ·have:=a1 i sh hi;rw[zN] at this;rw[hc];exact this
    ·rw[hc];exact a2 i (.inr om)
  ·cases h
 ·cases h
theorem Lt{C:Cx}{X:Nat->Prop}{φ:Nat->Addr}{o:Nat->Obj}{w:World}(hm:MRel C X φ o w){aS:List (Nat×Nat)}{s:Shape}{vs:List V}{zs:List Value}{ps:PS}{c:ai s.aW}(h:pack lf o aS s vs=some (ps,c))(hr:cd φ o (ah X φ o w) w vs zs):MRel C (XC X φ o (bB s c) ps) (fg φ ps) (bB s c) w/\cd (fg φ ps) (bB s c) (ah (XC X φ o (bB s c) ps) (fg φ ps) (bB s c) w) w (fill cy bR s c).1 zs:=by obtain⟨hp,lR,f,h1,h2,q,h3⟩:=Gu h;refine⟨hp.mem hm,?_⟩;have:=SH hm hp s.roots _ _ _ _ _ hr h1 h2 _ q;rw[<-h3] at this;exact this
def iP(sk:List Nat):Prop:=∃inv:Nat->Nat,∀j,inv (cK sk j)=j
theorem iP.inj{sk:List Nat}(h:iP sk):∀i j,cK sk i=cK sk j->i=j:=fun i j e=>by obtain⟨inv,h⟩:=h;rw[<-h i,<-h j,e]
theorem fR{j:Nat}:∀{l:List Nat},bM j l=true↔j∈l
 |[]=>⟨fun h=>(by cases h),fun h=>(by cases h)⟩
 |b::r=>by
  simp only[bM];cases hb:Nat.beq b j with
  |true=>have:=zh hb;subst this;simp
  |false=>
   have hc:b≠j:=fun e=>by rw[e,Nat.beq_refl] at hb;cases hb
   rw[cond_false,fR (l:=r),zu];exact⟨.inr,fun h=>h.resolve_left fun e=>hc e.symm⟩
theorem qaq{k:Nat}:∀{sk:List Nat},Jg k sk=true->(∀id,id∈sk->id<k/\id<1000000)/\sk.Nodup
 |[],_=>⟨fun id h=>(by cases h),List.nodup_nil⟩
 |b::r,h=>by
  simp only[Jg,zd,Nat.blt_eq] at h;obtain⟨⟨⟨h1,h2⟩,h3⟩,h4⟩:=h;obtain⟨g1,g2⟩:=qaq h4;refine⟨fun id hi=>?_,List.nodup_cons.2 ⟨fun hm=>?_,g2⟩⟩
  ·rcases zu.1 hi with rfl|hi
   ·exact⟨h1,h2⟩
   ·exact g1 id hi
  ·rw[fR.2 hm] at h3;cases h3
theorem qw5{k:Nat}{sk:List Nat}(h:Jg k sk=true):iP sk:=by
 obtain⟨g1,g2⟩:=qaq h;have inj:∀i j,cK sk i=cK sk j->i=j:=fun i j e=>by
  unfold cK at e;split at e
  ·rename_i a ha;split at e
   ·rename_i b hb;subst e;obtain⟨hi,ea⟩:=zB.1 ha;obtain⟨hj,eb⟩:=zB.1 hb;exact(List.getElem_inj (h₀:=hi) (h₁:=hj) g2).1 (by rw[ea,eb])
   ·have:=(g1 a (zj ha)).2;omega
  ·split at e
   ·rename_i b hb;have:=(g1 b (zj hb)).2;omega
   ·omega
 refine⟨fun id=>by
  classical
  exact if h:∃j,cK sk j=id then h.choose else 0,fun j=>?_⟩
 have hx:∃i,cK sk i=cK sk j:=⟨j,rfl⟩;simp only[dif_pos hx];exact inj _ _ hx.choose_spec
theorem qsq:iP []:=⟨fun id=>id-1000000,fun j=>by simp[cK]⟩
theorem qlp:∀{sk:List Nat} {n i id:Nat},sk[i]?=some id->(n+i,id)∈ti n sk
 |[],_,i,_,h=>by simp at h
 |b::r,n,i,id,h=>by
  cases i with
  |zero=>simp only[List.getElem?_cons_zero,zK] at h;subst h;exact zf ..
  |succ i=>have:=qlp (n:=n+1) (i:=i) (by simpa using h);rw[show n+1+i=n+(i+1) by omega] at this;exact zg _ this
theorem SL:∀{sk:List Nat} {id:Nat},id∈sk->(id,id)∈Oo sk
 |b::r,id,h=>by
  rcases zu.1 h with rfl|h
  ·exact zf ..
  ·exact zg _ (SL h)
theorem Pz{o:Nat->Obj}:∀{sk:List Nat},wk o sk=true->∀id,id∈sk->On o id=true
 |b::r,h,id,hi=>by
  simp only[wk,zd] at h;rcases zu.1 hi with rfl|hi
  ·exact h.1
  ·exact Pz h.2 id hi
theorem PA{cut:List (Nat×Nat)}:∀{sk:List Nat},Jf cut sk=true->∀id,id∈sk->iJ id cut=none
 |b::r,h,id,hi=>by
  simp only[Jf,zd] at h;rcases zu.1 hi with rfl|hi
  ·exact Pt h.1
  ·exact PA h.2 id hi
theorem PB{sk:List Nat}{aS:List (Nat×Nat)}{o:Nat->Obj}{s:Shape}{vs:List V}{p:PS×ai s.aW}(h:F1 lf sk aS o s vs=some p):pack lf o aS s vs=some p/\wk o sk=true/\Jf p.1.cut sk=true:=by
 unfold F1 at h;split at h
 ·rename_i q e;cases hb:(wk o sk&&Jf q.1.cut sk) with
  |false=>rw[hb] at h;cases h
  |true=>rw[hb,cond_true] at h;injection h with h;subst h;rw[zd] at hb;exact⟨e,hb⟩
 ·cases h
theorem SM{o:Nat->Obj}{aS:List (Nat×Nat)}{s:Shape}{vs:List V}{ps:PS}{c:ai s.aW}(h:pack lf o aS s vs=some (ps,c)):∀p,p∈aS->p∈ps.aS:=by obtain⟨_,lR,f,h1,h2,_⟩:=Gu h;exact fun p hp=>h2.aS p ((JL s.roots _ _ _ _ h1).1.aS p hp)
theorem SO{φ:Nat->Addr}{o oc:Nat->Obj}{w:World}{psF:PS}{k:Nat}{aB:List fO}(h:bS o psF k aB oc){i id:Nat}(hp:(i,id)∈psF.aS)(hk:On o id=true)(hc:iJ id psF.cut=none):Up w w (φ id) (fg φ psF i) (o id) (oc i):=by
 rcases BY (φ:=φ) h hp with hd|⟨⟨cs,lB,e1,e2⟩|⟨t',ver,s,e1,e2⟩|⟨k,v,m,e1,e2⟩|⟨_,_,e1,e2⟩,dx⟩
 ·rw[hd];cases o id<;>trivial
 ·rw[e1,e2];exact dx
 ·rw[e1,e2,hc];unfold On at hk;rw[e1] at hk;have hv:ver=0:=zh hk;exact .inr ⟨hv,rfl,rfl,rfl,dx,fun _=>⟨rfl,fun _ _ n hr=>hr⟩⟩
 ·rw[e1,e2];exact dx
 ·rw[e1,e2];exact dx
def SP(ρ:Nat->Nat)(a b:Obj):Prop:=(∃l r c,a=.box (fw cy bR l r c).1/\b=.box (fw ρ bR l r c).1)\/(a=b/\∀cs,a≠.box cs)
theorem qw6(ρ:Nat->Nat)(i:Nat)(s:fO)(r:List Ty)(c:ai (Jd s r)):SP ρ (fx cy bR i s r c).1 (fx ρ bR i s r c).1/\(fx ρ bR i s r c).2=(fx cy bR i s r c).2:=by
 cases s with
 |box l=>exact⟨.inl ⟨l,r,c,rfl,rfl⟩,Ls ρ bR cy bR l r c⟩
 |vec t=>exact⟨.inr ⟨rfl,fun _ h=>by cases h⟩,rfl⟩
 |map k v=>exact⟨.inr ⟨rfl,fun _ h=>by cases h⟩,rfl⟩
 |iter=>exact⟨.inr ⟨rfl,fun _ h=>by cases h⟩,rfl⟩
 |gone=>exact⟨.inr ⟨rfl,fun _ h=>by cases h⟩,rfl⟩
theorem qhd(ρ:Nat->Nat)(cG:∀i j,ρ i=ρ j->i=j):∀(l:List fO) (i:Nat) (r:List Ty) (c:ai (bY l r)) (o1 o2:Nat->Obj),(∀j,i<=j->j<i+l.length->SP ρ (ar o1 (gE cy bR i l r c) j) (ar o2 (gE ρ bR i l r c) (ρ j)))/\(∀j,(j<i\/i+l.length<=j)->ar o1 (gE cy bR i l r c) j=o1 j)/\(∀id,(∀j,i<=j->j<i+l.length->ρ j≠id)->ar o2 (gE ρ bR i l r c) id=o2 id)
 |[],i,r,c,o1,o2=>⟨fun j h1 h2=>absurd h2 (by simp;omega),fun _ _=>rfl,fun _ _=>rfl⟩
 |s::l,i,r,c,o1,o2=>by
  obtain⟨e1,e2⟩:=qw6 ρ i s (bY l r) c;obtain⟨a1,a2,a3⟩:=qhd ρ cG l (i+1) r (fx cy bR i s (bY l r) c).2 (cV o1 i (fx cy bR i s (bY l r) c).1) (cV o2 (ρ i) (fx ρ bR i s (bY l r) c).1);have f1:∀j,ar o1 (gE cy bR i (s::l) r c) j=ar (cV o1 i (fx cy bR i s (bY l r) c).1) (gE cy bR (i+1) l r (fx cy bR i s (bY l r) c).2) j:=fun _=>rfl;have f2:∀id,ar o2 (gE ρ bR i (s::l) r c) id=ar (cV o2 (ρ i) (fx ρ bR i s (bY l r) c).1) (gE ρ bR (i+1) l r (fx cy bR i s (bY l r) c).2) id:=fun id=>(congrArg (fun q=>ar (cV o2 (ρ i) (fx ρ bR i s (bY l r) c).1) (gE ρ bR (i+1) l r q) id) e2);refine⟨fun j h1 h2=>?_,fun j hj=>?_,fun id hc=>?_⟩
  ·rw[f1,f2];simp only[zw] at h2;by_cases he:j=i
   ·subst he;rw[a2 j (.inl om),a3 (ρ j) (fun q hq _ e=>by have:=cG _ _ e;omega),eY,eY];exact e1
   ·exact a1 j om om
  ·rw[f1];simp only[zw] at hj;rw[a2 j om,o6 om]
  ·rw[f2];simp only[zw] at hc;rw[a3 id (fun q h1 h2=>hc q om om),o6];exact fun e=>hc i (Nat.le_refl _) om e.symm
section
variable {C:Cx} {X:Nat→Prop} {φ:Nat→Addr} {w:World} {s:Shape} {c:ai s.aW} {sk:List Nat} {inv:Nat→Nat}
theorem z35(hc:∀i j,cK sk i=cK sk j->i=j)(ts:List Nat)(s:Shape)(c:ai s.aW):(∀j,j<s.aB.length->SP (cK sk) (bB s c j) ((jV sk ts s c).obj (cK sk j)))/\(∀j,s.aB.length<=j->bB s c j=.none)/\(∀id,(∀j,j<s.aB.length->cK sk j≠id)->(jV sk ts s c).obj id=.none):=by
 obtain⟨a1,a2,a3⟩:=qhd (cK sk) hc s.aB 0 [] (fw cy bR s.roots (bY s.aB []) c).2 (fun _=>.none) (fun _=>.none);have e:(jV sk ts s c).obj=ar (fun _=>.none) (gE (cK sk) bR 0 s.aB [] (fw cy bR s.roots (bY s.aB []) c).2):=congrArg (fun q=>ar (fun _=>Obj.none) (gE (cK sk) bR 0 s.aB [] q)) (Ls (cK sk) bR cy bR s.roots (bY s.aB []) c);refine⟨fun j hj=>?_,fun j hj=>a2 j (.inr om),fun id he=>?_⟩
 ·rw[e];exact a1 j (Nat.zero_le _) om
 ·rw[e];exact a3 id (fun j _ hj=>he j om)
theorem qhe(ρ:Nat->Nat):∀(l:List fO) (i:Nat) (r:List Ty) (c:ai (bY l r)) (o:Nat->Obj),(∀j t v f s,o j=.vec t v f s->v=0)->∀j t v f s,ar o (gE ρ bR i l r c) j=.vec t v f s->v=0
 |[],i,r,c,o,h=>h
 |s::l,i,r,c,o,h=>by
  refine qhe ρ l (i+1) r (fx ρ bR i s (bY l r) c).2 (cV o (ρ i) (fx ρ bR i s (bY l r) c).1) ?_;intro j t v f s' e;by_cases hj:j=ρ i
  ·subst hj;rw[eY] at e;cases s with
   |box l=>cases e
   |map k v=>cases e
   |gone=>cases e
   |iter=>cases e
   |vec t=>injection e with _ e;exact e.symm
  ·rw[o6 hj] at e;exact h _ _ _ _ _ e
theorem qql{s:Shape}{c:ai s.aW}{j:Nat}{t:Ty}{v:Nat}{f:Bool}{x:Sl (den t)}(h:bB s c j=.vec t v f x):v=0:=qhe cy s.aB 0 [] _ (fun _=>.none) (fun _ _ _ _ _ e=>by cases e) j t v f x h
theorem qhf(ρ κ:Nat->Nat):∀(l:List Sh) (r:List Ty) (c:ai (jD l r)),pP (fw ρ κ l r c).1=pP (fw cy bR l r c).1
 |[],_,_=>rfl
 |s::l,r,c=>by show pP ((lM ρ κ s (jD l r) c).1::_)=pP ((lM cy bR s (jD l r) c).1::_);cases s<;>rfl
theorem z6q(hf:∀j,inv (cK sk j)=j)(ts:List Nat)(hm:MRel C X φ (bB s c) w):MRel C X (fun id=>φ (inv id)) (jV sk ts s c).obj w/\(∀b,qJ (fun id=>φ (inv id)) (jV sk ts s c).obj b↔qJ φ (bB s c) b)/\(∀zs,cd φ (bB s c) (ah X φ (bB s c) w) w (fill cy bR s c).1 zs->cd (fun id=>φ (inv id)) (jV sk ts s c).obj (ah X (fun id=>φ (inv id)) (jV sk ts s c).obj w) w (fill (cK sk) bR s c).1 zs):=by
 obtain⟨a1,a2,a3⟩:=z35 (fun i j e=>by rw[<-hf i,<-hf j,e]) ts s c;generalize ho:(jV sk ts s c).obj=o at*
 have dx:∀j,(fun id=>φ (inv id)) (cK sk j)=φ j:=fun j=>by simp only[hf]
 have ht:∀j a,j<s.aB.length->aX a (o (cK sk j))=aX a (bB s c j):=fun j a hj=>by
  rcases a1 j hj with ⟨l,r,q,e1,e2⟩|⟨e1,_⟩
  ·rw[e1,e2];rfl
  ·rw[e1]
 have hq:∀id,(∃j,j<s.aB.length/\cK sk j=id)\/o id=.none:=fun id=>by
  by_cases h:∃j,j<s.aB.length/\cK sk j=id
  ·exact .inl h
  ·exact .inr (a3 id fun j hj e=>h ⟨j,hj,e⟩)
 have hB:∀j a,aX a (bB s c j)=true->j<s.aB.length:=fun j a hx=>zP fun h=>by rw[a2 j om] at hx;exact nf hx
 have hu:∀b,qJ (fun id=>φ (inv id)) o b↔qJ φ (bB s c) b:=fun b=>by
  constructor
  ·rintro⟨id,e1,e2⟩;rcases hq id with ⟨j,hj,rfl⟩|h
   ·simp only[hf] at e1;exact⟨j,by rw[<-ht j _ hj];exact e1,by rw[<-dx j];exact e2⟩
   ·rw[h] at e1;exact(nf e1).elim
  ·rintro⟨j,e1,e2⟩;exact⟨cK sk j,by simp only[hf];rw[ht j _ (hB j _ e1)];exact e1,by rw[dx];exact e2⟩
 have hy:∀b,ah X φ (bB s c) w b↔ah X (fun id=>φ (inv id)) o w b:=fun b=>by unfold ah;rw[hu b]
 have hA:∀i,Px (bR i) (bB s c i) (o (cK sk i)):=fun i=>by
  by_cases hi:i<s.aB.length
  ·rcases a1 i hi with ⟨l,r,q,e1,e2⟩|⟨e1,e2⟩
   ·rw[e1,e2];trivial
   ·rw[<-e1];cases hc:bB s c i with
    |vec t v f s'=>exact⟨qql hc,by rw[qql hc]⟩
    |box cs=>exact absurd hc (e2 _)
    |map k v m=>trivial
    |dead=>trivial
    |none=>trivial
    |iter l p=>trivial
  ·rw[a2 i om];trivial
 have hv:(fun b=>ah X φ (bB s c) w b)=ah X (fun id=>φ (inv id)) o w:=funext fun b=>propext (hy b);have hk:ah X φ (bB s c) w=ah X (fun id=>φ (inv id)) o w:=hv;refine⟨⟨fun id=>?_,fun i j hi hj e=>?_,fun i hi=>?_,hm.xs,fun id=>?_,fun g t x hg=>?_,hm.Jy⟩,hu,fun zs hz=>?_⟩
 ·rcases hq id with ⟨j,hj,rfl⟩|h
  ·have hl:=hm.aB j;rcases a1 j hj with ⟨l,r,q,e1,e2⟩|⟨e1,e2⟩
   ·rw[e1] at hl;rw[e2];obtain⟨h1,cz,el,lo,hw,h2,h3,h4⟩:=hl;refine⟨by rw[dx];exact h1,cz,el,lo,hw,by rw[dx];exact h2,h3,?_⟩;rw[hk] at h4;exact Py (φ':=fun id=>φ (inv id)) hA (fun i _ _=>dx i) l r q _ h4
   ·rw[<-e1];cases hc:bB s c j with
    |box cs=>exact absurd hc (e2 _)
    |dead=>trivial
    |none=>trivial
    |map k v m=>rw[hc] at hl;obtain⟨es,clock,h1,h2⟩:=hl;rw[hk] at h2;exact⟨es,clock,by rw[dx];exact h1,h2⟩
    |iter l p=>rw[hc] at hl;obtain⟨s',n,h1,h2⟩:=hl;exact⟨s',n,by rw[dx];exact h1,h2⟩
    |vec t ver fr sl=>rw[hc] at hl;obtain⟨h1,h2,h3⟩:=hl;rw[hk] at h3;refine⟨h1,h2,fun hn=>?_⟩;rw[dx];exact h3 hn
  ·rw[h];trivial
 ·rcases hq i with ⟨i',hw,rfl⟩|h
  ·rcases hq j with ⟨j',hC,rfl⟩|h
   ·have hr:∀j,inv (cK sk j)=j:=hf;simp only[hr] at e hi hj;rw[hm.inj i' j' (by rw[<-ht i' _ hw];exact hi) (by rw[<-ht j' _ hC];exact hj) e]
   ·rw[h] at hj;exact(nf hj).elim
  ·rw[h] at hi;exact(nf hi).elim
 ·rcases hq i with ⟨i',hw,rfl⟩|h
  ·have hr:∀j,inv (cK sk j)=j:=hf;simp only[hr] at hi ⊢;exact hm.sep i' (by rw[<-ht i' _ hw];exact hi)
  ·rw[h] at hi;exact(nf hi).elim
 ·rcases hq id with ⟨j,hj,rfl⟩|h
  ·have he:=hm.u0 j;show iL C w (φ (inv (cK sk j))) (o (cK sk j));rw[hf];rcases a1 j hj with ⟨l,r,q,e1,e2⟩|⟨e1,e2⟩
   ·rw[e1] at he;rw[e2];exact fun hs=>he (by rw[<-qhf (cK sk) bR];exact hs)
   ·rw[<-e1];exact he
  ·rw[h];trivial
 ·obtain⟨a,cs,h1,h2,h3,h4,h5⟩:=hm.fC g t x hg;rw[hk] at h3 h4;exact⟨a,cs,h1,h2,h3,h4,h5⟩
 ·rw[hk] at hz;exact Py (φ':=fun id=>φ (inv id)) hA (fun i _ _=>dx i) s.roots _ _ _ hz
theorem qw7{φ:Nat->Addr}{o:Nat->Obj}{imm:Nat->Prop}{g:Nat->Value}:∀(ts:List Nat) (vs:List V),cd φ o imm w vs (ts.map g)->∀t,ay φ o imm w (KU ts vs t) (g t)
 |[],_,_,_=>by cases ‹List V›<;>trivial
 |t'::ts,vs,h,t=>by
  cases vs with
  |nil=>trivial
  |cons v vs=>
   obtain⟨z,r,e,h1,h2⟩:=h;injection e with e1 e2;show ay φ o imm w (cV (KU ts vs) t' v t) (g t);by_cases ht:t=t'
   ·subst ht;rw[eY,e1];exact h1
   ·rw[o6 ht];exact qw7 ts vs (e2▸h2) t
end
structure cS (sk:List Nat) (dL:Nat->Addr) (o0:Nat->Obj) (w0:World) (φ:Nat->Addr) (o:Nat->Obj) (w:World):Prop where
 size:w0.heap.size<=w.heap.size
 frame:∀b,b<w0.heap.size->¬qJ dL o0 b->w.heap[b]?=w0.heap[b]?
 news:∀b,qJ φ o b->w0.heap.size<=b\/qJ dL o0 b
 still:CB w0 w
 up:∀id,id∈sk->Up w0 w (dL id) (φ id) (o0 id) (o id)
theorem cS.refl(sk:List Nat)(dL:Nat->Addr)(o0:Nat->Obj)(w0:World):cS sk dL o0 w0 dL o0 w0:=⟨Nat.le_refl _,fun _ _ _=>rfl,fun _ h=>.inr h,⟨rfl,rfl⟩,fun _ _=>Up.same fun _ _ h=>h⟩
theorem cS.step{C:Cx}{X:Nat->Prop}{dL φ φ':Nat->Addr}{o0 o:Nat->Obj}{w0 w w':World}{u:List (Nat×Obj)}{v:V}{z:Value}{sk:List Nat}(h:cS sk dL o0 w0 φ o w)(hc:Comes C X φ φ' o u w w' v z):cS sk dL o0 w0 φ' (ar o u) w':=by
 refine⟨Nat.le_trans h.size hc.size,fun b hb hn=>?_,fun b ⟨id,e1,e2⟩=>?_,⟨hc.still.1.trans h.still.1,hc.still.2.trans h.still.2⟩,fun id hi=>(h.up id hi).trans (hc.up id)⟩
 ·rw[hc.frame b (Nat.lt_of_lt_of_le hb h.size),h.frame b hb hn];rintro⟨id,_,e1,e2⟩;rcases h.news b ⟨id,e1,e2⟩ with h1|h1
  ·omega
  ·exact hn h1
 ·rcases hc.news id e1 with h1|h1
  ·exact .inl (by have:=h.size;omega)
  ·rw[e2] at h1;exact h.news b h1
theorem Lu{C:Cx}{nt:Fr}{X:Nat->Prop}{φ dL:Nat->Addr}{o0:Nat->Obj}{w0:World}{st:St}{a:Act}{w:World}{sk:List Nat}(hj:iP sk)(h:Rel C nt X φ st a w)(hh:cS sk dL o0 w0 φ st.obj w){s:Shape}{ts:List Nat}{ps:PS}{c:ai s.aW}(hp:F1 lf sk (ti 0 sk) st.obj s (ts.map fun t=>dK (st.env t))=some (ps,c)):∃dA X2,(∀b,X b->X2 b)/\Rel C nt X2 dA (jV sk ts s c) a w/\cS sk dL o0 w0 dA (jV sk ts s c).obj w:=by
 obtain⟨hk,hm,he⟩:=PB hp;clear hp;have hp:=hk;clear hk;have hf:=hj.inj;obtain⟨inv,hc⟩:=hj;have hv:cd φ st.obj (ah X φ st.obj w) w (ts.map fun t=>dK (st.env t)) (ts.map fun t=>a.tmps.getD t undef):=by
  clear hp
  induction ts with
  |nil=>rfl
  |cons t ts ih=>exact⟨_,_,rfl,K2 (h.env t),ih⟩
 obtain⟨h1,h2⟩:=Lt h.toMRel hp hv;obtain⟨hg,_⟩:=Gu hp;obtain⟨g1,g2,g3⟩:=z6q hc ts h1;refine⟨_,_,fun b hb=>.inl hb,⟨g1,h.size,fun t=>?_,h.defers⟩,⟨hh.size,hh.frame,fun b hb=>hh.news b (hg.iO ((g2 b).1 hb)),hh.still,fun id hi=>(hh.up id hi).trans ?_⟩⟩
 ·exact qw7 ts _ (g3 _ h2) t
 ·obtain⟨i,hn,hq⟩:=jC.1 hi;have hl:sk[i]?=some id:=by rw[ze hn,hq]
  have e:cK sk i=id:=by unfold cK;rw[hl]
  have hr:(i,id)∈ps.aS:=SM hp _ (by have:=qlp (n:=0) hl;rwa [zN] at this);have hu:=SO (φ:=φ) (w:=w) hg hr (Pz hm id hi) (PA he id hi);have dx:fg φ ps (inv id)=fg φ ps i:=by rw[<-e,hc]
  obtain⟨a1,_⟩:=z35 hf ts s c;have ha:=a1 i (hg.aS hr).1;rw[e] at ha;show Up w w (φ id) (fg φ ps (inv id)) (st.obj id) _;rw[dx];rcases ha with ⟨l,r,q,e1,e2⟩|⟨e1,_⟩
  ·rw[e2];rw[e1] at hu;cases ho:st.obj id<;>rw[ho] at hu<;>exact hu
  ·rw[<-e1];exact hu
end Ev