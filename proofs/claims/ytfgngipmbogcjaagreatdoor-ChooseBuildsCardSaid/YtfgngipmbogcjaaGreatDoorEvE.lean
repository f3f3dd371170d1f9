/- All operations are sound; the frame rule; packing. No statement of its own about the program. -/
import Derived.Test.YtfgngipmbogcjaaGreatDoorEvD
namespace Ev
open Go
section
variable {C:Cx} {X:Nat→Prop} {φ:Nat→Addr} {o:Nat→Obj} {w:World} {imm:Nat→Prop} {R:fI C.sigs} {env:Nat→V} {ρ:Operand→Value}
def dJ(C:Cx)(X:Nat->Prop)(φ:Nat->Addr)(o:Nat->Obj)(w:World)(v:V)(u:List (Nat×Obj))(r:Result Next):Prop:=
 (∃val w' φ',r=.ok (.value val) w'/\Comes C X φ φ' o u w w' v val)\/
 (∃w' φ',r=.ok .skip w'/\Comes C X φ φ' o u w w' v undef)\/
 (∃f args,r=.ok (.enter f args) w/\Calls C.P f args w fun e w'=>∃val φ',e=.returned val/\Comes C X φ φ' o u w w' v val)
theorem dJ.upon{v:V}{u:List (Nat×Obj)}{r:Result Next}(h:dJ C X φ o w v u r){op:Oper}{a:Act}{next:Act->World->Prop}{Q:Exit->Act->World->Prop}(hn:∀val w' φ',Comes C X φ φ' o u w w' v val->next (a.put op.dst val) w'):op.upon C.P a next Q r:=by
 rcases h with ⟨val,w',φ',rfl,hc⟩|⟨w',φ',rfl,hc⟩|⟨f,args,rfl,hc⟩
 ·exact hn _ _ _ hc
 ·exact hn _ _ _ hc
 ·refine Calls.mono hc fun e w' h=>?_;obtain⟨val,φ',rfl,h⟩:=h;exact hn _ _ _ h
theorem dG.bX{v:V}{u:List (Nat×Obj)}{s:Sem Value}(h:dG C X φ o w v u s):dJ C X φ o w v u ((do pure (Next.value (<-s)):Sem Next).run C.P w):=by obtain⟨val,w',φ',h1,h2⟩:=h;exact .inl ⟨val,w',φ',by simp[h1],h2⟩
theorem wZ.bX{v:V}{u:List (Nat×Obj)}{s:Sem Unit}(h:wZ C X φ o w v u s):dJ C X φ o w v u ((do s;pure Next.skip:Sem Next).run C.P w):=by obtain⟨w',φ',h1,h2⟩:=h;exact .inr (.inl ⟨w',φ',by simp[h1],h2⟩)
theorem dJ.same(hm:MRel C X φ o w){v:V}{z:Value}(h:au φ o (ah X φ o w) w v z):dJ C X φ o w v [] (.ok (.value z) w):=.inl ⟨z,w,φ,rfl,.same hm h⟩
theorem qmf{op:BinOp}{t:TypeId}{x y:V}{zx zy:Value}{v:V}{u:List (Nat×Obj)}(hl:∀id,o3 φ o imm w id (o id))(hx:au φ o imm w x zx)(hy:au φ o imm w y zy)(h:(Im lf C o op t x y).gives v u):qj5 zx=true\/(bH t C.eqs=true/\∃xs ys,zx=.agg xs/\zy=.agg ys):=by
 unfold Im at h;split at h
 ·obtain⟨rfl,_⟩:=nG hx;exact .inl rfl
 ·obtain⟨s,rfl,_⟩:=ry hx;exact .inl rfl
 ·have:=J2 hx;subst this;exact .inl rfl
 ·have:=J3 hx;subst this;exact .inl rfl
 ·have:=oz hx;subst this;exact .inl rfl
 ·split at h
  ·rw[dC,zd] at h;obtain⟨xs,rfl,_⟩:=hx;obtain⟨ys,rfl,_⟩:=hy;exact .inr ⟨h.1.1,xs,ys,rfl,rfl⟩
  ·cases h
 ·obtain⟨_,h2⟩:=D1 hx;rcases h2 with ⟨_,_,rfl⟩|⟨_,a,cap,ec,rfl,_⟩<;>exact .inl rfl
 ·have:zx=.slice none 0 0:=hx;subst this;exact .inl rfl
 ·obtain⟨c,rfl,_⟩:=hx;exact .inl rfl
 ·have:zx=.nilFunc:=hx;subst this;exact .inl rfl
 ·rename_i a k n;have hx:vf imm w a k n zx:=hx;rcases NY a hx with ⟨rfl,_⟩|⟨_,_,rfl,_⟩<;>exact .inl rfl
 ·have:zx=.pointer none:=hx;subst this;exact .inl rfl
 ·rw[dC,zd] at h;obtain⟨a,rfl⟩:=QP hx h.1.2;exact .inl rfl
 ·split at h
  ·rename_i e s he;rcases qfj hx he hl with ⟨_,_,rfl⟩|⟨_,a,cap,rfl⟩<;>exact .inl rfl
  ·cases h
 ·cases h
theorem qxw(hE:jI C)(hm:MRel C X φ o w){op:BinOp}{t:TypeId}{x y:Operand}{vx vy:V}{v:V}{u:List (Nat×Obj)}(hx:au φ o (ah X φ o w) w vx (ρ x))(hy:au φ o (ah X φ o w) w vy (ρ y))(h:(Im lf C o op t vx vy).gives v u):dG C X φ o w v u (do eqGuard op t x y (ρ x) (ρ y);binOp op t (ρ x) (ρ y)):=by
 have h1:=qxn hm.ay hx hy (fun t p a b xs ys=>hE.eq w _ t p a b xs ys) h;obtain⟨hu,val,h2,h3⟩:=h1;refine dG.aY hm ⟨hu,val,?_,h3⟩;rcases qmf hm.ay hx hy h with hg|⟨hg,xs,ys,e1,e2⟩
 ·simp[qm2 hg,h2]
 ·rw[e1,e2] at h2 ⊢;simp[run_eqGuard_agg w op t x y xs ys (hE.guard t hg),h2]
theorem IM(cw:∀x,au φ o imm w (bU C env x) (ρ x)):∀(l:List Operand),bW φ o imm w (l.map (bU C env)) (l.map ρ)
 |[]=>rfl
 |x::l=>⟨_,_,rfl,cw x,IM cw l⟩
theorem Rp(cw:∀x,au φ o imm w (bU C env x) (ρ x)):∀(l:List (Nat×Operand)),AI φ o imm w (l.map fun p=>(p.1,bU C env p.2)) (l.map fun p=>(p.1,ρ p.2))
 |[]=>rfl
 |x::l=>⟨_,_,rfl,cw x.2,Rp cw l⟩
theorem Rq(cw:∀x,au φ o imm w (bU C env x) (ρ x))(x:Option Operand):wX φ o imm w (x.map (bU C env)) (x.map ρ):=by
 cases x with
 |none=>trivial
 |some x=>exact cw x
theorem qjr{xs:Array Operand}{ρ:Operand->Value}{l:List Operand}(h:xs.toList=l):xs.map ρ=(l.map ρ).toArray:=by rw[<-h,<-Array.toList_map,Array.toArray_toList]
def rW(l:List Value):Value:=match l with
 |[v]=>v
 |l=>.tuple l.toArray
def ni(t:TypeId)(v:Value):List PanicEntry:=[{v:=.iface t v,recovered:=false}]
def w5(p:Bool)(val:Value)(e:Ending):Prop:=match p with
 |false=>e=.returned val
 |true=>∃z b r,val=.tuple (z::.bool b::r).toArray/\((b=false/\e=.returned (rW r))\/(b=true/\∃t v,e=.panicked (ni t v)))
def rX(C:Cx)(R:fI C.sigs)(X:Nat->Prop)(φ:Nat->Addr)(o:Nat->Obj)(w:World)(fr f:Nat):Prop:=
 ∀(p:Bool) (vs:List V) (zs:List Value) (v:V) (u:List (Nat×Obj)),bW φ o (ah X φ o w) w vs zs->(wm lf C R p o fr f vs C.sigs 0).gives v u->jH fr o u->
  (∃fn,C.P.funcs[f]?=some fn/\(fn.name== "runtime.NumGoroutine")=false/\fn.body.isNone=false)/\
  Calls C.P f zs.toArray w fun e w'=>∃val φ',w5 p val e/\Comes C X φ φ' o u w w' v val
theorem z3i(hm:MRel C X φ o w)(cw:∀x,au φ o (ah X φ o w) w (bU C env x) (ρ x)){fr:Nat}{ty:TypeId}{v:V}{u:List (Nat×Obj)}(x:Operand)(h:(JK C fr ty (bU C env x)).gives v u)(hf:jH fr o u):dJ C X φ o w v u (.ok (.value (ρ x)) w):=by
 have hx:=cw x;unfold JK at h;split at h
 ·rename_i e1;rw[e1] at hx;split at h
  ·rename_i e _;rw[df] at h;obtain⟨rfl,rfl⟩:=h;have hc:o fr=.none:=hf _ (zf ..) (Nat.le_refl _) (by show fr<fr+16;omega);refine .inl ⟨_,w,φ,rfl,Comes.write hm (.vec e 0 false ⟨true,[]⟩) (by simp[aV,live]) rfl (fun _ _=>rfl) (IK hc _) (fun _ _ _=>⟨Nat.zero_le _,fun _=>rfl,fun h=>by simp at h⟩) (fun _ h=>by simp at h) (fun he=>?_)⟩;unfold au;rw[he];exact⟨Nat.le_refl _,fun _=>.inl ⟨rfl,hx⟩⟩
  ·rw[df] at h;obtain⟨rfl,rfl⟩:=h;exact .same hm hx
 ·rw[df] at h;obtain⟨rfl,rfl⟩:=h;exact .same hm hx
theorem z1g(hm:MRel C X φ o w)(cw:∀x,au φ o (ah X φ o w) w (bU C env x) (ρ x)){v:V}{u:List (Nat×Obj)}{c a b:Operand}{dst:Option Tmp}{ty:TypeId}{pos:String}{after:Array Edge}{guard:Option (Nat×Bool)}{fr:Nat}(h:(cT lf C R env o fr ty (.pick c a b)).gives v u):dJ C X φ o w v u ((execOp ρ ⟨dst,.pick c a b,ty,pos,after,guard⟩).run C.P w):=by
 have hc:=cw c;have key:∀x,(Ba C env c=.lb x\/Ba C env c=.d .bool x)->bU C env c=.d .bool x:=by
  intro x h;cases c with
  |tmp t=>show dx (env t)=_;have h:env t=.lb x\/env t=.d .bool x:=h;rcases h with h|h<;>rw[h]<;>rfl
  |const z=>
   rcases h with h|h
   ·exfalso;have h:DR z=.lb x:=h;have hn:∀(b:Bool) (y:V),(∀x,y≠.lb x)->(bif b then y else V.bM)≠.lb x:=by
     intro b y hy;cases b
     ·intro h;cases h
     ·exact hy x
    unfold DR at h;split at h<;>first|exact hn _ _ (fun _ h=>by cases h) h|cases h
   ·exact h
  |global g=>
   rcases h with h|h
   ·exfalso;have h:bU C env (.global g)=.lb x:=h;simp only[bU] at h;split at h<;>cases h
   ·exact h
  |func f=>
   rcases h with h|h
   ·have h:(bif Nat.blt f 1048576 then V.fn f [] else .bM)=.lb x:=h;cases hb:Nat.blt f 1048576<;>rw[hb] at h<;>cases h
   ·have h:(bif Nat.blt f 1048576 then V.fn f [] else .bM)=.d .bool x:=h;cases hb:Nat.blt f 1048576<;>rw[hb] at h<;>cases h
 simp only[cT] at h;split at h
 ·rename_i x e;rw[df] at h;obtain⟨rfl,rfl⟩:=h;rw[key x (.inl e)] at hc;have hc:=oz hc;simp only[execOp,hc,asBool];cases x
  ·exact .same hm (cw b)
  ·exact .same hm (cw a)
 ·rename_i x e;rw[df] at h;obtain⟨rfl,rfl⟩:=h;rw[key x (.inr e)] at hc;have hc:=oz hc;simp only[execOp,hc,asBool];exact .same hm (qxr (cw a) (cw b))
 ·cases h
theorem z1h(hm:MRel C X φ o w)(cw:∀x,au φ o (ah X φ o w) w (bU C env x) (ρ x)){v:V}{u:List (Nat×Obj)}{op:UnOp}{t:TypeId}{x:Operand}{dst:Option Tmp}{ty:TypeId}{pos:String}{after:Array Edge}{guard:Option (Nat×Bool)}{fr:Nat}(h:(cT lf C R env o fr ty (.unOp op t x)).gives v u):dJ C X φ o w v u ((execOp ρ ⟨dst,.unOp op t x,ty,pos,after,guard⟩).run C.P w):=by
 have hx:=cw x;cases op with
 |xor=>
  simp only[cT] at h;split at h
  ·rename_i k n e;rw[e] at hx;rw[df] at h;obtain⟨rfl,rfl⟩:=h;obtain⟨hz,_⟩:=nG hx;simp only[execOp,hz];have e1:EN k=if k.signed then -1 else k.max:=by cases k<;>decide
   exact(dG.aY hm ⟨rfl,.int k (lf.lJ k (EN k) n),by rw[e1];simp[Op.unary,Op.intBits,lf,lJ,pure],lH (IC _ _)⟩).bX
  ·cases h
 |plus=>exact False.elim h
 |neg=>
  simp only[cT] at h;split at h
  ·rename_i k n e;rw[e] at hx;rw[df] at h;obtain⟨rfl,rfl⟩:=h;obtain⟨hz,_⟩:=nG hx;simp only[execOp,hz];exact(dG.aY hm ⟨rfl,.int k (k.wrap (0-n)),by simp[Op.unary,Op.intArith],lH (IC _ _)⟩).bX
  ·cases h
 |not=>
  simp only[cT] at h;split at h
  ·rename_i b e;rw[e] at hx;rw[df] at h;obtain⟨rfl,rfl⟩:=h;have hz:=oz hx;simp only[execOp,hz];exact(dG.aY hm ⟨rfl,.bool (!b),by simp[Op.unary],tJ⟩).bX
  ·cases h
theorem qmg(hm:MRel C X φ o w)(cw:∀x,au φ o (ah X φ o w) w (bU C env x) (ρ x)){v:V}{u:List (Nat×Obj)}{fn:Fn}{first caps:Array Operand}{dst:Option Tmp}{ty:TypeId}{pos:String}{after:Array Edge}{guard:Option (Nat×Bool)}{fr:Nat}(h:(cT lf C R env o fr ty (.makeFunc fn first caps)).gives v u):dJ C X φ o w v u ((execOp ρ ⟨dst,.makeFunc fn first caps,ty,pos,after,guard⟩).run C.P w):=by
 cases fn<;>try exact False.elim h
 rename_i f;simp only[cT] at h;cases hb:Nat.blt f 1048576 with
 |false=>rw[hb] at h;exact False.elim h
 |true=>
  rw[hb] at h;have h:(Pk.now (.fn (f+1048576*first.toList.length) (first.toList.map (bU C env)++caps.toList.map (bU C env)))).gives v u:=h;rw[df] at h;obtain⟨rfl,rfl⟩:=h;have hc:f<1048576:=zF hb;have e1:(f+1048576*first.toList.length) % 1048576=f:=by rw[Nat.add_mul_mod_self_left];exact Nat.mod_eq_of_lt hc
  have e2:(f+1048576*first.toList.length) / 1048576=first.toList.length:=by rw[Nat.add_mul_div_left _ _ dc,Nat.div_eq_of_lt hc,zL]
  have hl:(first.toList.map ρ).length=first.toList.length:=zC _;simp only[execOp,Instr.makeFunc];have hv:au φ o (ah X φ o w) w (.fn (f+1048576*first.toList.length) (first.toList.map (bU C env)++caps.toList.map (bU C env))) (.func (.func f) (first.map ρ) (caps.map ρ)):=by
   refine⟨(first.toList.map ρ++caps.toList.map ρ).toArray,?_,?_⟩
   ·unfold IA;rw[e1,e2];have t1:((first.toList.map ρ++caps.toList.map ρ).take first.toList.length).toArray=first.map ρ:=by rw[<-hl,List.take_left];apply Array.toList_inj.1;simp
    have t2:((first.toList.map ρ++caps.toList.map ρ).drop first.toList.length).toArray=caps.map ρ:=by rw[<-hl,List.drop_left];apply Array.toList_inj.1;simp
    show _=Value.func (.func f) ((first.toList.map ρ++caps.toList.map ρ).take first.toList.length).toArray ((first.toList.map ρ++caps.toList.map ρ).drop first.toList.length).toArray;rw[t1,t2]
   ·exact AF (IM cw _) (IM cw _)
  exact(dG.aY (s:=pure (.func (.func f) (first.map ρ) (caps.map ρ))) hm ⟨rfl,_,rfl,hv⟩).bX
theorem qqd(hm:MRel C X φ o w)(cw:∀x,au φ o (ah X φ o w) w (bU C env x) (ρ x)){v:V}{u:List (Nat×Obj)}{x:Operand}{i:Nat}{dst:Option Tmp}{ty:TypeId}{pos:String}{after:Array Edge}{guard:Option (Nat×Bool)}{fr:Nat}(h:(cT lf C R env o fr ty (.extract x i)).gives v u):dJ C X φ o w v u ((execOp ρ ⟨dst,.extract x i,ty,pos,after,guard⟩).run C.P w):=by exact(qxv hm (cw x) h).bX
theorem z1i(hm:MRel C X φ o w)(cw:∀x,au φ o (ah X φ o w) w (bU C env x) (ρ x)){v:V}{u:List (Nat×Obj)}{x:Operand}{b:Bool}{dst:Option Tmp}{ty:TypeId}{pos:String}{after:Array Edge}{guard:Option (Nat×Bool)}{fr:Nat}(h:(cT lf C R env o fr ty (.next x b)).gives v u):dJ C X φ o w v u ((execOp ρ ⟨dst,.next x b,ty,pos,after,guard⟩).run C.P w):=by
 cases b with
 |false=>exact False.elim h
 |true=>exact(qtn hm (cw x) h).bX
theorem qdl{fr:Nat}{n:Int}{vs:List V}{z:Value}{b:Bool}:∀(a:List (Nat×Bool)) (i:Nat) (k:Int),JO lf C R o fr (k+(i:Int)) n vs a i=some (some b)->vf imm w a k n z->∃f caps D7,z=.func (.func f) #[] D7/\bW φ o imm w caps D7.toList/\(wm lf C R false o fr f (vs++caps) C.sigs 0).gives (.d .bool b) []
 |[],_,_,h,_=>by cases h
 |(f,c)::r,i,k,h,hr=>by
  unfold JO at h;split at h
  ·rename_i x hx;split at h
   ·rename_i y hy;injection h with h;rcases hr with ⟨rfl,h2⟩|⟨h1,h2⟩
    ·have he:lf.e (0+(i:Int)) (Int.ofNat i)=true:=by show((0+(i:Int))==Int.ofNat i)=true;simp
     rw[he] at h;have h:x=some b:=h;subst h;have gv:(wm lf C R false o fr f (vs++bif c then [.ref (.int .i64) n] else []) C.sigs 0).gives (.d .bool b) []:=by
      revert hx;generalize wm lf C R false o fr f (vs++bif c then [.ref (.int .i64) n] else []) C.sigs 0=p;intro hx;cases p with
      |fail=>cases hx
      |lj v u=>cases hx
      |dyn α x' out=>
       injection hx with hx;cases x' with
       |none=>cases hx
       |some q=>
        have hx:(match out q with|(.d .bool b,[])=>some b|_=>none)=some b:=hx;split at hx
        ·rename_i b' eo;injection hx with hx;subst hx;exact⟨q,rfl,eo⟩
        ·cases hx
     cases c with
     |false=>exact⟨f,[],#[],h2,rfl,gv⟩
     |true=>obtain⟨p,h3,h4⟩:=h2;exact⟨f,[.ref (.int .i64) n],#[p],h3,⟨p,[],rfl,h4,rfl⟩,gv⟩
    ·have he:lf.e (k+(i:Int)) (Int.ofNat i)=false:=by
      show((k+(i:Int))==Int.ofNat i)=false;have:k+(i:Int)≠Int.ofNat i:=by show k+(i:Int)≠(i:Int);omega
      exact beq_false_of_ne this
     rw[he] at h;have h:y=some b:=h;subst h;refine qdl r (i+1) (k-1) ?_ h2;have:k-1+((i+1:Nat):Int)=k+(i:Int):=om
     rw[this];exact hy
   ·cases h
  ·cases h
theorem qxx(cw:∀x,au φ o (ah X φ o w) w (bU C env x) (ρ x)){v:V}{u:List (Nat×Obj)}{f:Operand}{args:Array Operand}{pA:Array TypeId}{dst:Option Tmp}{ty:TypeId}{pos:String}{after:Array Edge}{guard:Option (Nat×Bool)}{fr:Nat}(he:∀f,rX C R X φ o w fr f)(h:(cT lf C R env o fr ty (.call ⟨.value f,args,pA⟩)).gives v u)(hf:jH fr o u):dJ C X φ o w v u ((execOp ρ ⟨dst,.call ⟨.value f,args,pA⟩,ty,pos,after,guard⟩).run C.P w):=by
 have hx:=cw f;simp only[cT] at h;split at h
 ·rename_i iH caps e;rw[e] at hx;obtain⟨cz,hz,hr⟩:=hx;have hc:bW φ o (ah X φ o w) w (caps.take (iH / 1048576)++(args.toList.map (bU C env)++caps.drop (iH / 1048576))) (cz.toList.take (iH / 1048576)++((args.map ρ).toList++cz.toList.drop (iH / 1048576))):=by rw[Array.toList_map];exact AF (II _ hr) (AF (IM cw _) (IH _ hr))
  obtain⟨⟨fn,g1,g2,g3⟩,g4⟩:=he (iH % 1048576) false _ _ v u hc h hf;refine .inr (.inr ⟨iH % 1048576,(cz.toList.take (iH / 1048576)++((args.map ρ).toList++cz.toList.drop (iH / 1048576))).toArray,?_,g4⟩);have e2:(cz.toList.take (iH / 1048576)++((args.map ρ).toList++cz.toList.drop (iH / 1048576))).toArray=(cz.toList.take (iH / 1048576)).toArray++args.map ρ++(cz.toList.drop (iH / 1048576)).toArray:=by apply Array.toList_inj.1;simp
  rw[e2];have Bm:¬fn.name= "runtime.NumGoroutine":=by simpa using g2
  have Fb:fn.body≠none:=by intro e;rw[e] at g3;cases g3
  unfold IA at hz;simp[execOp,resolve,hz,Deferred.ofValue,invoke,callFunc,g1,Bm,Fb]
 ·rename_i a k n e;rw[e] at hx;split at h
  ·rename_i x hg;obtain⟨b,hb,ho⟩:=h;subst hb;injection ho with hj hk;subst hj hk;have hg:JO lf C R o fr (k+((0:Nat):Int)) n (args.toList.map (bU C env)) a 0=some (some b):=by
    have:k+((0:Nat):Int)=k:=om
    rw[this];exact hg
   obtain⟨iH,caps,cz,hz,hr,h⟩:=qdl (φ:=φ) (imm:=ah X φ o w) (w:=w) a 0 k hg hx;have hc:bW φ o (ah X φ o w) w (args.toList.map (bU C env)++caps) ((args.map ρ).toList++cz.toList):=by rw[Array.toList_map];exact AF (IM cw _) hr
   obtain⟨⟨fn,g1,g2,g3⟩,g4⟩:=he iH false _ _ _ _ hc h hf;refine .inr (.inr ⟨iH,((args.map ρ).toList++cz.toList).toArray,?_,g4⟩);have e2:((args.map ρ).toList++cz.toList).toArray=args.map ρ++cz:=by apply Array.toList_inj.1;simp
   rw[e2];have Bm:¬fn.name= "runtime.NumGoroutine":=by simpa using g2
   have Fb:fn.body≠none:=by intro e;rw[e] at g3;cases g3
   simp[execOp,resolve,hz,Deferred.ofValue,invoke,callFunc,g1,Bm,Fb]
  ·exact False.elim h
 ·cases h
theorem qto(cw:∀x,au φ o (ah X φ o w) w (bU C env x) (ρ x)){v:V}{u:List (Nat×Obj)}{f:Operand}{args:Array Operand}{pA:Array TypeId}{dst:Option Tmp}{ty:TypeId}{pos:String}{after:Array Edge}{guard:Option (Nat×Bool)}{fr:Nat}(hc:∀f,rX C R X φ o w fr f){iH:Nat}{caps:List V}(e:bU C env f=.fn iH caps)(h:(wm lf C R true o fr (iH % 1048576) (caps.take (iH / 1048576)++(args.toList.map (bU C env)++caps.drop (iH / 1048576))) C.sigs 0).gives v u)(hf:jH fr o u):∃f' az,(execOp ρ ⟨dst,.call ⟨.value f,args,pA⟩,ty,pos,after,guard⟩).run C.P w=.ok (.enter f' az) w/\Calls C.P f' az w fun e w'=>∃val φ',w5 true val e/\Comes C X φ φ' o u w w' v val:=by
 have hx:=cw f;rw[e] at hx;obtain⟨cz,hz,hr⟩:=hx;have he:bW φ o (ah X φ o w) w (caps.take (iH / 1048576)++(args.toList.map (bU C env)++caps.drop (iH / 1048576))) (cz.toList.take (iH / 1048576)++((args.map ρ).toList++cz.toList.drop (iH / 1048576))):=by rw[Array.toList_map];exact AF (II _ hr) (AF (IM cw _) (IH _ hr))
 obtain⟨⟨fn,g1,g2,g3⟩,g4⟩:=hc (iH % 1048576) true _ _ v u he h hf;refine⟨iH % 1048576,(cz.toList.take (iH / 1048576)++((args.map ρ).toList++cz.toList.drop (iH / 1048576))).toArray,?_,g4⟩;have e2:(cz.toList.take (iH / 1048576)++((args.map ρ).toList++cz.toList.drop (iH / 1048576))).toArray=(cz.toList.take (iH / 1048576)).toArray++args.map ρ++(cz.toList.drop (iH / 1048576)).toArray:=by apply Array.toList_inj.1;simp
 rw[e2];have Bm:¬fn.name= "runtime.NumGoroutine":=by simpa using g2
 have Fb:fn.body≠none:=by intro e;rw[e] at g3;cases g3
 unfold IA at hz;simp[execOp,resolve,hz,Deferred.ofValue,invoke,callFunc,g1,Bm,Fb]
theorem qob(cw:∀x,au φ o (ah X φ o w) w (bU C env x) (ρ x)){v:V}{u:List (Nat×Obj)}{q:Oper}{fr:Nat}(hc:∀f,rX C R X φ o w fr f)(h:(DW lf C R env o fr q.op).gives v u)(hf:jH fr o u):∃f' az,(execOp ρ q).run C.P w=.ok (.enter f' az) w/\Calls C.P f' az w fun e w'=>∃val φ',w5 true val e/\Comes C X φ φ' o u w w' v val:=by
 obtain⟨dst,op,ty,pos,after,guard⟩:=q;unfold DW at h;simp only at h;split at h
 ·rename_i c;obtain⟨callee,args,pA⟩:=c;simp only at h;split at h
  ·rename_i f;split at h
   ·rename_i iH caps e;exact qto cw hc e h hf
   ·exact h.elim
  ·exact h.elim
 ·exact h.elim
theorem qfp{vs:List V}{zs:List Value}(h:bW φ o imm w vs zs):au φ o imm w (kA vs) (rW zs):=by
 match vs,zs,h with
 |[],zs,h=>have h:zs=[]:=h;subst h;exact⟨#[],rfl,rfl⟩
 |[v],zs,⟨z,r,e,h1,h2⟩=>have h2:r=[]:=h2;subst e h2;exact h1
 |v::v'::vs,zs,⟨z,r,e,h1,z',r',e',h2,h3⟩=>subst e e';exact⟨(z::z'::r').toArray,rfl,z,z'::r',by simp,h1,z',r',rfl,h2,h3⟩
theorem qjs{k:IntKind}{a b:Int}(ha:fJ k a)(hb:fJ k b):fJ k (jD a b)/\fJ k (iO a b):=by unfold jD iO;constructor<;>split<;>assumption
theorem qqe(hC:cf C)(hm:MRel C X φ o w)(cw:∀x,au φ o (ah X φ o w) w (bU C env x) (ρ x)){v:V}{u:List (Nat×Obj)}{b:Builtin}{args:Array Operand}{pA:Array TypeId}{dst:Option Tmp}{ty:TypeId}{pos:String}{after:Array Edge}{guard:Option (Nat×Bool)}{fr:Nat}(h:(cT lf C R env o fr ty (.call ⟨.builtin b,args,pA⟩)).gives v u)(hf:jH fr o u):dJ C X φ o w v u ((execOp ρ ⟨dst,.call ⟨.builtin b,args,pA⟩,ty,pos,after,guard⟩).run C.P w):=by
 have nI:∀{x y:V},args.toList.map (bU C env)=[x,y]->∃zx zy,args.map ρ=#[zx,zy]/\au φ o (ah X φ o w) w x zx/\au φ o (ah X φ o w) w y zy:=by
  intro x y e
  match hl:args.toList,e with
  |[a,b],e=>simp only[zM,List.map_nil,List.cons.injEq,and_true] at e;obtain⟨rfl,rfl⟩:=e;exact⟨ρ a,ρ b,qjr hl,cw a,cw b⟩
 have tN:∀{x:V},args.toList.map (bU C env)=[x]->∃zx,args.map ρ=#[zx]/\au φ o (ah X φ o w) w x zx:=by
  intro x e
  match hl:args.toList,e with
  |[a],e=>simp only[zM,List.map_nil,List.cons.injEq,and_true] at e;subst e;exact⟨ρ a,qjr hl,cw a⟩
 have aW:∀{l:List TypeId},pA.toList=l->pA=l.toArray:=fun e=>by rw[<-e,Array.toArray_toList]
 simp only[cT,qiv] at h;split at h
 ·rename_i t ts x e1 e2;obtain⟨zx,h1,h2⟩:=tN e2;have:=(dG.aY hm (qxp (ts:=ts) (ty:=ty) hm h2 h)).bX;rw[<-aW e1] at this;simpa[execOp,resolve,invoke,builtin,h1] using this
 ·rename_i t u' ts x y e1 e2;obtain⟨zx,zy,h1,h2,h3⟩:=nI e2;have:=(qm9 (ts:=ts) (ty:=ty) hC hm h2 h3 h hf).bX;rw[<-aW e1] at this;simpa[execOp,resolve,invoke,builtin,h1] using this
 ·rename_i t ts x y e1 e2;obtain⟨zx,zy,h1,h2,h3⟩:=nI e2;have:=(qte (ts:=ts) (ty:=ty) hC hm h2 h3 h).bX;rw[<-aW e1] at this;simpa[execOp,resolve,invoke,builtin,h1] using this
 ·rename_i t ts x e1 e2;obtain⟨zx,h1,h2⟩:=tN e2;have:=(qqa (ts:=ts) (ty:=ty) hC hm h2 h).bX;rw[<-aW e1] at this;simpa[execOp,resolve,invoke,builtin,h1] using this
 ·rename_i t ts x y e1 e2;obtain⟨zx,zy,h1,h2,h3⟩:=nI e2;have:=(qme (ts:=ts) (ty:=ty) hC hm h2 h3 h).bX;rw[<-aW e1] at this;simpa[execOp,resolve,invoke,builtin,h1] using this
 ·rename_i k a k' b e2;obtain⟨zx,zy,h1,h2,h3⟩:=nI e2;obtain⟨rfl,i1⟩:=nG h2;obtain⟨rfl,i2⟩:=nG h3;rw[dC,df] at h;obtain⟨hk,rfl,rfl⟩:=h;have:=J6 hk;subst this;have:dJ C X φ o w (.d (.int k) (lf.jD a b)) [] _:=(dG.aY (s:=Builtin.min_ pA ty #[.int k a,.int k b]) hm ⟨rfl,.int k (jD a b),by simp[Builtin.min_,Builtin.min2,jD],lH (qjs i1 i2).1⟩).bX;simpa[execOp,resolve,invoke,builtin,h1] using this
 ·rename_i k a k' b e2;obtain⟨zx,zy,h1,h2,h3⟩:=nI e2;obtain⟨rfl,i1⟩:=nG h2;obtain⟨rfl,i2⟩:=nG h3;rw[dC,df] at h;obtain⟨hk,rfl,rfl⟩:=h;have:=J6 hk;subst this;have:dJ C X φ o w (.d (.int k) (lf.iO a b)) [] _:=(dG.aY (s:=Builtin.max_ pA ty #[.int k a,.int k b]) hm ⟨rfl,.int k (iO a b),by simp[Builtin.max_,Builtin.max2,iO],lH (qjs i1 i2).2⟩).bX;simpa[execOp,resolve,invoke,builtin,h1] using this
 ·rename_i a b e2;obtain⟨zx,zy,h1,h2,h3⟩:=nI e2;have g1:=J2 h2;have g2:=J2 h3;subst g1 g2;rw[df] at h;obtain⟨rfl,rfl⟩:=h;have:dJ C X φ o w (.d .eU ((a:Nat),(b:Nat))) [] _:=(dG.aY (s:=Builtin.complex_ pA ty #[.float .f64 a,.float .f64 b]) hm ⟨rfl,.complex .f64 a b,rfl,z04 (b:=(a,b))⟩).bX;simpa[execOp,resolve,invoke,builtin,h1] using this
 ·rename_i a e2;obtain⟨zx,h1,h2⟩:=tN e2;have g1:=J3 h2;subst g1;rw[df] at h;obtain⟨rfl,rfl⟩:=h;have:dJ C X φ o w (.d .eD (Prod.fst (α:=Nat) (β:=Nat) a)) [] _:=(dG.aY (s:=Builtin.real_ pA ty #[.complex .f64 (Prod.fst (α:=Nat) (β:=Nat) a) (Prod.snd (α:=Nat) (β:=Nat) a)]) hm ⟨rfl,.float .f64 _,rfl,NZ⟩).bX;simpa[execOp,resolve,invoke,builtin,h1] using this
 ·rename_i a e2;obtain⟨zx,h1,h2⟩:=tN e2;have g1:=J3 h2;subst g1;rw[df] at h;obtain⟨rfl,rfl⟩:=h;have:dJ C X φ o w (.d .eD (Prod.snd (α:=Nat) (β:=Nat) a)) [] _:=(dG.aY (s:=Builtin.imag_ pA ty #[.complex .f64 (Prod.fst (α:=Nat) (β:=Nat) a) (Prod.snd (α:=Nat) (β:=Nat) a)]) hm ⟨rfl,.float .f64 _,rfl,NZ⟩).bX;simpa[execOp,resolve,invoke,builtin,h1] using this
 ·cases h
set_option maxHeartbeats 4000000 in
theorem Rr(hC:cf C)(hE:jI C)(hm:MRel C X φ o w)(cw:∀x,au φ o (ah X φ o w) w (bU C env x) (ρ x)){op:Oper}{fr:Nat}(hc:∀f,rX C R X φ o w fr f){v:V}{u:List (Nat×Obj)}(h:(cT lf C R env o fr op.type op.op).gives v u)(hf:jH fr o u):dJ C X φ o w v u ((execOp ρ op).run C.P w):=by
 obtain⟨dst,op,ty,pos,after,guard⟩:=op;cases op
 case move x=>exact z3i hm cw x h hf
 case assign x=>exact z3i hm cw x h hf
 case pick c a b=>exact z1g hm cw h
 case alloc e=>exact(qq8 hC hm h hf _).bX
 case box e x=>exact(qxt hm (cw x) h hf).bX
 case build t ps=>refine(qta (fun v u h=>qq9 (zparts:=ps.map fun p=>(p.1,ρ p.2)) hC hm ?_ h) h hf).bX;rw[Array.toList_map];exact Rp cw _
 case buildSlice t n ps=>refine(qde (zparts:=ps.map fun p=>(p.1,ρ p.2)) hC hm ?_ h hf).bX;rw[Array.toList_map];exact Rp cw _
 case load t a=>exact(dG.aY hm (qjc hC hm (cw a) h)).bX
 case store t a x=>exact(qfn hC hm (cw a) (cw x) h).bX
 case nilCheck x=>obtain⟨rfl,rfl,hz⟩:=qxs (cw x) h;have hx:=cw x;rcases hz with ⟨a,e⟩|⟨f,p,c,e⟩<;>simp only[execOp,e]<;>rw[e] at hx<;>exact .same hm hx
 case binOp op t x y yt=>exact(qxw hE hm (cw x) (cw y) h).bX
 case unOp op t x=>exact z1h hm cw h
 case convert s d x=>exact(qjj hC hm (cw x) h hf).bX
 case makeFunc fn first caps=>exact qmg hm cw h
 case makeInterface t x=>
  have h:(Qt C t).gives v u:=h;unfold Qt at h;split at h
  ·cases h
  ·rename_i d hd hn;rw[df] at h;obtain⟨rfl,rfl⟩:=h;refine .inl ⟨.iface t (ρ x),w,φ,?_,.same hm ⟨t,ρ x,rfl⟩⟩;have hu:=kP hn;cases d with
   |interface _=>exact absurd rfl (hd _)
   |_=>simp[execOp,Instr.makeInterface,run_underlying hu]
  ·cases h
 case makeSlice t l c=>exact(qf5 hC hm (cw l) (cw c) h hf).bX
 case slice t x lo hi mx=>exact(qq6 hC hm (cw x) (Rq cw lo) (Rq cw hi) (Rq cw mx) h hf).bX
 case fieldAddr t x f=>exact(dG.aY hm (qf2 hC hm (cw x) h)).bX
 case field t x f=>exact(dG.aY hm (qq4 hC hm (cw x) h)).bX
 case indexAddr t x i=>exact(dG.aY hm (qf3 hC hm (cw x) (cw i) h)).bX
 case index t x i=>exact(dG.aY hm (qq5 hC (cw x) (cw i) h)).bX
 case extract x i=>exact qqd hm cw h
 case range t x=>exact(qqc hm (cw x) h hf).bX
 case next x b=>exact z1i hm cw h
 case makeMap t r=>
  cases r with
  |none=>exact(qjo hm h hf).bX
  |some x=>exact False.elim h
 case lookup t x k ok=>exact(qmd hC hm (cw x) (cw k) h).bX
 case mapUpdate t m k x=>exact(qf6 hC hm (cw m) (cw k) (cw x) h).bX
 case call c=>
  obtain⟨callee,args,pA⟩:=c;cases callee with
  |invoke r m=>exact False.elim h
  |value f=>exact qxx cw hc h hf
  |builtin b=>exact qqe hC hm cw h hf
 all_goals exact False.elim h
end
theorem cy{j:Nat}:∀{l:List Nat},bH j l=true↔j∈l
 |[]=>by simp[bH]
 |b::r=>by
  simp only[bH,zt];cases h:Nat.beq b j with
  |true=>have:=zg h;simp[this]
  |false=>
   have:¬j=b:=fun e=>by subst e;rw[Nat.beq_refl] at h;cases h
   simp[this,cy]
theorem Kl:∀{u:List (Nat×Obj)} {o o':Nat->Obj} {id:Nat},id∈bJ u->ak o u id=ak o' u id
 |(i,x)::r,o,o',id,h=>by
  show ak (cP o i x) r id=ak (cP o' i x) r id;by_cases hr:id∈bJ r
  ·exact Kl hr
  ·rw[gS hr,gS hr];simp only[bJ,zt,hr,or_false] at h;subst h;rw[eL,eL]
section
variable {C:Cx} {X:Nat→Prop} {φ φ':Nat→Addr} {o o':Nat→Obj} {w w':World} {imm:Nat→Prop} {F:List Nat}
theorem qfq:∀(x:V) (z:Value),(∀id,id∈eF x->o' id=o id)->au φ o imm w x z->au φ o' imm w x z:=by
 intro x;refine V.rec (motive_1:=fun x=>∀z,(∀id,id∈eF x->o' id=o id)->au φ o imm w x z->au φ o' imm w x z)
  (motive_2:=fun l=>∀zs,(∀id,id∈gl l->o' id=o id)->bW φ o imm w l zs->bW φ o' imm w l zs)
  ?_ ?_ ?_ ?_ ?_ ?_ ?_ ?_ ?_ ?_ ?_ ?_ ?_ ?_ ?_ ?_ ?_ ?_ ?_ ?_ ?_ ?_ ?_ ?_ ?_ ?_ ?_ x
 ·exact fun t x z _ h=>h
 ·intro id ver z hs h;have:=hs id (by simp[eF]);unfold au at*;rw[this];exact h
 ·intro id ver n cp z hs h;have:=hs id (by simp[eF]);unfold au at*;rw[this];exact h
 ·intro id off z hs h;have:=hs id (by simp[eF]);unfold au at*;rw[this];exact h
 ·intro id ver i path z hs h;have:=hs id (by simp[eF]);unfold au at*;rw[this];exact h
 ·exact fun t x z _ h=>h
 ·exact fun z _ h=>h
 ·exact fun f l ih z hs ⟨c,h1,h2⟩=>⟨c,h1,ih _ (fun id h=>hs id (by unfold eF;exact h)) h2⟩
 ·exact fun z _ h=>h
 ·exact fun l ih z hs ⟨c,h1,h2⟩=>⟨c,h1,ih _ (fun id h=>hs id (by unfold eF;exact h)) h2⟩
 ·exact fun l ih z hs ⟨c,h1,h2⟩=>⟨c,h1,ih _ (fun id h=>hs id (by unfold eF;exact h)) h2⟩
 ·intro id z hs h;have:=hs id (by simp[eF]);unfold au at*;rw[this];exact h
 ·exact fun z _ h=>h
 ·exact fun z _ h=>h
 ·exact fun z _ h=>h
 ·exact fun b z _ h=>h
 ·exact fun z _ h=>h
 ·exact fun z _ h=>h
 ·intro id b z hs h;have:=hs id (by simp[eF]);unfold au at*;rw[this];exact h
 ·intro id ver lo z hs h;have:=hs id (by simp[eF]);unfold au at*;rw[this];exact h
 ·intro id z hs h;have:=hs id (by simp[eF]);unfold au at*;rw[this];exact h
 ·exact fun b p c z _ h=>h
 ·exact fun a k n z _ h=>h
 ·exact fun t x z _ h=>h
 ·exact fun z _ h=>h
 ·exact fun zs _ h=>h
 ·exact fun x l mZ nc zs hs ⟨v,r,h1,h2,h3⟩=>⟨v,r,h1,mZ _ (fun id h=>hs id (by unfold gl;exact List.mem_append_left _ h)) h2,
   nc _ (fun id h=>hs id (by unfold gl;exact List.mem_append_right _ h)) h3⟩
theorem qjt:∀(l:List V) (zs:List Value),(∀id,id∈gl l->o' id=o id)->bW φ o imm w l zs->bW φ o' imm w l zs
 |[],_,_,h=>h
 |x::l,_,hs,⟨v,r,h1,h2,h3⟩=>⟨v,r,h1,qfq x v (fun id h=>hs id (by unfold gl;exact List.mem_append_left _ h)) h2,
   qjt l r (fun id h=>hs id (by unfold gl;exact List.mem_append_right _ h)) h3⟩
def Xr(X:Nat->Prop)(φ:Nat->Addr)(o:Nat->Obj)(F:List Nat)(b:Nat):Prop:=X b\/∃id,id∉F/\aV (φ id) (o id)=true/\(φ id).block=b
theorem lr{id:Nat}(h:id∈F):cS o F id=o id:=by unfold cS;rw[cy.2 h];rfl
theorem rA{id:Nat}(h:id∉F):cS o F id=.none:=by
 unfold cS;cases e:bH id F with
 |true=>exact absurd (cy.1 e) h
 |false=>rfl
theorem vg(b:Nat):ah (Xr X φ o F) φ (cS o F) w b↔ah X φ o w b:=by
 constructor
 ·rintro⟨h1,h2,h3⟩;refine⟨h1,fun h=>h2 (.inl h),fun⟨id,e1,e2⟩=>?_⟩;by_cases hi:id∈F
  ·exact h3 ⟨id,by rw[lr hi];exact e1,e2⟩
  ·exact h2 (.inr ⟨id,hi,e1,e2⟩)
 ·rintro⟨h1,h2,h3⟩;refine⟨h1,?_,fun⟨id,e1,e2⟩=>?_⟩
  ·rintro(h|⟨id,_,e1,e2⟩)
   ·exact h2 h
   ·exact h3 ⟨id,e1,e2⟩
  ·by_cases hi:id∈F
   ·rw[lr hi] at e1;exact h3 ⟨id,e1,e2⟩
   ·rw[rA hi] at e1;exact(lG e1).elim
theorem qqf{imm':Nat->Prop}{id:Nat}{x:Obj}(hi:∀b,imm b->imm' b)(hs:∀j,j∈wS x->o' j=o j)(h:o3 φ o imm w id x):o3 φ o' imm' w id x:=by
 have hk:∀x z,au φ o' imm w x z->au φ o' imm' w x z:=fun x z h=>AD hi (fun _ _=>rfl) (fun _=>Up.same fun _ _ h=>h) x z h;cases x with
 |dead=>trivial
 |none=>trivial
 |box cs=>obtain⟨h1,c,el,lo,hc,h2,h3,h4⟩:=h;exact⟨h1,c,el,lo,hc,h2,h3,D3 hk _ _ (qjt cs _ hs h4)⟩
 |map k v m=>obtain⟨es,clock,h1,h2⟩:=h;exact⟨es,clock,h1,D2 (rT hi (fun _ _=>rfl) _) (rT hi (fun _ _=>rfl) _) h2⟩
 |iter l p=>exact h
 |vec t ver fr s=>obtain⟨h1,h2,h3⟩:=h;refine⟨h1,h2,fun hn=>?_⟩;refine(h3 hn).imp (fun⟨h4,ec,h5,h6,h7,h8,h9⟩=>?_) fun g=>g;exact⟨h4,ec,nD (gG hi (fun _ _=>rfl) t) h5,h6,h7,h8,fun hf=>hi _ (h9 hf)⟩
theorem MRel.jJ(hm:MRel C X φ o w)(id:Nat)(hb:aV (φ id) (o id)=true->eG w w' (φ id).block)(stays:∀b,ah X φ o w b->w'.heap[b]?=w.heap[b]?):gR C w' (φ id) (o id):=by
 refine(hm.tH id).bD hb (fun ver s e hn=>.same ?_) (hm.JZ id);have ho:=hm.ay id;rw[e] at ho;obtain⟨_,_,ho⟩:=ho;rcases ho hn with ⟨_,_,_,_,_,_,g7⟩|g7
 ·exact stays _ (g7 rfl)
 ·exact absurd rfl g7.2.2
theorem MRel.restrict(hm:MRel C X φ o w)(hc:∀id,id∈F->∀j,j∈wS (o id)->j∈F):MRel C (Xr X φ o F) φ (cS o F) w:=by
 refine⟨fun id=>?_,fun i j hi hj e=>?_,fun i hi=>?_,fun b hb=>?_,fun id=>?_,fun g t x hg=>?_,hm.IB⟩
 ·by_cases h:id∈F
  ·rw[lr h];exact qqf (fun b hb=>(vg b).2 hb) (fun j hj=>lr (hc id h j hj)) (hm.ay id)
  ·rw[rA h];trivial
 ·have h1:i∈F:=zK fun h=>by rw[rA h] at hi;exact lG hi
  have h2:j∈F:=zK fun h=>by rw[rA h] at hj;exact lG hj
  rw[lr h1] at hi;rw[lr h2] at hj;exact hm.inj i j hi hj e
 ·have h1:i∈F:=zK fun h=>by rw[rA h] at hi;exact lG hi
  rw[lr h1] at hi;refine⟨(hm.sep i hi).1,?_⟩;rintro(h|⟨id,h2,h3,h4⟩)
  ·exact(hm.sep i hi).2 h
  ·have:=hm.inj id i h3 hi h4;exact h2 (this▸h1)
 ·rcases hb with hb|⟨id,_,h3,h4⟩
  ·exact hm.xs b hb
  ·exact h4▸(hm.sep id h3).1
 ·by_cases h:id∈F
  ·rw[lr h];exact hm.tH id
  ·rw[rA h];trivial
 ·obtain⟨a,cs,h1,h2,h3,h4,h5⟩:=hm.fp g t x hg;exact⟨a,cs,h1,h2,(vg _).2 h3,gG (fun b hb=>(vg b).2 hb) (fun _ _=>rfl) t x cs h4,h5⟩
theorem qdn{x:V}{z:Value}(hs:∀id,id∈eF x->id∈F)(h:au φ o (ah X φ o w) w x z):au φ (cS o F) (ah (Xr X φ o F) φ (cS o F) w) w x z:=AD (fun b hb=>(vg b).2 hb) (fun _ _=>rfl) (fun _=>Up.same fun _ _ h=>h) x z (qfq x z (fun id hi=>lr (hs id hi)) h)
theorem Comes.iS(hm:MRel C X φ o w){u:List (Nat×Obj)}{v:V}{z:Value}(hu:∀id,id∈bJ u->id∉F->o id=.none)(h:Comes C (Xr X φ o F) φ φ' (cS o F) u w w' v z):∃fk,Comes C X φ fk o u w w' v z:=by
 let ins:Nat->Prop:=fun id=>id∈F\/id∈bJ u;refine⟨fun id=>bif bH id F||bH id (bJ u) then φ' id else φ id,?_⟩;generalize cU:(fun id=>bif bH id F||bH id (bJ u) then φ' id else φ id)=fk;have p1:∀id,ins id->fk id=φ' id:=fun id hi=>by
  rw[<-cU];have:(bH id F||bH id (bJ u))=true:=by rw[Bool.or_eq_true];exact hi.imp cy.2 cy.2
  simp only[this,cond_true]
 have p2:∀id,¬ins id->fk id=φ id:=fun id hi=>by
  rw[<-cU];have:(bH id F||bH id (bJ u))=false:=by
   cases e:(bH id F||bH id (bJ u)) with
   |false=>rfl
   |true=>rw[Bool.or_eq_true] at e;exact absurd (e.imp cy.1 cy.1) hi
  simp only[this,cond_false]
 have q1:∀id,ins id->ak o u id=ak (cS o F) u id:=fun id hi=>by
  by_cases hk:id∈bJ u
  ·exact Kl hk
  ·rw[gS hk,gS hk,lr (hi.resolve_right hk)]
 have q2:∀id,¬ins id->ak o u id=o id/\ak (cS o F) u id=.none:=fun id hi=>⟨gS fun hk=>hi (.inr hk),by rw[gS fun hk=>hi (.inr hk),rA fun hf=>hi (.inl hf)]⟩;have q3:∀id,ins id->id∉F->o id=.none:=fun id hi hf=>hu id (hi.resolve_left hf) hf;have hl:∀b,ah (Xr X φ o F) φ' (ak (cS o F) u) w' b↔ah X fk (ak o u) w' b:=fun b=>by
  constructor
  ·rintro⟨h1,h2,h3⟩;refine⟨h1,fun hx=>h2 (.inl hx),fun⟨id,e1,e2⟩=>?_⟩;by_cases hi:ins id
   ·exact h3 ⟨id,by rw[<-q1 id hi,<-p1 id hi];exact e1,by rw[<-p1 id hi];exact e2⟩
   ·rw[(q2 id hi).1,p2 id hi] at e1;rw[p2 id hi] at e2;exact h2 (.inr ⟨id,fun hf=>hi (.inl hf),e1,e2⟩)
  ·rintro⟨h1,h2,h3⟩;refine⟨h1,?_,fun⟨id,e1,e2⟩=>?_⟩
   ·rintro(hx|⟨id,hf,e1,e2⟩)
    ·exact h2 hx
    ·by_cases hi:ins id
     ·rw[q3 id hi hf] at e1;exact(lG e1).elim
     ·exact h3 ⟨id,by rw[(q2 id hi).1,p2 id hi];exact e1,by rw[p2 id hi];exact e2⟩
   ·by_cases hi:ins id
    ·exact h3 ⟨id,by rw[q1 id hi,p1 id hi];exact e1,by rw[p1 id hi];exact e2⟩
    ·rw[(q2 id hi).2] at e1;exact(lG e1).elim
 have ext:∀x z,au φ' (ak (cS o F) u) (ah (Xr X φ o F) φ' (ak (cS o F) u) w') w' x z->au fk (ak o u) (ah X fk (ak o u) w') w' x z:=
  fun x z hx=>AD (fun b hb=>(hl b).1 hb) (fun _ _=>rfl) (fun id=>by
   by_cases hi:ins id
   ·rw[q1 id hi,p1 id hi];exact Up.same fun _ _ h=>h
   ·rw[(q2 id hi).2];trivial) x z hx
 have bl:∀id,¬ins id->aV (φ id) (o id)=true->w'.heap[(φ id).block]?=w.heap[(φ id).block]?:=fun id hi hx=>
  h.frame _ (hm.sep id hx).1 fun⟨j,j1,j2,j3⟩=>by
   have hj:j∈F:=zK fun hf=>by rw[rA hf] at j2;exact lG j2
   rw[lr hj] at j2;have:=hm.inj j id j2 hx j3;exact hi (.inl (this▸hj))
 have stays:∀b,ah X φ o w b->w'.heap[b]?=w.heap[b]?:=fun b hb=>h.stays b ((vg b).2 hb);have imm:∀b,ah X φ o w b->ah X fk (ak o u) w' b:=fun b hb=>(hl b).1 (h.imm b ((vg b).2 hb));have D4:∀id,Up w w' (φ id) (fk id) (o id) (ak o u id):=fun id=>by
  by_cases hi:ins id
  ·by_cases hf:id∈F
   ·have:=h.up id;rw[lr hf] at this;rw[p1 id hi,q1 id hi];exact this
   ·rw[q3 id hi hf];trivial
  ·rw[p2 id hi,(q2 id hi).1];exact Up.same fun hx n hr=>Bh (bl id hi hx) hr
 have keeps:∀x z,au φ o (ah X φ o w) w x z->au fk (ak o u) (ah X fk (ak o u) w') w' x z:=fun x z hx=>AD imm stays D4 x z hx;refine⟨⟨fun id=>?_,fun i j hi hj e=>?_,fun i hi=>?_,fun b hb=>Nat.lt_of_lt_of_le (hm.xs b hb) h.size,fun id=>?_,fun g t x hg=>ext _ _ (h.mem.fp g t x hg),h.mem.IB⟩,ext _ _ h.val,D4,h.size,fun b hb hh=>?_,fun id hn hk=>?_,fun id hx=>?_,h.still⟩
 ·by_cases hi:ins id
  ·rw[q1 id hi];exact EW (fun b hb=>(hl b).1 hb) (fun _ _=>rfl) ext (p1 id hi) (fun _=>rfl) (h.mem.ay id)
  ·rw[(q2 id hi).1];exact EW imm stays keeps (p2 id hi) (bl id hi) (hm.ay id)
 ·by_cases hc:ins i<;>by_cases he:ins j
  ·rw[q1 i hc,p1 i hc] at hi;rw[q1 j he,p1 j he] at hj;rw[p1 i hc,p1 j he] at e;exact h.mem.inj i j hi hj e
  ·rw[q1 i hc,p1 i hc] at hi;rw[(q2 j he).1,p2 j he] at hj;rw[p1 i hc,p2 j he] at e;exact absurd (.inr ⟨j,fun hf=>he (.inl hf),hj,e.symm⟩) (h.mem.sep i hi).2
  ·rw[q1 j he,p1 j he] at hj;rw[(q2 i hc).1,p2 i hc] at hi;rw[p1 j he,p2 i hc] at e;exact absurd (.inr ⟨i,fun hf=>hc (.inl hf),hi,e⟩) (h.mem.sep j hj).2
  ·rw[(q2 i hc).1,p2 i hc] at hi;rw[(q2 j he).1,p2 j he] at hj;rw[p2 i hc,p2 j he] at e;exact hm.inj i j hi hj e
 ·by_cases hc:ins i
  ·rw[q1 i hc,p1 i hc] at hi;rw[p1 i hc];exact⟨(h.mem.sep i hi).1,fun hx=>(h.mem.sep i hi).2 (.inl hx)⟩
  ·rw[(q2 i hc).1,p2 i hc] at hi;rw[p2 i hc];exact⟨Nat.lt_of_lt_of_le (hm.sep i hi).1 h.size,(hm.sep i hi).2⟩
 ·by_cases hi:ins id
  ·rw[q1 id hi,p1 id hi];exact h.mem.tH id
  ·rw[(q2 id hi).1,p2 id hi];exact hm.jJ id (fun hx=>.same (bl id hi hx)) stays
 ·refine h.frame b hb fun⟨j,j1,j2,j3⟩=>hh ⟨j,j1,?_,j3⟩;have hj:j∈F:=zK fun hf=>by rw[rA hf] at j2;exact lG j2
  rwa [lr hj] at j2
 ·by_cases hf:id∈F
  ·rw[p1 id (.inl hf)];exact h.nE id (by rw[lr hf];exact hn) hk
  ·exact p2 id fun hi=>hi.elim hf hk
 ·by_cases hi:ins id
  ·rw[q1 id hi,p1 id hi] at hx;rw[p1 id hi];rcases h.news id hx with h1|⟨j,j1,j2⟩
   ·exact .inl h1
   ·have hj:j∈F:=zK fun hf=>by rw[rA hf] at j1;exact lG j1
    rw[lr hj] at j1;exact .inr ⟨j,j1,j2⟩
  ·rw[(q2 id hi).1,p2 id hi] at hx;rw[p2 id hi];exact .inr ⟨id,hx,rfl⟩
end
structure eH (a b:PS):Prop where
 aQ:∀p,p∈a.aQ->p∈b.aQ
 cut:∀p,p∈a.cut->p∈b.cut
 cd:∀p,p∈a.cd->p∈b.cd
 full:∀p,p∈a.full->p∈b.full
theorem eH.refl(a:PS):eH a a:=⟨fun _ h=>h,fun _ h=>h,fun _ h=>h,fun _ h=>h⟩
theorem eH.trans{a b c:PS}(h:eH a b)(h':eH b c):eH a c:=⟨fun p hp=>h'.aQ p (h.aQ p hp),fun p hp=>h'.cut p (h.cut p hp),fun p hp=>h'.cd p (h.cd p hp),fun p hp=>h'.full p (h.full p hp)⟩
abbrev cg:Nat->Nat:=fun i=>i
abbrev bO:Nat->Nat:=fun _=>0
section
variable {o:Nat→Obj}
def z06(o:Nat->Obj)(s:Sh):Prop:=∀v ps ba f,DO lf o s v ps=some (ba,f)->eH ps ba/\∀(ρ κ:Nat->Nat) r c,(kM ρ κ s r (f r c)).2=c
def z07(o:Nat->Obj)(l:List Sh):Prop:=∀vs ps ba f,mI lf o l vs ps=some (ba,f)->eH ps ba/\∀(ρ κ:Nat->Nat) r c,(fi ρ κ l r (f r c)).2=c
theorem o5{b:Bool}{ps ba:PS}{f:∀r,ai r->ai r}(h:wi b ps=some (ba,f)):b=true/\ba=ps/\f=fun _ c=>c:=by
 cases b
 ·cases h
 ·injection h with h;injection h with h1 h2;exact⟨rfl,h1.symm,h2.symm⟩
theorem eH.tie{ps:PS}(i id:Nat):eH ps (tie i id ps):=⟨fun _ h=>zh _ h,fun _ h=>h,fun _ h=>h,fun _ h=>h⟩
theorem qqg{i:Nat}{v:V}{ps ba:PS}{f:∀r,ai r->ai r}(h:JC o i v ps=some (ba,f)):eH ps ba/\f=fun _ c=>c:=by
 unfold JC at h;split at h
 ·split at h
  ·obtain⟨_,rfl,rfl⟩:=o5 h;exact⟨⟨fun _ h=>zh _ h,fun _ h=>h,fun _ h=>h,fun _ h=>zh _ h⟩,rfl⟩
  ·cases h
 ·split at h
  ·obtain⟨_,rfl,rfl⟩:=o5 h;exact⟨⟨fun _ h=>zh _ h,fun _ h=>zh _ h,fun _ h=>h,fun _ h=>h⟩,rfl⟩
  ·cases h
 ·cases h
theorem qqh{i off:Nat}{v:V}{ps ba:PS}{f:∀r,ai r->ai r}(h:JD o i off v ps=some (ba,f)):eH ps ba/\f=fun _ c=>c:=by
 unfold JD at h;split at h
 ·split at h
  ·obtain⟨_,rfl,rfl⟩:=o5 h;exact⟨.tie _ _,rfl⟩
  ·obtain⟨_,rfl,rfl⟩:=o5 h;exact⟨.tie _ _,rfl⟩
  ·cases h
 ·cases h
theorem qtp{i:Nat}{v:V}{ps ba:PS}{f:∀r,ai r->ai r}(h:wK o i v ps=some (ba,f)):eH ps ba/\f=fun _ c=>c:=by
 unfold wK at h;split at h
 ·split at h
  ·injection h with h;injection h with h1 h2;subst h1 h2;exact⟨.tie _ _,rfl⟩
  ·cases h
 ·cases h
theorem qtq{i:Nat}{v:V}{ps ba:PS}{f:∀r,ai r->ai r}(h:wL o i v ps=some (ba,f)):eH ps ba/\f=fun _ c=>c:=by
 unfold wL at h;split at h
 ·split at h
  ·injection h with h;injection h with h1 h2;subst h1 h2;exact⟨.tie _ _,rfl⟩
  ·cases h
 ·cases h
theorem Rs{i:Nat}{v:V}{ps ba:PS}{f:∀r,ai r->den .bool×ai r}(h:JE o i v ps=some (ba,f)):∃id b cs,v=.gM id b/\o id=.box cs/\ba=tie i id ps/\f=fun _ c=>(b,c):=by
 unfold JE at h;split at h
 ·rename_i id b;split at h
  ·rename_i cs e;injection h with h;injection h with h1 h2;subst h1 h2;exact⟨id,b,cs,rfl,e,rfl,rfl⟩
  ·cases h
 ·cases h
theorem z08:∀{b a:List (Nat×Bool)},JF b a=true->b=a
 |[],[],_=>rfl
 |[],_::_,h=>by cases h
 |_::_,[],h=>by cases h
 |(f,c)::b,(g,d)::a,h=>by
  unfold JF at h;rw[zd,zd] at h;obtain⟨⟨h1,h2⟩,h3⟩:=h;have h1:=zg h1;have h2:c=d:=by cases c<;>cases d<;>first|rfl|cases h2
  rw[h1,h2,z08 h3]
theorem qju{imm:Nat->Prop}{w:World}{n:Int}:∀(a:List (Nat×Bool)),vf imm w a ((a.length:Nat):Int) n .nilFunc
 |[]=>⟨rfl,rfl⟩
 |(f,c)::r=>by
  refine .inr ⟨by rw[zw];omega,?_⟩;have:(((f,c)::r).length:Int)-1=((r.length:Nat):Int):=by rw[zw];omega
  rw[this];exact qju r
theorem Rt{imm:Nat->Prop}{w:World}{n:Int}{v:Value}{f:Nat}{c:Bool}(hv:match c with|false=>v=.func (.func f) #[] #[]|true=>∃p,v=.func (.func f) #[] #[p]/\NX imm w n p):∀(a:List (Nat×Bool)) (i0 i:Nat),EK f c a i0=some i->∃j:Nat,i=i0+j/\vf imm w a (j:Int) n v
 |[],_,_,h=>by cases h
 |(g,d)::r,i0,i,h=>by
  unfold EK at h;cases hb:(Nat.beq g f&&(bif c then d else !d)) with
  |true=>
   rw[hb] at h;injection h with h;subst h;rw[zd] at hb;have h1:=zg hb.1;have h2:d=c:=by have:=hb.2;cases c<;>cases d<;>first|rfl|cases this
   subst h1 h2;exact⟨0,rfl,.inl ⟨rfl,hv⟩⟩
  |false=>
   rw[hb] at h;obtain⟨j,h1,h2⟩:=Rt hv r (i0+1) i h;refine⟨j+1,by omega,.inr ⟨by omega,?_⟩⟩;have:((j+1:Nat):Int)-1=(j:Int):=om
   rw[this];exact h2
theorem z09{α:Type}{g:Nat}{x:Option α}{i:α}(h:(bif Nat.blt g 1048576 then x else none)=some i):g<1048576/\x=some i:=by
 cases hb:Nat.blt g 1048576 with
 |false=>rw[hb] at h;cases h
 |true=>rw[hb] at h;exact⟨zF hb,h⟩
theorem qjv{a:List (Nat×Bool)}{v:V}{ps ba:PS}{f:∀r,ai r->den (.int .i64)×den (.int .i64)×ai r}(h:A5 lf o a v ps=some (ba,f)):(∃k n,v=.fa a k n/\ba=ps/\f=fun _ c=>(k,n,c))\/(v=.fG/\ba=ps/\f=fun _ c=>(Int.ofNat a.length,(0:Int),c))\/(∃g i,v=.fn g []/\g<1048576/\EK g false a 0=some i/\ba=ps/\f=fun _ c=>(Int.ofNat i,(0:Int),c))\/(∃g i w p,v=.fn g [w]/\g<1048576/\EK g true a 0=some i/\JB lf o (.int .i64) w ps=some (ba,p)/\f=fun r c=>(Int.ofNat i,p r c)):=by
 unfold A5 at h;split at h
 ·rename_i b k n;cases hb:JF b a<;>rw[hb] at h
  ·cases h
  ·have:=z08 hb;subst this;injection h with h;injection h with h1 h2;subst h1 h2;exact .inl ⟨k,n,rfl,rfl,rfl⟩
 ·injection h with h;injection h with h1 h2;subst h1 h2;refine .inr (.inl ⟨rfl,rfl,?_⟩);have:oq a 0=a.length:=by rw[QI,zL]
  rw[this]
 ·rename_i g;split at h
  ·rename_i i e;injection h with h;injection h with h1 h2;subst h1 h2;obtain⟨hc,e⟩:=z09 e;exact .inr (.inr (.inl ⟨g,i,rfl,hc,e,rfl,rfl⟩))
  ·cases h
 ·rename_i g w;split at h
  ·rename_i i e;split at h
   ·rename_i D8 p e2;injection h with h;injection h with h1 h2;subst h1 h2;obtain⟨hc,e⟩:=z09 e;exact .inr (.inr (.inr ⟨g,i,w,p,rfl,hc,e,e2,rfl⟩))
   ·cases h
  ·cases h
 ·cases h
theorem qfr{i:Nat}{v:V}{ps ba:PS}{f:∀r,ai r->den (.int .i64)×ai r}(h:Np o i v ps=some (ba,f)):∃id ver lo t s,v=.gN id ver lo/\o id=.vec t ver false s/\ba={tie i id ps with full:=id::ps.full}/\f=fun _ c=>((lo:den (.int .i64)),c):=by
 unfold Np at h;split at h
 ·rename_i id ver lo;split at h
  ·rename_i t aE s e;cases hb:Nat.beq ver aE<;>rw[hb] at h
   ·cases h
   ·have:=zg hb;subst this;injection h with h;injection h with h1 h2;subst h1 h2;exact⟨id,ver,lo,t,s,rfl,e,rfl,rfl⟩
  ·cases h
 ·cases h
theorem qoc{t:Ty}{v:V}{ps ba:PS}{f:∀r,ai r->den t×ai r}(h:PX lf o t v ps=some (ba,f)):eH ps ba/\∃x,ft lf o t v=some x/\ba={ps with cd:=eJ o v++ps.cd}/\f=fun _ c=>(x,c):=by
 unfold PX at h;split at h
 ·rename_i x e;injection h with h;injection h with h1 h2;subst h1 h2;exact⟨⟨fun _ h=>h,fun _ h=>h,fun _ h=>List.mem_append_right _ h,fun _ h=>h⟩,x,e,rfl,rfl⟩
 ·cases h
theorem Ru{t:Ty}{v:V}{ps ba:PS}{f:∀r,ai r->den t×ai r}(h:JB lf o t v ps=some (ba,f)):eH ps ba/\∃x,f=(fun _ c=>(x,c))/\((v=.ref t x/\ba=ps)\/(∃id,v=.ptr id 0/\rO lf o t id=some x/\ba={ps with cd:=id::(Ij o id++ps.cd)})):=by
 unfold JB at h;split at h
 ·split at h
  ·rename_i x e;injection h with h;injection h with h1 h2;subst h1 h2;obtain⟨rfl,rfl⟩:=wq e;exact⟨.refl _,_,rfl,.inl ⟨rfl,rfl⟩⟩
  ·cases h
 ·rename_i id off;cases hb:Nat.beq off 0<;>rw[hb] at h
  ·cases h
  ·have:=zg hb;subst this;simp only[cond_true] at h;split at h
   ·rename_i x e;injection h with h;injection h with h1 h2;subst h1 h2;exact⟨⟨fun _ h=>h,fun _ h=>h,fun _ h=>zh _ (List.mem_append_right _ h),fun _ h=>h⟩,x,rfl,.inr ⟨id,rfl,e,rfl⟩⟩
   ·cases h
 ·cases h
theorem qxy{t:Ty}{id kN:Nat}{x:den t}(h:PY lf o t id=some (kN,x)):o id=.box [.ptr kN 0]/\rO lf o t kN=some x:=by
 unfold PY at h;split at h
 ·rename_i i2 EH e;cases hb:Nat.beq EH 0<;>rw[hb] at h
  ·cases h
  ·have:=zg hb;subst this;simp only[cond_true] at h;split at h
   ·rename_i y e2;injection h with h;injection h with h1 h2;subst h1 h2;exact⟨e,e2⟩
   ·cases h
 ·cases h
theorem qjw{t:Ty}{v:V}{ps ba:PS}{f:∀r,ai r->den t×ai r}(h:EI lf o t v ps=some (ba,f)):eH ps ba/\∃x,f=(fun _ c=>(x,c))/\((v=.rr t x/\ba=ps)\/(∃id kN,v=.ptr id 0/\o id=.box [.ptr kN 0]/\rO lf o t kN=some x/\ba={ps with cd:=id::kN::(Ij o kN++ps.cd)})):=by
 unfold EI at h;split at h
 ·split at h
  ·rename_i x e;injection h with h;injection h with h1 h2;subst h1 h2;obtain⟨rfl,rfl⟩:=wq e;exact⟨.refl _,_,rfl,.inl ⟨rfl,rfl⟩⟩
  ·cases h
 ·rename_i id off;cases hb:Nat.beq off 0<;>rw[hb] at h
  ·cases h
  ·have:=zg hb;subst this;simp only[cond_true] at h;split at h
   ·rename_i kN x e;injection h with h;injection h with h1 h2;subst h1 h2;obtain⟨e1,e2⟩:=qxy e;exact⟨⟨fun _ h=>h,fun _ h=>h,fun _ h=>zh _ (zh _ (List.mem_append_right _ h)),fun _ h=>h⟩,x,rfl,.inr ⟨id,kN,rfl,e1,e2,rfl⟩⟩
   ·cases h
 ·cases h
theorem qtr{f:Nat}{v:V}{l:List V}(h:A6 f v=some l):v=.fn f l:=by
 unfold A6 at h;split at h
 ·rename_i f' l';cases hb:Nat.beq f f'<;>rw[hb] at h
  ·cases h
  ·have:=zg hb;injection h with h;subst this h;rfl
 ·cases h
theorem qqi{v:V}{l:List V}(h:Nq v=some l):v=.fY l:=by
 unfold Nq at h;split at h
 ·injection h with h;subst h;rfl
 ·cases h
theorem qts{v:V}{l:List V}(h:A7 v=some l):v=.agg l:=by
 unfold A7 at h;split at h
 ·injection h with h;subst h;rfl
 ·cases h
theorem Oq{vs:List V}{ps ba:PS}{f:∀r,ai r->ai (iC [] r)}(h:mI lf o [] vs ps=some (ba,f)):vs=[]/\ba=ps/\f=fun _ c=>c:=by have h:wi vs.isEmpty ps=some (ba,f):=h;obtain⟨h1,h2,h3⟩:=o5 h;exact⟨by simpa using h1,h2,h3⟩
theorem Km{s:Sh}{l:List Sh}{vs:List V}{ps ba:PS}{f:∀r,ai r->ai (iC (s::l) r)}(h:mI lf o (s::l) vs ps=some (ba,f)):∃v Fc kQ f1 g1,vs=v::Fc/\DO lf o s v ps=some (kQ,f1)/\mI lf o l Fc kQ=some (ba,g1)/\f=fun r c=>f1 _ (g1 r c):=by
 cases vs with
 |nil=>cases h
 |cons v vs=>
  have h:(match DO lf o s v ps with
   |some (ps,f)=>match mI lf o l vs ps with
    |some (ps,g)=>some (ps,fun r c=>f _ (g r c))
    |none=>none
   |none=>none)=some (ba,f):=h
  split at h
  ·rename_i kQ f1 h1;split at h
   ·rename_i D8 f2 h2;injection h with h;injection h with h3 h4;subst h3 h4;exact⟨v,vs,kQ,f1,f2,rfl,h1,h2,rfl⟩
   ·cases h
  ·cases h
theorem z0a{g:Nat}{l:List Sh}{v:V}{ps ba:PS}{f:∀r,ai r->ai (Ic (.fn g l) r)}(h:DO lf o (.fn g l) v ps=some (ba,f)):∃l',v=.fn g l'/\mI lf o l l' ps=some (ba,f):=by
 have h:(match A6 g v with|some l'=>mI lf o l l' ps|none=>none)=some (ba,f):=h;split at h
 ·rename_i l' e;exact⟨l',qtr e,h⟩
 ·cases h
theorem qtt{l:List Sh}{v:V}{ps ba:PS}{f:∀r,ai r->ai (Ic (.fY l) r)}(h:DO lf o (.fY l) v ps=some (ba,f)):∃l',v=.fY l'/\mI lf o l l' ps=some (ba,f):=by
 have h:(match Nq v with|some l'=>mI lf o l l' ps|none=>none)=some (ba,f):=h;split at h
 ·rename_i l' e;exact⟨l',qqi e,h⟩
 ·cases h
theorem qtu{l:List Sh}{v:V}{ps ba:PS}{f:∀r,ai r->ai (Ic (.agg l) r)}(h:DO lf o (.agg l) v ps=some (ba,f)):∃l',v=.agg l'/\mI lf o l l' ps=some (ba,f):=by
 have h:(match A7 v with|some l'=>mI lf o l l' ps|none=>none)=some (ba,f):=h;split at h
 ·rename_i l' e;exact⟨l',qts e,h⟩
 ·cases h
theorem Rv(s:Sh):z06 o s:=by
 refine Sh.rec (motive_1:=z06 o) (motive_2:=z07 o) ?_ ?_ ?_ ?_ ?_ ?_ ?_ ?_ ?_ ?_ ?_ ?_ ?_ ?_ ?_ ?_ ?_ ?_ ?_ ?_ s
 ·intro t v ps ba f h;obtain⟨h1,x,_,_,rfl⟩:=qoc (o:=o) h;exact⟨h1,fun _ _ _ _=>rfl⟩
 ·intro i v ps ba f h;obtain⟨h1,rfl⟩:=qqg (o:=o) h;exact⟨h1,fun _ _ _ _=>rfl⟩
 ·intro i off v ps ba f h;obtain⟨h1,rfl⟩:=qqh (o:=o) h;exact⟨h1,fun _ _ _ _=>rfl⟩
 ·intro t v ps ba f h;obtain⟨h1,x,rfl,_⟩:=Ru (o:=o) h;exact⟨h1,fun _ _ _ _=>rfl⟩
 ·intro v ps ba f h;obtain⟨_,rfl,rfl⟩:=o5 h;exact⟨.refl _,fun _ _ _ _=>rfl⟩
 ·intro g l ih v ps ba f h;obtain⟨l',rfl,h'⟩:=z0a h;obtain⟨h1,h2⟩:=ih _ _ _ _ h';exact⟨h1,h2⟩
 ·intro v ps ba f h;obtain⟨_,rfl,rfl⟩:=o5 h;exact⟨.refl _,fun _ _ _ _=>rfl⟩
 ·intro l ih v ps ba f h;obtain⟨l',rfl,h'⟩:=qtt h;obtain⟨h1,h2⟩:=ih _ _ _ _ h';exact⟨h1,h2⟩
 ·intro l ih v ps ba f h;obtain⟨l',rfl,h'⟩:=qtu h;obtain⟨h1,h2⟩:=ih _ _ _ _ h';exact⟨h1,h2⟩
 ·intro i v ps ba f h;obtain⟨h1,rfl⟩:=qtp (o:=o) h;exact⟨h1,fun _ _ _ _=>rfl⟩
 ·intro v ps ba f h;obtain⟨_,rfl,rfl⟩:=o5 h;exact⟨.refl _,fun _ _ _ _=>rfl⟩
 ·intro v ps ba f h;obtain⟨_,rfl,rfl⟩:=o5 h;exact⟨.refl _,fun _ _ _ _=>rfl⟩
 ·intro v ps ba f h;obtain⟨_,rfl,rfl⟩:=o5 (b:=true) (ps:=ps) h;exact⟨.refl _,fun _ _ _ _=>rfl⟩
 ·intro i v ps ba f h;obtain⟨id,b,cs,rfl,_,rfl,rfl⟩:=Rs (o:=o) h;exact⟨.tie _ _,fun _ _ _ _=>rfl⟩
 ·intro i v ps ba f h;obtain⟨id,ver,lo,t,s,rfl,_,rfl,rfl⟩:=qfr (o:=o) h;exact⟨⟨fun _ h=>zh _ h,fun _ h=>h,fun _ h=>h,fun _ h=>zh _ h⟩,fun _ _ _ _=>rfl⟩
 ·intro i v ps ba f h;obtain⟨h1,rfl⟩:=qtq (o:=o) h;exact⟨h1,fun _ _ _ _=>rfl⟩
 ·intro a v ps ba f h;rcases qjv (o:=o) h with ⟨k,n,rfl,rfl,rfl⟩|⟨rfl,rfl,rfl⟩|⟨g,i,rfl,_,_,rfl,rfl⟩|⟨g,i,w,p,rfl,_,_,h2,rfl⟩
  ·exact⟨.refl _,fun _ _ _ _=>rfl⟩
  ·exact⟨.refl _,fun _ _ _ _=>rfl⟩
  ·exact⟨.refl _,fun _ _ _ _=>rfl⟩
  ·obtain⟨h1,x,rfl,_⟩:=Ru (o:=o) h2;exact⟨h1,fun _ _ _ _=>rfl⟩
 ·intro t v ps ba f h;obtain⟨h1,x,rfl,_⟩:=qjw (o:=o) h;exact⟨h1,fun _ _ _ _=>rfl⟩
 ·intro vs ps ba f h;obtain⟨rfl,rfl,rfl⟩:=Oq h;exact⟨.refl _,fun _ _ _ _=>rfl⟩
 ·intro s l mZ nc vs ps ba f h;obtain⟨v,Fc,kQ,f1,g1,rfl,h1,h2,rfl⟩:=Km h;obtain⟨a1,a2⟩:=mZ _ _ _ _ h1;obtain⟨b1,b2⟩:=nc _ _ _ _ h2;refine⟨a1.trans b1,fun ρ κ r c=>?_⟩;show(fi ρ κ l r (kM ρ κ s (iC l r) (f1 _ (g1 r c))).2).2=c;rw[a2,b2]
theorem IN:∀l:List Sh,z07 o l
 |[]=>by intro vs ps ba f h;obtain⟨rfl,rfl,rfl⟩:=Oq h;exact⟨.refl _,fun _ _ _ _=>rfl⟩
 |s::l=>by intro vs ps ba f h;obtain⟨v,Fc,kQ,f1,g1,rfl,h1,h2,rfl⟩:=Km h;obtain⟨a1,a2⟩:=Rv s _ _ _ _ h1;obtain⟨b1,b2⟩:=IN l _ _ _ _ h2;refine⟨a1.trans b1,fun ρ κ r c=>?_⟩;show(fi ρ κ l r (kM ρ κ s (iC l r) (f1 _ (g1 r c))).2).2=c;rw[a2,b2]
theorem Ot{ct:Nat}{s:fv}{ps ba:PS}{f:∀r,ai r->ai (Ie s r)}(h:wM lf o ct s ps=some (ba,f)):eH ps ba/\∀(ρ κ:Nat->Nat) i r c,(fj ρ κ i s r (f r c)).2=c:=by
 cases s with
 |box l=>
  simp only[wM] at h;cases e:o ct<;>rw[e] at h<;>simp only at h<;>try (cases h;done)
  obtain⟨h1,h2⟩:=IN l _ _ _ _ h;exact⟨h1,fun ρ κ i r c=>h2 ρ κ r c⟩
 |vec t=>
  simp only[wM] at h;split at h
  ·split at h
   ·split at h
    ·injection h with h;injection h with h1 h2;subst h1 h2;exact⟨.refl _,fun _ _ _ _ _=>rfl⟩
    ·injection h with h;injection h with h1 h2;subst h1 h2;exact⟨⟨fun _ h=>h,fun _ h=>h,fun _ h=>h,fun _ h=>zh _ h⟩,fun _ _ _ _ _=>rfl⟩
   ·cases h
  ·cases h
 |map k v=>
  simp only[wM] at h;split at h
  ·split at h
   ·injection h with h;injection h with h1 h2;subst h1 h2;exact⟨.refl _,fun _ _ _ _ _=>rfl⟩
   ·cases h
  ·cases h
 |gone=>simp only[wM] at h;injection h with h;injection h with h1 h2;subst h1 h2;exact⟨.refl _,fun _ _ _ _ _=>rfl⟩
 |iter=>
  simp only[wM] at h;split at h
  ·injection h with h;injection h with h1 h2;subst h1 h2;exact⟨.refl _,fun _ _ _ _ _=>rfl⟩
  ·cases h
def Bp(o:Nat->Obj)(psF:PS)(i:Nat)(sh:fv)(ob:Obj):Prop:=(sh=.gone/\ob=.dead)\/∃ct AK wv f,(i,ct)∈psF.aQ/\wM lf o ct sh AK=some (wv,f)/\eH wv psF/\∃r c,ob=(fj cg bO i sh r (f r c)).1
def Rw(o:Nat->Obj)(psF:PS):Nat->List fv->List (Nat×Obj)->Prop
 |_,[],os=>os=[]
 |i,s::l,os=>∃ob r,os=(i,ob)::r/\Bp o psF i s ob/\Rw o psF (i+1) l r
theorem Fe:∀{l:List (Nat×Nat)} {i x:Nat},gO i l=some x->(i,x)∈l
 |(a,b)::r,i,x,h=>by
  simp only[gO] at h;cases hb:Nat.beq a i with
  |true=>rw[hb] at h;have h1:=zg hb;have h2:=zI h;subst h1 h2;exact zf ..
  |false=>rw[hb] at h;exact zh _ (Fe h)
theorem IP{psF:PS}:∀(l:List fv) (i:Nat) (ps ba:PS) (g:∀r,ai r->ai (bS l r)),mX lf o i l ps=some (ba,g)->eH ps ba/\(eH ba psF->∀r c,Rw o psF i l (fH cg bO i l r (g r c)))
 |[],i,ps,ba,g,h=>by simp only[mX] at h;injection h with h;injection h with h1 h2;subst h1 h2;exact⟨.refl _,fun _ _ _=>rfl⟩
 |.gone::l,i,ps,ba,g,h=>by
  simp only[mX] at h;split at h
  ·rename_i kQ g1 h1;injection h with h;injection h with h2 h3;subst h2 h3;obtain⟨a1,a2⟩:=IP l (i+1) _ _ _ h1;exact⟨a1,fun hm r c=>⟨.dead,_,rfl,.inl ⟨rfl,rfl⟩,a2 hm r c⟩⟩
  ·cases h
 |.box q::l,i,ps,ba,g,h=>by
  simp only[mX] at h;split at h
  ·rename_i ct h0;split at h
   ·rename_i kQ f1 h1;split at h
    ·rename_i D8 g2 h2;injection h with h;injection h with h3 h4;subst h3 h4;obtain⟨b1,b2⟩:=Ot h1;obtain⟨a1,a2⟩:=IP l (i+1) _ _ _ h2;refine⟨b1.trans a1,fun hm r c=>⟨_,_,rfl,.inr ⟨ct,ps,kQ,f1,hm.aQ _ ((b1.trans a1).aQ _ (Fe h0)),h1,a1.trans hm,_,_,rfl⟩,?_⟩⟩;rw[b2];exact a2 hm r c
    ·cases h
   ·cases h
  ·cases h
 |.vec q::l,i,ps,ba,g,h=>by
  simp only[mX] at h;split at h
  ·rename_i ct h0;split at h
   ·rename_i kQ f1 h1;split at h
    ·rename_i D8 g2 h2;injection h with h;injection h with h3 h4;subst h3 h4;obtain⟨b1,b2⟩:=Ot h1;obtain⟨a1,a2⟩:=IP l (i+1) _ _ _ h2;refine⟨b1.trans a1,fun hm r c=>⟨_,_,rfl,.inr ⟨ct,ps,kQ,f1,hm.aQ _ ((b1.trans a1).aQ _ (Fe h0)),h1,a1.trans hm,_,_,rfl⟩,?_⟩⟩;rw[b2];exact a2 hm r c
    ·cases h
   ·cases h
  ·cases h
 |.map q q'::l,i,ps,ba,g,h=>by
  simp only[mX] at h;split at h
  ·rename_i ct h0;split at h
   ·rename_i kQ f1 h1;split at h
    ·rename_i D8 g2 h2;injection h with h;injection h with h3 h4;subst h3 h4;obtain⟨b1,b2⟩:=Ot h1;obtain⟨a1,a2⟩:=IP l (i+1) _ _ _ h2;refine⟨b1.trans a1,fun hm r c=>⟨_,_,rfl,.inr ⟨ct,ps,kQ,f1,hm.aQ _ ((b1.trans a1).aQ _ (Fe h0)),h1,a1.trans hm,_,_,rfl⟩,?_⟩⟩;rw[b2];exact a2 hm r c
    ·cases h
   ·cases h
  ·cases h
 |.iter::l,i,ps,ba,g,h=>by
  simp only[mX] at h;split at h
  ·rename_i ct h0;split at h
   ·rename_i kQ f1 h1;split at h
    ·rename_i D8 g2 h2;injection h with h;injection h with h3 h4;subst h3 h4;obtain⟨b1,b2⟩:=Ot h1;obtain⟨a1,a2⟩:=IP l (i+1) _ _ _ h2;refine⟨b1.trans a1,fun hm r c=>⟨_,_,rfl,.inr ⟨ct,ps,kQ,f1,hm.aQ _ ((b1.trans a1).aQ _ (Fe h0)),h1,a1.trans hm,_,_,rfl⟩,?_⟩⟩;rw[b2];exact a2 hm r c
    ·cases h
   ·cases h
  ·cases h
end
theorem qoe{n:Nat}{x:Option Nat}(h:PW n x=true):x=some n:=by
 cases x with
 |none=>cases h
 |some m=>exact congrArg some (zg h)
theorem Ou{x:Option Nat}(h:JA x=true):x=none:=by
 cases x with
 |none=>rfl
 |some m=>cases h
theorem qft{k:Nat}{all:List (Nat×Nat)}:∀{l:List (Nat×Nat)},Nh k all l=true->∀p,p∈l->p.1<k/\gO p.1 all=some p.2/\Ng p.2 all=some p.1
 |(i,ct)::r,h,p,hp=>by
  simp only[Nh,zd] at h;obtain⟨⟨⟨h1,h2⟩,h3⟩,h4⟩:=h;rcases zt.1 hp with rfl|hp
  ·exact⟨zF h1,qoe h2,qoe h3⟩
  ·exact qft h4 p hp
theorem qfu{id n:Nat}:∀{l:List (Nat×Nat)},(id,n)∈l->∃m,gO id l=some m
 |(i,m)::r,h=>by
  simp only[gO];cases hb:Nat.beq i id with
  |true=>exact⟨m,rfl⟩
  |false=>
   rcases zt.1 h with h|h
   ·injection h with h _;subst h;rw[Nat.beq_refl] at hb;cases hb
   ·exact qfu h
theorem qfv:∀{l:List (Nat×Nat)},Ni l=true->∀p,p∈l->gO p.1 l=some p.2
 |(i,n)::r,h,p,hp=>by
  simp only[Ni,zd] at h;simp only[gO];rcases zt.1 hp with rfl|hc
  ·rw[Nat.beq_refl];rfl
  ·cases hb:Nat.beq i p.1 with
   |true=>have:=zg hb;subst this;obtain⟨m,hm⟩:=qfu (id:=p.1) (n:=p.2) hc;rw[Ou h.1] at hm;cases hm
   |false=>exact qfv h.2 p hc
theorem qdo{cut:List (Nat×Nat)}:∀{l:List Nat},Nj cut l=true->∀p,p∈l->gO p cut=none
 |i::r,h,p,hp=>by
  simp only[Nj,zd] at h;rcases zt.1 hp with rfl|hp
  ·exact Ou h.1
  ·exact qdo h.2 p hp
theorem qxz{aQ:List (Nat×Nat)}:∀{i j:Nat},(i,j)∈aQ->wJ j aQ=true:=by
 induction aQ with
 |nil=>intro i j h;cases h
 |cons p r ih=>
  obtain⟨a,b⟩:=p;intro i j h;simp only[wJ];rcases zt.1 h with h|h
  ·injection h with _ h;subst h;rw[Nat.beq_refl];rfl
  ·cases hb:Nat.beq b j
   ·exact ih h
   ·rfl
theorem qdp{aQ:List (Nat×Nat)}:∀{l:List Nat},Nk l aQ=true->∀j,j∈l->∀i,(i,j)∉aQ
 |a::r,h,j,hj,i,hi=>by
  simp only[Nk] at h;cases hb:wJ a aQ with
  |true=>rw[hb] at h;cases h
  |false=>
   rw[hb] at h;rcases zt.1 hj with rfl|hj
   ·rw[qxz hi] at hb;cases hb
   ·exact qdp h j hj i hi
section
variable {C:Cx} {X:Nat→Prop} {φ:Nat→Addr} {o:Nat→Obj} {w:World} {imm imm':Nat→Prop}
theorem qjx(hl:∀id,o3 φ o imm w id (o id))(hi:∀b,imm b->imm' b){t:Ty}{x:V}{d:den t}{z:Value}(hx:au φ o imm w x z)(hf:∀id,id∈eJ o x->∀t ver s,o id=.vec t ver false s->s.nil=false->(φ id).spot=none->imm' (φ id).block)(h:iQ lf o t x=some d):aX imm' w t d z:=by
 rcases N1 h with rfl|⟨e',ht,s',h1,h2⟩|⟨e',ht,rfl,h2⟩
 ·exact rT hi (fun _ _=>rfl) _ _ _ hx
 ·subst ht;subst h2;obtain⟨⟨g1,g2⟩,id,ver,fr,s0,g3,g4,g5,g6,g8⟩:=N0 hl hx h1;refine⟨z,rfl,g1,?_⟩;rcases g2 with g2|⟨hn,a,cap,ec,h5,h6,h7,h8,h9⟩
  ·exact .inl g2
  ·refine .inr ⟨hn,a,cap,ec,h5,h6,fun hc=>?_,nD (gG hi (fun _ _=>rfl) _) h7,h8,h9⟩;rw[g4 hn _ _ _ h5];have ho:=hl id;rw[g3] at ho;obtain⟨_,_,ho⟩:=ho;rcases ho (g5▸hn) with ⟨g9,_,_,_,_,_,g7⟩|⟨_,g7,_⟩
   ·cases e:fr with
    |false=>subst e;exact hf id (g6 rfl) _ _ _ g3 (g5▸hn) g9
    |true=>exact hi _ (g7 e)
   ·exact absurd (g8 g7) hc
 ·subst ht;subst h2;exact⟨z,rfl,Nat.zero_le _,.inl ⟨rfl,rfl,hx⟩⟩
theorem qof(hl:∀id,o3 φ o imm w id (o id))(hi:∀b,imm b->imm' b){t:Ty}{x:V}{d:den t}{z:Value}(hx:au φ o imm w x z)(hf:∀id,id∈eJ o x->∀t ver s,o id=.vec t ver false s->s.nil=false->(φ id).spot=none->imm' (φ id).block)(h:mW lf o t x=some d):aX imm' w t d z:=by
 rcases N2 h with h|⟨p,ht,s,h1,h2⟩
 ·exact qjx hl hi hx hf h
 ·subst ht;subst h2;have h3:aC imm' w (.sl (mH p)) s [z]:=qjx hl hi hx hf h1;show aC imm' w (.ks p) (H8 p s) [z];rw[Iy,QE];exact h3
def Bq(φ:Nat->Addr)(o:Nat->Obj)(imm':Nat->Prop)(x:V):Prop:=∀id,id∈eJ o x->∀t ver s,o id=.vec t ver false s->s.nil=false->(φ id).spot=none->imm' (φ id).block
theorem Rx(hl:∀id,o3 φ o imm w id (o id))(hi:∀b,imm b->imm' b):∀(t:Ty) (cs r:List V) (d:den t) (zs:List Value),bW φ o imm w cs zs->(∀c,c∈cs->Bq φ o imm' c)->lL lf o t cs=some (d,r)->∃zc zr,zs=zc++zr/\aC imm' w t d zc/\bW φ o imm w r zr/\(∀c,c∈r->Bq φ o imm' c):=by
 have one:∀(t:Ty) (cs r:List V) (d:den t) (zs:List Value),bW φ o imm w cs zs->(∀c,c∈cs->Bq φ o imm' c)->
   (match cs with|c::r=>(match mW lf o t c with|some x=>some (x,r)|none=>none)|[]=>none)=some (d,r)->
   ∃z zr,zs=z::zr/\aX imm' w t d z/\bW φ o imm w r zr/\(∀c,c∈r->Bq φ o imm' c):=by
  intro t cs r d zs hr hf h;cases cs with
  |nil=>cases h
  |cons c cs=>
   simp only at h;split at h
   ·rename_i x hx;injection h with h;injection h with h1 h2;subst h1 h2;obtain⟨z,zr,h3,h4,h5⟩:=hr;exact⟨z,zr,h3,qof hl hi h4 (hf _ (zf ..)) hx,h5,fun c hc=>hf c (zh _ hc)⟩
   ·cases h
 intro t
 induction t with
 |unit=>intro cs r d zs hr hf h;simp only[lL,zH,Prod.mk.injEq] at h;obtain⟨_,rfl⟩:=h;exact⟨[],zs,rfl,rfl,hr,hf⟩
 |pair a b nf jF=>
  intro cs r d zs hr hf h;simp only[lL] at h;split at h
  ·rename_i x r1 h1;split at h
   ·rename_i y r2 h2;injection h with h;injection h with h3 h4;subst h3 h4;obtain⟨zc,zr,e1,e2,e3,e4⟩:=nf _ _ _ _ hr hf h1;obtain⟨Kc,QU,g1,g2,g3,g4⟩:=jF _ _ _ _ e3 e4 h2;exact⟨zc++Kc,QU,by rw[e1,g1,zD],⟨zc,Kc,rfl,e2,g2⟩,g3,g4⟩
   ·cases h
  ·cases h
 |st p ih=>intro cs r d zs hr hf h;exact ih _ _ _ _ hr hf h
 |arr n e _=>intro cs r d zs hr hf h;cases h
 |int k=>intro cs r d zs hr hf h;obtain⟨z,zr,e1,e2,e3⟩:=one _ cs r d zs hr hf (by cases cs<;>exact h);exact⟨[z],zr,e1,e2,e3⟩
 |bool=>intro cs r d zs hr hf h;obtain⟨z,zr,e1,e2,e3⟩:=one _ cs r d zs hr hf (by cases cs<;>exact h);exact⟨[z],zr,e1,e2,e3⟩
 |eD=>intro cs r d zs hr hf h;obtain⟨z,zr,e1,e2,e3⟩:=one _ cs r d zs hr hf (by cases cs<;>exact h);exact⟨[z],zr,e1,e2,e3⟩
 |eU=>intro cs r d zs hr hf h;obtain⟨z,zr,e1,e2,e3⟩:=one _ cs r d zs hr hf (by cases cs<;>exact h);exact⟨[z],zr,e1,e2,e3⟩
 |str=>intro cs r d zs hr hf h;obtain⟨z,zr,e1,e2,e3⟩:=one _ cs r d zs hr hf (by cases cs<;>exact h);exact⟨[z],zr,e1,e2,e3⟩
 |sl e _=>intro cs r d zs hr hf h;obtain⟨z,zr,e1,e2,e3⟩:=one _ cs r d zs hr hf (by cases cs<;>exact h);exact⟨[z],zr,e1,e2,e3⟩
 |ks e _=>intro cs r d zs hr hf h;obtain⟨z,zr,e1,e2,e3⟩:=one _ cs r d zs hr hf (by cases cs<;>exact h);exact⟨[z],zr,e1,e2,e3⟩
theorem qby:∀{cs:List V},Bq φ o imm' (.agg cs)->∀c,c∈cs->Bq φ o imm' c
 |c'::cs,h,c,hc,id,hi=>by
  rcases zt.1 hc with rfl|hc
  ·exact h id (by unfold eJ pt;exact List.mem_append_left _ hi)
  ·exact qby (cs:=cs) (fun id hi=>h id (by unfold eJ at hi ⊢;unfold pt;exact List.mem_append_right _ hi)) c hc id hi
theorem qtv(hl:∀id,o3 φ o imm w id (o id))(hi:∀b,imm b->imm' b){t:Ty}{x:V}{d:den t}{z:Value}(hx:au φ o imm w x z)(hf:Bq φ o imm' x)(h:ft lf o t x=some d):aX imm' w t d z:=by
 by_cases hc:∃cs,x=.agg cs
 ·obtain⟨cs,rfl⟩:=hc;simp only[ft] at h;split at h
  ·rename_i p;split at h
   ·rename_i y h1;injection h with h;subst h;obtain⟨c,rfl,hr⟩:=hx;obtain⟨zc,zr,e1,e2,e3,_⟩:=Rx hl hi _ _ _ _ _ hr (qby hf) h1;have:zr=[]:=e3;subst this;exact⟨c,rfl,by rw[e1,zE];exact e2⟩
   ·cases h
  ·cases h
 ·have:ft lf o t x=mW lf o t x:=by cases x<;>first|rfl|exact absurd ⟨_,rfl⟩ hc
  exact qof hl hi hx hf (this▸h)
structure bQ (o:Nat->Obj) (psF:PS) (k:Nat) (ay:List fv) (oc:Nat->Obj):Prop where
 fin:EG k psF=true
 len:ay.length=k
 ob:∀i sh,ay[i]?=some sh->Bp o psF i sh (oc i)
 none:∀i,k<=i->oc i=.none
def vh(psF:PS)(i:Nat):Nat:=(gO i psF.aQ).getD 0
theorem bQ.aQ{psF:PS}{k:Nat}{ay:List fv}{oc:Nat->Obj}(h:bQ o psF k ay oc){i ct:Nat}(hp:(i,ct)∈psF.aQ):i<k/\vh psF i=ct/\Ng ct psF.aQ=some i:=by have hf:=h.fin;unfold EG at hf;simp only[zd] at hf;obtain⟨h1,h2,h3⟩:=qft hf.1.1.1 _ hp;exact⟨h1,by unfold vh;rw[h2];rfl,h3⟩
theorem bQ.cd{psF:PS}{k:Nat}{ay:List fv}{oc:Nat->Obj}(h:bQ o psF k ay oc){i ct:Nat}(hp:(i,ct)∈psF.aQ):ct∉psF.cd:=fun hl=>by have hf:=h.fin;unfold EG at hf;simp only[zd] at hf;exact qdp hf.2 ct hl i hp
theorem bQ.cut{psF:PS}{k:Nat}{ay:List fv}{oc:Nat->Obj}(h:bQ o psF k ay oc){id n:Nat}(hp:(id,n)∈psF.cut):gO id psF.cut=some n:=by have hf:=h.fin;unfold EG at hf;simp only[zd] at hf;exact qfv hf.1.1.2 _ hp
theorem bQ.full{psF:PS}{k:Nat}{ay:List fv}{oc:Nat->Obj}(h:bQ o psF k ay oc){id:Nat}(hp:id∈psF.full):gO id psF.cut=.none:=by have hf:=h.fin;unfold EG at hf;simp only[zd] at hf;exact qdo hf.1.2 _ hp
noncomputable def Br{t:Ty}(s:Sl (den t)):Option Nat->Sl (den t)
 |some n=>⟨s.nil,lf.aN s.l n⟩
 |none=>s
theorem bQ.kind{psF:PS}{k:Nat}{ay:List fv}{oc:Nat->Obj}(h:bQ o psF k ay oc){i:Nat}(hi:i<k):oc i=.dead\/∃ct,(i,ct)∈psF.aQ/\((∃l cs AK wv f r c,o ct=.box cs/\mI lf o l cs AK=some (wv,f)/\eH wv psF/\oc i=.box (fi cg bO l r (f r c)).1)\/(∃t ver s,o ct=.vec t ver false s/\oc i=.vec t 0 false (Br s (gO ct psF.cut)))\/(∃k v m,o ct=.map k v m/\oc i=.map k v m)\/(∃l p,o ct=.iter l p/\oc i=.iter l p)):=by
 have hc:i<ay.length:=by rw[h.len];exact hi
 rcases h.ob i _ (ze hc) with ⟨_,h1⟩|⟨ct,AK,wv,f,h1,h2,h3,r,c,h4⟩
 ·exact .inl h1
 ·generalize hg:ay[i]=sh at*
  cases sh with
  |gone=>exact .inl h4
  |box l=>
   have h2:(match o ct with|.box cs=>mI lf o l cs AK|_=>.none)=some (wv,f):=h2;cases e:o ct<;>rw[e] at h2<;>try (cases h2;done)
   exact .inr ⟨ct,h1,.inl ⟨l,_,AK,wv,f,r,c,e,h2,h3,h4⟩⟩
  |vec t=>
   simp only[wM] at h2;cases e:o ct<;>rw[e] at h2<;>try (cases h2;done)
   rename_i t' ver fr s;cases fr<;>try (cases h2;done)
   simp only at h2;split at h2
   ·rename_i s' hs;obtain⟨ht,hs⟩:=wq hs;injection ht with ht;subst ht;subst hs;refine .inr ⟨ct,h1,.inr (.inl ⟨t',ver,_,e,?_⟩)⟩;split at h2
    ·rename_i n hn;injection h2 with h2;injection h2 with h5 h6;subst h5 h6;rw[h4,h.cut (h3.cut _ (Fe hn))];rfl
    ·injection h2 with h2;injection h2 with h5 h6;subst h5 h6;rw[h4,h.full (h3.full _ (zf ..))];rfl
   ·cases h2
  |map kt vt=>
   simp only[wM] at h2;cases e:o ct<;>rw[e] at h2<;>try (cases h2;done)
   rename_i k' v' m;simp only at h2;split at h2
   ·rename_i m' hs;obtain⟨ht,hs⟩:=wq hs;injection ht with _ ht;injection ht with he hf;subst he hf;subst hs;injection h2 with h2;injection h2 with h5 h6;subst h5 h6;exact .inr ⟨ct,h1,.inr (.inr (.inl ⟨_,_,_,e,h4⟩))⟩
   ·cases h2
  |iter=>
   simp only[wM] at h2;cases e:o ct<;>rw[e] at h2<;>try (cases h2;done)
   injection h2 with h2;injection h2 with h5 h6;subst h5 h6;exact .inr ⟨ct,h1,.inr (.inr (.inr ⟨_,_,e,h4⟩))⟩
end
section
variable {C:Cx} {X:Nat→Prop} {φ:Nat→Addr} {o oc:Nat→Obj} {w:World} {psF:PS} {k:Nat} {ay:List fv}
def eQ(φ:Nat->Addr)(psF:PS):Nat->Addr:=fun i=>φ (vh psF i)
def XC(X:Nat->Prop)(φ:Nat->Addr)(o oc:Nat->Obj)(psF:PS)(b:Nat):Prop:=X b\/∃id,aV (φ id) (o id)=true/\(φ id).block=b/\id∉psF.cd/\¬∃i,aV (eQ φ psF i) (oc i)=true/\vh psF i=id
theorem bQ.Ff(h:bQ o psF k ay oc){i:Nat}(hx:aV (eQ φ psF i) (oc i)=true):i<k/\(i,vh psF i)∈psF.aQ/\aV (φ (vh psF i)) (o (vh psF i))=true:=by
 have hi:i<k:=zK fun hn=>by rw[h.none i om] at hx;exact lG hx
 rcases h.kind hi with h1|⟨ct,h1,h2⟩
 ·rw[h1] at hx;simp[aV,live] at hx
 ·have:=(h.aQ h1).2.1;unfold eQ at hx;rw[this] at hx ⊢;refine⟨hi,h1,?_⟩;rcases h2 with ⟨l,cs,AK,wv,f,r,c,e,_⟩|⟨t,ver,s,e,e'⟩|⟨_,_,m,e,_⟩|⟨_,_,e,_⟩
  ·rw[e];rfl
  ·rw[e'] at hx;obtain⟨hn,_,hs⟩:=Bg hx;have hn:s.nil=false:=by cases hc:gO ct psF.cut<;>rw[hc] at hn<;>simpa[Br] using hn
   rw[e];exact tG hn hs
  ·rw[e];rfl
  ·rw[e];rfl
theorem bQ.gV(h:bQ o psF k ay oc){b:Nat}(hb:px (eQ φ psF) oc b):px φ o b:=by obtain⟨i,h1,h2⟩:=hb;exact⟨vh psF i,(h.Ff h1).2.2,h2⟩
theorem bQ.imm(h:bQ o psF k ay oc){b:Nat}(hb:ah X φ o w b):ah (XC X φ o oc psF) (eQ φ psF) oc w b:=by
 obtain⟨h1,h2,h3⟩:=hb;refine⟨h1,?_,fun hn=>h3 (h.gV hn)⟩;rintro(hx|⟨id,e1,e2,_⟩)
 ·exact h2 hx
 ·exact h3 ⟨id,e1,e2⟩
theorem bQ.nJ(h:bQ o psF k ay oc)(hm:MRel C X φ o w){id:Nat}(hx:aV (φ id) (o id)=true)(hl:id∈psF.cd):ah (XC X φ o oc psF) (eQ φ psF) oc w (φ id).block:=by
 obtain⟨h1,h2⟩:=hm.sep id hx;refine⟨h1,?_,fun⟨i,e1,e2⟩=>?_⟩
 ·rintro(hc|⟨oA,e1,e2,e3,_⟩)
  ·exact h2 hc
  ·have:=hm.inj oA id e1 hx e2;exact e3 (this▸hl)
 ·obtain⟨_,g1,g2⟩:=h.Ff e1;have:=hm.inj _ id g2 hx e2;exact h.cd g1 (this▸hl)
def Ov(φ:Nat->Addr)(o oc:Nat->Obj)(imm Fg:Nat->Prop)(w:World)(psF:PS)(s:Sh):Prop:=∀v z ps ba f,au φ o imm w v z->DO lf o s v ps=some (ba,f)->eH ba psF->
 ∀r c,au (eQ φ psF) oc Fg w (kM cg bO s r (f r c)).1 z
def z3j(φ:Nat->Addr)(o oc:Nat->Obj)(imm Fg:Nat->Prop)(w:World)(psF:PS)(l:List Sh):Prop:=∀vs zs ps ba f,bW φ o imm w vs zs->mI lf o l vs ps=some (ba,f)->eH ba psF->
 ∀r c,bW (eQ φ psF) oc Fg w (fi cg bO l r (f r c)).1 zs
theorem AL(h:bQ o psF k ay oc){i id:Nat}(hp:(i,id)∈psF.aQ):oc i=.dead\/((∃cs kC,o id=.box cs/\oc i=.box kC)\/(∃t ver s,o id=.vec t ver false s/\oc i=.vec t 0 false (Br s (gO id psF.cut)))\/(∃k v m,o id=.map k v m/\oc i=.map k v m)\/(∃l p,o id=.iter l p/\oc i=.iter l p))/\eQ φ psF i=φ id:=by
 obtain⟨h1,h2,_⟩:=h.aQ hp;rcases h.kind h1 with h3|⟨ct,h3,h4⟩
 ·exact .inl h3
 ·have:=(h.aQ h3).2.1;rw[h2] at this;subst this;refine .inr ⟨?_,by unfold eQ;rw[h2]⟩;rcases h4 with ⟨l,cs,AK,wv,f,r,c,e,_,_,e'⟩|h4|h4|h4
  ·exact .inl ⟨cs,_,e,e'⟩
  ·exact .inr (.inl h4)
  ·exact .inr (.inr (.inl h4))
  ·exact .inr (.inr (.inr h4))
theorem Ry:∀{cs:List V} {q:V} {id:Nat},q∈cs->id∈eJ o q->id∈pt o cs
 |c::cs,q,id,hq,hi=>by
  unfold pt;rcases zt.1 hq with rfl|hq
  ·exact List.mem_append_left _ hi
  ·exact List.mem_append_right _ (Ry hq hi)
theorem qog(hm:MRel C X φ o w)(h:bQ o psF k ay oc)(t:Ty):Ov φ o oc (ah X φ o w) (ah (XC X φ o oc psF) (eQ φ psF) oc w) w psF (.ref t):=by
 intro v z ps ba f hv hp hM r c;obtain⟨_,x,rfl,hx⟩:=Ru (o:=o) hp;show au (eQ φ psF) oc _ w (.ref t x) z;rcases hx with ⟨rfl,rfl⟩|⟨id,rfl,hb,rfl⟩
 ·obtain⟨a,cs,h1,h2,h3,h4,h5⟩:=hv;exact⟨a,cs,h1,h2,h.imm h3,gG (fun b hb=>h.imm hb) (fun _ _=>rfl) _ _ _ h4,h5⟩
 ·unfold rO at hb;split at hb
  ·rename_i cs e;split at hb
   ·rename_i y hy;injection hb with hb;subst hb;have he:aV (φ id) (o id)=true:=by rw[e];rfl
    have hc:id∈psF.cd:=hM.cd _ (zf ..);have ho:=hm.ay id;unfold au at hv;rw[e] at hv ho;simp only at hv;subst hv;obtain⟨h0,cz,el,lo,hj,g1,g2,g3⟩:=ho;have hf:∀q,q∈cs->Bq φ o (ah (XC X φ o oc psF) (eQ φ psF) oc w) q:=by intro q hq oA hi t ver s e' hn hs;refine h.nJ hm (by rw[e'];exact tG hn hs) (hM.cd _ (zh _ (List.mem_append_left _ ?_)));unfold Ij;rw[e];exact Ry hq hi
    obtain⟨zc,zr,a1,a2,a3,_⟩:=Rx hm.ay (fun b hb=>h.imm hb) _ _ _ _ _ g3 hf hy;have:zr=[]:=a3;subst this;refine⟨_,zc,rfl,rfl,h.nJ hm he hc,a2,?_⟩;have:=Ke g1 0 cz.size;rw[List.drop_zero,a1,zE] at this;have hg:zc.length=cz.size:=by rw[<-Array.length_toList,a1,zE]
    rw[<-hg,List.take_length] at this;rw[h0,zL];exact this
   ·cases hb
  ·cases hb
theorem z1m(hm:MRel C X φ o w)(h:bQ o psF k ay oc)(t:Ty):Ov φ o oc (ah X φ o w) (ah (XC X φ o oc psF) (eQ φ psF) oc w) w psF (.rr t):=by
 intro v z ps ba f hv hp hM r c;obtain⟨_,x,rfl,hx⟩:=qjw (o:=o) hp;show au (eQ φ psF) oc _ w (.rr t x) z;rcases hx with ⟨rfl,rfl⟩|⟨id,kN,rfl,hg,hb,rfl⟩
 ·obtain⟨a,b,cs,h1,h2,h3,h4,h5,h6,h7,h8⟩:=hv;exact⟨a,b,cs,h1,h2,h.imm h3,h4,h5,h.imm h6,gG (fun b hb=>h.imm hb) (fun _ _=>rfl) _ _ _ h7,h8⟩
 ·unfold rO at hb;split at hb
  ·rename_i cs e;split at hb
   ·rename_i y hy;injection hb with hb;subst hb;have hc:aV (φ id) (o id)=true:=by rw[hg];rfl
    have hk:aV (φ kN) (o kN)=true:=by rw[e];rfl
    have hl:id∈psF.cd:=hM.cd _ (zf ..);have he:kN∈psF.cd:=hM.cd _ (zh _ (zf ..));have hj:=hm.ay id;have ho:=hm.ay kN;unfold au at hv;rw[hg] at hv hj;rw[e] at ho;simp only at hv;subst hv;obtain⟨k0,cz1,el1,lo1,hu,q1,q2,q3⟩:=hj;obtain⟨zp,rp,p1,p2,p3⟩:=q3;have p3:rp=[]:=p3;have p2:au φ o (ah X φ o w) w (.ptr kN 0) zp:=p2;unfold au at p2;rw[e] at p2;simp only at p2;subst p2 p3;obtain⟨h0,cz,el,lo,hw,g1,g2,g3⟩:=ho;have ht:∀q,q∈cs->Bq φ o (ah (XC X φ o oc psF) (eQ φ psF) oc w) q:=by intro q hq oA hi t ver s e' hn hs;refine h.nJ hm (by rw[e'];exact tG hn hs) (hM.cd _ (zh _ (zh _ (List.mem_append_left _ ?_))));unfold Ij;rw[e];exact Ry hq hi
    obtain⟨zc,zr,a1,a2,a3,_⟩:=Rx hm.ay (fun b hb=>h.imm hb) _ _ _ _ _ g3 ht hy;have:zr=[]:=a3;subst this;refine⟨⟨(φ id).block,(φ id).off+0,none⟩,⟨(φ kN).block,(φ kN).off+0,none⟩,zc,rfl,rfl,h.nJ hm hc hl,?_,rfl,h.nJ hm hk he,a2,?_⟩
    ·have:=Ke q1 0 cz1.size;rw[List.drop_zero,p1] at this;have hf:[Value.pointer (some ⟨(φ kN).block,(φ kN).off+0,none⟩)].length=cz1.size:=by rw[<-Array.length_toList,p1]
     rw[<-hf,List.take_length] at this;rw[k0,zL];exact this
    ·have:=Ke g1 0 cz.size;rw[List.drop_zero,a1,zE] at this;have hf:zc.length=cz.size:=by rw[<-Array.length_toList,a1,zE]
     rw[<-hf,List.take_length] at this;rw[h0,zL];exact this
   ·cases hb
  ·cases hb
theorem Rz(hm:MRel C X φ o w)(h:bQ o psF k ay oc)(s:Sh):Ov φ o oc (ah X φ o w) (ah (XC X φ o oc psF) (eQ φ psF) oc w) w psF s:=by
 refine Sh.rec (motive_1:=Ov φ o oc (ah X φ o w) (ah (XC X φ o oc psF) (eQ φ psF) oc w) w psF) (motive_2:=z3j φ o oc (ah X φ o w) (ah (XC X φ o oc psF) (eQ φ psF) oc w) w psF)
  ?_ ?_ ?_ ?_ ?_ ?_ ?_ ?_ ?_ ?_ ?_ ?_ ?_ ?_ ?_ ?_ ?_ ?_ ?_ ?_ s
 ·intro t v z ps ba f hv hp hM r c;obtain⟨_,x,h1,rfl,rfl⟩:=qoc (o:=o) hp;refine qtv hm.ay (fun b hb=>h.imm hb) hv (fun id hi t ver s e hn hs=>h.nJ hm (by rw[e];exact tG hn hs) (hM.cd _ (List.mem_append_left _ hi))) h1
 ·intro i v z ps ba f hv hp hM r c;replace hp:JC o i v ps=some (ba,f):=hp;unfold JC at hp;show au (eQ φ psF) oc _ w (.cK i 0) z;split at hp
  ·rename_i id ver;split at hp
   ·rename_i t aE s e;obtain⟨hb,rfl,rfl⟩:=o5 hp;have hr:=hM.aQ _ (zf ..);have he:=h.full (hM.full _ (zf ..));unfold au at hv ⊢;rw[e] at hv;replace hv:=hv.2 (zg hb);rcases AL (φ:=φ) h hr with hd|⟨⟨cs,kC,e1,_⟩|⟨t',rY,s',e1,e2⟩|⟨_,_,m,e1,_⟩|⟨_,_,e1,e3⟩,cU⟩
    ·rw[hd];trivial
    ·rw[e1] at e;cases e
    ·rw[e1] at e;injection e with ea eb ec ed;subst ea eb;have ed:=eq_of_heq ed;subst ed;rw[e2,he,cU];exact⟨Nat.le_refl _,fun _=>hv⟩
    ·rw[e1] at e;cases e
    ·rw[e1] at e;cases e
   ·cases hp
  ·rename_i id ver n cp;split at hp
   ·rename_i t aE s e;obtain⟨hb,rfl,rfl⟩:=o5 hp;have hr:=hM.aQ _ (zf ..);have hc:=h.cut (hM.cut _ (zf ..));unfold au at hv ⊢;rw[e] at hv;obtain⟨hn,hj,_⟩:=hv.2 (zg hb);clear hv;rcases AL (φ:=φ) h hr with hd|⟨⟨cs,kC,e1,_⟩|⟨t',rY,s',e1,e2⟩|⟨_,_,m,e1,_⟩|⟨_,_,e1,e3⟩,cU⟩
    ·rw[hd];trivial
    ·rw[e1] at e;cases e
    ·rw[e1] at e;injection e with ea eb ec ed;subst ea eb;have ed:=eq_of_heq ed;subst ed;rw[e2,hc,cU];have hl:(lf.aN s'.l n).length=n:=by simp[lf,aN,Nat.min_eq_left hn]
     refine⟨Nat.le_refl _,fun _=>?_⟩;simp only[Br];rw[hl];exact hj
    ·rw[e1] at e;cases e
    ·rw[e1] at e;cases e
   ·cases hp
  ·cases hp
 ·intro i off v z ps ba f hv hp hM r c;replace hp:JD o i off v ps=some (ba,f):=hp;unfold JD at hp;show au (eQ φ psF) oc _ w (.ptr i off) z;split at hp
  ·rename_i id EJ;unfold au at hv ⊢;split at hp
   ·rename_i cs0 e;obtain⟨hb,rfl,rfl⟩:=o5 hp;have hr:=hM.aQ _ (zf ..);have:=zg hb;subst this;rw[e] at hv;rcases AL (φ:=φ) h hr with hd|⟨⟨cs,kC,e1,e2⟩|⟨t',rY,s',e1,e2⟩|⟨_,_,m,e1,_⟩|⟨_,_,e1,e3⟩,cU⟩
    ·rw[hd];trivial
    ·rw[e2,cU];exact hv
    ·rw[e1] at e;cases e
    ·rw[e1] at e;cases e
    ·rw[e1] at e;cases e
   ·rename_i t aE s e;obtain⟨hb,rfl,rfl⟩:=o5 hp;rw[zd] at hb;have hr:=hM.aQ _ (zf ..);have:=zg hb.1;subst this;rw[e] at hv;replace hv:=hv (zg hb.2).symm;rcases AL (φ:=φ) h hr with hd|⟨⟨cs,kC,e1,e2⟩|⟨t',rY,s',e1,e2⟩|⟨_,_,m,e1,_⟩|⟨_,_,e1,e3⟩,cU⟩
    ·rw[hd];trivial
    ·rw[e1] at e;cases e
    ·rw[e2,cU];exact fun _=>hv
    ·rw[e1] at e;cases e
    ·rw[e1] at e;cases e
   ·cases hp
  ·cases hp
 ·exact fun t=>qog hm h t
 ·intro v z ps ba f hv hp hM r c;obtain⟨hb,_,rfl⟩:=o5 hp;have:v=.fX:=by cases v<;>first|rfl|cases hb
  subst this;exact hv
 ·intro g l ih v z ps ba f hv hp hM r c;obtain⟨l',rfl,hf⟩:=z0a hp;obtain⟨cz,h1,h2⟩:=hv;exact⟨cz,h1,ih _ _ _ _ _ h2 hf hM r c⟩
 ·intro v z ps ba f hv hp hM r c;obtain⟨hb,_,rfl⟩:=o5 hp;have:v=.fG:=by cases v<;>first|rfl|cases hb
  subst this;exact hv
 ·intro l ih v z ps ba f hv hp hM r c;obtain⟨l',rfl,hf⟩:=qtt hp;obtain⟨cz,h1,h2⟩:=hv;exact⟨cz,h1,ih _ _ _ _ _ h2 hf hM r c⟩
 ·intro l ih v z ps ba f hv hp hM r c;obtain⟨l',rfl,hf⟩:=qtu hp;obtain⟨cz,h1,h2⟩:=hv;exact⟨cz,h1,ih _ _ _ _ _ h2 hf hM r c⟩
 ·intro i v z ps ba f hv hp hM r c;replace hp:wK o i v ps=some (ba,f):=hp;unfold wK at hp;show au (eQ φ psF) oc _ w (.mp i) z;split at hp
  ·rename_i id;unfold au at hv ⊢;split at hp
   ·rename_i e;injection hp with hp;injection hp with h1 h2;subst h1 h2;have hr:=hM.aQ _ (zf ..);rw[e] at hv;rcases AL (φ:=φ) h hr with hd|⟨⟨cs,kC,e1,e2⟩|⟨t',rY,s',e1,e2⟩|⟨_,_,m,e1,e2⟩|⟨_,_,e1,e3⟩,cU⟩
    ·rw[hd];trivial
    ·rw[e1] at e;cases e
    ·rw[e1] at e;cases e
    ·rw[e2,cU];exact hv
    ·rw[e1] at e;cases e
   ·cases hp
  ·cases hp
 ·intro v z ps ba f hv hp hM r c;obtain⟨hb,_,rfl⟩:=o5 hp;have:v=.iP:=by cases v<;>first|rfl|cases hb
  subst this;exact hv
 ·intro v z ps ba f hv hp hM r c;obtain⟨hb,_,rfl⟩:=o5 hp;have:v=.j9:=by cases v<;>first|rfl|cases hb
  subst this;exact hv
 ·intro v z ps ba f hv hp hM r c;exact trivial
 ·intro i v z ps ba f hv hp hM r c;replace hp:JE o i v ps=some (ba,f):=hp;obtain⟨id,b,cs,rfl,e,rfl,rfl⟩:=Rs hp;have hr:=hM.aQ _ (zf ..);show au (eQ φ psF) oc _ w (.gM i b) z;unfold au at hv ⊢;rw[e] at hv;rcases AL (φ:=φ) h hr with hd|⟨⟨cs,kC,e1,e2⟩|⟨t',rY,s',e1,e2⟩|⟨_,_,m,e1,e2⟩|⟨_,_,e1,e3⟩,cU⟩
  ·rw[hd];trivial
  ·rw[e2,cU];exact hv
  ·rw[e1] at e;cases e
  ·rw[e1] at e;cases e
  ·rw[e1] at e;cases e
 ·intro i v z ps ba f hv hp hM r c;replace hp:Np o i v ps=some (ba,f):=hp;obtain⟨id,ver,lo,t,s,rfl,e,rfl,rfl⟩:=qfr hp;have hr:=hM.aQ _ (zf ..);have hc:=h.full (hM.full _ (zf ..));show au (eQ φ psF) oc _ w (.gN i 0 lo) z;unfold au at hv ⊢;rw[e] at hv;replace hv:=hv.2 rfl;rcases AL (φ:=φ) h hr with hd|⟨⟨cs,kC,e1,e2⟩|⟨t',rY,s',e1,e2⟩|⟨_,_,m,e1,e2⟩|⟨_,_,e1,e3⟩,cU⟩
  ·rw[hd];trivial
  ·rw[e1] at e;cases e
  ·rw[e1] at e;injection e with ea eb ec ed;subst ea eb;have ed:=eq_of_heq ed;subst ed;rw[e2,hc,cU];exact⟨Nat.le_refl _,fun _=>hv⟩
  ·rw[e1] at e;cases e
  ·rw[e1] at e;cases e
 ·intro i v z ps ba f hv hp hM r c;replace hp:wL o i v ps=some (ba,f):=hp;unfold wL at hp;show au (eQ φ psF) oc _ w (.it i) z;split at hp
  ·rename_i id;unfold au at hv ⊢;split at hp
   ·rename_i e;injection hp with hp;injection hp with h1 h2;subst h1 h2;have hr:=hM.aQ _ (zf ..);rw[e] at hv;rcases AL (φ:=φ) h hr with hd|⟨⟨cs,kC,e1,e2⟩|⟨t',rY,s',e1,e2⟩|⟨_,_,m,e1,e2⟩|⟨_,_,e1,e3⟩,cU⟩
    ·rw[hd];trivial
    ·rw[e1] at e;cases e
    ·rw[e1] at e;cases e
    ·rw[e1] at e;cases e
    ·rw[e3,cU];exact hv
   ·cases hp
  ·cases hp
 ·intro a v z ps ba f hv hp hM r c;replace hp:A5 lf o a v ps=some (ba,f):=hp;rcases qjv (o:=o) hp with ⟨k,n,rfl,rfl,rfl⟩|⟨rfl,rfl,rfl⟩|⟨g,i,rfl,hg,e,rfl,rfl⟩|⟨g,i,x,p,rfl,hg,e,h2,rfl⟩
  ·show vf _ w a k n z;exact QJ (fun q ⟨b,cs,h1,h2,h3,h4,h5⟩=>⟨b,cs,h1,h2,h.imm h3,gG (fun b hb=>h.imm hb) (fun _ _=>rfl) (.int .i64) n cs h4,h5⟩) a k z hv
  ·show vf _ w a _ _ z;replace hv:z=.nilFunc:=hv;subst hv;exact qju a
  ·obtain⟨cz,h1,h2⟩:=hv;have h2:cz.toList=[]:=h2;have hz:z=.func (.func g) #[] #[]:=by rw[h1,show cz=#[] from Array.toList_eq_nil_iff.1 h2,JY hg]
   obtain⟨j,e1,e2⟩:=Rt (c:=false) hz a 0 i e;rw[zL] at e1;subst e1;exact e2
  ·obtain⟨cz,h1,y,r',e3,hy,e4⟩:=hv;have e4:r'=[]:=e4;subst e4;have hz:z=.func (.func g) #[] #[y]:=by rw[h1,show cz=#[y] from Array.toList_inj.1 e3,JY hg]
   have key:au (eQ φ psF) oc _ w (kM cg bO (.ref (.int .i64)) r (p r c)).1 y:=qog hm h (.int .i64) x y _ _ _ hy h2 hM r c;obtain⟨j,e1,e2⟩:=Rt (c:=true) (n:=(p r c).1) ⟨y,hz,key⟩ a 0 i e;rw[zL] at e1;subst e1;exact e2
 ·exact fun t=>z1m hm h t
 ·intro vs zs ps ba f hv hp hM r c;obtain⟨rfl,_,rfl⟩:=Oq hp;exact hv
 ·intro s l mZ nc vs zs ps ba f hv hp hM r c;obtain⟨v,Fc,kQ,f1,g1,rfl,h1,h2,rfl⟩:=Km hp;obtain⟨z,zr,e,r1,r2⟩:=hv;have hk:=(IN l _ _ _ _ h2).1.trans hM;have a1:=mZ _ _ _ _ _ r1 h1 hk _ (g1 r c);have e2:(kM cg bO s (iC l r) (f1 (iC l r) (g1 r c))).2=g1 r c:=(Rv s _ _ _ _ h1).2 _ _ _ _;refine⟨z,zr,e,a1,?_⟩;show bW _ _ _ _ (fi cg bO l r (kM cg bO s (iC l r) (f1 (iC l r) (g1 r c))).2).1 zr;rw[e2];exact nc _ _ _ _ _ r2 h2 hM r c
theorem RA(hm:MRel C X φ o w)(h:bQ o psF k ay oc):∀l,z3j φ o oc (ah X φ o w) (ah (XC X φ o oc psF) (eQ φ psF) oc w) w psF l
 |[]=>by intro vs zs ps ba f hv hp hM r c;obtain⟨rfl,_,rfl⟩:=Oq hp;exact hv
 |s::l=>by intro vs zs ps ba f hv hp hM r c;obtain⟨v,Fc,kQ,f1,g1,rfl,h1,h2,rfl⟩:=Km hp;obtain⟨z,zr,e,r1,r2⟩:=hv;have hc:=(IN l _ _ _ _ h2).1.trans hM;have a1:=Rz hm h s _ _ _ _ _ r1 h1 hc _ (g1 r c);have e2:(kM cg bO s (iC l r) (f1 (iC l r) (g1 r c))).2=g1 r c:=(Rv s _ _ _ _ h1).2 _ _ _ _;refine⟨z,zr,e,a1,?_⟩;show bW _ _ _ _ (fi cg bO l r (kM cg bO s (iC l r) (f1 (iC l r) (g1 r c))).2).1 zr;rw[e2];exact RA hm h l _ _ _ _ _ r2 h2 hM r c
theorem z1o{l:List Sh}{cs:List V}{ps ba:PS}{f:∀r,ai r->ai (iC l r)}(h:mI lf o l cs ps=some (ba,f)){r:List Ty}{q:ai (iC l r)}(hs:ou (fi cg bO l r q).1=true):ou cs=true:=by
 cases l with
 |nil=>cases hs
 |cons s l=>
  obtain⟨v,Fc,kQ,f1,g1,rfl,h1,h2,rfl⟩:=Km h;have hs:ou ((kM cg bO s (iC l r) q).1::(fi cg bO l r (kM cg bO s (iC l r) q).2).1)=true:=hs;cases s with
  |gM i=>obtain⟨id,b,cs,rfl,_⟩:=Rs (o:=o) (show JE o i v ps=some (kQ,f1) from h1);rfl
  |_=>cases hs
theorem bQ.mem(hm:MRel C X φ o w)(h:bQ o psF k ay oc):MRel C (XC X φ o oc psF) (eQ φ psF) oc w:=by
 have hi:∀b,ah X φ o w b->ah (XC X φ o oc psF) (eQ φ psF) oc w b:=fun b hb=>h.imm hb;refine⟨fun i=>?_,fun i j hq hu e=>?_,fun i hx=>?_,fun b hb=>?_,fun i=>?_,fun g t x hg=>?_,hm.IB⟩
 ·by_cases hj:i<k
  ·rcases h.kind hj with hd|⟨ct,h1,h2⟩
   ·rw[hd];trivial
   ·have cU:eQ φ psF i=φ ct:=by unfold eQ;rw[(h.aQ h1).2.1]
    have ho:=hm.ay ct;rcases h2 with ⟨l,cs,AK,wv,f,r,c,e,hp,hM,e'⟩|⟨t,ver,s,e,e'⟩|⟨_,_,m,e,e'⟩|⟨_,_,e,e'⟩
    ·rw[e] at ho;rw[e'];obtain⟨h3,cz,el,lo,hf,h4,h5,h6⟩:=ho;exact⟨by rw[cU];exact h3,cz,el,lo,hf,by rw[cU];exact h4,h5,RA hm h l _ _ _ _ _ h6 hp hM r c⟩
    ·rw[e] at ho;rw[e'];obtain⟨h3,h4,h5⟩:=ho;cases hc:gO ct psF.cut with
     |none=>refine⟨h3,h4,fun hn=>?_⟩;rw[cU];refine(h5 hn).imp (fun⟨g1,ec,g2,g3,g4,g5,g6⟩=>?_) fun g=>g;exact⟨g1,ec,nD (gG hi (fun _ _=>rfl) t) g2,g3,g4,g5,by simp⟩
     |some n=>
      have hv:(lf.aN s.l n).length<=s.l.length:=by simp[lf,aN];omega
      refine⟨by show(lf.aN s.l n).length<=cj;omega,fun hn=>?_,fun hn=>?_⟩
      ·show s.l.take n=[];rw[h4 hn];simp
      ·rw[cU];refine(h5 hn).imp (fun⟨g1,ec,g2,g3,g4,g5,g6⟩=>?_) fun g=>⟨g.1,(by show s.l.take n=[];rw[g.2.1];simp),g.2.2⟩;have hw:=oy g2;have hk:min n s.l.length<=s.l.length:=Nat.min_le_right _ _;have hl:=(ve (min n s.l.length) hk g2).1;have hy:s.l.take (min n s.l.length)=s.l.take n:=by
        rcases Nat.le_total n s.l.length with h|h
        ·rw[Nat.min_eq_left h]
        ·rw[Nat.min_eq_right h,List.take_length,jc h]
       rw[hy] at hl;refine⟨g1,ec.take (min n s.l.length*aM t),nD (gG hi (fun _ _=>rfl) t) hl,Kb _ g3,g4,fun _=>?_,by simp⟩;obtain⟨cz,el,lo,hf,k1,k2,k3⟩:=g5 rfl;have hA:(lf.aN s.l n).length*aM t<=s.l.length*aM t:=Nat.mul_le_mul_right _ hv;exact⟨cz,el,lo,hf,k1,by show _+(lf.aN s.l n).length*aM t<=_;omega,by show hf<=lo\/hf<=_\/_+(lf.aN s.l n).length*aM t<=lo;omega⟩
    ·rw[e] at ho;rw[e'];obtain⟨es,clock,h3,h4⟩:=ho;exact⟨es,clock,by rw[cU];exact h3,D2 (rT hi (fun _ _=>rfl) _) (rT hi (fun _ _=>rfl) _) h4⟩
    ·rw[e] at ho;rw[e'];obtain⟨s,n,h3,h4⟩:=ho;exact⟨s,n,by rw[cU];exact h3,h4⟩
  ·rw[h.none i om];trivial
 ·obtain⟨_,a1,a2⟩:=h.Ff hq;obtain⟨_,b1,b2⟩:=h.Ff hu;have:=hm.inj _ _ a2 b2 e;have ra:=(h.aQ a1).2.2;have rb:=(h.aQ b1).2.2;rw[this,rb] at ra;injection ra with ra;exact ra.symm
 ·obtain⟨_,a1,a2⟩:=h.Ff hx;obtain⟨s1,s2⟩:=hm.sep _ a2;refine⟨s1,?_⟩;rintro(hz|⟨id,e1,e2,_,e4⟩)
  ·exact s2 hz
  ·have:=hm.inj _ _ e1 a2 e2;exact e4 ⟨i,hx,this.symm⟩
 ·rcases hb with hb|⟨id,e1,e2,_⟩
  ·exact hm.xs b hb
  ·exact e2▸(hm.sep id e1).1
 ·by_cases hj:i<k
  ·rcases h.kind hj with hd|⟨ct,h1,h2⟩
   ·rw[hd];trivial
   ·have cU:eQ φ psF i=φ ct:=by unfold eQ;rw[(h.aQ h1).2.1]
    have he:=hm.tH ct;rcases h2 with ⟨l,cs,AK,wv,f,r,c,e,hp,hM,e'⟩|⟨t,ver,s,e,e'⟩|⟨_,_,m,e,e'⟩|⟨_,_,e,e'⟩
    ·rw[e] at he;rw[e',cU];exact fun hs=>he (z1o hp hs)
    ·rw[e] at he;rw[e',cU];refine fun ht hn=>he ht ?_;cases hc:gO ct psF.cut<;>rw[hc] at hn<;>exact hn
    ·rw[e'];trivial
    ·rw[e'];trivial
  ·rw[h.none i om];trivial
 ·obtain⟨a,cs,h1,h2,h3,h4,h5⟩:=hm.fp g t x hg;exact⟨a,cs,h1,h2,hi _ h3,gG hi (fun _ _=>rfl) _ _ _ h4,h5⟩
end
theorem o6{β:Type}(n:Nat)(k:Nat->β):kO n k=k n:=by cases n<;>rfl
mutual
theorem Kn{β:Type}:∀(v:V) (k:V->β),mM v k=k v
 |.d t x,k=>rfl
 |.cK id ver,k=>by simp only[mM,o6]
 |.pre id ver n c,k=>by simp only[mM,o6]
 |.ptr id off,k=>by simp only[mM,o6]
 |.j8 ..,k=>rfl
 |.ref ..,k=>rfl
 |.rr ..,k=>rfl
 |.fX,k=>rfl
 |.fn f l,k=>by simp only[mM,o6,IQ]
 |.fG,k=>rfl
 |.fY l,k=>by simp only[mM,IQ]
 |.agg l,k=>by simp only[mM,IQ]
 |.mp _,k=>rfl
 |.iP,k=>rfl
 |.j9,k=>rfl
 |.Nd,k=>rfl
 |.eE,k=>rfl
 |.lb _,k=>rfl
 |.undef,k=>rfl
 |.bM,k=>rfl
 |.gM id b,k=>by simp only[mM,o6]
 |.gN id ver lo,k=>by simp only[mM,o6]
 |.it _,k=>rfl
 |.Nc ..,k=>rfl
 |.fa ..,k=>rfl
theorem IQ{β:Type}:∀(l:List V) (k:List V->β),DU l k=k l
 |[],k=>rfl
 |v::l,k=>by simp only[DU,Kn,IQ]
end
theorem z0b{β:Type}(x:Obj)(k:Obj->β):JT x k=k x:=by cases x<;>simp only[JT,IQ,o6]
theorem RC{β:Type}:∀(u:List (Nat×Obj)) (o:Nat->Obj) (k:(Nat->Obj)->β),JU o u k=k (ak o u)
 |[],_,_=>rfl
 |(i,x)::r,o,k=>by simp only[JU,o6,z0b,RC r];rfl
theorem Ko{β:Type}{fr:Nat}:∀(u:List (Nat×Obj)) (o:Nat->Obj) (k:(Nat->Obj)->Option β) (y:β),pw fr o u k=some y->k (ak o u)=some y/\jH fr o u
 |[],o,k,y,h=>⟨h,(fun p hp=>by cases hp)⟩
 |(i,x)::r,o,k,y,h=>by
  simp only[pw,o6,z0b] at h;have next:∀(hc:fr<=i->i<fr+16->o i=.none),pw fr (cP o i x) r k=some y->k (ak o ((i,x)::r))=some y/\jH fr o ((i,x)::r):=by
   intro hc h;obtain⟨h1,h2⟩:=Ko r _ _ _ h;refine⟨h1,fun p hp g1 g2=>?_⟩;rcases zt.1 hp with rfl|hp
   ·exact hc g1 g2
   ·by_cases e:p.1=i
    ·rw[e] at g1 g2 ⊢;exact hc g1 g2
    ·have:=h2 p hp g1 g2
     rwa [nH e] at this
  cases hb:(Nat.ble fr i&&Nat.blt i (fr+16)) with
  |true=>
   rw[hb] at h;simp only[cond_true] at h;split at h
   ·rename_i e;exact next (fun _ _=>e) h
   ·cases h
  |false=>
   rw[hb] at h;simp only[cond_false] at h;refine next (fun g1 g2=>?_) h
   have:(Nat.ble fr i&&Nat.blt i (fr+16))=true:=by rw[zd];exact⟨Nat.ble_eq▸g1,(Nat.ble_eq▸g2:Nat.ble (i+1) (fr+16)=true)⟩
   rw[this] at hb;cases hb
mutual
theorem z1p{β:Type}:∀(s:Sh) (k:Sh->β),lM s k=k s
 |.d t,k=>rfl
 |.cK id,k=>by simp only[lM,o6]
 |.ptr id off,k=>by simp only[lM,o6]
 |.ref t,k=>rfl
 |.rr t,k=>rfl
 |.fX,k=>rfl
 |.fn f l,k=>by simp only[lM,o6,IS]
 |.fG,k=>rfl
 |.fY l,k=>by simp only[lM,IS]
 |.agg l,k=>by simp only[lM,IS]
 |.mp id,k=>by simp only[lM,o6]
 |.it id,k=>by simp only[lM,o6]
 |.iP,k=>rfl
 |.j9,k=>rfl
 |.bM,k=>rfl
 |.gM id,k=>by simp only[lM,o6]
 |.gN id,k=>by simp only[lM,o6]
 |.fa _,k=>rfl
theorem IS{β:Type}:∀(l:List Sh) (k:List Sh->β),DV l k=k l
 |[],k=>rfl
 |v::l,k=>by simp only[DV,z1p,IS]
end
theorem qy1{β:Type}(s:fv)(k:fv->β):Qv s k=k s:=by cases s<;>simp only[Qv,IS]
theorem qjz{β:Type}:∀(l:List fv) (k:List fv->β),NL l k=k l
 |[],_=>rfl
 |s::l,k=>by simp only[NL,qy1,qjz l]
theorem Ow{β:Type}(C:Cx)(sk:List Nat)(st:St)(ts:List Nat)(ops:List Oper)(k:Shape->β):It C sk st ts ops k=k (Is C sk st ts ops):=by simp only[It,IS,qjz]
def iT(sk ts:List Nat)(s:Shape)(c:ai s.aW):St:=⟨JS ts (fill (cD sk) bO s c).1,ak (fun _=>Obj.none) (fill (cD sk) bO s c).2⟩
theorem Ox{β:Type}(sk ts:List Nat)(s:Shape)(c:ai s.aW)(k:St->β):tD sk ts s c k=k (iT sk ts s c):=by simp only[tD,IQ,RC];rfl
section
variable {C:Cx} {X:Nat→Prop} {φ φ':Nat→Addr} {o oc:Nat→Obj} {w:World} {imm:Nat→Prop} {ρ κ:Nat→Nat}
theorem RD(ρ κ Fh Fi:Nat->Nat)(s:Sh):∀r c,(kM ρ κ s r c).2=(kM Fh Fi s r c).2:=by
 refine Sh.rec (motive_1:=fun s=>∀r c,(kM ρ κ s r c).2=(kM Fh Fi s r c).2) (motive_2:=fun l=>∀r c,(fi ρ κ l r c).2=(fi Fh Fi l r c).2)
  ?_ ?_ ?_ ?_ ?_ ?_ ?_ ?_ ?_ ?_ ?_ ?_ ?_ ?_ ?_ ?_ ?_ ?_ ?_ ?_ s
 ·exact fun t r c=>rfl
 ·exact fun i r c=>rfl
 ·exact fun i off r c=>rfl
 ·exact fun t r c=>rfl
 ·exact fun r c=>rfl
 ·exact fun f l ih r c=>ih r c
 ·exact fun r c=>rfl
 ·exact fun l ih r c=>ih r c
 ·exact fun l ih r c=>ih r c
 ·exact fun i r c=>rfl
 ·exact fun r c=>rfl
 ·exact fun r c=>rfl
 ·exact fun r c=>rfl
 ·exact fun i r c=>rfl
 ·exact fun i r c=>rfl
 ·exact fun i r c=>rfl
 ·exact fun a r c=>rfl
 ·exact fun t r c=>rfl
 ·exact fun r c=>rfl
 ·intro s l mZ nc r c;exact(congrArg (fun q=>(fi ρ κ l r q).2) (mZ (iC l r) c)).trans (nc r _)
theorem Kq(ρ κ Fh Fi:Nat->Nat):∀(l:List Sh) r c,(fi ρ κ l r c).2=(fi Fh Fi l r c).2
 |[],_,_=>rfl
 |s::l,r,c=>by exact(congrArg (fun q=>(fi ρ κ l r q).2) (RD ρ κ Fh Fi s (iC l r) c)).trans (Kq ρ κ Fh Fi l r _)
def Oy(κ:Nat):Obj->Obj->Prop
 |.none,_=>True
 |.dead,.dead=>True
 |.box _,.box _=>True
 |.vec t v f s,y=>v=0/\y=.vec t κ f s
 |.map _ _ _,.map _ _ _=>True
 |.iter _ _,.iter _ _=>True
 |_,_=>False
theorem RE(hl:∀i,Oy (κ i) (oc i) (o (ρ i)))(cU:∀i,oc i≠.none->oc i≠.dead->φ' (ρ i)=φ i)(s:Sh):∀r c z,au φ oc imm w (kM cg bO s r c).1 z->au φ' o imm w (kM ρ κ s r c).1 z:=by
 refine Sh.rec (motive_1:=fun s=>∀r c z,au φ oc imm w (kM cg bO s r c).1 z->au φ' o imm w (kM ρ κ s r c).1 z)
  (motive_2:=fun l=>∀r c zs,bW φ oc imm w (fi cg bO l r c).1 zs->bW φ' o imm w (fi ρ κ l r c).1 zs)
  ?_ ?_ ?_ ?_ ?_ ?_ ?_ ?_ ?_ ?_ ?_ ?_ ?_ ?_ ?_ ?_ ?_ ?_ ?_ ?_ s
 ·exact fun t r c z h=>h
 ·intro i r c z h;replace h:au φ oc imm w (.cK i 0) z:=h;show au φ' o imm w (.cK (ρ i) (κ i)) z;have h1:=hl i;have h2:=cU i;unfold au at h ⊢;cases e:oc i<;>rw[e] at h h1 h2
  ·cases e2:o (ρ i)<;>rw[e2] at h1<;>first|exact h1.elim|trivial
  ·rename_i t v fr s;obtain⟨hv,h1⟩:v=0/\o (ρ i)=.vec t (κ i) fr s:=h1;subst hv;rw[h1,h2 (by simp) (by simp)];exact⟨Nat.le_refl _,fun _=>h.2 rfl⟩
  ·cases e2:o (ρ i)<;>rw[e2] at h1<;>first|exact h1.elim|trivial
  ·cases e2:o (ρ i)<;>rw[e2] at h1<;>first|exact h1.elim|trivial
  ·exact h.elim
  ·cases e2:o (ρ i)<;>rw[e2] at h1<;>first|exact h1.elim|trivial
 ·intro i off r c z h;replace h:au φ oc imm w (.ptr i off) z:=h;show au φ' o imm w (.ptr (ρ i) off) z;have h1:=hl i;have h2:=cU i;unfold au at h ⊢;cases e:oc i<;>rw[e] at h h1 h2
  ·cases e2:o (ρ i)<;>rw[e2] at h1<;>first|exact h1.elim|(rw[h2 (by simp) (by simp)];exact h)
  ·rename_i t v fr s;obtain⟨hv,h1⟩:v=0/\o (ρ i)=.vec t (κ i) fr s:=h1;subst hv;rw[h1,h2 (by simp) (by simp)];exact fun _=>h rfl
  ·cases e2:o (ρ i)<;>rw[e2] at h1<;>first|exact h1.elim|(rw[h2 (by simp) (by simp)];exact h)
  ·cases e2:o (ρ i)<;>rw[e2] at h1<;>first|exact h1.elim|trivial
  ·exact h.elim
  ·cases e2:o (ρ i)<;>rw[e2] at h1<;>first|exact h1.elim|(rw[h2 (by simp) (by simp)];exact h)
 ·exact fun t r c z h=>h
 ·exact fun r c z h=>h
 ·exact fun f l ih r c z ⟨cz,h1,h2⟩=>⟨cz,h1,ih _ _ _ h2⟩
 ·exact fun r c z h=>h
 ·exact fun l ih r c z ⟨cz,h1,h2⟩=>⟨cz,h1,ih _ _ _ h2⟩
 ·exact fun l ih r c z ⟨cz,h1,h2⟩=>⟨cz,h1,ih _ _ _ h2⟩
 ·intro i r c z h;replace h:au φ oc imm w (.mp i) z:=h;show au φ' o imm w (.mp (ρ i)) z;have h1:=hl i;have h2:=cU i;unfold au at h ⊢;cases e:oc i<;>rw[e] at h h1 h2
  ·cases e2:o (ρ i)<;>rw[e2] at h1<;>first|exact h1.elim|trivial
  ·rename_i t v fr s;obtain⟨hv,h1⟩:v=0/\o (ρ i)=.vec t (κ i) fr s:=h1;rw[h1];trivial
  ·cases e2:o (ρ i)<;>rw[e2] at h1<;>first|exact h1.elim|(rw[h2 (by simp) (by simp)];exact h)
  ·cases e2:o (ρ i)<;>rw[e2] at h1<;>first|exact h1.elim|trivial
  ·exact h.elim
  ·cases e2:o (ρ i)<;>rw[e2] at h1<;>first|exact h1.elim|trivial
 ·exact fun r c z h=>h
 ·exact fun r c z h=>h
 ·exact fun r c z h=>h
 ·intro i r c z h;replace h:au φ oc imm w (.gM i c.1) z:=h;show au φ' o imm w (.gM (ρ i) c.1) z;have h1:=hl i;have h2:=cU i;unfold au at h ⊢;cases e:oc i<;>rw[e] at h h1 h2
  ·cases e2:o (ρ i)<;>rw[e2] at h1<;>first|exact h1.elim|(rw[h2 (by simp) (by simp)];exact h)
  ·rename_i t v fr s;obtain⟨hv,h1⟩:v=0/\o (ρ i)=.vec t (κ i) fr s:=h1;rw[h1];trivial
  ·cases e2:o (ρ i)<;>rw[e2] at h1<;>first|exact h1.elim|trivial
  ·cases e2:o (ρ i)<;>rw[e2] at h1<;>first|exact h1.elim|trivial
  ·exact h.elim
  ·cases e2:o (ρ i)<;>rw[e2] at h1<;>first|exact h1.elim|trivial
 ·intro i r c z h;replace h:au φ oc imm w (.gN i 0 c.1) z:=h;show au φ' o imm w (.gN (ρ i) (κ i) c.1) z;have h1:=hl i;have h2:=cU i;unfold au at h ⊢;cases e:oc i<;>rw[e] at h h1 h2
  ·cases e2:o (ρ i)<;>rw[e2] at h1<;>first|exact h1.elim|trivial
  ·rename_i t v fr s;obtain⟨hv,h1⟩:v=0/\o (ρ i)=.vec t (κ i) fr s:=h1;subst hv;rw[h1,h2 (by simp) (by simp)];exact⟨Nat.le_refl _,fun _=>h.2 rfl⟩
  ·cases e2:o (ρ i)<;>rw[e2] at h1<;>first|exact h1.elim|trivial
  ·cases e2:o (ρ i)<;>rw[e2] at h1<;>first|exact h1.elim|trivial
  ·exact h.elim
  ·cases e2:o (ρ i)<;>rw[e2] at h1<;>first|exact h1.elim|trivial
 ·intro i r c z h;replace h:au φ oc imm w (.it i) z:=h;show au φ' o imm w (.it (ρ i)) z;have h1:=hl i;have h2:=cU i;unfold au at h ⊢;cases e:oc i<;>rw[e] at h h1 h2
  ·cases e2:o (ρ i)<;>rw[e2] at h1<;>first|exact h1.elim|trivial
  ·rename_i t v fr s;obtain⟨hv,h1⟩:v=0/\o (ρ i)=.vec t (κ i) fr s:=h1;rw[h1];trivial
  ·cases e2:o (ρ i)<;>rw[e2] at h1<;>first|exact h1.elim|trivial
  ·cases e2:o (ρ i)<;>rw[e2] at h1<;>first|exact h1.elim|trivial
  ·exact h.elim
  ·cases e2:o (ρ i)<;>rw[e2] at h1<;>first|exact h1.elim|(rw[h2 (by simp) (by simp)];exact h)
 ·exact fun a r c z h=>h
 ·exact fun t r c z h=>h
 ·exact fun r c z h=>h
 ·intro s l mZ nc r c zs ⟨z,zr,e,h1,h2⟩;refine⟨z,zr,e,mZ _ _ _ h1,?_⟩;exact(congrArg (fun q=>bW φ' o imm w (fi ρ κ l r q).1 zr) (RD ρ κ cg bO s (iC l r) c)).mpr (nc _ _ _ h2)
theorem Oz(hl:∀i,Oy (κ i) (oc i) (o (ρ i)))(cU:∀i,oc i≠.none->oc i≠.dead->φ' (ρ i)=φ i):∀(l:List Sh) r c zs,bW φ oc imm w (fi cg bO l r c).1 zs->bW φ' o imm w (fi ρ κ l r c).1 zs
 |[],_,_,_,h=>h
 |s::l,r,c,zs,⟨z,zr,e,h1,h2⟩=>by refine⟨z,zr,e,RE hl cU s _ _ _ h1,?_⟩;exact(congrArg (fun q=>bW φ' o imm w (fi ρ κ l r q).1 zr) (RD ρ κ cg bO s (iC l r) c)).mpr (Oz hl cU l _ _ _ h2)
end
theorem qk0{o:Nat->Obj}{psF:PS}:∀(l:List fv) (i:Nat) (os:List (Nat×Obj)) (o':Nat->Obj),Rw o psF i l os->(∀j sh,l[j]?=some sh->Bp o psF (i+j) sh (ak o' os (i+j)))/\(∀j,(j<i\/i+l.length<=j)->ak o' os j=o' j)
 |[],i,os,o',h=>by have h:os=[]:=h;subst h;exact⟨fun j sh hj=>by simp at hj,fun j _=>rfl⟩
 |s::l,i,os,o',⟨ob,r,e,h1,h2⟩=>by
  subst e;obtain⟨a1,a2⟩:=qk0 l (i+1) r (cP o' i ob) h2;refine⟨fun j sh hj=>?_,fun j hj=>?_⟩
  ·cases j with
   |zero=>simp only[List.getElem?_cons_zero,zH] at hj;subst hj;show Bp o psF i s (ak (cP o' i ob) r i);rw[a2 i (.inl om),eL];exact h1
   |succ j=>have:=a1 j sh (by simpa using hj);rw[show i+1+j=i+(j+1) by omega] at this;exact this
  ·show ak (cP o' i ob) r j=o' j;simp only[zw] at hj;rw[a2 j om,nH om]
def a7(s:Shape)(c:ai s.aW):Nat->Obj:=ak (fun _=>Obj.none) (fill cg bO s c).2
theorem Fj{o:Nat->Obj}{aQ:List (Nat×Nat)}{s:Shape}{vs:List V}{ps:PS}{c:ai s.aW}(h:pack lf o aQ s vs=some (ps,c)):bQ o ps s.ay.length s.ay (a7 s c)/\∃kQ f,mI lf o s.roots vs ⟨aQ,[],[],[]⟩=some (kQ,f)/\eH kQ ps/\∃q,c=f _ q:=by
 unfold pack at h;split at h
 ·rename_i kQ f h1;split at h
  ·rename_i D8 g h2;cases hb:EG s.ay.length D8 with
   |false=>rw[hb] at h;cases h
   |true=>
    rw[hb] at h;injection h with h;injection h with h3 h4;subst h3;obtain⟨m1,e1⟩:=IN s.roots _ _ _ _ h1;obtain⟨m2,e2⟩:=IP (psF:=D8) s.ay 0 _ _ _ h2;have he:=e2 (.refl _) [] ();have hc:a7 s c=ak (fun _=>Obj.none) (fH cg bO 0 s.ay [] (g [] ())):=by unfold a7 fill;simp only;rw[<-h4,e1]
    obtain⟨a1,a2⟩:=qk0 _ _ _ (fun _=>Obj.none) he;refine⟨⟨hb,rfl,fun i sh hi=>?_,fun i hi=>?_⟩,kQ,f,h1,m2,_,h4.symm⟩
    ·have:=a1 i sh hi;rw[zL] at this;rw[hc];exact this
    ·rw[hc];exact a2 i (.inr om)
  ·cases h
 ·cases h
theorem Kr{C:Cx}{X:Nat->Prop}{φ:Nat->Addr}{o:Nat->Obj}{w:World}(hm:MRel C X φ o w){aQ:List (Nat×Nat)}{s:Shape}{vs:List V}{zs:List Value}{ps:PS}{c:ai s.aW}(h:pack lf o aQ s vs=some (ps,c))(hr:bW φ o (ah X φ o w) w vs zs):MRel C (XC X φ o (a7 s c) ps) (eQ φ ps) (a7 s c) w/\bW (eQ φ ps) (a7 s c) (ah (XC X φ o (a7 s c) ps) (eQ φ ps) (a7 s c) w) w (fill cg bO s c).1 zs:=by obtain⟨hp,kQ,f,h1,h2,q,h3⟩:=Fj h;refine⟨hp.mem hm,?_⟩;have:=RA hm hp s.roots _ _ _ _ _ hr h1 h2 _ q;rw[<-h3] at this;exact this
def gX(sk:List Nat):Prop:=∃inv:Nat->Nat,∀j,inv (cD sk j)=j
theorem gX.inj{sk:List Nat}(h:gX sk):∀i j,cD sk i=cD sk j->i=j:=fun i j e=>by obtain⟨inv,h⟩:=h;rw[<-h i,<-h j,e]
theorem fx{j:Nat}:∀{l:List Nat},bH j l=true↔j∈l
 |[]=>⟨fun h=>(by cases h),fun h=>(by cases h)⟩
 |b::r=>by
  simp only[bH];cases hb:Nat.beq b j with
  |true=>have:=zg hb;subst this;simp
  |false=>
   have hc:b≠j:=fun e=>by rw[e,Nat.beq_refl] at hb;cases hb
   rw[cond_false,fx (l:=r),zt];exact⟨.inr,fun h=>h.resolve_left fun e=>hc e.symm⟩
theorem q9x{k:Nat}:∀{sk:List Nat},Ii k sk=true->(∀id,id∈sk->id<k/\id<1000000)/\sk.Nodup
 |[],_=>⟨fun id h=>(by cases h),List.nodup_nil⟩
 |b::r,h=>by
  simp only[Ii,zd,Nat.blt_eq] at h;obtain⟨⟨⟨h1,h2⟩,h3⟩,h4⟩:=h;obtain⟨g1,g2⟩:=q9x h4;refine⟨fun id hi=>?_,List.nodup_cons.2 ⟨fun hm=>?_,g2⟩⟩
  ·rcases zt.1 hi with rfl|hi
   ·exact⟨h1,h2⟩
   ·exact g1 id hi
  ·rw[fx.2 hm] at h3;cases h3
theorem qtx{k:Nat}{sk:List Nat}(h:Ii k sk=true):gX sk:=by
 obtain⟨g1,g2⟩:=q9x h;have inj:∀i j,cD sk i=cD sk j->i=j:=fun i j e=>by
  unfold cD at e;split at e
  ·rename_i a ha;split at e
   ·rename_i b hb;subst e;obtain⟨hi,ea⟩:=zB.1 ha;obtain⟨hj,eb⟩:=zB.1 hb;exact(List.getElem_inj (h₀:=hi) (h₁:=hj) g2).1 (by rw[ea,eb])
   ·have:=(g1 a (zj ha)).2;omega
  ·split at e
   ·rename_i b hb;have:=(g1 b (zj hb)).2;omega
   ·omega
 refine⟨fun id=>by
  classical
  exact if h:∃j,cD sk j=id then h.choose else 0,fun j=>?_⟩
 have hx:∃i,cD sk i=cD sk j:=⟨j,rfl⟩;simp only[dif_pos hx];exact inj _ _ hx.choose_spec
theorem qqj:gX []:=⟨fun id=>id-1000000,fun j=>by simp[cD]⟩
theorem qk1:∀{sk:List Nat} {n i id:Nat},sk[i]?=some id->(n+i,id)∈rN n sk
 |[],_,i,_,h=>by simp at h
 |b::r,n,i,id,h=>by
  cases i with
  |zero=>simp only[List.getElem?_cons_zero,zH] at h;subst h;exact zf ..
  |succ i=>have:=qk1 (n:=n+1) (i:=i) (by simpa using h);rw[show n+1+i=n+(i+1) by omega] at this;exact zh _ this
theorem RF:∀{sk:List Nat} {id:Nat},id∈sk->(id,id)∈Nn sk
 |b::r,id,h=>by
  rcases zt.1 h with rfl|h
  ·exact zf ..
  ·exact zh _ (RF h)
theorem OA{o:Nat->Obj}:∀{sk:List Nat},uU o sk=true->∀id,id∈sk->Nl o id=true
 |b::r,h,id,hi=>by
  simp only[uU,zd] at h;rcases zt.1 hi with rfl|hi
  ·exact h.1
  ·exact OA h.2 id hi
theorem OB{cut:List (Nat×Nat)}:∀{sk:List Nat},Ih cut sk=true->∀id,id∈sk->gO id cut=none
 |b::r,h,id,hi=>by
  simp only[Ih,zd] at h;rcases zt.1 hi with rfl|hi
  ·exact Ou h.1
  ·exact OB h.2 id hi
theorem OC{sk:List Nat}{aQ:List (Nat×Nat)}{o:Nat->Obj}{s:Shape}{vs:List V}{p:PS×ai s.aW}(h:EL lf sk aQ o s vs=some p):pack lf o aQ s vs=some p/\uU o sk=true/\Ih p.1.cut sk=true:=by
 unfold EL at h;split at h
 ·rename_i q e;cases hb:(uU o sk&&Ih q.1.cut sk) with
  |false=>rw[hb] at h;cases h
  |true=>rw[hb,cond_true] at h;injection h with h;subst h;rw[zd] at hb;exact⟨e,hb⟩
 ·cases h
theorem RG{o:Nat->Obj}{aQ:List (Nat×Nat)}{s:Shape}{vs:List V}{ps:PS}{c:ai s.aW}(h:pack lf o aQ s vs=some (ps,c)):∀p,p∈aQ->p∈ps.aQ:=by obtain⟨_,kQ,f,h1,h2,_⟩:=Fj h;exact fun p hp=>h2.aQ p ((IN s.roots _ _ _ _ h1).1.aQ p hp)
theorem RH{φ:Nat->Addr}{o oc:Nat->Obj}{w:World}{psF:PS}{k:Nat}{ay:List fv}(h:bQ o psF k ay oc){i id:Nat}(hp:(i,id)∈psF.aQ)(hk:Nl o id=true)(hc:gO id psF.cut=none):Up w w (φ id) (eQ φ psF i) (o id) (oc i):=by
 rcases AL (φ:=φ) h hp with hd|⟨⟨cs,kC,e1,e2⟩|⟨t',ver,s,e1,e2⟩|⟨k,v,m,e1,e2⟩|⟨_,_,e1,e2⟩,cU⟩
 ·rw[hd];cases o id<;>trivial
 ·rw[e1,e2];exact cU
 ·rw[e1,e2,hc];unfold Nl at hk;rw[e1] at hk;have hv:ver=0:=zg hk;exact .inr ⟨hv,rfl,rfl,rfl,cU,fun _=>⟨rfl,fun _ _ n hr=>hr⟩⟩
 ·rw[e1,e2];exact cU
 ·rw[e1,e2];exact cU
def RI(ρ:Nat->Nat)(a b:Obj):Prop:=(∃l r c,a=.box (fi cg bO l r c).1/\b=.box (fi ρ bO l r c).1)\/(a=b/\∀cs,a≠.box cs)
theorem qty(ρ:Nat->Nat)(i:Nat)(s:fv)(r:List Ty)(c:ai (Ie s r)):RI ρ (fj cg bO i s r c).1 (fj ρ bO i s r c).1/\(fj ρ bO i s r c).2=(fj cg bO i s r c).2:=by
 cases s with
 |box l=>exact⟨.inl ⟨l,r,c,rfl,rfl⟩,Kq ρ bO cg bO l r c⟩
 |vec t=>exact⟨.inr ⟨rfl,fun _ h=>by cases h⟩,rfl⟩
 |map k v=>exact⟨.inr ⟨rfl,fun _ h=>by cases h⟩,rfl⟩
 |iter=>exact⟨.inr ⟨rfl,fun _ h=>by cases h⟩,rfl⟩
 |gone=>exact⟨.inr ⟨rfl,fun _ h=>by cases h⟩,rfl⟩
theorem qfx(ρ:Nat->Nat)(cw:∀i j,ρ i=ρ j->i=j):∀(l:List fv) (i:Nat) (r:List Ty) (c:ai (bS l r)) (o1 o2:Nat->Obj),(∀j,i<=j->j<i+l.length->RI ρ (ak o1 (fH cg bO i l r c) j) (ak o2 (fH ρ bO i l r c) (ρ j)))/\(∀j,(j<i\/i+l.length<=j)->ak o1 (fH cg bO i l r c) j=o1 j)/\(∀id,(∀j,i<=j->j<i+l.length->ρ j≠id)->ak o2 (fH ρ bO i l r c) id=o2 id)
 |[],i,r,c,o1,o2=>⟨fun j h1 h2=>absurd h2 (by simp;omega),fun _ _=>rfl,fun _ _=>rfl⟩
 |s::l,i,r,c,o1,o2=>by
  obtain⟨e1,e2⟩:=qty ρ i s (bS l r) c;obtain⟨a1,a2,a3⟩:=qfx ρ cw l (i+1) r (fj cg bO i s (bS l r) c).2 (cP o1 i (fj cg bO i s (bS l r) c).1) (cP o2 (ρ i) (fj ρ bO i s (bS l r) c).1);have f1:∀j,ak o1 (fH cg bO i (s::l) r c) j=ak (cP o1 i (fj cg bO i s (bS l r) c).1) (fH cg bO (i+1) l r (fj cg bO i s (bS l r) c).2) j:=fun _=>rfl;have f2:∀id,ak o2 (fH ρ bO i (s::l) r c) id=ak (cP o2 (ρ i) (fj ρ bO i s (bS l r) c).1) (fH ρ bO (i+1) l r (fj cg bO i s (bS l r) c).2) id:=fun id=>(congrArg (fun q=>ak (cP o2 (ρ i) (fj ρ bO i s (bS l r) c).1) (fH ρ bO (i+1) l r q) id) e2);refine⟨fun j h1 h2=>?_,fun j hj=>?_,fun id hc=>?_⟩
  ·rw[f1,f2];simp only[zw] at h2;by_cases he:j=i
   ·subst he;rw[a2 j (.inl om),a3 (ρ j) (fun q hq _ e=>by have:=cw _ _ e;omega),eL,eL];exact e1
   ·exact a1 j om om
  ·rw[f1];simp only[zw] at hj;rw[a2 j om,nH om]
  ·rw[f2];simp only[zw] at hc;rw[a3 id (fun q h1 h2=>hc q om om),nH];exact fun e=>hc i (Nat.le_refl _) om e.symm
section
variable {C:Cx} {X:Nat→Prop} {φ:Nat→Addr} {w:World} {s:Shape} {c:ai s.aW} {sk:List Nat} {inv:Nat→Nat}
theorem z0c(hc:∀i j,cD sk i=cD sk j->i=j)(ts:List Nat)(s:Shape)(c:ai s.aW):(∀j,j<s.ay.length->RI (cD sk) (a7 s c j) ((iT sk ts s c).obj (cD sk j)))/\(∀j,s.ay.length<=j->a7 s c j=.none)/\(∀id,(∀j,j<s.ay.length->cD sk j≠id)->(iT sk ts s c).obj id=.none):=by
 obtain⟨a1,a2,a3⟩:=qfx (cD sk) hc s.ay 0 [] (fi cg bO s.roots (bS s.ay []) c).2 (fun _=>.none) (fun _=>.none);have e:(iT sk ts s c).obj=ak (fun _=>.none) (fH (cD sk) bO 0 s.ay [] (fi cg bO s.roots (bS s.ay []) c).2):=congrArg (fun q=>ak (fun _=>Obj.none) (fH (cD sk) bO 0 s.ay [] q)) (Kq (cD sk) bO cg bO s.roots (bS s.ay []) c);refine⟨fun j hj=>?_,fun j hj=>a2 j (.inr om),fun id he=>?_⟩
 ·rw[e];exact a1 j (Nat.zero_le _) om
 ·rw[e];exact a3 id (fun j _ hj=>he j om)
theorem qfy(ρ:Nat->Nat):∀(l:List fv) (i:Nat) (r:List Ty) (c:ai (bS l r)) (o:Nat->Obj),(∀j t v f s,o j=.vec t v f s->v=0)->∀j t v f s,ak o (fH ρ bO i l r c) j=.vec t v f s->v=0
 |[],i,r,c,o,h=>h
 |s::l,i,r,c,o,h=>by
  refine qfy ρ l (i+1) r (fj ρ bO i s (bS l r) c).2 (cP o (ρ i) (fj ρ bO i s (bS l r) c).1) ?_;intro j t v f s' e;by_cases hj:j=ρ i
  ·subst hj;rw[eL] at e;cases s with
   |box l=>cases e
   |map k v=>cases e
   |gone=>cases e
   |iter=>cases e
   |vec t=>injection e with _ e;exact e.symm
  ·rw[nH hj] at e;exact h _ _ _ _ _ e
theorem qoj{s:Shape}{c:ai s.aW}{j:Nat}{t:Ty}{v:Nat}{f:Bool}{x:Sl (den t)}(h:a7 s c j=.vec t v f x):v=0:=qfy cg s.ay 0 [] _ (fun _=>.none) (fun _ _ _ _ _ e=>by cases e) j t v f x h
theorem qfz(ρ κ:Nat->Nat):∀(l:List Sh) (r:List Ty) (c:ai (iC l r)),ou (fi ρ κ l r c).1=ou (fi cg bO l r c).1
 |[],_,_=>rfl
 |s::l,r,c=>by show ou ((kM ρ κ s (iC l r) c).1::_)=ou ((kM cg bO s (iC l r) c).1::_);cases s<;>rfl
theorem z3k(hf:∀j,inv (cD sk j)=j)(ts:List Nat)(hm:MRel C X φ (a7 s c) w):MRel C X (fun id=>φ (inv id)) (iT sk ts s c).obj w/\(∀b,px (fun id=>φ (inv id)) (iT sk ts s c).obj b↔px φ (a7 s c) b)/\(∀zs,bW φ (a7 s c) (ah X φ (a7 s c) w) w (fill cg bO s c).1 zs->bW (fun id=>φ (inv id)) (iT sk ts s c).obj (ah X (fun id=>φ (inv id)) (iT sk ts s c).obj w) w (fill (cD sk) bO s c).1 zs):=by
 obtain⟨a1,a2,a3⟩:=z0c (fun i j e=>by rw[<-hf i,<-hf j,e]) ts s c;generalize ho:(iT sk ts s c).obj=o at*
 have cU:∀j,(fun id=>φ (inv id)) (cD sk j)=φ j:=fun j=>by simp only[hf]
 have ht:∀j a,j<s.ay.length->aV a (o (cD sk j))=aV a (a7 s c j):=fun j a hj=>by
  rcases a1 j hj with ⟨l,r,q,e1,e2⟩|⟨e1,_⟩
  ·rw[e1,e2];rfl
  ·rw[e1]
 have hq:∀id,(∃j,j<s.ay.length/\cD sk j=id)\/o id=.none:=fun id=>by
  by_cases h:∃j,j<s.ay.length/\cD sk j=id
  ·exact .inl h
  ·exact .inr (a3 id fun j hj e=>h ⟨j,hj,e⟩)
 have hB:∀j a,aV a (a7 s c j)=true->j<s.ay.length:=fun j a hx=>zK fun h=>by rw[a2 j om] at hx;exact lG hx
 have hu:∀b,px (fun id=>φ (inv id)) o b↔px φ (a7 s c) b:=fun b=>by
  constructor
  ·rintro⟨id,e1,e2⟩;rcases hq id with ⟨j,hj,rfl⟩|h
   ·simp only[hf] at e1;exact⟨j,by rw[<-ht j _ hj];exact e1,by rw[<-cU j];exact e2⟩
   ·rw[h] at e1;exact(lG e1).elim
  ·rintro⟨j,e1,e2⟩;exact⟨cD sk j,by simp only[hf];rw[ht j _ (hB j _ e1)];exact e1,by rw[cU];exact e2⟩
 have hy:∀b,ah X φ (a7 s c) w b↔ah X (fun id=>φ (inv id)) o w b:=fun b=>by unfold ah;rw[hu b]
 have hA:∀i,Oy (bO i) (a7 s c i) (o (cD sk i)):=fun i=>by
  by_cases hi:i<s.ay.length
  ·rcases a1 i hi with ⟨l,r,q,e1,e2⟩|⟨e1,e2⟩
   ·rw[e1,e2];trivial
   ·rw[<-e1];cases hc:a7 s c i with
    |vec t v f s'=>exact⟨qoj hc,by rw[qoj hc]⟩
    |box cs=>exact absurd hc (e2 _)
    |map k v m=>trivial
    |dead=>trivial
    |none=>trivial
    |iter l p=>trivial
  ·rw[a2 i om];trivial
 have hv:(fun b=>ah X φ (a7 s c) w b)=ah X (fun id=>φ (inv id)) o w:=funext fun b=>propext (hy b);have hk:ah X φ (a7 s c) w=ah X (fun id=>φ (inv id)) o w:=hv;refine⟨⟨fun id=>?_,fun i j hi hj e=>?_,fun i hi=>?_,hm.xs,fun id=>?_,fun g t x hg=>?_,hm.IB⟩,hu,fun zs hz=>?_⟩
 ·rcases hq id with ⟨j,hj,rfl⟩|h
  ·have hl:=hm.ay j;rcases a1 j hj with ⟨l,r,q,e1,e2⟩|⟨e1,e2⟩
   ·rw[e1] at hl;rw[e2];obtain⟨h1,cz,el,lo,hw,h2,h3,h4⟩:=hl;refine⟨by rw[cU];exact h1,cz,el,lo,hw,by rw[cU];exact h2,h3,?_⟩;rw[hk] at h4;exact Oz (φ':=fun id=>φ (inv id)) hA (fun i _ _=>cU i) l r q _ h4
   ·rw[<-e1];cases hc:a7 s c j with
    |box cs=>exact absurd hc (e2 _)
    |dead=>trivial
    |none=>trivial
    |map k v m=>rw[hc] at hl;obtain⟨es,clock,h1,h2⟩:=hl;rw[hk] at h2;exact⟨es,clock,by rw[cU];exact h1,h2⟩
    |iter l p=>rw[hc] at hl;obtain⟨s',n,h1,h2⟩:=hl;exact⟨s',n,by rw[cU];exact h1,h2⟩
    |vec t ver fr sl=>rw[hc] at hl;obtain⟨h1,h2,h3⟩:=hl;rw[hk] at h3;refine⟨h1,h2,fun hn=>?_⟩;rw[cU];exact h3 hn
  ·rw[h];trivial
 ·rcases hq i with ⟨i',hw,rfl⟩|h
  ·rcases hq j with ⟨j',hC,rfl⟩|h
   ·have hr:∀j,inv (cD sk j)=j:=hf;simp only[hr] at e hi hj;rw[hm.inj i' j' (by rw[<-ht i' _ hw];exact hi) (by rw[<-ht j' _ hC];exact hj) e]
   ·rw[h] at hj;exact(lG hj).elim
  ·rw[h] at hi;exact(lG hi).elim
 ·rcases hq i with ⟨i',hw,rfl⟩|h
  ·have hr:∀j,inv (cD sk j)=j:=hf;simp only[hr] at hi ⊢;exact hm.sep i' (by rw[<-ht i' _ hw];exact hi)
  ·rw[h] at hi;exact(lG hi).elim
 ·rcases hq id with ⟨j,hj,rfl⟩|h
  ·have he:=hm.tH j;show gR C w (φ (inv (cD sk j))) (o (cD sk j));rw[hf];rcases a1 j hj with ⟨l,r,q,e1,e2⟩|⟨e1,e2⟩
   ·rw[e1] at he;rw[e2];exact fun hs=>he (by rw[<-qfz (cD sk) bO];exact hs)
   ·rw[<-e1];exact he
  ·rw[h];trivial
 ·obtain⟨a,cs,h1,h2,h3,h4,h5⟩:=hm.fp g t x hg;rw[hk] at h3 h4;exact⟨a,cs,h1,h2,h3,h4,h5⟩
 ·rw[hk] at hz;exact Oz (φ':=fun id=>φ (inv id)) hA (fun i _ _=>cU i) s.roots _ _ _ hz
theorem qtz{φ:Nat->Addr}{o:Nat->Obj}{imm:Nat->Prop}{g:Nat->Value}:∀(ts:List Nat) (vs:List V),bW φ o imm w vs (ts.map g)->∀t,au φ o imm w (JS ts vs t) (g t)
 |[],_,_,_=>by cases ‹List V›<;>trivial
 |t'::ts,vs,h,t=>by
  cases vs with
  |nil=>trivial
  |cons v vs=>
   obtain⟨z,r,e,h1,h2⟩:=h;injection e with e1 e2;show au φ o imm w (cP (JS ts vs) t' v t) (g t);by_cases ht:t=t'
   ·subst ht;rw[eL,e1];exact h1
   ·rw[nH ht];exact qtz ts vs (e2▸h2) t
end
structure cL (sk:List Nat) (dA:Nat->Addr) (o0:Nat->Obj) (w0:World) (φ:Nat->Addr) (o:Nat->Obj) (w:World):Prop where
 size:w0.heap.size<=w.heap.size
 frame:∀b,b<w0.heap.size->¬px dA o0 b->w.heap[b]?=w0.heap[b]?
 news:∀b,px φ o b->w0.heap.size<=b\/px dA o0 b
 still:Bi w0 w
 up:∀id,id∈sk->Up w0 w (dA id) (φ id) (o0 id) (o id)
theorem cL.refl(sk:List Nat)(dA:Nat->Addr)(o0:Nat->Obj)(w0:World):cL sk dA o0 w0 dA o0 w0:=⟨Nat.le_refl _,fun _ _ _=>rfl,fun _ h=>.inr h,⟨rfl,rfl⟩,fun _ _=>Up.same fun _ _ h=>h⟩
theorem cL.step{C:Cx}{X:Nat->Prop}{dA φ φ':Nat->Addr}{o0 o:Nat->Obj}{w0 w w':World}{u:List (Nat×Obj)}{v:V}{z:Value}{sk:List Nat}(h:cL sk dA o0 w0 φ o w)(hc:Comes C X φ φ' o u w w' v z):cL sk dA o0 w0 φ' (ak o u) w':=by
 refine⟨Nat.le_trans h.size hc.size,fun b hb hn=>?_,fun b ⟨id,e1,e2⟩=>?_,⟨hc.still.1.trans h.still.1,hc.still.2.trans h.still.2⟩,fun id hi=>(h.up id hi).trans (hc.up id)⟩
 ·rw[hc.frame b (Nat.lt_of_lt_of_le hb h.size),h.frame b hb hn];rintro⟨id,_,e1,e2⟩;rcases h.news b ⟨id,e1,e2⟩ with h1|h1
  ·omega
  ·exact hn h1
 ·rcases hc.news id e1 with h1|h1
  ·exact .inl (by have:=h.size;omega)
  ·rw[e2] at h1;exact h.news b h1
theorem Ks{C:Cx}{nt:Fr}{X:Nat->Prop}{φ dA:Nat->Addr}{o0:Nat->Obj}{w0:World}{st:St}{a:Act}{w:World}{sk:List Nat}(hj:gX sk)(h:Rel C nt X φ st a w)(hh:cL sk dA o0 w0 φ st.obj w){s:Shape}{ts:List Nat}{ps:PS}{c:ai s.aW}(hp:EL lf sk (rN 0 sk) st.obj s (ts.map fun t=>dx (st.env t))=some (ps,c)):∃cV X2,(∀b,X b->X2 b)/\Rel C nt X2 cV (iT sk ts s c) a w/\cL sk dA o0 w0 cV (iT sk ts s c).obj w:=by
 obtain⟨hk,hm,he⟩:=OC hp;clear hp;have hp:=hk;clear hk;have hf:=hj.inj;obtain⟨inv,hc⟩:=hj;have hv:bW φ st.obj (ah X φ st.obj w) w (ts.map fun t=>dx (st.env t)) (ts.map fun t=>a.tmps.getD t undef):=by
  clear hp
  induction ts with
  |nil=>rfl
  |cons t ts ih=>exact⟨_,_,rfl,J0 (h.env t),ih⟩
 obtain⟨h1,h2⟩:=Kr h.toMRel hp hv;obtain⟨hg,_⟩:=Fj hp;obtain⟨g1,g2,g3⟩:=z3k hc ts h1;refine⟨_,_,fun b hb=>.inl hb,⟨g1,h.size,fun t=>?_,h.defers⟩,⟨hh.size,hh.frame,fun b hb=>hh.news b (hg.gV ((g2 b).1 hb)),hh.still,fun id hi=>(hh.up id hi).trans ?_⟩⟩
 ·exact qtz ts _ (g3 _ h2) t
 ·obtain⟨i,hn,hq⟩:=jA.1 hi;have hl:sk[i]?=some id:=by rw[ze hn,hq]
  have e:cD sk i=id:=by unfold cD;rw[hl]
  have hr:(i,id)∈ps.aQ:=RG hp _ (by have:=qk1 (n:=0) hl;rwa [zL] at this);have hu:=RH (φ:=φ) (w:=w) hg hr (OA hm id hi) (OB he id hi);have cU:eQ φ ps (inv id)=eQ φ ps i:=by rw[<-e,hc]
  obtain⟨a1,_⟩:=z0c hf ts s c;have ha:=a1 i (hg.aQ hr).1;rw[e] at ha;show Up w w (φ id) (eQ φ ps (inv id)) (st.obj id) _;rw[cU];rcases ha with ⟨l,r,q,e1,e2⟩|⟨e1,_⟩
  ·rw[e2];rw[e1] at hu;cases ho:st.obj id<;>rw[ho] at hu<;>exact hu
  ·rw[<-e1];exact hu
end Ev