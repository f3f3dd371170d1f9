/- All operations are sound; the frame rule; packing. -/
import Derived.Test.YtdgmbemagoakjaaGreatDoorEvD
namespace Ev
open Go
variable{β:Type}{after:Array Edge}{args:Array Operand}{AI:Array TypeId}{b:Bool}{n:Int}{u:List (Nat×Obj)}{sk:List Nat}{l:List Sh}{vs:List V}{ar:List fG}{cO fr g i j k:Nat}{fi φ:Nat→Addr}{o o0:Nat→Obj}{X:Nat→Prop}{x:Operand}{guard:Option (Nat×Bool)}{dst:Option Tmp}{bM ps psF:PS}{t:Ty}{v:V}{z:Value}{w w0:World}{f:∀r,ak r→ak r}
section
variable {C:Cx} {X:Nat→Prop} {φ:Nat→Addr} {o:Nat→Obj} {w:World} {imm:Nat→Prop} {R:kX C.sigs} {env:Nat→V} {ρ:Operand→Value}
def eO(C:Cx)(X:Nat->Prop)(φ:Nat->Addr)(o:Nat->Obj)(w:World)(v:V)(u:List (Nat×Obj))(r:Result Next):Prop:=
 (∃val w' φ',r=.ok (.value val) w'/\Comes C X φ φ' o u w w' v val)\/
 (∃w' φ',r=.ok .skip w'/\Comes C X φ φ' o u w w' v undef)\/
 (∃f args,r=.ok (.enter f args) w/\Calls C.P f args w fun e w'=>∃val φ',e=.returned val/\Comes C X φ φ' o u w w' v val)
theorem eO.upon{r:Result Next}(h:eO C X φ o w v u r){op:Oper}{a:Act}{next:Act->World->Prop}{Q:Exit->Act->World->Prop}(hn:∀val w' φ',Comes C X φ φ' o u w w' v val->next (a.put op.dst val) w'):op.upon C.P a next Q r:=by
 rcases h with ⟨val,w',φ',rfl,hc⟩|⟨w',φ',rfl,hc⟩|⟨f,args,rfl,hc⟩
 ·exact hn _ _ _ hc
 ·exact hn _ _ _ hc
 ·refine Calls.mono hc fun e w' h=>?_;obtain⟨val,φ',rfl,h⟩:=h;exact hn _ _ _ h
theorem ck.cv{s:Sem Value}(h:ck C X φ o w v u s):eO C X φ o w v u ((do pure (Next.value (<-s)):Sem Next).run C.P w):=by obtain⟨val,w',φ',h1,h2⟩:=h;exact .inl ⟨val,w',φ',by simp[h1],h2⟩
theorem IE.cv{s:Sem Unit}(h:IE C X φ o w v u s):eO C X φ o w v u ((do s;pure Next.skip:Sem Next).run C.P w):=by obtain⟨w',φ',h1,h2⟩:=h;exact .inr (.inl ⟨w',φ',by simp[h1],h2⟩)
theorem eO.same(hm:MRel C X φ o w)(h:au φ o (ag X φ o w) w v z):eO C X φ o w v [] (.ok (.value z) w):=.inl ⟨z,w,φ,rfl,.same hm h⟩
theorem qxg{op:BinOp}{t:TypeId}{x y:V}{zx zy:Value}(hl:∀id,rS φ o imm w id (o id))(hx:au φ o imm w x zx)(hy:au φ o imm w y zy)(h:(NZ lf C o op t x y).aD v u):qto zx=true\/(bF t C.eqs=true/\∃xs ys,zx=.agg xs/\zy=.agg ys):=by
 unfold NZ at h;split at h
 ·obtain⟨rfl,_⟩:=pC hx;exact .inl rfl
 ·obtain⟨s,rfl,_⟩:=rU hx;exact .inl rfl
 ·have:=PU hx;subst this;exact .inl rfl
 ·have:=PV hx;subst this;exact .inl rfl
 ·have:=uB hx;subst this;exact .inl rfl
 ·split at h
  ·rw[eT,ze] at h;obtain⟨xs,rfl,_⟩:=hx;obtain⟨ys,rfl,_⟩:=hy;exact .inr ⟨h.1.1,xs,ys,rfl,rfl⟩
  ·cases h
 ·obtain⟨_,h2⟩:=GQ hx;rcases h2 with ⟨_,_,rfl⟩|⟨_,a,cap,ec,rfl,_⟩<;>exact .inl rfl
 ·have:zx=.slice none 0 0:=hx;subst this;exact .inl rfl
 ·obtain⟨c,rfl,_⟩:=hx;exact .inl rfl
 ·have:zx=.nilFunc:=hx;subst this;exact .inl rfl
 ·rename_i a k n;have hx:AH imm w a k n zx:=hx;rcases VC a hx with ⟨rfl,_⟩|⟨_,_,rfl,_⟩<;>exact .inl rfl
 ·have:zx=.pointer none:=hx;subst this;exact .inl rfl
 ·rw[eT,ze] at h;obtain⟨a,rfl⟩:=qmb hx h.1.2;exact .inl rfl
 ·split at h
  ·rename_i e s he;rcases qpp hx he hl with ⟨_,_,rfl⟩|⟨_,a,cap,rfl⟩<;>exact .inl rfl
  ·cases h
 ·cases h
theorem zc4(hE:nW C)(hm:MRel C X φ o w){op:BinOp}{t:TypeId}{y:Operand}{vx vy:V}(hx:au φ o (ag X φ o w) w vx (ρ x))(hy:au φ o (ag X φ o w) w vy (ρ y))(h:(NZ lf C o op t vx vy).aD v u):ck C X φ o w v u (do eqGuard op t x y (ρ x) (ρ y);binOp op t (ρ x) (ρ y)):=by
 have h1:=zbv hm.ar hx hy (fun t p a b xs ys=>hE.eq w _ t p a b xs ys) h;obtain⟨hu,val,h2,h3⟩:=h1;refine ck.aW hm ⟨hu,val,?_,h3⟩;rcases qxg hm.ar hx hy h with hg|⟨hg,xs,ys,e1,e2⟩
 ·simp[qx8 hg,h2]
 ·rw[e1,e2] at h2 ⊢;simp[run_eqGuard_agg w op t x y xs ys (hE.guard t hg),h2]
theorem Qg(dG:∀x,au φ o imm w (cE C env x) (ρ x)):∀(l:List Operand),cu φ o imm w (l.map (cE C env)) (l.map ρ)
 |[]=>rfl
 |x::l=>⟨_,_,rfl,dG x,Qg dG l⟩
theorem qms(dG:∀x,au φ o imm w (cE C env x) (ρ x)):∀(l:List (Nat×Operand)),Dz φ o imm w (l.map fun p=>(p.1,cE C env p.2)) (l.map fun p=>(p.1,ρ p.2))
 |[]=>rfl
 |x::l=>⟨_,_,rfl,dG x.2,qms dG l⟩
theorem qrt(dG:∀x,au φ o imm w (cE C env x) (ρ x))(x:Option Operand):Bx φ o imm w (x.map (cE C env)) (x.map ρ):=by
 cases x with
 |none=>trivial
 |some x=>exact dG x
theorem qu9{xs:Array Operand}{ρ:Operand->Value}{l:List Operand}(h:xs.toList=l):xs.map ρ=(l.map ρ).toArray:=by rw[<-h,<-ZK,ZH]
def EE(C:Cx)(R:kX C.sigs)(X:Nat->Prop)(φ:Nat->Addr)(o:Nat->Obj)(w:World)(fr f:Nat):Prop:=
 ∀(vs:List V) (zs:List Value) (v:V) (u:List (Nat×Obj)),cu φ o (ag X φ o w) w vs zs->(Dq lf C R o fr f vs C.sigs 0).aD v u->nK fr o u->
  (∃fn,C.P.funcs[f]?=some fn/\(fn.name== "runtime.NumGoroutine")=false/\fn.body.isNone=false)/\
  Calls C.P f zs.toArray w fun e w'=>∃val φ',e=.returned val/\Comes C X φ φ' o u w w' v val
theorem zmt(hm:MRel C X φ o w)(dG:∀x,au φ o (ag X φ o w) w (cE C env x) (ρ x)){ty:TypeId}(x:Operand)(h:(PB C fr ty (cE C env x)).aD v u)(hf:nK fr o u):eO C X φ o w v u (.ok (.value (ρ x)) w):=by
 have hx:=dG x;unfold PB at h;split at h
 ·rename_i e1;rw[e1] at hx;split at h
  ·rename_i e _;rw[kg] at h;obtain⟨rfl,rfl⟩:=h;have hc:o fr=.none:=hf _ (zg ..) (zm _) (by show fr<fr+16;omega);refine .inl ⟨_,w,φ,rfl,Comes.write hm (.vec e 0 false ⟨true,[]⟩) (by simp[aV,live]) rfl (fun _ _=>rfl) (Om hc _) (fun _ _ _=>⟨zC _,fun _=>rfl,fun h=>by simp at h⟩) (fun _ h=>by simp at h) (fun he=>?_)⟩;unfold au;rw[he];exact⟨zm _,fun _=>.inl ⟨rfl,hx⟩⟩
  ·rw[kg] at h;obtain⟨rfl,rfl⟩:=h;exact .same hm hx
 ·rw[kg] at h;obtain⟨rfl,rfl⟩:=h;exact .same hm hx
theorem zja(hm:MRel C X φ o w)(dG:∀x,au φ o (ag X φ o w) w (cE C env x) (ρ x)){c a b:Operand}{ty:TypeId}{pos:String}  (h:(dD lf C R env o fr ty (.pick c a b)).aD v u):eO C X φ o w v u ((execOp ρ ⟨dst,.pick c a b,ty,pos,after,guard⟩).run C.P w):=by
 have hc:=dG c;have key:∀x,(El C env c=.lb x\/El C env c=.d .bool x)->cE C env c=.d .bool x:=by
  intro x h;cases c with
  |tmp t=>show eI (env t)=_;have h:env t=.lb x\/env t=.d .bool x:=h;rcases h with h|h<;>rw[h]<;>rfl
  |const z=>
   rcases h with h|h
   ·exfalso;have h:dJ z=.lb x:=h;have hn:∀(b:Bool) (y:V),(∀x,y≠.lb x)->(bif b then y else V.dZ)≠.lb x:=by
     intro b y hy;cases b
     ·intro h;cases h
     ·exact hy x
    unfold dJ at h;split at h<;>first|exact hn _ _ (fun _ h=>by cases h) h|cases h
   ·exact h
  |global g=>
   rcases h with h|h
   ·exfalso;have h:cE C env (.global g)=.lb x:=h;simp only[cE] at h;split at h<;>cases h
   ·exact h
  |func f=>
   rcases h with h|h
   ·have h:(bif Nat.blt f 1048576 then V.fn f [] else .dZ)=.lb x:=h;cases hb:Nat.blt f 1048576<;>rw[hb] at h<;>cases h
   ·have h:(bif Nat.blt f 1048576 then V.fn f [] else .dZ)=.d .bool x:=h;cases hb:Nat.blt f 1048576<;>rw[hb] at h<;>cases h
 simp only[dD] at h;split at h
 ·rename_i x e;rw[kg] at h;obtain⟨rfl,rfl⟩:=h;rw[key x (.inl e)] at hc;have hc:=uB hc;simp only[execOp,hc,asBool];cases x
  ·exact .same hm (dG b)
  ·exact .same hm (dG a)
 ·rename_i x e;rw[kg] at h;obtain⟨rfl,rfl⟩:=h;rw[key x (.inr e)] at hc;have hc:=uB hc;simp only[execOp,hc,asBool];exact .same hm (zbz (dG a) (dG b))
 ·cases h
theorem zjb(hm:MRel C X φ o w)(dG:∀x,au φ o (ag X φ o w) w (cE C env x) (ρ x)){op:UnOp}{t:TypeId}{ty:TypeId}{pos:String}  (h:(dD lf C R env o fr ty (.unOp op t x)).aD v u):eO C X φ o w v u ((execOp ρ ⟨dst,.unOp op t x,ty,pos,after,guard⟩).run C.P w):=by
 have hx:=dG x;cases op with
 |xor=>
  simp only[dD] at h;split at h
  ·rename_i k n e;rw[e] at hx;rw[kg] at h;obtain⟨rfl,rfl⟩:=h;obtain⟨hz,_⟩:=pC hx;simp only[execOp,hz];have e1:Il k=if k.signed then -1 else k.max:=by cases k<;>decide
   exact(ck.aW hm ⟨rfl,.int k (lf.pX k (Il k) n),by rw[e1];simp[Op.unary,Op.intBits,lf,pX,pure],oG (Oe _ _)⟩).cv
  ·cases h
 |plus=>exact False.elim h
 |neg=>
  simp only[dD] at h;split at h
  ·rename_i k n e;rw[e] at hx;rw[kg] at h;obtain⟨rfl,rfl⟩:=h;obtain⟨hz,_⟩:=pC hx;simp only[execOp,hz];exact(ck.aW hm ⟨rfl,.int k (k.wrap (0-n)),by simp[Op.unary,Op.intArith],oG (Oe _ _)⟩).cv
  ·cases h
 |not=>
  simp only[dD] at h;split at h
  ·rename_i b e;rw[e] at hx;rw[kg] at h;obtain⟨rfl,rfl⟩:=h;have hz:=uB hx;simp only[execOp,hz];exact(ck.aW hm ⟨rfl,.bool (!b),by simp[Op.unary],EA⟩).cv
  ·cases h
theorem qxh(hm:MRel C X φ o w)(dG:∀x,au φ o (ag X φ o w) w (cE C env x) (ρ x)){fn:Fn}{first caps:Array Operand}{ty:TypeId}{pos:String}  (h:(dD lf C R env o fr ty (.makeFunc fn first caps)).aD v u):eO C X φ o w v u ((execOp ρ ⟨dst,.makeFunc fn first caps,ty,pos,after,guard⟩).run C.P w):=by
 cases fn<;>try exact False.elim h
 rename_i f;simp only[dD] at h;cases hb:Nat.blt f 1048576 with
 |false=>rw[hb] at h;exact False.elim h
 |true=>
  rw[hb] at h;have h:(Pk.now (.fn (f+1048576*first.toList.length) (first.toList.map (cE C env)++caps.toList.map (cE C env)))).aD v u:=h;rw[kg] at h;obtain⟨rfl,rfl⟩:=h;have hc:f<1048576:=zP hb;have e1:(f+1048576*first.toList.length) % 1048576=f:=by rw[Nat.add_mul_mod_self_left];exact Jf hc
  have e2:(f+1048576*first.toList.length) / 1048576=first.toList.length:=by rw[Nat.add_mul_div_left _ _ dc,JA hc,zW]
  have hl:(first.toList.map ρ).length=first.toList.length:=zI _;simp only[execOp,Instr.makeFunc];have hv:au φ o (ag X φ o w) w (.fn (f+1048576*first.toList.length) (first.toList.map (cE C env)++caps.toList.map (cE C env))) (.func (.func f) (first.map ρ) (caps.map ρ)):=by
   refine⟨(first.toList.map ρ++caps.toList.map ρ).toArray,?_,?_⟩
   ·unfold PM;rw[e1,e2];have t1:((first.toList.map ρ++caps.toList.map ρ).take first.toList.length).toArray=first.map ρ:=by rw[<-hl,Jt];apply Zd.1;simp
    have t2:((first.toList.map ρ++caps.toList.map ρ).drop first.toList.length).toArray=caps.map ρ:=by rw[<-hl,ZZ];apply Zd.1;simp
    show _=Value.func (.func f) ((first.toList.map ρ++caps.toList.map ρ).take first.toList.length).toArray ((first.toList.map ρ++caps.toList.map ρ).drop first.toList.length).toArray;rw[t1,t2]
   ·exact GX (Qg dG _) (Qg dG _)
  exact(ck.aW (s:=pure (.func (.func f) (first.map ρ) (caps.map ρ))) hm ⟨rfl,_,rfl,hv⟩).cv
theorem z33(hm:MRel C X φ o w)(dG:∀x,au φ o (ag X φ o w) w (cE C env x) (ρ x)){ty:TypeId}{pos:String}  (h:(dD lf C R env o fr ty (.extract x i)).aD v u):eO C X φ o w v u ((execOp ρ ⟨dst,.extract x i,ty,pos,after,guard⟩).run C.P w):=by exact(zc3 hm (dG x) h).cv
theorem zjc(hm:MRel C X φ o w)(dG:∀x,au φ o (ag X φ o w) w (cE C env x) (ρ x)){ty:TypeId}{pos:String}  (h:(dD lf C R env o fr ty (.next x b)).aD v u):eO C X φ o w v u ((execOp ρ ⟨dst,.next x b,ty,pos,after,guard⟩).run C.P w):=by
 cases b with
 |false=>exact False.elim h
 |true=>exact(z60 hm (dG x) h).cv
theorem qmt:∀(a:List (Nat×Bool)) (i:Nat) (k:Int),PF lf C R o fr (k+(i:Int)) n vs a i=some (some b)->AH imm w a k n z->∃f caps GZ,z=.func (.func f) #[] GZ/\cu φ o imm w caps GZ.toList/\(Dq lf C R o fr f (vs++caps) C.sigs 0).aD (.d .bool b) []
 |[],_,_,h,_=>by cases h
 |(f,c)::r,i,k,h,hr=>by
  unfold PF at h;split at h
  ·rename_i x hx;split at h
   ·rename_i y hy;injection h with h;rcases hr with ⟨rfl,h2⟩|⟨h1,h2⟩
    ·have he:lf.e (0+(i:Int)) (Int.ofNat i)=true:=by show((0+(i:Int))==Int.ofNat i)=true;simp
     rw[he] at h;have h:x=some b:=h;subst h;have gv:(Dq lf C R o fr f (vs++bif c then [.ref (.int .i64) n] else []) C.sigs 0).aD (.d .bool b) []:=by
      revert hx;generalize Dq lf C R o fr f (vs++bif c then [.ref (.int .i64) n] else []) C.sigs 0=p;intro hx;cases p with
      |fail=>cases hx
      |nQ v u=>cases hx
      |dyn α x' out=>
       injection hx with hx;cases x' with
       |none=>cases hx
       |some q=>
        have hx:(match out q with|(.d .bool b,[])=>some b|_=>none)=some b:=hx;split at hx
        ·rename_i b' eo;injection hx with hx;subst hx;exact⟨q,rfl,eo⟩
        ·cases hx
     cases c with
     |false=>exact⟨f,[],#[],h2,rfl,gv⟩
     |true=>obtain⟨p,h3,h4⟩:=h2;exact⟨f,[.ref (.int .i64) n],#[p],h3,⟨p,[],rfl,h4,rfl⟩,gv⟩
    ·have he:lf.e (k+(i:Int)) (Int.ofNat i)=false:=by
      show((k+(i:Int))==Int.ofNat i)=false;have:k+(i:Int)≠Int.ofNat i:=by show k+(i:Int)≠(i:Int);omega
      exact beq_false_of_ne this
     rw[he] at h;have h:y=some b:=h;subst h;refine qmt r (i+1) (k-1) ?_ h2;have:k-1+((i+1:Nat):Int)=k+(i:Int):=om
     rw[this];exact hy
   ·cases h
  ·cases h
theorem zc5(dG:∀x,au φ o (ag X φ o w) w (cE C env x) (ρ x)){f:Operand}{ty:TypeId}{pos:String}  (he:∀f,EE C R X φ o w fr f) (h:(dD lf C R env o fr ty (.call ⟨.value f,args,AI⟩)).aD v u) (hf:nK fr o u):eO C X φ o w v u ((execOp ρ ⟨dst,.call ⟨.value f,args,AI⟩,ty,pos,after,guard⟩).run C.P w):=by
 have hx:=dG f;simp only[dD] at h;split at h
 ·rename_i vc caps e;rw[e] at hx;obtain⟨cz,hz,hr⟩:=hx;have hc:cu φ o (ag X φ o w) w (caps.take (vc / 1048576)++(args.toList.map (cE C env)++caps.drop (vc / 1048576))) (cz.toList.take (vc / 1048576)++((args.map ρ).toList++cz.toList.drop (vc / 1048576))):=by rw[ZK];exact GX (P8 _ hr) (GX (Qg dG _) (P7 _ hr))
  obtain⟨⟨fn,g1,g2,g3⟩,g4⟩:=he (vc % 1048576) _ _ v u hc h hf;refine .inr (.inr ⟨vc % 1048576,(cz.toList.take (vc / 1048576)++((args.map ρ).toList++cz.toList.drop (vc / 1048576))).toArray,?_,g4⟩);have e2:(cz.toList.take (vc / 1048576)++((args.map ρ).toList++cz.toList.drop (vc / 1048576))).toArray=(cz.toList.take (vc / 1048576)).toArray++args.map ρ++(cz.toList.drop (vc / 1048576)).toArray:=by apply Zd.1;simp
  rw[e2];have IA:¬fn.name= "runtime.NumGoroutine":=by simpa using g2
  have Qh:fn.body≠none:=by intro e;rw[e] at g3;cases g3
  unfold PM at hz;simp[execOp,resolve,hz,Deferred.ofValue,invoke,callFunc,g1,IA,Qh]
 ·rename_i a k n e;rw[e] at hx;split at h
  ·rename_i x hg;obtain⟨b,hb,ho⟩:=h;subst hb;injection ho with hj hk;subst hj hk;have hg:PF lf C R o fr (k+((0:Nat):Int)) n (args.toList.map (cE C env)) a 0=some (some b):=by
    have:k+((0:Nat):Int)=k:=om
    rw[this];exact hg
   obtain⟨vc,caps,cz,hz,hr,h⟩:=qmt (φ:=φ) (imm:=ag X φ o w) (w:=w) a 0 k hg hx;have hc:cu φ o (ag X φ o w) w (args.toList.map (cE C env)++caps) ((args.map ρ).toList++cz.toList):=by rw[ZK];exact GX (Qg dG _) hr
   obtain⟨⟨fn,g1,g2,g3⟩,g4⟩:=he vc _ _ _ _ hc h hf;refine .inr (.inr ⟨vc,((args.map ρ).toList++cz.toList).toArray,?_,g4⟩);have e2:((args.map ρ).toList++cz.toList).toArray=args.map ρ++cz:=by apply Zd.1;simp
   rw[e2];have IA:¬fn.name= "runtime.NumGoroutine":=by simpa using g2
   have Qh:fn.body≠none:=by intro e;rw[e] at g3;cases g3
   simp[execOp,resolve,hz,Deferred.ofValue,invoke,callFunc,g1,IA,Qh]
  ·exact False.elim h
 ·cases h
theorem qua{k:IntKind}{a b:Int}(ha:iI k a)(hb:iI k b):iI k (lA a b)/\iI k (lB a b):=by unfold lA lB;constructor<;>split<;>assumption
theorem z34(hC:cS C)(hm:MRel C X φ o w)(dG:∀x,au φ o (ag X φ o w) w (cE C env x) (ρ x)){b:Builtin}{ty:TypeId}{pos:String}  (h:(dD lf C R env o fr ty (.call ⟨.builtin b,args,AI⟩)).aD v u) (hf:nK fr o u):eO C X φ o w v u ((execOp ρ ⟨dst,.call ⟨.builtin b,args,AI⟩,ty,pos,after,guard⟩).run C.P w):=by
 have r8:∀{x y:V},args.toList.map (cE C env)=[x,y]->∃zx zy,args.map ρ=#[zx,zy]/\au φ o (ag X φ o w) w x zx/\au φ o (ag X φ o w) w y zy:=by
  intro x y e
  match hl:args.toList,e with
  |[a,b],e=>simp only[zX,Jq,Zb,Jx] at e;obtain⟨rfl,rfl⟩:=e;exact⟨ρ a,ρ b,qu9 hl,dG a,dG b⟩
 have wF:∀{x:V},args.toList.map (cE C env)=[x]->∃zx,args.map ρ=#[zx]/\au φ o (ag X φ o w) w x zx:=by
  intro x e
  match hl:args.toList,e with
  |[a],e=>simp only[zX,Jq,Zb,Jx] at e;subst e;exact⟨ρ a,qu9 hl,dG a⟩
 have bQ:∀{l:List TypeId},AI.toList=l->AI=l.toArray:=fun e=>by rw[<-e,ZH]
 simp only[dD,qti] at h;split at h
 ·rename_i t ts x e1 e2;obtain⟨zx,h1,h2⟩:=wF e2;have:=(ck.aW hm (zbx (ts:=ts) (ty:=ty) hm h2 h)).cv;rw[<-bQ e1] at this;simpa[execOp,resolve,invoke,builtin,h1] using this
 ·rename_i t u' ts x y e1 e2;obtain⟨zx,zy,h1,h2,h3⟩:=r8 e2;have:=(qxe (ts:=ts) (ty:=ty) hC hm h2 h3 h hf).cv;rw[<-bQ e1] at this;simpa[execOp,resolve,invoke,builtin,h1] using this
 ·rename_i t ts x y e1 e2;obtain⟨zx,zy,h1,h2,h3⟩:=r8 e2;have:=(z5t (ts:=ts) (ty:=ty) hC hm h2 h3 h).cv;rw[<-bQ e1] at this;simpa[execOp,resolve,invoke,builtin,h1] using this
 ·rename_i t ts x e1 e2;obtain⟨zx,h1,h2⟩:=wF e2;have:=(z30 (ts:=ts) (ty:=ty) hC hm h2 h).cv;rw[<-bQ e1] at this;simpa[execOp,resolve,invoke,builtin,h1] using this
 ·rename_i k a k' b e2;obtain⟨zx,zy,h1,h2,h3⟩:=r8 e2;obtain⟨rfl,i1⟩:=pC h2;obtain⟨rfl,i2⟩:=pC h3;rw[eT,kg] at h;obtain⟨hk,rfl,rfl⟩:=h;have:=PZ hk;subst this;have:eO C X φ o w (.d (.int k) (lf.lA a b)) [] _:=(ck.aW (s:=Builtin.min_ AI ty #[.int k a,.int k b]) hm ⟨rfl,.int k (lA a b),by simp[Builtin.min_,Builtin.min2,lA],oG (qua i1 i2).1⟩).cv;simpa[execOp,resolve,invoke,builtin,h1] using this
 ·rename_i k a k' b e2;obtain⟨zx,zy,h1,h2,h3⟩:=r8 e2;obtain⟨rfl,i1⟩:=pC h2;obtain⟨rfl,i2⟩:=pC h3;rw[eT,kg] at h;obtain⟨hk,rfl,rfl⟩:=h;have:=PZ hk;subst this;have:eO C X φ o w (.d (.int k) (lf.lB a b)) [] _:=(ck.aW (s:=Builtin.max_ AI ty #[.int k a,.int k b]) hm ⟨rfl,.int k (lB a b),by simp[Builtin.max_,Builtin.max2,lB],oG (qua i1 i2).2⟩).cv;simpa[execOp,resolve,invoke,builtin,h1] using this
 ·rename_i a b e2;obtain⟨zx,zy,h1,h2,h3⟩:=r8 e2;have g1:=PU h2;have g2:=PU h3;subst g1 g2;rw[kg] at h;obtain⟨rfl,rfl⟩:=h;have:eO C X φ o w (.d .fY ((a:Nat),(b:Nat))) [] _:=(ck.aW (s:=Builtin.complex_ AI ty #[.float .f64 a,.float .f64 b]) hm ⟨rfl,.complex .f64 a b,rfl,zga (b:=(a,b))⟩).cv;simpa[execOp,resolve,invoke,builtin,h1] using this
 ·rename_i a e2;obtain⟨zx,h1,h2⟩:=wF e2;have g1:=PV h2;subst g1;rw[kg] at h;obtain⟨rfl,rfl⟩:=h;have:eO C X φ o w (.d .gz (Prod.fst (α:=Nat) (β:=Nat) a)) [] _:=(ck.aW (s:=Builtin.real_ AI ty #[.complex .f64 (Prod.fst (α:=Nat) (β:=Nat) a) (Prod.snd (α:=Nat) (β:=Nat) a)]) hm ⟨rfl,.float .f64 _,rfl,VE⟩).cv;simpa[execOp,resolve,invoke,builtin,h1] using this
 ·rename_i a e2;obtain⟨zx,h1,h2⟩:=wF e2;have g1:=PV h2;subst g1;rw[kg] at h;obtain⟨rfl,rfl⟩:=h;have:eO C X φ o w (.d .gz (Prod.snd (α:=Nat) (β:=Nat) a)) [] _:=(ck.aW (s:=Builtin.imag_ AI ty #[.complex .f64 (Prod.fst (α:=Nat) (β:=Nat) a) (Prod.snd (α:=Nat) (β:=Nat) a)]) hm ⟨rfl,.float .f64 _,rfl,VE⟩).cv;simpa[execOp,resolve,invoke,builtin,h1] using this
 ·cases h
set_option maxHeartbeats 4000000 in
theorem zjd(hC:cS C)(hE:nW C)(hm:MRel C X φ o w)(dG:∀x,au φ o (ag X φ o w) w (cE C env x) (ρ x)){op:Oper}(hc:∀f,EE C R X φ o w fr f)(h:(dD lf C R env o fr op.type op.op).aD v u)(hf:nK fr o u):eO C X φ o w v u ((execOp ρ op).run C.P w):=by
 obtain⟨dst,op,ty,pos,after,guard⟩:=op;cases op
 case move x=>exact zmt hm dG x h hf
 case assign x=>exact zmt hm dG x h hf
 case pick c a b=>exact zja hm dG h
 case alloc e=>exact(z2x hC hm h hf _).cv
 case box e x=>exact(zc1 hm (dG x) h hf).cv
 case build t ps=>refine(z5p (fun v u h=>z2y (zparts:=ps.map fun p=>(p.1,ρ p.2)) hC hm ?_ h) h hf).cv;rw[ZK];exact qms dG _
 case buildSlice t n ps=>refine(qmo (zparts:=ps.map fun p=>(p.1,ρ p.2)) hC hm ?_ h hf).cv;rw[ZK];exact qms dG _
 case load t a=>exact(ck.aW hm (qtx hC hm (dG a) h)).cv
 case store t a x=>exact(z2z hC hm (dG a) (dG x) h).cv
 case nilCheck x=>obtain⟨rfl,rfl,hz⟩:=zc0 (dG x) h;have hx:=dG x;rcases hz with ⟨a,e⟩|⟨f,p,c,e⟩<;>simp only[execOp,e]<;>rw[e] at hx<;>exact .same hm hx
 case binOp op t x y yt=>exact(zc4 hE hm (dG x) (dG y) h).cv
 case unOp op t x=>exact zjb hm dG h
 case convert s d x=>exact(qu3 hC hm (dG x) h hf).cv
 case makeFunc fn first caps=>exact qxh hm dG h
 case makeSlice t l c=>exact(qoy hC hm (dG l) (dG c) h hf).cv
 case slice t x lo hi mx=>exact(z2v hC hm (dG x) (qrt dG lo) (qrt dG hi) (qrt dG mx) h hf).cv
 case fieldAddr t x f=>exact(ck.aW hm (qov hC hm (dG x) h)).cv
 case field t x f=>exact(ck.aW hm (z2t hC hm (dG x) h)).cv
 case indexAddr t x i=>exact(ck.aW hm (qow hC hm (dG x) (dG i) h)).cv
 case index t x i=>exact(ck.aW hm (z2u hC (dG x) (dG i) h)).cv
 case extract x i=>exact z33 hm dG h
 case range t x=>exact(z32 hm (dG x) h hf).cv
 case next x b=>exact zjc hm dG h
 case makeMap t r=>exact False.elim h
 case lookup t x k ok=>exact False.elim h
 case mapUpdate t m k x=>exact False.elim h
 case call c=>
  obtain⟨callee,args,AI⟩:=c;cases callee with
  |invoke r m=>exact False.elim h
  |value f=>exact zc5 dG hc h hf
  |builtin b=>exact z34 hC hm dG h hf
 all_goals exact False.elim h
end
theorem cP:∀{l:List Nat},bF j l=true↔j∈l
 |[]=>by simp[bF]
 |b::r=>by
  simp only[bF,zA];cases h:Nat.beq b j with
  |true=>have:=zo h;simp[this]
  |false=>
   have:¬j=b:=fun e=>by subst e;rw[JG] at h;cases h
   simp[this,cP]
theorem Qi:∀{u:List (Nat×Obj)} {o o':Nat->Obj} {id:Nat},id∈bU u->aj o u id=aj o' u id
 |(i,x)::r,o,o',id,h=>by
  show aj (dR o i x) r id=aj (dR o' i x) r id;by_cases hr:id∈bU r
  ·exact Qi hr
  ·rw[iR hr,iR hr];simp[bU,List.mem_cons,hr,or_false] at h;subst h;rw[gq,gq]
section
variable {C:Cx} {X:Nat→Prop} {φ φ':Nat→Addr} {o o':Nat→Obj} {w w':World} {imm:Nat→Prop} {F:List Nat}
theorem qpt:∀(x:V) (z:Value),(∀id,id∈gB x->o' id=o id)->au φ o imm w x z->au φ o' imm w x z:=by
 intro x;refine V.rec (motive_1:=fun x=>∀z,(∀id,id∈gB x->o' id=o id)->au φ o imm w x z->au φ o' imm w x z)
  (motive_2:=fun l=>∀zs,(∀id,id∈mf l->o' id=o id)->cu φ o imm w l zs->cu φ o' imm w l zs)
  ?_ ?_ ?_ ?_ ?_ ?_ ?_ ?_ ?_ ?_ ?_ ?_ ?_ ?_ ?_ ?_ ?_ ?_ ?_ ?_ ?_ ?_ ?_ ?_ x
 ·exact fun t x z _ h=>h
 ·intro id ver z hs h;have:=hs id (by simp[gB]);unfold au at*;rw[this];exact h
 ·intro id ver n cp z hs h;have:=hs id (by simp[gB]);unfold au at*;rw[this];exact h
 ·intro id off z hs h;have:=hs id (by simp[gB]);unfold au at*;rw[this];exact h
 ·intro id ver i path z hs h;have:=hs id (by simp[gB]);unfold au at*;rw[this];exact h
 ·exact fun t x z _ h=>h
 ·exact fun z _ h=>h
 ·exact fun f l ih z hs ⟨c,h1,h2⟩=>⟨c,h1,ih _ (fun id h=>hs id (by exact h)) h2⟩
 ·exact fun z _ h=>h
 ·exact fun l ih z hs ⟨c,h1,h2⟩=>⟨c,h1,ih _ (fun id h=>hs id (by exact h)) h2⟩
 ·exact fun l ih z hs ⟨c,h1,h2⟩=>⟨c,h1,ih _ (fun id h=>hs id (by exact h)) h2⟩
 ·exact fun z _ h=>h
 ·exact fun z _ h=>h
 ·exact fun b z _ h=>h
 ·exact fun z _ h=>h
 ·exact fun z _ h=>h
 ·intro id b z hs h;have:=hs id (by simp[gB]);unfold au at*;rw[this];exact h
 ·intro id ver lo z hs h;have:=hs id (by simp[gB]);unfold au at*;rw[this];exact h
 ·intro id z hs h;have:=hs id (by simp[gB]);unfold au at*;rw[this];exact h
 ·exact fun b p c z _ h=>h
 ·exact fun a k n z _ h=>h
 ·exact fun t x z _ h=>h
 ·exact fun zs _ h=>h
 ·exact fun x l kq kC zs hs ⟨v,r,h1,h2,h3⟩=>⟨v,r,h1,kq _ (fun id h=>hs id (by exact zN _ h)) h2,
   kC _ (fun id h=>hs id (by exact zG _ h)) h3⟩
theorem qub:∀(l:List V) (zs:List Value),(∀id,id∈mf l->o' id=o id)->cu φ o imm w l zs->cu φ o' imm w l zs
 |[],_,_,h=>h
 |x::l,_,hs,⟨v,r,h1,h2,h3⟩=>⟨v,r,h1,qpt x v (fun id h=>hs id (by exact zN _ h)) h2,
   qub l r (fun id h=>hs id (by exact zG _ h)) h3⟩
def Xr(X:Nat->Prop)(φ:Nat->Addr)(o:Nat->Obj)(F:List Nat)(b:Nat):Prop:=X b\/∃id,id∉F/\aV (φ id) (o id)=true/\(φ id).block=b
theorem oH{id:Nat}(h:id∈F):eP o F id=o id:=by unfold eP;rw[cP.2 h];rfl
theorem xN{id:Nat}(h:id∉F):eP o F id=.none:=by
 unfold eP;cases e:bF id F with
 |true=>exact absurd (cP.1 e) h
 |false=>rfl
theorem xO(b:Nat):ag (Xr X φ o F) φ (eP o F) w b↔ag X φ o w b:=by
 constructor
 ·rintro⟨h1,h2,h3⟩;refine⟨h1,fun h=>h2 (.inl h),fun⟨id,e1,e2⟩=>?_⟩;by_cases hi:id∈F
  ·exact h3 ⟨id,by rw[oH hi];exact e1,e2⟩
  ·exact h2 (.inr ⟨id,hi,e1,e2⟩)
 ·rintro⟨h1,h2,h3⟩;refine⟨h1,?_,fun⟨id,e1,e2⟩=>?_⟩
  ·rintro(h|⟨id,_,e1,e2⟩)
   ·exact h2 h
   ·exact h3 ⟨id,e1,e2⟩
  ·by_cases hi:id∈F
   ·rw[oH hi] at e1;exact h3 ⟨id,e1,e2⟩
   ·rw[xN hi] at e1;exact(nI e1).elim
theorem z35{imm':Nat->Prop}{id:Nat}{x:Obj}(hi:∀b,imm b->imm' b)(hs:∀j,j∈Bq x->o' j=o j)(h:rS φ o imm w id x):rS φ o' imm' w id x:=by
 have hk:∀x z,au φ o' imm w x z->au φ o' imm' w x z:=fun x z h=>Bs hi (fun _ _=>rfl) (fun _=>Up.same fun _ _ h=>h) x z h;cases x with
 |dead=>trivial
 |none=>trivial
 |box cs=>have⟨h1,c,el,lo,hc,h2,h3,h4⟩:=h;exact⟨h1,c,el,lo,hc,h2,h3,EB hk _ _ (qub cs _ hs h4)⟩
 |iter l p=>exact h
 |vec t ver fr s=>have⟨h1,h2,h3⟩:=h;refine⟨h1,h2,fun hn=>?_⟩;refine(h3 hn).imp (fun⟨h4,ec,h5,h6,h7,h8,h9⟩=>?_) fun g=>g;exact⟨h4,ec,rq (j9 hi (fun _ _=>rfl) t) h5,h6,h7,h8,fun hf=>hi _ (h9 hf)⟩
theorem MRel.lC(hm:MRel C X φ o w)(id:Nat)(hb:aV (φ id) (o id)=true->fH w w' (φ id).block)(stays:∀b,ag X φ o w b->w'.heap[b]?=w.heap[b]?):iQ C w' (φ id) (o id):=by
 refine(hm.uA id).bD hb (fun ver s e hn=>.same ?_) (hm.PN id);have ho:=hm.ar id;rw[e] at ho;have⟨_,_,ho⟩:=ho
 grind
theorem MRel.restrict(hm:MRel C X φ o w)(hc:∀id,id∈F->∀j,j∈Bq (o id)->j∈F):MRel C (Xr X φ o F) φ (eP o F) w:=by
 refine⟨fun id=>?_,fun i j hi hj e=>?_,fun i hi=>?_,fun b hb=>?_,fun id=>?_,fun g t x hg=>?_,hm.Oc⟩
 ·by_cases h:id∈F
  ·rw[oH h];exact z35 (fun b hb=>(xO b).2 hb) (fun j hj=>oH (hc id h j hj)) (hm.ar id)
  ·rw[xN h];trivial
 ·have h1:i∈F:=zF fun h=>by rw[xN h] at hi;exact nI hi
  have h2:=zF fun h=>by rw[xN h] at hj;exact nI hj
  rw[oH h1] at hi;rw[oH h2] at hj;exact hm.inj i j hi hj e
 ·have h1:=zF fun h=>by rw[xN h] at hi;exact nI hi
  rw[oH h1] at hi;refine⟨(hm.sep i hi).1,?_⟩;rintro(h|⟨id,h2,h3,h4⟩)
  ·exact(hm.sep i hi).2 h
  ·have:=hm.inj id i h3 hi h4;exact h2 (this▸h1)
 ·rcases hb with hb|⟨id,_,h3,h4⟩
  ·exact hm.xs b hb
  ·exact h4▸(hm.sep id h3).1
 ·by_cases h:id∈F
  ·rw[oH h];exact hm.uA id
  ·rw[xN h];trivial
 ·obtain⟨a,cs,h1,h2,h3,h4,h5⟩:=hm.fT g t x hg;exact⟨a,cs,h1,h2,(xO _).2 h3,j9 (fun b hb=>(xO b).2 hb) (fun _ _=>rfl) t x cs h4,h5⟩
theorem qmv{x:V}(hs:∀id,id∈gB x->id∈F)(h:au φ o (ag X φ o w) w x z):au φ (eP o F) (ag (Xr X φ o F) φ (eP o F) w) w x z:=Bs (fun b hb=>(xO b).2 hb) (fun _ _=>rfl) (fun _=>Up.same fun _ _ h=>h) x z (qpt x z (fun id hi=>oH (hs id hi)) h)
theorem Comes.ve(hm:MRel C X φ o w)(hu:∀id,id∈bU u->id∉F->o id=.none)(h:Comes C (Xr X φ o F) φ φ' (eP o F) u w w' v z):∃iz,Comes C X φ iz o u w w' v z:=by
 let ins:Nat->Prop:=fun id=>id∈F\/id∈bU u;refine⟨fun id=>bif bF id F||bF id (bU u) then φ' id else φ id,?_⟩;generalize eZ:(fun id=>bif bF id F||bF id (bU u) then φ' id else φ id)=iz;have p1:∀id,ins id->iz id=φ' id:=fun id hi=>by
  have:(bF id F||bF id (bU u))=true:=by rw[jk];exact hi.imp cP.2 cP.2
  grind
 have p2:∀id,¬ins id->iz id=φ id:=fun id hi=>by
  have:(bF id F||bF id (bU u))=false:=by
   cases e:(bF id F||bF id (bU u)) with
   |false=>rfl
   |true=>rw[jk] at e;exact absurd (e.imp cP.1 cP.1) hi
  grind
 have q1:∀id,ins id->aj o u id=aj (eP o F) u id:=fun id hi=>by
  by_cases hk:id∈bU u
  ·exact Qi hk
  ·rw[iR hk,iR hk,oH (hi.resolve_right hk)]
 have q2:∀id,¬ins id->aj o u id=o id/\aj (eP o F) u id=.none:=fun id hi=>⟨iR fun hk=>hi (.inr hk),by rw[iR fun hk=>hi (.inr hk),xN fun hf=>hi (.inl hf)]⟩;have q3:∀id,ins id->id∉F->o id=.none:=fun id hi hf=>hu id (hi.resolve_left hf) hf;have hl:∀b,ag (Xr X φ o F) φ' (aj (eP o F) u) w' b↔ag X iz (aj o u) w' b:=fun b=>by
  constructor
  ·rintro⟨h1,h2,h3⟩;refine⟨h1,fun hx=>h2 (.inl hx),fun⟨id,e1,e2⟩=>?_⟩;by_cases hi:ins id
   ·exact h3 ⟨id,by rw[<-q1 id hi,<-p1 id hi];exact e1,by rw[<-p1 id hi];exact e2⟩
   ·rw[(q2 id hi).1,p2 id hi] at e1;rw[p2 id hi] at e2;exact h2 (.inr ⟨id,fun hf=>hi (.inl hf),e1,e2⟩)
  ·rintro⟨h1,h2,h3⟩;refine⟨h1,?_,fun⟨id,e1,e2⟩=>?_⟩
   ·rintro(hx|⟨id,hf,e1,e2⟩)
    ·exact h2 hx
    ·by_cases hi:ins id
     ·rw[q3 id hi hf] at e1;exact(nI e1).elim
     ·exact h3 ⟨id,by rw[(q2 id hi).1,p2 id hi];exact e1,by rw[p2 id hi];exact e2⟩
   ·by_cases hi:ins id
    ·exact h3 ⟨id,by rw[q1 id hi,p1 id hi];exact e1,by rw[p1 id hi];exact e2⟩
    ·rw[(q2 id hi).2] at e1;exact(nI e1).elim
 have ext:∀x z,au φ' (aj (eP o F) u) (ag (Xr X φ o F) φ' (aj (eP o F) u) w') w' x z->au iz (aj o u) (ag X iz (aj o u) w') w' x z:=
  fun x z hx=>Bs (fun b hb=>(hl b).1 hb) (fun _ _=>rfl) (fun id=>by
   by_cases hi:ins id
   ·rw[q1 id hi,p1 id hi];exact Up.same fun _ _ h=>h
   ·rw[(q2 id hi).2];trivial) x z hx
 have bl:∀id,¬ins id->aV (φ id) (o id)=true->w'.heap[(φ id).block]?=w.heap[(φ id).block]?:=fun id hi hx=>
  h.frame _ (hm.sep id hx).1 fun⟨j,j1,j2,j3⟩=>by
   have hj:=zF fun hf=>by rw[xN hf] at j2;exact nI j2
   rw[oH hj] at j2;have:=hm.inj j id j2 hx j3
   grind
 have stays:∀b,ag X φ o w b->w'.heap[b]?=w.heap[b]?:=fun b hb=>h.stays b ((xO b).2 hb);have imm:∀b,ag X φ o w b->ag X iz (aj o u) w' b:=fun b hb=>(hl b).1 (h.imm b ((xO b).2 hb));have GR:∀id,Up w w' (φ id) (iz id) (o id) (aj o u id):=fun id=>by
  by_cases hi:ins id
  ·by_cases hf:id∈F
   ·have:=h.up id;rw[oH hf] at this
    grind
   ·rw[q3 id hi hf];trivial
  ·rw[p2 id hi,(q2 id hi).1];exact Up.same fun hx n hr=>Ez (bl id hi hx) hr
 have keeps:∀x z,au φ o (ag X φ o w) w x z->au iz (aj o u) (ag X iz (aj o u) w') w' x z:=fun x z hx=>Bs imm stays GR x z hx;refine⟨⟨fun id=>?_,fun i j hi hj e=>?_,fun i hi=>?_,fun b hb=>jo (hm.xs b hb) h.size,fun id=>?_,fun g t x hg=>ext _ _ (h.mem.fT g t x hg),h.mem.Oc⟩,ext _ _ h.val,GR,h.size,fun b hb hh=>?_,fun id hn hk=>?_,fun id hx=>?_,h.still⟩
 ·by_cases hi:ins id
  ·rw[q1 id hi];exact Iw (fun b hb=>(hl b).1 hb) (fun _ _=>rfl) ext (p1 id hi) (fun _=>rfl) (h.mem.ar id)
  ·rw[(q2 id hi).1];exact Iw imm stays keeps (p2 id hi) (bl id hi) (hm.ar id)
 ·by_cases hc:ins i<;>by_cases he:ins j
  ·rw[q1 i hc,p1 i hc] at hi;rw[q1 j he,p1 j he] at hj;rw[p1 i hc,p1 j he] at e;exact h.mem.inj i j hi hj e
  ·rw[q1 i hc,p1 i hc] at hi;rw[(q2 j he).1,p2 j he] at hj;rw[p1 i hc,p2 j he] at e;exact absurd (.inr ⟨j,fun hf=>he (.inl hf),hj,e.symm⟩) (h.mem.sep i hi).2
  ·rw[q1 j he,p1 j he] at hj;rw[(q2 i hc).1,p2 i hc] at hi;rw[p1 j he,p2 i hc] at e;exact absurd (.inr ⟨i,fun hf=>hc (.inl hf),hi,e⟩) (h.mem.sep j hj).2
  ·rw[(q2 i hc).1,p2 i hc] at hi;rw[(q2 j he).1,p2 j he] at hj;rw[p2 i hc,p2 j he] at e;exact hm.inj i j hi hj e
 ·by_cases hc:ins i
  ·rw[q1 i hc,p1 i hc] at hi;rw[p1 i hc];exact⟨(h.mem.sep i hi).1,fun hx=>(h.mem.sep i hi).2 (.inl hx)⟩
  ·rw[(q2 i hc).1,p2 i hc] at hi;rw[p2 i hc];exact⟨jo (hm.sep i hi).1 h.size,(hm.sep i hi).2⟩
 ·by_cases hi:ins id
  ·rw[q1 id hi,p1 id hi];exact h.mem.uA id
  ·rw[(q2 id hi).1,p2 id hi];exact hm.lC id (fun hx=>.same (bl id hi hx)) stays
 ·refine h.frame b hb fun⟨j,j1,j2,j3⟩=>hh ⟨j,j1,?_,j3⟩;have hj:j∈F:=zF fun hf=>by rw[xN hf] at j2;exact nI j2
  rwa [oH hj] at j2
 ·by_cases hf:id∈F
  ·rw[p1 id (.inl hf)];exact h.xL id (by rw[oH hf];exact hn) hk
  grind
 ·by_cases hi:ins id
  ·rw[q1 id hi,p1 id hi] at hx;rw[p1 id hi];rcases h.news id hx with h1|⟨j,j1,j2⟩
   ·exact .inl h1
   ·have hj:=zF fun hf=>by rw[xN hf] at j1;exact nI j1
    rw[oH hj] at j1;exact .inr ⟨j,j1,j2⟩
  ·rw[(q2 id hi).1,p2 id hi] at hx;rw[p2 id hi];exact .inr ⟨id,hx,rfl⟩
end
structure fM (a b:PS):Prop where
 aR:∀p,p∈a.aR->p∈b.aR
 cut:∀p,p∈a.cut->p∈b.cut
 bY:∀p,p∈a.bY->p∈b.bY
 full:∀p,p∈a.full->p∈b.full
theorem fM.refl(a:PS):fM a a:=⟨fun _ h=>h,fun _ h=>h,fun _ h=>h,fun _ h=>h⟩
theorem fM.trans{a b c:PS}(h:fM a b)(h':fM b c):fM a c:=⟨fun p hp=>h'.aR p (h.aR p hp),fun p hp=>h'.cut p (h.cut p hp),fun p hp=>h'.bY p (h.bY p hp),fun p hp=>h'.full p (h.full p hp)⟩
abbrev eg:Nat->Nat:=fun i=>i
abbrev cW:Nat->Nat:=fun _=>0
section
variable {o:Nat→Obj}
def zge(o:Nat->Obj)(s:Sh):Prop:=∀v ps bM f,GF lf o s v ps=some (bM,f)->fM ps bM/\∀(ρ κ:Nat->Nat) r c,(nP ρ κ s r (f r c)).2=c
def zgf(o:Nat->Obj)(l:List Sh):Prop:=∀vs ps bM f,oF lf o l vs ps=some (bM,f)->fM ps bM/\∀(ρ κ:Nat->Nat) r c,(gN ρ κ l r (f r c)).2=c
theorem uD(h:Dk b ps=some (bM,f)):b=true/\bM=ps/\f=fun _ c=>c:=by
 cases b
 ·cases h
 ·injection h with h;injection h with h1 h2;exact⟨rfl,h1.symm,h2.symm⟩
theorem fM.tie(i id:Nat):fM ps (tie i id ps):=⟨fun _ h=>zf _ h,fun _ h=>h,fun _ h=>h,fun _ h=>h⟩
theorem z36(h:Pv o i v ps=some (bM,f)):fM ps bM/\f=fun _ c=>c:=by
 unfold Pv at h;split at h
 ·split at h
  ·obtain⟨_,rfl,rfl⟩:=uD h;exact⟨⟨fun _ h=>zf _ h,fun _ h=>h,fun _ h=>h,fun _ h=>zf _ h⟩,rfl⟩
  ·cases h
 ·split at h
  ·obtain⟨_,rfl,rfl⟩:=uD h;exact⟨⟨fun _ h=>zf _ h,fun _ h=>zf _ h,fun _ h=>h,fun _ h=>h⟩,rfl⟩
  ·cases h
 ·cases h
theorem z38{off:Nat}(h:Pw o i off v ps=some (bM,f)):fM ps bM/\f=fun _ c=>c:=by
 unfold Pw at h;split at h
 ·split at h
  ·obtain⟨_,rfl,rfl⟩:=uD h;exact⟨.tie _ _,rfl⟩
  ·obtain⟨_,rfl,rfl⟩:=uD h;exact⟨.tie _ _,rfl⟩
  ·cases h
 ·cases h
theorem z61(h:Bk o i v ps=some (bM,f)):fM ps bM/\f=fun _ c=>c:=by
 unfold Bk at h;split at h
 ·split at h
  ·injection h with h;injection h with h1 h2;subst h1 h2;exact⟨.tie _ _,rfl⟩
  ·cases h
 ·cases h
theorem qj8{f:∀r,ak r->den .bool×ak r}(h:z50 o i v ps=some (bM,f)):∃id b cs,v=.ib id b/\o id=.box cs/\bM=tie i id ps/\f=fun _ c=>(b,c):=by
 unfold z50 at h
 grind
theorem zgg:∀{b a:List (Nat×Bool)},Px b a=true->b=a
 |[],[],_=>rfl
 |[],_::_,h=>by cases h
 |_::_,[],h=>by cases h
 |(f,c)::b,(g,d)::a,h=>by
  unfold Px at h;rw[ze,ze] at h;have⟨⟨h1,h2⟩,h3⟩:=h;have h1:=zo h1;have h2:c=d:=by cases c<;>cases d<;>first|rfl|cases h2
  rw[h1,h2,zgg h3]
theorem quc{imm:Nat->Prop}:∀(a:List (Nat×Bool)),AH imm w a ((a.length:Nat):Int) n .nilFunc
 |[]=>⟨rfl,rfl⟩
 |(f,c)::r=>by
  refine .inr ⟨by rw[zn];omega,?_⟩;have:(((f,c)::r).length:Int)-1=((r.length:Nat):Int):=by rw[zn];omega
  rw[this];exact quc r
theorem qru{imm:Nat->Prop}{v:Value}{f:Nat}{c:Bool}(hv:match c with|false=>v=.func (.func f) #[] #[]|true=>∃p,v=.func (.func f) #[] #[p]/\VB imm w n p):∀(a:List (Nat×Bool)) (i0 i:Nat),Ij f c a i0=some i->∃j:Nat,i=i0+j/\AH imm w a (j:Int) n v
 |[],_,_,h=>by cases h
 |(g,d)::r,i0,i,h=>by
  unfold Ij at h;cases hb:(Nat.beq g f&&(bif c then d else !d)) with
  |true=>
   rw[hb] at h;cases h;rw[ze] at hb;have h1:=zo hb.1;have h2:d=c:=by grind
   subst h1 h2;exact⟨0,rfl,.inl ⟨rfl,hv⟩⟩
  |false=>
   rw[hb] at h;have⟨j,h1,h2⟩:=qru hv r (i0+1) i h;refine⟨j+1,by omega,.inr ⟨by omega,?_⟩⟩
   grind
theorem zgh{α:Type}{x:Option α}{i:α}(h:(bif Nat.blt g 1048576 then x else none)=some i):g<1048576/\x=some i:=by
 cases hb:Nat.blt g 1048576 with
 |false=>rw[hb] at h;cases h
 |true=>rw[hb] at h;exact⟨zP hb,h⟩
theorem qud{a:List (Nat×Bool)}{f:∀r,ak r->den (.int .i64)×den (.int .i64)×ak r}(h:Eg lf o a v ps=some (bM,f)):(∃k n,v=.fa a k n/\bM=ps/\f=fun _ c=>(k,n,c))\/(v=.ie/\bM=ps/\f=fun _ c=>(Int.ofNat a.length,(0:Int),c))\/(∃g i,v=.fn g []/\g<1048576/\Ij g false a 0=some i/\bM=ps/\f=fun _ c=>(Int.ofNat i,(0:Int),c))\/(∃g i w p,v=.fn g [w]/\g<1048576/\Ij g true a 0=some i/\Pu lf o (.int .i64) w ps=some (bM,p)/\f=fun r c=>(Int.ofNat i,p r c)):=by
 unfold Eg at h;split at h
 ·rename_i b k n;cases hb:Px b a<;>rw[hb] at h
  ·cases h
  ·have:=zgg hb;subst this
   grind
 ·injection h with h;injection h with h1 h2;subst h1 h2;refine .inr (.inl ⟨rfl,rfl,?_⟩);have:pZ a 0=a.length:=by rw[qx4,zW]
  rw[this]
 ·rename_i g;split at h
  ·rename_i i e;injection h with h;injection h with h1 h2;subst h1 h2;have⟨hc,e⟩:=zgh e
   grind
  ·cases h
 ·rename_i g w;split at h
  ·rename_i i e;split at h
   ·rename_i On p e2;injection h with h;injection h with h1 h2;subst h1 h2;have⟨hc,e⟩:=zgh e
    grind
   ·cases h
  ·cases h
 ·cases h
theorem qpu{f:∀r,ak r->den (.int .i64)×ak r}(h:U7 o i v ps=some (bM,f)):∃id ver lo t s,v=.j8 id ver lo/\o id=.vec t ver false s/\bM={tie i id ps with full:=id::ps.full}/\f=fun _ c=>((lo:den (.int .i64)),c):=by
 unfold U7 at h;split at h
 ·rename_i id ver lo;split at h
  ·rename_i t aA s e;cases hb:Nat.beq ver aA<;>rw[hb] at h
   ·cases h
   ·have:=zo hb
    grind
  ·cases h
 ·cases h
theorem qzo{f:∀r,ak r->den t×ak r}(h:YG lf o t v ps=some (bM,f)):fM ps bM/\∃x,nO lf o t v=some x/\bM={ps with bY:=ig o v++ps.bY}/\f=fun _ c=>(x,c):=by
 unfold YG at h;split at h
 ·rename_i x e;injection h with h;injection h with h1 h2;subst h1 h2;exact⟨⟨fun _ h=>h,fun _ h=>h,fun _ h=>zG _ h,fun _ h=>h⟩,x,e,rfl,rfl⟩
 ·cases h
theorem qj9{f:∀r,ak r->den t×ak r}(h:Pu lf o t v ps=some (bM,f)):fM ps bM/\∃x,f=(fun _ c=>(x,c))/\((v=.ref t x/\bM=ps)\/(∃id,v=.ptr id 0/\uU lf o t id=some x/\bM={ps with bY:=id::(NW o id++ps.bY)})):=by
 unfold Pu at h;split at h
 ·split at h
  ·rename_i x e;injection h with h;injection h with h1 h2;subst h1 h2;obtain⟨rfl,rfl⟩:=Bv e;exact⟨.refl _,_,rfl,.inl ⟨rfl,rfl⟩⟩
  ·cases h
 ·rename_i id off;cases hb:Nat.beq off 0<;>rw[hb] at h
  ·cases h
  ·have:=zo hb;subst this;split at h
   ·rename_i x e;injection h with h;injection h with h1 h2;subst h1 h2;exact⟨⟨fun _ h=>h,fun _ h=>h,fun _ h=>zf _ (zG _ h),fun _ h=>h⟩,x,rfl,.inr ⟨id,rfl,e,rfl⟩⟩
   ·cases h
 ·cases h
theorem zc6{id mY:Nat}{x:den t}(h:YH lf o t id=some (mY,x)):o id=.box [.ptr mY 0]/\uU lf o t mY=some x:=by
 unfold YH at h;split at h
 ·rename_i i2 Ig e;cases hb:Nat.beq Ig 0<;>rw[hb] at h
  ·cases h
  ·have:=zo hb
   grind
 ·cases h
theorem que{f:∀r,ak r->den t×ak r}(h:Ih lf o t v ps=some (bM,f)):fM ps bM/\∃x,f=(fun _ c=>(x,c))/\((v=.rr t x/\bM=ps)\/(∃id mY,v=.ptr id 0/\o id=.box [.ptr mY 0]/\uU lf o t mY=some x/\bM={ps with bY:=id::mY::(NW o mY++ps.bY)})):=by
 unfold Ih at h;split at h
 ·split at h
  ·rename_i x e;injection h with h;injection h with h1 h2;subst h1 h2;obtain⟨rfl,rfl⟩:=Bv e;exact⟨.refl _,_,rfl,.inl ⟨rfl,rfl⟩⟩
  ·cases h
 ·rename_i id off;cases hb:Nat.beq off 0<;>rw[hb] at h
  ·cases h
  ·have:=zo hb;subst this;split at h
   ·rename_i mY x e;injection h with h;injection h with h1 h2;subst h1 h2;have⟨e1,e2⟩:=zc6 e;exact⟨⟨fun _ h=>h,fun _ h=>h,fun _ h=>zf _ (zf _ (zG _ h)),fun _ h=>h⟩,x,rfl,.inr ⟨id,mY,rfl,e1,e2,rfl⟩⟩
   ·cases h
 ·cases h
theorem z62{f:Nat}{l:List V}(h:Eh f v=some l):v=.fn f l:=by
 unfold Eh at h;split at h
 ·rename_i f' l';cases hb:Nat.beq f f'<;>rw[hb] at h
  all_goals simp_all
 ·cases h
theorem z39{l:List V}(h:U8 v=some l):v=.mW l:=by
 unfold U8 at h
 grind
theorem z63{l:List V}(h:Ei v=some l):v=.agg l:=by
 unfold Ei at h
 grind
theorem V1{f:∀r,ak r->ak (kW [] r)}(h:oF lf o [] vs ps=some (bM,f)):vs=[]/\bM=ps/\f=fun _ c=>c:=by
 have⟨h1,h2,h3⟩:=uD h
 grind
theorem Qj{s:Sh}{f:∀r,ak r->ak (kW (s::l) r)}(h:oF lf o (s::l) vs ps=some (bM,f)):∃v IG oI f1 g1,vs=v::IG/\GF lf o s v ps=some (oI,f1)/\oF lf o l IG oI=some (bM,g1)/\f=fun r c=>f1 _ (g1 r c):=by
 cases vs with
 |nil=>cases h
 |cons v vs=>
  have h:(match GF lf o s v ps with
   |some (ps,f)=>match oF lf o l vs ps with
    |some (ps,g)=>some (ps,fun r c=>f _ (g r c))
    |none=>none
   |none=>none)=some (bM,f):=h
  grind
theorem zgi{f:∀r,ak r->ak (NS (.fn g l) r)}(h:GF lf o (.fn g l) v ps=some (bM,f)):∃l',v=.fn g l'/\oF lf o l l' ps=some (bM,f):=by
 have h:(match Eh g v with|some l'=>oF lf o l l' ps|none=>none)=some (bM,f):=h;split at h
 ·rename_i l' e;exact⟨l',z62 e,h⟩
 ·cases h
theorem z64{f:∀r,ak r->ak (NS (.mW l) r)}(h:GF lf o (.mW l) v ps=some (bM,f)):∃l',v=.mW l'/\oF lf o l l' ps=some (bM,f):=by
 have h:(match U8 v with|some l'=>oF lf o l l' ps|none=>none)=some (bM,f):=h;split at h
 ·rename_i l' e;exact⟨l',z39 e,h⟩
 ·cases h
theorem z65{f:∀r,ak r->ak (NS (.agg l) r)}(h:GF lf o (.agg l) v ps=some (bM,f)):∃l',v=.agg l'/\oF lf o l l' ps=some (bM,f):=by
 have h:(match Ei v with|some l'=>oF lf o l l' ps|none=>none)=some (bM,f):=h;split at h
 ·rename_i l' e;exact⟨l',z63 e,h⟩
 ·cases h
theorem zje(s:Sh):zge o s:=by
 refine Sh.rec (motive_1:=zge o) (motive_2:=zgf o) ?_ ?_ ?_ ?_ ?_ ?_ ?_ ?_ ?_ ?_ ?_ ?_ ?_ ?_ ?_ ?_ ?_ ?_ s
 ·intro t v ps bM f h;obtain⟨h1,x,_,_,rfl⟩:=qzo (o:=o) h;exact⟨h1,fun _ _ _ _=>rfl⟩
 ·intro i v ps bM f h;obtain⟨h1,rfl⟩:=z36 (o:=o) h;exact⟨h1,fun _ _ _ _=>rfl⟩
 ·intro i off v ps bM f h;obtain⟨h1,rfl⟩:=z38 (o:=o) h;exact⟨h1,fun _ _ _ _=>rfl⟩
 ·intro t v ps bM f h;obtain⟨h1,x,rfl,_⟩:=qj9 (o:=o) h;exact⟨h1,fun _ _ _ _=>rfl⟩
 ·intro v ps bM f h;obtain⟨_,rfl,rfl⟩:=uD h;exact⟨.refl _,fun _ _ _ _=>rfl⟩
 ·intro g l ih v ps bM f h;obtain⟨l',rfl,h'⟩:=zgi h;have⟨h1,h2⟩:=ih _ _ _ _ h';exact⟨h1,h2⟩
 ·intro v ps bM f h;obtain⟨_,rfl,rfl⟩:=uD h;exact⟨.refl _,fun _ _ _ _=>rfl⟩
 ·intro l ih v ps bM f h;obtain⟨l',rfl,h'⟩:=z64 h;have⟨h1,h2⟩:=ih _ _ _ _ h';exact⟨h1,h2⟩
 ·intro l ih v ps bM f h;obtain⟨l',rfl,h'⟩:=z65 h;have⟨h1,h2⟩:=ih _ _ _ _ h';exact⟨h1,h2⟩
 ·intro v ps bM f h;obtain⟨_,rfl,rfl⟩:=uD h;exact⟨.refl _,fun _ _ _ _=>rfl⟩
 ·intro v ps bM f h;obtain⟨_,rfl,rfl⟩:=uD (b:=true) (ps:=ps) h;exact⟨.refl _,fun _ _ _ _=>rfl⟩
 ·intro i v ps bM f h;obtain⟨id,b,cs,rfl,_,rfl,rfl⟩:=qj8 (o:=o) h;exact⟨.tie _ _,fun _ _ _ _=>rfl⟩
 ·intro i v ps bM f h;obtain⟨id,ver,lo,t,s,rfl,_,rfl,rfl⟩:=qpu (o:=o) h;exact⟨⟨fun _ h=>zf _ h,fun _ h=>h,fun _ h=>h,fun _ h=>zf _ h⟩,fun _ _ _ _=>rfl⟩
 ·intro i v ps bM f h;obtain⟨h1,rfl⟩:=z61 (o:=o) h;exact⟨h1,fun _ _ _ _=>rfl⟩
 ·intro a v ps bM f h;rcases qud (o:=o) h with ⟨k,n,rfl,rfl,rfl⟩|⟨rfl,rfl,rfl⟩|⟨g,i,rfl,_,_,rfl,rfl⟩|⟨g,i,w,p,rfl,_,_,h2,rfl⟩
  ·exact⟨.refl _,fun _ _ _ _=>rfl⟩
  ·exact⟨.refl _,fun _ _ _ _=>rfl⟩
  ·exact⟨.refl _,fun _ _ _ _=>rfl⟩
  ·obtain⟨h1,x,rfl,_⟩:=qj9 (o:=o) h2;exact⟨h1,fun _ _ _ _=>rfl⟩
 ·intro t v ps bM f h;obtain⟨h1,x,rfl,_⟩:=que (o:=o) h;exact⟨h1,fun _ _ _ _=>rfl⟩
 ·intro vs ps bM f h;obtain⟨rfl,rfl,rfl⟩:=V1 h;exact⟨.refl _,fun _ _ _ _=>rfl⟩
 ·intro s l kq kC vs ps bM f h;obtain⟨v,IG,oI,f1,g1,rfl,h1,h2,rfl⟩:=Qj h;have⟨a1,a2⟩:=kq _ _ _ _ h1;have⟨b1,b2⟩:=kC _ _ _ _ h2;refine⟨a1.trans b1,fun ρ κ r c=>?_⟩;show(gN ρ κ l r (nP ρ κ s (kW l r) (f1 _ (g1 r c))).2).2=c;rw[a2,b2]
theorem Oo:∀l:List Sh,zgf o l
 |[]=>by intro vs ps bM f h;obtain⟨rfl,rfl,rfl⟩:=V1 h;exact⟨.refl _,fun _ _ _ _=>rfl⟩
 |s::l=>by intro vs ps bM f h;obtain⟨v,IG,oI,f1,g1,rfl,h1,h2,rfl⟩:=Qj h;have⟨a1,a2⟩:=zje s _ _ _ _ h1;have⟨b1,b2⟩:=Oo l _ _ _ _ h2;refine⟨a1.trans b1,fun ρ κ r c=>?_⟩;show(gN ρ κ l r (nP ρ κ s (kW l r) (f1 _ (g1 r c))).2).2=c;rw[a2,b2]
theorem z66{s:fG}{f:∀r,ak r->ak (NT s r)}(h:GG lf o cO s ps=some (bM,f)):fM ps bM/\∀(ρ κ:Nat->Nat) i r c,(nE ρ κ i s r (f r c)).2=c:=by
 cases s with
 |box l=>
  simp[GG] at h;cases e:o cO<;>rw[e] at h<;>simp at h<;>try (cases h;done)
  have⟨h1,h2⟩:=Oo l _ _ _ _ h;exact⟨h1,fun ρ κ i r c=>h2 ρ κ r c⟩
 |vec t=>
  simp[GG] at h;split at h
  ·split at h
   ·split at h
    ·injection h with h;injection h with h1 h2;subst h1 h2;exact⟨.refl _,fun _ _ _ _ _=>rfl⟩
    ·injection h with h;injection h with h1 h2;subst h1 h2;exact⟨⟨fun _ h=>h,fun _ h=>h,fun _ h=>h,fun _ h=>zf _ h⟩,fun _ _ _ _ _=>rfl⟩
   ·cases h
  ·cases h
 |gone=>injection h with h;injection h with h1 h2;subst h1 h2;exact⟨.refl _,fun _ _ _ _ _=>rfl⟩
 |iter=>
  simp[GG] at h;split at h
  ·injection h with h;injection h with h1 h2;subst h1 h2;exact⟨.refl _,fun _ _ _ _ _=>rfl⟩
  ·cases h
def EF(o:Nat->Obj)(psF:PS)(i:Nat)(sh:fG)(ob:Obj):Prop:=(sh=.gone/\ob=.dead)\/∃cO EG Bz f,(i,cO)∈psF.aR/\GG lf o cO sh EG=some (Bz,f)/\fM Bz psF/\∃r c,ob=(nE eg cW i sh r (f r c)).1
def zjf(o:Nat->Obj)(psF:PS):Nat->List fG->List (Nat×Obj)->Prop
 |_,[],os=>os=[]
 |i,s::l,os=>∃ob r,os=(i,ob)::r/\EF o psF i s ob/\zjf o psF (i+1) l r
theorem Oq:∀{l:List (Nat×Nat)} {i x:Nat},iP i l=some x->(i,x)∈l
 |(a,b)::r,i,x,h=>by
  simp[iP] at h;cases hb:Nat.beq a i with
  |true=>simp_all
  |false=>rw[hb] at h;exact zf _ (Oq h)
theorem Qk:∀(l:List fG) (i:Nat) (ps bM:PS) (g:∀r,ak r->ak (eC l r)),rK lf o i l ps=some (bM,g)->fM ps bM/\(fM bM psF->∀r c,zjf o psF i l (mX eg cW i l r (g r c)))
 |[],i,ps,bM,g,h=>by injection h with h;injection h with h1 h2;subst h1 h2;exact⟨.refl _,fun _ _ _=>rfl⟩
 |.gone::l,i,ps,bM,g,h=>by
  simp[rK] at h;split at h
  ·rename_i oI g1 h1;injection h with h;injection h with h2 h3;subst h2 h3;obtain⟨a1,a2⟩:=Qk l (i+1) _ _ _ h1;exact⟨a1,fun hm r c=>⟨.dead,_,rfl,.inl ⟨rfl,rfl⟩,a2 hm r c⟩⟩
  ·cases h
 |.box q::l,i,ps,bM,g,h=>by
  simp[rK] at h;split at h
  ·rename_i cO h0;split at h
   ·rename_i oI f1 h1;split at h
    ·rename_i On g2 h2;injection h with h;injection h with h3 h4;subst h3 h4;have⟨b1,b2⟩:=z66 h1;obtain⟨a1,a2⟩:=Qk l (i+1) _ _ _ h2;refine⟨b1.trans a1,fun hm r c=>⟨_,_,rfl,.inr ⟨cO,ps,oI,f1,hm.aR _ ((b1.trans a1).aR _ (Oq h0)),h1,a1.trans hm,_,_,rfl⟩,?_⟩⟩;rw[b2];exact a2 hm r c
    ·cases h
   ·cases h
  ·cases h
 |.vec q::l,i,ps,bM,g,h=>by
  simp[rK] at h;split at h
  ·rename_i cO h0;split at h
   ·rename_i oI f1 h1;split at h
    ·rename_i On g2 h2;injection h with h;injection h with h3 h4;subst h3 h4;have⟨b1,b2⟩:=z66 h1;obtain⟨a1,a2⟩:=Qk l (i+1) _ _ _ h2;refine⟨b1.trans a1,fun hm r c=>⟨_,_,rfl,.inr ⟨cO,ps,oI,f1,hm.aR _ ((b1.trans a1).aR _ (Oq h0)),h1,a1.trans hm,_,_,rfl⟩,?_⟩⟩;rw[b2];exact a2 hm r c
    ·cases h
   ·cases h
  ·cases h
 |.iter::l,i,ps,bM,g,h=>by
  simp[rK] at h;split at h
  ·rename_i cO h0;split at h
   ·rename_i oI f1 h1;split at h
    ·rename_i On g2 h2;injection h with h;injection h with h3 h4;subst h3 h4;have⟨b1,b2⟩:=z66 h1;obtain⟨a1,a2⟩:=Qk l (i+1) _ _ _ h2;refine⟨b1.trans a1,fun hm r c=>⟨_,_,rfl,.inr ⟨cO,ps,oI,f1,hm.aR _ ((b1.trans a1).aR _ (Oq h0)),h1,a1.trans hm,_,_,rfl⟩,?_⟩⟩;rw[b2];exact a2 hm r c
    ·cases h
   ·cases h
  ·cases h
end
theorem qzp{n:Nat}{x:Option Nat}(h:YE n x=true):x=some n:=by
 cases x with
 |none=>cases h
 |some m=>exact jd some (zo h)
theorem V3{x:Option Nat}(h:Pr x=true):x=none:=by
 cases x with
 |none=>rfl
 |some m=>cases h
theorem qpw{all:List (Nat×Nat)}:∀{l:List (Nat×Nat)},U2 k all l=true->∀p,p∈l->p.1<k/\iP p.1 all=some p.2/\U1 p.2 all=some p.1
 |(i,cO)::r,h,p,hp=>by
  simp only[U2,ze] at h;have⟨⟨⟨h1,h2⟩,h3⟩,h4⟩:=h;rcases zA.1 hp with rfl|hp
  ·exact⟨zP h1,qzp h2,qzp h3⟩
  ·exact qpw h4 p hp
theorem qpx{id n:Nat}:∀{l:List (Nat×Nat)},(id,n)∈l->∃m,iP id l=some m
 |(i,m)::r,h=>by
  simp[iP];cases hb:Nat.beq i id with
  |true=>exact⟨m,rfl⟩
  |false=>
   rcases zA.1 h with h|h
   ·simp_all
   ·exact qpx h
theorem qpy:∀{l:List (Nat×Nat)},U3 l=true->∀p,p∈l->iP p.1 l=some p.2
 |(i,n)::r,h,p,hp=>by
  simp[U3,Bool.and_eq_true] at h;simp[iP];rcases zA.1 hp with rfl|hc
  ·simp_all
  ·cases hb:Nat.beq i p.1 with
   |true=>have:=zo hb;subst this;have⟨m,hm⟩:=qpx (id:=p.1) (n:=p.2) hc;rw[V3 h.1] at hm;cases hm
   |false=>exact qpy h.2 p hc
theorem qmw{cut:List (Nat×Nat)}:∀{l:List Nat},U4 cut l=true->∀p,p∈l->iP p cut=none
 |i::r,h,p,hp=>by
  simp[U4,Bool.and_eq_true] at h;rcases zA.1 hp with rfl|hp
  ·exact V3 h.1
  ·exact qmw h.2 p hp
theorem zc7{aR:List (Nat×Nat)}:∀{i j:Nat},(i,j)∈aR->Bi j aR=true:=by
 induction aR with
 |nil=>intro i j h;cases h
 |cons p r ih=>
  have⟨a,b⟩:=p;intro i j h;simp[Bi];rcases zA.1 h with h|h
  ·simp_all
  grind
theorem qmx{aR:List (Nat×Nat)}:∀{l:List Nat},U5 l aR=true->∀j,j∈l->∀i,(i,j)∉aR
 |a::r,h,j,hj,i,hi=>by
  simp only[U5] at h;cases hb:Bi a aR with
  |true=>rw[hb] at h;cases h
  |false=>
   rw[hb] at h;rcases zA.1 hj with rfl|hj
   ·rw[zc7 hi] at hb;cases hb
   ·exact qmx h j hj i hi
section
variable {C:Cx} {X:Nat→Prop} {φ:Nat→Addr} {o:Nat→Obj} {w:World} {imm imm':Nat→Prop}
structure bR (o:Nat->Obj) (psF:PS) (k:Nat) (ar:List fG) (oc:Nat->Obj):Prop where
 fin:Ie k psF=true
 len:ar.length=k
 ob:∀i sh,ar[i]?=some sh->EF o psF i sh (oc i)
 none:∀i,k<=i->oc i=.none
def xP(psF:PS)(i:Nat):Nat:=(iP i psF.aR).getD 0
theorem bR.aR{oc:Nat->Obj}(h:bR o psF k ar oc)(hp:(i,cO)∈psF.aR):i<k/\xP psF i=cO/\U1 cO psF.aR=some i:=by have hf:=h.fin;unfold Ie at hf;simp[Bool.and_eq_true] at hf;have⟨h1,h2,h3⟩:=qpw hf.1.1.1 _ hp;exact⟨h1,by unfold xP;rw[h2];rfl,h3⟩
theorem bR.bY{oc:Nat->Obj}(h:bR o psF k ar oc)(hp:(i,cO)∈psF.aR):cO∉psF.bY:=fun hl=>by have hf:=h.fin;unfold Ie at hf;simp[Bool.and_eq_true] at hf;exact qmx hf.2 cO hl i hp
theorem bR.cut{oc:Nat->Obj}(h:bR o psF k ar oc){id n:Nat}(hp:(id,n)∈psF.cut):iP id psF.cut=some n:=by have hf:=h.fin;unfold Ie at hf;simp[Bool.and_eq_true] at hf;exact qpy hf.1.1.2 _ hp
theorem bR.full{oc:Nat->Obj}(h:bR o psF k ar oc){id:Nat}(hp:id∈psF.full):iP id psF.cut=.none:=by have hf:=h.fin;unfold Ie at hf;simp[Bool.and_eq_true] at hf;exact qmw hf.1.2 _ hp
noncomputable def EH(s:Sl (den t)):Option Nat->Sl (den t)
 |some n=>⟨s.nil,lf.aP s.l n⟩
 |none=>s
theorem bR.kind{oc:Nat->Obj}(h:bR o psF k ar oc)(hi:i<k):oc i=.dead\/∃cO,(i,cO)∈psF.aR/\((∃l cs EG Bz f r c,o cO=.box cs/\oF lf o l cs EG=some (Bz,f)/\fM Bz psF/\oc i=.box (gN eg cW l r (f r c)).1)\/(∃t ver s,o cO=.vec t ver false s/\oc i=.vec t 0 false (EH s (iP cO psF.cut)))\/(∃l p,o cO=.iter l p/\oc i=.iter l p)):=by
 have hc:i<ar.length:=by rw[h.len];exact hi
 rcases h.ob i _ (zh hc) with ⟨_,h1⟩|⟨cO,EG,Bz,f,h1,h2,h3,r,c,h4⟩
 ·exact .inl h1
 ·generalize he:ar[i]=sh at*
  cases sh with
  |gone=>exact .inl h4
  |box l=>
   have h2:(match o cO with|.box cs=>oF lf o l cs EG|_=>.none)=some (Bz,f):=h2;cases e:o cO<;>rw[e] at h2<;>try (cases h2;done)
   exact .inr ⟨cO,h1,.inl ⟨l,_,EG,Bz,f,r,c,e,h2,h3,h4⟩⟩
  |vec t=>
   simp[GG] at h2;cases e:o cO<;>rw[e] at h2<;>try (cases h2;done)
   rename_i t' ver fr s;cases fr<;>try (cases h2;done)
   simp at h2;split at h2
   ·rename_i s' hs;have⟨ht,hs⟩:=Bv hs;injection ht with ht;subst ht;subst hs;refine .inr ⟨cO,h1,.inr (.inl ⟨t',ver,_,e,?_⟩)⟩;split at h2
    ·rename_i n hn;injection h2 with h2;injection h2 with h5 h6;subst h5 h6;rw[h4,h.cut (h3.cut _ (Oq hn))];rfl
    ·injection h2 with h2;injection h2 with h5 h6;subst h5 h6;rw[h4,h.full (h3.full _ (zg ..))];rfl
   ·cases h2
  |iter=>
   simp[GG] at h2;cases e:o cO<;>rw[e] at h2<;>try (cases h2;done)
   injection h2 with h2;injection h2 with h5 h6;subst h5 h6;exact .inr ⟨cO,h1,.inr (.inr ⟨_,_,e,h4⟩)⟩
end
section
variable {C:Cx} {X:Nat→Prop} {φ:Nat→Addr} {o oc:Nat→Obj} {w:World} {psF:PS} {k:Nat} {ar:List fG}
def gf(φ:Nat->Addr)(psF:PS):Nat->Addr:=fun i=>φ (xP psF i)
def XC(X:Nat->Prop)(φ:Nat->Addr)(o oc:Nat->Obj)(psF:PS)(b:Nat):Prop:=X b\/∃id,aV (φ id) (o id)=true/\(φ id).block=b/\id∉psF.bY/\¬∃i,aV (gf φ psF i) (oc i)=true/\xP psF i=id
theorem bR.IH(h:bR o psF k ar oc)(hx:aV (gf φ psF i) (oc i)=true):i<k/\(i,xP psF i)∈psF.aR/\aV (φ (xP psF i)) (o (xP psF i))=true:=by
 have hi:i<k:=zF fun hn=>by rw[h.none i om] at hx;exact nI hx
 rcases h.kind hi with h1|⟨cO,h1,h2⟩
 ·rw[h1] at hx;simp[aV,live] at hx
 ·have:=(h.aR h1).2.1;unfold gf at hx;rw[this] at hx ⊢;refine⟨hi,h1,?_⟩;rcases h2 with ⟨l,cs,EG,Bz,f,r,c,e,_⟩|⟨t,ver,s,e,e'⟩|⟨_,_,e,_⟩
  ·rw[e];rfl
  ·rw[e'] at hx;obtain⟨hn,_,hs⟩:=Ey hx;have hn:s.nil=false:=by cases hc:iP cO psF.cut<;>rw[hc] at hn<;>simpa[EH] using hn
   rw[e];exact uZ hn hs
  ·rw[e];rfl
theorem bR.nX(h:bR o psF k ar oc){b:Nat}(hb:qd (gf φ psF) oc b):qd φ o b:=by have⟨i,h1,h2⟩:=hb;exact⟨xP psF i,(h.IH h1).2.2,h2⟩
theorem bR.imm(h:bR o psF k ar oc){b:Nat}(hb:ag X φ o w b):ag (XC X φ o oc psF) (gf φ psF) oc w b:=by
 have⟨h1,h2,h3⟩:=hb;refine⟨h1,?_,fun hn=>h3 (h.nX hn)⟩;rintro(hx|⟨id,e1,e2,_⟩)
 ·exact h2 hx
 ·exact h3 ⟨id,e1,e2⟩
theorem bR.pF(h:bR o psF k ar oc)(hm:MRel C X φ o w){id:Nat}(hx:aV (φ id) (o id)=true)(hl:id∈psF.bY):ag (XC X φ o oc psF) (gf φ psF) oc w (φ id).block:=by
 have⟨h1,h2⟩:=hm.sep id hx;refine⟨h1,?_,fun⟨i,e1,e2⟩=>?_⟩
 ·rintro(hc|⟨rZ,e1,e2,e3,_⟩)
  ·exact h2 hc
  ·have:=hm.inj rZ id e1 hx e2;exact e3 (this▸hl)
 ·have⟨_,g1,g2⟩:=h.IH e1;have:=hm.inj _ id g2 hx e2;exact h.bY g1 (this▸hl)
def V4(φ:Nat->Addr)(o oc:Nat->Obj)(imm II:Nat->Prop)(w:World)(psF:PS)(s:Sh):Prop:=∀v z ps bM f,au φ o imm w v z->GF lf o s v ps=some (bM,f)->fM bM psF->
 ∀r c,au (gf φ psF) oc II w (nP eg cW s r (f r c)).1 z
def zmu(φ:Nat->Addr)(o oc:Nat->Obj)(imm II:Nat->Prop)(w:World)(psF:PS)(l:List Sh):Prop:=∀vs zs ps bM f,cu φ o imm w vs zs->oF lf o l vs ps=some (bM,f)->fM bM psF->
 ∀r c,cu (gf φ psF) oc II w (gN eg cW l r (f r c)).1 zs
theorem EI(h:bR o psF k ar oc){id:Nat}(hp:(i,id)∈psF.aR):oc i=.dead\/((∃cs mO,o id=.box cs/\oc i=.box mO)\/(∃t ver s,o id=.vec t ver false s/\oc i=.vec t 0 false (EH s (iP id psF.cut)))\/(∃l p,o id=.iter l p/\oc i=.iter l p))/\gf φ psF i=φ id:=by
 have⟨h1,h2,_⟩:=h.aR hp;rcases h.kind h1 with h3|⟨cO,h3,h4⟩
 ·exact .inl h3
 ·have:=(h.aR h3).2.1;refine .inr ⟨?_,by unfold gf;rw[h2]⟩
  grind
theorem qmy:∀{cs:List V} {q:V} {id:Nat},q∈cs->id∈ig o q->id∈AA o cs
 |c::cs,q,id,hq,hi=>by
  unfold AA;rcases zA.1 hq with rfl|hq
  ·grind
  ·exact zG _ (qmy hq hi)
theorem qzq(hm:MRel C X φ o w)(h:bR o psF k ar oc)(t:Ty):V4 φ o oc (ag X φ o w) (ag (XC X φ o oc psF) (gf φ psF) oc w) w psF (.ref t):=by
 intro v z ps bM f hv hp hM r c;obtain⟨_,x,rfl,hx⟩:=qj9 (o:=o) hp;rcases hx with ⟨rfl,rfl⟩|⟨id,rfl,hb,rfl⟩
 ·have⟨a,cs,h1,h2,h3,h4,h5⟩:=hv;exact⟨a,cs,h1,h2,h.imm h3,j9 (fun b hb=>h.imm hb) (fun _ _=>rfl) _ _ _ h4,h5⟩
 ·unfold uU at hb;split at hb
  ·rename_i cs e;split at hb
   ·rename_i y hy;injection hb with hb;subst hb;have he:aV (φ id) (o id)=true:=by rw[e];rfl
    have hc:id∈psF.bY:=hM.bY _ (zg ..);have ho:=hm.ar id;unfold au at hv;rw[e] at hv ho;simp at hv;subst hv;have⟨h0,cz,el,lo,hg,g1,g2,g3⟩:=ho;have hf:∀q,q∈cs->xM φ o (ag (XC X φ o oc psF) (gf φ psF) oc w) q:=by intro q hq rZ hi t ver s e' hn hs;refine h.pF hm (by rw[e'];exact uZ hn hs) (hM.bY _ (zf _ (zN _ ?_)));unfold NW;rw[e];exact qmy hq hi
    have⟨zc,zr,a1,a2,a3,_⟩:=VH hm.ar (fun b hb=>h.imm hb) _ _ _ _ _ g3 hf hy;have:zr=[]:=a3;refine⟨_,zc,rfl,rfl,h.pF hm he hc,a2,?_⟩;have:=P9 g1 0 cz.size
    grind
   ·cases hb
  ·cases hb
theorem zjg(hm:MRel C X φ o w)(h:bR o psF k ar oc)(t:Ty):V4 φ o oc (ag X φ o w) (ag (XC X φ o oc psF) (gf φ psF) oc w) w psF (.rr t):=by
 intro v z ps bM f hv hp hM r c;obtain⟨_,x,rfl,hx⟩:=que (o:=o) hp;rcases hx with ⟨rfl,rfl⟩|⟨id,mY,rfl,hf,hb,rfl⟩
 ·have⟨a,b,cs,h1,h2,h3,h4,h5,h6,h7,h8⟩:=hv;exact⟨a,b,cs,h1,h2,h.imm h3,h4,h5,h.imm h6,j9 (fun b hb=>h.imm hb) (fun _ _=>rfl) _ _ _ h7,h8⟩
 ·unfold uU at hb;split at hb
  ·rename_i cs e;split at hb
   ·rename_i y hy;injection hb with hb;subst hb;have hc:aV (φ id) (o id)=true:=by rw[hf];rfl
    have hj:aV (φ mY) (o mY)=true:=by rw[e];rfl
    have hk:id∈psF.bY:=hM.bY _ (zg ..);have he:=hM.bY _ (zf _ (zg ..));have hg:=hm.ar id;have ho:=hm.ar mY;unfold au at hv;rw[hf] at hv hg;rw[e] at ho;simp at hv;subst hv;have⟨k0,cz1,el1,V5,ht,q1,q2,q3⟩:=hg;obtain⟨zp,rp,p1,p2,p3⟩:=q3;have p2:au φ o (ag X φ o w) w (.ptr mY 0) zp:=p2;unfold au at p2;rw[e] at p2;simp only at p2;subst p2 p3;obtain⟨h0,cz,el,lo,hu,g1,g2,g3⟩:=ho;have hl:∀q,q∈cs->xM φ o (ag (XC X φ o oc psF) (gf φ psF) oc w) q:=by intro q hq rZ hi t ver s e' hn hs;refine h.pF hm (by rw[e'];exact uZ hn hs) (hM.bY _ (zf _ (zf _ (zN _ ?_))));unfold NW;rw[e];exact qmy hq hi
    obtain⟨zc,zr,a1,a2,a3,_⟩:=VH hm.ar (fun b hb=>h.imm hb) _ _ _ _ _ g3 hl hy;have:zr=[]:=a3;subst this;refine⟨⟨(φ id).block,(φ id).off+0,none⟩,⟨(φ mY).block,(φ mY).off+0,none⟩,zc,rfl,rfl,h.pF hm hc hk,?_,rfl,h.pF hm hj he,a2,?_⟩
    ·have:=P9 q1 0 cz1.size;rw[jh] at this;have hw:[Value.pointer (some ⟨(φ mY).block,(φ mY).off+0,none⟩)].length=cz1.size:=by rw[<-jA,p1]
     grind
    ·have:=P9 g1 0 cz.size
     grind
   ·cases hb
  ·cases hb
theorem aac(hm:MRel C X φ o w)(h:bR o psF k ar oc)(s:Sh):V4 φ o oc (ag X φ o w) (ag (XC X φ o oc psF) (gf φ psF) oc w) w psF s:=by
 refine Sh.rec (motive_1:=V4 φ o oc (ag X φ o w) (ag (XC X φ o oc psF) (gf φ psF) oc w) w psF) (motive_2:=zmu φ o oc (ag X φ o w) (ag (XC X φ o oc psF) (gf φ psF) oc w) w psF)
  ?_ ?_ ?_ ?_ ?_ ?_ ?_ ?_ ?_ ?_ ?_ ?_ ?_ ?_ ?_ ?_ ?_ ?_ s
 ·intro t v z ps bM f hv hp hM r c;obtain⟨_,x,h1,rfl,rfl⟩:=qzo (o:=o) hp;refine qtt hm.ar (fun b hb=>h.imm hb) hv (fun id hi t ver s e hn hs=>h.pF hm (by rw[e];exact uZ hn hs) (hM.bY _ (zN _ hi))) h1
 ·intro i v z ps bM f hv hp hM r c;replace hp:Pv o i v ps=some (bM,f):=hp;unfold Pv at hp;show au (gf φ psF) oc _ w (.cC i 0) z;split at hp
  ·rename_i id ver;split at hp
   ·rename_i t aA s e;obtain⟨hb,rfl,rfl⟩:=uD hp;have hr:=hM.aR _ (zg ..);have he:=h.full (hM.full _ (zg ..));unfold au at hv ⊢;rw[e] at hv;replace hv:=hv.2 (zo hb);rcases EI (φ:=φ) h hr with hd|⟨⟨cs,mO,e1,_⟩|⟨t',xQ,s',e1,e2⟩|⟨_,_,e1,e3⟩,eZ⟩
    ·rw[hd];trivial
    ·rw[e1] at e;cases e
    ·rw[e1] at e;injection e with ea eb ec ed;subst ea eb;subst ed;rw[e2,he,eZ];exact⟨zm _,fun _=>hv⟩
    ·rw[e1] at e;cases e
   ·cases hp
  ·rename_i id ver n cp;split at hp
   ·rename_i t aA s e;obtain⟨hb,rfl,rfl⟩:=uD hp;have hr:=hM.aR _ (zg ..);have hc:=h.cut (hM.cut _ (zg ..));unfold au at hv ⊢;rw[e] at hv;obtain⟨hn,hj,_⟩:=hv.2 (zo hb);rcases EI (φ:=φ) h hr with hd|⟨⟨cs,mO,e1,_⟩|⟨t',xQ,s',e1,e2⟩|⟨_,_,e1,e3⟩,eZ⟩
    ·rw[hd];trivial
    ·rw[e1] at e;cases e
    ·rw[e1] at e;injection e with ea eb ec ed;subst ea eb;subst ed;rw[e2,hc,eZ];have hl:(lf.aP s'.l n).length=n:=by simp[lf,aP,Nat.min_eq_left hn]
     refine⟨zm _,fun _=>?_⟩;simp[EH];rw[hl];exact hj
    ·rw[e1] at e;cases e
   ·cases hp
  ·cases hp
 ·intro i off v z ps bM f hv hp hM r c;replace hp:Pw o i off v ps=some (bM,f):=hp;unfold Pw at hp;show au (gf φ psF) oc _ w (.ptr i off) z;split at hp
  ·rename_i id Ii;unfold au at hv ⊢;split at hp
   ·rename_i cs0 e;obtain⟨hb,rfl,rfl⟩:=uD hp;have hr:=hM.aR _ (zg ..);have:=zo hb;subst this;rcases EI (φ:=φ) h hr with hd|⟨⟨cs,mO,e1,e2⟩|⟨t',xQ,s',e1,e2⟩|⟨_,_,e1,e3⟩,eZ⟩
    all_goals grind
   ·rename_i t aA s e;obtain⟨hb,rfl,rfl⟩:=uD hp;rw[ze] at hb;have hr:=hM.aR _ (zg ..);have:=zo hb.1;rw[e] at hv;replace hv:=hv (zo hb.2).symm;rcases EI (φ:=φ) h hr with hd|⟨⟨cs,mO,e1,e2⟩|⟨t',xQ,s',e1,e2⟩|⟨_,_,e1,e3⟩,eZ⟩
    all_goals grind
   ·cases hp
  ·cases hp
 ·exact fun t=>qzq hm h t
 ·intro v z ps bM f hv hp hM r c;obtain⟨hb,_,rfl⟩:=uD hp;have:v=.iM:=by cases v<;>first|rfl|cases hb
  subst this;exact hv
 ·intro g l ih v z ps bM f hv hp hM r c;obtain⟨l',rfl,hf⟩:=zgi hp;have⟨cz,h1,h2⟩:=hv;exact⟨cz,h1,ih _ _ _ _ _ h2 hf hM r c⟩
 ·intro v z ps bM f hv hp hM r c;obtain⟨hb,_,rfl⟩:=uD hp;have:v=.ie:=by cases v<;>first|rfl|cases hb
  subst this;exact hv
 ·intro l ih v z ps bM f hv hp hM r c;obtain⟨l',rfl,hf⟩:=z64 hp;obtain⟨cz,h1,h2⟩:=hv;exact⟨cz,h1,ih _ _ _ _ _ h2 hf hM r c⟩
 ·intro l ih v z ps bM f hv hp hM r c;obtain⟨l',rfl,hf⟩:=z65 hp;have⟨cz,h1,h2⟩:=hv;exact⟨cz,h1,ih _ _ _ _ _ h2 hf hM r c⟩
 ·intro v z ps bM f hv hp hM r c;obtain⟨hb,_,rfl⟩:=uD hp;have:v=.iN:=by cases v<;>first|rfl|cases hb
  subst this;exact hv
 ·intro v z ps bM f hv hp hM r c;exact trivial
 ·intro i v z ps bM f hv hp hM r c;replace hp:z50 o i v ps=some (bM,f):=hp;obtain⟨id,b,cs,rfl,e,rfl,rfl⟩:=qj8 hp;have hr:=hM.aR _ (zg ..);show au (gf φ psF) oc _ w (.ib i b) z;unfold au at hv ⊢;rcases EI (φ:=φ) h hr with hd|⟨⟨cs,mO,e1,e2⟩|⟨t',xQ,s',e1,e2⟩|⟨_,_,e1,e3⟩,eZ⟩
  all_goals grind
 ·intro i v z ps bM f hv hp hM r c;replace hp:U7 o i v ps=some (bM,f):=hp;obtain⟨id,ver,lo,t,s,rfl,e,rfl,rfl⟩:=qpu hp;have hr:=hM.aR _ (zg ..);have hc:=h.full (hM.full _ (zg ..));show au (gf φ psF) oc _ w (.j8 i 0 lo) z;unfold au at hv ⊢;rw[e] at hv;replace hv:=hv.2 rfl;rcases EI (φ:=φ) h hr with hd|⟨⟨cs,mO,e1,e2⟩|⟨t',xQ,s',e1,e2⟩|⟨_,_,e1,e3⟩,eZ⟩
  ·rw[hd];trivial
  ·rw[e1] at e;cases e
  ·rw[e1] at e;injection e with ea eb ec ed;subst ea eb;subst ed;rw[e2,hc,eZ];exact⟨zm _,fun _=>hv⟩
  ·rw[e1] at e;cases e
 ·intro i v z ps bM f hv hp hM r c;replace hp:Bk o i v ps=some (bM,f):=hp;unfold Bk at hp;show au (gf φ psF) oc _ w (.it i) z;split at hp
  ·rename_i id;unfold au at hv ⊢;split at hp
   ·rename_i e;injection hp with hp;injection hp with h1 h2;subst h1 h2;have hr:=hM.aR _ (zg ..);rcases EI (φ:=φ) h hr with hd|⟨⟨cs,mO,e1,e2⟩|⟨t',xQ,s',e1,e2⟩|⟨_,_,e1,e3⟩,eZ⟩
    all_goals grind
   ·cases hp
  ·cases hp
 ·intro a v z ps bM f hv hp hM r c;replace hp:Eg lf o a v ps=some (bM,f):=hp;rcases qud (o:=o) hp with ⟨k,n,rfl,rfl,rfl⟩|⟨rfl,rfl,rfl⟩|⟨g,i,rfl,hg,e,rfl,rfl⟩|⟨g,i,x,p,rfl,hg,e,h2,rfl⟩
  ·show AH _ w a k n z;exact qm4 (fun q ⟨b,cs,h1,h2,h3,h4,h5⟩=>⟨b,cs,h1,h2,h.imm h3,j9 (fun b hb=>h.imm hb) (fun _ _=>rfl) (.int .i64) n cs h4,h5⟩) a k z hv
  ·show AH _ w a _ _ z;replace hv:z=.nilFunc:=hv;subst hv;exact quc a
  ·obtain⟨cz,h1,h2⟩:=hv;have hz:z=.func (.func g) #[] #[]:=by rw[h1,show cz=#[] from Array.toList_eq_nil_iff.1 h2,VD hg]
   obtain⟨j,e1,e2⟩:=qru (c:=false) hz a 0 i e;rw[zW] at e1;subst e1;exact e2
  ·obtain⟨cz,h1,y,r',e3,hy,e4⟩:=hv;have e4:=e4;subst e4;have hz:z=.func (.func g) #[] #[y]:=by rw[h1,show cz=#[y] from Zd.1 e3,VD hg]
   have key:au (gf φ psF) oc _ w (nP eg cW (.ref (.int .i64)) r (p r c)).1 y:=qzq hm h (.int .i64) x y _ _ _ hy h2 hM r c;obtain⟨j,e1,e2⟩:=qru (c:=true) (n:=(p r c).1) ⟨y,hz,key⟩ a 0 i e;rw[zW] at e1;subst e1;exact e2
 ·exact fun t=>zjg hm h t
 ·intro vs zs ps bM f hv hp hM r c;obtain⟨rfl,_,rfl⟩:=V1 hp;exact hv
 ·intro s l kq kC vs zs ps bM f hv hp hM r c;obtain⟨v,IG,oI,f1,g1,rfl,h1,h2,rfl⟩:=Qj hp;have⟨z,zr,e,r1,r2⟩:=hv;have hk:=(Oo l _ _ _ _ h2).1.trans hM;have a1:=kq _ _ _ _ _ r1 h1 hk _ (g1 r c);have e2:(nP eg cW s (kW l r) (f1 (kW l r) (g1 r c))).2=g1 r c:=(zje s _ _ _ _ h1).2 _ _ _ _;refine⟨z,zr,e,a1,?_⟩;show cu _ _ _ _ (gN eg cW l r (nP eg cW s (kW l r) (f1 (kW l r) (g1 r c))).2).1 zr;rw[e2];exact kC _ _ _ _ _ r2 h2 hM r c
theorem zjh(hm:MRel C X φ o w)(h:bR o psF k ar oc):∀l,zmu φ o oc (ag X φ o w) (ag (XC X φ o oc psF) (gf φ psF) oc w) w psF l
 |[]=>by intro vs zs ps bM f hv hp hM r c;obtain⟨rfl,_,rfl⟩:=V1 hp;exact hv
 |s::l=>by intro vs zs ps bM f hv hp hM r c;obtain⟨v,IG,oI,f1,g1,rfl,h1,h2,rfl⟩:=Qj hp;have⟨z,zr,e,r1,r2⟩:=hv;have hc:=(Oo l _ _ _ _ h2).1.trans hM;have a1:=aac hm h s _ _ _ _ _ r1 h1 hc _ (g1 r c);have e2:(nP eg cW s (kW l r) (f1 (kW l r) (g1 r c))).2=g1 r c:=(zje s _ _ _ _ h1).2 _ _ _ _;refine⟨z,zr,e,a1,?_⟩;rw[e2];exact zjh hm h l _ _ _ _ _ r2 h2 hM r c
theorem zji{cs:List V}{f:∀r,ak r->ak (kW l r)}(h:oF lf o l cs ps=some (bM,f)){r:List Ty}{q:ak (kW l r)}(hs:rj (gN eg cW l r q).1=true):rj cs=true:=by
 cases l with
 |nil=>cases hs
 |cons s l=>
  obtain⟨v,IG,oI,f1,g1,rfl,h1,h2,rfl⟩:=Qj h;cases s with
  |ib i=>obtain⟨id,b,cs,rfl,_⟩:=qj8 (o:=o) (show z50 o i v ps=some (oI,f1) from h1);rfl
  |_=>cases hs
theorem bR.mem(hm:MRel C X φ o w)(h:bR o psF k ar oc):MRel C (XC X φ o oc psF) (gf φ psF) oc w:=by
 have hi:∀b,ag X φ o w b->ag (XC X φ o oc psF) (gf φ psF) oc w b:=fun b hb=>h.imm hb;refine⟨fun i=>?_,fun i j hq hu e=>?_,fun i hx=>?_,fun b hb=>?_,fun i=>?_,fun g t x hg=>?_,hm.Oc⟩
 ·by_cases hj:i<k
  ·rcases h.kind hj with hd|⟨cO,h1,h2⟩
   ·rw[hd];trivial
   ·have eZ:gf φ psF i=φ cO:=by unfold gf;rw[(h.aR h1).2.1]
    have ho:=hm.ar cO;rcases h2 with ⟨l,cs,EG,Bz,f,r,c,e,hp,hM,e'⟩|⟨t,ver,s,e,e'⟩|⟨_,_,e,e'⟩
    ·rw[e] at ho;rw[e'];have⟨h3,cz,el,lo,hf,h4,h5,h6⟩:=ho;exact⟨by rw[eZ];exact h3,cz,el,lo,hf,by rw[eZ];exact h4,h5,zjh hm h l _ _ _ _ _ h6 hp hM r c⟩
    ·rw[e] at ho;rw[e'];have⟨h3,h4,h5⟩:=ho;cases hc:iP cO psF.cut with
     |none=>refine⟨h3,h4,fun hn=>?_⟩;rw[eZ];refine(h5 hn).imp (fun⟨g1,ec,g2,g3,g4,g5,g6⟩=>?_) fun g=>g;exact⟨g1,ec,rq (j9 hi (fun _ _=>rfl) t) g2,g3,g4,g5,by simp⟩
     |some n=>
      have hv:(lf.aP s.l n).length<=s.l.length:=by simp[lf,aP];omega
      refine⟨by show(lf.aP s.l n).length<=cG;omega,fun hn=>?_,fun hn=>?_⟩
      ·show s.l.take n=[];rw[h4 hn];simp
      ·rw[eZ];refine(h5 hn).imp (fun⟨g1,ec,g2,g3,g4,g5,g6⟩=>?_) fun g=>⟨g.1,(by show s.l.take n=[];rw[g.2.1];simp),g.2.2⟩;have hw:=rR g2;have hk:min n s.l.length<=s.l.length:=Nat.min_le_right _ _;have hl:=(xK (min n s.l.length) hk g2).1;have hy:s.l.take (min n s.l.length)=s.l.take n:=by grind
       rw[hy] at hl;refine⟨g1,ec.take (min n s.l.length*aB t),rq (j9 hi (fun _ _=>rfl) t) hl,P3 _ g3,g4,fun _=>?_,by simp⟩;have⟨cz,el,lo,hf,k1,k2,k3⟩:=g5 rfl;have hA:(lf.aP s.l n).length*aB t<=s.l.length*aB t:=jt _ hv;exact⟨cz,el,lo,hf,k1,by show _+(lf.aP s.l n).length*aB t<=_;omega,by show hf<=lo\/hf<=_\/_+(lf.aP s.l n).length*aB t<=lo;omega⟩
    ·rw[e] at ho;rw[e'];have⟨s,n,h3,h4⟩:=ho;exact⟨s,n,by rw[eZ];exact h3,h4⟩
  ·rw[h.none i om];trivial
 ·have⟨_,a1,a2⟩:=h.IH hq;have⟨_,b1,b2⟩:=h.IH hu;have:=hm.inj _ _ a2 b2 e;have ra:=(h.aR a1).2.2;have rb:=(h.aR b1).2.2
  grind
 ·obtain⟨_,a1,a2⟩:=h.IH hx;obtain⟨s1,s2⟩:=hm.sep _ a2;refine⟨s1,?_⟩;rintro(hz|⟨id,e1,e2,_,e4⟩)
  ·exact s2 hz
  ·have:=hm.inj _ _ e1 a2 e2
   grind
 ·rcases hb with hb|⟨id,e1,e2,_⟩
  ·exact hm.xs b hb
  ·exact e2▸(hm.sep id e1).1
 ·by_cases hj:i<k
  ·rcases h.kind hj with hd|⟨cO,h1,h2⟩
   ·rw[hd];trivial
   ·have eZ:gf φ psF i=φ cO:=by unfold gf;rw[(h.aR h1).2.1]
    have he:=hm.uA cO;rcases h2 with ⟨l,cs,EG,Bz,f,r,c,e,hp,hM,e'⟩|⟨t,ver,s,e,e'⟩|⟨_,_,e,e'⟩
    ·rw[e] at he;rw[e',eZ];exact fun hs=>he (zji hp hs)
    ·rw[e] at he;rw[e',eZ];refine fun ht hn=>he ht ?_;cases hc:iP cO psF.cut<;>rw[hc] at hn<;>exact hn
    ·rw[e'];trivial
  ·rw[h.none i om];trivial
 ·obtain⟨a,cs,h1,h2,h3,h4,h5⟩:=hm.fT g t x hg;exact⟨a,cs,h1,h2,hi _ h3,j9 hi (fun _ _=>rfl) _ _ _ h4,h5⟩
end
theorem r9(n:Nat)(k:Nat->β):nH n k=k n:=by cases n<;>rfl
mutual
theorem z67:∀(v:V) (k:V->β),pB v k=k v
 |.d t x,k=>rfl
 |.cC id ver,k=>by simp[pB,r9]
 |.pre id ver n c,k=>by simp[pB,r9]
 |.ptr id off,k=>by simp[pB,r9]
 |.l9 ..,k=>rfl
 |.ref ..,k=>rfl
 |.rr ..,k=>rfl
 |.iM,k=>rfl
 |.fn f l,k=>by simp[pB,r9,Ot]
 |.ie,k=>rfl
 |.mW l,k=>by simp[pB,Ot]
 |.agg l,k=>by simp[pB,Ot]
 |.iN,k=>rfl
 |.fS,k=>rfl
 |.lb _,k=>rfl
 |.undef,k=>rfl
 |.dZ,k=>rfl
 |.ib id b,k=>by simp[pB,r9]
 |.j8 id ver lo,k=>by simp[pB,r9]
 |.it _,k=>rfl
 |.UZ ..,k=>rfl
 |.fa ..,k=>rfl
theorem Ot:∀(l:List V) (k:List V->β),GJ l k=k l
 |[],k=>rfl
 |v::l,k=>by simp[GJ,z67,Ot]
end
theorem zgj(x:Obj)(k:Obj->β):PH x k=k x:=by cases x<;>simp[PH,Ot,r9]
theorem zgk:∀(u:List (Nat×Obj)) (o:Nat->Obj) (k:(Nat->Obj)->β),Vq o u k=k (aj o u)
 |[],_,_=>rfl
 |(i,x)::r,o,k=>by simp[Vq,r9,zgj,zgk r];rfl
theorem qrw:∀(u:List (Nat×Obj)) (o:Nat->Obj) (k:(Nat->Obj)->Option β) (y:β),uW fr o u k=some y->k (aj o u)=some y/\nK fr o u
 |[],o,k,y,h=>⟨h,(fun p hp=>by cases hp)⟩
 |(i,x)::r,o,k,y,h=>by
  simp[uW,r9,zgj] at h;have next:∀(hc:fr<=i->i<fr+16->o i=.none),uW fr (dR o i x) r k=some y->k (aj o ((i,x)::r))=some y/\nK fr o ((i,x)::r):=by
   intro hc h;have⟨h1,h2⟩:=qrw r _ _ _ h;refine⟨h1,fun p hp g1 g2=>?_⟩;rcases zA.1 hp with rfl|hp
   ·exact hc g1 g2
   ·by_cases e:p.1=i
    ·grind
    ·have:=h2 p hp g1 g2
     rwa [nJ e] at this
  cases hb:(Nat.ble fr i&&Nat.blt i (fr+16)) with
  |true=>grind
  |false=>
   rw[hb] at h;refine next (fun g1 g2=>?_) h
   have:(Nat.ble fr i&&Nat.blt i (fr+16))=true:=by rw[ze];exact⟨Nat.ble_eq▸g1,(Nat.ble_eq▸g2:Nat.ble (i+1) (fr+16)=true)⟩
   grind
mutual
theorem zjj:∀(s:Sh) (k:Sh->β),oU s k=k s
 |.d t,k=>rfl
 |.cC id,k=>by simp[oU,r9]
 |.ptr id off,k=>by simp[oU,r9]
 |.ref t,k=>rfl
 |.rr t,k=>rfl
 |.iM,k=>rfl
 |.fn f l,k=>by simp[oU,r9,Ou]
 |.ie,k=>rfl
 |.mW l,k=>by simp[oU,Ou]
 |.agg l,k=>by simp[oU,Ou]
 |.it id,k=>by simp[oU,r9]
 |.iN,k=>rfl
 |.dZ,k=>rfl
 |.ib id,k=>by simp[oU,r9]
 |.j8 id,k=>by simp[oU,r9]
 |.fa _,k=>rfl
theorem Ou:∀(l:List Sh) (k:List Sh->β),GK l k=k l
 |[],k=>rfl
 |v::l,k=>by simp[GK,zjj,Ou]
end
theorem zc9(s:fG)(k:fG->β):Z6 s k=k s:=by cases s<;>simp[Z6,Ou]
theorem quf:∀(l:List fG) (k:List fG->β),Vr l k=k l
 |[],_=>rfl
 |s::l,k=>by simp[Vr,zc9,quf l]
theorem V6(C:Cx)(sk:List Nat)(st:St)(ts:List Nat)(ops:List Oper)(k:Shape->β):N7 C sk st ts ops k=k (N6 C sk st ts ops):=by simp[N7,Ou,quf]
def kH(sk ts:List Nat)(s:Shape)(c:ak s.bQ):St:=⟨z58 ts (fill (dM sk) cW s c).1,aj (fun _=>Obj.none) (fill (dM sk) cW s c).2⟩
theorem V7(sk ts:List Nat)(s:Shape)(c:ak s.bQ)(k:St->β):xI sk ts s c k=k (kH sk ts s c):=by simp[xI,Ot,zgk];rfl
section
variable {C:Cx} {X:Nat→Prop} {φ φ':Nat→Addr} {o oc:Nat→Obj} {w:World} {imm:Nat→Prop} {ρ κ:Nat→Nat}
theorem qmz(ρ κ IJ IK:Nat->Nat)(s:Sh):∀r c,(nP ρ κ s r c).2=(nP IJ IK s r c).2:=by
 refine Sh.rec (motive_1:=fun s=>∀r c,(nP ρ κ s r c).2=(nP IJ IK s r c).2) (motive_2:=fun l=>∀r c,(gN ρ κ l r c).2=(gN IJ IK l r c).2)
  ?_ ?_ ?_ ?_ ?_ ?_ ?_ ?_ ?_ ?_ ?_ ?_ ?_ ?_ ?_ ?_ ?_ ?_ s
 ·exact fun t r c=>rfl
 ·exact fun i r c=>rfl
 ·exact fun i off r c=>rfl
 ·exact fun t r c=>rfl
 ·exact fun r c=>rfl
 ·exact fun f l ih r c=>ih r c
 ·exact fun r c=>rfl
 ·exact fun l ih r c=>ih r c
 ·exact fun l ih r c=>ih r c
 ·exact fun r c=>rfl
 ·exact fun r c=>rfl
 ·exact fun i r c=>rfl
 ·exact fun i r c=>rfl
 ·exact fun i r c=>rfl
 ·exact fun a r c=>rfl
 ·exact fun t r c=>rfl
 ·exact fun r c=>rfl
 ·intro s l kq kC r c;exact(jd (fun q=>(gN ρ κ l r q).2) (kq (kW l r) c)).trans (kC r _)
theorem V8(ρ κ IJ IK:Nat->Nat):∀(l:List Sh) r c,(gN ρ κ l r c).2=(gN IJ IK l r c).2
 |[],_,_=>rfl
 |s::l,r,c=>by exact(jd (fun q=>(gN ρ κ l r q).2) (qmz ρ κ IJ IK s (kW l r) c)).trans (V8 ρ κ IJ IK l r _)
def V9(κ:Nat):Obj->Obj->Prop
 |.none,_=>True
 |.dead,.dead=>True
 |.box _,.box _=>True
 |.vec t v f s,y=>v=0/\y=.vec t κ f s
 |.iter _ _,.iter _ _=>True
 |_,_=>False
theorem aad(hl:∀i,V9 (κ i) (oc i) (o (ρ i)))(eZ:∀i,oc i≠.none->oc i≠.dead->φ' (ρ i)=φ i)(s:Sh):∀r c z,au φ oc imm w (nP eg cW s r c).1 z->au φ' o imm w (nP ρ κ s r c).1 z:=by
 refine Sh.rec (motive_1:=fun s=>∀r c z,au φ oc imm w (nP eg cW s r c).1 z->au φ' o imm w (nP ρ κ s r c).1 z)
  (motive_2:=fun l=>∀r c zs,cu φ oc imm w (gN eg cW l r c).1 zs->cu φ' o imm w (gN ρ κ l r c).1 zs)
  ?_ ?_ ?_ ?_ ?_ ?_ ?_ ?_ ?_ ?_ ?_ ?_ ?_ ?_ ?_ ?_ ?_ ?_ s
 ·exact fun t r c z h=>h
 ·intro i r c z h;replace h:au φ oc imm w (.cC i 0) z:=h;show au φ' o imm w (.cC (ρ i) (κ i)) z;have h1:=hl i;have h2:=eZ i;unfold au at h ⊢;cases e:oc i<;>rw[e] at h h1 h2
  ·cases e2:o (ρ i)<;>rw[e2] at h1<;>first|exact h1.elim|trivial
  ·rename_i t v fr s;obtain⟨hv,h1⟩:v=0/\o (ρ i)=.vec t (κ i) fr s:=h1
   grind
  ·cases e2:o (ρ i)<;>rw[e2] at h1<;>first|exact h1.elim|trivial
  ·exact h.elim
  ·cases e2:o (ρ i)<;>rw[e2] at h1<;>first|exact h1.elim|trivial
 ·intro i off r c z h;replace h:au φ oc imm w (.ptr i off) z:=h;show au φ' o imm w (.ptr (ρ i) off) z;have h1:=hl i;have h2:=eZ i;unfold au at h ⊢;cases e:oc i<;>rw[e] at h h1 h2
  ·cases e2:o (ρ i)<;>rw[e2] at h1<;>first|exact h1.elim|(rw[h2 (by simp) (by simp)];exact h)
  ·rename_i t v fr s;obtain⟨hv,h1⟩:v=0/\o (ρ i)=.vec t (κ i) fr s:=h1
   grind
  ·cases e2:o (ρ i)<;>rw[e2] at h1<;>first|exact h1.elim|trivial
  ·exact h.elim
  ·cases e2:o (ρ i)<;>rw[e2] at h1<;>first|exact h1.elim|(rw[h2 (by simp) (by simp)];exact h)
 ·exact fun t r c z h=>h
 ·exact fun r c z h=>h
 ·exact fun f l ih r c z ⟨cz,h1,h2⟩=>⟨cz,h1,ih _ _ _ h2⟩
 ·exact fun r c z h=>h
 ·exact fun l ih r c z ⟨cz,h1,h2⟩=>⟨cz,h1,ih _ _ _ h2⟩
 ·exact fun l ih r c z ⟨cz,h1,h2⟩=>⟨cz,h1,ih _ _ _ h2⟩
 ·exact fun r c z h=>h
 ·exact fun r c z h=>h
 ·intro i r c z h;replace h:au φ oc imm w (.ib i c.1) z:=h;show au φ' o imm w (.ib (ρ i) c.1) z;have h1:=hl i;have h2:=eZ i;unfold au at h ⊢;cases e:oc i<;>rw[e] at h h1 h2
  ·cases e2:o (ρ i)<;>rw[e2] at h1<;>first|exact h1.elim|(rw[h2 (by simp) (by simp)];exact h)
  ·rename_i t v fr s;obtain⟨hv,h1⟩:v=0/\o (ρ i)=.vec t (κ i) fr s:=h1;rw[h1];trivial
  ·cases e2:o (ρ i)<;>rw[e2] at h1<;>first|exact h1.elim|trivial
  ·exact h.elim
  ·cases e2:o (ρ i)<;>rw[e2] at h1<;>first|exact h1.elim|trivial
 ·intro i r c z h;replace h:au φ oc imm w (.j8 i 0 c.1) z:=h;show au φ' o imm w (.j8 (ρ i) (κ i) c.1) z;have h1:=hl i;have h2:=eZ i;unfold au at h ⊢;cases e:oc i<;>rw[e] at h h1 h2
  ·cases e2:o (ρ i)<;>rw[e2] at h1<;>first|exact h1.elim|trivial
  ·rename_i t v fr s;obtain⟨hv,h1⟩:v=0/\o (ρ i)=.vec t (κ i) fr s:=h1
   grind
  ·cases e2:o (ρ i)<;>rw[e2] at h1<;>first|exact h1.elim|trivial
  ·exact h.elim
  ·cases e2:o (ρ i)<;>rw[e2] at h1<;>first|exact h1.elim|trivial
 ·intro i r c z h;replace h:au φ oc imm w (.it i) z:=h;show au φ' o imm w (.it (ρ i)) z;have h1:=hl i;have h2:=eZ i;unfold au at h ⊢;cases e:oc i<;>rw[e] at h h1 h2
  ·cases e2:o (ρ i)<;>rw[e2] at h1<;>first|exact h1.elim|trivial
  ·rename_i t v fr s;obtain⟨hv,h1⟩:v=0/\o (ρ i)=.vec t (κ i) fr s:=h1;rw[h1];trivial
  ·cases e2:o (ρ i)<;>rw[e2] at h1<;>first|exact h1.elim|trivial
  ·exact h.elim
  ·cases e2:o (ρ i)<;>rw[e2] at h1<;>first|exact h1.elim|(rw[h2 (by simp) (by simp)];exact h)
 ·exact fun a r c z h=>h
 ·exact fun t r c z h=>h
 ·exact fun r c z h=>h
 ·intro s l kq kC r c zs ⟨z,zr,e,h1,h2⟩;refine⟨z,zr,e,kq _ _ _ h1,?_⟩;exact(jd (fun q=>cu φ' o imm w (gN ρ κ l r q).1 zr) (qmz ρ κ eg cW s (kW l r) c)).mpr (kC _ _ _ h2)
theorem Wa(hl:∀i,V9 (κ i) (oc i) (o (ρ i)))(eZ:∀i,oc i≠.none->oc i≠.dead->φ' (ρ i)=φ i):∀(l:List Sh) r c zs,cu φ oc imm w (gN eg cW l r c).1 zs->cu φ' o imm w (gN ρ κ l r c).1 zs
 |[],_,_,_,h=>h
 |s::l,r,c,zs,⟨z,zr,e,h1,h2⟩=>by refine⟨z,zr,e,aad hl eZ s _ _ _ h1,?_⟩;exact(jd (fun q=>cu φ' o imm w (gN ρ κ l r q).1 zr) (qmz ρ κ eg cW s (kW l r) c)).mpr (Wa hl eZ l _ _ _ h2)
end
theorem qug:∀(l:List fG) (i:Nat) (os:List (Nat×Obj)) (o':Nat->Obj),zjf o psF i l os->(∀j sh,l[j]?=some sh->EF o psF (i+j) sh (aj o' os (i+j)))/\(∀j,(j<i\/i+l.length<=j)->aj o' os j=o' j)
 |[],i,os,o',h=>by have h:os=[]:=h;subst h;exact⟨fun j sh hj=>by simp at hj,fun j _=>rfl⟩
 |s::l,i,os,o',⟨ob,r,e,h1,h2⟩=>by
  subst e;obtain⟨a1,a2⟩:=qug l (i+1) r (dR o' i ob) h2;refine⟨fun j sh hj=>?_,fun j hj=>?_⟩
  ·cases j with
   |zero=>simp only[List.getElem?_cons_zero,zU] at hj;subst hj;show EF o psF i s (aj (dR o' i ob) r i);rw[a2 i (.inl om),gq];exact h1
   |succ j=>have:=a1 j sh (by simpa using hj);rw[show i+1+j=i+(j+1) by omega] at this;exact this
  ·show aj (dR o' i ob) r j=o' j;simp only[zn] at hj;rw[a2 j om,nJ om]
def bB(s:Shape)(c:ak s.bQ):Nat->Obj:=aj (fun _=>Obj.none) (fill eg cW s c).2
theorem Ql{aR:List (Nat×Nat)}{s:Shape}{c:ak s.bQ}(h:pack lf o aR s vs=some (ps,c)):bR o ps s.ar.length s.ar (bB s c)/\∃oI f,oF lf o s.roots vs ⟨aR,[],[],[]⟩=some (oI,f)/\fM oI ps/\∃q,c=f _ q:=by
 unfold pack at h;split at h
 ·rename_i oI f h1;split at h
  ·rename_i On g h2;cases hb:Ie s.ar.length On with
   |false=>rw[hb] at h;cases h
   |true=>
    rw[hb] at h;injection h with h;injection h with h3 h4;subst h3;obtain⟨m1,e1⟩:=Oo s.roots _ _ _ _ h1;obtain⟨m2,e2⟩:=Qk (psF:=On) s.ar 0 _ _ _ h2;have he:=e2 (.refl _) [] ();have hc:bB s c=aj (fun _=>Obj.none) (mX eg cW 0 s.ar [] (g [] ())):=by unfold bB fill;simp only;rw[<-h4,e1]
    obtain⟨a1,a2⟩:=qug _ _ _ (fun _=>Obj.none) he;refine⟨⟨hb,rfl,fun i sh hi=>?_,fun i hi=>?_⟩,oI,f,h1,m2,_,h4.symm⟩
    all_goals simp_all
  ·cases h
 ·cases h
theorem qxi{C:Cx}(hm:MRel C X φ o w){aR:List (Nat×Nat)}{s:Shape}{zs:List Value}{c:ak s.bQ}(h:pack lf o aR s vs=some (ps,c))(hr:cu φ o (ag X φ o w) w vs zs):MRel C (XC X φ o (bB s c) ps) (gf φ ps) (bB s c) w/\cu (gf φ ps) (bB s c) (ag (XC X φ o (bB s c) ps) (gf φ ps) (bB s c) w) w (fill eg cW s c).1 zs:=by obtain⟨hp,oI,f,h1,h2,q,h3⟩:=Ql h;refine⟨hp.mem hm,?_⟩;have:=zjh hm hp s.roots _ _ _ _ _ hr h1 h2 _ q;rw[<-h3] at this;exact this
def mj(sk:List Nat):Prop:=∃inv:Nat->Nat,∀j,inv (dM sk j)=j
theorem mj.inj(h:mj sk):∀i j,dM sk i=dM sk j->i=j:=fun i j e=>by obtain⟨inv,h⟩:=h;rw[<-h i,<-h j,e]
theorem iT:∀{l:List Nat},bF j l=true↔j∈l
 |[]=>⟨fun h=>(by cases h),fun h=>(by cases h)⟩
 |b::r=>by
  simp only[bF];cases hb:Nat.beq b j with
  |true=>simp_all
  |false=>
   have hc:b≠j:=fun e=>by rw[e,JG] at hb;cases hb
   rw[zE,iT (l:=r),zA]
   grind
theorem qh7:∀{sk:List Nat},NV k sk=true->(∀id,id∈sk->id<k/\id<1000000)/\sk.Nodup
 |[],_=>⟨fun id h=>(by cases h),Js⟩
 |b::r,h=>by
  simp only[NV,ze,Jv] at h;obtain⟨⟨⟨h1,h2⟩,h3⟩,h4⟩:=h;obtain⟨g1,g2⟩:=qh7 h4;refine⟨fun id hi=>?_,ZS.2 ⟨fun hm=>?_,g2⟩⟩
  ·rcases zA.1 hi with rfl|hi
   ·exact⟨h1,h2⟩
   ·exact g1 id hi
  ·rw[iT.2 hm] at h3;cases h3
theorem z68(h:NV k sk=true):mj sk:=by
 obtain⟨g1,g2⟩:=qh7 h;have inj:∀i j,dM sk i=dM sk j->i=j:=fun i j e=>by
  unfold dM at e;split at e
  ·rename_i a ha;split at e
   ·rename_i b hb;subst e;obtain⟨hi,ea⟩:=zT.1 ha;obtain⟨hj,eb⟩:=zT.1 hb;exact(List.getElem_inj (h₀:=hi) (h₁:=hj) g2).1 (by rw[ea,eb])
   ·have:=(g1 a (zH ha)).2;omega
  ·split at e
   ·rename_i b hb;have:=(g1 b (zH hb)).2;omega
   ·omega
 refine⟨fun id=>by
  classical
  exact if h:∃j,dM sk j=id then h.choose else 0,fun j=>?_⟩
 have hx:∃i,dM sk i=dM sk j:=⟨j,rfl⟩
 grind
theorem quh:∀{sk:List Nat} {n i id:Nat},sk[i]?=some id->(n+i,id)∈uT n sk
 |[],_,i,_,h=>by simp at h
 |b::r,n,i,id,h=>by
  cases i with
  |zero=>simp only[List.getElem?_cons_zero,zU] at h;subst h;exact zg ..
  |succ i=>have:=quh (n:=n+1) (i:=i) (by simpa using h);rw[show n+1+i=n+(i+1) by omega] at this;exact zf _ this
theorem qn0:∀{sk:List Nat} {id:Nat},id∈sk->(id,id)∈YF sk
 |b::r,id,h=>by
  rcases zA.1 h with rfl|h
  ·exact zg ..
  ·exact zf _ (qn0 h)
theorem qn1:∀{sk:List Nat},Bj o sk=true->∀id,id∈sk->U6 o id=true
 |b::r,h,id,hi=>by
  simp only[Bj,ze] at h;rcases zA.1 hi with rfl|hi
  ·exact h.1
  ·exact qn1 h.2 id hi
theorem qjb{cut:List (Nat×Nat)}:∀{sk:List Nat},Ps cut sk=true->∀id,id∈sk->iP id cut=none
 |b::r,h,id,hi=>by
  simp only[Ps,ze] at h;rcases zA.1 hi with rfl|hi
  ·exact V3 h.1
  ·exact qjb h.2 id hi
theorem qq0{aR:List (Nat×Nat)}{s:Shape}{p:PS×ak s.bQ}(h:Ik lf sk aR o s vs=some p):pack lf o aR s vs=some p/\Bj o sk=true/\Ps p.1.cut sk=true:=by
 unfold Ik at h
 grind
theorem qzt{aR:List (Nat×Nat)}{s:Shape}{c:ak s.bQ}(h:pack lf o aR s vs=some (ps,c)):∀p,p∈aR->p∈ps.aR:=by obtain⟨_,oI,f,h1,h2,_⟩:=Ql h;exact fun p hp=>h2.aR p ((Oo s.roots _ _ _ _ h1).1.aR p hp)
theorem z69{oc:Nat->Obj}(h:bR o psF k ar oc){id:Nat}(hp:(i,id)∈psF.aR)(hk:U6 o id=true)(hc:iP id psF.cut=none):Up w w (φ id) (gf φ psF i) (o id) (oc i):=by
 rcases EI (φ:=φ) h hp with hd|⟨⟨cs,mO,e1,e2⟩|⟨t',ver,s,e1,e2⟩|⟨_,_,e1,e2⟩,eZ⟩
 ·rw[hd];cases o id<;>trivial
 ·rw[e1,e2];exact eZ
 ·rw[e1,e2,hc];unfold U6 at hk;rw[e1] at hk;have hv:ver=0:=zo hk;exact .inr ⟨hv,rfl,rfl,rfl,eZ,fun _=>⟨rfl,fun _ _ n hr=>hr⟩⟩
 ·rw[e1,e2];exact eZ
def ObR(ρ:Nat->Nat)(a b:Obj):Prop:=(∃l r c,a=.box (gN eg cW l r c).1/\b=.box (gN ρ cW l r c).1)\/(a=b/\∀cs,a≠.box cs)
theorem z6a(ρ κ:Nat->Nat)(i:Nat)(s:fG)(r:List Ty)(c:ak (NT s r)):(nE ρ κ i s r c).2=(nE eg cW i s r c).2:=by
 cases s with
 |box l=>exact V8 ρ κ eg cW l r c
 |vec t=>rfl
 |gone=>rfl
 |iter=>rfl
theorem zcc(ρ:Nat->Nat)(i:Nat)(s:fG)(r:List Ty)(c:ak (NT s r)):ObR ρ (nE eg cW i s r c).1 (nE ρ cW i s r c).1:=by
 cases s with
 |box l=>exact .inl ⟨l,r,c,rfl,rfl⟩
 |_=>exact .inr ⟨rfl,fun _ h=>by cases h⟩
theorem qjc(ρ κ:Nat->Nat):∀(l:List fG) (i:Nat) (r:List Ty) (c:ak (eC l r)) (o1 o2:Nat->Obj),(∀a b,i<=a->a<i+l.length->i<=b->b<i+l.length->ρ a=ρ b->a=b)->(∀j,i<=j->j<i+l.length->∃sh r' c',l[j-i]?=some sh/\aj o1 (mX eg cW i l r c) j=(nE eg cW j sh r' c').1/\aj o2 (mX ρ κ i l r c) (ρ j)=(nE ρ κ j sh r' c').1/\ρ j∈bU (mX ρ κ i l r c))/\(∀j,(j<i\/i+l.length<=j)->aj o1 (mX eg cW i l r c) j=o1 j)/\(∀id,(∀j,i<=j->j<i+l.length->ρ j≠id)->aj o2 (mX ρ κ i l r c) id=o2 id/\id∉bU (mX ρ κ i l r c))
 |[],i,r,c,o1,o2,_=>⟨fun j h1 h2=>absurd h2 (by simp;omega),fun _ _=>rfl,fun _ _=>⟨rfl,(fun h=>by cases h)⟩⟩
 |s::l,i,r,c,o1,o2,dG=>by
  have e2:=z6a ρ κ i s (eC l r) c;simp only[zn] at dG ⊢;obtain⟨a1,a2,a3⟩:=qjc ρ κ l (i+1) r (nE eg cW i s (eC l r) c).2 (dR o1 i (nE eg cW i s (eC l r) c).1) (dR o2 (ρ i) (nE ρ κ i s (eC l r) c).1)
   (fun a b h1 h2 h3 h4 e=>dG a b om om om om e)
  have f1:∀j,aj o1 (mX eg cW i (s::l) r c) j=aj (dR o1 i (nE eg cW i s (eC l r) c).1) (mX eg cW (i+1) l r (nE eg cW i s (eC l r) c).2) j:=fun _=>rfl;have f2:∀id,aj o2 (mX ρ κ i (s::l) r c) id=aj (dR o2 (ρ i) (nE ρ κ i s (eC l r) c).1) (mX ρ κ (i+1) l r (nE eg cW i s (eC l r) c).2) id:=fun id=>(jd (fun q=>aj (dR o2 (ρ i) (nE ρ κ i s (eC l r) c).1) (mX ρ κ (i+1) l r q) id) e2);have f3:bU (mX ρ κ i (s::l) r c)=ρ i::bU (mX ρ κ (i+1) l r (nE eg cW i s (eC l r) c).2):=jd (fun q=>ρ i::bU (mX ρ κ (i+1) l r q)) e2;refine⟨fun j h1 h2=>?_,fun j hj=>?_,fun id hc=>?_⟩
  ·rw[f1,f2,f3];by_cases hf:j=i
   ·subst hf;refine⟨s,eC l r,c,by rw[jy];rfl,?_,?_,zg ..⟩
    ·rw[a2 j (.inl om),gq]
    ·rw[(a3 (ρ j) (fun q hq hg e=>by have:=dG q j om om om om e;omega)).1,gq]
   ·obtain⟨sh,r',c',g0,g1,g2,g3⟩:=a1 j om om;exact⟨sh,r',c',by rw[show j-i=(j-(i+1))+1 by omega];exact g0,g1,g2,zf _ g3⟩
  ·rw[f1,a2 j om,nJ om]
  ·rw[f2,f3];obtain⟨b1,b2⟩:=a3 id (fun q h1 h2=>hc q om om);have he:id≠ρ i:=fun e=>hc i (zm _) om e.symm;exact⟨by rw[b1,nJ he],fun h=>by
    rcases zA.1 h with h|h
    ·exact he h
    ·exact b2 h⟩
section
variable {C:Cx} {X:Nat→Prop} {φ:Nat→Addr} {w:World} {s:Shape} {c:ak s.bQ} {sk:List Nat} {inv:Nat→Nat}
theorem zgl(hc:∀i j,dM sk i=dM sk j->i=j)(ts:List Nat)(s:Shape)(c:ak s.bQ):(∀j,j<s.ar.length->ObR (dM sk) (bB s c j) ((kH sk ts s c).obj (dM sk j)))/\(∀j,s.ar.length<=j->bB s c j=.none)/\(∀id,(∀j,j<s.ar.length->dM sk j≠id)->(kH sk ts s c).obj id=.none):=by
 obtain⟨a1,a2,a3⟩:=qjc (dM sk) cW s.ar 0 [] (gN eg cW s.roots (eC s.ar []) c).2 (fun _=>.none) (fun _=>.none) fun a b _ _ _ _=>hc a b;have e:(kH sk ts s c).obj=aj (fun _=>.none) (mX (dM sk) cW 0 s.ar [] (gN eg cW s.roots (eC s.ar []) c).2):=jd (fun q=>aj (fun _=>Obj.none) (mX (dM sk) cW 0 s.ar [] q)) (V8 (dM sk) cW eg cW s.roots (eC s.ar []) c);refine⟨fun j hj=>?_,fun j hj=>a2 j (.inr om),fun id he=>?_⟩
 ·rw[e];obtain⟨sh,r',c',_,g1,g2,_⟩:=a1 j (zC _) om;rw[g2,show bB s c j=_ from g1];exact zcc _ j sh r' c'
 simp_all
theorem qq1(ρ:Nat->Nat):∀(l:List fG) (i:Nat) (r:List Ty) (c:ak (eC l r)) (o:Nat->Obj),(∀j t v f s,o j=.vec t v f s->v=0)->∀j t v f s,aj o (mX ρ cW i l r c) j=.vec t v f s->v=0
 |[],i,r,c,o,h=>h
 |s::l,i,r,c,o,h=>by
  refine qq1 ρ l (i+1) r (nE ρ cW i s (eC l r) c).2 (dR o (ρ i) (nE ρ cW i s (eC l r) c).1) ?_;intro j t v f s' e;by_cases hj:j=ρ i
  ·subst hj;rw[gq] at e;cases s with
   |box l=>cases e
   |gone=>cases e
   |iter=>cases e
   |vec t=>injection e with _ e;exact e.symm
  ·rw[nJ hj] at e;exact h _ _ _ _ _ e
theorem qzu{s:Shape}{c:ak s.bQ}{v:Nat}{f:Bool}{x:Sl (den t)}(h:bB s c j=.vec t v f x):v=0:=qq1 eg s.ar 0 [] _ (fun _=>.none) (fun _ _ _ _ _ e=>by cases e) j t v f x h
theorem qq2(ρ κ:Nat->Nat):∀(l:List Sh) (r:List Ty) (c:ak (kW l r)),rj (gN ρ κ l r c).1=rj (gN eg cW l r c).1
 |[],_,_=>rfl
 |s::l,r,c=>by show rj ((nP ρ κ s (kW l r) c).1::_)=rj ((nP eg cW s (kW l r) c).1::_);cases s<;>rfl
theorem zmv(hf:∀j,inv (dM sk j)=j)(ts:List Nat)(hm:MRel C X φ (bB s c) w):MRel C X (fun id=>φ (inv id)) (kH sk ts s c).obj w/\(∀b,qd (fun id=>φ (inv id)) (kH sk ts s c).obj b↔qd φ (bB s c) b)/\(∀zs,cu φ (bB s c) (ag X φ (bB s c) w) w (fill eg cW s c).1 zs->cu (fun id=>φ (inv id)) (kH sk ts s c).obj (ag X (fun id=>φ (inv id)) (kH sk ts s c).obj w) w (fill (dM sk) cW s c).1 zs):=by
 obtain⟨a1,a2,a3⟩:=zgl (fun i j e=>by rw[<-hf i,<-hf j,e]) ts s c;generalize ho:(kH sk ts s c).obj=o at*
 have eZ:∀j,(fun id=>φ (inv id)) (dM sk j)=φ j:=fun j=>by simp only[hf]
 have ht:∀j a,j<s.ar.length->aV a (o (dM sk j))=aV a (bB s c j):=fun j a hj=>by
  rcases a1 j hj with ⟨l,r,q,e1,e2⟩|⟨e1,_⟩
  ·rw[e1,e2];rfl
  ·rw[e1]
 have hl:∀id,(∃j,j<s.ar.length/\dM sk j=id)\/o id=.none:=fun id=>by grind
 have hB:∀j a,aV a (bB s c j)=true->j<s.ar.length:=fun j a hx=>zF fun h=>by rw[a2 j om] at hx;exact nI hx
 have hu:∀b,qd (fun id=>φ (inv id)) o b↔qd φ (bB s c) b:=fun b=>by
  constructor
  ·rintro⟨id,e1,e2⟩;rcases hl id with ⟨j,hj,rfl⟩|h
   ·simp only[hf] at e1;exact⟨j,by rw[<-ht j _ hj];exact e1,by rw[<-eZ j];exact e2⟩
   ·rw[h] at e1;exact(nI e1).elim
  ·rintro⟨j,e1,e2⟩;exact⟨dM sk j,by simp only[hf];rw[ht j _ (hB j _ e1)];exact e1,by rw[eZ];exact e2⟩
 have hy:∀b,ag X φ (bB s c) w b↔ag X (fun id=>φ (inv id)) o w b:=fun b=>by unfold ag;rw[hu b]
 have hA:∀i,V9 (cW i) (bB s c i) (o (dM sk i)):=fun i=>by
  by_cases hi:i<s.ar.length
  ·rcases a1 i hi with ⟨l,r,q,e1,e2⟩|⟨e1,e2⟩
   ·rw[e1,e2];trivial
   ·rw[<-e1];cases hc:bB s c i with
    |vec t v f s'=>exact⟨qzu hc,by rw[qzu hc]⟩
    |box cs=>exact absurd hc (e2 _)
    |dead=>trivial
    |none=>trivial
    |iter l p=>trivial
  ·rw[a2 i om];trivial
 have hv:(fun b=>ag X φ (bB s c) w b)=ag X (fun id=>φ (inv id)) o w:=funext fun b=>propext (hy b);have hk:ag X φ (bB s c) w=ag X (fun id=>φ (inv id)) o w:=hv;refine⟨⟨fun id=>?_,fun i j hi hj e=>?_,fun i hi=>?_,hm.xs,fun id=>?_,fun g t x hg=>?_,hm.Oc⟩,hu,fun zs hz=>?_⟩
 ·rcases hl id with ⟨j,hj,rfl⟩|h
  ·have hq:=hm.ar j;rcases a1 j hj with ⟨l,r,q,e1,e2⟩|⟨e1,e2⟩
   ·rw[e1] at hq;rw[e2];obtain⟨h1,cz,el,lo,hw,h2,h3,h4⟩:=hq;refine⟨by rw[eZ];exact h1,cz,el,lo,hw,by rw[eZ];exact h2,h3,?_⟩;rw[hk] at h4;exact Wa (φ':=fun id=>φ (inv id)) hA (fun i _ _=>eZ i) l r q _ h4
   ·rw[<-e1];cases hc:bB s c j with
    |box cs=>exact absurd hc (e2 _)
    |dead=>trivial
    |none=>trivial
    |iter l p=>rw[hc] at hq;obtain⟨s',n,h1,h2⟩:=hq;exact⟨s',n,by rw[eZ];exact h1,h2⟩
    |vec t ver fr sl=>rw[hc] at hq;obtain⟨h1,h2,h3⟩:=hq;rw[hk] at h3;refine⟨h1,h2,fun hn=>?_⟩;rw[eZ];exact h3 hn
  ·rw[h];trivial
 ·rcases hl i with ⟨i',hw,rfl⟩|h
  ·rcases hl j with ⟨j',hC,rfl⟩|h
   ·have hr:∀j,inv (dM sk j)=j:=hf;simp only[hr] at e hi hj;rw[hm.inj i' j' (by rw[<-ht i' _ hw];exact hi) (by rw[<-ht j' _ hC];exact hj) e]
   ·rw[h] at hj;exact(nI hj).elim
  ·rw[h] at hi;exact(nI hi).elim
 ·rcases hl i with ⟨i',hw,rfl⟩|h
  ·have hr:∀j,inv (dM sk j)=j:=hf;simp only[hr] at hi ⊢;exact hm.sep i' (by rw[<-ht i' _ hw];exact hi)
  ·rw[h] at hi;exact(nI hi).elim
 ·rcases hl id with ⟨j,hj,rfl⟩|h
  ·have he:=hm.uA j;show iQ C w (φ (inv (dM sk j))) (o (dM sk j));rw[hf];rcases a1 j hj with ⟨l,r,q,e1,e2⟩|⟨e1,e2⟩
   ·rw[e1] at he;rw[e2];exact fun hs=>he (by rw[<-qq2 (dM sk) cW];exact hs)
   ·rw[<-e1];exact he
  ·rw[h];trivial
 ·obtain⟨a,cs,h1,h2,h3,h4,h5⟩:=hm.fT g t x hg;rw[hk] at h3 h4;exact⟨a,cs,h1,h2,h3,h4,h5⟩
 ·rw[hk] at hz;exact Wa (φ':=fun id=>φ (inv id)) hA (fun i _ _=>eZ i) s.roots _ _ _ hz
theorem z6b{imm:Nat->Prop}{g:Nat->Value}:∀(ts:List Nat) (vs:List V),cu φ o imm w vs (ts.map g)->∀t,au φ o imm w (z58 ts vs t) (g t)
 |[],_,_,_=>by cases ‹List V›<;>trivial
 |t'::ts,vs,h,t=>by
  cases vs with
  |nil=>trivial
  |cons v vs=>
   obtain⟨z,r,e,h1,h2⟩:=h;injection e with e1 e2;show au φ o imm w (dR (z58 ts vs) t' v t) (g t);by_cases ht:t=t'
   ·subst ht;rw[gq,e1];exact h1
   ·rw[nJ ht];exact z6b ts vs (e2▸h2) t
end
structure eU (sk:List Nat) (fi:Nat->Addr) (o0:Nat->Obj) (w0:World) (φ:Nat->Addr) (o:Nat->Obj) (w:World):Prop where
 size:w0.heap.size<=w.heap.size
 frame:∀b,b<w0.heap.size->¬qd fi o0 b->w.heap[b]?=w0.heap[b]?
 news:∀b,qd φ o b->w0.heap.size<=b\/qd fi o0 b
 still:Bu w0 w
 up:∀id,id∈sk->Up w0 w (fi id) (φ id) (o0 id) (o id)
theorem eU.refl(sk:List Nat)(fi:Nat->Addr)(o0:Nat->Obj)(w0:World):eU sk fi o0 w0 fi o0 w0:=⟨zm _,fun _ _ _=>rfl,fun _ h=>.inr h,⟨rfl,rfl⟩,fun _ _=>Up.same fun _ _ h=>h⟩
theorem eU.step{C:Cx}{φ':Nat->Addr}{w':World}(h:eU sk fi o0 w0 φ o w)(hc:Comes C X φ φ' o u w w' v z):eU sk fi o0 w0 φ' (aj o u) w':=by
 refine⟨je h.size hc.size,fun b hb hn=>?_,fun b ⟨id,e1,e2⟩=>?_,⟨hc.still.1.trans h.still.1,hc.still.2.trans h.still.2⟩,fun id hi=>(h.up id hi).trans (hc.up id)⟩
 ·rw[hc.frame b (jo hb h.size),h.frame b hb hn];rintro⟨id,_,e1,e2⟩;rcases h.news b ⟨id,e1,e2⟩ with h1|h1
  ·omega
  ·exact hn h1
 ·rcases hc.news id e1 with h1|h1
  ·exact .inl (by have:=h.size;omega)
  ·rw[e2] at h1;exact h.news b h1
theorem Qm{C:Cx}{nt:Nat}{st:St}{a:Act}(hj:mj sk)(h:Rel C nt X φ st a w)(hh:eU sk fi o0 w0 φ st.obj w){s:Shape}{ts:List Nat}{c:ak s.bQ}(hp:Ik lf sk (uT 0 sk) st.obj s (ts.map fun t=>eI (st.env t))=some (ps,c)):∃fF X2,(∀b,X b->X2 b)/\Rel C nt X2 fF (kH sk ts s c) a w/\eU sk fi o0 w0 fF (kH sk ts s c).obj w:=by
 obtain⟨hk,hm,he⟩:=qq0 hp;clear hp;have hp:=hk;clear hk;have hf:=hj.inj;obtain⟨inv,hc⟩:=hj;have hv:cu φ st.obj (ag X φ st.obj w) w (ts.map fun t=>eI (st.env t)) (ts.map fun t=>a.tmps.getD t undef):=by
  clear hp
  induction ts with
  |nil=>rfl
  |cons t ts ih=>exact⟨_,_,rfl,PO (h.env t),ih⟩
 obtain⟨h1,h2⟩:=qxi h.toMRel hp hv;obtain⟨hg,_⟩:=Ql hp;obtain⟨g1,g2,g3⟩:=zmv hc ts h1;refine⟨_,_,fun b hb=>.inl hb,⟨g1,h.size,fun t=>?_,h.defers⟩,⟨hh.size,hh.frame,fun b hb=>hh.news b (hg.nX ((g2 b).1 hb)),hh.still,fun id hi=>(hh.up id hi).trans ?_⟩⟩
 ·exact z6b ts _ (g3 _ h2) t
 ·obtain⟨i,hn,hq⟩:=List.mem_iff_getElem.1 hi;have hl:sk[i]?=some id:=by rw[zh hn,hq]
  have e:dM sk i=id:=by unfold dM;rw[hl]
  have hr:(i,id)∈ps.aR:=qzt hp _ (by have:=quh (n:=0) hl;rwa [zW] at this);have hu:=z69 (φ:=φ) (w:=w) hg hr (qn1 hm id hi) (qjb he id hi);have eZ:gf φ ps (inv id)=gf φ ps i:=by rw[<-e,hc]
  obtain⟨a1,_⟩:=zgl hf ts s c;have ha:=a1 i (hg.aR hr).1;rw[e] at ha;show Up w w (φ id) (gf φ ps (inv id)) (st.obj id) _;rw[eZ];rcases ha with ⟨l,r,q,e1,e2⟩|⟨e1,_⟩
  ·rw[e2];rw[e1] at hu;cases ho:st.obj id<;>rw[ho] at hu<;>exact hu
  ·rw[<-e1];exact hu
end Ev