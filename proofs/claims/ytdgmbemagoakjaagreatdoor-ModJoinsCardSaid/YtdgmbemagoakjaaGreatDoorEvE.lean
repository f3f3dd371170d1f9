/- All operations are sound; the frame rule; packing. No statement of its own about the program. -/
import Derived.Test.YtdgmbemagoakjaaGreatDoorEvD
namespace Ev
open Go
section
variable {C:Cx} {X:Nat→Prop} {φ:Nat→Addr} {o:Nat→Obj} {w:World} {imm:Nat→Prop} {R:gY C.sigs} {env:Nat→V} {ρ:Operand→Value}
def dB(C:Cx)(X:Nat->Prop)(φ:Nat->Addr)(o:Nat->Obj)(w:World)(v:V)(u:List (Nat×Obj))(r:Result Next):Prop:=
 (∃val w' φ',r=.ok (.value val) w'/\Comes C X φ φ' o u w w' v val)\/
 (∃w' φ',r=.ok .skip w'/\Comes C X φ φ' o u w w' v undef)\/
 (∃f args,r=.ok (.enter f args) w/\Calls C.P f args w fun e w'=>∃val φ',e=.returned val/\Comes C X φ φ' o u w w' v val)
theorem dB.upon{v:V}{u:List (Nat×Obj)}{r:Result Next}(h:dB C X φ o w v u r){op:Oper}{a:Act}{next:Act->World->Prop}{Q:Exit->Act->World->Prop}(hn:∀val w' φ',Comes C X φ φ' o u w w' v val->next (a.put op.dst val) w'):op.upon C.P a next Q r:=by
 rcases h with ⟨val,w',φ',rfl,hc⟩|⟨w',φ',rfl,hc⟩|⟨f,args,rfl,hc⟩
 ·exact hn _ _ _ hc
 ·exact hn _ _ _ hc
 ·refine Calls.mono hc fun e w' h=>?_;obtain⟨val,φ',rfl,h⟩:=h;exact hn _ _ _ h
theorem bZ.bW{v:V}{u:List (Nat×Obj)}{s:Sem Value}(h:bZ C X φ o w v u s):dB C X φ o w v u ((do pure (Next.value (<-s)):Sem Next).run C.P w):=by obtain⟨val,w',φ',h1,h2⟩:=h;exact .inl ⟨val,w',φ',by simp[h1],h2⟩
theorem xu.bW{v:V}{u:List (Nat×Obj)}{s:Sem Unit}(h:xu C X φ o w v u s):dB C X φ o w v u ((do s;pure Next.skip:Sem Next).run C.P w):=by obtain⟨w',φ',h1,h2⟩:=h;exact .inr (.inl ⟨w',φ',by simp[h1],h2⟩)
theorem dB.same(hm:MRel C X φ o w){v:V}{z:Value}(h:av φ o (ah X φ o w) w v z):dB C X φ o w v [] (.ok (.value z) w):=.inl ⟨z,w,φ,rfl,.same hm h⟩
theorem qpa{op:BinOp}{t:TypeId}{x y:V}{zx zy:Value}{v:V}{u:List (Nat×Obj)}(hl:∀id,oC φ o imm w id (o id))(hx:av φ o imm w x zx)(hy:av φ o imm w y zy)(h:(L5 lf C o op t x y).aG v u):qlo zx=true\/(bI t C.eqs=true/\∃xs ys,zx=.agg xs/\zy=.agg ys):=by
 unfold L5 at h;split at h
 ·obtain⟨rfl,_⟩:=kI hx;exact .inl rfl
 ·obtain⟨s,rfl,_⟩:=nz hx;exact .inl rfl
 ·have:=NP hx;subst this;exact .inl rfl
 ·have:=Ml hx;subst this;exact .inl rfl
 ·have:=oE hx;subst this;exact .inl rfl
 ·split at h
  ·rw[df,zd] at h;obtain⟨xs,rfl,_⟩:=hx;obtain⟨ys,rfl,_⟩:=hy;exact .inr ⟨h.1.1,xs,ys,rfl,rfl⟩
  ·cases h
 ·obtain⟨_,h2⟩:=GI hx;rcases h2 with ⟨_,_,rfl⟩|⟨_,a,cap,ec,rfl,_⟩<;>exact .inl rfl
 ·have:zx=.slice none 0 0:=hx;subst this;exact .inl rfl
 ·obtain⟨c,rfl,_⟩:=hx;exact .inl rfl
 ·have:zx=.nilFunc:=hx;subst this;exact .inl rfl
 ·rename_i a k n;have hx:uF imm w a k n zx:=hx;rcases R9 a hx with ⟨rfl,_⟩|⟨_,_,rfl,_⟩<;>exact .inl rfl
 ·have:zx=.pointer none:=hx;subst this;exact .inl rfl
 ·rw[df,zd] at h;obtain⟨a,rfl⟩:=Vv hx h.1.2;exact .inl rfl
 ·split at h
  ·rename_i e s he;rcases qid hx he hl with ⟨_,_,rfl⟩|⟨_,a,cap,rfl⟩<;>exact .inl rfl
  ·cases h
 ·cases h
theorem z0x(hE:ka C)(hm:MRel C X φ o w){op:BinOp}{t:TypeId}{x y:Operand}{vx vy:V}{v:V}{u:List (Nat×Obj)}(hx:av φ o (ah X φ o w) w vx (ρ x))(hy:av φ o (ah X φ o w) w vy (ρ y))(h:(L5 lf C o op t vx vy).aG v u):bZ C X φ o w v u (do eqGuard op t x y (ρ x) (ρ y);binOp op t (ρ x) (ρ y)):=by
 have h1:=z0o hm.aw hx hy (fun t p a b xs ys=>hE.eq w _ t p a b xs ys) h;obtain⟨hu,val,h2,h3⟩:=h1;refine bZ.aY hm ⟨hu,val,?_,h3⟩;rcases qpa hm.aw hx hy h with hg|⟨hg,xs,ys,e1,e2⟩
 ·simp[qox hg,h2]
 ·rw[e1,e2] at h2 ⊢;simp[run_eqGuard_agg w op t x y xs ys (hE.guard t hg),h2]
theorem Oa(cA:∀x,av φ o imm w (cm C env x) (ρ x)):∀(l:List Operand),bV φ o imm w (l.map (cm C env)) (l.map ρ)
 |[]=>rfl
 |x::l=>⟨_,_,rfl,cA x,Oa cA l⟩
theorem V1(cA:∀x,av φ o imm w (cm C env x) (ρ x)):∀(l:List (Nat×Operand)),B6 φ o imm w (l.map fun p=>(p.1,cm C env p.2)) (l.map fun p=>(p.1,ρ p.2))
 |[]=>rfl
 |x::l=>⟨_,_,rfl,cA x.2,V1 cA l⟩
theorem V3(cA:∀x,av φ o imm w (cm C env x) (ρ x))(x:Option Operand):xp φ o imm w (x.map (cm C env)) (x.map ρ):=by
 cases x with
 |none=>trivial
 |some x=>exact cA x
theorem qmb{xs:Array Operand}{ρ:Operand->Value}{l:List Operand}(h:xs.toList=l):xs.map ρ=(l.map ρ).toArray:=by rw[<-h,<-Array.toList_map,Array.toArray_toList]
def C1(C:Cx)(R:gY C.sigs)(X:Nat->Prop)(φ:Nat->Addr)(o:Nat->Obj)(w:World)(fr f:Nat):Prop:=
 ∀(vs:List V) (zs:List Value) (v:V) (u:List (Nat×Obj)),bV φ o (ah X φ o w) w vs zs->(BW lf C R o fr f vs C.sigs 0).aG v u->j9 fr o u->
  (∃fn,C.P.funcs[f]?=some fn/\(fn.name== "runtime.NumGoroutine")=false/\fn.body.isNone=false)/\
  Calls C.P f zs.toArray w fun e w'=>∃val φ',e=.returned val/\Comes C X φ φ' o u w w' v val
theorem z8s(hm:MRel C X φ o w)(cA:∀x,av φ o (ah X φ o w) w (cm C env x) (ρ x)){fr:Nat}{ty:TypeId}{v:V}{u:List (Nat×Obj)}(x:Operand)(h:(Nw C fr ty (cm C env x)).aG v u)(hf:j9 fr o u):dB C X φ o w v u (.ok (.value (ρ x)) w):=by
 have hx:=cA x;unfold Nw at h;split at h
 ·rename_i e1;rw[e1] at hx;split at h
  ·rename_i e _;rw[cY] at h;obtain⟨rfl,rfl⟩:=h;have hc:o fr=.none:=hf _ (zj ..) (Nat.le_refl _) (by show fr<fr+16;omega);refine .inl ⟨_,w,φ,rfl,Comes.write hm (.vec e 0 false ⟨true,[]⟩) (by simp[aV,live]) rfl (fun _ _=>rfl) (Mr hc _) (fun _ _ _=>⟨Nat.zero_le _,fun _=>rfl,fun h=>by simp at h⟩) (fun _ h=>by simp at h) (fun hd=>?_)⟩;unfold av;rw[hd];exact⟨Nat.le_refl _,fun _=>.inl ⟨rfl,hx⟩⟩
  ·rw[cY] at h;obtain⟨rfl,rfl⟩:=h;exact .same hm hx
 ·rw[cY] at h;obtain⟨rfl,rfl⟩:=h;exact .same hm hx
theorem z5w(hm:MRel C X φ o w)(cA:∀x,av φ o (ah X φ o w) w (cm C env x) (ρ x)){v:V}{u:List (Nat×Obj)}{c a b:Operand}{dst:Option Tmp}{ty:TypeId}{pos:String}{after:Array Edge}{guard:Option (Nat×Bool)}{fr:Nat}(h:(cL lf C R env o fr ty (.pick c a b)).aG v u):dB C X φ o w v u ((execOp ρ ⟨dst,.pick c a b,ty,pos,after,guard⟩).run C.P w):=by
 have hc:=cA c;have key:∀x,(CL C env c=.lb x\/CL C env c=.d .bool x)->cm C env c=.d .bool x:=by
  intro x h;cases c with
  |tmp t=>show dx (env t)=_;have h:env t=.lb x\/env t=.d .bool x:=h;rcases h with h|h<;>rw[h]<;>rfl
  |const z=>
   rcases h with h|h
   ·exfalso;have h:Gz z=.lb x:=h;have hn:∀(b:Bool) (y:V),(∀x,y≠.lb x)->(bif b then y else V.cX)≠.lb x:=by
     intro b y hy;cases b
     ·intro h;cases h
     ·exact hy x
    unfold Gz at h;split at h<;>first|exact hn _ _ (fun _ h=>by cases h) h|cases h
   ·exact h
  |global g=>
   rcases h with h|h
   ·exfalso;have h:cm C env (.global g)=.lb x:=h;simp only[cm] at h;split at h<;>cases h
   ·exact h
  |func f=>
   rcases h with h|h
   ·have h:(bif Nat.blt f 1048576 then V.fn f [] else .cX)=.lb x:=h;cases hb:Nat.blt f 1048576<;>rw[hb] at h<;>cases h
   ·have h:(bif Nat.blt f 1048576 then V.fn f [] else .cX)=.d .bool x:=h;cases hb:Nat.blt f 1048576<;>rw[hb] at h<;>cases h
 simp only[cL] at h;split at h
 ·rename_i x e;rw[cY] at h;obtain⟨rfl,rfl⟩:=h;rw[key x (.inl e)] at hc;have hc:=oE hc;simp only[execOp,hc,asBool];cases x
  ·exact .same hm (cA b)
  ·exact .same hm (cA a)
 ·rename_i x e;rw[cY] at h;obtain⟨rfl,rfl⟩:=h;rw[key x (.inr e)] at hc;have hc:=oE hc;simp only[execOp,hc,asBool];exact .same hm (z0s (cA a) (cA b))
 ·cases h
theorem z5x(hm:MRel C X φ o w)(cA:∀x,av φ o (ah X φ o w) w (cm C env x) (ρ x)){v:V}{u:List (Nat×Obj)}{op:UnOp}{t:TypeId}{x:Operand}{dst:Option Tmp}{ty:TypeId}{pos:String}{after:Array Edge}{guard:Option (Nat×Bool)}{fr:Nat}(h:(cL lf C R env o fr ty (.unOp op t x)).aG v u):dB C X φ o w v u ((execOp ρ ⟨dst,.unOp op t x,ty,pos,after,guard⟩).run C.P w):=by
 have hx:=cA x;cases op with
 |xor=>
  simp only[cL] at h;split at h
  ·rename_i k n e;rw[e] at hx;rw[cY] at h;obtain⟨rfl,rfl⟩:=h;obtain⟨hz,_⟩:=kI hx;simp only[execOp,hz];have e1:H0 k=if k.signed then -1 else k.max:=by cases k<;>decide
   exact(bZ.aY hm ⟨rfl,.int k (lf.nn k (H0 k) n),by rw[e1];simp[Op.unary,Op.intBits,lf,nn,pure],kz (Mm _ _)⟩).bW
  ·cases h
 |plus=>exact False.elim h
 |neg=>
  simp only[cL] at h;split at h
  ·rename_i k n e;rw[e] at hx;rw[cY] at h;obtain⟨rfl,rfl⟩:=h;obtain⟨hz,_⟩:=kI hx;simp only[execOp,hz];exact(bZ.aY hm ⟨rfl,.int k (k.wrap (0-n)),by simp[Op.unary,Op.intArith],kz (Mm _ _)⟩).bW
  ·cases h
 |not=>
  simp only[cL] at h;split at h
  ·rename_i b e;rw[e] at hx;rw[cY] at h;obtain⟨rfl,rfl⟩:=h;have hz:=oE hx;simp only[execOp,hz];exact(bZ.aY hm ⟨rfl,.bool (!b),by simp[Op.unary],BZ⟩).bW
  ·cases h
theorem qpb(hm:MRel C X φ o w)(cA:∀x,av φ o (ah X φ o w) w (cm C env x) (ρ x)){v:V}{u:List (Nat×Obj)}{fn:Fn}{first caps:Array Operand}{dst:Option Tmp}{ty:TypeId}{pos:String}{after:Array Edge}{guard:Option (Nat×Bool)}{fr:Nat}(h:(cL lf C R env o fr ty (.makeFunc fn first caps)).aG v u):dB C X φ o w v u ((execOp ρ ⟨dst,.makeFunc fn first caps,ty,pos,after,guard⟩).run C.P w):=by
 cases fn<;>try exact False.elim h
 rename_i f;simp only[cL] at h;cases hb:Nat.blt f 1048576 with
 |false=>rw[hb] at h;exact False.elim h
 |true=>
  rw[hb] at h;have h:(Pk.now (.fn (f+1048576*first.toList.length) (first.toList.map (cm C env)++caps.toList.map (cm C env)))).aG v u:=h;rw[cY] at h;obtain⟨rfl,rfl⟩:=h;have hc:f<1048576:=zF hb;have e1:(f+1048576*first.toList.length) % 1048576=f:=by rw[Nat.add_mul_mod_self_left];exact Nat.mod_eq_of_lt hc
  have e2:(f+1048576*first.toList.length) / 1048576=first.toList.length:=by rw[Nat.add_mul_div_left _ _ dc,Nat.div_eq_of_lt hc,zO]
  have hl:(first.toList.map ρ).length=first.toList.length:=zA _;simp only[execOp,Instr.makeFunc];have hv:av φ o (ah X φ o w) w (.fn (f+1048576*first.toList.length) (first.toList.map (cm C env)++caps.toList.map (cm C env))) (.func (.func f) (first.map ρ) (caps.map ρ)):=by
   refine⟨(first.toList.map ρ++caps.toList.map ρ).toArray,?_,?_⟩
   ·unfold NK;rw[e1,e2];have t1:((first.toList.map ρ++caps.toList.map ρ).take first.toList.length).toArray=first.map ρ:=by rw[<-hl,List.take_left];apply Array.toList_inj.1;simp
    have t2:((first.toList.map ρ++caps.toList.map ρ).drop first.toList.length).toArray=caps.map ρ:=by rw[<-hl,List.drop_left];apply Array.toList_inj.1;simp
    show _=Value.func (.func f) ((first.toList.map ρ++caps.toList.map ρ).take first.toList.length).toArray ((first.toList.map ρ++caps.toList.map ρ).drop first.toList.length).toArray;rw[t1,t2]
   ·exact GR (Oa cA _) (Oa cA _)
  exact(bZ.aY (s:=pure (.func (.func f) (first.map ρ) (caps.map ρ))) hm ⟨rfl,_,rfl,hv⟩).bW
theorem qtg(hm:MRel C X φ o w)(cA:∀x,av φ o (ah X φ o w) w (cm C env x) (ρ x)){v:V}{u:List (Nat×Obj)}{x:Operand}{i:Nat}{dst:Option Tmp}{ty:TypeId}{pos:String}{after:Array Edge}{guard:Option (Nat×Bool)}{fr:Nat}(h:(cL lf C R env o fr ty (.extract x i)).aG v u):dB C X φ o w v u ((execOp ρ ⟨dst,.extract x i,ty,pos,after,guard⟩).run C.P w):=by exact(z0w hm (cA x) h).bW
theorem z5y(hm:MRel C X φ o w)(cA:∀x,av φ o (ah X φ o w) w (cm C env x) (ρ x)){v:V}{u:List (Nat×Obj)}{x:Operand}{b:Bool}{dst:Option Tmp}{ty:TypeId}{pos:String}{after:Array Edge}{guard:Option (Nat×Bool)}{fr:Nat}(h:(cL lf C R env o fr ty (.next x b)).aG v u):dB C X φ o w v u ((execOp ρ ⟨dst,.next x b,ty,pos,after,guard⟩).run C.P w):=by
 cases b with
 |false=>exact False.elim h
 |true=>exact(qwe hm (cA x) h).bW
theorem qg1{fr:Nat}{n:Int}{vs:List V}{z:Value}{b:Bool}:∀(a:List (Nat×Bool)) (i:Nat) (k:Int),NA lf C R o fr (k+(i:Int)) n vs a i=some (some b)->uF imm w a k n z->∃f caps GS,z=.func (.func f) #[] GS/\bV φ o imm w caps GS.toList/\(BW lf C R o fr f (vs++caps) C.sigs 0).aG (.d .bool b) []
 |[],_,_,h,_=>by cases h
 |(f,c)::r,i,k,h,hr=>by
  unfold NA at h;split at h
  ·rename_i x hx;split at h
   ·rename_i y hy;injection h with h;rcases hr with ⟨rfl,h2⟩|⟨h1,h2⟩
    ·have he:lf.e (0+(i:Int)) (Int.ofNat i)=true:=by show((0+(i:Int))==Int.ofNat i)=true;simp
     rw[he] at h;have h:x=some b:=h;subst h;have gv:(BW lf C R o fr f (vs++bif c then [.ref (.int .i64) n] else []) C.sigs 0).aG (.d .bool b) []:=by
      revert hx;generalize BW lf C R o fr f (vs++bif c then [.ref (.int .i64) n] else []) C.sigs 0=p;intro hx;cases p with
      |fail=>cases hx
      |kG v u=>cases hx
      |dyn α x' out=>
       injection hx with hx;cases x' with
       |none=>cases hx
       |some q=>
        have hx:(match out q with|(.d .bool b,[])=>some b|_=>none)=some b:=hx;split at hx
        ·rename_i b' eo;injection hx with hx;subst hx;exact⟨q,rfl,eo⟩
        ·cases hx
     cases c with
     |false=>exact⟨f,[],#[],h2,rfl,gv⟩
     |true=>obtain⟨p,h3,h4⟩:=h2;exact⟨f,[.ref (.int .i64) n],#[p],h3,⟨p,[],rfl,h4,rfl⟩,gv⟩
    ·have he:lf.e (k+(i:Int)) (Int.ofNat i)=false:=by
      show((k+(i:Int))==Int.ofNat i)=false;have:k+(i:Int)≠Int.ofNat i:=by show k+(i:Int)≠(i:Int);omega
      exact beq_false_of_ne this
     rw[he] at h;have h:y=some b:=h;subst h;refine qg1 r (i+1) (k-1) ?_ h2;have:k-1+((i+1:Nat):Int)=k+(i:Int):=om
     rw[this];exact hy
   ·cases h
  ·cases h
theorem z0y(cA:∀x,av φ o (ah X φ o w) w (cm C env x) (ρ x)){v:V}{u:List (Nat×Obj)}{f:Operand}{args:Array Operand}{uG:Array TypeId}{dst:Option Tmp}{ty:TypeId}{pos:String}{after:Array Edge}{guard:Option (Nat×Bool)}{fr:Nat}(hd:∀f,C1 C R X φ o w fr f)(h:(cL lf C R env o fr ty (.call ⟨.value f,args,uG⟩)).aG v u)(hf:j9 fr o u):dB C X φ o w v u ((execOp ρ ⟨dst,.call ⟨.value f,args,uG⟩,ty,pos,after,guard⟩).run C.P w):=by
 have hx:=cA f;simp only[cL] at h;split at h
 ·rename_i rk caps e;rw[e] at hx;obtain⟨cz,hz,hr⟩:=hx;have hc:bV φ o (ah X φ o w) w (caps.take (rk / 1048576)++(args.toList.map (cm C env)++caps.drop (rk / 1048576))) (cz.toList.take (rk / 1048576)++((args.map ρ).toList++cz.toList.drop (rk / 1048576))):=by rw[Array.toList_map];exact GR (N1 _ hr) (GR (Oa cA _) (N0 _ hr))
  obtain⟨⟨fn,g1,g2,g3⟩,g4⟩:=hd (rk % 1048576) _ _ v u hc h hf;refine .inr (.inr ⟨rk % 1048576,(cz.toList.take (rk / 1048576)++((args.map ρ).toList++cz.toList.drop (rk / 1048576))).toArray,?_,g4⟩);have e2:(cz.toList.take (rk / 1048576)++((args.map ρ).toList++cz.toList.drop (rk / 1048576))).toArray=(cz.toList.take (rk / 1048576)).toArray++args.map ρ++(cz.toList.drop (rk / 1048576)).toArray:=by apply Array.toList_inj.1;simp
  rw[e2];have N4:¬fn.name= "runtime.NumGoroutine":=by simpa using g2
  have V4:fn.body≠none:=by intro e;rw[e] at g3;cases g3
  unfold NK at hz;simp[execOp,resolve,hz,Deferred.ofValue,invoke,callFunc,g1,N4,V4]
 ·rename_i a k n e;rw[e] at hx;split at h
  ·rename_i x he;obtain⟨b,hb,ho⟩:=h;subst hb;injection ho with hg hj;subst hg hj;have he:NA lf C R o fr (k+((0:Nat):Int)) n (args.toList.map (cm C env)) a 0=some (some b):=by
    have:k+((0:Nat):Int)=k:=om
    rw[this];exact he
   obtain⟨rk,caps,cz,hz,hr,h⟩:=qg1 (φ:=φ) (imm:=ah X φ o w) (w:=w) a 0 k he hx;have hc:bV φ o (ah X φ o w) w (args.toList.map (cm C env)++caps) ((args.map ρ).toList++cz.toList):=by rw[Array.toList_map];exact GR (Oa cA _) hr
   obtain⟨⟨fn,g1,g2,g3⟩,g4⟩:=hd rk _ _ _ _ hc h hf;refine .inr (.inr ⟨rk,((args.map ρ).toList++cz.toList).toArray,?_,g4⟩);have e2:((args.map ρ).toList++cz.toList).toArray=args.map ρ++cz:=by apply Array.toList_inj.1;simp
   rw[e2];have N4:¬fn.name= "runtime.NumGoroutine":=by simpa using g2
   have V4:fn.body≠none:=by intro e;rw[e] at g3;cases g3
   simp[execOp,resolve,hz,Deferred.ofValue,invoke,callFunc,g1,N4,V4]
  ·exact False.elim h
 ·cases h
theorem qmc{k:IntKind}{a b:Int}(ha:fO k a)(hb:fO k b):fO k (iN a b)/\fO k (ib a b):=by unfold iN ib;constructor<;>split<;>assumption
theorem qth(hC:cu C)(hm:MRel C X φ o w)(cA:∀x,av φ o (ah X φ o w) w (cm C env x) (ρ x)){v:V}{u:List (Nat×Obj)}{b:Builtin}{args:Array Operand}{uG:Array TypeId}{dst:Option Tmp}{ty:TypeId}{pos:String}{after:Array Edge}{guard:Option (Nat×Bool)}{fr:Nat}(h:(cL lf C R env o fr ty (.call ⟨.builtin b,args,uG⟩)).aG v u)(hf:j9 fr o u):dB C X φ o w v u ((execOp ρ ⟨dst,.call ⟨.builtin b,args,uG⟩,ty,pos,after,guard⟩).run C.P w):=by
 have mR:∀{x y:V},args.toList.map (cm C env)=[x,y]->∃zx zy,args.map ρ=#[zx,zy]/\av φ o (ah X φ o w) w x zx/\av φ o (ah X φ o w) w y zy:=by
  intro x y e
  match hl:args.toList,e with
  |[a,b],e=>simp only[zI,List.map_nil,List.cons.injEq,and_true] at e;obtain⟨rfl,rfl⟩:=e;exact⟨ρ a,ρ b,qmb hl,cA a,cA b⟩
 have tC:∀{x:V},args.toList.map (cm C env)=[x]->∃zx,args.map ρ=#[zx]/\av φ o (ah X φ o w) w x zx:=by
  intro x e
  match hl:args.toList,e with
  |[a],e=>simp only[zI,List.map_nil,List.cons.injEq,and_true] at e;subst e;exact⟨ρ a,qmb hl,cA a⟩
 have aU:∀{l:List TypeId},uG.toList=l->uG=l.toArray:=fun e=>by rw[<-e,Array.toArray_toList]
 simp only[cL,qlh] at h;split at h
 ·rename_i t ts x e1 e2;obtain⟨zx,h1,h2⟩:=tC e2;have:=(bZ.aY hm (z0q (ts:=ts) (ty:=ty) hm h2 h)).bW;rw[<-aU e1] at this;simpa[execOp,resolve,invoke,builtin,h1] using this
 ·rename_i t u' ts x y e1 e2;obtain⟨zx,zy,h1,h2,h3⟩:=mR e2;have:=(qp4 (ts:=ts) (ty:=ty) hC hm h2 h3 h hf).bW;rw[<-aU e1] at this;simpa[execOp,resolve,invoke,builtin,h1] using this
 ·rename_i t ts x y e1 e2;obtain⟨zx,zy,h1,h2,h3⟩:=mR e2;have:=(qw6 (ts:=ts) (ty:=ty) hC hm h2 h3 h).bW;rw[<-aU e1] at this;simpa[execOp,resolve,invoke,builtin,h1] using this
 ·rename_i t ts x e1 e2;obtain⟨zx,h1,h2⟩:=tC e2;have:=(qtd (ts:=ts) (ty:=ty) hC hm h2 h).bW;rw[<-aU e1] at this;simpa[execOp,resolve,invoke,builtin,h1] using this
 ·rename_i t ts x y e1 e2;obtain⟨zx,zy,h1,h2,h3⟩:=mR e2;have:=(qp9 (ts:=ts) (ty:=ty) hC hm h2 h3 h).bW;rw[<-aU e1] at this;simpa[execOp,resolve,invoke,builtin,h1] using this
 ·rename_i k a k' b e2;obtain⟨zx,zy,h1,h2,h3⟩:=mR e2;obtain⟨rfl,i1⟩:=kI h2;obtain⟨rfl,i2⟩:=kI h3;rw[df,cY] at h;obtain⟨hk,rfl,rfl⟩:=h;have:=NR hk;subst this;have:dB C X φ o w (.d (.int k) (lf.iN a b)) [] _:=(bZ.aY (s:=Builtin.min_ uG ty #[.int k a,.int k b]) hm ⟨rfl,.int k (iN a b),by simp[Builtin.min_,Builtin.min2,iN],kz (qmc i1 i2).1⟩).bW;simpa[execOp,resolve,invoke,builtin,h1] using this
 ·rename_i k a k' b e2;obtain⟨zx,zy,h1,h2,h3⟩:=mR e2;obtain⟨rfl,i1⟩:=kI h2;obtain⟨rfl,i2⟩:=kI h3;rw[df,cY] at h;obtain⟨hk,rfl,rfl⟩:=h;have:=NR hk;subst this;have:dB C X φ o w (.d (.int k) (lf.ib a b)) [] _:=(bZ.aY (s:=Builtin.max_ uG ty #[.int k a,.int k b]) hm ⟨rfl,.int k (ib a b),by simp[Builtin.max_,Builtin.max2,ib],kz (qmc i1 i2).2⟩).bW;simpa[execOp,resolve,invoke,builtin,h1] using this
 ·rename_i a b e2;obtain⟨zx,zy,h1,h2,h3⟩:=mR e2;have g1:=NP h2;have g2:=NP h3;subst g1 g2;rw[cY] at h;obtain⟨rfl,rfl⟩:=h;have:dB C X φ o w (.d .cJ ((a:Nat),(b:Nat))) [] _:=(bZ.aY (s:=Builtin.complex_ uG ty #[.float .f64 a,.float .f64 b]) hm ⟨rfl,.complex .f64 a b,rfl,Vp (b:=(a,b))⟩).bW;simpa[execOp,resolve,invoke,builtin,h1] using this
 ·rename_i a e2;obtain⟨zx,h1,h2⟩:=tC e2;have g1:=Ml h2;subst g1;rw[cY] at h;obtain⟨rfl,rfl⟩:=h;have:dB C X φ o w (.d .ej (Prod.fst (α:=Nat) (β:=Nat) a)) [] _:=(bZ.aY (s:=Builtin.real_ uG ty #[.complex .f64 (Prod.fst (α:=Nat) (β:=Nat) a) (Prod.snd (α:=Nat) (β:=Nat) a)]) hm ⟨rfl,.float .f64 _,rfl,Sa⟩).bW;simpa[execOp,resolve,invoke,builtin,h1] using this
 ·rename_i a e2;obtain⟨zx,h1,h2⟩:=tC e2;have g1:=Ml h2;subst g1;rw[cY] at h;obtain⟨rfl,rfl⟩:=h;have:dB C X φ o w (.d .ej (Prod.snd (α:=Nat) (β:=Nat) a)) [] _:=(bZ.aY (s:=Builtin.imag_ uG ty #[.complex .f64 (Prod.fst (α:=Nat) (β:=Nat) a) (Prod.snd (α:=Nat) (β:=Nat) a)]) hm ⟨rfl,.float .f64 _,rfl,Sa⟩).bW;simpa[execOp,resolve,invoke,builtin,h1] using this
 ·cases h
set_option maxHeartbeats 4000000 in
theorem V5(hC:cu C)(hE:ka C)(hm:MRel C X φ o w)(cA:∀x,av φ o (ah X φ o w) w (cm C env x) (ρ x)){op:Oper}{fr:Nat}(hc:∀f,C1 C R X φ o w fr f){v:V}{u:List (Nat×Obj)}(h:(cL lf C R env o fr op.type op.op).aG v u)(hf:j9 fr o u):dB C X φ o w v u ((execOp ρ op).run C.P w):=by
 obtain⟨dst,op,ty,pos,after,guard⟩:=op;cases op
 case move x=>exact z8s hm cA x h hf
 case assign x=>exact z8s hm cA x h hf
 case pick c a b=>exact z5w hm cA h
 case alloc e=>exact(qta hC hm h hf _).bW
 case box e x=>exact(z0u hm (cA x) h hf).bW
 case build t ps=>refine(qw2 (fun v u h=>qtb (zparts:=ps.map fun p=>(p.1,ρ p.2)) hC hm ?_ h) h hf).bW;rw[Array.toList_map];exact V1 cA _
 case buildSlice t n ps=>refine(qfv (zparts:=ps.map fun p=>(p.1,ρ p.2)) hC hm ?_ h hf).bW;rw[Array.toList_map];exact V1 cA _
 case load t a=>exact(bZ.aY hm (qlv hC hm (cA a) h)).bW
 case store t a x=>exact(qtc hC hm (cA a) (cA x) h).bW
 case nilCheck x=>obtain⟨rfl,rfl,hz⟩:=z0t (cA x) h;have hx:=cA x;rcases hz with ⟨a,e⟩|⟨f,p,c,e⟩<;>simp only[execOp,e]<;>rw[e] at hx<;>exact .same hm hx
 case binOp op t x y yt=>exact(z0x hE hm (cA x) (cA y) h).bW
 case unOp op t x=>exact z5x hm cA h
 case convert s d x=>exact(qm2 hC hm (cA x) h hf).bW
 case makeFunc fn first caps=>exact qpb hm cA h
 case makeSlice t l c=>exact(qhq hC hm (cA l) (cA c) h hf).bW
 case slice t x lo hi mx=>exact(qt8 hC hm (cA x) (V3 cA lo) (V3 cA hi) (V3 cA mx) h hf).bW
 case fieldAddr t x f=>exact(bZ.aY hm (qhn hC hm (cA x) h)).bW
 case field t x f=>exact(bZ.aY hm (qt6 hC hm (cA x) h)).bW
 case indexAddr t x i=>exact(bZ.aY hm (qho hC hm (cA x) (cA i) h)).bW
 case index t x i=>exact(bZ.aY hm (qt7 hC (cA x) (cA i) h)).bW
 case extract x i=>exact qtg hm cA h
 case range t x=>exact(qtf hm (cA x) h hf).bW
 case next x b=>exact z5y hm cA h
 case makeMap t r=>
  cases r with
  |none=>exact(qm7 hm h hf).bW
  |some x=>exact False.elim h
 case lookup t x k ok=>exact(qp8 hC hm (cA x) (cA k) h).bW
 case mapUpdate t m k x=>exact(qhr hC hm (cA m) (cA k) (cA x) h).bW
 case call c=>
  obtain⟨callee,args,uG⟩:=c;cases callee with
  |invoke r m=>exact False.elim h
  |value f=>exact z0y cA hc h hf
  |builtin b=>exact qth hC hm cA h hf
 all_goals exact False.elim h
end
theorem cC{j:Nat}:∀{l:List Nat},bI j l=true↔j∈l
 |[]=>by simp[bI]
 |b::r=>by
  simp only[bI,zt];cases h:Nat.beq b j with
  |true=>have:=zg h;simp[this]
  |false=>
   have:¬j=b:=fun e=>by subst e;rw[Nat.beq_refl] at h;cases h
   simp[this,cC]
theorem Ob:∀{u:List (Nat×Obj)} {o o':Nat->Obj} {id:Nat},id∈bO u->ar o u id=ar o' u id
 |(i,x)::r,o,o',id,h=>by
  show ar (ck o i x) r id=ar (ck o' i x) r id;by_cases hr:id∈bO r
  ·exact Ob hr
  ·rw[gj hr,gj hr];simp only[bO,zt,hr,or_false] at h;subst h;rw[dM,dM]
section
variable {C:Cx} {X:Nat→Prop} {φ φ':Nat→Addr} {o o':Nat→Obj} {w w':World} {imm:Nat→Prop} {F:List Nat}
theorem qii:∀(x:V) (z:Value),(∀id,id∈ek x->o' id=o id)->av φ o imm w x z->av φ o' imm w x z:=by
 intro x;refine V.rec (motive_1:=fun x=>∀z,(∀id,id∈ek x->o' id=o id)->av φ o imm w x z->av φ o' imm w x z)
  (motive_2:=fun l=>∀zs,(∀id,id∈gh l->o' id=o id)->bV φ o imm w l zs->bV φ o' imm w l zs)
  ?_ ?_ ?_ ?_ ?_ ?_ ?_ ?_ ?_ ?_ ?_ ?_ ?_ ?_ ?_ ?_ ?_ ?_ ?_ ?_ ?_ ?_ ?_ ?_ ?_ ?_ x
 ·exact fun t x z _ h=>h
 ·intro id ver z hs h;have:=hs id (by simp[ek]);unfold av at*;rw[this];exact h
 ·intro id ver n cp z hs h;have:=hs id (by simp[ek]);unfold av at*;rw[this];exact h
 ·intro id off z hs h;have:=hs id (by simp[ek]);unfold av at*;rw[this];exact h
 ·intro id ver i path z hs h;have:=hs id (by simp[ek]);unfold av at*;rw[this];exact h
 ·exact fun t x z _ h=>h
 ·exact fun z _ h=>h
 ·exact fun f l ih z hs ⟨c,h1,h2⟩=>⟨c,h1,ih _ (fun id h=>hs id (by unfold ek;exact h)) h2⟩
 ·exact fun z _ h=>h
 ·exact fun l ih z hs ⟨c,h1,h2⟩=>⟨c,h1,ih _ (fun id h=>hs id (by unfold ek;exact h)) h2⟩
 ·exact fun l ih z hs ⟨c,h1,h2⟩=>⟨c,h1,ih _ (fun id h=>hs id (by unfold ek;exact h)) h2⟩
 ·intro id z hs h;have:=hs id (by simp[ek]);unfold av at*;rw[this];exact h
 ·exact fun z _ h=>h
 ·exact fun z _ h=>h
 ·exact fun z _ h=>h
 ·exact fun b z _ h=>h
 ·exact fun z _ h=>h
 ·exact fun z _ h=>h
 ·intro id b z hs h;have:=hs id (by simp[ek]);unfold av at*;rw[this];exact h
 ·intro id ver lo z hs h;have:=hs id (by simp[ek]);unfold av at*;rw[this];exact h
 ·intro id z hs h;have:=hs id (by simp[ek]);unfold av at*;rw[this];exact h
 ·exact fun b p c z _ h=>h
 ·exact fun a k n z _ h=>h
 ·exact fun t x z _ h=>h
 ·exact fun zs _ h=>h
 ·exact fun x l iO iP zs hs ⟨v,r,h1,h2,h3⟩=>⟨v,r,h1,iO _ (fun id h=>hs id (by unfold gh;exact List.mem_append_left _ h)) h2,
   iP _ (fun id h=>hs id (by unfold gh;exact List.mem_append_right _ h)) h3⟩
theorem qmd:∀(l:List V) (zs:List Value),(∀id,id∈gh l->o' id=o id)->bV φ o imm w l zs->bV φ o' imm w l zs
 |[],_,_,h=>h
 |x::l,_,hs,⟨v,r,h1,h2,h3⟩=>⟨v,r,h1,qii x v (fun id h=>hs id (by unfold gh;exact List.mem_append_left _ h)) h2,
   qmd l r (fun id h=>hs id (by unfold gh;exact List.mem_append_right _ h)) h3⟩
def Xr(X:Nat->Prop)(φ:Nat->Addr)(o:Nat->Obj)(F:List Nat)(b:Nat):Prop:=X b\/∃id,id∉F/\aV (φ id) (o id)=true/\(φ id).block=b
theorem lO{id:Nat}(h:id∈F):dD o F id=o id:=by unfold dD;rw[cC.2 h];rfl
theorem uH{id:Nat}(h:id∉F):dD o F id=.none:=by
 unfold dD;cases e:bI id F with
 |true=>exact absurd (cC.1 e) h
 |false=>rfl
theorem uJ(b:Nat):ah (Xr X φ o F) φ (dD o F) w b↔ah X φ o w b:=by
 constructor
 ·rintro⟨h1,h2,h3⟩;refine⟨h1,fun h=>h2 (.inl h),fun⟨id,e1,e2⟩=>?_⟩;by_cases hi:id∈F
  ·exact h3 ⟨id,by rw[lO hi];exact e1,e2⟩
  ·exact h2 (.inr ⟨id,hi,e1,e2⟩)
 ·rintro⟨h1,h2,h3⟩;refine⟨h1,?_,fun⟨id,e1,e2⟩=>?_⟩
  ·rintro(h|⟨id,_,e1,e2⟩)
   ·exact h2 h
   ·exact h3 ⟨id,e1,e2⟩
  ·by_cases hi:id∈F
   ·rw[lO hi] at e1;exact h3 ⟨id,e1,e2⟩
   ·rw[uH hi] at e1;exact(ky e1).elim
theorem qti{imm':Nat->Prop}{id:Nat}{x:Obj}(hi:∀b,imm b->imm' b)(hs:∀j,j∈xl x->o' j=o j)(h:oC φ o imm w id x):oC φ o' imm' w id x:=by
 have hk:∀x z,av φ o' imm w x z->av φ o' imm' w x z:=fun x z h=>wA hi (fun _ _=>rfl) (fun _=>Up.same fun _ _ h=>h) x z h;cases x with
 |dead=>trivial
 |none=>trivial
 |box cs=>obtain⟨h1,c,el,lo,hc,h2,h3,h4⟩:=h;exact⟨h1,c,el,lo,hc,h2,h3,Ig hk _ _ (qmd cs _ hs h4)⟩
 |map k v m=>obtain⟨es,clock,h1,h2⟩:=h;exact⟨es,clock,h1,GJ (rh hi (fun _ _=>rfl) _) (rh hi (fun _ _=>rfl) _) h2⟩
 |iter l p=>exact h
 |vec t ver fr s=>obtain⟨h1,h2,h3⟩:=h;refine⟨h1,h2,fun hn=>?_⟩;refine(h3 hn).imp (fun⟨h4,ec,h5,h6,h7,h8,h9⟩=>?_) fun g=>g;exact⟨h4,ec,mO (fW hi (fun _ _=>rfl) t) h5,h6,h7,h8,fun hf=>hi _ (h9 hf)⟩
theorem MRel.iT(hm:MRel C X φ o w)(id:Nat)(hb:aV (φ id) (o id)=true->en w w' (φ id).block)(stays:∀b,ah X φ o w b->w'.heap[b]?=w.heap[b]?):gi C w' (φ id) (o id):=by
 refine(hm.oD id).bH hb (fun ver s e hn=>.same ?_) (hm.NM id);have ho:=hm.aw id;rw[e] at ho;obtain⟨_,_,ho⟩:=ho;rcases ho hn with ⟨_,_,_,_,_,_,g7⟩|g7
 ·exact stays _ (g7 rfl)
 ·exact absurd rfl g7.2.2
theorem MRel.restrict(hm:MRel C X φ o w)(hc:∀id,id∈F->∀j,j∈xl (o id)->j∈F):MRel C (Xr X φ o F) φ (dD o F) w:=by
 refine⟨fun id=>?_,fun i j hi hj e=>?_,fun i hi=>?_,fun b hb=>?_,fun id=>?_,fun g t x hg=>?_,hm.Mk⟩
 ·by_cases h:id∈F
  ·rw[lO h];exact qti (fun b hb=>(uJ b).2 hb) (fun j hj=>lO (hc id h j hj)) (hm.aw id)
  ·rw[uH h];trivial
 ·have h1:i∈F:=zM fun h=>by rw[uH h] at hi;exact ky hi
  have h2:j∈F:=zM fun h=>by rw[uH h] at hj;exact ky hj
  rw[lO h1] at hi;rw[lO h2] at hj;exact hm.inj i j hi hj e
 ·have h1:i∈F:=zM fun h=>by rw[uH h] at hi;exact ky hi
  rw[lO h1] at hi;refine⟨(hm.sep i hi).1,?_⟩;rintro(h|⟨id,h2,h3,h4⟩)
  ·exact(hm.sep i hi).2 h
  ·have:=hm.inj id i h3 hi h4;exact h2 (this▸h1)
 ·rcases hb with hb|⟨id,_,h3,h4⟩
  ·exact hm.xs b hb
  ·exact h4▸(hm.sep id h3).1
 ·by_cases h:id∈F
  ·rw[lO h];exact hm.oD id
  ·rw[uH h];trivial
 ·obtain⟨a,cs,h1,h2,h3,h4,h5⟩:=hm.eG g t x hg;exact⟨a,cs,h1,h2,(uJ _).2 h3,fW (fun b hb=>(uJ b).2 hb) (fun _ _=>rfl) t x cs h4,h5⟩
theorem qg3{x:V}{z:Value}(hs:∀id,id∈ek x->id∈F)(h:av φ o (ah X φ o w) w x z):av φ (dD o F) (ah (Xr X φ o F) φ (dD o F) w) w x z:=wA (fun b hb=>(uJ b).2 hb) (fun _ _=>rfl) (fun _=>Up.same fun _ _ h=>h) x z (qii x z (fun id hi=>lO (hs id hi)) h)
theorem Comes.rl(hm:MRel C X φ o w){u:List (Nat×Obj)}{v:V}{z:Value}(hu:∀id,id∈bO u->id∉F->o id=.none)(h:Comes C (Xr X φ o F) φ φ' (dD o F) u w w' v z):∃fT,Comes C X φ fT o u w w' v z:=by
 let ins:Nat->Prop:=fun id=>id∈F\/id∈bO u;refine⟨fun id=>bif bI id F||bI id (bO u) then φ' id else φ id,?_⟩;generalize cR:(fun id=>bif bI id F||bI id (bO u) then φ' id else φ id)=fT;have p1:∀id,ins id->fT id=φ' id:=fun id hi=>by
  rw[<-cR];have:(bI id F||bI id (bO u))=true:=by rw[Bool.or_eq_true];exact hi.imp cC.2 cC.2
  simp only[this,cond_true]
 have p2:∀id,¬ins id->fT id=φ id:=fun id hi=>by
  rw[<-cR];have:(bI id F||bI id (bO u))=false:=by
   cases e:(bI id F||bI id (bO u)) with
   |false=>rfl
   |true=>rw[Bool.or_eq_true] at e;exact absurd (e.imp cC.1 cC.1) hi
  simp only[this,cond_false]
 have q1:∀id,ins id->ar o u id=ar (dD o F) u id:=fun id hi=>by
  by_cases hk:id∈bO u
  ·exact Ob hk
  ·rw[gj hk,gj hk,lO (hi.resolve_right hk)]
 have q2:∀id,¬ins id->ar o u id=o id/\ar (dD o F) u id=.none:=fun id hi=>⟨gj fun hk=>hi (.inr hk),by rw[gj fun hk=>hi (.inr hk),uH fun hf=>hi (.inl hf)]⟩;have q3:∀id,ins id->id∉F->o id=.none:=fun id hi hf=>hu id (hi.resolve_left hf) hf;have he:∀b,ah (Xr X φ o F) φ' (ar (dD o F) u) w' b↔ah X fT (ar o u) w' b:=fun b=>by
  constructor
  ·rintro⟨h1,h2,h3⟩;refine⟨h1,fun hx=>h2 (.inl hx),fun⟨id,e1,e2⟩=>?_⟩;by_cases hi:ins id
   ·exact h3 ⟨id,by rw[<-q1 id hi,<-p1 id hi];exact e1,by rw[<-p1 id hi];exact e2⟩
   ·rw[(q2 id hi).1,p2 id hi] at e1;rw[p2 id hi] at e2;exact h2 (.inr ⟨id,fun hf=>hi (.inl hf),e1,e2⟩)
  ·rintro⟨h1,h2,h3⟩;refine⟨h1,?_,fun⟨id,e1,e2⟩=>?_⟩
   ·rintro(hx|⟨id,hf,e1,e2⟩)
    ·exact h2 hx
    ·by_cases hi:ins id
     ·rw[q3 id hi hf] at e1;exact(ky e1).elim
     ·exact h3 ⟨id,by rw[(q2 id hi).1,p2 id hi];exact e1,by rw[p2 id hi];exact e2⟩
   ·by_cases hi:ins id
    ·exact h3 ⟨id,by rw[q1 id hi,p1 id hi];exact e1,by rw[p1 id hi];exact e2⟩
    ·rw[(q2 id hi).2] at e1;exact(ky e1).elim
 have ext:∀x z,av φ' (ar (dD o F) u) (ah (Xr X φ o F) φ' (ar (dD o F) u) w') w' x z->av fT (ar o u) (ah X fT (ar o u) w') w' x z:=
  fun x z hx=>wA (fun b hb=>(he b).1 hb) (fun _ _=>rfl) (fun id=>by
   by_cases hi:ins id
   ·rw[q1 id hi,p1 id hi];exact Up.same fun _ _ h=>h
   ·rw[(q2 id hi).2];trivial) x z hx
 have bl:∀id,¬ins id->aV (φ id) (o id)=true->w'.heap[(φ id).block]?=w.heap[(φ id).block]?:=fun id hi hx=>
  h.frame _ (hm.sep id hx).1 fun⟨j,j1,j2,j3⟩=>by
   have hj:j∈F:=zM fun hf=>by rw[uH hf] at j2;exact ky j2
   rw[lO hj] at j2;have:=hm.inj j id j2 hx j3;exact hi (.inl (this▸hj))
 have stays:∀b,ah X φ o w b->w'.heap[b]?=w.heap[b]?:=fun b hb=>h.stays b ((uJ b).2 hb);have imm:∀b,ah X φ o w b->ah X fT (ar o u) w' b:=fun b hb=>(he b).1 (h.imm b ((uJ b).2 hb));have GK:∀id,Up w w' (φ id) (fT id) (o id) (ar o u id):=fun id=>by
  by_cases hi:ins id
  ·by_cases hf:id∈F
   ·have:=h.up id;rw[lO hf] at this;rw[p1 id hi,q1 id hi];exact this
   ·rw[q3 id hi hf];trivial
  ·rw[p2 id hi,(q2 id hi).1];exact Up.same fun hx n hr=>CU (bl id hi hx) hr
 have keeps:∀x z,av φ o (ah X φ o w) w x z->av fT (ar o u) (ah X fT (ar o u) w') w' x z:=fun x z hx=>wA imm stays GK x z hx;refine⟨⟨fun id=>?_,fun i j hi hj e=>?_,fun i hi=>?_,fun b hb=>Nat.lt_of_lt_of_le (hm.xs b hb) h.size,fun id=>?_,fun g t x hg=>ext _ _ (h.mem.eG g t x hg),h.mem.Mk⟩,ext _ _ h.val,GK,h.size,fun b hb hh=>?_,fun id hn hk=>?_,fun id hx=>?_,h.still⟩
 ·by_cases hi:ins id
  ·rw[q1 id hi];exact Ih (fun b hb=>(he b).1 hb) (fun _ _=>rfl) ext (p1 id hi) (fun _=>rfl) (h.mem.aw id)
  ·rw[(q2 id hi).1];exact Ih imm stays keeps (p2 id hi) (bl id hi) (hm.aw id)
 ·by_cases hc:ins i<;>by_cases hd:ins j
  ·rw[q1 i hc,p1 i hc] at hi;rw[q1 j hd,p1 j hd] at hj;rw[p1 i hc,p1 j hd] at e;exact h.mem.inj i j hi hj e
  ·rw[q1 i hc,p1 i hc] at hi;rw[(q2 j hd).1,p2 j hd] at hj;rw[p1 i hc,p2 j hd] at e;exact absurd (.inr ⟨j,fun hf=>hd (.inl hf),hj,e.symm⟩) (h.mem.sep i hi).2
  ·rw[q1 j hd,p1 j hd] at hj;rw[(q2 i hc).1,p2 i hc] at hi;rw[p1 j hd,p2 i hc] at e;exact absurd (.inr ⟨i,fun hf=>hc (.inl hf),hi,e⟩) (h.mem.sep j hj).2
  ·rw[(q2 i hc).1,p2 i hc] at hi;rw[(q2 j hd).1,p2 j hd] at hj;rw[p2 i hc,p2 j hd] at e;exact hm.inj i j hi hj e
 ·by_cases hc:ins i
  ·rw[q1 i hc,p1 i hc] at hi;rw[p1 i hc];exact⟨(h.mem.sep i hi).1,fun hx=>(h.mem.sep i hi).2 (.inl hx)⟩
  ·rw[(q2 i hc).1,p2 i hc] at hi;rw[p2 i hc];exact⟨Nat.lt_of_lt_of_le (hm.sep i hi).1 h.size,(hm.sep i hi).2⟩
 ·by_cases hi:ins id
  ·rw[q1 id hi,p1 id hi];exact h.mem.oD id
  ·rw[(q2 id hi).1,p2 id hi];exact hm.iT id (fun hx=>.same (bl id hi hx)) stays
 ·refine h.frame b hb fun⟨j,j1,j2,j3⟩=>hh ⟨j,j1,?_,j3⟩;have hj:j∈F:=zM fun hf=>by rw[uH hf] at j2;exact ky j2
  rwa [lO hj] at j2
 ·by_cases hf:id∈F
  ·rw[p1 id (.inl hf)];exact h.ny id (by rw[lO hf];exact hn) hk
  ·exact p2 id fun hi=>hi.elim hf hk
 ·by_cases hi:ins id
  ·rw[q1 id hi,p1 id hi] at hx;rw[p1 id hi];rcases h.news id hx with h1|⟨j,j1,j2⟩
   ·exact .inl h1
   ·have hj:j∈F:=zM fun hf=>by rw[uH hf] at j1;exact ky j1
    rw[lO hj] at j1;exact .inr ⟨j,j1,j2⟩
  ·rw[(q2 id hi).1,p2 id hi] at hx;rw[p2 id hi];exact .inr ⟨id,hx,rfl⟩
end
structure eu (a b:PS):Prop where
 aS:∀p,p∈a.aS->p∈b.aS
 cut:∀p,p∈a.cut->p∈b.cut
 bY:∀p,p∈a.bY->p∈b.bY
 full:∀p,p∈a.full->p∈b.full
theorem eu.refl(a:PS):eu a a:=⟨fun _ h=>h,fun _ h=>h,fun _ h=>h,fun _ h=>h⟩
theorem eu.trans{a b c:PS}(h:eu a b)(h':eu b c):eu a c:=⟨fun p hp=>h'.aS p (h.aS p hp),fun p hp=>h'.cut p (h.cut p hp),fun p hp=>h'.bY p (h.bY p hp),fun p hp=>h'.full p (h.full p hp)⟩
abbrev cv:Nat->Nat:=fun i=>i
abbrev bS:Nat->Nat:=fun _=>0
section
variable {o:Nat→Obj}
def z44(o:Nat->Obj)(s:Sh):Prop:=∀v ps bB f,Gx lf o s v ps=some (bB,f)->eu ps bB/\∀(ρ κ:Nat->Nat) r c,(jW ρ κ s r (f r c)).2=c
def z45(o:Nat->Obj)(l:List Sh):Prop:=∀vs ps bB f,lL lf o l vs ps=some (bB,f)->eu ps bB/\∀(ρ κ:Nat->Nat) r c,(eX ρ κ l r (f r c)).2=c
theorem oF{b:Bool}{ps bB:PS}{f:∀r,aj r->aj r}(h:wq b ps=some (bB,f)):b=true/\bB=ps/\f=fun _ c=>c:=by
 cases b
 ·cases h
 ·injection h with h;injection h with h1 h2;exact⟨rfl,h1.symm,h2.symm⟩
theorem eu.tie{ps:PS}(i id:Nat):eu ps (tie i id ps):=⟨fun _ h=>zm _ h,fun _ h=>h,fun _ h=>h,fun _ h=>h⟩
theorem qtj{i:Nat}{v:V}{ps bB:PS}{f:∀r,aj r->aj r}(h:Np o i v ps=some (bB,f)):eu ps bB/\f=fun _ c=>c:=by
 unfold Np at h;split at h
 ·split at h
  ·obtain⟨_,rfl,rfl⟩:=oF h;exact⟨⟨fun _ h=>zm _ h,fun _ h=>h,fun _ h=>h,fun _ h=>zm _ h⟩,rfl⟩
  ·cases h
 ·split at h
  ·obtain⟨_,rfl,rfl⟩:=oF h;exact⟨⟨fun _ h=>zm _ h,fun _ h=>zm _ h,fun _ h=>h,fun _ h=>h⟩,rfl⟩
  ·cases h
 ·cases h
theorem qtk{i off:Nat}{v:V}{ps bB:PS}{f:∀r,aj r->aj r}(h:Nq o i off v ps=some (bB,f)):eu ps bB/\f=fun _ c=>c:=by
 unfold Nq at h;split at h
 ·split at h
  ·obtain⟨_,rfl,rfl⟩:=oF h;exact⟨.tie _ _,rfl⟩
  ·obtain⟨_,rfl,rfl⟩:=oF h;exact⟨.tie _ _,rfl⟩
  ·cases h
 ·cases h
theorem qwf{i:Nat}{v:V}{ps bB:PS}{f:∀r,aj r->aj r}(h:xc o i v ps=some (bB,f)):eu ps bB/\f=fun _ c=>c:=by
 unfold xc at h;split at h
 ·split at h
  ·injection h with h;injection h with h1 h2;subst h1 h2;exact⟨.tie _ _,rfl⟩
  ·cases h
 ·cases h
theorem qwg{i:Nat}{v:V}{ps bB:PS}{f:∀r,aj r->aj r}(h:xd o i v ps=some (bB,f)):eu ps bB/\f=fun _ c=>c:=by
 unfold xd at h;split at h
 ·split at h
  ·injection h with h;injection h with h1 h2;subst h1 h2;exact⟨.tie _ _,rfl⟩
  ·cases h
 ·cases h
theorem V6{i:Nat}{v:V}{ps bB:PS}{f:∀r,aj r->den .bool×aj r}(h:Nr o i v ps=some (bB,f)):∃id b cs,v=.cG id b/\o id=.box cs/\bB=tie i id ps/\f=fun _ c=>(b,c):=by
 unfold Nr at h;split at h
 ·rename_i id b;split at h
  ·rename_i cs e;injection h with h;injection h with h1 h2;subst h1 h2;exact⟨id,b,cs,rfl,e,rfl,rfl⟩
  ·cases h
 ·cases h
theorem z46:∀{b a:List (Nat×Bool)},Ns b a=true->b=a
 |[],[],_=>rfl
 |[],_::_,h=>by cases h
 |_::_,[],h=>by cases h
 |(f,c)::b,(g,d)::a,h=>by
  unfold Ns at h;rw[zd,zd] at h;obtain⟨⟨h1,h2⟩,h3⟩:=h;have h1:=zg h1;have h2:c=d:=by cases c<;>cases d<;>first|rfl|cases h2
  rw[h1,h2,z46 h3]
theorem qme{imm:Nat->Prop}{w:World}{n:Int}:∀(a:List (Nat×Bool)),uF imm w a ((a.length:Nat):Int) n .nilFunc
 |[]=>⟨rfl,rfl⟩
 |(f,c)::r=>by
  refine .inr ⟨by rw[zf];omega,?_⟩;have:(((f,c)::r).length:Int)-1=((r.length:Nat):Int):=by rw[zf];omega
  rw[this];exact qme r
theorem V7{imm:Nat->Prop}{w:World}{n:Int}{v:Value}{f:Nat}{c:Bool}(hv:match c with|false=>v=.func (.func f) #[] #[]|true=>∃p,v=.func (.func f) #[] #[p]/\R8 imm w n p):∀(a:List (Nat×Bool)) (i0 i:Nat),HY f c a i0=some i->∃j:Nat,i=i0+j/\uF imm w a (j:Int) n v
 |[],_,_,h=>by cases h
 |(g,d)::r,i0,i,h=>by
  unfold HY at h;cases hb:(Nat.beq g f&&(bif c then d else !d)) with
  |true=>
   rw[hb] at h;injection h with h;subst h;rw[zd] at hb;have h1:=zg hb.1;have h2:d=c:=by have:=hb.2;cases c<;>cases d<;>first|rfl|cases this
   subst h1 h2;exact⟨0,rfl,.inl ⟨rfl,hv⟩⟩
  |false=>
   rw[hb] at h;obtain⟨j,h1,h2⟩:=V7 hv r (i0+1) i h;refine⟨j+1,by omega,.inr ⟨by omega,?_⟩⟩;have:((j+1:Nat):Int)-1=(j:Int):=om
   rw[this];exact h2
theorem z47{α:Type}{g:Nat}{x:Option α}{i:α}(h:(bif Nat.blt g 1048576 then x else none)=some i):g<1048576/\x=some i:=by
 cases hb:Nat.blt g 1048576 with
 |false=>rw[hb] at h;cases h
 |true=>rw[hb] at h;exact⟨zF hb,h⟩
theorem qmf{a:List (Nat×Bool)}{v:V}{ps bB:PS}{f:∀r,aj r->den (.int .i64)×den (.int .i64)×aj r}(h:CG lf o a v ps=some (bB,f)):(∃k n,v=.fa a k n/\bB=ps/\f=fun _ c=>(k,n,c))\/(v=.fG/\bB=ps/\f=fun _ c=>(Int.ofNat a.length,(0:Int),c))\/(∃g i,v=.fn g []/\g<1048576/\HY g false a 0=some i/\bB=ps/\f=fun _ c=>(Int.ofNat i,(0:Int),c))\/(∃g i w p,v=.fn g [w]/\g<1048576/\HY g true a 0=some i/\Nn lf o (.int .i64) w ps=some (bB,p)/\f=fun r c=>(Int.ofNat i,p r c)):=by
 unfold CG at h;split at h
 ·rename_i b k n;cases hb:Ns b a<;>rw[hb] at h
  ·cases h
  ·have:=z46 hb;subst this;injection h with h;injection h with h1 h2;subst h1 h2;exact .inl ⟨k,n,rfl,rfl,rfl⟩
 ·injection h with h;injection h with h1 h2;subst h1 h2;refine .inr (.inl ⟨rfl,rfl,?_⟩);have:nq a 0=a.length:=by rw[Vm,zO]
  rw[this]
 ·rename_i g;split at h
  ·rename_i i e;injection h with h;injection h with h1 h2;subst h1 h2;obtain⟨hc,e⟩:=z47 e;exact .inr (.inr (.inl ⟨g,i,rfl,hc,e,rfl,rfl⟩))
  ·cases h
 ·rename_i g w;split at h
  ·rename_i i e;split at h
   ·rename_i GU p e2;injection h with h;injection h with h1 h2;subst h1 h2;obtain⟨hc,e⟩:=z47 e;exact .inr (.inr (.inr ⟨g,i,w,p,rfl,hc,e,e2,rfl⟩))
   ·cases h
  ·cases h
 ·cases h
theorem qij{i:Nat}{v:V}{ps bB:PS}{f:∀r,aj r->den (.int .i64)×aj r}(h:Ry o i v ps=some (bB,f)):∃id ver lo t s,v=.gb id ver lo/\o id=.vec t ver false s/\bB={tie i id ps with full:=id::ps.full}/\f=fun _ c=>((lo:den (.int .i64)),c):=by
 unfold Ry at h;split at h
 ·rename_i id ver lo;split at h
  ·rename_i t aB s e;cases hb:Nat.beq ver aB<;>rw[hb] at h
   ·cases h
   ·have:=zg hb;subst this;injection h with h;injection h with h1 h2;subst h1 h2;exact⟨id,ver,lo,t,s,rfl,e,rfl,rfl⟩
  ·cases h
 ·cases h
theorem qr0{t:Ty}{v:V}{ps bB:PS}{f:∀r,aj r->den t×aj r}(h:UE lf o t v ps=some (bB,f)):eu ps bB/\∃x,fj lf o t v=some x/\bB={ps with bY:=eF o v++ps.bY}/\f=fun _ c=>(x,c):=by
 unfold UE at h;split at h
 ·rename_i x e;injection h with h;injection h with h1 h2;subst h1 h2;exact⟨⟨fun _ h=>h,fun _ h=>h,fun _ h=>List.mem_append_right _ h,fun _ h=>h⟩,x,e,rfl,rfl⟩
 ·cases h
theorem V8{t:Ty}{v:V}{ps bB:PS}{f:∀r,aj r->den t×aj r}(h:Nn lf o t v ps=some (bB,f)):eu ps bB/\∃x,f=(fun _ c=>(x,c))/\((v=.ref t x/\bB=ps)\/(∃id,v=.ptr id 0/\qX lf o t id=some x/\bB={ps with bY:=id::(L1 o id++ps.bY)})):=by
 unfold Nn at h;split at h
 ·split at h
  ·rename_i x e;injection h with h;injection h with h1 h2;subst h1 h2;obtain⟨rfl,rfl⟩:=wB e;exact⟨.refl _,_,rfl,.inl ⟨rfl,rfl⟩⟩
  ·cases h
 ·rename_i id off;cases hb:Nat.beq off 0<;>rw[hb] at h
  ·cases h
  ·have:=zg hb;subst this;simp only[cond_true] at h;split at h
   ·rename_i x e;injection h with h;injection h with h1 h2;subst h1 h2;exact⟨⟨fun _ h=>h,fun _ h=>h,fun _ h=>zm _ (List.mem_append_right _ h),fun _ h=>h⟩,x,rfl,.inr ⟨id,rfl,e,rfl⟩⟩
   ·cases h
 ·cases h
theorem z0z{t:Ty}{id jX:Nat}{x:den t}(h:UF lf o t id=some (jX,x)):o id=.box [.ptr jX 0]/\qX lf o t jX=some x:=by
 unfold UF at h;split at h
 ·rename_i i2 HU e;cases hb:Nat.beq HU 0<;>rw[hb] at h
  ·cases h
  ·have:=zg hb;subst this;simp only[cond_true] at h;split at h
   ·rename_i y e2;injection h with h;injection h with h1 h2;subst h1 h2;exact⟨e,e2⟩
   ·cases h
 ·cases h
theorem qmg{t:Ty}{v:V}{ps bB:PS}{f:∀r,aj r->den t×aj r}(h:HV lf o t v ps=some (bB,f)):eu ps bB/\∃x,f=(fun _ c=>(x,c))/\((v=.rr t x/\bB=ps)\/(∃id jX,v=.ptr id 0/\o id=.box [.ptr jX 0]/\qX lf o t jX=some x/\bB={ps with bY:=id::jX::(L1 o jX++ps.bY)})):=by
 unfold HV at h;split at h
 ·split at h
  ·rename_i x e;injection h with h;injection h with h1 h2;subst h1 h2;obtain⟨rfl,rfl⟩:=wB e;exact⟨.refl _,_,rfl,.inl ⟨rfl,rfl⟩⟩
  ·cases h
 ·rename_i id off;cases hb:Nat.beq off 0<;>rw[hb] at h
  ·cases h
  ·have:=zg hb;subst this;simp only[cond_true] at h;split at h
   ·rename_i jX x e;injection h with h;injection h with h1 h2;subst h1 h2;obtain⟨e1,e2⟩:=z0z e;exact⟨⟨fun _ h=>h,fun _ h=>h,fun _ h=>zm _ (zm _ (List.mem_append_right _ h)),fun _ h=>h⟩,x,rfl,.inr ⟨id,jX,rfl,e1,e2,rfl⟩⟩
   ·cases h
 ·cases h
theorem qwh{f:Nat}{v:V}{l:List V}(h:CH f v=some l):v=.fn f l:=by
 unfold CH at h;split at h
 ·rename_i f' l';cases hb:Nat.beq f f'<;>rw[hb] at h
  ·cases h
  ·have:=zg hb;injection h with h;subst this h;rfl
 ·cases h
theorem qtl{v:V}{l:List V}(h:Rz v=some l):v=.iE l:=by
 unfold Rz at h;split at h
 ·injection h with h;subst h;rfl
 ·cases h
theorem qwi{v:V}{l:List V}(h:CI v=some l):v=.agg l:=by
 unfold CI at h;split at h
 ·injection h with h;subst h;rfl
 ·cases h
theorem SJ{vs:List V}{ps bB:PS}{f:∀r,aj r->aj (gK [] r)}(h:lL lf o [] vs ps=some (bB,f)):vs=[]/\bB=ps/\f=fun _ c=>c:=by have h:wq vs.isEmpty ps=some (bB,f):=h;obtain⟨h1,h2,h3⟩:=oF h;exact⟨by simpa using h1,h2,h3⟩
theorem Oc{s:Sh}{l:List Sh}{vs:List V}{ps bB:PS}{f:∀r,aj r->aj (gK (s::l) r)}(h:lL lf o (s::l) vs ps=some (bB,f)):∃v Iu j0 f1 g1,vs=v::Iu/\Gx lf o s v ps=some (j0,f1)/\lL lf o l Iu j0=some (bB,g1)/\f=fun r c=>f1 _ (g1 r c):=by
 cases vs with
 |nil=>cases h
 |cons v vs=>
  have h:(match Gx lf o s v ps with
   |some (ps,f)=>match lL lf o l vs ps with
    |some (ps,g)=>some (ps,fun r c=>f _ (g r c))
    |none=>none
   |none=>none)=some (bB,f):=h
  split at h
  ·rename_i j0 f1 h1;split at h
   ·rename_i GU f2 h2;injection h with h;injection h with h3 h4;subst h3 h4;exact⟨v,vs,j0,f1,f2,rfl,h1,h2,rfl⟩
   ·cases h
  ·cases h
theorem z48{g:Nat}{l:List Sh}{v:V}{ps bB:PS}{f:∀r,aj r->aj (LV (.fn g l) r)}(h:Gx lf o (.fn g l) v ps=some (bB,f)):∃l',v=.fn g l'/\lL lf o l l' ps=some (bB,f):=by
 have h:(match CH g v with|some l'=>lL lf o l l' ps|none=>none)=some (bB,f):=h;split at h
 ·rename_i l' e;exact⟨l',qwh e,h⟩
 ·cases h
theorem qwj{l:List Sh}{v:V}{ps bB:PS}{f:∀r,aj r->aj (LV (.iE l) r)}(h:Gx lf o (.iE l) v ps=some (bB,f)):∃l',v=.iE l'/\lL lf o l l' ps=some (bB,f):=by
 have h:(match Rz v with|some l'=>lL lf o l l' ps|none=>none)=some (bB,f):=h;split at h
 ·rename_i l' e;exact⟨l',qtl e,h⟩
 ·cases h
theorem qwk{l:List Sh}{v:V}{ps bB:PS}{f:∀r,aj r->aj (LV (.agg l) r)}(h:Gx lf o (.agg l) v ps=some (bB,f)):∃l',v=.agg l'/\lL lf o l l' ps=some (bB,f):=by
 have h:(match CI v with|some l'=>lL lf o l l' ps|none=>none)=some (bB,f):=h;split at h
 ·rename_i l' e;exact⟨l',qwi e,h⟩
 ·cases h
theorem z60(s:Sh):z44 o s:=by
 refine Sh.rec (motive_1:=z44 o) (motive_2:=z45 o) ?_ ?_ ?_ ?_ ?_ ?_ ?_ ?_ ?_ ?_ ?_ ?_ ?_ ?_ ?_ ?_ ?_ ?_ ?_ ?_ s
 ·intro t v ps bB f h;obtain⟨h1,x,_,_,rfl⟩:=qr0 (o:=o) h;exact⟨h1,fun _ _ _ _=>rfl⟩
 ·intro i v ps bB f h;obtain⟨h1,rfl⟩:=qtj (o:=o) h;exact⟨h1,fun _ _ _ _=>rfl⟩
 ·intro i off v ps bB f h;obtain⟨h1,rfl⟩:=qtk (o:=o) h;exact⟨h1,fun _ _ _ _=>rfl⟩
 ·intro t v ps bB f h;obtain⟨h1,x,rfl,_⟩:=V8 (o:=o) h;exact⟨h1,fun _ _ _ _=>rfl⟩
 ·intro v ps bB f h;obtain⟨_,rfl,rfl⟩:=oF h;exact⟨.refl _,fun _ _ _ _=>rfl⟩
 ·intro g l ih v ps bB f h;obtain⟨l',rfl,h'⟩:=z48 h;obtain⟨h1,h2⟩:=ih _ _ _ _ h';exact⟨h1,h2⟩
 ·intro v ps bB f h;obtain⟨_,rfl,rfl⟩:=oF h;exact⟨.refl _,fun _ _ _ _=>rfl⟩
 ·intro l ih v ps bB f h;obtain⟨l',rfl,h'⟩:=qwj h;obtain⟨h1,h2⟩:=ih _ _ _ _ h';exact⟨h1,h2⟩
 ·intro l ih v ps bB f h;obtain⟨l',rfl,h'⟩:=qwk h;obtain⟨h1,h2⟩:=ih _ _ _ _ h';exact⟨h1,h2⟩
 ·intro i v ps bB f h;obtain⟨h1,rfl⟩:=qwf (o:=o) h;exact⟨h1,fun _ _ _ _=>rfl⟩
 ·intro v ps bB f h;obtain⟨_,rfl,rfl⟩:=oF h;exact⟨.refl _,fun _ _ _ _=>rfl⟩
 ·intro v ps bB f h;obtain⟨_,rfl,rfl⟩:=oF h;exact⟨.refl _,fun _ _ _ _=>rfl⟩
 ·intro v ps bB f h;obtain⟨_,rfl,rfl⟩:=oF (b:=true) (ps:=ps) h;exact⟨.refl _,fun _ _ _ _=>rfl⟩
 ·intro i v ps bB f h;obtain⟨id,b,cs,rfl,_,rfl,rfl⟩:=V6 (o:=o) h;exact⟨.tie _ _,fun _ _ _ _=>rfl⟩
 ·intro i v ps bB f h;obtain⟨id,ver,lo,t,s,rfl,_,rfl,rfl⟩:=qij (o:=o) h;exact⟨⟨fun _ h=>zm _ h,fun _ h=>h,fun _ h=>h,fun _ h=>zm _ h⟩,fun _ _ _ _=>rfl⟩
 ·intro i v ps bB f h;obtain⟨h1,rfl⟩:=qwg (o:=o) h;exact⟨h1,fun _ _ _ _=>rfl⟩
 ·intro a v ps bB f h;rcases qmf (o:=o) h with ⟨k,n,rfl,rfl,rfl⟩|⟨rfl,rfl,rfl⟩|⟨g,i,rfl,_,_,rfl,rfl⟩|⟨g,i,w,p,rfl,_,_,h2,rfl⟩
  ·exact⟨.refl _,fun _ _ _ _=>rfl⟩
  ·exact⟨.refl _,fun _ _ _ _=>rfl⟩
  ·exact⟨.refl _,fun _ _ _ _=>rfl⟩
  ·obtain⟨h1,x,rfl,_⟩:=V8 (o:=o) h2;exact⟨h1,fun _ _ _ _=>rfl⟩
 ·intro t v ps bB f h;obtain⟨h1,x,rfl,_⟩:=qmg (o:=o) h;exact⟨h1,fun _ _ _ _=>rfl⟩
 ·intro vs ps bB f h;obtain⟨rfl,rfl,rfl⟩:=SJ h;exact⟨.refl _,fun _ _ _ _=>rfl⟩
 ·intro s l iO iP vs ps bB f h;obtain⟨v,Iu,j0,f1,g1,rfl,h1,h2,rfl⟩:=Oc h;obtain⟨a1,a2⟩:=iO _ _ _ _ h1;obtain⟨b1,b2⟩:=iP _ _ _ _ h2;refine⟨a1.trans b1,fun ρ κ r c=>?_⟩;show(eX ρ κ l r (jW ρ κ s (gK l r) (f1 _ (g1 r c))).2).2=c;rw[a2,b2]
theorem Mt:∀l:List Sh,z45 o l
 |[]=>by intro vs ps bB f h;obtain⟨rfl,rfl,rfl⟩:=SJ h;exact⟨.refl _,fun _ _ _ _=>rfl⟩
 |s::l=>by intro vs ps bB f h;obtain⟨v,Iu,j0,f1,g1,rfl,h1,h2,rfl⟩:=Oc h;obtain⟨a1,a2⟩:=z60 s _ _ _ _ h1;obtain⟨b1,b2⟩:=Mt l _ _ _ _ h2;refine⟨a1.trans b1,fun ρ κ r c=>?_⟩;show(eX ρ κ l r (jW ρ κ s (gK l r) (f1 _ (g1 r c))).2).2=c;rw[a2,b2]
theorem SK{ct:Nat}{s:ft}{ps bB:PS}{f:∀r,aj r->aj (LW s r)}(h:xe lf o ct s ps=some (bB,f)):eu ps bB/\∀(ρ κ:Nat->Nat) i r c,(eY ρ κ i s r (f r c)).2=c:=by
 cases s with
 |box l=>
  simp only[xe] at h;cases e:o ct<;>rw[e] at h<;>simp only at h<;>try (cases h;done)
  obtain⟨h1,h2⟩:=Mt l _ _ _ _ h;exact⟨h1,fun ρ κ i r c=>h2 ρ κ r c⟩
 |vec t=>
  simp only[xe] at h;split at h
  ·split at h
   ·split at h
    ·injection h with h;injection h with h1 h2;subst h1 h2;exact⟨.refl _,fun _ _ _ _ _=>rfl⟩
    ·injection h with h;injection h with h1 h2;subst h1 h2;exact⟨⟨fun _ h=>h,fun _ h=>h,fun _ h=>h,fun _ h=>zm _ h⟩,fun _ _ _ _ _=>rfl⟩
   ·cases h
  ·cases h
 |map k v=>
  simp only[xe] at h;split at h
  ·split at h
   ·injection h with h;injection h with h1 h2;subst h1 h2;exact⟨.refl _,fun _ _ _ _ _=>rfl⟩
   ·cases h
  ·cases h
 |gone=>simp only[xe] at h;injection h with h;injection h with h1 h2;subst h1 h2;exact⟨.refl _,fun _ _ _ _ _=>rfl⟩
 |iter=>
  simp only[xe] at h;split at h
  ·injection h with h;injection h with h1 h2;subst h1 h2;exact⟨.refl _,fun _ _ _ _ _=>rfl⟩
  ·cases h
def C2(o:Nat->Obj)(psF:PS)(i:Nat)(sh:ft)(ob:Obj):Prop:=(sh=.gone/\ob=.dead)\/∃ct B8 wC f,(i,ct)∈psF.aS/\xe lf o ct sh B8=some (wC,f)/\eu wC psF/\∃r c,ob=(eY cv bS i sh r (f r c)).1
def V9(o:Nat->Obj)(psF:PS):Nat->List ft->List (Nat×Obj)->Prop
 |_,[],os=>os=[]
 |i,s::l,os=>∃ob r,os=(i,ob)::r/\C2 o psF i s ob/\V9 o psF (i+1) l r
theorem Iv:∀{l:List (Nat×Nat)} {i x:Nat},gf i l=some x->(i,x)∈l
 |(a,b)::r,i,x,h=>by
  simp only[gf] at h;cases hb:Nat.beq a i with
  |true=>rw[hb] at h;have h1:=zg hb;have h2:=zK h;subst h1 h2;exact zj ..
  |false=>rw[hb] at h;exact zm _ (Iv h)
theorem Mu{psF:PS}:∀(l:List ft) (i:Nat) (ps bB:PS) (g:∀r,aj r->aj (bQ l r)),lY lf o i l ps=some (bB,g)->eu ps bB/\(eu bB psF->∀r c,V9 o psF i l (fH cv bS i l r (g r c)))
 |[],i,ps,bB,g,h=>by simp only[lY] at h;injection h with h;injection h with h1 h2;subst h1 h2;exact⟨.refl _,fun _ _ _=>rfl⟩
 |.gone::l,i,ps,bB,g,h=>by
  simp only[lY] at h;split at h
  ·rename_i j0 g1 h1;injection h with h;injection h with h2 h3;subst h2 h3;obtain⟨a1,a2⟩:=Mu l (i+1) _ _ _ h1;exact⟨a1,fun hm r c=>⟨.dead,_,rfl,.inl ⟨rfl,rfl⟩,a2 hm r c⟩⟩
  ·cases h
 |.box q::l,i,ps,bB,g,h=>by
  simp only[lY] at h;split at h
  ·rename_i ct h0;split at h
   ·rename_i j0 f1 h1;split at h
    ·rename_i GU g2 h2;injection h with h;injection h with h3 h4;subst h3 h4;obtain⟨b1,b2⟩:=SK h1;obtain⟨a1,a2⟩:=Mu l (i+1) _ _ _ h2;refine⟨b1.trans a1,fun hm r c=>⟨_,_,rfl,.inr ⟨ct,ps,j0,f1,hm.aS _ ((b1.trans a1).aS _ (Iv h0)),h1,a1.trans hm,_,_,rfl⟩,?_⟩⟩;rw[b2];exact a2 hm r c
    ·cases h
   ·cases h
  ·cases h
 |.vec q::l,i,ps,bB,g,h=>by
  simp only[lY] at h;split at h
  ·rename_i ct h0;split at h
   ·rename_i j0 f1 h1;split at h
    ·rename_i GU g2 h2;injection h with h;injection h with h3 h4;subst h3 h4;obtain⟨b1,b2⟩:=SK h1;obtain⟨a1,a2⟩:=Mu l (i+1) _ _ _ h2;refine⟨b1.trans a1,fun hm r c=>⟨_,_,rfl,.inr ⟨ct,ps,j0,f1,hm.aS _ ((b1.trans a1).aS _ (Iv h0)),h1,a1.trans hm,_,_,rfl⟩,?_⟩⟩;rw[b2];exact a2 hm r c
    ·cases h
   ·cases h
  ·cases h
 |.map q q'::l,i,ps,bB,g,h=>by
  simp only[lY] at h;split at h
  ·rename_i ct h0;split at h
   ·rename_i j0 f1 h1;split at h
    ·rename_i GU g2 h2;injection h with h;injection h with h3 h4;subst h3 h4;obtain⟨b1,b2⟩:=SK h1;obtain⟨a1,a2⟩:=Mu l (i+1) _ _ _ h2;refine⟨b1.trans a1,fun hm r c=>⟨_,_,rfl,.inr ⟨ct,ps,j0,f1,hm.aS _ ((b1.trans a1).aS _ (Iv h0)),h1,a1.trans hm,_,_,rfl⟩,?_⟩⟩;rw[b2];exact a2 hm r c
    ·cases h
   ·cases h
  ·cases h
 |.iter::l,i,ps,bB,g,h=>by
  simp only[lY] at h;split at h
  ·rename_i ct h0;split at h
   ·rename_i j0 f1 h1;split at h
    ·rename_i GU g2 h2;injection h with h;injection h with h3 h4;subst h3 h4;obtain⟨b1,b2⟩:=SK h1;obtain⟨a1,a2⟩:=Mu l (i+1) _ _ _ h2;refine⟨b1.trans a1,fun hm r c=>⟨_,_,rfl,.inr ⟨ct,ps,j0,f1,hm.aS _ ((b1.trans a1).aS _ (Iv h0)),h1,a1.trans hm,_,_,rfl⟩,?_⟩⟩;rw[b2];exact a2 hm r c
    ·cases h
   ·cases h
  ·cases h
end
theorem qr2{n:Nat}{x:Option Nat}(h:UC n x=true):x=some n:=by
 cases x with
 |none=>cases h
 |some m=>exact congrArg some (zg h)
theorem SL{x:Option Nat}(h:Nl x=true):x=none:=by
 cases x with
 |none=>rfl
 |some m=>cases h
theorem qil{k:Nat}{all:List (Nat×Nat)}:∀{l:List (Nat×Nat)},Rt k all l=true->∀p,p∈l->p.1<k/\gf p.1 all=some p.2/\Rr p.2 all=some p.1
 |(i,ct)::r,h,p,hp=>by
  simp only[Rt,zd] at h;obtain⟨⟨⟨h1,h2⟩,h3⟩,h4⟩:=h;rcases zt.1 hp with rfl|hp
  ·exact⟨zF h1,qr2 h2,qr2 h3⟩
  ·exact qil h4 p hp
theorem qim{id n:Nat}:∀{l:List (Nat×Nat)},(id,n)∈l->∃m,gf id l=some m
 |(i,m)::r,h=>by
  simp only[gf];cases hb:Nat.beq i id with
  |true=>exact⟨m,rfl⟩
  |false=>
   rcases zt.1 h with h|h
   ·injection h with h _;subst h;rw[Nat.beq_refl] at hb;cases hb
   ·exact qim h
theorem qin:∀{l:List (Nat×Nat)},Ru l=true->∀p,p∈l->gf p.1 l=some p.2
 |(i,n)::r,h,p,hp=>by
  simp only[Ru,zd] at h;simp only[gf];rcases zt.1 hp with rfl|hc
  ·rw[Nat.beq_refl];rfl
  ·cases hb:Nat.beq i p.1 with
   |true=>have:=zg hb;subst this;obtain⟨m,hm⟩:=qim (id:=p.1) (n:=p.2) hc;rw[SL h.1] at hm;cases hm
   |false=>exact qin h.2 p hc
theorem qg4{cut:List (Nat×Nat)}:∀{l:List Nat},Rv cut l=true->∀p,p∈l->gf p cut=none
 |i::r,h,p,hp=>by
  simp only[Rv,zd] at h;rcases zt.1 hp with rfl|hp
  ·exact SL h.1
  ·exact qg4 h.2 p hp
theorem z10{aS:List (Nat×Nat)}:∀{i j:Nat},(i,j)∈aS->xa j aS=true:=by
 induction aS with
 |nil=>intro i j h;cases h
 |cons p r ih=>
  obtain⟨a,b⟩:=p;intro i j h;simp only[xa];rcases zt.1 h with h|h
  ·injection h with _ h;subst h;rw[Nat.beq_refl];rfl
  ·cases hb:Nat.beq b j
   ·exact ih h
   ·rfl
theorem qg5{aS:List (Nat×Nat)}:∀{l:List Nat},Rw l aS=true->∀j,j∈l->∀i,(i,j)∉aS
 |a::r,h,j,hj,i,hi=>by
  simp only[Rw] at h;cases hb:xa a aS with
  |true=>rw[hb] at h;cases h
  |false=>
   rw[hb] at h;rcases zt.1 hj with rfl|hj
   ·rw[z10 hi] at hb;cases hb
   ·exact qg5 h j hj i hi
section
variable {C:Cx} {X:Nat→Prop} {φ:Nat→Addr} {o:Nat→Obj} {w:World} {imm imm':Nat→Prop}
theorem qmh(hl:∀id,oC φ o imm w id (o id))(hi:∀b,imm b->imm' b){t:Ty}{x:V}{d:den t}{z:Value}(hx:av φ o imm w x z)(hf:∀id,id∈eF o x->∀t ver s,o id=.vec t ver false s->s.nil=false->(φ id).spot=none->imm' (φ id).block)(h:ie lf o t x=some d):ba imm' w t d z:=by
 rcases Sd h with rfl|⟨e',ht,s',h1,h2⟩|⟨e',ht,rfl,h2⟩
 ·exact rh hi (fun _ _=>rfl) _ _ _ hx
 ·subst ht;subst h2;obtain⟨⟨g1,g2⟩,id,ver,fr,s0,g3,g4,g5,g6,g8⟩:=Sc hl hx h1;refine⟨z,rfl,g1,?_⟩;rcases g2 with g2|⟨hn,a,cap,ec,h5,h6,h7,h8,h9⟩
  ·exact .inl g2
  ·refine .inr ⟨hn,a,cap,ec,h5,h6,fun hc=>?_,mO (fW hi (fun _ _=>rfl) _) h7,h8,h9⟩;rw[g4 hn _ _ _ h5];have ho:=hl id;rw[g3] at ho;obtain⟨_,_,ho⟩:=ho;rcases ho (g5▸hn) with ⟨g9,_,_,_,_,_,g7⟩|⟨_,g7,_⟩
   ·cases e:fr with
    |false=>subst e;exact hf id (g6 rfl) _ _ _ g3 (g5▸hn) g9
    |true=>exact hi _ (g7 e)
   ·exact absurd (g8 g7) hc
 ·subst ht;subst h2;exact⟨z,rfl,Nat.zero_le _,.inl ⟨rfl,rfl,hx⟩⟩
theorem qr3(hl:∀id,oC φ o imm w id (o id))(hi:∀b,imm b->imm' b){t:Ty}{x:V}{d:den t}{z:Value}(hx:av φ o imm w x z)(hf:∀id,id∈eF o x->∀t ver s,o id=.vec t ver false s->s.nil=false->(φ id).spot=none->imm' (φ id).block)(h:lX lf o t x=some d):ba imm' w t d z:=by
 rcases Se h with h|⟨p,ht,s,h1,h2⟩
 ·exact qmh hl hi hx hf h
 ·subst ht;subst h2;have h3:az imm' w (.sl (lK p)) s [z]:=qmh hl hi hx hf h1;show az imm' w (.ks p) (LP p s) [z];rw[Mi,Vj];exact h3
def C3(φ:Nat->Addr)(o:Nat->Obj)(imm':Nat->Prop)(x:V):Prop:=∀id,id∈eF o x->∀t ver s,o id=.vec t ver false s->s.nil=false->(φ id).spot=none->imm' (φ id).block
theorem Wa(hl:∀id,oC φ o imm w id (o id))(hi:∀b,imm b->imm' b):∀(t:Ty) (cs r:List V) (d:den t) (zs:List Value),bV φ o imm w cs zs->(∀c,c∈cs->C3 φ o imm' c)->kF lf o t cs=some (d,r)->∃zc zr,zs=zc++zr/\az imm' w t d zc/\bV φ o imm w r zr/\(∀c,c∈r->C3 φ o imm' c):=by
 have one:∀(t:Ty) (cs r:List V) (d:den t) (zs:List Value),bV φ o imm w cs zs->(∀c,c∈cs->C3 φ o imm' c)->
   (match cs with|c::r=>(match lX lf o t c with|some x=>some (x,r)|none=>none)|[]=>none)=some (d,r)->
   ∃z zr,zs=z::zr/\ba imm' w t d z/\bV φ o imm w r zr/\(∀c,c∈r->C3 φ o imm' c):=by
  intro t cs r d zs hr hf h;cases cs with
  |nil=>cases h
  |cons c cs=>
   simp only at h;split at h
   ·rename_i x hx;injection h with h;injection h with h1 h2;subst h1 h2;obtain⟨z,zr,h3,h4,h5⟩:=hr;exact⟨z,zr,h3,qr3 hl hi h4 (hf _ (zj ..)) hx,h5,fun c hc=>hf c (zm _ hc)⟩
   ·cases h
 intro t
 induction t with
 |unit=>intro cs r d zs hr hf h;simp only[kF,zE,Prod.mk.injEq] at h;obtain⟨_,rfl⟩:=h;exact⟨[],zs,rfl,rfl,hr,hf⟩
 |pair a b nA jD=>
  intro cs r d zs hr hf h;simp only[kF] at h;split at h
  ·rename_i x r1 h1;split at h
   ·rename_i y r2 h2;injection h with h;injection h with h3 h4;subst h3 h4;obtain⟨zc,zr,e1,e2,e3,e4⟩:=nA _ _ _ _ hr hf h1;obtain⟨NX,VA,g1,g2,g3,g4⟩:=jD _ _ _ _ e3 e4 h2;exact⟨zc++NX,VA,by rw[e1,g1,zC],⟨zc,NX,rfl,e2,g2⟩,g3,g4⟩
   ·cases h
  ·cases h
 |st p ih=>intro cs r d zs hr hf h;exact ih _ _ _ _ hr hf h
 |arr n e _=>intro cs r d zs hr hf h;cases h
 |int k=>intro cs r d zs hr hf h;obtain⟨z,zr,e1,e2,e3⟩:=one _ cs r d zs hr hf (by cases cs<;>exact h);exact⟨[z],zr,e1,e2,e3⟩
 |bool=>intro cs r d zs hr hf h;obtain⟨z,zr,e1,e2,e3⟩:=one _ cs r d zs hr hf (by cases cs<;>exact h);exact⟨[z],zr,e1,e2,e3⟩
 |ej=>intro cs r d zs hr hf h;obtain⟨z,zr,e1,e2,e3⟩:=one _ cs r d zs hr hf (by cases cs<;>exact h);exact⟨[z],zr,e1,e2,e3⟩
 |cJ=>intro cs r d zs hr hf h;obtain⟨z,zr,e1,e2,e3⟩:=one _ cs r d zs hr hf (by cases cs<;>exact h);exact⟨[z],zr,e1,e2,e3⟩
 |str=>intro cs r d zs hr hf h;obtain⟨z,zr,e1,e2,e3⟩:=one _ cs r d zs hr hf (by cases cs<;>exact h);exact⟨[z],zr,e1,e2,e3⟩
 |sl e _=>intro cs r d zs hr hf h;obtain⟨z,zr,e1,e2,e3⟩:=one _ cs r d zs hr hf (by cases cs<;>exact h);exact⟨[z],zr,e1,e2,e3⟩
 |ks e _=>intro cs r d zs hr hf h;obtain⟨z,zr,e1,e2,e3⟩:=one _ cs r d zs hr hf (by cases cs<;>exact h);exact⟨[z],zr,e1,e2,e3⟩
theorem qe1:∀{cs:List V},C3 φ o imm' (.agg cs)->∀c,c∈cs->C3 φ o imm' c
 |c'::cs,h,c,hc,id,hi=>by
  rcases zt.1 hc with rfl|hc
  ·exact h id (by unfold eF oS;exact List.mem_append_left _ hi)
  ·exact qe1 (cs:=cs) (fun id hi=>h id (by unfold eF at hi ⊢;unfold oS;exact List.mem_append_right _ hi)) c hc id hi
theorem qwl(hl:∀id,oC φ o imm w id (o id))(hi:∀b,imm b->imm' b){t:Ty}{x:V}{d:den t}{z:Value}(hx:av φ o imm w x z)(hf:C3 φ o imm' x)(h:fj lf o t x=some d):ba imm' w t d z:=by
 by_cases hc:∃cs,x=.agg cs
 ·obtain⟨cs,rfl⟩:=hc;simp only[fj] at h;split at h
  ·rename_i p;split at h
   ·rename_i y h1;injection h with h;subst h;obtain⟨c,rfl,hr⟩:=hx;obtain⟨zc,zr,e1,e2,e3,_⟩:=Wa hl hi _ _ _ _ _ hr (qe1 hf) h1;have:zr=[]:=e3;subst this;exact⟨c,rfl,by rw[e1,zu];exact e2⟩
   ·cases h
  ·cases h
 ·have:fj lf o t x=lX lf o t x:=by cases x<;>first|rfl|exact absurd ⟨_,rfl⟩ hc
  exact qr3 hl hi hx hf (this▸h)
structure bM (o:Nat->Obj) (psF:PS) (k:Nat) (aw:List ft) (oc:Nat->Obj):Prop where
 fin:HT k psF=true
 len:aw.length=k
 ob:∀i sh,aw[i]?=some sh->C2 o psF i sh (oc i)
 none:∀i,k<=i->oc i=.none
def uK(psF:PS)(i:Nat):Nat:=(gf i psF.aS).getD 0
theorem bM.aS{psF:PS}{k:Nat}{aw:List ft}{oc:Nat->Obj}(h:bM o psF k aw oc){i ct:Nat}(hp:(i,ct)∈psF.aS):i<k/\uK psF i=ct/\Rr ct psF.aS=some i:=by have hf:=h.fin;unfold HT at hf;simp only[zd] at hf;obtain⟨h1,h2,h3⟩:=qil hf.1.1.1 _ hp;exact⟨h1,by unfold uK;rw[h2];rfl,h3⟩
theorem bM.bY{psF:PS}{k:Nat}{aw:List ft}{oc:Nat->Obj}(h:bM o psF k aw oc){i ct:Nat}(hp:(i,ct)∈psF.aS):ct∉psF.bY:=fun hl=>by have hf:=h.fin;unfold HT at hf;simp only[zd] at hf;exact qg5 hf.2 ct hl i hp
theorem bM.cut{psF:PS}{k:Nat}{aw:List ft}{oc:Nat->Obj}(h:bM o psF k aw oc){id n:Nat}(hp:(id,n)∈psF.cut):gf id psF.cut=some n:=by have hf:=h.fin;unfold HT at hf;simp only[zd] at hf;exact qin hf.1.1.2 _ hp
theorem bM.full{psF:PS}{k:Nat}{aw:List ft}{oc:Nat->Obj}(h:bM o psF k aw oc){id:Nat}(hp:id∈psF.full):gf id psF.cut=.none:=by have hf:=h.fin;unfold HT at hf;simp only[zd] at hf;exact qg4 hf.1.2 _ hp
noncomputable def C4{t:Ty}(s:Sl (den t)):Option Nat->Sl (den t)
 |some n=>⟨s.nil,lf.aF s.l n⟩
 |none=>s
theorem bM.kind{psF:PS}{k:Nat}{aw:List ft}{oc:Nat->Obj}(h:bM o psF k aw oc){i:Nat}(hi:i<k):oc i=.dead\/∃ct,(i,ct)∈psF.aS/\((∃l cs B8 wC f r c,o ct=.box cs/\lL lf o l cs B8=some (wC,f)/\eu wC psF/\oc i=.box (eX cv bS l r (f r c)).1)\/(∃t ver s,o ct=.vec t ver false s/\oc i=.vec t 0 false (C4 s (gf ct psF.cut)))\/(∃k v m,o ct=.map k v m/\oc i=.map k v m)\/(∃l p,o ct=.iter l p/\oc i=.iter l p)):=by
 have hc:i<aw.length:=by rw[h.len];exact hi
 rcases h.ob i _ (ze hc) with ⟨_,h1⟩|⟨ct,B8,wC,f,h1,h2,h3,r,c,h4⟩
 ·exact .inl h1
 ·generalize hf:aw[i]=sh at*
  cases sh with
  |gone=>exact .inl h4
  |box l=>
   have h2:(match o ct with|.box cs=>lL lf o l cs B8|_=>.none)=some (wC,f):=h2;cases e:o ct<;>rw[e] at h2<;>try (cases h2;done)
   exact .inr ⟨ct,h1,.inl ⟨l,_,B8,wC,f,r,c,e,h2,h3,h4⟩⟩
  |vec t=>
   simp only[xe] at h2;cases e:o ct<;>rw[e] at h2<;>try (cases h2;done)
   rename_i t' ver fr s;cases fr<;>try (cases h2;done)
   simp only at h2;split at h2
   ·rename_i s' hs;obtain⟨ht,hs⟩:=wB hs;injection ht with ht;subst ht;subst hs;refine .inr ⟨ct,h1,.inr (.inl ⟨t',ver,_,e,?_⟩)⟩;split at h2
    ·rename_i n hn;injection h2 with h2;injection h2 with h5 h6;subst h5 h6;rw[h4,h.cut (h3.cut _ (Iv hn))];rfl
    ·injection h2 with h2;injection h2 with h5 h6;subst h5 h6;rw[h4,h.full (h3.full _ (zj ..))];rfl
   ·cases h2
  |map kt vt=>
   simp only[xe] at h2;cases e:o ct<;>rw[e] at h2<;>try (cases h2;done)
   rename_i k' v' m;simp only at h2;split at h2
   ·rename_i m' hs;obtain⟨ht,hs⟩:=wB hs;injection ht with _ ht;injection ht with hd he;subst hd he;subst hs;injection h2 with h2;injection h2 with h5 h6;subst h5 h6;exact .inr ⟨ct,h1,.inr (.inr (.inl ⟨_,_,_,e,h4⟩))⟩
   ·cases h2
  |iter=>
   simp only[xe] at h2;cases e:o ct<;>rw[e] at h2<;>try (cases h2;done)
   injection h2 with h2;injection h2 with h5 h6;subst h5 h6;exact .inr ⟨ct,h1,.inr (.inr (.inr ⟨_,_,e,h4⟩))⟩
end
section
variable {C:Cx} {X:Nat→Prop} {φ:Nat→Addr} {o oc:Nat→Obj} {w:World} {psF:PS} {k:Nat} {aw:List ft}
def eN(φ:Nat->Addr)(psF:PS):Nat->Addr:=fun i=>φ (uK psF i)
def XC(X:Nat->Prop)(φ:Nat->Addr)(o oc:Nat->Obj)(psF:PS)(b:Nat):Prop:=X b\/∃id,aV (φ id) (o id)=true/\(φ id).block=b/\id∉psF.bY/\¬∃i,aV (eN φ psF i) (oc i)=true/\uK psF i=id
theorem bM.Iw(h:bM o psF k aw oc){i:Nat}(hx:aV (eN φ psF i) (oc i)=true):i<k/\(i,uK psF i)∈psF.aS/\aV (φ (uK psF i)) (o (uK psF i))=true:=by
 have hi:i<k:=zM fun hn=>by rw[h.none i om] at hx;exact ky hx
 rcases h.kind hi with h1|⟨ct,h1,h2⟩
 ·rw[h1] at hx;simp[aV,live] at hx
 ·have:=(h.aS h1).2.1;unfold eN at hx;rw[this] at hx ⊢;refine⟨hi,h1,?_⟩;rcases h2 with ⟨l,cs,B8,wC,f,r,c,e,_⟩|⟨t,ver,s,e,e'⟩|⟨_,_,m,e,_⟩|⟨_,_,e,_⟩
  ·rw[e];rfl
  ·rw[e'] at hx;obtain⟨hn,_,hs⟩:=CS hx;have hn:s.nil=false:=by cases hc:gf ct psF.cut<;>rw[hc] at hn<;>simpa[C4] using hn
   rw[e];exact oV hn hs
  ·rw[e];rfl
  ·rw[e];rfl
theorem bM.kK(h:bM o psF k aw oc){b:Nat}(hb:lZ (eN φ psF) oc b):lZ φ o b:=by obtain⟨i,h1,h2⟩:=hb;exact⟨uK psF i,(h.Iw h1).2.2,h2⟩
theorem bM.imm(h:bM o psF k aw oc){b:Nat}(hb:ah X φ o w b):ah (XC X φ o oc psF) (eN φ psF) oc w b:=by
 obtain⟨h1,h2,h3⟩:=hb;refine⟨h1,?_,fun hn=>h3 (h.kK hn)⟩;rintro(hx|⟨id,e1,e2,_⟩)
 ·exact h2 hx
 ·exact h3 ⟨id,e1,e2⟩
theorem bM.mT(h:bM o psF k aw oc)(hm:MRel C X φ o w){id:Nat}(hx:aV (φ id) (o id)=true)(hl:id∈psF.bY):ah (XC X φ o oc psF) (eN φ psF) oc w (φ id).block:=by
 obtain⟨h1,h2⟩:=hm.sep id hx;refine⟨h1,?_,fun⟨i,e1,e2⟩=>?_⟩
 ·rintro(hc|⟨nB,e1,e2,e3,_⟩)
  ·exact h2 hc
  ·have:=hm.inj nB id e1 hx e2;exact e3 (this▸hl)
 ·obtain⟨_,g1,g2⟩:=h.Iw e1;have:=hm.inj _ id g2 hx e2;exact h.bY g1 (this▸hl)
def SM(φ:Nat->Addr)(o oc:Nat->Obj)(imm Ix:Nat->Prop)(w:World)(psF:PS)(s:Sh):Prop:=∀v z ps bB f,av φ o imm w v z->Gx lf o s v ps=some (bB,f)->eu bB psF->
 ∀r c,av (eN φ psF) oc Ix w (jW cv bS s r (f r c)).1 z
def z8t(φ:Nat->Addr)(o oc:Nat->Obj)(imm Ix:Nat->Prop)(w:World)(psF:PS)(l:List Sh):Prop:=∀vs zs ps bB f,bV φ o imm w vs zs->lL lf o l vs ps=some (bB,f)->eu bB psF->
 ∀r c,bV (eN φ psF) oc Ix w (eX cv bS l r (f r c)).1 zs
theorem B9(h:bM o psF k aw oc){i id:Nat}(hp:(i,id)∈psF.aS):oc i=.dead\/((∃cs jE,o id=.box cs/\oc i=.box jE)\/(∃t ver s,o id=.vec t ver false s/\oc i=.vec t 0 false (C4 s (gf id psF.cut)))\/(∃k v m,o id=.map k v m/\oc i=.map k v m)\/(∃l p,o id=.iter l p/\oc i=.iter l p))/\eN φ psF i=φ id:=by
 obtain⟨h1,h2,_⟩:=h.aS hp;rcases h.kind h1 with h3|⟨ct,h3,h4⟩
 ·exact .inl h3
 ·have:=(h.aS h3).2.1;rw[h2] at this;subst this;refine .inr ⟨?_,by unfold eN;rw[h2]⟩;rcases h4 with ⟨l,cs,B8,wC,f,r,c,e,_,_,e'⟩|h4|h4|h4
  ·exact .inl ⟨cs,_,e,e'⟩
  ·exact .inr (.inl h4)
  ·exact .inr (.inr (.inl h4))
  ·exact .inr (.inr (.inr h4))
theorem Wb:∀{cs:List V} {q:V} {id:Nat},q∈cs->id∈eF o q->id∈oS o cs
 |c::cs,q,id,hq,hi=>by
  unfold oS;rcases zt.1 hq with rfl|hq
  ·exact List.mem_append_left _ hi
  ·exact List.mem_append_right _ (Wb hq hi)
theorem qr4(hm:MRel C X φ o w)(h:bM o psF k aw oc)(t:Ty):SM φ o oc (ah X φ o w) (ah (XC X φ o oc psF) (eN φ psF) oc w) w psF (.ref t):=by
 intro v z ps bB f hv hp hM r c;obtain⟨_,x,rfl,hx⟩:=V8 (o:=o) hp;show av (eN φ psF) oc _ w (.ref t x) z;rcases hx with ⟨rfl,rfl⟩|⟨id,rfl,hb,rfl⟩
 ·obtain⟨a,cs,h1,h2,h3,h4,h5⟩:=hv;exact⟨a,cs,h1,h2,h.imm h3,fW (fun b hb=>h.imm hb) (fun _ _=>rfl) _ _ _ h4,h5⟩
 ·unfold qX at hb;split at hb
  ·rename_i cs e;split at hb
   ·rename_i y hy;injection hb with hb;subst hb;have hd:aV (φ id) (o id)=true:=by rw[e];rfl
    have hc:id∈psF.bY:=hM.bY _ (zj ..);have ho:=hm.aw id;unfold av at hv;rw[e] at hv ho;simp only at hv;subst hv;obtain⟨h0,cz,el,lo,hg,g1,g2,g3⟩:=ho;have he:∀q,q∈cs->C3 φ o (ah (XC X φ o oc psF) (eN φ psF) oc w) q:=by intro q hq nB hi t ver s e' hn hs;refine h.mT hm (by rw[e'];exact oV hn hs) (hM.bY _ (zm _ (List.mem_append_left _ ?_)));unfold L1;rw[e];exact Wb hq hi
    obtain⟨zc,zr,a1,a2,a3,_⟩:=Wa hm.aw (fun b hb=>h.imm hb) _ _ _ _ _ g3 he hy;have:zr=[]:=a3;subst this;refine⟨_,zc,rfl,rfl,h.mT hm hd hc,a2,?_⟩;have:=N2 g1 0 cz.size;rw[List.drop_zero,a1,zu] at this;have hf:zc.length=cz.size:=by rw[<-Array.length_toList,a1,zu]
    rw[<-hf,List.take_length] at this;rw[h0,zO];exact this
   ·cases hb
  ·cases hb
theorem z62(hm:MRel C X φ o w)(h:bM o psF k aw oc)(t:Ty):SM φ o oc (ah X φ o w) (ah (XC X φ o oc psF) (eN φ psF) oc w) w psF (.rr t):=by
 intro v z ps bB f hv hp hM r c;obtain⟨_,x,rfl,hx⟩:=qmg (o:=o) hp;show av (eN φ psF) oc _ w (.rr t x) z;rcases hx with ⟨rfl,rfl⟩|⟨id,jX,rfl,hf,hb,rfl⟩
 ·obtain⟨a,b,cs,h1,h2,h3,h4,h5,h6,h7,h8⟩:=hv;exact⟨a,b,cs,h1,h2,h.imm h3,h4,h5,h.imm h6,fW (fun b hb=>h.imm hb) (fun _ _=>rfl) _ _ _ h7,h8⟩
 ·unfold qX at hb;split at hb
  ·rename_i cs e;split at hb
   ·rename_i y hy;injection hb with hb;subst hb;have hc:aV (φ id) (o id)=true:=by rw[hf];rfl
    have hj:aV (φ jX) (o jX)=true:=by rw[e];rfl
    have hk:id∈psF.bY:=hM.bY _ (zj ..);have hd:jX∈psF.bY:=hM.bY _ (zm _ (zj ..));have hg:=hm.aw id;have ho:=hm.aw jX;unfold av at hv;rw[hf] at hv hg;rw[e] at ho;simp only at hv;subst hv;obtain⟨k0,cz1,el1,SO,ht,q1,q2,q3⟩:=hg;obtain⟨zp,rp,p1,p2,p3⟩:=q3;have p3:rp=[]:=p3;have p2:av φ o (ah X φ o w) w (.ptr jX 0) zp:=p2;unfold av at p2;rw[e] at p2;simp only at p2;subst p2 p3;obtain⟨h0,cz,el,lo,hu,g1,g2,g3⟩:=ho;have hl:∀q,q∈cs->C3 φ o (ah (XC X φ o oc psF) (eN φ psF) oc w) q:=by intro q hq nB hi t ver s e' hn hs;refine h.mT hm (by rw[e'];exact oV hn hs) (hM.bY _ (zm _ (zm _ (List.mem_append_left _ ?_))));unfold L1;rw[e];exact Wb hq hi
    obtain⟨zc,zr,a1,a2,a3,_⟩:=Wa hm.aw (fun b hb=>h.imm hb) _ _ _ _ _ g3 hl hy;have:zr=[]:=a3;subst this;refine⟨⟨(φ id).block,(φ id).off+0,none⟩,⟨(φ jX).block,(φ jX).off+0,none⟩,zc,rfl,rfl,h.mT hm hc hk,?_,rfl,h.mT hm hj hd,a2,?_⟩
    ·have:=N2 q1 0 cz1.size;rw[List.drop_zero,p1] at this;have he:[Value.pointer (some ⟨(φ jX).block,(φ jX).off+0,none⟩)].length=cz1.size:=by rw[<-Array.length_toList,p1]
     rw[<-he,List.take_length] at this;rw[k0,zO];exact this
    ·have:=N2 g1 0 cz.size;rw[List.drop_zero,a1,zu] at this;have he:zc.length=cz.size:=by rw[<-Array.length_toList,a1,zu]
     rw[<-he,List.take_length] at this;rw[h0,zO];exact this
   ·cases hb
  ·cases hb
theorem Wc(hm:MRel C X φ o w)(h:bM o psF k aw oc)(s:Sh):SM φ o oc (ah X φ o w) (ah (XC X φ o oc psF) (eN φ psF) oc w) w psF s:=by
 refine Sh.rec (motive_1:=SM φ o oc (ah X φ o w) (ah (XC X φ o oc psF) (eN φ psF) oc w) w psF) (motive_2:=z8t φ o oc (ah X φ o w) (ah (XC X φ o oc psF) (eN φ psF) oc w) w psF)
  ?_ ?_ ?_ ?_ ?_ ?_ ?_ ?_ ?_ ?_ ?_ ?_ ?_ ?_ ?_ ?_ ?_ ?_ ?_ ?_ s
 ·intro t v z ps bB f hv hp hM r c;obtain⟨_,x,h1,rfl,rfl⟩:=qr0 (o:=o) hp;refine qwl hm.aw (fun b hb=>h.imm hb) hv (fun id hi t ver s e hn hs=>h.mT hm (by rw[e];exact oV hn hs) (hM.bY _ (List.mem_append_left _ hi))) h1
 ·intro i v z ps bB f hv hp hM r c;replace hp:Np o i v ps=some (bB,f):=hp;unfold Np at hp;show av (eN φ psF) oc _ w (.aX i 0) z;split at hp
  ·rename_i id ver;split at hp
   ·rename_i t aB s e;obtain⟨hb,rfl,rfl⟩:=oF hp;have hr:=hM.aS _ (zj ..);have he:=h.full (hM.full _ (zj ..));unfold av at hv ⊢;rw[e] at hv;replace hv:=hv.2 (zg hb);rcases B9 (φ:=φ) h hr with hd|⟨⟨cs,jE,e1,_⟩|⟨t',rm,s',e1,e2⟩|⟨_,_,m,e1,_⟩|⟨_,_,e1,e3⟩,cR⟩
    ·rw[hd];trivial
    ·rw[e1] at e;cases e
    ·rw[e1] at e;injection e with ea eb ec ed;subst ea eb;have ed:=eq_of_heq ed;subst ed;rw[e2,he,cR];exact⟨Nat.le_refl _,fun _=>hv⟩
    ·rw[e1] at e;cases e
    ·rw[e1] at e;cases e
   ·cases hp
  ·rename_i id ver n cp;split at hp
   ·rename_i t aB s e;obtain⟨hb,rfl,rfl⟩:=oF hp;have hr:=hM.aS _ (zj ..);have hc:=h.cut (hM.cut _ (zj ..));unfold av at hv ⊢;rw[e] at hv;obtain⟨hn,hj,_⟩:=hv.2 (zg hb);clear hv;rcases B9 (φ:=φ) h hr with hd|⟨⟨cs,jE,e1,_⟩|⟨t',rm,s',e1,e2⟩|⟨_,_,m,e1,_⟩|⟨_,_,e1,e3⟩,cR⟩
    ·rw[hd];trivial
    ·rw[e1] at e;cases e
    ·rw[e1] at e;injection e with ea eb ec ed;subst ea eb;have ed:=eq_of_heq ed;subst ed;rw[e2,hc,cR];have hl:(lf.aF s'.l n).length=n:=by simp[lf,aF,Nat.min_eq_left hn]
     refine⟨Nat.le_refl _,fun _=>?_⟩;simp only[C4];rw[hl];exact hj
    ·rw[e1] at e;cases e
    ·rw[e1] at e;cases e
   ·cases hp
  ·cases hp
 ·intro i off v z ps bB f hv hp hM r c;replace hp:Nq o i off v ps=some (bB,f):=hp;unfold Nq at hp;show av (eN φ psF) oc _ w (.ptr i off) z;split at hp
  ·rename_i id HX;unfold av at hv ⊢;split at hp
   ·rename_i cs0 e;obtain⟨hb,rfl,rfl⟩:=oF hp;have hr:=hM.aS _ (zj ..);have:=zg hb;subst this;rw[e] at hv;rcases B9 (φ:=φ) h hr with hd|⟨⟨cs,jE,e1,e2⟩|⟨t',rm,s',e1,e2⟩|⟨_,_,m,e1,_⟩|⟨_,_,e1,e3⟩,cR⟩
    ·rw[hd];trivial
    ·rw[e2,cR];exact hv
    ·rw[e1] at e;cases e
    ·rw[e1] at e;cases e
    ·rw[e1] at e;cases e
   ·rename_i t aB s e;obtain⟨hb,rfl,rfl⟩:=oF hp;rw[zd] at hb;have hr:=hM.aS _ (zj ..);have:=zg hb.1;subst this;rw[e] at hv;replace hv:=hv (zg hb.2).symm;rcases B9 (φ:=φ) h hr with hd|⟨⟨cs,jE,e1,e2⟩|⟨t',rm,s',e1,e2⟩|⟨_,_,m,e1,_⟩|⟨_,_,e1,e3⟩,cR⟩
    ·rw[hd];trivial
    ·rw[e1] at e;cases e
    ·rw[e2,cR];exact fun _=>hv
    ·rw[e1] at e;cases e
    ·rw[e1] at e;cases e
   ·cases hp
  ·cases hp
 ·exact fun t=>qr4 hm h t
 ·intro v z ps bB f hv hp hM r c;obtain⟨hb,_,rfl⟩:=oF hp;have:v=.fP:=by cases v<;>first|rfl|cases hb
  subst this;exact hv
 ·intro g l ih v z ps bB f hv hp hM r c;obtain⟨l',rfl,hf⟩:=z48 hp;obtain⟨cz,h1,h2⟩:=hv;exact⟨cz,h1,ih _ _ _ _ _ h2 hf hM r c⟩
 ·intro v z ps bB f hv hp hM r c;obtain⟨hb,_,rfl⟩:=oF hp;have:v=.fG:=by cases v<;>first|rfl|cases hb
  subst this;exact hv
 ·intro l ih v z ps bB f hv hp hM r c;obtain⟨l',rfl,hf⟩:=qwj hp;obtain⟨cz,h1,h2⟩:=hv;exact⟨cz,h1,ih _ _ _ _ _ h2 hf hM r c⟩
 ·intro l ih v z ps bB f hv hp hM r c;obtain⟨l',rfl,hf⟩:=qwk hp;obtain⟨cz,h1,h2⟩:=hv;exact⟨cz,h1,ih _ _ _ _ _ h2 hf hM r c⟩
 ·intro i v z ps bB f hv hp hM r c;replace hp:xc o i v ps=some (bB,f):=hp;unfold xc at hp;show av (eN φ psF) oc _ w (.mp i) z;split at hp
  ·rename_i id;unfold av at hv ⊢;split at hp
   ·rename_i e;injection hp with hp;injection hp with h1 h2;subst h1 h2;have hr:=hM.aS _ (zj ..);rw[e] at hv;rcases B9 (φ:=φ) h hr with hd|⟨⟨cs,jE,e1,e2⟩|⟨t',rm,s',e1,e2⟩|⟨_,_,m,e1,e2⟩|⟨_,_,e1,e3⟩,cR⟩
    ·rw[hd];trivial
    ·rw[e1] at e;cases e
    ·rw[e1] at e;cases e
    ·rw[e2,cR];exact hv
    ·rw[e1] at e;cases e
   ·cases hp
  ·cases hp
 ·intro v z ps bB f hv hp hM r c;obtain⟨hb,_,rfl⟩:=oF hp;have:v=.ic:=by cases v<;>first|rfl|cases hb
  subst this;exact hv
 ·intro v z ps bB f hv hp hM r c;obtain⟨hb,_,rfl⟩:=oF hp;have:v=.ga:=by cases v<;>first|rfl|cases hb
  subst this;exact hv
 ·intro v z ps bB f hv hp hM r c;exact trivial
 ·intro i v z ps bB f hv hp hM r c;replace hp:Nr o i v ps=some (bB,f):=hp;obtain⟨id,b,cs,rfl,e,rfl,rfl⟩:=V6 hp;have hr:=hM.aS _ (zj ..);show av (eN φ psF) oc _ w (.cG i b) z;unfold av at hv ⊢;rw[e] at hv;rcases B9 (φ:=φ) h hr with hd|⟨⟨cs,jE,e1,e2⟩|⟨t',rm,s',e1,e2⟩|⟨_,_,m,e1,e2⟩|⟨_,_,e1,e3⟩,cR⟩
  ·rw[hd];trivial
  ·rw[e2,cR];exact hv
  ·rw[e1] at e;cases e
  ·rw[e1] at e;cases e
  ·rw[e1] at e;cases e
 ·intro i v z ps bB f hv hp hM r c;replace hp:Ry o i v ps=some (bB,f):=hp;obtain⟨id,ver,lo,t,s,rfl,e,rfl,rfl⟩:=qij hp;have hr:=hM.aS _ (zj ..);have hc:=h.full (hM.full _ (zj ..));show av (eN φ psF) oc _ w (.gb i 0 lo) z;unfold av at hv ⊢;rw[e] at hv;replace hv:=hv.2 rfl;rcases B9 (φ:=φ) h hr with hd|⟨⟨cs,jE,e1,e2⟩|⟨t',rm,s',e1,e2⟩|⟨_,_,m,e1,e2⟩|⟨_,_,e1,e3⟩,cR⟩
  ·rw[hd];trivial
  ·rw[e1] at e;cases e
  ·rw[e1] at e;injection e with ea eb ec ed;subst ea eb;have ed:=eq_of_heq ed;subst ed;rw[e2,hc,cR];exact⟨Nat.le_refl _,fun _=>hv⟩
  ·rw[e1] at e;cases e
  ·rw[e1] at e;cases e
 ·intro i v z ps bB f hv hp hM r c;replace hp:xd o i v ps=some (bB,f):=hp;unfold xd at hp;show av (eN φ psF) oc _ w (.it i) z;split at hp
  ·rename_i id;unfold av at hv ⊢;split at hp
   ·rename_i e;injection hp with hp;injection hp with h1 h2;subst h1 h2;have hr:=hM.aS _ (zj ..);rw[e] at hv;rcases B9 (φ:=φ) h hr with hd|⟨⟨cs,jE,e1,e2⟩|⟨t',rm,s',e1,e2⟩|⟨_,_,m,e1,e2⟩|⟨_,_,e1,e3⟩,cR⟩
    ·rw[hd];trivial
    ·rw[e1] at e;cases e
    ·rw[e1] at e;cases e
    ·rw[e1] at e;cases e
    ·rw[e3,cR];exact hv
   ·cases hp
  ·cases hp
 ·intro a v z ps bB f hv hp hM r c;replace hp:CG lf o a v ps=some (bB,f):=hp;rcases qmf (o:=o) hp with ⟨k,n,rfl,rfl,rfl⟩|⟨rfl,rfl,rfl⟩|⟨g,i,rfl,hg,e,rfl,rfl⟩|⟨g,i,x,p,rfl,hg,e,h2,rfl⟩
  ·show uF _ w a k n z;exact Vn (fun q ⟨b,cs,h1,h2,h3,h4,h5⟩=>⟨b,cs,h1,h2,h.imm h3,fW (fun b hb=>h.imm hb) (fun _ _=>rfl) (.int .i64) n cs h4,h5⟩) a k z hv
  ·show uF _ w a _ _ z;replace hv:z=.nilFunc:=hv;subst hv;exact qme a
  ·obtain⟨cz,h1,h2⟩:=hv;have h2:cz.toList=[]:=h2;have hz:z=.func (.func g) #[] #[]:=by rw[h1,show cz=#[] from Array.toList_eq_nil_iff.1 h2,NL hg]
   obtain⟨j,e1,e2⟩:=V7 (c:=false) hz a 0 i e;rw[zO] at e1;subst e1;exact e2
  ·obtain⟨cz,h1,y,r',e3,hy,e4⟩:=hv;have e4:r'=[]:=e4;subst e4;have hz:z=.func (.func g) #[] #[y]:=by rw[h1,show cz=#[y] from Array.toList_inj.1 e3,NL hg]
   have key:av (eN φ psF) oc _ w (jW cv bS (.ref (.int .i64)) r (p r c)).1 y:=qr4 hm h (.int .i64) x y _ _ _ hy h2 hM r c;obtain⟨j,e1,e2⟩:=V7 (c:=true) (n:=(p r c).1) ⟨y,hz,key⟩ a 0 i e;rw[zO] at e1;subst e1;exact e2
 ·exact fun t=>z62 hm h t
 ·intro vs zs ps bB f hv hp hM r c;obtain⟨rfl,_,rfl⟩:=SJ hp;exact hv
 ·intro s l iO iP vs zs ps bB f hv hp hM r c;obtain⟨v,Iu,j0,f1,g1,rfl,h1,h2,rfl⟩:=Oc hp;obtain⟨z,zr,e,r1,r2⟩:=hv;have hk:=(Mt l _ _ _ _ h2).1.trans hM;have a1:=iO _ _ _ _ _ r1 h1 hk _ (g1 r c);have e2:(jW cv bS s (gK l r) (f1 (gK l r) (g1 r c))).2=g1 r c:=(z60 s _ _ _ _ h1).2 _ _ _ _;refine⟨z,zr,e,a1,?_⟩;show bV _ _ _ _ (eX cv bS l r (jW cv bS s (gK l r) (f1 (gK l r) (g1 r c))).2).1 zr;rw[e2];exact iP _ _ _ _ _ r2 h2 hM r c
theorem Wd(hm:MRel C X φ o w)(h:bM o psF k aw oc):∀l,z8t φ o oc (ah X φ o w) (ah (XC X φ o oc psF) (eN φ psF) oc w) w psF l
 |[]=>by intro vs zs ps bB f hv hp hM r c;obtain⟨rfl,_,rfl⟩:=SJ hp;exact hv
 |s::l=>by intro vs zs ps bB f hv hp hM r c;obtain⟨v,Iu,j0,f1,g1,rfl,h1,h2,rfl⟩:=Oc hp;obtain⟨z,zr,e,r1,r2⟩:=hv;have hc:=(Mt l _ _ _ _ h2).1.trans hM;have a1:=Wc hm h s _ _ _ _ _ r1 h1 hc _ (g1 r c);have e2:(jW cv bS s (gK l r) (f1 (gK l r) (g1 r c))).2=g1 r c:=(z60 s _ _ _ _ h1).2 _ _ _ _;refine⟨z,zr,e,a1,?_⟩;show bV _ _ _ _ (eX cv bS l r (jW cv bS s (gK l r) (f1 (gK l r) (g1 r c))).2).1 zr;rw[e2];exact Wd hm h l _ _ _ _ _ r2 h2 hM r c
theorem z64{l:List Sh}{cs:List V}{ps bB:PS}{f:∀r,aj r->aj (gK l r)}(h:lL lf o l cs ps=some (bB,f)){r:List Ty}{q:aj (gK l r)}(hs:nu (eX cv bS l r q).1=true):nu cs=true:=by
 cases l with
 |nil=>cases hs
 |cons s l=>
  obtain⟨v,Iu,j0,f1,g1,rfl,h1,h2,rfl⟩:=Oc h;have hs:nu ((jW cv bS s (gK l r) q).1::(eX cv bS l r (jW cv bS s (gK l r) q).2).1)=true:=hs;cases s with
  |cG i=>obtain⟨id,b,cs,rfl,_⟩:=V6 (o:=o) (show Nr o i v ps=some (j0,f1) from h1);rfl
  |_=>cases hs
theorem bM.mem(hm:MRel C X φ o w)(h:bM o psF k aw oc):MRel C (XC X φ o oc psF) (eN φ psF) oc w:=by
 have hi:∀b,ah X φ o w b->ah (XC X φ o oc psF) (eN φ psF) oc w b:=fun b hb=>h.imm hb;refine⟨fun i=>?_,fun i j hq hu e=>?_,fun i hx=>?_,fun b hb=>?_,fun i=>?_,fun g t x hg=>?_,hm.Mk⟩
 ·by_cases hj:i<k
  ·rcases h.kind hj with hd|⟨ct,h1,h2⟩
   ·rw[hd];trivial
   ·have cR:eN φ psF i=φ ct:=by unfold eN;rw[(h.aS h1).2.1]
    have ho:=hm.aw ct;rcases h2 with ⟨l,cs,B8,wC,f,r,c,e,hp,hM,e'⟩|⟨t,ver,s,e,e'⟩|⟨_,_,m,e,e'⟩|⟨_,_,e,e'⟩
    ·rw[e] at ho;rw[e'];obtain⟨h3,cz,el,lo,hf,h4,h5,h6⟩:=ho;exact⟨by rw[cR];exact h3,cz,el,lo,hf,by rw[cR];exact h4,h5,Wd hm h l _ _ _ _ _ h6 hp hM r c⟩
    ·rw[e] at ho;rw[e'];obtain⟨h3,h4,h5⟩:=ho;cases hc:gf ct psF.cut with
     |none=>refine⟨h3,h4,fun hn=>?_⟩;rw[cR];refine(h5 hn).imp (fun⟨g1,ec,g2,g3,g4,g5,g6⟩=>?_) fun g=>g;exact⟨g1,ec,mO (fW hi (fun _ _=>rfl) t) g2,g3,g4,g5,by simp⟩
     |some n=>
      have hv:(lf.aF s.l n).length<=s.l.length:=by simp[lf,aF];omega
      refine⟨by show(lf.aF s.l n).length<=bU;omega,fun hn=>?_,fun hn=>?_⟩
      ·show s.l.take n=[];rw[h4 hn];simp
      ·rw[cR];refine(h5 hn).imp (fun⟨g1,ec,g2,g3,g4,g5,g6⟩=>?_) fun g=>⟨g.1,(by show s.l.take n=[];rw[g.2.1];simp),g.2.2⟩;have hw:=nx g2;have hk:min n s.l.length<=s.l.length:=Nat.min_le_right _ _;have hl:=(uE (min n s.l.length) hk g2).1;have hy:s.l.take (min n s.l.length)=s.l.take n:=by
        rcases Nat.le_total n s.l.length with h|h
        ·rw[Nat.min_eq_left h]
        ·rw[Nat.min_eq_right h,List.take_length,zT h]
       rw[hy] at hl;refine⟨g1,ec.take (min n s.l.length*aI t),mO (fW hi (fun _ _=>rfl) t) hl,NW _ g3,g4,fun _=>?_,by simp⟩;obtain⟨cz,el,lo,hf,k1,k2,k3⟩:=g5 rfl;have hA:(lf.aF s.l n).length*aI t<=s.l.length*aI t:=Nat.mul_le_mul_right _ hv;exact⟨cz,el,lo,hf,k1,by show _+(lf.aF s.l n).length*aI t<=_;omega,by show hf<=lo\/hf<=_\/_+(lf.aF s.l n).length*aI t<=lo;omega⟩
    ·rw[e] at ho;rw[e'];obtain⟨es,clock,h3,h4⟩:=ho;exact⟨es,clock,by rw[cR];exact h3,GJ (rh hi (fun _ _=>rfl) _) (rh hi (fun _ _=>rfl) _) h4⟩
    ·rw[e] at ho;rw[e'];obtain⟨s,n,h3,h4⟩:=ho;exact⟨s,n,by rw[cR];exact h3,h4⟩
  ·rw[h.none i om];trivial
 ·obtain⟨_,a1,a2⟩:=h.Iw hq;obtain⟨_,b1,b2⟩:=h.Iw hu;have:=hm.inj _ _ a2 b2 e;have ra:=(h.aS a1).2.2;have rb:=(h.aS b1).2.2;rw[this,rb] at ra;injection ra with ra;exact ra.symm
 ·obtain⟨_,a1,a2⟩:=h.Iw hx;obtain⟨s1,s2⟩:=hm.sep _ a2;refine⟨s1,?_⟩;rintro(hz|⟨id,e1,e2,_,e4⟩)
  ·exact s2 hz
  ·have:=hm.inj _ _ e1 a2 e2;exact e4 ⟨i,hx,this.symm⟩
 ·rcases hb with hb|⟨id,e1,e2,_⟩
  ·exact hm.xs b hb
  ·exact e2▸(hm.sep id e1).1
 ·by_cases hj:i<k
  ·rcases h.kind hj with hd|⟨ct,h1,h2⟩
   ·rw[hd];trivial
   ·have cR:eN φ psF i=φ ct:=by unfold eN;rw[(h.aS h1).2.1]
    have he:=hm.oD ct;rcases h2 with ⟨l,cs,B8,wC,f,r,c,e,hp,hM,e'⟩|⟨t,ver,s,e,e'⟩|⟨_,_,m,e,e'⟩|⟨_,_,e,e'⟩
    ·rw[e] at he;rw[e',cR];exact fun hs=>he (z64 hp hs)
    ·rw[e] at he;rw[e',cR];refine fun ht hn=>he ht ?_;cases hc:gf ct psF.cut<;>rw[hc] at hn<;>exact hn
    ·rw[e'];trivial
    ·rw[e'];trivial
  ·rw[h.none i om];trivial
 ·obtain⟨a,cs,h1,h2,h3,h4,h5⟩:=hm.eG g t x hg;exact⟨a,cs,h1,h2,hi _ h3,fW hi (fun _ _=>rfl) _ _ _ h4,h5⟩
end
theorem oG{β:Type}(n:Nat)(k:Nat->β):jZ n k=k n:=by cases n<;>rfl
mutual
theorem We{β:Type}:∀(v:V) (k:V->β),mN v k=k v
 |.d t x,k=>rfl
 |.aX id ver,k=>by simp only[mN,oG]
 |.pre id ver n c,k=>by simp only[mN,oG]
 |.ptr id off,k=>by simp only[mN,oG]
 |.jx ..,k=>rfl
 |.ref ..,k=>rfl
 |.rr ..,k=>rfl
 |.fP,k=>rfl
 |.fn f l,k=>by simp only[mN,oG,Mv]
 |.fG,k=>rfl
 |.iE l,k=>by simp only[mN,Mv]
 |.agg l,k=>by simp only[mN,Mv]
 |.mp _,k=>rfl
 |.ic,k=>rfl
 |.ga,k=>rfl
 |.eM,k=>rfl
 |.lb _,k=>rfl
 |.undef,k=>rfl
 |.cX,k=>rfl
 |.cG id b,k=>by simp only[mN,oG]
 |.gb id ver lo,k=>by simp only[mN,oG]
 |.it _,k=>rfl
 |.Rp ..,k=>rfl
 |.fa ..,k=>rfl
theorem Mv{β:Type}:∀(l:List V) (k:List V->β),GC l k=k l
 |[],k=>rfl
 |v::l,k=>by simp only[GC,We,Mv]
end
theorem z49{β:Type}(x:Obj)(k:Obj->β):NF x k=k x:=by cases x<;>simp only[NF,Mv,oG]
theorem z4a{β:Type}:∀(u:List (Nat×Obj)) (o:Nat->Obj) (k:(Nat->Obj)->β),RY o u k=k (ar o u)
 |[],_,_=>rfl
 |(i,x)::r,o,k=>by simp only[RY,oG,z49,z4a r];rfl
theorem Wf{β:Type}{fr:Nat}:∀(u:List (Nat×Obj)) (o:Nat->Obj) (k:(Nat->Obj)->Option β) (y:β),q8 fr o u k=some y->k (ar o u)=some y/\j9 fr o u
 |[],o,k,y,h=>⟨h,(fun p hp=>by cases hp)⟩
 |(i,x)::r,o,k,y,h=>by
  simp only[q8,oG,z49] at h;have next:∀(hc:fr<=i->i<fr+16->o i=.none),q8 fr (ck o i x) r k=some y->k (ar o ((i,x)::r))=some y/\j9 fr o ((i,x)::r):=by
   intro hc h;obtain⟨h1,h2⟩:=Wf r _ _ _ h;refine⟨h1,fun p hp g1 g2=>?_⟩;rcases zt.1 hp with rfl|hp
   ·exact hc g1 g2
   ·by_cases e:p.1=i
    ·rw[e] at g1 g2 ⊢;exact hc g1 g2
    ·have:=h2 p hp g1 g2
     rwa [gM e] at this
  cases hb:(Nat.ble fr i&&Nat.blt i (fr+16)) with
  |true=>
   rw[hb] at h;simp only[cond_true] at h;split at h
   ·rename_i e;exact next (fun _ _=>e) h
   ·cases h
  |false=>
   rw[hb] at h;simp only[cond_false] at h;refine next (fun g1 g2=>?_) h
   have:(Nat.ble fr i&&Nat.blt i (fr+16))=true:=by rw[zd];exact⟨Nat.ble_eq▸g1,(Nat.ble_eq▸g2:Nat.ble (i+1) (fr+16)=true)⟩
   rw[this] at hb;cases hb
mutual
theorem z65{β:Type}:∀(s:Sh) (k:Sh->β),kH s k=k s
 |.d t,k=>rfl
 |.aX id,k=>by simp only[kH,oG]
 |.ptr id off,k=>by simp only[kH,oG]
 |.ref t,k=>rfl
 |.rr t,k=>rfl
 |.fP,k=>rfl
 |.fn f l,k=>by simp only[kH,oG,Mw]
 |.fG,k=>rfl
 |.iE l,k=>by simp only[kH,Mw]
 |.agg l,k=>by simp only[kH,Mw]
 |.mp id,k=>by simp only[kH,oG]
 |.it id,k=>by simp only[kH,oG]
 |.ic,k=>rfl
 |.ga,k=>rfl
 |.cX,k=>rfl
 |.cG id,k=>by simp only[kH,oG]
 |.gb id,k=>by simp only[kH,oG]
 |.fa _,k=>rfl
theorem Mw{β:Type}:∀(l:List Sh) (k:List Sh->β),GF l k=k l
 |[],k=>rfl
 |v::l,k=>by simp only[GF,z65,Mw]
end
theorem z12{β:Type}(s:ft)(k:ft->β):Va s k=k s:=by cases s<;>simp only[Va,Mw]
theorem qmi{β:Type}:∀(l:List ft) (k:List ft->β),RZ l k=k l
 |[],_=>rfl
 |s::l,k=>by simp only[RZ,z12,qmi l]
theorem SP{β:Type}(C:Cx)(sk:List Nat)(st:St)(ts:List Nat)(ops:List Oper)(k:Shape->β):Mc C sk st ts ops k=k (Mb C sk st ts ops):=by simp only[Mc,Mw,qmi]
def ij(sk ts:List Nat)(s:Shape)(c:aj s.aU):St:=⟨NC ts (fill (cK sk) bS s c).1,ar (fun _=>Obj.none) (fill (cK sk) bS s c).2⟩
theorem SQ{β:Type}(sk ts:List Nat)(s:Shape)(c:aj s.aU)(k:St->β):tu sk ts s c k=k (ij sk ts s c):=by simp only[tu,Mv,z4a];rfl
section
variable {C:Cx} {X:Nat→Prop} {φ φ':Nat→Addr} {o oc:Nat→Obj} {w:World} {imm:Nat→Prop} {ρ κ:Nat→Nat}
theorem Wg(ρ κ Iy Iz:Nat->Nat)(s:Sh):∀r c,(jW ρ κ s r c).2=(jW Iy Iz s r c).2:=by
 refine Sh.rec (motive_1:=fun s=>∀r c,(jW ρ κ s r c).2=(jW Iy Iz s r c).2) (motive_2:=fun l=>∀r c,(eX ρ κ l r c).2=(eX Iy Iz l r c).2)
  ?_ ?_ ?_ ?_ ?_ ?_ ?_ ?_ ?_ ?_ ?_ ?_ ?_ ?_ ?_ ?_ ?_ ?_ ?_ ?_ s
 ·exact fun t r c=>rfl
 ·exact fun i r c=>rfl
 ·exact fun i off r c=>rfl
 ·exact fun t r c=>rfl
 ·exact fun r c=>rfl
 ·exact fun f l ih r c=>ih r c
 ·exact fun r c=>rfl
 ·exact fun l ih r c=>ih r c
 ·exact fun l ih r c=>ih r c
 ·exact fun i r c=>rfl
 ·exact fun r c=>rfl
 ·exact fun r c=>rfl
 ·exact fun r c=>rfl
 ·exact fun i r c=>rfl
 ·exact fun i r c=>rfl
 ·exact fun i r c=>rfl
 ·exact fun a r c=>rfl
 ·exact fun t r c=>rfl
 ·exact fun r c=>rfl
 ·intro s l iO iP r c;exact(congrArg (fun q=>(eX ρ κ l r q).2) (iO (gK l r) c)).trans (iP r _)
theorem Od(ρ κ Iy Iz:Nat->Nat):∀(l:List Sh) r c,(eX ρ κ l r c).2=(eX Iy Iz l r c).2
 |[],_,_=>rfl
 |s::l,r,c=>by exact(congrArg (fun q=>(eX ρ κ l r q).2) (Wg ρ κ Iy Iz s (gK l r) c)).trans (Od ρ κ Iy Iz l r _)
def SR(κ:Nat):Obj->Obj->Prop
 |.none,_=>True
 |.dead,.dead=>True
 |.box _,.box _=>True
 |.vec t v f s,y=>v=0/\y=.vec t κ f s
 |.map _ _ _,.map _ _ _=>True
 |.iter _ _,.iter _ _=>True
 |_,_=>False
theorem Wh(hl:∀i,SR (κ i) (oc i) (o (ρ i)))(cR:∀i,oc i≠.none->oc i≠.dead->φ' (ρ i)=φ i)(s:Sh):∀r c z,av φ oc imm w (jW cv bS s r c).1 z->av φ' o imm w (jW ρ κ s r c).1 z:=by
 refine Sh.rec (motive_1:=fun s=>∀r c z,av φ oc imm w (jW cv bS s r c).1 z->av φ' o imm w (jW ρ κ s r c).1 z)
  (motive_2:=fun l=>∀r c zs,bV φ oc imm w (eX cv bS l r c).1 zs->bV φ' o imm w (eX ρ κ l r c).1 zs)
  ?_ ?_ ?_ ?_ ?_ ?_ ?_ ?_ ?_ ?_ ?_ ?_ ?_ ?_ ?_ ?_ ?_ ?_ ?_ ?_ s
 ·exact fun t r c z h=>h
 ·intro i r c z h;replace h:av φ oc imm w (.aX i 0) z:=h;show av φ' o imm w (.aX (ρ i) (κ i)) z;have h1:=hl i;have h2:=cR i;unfold av at h ⊢;cases e:oc i<;>rw[e] at h h1 h2
  ·cases e2:o (ρ i)<;>rw[e2] at h1<;>first|exact h1.elim|trivial
  ·rename_i t v fr s;obtain⟨hv,h1⟩:v=0/\o (ρ i)=.vec t (κ i) fr s:=h1;subst hv;rw[h1,h2 (by simp) (by simp)];exact⟨Nat.le_refl _,fun _=>h.2 rfl⟩
  ·cases e2:o (ρ i)<;>rw[e2] at h1<;>first|exact h1.elim|trivial
  ·cases e2:o (ρ i)<;>rw[e2] at h1<;>first|exact h1.elim|trivial
  ·exact h.elim
  ·cases e2:o (ρ i)<;>rw[e2] at h1<;>first|exact h1.elim|trivial
 ·intro i off r c z h;replace h:av φ oc imm w (.ptr i off) z:=h;show av φ' o imm w (.ptr (ρ i) off) z;have h1:=hl i;have h2:=cR i;unfold av at h ⊢;cases e:oc i<;>rw[e] at h h1 h2
  ·cases e2:o (ρ i)<;>rw[e2] at h1<;>first|exact h1.elim|(rw[h2 (by simp) (by simp)];exact h)
  ·rename_i t v fr s;obtain⟨hv,h1⟩:v=0/\o (ρ i)=.vec t (κ i) fr s:=h1;subst hv;rw[h1,h2 (by simp) (by simp)];exact fun _=>h rfl
  ·cases e2:o (ρ i)<;>rw[e2] at h1<;>first|exact h1.elim|(rw[h2 (by simp) (by simp)];exact h)
  ·cases e2:o (ρ i)<;>rw[e2] at h1<;>first|exact h1.elim|trivial
  ·exact h.elim
  ·cases e2:o (ρ i)<;>rw[e2] at h1<;>first|exact h1.elim|(rw[h2 (by simp) (by simp)];exact h)
 ·exact fun t r c z h=>h
 ·exact fun r c z h=>h
 ·exact fun f l ih r c z ⟨cz,h1,h2⟩=>⟨cz,h1,ih _ _ _ h2⟩
 ·exact fun r c z h=>h
 ·exact fun l ih r c z ⟨cz,h1,h2⟩=>⟨cz,h1,ih _ _ _ h2⟩
 ·exact fun l ih r c z ⟨cz,h1,h2⟩=>⟨cz,h1,ih _ _ _ h2⟩
 ·intro i r c z h;replace h:av φ oc imm w (.mp i) z:=h;show av φ' o imm w (.mp (ρ i)) z;have h1:=hl i;have h2:=cR i;unfold av at h ⊢;cases e:oc i<;>rw[e] at h h1 h2
  ·cases e2:o (ρ i)<;>rw[e2] at h1<;>first|exact h1.elim|trivial
  ·rename_i t v fr s;obtain⟨hv,h1⟩:v=0/\o (ρ i)=.vec t (κ i) fr s:=h1;rw[h1];trivial
  ·cases e2:o (ρ i)<;>rw[e2] at h1<;>first|exact h1.elim|(rw[h2 (by simp) (by simp)];exact h)
  ·cases e2:o (ρ i)<;>rw[e2] at h1<;>first|exact h1.elim|trivial
  ·exact h.elim
  ·cases e2:o (ρ i)<;>rw[e2] at h1<;>first|exact h1.elim|trivial
 ·exact fun r c z h=>h
 ·exact fun r c z h=>h
 ·exact fun r c z h=>h
 ·intro i r c z h;replace h:av φ oc imm w (.cG i c.1) z:=h;show av φ' o imm w (.cG (ρ i) c.1) z;have h1:=hl i;have h2:=cR i;unfold av at h ⊢;cases e:oc i<;>rw[e] at h h1 h2
  ·cases e2:o (ρ i)<;>rw[e2] at h1<;>first|exact h1.elim|(rw[h2 (by simp) (by simp)];exact h)
  ·rename_i t v fr s;obtain⟨hv,h1⟩:v=0/\o (ρ i)=.vec t (κ i) fr s:=h1;rw[h1];trivial
  ·cases e2:o (ρ i)<;>rw[e2] at h1<;>first|exact h1.elim|trivial
  ·cases e2:o (ρ i)<;>rw[e2] at h1<;>first|exact h1.elim|trivial
  ·exact h.elim
  ·cases e2:o (ρ i)<;>rw[e2] at h1<;>first|exact h1.elim|trivial
 ·intro i r c z h;replace h:av φ oc imm w (.gb i 0 c.1) z:=h;show av φ' o imm w (.gb (ρ i) (κ i) c.1) z;have h1:=hl i;have h2:=cR i;unfold av at h ⊢;cases e:oc i<;>rw[e] at h h1 h2
  ·cases e2:o (ρ i)<;>rw[e2] at h1<;>first|exact h1.elim|trivial
  ·rename_i t v fr s;obtain⟨hv,h1⟩:v=0/\o (ρ i)=.vec t (κ i) fr s:=h1;subst hv;rw[h1,h2 (by simp) (by simp)];exact⟨Nat.le_refl _,fun _=>h.2 rfl⟩
  ·cases e2:o (ρ i)<;>rw[e2] at h1<;>first|exact h1.elim|trivial
  ·cases e2:o (ρ i)<;>rw[e2] at h1<;>first|exact h1.elim|trivial
  ·exact h.elim
  ·cases e2:o (ρ i)<;>rw[e2] at h1<;>first|exact h1.elim|trivial
 ·intro i r c z h;replace h:av φ oc imm w (.it i) z:=h;show av φ' o imm w (.it (ρ i)) z;have h1:=hl i;have h2:=cR i;unfold av at h ⊢;cases e:oc i<;>rw[e] at h h1 h2
  ·cases e2:o (ρ i)<;>rw[e2] at h1<;>first|exact h1.elim|trivial
  ·rename_i t v fr s;obtain⟨hv,h1⟩:v=0/\o (ρ i)=.vec t (κ i) fr s:=h1;rw[h1];trivial
  ·cases e2:o (ρ i)<;>rw[e2] at h1<;>first|exact h1.elim|trivial
  ·cases e2:o (ρ i)<;>rw[e2] at h1<;>first|exact h1.elim|trivial
  ·exact h.elim
  ·cases e2:o (ρ i)<;>rw[e2] at h1<;>first|exact h1.elim|(rw[h2 (by simp) (by simp)];exact h)
 ·exact fun a r c z h=>h
 ·exact fun t r c z h=>h
 ·exact fun r c z h=>h
 ·intro s l iO iP r c zs ⟨z,zr,e,h1,h2⟩;refine⟨z,zr,e,iO _ _ _ h1,?_⟩;exact(congrArg (fun q=>bV φ' o imm w (eX ρ κ l r q).1 zr) (Wg ρ κ cv bS s (gK l r) c)).mpr (iP _ _ _ h2)
theorem SS(hl:∀i,SR (κ i) (oc i) (o (ρ i)))(cR:∀i,oc i≠.none->oc i≠.dead->φ' (ρ i)=φ i):∀(l:List Sh) r c zs,bV φ oc imm w (eX cv bS l r c).1 zs->bV φ' o imm w (eX ρ κ l r c).1 zs
 |[],_,_,_,h=>h
 |s::l,r,c,zs,⟨z,zr,e,h1,h2⟩=>by refine⟨z,zr,e,Wh hl cR s _ _ _ h1,?_⟩;exact(congrArg (fun q=>bV φ' o imm w (eX ρ κ l r q).1 zr) (Wg ρ κ cv bS s (gK l r) c)).mpr (SS hl cR l _ _ _ h2)
end
theorem qmj{o:Nat->Obj}{psF:PS}:∀(l:List ft) (i:Nat) (os:List (Nat×Obj)) (o':Nat->Obj),V9 o psF i l os->(∀j sh,l[j]?=some sh->C2 o psF (i+j) sh (ar o' os (i+j)))/\(∀j,(j<i\/i+l.length<=j)->ar o' os j=o' j)
 |[],i,os,o',h=>by have h:os=[]:=h;subst h;exact⟨fun j sh hj=>by simp at hj,fun j _=>rfl⟩
 |s::l,i,os,o',⟨ob,r,e,h1,h2⟩=>by
  subst e;obtain⟨a1,a2⟩:=qmj l (i+1) r (ck o' i ob) h2;refine⟨fun j sh hj=>?_,fun j hj=>?_⟩
  ·cases j with
   |zero=>simp only[List.getElem?_cons_zero,zE] at hj;subst hj;show C2 o psF i s (ar (ck o' i ob) r i);rw[a2 i (.inl om),dM];exact h1
   |succ j=>have:=a1 j sh (by simpa using hj);rw[show i+1+j=i+(j+1) by omega] at this;exact this
  ·show ar (ck o' i ob) r j=o' j;simp only[zf] at hj;rw[a2 j om,gM om]
def bf(s:Shape)(c:aj s.aU):Nat->Obj:=ar (fun _=>Obj.none) (fill cv bS s c).2
theorem Oe{o:Nat->Obj}{aS:List (Nat×Nat)}{s:Shape}{vs:List V}{ps:PS}{c:aj s.aU}(h:pack lf o aS s vs=some (ps,c)):bM o ps s.aw.length s.aw (bf s c)/\∃j0 f,lL lf o s.roots vs ⟨aS,[],[],[]⟩=some (j0,f)/\eu j0 ps/\∃q,c=f _ q:=by
 unfold pack at h;split at h
 ·rename_i j0 f h1;split at h
  ·rename_i GU g h2;cases hb:HT s.aw.length GU with
   |false=>rw[hb] at h;cases h
   |true=>
    rw[hb] at h;injection h with h;injection h with h3 h4;subst h3;obtain⟨m1,e1⟩:=Mt s.roots _ _ _ _ h1;obtain⟨m2,e2⟩:=Mu (psF:=GU) s.aw 0 _ _ _ h2;have hd:=e2 (.refl _) [] ();have hc:bf s c=ar (fun _=>Obj.none) (fH cv bS 0 s.aw [] (g [] ())):=by unfold bf fill;simp only;rw[<-h4,e1]
    obtain⟨a1,a2⟩:=qmj _ _ _ (fun _=>Obj.none) hd;refine⟨⟨hb,rfl,fun i sh hi=>?_,fun i hi=>?_⟩,j0,f,h1,m2,_,h4.symm⟩
    ·have:=a1 i sh hi;rw[zO] at this;rw[hc];exact this
    ·rw[hc];exact a2 i (.inr om)
  ·cases h
 ·cases h
theorem Wi{C:Cx}{X:Nat->Prop}{φ:Nat->Addr}{o:Nat->Obj}{w:World}(hm:MRel C X φ o w){aS:List (Nat×Nat)}{s:Shape}{vs:List V}{zs:List Value}{ps:PS}{c:aj s.aU}(h:pack lf o aS s vs=some (ps,c))(hr:bV φ o (ah X φ o w) w vs zs):MRel C (XC X φ o (bf s c) ps) (eN φ ps) (bf s c) w/\bV (eN φ ps) (bf s c) (ah (XC X φ o (bf s c) ps) (eN φ ps) (bf s c) w) w (fill cv bS s c).1 zs:=by obtain⟨hp,j0,f,h1,h2,q,h3⟩:=Oe h;refine⟨hp.mem hm,?_⟩;have:=Wd hm hp s.roots _ _ _ _ _ hr h1 h2 _ q;rw[<-h3] at this;exact this
def jF(sk:List Nat):Prop:=∃inv:Nat->Nat,∀j,inv (cK sk j)=j
theorem jF.inj{sk:List Nat}(h:jF sk):∀i j,cK sk i=cK sk j->i=j:=fun i j e=>by obtain⟨inv,h⟩:=h;rw[<-h i,<-h j,e]
theorem gp{j:Nat}:∀{l:List Nat},bI j l=true↔j∈l
 |[]=>⟨fun h=>(by cases h),fun h=>(by cases h)⟩
 |b::r=>by
  simp only[bI];cases hb:Nat.beq b j with
  |true=>have:=zg hb;subst this;simp
  |false=>
   have hc:b≠j:=fun e=>by rw[e,Nat.beq_refl] at hb;cases hb
   rw[cond_false,gp (l:=r),zt];exact⟨.inr,fun h=>h.resolve_left fun e=>hc e.symm⟩
theorem qbp{k:Nat}:∀{sk:List Nat},L0 k sk=true->(∀id,id∈sk->id<k/\id<1000000)/\sk.Nodup
 |[],_=>⟨fun id h=>(by cases h),List.nodup_nil⟩
 |b::r,h=>by
  simp only[L0,zd,Nat.blt_eq] at h;obtain⟨⟨⟨h1,h2⟩,h3⟩,h4⟩:=h;obtain⟨g1,g2⟩:=qbp h4;refine⟨fun id hi=>?_,List.nodup_cons.2 ⟨fun hm=>?_,g2⟩⟩
  ·rcases zt.1 hi with rfl|hi
   ·exact⟨h1,h2⟩
   ·exact g1 id hi
  ·rw[gp.2 hm] at h3;cases h3
theorem qwn{k:Nat}{sk:List Nat}(h:L0 k sk=true):jF sk:=by
 obtain⟨g1,g2⟩:=qbp h;have inj:∀i j,cK sk i=cK sk j->i=j:=fun i j e=>by
  unfold cK at e;split at e
  ·rename_i a ha;split at e
   ·rename_i b hb;subst e;obtain⟨hi,ea⟩:=zH.1 ha;obtain⟨hj,eb⟩:=zH.1 hb;exact(List.getElem_inj (h₀:=hi) (h₁:=hj) g2).1 (by rw[ea,eb])
   ·have:=(g1 a (zG ha)).2;omega
  ·split at e
   ·rename_i b hb;have:=(g1 b (zG hb)).2;omega
   ·omega
 refine⟨fun id=>by
  classical
  exact if h:∃j,cK sk j=id then h.choose else 0,fun j=>?_⟩
 have hx:∃i,cK sk i=cK sk j:=⟨j,rfl⟩;simp only[dif_pos hx];exact inj _ _ hx.choose_spec
theorem qmk:∀{sk:List Nat} {n i id:Nat},sk[i]?=some id->(n+i,id)∈qW n sk
 |[],_,i,_,h=>by simp at h
 |b::r,n,i,id,h=>by
  cases i with
  |zero=>simp only[List.getElem?_cons_zero,zE] at h;subst h;exact zj ..
  |succ i=>have:=qmk (n:=n+1) (i:=i) (by simpa using h);rw[show n+1+i=n+(i+1) by omega] at this;exact zm _ this
theorem qg8:∀{sk:List Nat} {id:Nat},id∈sk->(id,id)∈UD sk
 |b::r,id,h=>by
  rcases zt.1 h with rfl|h
  ·exact zj ..
  ·exact zm _ (qg8 h)
theorem Wj{o:Nat->Obj}:∀{sk:List Nat},uu o sk=true->∀id,id∈sk->Rx o id=true
 |b::r,h,id,hi=>by
  simp only[uu,zd] at h;rcases zt.1 hi with rfl|hi
  ·exact h.1
  ·exact Wj h.2 id hi
theorem Wk{cut:List (Nat×Nat)}:∀{sk:List Nat},LZ cut sk=true->∀id,id∈sk->gf id cut=none
 |b::r,h,id,hi=>by
  simp only[LZ,zd] at h;rcases zt.1 hi with rfl|hi
  ·exact SL h.1
  ·exact Wk h.2 id hi
theorem qip{sk:List Nat}{aS:List (Nat×Nat)}{o:Nat->Obj}{s:Shape}{vs:List V}{p:PS×aj s.aU}(h:HZ lf sk aS o s vs=some p):pack lf o aS s vs=some p/\uu o sk=true/\LZ p.1.cut sk=true:=by
 unfold HZ at h;split at h
 ·rename_i q e;cases hb:(uu o sk&&LZ q.1.cut sk) with
  |false=>rw[hb] at h;cases h
  |true=>rw[hb,cond_true] at h;injection h with h;subst h;rw[zd] at hb;exact⟨e,hb⟩
 ·cases h
theorem qr7{o:Nat->Obj}{aS:List (Nat×Nat)}{s:Shape}{vs:List V}{ps:PS}{c:aj s.aU}(h:pack lf o aS s vs=some (ps,c)):∀p,p∈aS->p∈ps.aS:=by obtain⟨_,j0,f,h1,h2,_⟩:=Oe h;exact fun p hp=>h2.aS p ((Mt s.roots _ _ _ _ h1).1.aS p hp)
theorem qwo{φ:Nat->Addr}{o oc:Nat->Obj}{w:World}{psF:PS}{k:Nat}{aw:List ft}(h:bM o psF k aw oc){i id:Nat}(hp:(i,id)∈psF.aS)(hk:Rx o id=true)(hc:gf id psF.cut=none):Up w w (φ id) (eN φ psF i) (o id) (oc i):=by
 rcases B9 (φ:=φ) h hp with hd|⟨⟨cs,jE,e1,e2⟩|⟨t',ver,s,e1,e2⟩|⟨k,v,m,e1,e2⟩|⟨_,_,e1,e2⟩,cR⟩
 ·rw[hd];cases o id<;>trivial
 ·rw[e1,e2];exact cR
 ·rw[e1,e2,hc];unfold Rx at hk;rw[e1] at hk;have hv:ver=0:=zg hk;exact .inr ⟨hv,rfl,rfl,rfl,cR,fun _=>⟨rfl,fun _ _ n hr=>hr⟩⟩
 ·rw[e1,e2];exact cR
 ·rw[e1,e2];exact cR
def Wl(ρ:Nat->Nat)(a b:Obj):Prop:=(∃l r c,a=.box (eX cv bS l r c).1/\b=.box (eX ρ bS l r c).1)\/(a=b/\∀cs,a≠.box cs)
theorem qwp(ρ:Nat->Nat)(i:Nat)(s:ft)(r:List Ty)(c:aj (LW s r)):Wl ρ (eY cv bS i s r c).1 (eY ρ bS i s r c).1/\(eY ρ bS i s r c).2=(eY cv bS i s r c).2:=by
 cases s with
 |box l=>exact⟨.inl ⟨l,r,c,rfl,rfl⟩,Od ρ bS cv bS l r c⟩
 |vec t=>exact⟨.inr ⟨rfl,fun _ h=>by cases h⟩,rfl⟩
 |map k v=>exact⟨.inr ⟨rfl,fun _ h=>by cases h⟩,rfl⟩
 |iter=>exact⟨.inr ⟨rfl,fun _ h=>by cases h⟩,rfl⟩
 |gone=>exact⟨.inr ⟨rfl,fun _ h=>by cases h⟩,rfl⟩
theorem qiq(ρ:Nat->Nat)(cA:∀i j,ρ i=ρ j->i=j):∀(l:List ft) (i:Nat) (r:List Ty) (c:aj (bQ l r)) (o1 o2:Nat->Obj),(∀j,i<=j->j<i+l.length->Wl ρ (ar o1 (fH cv bS i l r c) j) (ar o2 (fH ρ bS i l r c) (ρ j)))/\(∀j,(j<i\/i+l.length<=j)->ar o1 (fH cv bS i l r c) j=o1 j)/\(∀id,(∀j,i<=j->j<i+l.length->ρ j≠id)->ar o2 (fH ρ bS i l r c) id=o2 id)
 |[],i,r,c,o1,o2=>⟨fun j h1 h2=>absurd h2 (by simp;omega),fun _ _=>rfl,fun _ _=>rfl⟩
 |s::l,i,r,c,o1,o2=>by
  obtain⟨e1,e2⟩:=qwp ρ i s (bQ l r) c;obtain⟨a1,a2,a3⟩:=qiq ρ cA l (i+1) r (eY cv bS i s (bQ l r) c).2 (ck o1 i (eY cv bS i s (bQ l r) c).1) (ck o2 (ρ i) (eY ρ bS i s (bQ l r) c).1);have f1:∀j,ar o1 (fH cv bS i (s::l) r c) j=ar (ck o1 i (eY cv bS i s (bQ l r) c).1) (fH cv bS (i+1) l r (eY cv bS i s (bQ l r) c).2) j:=fun _=>rfl;have f2:∀id,ar o2 (fH ρ bS i (s::l) r c) id=ar (ck o2 (ρ i) (eY ρ bS i s (bQ l r) c).1) (fH ρ bS (i+1) l r (eY cv bS i s (bQ l r) c).2) id:=fun id=>(congrArg (fun q=>ar (ck o2 (ρ i) (eY ρ bS i s (bQ l r) c).1) (fH ρ bS (i+1) l r q) id) e2);refine⟨fun j h1 h2=>?_,fun j hj=>?_,fun id hc=>?_⟩
  ·rw[f1,f2];simp only[zf] at h2;by_cases hd:j=i
   ·subst hd;rw[a2 j (.inl om),a3 (ρ j) (fun q hq _ e=>by have:=cA _ _ e;omega),dM,dM];exact e1
   ·exact a1 j om om
  ·rw[f1];simp only[zf] at hj;rw[a2 j om,gM om]
  ·rw[f2];simp only[zf] at hc;rw[a3 id (fun q h1 h2=>hc q om om),gM];exact fun e=>hc i (Nat.le_refl _) om e.symm
section
variable {C:Cx} {X:Nat→Prop} {φ:Nat→Addr} {w:World} {s:Shape} {c:aj s.aU} {sk:List Nat} {inv:Nat→Nat}
theorem z4b(hc:∀i j,cK sk i=cK sk j->i=j)(ts:List Nat)(s:Shape)(c:aj s.aU):(∀j,j<s.aw.length->Wl (cK sk) (bf s c j) ((ij sk ts s c).obj (cK sk j)))/\(∀j,s.aw.length<=j->bf s c j=.none)/\(∀id,(∀j,j<s.aw.length->cK sk j≠id)->(ij sk ts s c).obj id=.none):=by
 obtain⟨a1,a2,a3⟩:=qiq (cK sk) hc s.aw 0 [] (eX cv bS s.roots (bQ s.aw []) c).2 (fun _=>.none) (fun _=>.none);have e:(ij sk ts s c).obj=ar (fun _=>.none) (fH (cK sk) bS 0 s.aw [] (eX cv bS s.roots (bQ s.aw []) c).2):=congrArg (fun q=>ar (fun _=>Obj.none) (fH (cK sk) bS 0 s.aw [] q)) (Od (cK sk) bS cv bS s.roots (bQ s.aw []) c);refine⟨fun j hj=>?_,fun j hj=>a2 j (.inr om),fun id hd=>?_⟩
 ·rw[e];exact a1 j (Nat.zero_le _) om
 ·rw[e];exact a3 id (fun j _ hj=>hd j om)
theorem qir(ρ:Nat->Nat):∀(l:List ft) (i:Nat) (r:List Ty) (c:aj (bQ l r)) (o:Nat->Obj),(∀j t v f s,o j=.vec t v f s->v=0)->∀j t v f s,ar o (fH ρ bS i l r c) j=.vec t v f s->v=0
 |[],i,r,c,o,h=>h
 |s::l,i,r,c,o,h=>by
  refine qir ρ l (i+1) r (eY ρ bS i s (bQ l r) c).2 (ck o (ρ i) (eY ρ bS i s (bQ l r) c).1) ?_;intro j t v f s' e;by_cases hj:j=ρ i
  ·subst hj;rw[dM] at e;cases s with
   |box l=>cases e
   |map k v=>cases e
   |gone=>cases e
   |iter=>cases e
   |vec t=>injection e with _ e;exact e.symm
  ·rw[gM hj] at e;exact h _ _ _ _ _ e
theorem qr8{s:Shape}{c:aj s.aU}{j:Nat}{t:Ty}{v:Nat}{f:Bool}{x:Sl (den t)}(h:bf s c j=.vec t v f x):v=0:=qir cv s.aw 0 [] _ (fun _=>.none) (fun _ _ _ _ _ e=>by cases e) j t v f x h
theorem qis(ρ κ:Nat->Nat):∀(l:List Sh) (r:List Ty) (c:aj (gK l r)),nu (eX ρ κ l r c).1=nu (eX cv bS l r c).1
 |[],_,_=>rfl
 |s::l,r,c=>by show nu ((jW ρ κ s (gK l r) c).1::_)=nu ((jW cv bS s (gK l r) c).1::_);cases s<;>rfl
theorem z8u(hd:∀j,inv (cK sk j)=j)(ts:List Nat)(hm:MRel C X φ (bf s c) w):MRel C X (fun id=>φ (inv id)) (ij sk ts s c).obj w/\(∀b,lZ (fun id=>φ (inv id)) (ij sk ts s c).obj b↔lZ φ (bf s c) b)/\(∀zs,bV φ (bf s c) (ah X φ (bf s c) w) w (fill cv bS s c).1 zs->bV (fun id=>φ (inv id)) (ij sk ts s c).obj (ah X (fun id=>φ (inv id)) (ij sk ts s c).obj w) w (fill (cK sk) bS s c).1 zs):=by
 obtain⟨a1,a2,a3⟩:=z4b (fun i j e=>by rw[<-hd i,<-hd j,e]) ts s c;generalize ho:(ij sk ts s c).obj=o at*
 have cR:∀j,(fun id=>φ (inv id)) (cK sk j)=φ j:=fun j=>by simp only[hd]
 have hq:∀j a,j<s.aw.length->aV a (o (cK sk j))=aV a (bf s c j):=fun j a hj=>by
  rcases a1 j hj with ⟨l,r,q,e1,e2⟩|⟨e1,_⟩
  ·rw[e1,e2];rfl
  ·rw[e1]
 have hl:∀id,(∃j,j<s.aw.length/\cK sk j=id)\/o id=.none:=fun id=>by
  by_cases h:∃j,j<s.aw.length/\cK sk j=id
  ·exact .inl h
  ·exact .inr (a3 id fun j hj e=>h ⟨j,hj,e⟩)
 have hA:∀j a,aV a (bf s c j)=true->j<s.aw.length:=fun j a hx=>zM fun h=>by rw[a2 j om] at hx;exact ky hx
 have ht:∀b,lZ (fun id=>φ (inv id)) o b↔lZ φ (bf s c) b:=fun b=>by
  constructor
  ·rintro⟨id,e1,e2⟩;rcases hl id with ⟨j,hj,rfl⟩|h
   ·simp only[hd] at e1;exact⟨j,by rw[<-hq j _ hj];exact e1,by rw[<-cR j];exact e2⟩
   ·rw[h] at e1;exact(ky e1).elim
  ·rintro⟨j,e1,e2⟩;exact⟨cK sk j,by simp only[hd];rw[hq j _ (hA j _ e1)];exact e1,by rw[cR];exact e2⟩
 have hw:∀b,ah X φ (bf s c) w b↔ah X (fun id=>φ (inv id)) o w b:=fun b=>by unfold ah;rw[ht b]
 have hy:∀i,SR (bS i) (bf s c i) (o (cK sk i)):=fun i=>by
  by_cases hi:i<s.aw.length
  ·rcases a1 i hi with ⟨l,r,q,e1,e2⟩|⟨e1,e2⟩
   ·rw[e1,e2];trivial
   ·rw[<-e1];cases hc:bf s c i with
    |vec t v f s'=>exact⟨qr8 hc,by rw[qr8 hc]⟩
    |box cs=>exact absurd hc (e2 _)
    |map k v m=>trivial
    |dead=>trivial
    |none=>trivial
    |iter l p=>trivial
  ·rw[a2 i om];trivial
 have hu:(fun b=>ah X φ (bf s c) w b)=ah X (fun id=>φ (inv id)) o w:=funext fun b=>propext (hw b);have hf:ah X φ (bf s c) w=ah X (fun id=>φ (inv id)) o w:=hu;refine⟨⟨fun id=>?_,fun i j hi hj e=>?_,fun i hi=>?_,hm.xs,fun id=>?_,fun g t x hg=>?_,hm.Mk⟩,ht,fun zs hz=>?_⟩
 ·rcases hl id with ⟨j,hj,rfl⟩|h
  ·have hk:=hm.aw j;rcases a1 j hj with ⟨l,r,q,e1,e2⟩|⟨e1,e2⟩
   ·rw[e1] at hk;rw[e2];obtain⟨h1,cz,el,lo,hv,h2,h3,h4⟩:=hk;refine⟨by rw[cR];exact h1,cz,el,lo,hv,by rw[cR];exact h2,h3,?_⟩;rw[hf] at h4;exact SS (φ':=fun id=>φ (inv id)) hy (fun i _ _=>cR i) l r q _ h4
   ·rw[<-e1];cases hc:bf s c j with
    |box cs=>exact absurd hc (e2 _)
    |dead=>trivial
    |none=>trivial
    |map k v m=>rw[hc] at hk;obtain⟨es,clock,h1,h2⟩:=hk;rw[hf] at h2;exact⟨es,clock,by rw[cR];exact h1,h2⟩
    |iter l p=>rw[hc] at hk;obtain⟨s',n,h1,h2⟩:=hk;exact⟨s',n,by rw[cR];exact h1,h2⟩
    |vec t ver fr sl=>rw[hc] at hk;obtain⟨h1,h2,h3⟩:=hk;rw[hf] at h3;refine⟨h1,h2,fun hn=>?_⟩;rw[cR];exact h3 hn
  ·rw[h];trivial
 ·rcases hl i with ⟨i',hv,rfl⟩|h
  ·rcases hl j with ⟨j',hB,rfl⟩|h
   ·have hr:∀j,inv (cK sk j)=j:=hd;simp only[hr] at e hi hj;rw[hm.inj i' j' (by rw[<-hq i' _ hv];exact hi) (by rw[<-hq j' _ hB];exact hj) e]
   ·rw[h] at hj;exact(ky hj).elim
  ·rw[h] at hi;exact(ky hi).elim
 ·rcases hl i with ⟨i',hv,rfl⟩|h
  ·have hr:∀j,inv (cK sk j)=j:=hd;simp only[hr] at hi ⊢;exact hm.sep i' (by rw[<-hq i' _ hv];exact hi)
  ·rw[h] at hi;exact(ky hi).elim
 ·rcases hl id with ⟨j,hj,rfl⟩|h
  ·have he:=hm.oD j;show gi C w (φ (inv (cK sk j))) (o (cK sk j));rw[hd];rcases a1 j hj with ⟨l,r,q,e1,e2⟩|⟨e1,e2⟩
   ·rw[e1] at he;rw[e2];exact fun hs=>he (by rw[<-qis (cK sk) bS];exact hs)
   ·rw[<-e1];exact he
  ·rw[h];trivial
 ·obtain⟨a,cs,h1,h2,h3,h4,h5⟩:=hm.eG g t x hg;rw[hf] at h3 h4;exact⟨a,cs,h1,h2,h3,h4,h5⟩
 ·rw[hf] at hz;exact SS (φ':=fun id=>φ (inv id)) hy (fun i _ _=>cR i) s.roots _ _ _ hz
theorem qwq{φ:Nat->Addr}{o:Nat->Obj}{imm:Nat->Prop}{g:Nat->Value}:∀(ts:List Nat) (vs:List V),bV φ o imm w vs (ts.map g)->∀t,av φ o imm w (NC ts vs t) (g t)
 |[],_,_,_=>by cases ‹List V›<;>trivial
 |t'::ts,vs,h,t=>by
  cases vs with
  |nil=>trivial
  |cons v vs=>
   obtain⟨z,r,e,h1,h2⟩:=h;injection e with e1 e2;show av φ o imm w (ck (NC ts vs) t' v t) (g t);by_cases ht:t=t'
   ·subst ht;rw[dM,e1];exact h1
   ·rw[gM ht];exact qwq ts vs (e2▸h2) t
end
structure cW (sk:List Nat) (dN:Nat->Addr) (o0:Nat->Obj) (w0:World) (φ:Nat->Addr) (o:Nat->Obj) (w:World):Prop where
 size:w0.heap.size<=w.heap.size
 frame:∀b,b<w0.heap.size->¬lZ dN o0 b->w.heap[b]?=w0.heap[b]?
 news:∀b,lZ φ o b->w0.heap.size<=b\/lZ dN o0 b
 still:tw w0 w
 up:∀id,id∈sk->Up w0 w (dN id) (φ id) (o0 id) (o id)
theorem cW.refl(sk:List Nat)(dN:Nat->Addr)(o0:Nat->Obj)(w0:World):cW sk dN o0 w0 dN o0 w0:=⟨Nat.le_refl _,fun _ _ _=>rfl,fun _ h=>.inr h,⟨rfl,rfl⟩,fun _ _=>Up.same fun _ _ h=>h⟩
theorem cW.step{C:Cx}{X:Nat->Prop}{dN φ φ':Nat->Addr}{o0 o:Nat->Obj}{w0 w w':World}{u:List (Nat×Obj)}{v:V}{z:Value}{sk:List Nat}(h:cW sk dN o0 w0 φ o w)(hc:Comes C X φ φ' o u w w' v z):cW sk dN o0 w0 φ' (ar o u) w':=by
 refine⟨Nat.le_trans h.size hc.size,fun b hb hn=>?_,fun b ⟨id,e1,e2⟩=>?_,⟨hc.still.1.trans h.still.1,hc.still.2.trans h.still.2⟩,fun id hi=>(h.up id hi).trans (hc.up id)⟩
 ·rw[hc.frame b (Nat.lt_of_lt_of_le hb h.size),h.frame b hb hn];rintro⟨id,_,e1,e2⟩;rcases h.news b ⟨id,e1,e2⟩ with h1|h1
  ·omega
  ·exact hn h1
 ·rcases hc.news id e1 with h1|h1
  ·exact .inl (by have:=h.size;omega)
  ·rw[e2] at h1;exact h.news b h1
theorem Of{C:Cx}{nt:Nat}{X:Nat->Prop}{φ dN:Nat->Addr}{o0:Nat->Obj}{w0:World}{st:St}{a:Act}{w:World}{sk:List Nat}(hg:jF sk)(h:Rel C nt X φ st a w)(hh:cW sk dN o0 w0 φ st.obj w){s:Shape}{ts:List Nat}{ps:PS}{c:aj s.aU}(hp:HZ lf sk (qW 0 sk) st.obj s (ts.map fun t=>dx (st.env t))=some (ps,c)):∃ef X2,(∀b,X b->X2 b)/\Rel C nt X2 ef (ij sk ts s c) a w/\cW sk dN o0 w0 ef (ij sk ts s c).obj w:=by
 obtain⟨hj,hl,hd⟩:=qip hp;clear hp;have hp:=hj;clear hj;have he:=hg.inj;obtain⟨inv,hc⟩:=hg;have hv:bV φ st.obj (ah X φ st.obj w) w (ts.map fun t=>dx (st.env t)) (ts.map fun t=>a.tmps.getD t undef):=by
  clear hp
  induction ts with
  |nil=>rfl
  |cons t ts ih=>exact⟨_,_,rfl,NN (h.env t),ih⟩
 obtain⟨h1,h2⟩:=Wi h.toMRel hp hv;obtain⟨hf,_⟩:=Oe hp;obtain⟨g1,g2,g3⟩:=z8u hc ts h1;refine⟨_,_,fun b hb=>.inl hb,⟨g1,h.size,fun t=>?_,h.defers⟩,⟨hh.size,hh.frame,fun b hb=>hh.news b (hf.kK ((g2 b).1 hb)),hh.still,fun id hi=>(hh.up id hi).trans ?_⟩⟩
 ·exact qwq ts _ (g3 _ h2) t
 ·obtain⟨i,hm,hn⟩:=List.mem_iff_getElem.1 hi;have hk:sk[i]?=some id:=by rw[ze hm,hn]
  have e:cK sk i=id:=by unfold cK;rw[hk]
  have hr:(i,id)∈ps.aS:=qr7 hp _ (by have:=qmk (n:=0) hk;rwa [zO] at this);have hu:=qwo (φ:=φ) (w:=w) hf hr (Wj hl id hi) (Wk hd id hi);have cR:eN φ ps (inv id)=eN φ ps i:=by rw[<-e,hc]
  obtain⟨a1,_⟩:=z4b he ts s c;have ha:=a1 i (hf.aS hr).1;rw[e] at ha;show Up w w (φ id) (eN φ ps (inv id)) (st.obj id) _;rw[cR];rcases ha with ⟨l,r,q,e1,e2⟩|⟨e1,_⟩
  ·rw[e2];rw[e1] at hu;cases ho:st.obj id<;>rw[ho] at hu<;>exact hu
  ·rw[<-e1];exact hu
end Ev