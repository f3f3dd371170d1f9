/- All operations are sound; the frame rule; packing. No statement of its own about the program. -/
import Derived.Test.YtnihgcgcdjdhiaaGreatDoorEvD
namespace Ev
open Go
section
variable {C:Cx} {X:Nat→Prop} {φ:Nat→Addr} {o:Nat→Obj} {w:World} {imm:Nat→Prop} {R:q1r C.sigs} {env:Nat→V} {ρ:Operand→Value}
def Lands (C:Cx) (X:Nat→Prop) (φ:Nat→Addr) (o:Nat→Obj) (w:World) (v:V) (u:List (Nat×Obj)) (r:Result Next):Prop:=
 (∃val w' φ',r=.ok (.value val) w'∧Comes C X φ φ' o u w w' v val)∨
 (∃w' φ',r=.ok .skip w'∧Comes C X φ φ' o u w w' v undef)∨
 (∃f args,r=.ok (.enter f args) w∧Calls C.P f args w fun e w'=>∃val φ',e=.returned val∧Comes C X φ φ' o u w w' v val)
theorem Lands.upon {v:V} {u:List (Nat×Obj)} {r:Result Next} (h:Lands C X φ o w v u r) {op:Oper} {a:Act} {next:Act→World→Prop} {Q:Exit→Act→World→Prop} (hn:∀val w' φ',Comes C X φ φ' o u w w' v val→next (a.put op.dst val) w'):op.upon C.P a next Q r:=by
 rcases h with ⟨val,w',φ',rfl,hc⟩|⟨w',φ',rfl,hc⟩|⟨f,args,rfl,hc⟩
 ·exact hn _ _ _ hc
 ·exact hn _ _ _ hc
 ·refine Calls.mono hc fun e w' h=>?_;obtain ⟨val,φ',rfl,h⟩:=h;exact hn _ _ _ h
theorem Res.lands {v:V} {u:List (Nat×Obj)} {s:Sem Value} (h:Res C X φ o w v u s):Lands C X φ o w v u ((do pure (Next.value (←s)):Sem Next).run C.P w):=by obtain ⟨val,w',φ',h1,h2⟩:=h;exact .inl ⟨val,w',φ',by simp [h1],h2⟩
theorem ResU.lands {v:V} {u:List (Nat×Obj)} {s:Sem Unit} (h:ResU C X φ o w v u s):Lands C X φ o w v u ((do s;pure Next.skip:Sem Next).run C.P w):=by obtain ⟨w',φ',h1,h2⟩:=h;exact .inr (.inl ⟨w',φ',by simp [h1],h2⟩)
theorem Lands.same (hm:MRel C X φ o w) {v:V} {z:Value} (h:q03 φ o (immB X φ o w) w v z):Lands C X φ o w v [] (.ok (.value z) w):=.inl ⟨z,w,φ,rfl,.same hm h⟩
theorem qmx {op:BinOp} {t:TypeId} {x y:V} {zx zy:Value} {v:V} {u:List (Nat×Obj)} (hl:∀id,q3s φ o imm w id (o id)) (hx:q03 φ o imm w x zx) (hy:q03 φ o imm w y zy) (h:(qqq lf C o op t x y).gives v u):qjg zx=true∨(hasN t C.eqs=true∧∃xs ys,zx=.agg xs∧zy=.agg ys):=by
 unfold qqq at h;split at h
 ·obtain ⟨rfl,_⟩:=q2q hx;exact .inl rfl
 ·obtain ⟨s,rfl,_⟩:=q38 hx;exact .inl rfl
 ·have:=q1p hx;subst this;exact .inl rfl
 ·split at h
  ·rw [q08,zd] at h;obtain ⟨xs,rfl,_⟩:=hx;obtain ⟨ys,rfl,_⟩:=hy;exact .inr ⟨h.1.1,xs,ys,rfl,rfl⟩
  ·cases h
 ·obtain ⟨_,h2⟩:=qcg hx;rcases h2 with ⟨_,_,rfl⟩|⟨_,a,cap,ec,rfl,_⟩<;>exact .inl rfl
 ·have:zx=.slice none 0 0:=hx;subst this;exact .inl rfl
 ·obtain ⟨c,rfl,_⟩:=hx;exact .inl rfl
 ·have:zx=.nilFunc:=hx;subst this;exact .inl rfl
 ·rename_i a k n;have hx:qbj imm w a k n zx:=hx;rcases q8i a hx with ⟨rfl,_⟩|⟨_,_,rfl,_⟩<;>exact .inl rfl
 ·have:zx=.pointer none:=hx;subst this;exact .inl rfl
 ·rw [q08,zd] at h;obtain ⟨a,rfl⟩:=qdr hx h.1.2;exact .inl rfl
 ·split at h
  ·rename_i e s he;rcases qg8 hx he hl with ⟨_,_,rfl⟩|⟨_,a,cap,rfl⟩<;>exact .inl rfl
  ·cases h
 ·cases h
theorem qyr (hE:EqOk C) (hm:MRel C X φ o w) {op:BinOp} {t:TypeId} {x y:Operand} {vx vy:V} {v:V} {u:List (Nat×Obj)} (hx:q03 φ o (immB X φ o w) w vx (ρ x)) (hy:q03 φ o (immB X φ o w) w vy (ρ y)) (h:(qqq lf C o op t vx vy).gives v u):Res C X φ o w v u (do eqGuard op t x y (ρ x) (ρ y);binOp op t (ρ x) (ρ y)):=by
 have h1:=qyi hm.objs hx hy (fun t p a b xs ys=>hE.eq w _ t p a b xs ys) h;obtain ⟨hu,val,h2,h3⟩:=h1;refine Res.of_pure hm ⟨hu,val,?_,h3⟩;rcases qmx hm.objs hx hy h with hg|⟨hg,xs,ys,e1,e2⟩
 ·simp [qmk hg,h2]
 ·rw [e1,e2] at h2 ⊢;simp [run_eqGuard_agg w op t x y xs ys (hE.guard t hg),h2]
theorem qam (hρ:∀x,q03 φ o imm w (opd C env x) (ρ x)):∀(l:List Operand),q0m φ o imm w (l.map (opd C env)) (l.map ρ)
 |[]=>rfl
 |x::l=>⟨_,_,rfl,hρ x,qam hρ l⟩
theorem qe4 (hρ:∀x,q03 φ o imm w (opd C env x) (ρ x)):∀(l:List (Nat×Operand)),qft φ o imm w (l.map fun p=>(p.1,opd C env p.2)) (l.map fun p=>(p.1,ρ p.2))
 |[]=>rfl
 |x::l=>⟨_,_,rfl,hρ x.2,qe4 hρ l⟩
theorem qi5 (hρ:∀x,q03 φ o imm w (opd C env x) (ρ x)) (x:Option Operand):relO φ o imm w (x.map (opd C env)) (x.map ρ):=by
 cases x with
 |none=>trivial
 |some x=>exact hρ x
theorem qe5 {xs:Array Operand} {ρ:Operand→Value} {l:List Operand} (h:xs.toList=l):xs.map ρ=(l.map ρ).toArray:=by rw [←h,←Array.toList_map,Array.toArray_toList]
def q78 (C:Cx) (R:q1r C.sigs) (X:Nat→Prop) (φ:Nat→Addr) (o:Nat→Obj) (w:World) (fr f:Nat):Prop:=
 ∀(vs:List V) (zs:List Value) (v:V) (u:List (Nat×Obj)),q0m φ o (immB X φ o w) w vs zs→(q94 lf C R o fr f vs C.sigs 0).gives v u→q4s fr o u→
  (∃fn,C.P.funcs[f]?=some fn∧(fn.name== "runtime.NumGoroutine")=false∧fn.body.isNone=false)∧
  Calls C.P f zs.toArray w fun e w'=>∃val φ',e=.returned val∧Comes C X φ φ' o u w w' v val
theorem z3s (hm:MRel C X φ o w) (hρ:∀x,q03 φ o (immB X φ o w) w (opd C env x) (ρ x)) {fr:Nat} {ty:TypeId} {v:V} {u:List (Nat×Obj)} (x:Operand) (h:(qj4 C fr ty (opd C env x)).gives v u) (hf:q4s fr o u):Lands C X φ o w v u (.ok (.value (ρ x)) w):=by
 have hx:=hρ x;unfold qj4 at h;split at h
 ·rename_i e1;rw [e1] at hx;split at h
  ·rename_i e _;rw [q09] at h;obtain ⟨rfl,rfl⟩:=h;have hc:o fr=.none:=hf _ (ze ..) (Nat.le_refl _) (by show fr<fr+16;omega);refine .inl ⟨_,w,φ,rfl,Comes.write hm (.vec e 0 false ⟨true,[]⟩) (by simp [excl,live]) rfl (fun _ _=>rfl) (qbr hc _) (fun _ _ _=>⟨Nat.zero_le _,fun _=>rfl,fun h=>by simp at h⟩) (fun _ h=>by simp at h) (fun he=>?_)⟩;unfold q03;rw [he];exact ⟨Nat.le_refl _,fun _=>.inl ⟨rfl,hx⟩⟩
  ·rw [q09] at h;obtain ⟨rfl,rfl⟩:=h;exact .same hm hx
 ·rw [q09] at h;obtain ⟨rfl,rfl⟩:=h;exact .same hm hx
theorem z1x (hm:MRel C X φ o w) (hρ:∀x,q03 φ o (immB X φ o w) w (opd C env x) (ρ x)) {v:V} {u:List (Nat×Obj)} {c a b:Operand} {dst:Option Tmp} {ty:TypeId} {pos:String} {after:Array Edge} {guard:Option (Nat×Bool)} {fr:Nat} (h:(opPk lf C R env o fr ty (.pick c a b)).gives v u):Lands C X φ o w v u ((execOp ρ ⟨dst,.pick c a b,ty,pos,after,guard⟩).run C.P w):=by
 have hc:=hρ c;have key:∀x,(opdL C env c=.lb x∨opdL C env c=.d .bool x)→opd C env c=.d .bool x:=by
  intro x h;cases c with
  |tmp t=>show unlb (env t)=_;have h:env t=.lb x∨env t=.d .bool x:=h;rcases h with h|h<;>rw [h]<;>rfl
  |const z=>
   rcases h with h|h
   ·exfalso;have h:cst z=.lb x:=h;have hn:∀(b:Bool) (y:V),(∀x,y≠.lb x)→(bif b then y else V.junk)≠.lb x:=by
     intro b y hy;cases b
     ·intro h;cases h
     ·exact hy x
    unfold cst at h;split at h<;>first|exact hn _ _ (fun _ h=>by cases h) h|cases h
   ·exact h
  |global g=>
   rcases h with h|h
   ·exfalso;have h:opd C env (.global g)=.lb x:=h;simp only [opd] at h;split at h<;>cases h
   ·exact h
  |func f=>rcases h with h|h<;>cases h
 simp only [opPk] at h;split at h
 ·rename_i x e;rw [q09] at h;obtain ⟨rfl,rfl⟩:=h;rw [key x (.inl e)] at hc;have hc:=q1p hc;simp only [execOp,hc,asBool];cases x
  ·exact .same hm (hρ b)
  ·exact .same hm (hρ a)
 ·rename_i x e;rw [q09] at h;obtain ⟨rfl,rfl⟩:=h;rw [key x (.inr e)] at hc;have hc:=q1p hc;simp only [execOp,hc,asBool];exact .same hm (qym (hρ a) (hρ b))
 ·cases h
theorem z1y (hm:MRel C X φ o w) (hρ:∀x,q03 φ o (immB X φ o w) w (opd C env x) (ρ x)) {v:V} {u:List (Nat×Obj)} {op:UnOp} {t:TypeId} {x:Operand} {dst:Option Tmp} {ty:TypeId} {pos:String} {after:Array Edge} {guard:Option (Nat×Bool)} {fr:Nat} (h:(opPk lf C R env o fr ty (.unOp op t x)).gives v u):Lands C X φ o w v u ((execOp ρ ⟨dst,.unOp op t x,ty,pos,after,guard⟩).run C.P w):=by
 have hx:=hρ x;cases op with
 |xor=>
  simp only [opPk] at h;split at h
  ·rename_i k n e;rw [e] at hx;rw [q09] at h;obtain ⟨rfl,rfl⟩:=h;obtain ⟨hz,_⟩:=q2q hx;simp only [execOp,hz];have e1:ones k=if k.signed then -1 else k.max:=by cases k<;>decide
   exact (Res.of_pure hm ⟨rfl,.int k (lf.xorI k (ones k) n),by rw [e1];simp [Op.unary,Op.intBits,lf,xorI,pure],q2r (qbm _ _)⟩).lands
  ·cases h
 |plus=>exact False.elim h
 |neg=>
  simp only [opPk] at h;split at h
  ·rename_i k n e;rw [e] at hx;rw [q09] at h;obtain ⟨rfl,rfl⟩:=h;obtain ⟨hz,_⟩:=q2q hx;simp only [execOp,hz];exact (Res.of_pure hm ⟨rfl,.int k (k.wrap (0-n)),by simp [Op.unary,Op.intArith],q2r (qbm _ _)⟩).lands
  ·cases h
 |not=>
  simp only [opPk] at h;split at h
  ·rename_i b e;rw [e] at hx;rw [q09] at h;obtain ⟨rfl,rfl⟩:=h;have hz:=q1p hx;simp only [execOp,hz];exact (Res.of_pure hm ⟨rfl,.bool (!b),by simp [Op.unary],q72⟩).lands
  ·cases h
theorem qmy (hm:MRel C X φ o w) (hρ:∀x,q03 φ o (immB X φ o w) w (opd C env x) (ρ x)) {v:V} {u:List (Nat×Obj)} {fn:Fn} {first caps:Array Operand} {dst:Option Tmp} {ty:TypeId} {pos:String} {after:Array Edge} {guard:Option (Nat×Bool)} {fr:Nat} (h:(opPk lf C R env o fr ty (.makeFunc fn first caps)).gives v u):Lands C X φ o w v u ((execOp ρ ⟨dst,.makeFunc fn first caps,ty,pos,after,guard⟩).run C.P w):=by
 cases fn<;>try exact False.elim h
 rename_i f;simp only [opPk] at h;split at h
 ·rename_i e;rw [q09] at h;obtain ⟨rfl,rfl⟩:=h;have e1:first.map ρ=#[]:=by rw [qe5 e];rfl
  simp only [execOp,e1,Instr.makeFunc];have hv:q03 φ o (immB X φ o w) w (.fn f (caps.toList.map (opd C env))) (.func (.func f) #[] (caps.map ρ)):=⟨caps.map ρ,rfl,by rw [Array.toList_map];exact qam hρ _⟩;exact (Res.of_pure (s:=pure (.func (.func f) #[] (caps.map ρ))) hm ⟨rfl,_,rfl,hv⟩).lands
 ·cases h
theorem qr6 (hm:MRel C X φ o w) (hρ:∀x,q03 φ o (immB X φ o w) w (opd C env x) (ρ x)) {v:V} {u:List (Nat×Obj)} {x:Operand} {i:Nat} {dst:Option Tmp} {ty:TypeId} {pos:String} {after:Array Edge} {guard:Option (Nat×Bool)} {fr:Nat} (h:(opPk lf C R env o fr ty (.extract x i)).gives v u):Lands C X φ o w v u ((execOp ρ ⟨dst,.extract x i,ty,pos,after,guard⟩).run C.P w):=by exact (qyq hm (hρ x) h).lands
theorem z1z (hm:MRel C X φ o w) (hρ:∀x,q03 φ o (immB X φ o w) w (opd C env x) (ρ x)) {v:V} {u:List (Nat×Obj)} {x:Operand} {b:Bool} {dst:Option Tmp} {ty:TypeId} {pos:String} {after:Array Edge} {guard:Option (Nat×Bool)} {fr:Nat} (h:(opPk lf C R env o fr ty (.next x b)).gives v u):Lands C X φ o w v u ((execOp ρ ⟨dst,.next x b,ty,pos,after,guard⟩).run C.P w):=by
 cases b with
 |false=>exact False.elim h
 |true=>exact (qu2 hm (hρ x) h).lands
theorem qe6 {fr:Nat} {n:Int} {vs:List V} {z:Value} {b:Bool}:∀(a:List (Nat×Bool)) (i:Nat) (k:Int),qj6 lf C R o fr (k+(i:Int)) n vs a i=some (some b)→qbj imm w a k n z→∃f caps capsz,z=.func (.func f) #[] capsz∧q0m φ o imm w caps capsz.toList∧(q94 lf C R o fr f (vs++caps) C.sigs 0).gives (.d .bool b) []
 |[],_,_,h,_=>by cases h
 |(f,c)::r,i,k,h,hr=>by
  unfold qj6 at h;split at h
  ·rename_i x hx;split at h
   ·rename_i y hy;injection h with h;rcases hr with ⟨rfl,h2⟩|⟨h1,h2⟩
    ·have he:lf.eqI (0+(i:Int)) (Int.ofNat i)=true:=by show ((0+(i:Int))==Int.ofNat i)=true;simp
     rw [he] at h;have h:x=some b:=h;subst h;have gv:(q94 lf C R o fr f (vs++bif c then [.ref (.int .i64) n] else []) C.sigs 0).gives (.d .bool b) []:=by
      revert hx;generalize q94 lf C R o fr f (vs++bif c then [.ref (.int .i64) n] else []) C.sigs 0=p;intro hx;cases p with
      |fail=>cases hx
      |nowU v u=>cases hx
      |dyn α x' out=>
       injection hx with hx;cases x' with
       |none=>cases hx
       |some q=>
        have hx:(match out q with|(.d .bool b,[])=>some b|_=>none)=some b:=hx;split at hx
        ·rename_i b' eo;injection hx with hx;subst hx;exact ⟨q,rfl,eo⟩
        ·cases hx
     cases c with
     |false=>exact ⟨f,[],#[],h2,rfl,gv⟩
     |true=>obtain ⟨p,h3,h4⟩:=h2;exact ⟨f,[.ref (.int .i64) n],#[p],h3,⟨p,[],rfl,h4,rfl⟩,gv⟩
    ·have he:lf.eqI (k+(i:Int)) (Int.ofNat i)=false:=by
      show ((k+(i:Int))==Int.ofNat i)=false;have:k+(i:Int)≠Int.ofNat i:=by show k+(i:Int)≠(i:Int);omega
      exact beq_false_of_ne this
     rw [he] at h;have h:y=some b:=h;subst h;refine qe6 r (i+1) (k-1) ?_ h2;have:k-1+((i+1:Nat):Int)=k+(i:Int):=by omega
     rw [this];exact hy
   ·cases h
  ·cases h
theorem qys (hρ:∀x,q03 φ o (immB X φ o w) w (opd C env x) (ρ x)) {v:V} {u:List (Nat×Obj)} {f:Operand} {args:Array Operand} {ats:Array TypeId} {dst:Option Tmp} {ty:TypeId} {pos:String} {after:Array Edge} {guard:Option (Nat×Bool)} {fr:Nat} (he:∀f,q78 C R X φ o w fr f) (h:(opPk lf C R env o fr ty (.call ⟨.value f,args,ats⟩)).gives v u) (hf:q4s fr o u):Lands C X φ o w v u ((execOp ρ ⟨dst,.call ⟨.value f,args,ats⟩,ty,pos,after,guard⟩).run C.P w):=by
 have hx:=hρ f;simp only [opPk] at h;split at h
 ·rename_i fid caps e;rw [e] at hx;obtain ⟨cz,hz,hr⟩:=hx;have hc:q0m φ o (immB X φ o w) w (args.toList.map (opd C env)++caps) ((args.map ρ).toList++cz.toList):=by rw [Array.toList_map];exact q6e (qam hρ _) hr
  obtain ⟨⟨fn,g1,g2,g3⟩,g4⟩:=he fid _ _ v u hc h hf;refine .inr (.inr ⟨fid,((args.map ρ).toList++cz.toList).toArray,?_,g4⟩);have e2:((args.map ρ).toList++cz.toList).toArray=args.map ρ++cz:=by apply Array.toList_inj.1;simp
  rw [e2];have g2':¬fn.name= "runtime.NumGoroutine":=by simpa using g2
  have g3':fn.body≠none:=by intro e;rw [e] at g3;cases g3
  simp [execOp,resolve,hz,Deferred.ofValue,invoke,callFunc,g1,g2',g3']
 ·rename_i a k n e;rw [e] at hx;split at h
  ·rename_i x hg;obtain ⟨b,hb,ho⟩:=h;subst hb;injection ho with hj hl;subst hj hl;have hg:qj6 lf C R o fr (k+((0:Nat):Int)) n (args.toList.map (opd C env)) a 0=some (some b):=by
    have:k+((0:Nat):Int)=k:=by omega
    rw [this];exact hg
   obtain ⟨fid,caps,cz,hz,hr,h⟩:=qe6 (φ:=φ) (imm:=immB X φ o w) (w:=w) a 0 k hg hx;have hc:q0m φ o (immB X φ o w) w (args.toList.map (opd C env)++caps) ((args.map ρ).toList++cz.toList):=by rw [Array.toList_map];exact q6e (qam hρ _) hr
   obtain ⟨⟨fn,g1,g2,g3⟩,g4⟩:=he fid _ _ _ _ hc h hf;refine .inr (.inr ⟨fid,((args.map ρ).toList++cz.toList).toArray,?_,g4⟩);have e2:((args.map ρ).toList++cz.toList).toArray=args.map ρ++cz:=by apply Array.toList_inj.1;simp
   rw [e2];have g2':¬fn.name= "runtime.NumGoroutine":=by simpa using g2
   have g3':fn.body≠none:=by intro e;rw [e] at g3;cases g3
   simp [execOp,resolve,hz,Deferred.ofValue,invoke,callFunc,g1,g2',g3']
  ·exact False.elim h
 ·cases h
theorem qk1 {k:IntKind} {a b:Int} (ha:inK k a) (hb:inK k b):inK k (minI a b)∧inK k (maxI a b):=by unfold minI maxI;constructor<;>split<;>assumption
theorem qr7 (hC:CxOk C) (hm:MRel C X φ o w) (hρ:∀x,q03 φ o (immB X φ o w) w (opd C env x) (ρ x)) {v:V} {u:List (Nat×Obj)} {b:Builtin} {args:Array Operand} {ats:Array TypeId} {dst:Option Tmp} {ty:TypeId} {pos:String} {after:Array Edge} {guard:Option (Nat×Bool)} {fr:Nat} (h:(opPk lf C R env o fr ty (.call ⟨.builtin b,args,ats⟩)).gives v u) (hf:q4s fr o u):Lands C X φ o w v u ((execOp ρ ⟨dst,.call ⟨.builtin b,args,ats⟩,ty,pos,after,guard⟩).run C.P w):=by
 have args2:∀{x y:V},args.toList.map (opd C env)=[x,y]→∃zx zy,args.map ρ=#[zx,zy]∧q03 φ o (immB X φ o w) w x zx∧q03 φ o (immB X φ o w) w y zy:=by
  intro x y e
  match hl:args.toList,e with
  |[a,b],e=>simp only [zV,List.map_nil,List.cons.injEq,and_true] at e;obtain ⟨rfl,rfl⟩:=e;exact ⟨ρ a,ρ b,qe5 hl,hρ a,hρ b⟩
 have args1:∀{x:V},args.toList.map (opd C env)=[x]→∃zx,args.map ρ=#[zx]∧q03 φ o (immB X φ o w) w x zx:=by
  intro x e
  match hl:args.toList,e with
  |[a],e=>simp only [zV,List.map_nil,List.cons.injEq,and_true] at e;subst e;exact ⟨ρ a,qe5 hl,hρ a⟩
 have tys:∀{l:List TypeId},ats.toList=l→ats=l.toArray:=fun e=>by rw [←e,Array.toArray_toList]
 simp only [opPk,qj7] at h;split at h
 ·rename_i t ts x e1 e2;obtain ⟨zx,h1,h2⟩:=args1 e2;have:=(Res.of_pure hm (qyk (ts:=ts) (ty:=ty) hm h2 h)).lands;rw [←tys e1] at this;simpa [execOp,resolve,invoke,builtin,h1] using this
 ·rename_i t u' ts x y e1 e2;obtain ⟨zx,zy,h1,h2,h3⟩:=args2 e2;have:=(qmr (ts:=ts) (ty:=ty) hC hm h2 h3 h hf).lands;rw [←tys e1] at this;simpa [execOp,resolve,invoke,builtin,h1] using this
 ·rename_i t ts x y e1 e2;obtain ⟨zx,zy,h1,h2,h3⟩:=args2 e2;have:=(qtt (ts:=ts) (ty:=ty) hC hm h2 h3 h).lands;rw [←tys e1] at this;simpa [execOp,resolve,invoke,builtin,h1] using this
 ·rename_i t ts x e1 e2;obtain ⟨zx,h1,h2⟩:=args1 e2;have:=(qr3 (ts:=ts) (ty:=ty) hC hm h2 h).lands;rw [←tys e1] at this;simpa [execOp,resolve,invoke,builtin,h1] using this
 ·rename_i t ts x y e1 e2;obtain ⟨zx,zy,h1,h2,h3⟩:=args2 e2;have:=(qmw (ts:=ts) (ty:=ty) hC hm h2 h3 h).lands;rw [←tys e1] at this;simpa [execOp,resolve,invoke,builtin,h1] using this
 ·rename_i k a k' b e2;obtain ⟨zx,zy,h1,h2,h3⟩:=args2 e2;obtain ⟨rfl,i1⟩:=q2q h2;obtain ⟨rfl,i2⟩:=q2q h3;rw [q08,q09] at h;obtain ⟨hk,rfl,rfl⟩:=h;have:=q81 hk;subst this;have:Lands C X φ o w (.d (.int k) (lf.minI a b)) [] _:=(Res.of_pure (s:=Builtin.min_ ats ty #[.int k a,.int k b]) hm ⟨rfl,.int k (minI a b),by simp [Builtin.min_,Builtin.min2,minI],q2r (qk1 i1 i2).1⟩).lands;simpa [execOp,resolve,invoke,builtin,h1] using this
 ·rename_i k a k' b e2;obtain ⟨zx,zy,h1,h2,h3⟩:=args2 e2;obtain ⟨rfl,i1⟩:=q2q h2;obtain ⟨rfl,i2⟩:=q2q h3;rw [q08,q09] at h;obtain ⟨hk,rfl,rfl⟩:=h;have:=q81 hk;subst this;have:Lands C X φ o w (.d (.int k) (lf.maxI a b)) [] _:=(Res.of_pure (s:=Builtin.max_ ats ty #[.int k a,.int k b]) hm ⟨rfl,.int k (maxI a b),by simp [Builtin.max_,Builtin.max2,maxI],q2r (qk1 i1 i2).2⟩).lands;simpa [execOp,resolve,invoke,builtin,h1] using this
 ·cases h
set_option maxHeartbeats 4000000 in
theorem z20 (hC:CxOk C) (hE:EqOk C) (hm:MRel C X φ o w) (hρ:∀x,q03 φ o (immB X φ o w) w (opd C env x) (ρ x)) {op:Oper} {fr:Nat} (hc:∀f,q78 C R X φ o w fr f) {v:V} {u:List (Nat×Obj)} (h:(opPk lf C R env o fr op.type op.op).gives v u) (hf:q4s fr o u):Lands C X φ o w v u ((execOp ρ op).run C.P w):=by
 obtain ⟨dst,op,ty,pos,after,guard⟩:=op;cases op
 case move x=>exact z3s hm hρ x h hf
 case assign x=>exact z3s hm hρ x h hf
 case pick c a b=>exact z1x hm hρ h
 case alloc e=>exact (qr0 hC hm h hf _).lands
 case box e x=>exact (qyo hm (hρ x) h hf).lands
 case build t ps=>refine (qtp (fun v u h=>qr1 (zparts:=ps.map fun p=>(p.1,ρ p.2)) hC hm ?_ h) h hf).lands;rw [Array.toList_map];exact qe4 hρ _
 case buildSlice t n ps=>refine (qdz (zparts:=ps.map fun p=>(p.1,ρ p.2)) hC hm ?_ h hf).lands;rw [Array.toList_map];exact qe4 hρ _
 case load t a=>exact (Res.of_pure hm (qjn hC hm (hρ a) h)).lands
 case store t a x=>exact (qr2 hC hm (hρ a) (hρ x) h).lands
 case nilCheck x=>obtain ⟨rfl,rfl,hz⟩:=qyn (hρ x) h;have hx:=hρ x;rcases hz with ⟨a,e⟩|⟨f,c,e⟩<;>simp only [execOp,e]<;>rw [e] at hx<;>exact .same hm hx
 case binOp op t x y yt=>exact (qyr hE hm (hρ x) (hρ y) h).lands
 case unOp op t x=>exact z1y hm hρ h
 case convert s d x=>exact (qjt hC hm (hρ x) h hf).lands
 case makeFunc fn first caps=>exact qmy hm hρ h
 case makeSlice t l c=>exact (qfu hC hm (hρ l) (hρ c) h hf).lands
 case slice t x lo hi mx=>exact (qqy hC hm (hρ x) (qi5 hρ lo) (qi5 hρ hi) (qi5 hρ mx) h hf).lands
 case fieldAddr t x f=>exact (Res.of_pure hm (qfr hC hm (hρ x) h)).lands
 case field t x f=>exact (Res.of_pure hm (qqw hC hm (hρ x) h)).lands
 case indexAddr t x i=>exact (Res.of_pure hm (qfs hC hm (hρ x) (hρ i) h)).lands
 case index t x i=>exact (Res.of_pure hm (qqx hC (hρ x) (hρ i) h)).lands
 case extract x i=>exact qr6 hm hρ h
 case range t x=>exact (qr5 hm (hρ x) h hf).lands
 case next x b=>exact z1z hm hρ h
 case makeMap t r=>
  cases r with
  |none=>exact (qjy hm h hf).lands
  |some x=>exact False.elim h
 case lookup t x k ok=>exact (qmv hC hm (hρ x) (hρ k) h).lands
 case mapUpdate t m k x=>exact (qfv hC hm (hρ m) (hρ k) (hρ x) h).lands
 case call c=>
  obtain ⟨callee,args,ats⟩:=c;cases callee with
  |invoke r m=>exact False.elim h
  |value f=>exact qys hρ hc h hf
  |builtin b=>exact qr7 hC hm hρ h hf
 all_goals exact False.elim h
end
end Ev

namespace Ev
open Go
theorem hasN_iff {j:Nat}:∀{l:List Nat},hasN j l=true↔j∈l
 |[]=>by simp [hasN]
 |b::r=>by
  simp only [hasN,zj];cases h:Nat.beq b j with
  |true=>have:=zg h;simp [this]
  |false=>
   have:¬j=b:=fun e=>by subst e;rw [Nat.beq_refl] at h;cases h
   simp [this,hasN_iff]
theorem qe7:∀{u:List (Nat×Obj)} {o o':Nat→Obj} {id:Nat},id∈q0e u→upds o u id=upds o' u id
 |(i,x)::r,o,o',id,h=>by
  show upds (upd o i x) r id=upds (upd o' i x) r id;by_cases hr:id∈q0e r
  ·exact qe7 hr
  ·rw [q0n hr,q0n hr];simp only [q0e,zj,hr,or_false] at h;subst h;rw [q0d,q0d]
section
variable {C:Cx} {X:Nat→Prop} {φ φ':Nat→Addr} {o o':Nat→Obj} {w w':World} {imm:Nat→Prop} {F:List Nat}
theorem qgd:∀(x:V) (z:Value),(∀id,id∈idsV x→o' id=o id)→q03 φ o imm w x z→q03 φ o' imm w x z:=by
 intro x;refine V.rec (motive_1:=fun x=>∀z,(∀id,id∈idsV x→o' id=o id)→q03 φ o imm w x z→q03 φ o' imm w x z)
  (motive_2:=fun l=>∀zs,(∀id,id∈idsL l→o' id=o id)→q0m φ o imm w l zs→q0m φ o' imm w l zs)
  ?_ ?_ ?_ ?_ ?_ ?_ ?_ ?_ ?_ ?_ ?_ ?_ ?_ ?_ ?_ ?_ ?_ ?_ ?_ ?_ ?_ ?_ ?_ ?_ ?_ x
 ·exact fun t x z _ h=>h
 ·intro id ver z hs h;have:=hs id (by simp [idsV]);unfold q03 at*;rw [this];exact h
 ·intro id ver n cp z hs h;have:=hs id (by simp [idsV]);unfold q03 at*;rw [this];exact h
 ·intro id off z hs h;have:=hs id (by simp [idsV]);unfold q03 at*;rw [this];exact h
 ·intro id ver i path z hs h;have:=hs id (by simp [idsV]);unfold q03 at*;rw [this];exact h
 ·exact fun t x z _ h=>h
 ·exact fun z _ h=>h
 ·exact fun f l ih z hs ⟨c,h1,h2⟩=>⟨c,h1,ih _ (fun id h=>hs id (by unfold idsV;exact h)) h2⟩
 ·exact fun z _ h=>h
 ·exact fun l ih z hs ⟨c,h1,h2⟩=>⟨c,h1,ih _ (fun id h=>hs id (by unfold idsV;exact h)) h2⟩
 ·exact fun l ih z hs ⟨c,h1,h2⟩=>⟨c,h1,ih _ (fun id h=>hs id (by unfold idsV;exact h)) h2⟩
 ·intro id z hs h;have:=hs id (by simp [idsV]);unfold q03 at*;rw [this];exact h
 ·exact fun z _ h=>h
 ·exact fun z _ h=>h
 ·exact fun z _ h=>h
 ·exact fun b z _ h=>h
 ·exact fun z _ h=>h
 ·exact fun z _ h=>h
 ·intro id b z hs h;have:=hs id (by simp [idsV]);unfold q03 at*;rw [this];exact h
 ·intro id ver lo z hs h;have:=hs id (by simp [idsV]);unfold q03 at*;rw [this];exact h
 ·intro id z hs h;have:=hs id (by simp [idsV]);unfold q03 at*;rw [this];exact h
 ·exact fun b p c z _ h=>h
 ·exact fun a k n z _ h=>h
 ·exact fun zs _ h=>h
 ·exact fun x l ih1 ih2 zs hs ⟨v,r,h1,h2,h3⟩=>⟨v,r,h1,ih1 _ (fun id h=>hs id (by unfold idsL;exact List.mem_append_left _ h)) h2,
   ih2 _ (fun id h=>hs id (by unfold idsL;exact List.mem_append_right _ h)) h3⟩
theorem qk2:∀(l:List V) (zs:List Value),(∀id,id∈idsL l→o' id=o id)→q0m φ o imm w l zs→q0m φ o' imm w l zs
 |[],_,_,h=>h
 |x::l,_,hs,⟨v,r,h1,h2,h3⟩=>⟨v,r,h1,qgd x v (fun id h=>hs id (by unfold idsL;exact List.mem_append_left _ h)) h2,
   qk2 l r (fun id h=>hs id (by unfold idsL;exact List.mem_append_right _ h)) h3⟩
def Xr (X:Nat→Prop) (φ:Nat→Addr) (o:Nat→Obj) (F:List Nat) (b:Nat):Prop:=X b∨∃id,id∉F∧excl (φ id) (o id)=true∧(φ id).block=b
theorem q1u {id:Nat} (h:id∈F):objR o F id=o id:=by unfold objR;rw [hasN_iff.2 h];rfl
theorem q30 {id:Nat} (h:id∉F):objR o F id=.none:=by
 unfold objR;cases e:hasN id F with
 |true=>exact absurd (hasN_iff.1 e) h
 |false=>rfl
theorem immR (b:Nat):immB (Xr X φ o F) φ (objR o F) w b↔immB X φ o w b:=by
 constructor
 ·rintro ⟨h1,h2,h3⟩;refine ⟨h1,fun h=>h2 (.inl h),fun ⟨id,e1,e2⟩=>?_⟩;by_cases hi:id∈F
  ·exact h3 ⟨id,by rw [q1u hi];exact e1,e2⟩
  ·exact h2 (.inr ⟨id,hi,e1,e2⟩)
 ·rintro ⟨h1,h2,h3⟩;refine ⟨h1,?_,fun ⟨id,e1,e2⟩=>?_⟩
  ·rintro (h|⟨id,_,e1,e2⟩)
   ·exact h2 h
   ·exact h3 ⟨id,e1,e2⟩
  ·by_cases hi:id∈F
   ·rw [q1u hi] at e1;exact h3 ⟨id,e1,e2⟩
   ·rw [q30 hi] at e1;exact (q0w e1).elim
theorem qr8 {imm':Nat→Prop} {id:Nat} {x:Obj} (hi:∀b,imm b→imm' b) (hs:∀j,j∈idsO x→o' j=o j) (h:q3s φ o imm w id x):q3s φ o' imm' w id x:=by
 have hk:∀x z,q03 φ o' imm w x z→q03 φ o' imm' w x z:=fun x z h=>q33 hi (fun _ _=>rfl) (fun _=>Up.same fun _ _ h=>h) x z h;cases x with
 |dead=>trivial
 |none=>trivial
 |box cs=>obtain ⟨h1,c,el,lo,hc,h2,h3,h4⟩:=h;exact ⟨h1,c,el,lo,hc,h2,h3,q58 hk _ _ (qk2 cs _ hs h4)⟩
 |map k v m=>obtain ⟨es,clock,h1,h2⟩:=h;exact ⟨es,clock,h1,q3d (q1m hi (fun _ _=>rfl) _) (q1m hi (fun _ _=>rfl) _) h2⟩
 |iter l p=>exact h
 |vec t ver fr s=>obtain ⟨h1,h2,h3⟩:=h;refine ⟨h1,h2,fun hn=>?_⟩;refine (h3 hn).imp (fun ⟨h4,ec,h5,h6,h7,h8,h9⟩=>?_) fun g=>g;exact ⟨h4,ec,q11 (q0j hi (fun _ _=>rfl) t) h5,h6,h7,h8,fun hf=>hi _ (h9 hf)⟩
theorem MRel.els_keep (hm:MRel C X φ o w) (id:Nat) (hb:excl (φ id) (o id)=true→ElKept w w' (φ id).block) (stays:∀b,immB X φ o w b→w'.heap[b]?=w.heap[b]?):ElsAt C w' (φ id) (o id):=by
 refine (hm.els id).keep hb (fun ver s e hn=>.same ?_) (hm.elsC id);have ho:=hm.objs id;rw [e] at ho;obtain ⟨_,_,ho⟩:=ho;rcases ho hn with ⟨_,_,_,_,_,_,g7⟩|g7
 ·exact stays _ (g7 rfl)
 ·exact absurd rfl g7.2.2
theorem MRel.restrict (hm:MRel C X φ o w) (hc:∀id,id∈F→∀j,j∈idsO (o id)→j∈F):MRel C (Xr X φ o F) φ (objR o F) w:=by
 refine ⟨fun id=>?_,fun i j hi hj e=>?_,fun i hi=>?_,fun b hb=>?_,fun id=>?_,fun g t x hg=>?_⟩
 ·by_cases h:id∈F
  ·rw [q1u h];exact qr8 (fun b hb=>(immR b).2 hb) (fun j hj=>q1u (hc id h j hj)) (hm.objs id)
  ·rw [q30 h];trivial
 ·have h1:i∈F:=zP fun h=>by rw [q30 h] at hi;exact q0w hi
  have h2:j∈F:=zP fun h=>by rw [q30 h] at hj;exact q0w hj
  rw [q1u h1] at hi;rw [q1u h2] at hj;exact hm.inj i j hi hj e
 ·have h1:i∈F:=zP fun h=>by rw [q30 h] at hi;exact q0w hi
  rw [q1u h1] at hi;refine ⟨(hm.sep i hi).1,?_⟩;rintro (h|⟨id,h2,h3,h4⟩)
  ·exact (hm.sep i hi).2 h
  ·have:=hm.inj id i h3 hi h4;exact h2 (this▸h1)
 ·rcases hb with hb|⟨id,_,h3,h4⟩
  ·exact hm.xs b hb
  ·exact h4▸(hm.sep id h3).1
 ·by_cases h:id∈F
  ·rw [q1u h];exact hm.els id
  ·rw [q30 h];trivial
 ·obtain ⟨a,cs,h1,h2,h3,h4,h5⟩:=hm.globs g t x hg;exact ⟨a,cs,h1,h2,(immR _).2 h3,q0j (fun b hb=>(immR b).2 hb) (fun _ _=>rfl) t x cs h4,h5⟩
theorem qe8 {x:V} {z:Value} (hs:∀id,id∈idsV x→id∈F) (h:q03 φ o (immB X φ o w) w x z):q03 φ (objR o F) (immB (Xr X φ o F) φ (objR o F) w) w x z:=q33 (fun b hb=>(immR b).2 hb) (fun _ _=>rfl) (fun _=>Up.same fun _ _ h=>h) x z (qgd x z (fun id hi=>q1u (hs id hi)) h)
theorem Comes.unrestrict (hm:MRel C X φ o w) {u:List (Nat×Obj)} {v:V} {z:Value} (hu:∀id,id∈q0e u→id∉F→o id=.none) (h:Comes C (Xr X φ o F) φ φ' (objR o F) u w w' v z):∃φ'',Comes C X φ φ'' o u w w' v z:=by
 let ins:Nat→Prop:=fun id=>id∈F∨id∈q0e u;refine ⟨fun id=>bif hasN id F||hasN id (q0e u) then φ' id else φ id,?_⟩;generalize hφ:(fun id=>bif hasN id F||hasN id (q0e u) then φ' id else φ id)=φ'';have p1:∀id,ins id→φ'' id=φ' id:=fun id hi=>by
  rw [←hφ];have:(hasN id F||hasN id (q0e u))=true:=by rw [Bool.or_eq_true];exact hi.imp hasN_iff.2 hasN_iff.2
  simp only [this,cond_true]
 have p2:∀id,¬ins id→φ'' id=φ id:=fun id hi=>by
  rw [←hφ];have:(hasN id F||hasN id (q0e u))=false:=by
   cases e:(hasN id F||hasN id (q0e u)) with
   |false=>rfl
   |true=>rw [Bool.or_eq_true] at e;exact absurd (e.imp hasN_iff.1 hasN_iff.1) hi
  simp only [this,cond_false]
 have q1:∀id,ins id→upds o u id=upds (objR o F) u id:=fun id hi=>by
  by_cases hk:id∈q0e u
  ·exact qe7 hk
  ·rw [q0n hk,q0n hk,q1u (hi.resolve_right hk)]
 have q2:∀id,¬ins id→upds o u id=o id∧upds (objR o F) u id=.none:=fun id hi=>⟨q0n fun hk=>hi (.inr hk),by rw [q0n fun hk=>hi (.inr hk),q30 fun hf=>hi (.inl hf)]⟩;have q3:∀id,ins id→id∉F→o id=.none:=fun id hi hf=>hu id (hi.resolve_left hf) hf;have hl:∀b,immB (Xr X φ o F) φ' (upds (objR o F) u) w' b↔immB X φ'' (upds o u) w' b:=fun b=>by
  constructor
  ·rintro ⟨h1,h2,h3⟩;refine ⟨h1,fun hx=>h2 (.inl hx),fun ⟨id,e1,e2⟩=>?_⟩;by_cases hi:ins id
   ·exact h3 ⟨id,by rw [←q1 id hi,←p1 id hi];exact e1,by rw [←p1 id hi];exact e2⟩
   ·rw [(q2 id hi).1,p2 id hi] at e1;rw [p2 id hi] at e2;exact h2 (.inr ⟨id,fun hf=>hi (.inl hf),e1,e2⟩)
  ·rintro ⟨h1,h2,h3⟩;refine ⟨h1,?_,fun ⟨id,e1,e2⟩=>?_⟩
   ·rintro (hx|⟨id,hf,e1,e2⟩)
    ·exact h2 hx
    ·by_cases hi:ins id
     ·rw [q3 id hi hf] at e1;exact (q0w e1).elim
     ·exact h3 ⟨id,by rw [(q2 id hi).1,p2 id hi];exact e1,by rw [p2 id hi];exact e2⟩
   ·by_cases hi:ins id
    ·exact h3 ⟨id,by rw [q1 id hi,p1 id hi];exact e1,by rw [p1 id hi];exact e2⟩
    ·rw [(q2 id hi).2] at e1;exact (q0w e1).elim
 have ext:∀x z,q03 φ' (upds (objR o F) u) (immB (Xr X φ o F) φ' (upds (objR o F) u) w') w' x z→q03 φ'' (upds o u) (immB X φ'' (upds o u) w') w' x z:=
  fun x z hx=>q33 (fun b hb=>(hl b).1 hb) (fun _ _=>rfl) (fun id=>by
   by_cases hi:ins id
   ·rw [q1 id hi,p1 id hi];exact Up.same fun _ _ h=>h
   ·rw [(q2 id hi).2];trivial) x z hx
 have bl:∀id,¬ins id→excl (φ id) (o id)=true→w'.heap[(φ id).block]?=w.heap[(φ id).block]?:=fun id hi hx=>
  h.frame _ (hm.sep id hx).1 fun ⟨j,j1,j2,j3⟩=>by
   have hj:j∈F:=zP fun hf=>by rw [q30 hf] at j2;exact q0w j2
   rw [q1u hj] at j2;have:=hm.inj j id j2 hx j3;exact hi (.inl (this▸hj))
 have stays:∀b,immB X φ o w b→w'.heap[b]?=w.heap[b]?:=fun b hb=>h.stays b ((immR b).2 hb);have imm:∀b,immB X φ o w b→immB X φ'' (upds o u) w' b:=fun b hb=>(hl b).1 (h.imm b ((immR b).2 hb));have ups:∀id,Up w w' (φ id) (φ'' id) (o id) (upds o u id):=fun id=>by
  by_cases hi:ins id
  ·by_cases hf:id∈F
   ·have:=h.up id;rw [q1u hf] at this;rw [p1 id hi,q1 id hi];exact this
   ·rw [q3 id hi hf];trivial
  ·rw [p2 id hi,(q2 id hi).1];exact Up.same fun hx n hr=>q3c (bl id hi hx) hr
 have keeps:∀x z,q03 φ o (immB X φ o w) w x z→q03 φ'' (upds o u) (immB X φ'' (upds o u) w') w' x z:=fun x z hx=>q33 imm stays ups x z hx;refine ⟨⟨fun id=>?_,fun i j hi hj e=>?_,fun i hi=>?_,fun b hb=>Nat.lt_of_lt_of_le (hm.xs b hb) h.size,fun id=>?_,fun g t x hg=>ext _ _ (h.mem.globs g t x hg)⟩,ext _ _ h.val,ups,h.size,fun b hb hh=>?_,fun id hn hk=>?_,fun id hx=>?_,h.still⟩
 ·by_cases hi:ins id
  ·rw [q1 id hi];exact q39 (fun b hb=>(hl b).1 hb) (fun _ _=>rfl) ext (p1 id hi) (fun _=>rfl) (h.mem.objs id)
  ·rw [(q2 id hi).1];exact q39 imm stays keeps (p2 id hi) (bl id hi) (hm.objs id)
 ·by_cases hc:ins i<;>by_cases he:ins j
  ·rw [q1 i hc,p1 i hc] at hi;rw [q1 j he,p1 j he] at hj;rw [p1 i hc,p1 j he] at e;exact h.mem.inj i j hi hj e
  ·rw [q1 i hc,p1 i hc] at hi;rw [(q2 j he).1,p2 j he] at hj;rw [p1 i hc,p2 j he] at e;exact absurd (.inr ⟨j,fun hf=>he (.inl hf),hj,e.symm⟩) (h.mem.sep i hi).2
  ·rw [q1 j he,p1 j he] at hj;rw [(q2 i hc).1,p2 i hc] at hi;rw [p1 j he,p2 i hc] at e;exact absurd (.inr ⟨i,fun hf=>hc (.inl hf),hi,e⟩) (h.mem.sep j hj).2
  ·rw [(q2 i hc).1,p2 i hc] at hi;rw [(q2 j he).1,p2 j he] at hj;rw [p2 i hc,p2 j he] at e;exact hm.inj i j hi hj e
 ·by_cases hc:ins i
  ·rw [q1 i hc,p1 i hc] at hi;rw [p1 i hc];exact ⟨(h.mem.sep i hi).1,fun hx=>(h.mem.sep i hi).2 (.inl hx)⟩
  ·rw [(q2 i hc).1,p2 i hc] at hi;rw [p2 i hc];exact ⟨Nat.lt_of_lt_of_le (hm.sep i hi).1 h.size,(hm.sep i hi).2⟩
 ·by_cases hi:ins id
  ·rw [q1 id hi,p1 id hi];exact h.mem.els id
  ·rw [(q2 id hi).1,p2 id hi];exact hm.els_keep id (fun hx=>.same (bl id hi hx)) stays
 ·refine h.frame b hb fun ⟨j,j1,j2,j3⟩=>hh ⟨j,j1,?_,j3⟩;have hj:j∈F:=zP fun hf=>by rw [q30 hf] at j2;exact q0w j2
  rwa [q1u hj] at j2
 ·by_cases hf:id∈F
  ·rw [p1 id (.inl hf)];exact h.phi id (by rw [q1u hf];exact hn) hk
  ·exact p2 id fun hi=>hi.elim hf hk
 ·by_cases hi:ins id
  ·rw [q1 id hi,p1 id hi] at hx;rw [p1 id hi];rcases h.news id hx with h1|⟨j,j1,j2⟩
   ·exact .inl h1
   ·have hj:j∈F:=zP fun hf=>by rw [q30 hf] at j1;exact q0w j1
    rw [q1u hj] at j1;exact .inr ⟨j,j1,j2⟩
  ·rw [(q2 id hi).1,p2 id hi] at hx;rw [p2 id hi];exact .inr ⟨id,hx,rfl⟩
end
end Ev

namespace Ev
open Go
structure Mono (a b:PS):Prop where
 ren:∀p,p∈a.ren→p∈b.ren
 cut:∀p,p∈a.cut→p∈b.cut
 lent:∀p,p∈a.lent→p∈b.lent
 full:∀p,p∈a.full→p∈b.full
theorem Mono.refl (a:PS):Mono a a:=⟨fun _ h=>h,fun _ h=>h,fun _ h=>h,fun _ h=>h⟩
theorem Mono.trans {a b c:PS} (h:Mono a b) (h':Mono b c):Mono a c:=⟨fun p hp=>h'.ren p (h.ren p hp),fun p hp=>h'.cut p (h.cut p hp),fun p hp=>h'.lent p (h.lent p hp),fun p hp=>h'.full p (h.full p hp)⟩
abbrev id0:Nat→Nat:=fun i=>i
abbrev ka0:Nat→Nat:=fun _=>0
section
variable {o:Nat→Obj}
def z0k (o:Nat→Obj) (s:Sh):Prop:=∀v ps ps' f,paS lf o s v ps=some (ps',f)→Mono ps ps'∧∀(ρ κ:Nat→Nat) r c,(q46 ρ κ s r (f r c)).2=c
def z0l (o:Nat→Obj) (l:List Sh):Prop:=∀vs ps ps' f,paL lf o l vs ps=some (ps',f)→Mono ps ps'∧∀(ρ κ:Nat→Nat) r c,(q1s ρ κ l r (f r c)).2=c
theorem q0v {b:Bool} {ps ps':PS} {f:∀r,denP r→denP r} (h:q7n b ps=some (ps',f)):b=true∧ps'=ps∧f=fun _ c=>c:=by
 cases b
 ·cases h
 ·injection h with h;injection h with h1 h2;exact ⟨rfl,h1.symm,h2.symm⟩
theorem Mono.tie {ps:PS} (i id:Nat):Mono ps (tie i id ps):=⟨fun _ h=>zf _ h,fun _ h=>h,fun _ h=>h,fun _ h=>h⟩
theorem qr9 {i:Nat} {v:V} {ps ps':PS} {f:∀r,denP r→denP r} (h:qst o i v ps=some (ps',f)):Mono ps ps'∧f=fun _ c=>c:=by
 unfold qst at h;split at h
 ·split at h
  ·obtain ⟨_,rfl,rfl⟩:=q0v h;exact ⟨⟨fun _ h=>zf _ h,fun _ h=>h,fun _ h=>h,fun _ h=>zf _ h⟩,rfl⟩
  ·cases h
 ·split at h
  ·obtain ⟨_,rfl,rfl⟩:=q0v h;exact ⟨⟨fun _ h=>zf _ h,fun _ h=>zf _ h,fun _ h=>h,fun _ h=>h⟩,rfl⟩
  ·cases h
 ·cases h
theorem qra {i off:Nat} {v:V} {ps ps':PS} {f:∀r,denP r→denP r} (h:qsu o i off v ps=some (ps',f)):Mono ps ps'∧f=fun _ c=>c:=by
 unfold qsu at h;split at h
 ·split at h
  ·obtain ⟨_,rfl,rfl⟩:=q0v h;exact ⟨.tie _ _,rfl⟩
  ·obtain ⟨_,rfl,rfl⟩:=q0v h;exact ⟨.tie _ _,rfl⟩
  ·cases h
 ·cases h
theorem qu3 {i:Nat} {v:V} {ps ps':PS} {f:∀r,denP r→denP r} (h:paMp o i v ps=some (ps',f)):Mono ps ps'∧f=fun _ c=>c:=by
 unfold paMp at h;split at h
 ·split at h
  ·injection h with h;injection h with h1 h2;subst h1 h2;exact ⟨.tie _ _,rfl⟩
  ·cases h
 ·cases h
theorem qu4 {i:Nat} {v:V} {ps ps':PS} {f:∀r,denP r→denP r} (h:paIt o i v ps=some (ps',f)):Mono ps ps'∧f=fun _ c=>c:=by
 unfold paIt at h;split at h
 ·split at h
  ·injection h with h;injection h with h1 h2;subst h1 h2;exact ⟨.tie _ _,rfl⟩
  ·cases h
 ·cases h
theorem qbv {i:Nat} {v:V} {ps ps':PS} {f:∀r,denP r→den .bool×denP r} (h:qsv o i v ps=some (ps',f)):∃id b cs,v=.slf id b∧o id=.box cs∧ps'=tie i id ps∧f=fun _ c=>(b,c):=by
 unfold qsv at h;split at h
 ·rename_i id b;split at h
  ·rename_i cs e;injection h with h;injection h with h1 h2;subst h1 h2;exact ⟨id,b,cs,rfl,e,rfl,rfl⟩
  ·cases h
 ·cases h
theorem z0m:∀{b a:List (Nat×Bool)},faB b a=true→b=a
 |[],[],_=>rfl
 |[],_::_,h=>by cases h
 |_::_,[],h=>by cases h
 |(f,c)::b,(g,d)::a,h=>by
  unfold faB at h;rw [zd,zd] at h;obtain ⟨⟨h1,h2⟩,h3⟩:=h;have h1:=zg h1;have h2:c=d:=by cases c<;>cases d<;>first|rfl|cases h2
  rw [h1,h2,z0m h3]
theorem qk3 {imm:Nat→Prop} {w:World} {n:Int}:∀(a:List (Nat×Bool)),qbj imm w a ((a.length:Nat):Int) n .nilFunc
 |[]=>⟨rfl,rfl⟩
 |(f,c)::r=>by
  refine .inr ⟨by rw [zw];omega,?_⟩;have:(((f,c)::r).length:Int)-1=((r.length:Nat):Int):=by rw [zw];omega
  rw [this];exact qk3 r
theorem qi6 {imm:Nat→Prop} {w:World} {n:Int} {v:Value} {f:Nat} {c:Bool} (hv:match c with|false=>v=.func (.func f) #[] #[]|true=>∃p,v=.func (.func f) #[] #[p]∧qoj imm w n p):∀(a:List (Nat×Bool)) (i0 i:Nat),qm1 f c a i0=some i→∃j:Nat,i=i0+j∧qbj imm w a (j:Int) n v
 |[],_,_,h=>by cases h
 |(g,d)::r,i0,i,h=>by
  unfold qm1 at h;cases hb:(Nat.beq g f&&(bif c then d else !d)) with
  |true=>
   rw [hb] at h;injection h with h;subst h;rw [zd] at hb;have h1:=zg hb.1;have h2:d=c:=by have:=hb.2;cases c<;>cases d<;>first|rfl|cases this
   subst h1 h2;exact ⟨0,rfl,.inl ⟨rfl,hv⟩⟩
  |false=>
   rw [hb] at h;obtain ⟨j,h1,h2⟩:=qi6 hv r (i0+1) i h;refine ⟨j+1,by omega,.inr ⟨by omega,?_⟩⟩;have:((j+1:Nat):Int)-1=(j:Int):=by omega
   rw [this];exact h2
theorem qk4 {a:List (Nat×Bool)} {v:V} {ps ps':PS} {f:∀r,denP r→den (.int .i64)×den (.int .i64)×denP r} (h:paFa lf o a v ps=some (ps',f)):(∃k n,v=.fa a k n∧ps'=ps∧f=fun _ c=>(k,n,c))∨(v=.nilf∧ps'=ps∧f=fun _ c=>(Int.ofNat a.length,(0:Int),c))∨(∃g i,v=.fn g []∧qm1 g false a 0=some i∧ps'=ps∧f=fun _ c=>(Int.ofNat i,(0:Int),c))∨(∃g i w p,v=.fn g [w]∧qm1 g true a 0=some i∧qss lf o (.int .i64) w ps=some (ps',p)∧f=fun r c=>(Int.ofNat i,p r c)):=by
 unfold paFa at h;split at h
 ·rename_i b k n;cases hb:faB b a<;>rw [hb] at h
  ·cases h
  ·have:=z0m hb;subst this;injection h with h;injection h with h1 h2;subst h1 h2;exact .inl ⟨k,n,rfl,rfl,rfl⟩
 ·injection h with h;injection h with h1 h2;subst h1 h2;refine .inr (.inl ⟨rfl,rfl,?_⟩);have:lenN a 0=a.length:=by rw [qmh,zN]
  rw [this]
 ·rename_i g;split at h
  ·rename_i i e;injection h with h;injection h with h1 h2;subst h1 h2;exact .inr (.inr (.inl ⟨g,i,rfl,e,rfl,rfl⟩))
  ·cases h
 ·rename_i g w;split at h
  ·rename_i i e;split at h
   ·rename_i ps2 p e2;injection h with h;injection h with h1 h2;subst h1 h2;exact .inr (.inr (.inr ⟨g,i,w,p,rfl,e,e2,rfl⟩))
   ·cases h
  ·cases h
 ·cases h
theorem qge {i:Nat} {v:V} {ps ps':PS} {f:∀r,denP r→den (.int .i64)×denP r} (h:qy4 o i v ps=some (ps',f)):∃id ver lo t s,v=.suf id ver lo∧o id=.vec t ver false s∧ps'={tie i id ps with full:=id::ps.full}∧f=fun _ c=>((lo:den (.int .i64)),c):=by
 unfold qy4 at h;split at h
 ·rename_i id ver lo;split at h
  ·rename_i t ver' s e;cases hb:Nat.beq ver ver'<;>rw [hb] at h
   ·cases h
   ·have:=zg hb;subst this;injection h with h;injection h with h1 h2;subst h1 h2;exact ⟨id,ver,lo,t,s,rfl,e,rfl,rfl⟩
  ·cases h
 ·cases h
theorem qov {t:Ty} {v:V} {ps ps':PS} {f:∀r,denP r→den t×denP r} (h:paD lf o t v ps=some (ps',f)):Mono ps ps'∧∃x,asDs lf o t v=some x∧ps'={ps with lent:=q1g o v++ps.lent}∧f=fun _ c=>(x,c):=by
 unfold paD at h;split at h
 ·rename_i x e;injection h with h;injection h with h1 h2;subst h1 h2;exact ⟨⟨fun _ h=>h,fun _ h=>h,fun _ h=>List.mem_append_right _ h,fun _ h=>h⟩,x,e,rfl,rfl⟩
 ·cases h
theorem qbw {t:Ty} {v:V} {ps ps':PS} {f:∀r,denP r→den t×denP r} (h:qss lf o t v ps=some (ps',f)):Mono ps ps'∧∃x,f=(fun _ c=>(x,c))∧((v=.ref t x∧ps'=ps)∨(∃id,v=.ptr id 0∧boxD lf o t id=some x∧ps'={ps with lent:=id::(z1a o id++ps.lent)})):=by
 unfold qss at h;split at h
 ·split at h
  ·rename_i x e;injection h with h;injection h with h1 h2;subst h1 h2;obtain ⟨rfl,rfl⟩:=q2s e;exact ⟨.refl _,_,rfl,.inl ⟨rfl,rfl⟩⟩
  ·cases h
 ·rename_i id off;cases hb:Nat.beq off 0<;>rw [hb] at h
  ·cases h
  ·have:=zg hb;subst this;simp only [cond_true] at h;split at h
   ·rename_i x e;injection h with h;injection h with h1 h2;subst h1 h2;exact ⟨⟨fun _ h=>h,fun _ h=>h,fun _ h=>zf _ (List.mem_append_right _ h),fun _ h=>h⟩,x,rfl,.inr ⟨id,rfl,e,rfl⟩⟩
   ·cases h
 ·cases h
theorem qu5 {f:Nat} {v:V} {l:List V} (h:fnOf f v=some l):v=.fn f l:=by
 unfold fnOf at h;split at h
 ·rename_i f' l';cases hb:Nat.beq f f'<;>rw [hb] at h
  ·cases h
  ·have:=zg hb;injection h with h;subst this h;rfl
 ·cases h
theorem qrb {v:V} {l:List V} (h:qy5 v=some l):v=.tup l:=by
 unfold qy5 at h;split at h
 ·injection h with h;subst h;rfl
 ·cases h
theorem qu6 {v:V} {l:List V} (h:aggL v=some l):v=.agg l:=by
 unfold aggL at h;split at h
 ·injection h with h;subst h;rfl
 ·cases h
theorem qi7 {vs:List V} {ps ps':PS} {f:∀r,denP r→denP (tyL [] r)} (h:paL lf o [] vs ps=some (ps',f)):vs=[]∧ps'=ps∧f=fun _ c=>c:=by have h:q7n vs.isEmpty ps=some (ps',f):=h;obtain ⟨h1,h2,h3⟩:=q0v h;exact ⟨by simpa using h1,h2,h3⟩
theorem qan {s:Sh} {l:List Sh} {vs:List V} {ps ps':PS} {f:∀r,denP r→denP (tyL (s::l) r)} (h:paL lf o (s::l) vs ps=some (ps',f)):∃v vs' ps1 f1 g1,vs=v::vs'∧paS lf o s v ps=some (ps1,f1)∧paL lf o l vs' ps1=some (ps',g1)∧f=fun r c=>f1 _ (g1 r c):=by
 cases vs with
 |nil=>cases h
 |cons v vs=>
  have h:(match paS lf o s v ps with
   |some (ps,f)=>match paL lf o l vs ps with
    |some (ps,g)=>some (ps,fun r c=>f _ (g r c))
    |none=>none
   |none=>none)=some (ps',f):=h
  split at h
  ·rename_i ps1 f1 h1;split at h
   ·rename_i ps2 f2 h2;injection h with h;injection h with h3 h4;subst h3 h4;exact ⟨v,vs,ps1,f1,f2,rfl,h1,h2,rfl⟩
   ·cases h
  ·cases h
theorem z0n {g:Nat} {l:List Sh} {v:V} {ps ps':PS} {f:∀r,denP r→denP (tyS (.fn g l) r)} (h:paS lf o (.fn g l) v ps=some (ps',f)):∃l',v=.fn g l'∧paL lf o l l' ps=some (ps',f):=by
 have h:(match fnOf g v with|some l'=>paL lf o l l' ps|none=>none)=some (ps',f):=h;split at h
 ·rename_i l' e;exact ⟨l',qu5 e,h⟩
 ·cases h
theorem qu7 {l:List Sh} {v:V} {ps ps':PS} {f:∀r,denP r→denP (tyS (.tup l) r)} (h:paS lf o (.tup l) v ps=some (ps',f)):∃l',v=.tup l'∧paL lf o l l' ps=some (ps',f):=by
 have h:(match qy5 v with|some l'=>paL lf o l l' ps|none=>none)=some (ps',f):=h;split at h
 ·rename_i l' e;exact ⟨l',qrb e,h⟩
 ·cases h
theorem qu8 {l:List Sh} {v:V} {ps ps':PS} {f:∀r,denP r→denP (tyS (.agg l) r)} (h:paS lf o (.agg l) v ps=some (ps',f)):∃l',v=.agg l'∧paL lf o l l' ps=some (ps',f):=by
 have h:(match aggL v with|some l'=>paL lf o l l' ps|none=>none)=some (ps',f):=h;split at h
 ·rename_i l' e;exact ⟨l',qu6 e,h⟩
 ·cases h
theorem z21 (s:Sh):z0k o s:=by
 refine Sh.rec (motive_1:=z0k o) (motive_2:=z0l o) ?_ ?_ ?_ ?_ ?_ ?_ ?_ ?_ ?_ ?_ ?_ ?_ ?_ ?_ ?_ ?_ ?_ ?_ ?_ s
 ·intro t v ps ps' f h;obtain ⟨h1,x,_,_,rfl⟩:=qov (o:=o) h;exact ⟨h1,fun _ _ _ _=>rfl⟩
 ·intro i v ps ps' f h;obtain ⟨h1,rfl⟩:=qr9 (o:=o) h;exact ⟨h1,fun _ _ _ _=>rfl⟩
 ·intro i off v ps ps' f h;obtain ⟨h1,rfl⟩:=qra (o:=o) h;exact ⟨h1,fun _ _ _ _=>rfl⟩
 ·intro t v ps ps' f h;obtain ⟨h1,x,rfl,_⟩:=qbw (o:=o) h;exact ⟨h1,fun _ _ _ _=>rfl⟩
 ·intro v ps ps' f h;obtain ⟨_,rfl,rfl⟩:=q0v h;exact ⟨.refl _,fun _ _ _ _=>rfl⟩
 ·intro g l ih v ps ps' f h;obtain ⟨l',rfl,h'⟩:=z0n h;obtain ⟨h1,h2⟩:=ih _ _ _ _ h';exact ⟨h1,h2⟩
 ·intro v ps ps' f h;obtain ⟨_,rfl,rfl⟩:=q0v h;exact ⟨.refl _,fun _ _ _ _=>rfl⟩
 ·intro l ih v ps ps' f h;obtain ⟨l',rfl,h'⟩:=qu7 h;obtain ⟨h1,h2⟩:=ih _ _ _ _ h';exact ⟨h1,h2⟩
 ·intro l ih v ps ps' f h;obtain ⟨l',rfl,h'⟩:=qu8 h;obtain ⟨h1,h2⟩:=ih _ _ _ _ h';exact ⟨h1,h2⟩
 ·intro i v ps ps' f h;obtain ⟨h1,rfl⟩:=qu3 (o:=o) h;exact ⟨h1,fun _ _ _ _=>rfl⟩
 ·intro v ps ps' f h;obtain ⟨_,rfl,rfl⟩:=q0v h;exact ⟨.refl _,fun _ _ _ _=>rfl⟩
 ·intro v ps ps' f h;obtain ⟨_,rfl,rfl⟩:=q0v h;exact ⟨.refl _,fun _ _ _ _=>rfl⟩
 ·intro v ps ps' f h;obtain ⟨_,rfl,rfl⟩:=q0v (b:=true) (ps:=ps) h;exact ⟨.refl _,fun _ _ _ _=>rfl⟩
 ·intro i v ps ps' f h;obtain ⟨id,b,cs,rfl,_,rfl,rfl⟩:=qbv (o:=o) h;exact ⟨.tie _ _,fun _ _ _ _=>rfl⟩
 ·intro i v ps ps' f h;obtain ⟨id,ver,lo,t,s,rfl,_,rfl,rfl⟩:=qge (o:=o) h;exact ⟨⟨fun _ h=>zf _ h,fun _ h=>h,fun _ h=>h,fun _ h=>zf _ h⟩,fun _ _ _ _=>rfl⟩
 ·intro i v ps ps' f h;obtain ⟨h1,rfl⟩:=qu4 (o:=o) h;exact ⟨h1,fun _ _ _ _=>rfl⟩
 ·intro a v ps ps' f h;rcases qk4 (o:=o) h with ⟨k,n,rfl,rfl,rfl⟩|⟨rfl,rfl,rfl⟩|⟨g,i,rfl,_,rfl,rfl⟩|⟨g,i,w,p,rfl,_,h2,rfl⟩
  ·exact ⟨.refl _,fun _ _ _ _=>rfl⟩
  ·exact ⟨.refl _,fun _ _ _ _=>rfl⟩
  ·exact ⟨.refl _,fun _ _ _ _=>rfl⟩
  ·obtain ⟨h1,x,rfl,_⟩:=qbw (o:=o) h2;exact ⟨h1,fun _ _ _ _=>rfl⟩
 ·intro vs ps ps' f h;obtain ⟨rfl,rfl,rfl⟩:=qi7 h;exact ⟨.refl _,fun _ _ _ _=>rfl⟩
 ·intro s l ih1 ih2 vs ps ps' f h;obtain ⟨v,vs',ps1,f1,g1,rfl,h1,h2,rfl⟩:=qan h;obtain ⟨a1,a2⟩:=ih1 _ _ _ _ h1;obtain ⟨b1,b2⟩:=ih2 _ _ _ _ h2;refine ⟨a1.trans b1,fun ρ κ r c=>?_⟩;show (q1s ρ κ l r (q46 ρ κ s (tyL l r) (f1 _ (g1 r c))).2).2=c;rw [a2,b2]
theorem qgf:∀l:List Sh,z0l o l
 |[]=>by intro vs ps ps' f h;obtain ⟨rfl,rfl,rfl⟩:=qi7 h;exact ⟨.refl _,fun _ _ _ _=>rfl⟩
 |s::l=>by intro vs ps ps' f h;obtain ⟨v,vs',ps1,f1,g1,rfl,h1,h2,rfl⟩:=qan h;obtain ⟨a1,a2⟩:=z21 s _ _ _ _ h1;obtain ⟨b1,b2⟩:=qgf l _ _ _ _ h2;refine ⟨a1.trans b1,fun ρ κ r c=>?_⟩;show (q1s ρ κ l r (q46 ρ κ s (tyL l r) (f1 _ (g1 r c))).2).2=c;rw [a2,b2]
theorem qow {old:Nat} {s:OSh} {ps ps':PS} {f:∀r,denP r→denP (tyO s r)} (h:paO lf o old s ps=some (ps',f)):Mono ps ps'∧∀(ρ κ:Nat→Nat) i r c,(q1t ρ κ i s r (f r c)).2=c:=by
 cases s with
 |box l=>
  simp only [paO] at h;cases e:o old<;>rw [e] at h<;>simp only at h<;>try (cases h;done)
  obtain ⟨h1,h2⟩:=qgf l _ _ _ _ h;exact ⟨h1,fun ρ κ i r c=>h2 ρ κ r c⟩
 |vec t=>
  simp only [paO] at h;split at h
  ·split at h
   ·split at h
    ·injection h with h;injection h with h1 h2;subst h1 h2;exact ⟨.refl _,fun _ _ _ _ _=>rfl⟩
    ·injection h with h;injection h with h1 h2;subst h1 h2;exact ⟨⟨fun _ h=>h,fun _ h=>h,fun _ h=>h,fun _ h=>zf _ h⟩,fun _ _ _ _ _=>rfl⟩
   ·cases h
  ·cases h
 |map k v=>
  simp only [paO] at h;split at h
  ·split at h
   ·injection h with h;injection h with h1 h2;subst h1 h2;exact ⟨.refl _,fun _ _ _ _ _=>rfl⟩
   ·cases h
  ·cases h
 |gone=>simp only [paO] at h;injection h with h;injection h with h1 h2;subst h1 h2;exact ⟨.refl _,fun _ _ _ _ _=>rfl⟩
 |iter=>
  simp only [paO] at h;split at h
  ·injection h with h;injection h with h1 h2;subst h1 h2;exact ⟨.refl _,fun _ _ _ _ _=>rfl⟩
  ·cases h
def ObOk (o:Nat→Obj) (psF:PS) (i:Nat) (sh:OSh) (ob:Obj):Prop:=(sh=.gone∧ob=.dead)∨∃old psa psb f,(i,old)∈psF.ren∧paO lf o old sh psa=some (psb,f)∧Mono psb psF∧∃r c,ob=(q1t id0 ka0 i sh r (f r c)).1
def z22 (o:Nat→Obj) (psF:PS):Nat→List OSh→List (Nat×Obj)→Prop
 |_,[],os=>os=[]
 |i,s::l,os=>∃ob r,os=(i,ob)::r∧ObOk o psF i s ob∧z22 o psF (i+1) l r
theorem q59:∀{l:List (Nat×Nat)} {i x:Nat},q2p i l=some x→(i,x)∈l
 |(a,b)::r,i,x,h=>by
  simp only [q2p] at h;cases hb:Nat.beq a i with
  |true=>rw [hb] at h;have h1:=zg hb;have h2:=zI h;subst h1 h2;exact ze ..
  |false=>rw [hb] at h;exact zf _ (q59 h)
theorem q6h {psF:PS}:∀(l:List OSh) (i:Nat) (ps ps':PS) (g:∀r,denP r→denP (tyOL l r)),paOs lf o i l ps=some (ps',g)→Mono ps ps'∧(Mono ps' psF→∀r c,z22 o psF i l (q15 id0 ka0 i l r (g r c)))
 |[],i,ps,ps',g,h=>by simp only [paOs] at h;injection h with h;injection h with h1 h2;subst h1 h2;exact ⟨.refl _,fun _ _ _=>rfl⟩
 |.gone::l,i,ps,ps',g,h=>by
  simp only [paOs] at h;split at h
  ·rename_i ps1 g1 h1;injection h with h;injection h with h2 h3;subst h2 h3;obtain ⟨a1,a2⟩:=q6h l (i+1) _ _ _ h1;exact ⟨a1,fun hm r c=>⟨.dead,_,rfl,.inl ⟨rfl,rfl⟩,a2 hm r c⟩⟩
  ·cases h
 |.box q::l,i,ps,ps',g,h=>by
  simp only [paOs] at h;split at h
  ·rename_i old h0;split at h
   ·rename_i ps1 f1 h1;split at h
    ·rename_i ps2 g2 h2;injection h with h;injection h with h3 h4;subst h3 h4;obtain ⟨b1,b2⟩:=qow h1;obtain ⟨a1,a2⟩:=q6h l (i+1) _ _ _ h2;refine ⟨b1.trans a1,fun hm r c=>⟨_,_,rfl,.inr ⟨old,ps,ps1,f1,hm.ren _ ((b1.trans a1).ren _ (q59 h0)),h1,a1.trans hm,_,_,rfl⟩,?_⟩⟩;rw [b2];exact a2 hm r c
    ·cases h
   ·cases h
  ·cases h
 |.vec q::l,i,ps,ps',g,h=>by
  simp only [paOs] at h;split at h
  ·rename_i old h0;split at h
   ·rename_i ps1 f1 h1;split at h
    ·rename_i ps2 g2 h2;injection h with h;injection h with h3 h4;subst h3 h4;obtain ⟨b1,b2⟩:=qow h1;obtain ⟨a1,a2⟩:=q6h l (i+1) _ _ _ h2;refine ⟨b1.trans a1,fun hm r c=>⟨_,_,rfl,.inr ⟨old,ps,ps1,f1,hm.ren _ ((b1.trans a1).ren _ (q59 h0)),h1,a1.trans hm,_,_,rfl⟩,?_⟩⟩;rw [b2];exact a2 hm r c
    ·cases h
   ·cases h
  ·cases h
 |.map q q'::l,i,ps,ps',g,h=>by
  simp only [paOs] at h;split at h
  ·rename_i old h0;split at h
   ·rename_i ps1 f1 h1;split at h
    ·rename_i ps2 g2 h2;injection h with h;injection h with h3 h4;subst h3 h4;obtain ⟨b1,b2⟩:=qow h1;obtain ⟨a1,a2⟩:=q6h l (i+1) _ _ _ h2;refine ⟨b1.trans a1,fun hm r c=>⟨_,_,rfl,.inr ⟨old,ps,ps1,f1,hm.ren _ ((b1.trans a1).ren _ (q59 h0)),h1,a1.trans hm,_,_,rfl⟩,?_⟩⟩;rw [b2];exact a2 hm r c
    ·cases h
   ·cases h
  ·cases h
 |.iter::l,i,ps,ps',g,h=>by
  simp only [paOs] at h;split at h
  ·rename_i old h0;split at h
   ·rename_i ps1 f1 h1;split at h
    ·rename_i ps2 g2 h2;injection h with h;injection h with h3 h4;subst h3 h4;obtain ⟨b1,b2⟩:=qow h1;obtain ⟨a1,a2⟩:=q6h l (i+1) _ _ _ h2;refine ⟨b1.trans a1,fun hm r c=>⟨_,_,rfl,.inr ⟨old,ps,ps1,f1,hm.ren _ ((b1.trans a1).ren _ (q59 h0)),h1,a1.trans hm,_,_,rfl⟩,?_⟩⟩;rw [b2];exact a2 hm r c
    ·cases h
   ·cases h
  ·cases h
end
end Ev

namespace Ev
open Go
theorem qox {n:Nat} {x:Option Nat} (h:isN n x=true):x=some n:=by
 cases x with
 |none=>cases h
 |some m=>exact congrArg some (zg h)
theorem qd8 {x:Option Nat} (h:noN x=true):x=none:=by
 cases x with
 |none=>rfl
 |some m=>cases h
theorem qgg {k:Nat} {all:List (Nat×Nat)}:∀{l:List (Nat×Nat)},qy1 k all l=true→∀p,p∈l→p.1<k∧q2p p.1 all=some p.2∧qo5 p.2 all=some p.1
 |(i,old)::r,h,p,hp=>by
  simp only [qy1,zd] at h;obtain ⟨⟨⟨h1,h2⟩,h3⟩,h4⟩:=h;rcases zj.1 hp with rfl|hp
  ·exact ⟨zH h1,qox h2,qox h3⟩
  ·exact qgg h4 p hp
theorem qgh {id n:Nat}:∀{l:List (Nat×Nat)},(id,n)∈l→∃m,q2p id l=some m
 |(i,m)::r,h=>by
  simp only [q2p];cases hb:Nat.beq i id with
  |true=>exact ⟨m,rfl⟩
  |false=>
   rcases zj.1 h with h|h
   ·injection h with h _;subst h;rw [Nat.beq_refl] at hb;cases hb
   ·exact qgh h
theorem qgi:∀{l:List (Nat×Nat)},qy2 l=true→∀p,p∈l→q2p p.1 l=some p.2
 |(i,n)::r,h,p,hp=>by
  simp only [qy2,zd] at h;simp only [q2p];rcases zj.1 hp with rfl|hc
  ·rw [Nat.beq_refl];rfl
  ·cases hb:Nat.beq i p.1 with
   |true=>have:=zg hb;subst this;obtain ⟨m,hm⟩:=qgh (id:=p.1) (n:=p.2) hc;rw [qd8 h.1] at hm;cases hm
   |false=>exact qgi h.2 p hc
theorem qe9 {cut:List (Nat×Nat)}:∀{l:List Nat},qo6 cut l=true→∀p,p∈l→q2p p cut=none
 |i::r,h,p,hp=>by
  simp only [qo6,zd] at h;rcases zj.1 hp with rfl|hp
  ·exact qd8 h.1
  ·exact qe9 h.2 p hp
theorem qyt {ren:List (Nat×Nat)}:∀{i j:Nat},(i,j)∈ren→hasR j ren=true:=by
 induction ren with
 |nil=>intro i j h;cases h
 |cons p r ih=>
  obtain ⟨a,b⟩:=p;intro i j h;simp only [hasR];rcases zj.1 h with h|h
  ·injection h with _ h;subst h;rw [Nat.beq_refl];rfl
  ·cases hb:Nat.beq b j
   ·exact ih h
   ·rfl
theorem qea {ren:List (Nat×Nat)}:∀{l:List Nat},qo7 l ren=true→∀j,j∈l→∀i,(i,j)∉ren
 |a::r,h,j,hj,i,hi=>by
  simp only [qo7] at h;cases hb:hasR a ren with
  |true=>rw [hb] at h;cases h
  |false=>
   rw [hb] at h;rcases zj.1 hj with rfl|hj
   ·rw [qyt hi] at hb;cases hb
   ·exact qea h j hj i hi
section
variable {C:Cx} {X:Nat→Prop} {φ:Nat→Addr} {o:Nat→Obj} {w:World} {imm imm':Nat→Prop}
theorem qk5 (hl:∀id,q3s φ o imm w id (o id)) (hi:∀b,imm b→imm' b) {t:Ty} {x:V} {d:den t} {z:Value} (hx:q03 φ o imm w x z) (hf:∀id,id∈q1g o x→∀t ver s,o id=.vec t ver false s→s.nil=false→(φ id).spot=none→imm' (φ id).block) (h:asD1 lf o t x=some d):relV imm' w t d z:=by
 rcases q8j h with rfl|⟨e',ht,s',h1,h2⟩|⟨e',ht,rfl,h2⟩
 ·exact q1m hi (fun _ _=>rfl) _ _ _ hx
 ·subst ht;subst h2;obtain ⟨⟨g1,g2⟩,id,ver,fr,s0,g3,g4,g5,g6,g8⟩:=qab hl hx h1;refine ⟨z,rfl,g1,?_⟩;rcases g2 with g2|⟨hn,a,cap,ec,h5,h6,h7,h8,h9⟩
  ·exact .inl g2
  ·refine .inr ⟨hn,a,cap,ec,h5,h6,fun hc=>?_,q11 (q0j hi (fun _ _=>rfl) _) h7,h8,h9⟩;rw [g4 hn _ _ _ h5];have ho:=hl id;rw [g3] at ho;obtain ⟨_,_,ho⟩:=ho;rcases ho (g5▸hn) with ⟨g9,_,_,_,_,_,g7⟩|⟨_,g7,_⟩
   ·cases e:fr with
    |false=>subst e;exact hf id (g6 rfl) _ _ _ g3 (g5▸hn) g9
    |true=>exact hi _ (g7 e)
   ·exact absurd (g8 g7) hc
 ·subst ht;subst h2;exact ⟨z,rfl,Nat.zero_le _,.inl ⟨rfl,rfl,hx⟩⟩
theorem qoy (hl:∀id,q3s φ o imm w id (o id)) (hi:∀b,imm b→imm' b) {t:Ty} {x:V} {d:den t} {z:Value} (hx:q03 φ o imm w x z) (hf:∀id,id∈q1g o x→∀t ver s,o id=.vec t ver false s→s.nil=false→(φ id).spot=none→imm' (φ id).block) (h:asD lf o t x=some d):relV imm' w t d z:=by
 rcases qac h with h|⟨p,ht,s,h1,h2⟩
 ·exact qk5 hl hi hx hf h
 ·subst ht;subst h2;have h3:relC imm' w (.sl (q5h p)) s [z]:=qk5 hl hi hx hf h1;show relC imm' w (.ks p) (q0y p s) [z];rw [qbi,q9k];exact h3
def q5q (φ:Nat→Addr) (o:Nat→Obj) (imm':Nat→Prop) (x:V):Prop:=∀id,id∈q1g o x→∀t ver s,o id=.vec t ver false s→s.nil=false→(φ id).spot=none→imm' (φ id).block
theorem qoz (hl:∀id,q3s φ o imm w id (o id)) (hi:∀b,imm b→imm' b):∀(t:Ty) (cs r:List V) (d:den t) (zs:List Value),q0m φ o imm w cs zs→(∀c,c∈cs→q5q φ o imm' c)→paC lf o t cs=some (d,r)→∃zc zr,zs=zc++zr∧relC imm' w t d zc∧q0m φ o imm w r zr∧(∀c,c∈r→q5q φ o imm' c):=by
 have one:∀(t:Ty) (cs r:List V) (d:den t) (zs:List Value),q0m φ o imm w cs zs→(∀c,c∈cs→q5q φ o imm' c)→
   (match cs with|c::r=>(match asD lf o t c with|some x=>some (x,r)|none=>none)|[]=>none)=some (d,r)→
   ∃z zr,zs=z::zr∧relV imm' w t d z∧q0m φ o imm w r zr∧(∀c,c∈r→q5q φ o imm' c):=by
  intro t cs r d zs hr hf h;cases cs with
  |nil=>cases h
  |cons c cs=>
   simp only at h;split at h
   ·rename_i x hx;injection h with h;injection h with h1 h2;subst h1 h2;obtain ⟨z,zr,h3,h4,h5⟩:=hr;exact ⟨z,zr,h3,qoy hl hi h4 (hf _ (ze ..)) hx,h5,fun c hc=>hf c (zf _ hc)⟩
   ·cases h
 intro t
 induction t with
 |unit=>intro cs r d zs hr hf h;simp only [paC,zF,Prod.mk.injEq] at h;obtain ⟨_,rfl⟩:=h;exact ⟨[],zs,rfl,rfl,hr,hf⟩
 |pair a b iha ihb=>
  intro cs r d zs hr hf h;simp only [paC] at h;split at h
  ·rename_i x r1 h1;split at h
   ·rename_i y r2 h2;injection h with h;injection h with h3 h4;subst h3 h4;obtain ⟨zc,zr,e1,e2,e3,e4⟩:=iha _ _ _ _ hr hf h1;obtain ⟨zc',zr',g1,g2,g3,g4⟩:=ihb _ _ _ _ e3 e4 h2;exact ⟨zc++zc',zr',by rw [e1,g1,zC],⟨zc,zc',rfl,e2,g2⟩,g3,g4⟩
   ·cases h
  ·cases h
 |st p ih=>intro cs r d zs hr hf h;exact ih _ _ _ _ hr hf h
 |arr n e _=>intro cs r d zs hr hf h;cases h
 |int k=>intro cs r d zs hr hf h;obtain ⟨z,zr,e1,e2,e3⟩:=one _ cs r d zs hr hf (by cases cs<;>exact h);exact ⟨[z],zr,e1,e2,e3⟩
 |bool=>intro cs r d zs hr hf h;obtain ⟨z,zr,e1,e2,e3⟩:=one _ cs r d zs hr hf (by cases cs<;>exact h);exact ⟨[z],zr,e1,e2,e3⟩
 |str=>intro cs r d zs hr hf h;obtain ⟨z,zr,e1,e2,e3⟩:=one _ cs r d zs hr hf (by cases cs<;>exact h);exact ⟨[z],zr,e1,e2,e3⟩
 |sl e _=>intro cs r d zs hr hf h;obtain ⟨z,zr,e1,e2,e3⟩:=one _ cs r d zs hr hf (by cases cs<;>exact h);exact ⟨[z],zr,e1,e2,e3⟩
 |ks e _=>intro cs r d zs hr hf h;obtain ⟨z,zr,e1,e2,e3⟩:=one _ cs r d zs hr hf (by cases cs<;>exact h);exact ⟨[z],zr,e1,e2,e3⟩
theorem qcl:∀{cs:List V},q5q φ o imm' (.agg cs)→∀c,c∈cs→q5q φ o imm' c
 |c'::cs,h,c,hc,id,hi=>by
  rcases zj.1 hc with rfl|hc
  ·exact h id (by unfold q1g q7w;exact List.mem_append_left _ hi)
  ·exact qcl (cs:=cs) (fun id hi=>h id (by unfold q1g at hi ⊢;unfold q7w;exact List.mem_append_right _ hi)) c hc id hi
theorem qu9 (hl:∀id,q3s φ o imm w id (o id)) (hi:∀b,imm b→imm' b) {t:Ty} {x:V} {d:den t} {z:Value} (hx:q03 φ o imm w x z) (hf:q5q φ o imm' x) (h:asDs lf o t x=some d):relV imm' w t d z:=by
 by_cases hc:∃cs,x=.agg cs
 ·obtain ⟨cs,rfl⟩:=hc;simp only [asDs] at h;split at h
  ·rename_i p;split at h
   ·rename_i y h1;injection h with h;subst h;obtain ⟨c,rfl,hr⟩:=hx;obtain ⟨zc,zr,e1,e2,e3,_⟩:=qoz hl hi _ _ _ _ _ hr (qcl hf) h1;have:zr=[]:=e3;subst this;exact ⟨c,rfl,by rw [e1,zG];exact e2⟩
   ·cases h
  ·cases h
 ·have:asDs lf o t x=asD lf o t x:=by cases x<;>first|rfl|exact absurd ⟨_,rfl⟩ hc
  exact qoy hl hi hx hf (this▸h)
structure Packed (o:Nat→Obj) (psF:PS) (k:Nat) (objs:List OSh) (oc:Nat→Obj):Prop where
 fin:qlz k psF=true
 len:objs.length=k
 ob:∀i sh,objs[i]?=some sh→ObOk o psF i sh (oc i)
 none:∀i,k≤i→oc i=.none
def qbx (psF:PS) (i:Nat):Nat:=(q2p i psF.ren).getD 0
theorem Packed.ren {psF:PS} {k:Nat} {objs:List OSh} {oc:Nat→Obj} (h:Packed o psF k objs oc) {i old:Nat} (hp:(i,old)∈psF.ren):i<k∧qbx psF i=old∧qo5 old psF.ren=some i:=by have hf:=h.fin;unfold qlz at hf;simp only [zd] at hf;obtain ⟨h1,h2,h3⟩:=qgg hf.1.1.1 _ hp;exact ⟨h1,by unfold qbx;rw [h2];rfl,h3⟩
theorem Packed.lent {psF:PS} {k:Nat} {objs:List OSh} {oc:Nat→Obj} (h:Packed o psF k objs oc) {i old:Nat} (hp:(i,old)∈psF.ren):old∉psF.lent:=fun hl=>by have hf:=h.fin;unfold qlz at hf;simp only [zd] at hf;exact qea hf.2 old hl i hp
theorem Packed.cut {psF:PS} {k:Nat} {objs:List OSh} {oc:Nat→Obj} (h:Packed o psF k objs oc) {id n:Nat} (hp:(id,n)∈psF.cut):q2p id psF.cut=some n:=by have hf:=h.fin;unfold qlz at hf;simp only [zd] at hf;exact qgi hf.1.1.2 _ hp
theorem Packed.full {psF:PS} {k:Nat} {objs:List OSh} {oc:Nat→Obj} (h:Packed o psF k objs oc) {id:Nat} (hp:id∈psF.full):q2p id psF.cut=.none:=by have hf:=h.fin;unfold qlz at hf;simp only [zd] at hf;exact qe9 hf.1.2 _ hp
noncomputable def cutS {t:Ty} (s:Sl (den t)):Option Nat→Sl (den t)
 |some n=>⟨s.nil,lf.takeL s.l n⟩
 |none=>s
theorem Packed.kind {psF:PS} {k:Nat} {objs:List OSh} {oc:Nat→Obj} (h:Packed o psF k objs oc) {i:Nat} (hi:i<k):oc i=.dead∨∃old,(i,old)∈psF.ren∧((∃l cs psa psb f r c,o old=.box cs∧paL lf o l cs psa=some (psb,f)∧Mono psb psF∧oc i=.box (q1s id0 ka0 l r (f r c)).1)∨(∃t ver s,o old=.vec t ver false s∧oc i=.vec t 0 false (cutS s (q2p old psF.cut)))∨(∃k v m,o old=.map k v m∧oc i=.map k v m)∨(∃l p,o old=.iter l p∧oc i=.iter l p)):=by
 have hc:i<objs.length:=by rw [h.len];exact hi
 rcases h.ob i _ (zh hc) with ⟨_,h1⟩|⟨old,psa,psb,f,h1,h2,h3,r,c,h4⟩
 ·exact .inl h1
 ·generalize hg:objs[i]=sh at*
  cases sh with
  |gone=>exact .inl h4
  |box l=>
   have h2:(match o old with|.box cs=>paL lf o l cs psa|_=>.none)=some (psb,f):=h2;cases e:o old<;>rw [e] at h2<;>try (cases h2;done)
   exact .inr ⟨old,h1,.inl ⟨l,_,psa,psb,f,r,c,e,h2,h3,h4⟩⟩
  |vec t=>
   simp only [paO] at h2;cases e:o old<;>rw [e] at h2<;>try (cases h2;done)
   rename_i t' ver fr s;cases fr<;>try (cases h2;done)
   simp only at h2;split at h2
   ·rename_i s' hs;obtain ⟨ht,hs⟩:=q2s hs;injection ht with ht;subst ht;subst hs;refine .inr ⟨old,h1,.inr (.inl ⟨t',ver,_,e,?_⟩)⟩;split at h2
    ·rename_i n hn;injection h2 with h2;injection h2 with h5 h6;subst h5 h6;rw [h4,h.cut (h3.cut _ (q59 hn))];rfl
    ·injection h2 with h2;injection h2 with h5 h6;subst h5 h6;rw [h4,h.full (h3.full _ (ze ..))];rfl
   ·cases h2
  |map kt vt=>
   simp only [paO] at h2;cases e:o old<;>rw [e] at h2<;>try (cases h2;done)
   rename_i k' v' m;simp only at h2;split at h2
   ·rename_i m' hs;obtain ⟨ht,hs⟩:=q2s hs;injection ht with _ ht;injection ht with he hf;subst he hf;subst hs;injection h2 with h2;injection h2 with h5 h6;subst h5 h6;exact .inr ⟨old,h1,.inr (.inr (.inl ⟨_,_,_,e,h4⟩))⟩
   ·cases h2
  |iter=>
   simp only [paO] at h2;cases e:o old<;>rw [e] at h2<;>try (cases h2;done)
   injection h2 with h2;injection h2 with h5 h6;subst h5 h6;exact .inr ⟨old,h1,.inr (.inr (.inr ⟨_,_,e,h4⟩))⟩
end
end Ev

namespace Ev
open Go
section
variable {C:Cx} {X:Nat→Prop} {φ:Nat→Addr} {o oc:Nat→Obj} {w:World} {psF:PS} {k:Nat} {objs:List OSh}
def phC (φ:Nat→Addr) (psF:PS):Nat→Addr:=fun i=>φ (qbx psF i)
def XC (X:Nat→Prop) (φ:Nat→Addr) (o oc:Nat→Obj) (psF:PS) (b:Nat):Prop:=X b∨∃id,excl (φ id) (o id)=true∧(φ id).block=b∧id∉psF.lent∧¬∃i,excl (phC φ psF i) (oc i)=true∧qbx psF i=id
theorem Packed.exc (h:Packed o psF k objs oc) {i:Nat} (hx:excl (phC φ psF i) (oc i)=true):i<k∧(i,qbx psF i)∈psF.ren∧excl (φ (qbx psF i)) (o (qbx psF i))=true:=by
 have hi:i<k:=zP fun hn=>by rw [h.none i (by omega)] at hx;exact q0w hx
 rcases h.kind hi with h1|⟨old,h1,h2⟩
 ·rw [h1] at hx;simp [excl,live] at hx
 ·have:=(h.ren h1).2.1;unfold phC at hx;rw [this] at hx ⊢;refine ⟨hi,h1,?_⟩;rcases h2 with ⟨l,cs,psa,psb,f,r,c,e,_⟩|⟨t,ver,s,e,e'⟩|⟨_,_,m,e,_⟩|⟨_,_,e,_⟩
  ·rw [e];rfl
  ·rw [e'] at hx;obtain ⟨hn,_,hs⟩:=q3g hx;have hn:s.nil=false:=by cases hc:q2p old psF.cut<;>rw [hc] at hn<;>simpa [cutS] using hn
   rw [e];exact q2y hn hs
  ·rw [e];rfl
  ·rw [e];rfl
theorem Packed.ownedSub (h:Packed o psF k objs oc) {b:Nat} (hb:q80 (phC φ psF) oc b):q80 φ o b:=by obtain ⟨i,h1,h2⟩:=hb;exact ⟨qbx psF i,(h.exc h1).2.2,h2⟩
theorem Packed.imm (h:Packed o psF k objs oc) {b:Nat} (hb:immB X φ o w b):immB (XC X φ o oc psF) (phC φ psF) oc w b:=by
 obtain ⟨h1,h2,h3⟩:=hb;refine ⟨h1,?_,fun hn=>h3 (h.ownedSub hn)⟩;rintro (hx|⟨id,e1,e2,_⟩)
 ·exact h2 hx
 ·exact h3 ⟨id,e1,e2⟩
theorem Packed.lends (h:Packed o psF k objs oc) (hm:MRel C X φ o w) {id:Nat} (hx:excl (φ id) (o id)=true) (hl:id∈psF.lent):immB (XC X φ o oc psF) (phC φ psF) oc w (φ id).block:=by
 obtain ⟨h1,h2⟩:=hm.sep id hx;refine ⟨h1,?_,fun ⟨i,e1,e2⟩=>?_⟩
 ·rintro (hc|⟨id',e1,e2,e3,_⟩)
  ·exact h2 hc
  ·have:=hm.inj id' id e1 hx e2;exact e3 (this▸hl)
 ·obtain ⟨_,g1,g2⟩:=h.exc e1;have:=hm.inj _ id g2 hx e2;exact h.lent g1 (this▸hl)
def z23 (φ:Nat→Addr) (o oc:Nat→Obj) (imm immC:Nat→Prop) (w:World) (psF:PS) (s:Sh):Prop:=∀v z ps ps' f,q03 φ o imm w v z→paS lf o s v ps=some (ps',f)→Mono ps' psF→
 ∀r c,q03 (phC φ psF) oc immC w (q46 id0 ka0 s r (f r c)).1 z
def z3t (φ:Nat→Addr) (o oc:Nat→Obj) (imm immC:Nat→Prop) (w:World) (psF:PS) (l:List Sh):Prop:=∀vs zs ps ps' f,q0m φ o imm w vs zs→paL lf o l vs ps=some (ps',f)→Mono ps' psF→
 ∀r c,q0m (phC φ psF) oc immC w (q1s id0 ka0 l r (f r c)).1 zs
theorem q63 (h:Packed o psF k objs oc) {i id:Nat} (hp:(i,id)∈psF.ren):oc i=.dead∨((∃cs cs',o id=.box cs∧oc i=.box cs')∨(∃t ver s,o id=.vec t ver false s∧oc i=.vec t 0 false (cutS s (q2p id psF.cut)))∨(∃k v m,o id=.map k v m∧oc i=.map k v m)∨(∃l p,o id=.iter l p∧oc i=.iter l p))∧phC φ psF i=φ id:=by
 obtain ⟨h1,h2,_⟩:=h.ren hp;rcases h.kind h1 with h3|⟨old,h3,h4⟩
 ·exact .inl h3
 ·have:=(h.ren h3).2.1;rw [h2] at this;subst this;refine .inr ⟨?_,by unfold phC;rw [h2]⟩;rcases h4 with ⟨l,cs,psa,psb,f,r,c,e,_,_,e'⟩|h4|h4|h4
  ·exact .inl ⟨cs,_,e,e'⟩
  ·exact .inr (.inl h4)
  ·exact .inr (.inr (.inl h4))
  ·exact .inr (.inr (.inr h4))
theorem qk6:∀{cs:List V} {q:V} {id:Nat},q∈cs→id∈q1g o q→id∈q7w o cs
 |c::cs,q,id,hq,hi=>by
  unfold q7w;rcases zj.1 hq with rfl|hq
  ·exact List.mem_append_left _ hi
  ·exact List.mem_append_right _ (qk6 hq hi)
theorem qp0 (hm:MRel C X φ o w) (h:Packed o psF k objs oc) (t:Ty):z23 φ o oc (immB X φ o w) (immB (XC X φ o oc psF) (phC φ psF) oc w) w psF (.ref t):=by
 intro v z ps ps' f hv hp hM r c;obtain ⟨_,x,rfl,hx⟩:=qbw (o:=o) hp;show q03 (phC φ psF) oc _ w (.ref t x) z;rcases hx with ⟨rfl,rfl⟩|⟨id,rfl,hb,rfl⟩
 ·obtain ⟨a,cs,h1,h2,h3,h4,h5⟩:=hv;exact ⟨a,cs,h1,h2,h.imm h3,q0j (fun b hb=>h.imm hb) (fun _ _=>rfl) _ _ _ h4,h5⟩
 ·unfold boxD at hb;split at hb
  ·rename_i cs e;split at hb
   ·rename_i y hy;injection hb with hb;subst hb;have he:excl (φ id) (o id)=true:=by rw [e];rfl
    have hc:id∈psF.lent:=hM.lent _ (ze ..);have ho:=hm.objs id;unfold q03 at hv;rw [e] at hv ho;simp only at hv;subst hv;obtain ⟨h0,cz,el,lo,hj,g1,g2,g3⟩:=ho;have hf:∀q,q∈cs→q5q φ o (immB (XC X φ o oc psF) (phC φ psF) oc w) q:=by intro q hq id' hi t ver s e' hn hs;refine h.lends hm (by rw [e'];exact q2y hn hs) (hM.lent _ (zf _ (List.mem_append_left _ ?_)));unfold z1a;rw [e];exact qk6 hq hi
    obtain ⟨zc,zr,a1,a2,a3,_⟩:=qoz hm.objs (fun b hb=>h.imm hb) _ _ _ _ _ g3 hf hy;have:zr=[]:=a3;subst this;refine ⟨_,zc,rfl,rfl,h.lends hm he hc,a2,?_⟩;have:=q75 g1 0 cz.size;rw [List.drop_zero,a1,zG] at this;have hg:zc.length=cz.size:=by rw [←Array.length_toList,a1,zG]
    rw [←hg,List.take_length] at this;rw [h0,zN];exact this
   ·cases hb
  ·cases hb
theorem rels (hm:MRel C X φ o w) (h:Packed o psF k objs oc) (s:Sh):z23 φ o oc (immB X φ o w) (immB (XC X φ o oc psF) (phC φ psF) oc w) w psF s:=by
 refine Sh.rec (motive_1:=z23 φ o oc (immB X φ o w) (immB (XC X φ o oc psF) (phC φ psF) oc w) w psF) (motive_2:=z3t φ o oc (immB X φ o w) (immB (XC X φ o oc psF) (phC φ psF) oc w) w psF)
  ?_ ?_ ?_ ?_ ?_ ?_ ?_ ?_ ?_ ?_ ?_ ?_ ?_ ?_ ?_ ?_ ?_ ?_ ?_ s
 ·intro t v z ps ps' f hv hp hM r c;obtain ⟨_,x,h1,rfl,rfl⟩:=qov (o:=o) hp;refine qu9 hm.objs (fun b hb=>h.imm hb) hv (fun id hi t ver s e hn hs=>h.lends hm (by rw [e];exact q2y hn hs) (hM.lent _ (List.mem_append_left _ hi))) h1
 ·intro i v z ps ps' f hv hp hM r c;replace hp:qst o i v ps=some (ps',f):=hp;unfold qst at hp;show q03 (phC φ psF) oc _ w (.osl i 0) z;split at hp
  ·rename_i id ver;split at hp
   ·rename_i t ver' s e;obtain ⟨hb,rfl,rfl⟩:=q0v hp;have hr:=hM.ren _ (ze ..);have he:=h.full (hM.full _ (ze ..));unfold q03 at hv ⊢;rw [e] at hv;replace hv:=hv.2 (zg hb);rcases q63 (φ:=φ) h hr with hd|⟨⟨cs,cs',e1,_⟩|⟨t',ver2,s',e1,e2⟩|⟨_,_,m,e1,_⟩|⟨_,_,e1,e3⟩,hφ⟩
    ·rw [hd];trivial
    ·rw [e1] at e;cases e
    ·rw [e1] at e;injection e with ea eb ec ed;subst ea eb;have ed:=eq_of_heq ed;subst ed;rw [e2,he,hφ];exact ⟨Nat.le_refl _,fun _=>hv⟩
    ·rw [e1] at e;cases e
    ·rw [e1] at e;cases e
   ·cases hp
  ·rename_i id ver n cp;split at hp
   ·rename_i t ver' s e;obtain ⟨hb,rfl,rfl⟩:=q0v hp;have hr:=hM.ren _ (ze ..);have hc:=h.cut (hM.cut _ (ze ..));unfold q03 at hv ⊢;rw [e] at hv;obtain ⟨hn,hg,_⟩:=hv.2 (zg hb);clear hv;rcases q63 (φ:=φ) h hr with hd|⟨⟨cs,cs',e1,_⟩|⟨t',ver2,s',e1,e2⟩|⟨_,_,m,e1,_⟩|⟨_,_,e1,e3⟩,hφ⟩
    ·rw [hd];trivial
    ·rw [e1] at e;cases e
    ·rw [e1] at e;injection e with ea eb ec ed;subst ea eb;have ed:=eq_of_heq ed;subst ed;rw [e2,hc,hφ];have hl:(lf.takeL s'.l n).length=n:=by simp [lf,takeL,Nat.min_eq_left hn]
     refine ⟨Nat.le_refl _,fun _=>?_⟩;simp only [cutS];rw [hl];exact hg
    ·rw [e1] at e;cases e
    ·rw [e1] at e;cases e
   ·cases hp
  ·cases hp
 ·intro i off v z ps ps' f hv hp hM r c;replace hp:qsu o i off v ps=some (ps',f):=hp;unfold qsu at hp;show q03 (phC φ psF) oc _ w (.ptr i off) z;split at hp
  ·rename_i id off';unfold q03 at hv ⊢;split at hp
   ·rename_i cs0 e;obtain ⟨hb,rfl,rfl⟩:=q0v hp;have hr:=hM.ren _ (ze ..);have:=zg hb;subst this;rw [e] at hv;rcases q63 (φ:=φ) h hr with hd|⟨⟨cs,cs',e1,e2⟩|⟨t',ver2,s',e1,e2⟩|⟨_,_,m,e1,_⟩|⟨_,_,e1,e3⟩,hφ⟩
    ·rw [hd];trivial
    ·rw [e2,hφ];exact hv
    ·rw [e1] at e;cases e
    ·rw [e1] at e;cases e
    ·rw [e1] at e;cases e
   ·rename_i t ver' s e;obtain ⟨hb,rfl,rfl⟩:=q0v hp;rw [zd] at hb;have hr:=hM.ren _ (ze ..);have:=zg hb.1;subst this;rw [e] at hv;replace hv:=hv (zg hb.2).symm;rcases q63 (φ:=φ) h hr with hd|⟨⟨cs,cs',e1,e2⟩|⟨t',ver2,s',e1,e2⟩|⟨_,_,m,e1,_⟩|⟨_,_,e1,e3⟩,hφ⟩
    ·rw [hd];trivial
    ·rw [e1] at e;cases e
    ·rw [e2,hφ];exact fun _=>hv
    ·rw [e1] at e;cases e
    ·rw [e1] at e;cases e
   ·cases hp
  ·cases hp
 ·exact fun t=>qp0 hm h t
 ·intro v z ps ps' f hv hp hM r c;obtain ⟨hb,_,rfl⟩:=q0v hp;have:v=.nilp:=by cases v<;>first|rfl|cases hb
  subst this;exact hv
 ·intro g l ih v z ps ps' f hv hp hM r c;obtain ⟨l',rfl,hf⟩:=z0n hp;obtain ⟨cz,h1,h2⟩:=hv;exact ⟨cz,h1,ih _ _ _ _ _ h2 hf hM r c⟩
 ·intro v z ps ps' f hv hp hM r c;obtain ⟨hb,_,rfl⟩:=q0v hp;have:v=.nilf:=by cases v<;>first|rfl|cases hb
  subst this;exact hv
 ·intro l ih v z ps ps' f hv hp hM r c;obtain ⟨l',rfl,hf⟩:=qu7 hp;obtain ⟨cz,h1,h2⟩:=hv;exact ⟨cz,h1,ih _ _ _ _ _ h2 hf hM r c⟩
 ·intro l ih v z ps ps' f hv hp hM r c;obtain ⟨l',rfl,hf⟩:=qu8 hp;obtain ⟨cz,h1,h2⟩:=hv;exact ⟨cz,h1,ih _ _ _ _ _ h2 hf hM r c⟩
 ·intro i v z ps ps' f hv hp hM r c;replace hp:paMp o i v ps=some (ps',f):=hp;unfold paMp at hp;show q03 (phC φ psF) oc _ w (.mp i) z;split at hp
  ·rename_i id;unfold q03 at hv ⊢;split at hp
   ·rename_i e;injection hp with hp;injection hp with h1 h2;subst h1 h2;have hr:=hM.ren _ (ze ..);rw [e] at hv;rcases q63 (φ:=φ) h hr with hd|⟨⟨cs,cs',e1,e2⟩|⟨t',ver2,s',e1,e2⟩|⟨_,_,m,e1,e2⟩|⟨_,_,e1,e3⟩,hφ⟩
    ·rw [hd];trivial
    ·rw [e1] at e;cases e
    ·rw [e1] at e;cases e
    ·rw [e2,hφ];exact hv
    ·rw [e1] at e;cases e
   ·cases hp
  ·cases hp
 ·intro v z ps ps' f hv hp hM r c;obtain ⟨hb,_,rfl⟩:=q0v hp;have:v=.nilm:=by cases v<;>first|rfl|cases hb
  subst this;exact hv
 ·intro v z ps ps' f hv hp hM r c;obtain ⟨hb,_,rfl⟩:=q0v hp;have:v=.nili:=by cases v<;>first|rfl|cases hb
  subst this;exact hv
 ·intro v z ps ps' f hv hp hM r c;exact trivial
 ·intro i v z ps ps' f hv hp hM r c;replace hp:qsv o i v ps=some (ps',f):=hp;obtain ⟨id,b,cs,rfl,e,rfl,rfl⟩:=qbv hp;have hr:=hM.ren _ (ze ..);show q03 (phC φ psF) oc _ w (.slf i b) z;unfold q03 at hv ⊢;rw [e] at hv;rcases q63 (φ:=φ) h hr with hd|⟨⟨cs,cs',e1,e2⟩|⟨t',ver2,s',e1,e2⟩|⟨_,_,m,e1,e2⟩|⟨_,_,e1,e3⟩,hφ⟩
  ·rw [hd];trivial
  ·rw [e2,hφ];exact hv
  ·rw [e1] at e;cases e
  ·rw [e1] at e;cases e
  ·rw [e1] at e;cases e
 ·intro i v z ps ps' f hv hp hM r c;replace hp:qy4 o i v ps=some (ps',f):=hp;obtain ⟨id,ver,lo,t,s,rfl,e,rfl,rfl⟩:=qge hp;have hr:=hM.ren _ (ze ..);have hc:=h.full (hM.full _ (ze ..));show q03 (phC φ psF) oc _ w (.suf i 0 lo) z;unfold q03 at hv ⊢;rw [e] at hv;replace hv:=hv.2 rfl;rcases q63 (φ:=φ) h hr with hd|⟨⟨cs,cs',e1,e2⟩|⟨t',ver2,s',e1,e2⟩|⟨_,_,m,e1,e2⟩|⟨_,_,e1,e3⟩,hφ⟩
  ·rw [hd];trivial
  ·rw [e1] at e;cases e
  ·rw [e1] at e;injection e with ea eb ec ed;subst ea eb;have ed:=eq_of_heq ed;subst ed;rw [e2,hc,hφ];exact ⟨Nat.le_refl _,fun _=>hv⟩
  ·rw [e1] at e;cases e
  ·rw [e1] at e;cases e
 ·intro i v z ps ps' f hv hp hM r c;replace hp:paIt o i v ps=some (ps',f):=hp;unfold paIt at hp;show q03 (phC φ psF) oc _ w (.it i) z;split at hp
  ·rename_i id;unfold q03 at hv ⊢;split at hp
   ·rename_i e;injection hp with hp;injection hp with h1 h2;subst h1 h2;have hr:=hM.ren _ (ze ..);rw [e] at hv;rcases q63 (φ:=φ) h hr with hd|⟨⟨cs,cs',e1,e2⟩|⟨t',ver2,s',e1,e2⟩|⟨_,_,m,e1,e2⟩|⟨_,_,e1,e3⟩,hφ⟩
    ·rw [hd];trivial
    ·rw [e1] at e;cases e
    ·rw [e1] at e;cases e
    ·rw [e1] at e;cases e
    ·rw [e3,hφ];exact hv
   ·cases hp
  ·cases hp
 ·intro a v z ps ps' f hv hp hM r c;replace hp:paFa lf o a v ps=some (ps',f):=hp;rcases qk4 (o:=o) hp with ⟨k,n,rfl,rfl,rfl⟩|⟨rfl,rfl,rfl⟩|⟨g,i,rfl,e,rfl,rfl⟩|⟨g,i,x,p,rfl,e,h2,rfl⟩
  ·show qbj _ w a k n z;exact qdo (fun q ⟨b,cs,h1,h2,h3,h4,h5⟩=>⟨b,cs,h1,h2,h.imm h3,q0j (fun b hb=>h.imm hb) (fun _ _=>rfl) (.int .i64) n cs h4,h5⟩) a k z hv
  ·show qbj _ w a _ _ z;replace hv:z=.nilFunc:=hv;subst hv;exact qk3 a
  ·obtain ⟨cz,h1,h2⟩:=hv;have h2:cz.toList=[]:=h2;have hz:z=.func (.func g) #[] #[]:=by rw [h1,show cz=#[] from Array.toList_eq_nil_iff.1 h2]
   obtain ⟨j,e1,e2⟩:=qi6 (c:=false) hz a 0 i e;rw [zN] at e1;subst e1;exact e2
  ·obtain ⟨cz,h1,y,r',e3,hy,e4⟩:=hv;have e4:r'=[]:=e4;subst e4;have hz:z=.func (.func g) #[] #[y]:=by rw [h1,show cz=#[y] from Array.toList_inj.1 e3]
   have key:q03 (phC φ psF) oc _ w (q46 id0 ka0 (.ref (.int .i64)) r (p r c)).1 y:=qp0 hm h (.int .i64) x y _ _ _ hy h2 hM r c;obtain ⟨j,e1,e2⟩:=qi6 (c:=true) (n:=(p r c).1) ⟨y,hz,key⟩ a 0 i e;rw [zN] at e1;subst e1;exact e2
 ·intro vs zs ps ps' f hv hp hM r c;obtain ⟨rfl,_,rfl⟩:=qi7 hp;exact hv
 ·intro s l ih1 ih2 vs zs ps ps' f hv hp hM r c;obtain ⟨v,vs',ps1,f1,g1,rfl,h1,h2,rfl⟩:=qan hp;obtain ⟨z,zr,e,r1,r2⟩:=hv;have hj:=(qgf l _ _ _ _ h2).1.trans hM;have a1:=ih1 _ _ _ _ _ r1 h1 hj _ (g1 r c);have e2:(q46 id0 ka0 s (tyL l r) (f1 (tyL l r) (g1 r c))).2=g1 r c:=(z21 s _ _ _ _ h1).2 _ _ _ _;refine ⟨z,zr,e,a1,?_⟩;show q0m _ _ _ _ (q1s id0 ka0 l r (q46 id0 ka0 s (tyL l r) (f1 (tyL l r) (g1 r c))).2).1 zr;rw [e2];exact ih2 _ _ _ _ _ r2 h2 hM r c
theorem z24 (hm:MRel C X φ o w) (h:Packed o psF k objs oc):∀l,z3t φ o oc (immB X φ o w) (immB (XC X φ o oc psF) (phC φ psF) oc w) w psF l
 |[]=>by intro vs zs ps ps' f hv hp hM r c;obtain ⟨rfl,_,rfl⟩:=qi7 hp;exact hv
 |s::l=>by intro vs zs ps ps' f hv hp hM r c;obtain ⟨v,vs',ps1,f1,g1,rfl,h1,h2,rfl⟩:=qan hp;obtain ⟨z,zr,e,r1,r2⟩:=hv;have hc:=(qgf l _ _ _ _ h2).1.trans hM;have a1:=rels hm h s _ _ _ _ _ r1 h1 hc _ (g1 r c);have e2:(q46 id0 ka0 s (tyL l r) (f1 (tyL l r) (g1 r c))).2=g1 r c:=(z21 s _ _ _ _ h1).2 _ _ _ _;refine ⟨z,zr,e,a1,?_⟩;show q0m _ _ _ _ (q1s id0 ka0 l r (q46 id0 ka0 s (tyL l r) (f1 (tyL l r) (g1 r c))).2).1 zr;rw [e2];exact z24 hm h l _ _ _ _ _ r2 h2 hM r c
theorem z25 {l:List Sh} {cs:List V} {ps ps':PS} {f:∀r,denP r→denP (tyL l r)} (h:paL lf o l cs ps=some (ps',f)) {r:List Ty} {q:denP (tyL l r)} (hs:q6w (q1s id0 ka0 l r q).1=true):q6w cs=true:=by
 cases l with
 |nil=>cases hs
 |cons s l=>
  obtain ⟨v,vs',ps1,f1,g1,rfl,h1,h2,rfl⟩:=qan h;have hs:q6w ((q46 id0 ka0 s (tyL l r) q).1::(q1s id0 ka0 l r (q46 id0 ka0 s (tyL l r) q).2).1)=true:=hs;cases s with
  |slf i=>obtain ⟨id,b,cs,rfl,_⟩:=qbv (o:=o) (show qsv o i v ps=some (ps1,f1) from h1);rfl
  |_=>cases hs
theorem Packed.mem (hm:MRel C X φ o w) (h:Packed o psF k objs oc):MRel C (XC X φ o oc psF) (phC φ psF) oc w:=by
 have hi:∀b,immB X φ o w b→immB (XC X φ o oc psF) (phC φ psF) oc w b:=fun b hb=>h.imm hb;refine ⟨fun i=>?_,fun i j hu hv e=>?_,fun i hx=>?_,fun b hb=>?_,fun i=>?_,fun g t x hg=>?_⟩
 ·by_cases hj:i<k
  ·rcases h.kind hj with hd|⟨old,h1,h2⟩
   ·rw [hd];trivial
   ·have hφ:phC φ psF i=φ old:=by unfold phC;rw [(h.ren h1).2.1]
    have ho:=hm.objs old;rcases h2 with ⟨l,cs,psa,psb,f,r,c,e,hp,hM,e'⟩|⟨t,ver,s,e,e'⟩|⟨_,_,m,e,e'⟩|⟨_,_,e,e'⟩
    ·rw [e] at ho;rw [e'];obtain ⟨h3,cz,el,lo,hf,h4,h5,h6⟩:=ho;exact ⟨by rw [hφ];exact h3,cz,el,lo,hf,by rw [hφ];exact h4,h5,z24 hm h l _ _ _ _ _ h6 hp hM r c⟩
    ·rw [e] at ho;rw [e'];obtain ⟨h3,h4,h5⟩:=ho;cases hc:q2p old psF.cut with
     |none=>refine ⟨h3,h4,fun hn=>?_⟩;rw [hφ];refine (h5 hn).imp (fun ⟨g1,ec,g2,g3,g4,g5,g6⟩=>?_) fun g=>g;exact ⟨g1,ec,q11 (q0j hi (fun _ _=>rfl) t) g2,g3,g4,g5,by simp⟩
     |some n=>
      have hw:(lf.takeL s.l n).length≤s.l.length:=by simp [lf,takeL];omega
      refine ⟨by show (lf.takeL s.l n).length≤maxL;omega,fun hn=>?_,fun hn=>?_⟩
      ·show s.l.take n=[];rw [h4 hn];simp
      ·rw [hφ];refine (h5 hn).imp (fun ⟨g1,ec,g2,g3,g4,g5,g6⟩=>?_) fun g=>⟨g.1,(by show s.l.take n=[];rw [g.2.1];simp),g.2.2⟩;have hy:=q1i g2;have hl:min n s.l.length≤s.l.length:=Nat.min_le_right _ _;have hq:=(q1l (min n s.l.length) hl g2).1;have hz:s.l.take (min n s.l.length)=s.l.take n:=by
        rcases Nat.le_total n s.l.length with h|h
        ·rw [Nat.min_eq_left h]
        ·rw [Nat.min_eq_right h,List.take_length,jc h]
       rw [hz] at hq;refine ⟨g1,ec.take (min n s.l.length*csz t),q11 (q0j hi (fun _ _=>rfl) t) hq,q49 _ g3,g4,fun _=>?_,by simp⟩;obtain ⟨cz,el,lo,hf,k1,k2,k3⟩:=g5 rfl;have hB:(lf.takeL s.l n).length*csz t≤s.l.length*csz t:=Nat.mul_le_mul_right _ hw;exact ⟨cz,el,lo,hf,k1,by show _+(lf.takeL s.l n).length*csz t≤_;omega,by show hf≤lo∨hf≤_∨_+(lf.takeL s.l n).length*csz t≤lo;omega⟩
    ·rw [e] at ho;rw [e'];obtain ⟨es,clock,h3,h4⟩:=ho;exact ⟨es,clock,by rw [hφ];exact h3,q3d (q1m hi (fun _ _=>rfl) _) (q1m hi (fun _ _=>rfl) _) h4⟩
    ·rw [e] at ho;rw [e'];obtain ⟨s,n,h3,h4⟩:=ho;exact ⟨s,n,by rw [hφ];exact h3,h4⟩
  ·rw [h.none i (by omega)];trivial
 ·obtain ⟨_,a1,a2⟩:=h.exc hu;obtain ⟨_,b1,b2⟩:=h.exc hv;have:=hm.inj _ _ a2 b2 e;have ra:=(h.ren a1).2.2;have rb:=(h.ren b1).2.2;rw [this,rb] at ra;injection ra with ra;exact ra.symm
 ·obtain ⟨_,a1,a2⟩:=h.exc hx;obtain ⟨s1,s2⟩:=hm.sep _ a2;refine ⟨s1,?_⟩;rintro (hA|⟨id,e1,e2,_,e4⟩)
  ·exact s2 hA
  ·have:=hm.inj _ _ e1 a2 e2;exact e4 ⟨i,hx,this.symm⟩
 ·rcases hb with hb|⟨id,e1,e2,_⟩
  ·exact hm.xs b hb
  ·exact e2▸(hm.sep id e1).1
 ·by_cases hj:i<k
  ·rcases h.kind hj with hd|⟨old,h1,h2⟩
   ·rw [hd];trivial
   ·have hφ:phC φ psF i=φ old:=by unfold phC;rw [(h.ren h1).2.1]
    have he:=hm.els old;rcases h2 with ⟨l,cs,psa,psb,f,r,c,e,hp,hM,e'⟩|⟨t,ver,s,e,e'⟩|⟨_,_,m,e,e'⟩|⟨_,_,e,e'⟩
    ·rw [e] at he;rw [e',hφ];exact fun hs=>he (z25 hp hs)
    ·rw [e] at he;rw [e',hφ];refine fun ht hn=>he ht ?_;cases hc:q2p old psF.cut<;>rw [hc] at hn<;>exact hn
    ·rw [e'];trivial
    ·rw [e'];trivial
  ·rw [h.none i (by omega)];trivial
 ·obtain ⟨a,cs,h1,h2,h3,h4,h5⟩:=hm.globs g t x hg;exact ⟨a,cs,h1,h2,hi _ h3,q0j hi (fun _ _=>rfl) _ _ _ h4,h5⟩
end
end Ev

namespace Ev
open Go
theorem q3t {β:Type} (n:Nat) (k:Nat→β):sqN n k=k n:=by cases n<;>rfl
mutual
theorem qua {β:Type}:∀(v:V) (k:V→β),sqV v k=k v
 |.d t x,k=>rfl
 |.osl id ver,k=>by simp only [sqV,q3t]
 |.pre id ver n c,k=>by simp only [sqV,q3t]
 |.ptr id off,k=>by simp only [sqV,q3t]
 |.eptr ..,k=>rfl
 |.ref ..,k=>rfl
 |.nilp,k=>rfl
 |.fn f l,k=>by simp only [sqV,q3t,qgj]
 |.nilf,k=>rfl
 |.tup l,k=>by simp only [sqV,qgj]
 |.agg l,k=>by simp only [sqV,qgj]
 |.mp _,k=>rfl
 |.nilm,k=>rfl
 |.nili,k=>rfl
 |.nils,k=>rfl
 |.lb _,k=>rfl
 |.undef,k=>rfl
 |.junk,k=>rfl
 |.slf id b,k=>by simp only [sqV,q3t]
 |.suf id ver lo,k=>by simp only [sqV,q3t]
 |.it _,k=>rfl
 |.nxt ..,k=>rfl
 |.fa ..,k=>rfl
theorem qgj {β:Type}:∀(l:List V) (k:List V→β),sqL l k=k l
 |[],k=>rfl
 |v::l,k=>by simp only [sqL,qua,qgj]
end
theorem z0o {β:Type} (x:Obj) (k:Obj→β):sqO x k=k x:=by cases x<;>simp only [sqO,qgj,q3t]
theorem z0p {β:Type}:∀(u:List (Nat×Obj)) (o:Nat→Obj) (k:(Nat→Obj)→β),sqU o u k=k (upds o u)
 |[],_,_=>rfl
 |(i,x)::r,o,k=>by simp only [sqU,q3t,z0o,z0p r];rfl
theorem qi8 {β:Type} {fr:Nat}:∀(u:List (Nat×Obj)) (o:Nat→Obj) (k:(Nat→Obj)→Option β) (y:β),sqF fr o u k=some y→k (upds o u)=some y∧q4s fr o u
 |[],o,k,y,h=>⟨h,(fun p hp=>by cases hp)⟩
 |(i,x)::r,o,k,y,h=>by
  simp only [sqF,q3t,z0o] at h;have next:∀(hc:fr≤i→i<fr+16→o i=.none),sqF fr (upd o i x) r k=some y→k (upds o ((i,x)::r))=some y∧q4s fr o ((i,x)::r):=by
   intro hc h;obtain ⟨h1,h2⟩:=qi8 r _ _ _ h;refine ⟨h1,fun p hp g1 g2=>?_⟩;rcases zj.1 hp with rfl|hp
   ·exact hc g1 g2
   ·by_cases e:p.1=i
    ·rw [e] at g1 g2 ⊢;exact hc g1 g2
    ·have:=h2 p hp g1 g2
     rwa [q16 e] at this
  cases hb:(Nat.ble fr i&&Nat.blt i (fr+16)) with
  |true=>
   rw [hb] at h;simp only [cond_true] at h;split at h
   ·rename_i e;exact next (fun _ _=>e) h
   ·cases h
  |false=>
   rw [hb] at h;simp only [cond_false] at h;refine next (fun g1 g2=>?_) h
   have:(Nat.ble fr i&&Nat.blt i (fr+16))=true:=by rw [zd];exact ⟨Nat.ble_eq▸g1,(Nat.ble_eq▸g2:Nat.ble (i+1) (fr+16)=true)⟩
   rw [this] at hb;cases hb
mutual
theorem z26 {β:Type}:∀(s:Sh) (k:Sh→β),sqSh s k=k s
 |.d t,k=>rfl
 |.osl id,k=>by simp only [sqSh,q3t]
 |.ptr id off,k=>by simp only [sqSh,q3t]
 |.ref t,k=>rfl
 |.nilp,k=>rfl
 |.fn f l,k=>by simp only [sqSh,q3t,q8q]
 |.nilf,k=>rfl
 |.tup l,k=>by simp only [sqSh,q8q]
 |.agg l,k=>by simp only [sqSh,q8q]
 |.mp id,k=>by simp only [sqSh,q3t]
 |.it id,k=>by simp only [sqSh,q3t]
 |.nilm,k=>rfl
 |.nili,k=>rfl
 |.junk,k=>rfl
 |.slf id,k=>by simp only [sqSh,q3t]
 |.suf id,k=>by simp only [sqSh,q3t]
 |.fa _,k=>rfl
theorem q8q {β:Type}:∀(l:List Sh) (k:List Sh→β),qj9 l k=k l
 |[],k=>rfl
 |v::l,k=>by simp only [qj9,z26,q8q]
end
theorem qyu {β:Type} (s:OSh) (k:OSh→β):z1h s k=k s:=by cases s<;>simp only [z1h,q8q]
theorem qk7 {β:Type}:∀(l:List OSh) (k:List OSh→β),qoc l k=k l
 |[],_=>rfl
 |s::l,k=>by simp only [qoc,qyu,qk7 l]
theorem qp1 {β:Type} (C:Cx) (sk:List Nat) (st:St) (ts:List Nat) (ops:List Oper) (k:Shape→β):shJ C sk st ts ops k=k (qg3 C sk st ts ops):=by simp only [shJ,q8q,qk7]
def stOf (sk ts:List Nat) (s:Shape) (c:denP s.tys):St:=⟨qt4 ts (fill (skOf sk) ka0 s c).1,upds (fun _=>Obj.none) (fill (skOf sk) ka0 s c).2⟩
theorem qp2 {β:Type} (sk ts:List Nat) (s:Shape) (c:denP s.tys) (k:St→β):stK sk ts s c k=k (stOf sk ts s c):=by simp only [stK,qgj,z0p];rfl
section
variable {C:Cx} {X:Nat→Prop} {φ φ':Nat→Addr} {o oc:Nat→Obj} {w:World} {imm:Nat→Prop} {ρ κ:Nat→Nat}
theorem qeb (ρ κ ρ' κ':Nat→Nat) (s:Sh):∀r c,(q46 ρ κ s r c).2=(q46 ρ' κ' s r c).2:=by
 refine Sh.rec (motive_1:=fun s=>∀r c,(q46 ρ κ s r c).2=(q46 ρ' κ' s r c).2) (motive_2:=fun l=>∀r c,(q1s ρ κ l r c).2=(q1s ρ' κ' l r c).2)
  ?_ ?_ ?_ ?_ ?_ ?_ ?_ ?_ ?_ ?_ ?_ ?_ ?_ ?_ ?_ ?_ ?_ ?_ ?_ s
 ·exact fun t r c=>rfl
 ·exact fun i r c=>rfl
 ·exact fun i off r c=>rfl
 ·exact fun t r c=>rfl
 ·exact fun r c=>rfl
 ·exact fun f l ih r c=>ih r c
 ·exact fun r c=>rfl
 ·exact fun l ih r c=>ih r c
 ·exact fun l ih r c=>ih r c
 ·exact fun i r c=>rfl
 ·exact fun r c=>rfl
 ·exact fun r c=>rfl
 ·exact fun r c=>rfl
 ·exact fun i r c=>rfl
 ·exact fun i r c=>rfl
 ·exact fun i r c=>rfl
 ·exact fun a r c=>rfl
 ·exact fun r c=>rfl
 ·intro s l ih1 ih2 r c;exact (congrArg (fun q=>(q1s ρ κ l r q).2) (ih1 (tyL l r) c)).trans (ih2 r _)
theorem q85 (ρ κ ρ' κ':Nat→Nat):∀(l:List Sh) r c,(q1s ρ κ l r c).2=(q1s ρ' κ' l r c).2
 |[],_,_=>rfl
 |s::l,r,c=>by exact (congrArg (fun q=>(q1s ρ κ l r q).2) (qeb ρ κ ρ' κ' s (tyL l r) c)).trans (q85 ρ κ ρ' κ' l r _)
def qyv (κ:Nat):Obj→Obj→Prop
 |.none,_=>True
 |.dead,.dead=>True
 |.box _,.box _=>True
 |.vec t v f s,y=>v=0∧y=.vec t κ f s
 |.map _ _ _,.map _ _ _=>True
 |.iter _ _,.iter _ _=>True
 |_,_=>False
theorem rens (hl:∀i,qyv (κ i) (oc i) (o (ρ i))) (hφ:∀i,oc i≠.none→oc i≠.dead→φ' (ρ i)=φ i) (s:Sh):∀r c z,q03 φ oc imm w (q46 id0 ka0 s r c).1 z→q03 φ' o imm w (q46 ρ κ s r c).1 z:=by
 refine Sh.rec (motive_1:=fun s=>∀r c z,q03 φ oc imm w (q46 id0 ka0 s r c).1 z→q03 φ' o imm w (q46 ρ κ s r c).1 z)
  (motive_2:=fun l=>∀r c zs,q0m φ oc imm w (q1s id0 ka0 l r c).1 zs→q0m φ' o imm w (q1s ρ κ l r c).1 zs)
  ?_ ?_ ?_ ?_ ?_ ?_ ?_ ?_ ?_ ?_ ?_ ?_ ?_ ?_ ?_ ?_ ?_ ?_ ?_ s
 ·exact fun t r c z h=>h
 ·intro i r c z h;replace h:q03 φ oc imm w (.osl i 0) z:=h;show q03 φ' o imm w (.osl (ρ i) (κ i)) z;have h1:=hl i;have h2:=hφ i;unfold q03 at h ⊢;cases e:oc i<;>rw [e] at h h1 h2
  ·cases e2:o (ρ i)<;>rw [e2] at h1<;>first|exact h1.elim|trivial
  ·rename_i t v fr s;obtain ⟨hv,h1⟩:v=0∧o (ρ i)=.vec t (κ i) fr s:=h1;subst hv;rw [h1,h2 (by simp) (by simp)];exact ⟨Nat.le_refl _,fun _=>h.2 rfl⟩
  ·cases e2:o (ρ i)<;>rw [e2] at h1<;>first|exact h1.elim|trivial
  ·cases e2:o (ρ i)<;>rw [e2] at h1<;>first|exact h1.elim|trivial
  ·exact h.elim
  ·cases e2:o (ρ i)<;>rw [e2] at h1<;>first|exact h1.elim|trivial
 ·intro i off r c z h;replace h:q03 φ oc imm w (.ptr i off) z:=h;show q03 φ' o imm w (.ptr (ρ i) off) z;have h1:=hl i;have h2:=hφ i;unfold q03 at h ⊢;cases e:oc i<;>rw [e] at h h1 h2
  ·cases e2:o (ρ i)<;>rw [e2] at h1<;>first|exact h1.elim|(rw [h2 (by simp) (by simp)];exact h)
  ·rename_i t v fr s;obtain ⟨hv,h1⟩:v=0∧o (ρ i)=.vec t (κ i) fr s:=h1;subst hv;rw [h1,h2 (by simp) (by simp)];exact fun _=>h rfl
  ·cases e2:o (ρ i)<;>rw [e2] at h1<;>first|exact h1.elim|(rw [h2 (by simp) (by simp)];exact h)
  ·cases e2:o (ρ i)<;>rw [e2] at h1<;>first|exact h1.elim|trivial
  ·exact h.elim
  ·cases e2:o (ρ i)<;>rw [e2] at h1<;>first|exact h1.elim|(rw [h2 (by simp) (by simp)];exact h)
 ·exact fun t r c z h=>h
 ·exact fun r c z h=>h
 ·exact fun f l ih r c z ⟨cz,h1,h2⟩=>⟨cz,h1,ih _ _ _ h2⟩
 ·exact fun r c z h=>h
 ·exact fun l ih r c z ⟨cz,h1,h2⟩=>⟨cz,h1,ih _ _ _ h2⟩
 ·exact fun l ih r c z ⟨cz,h1,h2⟩=>⟨cz,h1,ih _ _ _ h2⟩
 ·intro i r c z h;replace h:q03 φ oc imm w (.mp i) z:=h;show q03 φ' o imm w (.mp (ρ i)) z;have h1:=hl i;have h2:=hφ i;unfold q03 at h ⊢;cases e:oc i<;>rw [e] at h h1 h2
  ·cases e2:o (ρ i)<;>rw [e2] at h1<;>first|exact h1.elim|trivial
  ·rename_i t v fr s;obtain ⟨hv,h1⟩:v=0∧o (ρ i)=.vec t (κ i) fr s:=h1;rw [h1];trivial
  ·cases e2:o (ρ i)<;>rw [e2] at h1<;>first|exact h1.elim|(rw [h2 (by simp) (by simp)];exact h)
  ·cases e2:o (ρ i)<;>rw [e2] at h1<;>first|exact h1.elim|trivial
  ·exact h.elim
  ·cases e2:o (ρ i)<;>rw [e2] at h1<;>first|exact h1.elim|trivial
 ·exact fun r c z h=>h
 ·exact fun r c z h=>h
 ·exact fun r c z h=>h
 ·intro i r c z h;replace h:q03 φ oc imm w (.slf i c.1) z:=h;show q03 φ' o imm w (.slf (ρ i) c.1) z;have h1:=hl i;have h2:=hφ i;unfold q03 at h ⊢;cases e:oc i<;>rw [e] at h h1 h2
  ·cases e2:o (ρ i)<;>rw [e2] at h1<;>first|exact h1.elim|(rw [h2 (by simp) (by simp)];exact h)
  ·rename_i t v fr s;obtain ⟨hv,h1⟩:v=0∧o (ρ i)=.vec t (κ i) fr s:=h1;rw [h1];trivial
  ·cases e2:o (ρ i)<;>rw [e2] at h1<;>first|exact h1.elim|trivial
  ·cases e2:o (ρ i)<;>rw [e2] at h1<;>first|exact h1.elim|trivial
  ·exact h.elim
  ·cases e2:o (ρ i)<;>rw [e2] at h1<;>first|exact h1.elim|trivial
 ·intro i r c z h;replace h:q03 φ oc imm w (.suf i 0 c.1) z:=h;show q03 φ' o imm w (.suf (ρ i) (κ i) c.1) z;have h1:=hl i;have h2:=hφ i;unfold q03 at h ⊢;cases e:oc i<;>rw [e] at h h1 h2
  ·cases e2:o (ρ i)<;>rw [e2] at h1<;>first|exact h1.elim|trivial
  ·rename_i t v fr s;obtain ⟨hv,h1⟩:v=0∧o (ρ i)=.vec t (κ i) fr s:=h1;subst hv;rw [h1,h2 (by simp) (by simp)];exact ⟨Nat.le_refl _,fun _=>h.2 rfl⟩
  ·cases e2:o (ρ i)<;>rw [e2] at h1<;>first|exact h1.elim|trivial
  ·cases e2:o (ρ i)<;>rw [e2] at h1<;>first|exact h1.elim|trivial
  ·exact h.elim
  ·cases e2:o (ρ i)<;>rw [e2] at h1<;>first|exact h1.elim|trivial
 ·intro i r c z h;replace h:q03 φ oc imm w (.it i) z:=h;show q03 φ' o imm w (.it (ρ i)) z;have h1:=hl i;have h2:=hφ i;unfold q03 at h ⊢;cases e:oc i<;>rw [e] at h h1 h2
  ·cases e2:o (ρ i)<;>rw [e2] at h1<;>first|exact h1.elim|trivial
  ·rename_i t v fr s;obtain ⟨hv,h1⟩:v=0∧o (ρ i)=.vec t (κ i) fr s:=h1;rw [h1];trivial
  ·cases e2:o (ρ i)<;>rw [e2] at h1<;>first|exact h1.elim|trivial
  ·cases e2:o (ρ i)<;>rw [e2] at h1<;>first|exact h1.elim|trivial
  ·exact h.elim
  ·cases e2:o (ρ i)<;>rw [e2] at h1<;>first|exact h1.elim|(rw [h2 (by simp) (by simp)];exact h)
 ·exact fun a r c z h=>h
 ·exact fun r c z h=>h
 ·intro s l ih1 ih2 r c zs ⟨z,zr,e,h1,h2⟩;refine ⟨z,zr,e,ih1 _ _ _ h1,?_⟩;exact (congrArg (fun q=>q0m φ' o imm w (q1s ρ κ l r q).1 zr) (qeb ρ κ id0 ka0 s (tyL l r) c)).mpr (ih2 _ _ _ h2)
theorem qyw (hl:∀i,qyv (κ i) (oc i) (o (ρ i))) (hφ:∀i,oc i≠.none→oc i≠.dead→φ' (ρ i)=φ i):∀(l:List Sh) r c zs,q0m φ oc imm w (q1s id0 ka0 l r c).1 zs→q0m φ' o imm w (q1s ρ κ l r c).1 zs
 |[],_,_,_,h=>h
 |s::l,r,c,zs,⟨z,zr,e,h1,h2⟩=>by refine ⟨z,zr,e,rens hl hφ s _ _ _ h1,?_⟩;exact (congrArg (fun q=>q0m φ' o imm w (q1s ρ κ l r q).1 zr) (qeb ρ κ id0 ka0 s (tyL l r) c)).mpr (qyw hl hφ l _ _ _ h2)
end
end Ev

namespace Ev
open Go
theorem qk8 {o:Nat→Obj} {psF:PS}:∀(l:List OSh) (i:Nat) (os:List (Nat×Obj)) (o':Nat→Obj),z22 o psF i l os→(∀j sh,l[j]?=some sh→ObOk o psF (i+j) sh (upds o' os (i+j)))∧(∀j,(j<i∨i+l.length≤j)→upds o' os j=o' j)
 |[],i,os,o',h=>by have h:os=[]:=h;subst h;exact ⟨fun j sh hj=>by simp at hj,fun j _=>rfl⟩
 |s::l,i,os,o',⟨ob,r,e,h1,h2⟩=>by
  subst e;obtain ⟨a1,a2⟩:=qk8 l (i+1) r (upd o' i ob) h2;refine ⟨fun j sh hj=>?_,fun j hj=>?_⟩
  ·cases j with
   |zero=>simp only [List.getElem?_cons_zero,zF] at hj;subst hj;show ObOk o psF i s (upds (upd o' i ob) r i);rw [a2 i (.inl (by omega)),q0d];exact h1
   |succ j=>have:=a1 j sh (by simpa using hj);rw [show i+1+j=i+(j+1) by omega] at this;exact this
  ·show upds (upd o' i ob) r j=o' j;simp only [zw] at hj;rw [a2 j (by omega),q16 (by omega)]
def canO (s:Shape) (c:denP s.tys):Nat→Obj:=upds (fun _=>Obj.none) (fill id0 ka0 s c).2
theorem q5a {o:Nat→Obj} {ren:List (Nat×Nat)} {s:Shape} {vs:List V} {ps:PS} {c:denP s.tys} (h:pack lf o ren s vs=some (ps,c)):Packed o ps s.objs.length s.objs (canO s c)∧∃ps1 f,paL lf o s.roots vs ⟨ren,[],[],[]⟩=some (ps1,f)∧Mono ps1 ps∧∃q,c=f _ q:=by
 unfold pack at h;split at h
 ·rename_i ps1 f h1;split at h
  ·rename_i ps2 g h2;cases hb:qlz s.objs.length ps2 with
   |false=>rw [hb] at h;cases h
   |true=>
    rw [hb] at h;injection h with h;injection h with h3 h4;subst h3;obtain ⟨m1,e1⟩:=qgf s.roots _ _ _ _ h1;obtain ⟨m2,e2⟩:=q6h (psF:=ps2) s.objs 0 _ _ _ h2;have he:=e2 (.refl _) [] ();have hc:canO s c=upds (fun _=>Obj.none) (q15 id0 ka0 0 s.objs [] (g [] ())):=by unfold canO fill;simp only;rw [←h4,e1]
    obtain ⟨a1,a2⟩:=qk8 _ _ _ (fun _=>Obj.none) he;refine ⟨⟨hb,rfl,fun i sh hi=>?_,fun i hi=>?_⟩,ps1,f,h1,m2,_,h4.symm⟩
    ·have:=a1 i sh hi;rw [zN] at this;rw [hc];exact this
    ·rw [hc];exact a2 i (.inr (by omega))
  ·cases h
 ·cases h
theorem qmz {C:Cx} {X:Nat→Prop} {φ:Nat→Addr} {o:Nat→Obj} {w:World} (hm:MRel C X φ o w) {ren:List (Nat×Nat)} {s:Shape} {vs:List V} {zs:List Value} {ps:PS} {c:denP s.tys} (h:pack lf o ren s vs=some (ps,c)) (hr:q0m φ o (immB X φ o w) w vs zs):MRel C (XC X φ o (canO s c) ps) (phC φ ps) (canO s c) w∧q0m (phC φ ps) (canO s c) (immB (XC X φ o (canO s c) ps) (phC φ ps) (canO s c) w) w (fill id0 ka0 s c).1 zs:=by obtain ⟨hp,ps1,f,h1,h2,q,h3⟩:=q5a h;refine ⟨hp.mem hm,?_⟩;have:=z24 hm hp s.roots _ _ _ _ _ hr h1 h2 _ q;rw [←h3] at this;exact this
def SkGood (sk:List Nat):Prop:=∃inv:Nat→Nat,∀j,inv (skOf sk j)=j
theorem SkGood.inj {sk:List Nat} (h:SkGood sk):∀i j,skOf sk i=skOf sk j→i=j:=fun i j e=>by obtain ⟨inv,h⟩:=h;rw [←h i,←h j,e]
theorem hasN_mem {j:Nat}:∀{l:List Nat},hasN j l=true↔j∈l
 |[]=>⟨fun h=>(by cases h),fun h=>(by cases h)⟩
 |b::r=>by
  simp only [hasN];cases hb:Nat.beq b j with
  |true=>have:=zg hb;subst this;simp
  |false=>
   have hc:b≠j:=fun e=>by rw [e,Nat.beq_refl] at hb;cases hb
   rw [cond_false,hasN_mem (l:=r),zj];exact ⟨.inr,fun h=>h.resolve_left fun e=>hc e.symm⟩
theorem qao {k:Nat}:∀{sk:List Nat},q8h k sk=true→(∀id,id∈sk→id<k∧id<1000000)∧sk.Nodup
 |[],_=>⟨fun id h=>(by cases h),List.nodup_nil⟩
 |b::r,h=>by
  simp only [q8h,zd,Nat.blt_eq] at h;obtain ⟨⟨⟨h1,h2⟩,h3⟩,h4⟩:=h;obtain ⟨g1,g2⟩:=qao h4;refine ⟨fun id hi=>?_,List.nodup_cons.2 ⟨fun hm=>?_,g2⟩⟩
  ·rcases zj.1 hi with rfl|hi
   ·exact ⟨h1,h2⟩
   ·exact g1 id hi
  ·rw [hasN_mem.2 hm] at h3;cases h3
theorem qub {k:Nat} {sk:List Nat} (h:q8h k sk=true):SkGood sk:=by
 obtain ⟨g1,g2⟩:=qao h;have inj:∀i j,skOf sk i=skOf sk j→i=j:=fun i j e=>by
  unfold skOf at e;split at e
  ·rename_i a ha;split at e
   ·rename_i b hb;subst e;obtain ⟨hi,ea⟩:=zO.1 ha;obtain ⟨hj,eb⟩:=zO.1 hb;exact (List.getElem_inj (h₀:=hi) (h₁:=hj) g2).1 (by rw [ea,eb])
   ·have:=(g1 a (zn ha)).2;omega
  ·split at e
   ·rename_i b hb;have:=(g1 b (zn hb)).2;omega
   ·omega
 refine ⟨fun id=>by
  classical
  exact if h:∃j,skOf sk j=id then h.choose else 0,fun j=>?_⟩
 have hx:∃i,skOf sk i=skOf sk j:=⟨j,rfl⟩;simp only [dif_pos hx];exact inj _ _ hx.choose_spec
theorem qk9:∀{sk:List Nat} {n i id:Nat},sk[i]?=some id→(n+i,id)∈q9d n sk
 |[],_,i,_,h=>by simp at h
 |b::r,n,i,id,h=>by
  cases i with
  |zero=>simp only [List.getElem?_cons_zero,zF] at h;subst h;exact ze ..
  |succ i=>have:=qk9 (n:=n+1) (i:=i) (by simpa using h);rw [show n+1+i=n+(i+1) by omega] at this;exact zf _ this
theorem qec:∀{sk:List Nat} {id:Nat},id∈sk→(id,id)∈qm0 sk
 |b::r,id,h=>by
  rcases zj.1 h with rfl|h
  ·exact ze ..
  ·exact zf _ (qec h)
theorem qed {o:Nat→Obj}:∀{sk:List Nat},skOk o sk=true→∀id,id∈sk→qy3 o id=true
 |b::r,h,id,hi=>by
  simp only [skOk,zd] at h;rcases zj.1 hi with rfl|hi
  ·exact h.1
  ·exact qed h.2 id hi
theorem qby {cut:List (Nat×Nat)}:∀{sk:List Nat},qqn cut sk=true→∀id,id∈sk→q2p id cut=none
 |b::r,h,id,hi=>by
  simp only [qqn,zd] at h;rcases zj.1 hi with rfl|hi
  ·exact qd8 h.1
  ·exact qby h.2 id hi
theorem qgk {sk:List Nat} {ren:List (Nat×Nat)} {o:Nat→Obj} {s:Shape} {vs:List V} {p:PS×denP s.tys} (h:qm2 lf sk ren o s vs=some p):pack lf o ren s vs=some p∧skOk o sk=true∧qqn p.1.cut sk=true:=by
 unfold qm2 at h;split at h
 ·rename_i q e;cases hb:(skOk o sk&&qqn q.1.cut sk) with
  |false=>rw [hb] at h;cases h
  |true=>rw [hb,cond_true] at h;injection h with h;subst h;rw [zd] at hb;exact ⟨e,hb⟩
 ·cases h
theorem qp3 {o:Nat→Obj} {ren:List (Nat×Nat)} {s:Shape} {vs:List V} {ps:PS} {c:denP s.tys} (h:pack lf o ren s vs=some (ps,c)):∀p,p∈ren→p∈ps.ren:=by obtain ⟨_,ps1,f,h1,h2,_⟩:=q5a h;exact fun p hp=>h2.ren p ((qgf s.roots _ _ _ _ h1).1.ren p hp)
theorem quc {φ:Nat→Addr} {o oc:Nat→Obj} {w:World} {psF:PS} {k:Nat} {objs:List OSh} (h:Packed o psF k objs oc) {i id:Nat} (hp:(i,id)∈psF.ren) (hk:qy3 o id=true) (hc:q2p id psF.cut=none):Up w w (φ id) (phC φ psF i) (o id) (oc i):=by
 rcases q63 (φ:=φ) h hp with hd|⟨⟨cs,cs',e1,e2⟩|⟨t',ver,s,e1,e2⟩|⟨k,v,m,e1,e2⟩|⟨_,_,e1,e2⟩,hφ⟩
 ·rw [hd];cases o id<;>trivial
 ·rw [e1,e2];exact hφ
 ·rw [e1,e2,hc];unfold qy3 at hk;rw [e1] at hk;have hv:ver=0:=zg hk;exact .inr ⟨hv,rfl,rfl,rfl,hφ,fun _=>⟨rfl,fun _ _ n hr=>hr⟩⟩
 ·rw [e1,e2];exact hφ
 ·rw [e1,e2];exact hφ
def ObR (ρ:Nat→Nat) (a b:Obj):Prop:=(∃l r c,a=.box (q1s id0 ka0 l r c).1∧b=.box (q1s ρ ka0 l r c).1)∨(a=b∧∀cs,a≠.box cs)
theorem qud (ρ:Nat→Nat) (i:Nat) (s:OSh) (r:List Ty) (c:denP (tyO s r)):ObR ρ (q1t id0 ka0 i s r c).1 (q1t ρ ka0 i s r c).1∧(q1t ρ ka0 i s r c).2=(q1t id0 ka0 i s r c).2:=by
 cases s with
 |box l=>exact ⟨.inl ⟨l,r,c,rfl,rfl⟩,q85 ρ ka0 id0 ka0 l r c⟩
 |vec t=>exact ⟨.inr ⟨rfl,fun _ h=>by cases h⟩,rfl⟩
 |map k v=>exact ⟨.inr ⟨rfl,fun _ h=>by cases h⟩,rfl⟩
 |iter=>exact ⟨.inr ⟨rfl,fun _ h=>by cases h⟩,rfl⟩
 |gone=>exact ⟨.inr ⟨rfl,fun _ h=>by cases h⟩,rfl⟩
theorem qgl (ρ:Nat→Nat) (hρ:∀i j,ρ i=ρ j→i=j):∀(l:List OSh) (i:Nat) (r:List Ty) (c:denP (tyOL l r)) (o1 o2:Nat→Obj),(∀j,i≤j→j<i+l.length→ObR ρ (upds o1 (q15 id0 ka0 i l r c) j) (upds o2 (q15 ρ ka0 i l r c) (ρ j)))∧(∀j,(j<i∨i+l.length≤j)→upds o1 (q15 id0 ka0 i l r c) j=o1 j)∧(∀id,(∀j,i≤j→j<i+l.length→ρ j≠id)→upds o2 (q15 ρ ka0 i l r c) id=o2 id)
 |[],i,r,c,o1,o2=>⟨fun j h1 h2=>absurd h2 (by simp;omega),fun _ _=>rfl,fun _ _=>rfl⟩
 |s::l,i,r,c,o1,o2=>by
  obtain ⟨e1,e2⟩:=qud ρ i s (tyOL l r) c;obtain ⟨a1,a2,a3⟩:=qgl ρ hρ l (i+1) r (q1t id0 ka0 i s (tyOL l r) c).2 (upd o1 i (q1t id0 ka0 i s (tyOL l r) c).1) (upd o2 (ρ i) (q1t ρ ka0 i s (tyOL l r) c).1);have f1:∀j,upds o1 (q15 id0 ka0 i (s::l) r c) j=upds (upd o1 i (q1t id0 ka0 i s (tyOL l r) c).1) (q15 id0 ka0 (i+1) l r (q1t id0 ka0 i s (tyOL l r) c).2) j:=fun _=>rfl;have f2:∀id,upds o2 (q15 ρ ka0 i (s::l) r c) id=upds (upd o2 (ρ i) (q1t ρ ka0 i s (tyOL l r) c).1) (q15 ρ ka0 (i+1) l r (q1t id0 ka0 i s (tyOL l r) c).2) id:=fun id=>(congrArg (fun q=>upds (upd o2 (ρ i) (q1t ρ ka0 i s (tyOL l r) c).1) (q15 ρ ka0 (i+1) l r q) id) e2);refine ⟨fun j h1 h2=>?_,fun j hj=>?_,fun id hc=>?_⟩
  ·rw [f1,f2];simp only [zw] at h2;by_cases he:j=i
   ·subst he;rw [a2 j (.inl (by omega)),a3 (ρ j) (fun q hq _ e=>by have:=hρ _ _ e;omega),q0d,q0d];exact e1
   ·exact a1 j (by omega) (by omega)
  ·rw [f1];simp only [zw] at hj;rw [a2 j (by omega),q16 (by omega)]
  ·rw [f2];simp only [zw] at hc;rw [a3 id (fun q h1 h2=>hc q (by omega) (by omega)),q16];exact fun e=>hc i (Nat.le_refl _) (by omega) e.symm
section
variable {C:Cx} {X:Nat→Prop} {φ:Nat→Addr} {w:World} {s:Shape} {c:denP s.tys} {sk:List Nat} {inv:Nat→Nat}
theorem z0q (hc:∀i j,skOf sk i=skOf sk j→i=j) (ts:List Nat) (s:Shape) (c:denP s.tys):(∀j,j<s.objs.length→ObR (skOf sk) (canO s c j) ((stOf sk ts s c).obj (skOf sk j)))∧(∀j,s.objs.length≤j→canO s c j=.none)∧(∀id,(∀j,j<s.objs.length→skOf sk j≠id)→(stOf sk ts s c).obj id=.none):=by
 obtain ⟨a1,a2,a3⟩:=qgl (skOf sk) hc s.objs 0 [] (q1s id0 ka0 s.roots (tyOL s.objs []) c).2 (fun _=>.none) (fun _=>.none);have e:(stOf sk ts s c).obj=upds (fun _=>.none) (q15 (skOf sk) ka0 0 s.objs [] (q1s id0 ka0 s.roots (tyOL s.objs []) c).2):=congrArg (fun q=>upds (fun _=>Obj.none) (q15 (skOf sk) ka0 0 s.objs [] q)) (q85 (skOf sk) ka0 id0 ka0 s.roots (tyOL s.objs []) c);refine ⟨fun j hj=>?_,fun j hj=>a2 j (.inr (by omega)),fun id he=>?_⟩
 ·rw [e];exact a1 j (Nat.zero_le _) (by omega)
 ·rw [e];exact a3 id (fun j _ hj=>he j (by omega))
theorem qgm (ρ:Nat→Nat):∀(l:List OSh) (i:Nat) (r:List Ty) (c:denP (tyOL l r)) (o:Nat→Obj),(∀j t v f s,o j=.vec t v f s→v=0)→∀j t v f s,upds o (q15 ρ ka0 i l r c) j=.vec t v f s→v=0
 |[],i,r,c,o,h=>h
 |s::l,i,r,c,o,h=>by
  refine qgm ρ l (i+1) r (q1t ρ ka0 i s (tyOL l r) c).2 (upd o (ρ i) (q1t ρ ka0 i s (tyOL l r) c).1) ?_;intro j t v f s' e;by_cases hj:j=ρ i
  ·subst hj;rw [q0d] at e;cases s with
   |box l=>cases e
   |map k v=>cases e
   |gone=>cases e
   |iter=>cases e
   |vec t=>injection e with _ e;exact e.symm
  ·rw [q16 hj] at e;exact h _ _ _ _ _ e
theorem qp4 {s:Shape} {c:denP s.tys} {j:Nat} {t:Ty} {v:Nat} {f:Bool} {x:Sl (den t)} (h:canO s c j=.vec t v f x):v=0:=qgm id0 s.objs 0 [] _ (fun _=>.none) (fun _ _ _ _ _ e=>by cases e) j t v f x h
theorem qgn (ρ κ:Nat→Nat):∀(l:List Sh) (r:List Ty) (c:denP (tyL l r)),q6w (q1s ρ κ l r c).1=q6w (q1s id0 ka0 l r c).1
 |[],_,_=>rfl
 |s::l,r,c=>by show q6w ((q46 ρ κ s (tyL l r) c).1::_)=q6w ((q46 id0 ka0 s (tyL l r) c).1::_);cases s<;>rfl
theorem z3u (hf:∀j,inv (skOf sk j)=j) (ts:List Nat) (hm:MRel C X φ (canO s c) w):MRel C X (fun id=>φ (inv id)) (stOf sk ts s c).obj w∧(∀b,q80 (fun id=>φ (inv id)) (stOf sk ts s c).obj b↔q80 φ (canO s c) b)∧(∀zs,q0m φ (canO s c) (immB X φ (canO s c) w) w (fill id0 ka0 s c).1 zs→q0m (fun id=>φ (inv id)) (stOf sk ts s c).obj (immB X (fun id=>φ (inv id)) (stOf sk ts s c).obj w) w (fill (skOf sk) ka0 s c).1 zs):=by
 obtain ⟨a1,a2,a3⟩:=z0q (fun i j e=>by rw [←hf i,←hf j,e]) ts s c;generalize ho:(stOf sk ts s c).obj=o at*
 have hφ:∀j,(fun id=>φ (inv id)) (skOf sk j)=φ j:=fun j=>by simp only [hf]
 have hu:∀j a,j<s.objs.length→excl a (o (skOf sk j))=excl a (canO s c j):=fun j a hj=>by
  rcases a1 j hj with ⟨l,r,q,e1,e2⟩|⟨e1,_⟩
  ·rw [e1,e2];rfl
  ·rw [e1]
 have ht:∀id,(∃j,j<s.objs.length∧skOf sk j=id)∨o id=.none:=fun id=>by
  by_cases h:∃j,j<s.objs.length∧skOf sk j=id
  ·exact .inl h
  ·exact .inr (a3 id fun j hj e=>h ⟨j,hj,e⟩)
 have hC:∀j a,excl a (canO s c j)=true→j<s.objs.length:=fun j a hx=>zP fun h=>by rw [a2 j (by omega)] at hx;exact q0w hx
 have hv:∀b,q80 (fun id=>φ (inv id)) o b↔q80 φ (canO s c) b:=fun b=>by
  constructor
  ·rintro ⟨id,e1,e2⟩;rcases ht id with ⟨j,hj,rfl⟩|h
   ·simp only [hf] at e1;exact ⟨j,by rw [←hu j _ hj];exact e1,by rw [←hφ j];exact e2⟩
   ·rw [h] at e1;exact (q0w e1).elim
  ·rintro ⟨j,e1,e2⟩;exact ⟨skOf sk j,by simp only [hf];rw [hu j _ (hC j _ e1)];exact e1,by rw [hφ];exact e2⟩
 have hA:∀b,immB X φ (canO s c) w b↔immB X (fun id=>φ (inv id)) o w b:=fun b=>by unfold immB;rw [hv b]
 have hB:∀i,qyv (ka0 i) (canO s c i) (o (skOf sk i)):=fun i=>by
  by_cases hi:i<s.objs.length
  ·rcases a1 i hi with ⟨l,r,q,e1,e2⟩|⟨e1,e2⟩
   ·rw [e1,e2];trivial
   ·rw [←e1];cases hc:canO s c i with
    |vec t v f s'=>exact ⟨qp4 hc,by rw [qp4 hc]⟩
    |box cs=>exact absurd hc (e2 _)
    |map k v m=>trivial
    |dead=>trivial
    |none=>trivial
    |iter l p=>trivial
  ·rw [a2 i (by omega)];trivial
 have hw:(fun b=>immB X φ (canO s c) w b)=immB X (fun id=>φ (inv id)) o w:=funext fun b=>propext (hA b);have hl:immB X φ (canO s c) w=immB X (fun id=>φ (inv id)) o w:=hw;refine ⟨⟨fun id=>?_,fun i j hi hj e=>?_,fun i hi=>?_,hm.xs,fun id=>?_,fun g t x hg=>?_⟩,hv,fun zs hz=>?_⟩
 ·rcases ht id with ⟨j,hj,rfl⟩|h
  ·have hq:=hm.objs j;rcases a1 j hj with ⟨l,r,q,e1,e2⟩|⟨e1,e2⟩
   ·rw [e1] at hq;rw [e2];obtain ⟨h1,cz,el,lo,hy,h2,h3,h4⟩:=hq;refine ⟨by rw [hφ];exact h1,cz,el,lo,hy,by rw [hφ];exact h2,h3,?_⟩;rw [hl] at h4;exact qyw (φ':=fun id=>φ (inv id)) hB (fun i _ _=>hφ i) l r q _ h4
   ·rw [←e1];cases hc:canO s c j with
    |box cs=>exact absurd hc (e2 _)
    |dead=>trivial
    |none=>trivial
    |map k v m=>rw [hc] at hq;obtain ⟨es,clock,h1,h2⟩:=hq;rw [hl] at h2;exact ⟨es,clock,by rw [hφ];exact h1,h2⟩
    |iter l p=>rw [hc] at hq;obtain ⟨s',n,h1,h2⟩:=hq;exact ⟨s',n,by rw [hφ];exact h1,h2⟩
    |vec t ver fr sl=>rw [hc] at hq;obtain ⟨h1,h2,h3⟩:=hq;rw [hl] at h3;refine ⟨h1,h2,fun hn=>?_⟩;rw [hφ];exact h3 hn
  ·rw [h];trivial
 ·rcases ht i with ⟨i',hy,rfl⟩|h
  ·rcases ht j with ⟨j',hD,rfl⟩|h
   ·have hr:∀j,inv (skOf sk j)=j:=hf;simp only [hr] at e hi hj;rw [hm.inj i' j' (by rw [←hu i' _ hy];exact hi) (by rw [←hu j' _ hD];exact hj) e]
   ·rw [h] at hj;exact (q0w hj).elim
  ·rw [h] at hi;exact (q0w hi).elim
 ·rcases ht i with ⟨i',hy,rfl⟩|h
  ·have hr:∀j,inv (skOf sk j)=j:=hf;simp only [hr] at hi ⊢;exact hm.sep i' (by rw [←hu i' _ hy];exact hi)
  ·rw [h] at hi;exact (q0w hi).elim
 ·rcases ht id with ⟨j,hj,rfl⟩|h
  ·have he:=hm.els j;show ElsAt C w (φ (inv (skOf sk j))) (o (skOf sk j));rw [hf];rcases a1 j hj with ⟨l,r,q,e1,e2⟩|⟨e1,e2⟩
   ·rw [e1] at he;rw [e2];exact fun hs=>he (by rw [←qgn (skOf sk) ka0];exact hs)
   ·rw [←e1];exact he
  ·rw [h];trivial
 ·obtain ⟨a,cs,h1,h2,h3,h4,h5⟩:=hm.globs g t x hg;rw [hl] at h3 h4;exact ⟨a,cs,h1,h2,h3,h4,h5⟩
 ·rw [hl] at hz;exact qyw (φ':=fun id=>φ (inv id)) hB (fun i _ _=>hφ i) s.roots _ _ _ hz
theorem que {φ:Nat→Addr} {o:Nat→Obj} {imm:Nat→Prop} {g:Nat→Value}:∀(ts:List Nat) (vs:List V),q0m φ o imm w vs (ts.map g)→∀t,q03 φ o imm w (qt4 ts vs t) (g t)
 |[],_,_,_=>by cases ‹List V›<;>trivial
 |t'::ts,vs,h,t=>by
  cases vs with
  |nil=>trivial
  |cons v vs=>
   obtain ⟨z,r,e,h1,h2⟩:=h;injection e with e1 e2;show q03 φ o imm w (upd (qt4 ts vs) t' v t) (g t);by_cases ht:t=t'
   ·subst ht;rw [q0d,e1];exact h1
   ·rw [q16 ht];exact que ts vs (e2▸h2) t
end
structure Hist (sk:List Nat) (φ0:Nat→Addr) (o0:Nat→Obj) (w0:World) (φ:Nat→Addr) (o:Nat→Obj) (w:World):Prop where
 size:w0.heap.size≤w.heap.size
 frame:∀b,b<w0.heap.size→¬q80 φ0 o0 b→w.heap[b]?=w0.heap[b]?
 news:∀b,q80 φ o b→w0.heap.size≤b∨q80 φ0 o0 b
 still:qhw w0 w
 up:∀id,id∈sk→Up w0 w (φ0 id) (φ id) (o0 id) (o id)
theorem Hist.refl (sk:List Nat) (φ0:Nat→Addr) (o0:Nat→Obj) (w0:World):Hist sk φ0 o0 w0 φ0 o0 w0:=⟨Nat.le_refl _,fun _ _ _=>rfl,fun _ h=>.inr h,⟨rfl,rfl⟩,fun _ _=>Up.same fun _ _ h=>h⟩
theorem Hist.step {C:Cx} {X:Nat→Prop} {φ0 φ φ':Nat→Addr} {o0 o:Nat→Obj} {w0 w w':World} {u:List (Nat×Obj)} {v:V} {z:Value} {sk:List Nat} (h:Hist sk φ0 o0 w0 φ o w) (hc:Comes C X φ φ' o u w w' v z):Hist sk φ0 o0 w0 φ' (upds o u) w':=by
 refine ⟨Nat.le_trans h.size hc.size,fun b hb hn=>?_,fun b ⟨id,e1,e2⟩=>?_,⟨hc.still.1.trans h.still.1,hc.still.2.trans h.still.2⟩,fun id hi=>(h.up id hi).trans (hc.up id)⟩
 ·rw [hc.frame b (Nat.lt_of_lt_of_le hb h.size),h.frame b hb hn];rintro ⟨id,_,e1,e2⟩;rcases h.news b ⟨id,e1,e2⟩ with h1|h1
  ·omega
  ·exact hn h1
 ·rcases hc.news id e1 with h1|h1
  ·exact .inl (by have:=h.size;omega)
  ·rw [e2] at h1;exact h.news b h1
theorem qka {C:Cx} {nt:Nat} {X:Nat→Prop} {φ φ0:Nat→Addr} {o0:Nat→Obj} {w0:World} {st:St} {a:Act} {w:World} {sk:List Nat} (hj:SkGood sk) (h:Rel C nt X φ st a w) (hh:Hist sk φ0 o0 w0 φ st.obj w) {s:Shape} {ts:List Nat} {ps:PS} {c:denP s.tys} (hp:qm2 lf sk (q9d 0 sk) st.obj s (ts.map fun t=>unlb (st.env t))=some (ps,c)):∃φ2 X2,(∀b,X b→X2 b)∧Rel C nt X2 φ2 (stOf sk ts s c) a w∧Hist sk φ0 o0 w0 φ2 (stOf sk ts s c).obj w:=by
 obtain ⟨hl,hn,he⟩:=qgk hp;clear hp;have hp:=hl;clear hl;have hf:=hj.inj;obtain ⟨inv,hc⟩:=hj;have hv:q0m φ st.obj (immB X φ st.obj w) w (ts.map fun t=>unlb (st.env t)) (ts.map fun t=>a.tmps.getD t undef):=by
  clear hp
  induction ts with
  |nil=>rfl
  |cons t ts ih=>exact ⟨_,_,rfl,q55 (h.env t),ih⟩
 obtain ⟨h1,h2⟩:=qmz h.toMRel hp hv;obtain ⟨hg,_⟩:=q5a hp;obtain ⟨g1,g2,g3⟩:=z3u hc ts h1;refine ⟨_,_,fun b hb=>.inl hb,⟨g1,h.size,fun t=>?_,h.defers⟩,⟨hh.size,hh.frame,fun b hb=>hh.news b (hg.ownedSub ((g2 b).1 hb)),hh.still,fun id hi=>(hh.up id hi).trans ?_⟩⟩
 ·exact que ts _ (g3 _ h2) t
 ·obtain ⟨i,hq,hs⟩:=jd.1 hi;have hm:sk[i]?=some id:=by rw [zh hq,hs]
  have e:skOf sk i=id:=by unfold skOf;rw [hm]
  have hr:(i,id)∈ps.ren:=qp3 hp _ (by have:=qk9 (n:=0) hm;rwa [zN] at this);have hu:=quc (φ:=φ) (w:=w) hg hr (qed hn id hi) (qby he id hi);have hφ:phC φ ps (inv id)=phC φ ps i:=by rw [←e,hc]
  obtain ⟨a1,_⟩:=z0q hf ts s c;have ha:=a1 i (hg.ren hr).1;rw [e] at ha;show Up w w (φ id) (phC φ ps (inv id)) (st.obj id) _;rw [hφ];rcases ha with ⟨l,r,q,e1,e2⟩|⟨e1,_⟩
  ·rw [e2];rw [e1] at hu;cases ho:st.obj id<;>rw [ho] at hu<;>exact hu
  ·rw [←e1];exact hu
end Ev

