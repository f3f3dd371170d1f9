/- The evaluator: code; what data is in memory; numbers, strings, types. No statement of its own about the program. -/
import Derived.Test.YtfgngipmbogcjaaGreatDoorEvA
import GoSem.Machine.Frame
import GoSem.Core.Sem
import Derived.Orders
import Derived.Laws.Strings
import Derived.Laws.StructEq
import Derived.Laws.Slices
namespace Ev
open Go
def bit(t:Nat):Nat:=1<<<t
def NJ:Operand->Nat
 |.tmp t=>bit t
 |_=>0
def JP:List Operand->Nat
 |[]=>0
 |x::r=>NJ x|||JP r
def z4p(a b:Nat):Nat:=(a|||b) ^^^ b
def z3b(o:Oper):Nat:=JP o.op.operands.toList
def Qu:List Oper->Nat->Nat
 |[],m=>m
 |o::r,m=>let m':=Qu r m
  (match o.dst with|some d=>z4p m' (bit d)|none=>m')|||z3b o
def look(i:Nat):List (Nat×Nat)->Nat
 |[]=>0
 |(a,b)::r=>bif Nat.beq a i then b else look i r
def kO{β:Type}(n:Nat)(k:Nat->β):β:=Nat.rec (k 0) (fun m _=>k (Nat.succ m)) n
inductive AC where
 |skip
 |region (id:Nat) (ops:Array Oper) (draw:Bool)
 |seq (a b:AC)
 |cond (c:Operand) (m:List Nat) (a b:AC)
 |block (id:Nat) (m:List Nat) (b:AC)
 |loop (m:List Nat) (b:AC)
 |exit (id:Nat)
 |goto (l:Nat)
 |ret
 |scope (b:AC)
 |jump (l:Nat) (m:List Nat) (p r:AC)
 |bad
def DT(l:Nat):Code->Bool
 |.seq a b=>DT l a||DT l b
 |.cond _ a b=>DT l a||DT l b
 |.block _ b=>DT l b
 |.loop b=>DT l b
 |.scope b=>DT l b
 |.goto j=>Nat.beq j l
 |_=>false
def NK(whole:Code):Code->Option Nat
 |.seq a b=>match NK whole a with
  |some l=>some l
  |none=>NK whole b
 |.label l=>bif DT l whole then some l else none
 |_=>none
def oZ(nt:Nat):List Oper->Bool
 |[]=>true
 |o::r=>(match o.dst with|some d=>Nat.blt d nt|none=>true)&&oZ nt r
def uZ{β:Type}(m:Nat):Nat->List Nat->(List Nat->β)->β
 |0,acc,k=>k acc
 |n+1,acc,k=>bif Nat.testBit m n then uZ m n (n::acc) k else uZ m n acc k
def ahead(l:Nat):Code->Option Code
 |.seq a b=>match ahead l a with
  |some c=>some c
  |none=>match ahead l b with
   |some c=>some (.seq a c)
   |none=>none
 |.label j=>bif Nat.beq j l then some .skip else none
 |_=>none
def ll{β:Type}(rt nt:Nat):Nat->(c:Code)->(ex gt:List (Nat×Nat))->Nat->(Nat->AC->β)->β
 |0,_,_,_,m,k=>k m .bad
 |_+1,.skip,_,_,m,k=>k m .skip
 |_+1,.label _,_,_,m,k=>k m .skip
 |_+1,.region id ops d,_,_,m,k=>bif oZ nt ops.toList then kO (Qu ops.toList m) fun m'=>k m' (.region id ops d) else k m .bad
 |n+1,.seq a b,ex,gt,m,k=>ll rt nt n b ex gt m fun mb b'=>ll rt nt n a ex gt mb fun ma a'=>k ma (.seq a' b')
 |n+1,.cond c a b,ex,gt,m,k=>ll rt nt n a ex gt m fun ma a'=>ll rt nt n b ex gt m fun mb b'=>kO (NJ c|||ma|||mb) fun m'=>uZ m nt [] fun ts=>k m' (.cond c ts a' b')
 |n+1,.block id b,ex,gt,m,k=>ll rt nt n b ((id,m)::ex) gt m fun mb b'=>uZ m nt [] fun ts=>k mb (.block id ts b')
 |n+1,.loop b,ex,gt,_,k=>ll rt nt n b ex gt 0 fun m1 _=>ll rt nt n b ex gt m1 fun m2 b'=>uZ m2 nt [] fun ts=>k m2 (.loop ts b')
 |_+1,.exit id,ex,_,_,k=>k (look id ex) (.exit id)
 |_+1,.goto l,_,gt,_,k=>k (look l gt) (.goto l)
 |_+1,.ret,_,_,_,k=>k rt .ret
 |n+1,.scope b,ex,gt,m,k=>match NK b b with
  |none=>ll rt nt n b ex gt m fun mb b'=>k mb (.scope b')
  |some l=>match ahead l b,findLabel b l with
   |some p,some r=>ll rt nt n r ex ((l,0)::gt) m fun m1 _=>ll rt nt n r ex ((l,m1)::gt) m fun m2 r'=>ll rt nt n p ex gt m2 fun mp p'=>uZ m2 nt [] fun ts=>k mp (.jump l ts p' r')
   |_,_=>k m .bad
 |_+1,_,_,_,m,k=>k m .bad
def Az(id:Nat):AC->Bool
 |.seq a b=>Az id a||Az id b
 |.cond _ _ a b=>Az id a||Az id b
 |.block _ _ b=>Az id b
 |.loop _ b=>Az id b
 |.scope b=>Az id b
 |.jump _ _ p r=>Az id p||Az id r
 |.exit j=>Nat.beq j id
 |_=>false
def qzy:List Oper->Bool
 |[]=>false
 |o::r=>(match o.op with|.panic _=>true|_=>false)||qzy r
def tC:AC->Bool
 |.region _ ops _=>!qzy ops.toList
 |.seq a b=>tC a&&tC b
 |.cond _ _ a b=>tC a||tC b
 |.block id _ b=>tC b||Az id b
 |.loop _ _=>false
 |.scope b=>tC b
 |.jump _ _ p r=>tC p&&tC r
 |.exit _=>false
 |.ret=>false
 |.goto _=>false
 |.bad=>false
 |_=>true
def ways(id:Nat):AC->Nat
 |.seq a b=>ways id a+ways id b
 |.cond _ _ a b=>ways id a+ways id b
 |.block _ _ b=>ways id b
 |.loop _ b=>ways id b
 |.scope b=>ways id b
 |.jump _ _ p r=>ways id p+ways id r
 |.exit j=>bif Nat.beq j id then 1 else 0
 |_=>0
def qzz(f:Nat):List lE->Bool
 |[]=>false
 |s::r=>(Nat.beq s.f f&&gQ s.outs)||qzz f r
def JR(S:List lE)(o:Oper):Bool:=match o.op with
 |.panic _=>true
 |.call c=>match c.callee with
  |.value (.func f)=>qzz f S
  |_=>false
 |_=>false
def u0(S:List lE):AC->Bool
 |.region _ ops _=>ops.toList.any (JR S)
 |.seq a b=>u0 S a||u0 S b
 |.cond _ _ a b=>u0 S a||u0 S b
 |.block _ _ b=>u0 S b
 |.loop _ b=>u0 S b
 |.scope b=>u0 S b
 |.jump _ _ p r=>u0 S p||u0 S r
 |.exit _=>true
 |.ret=>true
 |.goto _=>true
 |_=>false
inductive Ex where
 |normal|exit (id:Nat)|goto (l:Nat)|ret|panic
section
variable (L:Lf) (C:Cx) (R:fI C.sigs)
def JS:List Nat->List V->Nat->V
 |t::ts,v::vs=>cP (JS ts vs) t v
 |_,_=>fun _=>.bM
def EO(d:Nat):List Oper->Option (List Oper×Oper×List Oper)
 |[]=>none
 |o::r=>match o.op with
  |.pick (.tmp c) _ _=>bif Nat.beq c d then some ([],o,r) else(EO d r).map fun p=>(o::p.1,p.2.1,p.2.2)
  |_=>(EO d r).map fun p=>(o::p.1,p.2.1,p.2.2)
def bE(st:St)(d:Option Nat)(v:V):St:=match d with
 |some d=>{st with env:=cP st.env d v}
 |none=>st
def wQ(st:St):List Oper->St
 |[]=>st
 |o::r=>wQ (bE st o.dst .bM) r
def fR(rg i:Nat):Nat:=16*(1+256*rg+i)
mutual
def mM{β:Type}:V->(V->β)->β
 |.d t x,k=>k (.d t x)
 |.cK id ver,k=>kO id fun id=>kO ver fun ver=>k (.cK id ver)
 |.pre id ver n c,k=>kO id fun id=>kO ver fun ver=>k (.pre id ver n c)
 |.ptr id off,k=>kO id fun id=>kO off fun off=>k (.ptr id off)
 |.fn f l,k=>kO f fun f=>DU l fun l=>k (.fn f l)
 |.fY l,k=>DU l fun l=>k (.fY l)
 |.agg l,k=>DU l fun l=>k (.agg l)
 |.gM id b,k=>kO id fun id=>k (.gM id b)
 |.gN id ver lo,k=>kO id fun id=>kO ver fun ver=>k (.gN id ver lo)
 |v,k=>k v
def DU{β:Type}:List V->(List V->β)->β
 |[],k=>k []
 |v::l,k=>mM v fun v=>DU l fun l=>k (v::l)
end
def JT{β:Type}:Obj->(Obj->β)->β
 |.box cs,k=>DU cs fun cs=>k (.box cs)
 |.vec t ver fr s,k=>kO ver fun ver=>k (.vec t ver fr s)
 |o,k=>k o
def JU{β:Type}(o:Nat->Obj):List (Nat×Obj)->((Nat->Obj)->β)->β
 |[],k=>k o
 |(i,x)::r,k=>kO i fun i=>JT x fun x=>JU (cP o i x) r k
def pw{β:Type}(fr:Nat)(o:Nat->Obj):List (Nat×Obj)->((Nat->Obj)->Option β)->Option β
 |[],k=>k o
 |(i,x)::r,k=>kO i fun i=>bif Nat.ble fr i&&Nat.blt i (fr+16) then
   (match o i with
   |.none=>JT x fun x=>pw fr (cP o i x) r k
   |_=>none)
  else JT x fun x=>pw fr (cP o i x) r k
def tD{β:Type}(sk ts:List Nat)(s:Shape)(c:ai s.aW)(k:St->β):β:=
 let p:=fill (cD sk) (fun _=>0) s c
 DU p.1 fun vs=>JU (fun _=>Obj.none) p.2 fun o=>k ⟨JS ts vs,o⟩
mutual
def lM{β:Type}:Sh->(Sh->β)->β
 |.d t,k=>k (.d t)
 |.ref t,k=>k (.ref t)
 |.cK id,k=>kO id fun id=>k (.cK id)
 |.ptr id off,k=>kO id fun id=>kO off fun off=>k (.ptr id off)
 |.fn f l,k=>kO f fun f=>DV l fun l=>k (.fn f l)
 |.fY l,k=>DV l fun l=>k (.fY l)
 |.agg l,k=>DV l fun l=>k (.agg l)
 |.mp id,k=>kO id fun id=>k (.mp id)
 |.it id,k=>kO id fun id=>k (.it id)
 |.gM id,k=>kO id fun id=>k (.gM id)
 |.gN id,k=>kO id fun id=>k (.gN id)
 |s,k=>k s
def DV{β:Type}:List Sh->(List Sh->β)->β
 |[],k=>k []
 |s::l,k=>lM s fun s=>DV l fun l=>k (s::l)
end
def Qv{β:Type}:fv->(fv->β)->β
 |.box l,k=>DV l fun l=>k (.box l)
 |s,k=>k s
def NL{β:Type}:List fv->(List fv->β)->β
 |[],k=>k []
 |s::l,k=>Qv s fun s=>NL l fun l=>k (s::l)
def K(γ:Type)(α:Type):Type 1:=(δ:Type)->(γ->δ)->α->Option δ
def z3c:(δ:Type)->(Bool->δ)->V->Option δ
 |_,w,.d .bool x=>some (w x)
 |_,_,_=>none
def wR:Option (Nat->Obj)->List (Nat×Obj)->Bool
 |none,_=>true
 |some _,[]=>true
 |some o,(i,_)::r=>(match o i with|.none=>true|_=>false)&&wR (some o) r
def Qw(f:Nat):List lE->Bool
 |[]=>false
 |s::r=>bif Nat.beq s.f f then(match s.bD with|[]=>Qw f r|_=>true) else Qw f r
def z10:Op->Bool
 |.call c=>match c.callee with
  |.value (.func f)=>Qw f C.sigs
  |_=>false
 |.slice _ _ (some (.const _)) (some (.const _)) none=>true
 |_=>false
def qnt(d:Nat)(l:List Oper):Bool:=match EO d l with
 |some (g,_,_)=>g.any fun o=>z10 C o.op
 |none=>false
def DW(env:Nat->V)(o:Nat->Obj)(fr:Nat):Op->Pk
 |.call c=>(match c.callee with
  |.value f=>(match bU C env f with
   |.fn f caps=>wm L C R true o fr (f % 1048576) (caps.take (f / 1048576)++(c.args.toList.map (bU C env)++caps.drop (f / 1048576))) C.sigs 0
   |_=>.fail)
  |_=>.fail)
 |_=>.fail
def z3d{δ:Type}(st:St)(fr:Nat)(o:Oper)(kp go:St->Option δ):Option δ:=match o.op with
 |.panic x=>(match bU C st.env x with
  |.Nd=>kp st
  |_=>none)
 |op=>(match DW L C R st.env st.obj fr op with
  |.dyn _ x out=>L.b x fun y=>(match(out y).1 with
   |.fY (.bM::.d .bool b::vs)=>mM (kA vs) fun v=>pw fr st.obj (out y).2 fun o'=>L.c b (kp {st with obj:=o'}) (go (bE {st with obj:=o'} o.dst v))
   |_=>none)
  |_=>none)
def lp{γ δ:Type}(rg:Nat)(all:List Oper)(g0:Option (Nat->Obj)):Nat->(γ->δ)->Nat->List Oper->St->((γ->δ)->St->Option δ)->((γ->δ)->St->Option δ)->Option δ
 |0,_,_,_,_,_,_=>none
 |_+1,w,_,[],st,k,_=>k w st
 |n+1,w,i,o::r,st,k,kp=>
  bif JR C.sigs o then(match o.guard,g0 with
   |none,none=>z3d L C R st (fR rg i) o (kp w) (fun st=>lp rg all g0 n w (i+1) r st k kp)
   |_,_=>none) else
  let run:=match cT L C R st.env st.obj (fR rg i) o.type o.op with
   |.fail=>none
   |.lj v u=>bif wR g0 u then mM v fun v=>pw (fR rg i) st.obj u fun o'=>lp rg all g0 n w (i+1) r (bE {st with obj:=o'} o.dst v) k kp else none
   |.dyn _ x out=>L.b x fun y=>bif wR g0 (out y).2 then mM (out y).1 fun v=>pw (fR rg i) st.obj (out y).2 fun o'=>lp rg all g0 n w (i+1) r (bE {st with obj:=o'} o.dst v) k kp else none
  match o.guard with
  |none=>run
  |some (j,want)=>match all[j]? with
   |some oj=>match oj.dst with
    |some dj=>match st.env dj with
     |.lb b=>bif (bif want then b else !b) then run else lp rg all g0 n w (i+1) r (bE st o.dst .undef) k kp
     |.undef=>lp rg all g0 n w (i+1) r (bE st o.dst .undef) k kp
     |.d .bool x=>match g0 with
      |some g=>L.c x (lp rg all (some g) n w i (o::r) (bE st (some dj) (.lb true)) k kp) (lp rg all (some g) n w i (o::r) (bE st (some dj) (.lb false)) k kp)
      |none=>bif qnt C dj (o::r) then L.c x (lp rg all none n w i (o::r) (bE st (some dj) (.lb true)) k kp) (lp rg all none n w i (o::r) (bE st (some dj) (.lb false)) k kp) else match EO dj (o::r) with
       |some (g,p,r')=>match p.dst with
        |some pd=>
         let br (b:Bool):Option Bool:=lp (γ:=Bool) (δ:=Bool) rg all (some st.obj) n (fun x=>x) i (g++[p]) (bE st (some dj) (.lb b)) (fun w' bc=>z3c _ w' (dx (bc.env pd))) (fun _ _=>none)
         L.b (L.c x (br true) (br false)) fun y=>lp rg all none n w (i+g.length+1) r' (bE (wQ st g) (some pd) (.d .bool y)) k kp
        |none=>none
       |none=>none
     |_=>none
    |none=>none
   |none=>none
mutual
def eF:V->List Nat
 |.cK id _=>[id]
 |.pre id _ _ _=>[id]
 |.ptr id _=>[id]
 |.j8 id _ _ _=>[id]
 |.mp id=>[id]
 |.it id=>[id]
 |.gM id _=>[id]
 |.gN id _ _=>[id]
 |.fn _ l=>gl l
 |.fY l=>gl l
 |.agg l=>gl l
 |_=>[]
def gl:List V->List Nat
 |[]=>[]
 |v::l=>eF v++gl l
end
def wS:Obj->List Nat
 |.box cs=>gl cs
 |_=>[]
def NN(o:Nat->Obj):Nat->List Nat->List Nat
 |0,l=>l
 |n+1,l=>l++NN o n (l.flatMap fun id=>wS (o id))
structure Tr where
 i:Nat
 op:Oper
 rd:List Nat
 wr:List Nat
def bJ:List (Nat×Obj)->List Nat
 |[]=>[]
 |p::r=>p.1::bJ r
def Bd(a b:List Nat):Bool:=a.all fun x=>!bH x b
def cH:List Oper->List Nat->List Nat
 |[],acc=>acc
 |o::r,acc=>cH r (acc++[o.after.toList.foldl (fun s e=>bif Region.binds .any e then s|||bit e.on|||acc.getD e.on 0 else s) 0])
def fS:List Operand->List Nat
 |[]=>[]
 |.tmp t::r=>t::fS r
 |_::r=>fS r
def Iq(all:List Oper)(o:Oper):List Nat:=fS o.op.operands.toList++(match o.guard with
 |some (g,_)=>(match all[g]? with
  |some og=>(match og.dst with|some d=>[d]|none=>[])
  |none=>[])
 |none=>[])
def Qx(d:Option Nat)(l:List Nat):Bool:=match d with
 |some d=>Av d l
 |none=>true
def Qy(d:Option Nat):List Nat:=match d with
 |some d=>[d]
 |none=>[]
def NO(all:List Oper)(a b:Tr):Bool:=Qx a.op.dst (Iq all b.op++Qy b.op.dst)&&Qx b.op.dst (Iq all a.op)&&Bd a.wr (b.rd++b.wr)&&Bd b.wr a.rd
def Be(gx:List Nat)(all:List Oper)(a b:Tr):Bool:=Nat.testBit (gx.getD b.i 0) a.i||NO all a b
def NP(gx:List Nat)(all:List Oper)(b:Tr):List Tr->Bool
 |[]=>true
 |a::r=>Be gx all a b&&NP gx all b r
def mY(gx:List Nat)(all:List Oper):List Tr->Bool
 |[]=>true
 |b::r=>NP gx all b r&&mY gx all r
def u7:Op->Bool
 |.move _=>true
 |.assign _=>true
 |.nilCheck _=>true
 |.fieldAddr _ _ _=>true
 |_=>false
def jX(st:St)(o:Oper):List Nat:=match o.op with
 |.move _=>[]
 |.assign _=>[]
 |.nilCheck x=>eF (bU C st.env x)
 |.fieldAddr _ x _=>eF (bU C st.env x)
 |_=>NN st.obj 4 (gl (o.op.operands.toList.map (bU C st.env)))
def NQ(l m:List Nat):Bool:=match l with
 |[]=>true
 |x::r=>bH x m&&NQ r m
def rR(o:Nat->Obj)(F:List Nat):List Nat->Bool
 |[]=>true
 |id::r=>NQ (wS (o id)) F&&rR o F r
def rq(t:Nat):List (Nat×Bool)->Option Bool
 |[]=>none
 |(a,b)::r=>bif Nat.beq a t then some b else rq t r
def JV(d:Option Nat)(kn:List (Nat×Bool)):Bool:=match d with
 |some d=>(match rq d kn with|some _=>false|none=>true)
 |none=>true
def dY(env:Nat->V)(kn:List (Nat×Bool))(ts:List Nat):Nat->V:=fun t=>bif bH t ts then(match rq t kn with|some b=>.lb b|none=>env t) else .bM
def cS(o:Nat->Obj)(F:List Nat):Nat->Obj:=fun id=>bif bH id F then o id else .none
def AA(i:Nat):List Edge->Bool
 |[]=>true
 |e::r=>(!(Region.binds .any e)||Nat.blt e.on i)&&AA i r
def Bf(F:List Nat)(fr:Nat):List Nat->Bool
 |[]=>true
 |id::r=>(bH id F||(Nat.ble fr id&&Nat.blt id (fr+16)))&&Bf F fr r
def u9(rg:Nat):List Tr->Bool
 |[]=>true
 |t::r=>AA t.i t.op.after.toList&&Bf t.rd (fR rg t.i) t.wr&&u9 rg r
def EP(o:Oper)(kn:List (Nat×Bool)):List (Nat×Bool):=match o.dst with
 |none=>kn
 |some d=>match o.op with
  |.move (.tmp t)=>(match rq t kn with
   |some y=>(d,y)::kn
   |none=>kn)
  |.pick (.tmp c) x y=>(match rq c kn with
   |some q=>(match(bif q then x else y) with
    |.const (.bool z)=>(d,z)::kn
    |_=>kn)
   |none=>kn)
  |_=>kn
def wT(gx:List Nat)(i:Nat):List Tr->St->St
 |[],st=>st
 |t::r,st=>bif Nat.testBit (gx.getD i 0) t.i then wT gx i r st else bE (wT gx i r st) t.op.dst .bM
def DX(gx:List Nat)(i:Nat):List Tr->Bool
 |[]=>true
 |t::r=>(Nat.testBit (gx.getD i 0) t.i||cR t.wr)&&DX gx i r
def DY(gx:List Nat)(i:Nat):Nat->List Oper->Bool
 |_,[]=>true
 |j,o::r=>AA j o.after.toList&&Nat.testBit (gx.getD j 0) i&&DY gx i (j+1) r
def ru{γ δ:Type}(rg:Nat)(all:List Oper):Nat->(γ->δ)->Nat->List Oper->St->List (Nat×Bool)->List Tr->((γ->δ)->St->Option δ)->((γ->δ)->St->Option δ)->Option δ
 |0,_,_,_,_,_,_,_,_=>none
 |_+1,w,_,[],st,_,tr,k,_=>bif mY (cH all []) all tr&&u9 rg tr then k w st else none
 |n+1,w,i,o::r,st,kn,tr,k,kp=>
  let F:=jX C st o
  bif JV o.dst kn then
  bif JR C.sigs o then(match o.guard with
   |none=>bif rR st.obj F F&&!(u7 o.op) then(match DW L C R (dY st.env kn (fS o.op.operands.toList)) (cS st.obj F) (fR rg i) o.op with
    |.dyn _ x out=>L.b x fun y=>(match(out y).1 with
     |.fY (.bM::.d .bool b::vs)=>mM (kA vs) fun v=>pw (fR rg i) st.obj (out y).2 fun o'=>L.c b
       (bif DX (cH all []) i tr&&DY (cH all []) i (i+1) r&&mY (cH all []) all (⟨i,o,F,bJ (out y).2⟩::tr)&&u9 rg (⟨i,o,F,bJ (out y).2⟩::tr) then kp w {wT (cH all []) i tr st with obj:=o'} else none)
       (ru rg all n w (i+1) r (bE {st with obj:=o'} o.dst v) kn (⟨i,o,F,bJ (out y).2⟩::tr) k kp)
     |_=>none)
    |_=>none) else none
   |some _=>none) else
  let run:=bif u7 o.op||rR st.obj F F then(match cT L C R (dY st.env kn (fS o.op.operands.toList)) (cS st.obj F) (fR rg i) o.type o.op with
   |.fail=>none
   |.lj v u=>mM v fun v=>pw (fR rg i) st.obj u fun o'=>ru rg all n w (i+1) r (bE {st with obj:=o'} o.dst v) (EP o kn) (⟨i,o,F,bJ u⟩::tr) k kp
   |.dyn _ x out=>L.b x fun y=>mM (out y).1 fun v=>pw (fR rg i) st.obj (out y).2 fun o'=>ru rg all n w (i+1) r (bE {st with obj:=o'} o.dst v) (EP o kn) (⟨i,o,F,bJ (out y).2⟩::tr) k kp) else none
  match o.guard with
  |none=>run
  |some (j,want)=>match all[j]? with
   |some oj=>match oj.dst with
    |some dj=>match rq dj kn with
     |some b=>bif (bif want then b else !b) then run else ru rg all n w (i+1) r (bE st o.dst .undef) kn (⟨i,o,[],[]⟩::tr) k kp
     |none=>match st.env dj with
      |.undef=>ru rg all n w (i+1) r (bE st o.dst .undef) kn (⟨i,o,[],[]⟩::tr) k kp
      |.d .bool x=>L.c x (ru rg all n w i (o::r) st ((dj,true)::kn) tr k kp) (ru rg all n w i (o::r) st ((dj,false)::kn) tr k kp)
      |_=>none
    |none=>none
   |none=>none
  else none
end
section
variable (L:Lf) (C:Cx) (R:fI C.sigs)
def jE{δ:Type}(sk:List Nat)(s:Shape)(w:ai s.aW->δ)(aQ:List (Nat×Nat))(o:Nat->Obj)(vs:List V):Option δ:=
 match EL L sk aQ o s vs with
 |some p=>some (w p.2)
 |none=>none
def ox:AC->List Oper
 |.region _ ops _=>ops.toList
 |.seq a b=>ox a++ox b
 |.cond _ _ a b=>ox a++ox b
 |.block _ _ b=>ox b
 |.loop _ b=>ox b
 |.scope b=>ox b
 |.jump _ _ p r=>ox p++ox r
 |_=>[]
def z4q(t:Nat):Option Nat->Bool
 |some d=>Nat.beq d t
 |none=>false
def Qz(l:List Nat):Operand->Bool
 |.tmp t=>bH t l
 |_=>false
def JW(t:Nat):List Oper->List Nat
 |[]=>[t]
 |o::r=>match o.op,o.dst with
  |.move x,some d=>bif Qz [t] x then d::JW t r else JW t r
  |_,_=>JW t r
def z12:Nat->List Sh->Bool
 |0,.d _::_=>true
 |n+1,_::r=>z12 n r
 |_,_=>false
def qnv(f i:Nat):List lE->Bool
 |[]=>false
 |s::r=>(Nat.beq s.f f&&lF s.outs&&z12 i s.ins.roots)||qnv f i r
def qnw(al:List Nat)(f:Nat):Nat->List Operand->Bool
 |_,[]=>false
 |i,x::r=>(Qz al x&&qnv f i C.sigs)||qnw al f (i+1) r
def z13(al:List Nat)(o:Oper):Bool:=match o.op with
 |.call c=>match c.callee with
  |.value (.func f)=>qnw C al f 0 c.args.toList
  |_=>false
 |_=>false
def z4r(ops:List Oper)(t:Nat):Bool:=!(ops.any fun o=>z4q t o.dst)&&ops.any (z13 C (JW t ops))
def QA(f i:Nat):List lE->Bool
 |[]=>false
 |s::r=>(Nat.beq s.f f&&z12 i s.outs.roots)||QA f i r
def NR(t:Nat):List (Nat×Nat)->Option Nat
 |[]=>none
 |(a,f)::r=>bif Nat.beq a t then some f else NR t r
def QB:Option Ty->Bool
 |some (.sl _)=>true
 |_=>false
def AB:List Oper->List (Nat×Nat)->List Nat->List Nat
 |[],_,dt=>dt
 |o::r,tt,dt=>match o.dst with
  |none=>AB r tt dt
  |some d=>match o.op with
   |.call c=>match c.callee with
    |.value (.func f)=>AB r ((d,f)::tt) (bif QA f 0 C.sigs then d::dt else dt)
    |_=>AB r tt dt
   |.move (.tmp x)=>AB r (match NR x tt with|some f=>(d,f)::tt|none=>tt) (bif bH x dt then d::dt else dt)
   |.assign (.tmp x)=>AB r tt (bif bH x dt then d::dt else dt)
   |.indexAddr .. =>AB r ((d,1000000000)::tt) dt
   |.load t (.tmp x)=>AB r tt (match NR x tt with|some f=>bif Nat.beq f 1000000000&&QB (C.ty t) then d::dt else dt|none=>dt)
   |.extract (.tmp x) i=>AB r tt (match NR x tt with|some f=>bif QA f i C.sigs then d::dt else dt|none=>dt)
   |_=>AB r tt dt
def NS(sk:List Nat):List Sh->List V->List Nat
 |.d (.sl _)::cs,.cK id _::vs=>bif Av id sk then id::NS sk cs vs else NS sk cs vs
 |_::cs,_::vs=>NS sk cs vs
 |_,_=>[]
def z00(sk:List Nat)(s:Shape)(vs:List V):Nat->List Sh->List Nat
 |0,.ptr j 0::_=>match s.ay[j]? with
  |some (.box cs)=>NS sk cs vs
  |_=>[]
 |n+1,_::r=>z00 sk s vs n r
 |_,_=>[]
def z01(sk:List Nat)(f i:Nat)(vs:List V):List lE->List Nat
 |[]=>[]
 |s::r=>bif Nat.beq s.f f then z00 sk s.ins vs i s.ins.roots else z01 sk f i vs r
def z02(sk al:List Nat)(f:Nat)(vs:List V):Nat->List Operand->List Nat
 |_,[]=>[]
 |i,x::r=>bif Qz al x then z01 sk f i vs C.sigs else z02 sk al f vs (i+1) r
def NT(sk al:List Nat)(vs:List V):List Oper->List Nat
 |[]=>[]
 |o::r=>match o.op with
  |.call c=>match c.callee with
   |.value (.func f)=>z02 C sk al f vs 0 c.args.toList++NT sk al vs r
   |_=>NT sk al vs r
  |_=>NT sk al vs r
def Ir(sk:List Nat)(ops:List Oper)(dt:List Nat)(env:Nat->V)(o:Nat->Obj):List Nat->List Nat
 |[]=>[]
 |t::r=>match env t with
  |.cK id _=>bif (bH t dt||z4r C ops t)&&Av id sk then id::Ir sk ops dt env o r else Ir sk ops dt env o r
  |.ptr id 0=>match o id with
   |.box vs=>NT C sk (JW t ops) vs ops++Ir sk ops dt env o r
   |_=>Ir sk ops dt env o r
  |_=>Ir sk ops dt env o r
def Is(sk:List Nat)(st:St)(ts:List Nat)(ops:List Oper):Shape:=z0p sk (ak st.obj (dN st.obj (Ir C sk ops (AB C ops [] []) st.env st.obj ts))) (ts.map fun t=>dx (st.env t))
def It{β:Type}(sk:List Nat)(st:St)(ts:List Nat)(ops:List Oper)(k:Shape->β):β:=
 let s:=Is C sk st ts ops
 DV s.roots fun r=>NL s.ay fun o=>k ⟨r,o⟩
def ev(sk:List Nat):(c:AC)->St->(γ δ:Type)->(γ->δ)->((δ:Type)->(γ->δ)->Ex->St->Option δ)->Option δ
 |.skip,st,_,δ,w,k=>k δ w .normal st
 |.region rg ops true,st,_,δ,w,k=>ru L C R rg ops.toList (2*ops.toList.length+1) w 0 ops.toList st [] [] (fun w st=>k δ w .normal st) (fun w st=>k δ w .panic st)
 |.region rg ops false,st,_,δ,w,k=>lp L C R rg ops.toList none (2*ops.toList.length+2) w 0 ops.toList st (fun w st=>k δ w .normal st) (fun w st=>k δ w .panic st)
 |.seq a b,st,γ,δ,w,k=>ev sk a st γ δ w fun δ w e bc=>match e with
  |.normal=>ev sk b bc γ δ w k
  |e=>k δ w e bc
 |.cond c ts a b,st,γ,δ,w,k=>match bU C st.env c with
  |.d .bool x=>bif tC a&&tC b then
    It C sk st ts (ox a++ox b) fun s=>
    bif u0 C.sigs a||u0 C.sigs b then
     let k':(cO:Type)->(ai s.aW⊕δ->cO)->Ex->St->Option cO:=fun cO w' e bc=>match e with
      |.normal=>jE L sk s (fun c=>w' (.inl c)) (rN 0 sk) bc.obj (ts.map fun t=>dx (bc.env t))
      |e=>k cO (fun g=>w' (.inr (w g))) e bc
     L.b (L.c x (ev sk a st (ai s.aW⊕δ) (ai s.aW⊕δ) (fun x=>x) k') (ev sk b st (ai s.aW⊕δ) (ai s.aW⊕δ) (fun x=>x) k'))
      (L.eO fun c=>tD sk ts s c fun st=>k δ w .normal st)
    else
     let k':(cO:Type)->(ai s.aW->cO)->Ex->St->Option cO:=fun _ w' e bc=>match e with
      |.normal=>jE L sk s w' (rN 0 sk) bc.obj (ts.map fun t=>dx (bc.env t))
      |_=>none
     L.b (L.c x (ev sk a st (ai s.aW) (ai s.aW) (fun x=>x) k') (ev sk b st (ai s.aW) (ai s.aW) (fun x=>x) k'))
      (fun c=>tD sk ts s c fun st=>k δ w .normal st)
   else L.c x (ev sk a st γ δ w k) (ev sk b st γ δ w k)
  |_=>none
 |.block id ts b,st,γ,δ,w,k=>bif Nat.ble 2 (ways id b+(bif tC b then 1 else 0)) then
    It C sk st ts (ox b) fun s=>
    let k':(cO:Type)->(ai s.aW⊕δ->cO)->Ex->St->Option cO:=fun cO w' e bc=>match e with
     |.normal=>jE L sk s (fun c=>w' (.inl c)) (rN 0 sk) bc.obj (ts.map fun t=>dx (bc.env t))
     |.exit j=>bif Nat.beq j id then jE L sk s (fun c=>w' (.inl c)) (rN 0 sk) bc.obj (ts.map fun t=>dx (bc.env t)) else k cO (fun g=>w' (.inr (w g))) (.exit j) bc
     |e=>k cO (fun g=>w' (.inr (w g))) e bc
    L.b (ev sk b st (ai s.aW⊕δ) (ai s.aW⊕δ) (fun x=>x) k') (L.eO fun c=>tD sk ts s c fun st=>k δ w .normal st)
   else ev sk b st γ δ w fun δ w e bc=>match e with
    |.exit j=>bif Nat.beq j id then k δ w .normal bc else k δ w (.exit j) bc
    |e=>k δ w e bc
 |.loop ts b,st,_,δ,w,k=>
   It C sk st ts (ox b) fun s=>
   match EL L sk (rN 0 sk) st.obj s (ts.map fun t=>dx (st.env t)) with
   |some p=>L.o (fun c=>tD sk ts s c fun st=>ev sk b st (ai s.aW⊕δ) (ai s.aW⊕δ) (fun x=>x) fun cO w' e bc=>match e with
     |.normal=>jE L sk s (fun c=>w' (.inl c)) (rN 0 sk) bc.obj (ts.map fun t=>dx (bc.env t))
     |e=>k cO (fun g=>w' (.inr (w g))) e bc) p.2
   |none=>none
 |.jump l ts p r,st,γ,δ,w,k=>ev sk p st γ δ w fun δ w e st=>match e with
  |.normal=>
   It C sk st ts (ox r) fun s=>
   match EL L sk (rN 0 sk) st.obj s (ts.map fun t=>dx (st.env t)) with
   |some p=>L.o (fun c=>tD sk ts s c fun st=>ev sk r st (ai s.aW⊕δ) (ai s.aW⊕δ) (fun x=>x) fun cO w' e bc=>match e with
     |.goto l'=>bif Nat.beq l' l then jE L sk s (fun c=>w' (.inl c)) (rN 0 sk) bc.obj (ts.map fun t=>dx (bc.env t)) else none
     |e=>k cO (fun g=>w' (.inr (w g))) e bc) p.2
   |none=>none
  |.goto _=>none
  |e=>k δ w e st
 |.exit id,st,_,δ,w,k=>k δ w (.exit id) st
 |.goto l,st,_,δ,w,k=>k δ w (.goto l) st
 |.ret,st,_,δ,w,k=>k δ w .ret st
 |.scope b,st,γ,δ,w,k=>ev sk b st γ δ w fun δ w e st=>match e with
  |.goto _=>none
  |e=>k δ w e st
 |.bad,_,_,_,_,_=>none
def tE(env:Nat->V):Nat->List V->Nat->V
 |_,[]=>env
 |i,v::r=>tE (cP env i v) (i+1) r
def vc:List ResultVar->Nat
 |[]=>0
 |.tmp t::r=>bit t|||vc r
 |.cell t _::r=>bit t|||vc r
def vd(st:St):List ResultVar->Option (List V)
 |[]=>some []
 |.tmp t::r=>match vd st r with
  |some l=>some (dx (st.env t)::l)
  |none=>none
 |.cell t ty::r=>match Nu L C st.obj ty (st.env t) with
  |.lj v _=>match vd st r with
   |some l=>some (v::l)
   |none=>none
  |_=>none
def tF{δ:Type}(sk:List Nat)(s:Shape)(w:ai s.aW->δ)(st:St)(rs:List ResultVar):Option δ:=
 match vd L C st rs with
 |some vs=>jE L sk s w (Nn sk) st.obj (bif gQ s then .bM::.d .bool false::vs else vs)
 |none=>none
def QC:Ty->Bool
 |.unit=>false
 |.pair _ _=>false
 |_=>true
def wU:List Sh->List V
 |[]=>[]
 |.d t::r=>(bif QC t then .d t (zero t) else .bM)::wU r
 |_::r=>.bM::wU r
def NU{δ:Type}(sk:List Nat)(s:Shape)(w:ai s.aW->δ)(st:St):Option δ:=bif gQ s then jE L sk s w (Nn sk) st.obj (.bM::.d .bool true::wU (s.roots.drop 2)) else none
def Iu(i:Nat)(x:ai (aL C.sigs i).ins.aW):Option (ai (aL C.sigs i).outs.aW):=
 let sg:=aL C.sigs i
 match C.P.funcs.toList[sg.f]? with
 |none=>none
 |some fn=>match fn.body with
  |none=>none
  |some b=>
   let p:=fill id (fun _=>0) sg.ins x;let k:=sg.ins.ay.length
   bif Ii k (aL C.sigs i).bD&&Nat.ble p.1.length fn.ntmps then ll (vc fn.results.toList) fn.ntmps 1000 b [] [] (vc fn.results.toList) fun _ ac=>ev L C R (aL C.sigs i).bD ac ⟨tE (fun _=>.undef) 0 p.1,ak (fun _=>Obj.none) p.2⟩
    (ai (aL C.sigs i).outs.aW) (ai (aL C.sigs i).outs.aW) (fun x=>x) fun _ w e st=>match e with
    |.normal=>tF L C (aL C.sigs i).bD (aL C.sigs i).outs w st fn.results.toList
    |.ret=>tF L C (aL C.sigs i).bD (aL C.sigs i).outs w st fn.results.toList
    |.panic=>NU L (aL C.sigs i).bD (aL C.sigs i).outs w st
    |_=>none else none
end
def cj:Nat:=9223372036854775807
def fJ(k:IntKind)(n:Int):Prop:=k.min<=n/\n<=k.max
def kB(w:World)(a:Addr)(cs:List Value):Prop:=∀j (h:j<cs.length),w.cell? ⟨a.block,a.off+j,none⟩=some cs[j]
def bf{α:Type}(f:α->List Value->Prop):List α->List Value->Prop
 |[],cs=>cs=[]
 |x::l,cs=>∃c d,cs=c++d/\f x c/\bf f l d
def rS{α:Type}(imm:Nat->Prop)(w:World)(R:α->List Value->Prop):Nat->Sl (fF α)->List Value->Prop
 |0,_,_=>False
 |n+1,s,cs=>∃v,cs=[v]/\s.l.length<=cj/\((s.nil=true/\s.l=[]/\v=.slice none 0 0)\/
   (s.nil=false/\∃a cap ec,v=.slice (some a) s.l.length cap/\(cap≠0->a.spot=none)/\(s.l≠[]->imm a.block)/\bf (fun r ec=>∃c d,ec=c++d/\R r.x c/\rS imm w R n r.s d) s.l ec/\kB w a ec/\s.l.length<=cap))
def aC(imm:Nat->Prop)(w:World):(t:Ty)->den t->List Value->Prop
 |.unit,_,cs=>cs=[]
 |.pair a b,x,cs=>∃c d,cs=c++d/\aC imm w a x.1 c/\aC imm w b x.2 d
 |.st p,x,cs=>aC imm w p x cs
 |.arr n e,l,cs=>List.length l=n/\bf (aC imm w e) l cs
 |.int k,n,cs=>cs=[.int k n]/\fJ k n
 |.bool,b,cs=>cs=[.bool b]
 |.eD,b,cs=>cs=[.float .f64 b]
 |.eU,b,cs=>cs=[.complex .f64 b.1 b.2]
 |.str,l,cs=>∃s:ByteArray,cs=[.string s]/\s.data.toList.map (fun b=>(b.toNat:Int))=l/\s.size<=cj
 |.sl e,s,cs=>∃v,cs=[v]/\s.l.length<=cj/\((s.nil=true/\s.l=[]/\v=.slice none 0 0)\/
   (s.nil=false/\∃a cap ec,v=.slice (some a) s.l.length cap/\(cap≠0->a.spot=none)/\(s.l≠[]->imm a.block)/\bf (aC imm w e) s.l ec/\kB w a ec/\s.l.length<=cap))
 |.ks p,s,cs=>∃n,rS imm w (aC imm w p) n s cs
def aX(imm:Nat->Prop)(w:World)(t:Ty)(x:den t)(v:Value):Prop:=
 match t,x with
 |.st p,x=>∃cs:Array Value,v=.agg cs/\aC imm w p x cs.toList
 |.arr n e,x=>∃cs:Array Value,v=.agg cs/\aC imm w (.arr n e) x cs.toList
 |.unit,_=>False
 |.pair _ _,_=>False
 |t,x=>aC imm w t x [v]
theorem nD{α:Type}{f g:α->List Value->Prop}:∀{l:List α} {cs:List Value},(∀x c,f x c->g x c)->bf f l cs->bf g l cs
 |[],_,_,h=>h
 |_::_,_,hf,⟨c,d,e,h1,h2⟩=>⟨c,d,e,hf _ _ h1,nD hf h2⟩
theorem qcy{w w':World}{a:Addr}(h:w'.heap[a.block]?=w.heap[a.block]?):w'.cell? a=w.cell? a:=by unfold World.cell?;rw[h]
theorem Iv{w w':World}{a:Addr}{cs:List Value}(h:w'.heap[a.block]?=w.heap[a.block]?)(hc:kB w a cs):kB w' a cs:=by intro j hj;rw[<-hc j hj];exact qcy h
theorem qfe{α:Type}{f:α->List Value->Prop}{l:List α}{w w':World}{a:Addr}{cs:List Value}(hr:bf f l cs)(h:l≠[]->w'.heap[a.block]?=w.heap[a.block]?)(hc:kB w a cs):kB w' a cs:=by
 cases l with
 |nil=>intro j hj;rw[show cs=[] from hr] at hj;cases hj
 |cons x l=>exact Iv (h (List.cons_ne_nil x l)) hc
theorem QD{α:Type}{imm imm':Nat->Prop}{w w':World}{R R':α->List Value->Prop}(hi:∀b,imm b->imm' b)(hw:∀b,imm b->w'.heap[b]?=w.heap[b]?)(hR:∀x c,R x c->R' x c):∀(n m:Nat),n<=m->∀(s:Sl (fF α)) (cs:List Value),rS imm w R n s cs->rS imm' w' R' m s cs
 |0,_,_,_,_,h=>h.elim
 |n+1,0,hg,_,_,_=>absurd hg om
 |n+1,m+1,hg,s,cs,⟨v,e1,hl,h⟩=>⟨v,e1,hl,h.imp id fun⟨hn,a,cap,ec,e2,hs,hb,hr,hc,he⟩=>⟨hn,a,cap,ec,e2,hs,fun hf=>hi _ (hb hf),nD (fun x c ⟨c1,d1,e3,h1,h2⟩=>⟨c1,d1,e3,hR _ _ h1,QD hi hw hR n m om _ _ h2⟩) hr,qfe hr (fun hf=>hw _ (hb hf)) hc,he⟩⟩
theorem gG{imm imm':Nat->Prop}{w w':World}(hi:∀b,imm b->imm' b)(hw:∀b,imm b->w'.heap[b]?=w.heap[b]?):∀(t:Ty) (x:den t) (cs:List Value),aC imm w t x cs->aC imm' w' t x cs
 |.unit,_,_,h=>h
 |.pair a b,x,_,⟨c,d,e,h1,h2⟩=>⟨c,d,e,gG hi hw a x.1 c h1,gG hi hw b x.2 d h2⟩
 |.st p,x,cs,h=>gG hi hw p x cs h
 |.arr _ e,_,_,⟨h1,h2⟩=>⟨h1,nD (gG hi hw e) h2⟩
 |.ks p,_,_,⟨n,h⟩=>⟨n,QD hi hw (gG hi hw p) n n (Nat.le_refl _) _ _ h⟩
 |.int _,_,_,h=>h
 |.bool,_,_,h=>h
 |.eD,_,_,h=>h
 |.eU,_,_,h=>h
 |.str,_,_,h=>h
 |.sl e,_,_,⟨v,e1,hl,h⟩=>⟨v,e1,hl,h.imp id fun⟨hn,a,cap,ec,e2,hs,hb,hr,hc,he⟩=>⟨hn,a,cap,ec,e2,hs,fun hf=>hi _ (hb hf),nD (gG hi hw e) hr,qfe hr (fun hf=>hw _ (hb hf)) hc,he⟩⟩
theorem gB{imm:Nat->Prop}{w:World}:∀(t:Ty) (x:den t) (cs:List Value),aC imm w t x cs->cs.length=aM t
 |.unit,_,_,h=>by simp[aC] at h;simp[h,aM]
 |.pair a b,x,_,⟨c,d,e,h1,h2⟩=>by subst e;simp[aM,gB a x.1 c h1,gB b x.2 d h2]
 |.st p,x,cs,h=>by simpa[aM] using gB p x cs h
 |.arr n e,l,cs,⟨h1,h2⟩=>by
   have key:∀(l:List (den e)) (cs:List Value),bf (aC imm w e) l cs->cs.length=l.length*aM e:=by
    intro l
    induction l with
    |nil=>intro cs h;simp[bf] at h;simp[h]
    |cons y l ih=>intro cs ⟨c,d,e1,h3,h4⟩;subst e1;simp[gB e y c h3,ih d h4,Nat.succ_mul,Nat.add_comm]
   rw[key l cs h2,h1];simp[aM]
 |.int _,_,_,h=>by simp[aC] at h;simp[h.1,aM]
 |.bool,_,_,h=>by simp[aC] at h;simp[h,aM]
 |.eD,_,_,h=>by simp[aC] at h;simp[h,aM]
 |.eU,_,_,h=>by simp[aC] at h;simp[h,aM]
 |.str,_,_,⟨s,h,_⟩=>by simp[h,aM]
 |.sl e,_,_,⟨v,h,_⟩=>by simp[h,aM]
 |.ks p,_,_,⟨0,h⟩=>h.elim
 |.ks p,_,_,⟨n+1,v,h,_⟩=>by simp[h,aM]
theorem oy{imm:Nat->Prop}{w:World}{e:Ty}:∀{l:List (den e)} {cs:List Value},bf (aC imm w e) l cs->cs.length=l.length*aM e
 |[],cs,h=>by simp[bf] at h;simp[h]
 |y::l,cs,⟨c,d,e1,h3,h4⟩=>by subst e1;simp[gB e y c h3,oy h4,Nat.succ_mul,Nat.add_comm]
theorem Iw{α:Type}{f:α->List Value->Prop}:∀{l m:List α} {cs ds:List Value},bf f l cs->bf f m ds->bf f (l++m) (cs++ds)
 |[],_,_,_,h,h'=>by simp[bf] at h;simpa[h] using h'
 |_::_,_,_,_,⟨c,d,e,h1,h2⟩,h'=>⟨c,d++_,by rw[e,zD],h1,Iw h2 h'⟩
theorem ve{imm:Nat->Prop}{w:World}{e:Ty}:∀{l:List (den e)} {cs:List Value} (n:Nat),n<=l.length->bf (aC imm w e) l cs->bf (aC imm w e) (l.take n) (cs.take (n*aM e))/\bf (aC imm w e) (l.drop n) (cs.drop (n*aM e))
 |l,cs,0,_,h=>by simpa[bf] using h
 |[],_,n+1,hn,_=>by simp at hn
 |y::l,cs,n+1,hn,⟨c,d,e1,h3,h4⟩=>by
  subst e1;have hc:=gB e y c h3;obtain⟨h5,h6⟩:=ve n (by simpa using hn) h4;have e2:(n+1)*aM e=c.length+n*aM e:=by rw[hc,Nat.succ_mul,Nat.add_comm]
  rw[e2,List.take_length_add_append,List.drop_length_add_append];exact⟨⟨c,_,rfl,h3,h5⟩,by simpa using h6⟩
theorem JX{imm:Nat->Prop}{w:World}{e:Ty}{l:List (den e)}{cs:List Value}(h:bf (aC imm w e) l cs)(i:Nat)(hi:i<l.length):aC imm w e l[i] ((cs.drop (i*aM e)).take (aM e)):=by
 obtain⟨_,h2⟩:=ve i (Nat.le_of_lt hi) h;rw[List.drop_eq_getElem_cons hi] at h2;obtain⟨c,d,e1,h3,_⟩:=h2;rw[e1,<-gB e _ c h3,List.take_left']
 ·exact h3
 ·rfl
theorem qiz:∀(p k:Ty) (z:den (ED p k)),DN p k (Nb p k z) (Jw p k z)=z
 |.pair _ b,k,z=>by show(z.1,DN b k (Nb b k z.2) (Jw b k z.2))=z;rw[qiz b k z.2];rfl
 |.int _,_,_=>rfl
 |.bool,_,_=>rfl
 |.eD,_,_=>rfl
 |.eU,_,_=>rfl
 |.str,_,_=>rfl
 |.sl _,_,_=>rfl
 |.unit,_,_=>rfl
 |.st _,_,_=>rfl
 |.arr _ _,_,_=>rfl
 |.ks _,_,_=>rfl
theorem NV{imm:Nat->Prop}{w:World}:∀(p k:Ty) (x:den p) (y:den k) (cs:List Value),aC imm w (ED p k) (DN p k x y) cs↔∃c d,cs=c++d/\aC imm w p x c/\aC imm w k y d
 |.pair a b,k,x,y,cs=>by
  constructor
  ·rintro⟨c,d,e,h1,h2⟩;obtain⟨c2,d2,e2,h3,h4⟩:=(NV b k x.2 y d).1 h2;exact⟨c++c2,d2,by rw[e,e2,zD],⟨c,c2,rfl,h1,h3⟩,h4⟩
  ·rintro⟨c,d,e,⟨c1,c2,e2,h1,h2⟩,h3⟩;exact⟨c1,c2++d,by rw[e,e2,zD],h1,(NV b k x.2 y _).2 ⟨c2,d,rfl,h2,h3⟩⟩
 |.int _,_,_,_,_=>Iff.rfl
 |.bool,_,_,_,_=>Iff.rfl
 |.eD,_,_,_,_=>Iff.rfl
 |.eU,_,_,_,_=>Iff.rfl
 |.str,_,_,_,_=>Iff.rfl
 |.sl _,_,_,_,_=>Iff.rfl
 |.unit,_,_,_,_=>Iff.rfl
 |.st _,_,_,_,_=>Iff.rfl
 |.arr _ _,_,_,_,_=>Iff.rfl
 |.ks _,_,_,_,_=>Iff.rfl
theorem qny{α β:Type}{f:α->List Value->Prop}{g:β->List Value->Prop}{h:α->β}:∀{l:List α} {cs:List Value},(∀x,x∈l->∀c,f x c->g (h x) c)->bf f l cs->bf g (l.map h) cs
 |[],_,_,hr=>hr
 |x::_l,_,hf,⟨c,d,e,h1,h2⟩=>⟨c,d,e,hf x (zf ..) c h1,qny (fun y hy=>hf y (zh _ hy)) h2⟩
theorem qss{α:Type}{f:Nat->α->List Value->Prop}(hf:∀n m x c,n<=m->f n x c->f m x c):∀{l:List α} {cs:List Value},bf (fun x c=>∃n,f n x c) l cs->∃n,bf (f n) l cs
 |[],_,h=>⟨0,h⟩
 |x::l,_,⟨c,d,e,⟨n,h1⟩,h2⟩=>by obtain⟨m,h3⟩:=qss hf h2;exact⟨n+m,c,d,e,hf n _ x c om h1,nD (fun y c'=>hf m _ y c' om) h3⟩
theorem QE(p:Ty)(s:Sl (den (mH p))):A3 p (H8 p s)=s:=by obtain⟨nl,l⟩:=s;show(⟨nl,(l.map _).map _⟩:Sl (den (mH p)))=⟨nl,l⟩;rw[ja];congr 1;exact(zY fun z _=>qiz p (.ks p) z).trans (List.map_id l)
theorem Iy{imm:Nat->Prop}{w:World}(p:Ty)(s:Sl (fF (den p)))(cs:List Value):aC imm w (.ks p) s cs↔aC imm w (.sl (mH p)) (A3 p s) cs:=by
 obtain⟨nl,l⟩:=s;have hc:(l.map fun r:fF (den p)=>DN p (.ks p) r.x r.s).length=l.length:=zC _;constructor
 ·rintro⟨n,h⟩;cases n with
  |zero=>exact h.elim
  |succ n=>
   obtain⟨v,e1,hl,h⟩:=h;refine⟨v,e1,by show(l.map _).length<=_;rw[hc];exact hl,?_⟩;rcases h with ⟨h1,h2,h3⟩|⟨h1,a,cap,ec,h2,h3,h4,h5,h6,h7⟩
   ·have h2:l=[]:=h2;subst h2;exact .inl ⟨h1,rfl,h3⟩
   ·refine .inr ⟨h1,a,cap,ec,by show v=.slice (some a) (l.map _).length cap;rw[hc];exact h2,h3,fun he=>h4 fun e=>he ?_,?_,h6,by show(l.map _).length<=_;rw[hc];exact h7⟩
    ·have e:l=[]:=e;subst e;rfl
    ·refine qny (fun r _ c ⟨c1,d1,e3,g1,g2⟩=>?_) h5;exact(NV p (.ks p) r.x r.s c).2 ⟨c1,d1,e3,g1,n,g2⟩
 ·rintro⟨v,e1,hl,h⟩;have hl:l.length<=cj:=by rw[<-hc];exact hl
  rcases h with ⟨h1,h2,h3⟩|⟨h1,a,cap,ec,h2,h3,h4,h5,h6,h7⟩
  ·have h2:l=[]:=List.map_eq_nil_iff.1 h2;subst h2;exact⟨1,v,e1,hl,.inl ⟨h1,rfl,h3⟩⟩
  ·have h2:v=.slice (some a) (l.map fun r:fF (den p)=>DN p (.ks p) r.x r.s).length cap:=h2;rw[hc] at h2;have h5:bf (fun(r:fF (den p)) c=>∃n,∃c1 d1,c=c1++d1/\aC imm w p r.x c1/\rS imm w (aC imm w p) n r.s d1) l ec:=by
    have key:∀(l:List (fF (den p))) (ec:List Value),bf (aC imm w (mH p)) (l.map fun r=>DN p (.ks p) r.x r.s) ec->bf (fun(r:fF (den p)) c=>∃n,∃c1 d1,c=c1++d1/\aC imm w p r.x c1/\rS imm w (aC imm w p) n r.s d1) l ec:=by
     intro l
     induction l with
     |nil=>intro ec h;exact h
     |cons r l ih=>rintro ec ⟨c,d,e,g1,g2⟩;obtain⟨c1,d1,e3,g3,n,g4⟩:=(NV p (.ks p) r.x r.s c).1 g1;exact⟨c,d,e,⟨n,c1,d1,e3,g3,g4⟩,ih d g2⟩
    exact key l ec h5
   obtain⟨n,h5⟩:=qss (f:=fun n (r:fF (den p)) c=>∃c1 d1,c=c1++d1/\aC imm w p r.x c1/\rS imm w (aC imm w p) n r.s d1) (fun n m r c hf ⟨c1,d1,e3,g1,g2⟩=>⟨c1,d1,e3,g1,QD (fun _ h=>h) (fun _ _=>rfl) (fun _ _ h=>h) n m hf _ _ g2⟩) h5;exact⟨n+1,v,e1,hl,.inr ⟨h1,a,cap,ec,h2,h3,fun he=>h4 fun e=>he (List.map_eq_nil_iff.1 e),h5,h6,by rw[<-hc];exact h7⟩⟩
def fw:(p:Ty)->Nat->Nat
 |.pair _ _,0=>0
 |.pair a b,n+1=>aM a+fw b n
 |_,_=>0
def QF:(p:Ty)->Nat->Ty
 |.pair a _,0=>a
 |.pair _ b,n+1=>QF b n
 |.ks p,_=>.sl (mH p)
 |t,_=>t
def iX:List Nat->Ty->Nat
 |[],_=>0
 |f::r,.st p=>fw p f+iX r (QF p f)
 |_::_,_=>0
def live:Obj->Bool
 |.box _=>true
 |.vec _ _ fr s=>!s.nil&&!fr
 |.map _ _ _=>true
 |.iter _ _=>true
 |.dead=>false
 |.none=>false
def qst:Obj->Addr->Bool
 |.vec _ _ _ _,a=>a.spot.isSome
 |_,_=>false
def aV(a:Addr)(x:Obj):Bool:=live x&&!qst x a
def bare(a:Addr):Addr:=⟨a.block,a.off,match a.spot with|none=>none|some 0=>none|some (k+1)=>some k⟩
def mark(a:Addr):Addr:=⟨a.block,a.off,match a.spot with|none=>some 0|some k=>some (k+1)⟩
theorem QG{a:Addr}(h:a.spot=none):bare a=a:=by cases a;cases h;rfl
theorem qsu(a:Addr):bare (mark a)=a:=by obtain⟨b,f,s⟩:=a;cases s<;>rfl
theorem qsv(a:Addr):(mark a).spot≠none:=by obtain⟨b,f,s⟩:=a;cases s<;>exact fun h=>by cases h
theorem QH{a:Addr}(h:a.spot=none):(bare a).spot=none:=by rw[QG h];exact h
theorem NW{a:Addr}(h:a.spot=none):bare a=⟨a.block,a.off,none⟩:=by unfold bare;rw[h]
theorem ER{a:Addr}{cap:Nat}(h:a.spot.isSome=true->cap=0):cap≠0->(bare a).spot=none:=fun hc=>QH (by
 cases e:a.spot with
 |none=>rfl
 |some k=>exact absurd (h (by rw[e];rfl)) hc)
theorem tG{a:Addr}{t:Ty}{ver:Nat}{s:Sl (den t)}(hn:s.nil=false)(ha:a.spot=none):aV a (.vec t ver false s)=true:=by simp[aV,live,qst,hn,ha]
theorem lG{a:Addr}(h:aV a .none=true):False:=by simp[aV,live] at h
theorem Bg{a:Addr}{t:Ty}{ver:Nat}{fr:Bool}{s:Sl (den t)}(h:aV a (.vec t ver fr s)=true):s.nil=false/\fr=false/\a.spot=none:=by have h:(!s.nil&&!fr&&!a.spot.isSome)=true:=h;cases hn:s.nil<;>cases fr<;>cases hs:a.spot<;>simp[hn,hs] at h ⊢
def px(φ:Nat->Addr)(o:Nat->Obj)(b:Nat):Prop:=∃id,aV (φ id) (o id)=true/\(φ id).block=b
def ah(X:Nat->Prop)(φ:Nat->Addr)(o:Nat->Obj)(w:World)(b:Nat):Prop:=b<w.heap.size/\¬X b/\¬px φ o b
def room(w:World)(a:Addr)(n:Nat):Prop:=∃c el lo hi,w.heap[a.block]?=some (.cells c el (lo,hi))/\a.off+n<=c.size/\(hi<=lo\/hi<=a.off\/a.off+n<=lo)
def Iz(w:World)(a:Addr)(nil fr:Bool)(sz n:Nat)(v:Value):Prop:=(nil=true/\v=.slice none 0 0)\/(nil=false/\∃cap,v=.slice (some (bare a)) n cap/\n<=cap/\(a.spot.isSome=true->cap=0)/\(fr=false->a.spot=none->room w a (cap*sz)))
def z3e(a:Addr)(nil:Bool)(sz:Nat)(lo:Int)(n:Nat)(v:Value):Prop:=∃k:Nat,lo=(k:Int)/\k<=n/\((nil=true/\v=.slice none 0 0)\/(nil=false/\∃cap,v=.slice (some (if cap=0 then bare a else⟨a.block,a.off+k*sz,none⟩)) (n-k) cap/\n-k<=cap))
def NX(imm:Nat->Prop)(w:World)(n:Int)(v:Value):Prop:=∃a cs,v=.pointer (some a)/\a.spot=none/\imm a.block/\aC imm w (.int .i64) n cs/\kB w a cs
def vf(imm:Nat->Prop)(w:World):List (Nat×Bool)->Int->Int->Value->Prop
 |[],k,_,v=>k=0/\v=.nilFunc
 |(f,c)::r,k,n,v=>(k=0/\match c with
  |false=>v=.func (.func f) #[] #[]
  |true=>∃p,v=.func (.func f) #[] #[p]/\NX imm w n p)\/(k≠0/\vf imm w r (k-1) n v)
theorem NY{imm:Nat->Prop}{w:World}{n:Int}:∀(a:List (Nat×Bool)) {k:Int} {v:Value},vf imm w a k n v->(v=.nilFunc/\k=((a.length:Nat):Int))\/(∃f c,v=.func (.func f) #[] c/\k≠((a.length:Nat):Int))
 |[],k,v,h=>.inl ⟨h.2,h.1⟩
 |(f,c)::r,k,v,h=>by
  rcases h with ⟨h1,h2⟩|⟨h1,h2⟩
  ·refine .inr ?_;have hk:k≠(((f,c)::r).length:Int):=by rw[zw];omega
   cases c with
   |false=>exact⟨f,#[],h2,hk⟩
   |true=>obtain⟨p,h3,_⟩:=h2;exact⟨f,#[p],h3,hk⟩
  ·rcases NY r h2 with ⟨h3,h4⟩|⟨g,d,h3,h4⟩
   ·exact .inl ⟨h3,by rw[zw];omega⟩
   ·exact .inr ⟨g,d,h3,by rw[zw];omega⟩
theorem QI{α:Type}:∀(l:List α) (i:Nat),oq l i=i+l.length
 |[],_=>rfl
 |_::r,i=>by show oq r (i+1)=_;rw[QI r,zw];omega
theorem QJ{imm imm':Nat->Prop}{w w':World}{n:Int}(h:∀p,NX imm w n p->NX imm' w' n p):∀(a:List (Nat×Bool)) (k:Int) (v:Value),vf imm w a k n v->vf imm' w' a k n v
 |[],_,_,e=>e
 |(f,c)::r,k,v,e=>by
  rcases e with ⟨e1,e2⟩|⟨e1,e2⟩
  ·refine .inl ⟨e1,?_⟩;cases c with
   |false=>exact e2
   |true=>obtain⟨p,h1,h2⟩:=e2;exact⟨p,h1,h p h2⟩
  ·exact .inr ⟨e1,QJ h r (k-1) v e2⟩
def IA(f:Nat)(c:Array Value):Value:=.func (.func (f % 1048576)) (c.toList.take (f / 1048576)).toArray (c.toList.drop (f / 1048576)).toArray
theorem JY{f:Nat}(h:f<1048576)(c:Array Value):IA f c=.func (.func f) #[] c:=by unfold IA;rw[Nat.mod_eq_of_lt h,Nat.div_eq_of_lt h,List.take_zero,List.drop_zero]
mutual
def au(φ:Nat->Addr)(o:Nat->Obj)(imm:Nat->Prop)(w:World):V->Value->Prop
 |.d t x,v=>aX imm w t x v
 |.cK id ver,v=>match o id with
  |.vec t aE fr s=>ver<=aE/\(ver=aE->Iz w (φ id) s.nil fr (aM t) s.l.length v)
  |.none=>False
  |_=>True
 |.pre id ver n cp,v=>match o id with
  |.vec t aE fr s=>ver<=aE/\(ver=aE->n<=s.l.length/\Iz w (φ id) s.nil fr (aM t) n v/\(cp=true->∀a m c,v=.slice a m c->c=n))
  |.none=>False
  |_=>True
 |.ptr id off,v=>match o id with
  |.none=>False
  |.dead=>True
  |.vec _ ver _ _=>ver=0->v=.pointer (some ⟨(φ id).block,(φ id).off+off,none⟩)
  |_=>v=.pointer (some ⟨(φ id).block,(φ id).off+off,none⟩)
 |.j8 id ver i path,v=>match o id with
  |.vec t aE _ s=>ver<=aE/\(ver=aE->i<s.l.length/\v=.pointer (some ⟨(φ id).block,(φ id).off+i*aM t+iX path t,none⟩))
  |.none=>False
  |_=>True
 |.ref t x,v=>∃a cs,v=.pointer (some a)/\a.spot=none/\imm a.block/\aC imm w t x cs/\kB w a cs
 |.rr t x,v=>∃a b cs,v=.pointer (some a)/\a.spot=none/\imm a.block/\kB w a [.pointer (some b)]/\b.spot=none/\imm b.block/\aC imm w t x cs/\kB w b cs
 |.fX,v=>v=.pointer none
 |.fn f l,v=>∃c:Array Value,v=IA f c/\bW φ o imm w l c.toList
 |.fG,v=>v=.nilFunc
 |.fY l,v=>∃c:Array Value,v=.tuple c/\bW φ o imm w l c.toList
 |.agg l,v=>∃c:Array Value,v=.agg c/\bW φ o imm w l c.toList
 |.mp id,v=>match o id with
  |.none=>False
  |.map _ _ _=>v=.map (some (φ id).block)
  |_=>True
 |.iP,v=>v=.map none
 |.it id,v=>match o id with
  |.none=>False
  |.iter _ _=>v=.pointer (some ⟨(φ id).block,0,none⟩)
  |_=>True
 |.Nc b p c,v=>(b=true/\v=.tuple #[.bool true,.int .i64 p,.int .i32 c]/\fJ .i64 p/\fJ .i32 c)\/(b=false/\v=.tuple #[.bool false])
 |.j9,v=>v=.nilIface
 |.Nd,v=>∃t x,v=.iface t x
 |.fa a k n,v=>vf imm w a k n v
 |.eE,v=>v=.slice none 0 0
 |.lb b,v=>v=.bool b
 |.undef,v=>v=undef
 |.bM,_=>True
 |.gM id b,v=>match o id with
  |.none=>False
  |.box _=>v=.pointer (bif b then some ⟨(φ id).block,(φ id).off,none⟩ else none)
  |_=>True
 |.gN id ver lo,v=>match o id with
  |.vec t aE _ s=>ver<=aE/\(ver=aE->z3e (φ id) s.nil (aM t) lo s.l.length v)
  |.none=>False
  |_=>True
def bW(φ:Nat->Addr)(o:Nat->Obj)(imm:Nat->Prop)(w:World):List V->List Value->Prop
 |[],vs=>vs=[]
 |x::l,vs=>∃v r,vs=v::r/\au φ o imm w x v/\bW φ o imm w l r
end
def wo{α β:Type}(f:α->Value->Prop)(g:β->Value->Prop):List (α×β)->List MapEntry->Prop
 |[],es=>es=[]
 |p::l,es=>∃e r,es=e::r/\f p.1 e.key/\g p.2 e.val/\wo f g l r
def o3(φ:Nat->Addr)(o:Nat->Obj)(imm:Nat->Prop)(w:World)(id:Nat):Obj->Prop
 |.box cs=>(φ id).off=0/\∃c el lo hi,w.heap[(φ id).block]?=some (.cells c el (lo,hi))/\hi<=lo/\bW φ o imm w cs c.toList
 |.vec t _ fr s=>s.l.length<=cj/\(s.nil=true->s.l=[])/\(s.nil=false->((φ id).spot=none/\∃ec,bf (aC imm w t) s.l ec/\kB w (φ id) ec/\
   room w (φ id) 0/\(fr=false->room w (φ id) (s.l.length*aM t))/\(fr=true->imm (φ id).block))\/((φ id).spot≠none/\s.l=[]/\t≠.int .u8))
 |.map k v m=>∃es clock,w.heap[(φ id).block]?=some (.map es clock)/\wo (aX imm w k) (aX imm w v) m es.toList
 |.dead=>True
 |.none=>True
 |.iter l p=>∃(s:ByteArray) (n:Nat),w.heap[(φ id).block]?=some (.stringIter s n)/\s.data.toList.map (fun b=>(b.toNat:Int))=l/\p=(n:Int)/\s.size<=cj
def z4s(C:Cx)(el:TypeId)(n:Nat):Prop:=(el=C.DQ/\n=2)\/(el=C.wN/\n=4)
def gR(C:Cx)(w:World)(a:Addr):Obj->Prop
 |.vec t _ _ s=>t=.int .u8->s.nil=false->∃c el fz,w.heap[a.block]?=some (.cells c el fz)/\C.P.underlying el=some (.int .u8)/\(fz.1=fz.2\/c.size<=fz.1)
 |.box cs=>ou cs=true->∃c el fz,w.heap[a.block]?=some (.cells c el fz)/\z4s C el c.size
 |_=>True
structure MRel (C:Cx) (X:Nat->Prop) (φ:Nat->Addr) (o:Nat->Obj) (w:World):Prop where
 ay:∀id,o3 φ o (ah X φ o w) w id (o id)
 inj:∀i j,aV (φ i) (o i)=true->aV (φ j) (o j)=true->(φ i).block=(φ j).block->i=j
 sep:∀i,aV (φ i) (o i)=true->(φ i).block<w.heap.size/\¬X (φ i).block
 xs:∀b,X b->b<w.heap.size
 tH:∀id,gR C w (φ id) (o id)
 fp:∀g t x,C.kl g=some ⟨t,x⟩->au φ o (ah X φ o w) w (.ref t x) (.pointer (some ⟨g,0,none⟩))
 IB:∀g t x,C.kl g=some ⟨t,x⟩->∃c el fz,w.heap[g]?=some (.cells c el fz)/\c.size=aM t
theorem MRel.tI{C:Cx}{X:Nat->Prop}{φ:Nat->Addr}{o:Nat->Obj}{w w':World}(hm:MRel C X φ o w)(st:∀b,ah X φ o w b->w'.heap[b]?=w.heap[b]?):∀g t x,C.kl g=some ⟨t,x⟩->∃c el fz,w'.heap[g]?=some (.cells c el fz)/\c.size=aM t:=fun g t x hg=>by obtain⟨a,cs,e,_,hi,_⟩:=hm.fp g t x hg;injection e with e;injection e with e;subst e;rw[st _ hi];exact hm.IB g t x hg
theorem MRel.cap{C:Cx}{X:Nat->Prop}{φ:Nat->Addr}{o:Nat->Obj}{w:World}(hm:MRel C X φ o w){id:Nat}{t:Ty}{ver:Nat}{fr:Bool}{s:Sl (den t)}(h:o id=.vec t ver fr s)(hn:s.nil=false)(hs:(φ id).spot≠none):s.l=[]/\t≠.int .u8:=by
 have:=hm.ay id;rw[h] at this;rcases this.2.2 hn with h1|h1
 ·exact absurd h1.1 hs
 ·exact h1.2
theorem MRel.JZ{C:Cx}{X:Nat->Prop}{φ:Nat->Addr}{o:Nat->Obj}{w:World}(hm:MRel C X φ o w)(id:Nat):∀ver fr (s:Sl (den (.int .u8))),o id=.vec (.int .u8) ver fr s->s.nil=false->(φ id).spot=none:=by intro ver fr s h hn;apply zK;intro hs;exact(hm.cap h hn hs).2 rfl
structure Fr where
 n:Nat
 d:List Deferred
structure Rel (C:Cx) (nt:Fr) (X:Nat->Prop) (φ:Nat->Addr) (st:St) (a:Act) (w:World):Prop extends MRel C X φ st.obj w where
 size:a.tmps.size=nt.n
 env:∀t,au φ st.obj (ah X φ st.obj w) w (st.env t) (a.tmps.getD t undef)
 defers:a.defers=nt.d
theorem rT{imm imm':Nat->Prop}{w w':World}(hi:∀b,imm b->imm' b)(hw:∀b,imm b->w'.heap[b]?=w.heap[b]?)(t:Ty)(x:den t)(v:Value)(h:aX imm w t x v):aX imm' w' t x v:=by
 cases t with
 |st p=>obtain⟨cs,h1,h2⟩:=h;exact⟨cs,h1,gG hi hw p x _ h2⟩
 |arr n e=>obtain⟨cs,h1,h2⟩:=h;exact⟨cs,h1,gG hi hw (.arr n e) x _ h2⟩
 |unit=>exact h
 |pair a b=>exact h
 |int k=>exact gG hi hw (.int k) x _ h
 |bool=>exact gG hi hw .bool x _ h
 |eD=>exact gG hi hw .eD x _ h
 |eU=>exact gG hi hw .eU x _ h
 |str=>exact gG hi hw .str x _ h
 |sl e=>exact gG hi hw (.sl e) x _ h
 |ks p=>exact gG hi hw (.ks p) x _ h
theorem Bh{w w':World}{a:Addr}{n:Nat}(h:w'.heap[a.block]?=w.heap[a.block]?)(hr:room w a n):room w' a n:=by obtain⟨c,el,lo,hi,h1,h2,h3⟩:=hr;exact⟨c,el,lo,hi,by rw[h,h1],h2,h3⟩
theorem z03{w w':World}{a:Addr}{nil fr:Bool}{sz n:Nat}{v:Value}(h:nil=false->fr=false->a.spot=none->w'.heap[a.block]?=w.heap[a.block]?)(hr:Iz w a nil fr sz n v):Iz w' a nil fr sz n v:=hr.imp id fun⟨hn,cap,h1,h2,h4,h3⟩=>⟨hn,cap,h1,h2,h4,fun hf hs=>Bh (h hn hf hs) (h3 hf hs)⟩
def eG(w w':World)(b:Nat):Prop:=∀c el fz,w.heap[b]?=some (.cells c el fz)->∃c',w'.heap[b]?=some (.cells c' el fz)/\c'.size=c.size
theorem eG.same{w w':World}{b:Nat}(h:w'.heap[b]?=w.heap[b]?):eG w w' b:=fun c el fz e=>⟨c,by rw[h];exact e,rfl⟩
theorem gR.bD{C:Cx}{w w':World}{a:Addr}{x:Obj}(h:gR C w a x)(hb:aV a x=true->eG w w' a.block)(hf:∀ver (s:Sl (den (.int .u8))),x=.vec (.int .u8) ver true s->s.nil=false->eG w w' a.block)(hc:∀ver fr (s:Sl (den (.int .u8))),x=.vec (.int .u8) ver fr s->s.nil=false->a.spot=none):gR C w' a x:=by
 cases x with
 |vec t ver fr s=>
  intro ht hn;obtain⟨c,el,fz,h1,h2,h4⟩:=h ht hn;subst ht;have hk:eG w w' a.block:=by
   cases fr with
   |true=>exact hf _ _ rfl hn
   |false=>exact hb (tG hn (hc _ _ _ rfl hn))
  obtain⟨c',h3,h5⟩:=hk _ _ _ h1;exact⟨c',el,fz,h3,h2,by rw[h5];exact h4⟩
 |box cs=>intro hs;obtain⟨c,el,fz,h1,h3⟩:=h hs;obtain⟨c',h2,h4⟩:=(hb rfl) _ _ _ h1;exact⟨c',el,fz,h2,by rw[h4];exact h3⟩
 |map k v m=>trivial
 |dead=>trivial
 |none=>trivial
 |iter s p=>trivial
def Up(w w':World)(a a':Addr):Obj->Obj->Prop
 |.none,_=>True
 |_,.dead=>True
 |.box _,.box _=>a'=a
 |.map _ _ _,.map _ _ _=>a'=a
 |.iter _ _,.iter _ _=>a'=a
 |.vec t ver fr s,.vec t' aE DZ s'=>ver<aE\/(ver=aE/\t=t'/\s.nil=s'.nil/\s.l.length=s'.l.length/\a'=a/\(DZ=false->fr=false/\(s.nil=false->a.spot=none->∀n,room w a n->room w' a n)))
 |_,_=>False
theorem Up.same{w w':World}{a:Addr}{x:Obj}(h:aV a x=true->∀n,room w a n->room w' a n):Up w w' a a x x:=by
 cases x with
 |vec t ver fr s=>exact .inr ⟨rfl,rfl,rfl,rfl,rfl,fun hf=>⟨hf,fun hn hs=>h (by subst hf;exact tG hn hs)⟩⟩
 |box cs=>exact rfl
 |map k v m=>exact rfl
 |dead=>trivial
 |none=>trivial
 |iter s p=>exact rfl
theorem qj1{w w':World}{a:Addr}{nil fr DZ:Bool}{sz n:Nat}{v:Value}(h:DZ=false->fr=false/\(nil=false->a.spot=none->∀n,room w a n->room w' a n))(hr:Iz w a nil fr sz n v):Iz w' a nil DZ sz n v:=hr.imp id fun⟨hn,cap,h1,h2,h4,h3⟩=>⟨hn,cap,h1,h2,h4,fun hf hs=>(h hf).2 hn hs _ (h3 (h hf).1 hs)⟩
theorem AD{φ φ':Nat->Addr}{o o':Nat->Obj}{imm imm':Nat->Prop}{w w':World}(hi:∀b,imm b->imm' b)(hw:∀b,imm b->w'.heap[b]?=w.heap[b]?)(ho:∀id,Up w w' (φ id) (φ' id) (o id) (o' id)):∀(x:V) (v:Value),au φ o imm w x v->au φ' o' imm' w' x v:=by
 intro x;refine V.rec (motive_1:=fun x=>∀v,au φ o imm w x v->au φ' o' imm' w' x v) (motive_2:=fun l=>∀vs,bW φ o imm w l vs->bW φ' o' imm' w' l vs)
  ?_ ?_ ?_ ?_ ?_ ?_ ?_ ?_ ?_ ?_ ?_ ?_ ?_ ?_ ?_ ?_ ?_ ?_ ?_ ?_ ?_ ?_ ?_ ?_ ?_ ?_ ?_ x
 ·exact fun t x v h=>rT hi hw t x v h
 ·intro id ver v h;have hu:=ho id;unfold au at*
  revert h hu;cases o id<;>cases o' id<;>simp only[Up]<;>intro hu h<;>first|trivial|exact h.elim|exact hu.elim|skip
  obtain⟨h0,h⟩:=h;rcases hu with hu|⟨e1,e2,e3,e4,e5,e6⟩
  ·exact⟨by omega,fun e=>by omega⟩
  ·subst e1 e2;exact⟨h0,fun e=>by rw[e5,<-e3,<-e4];exact qj1 e6 (h e)⟩
 ·intro id ver n cp v h;have hu:=ho id;unfold au at*
  revert h hu;cases o id<;>cases o' id<;>simp only[Up]<;>intro hu h<;>first|trivial|exact h.elim|exact hu.elim|skip
  obtain⟨h0,h⟩:=h;rcases hu with hu|⟨e1,e2,e3,e4,e5,e6⟩
  ·exact⟨by omega,fun e=>by omega⟩
  ·subst e1 e2;refine⟨h0,fun e=>?_⟩;obtain⟨h1,h2,h3⟩:=h e;exact⟨by omega,by rw[e5,<-e3];exact qj1 e6 h2,h3⟩
 ·intro id off v h;have hu:=ho id;unfold au at*
  revert h hu;cases o id<;>cases o' id<;>simp only[Up]<;>intro hu h<;>first|trivial|exact h.elim|exact hu.elim|(rw[hu];exact h)|skip
  rcases hu with hu|⟨e1,e2,e3,e4,e5,e6⟩
  ·intro e;omega
  ·subst e1;rw[e5];exact h
 ·intro id ver i path v h;have hu:=ho id;unfold au at*
  revert h hu;cases o id<;>cases o' id<;>simp only[Up]<;>intro hu h<;>first|trivial|exact h.elim|exact hu.elim|skip
  obtain⟨h0,h⟩:=h;rcases hu with hu|⟨e1,e2,e3,e4,e5,e6⟩
  ·exact⟨by omega,fun e=>by omega⟩
  ·subst e1 e2;refine⟨h0,fun e=>?_⟩;obtain⟨h1,h2⟩:=h e;exact⟨by omega,by rw[e5];exact h2⟩
 ·exact fun t x v ⟨a,cs,h1,h2,h3,h4,h5⟩=>⟨a,cs,h1,h2,hi _ h3,gG hi hw t x cs h4,Iv (hw _ h3) h5⟩
 ·exact fun v h=>h
 ·exact fun f l ih v ⟨c,h1,h2⟩=>⟨c,h1,ih _ h2⟩
 ·exact fun v h=>h
 ·exact fun l ih v ⟨c,h1,h2⟩=>⟨c,h1,ih _ h2⟩
 ·exact fun l ih v ⟨c,h1,h2⟩=>⟨c,h1,ih _ h2⟩
 ·intro id v h;have hu:=ho id;unfold au at*
  revert h hu;cases o id<;>cases o' id<;>simp only[Up]<;>intro hu h<;>first|trivial|exact h.elim|exact hu.elim|(rw[hu];exact h)|exact h
 ·exact fun v h=>h
 ·exact fun v h=>h
 ·exact fun v h=>h
 ·exact fun b v h=>h
 ·exact fun v h=>h
 ·exact fun v h=>h
 ·intro id b v h;have hu:=ho id;unfold au at*
  revert h hu;cases o id<;>cases o' id<;>simp only[Up]<;>intro hu h<;>first|trivial|exact h.elim|exact hu.elim|(rw[hu];exact h)|exact h
 ·intro id ver lo v h;have hu:=ho id;unfold au at*
  revert h hu;cases o id<;>cases o' id<;>simp only[Up]<;>intro hu h<;>first|trivial|exact h.elim|exact hu.elim|skip
  obtain⟨h0,h⟩:=h;rcases hu with hu|⟨e1,e2,e3,e4,e5,e6⟩
  ·exact⟨by omega,fun e=>by omega⟩
  ·subst e1 e2;refine⟨h0,fun e=>?_⟩;rw[e5,<-e3,<-e4];exact h e
 ·intro id v h;have hu:=ho id;unfold au at*
  revert h hu;cases o id<;>cases o' id<;>simp only[Up]<;>intro hu h<;>first|trivial|exact h.elim|exact hu.elim|(rw[hu];exact h)|exact h
 ·exact fun b p c v h=>h
 ·exact fun a k n v h=>QJ (fun p ⟨a,cs,h1,h2,h3,h4,h5⟩=>⟨a,cs,h1,h2,hi _ h3,gG hi hw (.int .i64) n cs h4,Iv (hw _ h3) h5⟩) a k v h
 ·exact fun t x v ⟨a,b,cs,h1,h2,h3,h4,h5,h6,h7,h8⟩=>⟨a,b,cs,h1,h2,hi _ h3,Iv (hw _ h3) h4,h5,hi _ h6,gG hi hw t x cs h7,Iv (hw _ h6) h8⟩
 ·exact fun v h=>h
 ·exact fun vs h=>h
 ·exact fun x l mZ nc vs ⟨v,r,h1,h2,h3⟩=>⟨v,r,h1,mZ _ h2,nc _ h3⟩
def hit(ks:List Nat)(φ:Nat->Addr)(o:Nat->Obj)(b:Nat):Prop:=∃id,id∈ks/\aV (φ id) (o id)=true/\(φ id).block=b
def Bi(w w':World):Prop:=w'.os=w.os/\w'.output=w.output
structure Comes (C:Cx) (X:Nat->Prop) (φ φ':Nat->Addr) (o:Nat->Obj) (u:List (Nat×Obj)) (w w':World) (v:V) (val:Value):Prop where
 mem:MRel C X φ' (ak o u) w'
 val:au φ' (ak o u) (ah X φ' (ak o u) w') w' v val
 up:∀id,Up w w' (φ id) (φ' id) (o id) (ak o u id)
 size:w.heap.size<=w'.heap.size
 frame:∀b,b<w.heap.size->¬hit (bJ u) φ o b->w'.heap[b]?=w.heap[b]?
 nE:∀id,o id≠.none->id∉bJ u->φ' id=φ id
 news:∀id,aV (φ' id) (ak o u id)=true->w.heap.size<=(φ' id).block\/px φ o (φ' id).block
 still:Bi w w'
theorem Comes.imm{C:Cx}{X:Nat->Prop}{φ φ':Nat->Addr}{o:Nat->Obj}{u:List (Nat×Obj)}{w w':World}{v:V}{val:Value}(h:Comes C X φ φ' o u w w' v val)(b:Nat)(hb:ah X φ o w b):ah X φ' (ak o u) w' b:=by
 obtain⟨h1,h2,h3⟩:=hb;refine⟨Nat.lt_of_lt_of_le h1 h.size,h2,fun⟨id,e1,e2⟩=>?_⟩;rcases h.news id e1 with e3|e3
 ·omega
 ·exact h3 (e2▸e3)
theorem Comes.stays{C:Cx}{X:Nat->Prop}{φ φ':Nat->Addr}{o:Nat->Obj}{u:List (Nat×Obj)}{w w':World}{v:V}{val:Value}(h:Comes C X φ φ' o u w w' v val)(b:Nat)(hb:ah X φ o w b):w'.heap[b]?=w.heap[b]?:=h.frame b hb.1 fun⟨id,_,e1,e2⟩=>hb.2.2 ⟨id,e1,e2⟩
theorem Comes.keeps{C:Cx}{X:Nat->Prop}{φ φ':Nat->Addr}{o:Nat->Obj}{u:List (Nat×Obj)}{w w':World}{v:V}{val:Value}(h:Comes C X φ φ' o u w w' v val)(x:V)(z:Value)(hx:au φ o (ah X φ o w) w x z):au φ' (ak o u) (ah X φ' (ak o u) w') w' x z:=AD h.imm h.stays h.up x z hx
section
variable {C:Cx} {X:Nat→Prop} {φ:Nat→Addr} {o:Nat→Obj} {w:World}
theorem Comes.same{v:V}{val:Value}(hm:MRel C X φ o w)(hv:au φ o (ah X φ o w) w v val):Comes C X φ φ o [] w w v val:=⟨hm,hv,fun _=>Up.same fun _ _ h=>h,Nat.le_refl _,fun _ _ _=>rfl,fun _ _ _=>rfl,fun id h=>.inr ⟨id,h,rfl⟩,⟨rfl,rfl⟩⟩
theorem J0{imm:Nat->Prop}{x:V}{v:Value}(h:au φ o imm w x v):au φ o imm w (dx x) v:=by
 cases x<;>first|exact h|skip
 simp only[dx,au,aX,aC] at*
 simp[h]
theorem qsw{k:IntKind}{n:Int}(h:A9 k n=true):fJ k n:=by simpa[A9,fJ] using h
theorem QK{imm:Nat->Prop}(v:Value):au φ o imm w (DR v) v:=by
 unfold DR;split
 ·simp[au,aX,aC]
 ·simp[au,aX,aC]
 ·simp[au,aX,aC]
 ·rename_i k n;cases h:A9 k n
  ·simp[au]
  ·simp[au,aX,aC,qsw h]
 ·rename_i s;cases h:Nat.ble s.size 1000000
  ·simp[au]
  ·simp only[cond_true,au,aX,aC];refine⟨s,rfl,rfl,?_⟩;have:=zF h;unfold cj;omega
 all_goals simp[au]
theorem Rel.bU{nt:Fr}{st:St}{a:Act}(h:Rel C nt X φ st a w)(x:Operand):au φ st.obj (ah X φ st.obj w) w (bU C st.env x) (a.eval x):=by
 cases x with
 |tmp t=>exact J0 (h.env t)
 |const v=>exact QK v
 |global g=>
  simp only[Ev.bU,Act.eval];split
  ·rename_i e;exact h.fp _ _ _ e
  ·simp[au]
 |func f=>
  simp only[Ev.bU];cases h:Nat.blt f 1048576 with
  |false=>simp[au]
  |true=>exact⟨#[],(JY (zF h) #[]).symm,rfl⟩
end
def Pk.gives(p:Pk)(v:V)(u:List (Nat×Obj)):Prop:=match p with
 |.fail=>False
 |.lj v' u'=>v'=v/\u'=u
 |.dyn _ x out=>∃y,x=some y/\out y=(v,u)
@[simp] theorem J1{v:V}{u:List (Nat×Obj)}:Pk.fail.gives v u↔False:=Iff.rfl
@[simp] theorem df{v v':V}{u u':List (Nat×Obj)}:(Pk.now v u).gives v' u'↔v=v'/\u=u':=Iff.rfl
@[simp] theorem mN{α:Type}{x:Option α}{out:α->V×List (Nat×Obj)}{v:V}{u:List (Nat×Obj)}:(Pk.dyn α x out).gives v u↔∃y,x=some y/\out y=(v,u):=Iff.rfl
@[simp] theorem D0{t:Ty}{x:Option (den t)}{v:V}{u:List (Nat×Obj)}:(Pk.kf x).gives v u↔∃y,x=some y/\(V.d t y,[])=(v,u):=Iff.rfl
@[simp] theorem dC{b:Bool}{p:Pk}{v:V}{u:List (Nat×Obj)}:(Pk.when b p).gives v u↔b=true/\p.gives v u:=by cases b<;>simp[Pk.when]
section
variable {P:Program} {C:Cx} {X:Nat→Prop} {φ:Nat→Addr} {o:Nat→Obj} {w:World} {imm:Nat→Prop}
theorem nG{k:IntKind}{n:Int}{z:Value}(h:au φ o imm w (.d (.int k) n) z):z=.int k n/\fJ k n:=by simpa[au,aX,aC] using h
theorem oz{b:Bool}{z:Value}(h:au φ o imm w (.d .bool b) z):z=.bool b:=by simpa[au,aX,aC] using h
theorem ry{l:List Int}{z:Value}(h:au φ o imm w (.d .str l) z):∃s:ByteArray,z=.string s/\s.data.toList.map (fun b=>(b.toNat:Int))=l/\s.size<=cj:=by simp only[au,aX,aC] at h;obtain⟨s,h1,h2,h3⟩:=h;exact⟨s,by simpa using h1,h2,h3⟩
theorem J2{b:Nat}{z:Value}(h:au φ o imm w (.d .eD b) z):z=.float .f64 b:=by simpa[au,aX,aC] using h
theorem J3{b:Nat×Nat}{z:Value}(h:au φ o imm w (.d .eU b) z):z=.complex .f64 b.1 b.2:=by simpa[au,aX,aC] using h
theorem NZ{b:Nat}:au φ o imm w (.d .eD b) (.float .f64 b):=by simp[au,aX,aC]
theorem z04{b:Nat×Nat}:au φ o imm w (.d .eU b) (.complex .f64 b.1 b.2):=by simp[au,aX,aC]
theorem lH{k:IntKind}{n:Int}(h:fJ k n):au φ o imm w (.d (.int k) n) (.int k n):=by simpa[au,aX,aC] using h
theorem tJ{b:Bool}:au φ o imm w (.d .bool b) (.bool b):=by simp[au,aX,aC]
theorem J4{s:ByteArray}{l:List Int}(h:s.data.toList.map (fun b=>(b.toNat:Int))=l)(hl:s.size<=cj):au φ o imm w (.d .str l) (.string s):=by simp only[au,aX,aC];exact⟨s,rfl,h,hl⟩
theorem IC(k:IntKind)(n:Int):fJ k (k.wrap n):=by unfold fJ IntKind.wrap IntKind.min IntKind.max;cases k<;>simp[IntKind.bits,IntKind.signed]<;>(try split)<;>omega
def py(P:Program)(φ:Nat->Addr)(o:Nat->Obj)(imm:Nat->Prop)(w:World)(v:V)(s:Sem Value):Prop:=∃val,s.run P w=.ok val w/\au φ o imm w v val
theorem QL(k:IntKind):fJ k 0:=by unfold fJ IntKind.min IntKind.max;cases k<;>simp[IntKind.bits,IntKind.signed]
theorem z14{k:IntKind}{a b:Int}(h:fJ k a):fJ k (a.tmod b):=by
 have h1:(a.tmod b).natAbs<=a.natAbs:=by rw[Int.natAbs_tmod];exact Nat.mod_le _ _
 have hz:=QL k;unfold fJ at*
 rcases Int.le_total 0 a with h0|h0
 ·have:=Int.tmod_nonneg b h0;omega
 ·have:=Int.tmod_nonneg b (show 0<=-a by omega);rw[Int.neg_tmod] at this;omega
theorem qxh{op:BinOp}{k:IntKind}{a b:Int}{v:V}{u:List (Nat×Obj)}(ha:fJ k a)(h:(PZ lf op k a b).gives v u)(t:TypeId):u=[]/\py P φ o imm w v (binOp op t (.int k a) (.int k b)):=by
 cases op<;>simp only[PZ,df,D0,J1] at h
 case quo=>
  obtain⟨y,h1,h2⟩:=h;simp only[Prod.mk.injEq] at h2;obtain⟨rfl,rfl⟩:=h2;simp only[lf,wH] at h1;split at h1
  ·cases h1
  ·rename_i hb;simp only[zH] at h1;subst h1;exact⟨rfl,.int k _,by simp[binOp,Op.intDiv,hb,pure],lH (IC _ _)⟩
 case rem=>
  obtain⟨y,h1,h2⟩:=h;simp only[Prod.mk.injEq] at h2;obtain⟨rfl,rfl⟩:=h2;simp only[lf,fW] at h1;split at h1
  ·cases h1
  ·rename_i hb;simp only[zH] at h1;subst h1;exact⟨rfl,.int k _,by simp[binOp,Op.intDiv,hb,pure],lH (z14 ha)⟩
 all_goals
  obtain⟨rfl,rfl⟩:=h;refine⟨rfl,?_⟩
  first
  |exact⟨.int k _,by simp[binOp,Op.intArith,Op.intBits,lf,ar,dK,oo,pq,DM,lJ,jC,pure],lH (IC _ _)⟩
  |exact⟨.bool _,by simp[binOp,Op.intCmp,lf,aB,a8,af,av,pure,bne],tJ⟩
end
def bl(s:ByteArray):List Int:=s.data.toList.map fun b=>(b.toNat:Int)
theorem z05{a b:UInt8}(h:(a.toNat:Int)=(b.toNat:Int)):a=b:=by apply UInt8.toNat_inj.1;omega
theorem qfg:∀(x y:List UInt8),(x.map (fun b=>(b.toNat:Int))==y.map (fun b=>(b.toNat:Int)))=(x==y)
 |[],[]=>rfl
 |[],_::_=>rfl
 |_::_,[]=>rfl
 |a::x,b::y=>by
  have e:(((a.toNat:Nat):Int)==((b.toNat:Nat):Int))=(a==b):=by rw[Bool.eq_iff_iff];simp only[beq_iff_eq];exact⟨z05,fun h=>by rw[h]⟩
  have ih:=qfg x y;simp only[zM,List.cons_beq_cons,e,ih]
theorem qj3:∀(x y:List UInt8),strLt (x.map fun b=>(b.toNat:Int)) (y.map fun b=>(b.toNat:Int))=Op.bytesLess x y
 |[],[]=>rfl
 |[],_::_=>rfl
 |_::_,[]=>rfl
 |a::x,b::y=>by
  have e1:decide (((a.toNat:Nat):Int)<((b.toNat:Nat):Int))=decide (a<b):=by rw[decide_eq_decide,UInt8.lt_iff_toNat_lt];omega
  have e2:decide (((a.toNat:Nat):Int)=((b.toNat:Nat):Int))=(a==b):=by rw[Bool.eq_iff_iff];simp only[decide_eq_true_eq,beq_iff_eq];exact⟨z05,fun h=>by rw[h]⟩
  simp only[zM,strLt,Op.bytesLess,e1,e2,qj3 x y]
theorem QM(a b:ByteArray):aS (bl a) (bl b)=(a.toList==b.toList):=by rw[ByteArray.toList_eq,ByteArray.toList_eq];exact qfg _ _
theorem qxi(a b:ByteArray):strLt (bl a) (bl b)=Op.bytesLess a.toList b.toList:=by rw[ByteArray.toList_eq,ByteArray.toList_eq];exact qj3 _ _
theorem qsy(a:ByteArray):(bl a).length=a.size:=by unfold bl;rw[zC];rfl
theorem qsz(a b:ByteArray):bl (a++b)=bl a++bl b:=by unfold bl;rw[<-zA,ByteArray.data_append,Array.toList_append]
section
variable {P:Program} {φ:Nat→Addr} {o:Nat→Obj} {w:World} {imm:Nat→Prop}
theorem qxj{op:BinOp}{a b:ByteArray}{v:V}{u:List (Nat×Obj)}(h:(P0 lf op (bl a) (bl b)).gives v u)(t:TypeId):u=[]/\py P φ o imm w v (binOp op t (.string a) (.string b)):=by
 cases op<;>simp only[P0,df,mN,J1] at h
 case add=>
  obtain⟨y,h1,h2⟩:=h;simp only[Prod.mk.injEq] at h2;obtain⟨rfl,rfl⟩:=h2;simp only[lf,fit,aK,aa,qsy] at h1;split at h1
  ·rename_i hb;refine⟨rfl,.string (a++b),?_,?_⟩
   ·simp[binOp,Op.stringOp,pure,Sem.run,IntKind.max,IntKind.signed,IntKind.bits];omega
   ·refine J4 (show bl (a++b)=bl a++bl b from qsz a b) ?_;rw[ByteArray.size_append];unfold cj;omega
  ·cases h1
 all_goals
  obtain⟨rfl,rfl⟩:=h;refine⟨rfl,.bool _,?_,tJ⟩;simp[binOp,Op.stringOp,lf,av,aP,QM,qxi,pure]
end
section
variable {P:Program} {C:Cx} {φ:Nat→Addr} {o:Nat→Obj} {w:World} {imm:Nat→Prop}
theorem z3f{k:IntKind}{a:Int}(n:Nat)(h:fJ k a):fJ k (a.fdiv (2 ^ n)):=by
 have hp:(0:Int)<2 ^ n:=Int.pow_pos om;rw[Int.fdiv_eq_ediv_of_nonneg _ (Int.le_of_lt hp)];have hz:=QL k;unfold fJ at*
 rcases Int.le_total 0 a with h0|h0
 ·have h1:=Int.ediv_nonneg h0 (Int.le_of_lt hp);have h2:a / 2 ^ n<=a:=Int.ediv_le_self _ h0;omega
 ·have h1:a / 2 ^ n<=0:=Int.ediv_nonpos_of_nonpos_of_neg h0 hp;have h2:a<=a / 2 ^ n:=by rw[Int.le_ediv_iff_mul_le hp];have:a*2 ^ n<=a*1:=Int.mul_le_mul_of_nonpos_left h0 om;omega
  omega
theorem qo1{op:BinOp}(hc:op=.shl\/op=.shr){k k':IntKind}{a b:Int}{v:V}{u:List (Nat×Obj)}(ha:fJ k a)(h:(match op with|.shl=>Pk.kf (t:=.int k) (lf.oh k a b)|_=>Pk.kf (t:=.int k) (lf.oi k a b)).gives v u)(t:TypeId):u=[]/\py P φ o imm w v (binOp op t (.int k a) (.int k' b)):=by
 rcases hc with rfl|rfl<;>simp only[D0,Prod.mk.injEq,lf,oh,oi] at h<;>obtain⟨y,h1,rfl,rfl⟩:=h<;>split at h1
 ·cases h1
 ·rename_i hb;simp only[zH] at h1;subst h1;exact⟨rfl,.int k _,by simp[binOp,Op.shift,hb,pure],lH (IC _ _)⟩
 ·cases h1
 ·rename_i hb;simp only[zH] at h1;subst h1;exact⟨rfl,.int k _,by simp[binOp,Op.shift,hb,pure],lH (z3f _ ha)⟩
end
theorem J5{P:Program}{t:TypeId}{i:TypeInfo}(h:P.types.toList[t]?=some i):P.info? t=some i:=by
 rw[zG] at h;have ht:t<P.types.size:=by
  rcases Nat.lt_or_ge t P.types.size with h1|h1
  ·exact h1
  ·rw[zX h1] at h;cases h
 simp only[Tables.info?,ht,if_true];exact h
theorem kP{P:Program}{t:TypeId}{d:TypeDesc}(h:desc P t=some d):P.underlying t=some d:=by
 unfold desc at h;cases h1:P.types.toList[t]? with
 |none=>rw[h1] at h;cases h
 |some i=>
  rw[h1] at h;unfold Program.underlying;rw[J5 h1];obtain⟨d',_,_,_,_,_,_,_,_,_⟩:=i;cases d'<;>simp only at h ⊢<;>first|exact h|skip
  rename_i u;cases h2:P.types.toList[u]? with
  |none=>rw[h2] at h;cases h
  |some j=>rw[h2] at h;rw[J5 h2];exact h
theorem J6{k k':IntKind}(h:Nat.beq (rP k) (rP k')=true):k=k':=by cases k<;>cases k'<;>first|rfl|cases h
theorem ES:∀{a b:Ty},ot a b=true->a=b
 |.int k,b,h=>by cases b<;>simp only[ot] at h<;>first|exact congrArg Ty.int (J6 h)|cases h
 |.bool,b,h=>by cases b<;>simp only[ot] at h<;>first|rfl|cases h
 |.eD,b,h=>by cases b<;>simp only[ot] at h<;>first|rfl|cases h
 |.eU,b,h=>by cases b<;>simp only[ot] at h<;>first|rfl|cases h
 |.str,b,h=>by cases b<;>simp only[ot] at h<;>first|rfl|cases h
 |.unit,b,h=>by cases b<;>simp only[ot] at h<;>first|rfl|cases h
 |.sl e,b,h=>by cases b<;>simp only[ot] at h<;>first|exact congrArg Ty.sl (ES h)|cases h
 |.st e,b,h=>by cases b<;>simp only[ot] at h<;>first|exact congrArg Ty.st (ES h)|cases h
 |.ks e,b,h=>by cases b<;>simp only[ot] at h<;>first|exact congrArg Ty.ks (ES h)|cases h
 |.pair c d,b,h=>by cases b<;>simp only[ot,zd] at h<;>first|(rw[ES h.1,ES h.2])|cases h
 |.arr n e,b,h=>by cases b<;>simp only[ot,zd] at h<;>first|(rw[zg h.1,ES h.2])|cases h
theorem ET{T:Ty}{x:Option Ty}(h:ga T x=true):x=some T:=by
 cases x with
 |none=>cases h
 |some T'=>exact congrArg some (ES h)
theorem bR{C:Cx}{t:TypeId}{T:Ty}(h:C.is t T=true):C.ty t=some T:=ET h
def J7(f:List Value->Option (List Value)):Nat->List Value->Option (List Value)
 |0,cs=>some cs
 |n+1,cs=>match f cs with
  |some r=>J7 f n r
  |none=>none
def nd:Ty->List Value->Option (List Value)
 |.int k,.int k' n::r=>bif Nat.beq (rP k) (rP k')&&decide (n=0) then some r else none
 |.bool,.bool false::r=>some r
 |.eD,.float .f64 0::r=>some r
 |.eU,.complex .f64 0 0::r=>some r
 |.str,.string s::r=>bif Nat.beq s.size 0 then some r else none
 |.sl _,.slice none 0 0::r=>some r
 |.ks _,.slice none 0 0::r=>some r
 |.unit,cs=>some cs
 |.pair a b,cs=>match nd a cs with
  |some r=>nd b r
  |none=>none
 |.st p,cs=>nd p cs
 |.arr n e,cs=>J7 (nd e) n cs
 |_,_=>none
theorem qfh{α:Type}{f:List Value->Option (List Value)}{g:α->List Value->Prop}{z:α}(hf:∀cs r,f cs=some r->∃c,cs=c++r/\g z c):∀(n:Nat) (cs r:List Value),J7 f n cs=some r->∃c,cs=c++r/\bf g (List.replicate n z) c
 |0,cs,r,h=>by simp only[J7,zH] at h;subst h;exact⟨[],rfl,rfl⟩
 |n+1,cs,r,h=>by
  simp only[J7] at h;split at h
  ·rename_i r1 h1;obtain⟨c,e1,e2⟩:=hf _ _ h1;obtain⟨d,e3,e4⟩:=qfh hf n _ _ h;exact⟨c++d,by rw[e1,e3,zD],c,d,rfl,e2,e4⟩
  ·cases h
theorem qm1(imm:Nat->Prop)(w:World)(T:Ty):∀(cs r:List Value),nd T cs=some r->∃c,cs=c++r/\aC imm w T (zero T) c:=by
 induction T with
 |int k=>
  intro cs r h;cases cs with
  |nil=>cases h
  |cons v cs=>
   cases v<;>(try simp only[nd] at h)<;>try (cases h;done)
   rename_i k' n;cases hb:(Nat.beq (rP k) (rP k')&&decide (n=0)) with
   |false=>rw[hb] at h;cases h
   |true=>rw[hb] at h;simp only[zd,decide_eq_true_eq] at hb;simp only[cond_true,zH] at h;obtain⟨h1,rfl⟩:=hb;have:=J6 h1;subst this h;exact⟨[_],rfl,rfl,QL k⟩
 |bool=>
  intro cs r h;cases cs with
  |nil=>cases h
  |cons v cs=>
   cases v<;>(try simp only[nd] at h)<;>try (cases h;done)
   rename_i b;cases b
   ·simp only[nd,zH] at h;subst h;exact⟨[_],rfl,rfl⟩
   ·cases h
 |eD=>
  intro cs r h;cases cs with
  |nil=>cases h
  |cons v cs=>
   cases v<;>(try simp only[nd] at h)<;>try (cases h;done)
   rename_i k b;cases k<;>(try simp only[nd] at h)<;>try (cases h;done)
   cases b<;>(try simp only[nd] at h)<;>try (cases h;done)
   injection h with h;subst h;exact⟨[_],rfl,rfl⟩
 |eU=>
  intro cs r h;cases cs with
  |nil=>cases h
  |cons v cs=>
   cases v<;>(try simp only[nd] at h)<;>try (cases h;done)
   rename_i k a b;cases k<;>(try simp only[nd] at h)<;>try (cases h;done)
   cases a<;>(try simp only[nd] at h)<;>try (cases h;done)
   cases b<;>(try simp only[nd] at h)<;>try (cases h;done)
   injection h with h;subst h;exact⟨[_],rfl,rfl⟩
 |str=>
  intro cs r h;cases cs with
  |nil=>cases h
  |cons v cs=>
   cases v<;>(try simp only[nd] at h)<;>try (cases h;done)
   rename_i s;cases hb:Nat.beq s.size 0 with
   |false=>rw[hb] at h;cases h
   |true=>rw[hb] at h;simp only[cond_true,zH] at h;subst h;have hz:=zg hb;refine⟨[_],rfl,s,rfl,?_,by omega⟩;have:s.data.toList=[]:=zQ (by simpa using hz);rw[this];rfl
 |sl e _=>
  intro cs r h;cases cs with
  |nil=>cases h
  |cons v cs=>
   cases v<;>(try simp only[nd] at h)<;>try (cases h;done)
   rename_i a n m;cases a<;>cases n<;>cases m<;>try (cases h;done)
   have h:=zI h;subst h;exact⟨[_],rfl,_,rfl,Nat.zero_le _,.inl ⟨rfl,rfl,rfl⟩⟩
 |ks e _=>
  intro cs r h;cases cs with
  |nil=>cases h
  |cons v cs=>
   cases v<;>(try simp only[nd] at h)<;>try (cases h;done)
   rename_i a n m;cases a<;>cases n<;>cases m<;>try (cases h;done)
   have h:=zI h;subst h;exact⟨[_],rfl,1,_,rfl,Nat.zero_le _,.inl ⟨rfl,rfl,rfl⟩⟩
 |unit=>intro cs r h;simp only[nd,zH] at h;subst h;exact⟨[],rfl,rfl⟩
 |pair a b nf jF=>
  intro cs r h;simp only[nd] at h;split at h
  ·rename_i r1 h1;obtain⟨c,e1,e2⟩:=nf _ _ h1;obtain⟨d,e3,e4⟩:=jF _ _ h;exact⟨c++d,by rw[e1,e3,zD],c,d,rfl,e2,e4⟩
  ·cases h
 |st p ih=>intro cs r h;exact ih _ _ h
 |arr n e ih=>intro cs r h;obtain⟨c,e1,e2⟩:=qfh ih n _ _ h;exact⟨c,e1,by simp[zero],e2⟩
def J8:Ty->Ty
 |.ks p=>.sl (mH p)
 |t=>t
def rz(C:Cx):List Field->Ty->Nat->Bool
 |[],.unit,_=>true
 |[f],p,off=>C.is f.type (J8 p)&&Nat.beq f.offset off
 |f::g::r,.pair a b,off=>C.is f.type a&&Nat.beq f.offset off&&rz C (g::r) b (off+aM a)
 |_,_,_=>false
def ng(C:Cx):TypeDesc->Ty->Bool
 |.int k,.int k'=>Nat.beq (rP k) (rP k')
 |.bool,.bool=>true
 |.float .f64,.eD=>true
 |.complex .f64,.eU=>true
 |.string,.str=>true
 |.slice e,.sl e'=>C.is e e'
 |.array n e,.arr n' e'=>Nat.beq n n'&&C.is e e'
 |.struct fs,.st p=>rz C fs.toList p 0
 |_,_=>false
def jG:Ty->Bool
 |.st _=>true|.arr .. =>true|_=>false
def EU:Value->Bool
 |.agg _=>true|_=>false
def QN(C:Cx)(t:TypeId)(T:Ty):Bool:=
 match C.P.types.toList[t]?,desc C.P t with
 |some i,some d=>Nat.beq i.size (aM T)&&Nat.ble i.bytes 65536&&ng C d T&&
  (match i.zero with
   |some z=>(EU z==jG T)&&(match nd T z.cells.toList with|some []=>true|_=>false)
   |none=>false)
 |_,_=>false
def ID(C:Cx):List (Nat×Ty)->Bool
 |[]=>true
 |p::r=>QN C p.1 p.2&&ID C r
structure nh (C:Cx) (t:TypeId) (T:Ty):Prop where
 info:∃i z,C.P.info? t=some i/\C.P.types.toList[t]?=some i/\i.size=aM T/\i.bytes<=65536/\i.zero=some z/\EU z=jG T/\∀imm w,aC imm w T (zero T) z.cells.toList
 desc:∃d,desc C.P t=some d/\C.P.underlying t=some d/\ng C d T=true
theorem qq2{C:Cx}{t:TypeId}{T:Ty}(h:QN C t T=true):nh C t T:=by
 unfold QN at h;split at h
 ·rename_i i d h1 h2;simp only[zd] at h;obtain⟨⟨⟨h3,h4⟩,h5⟩,h6⟩:=h;split at h6
  ·rename_i z hz;simp only[zd] at h6;obtain⟨h7,h8⟩:=h6;refine⟨⟨i,z,J5 h1,h1,zg h3,zF h4,hz,?_,?_⟩,d,h2,kP h2,h5⟩
   ·exact eq_of_beq h7
   ·intro imm w;split at h8
    ·rename_i h9;obtain⟨c,e1,e2⟩:=qm1 imm w T _ _ h9;rw[e1,zE];exact e2
    ·cases h8
  ·cases h6
 ·cases h
theorem QO{C:Cx}:∀{l:List (Nat×Ty)},ID C l=true->∀t T,A8 l t=some T->nh C t T
 |[],_,_,_,h=>by cases h
 |(a,S)::r,hc,t,T,h=>by
  simp only[ID,zd] at hc;simp only[A8] at h;cases hb:Nat.beq a t with
  |true=>rw[hb] at h;simp only[cond_true,zH] at h;have:=zg hb;subst this h;exact qq2 hc.1
  |false=>rw[hb] at h;exact QO hc.2 t T h
structure cf (C:Cx):Prop where
 dP:∀t T,C.ty t=some T->nh C t T
section
variable {P:Program} {C:Cx} {X:Nat→Prop} {φ:Nat→Addr} {o:Nat→Obj} {w:World} {imm:Nat→Prop}
theorem D1{e:Ty}{s:Sl (den e)}{z:Value}(h:au φ o imm w (.d (.sl e) s) z):s.l.length<=cj/\((s.nil=true/\s.l=[]/\z=.slice none 0 0)\/(s.nil=false/\∃a cap ec,z=.slice (some a) s.l.length cap/\(cap≠0->a.spot=none)/\(s.l≠[]->imm a.block)/\bf (aC imm w e) s.l ec/\kB w a ec/\s.l.length<=cap)):=by
 simp only[au,aX,aC] at h;obtain⟨v,h1,h2,h3⟩:=h;have:z=v:=by simpa using h1
 subst this;exact⟨h2,h3⟩
theorem qfj{x:V}{z:Value}{t:Ty}{s:Sl (den t)}(h:au φ o imm w x z)(he:Aw lf o x=some ⟨t,s⟩)(hl:∀id,o3 φ o imm w id (o id)):(s.nil=true/\s.l=[]/\z=.slice none 0 0)\/(s.nil=false/\∃a cap,z=.slice (some a) s.l.length cap):=by
 cases x<;>simp only[Aw] at he<;>try (cases he;done)
 ·rename_i id ver;have ho:=hl id;unfold au at h;split at he
  ·rename_i t' aE fr s' e1;rw[e1] at h ho;cases hb:Nat.beq ver aE with
   |false=>rw[hb] at he;cases he
   |true=>
    rw[hb] at he;simp only[cond_true,zH,Sigma.mk.injEq] at he;obtain⟨rfl,he⟩:=he;have he:=eq_of_heq he;subst he;have h:=h.2 (zg hb);rcases h with ⟨h1,h2⟩|⟨h1,cap,h2,h3,h4⟩
    ·exact .inl ⟨h1,ho.2.1 h1,h2⟩
    ·exact .inr ⟨h1,_,cap,h2⟩
  ·cases he
 ·rename_i id ver n cp;have ho:=hl id;unfold au at h;split at he
  ·rename_i t' aE fr s' e1;rw[e1] at h ho;cases hb:Nat.beq ver aE with
   |false=>rw[hb] at he;cases he
   |true=>
    rw[hb] at he;simp only[cond_true,zH,Sigma.mk.injEq] at he;obtain⟨rfl,he⟩:=he;have he:=eq_of_heq he;subst he;obtain⟨h0,h,_⟩:=h.2 (zg hb);rcases h with ⟨h1,h2⟩|⟨h1,cap,h2,h3,h4⟩
    ·exact .inl ⟨h1,by simp[lf,aN,ho.2.1 h1],h2⟩
    ·have e2:(lf.aN s'.l n).length=n:=by simp[lf,aN,Nat.min_eq_left h0]
     exact .inr ⟨h1,bare (φ id),cap,by rw[h2];exact congrArg (fun k=>Value.slice (some (bare (φ id))) k cap) e2.symm⟩
  ·cases he
 ·rename_i id ver lo;have ho:=hl id;unfold au at h;split at he
  ·rename_i t' aE fr s' e1;rw[e1] at h ho;cases hb:Nat.beq ver aE with
   |false=>rw[hb] at he;cases he
   |true=>
    rw[hb] at he;simp only[cond_true,zH,Sigma.mk.injEq] at he;obtain⟨rfl,he⟩:=he;have he:=eq_of_heq he;subst he;obtain⟨k,rfl,hk,h⟩:=h.2 (zg hb);rcases h with ⟨h1,h2⟩|⟨h1,cap,h2,h3⟩
    ·exact .inl ⟨h1,by simp[lf,cJ,ho.2.1 h1],h2⟩
    ·have e2:(lf.cJ s'.l (k:Int)).length=s'.l.length-k:=by simp[lf,cJ]
     exact .inr ⟨h1,_,cap,by rw[h2];exact congrArg (fun j=>Value.slice _ j cap) e2.symm⟩
  ·cases he
end
def qj5:Value->Bool
 |.nilIface=>false|.agg _=>false|_=>true
section
variable {P:Program} {C:Cx} {X:Nat→Prop} {φ:Nat→Addr} {o:Nat→Obj} {w:World} {imm:Nat→Prop}
theorem qm2{op:BinOp}{t:TypeId}{x y:Operand}{a b:Value}(h:qj5 a=true):(eqGuard op t x y a b).run P w=.ok () w:=by cases a<;>first|(cases h;done)|(cases op<;>cases b<;>simp[eqGuard])
theorem z16{op:BinOp}{t:TypeId}{x y:Value}{b:Bool}{v:V}{u:List (Nat×Obj)}(h:(iR lf op b).gives v u)(he:(Op.equal t x y).run P w=.ok b w)(hi:∀op,op=.eql\/op=.neq->binOp op t x y=(match op with|.eql=>(do pure (.bool (<-Op.equal t x y)))|_=>(do pure (.bool (!(<-Op.equal t x y)))))):u=[]/\py P φ o imm w v (binOp op t x y):=by
 cases op<;>simp only[iR,df,J1] at h
 ·obtain⟨rfl,rfl⟩:=h;refine⟨rfl,.bool b,?_,tJ⟩;rw[hi _ (.inl rfl)];simp[he]
 ·obtain⟨rfl,rfl⟩:=h;refine⟨rfl,.bool (!b),?_,tJ⟩;rw[hi _ (.inr rfl)];simp[he]
theorem IE{t:TypeId}{n:Nat}(h:Nat.beq (uX C t) n=true)(hn:n<5):∃d,C.P.underlying t=some d/\(match n,d with|0,.bool=>True|1,.slice _=>True|2,.func .. =>True|3,.pointer _=>True|4,.map .. =>True|_,_=>False):=by
 have h:=zg h;unfold uX at h;cases hd:desc C.P t with
 |none=>rw[hd] at h;simp at h;omega
 |some d=>rw[hd] at h;exact⟨d,kP hd,by cases d<;>simp only at h<;>subst h<;>first|trivial|omega⟩
theorem qq3(d:Nat){t e:TypeId}(ht:P.underlying t=some (.slice e))(b:Option Addr)(n m:Nat):(Op.equalIn (d+1) t (.slice b n m) (.slice none 0 0)).run P w=.ok b.isNone w:=by cases b<;>simp[Op.equalIn,run_underlying ht]
theorem qj6(d:Nat){t:TypeId}{ps rs:Array TypeId}{v:Bool}(ht:P.underlying t=some (.func ps rs v))(f:Fn)(a c:Array Value):(Op.equalIn (d+1) t (.func f a c) .nilFunc).run P w=.ok false w:=by simp[Op.equalIn,run_underlying ht]
theorem qbu(d:Nat){t:TypeId}{ps rs:Array TypeId}{v:Bool}(ht:P.underlying t=some (.func ps rs v)):(Op.equalIn (d+1) t .nilFunc .nilFunc).run P w=.ok true w:=by simp[Op.equalIn,run_underlying ht]
theorem qxk(d:Nat){t e:TypeId}(ht:P.underlying t=some (.pointer e))(a:Option Addr):(Op.equalIn (d+1) t (.pointer a) (.pointer none)).run P w=.ok a.isNone w:=by cases a<;>simp[Op.equalIn,run_underlying ht]
theorem EV{t:TypeId}{a b:Value}{r:Bool}(h:(Op.equalIn (9999+1) t a b).run P w=.ok r w):(Op.equal t a b).run P w=.ok r w:=h
theorem QP{x:V}{z:Value}(hx:au φ o imm w x z)(h:sure o x=true):∃a,z=.pointer (some a):=by
 cases x<;>simp only[sure] at h<;>try (cases h;done)
 ·rename_i id off;unfold au at hx;cases e:o id<;>rw[e] at h hx<;>simp only at h hx<;>try (cases h;done)
  ·exact⟨_,hx⟩
  ·exact⟨_,hx (zg h).symm⟩
 ·obtain⟨a,cs,h1,_⟩:=hx;exact⟨a,h1⟩
theorem pz{op:BinOp}{t:TypeId}{x y:Value}{b:Bool}{v:V}{u:List (Nat×Obj)}(h:(iR lf op b).gives v u)(he:(Op.equal t x y).run P w=.ok b w)(hi:(∀op:BinOp,op=.eql->binOp op t x y=(do pure (.bool (<-Op.equal t x y))))/\(∀op:BinOp,op=.neq->binOp op t x y=(do pure (.bool (!(<-Op.equal t x y)))))):u=[]/\py P φ o imm w v (binOp op t x y):=
 z16 h he fun op ho=>by
  rcases ho with rfl|rfl
  ·exact hi.1 _ rfl
  ·exact hi.2 _ rfl
theorem qxl{op:BinOp}{a b:Nat}{v:V}{u:List (Nat×Obj)}(h:(P1 lf op a b).gives v u)(t:TypeId):u=[]/\py P φ o imm w v (binOp op t (.float .f64 a) (.float .f64 b)):=by
 cases op<;>simp only[P1,df,D0,J1] at h
 ·obtain⟨y,h1,h2⟩:=h;simp only[Prod.mk.injEq] at h2;obtain⟨rfl,rfl⟩:=h2;have h1:Ieee.double.add a b=some y:=h1;exact⟨rfl,.float .f64 y,by simp[binOp,Op.floatArith,FloatKind.format,h1],NZ⟩
 ·obtain⟨rfl,rfl⟩:=h;exact⟨rfl,.bool _,by simp[binOp,Op.floatCmp,FloatKind.format,lf,Jv],tJ⟩
theorem qxm{op:BinOp}{a b:Nat×Nat}{v:V}{u:List (Nat×Obj)}(h:(P2 lf op a b).gives v u)(t:TypeId):u=[]/\py P φ o imm w v (binOp op t (.complex .f64 a.1 a.2) (.complex .f64 b.1 b.2)):=by
 cases op<;>simp only[P2,D0,J1] at h
 ·obtain⟨y,h1,h2⟩:=h;simp only[Prod.mk.injEq] at h2;obtain⟨rfl,rfl⟩:=h2;cases hx:Ieee.double.add a.1 b.1 with
  |none=>have h1:ag (Ieee.double.add a.1 b.1) (fun x=>ag (Ieee.double.add a.2 b.2) fun y=>some (x,y))=some y:=h1;rw[hx] at h1;cases h1
  |some x=>
   cases hz:Ieee.double.add a.2 b.2 with
   |none=>have h1:ag (Ieee.double.add a.1 b.1) (fun x=>ag (Ieee.double.add a.2 b.2) fun y=>some (x,y))=some y:=h1;rw[hx,hz] at h1;cases h1
   |some z=>have h1:ag (Ieee.double.add a.1 b.1) (fun x=>ag (Ieee.double.add a.2 b.2) fun y=>some (x,y))=some y:=h1;rw[hx,hz] at h1;injection h1 with h1;subst h1;exact⟨rfl,.complex .f64 x z,by simp[binOp,Op.complexOp,Op.Complex.arith,Op.floatArith,FloatKind.format,hx,hz],z04⟩
theorem qxn{op:BinOp}{t:TypeId}{x y:V}{zx zy:Value}{v:V}{u:List (Nat×Obj)}(hl:∀id,o3 φ o imm w id (o id))(hx:au φ o imm w x zx)(hy:au φ o imm w y zy)(hj:∀(t:TypeId) (p:Ty) (a b:den p) (xs ys:Array Value),bH t C.eqs=true->C.ty t=some (.st p)->aC imm w p a xs.toList->aC imm w p b ys.toList->(Op.equal t (.agg xs) (.agg ys)).run C.P w=.ok (fo lf p a b) w)(h:(Im lf C o op t x y).gives v u):u=[]/\py C.P φ o imm w v (binOp op t zx zy):=by
 have hc:∀(s:Bool) (zx:Value),(Nat.beq (uX C t) 1=true/\(iR lf op s).gives v u)->zy=.slice none 0 0->(∃b n m,zx=.slice b n m/\b.isNone=s)->u=[]/\py C.P φ o imm w v (binOp op t zx zy):=by
  rintro s zx ⟨h1,h2⟩ rfl ⟨b,n,m,rfl,rfl⟩;obtain⟨d,hd,hk⟩:=IE h1 om;cases d<;>try exact False.elim hk
  exact pz h2 (EV (qq3 _ hd _ _ _)) ⟨by rintro _ rfl;rfl,by rintro _ rfl;rfl⟩
 have hf:∀(zx:Value) (s:Bool),Nat.beq (uX C t) 3=true->(iR lf op s).gives v u->zy=.pointer none->(∃a,zx=.pointer a/\a.isNone=s)->u=[]/\py C.P φ o imm w v (binOp op t zx zy):=by
  rintro zx s h1 h2 rfl ⟨a,rfl,rfl⟩;obtain⟨d,hd,hk⟩:=IE h1 om;cases d<;>try exact False.elim hk
  refine pz h2 (EV (qxk _ hd _)) ⟨by rintro _ rfl;rfl,by rintro _ rfl;rfl⟩
 unfold Im at h;split at h
 ·
  rename_i k a k' b;obtain⟨rfl,ha⟩:=nG hx;obtain⟨rfl,hb⟩:=nG hy;split at h
  ·exact qo1 (.inl rfl) ha h t
  ·exact qo1 (.inr rfl) ha h t
  ·split at h
   ·rename_i e _;subst e;exact qxh ha h t
   ·cases h
 ·obtain⟨s,rfl,rfl,_⟩:=ry hx;obtain⟨s',rfl,rfl,_⟩:=ry hy;exact qxj h t
 ·have e1:=J2 hx;have e2:=J2 hy;subst e1 e2;exact qxl h t
 ·have e1:=J3 hx;have e2:=J3 hy;subst e1 e2;exact qxm h t
 ·have e1:=oz hx;have e2:=oz hy;subst e1 e2;rw[dC] at h;obtain⟨d,hd,hk⟩:=IE h.1 om;cases d<;>try exact False.elim hk
  exact pz h.2 (EV (run_equalIn_bool _ _ _ _ _ hd)) ⟨by rintro _ rfl;rfl,by rintro _ rfl;rfl⟩
 ·rename_i p a p' b;split at h
  ·rename_i b' hb;rw[dC,zd] at h;unfold fZ at hb;split at hb
   ·rename_i hp _;subst hp;simp only[zH] at hb;subst hb;obtain⟨xs,rfl,hm⟩:=hx;obtain⟨ys,rfl,hn⟩:=hy;exact pz h.2 (hj t p' a b xs ys h.1.1 (bR h.1.2) hm hn) ⟨by rintro _ rfl;rfl,by rintro _ rfl;rfl⟩
   ·cases hb
  ·cases h
 ·rename_i e s;rw[dC] at h;refine hc _ _ h hy ?_;obtain⟨_,h2⟩:=D1 hx;rcases h2 with ⟨h3,_,rfl⟩|⟨h3,a,cap,ec,rfl,_⟩
  ·exact⟨_,_,_,rfl,by rw[h3];rfl⟩
  ·exact⟨_,_,_,rfl,by rw[h3];rfl⟩
 ·rw[dC] at h;exact hc _ _ h hy ⟨_,_,_,hx,rfl⟩
 ·rename_i f l;rw[dC] at h;obtain⟨c,rfl,_⟩:=hx;have e2:zy=.nilFunc:=hy;subst e2;obtain⟨d,hd,hk⟩:=IE h.1 om;cases d<;>try exact False.elim hk
  exact pz h.2 (EV (qj6 _ hd _ _ _)) ⟨by rintro _ rfl;rfl,by rintro _ rfl;rfl⟩
 ·rw[dC] at h;have e1:zx=.nilFunc:=hx;have e2:zy=.nilFunc:=hy;subst e1 e2;obtain⟨d,hd,hk⟩:=IE h.1 om;cases d<;>try exact False.elim hk
  exact pz h.2 (EV (qbu _ hd)) ⟨by rintro _ rfl;rfl,by rintro _ rfl;rfl⟩
 ·rename_i a k n;rw[dC] at h;have e2:zy=.nilFunc:=hy;subst e2;have hr:vf imm w a k n zx:=hx;have hg:(Int.ofNat (oq a 0))=((a.length:Nat):Int):=by rw[QI,zL];rfl
  obtain⟨d,hd,hk⟩:=IE h.1 om;cases d<;>try exact False.elim hk
  rcases NY a hr with ⟨rfl,e⟩|⟨f,c,rfl,e⟩
  ·have hb:lf.e k (Int.ofNat (oq a 0))=true:=by rw[hg,e];show(((a.length:Nat):Int)==_)=true;simp
   rw[hb] at h;exact pz h.2 (EV (qbu _ hd)) ⟨by rintro _ rfl;rfl,by rintro _ rfl;rfl⟩
  ·have hb:lf.e k (Int.ofNat (oq a 0))=false:=by rw[hg];show(k==_)=false;simp[e]
   rw[hb] at h;exact pz h.2 (EV (qj6 _ hd _ _ _)) ⟨by rintro _ rfl;rfl,by rintro _ rfl;rfl⟩
 ·rw[dC] at h;exact hf _ _ h.1 h.2 hy ⟨none,hx,rfl⟩
 ·rw[dC,zd] at h;obtain⟨a,ha⟩:=QP hx h.1.2;exact hf _ _ h.1.1 h.2 hy ⟨some a,ha,rfl⟩
 ·split at h
  ·rename_i e s he;rw[dC] at h;refine hc _ _ h hy ?_;rcases qfj hx he hl with ⟨h3,_,rfl⟩|⟨h3,a,cap,rfl⟩
   ·exact⟨_,_,_,rfl,by rw[h3];rfl⟩
   ·exact⟨_,_,_,rfl,by rw[h3];rfl⟩
  ·cases h
 ·cases h
end
end Ev