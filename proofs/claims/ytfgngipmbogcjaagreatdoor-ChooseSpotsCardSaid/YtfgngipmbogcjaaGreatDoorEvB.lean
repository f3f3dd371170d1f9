/- The evaluator: code; what data is in memory; numbers, strings, types. No statement of its own about the program. -/
import Derived.Test.YtfgngipmbogcjaaGreatDoorEvA
import GoSem.Machine.Frame
import GoSem.Core.Sem
import Derived.Orders
import Derived.Laws.Strings
import Derived.Laws.StructEq
import Derived.Laws.Slices
namespace Ev
open Go
def bit(t:Nat):Nat:=1<<<t
def OK:Operand->Nat
 |.tmp t=>bit t
 |_=>0
def KS:List Operand->Nat
 |[]=>0
 |x::r=>OK x|||KS r
def z80(a b:Nat):Nat:=(a|||b) ^^^ b
def z6h(o:Oper):Nat:=KS o.op.operands.toList
def RA:List Oper->Nat->Nat
 |[],m=>m
 |o::r,m=>let m':=RA r m
  (match o.dst with|some d=>z80 m' (bit d)|none=>m')|||z6h o
def look(i:Nat):List (Nat×Nat)->Nat
 |[]=>0
 |(a,b)::r=>bif Nat.beq a i then b else look i r
def lP{β:Type}(n:Nat)(k:Nat->β):β:=Nat.rec (k 0) (fun m _=>k (Nat.succ m)) n
inductive AC where
 |skip
 |region (id:Nat) (ops:Array Oper) (draw:Bool)
 |seq (a b:AC)
 |cond (c:Operand) (m:List Nat) (a b:AC)
 |block (id:Nat) (m:List Nat) (b:AC)
 |loop (m:List Nat) (b:AC)
 |exit (id:Nat)
 |goto (l:Nat)
 |ret
 |scope (b:AC)
 |jump (l:Nat) (m:List Nat) (p r:AC)
 |bad
def EZ(l:Nat):Code->Bool
 |.seq a b=>EZ l a||EZ l b
 |.cond _ a b=>EZ l a||EZ l b
 |.block _ b=>EZ l b
 |.loop b=>EZ l b
 |.scope b=>EZ l b
 |.goto j=>Nat.beq j l
 |_=>false
def OL(whole:Code):Code->Option Nat
 |.seq a b=>match OL whole a with
  |some l=>some l
  |none=>OL whole b
 |.label l=>bif EZ l whole then some l else none
 |_=>none
def qp(nt:Nat):List Oper->Bool
 |[]=>true
 |o::r=>(match o.dst with|some d=>Nat.blt d nt|none=>true)&&qp nt r
def wv{β:Type}(m:Nat):Nat->List Nat->(List Nat->β)->β
 |0,acc,k=>k acc
 |n+1,acc,k=>bif Nat.testBit m n then wv m n (n::acc) k else wv m n acc k
def ahead(l:Nat):Code->Option Code
 |.seq a b=>match ahead l a with
  |some c=>some c
  |none=>match ahead l b with
   |some c=>some (.seq a c)
   |none=>none
 |.label j=>bif Nat.beq j l then some .skip else none
 |_=>none
def my{β:Type}(rt nt:Nat):Nat->(c:Code)->(ex gt:List (Nat×Nat))->Nat->(Nat->AC->β)->β
 |0,_,_,_,m,k=>k m .bad
 |_+1,.skip,_,_,m,k=>k m .skip
 |_+1,.label _,_,_,m,k=>k m .skip
 |_+1,.region id ops d,_,_,m,k=>bif qp nt ops.toList then lP (RA ops.toList m) fun m'=>k m' (.region id ops d) else k m .bad
 |n+1,.seq a b,ex,gt,m,k=>my rt nt n b ex gt m fun mb b'=>my rt nt n a ex gt mb fun ma a'=>k ma (.seq a' b')
 |n+1,.cond c a b,ex,gt,m,k=>my rt nt n a ex gt m fun ma a'=>my rt nt n b ex gt m fun mb b'=>lP (OK c|||ma|||mb) fun m'=>wv m nt [] fun ts=>k m' (.cond c ts a' b')
 |n+1,.block id b,ex,gt,m,k=>my rt nt n b ((id,m)::ex) gt m fun mb b'=>wv m nt [] fun ts=>k mb (.block id ts b')
 |n+1,.loop b,ex,gt,_,k=>my rt nt n b ex gt 0 fun m1 _=>my rt nt n b ex gt m1 fun m2 b'=>wv m2 nt [] fun ts=>k m2 (.loop ts b')
 |_+1,.exit id,ex,_,_,k=>k (look id ex) (.exit id)
 |_+1,.goto l,_,gt,_,k=>k (look l gt) (.goto l)
 |_+1,.ret,_,_,_,k=>k rt .ret
 |n+1,.scope b,ex,gt,m,k=>match OL b b with
  |none=>my rt nt n b ex gt m fun mb b'=>k mb (.scope b')
  |some l=>match ahead l b,findLabel b l with
   |some p,some r=>my rt nt n r ex ((l,0)::gt) m fun m1 _=>my rt nt n r ex ((l,m1)::gt) m fun m2 r'=>my rt nt n p ex gt m2 fun mp p'=>wv m2 nt [] fun ts=>k mp (.jump l ts p' r')
   |_,_=>k m .bad
 |_+1,_,_,_,m,k=>k m .bad
def BN(id:Nat):AC->Bool
 |.seq a b=>BN id a||BN id b
 |.cond _ _ a b=>BN id a||BN id b
 |.block _ _ b=>BN id b
 |.loop _ b=>BN id b
 |.scope b=>BN id b
 |.jump _ _ p r=>BN id p||BN id r
 |.exit j=>Nat.beq j id
 |_=>false
def z2r:List Oper->Bool
 |[]=>false
 |o::r=>(match o.op with|.panic _=>true|_=>false)||z2r r
def uV:AC->Bool
 |.region _ ops _=>!z2r ops.toList
 |.seq a b=>uV a&&uV b
 |.cond _ _ a b=>uV a||uV b
 |.block id _ b=>uV b||BN id b
 |.loop _ _=>false
 |.scope b=>uV b
 |.jump _ _ p r=>uV p&&uV r
 |.exit _=>false
 |.ret=>false
 |.goto _=>false
 |.bad=>false
 |_=>true
def ways(id:Nat):AC->Nat
 |.seq a b=>ways id a+ways id b
 |.cond _ _ a b=>ways id a+ways id b
 |.block _ _ b=>ways id b
 |.loop _ b=>ways id b
 |.scope b=>ways id b
 |.jump _ _ p r=>ways id p+ways id r
 |.exit j=>bif Nat.beq j id then 1 else 0
 |_=>0
def z2s(f:Nat):List mZ->Bool
 |[]=>false
 |s::r=>(Nat.beq s.f f&&iK s.outs)||z2s f r
def KT(S:List mZ)(o:Oper):Bool:=match o.op with
 |.panic _=>true
 |.call c=>match c.callee with
  |.value (.func f)=>z2s f S
  |_=>false
 |_=>false
def wx(S:List mZ):AC->Bool
 |.region _ ops _=>ops.toList.any (KT S)
 |.seq a b=>wx S a||wx S b
 |.cond _ _ a b=>wx S a||wx S b
 |.block _ _ b=>wx S b
 |.loop _ b=>wx S b
 |.scope b=>wx S b
 |.jump _ _ p r=>wx S p||wx S r
 |.exit _=>true
 |.ret=>true
 |.goto _=>true
 |_=>false
inductive Ex where
 |normal|exit (id:Nat)|goto (l:Nat)|ret|panic
section
variable (L:Lf) (C:Cx) (R:gF C.sigs)
def KU:List Nat->List V->Nat->V
 |t::ts,v::vs=>cV (KU ts vs) t v
 |_,_=>fun _=>.bP
def F4(d:Nat):List Oper->Option (List Oper×Oper×List Oper)
 |[]=>none
 |o::r=>match o.op with
  |.pick (.tmp c) _ _=>bif Nat.beq c d then some ([],o,r) else(F4 d r).map fun p=>(o::p.1,p.2.1,p.2.2)
  |_=>(F4 d r).map fun p=>(o::p.1,p.2.1,p.2.2)
def bF(st:St)(d:Option Nat)(v:V):St:=match d with
 |some d=>{st with env:=cV st.env d v}
 |none=>st
def yd(st:St):List Oper->St
 |[]=>st
 |o::r=>yd (bF st o.dst .bP) r
def gO(rg i:Nat):Nat:=16*(1+256*rg+i)
mutual
def nZ{β:Type}:V->(V->β)->β
 |.d t x,k=>k (.d t x)
 |.cR id ver,k=>lP id fun id=>lP ver fun ver=>k (.cR id ver)
 |.pre id ver n c,k=>lP id fun id=>lP ver fun ver=>k (.pre id ver n c)
 |.ptr id off,k=>lP id fun id=>lP off fun off=>k (.ptr id off)
 |.fn f l,k=>lP f fun f=>E5 l fun l=>k (.fn f l)
 |.gV l,k=>E5 l fun l=>k (.gV l)
 |.agg l,k=>E5 l fun l=>k (.agg l)
 |.iH id b,k=>lP id fun id=>k (.iH id b)
 |.iI id ver lo,k=>lP id fun id=>lP ver fun ver=>k (.iI id ver lo)
 |v,k=>k v
def E5{β:Type}:List V->(List V->β)->β
 |[],k=>k []
 |v::l,k=>nZ v fun v=>E5 l fun l=>k (v::l)
end
def KV{β:Type}:Obj->(Obj->β)->β
 |.box cs,k=>E5 cs fun cs=>k (.box cs)
 |.vec t ver fr s,k=>lP ver fun ver=>k (.vec t ver fr s)
 |o,k=>k o
def KW{β:Type}(o:Nat->Obj):List (Nat×Obj)->((Nat->Obj)->β)->β
 |[],k=>k o
 |(i,x)::r,k=>lP i fun i=>KV x fun x=>KW (cV o i x) r k
def qI{β:Type}(fr:Nat)(o:Nat->Obj):List (Nat×Obj)->((Nat->Obj)->Option β)->Option β
 |[],k=>k o
 |(i,x)::r,k=>lP i fun i=>bif Nat.ble fr i&&Nat.blt i (fr+16) then
   (match o i with
   |.none=>KV x fun x=>qI fr (cV o i x) r k
   |_=>none)
  else KV x fun x=>qI fr (cV o i x) r k
def uW{β:Type}(sk ts:List Nat)(s:Shape)(c:ai s.aW)(k:St->β):β:=
 let p:=fill (cK sk) (fun _=>0) s c
 E5 p.1 fun vs=>KW (fun _=>Obj.none) p.2 fun o=>k ⟨KU ts vs,o⟩
mutual
def ny{β:Type}:Sh->(Sh->β)->β
 |.d t,k=>k (.d t)
 |.ref t,k=>k (.ref t)
 |.cR id,k=>lP id fun id=>k (.cR id)
 |.ptr id off,k=>lP id fun id=>lP off fun off=>k (.ptr id off)
 |.fn f l,k=>lP f fun f=>E6 l fun l=>k (.fn f l)
 |.gV l,k=>E6 l fun l=>k (.gV l)
 |.agg l,k=>E6 l fun l=>k (.agg l)
 |.mp id,k=>lP id fun id=>k (.mp id)
 |.it id,k=>lP id fun id=>k (.it id)
 |.iH id,k=>lP id fun id=>k (.iH id)
 |.iI id,k=>lP id fun id=>k (.iI id)
 |s,k=>k s
def E6{β:Type}:List Sh->(List Sh->β)->β
 |[],k=>k []
 |s::l,k=>ny s fun s=>E6 l fun l=>k (s::l)
end
def RC{β:Type}:fO->(fO->β)->β
 |.box l,k=>E6 l fun l=>k (.box l)
 |s,k=>k s
def OM{β:Type}:List fO->(List fO->β)->β
 |[],k=>k []
 |s::l,k=>RC s fun s=>OM l fun l=>k (s::l)
def K(γ:Type)(α:Type):Type 1:=(δ:Type)->(γ->δ)->α->Option δ
def z6i:(δ:Type)->(Bool->δ)->V->Option δ
 |_,w,.d .bool x=>some (w x)
 |_,_,_=>none
def ye:Option (Nat->Obj)->List (Nat×Obj)->Bool
 |none,_=>true
 |some _,[]=>true
 |some o,(i,_)::r=>(match o i with|.none=>true|_=>false)&&ye (some o) r
def RD(f:Nat):List mZ->Bool
 |[]=>false
 |s::r=>bif Nat.beq s.f f then(match s.bJ with|[]=>RD f r|_=>true) else RD f r
def z3z:Op->Bool
 |.call c=>match c.callee with
  |.value (.func f)=>RD f C.sigs
  |_=>false
 |.slice _ _ (some (.const _)) (some (.const _)) none=>true
 |_=>false
def qpv(d:Nat)(l:List Oper):Bool:=match F4 d l with
 |some (g,_,_)=>g.any fun o=>z3z C o.op
 |none=>false
def E7(env:Nat->V)(o:Nat->Obj)(fr:Nat):Op->Pk
 |.call c=>(match c.callee with
  |.value f=>(match bZ C env f with
   |.fn f caps=>xC L C R true o fr (f % 1048576) (caps.take (f / 1048576)++(c.args.toList.map (bZ C env)++caps.drop (f / 1048576))) C.sigs 0
   |_=>.fail)
  |_=>.fail)
 |_=>.fail
def z6j{δ:Type}(st:St)(fr:Nat)(o:Oper)(kp go:St->Option δ):Option δ:=match o.op with
 |.panic x=>(match bZ C st.env x with
  |.Of=>kp st
  |_=>none)
 |op=>(match E7 L C R st.env st.obj fr op with
  |.dyn _ x out=>L.b x fun y=>(match(out y).1 with
   |.gV (.bP::.d .bool b::vs)=>nZ (lz vs) fun v=>qI fr st.obj (out y).2 fun o'=>L.c b (kp {st with obj:=o'}) (go (bF {st with obj:=o'} o.dst v))
   |_=>none)
  |_=>none)
def mz{γ δ:Type}(rg:Nat)(all:List Oper)(g0:Option (Nat->Obj)):Nat->(γ->δ)->Nat->List Oper->St->((γ->δ)->St->Option δ)->((γ->δ)->St->Option δ)->Option δ
 |0,_,_,_,_,_,_=>none
 |_+1,w,_,[],st,k,_=>k w st
 |n+1,w,i,o::r,st,k,kp=>
  bif KT C.sigs o then(match o.guard,g0 with
   |none,none=>z6j L C R st (gO rg i) o (kp w) (fun st=>mz rg all g0 n w (i+1) r st k kp)
   |_,_=>none) else
  let run:=match df L C R st.env st.obj (gO rg i) o.type o.op with
   |.fail=>none
   |.mw v u=>bif ye g0 u then nZ v fun v=>qI (gO rg i) st.obj u fun o'=>mz rg all g0 n w (i+1) r (bF {st with obj:=o'} o.dst v) k kp else none
   |.dyn _ x out=>L.b x fun y=>bif ye g0 (out y).2 then nZ (out y).1 fun v=>qI (gO rg i) st.obj (out y).2 fun o'=>mz rg all g0 n w (i+1) r (bF {st with obj:=o'} o.dst v) k kp else none
  match o.guard with
  |none=>run
  |some (j,want)=>match all[j]? with
   |some oj=>match oj.dst with
    |some dj=>match st.env dj with
     |.lb b=>bif (bif want then b else !b) then run else mz rg all g0 n w (i+1) r (bF st o.dst .undef) k kp
     |.undef=>mz rg all g0 n w (i+1) r (bF st o.dst .undef) k kp
     |.d .bool x=>match g0 with
      |some g=>L.c x (mz rg all (some g) n w i (o::r) (bF st (some dj) (.lb true)) k kp) (mz rg all (some g) n w i (o::r) (bF st (some dj) (.lb false)) k kp)
      |none=>bif qpv C dj (o::r) then L.c x (mz rg all none n w i (o::r) (bF st (some dj) (.lb true)) k kp) (mz rg all none n w i (o::r) (bF st (some dj) (.lb false)) k kp) else match F4 dj (o::r) with
       |some (g,p,r')=>match p.dst with
        |some pd=>
         let br (b:Bool):Option Bool:=mz (γ:=Bool) (δ:=Bool) rg all (some st.obj) n (fun x=>x) i (g++[p]) (bF st (some dj) (.lb b)) (fun w' bE=>z6i _ w' (dK (bE.env pd))) (fun _ _=>none)
         L.b (L.c x (br true) (br false)) fun y=>mz rg all none n w (i+g.length+1) r' (bF (yd st g) (some pd) (.d .bool y)) k kp
        |none=>none
       |none=>none
     |_=>none
    |none=>none
   |none=>none
mutual
def eT:V->List Nat
 |.cR id _=>[id]
 |.pre id _ _ _=>[id]
 |.ptr id _=>[id]
 |.lh id _ _ _=>[id]
 |.mp id=>[id]
 |.it id=>[id]
 |.iH id _=>[id]
 |.iI id _ _=>[id]
 |.fn _ l=>gZ l
 |.gV l=>gZ l
 |.agg l=>gZ l
 |_=>[]
def gZ:List V->List Nat
 |[]=>[]
 |v::l=>eT v++gZ l
end
def yf:Obj->List Nat
 |.box cs=>gZ cs
 |_=>[]
def ON(o:Nat->Obj):Nat->List Nat->List Nat
 |0,l=>l
 |n+1,l=>l++ON o n (l.flatMap fun id=>yf (o id))
structure Tr where
 i:Nat
 op:Oper
 rd:List Nat
 wr:List Nat
def bO:List (Nat×Obj)->List Nat
 |[]=>[]
 |p::r=>p.1::bO r
def Cv(a b:List Nat):Bool:=a.all fun x=>!bM x b
def cL:List Oper->List Nat->List Nat
 |[],acc=>acc
 |o::r,acc=>cL r (acc++[o.after.toList.foldl (fun s e=>bif Region.binds .any e then s|||bit e.on|||acc.getD e.on 0 else s) 0])
def gQ:List Operand->List Nat
 |[]=>[]
 |.tmp t::r=>t::gQ r
 |_::r=>gQ r
def Jn(all:List Oper)(o:Oper):List Nat:=gQ o.op.operands.toList++(match o.guard with
 |some (g,_)=>(match all[g]? with
  |some og=>(match og.dst with|some d=>[d]|none=>[])
  |none=>[])
 |none=>[])
def RE(d:Option Nat)(l:List Nat):Bool:=match d with
 |some d=>BJ d l
 |none=>true
def RF(d:Option Nat):List Nat:=match d with
 |some d=>[d]
 |none=>[]
def OO(all:List Oper)(a b:Tr):Bool:=RE a.op.dst (Jn all b.op++RF b.op.dst)&&RE b.op.dst (Jn all a.op)&&Cv a.wr (b.rd++b.wr)&&Cv b.wr a.rd
def Cw(ic:List Nat)(all:List Oper)(a b:Tr):Bool:=Nat.testBit (ic.getD b.i 0) a.i||OO all a b
def OP(ic:List Nat)(all:List Oper)(b:Tr):List Tr->Bool
 |[]=>true
 |a::r=>Cw ic all a b&&OP ic all b r
def ou(ic:List Nat)(all:List Oper):List Tr->Bool
 |[]=>true
 |b::r=>OP ic all b r&&ou ic all r
def wy:Op->Bool
 |.move _=>true
 |.assign _=>true
 |.nilCheck _=>true
 |.fieldAddr _ _ _=>true
 |_=>false
def kU(st:St)(o:Oper):List Nat:=match o.op with
 |.move _=>[]
 |.assign _=>[]
 |.nilCheck x=>eT (bZ C st.env x)
 |.fieldAddr _ x _=>eT (bZ C st.env x)
 |_=>ON st.obj 4 (gZ (o.op.operands.toList.map (bZ C st.env)))
def OQ(l m:List Nat):Bool:=match l with
 |[]=>true
 |x::r=>bM x m&&OQ r m
def tn(o:Nat->Obj)(F:List Nat):List Nat->Bool
 |[]=>true
 |id::r=>OQ (yf (o id)) F&&tn o F r
def sT(t:Nat):List (Nat×Bool)->Option Bool
 |[]=>none
 |(a,b)::r=>bif Nat.beq a t then some b else sT t r
def KX(d:Option Nat)(kn:List (Nat×Bool)):Bool:=match d with
 |some d=>(match sT d kn with|some _=>false|none=>true)
 |none=>true
def eH(env:Nat->V)(kn:List (Nat×Bool))(ts:List Nat):Nat->V:=fun t=>bif bM t ts then(match sT t kn with|some b=>.lb b|none=>env t) else .bP
def cY(o:Nat->Obj)(F:List Nat):Nat->Obj:=fun id=>bif bM id F then o id else .none
def BO(i:Nat):List Edge->Bool
 |[]=>true
 |e::r=>(!(Region.binds .any e)||Nat.blt e.on i)&&BO i r
def Cy(F:List Nat)(fr:Nat):List Nat->Bool
 |[]=>true
 |id::r=>(bM id F||(Nat.ble fr id&&Nat.blt id (fr+16)))&&Cy F fr r
def wz(rg:Nat):List Tr->Bool
 |[]=>true
 |t::r=>BO t.i t.op.after.toList&&Cy t.rd (gO rg t.i) t.wr&&wz rg r
def F5(o:Oper)(kn:List (Nat×Bool)):List (Nat×Bool):=match o.dst with
 |none=>kn
 |some d=>match o.op with
  |.move (.tmp t)=>(match sT t kn with
   |some y=>(d,y)::kn
   |none=>kn)
  |.pick (.tmp c) x y=>(match sT c kn with
   |some q=>(match(bif q then x else y) with
    |.const (.bool z)=>(d,z)::kn
    |_=>kn)
   |none=>kn)
  |_=>kn
def yg(ic:List Nat)(i:Nat):List Tr->St->St
 |[],st=>st
 |t::r,st=>bif Nat.testBit (ic.getD i 0) t.i then yg ic i r st else bF (yg ic i r st) t.op.dst .bP
def E8(ic:List Nat)(i:Nat):List Tr->Bool
 |[]=>true
 |t::r=>(Nat.testBit (ic.getD i 0) t.i||dI t.wr)&&E8 ic i r
def E9(ic:List Nat)(i:Nat):Nat->List Oper->Bool
 |_,[]=>true
 |j,o::r=>BO j o.after.toList&&Nat.testBit (ic.getD j 0) i&&E9 ic i (j+1) r
def sU{γ δ:Type}(rg:Nat)(all:List Oper):Nat->(γ->δ)->Nat->List Oper->St->List (Nat×Bool)->List Tr->((γ->δ)->St->Option δ)->((γ->δ)->St->Option δ)->Option δ
 |0,_,_,_,_,_,_,_,_=>none
 |_+1,w,_,[],st,_,tr,k,_=>bif ou (cL all []) all tr&&wz rg tr then k w st else none
 |n+1,w,i,o::r,st,kn,tr,k,kp=>
  let F:=kU C st o
  bif KX o.dst kn then
  bif KT C.sigs o then(match o.guard with
   |none=>bif tn st.obj F F&&!(wy o.op) then(match E7 L C R (eH st.env kn (gQ o.op.operands.toList)) (cY st.obj F) (gO rg i) o.op with
    |.dyn _ x out=>L.b x fun y=>(match(out y).1 with
     |.gV (.bP::.d .bool b::vs)=>nZ (lz vs) fun v=>qI (gO rg i) st.obj (out y).2 fun o'=>L.c b
       (bif E8 (cL all []) i tr&&E9 (cL all []) i (i+1) r&&ou (cL all []) all (⟨i,o,F,bO (out y).2⟩::tr)&&wz rg (⟨i,o,F,bO (out y).2⟩::tr) then kp w {yg (cL all []) i tr st with obj:=o'} else none)
       (sU rg all n w (i+1) r (bF {st with obj:=o'} o.dst v) kn (⟨i,o,F,bO (out y).2⟩::tr) k kp)
     |_=>none)
    |_=>none) else none
   |some _=>none) else
  let run:=bif wy o.op||tn st.obj F F then(match df L C R (eH st.env kn (gQ o.op.operands.toList)) (cY st.obj F) (gO rg i) o.type o.op with
   |.fail=>none
   |.mw v u=>nZ v fun v=>qI (gO rg i) st.obj u fun o'=>sU rg all n w (i+1) r (bF {st with obj:=o'} o.dst v) (F5 o kn) (⟨i,o,F,bO u⟩::tr) k kp
   |.dyn _ x out=>L.b x fun y=>nZ (out y).1 fun v=>qI (gO rg i) st.obj (out y).2 fun o'=>sU rg all n w (i+1) r (bF {st with obj:=o'} o.dst v) (F5 o kn) (⟨i,o,F,bO (out y).2⟩::tr) k kp) else none
  match o.guard with
  |none=>run
  |some (j,want)=>match all[j]? with
   |some oj=>match oj.dst with
    |some dj=>match sT dj kn with
     |some b=>bif (bif want then b else !b) then run else sU rg all n w (i+1) r (bF st o.dst .undef) kn (⟨i,o,[],[]⟩::tr) k kp
     |none=>match st.env dj with
      |.undef=>sU rg all n w (i+1) r (bF st o.dst .undef) kn (⟨i,o,[],[]⟩::tr) k kp
      |.d .bool x=>L.c x (sU rg all n w i (o::r) st ((dj,true)::kn) tr k kp) (sU rg all n w i (o::r) st ((dj,false)::kn) tr k kp)
      |_=>none
    |none=>none
   |none=>none
  else none
end
section
variable (L:Lf) (C:Cx) (R:gF C.sigs)
def kx{δ:Type}(sk:List Nat)(s:Shape)(w:ai s.aW->δ)(aS:List (Nat×Nat))(o:Nat->Obj)(vs:List V):Option δ:=
 match F1 L sk aS o s vs with
 |some p=>some (w p.2)
 |none=>none
def pR:AC->List Oper
 |.region _ ops _=>ops.toList
 |.seq a b=>pR a++pR b
 |.cond _ _ a b=>pR a++pR b
 |.block _ _ b=>pR b
 |.loop _ b=>pR b
 |.scope b=>pR b
 |.jump _ _ p r=>pR p++pR r
 |_=>[]
def z81(t:Nat):Option Nat->Bool
 |some d=>Nat.beq d t
 |none=>false
def z40(l:List Nat):Operand->Bool
 |.tmp t=>bM t l
 |_=>false
def KY(t:Nat):List Oper->List Nat
 |[]=>[t]
 |o::r=>match o.op,o.dst with
  |.move x,some d=>bif z40 [t] x then d::KY t r else KY t r
  |_,_=>KY t r
def z41:Nat->List Sh->Bool
 |0,.d _::_=>true
 |n+1,_::r=>z41 n r
 |_,_=>false
def qpx(f i:Nat):List mZ->Bool
 |[]=>false
 |s::r=>(Nat.beq s.f f&&nc s.outs&&z41 i s.ins.roots)||qpx f i r
def qpy(al:List Nat)(f:Nat):Nat->List Operand->Bool
 |_,[]=>false
 |i,x::r=>(z40 al x&&qpx f i C.sigs)||qpy al f (i+1) r
def z42(al:List Nat)(o:Oper):Bool:=match o.op with
 |.call c=>match c.callee with
  |.value (.func f)=>qpy C al f 0 c.args.toList
  |_=>false
 |_=>false
def z82(ops:List Oper)(t:Nat):Bool:=!(ops.any fun o=>z81 t o.dst)&&ops.any (z42 C (KY t ops))
def RG(f i:Nat):List mZ->Bool
 |[]=>false
 |s::r=>(Nat.beq s.f f&&z41 i s.outs.roots)||RG f i r
def OR(t:Nat):List (Nat×Nat)->Option Nat
 |[]=>none
 |(a,f)::r=>bif Nat.beq a t then some f else OR t r
def RH:Option Ty->Bool
 |some (.sl _)=>true
 |_=>false
def BP:List Oper->List (Nat×Nat)->List Nat->List Nat
 |[],_,dt=>dt
 |o::r,tt,dt=>match o.dst with
  |none=>BP r tt dt
  |some d=>match o.op with
   |.call c=>match c.callee with
    |.value (.func f)=>BP r ((d,f)::tt) (bif RG f 0 C.sigs then d::dt else dt)
    |_=>BP r tt dt
   |.move (.tmp x)=>BP r (match OR x tt with|some f=>(d,f)::tt|none=>tt) (bif bM x dt then d::dt else dt)
   |.assign (.tmp x)=>BP r tt (bif bM x dt then d::dt else dt)
   |.indexAddr .. =>BP r ((d,1000000000)::tt) dt
   |.load t (.tmp x)=>BP r tt (match OR x tt with|some f=>bif Nat.beq f 1000000000&&RH (C.ty t) then d::dt else dt|none=>dt)
   |.extract (.tmp x) i=>BP r tt (match OR x tt with|some f=>bif RG f i C.sigs then d::dt else dt|none=>dt)
   |_=>BP r tt dt
def OS(sk:List Nat):List Sh->List V->List Nat
 |.d (.sl _)::cs,.cR id _::vs=>bif BJ id sk then id::OS sk cs vs else OS sk cs vs
 |_::cs,_::vs=>OS sk cs vs
 |_,_=>[]
def z2t(sk:List Nat)(s:Shape)(vs:List V):Nat->List Sh->List Nat
 |0,.ptr j 0::_=>match s.aB[j]? with
  |some (.box cs)=>OS sk cs vs
  |_=>[]
 |n+1,_::r=>z2t sk s vs n r
 |_,_=>[]
def z2u(sk:List Nat)(f i:Nat)(vs:List V):List mZ->List Nat
 |[]=>[]
 |s::r=>bif Nat.beq s.f f then z2t sk s.ins vs i s.ins.roots else z2u sk f i vs r
def z2v(sk al:List Nat)(f:Nat)(vs:List V):Nat->List Operand->List Nat
 |_,[]=>[]
 |i,x::r=>bif z40 al x then z2u sk f i vs C.sigs else z2v sk al f vs (i+1) r
def OT(sk al:List Nat)(vs:List V):List Oper->List Nat
 |[]=>[]
 |o::r=>match o.op with
  |.call c=>match c.callee with
   |.value (.func f)=>z2v C sk al f vs 0 c.args.toList++OT sk al vs r
   |_=>OT sk al vs r
  |_=>OT sk al vs r
def Jo(sk:List Nat)(ops:List Oper)(dt:List Nat)(env:Nat->V)(o:Nat->Obj):List Nat->List Nat
 |[]=>[]
 |t::r=>match env t with
  |.cR id _=>bif (bM t dt||z82 C ops t)&&BJ id sk then id::Jo sk ops dt env o r else Jo sk ops dt env o r
  |.ptr id 0=>match o id with
   |.box vs=>OT C sk (KY t ops) vs ops++Jo sk ops dt env o r
   |_=>Jo sk ops dt env o r
  |_=>Jo sk ops dt env o r
def Jp(sk:List Nat)(st:St)(ts:List Nat)(ops:List Oper):Shape:=z3o sk (ar st.obj (dX st.obj (Jo C sk ops (BP C ops [] []) st.env st.obj ts))) (ts.map fun t=>dK (st.env t))
def Jq{β:Type}(sk:List Nat)(st:St)(ts:List Nat)(ops:List Oper)(k:Shape->β):β:=
 let s:=Jp C sk st ts ops
 E6 s.roots fun r=>OM s.aB fun o=>k ⟨r,o⟩
def ev(sk:List Nat):(c:AC)->St->(γ δ:Type)->(γ->δ)->((δ:Type)->(γ->δ)->Ex->St->Option δ)->Option δ
 |.skip,st,_,δ,w,k=>k δ w .normal st
 |.region rg ops true,st,_,δ,w,k=>sU L C R rg ops.toList (2*ops.toList.length+1) w 0 ops.toList st [] [] (fun w st=>k δ w .normal st) (fun w st=>k δ w .panic st)
 |.region rg ops false,st,_,δ,w,k=>mz L C R rg ops.toList none (2*ops.toList.length+2) w 0 ops.toList st (fun w st=>k δ w .normal st) (fun w st=>k δ w .panic st)
 |.seq a b,st,γ,δ,w,k=>ev sk a st γ δ w fun δ w e bE=>match e with
  |.normal=>ev sk b bE γ δ w k
  |e=>k δ w e bE
 |.cond c ts a b,st,γ,δ,w,k=>match bZ C st.env c with
  |.d .bool x=>bif uV a&&uV b then
    Jq C sk st ts (pR a++pR b) fun s=>
    bif wx C.sigs a||wx C.sigs b then
     let k':(cT:Type)->(ai s.aW⊕δ->cT)->Ex->St->Option cT:=fun cT w' e bE=>match e with
      |.normal=>kx L sk s (fun c=>w' (.inl c)) (ti 0 sk) bE.obj (ts.map fun t=>dK (bE.env t))
      |e=>k cT (fun g=>w' (.inr (w g))) e bE
     L.b (L.c x (ev sk a st (ai s.aW⊕δ) (ai s.aW⊕δ) (fun x=>x) k') (ev sk b st (ai s.aW⊕δ) (ai s.aW⊕δ) (fun x=>x) k'))
      (L.ga fun c=>uW sk ts s c fun st=>k δ w .normal st)
    else
     let k':(cT:Type)->(ai s.aW->cT)->Ex->St->Option cT:=fun _ w' e bE=>match e with
      |.normal=>kx L sk s w' (ti 0 sk) bE.obj (ts.map fun t=>dK (bE.env t))
      |_=>none
     L.b (L.c x (ev sk a st (ai s.aW) (ai s.aW) (fun x=>x) k') (ev sk b st (ai s.aW) (ai s.aW) (fun x=>x) k'))
      (fun c=>uW sk ts s c fun st=>k δ w .normal st)
   else L.c x (ev sk a st γ δ w k) (ev sk b st γ δ w k)
  |_=>none
 |.block id ts b,st,γ,δ,w,k=>bif Nat.ble 2 (ways id b+(bif uV b then 1 else 0)) then
    Jq C sk st ts (pR b) fun s=>
    let k':(cT:Type)->(ai s.aW⊕δ->cT)->Ex->St->Option cT:=fun cT w' e bE=>match e with
     |.normal=>kx L sk s (fun c=>w' (.inl c)) (ti 0 sk) bE.obj (ts.map fun t=>dK (bE.env t))
     |.exit j=>bif Nat.beq j id then kx L sk s (fun c=>w' (.inl c)) (ti 0 sk) bE.obj (ts.map fun t=>dK (bE.env t)) else k cT (fun g=>w' (.inr (w g))) (.exit j) bE
     |e=>k cT (fun g=>w' (.inr (w g))) e bE
    L.b (ev sk b st (ai s.aW⊕δ) (ai s.aW⊕δ) (fun x=>x) k') (L.ga fun c=>uW sk ts s c fun st=>k δ w .normal st)
   else ev sk b st γ δ w fun δ w e bE=>match e with
    |.exit j=>bif Nat.beq j id then k δ w .normal bE else k δ w (.exit j) bE
    |e=>k δ w e bE
 |.loop ts b,st,_,δ,w,k=>
   Jq C sk st ts (pR b) fun s=>
   match F1 L sk (ti 0 sk) st.obj s (ts.map fun t=>dK (st.env t)) with
   |some p=>L.o (fun c=>uW sk ts s c fun st=>ev sk b st (ai s.aW⊕δ) (ai s.aW⊕δ) (fun x=>x) fun cT w' e bE=>match e with
     |.normal=>kx L sk s (fun c=>w' (.inl c)) (ti 0 sk) bE.obj (ts.map fun t=>dK (bE.env t))
     |e=>k cT (fun g=>w' (.inr (w g))) e bE) p.2
   |none=>none
 |.jump l ts p r,st,γ,δ,w,k=>ev sk p st γ δ w fun δ w e st=>match e with
  |.normal=>
   Jq C sk st ts (pR r) fun s=>
   match F1 L sk (ti 0 sk) st.obj s (ts.map fun t=>dK (st.env t)) with
   |some p=>L.o (fun c=>uW sk ts s c fun st=>ev sk r st (ai s.aW⊕δ) (ai s.aW⊕δ) (fun x=>x) fun cT w' e bE=>match e with
     |.goto l'=>bif Nat.beq l' l then kx L sk s (fun c=>w' (.inl c)) (ti 0 sk) bE.obj (ts.map fun t=>dK (bE.env t)) else none
     |e=>k cT (fun g=>w' (.inr (w g))) e bE) p.2
   |none=>none
  |.goto _=>none
  |e=>k δ w e st
 |.exit id,st,_,δ,w,k=>k δ w (.exit id) st
 |.goto l,st,_,δ,w,k=>k δ w (.goto l) st
 |.ret,st,_,δ,w,k=>k δ w .ret st
 |.scope b,st,γ,δ,w,k=>ev sk b st γ δ w fun δ w e st=>match e with
  |.goto _=>none
  |e=>k δ w e st
 |.bad,_,_,_,_,_=>none
def uX(env:Nat->V):Nat->List V->Nat->V
 |_,[]=>env
 |i,v::r=>uX (cV env i v) (i+1) r
def wA:List ResultVar->Nat
 |[]=>0
 |.tmp t::r=>bit t|||wA r
 |.cell t _::r=>bit t|||wA r
def wB(st:St):List ResultVar->Option (List V)
 |[]=>some []
 |.tmp t::r=>match wB st r with
  |some l=>some (dK (st.env t)::l)
  |none=>none
 |.cell t ty::r=>match Ox L C st.obj ty (st.env t) with
  |.mw v _=>match wB st r with
   |some l=>some (v::l)
   |none=>none
  |_=>none
def uY{δ:Type}(sk:List Nat)(s:Shape)(w:ai s.aW->δ)(st:St)(rs:List ResultVar):Option δ:=
 match wB L C st rs with
 |some vs=>kx L sk s w (Oo sk) st.obj (bif iK s then .bP::.d .bool false::vs else vs)
 |none=>none
def RI:Ty->Bool
 |.unit=>false
 |.pair _ _=>false
 |_=>true
def yh:List Sh->List V
 |[]=>[]
 |.d t::r=>(bif RI t then .d t (zero t) else .bP)::yh r
 |_::r=>.bP::yh r
def OU{δ:Type}(sk:List Nat)(s:Shape)(w:ai s.aW->δ)(st:St):Option δ:=bif iK s then kx L sk s w (Oo sk) st.obj (.bP::.d .bool true::yh (s.roots.drop 2)) else none
def Jr(i:Nat)(x:ai (aK C.sigs i).ins.aW):Option (ai (aK C.sigs i).outs.aW):=
 let sg:=aK C.sigs i
 match C.P.funcs.toList[sg.f]? with
 |none=>none
 |some fn=>match fn.body with
  |none=>none
  |some b=>
   let p:=fill id (fun _=>0) sg.ins x;let k:=sg.ins.aB.length
   bif Jg k (aK C.sigs i).bJ&&Nat.ble p.1.length fn.ntmps then my (wA fn.results.toList) fn.ntmps 1000 b [] [] (wA fn.results.toList) fun _ ac=>ev L C R (aK C.sigs i).bJ ac ⟨uX (fun _=>.undef) 0 p.1,ar (fun _=>Obj.none) p.2⟩
    (ai (aK C.sigs i).outs.aW) (ai (aK C.sigs i).outs.aW) (fun x=>x) fun _ w e st=>match e with
    |.normal=>uY L C (aK C.sigs i).bJ (aK C.sigs i).outs w st fn.results.toList
    |.ret=>uY L C (aK C.sigs i).bJ (aK C.sigs i).outs w st fn.results.toList
    |.panic=>OU L (aK C.sigs i).bJ (aK C.sigs i).outs w st
    |_=>none else none
end
def cC:Nat:=9223372036854775807
def gG(k:IntKind)(n:Int):Prop:=k.min<=n/\n<=k.max
def lA(w:World)(a:Addr)(cs:List Value):Prop:=∀j (h:j<cs.length),w.cell? ⟨a.block,a.off+j,none⟩=some cs[j]
def bG{α:Type}(f:α->List Value->Prop):List α->List Value->Prop
 |[],cs=>cs=[]
 |x::l,cs=>∃c d,cs=c++d/\f x c/\bG f l d
def tq{α:Type}(imm:Nat->Prop)(w:World)(R:α->List Value->Prop):Nat->Sl (gl α)->List Value->Prop
 |0,_,_=>False
 |n+1,s,cs=>∃v,cs=[v]/\s.l.length<=cC/\((s.nil=true/\s.l=[]/\v=.slice none 0 0)\/
   (s.nil=false/\∃a cap ec,v=.slice (some a) s.l.length cap/\(cap≠0->a.spot=none)/\(s.l≠[]->imm a.block)/\bG (fun r ec=>∃c d,ec=c++d/\R r.x c/\tq imm w R n r.s d) s.l ec/\lA w a ec/\s.l.length<=cap))
def aC(imm:Nat->Prop)(w:World):(t:Ty)->den t->List Value->Prop
 |.unit,_,cs=>cs=[]
 |.pair a b,x,cs=>∃c d,cs=c++d/\aC imm w a x.1 c/\aC imm w b x.2 d
 |.st p,x,cs=>aC imm w p x cs
 |.arr n e,l,cs=>List.length l=n/\bG (aC imm w e) l cs
 |.int k,n,cs=>cs=[.int k n]/\gG k n
 |.bool,b,cs=>cs=[.bool b]
 |.eP,b,cs=>cs=[.float .f64 b]
 |.fl,b,cs=>cs=[.complex .f64 b.1 b.2]
 |.str,l,cs=>∃s:ByteArray,cs=[.string s]/\s.data.toList.map (fun b=>(b.toNat:Int))=l/\s.size<=cC
 |.sl e,s,cs=>∃v,cs=[v]/\s.l.length<=cC/\((s.nil=true/\s.l=[]/\v=.slice none 0 0)\/
   (s.nil=false/\∃a cap ec,v=.slice (some a) s.l.length cap/\(cap≠0->a.spot=none)/\(s.l≠[]->imm a.block)/\bG (aC imm w e) s.l ec/\lA w a ec/\s.l.length<=cap))
 |.ks p,s,cs=>∃n,tq imm w (aC imm w p) n s cs
def aZ(imm:Nat->Prop)(w:World)(t:Ty)(x:den t)(v:Value):Prop:=
 match t,x with
 |.st p,x=>∃cs:Array Value,v=.agg cs/\aC imm w p x cs.toList
 |.arr n e,x=>∃cs:Array Value,v=.agg cs/\aC imm w (.arr n e) x cs.toList
 |.unit,_=>False
 |.pair _ _,_=>False
 |t,x=>aC imm w t x [v]
theorem oY{α:Type}{f g:α->List Value->Prop}:∀{l:List α} {cs:List Value},(∀x c,f x c->g x c)->bG f l cs->bG g l cs
 |[],_,_,h=>h
 |_::_,_,hf,⟨c,d,e,h1,h2⟩=>⟨c,d,e,hf _ _ h1,oY hf h2⟩
theorem qe8{w w':World}{a:Addr}(h:w'.heap[a.block]?=w.heap[a.block]?):w'.cell? a=w.cell? a:=by unfold World.cell?;rw[h]
theorem Js{w w':World}{a:Addr}{cs:List Value}(h:w'.heap[a.block]?=w.heap[a.block]?)(hc:lA w a cs):lA w' a cs:=by intro j hj;rw[<-hc j hj];exact qe8 h
theorem qgu{α:Type}{f:α->List Value->Prop}{l:List α}{w w':World}{a:Addr}{cs:List Value}(hr:bG f l cs)(h:l≠[]->w'.heap[a.block]?=w.heap[a.block]?)(hc:lA w a cs):lA w' a cs:=by
 cases l with
 |nil=>intro j hj;rw[show cs=[] from hr] at hj;cases hj
 |cons x l=>exact Js (h (List.cons_ne_nil x l)) hc
theorem RJ{α:Type}{imm imm':Nat->Prop}{w w':World}{R R':α->List Value->Prop}(hi:∀b,imm b->imm' b)(hw:∀b,imm b->w'.heap[b]?=w.heap[b]?)(hR:∀x c,R x c->R' x c):∀(n m:Nat),n<=m->∀(s:Sl (gl α)) (cs:List Value),tq imm w R n s cs->tq imm' w' R' m s cs
 |0,_,_,_,_,h=>h.elim
 |n+1,0,hg,_,_,_=>absurd hg om
 |n+1,m+1,hg,s,cs,⟨v,e1,hl,h⟩=>⟨v,e1,hl,h.imp id fun⟨hn,a,cap,ec,e2,hs,hb,hr,hc,he⟩=>⟨hn,a,cap,ec,e2,hs,fun hf=>hi _ (hb hf),oY (fun x c ⟨c1,d1,e3,h1,h2⟩=>⟨c1,d1,e3,hR _ _ h1,RJ hi hw hR n m om _ _ h2⟩) hr,qgu hr (fun hf=>hw _ (hb hf)) hc,he⟩⟩
theorem iF{imm imm':Nat->Prop}{w w':World}(hi:∀b,imm b->imm' b)(hw:∀b,imm b->w'.heap[b]?=w.heap[b]?):∀(t:Ty) (x:den t) (cs:List Value),aC imm w t x cs->aC imm' w' t x cs
 |.unit,_,_,h=>h
 |.pair a b,x,_,⟨c,d,e,h1,h2⟩=>⟨c,d,e,iF hi hw a x.1 c h1,iF hi hw b x.2 d h2⟩
 |.st p,x,cs,h=>iF hi hw p x cs h
 |.arr _ e,_,_,⟨h1,h2⟩=>⟨h1,oY (iF hi hw e) h2⟩
 |.ks p,_,_,⟨n,h⟩=>⟨n,RJ hi hw (iF hi hw p) n n (Nat.le_refl _) _ _ h⟩
 |.int _,_,_,h=>h
 |.bool,_,_,h=>h
 |.eP,_,_,h=>h
 |.fl,_,_,h=>h
 |.str,_,_,h=>h
 |.sl e,_,_,⟨v,e1,hl,h⟩=>⟨v,e1,hl,h.imp id fun⟨hn,a,cap,ec,e2,hs,hb,hr,hc,he⟩=>⟨hn,a,cap,ec,e2,hs,fun hf=>hi _ (hb hf),oY (iF hi hw e) hr,qgu hr (fun hf=>hw _ (hb hf)) hc,he⟩⟩
theorem il{imm:Nat->Prop}{w:World}:∀(t:Ty) (x:den t) (cs:List Value),aC imm w t x cs->cs.length=aN t
 |.unit,_,_,h=>by simp[aC] at h;simp[h,aN]
 |.pair a b,x,_,⟨c,d,e,h1,h2⟩=>by subst e;simp[aN,il a x.1 c h1,il b x.2 d h2]
 |.st p,x,cs,h=>by simpa[aN] using il p x cs h
 |.arr n e,l,cs,⟨h1,h2⟩=>by
   have key:∀(l:List (den e)) (cs:List Value),bG (aC imm w e) l cs->cs.length=l.length*aN e:=by
    intro l
    induction l with
    |nil=>intro cs h;simp[bG] at h;simp[h]
    |cons y l ih=>intro cs ⟨c,d,e1,h3,h4⟩;subst e1;simp[il e y c h3,ih d h4,Nat.succ_mul,Nat.add_comm]
   rw[key l cs h2,h1];simp[aN]
 |.int _,_,_,h=>by simp[aC] at h;simp[h.1,aN]
 |.bool,_,_,h=>by simp[aC] at h;simp[h,aN]
 |.eP,_,_,h=>by simp[aC] at h;simp[h,aN]
 |.fl,_,_,h=>by simp[aC] at h;simp[h,aN]
 |.str,_,_,⟨s,h,_⟩=>by simp[h,aN]
 |.sl e,_,_,⟨v,h,_⟩=>by simp[h,aN]
 |.ks p,_,_,⟨0,h⟩=>h.elim
 |.ks p,_,_,⟨n+1,v,h,_⟩=>by simp[h,aN]
theorem pS{imm:Nat->Prop}{w:World}{e:Ty}:∀{l:List (den e)} {cs:List Value},bG (aC imm w e) l cs->cs.length=l.length*aN e
 |[],cs,h=>by simp[bG] at h;simp[h]
 |y::l,cs,⟨c,d,e1,h3,h4⟩=>by subst e1;simp[il e y c h3,pS h4,Nat.succ_mul,Nat.add_comm]
theorem Jt{α:Type}{f:α->List Value->Prop}:∀{l m:List α} {cs ds:List Value},bG f l cs->bG f m ds->bG f (l++m) (cs++ds)
 |[],_,_,_,h,h'=>by simp[bG] at h;simpa[h] using h'
 |_::_,_,_,_,⟨c,d,e,h1,h2⟩,h'=>⟨c,d++_,by rw[e,zD],h1,Jt h2 h'⟩
theorem wC{imm:Nat->Prop}{w:World}{e:Ty}:∀{l:List (den e)} {cs:List Value} (n:Nat),n<=l.length->bG (aC imm w e) l cs->bG (aC imm w e) (l.take n) (cs.take (n*aN e))/\bG (aC imm w e) (l.drop n) (cs.drop (n*aN e))
 |l,cs,0,_,h=>by simpa[bG] using h
 |[],_,n+1,hn,_=>by simp at hn
 |y::l,cs,n+1,hn,⟨c,d,e1,h3,h4⟩=>by
  subst e1;have hc:=il e y c h3;obtain⟨h5,h6⟩:=wC n (by simpa using hn) h4;have e2:(n+1)*aN e=c.length+n*aN e:=by rw[hc,Nat.succ_mul,Nat.add_comm]
  rw[e2,List.take_length_add_append,List.drop_length_add_append];exact⟨⟨c,_,rfl,h3,h5⟩,by simpa using h6⟩
theorem KZ{imm:Nat->Prop}{w:World}{e:Ty}{l:List (den e)}{cs:List Value}(h:bG (aC imm w e) l cs)(i:Nat)(hi:i<l.length):aC imm w e l[i] ((cs.drop (i*aN e)).take (aN e)):=by
 obtain⟨_,h2⟩:=wC i (Nat.le_of_lt hi) h;rw[List.drop_eq_getElem_cons hi] at h2;obtain⟨c,d,e1,h3,_⟩:=h2;rw[e1,<-il e _ c h3,List.take_left']
 ·exact h3
 ·rfl
theorem qkn:∀(p k:Ty) (z:den (FT p k)),ET p k (Od p k z) (KB p k z)=z
 |.pair _ b,k,z=>by show(z.1,ET b k (Od b k z.2) (KB b k z.2))=z;rw[qkn b k z.2];rfl
 |.int _,_,_=>rfl
 |.bool,_,_=>rfl
 |.eP,_,_=>rfl
 |.fl,_,_=>rfl
 |.str,_,_=>rfl
 |.sl _,_,_=>rfl
 |.unit,_,_=>rfl
 |.st _,_,_=>rfl
 |.arr _ _,_,_=>rfl
 |.ks _,_,_=>rfl
theorem OV{imm:Nat->Prop}{w:World}:∀(p k:Ty) (x:den p) (y:den k) (cs:List Value),aC imm w (FT p k) (ET p k x y) cs↔∃c d,cs=c++d/\aC imm w p x c/\aC imm w k y d
 |.pair a b,k,x,y,cs=>by
  constructor
  ·rintro⟨c,d,e,h1,h2⟩;obtain⟨c2,d2,e2,h3,h4⟩:=(OV b k x.2 y d).1 h2;exact⟨c++c2,d2,by rw[e,e2,zD],⟨c,c2,rfl,h1,h3⟩,h4⟩
  ·rintro⟨c,d,e,⟨c1,c2,e2,h1,h2⟩,h3⟩;exact⟨c1,c2++d,by rw[e,e2,zD],h1,(OV b k x.2 y _).2 ⟨c2,d,rfl,h2,h3⟩⟩
 |.int _,_,_,_,_=>Iff.rfl
 |.bool,_,_,_,_=>Iff.rfl
 |.eP,_,_,_,_=>Iff.rfl
 |.fl,_,_,_,_=>Iff.rfl
 |.str,_,_,_,_=>Iff.rfl
 |.sl _,_,_,_,_=>Iff.rfl
 |.unit,_,_,_,_=>Iff.rfl
 |.st _,_,_,_,_=>Iff.rfl
 |.arr _ _,_,_,_,_=>Iff.rfl
 |.ks _,_,_,_,_=>Iff.rfl
theorem qq0{α β:Type}{f:α->List Value->Prop}{g:β->List Value->Prop}{h:α->β}:∀{l:List α} {cs:List Value},(∀x,x∈l->∀c,f x c->g (h x) c)->bG f l cs->bG g (l.map h) cs
 |[],_,_,hr=>hr
 |x::_l,_,hf,⟨c,d,e,h1,h2⟩=>⟨c,d,e,hf x (zf ..) c h1,qq0 (fun y hy=>hf y (zg _ hy)) h2⟩
theorem qv0{α:Type}{f:Nat->α->List Value->Prop}(hf:∀n m x c,n<=m->f n x c->f m x c):∀{l:List α} {cs:List Value},bG (fun x c=>∃n,f n x c) l cs->∃n,bG (f n) l cs
 |[],_,h=>⟨0,h⟩
 |x::l,_,⟨c,d,e,⟨n,h1⟩,h2⟩=>by obtain⟨m,h3⟩:=qv0 hf h2;exact⟨n+m,c,d,e,hf n _ x c om h1,oY (fun y c'=>hf m _ y c' om) h3⟩
theorem RL(p:Ty)(s:Sl (den (nX p))):Cm p (I8 p s)=s:=by obtain⟨nl,l⟩:=s;show(⟨nl,(l.map _).map _⟩:Sl (den (nX p)))=⟨nl,l⟩;rw[zY];congr 1;exact(zW fun z _=>qkn p (.ks p) z).trans (List.map_id l)
theorem Ju{imm:Nat->Prop}{w:World}(p:Ty)(s:Sl (gl (den p)))(cs:List Value):aC imm w (.ks p) s cs↔aC imm w (.sl (nX p)) (Cm p s) cs:=by
 obtain⟨nl,l⟩:=s;have hc:(l.map fun r:gl (den p)=>ET p (.ks p) r.x r.s).length=l.length:=zA _;constructor
 ·rintro⟨n,h⟩;cases n with
  |zero=>exact h.elim
  |succ n=>
   obtain⟨v,e1,hl,h⟩:=h;refine⟨v,e1,by show(l.map _).length<=_;rw[hc];exact hl,?_⟩;rcases h with ⟨h1,h2,h3⟩|⟨h1,a,cap,ec,h2,h3,h4,h5,h6,h7⟩
   ·have h2:l=[]:=h2;subst h2;exact .inl ⟨h1,rfl,h3⟩
   ·refine .inr ⟨h1,a,cap,ec,by show v=.slice (some a) (l.map _).length cap;rw[hc];exact h2,h3,fun he=>h4 fun e=>he ?_,?_,h6,by show(l.map _).length<=_;rw[hc];exact h7⟩
    ·have e:l=[]:=e;subst e;rfl
    ·refine qq0 (fun r _ c ⟨c1,d1,e3,g1,g2⟩=>?_) h5;exact(OV p (.ks p) r.x r.s c).2 ⟨c1,d1,e3,g1,n,g2⟩
 ·rintro⟨v,e1,hl,h⟩;have hl:l.length<=cC:=by rw[<-hc];exact hl
  rcases h with ⟨h1,h2,h3⟩|⟨h1,a,cap,ec,h2,h3,h4,h5,h6,h7⟩
  ·have h2:l=[]:=List.map_eq_nil_iff.1 h2;subst h2;exact⟨1,v,e1,hl,.inl ⟨h1,rfl,h3⟩⟩
  ·have h2:v=.slice (some a) (l.map fun r:gl (den p)=>ET p (.ks p) r.x r.s).length cap:=h2;rw[hc] at h2;have h5:bG (fun(r:gl (den p)) c=>∃n,∃c1 d1,c=c1++d1/\aC imm w p r.x c1/\tq imm w (aC imm w p) n r.s d1) l ec:=by
    have key:∀(l:List (gl (den p))) (ec:List Value),bG (aC imm w (nX p)) (l.map fun r=>ET p (.ks p) r.x r.s) ec->bG (fun(r:gl (den p)) c=>∃n,∃c1 d1,c=c1++d1/\aC imm w p r.x c1/\tq imm w (aC imm w p) n r.s d1) l ec:=by
     intro l
     induction l with
     |nil=>intro ec h;exact h
     |cons r l ih=>rintro ec ⟨c,d,e,g1,g2⟩;obtain⟨c1,d1,e3,g3,n,g4⟩:=(OV p (.ks p) r.x r.s c).1 g1;exact⟨c,d,e,⟨n,c1,d1,e3,g3,g4⟩,ih d g2⟩
    exact key l ec h5
   obtain⟨n,h5⟩:=qv0 (f:=fun n (r:gl (den p)) c=>∃c1 d1,c=c1++d1/\aC imm w p r.x c1/\tq imm w (aC imm w p) n r.s d1) (fun n m r c hf ⟨c1,d1,e3,g1,g2⟩=>⟨c1,d1,e3,g1,RJ (fun _ h=>h) (fun _ _=>rfl) (fun _ _ h=>h) n m hf _ _ g2⟩) h5;exact⟨n+1,v,e1,hl,.inr ⟨h1,a,cap,ec,h2,h3,fun he=>h4 fun e=>he (List.map_eq_nil_iff.1 e),h5,h6,by rw[<-hc];exact h7⟩⟩
def fQ:(p:Ty)->Nat->Nat
 |.pair _ _,0=>0
 |.pair a b,n+1=>aN a+fQ b n
 |_,_=>0
def RM:(p:Ty)->Nat->Ty
 |.pair a _,0=>a
 |.pair _ b,n+1=>RM b n
 |.ks p,_=>.sl (nX p)
 |t,_=>t
def j6:List Nat->Ty->Nat
 |[],_=>0
 |f::r,.st p=>fQ p f+j6 r (RM p f)
 |_::_,_=>0
def live:Obj->Bool
 |.box _=>true
 |.vec _ _ fr s=>!s.nil&&!fr
 |.map _ _ _=>true
 |.iter _ _=>true
 |.dead=>false
 |.none=>false
def qv1:Obj->Addr->Bool
 |.vec _ _ _ _,a=>a.spot.isSome
 |_,_=>false
def aX(a:Addr)(x:Obj):Bool:=live x&&!qv1 x a
def bare(a:Addr):Addr:=⟨a.block,a.off,match a.spot with|none=>none|some 0=>none|some (k+1)=>some k⟩
def mark(a:Addr):Addr:=⟨a.block,a.off,match a.spot with|none=>some 0|some k=>some (k+1)⟩
theorem RN{a:Addr}(h:a.spot=none):bare a=a:=by cases a;cases h;rfl
theorem qv2(a:Addr):bare (mark a)=a:=by obtain⟨b,f,s⟩:=a;cases s<;>rfl
theorem qv3(a:Addr):(mark a).spot≠none:=by obtain⟨b,f,s⟩:=a;cases s<;>exact fun h=>by cases h
theorem RO{a:Addr}(h:a.spot=none):(bare a).spot=none:=by rw[RN h];exact h
theorem OW{a:Addr}(h:a.spot=none):bare a=⟨a.block,a.off,none⟩:=by unfold bare;rw[h]
theorem F6{a:Addr}{cap:Nat}(h:a.spot.isSome=true->cap=0):cap≠0->(bare a).spot=none:=fun hc=>RO (by
 cases e:a.spot with
 |none=>rfl
 |some k=>exact absurd (h (by rw[e];rfl)) hc)
theorem uZ{a:Addr}{t:Ty}{ver:Nat}{s:Sl (den t)}(hn:s.nil=false)(ha:a.spot=none):aX a (.vec t ver false s)=true:=by simp[aX,live,qv1,hn,ha]
theorem nf{a:Addr}(h:aX a .none=true):False:=by simp[aX,live] at h
theorem Cz{a:Addr}{t:Ty}{ver:Nat}{fr:Bool}{s:Sl (den t)}(h:aX a (.vec t ver fr s)=true):s.nil=false/\fr=false/\a.spot=none:=by have h:(!s.nil&&!fr&&!a.spot.isSome)=true:=h;cases hn:s.nil<;>cases fr<;>cases hs:a.spot<;>simp[hn,hs] at h ⊢
def qJ(φ:Nat->Addr)(o:Nat->Obj)(b:Nat):Prop:=∃id,aX (φ id) (o id)=true/\(φ id).block=b
def ah(X:Nat->Prop)(φ:Nat->Addr)(o:Nat->Obj)(w:World)(b:Nat):Prop:=b<w.heap.size/\¬X b/\¬qJ φ o b
def room(w:World)(a:Addr)(n:Nat):Prop:=∃c el lo hi,w.heap[a.block]?=some (.cells c el (lo,hi))/\a.off+n<=c.size/\(hi<=lo\/hi<=a.off\/a.off+n<=lo)
def Jv(w:World)(a:Addr)(nil fr:Bool)(sz n:Nat)(v:Value):Prop:=(nil=true/\v=.slice none 0 0)\/(nil=false/\∃cap,v=.slice (some (bare a)) n cap/\n<=cap/\(a.spot.isSome=true->cap=0)/\(fr=false->a.spot=none->room w a (cap*sz)))
def z6k(a:Addr)(nil:Bool)(sz:Nat)(lo:Int)(n:Nat)(v:Value):Prop:=∃k:Nat,lo=(k:Int)/\k<=n/\((nil=true/\v=.slice none 0 0)\/(nil=false/\∃cap,v=.slice (some (if cap=0 then bare a else⟨a.block,a.off+k*sz,none⟩)) (n-k) cap/\n-k<=cap))
def OX(imm:Nat->Prop)(w:World)(n:Int)(v:Value):Prop:=∃a cs,v=.pointer (some a)/\a.spot=none/\imm a.block/\aC imm w (.int .i64) n cs/\lA w a cs
def wD(imm:Nat->Prop)(w:World):List (Nat×Bool)->Int->Int->Value->Prop
 |[],k,_,v=>k=0/\v=.nilFunc
 |(f,c)::r,k,n,v=>(k=0/\match c with
  |false=>v=.func (.func f) #[] #[]
  |true=>∃p,v=.func (.func f) #[] #[p]/\OX imm w n p)\/(k≠0/\wD imm w r (k-1) n v)
theorem OY{imm:Nat->Prop}{w:World}{n:Int}:∀(a:List (Nat×Bool)) {k:Int} {v:Value},wD imm w a k n v->(v=.nilFunc/\k=((a.length:Nat):Int))\/(∃f c,v=.func (.func f) #[] c/\k≠((a.length:Nat):Int))
 |[],k,v,h=>.inl ⟨h.2,h.1⟩
 |(f,c)::r,k,v,h=>by
  rcases h with ⟨h1,h2⟩|⟨h1,h2⟩
  ·refine .inr ?_;have hk:k≠(((f,c)::r).length:Int):=by rw[zw];omega
   cases c with
   |false=>exact⟨f,#[],h2,hk⟩
   |true=>obtain⟨p,h3,_⟩:=h2;exact⟨f,#[p],h3,hk⟩
  ·rcases OY r h2 with ⟨h3,h4⟩|⟨g,d,h3,h4⟩
   ·exact .inl ⟨h3,by rw[zw];omega⟩
   ·exact .inr ⟨g,d,h3,by rw[zw];omega⟩
theorem RP{α:Type}:∀(l:List α) (i:Nat),pL l i=i+l.length
 |[],_=>rfl
 |_::r,i=>by show pL r (i+1)=_;rw[RP r,zw];omega
theorem RQ{imm imm':Nat->Prop}{w w':World}{n:Int}(h:∀p,OX imm w n p->OX imm' w' n p):∀(a:List (Nat×Bool)) (k:Int) (v:Value),wD imm w a k n v->wD imm' w' a k n v
 |[],_,_,e=>e
 |(f,c)::r,k,v,e=>by
  rcases e with ⟨e1,e2⟩|⟨e1,e2⟩
  ·refine .inl ⟨e1,?_⟩;cases c with
   |false=>exact e2
   |true=>obtain⟨p,h1,h2⟩:=e2;exact⟨p,h1,h p h2⟩
  ·exact .inr ⟨e1,RQ h r (k-1) v e2⟩
def Jw(f:Nat)(c:Array Value):Value:=.func (.func (f % 1048576)) (c.toList.take (f / 1048576)).toArray (c.toList.drop (f / 1048576)).toArray
theorem K0{f:Nat}(h:f<1048576)(c:Array Value):Jw f c=.func (.func f) #[] c:=by unfold Jw;rw[Nat.mod_eq_of_lt h,Nat.div_eq_of_lt h,List.take_zero,List.drop_zero]
mutual
def ay(φ:Nat->Addr)(o:Nat->Obj)(imm:Nat->Prop)(w:World):V->Value->Prop
 |.d t x,v=>aZ imm w t x v
 |.cR id ver,v=>match o id with
  |.vec t aF fr s=>ver<=aF/\(ver=aF->Jv w (φ id) s.nil fr (aN t) s.l.length v)
  |.none=>False
  |_=>True
 |.pre id ver n cp,v=>match o id with
  |.vec t aF fr s=>ver<=aF/\(ver=aF->n<=s.l.length/\Jv w (φ id) s.nil fr (aN t) n v/\(cp=true->∀a m c,v=.slice a m c->c=n))
  |.none=>False
  |_=>True
 |.ptr id off,v=>match o id with
  |.none=>False
  |.dead=>True
  |.vec _ ver _ _=>ver=0->v=.pointer (some ⟨(φ id).block,(φ id).off+off,none⟩)
  |_=>v=.pointer (some ⟨(φ id).block,(φ id).off+off,none⟩)
 |.lh id ver i path,v=>match o id with
  |.vec t aF _ s=>ver<=aF/\(ver=aF->i<s.l.length/\v=.pointer (some ⟨(φ id).block,(φ id).off+i*aN t+j6 path t,none⟩))
  |.none=>False
  |_=>True
 |.ref t x,v=>∃a cs,v=.pointer (some a)/\a.spot=none/\imm a.block/\aC imm w t x cs/\lA w a cs
 |.rr t x,v=>∃a b cs,v=.pointer (some a)/\a.spot=none/\imm a.block/\lA w a [.pointer (some b)]/\b.spot=none/\imm b.block/\aC imm w t x cs/\lA w b cs
 |.gU,v=>v=.pointer none
 |.fn f l,v=>∃c:Array Value,v=Jw f c/\cd φ o imm w l c.toList
 |.gB,v=>v=.nilFunc
 |.gV l,v=>∃c:Array Value,v=.tuple c/\cd φ o imm w l c.toList
 |.agg l,v=>∃c:Array Value,v=.agg c/\cd φ o imm w l c.toList
 |.mp id,v=>match o id with
  |.none=>False
  |.map _ _ _=>v=.map (some (φ id).block)
  |_=>True
 |.jR,v=>v=.map none
 |.it id,v=>match o id with
  |.none=>False
  |.iter _ _=>v=.pointer (some ⟨(φ id).block,0,none⟩)
  |_=>True
 |.Oe b p c,v=>(b=true/\v=.tuple #[.bool true,.int .i64 p,.int .i32 c]/\gG .i64 p/\gG .i32 c)\/(b=false/\v=.tuple #[.bool false])
 |.ll,v=>v=.nilIface
 |.Of,v=>∃t x,v=.iface t x
 |.fa a k n,v=>wD imm w a k n v
 |.eQ,v=>v=.slice none 0 0
 |.lb b,v=>v=.bool b
 |.undef,v=>v=undef
 |.bP,_=>True
 |.iH id b,v=>match o id with
  |.none=>False
  |.box _=>v=.pointer (bif b then some ⟨(φ id).block,(φ id).off,none⟩ else none)
  |_=>True
 |.iI id ver lo,v=>match o id with
  |.vec t aF _ s=>ver<=aF/\(ver=aF->z6k (φ id) s.nil (aN t) lo s.l.length v)
  |.none=>False
  |_=>True
def cd(φ:Nat->Addr)(o:Nat->Obj)(imm:Nat->Prop)(w:World):List V->List Value->Prop
 |[],vs=>vs=[]
 |x::l,vs=>∃v r,vs=v::r/\ay φ o imm w x v/\cd φ o imm w l r
end
def xD{α β:Type}(f:α->Value->Prop)(g:β->Value->Prop):List (α×β)->List MapEntry->Prop
 |[],es=>es=[]
 |p::l,es=>∃e r,es=e::r/\f p.1 e.key/\g p.2 e.val/\xD f g l r
def qq(φ:Nat->Addr)(o:Nat->Obj)(imm:Nat->Prop)(w:World)(id:Nat):Obj->Prop
 |.box cs=>(φ id).off=0/\∃c el lo hi,w.heap[(φ id).block]?=some (.cells c el (lo,hi))/\hi<=lo/\cd φ o imm w cs c.toList
 |.vec t _ fr s=>s.l.length<=cC/\(s.nil=true->s.l=[])/\(s.nil=false->((φ id).spot=none/\∃ec,bG (aC imm w t) s.l ec/\lA w (φ id) ec/\
   room w (φ id) 0/\(fr=false->room w (φ id) (s.l.length*aN t))/\(fr=true->imm (φ id).block))\/((φ id).spot≠none/\s.l=[]/\t≠.int .u8))
 |.map k v m=>∃es clock,w.heap[(φ id).block]?=some (.map es clock)/\xD (aZ imm w k) (aZ imm w v) m es.toList
 |.dead=>True
 |.none=>True
 |.iter l p=>∃(s:ByteArray) (n:Nat),w.heap[(φ id).block]?=some (.stringIter s n)/\s.data.toList.map (fun b=>(b.toNat:Int))=l/\p=(n:Int)/\s.size<=cC
def z83(C:Cx)(el:TypeId)(n:Nat):Prop:=(el=C.EW/\n=2)\/(el=C.xZ/\n=4)
def iL(C:Cx)(w:World)(a:Addr):Obj->Prop
 |.vec t _ _ s=>t=.int .u8->s.nil=false->∃c el fz,w.heap[a.block]?=some (.cells c el fz)/\C.P.underlying el=some (.int .u8)/\(fz.1=fz.2\/c.size<=fz.1)
 |.box cs=>pP cs=true->∃c el fz,w.heap[a.block]?=some (.cells c el fz)/\z83 C el c.size
 |_=>True
structure MRel (C:Cx) (X:Nat->Prop) (φ:Nat->Addr) (o:Nat->Obj) (w:World):Prop where
 aB:∀id,qq φ o (ah X φ o w) w id (o id)
 inj:∀i j,aX (φ i) (o i)=true->aX (φ j) (o j)=true->(φ i).block=(φ j).block->i=j
 sep:∀i,aX (φ i) (o i)=true->(φ i).block<w.heap.size/\¬X (φ i).block
 xs:∀b,X b->b<w.heap.size
 u0:∀id,iL C w (φ id) (o id)
 fC:∀g t x,C.lu g=some ⟨t,x⟩->ay φ o (ah X φ o w) w (.ref t x) (.pointer (some ⟨g,0,none⟩))
 Jy:∀g t x,C.lu g=some ⟨t,x⟩->∃c el fz,w.heap[g]?=some (.cells c el fz)/\c.size=aN t
theorem MRel.u7{C:Cx}{X:Nat->Prop}{φ:Nat->Addr}{o:Nat->Obj}{w w':World}(hm:MRel C X φ o w)(st:∀b,ah X φ o w b->w'.heap[b]?=w.heap[b]?):∀g t x,C.lu g=some ⟨t,x⟩->∃c el fz,w'.heap[g]?=some (.cells c el fz)/\c.size=aN t:=fun g t x hg=>by obtain⟨a,cs,e,_,hi,_⟩:=hm.fC g t x hg;injection e with e;injection e with e;subst e;rw[st _ hi];exact hm.Jy g t x hg
theorem MRel.cap{C:Cx}{X:Nat->Prop}{φ:Nat->Addr}{o:Nat->Obj}{w:World}(hm:MRel C X φ o w){id:Nat}{t:Ty}{ver:Nat}{fr:Bool}{s:Sl (den t)}(h:o id=.vec t ver fr s)(hn:s.nil=false)(hs:(φ id).spot≠none):s.l=[]/\t≠.int .u8:=by
 have:=hm.aB id;rw[h] at this;rcases this.2.2 hn with h1|h1
 ·exact absurd h1.1 hs
 ·exact h1.2
theorem MRel.K1{C:Cx}{X:Nat->Prop}{φ:Nat->Addr}{o:Nat->Obj}{w:World}(hm:MRel C X φ o w)(id:Nat):∀ver fr (s:Sl (den (.int .u8))),o id=.vec (.int .u8) ver fr s->s.nil=false->(φ id).spot=none:=by intro ver fr s h hn;apply zP;intro hs;exact(hm.cap h hn hs).2 rfl
structure Fr where
 n:Nat
 d:List Deferred
structure Rel (C:Cx) (nt:Fr) (X:Nat->Prop) (φ:Nat->Addr) (st:St) (a:Act) (w:World):Prop extends MRel C X φ st.obj w where
 size:a.tmps.size=nt.n
 env:∀t,ay φ st.obj (ah X φ st.obj w) w (st.env t) (a.tmps.getD t undef)
 defers:a.defers=nt.d
theorem tu{imm imm':Nat->Prop}{w w':World}(hi:∀b,imm b->imm' b)(hw:∀b,imm b->w'.heap[b]?=w.heap[b]?)(t:Ty)(x:den t)(v:Value)(h:aZ imm w t x v):aZ imm' w' t x v:=by
 cases t with
 |st p=>obtain⟨cs,h1,h2⟩:=h;exact⟨cs,h1,iF hi hw p x _ h2⟩
 |arr n e=>obtain⟨cs,h1,h2⟩:=h;exact⟨cs,h1,iF hi hw (.arr n e) x _ h2⟩
 |unit=>exact h
 |pair a b=>exact h
 |int k=>exact iF hi hw (.int k) x _ h
 |bool=>exact iF hi hw .bool x _ h
 |eP=>exact iF hi hw .eP x _ h
 |fl=>exact iF hi hw .fl x _ h
 |str=>exact iF hi hw .str x _ h
 |sl e=>exact iF hi hw (.sl e) x _ h
 |ks p=>exact iF hi hw (.ks p) x _ h
theorem CA{w w':World}{a:Addr}{n:Nat}(h:w'.heap[a.block]?=w.heap[a.block]?)(hr:room w a n):room w' a n:=by obtain⟨c,el,lo,hi,h1,h2,h3⟩:=hr;exact⟨c,el,lo,hi,by rw[h,h1],h2,h3⟩
theorem z2w{w w':World}{a:Addr}{nil fr:Bool}{sz n:Nat}{v:Value}(h:nil=false->fr=false->a.spot=none->w'.heap[a.block]?=w.heap[a.block]?)(hr:Jv w a nil fr sz n v):Jv w' a nil fr sz n v:=hr.imp id fun⟨hn,cap,h1,h2,h4,h3⟩=>⟨hn,cap,h1,h2,h4,fun hf hs=>CA (h hn hf hs) (h3 hf hs)⟩
def eU(w w':World)(b:Nat):Prop:=∀c el fz,w.heap[b]?=some (.cells c el fz)->∃c',w'.heap[b]?=some (.cells c' el fz)/\c'.size=c.size
theorem eU.same{w w':World}{b:Nat}(h:w'.heap[b]?=w.heap[b]?):eU w w' b:=fun c el fz e=>⟨c,by rw[h];exact e,rfl⟩
theorem iL.bJ{C:Cx}{w w':World}{a:Addr}{x:Obj}(h:iL C w a x)(hb:aX a x=true->eU w w' a.block)(hf:∀ver (s:Sl (den (.int .u8))),x=.vec (.int .u8) ver true s->s.nil=false->eU w w' a.block)(hc:∀ver fr (s:Sl (den (.int .u8))),x=.vec (.int .u8) ver fr s->s.nil=false->a.spot=none):iL C w' a x:=by
 cases x with
 |vec t ver fr s=>
  intro ht hn;obtain⟨c,el,fz,h1,h2,h4⟩:=h ht hn;subst ht;have hk:eU w w' a.block:=by
   cases fr with
   |true=>exact hf _ _ rfl hn
   |false=>exact hb (uZ hn (hc _ _ _ rfl hn))
  obtain⟨c',h3,h5⟩:=hk _ _ _ h1;exact⟨c',el,fz,h3,h2,by rw[h5];exact h4⟩
 |box cs=>intro hs;obtain⟨c,el,fz,h1,h3⟩:=h hs;obtain⟨c',h2,h4⟩:=(hb rfl) _ _ _ h1;exact⟨c',el,fz,h2,by rw[h4];exact h3⟩
 |map k v m=>trivial
 |dead=>trivial
 |none=>trivial
 |iter s p=>trivial
def Up(w w':World)(a a':Addr):Obj->Obj->Prop
 |.none,_=>True
 |_,.dead=>True
 |.box _,.box _=>a'=a
 |.map _ _ _,.map _ _ _=>a'=a
 |.iter _ _,.iter _ _=>a'=a
 |.vec t ver fr s,.vec t' aF Fa s'=>ver<aF\/(ver=aF/\t=t'/\s.nil=s'.nil/\s.l.length=s'.l.length/\a'=a/\(Fa=false->fr=false/\(s.nil=false->a.spot=none->∀n,room w a n->room w' a n)))
 |_,_=>False
theorem Up.same{w w':World}{a:Addr}{x:Obj}(h:aX a x=true->∀n,room w a n->room w' a n):Up w w' a a x x:=by
 cases x with
 |vec t ver fr s=>exact .inr ⟨rfl,rfl,rfl,rfl,rfl,fun hf=>⟨hf,fun hn hs=>h (by subst hf;exact uZ hn hs)⟩⟩
 |box cs=>exact rfl
 |map k v m=>exact rfl
 |dead=>trivial
 |none=>trivial
 |iter s p=>exact rfl
theorem qkp{w w':World}{a:Addr}{nil fr Fa:Bool}{sz n:Nat}{v:Value}(h:Fa=false->fr=false/\(nil=false->a.spot=none->∀n,room w a n->room w' a n))(hr:Jv w a nil fr sz n v):Jv w' a nil Fa sz n v:=hr.imp id fun⟨hn,cap,h1,h2,h4,h3⟩=>⟨hn,cap,h1,h2,h4,fun hf hs=>(h hf).2 hn hs _ (h3 (h hf).1 hs)⟩
theorem BQ{φ φ':Nat->Addr}{o o':Nat->Obj}{imm imm':Nat->Prop}{w w':World}(hi:∀b,imm b->imm' b)(hw:∀b,imm b->w'.heap[b]?=w.heap[b]?)(ho:∀id,Up w w' (φ id) (φ' id) (o id) (o' id)):∀(x:V) (v:Value),ay φ o imm w x v->ay φ' o' imm' w' x v:=by
 intro x;refine V.rec (motive_1:=fun x=>∀v,ay φ o imm w x v->ay φ' o' imm' w' x v) (motive_2:=fun l=>∀vs,cd φ o imm w l vs->cd φ' o' imm' w' l vs)
  ?_ ?_ ?_ ?_ ?_ ?_ ?_ ?_ ?_ ?_ ?_ ?_ ?_ ?_ ?_ ?_ ?_ ?_ ?_ ?_ ?_ ?_ ?_ ?_ ?_ ?_ ?_ x
 ·exact fun t x v h=>tu hi hw t x v h
 ·intro id ver v h;have hu:=ho id;unfold ay at*
  revert h hu;cases o id<;>cases o' id<;>simp only[Up]<;>intro hu h<;>first|trivial|exact h.elim|exact hu.elim|skip
  obtain⟨h0,h⟩:=h;rcases hu with hu|⟨e1,e2,e3,e4,e5,e6⟩
  ·exact⟨by omega,fun e=>by omega⟩
  ·subst e1 e2;exact⟨h0,fun e=>by rw[e5,<-e3,<-e4];exact qkp e6 (h e)⟩
 ·intro id ver n cp v h;have hu:=ho id;unfold ay at*
  revert h hu;cases o id<;>cases o' id<;>simp only[Up]<;>intro hu h<;>first|trivial|exact h.elim|exact hu.elim|skip
  obtain⟨h0,h⟩:=h;rcases hu with hu|⟨e1,e2,e3,e4,e5,e6⟩
  ·exact⟨by omega,fun e=>by omega⟩
  ·subst e1 e2;refine⟨h0,fun e=>?_⟩;obtain⟨h1,h2,h3⟩:=h e;exact⟨by omega,by rw[e5,<-e3];exact qkp e6 h2,h3⟩
 ·intro id off v h;have hu:=ho id;unfold ay at*
  revert h hu;cases o id<;>cases o' id<;>simp only[Up]<;>intro hu h<;>first|trivial|exact h.elim|exact hu.elim|(rw[hu];exact h)|skip
  rcases hu with hu|⟨e1,e2,e3,e4,e5,e6⟩
  ·intro e;omega
  ·subst e1;rw[e5];exact h
 ·intro id ver i path v h;have hu:=ho id;unfold ay at*
  revert h hu;cases o id<;>cases o' id<;>simp only[Up]<;>intro hu h<;>first|trivial|exact h.elim|exact hu.elim|skip
  obtain⟨h0,h⟩:=h;rcases hu with hu|⟨e1,e2,e3,e4,e5,e6⟩
  ·exact⟨by omega,fun e=>by omega⟩
  ·subst e1 e2;refine⟨h0,fun e=>?_⟩;obtain⟨h1,h2⟩:=h e;exact⟨by omega,by rw[e5];exact h2⟩
 ·exact fun t x v ⟨a,cs,h1,h2,h3,h4,h5⟩=>⟨a,cs,h1,h2,hi _ h3,iF hi hw t x cs h4,Js (hw _ h3) h5⟩
 ·exact fun v h=>h
 ·exact fun f l ih v ⟨c,h1,h2⟩=>⟨c,h1,ih _ h2⟩
 ·exact fun v h=>h
 ·exact fun l ih v ⟨c,h1,h2⟩=>⟨c,h1,ih _ h2⟩
 ·exact fun l ih v ⟨c,h1,h2⟩=>⟨c,h1,ih _ h2⟩
 ·intro id v h;have hu:=ho id;unfold ay at*
  revert h hu;cases o id<;>cases o' id<;>simp only[Up]<;>intro hu h<;>first|trivial|exact h.elim|exact hu.elim|(rw[hu];exact h)|exact h
 ·exact fun v h=>h
 ·exact fun v h=>h
 ·exact fun v h=>h
 ·exact fun b v h=>h
 ·exact fun v h=>h
 ·exact fun v h=>h
 ·intro id b v h;have hu:=ho id;unfold ay at*
  revert h hu;cases o id<;>cases o' id<;>simp only[Up]<;>intro hu h<;>first|trivial|exact h.elim|exact hu.elim|(rw[hu];exact h)|exact h
 ·intro id ver lo v h;have hu:=ho id;unfold ay at*
  revert h hu;cases o id<;>cases o' id<;>simp only[Up]<;>intro hu h<;>first|trivial|exact h.elim|exact hu.elim|skip
  obtain⟨h0,h⟩:=h;rcases hu with hu|⟨e1,e2,e3,e4,e5,e6⟩
  ·exact⟨by omega,fun e=>by omega⟩
  ·subst e1 e2;refine⟨h0,fun e=>?_⟩;rw[e5,<-e3,<-e4];exact h e
 ·intro id v h;have hu:=ho id;unfold ay at*
  revert h hu;cases o id<;>cases o' id<;>simp only[Up]<;>intro hu h<;>first|trivial|exact h.elim|exact hu.elim|(rw[hu];exact h)|exact h
 ·exact fun b p c v h=>h
 ·exact fun a k n v h=>RQ (fun p ⟨a,cs,h1,h2,h3,h4,h5⟩=>⟨a,cs,h1,h2,hi _ h3,iF hi hw (.int .i64) n cs h4,Js (hw _ h3) h5⟩) a k v h
 ·exact fun t x v ⟨a,b,cs,h1,h2,h3,h4,h5,h6,h7,h8⟩=>⟨a,b,cs,h1,h2,hi _ h3,Js (hw _ h3) h4,h5,hi _ h6,iF hi hw t x cs h7,Js (hw _ h6) h8⟩
 ·exact fun v h=>h
 ·exact fun vs h=>h
 ·exact fun x l ow ox vs ⟨v,r,h1,h2,h3⟩=>⟨v,r,h1,ow _ h2,ox _ h3⟩
def hit(ks:List Nat)(φ:Nat->Addr)(o:Nat->Obj)(b:Nat):Prop:=∃id,id∈ks/\aX (φ id) (o id)=true/\(φ id).block=b
def CB(w w':World):Prop:=w'.os=w.os/\w'.output=w.output
structure Comes (C:Cx) (X:Nat->Prop) (φ φ':Nat->Addr) (o:Nat->Obj) (u:List (Nat×Obj)) (w w':World) (v:V) (val:Value):Prop where
 mem:MRel C X φ' (ar o u) w'
 val:ay φ' (ar o u) (ah X φ' (ar o u) w') w' v val
 up:∀id,Up w w' (φ id) (φ' id) (o id) (ar o u id)
 size:w.heap.size<=w'.heap.size
 frame:∀b,b<w.heap.size->¬hit (bO u) φ o b->w'.heap[b]?=w.heap[b]?
 oZ:∀id,o id≠.none->id∉bO u->φ' id=φ id
 news:∀id,aX (φ' id) (ar o u id)=true->w.heap.size<=(φ' id).block\/qJ φ o (φ' id).block
 still:CB w w'
theorem Comes.imm{C:Cx}{X:Nat->Prop}{φ φ':Nat->Addr}{o:Nat->Obj}{u:List (Nat×Obj)}{w w':World}{v:V}{val:Value}(h:Comes C X φ φ' o u w w' v val)(b:Nat)(hb:ah X φ o w b):ah X φ' (ar o u) w' b:=by
 obtain⟨h1,h2,h3⟩:=hb;refine⟨Nat.lt_of_lt_of_le h1 h.size,h2,fun⟨id,e1,e2⟩=>?_⟩;rcases h.news id e1 with e3|e3
 ·omega
 ·exact h3 (e2▸e3)
theorem Comes.stays{C:Cx}{X:Nat->Prop}{φ φ':Nat->Addr}{o:Nat->Obj}{u:List (Nat×Obj)}{w w':World}{v:V}{val:Value}(h:Comes C X φ φ' o u w w' v val)(b:Nat)(hb:ah X φ o w b):w'.heap[b]?=w.heap[b]?:=h.frame b hb.1 fun⟨id,_,e1,e2⟩=>hb.2.2 ⟨id,e1,e2⟩
theorem Comes.keeps{C:Cx}{X:Nat->Prop}{φ φ':Nat->Addr}{o:Nat->Obj}{u:List (Nat×Obj)}{w w':World}{v:V}{val:Value}(h:Comes C X φ φ' o u w w' v val)(x:V)(z:Value)(hx:ay φ o (ah X φ o w) w x z):ay φ' (ar o u) (ah X φ' (ar o u) w') w' x z:=BQ h.imm h.stays h.up x z hx
section
variable {C:Cx} {X:Nat→Prop} {φ:Nat→Addr} {o:Nat→Obj} {w:World}
theorem Comes.same{v:V}{val:Value}(hm:MRel C X φ o w)(hv:ay φ o (ah X φ o w) w v val):Comes C X φ φ o [] w w v val:=⟨hm,hv,fun _=>Up.same fun _ _ h=>h,Nat.le_refl _,fun _ _ _=>rfl,fun _ _ _=>rfl,fun id h=>.inr ⟨id,h,rfl⟩,⟨rfl,rfl⟩⟩
theorem K2{imm:Nat->Prop}{x:V}{v:Value}(h:ay φ o imm w x v):ay φ o imm w (dK x) v:=by
 cases x<;>first|exact h|skip
 simp only[dK,ay,aZ,aC] at*
 simp[h]
theorem qv4{k:IntKind}{n:Int}(h:Cr k n=true):gG k n:=by simpa[Cr,gG] using h
theorem RR{imm:Nat->Prop}(v:Value):ay φ o imm w (EX v) v:=by
 unfold EX;split
 ·simp[ay,aZ,aC]
 ·simp[ay,aZ,aC]
 ·simp[ay,aZ,aC]
 ·rename_i k n;cases h:Cr k n
  ·simp[ay]
  ·simp[ay,aZ,aC,qv4 h]
 ·rename_i s;cases h:Nat.ble s.size 1000000
  ·simp[ay]
  ·simp only[cond_true,ay,aZ,aC];refine⟨s,rfl,rfl,?_⟩;have:=zH h;unfold cC;omega
 all_goals simp[ay]
theorem Rel.bZ{nt:Fr}{st:St}{a:Act}(h:Rel C nt X φ st a w)(x:Operand):ay φ st.obj (ah X φ st.obj w) w (bZ C st.env x) (a.eval x):=by
 cases x with
 |tmp t=>exact K2 (h.env t)
 |const v=>exact RR v
 |global g=>
  simp only[Ev.bZ,Act.eval];split
  ·rename_i e;exact h.fC _ _ _ e
  ·simp[ay]
 |func f=>
  simp only[Ev.bZ];cases h:Nat.blt f 1048576 with
  |false=>simp[ay]
  |true=>exact⟨#[],(K0 (zH h) #[]).symm,rfl⟩
end
def Pk.gives(p:Pk)(v:V)(u:List (Nat×Obj)):Prop:=match p with
 |.fail=>False
 |.mw v' u'=>v'=v/\u'=u
 |.dyn _ x out=>∃y,x=some y/\out y=(v,u)
@[simp] theorem K3{v:V}{u:List (Nat×Obj)}:Pk.fail.gives v u↔False:=Iff.rfl
@[simp] theorem dJ{v v':V}{u u':List (Nat×Obj)}:(Pk.now v u).gives v' u'↔v=v'/\u=u':=Iff.rfl
@[simp] theorem n5{α:Type}{x:Option α}{out:α->V×List (Nat×Obj)}{v:V}{u:List (Nat×Obj)}:(Pk.dyn α x out).gives v u↔∃y,x=some y/\out y=(v,u):=Iff.rfl
@[simp] theorem Fb{t:Ty}{x:Option (den t)}{v:V}{u:List (Nat×Obj)}:(Pk.lr x).gives v u↔∃y,x=some y/\(V.d t y,[])=(v,u):=Iff.rfl
@[simp] theorem dN{b:Bool}{p:Pk}{v:V}{u:List (Nat×Obj)}:(Pk.when b p).gives v u↔b=true/\p.gives v u:=by cases b<;>simp[Pk.when]
section
variable {P:Program} {C:Cx} {X:Nat→Prop} {φ:Nat→Addr} {o:Nat→Obj} {w:World} {imm:Nat→Prop}
theorem o5{k:IntKind}{n:Int}{z:Value}(h:ay φ o imm w (.d (.int k) n) z):z=.int k n/\gG k n:=by simpa[ay,aZ,aC] using h
theorem pT{b:Bool}{z:Value}(h:ay φ o imm w (.d .bool b) z):z=.bool b:=by simpa[ay,aZ,aC] using h
theorem sV{l:List Int}{z:Value}(h:ay φ o imm w (.d .str l) z):∃s:ByteArray,z=.string s/\s.data.toList.map (fun b=>(b.toNat:Int))=l/\s.size<=cC:=by simp only[ay,aZ,aC] at h;obtain⟨s,h1,h2,h3⟩:=h;exact⟨s,by simpa using h1,h2,h3⟩
theorem K4{b:Nat}{z:Value}(h:ay φ o imm w (.d .eP b) z):z=.float .f64 b:=by simpa[ay,aZ,aC] using h
theorem K5{b:Nat×Nat}{z:Value}(h:ay φ o imm w (.d .fl b) z):z=.complex .f64 b.1 b.2:=by simpa[ay,aZ,aC] using h
theorem OZ{b:Nat}:ay φ o imm w (.d .eP b) (.float .f64 b):=by simp[ay,aZ,aC]
theorem z2x{b:Nat×Nat}:ay φ o imm w (.d .fl b) (.complex .f64 b.1 b.2):=by simp[ay,aZ,aC]
theorem ng{k:IntKind}{n:Int}(h:gG k n):ay φ o imm w (.d (.int k) n) (.int k n):=by simpa[ay,aZ,aC] using h
theorem u9{b:Bool}:ay φ o imm w (.d .bool b) (.bool b):=by simp[ay,aZ,aC]
theorem K6{s:ByteArray}{l:List Int}(h:s.data.toList.map (fun b=>(b.toNat:Int))=l)(hl:s.size<=cC):ay φ o imm w (.d .str l) (.string s):=by simp only[ay,aZ,aC];exact⟨s,rfl,h,hl⟩
theorem Jz(k:IntKind)(n:Int):gG k (k.wrap n):=by unfold gG IntKind.wrap IntKind.min IntKind.max;cases k<;>simp[IntKind.bits,IntKind.signed]<;>(try split)<;>omega
def qK(P:Program)(φ:Nat->Addr)(o:Nat->Obj)(imm:Nat->Prop)(w:World)(v:V)(s:Sem Value):Prop:=∃val,s.run P w=.ok val w/\ay φ o imm w v val
theorem RS(k:IntKind):gG k 0:=by unfold gG IntKind.min IntKind.max;cases k<;>simp[IntKind.bits,IntKind.signed]
theorem z43{k:IntKind}{a b:Int}(h:gG k a):gG k (a.tmod b):=by
 have h1:(a.tmod b).natAbs<=a.natAbs:=by rw[Int.natAbs_tmod];exact Nat.mod_le _ _
 have hz:=RS k;unfold gG at*
 rcases Int.le_total 0 a with h0|h0
 ·have:=Int.tmod_nonneg b h0;omega
 ·have:=Int.tmod_nonneg b (show 0<=-a by omega);rw[Int.neg_tmod] at this;omega
theorem z01{op:BinOp}{k:IntKind}{a b:Int}{v:V}{u:List (Nat×Obj)}(ha:gG k a)(h:(Q4 lf op k a b).gives v u)(t:TypeId):u=[]/\qK P φ o imm w v (binOp op t (.int k a) (.int k b)):=by
 cases op<;>simp only[Q4,dJ,Fb,K3] at h
 case quo=>
  obtain⟨y,h1,h2⟩:=h;simp only[Prod.mk.injEq] at h2;obtain⟨rfl,rfl⟩:=h2;simp only[lf,xT] at h1;split at h1
  ·cases h1
  ·rename_i hb;simp only[zK] at h1;subst h1;exact⟨rfl,.int k _,by simp[binOp,Op.intDiv,hb,pure],ng (Jz _ _)⟩
 case rem=>
  obtain⟨y,h1,h2⟩:=h;simp only[Prod.mk.injEq] at h2;obtain⟨rfl,rfl⟩:=h2;simp only[lf,eO] at h1;split at h1
  ·cases h1
  ·rename_i hb;simp only[zK] at h1;subst h1;exact⟨rfl,.int k _,by simp[binOp,Op.intDiv,hb,pure],ng (z43 ha)⟩
 all_goals
  obtain⟨rfl,rfl⟩:=h;refine⟨rfl,?_⟩
  first
  |exact⟨.int k _,by simp[binOp,Op.intArith,Op.intBits,lf,au,cu,pK,qF,ES,nu,kf,pure],ng (Jz _ _)⟩
  |exact⟨.bool _,by simp[binOp,Op.intCmp,lf,aA,bf,af,aw,pure,bne],u9⟩
end
def bl(s:ByteArray):List Int:=s.data.toList.map fun b=>(b.toNat:Int)
theorem z2y{a b:UInt8}(h:(a.toNat:Int)=(b.toNat:Int)):a=b:=by apply UInt8.toNat_inj.1;omega
theorem qgw:∀(x y:List UInt8),(x.map (fun b=>(b.toNat:Int))==y.map (fun b=>(b.toNat:Int)))=(x==y)
 |[],[]=>rfl
 |[],_::_=>rfl
 |_::_,[]=>rfl
 |a::x,b::y=>by
  have e:(((a.toNat:Nat):Int)==((b.toNat:Nat):Int))=(a==b):=by rw[Bool.eq_iff_iff];simp only[beq_iff_eq];exact⟨z2y,fun h=>by rw[h]⟩
  have ih:=qgw x y;simp only[zQ,List.cons_beq_cons,e,ih]
theorem qkr:∀(x y:List UInt8),strLt (x.map fun b=>(b.toNat:Int)) (y.map fun b=>(b.toNat:Int))=Op.bytesLess x y
 |[],[]=>rfl
 |[],_::_=>rfl
 |_::_,[]=>rfl
 |a::x,b::y=>by
  have e1:decide (((a.toNat:Nat):Int)<((b.toNat:Nat):Int))=decide (a<b):=by rw[decide_eq_decide,UInt8.lt_iff_toNat_lt];omega
  have e2:decide (((a.toNat:Nat):Int)=((b.toNat:Nat):Int))=(a==b):=by rw[Bool.eq_iff_iff];simp only[decide_eq_true_eq,beq_iff_eq];exact⟨z2y,fun h=>by rw[h]⟩
  simp only[zQ,strLt,Op.bytesLess,e1,e2,qkr x y]
theorem RT(a b:ByteArray):aM (bl a) (bl b)=(a.toList==b.toList):=by rw[ByteArray.toList_eq,ByteArray.toList_eq];exact qgw _ _
theorem z02(a b:ByteArray):strLt (bl a) (bl b)=Op.bytesLess a.toList b.toList:=by rw[ByteArray.toList_eq,ByteArray.toList_eq];exact qkr _ _
theorem qv6(a:ByteArray):(bl a).length=a.size:=by unfold bl;rw[zA];rfl
theorem qv7(a b:ByteArray):bl (a++b)=bl a++bl b:=by unfold bl;rw[<-zE,ByteArray.data_append,Array.toList_append]
section
variable {P:Program} {φ:Nat→Addr} {o:Nat→Obj} {w:World} {imm:Nat→Prop}
theorem z03{op:BinOp}{a b:ByteArray}{v:V}{u:List (Nat×Obj)}(h:(Q5 lf op (bl a) (bl b)).gives v u)(t:TypeId):u=[]/\qK P φ o imm w v (binOp op t (.string a) (.string b)):=by
 cases op<;>simp only[Q5,dJ,n5,K3] at h
 case add=>
  obtain⟨y,h1,h2⟩:=h;simp only[Prod.mk.injEq] at h2;obtain⟨rfl,rfl⟩:=h2;simp only[lf,fit,aT,aa,qv6] at h1;split at h1
  ·rename_i hb;refine⟨rfl,.string (a++b),?_,?_⟩
   ·simp[binOp,Op.stringOp,pure,Sem.run,IntKind.max,IntKind.signed,IntKind.bits];omega
   ·refine K6 (show bl (a++b)=bl a++bl b from qv7 a b) ?_;rw[ByteArray.size_append];unfold cC;omega
  ·cases h1
 all_goals
  obtain⟨rfl,rfl⟩:=h;refine⟨rfl,.bool _,?_,u9⟩;simp[binOp,Op.stringOp,lf,aw,aR,RT,z02,pure]
end
section
variable {P:Program} {C:Cx} {φ:Nat→Addr} {o:Nat→Obj} {w:World} {imm:Nat→Prop}
theorem z6l{k:IntKind}{a:Int}(n:Nat)(h:gG k a):gG k (a.fdiv (2 ^ n)):=by
 have hp:(0:Int)<2 ^ n:=Int.pow_pos om;rw[Int.fdiv_eq_ediv_of_nonneg _ (Int.le_of_lt hp)];have hz:=RS k;unfold gG at*
 rcases Int.le_total 0 a with h0|h0
 ·have h1:=Int.ediv_nonneg h0 (Int.le_of_lt hp);have h2:a / 2 ^ n<=a:=Int.ediv_le_self _ h0;omega
 ·have h1:a / 2 ^ n<=0:=Int.ediv_nonpos_of_nonpos_of_neg h0 hp;have h2:a<=a / 2 ^ n:=by rw[Int.le_ediv_iff_mul_le hp];have:a*2 ^ n<=a*1:=Int.mul_le_mul_of_nonpos_left h0 om;omega
  omega
theorem qq3{op:BinOp}(hc:op=.shl\/op=.shr){k k':IntKind}{a b:Int}{v:V}{u:List (Nat×Obj)}(ha:gG k a)(h:(match op with|.shl=>Pk.lr (t:=.int k) (lf.pI k a b)|_=>Pk.lr (t:=.int k) (lf.pJ k a b)).gives v u)(t:TypeId):u=[]/\qK P φ o imm w v (binOp op t (.int k a) (.int k' b)):=by
 rcases hc with rfl|rfl<;>simp only[Fb,Prod.mk.injEq,lf,pI,pJ] at h<;>obtain⟨y,h1,rfl,rfl⟩:=h<;>split at h1
 ·cases h1
 ·rename_i hb;simp only[zK] at h1;subst h1;exact⟨rfl,.int k _,by simp[binOp,Op.shift,hb,pure],ng (Jz _ _)⟩
 ·cases h1
 ·rename_i hb;simp only[zK] at h1;subst h1;exact⟨rfl,.int k _,by simp[binOp,Op.shift,hb,pure],ng (z6l _ ha)⟩
end
theorem K7{P:Program}{t:TypeId}{i:TypeInfo}(h:P.types.toList[t]?=some i):P.info? t=some i:=by
 rw[zF] at h;have ht:t<P.types.size:=by
  rcases Nat.lt_or_ge t P.types.size with h1|h1
  ·exact h1
  ·rw[ja h1] at h;cases h
 simp only[Tables.info?,ht,if_true];exact h
theorem lQ{P:Program}{t:TypeId}{d:TypeDesc}(h:desc P t=some d):P.underlying t=some d:=by
 unfold desc at h;cases h1:P.types.toList[t]? with
 |none=>rw[h1] at h;cases h
 |some i=>
  rw[h1] at h;unfold Program.underlying;rw[K7 h1];obtain⟨d',_,_,_,_,_,_,_,_,_⟩:=i;cases d'<;>simp only at h ⊢<;>first|exact h|skip
  rename_i u;cases h2:P.types.toList[u]? with
  |none=>rw[h2] at h;cases h
  |some j=>rw[h2] at h;rw[K7 h2];exact h
theorem K8{k k':IntKind}(h:Nat.beq (tl k) (tl k')=true):k=k':=by cases k<;>cases k'<;>first|rfl|cases h
theorem F7:∀{a b:Ty},pM a b=true->a=b
 |.int k,b,h=>by cases b<;>simp only[pM] at h<;>first|exact congrArg Ty.int (K8 h)|cases h
 |.bool,b,h=>by cases b<;>simp only[pM] at h<;>first|rfl|cases h
 |.eP,b,h=>by cases b<;>simp only[pM] at h<;>first|rfl|cases h
 |.fl,b,h=>by cases b<;>simp only[pM] at h<;>first|rfl|cases h
 |.str,b,h=>by cases b<;>simp only[pM] at h<;>first|rfl|cases h
 |.unit,b,h=>by cases b<;>simp only[pM] at h<;>first|rfl|cases h
 |.sl e,b,h=>by cases b<;>simp only[pM] at h<;>first|exact congrArg Ty.sl (F7 h)|cases h
 |.st e,b,h=>by cases b<;>simp only[pM] at h<;>first|exact congrArg Ty.st (F7 h)|cases h
 |.ks e,b,h=>by cases b<;>simp only[pM] at h<;>first|exact congrArg Ty.ks (F7 h)|cases h
 |.pair c d,b,h=>by cases b<;>simp only[pM,zd] at h<;>first|(rw[F7 h.1,F7 h.2])|cases h
 |.arr n e,b,h=>by cases b<;>simp only[pM,zd] at h<;>first|(rw[zh h.1,F7 h.2])|cases h
theorem F8{T:Ty}{x:Option Ty}(h:gY T x=true):x=some T:=by
 cases x with
 |none=>cases h
 |some T'=>exact congrArg some (F7 h)
theorem bW{C:Cx}{t:TypeId}{T:Ty}(h:C.is t T=true):C.ty t=some T:=F8 h
def K9(f:List Value->Option (List Value)):Nat->List Value->Option (List Value)
 |0,cs=>some cs
 |n+1,cs=>match f cs with
  |some r=>K9 f n r
  |none=>none
def oy:Ty->List Value->Option (List Value)
 |.int k,.int k' n::r=>bif Nat.beq (tl k) (tl k')&&decide (n=0) then some r else none
 |.bool,.bool false::r=>some r
 |.eP,.float .f64 0::r=>some r
 |.fl,.complex .f64 0 0::r=>some r
 |.str,.string s::r=>bif Nat.beq s.size 0 then some r else none
 |.sl _,.slice none 0 0::r=>some r
 |.ks _,.slice none 0 0::r=>some r
 |.unit,cs=>some cs
 |.pair a b,cs=>match oy a cs with
  |some r=>oy b r
  |none=>none
 |.st p,cs=>oy p cs
 |.arr n e,cs=>K9 (oy e) n cs
 |_,_=>none
theorem qgx{α:Type}{f:List Value->Option (List Value)}{g:α->List Value->Prop}{z:α}(hf:∀cs r,f cs=some r->∃c,cs=c++r/\g z c):∀(n:Nat) (cs r:List Value),K9 f n cs=some r->∃c,cs=c++r/\bG g (List.replicate n z) c
 |0,cs,r,h=>by simp only[K9,zK] at h;subst h;exact⟨[],rfl,rfl⟩
 |n+1,cs,r,h=>by
  simp only[K9] at h;split at h
  ·rename_i r1 h1;obtain⟨c,e1,e2⟩:=hf _ _ h1;obtain⟨d,e3,e4⟩:=qgx hf n _ _ h;exact⟨c++d,by rw[e1,e3,zD],c,d,rfl,e2,e4⟩
  ·cases h
theorem qnu(imm:Nat->Prop)(w:World)(T:Ty):∀(cs r:List Value),oy T cs=some r->∃c,cs=c++r/\aC imm w T (zero T) c:=by
 induction T with
 |int k=>
  intro cs r h;cases cs with
  |nil=>cases h
  |cons v cs=>
   cases v<;>(try simp only[oy] at h)<;>try (cases h;done)
   rename_i k' n;cases hb:(Nat.beq (tl k) (tl k')&&decide (n=0)) with
   |false=>rw[hb] at h;cases h
   |true=>rw[hb] at h;simp only[zd,decide_eq_true_eq] at hb;simp only[cond_true,zK] at h;obtain⟨h1,rfl⟩:=hb;have:=K8 h1;subst this h;exact⟨[_],rfl,rfl,RS k⟩
 |bool=>
  intro cs r h;cases cs with
  |nil=>cases h
  |cons v cs=>
   cases v<;>(try simp only[oy] at h)<;>try (cases h;done)
   rename_i b;cases b
   ·simp only[oy,zK] at h;subst h;exact⟨[_],rfl,rfl⟩
   ·cases h
 |eP=>
  intro cs r h;cases cs with
  |nil=>cases h
  |cons v cs=>
   cases v<;>(try simp only[oy] at h)<;>try (cases h;done)
   rename_i k b;cases k<;>(try simp only[oy] at h)<;>try (cases h;done)
   cases b<;>(try simp only[oy] at h)<;>try (cases h;done)
   injection h with h;subst h;exact⟨[_],rfl,rfl⟩
 |fl=>
  intro cs r h;cases cs with
  |nil=>cases h
  |cons v cs=>
   cases v<;>(try simp only[oy] at h)<;>try (cases h;done)
   rename_i k a b;cases k<;>(try simp only[oy] at h)<;>try (cases h;done)
   cases a<;>(try simp only[oy] at h)<;>try (cases h;done)
   cases b<;>(try simp only[oy] at h)<;>try (cases h;done)
   injection h with h;subst h;exact⟨[_],rfl,rfl⟩
 |str=>
  intro cs r h;cases cs with
  |nil=>cases h
  |cons v cs=>
   cases v<;>(try simp only[oy] at h)<;>try (cases h;done)
   rename_i s;cases hb:Nat.beq s.size 0 with
   |false=>rw[hb] at h;cases h
   |true=>rw[hb] at h;simp only[cond_true,zK] at h;subst h;have hz:=zh hb;refine⟨[_],rfl,s,rfl,?_,by omega⟩;have:s.data.toList=[]:=zT (by simpa using hz);rw[this];rfl
 |sl e _=>
  intro cs r h;cases cs with
  |nil=>cases h
  |cons v cs=>
   cases v<;>(try simp only[oy] at h)<;>try (cases h;done)
   rename_i a n m;cases a<;>cases n<;>cases m<;>try (cases h;done)
   have h:=zG h;subst h;exact⟨[_],rfl,_,rfl,Nat.zero_le _,.inl ⟨rfl,rfl,rfl⟩⟩
 |ks e _=>
  intro cs r h;cases cs with
  |nil=>cases h
  |cons v cs=>
   cases v<;>(try simp only[oy] at h)<;>try (cases h;done)
   rename_i a n m;cases a<;>cases n<;>cases m<;>try (cases h;done)
   have h:=zG h;subst h;exact⟨[_],rfl,1,_,rfl,Nat.zero_le _,.inl ⟨rfl,rfl,rfl⟩⟩
 |unit=>intro cs r h;simp only[oy,zK] at h;subst h;exact⟨[],rfl,rfl⟩
 |pair a b oz kA=>
  intro cs r h;simp only[oy] at h;split at h
  ·rename_i r1 h1;obtain⟨c,e1,e2⟩:=oz _ _ h1;obtain⟨d,e3,e4⟩:=kA _ _ h;exact⟨c++d,by rw[e1,e3,zD],c,d,rfl,e2,e4⟩
  ·cases h
 |st p ih=>intro cs r h;exact ih _ _ h
 |arr n e ih=>intro cs r h;obtain⟨c,e1,e2⟩:=qgx ih n _ _ h;exact⟨c,e1,by simp[zero],e2⟩
def La:Ty->Ty
 |.ks p=>.sl (nX p)
 |t=>t
def sW(C:Cx):List Field->Ty->Nat->Bool
 |[],.unit,_=>true
 |[f],p,off=>C.is f.type (La p)&&Nat.beq f.offset off
 |f::g::r,.pair a b,off=>C.is f.type a&&Nat.beq f.offset off&&sW C (g::r) b (off+aN a)
 |_,_,_=>false
def oA(C:Cx):TypeDesc->Ty->Bool
 |.int k,.int k'=>Nat.beq (tl k) (tl k')
 |.bool,.bool=>true
 |.float .f64,.eP=>true
 |.complex .f64,.fl=>true
 |.string,.str=>true
 |.slice e,.sl e'=>C.is e e'
 |.array n e,.arr n' e'=>Nat.beq n n'&&C.is e e'
 |.struct fs,.st p=>sW C fs.toList p 0
 |_,_=>false
def kB:Ty->Bool
 |.st _=>true|.arr .. =>true|_=>false
def F9:Value->Bool
 |.agg _=>true|_=>false
def z44(C:Cx)(t:TypeId)(T:Ty):Bool:=
 match C.P.types.toList[t]?,desc C.P t with
 |some i,some d=>Nat.beq i.size (aN T)&&Nat.ble i.bytes 65536&&oA C d T&&
  (match i.zero with
   |some z=>(F9 z==kB T)&&(match oy T z.cells.toList with|some []=>true|_=>false)
   |none=>false)
 |_,_=>false
def JA(C:Cx):List (Nat×Ty)->Bool
 |[]=>true
 |p::r=>z44 C p.1 p.2&&JA C r
structure oB (C:Cx) (t:TypeId) (T:Ty):Prop where
 info:∃i z,C.P.info? t=some i/\C.P.types.toList[t]?=some i/\i.size=aN T/\i.bytes<=65536/\i.zero=some z/\F9 z=kB T/\∀imm w,aC imm w T (zero T) z.cells.toList
 desc:∃d,desc C.P t=some d/\C.P.underlying t=some d/\oA C d T=true
theorem qs9{C:Cx}{t:TypeId}{T:Ty}(h:z44 C t T=true):oB C t T:=by
 unfold z44 at h;split at h
 ·rename_i i d h1 h2;simp only[zd] at h;obtain⟨⟨⟨h3,h4⟩,h5⟩,h6⟩:=h;split at h6
  ·rename_i z hz;simp only[zd] at h6;obtain⟨h7,h8⟩:=h6;refine⟨⟨i,z,K7 h1,h1,zh h3,zH h4,hz,?_,?_⟩,d,h2,lQ h2,h5⟩
   ·exact eq_of_beq h7
   ·intro imm w;split at h8
    ·rename_i h9;obtain⟨c,e1,e2⟩:=qnu imm w T _ _ h9;rw[e1,zC];exact e2
    ·cases h8
  ·cases h6
 ·cases h
theorem RU{C:Cx}:∀{l:List (Nat×Ty)},JA C l=true->∀t T,Cq l t=some T->oB C t T
 |[],_,_,_,h=>by cases h
 |(a,S)::r,hc,t,T,h=>by
  simp only[JA,zd] at hc;simp only[Cq] at h;cases hb:Nat.beq a t with
  |true=>rw[hb] at h;simp only[cond_true,zK] at h;have:=zh hb;subst this h;exact qs9 hc.1
  |false=>rw[hb] at h;exact RU hc.2 t T h
structure cw (C:Cx):Prop where
 ef:∀t T,C.ty t=some T->oB C t T
section
variable {P:Program} {C:Cx} {X:Nat→Prop} {φ:Nat→Addr} {o:Nat→Obj} {w:World} {imm:Nat→Prop}
theorem Fc{e:Ty}{s:Sl (den e)}{z:Value}(h:ay φ o imm w (.d (.sl e) s) z):s.l.length<=cC/\((s.nil=true/\s.l=[]/\z=.slice none 0 0)\/(s.nil=false/\∃a cap ec,z=.slice (some a) s.l.length cap/\(cap≠0->a.spot=none)/\(s.l≠[]->imm a.block)/\bG (aC imm w e) s.l ec/\lA w a ec/\s.l.length<=cap)):=by
 simp only[ay,aZ,aC] at h;obtain⟨v,h1,h2,h3⟩:=h;have:z=v:=by simpa using h1
 subst this;exact⟨h2,h3⟩
theorem qgz{x:V}{z:Value}{t:Ty}{s:Sl (den t)}(h:ay φ o imm w x z)(he:BK lf o x=some ⟨t,s⟩)(hl:∀id,qq φ o imm w id (o id)):(s.nil=true/\s.l=[]/\z=.slice none 0 0)\/(s.nil=false/\∃a cap,z=.slice (some a) s.l.length cap):=by
 cases x<;>simp only[BK] at he<;>try (cases he;done)
 ·rename_i id ver;have ho:=hl id;unfold ay at h;split at he
  ·rename_i t' aF fr s' e1;rw[e1] at h ho;cases hb:Nat.beq ver aF with
   |false=>rw[hb] at he;cases he
   |true=>
    rw[hb] at he;simp only[cond_true,zK,Sigma.mk.injEq] at he;obtain⟨rfl,he⟩:=he;have he:=eq_of_heq he;subst he;have h:=h.2 (zh hb);rcases h with ⟨h1,h2⟩|⟨h1,cap,h2,h3,h4⟩
    ·exact .inl ⟨h1,ho.2.1 h1,h2⟩
    ·exact .inr ⟨h1,_,cap,h2⟩
  ·cases he
 ·rename_i id ver n cp;have ho:=hl id;unfold ay at h;split at he
  ·rename_i t' aF fr s' e1;rw[e1] at h ho;cases hb:Nat.beq ver aF with
   |false=>rw[hb] at he;cases he
   |true=>
    rw[hb] at he;simp only[cond_true,zK,Sigma.mk.injEq] at he;obtain⟨rfl,he⟩:=he;have he:=eq_of_heq he;subst he;obtain⟨h0,h,_⟩:=h.2 (zh hb);rcases h with ⟨h1,h2⟩|⟨h1,cap,h2,h3,h4⟩
    ·exact .inl ⟨h1,by simp[lf,aO,ho.2.1 h1],h2⟩
    ·have e2:(lf.aO s'.l n).length=n:=by simp[lf,aO,Nat.min_eq_left h0]
     exact .inr ⟨h1,bare (φ id),cap,by rw[h2];exact congrArg (fun k=>Value.slice (some (bare (φ id))) k cap) e2.symm⟩
  ·cases he
 ·rename_i id ver lo;have ho:=hl id;unfold ay at h;split at he
  ·rename_i t' aF fr s' e1;rw[e1] at h ho;cases hb:Nat.beq ver aF with
   |false=>rw[hb] at he;cases he
   |true=>
    rw[hb] at he;simp only[cond_true,zK,Sigma.mk.injEq] at he;obtain⟨rfl,he⟩:=he;have he:=eq_of_heq he;subst he;obtain⟨k,rfl,hk,h⟩:=h.2 (zh hb);rcases h with ⟨h1,h2⟩|⟨h1,cap,h2,h3⟩
    ·exact .inl ⟨h1,by simp[lf,cP,ho.2.1 h1],h2⟩
    ·have e2:(lf.cP s'.l (k:Int)).length=s'.l.length-k:=by simp[lf,cP]
     exact .inr ⟨h1,_,cap,by rw[h2];exact congrArg (fun j=>Value.slice _ j cap) e2.symm⟩
  ·cases he
end
def qkt:Value->Bool
 |.nilIface=>false|.agg _=>false|_=>true
section
variable {P:Program} {C:Cx} {X:Nat→Prop} {φ:Nat→Addr} {o:Nat→Obj} {w:World} {imm:Nat→Prop}
theorem qnv{op:BinOp}{t:TypeId}{x y:Operand}{a b:Value}(h:qkt a=true):(eqGuard op t x y a b).run P w=.ok () w:=by cases a<;>first|(cases h;done)|(cases op<;>cases b<;>simp[eqGuard])
theorem z45{op:BinOp}{t:TypeId}{x y:Value}{b:Bool}{v:V}{u:List (Nat×Obj)}(h:(jT lf op b).gives v u)(he:(Op.equal t x y).run P w=.ok b w)(hi:∀op,op=.eql\/op=.neq->binOp op t x y=(match op with|.eql=>(do pure (.bool (<-Op.equal t x y)))|_=>(do pure (.bool (!(<-Op.equal t x y)))))):u=[]/\qK P φ o imm w v (binOp op t x y):=by
 cases op<;>simp only[jT,dJ,K3] at h
 ·obtain⟨rfl,rfl⟩:=h;refine⟨rfl,.bool b,?_,u9⟩;rw[hi _ (.inl rfl)];simp[he]
 ·obtain⟨rfl,rfl⟩:=h;refine⟨rfl,.bool (!b),?_,u9⟩;rw[hi _ (.inr rfl)];simp[he]
theorem JB{t:TypeId}{n:Nat}(h:Nat.beq (wq C t) n=true)(hn:n<5):∃d,C.P.underlying t=some d/\(match n,d with|0,.bool=>True|1,.slice _=>True|2,.func .. =>True|3,.pointer _=>True|4,.map .. =>True|_,_=>False):=by
 have h:=zh h;unfold wq at h;cases hd:desc C.P t with
 |none=>rw[hd] at h;simp at h;omega
 |some d=>rw[hd] at h;exact⟨d,lQ hd,by cases d<;>simp only at h<;>subst h<;>first|trivial|omega⟩
theorem qsa(d:Nat){t e:TypeId}(ht:P.underlying t=some (.slice e))(b:Option Addr)(n m:Nat):(Op.equalIn (d+1) t (.slice b n m) (.slice none 0 0)).run P w=.ok b.isNone w:=by cases b<;>simp[Op.equalIn,run_underlying ht]
theorem qku(d:Nat){t:TypeId}{ps rs:Array TypeId}{v:Bool}(ht:P.underlying t=some (.func ps rs v))(f:Fn)(a c:Array Value):(Op.equalIn (d+1) t (.func f a c) .nilFunc).run P w=.ok false w:=by simp[Op.equalIn,run_underlying ht]
theorem qcy(d:Nat){t:TypeId}{ps rs:Array TypeId}{v:Bool}(ht:P.underlying t=some (.func ps rs v)):(Op.equalIn (d+1) t .nilFunc .nilFunc).run P w=.ok true w:=by simp[Op.equalIn,run_underlying ht]
theorem z04(d:Nat){t e:TypeId}(ht:P.underlying t=some (.pointer e))(a:Option Addr):(Op.equalIn (d+1) t (.pointer a) (.pointer none)).run P w=.ok a.isNone w:=by cases a<;>simp[Op.equalIn,run_underlying ht]
theorem Ga{t:TypeId}{a b:Value}{r:Bool}(h:(Op.equalIn (9999+1) t a b).run P w=.ok r w):(Op.equal t a b).run P w=.ok r w:=h
theorem RV{x:V}{z:Value}(hx:ay φ o imm w x z)(h:sure o x=true):∃a,z=.pointer (some a):=by
 cases x<;>simp only[sure] at h<;>try (cases h;done)
 ·rename_i id off;unfold ay at hx;cases e:o id<;>rw[e] at h hx<;>simp only at h hx<;>try (cases h;done)
  ·exact⟨_,hx⟩
  ·exact⟨_,hx (zh h).symm⟩
 ·obtain⟨a,cs,h1,_⟩:=hx;exact⟨a,h1⟩
theorem qL{op:BinOp}{t:TypeId}{x y:Value}{b:Bool}{v:V}{u:List (Nat×Obj)}(h:(jT lf op b).gives v u)(he:(Op.equal t x y).run P w=.ok b w)(hi:(∀op:BinOp,op=.eql->binOp op t x y=(do pure (.bool (<-Op.equal t x y))))/\(∀op:BinOp,op=.neq->binOp op t x y=(do pure (.bool (!(<-Op.equal t x y)))))):u=[]/\qK P φ o imm w v (binOp op t x y):=
 z45 h he fun op ho=>by
  rcases ho with rfl|rfl
  ·exact hi.1 _ rfl
  ·exact hi.2 _ rfl
theorem z05{op:BinOp}{a b:Nat}{v:V}{u:List (Nat×Obj)}(h:(Q6 lf op a b).gives v u)(t:TypeId):u=[]/\qK P φ o imm w v (binOp op t (.float .f64 a) (.float .f64 b)):=by
 cases op<;>simp only[Q6,dJ,Fb,K3] at h
 ·obtain⟨y,h1,h2⟩:=h;simp only[Prod.mk.injEq] at h2;obtain⟨rfl,rfl⟩:=h2;have h1:Ieee.double.add a b=some y:=h1;exact⟨rfl,.float .f64 y,by simp[binOp,Op.floatArith,FloatKind.format,h1],OZ⟩
 ·obtain⟨rfl,rfl⟩:=h;exact⟨rfl,.bool _,by simp[binOp,Op.floatCmp,FloatKind.format,lf,KA],u9⟩
theorem z06{op:BinOp}{a b:Nat×Nat}{v:V}{u:List (Nat×Obj)}(h:(Q7 lf op a b).gives v u)(t:TypeId):u=[]/\qK P φ o imm w v (binOp op t (.complex .f64 a.1 a.2) (.complex .f64 b.1 b.2)):=by
 cases op<;>simp only[Q7,Fb,K3] at h
 ·obtain⟨y,h1,h2⟩:=h;simp only[Prod.mk.injEq] at h2;obtain⟨rfl,rfl⟩:=h2;cases hx:Ieee.double.add a.1 b.1 with
  |none=>have h1:ag (Ieee.double.add a.1 b.1) (fun x=>ag (Ieee.double.add a.2 b.2) fun y=>some (x,y))=some y:=h1;rw[hx] at h1;cases h1
  |some x=>
   cases hz:Ieee.double.add a.2 b.2 with
   |none=>have h1:ag (Ieee.double.add a.1 b.1) (fun x=>ag (Ieee.double.add a.2 b.2) fun y=>some (x,y))=some y:=h1;rw[hx,hz] at h1;cases h1
   |some z=>have h1:ag (Ieee.double.add a.1 b.1) (fun x=>ag (Ieee.double.add a.2 b.2) fun y=>some (x,y))=some y:=h1;rw[hx,hz] at h1;injection h1 with h1;subst h1;exact⟨rfl,.complex .f64 x z,by simp[binOp,Op.complexOp,Op.Complex.arith,Op.floatArith,FloatKind.format,hx,hz],z2x⟩
theorem z07{op:BinOp}{t:TypeId}{x y:V}{zx zy:Value}{v:V}{u:List (Nat×Obj)}(hl:∀id,qq φ o imm w id (o id))(hx:ay φ o imm w x zx)(hy:ay φ o imm w y zy)(hj:∀(t:TypeId) (p:Ty) (a b:den p) (xs ys:Array Value),bM t C.eqs=true->C.ty t=some (.st p)->aC imm w p a xs.toList->aC imm w p b ys.toList->(Op.equal t (.agg xs) (.agg ys)).run C.P w=.ok (fB lf p a b) w)(h:(Jk lf C o op t x y).gives v u):u=[]/\qK C.P φ o imm w v (binOp op t zx zy):=by
 have hc:∀(s:Bool) (zx:Value),(Nat.beq (wq C t) 1=true/\(jT lf op s).gives v u)->zy=.slice none 0 0->(∃b n m,zx=.slice b n m/\b.isNone=s)->u=[]/\qK C.P φ o imm w v (binOp op t zx zy):=by
  rintro s zx ⟨h1,h2⟩ rfl ⟨b,n,m,rfl,rfl⟩;obtain⟨d,hd,hk⟩:=JB h1 om;cases d<;>try exact False.elim hk
  exact qL h2 (Ga (qsa _ hd _ _ _)) ⟨by rintro _ rfl;rfl,by rintro _ rfl;rfl⟩
 have hf:∀(zx:Value) (s:Bool),Nat.beq (wq C t) 3=true->(jT lf op s).gives v u->zy=.pointer none->(∃a,zx=.pointer a/\a.isNone=s)->u=[]/\qK C.P φ o imm w v (binOp op t zx zy):=by
  rintro zx s h1 h2 rfl ⟨a,rfl,rfl⟩;obtain⟨d,hd,hk⟩:=JB h1 om;cases d<;>try exact False.elim hk
  refine qL h2 (Ga (z04 _ hd _)) ⟨by rintro _ rfl;rfl,by rintro _ rfl;rfl⟩
 unfold Jk at h;split at h
 ·
  rename_i k a k' b;obtain⟨rfl,ha⟩:=o5 hx;obtain⟨rfl,hb⟩:=o5 hy;split at h
  ·exact qq3 (.inl rfl) ha h t
  ·exact qq3 (.inr rfl) ha h t
  ·split at h
   ·rename_i e _;subst e;exact z01 ha h t
   ·cases h
 ·obtain⟨s,rfl,rfl,_⟩:=sV hx;obtain⟨s',rfl,rfl,_⟩:=sV hy;exact z03 h t
 ·have e1:=K4 hx;have e2:=K4 hy;subst e1 e2;exact z05 h t
 ·have e1:=K5 hx;have e2:=K5 hy;subst e1 e2;exact z06 h t
 ·have e1:=pT hx;have e2:=pT hy;subst e1 e2;rw[dN] at h;obtain⟨d,hd,hk⟩:=JB h.1 om;cases d<;>try exact False.elim hk
  exact qL h.2 (Ga (run_equalIn_bool _ _ _ _ _ hd)) ⟨by rintro _ rfl;rfl,by rintro _ rfl;rfl⟩
 ·rename_i p a p' b;split at h
  ·rename_i b' hb;rw[dN,zd] at h;unfold gX at hb;split at hb
   ·rename_i hp _;subst hp;simp only[zK] at hb;subst hb;obtain⟨xs,rfl,hm⟩:=hx;obtain⟨ys,rfl,hn⟩:=hy;exact qL h.2 (hj t p' a b xs ys h.1.1 (bW h.1.2) hm hn) ⟨by rintro _ rfl;rfl,by rintro _ rfl;rfl⟩
   ·cases hb
  ·cases h
 ·rename_i e s;rw[dN] at h;refine hc _ _ h hy ?_;obtain⟨_,h2⟩:=Fc hx;rcases h2 with ⟨h3,_,rfl⟩|⟨h3,a,cap,ec,rfl,_⟩
  ·exact⟨_,_,_,rfl,by rw[h3];rfl⟩
  ·exact⟨_,_,_,rfl,by rw[h3];rfl⟩
 ·rw[dN] at h;exact hc _ _ h hy ⟨_,_,_,hx,rfl⟩
 ·rename_i f l;rw[dN] at h;obtain⟨c,rfl,_⟩:=hx;have e2:zy=.nilFunc:=hy;subst e2;obtain⟨d,hd,hk⟩:=JB h.1 om;cases d<;>try exact False.elim hk
  exact qL h.2 (Ga (qku _ hd _ _ _)) ⟨by rintro _ rfl;rfl,by rintro _ rfl;rfl⟩
 ·rw[dN] at h;have e1:zx=.nilFunc:=hx;have e2:zy=.nilFunc:=hy;subst e1 e2;obtain⟨d,hd,hk⟩:=JB h.1 om;cases d<;>try exact False.elim hk
  exact qL h.2 (Ga (qcy _ hd)) ⟨by rintro _ rfl;rfl,by rintro _ rfl;rfl⟩
 ·rename_i a k n;rw[dN] at h;have e2:zy=.nilFunc:=hy;subst e2;have hr:wD imm w a k n zx:=hx;have hg:(Int.ofNat (pL a 0))=((a.length:Nat):Int):=by rw[RP,zN];rfl
  obtain⟨d,hd,hk⟩:=JB h.1 om;cases d<;>try exact False.elim hk
  rcases OY a hr with ⟨rfl,e⟩|⟨f,c,rfl,e⟩
  ·have hb:lf.e k (Int.ofNat (pL a 0))=true:=by rw[hg,e];show(((a.length:Nat):Int)==_)=true;simp
   rw[hb] at h;exact qL h.2 (Ga (qcy _ hd)) ⟨by rintro _ rfl;rfl,by rintro _ rfl;rfl⟩
  ·have hb:lf.e k (Int.ofNat (pL a 0))=false:=by rw[hg];show(k==_)=false;simp[e]
   rw[hb] at h;exact qL h.2 (Ga (qku _ hd _ _ _)) ⟨by rintro _ rfl;rfl,by rintro _ rfl;rfl⟩
 ·rw[dN] at h;exact hf _ _ h.1 h.2 hy ⟨none,hx,rfl⟩
 ·rw[dN,zd] at h;obtain⟨a,ha⟩:=RV hx h.1.2;exact hf _ _ h.1.1 h.2 hy ⟨some a,ha,rfl⟩
 ·split at h
  ·rename_i e s he;rw[dN] at h;refine hc _ _ h hy ?_;rcases qgz hx he hl with ⟨h3,_,rfl⟩|⟨h3,a,cap,rfl⟩
   ·exact⟨_,_,_,rfl,by rw[h3];rfl⟩
   ·exact⟨_,_,_,rfl,by rw[h3];rfl⟩
  ·cases h
 ·cases h
end
end Ev