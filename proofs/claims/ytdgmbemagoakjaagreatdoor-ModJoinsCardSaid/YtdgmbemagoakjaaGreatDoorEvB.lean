/- The evaluator: code; what data is in memory; numbers, strings, types. No statement of its own about the program. -/
import Derived.Test.YtdgmbemagoakjaaGreatDoorEvA
import GoSem.Machine.Frame
import GoSem.Core.Sem
import Derived.Orders
import Derived.Laws.Strings
import Derived.Laws.StructEq
import Derived.Laws.Slices
namespace Ev
open Go
def bit(t:Nat):Nat:=1<<<t
def RW:Operand->Nat
 |.tmp t=>bit t
 |_=>0
def NB:List Operand->Nat
 |[]=>0
 |x::r=>RW x|||NB r
def zak(a b:Nat):Nat:=(a|||b) ^^^ b
def z8m(o:Oper):Nat:=NB o.op.operands.toList
def U9:List Oper->Nat->Nat
 |[],m=>m
 |o::r,m=>let m':=U9 r m
  (match o.dst with|some d=>zak m' (bit d)|none=>m')|||z8m o
def look(i:Nat):List (Nat×Nat)->Nat
 |[]=>0
 |(a,b)::r=>bif Nat.beq a i then b else look i r
def jZ{β:Type}(n:Nat)(k:Nat->β):β:=Nat.rec (k 0) (fun m _=>k (Nat.succ m)) n
inductive AC where
 |skip
 |region (id:Nat) (ops:Array Oper) (draw:Bool)
 |seq (a b:AC)
 |cond (c:Operand) (m:List Nat) (a b:AC)
 |block (id:Nat) (m:List Nat) (b:AC)
 |loop (m:List Nat) (b:AC)
 |exit (id:Nat)
 |goto (l:Nat)
 |ret
 |scope (b:AC)
 |jump (l:Nat) (m:List Nat) (p r:AC)
 |bad
def GB(l:Nat):Code->Bool
 |.seq a b=>GB l a||GB l b
 |.cond _ a b=>GB l a||GB l b
 |.block _ b=>GB l b
 |.loop b=>GB l b
 |.scope b=>GB l b
 |.goto j=>Nat.beq j l
 |_=>false
def RX(whole:Code):Code->Option Nat
 |.seq a b=>match RX whole a with
  |some l=>some l
  |none=>RX whole b
 |.label l=>bif GB l whole then some l else none
 |_=>none
def q7(nt:Nat):List Oper->Bool
 |[]=>true
 |o::r=>(match o.dst with|some d=>Nat.blt d nt|none=>true)&&q7 nt r
def uA{β:Type}(m:Nat):Nat->List Nat->(List Nat->β)->β
 |0,acc,k=>k acc
 |n+1,acc,k=>bif Nat.testBit m n then uA m n (n::acc) k else uA m n acc k
def ahead(l:Nat):Code->Option Code
 |.seq a b=>match ahead l a with
  |some c=>some c
  |none=>match ahead l b with
   |some c=>some (.seq a c)
   |none=>none
 |.label j=>bif Nat.beq j l then some .skip else none
 |_=>none
def kx{β:Type}(rt nt:Nat):Nat->(c:Code)->(ex gt:List (Nat×Nat))->Nat->(Nat->AC->β)->β
 |0,_,_,_,m,k=>k m .bad
 |_+1,.skip,_,_,m,k=>k m .skip
 |_+1,.label _,_,_,m,k=>k m .skip
 |_+1,.region id ops d,_,_,m,k=>bif q7 nt ops.toList then jZ (U9 ops.toList m) fun m'=>k m' (.region id ops d) else k m .bad
 |n+1,.seq a b,ex,gt,m,k=>kx rt nt n b ex gt m fun mb b'=>kx rt nt n a ex gt mb fun ma a'=>k ma (.seq a' b')
 |n+1,.cond c a b,ex,gt,m,k=>kx rt nt n a ex gt m fun ma a'=>kx rt nt n b ex gt m fun mb b'=>jZ (RW c|||ma|||mb) fun m'=>uA m nt [] fun ts=>k m' (.cond c ts a' b')
 |n+1,.block id b,ex,gt,m,k=>kx rt nt n b ((id,m)::ex) gt m fun mb b'=>uA m nt [] fun ts=>k mb (.block id ts b')
 |n+1,.loop b,ex,gt,_,k=>kx rt nt n b ex gt 0 fun m1 _=>kx rt nt n b ex gt m1 fun m2 b'=>uA m2 nt [] fun ts=>k m2 (.loop ts b')
 |_+1,.exit id,ex,_,_,k=>k (look id ex) (.exit id)
 |_+1,.goto l,_,gt,_,k=>k (look l gt) (.goto l)
 |_+1,.ret,_,_,_,k=>k rt .ret
 |n+1,.scope b,ex,gt,m,k=>match RX b b with
  |none=>kx rt nt n b ex gt m fun mb b'=>k mb (.scope b')
  |some l=>match ahead l b,findLabel b l with
   |some p,some r=>kx rt nt n r ex ((l,0)::gt) m fun m1 _=>kx rt nt n r ex ((l,m1)::gt) m fun m2 r'=>kx rt nt n p ex gt m2 fun mp p'=>uA m2 nt [] fun ts=>k mp (.jump l ts p' r')
   |_,_=>k m .bad
 |_+1,_,_,_,m,k=>k m .bad
def BX(id:Nat):AC->Bool
 |.seq a b=>BX id a||BX id b
 |.cond _ _ a b=>BX id a||BX id b
 |.block _ _ b=>BX id b
 |.loop _ b=>BX id b
 |.scope b=>BX id b
 |.jump _ _ p r=>BX id p||BX id r
 |.exit j=>Nat.beq j id
 |_=>false
def tq:AC->Bool
 |.seq a b=>tq a&&tq b
 |.cond _ _ a b=>tq a||tq b
 |.block id _ b=>tq b||BX id b
 |.loop _ _=>false
 |.scope b=>tq b
 |.jump _ _ p r=>tq p&&tq r
 |.exit _=>false
 |.ret=>false
 |.goto _=>false
 |.bad=>false
 |_=>true
def ways(id:Nat):AC->Nat
 |.seq a b=>ways id a+ways id b
 |.cond _ _ a b=>ways id a+ways id b
 |.block _ _ b=>ways id b
 |.loop _ b=>ways id b
 |.scope b=>ways id b
 |.jump _ _ p r=>ways id p+ways id r
 |.exit j=>bif Nat.beq j id then 1 else 0
 |_=>0
def uB:AC->Bool
 |.seq a b=>uB a||uB b
 |.cond _ _ a b=>uB a||uB b
 |.block _ _ b=>uB b
 |.loop _ b=>uB b
 |.scope b=>uB b
 |.jump _ _ p r=>uB p||uB r
 |.exit _=>true
 |.ret=>true
 |.goto _=>true
 |_=>false
inductive Ex where
 |normal|exit (id:Nat)|goto (l:Nat)|ret
section
variable (L:Lf) (C:Cx) (R:gY C.sigs)
def NC:List Nat->List V->Nat->V
 |t::ts,v::vs=>ck (NC ts vs) t v
 |_,_=>fun _=>.cX
def H2(d:Nat):List Oper->Option (List Oper×Oper×List Oper)
 |[]=>none
 |o::r=>match o.op with
  |.pick (.tmp c) _ _=>bif Nat.beq c d then some ([],o,r) else(H2 d r).map fun p=>(o::p.1,p.2.1,p.2.2)
  |_=>(H2 d r).map fun p=>(o::p.1,p.2.1,p.2.2)
def bG(st:St)(d:Option Nat)(v:V):St:=match d with
 |some d=>{st with env:=ck st.env d v}
 |none=>st
def xj(st:St):List Oper->St
 |[]=>st
 |o::r=>xj (bG st o.dst .cX) r
def jn(rg i:Nat):Nat:=16*(1+256*rg+i)
mutual
def mN{β:Type}:V->(V->β)->β
 |.d t x,k=>k (.d t x)
 |.aX id ver,k=>jZ id fun id=>jZ ver fun ver=>k (.aX id ver)
 |.pre id ver n c,k=>jZ id fun id=>jZ ver fun ver=>k (.pre id ver n c)
 |.ptr id off,k=>jZ id fun id=>jZ off fun off=>k (.ptr id off)
 |.fn f l,k=>jZ f fun f=>GC l fun l=>k (.fn f l)
 |.iE l,k=>GC l fun l=>k (.iE l)
 |.agg l,k=>GC l fun l=>k (.agg l)
 |.cG id b,k=>jZ id fun id=>k (.cG id b)
 |.gb id ver lo,k=>jZ id fun id=>jZ ver fun ver=>k (.gb id ver lo)
 |v,k=>k v
def GC{β:Type}:List V->(List V->β)->β
 |[],k=>k []
 |v::l,k=>mN v fun v=>GC l fun l=>k (v::l)
end
def NF{β:Type}:Obj->(Obj->β)->β
 |.box cs,k=>GC cs fun cs=>k (.box cs)
 |.vec t ver fr s,k=>jZ ver fun ver=>k (.vec t ver fr s)
 |o,k=>k o
def RY{β:Type}(o:Nat->Obj):List (Nat×Obj)->((Nat->Obj)->β)->β
 |[],k=>k o
 |(i,x)::r,k=>jZ i fun i=>NF x fun x=>RY (ck o i x) r k
def q8{β:Type}(fr:Nat)(o:Nat->Obj):List (Nat×Obj)->((Nat->Obj)->Option β)->Option β
 |[],k=>k o
 |(i,x)::r,k=>jZ i fun i=>bif Nat.ble fr i&&Nat.blt i (fr+16) then
   (match o i with
   |.none=>NF x fun x=>q8 fr (ck o i x) r k
   |_=>none)
  else NF x fun x=>q8 fr (ck o i x) r k
def tu{β:Type}(sk ts:List Nat)(s:Shape)(c:aj s.aU)(k:St->β):β:=
 let p:=fill (cK sk) (fun _=>0) s c
 GC p.1 fun vs=>RY (fun _=>Obj.none) p.2 fun o=>k ⟨NC ts vs,o⟩
mutual
def kH{β:Type}:Sh->(Sh->β)->β
 |.d t,k=>k (.d t)
 |.ref t,k=>k (.ref t)
 |.aX id,k=>jZ id fun id=>k (.aX id)
 |.ptr id off,k=>jZ id fun id=>jZ off fun off=>k (.ptr id off)
 |.fn f l,k=>jZ f fun f=>GF l fun l=>k (.fn f l)
 |.iE l,k=>GF l fun l=>k (.iE l)
 |.agg l,k=>GF l fun l=>k (.agg l)
 |.mp id,k=>jZ id fun id=>k (.mp id)
 |.it id,k=>jZ id fun id=>k (.it id)
 |.cG id,k=>jZ id fun id=>k (.cG id)
 |.gb id,k=>jZ id fun id=>k (.gb id)
 |s,k=>k s
def GF{β:Type}:List Sh->(List Sh->β)->β
 |[],k=>k []
 |s::l,k=>kH s fun s=>GF l fun l=>k (s::l)
end
def Va{β:Type}:ft->(ft->β)->β
 |.box l,k=>GF l fun l=>k (.box l)
 |s,k=>k s
def RZ{β:Type}:List ft->(List ft->β)->β
 |[],k=>k []
 |s::l,k=>Va s fun s=>RZ l fun l=>k (s::l)
def K(γ:Type)(α:Type):Type 1:=(δ:Type)->(γ->δ)->α->Option δ
def z8n:(δ:Type)->(Bool->δ)->V->Option δ
 |_,w,.d .bool x=>some (w x)
 |_,_,_=>none
def xk:Option (Nat->Obj)->List (Nat×Obj)->Bool
 |none,_=>true
 |some _,[]=>true
 |some o,(i,_)::r=>(match o i with|.none=>true|_=>false)&&xk (some o) r
def Vb(f:Nat):List jY->Bool
 |[]=>false
 |s::r=>bif Nat.beq s.f f then(match s.bH with|[]=>Vb f r|_=>true) else Vb f r
def z5g:Op->Bool
 |.call c=>match c.callee with
  |.value (.func f)=>Vb f C.sigs
  |_=>false
 |_=>false
def qqj(d:Nat)(l:List Oper):Bool:=match H2 d l with
 |some (g,_,_)=>g.any fun o=>z5g C o.op
 |none=>false
def lM{γ δ:Type}(rg:Nat)(all:List Oper)(g0:Option (Nat->Obj)):Nat->(γ->δ)->Nat->List Oper->St->((γ->δ)->St->Option δ)->Option δ
 |0,_,_,_,_,_=>none
 |_+1,w,_,[],st,k=>k w st
 |n+1,w,i,o::r,st,k=>
  let run:=match cL L C R st.env st.obj (jn rg i) o.type o.op with
   |.fail=>none
   |.kG v u=>bif xk g0 u then mN v fun v=>q8 (jn rg i) st.obj u fun o'=>lM rg all g0 n w (i+1) r (bG {st with obj:=o'} o.dst v) k else none
   |.dyn _ x out=>L.b x fun y=>bif xk g0 (out y).2 then mN (out y).1 fun v=>q8 (jn rg i) st.obj (out y).2 fun o'=>lM rg all g0 n w (i+1) r (bG {st with obj:=o'} o.dst v) k else none
  match o.guard with
  |none=>run
  |some (j,want)=>match all[j]? with
   |some oj=>match oj.dst with
    |some dj=>match st.env dj with
     |.lb b=>bif (bif want then b else !b) then run else lM rg all g0 n w (i+1) r (bG st o.dst .undef) k
     |.undef=>lM rg all g0 n w (i+1) r (bG st o.dst .undef) k
     |.d .bool x=>match g0 with
      |some g=>L.c x (lM rg all (some g) n w i (o::r) (bG st (some dj) (.lb true)) k) (lM rg all (some g) n w i (o::r) (bG st (some dj) (.lb false)) k)
      |none=>bif qqj C dj (o::r) then L.c x (lM rg all none n w i (o::r) (bG st (some dj) (.lb true)) k) (lM rg all none n w i (o::r) (bG st (some dj) (.lb false)) k) else match H2 dj (o::r) with
       |some (g,p,r')=>match p.dst with
        |some pd=>
         let br (b:Bool):Option Bool:=lM (γ:=Bool) (δ:=Bool) rg all (some st.obj) n (fun x=>x) i (g++[p]) (bG st (some dj) (.lb b)) (fun w' bN=>z8n _ w' (dx (bN.env pd)))
         L.b (L.c x (br true) (br false)) fun y=>lM rg all none n w (i+g.length+1) r' (bG (xj st g) (some pd) (.d .bool y)) k
        |none=>none
       |none=>none
     |_=>none
    |none=>none
   |none=>none
mutual
def ek:V->List Nat
 |.aX id _=>[id]
 |.pre id _ _ _=>[id]
 |.ptr id _=>[id]
 |.jx id _ _ _=>[id]
 |.mp id=>[id]
 |.it id=>[id]
 |.cG id _=>[id]
 |.gb id _ _=>[id]
 |.fn _ l=>gh l
 |.iE l=>gh l
 |.agg l=>gh l
 |_=>[]
def gh:List V->List Nat
 |[]=>[]
 |v::l=>ek v++gh l
end
def xl:Obj->List Nat
 |.box cs=>gh cs
 |_=>[]
def R0(o:Nat->Obj):Nat->List Nat->List Nat
 |0,l=>l
 |n+1,l=>l++R0 o n (l.flatMap fun id=>xl (o id))
structure Tr where
 i:Nat
 op:Oper
 rd:List Nat
 wr:List Nat
def bO:List (Nat×Obj)->List Nat
 |[]=>[]
 |p::r=>p.1::bO r
def CN(a b:List Nat):Bool:=a.all fun x=>!bI x b
def fS:List Oper->List Nat->List Nat
 |[],acc=>acc
 |o::r,acc=>fS r (acc++[o.after.toList.foldl (fun s e=>bif Region.binds .any e then s|||bit e.on|||acc.getD e.on 0 else s) 0])
def jo:List Operand->List Nat
 |[]=>[]
 |.tmp t::r=>t::jo r
 |_::r=>jo r
def L8(all:List Oper)(o:Oper):List Nat:=jo o.op.operands.toList++(match o.guard with
 |some (g,_)=>(match all[g]? with
  |some og=>(match og.dst with|some d=>[d]|none=>[])
  |none=>[])
 |none=>[])
def Vc(d:Option Nat)(l:List Nat):Bool:=match d with
 |some d=>BS d l
 |none=>true
def Vd(d:Option Nat):List Nat:=match d with
 |some d=>[d]
 |none=>[]
def R1(all:List Oper)(a b:Tr):Bool:=Vc a.op.dst (L8 all b.op++Vd b.op.dst)&&Vc b.op.dst (L8 all a.op)&&CN a.wr (b.rd++b.wr)&&CN b.wr a.rd
def CO(uC:List Nat)(all:List Oper)(a b:Tr):Bool:=Nat.testBit (uC.getD b.i 0) a.i||R1 all a b
def R2(uC:List Nat)(all:List Oper)(b:Tr):List Tr->Bool
 |[]=>true
 |a::r=>CO uC all a b&&R2 uC all b r
def oU(uC:List Nat)(all:List Oper):List Tr->Bool
 |[]=>true
 |b::r=>R2 uC all b r&&oU uC all r
def CP:Op->Bool
 |.move _=>true
 |.assign _=>true
 |.nilCheck _=>true
 |.fieldAddr _ _ _=>true
 |_=>false
def oB(st:St)(o:Oper):List Nat:=match o.op with
 |.move _=>[]
 |.assign _=>[]
 |.nilCheck x=>ek (cm C st.env x)
 |.fieldAddr _ x _=>ek (cm C st.env x)
 |_=>R0 st.obj 4 (gh (o.op.operands.toList.map (cm C st.env)))
def R3(l m:List Nat):Bool:=match l with
 |[]=>true
 |x::r=>bI x m&&R3 r m
def xm(o:Nat->Obj)(F:List Nat):List Nat->Bool
 |[]=>true
 |id::r=>R3 (xl (o id)) F&&xm o F r
def q9(t:Nat):List (Nat×Bool)->Option Bool
 |[]=>none
 |(a,b)::r=>bif Nat.beq a t then some b else q9 t r
def NG(d:Option Nat)(kn:List (Nat×Bool)):Bool:=match d with
 |some d=>(match q9 d kn with|some _=>false|none=>true)
 |none=>true
def fI(env:Nat->V)(kn:List (Nat×Bool))(ts:List Nat):Nat->V:=fun t=>bif bI t ts then(match q9 t kn with|some b=>.lb b|none=>env t) else .cX
def dD(o:Nat->Obj)(F:List Nat):Nat->Obj:=fun id=>bif bI id F then o id else .none
def L9(i:Nat):List Edge->Bool
 |[]=>true
 |e::r=>(!(Region.binds .any e)||Nat.blt e.on i)&&L9 i r
def H5(F:List Nat)(fr:Nat):List Nat->Bool
 |[]=>true
 |id::r=>(bI id F||(Nat.ble fr id&&Nat.blt id (fr+16)))&&H5 F fr r
def wy(rg:Nat):List Tr->Bool
 |[]=>true
 |t::r=>L9 t.i t.op.after.toList&&H5 t.rd (jn rg t.i) t.wr&&wy rg r
def H6(o:Oper)(kn:List (Nat×Bool)):List (Nat×Bool):=match o.dst with
 |none=>kn
 |some d=>match o.op with
  |.move (.tmp t)=>(match q9 t kn with
   |some y=>(d,y)::kn
   |none=>kn)
  |.pick (.tmp c) x y=>(match q9 c kn with
   |some q=>(match(bif q then x else y) with
    |.const (.bool z)=>(d,z)::kn
    |_=>kn)
   |none=>kn)
  |_=>kn
def re{γ δ:Type}(rg:Nat)(all:List Oper):Nat->(γ->δ)->Nat->List Oper->St->List (Nat×Bool)->List Tr->((γ->δ)->St->Option δ)->Option δ
 |0,_,_,_,_,_,_,_=>none
 |_+1,w,_,[],st,_,tr,k=>bif oU (fS all []) all tr&&wy rg tr then k w st else none
 |n+1,w,i,o::r,st,kn,tr,k=>
  let F:=oB C st o
  bif NG o.dst kn then
  let run:=bif CP o.op||xm st.obj F F then(match cL L C R (fI st.env kn (jo o.op.operands.toList)) (dD st.obj F) (jn rg i) o.type o.op with
   |.fail=>none
   |.kG v u=>mN v fun v=>q8 (jn rg i) st.obj u fun o'=>re rg all n w (i+1) r (bG {st with obj:=o'} o.dst v) (H6 o kn) (⟨i,o,F,bO u⟩::tr) k
   |.dyn _ x out=>L.b x fun y=>mN (out y).1 fun v=>q8 (jn rg i) st.obj (out y).2 fun o'=>re rg all n w (i+1) r (bG {st with obj:=o'} o.dst v) (H6 o kn) (⟨i,o,F,bO (out y).2⟩::tr) k) else none
  match o.guard with
  |none=>run
  |some (j,want)=>match all[j]? with
   |some oj=>match oj.dst with
    |some dj=>match q9 dj kn with
     |some b=>bif (bif want then b else !b) then run else re rg all n w (i+1) r (bG st o.dst .undef) kn (⟨i,o,[],[]⟩::tr) k
     |none=>match st.env dj with
      |.undef=>re rg all n w (i+1) r (bG st o.dst .undef) kn (⟨i,o,[],[]⟩::tr) k
      |.d .bool x=>L.c x (re rg all n w i (o::r) st ((dj,true)::kn) tr k) (re rg all n w i (o::r) st ((dj,false)::kn) tr k)
      |_=>none
    |none=>none
   |none=>none
  else none
end
section
variable (L:Lf) (C:Cx) (R:gY C.sigs)
def jB{δ:Type}(sk:List Nat)(s:Shape)(w:aj s.aU->δ)(aS:List (Nat×Nat))(o:Nat->Obj)(vs:List V):Option δ:=
 match HZ L sk aS o s vs with
 |some p=>some (w p.2)
 |none=>none
def nw:AC->List Oper
 |.region _ ops _=>ops.toList
 |.seq a b=>nw a++nw b
 |.cond _ _ a b=>nw a++nw b
 |.block _ _ b=>nw b
 |.loop _ b=>nw b
 |.scope b=>nw b
 |.jump _ _ p r=>nw p++nw r
 |_=>[]
def zal(t:Nat):Option Nat->Bool
 |some d=>Nat.beq d t
 |none=>false
def Ve(l:List Nat):Operand->Bool
 |.tmp t=>bI t l
 |_=>false
def NH(t:Nat):List Oper->List Nat
 |[]=>[t]
 |o::r=>match o.op,o.dst with
  |.move x,some d=>bif Ve [t] x then d::NH t r else NH t r
  |_,_=>NH t r
def Vf:Nat->List Sh->Bool
 |0,.d _::_=>true
 |n+1,_::r=>Vf n r
 |_,_=>false
def qql(f i:Nat):List jY->Bool
 |[]=>false
 |s::r=>(Nat.beq s.f f&&kv s.outs&&Vf i s.ins.roots)||qql f i r
def qqm(al:List Nat)(f:Nat):Nat->List Operand->Bool
 |_,[]=>false
 |i,x::r=>(Ve al x&&qql f i C.sigs)||qqm al f (i+1) r
def z5j(al:List Nat)(o:Oper):Bool:=match o.op with
 |.call c=>match c.callee with
  |.value (.func f)=>qqm C al f 0 c.args.toList
  |_=>false
 |_=>false
def zam(ops:List Oper)(t:Nat):Bool:=!(ops.any fun o=>zal t o.dst)&&ops.any (z5j C (NH t ops))
def Vg(f i:Nat):List jY->Bool
 |[]=>false
 |s::r=>(Nat.beq s.f f&&Vf i s.outs.roots)||Vg f i r
def R4(t:Nat):List (Nat×Nat)->Option Nat
 |[]=>none
 |(a,f)::r=>bif Nat.beq a t then some f else R4 t r
def Vh:Option Ty->Bool
 |some (.sl _)=>true
 |_=>false
def BY:List Oper->List (Nat×Nat)->List Nat->List Nat
 |[],_,dt=>dt
 |o::r,tt,dt=>match o.dst with
  |none=>BY r tt dt
  |some d=>match o.op with
   |.call c=>match c.callee with
    |.value (.func f)=>BY r ((d,f)::tt) (bif Vg f 0 C.sigs then d::dt else dt)
    |_=>BY r tt dt
   |.move (.tmp x)=>BY r (match R4 x tt with|some f=>(d,f)::tt|none=>tt) (bif bI x dt then d::dt else dt)
   |.assign (.tmp x)=>BY r tt (bif bI x dt then d::dt else dt)
   |.indexAddr .. =>BY r ((d,1000000000)::tt) dt
   |.load t (.tmp x)=>BY r tt (match R4 x tt with|some f=>bif Nat.beq f 1000000000&&Vh (C.ty t) then d::dt else dt|none=>dt)
   |.extract (.tmp x) i=>BY r tt (match R4 x tt with|some f=>bif Vg f i C.sigs then d::dt else dt|none=>dt)
   |_=>BY r tt dt
def R5(sk:List Nat):List Sh->List V->List Nat
 |.d (.sl _)::cs,.aX id _::vs=>bif BS id sk then id::R5 sk cs vs else R5 sk cs vs
 |_::cs,_::vs=>R5 sk cs vs
 |_,_=>[]
def z3z(sk:List Nat)(s:Shape)(vs:List V):Nat->List Sh->List Nat
 |0,.ptr j 0::_=>match s.aw[j]? with
  |some (.box cs)=>R5 sk cs vs
  |_=>[]
 |n+1,_::r=>z3z sk s vs n r
 |_,_=>[]
def z40(sk:List Nat)(f i:Nat)(vs:List V):List jY->List Nat
 |[]=>[]
 |s::r=>bif Nat.beq s.f f then z3z sk s.ins vs i s.ins.roots else z40 sk f i vs r
def z41(sk al:List Nat)(f:Nat)(vs:List V):Nat->List Operand->List Nat
 |_,[]=>[]
 |i,x::r=>bif Ve al x then z40 sk f i vs C.sigs else z41 sk al f vs (i+1) r
def R6(sk al:List Nat)(vs:List V):List Oper->List Nat
 |[]=>[]
 |o::r=>match o.op with
  |.call c=>match c.callee with
   |.value (.func f)=>z41 C sk al f vs 0 c.args.toList++R6 sk al vs r
   |_=>R6 sk al vs r
  |_=>R6 sk al vs r
def Ma(sk:List Nat)(ops:List Oper)(dt:List Nat)(env:Nat->V)(o:Nat->Obj):List Nat->List Nat
 |[]=>[]
 |t::r=>match env t with
  |.aX id _=>bif (bI t dt||zam C ops t)&&BS id sk then id::Ma sk ops dt env o r else Ma sk ops dt env o r
  |.ptr id 0=>match o id with
   |.box vs=>R6 C sk (NH t ops) vs ops++Ma sk ops dt env o r
   |_=>Ma sk ops dt env o r
  |_=>Ma sk ops dt env o r
def Mb(sk:List Nat)(st:St)(ts:List Nat)(ops:List Oper):Shape:=z56 sk (ar st.obj (dH st.obj (Ma C sk ops (BY C ops [] []) st.env st.obj ts))) (ts.map fun t=>dx (st.env t))
def Mc{β:Type}(sk:List Nat)(st:St)(ts:List Nat)(ops:List Oper)(k:Shape->β):β:=
 let s:=Mb C sk st ts ops
 GF s.roots fun r=>RZ s.aw fun o=>k ⟨r,o⟩
def ev(sk:List Nat):(c:AC)->St->(γ δ:Type)->(γ->δ)->((δ:Type)->(γ->δ)->Ex->St->Option δ)->Option δ
 |.skip,st,_,δ,w,k=>k δ w .normal st
 |.region rg ops true,st,_,δ,w,k=>re L C R rg ops.toList (2*ops.toList.length+1) w 0 ops.toList st [] [] (fun w st=>k δ w .normal st)
 |.region rg ops false,st,_,δ,w,k=>lM L C R rg ops.toList none (2*ops.toList.length+2) w 0 ops.toList st (fun w st=>k δ w .normal st)
 |.seq a b,st,γ,δ,w,k=>ev sk a st γ δ w fun δ w e bN=>match e with
  |.normal=>ev sk b bN γ δ w k
  |e=>k δ w e bN
 |.cond c ts a b,st,γ,δ,w,k=>match cm C st.env c with
  |.d .bool x=>bif tq a&&tq b then
    Mc C sk st ts (nw a++nw b) fun s=>
    bif uB a||uB b then
     let k':(cQ:Type)->(aj s.aU⊕δ->cQ)->Ex->St->Option cQ:=fun cQ w' e bN=>match e with
      |.normal=>jB L sk s (fun c=>w' (.inl c)) (qW 0 sk) bN.obj (ts.map fun t=>dx (bN.env t))
      |e=>k cQ (fun g=>w' (.inr (w g))) e bN
     L.b (L.c x (ev sk a st (aj s.aU⊕δ) (aj s.aU⊕δ) (fun x=>x) k') (ev sk b st (aj s.aU⊕δ) (aj s.aU⊕δ) (fun x=>x) k'))
      (L.bT fun c=>tu sk ts s c fun st=>k δ w .normal st)
    else
     let k':(cQ:Type)->(aj s.aU->cQ)->Ex->St->Option cQ:=fun _ w' e bN=>match e with
      |.normal=>jB L sk s w' (qW 0 sk) bN.obj (ts.map fun t=>dx (bN.env t))
      |_=>none
     L.b (L.c x (ev sk a st (aj s.aU) (aj s.aU) (fun x=>x) k') (ev sk b st (aj s.aU) (aj s.aU) (fun x=>x) k'))
      (fun c=>tu sk ts s c fun st=>k δ w .normal st)
   else L.c x (ev sk a st γ δ w k) (ev sk b st γ δ w k)
  |_=>none
 |.block id ts b,st,γ,δ,w,k=>bif Nat.ble 2 (ways id b+(bif tq b then 1 else 0)) then
    Mc C sk st ts (nw b) fun s=>
    let k':(cQ:Type)->(aj s.aU⊕δ->cQ)->Ex->St->Option cQ:=fun cQ w' e bN=>match e with
     |.normal=>jB L sk s (fun c=>w' (.inl c)) (qW 0 sk) bN.obj (ts.map fun t=>dx (bN.env t))
     |.exit j=>bif Nat.beq j id then jB L sk s (fun c=>w' (.inl c)) (qW 0 sk) bN.obj (ts.map fun t=>dx (bN.env t)) else k cQ (fun g=>w' (.inr (w g))) (.exit j) bN
     |e=>k cQ (fun g=>w' (.inr (w g))) e bN
    L.b (ev sk b st (aj s.aU⊕δ) (aj s.aU⊕δ) (fun x=>x) k') (L.bT fun c=>tu sk ts s c fun st=>k δ w .normal st)
   else ev sk b st γ δ w fun δ w e bN=>match e with
    |.exit j=>bif Nat.beq j id then k δ w .normal bN else k δ w (.exit j) bN
    |e=>k δ w e bN
 |.loop ts b,st,_,δ,w,k=>
   Mc C sk st ts (nw b) fun s=>
   match HZ L sk (qW 0 sk) st.obj s (ts.map fun t=>dx (st.env t)) with
   |some p=>L.o (fun c=>tu sk ts s c fun st=>ev sk b st (aj s.aU⊕δ) (aj s.aU⊕δ) (fun x=>x) fun cQ w' e bN=>match e with
     |.normal=>jB L sk s (fun c=>w' (.inl c)) (qW 0 sk) bN.obj (ts.map fun t=>dx (bN.env t))
     |e=>k cQ (fun g=>w' (.inr (w g))) e bN) p.2
   |none=>none
 |.jump l ts p r,st,γ,δ,w,k=>ev sk p st γ δ w fun δ w e st=>match e with
  |.normal=>
   Mc C sk st ts (nw r) fun s=>
   match HZ L sk (qW 0 sk) st.obj s (ts.map fun t=>dx (st.env t)) with
   |some p=>L.o (fun c=>tu sk ts s c fun st=>ev sk r st (aj s.aU⊕δ) (aj s.aU⊕δ) (fun x=>x) fun cQ w' e bN=>match e with
     |.goto l'=>bif Nat.beq l' l then jB L sk s (fun c=>w' (.inl c)) (qW 0 sk) bN.obj (ts.map fun t=>dx (bN.env t)) else none
     |e=>k cQ (fun g=>w' (.inr (w g))) e bN) p.2
   |none=>none
  |.goto _=>none
  |e=>k δ w e st
 |.exit id,st,_,δ,w,k=>k δ w (.exit id) st
 |.goto l,st,_,δ,w,k=>k δ w (.goto l) st
 |.ret,st,_,δ,w,k=>k δ w .ret st
 |.scope b,st,γ,δ,w,k=>ev sk b st γ δ w fun δ w e st=>match e with
  |.goto _=>none
  |e=>k δ w e st
 |.bad,_,_,_,_,_=>none
def CQ(env:Nat->V):Nat->List V->Nat->V
 |_,[]=>env
 |i,v::r=>CQ (ck env i v) (i+1) r
def CR:List ResultVar->Nat
 |[]=>0
 |.tmp t::r=>bit t|||CR r
 |.cell t _::r=>bit t|||CR r
def uD(st:St):List ResultVar->Option (List V)
 |[]=>some []
 |.tmp t::r=>match uD st r with
  |some l=>some (dx (st.env t)::l)
  |none=>none
 |.cell t ty::r=>match RG L C st.obj ty (st.env t) with
  |.kG v _=>match uD st r with
   |some l=>some (v::l)
   |none=>none
  |_=>none
def Md{δ:Type}(sk:List Nat)(s:Shape)(w:aj s.aU->δ)(st:St)(rs:List ResultVar):Option δ:=
 match uD L C st rs with
 |some vs=>jB L sk s w (UD sk) st.obj vs
 |none=>none
def Me(i:Nat)(x:aj (aR C.sigs i).ins.aU):Option (aj (aR C.sigs i).outs.aU):=
 let sg:=aR C.sigs i
 match C.P.funcs.toList[sg.f]? with
 |none=>none
 |some fn=>match fn.body with
  |none=>none
  |some b=>
   let p:=fill id (fun _=>0) sg.ins x;let k:=sg.ins.aw.length
   bif L0 k (aR C.sigs i).bH&&Nat.ble p.1.length fn.ntmps then kx (CR fn.results.toList) fn.ntmps 1000 b [] [] (CR fn.results.toList) fun _ ac=>ev L C R (aR C.sigs i).bH ac ⟨CQ (fun _=>.undef) 0 p.1,ar (fun _=>Obj.none) p.2⟩
    (aj (aR C.sigs i).outs.aU) (aj (aR C.sigs i).outs.aU) (fun x=>x) fun _ w e st=>match e with
    |.normal=>Md L C (aR C.sigs i).bH (aR C.sigs i).outs w st fn.results.toList
    |.ret=>Md L C (aR C.sigs i).bH (aR C.sigs i).outs w st fn.results.toList
    |_=>none else none
end
def bU:Nat:=9223372036854775807
def fO(k:IntKind)(n:Int):Prop:=k.min<=n/\n<=k.max
def jC(w:World)(a:Addr)(cs:List Value):Prop:=∀j (h:j<cs.length),w.cell? ⟨a.block,a.off+j,none⟩=some cs[j]
def bD{α:Type}(f:α->List Value->Prop):List α->List Value->Prop
 |[],cs=>cs=[]
 |x::l,cs=>∃c d,cs=c++d/\f x c/\bD f l d
def rf{α:Type}(imm:Nat->Prop)(w:World)(R:α->List Value->Prop):Nat->Sl (fF α)->List Value->Prop
 |0,_,_=>False
 |n+1,s,cs=>∃v,cs=[v]/\s.l.length<=bU/\((s.nil=true/\s.l=[]/\v=.slice none 0 0)\/
   (s.nil=false/\∃a cap ec,v=.slice (some a) s.l.length cap/\(cap≠0->a.spot=none)/\(s.l≠[]->imm a.block)/\bD (fun r ec=>∃c d,ec=c++d/\R r.x c/\rf imm w R n r.s d) s.l ec/\jC w a ec/\s.l.length<=cap))
def az(imm:Nat->Prop)(w:World):(t:Ty)->den t->List Value->Prop
 |.unit,_,cs=>cs=[]
 |.pair a b,x,cs=>∃c d,cs=c++d/\az imm w a x.1 c/\az imm w b x.2 d
 |.st p,x,cs=>az imm w p x cs
 |.arr n e,l,cs=>List.length l=n/\bD (az imm w e) l cs
 |.int k,n,cs=>cs=[.int k n]/\fO k n
 |.bool,b,cs=>cs=[.bool b]
 |.ej,b,cs=>cs=[.float .f64 b]
 |.cJ,b,cs=>cs=[.complex .f64 b.1 b.2]
 |.str,l,cs=>∃s:ByteArray,cs=[.string s]/\s.data.toList.map (fun b=>(b.toNat:Int))=l/\s.size<=bU
 |.sl e,s,cs=>∃v,cs=[v]/\s.l.length<=bU/\((s.nil=true/\s.l=[]/\v=.slice none 0 0)\/
   (s.nil=false/\∃a cap ec,v=.slice (some a) s.l.length cap/\(cap≠0->a.spot=none)/\(s.l≠[]->imm a.block)/\bD (az imm w e) s.l ec/\jC w a ec/\s.l.length<=cap))
 |.ks p,s,cs=>∃n,rf imm w (az imm w p) n s cs
def ba(imm:Nat->Prop)(w:World)(t:Ty)(x:den t)(v:Value):Prop:=
 match t,x with
 |.st p,x=>∃cs:Array Value,v=.agg cs/\az imm w p x cs.toList
 |.arr n e,x=>∃cs:Array Value,v=.agg cs/\az imm w (.arr n e) x cs.toList
 |.unit,_=>False
 |.pair _ _,_=>False
 |t,x=>az imm w t x [v]
theorem mO{α:Type}{f g:α->List Value->Prop}:∀{l:List α} {cs:List Value},(∀x c,f x c->g x c)->bD f l cs->bD g l cs
 |[],_,_,h=>h
 |_::_,_,hf,⟨c,d,e,h1,h2⟩=>⟨c,d,e,hf _ _ h1,mO hf h2⟩
theorem qfe{w w':World}{a:Addr}(h:w'.heap[a.block]?=w.heap[a.block]?):w'.cell? a=w.cell? a:=by unfold World.cell?;rw[h]
theorem Mg{w w':World}{a:Addr}{cs:List Value}(h:w'.heap[a.block]?=w.heap[a.block]?)(hc:jC w a cs):jC w' a cs:=by intro j hj;rw[<-hc j hj];exact qfe h
theorem qi8{α:Type}{f:α->List Value->Prop}{l:List α}{w w':World}{a:Addr}{cs:List Value}(hr:bD f l cs)(h:l≠[]->w'.heap[a.block]?=w.heap[a.block]?)(hc:jC w a cs):jC w' a cs:=by
 cases l with
 |nil=>intro j hj;rw[show cs=[] from hr] at hj;cases hj
 |cons x l=>exact Mg (h (List.cons_ne_nil x l)) hc
theorem Vi{α:Type}{imm imm':Nat->Prop}{w w':World}{R R':α->List Value->Prop}(hi:∀b,imm b->imm' b)(hw:∀b,imm b->w'.heap[b]?=w.heap[b]?)(hR:∀x c,R x c->R' x c):∀(n m:Nat),n<=m->∀(s:Sl (fF α)) (cs:List Value),rf imm w R n s cs->rf imm' w' R' m s cs
 |0,_,_,_,_,h=>h.elim
 |n+1,0,hf,_,_,_=>absurd hf om
 |n+1,m+1,hf,s,cs,⟨v,e1,hl,h⟩=>⟨v,e1,hl,h.imp id fun⟨hn,a,cap,ec,e2,hs,hb,hr,hc,hd⟩=>⟨hn,a,cap,ec,e2,hs,fun he=>hi _ (hb he),mO (fun x c ⟨c1,d1,e3,h1,h2⟩=>⟨c1,d1,e3,hR _ _ h1,Vi hi hw hR n m om _ _ h2⟩) hr,qi8 hr (fun he=>hw _ (hb he)) hc,hd⟩⟩
theorem fW{imm imm':Nat->Prop}{w w':World}(hi:∀b,imm b->imm' b)(hw:∀b,imm b->w'.heap[b]?=w.heap[b]?):∀(t:Ty) (x:den t) (cs:List Value),az imm w t x cs->az imm' w' t x cs
 |.unit,_,_,h=>h
 |.pair a b,x,_,⟨c,d,e,h1,h2⟩=>⟨c,d,e,fW hi hw a x.1 c h1,fW hi hw b x.2 d h2⟩
 |.st p,x,cs,h=>fW hi hw p x cs h
 |.arr _ e,_,_,⟨h1,h2⟩=>⟨h1,mO (fW hi hw e) h2⟩
 |.ks p,_,_,⟨n,h⟩=>⟨n,Vi hi hw (fW hi hw p) n n (Nat.le_refl _) _ _ h⟩
 |.int _,_,_,h=>h
 |.bool,_,_,h=>h
 |.ej,_,_,h=>h
 |.cJ,_,_,h=>h
 |.str,_,_,h=>h
 |.sl e,_,_,⟨v,e1,hl,h⟩=>⟨v,e1,hl,h.imp id fun⟨hn,a,cap,ec,e2,hs,hb,hr,hc,hd⟩=>⟨hn,a,cap,ec,e2,hs,fun he=>hi _ (hb he),mO (fW hi hw e) hr,qi8 hr (fun he=>hw _ (hb he)) hc,hd⟩⟩
theorem fX{imm:Nat->Prop}{w:World}:∀(t:Ty) (x:den t) (cs:List Value),az imm w t x cs->cs.length=aI t
 |.unit,_,_,h=>by simp[az] at h;simp[h,aI]
 |.pair a b,x,_,⟨c,d,e,h1,h2⟩=>by subst e;simp[aI,fX a x.1 c h1,fX b x.2 d h2]
 |.st p,x,cs,h=>by simpa[aI] using fX p x cs h
 |.arr n e,l,cs,⟨h1,h2⟩=>by
   have key:∀(l:List (den e)) (cs:List Value),bD (az imm w e) l cs->cs.length=l.length*aI e:=by
    intro l
    induction l with
    |nil=>intro cs h;simp[bD] at h;simp[h]
    |cons y l ih=>intro cs ⟨c,d,e1,h3,h4⟩;subst e1;simp[fX e y c h3,ih d h4,Nat.succ_mul,Nat.add_comm]
   rw[key l cs h2,h1];simp[aI]
 |.int _,_,_,h=>by simp[az] at h;simp[h.1,aI]
 |.bool,_,_,h=>by simp[az] at h;simp[h,aI]
 |.ej,_,_,h=>by simp[az] at h;simp[h,aI]
 |.cJ,_,_,h=>by simp[az] at h;simp[h,aI]
 |.str,_,_,⟨s,h,_⟩=>by simp[h,aI]
 |.sl e,_,_,⟨v,h,_⟩=>by simp[h,aI]
 |.ks p,_,_,⟨0,h⟩=>h.elim
 |.ks p,_,_,⟨n+1,v,h,_⟩=>by simp[h,aI]
theorem nx{imm:Nat->Prop}{w:World}{e:Ty}:∀{l:List (den e)} {cs:List Value},bD (az imm w e) l cs->cs.length=l.length*aI e
 |[],cs,h=>by simp[bD] at h;simp[h]
 |y::l,cs,⟨c,d,e1,h3,h4⟩=>by subst e1;simp[fX e y c h3,nx h4,Nat.succ_mul,Nat.add_comm]
theorem Mh{α:Type}{f:α->List Value->Prop}:∀{l m:List α} {cs ds:List Value},bD f l cs->bD f m ds->bD f (l++m) (cs++ds)
 |[],_,_,_,h,h'=>by simp[bD] at h;simpa[h] using h'
 |_::_,_,_,_,⟨c,d,e,h1,h2⟩,h'=>⟨c,d++_,by rw[e,zC],h1,Mh h2 h'⟩
theorem uE{imm:Nat->Prop}{w:World}{e:Ty}:∀{l:List (den e)} {cs:List Value} (n:Nat),n<=l.length->bD (az imm w e) l cs->bD (az imm w e) (l.take n) (cs.take (n*aI e))/\bD (az imm w e) (l.drop n) (cs.drop (n*aI e))
 |l,cs,0,_,h=>by simpa[bD] using h
 |[],_,n+1,hn,_=>by simp at hn
 |y::l,cs,n+1,hn,⟨c,d,e1,h3,h4⟩=>by
  subst e1;have hc:=fX e y c h3;obtain⟨h5,h6⟩:=uE n (by simpa using hn) h4;have e2:(n+1)*aI e=c.length+n*aI e:=by rw[hc,Nat.succ_mul,Nat.add_comm]
  rw[e2,List.take_length_add_append,List.drop_length_add_append];exact⟨⟨c,_,rfl,h3,h5⟩,by simpa using h6⟩
theorem NI{imm:Nat->Prop}{w:World}{e:Ty}{l:List (den e)}{cs:List Value}(h:bD (az imm w e) l cs)(i:Nat)(hi:i<l.length):az imm w e l[i] ((cs.drop (i*aI e)).take (aI e)):=by
 obtain⟨_,h2⟩:=uE i (Nat.le_of_lt hi) h;rw[List.drop_eq_getElem_cons hi] at h2;obtain⟨c,d,e1,h3,_⟩:=h2;rw[e1,<-fX e _ c h3,List.take_left']
 ·exact h3
 ·rfl
theorem qlk:∀(p k:Ty) (z:den (HP p k)),Gv p k (Ro p k z) (Ni p k z)=z
 |.pair _ b,k,z=>by show(z.1,Gv b k (Ro b k z.2) (Ni b k z.2))=z;rw[qlk b k z.2];rfl
 |.int _,_,_=>rfl
 |.bool,_,_=>rfl
 |.ej,_,_=>rfl
 |.cJ,_,_=>rfl
 |.str,_,_=>rfl
 |.sl _,_,_=>rfl
 |.unit,_,_=>rfl
 |.st _,_,_=>rfl
 |.arr _ _,_,_=>rfl
 |.ks _,_,_=>rfl
theorem R7{imm:Nat->Prop}{w:World}:∀(p k:Ty) (x:den p) (y:den k) (cs:List Value),az imm w (HP p k) (Gv p k x y) cs↔∃c d,cs=c++d/\az imm w p x c/\az imm w k y d
 |.pair a b,k,x,y,cs=>by
  constructor
  ·rintro⟨c,d,e,h1,h2⟩;obtain⟨c2,d2,e2,h3,h4⟩:=(R7 b k x.2 y d).1 h2;exact⟨c++c2,d2,by rw[e,e2,zC],⟨c,c2,rfl,h1,h3⟩,h4⟩
  ·rintro⟨c,d,e,⟨c1,c2,e2,h1,h2⟩,h3⟩;exact⟨c1,c2++d,by rw[e,e2,zC],h1,(R7 b k x.2 y _).2 ⟨c2,d,rfl,h2,h3⟩⟩
 |.int _,_,_,_,_=>Iff.rfl
 |.bool,_,_,_,_=>Iff.rfl
 |.ej,_,_,_,_=>Iff.rfl
 |.cJ,_,_,_,_=>Iff.rfl
 |.str,_,_,_,_=>Iff.rfl
 |.sl _,_,_,_,_=>Iff.rfl
 |.unit,_,_,_,_=>Iff.rfl
 |.st _,_,_,_,_=>Iff.rfl
 |.arr _ _,_,_,_,_=>Iff.rfl
 |.ks _,_,_,_,_=>Iff.rfl
theorem qqo{α β:Type}{f:α->List Value->Prop}{g:β->List Value->Prop}{h:α->β}:∀{l:List α} {cs:List Value},(∀x,x∈l->∀c,f x c->g (h x) c)->bD f l cs->bD g (l.map h) cs
 |[],_,_,hr=>hr
 |x::_l,_,hf,⟨c,d,e,h1,h2⟩=>⟨c,d,e,hf x (zj ..) c h1,qqo (fun y hy=>hf y (zm _ hy)) h2⟩
theorem qvi{α:Type}{f:Nat->α->List Value->Prop}(hf:∀n m x c,n<=m->f n x c->f m x c):∀{l:List α} {cs:List Value},bD (fun x c=>∃n,f n x c) l cs->∃n,bD (f n) l cs
 |[],_,h=>⟨0,h⟩
 |x::l,_,⟨c,d,e,⟨n,h1⟩,h2⟩=>by obtain⟨m,h3⟩:=qvi hf h2;exact⟨n+m,c,d,e,hf n _ x c om h1,mO (fun y c'=>hf m _ y c' om) h3⟩
theorem Vj(p:Ty)(s:Sl (den (lK p))):CF p (LP p s)=s:=by obtain⟨nl,l⟩:=s;show(⟨nl,(l.map _).map _⟩:Sl (den (lK p)))=⟨nl,l⟩;rw[zX];congr 1;exact(jd fun z _=>qlk p (.ks p) z).trans (List.map_id l)
theorem Mi{imm:Nat->Prop}{w:World}(p:Ty)(s:Sl (fF (den p)))(cs:List Value):az imm w (.ks p) s cs↔az imm w (.sl (lK p)) (CF p s) cs:=by
 obtain⟨nl,l⟩:=s;have hc:(l.map fun r:fF (den p)=>Gv p (.ks p) r.x r.s).length=l.length:=zA _;constructor
 ·rintro⟨n,h⟩;cases n with
  |zero=>exact h.elim
  |succ n=>
   obtain⟨v,e1,hl,h⟩:=h;refine⟨v,e1,by show(l.map _).length<=_;rw[hc];exact hl,?_⟩;rcases h with ⟨h1,h2,h3⟩|⟨h1,a,cap,ec,h2,h3,h4,h5,h6,h7⟩
   ·have h2:l=[]:=h2;subst h2;exact .inl ⟨h1,rfl,h3⟩
   ·refine .inr ⟨h1,a,cap,ec,by show v=.slice (some a) (l.map _).length cap;rw[hc];exact h2,h3,fun hd=>h4 fun e=>hd ?_,?_,h6,by show(l.map _).length<=_;rw[hc];exact h7⟩
    ·have e:l=[]:=e;subst e;rfl
    ·refine qqo (fun r _ c ⟨c1,d1,e3,g1,g2⟩=>?_) h5;exact(R7 p (.ks p) r.x r.s c).2 ⟨c1,d1,e3,g1,n,g2⟩
 ·rintro⟨v,e1,hl,h⟩;have hl:l.length<=bU:=by rw[<-hc];exact hl
  rcases h with ⟨h1,h2,h3⟩|⟨h1,a,cap,ec,h2,h3,h4,h5,h6,h7⟩
  ·have h2:l=[]:=List.map_eq_nil_iff.1 h2;subst h2;exact⟨1,v,e1,hl,.inl ⟨h1,rfl,h3⟩⟩
  ·have h2:v=.slice (some a) (l.map fun r:fF (den p)=>Gv p (.ks p) r.x r.s).length cap:=h2;rw[hc] at h2;have h5:bD (fun(r:fF (den p)) c=>∃n,∃c1 d1,c=c1++d1/\az imm w p r.x c1/\rf imm w (az imm w p) n r.s d1) l ec:=by
    have key:∀(l:List (fF (den p))) (ec:List Value),bD (az imm w (lK p)) (l.map fun r=>Gv p (.ks p) r.x r.s) ec->bD (fun(r:fF (den p)) c=>∃n,∃c1 d1,c=c1++d1/\az imm w p r.x c1/\rf imm w (az imm w p) n r.s d1) l ec:=by
     intro l
     induction l with
     |nil=>intro ec h;exact h
     |cons r l ih=>rintro ec ⟨c,d,e,g1,g2⟩;obtain⟨c1,d1,e3,g3,n,g4⟩:=(R7 p (.ks p) r.x r.s c).1 g1;exact⟨c,d,e,⟨n,c1,d1,e3,g3,g4⟩,ih d g2⟩
    exact key l ec h5
   obtain⟨n,h5⟩:=qvi (f:=fun n (r:fF (den p)) c=>∃c1 d1,c=c1++d1/\az imm w p r.x c1/\rf imm w (az imm w p) n r.s d1) (fun n m r c he ⟨c1,d1,e3,g1,g2⟩=>⟨c1,d1,e3,g1,Vi (fun _ h=>h) (fun _ _=>rfl) (fun _ _ h=>h) n m he _ _ g2⟩) h5;exact⟨n+1,v,e1,hl,.inr ⟨h1,a,cap,ec,h2,h3,fun hd=>h4 fun e=>hd (List.map_eq_nil_iff.1 e),h5,h6,by rw[<-hc];exact h7⟩⟩
def fw:(p:Ty)->Nat->Nat
 |.pair _ _,0=>0
 |.pair a b,n+1=>aI a+fw b n
 |_,_=>0
def Vk:(p:Ty)->Nat->Ty
 |.pair a _,0=>a
 |.pair _ b,n+1=>Vk b n
 |.ks p,_=>.sl (lK p)
 |t,_=>t
def iF:List Nat->Ty->Nat
 |[],_=>0
 |f::r,.st p=>fw p f+iF r (Vk p f)
 |_::_,_=>0
def live:Obj->Bool
 |.box _=>true
 |.vec _ _ fr s=>!s.nil&&!fr
 |.map _ _ _=>true
 |.iter _ _=>true
 |.dead=>false
 |.none=>false
def qvj:Obj->Addr->Bool
 |.vec _ _ _ _,a=>a.spot.isSome
 |_,_=>false
def aV(a:Addr)(x:Obj):Bool:=live x&&!qvj x a
def bare(a:Addr):Addr:=⟨a.block,a.off,match a.spot with|none=>none|some 0=>none|some (k+1)=>some k⟩
def mark(a:Addr):Addr:=⟨a.block,a.off,match a.spot with|none=>some 0|some k=>some (k+1)⟩
theorem H7{a:Addr}(h:a.spot=none):bare a=a:=by cases a;cases h;rfl
theorem qvk(a:Addr):bare (mark a)=a:=by obtain⟨b,f,s⟩:=a;cases s<;>rfl
theorem qvl(a:Addr):(mark a).spot≠none:=by obtain⟨b,f,s⟩:=a;cases s<;>exact fun h=>by cases h
theorem Vl{a:Addr}(h:a.spot=none):(bare a).spot=none:=by rw[H7 h];exact h
theorem NJ{a:Addr}(h:a.spot=none):bare a=⟨a.block,a.off,none⟩:=by unfold bare;rw[h]
theorem H8{a:Addr}{cap:Nat}(h:a.spot.isSome=true->cap=0):cap≠0->(bare a).spot=none:=fun hc=>Vl (by
 cases e:a.spot with
 |none=>rfl
 |some k=>exact absurd (h (by rw[e];rfl)) hc)
theorem oV{a:Addr}{t:Ty}{ver:Nat}{s:Sl (den t)}(hn:s.nil=false)(ha:a.spot=none):aV a (.vec t ver false s)=true:=by simp[aV,live,qvj,hn,ha]
theorem ky{a:Addr}(h:aV a .none=true):False:=by simp[aV,live] at h
theorem CS{a:Addr}{t:Ty}{ver:Nat}{fr:Bool}{s:Sl (den t)}(h:aV a (.vec t ver fr s)=true):s.nil=false/\fr=false/\a.spot=none:=by have h:(!s.nil&&!fr&&!a.spot.isSome)=true:=h;cases hn:s.nil<;>cases fr<;>cases hs:a.spot<;>simp[hn,hs] at h ⊢
def lZ(φ:Nat->Addr)(o:Nat->Obj)(b:Nat):Prop:=∃id,aV (φ id) (o id)=true/\(φ id).block=b
def ah(X:Nat->Prop)(φ:Nat->Addr)(o:Nat->Obj)(w:World)(b:Nat):Prop:=b<w.heap.size/\¬X b/\¬lZ φ o b
def room(w:World)(a:Addr)(n:Nat):Prop:=∃c el lo hi,w.heap[a.block]?=some (.cells c el (lo,hi))/\a.off+n<=c.size/\(hi<=lo\/hi<=a.off\/a.off+n<=lo)
def Mj(w:World)(a:Addr)(nil fr:Bool)(sz n:Nat)(v:Value):Prop:=(nil=true/\v=.slice none 0 0)\/(nil=false/\∃cap,v=.slice (some (bare a)) n cap/\n<=cap/\(a.spot.isSome=true->cap=0)/\(fr=false->a.spot=none->room w a (cap*sz)))
def z8o(a:Addr)(nil:Bool)(sz:Nat)(lo:Int)(n:Nat)(v:Value):Prop:=∃k:Nat,lo=(k:Int)/\k<=n/\((nil=true/\v=.slice none 0 0)\/(nil=false/\∃cap,v=.slice (some (if cap=0 then bare a else⟨a.block,a.off+k*sz,none⟩)) (n-k) cap/\n-k<=cap))
def R8(imm:Nat->Prop)(w:World)(n:Int)(v:Value):Prop:=∃a cs,v=.pointer (some a)/\a.spot=none/\imm a.block/\az imm w (.int .i64) n cs/\jC w a cs
def uF(imm:Nat->Prop)(w:World):List (Nat×Bool)->Int->Int->Value->Prop
 |[],k,_,v=>k=0/\v=.nilFunc
 |(f,c)::r,k,n,v=>(k=0/\match c with
  |false=>v=.func (.func f) #[] #[]
  |true=>∃p,v=.func (.func f) #[] #[p]/\R8 imm w n p)\/(k≠0/\uF imm w r (k-1) n v)
theorem R9{imm:Nat->Prop}{w:World}{n:Int}:∀(a:List (Nat×Bool)) {k:Int} {v:Value},uF imm w a k n v->(v=.nilFunc/\k=((a.length:Nat):Int))\/(∃f c,v=.func (.func f) #[] c/\k≠((a.length:Nat):Int))
 |[],k,v,h=>.inl ⟨h.2,h.1⟩
 |(f,c)::r,k,v,h=>by
  rcases h with ⟨h1,h2⟩|⟨h1,h2⟩
  ·refine .inr ?_;have hk:k≠(((f,c)::r).length:Int):=by rw[zf];omega
   cases c with
   |false=>exact⟨f,#[],h2,hk⟩
   |true=>obtain⟨p,h3,_⟩:=h2;exact⟨f,#[p],h3,hk⟩
  ·rcases R9 r h2 with ⟨h3,h4⟩|⟨g,d,h3,h4⟩
   ·exact .inl ⟨h3,by rw[zf];omega⟩
   ·exact .inr ⟨g,d,h3,by rw[zf];omega⟩
theorem Vm{α:Type}:∀(l:List α) (i:Nat),nq l i=i+l.length
 |[],_=>rfl
 |_::r,i=>by show nq r (i+1)=_;rw[Vm r,zf];omega
theorem Vn{imm imm':Nat->Prop}{w w':World}{n:Int}(h:∀p,R8 imm w n p->R8 imm' w' n p):∀(a:List (Nat×Bool)) (k:Int) (v:Value),uF imm w a k n v->uF imm' w' a k n v
 |[],_,_,e=>e
 |(f,c)::r,k,v,e=>by
  rcases e with ⟨e1,e2⟩|⟨e1,e2⟩
  ·refine .inl ⟨e1,?_⟩;cases c with
   |false=>exact e2
   |true=>obtain⟨p,h1,h2⟩:=e2;exact⟨p,h1,h p h2⟩
  ·exact .inr ⟨e1,Vn h r (k-1) v e2⟩
def NK(f:Nat)(c:Array Value):Value:=.func (.func (f % 1048576)) (c.toList.take (f / 1048576)).toArray (c.toList.drop (f / 1048576)).toArray
theorem NL{f:Nat}(h:f<1048576)(c:Array Value):NK f c=.func (.func f) #[] c:=by unfold NK;rw[Nat.mod_eq_of_lt h,Nat.div_eq_of_lt h,List.take_zero,List.drop_zero]
mutual
def av(φ:Nat->Addr)(o:Nat->Obj)(imm:Nat->Prop)(w:World):V->Value->Prop
 |.d t x,v=>ba imm w t x v
 |.aX id ver,v=>match o id with
  |.vec t aB fr s=>ver<=aB/\(ver=aB->Mj w (φ id) s.nil fr (aI t) s.l.length v)
  |.none=>False
  |_=>True
 |.pre id ver n cp,v=>match o id with
  |.vec t aB fr s=>ver<=aB/\(ver=aB->n<=s.l.length/\Mj w (φ id) s.nil fr (aI t) n v/\(cp=true->∀a m c,v=.slice a m c->c=n))
  |.none=>False
  |_=>True
 |.ptr id off,v=>match o id with
  |.none=>False
  |.dead=>True
  |.vec _ ver _ _=>ver=0->v=.pointer (some ⟨(φ id).block,(φ id).off+off,none⟩)
  |_=>v=.pointer (some ⟨(φ id).block,(φ id).off+off,none⟩)
 |.jx id ver i path,v=>match o id with
  |.vec t aB _ s=>ver<=aB/\(ver=aB->i<s.l.length/\v=.pointer (some ⟨(φ id).block,(φ id).off+i*aI t+iF path t,none⟩))
  |.none=>False
  |_=>True
 |.ref t x,v=>∃a cs,v=.pointer (some a)/\a.spot=none/\imm a.block/\az imm w t x cs/\jC w a cs
 |.rr t x,v=>∃a b cs,v=.pointer (some a)/\a.spot=none/\imm a.block/\jC w a [.pointer (some b)]/\b.spot=none/\imm b.block/\az imm w t x cs/\jC w b cs
 |.fP,v=>v=.pointer none
 |.fn f l,v=>∃c:Array Value,v=NK f c/\bV φ o imm w l c.toList
 |.fG,v=>v=.nilFunc
 |.iE l,v=>∃c:Array Value,v=.tuple c/\bV φ o imm w l c.toList
 |.agg l,v=>∃c:Array Value,v=.agg c/\bV φ o imm w l c.toList
 |.mp id,v=>match o id with
  |.none=>False
  |.map _ _ _=>v=.map (some (φ id).block)
  |_=>True
 |.ic,v=>v=.map none
 |.it id,v=>match o id with
  |.none=>False
  |.iter _ _=>v=.pointer (some ⟨(φ id).block,0,none⟩)
  |_=>True
 |.Rp b p c,v=>(b=true/\v=.tuple #[.bool true,.int .i64 p,.int .i32 c]/\fO .i64 p/\fO .i32 c)\/(b=false/\v=.tuple #[.bool false])
 |.ga,v=>v=.nilIface
 |.fa a k n,v=>uF imm w a k n v
 |.eM,v=>v=.slice none 0 0
 |.lb b,v=>v=.bool b
 |.undef,v=>v=undef
 |.cX,_=>True
 |.cG id b,v=>match o id with
  |.none=>False
  |.box _=>v=.pointer (bif b then some ⟨(φ id).block,(φ id).off,none⟩ else none)
  |_=>True
 |.gb id ver lo,v=>match o id with
  |.vec t aB _ s=>ver<=aB/\(ver=aB->z8o (φ id) s.nil (aI t) lo s.l.length v)
  |.none=>False
  |_=>True
def bV(φ:Nat->Addr)(o:Nat->Obj)(imm:Nat->Prop)(w:World):List V->List Value->Prop
 |[],vs=>vs=[]
 |x::l,vs=>∃v r,vs=v::r/\av φ o imm w x v/\bV φ o imm w l r
end
def wz{α β:Type}(f:α->Value->Prop)(g:β->Value->Prop):List (α×β)->List MapEntry->Prop
 |[],es=>es=[]
 |p::l,es=>∃e r,es=e::r/\f p.1 e.key/\g p.2 e.val/\wz f g l r
def oC(φ:Nat->Addr)(o:Nat->Obj)(imm:Nat->Prop)(w:World)(id:Nat):Obj->Prop
 |.box cs=>(φ id).off=0/\∃c el lo hi,w.heap[(φ id).block]?=some (.cells c el (lo,hi))/\hi<=lo/\bV φ o imm w cs c.toList
 |.vec t _ fr s=>s.l.length<=bU/\(s.nil=true->s.l=[])/\(s.nil=false->((φ id).spot=none/\∃ec,bD (az imm w t) s.l ec/\jC w (φ id) ec/\
   room w (φ id) 0/\(fr=false->room w (φ id) (s.l.length*aI t))/\(fr=true->imm (φ id).block))\/((φ id).spot≠none/\s.l=[]/\t≠.int .u8))
 |.map k v m=>∃es clock,w.heap[(φ id).block]?=some (.map es clock)/\wz (ba imm w k) (ba imm w v) m es.toList
 |.dead=>True
 |.none=>True
 |.iter l p=>∃(s:ByteArray) (n:Nat),w.heap[(φ id).block]?=some (.stringIter s n)/\s.data.toList.map (fun b=>(b.toNat:Int))=l/\p=(n:Int)/\s.size<=bU
def zan(C:Cx)(el:TypeId)(n:Nat):Prop:=(el=C.gX/\n=2)\/(el=C.oT/\n=4)
def gi(C:Cx)(w:World)(a:Addr):Obj->Prop
 |.vec t _ _ s=>t=.int .u8->s.nil=false->∃c el fz,w.heap[a.block]?=some (.cells c el fz)/\C.P.underlying el=some (.int .u8)/\(fz.1=fz.2\/c.size<=fz.1)
 |.box cs=>nu cs=true->∃c el fz,w.heap[a.block]?=some (.cells c el fz)/\zan C el c.size
 |_=>True
structure MRel (C:Cx) (X:Nat->Prop) (φ:Nat->Addr) (o:Nat->Obj) (w:World):Prop where
 aw:∀id,oC φ o (ah X φ o w) w id (o id)
 inj:∀i j,aV (φ i) (o i)=true->aV (φ j) (o j)=true->(φ i).block=(φ j).block->i=j
 sep:∀i,aV (φ i) (o i)=true->(φ i).block<w.heap.size/\¬X (φ i).block
 xs:∀b,X b->b<w.heap.size
 oD:∀id,gi C w (φ id) (o id)
 eG:∀g t x,C.jz g=some ⟨t,x⟩->av φ o (ah X φ o w) w (.ref t x) (.pointer (some ⟨g,0,none⟩))
 Mk:∀g t x,C.jz g=some ⟨t,x⟩->∃c el fz,w.heap[g]?=some (.cells c el fz)/\c.size=aI t
theorem MRel.mP{C:Cx}{X:Nat->Prop}{φ:Nat->Addr}{o:Nat->Obj}{w w':World}(hm:MRel C X φ o w)(st:∀b,ah X φ o w b->w'.heap[b]?=w.heap[b]?):∀g t x,C.jz g=some ⟨t,x⟩->∃c el fz,w'.heap[g]?=some (.cells c el fz)/\c.size=aI t:=fun g t x hg=>by obtain⟨a,cs,e,_,hi,_⟩:=hm.eG g t x hg;injection e with e;injection e with e;subst e;rw[st _ hi];exact hm.Mk g t x hg
theorem MRel.cap{C:Cx}{X:Nat->Prop}{φ:Nat->Addr}{o:Nat->Obj}{w:World}(hm:MRel C X φ o w){id:Nat}{t:Ty}{ver:Nat}{fr:Bool}{s:Sl (den t)}(h:o id=.vec t ver fr s)(hn:s.nil=false)(hs:(φ id).spot≠none):s.l=[]/\t≠.int .u8:=by
 have:=hm.aw id;rw[h] at this;rcases this.2.2 hn with h1|h1
 ·exact absurd h1.1 hs
 ·exact h1.2
theorem MRel.NM{C:Cx}{X:Nat->Prop}{φ:Nat->Addr}{o:Nat->Obj}{w:World}(hm:MRel C X φ o w)(id:Nat):∀ver fr (s:Sl (den (.int .u8))),o id=.vec (.int .u8) ver fr s->s.nil=false->(φ id).spot=none:=by intro ver fr s h hn;apply zM;intro hs;exact(hm.cap h hn hs).2 rfl
structure Rel (C:Cx) (nt:Nat) (X:Nat->Prop) (φ:Nat->Addr) (st:St) (a:Act) (w:World):Prop extends MRel C X φ st.obj w where
 size:a.tmps.size=nt
 env:∀t,av φ st.obj (ah X φ st.obj w) w (st.env t) (a.tmps.getD t undef)
 defers:a.defers=[]
theorem rh{imm imm':Nat->Prop}{w w':World}(hi:∀b,imm b->imm' b)(hw:∀b,imm b->w'.heap[b]?=w.heap[b]?)(t:Ty)(x:den t)(v:Value)(h:ba imm w t x v):ba imm' w' t x v:=by
 cases t with
 |st p=>obtain⟨cs,h1,h2⟩:=h;exact⟨cs,h1,fW hi hw p x _ h2⟩
 |arr n e=>obtain⟨cs,h1,h2⟩:=h;exact⟨cs,h1,fW hi hw (.arr n e) x _ h2⟩
 |unit=>exact h
 |pair a b=>exact h
 |int k=>exact fW hi hw (.int k) x _ h
 |bool=>exact fW hi hw .bool x _ h
 |ej=>exact fW hi hw .ej x _ h
 |cJ=>exact fW hi hw .cJ x _ h
 |str=>exact fW hi hw .str x _ h
 |sl e=>exact fW hi hw (.sl e) x _ h
 |ks p=>exact fW hi hw (.ks p) x _ h
theorem CU{w w':World}{a:Addr}{n:Nat}(h:w'.heap[a.block]?=w.heap[a.block]?)(hr:room w a n):room w' a n:=by obtain⟨c,el,lo,hi,h1,h2,h3⟩:=hr;exact⟨c,el,lo,hi,by rw[h,h1],h2,h3⟩
theorem z42{w w':World}{a:Addr}{nil fr:Bool}{sz n:Nat}{v:Value}(h:nil=false->fr=false->a.spot=none->w'.heap[a.block]?=w.heap[a.block]?)(hr:Mj w a nil fr sz n v):Mj w' a nil fr sz n v:=hr.imp id fun⟨hn,cap,h1,h2,h4,h3⟩=>⟨hn,cap,h1,h2,h4,fun hf hs=>CU (h hn hf hs) (h3 hf hs)⟩
def en(w w':World)(b:Nat):Prop:=∀c el fz,w.heap[b]?=some (.cells c el fz)->∃c',w'.heap[b]?=some (.cells c' el fz)/\c'.size=c.size
theorem en.same{w w':World}{b:Nat}(h:w'.heap[b]?=w.heap[b]?):en w w' b:=fun c el fz e=>⟨c,by rw[h];exact e,rfl⟩
theorem gi.bH{C:Cx}{w w':World}{a:Addr}{x:Obj}(h:gi C w a x)(hb:aV a x=true->en w w' a.block)(hf:∀ver (s:Sl (den (.int .u8))),x=.vec (.int .u8) ver true s->s.nil=false->en w w' a.block)(hc:∀ver fr (s:Sl (den (.int .u8))),x=.vec (.int .u8) ver fr s->s.nil=false->a.spot=none):gi C w' a x:=by
 cases x with
 |vec t ver fr s=>
  intro ht hn;obtain⟨c,el,fz,h1,h2,h4⟩:=h ht hn;subst ht;have hk:en w w' a.block:=by
   cases fr with
   |true=>exact hf _ _ rfl hn
   |false=>exact hb (oV hn (hc _ _ _ rfl hn))
  obtain⟨c',h3,h5⟩:=hk _ _ _ h1;exact⟨c',el,fz,h3,h2,by rw[h5];exact h4⟩
 |box cs=>intro hs;obtain⟨c,el,fz,h1,h3⟩:=h hs;obtain⟨c',h2,h4⟩:=(hb rfl) _ _ _ h1;exact⟨c',el,fz,h2,by rw[h4];exact h3⟩
 |map k v m=>trivial
 |dead=>trivial
 |none=>trivial
 |iter s p=>trivial
def Up(w w':World)(a a':Addr):Obj->Obj->Prop
 |.none,_=>True
 |_,.dead=>True
 |.box _,.box _=>a'=a
 |.map _ _ _,.map _ _ _=>a'=a
 |.iter _ _,.iter _ _=>a'=a
 |.vec t ver fr s,.vec t' aB GG s'=>ver<aB\/(ver=aB/\t=t'/\s.nil=s'.nil/\s.l.length=s'.l.length/\a'=a/\(GG=false->fr=false/\(s.nil=false->a.spot=none->∀n,room w a n->room w' a n)))
 |_,_=>False
theorem Up.same{w w':World}{a:Addr}{x:Obj}(h:aV a x=true->∀n,room w a n->room w' a n):Up w w' a a x x:=by
 cases x with
 |vec t ver fr s=>exact .inr ⟨rfl,rfl,rfl,rfl,rfl,fun hf=>⟨hf,fun hn hs=>h (by subst hf;exact oV hn hs)⟩⟩
 |box cs=>exact rfl
 |map k v m=>exact rfl
 |dead=>trivial
 |none=>trivial
 |iter s p=>exact rfl
theorem qlm{w w':World}{a:Addr}{nil fr GG:Bool}{sz n:Nat}{v:Value}(h:GG=false->fr=false/\(nil=false->a.spot=none->∀n,room w a n->room w' a n))(hr:Mj w a nil fr sz n v):Mj w' a nil GG sz n v:=hr.imp id fun⟨hn,cap,h1,h2,h4,h3⟩=>⟨hn,cap,h1,h2,h4,fun hf hs=>(h hf).2 hn hs _ (h3 (h hf).1 hs)⟩
theorem wA{φ φ':Nat->Addr}{o o':Nat->Obj}{imm imm':Nat->Prop}{w w':World}(hi:∀b,imm b->imm' b)(hw:∀b,imm b->w'.heap[b]?=w.heap[b]?)(ho:∀id,Up w w' (φ id) (φ' id) (o id) (o' id)):∀(x:V) (v:Value),av φ o imm w x v->av φ' o' imm' w' x v:=by
 intro x;refine V.rec (motive_1:=fun x=>∀v,av φ o imm w x v->av φ' o' imm' w' x v) (motive_2:=fun l=>∀vs,bV φ o imm w l vs->bV φ' o' imm' w' l vs)
  ?_ ?_ ?_ ?_ ?_ ?_ ?_ ?_ ?_ ?_ ?_ ?_ ?_ ?_ ?_ ?_ ?_ ?_ ?_ ?_ ?_ ?_ ?_ ?_ ?_ ?_ x
 ·exact fun t x v h=>rh hi hw t x v h
 ·intro id ver v h;have hu:=ho id;unfold av at*
  revert h hu;cases o id<;>cases o' id<;>simp only[Up]<;>intro hu h<;>first|trivial|exact h.elim|exact hu.elim|skip
  obtain⟨h0,h⟩:=h;rcases hu with hu|⟨e1,e2,e3,e4,e5,e6⟩
  ·exact⟨by omega,fun e=>by omega⟩
  ·subst e1 e2;exact⟨h0,fun e=>by rw[e5,<-e3,<-e4];exact qlm e6 (h e)⟩
 ·intro id ver n cp v h;have hu:=ho id;unfold av at*
  revert h hu;cases o id<;>cases o' id<;>simp only[Up]<;>intro hu h<;>first|trivial|exact h.elim|exact hu.elim|skip
  obtain⟨h0,h⟩:=h;rcases hu with hu|⟨e1,e2,e3,e4,e5,e6⟩
  ·exact⟨by omega,fun e=>by omega⟩
  ·subst e1 e2;refine⟨h0,fun e=>?_⟩;obtain⟨h1,h2,h3⟩:=h e;exact⟨by omega,by rw[e5,<-e3];exact qlm e6 h2,h3⟩
 ·intro id off v h;have hu:=ho id;unfold av at*
  revert h hu;cases o id<;>cases o' id<;>simp only[Up]<;>intro hu h<;>first|trivial|exact h.elim|exact hu.elim|(rw[hu];exact h)|skip
  rcases hu with hu|⟨e1,e2,e3,e4,e5,e6⟩
  ·intro e;omega
  ·subst e1;rw[e5];exact h
 ·intro id ver i path v h;have hu:=ho id;unfold av at*
  revert h hu;cases o id<;>cases o' id<;>simp only[Up]<;>intro hu h<;>first|trivial|exact h.elim|exact hu.elim|skip
  obtain⟨h0,h⟩:=h;rcases hu with hu|⟨e1,e2,e3,e4,e5,e6⟩
  ·exact⟨by omega,fun e=>by omega⟩
  ·subst e1 e2;refine⟨h0,fun e=>?_⟩;obtain⟨h1,h2⟩:=h e;exact⟨by omega,by rw[e5];exact h2⟩
 ·exact fun t x v ⟨a,cs,h1,h2,h3,h4,h5⟩=>⟨a,cs,h1,h2,hi _ h3,fW hi hw t x cs h4,Mg (hw _ h3) h5⟩
 ·exact fun v h=>h
 ·exact fun f l ih v ⟨c,h1,h2⟩=>⟨c,h1,ih _ h2⟩
 ·exact fun v h=>h
 ·exact fun l ih v ⟨c,h1,h2⟩=>⟨c,h1,ih _ h2⟩
 ·exact fun l ih v ⟨c,h1,h2⟩=>⟨c,h1,ih _ h2⟩
 ·intro id v h;have hu:=ho id;unfold av at*
  revert h hu;cases o id<;>cases o' id<;>simp only[Up]<;>intro hu h<;>first|trivial|exact h.elim|exact hu.elim|(rw[hu];exact h)|exact h
 ·exact fun v h=>h
 ·exact fun v h=>h
 ·exact fun v h=>h
 ·exact fun b v h=>h
 ·exact fun v h=>h
 ·exact fun v h=>h
 ·intro id b v h;have hu:=ho id;unfold av at*
  revert h hu;cases o id<;>cases o' id<;>simp only[Up]<;>intro hu h<;>first|trivial|exact h.elim|exact hu.elim|(rw[hu];exact h)|exact h
 ·intro id ver lo v h;have hu:=ho id;unfold av at*
  revert h hu;cases o id<;>cases o' id<;>simp only[Up]<;>intro hu h<;>first|trivial|exact h.elim|exact hu.elim|skip
  obtain⟨h0,h⟩:=h;rcases hu with hu|⟨e1,e2,e3,e4,e5,e6⟩
  ·exact⟨by omega,fun e=>by omega⟩
  ·subst e1 e2;refine⟨h0,fun e=>?_⟩;rw[e5,<-e3,<-e4];exact h e
 ·intro id v h;have hu:=ho id;unfold av at*
  revert h hu;cases o id<;>cases o' id<;>simp only[Up]<;>intro hu h<;>first|trivial|exact h.elim|exact hu.elim|(rw[hu];exact h)|exact h
 ·exact fun b p c v h=>h
 ·exact fun a k n v h=>Vn (fun p ⟨a,cs,h1,h2,h3,h4,h5⟩=>⟨a,cs,h1,h2,hi _ h3,fW hi hw (.int .i64) n cs h4,Mg (hw _ h3) h5⟩) a k v h
 ·exact fun t x v ⟨a,b,cs,h1,h2,h3,h4,h5,h6,h7,h8⟩=>⟨a,b,cs,h1,h2,hi _ h3,Mg (hw _ h3) h4,h5,hi _ h6,fW hi hw t x cs h7,Mg (hw _ h6) h8⟩
 ·exact fun vs h=>h
 ·exact fun x l iO iP vs ⟨v,r,h1,h2,h3⟩=>⟨v,r,h1,iO _ h2,iP _ h3⟩
def hit(ks:List Nat)(φ:Nat->Addr)(o:Nat->Obj)(b:Nat):Prop:=∃id,id∈ks/\aV (φ id) (o id)=true/\(φ id).block=b
def tw(w w':World):Prop:=w'.os=w.os/\w'.output=w.output
structure Comes (C:Cx) (X:Nat->Prop) (φ φ':Nat->Addr) (o:Nat->Obj) (u:List (Nat×Obj)) (w w':World) (v:V) (val:Value):Prop where
 mem:MRel C X φ' (ar o u) w'
 val:av φ' (ar o u) (ah X φ' (ar o u) w') w' v val
 up:∀id,Up w w' (φ id) (φ' id) (o id) (ar o u id)
 size:w.heap.size<=w'.heap.size
 frame:∀b,b<w.heap.size->¬hit (bO u) φ o b->w'.heap[b]?=w.heap[b]?
 ny:∀id,o id≠.none->id∉bO u->φ' id=φ id
 news:∀id,aV (φ' id) (ar o u id)=true->w.heap.size<=(φ' id).block\/lZ φ o (φ' id).block
 still:tw w w'
theorem Comes.imm{C:Cx}{X:Nat->Prop}{φ φ':Nat->Addr}{o:Nat->Obj}{u:List (Nat×Obj)}{w w':World}{v:V}{val:Value}(h:Comes C X φ φ' o u w w' v val)(b:Nat)(hb:ah X φ o w b):ah X φ' (ar o u) w' b:=by
 obtain⟨h1,h2,h3⟩:=hb;refine⟨Nat.lt_of_lt_of_le h1 h.size,h2,fun⟨id,e1,e2⟩=>?_⟩;rcases h.news id e1 with e3|e3
 ·omega
 ·exact h3 (e2▸e3)
theorem Comes.stays{C:Cx}{X:Nat->Prop}{φ φ':Nat->Addr}{o:Nat->Obj}{u:List (Nat×Obj)}{w w':World}{v:V}{val:Value}(h:Comes C X φ φ' o u w w' v val)(b:Nat)(hb:ah X φ o w b):w'.heap[b]?=w.heap[b]?:=h.frame b hb.1 fun⟨id,_,e1,e2⟩=>hb.2.2 ⟨id,e1,e2⟩
theorem Comes.keeps{C:Cx}{X:Nat->Prop}{φ φ':Nat->Addr}{o:Nat->Obj}{u:List (Nat×Obj)}{w w':World}{v:V}{val:Value}(h:Comes C X φ φ' o u w w' v val)(x:V)(z:Value)(hx:av φ o (ah X φ o w) w x z):av φ' (ar o u) (ah X φ' (ar o u) w') w' x z:=wA h.imm h.stays h.up x z hx
def Out(C:Cx)(X:Nat->Prop)(φ:Nat->Addr)(o:Nat->Obj)(w:World)(v:V)(u:List (Nat×Obj))(r:Result Next):Prop:=∃val w' φ',r=.ok (.value val) w'/\Comes C X φ φ' o u w w' v val
section
variable {C:Cx} {X:Nat→Prop} {φ:Nat→Addr} {o:Nat→Obj} {w:World}
theorem Comes.same{v:V}{val:Value}(hm:MRel C X φ o w)(hv:av φ o (ah X φ o w) w v val):Comes C X φ φ o [] w w v val:=⟨hm,hv,fun _=>Up.same fun _ _ h=>h,Nat.le_refl _,fun _ _ _=>rfl,fun _ _ _=>rfl,fun id h=>.inr ⟨id,h,rfl⟩,⟨rfl,rfl⟩⟩
theorem Out.same{v:V}{val:Value}{r:Result Next}(hm:MRel C X φ o w)(hr:r=.ok (.value val) w)(hv:av φ o (ah X φ o w) w v val):Out C X φ o w v [] r:=⟨val,w,φ,hr,.same hm hv⟩
theorem NN{imm:Nat->Prop}{x:V}{v:Value}(h:av φ o imm w x v):av φ o imm w (dx x) v:=by
 cases x<;>first|exact h|skip
 simp only[dx,av,ba,az] at*
 simp[h]
theorem qvn{k:IntKind}{n:Int}(h:CK k n=true):fO k n:=by simpa[CK,fO] using h
theorem Vo{imm:Nat->Prop}(v:Value):av φ o imm w (Gz v) v:=by
 unfold Gz;split
 ·simp[av,ba,az]
 ·simp[av,ba,az]
 ·simp[av,ba,az]
 ·rename_i k n;cases h:CK k n
  ·simp[av]
  ·simp[av,ba,az,qvn h]
 ·rename_i s;cases h:Nat.ble s.size 1000000
  ·simp[av]
  ·simp only[cond_true,av,ba,az];refine⟨s,rfl,rfl,?_⟩;have:=zF h;unfold bU;omega
 all_goals simp[av]
theorem Rel.cm{nt:Nat}{st:St}{a:Act}(h:Rel C nt X φ st a w)(x:Operand):av φ st.obj (ah X φ st.obj w) w (cm C st.env x) (a.eval x):=by
 cases x with
 |tmp t=>exact NN (h.env t)
 |const v=>exact Vo v
 |global g=>
  simp only[Ev.cm,Act.eval];split
  ·rename_i e;exact h.eG _ _ _ e
  ·simp[av]
 |func f=>
  simp only[Ev.cm];cases h:Nat.blt f 1048576 with
  |false=>simp[av]
  |true=>exact⟨#[],(NL (zF h) #[]).symm,rfl⟩
end
def Pk.aG(p:Pk)(v:V)(u:List (Nat×Obj)):Prop:=match p with
 |.fail=>False
 |.kG v' u'=>v'=v/\u'=u
 |.dyn _ x out=>∃y,x=some y/\out y=(v,u)
@[simp] theorem NO{v:V}{u:List (Nat×Obj)}:Pk.fail.aG v u↔False:=Iff.rfl
@[simp] theorem cY{v v':V}{u u':List (Nat×Obj)}:(Pk.now v u).aG v' u'↔v=v'/\u=u':=Iff.rfl
@[simp] theorem lN{α:Type}{x:Option α}{out:α->V×List (Nat×Obj)}{v:V}{u:List (Nat×Obj)}:(Pk.dyn α x out).aG v u↔∃y,x=some y/\out y=(v,u):=Iff.rfl
@[simp] theorem GH{t:Ty}{x:Option (den t)}{v:V}{u:List (Nat×Obj)}:(Pk.jy x).aG v u↔∃y,x=some y/\(V.d t y,[])=(v,u):=Iff.rfl
@[simp] theorem df{b:Bool}{p:Pk}{v:V}{u:List (Nat×Obj)}:(Pk.when b p).aG v u↔b=true/\p.aG v u:=by cases b<;>simp[Pk.when]
section
variable {P:Program} {C:Cx} {X:Nat→Prop} {φ:Nat→Addr} {o:Nat→Obj} {w:World} {imm:Nat→Prop}
theorem kI{k:IntKind}{n:Int}{z:Value}(h:av φ o imm w (.d (.int k) n) z):z=.int k n/\fO k n:=by simpa[av,ba,az] using h
theorem oE{b:Bool}{z:Value}(h:av φ o imm w (.d .bool b) z):z=.bool b:=by simpa[av,ba,az] using h
theorem nz{l:List Int}{z:Value}(h:av φ o imm w (.d .str l) z):∃s:ByteArray,z=.string s/\s.data.toList.map (fun b=>(b.toNat:Int))=l/\s.size<=bU:=by simp only[av,ba,az] at h;obtain⟨s,h1,h2,h3⟩:=h;exact⟨s,by simpa using h1,h2,h3⟩
theorem NP{b:Nat}{z:Value}(h:av φ o imm w (.d .ej b) z):z=.float .f64 b:=by simpa[av,ba,az] using h
theorem Ml{b:Nat×Nat}{z:Value}(h:av φ o imm w (.d .cJ b) z):z=.complex .f64 b.1 b.2:=by simpa[av,ba,az] using h
theorem Sa{b:Nat}:av φ o imm w (.d .ej b) (.float .f64 b):=by simp[av,ba,az]
theorem Vp{b:Nat×Nat}:av φ o imm w (.d .cJ b) (.complex .f64 b.1 b.2):=by simp[av,ba,az]
theorem kz{k:IntKind}{n:Int}(h:fO k n):av φ o imm w (.d (.int k) n) (.int k n):=by simpa[av,ba,az] using h
theorem BZ{b:Bool}:av φ o imm w (.d .bool b) (.bool b):=by simp[av,ba,az]
theorem H9{s:ByteArray}{l:List Int}(h:s.data.toList.map (fun b=>(b.toNat:Int))=l)(hl:s.size<=bU):av φ o imm w (.d .str l) (.string s):=by simp only[av,ba,az];exact⟨s,rfl,h,hl⟩
theorem Mm(k:IntKind)(n:Int):fO k (k.wrap n):=by unfold fO IntKind.wrap IntKind.min IntKind.max;cases k<;>simp[IntKind.bits,IntKind.signed]<;>(try split)<;>omega
def oW(P:Program)(φ:Nat->Addr)(o:Nat->Obj)(imm:Nat->Prop)(w:World)(v:V)(s:Sem Value):Prop:=∃val,s.run P w=.ok val w/\av φ o imm w v val
theorem Vq(k:IntKind):fO k 0:=by unfold fO IntKind.min IntKind.max;cases k<;>simp[IntKind.bits,IntKind.signed]
theorem z5k{k:IntKind}{a b:Int}(h:fO k a):fO k (a.tmod b):=by
 have h1:(a.tmod b).natAbs<=a.natAbs:=by rw[Int.natAbs_tmod];exact Nat.mod_le _ _
 have hz:=Vq k;unfold fO at*
 rcases Int.le_total 0 a with h0|h0
 ·have:=Int.tmod_nonneg b h0;omega
 ·have:=Int.tmod_nonneg b (show 0<=-a by omega);rw[Int.neg_tmod] at this;omega
theorem z0i{op:BinOp}{k:IntKind}{a b:Int}{v:V}{u:List (Nat×Obj)}(ha:fO k a)(h:(UH lf op k a b).aG v u)(t:TypeId):u=[]/\oW P φ o imm w v (binOp op t (.int k a) (.int k b)):=by
 cases op<;>simp only[UH,cY,GH,NO] at h
 case quo=>
  obtain⟨y,h1,h2⟩:=h;simp only[Prod.mk.injEq] at h2;obtain⟨rfl,rfl⟩:=h2;simp only[lf,wZ] at h1;split at h1
  ·cases h1
  ·rename_i hb;simp only[zE] at h1;subst h1;exact⟨rfl,.int k _,by simp[binOp,Op.intDiv,hb,pure],kz (Mm _ _)⟩
 case rem=>
  obtain⟨y,h1,h2⟩:=h;simp only[Prod.mk.injEq] at h2;obtain⟨rfl,rfl⟩:=h2;simp only[lf,j6] at h1;split at h1
  ·cases h1
  ·rename_i hb;simp only[zE] at h1;subst h1;exact⟨rfl,.int k _,by simp[binOp,Op.intDiv,hb,pure],kz (z5k ha)⟩
 all_goals
  obtain⟨rfl,rfl⟩:=h;refine⟨rfl,?_⟩
  first
  |exact⟨.int k _,by simp[binOp,Op.intArith,Op.intBits,lf,aA,cq,oN,oO,oP,nn,iM,pure],kz (Mm _ _)⟩
  |exact⟨.bool _,by simp[binOp,Op.intCmp,lf,aE,bJ,ak,ai,pure,bne],BZ⟩
end
def bl(s:ByteArray):List Int:=s.data.toList.map fun b=>(b.toNat:Int)
theorem z43{a b:UInt8}(h:(a.toNat:Int)=(b.toNat:Int)):a=b:=by apply UInt8.toNat_inj.1;omega
theorem qia:∀(x y:List UInt8),(x.map (fun b=>(b.toNat:Int))==y.map (fun b=>(b.toNat:Int)))=(x==y)
 |[],[]=>rfl
 |[],_::_=>rfl
 |_::_,[]=>rfl
 |a::x,b::y=>by
  have e:(((a.toNat:Nat):Int)==((b.toNat:Nat):Int))=(a==b):=by rw[Bool.eq_iff_iff];simp only[beq_iff_eq];exact⟨z43,fun h=>by rw[h]⟩
  have ih:=qia x y;simp only[zI,List.cons_beq_cons,e,ih]
theorem Vr:∀(x y:List UInt8),strLt (x.map fun b=>(b.toNat:Int)) (y.map fun b=>(b.toNat:Int))=Op.bytesLess x y
 |[],[]=>rfl
 |[],_::_=>rfl
 |_::_,[]=>rfl
 |a::x,b::y=>by
  have e1:decide (((a.toNat:Nat):Int)<((b.toNat:Nat):Int))=decide (a<b):=by rw[decide_eq_decide,UInt8.lt_iff_toNat_lt];omega
  have e2:decide (((a.toNat:Nat):Int)=((b.toNat:Nat):Int))=(a==b):=by rw[Bool.eq_iff_iff];simp only[decide_eq_true_eq,beq_iff_eq];exact⟨z43,fun h=>by rw[h]⟩
  simp only[zI,strLt,Op.bytesLess,e1,e2,Vr x y]
theorem Vs(a b:ByteArray):bx (bl a) (bl b)=(a.toList==b.toList):=by rw[ByteArray.toList_eq,ByteArray.toList_eq];exact qia _ _
theorem z0j(a b:ByteArray):strLt (bl a) (bl b)=Op.bytesLess a.toList b.toList:=by rw[ByteArray.toList_eq,ByteArray.toList_eq];exact Vr _ _
theorem qvq(a:ByteArray):(bl a).length=a.size:=by unfold bl;rw[zA];rfl
theorem qvr(a b:ByteArray):bl (a++b)=bl a++bl b:=by unfold bl;rw[<-zP,ByteArray.data_append,Array.toList_append]
section
variable {P:Program} {φ:Nat→Addr} {o:Nat→Obj} {w:World} {imm:Nat→Prop}
theorem z0k{op:BinOp}{a b:ByteArray}{v:V}{u:List (Nat×Obj)}(h:(z58 lf op (bl a) (bl b)).aG v u)(t:TypeId):u=[]/\oW P φ o imm w v (binOp op t (.string a) (.string b)):=by
 cases op<;>simp only[z58,cY,lN,NO] at h
 case add=>
  obtain⟨y,h1,h2⟩:=h;simp only[Prod.mk.injEq] at h2;obtain⟨rfl,rfl⟩:=h2;simp only[lf,fit,aW,ae,qvq] at h1;split at h1
  ·rename_i hb;refine⟨rfl,.string (a++b),?_,?_⟩
   ·simp[binOp,Op.stringOp,pure,Sem.run,IntKind.max,IntKind.signed,IntKind.bits];omega
   ·refine H9 (show bl (a++b)=bl a++bl b from qvr a b) ?_;rw[ByteArray.size_append];unfold bU;omega
  ·cases h1
 all_goals
  obtain⟨rfl,rfl⟩:=h;refine⟨rfl,.bool _,?_,BZ⟩;simp[binOp,Op.stringOp,lf,ai,aD,Vs,z0j,pure]
end
section
variable {P:Program} {C:Cx} {φ:Nat→Addr} {o:Nat→Obj} {w:World} {imm:Nat→Prop}
theorem z8p{k:IntKind}{a:Int}(n:Nat)(h:fO k a):fO k (a.fdiv (2 ^ n)):=by
 have hp:(0:Int)<2 ^ n:=Int.pow_pos om;rw[Int.fdiv_eq_ediv_of_nonneg _ (Int.le_of_lt hp)];have hz:=Vq k;unfold fO at*
 rcases Int.le_total 0 a with h0|h0
 ·have h1:=Int.ediv_nonneg h0 (Int.le_of_lt hp);have h2:a / 2 ^ n<=a:=Int.ediv_le_self _ h0;omega
 ·have h1:a / 2 ^ n<=0:=Int.ediv_nonpos_of_nonpos_of_neg h0 hp;have h2:a<=a / 2 ^ n:=by rw[Int.le_ediv_iff_mul_le hp];have:a*2 ^ n<=a*1:=Int.mul_le_mul_of_nonpos_left h0 om;omega
  omega
theorem qqr{op:BinOp}(hc:op=.shl\/op=.shr){k k':IntKind}{a b:Int}{v:V}{u:List (Nat×Obj)}(ha:fO k a)(h:(match op with|.shl=>Pk.jy (t:=.int k) (lf.fZ k a b)|_=>Pk.jy (t:=.int k) (lf.j7 k a b)).aG v u)(t:TypeId):u=[]/\oW P φ o imm w v (binOp op t (.int k a) (.int k' b)):=by
 rcases hc with rfl|rfl<;>simp only[GH,Prod.mk.injEq,lf,fZ,j7] at h<;>obtain⟨y,h1,rfl,rfl⟩:=h<;>split at h1
 ·cases h1
 ·rename_i hb;simp only[zE] at h1;subst h1;exact⟨rfl,.int k _,by simp[binOp,Op.shift,hb,pure],kz (Mm _ _)⟩
 ·cases h1
 ·rename_i hb;simp only[zE] at h1;subst h1;exact⟨rfl,.int k _,by simp[binOp,Op.shift,hb,pure],kz (z8p _ ha)⟩
end
theorem NQ{P:Program}{t:TypeId}{i:TypeInfo}(h:P.types.toList[t]?=some i):P.info? t=some i:=by
 rw[zN] at h;have ht:t<P.types.size:=by
  rcases Nat.lt_or_ge t P.types.size with h1|h1
  ·exact h1
  ·rw[zY h1] at h;cases h
 simp only[Tables.info?,ht,if_true];exact h
theorem j8{P:Program}{t:TypeId}{d:TypeDesc}(h:desc P t=some d):P.underlying t=some d:=by
 unfold desc at h;cases h1:P.types.toList[t]? with
 |none=>rw[h1] at h;cases h
 |some i=>
  rw[h1] at h;unfold Program.underlying;rw[NQ h1];obtain⟨d',_,_,_,_,_,_,_,_,_⟩:=i;cases d'<;>simp only at h ⊢<;>first|exact h|skip
  rename_i u;cases h2:P.types.toList[u]? with
  |none=>rw[h2] at h;cases h
  |some j=>rw[h2] at h;rw[NQ h2];exact h
theorem NR{k k':IntKind}(h:Nat.beq (qY k) (qY k')=true):k=k':=by cases k<;>cases k'<;>first|rfl|cases h
theorem Ia:∀{a b:Ty},nr a b=true->a=b
 |.int k,b,h=>by cases b<;>simp only[nr] at h<;>first|exact congrArg Ty.int (NR h)|cases h
 |.bool,b,h=>by cases b<;>simp only[nr] at h<;>first|rfl|cases h
 |.ej,b,h=>by cases b<;>simp only[nr] at h<;>first|rfl|cases h
 |.cJ,b,h=>by cases b<;>simp only[nr] at h<;>first|rfl|cases h
 |.str,b,h=>by cases b<;>simp only[nr] at h<;>first|rfl|cases h
 |.unit,b,h=>by cases b<;>simp only[nr] at h<;>first|rfl|cases h
 |.sl e,b,h=>by cases b<;>simp only[nr] at h<;>first|exact congrArg Ty.sl (Ia h)|cases h
 |.st e,b,h=>by cases b<;>simp only[nr] at h<;>first|exact congrArg Ty.st (Ia h)|cases h
 |.ks e,b,h=>by cases b<;>simp only[nr] at h<;>first|exact congrArg Ty.ks (Ia h)|cases h
 |.pair c d,b,h=>by cases b<;>simp only[nr,zd] at h<;>first|(rw[Ia h.1,Ia h.2])|cases h
 |.arr n e,b,h=>by cases b<;>simp only[nr,zd] at h<;>first|(rw[zg h.1,Ia h.2])|cases h
theorem Ib{T:Ty}{x:Option Ty}(h:fR T x=true):x=some T:=by
 cases x with
 |none=>cases h
 |some T'=>exact congrArg some (Ia h)
theorem bP{C:Cx}{t:TypeId}{T:Ty}(h:C.is t T=true):C.ty t=some T:=Ib h
def NS(f:List Value->Option (List Value)):Nat->List Value->Option (List Value)
 |0,cs=>some cs
 |n+1,cs=>match f cs with
  |some r=>NS f n r
  |none=>none
def l0:Ty->List Value->Option (List Value)
 |.int k,.int k' n::r=>bif Nat.beq (qY k) (qY k')&&decide (n=0) then some r else none
 |.bool,.bool false::r=>some r
 |.ej,.float .f64 0::r=>some r
 |.cJ,.complex .f64 0 0::r=>some r
 |.str,.string s::r=>bif Nat.beq s.size 0 then some r else none
 |.sl _,.slice none 0 0::r=>some r
 |.ks _,.slice none 0 0::r=>some r
 |.unit,cs=>some cs
 |.pair a b,cs=>match l0 a cs with
  |some r=>l0 b r
  |none=>none
 |.st p,cs=>l0 p cs
 |.arr n e,cs=>NS (l0 e) n cs
 |_,_=>none
theorem qib{α:Type}{f:List Value->Option (List Value)}{g:α->List Value->Prop}{z:α}(hf:∀cs r,f cs=some r->∃c,cs=c++r/\g z c):∀(n:Nat) (cs r:List Value),NS f n cs=some r->∃c,cs=c++r/\bD g (List.replicate n z) c
 |0,cs,r,h=>by simp only[NS,zE] at h;subst h;exact⟨[],rfl,rfl⟩
 |n+1,cs,r,h=>by
  simp only[NS] at h;split at h
  ·rename_i r1 h1;obtain⟨c,e1,e2⟩:=hf _ _ h1;obtain⟨d,e3,e4⟩:=qib hf n _ _ h;exact⟨c++d,by rw[e1,e3,zC],c,d,rfl,e2,e4⟩
  ·cases h
theorem qow(imm:Nat->Prop)(w:World)(T:Ty):∀(cs r:List Value),l0 T cs=some r->∃c,cs=c++r/\az imm w T (zero T) c:=by
 induction T with
 |int k=>
  intro cs r h;cases cs with
  |nil=>cases h
  |cons v cs=>
   cases v<;>(try simp only[l0] at h)<;>try (cases h;done)
   rename_i k' n;cases hb:(Nat.beq (qY k) (qY k')&&decide (n=0)) with
   |false=>rw[hb] at h;cases h
   |true=>rw[hb] at h;simp only[zd,decide_eq_true_eq] at hb;simp only[cond_true,zE] at h;obtain⟨h1,rfl⟩:=hb;have:=NR h1;subst this h;exact⟨[_],rfl,rfl,Vq k⟩
 |bool=>
  intro cs r h;cases cs with
  |nil=>cases h
  |cons v cs=>
   cases v<;>(try simp only[l0] at h)<;>try (cases h;done)
   rename_i b;cases b
   ·simp only[l0,zE] at h;subst h;exact⟨[_],rfl,rfl⟩
   ·cases h
 |ej=>
  intro cs r h;cases cs with
  |nil=>cases h
  |cons v cs=>
   cases v<;>(try simp only[l0] at h)<;>try (cases h;done)
   rename_i k b;cases k<;>(try simp only[l0] at h)<;>try (cases h;done)
   cases b<;>(try simp only[l0] at h)<;>try (cases h;done)
   injection h with h;subst h;exact⟨[_],rfl,rfl⟩
 |cJ=>
  intro cs r h;cases cs with
  |nil=>cases h
  |cons v cs=>
   cases v<;>(try simp only[l0] at h)<;>try (cases h;done)
   rename_i k a b;cases k<;>(try simp only[l0] at h)<;>try (cases h;done)
   cases a<;>(try simp only[l0] at h)<;>try (cases h;done)
   cases b<;>(try simp only[l0] at h)<;>try (cases h;done)
   injection h with h;subst h;exact⟨[_],rfl,rfl⟩
 |str=>
  intro cs r h;cases cs with
  |nil=>cases h
  |cons v cs=>
   cases v<;>(try simp only[l0] at h)<;>try (cases h;done)
   rename_i s;cases hb:Nat.beq s.size 0 with
   |false=>rw[hb] at h;cases h
   |true=>rw[hb] at h;simp only[cond_true,zE] at h;subst h;have hz:=zg hb;refine⟨[_],rfl,s,rfl,?_,by omega⟩;have:s.data.toList=[]:=zQ (by simpa using hz);rw[this];rfl
 |sl e _=>
  intro cs r h;cases cs with
  |nil=>cases h
  |cons v cs=>
   cases v<;>(try simp only[l0] at h)<;>try (cases h;done)
   rename_i a n m;cases a<;>cases n<;>cases m<;>try (cases h;done)
   have h:=zK h;subst h;exact⟨[_],rfl,_,rfl,Nat.zero_le _,.inl ⟨rfl,rfl,rfl⟩⟩
 |ks e _=>
  intro cs r h;cases cs with
  |nil=>cases h
  |cons v cs=>
   cases v<;>(try simp only[l0] at h)<;>try (cases h;done)
   rename_i a n m;cases a<;>cases n<;>cases m<;>try (cases h;done)
   have h:=zK h;subst h;exact⟨[_],rfl,1,_,rfl,Nat.zero_le _,.inl ⟨rfl,rfl,rfl⟩⟩
 |unit=>intro cs r h;simp only[l0,zE] at h;subst h;exact⟨[],rfl,rfl⟩
 |pair a b nA jD=>
  intro cs r h;simp only[l0] at h;split at h
  ·rename_i r1 h1;obtain⟨c,e1,e2⟩:=nA _ _ h1;obtain⟨d,e3,e4⟩:=jD _ _ h;exact⟨c++d,by rw[e1,e3,zC],c,d,rfl,e2,e4⟩
  ·cases h
 |st p ih=>intro cs r h;exact ih _ _ h
 |arr n e ih=>intro cs r h;obtain⟨c,e1,e2⟩:=qib ih n _ _ h;exact⟨c,e1,by simp[zero],e2⟩
def NT:Ty->Ty
 |.ks p=>.sl (lK p)
 |t=>t
def qI(C:Cx):List Field->Ty->Nat->Bool
 |[],.unit,_=>true
 |[f],p,off=>C.is f.type (NT p)&&Nat.beq f.offset off
 |f::g::r,.pair a b,off=>C.is f.type a&&Nat.beq f.offset off&&qI C (g::r) b (off+aI a)
 |_,_,_=>false
def l7(C:Cx):TypeDesc->Ty->Bool
 |.int k,.int k'=>Nat.beq (qY k) (qY k')
 |.bool,.bool=>true
 |.float .f64,.ej=>true
 |.complex .f64,.cJ=>true
 |.string,.str=>true
 |.slice e,.sl e'=>C.is e e'
 |.array n e,.arr n' e'=>Nat.beq n n'&&C.is e e'
 |.struct fs,.st p=>qI C fs.toList p 0
 |_,_=>false
def iQ:Ty->Bool
 |.st _=>true|.arr .. =>true|_=>false
def Ic:Value->Bool
 |.agg _=>true|_=>false
def Vt(C:Cx)(t:TypeId)(T:Ty):Bool:=
 match C.P.types.toList[t]?,desc C.P t with
 |some i,some d=>Nat.beq i.size (aI T)&&Nat.ble i.bytes 65536&&l7 C d T&&
  (match i.zero with
   |some z=>(Ic z==iQ T)&&(match l0 T z.cells.toList with|some []=>true|_=>false)
   |none=>false)
 |_,_=>false
def Mn(C:Cx):List (Nat×Ty)->Bool
 |[]=>true
 |p::r=>Vt C p.1 p.2&&Mn C r
structure l9 (C:Cx) (t:TypeId) (T:Ty):Prop where
 info:∃i z,C.P.info? t=some i/\C.P.types.toList[t]?=some i/\i.size=aI T/\i.bytes<=65536/\i.zero=some z/\Ic z=iQ T/\∀imm w,az imm w T (zero T) z.cells.toList
 desc:∃d,desc C.P t=some d/\C.P.underlying t=some d/\l7 C d T=true
theorem qt4{C:Cx}{t:TypeId}{T:Ty}(h:Vt C t T=true):l9 C t T:=by
 unfold Vt at h;split at h
 ·rename_i i d h1 h2;simp only[zd] at h;obtain⟨⟨⟨h3,h4⟩,h5⟩,h6⟩:=h;split at h6
  ·rename_i z hz;simp only[zd] at h6;obtain⟨h7,h8⟩:=h6;refine⟨⟨i,z,NQ h1,h1,zg h3,zF h4,hz,?_,?_⟩,d,h2,j8 h2,h5⟩
   ·exact eq_of_beq h7
   ·intro imm w;split at h8
    ·rename_i h9;obtain⟨c,e1,e2⟩:=qow imm w T _ _ h9;rw[e1,zu];exact e2
    ·cases h8
  ·cases h6
 ·cases h
theorem Vu{C:Cx}:∀{l:List (Nat×Ty)},Mn C l=true->∀t T,CJ l t=some T->l9 C t T
 |[],_,_,_,h=>by cases h
 |(a,S)::r,hc,t,T,h=>by
  simp only[Mn,zd] at hc;simp only[CJ] at h;cases hb:Nat.beq a t with
  |true=>rw[hb] at h;simp only[cond_true,zE] at h;have:=zg hb;subst this h;exact qt4 hc.1
  |false=>rw[hb] at h;exact Vu hc.2 t T h
structure cu (C:Cx):Prop where
 dQ:∀t T,C.ty t=some T->l9 C t T
section
variable {P:Program} {C:Cx} {X:Nat→Prop} {φ:Nat→Addr} {o:Nat→Obj} {w:World} {imm:Nat→Prop}
theorem GI{e:Ty}{s:Sl (den e)}{z:Value}(h:av φ o imm w (.d (.sl e) s) z):s.l.length<=bU/\((s.nil=true/\s.l=[]/\z=.slice none 0 0)\/(s.nil=false/\∃a cap ec,z=.slice (some a) s.l.length cap/\(cap≠0->a.spot=none)/\(s.l≠[]->imm a.block)/\bD (az imm w e) s.l ec/\jC w a ec/\s.l.length<=cap)):=by
 simp only[av,ba,az] at h;obtain⟨v,h1,h2,h3⟩:=h;have:z=v:=by simpa using h1
 subst this;exact⟨h2,h3⟩
theorem qid{x:V}{z:Value}{t:Ty}{s:Sl (den t)}(h:av φ o imm w x z)(he:BT lf o x=some ⟨t,s⟩)(hl:∀id,oC φ o imm w id (o id)):(s.nil=true/\s.l=[]/\z=.slice none 0 0)\/(s.nil=false/\∃a cap,z=.slice (some a) s.l.length cap):=by
 cases x<;>simp only[BT] at he<;>try (cases he;done)
 ·rename_i id ver;have ho:=hl id;unfold av at h;split at he
  ·rename_i t' aB fr s' e1;rw[e1] at h ho;cases hb:Nat.beq ver aB with
   |false=>rw[hb] at he;cases he
   |true=>
    rw[hb] at he;simp only[cond_true,zE,Sigma.mk.injEq] at he;obtain⟨rfl,he⟩:=he;have he:=eq_of_heq he;subst he;have h:=h.2 (zg hb);rcases h with ⟨h1,h2⟩|⟨h1,cap,h2,h3,h4⟩
    ·exact .inl ⟨h1,ho.2.1 h1,h2⟩
    ·exact .inr ⟨h1,_,cap,h2⟩
  ·cases he
 ·rename_i id ver n cp;have ho:=hl id;unfold av at h;split at he
  ·rename_i t' aB fr s' e1;rw[e1] at h ho;cases hb:Nat.beq ver aB with
   |false=>rw[hb] at he;cases he
   |true=>
    rw[hb] at he;simp only[cond_true,zE,Sigma.mk.injEq] at he;obtain⟨rfl,he⟩:=he;have he:=eq_of_heq he;subst he;obtain⟨h0,h,_⟩:=h.2 (zg hb);rcases h with ⟨h1,h2⟩|⟨h1,cap,h2,h3,h4⟩
    ·exact .inl ⟨h1,by simp[lf,aF,ho.2.1 h1],h2⟩
    ·have e2:(lf.aF s'.l n).length=n:=by simp[lf,aF,Nat.min_eq_left h0]
     exact .inr ⟨h1,bare (φ id),cap,by rw[h2];exact congrArg (fun k=>Value.slice (some (bare (φ id))) k cap) e2.symm⟩
  ·cases he
 ·rename_i id ver lo;have ho:=hl id;unfold av at h;split at he
  ·rename_i t' aB fr s' e1;rw[e1] at h ho;cases hb:Nat.beq ver aB with
   |false=>rw[hb] at he;cases he
   |true=>
    rw[hb] at he;simp only[cond_true,zE,Sigma.mk.injEq] at he;obtain⟨rfl,he⟩:=he;have he:=eq_of_heq he;subst he;obtain⟨k,rfl,hk,h⟩:=h.2 (zg hb);rcases h with ⟨h1,h2⟩|⟨h1,cap,h2,h3⟩
    ·exact .inl ⟨h1,by simp[lf,cB,ho.2.1 h1],h2⟩
    ·have e2:(lf.cB s'.l (k:Int)).length=s'.l.length-k:=by simp[lf,cB]
     exact .inr ⟨h1,_,cap,by rw[h2];exact congrArg (fun j=>Value.slice _ j cap) e2.symm⟩
  ·cases he
end
def qlo:Value->Bool
 |.nilIface=>false|.agg _=>false|_=>true
section
variable {P:Program} {C:Cx} {X:Nat→Prop} {φ:Nat→Addr} {o:Nat→Obj} {w:World} {imm:Nat→Prop}
theorem qox{op:BinOp}{t:TypeId}{x y:Operand}{a b:Value}(h:qlo a=true):(eqGuard op t x y a b).run P w=.ok () w:=by cases a<;>first|(cases h;done)|(cases op<;>cases b<;>simp[eqGuard])
theorem z5m{op:BinOp}{t:TypeId}{x y:Value}{b:Bool}{v:V}{u:List (Nat×Obj)}(h:(ig lf op b).aG v u)(he:(Op.equal t x y).run P w=.ok b w)(hi:∀op,op=.eql\/op=.neq->binOp op t x y=(match op with|.eql=>(do pure (.bool (<-Op.equal t x y)))|_=>(do pure (.bool (!(<-Op.equal t x y)))))):u=[]/\oW P φ o imm w v (binOp op t x y):=by
 cases op<;>simp only[ig,cY,NO] at h
 ·obtain⟨rfl,rfl⟩:=h;refine⟨rfl,.bool b,?_,BZ⟩;rw[hi _ (.inl rfl)];simp[he]
 ·obtain⟨rfl,rfl⟩:=h;refine⟨rfl,.bool (!b),?_,BZ⟩;rw[hi _ (.inr rfl)];simp[he]
theorem Mo{t:TypeId}{n:Nat}(h:Nat.beq (ux C t) n=true)(hn:n<5):∃d,C.P.underlying t=some d/\(match n,d with|0,.bool=>True|1,.slice _=>True|2,.func .. =>True|3,.pointer _=>True|4,.map .. =>True|_,_=>False):=by
 have h:=zg h;unfold ux at h;cases hd:desc C.P t with
 |none=>rw[hd] at h;simp at h;omega
 |some d=>rw[hd] at h;exact⟨d,j8 hd,by cases d<;>simp only at h<;>subst h<;>first|trivial|omega⟩
theorem qt5(d:Nat){t e:TypeId}(ht:P.underlying t=some (.slice e))(b:Option Addr)(n m:Nat):(Op.equalIn (d+1) t (.slice b n m) (.slice none 0 0)).run P w=.ok b.isNone w:=by cases b<;>simp[Op.equalIn,run_underlying ht]
theorem qlp(d:Nat){t:TypeId}{ps rs:Array TypeId}{v:Bool}(ht:P.underlying t=some (.func ps rs v))(f:Fn)(a c:Array Value):(Op.equalIn (d+1) t (.func f a c) .nilFunc).run P w=.ok false w:=by simp[Op.equalIn,run_underlying ht]
theorem qdx(d:Nat){t:TypeId}{ps rs:Array TypeId}{v:Bool}(ht:P.underlying t=some (.func ps rs v)):(Op.equalIn (d+1) t .nilFunc .nilFunc).run P w=.ok true w:=by simp[Op.equalIn,run_underlying ht]
theorem z0l(d:Nat){t e:TypeId}(ht:P.underlying t=some (.pointer e))(a:Option Addr):(Op.equalIn (d+1) t (.pointer a) (.pointer none)).run P w=.ok a.isNone w:=by cases a<;>simp[Op.equalIn,run_underlying ht]
theorem Ie{t:TypeId}{a b:Value}{r:Bool}(h:(Op.equalIn (9999+1) t a b).run P w=.ok r w):(Op.equal t a b).run P w=.ok r w:=h
theorem Vv{x:V}{z:Value}(hx:av φ o imm w x z)(h:sure o x=true):∃a,z=.pointer (some a):=by
 cases x<;>simp only[sure] at h<;>try (cases h;done)
 ·rename_i id off;unfold av at hx;cases e:o id<;>rw[e] at h hx<;>simp only at h hx<;>try (cases h;done)
  ·exact⟨_,hx⟩
  ·exact⟨_,hx (zg h).symm⟩
 ·obtain⟨a,cs,h1,_⟩:=hx;exact⟨a,h1⟩
theorem oX{op:BinOp}{t:TypeId}{x y:Value}{b:Bool}{v:V}{u:List (Nat×Obj)}(h:(ig lf op b).aG v u)(he:(Op.equal t x y).run P w=.ok b w)(hi:(∀op:BinOp,op=.eql->binOp op t x y=(do pure (.bool (<-Op.equal t x y))))/\(∀op:BinOp,op=.neq->binOp op t x y=(do pure (.bool (!(<-Op.equal t x y)))))):u=[]/\oW P φ o imm w v (binOp op t x y):=
 z5m h he fun op ho=>by
  rcases ho with rfl|rfl
  ·exact hi.1 _ rfl
  ·exact hi.2 _ rfl
theorem z0m{op:BinOp}{a b:Nat}{v:V}{u:List (Nat×Obj)}(h:(z59 lf op a b).aG v u)(t:TypeId):u=[]/\oW P φ o imm w v (binOp op t (.float .f64 a) (.float .f64 b)):=by
 cases op<;>simp only[z59,cY,GH,NO] at h
 ·obtain⟨y,h1,h2⟩:=h;simp only[Prod.mk.injEq] at h2;obtain⟨rfl,rfl⟩:=h2;have h1:Ieee.double.add a b=some y:=h1;exact⟨rfl,.float .f64 y,by simp[binOp,Op.floatArith,FloatKind.format,h1],Sa⟩
 ·obtain⟨rfl,rfl⟩:=h;exact⟨rfl,.bool _,by simp[binOp,Op.floatCmp,FloatKind.format,lf,HM],BZ⟩
theorem z0n{op:BinOp}{a b:Nat×Nat}{v:V}{u:List (Nat×Obj)}(h:(UI lf op a b).aG v u)(t:TypeId):u=[]/\oW P φ o imm w v (binOp op t (.complex .f64 a.1 a.2) (.complex .f64 b.1 b.2)):=by
 cases op<;>simp only[UI,GH,NO] at h
 ·obtain⟨y,h1,h2⟩:=h;simp only[Prod.mk.injEq] at h2;obtain⟨rfl,rfl⟩:=h2;cases hx:Ieee.double.add a.1 b.1 with
  |none=>have h1:ag (Ieee.double.add a.1 b.1) (fun x=>ag (Ieee.double.add a.2 b.2) fun y=>some (x,y))=some y:=h1;rw[hx] at h1;cases h1
  |some x=>
   cases hz:Ieee.double.add a.2 b.2 with
   |none=>have h1:ag (Ieee.double.add a.1 b.1) (fun x=>ag (Ieee.double.add a.2 b.2) fun y=>some (x,y))=some y:=h1;rw[hx,hz] at h1;cases h1
   |some z=>have h1:ag (Ieee.double.add a.1 b.1) (fun x=>ag (Ieee.double.add a.2 b.2) fun y=>some (x,y))=some y:=h1;rw[hx,hz] at h1;injection h1 with h1;subst h1;exact⟨rfl,.complex .f64 x z,by simp[binOp,Op.complexOp,Op.Complex.arith,Op.floatArith,FloatKind.format,hx,hz],Vp⟩
theorem z0o{op:BinOp}{t:TypeId}{x y:V}{zx zy:Value}{v:V}{u:List (Nat×Obj)}(hl:∀id,oC φ o imm w id (o id))(hx:av φ o imm w x zx)(hy:av φ o imm w y zy)(hj:∀(t:TypeId) (p:Ty) (a b:den p) (xs ys:Array Value),bI t C.eqs=true->C.ty t=some (.st p)->az imm w p a xs.toList->az imm w p b ys.toList->(Op.equal t (.agg xs) (.agg ys)).run C.P w=.ok (fe lf p a b) w)(h:(L5 lf C o op t x y).aG v u):u=[]/\oW C.P φ o imm w v (binOp op t zx zy):=by
 have hc:∀(s:Bool) (zx:Value),(Nat.beq (ux C t) 1=true/\(ig lf op s).aG v u)->zy=.slice none 0 0->(∃b n m,zx=.slice b n m/\b.isNone=s)->u=[]/\oW C.P φ o imm w v (binOp op t zx zy):=by
  rintro s zx ⟨h1,h2⟩ rfl ⟨b,n,m,rfl,rfl⟩;obtain⟨d,hd,hk⟩:=Mo h1 om;cases d<;>try exact False.elim hk
  exact oX h2 (Ie (qt5 _ hd _ _ _)) ⟨by rintro _ rfl;rfl,by rintro _ rfl;rfl⟩
 have hf:∀(zx:Value) (s:Bool),Nat.beq (ux C t) 3=true->(ig lf op s).aG v u->zy=.pointer none->(∃a,zx=.pointer a/\a.isNone=s)->u=[]/\oW C.P φ o imm w v (binOp op t zx zy):=by
  rintro zx s h1 h2 rfl ⟨a,rfl,rfl⟩;obtain⟨d,hd,hk⟩:=Mo h1 om;cases d<;>try exact False.elim hk
  refine oX h2 (Ie (z0l _ hd _)) ⟨by rintro _ rfl;rfl,by rintro _ rfl;rfl⟩
 unfold L5 at h;split at h
 ·
  rename_i k a k' b;obtain⟨rfl,ha⟩:=kI hx;obtain⟨rfl,hb⟩:=kI hy;split at h
  ·exact qqr (.inl rfl) ha h t
  ·exact qqr (.inr rfl) ha h t
  ·split at h
   ·rename_i e _;subst e;exact z0i ha h t
   ·cases h
 ·obtain⟨s,rfl,rfl,_⟩:=nz hx;obtain⟨s',rfl,rfl,_⟩:=nz hy;exact z0k h t
 ·have e1:=NP hx;have e2:=NP hy;subst e1 e2;exact z0m h t
 ·have e1:=Ml hx;have e2:=Ml hy;subst e1 e2;exact z0n h t
 ·have e1:=oE hx;have e2:=oE hy;subst e1 e2;rw[df] at h;obtain⟨d,hd,hk⟩:=Mo h.1 om;cases d<;>try exact False.elim hk
  exact oX h.2 (Ie (run_equalIn_bool _ _ _ _ _ hd)) ⟨by rintro _ rfl;rfl,by rintro _ rfl;rfl⟩
 ·rename_i p a p' b;split at h
  ·rename_i b' hb;rw[df,zd] at h;unfold fQ at hb;split at hb
   ·rename_i hp _;subst hp;simp only[zE] at hb;subst hb;obtain⟨xs,rfl,hm⟩:=hx;obtain⟨ys,rfl,hn⟩:=hy;exact oX h.2 (hj t p' a b xs ys h.1.1 (bP h.1.2) hm hn) ⟨by rintro _ rfl;rfl,by rintro _ rfl;rfl⟩
   ·cases hb
  ·cases h
 ·rename_i e s;rw[df] at h;refine hc _ _ h hy ?_;obtain⟨_,h2⟩:=GI hx;rcases h2 with ⟨h3,_,rfl⟩|⟨h3,a,cap,ec,rfl,_⟩
  ·exact⟨_,_,_,rfl,by rw[h3];rfl⟩
  ·exact⟨_,_,_,rfl,by rw[h3];rfl⟩
 ·rw[df] at h;exact hc _ _ h hy ⟨_,_,_,hx,rfl⟩
 ·rename_i f l;rw[df] at h;obtain⟨c,rfl,_⟩:=hx;have e2:zy=.nilFunc:=hy;subst e2;obtain⟨d,hd,hk⟩:=Mo h.1 om;cases d<;>try exact False.elim hk
  exact oX h.2 (Ie (qlp _ hd _ _ _)) ⟨by rintro _ rfl;rfl,by rintro _ rfl;rfl⟩
 ·rw[df] at h;have e1:zx=.nilFunc:=hx;have e2:zy=.nilFunc:=hy;subst e1 e2;obtain⟨d,hd,hk⟩:=Mo h.1 om;cases d<;>try exact False.elim hk
  exact oX h.2 (Ie (qdx _ hd)) ⟨by rintro _ rfl;rfl,by rintro _ rfl;rfl⟩
 ·rename_i a k n;rw[df] at h;have e2:zy=.nilFunc:=hy;subst e2;have hr:uF imm w a k n zx:=hx;have hg:(Int.ofNat (nq a 0))=((a.length:Nat):Int):=by rw[Vm,zO];rfl
  obtain⟨d,hd,hk⟩:=Mo h.1 om;cases d<;>try exact False.elim hk
  rcases R9 a hr with ⟨rfl,e⟩|⟨f,c,rfl,e⟩
  ·have hb:lf.e k (Int.ofNat (nq a 0))=true:=by rw[hg,e];show(((a.length:Nat):Int)==_)=true;simp
   rw[hb] at h;exact oX h.2 (Ie (qdx _ hd)) ⟨by rintro _ rfl;rfl,by rintro _ rfl;rfl⟩
  ·have hb:lf.e k (Int.ofNat (nq a 0))=false:=by rw[hg];show(k==_)=false;simp[e]
   rw[hb] at h;exact oX h.2 (Ie (qlp _ hd _ _ _)) ⟨by rintro _ rfl;rfl,by rintro _ rfl;rfl⟩
 ·rw[df] at h;exact hf _ _ h.1 h.2 hy ⟨none,hx,rfl⟩
 ·rw[df,zd] at h;obtain⟨a,ha⟩:=Vv hx h.1.2;exact hf _ _ h.1.1 h.2 hy ⟨some a,ha,rfl⟩
 ·split at h
  ·rename_i e s he;rw[df] at h;refine hc _ _ h hy ?_;rcases qid hx he hl with ⟨h3,_,rfl⟩|⟨h3,a,cap,rfl⟩
   ·exact⟨_,_,_,rfl,by rw[h3];rfl⟩
   ·exact⟨_,_,_,rfl,by rw[h3];rfl⟩
  ·cases h
 ·cases h
end
end Ev