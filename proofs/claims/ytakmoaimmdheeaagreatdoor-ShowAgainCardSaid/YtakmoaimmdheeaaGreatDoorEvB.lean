/- The evaluator: code; what data is in memory; numbers, strings, types. No statement of its own about the program. -/
import Derived.Test.YtakmoaimmdheeaaGreatDoorEvA
import GoSem.Machine.Frame
import GoSem.Core.Sem
import Derived.Orders
import Derived.Laws.Strings
import Derived.Laws.StructEq
import Derived.Laws.Slices
namespace Ev
open Go
def bit(t:Nat):Nat:=1<<<t
def Ms:Operand->Nat
 |.tmp t=>bit t
 |_=>0
def IY:List Operand->Nat
 |[]=>0
 |x::r=>Ms x|||IY r
def zc8(a b:Nat):Nat:=(a|||b) ^^^ b
def z9s(o:Oper):Nat:=IY o.op.operands.toList
def PH:List Oper->Nat->Nat
 |[],m=>m
 |o::r,m=>let m':=PH r m
  (match o.dst with|some d=>zc8 m' (bit d)|none=>m')|||z9s o
def look(i:Nat):List (Nat×Nat)->Nat
 |[]=>0
 |(a,b)::r=>bif Nat.beq a i then b else look i r
def kF{β:Type}(n:Nat)(k:Nat->β):β:=Nat.rec (k 0) (fun m _=>k (Nat.succ m)) n
inductive AC where
 |skip
 |region (id:Nat) (ops:Array Oper) (draw:Bool)
 |seq (a b:AC)
 |cond (c:Operand) (m:List Nat) (a b:AC)
 |block (id:Nat) (m:List Nat) (b:AC)
 |loop (m:List Nat) (b:AC)
 |exit (id:Nat)
 |goto (l:Nat)
 |ret
 |scope (b:AC)
 |jump (l:Nat) (m:List Nat) (p r:AC)
 |bad
def Da(l:Nat):Code->Bool
 |.seq a b=>Da l a||Da l b
 |.cond _ a b=>Da l a||Da l b
 |.block _ b=>Da l b
 |.loop b=>Da l b
 |.scope b=>Da l b
 |.goto j=>Nat.beq j l
 |_=>false
def Mt(whole:Code):Code->Option Nat
 |.seq a b=>match Mt whole a with
  |some l=>some l
  |none=>Mt whole b
 |.label l=>bif Da l whole then some l else none
 |_=>none
def qZ(nt:Nat):List Oper->Bool
 |[]=>true
 |o::r=>(match o.dst with|some d=>Nat.blt d nt|none=>true)&&qZ nt r
def tL{β:Type}(m:Nat):Nat->List Nat->(List Nat->β)->β
 |0,acc,k=>k acc
 |n+1,acc,k=>bif Nat.testBit m n then tL m n (n::acc) k else tL m n acc k
def ahead(l:Nat):Code->Option Code
 |.seq a b=>match ahead l a with
  |some c=>some c
  |none=>match ahead l b with
   |some c=>some (.seq a c)
   |none=>none
 |.label j=>bif Nat.beq j l then some .skip else none
 |_=>none
def ly{β:Type}(rt nt:Nat):Nat->(c:Code)->(ex gt:List (Nat×Nat))->Nat->(Nat->AC->β)->β
 |0,_,_,_,m,k=>k m .bad
 |_+1,.skip,_,_,m,k=>k m .skip
 |_+1,.label _,_,_,m,k=>k m .skip
 |_+1,.region id ops d,_,_,m,k=>bif qZ nt ops.toList then kF (PH ops.toList m) fun m'=>k m' (.region id ops d) else k m .bad
 |n+1,.seq a b,ex,gt,m,k=>ly rt nt n b ex gt m fun mb b'=>ly rt nt n a ex gt mb fun ma a'=>k ma (.seq a' b')
 |n+1,.cond c a b,ex,gt,m,k=>ly rt nt n a ex gt m fun ma a'=>ly rt nt n b ex gt m fun mb b'=>kF (Ms c|||ma|||mb) fun m'=>tL m nt [] fun ts=>k m' (.cond c ts a' b')
 |n+1,.block id b,ex,gt,m,k=>ly rt nt n b ((id,m)::ex) gt m fun mb b'=>tL m nt [] fun ts=>k mb (.block id ts b')
 |n+1,.loop b,ex,gt,_,k=>ly rt nt n b ex gt 0 fun m1 _=>ly rt nt n b ex gt m1 fun m2 b'=>tL m2 nt [] fun ts=>k m2 (.loop ts b')
 |_+1,.exit id,ex,_,_,k=>k (look id ex) (.exit id)
 |_+1,.goto l,_,gt,_,k=>k (look l gt) (.goto l)
 |_+1,.ret,_,_,_,k=>k rt .ret
 |n+1,.scope b,ex,gt,m,k=>match Mt b b with
  |none=>ly rt nt n b ex gt m fun mb b'=>k mb (.scope b')
  |some l=>match ahead l b,findLabel b l with
   |some p,some r=>ly rt nt n r ex ((l,0)::gt) m fun m1 _=>ly rt nt n r ex ((l,m1)::gt) m fun m2 r'=>ly rt nt n p ex gt m2 fun mp p'=>tL m2 nt [] fun ts=>k mp (.jump l ts p' r')
   |_,_=>k m .bad
 |_+1,_,_,_,m,k=>k m .bad
def Ag(id:Nat):AC->Bool
 |.seq a b=>Ag id a||Ag id b
 |.cond _ _ a b=>Ag id a||Ag id b
 |.block _ _ b=>Ag id b
 |.loop _ b=>Ag id b
 |.scope b=>Ag id b
 |.jump _ _ p r=>Ag id p||Ag id r
 |.exit j=>Nat.beq j id
 |_=>false
def sX:AC->Bool
 |.seq a b=>sX a&&sX b
 |.cond _ _ a b=>sX a||sX b
 |.block id _ b=>sX b||Ag id b
 |.loop _ _=>false
 |.scope b=>sX b
 |.jump _ _ p r=>sX p&&sX r
 |.exit _=>false
 |.ret=>false
 |.goto _=>false
 |.bad=>false
 |_=>true
def ways(id:Nat):AC->Nat
 |.seq a b=>ways id a+ways id b
 |.cond _ _ a b=>ways id a+ways id b
 |.block _ _ b=>ways id b
 |.loop _ b=>ways id b
 |.scope b=>ways id b
 |.jump _ _ p r=>ways id p+ways id r
 |.exit j=>bif Nat.beq j id then 1 else 0
 |_=>0
def tM:AC->Bool
 |.seq a b=>tM a||tM b
 |.cond _ _ a b=>tM a||tM b
 |.block _ _ b=>tM b
 |.loop _ b=>tM b
 |.scope b=>tM b
 |.jump _ _ p r=>tM p||tM r
 |.exit _=>true
 |.ret=>true
 |.goto _=>true
 |_=>false
inductive Ex where
 |normal|exit (id:Nat)|goto (l:Nat)|ret
section
variable (L:Lf) (C:Cx) (R:iX C.sigs)
def IZ:List Nat->List V->Nat->V
 |t::ts,v::vs=>cu (IZ ts vs) t v
 |_,_=>fun _=>.dQ
def Ei(d:Nat):List Oper->Option (List Oper×Oper×List Oper)
 |[]=>none
 |o::r=>match o.op with
  |.pick (.tmp c) _ _=>bif Nat.beq c d then some ([],o,r) else(Ei d r).map fun p=>(o::p.1,p.2.1,p.2.2)
  |_=>(Ei d r).map fun p=>(o::p.1,p.2.1,p.2.2)
def bC(st:St)(d:Option Nat)(v:V):St:=match d with
 |some d=>{st with env:=cu st.env d v}
 |none=>st
def vV(st:St):List Oper->St
 |[]=>st
 |o::r=>vV (bC st o.dst .dQ) r
def jW(rg i:Nat):Nat:=16*(1+256*rg+i)
mutual
def ng{β:Type}:V->(V->β)->β
 |.d t x,k=>k (.d t x)
 |.bM id ver,k=>kF id fun id=>kF ver fun ver=>k (.bM id ver)
 |.pre id ver n c,k=>kF id fun id=>kF ver fun ver=>k (.pre id ver n c)
 |.ptr id off,k=>kF id fun id=>kF off fun off=>k (.ptr id off)
 |.fn f l,k=>kF f fun f=>Db l fun l=>k (.fn f l)
 |.jx l,k=>Db l fun l=>k (.jx l)
 |.agg l,k=>Db l fun l=>k (.agg l)
 |.dA id b,k=>kF id fun id=>k (.dA id b)
 |.jG id ver lo,k=>kF id fun id=>kF ver fun ver=>k (.jG id ver lo)
 |v,k=>k v
def Db{β:Type}:List V->(List V->β)->β
 |[],k=>k []
 |v::l,k=>ng v fun v=>Db l fun l=>k (v::l)
end
def I0{β:Type}:Obj->(Obj->β)->β
 |.box cs,k=>Db cs fun cs=>k (.box cs)
 |.vec t ver fr s,k=>kF ver fun ver=>k (.vec t ver fr s)
 |o,k=>k o
def Mu{β:Type}(o:Nat->Obj):List (Nat×Obj)->((Nat->Obj)->β)->β
 |[],k=>k o
 |(i,x)::r,k=>kF i fun i=>I0 x fun x=>Mu (cu o i x) r k
def q7{β:Type}(fr:Nat)(o:Nat->Obj):List (Nat×Obj)->((Nat->Obj)->Option β)->Option β
 |[],k=>k o
 |(i,x)::r,k=>kF i fun i=>bif Nat.ble fr i&&Nat.blt i (fr+16) then
   (match o i with
   |.none=>I0 x fun x=>q7 fr (cu o i x) r k
   |_=>none)
  else I0 x fun x=>q7 fr (cu o i x) r k
def sY{β:Type}(sk ts:List Nat)(s:Shape)(c:ai s.aN)(k:St->β):β:=
 let p:=fill (dD sk) (fun _=>0) s c
 Db p.1 fun vs=>Mu (fun _=>Obj.none) p.2 fun o=>k ⟨IZ ts vs,o⟩
mutual
def lF{β:Type}:Sh->(Sh->β)->β
 |.d t,k=>k (.d t)
 |.ref t,k=>k (.ref t)
 |.bM id,k=>kF id fun id=>k (.bM id)
 |.ptr id off,k=>kF id fun id=>kF off fun off=>k (.ptr id off)
 |.fn f l,k=>kF f fun f=>Dd l fun l=>k (.fn f l)
 |.jx l,k=>Dd l fun l=>k (.jx l)
 |.agg l,k=>Dd l fun l=>k (.agg l)
 |.mp id,k=>kF id fun id=>k (.mp id)
 |.it id,k=>kF id fun id=>k (.it id)
 |.dA id,k=>kF id fun id=>k (.dA id)
 |.jG id,k=>kF id fun id=>k (.jG id)
 |s,k=>k s
def Dd{β:Type}:List Sh->(List Sh->β)->β
 |[],k=>k []
 |s::l,k=>lF s fun s=>Dd l fun l=>k (s::l)
end
def PI{β:Type}:fW->(fW->β)->β
 |.box l,k=>Dd l fun l=>k (.box l)
 |s,k=>k s
def Mv{β:Type}:List fW->(List fW->β)->β
 |[],k=>k []
 |s::l,k=>PI s fun s=>Mv l fun l=>k (s::l)
def K(γ:Type)(α:Type):Type 1:=(δ:Type)->(γ->δ)->α->Option δ
def Xa:(δ:Type)->(Bool->δ)->V->Option δ
 |_,w,.d .bool x=>some (w x)
 |_,_,_=>none
def vW:Option (Nat->Obj)->List (Nat×Obj)->Bool
 |none,_=>true
 |some _,[]=>true
 |some o,(i,_)::r=>(match o i with|.none=>true|_=>false)&&vW (some o) r
def PJ(f:Nat):List lr->Bool
 |[]=>false
 |s::r=>bif Nat.beq s.f f then(match s.bH with|[]=>PJ f r|_=>true) else PJ f r
def z6x:Op->Bool
 |.call c=>match c.callee with
  |.value (.func f)=>PJ f C.sigs
  |_=>false
 |_=>false
def Xb(d:Nat)(l:List Oper):Bool:=match Ei d l with
 |some (g,_,_)=>g.any fun o=>z6x C o.op
 |none=>false
def mi{γ δ:Type}(rg:Nat)(all:List Oper)(g0:Option (Nat->Obj)):Nat->(γ->δ)->Nat->List Oper->St->((γ->δ)->St->Option δ)->Option δ
 |0,_,_,_,_,_=>none
 |_+1,w,_,[],st,k=>k w st
 |n+1,w,i,o::r,st,k=>
  let run:=match dE L C R st.env st.obj (jW rg i) o.type o.op with
   |.fail=>none
   |.lE v u=>bif vW g0 u then ng v fun v=>q7 (jW rg i) st.obj u fun o'=>mi rg all g0 n w (i+1) r (bC {st with obj:=o'} o.dst v) k else none
   |.dyn _ x out=>L.b x fun y=>bif vW g0 (out y).2 then ng (out y).1 fun v=>q7 (jW rg i) st.obj (out y).2 fun o'=>mi rg all g0 n w (i+1) r (bC {st with obj:=o'} o.dst v) k else none
  match o.guard with
  |none=>run
  |some (j,want)=>match all[j]? with
   |some oj=>match oj.dst with
    |some dj=>match st.env dj with
     |.lb b=>bif (bif want then b else !b) then run else mi rg all g0 n w (i+1) r (bC st o.dst .undef) k
     |.undef=>mi rg all g0 n w (i+1) r (bC st o.dst .undef) k
     |.d .bool x=>match g0 with
      |some g=>L.c x (mi rg all (some g) n w i (o::r) (bC st (some dj) (.lb true)) k) (mi rg all (some g) n w i (o::r) (bC st (some dj) (.lb false)) k)
      |none=>bif Xb C dj (o::r) then L.c x (mi rg all none n w i (o::r) (bC st (some dj) (.lb true)) k) (mi rg all none n w i (o::r) (bC st (some dj) (.lb false)) k) else match Ei dj (o::r) with
       |some (g,p,r')=>match p.dst with
        |some pd=>
         let br (b:Bool):Option Bool:=mi (γ:=Bool) (δ:=Bool) rg all (some st.obj) n (fun x=>x) i (g++[p]) (bC st (some dj) (.lb b)) (fun w' bT=>Xa _ w' (eg (bT.env pd)))
         L.b (L.c x (br true) (br false)) fun y=>mi rg all none n w (i+g.length+1) r' (bC (vV st g) (some pd) (.d .bool y)) k
        |none=>none
       |none=>none
     |_=>none
    |none=>none
   |none=>none
mutual
def fe:V->List Nat
 |.bM id _=>[id]
 |.pre id _ _ _=>[id]
 |.ptr id _=>[id]
 |.j7 id _ _ _=>[id]
 |.mp id=>[id]
 |.it id=>[id]
 |.dA id _=>[id]
 |.jG id _ _=>[id]
 |.fn _ l=>ij l
 |.jx l=>ij l
 |.agg l=>ij l
 |_=>[]
def ij:List V->List Nat
 |[]=>[]
 |v::l=>fe v++ij l
end
def vX:Obj->List Nat
 |.box cs=>ij cs
 |_=>[]
def Mw(o:Nat->Obj):Nat->List Nat->List Nat
 |0,l=>l
 |n+1,l=>l++Mw o n (l.flatMap fun id=>vX (o id))
structure Tr where
 i:Nat
 op:Oper
 rd:List Nat
 wr:List Nat
def bW:List (Nat×Obj)->List Nat
 |[]=>[]
 |p::r=>p.1::bW r
def AZ(a b:List Nat):Bool:=a.all fun x=>!bJ x b
def gM:List Oper->List Nat->List Nat
 |[],acc=>acc
 |o::r,acc=>gM r (acc++[o.after.toList.foldl (fun s e=>bif Region.binds .any e then s|||bit e.on|||acc.getD e.on 0 else s) 0])
def jX:List Operand->List Nat
 |[]=>[]
 |.tmp t::r=>t::jX r
 |_::r=>jX r
def Hp(all:List Oper)(o:Oper):List Nat:=jX o.op.operands.toList++(match o.guard with
 |some (g,_)=>(match all[g]? with
  |some og=>(match og.dst with|some d=>[d]|none=>[])
  |none=>[])
 |none=>[])
def PK(d:Option Nat)(l:List Nat):Bool:=match d with
 |some d=>AX d l
 |none=>true
def PL(d:Option Nat):List Nat:=match d with
 |some d=>[d]
 |none=>[]
def Mx(all:List Oper)(a b:Tr):Bool:=PK a.op.dst (Hp all b.op++PL b.op.dst)&&PK b.op.dst (Hp all a.op)&&AZ a.wr (b.rd++b.wr)&&AZ b.wr a.rd
def A0(tN:List Nat)(all:List Oper)(a b:Tr):Bool:=Nat.testBit (tN.getD b.i 0) a.i||Mx all a b
def My(tN:List Nat)(all:List Oper)(b:Tr):List Tr->Bool
 |[]=>true
 |a::r=>A0 tN all a b&&My tN all b r
def py(tN:List Nat)(all:List Oper):List Tr->Bool
 |[]=>true
 |b::r=>My tN all b r&&py tN all r
def A1:Op->Bool
 |.move _=>true
 |.assign _=>true
 |.nilCheck _=>true
 |.fieldAddr _ _ _=>true
 |_=>false
def oU(st:St)(o:Oper):List Nat:=match o.op with
 |.move _=>[]
 |.assign _=>[]
 |.nilCheck x=>fe (cv C st.env x)
 |.fieldAddr _ x _=>fe (cv C st.env x)
 |_=>Mw st.obj 4 (ij (o.op.operands.toList.map (cv C st.env)))
def z20(l m:List Nat):Bool:=match l with
 |[]=>true
 |x::r=>bJ x m&&z20 r m
def vY(o:Nat->Obj)(F:List Nat):List Nat->Bool
 |[]=>true
 |id::r=>z20 (vX (o id)) F&&vY o F r
def q8(t:Nat):List (Nat×Bool)->Option Bool
 |[]=>none
 |(a,b)::r=>bif Nat.beq a t then some b else q8 t r
def I1(d:Option Nat)(kn:List (Nat×Bool)):Bool:=match d with
 |some d=>(match q8 d kn with|some _=>false|none=>true)
 |none=>true
def gy(env:Nat->V)(kn:List (Nat×Bool))(ts:List Nat):Nat->V:=fun t=>bif bJ t ts then(match q8 t kn with|some b=>.lb b|none=>env t) else .dQ
def ek(o:Nat->Obj)(F:List Nat):Nat->Obj:=fun id=>bif bJ id F then o id else .none
def Hq(i:Nat):List Edge->Bool
 |[]=>true
 |e::r=>(!(Region.binds .any e)||Nat.blt e.on i)&&Hq i r
def Ej(F:List Nat)(fr:Nat):List Nat->Bool
 |[]=>true
 |id::r=>(bJ id F||(Nat.ble fr id&&Nat.blt id (fr+16)))&&Ej F fr r
def vh(rg:Nat):List Tr->Bool
 |[]=>true
 |t::r=>Hq t.i t.op.after.toList&&Ej t.rd (jW rg t.i) t.wr&&vh rg r
def Ek(o:Oper)(kn:List (Nat×Bool)):List (Nat×Bool):=match o.dst with
 |none=>kn
 |some d=>match o.op with
  |.move (.tmp t)=>(match q8 t kn with
   |some y=>(d,y)::kn
   |none=>kn)
  |.pick (.tmp c) x y=>(match q8 c kn with
   |some q=>(match(bif q then x else y) with
    |.const (.bool z)=>(d,z)::kn
    |_=>kn)
   |none=>kn)
  |_=>kn
def q9{γ δ:Type}(rg:Nat)(all:List Oper):Nat->(γ->δ)->Nat->List Oper->St->List (Nat×Bool)->List Tr->((γ->δ)->St->Option δ)->Option δ
 |0,_,_,_,_,_,_,_=>none
 |_+1,w,_,[],st,_,tr,k=>bif py (gM all []) all tr&&vh rg tr then k w st else none
 |n+1,w,i,o::r,st,kn,tr,k=>
  let F:=oU C st o
  bif I1 o.dst kn then
  let run:=bif A1 o.op||vY st.obj F F then(match dE L C R (gy st.env kn (jX o.op.operands.toList)) (ek st.obj F) (jW rg i) o.type o.op with
   |.fail=>none
   |.lE v u=>ng v fun v=>q7 (jW rg i) st.obj u fun o'=>q9 rg all n w (i+1) r (bC {st with obj:=o'} o.dst v) (Ek o kn) (⟨i,o,F,bW u⟩::tr) k
   |.dyn _ x out=>L.b x fun y=>ng (out y).1 fun v=>q7 (jW rg i) st.obj (out y).2 fun o'=>q9 rg all n w (i+1) r (bC {st with obj:=o'} o.dst v) (Ek o kn) (⟨i,o,F,bW (out y).2⟩::tr) k) else none
  match o.guard with
  |none=>run
  |some (j,want)=>match all[j]? with
   |some oj=>match oj.dst with
    |some dj=>match q8 dj kn with
     |some b=>bif (bif want then b else !b) then run else q9 rg all n w (i+1) r (bC st o.dst .undef) kn (⟨i,o,[],[]⟩::tr) k
     |none=>match st.env dj with
      |.undef=>q9 rg all n w (i+1) r (bC st o.dst .undef) kn (⟨i,o,[],[]⟩::tr) k
      |.d .bool x=>L.c x (q9 rg all n w i (o::r) st ((dj,true)::kn) tr k) (q9 rg all n w i (o::r) st ((dj,false)::kn) tr k)
      |_=>none
    |none=>none
   |none=>none
  else none
end
section
variable (L:Lf) (C:Cx) (R:iX C.sigs)
def ke{δ:Type}(sk:List Nat)(s:Shape)(w:ai s.aN->δ)(aL:List (Nat×Nat))(o:Nat->Obj)(vs:List V):Option δ:=
 match Eg L sk aL o s vs with
 |some p=>some (w p.2)
 |none=>none
def nR:AC->List Oper
 |.region _ ops _=>ops.toList
 |.seq a b=>nR a++nR b
 |.cond _ _ a b=>nR a++nR b
 |.block _ _ b=>nR b
 |.loop _ b=>nR b
 |.scope b=>nR b
 |.jump _ _ p r=>nR p++nR r
 |_=>[]
def zc9(t:Nat):Option Nat->Bool
 |some d=>Nat.beq d t
 |none=>false
def Xc(l:List Nat):Operand->Bool
 |.tmp t=>bJ t l
 |_=>false
def Mz(t:Nat):List Oper->List Nat
 |[]=>[t]
 |o::r=>match o.op,o.dst with
  |.move x,some d=>bif Xc [t] x then d::Mz t r else Mz t r
  |_,_=>Mz t r
def PM:Nat->List Sh->Bool
 |0,.d _::_=>true
 |n+1,_::r=>PM n r
 |_,_=>false
def Xd(f i:Nat):List lr->Bool
 |[]=>false
 |s::r=>(Nat.beq s.f f&&lu s.outs&&PM i s.ins.roots)||Xd f i r
def Xe(al:List Nat)(f:Nat):Nat->List Operand->Bool
 |_,[]=>false
 |i,x::r=>(Xc al x&&Xd f i C.sigs)||Xe al f (i+1) r
def z6z(al:List Nat)(o:Oper):Bool:=match o.op with
 |.call c=>match c.callee with
  |.value (.func f)=>Xe C al f 0 c.args.toList
  |_=>false
 |_=>false
def zca(ops:List Oper)(t:Nat):Bool:=!(ops.any fun o=>zc9 t o.dst)&&ops.any (z6z C (Mz t ops))
def PN(f i:Nat):List lr->Bool
 |[]=>false
 |s::r=>(Nat.beq s.f f&&PM i s.outs.roots)||PN f i r
def z21(t:Nat):List (Nat×Nat)->Option Nat
 |[]=>none
 |(a,f)::r=>bif Nat.beq a t then some f else z21 t r
def PO:Option Ty->Bool
 |some (.sl _)=>true
 |_=>false
def Ah:List Oper->List (Nat×Nat)->List Nat->List Nat
 |[],_,dt=>dt
 |o::r,tt,dt=>match o.dst with
  |none=>Ah r tt dt
  |some d=>match o.op with
   |.call c=>match c.callee with
    |.value (.func f)=>Ah r ((d,f)::tt) (bif PN f 0 C.sigs then d::dt else dt)
    |_=>Ah r tt dt
   |.move (.tmp x)=>Ah r (match z21 x tt with|some f=>(d,f)::tt|none=>tt) (bif bJ x dt then d::dt else dt)
   |.assign (.tmp x)=>Ah r tt (bif bJ x dt then d::dt else dt)
   |.indexAddr .. =>Ah r ((d,1000000000)::tt) dt
   |.load t (.tmp x)=>Ah r tt (match z21 x tt with|some f=>bif Nat.beq f 1000000000&&PO (C.ty t) then d::dt else dt|none=>dt)
   |.extract (.tmp x) i=>Ah r tt (match z21 x tt with|some f=>bif PN f i C.sigs then d::dt else dt|none=>dt)
   |_=>Ah r tt dt
def MA(sk:List Nat)(ops:List Oper)(dt:List Nat)(env:Nat->V):List Nat->List Nat
 |[]=>[]
 |t::r=>match env t with
  |.bM id _=>bif (bJ t dt||zca C ops t)&&AX id sk then id::MA sk ops dt env r else MA sk ops dt env r
  |_=>MA sk ops dt env r
def Hr(sk:List Nat)(st:St)(ts:List Nat)(ops:List Oper):Shape:=z6n sk (ak st.obj (eu st.obj (MA C sk ops (Ah C ops [] []) st.env ts))) (ts.map fun t=>eg (st.env t))
def Hs{β:Type}(sk:List Nat)(st:St)(ts:List Nat)(ops:List Oper)(k:Shape->β):β:=
 let s:=Hr C sk st ts ops
 Dd s.roots fun r=>Mv s.ay fun o=>k ⟨r,o⟩
def ev(sk:List Nat):(c:AC)->St->(γ δ:Type)->(γ->δ)->((δ:Type)->(γ->δ)->Ex->St->Option δ)->Option δ
 |.skip,st,_,δ,w,k=>k δ w .normal st
 |.region rg ops true,st,_,δ,w,k=>q9 L C R rg ops.toList (2*ops.toList.length+1) w 0 ops.toList st [] [] (fun w st=>k δ w .normal st)
 |.region rg ops false,st,_,δ,w,k=>mi L C R rg ops.toList none (2*ops.toList.length+2) w 0 ops.toList st (fun w st=>k δ w .normal st)
 |.seq a b,st,γ,δ,w,k=>ev sk a st γ δ w fun δ w e bT=>match e with
  |.normal=>ev sk b bT γ δ w k
  |e=>k δ w e bT
 |.cond c ts a b,st,γ,δ,w,k=>match cv C st.env c with
  |.d .bool x=>bif sX a&&sX b then
    Hs C sk st ts (nR a++nR b) fun s=>
    bif tM a||tM b then
     let k':(dI:Type)->(ai s.aN⊕δ->dI)->Ex->St->Option dI:=fun dI w' e bT=>match e with
      |.normal=>ke L sk s (fun c=>w' (.inl c)) (qV 0 sk) bT.obj (ts.map fun t=>eg (bT.env t))
      |e=>k dI (fun g=>w' (.inr (w g))) e bT
     L.b (L.c x (ev sk a st (ai s.aN⊕δ) (ai s.aN⊕δ) (fun x=>x) k') (ev sk b st (ai s.aN⊕δ) (ai s.aN⊕δ) (fun x=>x) k'))
      (L.bR fun c=>sY sk ts s c fun st=>k δ w .normal st)
    else
     let k':(dI:Type)->(ai s.aN->dI)->Ex->St->Option dI:=fun _ w' e bT=>match e with
      |.normal=>ke L sk s w' (qV 0 sk) bT.obj (ts.map fun t=>eg (bT.env t))
      |_=>none
     L.b (L.c x (ev sk a st (ai s.aN) (ai s.aN) (fun x=>x) k') (ev sk b st (ai s.aN) (ai s.aN) (fun x=>x) k'))
      (fun c=>sY sk ts s c fun st=>k δ w .normal st)
   else L.c x (ev sk a st γ δ w k) (ev sk b st γ δ w k)
  |_=>none
 |.block id ts b,st,γ,δ,w,k=>bif Nat.ble 2 (ways id b+(bif sX b then 1 else 0)) then
    Hs C sk st ts (nR b) fun s=>
    let k':(dI:Type)->(ai s.aN⊕δ->dI)->Ex->St->Option dI:=fun dI w' e bT=>match e with
     |.normal=>ke L sk s (fun c=>w' (.inl c)) (qV 0 sk) bT.obj (ts.map fun t=>eg (bT.env t))
     |.exit j=>bif Nat.beq j id then ke L sk s (fun c=>w' (.inl c)) (qV 0 sk) bT.obj (ts.map fun t=>eg (bT.env t)) else k dI (fun g=>w' (.inr (w g))) (.exit j) bT
     |e=>k dI (fun g=>w' (.inr (w g))) e bT
    L.b (ev sk b st (ai s.aN⊕δ) (ai s.aN⊕δ) (fun x=>x) k') (L.bR fun c=>sY sk ts s c fun st=>k δ w .normal st)
   else ev sk b st γ δ w fun δ w e bT=>match e with
    |.exit j=>bif Nat.beq j id then k δ w .normal bT else k δ w (.exit j) bT
    |e=>k δ w e bT
 |.loop ts b,st,_,δ,w,k=>
   Hs C sk st ts (nR b) fun s=>
   match Eg L sk (qV 0 sk) st.obj s (ts.map fun t=>eg (st.env t)) with
   |some p=>L.o (fun c=>sY sk ts s c fun st=>ev sk b st (ai s.aN⊕δ) (ai s.aN⊕δ) (fun x=>x) fun dI w' e bT=>match e with
     |.normal=>ke L sk s (fun c=>w' (.inl c)) (qV 0 sk) bT.obj (ts.map fun t=>eg (bT.env t))
     |e=>k dI (fun g=>w' (.inr (w g))) e bT) p.2
   |none=>none
 |.jump l ts p r,st,γ,δ,w,k=>ev sk p st γ δ w fun δ w e st=>match e with
  |.normal=>
   Hs C sk st ts (nR r) fun s=>
   match Eg L sk (qV 0 sk) st.obj s (ts.map fun t=>eg (st.env t)) with
   |some p=>L.o (fun c=>sY sk ts s c fun st=>ev sk r st (ai s.aN⊕δ) (ai s.aN⊕δ) (fun x=>x) fun dI w' e bT=>match e with
     |.goto l'=>bif Nat.beq l' l then ke L sk s (fun c=>w' (.inl c)) (qV 0 sk) bT.obj (ts.map fun t=>eg (bT.env t)) else none
     |e=>k dI (fun g=>w' (.inr (w g))) e bT) p.2
   |none=>none
  |.goto _=>none
  |e=>k δ w e st
 |.exit id,st,_,δ,w,k=>k δ w (.exit id) st
 |.goto l,st,_,δ,w,k=>k δ w (.goto l) st
 |.ret,st,_,δ,w,k=>k δ w .ret st
 |.scope b,st,γ,δ,w,k=>ev sk b st γ δ w fun δ w e st=>match e with
  |.goto _=>none
  |e=>k δ w e st
 |.bad,_,_,_,_,_=>none
def A2(env:Nat->V):Nat->List V->Nat->V
 |_,[]=>env
 |i,v::r=>A2 (cu env i v) (i+1) r
def A3:List ResultVar->Nat
 |[]=>0
 |.tmp t::r=>bit t|||A3 r
 |.cell t _::r=>bit t|||A3 r
def tO(st:St):List ResultVar->Option (List V)
 |[]=>some []
 |.tmp t::r=>match tO st r with
  |some l=>some (eg (st.env t)::l)
  |none=>none
 |.cell t ty::r=>match Me L C st.obj ty (st.env t) with
  |.lE v _=>match tO st r with
   |some l=>some (v::l)
   |none=>none
  |_=>none
def Ht{δ:Type}(sk:List Nat)(s:Shape)(w:ai s.aN->δ)(st:St)(rs:List ResultVar):Option δ:=
 match tO L C st rs with
 |some vs=>ke L sk s w (O2 sk) st.obj vs
 |none=>none
def Hu(i:Nat)(x:ai (aM C.sigs i).ins.aN):Option (ai (aM C.sigs i).outs.aN):=
 let sg:=aM C.sigs i
 match C.P.funcs.toList[sg.f]? with
 |none=>none
 |some fn=>match fn.body with
  |none=>none
  |some b=>
   let p:=fill id (fun _=>0) sg.ins x;let k:=sg.ins.ay.length
   bif Hi k (aM C.sigs i).bH&&Nat.ble p.1.length fn.ntmps then ly (A3 fn.results.toList) fn.ntmps 1000 b [] [] (A3 fn.results.toList) fun _ ac=>ev L C R (aM C.sigs i).bH ac ⟨A2 (fun _=>.undef) 0 p.1,ak (fun _=>Obj.none) p.2⟩
    (ai (aM C.sigs i).outs.aN) (ai (aM C.sigs i).outs.aN) (fun x=>x) fun _ w e st=>match e with
    |.normal=>Ht L C (aM C.sigs i).bH (aM C.sigs i).outs w st fn.results.toList
    |.ret=>Ht L C (aM C.sigs i).bH (aM C.sigs i).outs w st fn.results.toList
    |_=>none else none
end
def ch:Nat:=9223372036854775807
def gH(k:IntKind)(n:Int):Prop:=k.min<=n/\n<=k.max
def kg(w:World)(a:Addr)(cs:List Value):Prop:=∀j (h:j<cs.length),w.cell? ⟨a.block,a.off+j,none⟩=some cs[j]
def bc{α:Type}(f:α->List Value->Prop):List α->List Value->Prop
 |[],cs=>cs=[]
 |x::l,cs=>∃c d,cs=c++d/\f x c/\bc f l d
def re{α:Type}(imm:Nat->Prop)(w:World)(R:α->List Value->Prop):Nat->Sl (gu α)->List Value->Prop
 |0,_,_=>False
 |n+1,s,cs=>∃v,cs=[v]/\s.l.length<=ch/\((s.nil=true/\s.l=[]/\v=.slice none 0 0)\/
   (s.nil=false/\∃a cap ec,v=.slice (some a) s.l.length cap/\(cap≠0->a.spot=none)/\(s.l≠[]->imm a.block)/\bc (fun r ec=>∃c d,ec=c++d/\R r.x c/\re imm w R n r.s d) s.l ec/\kg w a ec/\s.l.length<=cap))
def aA(imm:Nat->Prop)(w:World):(t:Ty)->den t->List Value->Prop
 |.unit,_,cs=>cs=[]
 |.pair a b,x,cs=>∃c d,cs=c++d/\aA imm w a x.1 c/\aA imm w b x.2 d
 |.st p,x,cs=>aA imm w p x cs
 |.arr n e,l,cs=>List.length l=n/\bc (aA imm w e) l cs
 |.int k,n,cs=>cs=[.int k n]/\gH k n
 |.bool,b,cs=>cs=[.bool b]
 |.fc,b,cs=>cs=[.float .f64 b]
 |.dC,b,cs=>cs=[.complex .f64 b.1 b.2]
 |.str,l,cs=>∃s:ByteArray,cs=[.string s]/\s.data.toList.map (fun b=>(b.toNat:Int))=l/\s.size<=ch
 |.sl e,s,cs=>∃v,cs=[v]/\s.l.length<=ch/\((s.nil=true/\s.l=[]/\v=.slice none 0 0)\/
   (s.nil=false/\∃a cap ec,v=.slice (some a) s.l.length cap/\(cap≠0->a.spot=none)/\(s.l≠[]->imm a.block)/\bc (aA imm w e) s.l ec/\kg w a ec/\s.l.length<=cap))
 |.ks p,s,cs=>∃n,re imm w (aA imm w p) n s cs
def aT(imm:Nat->Prop)(w:World)(t:Ty)(x:den t)(v:Value):Prop:=
 match t,x with
 |.st p,x=>∃cs:Array Value,v=.agg cs/\aA imm w p x cs.toList
 |.arr n e,x=>∃cs:Array Value,v=.agg cs/\aA imm w (.arr n e) x cs.toList
 |.unit,_=>False
 |.pair _ _,_=>False
 |t,x=>aA imm w t x [v]
theorem nh{α:Type}{f g:α->List Value->Prop}:∀{l:List α} {cs:List Value},(∀x c,f x c->g x c)->bc f l cs->bc g l cs
 |[],_,_,h=>h
 |_::_,_,hf,⟨c,d,e,h1,h2⟩=>⟨c,d,e,hf _ _ h1,nh hf h2⟩
theorem Xf{w w':World}{a:Addr}(h:w'.heap[a.block]?=w.heap[a.block]?):w'.cell? a=w.cell? a:=by unfold World.cell?;rw[h]
theorem Hv{w w':World}{a:Addr}{cs:List Value}(h:w'.heap[a.block]?=w.heap[a.block]?)(hc:kg w a cs):kg w' a cs:=by intro j hj;rw[<-hc j hj];exact Xf h
theorem Xg{α:Type}{f:α->List Value->Prop}{l:List α}{w w':World}{a:Addr}{cs:List Value}(hr:bc f l cs)(h:l≠[]->w'.heap[a.block]?=w.heap[a.block]?)(hc:kg w a cs):kg w' a cs:=by
 cases l with
 |nil=>intro j hj;rw[show cs=[] from hr] at hj;cases hj
 |cons x l=>exact Hv (h (List.cons_ne_nil x l)) hc
theorem PQ{α:Type}{imm imm':Nat->Prop}{w w':World}{R R':α->List Value->Prop}(hi:∀b,imm b->imm' b)(hw:∀b,imm b->w'.heap[b]?=w.heap[b]?)(hR:∀x c,R x c->R' x c):∀(n m:Nat),n<=m->∀(s:Sl (gu α)) (cs:List Value),re imm w R n s cs->re imm' w' R' m s cs
 |0,_,_,_,_,h=>h.elim
 |n+1,0,hg,_,_,_=>absurd hg om
 |n+1,m+1,hg,s,cs,⟨v,e1,hl,h⟩=>⟨v,e1,hl,h.imp id fun⟨hn,a,cap,ec,e2,hs,hb,hr,hc,he⟩=>⟨hn,a,cap,ec,e2,hs,fun hf=>hi _ (hb hf),nh (fun x c ⟨c1,d1,e3,h1,h2⟩=>⟨c1,d1,e3,hR _ _ h1,PQ hi hw hR n m om _ _ h2⟩) hr,Xg hr (fun hf=>hw _ (hb hf)) hc,he⟩⟩
theorem gX{imm imm':Nat->Prop}{w w':World}(hi:∀b,imm b->imm' b)(hw:∀b,imm b->w'.heap[b]?=w.heap[b]?):∀(t:Ty) (x:den t) (cs:List Value),aA imm w t x cs->aA imm' w' t x cs
 |.unit,_,_,h=>h
 |.pair a b,x,_,⟨c,d,e,h1,h2⟩=>⟨c,d,e,gX hi hw a x.1 c h1,gX hi hw b x.2 d h2⟩
 |.st p,x,cs,h=>gX hi hw p x cs h
 |.arr _ e,_,_,⟨h1,h2⟩=>⟨h1,nh (gX hi hw e) h2⟩
 |.ks p,_,_,⟨n,h⟩=>⟨n,PQ hi hw (gX hi hw p) n n (Nat.le_refl _) _ _ h⟩
 |.int _,_,_,h=>h
 |.bool,_,_,h=>h
 |.fc,_,_,h=>h
 |.dC,_,_,h=>h
 |.str,_,_,h=>h
 |.sl e,_,_,⟨v,e1,hl,h⟩=>⟨v,e1,hl,h.imp id fun⟨hn,a,cap,ec,e2,hs,hb,hr,hc,he⟩=>⟨hn,a,cap,ec,e2,hs,fun hf=>hi _ (hb hf),nh (gX hi hw e) hr,Xg hr (fun hf=>hw _ (hb hf)) hc,he⟩⟩
theorem gY{imm:Nat->Prop}{w:World}:∀(t:Ty) (x:den t) (cs:List Value),aA imm w t x cs->cs.length=aJ t
 |.unit,_,_,h=>by simp[aA] at h;simp[h,aJ]
 |.pair a b,x,_,⟨c,d,e,h1,h2⟩=>by subst e;simp[aJ,gY a x.1 c h1,gY b x.2 d h2]
 |.st p,x,cs,h=>by simpa[aJ] using gY p x cs h
 |.arr n e,l,cs,⟨h1,h2⟩=>by
   have key:∀(l:List (den e)) (cs:List Value),bc (aA imm w e) l cs->cs.length=l.length*aJ e:=by
    intro l
    induction l with
    |nil=>intro cs h;simp[bc] at h;simp[h]
    |cons y l ih=>intro cs ⟨c,d,e1,h3,h4⟩;subst e1;simp[gY e y c h3,ih d h4,Nat.succ_mul,Nat.add_comm]
   rw[key l cs h2,h1];simp[aJ]
 |.int _,_,_,h=>by simp[aA] at h;simp[h.1,aJ]
 |.bool,_,_,h=>by simp[aA] at h;simp[h,aJ]
 |.fc,_,_,h=>by simp[aA] at h;simp[h,aJ]
 |.dC,_,_,h=>by simp[aA] at h;simp[h,aJ]
 |.str,_,_,⟨s,h,_⟩=>by simp[h,aJ]
 |.sl e,_,_,⟨v,h,_⟩=>by simp[h,aJ]
 |.ks p,_,_,⟨0,h⟩=>h.elim
 |.ks p,_,_,⟨n+1,v,h,_⟩=>by simp[h,aJ]
theorem nS{imm:Nat->Prop}{w:World}{e:Ty}:∀{l:List (den e)} {cs:List Value},bc (aA imm w e) l cs->cs.length=l.length*aJ e
 |[],cs,h=>by simp[bc] at h;simp[h]
 |y::l,cs,⟨c,d,e1,h3,h4⟩=>by subst e1;simp[gY e y c h3,nS h4,Nat.succ_mul,Nat.add_comm]
theorem Hw{α:Type}{f:α->List Value->Prop}:∀{l m:List α} {cs ds:List Value},bc f l cs->bc f m ds->bc f (l++m) (cs++ds)
 |[],_,_,_,h,h'=>by simp[bc] at h;simpa[h] using h'
 |_::_,_,_,_,⟨c,d,e,h1,h2⟩,h'=>⟨c,d++_,by rw[e,zo],h1,Hw h2 h'⟩
theorem tP{imm:Nat->Prop}{w:World}{e:Ty}:∀{l:List (den e)} {cs:List Value} (n:Nat),n<=l.length->bc (aA imm w e) l cs->bc (aA imm w e) (l.take n) (cs.take (n*aJ e))/\bc (aA imm w e) (l.drop n) (cs.drop (n*aJ e))
 |l,cs,0,_,h=>by simpa[bc] using h
 |[],_,n+1,hn,_=>by simp at hn
 |y::l,cs,n+1,hn,⟨c,d,e1,h3,h4⟩=>by
  subst e1;have hc:=gY e y c h3;obtain⟨h5,h6⟩:=tP n (by simpa using hn) h4;have e2:(n+1)*aJ e=c.length+n*aJ e:=by rw[hc,Nat.succ_mul,Nat.add_comm]
  rw[e2,List.take_length_add_append,List.drop_length_add_append];exact⟨⟨c,_,rfl,h3,h5⟩,by simpa using h6⟩
theorem I2{imm:Nat->Prop}{w:World}{e:Ty}{l:List (den e)}{cs:List Value}(h:bc (aA imm w e) l cs)(i:Nat)(hi:i<l.length):aA imm w e l[i] ((cs.drop (i*aJ e)).take (aJ e)):=by
 obtain⟨_,h2⟩:=tP i (Nat.le_of_lt hi) h;rw[List.drop_eq_getElem_cons hi] at h2;obtain⟨c,d,e1,h3,_⟩:=h2;rw[e1,<-gY e _ c h3,List.take_left']
 ·exact h3
 ·rfl
theorem Xh:∀(p k:Ty) (z:den (D7 p k)),C5 p k (L0 p k z) (IF p k z)=z
 |.pair _ b,k,z=>by show(z.1,C5 b k (L0 b k z.2) (IF b k z.2))=z;rw[Xh b k z.2];rfl
 |.int _,_,_=>rfl
 |.bool,_,_=>rfl
 |.fc,_,_=>rfl
 |.dC,_,_=>rfl
 |.str,_,_=>rfl
 |.sl _,_,_=>rfl
 |.unit,_,_=>rfl
 |.st _,_,_=>rfl
 |.arr _ _,_,_=>rfl
 |.ks _,_,_=>rfl
theorem MB{imm:Nat->Prop}{w:World}:∀(p k:Ty) (x:den p) (y:den k) (cs:List Value),aA imm w (D7 p k) (C5 p k x y) cs↔∃c d,cs=c++d/\aA imm w p x c/\aA imm w k y d
 |.pair a b,k,x,y,cs=>by
  constructor
  ·rintro⟨c,d,e,h1,h2⟩;obtain⟨c2,d2,e2,h3,h4⟩:=(MB b k x.2 y d).1 h2;exact⟨c++c2,d2,by rw[e,e2,zo],⟨c,c2,rfl,h1,h3⟩,h4⟩
  ·rintro⟨c,d,e,⟨c1,c2,e2,h1,h2⟩,h3⟩;exact⟨c1,c2++d,by rw[e,e2,zo],h1,(MB b k x.2 y _).2 ⟨c2,d,rfl,h2,h3⟩⟩
 |.int _,_,_,_,_=>Iff.rfl
 |.bool,_,_,_,_=>Iff.rfl
 |.fc,_,_,_,_=>Iff.rfl
 |.dC,_,_,_,_=>Iff.rfl
 |.str,_,_,_,_=>Iff.rfl
 |.sl _,_,_,_,_=>Iff.rfl
 |.unit,_,_,_,_=>Iff.rfl
 |.st _,_,_,_,_=>Iff.rfl
 |.arr _ _,_,_,_,_=>Iff.rfl
 |.ks _,_,_,_,_=>Iff.rfl
theorem Xi{α β:Type}{f:α->List Value->Prop}{g:β->List Value->Prop}{h:α->β}:∀{l:List α} {cs:List Value},(∀x,x∈l->∀c,f x c->g (h x) c)->bc f l cs->bc g (l.map h) cs
 |[],_,_,hr=>hr
 |x::_l,_,hf,⟨c,d,e,h1,h2⟩=>⟨c,d,e,hf x (zf ..) c h1,Xi (fun y hy=>hf y (zh _ hy)) h2⟩
theorem Xj{α:Type}{f:Nat->α->List Value->Prop}(hf:∀n m x c,n<=m->f n x c->f m x c):∀{l:List α} {cs:List Value},bc (fun x c=>∃n,f n x c) l cs->∃n,bc (f n) l cs
 |[],_,h=>⟨0,h⟩
 |x::l,_,⟨c,d,e,⟨n,h1⟩,h2⟩=>by obtain⟨m,h3⟩:=Xj hf h2;exact⟨n+m,c,d,e,hf n _ x c om h1,nh (fun y c'=>hf m _ y c' om) h3⟩
theorem PU(p:Ty)(s:Sl (den (mg p))):AQ p (Hb p s)=s:=by obtain⟨nl,l⟩:=s;show(⟨nl,(l.map _).map _⟩:Sl (den (mg p)))=⟨nl,l⟩;rw[jb];congr 1;exact(ja fun z _=>Xh p (.ks p) z).trans (List.map_id l)
theorem Hx{imm:Nat->Prop}{w:World}(p:Ty)(s:Sl (gu (den p)))(cs:List Value):aA imm w (.ks p) s cs↔aA imm w (.sl (mg p)) (AQ p s) cs:=by
 obtain⟨nl,l⟩:=s;have hc:(l.map fun r:gu (den p)=>C5 p (.ks p) r.x r.s).length=l.length:=zO _;constructor
 ·rintro⟨n,h⟩;cases n with
  |zero=>exact h.elim
  |succ n=>
   obtain⟨v,e1,hl,h⟩:=h;refine⟨v,e1,by show(l.map _).length<=_;rw[hc];exact hl,?_⟩;rcases h with ⟨h1,h2,h3⟩|⟨h1,a,cap,ec,h2,h3,h4,h5,h6,h7⟩
   ·have h2:l=[]:=h2;subst h2;exact .inl ⟨h1,rfl,h3⟩
   ·refine .inr ⟨h1,a,cap,ec,by show v=.slice (some a) (l.map _).length cap;rw[hc];exact h2,h3,fun he=>h4 fun e=>he ?_,?_,h6,by show(l.map _).length<=_;rw[hc];exact h7⟩
    ·have e:l=[]:=e;subst e;rfl
    ·refine Xi (fun r _ c ⟨c1,d1,e3,g1,g2⟩=>?_) h5;exact(MB p (.ks p) r.x r.s c).2 ⟨c1,d1,e3,g1,n,g2⟩
 ·rintro⟨v,e1,hl,h⟩;have hl:l.length<=ch:=by rw[<-hc];exact hl
  rcases h with ⟨h1,h2,h3⟩|⟨h1,a,cap,ec,h2,h3,h4,h5,h6,h7⟩
  ·have h2:l=[]:=List.map_eq_nil_iff.1 h2;subst h2;exact⟨1,v,e1,hl,.inl ⟨h1,rfl,h3⟩⟩
  ·have h2:v=.slice (some a) (l.map fun r:gu (den p)=>C5 p (.ks p) r.x r.s).length cap:=h2;rw[hc] at h2;have h5:bc (fun(r:gu (den p)) c=>∃n,∃c1 d1,c=c1++d1/\aA imm w p r.x c1/\re imm w (aA imm w p) n r.s d1) l ec:=by
    have key:∀(l:List (gu (den p))) (ec:List Value),bc (aA imm w (mg p)) (l.map fun r=>C5 p (.ks p) r.x r.s) ec->bc (fun(r:gu (den p)) c=>∃n,∃c1 d1,c=c1++d1/\aA imm w p r.x c1/\re imm w (aA imm w p) n r.s d1) l ec:=by
     intro l
     induction l with
     |nil=>intro ec h;exact h
     |cons r l ih=>rintro ec ⟨c,d,e,g1,g2⟩;obtain⟨c1,d1,e3,g3,n,g4⟩:=(MB p (.ks p) r.x r.s c).1 g1;exact⟨c,d,e,⟨n,c1,d1,e3,g3,g4⟩,ih d g2⟩
    exact key l ec h5
   obtain⟨n,h5⟩:=Xj (f:=fun n (r:gu (den p)) c=>∃c1 d1,c=c1++d1/\aA imm w p r.x c1/\re imm w (aA imm w p) n r.s d1) (fun n m r c hf ⟨c1,d1,e3,g1,g2⟩=>⟨c1,d1,e3,g1,PQ (fun _ h=>h) (fun _ _=>rfl) (fun _ _ h=>h) n m hf _ _ g2⟩) h5;exact⟨n+1,v,e1,hl,.inr ⟨h1,a,cap,ec,h2,h3,fun he=>h4 fun e=>he (List.map_eq_nil_iff.1 e),h5,h6,by rw[<-hc];exact h7⟩⟩
def fZ:(p:Ty)->Nat->Nat
 |.pair _ _,0=>0
 |.pair a b,n+1=>aJ a+fZ b n
 |_,_=>0
def PV:(p:Ty)->Nat->Ty
 |.pair a _,0=>a
 |.pair _ b,n+1=>PV b n
 |.ks p,_=>.sl (mg p)
 |t,_=>t
def jy:List Nat->Ty->Nat
 |[],_=>0
 |f::r,.st p=>fZ p f+jy r (PV p f)
 |_::_,_=>0
def live:Obj->Bool
 |.box _=>true
 |.vec _ _ fr s=>!s.nil&&!fr
 |.map _ _ _=>true
 |.iter _ _=>true
 |.dead=>false
 |.none=>false
def Xk:Obj->Addr->Bool
 |.vec _ _ _ _,a=>a.spot.isSome
 |_,_=>false
def aP(a:Addr)(x:Obj):Bool:=live x&&!Xk x a
def bare(a:Addr):Addr:=⟨a.block,a.off,match a.spot with|none=>none|some 0=>none|some (k+1)=>some k⟩
def mark(a:Addr):Addr:=⟨a.block,a.off,match a.spot with|none=>some 0|some k=>some (k+1)⟩
theorem I3{a:Addr}(h:a.spot=none):bare a=a:=by cases a;cases h;rfl
theorem qwp(a:Addr):bare (mark a)=a:=by obtain⟨b,f,s⟩:=a;cases s<;>rfl
theorem qwq(a:Addr):(mark a).spot≠none:=by obtain⟨b,f,s⟩:=a;cases s<;>exact fun h=>by cases h
theorem PX{a:Addr}(h:a.spot=none):(bare a).spot=none:=by rw[I3 h];exact h
theorem z22{a:Addr}(h:a.spot=none):bare a=⟨a.block,a.off,none⟩:=by unfold bare;rw[h]
theorem El{a:Addr}{cap:Nat}(h:a.spot.isSome=true->cap=0):cap≠0->(bare a).spot=none:=fun hc=>PX (by
 cases e:a.spot with
 |none=>rfl
 |some k=>exact absurd (h (by rw[e];rfl)) hc)
theorem qM{a:Addr}{t:Ty}{ver:Nat}{s:Sl (den t)}(hn:s.nil=false)(ha:a.spot=none):aP a (.vec t ver false s)=true:=by simp[aP,live,Xk,hn,ha]
theorem lz{a:Addr}(h:aP a .none=true):False:=by simp[aP,live] at h
theorem A4{a:Addr}{t:Ty}{ver:Nat}{fr:Bool}{s:Sl (den t)}(h:aP a (.vec t ver fr s)=true):s.nil=false/\fr=false/\a.spot=none:=by have h:(!s.nil&&!fr&&!a.spot.isSome)=true:=h;cases hn:s.nil<;>cases fr<;>cases hs:a.spot<;>simp[hn,hs] at h ⊢
def mw(φ:Nat->Addr)(o:Nat->Obj)(b:Nat):Prop:=∃id,aP (φ id) (o id)=true/\(φ id).block=b
def ah(X:Nat->Prop)(φ:Nat->Addr)(o:Nat->Obj)(w:World)(b:Nat):Prop:=b<w.heap.size/\¬X b/\¬mw φ o b
def room(w:World)(a:Addr)(n:Nat):Prop:=∃c el lo hi,w.heap[a.block]?=some (.cells c el (lo,hi))/\a.off+n<=c.size/\(hi<=lo\/hi<=a.off\/a.off+n<=lo)
def Hy(w:World)(a:Addr)(nil fr:Bool)(sz n:Nat)(v:Value):Prop:=(nil=true/\v=.slice none 0 0)\/(nil=false/\∃cap,v=.slice (some (bare a)) n cap/\n<=cap/\(a.spot.isSome=true->cap=0)/\(fr=false->a.spot=none->room w a (cap*sz)))
def z9v(a:Addr)(nil:Bool)(sz:Nat)(lo:Int)(n:Nat)(v:Value):Prop:=∃k:Nat,lo=(k:Int)/\k<=n/\((nil=true/\v=.slice none 0 0)\/(nil=false/\∃cap,v=.slice (some (if cap=0 then bare a else⟨a.block,a.off+k*sz,none⟩)) (n-k) cap/\n-k<=cap))
def MC(imm:Nat->Prop)(w:World)(n:Int)(v:Value):Prop:=∃a cs,v=.pointer (some a)/\a.spot=none/\imm a.block/\aA imm w (.int .i64) n cs/\kg w a cs
def tQ(imm:Nat->Prop)(w:World):List (Nat×Bool)->Int->Int->Value->Prop
 |[],k,_,v=>k=0/\v=.nilFunc
 |(f,c)::r,k,n,v=>(k=0/\match c with
  |false=>v=.func (.func f) #[] #[]
  |true=>∃p,v=.func (.func f) #[] #[p]/\MC imm w n p)\/(k≠0/\tQ imm w r (k-1) n v)
theorem MD{imm:Nat->Prop}{w:World}{n:Int}:∀(a:List (Nat×Bool)) {k:Int} {v:Value},tQ imm w a k n v->(v=.nilFunc/\k=((a.length:Nat):Int))\/(∃f c,v=.func (.func f) #[] c/\k≠((a.length:Nat):Int))
 |[],k,v,h=>.inl ⟨h.2,h.1⟩
 |(f,c)::r,k,v,h=>by
  rcases h with ⟨h1,h2⟩|⟨h1,h2⟩
  ·refine .inr ?_;have hk:k≠(((f,c)::r).length:Int):=by rw[zj];omega
   cases c with
   |false=>exact⟨f,#[],h2,hk⟩
   |true=>obtain⟨p,h3,_⟩:=h2;exact⟨f,#[p],h3,hk⟩
  ·rcases MD r h2 with ⟨h3,h4⟩|⟨g,d,h3,h4⟩
   ·exact .inl ⟨h3,by rw[zj];omega⟩
   ·exact .inr ⟨g,d,h3,by rw[zj];omega⟩
theorem PY{α:Type}:∀(l:List α) (i:Nat),nN l i=i+l.length
 |[],_=>rfl
 |_::r,i=>by show nN r (i+1)=_;rw[PY r,zj];omega
theorem PZ{imm imm':Nat->Prop}{w w':World}{n:Int}(h:∀p,MC imm w n p->MC imm' w' n p):∀(a:List (Nat×Bool)) (k:Int) (v:Value),tQ imm w a k n v->tQ imm' w' a k n v
 |[],_,_,e=>e
 |(f,c)::r,k,v,e=>by
  rcases e with ⟨e1,e2⟩|⟨e1,e2⟩
  ·refine .inl ⟨e1,?_⟩;cases c with
   |false=>exact e2
   |true=>obtain⟨p,h1,h2⟩:=e2;exact⟨p,h1,h p h2⟩
  ·exact .inr ⟨e1,PZ h r (k-1) v e2⟩
def I4(f:Nat)(c:Array Value):Value:=.func (.func (f % 1048576)) (c.toList.take (f / 1048576)).toArray (c.toList.drop (f / 1048576)).toArray
theorem ME{f:Nat}(h:f<1048576)(c:Array Value):I4 f c=.func (.func f) #[] c:=by unfold I4;rw[Nat.mod_eq_of_lt h,Nat.div_eq_of_lt h,List.take_zero,List.drop_zero]
mutual
def aq(φ:Nat->Addr)(o:Nat->Obj)(imm:Nat->Prop)(w:World):V->Value->Prop
 |.d t x,v=>aT imm w t x v
 |.bM id ver,v=>match o id with
  |.vec t aC fr s=>ver<=aC/\(ver=aC->Hy w (φ id) s.nil fr (aJ t) s.l.length v)
  |.none=>False
  |_=>True
 |.pre id ver n cp,v=>match o id with
  |.vec t aC fr s=>ver<=aC/\(ver=aC->n<=s.l.length/\Hy w (φ id) s.nil fr (aJ t) n v/\(cp=true->∀a m c,v=.slice a m c->c=n))
  |.none=>False
  |_=>True
 |.ptr id off,v=>match o id with
  |.none=>False
  |.dead=>True
  |.vec _ ver _ _=>ver=0->v=.pointer (some ⟨(φ id).block,(φ id).off+off,none⟩)
  |_=>v=.pointer (some ⟨(φ id).block,(φ id).off+off,none⟩)
 |.j7 id ver i path,v=>match o id with
  |.vec t aC _ s=>ver<=aC/\(ver=aC->i<s.l.length/\v=.pointer (some ⟨(φ id).block,(φ id).off+i*aJ t+jy path t,none⟩))
  |.none=>False
  |_=>True
 |.ref t x,v=>∃a cs,v=.pointer (some a)/\a.spot=none/\imm a.block/\aA imm w t x cs/\kg w a cs
 |.rr t x,v=>∃a b cs,v=.pointer (some a)/\a.spot=none/\imm a.block/\kg w a [.pointer (some b)]/\b.spot=none/\imm b.block/\aA imm w t x cs/\kg w b cs
 |.gI,v=>v=.pointer none
 |.fn f l,v=>∃c:Array Value,v=I4 f c/\cd φ o imm w l c.toList
 |.gw,v=>v=.nilFunc
 |.jx l,v=>∃c:Array Value,v=.tuple c/\cd φ o imm w l c.toList
 |.agg l,v=>∃c:Array Value,v=.agg c/\cd φ o imm w l c.toList
 |.mp id,v=>match o id with
  |.none=>False
  |.map _ _ _=>v=.map (some (φ id).block)
  |_=>True
 |.jj,v=>v=.map none
 |.it id,v=>match o id with
  |.none=>False
  |.iter _ _=>v=.pointer (some ⟨(φ id).block,0,none⟩)
  |_=>True
 |.L1 b p c,v=>(b=true/\v=.tuple #[.bool true,.int .i64 p,.int .i32 c]/\gH .i64 p/\gH .i32 c)\/(b=false/\v=.tuple #[.bool false])
 |.ie,v=>v=.nilIface
 |.fa a k n,v=>tQ imm w a k n v
 |.fq,v=>v=.slice none 0 0
 |.lb b,v=>v=.bool b
 |.undef,v=>v=undef
 |.dQ,_=>True
 |.dA id b,v=>match o id with
  |.none=>False
  |.box _=>v=.pointer (bif b then some ⟨(φ id).block,(φ id).off,none⟩ else none)
  |_=>True
 |.jG id ver lo,v=>match o id with
  |.vec t aC _ s=>ver<=aC/\(ver=aC->z9v (φ id) s.nil (aJ t) lo s.l.length v)
  |.none=>False
  |_=>True
def cd(φ:Nat->Addr)(o:Nat->Obj)(imm:Nat->Prop)(w:World):List V->List Value->Prop
 |[],vs=>vs=[]
 |x::l,vs=>∃v r,vs=v::r/\aq φ o imm w x v/\cd φ o imm w l r
end
def vi{α β:Type}(f:α->Value->Prop)(g:β->Value->Prop):List (α×β)->List MapEntry->Prop
 |[],es=>es=[]
 |p::l,es=>∃e r,es=e::r/\f p.1 e.key/\g p.2 e.val/\vi f g l r
def oV(φ:Nat->Addr)(o:Nat->Obj)(imm:Nat->Prop)(w:World)(id:Nat):Obj->Prop
 |.box cs=>(φ id).off=0/\∃c el lo hi,w.heap[(φ id).block]?=some (.cells c el (lo,hi))/\hi<=lo/\cd φ o imm w cs c.toList
 |.vec t _ fr s=>s.l.length<=ch/\(s.nil=true->s.l=[])/\(s.nil=false->((φ id).spot=none/\∃ec,bc (aA imm w t) s.l ec/\kg w (φ id) ec/\
   room w (φ id) 0/\(fr=false->room w (φ id) (s.l.length*aJ t))/\(fr=true->imm (φ id).block))\/((φ id).spot≠none/\s.l=[]/\t≠.int .u8))
 |.map k v m=>∃es clock,w.heap[(φ id).block]?=some (.map es clock)/\vi (aT imm w k) (aT imm w v) m es.toList
 |.dead=>True
 |.none=>True
 |.iter l p=>∃(s:ByteArray) (n:Nat),w.heap[(φ id).block]?=some (.stringIter s n)/\s.data.toList.map (fun b=>(b.toNat:Int))=l/\p=(n:Int)/\s.size<=ch
def zcb(C:Cx)(el:TypeId)(n:Nat):Prop:=(el=C.gW/\n=2)\/(el=C.px/\n=4)
def ik(C:Cx)(w:World)(a:Addr):Obj->Prop
 |.vec t _ _ s=>t=.int .u8->s.nil=false->∃c el fz,w.heap[a.block]?=some (.cells c el fz)/\C.P.underlying el=some (.int .u8)/\(fz.1=fz.2\/c.size<=fz.1)
 |.box cs=>nP cs=true->∃c el fz,w.heap[a.block]?=some (.cells c el fz)/\zcb C el c.size
 |_=>True
structure MRel (C:Cx) (X:Nat->Prop) (φ:Nat->Addr) (o:Nat->Obj) (w:World):Prop where
 ay:∀id,oV φ o (ah X φ o w) w id (o id)
 inj:∀i j,aP (φ i) (o i)=true->aP (φ j) (o j)=true->(φ i).block=(φ j).block->i=j
 sep:∀i,aP (φ i) (o i)=true->(φ i).block<w.heap.size/\¬X (φ i).block
 xs:∀b,X b->b<w.heap.size
 oW:∀id,ik C w (φ id) (o id)
 fk:∀g t x,C.j9 g=some ⟨t,x⟩->aq φ o (ah X φ o w) w (.ref t x) (.pointer (some ⟨g,0,none⟩))
 Hz:∀g t x,C.j9 g=some ⟨t,x⟩->∃c el fz,w.heap[g]?=some (.cells c el fz)/\c.size=aJ t
theorem MRel.ni{C:Cx}{X:Nat->Prop}{φ:Nat->Addr}{o:Nat->Obj}{w w':World}(hm:MRel C X φ o w)(st:∀b,ah X φ o w b->w'.heap[b]?=w.heap[b]?):∀g t x,C.j9 g=some ⟨t,x⟩->∃c el fz,w'.heap[g]?=some (.cells c el fz)/\c.size=aJ t:=fun g t x hg=>by obtain⟨a,cs,e,_,hi,_⟩:=hm.fk g t x hg;injection e with e;injection e with e;subst e;rw[st _ hi];exact hm.Hz g t x hg
theorem MRel.cap{C:Cx}{X:Nat->Prop}{φ:Nat->Addr}{o:Nat->Obj}{w:World}(hm:MRel C X φ o w){id:Nat}{t:Ty}{ver:Nat}{fr:Bool}{s:Sl (den t)}(h:o id=.vec t ver fr s)(hn:s.nil=false)(hs:(φ id).spot≠none):s.l=[]/\t≠.int .u8:=by
 have:=hm.ay id;rw[h] at this;rcases this.2.2 hn with h1|h1
 ·exact absurd h1.1 hs
 ·exact h1.2
theorem MRel.I5{C:Cx}{X:Nat->Prop}{φ:Nat->Addr}{o:Nat->Obj}{w:World}(hm:MRel C X φ o w)(id:Nat):∀ver fr (s:Sl (den (.int .u8))),o id=.vec (.int .u8) ver fr s->s.nil=false->(φ id).spot=none:=by intro ver fr s h hn;apply zA;intro hs;exact(hm.cap h hn hs).2 rfl
structure Rel (C:Cx) (nt:Nat) (X:Nat->Prop) (φ:Nat->Addr) (st:St) (a:Act) (w:World):Prop extends MRel C X φ st.obj w where
 size:a.tmps.size=nt
 env:∀t,aq φ st.obj (ah X φ st.obj w) w (st.env t) (a.tmps.getD t undef)
 defers:a.defers=[]
theorem rf{imm imm':Nat->Prop}{w w':World}(hi:∀b,imm b->imm' b)(hw:∀b,imm b->w'.heap[b]?=w.heap[b]?)(t:Ty)(x:den t)(v:Value)(h:aT imm w t x v):aT imm' w' t x v:=by
 cases t with
 |st p=>obtain⟨cs,h1,h2⟩:=h;exact⟨cs,h1,gX hi hw p x _ h2⟩
 |arr n e=>obtain⟨cs,h1,h2⟩:=h;exact⟨cs,h1,gX hi hw (.arr n e) x _ h2⟩
 |unit=>exact h
 |pair a b=>exact h
 |int k=>exact gX hi hw (.int k) x _ h
 |bool=>exact gX hi hw .bool x _ h
 |fc=>exact gX hi hw .fc x _ h
 |dC=>exact gX hi hw .dC x _ h
 |str=>exact gX hi hw .str x _ h
 |sl e=>exact gX hi hw (.sl e) x _ h
 |ks p=>exact gX hi hw (.ks p) x _ h
theorem A5{w w':World}{a:Addr}{n:Nat}(h:w'.heap[a.block]?=w.heap[a.block]?)(hr:room w a n):room w' a n:=by obtain⟨c,el,lo,hi,h1,h2,h3⟩:=hr;exact⟨c,el,lo,hi,by rw[h,h1],h2,h3⟩
theorem z57{w w':World}{a:Addr}{nil fr:Bool}{sz n:Nat}{v:Value}(h:nil=false->fr=false->a.spot=none->w'.heap[a.block]?=w.heap[a.block]?)(hr:Hy w a nil fr sz n v):Hy w' a nil fr sz n v:=hr.imp id fun⟨hn,cap,h1,h2,h4,h3⟩=>⟨hn,cap,h1,h2,h4,fun hf hs=>A5 (h hn hf hs) (h3 hf hs)⟩
def ff(w w':World)(b:Nat):Prop:=∀c el fz,w.heap[b]?=some (.cells c el fz)->∃c',w'.heap[b]?=some (.cells c' el fz)/\c'.size=c.size
theorem ff.same{w w':World}{b:Nat}(h:w'.heap[b]?=w.heap[b]?):ff w w' b:=fun c el fz e=>⟨c,by rw[h];exact e,rfl⟩
theorem ik.bH{C:Cx}{w w':World}{a:Addr}{x:Obj}(h:ik C w a x)(hb:aP a x=true->ff w w' a.block)(hf:∀ver (s:Sl (den (.int .u8))),x=.vec (.int .u8) ver true s->s.nil=false->ff w w' a.block)(hc:∀ver fr (s:Sl (den (.int .u8))),x=.vec (.int .u8) ver fr s->s.nil=false->a.spot=none):ik C w' a x:=by
 cases x with
 |vec t ver fr s=>
  intro ht hn;obtain⟨c,el,fz,h1,h2,h4⟩:=h ht hn;subst ht;have hk:ff w w' a.block:=by
   cases fr with
   |true=>exact hf _ _ rfl hn
   |false=>exact hb (qM hn (hc _ _ _ rfl hn))
  obtain⟨c',h3,h5⟩:=hk _ _ _ h1;exact⟨c',el,fz,h3,h2,by rw[h5];exact h4⟩
 |box cs=>intro hs;obtain⟨c,el,fz,h1,h3⟩:=h hs;obtain⟨c',h2,h4⟩:=(hb rfl) _ _ _ h1;exact⟨c',el,fz,h2,by rw[h4];exact h3⟩
 |map k v m=>trivial
 |dead=>trivial
 |none=>trivial
 |iter s p=>trivial
def Up(w w':World)(a a':Addr):Obj->Obj->Prop
 |.none,_=>True
 |_,.dead=>True
 |.box _,.box _=>a'=a
 |.map _ _ _,.map _ _ _=>a'=a
 |.iter _ _,.iter _ _=>a'=a
 |.vec t ver fr s,.vec t' aC De s'=>ver<aC\/(ver=aC/\t=t'/\s.nil=s'.nil/\s.l.length=s'.l.length/\a'=a/\(De=false->fr=false/\(s.nil=false->a.spot=none->∀n,room w a n->room w' a n)))
 |_,_=>False
theorem Up.same{w w':World}{a:Addr}{x:Obj}(h:aP a x=true->∀n,room w a n->room w' a n):Up w w' a a x x:=by
 cases x with
 |vec t ver fr s=>exact .inr ⟨rfl,rfl,rfl,rfl,rfl,fun hf=>⟨hf,fun hn hs=>h (by subst hf;exact qM hn hs)⟩⟩
 |box cs=>exact rfl
 |map k v m=>exact rfl
 |dead=>trivial
 |none=>trivial
 |iter s p=>exact rfl
theorem Xl{w w':World}{a:Addr}{nil fr De:Bool}{sz n:Nat}{v:Value}(h:De=false->fr=false/\(nil=false->a.spot=none->∀n,room w a n->room w' a n))(hr:Hy w a nil fr sz n v):Hy w' a nil De sz n v:=hr.imp id fun⟨hn,cap,h1,h2,h4,h3⟩=>⟨hn,cap,h1,h2,h4,fun hf hs=>(h hf).2 hn hs _ (h3 (h hf).1 hs)⟩
theorem vj{φ φ':Nat->Addr}{o o':Nat->Obj}{imm imm':Nat->Prop}{w w':World}(hi:∀b,imm b->imm' b)(hw:∀b,imm b->w'.heap[b]?=w.heap[b]?)(ho:∀id,Up w w' (φ id) (φ' id) (o id) (o' id)):∀(x:V) (v:Value),aq φ o imm w x v->aq φ' o' imm' w' x v:=by
 intro x;refine V.rec (motive_1:=fun x=>∀v,aq φ o imm w x v->aq φ' o' imm' w' x v) (motive_2:=fun l=>∀vs,cd φ o imm w l vs->cd φ' o' imm' w' l vs)
  ?_ ?_ ?_ ?_ ?_ ?_ ?_ ?_ ?_ ?_ ?_ ?_ ?_ ?_ ?_ ?_ ?_ ?_ ?_ ?_ ?_ ?_ ?_ ?_ ?_ ?_ x
 ·exact fun t x v h=>rf hi hw t x v h
 ·intro id ver v h;have hu:=ho id;unfold aq at*
  revert h hu;cases o id<;>cases o' id<;>simp only[Up]<;>intro hu h<;>first|trivial|exact h.elim|exact hu.elim|skip
  obtain⟨h0,h⟩:=h;rcases hu with hu|⟨e1,e2,e3,e4,e5,e6⟩
  ·exact⟨by omega,fun e=>by omega⟩
  ·subst e1 e2;exact⟨h0,fun e=>by rw[e5,<-e3,<-e4];exact Xl e6 (h e)⟩
 ·intro id ver n cp v h;have hu:=ho id;unfold aq at*
  revert h hu;cases o id<;>cases o' id<;>simp only[Up]<;>intro hu h<;>first|trivial|exact h.elim|exact hu.elim|skip
  obtain⟨h0,h⟩:=h;rcases hu with hu|⟨e1,e2,e3,e4,e5,e6⟩
  ·exact⟨by omega,fun e=>by omega⟩
  ·subst e1 e2;refine⟨h0,fun e=>?_⟩;obtain⟨h1,h2,h3⟩:=h e;exact⟨by omega,by rw[e5,<-e3];exact Xl e6 h2,h3⟩
 ·intro id off v h;have hu:=ho id;unfold aq at*
  revert h hu;cases o id<;>cases o' id<;>simp only[Up]<;>intro hu h<;>first|trivial|exact h.elim|exact hu.elim|(rw[hu];exact h)|skip
  rcases hu with hu|⟨e1,e2,e3,e4,e5,e6⟩
  ·intro e;omega
  ·subst e1;rw[e5];exact h
 ·intro id ver i path v h;have hu:=ho id;unfold aq at*
  revert h hu;cases o id<;>cases o' id<;>simp only[Up]<;>intro hu h<;>first|trivial|exact h.elim|exact hu.elim|skip
  obtain⟨h0,h⟩:=h;rcases hu with hu|⟨e1,e2,e3,e4,e5,e6⟩
  ·exact⟨by omega,fun e=>by omega⟩
  ·subst e1 e2;refine⟨h0,fun e=>?_⟩;obtain⟨h1,h2⟩:=h e;exact⟨by omega,by rw[e5];exact h2⟩
 ·exact fun t x v ⟨a,cs,h1,h2,h3,h4,h5⟩=>⟨a,cs,h1,h2,hi _ h3,gX hi hw t x cs h4,Hv (hw _ h3) h5⟩
 ·exact fun v h=>h
 ·exact fun f l ih v ⟨c,h1,h2⟩=>⟨c,h1,ih _ h2⟩
 ·exact fun v h=>h
 ·exact fun l ih v ⟨c,h1,h2⟩=>⟨c,h1,ih _ h2⟩
 ·exact fun l ih v ⟨c,h1,h2⟩=>⟨c,h1,ih _ h2⟩
 ·intro id v h;have hu:=ho id;unfold aq at*
  revert h hu;cases o id<;>cases o' id<;>simp only[Up]<;>intro hu h<;>first|trivial|exact h.elim|exact hu.elim|(rw[hu];exact h)|exact h
 ·exact fun v h=>h
 ·exact fun v h=>h
 ·exact fun v h=>h
 ·exact fun b v h=>h
 ·exact fun v h=>h
 ·exact fun v h=>h
 ·intro id b v h;have hu:=ho id;unfold aq at*
  revert h hu;cases o id<;>cases o' id<;>simp only[Up]<;>intro hu h<;>first|trivial|exact h.elim|exact hu.elim|(rw[hu];exact h)|exact h
 ·intro id ver lo v h;have hu:=ho id;unfold aq at*
  revert h hu;cases o id<;>cases o' id<;>simp only[Up]<;>intro hu h<;>first|trivial|exact h.elim|exact hu.elim|skip
  obtain⟨h0,h⟩:=h;rcases hu with hu|⟨e1,e2,e3,e4,e5,e6⟩
  ·exact⟨by omega,fun e=>by omega⟩
  ·subst e1 e2;refine⟨h0,fun e=>?_⟩;rw[e5,<-e3,<-e4];exact h e
 ·intro id v h;have hu:=ho id;unfold aq at*
  revert h hu;cases o id<;>cases o' id<;>simp only[Up]<;>intro hu h<;>first|trivial|exact h.elim|exact hu.elim|(rw[hu];exact h)|exact h
 ·exact fun b p c v h=>h
 ·exact fun a k n v h=>PZ (fun p ⟨a,cs,h1,h2,h3,h4,h5⟩=>⟨a,cs,h1,h2,hi _ h3,gX hi hw (.int .i64) n cs h4,Hv (hw _ h3) h5⟩) a k v h
 ·exact fun t x v ⟨a,b,cs,h1,h2,h3,h4,h5,h6,h7,h8⟩=>⟨a,b,cs,h1,h2,hi _ h3,Hv (hw _ h3) h4,h5,hi _ h6,gX hi hw t x cs h7,Hv (hw _ h6) h8⟩
 ·exact fun vs h=>h
 ·exact fun x l il im vs ⟨v,r,h1,h2,h3⟩=>⟨v,r,h1,il _ h2,im _ h3⟩
def hit(ks:List Nat)(φ:Nat->Addr)(o:Nat->Obj)(b:Nat):Prop:=∃id,id∈ks/\aP (φ id) (o id)=true/\(φ id).block=b
def tR(w w':World):Prop:=w'.os=w.os/\w'.output=w.output
structure Comes (C:Cx) (X:Nat->Prop) (φ φ':Nat->Addr) (o:Nat->Obj) (u:List (Nat×Obj)) (w w':World) (v:V) (val:Value):Prop where
 mem:MRel C X φ' (ak o u) w'
 val:aq φ' (ak o u) (ah X φ' (ak o u) w') w' v val
 up:∀id,Up w w' (φ id) (φ' id) (o id) (ak o u id)
 size:w.heap.size<=w'.heap.size
 frame:∀b,b<w.heap.size->¬hit (bW u) φ o b->w'.heap[b]?=w.heap[b]?
 nU:∀id,o id≠.none->id∉bW u->φ' id=φ id
 news:∀id,aP (φ' id) (ak o u id)=true->w.heap.size<=(φ' id).block\/mw φ o (φ' id).block
 still:tR w w'
theorem Comes.imm{C:Cx}{X:Nat->Prop}{φ φ':Nat->Addr}{o:Nat->Obj}{u:List (Nat×Obj)}{w w':World}{v:V}{val:Value}(h:Comes C X φ φ' o u w w' v val)(b:Nat)(hb:ah X φ o w b):ah X φ' (ak o u) w' b:=by
 obtain⟨h1,h2,h3⟩:=hb;refine⟨Nat.lt_of_lt_of_le h1 h.size,h2,fun⟨id,e1,e2⟩=>?_⟩;rcases h.news id e1 with e3|e3
 ·omega
 ·exact h3 (e2▸e3)
theorem Comes.stays{C:Cx}{X:Nat->Prop}{φ φ':Nat->Addr}{o:Nat->Obj}{u:List (Nat×Obj)}{w w':World}{v:V}{val:Value}(h:Comes C X φ φ' o u w w' v val)(b:Nat)(hb:ah X φ o w b):w'.heap[b]?=w.heap[b]?:=h.frame b hb.1 fun⟨id,_,e1,e2⟩=>hb.2.2 ⟨id,e1,e2⟩
theorem Comes.keeps{C:Cx}{X:Nat->Prop}{φ φ':Nat->Addr}{o:Nat->Obj}{u:List (Nat×Obj)}{w w':World}{v:V}{val:Value}(h:Comes C X φ φ' o u w w' v val)(x:V)(z:Value)(hx:aq φ o (ah X φ o w) w x z):aq φ' (ak o u) (ah X φ' (ak o u) w') w' x z:=vj h.imm h.stays h.up x z hx
def Out(C:Cx)(X:Nat->Prop)(φ:Nat->Addr)(o:Nat->Obj)(w:World)(v:V)(u:List (Nat×Obj))(r:Result Next):Prop:=∃val w' φ',r=.ok (.value val) w'/\Comes C X φ φ' o u w w' v val
section
variable {C:Cx} {X:Nat→Prop} {φ:Nat→Addr} {o:Nat→Obj} {w:World}
theorem Comes.same{v:V}{val:Value}(hm:MRel C X φ o w)(hv:aq φ o (ah X φ o w) w v val):Comes C X φ φ o [] w w v val:=⟨hm,hv,fun _=>Up.same fun _ _ h=>h,Nat.le_refl _,fun _ _ _=>rfl,fun _ _ _=>rfl,fun id h=>.inr ⟨id,h,rfl⟩,⟨rfl,rfl⟩⟩
theorem Out.same{v:V}{val:Value}{r:Result Next}(hm:MRel C X φ o w)(hr:r=.ok (.value val) w)(hv:aq φ o (ah X φ o w) w v val):Out C X φ o w v [] r:=⟨val,w,φ,hr,.same hm hv⟩
theorem I6{imm:Nat->Prop}{x:V}{v:Value}(h:aq φ o imm w x v):aq φ o imm w (eg x) v:=by
 cases x<;>first|exact h|skip
 simp only[eg,aq,aT,aA] at*
 simp[h]
theorem qwr{k:IntKind}{n:Int}(h:AV k n=true):gH k n:=by simpa[AV,gH] using h
theorem P0{imm:Nat->Prop}(v:Value):aq φ o imm w (C8 v) v:=by
 unfold C8;split
 ·simp[aq,aT,aA]
 ·simp[aq,aT,aA]
 ·simp[aq,aT,aA]
 ·rename_i k n;cases h:AV k n
  ·simp[aq]
  ·simp[aq,aT,aA,qwr h]
 ·rename_i s;cases h:Nat.ble s.size 1000000
  ·simp[aq]
  ·simp only[cond_true,aq,aT,aA];refine⟨s,rfl,rfl,?_⟩;have:=zB h;unfold ch;omega
 all_goals simp[aq]
theorem Rel.cv{nt:Nat}{st:St}{a:Act}(h:Rel C nt X φ st a w)(x:Operand):aq φ st.obj (ah X φ st.obj w) w (cv C st.env x) (a.eval x):=by
 cases x with
 |tmp t=>exact I6 (h.env t)
 |const v=>exact P0 v
 |global g=>
  simp only[Ev.cv,Act.eval];split
  ·rename_i e;exact h.fk _ _ _ e
  ·simp[aq]
 |func f=>
  simp only[Ev.cv];cases h:Nat.blt f 1048576 with
  |false=>simp[aq]
  |true=>exact⟨#[],(ME (zB h) #[]).symm,rfl⟩
end
def Pk.aE(p:Pk)(v:V)(u:List (Nat×Obj)):Prop:=match p with
 |.fail=>False
 |.lE v' u'=>v'=v/\u'=u
 |.dyn _ x out=>∃y,x=some y/\out y=(v,u)
@[simp] theorem I7{v:V}{u:List (Nat×Obj)}:Pk.fail.aE v u↔False:=Iff.rfl
@[simp] theorem dR{v v':V}{u u':List (Nat×Obj)}:(Pk.now v u).aE v' u'↔v=v'/\u=u':=Iff.rfl
@[simp] theorem mj{α:Type}{x:Option α}{out:α->V×List (Nat×Obj)}{v:V}{u:List (Nat×Obj)}:(Pk.dyn α x out).aE v u↔∃y,x=some y/\out y=(v,u):=Iff.rfl
@[simp] theorem Df{t:Ty}{x:Option (den t)}{v:V}{u:List (Nat×Obj)}:(Pk.j8 x).aE v u↔∃y,x=some y/\(V.d t y,[])=(v,u):=Iff.rfl
@[simp] theorem dU{b:Bool}{p:Pk}{v:V}{u:List (Nat×Obj)}:(Pk.when b p).aE v u↔b=true/\p.aE v u:=by cases b<;>simp[Pk.when]
section
variable {P:Program} {C:Cx} {X:Nat→Prop} {φ:Nat→Addr} {o:Nat→Obj} {w:World} {imm:Nat→Prop}
theorem lG{k:IntKind}{n:Int}{z:Value}(h:aq φ o imm w (.d (.int k) n) z):z=.int k n/\gH k n:=by simpa[aq,aT,aA] using h
theorem oX{b:Bool}{z:Value}(h:aq φ o imm w (.d .bool b) z):z=.bool b:=by simpa[aq,aT,aA] using h
theorem nV{l:List Int}{z:Value}(h:aq φ o imm w (.d .str l) z):∃s:ByteArray,z=.string s/\s.data.toList.map (fun b=>(b.toNat:Int))=l/\s.size<=ch:=by simp only[aq,aT,aA] at h;obtain⟨s,h1,h2,h3⟩:=h;exact⟨s,by simpa using h1,h2,h3⟩
theorem I8{b:Nat}{z:Value}(h:aq φ o imm w (.d .fc b) z):z=.float .f64 b:=by simpa[aq,aT,aA] using h
theorem HA{b:Nat×Nat}{z:Value}(h:aq φ o imm w (.d .dC b) z):z=.complex .f64 b.1 b.2:=by simpa[aq,aT,aA] using h
theorem MF{b:Nat}:aq φ o imm w (.d .fc b) (.float .f64 b):=by simp[aq,aT,aA]
theorem P1{b:Nat×Nat}:aq φ o imm w (.d .dC b) (.complex .f64 b.1 b.2):=by simp[aq,aT,aA]
theorem lA{k:IntKind}{n:Int}(h:gH k n):aq φ o imm w (.d (.int k) n) (.int k n):=by simpa[aq,aT,aA] using h
theorem Ai{b:Bool}:aq φ o imm w (.d .bool b) (.bool b):=by simp[aq,aT,aA]
theorem Em{s:ByteArray}{l:List Int}(h:s.data.toList.map (fun b=>(b.toNat:Int))=l)(hl:s.size<=ch):aq φ o imm w (.d .str l) (.string s):=by simp only[aq,aT,aA];exact⟨s,rfl,h,hl⟩
theorem HE(k:IntKind)(n:Int):gH k (k.wrap n):=by unfold gH IntKind.wrap IntKind.min IntKind.max;cases k<;>simp[IntKind.bits,IntKind.signed]<;>(try split)<;>omega
def pA(P:Program)(φ:Nat->Addr)(o:Nat->Obj)(imm:Nat->Prop)(w:World)(v:V)(s:Sem Value):Prop:=∃val,s.run P w=.ok val w/\aq φ o imm w v val
theorem P2(k:IntKind):gH k 0:=by unfold gH IntKind.min IntKind.max;cases k<;>simp[IntKind.bits,IntKind.signed]
theorem z71{k:IntKind}{a b:Int}(h:gH k a):gH k (a.tmod b):=by
 have h1:(a.tmod b).natAbs<=a.natAbs:=by rw[Int.natAbs_tmod];exact Nat.mod_le _ _
 have hz:=P2 k;unfold gH at*
 rcases Int.le_total 0 a with h0|h0
 ·have:=Int.tmod_nonneg b h0;omega
 ·have:=Int.tmod_nonneg b (show 0<=-a by omega);rw[Int.neg_tmod] at this;omega
theorem z23{op:BinOp}{k:IntKind}{a b:Int}{v:V}{u:List (Nat×Obj)}(ha:gH k a)(h:(O6 lf op k a b).aE v u)(t:TypeId):u=[]/\pA P φ o imm w v (binOp op t (.int k a) (.int k b)):=by
 cases op<;>simp only[O6,dR,Df,I7] at h
 case quo=>
  obtain⟨y,h1,h2⟩:=h;simp only[Prod.mk.injEq] at h2;obtain⟨rfl,rfl⟩:=h2;simp only[lf,vL] at h1;split at h1
  ·cases h1
  ·rename_i hb;simp only[zE] at h1;subst h1;exact⟨rfl,.int k _,by simp[binOp,Op.intDiv,hb,pure],lA (HE _ _)⟩
 case rem=>
  obtain⟨y,h1,h2⟩:=h;simp only[Prod.mk.injEq] at h2;obtain⟨rfl,rfl⟩:=h2;simp only[lf,lB] at h1;split at h1
  ·cases h1
  ·rename_i hb;simp only[zE] at h1;subst h1;exact⟨rfl,.int k _,by simp[binOp,Op.intDiv,hb,pure],lA (z71 ha)⟩
 all_goals
  obtain⟨rfl,rfl⟩:=h;refine⟨rfl,?_⟩
  first
  |exact⟨.int k _,by simp[binOp,Op.intArith,Op.intBits,lf,aG,bU,mq,jD,po,nM,jE,pure],lA (HE _ _)⟩
  |exact⟨.bool _,by simp[binOp,Op.intCmp,lf,aK,cK,ag,av,pure,bne],Ai⟩
end
def bl(s:ByteArray):List Int:=s.data.toList.map fun b=>(b.toNat:Int)
theorem z58{a b:UInt8}(h:(a.toNat:Int)=(b.toNat:Int)):a=b:=by apply UInt8.toNat_inj.1;omega
theorem Xm:∀(x y:List UInt8),(x.map (fun b=>(b.toNat:Int))==y.map (fun b=>(b.toNat:Int)))=(x==y)
 |[],[]=>rfl
 |[],_::_=>rfl
 |_::_,[]=>rfl
 |a::x,b::y=>by
  have e:(((a.toNat:Nat):Int)==((b.toNat:Nat):Int))=(a==b):=by rw[Bool.eq_iff_iff];simp only[beq_iff_eq];exact⟨z58,fun h=>by rw[h]⟩
  have ih:=Xm x y;simp only[zJ,List.cons_beq_cons,e,ih]
theorem Xn:∀(x y:List UInt8),strLt (x.map fun b=>(b.toNat:Int)) (y.map fun b=>(b.toNat:Int))=Op.bytesLess x y
 |[],[]=>rfl
 |[],_::_=>rfl
 |_::_,[]=>rfl
 |a::x,b::y=>by
  have e1:decide (((a.toNat:Nat):Int)<((b.toNat:Nat):Int))=decide (a<b):=by rw[decide_eq_decide,UInt8.lt_iff_toNat_lt];omega
  have e2:decide (((a.toNat:Nat):Int)=((b.toNat:Nat):Int))=(a==b):=by rw[Bool.eq_iff_iff];simp only[decide_eq_true_eq,beq_iff_eq];exact⟨z58,fun h=>by rw[h]⟩
  simp only[zJ,strLt,Op.bytesLess,e1,e2,Xn x y]
theorem P3(a b:ByteArray):eU (bl a) (bl b)=(a.toList==b.toList):=by rw[ByteArray.toList_eq,ByteArray.toList_eq];exact Xm _ _
theorem z24(a b:ByteArray):strLt (bl a) (bl b)=Op.bytesLess a.toList b.toList:=by rw[ByteArray.toList_eq,ByteArray.toList_eq];exact Xn _ _
theorem qwu(a:ByteArray):(bl a).length=a.size:=by unfold bl;rw[zO];rfl
theorem qwv(a b:ByteArray):bl (a++b)=bl a++bl b:=by unfold bl;rw[<-zT,ByteArray.data_append,Array.toList_append]
section
variable {P:Program} {φ:Nat→Addr} {o:Nat→Obj} {w:World} {imm:Nat→Prop}
theorem z25{op:BinOp}{a b:ByteArray}{v:V}{u:List (Nat×Obj)}(h:(O7 lf op (bl a) (bl b)).aE v u)(t:TypeId):u=[]/\pA P φ o imm w v (binOp op t (.string a) (.string b)):=by
 cases op<;>simp only[O7,dR,mj,I7] at h
 case add=>
  obtain⟨y,h1,h2⟩:=h;simp only[Prod.mk.injEq] at h2;obtain⟨rfl,rfl⟩:=h2;simp only[lf,fit,aQ,ae,qwu] at h1;split at h1
  ·rename_i hb;refine⟨rfl,.string (a++b),?_,?_⟩
   ·simp[binOp,Op.stringOp,pure,Sem.run,IntKind.max,IntKind.signed,IntKind.bits];omega
   ·refine Em (show bl (a++b)=bl a++bl b from qwv a b) ?_;rw[ByteArray.size_append];unfold ch;omega
  ·cases h1
 all_goals
  obtain⟨rfl,rfl⟩:=h;refine⟨rfl,.bool _,?_,Ai⟩;simp[binOp,Op.stringOp,lf,av,aF,P3,z24,pure]
end
section
variable {P:Program} {C:Cx} {φ:Nat→Addr} {o:Nat→Obj} {w:World} {imm:Nat→Prop}
theorem z9w{k:IntKind}{a:Int}(n:Nat)(h:gH k a):gH k (a.fdiv (2 ^ n)):=by
 have hp:(0:Int)<2 ^ n:=Int.pow_pos om;rw[Int.fdiv_eq_ediv_of_nonneg _ (Int.le_of_lt hp)];have hz:=P2 k;unfold gH at*
 rcases Int.le_total 0 a with h0|h0
 ·have h1:=Int.ediv_nonneg h0 (Int.le_of_lt hp);have h2:a / 2 ^ n<=a:=Int.ediv_le_self _ h0;omega
 ·have h1:a / 2 ^ n<=0:=Int.ediv_nonpos_of_nonpos_of_neg h0 hp;have h2:a<=a / 2 ^ n:=by rw[Int.le_ediv_iff_mul_le hp];have:a*2 ^ n<=a*1:=Int.mul_le_mul_of_nonpos_left h0 om;omega
  omega
theorem Xo{op:BinOp}(hc:op=.shl\/op=.shr){k k':IntKind}{a b:Int}{v:V}{u:List (Nat×Obj)}(ha:gH k a)(h:(match op with|.shl=>Pk.j8 (t:=.int k) (lf.gZ k a b)|_=>Pk.j8 (t:=.int k) (lf.iK k a b)).aE v u)(t:TypeId):u=[]/\pA P φ o imm w v (binOp op t (.int k a) (.int k' b)):=by
 rcases hc with rfl|rfl<;>simp only[Df,Prod.mk.injEq,lf,gZ,iK] at h<;>obtain⟨y,h1,rfl,rfl⟩:=h<;>split at h1
 ·cases h1
 ·rename_i hb;simp only[zE] at h1;subst h1;exact⟨rfl,.int k _,by simp[binOp,Op.shift,hb,pure],lA (HE _ _)⟩
 ·cases h1
 ·rename_i hb;simp only[zE] at h1;subst h1;exact⟨rfl,.int k _,by simp[binOp,Op.shift,hb,pure],lA (z9w _ ha)⟩
end
theorem I9{P:Program}{t:TypeId}{i:TypeInfo}(h:P.types.toList[t]?=some i):P.info? t=some i:=by
 rw[zL] at h;have ht:t<P.types.size:=by
  rcases Nat.lt_or_ge t P.types.size with h1|h1
  ·exact h1
  ·rw[zX h1] at h;cases h
 simp only[Tables.info?,ht,if_true];exact h
theorem kN{P:Program}{t:TypeId}{d:TypeDesc}(h:desc P t=some d):P.underlying t=some d:=by
 unfold desc at h;cases h1:P.types.toList[t]? with
 |none=>rw[h1] at h;cases h
 |some i=>
  rw[h1] at h;unfold Program.underlying;rw[I9 h1];obtain⟨d',_,_,_,_,_,_,_,_,_⟩:=i;cases d'<;>simp only at h ⊢<;>first|exact h|skip
  rename_i u;cases h2:P.types.toList[u]? with
  |none=>rw[h2] at h;cases h
  |some j=>rw[h2] at h;rw[I9 h2];exact h
theorem Ja{k k':IntKind}(h:Nat.beq (qX k) (qX k')=true):k=k':=by cases k<;>cases k'<;>first|rfl|cases h
theorem Eo:∀{a b:Ty},nO a b=true->a=b
 |.int k,b,h=>by cases b<;>simp only[nO] at h<;>first|exact congrArg Ty.int (Ja h)|cases h
 |.bool,b,h=>by cases b<;>simp only[nO] at h<;>first|rfl|cases h
 |.fc,b,h=>by cases b<;>simp only[nO] at h<;>first|rfl|cases h
 |.dC,b,h=>by cases b<;>simp only[nO] at h<;>first|rfl|cases h
 |.str,b,h=>by cases b<;>simp only[nO] at h<;>first|rfl|cases h
 |.unit,b,h=>by cases b<;>simp only[nO] at h<;>first|rfl|cases h
 |.sl e,b,h=>by cases b<;>simp only[nO] at h<;>first|exact congrArg Ty.sl (Eo h)|cases h
 |.st e,b,h=>by cases b<;>simp only[nO] at h<;>first|exact congrArg Ty.st (Eo h)|cases h
 |.ks e,b,h=>by cases b<;>simp only[nO] at h<;>first|exact congrArg Ty.ks (Eo h)|cases h
 |.pair c d,b,h=>by cases b<;>simp only[nO,ze] at h<;>first|(rw[Eo h.1,Eo h.2])|cases h
 |.arr n e,b,h=>by cases b<;>simp only[nO,ze] at h<;>first|(rw[zm h.1,Eo h.2])|cases h
theorem Ep{T:Ty}{x:Option Ty}(h:gK T x=true):x=some T:=by
 cases x with
 |none=>cases h
 |some T'=>exact congrArg some (Eo h)
theorem bY{C:Cx}{t:TypeId}{T:Ty}(h:C.is t T=true):C.ty t=some T:=Ep h
def Jb(f:List Value->Option (List Value)):Nat->List Value->Option (List Value)
 |0,cs=>some cs
 |n+1,cs=>match f cs with
  |some r=>Jb f n r
  |none=>none
def my:Ty->List Value->Option (List Value)
 |.int k,.int k' n::r=>bif Nat.beq (qX k) (qX k')&&decide (n=0) then some r else none
 |.bool,.bool false::r=>some r
 |.fc,.float .f64 0::r=>some r
 |.dC,.complex .f64 0 0::r=>some r
 |.str,.string s::r=>bif Nat.beq s.size 0 then some r else none
 |.sl _,.slice none 0 0::r=>some r
 |.ks _,.slice none 0 0::r=>some r
 |.unit,cs=>some cs
 |.pair a b,cs=>match my a cs with
  |some r=>my b r
  |none=>none
 |.st p,cs=>my p cs
 |.arr n e,cs=>Jb (my e) n cs
 |_,_=>none
theorem Xp{α:Type}{f:List Value->Option (List Value)}{g:α->List Value->Prop}{z:α}(hf:∀cs r,f cs=some r->∃c,cs=c++r/\g z c):∀(n:Nat) (cs r:List Value),Jb f n cs=some r->∃c,cs=c++r/\bc g (List.replicate n z) c
 |0,cs,r,h=>by simp only[Jb,zE] at h;subst h;exact⟨[],rfl,rfl⟩
 |n+1,cs,r,h=>by
  simp only[Jb] at h;split at h
  ·rename_i r1 h1;obtain⟨c,e1,e2⟩:=hf _ _ h1;obtain⟨d,e3,e4⟩:=Xp hf n _ _ h;exact⟨c++d,by rw[e1,e3,zo],c,d,rfl,e2,e4⟩
  ·cases h
theorem qq6(imm:Nat->Prop)(w:World)(T:Ty):∀(cs r:List Value),my T cs=some r->∃c,cs=c++r/\aA imm w T (zero T) c:=by
 induction T with
 |int k=>
  intro cs r h;cases cs with
  |nil=>cases h
  |cons v cs=>
   cases v<;>(try simp only[my] at h)<;>try (cases h;done)
   rename_i k' n;cases hb:(Nat.beq (qX k) (qX k')&&decide (n=0)) with
   |false=>rw[hb] at h;cases h
   |true=>rw[hb] at h;simp only[ze,decide_eq_true_eq] at hb;simp only[cond_true,zE] at h;obtain⟨h1,rfl⟩:=hb;have:=Ja h1;subst this h;exact⟨[_],rfl,rfl,P2 k⟩
 |bool=>
  intro cs r h;cases cs with
  |nil=>cases h
  |cons v cs=>
   cases v<;>(try simp only[my] at h)<;>try (cases h;done)
   rename_i b;cases b
   ·simp only[my,zE] at h;subst h;exact⟨[_],rfl,rfl⟩
   ·cases h
 |fc=>
  intro cs r h;cases cs with
  |nil=>cases h
  |cons v cs=>
   cases v<;>(try simp only[my] at h)<;>try (cases h;done)
   rename_i k b;cases k<;>(try simp only[my] at h)<;>try (cases h;done)
   cases b<;>(try simp only[my] at h)<;>try (cases h;done)
   injection h with h;subst h;exact⟨[_],rfl,rfl⟩
 |dC=>
  intro cs r h;cases cs with
  |nil=>cases h
  |cons v cs=>
   cases v<;>(try simp only[my] at h)<;>try (cases h;done)
   rename_i k a b;cases k<;>(try simp only[my] at h)<;>try (cases h;done)
   cases a<;>(try simp only[my] at h)<;>try (cases h;done)
   cases b<;>(try simp only[my] at h)<;>try (cases h;done)
   injection h with h;subst h;exact⟨[_],rfl,rfl⟩
 |str=>
  intro cs r h;cases cs with
  |nil=>cases h
  |cons v cs=>
   cases v<;>(try simp only[my] at h)<;>try (cases h;done)
   rename_i s;cases hb:Nat.beq s.size 0 with
   |false=>rw[hb] at h;cases h
   |true=>rw[hb] at h;simp only[cond_true,zE] at h;subst h;have hz:=zm hb;refine⟨[_],rfl,s,rfl,?_,by omega⟩;have:s.data.toList=[]:=zP (by simpa using hz);rw[this];rfl
 |sl e _=>
  intro cs r h;cases cs with
  |nil=>cases h
  |cons v cs=>
   cases v<;>(try simp only[my] at h)<;>try (cases h;done)
   rename_i a n m;cases a<;>cases n<;>cases m<;>try (cases h;done)
   have h:=zI h;subst h;exact⟨[_],rfl,_,rfl,Nat.zero_le _,.inl ⟨rfl,rfl,rfl⟩⟩
 |ks e _=>
  intro cs r h;cases cs with
  |nil=>cases h
  |cons v cs=>
   cases v<;>(try simp only[my] at h)<;>try (cases h;done)
   rename_i a n m;cases a<;>cases n<;>cases m<;>try (cases h;done)
   have h:=zI h;subst h;exact⟨[_],rfl,1,_,rfl,Nat.zero_le _,.inl ⟨rfl,rfl,rfl⟩⟩
 |unit=>intro cs r h;simp only[my,zE] at h;subst h;exact⟨[],rfl,rfl⟩
 |pair a b nW kh=>
  intro cs r h;simp only[my] at h;split at h
  ·rename_i r1 h1;obtain⟨c,e1,e2⟩:=nW _ _ h1;obtain⟨d,e3,e4⟩:=kh _ _ h;exact⟨c++d,by rw[e1,e3,zo],c,d,rfl,e2,e4⟩
  ·cases h
 |st p ih=>intro cs r h;exact ih _ _ h
 |arr n e ih=>intro cs r h;obtain⟨c,e1,e2⟩:=Xp ih n _ _ h;exact⟨c,e1,by simp[zero],e2⟩
def Jc:Ty->Ty
 |.ks p=>.sl (mg p)
 |t=>t
def qN(C:Cx):List Field->Ty->Nat->Bool
 |[],.unit,_=>true
 |[f],p,off=>C.is f.type (Jc p)&&Nat.beq f.offset off
 |f::g::r,.pair a b,off=>C.is f.type a&&Nat.beq f.offset off&&qN C (g::r) b (off+aJ a)
 |_,_,_=>false
def mz(C:Cx):TypeDesc->Ty->Bool
 |.int k,.int k'=>Nat.beq (qX k) (qX k')
 |.bool,.bool=>true
 |.float .f64,.fc=>true
 |.complex .f64,.dC=>true
 |.string,.str=>true
 |.slice e,.sl e'=>C.is e e'
 |.array n e,.arr n' e'=>Nat.beq n n'&&C.is e e'
 |.struct fs,.st p=>qN C fs.toList p 0
 |_,_=>false
def jH:Ty->Bool
 |.st _=>true|.arr .. =>true|_=>false
def Es:Value->Bool
 |.agg _=>true|_=>false
def P4(C:Cx)(t:TypeId)(T:Ty):Bool:=
 match C.P.types.toList[t]?,desc C.P t with
 |some i,some d=>Nat.beq i.size (aJ T)&&Nat.ble i.bytes 65536&&mz C d T&&
  (match i.zero with
   |some z=>(Es z==jH T)&&(match my T z.cells.toList with|some []=>true|_=>false)
   |none=>false)
 |_,_=>false
def HF(C:Cx):List (Nat×Ty)->Bool
 |[]=>true
 |p::r=>P4 C p.1 p.2&&HF C r
structure mA (C:Cx) (t:TypeId) (T:Ty):Prop where
 info:∃i z,C.P.info? t=some i/\C.P.types.toList[t]?=some i/\i.size=aJ T/\i.bytes<=65536/\i.zero=some z/\Es z=jH T/\∀imm w,aA imm w T (zero T) z.cells.toList
 desc:∃d,desc C.P t=some d/\C.P.underlying t=some d/\mz C d T=true
theorem qun{C:Cx}{t:TypeId}{T:Ty}(h:P4 C t T=true):mA C t T:=by
 unfold P4 at h;split at h
 ·rename_i i d h1 h2;simp only[ze] at h;obtain⟨⟨⟨h3,h4⟩,h5⟩,h6⟩:=h;split at h6
  ·rename_i z hz;simp only[ze] at h6;obtain⟨h7,h8⟩:=h6;refine⟨⟨i,z,I9 h1,h1,zm h3,zB h4,hz,?_,?_⟩,d,h2,kN h2,h5⟩
   ·exact eq_of_beq h7
   ·intro imm w;split at h8
    ·rename_i h9;obtain⟨c,e1,e2⟩:=qq6 imm w T _ _ h9;rw[e1,zt];exact e2
    ·cases h8
  ·cases h6
 ·cases h
theorem P5{C:Cx}:∀{l:List (Nat×Ty)},HF C l=true->∀t T,AU l t=some T->mA C t T
 |[],_,_,_,h=>by cases h
 |(a,S)::r,hc,t,T,h=>by
  simp only[HF,ze] at hc;simp only[AU] at h;cases hb:Nat.beq a t with
  |true=>rw[hb] at h;simp only[cond_true,zE] at h;have:=zm hb;subst this h;exact qun hc.1
  |false=>rw[hb] at h;exact P5 hc.2 t T h
structure cD (C:Cx):Prop where
 eM:∀t T,C.ty t=some T->mA C t T
section
variable {P:Program} {C:Cx} {X:Nat→Prop} {φ:Nat→Addr} {o:Nat→Obj} {w:World} {imm:Nat→Prop}
theorem Dg{e:Ty}{s:Sl (den e)}{z:Value}(h:aq φ o imm w (.d (.sl e) s) z):s.l.length<=ch/\((s.nil=true/\s.l=[]/\z=.slice none 0 0)\/(s.nil=false/\∃a cap ec,z=.slice (some a) s.l.length cap/\(cap≠0->a.spot=none)/\(s.l≠[]->imm a.block)/\bc (aA imm w e) s.l ec/\kg w a ec/\s.l.length<=cap)):=by
 simp only[aq,aT,aA] at h;obtain⟨v,h1,h2,h3⟩:=h;have:z=v:=by simpa using h1
 subst this;exact⟨h2,h3⟩
theorem Xq{x:V}{z:Value}{t:Ty}{s:Sl (den t)}(h:aq φ o imm w x z)(he:Ac lf o x=some ⟨t,s⟩)(hl:∀id,oV φ o imm w id (o id)):(s.nil=true/\s.l=[]/\z=.slice none 0 0)\/(s.nil=false/\∃a cap,z=.slice (some a) s.l.length cap):=by
 cases x<;>simp only[Ac] at he<;>try (cases he;done)
 ·rename_i id ver;have ho:=hl id;unfold aq at h;split at he
  ·rename_i t' aC fr s' e1;rw[e1] at h ho;cases hb:Nat.beq ver aC with
   |false=>rw[hb] at he;cases he
   |true=>
    rw[hb] at he;simp only[cond_true,zE,Sigma.mk.injEq] at he;obtain⟨rfl,he⟩:=he;have he:=eq_of_heq he;subst he;have h:=h.2 (zm hb);rcases h with ⟨h1,h2⟩|⟨h1,cap,h2,h3,h4⟩
    ·exact .inl ⟨h1,ho.2.1 h1,h2⟩
    ·exact .inr ⟨h1,_,cap,h2⟩
  ·cases he
 ·rename_i id ver n cp;have ho:=hl id;unfold aq at h;split at he
  ·rename_i t' aC fr s' e1;rw[e1] at h ho;cases hb:Nat.beq ver aC with
   |false=>rw[hb] at he;cases he
   |true=>
    rw[hb] at he;simp only[cond_true,zE,Sigma.mk.injEq] at he;obtain⟨rfl,he⟩:=he;have he:=eq_of_heq he;subst he;obtain⟨h0,h,_⟩:=h.2 (zm hb);rcases h with ⟨h1,h2⟩|⟨h1,cap,h2,h3,h4⟩
    ·exact .inl ⟨h1,by simp[lf,aI,ho.2.1 h1],h2⟩
    ·have e2:(lf.aI s'.l n).length=n:=by simp[lf,aI,Nat.min_eq_left h0]
     exact .inr ⟨h1,bare (φ id),cap,by rw[h2];exact congrArg (fun k=>Value.slice (some (bare (φ id))) k cap) e2.symm⟩
  ·cases he
 ·rename_i id ver lo;have ho:=hl id;unfold aq at h;split at he
  ·rename_i t' aC fr s' e1;rw[e1] at h ho;cases hb:Nat.beq ver aC with
   |false=>rw[hb] at he;cases he
   |true=>
    rw[hb] at he;simp only[cond_true,zE,Sigma.mk.injEq] at he;obtain⟨rfl,he⟩:=he;have he:=eq_of_heq he;subst he;obtain⟨k,rfl,hk,h⟩:=h.2 (zm hb);rcases h with ⟨h1,h2⟩|⟨h1,cap,h2,h3⟩
    ·exact .inl ⟨h1,by simp[lf,cQ,ho.2.1 h1],h2⟩
    ·have e2:(lf.cQ s'.l (k:Int)).length=s'.l.length-k:=by simp[lf,cQ]
     exact .inr ⟨h1,_,cap,by rw[h2];exact congrArg (fun j=>Value.slice _ j cap) e2.symm⟩
  ·cases he
end
def Xs:Value->Bool
 |.nilIface=>false|.agg _=>false|_=>true
section
variable {P:Program} {C:Cx} {X:Nat→Prop} {φ:Nat→Addr} {o:Nat→Obj} {w:World} {imm:Nat→Prop}
theorem qq7{op:BinOp}{t:TypeId}{x y:Operand}{a b:Value}(h:Xs a=true):(eqGuard op t x y a b).run P w=.ok () w:=by cases a<;>first|(cases h;done)|(cases op<;>cases b<;>simp[eqGuard])
theorem z74{op:BinOp}{t:TypeId}{x y:Value}{b:Bool}{v:V}{u:List (Nat×Obj)}(h:(jl lf op b).aE v u)(he:(Op.equal t x y).run P w=.ok b w)(hi:∀op,op=.eql\/op=.neq->binOp op t x y=(match op with|.eql=>(do pure (.bool (<-Op.equal t x y)))|_=>(do pure (.bool (!(<-Op.equal t x y)))))):u=[]/\pA P φ o imm w v (binOp op t x y):=by
 cases op<;>simp only[jl,dR,I7] at h
 ·obtain⟨rfl,rfl⟩:=h;refine⟨rfl,.bool b,?_,Ai⟩;rw[hi _ (.inl rfl)];simp[he]
 ·obtain⟨rfl,rfl⟩:=h;refine⟨rfl,.bool (!b),?_,Ai⟩;rw[hi _ (.inr rfl)];simp[he]
theorem HG{t:TypeId}{n:Nat}(h:Nat.beq (tJ C t) n=true)(hn:n<5):∃d,C.P.underlying t=some d/\(match n,d with|0,.bool=>True|1,.slice _=>True|2,.func .. =>True|3,.pointer _=>True|4,.map .. =>True|_,_=>False):=by
 have h:=zm h;unfold tJ at h;cases hd:desc C.P t with
 |none=>rw[hd] at h;simp at h;omega
 |some d=>rw[hd] at h;exact⟨d,kN hd,by cases d<;>simp only at h<;>subst h<;>first|trivial|omega⟩
theorem qup(d:Nat){t e:TypeId}(ht:P.underlying t=some (.slice e))(b:Option Addr)(n m:Nat):(Op.equalIn (d+1) t (.slice b n m) (.slice none 0 0)).run P w=.ok b.isNone w:=by cases b<;>simp[Op.equalIn,run_underlying ht]
theorem Xt(d:Nat){t:TypeId}{ps rs:Array TypeId}{v:Bool}(ht:P.underlying t=some (.func ps rs v))(f:Fn)(a c:Array Value):(Op.equalIn (d+1) t (.func f a c) .nilFunc).run P w=.ok false w:=by simp[Op.equalIn,run_underlying ht]
theorem Xu(d:Nat){t:TypeId}{ps rs:Array TypeId}{v:Bool}(ht:P.underlying t=some (.func ps rs v)):(Op.equalIn (d+1) t .nilFunc .nilFunc).run P w=.ok true w:=by simp[Op.equalIn,run_underlying ht]
theorem z26(d:Nat){t e:TypeId}(ht:P.underlying t=some (.pointer e))(a:Option Addr):(Op.equalIn (d+1) t (.pointer a) (.pointer none)).run P w=.ok a.isNone w:=by cases a<;>simp[Op.equalIn,run_underlying ht]
theorem Et{t:TypeId}{a b:Value}{r:Bool}(h:(Op.equalIn (9999+1) t a b).run P w=.ok r w):(Op.equal t a b).run P w=.ok r w:=h
theorem P6{x:V}{z:Value}(hx:aq φ o imm w x z)(h:sure o x=true):∃a,z=.pointer (some a):=by
 cases x<;>simp only[sure] at h<;>try (cases h;done)
 ·rename_i id off;unfold aq at hx;cases e:o id<;>rw[e] at h hx<;>simp only at h hx<;>try (cases h;done)
  ·exact⟨_,hx⟩
  ·exact⟨_,hx (zm h).symm⟩
 ·obtain⟨a,cs,h1,_⟩:=hx;exact⟨a,h1⟩
theorem pB{op:BinOp}{t:TypeId}{x y:Value}{b:Bool}{v:V}{u:List (Nat×Obj)}(h:(jl lf op b).aE v u)(he:(Op.equal t x y).run P w=.ok b w)(hi:(∀op:BinOp,op=.eql->binOp op t x y=(do pure (.bool (<-Op.equal t x y))))/\(∀op:BinOp,op=.neq->binOp op t x y=(do pure (.bool (!(<-Op.equal t x y)))))):u=[]/\pA P φ o imm w v (binOp op t x y):=
 z74 h he fun op ho=>by
  rcases ho with rfl|rfl
  ·exact hi.1 _ rfl
  ·exact hi.2 _ rfl
theorem z27{op:BinOp}{a b:Nat}{v:V}{u:List (Nat×Obj)}(h:(O8 lf op a b).aE v u)(t:TypeId):u=[]/\pA P φ o imm w v (binOp op t (.float .f64 a) (.float .f64 b)):=by
 cases op<;>simp only[O8,dR,Df,I7] at h
 ·obtain⟨y,h1,h2⟩:=h;simp only[Prod.mk.injEq] at h2;obtain⟨rfl,rfl⟩:=h2;have h1:Ieee.double.add a b=some y:=h1;exact⟨rfl,.float .f64 y,by simp[binOp,Op.floatArith,FloatKind.format,h1],MF⟩
 ·obtain⟨rfl,rfl⟩:=h;exact⟨rfl,.bool _,by simp[binOp,Op.floatCmp,FloatKind.format,lf,C4],Ai⟩
theorem z28{op:BinOp}{a b:Nat×Nat}{v:V}{u:List (Nat×Obj)}(h:(O9 lf op a b).aE v u)(t:TypeId):u=[]/\pA P φ o imm w v (binOp op t (.complex .f64 a.1 a.2) (.complex .f64 b.1 b.2)):=by
 cases op<;>simp only[O9,Df,I7] at h
 ·obtain⟨y,h1,h2⟩:=h;simp only[Prod.mk.injEq] at h2;obtain⟨rfl,rfl⟩:=h2;cases hx:Ieee.double.add a.1 b.1 with
  |none=>have h1:aj (Ieee.double.add a.1 b.1) (fun x=>aj (Ieee.double.add a.2 b.2) fun y=>some (x,y))=some y:=h1;rw[hx] at h1;cases h1
  |some x=>
   cases hz:Ieee.double.add a.2 b.2 with
   |none=>have h1:aj (Ieee.double.add a.1 b.1) (fun x=>aj (Ieee.double.add a.2 b.2) fun y=>some (x,y))=some y:=h1;rw[hx,hz] at h1;cases h1
   |some z=>have h1:aj (Ieee.double.add a.1 b.1) (fun x=>aj (Ieee.double.add a.2 b.2) fun y=>some (x,y))=some y:=h1;rw[hx,hz] at h1;injection h1 with h1;subst h1;exact⟨rfl,.complex .f64 x z,by simp[binOp,Op.complexOp,Op.Complex.arith,Op.floatArith,FloatKind.format,hx,hz],P1⟩
theorem z29{op:BinOp}{t:TypeId}{x y:V}{zx zy:Value}{v:V}{u:List (Nat×Obj)}(hl:∀id,oV φ o imm w id (o id))(hx:aq φ o imm w x zx)(hy:aq φ o imm w y zy)(hj:∀(t:TypeId) (p:Ty) (a b:den p) (xs ys:Array Value),bJ t C.eqs=true->C.ty t=some (.st p)->aA imm w p a xs.toList->aA imm w p b ys.toList->(Op.equal t (.agg xs) (.agg ys)).run C.P w=.ok (fR lf p a b) w)(h:(Hm lf C o op t x y).aE v u):u=[]/\pA C.P φ o imm w v (binOp op t zx zy):=by
 have hc:∀(s:Bool) (zx:Value),(Nat.beq (tJ C t) 1=true/\(jl lf op s).aE v u)->zy=.slice none 0 0->(∃b n m,zx=.slice b n m/\b.isNone=s)->u=[]/\pA C.P φ o imm w v (binOp op t zx zy):=by
  rintro s zx ⟨h1,h2⟩ rfl ⟨b,n,m,rfl,rfl⟩;obtain⟨d,hd,hk⟩:=HG h1 om;cases d<;>try exact False.elim hk
  exact pB h2 (Et (qup _ hd _ _ _)) ⟨by rintro _ rfl;rfl,by rintro _ rfl;rfl⟩
 have hf:∀(zx:Value) (s:Bool),Nat.beq (tJ C t) 3=true->(jl lf op s).aE v u->zy=.pointer none->(∃a,zx=.pointer a/\a.isNone=s)->u=[]/\pA C.P φ o imm w v (binOp op t zx zy):=by
  rintro zx s h1 h2 rfl ⟨a,rfl,rfl⟩;obtain⟨d,hd,hk⟩:=HG h1 om;cases d<;>try exact False.elim hk
  refine pB h2 (Et (z26 _ hd _)) ⟨by rintro _ rfl;rfl,by rintro _ rfl;rfl⟩
 unfold Hm at h;split at h
 ·
  rename_i k a k' b;obtain⟨rfl,ha⟩:=lG hx;obtain⟨rfl,hb⟩:=lG hy;split at h
  ·exact Xo (.inl rfl) ha h t
  ·exact Xo (.inr rfl) ha h t
  ·split at h
   ·rename_i e _;subst e;exact z23 ha h t
   ·cases h
 ·obtain⟨s,rfl,rfl,_⟩:=nV hx;obtain⟨s',rfl,rfl,_⟩:=nV hy;exact z25 h t
 ·have e1:=I8 hx;have e2:=I8 hy;subst e1 e2;exact z27 h t
 ·have e1:=HA hx;have e2:=HA hy;subst e1 e2;exact z28 h t
 ·have e1:=oX hx;have e2:=oX hy;subst e1 e2;rw[dU] at h;obtain⟨d,hd,hk⟩:=HG h.1 om;cases d<;>try exact False.elim hk
  exact pB h.2 (Et (run_equalIn_bool _ _ _ _ _ hd)) ⟨by rintro _ rfl;rfl,by rintro _ rfl;rfl⟩
 ·rename_i p a p' b;split at h
  ·rename_i b' hb;rw[dU,ze] at h;unfold gJ at hb;split at hb
   ·rename_i hp _;subst hp;simp only[zE] at hb;subst hb;obtain⟨xs,rfl,hm⟩:=hx;obtain⟨ys,rfl,hn⟩:=hy;exact pB h.2 (hj t p' a b xs ys h.1.1 (bY h.1.2) hm hn) ⟨by rintro _ rfl;rfl,by rintro _ rfl;rfl⟩
   ·cases hb
  ·cases h
 ·rename_i e s;rw[dU] at h;refine hc _ _ h hy ?_;obtain⟨_,h2⟩:=Dg hx;rcases h2 with ⟨h3,_,rfl⟩|⟨h3,a,cap,ec,rfl,_⟩
  ·exact⟨_,_,_,rfl,by rw[h3];rfl⟩
  ·exact⟨_,_,_,rfl,by rw[h3];rfl⟩
 ·rw[dU] at h;exact hc _ _ h hy ⟨_,_,_,hx,rfl⟩
 ·rename_i f l;rw[dU] at h;obtain⟨c,rfl,_⟩:=hx;have e2:zy=.nilFunc:=hy;subst e2;obtain⟨d,hd,hk⟩:=HG h.1 om;cases d<;>try exact False.elim hk
  exact pB h.2 (Et (Xt _ hd _ _ _)) ⟨by rintro _ rfl;rfl,by rintro _ rfl;rfl⟩
 ·rw[dU] at h;have e1:zx=.nilFunc:=hx;have e2:zy=.nilFunc:=hy;subst e1 e2;obtain⟨d,hd,hk⟩:=HG h.1 om;cases d<;>try exact False.elim hk
  exact pB h.2 (Et (Xu _ hd)) ⟨by rintro _ rfl;rfl,by rintro _ rfl;rfl⟩
 ·rename_i a k n;rw[dU] at h;have e2:zy=.nilFunc:=hy;subst e2;have hr:tQ imm w a k n zx:=hx;have hg:(Int.ofNat (nN a 0))=((a.length:Nat):Int):=by rw[PY,zD];rfl
  obtain⟨d,hd,hk⟩:=HG h.1 om;cases d<;>try exact False.elim hk
  rcases MD a hr with ⟨rfl,e⟩|⟨f,c,rfl,e⟩
  ·have hb:lf.e k (Int.ofNat (nN a 0))=true:=by rw[hg,e];show(((a.length:Nat):Int)==_)=true;simp
   rw[hb] at h;exact pB h.2 (Et (Xu _ hd)) ⟨by rintro _ rfl;rfl,by rintro _ rfl;rfl⟩
  ·have hb:lf.e k (Int.ofNat (nN a 0))=false:=by rw[hg];show(k==_)=false;simp[e]
   rw[hb] at h;exact pB h.2 (Et (Xt _ hd _ _ _)) ⟨by rintro _ rfl;rfl,by rintro _ rfl;rfl⟩
 ·rw[dU] at h;exact hf _ _ h.1 h.2 hy ⟨none,hx,rfl⟩
 ·rw[dU,ze] at h;obtain⟨a,ha⟩:=P6 hx h.1.2;exact hf _ _ h.1.1 h.2 hy ⟨some a,ha,rfl⟩
 ·split at h
  ·rename_i e s he;rw[dU] at h;refine hc _ _ h hy ?_;rcases Xq hx he hl with ⟨h3,_,rfl⟩|⟨h3,a,cap,rfl⟩
   ·exact⟨_,_,_,rfl,by rw[h3];rfl⟩
   ·exact⟨_,_,_,rfl,by rw[h3];rfl⟩
  ·cases h
 ·cases h
end
end Ev