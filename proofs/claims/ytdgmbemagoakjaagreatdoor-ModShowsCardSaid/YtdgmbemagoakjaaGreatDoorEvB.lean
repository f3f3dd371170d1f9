/- The evaluator: code; what data is in memory; numbers, strings, types. -/
import Derived.Test.YtdgmbemagoakjaaGreatDoorEvA
import GoSem.Machine.Frame
import GoSem.Core.Sem
import Derived.Orders
import Derived.Laws.Strings
import Derived.Laws.StructEq
import Derived.Laws.Slices
set_option linter.defProp false
namespace Ev
open Go
def bit(t:Nat):Nat:=1<<<t
def WQ:Operand->Nat
 |.tmp t=>bit t
 |_=>0
def RZ:List Operand->Nat
 |[]=>0
 |x::r=>WQ x|||RZ r
def zkb(a b:Nat):Nat:=(a|||b) ^^^ b
def zih(o:Oper):Nat:=RZ o.op.operands.toList
def qxj:List Oper->Nat->Nat
 |[],m=>m
 |o::r,m=>let m':=qxj r m
  (match o.dst with|some d=>zkb m' (bit d)|none=>m')|||zih o
def look(i:Nat):List (Nat×Nat)->Nat
 |[]=>0
 |(a,b)::r=>bif Nat.beq a i then b else look i r
def ml{β:Type}(n:Nat)(k:Nat->β):β:=Nat.rec (k 0) (fun m _=>k (Nat.succ m)) n
inductive AC where
 |skip
 |region (id:Nat) (ops:Array Oper) (draw:Bool)
 |seq (a b:AC)
 |cond (c:Operand) (m:List Nat) (a b:AC)
 |block (id:Nat) (m:List Nat) (b:AC)
 |loop (m:List Nat) (b:AC)
 |exit (id:Nat)
 |goto (l:Nat)
 |ret
 |scope (b:AC)
 |jump (l:Nat) (m:List Nat) (p r:AC)
 |bad
def Ks(l:Nat):Code->Bool
 |.seq a b=>Ks l a||Ks l b
 |.cond _ a b=>Ks l a||Ks l b
 |.block _ b=>Ks l b
 |.loop b=>Ks l b
 |.scope b=>Ks l b
 |.goto j=>Nat.beq j l
 |_=>false
def WR(whole:Code):Code->Option Nat
 |.seq a b=>match WR whole a with
  |some l=>some l
  |none=>WR whole b
 |.label l=>bif Ks l whole then some l else none
 |_=>none
def vO(nt:Nat):List Oper->Bool
 |[]=>true
 |o::r=>(match o.dst with|some d=>Nat.blt d nt|none=>true)&&vO nt r
def yL{β:Type}(m:Nat):Nat->List Nat->(List Nat->β)->β
 |0,acc,k=>k acc
 |n+1,acc,k=>bif Nat.testBit m n then yL m n (n::acc) k else yL m n acc k
def ahead(l:Nat):Code->Option Code
 |.seq a b=>match ahead l a with
  |some c=>some c
  |none=>match ahead l b with
   |some c=>some (.seq a c)
   |none=>none
 |.label j=>bif Nat.beq j l then some .skip else none
 |_=>none
def mR{β:Type}(rt nt:Nat):Nat->(c:Code)->(ex gt:List (Nat×Nat))->Nat->(Nat->AC->β)->β
 |0,_,_,_,m,k=>k m .bad
 |_+1,.skip,_,_,m,k=>k m .skip
 |_+1,.label _,_,_,m,k=>k m .skip
 |_+1,.region id ops d,_,_,m,k=>bif vO nt ops.toList then ml (qxj ops.toList m) fun m'=>k m' (.region id ops d) else k m .bad
 |n+1,.seq a b,ex,gt,m,k=>mR rt nt n b ex gt m fun mb b'=>mR rt nt n a ex gt mb fun ma a'=>k ma (.seq a' b')
 |n+1,.cond c a b,ex,gt,m,k=>mR rt nt n a ex gt m fun ma a'=>mR rt nt n b ex gt m fun mb b'=>ml (WQ c|||ma|||mb) fun m'=>yL m nt [] fun ts=>k m' (.cond c ts a' b')
 |n+1,.block id b,ex,gt,m,k=>mR rt nt n b ((id,m)::ex) gt m fun mb b'=>yL m nt [] fun ts=>k mb (.block id ts b')
 |n+1,.loop b,ex,gt,_,k=>mR rt nt n b ex gt 0 fun m1 _=>mR rt nt n b ex gt m1 fun m2 b'=>yL m2 nt [] fun ts=>k m2 (.loop ts b')
 |_+1,.exit id,ex,_,_,k=>k (look id ex) (.exit id)
 |_+1,.goto l,_,gt,_,k=>k (look l gt) (.goto l)
 |_+1,.ret,_,_,_,k=>k rt .ret
 |n+1,.scope b,ex,gt,m,k=>match WR b b with
  |none=>mR rt nt n b ex gt m fun mb b'=>k mb (.scope b')
  |some l=>match ahead l b,findLabel b l with
   |some p,some r=>mR rt nt n r ex ((l,0)::gt) m fun m1 _=>mR rt nt n r ex ((l,m1)::gt) m fun m2 r'=>mR rt nt n p ex gt m2 fun mp p'=>yL m2 nt [] fun ts=>k mp (.jump l ts p' r')
   |_,_=>k m .bad
 |_+1,_,_,_,m,k=>k m .bad
def FA(id:Nat):AC->Bool
 |.seq a b=>FA id a||FA id b
 |.cond _ _ a b=>FA id a||FA id b
 |.block _ _ b=>FA id b
 |.loop _ b=>FA id b
 |.scope b=>FA id b
 |.jump _ _ p r=>FA id p||FA id r
 |.exit j=>Nat.beq j id
 |_=>false
def xz:AC->Bool
 |.seq a b=>xz a&&xz b
 |.cond _ _ a b=>xz a||xz b
 |.block id _ b=>xz b||FA id b
 |.loop _ _=>false
 |.scope b=>xz b
 |.jump _ _ p r=>xz p&&xz r
 |.exit _=>false
 |.ret=>false
 |.goto _=>false
 |.bad=>false
 |_=>true
def ways(id:Nat):AC->Nat
 |.seq a b=>ways id a+ways id b
 |.cond _ _ a b=>ways id a+ways id b
 |.block _ _ b=>ways id b
 |.loop _ b=>ways id b
 |.scope b=>ways id b
 |.jump _ _ p r=>ways id p+ways id r
 |.exit j=>bif Nat.beq j id then 1 else 0
 |_=>0
def yM:AC->Bool
 |.seq a b=>yM a||yM b
 |.cond _ _ a b=>yM a||yM b
 |.block _ _ b=>yM b
 |.loop _ b=>yM b
 |.scope b=>yM b
 |.jump _ _ p r=>yM p||yM r
 |.exit _=>true
 |.ret=>true
 |.goto _=>true
 |_=>false
inductive Ex where
 |normal|exit (id:Nat)|goto (l:Nat)|ret
section
variable (L:Lf) (C:Cx) (R:jU C.sigs)
def R0:List Nat->List V->Nat->V
 |t::ts,v::vs=>cy (R0 ts vs) t v
 |_,_=>fun _=>.dH
def LL(d:Nat):List Oper->Option (List Oper×Oper×List Oper)
 |[]=>none
 |o::r=>match o.op with
  |.pick (.tmp c) _ _=>bif Nat.beq c d then some ([],o,r) else(LL d r).map fun p=>(o::p.1,p.2.1,p.2.2)
  |_=>(LL d r).map fun p=>(o::p.1,p.2.1,p.2.2)
def bK(st:St)(d:Option Nat)(v:V):St:=match d with
 |some d=>{st with env:=cy st.env d v}
 |none=>st
def B1(st:St):List Oper->St
 |[]=>st
 |o::r=>B1 (bK st o.dst .dH) r
def kU(rg i:Nat):Nat:=16*(1+256*rg+i)
mutual
def pB{β:Type}:V->(V->β)->β
 |.d t x,k=>k (.d t x)
 |.aY id ver,k=>ml id fun id=>ml ver fun ver=>k (.aY id ver)
 |.pre id ver n c,k=>ml id fun id=>ml ver fun ver=>k (.pre id ver n c)
 |.ptr id off,k=>ml id fun id=>ml off fun off=>k (.ptr id off)
 |.fn f l,k=>ml f fun f=>Kt l fun l=>k (.fn f l)
 |.mc l,k=>Kt l fun l=>k (.mc l)
 |.agg l,k=>Kt l fun l=>k (.agg l)
 |.cX id b,k=>ml id fun id=>k (.cX id b)
 |.iM id ver lo,k=>ml id fun id=>ml ver fun ver=>k (.iM id ver lo)
 |v,k=>k v
def Kt{β:Type}:List V->(List V->β)->β
 |[],k=>k []
 |v::l,k=>pB v fun v=>Kt l fun l=>k (v::l)
end
def R1{β:Type}:Obj->(Obj->β)->β
 |.box cs,k=>Kt cs fun cs=>k (.box cs)
 |.vec t ver fr s,k=>ml ver fun ver=>k (.vec t ver fr s)
 |o,k=>k o
def WS{β:Type}(o:Nat->Obj):List (Nat×Obj)->((Nat->Obj)->β)->β
 |[],k=>k o
 |(i,x)::r,k=>ml i fun i=>R1 x fun x=>WS (cy o i x) r k
def vP{β:Type}(fr:Nat)(o:Nat->Obj):List (Nat×Obj)->((Nat->Obj)->Option β)->Option β
 |[],k=>k o
 |(i,x)::r,k=>ml i fun i=>bif Nat.ble fr i&&Nat.blt i (fr+16) then
   (match o i with
   |.none=>R1 x fun x=>vP fr (cy o i x) r k
   |_=>none)
  else R1 x fun x=>vP fr (cy o i x) r k
def xA{β:Type}(sk ts:List Nat)(s:Shape)(c:ai s.aS)(k:St->β):β:=
 let p:=fill (dx sk) (fun _=>0) s c
 Kt p.1 fun vs=>WS (fun _=>Obj.none) p.2 fun o=>k ⟨R0 ts vs,o⟩
mutual
def oF{β:Type}:Sh->(Sh->β)->β
 |.d t,k=>k (.d t)
 |.ref t,k=>k (.ref t)
 |.aY id,k=>ml id fun id=>k (.aY id)
 |.ptr id off,k=>ml id fun id=>ml off fun off=>k (.ptr id off)
 |.fn f l,k=>ml f fun f=>Ku l fun l=>k (.fn f l)
 |.mc l,k=>Ku l fun l=>k (.mc l)
 |.agg l,k=>Ku l fun l=>k (.agg l)
 |.it id,k=>ml id fun id=>k (.it id)
 |.cX id,k=>ml id fun id=>k (.cX id)
 |.iM id,k=>ml id fun id=>k (.iM id)
 |s,k=>k s
def Ku{β:Type}:List Sh->(List Sh->β)->β
 |[],k=>k []
 |s::l,k=>oF s fun s=>Ku l fun l=>k (s::l)
end
def zfk{β:Type}:fS->(fS->β)->β
 |.box l,k=>Ku l fun l=>k (.box l)
 |s,k=>k s
def WT{β:Type}:List fS->(List fS->β)->β
 |[],k=>k []
 |s::l,k=>zfk s fun s=>WT l fun l=>k (s::l)
def K(γ:Type)(α:Type):Type 1:=(δ:Type)->(γ->δ)->α->Option δ
def zii:(δ:Type)->(Bool->δ)->V->Option δ
 |_,w,.d .bool x=>some (w x)
 |_,_,_=>none
def B2:Option (Nat->Obj)->List (Nat×Obj)->Bool
 |none,_=>true
 |some _,[]=>true
 |some o,(i,_)::r=>(match o i with|.none=>true|_=>false)&&B2 (some o) r
def qs5(f:Nat):List lr->Bool
 |[]=>false
 |s::r=>bif Nat.beq s.f f then(match s.bN with|[]=>qs5 f r|_=>true) else qs5 f r
def zfl:Op->Bool
 |.call c=>match c.callee with
  |.value (.func f)=>qs5 f C.sigs
  |_=>false
 |_=>false
def qzt(d:Nat)(l:List Oper):Bool:=match LL d l with
 |some (g,_,_)=>g.any fun o=>zfl C o.op
 |none=>false
def ot{γ δ:Type}(rg:Nat)(all:List Oper)(g0:Option (Nat->Obj)):Nat->(γ->δ)->Nat->List Oper->St->((γ->δ)->St->Option δ)->Option δ
 |0,_,_,_,_,_=>none
 |_+1,w,_,[],st,k=>k w st
 |n+1,w,i,o::r,st,k=>
  let run:=match cZ L C R st.env st.obj (kU rg i) o.type o.op with
   |.fail=>none
   |.mW v u=>bif B2 g0 u then pB v fun v=>vP (kU rg i) st.obj u fun o'=>ot rg all g0 n w (i+1) r (bK {st with obj:=o'} o.dst v) k else none
   |.dyn _ x out=>L.b x fun y=>bif B2 g0 (out y).2 then pB (out y).1 fun v=>vP (kU rg i) st.obj (out y).2 fun o'=>ot rg all g0 n w (i+1) r (bK {st with obj:=o'} o.dst v) k else none
  match o.guard with
  |none=>run
  |some (j,want)=>match all[j]? with
   |some oj=>match oj.dst with
    |some dj=>match st.env dj with
     |.lb b=>bif (bif want then b else !b) then run else ot rg all g0 n w (i+1) r (bK st o.dst .undef) k
     |.undef=>ot rg all g0 n w (i+1) r (bK st o.dst .undef) k
     |.d .bool x=>match g0 with
      |some g=>L.c x (ot rg all (some g) n w i (o::r) (bK st (some dj) (.lb true)) k) (ot rg all (some g) n w i (o::r) (bK st (some dj) (.lb false)) k)
      |none=>bif qzt C dj (o::r) then L.c x (ot rg all none n w i (o::r) (bK st (some dj) (.lb true)) k) (ot rg all none n w i (o::r) (bK st (some dj) (.lb false)) k) else match LL dj (o::r) with
       |some (g,p,r')=>match p.dst with
        |some pd=>
         let br (b:Bool):Option Bool:=ot (γ:=Bool) (δ:=Bool) rg all (some st.obj) n (fun x=>x) i (g++[p]) (bK st (some dj) (.lb b)) (fun w' bV=>zii _ w' (dO (bV.env pd)))
         L.b (L.c x (br true) (br false)) fun y=>ot rg all none n w (i+g.length+1) r' (bK (B1 st g) (some pd) (.d .bool y)) k
        |none=>none
       |none=>none
     |_=>none
    |none=>none
   |none=>none
mutual
def fi:V->List Nat
 |.aY id _=>[id]
 |.pre id _ _ _=>[id]
 |.ptr id _=>[id]
 |.lh id _ _ _=>[id]
 |.it id=>[id]
 |.cX id _=>[id]
 |.iM id _ _=>[id]
 |.fn _ l=>iP l
 |.mc l=>iP l
 |.agg l=>iP l
 |_=>[]
def iP:List V->List Nat
 |[]=>[]
 |v::l=>fi v++iP l
end
def B3:Obj->List Nat
 |.box cs=>iP cs
 |_=>[]
def WU(o:Nat->Obj):Nat->List Nat->List Nat
 |0,l=>l
 |n+1,l=>l++WU o n (l.flatMap fun id=>B3 (o id))
structure Tr where
 i:Nat
 op:Oper
 rd:List Nat
 wr:List Nat
def bW:List (Nat×Obj)->List Nat
 |[]=>[]
 |p::r=>p.1::bW r
def Gh(a b:List Nat):Bool:=a.all fun x=>!bQ x b
def gV:List Oper->List Nat->List Nat
 |[],acc=>acc
 |o::r,acc=>gV r (acc++[o.after.toList.foldl (fun s e=>bif Region.binds .any e then s|||bit e.on|||acc.getD e.on 0 else s) 0])
def kV:List Operand->List Nat
 |[]=>[]
 |.tmp t::r=>t::kV r
 |_::r=>kV r
def QD(all:List Oper)(o:Oper):List Nat:=kV o.op.operands.toList++(match o.guard with
 |some (g,_)=>(match all[g]? with
  |some og=>(match og.dst with|some d=>[d]|none=>[])
  |none=>[])
 |none=>[])
def z5t(d:Option Nat)(l:List Nat):Bool:=match d with
 |some d=>Fu d l
 |none=>true
def aab(d:Option Nat):List Nat:=match d with
 |some d=>[d]
 |none=>[]
def WV(all:List Oper)(a b:Tr):Bool:=z5t a.op.dst (QD all b.op++aab b.op.dst)&&z5t b.op.dst (QD all a.op)&&Gh a.wr (b.rd++b.wr)&&Gh b.wr a.rd
def Gi(yN:List Nat)(all:List Oper)(a b:Tr):Bool:=Nat.testBit (yN.getD b.i 0) a.i||WV all a b
def WW(yN:List Nat)(all:List Oper)(b:Tr):List Tr->Bool
 |[]=>true
 |a::r=>Gi yN all a b&&WW yN all b r
def rW(yN:List Nat)(all:List Oper):List Tr->Bool
 |[]=>true
 |b::r=>WW yN all b r&&rW yN all r
def Gj:Op->Bool
 |.move _=>true
 |.assign _=>true
 |.nilCheck _=>true
 |.fieldAddr _ _ _=>true
 |_=>false
def rI(st:St)(o:Oper):List Nat:=match o.op with
 |.move _=>[]
 |.assign _=>[]
 |.nilCheck x=>fi (cG C st.env x)
 |.fieldAddr _ x _=>fi (cG C st.env x)
 |_=>WU st.obj 4 (iP (o.op.operands.toList.map (cG C st.env)))
def WX(l m:List Nat):Bool:=match l with
 |[]=>true
 |x::r=>bQ x m&&WX r m
def B4(o:Nat->Obj)(F:List Nat):List Nat->Bool
 |[]=>true
 |id::r=>WX (B3 (o id)) F&&B4 o F r
def vQ(t:Nat):List (Nat×Bool)->Option Bool
 |[]=>none
 |(a,b)::r=>bif Nat.beq a t then some b else vQ t r
def R2(d:Option Nat)(kn:List (Nat×Bool)):Bool:=match d with
 |some d=>(match vQ d kn with|some _=>false|none=>true)
 |none=>true
def gB(env:Nat->V)(kn:List (Nat×Bool))(ts:List Nat):Nat->V:=fun t=>bif bQ t ts then(match vQ t kn with|some b=>.lb b|none=>env t) else .dH
def dR(o:Nat->Obj)(F:List Nat):Nat->Obj:=fun id=>bif bQ id F then o id else .none
def QE(i:Nat):List Edge->Bool
 |[]=>true
 |e::r=>(!(Region.binds .any e)||Nat.blt e.on i)&&QE i r
def LM(F:List Nat)(fr:Nat):List Nat->Bool
 |[]=>true
 |id::r=>(bQ id F||(Nat.ble fr id&&Nat.blt id (fr+16)))&&LM F fr r
def Bz(rg:Nat):List Tr->Bool
 |[]=>true
 |t::r=>QE t.i t.op.after.toList&&LM t.rd (kU rg t.i) t.wr&&Bz rg r
def LN(o:Oper)(kn:List (Nat×Bool)):List (Nat×Bool):=match o.dst with
 |none=>kn
 |some d=>match o.op with
  |.move (.tmp t)=>(match vQ t kn with
   |some y=>(d,y)::kn
   |none=>kn)
  |.pick (.tmp c) x y=>(match vQ c kn with
   |some q=>(match(bif q then x else y) with
    |.const (.bool z)=>(d,z)::kn
    |_=>kn)
   |none=>kn)
  |_=>kn
def vR{γ δ:Type}(rg:Nat)(all:List Oper):Nat->(γ->δ)->Nat->List Oper->St->List (Nat×Bool)->List Tr->((γ->δ)->St->Option δ)->Option δ
 |0,_,_,_,_,_,_,_=>none
 |_+1,w,_,[],st,_,tr,k=>bif rW (gV all []) all tr&&Bz rg tr then k w st else none
 |n+1,w,i,o::r,st,kn,tr,k=>
  let F:=rI C st o
  bif R2 o.dst kn then
  let run:=bif Gj o.op||B4 st.obj F F then(match cZ L C R (gB st.env kn (kV o.op.operands.toList)) (dR st.obj F) (kU rg i) o.type o.op with
   |.fail=>none
   |.mW v u=>pB v fun v=>vP (kU rg i) st.obj u fun o'=>vR rg all n w (i+1) r (bK {st with obj:=o'} o.dst v) (LN o kn) (⟨i,o,F,bW u⟩::tr) k
   |.dyn _ x out=>L.b x fun y=>pB (out y).1 fun v=>vP (kU rg i) st.obj (out y).2 fun o'=>vR rg all n w (i+1) r (bK {st with obj:=o'} o.dst v) (LN o kn) (⟨i,o,F,bW (out y).2⟩::tr) k) else none
  match o.guard with
  |none=>run
  |some (j,want)=>match all[j]? with
   |some oj=>match oj.dst with
    |some dj=>match vQ dj kn with
     |some b=>bif (bif want then b else !b) then run else vR rg all n w (i+1) r (bK st o.dst .undef) kn (⟨i,o,[],[]⟩::tr) k
     |none=>match st.env dj with
      |.undef=>vR rg all n w (i+1) r (bK st o.dst .undef) kn (⟨i,o,[],[]⟩::tr) k
      |.d .bool x=>L.c x (vR rg all n w i (o::r) st ((dj,true)::kn) tr k) (vR rg all n w i (o::r) st ((dj,false)::kn) tr k)
      |_=>none
    |none=>none
   |none=>none
  else none
end
section
variable (L:Lf) (C:Cx) (R:jU C.sigs)
def ly{δ:Type}(sk:List Nat)(s:Shape)(w:ai s.aS->δ)(aT:List (Nat×Nat))(o:Nat->Obj)(vs:List V):Option δ:=
 match LJ L sk aT o s vs with
 |some p=>some (w p.2)
 |none=>none
def qq:AC->List Oper
 |.region _ ops _=>ops.toList
 |.seq a b=>qq a++qq b
 |.cond _ _ a b=>qq a++qq b
 |.block _ _ b=>qq b
 |.loop _ b=>qq b
 |.scope b=>qq b
 |.jump _ _ p r=>qq p++qq r
 |_=>[]
def zkc(t:Nat):Option Nat->Bool
 |some d=>Nat.beq d t
 |none=>false
def zfm(l:List Nat):Operand->Bool
 |.tmp t=>bQ t l
 |_=>false
def R3(t:Nat):List Oper->List Nat
 |[]=>[t]
 |o::r=>match o.op,o.dst with
  |.move x,some d=>bif zfm [t] x then d::R3 t r else R3 t r
  |_,_=>R3 t r
def zfn:Nat->List Sh->Bool
 |0,.d _::_=>true
 |n+1,_::r=>zfn n r
 |_,_=>false
def qzv(f i:Nat):List lr->Bool
 |[]=>false
 |s::r=>(Nat.beq s.f f&&mX s.outs&&zfn i s.ins.roots)||qzv f i r
def qzw(al:List Nat)(f:Nat):Nat->List Operand->Bool
 |_,[]=>false
 |i,x::r=>(zfm al x&&qzv f i C.sigs)||qzw al f (i+1) r
def zfo(al:List Nat)(o:Oper):Bool:=match o.op with
 |.call c=>match c.callee with
  |.value (.func f)=>qzw C al f 0 c.args.toList
  |_=>false
 |_=>false
def zkd(ops:List Oper)(t:Nat):Bool:=!(ops.any fun o=>zkc t o.dst)&&ops.any (zfo C (R3 t ops))
def qxl(f i:Nat):List lr->Bool
 |[]=>false
 |s::r=>(Nat.beq s.f f&&zfn i s.outs.roots)||qxl f i r
def WY(t:Nat):List (Nat×Nat)->Option Nat
 |[]=>none
 |(a,f)::r=>bif Nat.beq a t then some f else WY t r
def aac:Option Ty->Bool
 |some (.sl _)=>true
 |_=>false
def FB:List Oper->List (Nat×Nat)->List Nat->List Nat
 |[],_,dt=>dt
 |o::r,tt,dt=>match o.dst with
  |none=>FB r tt dt
  |some d=>match o.op with
   |.call c=>match c.callee with
    |.value (.func f)=>FB r ((d,f)::tt) (bif qxl f 0 C.sigs then d::dt else dt)
    |_=>FB r tt dt
   |.move (.tmp x)=>FB r (match WY x tt with|some f=>(d,f)::tt|none=>tt) (bif bQ x dt then d::dt else dt)
   |.assign (.tmp x)=>FB r tt (bif bQ x dt then d::dt else dt)
   |.indexAddr .. =>FB r ((d,1000000000)::tt) dt
   |.load t (.tmp x)=>FB r tt (match WY x tt with|some f=>bif Nat.beq f 1000000000&&aac (C.ty t) then d::dt else dt|none=>dt)
   |.extract (.tmp x) i=>FB r tt (match WY x tt with|some f=>bif qxl f i C.sigs then d::dt else dt|none=>dt)
   |_=>FB r tt dt
def WZ(sk:List Nat):List Sh->List V->List Nat
 |.d (.sl _)::cs,.aY id _::vs=>bif Fu id sk then id::WZ sk cs vs else WZ sk cs vs
 |_::cs,_::vs=>WZ sk cs vs
 |_,_=>[]
def ze6(sk:List Nat)(s:Shape)(vs:List V):Nat->List Sh->List Nat
 |0,.ptr j 0::_=>match s.aw[j]? with
  |some (.box cs)=>WZ sk cs vs
  |_=>[]
 |n+1,_::r=>ze6 sk s vs n r
 |_,_=>[]
def ze7(sk:List Nat)(f i:Nat)(vs:List V):List lr->List Nat
 |[]=>[]
 |s::r=>bif Nat.beq s.f f then ze6 sk s.ins vs i s.ins.roots else ze7 sk f i vs r
def ze8(sk al:List Nat)(f:Nat)(vs:List V):Nat->List Operand->List Nat
 |_,[]=>[]
 |i,x::r=>bif zfm al x then ze7 sk f i vs C.sigs else ze8 sk al f vs (i+1) r
def W0(sk al:List Nat)(vs:List V):List Oper->List Nat
 |[]=>[]
 |o::r=>match o.op with
  |.call c=>match c.callee with
   |.value (.func f)=>ze8 C sk al f vs 0 c.args.toList++W0 sk al vs r
   |_=>W0 sk al vs r
  |_=>W0 sk al vs r
def QF(sk:List Nat)(ops:List Oper)(dt:List Nat)(env:Nat->V)(o:Nat->Obj):List Nat->List Nat
 |[]=>[]
 |t::r=>match env t with
  |.aY id _=>bif (bQ t dt||zkd C ops t)&&Fu id sk then id::QF sk ops dt env o r else QF sk ops dt env o r
  |.ptr id 0=>match o id with
   |.box vs=>W0 C sk (R3 t ops) vs ops++QF sk ops dt env o r
   |_=>QF sk ops dt env o r
  |_=>QF sk ops dt env o r
def QG(sk:List Nat)(st:St)(ts:List Nat)(ops:List Oper):Shape:=zfb sk (aq st.obj (eG st.obj (QF C sk ops (FB C ops [] []) st.env st.obj ts))) (ts.map fun t=>dO (st.env t))
def QH{β:Type}(sk:List Nat)(st:St)(ts:List Nat)(ops:List Oper)(k:Shape->β):β:=
 let s:=QG C sk st ts ops
 Ku s.roots fun r=>WT s.aw fun o=>k ⟨r,o⟩
def ev(sk:List Nat):(c:AC)->St->(γ δ:Type)->(γ->δ)->((δ:Type)->(γ->δ)->Ex->St->Option δ)->Option δ
 |.skip,st,_,δ,w,k=>k δ w .normal st
 |.region rg ops true,st,_,δ,w,k=>vR L C R rg ops.toList (2*ops.toList.length+1) w 0 ops.toList st [] [] (fun w st=>k δ w .normal st)
 |.region rg ops false,st,_,δ,w,k=>ot L C R rg ops.toList none (2*ops.toList.length+2) w 0 ops.toList st (fun w st=>k δ w .normal st)
 |.seq a b,st,γ,δ,w,k=>ev sk a st γ δ w fun δ w e bV=>match e with
  |.normal=>ev sk b bV γ δ w k
  |e=>k δ w e bV
 |.cond c ts a b,st,γ,δ,w,k=>match cG C st.env c with
  |.d .bool x=>bif xz a&&xz b then
    QH C sk st ts (qq a++qq b) fun s=>
    bif yM a||yM b then
     let k':(da:Type)->(ai s.aS⊕δ->da)->Ex->St->Option da:=fun da w' e bV=>match e with
      |.normal=>ly L sk s (fun c=>w' (.inl c)) (vL 0 sk) bV.obj (ts.map fun t=>dO (bV.env t))
      |e=>k da (fun g=>w' (.inr (w g))) e bV
     L.b (L.c x (ev sk a st (ai s.aS⊕δ) (ai s.aS⊕δ) (fun x=>x) k') (ev sk b st (ai s.aS⊕δ) (ai s.aS⊕δ) (fun x=>x) k'))
      (L.cH fun c=>xA sk ts s c fun st=>k δ w .normal st)
    else
     let k':(da:Type)->(ai s.aS->da)->Ex->St->Option da:=fun _ w' e bV=>match e with
      |.normal=>ly L sk s w' (vL 0 sk) bV.obj (ts.map fun t=>dO (bV.env t))
      |_=>none
     L.b (L.c x (ev sk a st (ai s.aS) (ai s.aS) (fun x=>x) k') (ev sk b st (ai s.aS) (ai s.aS) (fun x=>x) k'))
      (fun c=>xA sk ts s c fun st=>k δ w .normal st)
   else L.c x (ev sk a st γ δ w k) (ev sk b st γ δ w k)
  |_=>none
 |.block id ts b,st,γ,δ,w,k=>bif Nat.ble 2 (ways id b+(bif xz b then 1 else 0)) then
    QH C sk st ts (qq b) fun s=>
    let k':(da:Type)->(ai s.aS⊕δ->da)->Ex->St->Option da:=fun da w' e bV=>match e with
     |.normal=>ly L sk s (fun c=>w' (.inl c)) (vL 0 sk) bV.obj (ts.map fun t=>dO (bV.env t))
     |.exit j=>bif Nat.beq j id then ly L sk s (fun c=>w' (.inl c)) (vL 0 sk) bV.obj (ts.map fun t=>dO (bV.env t)) else k da (fun g=>w' (.inr (w g))) (.exit j) bV
     |e=>k da (fun g=>w' (.inr (w g))) e bV
    L.b (ev sk b st (ai s.aS⊕δ) (ai s.aS⊕δ) (fun x=>x) k') (L.cH fun c=>xA sk ts s c fun st=>k δ w .normal st)
   else ev sk b st γ δ w fun δ w e bV=>match e with
    |.exit j=>bif Nat.beq j id then k δ w .normal bV else k δ w (.exit j) bV
    |e=>k δ w e bV
 |.loop ts b,st,_,δ,w,k=>
   QH C sk st ts (qq b) fun s=>
   match LJ L sk (vL 0 sk) st.obj s (ts.map fun t=>dO (st.env t)) with
   |some p=>L.o (fun c=>xA sk ts s c fun st=>ev sk b st (ai s.aS⊕δ) (ai s.aS⊕δ) (fun x=>x) fun da w' e bV=>match e with
     |.normal=>ly L sk s (fun c=>w' (.inl c)) (vL 0 sk) bV.obj (ts.map fun t=>dO (bV.env t))
     |e=>k da (fun g=>w' (.inr (w g))) e bV) p.2
   |none=>none
 |.jump l ts p r,st,γ,δ,w,k=>ev sk p st γ δ w fun δ w e st=>match e with
  |.normal=>
   QH C sk st ts (qq r) fun s=>
   match LJ L sk (vL 0 sk) st.obj s (ts.map fun t=>dO (st.env t)) with
   |some p=>L.o (fun c=>xA sk ts s c fun st=>ev sk r st (ai s.aS⊕δ) (ai s.aS⊕δ) (fun x=>x) fun da w' e bV=>match e with
     |.goto l'=>bif Nat.beq l' l then ly L sk s (fun c=>w' (.inl c)) (vL 0 sk) bV.obj (ts.map fun t=>dO (bV.env t)) else none
     |e=>k da (fun g=>w' (.inr (w g))) e bV) p.2
   |none=>none
  |.goto _=>none
  |e=>k δ w e st
 |.exit id,st,_,δ,w,k=>k δ w (.exit id) st
 |.goto l,st,_,δ,w,k=>k δ w (.goto l) st
 |.ret,st,_,δ,w,k=>k δ w .ret st
 |.scope b,st,γ,δ,w,k=>ev sk b st γ δ w fun δ w e st=>match e with
  |.goto _=>none
  |e=>k δ w e st
 |.bad,_,_,_,_,_=>none
def Gk(env:Nat->V):Nat->List V->Nat->V
 |_,[]=>env
 |i,v::r=>Gk (cy env i v) (i+1) r
def Gl:List ResultVar->Nat
 |[]=>0
 |.tmp t::r=>bit t|||Gl r
 |.cell t _::r=>bit t|||Gl r
def yO(st:St):List ResultVar->Option (List V)
 |[]=>some []
 |.tmp t::r=>match yO st r with
  |some l=>some (dO (st.env t)::l)
  |none=>none
 |.cell t ty::r=>match WC L C st.obj ty (st.env t) with
  |.mW v _=>match yO st r with
   |some l=>some (v::l)
   |none=>none
  |_=>none
def QI{δ:Type}(sk:List Nat)(s:Shape)(w:ai s.aS->δ)(st:St)(rs:List ResultVar):Option δ:=
 match yO L C st rs with
 |some vs=>ly L sk s w (qx8 sk) st.obj vs
 |none=>none
def QJ(i:Nat)(x:ai (aQ C.sigs i).ins.aS):Option (ai (aQ C.sigs i).outs.aS):=
 let sg:=aQ C.sigs i
 match C.P.funcs.toList[sg.f]? with
 |none=>none
 |some fn=>match fn.body with
  |none=>none
  |some b=>
   let p:=fill id (fun _=>0) sg.ins x;let k:=sg.ins.aw.length
   bif Qw k (aQ C.sigs i).bN&&Nat.ble p.1.length fn.ntmps then mR (Gl fn.results.toList) fn.ntmps 1000 b [] [] (Gl fn.results.toList) fun _ ac=>ev L C R (aQ C.sigs i).bN ac ⟨Gk (fun _=>.undef) 0 p.1,aq (fun _=>Obj.none) p.2⟩
    (ai (aQ C.sigs i).outs.aS) (ai (aQ C.sigs i).outs.aS) (fun x=>x) fun _ w e st=>match e with
    |.normal=>QI L C (aQ C.sigs i).bN (aQ C.sigs i).outs w st fn.results.toList
    |.ret=>QI L C (aQ C.sigs i).bN (aQ C.sigs i).outs w st fn.results.toList
    |_=>none else none
end
def cv:Nat:=9223372036854775807
def gE(k:IntKind)(n:Int):Prop:=k.min<=n/\n<=k.max
def lV(w:World)(a:Addr)(cs:List Value):Prop:=∀j (h:j<cs.length),w.cell? ⟨a.block,a.off+j,none⟩=some cs[j]
def bR{α:Type}(f:α->List Value->Prop):List α->List Value->Prop
 |[],cs=>cs=[]
 |x::l,cs=>∃c d,cs=c++d/\f x c/\bR f l d
def aE(imm:Nat->Prop)(w:World):(t:Ty)->den t->List Value->Prop
 |.unit,_,cs=>cs=[]
 |.pair a b,x,cs=>∃c d,cs=c++d/\aE imm w a x.1 c/\aE imm w b x.2 d
 |.st p,x,cs=>aE imm w p x cs
 |.arr n e,l,cs=>List.length l=n/\bR (aE imm w e) l cs
 |.int k,n,cs=>cs=[.int k n]/\gE k n
 |.bool,b,cs=>cs=[.bool b]
 |.fG,b,cs=>cs=[.float .f64 b]
 |.dG,b,cs=>cs=[.complex .f64 b.1 b.2]
 |.str,l,cs=>∃s:ByteArray,cs=[.string s]/\s.data.toList.map (fun b=>(b.toNat:Int))=l/\s.size<=cv
 |.sl e,s,cs=>∃v,cs=[v]/\s.l.length<=cv/\((s.nil=true/\s.l=[]/\v=.slice none 0 0)\/
   (s.nil=false/\∃a cap ec,v=.slice (some a) s.l.length cap/\(cap≠0->a.spot=none)/\(s.l≠[]->imm a.block)/\bR (aE imm w e) s.l ec/\lV w a ec/\s.l.length<=cap))
def cY(imm:Nat->Prop)(w:World)(t:Ty)(x:den t)(v:Value):Prop:=
 match t,x with
 |.st p,x=>∃cs:Array Value,v=.agg cs/\aE imm w p x cs.toList
 |.arr n e,x=>∃cs:Array Value,v=.agg cs/\aE imm w (.arr n e) x cs.toList
 |.unit,_=>False
 |.pair _ _,_=>False
 |t,x=>aE imm w t x [v]
def rJ{α:Type}{f g:α->List Value->Prop}:∀{l:List α} {cs:List Value},(∀x c,f x c->g x c)->bR f l cs->bR g l cs
 |[],_,_,h=>h
 |_::_,_,hf,⟨c,d,e,h1,h2⟩=>⟨c,d,e,hf _ _ h1,rJ hf h2⟩
def qnj{w w':World}{a:Addr}(h:w'.heap[a.block]?=w.heap[a.block]?):w'.cell? a=w.cell? a:=by unfold World.cell?;rw[h]
def QK{w w':World}{a:Addr}{cs:List Value}(h:w'.heap[a.block]?=w.heap[a.block]?)(hc:lV w a cs):lV w' a cs:=by intro j hj;rw[<-hc j hj];exact qnj h
def z2s{α:Type}{f:α->List Value->Prop}{l:List α}{w w':World}{a:Addr}{cs:List Value}(hr:bR f l cs)(h:l≠[]->w'.heap[a.block]?=w.heap[a.block]?)(hc:lV w a cs):lV w' a cs:=by
 cases l with
 |nil=>intro j hj;rw[show cs=[] from hr] at hj;cases hj
 |cons x l=>exact QK (h (List.cons_ne_nil x l)) hc
def jH{imm imm':Nat->Prop}{w w':World}(hi:∀b,imm b->imm' b)(hw:∀b,imm b->w'.heap[b]?=w.heap[b]?):∀(t:Ty) (x:den t) (cs:List Value),aE imm w t x cs->aE imm' w' t x cs
 |.unit,_,_,h=>h
 |.pair a b,x,_,⟨c,d,e,h1,h2⟩=>⟨c,d,e,jH hi hw a x.1 c h1,jH hi hw b x.2 d h2⟩
 |.st p,x,cs,h=>jH hi hw p x cs h
 |.arr _ e,_,_,⟨h1,h2⟩=>⟨h1,rJ (jH hi hw e) h2⟩
 |.int _,_,_,h=>h
 |.bool,_,_,h=>h
 |.fG,_,_,h=>h
 |.dG,_,_,h=>h
 |.str,_,_,h=>h
 |.sl e,_,_,⟨v,e1,hl,h⟩=>⟨v,e1,hl,h.imp id fun⟨hn,a,cap,ec,e2,hs,hb,hr,hc,he⟩=>⟨hn,a,cap,ec,e2,hs,fun hf=>hi _ (hb hf),rJ (jH hi hw e) hr,z2s hr (fun hf=>hw _ (hb hf)) hc,he⟩⟩
def iQ{imm:Nat->Prop}{w:World}:∀(t:Ty) (x:den t) (cs:List Value),aE imm w t x cs->cs.length=aM t
 |.unit,_,_,h=>by simp[aE] at h;simp[h,aM]
 |.pair a b,x,_,⟨c,d,e,h1,h2⟩=>by subst e;simp[aM,iQ a x.1 c h1,iQ b x.2 d h2]
 |.st p,x,cs,h=>by simpa[aM] using iQ p x cs h
 |.arr n e,l,cs,⟨h1,h2⟩=>by
   have key:∀(l:List (den e)) (cs:List Value),bR (aE imm w e) l cs->cs.length=l.length*aM e:=by
    intro l
    induction l with
    |nil=>intro cs h;simp[bR] at h;simp[h]
    |cons y l ih=>intro cs ⟨c,d,e1,h3,h4⟩;subst e1;simp[iQ e y c h3,ih d h4,Nat.succ_mul,Nat.add_comm]
   rw[key l cs h2,h1];simp[aM]
 |.int _,_,_,h=>by simp[aE] at h;simp[h.1,aM]
 |.bool,_,_,h=>by simp[aE] at h;simp[h,aM]
 |.fG,_,_,h=>by simp[aE] at h;simp[h,aM]
 |.dG,_,_,h=>by simp[aE] at h;simp[h,aM]
 |.str,_,_,⟨s,h,_⟩=>by simp[h,aM]
 |.sl e,_,_,⟨v,h,_⟩=>by simp[h,aM]
def qu{imm:Nat->Prop}{w:World}{e:Ty}:∀{l:List (den e)} {cs:List Value},bR (aE imm w e) l cs->cs.length=l.length*aM e
 |[],cs,h=>by simp[bR] at h;simp[h]
 |y::l,cs,⟨c,d,e1,h3,h4⟩=>by subst e1;simp[iQ e y c h3,qu h4,Nat.succ_mul,Nat.add_comm]
def QL{α:Type}{f:α->List Value->Prop}:∀{l m:List α} {cs ds:List Value},bR f l cs->bR f m ds->bR f (l++m) (cs++ds)
 |[],_,_,_,h,h'=>by simp[bR] at h;simpa[h] using h'
 |_::_,_,_,_,⟨c,d,e,h1,h2⟩,h'=>⟨c,d++_,by rw[e,zm],h1,QL h2 h'⟩
def yP{imm:Nat->Prop}{w:World}{e:Ty}:∀{l:List (den e)} {cs:List Value} (n:Nat),n<=l.length->bR (aE imm w e) l cs->bR (aE imm w e) (l.take n) (cs.take (n*aM e))/\bR (aE imm w e) (l.drop n) (cs.drop (n*aM e))
 |l,cs,0,_,h=>by simpa[bR] using h
 |[],_,n+1,hn,_=>by simp at hn
 |y::l,cs,n+1,hn,⟨c,d,e1,h3,h4⟩=>by
  subst e1;have hc:=iQ e y c h3;obtain⟨h5,h6⟩:=yP n (by simpa using hn) h4;have e2:(n+1)*aM e=c.length+n*aM e:=by rw[hc,Nat.succ_mul,Nat.add_comm]
  rw[e2,List.take_length_add_append,List.drop_length_add_append];exact⟨⟨c,_,rfl,h3,h5⟩,by simpa using h6⟩
def R4{imm:Nat->Prop}{w:World}{e:Ty}{l:List (den e)}{cs:List Value}(h:bR (aE imm w e) l cs)(i:Nat)(hi:i<l.length):aE imm w e l[i] ((cs.drop (i*aM e)).take (aM e)):=by
 obtain⟨_,h2⟩:=yP i (Nat.le_of_lt hi) h;rw[List.drop_eq_getElem_cons hi] at h2;obtain⟨c,d,e1,h3,_⟩:=h2;rw[e1,<-iQ e _ c h3,List.take_left']
 ·exact h3
 ·rfl
def fW:(p:Ty)->Nat->Nat
 |.pair _ _,0=>0
 |.pair a b,n+1=>aM a+fW b n
 |_,_=>0
def tyF:(p:Ty)->Nat->Ty
 |.pair a _,0=>a
 |.pair _ b,n+1=>tyF b n
 |t,_=>t
def j9:List Nat->Ty->Nat
 |[],_=>0
 |f::r,.st p=>fW p f+j9 r (tyF p f)
 |_::_,_=>0
def live:Obj->Bool
 |.box _=>true
 |.vec _ _ fr s=>!s.nil&&!fr
 |.iter _ _=>true
 |.dead=>false
 |.none=>false
def z5v:Obj->Addr->Bool
 |.vec _ _ _ _,a=>a.spot.isSome
 |_,_=>false
def aV(a:Addr)(x:Obj):Bool:=live x&&!z5v x a
def bare(a:Addr):Addr:=⟨a.block,a.off,match a.spot with|none=>none|some 0=>none|some (k+1)=>some k⟩
def mark(a:Addr):Addr:=⟨a.block,a.off,match a.spot with|none=>some 0|some k=>some (k+1)⟩
def LO{a:Addr}(h:a.spot=none):bare a=a:=by cases a;cases h;rfl
def z5w(a:Addr):bare (mark a)=a:=by obtain⟨b,f,s⟩:=a;cases s<;>rfl
def z5x(a:Addr):(mark a).spot≠none:=by obtain⟨b,f,s⟩:=a;cases s<;>exact fun h=>by cases h
def qnk{a:Addr}(h:a.spot=none):(bare a).spot=none:=by rw[LO h];exact h
def R5{a:Addr}(h:a.spot=none):bare a=⟨a.block,a.off,none⟩:=by unfold bare;rw[h]
def LP{a:Addr}{cap:Nat}(h:a.spot.isSome=true->cap=0):cap≠0->(bare a).spot=none:=fun hc=>qnk (by
 cases e:a.spot with
 |none=>rfl
 |some k=>exact absurd (h (by rw[e];rfl)) hc)
def rX{a:Addr}{t:Ty}{ver:Nat}{s:Sl (den t)}(hn:s.nil=false)(ha:a.spot=none):aV a (.vec t ver false s)=true:=by simp[aV,live,z5v,hn,ha]
def mT{a:Addr}(h:aV a .none=true):False:=by simp[aV,live] at h
def Gm{a:Addr}{t:Ty}{ver:Nat}{fr:Bool}{s:Sl (den t)}(h:aV a (.vec t ver fr s)=true):s.nil=false/\fr=false/\a.spot=none:=by have h:(!s.nil&&!fr&&!a.spot.isSome)=true:=h;cases hn:s.nil<;>cases fr<;>cases hs:a.spot<;>simp[hn,hs] at h ⊢
def oG(φ:Nat->Addr)(o:Nat->Obj)(b:Nat):Prop:=∃id,aV (φ id) (o id)=true/\(φ id).block=b
def aj(X:Nat->Prop)(φ:Nat->Addr)(o:Nat->Obj)(w:World)(b:Nat):Prop:=b<w.heap.size/\¬X b/\¬oG φ o b
def room(w:World)(a:Addr)(n:Nat):Prop:=∃c el lo hi,w.heap[a.block]?=some (.cells c el (lo,hi))/\a.off+n<=c.size/\(hi<=lo\/hi<=a.off\/a.off+n<=lo)
def QM(w:World)(a:Addr)(nil fr:Bool)(sz n:Nat)(v:Value):Prop:=(nil=true/\v=.slice none 0 0)\/(nil=false/\∃cap,v=.slice (some (bare a)) n cap/\n<=cap/\(a.spot.isSome=true->cap=0)/\(fr=false->a.spot=none->room w a (cap*sz)))
def zij(a:Addr)(nil:Bool)(sz:Nat)(lo:Int)(n:Nat)(v:Value):Prop:=∃k:Nat,lo=(k:Int)/\k<=n/\((nil=true/\v=.slice none 0 0)\/(nil=false/\∃cap,v=.slice (some (if cap=0 then bare a else⟨a.block,a.off+k*sz,none⟩)) (n-k) cap/\n-k<=cap))
def W1(imm:Nat->Prop)(w:World)(n:Int)(v:Value):Prop:=∃a cs,v=.pointer (some a)/\a.spot=none/\imm a.block/\aE imm w (.int .i64) n cs/\lV w a cs
def yQ(imm:Nat->Prop)(w:World):List (Nat×Bool)->Int->Int->Value->Prop
 |[],k,_,v=>k=0/\v=.nilFunc
 |(f,c)::r,k,n,v=>(k=0/\match c with
  |false=>v=.func (.func f) #[] #[]
  |true=>∃p,v=.func (.func f) #[] #[p]/\W1 imm w n p)\/(k≠0/\yQ imm w r (k-1) n v)
def W2{imm:Nat->Prop}{w:World}{n:Int}:∀(a:List (Nat×Bool)) {k:Int} {v:Value},yQ imm w a k n v->(v=.nilFunc/\k=((a.length:Nat):Int))\/(∃f c,v=.func (.func f) #[] c/\k≠((a.length:Nat):Int))
 |[],k,v,h=>.inl ⟨h.2,h.1⟩
 |(f,c)::r,k,v,h=>by
  rcases h with ⟨h1,h2⟩|⟨h1,h2⟩
  ·refine .inr ?_;have hk:k≠(((f,c)::r).length:Int):=by rw[zu];omega
   cases c with
   |false=>exact⟨f,#[],h2,hk⟩
   |true=>obtain⟨p,h3,_⟩:=h2;exact⟨f,#[p],h3,hk⟩
  ·rcases W2 r h2 with ⟨h3,h4⟩|⟨g,d,h3,h4⟩
   all_goals grind
def qxm{α:Type}:∀(l:List α) (i:Nat),ql l i=i+l.length
 |[],_=>rfl
 |_::r,i=>by show ql r (i+1)=_;rw[qxm r,zu];omega
def qnl{imm imm':Nat->Prop}{w w':World}{n:Int}(h:∀p,W1 imm w n p->W1 imm' w' n p):∀(a:List (Nat×Bool)) (k:Int) (v:Value),yQ imm w a k n v->yQ imm' w' a k n v
 |[],_,_,e=>e
 |(f,c)::r,k,v,e=>by
  rcases e with ⟨e1,e2⟩|⟨e1,e2⟩
  ·refine .inl ⟨e1,?_⟩;cases c with
   |false=>exact e2
   |true=>grind
  ·exact .inr ⟨e1,qnl h r (k-1) v e2⟩
def R6(f:Nat)(c:Array Value):Value:=.func (.func (f % 1048576)) (c.toList.take (f / 1048576)).toArray (c.toList.drop (f / 1048576)).toArray
def R7{f:Nat}(h:f<1048576)(c:Array Value):R6 f c=.func (.func f) #[] c:=by unfold R6;rw[Nat.mod_eq_of_lt h,Nat.div_eq_of_lt h,List.take_zero,List.drop_zero]
mutual
def ay(φ:Nat->Addr)(o:Nat->Obj)(imm:Nat->Prop)(w:World):V->Value->Prop
 |.d t x,v=>cY imm w t x v
 |.aY id ver,v=>match o id with
  |.vec t aC fr s=>ver<=aC/\(ver=aC->QM w (φ id) s.nil fr (aM t) s.l.length v)
  |.none=>False
  |_=>True
 |.pre id ver n cp,v=>match o id with
  |.vec t aC fr s=>ver<=aC/\(ver=aC->n<=s.l.length/\QM w (φ id) s.nil fr (aM t) n v/\(cp=true->∀a m c,v=.slice a m c->c=n))
  |.none=>False
  |_=>True
 |.ptr id off,v=>match o id with
  |.none=>False
  |.dead=>True
  |.vec _ ver _ _=>ver=0->v=.pointer (some ⟨(φ id).block,(φ id).off+off,none⟩)
  |_=>v=.pointer (some ⟨(φ id).block,(φ id).off+off,none⟩)
 |.lh id ver i path,v=>match o id with
  |.vec t aC _ s=>ver<=aC/\(ver=aC->i<s.l.length/\v=.pointer (some ⟨(φ id).block,(φ id).off+i*aM t+j9 path t,none⟩))
  |.none=>False
  |_=>True
 |.ref t x,v=>∃a cs,v=.pointer (some a)/\a.spot=none/\imm a.block/\aE imm w t x cs/\lV w a cs
 |.rr t x,v=>∃a b cs,v=.pointer (some a)/\a.spot=none/\imm a.block/\lV w a [.pointer (some b)]/\b.spot=none/\imm b.block/\aE imm w t x cs/\lV w b cs
 |.gU,v=>v=.pointer none
 |.fn f l,v=>∃c:Array Value,v=R6 f c/\ck φ o imm w l c.toList
 |.ga,v=>v=.nilFunc
 |.mc l,v=>∃c:Array Value,v=.tuple c/\ck φ o imm w l c.toList
 |.agg l,v=>∃c:Array Value,v=.agg c/\ck φ o imm w l c.toList
 |.it id,v=>match o id with
  |.none=>False
  |.iter _ _=>v=.pointer (some ⟨(φ id).block,0,none⟩)
  |_=>True
 |.Wp b p c,v=>(b=true/\v=.tuple #[.bool true,.int .i64 p,.int .i32 c]/\gE .i64 p/\gE .i32 c)\/(b=false/\v=.tuple #[.bool false])
 |.iK,v=>v=.nilIface
 |.fa a k n,v=>yQ imm w a k n v
 |.fh,v=>v=.slice none 0 0
 |.lb b,v=>v=.bool b
 |.undef,v=>v=undef
 |.dH,_=>True
 |.cX id b,v=>match o id with
  |.none=>False
  |.box _=>v=.pointer (bif b then some ⟨(φ id).block,(φ id).off,none⟩ else none)
  |_=>True
 |.iM id ver lo,v=>match o id with
  |.vec t aC _ s=>ver<=aC/\(ver=aC->zij (φ id) s.nil (aM t) lo s.l.length v)
  |.none=>False
  |_=>True
def ck(φ:Nat->Addr)(o:Nat->Obj)(imm:Nat->Prop)(w:World):List V->List Value->Prop
 |[],vs=>vs=[]
 |x::l,vs=>∃v r,vs=v::r/\ay φ o imm w x v/\ck φ o imm w l r
end
def rY(φ:Nat->Addr)(o:Nat->Obj)(imm:Nat->Prop)(w:World)(id:Nat):Obj->Prop
 |.box cs=>(φ id).off=0/\∃c el lo hi,w.heap[(φ id).block]?=some (.cells c el (lo,hi))/\hi<=lo/\ck φ o imm w cs c.toList
 |.vec t _ fr s=>s.l.length<=cv/\(s.nil=true->s.l=[])/\(s.nil=false->((φ id).spot=none/\∃ec,bR (aE imm w t) s.l ec/\lV w (φ id) ec/\
   room w (φ id) 0/\(fr=false->room w (φ id) (s.l.length*aM t))/\(fr=true->imm (φ id).block))\/((φ id).spot≠none/\s.l=[]/\t≠.int .u8))
 |.dead=>True
 |.none=>True
 |.iter l p=>∃(s:ByteArray) (n:Nat),w.heap[(φ id).block]?=some (.stringIter s n)/\s.data.toList.map (fun b=>(b.toNat:Int))=l/\p=(n:Int)/\s.size<=cv
def zke(C:Cx)(el:TypeId)(n:Nat):Prop:=(el=C.mf/\n=2)\/(el=C.rU/\n=4)
def iT(C:Cx)(w:World)(a:Addr):Obj->Prop
 |.vec t _ _ s=>t=.int .u8->s.nil=false->∃c el fz,w.heap[a.block]?=some (.cells c el fz)/\C.P.underlying el=some (.int .u8)/\(fz.1=fz.2\/c.size<=fz.1)
 |.box cs=>qn cs=true->∃c el fz,w.heap[a.block]?=some (.cells c el fz)/\zke C el c.size
 |_=>True
structure MRel (C:Cx) (X:Nat->Prop) (φ:Nat->Addr) (o:Nat->Obj) (w:World):Prop where
 aw:∀id,rY φ o (aj X φ o w) w id (o id)
 inj:∀i j,aV (φ i) (o i)=true->aV (φ j) (o j)=true->(φ i).block=(φ j).block->i=j
 sep:∀i,aV (φ i) (o i)=true->(φ i).block<w.heap.size/\¬X (φ i).block
 xs:∀b,X b->b<w.heap.size
 rK:∀id,iT C w (φ id) (o id)
 fe:∀g t x,C.lu g=some ⟨t,x⟩->ay φ o (aj X φ o w) w (.ref t x) (.pointer (some ⟨g,0,none⟩))
 QN:∀g t x,C.lu g=some ⟨t,x⟩->∃c el fz,w.heap[g]?=some (.cells c el fz)/\c.size=aM t
def MRel.pC{C:Cx}{X:Nat->Prop}{φ:Nat->Addr}{o:Nat->Obj}{w w':World}(hm:MRel C X φ o w)(st:∀b,aj X φ o w b->w'.heap[b]?=w.heap[b]?):∀g t x,C.lu g=some ⟨t,x⟩->∃c el fz,w'.heap[g]?=some (.cells c el fz)/\c.size=aM t:=fun g t x hg=>by obtain⟨a,cs,e,_,hi,_⟩:=hm.fe g t x hg;injection e with e;injection e with e;subst e;rw[st _ hi];exact hm.QN g t x hg
def MRel.cap{C:Cx}{X:Nat->Prop}{φ:Nat->Addr}{o:Nat->Obj}{w:World}(hm:MRel C X φ o w){id:Nat}{t:Ty}{ver:Nat}{fr:Bool}{s:Sl (den t)}(h:o id=.vec t ver fr s)(hn:s.nil=false)(hs:(φ id).spot≠none):s.l=[]/\t≠.int .u8:=by
 have:=hm.aw id;rw[h] at this;rcases this.2.2 hn with h1|h1
 all_goals grind
def MRel.R8{C:Cx}{X:Nat->Prop}{φ:Nat->Addr}{o:Nat->Obj}{w:World}(hm:MRel C X φ o w)(id:Nat):∀ver fr (s:Sl (den (.int .u8))),o id=.vec (.int .u8) ver fr s->s.nil=false->(φ id).spot=none:=by intro ver fr s h hn;apply zA;intro hs;exact(hm.cap h hn hs).2 rfl
structure Rel (C:Cx) (nt:Nat) (X:Nat->Prop) (φ:Nat->Addr) (st:St) (a:Act) (w:World):Prop extends MRel C X φ st.obj w where
 size:a.tmps.size=nt
 env:∀t,ay φ st.obj (aj X φ st.obj w) w (st.env t) (a.tmps.getD t undef)
 defers:a.defers=[]
def qnm{imm imm':Nat->Prop}{w w':World}(hi:∀b,imm b->imm' b)(hw:∀b,imm b->w'.heap[b]?=w.heap[b]?)(t:Ty)(x:den t)(v:Value)(h:cY imm w t x v):cY imm' w' t x v:=by
 cases t with
 |st p=>obtain⟨cs,h1,h2⟩:=h;exact⟨cs,h1,jH hi hw p x _ h2⟩
 |arr n e=>obtain⟨cs,h1,h2⟩:=h;exact⟨cs,h1,jH hi hw (.arr n e) x _ h2⟩
 |unit=>exact h
 |pair a b=>exact h
 |int k=>exact jH hi hw (.int k) x _ h
 |bool=>exact jH hi hw .bool x _ h
 |fG=>exact jH hi hw .fG x _ h
 |dG=>exact jH hi hw .dG x _ h
 |str=>exact jH hi hw .str x _ h
 |sl e=>exact jH hi hw (.sl e) x _ h
def Gn{w w':World}{a:Addr}{n:Nat}(h:w'.heap[a.block]?=w.heap[a.block]?)(hr:room w a n):room w' a n:=by obtain⟨c,el,lo,hi,h1,h2,h3⟩:=hr;exact⟨c,el,lo,hi,by rw[h,h1],h2,h3⟩
def ze9{w w':World}{a:Addr}{nil fr:Bool}{sz n:Nat}{v:Value}(h:nil=false->fr=false->a.spot=none->w'.heap[a.block]?=w.heap[a.block]?)(hr:QM w a nil fr sz n v):QM w' a nil fr sz n v:=hr.imp id fun⟨hn,cap,h1,h2,h4,h3⟩=>⟨hn,cap,h1,h2,h4,fun hf hs=>Gn (h hn hf hs) (h3 hf hs)⟩
def fb(w w':World)(b:Nat):Prop:=∀c el fz,w.heap[b]?=some (.cells c el fz)->∃c',w'.heap[b]?=some (.cells c' el fz)/\c'.size=c.size
def fb.same{w w':World}{b:Nat}(h:w'.heap[b]?=w.heap[b]?):fb w w' b:=fun c el fz e=>⟨c,by rw[h];exact e,rfl⟩
def iT.bN{C:Cx}{w w':World}{a:Addr}{x:Obj}(h:iT C w a x)(hb:aV a x=true->fb w w' a.block)(hf:∀ver (s:Sl (den (.int .u8))),x=.vec (.int .u8) ver true s->s.nil=false->fb w w' a.block)(hc:∀ver fr (s:Sl (den (.int .u8))),x=.vec (.int .u8) ver fr s->s.nil=false->a.spot=none):iT C w' a x:=by
 cases x with
 |vec t ver fr s=>
  intro ht hn;obtain⟨c,el,fz,h1,h2,h4⟩:=h ht hn;subst ht;have hk:fb w w' a.block:=by
   cases fr with
   |true=>exact hf _ _ rfl hn
   |false=>exact hb (rX hn (hc _ _ _ rfl hn))
  obtain⟨c',h3,h5⟩:=hk _ _ _ h1
  grind
 |box cs=>
  intro hs;obtain⟨c,el,fz,h1,h3⟩:=h hs;obtain⟨c',h2,h4⟩:=(hb rfl) _ _ _ h1
  grind
 |dead=>trivial
 |none=>trivial
 |iter s p=>trivial
def Up(w w':World)(a a':Addr):Obj->Obj->Prop
 |.none,_=>True
 |_,.dead=>True
 |.box _,.box _=>a'=a
 |.iter _ _,.iter _ _=>a'=a
 |.vec t ver fr s,.vec t' aC Kv s'=>ver<aC\/(ver=aC/\t=t'/\s.nil=s'.nil/\s.l.length=s'.l.length/\a'=a/\(Kv=false->fr=false/\(s.nil=false->a.spot=none->∀n,room w a n->room w' a n)))
 |_,_=>False
def Up.same{w w':World}{a:Addr}{x:Obj}(h:aV a x=true->∀n,room w a n->room w' a n):Up w w' a a x x:=by
 cases x with
 |vec t ver fr s=>exact .inr ⟨rfl,rfl,rfl,rfl,rfl,fun hf=>⟨hf,fun hn hs=>h (by subst hf;exact rX hn hs)⟩⟩
 |box cs=>exact rfl
 |dead=>trivial
 |none=>trivial
 |iter s p=>exact rfl
def qu4{w w':World}{a:Addr}{nil fr Kv:Bool}{sz n:Nat}{v:Value}(h:Kv=false->fr=false/\(nil=false->a.spot=none->∀n,room w a n->room w' a n))(hr:QM w a nil fr sz n v):QM w' a nil Kv sz n v:=hr.imp id fun⟨hn,cap,h1,h2,h4,h3⟩=>⟨hn,cap,h1,h2,h4,fun hf hs=>(h hf).2 hn hs _ (h3 (h hf).1 hs)⟩
def BA{φ φ':Nat->Addr}{o o':Nat->Obj}{imm imm':Nat->Prop}{w w':World}(hi:∀b,imm b->imm' b)(hw:∀b,imm b->w'.heap[b]?=w.heap[b]?)(ho:∀id,Up w w' (φ id) (φ' id) (o id) (o' id)):∀(x:V) (v:Value),ay φ o imm w x v->ay φ' o' imm' w' x v:=by
 intro x;refine V.rec (motive_1:=fun x=>∀v,ay φ o imm w x v->ay φ' o' imm' w' x v) (motive_2:=fun l=>∀vs,ck φ o imm w l vs->ck φ' o' imm' w' l vs)
  ?_ ?_ ?_ ?_ ?_ ?_ ?_ ?_ ?_ ?_ ?_ ?_ ?_ ?_ ?_ ?_ ?_ ?_ ?_ ?_ ?_ ?_ ?_ ?_ x
 ·exact fun t x v h=>qnm hi hw t x v h
 ·intro id ver v h;have hu:=ho id;unfold ay at*
  revert h hu;cases o id<;>cases o' id<;>simp only[Up]<;>intro hu h<;>first|trivial|exact h.elim|exact hu.elim|skip
  obtain⟨h0,h⟩:=h;rcases hu with hu|⟨e1,e2,e3,e4,e5,e6⟩
  ·omega
  ·subst e1 e2;exact⟨h0,fun e=>by rw[e5,<-e3,<-e4];exact qu4 e6 (h e)⟩
 ·intro id ver n cp v h;have hu:=ho id;unfold ay at*
  revert h hu;cases o id<;>cases o' id<;>simp only[Up]<;>intro hu h<;>first|trivial|exact h.elim|exact hu.elim|skip
  obtain⟨h0,h⟩:=h;rcases hu with hu|⟨e1,e2,e3,e4,e5,e6⟩
  ·omega
  ·subst e1 e2;refine⟨h0,fun e=>?_⟩;obtain⟨h1,h2,h3⟩:=h e;exact⟨by omega,by rw[e5,<-e3];exact qu4 e6 h2,h3⟩
 ·intro id off v h;have hu:=ho id;unfold ay at*
  revert h hu;cases o id<;>cases o' id<;>simp only[Up]<;>intro hu h<;>first|trivial|exact h.elim|exact hu.elim|(rw[hu];exact h)|skip
  grind
 ·intro id ver i path v h;have hu:=ho id;unfold ay at*
  revert h hu;cases o id<;>cases o' id<;>simp only[Up]<;>intro hu h<;>first|trivial|exact h.elim|exact hu.elim|skip
  grind
 ·exact fun t x v ⟨a,cs,h1,h2,h3,h4,h5⟩=>⟨a,cs,h1,h2,hi _ h3,jH hi hw t x cs h4,QK (hw _ h3) h5⟩
 ·exact fun v h=>h
 ·exact fun f l ih v ⟨c,h1,h2⟩=>⟨c,h1,ih _ h2⟩
 ·exact fun v h=>h
 ·exact fun l ih v ⟨c,h1,h2⟩=>⟨c,h1,ih _ h2⟩
 ·exact fun l ih v ⟨c,h1,h2⟩=>⟨c,h1,ih _ h2⟩
 ·exact fun v h=>h
 ·exact fun v h=>h
 ·exact fun b v h=>h
 ·exact fun v h=>h
 ·exact fun v h=>h
 ·intro id b v h;have hu:=ho id;unfold ay at*
  revert h hu;cases o id<;>cases o' id<;>simp only[Up]<;>intro hu h<;>first|trivial|exact h.elim|exact hu.elim|(rw[hu];exact h)|exact h
 ·intro id ver lo v h;have hu:=ho id;unfold ay at*
  revert h hu;cases o id<;>cases o' id<;>simp only[Up]<;>intro hu h<;>first|trivial|exact h.elim|exact hu.elim|skip
  grind
 ·intro id v h;have hu:=ho id;unfold ay at*
  revert h hu;cases o id<;>cases o' id<;>simp only[Up]<;>intro hu h<;>first|trivial|exact h.elim|exact hu.elim|(rw[hu];exact h)|exact h
 ·exact fun b p c v h=>h
 ·exact fun a k n v h=>qnl (fun p ⟨a,cs,h1,h2,h3,h4,h5⟩=>⟨a,cs,h1,h2,hi _ h3,jH hi hw (.int .i64) n cs h4,QK (hw _ h3) h5⟩) a k v h
 ·exact fun t x v ⟨a,b,cs,h1,h2,h3,h4,h5,h6,h7,h8⟩=>⟨a,b,cs,h1,h2,hi _ h3,QK (hw _ h3) h4,h5,hi _ h6,jH hi hw t x cs h7,QK (hw _ h6) h8⟩
 ·exact fun vs h=>h
 ·exact fun x l mY mZ vs ⟨v,r,h1,h2,h3⟩=>⟨v,r,h1,mY _ h2,mZ _ h3⟩
def hit(ks:List Nat)(φ:Nat->Addr)(o:Nat->Obj)(b:Nat):Prop:=∃id,id∈ks/\aV (φ id) (o id)=true/\(φ id).block=b
def xB(w w':World):Prop:=w'.os=w.os/\w'.output=w.output
structure Comes (C:Cx) (X:Nat->Prop) (φ φ':Nat->Addr) (o:Nat->Obj) (u:List (Nat×Obj)) (w w':World) (v:V) (val:Value):Prop where
 mem:MRel C X φ' (aq o u) w'
 val:ay φ' (aq o u) (aj X φ' (aq o u) w') w' v val
 up:∀id,Up w w' (φ id) (φ' id) (o id) (aq o u id)
 size:w.heap.size<=w'.heap.size
 frame:∀b,b<w.heap.size->¬hit (bW u) φ o b->w'.heap[b]?=w.heap[b]?
 vq:∀id,o id≠.none->id∉bW u->φ' id=φ id
 news:∀id,aV (φ' id) (aq o u id)=true->w.heap.size<=(φ' id).block\/oG φ o (φ' id).block
 still:xB w w'
def Comes.imm{C:Cx}{X:Nat->Prop}{φ φ':Nat->Addr}{o:Nat->Obj}{u:List (Nat×Obj)}{w w':World}{v:V}{val:Value}(h:Comes C X φ φ' o u w w' v val)(b:Nat)(hb:aj X φ o w b):aj X φ' (aq o u) w' b:=by
 obtain⟨h1,h2,h3⟩:=hb;refine⟨Nat.lt_of_lt_of_le h1 h.size,h2,fun⟨id,e1,e2⟩=>?_⟩;rcases h.news id e1 with e3|e3
 all_goals grind
def Comes.stays{C:Cx}{X:Nat->Prop}{φ φ':Nat->Addr}{o:Nat->Obj}{u:List (Nat×Obj)}{w w':World}{v:V}{val:Value}(h:Comes C X φ φ' o u w w' v val)(b:Nat)(hb:aj X φ o w b):w'.heap[b]?=w.heap[b]?:=h.frame b hb.1 fun⟨id,_,e1,e2⟩=>hb.2.2 ⟨id,e1,e2⟩
def Comes.keeps{C:Cx}{X:Nat->Prop}{φ φ':Nat->Addr}{o:Nat->Obj}{u:List (Nat×Obj)}{w w':World}{v:V}{val:Value}(h:Comes C X φ φ' o u w w' v val)(x:V)(z:Value)(hx:ay φ o (aj X φ o w) w x z):ay φ' (aq o u) (aj X φ' (aq o u) w') w' x z:=BA h.imm h.stays h.up x z hx
def Out(C:Cx)(X:Nat->Prop)(φ:Nat->Addr)(o:Nat->Obj)(w:World)(v:V)(u:List (Nat×Obj))(r:Result Next):Prop:=∃val w' φ',r=.ok (.value val) w'/\Comes C X φ φ' o u w w' v val
section
variable {C:Cx} {X:Nat→Prop} {φ:Nat→Addr} {o:Nat→Obj} {w:World}
def Comes.same{v:V}{val:Value}(hm:MRel C X φ o w)(hv:ay φ o (aj X φ o w) w v val):Comes C X φ φ o [] w w v val:=⟨hm,hv,fun _=>Up.same fun _ _ h=>h,Nat.le_refl _,fun _ _ _=>rfl,fun _ _ _=>rfl,fun id h=>.inr ⟨id,h,rfl⟩,⟨rfl,rfl⟩⟩
def Out.same{v:V}{val:Value}{r:Result Next}(hm:MRel C X φ o w)(hr:r=.ok (.value val) w)(hv:ay φ o (aj X φ o w) w v val):Out C X φ o w v [] r:=⟨val,w,φ,hr,.same hm hv⟩
def R9{imm:Nat->Prop}{x:V}{v:Value}(h:ay φ o imm w x v):ay φ o imm w (dO x) v:=by
 cases x<;>first|exact h|skip
 simp only[dO,ay,cY,aE] at*
 simp[h]
def z5z{k:IntKind}{n:Int}(h:Gd k n=true):gE k n:=by simpa[Gd,gE] using h
def qkx{imm:Nat->Prop}(v:Value):ay φ o imm w (Kq v) v:=by
 unfold Kq;split
 ·rfl
 ·rfl
 ·rfl
 ·rename_i k n;cases h:Gd k n
  ·simp[ay]
  ·simp[ay,cY,aE,z5z h]
 ·rename_i s;cases h:Nat.ble s.size 1000000
  ·simp[ay]
  ·simp only[cond_true,ay,cY,aE];refine⟨s,rfl,rfl,?_⟩;have:=zD h;unfold cv;omega
 all_goals simp[ay]
def Rel.cG{nt:Nat}{st:St}{a:Act}(h:Rel C nt X φ st a w)(x:Operand):ay φ st.obj (aj X φ st.obj w) w (cG C st.env x) (a.eval x):=by
 cases x with
 |tmp t=>exact R9 (h.env t)
 |const v=>exact qkx v
 |global g=>
  simp only[Ev.cG,Act.eval];split
  ·rename_i e;exact h.fe _ _ _ e
  ·simp[ay]
 |func f=>
  simp only[Ev.cG];cases h:Nat.blt f 1048576 with
  |false=>simp[ay]
  |true=>exact⟨#[],(R7 (zD h) #[]).symm,rfl⟩
end
def Pk.aN(p:Pk)(v:V)(u:List (Nat×Obj)):Prop:=match p with
 |.fail=>False
 |.mW v' u'=>v'=v/\u'=u
 |.dyn _ x out=>∃y,x=some y/\out y=(v,u)
@[simp] theorem Sa{v:V}{u:List (Nat×Obj)}:Pk.fail.aN v u↔False:=Iff.rfl
@[simp] theorem dW{v v':V}{u u':List (Nat×Obj)}:(Pk.now v u).aN v' u'↔v=v'/\u=u':=Iff.rfl
@[simp] theorem ou{α:Type}{x:Option α}{out:α->V×List (Nat×Obj)}{v:V}{u:List (Nat×Obj)}:(Pk.dyn α x out).aN v u↔∃y,x=some y/\out y=(v,u):=Iff.rfl
@[simp] theorem Kw{t:Ty}{x:Option (den t)}{v:V}{u:List (Nat×Obj)}:(Pk.lp x).aN v u↔∃y,x=some y/\(V.d t y,[])=(v,u):=Iff.rfl
@[simp] theorem dX{b:Bool}{p:Pk}{v:V}{u:List (Nat×Obj)}:(Pk.when b p).aN v u↔b=true/\p.aN v u:=by cases b<;>simp[Pk.when]
section
variable {P:Program} {C:Cx} {X:Nat→Prop} {φ:Nat→Addr} {o:Nat→Obj} {w:World} {imm:Nat→Prop}
def oH{k:IntKind}{n:Int}{z:Value}(h:ay φ o imm w (.d (.int k) n) z):z=.int k n/\gE k n:=by simpa[ay,cY,aE] using h
def vr{b:Bool}{z:Value}(h:ay φ o imm w (.d .bool b) z):z=.bool b:=by simpa[ay,cY,aE] using h
def rZ{l:List Int}{z:Value}(h:ay φ o imm w (.d .str l) z):∃s:ByteArray,z=.string s/\s.data.toList.map (fun b=>(b.toNat:Int))=l/\s.size<=cv:=by
 simp only[ay,cY,aE] at h
 grind
def Sb{b:Nat}{z:Value}(h:ay φ o imm w (.d .fG b) z):z=.float .f64 b:=by simpa[ay,cY,aE] using h
def QO{b:Nat×Nat}{z:Value}(h:ay φ o imm w (.d .dG b) z):z=.complex .f64 b.1 b.2:=by simpa[ay,cY,aE] using h
def W3{b:Nat}:ay φ o imm w (.d .fG b) (.float .f64 b):=by rfl
def z60{b:Nat×Nat}:ay φ o imm w (.d .dG b) (.complex .f64 b.1 b.2):=by rfl
def nf{k:IntKind}{n:Int}(h:gE k n):ay φ o imm w (.d (.int k) n) (.int k n):=by simpa[ay,cY,aE] using h
def Gp{b:Bool}:ay φ o imm w (.d .bool b) (.bool b):=by rfl
def LR{s:ByteArray}{l:List Int}(h:s.data.toList.map (fun b=>(b.toNat:Int))=l)(hl:s.size<=cv):ay φ o imm w (.d .str l) (.string s):=by simp only[ay,cY,aE];exact⟨s,rfl,h,hl⟩
def QP(k:IntKind)(n:Int):gE k (k.wrap n):=by unfold gE IntKind.wrap IntKind.min IntKind.max;cases k<;>simp[IntKind.bits,IntKind.signed]<;>(try split)<;>omega
def r9(P:Program)(φ:Nat->Addr)(o:Nat->Obj)(imm:Nat->Prop)(w:World)(v:V)(s:Sem Value):Prop:=∃val,s.run P w=.ok val w/\ay φ o imm w v val
def qxn(k:IntKind):gE k 0:=by unfold gE IntKind.min IntKind.max;cases k<;>simp[IntKind.bits,IntKind.signed]
def zfp{k:IntKind}{a b:Int}(h:gE k a):gE k (a.tmod b):=by
 have h1:(a.tmod b).natAbs<=a.natAbs:=by rw[Int.natAbs_tmod];exact Nat.mod_le _ _
 have hz:=qxn k;unfold gE at*
 rcases Int.le_total 0 a with h0|h0
 ·have:=Int.tmod_nonneg b h0;omega
 ·have:=Int.tmod_nonneg b (show 0<=-a by omega);rw[Int.neg_tmod] at this;omega
def zb8{op:BinOp}{k:IntKind}{a b:Int}{v:V}{u:List (Nat×Obj)}(ha:gE k a)(h:(zfc lf op k a b).aN v u)(t:TypeId):u=[]/\r9 P φ o imm w v (binOp op t (.int k a) (.int k b)):=by
 cases op<;>simp only[zfc,dW,Kw,Sa] at h
 case quo=>
  obtain⟨y,h1,h2⟩:=h;simp only[Prod.mk.injEq] at h2;obtain⟨rfl,rfl⟩:=h2;simp only[lf,l7] at h1;split at h1
  ·cases h1
  ·rename_i hb;simp only[zB] at h1;subst h1;exact⟨rfl,.int k _,by simp[binOp,Op.intDiv,hb,pure],nf (QP _ _)⟩
 case rem=>
  obtain⟨y,h1,h2⟩:=h;simp only[Prod.mk.injEq] at h2;obtain⟨rfl,rfl⟩:=h2;simp only[lf,jK] at h1;split at h1
  ·cases h1
  ·rename_i hb;simp only[zB] at h1;subst h1;exact⟨rfl,.int k _,by simp[binOp,Op.intDiv,hb,pure],nf (zfp ha)⟩
 all_goals
  obtain⟨rfl,rfl⟩:=h;refine⟨rfl,?_⟩
  first
  |exact⟨.int k _,by simp[binOp,Op.intArith,Op.intBits,lf,cE,gS,yF,l9,Ly,qk,kB,pure],nf (QP _ _)⟩
  |exact⟨.bool _,by simp[binOp,Op.intCmp,lf,aL,bJ,ag,ar,pure,bne],Gp⟩
end
def bl(s:ByteArray):List Int:=s.data.toList.map fun b=>(b.toNat:Int)
def zea{a b:UInt8}(h:(a.toNat:Int)=(b.toNat:Int)):a=b:=by apply UInt8.toNat_inj.1;omega
def qqg:∀(x y:List UInt8),(x.map (fun b=>(b.toNat:Int))==y.map (fun b=>(b.toNat:Int)))=(x==y)
 |[],[]=>rfl
 |[],_::_=>rfl
 |_::_,[]=>rfl
 |a::x,b::y=>by
  have e:(((a.toNat:Nat):Int)==((b.toNat:Nat):Int))=(a==b):=by rw[Bool.eq_iff_iff];simp only[beq_iff_eq];exact⟨zea,fun h=>by rw[h]⟩
  have ih:=qqg x y
  grind
def qnp:∀(x y:List UInt8),strLt (x.map fun b=>(b.toNat:Int)) (y.map fun b=>(b.toNat:Int))=Op.bytesLess x y
 |[],[]=>rfl
 |[],_::_=>rfl
 |_::_,[]=>rfl
 |a::x,b::y=>by
  have e1:decide (((a.toNat:Nat):Int)<((b.toNat:Nat):Int))=decide (a<b):=by rw[decide_eq_decide,UInt8.lt_iff_toNat_lt];omega
  have e2:decide (((a.toNat:Nat):Int)=((b.toNat:Nat):Int))=(a==b):=by rw[Bool.eq_iff_iff];simp only[decide_eq_true_eq,beq_iff_eq];exact⟨zea,fun h=>by rw[h]⟩
  simp only[zN,strLt,Op.bytesLess,e1,e2,qnp x y]
def zeb(a b:ByteArray):bM (bl a) (bl b)=(a.toList==b.toList):=by rw[ByteArray.toList_eq,ByteArray.toList_eq];exact qqg _ _
def zb9(a b:ByteArray):strLt (bl a) (bl b)=Op.bytesLess a.toList b.toList:=by rw[ByteArray.toList_eq,ByteArray.toList_eq];exact qnp _ _
def z61(a:ByteArray):(bl a).length=a.size:=by unfold bl;rw[zG];rfl
def z62(a b:ByteArray):bl (a++b)=bl a++bl b:=by unfold bl;rw[<-zQ,ByteArray.data_append,Array.toList_append]
section
variable {P:Program} {φ:Nat→Addr} {o:Nat→Obj} {w:World} {imm:Nat→Prop}
def zba{op:BinOp}{a b:ByteArray}{v:V}{u:List (Nat×Obj)}(h:(zfd lf op (bl a) (bl b)).aN v u)(t:TypeId):u=[]/\r9 P φ o imm w v (binOp op t (.string a) (.string b)):=by
 cases op<;>simp only[zfd,dW,ou,Sa] at h
 case add=>
  obtain⟨y,h1,h2⟩:=h;simp only[Prod.mk.injEq] at h2;obtain⟨rfl,rfl⟩:=h2;simp only[lf,fit,bS,ae,z61] at h1;split at h1
  ·rename_i hb;refine⟨rfl,.string (a++b),?_,?_⟩
   ·simp[binOp,Op.stringOp,pure,Sem.run,IntKind.max,IntKind.signed,IntKind.bits];omega
   ·refine LR (show bl (a++b)=bl a++bl b from z62 a b) ?_;rw[ByteArray.size_append];unfold cv;omega
  ·cases h1
 all_goals
  obtain⟨rfl,rfl⟩:=h;refine⟨rfl,.bool _,?_,Gp⟩;simp[binOp,Op.stringOp,lf,ar,bP,zeb,zb9,pure]
end
section
variable {P:Program} {C:Cx} {φ:Nat→Addr} {o:Nat→Obj} {w:World} {imm:Nat→Prop}
def zik{k:IntKind}{a:Int}(n:Nat)(h:gE k a):gE k (a.fdiv (2 ^ n)):=by
 have hp:(0:Int)<2 ^ n:=Int.pow_pos om;rw[Int.fdiv_eq_ediv_of_nonneg _ (Int.le_of_lt hp)];have hz:=qxn k;unfold gE at*
 rcases Int.le_total 0 a with h0|h0
 ·have h1:=Int.ediv_nonneg h0 (Int.le_of_lt hp);have h2:a / 2 ^ n<=a:=Int.ediv_le_self _ h0;omega
 ·have h1:a / 2 ^ n<=0:=Int.ediv_nonpos_of_nonpos_of_neg h0 hp;have h2:a<=a / 2 ^ n:=by rw[Int.le_ediv_iff_mul_le hp];have:a*2 ^ n<=a*1:=Int.mul_le_mul_of_nonpos_left h0 om;omega
  omega
def z00{op:BinOp}(hc:op=.shl\/op=.shr){k k':IntKind}{a b:Int}{v:V}{u:List (Nat×Obj)}(ha:gE k a)(h:(match op with|.shl=>Pk.lp (t:=.int k) (lf.qj k a b)|_=>Pk.lp (t:=.int k) (lf.la k a b)).aN v u)(t:TypeId):u=[]/\r9 P φ o imm w v (binOp op t (.int k a) (.int k' b)):=by
 rcases hc with rfl|rfl<;>simp only[Kw,Prod.mk.injEq,lf,qj,la] at h<;>obtain⟨y,h1,rfl,rfl⟩:=h<;>split at h1
 ·cases h1
 ·rename_i hb;simp only[zB] at h1;subst h1;exact⟨rfl,.int k _,by simp[binOp,Op.shift,hb,pure],nf (QP _ _)⟩
 ·cases h1
 ·rename_i hb;simp only[zB] at h1;subst h1;exact⟨rfl,.int k _,by simp[binOp,Op.shift,hb,pure],nf (zik _ ha)⟩
end
def Sc{P:Program}{t:TypeId}{i:TypeInfo}(h:P.types.toList[t]?=some i):P.info? t=some i:=by
 rw[zJ] at h;have ht:t<P.types.size:=by grind
 simp only[Tables.info?,ht,if_true];exact h
def ng{P:Program}{t:TypeId}{d:TypeDesc}(h:desc P t=some d):P.underlying t=some d:=by
 unfold desc at h;cases h1:P.types.toList[t]? with
 |none=>rw[h1] at h;cases h
 |some i=>
  rw[h1] at h;unfold Program.underlying;rw[Sc h1];obtain⟨d',_,_,_,_,_,_,_,_,_⟩:=i;cases d'<;>simp only at h ⊢<;>first|exact h|skip
  rename_i u;cases h2:P.types.toList[u]? with
  |none=>rw[h2] at h;cases h
  |some j=>rw[h2] at h;rw[Sc h2];exact h
def Sd{k k':IntKind}(h:Nat.beq (vN k) (vN k')=true):k=k':=by cases k<;>cases k'<;>first|rfl|cases h
def QQ:∀{a b:Ty},rV a b=true->a=b
 |.int k,b,h=>by cases b<;>simp only[rV] at h<;>first|exact congrArg Ty.int (Sd h)|cases h
 |.bool,b,h=>by cases b<;>simp only[rV] at h<;>first|rfl|cases h
 |.fG,b,h=>by cases b<;>simp only[rV] at h<;>first|rfl|cases h
 |.dG,b,h=>by cases b<;>simp only[rV] at h<;>first|rfl|cases h
 |.str,b,h=>by cases b<;>simp only[rV] at h<;>first|rfl|cases h
 |.unit,b,h=>by cases b<;>simp only[rV] at h<;>first|rfl|cases h
 |.sl e,b,h=>by cases b<;>simp only[rV] at h<;>first|exact congrArg Ty.sl (QQ h)|cases h
 |.st e,b,h=>by cases b<;>simp only[rV] at h<;>first|exact congrArg Ty.st (QQ h)|cases h
 |.pair c d,b,h=>by cases b<;>simp only[rV,ze] at h<;>first|(rw[QQ h.1,QQ h.2])|cases h
 |.arr n e,b,h=>by cases b<;>simp only[rV,ze] at h<;>first|(rw[zj h.1,QQ h.2])|cases h
def Se{T:Ty}{x:Option Ty}(h:jM T x=true):x=some T:=by
 cases x with
 |none=>cases h
 |some T'=>exact congrArg some (QQ h)
def cg{C:Cx}{t:TypeId}{T:Ty}(h:C.is t T=true):C.ty t=some T:=Se h
def Sf(f:List Value->Option (List Value)):Nat->List Value->Option (List Value)
 |0,cs=>some cs
 |n+1,cs=>match f cs with
  |some r=>Sf f n r
  |none=>none
def pD:Ty->List Value->Option (List Value)
 |.int k,.int k' n::r=>bif Nat.beq (vN k) (vN k')&&decide (n=0) then some r else none
 |.bool,.bool false::r=>some r
 |.fG,.float .f64 0::r=>some r
 |.dG,.complex .f64 0 0::r=>some r
 |.str,.string s::r=>bif Nat.beq s.size 0 then some r else none
 |.sl _,.slice none 0 0::r=>some r
 |.unit,cs=>some cs
 |.pair a b,cs=>match pD a cs with
  |some r=>pD b r
  |none=>none
 |.st p,cs=>pD p cs
 |.arr n e,cs=>Sf (pD e) n cs
 |_,_=>none
def qqh{α:Type}{f:List Value->Option (List Value)}{g:α->List Value->Prop}{z:α}(hf:∀cs r,f cs=some r->∃c,cs=c++r/\g z c):∀(n:Nat) (cs r:List Value),Sf f n cs=some r->∃c,cs=c++r/\bR g (List.replicate n z) c
 |0,cs,r,h=>by simp only[Sf,zB] at h;subst h;exact⟨[],rfl,rfl⟩
 |n+1,cs,r,h=>by
  simp only[Sf] at h;split at h
  ·rename_i r1 h1;obtain⟨c,e1,e2⟩:=hf _ _ h1;obtain⟨d,e3,e4⟩:=qqh hf n _ _ h;exact⟨c++d,by rw[e1,e3,zm],c,d,rfl,e2,e4⟩
  ·cases h
def qxo(imm:Nat->Prop)(w:World)(T:Ty):∀(cs r:List Value),pD T cs=some r->∃c,cs=c++r/\aE imm w T (zero T) c:=by
 induction T with
 |int k=>
  intro cs r h;cases cs with
  |nil=>cases h
  |cons v cs=>
   cases v<;>(try simp only[pD] at h)<;>try (cases h;done)
   rename_i k' n;cases hb:(Nat.beq (vN k) (vN k')&&decide (n=0)) with
   |false=>rw[hb] at h;cases h
   |true=>rw[hb] at h;simp only[ze,decide_eq_true_eq] at hb;simp only[cond_true,zB] at h;obtain⟨h1,rfl⟩:=hb;have:=Sd h1;subst this h;exact⟨[_],rfl,rfl,qxn k⟩
 |bool=>
  intro cs r h;cases cs with
  |nil=>cases h
  |cons v cs=>
   cases v<;>(try simp only[pD] at h)<;>try (cases h;done)
   rename_i b;cases b
   ·simp only[pD,zB] at h;subst h;exact⟨[_],rfl,rfl⟩
   ·cases h
 |fG=>
  intro cs r h;cases cs with
  |nil=>cases h
  |cons v cs=>
   cases v<;>(try simp only[pD] at h)<;>try (cases h;done)
   rename_i k b;cases k<;>(try simp only[pD] at h)<;>try (cases h;done)
   cases b<;>(try simp only[pD] at h)<;>try (cases h;done)
   injection h with h;subst h;exact⟨[_],rfl,rfl⟩
 |dG=>
  intro cs r h;cases cs with
  |nil=>cases h
  |cons v cs=>
   cases v<;>(try simp only[pD] at h)<;>try (cases h;done)
   rename_i k a b;cases k<;>(try simp only[pD] at h)<;>try (cases h;done)
   cases a<;>(try simp only[pD] at h)<;>try (cases h;done)
   cases b<;>(try simp only[pD] at h)<;>try (cases h;done)
   injection h with h;subst h;exact⟨[_],rfl,rfl⟩
 |str=>
  intro cs r h;cases cs with
  |nil=>cases h
  |cons v cs=>
   cases v<;>(try simp only[pD] at h)<;>try (cases h;done)
   rename_i s;cases hb:Nat.beq s.size 0 with
   |false=>rw[hb] at h;cases h
   |true=>rw[hb] at h;simp only[cond_true,zB] at h;subst h;have hz:=zj hb;refine⟨[_],rfl,s,rfl,?_,by omega⟩;have:s.data.toList=[]:=zK (by simpa using hz);rw[this];rfl
 |sl e _=>
  intro cs r h;cases cs with
  |nil=>cases h
  |cons v cs=>
   cases v<;>(try simp only[pD] at h)<;>try (cases h;done)
   rename_i a n m;cases a<;>cases n<;>cases m<;>try (cases h;done)
   have h:=zF h;subst h;exact⟨[_],rfl,_,rfl,Nat.zero_le _,.inl ⟨rfl,rfl,rfl⟩⟩
 |unit=>intro cs r h;simp only[pD,zB] at h;subst h;exact⟨[],rfl,rfl⟩
 |pair a b qv lA=>
  intro cs r h;simp only[pD] at h;split at h
  ·rename_i r1 h1;obtain⟨c,e1,e2⟩:=qv _ _ h1;obtain⟨d,e3,e4⟩:=lA _ _ h;exact⟨c++d,by rw[e1,e3,zm],c,d,rfl,e2,e4⟩
  ·cases h
 |st p ih=>intro cs r h;exact ih _ _ h
 |arr n e ih=>intro cs r h;obtain⟨c,e1,e2⟩:=qqh ih n _ _ h;exact⟨c,e1,by simp[zero],e2⟩
def vt(C:Cx):List Field->Ty->Nat->Bool
 |[],.unit,_=>true
 |[f],p,off=>C.is f.type p&&Nat.beq f.offset off
 |f::g::r,.pair a b,off=>C.is f.type a&&Nat.beq f.offset off&&vt C (g::r) b (off+aM a)
 |_,_,_=>false
def pE(C:Cx):TypeDesc->Ty->Bool
 |.int k,.int k'=>Nat.beq (vN k) (vN k')
 |.bool,.bool=>true
 |.float .f64,.fG=>true
 |.complex .f64,.dG=>true
 |.string,.str=>true
 |.slice e,.sl e'=>C.is e e'
 |.array n e,.arr n' e'=>Nat.beq n n'&&C.is e e'
 |.struct fs,.st p=>vt C fs.toList p 0
 |_,_=>false
def lB:Ty->Bool
 |.st _=>true|.arr .. =>true|_=>false
def Sg:Value->Bool
 |.agg _=>true|_=>false
def zfq(C:Cx)(t:TypeId)(T:Ty):Bool:=
 match C.P.types.toList[t]?,desc C.P t with
 |some i,some d=>Nat.beq i.size (aM T)&&Nat.ble i.bytes 65536&&pE C d T&&
  (match i.zero with
   |some z=>(Sg z==lB T)&&(match pD T z.cells.toList with|some []=>true|_=>false)
   |none=>false)
 |_,_=>false
def QR(C:Cx):List (Nat×Ty)->Bool
 |[]=>true
 |p::r=>zfq C p.1 p.2&&QR C r
structure oI (C:Cx) (t:TypeId) (T:Ty):Prop where
 info:∃i z,C.P.info? t=some i/\C.P.types.toList[t]?=some i/\i.size=aM T/\i.bytes<=65536/\i.zero=some z/\Sg z=lB T/\∀imm w,aE imm w T (zero T) z.cells.toList
 desc:∃d,desc C.P t=some d/\C.P.underlying t=some d/\pE C d T=true
def z2t{C:Cx}{t:TypeId}{T:Ty}(h:zfq C t T=true):oI C t T:=by
 unfold zfq at h;split at h
 ·rename_i i d h1 h2;simp only[ze] at h;obtain⟨⟨⟨h3,h4⟩,h5⟩,h6⟩:=h;split at h6
  ·rename_i z hz;simp only[ze] at h6;obtain⟨h7,h8⟩:=h6;refine⟨⟨i,z,Sc h1,h1,zj h3,zD h4,hz,?_,?_⟩,d,h2,ng h2,h5⟩
   ·exact eq_of_beq h7
   ·intro imm w;split at h8
    ·rename_i h9;obtain⟨c,e1,e2⟩:=qxo imm w T _ _ h9
     grind
    ·cases h8
  ·cases h6
 ·cases h
def qhx{C:Cx}:∀{l:List (Nat×Ty)},QR C l=true->∀t T,Gc l t=some T->oI C t T
 |[],_,_,_,h=>by cases h
 |(a,S)::r,hc,t,T,h=>by
  simp only[QR,ze] at hc;simp only[Gc] at h;cases hb:Nat.beq a t with
  |true=>rw[hb] at h;simp only[cond_true,zB] at h;have:=zj hb;subst this h;exact z2t hc.1
  |false=>rw[hb] at h;exact qhx hc.2 t T h
structure cV (C:Cx):Prop where
 eY:∀t T,C.ty t=some T->oI C t T
section
variable {P:Program} {C:Cx} {X:Nat→Prop} {φ:Nat→Addr} {o:Nat→Obj} {w:World} {imm:Nat→Prop}
def Kx{e:Ty}{s:Sl (den e)}{z:Value}(h:ay φ o imm w (.d (.sl e) s) z):s.l.length<=cv/\((s.nil=true/\s.l=[]/\z=.slice none 0 0)\/(s.nil=false/\∃a cap ec,z=.slice (some a) s.l.length cap/\(cap≠0->a.spot=none)/\(s.l≠[]->imm a.block)/\bR (aE imm w e) s.l ec/\lV w a ec/\s.l.length<=cap)):=by
 simp only[ay,cY,aE] at h
 simp_all
def qqj{x:V}{z:Value}{t:Ty}{s:Sl (den t)}(h:ay φ o imm w x z)(he:Fv lf o x=some ⟨t,s⟩)(hl:∀id,rY φ o imm w id (o id)):(s.nil=true/\s.l=[]/\z=.slice none 0 0)\/(s.nil=false/\∃a cap,z=.slice (some a) s.l.length cap):=by
 cases x<;>simp only[Fv] at he<;>try (cases he;done)
 ·rename_i id ver;have ho:=hl id;unfold ay at h;split at he
  ·rename_i t' aC fr s' e1;rw[e1] at h ho;cases hb:Nat.beq ver aC with
   |false=>rw[hb] at he;cases he
   |true=>
    rw[hb] at he;simp only[cond_true,zB,Sigma.mk.injEq] at he;obtain⟨rfl,he⟩:=he;have he:=eq_of_heq he;subst he;have h:=h.2 (zj hb);rcases h with ⟨h1,h2⟩|⟨h1,cap,h2,h3,h4⟩
    ·exact .inl ⟨h1,ho.2.1 h1,h2⟩
    grind
  ·cases he
 ·rename_i id ver n cp;have ho:=hl id;unfold ay at h;split at he
  ·rename_i t' aC fr s' e1;rw[e1] at h ho;cases hb:Nat.beq ver aC with
   |false=>rw[hb] at he;cases he
   |true=>
    rw[hb] at he;simp only[cond_true,zB,Sigma.mk.injEq] at he;obtain⟨rfl,he⟩:=he;have he:=eq_of_heq he;subst he;obtain⟨h0,h,_⟩:=h.2 (zj hb);rcases h with ⟨h1,h2⟩|⟨h1,cap,h2,h3,h4⟩
    ·exact .inl ⟨h1,by simp[lf,aH,ho.2.1 h1],h2⟩
    ·have e2:(lf.aH s'.l n).length=n:=by simp[lf,aH,Nat.min_eq_left h0]
     grind
  ·cases he
 ·rename_i id ver lo;have ho:=hl id;unfold ay at h;split at he
  ·rename_i t' aC fr s' e1;rw[e1] at h ho;cases hb:Nat.beq ver aC with
   |false=>rw[hb] at he;cases he
   |true=>
    rw[hb] at he;simp only[cond_true,zB,Sigma.mk.injEq] at he;obtain⟨rfl,he⟩:=he;have he:=eq_of_heq he;subst he;obtain⟨k,rfl,hk,h⟩:=h.2 (zj hb);rcases h with ⟨h1,h2⟩|⟨h1,cap,h2,h3⟩
    ·exact .inl ⟨h1,by simp[lf,cj,ho.2.1 h1],h2⟩
    ·have e2:(lf.cj s'.l (k:Int)).length=s'.l.length-k:=by simp[lf,cj]
     grind
  ·cases he
end
def qu6:Value->Bool
 |.nilIface=>false|.agg _=>false|_=>true
section
variable {P:Program} {C:Cx} {X:Nat→Prop} {φ:Nat→Addr} {o:Nat→Obj} {w:World} {imm:Nat→Prop}
def qxp{op:BinOp}{t:TypeId}{x y:Operand}{a b:Value}(h:qu6 a=true):(eqGuard op t x y a b).run P w=.ok () w:=by cases a<;>first|(cases h;done)|(cases op<;>cases b<;>simp[eqGuard])
def zfr{op:BinOp}{t:TypeId}{x y:Value}{b:Bool}{v:V}{u:List (Nat×Obj)}(h:(jZ lf op b).aN v u)(he:(Op.equal t x y).run P w=.ok b w)(hi:∀op,op=.eql\/op=.neq->binOp op t x y=(match op with|.eql=>(do pure (.bool (<-Op.equal t x y)))|_=>(do pure (.bool (!(<-Op.equal t x y)))))):u=[]/\r9 P φ o imm w v (binOp op t x y):=by
 cases op<;>simp only[jZ,dW,Sa] at h
 ·obtain⟨rfl,rfl⟩:=h;refine⟨rfl,.bool b,?_,Gp⟩
  simp_all
 ·obtain⟨rfl,rfl⟩:=h;refine⟨rfl,.bool (!b),?_,Gp⟩
  simp_all
def QS{t:TypeId}{n:Nat}(h:Nat.beq (yI C t) n=true)(hn:n<5):∃d,C.P.underlying t=some d/\(match n,d with|0,.bool=>True|1,.slice _=>True|2,.func .. =>True|3,.pointer _=>True|4,.map .. =>True|_,_=>False):=by
 have h:=zj h;unfold yI at h;cases hd:desc C.P t with
 |none=>rw[hd] at h;simp at h;omega
 |some d=>rw[hd] at h;exact⟨d,ng hd,by cases d<;>simp only at h<;>subst h<;>first|trivial|omega⟩
def z2u(d:Nat){t e:TypeId}(ht:P.underlying t=some (.slice e))(b:Option Addr)(n m:Nat):(Op.equalIn (d+1) t (.slice b n m) (.slice none 0 0)).run P w=.ok b.isNone w:=by cases b<;>simp[Op.equalIn,run_underlying ht]
def qu7(d:Nat){t:TypeId}{ps rs:Array TypeId}{v:Bool}(ht:P.underlying t=some (.func ps rs v))(f:Fn)(a c:Array Value):(Op.equalIn (d+1) t (.func f a c) .nilFunc).run P w=.ok false w:=by simp[Op.equalIn,run_underlying ht]
def qm1(d:Nat){t:TypeId}{ps rs:Array TypeId}{v:Bool}(ht:P.underlying t=some (.func ps rs v)):(Op.equalIn (d+1) t .nilFunc .nilFunc).run P w=.ok true w:=by simp[Op.equalIn,run_underlying ht]
def zbb(d:Nat){t e:TypeId}(ht:P.underlying t=some (.pointer e))(a:Option Addr):(Op.equalIn (d+1) t (.pointer a) (.pointer none)).run P w=.ok a.isNone w:=by cases a<;>simp[Op.equalIn,run_underlying ht]
def LS{t:TypeId}{a b:Value}{r:Bool}(h:(Op.equalIn (9999+1) t a b).run P w=.ok r w):(Op.equal t a b).run P w=.ok r w:=h
def qnr{x:V}{z:Value}(hx:ay φ o imm w x z)(h:sure o x=true):∃a,z=.pointer (some a):=by
 cases x<;>simp only[sure] at h<;>try (cases h;done)
 ·rename_i id off;unfold ay at hx;cases e:o id<;>rw[e] at h hx<;>simp only at h hx<;>try (cases h;done)
  all_goals simp_all
 ·obtain⟨a,cs,h1,_⟩:=hx;exact⟨a,h1⟩
def sb{op:BinOp}{t:TypeId}{x y:Value}{b:Bool}{v:V}{u:List (Nat×Obj)}(h:(jZ lf op b).aN v u)(he:(Op.equal t x y).run P w=.ok b w)(hi:(∀op:BinOp,op=.eql->binOp op t x y=(do pure (.bool (<-Op.equal t x y))))/\(∀op:BinOp,op=.neq->binOp op t x y=(do pure (.bool (!(<-Op.equal t x y)))))):u=[]/\r9 P φ o imm w v (binOp op t x y):=zfr h he fun op ho=>by grind
def zbc{op:BinOp}{a b:Nat}{v:V}{u:List (Nat×Obj)}(h:(zfe lf op a b).aN v u)(t:TypeId):u=[]/\r9 P φ o imm w v (binOp op t (.float .f64 a) (.float .f64 b)):=by
 cases op<;>simp only[zfe,dW,Kw,Sa] at h
 ·obtain⟨y,h1,h2⟩:=h;simp only[Prod.mk.injEq] at h2;obtain⟨rfl,rfl⟩:=h2;have h1:Ieee.double.add a b=some y:=h1;exact⟨rfl,.float .f64 y,by simp[binOp,Op.floatArith,FloatKind.format,h1],W3⟩
 ·obtain⟨rfl,rfl⟩:=h;exact⟨rfl,.bool _,by simp[binOp,Op.floatCmp,FloatKind.format,lf,Ko],Gp⟩
def zbd{op:BinOp}{a b:Nat×Nat}{v:V}{u:List (Nat×Obj)}(h:(zff lf op a b).aN v u)(t:TypeId):u=[]/\r9 P φ o imm w v (binOp op t (.complex .f64 a.1 a.2) (.complex .f64 b.1 b.2)):=by
 cases op<;>simp only[zff,Kw,Sa] at h
 ·obtain⟨y,h1,h2⟩:=h;simp only[Prod.mk.injEq] at h2;obtain⟨rfl,rfl⟩:=h2;cases hx:Ieee.double.add a.1 b.1 with
  |none=>have h1:az (Ieee.double.add a.1 b.1) (fun x=>az (Ieee.double.add a.2 b.2) fun y=>some (x,y))=some y:=h1;rw[hx] at h1;cases h1
  |some x=>
   cases hz:Ieee.double.add a.2 b.2 with
   |none=>have h1:az (Ieee.double.add a.1 b.1) (fun x=>az (Ieee.double.add a.2 b.2) fun y=>some (x,y))=some y:=h1;rw[hx,hz] at h1;cases h1
   |some z=>have h1:az (Ieee.double.add a.1 b.1) (fun x=>az (Ieee.double.add a.2 b.2) fun y=>some (x,y))=some y:=h1;rw[hx,hz] at h1;injection h1 with h1;subst h1;exact⟨rfl,.complex .f64 x z,by simp[binOp,Op.complexOp,Op.Complex.arith,Op.floatArith,FloatKind.format,hx,hz],z60⟩
def zbe{op:BinOp}{t:TypeId}{x y:V}{zx zy:Value}{v:V}{u:List (Nat×Obj)}(hl:∀id,rY φ o imm w id (o id))(hx:ay φ o imm w x zx)(hy:ay φ o imm w y zy)(hj:∀(t:TypeId) (p:Ty) (a b:den p) (xs ys:Array Value),bQ t C.eqs=true->C.ty t=some (.st p)->aE imm w p a xs.toList->aE imm w p b ys.toList->(Op.equal t (.agg xs) (.agg ys)).run C.P w=.ok (xy lf p a b) w)(h:(QA lf C o op t x y).aN v u):u=[]/\r9 C.P φ o imm w v (binOp op t zx zy):=by
 have hc:∀(s:Bool) (zx:Value),(Nat.beq (yI C t) 1=true/\(jZ lf op s).aN v u)->zy=.slice none 0 0->(∃b n m,zx=.slice b n m/\b.isNone=s)->u=[]/\r9 C.P φ o imm w v (binOp op t zx zy):=by
  rintro s zx ⟨h1,h2⟩ rfl ⟨b,n,m,rfl,rfl⟩;obtain⟨d,hd,hk⟩:=QS h1 om;cases d<;>try exact False.elim hk
  exact sb h2 (LS (z2u _ hd _ _ _)) ⟨by rintro _ rfl;rfl,by rintro _ rfl;rfl⟩
 have hf:∀(zx:Value) (s:Bool),Nat.beq (yI C t) 3=true->(jZ lf op s).aN v u->zy=.pointer none->(∃a,zx=.pointer a/\a.isNone=s)->u=[]/\r9 C.P φ o imm w v (binOp op t zx zy):=by
  rintro zx s h1 h2 rfl ⟨a,rfl,rfl⟩;obtain⟨d,hd,hk⟩:=QS h1 om;cases d<;>try exact False.elim hk
  refine sb h2 (LS (zbb _ hd _)) ⟨by rintro _ rfl;rfl,by rintro _ rfl;rfl⟩
 unfold QA at h;split at h
 ·
  rename_i k a k' b;obtain⟨rfl,ha⟩:=oH hx;obtain⟨rfl,hb⟩:=oH hy;split at h
  ·exact z00 (.inl rfl) ha h t
  ·exact z00 (.inr rfl) ha h t
  ·split at h
   ·rename_i e _;subst e;exact zb8 ha h t
   ·cases h
 ·obtain⟨s,rfl,rfl,_⟩:=rZ hx;obtain⟨s',rfl,rfl,_⟩:=rZ hy;exact zba h t
 ·have e1:=Sb hx;have e2:=Sb hy;subst e1 e2;exact zbc h t
 ·have e1:=QO hx;have e2:=QO hy;subst e1 e2;exact zbd h t
 ·have e1:=vr hx;have e2:=vr hy;subst e1 e2;rw[dX] at h;obtain⟨d,hd,hk⟩:=QS h.1 om;cases d<;>try exact False.elim hk
  exact sb h.2 (LS (run_equalIn_bool _ _ _ _ _ hd)) ⟨by rintro _ rfl;rfl,by rintro _ rfl;rfl⟩
 ·rename_i p a p' b;split at h
  ·rename_i b' hb;rw[dX,ze] at h;unfold iN at hb;split at hb
   ·rename_i hp _;subst hp;simp only[zB] at hb;subst hb;obtain⟨xs,rfl,hm⟩:=hx;obtain⟨ys,rfl,hn⟩:=hy;exact sb h.2 (hj t p' a b xs ys h.1.1 (cg h.1.2) hm hn) ⟨by rintro _ rfl;rfl,by rintro _ rfl;rfl⟩
   ·cases hb
  ·cases h
 ·rename_i e s;rw[dX] at h;refine hc _ _ h hy ?_;obtain⟨_,h2⟩:=Kx hx;rcases h2 with ⟨h3,_,rfl⟩|⟨h3,a,cap,ec,rfl,_⟩
  ·exact⟨_,_,_,rfl,by rw[h3];rfl⟩
  ·exact⟨_,_,_,rfl,by rw[h3];rfl⟩
 ·rw[dX] at h;exact hc _ _ h hy ⟨_,_,_,hx,rfl⟩
 ·rename_i f l;rw[dX] at h;obtain⟨c,rfl,_⟩:=hx;have e2:zy=.nilFunc:=hy;subst e2;obtain⟨d,hd,hk⟩:=QS h.1 om;cases d<;>try exact False.elim hk
  exact sb h.2 (LS (qu7 _ hd _ _ _)) ⟨by rintro _ rfl;rfl,by rintro _ rfl;rfl⟩
 ·rw[dX] at h;have e1:zx=.nilFunc:=hx;have e2:zy=.nilFunc:=hy;subst e1 e2;obtain⟨d,hd,hk⟩:=QS h.1 om;cases d<;>try exact False.elim hk
  exact sb h.2 (LS (qm1 _ hd)) ⟨by rintro _ rfl;rfl,by rintro _ rfl;rfl⟩
 ·rename_i a k n;rw[dX] at h;have e2:zy=.nilFunc:=hy;subst e2;have hr:yQ imm w a k n zx:=hx;have hg:(Int.ofNat (ql a 0))=((a.length:Nat):Int):=by rw[qxm,zC];rfl
  obtain⟨d,hd,hk⟩:=QS h.1 om;cases d<;>try exact False.elim hk
  rcases W2 a hr with ⟨rfl,e⟩|⟨f,c,rfl,e⟩
  ·have hb:lf.e k (Int.ofNat (ql a 0))=true:=by rw[hg,e];show(((a.length:Nat):Int)==_)=true;simp
   rw[hb] at h;exact sb h.2 (LS (qm1 _ hd)) ⟨by rintro _ rfl;rfl,by rintro _ rfl;rfl⟩
  ·have hb:lf.e k (Int.ofNat (ql a 0))=false:=by rw[hg];show(k==_)=false;simp[e]
   rw[hb] at h;exact sb h.2 (LS (qu7 _ hd _ _ _)) ⟨by rintro _ rfl;rfl,by rintro _ rfl;rfl⟩
 ·rw[dX] at h;exact hf _ _ h.1 h.2 hy ⟨none,hx,rfl⟩
 ·rw[dX,ze] at h;obtain⟨a,ha⟩:=qnr hx h.1.2;exact hf _ _ h.1.1 h.2 hy ⟨some a,ha,rfl⟩
 ·split at h
  ·rename_i e s he;rw[dX] at h;refine hc _ _ h hy ?_;rcases qqj hx he hl with ⟨h3,_,rfl⟩|⟨h3,a,cap,rfl⟩
   ·exact⟨_,_,_,rfl,by rw[h3];rfl⟩
   ·exact⟨_,_,_,rfl,by rw[h3];rfl⟩
  ·cases h
 ·cases h
end
end Ev