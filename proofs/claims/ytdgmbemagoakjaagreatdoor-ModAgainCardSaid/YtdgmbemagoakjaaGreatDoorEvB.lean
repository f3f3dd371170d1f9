/- The evaluator: code; what data is in memory; numbers, strings, types. -/
import Derived.Test.YtdgmbemagoakjaaGreatDoorEvA
import GoSem.Machine.Frame
import GoSem.Core.Sem
import Derived.Orders
import Derived.Laws.Strings
import Derived.Laws.StructEq
import Derived.Laws.Slices
namespace Ev
open Go
variable{α β γ δ:Type}{ps rs:Array TypeId}{fr:Bool}{n:Int}{k k':IntKind}{u:List (Nat×Obj)}{l:List Int}{cs:List Value}{b ver:Nat}{φ φ':Nat→Addr}{o:Nat→Obj}{X imm':Nat→Prop}{P:Program}{T e:Ty}{t:TypeId}{v x:V}{val y z:Value}{w w':World}
def bit(t:Nat):Nat:=1<<<t
def Z4:Operand->Nat
 |.tmp t=>bit t
 |_=>0
def PG:List Operand->Nat
 |[]=>0
 |x::r=>Z4 x|||PG r
def zpk(a b:Nat):Nat:=(a|||b) ^^^ b
def zmm(o:Oper):Nat:=PG o.op.operands.toList
def Z5:List Oper->Nat->Nat
 |[],m=>m
 |o::r,m=>let m':=Z5 r m
  (match o.dst with|some d=>zpk m' (bit d)|none=>m')|||zmm o
def look(i:Nat):List (Nat×Nat)->Nat
 |[]=>0
 |(a,b)::r=>bif Nat.beq a i then b else look i r
def nH(n:Nat)(k:Nat->β):β:=Nat.rec (k 0) (fun m _=>k (Nat.succ m)) n
inductive AC where
 |skip
 |region (id:Nat) (ops:Array Oper) (draw:Bool)
 |seq (a b:AC)
 |cond (c:Operand) (m:List Nat) (a b:AC)
 |block (id:Nat) (m:List Nat) (b:AC)
 |loop (m:List Nat) (b:AC)
 |exit (id:Nat)
 |goto (l:Nat)
 |ret
 |scope (b:AC)
 |jump (l:Nat) (m:List Nat) (p r:AC)
 |bad
def GI(l:Nat):Code->Bool
 |.seq a b=>GI l a||GI l b
 |.cond _ a b=>GI l a||GI l b
 |.block _ b=>GI l b
 |.loop b=>GI l b
 |.scope b=>GI l b
 |.goto j=>Nat.beq j l
 |_=>false
def Vp(whole:Code):Code->Option Nat
 |.seq a b=>match Vp whole a with
  |some l=>some l
  |none=>Vp whole b
 |.label l=>bif GI l whole then some l else none
 |_=>none
def wB(nt:Nat):List Oper->Bool
 |[]=>true
 |o::r=>(match o.dst with|some d=>Nat.blt d nt|none=>true)&&wB nt r
def Dr(m:Nat):Nat->List Nat->(List Nat->β)->β
 |0,acc,k=>k acc
 |n+1,acc,k=>bif Nat.testBit m n then Dr m n (n::acc) k else Dr m n acc k
def ahead(l:Nat):Code->Option Code
 |.seq a b=>match ahead l a with
  |some c=>some c
  |none=>match ahead l b with
   |some c=>some (.seq a c)
   |none=>none
 |.label j=>bif Nat.beq j l then some .skip else none
 |_=>none
def rP(rt nt:Nat):Nat->(c:Code)->(ex gt:List (Nat×Nat))->Nat->(Nat->AC->β)->β
 |0,_,_,_,m,k=>k m .bad
 |_+1,.skip,_,_,m,k=>k m .skip
 |_+1,.label _,_,_,m,k=>k m .skip
 |_+1,.region id ops d,_,_,m,k=>bif wB nt ops.toList then nH (Z5 ops.toList m) fun m'=>k m' (.region id ops d) else k m .bad
 |n+1,.seq a b,ex,gt,m,k=>rP rt nt n b ex gt m fun mb b'=>rP rt nt n a ex gt mb fun ma a'=>k ma (.seq a' b')
 |n+1,.cond c a b,ex,gt,m,k=>rP rt nt n a ex gt m fun ma a'=>rP rt nt n b ex gt m fun mb b'=>nH (Z4 c|||ma|||mb) fun m'=>Dr m nt [] fun ts=>k m' (.cond c ts a' b')
 |n+1,.block id b,ex,gt,m,k=>rP rt nt n b ((id,m)::ex) gt m fun mb b'=>Dr m nt [] fun ts=>k mb (.block id ts b')
 |n+1,.loop b,ex,gt,_,k=>rP rt nt n b ex gt 0 fun m1 _=>rP rt nt n b ex gt m1 fun m2 b'=>Dr m2 nt [] fun ts=>k m2 (.loop ts b')
 |_+1,.exit id,ex,_,_,k=>k (look id ex) (.exit id)
 |_+1,.goto l,_,gt,_,k=>k (look l gt) (.goto l)
 |_+1,.ret,_,_,_,k=>k rt .ret
 |n+1,.scope b,ex,gt,m,k=>match Vp b b with
  |none=>rP rt nt n b ex gt m fun mb b'=>k mb (.scope b')
  |some l=>match ahead l b,findLabel b l with
   |some p,some r=>rP rt nt n r ex ((l,0)::gt) m fun m1 _=>rP rt nt n r ex ((l,m1)::gt) m fun m2 r'=>rP rt nt n p ex gt m2 fun mp p'=>Dr m2 nt [] fun ts=>k mp (.jump l ts p' r')
   |_,_=>k m .bad
 |_+1,_,_,_,m,k=>k m .bad
def Dt(id:Nat):AC->Bool
 |.seq a b=>Dt id a||Dt id b
 |.cond _ _ a b=>Dt id a||Dt id b
 |.block _ _ b=>Dt id b
 |.loop _ b=>Dt id b
 |.scope b=>Dt id b
 |.jump _ _ p r=>Dt id p||Dt id r
 |.exit j=>Nat.beq j id
 |_=>false
def wC:AC->Bool
 |.seq a b=>wC a&&wC b
 |.cond _ _ a b=>wC a||wC b
 |.block id _ b=>wC b||Dt id b
 |.loop _ _=>false
 |.scope b=>wC b
 |.jump _ _ p r=>wC p&&wC r
 |.exit _=>false
 |.ret=>false
 |.goto _=>false
 |.bad=>false
 |_=>true
def ways(id:Nat):AC->Nat
 |.seq a b=>ways id a+ways id b
 |.cond _ _ a b=>ways id a+ways id b
 |.block _ _ b=>ways id b
 |.loop _ b=>ways id b
 |.scope b=>ways id b
 |.jump _ _ p r=>ways id p+ways id r
 |.exit j=>bif Nat.beq j id then 1 else 0
 |_=>0
def xH:AC->Bool
 |.seq a b=>xH a||xH b
 |.cond _ _ a b=>xH a||xH b
 |.block _ _ b=>xH b
 |.loop _ b=>xH b
 |.scope b=>xH b
 |.jump _ _ p r=>xH p||xH r
 |.exit _=>true
 |.ret=>true
 |.goto _=>true
 |_=>false
inductive Ex where
 |normal|exit (id:Nat)|goto (l:Nat)|ret
section
variable (L:Lf) (C:Cx) (R:kX C.sigs)
def z58:List Nat->List V->Nat->V
 |t::ts,v::vs=>dR (z58 ts vs) t v
 |_,_=>fun _=>.dZ
def Im(d:Nat):List Oper->Option (List Oper×Oper×List Oper)
 |[]=>none
 |o::r=>match o.op with
  |.pick (.tmp c) _ _=>bif Nat.beq c d then some ([],o,r) else(Im d r).map fun p=>(o::p.1,p.2.1,p.2.2)
  |_=>(Im d r).map fun p=>(o::p.1,p.2.1,p.2.2)
def bN(st:St)(d:Option Nat)(v:V):St:=match d with
 |some d=>{st with env:=dR st.env d v}
 |none=>st
def Bo(st:St):List Oper->St
 |[]=>st
 |o::r=>Bo (bN st o.dst .dZ) r
def lS(rg i:Nat):Nat:=16*(1+256*rg+i)
mutual
def pB:V->(V->β)->β
 |.d t x,k=>k (.d t x)
 |.cC id ver,k=>nH id fun id=>nH ver fun ver=>k (.cC id ver)
 |.pre id ver n c,k=>nH id fun id=>nH ver fun ver=>k (.pre id ver n c)
 |.ptr id off,k=>nH id fun id=>nH off fun off=>k (.ptr id off)
 |.fn f l,k=>nH f fun f=>GJ l fun l=>k (.fn f l)
 |.mW l,k=>GJ l fun l=>k (.mW l)
 |.agg l,k=>GJ l fun l=>k (.agg l)
 |.ib id b,k=>nH id fun id=>k (.ib id b)
 |.j8 id ver lo,k=>nH id fun id=>nH ver fun ver=>k (.j8 id ver lo)
 |v,k=>k v
def GJ:List V->(List V->β)->β
 |[],k=>k []
 |v::l,k=>pB v fun v=>GJ l fun l=>k (v::l)
end
def PH:Obj->(Obj->β)->β
 |.box cs,k=>GJ cs fun cs=>k (.box cs)
 |.vec t ver fr s,k=>nH ver fun ver=>k (.vec t ver fr s)
 |o,k=>k o
def Vq(o:Nat->Obj):List (Nat×Obj)->((Nat->Obj)->β)->β
 |[],k=>k o
 |(i,x)::r,k=>nH i fun i=>PH x fun x=>Vq (dR o i x) r k
def uW(fr:Nat)(o:Nat->Obj):List (Nat×Obj)->((Nat->Obj)->Option β)->Option β
 |[],k=>k o
 |(i,x)::r,k=>nH i fun i=>bif Nat.ble fr i&&Nat.blt i (fr+16) then
   (match o i with
   |.none=>PH x fun x=>uW fr (dR o i x) r k
   |_=>none)
  else PH x fun x=>uW fr (dR o i x) r k
def xI(sk ts:List Nat)(s:Shape)(c:ak s.bQ)(k:St->β):β:=
 let p:=fill (dM sk) (fun _=>0) s c
 GJ p.1 fun vs=>Vq (fun _=>Obj.none) p.2 fun o=>k ⟨z58 ts vs,o⟩
mutual
def oU:Sh->(Sh->β)->β
 |.d t,k=>k (.d t)
 |.ref t,k=>k (.ref t)
 |.cC id,k=>nH id fun id=>k (.cC id)
 |.ptr id off,k=>nH id fun id=>nH off fun off=>k (.ptr id off)
 |.fn f l,k=>nH f fun f=>GK l fun l=>k (.fn f l)
 |.mW l,k=>GK l fun l=>k (.mW l)
 |.agg l,k=>GK l fun l=>k (.agg l)
 |.it id,k=>nH id fun id=>k (.it id)
 |.ib id,k=>nH id fun id=>k (.ib id)
 |.j8 id,k=>nH id fun id=>k (.j8 id)
 |s,k=>k s
def GK:List Sh->(List Sh->β)->β
 |[],k=>k []
 |s::l,k=>oU s fun s=>GK l fun l=>k (s::l)
end
def Z6:fG->(fG->β)->β
 |.box l,k=>GK l fun l=>k (.box l)
 |s,k=>k s
def Vr:List fG->(List fG->β)->β
 |[],k=>k []
 |s::l,k=>Z6 s fun s=>Vr l fun l=>k (s::l)
def K(γ:Type)(α:Type):Type 1:=(δ:Type)->(γ->δ)->α->Option δ
def zmn:(δ:Type)->(Bool->δ)->V->Option δ
 |_,w,.d .bool x=>some (w x)
 |_,_,_=>none
def Bp:Option (Nat->Obj)->List (Nat×Obj)->Bool
 |none,_=>true
 |some _,[]=>true
 |some o,(i,_)::r=>(match o i with|.none=>true|_=>false)&&Bp (some o) r
def Z7(f:Nat):List nG->Bool
 |[]=>false
 |s::r=>bif Nat.beq s.f f then(match s.bD with|[]=>Z7 f r|_=>true) else Z7 f r
def ziu:Op->Bool
 |.call c=>match c.callee with
  |.value (.func f)=>Z7 f C.sigs
  |_=>false
 |_=>false
def qz8(d:Nat)(l:List Oper):Bool:=match Im d l with
 |some (g,_,_)=>g.any fun o=>ziu C o.op
 |none=>false
def rl{γ δ:Type}(rg:Nat)(all:List Oper)(g0:Option (Nat->Obj)):Nat->(γ->δ)->Nat->List Oper->St->((γ->δ)->St->Option δ)->Option δ
 |0,_,_,_,_,_=>none
 |_+1,w,_,[],st,k=>k w st
 |n+1,w,i,o::r,st,k=>
  let run:=match dD L C R st.env st.obj (lS rg i) o.type o.op with
   |.fail=>none
   |.nQ v u=>bif Bp g0 u then pB v fun v=>uW (lS rg i) st.obj u fun o'=>rl rg all g0 n w (i+1) r (bN {st with obj:=o'} o.dst v) k else none
   |.dyn _ x out=>L.b x fun y=>bif Bp g0 (out y).2 then pB (out y).1 fun v=>uW (lS rg i) st.obj (out y).2 fun o'=>rl rg all g0 n w (i+1) r (bN {st with obj:=o'} o.dst v) k else none
  match o.guard with
  |none=>run
  |some (j,want)=>match all[j]? with
   |some oj=>match oj.dst with
    |some dj=>match st.env dj with
     |.lb b=>bif (bif want then b else !b) then run else rl rg all g0 n w (i+1) r (bN st o.dst .undef) k
     |.undef=>rl rg all g0 n w (i+1) r (bN st o.dst .undef) k
     |.d .bool x=>match g0 with
      |some g=>L.c x (rl rg all (some g) n w i (o::r) (bN st (some dj) (.lb true)) k) (rl rg all (some g) n w i (o::r) (bN st (some dj) (.lb false)) k)
      |none=>bif qz8 C dj (o::r) then L.c x (rl rg all none n w i (o::r) (bN st (some dj) (.lb true)) k) (rl rg all none n w i (o::r) (bN st (some dj) (.lb false)) k) else match Im dj (o::r) with
       |some (g,p,r')=>match p.dst with
        |some pd=>
         let br (b:Bool):Option Bool:=rl (γ:=Bool) (δ:=Bool) rg all (some st.obj) n (fun x=>x) i (g++[p]) (bN st (some dj) (.lb b)) (fun w' bV=>zmn _ w' (eI (bV.env pd)))
         L.b (L.c x (br true) (br false)) fun y=>rl rg all none n w (i+g.length+1) r' (bN (Bo st g) (some pd) (.d .bool y)) k
        |none=>none
       |none=>none
     |_=>none
    |none=>none
   |none=>none
mutual
def gB:V->List Nat
 |.cC id _=>[id]
 |.pre id _ _ _=>[id]
 |.ptr id _=>[id]
 |.l9 id _ _ _=>[id]
 |.it id=>[id]
 |.ib id _=>[id]
 |.j8 id _ _=>[id]
 |.fn _ l=>mf l
 |.mW l=>mf l
 |.agg l=>mf l
 |_=>[]
def mf:List V->List Nat
 |[]=>[]
 |v::l=>gB v++mf l
end
def Bq:Obj->List Nat
 |.box cs=>mf cs
 |_=>[]
def Vs(o:Nat->Obj):Nat->List Nat->List Nat
 |0,l=>l
 |n+1,l=>l++Vs o n (l.flatMap fun id=>Bq (o id))
structure Tr where
 i:Nat
 op:Oper
 rd:List Nat
 wr:List Nat
def bU:List (Nat×Obj)->List Nat
 |[]=>[]
 |p::r=>p.1::bU r
def Io(a b:List Nat):Bool:=a.all fun x=>!bF x b
def iy:List Oper->List Nat->List Nat
 |[],acc=>acc
 |o::r,acc=>iy r (acc++[o.after.toList.foldl (fun s e=>bif Region.binds .any e then s|||bit e.on|||acc.getD e.on 0 else s) 0])
def lT:List Operand->List Nat
 |[]=>[]
 |.tmp t::r=>t::lT r
 |_::r=>lT r
def N3(all:List Oper)(o:Oper):List Nat:=lT o.op.operands.toList++(match o.guard with
 |some (g,_)=>(match all[g]? with
  |some og=>(match og.dst with|some d=>[d]|none=>[])
  |none=>[])
 |none=>[])
def z59(d:Option Nat)(l:List Nat):Bool:=match d with
 |some d=>Dm d l
 |none=>true
def Z8(d:Option Nat):List Nat:=match d with
 |some d=>[d]
 |none=>[]
def Vt(all:List Oper)(a b:Tr):Bool:=z59 a.op.dst (N3 all b.op++Z8 b.op.dst)&&z59 b.op.dst (N3 all a.op)&&Io a.wr (b.rd++b.wr)&&Io b.wr a.rd
def Es(AF:List Nat)(all:List Oper)(a b:Tr):Bool:=Nat.testBit (AF.getD b.i 0) a.i||Vt all a b
def Vu(AF:List Nat)(all:List Oper)(b:Tr):List Tr->Bool
 |[]=>true
 |a::r=>Es AF all a b&&Vu AF all b r
def rQ(AF:List Nat)(all:List Oper):List Tr->Bool
 |[]=>true
 |b::r=>Vu AF all b r&&rQ AF all r
def Et:Op->Bool
 |.move _=>true
 |.assign _=>true
 |.nilCheck _=>true
 |.fieldAddr _ _ _=>true
 |_=>false
def rm(st:St)(o:Oper):List Nat:=match o.op with
 |.move _=>[]
 |.assign _=>[]
 |.nilCheck x=>gB (cE C st.env x)
 |.fieldAddr _ x _=>gB (cE C st.env x)
 |_=>Vs st.obj 4 (mf (o.op.operands.toList.map (cE C st.env)))
def Vv(l m:List Nat):Bool:=match l with
 |[]=>true
 |x::r=>bF x m&&Vv r m
def Br(o:Nat->Obj)(F:List Nat):List Nat->Bool
 |[]=>true
 |id::r=>Vv (Bq (o id)) F&&Br o F r
def uX(t:Nat):List (Nat×Bool)->Option Bool
 |[]=>none
 |(a,b)::r=>bif Nat.beq a t then some b else uX t r
def PI(d:Option Nat)(kn:List (Nat×Bool)):Bool:=match d with
 |some d=>(match uX d kn with|some _=>false|none=>true)
 |none=>true
def ij(env:Nat->V)(kn:List (Nat×Bool))(ts:List Nat):Nat->V:=fun t=>bif bF t ts then(match uX t kn with|some b=>.lb b|none=>env t) else .dZ
def eP(o:Nat->Obj)(F:List Nat):Nat->Obj:=fun id=>bif bF id F then o id else .none
def N4(i:Nat):List Edge->Bool
 |[]=>true
 |e::r=>(!(Region.binds .any e)||Nat.blt e.on i)&&N4 i r
def Ip(F:List Nat)(fr:Nat):List Nat->Bool
 |[]=>true
 |id::r=>(bF id F||(Nat.ble fr id&&Nat.blt id (fr+16)))&&Ip F fr r
def AG(rg:Nat):List Tr->Bool
 |[]=>true
 |t::r=>N4 t.i t.op.after.toList&&Ip t.rd (lS rg t.i) t.wr&&AG rg r
def Iq(o:Oper)(kn:List (Nat×Bool)):List (Nat×Bool):=match o.dst with
 |none=>kn
 |some d=>match o.op with
  |.move (.tmp t)=>(match uX t kn with
   |some y=>(d,y)::kn
   |none=>kn)
  |.pick (.tmp c) x y=>(match uX c kn with
   |some q=>(match(bif q then x else y) with
    |.const (.bool z)=>(d,z)::kn
    |_=>kn)
   |none=>kn)
  |_=>kn
def uY(rg:Nat)(all:List Oper):Nat->(γ->δ)->Nat->List Oper->St->List (Nat×Bool)->List Tr->((γ->δ)->St->Option δ)->Option δ
 |0,_,_,_,_,_,_,_=>none
 |_+1,w,_,[],st,_,tr,k=>bif rQ (iy all []) all tr&&AG rg tr then k w st else none
 |n+1,w,i,o::r,st,kn,tr,k=>
  let F:=rm C st o
  bif PI o.dst kn then
  let run:=bif Et o.op||Br st.obj F F then(match dD L C R (ij st.env kn (lT o.op.operands.toList)) (eP st.obj F) (lS rg i) o.type o.op with
   |.fail=>none
   |.nQ v u=>pB v fun v=>uW (lS rg i) st.obj u fun o'=>uY rg all n w (i+1) r (bN {st with obj:=o'} o.dst v) (Iq o kn) (⟨i,o,F,bU u⟩::tr) k
   |.dyn _ x out=>L.b x fun y=>pB (out y).1 fun v=>uW (lS rg i) st.obj (out y).2 fun o'=>uY rg all n w (i+1) r (bN {st with obj:=o'} o.dst v) (Iq o kn) (⟨i,o,F,bU (out y).2⟩::tr) k) else none
  match o.guard with
  |none=>run
  |some (j,want)=>match all[j]? with
   |some oj=>match oj.dst with
    |some dj=>match uX dj kn with
     |some b=>bif (bif want then b else !b) then run else uY rg all n w (i+1) r (bN st o.dst .undef) kn (⟨i,o,[],[]⟩::tr) k
     |none=>match st.env dj with
      |.undef=>uY rg all n w (i+1) r (bN st o.dst .undef) kn (⟨i,o,[],[]⟩::tr) k
      |.d .bool x=>L.c x (uY rg all n w i (o::r) st ((dj,true)::kn) tr k) (uY rg all n w i (o::r) st ((dj,false)::kn) tr k)
      |_=>none
    |none=>none
   |none=>none
  else none
end
section
variable (L:Lf) (C:Cx) (R:kX C.sigs)
def mg(sk:List Nat)(s:Shape)(w:ak s.bQ->δ)(aR:List (Nat×Nat))(o:Nat->Obj)(vs:List V):Option δ:=
 match Ik L sk aR o s vs with
 |some p=>some (w p.2)
 |none=>none
def qb:AC->List Oper
 |.region _ ops _=>ops.toList
 |.seq a b=>qb a++qb b
 |.cond _ _ a b=>qb a++qb b
 |.block _ _ b=>qb b
 |.loop _ b=>qb b
 |.scope b=>qb b
 |.jump _ _ p r=>qb p++qb r
 |_=>[]
def zpl(t:Nat):Option Nat->Bool
 |some d=>Nat.beq d t
 |none=>false
def Z9(l:List Nat):Operand->Bool
 |.tmp t=>bF t l
 |_=>false
def PJ(t:Nat):List Oper->List Nat
 |[]=>[t]
 |o::r=>match o.op,o.dst with
  |.move x,some d=>bif Z9 [t] x then d::PJ t r else PJ t r
  |_,_=>PJ t r
def ziw:Nat->List Sh->Bool
 |0,.d _::_=>true
 |n+1,_::r=>ziw n r
 |_,_=>false
def qza(f i:Nat):List nG->Bool
 |[]=>false
 |s::r=>(Nat.beq s.f f&&nU s.outs&&ziw i s.ins.roots)||qza f i r
def qzb(al:List Nat)(f:Nat):Nat->List Operand->Bool
 |_,[]=>false
 |i,x::r=>(Z9 al x&&qza f i C.sigs)||qzb al f (i+1) r
def zix(al:List Nat)(o:Oper):Bool:=match o.op with
 |.call c=>match c.callee with
  |.value (.func f)=>qzb C al f 0 c.args.toList
  |_=>false
 |_=>false
def zpm(ops:List Oper)(t:Nat):Bool:=!(ops.any fun o=>zpl t o.dst)&&ops.any (zix C (PJ t ops))
def qx3(f i:Nat):List nG->Bool
 |[]=>false
 |s::r=>(Nat.beq s.f f&&ziw i s.outs.roots)||qx3 f i r
def Vw(t:Nat):List (Nat×Nat)->Option Nat
 |[]=>none
 |(a,f)::r=>bif Nat.beq a t then some f else Vw t r
def aaa:Option Ty->Bool
 |some (.sl _)=>true
 |_=>false
def Du:List Oper->List (Nat×Nat)->List Nat->List Nat
 |[],_,dt=>dt
 |o::r,tt,dt=>match o.dst with
  |none=>Du r tt dt
  |some d=>match o.op with
   |.call c=>match c.callee with
    |.value (.func f)=>Du r ((d,f)::tt) (bif qx3 f 0 C.sigs then d::dt else dt)
    |_=>Du r tt dt
   |.move (.tmp x)=>Du r (match Vw x tt with|some f=>(d,f)::tt|none=>tt) (bif bF x dt then d::dt else dt)
   |.assign (.tmp x)=>Du r tt (bif bF x dt then d::dt else dt)
   |.indexAddr .. =>Du r ((d,1000000000)::tt) dt
   |.load t (.tmp x)=>Du r tt (match Vw x tt with|some f=>bif Nat.beq f 1000000000&&aaa (C.ty t) then d::dt else dt|none=>dt)
   |.extract (.tmp x) i=>Du r tt (match Vw x tt with|some f=>bif qx3 f i C.sigs then d::dt else dt|none=>dt)
   |_=>Du r tt dt
def Vx(sk:List Nat):List Sh->List V->List Nat
 |.d (.sl _)::cs,.cC id _::vs=>bif Dm id sk then id::Vx sk cs vs else Vx sk cs vs
 |_::cs,_::vs=>Vx sk cs vs
 |_,_=>[]
def zg6(sk:List Nat)(s:Shape)(vs:List V):Nat->List Sh->List Nat
 |0,.ptr j 0::_=>match s.ar[j]? with
  |some (.box cs)=>Vx sk cs vs
  |_=>[]
 |n+1,_::r=>zg6 sk s vs n r
 |_,_=>[]
def zg7(sk:List Nat)(f i:Nat)(vs:List V):List nG->List Nat
 |[]=>[]
 |s::r=>bif Nat.beq s.f f then zg6 sk s.ins vs i s.ins.roots else zg7 sk f i vs r
def zg8(sk al:List Nat)(f:Nat)(vs:List V):Nat->List Operand->List Nat
 |_,[]=>[]
 |i,x::r=>bif Z9 al x then zg7 sk f i vs C.sigs else zg8 sk al f vs (i+1) r
def Vy(sk al:List Nat)(vs:List V):List Oper->List Nat
 |[]=>[]
 |o::r=>match o.op with
  |.call c=>match c.callee with
   |.value (.func f)=>zg8 C sk al f vs 0 c.args.toList++Vy sk al vs r
   |_=>Vy sk al vs r
  |_=>Vy sk al vs r
def N5(sk:List Nat)(ops:List Oper)(dt:List Nat)(env:Nat->V)(o:Nat->Obj):List Nat->List Nat
 |[]=>[]
 |t::r=>match env t with
  |.cC id _=>bif (bF t dt||zpm C ops t)&&Dm id sk then id::N5 sk ops dt env o r else N5 sk ops dt env o r
  |.ptr id 0=>match o id with
   |.box vs=>Vy C sk (PJ t ops) vs ops++N5 sk ops dt env o r
   |_=>N5 sk ops dt env o r
  |_=>N5 sk ops dt env o r
def N6(sk:List Nat)(st:St)(ts:List Nat)(ops:List Oper):Shape:=zik sk (aj st.obj (eY st.obj (N5 C sk ops (Du C ops [] []) st.env st.obj ts))) (ts.map fun t=>eI (st.env t))
def N7(sk:List Nat)(st:St)(ts:List Nat)(ops:List Oper)(k:Shape->β):β:=
 let s:=N6 C sk st ts ops
 GK s.roots fun r=>Vr s.ar fun o=>k ⟨r,o⟩
def ev(sk:List Nat):(c:AC)->St->(γ δ:Type)->(γ->δ)->((δ:Type)->(γ->δ)->Ex->St->Option δ)->Option δ
 |.skip,st,_,δ,w,k=>k δ w .normal st
 |.region rg ops true,st,_,δ,w,k=>uY L C R rg ops.toList (2*ops.toList.length+1) w 0 ops.toList st [] [] (fun w st=>k δ w .normal st)
 |.region rg ops false,st,_,δ,w,k=>rl L C R rg ops.toList none (2*ops.toList.length+2) w 0 ops.toList st (fun w st=>k δ w .normal st)
 |.seq a b,st,γ,δ,w,k=>ev sk a st γ δ w fun δ w e bV=>match e with
  |.normal=>ev sk b bV γ δ w k
  |e=>k δ w e bV
 |.cond c ts a b,st,γ,δ,w,k=>match cE C st.env c with
  |.d .bool x=>bif wC a&&wC b then
    N7 C sk st ts (qb a++qb b) fun s=>
    bif xH a||xH b then
     let k':(dK:Type)->(ak s.bQ⊕δ->dK)->Ex->St->Option dK:=fun dK w' e bV=>match e with
      |.normal=>mg L sk s (fun c=>w' (.inl c)) (uT 0 sk) bV.obj (ts.map fun t=>eI (bV.env t))
      |e=>k dK (fun g=>w' (.inr (w g))) e bV
     L.b (L.c x (ev sk a st (ak s.bQ⊕δ) (ak s.bQ⊕δ) (fun x=>x) k') (ev sk b st (ak s.bQ⊕δ) (ak s.bQ⊕δ) (fun x=>x) k'))
      (L.cd fun c=>xI sk ts s c fun st=>k δ w .normal st)
    else
     let k':(dK:Type)->(ak s.bQ->dK)->Ex->St->Option dK:=fun _ w' e bV=>match e with
      |.normal=>mg L sk s w' (uT 0 sk) bV.obj (ts.map fun t=>eI (bV.env t))
      |_=>none
     L.b (L.c x (ev sk a st (ak s.bQ) (ak s.bQ) (fun x=>x) k') (ev sk b st (ak s.bQ) (ak s.bQ) (fun x=>x) k'))
      (fun c=>xI sk ts s c fun st=>k δ w .normal st)
   else L.c x (ev sk a st γ δ w k) (ev sk b st γ δ w k)
  |_=>none
 |.block id ts b,st,γ,δ,w,k=>bif Nat.ble 2 (ways id b+(bif wC b then 1 else 0)) then
    N7 C sk st ts (qb b) fun s=>
    let k':(dK:Type)->(ak s.bQ⊕δ->dK)->Ex->St->Option dK:=fun dK w' e bV=>match e with
     |.normal=>mg L sk s (fun c=>w' (.inl c)) (uT 0 sk) bV.obj (ts.map fun t=>eI (bV.env t))
     |.exit j=>bif Nat.beq j id then mg L sk s (fun c=>w' (.inl c)) (uT 0 sk) bV.obj (ts.map fun t=>eI (bV.env t)) else k dK (fun g=>w' (.inr (w g))) (.exit j) bV
     |e=>k dK (fun g=>w' (.inr (w g))) e bV
    L.b (ev sk b st (ak s.bQ⊕δ) (ak s.bQ⊕δ) (fun x=>x) k') (L.cd fun c=>xI sk ts s c fun st=>k δ w .normal st)
   else ev sk b st γ δ w fun δ w e bV=>match e with
    |.exit j=>bif Nat.beq j id then k δ w .normal bV else k δ w (.exit j) bV
    |e=>k δ w e bV
 |.loop ts b,st,_,δ,w,k=>
   N7 C sk st ts (qb b) fun s=>
   match Ik L sk (uT 0 sk) st.obj s (ts.map fun t=>eI (st.env t)) with
   |some p=>L.o (fun c=>xI sk ts s c fun st=>ev sk b st (ak s.bQ⊕δ) (ak s.bQ⊕δ) (fun x=>x) fun dK w' e bV=>match e with
     |.normal=>mg L sk s (fun c=>w' (.inl c)) (uT 0 sk) bV.obj (ts.map fun t=>eI (bV.env t))
     |e=>k dK (fun g=>w' (.inr (w g))) e bV) p.2
   |none=>none
 |.jump l ts p r,st,γ,δ,w,k=>ev sk p st γ δ w fun δ w e st=>match e with
  |.normal=>
   N7 C sk st ts (qb r) fun s=>
   match Ik L sk (uT 0 sk) st.obj s (ts.map fun t=>eI (st.env t)) with
   |some p=>L.o (fun c=>xI sk ts s c fun st=>ev sk r st (ak s.bQ⊕δ) (ak s.bQ⊕δ) (fun x=>x) fun dK w' e bV=>match e with
     |.goto l'=>bif Nat.beq l' l then mg L sk s (fun c=>w' (.inl c)) (uT 0 sk) bV.obj (ts.map fun t=>eI (bV.env t)) else none
     |e=>k dK (fun g=>w' (.inr (w g))) e bV) p.2
   |none=>none
  |.goto _=>none
  |e=>k δ w e st
 |.exit id,st,_,δ,w,k=>k δ w (.exit id) st
 |.goto l,st,_,δ,w,k=>k δ w (.goto l) st
 |.ret,st,_,δ,w,k=>k δ w .ret st
 |.scope b,st,γ,δ,w,k=>ev sk b st γ δ w fun δ w e st=>match e with
  |.goto _=>none
  |e=>k δ w e st
 |.bad,_,_,_,_,_=>none
def Eu(env:Nat->V):Nat->List V->Nat->V
 |_,[]=>env
 |i,v::r=>Eu (dR env i v) (i+1) r
def Ew:List ResultVar->Nat
 |[]=>0
 |.tmp t::r=>bit t|||Ew r
 |.cell t _::r=>bit t|||Ew r
def xJ(st:St):List ResultVar->Option (List V)
 |[]=>some []
 |.tmp t::r=>match xJ st r with
  |some l=>some (eI (st.env t)::l)
  |none=>none
 |.cell t ty::r=>match Vd L C st.obj ty (st.env t) with
  |.nQ v _=>match xJ st r with
   |some l=>some (v::l)
   |none=>none
  |_=>none
def N8(sk:List Nat)(s:Shape)(w:ak s.bQ->δ)(st:St)(rs:List ResultVar):Option δ:=
 match xJ L C st rs with
 |some vs=>mg L sk s w (YF sk) st.obj vs
 |none=>none
def N9(i:Nat)(x:ak (bI C.sigs i).ins.bQ):Option (ak (bI C.sigs i).outs.bQ):=
 let sg:=bI C.sigs i
 match C.P.funcs.toList[sg.f]? with
 |none=>none
 |some fn=>match fn.body with
  |none=>none
  |some b=>
   let p:=fill id (fun _=>0) sg.ins x;let k:=sg.ins.ar.length
   bif NV k (bI C.sigs i).bD&&Nat.ble p.1.length fn.ntmps then rP (Ew fn.results.toList) fn.ntmps 1000 b [] [] (Ew fn.results.toList) fun _ ac=>ev L C R (bI C.sigs i).bD ac ⟨Eu (fun _=>.undef) 0 p.1,aj (fun _=>Obj.none) p.2⟩
    (ak (bI C.sigs i).outs.bQ) (ak (bI C.sigs i).outs.bQ) (fun x=>x) fun _ w e st=>match e with
    |.normal=>N8 L C (bI C.sigs i).bD (bI C.sigs i).outs w st fn.results.toList
    |.ret=>N8 L C (bI C.sigs i).bD (bI C.sigs i).outs w st fn.results.toList
    |_=>none else none
end
def cG:Nat:=9223372036854775807
def iI(k:IntKind)(n:Int):Prop:=k.min<=n/\n<=k.max
def mN(w:World)(a:Addr)(cs:List Value):Prop:=∀j (h:j<cs.length),w.cell? ⟨a.block,a.off+j,none⟩=some cs[j]
def bT(f:α->List Value->Prop):List α->List Value->Prop
 |[],cs=>cs=[]
 |x::l,cs=>∃c d,cs=c++d/\f x c/\bT f l d
def az(imm:Nat->Prop)(w:World):(t:Ty)->den t->List Value->Prop
 |.unit,_,cs=>cs=[]
 |.pair a b,x,cs=>∃c d,cs=c++d/\az imm w a x.1 c/\az imm w b x.2 d
 |.st p,x,cs=>az imm w p x cs
 |.arr n e,l,cs=>List.length l=n/\bT (az imm w e) l cs
 |.int k,n,cs=>cs=[.int k n]/\iI k n
 |.bool,b,cs=>cs=[.bool b]
 |.gz,b,cs=>cs=[.float .f64 b]
 |.fY,b,cs=>cs=[.complex .f64 b.1 b.2]
 |.str,l,cs=>∃s:ByteArray,cs=[.string s]/\s.data.toList.map (fun b=>(b.toNat:Int))=l/\s.size<=cG
 |.sl e,s,cs=>∃v,cs=[v]/\s.l.length<=cG/\((s.nil=true/\s.l=[]/\v=.slice none 0 0)\/
   (s.nil=false/\∃a cap ec,v=.slice (some a) s.l.length cap/\(cap≠0->a.spot=none)/\(s.l≠[]->imm a.block)/\bT (az imm w e) s.l ec/\mN w a ec/\s.l.length<=cap))
def dS(imm:Nat->Prop)(w:World)(t:Ty)(x:den t)(v:Value):Prop:=
 match t,x with
 |.st p,x=>∃cs:Array Value,v=.agg cs/\az imm w p x cs.toList
 |.arr n e,x=>∃cs:Array Value,v=.agg cs/\az imm w (.arr n e) x cs.toList
 |.unit,_=>False
 |.pair _ _,_=>False
 |t,x=>az imm w t x [v]
theorem rq{f g:α->List Value->Prop}:∀{l:List α} {cs:List Value},(∀x c,f x c->g x c)->bT f l cs->bT g l cs
 |[],_,_,h=>h
 |_::_,_,hf,⟨c,d,e,h1,h2⟩=>⟨c,d,e,hf _ _ h1,rq hf h2⟩
theorem qm2{a:Addr}(h:w'.heap[a.block]?=w.heap[a.block]?):w'.cell? a=w.cell? a:=by unfold World.cell?;rw[h]
theorem Oa{a:Addr}(h:w'.heap[a.block]?=w.heap[a.block]?)(hc:mN w a cs):mN w' a cs:=by intro j hj;rw[<-hc j hj];exact qm2 h
theorem z2q{f:α->List Value->Prop}{l:List α}{a:Addr}(hr:bT f l cs)(h:l≠[]->w'.heap[a.block]?=w.heap[a.block]?)(hc:mN w a cs):mN w' a cs:=by
 cases l with
 |nil=>intro j hj;rw[show cs=[] from hr] at hj;cases hj
 |cons x l=>exact Oa (h (List.cons_ne_nil x l)) hc
theorem j9{imm:Nat->Prop}(hi:∀b,imm b->imm' b)(hw:∀b,imm b->w'.heap[b]?=w.heap[b]?):∀(t:Ty) (x:den t) (cs:List Value),az imm w t x cs->az imm' w' t x cs
 |.unit,_,_,h=>h
 |.pair a b,x,_,⟨c,d,e,h1,h2⟩=>⟨c,d,e,j9 hi hw a x.1 c h1,j9 hi hw b x.2 d h2⟩
 |.st p,x,cs,h=>j9 hi hw p x cs h
 |.arr _ e,_,_,⟨h1,h2⟩=>⟨h1,rq (j9 hi hw e) h2⟩
 |.int _,_,_,h=>h
 |.bool,_,_,h=>h
 |.gz,_,_,h=>h
 |.fY,_,_,h=>h
 |.str,_,_,h=>h
 |.sl e,_,_,⟨v,e1,hl,h⟩=>⟨v,e1,hl,h.imp id fun⟨hn,a,cap,ec,e2,hs,hb,hr,hc,he⟩=>⟨hn,a,cap,ec,e2,hs,fun hf=>hi _ (hb hf),rq (j9 hi hw e) hr,z2q hr (fun hf=>hw _ (hb hf)) hc,he⟩⟩
theorem ke{imm:Nat->Prop}:∀(t:Ty) (x:den t) (cs:List Value),az imm w t x cs->cs.length=aB t
 |.unit,_,_,h=>by simp[az] at h;simp[h,aB]
 |.pair a b,x,_,⟨c,d,e,h1,h2⟩=>by subst e;simp[aB,ke a x.1 c h1,ke b x.2 d h2]
 |.st p,x,cs,h=>by simpa[aB] using ke p x cs h
 |.arr n e,l,cs,⟨h1,h2⟩=>by
   have key:∀(l:List (den e)) (cs:List Value),bT (az imm w e) l cs->cs.length=l.length*aB e:=by
    intro l
    induction l with
    |nil=>intro cs h;simp[bT] at h;simp[h]
    |cons y l ih=>intro cs ⟨c,d,e1,h3,h4⟩;subst e1;simp[ke e y c h3,ih d h4,Nat.succ_mul,Nat.add_comm]
   rw[key l cs h2,h1];simp[aB]
 |.int _,_,_,h=>by simp[az] at h;simp[h.1,aB]
 |.bool,_,_,h=>by simp[az] at h;simp[h,aB]
 |.gz,_,_,h=>by simp[az] at h;simp[h,aB]
 |.fY,_,_,h=>by simp[az] at h;simp[h,aB]
 |.str,_,_,⟨s,h,_⟩=>by simp[h,aB]
 |.sl e,_,_,⟨v,h,_⟩=>by simp[h,aB]
theorem rR{imm:Nat->Prop}:∀{l:List (den e)} {cs:List Value},bT (az imm w e) l cs->cs.length=l.length*aB e
 |[],cs,h=>by simp[bT] at h;simp[h]
 |y::l,cs,⟨c,d,e1,h3,h4⟩=>by subst e1;simp[ke e y c h3,rR h4,Nat.succ_mul,Nat.add_comm]
theorem PK{f:α->List Value->Prop}:∀{l m:List α} {cs ds:List Value},bT f l cs->bT f m ds->bT f (l++m) (cs++ds)
 |[],_,_,_,h,h'=>by simp[bT] at h;simpa[h] using h'
 |_::_,_,_,_,⟨c,d,e,h1,h2⟩,h'=>⟨c,d++_,by rw[e,zk],h1,PK h2 h'⟩
theorem xK{imm:Nat->Prop}:∀{l:List (den e)} {cs:List Value} (n:Nat),n<=l.length->bT (az imm w e) l cs->bT (az imm w e) (l.take n) (cs.take (n*aB e))/\bT (az imm w e) (l.drop n) (cs.drop (n*aB e))
 |l,cs,0,_,h=>by simpa[bT] using h
 |[],_,n+1,hn,_=>by simp at hn
 |y::l,cs,n+1,hn,⟨c,d,e1,h3,h4⟩=>by
  subst e1;have hc:=ke e y c h3;obtain⟨h5,h6⟩:=xK n (by simp_all) h4;have e2:(n+1)*aB e=c.length+n*aB e:=by rw[hc,Zm,Jb]
  rw[e2,List.take_length_add_append];exact⟨⟨c,_,rfl,h3,h5⟩,by simpa using h6⟩
theorem PL{imm:Nat->Prop}{l:List (den e)}(h:bT (az imm w e) l cs)(i:Nat)(hi:i<l.length):az imm w e l[i] ((cs.drop (i*aB e)).take (aB e)):=by
 have⟨_,h2⟩:=xK i (Nat.le_of_lt hi) h;rw[Zg hi] at h2;have⟨c,d,e1,h3,_⟩:=h2;rw[e1,<-ke e _ c h3,Zz]
 ·exact h3
 ·rfl
def gQ:(p:Ty)->Nat->Nat
 |.pair _ _,0=>0
 |.pair a b,n+1=>aB a+gQ b n
 |_,_=>0
def tyF:(p:Ty)->Nat->Ty
 |.pair a _,0=>a
 |.pair _ b,n+1=>tyF b n
 |t,_=>t
def kY:List Nat->Ty->Nat
 |[],_=>0
 |f::r,.st p=>gQ p f+kY r (tyF p f)
 |_::_,_=>0
def live:Obj->Bool
 |.box _=>true
 |.vec _ _ fr s=>!s.nil&&!fr
 |.iter _ _=>true
 |.dead=>false
 |.none=>false
def z5b:Obj->Addr->Bool
 |.vec _ _ _ _,a=>a.spot.isSome
 |_,_=>false
def aV(a:Addr)(x:Obj):Bool:=live x&&!z5b x a
def bare(a:Addr):Addr:=⟨a.block,a.off,match a.spot with|none=>none|some 0=>none|some (k+1)=>some k⟩
def mark(a:Addr):Addr:=⟨a.block,a.off,match a.spot with|none=>some 0|some k=>some (k+1)⟩
theorem Vz{a:Addr}(h:a.spot=none):bare a=a:=by cases a;cases h;rfl
theorem z5c(a:Addr):bare (mark a)=a:=by have⟨b,f,s⟩:=a;cases s<;>rfl
theorem z5d(a:Addr):(mark a).spot≠none:=by have⟨b,f,s⟩:=a;cases s<;>exact nofun
theorem qm3{a:Addr}(h:a.spot=none):(bare a).spot=none:=by rw[Vz h];exact h
theorem VA{a:Addr}(h:a.spot=none):bare a=⟨a.block,a.off,none⟩:=by unfold bare;rw[h]
theorem Ir{a:Addr}{cap:Nat}(h:a.spot.isSome=true->cap=0):cap≠0->(bare a).spot=none:=fun hc=>qm3 (by
 cases e:a.spot with
 |none=>rfl
 |some k=>exact absurd (h (by rw[e];rfl)) hc)
theorem uZ{a:Addr}{t:Ty}{s:Sl (den t)}(hn:s.nil=false)(ha:a.spot=none):aV a (.vec t ver false s)=true:=by simp[aV,live,z5b,hn,ha]
theorem nI{a:Addr}(h:aV a .none=true):False:=by simp[aV,live] at h
theorem Ey{a:Addr}{t:Ty}{s:Sl (den t)}(h:aV a (.vec t ver fr s)=true):s.nil=false/\fr=false/\a.spot=none:=by have h:(!s.nil&&!fr&&!a.spot.isSome)=true:=h;cases hn:s.nil<;>cases fr<;>cases hs:a.spot<;>simp[hn,hs] at h ⊢
def qd(φ:Nat->Addr)(o:Nat->Obj)(b:Nat):Prop:=∃id,aV (φ id) (o id)=true/\(φ id).block=b
def ag(X:Nat->Prop)(φ:Nat->Addr)(o:Nat->Obj)(w:World)(b:Nat):Prop:=b<w.heap.size/\¬X b/\¬qd φ o b
def room(w:World)(a:Addr)(n:Nat):Prop:=∃c el lo hi,w.heap[a.block]?=some (.cells c el (lo,hi))/\a.off+n<=c.size/\(hi<=lo\/hi<=a.off\/a.off+n<=lo)
def Ob(w:World)(a:Addr)(nil fr:Bool)(sz n:Nat)(v:Value):Prop:=(nil=true/\v=.slice none 0 0)\/(nil=false/\∃cap,v=.slice (some (bare a)) n cap/\n<=cap/\(a.spot.isSome=true->cap=0)/\(fr=false->a.spot=none->room w a (cap*sz)))
def zmo(a:Addr)(nil:Bool)(sz:Nat)(lo:Int)(n:Nat)(v:Value):Prop:=∃k:Nat,lo=(k:Int)/\k<=n/\((nil=true/\v=.slice none 0 0)\/(nil=false/\∃cap,v=.slice (some (if cap=0 then bare a else⟨a.block,a.off+k*sz,none⟩)) (n-k) cap/\n-k<=cap))
def VB(imm:Nat->Prop)(w:World)(n:Int)(v:Value):Prop:=∃a cs,v=.pointer (some a)/\a.spot=none/\imm a.block/\az imm w (.int .i64) n cs/\mN w a cs
def AH(imm:Nat->Prop)(w:World):List (Nat×Bool)->Int->Int->Value->Prop
 |[],k,_,v=>k=0/\v=.nilFunc
 |(f,c)::r,k,n,v=>(k=0/\match c with
  |false=>v=.func (.func f) #[] #[]
  |true=>∃p,v=.func (.func f) #[] #[p]/\VB imm w n p)\/(k≠0/\AH imm w r (k-1) n v)
theorem VC{imm:Nat->Prop}:∀(a:List (Nat×Bool)) {k:Int} {v:Value},AH imm w a k n v->(v=.nilFunc/\k=((a.length:Nat):Int))\/(∃f c,v=.func (.func f) #[] c/\k≠((a.length:Nat):Int))
 |[],k,v,h=>.inl ⟨h.2,h.1⟩
 |(f,c)::r,k,v,h=>by
  rcases h with ⟨h1,h2⟩|⟨h1,h2⟩
  ·refine .inr ?_;have hk:k≠(((f,c)::r).length:Int):=by rw[zn];omega
   cases c with
   |false=>exact⟨f,#[],h2,hk⟩
   |true=>have⟨p,h3,_⟩:=h2;exact⟨f,#[p],h3,hk⟩
  ·rcases VC r h2 with ⟨h3,h4⟩|⟨g,d,h3,h4⟩
   all_goals grind
theorem qx4:∀(l:List α) (i:Nat),pZ l i=i+l.length
 |[],_=>rfl
 |_::r,i=>by show pZ r (i+1)=_;rw[qx4 r,zn];omega
theorem qm4{imm:Nat->Prop}(h:∀p,VB imm w n p->VB imm' w' n p):∀(a:List (Nat×Bool)) (k:Int) (v:Value),AH imm w a k n v->AH imm' w' a k n v
 |[],_,_,e=>e
 |(f,c)::r,k,v,e=>by
  rcases e with ⟨e1,e2⟩|⟨e1,e2⟩
  ·refine .inl ⟨e1,?_⟩;cases c with
   |false=>exact e2
   |true=>grind
  ·exact .inr ⟨e1,qm4 h r (k-1) v e2⟩
def PM(f:Nat)(c:Array Value):Value:=.func (.func (f % 1048576)) (c.toList.take (f / 1048576)).toArray (c.toList.drop (f / 1048576)).toArray
theorem VD{f:Nat}(h:f<1048576)(c:Array Value):PM f c=.func (.func f) #[] c:=by unfold PM;rw[Jf h,JA h,List.take_zero,jh]
mutual
def au(φ:Nat->Addr)(o:Nat->Obj)(imm:Nat->Prop)(w:World):V->Value->Prop
 |.d t x,v=>dS imm w t x v
 |.cC id ver,v=>match o id with
  |.vec t aA fr s=>ver<=aA/\(ver=aA->Ob w (φ id) s.nil fr (aB t) s.l.length v)
  |.none=>False
  |_=>True
 |.pre id ver n cp,v=>match o id with
  |.vec t aA fr s=>ver<=aA/\(ver=aA->n<=s.l.length/\Ob w (φ id) s.nil fr (aB t) n v/\(cp=true->∀a m c,v=.slice a m c->c=n))
  |.none=>False
  |_=>True
 |.ptr id off,v=>match o id with
  |.none=>False
  |.dead=>True
  |.vec _ ver _ _=>ver=0->v=.pointer (some ⟨(φ id).block,(φ id).off+off,none⟩)
  |_=>v=.pointer (some ⟨(φ id).block,(φ id).off+off,none⟩)
 |.l9 id ver i path,v=>match o id with
  |.vec t aA _ s=>ver<=aA/\(ver=aA->i<s.l.length/\v=.pointer (some ⟨(φ id).block,(φ id).off+i*aB t+kY path t,none⟩))
  |.none=>False
  |_=>True
 |.ref t x,v=>∃a cs,v=.pointer (some a)/\a.spot=none/\imm a.block/\az imm w t x cs/\mN w a cs
 |.rr t x,v=>∃a b cs,v=.pointer (some a)/\a.spot=none/\imm a.block/\mN w a [.pointer (some b)]/\b.spot=none/\imm b.block/\az imm w t x cs/\mN w b cs
 |.iM,v=>v=.pointer none
 |.fn f l,v=>∃c:Array Value,v=PM f c/\cu φ o imm w l c.toList
 |.ie,v=>v=.nilFunc
 |.mW l,v=>∃c:Array Value,v=.tuple c/\cu φ o imm w l c.toList
 |.agg l,v=>∃c:Array Value,v=.agg c/\cu φ o imm w l c.toList
 |.it id,v=>match o id with
  |.none=>False
  |.iter _ _=>v=.pointer (some ⟨(φ id).block,0,none⟩)
  |_=>True
 |.UZ b p c,v=>(b=true/\v=.tuple #[.bool true,.int .i64 p,.int .i32 c]/\iI .i64 p/\iI .i32 c)\/(b=false/\v=.tuple #[.bool false])
 |.iN,v=>v=.nilIface
 |.fa a k n,v=>AH imm w a k n v
 |.fS,v=>v=.slice none 0 0
 |.lb b,v=>v=.bool b
 |.undef,v=>v=undef
 |.dZ,_=>True
 |.ib id b,v=>match o id with
  |.none=>False
  |.box _=>v=.pointer (bif b then some ⟨(φ id).block,(φ id).off,none⟩ else none)
  |_=>True
 |.j8 id ver lo,v=>match o id with
  |.vec t aA _ s=>ver<=aA/\(ver=aA->zmo (φ id) s.nil (aB t) lo s.l.length v)
  |.none=>False
  |_=>True
def cu(φ:Nat->Addr)(o:Nat->Obj)(imm:Nat->Prop)(w:World):List V->List Value->Prop
 |[],vs=>vs=[]
 |x::l,vs=>∃v r,vs=v::r/\au φ o imm w x v/\cu φ o imm w l r
end
def rS(φ:Nat->Addr)(o:Nat->Obj)(imm:Nat->Prop)(w:World)(id:Nat):Obj->Prop
 |.box cs=>(φ id).off=0/\∃c el lo hi,w.heap[(φ id).block]?=some (.cells c el (lo,hi))/\hi<=lo/\cu φ o imm w cs c.toList
 |.vec t _ fr s=>s.l.length<=cG/\(s.nil=true->s.l=[])/\(s.nil=false->((φ id).spot=none/\∃ec,bT (az imm w t) s.l ec/\mN w (φ id) ec/\
   room w (φ id) 0/\(fr=false->room w (φ id) (s.l.length*aB t))/\(fr=true->imm (φ id).block))\/((φ id).spot≠none/\s.l=[]/\t≠.int .u8))
 |.dead=>True
 |.none=>True
 |.iter l p=>∃(s:ByteArray) (n:Nat),w.heap[(φ id).block]?=some (.stringIter s n)/\s.data.toList.map (fun b=>(b.toNat:Int))=l/\p=(n:Int)/\s.size<=cG
def GO(C:Cx)(el:TypeId)(n:Nat):Prop:=(el=C.nR/\n=2)\/(el=C.U9/\n=4)
def iQ(C:Cx)(w:World)(a:Addr):Obj->Prop
 |.vec t _ _ s=>t=.int .u8->s.nil=false->∃c el fz,w.heap[a.block]?=some (.cells c el fz)/\C.P.underlying el=some (.int .u8)/\(fz.1=fz.2\/c.size<=fz.1)
 |.box cs=>rj cs=true->∃c el fz,w.heap[a.block]?=some (.cells c el fz)/\GO C el c.size
 |_=>True
structure MRel (C:Cx) (X:Nat->Prop) (φ:Nat->Addr) (o:Nat->Obj) (w:World):Prop where
 ar:∀id,rS φ o (ag X φ o w) w id (o id)
 inj:∀i j,aV (φ i) (o i)=true->aV (φ j) (o j)=true->(φ i).block=(φ j).block->i=j
 sep:∀i,aV (φ i) (o i)=true->(φ i).block<w.heap.size/\¬X (φ i).block
 xs:∀b,X b->b<w.heap.size
 uA:∀id,iQ C w (φ id) (o id)
 fT:∀g t x,C.me g=some ⟨t,x⟩->au φ o (ag X φ o w) w (.ref t x) (.pointer (some ⟨g,0,none⟩))
 Oc:∀g t x,C.me g=some ⟨t,x⟩->∃c el fz,w.heap[g]?=some (.cells c el fz)/\c.size=aB t
theorem MRel.rT{C:Cx}(hm:MRel C X φ o w)(st:∀b,ag X φ o w b->w'.heap[b]?=w.heap[b]?):∀g t x,C.me g=some ⟨t,x⟩->∃c el fz,w'.heap[g]?=some (.cells c el fz)/\c.size=aB t:=fun g t x hg=>by have⟨a,cs,e,_,hi,_⟩:=hm.fT g t x hg;injection e with e;cases e;rw[st _ hi];exact hm.Oc g t x hg
theorem MRel.cap{C:Cx}(hm:MRel C X φ o w){id:Nat}{t:Ty}{s:Sl (den t)}(h:o id=.vec t ver fr s)(hn:s.nil=false)(hs:(φ id).spot≠none):s.l=[]/\t≠.int .u8:=by
 have:=hm.ar id;rw[h] at this;rcases this.2.2 hn with h1|h1
 all_goals grind
theorem MRel.PN{C:Cx}(hm:MRel C X φ o w)(id:Nat):∀ver fr (s:Sl (den (.int .u8))),o id=.vec (.int .u8) ver fr s->s.nil=false->(φ id).spot=none:=by intro ver fr s h hn;apply zF;intro hs;exact(hm.cap h hn hs).2 rfl
structure Rel (C:Cx) (nt:Nat) (X:Nat->Prop) (φ:Nat->Addr) (st:St) (a:Act) (w:World):Prop extends MRel C X φ st.obj w where
 size:a.tmps.size=nt
 env:∀t,au φ st.obj (ag X φ st.obj w) w (st.env t) (a.tmps.getD t undef)
 defers:a.defers=[]
theorem qm5{imm:Nat->Prop}(hi:∀b,imm b->imm' b)(hw:∀b,imm b->w'.heap[b]?=w.heap[b]?)(t:Ty)(x:den t)(v:Value)(h:dS imm w t x v):dS imm' w' t x v:=by
 cases t with
 |st p=>have⟨cs,h1,h2⟩:=h;exact⟨cs,h1,j9 hi hw p x _ h2⟩
 |arr n e=>have⟨cs,h1,h2⟩:=h;exact⟨cs,h1,j9 hi hw (.arr n e) x _ h2⟩
 |unit=>exact h
 |pair a b=>exact h
 |int k=>exact j9 hi hw (.int k) x _ h
 |bool=>exact j9 hi hw .bool x _ h
 |gz=>exact j9 hi hw .gz x _ h
 |fY=>exact j9 hi hw .fY x _ h
 |str=>exact j9 hi hw .str x _ h
 |sl e=>exact j9 hi hw (.sl e) x _ h
theorem Ez{a:Addr}{n:Nat}(h:w'.heap[a.block]?=w.heap[a.block]?)(hr:room w a n):room w' a n:=by have⟨c,el,lo,hi,h1,h2,h3⟩:=hr;exact⟨c,el,lo,hi,by rw[h,h1],h2,h3⟩
theorem zg9{a:Addr}{nil:Bool}{sz n:Nat}{v:Value}(h:nil=false->fr=false->a.spot=none->w'.heap[a.block]?=w.heap[a.block]?)(hr:Ob w a nil fr sz n v):Ob w' a nil fr sz n v:=hr.imp id fun⟨hn,cap,h1,h2,h4,h3⟩=>⟨hn,cap,h1,h2,h4,fun hf hs=>Ez (h hn hf hs) (h3 hf hs)⟩
def fH(w w':World)(b:Nat):Prop:=∀c el fz,w.heap[b]?=some (.cells c el fz)->∃c',w'.heap[b]?=some (.cells c' el fz)/\c'.size=c.size
theorem fH.same(h:w'.heap[b]?=w.heap[b]?):fH w w' b:=fun c el fz e=>⟨c,by rw[h];exact e,rfl⟩
theorem iQ.bD{C:Cx}{a:Addr}{x:Obj}(h:iQ C w a x)(hb:aV a x=true->fH w w' a.block)(hf:∀ver (s:Sl (den (.int .u8))),x=.vec (.int .u8) ver true s->s.nil=false->fH w w' a.block)(hc:∀ver fr (s:Sl (den (.int .u8))),x=.vec (.int .u8) ver fr s->s.nil=false->a.spot=none):iQ C w' a x:=by
 cases x with
 |vec t ver fr s=>
  intro ht hn;have⟨c,el,fz,h1,h2,h4⟩:=h ht hn;subst ht;have hk:fH w w' a.block:=by
   cases fr with
   |true=>exact hf _ _ rfl hn
   |false=>exact hb (uZ hn (hc _ _ _ rfl hn))
  have⟨c',h3,h5⟩:=hk _ _ _ h1
  grind
 |box cs=>
  intro hs;have⟨c,el,fz,h1,h3⟩:=h hs;have⟨c',h2,h4⟩:=(hb rfl) _ _ _ h1
  grind
 |dead=>trivial
 |none=>trivial
 |iter s p=>trivial
def Up(w w':World)(a a':Addr):Obj->Obj->Prop
 |.none,_=>True
 |_,.dead=>True
 |.box _,.box _=>a'=a
 |.iter _ _,.iter _ _=>a'=a
 |.vec t ver fr s,.vec t' aA GP s'=>ver<aA\/(ver=aA/\t=t'/\s.nil=s'.nil/\s.l.length=s'.l.length/\a'=a/\(GP=false->fr=false/\(s.nil=false->a.spot=none->∀n,room w a n->room w' a n)))
 |_,_=>False
theorem Up.same{a:Addr}{x:Obj}(h:aV a x=true->∀n,room w a n->room w' a n):Up w w' a a x x:=by
 cases x with
 |vec t ver fr s=>exact .inr ⟨rfl,rfl,rfl,rfl,rfl,fun hf=>⟨hf,fun hn hs=>h (by subst hf;exact uZ hn hs)⟩⟩
 |box cs=>exact rfl
 |dead=>trivial
 |none=>trivial
 |iter s p=>exact rfl
theorem qtm{a:Addr}{nil GP:Bool}{sz n:Nat}{v:Value}(h:GP=false->fr=false/\(nil=false->a.spot=none->∀n,room w a n->room w' a n))(hr:Ob w a nil fr sz n v):Ob w' a nil GP sz n v:=hr.imp id fun⟨hn,cap,h1,h2,h4,h3⟩=>⟨hn,cap,h1,h2,h4,fun hf hs=>(h hf).2 hn hs _ (h3 (h hf).1 hs)⟩
theorem Bs{o':Nat->Obj}{imm:Nat->Prop}(hi:∀b,imm b->imm' b)(hw:∀b,imm b->w'.heap[b]?=w.heap[b]?)(ho:∀id,Up w w' (φ id) (φ' id) (o id) (o' id)):∀(x:V) (v:Value),au φ o imm w x v->au φ' o' imm' w' x v:=by
 intro x;refine V.rec (motive_1:=fun x=>∀v,au φ o imm w x v->au φ' o' imm' w' x v) (motive_2:=fun l=>∀vs,cu φ o imm w l vs->cu φ' o' imm' w' l vs)
  ?_ ?_ ?_ ?_ ?_ ?_ ?_ ?_ ?_ ?_ ?_ ?_ ?_ ?_ ?_ ?_ ?_ ?_ ?_ ?_ ?_ ?_ ?_ ?_ x
 ·exact fun t x v h=>qm5 hi hw t x v h
 ·intro id ver v h;have hu:=ho id;unfold au at*
  revert h hu;cases o id<;>cases o' id<;>simp only[Up]<;>intro hu h<;>first|trivial|exact h.elim|exact hu.elim|skip
  have⟨h0,h⟩:=h;rcases hu with hu|⟨e1,e2,e3,e4,e5,e6⟩
  ·omega
  ·subst e1 e2;exact⟨h0,fun e=>by rw[e5,<-e3,<-e4];exact qtm e6 (h e)⟩
 ·intro id ver n cp v h;have hu:=ho id;unfold au at*
  revert h hu;cases o id<;>cases o' id<;>simp only[Up]<;>intro hu h<;>first|trivial|exact h.elim|exact hu.elim|skip
  have⟨h0,h⟩:=h;rcases hu with hu|⟨e1,e2,e3,e4,e5,e6⟩
  ·omega
  ·subst e1 e2;refine⟨h0,fun e=>?_⟩;have⟨h1,h2,h3⟩:=h e;exact⟨by omega,by rw[e5,<-e3];exact qtm e6 h2,h3⟩
 ·intro id off v h;have hu:=ho id;unfold au at*
  revert h hu;cases o id<;>cases o' id<;>simp only[Up]<;>intro hu h<;>first|trivial|exact h.elim|exact hu.elim|(rw[hu];exact h)|skip
  grind
 ·intro id ver i path v h;have hu:=ho id;unfold au at*
  revert h hu;cases o id<;>cases o' id<;>simp[Up]<;>intro hu h<;>first|trivial|exact h.elim|exact hu.elim|skip
  grind
 ·exact fun t x v ⟨a,cs,h1,h2,h3,h4,h5⟩=>⟨a,cs,h1,h2,hi _ h3,j9 hi hw t x cs h4,Oa (hw _ h3) h5⟩
 ·exact fun v h=>h
 ·exact fun f l ih v ⟨c,h1,h2⟩=>⟨c,h1,ih _ h2⟩
 ·exact fun v h=>h
 ·exact fun l ih v ⟨c,h1,h2⟩=>⟨c,h1,ih _ h2⟩
 ·exact fun l ih v ⟨c,h1,h2⟩=>⟨c,h1,ih _ h2⟩
 ·exact fun v h=>h
 ·exact fun v h=>h
 ·exact fun b v h=>h
 ·exact fun v h=>h
 ·exact fun v h=>h
 ·intro id b v h;have hu:=ho id;unfold au at*
  revert h hu;cases o id<;>cases o' id<;>simp[Up]<;>intro hu h<;>first|trivial|exact h.elim|exact hu.elim|(rw[hu];exact h)|exact h
 ·intro id ver lo v h;have hu:=ho id;unfold au at*
  revert h hu;cases o id<;>cases o' id<;>simp[Up]<;>intro hu h<;>first|trivial|exact h.elim|exact hu.elim|skip
  grind
 ·intro id v h;have hu:=ho id;unfold au at*
  revert h hu;cases o id<;>cases o' id<;>simp[Up]<;>intro hu h<;>first|trivial|exact h.elim|exact hu.elim|(rw[hu];exact h)|exact h
 ·exact fun b p c v h=>h
 ·exact fun a k n v h=>qm4 (fun p ⟨a,cs,h1,h2,h3,h4,h5⟩=>⟨a,cs,h1,h2,hi _ h3,j9 hi hw (.int .i64) n cs h4,Oa (hw _ h3) h5⟩) a k v h
 ·exact fun t x v ⟨a,b,cs,h1,h2,h3,h4,h5,h6,h7,h8⟩=>⟨a,b,cs,h1,h2,hi _ h3,Oa (hw _ h3) h4,h5,hi _ h6,j9 hi hw t x cs h7,Oa (hw _ h6) h8⟩
 ·exact fun vs h=>h
 ·exact fun x l kq kC vs ⟨v,r,h1,h2,h3⟩=>⟨v,r,h1,kq _ h2,kC _ h3⟩
def hit(ks:List Nat)(φ:Nat->Addr)(o:Nat->Obj)(b:Nat):Prop:=∃id,id∈ks/\aV (φ id) (o id)=true/\(φ id).block=b
def Bu(w w':World):Prop:=w'.os=w.os/\w'.output=w.output
structure Comes (C:Cx) (X:Nat->Prop) (φ φ':Nat->Addr) (o:Nat->Obj) (u:List (Nat×Obj)) (w w':World) (v:V) (val:Value):Prop where
 mem:MRel C X φ' (aj o u) w'
 val:au φ' (aj o u) (ag X φ' (aj o u) w') w' v val
 up:∀id,Up w w' (φ id) (φ' id) (o id) (aj o u id)
 size:w.heap.size<=w'.heap.size
 frame:∀b,b<w.heap.size->¬hit (bU u) φ o b->w'.heap[b]?=w.heap[b]?
 xL:∀id,o id≠.none->id∉bU u->φ' id=φ id
 news:∀id,aV (φ' id) (aj o u id)=true->w.heap.size<=(φ' id).block\/qd φ o (φ' id).block
 still:Bu w w'
theorem Comes.imm{C:Cx}  (h:Comes C X φ φ' o u w w' v val) (b:Nat) (hb:ag X φ o w b):ag X φ' (aj o u) w' b:=by
 have⟨h1,h2,h3⟩:=hb;refine⟨jo h1 h.size,h2,fun⟨id,e1,e2⟩=>?_⟩;rcases h.news id e1 with e3|e3
 all_goals grind
theorem Comes.stays{C:Cx}  (h:Comes C X φ φ' o u w w' v val) (b:Nat) (hb:ag X φ o w b):w'.heap[b]?=w.heap[b]?:=h.frame b hb.1 fun⟨id,_,e1,e2⟩=>hb.2.2 ⟨id,e1,e2⟩
theorem Comes.keeps{C:Cx}  (h:Comes C X φ φ' o u w w' v val) (x:V) (z:Value) (hx:au φ o (ag X φ o w) w x z):au φ' (aj o u) (ag X φ' (aj o u) w') w' x z:=Bs h.imm h.stays h.up x z hx
def Out(C:Cx)(X:Nat->Prop)(φ:Nat->Addr)(o:Nat->Obj)(w:World)(v:V)(u:List (Nat×Obj))(r:Result Next):Prop:=∃val w' φ',r=.ok (.value val) w'/\Comes C X φ φ' o u w w' v val
section
variable {C:Cx} {X:Nat→Prop} {φ:Nat→Addr} {o:Nat→Obj} {w:World}
theorem Comes.same(hm:MRel C X φ o w)(hv:au φ o (ag X φ o w) w v val):Comes C X φ φ o [] w w v val:=⟨hm,hv,fun _=>Up.same fun _ _ h=>h,zm _,fun _ _ _=>rfl,fun _ _ _=>rfl,fun id h=>.inr ⟨id,h,rfl⟩,⟨rfl,rfl⟩⟩
theorem Out.same{r:Result Next}(hm:MRel C X φ o w)(hr:r=.ok (.value val) w)(hv:au φ o (ag X φ o w) w v val):Out C X φ o w v [] r:=⟨val,w,φ,hr,.same hm hv⟩
theorem PO{imm:Nat->Prop}{v:Value}(h:au φ o imm w x v):au φ o imm w (eI x) v:=by
 cases x<;>first|exact h|skip
 simp[eI,au,dS,az] at*
 simp[h]
theorem z5e(h:Ek k n=true):iI k n:=by simpa[Ek,iI] using h
theorem qiz{imm:Nat->Prop}(v:Value):au φ o imm w (dJ v) v:=by
 unfold dJ;split
 ·rfl
 ·rfl
 ·rfl
 ·rename_i k n;cases h:Ek k n
  ·simp[au]
  ·simp[au,dS,az,z5e h]
 ·rename_i s;cases h:Nat.ble s.size 1000000
  ·simp[au]
  ·simp only[zK,au,dS,az];refine⟨s,rfl,rfl,?_⟩;have:=zP h;unfold cG;omega
 all_goals simp[au]
theorem Rel.cE{nt:Nat}{st:St}{a:Act}(h:Rel C nt X φ st a w)(x:Operand):au φ st.obj (ag X φ st.obj w) w (cE C st.env x) (a.eval x):=by
 cases x with
 |tmp t=>exact PO (h.env t)
 |const v=>exact qiz v
 |global g=>
  simp[Ev.cE,Act.eval];split
  ·rename_i e;exact h.fT _ _ _ e
  ·simp[au]
 |func f=>
  simp[Ev.cE];cases h:Nat.blt f 1048576 with
  |false=>simp[au]
  |true=>exact⟨#[],(VD (zP h) #[]).symm,rfl⟩
end
def Pk.aD(p:Pk)(v:V)(u:List (Nat×Obj)):Prop:=match p with
 |.fail=>False
 |.nQ v' u'=>v'=v/\u'=u
 |.dyn _ x out=>∃y,x=some y/\out y=(v,u)
@[simp] theorem PQ{v:V}{u:List (Nat×Obj)}:Pk.fail.aD v u↔False:=Iff.rfl
@[simp] theorem kg{v v':V}{u u':List (Nat×Obj)}:(Pk.now v u).aD v' u'↔v=v'/\u=u':=Iff.rfl
@[simp] theorem wD{α:Type}{x:Option α}{out:α->V×List (Nat×Obj)}{v:V}{u:List (Nat×Obj)}:(Pk.dyn α x out).aD v u↔∃y,x=some y/\out y=(v,u):=Iff.rfl
@[simp] theorem It{t:Ty}{x:Option (den t)}{v:V}{u:List (Nat×Obj)}:(Pk.mc x).aD v u↔∃y,x=some y/\(V.d t y,[])=(v,u):=Iff.rfl
@[simp] theorem eT{b:Bool}{p:Pk}{v:V}{u:List (Nat×Obj)}:(Pk.when b p).aD v u↔b=true/\p.aD v u:=by cases b<;>simp[Pk.when]
section
variable {P:Program} {C:Cx} {X:Nat→Prop} {φ:Nat→Addr} {o:Nat→Obj} {w:World} {imm:Nat→Prop}
theorem pC(h:au φ o imm w (.d (.int k) n) z):z=.int k n/\iI k n:=by simpa[au,dS,az] using h
theorem uB{b:Bool}(h:au φ o imm w (.d .bool b) z):z=.bool b:=by simpa[au,dS,az] using h
theorem rU(h:au φ o imm w (.d .str l) z):∃s:ByteArray,z=.string s/\s.data.toList.map (fun b=>(b.toNat:Int))=l/\s.size<=cG:=by
 simp[au,dS,az] at h
 grind
theorem PU(h:au φ o imm w (.d .gz b) z):z=.float .f64 b:=by simpa[au,dS,az] using h
theorem PV{b:Nat×Nat}(h:au φ o imm w (.d .fY b) z):z=.complex .f64 b.1 b.2:=by simpa[au,dS,az] using h
theorem VE:au φ o imm w (.d .gz b) (.float .f64 b):=by rfl
theorem zga{b:Nat×Nat}:au φ o imm w (.d .fY b) (.complex .f64 b.1 b.2):=by rfl
theorem oG(h:iI k n):au φ o imm w (.d (.int k) n) (.int k n):=by simpa[au,dS,az] using h
theorem EA{b:Bool}:au φ o imm w (.d .bool b) (.bool b):=by rfl
theorem Od{s:ByteArray}(h:s.data.toList.map (fun b=>(b.toNat:Int))=l)(hl:s.size<=cG):au φ o imm w (.d .str l) (.string s):=by exact⟨s,rfl,h,hl⟩
theorem Oe(k:IntKind)(n:Int):iI k (k.wrap n):=by unfold iI IntKind.wrap IntKind.min IntKind.max;cases k<;>simp[IntKind.bits,IntKind.signed]<;>(try split)<;>omega
def rV(P:Program)(φ:Nat->Addr)(o:Nat->Obj)(imm:Nat->Prop)(w:World)(v:V)(s:Sem Value):Prop:=∃val,s.run P w=.ok val w/\au φ o imm w v val
theorem qx5(k:IntKind):iI k 0:=by unfold iI IntKind.min IntKind.max;cases k<;>simp[IntKind.bits,IntKind.signed]
theorem ziy{a b:Int}(h:iI k a):iI k (a.tmod b):=by
 have h1:(a.tmod b).natAbs<=a.natAbs:=by rw[Int.natAbs_tmod];exact Nat.mod_le _ _
 have hz:=qx5 k;unfold iI at*
 rcases Int.le_total 0 a with h0|h0
 ·have:=Int.tmod_nonneg b h0;omega
 ·have:=Int.tmod_nonneg b (show 0<=-a by omega);rw[Int.neg_tmod] at this;omega
theorem zbp{op:BinOp}{a b:Int}(ha:iI k a)(h:(YJ lf op k a b).aD v u)(t:TypeId):u=[]/\rV P φ o imm w v (binOp op t (.int k a) (.int k b)):=by
 cases op<;>simp[YJ,kg,It,PQ] at h
 case quo=>
  have⟨y,h1,h2⟩:=h;obtain⟨rfl,rfl⟩:=h2;simp only[lf,Be] at h1;split at h1
  ·cases h1
  ·rename_i hb;simp[Option.some.injEq] at h1;subst h1;exact⟨rfl,.int k _,by simp[binOp,Op.intDiv,hb,pure],oG (Oe _ _)⟩
 case rem=>
  have⟨y,h1,h2⟩:=h;obtain⟨rfl,rfl⟩:=h2;simp only[lf,oS] at h1;split at h1
  ·cases h1
  ·rename_i hb;simp[Option.some.injEq] at h1;subst h1;exact⟨rfl,.int k _,by simp[binOp,Op.intDiv,hb,pure],oG (ziy ha)⟩
 all_goals
  obtain⟨rfl,rfl⟩:=h;refine⟨rfl,?_⟩
  first
  |exact⟨.int k _,by simp[binOp,Op.intArith,Op.intBits,lf,bc,dx,pW,mV,Az,pX,ly,pure],oG (Oe _ _)⟩
  |exact⟨.bool _,by simp[binOp,Op.intCmp,lf,aZ,cD,ah,ai,pure,bne],EA⟩
end
def bl(s:ByteArray):List Int:=s.data.toList.map fun b=>(b.toNat:Int)
theorem zgb{a b:UInt8}(h:(a.toNat:Int)=(b.toNat:Int)):a=b:=by apply ZB.1;omega
theorem qpm:∀(x y:List UInt8),(x.map (fun b=>(b.toNat:Int))==y.map (fun b=>(b.toNat:Int)))=(x==y)
 |[],[]=>rfl
 |[],_::_=>rfl
 |_::_,[]=>rfl
 |a::x,b::y=>by
  have e:(((a.toNat:Nat):Int)==((b.toNat:Nat):Int))=(a==b):=by rw[Zh];simp[beq_iff_eq];exact⟨zgb,fun h=>by rw[h]⟩
  have ih:=qpm x y
  grind
theorem qm9:∀(x y:List UInt8),strLt (x.map fun b=>(b.toNat:Int)) (y.map fun b=>(b.toNat:Int))=Op.bytesLess x y
 |[],[]=>rfl
 |[],_::_=>rfl
 |_::_,[]=>rfl
 |a::x,b::y=>by
  have e1:decide (((a.toNat:Nat):Int)<((b.toNat:Nat):Int))=decide (a<b):=by rw[jz,UInt8.lt_iff_toNat_lt];omega
  have e2:decide (((a.toNat:Nat):Int)=((b.toNat:Nat):Int))=(a==b):=by rw[Zh];simp[decide_eq_true_eq,beq_iff_eq];exact⟨zgb,fun h=>by rw[h]⟩
  simp only[zX,strLt,Op.bytesLess,e1,e2,qm9 x y]
theorem zgc(a b:ByteArray):bW (bl a) (bl b)=(a.toList==b.toList):=by rw[ByteArray.toList_eq,ByteArray.toList_eq];exact qpm _ _
theorem zbq(a b:ByteArray):strLt (bl a) (bl b)=Op.bytesLess a.toList b.toList:=by rw[ByteArray.toList_eq,ByteArray.toList_eq];exact qm9 _ _
theorem z5f(a:ByteArray):(bl a).length=a.size:=by unfold bl;rw[zI];rfl
theorem z5g(a b:ByteArray):bl (a++b)=bl a++bl b:=by unfold bl;rw[<-jn,ByteArray.data_append,Array.toList_append]
section
variable {P:Program} {φ:Nat→Addr} {o:Nat→Obj} {w:World} {imm:Nat→Prop}
theorem zbr{op:BinOp}{a b:ByteArray}(h:(YK lf op (bl a) (bl b)).aD v u)(t:TypeId):u=[]/\rV P φ o imm w v (binOp op t (.string a) (.string b)):=by
 cases op<;>simp only[YK,kg,wD,PQ] at h
 case add=>
  have⟨y,h1,h2⟩:=h;obtain⟨rfl,rfl⟩:=h2;simp only[lf,fit,bL,aa,z5f] at h1;split at h1
  ·rename_i hb;refine⟨rfl,.string (a++b),?_,?_⟩
   ·simp[binOp,Op.stringOp,pure,Sem.run,IntKind.max,IntKind.signed,IntKind.bits];omega
   ·refine Od (show bl (a++b)=bl a++bl b from z5g a b) ?_;rw[ByteArray.size_append];unfold cG;omega
  ·cases h1
 all_goals
  obtain⟨rfl,rfl⟩:=h;refine⟨rfl,.bool _,?_,EA⟩;simp[binOp,Op.stringOp,lf,ai,aH,zgc,zbq,pure]
end
theorem zmp(h0:0<=n)(h1:n<=255):(((UInt8.ofNat n.toNat).toNat:Nat):Int)=n:=by rw[Zx];omega
theorem Iu:∀{l:List Int},(∀n,n∈l->0<=n/\n<=255)->(l.map fun n=>UInt8.ofNat n.toNat).map (fun b=>(b.toNat:Int))=l
 |[],_=>rfl
 |a::l,h=>by have⟨h0,h1⟩:=h a (zg ..);rw[zX,zX,zmp h0 h1,Iu fun b hb=>h b (zf _ hb)]
section
variable {P:Program} {C:Cx} {φ:Nat→Addr} {o:Nat→Obj} {w:World} {imm:Nat→Prop}
theorem zmq{a:Int}(n:Nat)(h:iI k a):iI k (a.fdiv (2 ^ n)):=by
 have hp:(0:Int)<2 ^ n:=Int.pow_pos om;rw[Int.fdiv_eq_ediv_of_nonneg _ (Int.le_of_lt hp)];have hz:=qx5 k;unfold iI at*
 rcases Int.le_total 0 a with h0|h0
 ·have h1:=Int.ediv_nonneg h0 (Int.le_of_lt hp);have h2:a / 2 ^ n<=a:=Int.ediv_le_self _ h0;omega
 ·have h1:=Int.ediv_nonpos_of_nonpos_of_neg h0 hp;have h2:a<=a / 2 ^ n:=by rw[Int.le_ediv_iff_mul_le hp];have:a*2 ^ n<=a*1:=Int.mul_le_mul_of_nonpos_left h0 om;omega
  omega
theorem qzg{op:BinOp}(hc:op=.shl\/op=.shr){a b:Int}(ha:iI k a)(h:(match op with|.shl=>Pk.mc (t:=.int k) (lf.lr k a b)|_=>Pk.mc (t:=.int k) (lf.lu k a b)).aD v u)(t:TypeId):u=[]/\rV P φ o imm w v (binOp op t (.int k a) (.int k' b)):=by
 rcases hc with rfl|rfl<;>simp only[It,jX,lf,lr,lu] at h<;>obtain⟨y,h1,rfl,rfl⟩:=h<;>split at h1
 ·cases h1
 ·rename_i hb;simp[Option.some.injEq] at h1;subst h1;exact⟨rfl,.int k _,by simp[binOp,Op.shift,hb,pure],oG (Oe _ _)⟩
 ·cases h1
 ·rename_i hb;simp[Option.some.injEq] at h1;subst h1;exact⟨rfl,.int k _,by simp[binOp,Op.shift,hb,pure],oG (zmq _ ha)⟩
end
theorem PY{i:TypeInfo}(h:P.types.toList[t]?=some i):P.info? t=some i:=by
 rw[ji] at h;have ht:t<P.types.size:=by grind
 simp only[Tables.info?,ht,if_true];exact h
theorem nV{d:TypeDesc}(h:desc P t=some d):P.underlying t=some d:=by
 unfold desc at h;cases h1:P.types.toList[t]? with
 |none=>rw[h1] at h;cases h
 |some i=>
  rw[h1] at h;unfold Program.underlying;rw[PY h1];have⟨d',_,_,_,_,_,_,_,_,_⟩:=i;cases d'<;>simp only at h ⊢<;>first|exact h|skip
  rename_i u;cases h2:P.types.toList[u]? with
  |none=>rw[h2] at h;cases h
  |some j=>rw[h2] at h;rw[PY h2];exact h
theorem PZ(h:Nat.beq (uV k) (uV k')=true):k=k':=by cases k<;>cases k'<;>first|rfl|cases h
theorem Of:∀{a b:Ty},rM a b=true->a=b
 |.int k,b,h=>by cases b<;>simp only[rM] at h<;>first|exact jd Ty.int (PZ h)|cases h
 |.bool,b,h=>by cases b<;>simp[rM] at h<;>first|rfl|cases h
 |.gz,b,h=>by cases b<;>simp[rM] at h<;>first|rfl|cases h
 |.fY,b,h=>by cases b<;>simp[rM] at h<;>first|rfl|cases h
 |.str,b,h=>by cases b<;>simp[rM] at h<;>first|rfl|cases h
 |.unit,b,h=>by cases b<;>simp[rM] at h<;>first|rfl|cases h
 |.sl e,b,h=>by cases b<;>simp[rM] at h<;>first|exact jd Ty.sl (Of h)|cases h
 |.st e,b,h=>by cases b<;>simp[rM] at h<;>first|exact jd Ty.st (Of h)|cases h
 |.pair c d,b,h=>by cases b<;>simp[rM,Bool.and_eq_true] at h<;>first|(rw[Of h.1,Of h.2])|cases h
 |.arr n e,b,h=>by cases b<;>simp only[rM,ze] at h<;>first|(rw[zo h.1,Of h.2])|cases h
theorem P0{x:Option Ty}(h:kp T x=true):x=some T:=by
 cases x with
 |none=>cases h
 |some T'=>exact jd some (Of h)
theorem qe{C:Cx}(h:C.is t T=true):C.ty t=some T:=P0 h
def P1(f:List Value->Option (List Value)):Nat->List Value->Option (List Value)
 |0,cs=>some cs
 |n+1,cs=>match f cs with
  |some r=>P1 f n r
  |none=>none
def pD:Ty->List Value->Option (List Value)
 |.int k,.int k' n::r=>bif Nat.beq (uV k) (uV k')&&decide (n=0) then some r else none
 |.bool,.bool false::r=>some r
 |.gz,.float .f64 0::r=>some r
 |.fY,.complex .f64 0 0::r=>some r
 |.str,.string s::r=>bif Nat.beq s.size 0 then some r else none
 |.sl _,.slice none 0 0::r=>some r
 |.unit,cs=>some cs
 |.pair a b,cs=>match pD a cs with
  |some r=>pD b r
  |none=>none
 |.st p,cs=>pD p cs
 |.arr n e,cs=>P1 (pD e) n cs
 |_,_=>none
theorem qpn{f:List Value->Option (List Value)}{g:α->List Value->Prop}{z:α}(hf:∀cs r,f cs=some r->∃c,cs=c++r/\g z c):∀(n:Nat) (cs r:List Value),P1 f n cs=some r->∃c,cs=c++r/\bT g (List.replicate n z) c
 |0,cs,r,h=>by simp[P1,Option.some.injEq] at h;subst h;exact⟨[],rfl,rfl⟩
 |n+1,cs,r,h=>by
  simp[P1] at h;split at h
  ·rename_i r1 h1;have⟨c,e1,e2⟩:=hf _ _ h1;have⟨d,e3,e4⟩:=qpn hf n _ _ h;exact⟨c++d,by rw[e1,e3,zk],c,d,rfl,e2,e4⟩
  ·cases h
theorem qx7(imm:Nat->Prop)(w:World)(T:Ty):∀(cs r:List Value),pD T cs=some r->∃c,cs=c++r/\az imm w T (zero T) c:=by
 induction T with
 |int k=>
  intro cs r h;cases cs with
  |nil=>cases h
  |cons v cs=>
   cases v<;>(try simp[pD] at h)<;>try (cases h;done)
   rename_i k' n;cases hb:(Nat.beq (uV k) (uV k')&&decide (n=0)) with
   |false=>rw[hb] at h;cases h
   |true=>rw[hb] at h;simp only[ze,zV] at hb;simp[cond_true,Option.some.injEq] at h;obtain⟨h1,rfl⟩:=hb;have:=PZ h1;subst this h;exact⟨[_],rfl,rfl,qx5 k⟩
 |bool=>
  intro cs r h;cases cs with
  |nil=>cases h
  |cons v cs=>
   cases v<;>(try simp[pD] at h)<;>try (cases h;done)
   rename_i b;cases b
   ·simp[pD,Option.some.injEq] at h;subst h;exact⟨[_],rfl,rfl⟩
   ·cases h
 |gz=>
  intro cs r h;cases cs with
  |nil=>cases h
  |cons v cs=>
   cases v<;>(try simp[pD] at h)<;>try (cases h;done)
   rename_i k b;cases k<;>(try simp[pD] at h)<;>try (cases h;done)
   cases b<;>(try simp[pD] at h)<;>try (cases h;done)
   cases h;exact⟨[_],rfl,rfl⟩
 |fY=>
  intro cs r h;cases cs with
  |nil=>cases h
  |cons v cs=>
   cases v<;>(try simp[pD] at h)<;>try (cases h;done)
   rename_i k a b;cases k<;>(try simp[pD] at h)<;>try (cases h;done)
   cases a<;>(try simp[pD] at h)<;>try (cases h;done)
   cases b<;>(try simp[pD] at h)<;>try (cases h;done)
   cases h;exact⟨[_],rfl,rfl⟩
 |str=>
  intro cs r h;cases cs with
  |nil=>cases h
  |cons v cs=>
   cases v<;>(try simp[pD] at h)<;>try (cases h;done)
   rename_i s;cases hb:Nat.beq s.size 0 with
   |false=>rw[hb] at h;cases h
   |true=>rw[hb] at h;simp[cond_true,Option.some.injEq] at h;subst h;have hz:=zo hb;refine⟨[_],rfl,s,rfl,?_,by omega⟩;have:s.data.toList=[]:=jl (by simp_all);rw[this];rfl
 |sl e _=>
  intro cs r h;cases cs with
  |nil=>cases h
  |cons v cs=>
   cases v<;>(try simp[pD] at h)<;>try (cases h;done)
   rename_i a n m;cases a<;>cases n<;>cases m<;>try (cases h;done)
   have h:=jb h;subst h;exact⟨[_],rfl,_,rfl,zC _,.inl ⟨rfl,rfl,rfl⟩⟩
 |unit=>intro cs r h;simp[pD,Option.some.injEq] at h;subst h;exact⟨[],rfl,rfl⟩
 |pair a b rW mZ=>
  intro cs r h;simp[pD] at h;split at h
  ·rename_i r1 h1;have⟨c,e1,e2⟩:=rW _ _ h1;have⟨d,e3,e4⟩:=mZ _ _ h;exact⟨c++d,by rw[e1,e3,zk],c,d,rfl,e2,e4⟩
  ·cases h
 |st p ih=>intro cs r h;exact ih _ _ h
 |arr n e ih=>intro cs r h;have⟨c,e1,e2⟩:=qpn ih n _ _ h;exact⟨c,e1,by simp[zero],e2⟩
def uC(C:Cx):List Field->Ty->Nat->Bool
 |[],.unit,_=>true
 |[f],p,off=>C.is f.type p&&Nat.beq f.offset off
 |f::g::r,.pair a b,off=>C.is f.type a&&Nat.beq f.offset off&&uC C (g::r) b (off+aB a)
 |_,_,_=>false
def pE(C:Cx):TypeDesc->Ty->Bool
 |.int k,.int k'=>Nat.beq (uV k) (uV k')
 |.bool,.bool=>true
 |.float .f64,.gz=>true
 |.complex .f64,.fY=>true
 |.string,.str=>true
 |.slice e,.sl e'=>C.is e e'
 |.array n e,.arr n' e'=>Nat.beq n n'&&C.is e e'
 |.struct fs,.st p=>uC C fs.toList p 0
 |_,_=>false
def mh:Ty->Bool
 |.st _=>true|.arr .. =>true|_=>false
def P2:Value->Bool
 |.agg _=>true|_=>false
def ziz(C:Cx)(t:TypeId)(T:Ty):Bool:=
 match C.P.types.toList[t]?,desc C.P t with
 |some i,some d=>Nat.beq i.size (aB T)&&Nat.ble i.bytes 65536&&pE C d T&&
  (match i.zero with
   |some z=>(P2 z==mh T)&&(match pD T z.cells.toList with|some []=>true|_=>false)
   |none=>false)
 |_,_=>false
def Og(C:Cx):List (Nat×Ty)->Bool
 |[]=>true
 |p::r=>ziz C p.1 p.2&&Og C r
structure oV (C:Cx) (t:TypeId) (T:Ty):Prop where
 info:∃i z,C.P.info? t=some i/\C.P.types.toList[t]?=some i/\i.size=aB T/\i.bytes<=65536/\i.zero=some z/\P2 z=mh T/\∀imm w,az imm w T (zero T) z.cells.toList
 desc:∃d,desc C.P t=some d/\C.P.underlying t=some d/\pE C d T=true
theorem z2r{C:Cx}(h:ziz C t T=true):oV C t T:=by
 unfold ziz at h;split at h
 ·rename_i i d h1 h2;simp only[ze] at h;have⟨⟨⟨h3,h4⟩,h5⟩,h6⟩:=h;split at h6
  ·rename_i z hz;simp only[ze] at h6;have⟨h7,h8⟩:=h6;refine⟨⟨i,z,PY h1,h1,zo h3,zP h4,hz,?_,?_⟩,d,h2,nV h2,h5⟩
   ·exact eq_of_beq h7
   ·intro imm w;split at h8
    ·rename_i h9;have⟨c,e1,e2⟩:=qx7 imm w T _ _ h9
     grind
    ·cases h8
  ·cases h6
 ·cases h
theorem qg4{C:Cx}:∀{l:List (Nat×Ty)},Og C l=true->∀t T,Ej l t=some T->oV C t T
 |[],_,_,_,h=>by cases h
 |(a,S)::r,hc,t,T,h=>by
  simp[Og,Bool.and_eq_true] at hc;simp[Ej] at h;cases hb:Nat.beq a t with
  |true=>rw[hb] at h;simp[cond_true,Option.some.injEq] at h;have:=zo hb;subst this h;exact z2r hc.1
  |false=>rw[hb] at h;exact qg4 hc.2 t T h
structure cS (C:Cx):Prop where
 fD:∀t T,C.ty t=some T->oV C t T
section
variable {P:Program} {C:Cx} {X:Nat→Prop} {φ:Nat→Addr} {o:Nat→Obj} {w:World} {imm:Nat→Prop}
theorem GQ{s:Sl (den e)}(h:au φ o imm w (.d (.sl e) s) z):s.l.length<=cG/\((s.nil=true/\s.l=[]/\z=.slice none 0 0)\/(s.nil=false/\∃a cap ec,z=.slice (some a) s.l.length cap/\(cap≠0->a.spot=none)/\(s.l≠[]->imm a.block)/\bT (az imm w e) s.l ec/\mN w a ec/\s.l.length<=cap)):=by
 simp[au,dS,az] at h
 simp_all
def zj0(imm:Nat->Prop)(w:World)(e:Ty)(s:Sl (den e))(z:Value):Prop:=s.l.length<=cG/\
 ((s.nil=true/\s.l=[]/\z=.slice none 0 0)\/
  (s.nil=false/\∃a cap ec,z=.slice (some a) s.l.length cap/\(cap≠0->a.spot=none)/\bT (az imm w e) s.l ec/\mN w a ec/\s.l.length<=cap))
theorem P3{a:Addr}{ec:List Value}(n:Nat)(h:mN w a ec):mN w a (ec.take n):=by
 intro j hj;have hc:j<ec.length:=by simp at hj;omega
 rw[h j hc];simp
theorem VF{t:Ty}{s:Sl (den t)}(hl:∀id,rS φ o imm w id (o id))(h:au φ o imm w x z)(he:Em lf o x=some ⟨t,s⟩):zj0 imm w t s z/\(∃id ver fr s',o id=.vec t ver fr s'/\(s.nil=false->∀a n c,z=.slice (some a) n c->a.block=(φ id).block)/\s.nil=s'.nil/\(fr=false->id∈ig o x)/\(s'.l=[]->s.l=[])):=by
 cases x<;>simp[Em] at he<;>try (cases he;done)
 ·rename_i id ver;have ho:=hl id;unfold au at h;split at he
  ·rename_i t' aA fr s' e1;rw[e1] at h ho;cases hb:Nat.beq ver aA with
   |false=>rw[hb] at he;cases he
   |true=>
    rw[hb] at he;simp[cond_true,Option.some.injEq,Sigma.mk.injEq] at he;obtain⟨rfl,he⟩:=he;subst he;have h:=h.2 (zo hb);refine⟨⟨ho.1,?_⟩,id,aA,fr,s',e1,?_,rfl,?_,fun h=>h⟩
    ·rcases h with ⟨h1,h2⟩|⟨h1,cap,h2,h3,h4⟩
     ·exact .inl ⟨h1,ho.2.1 h1,h2⟩
     ·rcases ho.2.2 h1 with ⟨h5,ec,h6,h7,_⟩|⟨_,h6,_⟩
      ·exact .inr ⟨h1,_,cap,ec,h2,Ir h4.1,h6,h7,h3⟩
      ·exact .inr ⟨h1,_,cap,[],h2,Ir h4.1,(by rw[h6];rfl),(fun j hj=>by simp at hj),h3⟩
    ·intro hn a n c e;rcases h with ⟨h1,h2⟩|⟨h1,cap,h2,h3,h4⟩
     ·grind
     ·rw[h2] at e;injection e with e _ _;injection e with e;rw[<-e];rfl
    ·intro hf;subst hf;simp[ig,e1]
  ·cases he
 ·rename_i id ver n cp;have ho:=hl id;unfold au at h;split at he
  ·rename_i t' aA fr s' e1;rw[e1] at h ho;cases hb:Nat.beq ver aA with
   |false=>rw[hb] at he;cases he
   |true=>
    rw[hb] at he;simp[cond_true,Option.some.injEq,Sigma.mk.injEq] at he;obtain⟨rfl,he⟩:=he;subst he;have⟨h0,h,_⟩:=h.2 (zo hb);have e2:(lf.aP s'.l n).length=n:=by simp[lf,aP,Nat.min_eq_left h0]
    refine⟨⟨?_,?_⟩,id,aA,fr,s',e1,?_,rfl,?_,fun h=>by rw[h];simp[lf,aP]⟩
    ·show(lf.aP s'.l n).length<=cG;have:=ho.1;omega
    ·rcases h with ⟨h1,h2⟩|⟨h1,cap,h2,h3,h4⟩
     ·exact .inl ⟨h1,by simp[lf,aP,ho.2.1 h1],h2⟩
     ·have e3:z=.slice (some (bare (φ id))) (lf.aP s'.l n).length cap:=by rw[h2];exact jd (fun k=>Value.slice (some (bare (φ id))) k cap) e2.symm
      have e4:(lf.aP s'.l n).length<=cap:=om
      rcases ho.2.2 h1 with ⟨h5,ec,h6,h7,_⟩|⟨_,h6,_⟩
      ·exact .inr ⟨h1,bare (φ id),cap,ec.take (n*aB t'),e3,Ir h4.1,(xK n h0 h6).1,P3 _ h7,e4⟩
      ·refine .inr ⟨h1,bare (φ id),cap,[],e3,Ir h4.1,?_,(fun j hj=>by simp at hj),e4⟩;have:lf.aP s'.l n=[]:=by rw[h6];simp[lf,aP]
       rw[this];rfl
    ·intro hn a m c e;rcases h with ⟨h1,h2⟩|⟨h1,cap,h2,h3,h4⟩
     ·rw[show s'.nil=false from hn] at h1;cases h1
     ·rw[h2] at e;injection e with e _ _;injection e with e;rw[<-e];rfl
    ·intro hf;subst hf;simp[ig,e1]
  ·cases he
 ·rename_i id ver lo;have ho:=hl id;unfold au at h;split at he
  ·rename_i t' aA fr s' e1;rw[e1] at h ho;cases hb:Nat.beq ver aA with
   |false=>rw[hb] at he;cases he
   |true=>
    rw[hb] at he;simp[cond_true,Option.some.injEq,Sigma.mk.injEq] at he;obtain⟨rfl,he⟩:=he;subst he;obtain⟨k,rfl,hk,h⟩:=h.2 (zo hb);have e0:lf.eN s'.l (k:Int)=s'.l.drop k:=by simp[lf,eN]
    have e2:(lf.eN s'.l (k:Int)).length=s'.l.length-k:=by rw[e0];simp
    refine⟨⟨?_,?_⟩,id,aA,fr,s',e1,?_,rfl,?_,fun h=>by rw[e0,h];simp⟩
    ·show(lf.eN s'.l (k:Int)).length<=cG;have:=ho.1;omega
    ·rcases h with ⟨h1,h2⟩|⟨h1,cap,h2,h3⟩
     ·exact .inl ⟨h1,by simp[lf,eN,ho.2.1 h1],h2⟩
     ·have e3:z=.slice (some (if cap=0 then bare (φ id) else⟨(φ id).block,(φ id).off+k*aB t',none⟩)) (lf.eN s'.l (k:Int)).length cap:=by grind
      have e4:(lf.eN s'.l (k:Int)).length<=cap:=om
      by_cases hc:cap=0
      ·refine .inr ⟨h1,_,cap,[],e3,fun h=>absurd hc h,?_,fun j hj=>by simp at hj,e4⟩;have:lf.eN s'.l (k:Int)=[]:=jl om;rw[this];rfl
      ·rcases ho.2.2 h1 with ⟨h5,ec,h6,h7,_⟩|⟨_,h6,_⟩
       ·refine .inr ⟨h1,_,cap,ec.drop (k*aB t'),e3,fun _=>by rw[zj hc],?_,?_,e4⟩
        ·show bT _ (lf.eN s'.l (k:Int)) _;exact(xK k hk h6).2
        ·rw[zj hc];intro j hj;have hg:k*aB t'+j<ec.length:=by simp at hj;omega
         have:=h7 (k*aB t'+j) hg
         grind
       ·refine .inr ⟨h1,_,cap,[],e3,fun _=>by rw[zj hc],?_,fun j hj=>by simp at hj,e4⟩;have:lf.eN s'.l (k:Int)=[]:=by rw[e0,h6];simp
        rw[this];rfl
    ·intro hn a m c e;rcases h with ⟨h1,h2⟩|⟨h1,cap,h2,h3⟩
     ·grind
     ·rw[h2] at e;injection e with e _ _;injection e with e;rw[<-e]
      split<;>rfl
    ·intro hf;subst hf;simp[ig,e1]
  ·cases he
theorem qpp{t:Ty}{s:Sl (den t)}(h:au φ o imm w x z)(he:Em lf o x=some ⟨t,s⟩)(hl:∀id,rS φ o imm w id (o id)):(s.nil=true/\s.l=[]/\z=.slice none 0 0)\/(s.nil=false/\∃a cap,z=.slice (some a) s.l.length cap):=by
 rcases(VF hl h he).1.2 with g|⟨g,a,cap,_,e,_⟩
 ·exact .inl g
 ·exact .inr ⟨g,a,cap,e⟩
end
def qto:Value->Bool
 |.nilIface=>false|.agg _=>false|_=>true
section
variable {P:Program} {C:Cx} {X:Nat→Prop} {φ:Nat→Addr} {o:Nat→Obj} {w:World} {imm:Nat→Prop}
theorem qx8{op:BinOp}{x y:Operand}{a b:Value}(h:qto a=true):(eqGuard op t x y a b).run P w=.ok () w:=by cases a<;>first|(cases h;done)|(cases op<;>cases b<;>simp[eqGuard])
theorem zj1{op:BinOp}{x:Value}{b:Bool}(h:(kG lf op b).aD v u)(he:(Op.equal t x y).run P w=.ok b w)(hi:∀op,op=.eql\/op=.neq->binOp op t x y=(match op with|.eql=>(do pure (.bool (<-Op.equal t x y)))|_=>(do pure (.bool (!(<-Op.equal t x y)))))):u=[]/\rV P φ o imm w v (binOp op t x y):=by
 cases op<;>simp only[kG,kg,PQ] at h
 ·obtain⟨rfl,rfl⟩:=h;refine⟨rfl,.bool b,?_,EA⟩
  simp_all
 ·obtain⟨rfl,rfl⟩:=h;refine⟨rfl,.bool (!b),?_,EA⟩
  simp_all
theorem Oh{n:Nat}(h:Nat.beq (xE C t) n=true)(hn:n<5):∃d,C.P.underlying t=some d/\(match n,d with|0,.bool=>True|1,.slice _=>True|2,.func .. =>True|3,.pointer _=>True|4,.map .. =>True|_,_=>False):=by
 have h:=zo h;unfold xE at h;cases hd:desc C.P t with
 |none=>rw[hd] at h;simp at h;omega
 |some d=>rw[hd] at h;exact⟨d,nV hd,by cases d<;>simp only at h<;>subst h<;>first|trivial|omega⟩
theorem z2s(d:Nat){e:TypeId}(ht:P.underlying t=some (.slice e))(b:Option Addr)(n m:Nat):(Op.equalIn (d+1) t (.slice b n m) (.slice none 0 0)).run P w=.ok b.isNone w:=by cases b<;>simp[Op.equalIn,run_underlying ht]
theorem qtp(d:Nat){v:Bool}(ht:P.underlying t=some (.func ps rs v))(f:Fn)(a c:Array Value):(Op.equalIn (d+1) t (.func f a c) .nilFunc).run P w=.ok false w:=by simp[Op.equalIn,run_underlying ht]
theorem qk9(d:Nat){v:Bool}(ht:P.underlying t=some (.func ps rs v)):(Op.equalIn (d+1) t .nilFunc .nilFunc).run P w=.ok true w:=by simp[Op.equalIn,run_underlying ht]
theorem zbs(d:Nat){e:TypeId}(ht:P.underlying t=some (.pointer e))(a:Option Addr):(Op.equalIn (d+1) t (.pointer a) (.pointer none)).run P w=.ok a.isNone w:=by cases a<;>simp[Op.equalIn,run_underlying ht]
theorem Iv{a b:Value}{r:Bool}(h:(Op.equalIn (9999+1) t a b).run P w=.ok r w):(Op.equal t a b).run P w=.ok r w:=h
theorem qmb(hx:au φ o imm w x z)(h:sure o x=true):∃a,z=.pointer (some a):=by
 cases x<;>simp only[sure] at h<;>try (cases h;done)
 ·rename_i id off;unfold au at hx;cases e:o id<;>rw[e] at h hx<;>simp only at h hx<;>try (cases h;done)
  all_goals simp_all
 ·obtain⟨a,cs,h1,_⟩:=hx;exact⟨a,h1⟩
theorem rY{op:BinOp}{x:Value}{b:Bool}(h:(kG lf op b).aD v u)(he:(Op.equal t x y).run P w=.ok b w)(hi:(∀op:BinOp,op=.eql->binOp op t x y=(do pure (.bool (<-Op.equal t x y))))/\(∀op:BinOp,op=.neq->binOp op t x y=(do pure (.bool (!(<-Op.equal t x y)))))):u=[]/\rV P φ o imm w v (binOp op t x y):=zj1 h he fun op ho=>by grind
theorem zbt{op:BinOp}{a:Nat}(h:(YL lf op a b).aD v u)(t:TypeId):u=[]/\rV P φ o imm w v (binOp op t (.float .f64 a) (.float .f64 b)):=by
 cases op<;>simp only[YL,kg,It,PQ] at h
 ·obtain⟨y,h1,h2⟩:=h;simp only[jX] at h2;obtain⟨rfl,rfl⟩:=h2;have h1:Ieee.double.add a b=some y:=h1;exact⟨rfl,.float .f64 y,by simp[binOp,Op.floatArith,FloatKind.format,h1],VE⟩
 ·obtain⟨rfl,rfl⟩:=h;exact⟨rfl,.bool _,by simp[binOp,Op.floatCmp,FloatKind.format,lf,GC],EA⟩
theorem zbu{op:BinOp}{a b:Nat×Nat}(h:(YM lf op a b).aD v u)(t:TypeId):u=[]/\rV P φ o imm w v (binOp op t (.complex .f64 a.1 a.2) (.complex .f64 b.1 b.2)):=by
 cases op<;>simp only[YM,It,PQ] at h
 ·obtain⟨y,h1,h2⟩:=h;simp only[jX] at h2;obtain⟨rfl,rfl⟩:=h2;cases hx:Ieee.double.add a.1 b.1 with
  |none=>have h1:aw (Ieee.double.add a.1 b.1) (fun x=>aw (Ieee.double.add a.2 b.2) fun y=>some (x,y))=some y:=h1;rw[hx] at h1;cases h1
  |some x=>
   cases hz:Ieee.double.add a.2 b.2 with
   |none=>have h1:aw (Ieee.double.add a.1 b.1) (fun x=>aw (Ieee.double.add a.2 b.2) fun y=>some (x,y))=some y:=h1;rw[hx,hz] at h1;cases h1
   |some z=>have h1:aw (Ieee.double.add a.1 b.1) (fun x=>aw (Ieee.double.add a.2 b.2) fun y=>some (x,y))=some y:=h1;rw[hx,hz] at h1;injection h1 with h1;subst h1;exact⟨rfl,.complex .f64 x z,by simp[binOp,Op.complexOp,Op.Complex.arith,Op.floatArith,FloatKind.format,hx,hz],zga⟩
theorem zbv{op:BinOp}{y:V}{zx zy:Value}(hl:∀id,rS φ o imm w id (o id))(hx:au φ o imm w x zx)(hy:au φ o imm w y zy)(hj:∀(t:TypeId) (p:Ty) (a b:den p) (xs ys:Array Value),bF t C.eqs=true->C.ty t=some (.st p)->az imm w p a xs.toList->az imm w p b ys.toList->(Op.equal t (.agg xs) (.agg ys)).run C.P w=.ok (wA lf p a b) w)(h:(NZ lf C o op t x y).aD v u):u=[]/\rV C.P φ o imm w v (binOp op t zx zy):=by
 have hc:∀(s:Bool) (zx:Value),(Nat.beq (xE C t) 1=true/\(kG lf op s).aD v u)->zy=.slice none 0 0->(∃b n m,zx=.slice b n m/\b.isNone=s)->u=[]/\rV C.P φ o imm w v (binOp op t zx zy):=by
  rintro s zx ⟨h1,h2⟩ rfl ⟨b,n,m,rfl,rfl⟩;obtain⟨d,hd,hk⟩:=Oh h1 om;cases d<;>try exact False.elim hk
  exact rY h2 (Iv (z2s _ hd _ _ _)) ⟨by rintro _ rfl;rfl,by rintro _ rfl;rfl⟩
 have hf:∀(zx:Value) (s:Bool),Nat.beq (xE C t) 3=true->(kG lf op s).aD v u->zy=.pointer none->(∃a,zx=.pointer a/\a.isNone=s)->u=[]/\rV C.P φ o imm w v (binOp op t zx zy):=by
  rintro zx s h1 h2 rfl ⟨a,rfl,rfl⟩;obtain⟨d,hd,hk⟩:=Oh h1 om;cases d<;>try exact False.elim hk
  refine rY h2 (Iv (zbs _ hd _)) ⟨by rintro _ rfl;rfl,by rintro _ rfl;rfl⟩
 unfold NZ at h;split at h
 ·
  rename_i k a k' b;obtain⟨rfl,ha⟩:=pC hx;obtain⟨rfl,hb⟩:=pC hy;split at h
  ·exact qzg (.inl rfl) ha h t
  ·exact qzg (.inr rfl) ha h t
  ·split at h
   ·rename_i e _;subst e;exact zbp ha h t
   ·cases h
 ·obtain⟨s,rfl,rfl,_⟩:=rU hx;obtain⟨s',rfl,rfl,_⟩:=rU hy;exact zbr h t
 ·have e1:=PU hx;have e2:=PU hy;subst e1 e2;exact zbt h t
 ·have e1:=PV hx;have e2:=PV hy;subst e1 e2;exact zbu h t
 ·have e1:=uB hx;have e2:=uB hy;subst e1 e2;rw[eT] at h;obtain⟨d,hd,hk⟩:=Oh h.1 om;cases d<;>try exact False.elim hk
  exact rY h.2 (Iv (run_equalIn_bool _ _ _ _ _ hd)) ⟨by rintro _ rfl;rfl,by rintro _ rfl;rfl⟩
 ·rename_i p a p' b;split at h
  ·rename_i b' hb;rw[eT,ze] at h;unfold iO at hb;split at hb
   ·rename_i hp _;subst hp;simp only[zU] at hb;subst hb;obtain⟨xs,rfl,hm⟩:=hx;obtain⟨ys,rfl,hn⟩:=hy;exact rY h.2 (hj t p' a b xs ys h.1.1 (qe h.1.2) hm hn) ⟨by rintro _ rfl;rfl,by rintro _ rfl;rfl⟩
   ·cases hb
  ·cases h
 ·rename_i e s;rw[eT] at h;refine hc _ _ h hy ?_;obtain⟨_,h2⟩:=GQ hx;rcases h2 with ⟨h3,_,rfl⟩|⟨h3,a,cap,ec,rfl,_⟩
  ·exact⟨_,_,_,rfl,by rw[h3];rfl⟩
  ·exact⟨_,_,_,rfl,by rw[h3];rfl⟩
 ·rw[eT] at h;exact hc _ _ h hy ⟨_,_,_,hx,rfl⟩
 ·rename_i f l;rw[eT] at h;obtain⟨c,rfl,_⟩:=hx;have e2:zy=.nilFunc:=hy;subst e2;obtain⟨d,hd,hk⟩:=Oh h.1 om;cases d<;>try exact False.elim hk
  exact rY h.2 (Iv (qtp _ hd _ _ _)) ⟨by rintro _ rfl;rfl,by rintro _ rfl;rfl⟩
 ·rw[eT] at h;have e1:zx=.nilFunc:=hx;have e2:zy=.nilFunc:=hy;subst e1 e2;obtain⟨d,hd,hk⟩:=Oh h.1 om;cases d<;>try exact False.elim hk
  exact rY h.2 (Iv (qk9 _ hd)) ⟨by rintro _ rfl;rfl,by rintro _ rfl;rfl⟩
 ·rename_i a k n;rw[eT] at h;have e2:zy=.nilFunc:=hy;subst e2;have hr:AH imm w a k n zx:=hx;have hg:(Int.ofNat (pZ a 0))=((a.length:Nat):Int):=by rw[qx4,zW];rfl
  obtain⟨d,hd,hk⟩:=Oh h.1 om;cases d<;>try exact False.elim hk
  rcases VC a hr with ⟨rfl,e⟩|⟨f,c,rfl,e⟩
  ·have hb:lf.e k (Int.ofNat (pZ a 0))=true:=by rw[hg,e];show(((a.length:Nat):Int)==_)=true;simp
   rw[hb] at h;exact rY h.2 (Iv (qk9 _ hd)) ⟨by rintro _ rfl;rfl,by rintro _ rfl;rfl⟩
  ·have hb:lf.e k (Int.ofNat (pZ a 0))=false:=by rw[hg];show(k==_)=false;simp[e]
   rw[hb] at h;exact rY h.2 (Iv (qtp _ hd _ _ _)) ⟨by rintro _ rfl;rfl,by rintro _ rfl;rfl⟩
 ·rw[eT] at h;exact hf _ _ h.1 h.2 hy ⟨none,hx,rfl⟩
 ·rw[eT,ze] at h;obtain⟨a,ha⟩:=qmb hx h.1.2;exact hf _ _ h.1.1 h.2 hy ⟨some a,ha,rfl⟩
 ·split at h
  ·rename_i e s he;rw[eT] at h;refine hc _ _ h hy ?_;rcases qpp hx he hl with ⟨h3,_,rfl⟩|⟨h3,a,cap,rfl⟩
   ·exact⟨_,_,_,rfl,by rw[h3];rfl⟩
   ·exact⟨_,_,_,rfl,by rw[h3];rfl⟩
  ·cases h
 ·cases h
end
end Ev