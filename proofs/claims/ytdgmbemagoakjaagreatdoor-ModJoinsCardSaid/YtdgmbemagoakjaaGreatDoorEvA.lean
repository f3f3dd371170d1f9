/- The evaluator: leaves, types, values, shapes, operations. No statement of its own about the program. -/
import GoSem.Core.Code
import GoSem.Core.Program
import GoSem.Core.View
import GoSem.Core.Utf8
import GoSem.Core.Float
namespace Ev
theorem om{p:Prop}(h:p:=by omega):p:=h
theorem dc{p:Prop}(h:p:=by decide):p:=h
abbrev zd:=@Bool.and_eq_true
abbrev ze:=@List.getElem?_eq_getElem
abbrev zf:=@List.length_cons
abbrev zg:=@Nat.eq_of_beq_eq_true
abbrev zh:=@List.length_append
abbrev zj:=@List.mem_cons_self
abbrev zm:=@List.mem_cons_of_mem
abbrev zn:=@decide_eq_false
abbrev zo:=@decide_eq_true
abbrev zt:=@List.mem_cons
abbrev zu:=@List.append_nil
abbrev zw:=@List.drop_eq_nil_of_le
abbrev zA:=@List.length_map
abbrev zB:=@List.mem_singleton
abbrev zC:=@List.append_assoc
abbrev zD:=@List.length_drop
abbrev zE:=@Option.some.injEq
abbrev zF:=@Nat.le_of_ble_eq_true
abbrev zG:=@List.mem_of_getElem?
abbrev zH:=@List.getElem?_eq_some_iff
abbrev zI:=@List.map_cons
abbrev zJ:=@List.length_take
abbrev zK:=@Option.some.inj
abbrev zL:=@List.mem_append
abbrev zM:=@Classical.byContradiction
abbrev zN:=@Array.getElem?_toList
abbrev zO:=@Nat.zero_add
abbrev zP:=@List.map_append
abbrev zQ:=@List.eq_nil_of_length_eq_zero
abbrev zR:=@List.getElem?_append_right
abbrev zS:=@List.all_eq_true
abbrev zT:=@List.take_of_length_le
abbrev zU:=@List.getElem?_eq_none
abbrev zV:=@List.getElem?_map
abbrev zW:=@Option.bind_eq_some_iff
abbrev zX:=@List.map_map
abbrev zY:=@Array.getElem?_eq_none
abbrev zZ:=@List.mem_map
abbrev ja:=@List.getElem?_append_left
abbrev jb:=@List.any_eq_true
abbrev jc:=@of_decide_eq_true
abbrev jd:=@List.map_congr_left
abbrev je:=@List.take_append_of_le_length
abbrev jf:=@List.drop_append_of_le_length
open Go
structure Sl (α:Type) where
 nil:Bool
 l:List α
def ag{α β:Type}(x:Option α)(f:α->Option β):Option β:=match x with|some a=>f a|none=>none
def aq{α:Type}(x:Bool)(a b:Option α):Option α:=match x with|true=>a|false=>b
def Rn{α:Type}(x:Bool)(a b:α):α:=match x with|true=>a|false=>b
def bT{α β:Type}(f:α->Option β)(y:α⊕β):Option β:=match y with|.inl a=>f a|.inr b=>some b
def ai(a:Bool):Bool:=!a
def aD(a b:Bool):Bool:=a&&b
def bA{α:Type}(l:List α)(i:Int):Option α:=if 0<=i then l[i.toNat]? else none
def bC{α:Type}(l:List α)(i:Int):Option Nat:=if 0<=i/\i<l.length then some i.toNat else none
def cg{α:Type}(l:List α)(lo hi:Int):Option (List α):=if 0<=lo/\lo<=hi/\hi<=l.length then some ((l.take hi.toNat).drop lo.toNat) else none
def cF(n:Int)(hi:Int):Option Nat:=if 0<=hi/\hi<=n then some hi.toNat else none
def fit(n:Int):Option Unit:=if n<=2147483648 then some () else none
def tn(n m:Int):Option Nat:=if 0<=n/\n<=m/\m<=2147483648 then some n.toNat else none
def wZ(k:IntKind)(a b:Int):Option Int:=if b=0 then none else some (k.wrap (a.tdiv b))
def j6(a b:Int):Option Int:=if b=0 then none else some (a.tmod b)
def fZ(k:IntKind)(a b:Int):Option Int:=if b<0 then none else some (k.wrap (a*2 ^ min b.toNat k.bits))
def j7(k:IntKind)(a b:Int):Option Int:=if b<0 then none else some (a.fdiv (2 ^ min b.toNat k.bits))
def aA(k:IntKind)(a b:Int):Int:=k.wrap (a+b)
def cq(k:IntKind)(a b:Int):Int:=k.wrap (a-b)
def oN(k:IntKind)(a b:Int):Int:=k.wrap (a*b)
def dU(k:IntKind)(a:Int):Int:=k.wrap a
def oO(k:IntKind)(a b:Int):Int:=k.wrap (BitVec.ofInt k.bits a&&&BitVec.ofInt k.bits b).toNat
def oP(k:IntKind)(a b:Int):Int:=k.wrap (BitVec.ofInt k.bits a|||BitVec.ofInt k.bits b).toNat
def nn(k:IntKind)(a b:Int):Int:=k.wrap (BitVec.ofInt k.bits a ^^^ BitVec.ofInt k.bits b).toNat
def iM(k:IntKind)(a b:Int):Int:=k.wrap (BitVec.ofInt k.bits a&&&~~~BitVec.ofInt k.bits b).toNat
def aE(a b:Int):Bool:=decide (a<b)
def bJ(a b:Int):Bool:=decide (a<=b)
def ak(a b:Int):Bool:=a==b
def eU(a b:Bool):Bool:=a==b
def bx(a b:List Int):Bool:=a==b
def CE(a b:List Int):List Int:=a++b
def iN(a b:Int):Int:=if b<a then b else a
def ib(a b:Int):Int:=if a<b then b else a
def aW(a b:Int):Int:=a+b
def ae{α:Type}(l:List α):Int:=(l.length:Int)
def app{α:Type}(l m:List α):List α:=l++m
def rep{α:Type}(n:Nat)(x:α):List α:=List.replicate n x
def nth{α:Type}(l:List α)(n:Nat):Option α:=l[n]?
def fD{α:Type}(l:List α)(n:Nat)(x:α):List α:=l.set n x
def aF{α:Type}(l:List α)(n:Nat):List α:=l.take n
def cB{α:Type}(l:List α)(n:Int):List α:=l.drop n.toNat
def dX{α:Type}(l:List α)(n:Int)(z:α):List α:=l.take n.toNat++List.replicate (l.length-n.toNat) z
def oQ{α:Type}(l m:List α):List α:=m.take l.length++l.drop m.length
def ch{α:Type}(l:List α):Bool:=l.isEmpty
def strLt:List Int->List Int->Bool
 |_,[]=>false
 |[],_::_=>true
 |a::x,b::y=>decide (a<b)||(decide (a=b)&&strLt x y)
def ju{κ ν:Type}(eq:κ->κ->Bool)(k:κ):List (κ×ν)->Option ν
 |[]=>none
 |(k',v)::m=>bif eq k k' then some v else ju eq k m
def kE{κ ν:Type}(eq:κ->κ->Bool)(k:κ)(m:List (κ×ν))(z:ν):ν:=(ju eq k m).getD z
def ur{κ ν:Type}(eq:κ->κ->Bool)(k:κ)(m:List (κ×ν)):Bool:=(ju eq k m).isSome
def jv{κ ν:Type}(eq:κ->κ->Bool)(k:κ)(v:ν):List (κ×ν)->List (κ×ν)
 |[]=>[(k,v)]
 |(k',v')::m=>bif eq k k' then(k,v)::m else(k',v')::jv eq k v m
def jw{κ ν:Type}(eq:κ->κ->Bool)(k:κ):List (κ×ν)->List (κ×ν)
 |[]=>[]
 |(k',v')::m=>bif eq k k' then m else(k',v')::jw eq k m
def wm(l:List Int):ByteArray:=⟨(l.map fun b=>UInt8.ofNat b.toNat).toArray⟩
def da(l:List Int)(p:Int):Int:=((Utf8.decode (wm l) p.toNat).1:Int)
def eE(l:List Int)(p:Int):Int:=if p<l.length then p+((Utf8.decode (wm l) p.toNat).2:Int) else p
def lV(a b:Nat):Option Nat:=Ieee.double.add a b
def HM(a b:Nat):Bool:=(Ieee.double.order a b==some .lt)||(Ieee.double.order a b==some .eq)
def HO(n:Int):Nat:=FloatKind.nearest .f64 n
def lW{σ ρ:Type}(f:σ->Option (σ⊕ρ)):Nat->σ->Option ρ
 |0,_=>none
 |n+1,s=>match f s with
  |some (.inl s')=>lW f n s'
  |some (.inr r)=>some r
  |none=>none
open Classical in
noncomputable def aM{σ ρ:Type}(f:σ->Option (σ⊕ρ))(s:σ):Option ρ:=if h:∃r n,lW f n s=some r then some (Classical.choose h) else none
structure Lf:Type 1 where
 b:{α β:Type}->Option α->(α->Option β)->Option β
 c:{α:Type}->Bool->Option α->Option α->Option α
 Rn:{α:Type}->Bool->α->α->α
 bT:{α β:Type}->(α->Option β)->α⊕β->Option β
 t:Bool->Bool
 d:Bool->Bool->Bool
 g:{α:Type}->List α->Int->Option α
 bC:{α:Type}->List α->Int->Option Nat
 cg:{α:Type}->List α->Int->Int->Option (List α)
 cF:Int->Int->Option Nat
 f:Int->Option Unit
 tn:Int->Int->Option Nat
 wZ:IntKind->Int->Int->Option Int
 j6:Int->Int->Option Int
 fZ:IntKind->Int->Int->Option Int
 j7:IntKind->Int->Int->Option Int
 a:IntKind->Int->Int->Int
 u:IntKind->Int->Int->Int
 oN:IntKind->Int->Int->Int
 dU:IntKind->Int->Int
 oO:IntKind->Int->Int->Int
 oP:IntKind->Int->Int->Int
 nn:IntKind->Int->Int->Int
 iM:IntKind->Int->Int->Int
 l:Int->Int->Bool
 m:Int->Int->Bool
 e:Int->Int->Bool
 eU:Bool->Bool->Bool
 h:List Int->List Int->Bool
 q:List Int->List Int->List Int
 iN:Int->Int->Int
 ib:Int->Int->Int
 s:Int->Int->Int
 n:{α:Type}->List α->Int
 app:{α:Type}->List α->List α->List α
 rep:{α:Type}->Nat->α->List α
 nth:{α:Type}->List α->Nat->Option α
 fD:{α:Type}->List α->Nat->α->List α
 aF:{α:Type}->List α->Nat->List α
 cB:{α:Type}->List α->Int->List α
 dX:{α:Type}->List α->Int->α->List α
 oQ:{α:Type}->List α->List α->List α
 i:{α:Type}->List α->Bool
 strLt:List Int->List Int->Bool
 kE:{κ ν:Type}->(κ->κ->Bool)->κ->List (κ×ν)->ν->ν
 ur:{κ ν:Type}->(κ->κ->Bool)->κ->List (κ×ν)->Bool
 jv:{κ ν:Type}->(κ->κ->Bool)->κ->ν->List (κ×ν)->List (κ×ν)
 jw:{κ ν:Type}->(κ->κ->Bool)->κ->List (κ×ν)->List (κ×ν)
 o:{σ ρ:Type}->(σ->Option (σ⊕ρ))->σ->Option ρ
 lV:Nat->Nat->Option Nat
 HM:Nat->Nat->Bool
 HO:Int->Nat
 da:List Int->Int->Int
 eE:List Int->Int->Int
noncomputable def lf:Lf where
 b:=@ag
 c:=@aq
 Rn:=@Rn
 bT:=@bT
 t:=ai
 d:=aD
 g:=@bA
 bC:=@bC
 cg:=@cg
 cF:=cF
 f:=fit
 tn:=tn
 wZ:=wZ
 j6:=j6
 fZ:=fZ
 j7:=j7
 a:=aA
 u:=cq
 oN:=oN
 dU:=dU
 oO:=oO
 oP:=oP
 nn:=nn
 iM:=iM
 l:=aE
 m:=bJ
 e:=ak
 eU:=eU
 h:=bx
 q:=CE
 iN:=iN
 ib:=ib
 s:=aW
 n:=@ae
 app:=@app
 rep:=@rep
 nth:=@nth
 fD:=@fD
 aF:=@aF
 cB:=@cB
 dX:=@dX
 oQ:=@oQ
 i:=@ch
 strLt:=strLt
 kE:=@kE
 ur:=@ur
 jv:=@jv
 jw:=@jw
 o:=@aM
 lV:=lV
 HM:=HM
 HO:=HO
 da:=da
 eE:=eE
inductive Ty where
 |int (k:IntKind)|bool|str|sl (e:Ty)|unit|pair (a b:Ty)|st (p:Ty)|arr (n:Nat) (e:Ty)
 |ks (p:Ty)
 |ej|cJ
 deriving DecidableEq
inductive fF (α:Type) where
 |node (x:α) (nl:Bool) (ks:List (fF α))
def fF.x{α:Type}:fF α->α
 |.node x _ _=>x
def fF.s{α:Type}:fF α->Sl (fF α)
 |.node _ nl ks=>⟨nl,ks⟩
abbrev den:Ty->Type
 |.int _=>Int
 |.bool=>Bool
 |.ej=>Nat
 |.cJ=>Nat×Nat
 |.str=>List Int
 |.sl e=>Sl (den e)
 |.unit=>Unit
 |.pair a b=>den a×den b
 |.st p=>den p
 |.arr _ e=>List (den e)
 |.ks p=>Sl (fF (den p))
def aI:Ty->Nat
 |.unit=>0
 |.pair a b=>aI a+aI b
 |.st p=>aI p
 |.arr n e=>n*aI e
 |_=>1
def zero:(t:Ty)->den t
 |.int _=>(0:Int)
 |.bool=>false
 |.ej=>(0:Nat)
 |.cJ=>((0:Nat),(0:Nat))
 |.str=>([]:List Int)
 |.sl e=>(⟨true,[]⟩:Sl (den e))
 |.unit=>()
 |.pair a b=>(zero a,zero b)
 |.st p=>zero p
 |.arr n e=>List.replicate n (zero e)
 |.ks p=>(⟨true,[]⟩:Sl (fF (den p)))
def HP:Ty->Ty->Ty
 |.pair a b,k=>.pair a (HP b k)
 |t,k=>.pair t k
def Gv:(p k:Ty)->den p->den k->den (HP p k)
 |.pair _ b,k,x,y=>(x.1,Gv b k x.2 y)
 |.int _,_,x,y=>(x,y)
 |.bool,_,x,y=>(x,y)
 |.ej,_,x,y=>(x,y)
 |.cJ,_,x,y=>(x,y)
 |.str,_,x,y=>(x,y)
 |.sl _,_,x,y=>(x,y)
 |.unit,_,x,y=>(x,y)
 |.st _,_,x,y=>(x,y)
 |.arr _ _,_,x,y=>(x,y)
 |.ks _,_,x,y=>(x,y)
def Ro:(p k:Ty)->den (HP p k)->den p
 |.pair _ b,k,z=>(z.1,Ro b k z.2)
 |.int _,_,z=>z.1
 |.bool,_,z=>z.1
 |.ej,_,z=>z.1
 |.cJ,_,z=>z.1
 |.str,_,z=>z.1
 |.sl _,_,z=>z.1
 |.unit,_,z=>z.1
 |.st _,_,z=>z.1
 |.arr _ _,_,z=>z.1
 |.ks _,_,z=>z.1
def Ni:(p k:Ty)->den (HP p k)->den k
 |.pair _ b,k,z=>Ni b k z.2
 |.int _,_,z=>z.2
 |.bool,_,z=>z.2
 |.ej,_,z=>z.2
 |.cJ,_,z=>z.2
 |.str,_,z=>z.2
 |.sl _,_,z=>z.2
 |.unit,_,z=>z.2
 |.st _,_,z=>z.2
 |.arr _ _,_,z=>z.2
 |.ks _,_,z=>z.2
abbrev lK(p:Ty):Ty:=.st (HP p (.ks p))
def CF(p:Ty)(s:Sl (fF (den p))):den (.sl (lK p)):=(⟨s.nil,s.l.map fun r=>Gv p (.ks p) r.x r.s⟩:Sl (den (lK p)))
def LP(p:Ty)(s:Sl (den (lK p))):Sl (fF (den p)):=⟨s.nil,s.l.map fun z=>.node (Ro p (.ks p) z) (Ni p (.ks p) z).nil (Ni p (.ks p) z).l⟩
inductive V:Type where
 |d (t:Ty) (x:den t)
 |aX (id ver:Nat)
 |pre (id ver:Nat) (n:Nat) (acE:Bool)
 |ptr (id off:Nat)
 |jx (id ver:Nat) (i:Nat) (path:List Nat)
 |ref (t:Ty) (x:den t)
 |fP
 |fn (f:Nat) (caps:List V)
 |fG
 |iE (vs:List V)
 |agg (cs:List V)
 |mp (id:Nat)
 |ic
 |ga
 |eM
 |lb (b:Bool)
 |undef
 |cX
 |cG (id:Nat) (b:Bool)
 |gb (id ver:Nat) (lo:Int)
 |it (id:Nat)
 |Rp (b:Bool) (p c:Int)
 |fa (a:List (Nat×Bool)) (k n:Int)
 |rr (t:Ty) (x:den t)
inductive Obj:Type where
 |box (cs:List V)
 |vec (t:Ty) (ver:Nat) (fr:Bool) (s:Sl (den t))
 |map (k v:Ty) (m:List (den k×den v))
 |dead
 |none
 |iter (s:List Int) (p:Int)
structure St:Type where
 env:Nat->V
 obj:Nat->Obj
def dx:V->V
 |.lb b=>.d .bool b
 |v=>v
def ck{α:Type}(f:Nat->α)(i:Nat)(x:α):Nat->α:=fun j=>bif Nat.beq j i then x else f j
def ar{α:Type}(f:Nat->α):List (Nat×α)->Nat->α
 |[]=>f
 |(i,x)::r=>ar (ck f i x) r
def fQ(t:Ty):(t':Ty)->den t'->Option (den t):=fun t' x=>
 match decEq t' t with
 |isTrue h=>some (h▸x)
 |isFalse _=>none
section
variable (L:Lf)
def ie(o:Nat->Obj)(t:Ty):V->Option (den t)
 |.d t' x=>fQ t t' x
 |.aX id ver=>match o id with
  |.vec e aB _ s=>bif Nat.beq ver aB then fQ t (.sl e) s else none
  |_=>none
 |.pre id ver n _=>match o id with
  |.vec e aB _ s=>bif Nat.beq ver aB then fQ t (.sl e) (⟨s.nil,L.aF s.l n⟩:Sl (den e)) else none
  |_=>none
 |.eM=>match t with
  |.sl e=>some (⟨true,[]⟩:Sl (den e))
  |_=>none
 |.gb id ver lo=>match o id with
  |.vec e aB _ s=>bif Nat.beq ver aB then fQ t (.sl e) (⟨s.nil,L.cB s.l lo⟩:Sl (den e)) else none
  |_=>none
 |_=>none
def LR(o:Nat->Obj):(t:Ty)->V->Option (den t)
 |.ks p,v=>match ie L o (.sl (lK p)) v with
  |some s=>some (LP p s)
  |none=>none
 |_,_=>none
def lX(o:Nat->Obj)(t:Ty)(v:V):Option (den t):=match ie L o t v with
 |some x=>some x
 |none=>LR L o t v
def w7:(t:Ty)->den t->List V
 |.unit,_=>[]
 |.pair a b,x=>w7 a x.1++w7 b x.2
 |.st p,x=>w7 p x
 |.ks p,x=>[.d (.sl (lK p)) (CF p x)]
 |t,x=>[.d t x]
def kF(o:Nat->Obj):(t:Ty)->List V->Option (den t×List V)
 |.unit,cs=>some ((),cs)
 |.pair a b,cs=>match kF o a cs with
  |some (x,r)=>match kF o b r with
   |some (y,r')=>some ((x,y),r')
   |none=>none
  |none=>none
 |.st p,cs=>kF o p cs
 |.arr _ _,_=>none
 |t,c::r=>match lX L o t c with
  |some x=>some (x,r)
  |none=>none
 |_,[]=>none
def fj(o:Nat->Obj)(t:Ty)(v:V):Option (den t):=
 match v with
 |.agg cs=>match t with
  |.st p=>match kF L o p cs with
   |some (x,[])=>some x
   |_=>none
  |_=>none
 |v=>lX L o t v
end
def desc(P:Program)(t:TypeId):Option TypeDesc:=
 match P.types.toList[t]? with
 |some i=>match i.desc with
  |.named _ u=>match P.types.toList[u]? with
   |some j=>some j.desc
   |none=>none
  |d=>some d
 |none=>none
def size(P:Program)(t:TypeId):Nat:=match P.types.toList[t]? with|some i=>i.size|none=>0
def Nj(P:Program)(t:TypeId)(f:Nat):Option Field:=
 match desc P t with
 |some (.struct fs)=>fs.toList[f]?
 |_=>none
def LS:(p:Ty)->Nat->den p->Option ((t:Ty)×den t)
 |.pair a _,0,x=>some ⟨a,x.1⟩
 |.pair _ b,n+1,x=>LS b n x.2
 |.unit,_,_=>none
 |.ks p,0,x=>some ⟨.sl (lK p),CF p x⟩
 |t,0,x=>some ⟨t,x⟩
 |_,_+1,_=>none
def LU:(t:Ty)->Nat->den t->Option ((t:Ty)×den t)
 |.st p,n,x=>LS p n x
 |_,_,_=>none
def Rq:(path:List Nat)->(t:Ty)->den t->Option ((t:Ty)×den t)
 |[],t,x=>some ⟨t,x⟩
 |f::r,t,x=>match LU t f x with
  |some ⟨u,y⟩=>Rq r u y
  |none=>none
def dz:(p:Ty)->Nat->den p->((t:Ty)->den t->Option (den t))->Option (den p)
 |.pair a b,0,x,g=>match g a x.1 with|some y=>some ((y,x.2):den (.pair a b))|none=>none
 |.pair a b,n+1,x,g=>match dz b n x.2 g with|some y=>some ((x.1,y):den (.pair a b))|none=>none
 |.unit,_,_,_=>none
 |.ks p,0,x,g=>match g (.sl (lK p)) (CF p x) with|some s=>some (LP p s)|none=>none
 |t,0,x,g=>g t x
 |_,_+1,_,_=>none
def UB:(t:Ty)->Nat->den t->((t:Ty)->den t->Option (den t))->Option (den t)
 |.st p,n,x,g=>dz p n x g
 |_,_,_,_=>none
def HQ:(path:List Nat)->(t:Ty)->den t->((t:Ty)->den t->Option (den t))->Option (den t)
 |[],t,x,g=>g t x
 |f::r,t,x,g=>UB t f x (fun u y=>HQ r u y g)
inductive Sh where
 |d (t:Ty)|aX (id:Nat)|ptr (id off:Nat)|ref (t:Ty)|fP|fn (f:Nat) (caps:List Sh)|fG
 |iE (l:List Sh)|agg (l:List Sh)|mp (id:Nat)|ic|ga|cX|cG (id:Nat)|gb (id:Nat)|it (id:Nat)|fa (a:List (Nat×Bool))|rr (t:Ty)
inductive ft where
 |box (cs:List Sh)|vec (t:Ty)|map (k v:Ty)|gone|iter
structure Shape where
 roots:List Sh
 aw:List ft
mutual
def LV:Sh->List Ty->List Ty
 |.d t,r=>t::r
 |.ref t,r=>t::r
 |.rr t,r=>t::r
 |.fn _ l,r=>gK l r
 |.iE l,r=>gK l r
 |.agg l,r=>gK l r
 |.cG _,r=>.bool::r
 |.gb _,r=>.int .i64::r
 |.fa _,r=>.int .i64::.int .i64::r
 |_,r=>r
def gK:List Sh->List Ty->List Ty
 |[],r=>r
 |s::l,r=>LV s (gK l r)
end
def LW:ft->List Ty->List Ty
 |.box cs,r=>gK cs r
 |.vec t,r=>.sl t::r
 |.map k v,r=>.arr 0 (.pair k v)::r
 |.gone,r=>r
 |.iter,r=>.str::.int .i64::r
def bQ:List ft->List Ty->List Ty
 |[],r=>r
 |s::l,r=>LW s (bQ l r)
def Shape.aU(s:Shape):List Ty:=gK s.roots (bQ s.aw [])
abbrev aj:List Ty->Type
 |[]=>Unit
 |t::ts=>den t×aj ts
mutual
def jW(ρ κ:Nat->Nat):(s:Sh)->(r:List Ty)->aj (LV s r)->V×aj r
 |.d t,_,c=>(.d t c.1,c.2)
 |.ref t,_,c=>(.ref t c.1,c.2)
 |.rr t,_,c=>(.rr t c.1,c.2)
 |.fn f l,r,c=>let p:=eX ρ κ l r c;(.fn f p.1,p.2)
 |.iE l,r,c=>let p:=eX ρ κ l r c;(.iE p.1,p.2)
 |.agg l,r,c=>let p:=eX ρ κ l r c;(.agg p.1,p.2)
 |.aX id,_,c=>(.aX (ρ id) (κ id),c)
 |.ptr id off,_,c=>(.ptr (ρ id) off,c)
 |.fP,_,c=>(.fP,c)
 |.fG,_,c=>(.fG,c)
 |.mp id,_,c=>(.mp (ρ id),c)
 |.ic,_,c=>(.ic,c)
 |.ga,_,c=>(.ga,c)
 |.cX,_,c=>(.cX,c)
 |.cG id,_,c=>(.cG (ρ id) c.1,c.2)
 |.gb id,_,c=>(.gb (ρ id) (κ id) c.1,c.2)
 |.it id,_,c=>(.it (ρ id),c)
 |.fa a,_,c=>(.fa a c.1 c.2.1,c.2.2)
def eX(ρ κ:Nat->Nat):(l:List Sh)->(r:List Ty)->aj (gK l r)->List V×aj r
 |[],_,c=>([],c)
 |s::l,r,c=>let p:=jW ρ κ s (gK l r) c;let q:=eX ρ κ l r p.2;(p.1::q.1,q.2)
end
def eY(ρ κ:Nat->Nat)(i:Nat):(s:ft)->(r:List Ty)->aj (LW s r)->Obj×aj r
 |.box cs,r,c=>let p:=eX ρ κ cs r c;(.box p.1,p.2)
 |.vec t,_,c=>(.vec t (κ i) false c.1,c.2)
 |.map k v,_,c=>(.map k v c.1,c.2)
 |.gone,_,c=>(.dead,c)
 |.iter,_,c=>(.iter c.1 c.2.1,c.2.2)
def fH(ρ κ:Nat->Nat):Nat->(l:List ft)->(r:List Ty)->aj (bQ l r)->List (Nat×Obj)
 |_,[],_,_=>[]
 |i,s::l,r,c=>let p:=eY ρ κ i s (bQ l r) c;(ρ i,p.1)::fH ρ κ (i+1) l r p.2
def fill(ρ κ:Nat->Nat)(s:Shape)(c:aj s.aU):List V×List (Nat×Obj):=
 let p:=eX ρ κ s.roots (bQ s.aw []) c
 (p.1,fH ρ κ 0 s.aw [] p.2)
abbrev Ren:=List Nat
def idx(ct:Nat):Ren->Nat->Option Nat
 |[],_=>none
 |x::r,i=>bif Nat.beq x ct then some i else idx ct r (i+1)
def HS(ct:Nat)(aS:Ren):Nat×Ren:=match idx ct aS 0 with
 |some i=>(i,aS)
 |none=>(aS.length,aS++[ct])
mutual
def shV(o:Nat->Obj):V->Ren->Sh×Ren
 |.d t _,aS=>(.d t,aS)
 |.ref t _,aS=>(.ref t,aS)
 |.rr t _,aS=>(.rr t,aS)
 |.aX id ver,aS=>match o id with
  |.vec t aB fr _=>bif Nat.beq ver aB then(bif fr then(.d (.sl t),aS) else let p:=HS id aS;(.aX p.1,p.2)) else(.cX,aS)
  |_=>(.cX,aS)
 |.pre id ver _ _,aS=>match o id with
  |.vec t aB fr _=>bif Nat.beq ver aB then(bif fr then(.d (.sl t),aS) else let p:=HS id aS;(.aX p.1,p.2)) else(.cX,aS)
  |_=>(.cX,aS)
 |.ptr id off,aS=>match o id with
  |.none=>(.cX,aS)
  |.dead=>(.cX,aS)
  |_=>let p:=HS id aS;(.ptr p.1 off,p.2)
 |.fP,aS=>(.fP,aS)
 |.fn f l,aS=>let p:=Gw o l aS;(.fn f p.1,p.2)
 |.fG,aS=>(.fG,aS)
 |.iE l,aS=>let p:=Gw o l aS;(.iE p.1,p.2)
 |.agg l,aS=>let p:=Gw o l aS;(.agg p.1,p.2)
 |.mp id,aS=>let p:=HS id aS;(.mp p.1,p.2)
 |.it id,aS=>let p:=HS id aS;(.it p.1,p.2)
 |.fa a _ _,aS=>(.fa a,aS)
 |.ic,aS=>(.ic,aS)
 |.ga,aS=>(.ga,aS)
 |.cG id _,aS=>match o id with
  |.box _=>let p:=HS id aS;(.cG p.1,p.2)
  |_=>(.cX,aS)
 |.gb id ver _,aS=>match o id with
  |.vec t aB fr _=>bif Nat.beq ver aB then(bif fr then(.d (.sl t),aS) else let p:=HS id aS;(.gb p.1,p.2)) else(.cX,aS)
  |_=>(.cX,aS)
 |_,aS=>(.cX,aS)
def Gw(o:Nat->Obj):List V->Ren->List Sh×Ren
 |[],aS=>([],aS)
 |v::l,aS=>let p:=shV o v aS;let q:=Gw o l p.2;(p.1::q.1,q.2)
end
def shO(o:Nat->Obj)(b:Obj)(aS:Ren):ft×Ren:=match b with
 |.box cs=>let p:=Gw o cs aS;(.box p.1,p.2)
 |.vec t _ _ _=>(.vec t,aS)
 |.map k v _=>(.map k v,aS)
 |.none=>(.gone,aS)
 |.dead=>(.gone,aS)
 |.iter _ _=>(.iter,aS)
def Nk(o:Nat->Obj):Nat->Nat->Ren->List ft
 |0,_,_=>[]
 |n+1,i,aS=>match aS[i]? with
  |some ct=>let p:=shO o (o ct) aS;p.1::Nk o n (i+1) p.2
  |none=>[]
def z56(sk:List Nat)(o:Nat->Obj)(vs:List V):Shape:=
 let p:=Gw o vs sk
 ⟨p.1,Nk o 100 0 p.2⟩
structure PS where
 aS:List (Nat×Nat)
 cut:List (Nat×Nat)
 bY:List Nat
 full:List Nat
def gf(i:Nat):List (Nat×Nat)->Option Nat
 |[]=>none
 |(a,b)::r=>bif Nat.beq a i then some b else gf i r
def xa(j:Nat):List (Nat×Nat)->Bool
 |[]=>false
 |(_,b)::r=>bif Nat.beq b j then true else xa j r
def bI(j:Nat):List Nat->Bool
 |[]=>false
 |b::r=>bif Nat.beq b j then true else bI j r
def Rr(j:Nat):List (Nat×Nat)->Option Nat
 |[]=>none
 |(a,b)::r=>bif Nat.beq b j then some a else Rr j r
def UC(n:Nat):Option Nat->Bool
 |some m=>Nat.beq m n
 |none=>false
def Nl:Option Nat->Bool
 |some _=>false
 |none=>true
def tie(i ct:Nat)(s:PS):PS:={s with aS:=(i,ct)::s.aS}
def Rt(k:Nat)(all:List (Nat×Nat)):List (Nat×Nat)->Bool
 |[]=>true
 |(i,ct)::r=>Nat.blt i k&&UC ct (gf i all)&&UC i (Rr ct all)&&Rt k all r
def Ru:List (Nat×Nat)->Bool
 |[]=>true
 |(id,_)::r=>Nl (gf id r)&&Ru r
def Rv(cut:List (Nat×Nat)):List Nat->Bool
 |[]=>true
 |id::r=>Nl (gf id cut)&&Rv cut r
def Rw:List Nat->List (Nat×Nat)->Bool
 |[],_=>true
 |j::l,aS=>bif xa j aS then false else Rw l aS
def HT(k:Nat)(ps:PS):Bool:=Rt k ps.aS ps.aS&&Ru ps.cut&&Rv ps.cut ps.full&&Rw ps.bY ps.aS
def Rx(o:Nat->Obj)(id:Nat):Bool:=match o id with
 |.box _=>true
 |.vec _ ver false _=>Nat.beq ver 0
 |.map _ _ _=>true
 |_=>false
def uu(o:Nat->Obj):List Nat->Bool
 |[]=>true
 |id::r=>Rx o id&&uu o r
def LZ(cut:List (Nat×Nat)):List Nat->Bool
 |[]=>true
 |id::r=>Nl (gf id cut)&&LZ cut r
def qW:Nat->List Nat->List (Nat×Nat)
 |_,[]=>[]
 |i,id::r=>(i,id)::qW (i+1) r
def cK(sk:List Nat)(i:Nat):Nat:=match sk[i]? with
 |some j=>j
 |none=>1000000+i
def UD:List Nat->List (Nat×Nat)
 |[]=>[]
 |id::r=>(id,id)::UD r
def L0(k:Nat):List Nat->Bool
 |[]=>true
 |id::r=>Nat.blt id k&&Nat.blt id 1000000&&!(bI id r)&&L0 k r
mutual
def eF(o:Nat->Obj):V->List Nat
 |.aX id _=>match o id with|.vec _ _ true _=>[]|_=>[id]
 |.pre id _ _ _=>match o id with|.vec _ _ true _=>[]|_=>[id]
 |.gb id _ _=>match o id with|.vec _ _ true _=>[]|_=>[id]
 |.agg l=>oS o l
 |_=>[]
def oS(o:Nat->Obj):List V->List Nat
 |[]=>[]
 |v::l=>eF o v++oS o l
end
def L1(o:Nat->Obj)(id:Nat):List Nat:=match o id with
 |.box cs=>oS o cs
 |_=>[]
section
variable (L:Lf)
def qX(o:Nat->Obj)(t:Ty)(id:Nat):Option (den t):=match o id with
 |.box cs=>match kF L o t cs with
  |some (x,[])=>some x
  |_=>none
 |_=>none
abbrev Take:=Option (PS×(∀r,aj r->aj r))
def wq(b:Bool)(ps:PS):Take:=match b with
 |true=>some (ps,fun _ c=>c)
 |false=>none
def z8h:V->Bool
 |.fP=>true
 |_=>false
def z8i:V->Bool
 |.fG=>true
 |_=>false
def z8j:V->Bool
 |.ic=>true
 |_=>false
def z8k:V->Bool
 |.ga=>true
 |_=>false
def UE(o:Nat->Obj)(t:Ty)(v:V)(ps:PS):Option (PS×(∀r,aj r->den t×aj r)):=match fj L o t v with
 |some x=>some ({ps with bY:=eF o v++ps.bY},fun _ c=>(x,c))
 |none=>none
def Nn(o:Nat->Obj)(t:Ty)(v:V)(ps:PS):Option (PS×(∀r,aj r->den t×aj r)):=match v with
 |.ref t' x=>match fQ t t' x with
  |some x=>some (ps,fun _ c=>(x,c))
  |none=>none
 |.ptr id off=>bif Nat.beq off 0 then(match qX L o t id with
  |some x=>some ({ps with bY:=id::(L1 o id++ps.bY)},fun _ c=>(x,c))
  |none=>none) else none
 |_=>none
def UF(o:Nat->Obj)(t:Ty)(id:Nat):Option (Nat×den t):=match o id with
 |.box [.ptr jX HU]=>bif Nat.beq HU 0 then(match qX L o t jX with
  |some x=>some (jX,x)
  |none=>none) else none
 |_=>none
def HV(o:Nat->Obj)(t:Ty)(v:V)(ps:PS):Option (PS×(∀r,aj r->den t×aj r)):=match v with
 |.rr t' x=>match fQ t t' x with
  |some x=>some (ps,fun _ c=>(x,c))
  |none=>none
 |.ptr id off=>bif Nat.beq off 0 then(match UF L o t id with
  |some (jX,x)=>some ({ps with bY:=id::jX::(L1 o jX++ps.bY)},fun _ c=>(x,c))
  |none=>none) else none
 |_=>none
def Np(o:Nat->Obj)(i:Nat)(v:V)(ps:PS):Take:=match v with
 |.aX id ver=>match o id with
  |.vec _ aB false _=>wq (Nat.beq ver aB) {tie i id ps with full:=id::ps.full}
  |_=>none
 |.pre id ver n _=>match o id with
  |.vec _ aB false _=>wq (Nat.beq ver aB) {tie i id ps with cut:=(id,n)::ps.cut}
  |_=>none
 |_=>none
def Nq(o:Nat->Obj)(i off:Nat)(v:V)(ps:PS):Take:=match v with
 |.ptr id HX=>match o id with
  |.box _=>wq (Nat.beq off HX) (tie i id ps)
  |.vec _ aB false _=>wq (Nat.beq off HX&&Nat.beq 0 aB) (tie i id ps)
  |_=>none
 |_=>none
def xc(o:Nat->Obj)(i:Nat)(v:V)(ps:PS):Take:=match v with
 |.mp id=>match o id with
  |.map _ _ _=>some (tie i id ps,fun _ c=>c)
  |_=>none
 |_=>none
def xd(o:Nat->Obj)(i:Nat)(v:V)(ps:PS):Take:=match v with
 |.it id=>match o id with
  |.iter _ _=>some (tie i id ps,fun _ c=>c)
  |_=>none
 |_=>none
def Nr(o:Nat->Obj)(i:Nat)(v:V)(ps:PS):Option (PS×(∀r,aj r->den .bool×aj r)):=match v with
 |.cG id b=>match o id with
  |.box _=>some (tie i id ps,fun _ c=>(b,c))
  |_=>none
 |_=>none
def Ry(o:Nat->Obj)(i:Nat)(v:V)(ps:PS):Option (PS×(∀r,aj r->den (.int .i64)×aj r)):=match v with
 |.gb id ver lo=>match o id with
  |.vec _ aB false _=>bif Nat.beq ver aB then some ({tie i id ps with full:=id::ps.full},fun _ c=>((lo:den (.int .i64)),c)) else none
  |_=>none
 |_=>none
def HY(f:Nat)(c:Bool):List (Nat×Bool)->Nat->Option Nat
 |[],_=>none
 |(g,d)::r,i=>bif Nat.beq g f&&(bif c then d else !d) then some i else HY f c r (i+1)
def Ns:List (Nat×Bool)->List (Nat×Bool)->Bool
 |[],[]=>true
 |(f,c)::a,(g,d)::b=>Nat.beq f g&&(bif c then d else !d)&&Ns a b
 |_,_=>false
def nq{α:Type}:List α->Nat->Nat
 |[],i=>i
 |_::r,i=>nq r (i+1)
def CG(o:Nat->Obj)(a:List (Nat×Bool))(v:V)(ps:PS):Option (PS×(∀r,aj r->den (.int .i64)×den (.int .i64)×aj r)):=match v with
 |.fa b k n=>bif Ns b a then some (ps,fun _ c=>(k,n,c)) else none
 |.fG=>some (ps,fun _ c=>(Int.ofNat (nq a 0),(0:Int),c))
 |.fn f []=>match(bif Nat.blt f 1048576 then HY f false a 0 else none) with
  |some i=>some (ps,fun _ c=>(Int.ofNat i,(0:Int),c))
  |none=>none
 |.fn f [w]=>match(bif Nat.blt f 1048576 then HY f true a 0 else none) with
  |some i=>match Nn L o (.int .i64) w ps with
   |some (bB,g)=>some (bB,fun r c=>(Int.ofNat i,g r c))
   |none=>none
  |none=>none
 |_=>none
def CH(f:Nat):V->Option (List V)
 |.fn f' l=>bif Nat.beq f f' then some l else none
 |_=>none
def Rz:V->Option (List V)
 |.iE l=>some l
 |_=>none
def CI:V->Option (List V)
 |.agg l=>some l
 |_=>none
mutual
def Gx(o:Nat->Obj):(s:Sh)->V->PS->Option (PS×(∀r,aj r->aj (LV s r)))
 |.d t,v,ps=>UE L o t v ps
 |.ref t,v,ps=>Nn L o t v ps
 |.rr t,v,ps=>HV L o t v ps
 |.aX i,v,ps=>Np o i v ps
 |.ptr i off,v,ps=>Nq o i off v ps
 |.fP,v,ps=>wq (z8h v) ps
 |.fn f l,v,ps=>match CH f v with
  |some l'=>lL o l l' ps
  |none=>none
 |.fG,v,ps=>wq (z8i v) ps
 |.iE l,v,ps=>match Rz v with
  |some l'=>lL o l l' ps
  |none=>none
 |.agg l,v,ps=>match CI v with
  |some l'=>lL o l l' ps
  |none=>none
 |.mp i,v,ps=>xc o i v ps
 |.ic,v,ps=>wq (z8j v) ps
 |.ga,v,ps=>wq (z8k v) ps
 |.cX,_,ps=>wq true ps
 |.cG i,v,ps=>Nr o i v ps
 |.gb i,v,ps=>Ry o i v ps
 |.it i,v,ps=>xd o i v ps
 |.fa a,v,ps=>CG L o a v ps
def lL(o:Nat->Obj):(l:List Sh)->List V->PS->Option (PS×(∀r,aj r->aj (gK l r)))
 |[],vs,ps=>wq vs.isEmpty ps
 |s::l,vs,ps=>match vs with
  |v::vs=>match Gx o s v ps with
   |some (ps,f)=>match lL o l vs ps with
    |some (ps,g)=>some (ps,fun r c=>f _ (g r c))
    |none=>none
   |none=>none
  |[]=>none
end
def xe(o:Nat->Obj)(ct:Nat):(s:ft)->PS->Option (PS×(∀r,aj r->aj (LW s r)))
 |.box l,ps=>match o ct with
  |.box cs=>lL L o l cs ps
  |_=>none
 |.vec t,ps=>match o ct with
  |.vec t' _ false s=>match fQ (.sl t) (.sl t') s with
   |some s=>match gf ct ps.cut with
    |some n=>some (ps,fun _ c=>((⟨s.nil,L.aF s.l n⟩:Sl (den t)),c))
    |none=>some ({ps with full:=ct::ps.full},fun _ c=>(s,c))
   |none=>none
  |_=>none
 |.map k v,ps=>match o ct with
  |.map k' v' m=>match fQ (.arr 0 (.pair k v)) (.arr 0 (.pair k' v')) m with
   |some m=>some (ps,fun _ c=>(m,c))
   |none=>none
  |_=>none
 |.gone,ps=>some (ps,fun _ c=>c)
 |.iter,ps=>match o ct with
  |.iter s p=>some (ps,fun _ c=>((s:den .str),(p:den (.int .i64)),c))
  |_=>none
def lY(o:Nat->Obj):Nat->(l:List ft)->PS->Option (PS×(∀r,aj r->aj (bQ l r)))
 |_,[],ps=>some (ps,fun _ c=>c)
 |i,.gone::l,ps=>match lY o (i+1) l ps with
   |some (ps,g)=>some (ps,fun r c=>g r c)
   |none=>none
 |i,s::l,ps=>match gf i ps.aS with
  |some ct=>match xe L o ct s ps with
   |some (ps,f)=>match lY o (i+1) l ps with
    |some (ps,g)=>some (ps,fun r c=>f _ (g r c))
    |none=>none
   |none=>none
  |none=>none
def pack(o:Nat->Obj)(aS:List (Nat×Nat))(s:Shape)(vs:List V):Option (PS×aj s.aU):=
 match lL L o s.roots vs ⟨aS,[],[],[]⟩ with
 |some (ps,f)=>match lY L o 0 s.aw ps with
  |some (ps,g)=>bif HT s.aw.length ps then some (ps,f _ (g [] ())) else none
  |none=>none
 |none=>none
def HZ(sk:List Nat)(aS:List (Nat×Nat))(o:Nat->Obj)(s:Shape)(vs:List V):Option (PS×aj s.aU):=
 match pack L o aS s vs with
 |some p=>bif uu o sk&&LZ p.1.cut sk then some p else none
 |none=>none
end
inductive Pk:Type 1 where
 |fail
 |kG (v:V) (u:List (Nat×Obj))
 |dyn (α:Type) (x:Option α) (out:α->V×List (Nat×Obj))
def Pk.now(v:V)(u:List (Nat×Obj):=[]):Pk:=.kG v u
def Pk.jy{t:Ty}(x:Option (den t)):Pk:=.dyn (den t) x (fun y=>(.d t y,[]))
def Pk.when(b:Bool)(p:Pk):Pk:=match b with|true=>p|false=>.fail
section
variable (L:Lf)
def fe:(t:Ty)->den t->den t->Bool
 |.int _,a,b=>L.e a b
 |.bool,a,b=>L.eU a b
 |.str,a,b=>L.h a b
 |.unit,_,_=>true
 |.pair s t,a,b=>L.d (fe s a.1 b.1) (fe t a.2 b.2)
 |.st p,a,b=>fe p a b
 |_,_,_=>false
end
def Gy:Ty->Bool
 |.int _=>true|.bool=>true|.str=>true|_=>false
structure jY where
 f:Nat
 ins:Shape
 outs:Shape
 bH:List Nat
structure Cx where
 P:Program
 sigs:List jY
 jz:Nat->Option ((t:Ty)×den t)
 dQ:List (Nat×Ty)
 eqs:List Nat
 gX:Nat
 oT:Nat
def CJ:List (Nat×Ty)->Nat->Option Ty
 |[],_=>none
 |(a,T)::r,t=>bif Nat.beq a t then some T else CJ r t
def Cx.ty(C:Cx)(t:TypeId):Option Ty:=CJ C.dQ t
def qY:IntKind->Nat
 |.i8=>0|.i16=>1|.i32=>2|.i64=>3|.u8=>4|.u16=>5|.u32=>6|.u64=>7
def nr:Ty->Ty->Bool
 |.int k,.int k'=>Nat.beq (qY k) (qY k')
 |.bool,.bool=>true
 |.ej,.ej=>true
 |.cJ,.cJ=>true
 |.str,.str=>true
 |.sl a,.sl b=>nr a b
 |.unit,.unit=>true
 |.pair a b,.pair c d=>nr a c&&nr b d
 |.st a,.st b=>nr a b
 |.arr n a,.arr m b=>Nat.beq n m&&nr a b
 |.ks a,.ks b=>nr a b
 |_,_=>false
def fR(T:Ty):Option Ty->Bool
 |some T'=>nr T' T
 |none=>false
def Cx.is(C:Cx)(t:TypeId)(T:Ty):Bool:=fR T (C.ty t)
def uv(P:Program)(t:TypeId):Option (Bool×Nat):=match P.types.toList[t]? with
 |none=>none
 |some i=>match desc P t with
  |some (.struct _)=>some (true,i.size)
  |some (.array ..)=>some (true,i.size)
  |some _=>some (false,i.size)
  |none=>none
def jA:Ty->Bool
 |.int _=>true|.bool=>true|.str=>true|.sl _=>true|.ej=>true|.cJ=>true|_=>false
def L3(o:Nat->Obj):V->Bool
 |.d t _=>jA t
 |.aX id ver=>match o id with|.vec _ aB _ _=>Nat.beq ver aB|_=>false
 |.pre id ver _ _=>match o id with|.vec _ aB _ _=>Nat.beq ver aB|_=>false
 |.ptr id _=>match o id with|.box _=>true|.vec _ aB _ _=>Nat.beq 0 aB|_=>false
 |.jx id ver _ _=>match o id with|.vec _ aB _ _=>Nat.beq ver aB|_=>false
 |.ref _ _=>true
 |.fP=>true
 |.fn _ _=>true
 |.fG=>true
 |.mp id=>match o id with|.map .. =>true|_=>false
 |.it id=>match o id with|.iter .. =>true|_=>false
 |.ic=>true
 |.ga=>true
 |.eM=>true
 |.cG id _=>match o id with|.box _=>true|_=>false
 |.gb id ver _=>match o id with|.vec _ aB _ _=>Nat.beq ver aB|_=>false
 |.fa .. =>true
 |_=>false
def nu:List V->Bool
 |.cG _ _::_=>true
 |_=>false
def RA:Ty->Bool
 |.int .u8=>false
 |_=>true
def uw(o:Nat->Obj):List V->Bool
 |[]=>true
 |v::r=>L3 o v&&uw o r
def Nt(o:Nat->Obj):V->Option (List V)
 |.d (.st p) x=>bif uw o (w7 p x) then some (w7 p x) else none
 |.agg cs=>bif uw o cs then some cs else none
 |v=>bif L3 o v then some [v] else none
def nv:Ty->Nat->Option Ty
 |.pair a _,0=>some a
 |.pair _ b,n+1=>nv b n
 |.unit,_=>none
 |.ks p,0=>some (.sl (lK p))
 |t,0=>some t
 |_,_+1=>none
def BR:List Nat->Ty->Option Ty
 |[],t=>some t
 |f::r,.st p=>match nv p f with
  |some u=>BR r u
  |none=>none
 |_::_,_=>none
def aR:List jY->Nat->jY
 |[],_=>⟨0,⟨[],[]⟩,⟨[],[]⟩,[]⟩
 |s::_,0=>s
 |_::r,n+1=>aR r n
abbrev gY(sg:List jY):=(i:Nat)->aj (aR sg i).ins.aU->Option (aj (aR sg i).outs.aU)
section
variable (L:Lf) (C:Cx)
def CK(k:IntKind)(n:Int):Bool:=decide (k.min<=n)&&decide (n<=k.max)
def Gz:Value->V
 |.bool b=>.d .bool b
 |.float .f64 b=>.d .ej b
 |.complex .f64 a b=>.d .cJ (a,b)
 |.int k n=>bif CK k n then .d (.int k) n else .cX
 |.string s=>bif Nat.ble s.size 1000000 then .d .str (s.data.toList.map fun b=>(b.toNat:Int)) else .cX
 |.pointer none=>.fP
 |.map none=>.ic
 |.nilFunc=>.fG
 |.nilIface=>.ga
 |.slice none 0 0=>.eM
 |_=>.cX
def cm(env:Nat->V):Operand->V
 |.tmp t=>dx (env t)
 |.const v=>Gz v
 |.global g=>match C.jz g with
  |some ⟨t,x⟩=>.ref t x
  |none=>.cX
 |.func f=>bif Nat.blt f 1048576 then .fn f [] else .cX
def CL(env:Nat->V):Operand->V
 |.tmp t=>env t
 |x=>cm C env x
def dH(o:Nat->Obj):List Nat->List (Nat×Obj)
 |[]=>[]
 |id::r=>match o id with
  |.vec t ver _ s=>(id,.vec t ver true s)::dH o r
  |_=>dH o r
def BS(id:Nat):List Nat->Bool
 |[]=>true
 |b::r=>bif Nat.beq b id then false else BS id r
def BT(o:Nat->Obj):V->Option ((t:Ty)×Sl (den t))
 |.aX id ver=>match o id with
  |.vec t aB _ s=>bif Nat.beq ver aB then some ⟨t,s⟩ else none
  |_=>none
 |.pre id ver n _=>match o id with
  |.vec t aB _ s=>bif Nat.beq ver aB then some ⟨t,⟨s.nil,L.aF s.l n⟩⟩ else none
  |_=>none
 |.gb id ver lo=>match o id with
  |.vec t aB _ s=>bif Nat.beq ver aB then some ⟨t,⟨s.nil,L.cB s.l lo⟩⟩ else none
  |_=>none
 |_=>none
def asInt:V->Option ((_:IntKind)×Int)
 |.d (.int k) n=>some ⟨k,n⟩
 |_=>none
def oA(t:TypeId):Option Ty:=match desc C.P t with
 |some (.slice e)=>C.ty e
 |_=>none
def Nu(t:TypeId):Option (Nat×Ty):=match desc C.P t with
 |some (.array n e)=>match C.ty e with
  |some e=>some (n,e)
  |none=>none
 |_=>none
def RC:List V->Bool
 |[]=>false
 |.eM::_=>true
 |_::r=>RC r
def RE(o:Nat->Obj)(t:TypeId)(cs:List V):V:=
 match C.ty t with
 |some (.st p)=>match oS o cs,RC cs with
  |[],false=>match kF L o p cs with
   |some (x,[])=>.d (.st p) x
   |_=>.agg cs
  |_,_=>.agg cs
 |_=>.agg cs
def L4(l:List V)(i:Nat)(cs:List V):List V:=l.take i++cs++l.drop (i+cs.length)
def RG(o:Nat->Obj)(t:TypeId):V->Pk
 |.ref t' x=>.when (C.is t t') (.now (.d t' x))
 |.rr t' x=>match uv C.P t with
  |some (false,_)=>.now (.ref t' x)
  |_=>.fail
 |.ptr id off=>match o id with
  |.box cs=>match uv C.P t with
   |some (true,n)=>.when (Nat.ble (off+n) cs.length) (.now (RE L C o t ((cs.drop off).take n)))
   |some (false,_)=>match cs[off]? with
    |some v=>.now v
    |none=>.fail
   |none=>.fail
  |_=>.fail
 |.jx id ver i path=>match o id with
  |.vec e aB _ s=>match BR path e with
   |some t'=>.when (Nat.beq ver aB&&C.is t t') (.dyn (den e) (L.nth s.l i) (fun x=>match Rq path e x with
     |some ⟨t,y⟩=>(.d t y,[])
     |none=>(.cX,[])))
   |none=>.fail
  |_=>.fail
 |_=>.fail
def UG(o:Nat->Obj)(t:TypeId)(a v:V):Pk:=
 match a with
 |.ptr id off=>match o id with
  |.box cs=>match Nt o v with
   |some vs=>match uv C.P t with
    |some (_,n)=>.when (Nat.beq vs.length n&&Nat.ble (off+n) cs.length&&!nu vs) (.now .undef [(id,.box (L4 cs off vs))])
    |none=>.fail
   |none=>.fail
  |_=>.fail
 |.jx id ver i path=>match o id with
  |.vec e aB false s=>match BR path e with
   |some t'=>.when (Nat.beq ver aB&&C.is t t'&&BS id (eF o v))
    (.dyn (den e) (L.b (L.nth s.l i) fun x=>HQ path e x (fun u _=>fj L o u v)) (fun y=>(.undef,dH o (eF o v)++[(id,.vec e aB false ⟨s.nil,L.fD s.l i y⟩)])))
   |none=>.fail
  |_=>.fail
 |_=>.fail
def UH(op:BinOp)(k:IntKind)(a b:Int):Pk:=
 match op with
 |.add=>.now (.d (.int k) (L.a k a b))
 |.sub=>.now (.d (.int k) (L.u k a b))
 |.mul=>.now (.d (.int k) (L.oN k a b))
 |.quo=>.jy (t:=.int k) (L.wZ k a b)
 |.rem=>.jy (t:=.int k) (L.j6 a b)
 |.and=>.now (.d (.int k) (L.oO k a b))
 |.or=>.now (.d (.int k) (L.oP k a b))
 |.xor=>.now (.d (.int k) (L.nn k a b))
 |.andNot=>.now (.d (.int k) (L.iM k a b))
 |.eql=>.now (.d .bool (L.e a b))
 |.neq=>.now (.d .bool (L.t (L.e a b)))
 |.lss=>.now (.d .bool (L.l a b))
 |.leq=>.now (.d .bool (L.m a b))
 |.gtr=>.now (.d .bool (L.l b a))
 |.geq=>.now (.d .bool (L.m b a))
 |_=>.fail
def z58(op:BinOp)(a b:List Int):Pk:=
 match op with
 |.add=>.dyn Unit (L.f (L.s (L.n a) (L.n b))) (fun _=>(.d .str (L.q a b),[]))
 |.eql=>.now (.d .bool (L.h a b))
 |.neq=>.now (.d .bool (L.t (L.h a b)))
 |.lss=>.now (.d .bool (L.strLt a b))
 |.gtr=>.now (.d .bool (L.t (L.t (L.d (L.t (L.strLt a b)) (L.t (L.h a b))))))
 |.leq=>.now (.d .bool (L.t (L.d (L.t (L.strLt a b)) (L.t (L.h a b)))))
 |.geq=>.now (.d .bool (L.t (L.strLt a b)))
 |_=>.fail
def z59(op:BinOp)(a b:Nat):Pk:=
 match op with
 |.add=>.jy (t:=.ej) (L.lV a b)
 |.leq=>.now (.d .bool (L.HM a b))
 |_=>.fail
def UI(op:BinOp)(a b:Nat×Nat):Pk:=
 match op with
 |.add=>.jy (t:=.cJ) (L.b (L.lV a.1 b.1) fun x=>L.b (L.lV a.2 b.2) fun y=>some (x,y))
 |_=>.fail
def ig(op:BinOp)(b:Bool):Pk:=
 match op with
 |.eql=>.now (.d .bool b)
 |.neq=>.now (.d .bool (L.t b))
 |_=>.fail
def ux(t:TypeId):Nat:=match desc C.P t with
 |some .bool=>0
 |some (.slice _)=>1
 |some (.func ..)=>2
 |some (.pointer _)=>3
 |some (.map ..)=>4
 |_=>5
def sure(o:Nat->Obj):V->Bool
 |.ptr id _=>match o id with|.box _=>true|.vec _ aB _ _=>Nat.beq 0 aB|_=>false
 |.ref _ _=>true
 |_=>false
def L5(o:Nat->Obj)(op:BinOp)(t:TypeId)(x y:V):Pk:=
 match x,y with
 |.d (.int k) a,.d (.int k') b=>match op with
  |.shl=>.jy (t:=.int k) (L.fZ k a b)
  |.shr=>.jy (t:=.int k) (L.j7 k a b)
  |op=>match decEq k k' with
   |isTrue _=>UH L op k a b
   |isFalse _=>.fail
 |.d .str a,.d .str b=>z58 L op a b
 |.d .ej a,.d .ej b=>z59 L op a b
 |.d .cJ a,.d .cJ b=>UI L op a b
 |.d .bool a,.d .bool b=>.when (Nat.beq (ux C t) 0) (ig L op (L.eU a b))
 |.d (.st p) a,.d (.st p') b=>match fQ p p' b with
  |some b=>.when (bI t C.eqs&&C.is t (.st p)) (ig L op (fe L p a b))
  |none=>.fail
 |.d (.sl _) s,.eM=>.when (Nat.beq (ux C t) 1) (ig L op (Sl.nil s))
 |.eM,.eM=>.when (Nat.beq (ux C t) 1) (ig L op true)
 |.fn _ _,.fG=>.when (Nat.beq (ux C t) 2) (ig L op false)
 |.fG,.fG=>.when (Nat.beq (ux C t) 2) (ig L op true)
 |.fa a k _,.fG=>.when (Nat.beq (ux C t) 2) (ig L op (L.e k (Int.ofNat (nq a 0))))
 |.fP,.fP=>.when (Nat.beq (ux C t) 3) (ig L op true)
 |v,.fP=>.when (Nat.beq (ux C t) 3&&sure o v) (ig L op false)
 |v,.eM=>match BT L o v with
  |some ⟨_,s⟩=>.when (Nat.beq (ux C t) 1) (ig L op s.nil)
  |none=>.fail
 |_,_=>.fail
def UJ(o:Nat->Obj)(t:TypeId)(x:V):Pk:=
 match desc C.P t with
 |some .string=>match x with
  |.d .str l=>.now (.d (.int .i64) (L.n (α:=Int) l))
  |_=>.fail
 |some (.slice _)=>match x with
  |.d (.sl _) s=>.now (.d (.int .i64) (L.n s.l))
  |.eM=>.now (.d (.int .i64) (0:Int))
  |v=>match BT L o v with
   |some ⟨_,s⟩=>.now (.d (.int .i64) (L.n s.l))
   |none=>.fail
 |some (.map ..)=>match x with
  |.mp id=>match o id with
   |.map _ _ _=>.fail
   |_=>.fail
  |.ic=>.now (.d (.int .i64) (0:Int))
  |_=>.fail
 |some (.array n _)=>.when (Nat.ble n 1000000) (.now (.d (.int .i64) ((n:Nat):Int)))
 |_=>.fail
def RH(o:Nat->Obj)(e:Ty):V->Option (List (den e))
 |.d .str l=>fQ (.arr 0 e) (.arr 0 (.int .u8)) l
 |v=>match lX L o (.sl e) v with
  |some s=>some s.l
  |none=>none
def Nv(id ver:Nat)(e:Ty)(nil:Bool)(l m:List (den e)):Pk:=.dyn Unit (L.f (L.s (L.n l) (L.n m))) (fun _=>(.aX id ver,[(id,.vec e ver false ⟨L.d nil (L.i m),L.app l m⟩)]))
def UK(t:TypeId):Bool:=match desc C.P t with|some (.slice _)=>true|some .string=>true|_=>false
def UL(o:Nat->Obj)(fresh:Nat)(t u:TypeId)(x y:V):Pk:=
 match oA C t with
 |none=>.fail
 |some e=>match RH L o e y with
  |none=>.fail
  |some m=>.when (UK C u&&Nat.blt 0 (aI e)) (match x with
   |.eM=>Nv L fresh 0 e true [] m
   |.aX id ver=>match o id with
    |.vec e' aB false s=>match fQ (.sl e) (.sl e') s with
     |some s=>.when (Nat.beq ver aB) (Nv L id (ver+1) e s.nil s.l m)
     |none=>.fail
    |_=>.fail
   |.pre id ver n cp=>match o id with
    |.vec e' aB fr s=>match fQ (.sl e) (.sl e') s with
     |some s=>.when (Nat.beq ver aB) (match cp,fr with
      |false,false=>Nv L id (ver+1) e s.nil (L.aF s.l n) m
      |true,_=>.dyn Unit (L.b (L.f (L.s (L.n (L.aF s.l n)) (L.n m))) fun _=>L.c (L.i m) none (some ())) (fun _=>(.aX fresh 0,[(fresh,.vec e 0 false ⟨false,L.app (L.aF s.l n) m⟩)]))
      |_,_=>.fail)
     |none=>.fail
    |_=>.fail
   |_=>.fail)
def bd(d:Int)(h:Option V):Option Int:=match h with
 |none=>some d
 |some v=>match asInt v with
  |some ⟨_,n⟩=>some n
  |none=>none
def RJ(t:TypeId):Nat:=match desc C.P t with
 |some .string=>0
 |some (.slice _)=>1
 |some (.array ..)=>2
 |_=>3
def UM(o:Nat->Obj)(fresh:Nat)(t:TypeId)(x:V)(lo hi mx:Option V):Pk:=
 match x,mx with
 |.d .str l,none=>match bd 0 lo,bd (L.n (α:=Int) l) hi with
  |some a,some b=>.when (Nat.beq (RJ C t) 0) (.dyn (List Int) (L.cg l a b) (fun m=>(.d .str m,[])))
  |_,_=>.fail
 |.d (.sl e) s,none=>match bd 0 lo,bd (L.n s.l) hi with
  |some a,some b=>.when (fR e (oA C t)) (.dyn (List (den e)) (L.cg s.l a b) (fun m=>(.d (.sl e) (⟨s.nil,m⟩:Sl (den e)),[])))
  |_,_=>.fail
 |.d (.sl e) s,some _=>match lo,bd 1 hi,bd 1 mx with
  |none,some b,some c=>.when (fR e (oA C t)&&RA e) (.dyn Unit (L.c (L.e b 0) (L.c (L.e c 0) (some ()) none) none) (fun _=>(.aX fresh 0,[(fresh,.vec e 0 false ⟨s.nil,[]⟩)])))
  |_,_,_=>.fail
 |.aX id ver,some _=>match o id with
  |.vec e aB _ s=>.when (Nat.beq ver aB&&fR e (oA C t)) (match lo,bd (-1) hi,bd (-1) mx with
    |none,some b,some c=>.dyn Nat (L.b (L.cF (L.n s.l) b) fun p=>L.c (L.e b c) (some p) none) (fun p=>(.pre id ver p true,[]))
    |_,_,_=>.fail)
  |_=>.fail
 |.aX id ver,none=>match o id with
  |.vec e aB _ s=>.when (Nat.beq ver aB&&fR e (oA C t)) (match lo with
    |none=>match bd (L.n s.l) hi with
     |some b=>.dyn Nat (L.cF (L.n s.l) b) (fun p=>(.pre id ver p false,[]))
     |none=>.fail
    |some uy=>match hi with
     |none=>(match bd 0 (some uy) with
      |some a=>.dyn Nat (L.cF (L.n s.l) a) (fun _=>(.gb id ver a,[]))
      |none=>.fail)
     |some _=>match bd 0 lo,bd (L.n s.l) hi with
     |some a,some b=>.dyn (List (den e)) (L.cg s.l a b) (fun m=>(.d (.sl e) (⟨s.nil,m⟩:Sl (den e)),[(id,.vec e aB true s)]))
     |_,_=>.fail)
  |_=>.fail
 |_,_=>.fail
def UN(o:Nat->Obj)(t:TypeId)(x i:V):Pk:=
 match asInt i with
 |none=>.fail
 |some ⟨_,n⟩=>match x with
  |.d (.sl e) s=>.when (fR e (oA C t)) (.dyn (den e) (L.g s.l n) (fun y=>(.ref e y,[])))
  |.ref (.arr m e) l=>match Nu C t with
   |some (m',e')=>.when (Nat.beq m m'&&fR e (some e')) (.dyn (den e) (L.g l n) (fun y=>(.ref e y,[])))
   |none=>.fail
  |.aX id ver=>match o id with
   |.vec e aB _ s=>.when (Nat.beq ver aB&&fR e (oA C t)) (.dyn Nat (L.bC s.l n) (fun j=>(.jx id ver j [],[])))
   |_=>.fail
  |.pre id ver k _=>match o id with
   |.vec e aB _ s=>.when (Nat.beq ver aB&&fR e (oA C t)) (.dyn Nat (L.bC (L.aF s.l k) n) (fun j=>(.jx id ver j [],[])))
   |_=>.fail
  |.gb id ver lo=>match o id with
   |.vec e aB _ s=>.when (Nat.beq ver aB&&fR e (oA C t)) (.dyn Nat (L.c (L.m 0 n) (L.bC s.l (L.s lo n)) none) (fun j=>(.jx id ver j [],[])))
   |_=>.fail
  |.ptr id 0=>match o id with
   |.vec e 0 _ s=>match Nu C t with
    |some (m,e')=>.when (fR e (some e')) (.dyn Nat (L.b (L.cF ((m:Nat):Int) (L.s n 1)) fun _=>L.bC s.l n) (fun j=>(.jx id 0 j [],[])))
    |none=>.fail
   |_=>.fail
  |_=>.fail
def UO(t:TypeId)(x i:V):Pk:=
 match asInt i with
 |none=>.fail
 |some ⟨_,n⟩=>match x with
  |.d .str l=>.when (Nat.beq (RJ C t) 0) (.jy (t:=.int .u8) (L.g (α:=Int) l n))
  |.d (.arr m e) l=>match Nu C t with
   |some (m',e')=>.when (Nat.beq m m'&&fR e (some e')) (.jy (t:=e) (L.g l n))
   |none=>.fail
  |_=>.fail
def L6(o:Nat->Obj)(t:TypeId)(x:V)(f:Nat):Pk:=
 match Nj C.P t f with
 |none=>.fail
 |some fd=>match uv C.P fd.type with
  |some (_,sz)=>.when (Nat.blt 0 sz) (match x with
   |.ptr id off=>match o id with
    |.box _=>.now (.ptr id (off+fd.offset))
    |_=>.fail
   |.ref t' y=>.when (C.is t t') (match LU t' f y with
    |some ⟨u,z⟩=>.now (.ref u z)
    |none=>.fail)
   |.jx id ver i path=>match o id with
    |.vec e aB _ _=>match BR path e with
     |some t'=>match t' with
      |.st p=>match nv p f with
       |some _=>.when (Nat.beq ver aB&&C.is t t') (.now (.jx id ver i (path++[f])))
       |none=>.fail
      |_=>.fail
     |none=>.fail
    |_=>.fail
   |_=>.fail)
  |none=>.fail
def UP(t:TypeId)(x:V)(f:Nat):Pk:=
 match x with
 |.d t' y=>.when (C.is t t') (match LU t' f y with
  |some ⟨u,z⟩=>.now (.d u z)
  |none=>.fail)
 |.agg cs=>match Nj C.P t f with
  |some fd=>match uv C.P fd.type with
   |some (true,n)=>.when (Nat.ble (fd.offset+n) cs.length) (.now (.agg ((cs.drop fd.offset).take n)))
   |some (false,_)=>match cs[fd.offset]? with
    |some v=>.now v
    |none=>.fail
   |none=>.fail
  |none=>.fail
 |_=>.fail
def xf(e:TypeId):Bool:=match desc C.P e with|some (.int .u8)=>true|_=>false
def UQ(o:Nat->Obj)(fresh:Nat)(s t:TypeId)(x:V):Pk:=
 match desc C.P s with
 |none=>.fail
 |some ds=>match desc C.P t with
  |some (.int k)=>match x with
   |.d (.int _) n=>.now (.d (.int k) (L.dU k n))
   |_=>.fail
  |some (.float .f64)=>match x with
   |.d (.int _) n=>.now (.d .ej (L.HO n))
   |_=>.fail
  |some .string=>match x with
   |.d .str l=>.now (.d .str l)
   |v=>match ds with
    |.slice e=>.when (xf C e&&Nat.blt 0 1) (match lX L o (.sl (.int .u8)) v with
     |some s=>.now (.d .str (Sl.l s))
     |none=>.fail)
    |_=>.fail
  |some (.slice e)=>match x with
   |.d .str l=>match ds with
    |.string=>.when (xf C e) (.dyn Unit (L.f (L.n l)) (fun _=>(.aX fresh 0,[(fresh,.vec (.int .u8) 0 false ⟨false,l⟩)])))
    |_=>.fail
   |.aX id ver=>match ds with
    |.slice _=>match o id with
     |.vec (.int .u8) aB false b=>.when (xf C e&&Nat.beq s t&&Nat.beq ver aB) (.dyn Unit (L.c b.nil none (some ())) (fun _=>(.aX id ver,[(id,.vec (.int .u8) ver false b)])))
     |_=>.fail
    |_=>.fail
   |_=>.fail
  |_=>.fail
def RL(t:TypeId):Option (List V):=match C.P.types.toList[t]? with
 |some i=>match i.zero with
  |some z=>some (z.cells.toList.map Gz)
  |none=>none
 |none=>none
def RM(o:Nat->Obj)(fs:List Field):List (Nat×V)->List V->Option (List V)
 |[],cs=>some cs
 |p::r,cs=>match fs[p.1]?,Nt o p.2 with
  |some fd,some vs=>match uv C.P fd.type with
   |some (_,n)=>bif Nat.beq vs.length n&&Nat.ble (fd.offset+n) cs.length then RM o fs r (L4 cs fd.offset vs) else none
   |none=>none
  |_,_=>none
def GA(o:Nat->Obj)(e:Ty):List (Nat×V)->List (den e)->Option (List (den e))
 |[],l=>some l
 |p::r,l=>match fj L o e p.2 with
  |some x=>bif Nat.blt p.1 l.length then GA o e r (l.set p.1 x) else none
  |none=>none
def wu(o:Nat->Obj):List (Nat×V)->List Nat
 |[]=>[]
 |p::r=>eF o p.2++wu o r
def RN(P:Program):List Field->Bool
 |[]=>true
 |f::r=>match uv P f.type with
  |some _=>RN P r
  |none=>false
def UR(o:Nat->Obj)(t:TypeId)(parts:List (Nat×V)):Pk:=
 match desc C.P t with
 |some (.struct fs)=>.when (RN C.P fs.toList) (match RL C t with
  |some z=>match RM C o fs.toList parts z with
   |some cs=>.now (RE L C o t cs)
   |none=>.fail
  |none=>.fail)
 |some (.array n _)=>match C.ty t with
  |some (.arr n' e)=>.when (Nat.beq n n') (match GA L o e parts (List.replicate n (zero e)) with
   |some l=>.now (.d (.arr n' e) l) (dH o (wu o parts))
   |none=>.fail)
  |_=>.fail
 |_=>.fail
def US(o:Nat->Obj)(fresh:Nat)(t:TypeId)(n:Nat)(parts:List (Nat×V)):Pk:=
 match oA C t with
 |some e=>.when (Nat.ble (n*aI e) 16777216&&Nat.blt 0 (aI e)) (match GA L o e parts (List.replicate n (zero e)) with
  |some l=>.now (.aX fresh 0) (dH o (wu o parts)++[(fresh,.vec e 0 false ⟨false,l⟩)])
  |none=>.fail)
 |none=>.fail
def xh:Nat->TypeId->List (Option Ty)
 |0,_=>[]
 |n+1,t=>match desc C.P t with
  |some (.struct fs)=>(fs.toList.map fun f=>xh n f.type).flatten
  |some (.slice e)=>[C.ty e]
  |some (.array ..)=>match uv C.P t with
   |some (_,k)=>List.replicate k none
   |none=>[]
  |_=>[none]
def mM(i:Nat):List V->List (Option Ty)->List V×List (Nat×Obj)
 |.eM::r,some e::s=>let p:=mM (i+1) r s;(.aX i 0::p.1,(i,.vec e 0 false ⟨true,[]⟩)::p.2)
 |v::r,_::s=>let p:=mM i r s;(v::p.1,p.2)
 |l,[]=>(l,[])
 |[],_=>([],[])
def uz:List V->Nat
 |[]=>0
 |.eM::r=>uz r+1
 |_::r=>uz r
def RO(fresh:Nat)(t:TypeId)(cs:List V):Pk:=
 let p:=bif Nat.ble (uz cs) 14 then mM (fresh+1) cs (xh C 8 t) else(cs,[])
 .when (!nu p.1) (.now (.ptr fresh 0) ((fresh,.box p.1)::p.2))
def UT(fresh:Nat):List V->Pk
 |[.fP,.eM]=>.now (.ptr fresh 0) [(fresh,.box [.cG fresh false,.aX (fresh+1) 0]),(fresh+1,.vec (.int .u8) 0 false ⟨true,[]⟩)]
 |_=>.fail
def RP(fresh:Nat):List V->Pk
 |[.fP,.eM,.d s x,.d t y]=>.when (jA s&&jA t) (.now (.ptr fresh 0) [(fresh,.box [.cG fresh false,.aX (fresh+1) 0,.d s x,.d t y]),(fresh+1,.vec (.int .u8) 0 false ⟨true,[]⟩)])
 |_=>.fail
def UU(fresh:Nat)(t:TypeId)(b:Bool):Pk->Pk
 |.kG (.agg cs) []=>bif b&&RC cs&&Nat.ble (uz cs) 15 then .now (.agg (mM fresh cs (xh C 8 t)).1) (mM fresh cs (xh C 8 t)).2 else .now (.agg cs)
 |p=>p
def UW(fresh:Nat)(t:TypeId):Pk:=
 match C.ty t with
 |some (.arr n e)=>.when (Nat.blt 0 (aI e)&&Nat.ble n 1000000&&RA e) (.now (.ptr fresh 0) [(fresh,.vec e 0 false ⟨false,List.replicate n (zero e)⟩)])
 |_=>match RL C t with
  |some cs=>bif Nat.beq t C.gX then UT fresh cs else bif Nat.beq t C.oT then RP fresh cs else RO C fresh t cs
  |none=>.fail
def UX(o:Nat->Obj)(fresh:Nat)(t:TypeId)(v:V):Pk:=
 match v with
 |.d (.arr n e) l=>.when (Nat.blt 0 (aI e)&&Nat.ble n 1000000&&RA e) (.now (.ptr fresh 0) [(fresh,.vec e 0 false ⟨false,l⟩)])
 |v=>match Nt o v with
  |some cs=>bif Nat.beq t C.oT then RP fresh cs else RO C fresh t cs
  |none=>.fail
def Nw(fresh:Nat)(t:TypeId)(v:V):Pk:=
 match v with
 |.eM=>match oA C t with
  |some e=>.now (.aX fresh 0) [(fresh,.vec e 0 false ⟨true,[]⟩)]
  |none=>.now .eM
 |v=>.now v
def UY(x:Bool)(a b:V):V:=
 match a,b with
 |.d t a',.d t' b'=>match fQ t t' b' with
  |some b'=>.d t (L.Rn x a' b')
  |none=>bif x then a else b
 |_,_=>bif x then a else b
def Nx(t:TypeId):Option (Ty×Ty):=match desc C.P t with
 |some (.map k v)=>match C.ty k,C.ty v with
  |some k,some v=>some (k,v)
  |_,_=>none
 |_=>none
def Ny(t:TypeId)(tk tv:Ty):Bool:=match Nx C t with
 |some (k,v)=>fR tk (some k)&&fR tv (some v)&&Gy tk
 |none=>false
def UZ(o:Nat->Obj)(t:TypeId)(m k:V)(ok:Bool):Pk:=
 match m with
 |.mp id=>match o id with
  |.map tk tv m=>match fj L o tk k with
   |some k=>.when (Ny C t tk tv) (.now (bif ok then .iE [.d tv (L.kE (fe L tk) k m (zero tv)),.d .bool (L.ur (fe L tk) k m)]
     else .d tv (L.kE (fe L tk) k m (zero tv))))
   |none=>.fail
  |_=>.fail
 |.ic=>match Nx C t with
  |some (tk,tv)=>match fj L o tk k with
   |some _=>.when (Gy tk) (.now (bif ok then .iE [.d tv (zero tv),.d .bool false] else .d tv (zero tv)))
   |none=>.fail
  |none=>.fail
 |_=>.fail
def U0(o:Nat->Obj)(t:TypeId)(m k v:V):Pk:=
 match m with
 |.mp id=>match o id with
  |.map tk tv m=>match fj L o tk k,fj L o tv v with
   |some k,some x=>.when (Ny C t tk tv&&(eF o v).isEmpty) (.now .undef [(id,.map tk tv (L.jv (fe L tk) k x m))])
   |_,_=>.fail
  |_=>.fail
 |_=>.fail
def U1(fresh:Nat)(t:TypeId):Pk:=match Nx C t with
 |some (tk,tv)=>.when (Gy tk) (.now (.mp fresh) [(fresh,.map tk tv [])])
 |none=>.fail
def U2(fresh:Nat)(t:TypeId)(l c:V):Pk:=
 match oA C t,asInt l,asInt c with
 |some e,some ⟨_,n⟩,some ⟨_,m⟩=>.when (Nat.blt 0 (aI e)) (.dyn Nat (L.tn n m) (fun k=>(.aX fresh 0,[(fresh,.vec e 0 false ⟨false,L.rep k (zero e)⟩)])))
 |_,_,_=>.fail
def tp:Ty->Bool
 |.sl _=>true
 |.pair a b=>tp a||tp b
 |.st p=>tp p
 |.arr _ e=>tp e
 |.ks _=>true
 |.ej=>true
 |.cJ=>true
 |_=>false
mutual
def Nz:Sh->Bool
 |.d t=>tp t
 |.fa _=>true
 |.ref _=>true
 |.rr _=>true
 |.fn _ l=>wv l
 |.iE l=>wv l
 |.agg l=>wv l
 |_=>false
def wv:List Sh->Bool
 |[]=>false
 |s::l=>Nz s||wv l
end
def qZ:List ft->Bool
 |[]=>false
 |.box l::r=>wv l||qZ r
 |.vec t::r=>tp t||qZ r
 |.map k v::r=>tp k||tp v||qZ r
 |.gone::r=>qZ r
 |.iter::r=>qZ r
def kv(s:Shape):Bool:=wv s.roots||qZ s.aw
def RQ(o:Nat->Obj):List Nat->Bool
 |[]=>true
 |id::r=>(match o id with|.box _=>false|.map _ _ _=>false|.iter _ _=>false|_=>true)&&RQ o r
def BU(bH:List Nat):Nat->Nat->List ft->Bool
 |0,_,_=>true
 |n+1,i,.gone::r=>BS i bH&&BU bH n (i+1) r
 |n+1,i,_::r=>bI i bH&&BU bH n (i+1) r
 |_+1,_,[]=>false
variable (R:gY C.sigs)
def RT(o:Nat->Obj)(aS:List (Nat×Nat)):Nat->Bool
 |0=>true
 |n+1=>(match gf n aS with
  |some ct=>(match o ct with|.none=>false|_=>true)
  |none=>false)&&RT o aS n
def RU(ps:PS):List Nat->Bool
 |[]=>true
 |i::r=>Nl (gf ((gf i ps.aS).getD 0) ps.cut)&&RU ps r
def RV(o:Nat->Obj)(ps:PS)(k:Nat)(outs:Shape)(bH:List Nat):Bool:=RU ps bH&&BU bH k 0 outs.aw&&(RQ o ps.bY||!(kv outs))&&RT o ps.aS k&&Nat.ble outs.aw.length (k+16)
def BV(aS:List (Nat×Nat))(k fresh:Nat):Nat->Nat:=fun id=>bif Nat.blt id k then(gf id aS).getD 0 else fresh+(id-k)
def z8l:Obj->Nat
 |.vec _ ver _ _=>ver
 |_=>0
def CM(o:Nat->Obj)(aS:List (Nat×Nat))(k:Nat)(bH:List Nat):Nat->Nat:=fun id=>bif Nat.blt id k&&bI id bH then z8l (o ((gf id aS).getD 0)) else 0
def xi:List V->V
 |[v]=>v
 |vs=>.iE vs
def BW(o:Nat->Obj)(fresh:Nat)(f:Nat)(args:List V):List jY->Nat->Pk
 |[],_=>.fail
 |s::r,i=>bif Nat.beq s.f f then match pack L o [] (aR C.sigs i).ins args with
   |some (ps,c)=>.when (Nat.beq (aR C.sigs i).f f&&RV o ps (aR C.sigs i).ins.aw.length (aR C.sigs i).outs (aR C.sigs i).bH)
    (.dyn (aj (aR C.sigs i).outs.aU) (R i c) (fun y=>
     (xi (fill (BV ps.aS (aR C.sigs i).ins.aw.length fresh) (CM o ps.aS (aR C.sigs i).ins.aw.length (aR C.sigs i).bH) (aR C.sigs i).outs y).1,
      (bif kv (aR C.sigs i).outs then dH o ps.bY else [])++(fill (BV ps.aS (aR C.sigs i).ins.aw.length fresh) (CM o ps.aS (aR C.sigs i).ins.aw.length (aR C.sigs i).bH) (aR C.sigs i).outs y).2)))
   |none=>BW o fresh f args r (i+1)
  else BW o fresh f args r (i+1)
def faX:Pk->Option (Option Bool)
 |.dyn _ x out=>some (L.b x fun y=>match out y with
  |(.d .bool b,[])=>some b
  |_=>none)
 |_=>none
def NA(o:Nat->Obj)(fresh:Nat)(k n:Int)(args:List V):List (Nat×Bool)->Nat->Option (Option Bool)
 |[],_=>some none
 |(f,c)::r,i=>match faX L (BW L C R o fresh f (args++bif c then [.ref (.int .i64) n] else []) C.sigs 0) with
  |some x=>match NA o fresh k n args r (i+1) with
   |some y=>some (L.c (L.e k (Int.ofNat i)) x y)
   |none=>none
  |none=>none
def U3(o:Nat->Obj)(t:TypeId)(x y:V):Pk:=
 match x with
 |.aX id ver=>match o id with
  |.vec e aB false s=>match RH L o e y with
   |some m=>.when (Nat.beq ver aB&&fR e (oA C t)) (.now (.d (.int .i64) (L.iN (L.n s.l) (L.n m))) [(id,.vec e ver false ⟨s.nil,L.oQ s.l m⟩)])
   |none=>.fail
  |_=>.fail
 |_=>.fail
def U4(o:Nat->Obj)(t:TypeId)(m k:V):Pk:=
 match m with
 |.mp id=>match o id with
  |.map tk tv m=>match fj L o tk k with
   |some k=>.when (Ny C t tk tv) (.now (.iE []) [(id,.map tk tv (L.jw (fe L tk) k m))])
   |none=>.fail
  |_=>.fail
 |_=>.fail
def U5(o:Nat->Obj)(t:TypeId)(x:V):Pk:=
 match x with
 |.gb id ver lo=>match o id with
  |.vec e aB false s=>.when (Nat.beq ver aB&&fR e (oA C t)) (.now (.iE []) [(id,.vec e ver false ⟨s.nil,L.dX s.l lo (zero e)⟩)])
  |_=>.fail
 |_=>.fail
def qlh(o:Nat->Obj)(fresh:Nat)(b:Builtin)(ts:List TypeId)(args:List V):Pk:=
 match b,ts,args with
 |.len,t::_,[x]=>UJ L C o t x
 |.append,t::u::_,[x,y]=>UL L C o fresh t u x y
 |.copy,t::_,[x,y]=>U3 L C o t x y
 |.clear,t::_,[x]=>U5 L C o t x
 |.delete,t::_,[m,k]=>U4 L C o t m k
 |.min,_,[.d (.int k) a,.d (.int k') b]=>.when (Nat.beq (qY k) (qY k')) (.now (.d (.int k) (L.iN a b)))
 |.max,_,[.d (.int k) a,.d (.int k') b]=>.when (Nat.beq (qY k) (qY k')) (.now (.d (.int k) (L.ib a b)))
 |.complex,_,[.d .ej a,.d .ej b]=>.now (.d .cJ ((a:Nat),(b:Nat)))
 |.real,_,[.d .cJ a]=>.now (.d .ej (Prod.fst (α:=Nat) (β:=Nat) a))
 |.imag,_,[.d .cJ a]=>.now (.d .ej (Prod.snd (α:=Nat) (β:=Nat) a))
 |_,_,_=>.fail
def U6(fresh:Nat)(t:TypeId)(x:V):Pk:=match desc C.P t with
 |some .string=>match x with
  |.d .str l=>.now (.it fresh) [(fresh,.iter l 0)]
  |_=>.fail
 |_=>.fail
def U7(o:Nat->Obj)(x:V):Pk:=match x with
 |.it id=>match o id with
  |.iter l p=>.now (.Rp (L.l p (L.n l)) p (L.da l p)) [(id,.iter l (L.eE l p))]
  |_=>.fail
 |_=>.fail
def U8(i:Nat):V->Pk
 |.iE vs=>match vs[i]? with
  |some v=>.now v
  |none=>.fail
 |.Rp b p c=>match i with
  |0=>.now (.d .bool b)
  |1=>.jy (t:=.int .i64) (L.c b (some p) none)
  |2=>.jy (t:=.int .i32) (L.c b (some c) none)
  |_=>.fail
 |_=>.fail
def H0:IntKind->Int
 |.u8=>255|.u16=>65535|.u32=>4294967295|.u64=>18446744073709551615|_=>-1
def L7(o:Nat->Obj)(v:V):Pk:=
 match v with
 |.ptr _ _=>.when (sure o v) (.now v)
 |.ref _ _=>.now v
 |.jx id ver _ _=>match o id with
  |.vec _ aB _ _=>.when (Nat.beq ver aB) (.now v)
  |_=>.fail
 |.fn _ _=>.now v
 |_=>.fail
def cL(env:Nat->V)(o:Nat->Obj)(fresh:Nat)(t:TypeId):Op->Pk
 |.move x=>Nw C fresh t (cm C env x)
 |.assign x=>Nw C fresh t (cm C env x)
 |.pick c a b=>match CL C env c with
  |.lb x=>.now (bif x then cm C env a else cm C env b)
  |.d .bool x=>.now (UY L x (cm C env a) (cm C env b))
  |_=>.fail
 |.alloc e=>UW C fresh e
 |.box e x=>UX C o fresh e (cm C env x)
 |.build t ps=>UU C fresh t (!(Nat.beq t C.oT)) (UR L C o t (ps.toList.map fun p=>(p.1,cm C env p.2)))
 |.buildSlice t n ps=>US L C o fresh t n (ps.toList.map fun p=>(p.1,cm C env p.2))
 |.load t a=>RG L C o t (cm C env a)
 |.store t a v=>UG L C o t (cm C env a) (cm C env v)
 |.nilCheck x=>L7 o (cm C env x)
 |.binOp op t x y _=>L5 L C o op t (cm C env x) (cm C env y)
 |.unOp .not _ x=>match cm C env x with
  |.d .bool x=>.now (.d .bool (L.t x))
  |_=>.fail
 |.unOp .xor _ x=>match cm C env x with
  |.d (.int k) n=>.now (.d (.int k) (L.nn k (H0 k) n))
  |_=>.fail
 |.unOp .neg _ x=>match cm C env x with
  |.d (.int k) n=>.now (.d (.int k) (L.u k 0 n))
  |_=>.fail
 |.convert s d x=>UQ L C o fresh s d (cm C env x)
 |.makeFunc (.func f) first caps=>.when (Nat.blt f 1048576) (.now (.fn (f+1048576*first.toList.length) (first.toList.map (cm C env)++caps.toList.map (cm C env))))
 |.makeSlice t l c=>U2 L C fresh t (cm C env l) (cm C env c)
 |.slice t x lo hi mx=>UM L C o fresh t (cm C env x) (lo.map (cm C env)) (hi.map (cm C env)) (mx.map (cm C env))
 |.fieldAddr t x f=>L6 C o t (cm C env x) f
 |.field t x f=>UP C t (cm C env x) f
 |.indexAddr t x i=>UN L C o t (cm C env x) (cm C env i)
 |.index t x i=>UO L C t (cm C env x) (cm C env i)
 |.makeMap t none=>U1 C fresh t
 |.lookup t x k ok=>UZ L C o t (cm C env x) (cm C env k) ok
 |.mapUpdate t m k x=>U0 L C o t (cm C env m) (cm C env k) (cm C env x)
 |.extract x i=>U8 L i (cm C env x)
 |.range t x=>U6 C fresh t (cm C env x)
 |.next x true=>U7 L o (cm C env x)
 |.call c=>match c.callee with
  |.builtin b=>qlh L C o fresh b c.argTypes.toList (c.args.toList.map (cm C env))
  |.value f=>match cm C env f with
   |.fn f caps=>BW L C R o fresh (f % 1048576) (caps.take (f / 1048576)++(c.args.toList.map (cm C env)++caps.drop (f / 1048576))) C.sigs 0
   |.fa a k n=>match NA L C R o fresh k n (c.args.toList.map (cm C env)) a 0 with
    |some x=>.dyn Bool x (fun b=>(.d .bool b,[]))
    |none=>.fail
   |_=>.fail
  |_=>.fail
 |_=>.fail
end
end Ev