/- The evaluator: leaves, types, values, shapes, operations. No statement of its own about the program. -/
import GoSem.Core.Code
import GoSem.Core.Program
import GoSem.Core.View
import GoSem.Core.Utf8
import GoSem.Core.Float
namespace Ev
theorem om{p:Prop}(h:p:=by omega):p:=h
theorem dc{p:Prop}(h:p:=by decide):p:=h
abbrev zd:=@Bool.and_eq_true
abbrev ze:=@List.getElem?_eq_getElem
abbrev zf:=@List.mem_cons_self
abbrev zg:=@List.mem_cons_of_mem
abbrev zh:=@Nat.eq_of_beq_eq_true
abbrev zj:=@List.mem_of_getElem?
abbrev zm:=@decide_eq_false
abbrev zn:=@decide_eq_true
abbrev zt:=@List.length_append
abbrev zu:=@List.mem_cons
abbrev zw:=@List.length_cons
abbrev zA:=@List.length_map
abbrev zB:=@List.getElem?_eq_some_iff
abbrev zC:=@List.append_nil
abbrev zD:=@List.append_assoc
abbrev zE:=@List.map_append
abbrev zF:=@Array.getElem?_toList
abbrev zG:=@Option.some.inj
abbrev zH:=@Nat.le_of_ble_eq_true
abbrev zI:=@List.mem_singleton
abbrev zJ:=@List.all_eq_true
abbrev zK:=@Option.some.injEq
abbrev zL:=@List.mem_append
abbrev zM:=@of_decide_eq_true
abbrev zN:=@Nat.zero_add
abbrev zO:=@List.length_take
abbrev zP:=@Classical.byContradiction
abbrev zQ:=@List.map_cons
abbrev zR:=@List.drop_eq_nil_of_le
abbrev zS:=@List.mem_map
abbrev zT:=@List.eq_nil_of_length_eq_zero
abbrev zU:=@List.getElem?_map
abbrev zV:=@List.getElem?_append_right
abbrev zW:=@List.map_congr_left
abbrev zX:=@List.length_drop
abbrev zY:=@List.map_map
abbrev zZ:=@List.mem_of_find?_eq_some
abbrev ja:=@Array.getElem?_eq_none
abbrev jc:=@List.getElem?_append_left
abbrev jf:=@List.getElem?_eq_none
abbrev jl:=@List.take_of_length_le
abbrev jx:=@List.any_eq_true
abbrev jA:=@List.mem_filterMap
abbrev jB:=@List.find?_cons_of_neg
abbrev jC:=@List.mem_iff_getElem
open Go
structure Sl (α:Type) where
 nil:Bool
 l:List α
def ag{α β:Type}(x:Option α)(f:α->Option β):Option β:=match x with|some a=>f a|none=>none
def ak{α:Type}(x:Bool)(a b:Option α):Option α:=match x with|true=>a|false=>b
def Ob{α:Type}(x:Bool)(a b:α):α:=match x with|true=>a|false=>b
def ga{α β:Type}(f:α->Option β)(y:α⊕β):Option β:=match y with|.inl a=>f a|.inr b=>some b
def aw(a:Bool):Bool:=!a
def aR(a b:Bool):Bool:=a&&b
def aE{α:Type}(l:List α)(i:Int):Option α:=if 0<=i then l[i.toNat]? else none
def cB{α:Type}(l:List α)(i:Int):Option Nat:=if 0<=i/\i<l.length then some i.toNat else none
def bX{α:Type}(l:List α)(lo hi:Int):Option (List α):=if 0<=lo/\lo<=hi/\hi<=l.length then some ((l.take hi.toNat).drop lo.toNat) else none
def eN(n:Int)(hi:Int):Option Nat:=if 0<=hi/\hi<=n then some hi.toNat else none
def fit(n:Int):Option Unit:=if n<=2147483648 then some () else none
def sS(n m:Int):Option Nat:=if 0<=n/\n<=m/\m<=2147483648 then some n.toNat else none
def xT(k:IntKind)(a b:Int):Option Int:=if b=0 then none else some (k.wrap (a.tdiv b))
def eO(a b:Int):Option Int:=if b=0 then none else some (a.tmod b)
def pI(k:IntKind)(a b:Int):Option Int:=if b<0 then none else some (k.wrap (a*2 ^ min b.toNat k.bits))
def pJ(k:IntKind)(a b:Int):Option Int:=if b<0 then none else some (a.fdiv (2 ^ min b.toNat k.bits))
def au(k:IntKind)(a b:Int):Int:=k.wrap (a+b)
def cu(k:IntKind)(a b:Int):Int:=k.wrap (a-b)
def pK(k:IntKind)(a b:Int):Int:=k.wrap (a*b)
def j9(k:IntKind)(a:Int):Int:=k.wrap a
def qF(k:IntKind)(a b:Int):Int:=k.wrap (BitVec.ofInt k.bits a&&&BitVec.ofInt k.bits b).toNat
def ES(k:IntKind)(a b:Int):Int:=k.wrap (BitVec.ofInt k.bits a|||BitVec.ofInt k.bits b).toNat
def nu(k:IntKind)(a b:Int):Int:=k.wrap (BitVec.ofInt k.bits a ^^^ BitVec.ofInt k.bits b).toNat
def kf(k:IntKind)(a b:Int):Int:=k.wrap (BitVec.ofInt k.bits a&&&~~~BitVec.ofInt k.bits b).toNat
def aA(a b:Int):Bool:=decide (a<b)
def bf(a b:Int):Bool:=decide (a<=b)
def af(a b:Int):Bool:=a==b
def fu(a b:Bool):Bool:=a==b
def aM(a b:List Int):Bool:=a==b
def Kz(a b:List Int):List Int:=a++b
def kl(a b:Int):Int:=if b<a then b else a
def jQ(a b:Int):Int:=if a<b then b else a
def aT(a b:Int):Int:=a+b
def aa{α:Type}(l:List α):Int:=(l.length:Int)
def app{α:Type}(l m:List α):List α:=l++m
def rep{α:Type}(n:Nat)(x:α):List α:=List.replicate n x
def nth{α:Type}(l:List α)(n:Nat):Option α:=l[n]?
def ff{α:Type}(l:List α)(n:Nat)(x:α):List α:=l.set n x
def aO{α:Type}(l:List α)(n:Nat):List α:=l.take n
def cP{α:Type}(l:List α)(n:Int):List α:=l.drop n.toNat
def iG{α:Type}(l:List α)(n:Int)(z:α):List α:=l.take n.toNat++List.replicate (l.length-n.toNat) z
def qG{α:Type}(l m:List α):List α:=m.take l.length++l.drop m.length
def dI{α:Type}(l:List α):Bool:=l.isEmpty
def strLt:List Int->List Int->Bool
 |_,[]=>false
 |[],_::_=>true
 |a::x,b::y=>decide (a<b)||(decide (a=b)&&strLt x y)
def kZ{κ ν:Type}(eq:κ->κ->Bool)(k:κ):List (κ×ν)->Option ν
 |[]=>none
 |(k',v)::m=>bif eq k k' then some v else kZ eq k m
def nw{κ ν:Type}(eq:κ->κ->Bool)(k:κ)(m:List (κ×ν))(z:ν):ν:=(kZ eq k m).getD z
def wh{κ ν:Type}(eq:κ->κ->Bool)(k:κ)(m:List (κ×ν)):Bool:=(kZ eq k m).isSome
def la{κ ν:Type}(eq:κ->κ->Bool)(k:κ)(v:ν):List (κ×ν)->List (κ×ν)
 |[]=>[(k,v)]
 |(k',v')::m=>bif eq k k' then(k,v)::m else(k',v')::la eq k v m
def lg{κ ν:Type}(eq:κ->κ->Bool)(k:κ):List (κ×ν)->List (κ×ν)
 |[]=>[]
 |(k',v')::m=>bif eq k k' then m else(k',v')::lg eq k m
def xx(l:List Int):ByteArray:=⟨(l.map fun b=>UInt8.ofNat b.toNat).toArray⟩
def fA(l:List Int)(p:Int):Int:=((Utf8.decode (xx l) p.toNat).1:Int)
def gN(l:List Int)(p:Int):Int:=if p<l.length then p+((Utf8.decode (xx l) p.toNat).2:Int) else p
def wi(a b:Nat):Option Nat:=Ieee.double.add a b
def KA(a b:Nat):Bool:=(Ieee.double.order a b==some .lt)||(Ieee.double.order a b==some .eq)
def Oc(n:Int):Nat:=FloatKind.nearest .f64 n
def mc{σ ρ:Type}(f:σ->Option (σ⊕ρ)):Nat->σ->Option ρ
 |0,_=>none
 |n+1,s=>match f s with
  |some (.inl s')=>mc f n s'
  |some (.inr r)=>some r
  |none=>none
open Classical in
noncomputable def aH{σ ρ:Type}(f:σ->Option (σ⊕ρ))(s:σ):Option ρ:=if h:∃r n,mc f n s=some r then some (Classical.choose h) else none
structure Lf:Type 1 where
 b:{α β:Type}->Option α->(α->Option β)->Option β
 c:{α:Type}->Bool->Option α->Option α->Option α
 Ob:{α:Type}->Bool->α->α->α
 ga:{α β:Type}->(α->Option β)->α⊕β->Option β
 t:Bool->Bool
 d:Bool->Bool->Bool
 g:{α:Type}->List α->Int->Option α
 cB:{α:Type}->List α->Int->Option Nat
 bX:{α:Type}->List α->Int->Int->Option (List α)
 eN:Int->Int->Option Nat
 f:Int->Option Unit
 sS:Int->Int->Option Nat
 xT:IntKind->Int->Int->Option Int
 eO:Int->Int->Option Int
 pI:IntKind->Int->Int->Option Int
 pJ:IntKind->Int->Int->Option Int
 a:IntKind->Int->Int->Int
 u:IntKind->Int->Int->Int
 pK:IntKind->Int->Int->Int
 j9:IntKind->Int->Int
 qF:IntKind->Int->Int->Int
 ES:IntKind->Int->Int->Int
 nu:IntKind->Int->Int->Int
 kf:IntKind->Int->Int->Int
 l:Int->Int->Bool
 m:Int->Int->Bool
 e:Int->Int->Bool
 fu:Bool->Bool->Bool
 h:List Int->List Int->Bool
 q:List Int->List Int->List Int
 kl:Int->Int->Int
 jQ:Int->Int->Int
 s:Int->Int->Int
 n:{α:Type}->List α->Int
 app:{α:Type}->List α->List α->List α
 rep:{α:Type}->Nat->α->List α
 nth:{α:Type}->List α->Nat->Option α
 ff:{α:Type}->List α->Nat->α->List α
 aO:{α:Type}->List α->Nat->List α
 cP:{α:Type}->List α->Int->List α
 iG:{α:Type}->List α->Int->α->List α
 qG:{α:Type}->List α->List α->List α
 i:{α:Type}->List α->Bool
 strLt:List Int->List Int->Bool
 nw:{κ ν:Type}->(κ->κ->Bool)->κ->List (κ×ν)->ν->ν
 wh:{κ ν:Type}->(κ->κ->Bool)->κ->List (κ×ν)->Bool
 la:{κ ν:Type}->(κ->κ->Bool)->κ->ν->List (κ×ν)->List (κ×ν)
 lg:{κ ν:Type}->(κ->κ->Bool)->κ->List (κ×ν)->List (κ×ν)
 o:{σ ρ:Type}->(σ->Option (σ⊕ρ))->σ->Option ρ
 wi:Nat->Nat->Option Nat
 KA:Nat->Nat->Bool
 Oc:Int->Nat
 fA:List Int->Int->Int
 gN:List Int->Int->Int
noncomputable def lf:Lf where
 b:=@ag
 c:=@ak
 Ob:=@Ob
 ga:=@ga
 t:=aw
 d:=aR
 g:=@aE
 cB:=@cB
 bX:=@bX
 eN:=eN
 f:=fit
 sS:=sS
 xT:=xT
 eO:=eO
 pI:=pI
 pJ:=pJ
 a:=au
 u:=cu
 pK:=pK
 j9:=j9
 qF:=qF
 ES:=ES
 nu:=nu
 kf:=kf
 l:=aA
 m:=bf
 e:=af
 fu:=fu
 h:=aM
 q:=Kz
 kl:=kl
 jQ:=jQ
 s:=aT
 n:=@aa
 app:=@app
 rep:=@rep
 nth:=@nth
 ff:=@ff
 aO:=@aO
 cP:=@cP
 iG:=@iG
 qG:=@qG
 i:=@dI
 strLt:=strLt
 nw:=@nw
 wh:=@wh
 la:=@la
 lg:=@lg
 o:=@aH
 wi:=wi
 KA:=KA
 Oc:=Oc
 fA:=fA
 gN:=gN
inductive Ty where
 |int (k:IntKind)|bool|str|sl (e:Ty)|unit|pair (a b:Ty)|st (p:Ty)|arr (n:Nat) (e:Ty)
 |ks (p:Ty)
 |eP|fl
 deriving DecidableEq
inductive gl (α:Type) where
 |node (x:α) (nl:Bool) (ks:List (gl α))
def gl.x{α:Type}:gl α->α
 |.node x _ _=>x
def gl.s{α:Type}:gl α->Sl (gl α)
 |.node _ nl ks=>⟨nl,ks⟩
abbrev den:Ty->Type
 |.int _=>Int
 |.bool=>Bool
 |.eP=>Nat
 |.fl=>Nat×Nat
 |.str=>List Int
 |.sl e=>Sl (den e)
 |.unit=>Unit
 |.pair a b=>den a×den b
 |.st p=>den p
 |.arr _ e=>List (den e)
 |.ks p=>Sl (gl (den p))
def aN:Ty->Nat
 |.unit=>0
 |.pair a b=>aN a+aN b
 |.st p=>aN p
 |.arr n e=>n*aN e
 |_=>1
def zero:(t:Ty)->den t
 |.int _=>(0:Int)
 |.bool=>false
 |.eP=>(0:Nat)
 |.fl=>((0:Nat),(0:Nat))
 |.str=>([]:List Int)
 |.sl e=>(⟨true,[]⟩:Sl (den e))
 |.unit=>()
 |.pair a b=>(zero a,zero b)
 |.st p=>zero p
 |.arr n e=>List.replicate n (zero e)
 |.ks p=>(⟨true,[]⟩:Sl (gl (den p)))
def FT:Ty->Ty->Ty
 |.pair a b,k=>.pair a (FT b k)
 |t,k=>.pair t k
def ET:(p k:Ty)->den p->den k->den (FT p k)
 |.pair _ b,k,x,y=>(x.1,ET b k x.2 y)
 |.int _,_,x,y=>(x,y)
 |.bool,_,x,y=>(x,y)
 |.eP,_,x,y=>(x,y)
 |.fl,_,x,y=>(x,y)
 |.str,_,x,y=>(x,y)
 |.sl _,_,x,y=>(x,y)
 |.unit,_,x,y=>(x,y)
 |.st _,_,x,y=>(x,y)
 |.arr _ _,_,x,y=>(x,y)
 |.ks _,_,x,y=>(x,y)
def Od:(p k:Ty)->den (FT p k)->den p
 |.pair _ b,k,z=>(z.1,Od b k z.2)
 |.int _,_,z=>z.1
 |.bool,_,z=>z.1
 |.eP,_,z=>z.1
 |.fl,_,z=>z.1
 |.str,_,z=>z.1
 |.sl _,_,z=>z.1
 |.unit,_,z=>z.1
 |.st _,_,z=>z.1
 |.arr _ _,_,z=>z.1
 |.ks _,_,z=>z.1
def KB:(p k:Ty)->den (FT p k)->den k
 |.pair _ b,k,z=>KB b k z.2
 |.int _,_,z=>z.2
 |.bool,_,z=>z.2
 |.eP,_,z=>z.2
 |.fl,_,z=>z.2
 |.str,_,z=>z.2
 |.sl _,_,z=>z.2
 |.unit,_,z=>z.2
 |.st _,_,z=>z.2
 |.arr _ _,_,z=>z.2
 |.ks _,_,z=>z.2
abbrev nX(p:Ty):Ty:=.st (FT p (.ks p))
def Cm(p:Ty)(s:Sl (gl (den p))):den (.sl (nX p)):=(⟨s.nil,s.l.map fun r=>ET p (.ks p) r.x r.s⟩:Sl (den (nX p)))
def I8(p:Ty)(s:Sl (den (nX p))):Sl (gl (den p)):=⟨s.nil,s.l.map fun z=>.node (Od p (.ks p) z) (KB p (.ks p) z).nil (KB p (.ks p) z).l⟩
inductive V:Type where
 |d (t:Ty) (x:den t)
 |cR (id ver:Nat)
 |pre (id ver:Nat) (n:Nat) (ab6:Bool)
 |ptr (id off:Nat)
 |lh (id ver:Nat) (i:Nat) (path:List Nat)
 |ref (t:Ty) (x:den t)
 |gU
 |fn (f:Nat) (caps:List V)
 |gB
 |gV (vs:List V)
 |agg (cs:List V)
 |mp (id:Nat)
 |jR
 |ll
 |eQ
 |lb (b:Bool)
 |undef
 |bP
 |iH (id:Nat) (b:Bool)
 |iI (id ver:Nat) (lo:Int)
 |it (id:Nat)
 |Oe (b:Bool) (p c:Int)
 |fa (a:List (Nat×Bool)) (k n:Int)
 |rr (t:Ty) (x:den t)
 |Of
inductive Obj:Type where
 |box (cs:List V)
 |vec (t:Ty) (ver:Nat) (fr:Bool) (s:Sl (den t))
 |map (k v:Ty) (m:List (den k×den v))
 |dead
 |none
 |iter (s:List Int) (p:Int)
structure St:Type where
 env:Nat->V
 obj:Nat->Obj
def dK:V->V
 |.lb b=>.d .bool b
 |v=>v
def cV{α:Type}(f:Nat->α)(i:Nat)(x:α):Nat->α:=fun j=>bif Nat.beq j i then x else f j
def ar{α:Type}(f:Nat->α):List (Nat×α)->Nat->α
 |[]=>f
 |(i,x)::r=>ar (cV f i x) r
def gX(t:Ty):(t':Ty)->den t'->Option (den t):=fun t' x=>
 match decEq t' t with
 |isTrue h=>some (h▸x)
 |isFalse _=>none
section
variable (L:Lf)
def jS(o:Nat->Obj)(t:Ty):V->Option (den t)
 |.d t' x=>gX t t' x
 |.cR id ver=>match o id with
  |.vec e aF _ s=>bif Nat.beq ver aF then gX t (.sl e) s else none
  |_=>none
 |.pre id ver n _=>match o id with
  |.vec e aF _ s=>bif Nat.beq ver aF then gX t (.sl e) (⟨s.nil,L.aO s.l n⟩:Sl (den e)) else none
  |_=>none
 |.eQ=>match t with
  |.sl e=>some (⟨true,[]⟩:Sl (den e))
  |_=>none
 |.iI id ver lo=>match o id with
  |.vec e aF _ s=>bif Nat.beq ver aF then gX t (.sl e) (⟨s.nil,L.cP s.l lo⟩:Sl (den e)) else none
  |_=>none
 |_=>none
def I9(o:Nat->Obj):(t:Ty)->V->Option (den t)
 |.ks p,v=>match jS L o (.sl (nX p)) v with
  |some s=>some (I8 p s)
  |none=>none
 |_,_=>none
def oq(o:Nat->Obj)(t:Ty)(v:V):Option (den t):=match jS L o t v with
 |some x=>some x
 |none=>I9 L o t v
def mf:(t:Ty)->den t->List V
 |.unit,_=>[]
 |.pair a b,x=>mf a x.1++mf b x.2
 |.st p,x=>mf p x
 |.ks p,x=>[.d (.sl (nX p)) (Cm p x)]
 |t,x=>[.d t x]
def nx(o:Nat->Obj):(t:Ty)->List V->Option (den t×List V)
 |.unit,cs=>some ((),cs)
 |.pair a b,cs=>match nx o a cs with
  |some (x,r)=>match nx o b r with
   |some (y,r')=>some ((x,y),r')
   |none=>none
  |none=>none
 |.st p,cs=>nx o p cs
 |.arr _ _,_=>none
 |t,c::r=>match oq L o t c with
  |some x=>some (x,r)
  |none=>none
 |_,[]=>none
def fI(o:Nat->Obj)(t:Ty)(v:V):Option (den t):=
 match v with
 |.agg cs=>match t with
  |.st p=>match nx L o p cs with
   |some (x,[])=>some x
   |_=>none
  |_=>none
 |v=>oq L o t v
end
def desc(P:Program)(t:TypeId):Option TypeDesc:=
 match P.types.toList[t]? with
 |some i=>match i.desc with
  |.named _ u=>match P.types.toList[u]? with
   |some j=>some j.desc
   |none=>none
  |d=>some d
 |none=>none
def size(P:Program)(t:TypeId):Nat:=match P.types.toList[t]? with|some i=>i.size|none=>0
def KC(P:Program)(t:TypeId)(f:Nat):Option Field:=
 match desc P t with
 |some (.struct fs)=>fs.toList[f]?
 |_=>none
def Ja:(p:Ty)->Nat->den p->Option ((t:Ty)×den t)
 |.pair a _,0,x=>some ⟨a,x.1⟩
 |.pair _ b,n+1,x=>Ja b n x.2
 |.unit,_,_=>none
 |.ks p,0,x=>some ⟨.sl (nX p),Cm p x⟩
 |t,0,x=>some ⟨t,x⟩
 |_,_+1,_=>none
def Jb:(t:Ty)->Nat->den t->Option ((t:Ty)×den t)
 |.st p,n,x=>Ja p n x
 |_,_,_=>none
def Og:(path:List Nat)->(t:Ty)->den t->Option ((t:Ty)×den t)
 |[],t,x=>some ⟨t,x⟩
 |f::r,t,x=>match Jb t f x with
  |some ⟨u,y⟩=>Og r u y
  |none=>none
def wj:(p:Ty)->Nat->den p->((t:Ty)->den t->Option (den t))->Option (den p)
 |.pair a b,0,x,g=>match g a x.1 with|some y=>some ((y,x.2):den (.pair a b))|none=>none
 |.pair a b,n+1,x,g=>match wj b n x.2 g with|some y=>some ((x.1,y):den (.pair a b))|none=>none
 |.unit,_,_,_=>none
 |.ks p,0,x,g=>match g (.sl (nX p)) (Cm p x) with|some s=>some (I8 p s)|none=>none
 |t,0,x,g=>g t x
 |_,_+1,_,_=>none
def QZ:(t:Ty)->Nat->den t->((t:Ty)->den t->Option (den t))->Option (den t)
 |.st p,n,x,g=>wj p n x g
 |_,_,_,_=>none
def FU:(path:List Nat)->(t:Ty)->den t->((t:Ty)->den t->Option (den t))->Option (den t)
 |[],t,x,g=>g t x
 |f::r,t,x,g=>QZ t f x (fun u y=>FU r u y g)
inductive Sh where
 |d (t:Ty)|cR (id:Nat)|ptr (id off:Nat)|ref (t:Ty)|gU|fn (f:Nat) (caps:List Sh)|gB
 |gV (l:List Sh)|agg (l:List Sh)|mp (id:Nat)|jR|ll|bP|iH (id:Nat)|iI (id:Nat)|it (id:Nat)|fa (a:List (Nat×Bool))|rr (t:Ty)
inductive fO where
 |box (cs:List Sh)|vec (t:Ty)|map (k v:Ty)|gone|iter
structure Shape where
 roots:List Sh
 aB:List fO
mutual
def Jc:Sh->List Ty->List Ty
 |.d t,r=>t::r
 |.ref t,r=>t::r
 |.rr t,r=>t::r
 |.fn _ l,r=>jD l r
 |.gV l,r=>jD l r
 |.agg l,r=>jD l r
 |.iH _,r=>.bool::r
 |.iI _,r=>.int .i64::r
 |.fa _,r=>.int .i64::.int .i64::r
 |_,r=>r
def jD:List Sh->List Ty->List Ty
 |[],r=>r
 |s::l,r=>Jc s (jD l r)
end
def Jd:fO->List Ty->List Ty
 |.box cs,r=>jD cs r
 |.vec t,r=>.sl t::r
 |.map k v,r=>.arr 0 (.pair k v)::r
 |.gone,r=>r
 |.iter,r=>.str::.int .i64::r
def bY:List fO->List Ty->List Ty
 |[],r=>r
 |s::l,r=>Jd s (bY l r)
def Shape.aW(s:Shape):List Ty:=jD s.roots (bY s.aB [])
abbrev ai:List Ty->Type
 |[]=>Unit
 |t::ts=>den t×ai ts
mutual
def lM(ρ κ:Nat->Nat):(s:Sh)->(r:List Ty)->ai (Jc s r)->V×ai r
 |.d t,_,c=>(.d t c.1,c.2)
 |.ref t,_,c=>(.ref t c.1,c.2)
 |.rr t,_,c=>(.rr t c.1,c.2)
 |.fn f l,r,c=>let p:=fw ρ κ l r c;(.fn f p.1,p.2)
 |.gV l,r,c=>let p:=fw ρ κ l r c;(.gV p.1,p.2)
 |.agg l,r,c=>let p:=fw ρ κ l r c;(.agg p.1,p.2)
 |.cR id,_,c=>(.cR (ρ id) (κ id),c)
 |.ptr id off,_,c=>(.ptr (ρ id) off,c)
 |.gU,_,c=>(.gU,c)
 |.gB,_,c=>(.gB,c)
 |.mp id,_,c=>(.mp (ρ id),c)
 |.jR,_,c=>(.jR,c)
 |.ll,_,c=>(.ll,c)
 |.bP,_,c=>(.bP,c)
 |.iH id,_,c=>(.iH (ρ id) c.1,c.2)
 |.iI id,_,c=>(.iI (ρ id) (κ id) c.1,c.2)
 |.it id,_,c=>(.it (ρ id),c)
 |.fa a,_,c=>(.fa a c.1 c.2.1,c.2.2)
def fw(ρ κ:Nat->Nat):(l:List Sh)->(r:List Ty)->ai (jD l r)->List V×ai r
 |[],_,c=>([],c)
 |s::l,r,c=>let p:=lM ρ κ s (jD l r) c;let q:=fw ρ κ l r p.2;(p.1::q.1,q.2)
end
def fx(ρ κ:Nat->Nat)(i:Nat):(s:fO)->(r:List Ty)->ai (Jd s r)->Obj×ai r
 |.box cs,r,c=>let p:=fw ρ κ cs r c;(.box p.1,p.2)
 |.vec t,_,c=>(.vec t (κ i) false c.1,c.2)
 |.map k v,_,c=>(.map k v c.1,c.2)
 |.gone,_,c=>(.dead,c)
 |.iter,_,c=>(.iter c.1 c.2.1,c.2.2)
def gE(ρ κ:Nat->Nat):Nat->(l:List fO)->(r:List Ty)->ai (bY l r)->List (Nat×Obj)
 |_,[],_,_=>[]
 |i,s::l,r,c=>let p:=fx ρ κ i s (bY l r) c;(ρ i,p.1)::gE ρ κ (i+1) l r p.2
def fill(ρ κ:Nat->Nat)(s:Shape)(c:ai s.aW):List V×List (Nat×Obj):=
 let p:=fw ρ κ s.roots (bY s.aB []) c
 (p.1,gE ρ κ 0 s.aB [] p.2)
abbrev Ren:=List Nat
def idx(cE:Nat):Ren->Nat->Option Nat
 |[],_=>none
 |x::r,i=>bif Nat.beq x cE then some i else idx cE r (i+1)
def FV(cE:Nat)(aS:Ren):Nat×Ren:=match idx cE aS 0 with
 |some i=>(i,aS)
 |none=>(aS.length,aS++[cE])
mutual
def shV(o:Nat->Obj):V->Ren->Sh×Ren
 |.d t _,aS=>(.d t,aS)
 |.ref t _,aS=>(.ref t,aS)
 |.rr t _,aS=>(.rr t,aS)
 |.cR id ver,aS=>match o id with
  |.vec t aF fr _=>bif Nat.beq ver aF then(bif fr then(.d (.sl t),aS) else let p:=FV id aS;(.cR p.1,p.2)) else(.bP,aS)
  |_=>(.bP,aS)
 |.pre id ver _ _,aS=>match o id with
  |.vec t aF fr _=>bif Nat.beq ver aF then(bif fr then(.d (.sl t),aS) else let p:=FV id aS;(.cR p.1,p.2)) else(.bP,aS)
  |_=>(.bP,aS)
 |.ptr id off,aS=>match o id with
  |.none=>(.bP,aS)
  |.dead=>(.bP,aS)
  |_=>let p:=FV id aS;(.ptr p.1 off,p.2)
 |.gU,aS=>(.gU,aS)
 |.fn f l,aS=>let p:=Je o l aS;(.fn f p.1,p.2)
 |.gB,aS=>(.gB,aS)
 |.gV l,aS=>let p:=Je o l aS;(.gV p.1,p.2)
 |.agg l,aS=>let p:=Je o l aS;(.agg p.1,p.2)
 |.mp id,aS=>let p:=FV id aS;(.mp p.1,p.2)
 |.it id,aS=>let p:=FV id aS;(.it p.1,p.2)
 |.fa a _ _,aS=>(.fa a,aS)
 |.jR,aS=>(.jR,aS)
 |.ll,aS=>(.ll,aS)
 |.iH id _,aS=>match o id with
  |.box _=>let p:=FV id aS;(.iH p.1,p.2)
  |_=>(.bP,aS)
 |.iI id ver _,aS=>match o id with
  |.vec t aF fr _=>bif Nat.beq ver aF then(bif fr then(.d (.sl t),aS) else let p:=FV id aS;(.iI p.1,p.2)) else(.bP,aS)
  |_=>(.bP,aS)
 |_,aS=>(.bP,aS)
def Je(o:Nat->Obj):List V->Ren->List Sh×Ren
 |[],aS=>([],aS)
 |v::l,aS=>let p:=shV o v aS;let q:=Je o l p.2;(p.1::q.1,q.2)
end
def shO(o:Nat->Obj)(b:Obj)(aS:Ren):fO×Ren:=match b with
 |.box cs=>let p:=Je o cs aS;(.box p.1,p.2)
 |.vec t _ _ _=>(.vec t,aS)
 |.map k v _=>(.map k v,aS)
 |.none=>(.gone,aS)
 |.dead=>(.gone,aS)
 |.iter _ _=>(.iter,aS)
def KD(o:Nat->Obj):Nat->Nat->Ren->List fO
 |0,_,_=>[]
 |n+1,i,aS=>match aS[i]? with
  |some cE=>let p:=shO o (o cE) aS;p.1::KD o n (i+1) p.2
  |none=>[]
def z3o(sk:List Nat)(o:Nat->Obj)(vs:List V):Shape:=
 let p:=Je o vs sk
 ⟨p.1,KD o 100 0 p.2⟩
structure PS where
 aS:List (Nat×Nat)
 cut:List (Nat×Nat)
 cj:List Nat
 full:List Nat
def iJ(i:Nat):List (Nat×Nat)->Option Nat
 |[]=>none
 |(a,b)::r=>bif Nat.beq a i then some b else iJ i r
def xV(j:Nat):List (Nat×Nat)->Bool
 |[]=>false
 |(_,b)::r=>bif Nat.beq b j then true else xV j r
def bM(j:Nat):List Nat->Bool
 |[]=>false
 |b::r=>bif Nat.beq b j then true else bM j r
def Oh(j:Nat):List (Nat×Nat)->Option Nat
 |[]=>none
 |(a,b)::r=>bif Nat.beq b j then some a else Oh j r
def lN(n:Nat):Option Nat->Bool
 |some m=>Nat.beq m n
 |none=>false
def KE:Option Nat->Bool
 |some _=>false
 |none=>true
def tie(i cE:Nat)(s:PS):PS:={s with aS:=(i,cE)::s.aS}
def Oi(k:Nat)(all:List (Nat×Nat)):List (Nat×Nat)->Bool
 |[]=>true
 |(i,cE)::r=>Nat.blt i k&&lN cE (iJ i all)&&lN i (Oh cE all)&&Oi k all r
def Oj:List (Nat×Nat)->Bool
 |[]=>true
 |(id,_)::r=>KE (iJ id r)&&Oj r
def Ol(cut:List (Nat×Nat)):List Nat->Bool
 |[]=>true
 |id::r=>KE (iJ id cut)&&Ol cut r
def Om:List Nat->List (Nat×Nat)->Bool
 |[],_=>true
 |j::l,aS=>bif xV j aS then false else Om l aS
def FW(k:Nat)(ps:PS):Bool:=Oi k ps.aS ps.aS&&Oj ps.cut&&Ol ps.cut ps.full&&Om ps.cj ps.aS
def On(o:Nat->Obj)(id:Nat):Bool:=match o id with
 |.box _=>true
 |.vec _ ver false _=>Nat.beq ver 0
 |.map _ _ _=>true
 |_=>false
def wk(o:Nat->Obj):List Nat->Bool
 |[]=>true
 |id::r=>On o id&&wk o r
def Jf(cut:List (Nat×Nat)):List Nat->Bool
 |[]=>true
 |id::r=>KE (iJ id cut)&&Jf cut r
def ti:Nat->List Nat->List (Nat×Nat)
 |_,[]=>[]
 |i,id::r=>(i,id)::ti (i+1) r
def cK(sk:List Nat)(i:Nat):Nat:=match sk[i]? with
 |some j=>j
 |none=>1000000+i
def Oo:List Nat->List (Nat×Nat)
 |[]=>[]
 |id::r=>(id,id)::Oo r
def Jg(k:Nat):List Nat->Bool
 |[]=>true
 |id::r=>Nat.blt id k&&Nat.blt id 1000000&&!(bM id r)&&Jg k r
mutual
def eX(o:Nat->Obj):V->List Nat
 |.cR id _=>match o id with|.vec _ _ true _=>[]|_=>[id]
 |.pre id _ _ _=>match o id with|.vec _ _ true _=>[]|_=>[id]
 |.iI id _ _=>match o id with|.vec _ _ true _=>[]|_=>[id]
 |.agg l=>qH o l
 |_=>[]
def qH(o:Nat->Obj):List V->List Nat
 |[]=>[]
 |v::l=>eX o v++qH o l
end
def Jh(o:Nat->Obj)(id:Nat):List Nat:=match o id with
 |.box cs=>qH o cs
 |_=>[]
section
variable (L:Lf)
def tj(o:Nat->Obj)(t:Ty)(id:Nat):Option (den t):=match o id with
 |.box cs=>match nx L o t cs with
  |some (x,[])=>some x
  |_=>none
 |_=>none
abbrev Take:=Option (PS×(∀r,ai r->ai r))
def xy(b:Bool)(ps:PS):Take:=match b with
 |true=>some (ps,fun _ c=>c)
 |false=>none
def z6c:V->Bool
 |.gU=>true
 |_=>false
def z6d:V->Bool
 |.gB=>true
 |_=>false
def z6e:V->Bool
 |.jR=>true
 |_=>false
def z6f:V->Bool
 |.ll=>true
 |_=>false
def Q0(o:Nat->Obj)(t:Ty)(v:V)(ps:PS):Option (PS×(∀r,ai r->den t×ai r)):=match fI L o t v with
 |some x=>some ({ps with cj:=eX o v++ps.cj},fun _ c=>(x,c))
 |none=>none
def KF(o:Nat->Obj)(t:Ty)(v:V)(ps:PS):Option (PS×(∀r,ai r->den t×ai r)):=match v with
 |.ref t' x=>match gX t t' x with
  |some x=>some (ps,fun _ c=>(x,c))
  |none=>none
 |.ptr id off=>bif Nat.beq off 0 then(match tj L o t id with
  |some x=>some ({ps with cj:=id::(Jh o id++ps.cj)},fun _ c=>(x,c))
  |none=>none) else none
 |_=>none
def Q3(o:Nat->Obj)(t:Ty)(id:Nat):Option (Nat×den t):=match o id with
 |.box [.ptr lO FX]=>bif Nat.beq FX 0 then(match tj L o t lO with
  |some x=>some (lO,x)
  |none=>none) else none
 |_=>none
def FY(o:Nat->Obj)(t:Ty)(v:V)(ps:PS):Option (PS×(∀r,ai r->den t×ai r)):=match v with
 |.rr t' x=>match gX t t' x with
  |some x=>some (ps,fun _ c=>(x,c))
  |none=>none
 |.ptr id off=>bif Nat.beq off 0 then(match Q3 L o t id with
  |some (lO,x)=>some ({ps with cj:=id::lO::(Jh o lO++ps.cj)},fun _ c=>(x,c))
  |none=>none) else none
 |_=>none
def KG(o:Nat->Obj)(i:Nat)(v:V)(ps:PS):Take:=match v with
 |.cR id ver=>match o id with
  |.vec _ aF false _=>xy (Nat.beq ver aF) {tie i id ps with full:=id::ps.full}
  |_=>none
 |.pre id ver n _=>match o id with
  |.vec _ aF false _=>xy (Nat.beq ver aF) {tie i id ps with cut:=(id,n)::ps.cut}
  |_=>none
 |_=>none
def KH(o:Nat->Obj)(i off:Nat)(v:V)(ps:PS):Take:=match v with
 |.ptr id FZ=>match o id with
  |.box _=>xy (Nat.beq off FZ) (tie i id ps)
  |.vec _ aF false _=>xy (Nat.beq off FZ&&Nat.beq 0 aF) (tie i id ps)
  |_=>none
 |_=>none
def xW(o:Nat->Obj)(i:Nat)(v:V)(ps:PS):Take:=match v with
 |.mp id=>match o id with
  |.map _ _ _=>some (tie i id ps,fun _ c=>c)
  |_=>none
 |_=>none
def xX(o:Nat->Obj)(i:Nat)(v:V)(ps:PS):Take:=match v with
 |.it id=>match o id with
  |.iter _ _=>some (tie i id ps,fun _ c=>c)
  |_=>none
 |_=>none
def KI(o:Nat->Obj)(i:Nat)(v:V)(ps:PS):Option (PS×(∀r,ai r->den .bool×ai r)):=match v with
 |.iH id b=>match o id with
  |.box _=>some (tie i id ps,fun _ c=>(b,c))
  |_=>none
 |_=>none
def Oq(o:Nat->Obj)(i:Nat)(v:V)(ps:PS):Option (PS×(∀r,ai r->den (.int .i64)×ai r)):=match v with
 |.iI id ver lo=>match o id with
  |.vec _ aF false _=>bif Nat.beq ver aF then some ({tie i id ps with full:=id::ps.full},fun _ c=>((lo:den (.int .i64)),c)) else none
  |_=>none
 |_=>none
def F0(f:Nat)(c:Bool):List (Nat×Bool)->Nat->Option Nat
 |[],_=>none
 |(g,d)::r,i=>bif Nat.beq g f&&(bif c then d else !d) then some i else F0 f c r (i+1)
def KJ:List (Nat×Bool)->List (Nat×Bool)->Bool
 |[],[]=>true
 |(f,c)::a,(g,d)::b=>Nat.beq f g&&(bif c then d else !d)&&KJ a b
 |_,_=>false
def pL{α:Type}:List α->Nat->Nat
 |[],i=>i
 |_::r,i=>pL r (i+1)
def Cn(o:Nat->Obj)(a:List (Nat×Bool))(v:V)(ps:PS):Option (PS×(∀r,ai r->den (.int .i64)×den (.int .i64)×ai r)):=match v with
 |.fa b k n=>bif KJ b a then some (ps,fun _ c=>(k,n,c)) else none
 |.gB=>some (ps,fun _ c=>(Int.ofNat (pL a 0),(0:Int),c))
 |.fn f []=>match(bif Nat.blt f 1048576 then F0 f false a 0 else none) with
  |some i=>some (ps,fun _ c=>(Int.ofNat i,(0:Int),c))
  |none=>none
 |.fn f [w]=>match(bif Nat.blt f 1048576 then F0 f true a 0 else none) with
  |some i=>match KF L o (.int .i64) w ps with
   |some (bD,g)=>some (bD,fun r c=>(Int.ofNat i,g r c))
   |none=>none
  |none=>none
 |_=>none
def Co(f:Nat):V->Option (List V)
 |.fn f' l=>bif Nat.beq f f' then some l else none
 |_=>none
def Ot:V->Option (List V)
 |.gV l=>some l
 |_=>none
def Cp:V->Option (List V)
 |.agg l=>some l
 |_=>none
mutual
def EU(o:Nat->Obj):(s:Sh)->V->PS->Option (PS×(∀r,ai r->ai (Jc s r)))
 |.d t,v,ps=>Q0 L o t v ps
 |.ref t,v,ps=>KF L o t v ps
 |.rr t,v,ps=>FY L o t v ps
 |.cR i,v,ps=>KG o i v ps
 |.ptr i off,v,ps=>KH o i off v ps
 |.gU,v,ps=>xy (z6c v) ps
 |.fn f l,v,ps=>match Co f v with
  |some l'=>nY o l l' ps
  |none=>none
 |.gB,v,ps=>xy (z6d v) ps
 |.gV l,v,ps=>match Ot v with
  |some l'=>nY o l l' ps
  |none=>none
 |.agg l,v,ps=>match Cp v with
  |some l'=>nY o l l' ps
  |none=>none
 |.mp i,v,ps=>xW o i v ps
 |.jR,v,ps=>xy (z6e v) ps
 |.ll,v,ps=>xy (z6f v) ps
 |.bP,_,ps=>xy true ps
 |.iH i,v,ps=>KI o i v ps
 |.iI i,v,ps=>Oq o i v ps
 |.it i,v,ps=>xX o i v ps
 |.fa a,v,ps=>Cn L o a v ps
def nY(o:Nat->Obj):(l:List Sh)->List V->PS->Option (PS×(∀r,ai r->ai (jD l r)))
 |[],vs,ps=>xy vs.isEmpty ps
 |s::l,vs,ps=>match vs with
  |v::vs=>match EU o s v ps with
   |some (ps,f)=>match nY o l vs ps with
    |some (ps,g)=>some (ps,fun r c=>f _ (g r c))
    |none=>none
   |none=>none
  |[]=>none
end
def xY(o:Nat->Obj)(cE:Nat):(s:fO)->PS->Option (PS×(∀r,ai r->ai (Jd s r)))
 |.box l,ps=>match o cE with
  |.box cs=>nY L o l cs ps
  |_=>none
 |.vec t,ps=>match o cE with
  |.vec t' _ false s=>match gX (.sl t) (.sl t') s with
   |some s=>match iJ cE ps.cut with
    |some n=>some (ps,fun _ c=>((⟨s.nil,L.aO s.l n⟩:Sl (den t)),c))
    |none=>some ({ps with full:=cE::ps.full},fun _ c=>(s,c))
   |none=>none
  |_=>none
 |.map k v,ps=>match o cE with
  |.map k' v' m=>match gX (.arr 0 (.pair k v)) (.arr 0 (.pair k' v')) m with
   |some m=>some (ps,fun _ c=>(m,c))
   |none=>none
  |_=>none
 |.gone,ps=>some (ps,fun _ c=>c)
 |.iter,ps=>match o cE with
  |.iter s p=>some (ps,fun _ c=>((s:den .str),(p:den (.int .i64)),c))
  |_=>none
def ot(o:Nat->Obj):Nat->(l:List fO)->PS->Option (PS×(∀r,ai r->ai (bY l r)))
 |_,[],ps=>some (ps,fun _ c=>c)
 |i,.gone::l,ps=>match ot o (i+1) l ps with
   |some (ps,g)=>some (ps,fun r c=>g r c)
   |none=>none
 |i,s::l,ps=>match iJ i ps.aS with
  |some cE=>match xY L o cE s ps with
   |some (ps,f)=>match ot o (i+1) l ps with
    |some (ps,g)=>some (ps,fun r c=>f _ (g r c))
    |none=>none
   |none=>none
  |none=>none
def pack(o:Nat->Obj)(aS:List (Nat×Nat))(s:Shape)(vs:List V):Option (PS×ai s.aW):=
 match nY L o s.roots vs ⟨aS,[],[],[]⟩ with
 |some (ps,f)=>match ot L o 0 s.aB ps with
  |some (ps,g)=>bif FW s.aB.length ps then some (ps,f _ (g [] ())) else none
  |none=>none
 |none=>none
def F1(sk:List Nat)(aS:List (Nat×Nat))(o:Nat->Obj)(s:Shape)(vs:List V):Option (PS×ai s.aW):=
 match pack L o aS s vs with
 |some p=>bif wk o sk&&Jf p.1.cut sk then some p else none
 |none=>none
end
inductive Pk:Type 1 where
 |fail
 |mw (v:V) (u:List (Nat×Obj))
 |dyn (α:Type) (x:Option α) (out:α->V×List (Nat×Obj))
def Pk.now(v:V)(u:List (Nat×Obj):=[]):Pk:=.mw v u
def Pk.lr{t:Ty}(x:Option (den t)):Pk:=.dyn (den t) x (fun y=>(.d t y,[]))
def Pk.when(b:Bool)(p:Pk):Pk:=match b with|true=>p|false=>.fail
section
variable (L:Lf)
def fB:(t:Ty)->den t->den t->Bool
 |.int _,a,b=>L.e a b
 |.bool,a,b=>L.fu a b
 |.str,a,b=>L.h a b
 |.unit,_,_=>true
 |.pair s t,a,b=>L.d (fB s a.1 b.1) (fB t a.2 b.2)
 |.st p,a,b=>fB p a b
 |_,_,_=>false
end
def EV:Ty->Bool
 |.int _=>true|.bool=>true|.str=>true|_=>false
structure mZ where
 f:Nat
 ins:Shape
 outs:Shape
 bJ:List Nat
structure Cx where
 P:Program
 sigs:List mZ
 lu:Nat->Option ((t:Ty)×den t)
 ef:List (Nat×Ty)
 eqs:List Nat
 EW:Nat
 xZ:Nat
def Cq:List (Nat×Ty)->Nat->Option Ty
 |[],_=>none
 |(a,T)::r,t=>bif Nat.beq a t then some T else Cq r t
def Cx.ty(C:Cx)(t:TypeId):Option Ty:=Cq C.ef t
def tl:IntKind->Nat
 |.i8=>0|.i16=>1|.i32=>2|.i64=>3|.u8=>4|.u16=>5|.u32=>6|.u64=>7
def pM:Ty->Ty->Bool
 |.int k,.int k'=>Nat.beq (tl k) (tl k')
 |.bool,.bool=>true
 |.eP,.eP=>true
 |.fl,.fl=>true
 |.str,.str=>true
 |.sl a,.sl b=>pM a b
 |.unit,.unit=>true
 |.pair a b,.pair c d=>pM a c&&pM b d
 |.st a,.st b=>pM a b
 |.arr n a,.arr m b=>Nat.beq n m&&pM a b
 |.ks a,.ks b=>pM a b
 |_,_=>false
def gY(T:Ty):Option Ty->Bool
 |some T'=>pM T' T
 |none=>false
def Cx.is(C:Cx)(t:TypeId)(T:Ty):Bool:=gY T (C.ty t)
def wm(P:Program)(t:TypeId):Option (Bool×Nat):=match P.types.toList[t]? with
 |none=>none
 |some i=>match desc P t with
  |some (.struct _)=>some (true,i.size)
  |some (.array ..)=>some (true,i.size)
  |some _=>some (false,i.size)
  |none=>none
def ly:Ty->Bool
 |.int _=>true|.bool=>true|.str=>true|.sl _=>true|.eP=>true|.fl=>true|_=>false
def Ji(o:Nat->Obj):V->Bool
 |.d t _=>ly t
 |.cR id ver=>match o id with|.vec _ aF _ _=>Nat.beq ver aF|_=>false
 |.pre id ver _ _=>match o id with|.vec _ aF _ _=>Nat.beq ver aF|_=>false
 |.ptr id _=>match o id with|.box _=>true|.vec _ aF _ _=>Nat.beq 0 aF|_=>false
 |.lh id ver _ _=>match o id with|.vec _ aF _ _=>Nat.beq ver aF|_=>false
 |.ref _ _=>true
 |.gU=>true
 |.fn _ _=>true
 |.gB=>true
 |.mp id=>match o id with|.map .. =>true|_=>false
 |.it id=>match o id with|.iter .. =>true|_=>false
 |.jR=>true
 |.ll=>true
 |.eQ=>true
 |.iH id _=>match o id with|.box _=>true|_=>false
 |.iI id ver _=>match o id with|.vec _ aF _ _=>Nat.beq ver aF|_=>false
 |.fa .. =>true
 |_=>false
def pP:List V->Bool
 |.iH _ _::_=>true
 |_=>false
def Ou:Ty->Bool
 |.int .u8=>false
 |_=>true
def wo(o:Nat->Obj):List V->Bool
 |[]=>true
 |v::r=>Ji o v&&wo o r
def KK(o:Nat->Obj):V->Option (List V)
 |.d (.st p) x=>bif wo o (mf p x) then some (mf p x) else none
 |.agg cs=>bif wo o cs then some cs else none
 |v=>bif Ji o v then some [v] else none
def pQ:Ty->Nat->Option Ty
 |.pair a _,0=>some a
 |.pair _ b,n+1=>pQ b n
 |.unit,_=>none
 |.ks p,0=>some (.sl (nX p))
 |t,0=>some t
 |_,_+1=>none
def BI:List Nat->Ty->Option Ty
 |[],t=>some t
 |f::r,.st p=>match pQ p f with
  |some u=>BI r u
  |none=>none
 |_::_,_=>none
def aK:List mZ->Nat->mZ
 |[],_=>⟨0,⟨[],[]⟩,⟨[],[]⟩,[]⟩
 |s::_,0=>s
 |_::r,n+1=>aK r n
abbrev gF(sg:List mZ):=(i:Nat)->ai (aK sg i).ins.aW->Option (ai (aK sg i).outs.aW)
section
variable (L:Lf) (C:Cx)
def Cr(k:IntKind)(n:Int):Bool:=decide (k.min<=n)&&decide (n<=k.max)
def EX:Value->V
 |.bool b=>.d .bool b
 |.float .f64 b=>.d .eP b
 |.complex .f64 a b=>.d .fl (a,b)
 |.int k n=>bif Cr k n then .d (.int k) n else .bP
 |.string s=>bif Nat.ble s.size 1000000 then .d .str (s.data.toList.map fun b=>(b.toNat:Int)) else .bP
 |.pointer none=>.gU
 |.map none=>.jR
 |.nilFunc=>.gB
 |.nilIface=>.ll
 |.slice none 0 0=>.eQ
 |_=>.bP
def bZ(env:Nat->V):Operand->V
 |.tmp t=>dK (env t)
 |.const v=>EX v
 |.global g=>match C.lu g with
  |some ⟨t,x⟩=>.ref t x
  |none=>.bP
 |.func f=>bif Nat.blt f 1048576 then .fn f [] else .bP
def Cs(env:Nat->V):Operand->V
 |.tmp t=>env t
 |x=>bZ C env x
def dX(o:Nat->Obj):List Nat->List (Nat×Obj)
 |[]=>[]
 |id::r=>match o id with
  |.vec t ver _ s=>(id,.vec t ver true s)::dX o r
  |_=>dX o r
def BJ(id:Nat):List Nat->Bool
 |[]=>true
 |b::r=>bif Nat.beq b id then false else BJ id r
def BK(o:Nat->Obj):V->Option ((t:Ty)×Sl (den t))
 |.cR id ver=>match o id with
  |.vec t aF _ s=>bif Nat.beq ver aF then some ⟨t,s⟩ else none
  |_=>none
 |.pre id ver n _=>match o id with
  |.vec t aF _ s=>bif Nat.beq ver aF then some ⟨t,⟨s.nil,L.aO s.l n⟩⟩ else none
  |_=>none
 |.iI id ver lo=>match o id with
  |.vec t aF _ s=>bif Nat.beq ver aF then some ⟨t,⟨s.nil,L.cP s.l lo⟩⟩ else none
  |_=>none
 |_=>none
def F2:V->Option ((_:IntKind)×Int)
 |.d (.int k) n=>some ⟨k,n⟩
 |_=>none
def qo(t:TypeId):Option Ty:=match desc C.P t with
 |some (.slice e)=>C.ty e
 |_=>none
def KL(t:TypeId):Option (Nat×Ty):=match desc C.P t with
 |some (.array n e)=>match C.ty e with
  |some e=>some (n,e)
  |none=>none
 |_=>none
def Ov:List V->Bool
 |[]=>false
 |.eQ::_=>true
 |_::r=>Ov r
def Ow(o:Nat->Obj)(t:TypeId)(cs:List V):V:=
 match C.ty t with
 |some (.st p)=>match qH o cs,Ov cs with
  |[],false=>match nx L o p cs with
   |some (x,[])=>.d (.st p) x
   |_=>.agg cs
  |_,_=>.agg cs
 |_=>.agg cs
def Jj(l:List V)(i:Nat)(cs:List V):List V:=l.take i++cs++l.drop (i+cs.length)
def Ox(o:Nat->Obj)(t:TypeId):V->Pk
 |.ref t' x=>.when (C.is t t') (.now (.d t' x))
 |.rr t' x=>match wm C.P t with
  |some (false,_)=>.now (.ref t' x)
  |_=>.fail
 |.ptr id off=>match o id with
  |.box cs=>match wm C.P t with
   |some (true,n)=>.when (Nat.ble (off+n) cs.length) (.now (Ow L C o t ((cs.drop off).take n)))
   |some (false,_)=>match cs[off]? with
    |some v=>.now v
    |none=>.fail
   |none=>.fail
  |_=>.fail
 |.lh id ver i path=>match o id with
  |.vec e aF _ s=>match BI path e with
   |some t'=>.when (Nat.beq ver aF&&C.is t t') (.dyn (den e) (L.nth s.l i) (fun x=>match Og path e x with
     |some ⟨t,y⟩=>(.d t y,[])
     |none=>(.bP,[])))
   |none=>.fail
  |_=>.fail
 |_=>.fail
def Oy(o:Nat->Obj)(t:TypeId)(a v:V):Pk:=
 match a with
 |.ptr id off=>match o id with
  |.box cs=>match KK o v with
   |some vs=>match wm C.P t with
    |some (_,n)=>.when (Nat.beq vs.length n&&Nat.ble (off+n) cs.length&&!pP vs) (.now .undef [(id,.box (Jj cs off vs))])
    |none=>.fail
   |none=>.fail
  |_=>.fail
 |.lh id ver i path=>match o id with
  |.vec e aF false s=>match BI path e with
   |some t'=>.when (Nat.beq ver aF&&C.is t t'&&BJ id (eX o v))
    (.dyn (den e) (L.b (L.nth s.l i) fun x=>FU path e x (fun u _=>fI L o u v)) (fun y=>(.undef,dX o (eX o v)++[(id,.vec e aF false ⟨s.nil,L.ff s.l i y⟩)])))
   |none=>.fail
  |_=>.fail
 |_=>.fail
def Q4(op:BinOp)(k:IntKind)(a b:Int):Pk:=
 match op with
 |.add=>.now (.d (.int k) (L.a k a b))
 |.sub=>.now (.d (.int k) (L.u k a b))
 |.mul=>.now (.d (.int k) (L.pK k a b))
 |.quo=>.lr (t:=.int k) (L.xT k a b)
 |.rem=>.lr (t:=.int k) (L.eO a b)
 |.and=>.now (.d (.int k) (L.qF k a b))
 |.or=>.now (.d (.int k) (L.ES k a b))
 |.xor=>.now (.d (.int k) (L.nu k a b))
 |.andNot=>.now (.d (.int k) (L.kf k a b))
 |.eql=>.now (.d .bool (L.e a b))
 |.neq=>.now (.d .bool (L.t (L.e a b)))
 |.lss=>.now (.d .bool (L.l a b))
 |.leq=>.now (.d .bool (L.m a b))
 |.gtr=>.now (.d .bool (L.l b a))
 |.geq=>.now (.d .bool (L.m b a))
 |_=>.fail
def Q5(op:BinOp)(a b:List Int):Pk:=
 match op with
 |.add=>.dyn Unit (L.f (L.s (L.n a) (L.n b))) (fun _=>(.d .str (L.q a b),[]))
 |.eql=>.now (.d .bool (L.h a b))
 |.neq=>.now (.d .bool (L.t (L.h a b)))
 |.lss=>.now (.d .bool (L.strLt a b))
 |.gtr=>.now (.d .bool (L.t (L.t (L.d (L.t (L.strLt a b)) (L.t (L.h a b))))))
 |.leq=>.now (.d .bool (L.t (L.d (L.t (L.strLt a b)) (L.t (L.h a b)))))
 |.geq=>.now (.d .bool (L.t (L.strLt a b)))
 |_=>.fail
def Q6(op:BinOp)(a b:Nat):Pk:=
 match op with
 |.add=>.lr (t:=.eP) (L.wi a b)
 |.leq=>.now (.d .bool (L.KA a b))
 |_=>.fail
def Q7(op:BinOp)(a b:Nat×Nat):Pk:=
 match op with
 |.add=>.lr (t:=.fl) (L.b (L.wi a.1 b.1) fun x=>L.b (L.wi a.2 b.2) fun y=>some (x,y))
 |_=>.fail
def jT(op:BinOp)(b:Bool):Pk:=
 match op with
 |.eql=>.now (.d .bool b)
 |.neq=>.now (.d .bool (L.t b))
 |_=>.fail
def wq(t:TypeId):Nat:=match desc C.P t with
 |some .bool=>0
 |some (.slice _)=>1
 |some (.func ..)=>2
 |some (.pointer _)=>3
 |some (.map ..)=>4
 |_=>5
def sure(o:Nat->Obj):V->Bool
 |.ptr id _=>match o id with|.box _=>true|.vec _ aF _ _=>Nat.beq 0 aF|_=>false
 |.ref _ _=>true
 |_=>false
def Jk(o:Nat->Obj)(op:BinOp)(t:TypeId)(x y:V):Pk:=
 match x,y with
 |.d (.int k) a,.d (.int k') b=>match op with
  |.shl=>.lr (t:=.int k) (L.pI k a b)
  |.shr=>.lr (t:=.int k) (L.pJ k a b)
  |op=>match decEq k k' with
   |isTrue _=>Q4 L op k a b
   |isFalse _=>.fail
 |.d .str a,.d .str b=>Q5 L op a b
 |.d .eP a,.d .eP b=>Q6 L op a b
 |.d .fl a,.d .fl b=>Q7 L op a b
 |.d .bool a,.d .bool b=>.when (Nat.beq (wq C t) 0) (jT L op (L.fu a b))
 |.d (.st p) a,.d (.st p') b=>match gX p p' b with
  |some b=>.when (bM t C.eqs&&C.is t (.st p)) (jT L op (fB L p a b))
  |none=>.fail
 |.d (.sl _) s,.eQ=>.when (Nat.beq (wq C t) 1) (jT L op (Sl.nil s))
 |.eQ,.eQ=>.when (Nat.beq (wq C t) 1) (jT L op true)
 |.fn _ _,.gB=>.when (Nat.beq (wq C t) 2) (jT L op false)
 |.gB,.gB=>.when (Nat.beq (wq C t) 2) (jT L op true)
 |.fa a k _,.gB=>.when (Nat.beq (wq C t) 2) (jT L op (L.e k (Int.ofNat (pL a 0))))
 |.gU,.gU=>.when (Nat.beq (wq C t) 3) (jT L op true)
 |v,.gU=>.when (Nat.beq (wq C t) 3&&sure o v) (jT L op false)
 |v,.eQ=>match BK L o v with
  |some ⟨_,s⟩=>.when (Nat.beq (wq C t) 1) (jT L op s.nil)
  |none=>.fail
 |_,_=>.fail
def Q8(o:Nat->Obj)(t:TypeId)(x:V):Pk:=
 match desc C.P t with
 |some .string=>match x with
  |.d .str l=>.now (.d (.int .i64) (L.n (α:=Int) l))
  |_=>.fail
 |some (.slice _)=>match x with
  |.d (.sl _) s=>.now (.d (.int .i64) (L.n s.l))
  |.eQ=>.now (.d (.int .i64) (0:Int))
  |v=>match BK L o v with
   |some ⟨_,s⟩=>.now (.d (.int .i64) (L.n s.l))
   |none=>.fail
 |some (.map ..)=>match x with
  |.mp id=>match o id with
   |.map _ _ _=>.fail
   |_=>.fail
  |.jR=>.now (.d (.int .i64) (0:Int))
  |_=>.fail
 |some (.array n _)=>.when (Nat.ble n 1000000) (.now (.d (.int .i64) ((n:Nat):Int)))
 |_=>.fail
def Oz(o:Nat->Obj)(e:Ty):V->Option (List (den e))
 |.d .str l=>gX (.arr 0 e) (.arr 0 (.int .u8)) l
 |v=>match oq L o (.sl e) v with
  |some s=>some s.l
  |none=>none
def KM(id ver:Nat)(e:Ty)(nil:Bool)(l m:List (den e)):Pk:=.dyn Unit (L.f (L.s (L.n l) (L.n m))) (fun _=>(.cR id ver,[(id,.vec e ver false ⟨L.d nil (L.i m),L.app l m⟩)]))
def Q9(t:TypeId):Bool:=match desc C.P t with|some (.slice _)=>true|some .string=>true|_=>false
def Ra(o:Nat->Obj)(fresh:Nat)(t u:TypeId)(x y:V):Pk:=
 match qo C t with
 |none=>.fail
 |some e=>match Oz L o e y with
  |none=>.fail
  |some m=>.when (Q9 C u&&Nat.blt 0 (aN e)) (match x with
   |.eQ=>KM L fresh 0 e true [] m
   |.cR id ver=>match o id with
    |.vec e' aF false s=>match gX (.sl e) (.sl e') s with
     |some s=>.when (Nat.beq ver aF) (KM L id (ver+1) e s.nil s.l m)
     |none=>.fail
    |_=>.fail
   |.pre id ver n cp=>match o id with
    |.vec e' aF fr s=>match gX (.sl e) (.sl e') s with
     |some s=>.when (Nat.beq ver aF) (match cp,fr with
      |false,false=>KM L id (ver+1) e s.nil (L.aO s.l n) m
      |true,_=>.dyn Unit (L.b (L.f (L.s (L.n (L.aO s.l n)) (L.n m))) fun _=>L.c (L.i m) none (some ())) (fun _=>(.cR fresh 0,[(fresh,.vec e 0 false ⟨false,L.app (L.aO s.l n) m⟩)]))
      |_,_=>.fail)
     |none=>.fail
    |_=>.fail
   |_=>.fail)
def bd(d:Int)(h:Option V):Option Int:=match h with
 |none=>some d
 |some v=>match F2 v with
  |some ⟨_,n⟩=>some n
  |none=>none
def OA(t:TypeId):Nat:=match desc C.P t with
 |some .string=>0
 |some (.slice _)=>1
 |some (.array ..)=>2
 |_=>3
def Rb(o:Nat->Obj)(fresh:Nat)(t:TypeId)(x:V)(lo hi mx:Option V):Pk:=
 match x,mx with
 |.d .str l,none=>match bd 0 lo,bd (L.n (α:=Int) l) hi with
  |some a,some b=>.when (Nat.beq (OA C t) 0) (.dyn (List Int) (L.bX l a b) (fun m=>(.d .str m,[])))
  |_,_=>.fail
 |.d (.sl e) s,none=>match bd 0 lo,bd (L.n s.l) hi with
  |some a,some b=>.when (gY e (qo C t)) (.dyn (List (den e)) (L.bX s.l a b) (fun m=>(.d (.sl e) (⟨s.nil,m⟩:Sl (den e)),[])))
  |_,_=>.fail
 |.d (.sl e) s,some _=>match lo,bd 1 hi,bd 1 mx with
  |none,some b,some c=>.when (gY e (qo C t)&&Ou e) (.dyn Unit (L.c (L.e b 0) (L.c (L.e c 0) (some ()) none) none) (fun _=>(.cR fresh 0,[(fresh,.vec e 0 false ⟨s.nil,[]⟩)])))
  |_,_,_=>.fail
 |.cR id ver,some _=>match o id with
  |.vec e aF _ s=>.when (Nat.beq ver aF&&gY e (qo C t)) (match lo,bd (-1) hi,bd (-1) mx with
    |none,some b,some c=>.dyn Nat (L.b (L.eN (L.n s.l) b) fun p=>L.c (L.e b c) (some p) none) (fun p=>(.pre id ver p true,[]))
    |_,_,_=>.fail)
  |_=>.fail
 |.cR id ver,none=>match o id with
  |.vec e aF _ s=>.when (Nat.beq ver aF&&gY e (qo C t)) (match lo with
    |none=>match bd (L.n s.l) hi with
     |some b=>.dyn Nat (L.eN (L.n s.l) b) (fun p=>(.pre id ver p false,[]))
     |none=>.fail
    |some Ct=>match hi with
     |none=>(match bd 0 (some Ct) with
      |some a=>.dyn Nat (L.eN (L.n s.l) a) (fun _=>(.iI id ver a,[]))
      |none=>.fail)
     |some _=>match bd 0 lo,bd (L.n s.l) hi with
     |some a,some b=>.dyn (List (den e)) (L.bX s.l a b) (fun m=>(.d (.sl e) (⟨s.nil,m⟩:Sl (den e)),[(id,.vec e aF true s)]))
     |_,_=>.fail)
  |_=>.fail
 |_,_=>.fail
def Rc(o:Nat->Obj)(t:TypeId)(x i:V):Pk:=
 match F2 i with
 |none=>.fail
 |some ⟨_,n⟩=>match x with
  |.d (.sl e) s=>.when (gY e (qo C t)) (.dyn (den e) (L.g s.l n) (fun y=>(.ref e y,[])))
  |.ref (.arr m e) l=>match KL C t with
   |some (m',e')=>.when (Nat.beq m m'&&gY e (some e')) (.dyn (den e) (L.g l n) (fun y=>(.ref e y,[])))
   |none=>.fail
  |.cR id ver=>match o id with
   |.vec e aF _ s=>.when (Nat.beq ver aF&&gY e (qo C t)) (.dyn Nat (L.cB s.l n) (fun j=>(.lh id ver j [],[])))
   |_=>.fail
  |.pre id ver k _=>match o id with
   |.vec e aF _ s=>.when (Nat.beq ver aF&&gY e (qo C t)) (.dyn Nat (L.cB (L.aO s.l k) n) (fun j=>(.lh id ver j [],[])))
   |_=>.fail
  |.iI id ver lo=>match o id with
   |.vec e aF _ s=>.when (Nat.beq ver aF&&gY e (qo C t)) (.dyn Nat (L.c (L.m 0 n) (L.cB s.l (L.s lo n)) none) (fun j=>(.lh id ver j [],[])))
   |_=>.fail
  |.ptr id 0=>match o id with
   |.vec e 0 _ s=>match KL C t with
    |some (m,e')=>.when (gY e (some e')) (.dyn Nat (L.b (L.eN ((m:Nat):Int) (L.s n 1)) fun _=>L.cB s.l n) (fun j=>(.lh id 0 j [],[])))
    |none=>.fail
   |_=>.fail
  |_=>.fail
def Re(t:TypeId)(x i:V):Pk:=
 match F2 i with
 |none=>.fail
 |some ⟨_,n⟩=>match x with
  |.d .str l=>.when (Nat.beq (OA C t) 0) (.lr (t:=.int .u8) (L.g (α:=Int) l n))
  |.d (.arr m e) l=>match KL C t with
   |some (m',e')=>.when (Nat.beq m m'&&gY e (some e')) (.lr (t:=e) (L.g l n))
   |none=>.fail
  |_=>.fail
def Jl(o:Nat->Obj)(t:TypeId)(x:V)(f:Nat):Pk:=
 match KC C.P t f with
 |none=>.fail
 |some fd=>match wm C.P fd.type with
  |some (_,sz)=>.when (Nat.blt 0 sz) (match x with
   |.ptr id off=>match o id with
    |.box _=>.now (.ptr id (off+fd.offset))
    |_=>.fail
   |.ref t' y=>.when (C.is t t') (match Jb t' f y with
    |some ⟨u,z⟩=>.now (.ref u z)
    |none=>.fail)
   |.lh id ver i path=>match o id with
    |.vec e aF _ _=>match BI path e with
     |some t'=>match t' with
      |.st p=>match pQ p f with
       |some _=>.when (Nat.beq ver aF&&C.is t t') (.now (.lh id ver i (path++[f])))
       |none=>.fail
      |_=>.fail
     |none=>.fail
    |_=>.fail
   |_=>.fail)
  |none=>.fail
def Rf(t:TypeId)(x:V)(f:Nat):Pk:=
 match x with
 |.d t' y=>.when (C.is t t') (match Jb t' f y with
  |some ⟨u,z⟩=>.now (.d u z)
  |none=>.fail)
 |.agg cs=>match KC C.P t f with
  |some fd=>match wm C.P fd.type with
   |some (true,n)=>.when (Nat.ble (fd.offset+n) cs.length) (.now (.agg ((cs.drop fd.offset).take n)))
   |some (false,_)=>match cs[fd.offset]? with
    |some v=>.now v
    |none=>.fail
   |none=>.fail
  |none=>.fail
 |_=>.fail
def ya(e:TypeId):Bool:=match desc C.P e with|some (.int .u8)=>true|_=>false
def Rg(o:Nat->Obj)(fresh:Nat)(s t:TypeId)(x:V):Pk:=
 match desc C.P s with
 |none=>.fail
 |some ds=>match desc C.P t with
  |some (.int k)=>match x with
   |.d (.int _) n=>.now (.d (.int k) (L.j9 k n))
   |_=>.fail
  |some (.float .f64)=>match x with
   |.d (.int _) n=>.now (.d .eP (L.Oc n))
   |_=>.fail
  |some .string=>match x with
   |.d .str l=>.now (.d .str l)
   |v=>match ds with
    |.slice e=>.when (ya C e&&Nat.blt 0 1) (match oq L o (.sl (.int .u8)) v with
     |some s=>.now (.d .str (Sl.l s))
     |none=>.fail)
    |_=>.fail
  |some (.slice e)=>match x with
   |.d .str l=>match ds with
    |.string=>.when (ya C e) (.dyn Unit (L.f (L.n l)) (fun _=>(.cR fresh 0,[(fresh,.vec (.int .u8) 0 false ⟨false,l⟩)])))
    |_=>.fail
   |.cR id ver=>match ds with
    |.slice _=>match o id with
     |.vec (.int .u8) aF false b=>.when (ya C e&&Nat.beq s t&&Nat.beq ver aF) (.dyn Unit (L.c b.nil none (some ())) (fun _=>(.cR id ver,[(id,.vec (.int .u8) ver false b)])))
     |_=>.fail
    |_=>.fail
   |_=>.fail
  |_=>.fail
def OB(t:TypeId):Option (List V):=match C.P.types.toList[t]? with
 |some i=>match i.zero with
  |some z=>some (z.cells.toList.map EX)
  |none=>none
 |none=>none
def OC(o:Nat->Obj)(fs:List Field):List (Nat×V)->List V->Option (List V)
 |[],cs=>some cs
 |p::r,cs=>match fs[p.1]?,KK o p.2 with
  |some fd,some vs=>match wm C.P fd.type with
   |some (_,n)=>bif Nat.beq vs.length n&&Nat.ble (fd.offset+n) cs.length then OC o fs r (Jj cs fd.offset vs) else none
   |none=>none
  |_,_=>none
def EY(o:Nat->Obj)(e:Ty):List (Nat×V)->List (den e)->Option (List (den e))
 |[],l=>some l
 |p::r,l=>match fI L o e p.2 with
  |some x=>bif Nat.blt p.1 l.length then EY o e r (l.set p.1 x) else none
  |none=>none
def xA(o:Nat->Obj):List (Nat×V)->List Nat
 |[]=>[]
 |p::r=>eX o p.2++xA o r
def OD(P:Program):List Field->Bool
 |[]=>true
 |f::r=>match wm P f.type with
  |some _=>OD P r
  |none=>false
def Rh(o:Nat->Obj)(t:TypeId)(parts:List (Nat×V)):Pk:=
 match desc C.P t with
 |some (.struct fs)=>.when (OD C.P fs.toList) (match OB C t with
  |some z=>match OC C o fs.toList parts z with
   |some cs=>.now (Ow L C o t cs)
   |none=>.fail
  |none=>.fail)
 |some (.array n _)=>match C.ty t with
  |some (.arr n' e)=>.when (Nat.beq n n') (match EY L o e parts (List.replicate n (zero e)) with
   |some l=>.now (.d (.arr n' e) l) (dX o (xA o parts))
   |none=>.fail)
  |_=>.fail
 |_=>.fail
def Ri(o:Nat->Obj)(fresh:Nat)(t:TypeId)(n:Nat)(parts:List (Nat×V)):Pk:=
 match qo C t with
 |some e=>.when (Nat.ble (n*aN e) 16777216&&Nat.blt 0 (aN e)) (match EY L o e parts (List.replicate n (zero e)) with
  |some l=>.now (.cR fresh 0) (dX o (xA o parts)++[(fresh,.vec e 0 false ⟨false,l⟩)])
  |none=>.fail)
 |none=>.fail
def yc:Nat->TypeId->List (Option Ty)
 |0,_=>[]
 |n+1,t=>match desc C.P t with
  |some (.struct fs)=>(fs.toList.map fun f=>yc n f.type).flatten
  |some (.slice e)=>[C.ty e]
  |some (.array ..)=>match wm C.P t with
   |some (_,k)=>List.replicate k none
   |none=>[]
  |_=>[none]
def oX(i:Nat):List V->List (Option Ty)->List V×List (Nat×Obj)
 |.eQ::r,some e::s=>let p:=oX (i+1) r s;(.cR i 0::p.1,(i,.vec e 0 false ⟨true,[]⟩)::p.2)
 |v::r,_::s=>let p:=oX i r s;(v::p.1,p.2)
 |l,[]=>(l,[])
 |[],_=>([],[])
def wu:List V->Nat
 |[]=>0
 |.eQ::r=>wu r+1
 |_::r=>wu r
def OE(fresh:Nat)(t:TypeId)(cs:List V):Pk:=
 let p:=bif Nat.ble (wu cs) 14 then oX (fresh+1) cs (yc C 8 t) else(cs,[])
 .when (!pP p.1) (.now (.ptr fresh 0) ((fresh,.box p.1)::p.2))
def Rj(fresh:Nat):List V->Pk
 |[.gU,.eQ]=>.now (.ptr fresh 0) [(fresh,.box [.iH fresh false,.cR (fresh+1) 0]),(fresh+1,.vec (.int .u8) 0 false ⟨true,[]⟩)]
 |_=>.fail
def OF(fresh:Nat):List V->Pk
 |[.gU,.eQ,.d s x,.d t y]=>.when (ly s&&ly t) (.now (.ptr fresh 0) [(fresh,.box [.iH fresh false,.cR (fresh+1) 0,.d s x,.d t y]),(fresh+1,.vec (.int .u8) 0 false ⟨true,[]⟩)])
 |_=>.fail
def Rk(fresh:Nat)(t:TypeId)(b:Bool):Pk->Pk
 |.mw (.agg cs) []=>bif b&&Ov cs&&Nat.ble (wu cs) 15 then .now (.agg (oX fresh cs (yc C 8 t)).1) (oX fresh cs (yc C 8 t)).2 else .now (.agg cs)
 |p=>p
def Rl(fresh:Nat)(t:TypeId):Pk:=
 match C.ty t with
 |some (.arr n e)=>.when (Nat.blt 0 (aN e)&&Nat.ble n 1000000&&Ou e) (.now (.ptr fresh 0) [(fresh,.vec e 0 false ⟨false,List.replicate n (zero e)⟩)])
 |_=>match OB C t with
  |some cs=>bif Nat.beq t C.EW then Rj fresh cs else bif Nat.beq t C.xZ then OF fresh cs else OE C fresh t cs
  |none=>.fail
def Rm(o:Nat->Obj)(fresh:Nat)(t:TypeId)(v:V):Pk:=
 match v with
 |.d (.arr n e) l=>.when (Nat.blt 0 (aN e)&&Nat.ble n 1000000&&Ou e) (.now (.ptr fresh 0) [(fresh,.vec e 0 false ⟨false,l⟩)])
 |v=>match KK o v with
  |some cs=>bif Nat.beq t C.xZ then OF fresh cs else OE C fresh t cs
  |none=>.fail
def KN(fresh:Nat)(t:TypeId)(v:V):Pk:=
 match v with
 |.eQ=>match qo C t with
  |some e=>.now (.cR fresh 0) [(fresh,.vec e 0 false ⟨true,[]⟩)]
  |none=>.now .eQ
 |v=>.now v
def Rn(x:Bool)(a b:V):V:=
 match a,b with
 |.d t a',.d t' b'=>match gX t t' b' with
  |some b'=>.d t (L.Ob x a' b')
  |none=>bif x then a else b
 |_,_=>bif x then a else b
def KO(t:TypeId):Option (Ty×Ty):=match desc C.P t with
 |some (.map k v)=>match C.ty k,C.ty v with
  |some k,some v=>some (k,v)
  |_,_=>none
 |_=>none
def KP(t:TypeId)(tk tv:Ty):Bool:=match KO C t with
 |some (k,v)=>gY tk (some k)&&gY tv (some v)&&EV tk
 |none=>false
def Ro(o:Nat->Obj)(t:TypeId)(m k:V)(ok:Bool):Pk:=
 match m with
 |.mp id=>match o id with
  |.map tk tv m=>match fI L o tk k with
   |some k=>.when (KP C t tk tv) (.now (bif ok then .gV [.d tv (L.nw (fB L tk) k m (zero tv)),.d .bool (L.wh (fB L tk) k m)]
     else .d tv (L.nw (fB L tk) k m (zero tv))))
   |none=>.fail
  |_=>.fail
 |.jR=>match KO C t with
  |some (tk,tv)=>match fI L o tk k with
   |some _=>.when (EV tk) (.now (bif ok then .gV [.d tv (zero tv),.d .bool false] else .d tv (zero tv)))
   |none=>.fail
  |none=>.fail
 |_=>.fail
def Rp(o:Nat->Obj)(t:TypeId)(m k v:V):Pk:=
 match m with
 |.mp id=>match o id with
  |.map tk tv m=>match fI L o tk k,fI L o tv v with
   |some k,some x=>.when (KP C t tk tv&&(eX o v).isEmpty) (.now .undef [(id,.map tk tv (L.la (fB L tk) k x m))])
   |_,_=>.fail
  |_=>.fail
 |_=>.fail
def Rq(fresh:Nat)(t:TypeId):Pk:=match KO C t with
 |some (tk,tv)=>.when (EV tk) (.now (.mp fresh) [(fresh,.map tk tv [])])
 |none=>.fail
def Rr(fresh:Nat)(t:TypeId)(l c:V):Pk:=
 match qo C t,F2 l,F2 c with
 |some e,some ⟨_,n⟩,some ⟨_,m⟩=>.when (Nat.blt 0 (aN e)) (.dyn Nat (L.sS n m) (fun k=>(.cR fresh 0,[(fresh,.vec e 0 false ⟨false,L.rep k (zero e)⟩)])))
 |_,_,_=>.fail
def uU:Ty->Bool
 |.sl _=>true
 |.pair a b=>uU a||uU b
 |.st p=>uU p
 |.arr _ e=>uU e
 |.ks _=>true
 |.eP=>true
 |.fl=>true
 |_=>false
mutual
def KQ:Sh->Bool
 |.d t=>uU t
 |.fa _=>true
 |.ref _=>true
 |.rr _=>true
 |.fn _ l=>xB l
 |.gV l=>xB l
 |.agg l=>xB l
 |_=>false
def xB:List Sh->Bool
 |[]=>false
 |s::l=>KQ s||xB l
end
def tm:List fO->Bool
 |[]=>false
 |.box l::r=>xB l||tm r
 |.vec t::r=>uU t||tm r
 |.map k v::r=>uU k||uU v||tm r
 |.gone::r=>tm r
 |.iter::r=>tm r
def nc(s:Shape):Bool:=xB s.roots||tm s.aB
def OG(o:Nat->Obj):List Nat->Bool
 |[]=>true
 |id::r=>(match o id with|.box _=>false|.map _ _ _=>false|.iter _ _=>false|_=>true)&&OG o r
def BL(bJ:List Nat):Nat->Nat->List fO->Bool
 |0,_,_=>true
 |n+1,i,.gone::r=>BJ i bJ&&BL bJ n (i+1) r
 |n+1,i,_::r=>bM i bJ&&BL bJ n (i+1) r
 |_+1,_,[]=>false
variable (R:gF C.sigs)
def OH(o:Nat->Obj)(aS:List (Nat×Nat)):Nat->Bool
 |0=>true
 |n+1=>(match iJ n aS with
  |some cE=>(match o cE with|.none=>false|_=>true)
  |none=>false)&&OH o aS n
def OI(ps:PS):List Nat->Bool
 |[]=>true
 |i::r=>KE (iJ ((iJ i ps.aS).getD 0) ps.cut)&&OI ps r
def OJ(o:Nat->Obj)(ps:PS)(k:Nat)(outs:Shape)(bJ:List Nat):Bool:=OI ps bJ&&BL bJ k 0 outs.aB&&(OG o ps.cj||!(nc outs))&&OH o ps.aS k&&Nat.ble outs.aB.length (k+16)
def BM(aS:List (Nat×Nat))(k fresh:Nat):Nat->Nat:=fun id=>bif Nat.blt id k then(iJ id aS).getD 0 else fresh+(id-k)
def z6g:Obj->Nat
 |.vec _ ver _ _=>ver
 |_=>0
def Cu(o:Nat->Obj)(aS:List (Nat×Nat))(k:Nat)(bJ:List Nat):Nat->Nat:=fun id=>bif Nat.blt id k&&bM id bJ then z6g (o ((iJ id aS).getD 0)) else 0
def lz:List V->V
 |[v]=>v
 |vs=>.gV vs
def iK(s:Shape):Bool:=match s.roots with
 |.bP::_=>true
 |_=>false
def Rs(a b:Bool):Bool:=bif a then b else !b
def xC(p:Bool)(o:Nat->Obj)(fresh:Nat)(f:Nat)(args:List V):List mZ->Nat->Pk
 |[],_=>.fail
 |s::r,i=>bif Nat.beq s.f f then match pack L o [] (aK C.sigs i).ins args with
   |some (ps,c)=>.when (Nat.beq (aK C.sigs i).f f&&OJ o ps (aK C.sigs i).ins.aB.length (aK C.sigs i).outs (aK C.sigs i).bJ&&Rs p (iK (aK C.sigs i).outs))
    (.dyn (ai (aK C.sigs i).outs.aW) (R i c) (fun y=>
     (lz (fill (BM ps.aS (aK C.sigs i).ins.aB.length fresh) (Cu o ps.aS (aK C.sigs i).ins.aB.length (aK C.sigs i).bJ) (aK C.sigs i).outs y).1,
      (bif nc (aK C.sigs i).outs then dX o ps.cj else [])++(fill (BM ps.aS (aK C.sigs i).ins.aB.length fresh) (Cu o ps.aS (aK C.sigs i).ins.aB.length (aK C.sigs i).bJ) (aK C.sigs i).outs y).2)))
   |none=>xC p o fresh f args r (i+1)
  else xC p o fresh f args r (i+1)
def faX:Pk->Option (Option Bool)
 |.dyn _ x out=>some (L.b x fun y=>match out y with
  |(.d .bool b,[])=>some b
  |_=>none)
 |_=>none
def KR(o:Nat->Obj)(fresh:Nat)(k n:Int)(args:List V):List (Nat×Bool)->Nat->Option (Option Bool)
 |[],_=>some none
 |(f,c)::r,i=>match faX L (xC L C R false o fresh f (args++bif c then [.ref (.int .i64) n] else []) C.sigs 0) with
  |some x=>match KR o fresh k n args r (i+1) with
   |some y=>some (L.c (L.e k (Int.ofNat i)) x y)
   |none=>none
  |none=>none
def Rt(o:Nat->Obj)(t:TypeId)(x y:V):Pk:=
 match x with
 |.cR id ver=>match o id with
  |.vec e aF false s=>match Oz L o e y with
   |some m=>.when (Nat.beq ver aF&&gY e (qo C t)) (.now (.d (.int .i64) (L.kl (L.n s.l) (L.n m))) [(id,.vec e ver false ⟨s.nil,L.qG s.l m⟩)])
   |none=>.fail
  |_=>.fail
 |_=>.fail
def Ru(o:Nat->Obj)(t:TypeId)(m k:V):Pk:=
 match m with
 |.mp id=>match o id with
  |.map tk tv m=>match fI L o tk k with
   |some k=>.when (KP C t tk tv) (.now (.gV []) [(id,.map tk tv (L.lg (fB L tk) k m))])
   |none=>.fail
  |_=>.fail
 |_=>.fail
def Rv(o:Nat->Obj)(t:TypeId)(x:V):Pk:=
 match x with
 |.iI id ver lo=>match o id with
  |.vec e aF false s=>.when (Nat.beq ver aF&&gY e (qo C t)) (.now (.gV []) [(id,.vec e ver false ⟨s.nil,L.iG s.l lo (zero e)⟩)])
  |_=>.fail
 |_=>.fail
def qkj(o:Nat->Obj)(fresh:Nat)(b:Builtin)(ts:List TypeId)(args:List V):Pk:=
 match b,ts,args with
 |.len,t::_,[x]=>Q8 L C o t x
 |.append,t::u::_,[x,y]=>Ra L C o fresh t u x y
 |.copy,t::_,[x,y]=>Rt L C o t x y
 |.clear,t::_,[x]=>Rv L C o t x
 |.delete,t::_,[m,k]=>Ru L C o t m k
 |.min,_,[.d (.int k) a,.d (.int k') b]=>.when (Nat.beq (tl k) (tl k')) (.now (.d (.int k) (L.kl a b)))
 |.max,_,[.d (.int k) a,.d (.int k') b]=>.when (Nat.beq (tl k) (tl k')) (.now (.d (.int k) (L.jQ a b)))
 |.complex,_,[.d .eP a,.d .eP b]=>.now (.d .fl ((a:Nat),(b:Nat)))
 |.real,_,[.d .fl a]=>.now (.d .eP (Prod.fst (α:=Nat) (β:=Nat) a))
 |.imag,_,[.d .fl a]=>.now (.d .eP (Prod.snd (α:=Nat) (β:=Nat) a))
 |_,_,_=>.fail
def Rw(fresh:Nat)(t:TypeId)(x:V):Pk:=match desc C.P t with
 |some .string=>match x with
  |.d .str l=>.now (.it fresh) [(fresh,.iter l 0)]
  |_=>.fail
 |_=>.fail
def Rx(o:Nat->Obj)(x:V):Pk:=match x with
 |.it id=>match o id with
  |.iter l p=>.now (.Oe (L.l p (L.n l)) p (L.fA l p)) [(id,.iter l (L.gN l p))]
  |_=>.fail
 |_=>.fail
def Ry(i:Nat):V->Pk
 |.gV vs=>match vs[i]? with
  |some v=>.now v
  |none=>.fail
 |.Oe b p c=>match i with
  |0=>.now (.d .bool b)
  |1=>.lr (t:=.int .i64) (L.c b (some p) none)
  |2=>.lr (t:=.int .i32) (L.c b (some c) none)
  |_=>.fail
 |_=>.fail
def Rz(t:TypeId):Pk:=match desc C.P t with
 |some (.interface _)=>.fail
 |some _=>.now .Of
 |none=>.fail
def F3:IntKind->Int
 |.u8=>255|.u16=>65535|.u32=>4294967295|.u64=>18446744073709551615|_=>-1
def Jm(o:Nat->Obj)(v:V):Pk:=
 match v with
 |.ptr _ _=>.when (sure o v) (.now v)
 |.ref _ _=>.now v
 |.lh id ver _ _=>match o id with
  |.vec _ aF _ _=>.when (Nat.beq ver aF) (.now v)
  |_=>.fail
 |.fn _ _=>.now v
 |_=>.fail
def df(env:Nat->V)(o:Nat->Obj)(fresh:Nat)(t:TypeId):Op->Pk
 |.move x=>KN C fresh t (bZ C env x)
 |.assign x=>KN C fresh t (bZ C env x)
 |.pick c a b=>match Cs C env c with
  |.lb x=>.now (bif x then bZ C env a else bZ C env b)
  |.d .bool x=>.now (Rn L x (bZ C env a) (bZ C env b))
  |_=>.fail
 |.alloc e=>Rl C fresh e
 |.box e x=>Rm C o fresh e (bZ C env x)
 |.build t ps=>Rk C fresh t (!(Nat.beq t C.xZ)) (Rh L C o t (ps.toList.map fun p=>(p.1,bZ C env p.2)))
 |.buildSlice t n ps=>Ri L C o fresh t n (ps.toList.map fun p=>(p.1,bZ C env p.2))
 |.load t a=>Ox L C o t (bZ C env a)
 |.store t a v=>Oy L C o t (bZ C env a) (bZ C env v)
 |.nilCheck x=>Jm o (bZ C env x)
 |.binOp op t x y _=>Jk L C o op t (bZ C env x) (bZ C env y)
 |.unOp .not _ x=>match bZ C env x with
  |.d .bool x=>.now (.d .bool (L.t x))
  |_=>.fail
 |.unOp .xor _ x=>match bZ C env x with
  |.d (.int k) n=>.now (.d (.int k) (L.nu k (F3 k) n))
  |_=>.fail
 |.unOp .neg _ x=>match bZ C env x with
  |.d (.int k) n=>.now (.d (.int k) (L.u k 0 n))
  |_=>.fail
 |.convert s d x=>Rg L C o fresh s d (bZ C env x)
 |.makeFunc (.func f) first caps=>.when (Nat.blt f 1048576) (.now (.fn (f+1048576*first.toList.length) (first.toList.map (bZ C env)++caps.toList.map (bZ C env))))
 |.makeSlice t l c=>Rr L C fresh t (bZ C env l) (bZ C env c)
 |.slice t x lo hi mx=>Rb L C o fresh t (bZ C env x) (lo.map (bZ C env)) (hi.map (bZ C env)) (mx.map (bZ C env))
 |.fieldAddr t x f=>Jl C o t (bZ C env x) f
 |.field t x f=>Rf C t (bZ C env x) f
 |.indexAddr t x i=>Rc L C o t (bZ C env x) (bZ C env i)
 |.index t x i=>Re L C t (bZ C env x) (bZ C env i)
 |.makeInterface t _=>Rz C t
 |.makeMap t none=>Rq C fresh t
 |.lookup t x k ok=>Ro L C o t (bZ C env x) (bZ C env k) ok
 |.mapUpdate t m k x=>Rp L C o t (bZ C env m) (bZ C env k) (bZ C env x)
 |.extract x i=>Ry L i (bZ C env x)
 |.range t x=>Rw C fresh t (bZ C env x)
 |.next x true=>Rx L o (bZ C env x)
 |.call c=>match c.callee with
  |.builtin b=>qkj L C o fresh b c.argTypes.toList (c.args.toList.map (bZ C env))
  |.value f=>match bZ C env f with
   |.fn f caps=>xC L C R false o fresh (f % 1048576) (caps.take (f / 1048576)++(c.args.toList.map (bZ C env)++caps.drop (f / 1048576))) C.sigs 0
   |.fa a k n=>match KR L C R o fresh k n (c.args.toList.map (bZ C env)) a 0 with
    |some x=>.dyn Bool x (fun b=>(.d .bool b,[]))
    |none=>.fail
   |_=>.fail
  |_=>.fail
 |_=>.fail
end
end Ev