/- The evaluator: leaves, types, values, shapes, operations. No statement of its own about the program. -/
import GoSem.Core.Code
import GoSem.Core.Program
import GoSem.Core.View
import GoSem.Core.Utf8
import GoSem.Core.Float
namespace Ev
theorem om{p:Prop}(h:p:=by omega):p:=h
theorem dc{p:Prop}(h:p:=by decide):p:=h
abbrev zd:=@Bool.and_eq_true
abbrev ze:=@List.getElem?_eq_getElem
abbrev zf:=@List.mem_cons_self
abbrev zg:=@Nat.eq_of_beq_eq_true
abbrev zh:=@List.mem_cons_of_mem
abbrev zj:=@List.mem_of_getElem?
abbrev zm:=@List.length_append
abbrev zn:=@decide_eq_false
abbrev zt:=@List.mem_cons
abbrev zu:=@decide_eq_true
abbrev zw:=@List.length_cons
abbrev zA:=@List.map_append
abbrev zB:=@List.getElem?_eq_some_iff
abbrev zC:=@List.length_map
abbrev zD:=@List.append_assoc
abbrev zE:=@List.append_nil
abbrev zF:=@Nat.le_of_ble_eq_true
abbrev zG:=@Array.getElem?_toList
abbrev zH:=@Option.some.injEq
abbrev zI:=@Option.some.inj
abbrev zJ:=@List.length_take
abbrev zK:=@Classical.byContradiction
abbrev zL:=@Nat.zero_add
abbrev zM:=@List.map_cons
abbrev zN:=@List.drop_eq_nil_of_le
abbrev zO:=@List.all_eq_true
abbrev zP:=@of_decide_eq_true
abbrev zQ:=@List.eq_nil_of_length_eq_zero
abbrev zR:=@List.getElem?_append_right
abbrev zS:=@List.mem_singleton
abbrev zT:=@List.length_drop
abbrev zU:=@List.mem_append
abbrev zV:=@List.getElem?_map
abbrev zW:=@List.mem_map
abbrev zX:=@Array.getElem?_eq_none
abbrev zY:=@List.map_congr_left
abbrev zZ:=@List.getElem?_append_left
abbrev ja:=@List.map_map
abbrev jc:=@List.take_of_length_le
abbrev jf:=@List.mem_of_find?_eq_some
abbrev jl:=@List.any_eq_true
abbrev jx:=@List.getElem?_eq_none
abbrev jA:=@List.mem_iff_getElem
abbrev jB:=@List.mem_filterMap
open Go
structure Sl (α:Type) where
 nil:Bool
 l:List α
def ag{α β:Type}(x:Option α)(f:α->Option β):Option β:=match x with|some a=>f a|none=>none
def aq{α:Type}(x:Bool)(a b:Option α):Option α:=match x with|true=>a|false=>b
def M9{α:Type}(x:Bool)(a b:α):α:=match x with|true=>a|false=>b
def eO{α β:Type}(f:α->Option β)(y:α⊕β):Option β:=match y with|.inl a=>f a|.inr b=>some b
def av(a:Bool):Bool:=!a
def aP(a b:Bool):Bool:=a&&b
def aJ{α:Type}(l:List α)(i:Int):Option α:=if 0<=i then l[i.toNat]? else none
def bZ{α:Type}(l:List α)(i:Int):Option Nat:=if 0<=i/\i<l.length then some i.toNat else none
def bG{α:Type}(l:List α)(lo hi:Int):Option (List α):=if 0<=lo/\lo<=hi/\hi<=l.length then some ((l.take hi.toNat).drop lo.toNat) else none
def eC(n:Int)(hi:Int):Option Nat:=if 0<=hi/\hi<=n then some hi.toNat else none
def fit(n:Int):Option Unit:=if n<=2147483648 then some () else none
def rn(n m:Int):Option Nat:=if 0<=n/\n<=m/\m<=2147483648 then some n.toNat else none
def wH(k:IntKind)(a b:Int):Option Int:=if b=0 then none else some (k.wrap (a.tdiv b))
def fW(a b:Int):Option Int:=if b=0 then none else some (a.tmod b)
def oh(k:IntKind)(a b:Int):Option Int:=if b<0 then none else some (k.wrap (a*2 ^ min b.toNat k.bits))
def oi(k:IntKind)(a b:Int):Option Int:=if b<0 then none else some (a.fdiv (2 ^ min b.toNat k.bits))
def ar(k:IntKind)(a b:Int):Int:=k.wrap (a+b)
def dK(k:IntKind)(a b:Int):Int:=k.wrap (a-b)
def oo(k:IntKind)(a b:Int):Int:=k.wrap (a*b)
def iZ(k:IntKind)(a:Int):Int:=k.wrap a
def pq(k:IntKind)(a b:Int):Int:=k.wrap (BitVec.ofInt k.bits a&&&BitVec.ofInt k.bits b).toNat
def DM(k:IntKind)(a b:Int):Int:=k.wrap (BitVec.ofInt k.bits a|||BitVec.ofInt k.bits b).toNat
def lJ(k:IntKind)(a b:Int):Int:=k.wrap (BitVec.ofInt k.bits a ^^^ BitVec.ofInt k.bits b).toNat
def jC(k:IntKind)(a b:Int):Int:=k.wrap (BitVec.ofInt k.bits a&&&~~~BitVec.ofInt k.bits b).toNat
def aB(a b:Int):Bool:=decide (a<b)
def a8(a b:Int):Bool:=decide (a<=b)
def af(a b:Int):Bool:=a==b
def fh(a b:Bool):Bool:=a==b
def aS(a b:List Int):Bool:=a==b
def EC(a b:List Int):List Int:=a++b
def jD(a b:Int):Int:=if b<a then b else a
def iO(a b:Int):Int:=if a<b then b else a
def aK(a b:Int):Int:=a+b
def aa{α:Type}(l:List α):Int:=(l.length:Int)
def app{α:Type}(l m:List α):List α:=l++m
def rep{α:Type}(n:Nat)(x:α):List α:=List.replicate n x
def nth{α:Type}(l:List α)(n:Nat):Option α:=l[n]?
def eP{α:Type}(l:List α)(n:Nat)(x:α):List α:=l.set n x
def aN{α:Type}(l:List α)(n:Nat):List α:=l.take n
def cJ{α:Type}(l:List α)(n:Int):List α:=l.drop n.toNat
def gK{α:Type}(l:List α)(n:Int)(z:α):List α:=l.take n.toNat++List.replicate (l.length-n.toNat) z
def pr{α:Type}(l m:List α):List α:=m.take l.length++l.drop m.length
def cR{α:Type}(l:List α):Bool:=l.isEmpty
def strLt:List Int->List Int->Bool
 |_,[]=>false
 |[],_::_=>true
 |a::x,b::y=>decide (a<b)||(decide (a=b)&&strLt x y)
def j5{κ ν:Type}(eq:κ->κ->Bool)(k:κ):List (κ×ν)->Option ν
 |[]=>none
 |(k',v)::m=>bif eq k k' then some v else j5 eq k m
def lK{κ ν:Type}(eq:κ->κ->Bool)(k:κ)(m:List (κ×ν))(z:ν):ν:=(j5 eq k m).getD z
def uR{κ ν:Type}(eq:κ->κ->Bool)(k:κ)(m:List (κ×ν)):Bool:=(j5 eq k m).isSome
def j6{κ ν:Type}(eq:κ->κ->Bool)(k:κ)(v:ν):List (κ×ν)->List (κ×ν)
 |[]=>[(k,v)]
 |(k',v')::m=>bif eq k k' then(k,v)::m else(k',v')::j6 eq k v m
def j7{κ ν:Type}(eq:κ->κ->Bool)(k:κ):List (κ×ν)->List (κ×ν)
 |[]=>[]
 |(k',v')::m=>bif eq k k' then m else(k',v')::j7 eq k m
def wh(l:List Int):ByteArray:=⟨(l.map fun b=>UInt8.ofNat b.toNat).toArray⟩
def fm(l:List Int)(p:Int):Int:=((Utf8.decode (wh l) p.toNat).1:Int)
def fQ(l:List Int)(p:Int):Int:=if p<l.length then p+((Utf8.decode (wh l) p.toNat).2:Int) else p
def uS(a b:Nat):Option Nat:=Ieee.double.add a b
def Jv(a b:Nat):Bool:=(Ieee.double.order a b==some .lt)||(Ieee.double.order a b==some .eq)
def Na(n:Int):Nat:=FloatKind.nearest .f64 n
def lh{σ ρ:Type}(f:σ->Option (σ⊕ρ)):Nat->σ->Option ρ
 |0,_=>none
 |n+1,s=>match f s with
  |some (.inl s')=>lh f n s'
  |some (.inr r)=>some r
  |none=>none
open Classical in
noncomputable def aG{σ ρ:Type}(f:σ->Option (σ⊕ρ))(s:σ):Option ρ:=if h:∃r n,lh f n s=some r then some (Classical.choose h) else none
structure Lf:Type 1 where
 b:{α β:Type}->Option α->(α->Option β)->Option β
 c:{α:Type}->Bool->Option α->Option α->Option α
 M9:{α:Type}->Bool->α->α->α
 eO:{α β:Type}->(α->Option β)->α⊕β->Option β
 t:Bool->Bool
 d:Bool->Bool->Bool
 g:{α:Type}->List α->Int->Option α
 bZ:{α:Type}->List α->Int->Option Nat
 bG:{α:Type}->List α->Int->Int->Option (List α)
 eC:Int->Int->Option Nat
 f:Int->Option Unit
 rn:Int->Int->Option Nat
 wH:IntKind->Int->Int->Option Int
 fW:Int->Int->Option Int
 oh:IntKind->Int->Int->Option Int
 oi:IntKind->Int->Int->Option Int
 a:IntKind->Int->Int->Int
 u:IntKind->Int->Int->Int
 oo:IntKind->Int->Int->Int
 iZ:IntKind->Int->Int
 pq:IntKind->Int->Int->Int
 DM:IntKind->Int->Int->Int
 lJ:IntKind->Int->Int->Int
 jC:IntKind->Int->Int->Int
 l:Int->Int->Bool
 m:Int->Int->Bool
 e:Int->Int->Bool
 fh:Bool->Bool->Bool
 h:List Int->List Int->Bool
 q:List Int->List Int->List Int
 jD:Int->Int->Int
 iO:Int->Int->Int
 s:Int->Int->Int
 n:{α:Type}->List α->Int
 app:{α:Type}->List α->List α->List α
 rep:{α:Type}->Nat->α->List α
 nth:{α:Type}->List α->Nat->Option α
 eP:{α:Type}->List α->Nat->α->List α
 aN:{α:Type}->List α->Nat->List α
 cJ:{α:Type}->List α->Int->List α
 gK:{α:Type}->List α->Int->α->List α
 pr:{α:Type}->List α->List α->List α
 i:{α:Type}->List α->Bool
 strLt:List Int->List Int->Bool
 lK:{κ ν:Type}->(κ->κ->Bool)->κ->List (κ×ν)->ν->ν
 uR:{κ ν:Type}->(κ->κ->Bool)->κ->List (κ×ν)->Bool
 j6:{κ ν:Type}->(κ->κ->Bool)->κ->ν->List (κ×ν)->List (κ×ν)
 j7:{κ ν:Type}->(κ->κ->Bool)->κ->List (κ×ν)->List (κ×ν)
 o:{σ ρ:Type}->(σ->Option (σ⊕ρ))->σ->Option ρ
 uS:Nat->Nat->Option Nat
 Jv:Nat->Nat->Bool
 Na:Int->Nat
 fm:List Int->Int->Int
 fQ:List Int->Int->Int
noncomputable def lf:Lf where
 b:=@ag
 c:=@aq
 M9:=@M9
 eO:=@eO
 t:=av
 d:=aP
 g:=@aJ
 bZ:=@bZ
 bG:=@bG
 eC:=eC
 f:=fit
 rn:=rn
 wH:=wH
 fW:=fW
 oh:=oh
 oi:=oi
 a:=ar
 u:=dK
 oo:=oo
 iZ:=iZ
 pq:=pq
 DM:=DM
 lJ:=lJ
 jC:=jC
 l:=aB
 m:=a8
 e:=af
 fh:=fh
 h:=aS
 q:=EC
 jD:=jD
 iO:=iO
 s:=aK
 n:=@aa
 app:=@app
 rep:=@rep
 nth:=@nth
 eP:=@eP
 aN:=@aN
 cJ:=@cJ
 gK:=@gK
 pr:=@pr
 i:=@cR
 strLt:=strLt
 lK:=@lK
 uR:=@uR
 j6:=@j6
 j7:=@j7
 o:=@aG
 uS:=uS
 Jv:=Jv
 Na:=Na
 fm:=fm
 fQ:=fQ
inductive Ty where
 |int (k:IntKind)|bool|str|sl (e:Ty)|unit|pair (a b:Ty)|st (p:Ty)|arr (n:Nat) (e:Ty)
 |ks (p:Ty)
 |eD|eU
 deriving DecidableEq
inductive fF (α:Type) where
 |node (x:α) (nl:Bool) (ks:List (fF α))
def fF.x{α:Type}:fF α->α
 |.node x _ _=>x
def fF.s{α:Type}:fF α->Sl (fF α)
 |.node _ nl ks=>⟨nl,ks⟩
abbrev den:Ty->Type
 |.int _=>Int
 |.bool=>Bool
 |.eD=>Nat
 |.eU=>Nat×Nat
 |.str=>List Int
 |.sl e=>Sl (den e)
 |.unit=>Unit
 |.pair a b=>den a×den b
 |.st p=>den p
 |.arr _ e=>List (den e)
 |.ks p=>Sl (fF (den p))
def aM:Ty->Nat
 |.unit=>0
 |.pair a b=>aM a+aM b
 |.st p=>aM p
 |.arr n e=>n*aM e
 |_=>1
def zero:(t:Ty)->den t
 |.int _=>(0:Int)
 |.bool=>false
 |.eD=>(0:Nat)
 |.eU=>((0:Nat),(0:Nat))
 |.str=>([]:List Int)
 |.sl e=>(⟨true,[]⟩:Sl (den e))
 |.unit=>()
 |.pair a b=>(zero a,zero b)
 |.st p=>zero p
 |.arr n e=>List.replicate n (zero e)
 |.ks p=>(⟨true,[]⟩:Sl (fF (den p)))
def ED:Ty->Ty->Ty
 |.pair a b,k=>.pair a (ED b k)
 |t,k=>.pair t k
def DN:(p k:Ty)->den p->den k->den (ED p k)
 |.pair _ b,k,x,y=>(x.1,DN b k x.2 y)
 |.int _,_,x,y=>(x,y)
 |.bool,_,x,y=>(x,y)
 |.eD,_,x,y=>(x,y)
 |.eU,_,x,y=>(x,y)
 |.str,_,x,y=>(x,y)
 |.sl _,_,x,y=>(x,y)
 |.unit,_,x,y=>(x,y)
 |.st _,_,x,y=>(x,y)
 |.arr _ _,_,x,y=>(x,y)
 |.ks _,_,x,y=>(x,y)
def Nb:(p k:Ty)->den (ED p k)->den p
 |.pair _ b,k,z=>(z.1,Nb b k z.2)
 |.int _,_,z=>z.1
 |.bool,_,z=>z.1
 |.eD,_,z=>z.1
 |.eU,_,z=>z.1
 |.str,_,z=>z.1
 |.sl _,_,z=>z.1
 |.unit,_,z=>z.1
 |.st _,_,z=>z.1
 |.arr _ _,_,z=>z.1
 |.ks _,_,z=>z.1
def Jw:(p k:Ty)->den (ED p k)->den k
 |.pair _ b,k,z=>Jw b k z.2
 |.int _,_,z=>z.2
 |.bool,_,z=>z.2
 |.eD,_,z=>z.2
 |.eU,_,z=>z.2
 |.str,_,z=>z.2
 |.sl _,_,z=>z.2
 |.unit,_,z=>z.2
 |.st _,_,z=>z.2
 |.arr _ _,_,z=>z.2
 |.ks _,_,z=>z.2
abbrev mH(p:Ty):Ty:=.st (ED p (.ks p))
def A3(p:Ty)(s:Sl (fF (den p))):den (.sl (mH p)):=(⟨s.nil,s.l.map fun r=>DN p (.ks p) r.x r.s⟩:Sl (den (mH p)))
def H8(p:Ty)(s:Sl (den (mH p))):Sl (fF (den p)):=⟨s.nil,s.l.map fun z=>.node (Nb p (.ks p) z) (Jw p (.ks p) z).nil (Jw p (.ks p) z).l⟩
inductive V:Type where
 |d (t:Ty) (x:den t)
 |cK (id ver:Nat)
 |pre (id ver:Nat) (n:Nat) (aa3:Bool)
 |ptr (id off:Nat)
 |j8 (id ver:Nat) (i:Nat) (path:List Nat)
 |ref (t:Ty) (x:den t)
 |fX
 |fn (f:Nat) (caps:List V)
 |fG
 |fY (vs:List V)
 |agg (cs:List V)
 |mp (id:Nat)
 |iP
 |j9
 |eE
 |lb (b:Bool)
 |undef
 |bM
 |gM (id:Nat) (b:Bool)
 |gN (id ver:Nat) (lo:Int)
 |it (id:Nat)
 |Nc (b:Bool) (p c:Int)
 |fa (a:List (Nat×Bool)) (k n:Int)
 |rr (t:Ty) (x:den t)
 |Nd
inductive Obj:Type where
 |box (cs:List V)
 |vec (t:Ty) (ver:Nat) (fr:Bool) (s:Sl (den t))
 |map (k v:Ty) (m:List (den k×den v))
 |dead
 |none
 |iter (s:List Int) (p:Int)
structure St:Type where
 env:Nat->V
 obj:Nat->Obj
def dx:V->V
 |.lb b=>.d .bool b
 |v=>v
def cP{α:Type}(f:Nat->α)(i:Nat)(x:α):Nat->α:=fun j=>bif Nat.beq j i then x else f j
def ak{α:Type}(f:Nat->α):List (Nat×α)->Nat->α
 |[]=>f
 |(i,x)::r=>ak (cP f i x) r
def fZ(t:Ty):(t':Ty)->den t'->Option (den t):=fun t' x=>
 match decEq t' t with
 |isTrue h=>some (h▸x)
 |isFalse _=>none
section
variable (L:Lf)
def iQ(o:Nat->Obj)(t:Ty):V->Option (den t)
 |.d t' x=>fZ t t' x
 |.cK id ver=>match o id with
  |.vec e aE _ s=>bif Nat.beq ver aE then fZ t (.sl e) s else none
  |_=>none
 |.pre id ver n _=>match o id with
  |.vec e aE _ s=>bif Nat.beq ver aE then fZ t (.sl e) (⟨s.nil,L.aN s.l n⟩:Sl (den e)) else none
  |_=>none
 |.eE=>match t with
  |.sl e=>some (⟨true,[]⟩:Sl (den e))
  |_=>none
 |.gN id ver lo=>match o id with
  |.vec e aE _ s=>bif Nat.beq ver aE then fZ t (.sl e) (⟨s.nil,L.cJ s.l lo⟩:Sl (den e)) else none
  |_=>none
 |_=>none
def H9(o:Nat->Obj):(t:Ty)->V->Option (den t)
 |.ks p,v=>match iQ L o (.sl (mH p)) v with
  |some s=>some (H8 p s)
  |none=>none
 |_,_=>none
def mW(o:Nat->Obj)(t:Ty)(v:V):Option (den t):=match iQ L o t v with
 |some x=>some x
 |none=>H9 L o t v
def iB:(t:Ty)->den t->List V
 |.unit,_=>[]
 |.pair a b,x=>iB a x.1++iB b x.2
 |.st p,x=>iB p x
 |.ks p,x=>[.d (.sl (mH p)) (A3 p x)]
 |t,x=>[.d t x]
def lL(o:Nat->Obj):(t:Ty)->List V->Option (den t×List V)
 |.unit,cs=>some ((),cs)
 |.pair a b,cs=>match lL o a cs with
  |some (x,r)=>match lL o b r with
   |some (y,r')=>some ((x,y),r')
   |none=>none
  |none=>none
 |.st p,cs=>lL o p cs
 |.arr _ _,_=>none
 |t,c::r=>match mW L o t c with
  |some x=>some (x,r)
  |none=>none
 |_,[]=>none
def ft(o:Nat->Obj)(t:Ty)(v:V):Option (den t):=
 match v with
 |.agg cs=>match t with
  |.st p=>match lL L o p cs with
   |some (x,[])=>some x
   |_=>none
  |_=>none
 |v=>mW L o t v
end
def desc(P:Program)(t:TypeId):Option TypeDesc:=
 match P.types.toList[t]? with
 |some i=>match i.desc with
  |.named _ u=>match P.types.toList[u]? with
   |some j=>some j.desc
   |none=>none
  |d=>some d
 |none=>none
def size(P:Program)(t:TypeId):Nat:=match P.types.toList[t]? with|some i=>i.size|none=>0
def Jy(P:Program)(t:TypeId)(f:Nat):Option Field:=
 match desc P t with
 |some (.struct fs)=>fs.toList[f]?
 |_=>none
def Ia:(p:Ty)->Nat->den p->Option ((t:Ty)×den t)
 |.pair a _,0,x=>some ⟨a,x.1⟩
 |.pair _ b,n+1,x=>Ia b n x.2
 |.unit,_,_=>none
 |.ks p,0,x=>some ⟨.sl (mH p),A3 p x⟩
 |t,0,x=>some ⟨t,x⟩
 |_,_+1,_=>none
def Ib:(t:Ty)->Nat->den t->Option ((t:Ty)×den t)
 |.st p,n,x=>Ia p n x
 |_,_,_=>none
def Nf:(path:List Nat)->(t:Ty)->den t->Option ((t:Ty)×den t)
 |[],t,x=>some ⟨t,x⟩
 |f::r,t,x=>match Ib t f x with
  |some ⟨u,y⟩=>Nf r u y
  |none=>none
def uT:(p:Ty)->Nat->den p->((t:Ty)->den t->Option (den t))->Option (den p)
 |.pair a b,0,x,g=>match g a x.1 with|some y=>some ((y,x.2):den (.pair a b))|none=>none
 |.pair a b,n+1,x,g=>match uT b n x.2 g with|some y=>some ((x.1,y):den (.pair a b))|none=>none
 |.unit,_,_,_=>none
 |.ks p,0,x,g=>match g (.sl (mH p)) (A3 p x) with|some s=>some (H8 p s)|none=>none
 |t,0,x,g=>g t x
 |_,_+1,_,_=>none
def PV:(t:Ty)->Nat->den t->((t:Ty)->den t->Option (den t))->Option (den t)
 |.st p,n,x,g=>uT p n x g
 |_,_,_,_=>none
def EE:(path:List Nat)->(t:Ty)->den t->((t:Ty)->den t->Option (den t))->Option (den t)
 |[],t,x,g=>g t x
 |f::r,t,x,g=>PV t f x (fun u y=>EE r u y g)
inductive Sh where
 |d (t:Ty)|cK (id:Nat)|ptr (id off:Nat)|ref (t:Ty)|fX|fn (f:Nat) (caps:List Sh)|fG
 |fY (l:List Sh)|agg (l:List Sh)|mp (id:Nat)|iP|j9|bM|gM (id:Nat)|gN (id:Nat)|it (id:Nat)|fa (a:List (Nat×Bool))|rr (t:Ty)
inductive fv where
 |box (cs:List Sh)|vec (t:Ty)|map (k v:Ty)|gone|iter
structure Shape where
 roots:List Sh
 ay:List fv
mutual
def Ic:Sh->List Ty->List Ty
 |.d t,r=>t::r
 |.ref t,r=>t::r
 |.rr t,r=>t::r
 |.fn _ l,r=>iC l r
 |.fY l,r=>iC l r
 |.agg l,r=>iC l r
 |.gM _,r=>.bool::r
 |.gN _,r=>.int .i64::r
 |.fa _,r=>.int .i64::.int .i64::r
 |_,r=>r
def iC:List Sh->List Ty->List Ty
 |[],r=>r
 |s::l,r=>Ic s (iC l r)
end
def Ie:fv->List Ty->List Ty
 |.box cs,r=>iC cs r
 |.vec t,r=>.sl t::r
 |.map k v,r=>.arr 0 (.pair k v)::r
 |.gone,r=>r
 |.iter,r=>.str::.int .i64::r
def bS:List fv->List Ty->List Ty
 |[],r=>r
 |s::l,r=>Ie s (bS l r)
def Shape.aW(s:Shape):List Ty:=iC s.roots (bS s.ay [])
abbrev ai:List Ty->Type
 |[]=>Unit
 |t::ts=>den t×ai ts
mutual
def kM(ρ κ:Nat->Nat):(s:Sh)->(r:List Ty)->ai (Ic s r)->V×ai r
 |.d t,_,c=>(.d t c.1,c.2)
 |.ref t,_,c=>(.ref t c.1,c.2)
 |.rr t,_,c=>(.rr t c.1,c.2)
 |.fn f l,r,c=>let p:=fi ρ κ l r c;(.fn f p.1,p.2)
 |.fY l,r,c=>let p:=fi ρ κ l r c;(.fY p.1,p.2)
 |.agg l,r,c=>let p:=fi ρ κ l r c;(.agg p.1,p.2)
 |.cK id,_,c=>(.cK (ρ id) (κ id),c)
 |.ptr id off,_,c=>(.ptr (ρ id) off,c)
 |.fX,_,c=>(.fX,c)
 |.fG,_,c=>(.fG,c)
 |.mp id,_,c=>(.mp (ρ id),c)
 |.iP,_,c=>(.iP,c)
 |.j9,_,c=>(.j9,c)
 |.bM,_,c=>(.bM,c)
 |.gM id,_,c=>(.gM (ρ id) c.1,c.2)
 |.gN id,_,c=>(.gN (ρ id) (κ id) c.1,c.2)
 |.it id,_,c=>(.it (ρ id),c)
 |.fa a,_,c=>(.fa a c.1 c.2.1,c.2.2)
def fi(ρ κ:Nat->Nat):(l:List Sh)->(r:List Ty)->ai (iC l r)->List V×ai r
 |[],_,c=>([],c)
 |s::l,r,c=>let p:=kM ρ κ s (iC l r) c;let q:=fi ρ κ l r p.2;(p.1::q.1,q.2)
end
def fj(ρ κ:Nat->Nat)(i:Nat):(s:fv)->(r:List Ty)->ai (Ie s r)->Obj×ai r
 |.box cs,r,c=>let p:=fi ρ κ cs r c;(.box p.1,p.2)
 |.vec t,_,c=>(.vec t (κ i) false c.1,c.2)
 |.map k v,_,c=>(.map k v c.1,c.2)
 |.gone,_,c=>(.dead,c)
 |.iter,_,c=>(.iter c.1 c.2.1,c.2.2)
def fH(ρ κ:Nat->Nat):Nat->(l:List fv)->(r:List Ty)->ai (bS l r)->List (Nat×Obj)
 |_,[],_,_=>[]
 |i,s::l,r,c=>let p:=fj ρ κ i s (bS l r) c;(ρ i,p.1)::fH ρ κ (i+1) l r p.2
def fill(ρ κ:Nat->Nat)(s:Shape)(c:ai s.aW):List V×List (Nat×Obj):=
 let p:=fi ρ κ s.roots (bS s.ay []) c
 (p.1,fH ρ κ 0 s.ay [] p.2)
abbrev Ren:=List Nat
def idx(ct:Nat):Ren->Nat->Option Nat
 |[],_=>none
 |x::r,i=>bif Nat.beq x ct then some i else idx ct r (i+1)
def EF(ct:Nat)(aQ:Ren):Nat×Ren:=match idx ct aQ 0 with
 |some i=>(i,aQ)
 |none=>(aQ.length,aQ++[ct])
mutual
def shV(o:Nat->Obj):V->Ren->Sh×Ren
 |.d t _,aQ=>(.d t,aQ)
 |.ref t _,aQ=>(.ref t,aQ)
 |.rr t _,aQ=>(.rr t,aQ)
 |.cK id ver,aQ=>match o id with
  |.vec t aE fr _=>bif Nat.beq ver aE then(bif fr then(.d (.sl t),aQ) else let p:=EF id aQ;(.cK p.1,p.2)) else(.bM,aQ)
  |_=>(.bM,aQ)
 |.pre id ver _ _,aQ=>match o id with
  |.vec t aE fr _=>bif Nat.beq ver aE then(bif fr then(.d (.sl t),aQ) else let p:=EF id aQ;(.cK p.1,p.2)) else(.bM,aQ)
  |_=>(.bM,aQ)
 |.ptr id off,aQ=>match o id with
  |.none=>(.bM,aQ)
  |.dead=>(.bM,aQ)
  |_=>let p:=EF id aQ;(.ptr p.1 off,p.2)
 |.fX,aQ=>(.fX,aQ)
 |.fn f l,aQ=>let p:=Ig o l aQ;(.fn f p.1,p.2)
 |.fG,aQ=>(.fG,aQ)
 |.fY l,aQ=>let p:=Ig o l aQ;(.fY p.1,p.2)
 |.agg l,aQ=>let p:=Ig o l aQ;(.agg p.1,p.2)
 |.mp id,aQ=>let p:=EF id aQ;(.mp p.1,p.2)
 |.it id,aQ=>let p:=EF id aQ;(.it p.1,p.2)
 |.fa a _ _,aQ=>(.fa a,aQ)
 |.iP,aQ=>(.iP,aQ)
 |.j9,aQ=>(.j9,aQ)
 |.gM id _,aQ=>match o id with
  |.box _=>let p:=EF id aQ;(.gM p.1,p.2)
  |_=>(.bM,aQ)
 |.gN id ver _,aQ=>match o id with
  |.vec t aE fr _=>bif Nat.beq ver aE then(bif fr then(.d (.sl t),aQ) else let p:=EF id aQ;(.gN p.1,p.2)) else(.bM,aQ)
  |_=>(.bM,aQ)
 |_,aQ=>(.bM,aQ)
def Ig(o:Nat->Obj):List V->Ren->List Sh×Ren
 |[],aQ=>([],aQ)
 |v::l,aQ=>let p:=shV o v aQ;let q:=Ig o l p.2;(p.1::q.1,q.2)
end
def shO(o:Nat->Obj)(b:Obj)(aQ:Ren):fv×Ren:=match b with
 |.box cs=>let p:=Ig o cs aQ;(.box p.1,p.2)
 |.vec t _ _ _=>(.vec t,aQ)
 |.map k v _=>(.map k v,aQ)
 |.none=>(.gone,aQ)
 |.dead=>(.gone,aQ)
 |.iter _ _=>(.iter,aQ)
def Jz(o:Nat->Obj):Nat->Nat->Ren->List fv
 |0,_,_=>[]
 |n+1,i,aQ=>match aQ[i]? with
  |some ct=>let p:=shO o (o ct) aQ;p.1::Jz o n (i+1) p.2
  |none=>[]
def z0p(sk:List Nat)(o:Nat->Obj)(vs:List V):Shape:=
 let p:=Ig o vs sk
 ⟨p.1,Jz o 100 0 p.2⟩
structure PS where
 aQ:List (Nat×Nat)
 cut:List (Nat×Nat)
 cd:List Nat
 full:List Nat
def gO(i:Nat):List (Nat×Nat)->Option Nat
 |[]=>none
 |(a,b)::r=>bif Nat.beq a i then some b else gO i r
def wJ(j:Nat):List (Nat×Nat)->Bool
 |[]=>false
 |(_,b)::r=>bif Nat.beq b j then true else wJ j r
def bH(j:Nat):List Nat->Bool
 |[]=>false
 |b::r=>bif Nat.beq b j then true else bH j r
def Ng(j:Nat):List (Nat×Nat)->Option Nat
 |[]=>none
 |(a,b)::r=>bif Nat.beq b j then some a else Ng j r
def PW(n:Nat):Option Nat->Bool
 |some m=>Nat.beq m n
 |none=>false
def JA:Option Nat->Bool
 |some _=>false
 |none=>true
def tie(i ct:Nat)(s:PS):PS:={s with aQ:=(i,ct)::s.aQ}
def Nh(k:Nat)(all:List (Nat×Nat)):List (Nat×Nat)->Bool
 |[]=>true
 |(i,ct)::r=>Nat.blt i k&&PW ct (gO i all)&&PW i (Ng ct all)&&Nh k all r
def Ni:List (Nat×Nat)->Bool
 |[]=>true
 |(id,_)::r=>JA (gO id r)&&Ni r
def Nj(cut:List (Nat×Nat)):List Nat->Bool
 |[]=>true
 |id::r=>JA (gO id cut)&&Nj cut r
def Nk:List Nat->List (Nat×Nat)->Bool
 |[],_=>true
 |j::l,aQ=>bif wJ j aQ then false else Nk l aQ
def EG(k:Nat)(ps:PS):Bool:=Nh k ps.aQ ps.aQ&&Ni ps.cut&&Nj ps.cut ps.full&&Nk ps.cd ps.aQ
def Nl(o:Nat->Obj)(id:Nat):Bool:=match o id with
 |.box _=>true
 |.vec _ ver false _=>Nat.beq ver 0
 |.map _ _ _=>true
 |_=>false
def uU(o:Nat->Obj):List Nat->Bool
 |[]=>true
 |id::r=>Nl o id&&uU o r
def Ih(cut:List (Nat×Nat)):List Nat->Bool
 |[]=>true
 |id::r=>JA (gO id cut)&&Ih cut r
def rN:Nat->List Nat->List (Nat×Nat)
 |_,[]=>[]
 |i,id::r=>(i,id)::rN (i+1) r
def cD(sk:List Nat)(i:Nat):Nat:=match sk[i]? with
 |some j=>j
 |none=>1000000+i
def Nn:List Nat->List (Nat×Nat)
 |[]=>[]
 |id::r=>(id,id)::Nn r
def Ii(k:Nat):List Nat->Bool
 |[]=>true
 |id::r=>Nat.blt id k&&Nat.blt id 1000000&&!(bH id r)&&Ii k r
mutual
def eJ(o:Nat->Obj):V->List Nat
 |.cK id _=>match o id with|.vec _ _ true _=>[]|_=>[id]
 |.pre id _ _ _=>match o id with|.vec _ _ true _=>[]|_=>[id]
 |.gN id _ _=>match o id with|.vec _ _ true _=>[]|_=>[id]
 |.agg l=>pt o l
 |_=>[]
def pt(o:Nat->Obj):List V->List Nat
 |[]=>[]
 |v::l=>eJ o v++pt o l
end
def Ij(o:Nat->Obj)(id:Nat):List Nat:=match o id with
 |.box cs=>pt o cs
 |_=>[]
section
variable (L:Lf)
def rO(o:Nat->Obj)(t:Ty)(id:Nat):Option (den t):=match o id with
 |.box cs=>match lL L o t cs with
  |some (x,[])=>some x
  |_=>none
 |_=>none
abbrev Take:=Option (PS×(∀r,ai r->ai r))
def wi(b:Bool)(ps:PS):Take:=match b with
 |true=>some (ps,fun _ c=>c)
 |false=>none
def z36:V->Bool
 |.fX=>true
 |_=>false
def z37:V->Bool
 |.fG=>true
 |_=>false
def z38:V->Bool
 |.iP=>true
 |_=>false
def z39:V->Bool
 |.j9=>true
 |_=>false
def PX(o:Nat->Obj)(t:Ty)(v:V)(ps:PS):Option (PS×(∀r,ai r->den t×ai r)):=match ft L o t v with
 |some x=>some ({ps with cd:=eJ o v++ps.cd},fun _ c=>(x,c))
 |none=>none
def JB(o:Nat->Obj)(t:Ty)(v:V)(ps:PS):Option (PS×(∀r,ai r->den t×ai r)):=match v with
 |.ref t' x=>match fZ t t' x with
  |some x=>some (ps,fun _ c=>(x,c))
  |none=>none
 |.ptr id off=>bif Nat.beq off 0 then(match rO L o t id with
  |some x=>some ({ps with cd:=id::(Ij o id++ps.cd)},fun _ c=>(x,c))
  |none=>none) else none
 |_=>none
def PY(o:Nat->Obj)(t:Ty)(id:Nat):Option (Nat×den t):=match o id with
 |.box [.ptr kN EH]=>bif Nat.beq EH 0 then(match rO L o t kN with
  |some x=>some (kN,x)
  |none=>none) else none
 |_=>none
def EI(o:Nat->Obj)(t:Ty)(v:V)(ps:PS):Option (PS×(∀r,ai r->den t×ai r)):=match v with
 |.rr t' x=>match fZ t t' x with
  |some x=>some (ps,fun _ c=>(x,c))
  |none=>none
 |.ptr id off=>bif Nat.beq off 0 then(match PY L o t id with
  |some (kN,x)=>some ({ps with cd:=id::kN::(Ij o kN++ps.cd)},fun _ c=>(x,c))
  |none=>none) else none
 |_=>none
def JC(o:Nat->Obj)(i:Nat)(v:V)(ps:PS):Take:=match v with
 |.cK id ver=>match o id with
  |.vec _ aE false _=>wi (Nat.beq ver aE) {tie i id ps with full:=id::ps.full}
  |_=>none
 |.pre id ver n _=>match o id with
  |.vec _ aE false _=>wi (Nat.beq ver aE) {tie i id ps with cut:=(id,n)::ps.cut}
  |_=>none
 |_=>none
def JD(o:Nat->Obj)(i off:Nat)(v:V)(ps:PS):Take:=match v with
 |.ptr id EJ=>match o id with
  |.box _=>wi (Nat.beq off EJ) (tie i id ps)
  |.vec _ aE false _=>wi (Nat.beq off EJ&&Nat.beq 0 aE) (tie i id ps)
  |_=>none
 |_=>none
def wK(o:Nat->Obj)(i:Nat)(v:V)(ps:PS):Take:=match v with
 |.mp id=>match o id with
  |.map _ _ _=>some (tie i id ps,fun _ c=>c)
  |_=>none
 |_=>none
def wL(o:Nat->Obj)(i:Nat)(v:V)(ps:PS):Take:=match v with
 |.it id=>match o id with
  |.iter _ _=>some (tie i id ps,fun _ c=>c)
  |_=>none
 |_=>none
def JE(o:Nat->Obj)(i:Nat)(v:V)(ps:PS):Option (PS×(∀r,ai r->den .bool×ai r)):=match v with
 |.gM id b=>match o id with
  |.box _=>some (tie i id ps,fun _ c=>(b,c))
  |_=>none
 |_=>none
def Np(o:Nat->Obj)(i:Nat)(v:V)(ps:PS):Option (PS×(∀r,ai r->den (.int .i64)×ai r)):=match v with
 |.gN id ver lo=>match o id with
  |.vec _ aE false _=>bif Nat.beq ver aE then some ({tie i id ps with full:=id::ps.full},fun _ c=>((lo:den (.int .i64)),c)) else none
  |_=>none
 |_=>none
def EK(f:Nat)(c:Bool):List (Nat×Bool)->Nat->Option Nat
 |[],_=>none
 |(g,d)::r,i=>bif Nat.beq g f&&(bif c then d else !d) then some i else EK f c r (i+1)
def JF:List (Nat×Bool)->List (Nat×Bool)->Bool
 |[],[]=>true
 |(f,c)::a,(g,d)::b=>Nat.beq f g&&(bif c then d else !d)&&JF a b
 |_,_=>false
def oq{α:Type}:List α->Nat->Nat
 |[],i=>i
 |_::r,i=>oq r (i+1)
def A5(o:Nat->Obj)(a:List (Nat×Bool))(v:V)(ps:PS):Option (PS×(∀r,ai r->den (.int .i64)×den (.int .i64)×ai r)):=match v with
 |.fa b k n=>bif JF b a then some (ps,fun _ c=>(k,n,c)) else none
 |.fG=>some (ps,fun _ c=>(Int.ofNat (oq a 0),(0:Int),c))
 |.fn f []=>match(bif Nat.blt f 1048576 then EK f false a 0 else none) with
  |some i=>some (ps,fun _ c=>(Int.ofNat i,(0:Int),c))
  |none=>none
 |.fn f [w]=>match(bif Nat.blt f 1048576 then EK f true a 0 else none) with
  |some i=>match JB L o (.int .i64) w ps with
   |some (ba,g)=>some (ba,fun r c=>(Int.ofNat i,g r c))
   |none=>none
  |none=>none
 |_=>none
def A6(f:Nat):V->Option (List V)
 |.fn f' l=>bif Nat.beq f f' then some l else none
 |_=>none
def Nq:V->Option (List V)
 |.fY l=>some l
 |_=>none
def A7:V->Option (List V)
 |.agg l=>some l
 |_=>none
mutual
def DO(o:Nat->Obj):(s:Sh)->V->PS->Option (PS×(∀r,ai r->ai (Ic s r)))
 |.d t,v,ps=>PX L o t v ps
 |.ref t,v,ps=>JB L o t v ps
 |.rr t,v,ps=>EI L o t v ps
 |.cK i,v,ps=>JC o i v ps
 |.ptr i off,v,ps=>JD o i off v ps
 |.fX,v,ps=>wi (z36 v) ps
 |.fn f l,v,ps=>match A6 f v with
  |some l'=>mI o l l' ps
  |none=>none
 |.fG,v,ps=>wi (z37 v) ps
 |.fY l,v,ps=>match Nq v with
  |some l'=>mI o l l' ps
  |none=>none
 |.agg l,v,ps=>match A7 v with
  |some l'=>mI o l l' ps
  |none=>none
 |.mp i,v,ps=>wK o i v ps
 |.iP,v,ps=>wi (z38 v) ps
 |.j9,v,ps=>wi (z39 v) ps
 |.bM,_,ps=>wi true ps
 |.gM i,v,ps=>JE o i v ps
 |.gN i,v,ps=>Np o i v ps
 |.it i,v,ps=>wL o i v ps
 |.fa a,v,ps=>A5 L o a v ps
def mI(o:Nat->Obj):(l:List Sh)->List V->PS->Option (PS×(∀r,ai r->ai (iC l r)))
 |[],vs,ps=>wi vs.isEmpty ps
 |s::l,vs,ps=>match vs with
  |v::vs=>match DO o s v ps with
   |some (ps,f)=>match mI o l vs ps with
    |some (ps,g)=>some (ps,fun r c=>f _ (g r c))
    |none=>none
   |none=>none
  |[]=>none
end
def wM(o:Nat->Obj)(ct:Nat):(s:fv)->PS->Option (PS×(∀r,ai r->ai (Ie s r)))
 |.box l,ps=>match o ct with
  |.box cs=>mI L o l cs ps
  |_=>none
 |.vec t,ps=>match o ct with
  |.vec t' _ false s=>match fZ (.sl t) (.sl t') s with
   |some s=>match gO ct ps.cut with
    |some n=>some (ps,fun _ c=>((⟨s.nil,L.aN s.l n⟩:Sl (den t)),c))
    |none=>some ({ps with full:=ct::ps.full},fun _ c=>(s,c))
   |none=>none
  |_=>none
 |.map k v,ps=>match o ct with
  |.map k' v' m=>match fZ (.arr 0 (.pair k v)) (.arr 0 (.pair k' v')) m with
   |some m=>some (ps,fun _ c=>(m,c))
   |none=>none
  |_=>none
 |.gone,ps=>some (ps,fun _ c=>c)
 |.iter,ps=>match o ct with
  |.iter s p=>some (ps,fun _ c=>((s:den .str),(p:den (.int .i64)),c))
  |_=>none
def mX(o:Nat->Obj):Nat->(l:List fv)->PS->Option (PS×(∀r,ai r->ai (bS l r)))
 |_,[],ps=>some (ps,fun _ c=>c)
 |i,.gone::l,ps=>match mX o (i+1) l ps with
   |some (ps,g)=>some (ps,fun r c=>g r c)
   |none=>none
 |i,s::l,ps=>match gO i ps.aQ with
  |some ct=>match wM L o ct s ps with
   |some (ps,f)=>match mX o (i+1) l ps with
    |some (ps,g)=>some (ps,fun r c=>f _ (g r c))
    |none=>none
   |none=>none
  |none=>none
def pack(o:Nat->Obj)(aQ:List (Nat×Nat))(s:Shape)(vs:List V):Option (PS×ai s.aW):=
 match mI L o s.roots vs ⟨aQ,[],[],[]⟩ with
 |some (ps,f)=>match mX L o 0 s.ay ps with
  |some (ps,g)=>bif EG s.ay.length ps then some (ps,f _ (g [] ())) else none
  |none=>none
 |none=>none
def EL(sk:List Nat)(aQ:List (Nat×Nat))(o:Nat->Obj)(s:Shape)(vs:List V):Option (PS×ai s.aW):=
 match pack L o aQ s vs with
 |some p=>bif uU o sk&&Ih p.1.cut sk then some p else none
 |none=>none
end
inductive Pk:Type 1 where
 |fail
 |lj (v:V) (u:List (Nat×Obj))
 |dyn (α:Type) (x:Option α) (out:α->V×List (Nat×Obj))
def Pk.now(v:V)(u:List (Nat×Obj):=[]):Pk:=.lj v u
def Pk.kf{t:Ty}(x:Option (den t)):Pk:=.dyn (den t) x (fun y=>(.d t y,[]))
def Pk.when(b:Bool)(p:Pk):Pk:=match b with|true=>p|false=>.fail
section
variable (L:Lf)
def fo:(t:Ty)->den t->den t->Bool
 |.int _,a,b=>L.e a b
 |.bool,a,b=>L.fh a b
 |.str,a,b=>L.h a b
 |.unit,_,_=>true
 |.pair s t,a,b=>L.d (fo s a.1 b.1) (fo t a.2 b.2)
 |.st p,a,b=>fo p a b
 |_,_,_=>false
end
def DP:Ty->Bool
 |.int _=>true|.bool=>true|.str=>true|_=>false
structure lE where
 f:Nat
 ins:Shape
 outs:Shape
 bD:List Nat
structure Cx where
 P:Program
 sigs:List lE
 kl:Nat->Option ((t:Ty)×den t)
 dP:List (Nat×Ty)
 eqs:List Nat
 DQ:Nat
 wN:Nat
def A8:List (Nat×Ty)->Nat->Option Ty
 |[],_=>none
 |(a,T)::r,t=>bif Nat.beq a t then some T else A8 r t
def Cx.ty(C:Cx)(t:TypeId):Option Ty:=A8 C.dP t
def rP:IntKind->Nat
 |.i8=>0|.i16=>1|.i32=>2|.i64=>3|.u8=>4|.u16=>5|.u32=>6|.u64=>7
def ot:Ty->Ty->Bool
 |.int k,.int k'=>Nat.beq (rP k) (rP k')
 |.bool,.bool=>true
 |.eD,.eD=>true
 |.eU,.eU=>true
 |.str,.str=>true
 |.sl a,.sl b=>ot a b
 |.unit,.unit=>true
 |.pair a b,.pair c d=>ot a c&&ot b d
 |.st a,.st b=>ot a b
 |.arr n a,.arr m b=>Nat.beq n m&&ot a b
 |.ks a,.ks b=>ot a b
 |_,_=>false
def ga(T:Ty):Option Ty->Bool
 |some T'=>ot T' T
 |none=>false
def Cx.is(C:Cx)(t:TypeId)(T:Ty):Bool:=ga T (C.ty t)
def uV(P:Program)(t:TypeId):Option (Bool×Nat):=match P.types.toList[t]? with
 |none=>none
 |some i=>match desc P t with
  |some (.struct _)=>some (true,i.size)
  |some (.array ..)=>some (true,i.size)
  |some _=>some (false,i.size)
  |none=>none
def kx:Ty->Bool
 |.int _=>true|.bool=>true|.str=>true|.sl _=>true|.eD=>true|.eU=>true|_=>false
def Ik(o:Nat->Obj):V->Bool
 |.d t _=>kx t
 |.cK id ver=>match o id with|.vec _ aE _ _=>Nat.beq ver aE|_=>false
 |.pre id ver _ _=>match o id with|.vec _ aE _ _=>Nat.beq ver aE|_=>false
 |.ptr id _=>match o id with|.box _=>true|.vec _ aE _ _=>Nat.beq 0 aE|_=>false
 |.j8 id ver _ _=>match o id with|.vec _ aE _ _=>Nat.beq ver aE|_=>false
 |.ref _ _=>true
 |.fX=>true
 |.fn _ _=>true
 |.fG=>true
 |.mp id=>match o id with|.map .. =>true|_=>false
 |.it id=>match o id with|.iter .. =>true|_=>false
 |.iP=>true
 |.j9=>true
 |.eE=>true
 |.gM id _=>match o id with|.box _=>true|_=>false
 |.gN id ver _=>match o id with|.vec _ aE _ _=>Nat.beq ver aE|_=>false
 |.fa .. =>true
 |_=>false
def ou:List V->Bool
 |.gM _ _::_=>true
 |_=>false
def Nr:Ty->Bool
 |.int .u8=>false
 |_=>true
def uW(o:Nat->Obj):List V->Bool
 |[]=>true
 |v::r=>Ik o v&&uW o r
def JG(o:Nat->Obj):V->Option (List V)
 |.d (.st p) x=>bif uW o (iB p x) then some (iB p x) else none
 |.agg cs=>bif uW o cs then some cs else none
 |v=>bif Ik o v then some [v] else none
def ow:Ty->Nat->Option Ty
 |.pair a _,0=>some a
 |.pair _ b,n+1=>ow b n
 |.unit,_=>none
 |.ks p,0=>some (.sl (mH p))
 |t,0=>some t
 |_,_+1=>none
def Au:List Nat->Ty->Option Ty
 |[],t=>some t
 |f::r,.st p=>match ow p f with
  |some u=>Au r u
  |none=>none
 |_::_,_=>none
def aL:List lE->Nat->lE
 |[],_=>⟨0,⟨[],[]⟩,⟨[],[]⟩,[]⟩
 |s::_,0=>s
 |_::r,n+1=>aL r n
abbrev fI(sg:List lE):=(i:Nat)->ai (aL sg i).ins.aW->Option (ai (aL sg i).outs.aW)
section
variable (L:Lf) (C:Cx)
def A9(k:IntKind)(n:Int):Bool:=decide (k.min<=n)&&decide (n<=k.max)
def DR:Value->V
 |.bool b=>.d .bool b
 |.float .f64 b=>.d .eD b
 |.complex .f64 a b=>.d .eU (a,b)
 |.int k n=>bif A9 k n then .d (.int k) n else .bM
 |.string s=>bif Nat.ble s.size 1000000 then .d .str (s.data.toList.map fun b=>(b.toNat:Int)) else .bM
 |.pointer none=>.fX
 |.map none=>.iP
 |.nilFunc=>.fG
 |.nilIface=>.j9
 |.slice none 0 0=>.eE
 |_=>.bM
def bU(env:Nat->V):Operand->V
 |.tmp t=>dx (env t)
 |.const v=>DR v
 |.global g=>match C.kl g with
  |some ⟨t,x⟩=>.ref t x
  |none=>.bM
 |.func f=>bif Nat.blt f 1048576 then .fn f [] else .bM
def Ba(env:Nat->V):Operand->V
 |.tmp t=>env t
 |x=>bU C env x
def dN(o:Nat->Obj):List Nat->List (Nat×Obj)
 |[]=>[]
 |id::r=>match o id with
  |.vec t ver _ s=>(id,.vec t ver true s)::dN o r
  |_=>dN o r
def Av(id:Nat):List Nat->Bool
 |[]=>true
 |b::r=>bif Nat.beq b id then false else Av id r
def Aw(o:Nat->Obj):V->Option ((t:Ty)×Sl (den t))
 |.cK id ver=>match o id with
  |.vec t aE _ s=>bif Nat.beq ver aE then some ⟨t,s⟩ else none
  |_=>none
 |.pre id ver n _=>match o id with
  |.vec t aE _ s=>bif Nat.beq ver aE then some ⟨t,⟨s.nil,L.aN s.l n⟩⟩ else none
  |_=>none
 |.gN id ver lo=>match o id with
  |.vec t aE _ s=>bif Nat.beq ver aE then some ⟨t,⟨s.nil,L.cJ s.l lo⟩⟩ else none
  |_=>none
 |_=>none
def EM:V->Option ((_:IntKind)×Int)
 |.d (.int k) n=>some ⟨k,n⟩
 |_=>none
def oY(t:TypeId):Option Ty:=match desc C.P t with
 |some (.slice e)=>C.ty e
 |_=>none
def JH(t:TypeId):Option (Nat×Ty):=match desc C.P t with
 |some (.array n e)=>match C.ty e with
  |some e=>some (n,e)
  |none=>none
 |_=>none
def Ns:List V->Bool
 |[]=>false
 |.eE::_=>true
 |_::r=>Ns r
def Nt(o:Nat->Obj)(t:TypeId)(cs:List V):V:=
 match C.ty t with
 |some (.st p)=>match pt o cs,Ns cs with
  |[],false=>match lL L o p cs with
   |some (x,[])=>.d (.st p) x
   |_=>.agg cs
  |_,_=>.agg cs
 |_=>.agg cs
def Il(l:List V)(i:Nat)(cs:List V):List V:=l.take i++cs++l.drop (i+cs.length)
def Nu(o:Nat->Obj)(t:TypeId):V->Pk
 |.ref t' x=>.when (C.is t t') (.now (.d t' x))
 |.rr t' x=>match uV C.P t with
  |some (false,_)=>.now (.ref t' x)
  |_=>.fail
 |.ptr id off=>match o id with
  |.box cs=>match uV C.P t with
   |some (true,n)=>.when (Nat.ble (off+n) cs.length) (.now (Nt L C o t ((cs.drop off).take n)))
   |some (false,_)=>match cs[off]? with
    |some v=>.now v
    |none=>.fail
   |none=>.fail
  |_=>.fail
 |.j8 id ver i path=>match o id with
  |.vec e aE _ s=>match Au path e with
   |some t'=>.when (Nat.beq ver aE&&C.is t t') (.dyn (den e) (L.nth s.l i) (fun x=>match Nf path e x with
     |some ⟨t,y⟩=>(.d t y,[])
     |none=>(.bM,[])))
   |none=>.fail
  |_=>.fail
 |_=>.fail
def Nv(o:Nat->Obj)(t:TypeId)(a v:V):Pk:=
 match a with
 |.ptr id off=>match o id with
  |.box cs=>match JG o v with
   |some vs=>match uV C.P t with
    |some (_,n)=>.when (Nat.beq vs.length n&&Nat.ble (off+n) cs.length&&!ou vs) (.now .undef [(id,.box (Il cs off vs))])
    |none=>.fail
   |none=>.fail
  |_=>.fail
 |.j8 id ver i path=>match o id with
  |.vec e aE false s=>match Au path e with
   |some t'=>.when (Nat.beq ver aE&&C.is t t'&&Av id (eJ o v))
    (.dyn (den e) (L.b (L.nth s.l i) fun x=>EE path e x (fun u _=>ft L o u v)) (fun y=>(.undef,dN o (eJ o v)++[(id,.vec e aE false ⟨s.nil,L.eP s.l i y⟩)])))
   |none=>.fail
  |_=>.fail
 |_=>.fail
def PZ(op:BinOp)(k:IntKind)(a b:Int):Pk:=
 match op with
 |.add=>.now (.d (.int k) (L.a k a b))
 |.sub=>.now (.d (.int k) (L.u k a b))
 |.mul=>.now (.d (.int k) (L.oo k a b))
 |.quo=>.kf (t:=.int k) (L.wH k a b)
 |.rem=>.kf (t:=.int k) (L.fW a b)
 |.and=>.now (.d (.int k) (L.pq k a b))
 |.or=>.now (.d (.int k) (L.DM k a b))
 |.xor=>.now (.d (.int k) (L.lJ k a b))
 |.andNot=>.now (.d (.int k) (L.jC k a b))
 |.eql=>.now (.d .bool (L.e a b))
 |.neq=>.now (.d .bool (L.t (L.e a b)))
 |.lss=>.now (.d .bool (L.l a b))
 |.leq=>.now (.d .bool (L.m a b))
 |.gtr=>.now (.d .bool (L.l b a))
 |.geq=>.now (.d .bool (L.m b a))
 |_=>.fail
def P0(op:BinOp)(a b:List Int):Pk:=
 match op with
 |.add=>.dyn Unit (L.f (L.s (L.n a) (L.n b))) (fun _=>(.d .str (L.q a b),[]))
 |.eql=>.now (.d .bool (L.h a b))
 |.neq=>.now (.d .bool (L.t (L.h a b)))
 |.lss=>.now (.d .bool (L.strLt a b))
 |.gtr=>.now (.d .bool (L.t (L.t (L.d (L.t (L.strLt a b)) (L.t (L.h a b))))))
 |.leq=>.now (.d .bool (L.t (L.d (L.t (L.strLt a b)) (L.t (L.h a b)))))
 |.geq=>.now (.d .bool (L.t (L.strLt a b)))
 |_=>.fail
def P1(op:BinOp)(a b:Nat):Pk:=
 match op with
 |.add=>.kf (t:=.eD) (L.uS a b)
 |.leq=>.now (.d .bool (L.Jv a b))
 |_=>.fail
def P2(op:BinOp)(a b:Nat×Nat):Pk:=
 match op with
 |.add=>.kf (t:=.eU) (L.b (L.uS a.1 b.1) fun x=>L.b (L.uS a.2 b.2) fun y=>some (x,y))
 |_=>.fail
def iR(op:BinOp)(b:Bool):Pk:=
 match op with
 |.eql=>.now (.d .bool b)
 |.neq=>.now (.d .bool (L.t b))
 |_=>.fail
def uX(t:TypeId):Nat:=match desc C.P t with
 |some .bool=>0
 |some (.slice _)=>1
 |some (.func ..)=>2
 |some (.pointer _)=>3
 |some (.map ..)=>4
 |_=>5
def sure(o:Nat->Obj):V->Bool
 |.ptr id _=>match o id with|.box _=>true|.vec _ aE _ _=>Nat.beq 0 aE|_=>false
 |.ref _ _=>true
 |_=>false
def Im(o:Nat->Obj)(op:BinOp)(t:TypeId)(x y:V):Pk:=
 match x,y with
 |.d (.int k) a,.d (.int k') b=>match op with
  |.shl=>.kf (t:=.int k) (L.oh k a b)
  |.shr=>.kf (t:=.int k) (L.oi k a b)
  |op=>match decEq k k' with
   |isTrue _=>PZ L op k a b
   |isFalse _=>.fail
 |.d .str a,.d .str b=>P0 L op a b
 |.d .eD a,.d .eD b=>P1 L op a b
 |.d .eU a,.d .eU b=>P2 L op a b
 |.d .bool a,.d .bool b=>.when (Nat.beq (uX C t) 0) (iR L op (L.fh a b))
 |.d (.st p) a,.d (.st p') b=>match fZ p p' b with
  |some b=>.when (bH t C.eqs&&C.is t (.st p)) (iR L op (fo L p a b))
  |none=>.fail
 |.d (.sl _) s,.eE=>.when (Nat.beq (uX C t) 1) (iR L op (Sl.nil s))
 |.eE,.eE=>.when (Nat.beq (uX C t) 1) (iR L op true)
 |.fn _ _,.fG=>.when (Nat.beq (uX C t) 2) (iR L op false)
 |.fG,.fG=>.when (Nat.beq (uX C t) 2) (iR L op true)
 |.fa a k _,.fG=>.when (Nat.beq (uX C t) 2) (iR L op (L.e k (Int.ofNat (oq a 0))))
 |.fX,.fX=>.when (Nat.beq (uX C t) 3) (iR L op true)
 |v,.fX=>.when (Nat.beq (uX C t) 3&&sure o v) (iR L op false)
 |v,.eE=>match Aw L o v with
  |some ⟨_,s⟩=>.when (Nat.beq (uX C t) 1) (iR L op s.nil)
  |none=>.fail
 |_,_=>.fail
def P3(o:Nat->Obj)(t:TypeId)(x:V):Pk:=
 match desc C.P t with
 |some .string=>match x with
  |.d .str l=>.now (.d (.int .i64) (L.n (α:=Int) l))
  |_=>.fail
 |some (.slice _)=>match x with
  |.d (.sl _) s=>.now (.d (.int .i64) (L.n s.l))
  |.eE=>.now (.d (.int .i64) (0:Int))
  |v=>match Aw L o v with
   |some ⟨_,s⟩=>.now (.d (.int .i64) (L.n s.l))
   |none=>.fail
 |some (.map ..)=>match x with
  |.mp id=>match o id with
   |.map _ _ _=>.fail
   |_=>.fail
  |.iP=>.now (.d (.int .i64) (0:Int))
  |_=>.fail
 |some (.array n _)=>.when (Nat.ble n 1000000) (.now (.d (.int .i64) ((n:Nat):Int)))
 |_=>.fail
def Nw(o:Nat->Obj)(e:Ty):V->Option (List (den e))
 |.d .str l=>fZ (.arr 0 e) (.arr 0 (.int .u8)) l
 |v=>match mW L o (.sl e) v with
  |some s=>some s.l
  |none=>none
def JI(id ver:Nat)(e:Ty)(nil:Bool)(l m:List (den e)):Pk:=.dyn Unit (L.f (L.s (L.n l) (L.n m))) (fun _=>(.cK id ver,[(id,.vec e ver false ⟨L.d nil (L.i m),L.app l m⟩)]))
def P4(t:TypeId):Bool:=match desc C.P t with|some (.slice _)=>true|some .string=>true|_=>false
def P5(o:Nat->Obj)(fresh:Nat)(t u:TypeId)(x y:V):Pk:=
 match oY C t with
 |none=>.fail
 |some e=>match Nw L o e y with
  |none=>.fail
  |some m=>.when (P4 C u&&Nat.blt 0 (aM e)) (match x with
   |.eE=>JI L fresh 0 e true [] m
   |.cK id ver=>match o id with
    |.vec e' aE false s=>match fZ (.sl e) (.sl e') s with
     |some s=>.when (Nat.beq ver aE) (JI L id (ver+1) e s.nil s.l m)
     |none=>.fail
    |_=>.fail
   |.pre id ver n cp=>match o id with
    |.vec e' aE fr s=>match fZ (.sl e) (.sl e') s with
     |some s=>.when (Nat.beq ver aE) (match cp,fr with
      |false,false=>JI L id (ver+1) e s.nil (L.aN s.l n) m
      |true,_=>.dyn Unit (L.b (L.f (L.s (L.n (L.aN s.l n)) (L.n m))) fun _=>L.c (L.i m) none (some ())) (fun _=>(.cK fresh 0,[(fresh,.vec e 0 false ⟨false,L.app (L.aN s.l n) m⟩)]))
      |_,_=>.fail)
     |none=>.fail
    |_=>.fail
   |_=>.fail)
def bd(d:Int)(h:Option V):Option Int:=match h with
 |none=>some d
 |some v=>match EM v with
  |some ⟨_,n⟩=>some n
  |none=>none
def Nx(t:TypeId):Nat:=match desc C.P t with
 |some .string=>0
 |some (.slice _)=>1
 |some (.array ..)=>2
 |_=>3
def P6(o:Nat->Obj)(fresh:Nat)(t:TypeId)(x:V)(lo hi mx:Option V):Pk:=
 match x,mx with
 |.d .str l,none=>match bd 0 lo,bd (L.n (α:=Int) l) hi with
  |some a,some b=>.when (Nat.beq (Nx C t) 0) (.dyn (List Int) (L.bG l a b) (fun m=>(.d .str m,[])))
  |_,_=>.fail
 |.d (.sl e) s,none=>match bd 0 lo,bd (L.n s.l) hi with
  |some a,some b=>.when (ga e (oY C t)) (.dyn (List (den e)) (L.bG s.l a b) (fun m=>(.d (.sl e) (⟨s.nil,m⟩:Sl (den e)),[])))
  |_,_=>.fail
 |.d (.sl e) s,some _=>match lo,bd 1 hi,bd 1 mx with
  |none,some b,some c=>.when (ga e (oY C t)&&Nr e) (.dyn Unit (L.c (L.e b 0) (L.c (L.e c 0) (some ()) none) none) (fun _=>(.cK fresh 0,[(fresh,.vec e 0 false ⟨s.nil,[]⟩)])))
  |_,_,_=>.fail
 |.cK id ver,some _=>match o id with
  |.vec e aE _ s=>.when (Nat.beq ver aE&&ga e (oY C t)) (match lo,bd (-1) hi,bd (-1) mx with
    |none,some b,some c=>.dyn Nat (L.b (L.eC (L.n s.l) b) fun p=>L.c (L.e b c) (some p) none) (fun p=>(.pre id ver p true,[]))
    |_,_,_=>.fail)
  |_=>.fail
 |.cK id ver,none=>match o id with
  |.vec e aE _ s=>.when (Nat.beq ver aE&&ga e (oY C t)) (match lo with
    |none=>match bd (L.n s.l) hi with
     |some b=>.dyn Nat (L.eC (L.n s.l) b) (fun p=>(.pre id ver p false,[]))
     |none=>.fail
    |some Bb=>match hi with
     |none=>(match bd 0 (some Bb) with
      |some a=>.dyn Nat (L.eC (L.n s.l) a) (fun _=>(.gN id ver a,[]))
      |none=>.fail)
     |some _=>match bd 0 lo,bd (L.n s.l) hi with
     |some a,some b=>.dyn (List (den e)) (L.bG s.l a b) (fun m=>(.d (.sl e) (⟨s.nil,m⟩:Sl (den e)),[(id,.vec e aE true s)]))
     |_,_=>.fail)
  |_=>.fail
 |_,_=>.fail
def P7(o:Nat->Obj)(t:TypeId)(x i:V):Pk:=
 match EM i with
 |none=>.fail
 |some ⟨_,n⟩=>match x with
  |.d (.sl e) s=>.when (ga e (oY C t)) (.dyn (den e) (L.g s.l n) (fun y=>(.ref e y,[])))
  |.ref (.arr m e) l=>match JH C t with
   |some (m',e')=>.when (Nat.beq m m'&&ga e (some e')) (.dyn (den e) (L.g l n) (fun y=>(.ref e y,[])))
   |none=>.fail
  |.cK id ver=>match o id with
   |.vec e aE _ s=>.when (Nat.beq ver aE&&ga e (oY C t)) (.dyn Nat (L.bZ s.l n) (fun j=>(.j8 id ver j [],[])))
   |_=>.fail
  |.pre id ver k _=>match o id with
   |.vec e aE _ s=>.when (Nat.beq ver aE&&ga e (oY C t)) (.dyn Nat (L.bZ (L.aN s.l k) n) (fun j=>(.j8 id ver j [],[])))
   |_=>.fail
  |.gN id ver lo=>match o id with
   |.vec e aE _ s=>.when (Nat.beq ver aE&&ga e (oY C t)) (.dyn Nat (L.c (L.m 0 n) (L.bZ s.l (L.s lo n)) none) (fun j=>(.j8 id ver j [],[])))
   |_=>.fail
  |.ptr id 0=>match o id with
   |.vec e 0 _ s=>match JH C t with
    |some (m,e')=>.when (ga e (some e')) (.dyn Nat (L.b (L.eC ((m:Nat):Int) (L.s n 1)) fun _=>L.bZ s.l n) (fun j=>(.j8 id 0 j [],[])))
    |none=>.fail
   |_=>.fail
  |_=>.fail
def P8(t:TypeId)(x i:V):Pk:=
 match EM i with
 |none=>.fail
 |some ⟨_,n⟩=>match x with
  |.d .str l=>.when (Nat.beq (Nx C t) 0) (.kf (t:=.int .u8) (L.g (α:=Int) l n))
  |.d (.arr m e) l=>match JH C t with
   |some (m',e')=>.when (Nat.beq m m'&&ga e (some e')) (.kf (t:=e) (L.g l n))
   |none=>.fail
  |_=>.fail
def Io(o:Nat->Obj)(t:TypeId)(x:V)(f:Nat):Pk:=
 match Jy C.P t f with
 |none=>.fail
 |some fd=>match uV C.P fd.type with
  |some (_,sz)=>.when (Nat.blt 0 sz) (match x with
   |.ptr id off=>match o id with
    |.box _=>.now (.ptr id (off+fd.offset))
    |_=>.fail
   |.ref t' y=>.when (C.is t t') (match Ib t' f y with
    |some ⟨u,z⟩=>.now (.ref u z)
    |none=>.fail)
   |.j8 id ver i path=>match o id with
    |.vec e aE _ _=>match Au path e with
     |some t'=>match t' with
      |.st p=>match ow p f with
       |some _=>.when (Nat.beq ver aE&&C.is t t') (.now (.j8 id ver i (path++[f])))
       |none=>.fail
      |_=>.fail
     |none=>.fail
    |_=>.fail
   |_=>.fail)
  |none=>.fail
def P9(t:TypeId)(x:V)(f:Nat):Pk:=
 match x with
 |.d t' y=>.when (C.is t t') (match Ib t' f y with
  |some ⟨u,z⟩=>.now (.d u z)
  |none=>.fail)
 |.agg cs=>match Jy C.P t f with
  |some fd=>match uV C.P fd.type with
   |some (true,n)=>.when (Nat.ble (fd.offset+n) cs.length) (.now (.agg ((cs.drop fd.offset).take n)))
   |some (false,_)=>match cs[fd.offset]? with
    |some v=>.now v
    |none=>.fail
   |none=>.fail
  |none=>.fail
 |_=>.fail
def wO(e:TypeId):Bool:=match desc C.P e with|some (.int .u8)=>true|_=>false
def Qa(o:Nat->Obj)(fresh:Nat)(s t:TypeId)(x:V):Pk:=
 match desc C.P s with
 |none=>.fail
 |some ds=>match desc C.P t with
  |some (.int k)=>match x with
   |.d (.int _) n=>.now (.d (.int k) (L.iZ k n))
   |_=>.fail
  |some (.float .f64)=>match x with
   |.d (.int _) n=>.now (.d .eD (L.Na n))
   |_=>.fail
  |some .string=>match x with
   |.d .str l=>.now (.d .str l)
   |v=>match ds with
    |.slice e=>.when (wO C e&&Nat.blt 0 1) (match mW L o (.sl (.int .u8)) v with
     |some s=>.now (.d .str (Sl.l s))
     |none=>.fail)
    |_=>.fail
  |some (.slice e)=>match x with
   |.d .str l=>match ds with
    |.string=>.when (wO C e) (.dyn Unit (L.f (L.n l)) (fun _=>(.cK fresh 0,[(fresh,.vec (.int .u8) 0 false ⟨false,l⟩)])))
    |_=>.fail
   |.cK id ver=>match ds with
    |.slice _=>match o id with
     |.vec (.int .u8) aE false b=>.when (wO C e&&Nat.beq s t&&Nat.beq ver aE) (.dyn Unit (L.c b.nil none (some ())) (fun _=>(.cK id ver,[(id,.vec (.int .u8) ver false b)])))
     |_=>.fail
    |_=>.fail
   |_=>.fail
  |_=>.fail
def Ny(t:TypeId):Option (List V):=match C.P.types.toList[t]? with
 |some i=>match i.zero with
  |some z=>some (z.cells.toList.map DR)
  |none=>none
 |none=>none
def Nz(o:Nat->Obj)(fs:List Field):List (Nat×V)->List V->Option (List V)
 |[],cs=>some cs
 |p::r,cs=>match fs[p.1]?,JG o p.2 with
  |some fd,some vs=>match uV C.P fd.type with
   |some (_,n)=>bif Nat.beq vs.length n&&Nat.ble (fd.offset+n) cs.length then Nz o fs r (Il cs fd.offset vs) else none
   |none=>none
  |_,_=>none
def DS(o:Nat->Obj)(e:Ty):List (Nat×V)->List (den e)->Option (List (den e))
 |[],l=>some l
 |p::r,l=>match ft L o e p.2 with
  |some x=>bif Nat.blt p.1 l.length then DS o e r (l.set p.1 x) else none
  |none=>none
def wj(o:Nat->Obj):List (Nat×V)->List Nat
 |[]=>[]
 |p::r=>eJ o p.2++wj o r
def NA(P:Program):List Field->Bool
 |[]=>true
 |f::r=>match uV P f.type with
  |some _=>NA P r
  |none=>false
def Qb(o:Nat->Obj)(t:TypeId)(parts:List (Nat×V)):Pk:=
 match desc C.P t with
 |some (.struct fs)=>.when (NA C.P fs.toList) (match Ny C t with
  |some z=>match Nz C o fs.toList parts z with
   |some cs=>.now (Nt L C o t cs)
   |none=>.fail
  |none=>.fail)
 |some (.array n _)=>match C.ty t with
  |some (.arr n' e)=>.when (Nat.beq n n') (match DS L o e parts (List.replicate n (zero e)) with
   |some l=>.now (.d (.arr n' e) l) (dN o (wj o parts))
   |none=>.fail)
  |_=>.fail
 |_=>.fail
def Qc(o:Nat->Obj)(fresh:Nat)(t:TypeId)(n:Nat)(parts:List (Nat×V)):Pk:=
 match oY C t with
 |some e=>.when (Nat.ble (n*aM e) 16777216&&Nat.blt 0 (aM e)) (match DS L o e parts (List.replicate n (zero e)) with
  |some l=>.now (.cK fresh 0) (dN o (wj o parts)++[(fresh,.vec e 0 false ⟨false,l⟩)])
  |none=>.fail)
 |none=>.fail
def wP:Nat->TypeId->List (Option Ty)
 |0,_=>[]
 |n+1,t=>match desc C.P t with
  |some (.struct fs)=>(fs.toList.map fun f=>wP n f.type).flatten
  |some (.slice e)=>[C.ty e]
  |some (.array ..)=>match uV C.P t with
   |some (_,k)=>List.replicate k none
   |none=>[]
  |_=>[none]
def nC(i:Nat):List V->List (Option Ty)->List V×List (Nat×Obj)
 |.eE::r,some e::s=>let p:=nC (i+1) r s;(.cK i 0::p.1,(i,.vec e 0 false ⟨true,[]⟩)::p.2)
 |v::r,_::s=>let p:=nC i r s;(v::p.1,p.2)
 |l,[]=>(l,[])
 |[],_=>([],[])
def uY:List V->Nat
 |[]=>0
 |.eE::r=>uY r+1
 |_::r=>uY r
def NB(fresh:Nat)(t:TypeId)(cs:List V):Pk:=
 let p:=bif Nat.ble (uY cs) 14 then nC (fresh+1) cs (wP C 8 t) else(cs,[])
 .when (!ou p.1) (.now (.ptr fresh 0) ((fresh,.box p.1)::p.2))
def Qd(fresh:Nat):List V->Pk
 |[.fX,.eE]=>.now (.ptr fresh 0) [(fresh,.box [.gM fresh false,.cK (fresh+1) 0]),(fresh+1,.vec (.int .u8) 0 false ⟨true,[]⟩)]
 |_=>.fail
def NC(fresh:Nat):List V->Pk
 |[.fX,.eE,.d s x,.d t y]=>.when (kx s&&kx t) (.now (.ptr fresh 0) [(fresh,.box [.gM fresh false,.cK (fresh+1) 0,.d s x,.d t y]),(fresh+1,.vec (.int .u8) 0 false ⟨true,[]⟩)])
 |_=>.fail
def Qe(fresh:Nat)(t:TypeId)(b:Bool):Pk->Pk
 |.lj (.agg cs) []=>bif b&&Ns cs&&Nat.ble (uY cs) 15 then .now (.agg (nC fresh cs (wP C 8 t)).1) (nC fresh cs (wP C 8 t)).2 else .now (.agg cs)
 |p=>p
def Qf(fresh:Nat)(t:TypeId):Pk:=
 match C.ty t with
 |some (.arr n e)=>.when (Nat.blt 0 (aM e)&&Nat.ble n 1000000&&Nr e) (.now (.ptr fresh 0) [(fresh,.vec e 0 false ⟨false,List.replicate n (zero e)⟩)])
 |_=>match Ny C t with
  |some cs=>bif Nat.beq t C.DQ then Qd fresh cs else bif Nat.beq t C.wN then NC fresh cs else NB C fresh t cs
  |none=>.fail
def Qg(o:Nat->Obj)(fresh:Nat)(t:TypeId)(v:V):Pk:=
 match v with
 |.d (.arr n e) l=>.when (Nat.blt 0 (aM e)&&Nat.ble n 1000000&&Nr e) (.now (.ptr fresh 0) [(fresh,.vec e 0 false ⟨false,l⟩)])
 |v=>match JG o v with
  |some cs=>bif Nat.beq t C.wN then NC fresh cs else NB C fresh t cs
  |none=>.fail
def JK(fresh:Nat)(t:TypeId)(v:V):Pk:=
 match v with
 |.eE=>match oY C t with
  |some e=>.now (.cK fresh 0) [(fresh,.vec e 0 false ⟨true,[]⟩)]
  |none=>.now .eE
 |v=>.now v
def Qh(x:Bool)(a b:V):V:=
 match a,b with
 |.d t a',.d t' b'=>match fZ t t' b' with
  |some b'=>.d t (L.M9 x a' b')
  |none=>bif x then a else b
 |_,_=>bif x then a else b
def JL(t:TypeId):Option (Ty×Ty):=match desc C.P t with
 |some (.map k v)=>match C.ty k,C.ty v with
  |some k,some v=>some (k,v)
  |_,_=>none
 |_=>none
def JM(t:TypeId)(tk tv:Ty):Bool:=match JL C t with
 |some (k,v)=>ga tk (some k)&&ga tv (some v)&&DP tk
 |none=>false
def Qi(o:Nat->Obj)(t:TypeId)(m k:V)(ok:Bool):Pk:=
 match m with
 |.mp id=>match o id with
  |.map tk tv m=>match ft L o tk k with
   |some k=>.when (JM C t tk tv) (.now (bif ok then .fY [.d tv (L.lK (fo L tk) k m (zero tv)),.d .bool (L.uR (fo L tk) k m)]
     else .d tv (L.lK (fo L tk) k m (zero tv))))
   |none=>.fail
  |_=>.fail
 |.iP=>match JL C t with
  |some (tk,tv)=>match ft L o tk k with
   |some _=>.when (DP tk) (.now (bif ok then .fY [.d tv (zero tv),.d .bool false] else .d tv (zero tv)))
   |none=>.fail
  |none=>.fail
 |_=>.fail
def Qj(o:Nat->Obj)(t:TypeId)(m k v:V):Pk:=
 match m with
 |.mp id=>match o id with
  |.map tk tv m=>match ft L o tk k,ft L o tv v with
   |some k,some x=>.when (JM C t tk tv&&(eJ o v).isEmpty) (.now .undef [(id,.map tk tv (L.j6 (fo L tk) k x m))])
   |_,_=>.fail
  |_=>.fail
 |_=>.fail
def Qk(fresh:Nat)(t:TypeId):Pk:=match JL C t with
 |some (tk,tv)=>.when (DP tk) (.now (.mp fresh) [(fresh,.map tk tv [])])
 |none=>.fail
def Ql(fresh:Nat)(t:TypeId)(l c:V):Pk:=
 match oY C t,EM l,EM c with
 |some e,some ⟨_,n⟩,some ⟨_,m⟩=>.when (Nat.blt 0 (aM e)) (.dyn Nat (L.rn n m) (fun k=>(.cK fresh 0,[(fresh,.vec e 0 false ⟨false,L.rep k (zero e)⟩)])))
 |_,_,_=>.fail
def tB:Ty->Bool
 |.sl _=>true
 |.pair a b=>tB a||tB b
 |.st p=>tB p
 |.arr _ e=>tB e
 |.ks _=>true
 |.eD=>true
 |.eU=>true
 |_=>false
mutual
def JN:Sh->Bool
 |.d t=>tB t
 |.fa _=>true
 |.ref _=>true
 |.rr _=>true
 |.fn _ l=>wk l
 |.fY l=>wk l
 |.agg l=>wk l
 |_=>false
def wk:List Sh->Bool
 |[]=>false
 |s::l=>JN s||wk l
end
def rQ:List fv->Bool
 |[]=>false
 |.box l::r=>wk l||rQ r
 |.vec t::r=>tB t||rQ r
 |.map k v::r=>tB k||tB v||rQ r
 |.gone::r=>rQ r
 |.iter::r=>rQ r
def lF(s:Shape):Bool:=wk s.roots||rQ s.ay
def NF(o:Nat->Obj):List Nat->Bool
 |[]=>true
 |id::r=>(match o id with|.box _=>false|.map _ _ _=>false|.iter _ _=>false|_=>true)&&NF o r
def Ax(bD:List Nat):Nat->Nat->List fv->Bool
 |0,_,_=>true
 |n+1,i,.gone::r=>Av i bD&&Ax bD n (i+1) r
 |n+1,i,_::r=>bH i bD&&Ax bD n (i+1) r
 |_+1,_,[]=>false
variable (R:fI C.sigs)
def NG(o:Nat->Obj)(aQ:List (Nat×Nat)):Nat->Bool
 |0=>true
 |n+1=>(match gO n aQ with
  |some ct=>(match o ct with|.none=>false|_=>true)
  |none=>false)&&NG o aQ n
def NH(ps:PS):List Nat->Bool
 |[]=>true
 |i::r=>JA (gO ((gO i ps.aQ).getD 0) ps.cut)&&NH ps r
def NI(o:Nat->Obj)(ps:PS)(k:Nat)(outs:Shape)(bD:List Nat):Bool:=NH ps bD&&Ax bD k 0 outs.ay&&(NF o ps.cd||!(lF outs))&&NG o ps.aQ k&&Nat.ble outs.ay.length (k+16)
def Ay(aQ:List (Nat×Nat))(k fresh:Nat):Nat->Nat:=fun id=>bif Nat.blt id k then(gO id aQ).getD 0 else fresh+(id-k)
def z3a:Obj->Nat
 |.vec _ ver _ _=>ver
 |_=>0
def Bc(o:Nat->Obj)(aQ:List (Nat×Nat))(k:Nat)(bD:List Nat):Nat->Nat:=fun id=>bif Nat.blt id k&&bH id bD then z3a (o ((gO id aQ).getD 0)) else 0
def kA:List V->V
 |[v]=>v
 |vs=>.fY vs
def gQ(s:Shape):Bool:=match s.roots with
 |.bM::_=>true
 |_=>false
def Qm(a b:Bool):Bool:=bif a then b else !b
def wm(p:Bool)(o:Nat->Obj)(fresh:Nat)(f:Nat)(args:List V):List lE->Nat->Pk
 |[],_=>.fail
 |s::r,i=>bif Nat.beq s.f f then match pack L o [] (aL C.sigs i).ins args with
   |some (ps,c)=>.when (Nat.beq (aL C.sigs i).f f&&NI o ps (aL C.sigs i).ins.ay.length (aL C.sigs i).outs (aL C.sigs i).bD&&Qm p (gQ (aL C.sigs i).outs))
    (.dyn (ai (aL C.sigs i).outs.aW) (R i c) (fun y=>
     (kA (fill (Ay ps.aQ (aL C.sigs i).ins.ay.length fresh) (Bc o ps.aQ (aL C.sigs i).ins.ay.length (aL C.sigs i).bD) (aL C.sigs i).outs y).1,
      (bif lF (aL C.sigs i).outs then dN o ps.cd else [])++(fill (Ay ps.aQ (aL C.sigs i).ins.ay.length fresh) (Bc o ps.aQ (aL C.sigs i).ins.ay.length (aL C.sigs i).bD) (aL C.sigs i).outs y).2)))
   |none=>wm p o fresh f args r (i+1)
  else wm p o fresh f args r (i+1)
def faX:Pk->Option (Option Bool)
 |.dyn _ x out=>some (L.b x fun y=>match out y with
  |(.d .bool b,[])=>some b
  |_=>none)
 |_=>none
def JO(o:Nat->Obj)(fresh:Nat)(k n:Int)(args:List V):List (Nat×Bool)->Nat->Option (Option Bool)
 |[],_=>some none
 |(f,c)::r,i=>match faX L (wm L C R false o fresh f (args++bif c then [.ref (.int .i64) n] else []) C.sigs 0) with
  |some x=>match JO o fresh k n args r (i+1) with
   |some y=>some (L.c (L.e k (Int.ofNat i)) x y)
   |none=>none
  |none=>none
def Qn(o:Nat->Obj)(t:TypeId)(x y:V):Pk:=
 match x with
 |.cK id ver=>match o id with
  |.vec e aE false s=>match Nw L o e y with
   |some m=>.when (Nat.beq ver aE&&ga e (oY C t)) (.now (.d (.int .i64) (L.jD (L.n s.l) (L.n m))) [(id,.vec e ver false ⟨s.nil,L.pr s.l m⟩)])
   |none=>.fail
  |_=>.fail
 |_=>.fail
def Qo(o:Nat->Obj)(t:TypeId)(m k:V):Pk:=
 match m with
 |.mp id=>match o id with
  |.map tk tv m=>match ft L o tk k with
   |some k=>.when (JM C t tk tv) (.now (.fY []) [(id,.map tk tv (L.j7 (fo L tk) k m))])
   |none=>.fail
  |_=>.fail
 |_=>.fail
def Qp(o:Nat->Obj)(t:TypeId)(x:V):Pk:=
 match x with
 |.gN id ver lo=>match o id with
  |.vec e aE false s=>.when (Nat.beq ver aE&&ga e (oY C t)) (.now (.fY []) [(id,.vec e ver false ⟨s.nil,L.gK s.l lo (zero e)⟩)])
  |_=>.fail
 |_=>.fail
def qiv(o:Nat->Obj)(fresh:Nat)(b:Builtin)(ts:List TypeId)(args:List V):Pk:=
 match b,ts,args with
 |.len,t::_,[x]=>P3 L C o t x
 |.append,t::u::_,[x,y]=>P5 L C o fresh t u x y
 |.copy,t::_,[x,y]=>Qn L C o t x y
 |.clear,t::_,[x]=>Qp L C o t x
 |.delete,t::_,[m,k]=>Qo L C o t m k
 |.min,_,[.d (.int k) a,.d (.int k') b]=>.when (Nat.beq (rP k) (rP k')) (.now (.d (.int k) (L.jD a b)))
 |.max,_,[.d (.int k) a,.d (.int k') b]=>.when (Nat.beq (rP k) (rP k')) (.now (.d (.int k) (L.iO a b)))
 |.complex,_,[.d .eD a,.d .eD b]=>.now (.d .eU ((a:Nat),(b:Nat)))
 |.real,_,[.d .eU a]=>.now (.d .eD (Prod.fst (α:=Nat) (β:=Nat) a))
 |.imag,_,[.d .eU a]=>.now (.d .eD (Prod.snd (α:=Nat) (β:=Nat) a))
 |_,_,_=>.fail
def Qq(fresh:Nat)(t:TypeId)(x:V):Pk:=match desc C.P t with
 |some .string=>match x with
  |.d .str l=>.now (.it fresh) [(fresh,.iter l 0)]
  |_=>.fail
 |_=>.fail
def Qr(o:Nat->Obj)(x:V):Pk:=match x with
 |.it id=>match o id with
  |.iter l p=>.now (.Nc (L.l p (L.n l)) p (L.fm l p)) [(id,.iter l (L.fQ l p))]
  |_=>.fail
 |_=>.fail
def Qs(i:Nat):V->Pk
 |.fY vs=>match vs[i]? with
  |some v=>.now v
  |none=>.fail
 |.Nc b p c=>match i with
  |0=>.now (.d .bool b)
  |1=>.kf (t:=.int .i64) (L.c b (some p) none)
  |2=>.kf (t:=.int .i32) (L.c b (some c) none)
  |_=>.fail
 |_=>.fail
def Qt(t:TypeId):Pk:=match desc C.P t with
 |some (.interface _)=>.fail
 |some _=>.now .Nd
 |none=>.fail
def EN:IntKind->Int
 |.u8=>255|.u16=>65535|.u32=>4294967295|.u64=>18446744073709551615|_=>-1
def Ip(o:Nat->Obj)(v:V):Pk:=
 match v with
 |.ptr _ _=>.when (sure o v) (.now v)
 |.ref _ _=>.now v
 |.j8 id ver _ _=>match o id with
  |.vec _ aE _ _=>.when (Nat.beq ver aE) (.now v)
  |_=>.fail
 |.fn _ _=>.now v
 |_=>.fail
def cT(env:Nat->V)(o:Nat->Obj)(fresh:Nat)(t:TypeId):Op->Pk
 |.move x=>JK C fresh t (bU C env x)
 |.assign x=>JK C fresh t (bU C env x)
 |.pick c a b=>match Ba C env c with
  |.lb x=>.now (bif x then bU C env a else bU C env b)
  |.d .bool x=>.now (Qh L x (bU C env a) (bU C env b))
  |_=>.fail
 |.alloc e=>Qf C fresh e
 |.box e x=>Qg C o fresh e (bU C env x)
 |.build t ps=>Qe C fresh t (!(Nat.beq t C.wN)) (Qb L C o t (ps.toList.map fun p=>(p.1,bU C env p.2)))
 |.buildSlice t n ps=>Qc L C o fresh t n (ps.toList.map fun p=>(p.1,bU C env p.2))
 |.load t a=>Nu L C o t (bU C env a)
 |.store t a v=>Nv L C o t (bU C env a) (bU C env v)
 |.nilCheck x=>Ip o (bU C env x)
 |.binOp op t x y _=>Im L C o op t (bU C env x) (bU C env y)
 |.unOp .not _ x=>match bU C env x with
  |.d .bool x=>.now (.d .bool (L.t x))
  |_=>.fail
 |.unOp .xor _ x=>match bU C env x with
  |.d (.int k) n=>.now (.d (.int k) (L.lJ k (EN k) n))
  |_=>.fail
 |.unOp .neg _ x=>match bU C env x with
  |.d (.int k) n=>.now (.d (.int k) (L.u k 0 n))
  |_=>.fail
 |.convert s d x=>Qa L C o fresh s d (bU C env x)
 |.makeFunc (.func f) first caps=>.when (Nat.blt f 1048576) (.now (.fn (f+1048576*first.toList.length) (first.toList.map (bU C env)++caps.toList.map (bU C env))))
 |.makeSlice t l c=>Ql L C fresh t (bU C env l) (bU C env c)
 |.slice t x lo hi mx=>P6 L C o fresh t (bU C env x) (lo.map (bU C env)) (hi.map (bU C env)) (mx.map (bU C env))
 |.fieldAddr t x f=>Io C o t (bU C env x) f
 |.field t x f=>P9 C t (bU C env x) f
 |.indexAddr t x i=>P7 L C o t (bU C env x) (bU C env i)
 |.index t x i=>P8 L C t (bU C env x) (bU C env i)
 |.makeInterface t _=>Qt C t
 |.makeMap t none=>Qk C fresh t
 |.lookup t x k ok=>Qi L C o t (bU C env x) (bU C env k) ok
 |.mapUpdate t m k x=>Qj L C o t (bU C env m) (bU C env k) (bU C env x)
 |.extract x i=>Qs L i (bU C env x)
 |.range t x=>Qq C fresh t (bU C env x)
 |.next x true=>Qr L o (bU C env x)
 |.call c=>match c.callee with
  |.builtin b=>qiv L C o fresh b c.argTypes.toList (c.args.toList.map (bU C env))
  |.value f=>match bU C env f with
   |.fn f caps=>wm L C R false o fresh (f % 1048576) (caps.take (f / 1048576)++(c.args.toList.map (bU C env)++caps.drop (f / 1048576))) C.sigs 0
   |.fa a k n=>match JO L C R o fresh k n (c.args.toList.map (bU C env)) a 0 with
    |some x=>.dyn Bool x (fun b=>(.d .bool b,[]))
    |none=>.fail
   |_=>.fail
  |_=>.fail
 |_=>.fail
end
end Ev