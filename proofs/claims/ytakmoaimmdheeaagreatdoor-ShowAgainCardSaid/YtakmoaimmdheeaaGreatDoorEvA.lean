/- The evaluator: leaves, types, values, shapes, operations. No statement of its own about the program. -/
import GoSem.Core.Code
import GoSem.Core.Program
import GoSem.Core.View
import GoSem.Core.Utf8
import GoSem.Core.Float
namespace Ev
theorem om{p:Prop}(h:p:=by omega):p:=h
theorem dc{p:Prop}(h:p:=by decide):p:=h
abbrev zd:=@List.length_append
abbrev ze:=@Bool.and_eq_true
abbrev zf:=@List.mem_cons_self
abbrev zg:=@List.getElem?_eq_getElem
abbrev zh:=@List.mem_cons_of_mem
abbrev zj:=@List.length_cons
abbrev zm:=@Nat.eq_of_beq_eq_true
abbrev zn:=@decide_eq_false
abbrev zo:=@List.append_assoc
abbrev zt:=@List.append_nil
abbrev zu:=@decide_eq_true
abbrev zw:=@List.mem_cons
abbrev zA:=@Classical.byContradiction
abbrev zB:=@Nat.le_of_ble_eq_true
abbrev zC:=@List.drop_eq_nil_of_le
abbrev zD:=@Nat.zero_add
abbrev zE:=@Option.some.injEq
abbrev zF:=@List.getElem?_eq_some_iff
abbrev zG:=@List.getElem?_append_right
abbrev zH:=@List.length_drop
abbrev zI:=@Option.some.inj
abbrev zJ:=@List.map_cons
abbrev zK:=@List.mem_singleton
abbrev zL:=@Array.getElem?_toList
abbrev zM:=@of_decide_eq_true
abbrev zN:=@List.mem_append
abbrev zO:=@List.length_map
abbrev zP:=@List.eq_nil_of_length_eq_zero
abbrev zQ:=@List.length_take
abbrev zR:=@List.getElem?_append_left
abbrev zS:=@List.mem_of_getElem?
abbrev zT:=@List.map_append
abbrev zU:=@List.all_eq_true
abbrev zV:=@List.getElem?_eq_none
abbrev zW:=@Option.bind_eq_some_iff
abbrev zX:=@Array.getElem?_eq_none
abbrev zY:=@List.getElem?_map
abbrev zZ:=@List.take_of_length_le
abbrev ja:=@List.map_congr_left
abbrev jb:=@List.map_map
abbrev jc:=@List.mem_iff_getElem
open Go
structure Sl (α:Type) where
 nil:Bool
 l:List α
def aj{α β:Type}(x:Option α)(f:α->Option β):Option β:=match x with|some a=>f a|none=>none
def az{α:Type}(x:Bool)(a b:Option α):Option α:=match x with|true=>a|false=>b
def LZ{α:Type}(x:Bool)(a b:α):α:=match x with|true=>a|false=>b
def bR{α β:Type}(f:α->Option β)(y:α⊕β):Option β:=match y with|.inl a=>f a|.inr b=>some b
def av(a:Bool):Bool:=!a
def aF(a b:Bool):Bool:=a&&b
def cZ{α:Type}(l:List α)(i:Int):Option α:=if 0<=i then l[i.toNat]? else none
def bA{α:Type}(l:List α)(i:Int):Option Nat:=if 0<=i/\i<l.length then some i.toNat else none
def cf{α:Type}(l:List α)(lo hi:Int):Option (List α):=if 0<=lo/\lo<=hi/\hi<=l.length then some ((l.take hi.toNat).drop lo.toNat) else none
def ef(n:Int)(hi:Int):Option Nat:=if 0<=hi/\hi<=n then some hi.toNat else none
def fit(n:Int):Option Unit:=if n<=2147483648 then some () else none
def sV(n m:Int):Option Nat:=if 0<=n/\n<=m/\m<=2147483648 then some n.toNat else none
def vL(k:IntKind)(a b:Int):Option Int:=if b=0 then none else some (k.wrap (a.tdiv b))
def lB(a b:Int):Option Int:=if b=0 then none else some (a.tmod b)
def gZ(k:IntKind)(a b:Int):Option Int:=if b<0 then none else some (k.wrap (a*2 ^ min b.toNat k.bits))
def iK(k:IntKind)(a b:Int):Option Int:=if b<0 then none else some (a.fdiv (2 ^ min b.toNat k.bits))
def aG(k:IntKind)(a b:Int):Int:=k.wrap (a+b)
def bU(k:IntKind)(a b:Int):Int:=k.wrap (a-b)
def mq(k:IntKind)(a b:Int):Int:=k.wrap (a*b)
def fS(k:IntKind)(a:Int):Int:=k.wrap a
def jD(k:IntKind)(a b:Int):Int:=k.wrap (BitVec.ofInt k.bits a&&&BitVec.ofInt k.bits b).toNat
def po(k:IntKind)(a b:Int):Int:=k.wrap (BitVec.ofInt k.bits a|||BitVec.ofInt k.bits b).toNat
def nM(k:IntKind)(a b:Int):Int:=k.wrap (BitVec.ofInt k.bits a ^^^ BitVec.ofInt k.bits b).toNat
def jE(k:IntKind)(a b:Int):Int:=k.wrap (BitVec.ofInt k.bits a&&&~~~BitVec.ofInt k.bits b).toNat
def aK(a b:Int):Bool:=decide (a<b)
def cK(a b:Int):Bool:=decide (a<=b)
def ag(a b:Int):Bool:=a==b
def fQ(a b:Bool):Bool:=a==b
def eU(a b:List Int):Bool:=a==b
def fY(a b:List Int):List Int:=a++b
def jF(a b:Int):Int:=if b<a then b else a
def ji(a b:Int):Int:=if a<b then b else a
def aQ(a b:Int):Int:=a+b
def ae{α:Type}(l:List α):Int:=(l.length:Int)
def app{α:Type}(l m:List α):List α:=l++m
def rep{α:Type}(n:Nat)(x:α):List α:=List.replicate n x
def nth{α:Type}(l:List α)(n:Nat):Option α:=l[n]?
def ia{α:Type}(l:List α)(n:Nat)(x:α):List α:=l.set n x
def aI{α:Type}(l:List α)(n:Nat):List α:=l.take n
def cQ{α:Type}(l:List α)(n:Int):List α:=l.drop n.toNat
def ib{α:Type}(l:List α)(n:Int)(z:α):List α:=l.take n.toNat++List.replicate (l.length-n.toNat) z
def pv{α:Type}(l m:List α):List α:=m.take l.length++l.drop m.length
def cj{α:Type}(l:List α):Bool:=l.isEmpty
def strLt:List Int->List Int->Bool
 |_,[]=>false
 |[],_::_=>true
 |a::x,b::y=>decide (a<b)||(decide (a=b)&&strLt x y)
def j4{κ ν:Type}(eq:κ->κ->Bool)(k:κ):List (κ×ν)->Option ν
 |[]=>none
 |(k',v)::m=>bif eq k k' then some v else j4 eq k m
def lC{κ ν:Type}(eq:κ->κ->Bool)(k:κ)(m:List (κ×ν))(z:ν):ν:=(j4 eq k m).getD z
def tE{κ ν:Type}(eq:κ->κ->Bool)(k:κ)(m:List (κ×ν)):Bool:=(j4 eq k m).isSome
def j5{κ ν:Type}(eq:κ->κ->Bool)(k:κ)(v:ν):List (κ×ν)->List (κ×ν)
 |[]=>[(k,v)]
 |(k',v')::m=>bif eq k k' then(k,v)::m else(k',v')::j5 eq k v m
def j6{κ ν:Type}(eq:κ->κ->Bool)(k:κ):List (κ×ν)->List (κ×ν)
 |[]=>[]
 |(k',v')::m=>bif eq k k' then m else(k',v')::j6 eq k m
def vc(l:List Int):ByteArray:=⟨(l.map fun b=>UInt8.ofNat b.toNat).toArray⟩
def dP(l:List Int)(p:Int):Int:=((Utf8.decode (vc l) p.toNat).1:Int)
def eV(l:List Int)(p:Int):Int:=if p<l.length then p+((Utf8.decode (vc l) p.toNat).2:Int) else p
def ic(a b:Nat):Option Nat:=Ieee.double.add a b
def C4(a b:Nat):Bool:=(Ieee.double.order a b==some .lt)||(Ieee.double.order a b==some .eq)
def cR(n:Int):Nat:=FloatKind.nearest .f64 n
def mr{σ ρ:Type}(f:σ->Option (σ⊕ρ)):Nat->σ->Option ρ
 |0,_=>none
 |n+1,s=>match f s with
  |some (.inl s')=>mr f n s'
  |some (.inr r)=>some r
  |none=>none
open Classical in
noncomputable def aX{σ ρ:Type}(f:σ->Option (σ⊕ρ))(s:σ):Option ρ:=if h:∃r n,mr f n s=some r then some (Classical.choose h) else none
structure Lf:Type 1 where
 b:{α β:Type}->Option α->(α->Option β)->Option β
 c:{α:Type}->Bool->Option α->Option α->Option α
 LZ:{α:Type}->Bool->α->α->α
 bR:{α β:Type}->(α->Option β)->α⊕β->Option β
 t:Bool->Bool
 d:Bool->Bool->Bool
 g:{α:Type}->List α->Int->Option α
 bA:{α:Type}->List α->Int->Option Nat
 cf:{α:Type}->List α->Int->Int->Option (List α)
 ef:Int->Int->Option Nat
 f:Int->Option Unit
 sV:Int->Int->Option Nat
 vL:IntKind->Int->Int->Option Int
 lB:Int->Int->Option Int
 gZ:IntKind->Int->Int->Option Int
 iK:IntKind->Int->Int->Option Int
 a:IntKind->Int->Int->Int
 u:IntKind->Int->Int->Int
 mq:IntKind->Int->Int->Int
 fS:IntKind->Int->Int
 jD:IntKind->Int->Int->Int
 po:IntKind->Int->Int->Int
 nM:IntKind->Int->Int->Int
 jE:IntKind->Int->Int->Int
 l:Int->Int->Bool
 m:Int->Int->Bool
 e:Int->Int->Bool
 fQ:Bool->Bool->Bool
 h:List Int->List Int->Bool
 q:List Int->List Int->List Int
 jF:Int->Int->Int
 ji:Int->Int->Int
 s:Int->Int->Int
 n:{α:Type}->List α->Int
 app:{α:Type}->List α->List α->List α
 rep:{α:Type}->Nat->α->List α
 nth:{α:Type}->List α->Nat->Option α
 ia:{α:Type}->List α->Nat->α->List α
 aI:{α:Type}->List α->Nat->List α
 cQ:{α:Type}->List α->Int->List α
 ib:{α:Type}->List α->Int->α->List α
 pv:{α:Type}->List α->List α->List α
 i:{α:Type}->List α->Bool
 strLt:List Int->List Int->Bool
 lC:{κ ν:Type}->(κ->κ->Bool)->κ->List (κ×ν)->ν->ν
 tE:{κ ν:Type}->(κ->κ->Bool)->κ->List (κ×ν)->Bool
 j5:{κ ν:Type}->(κ->κ->Bool)->κ->ν->List (κ×ν)->List (κ×ν)
 j6:{κ ν:Type}->(κ->κ->Bool)->κ->List (κ×ν)->List (κ×ν)
 o:{σ ρ:Type}->(σ->Option (σ⊕ρ))->σ->Option ρ
 ic:Nat->Nat->Option Nat
 C4:Nat->Nat->Bool
 cR:Int->Nat
 dP:List Int->Int->Int
 eV:List Int->Int->Int
noncomputable def lf:Lf where
 b:=@aj
 c:=@az
 LZ:=@LZ
 bR:=@bR
 t:=av
 d:=aF
 g:=@cZ
 bA:=@bA
 cf:=@cf
 ef:=ef
 f:=fit
 sV:=sV
 vL:=vL
 lB:=lB
 gZ:=gZ
 iK:=iK
 a:=aG
 u:=bU
 mq:=mq
 fS:=fS
 jD:=jD
 po:=po
 nM:=nM
 jE:=jE
 l:=aK
 m:=cK
 e:=ag
 fQ:=fQ
 h:=eU
 q:=fY
 jF:=jF
 ji:=ji
 s:=aQ
 n:=@ae
 app:=@app
 rep:=@rep
 nth:=@nth
 ia:=@ia
 aI:=@aI
 cQ:=@cQ
 ib:=@ib
 pv:=@pv
 i:=@cj
 strLt:=strLt
 lC:=@lC
 tE:=@tE
 j5:=@j5
 j6:=@j6
 o:=@aX
 ic:=ic
 C4:=C4
 cR:=cR
 dP:=dP
 eV:=eV
inductive Ty where
 |int (k:IntKind)|bool|str|sl (e:Ty)|unit|pair (a b:Ty)|st (p:Ty)|arr (n:Nat) (e:Ty)
 |ks (p:Ty)
 |fc|dC
 deriving DecidableEq
inductive gu (α:Type) where
 |node (x:α) (nl:Bool) (ks:List (gu α))
def gu.x{α:Type}:gu α->α
 |.node x _ _=>x
def gu.s{α:Type}:gu α->Sl (gu α)
 |.node _ nl ks=>⟨nl,ks⟩
abbrev den:Ty->Type
 |.int _=>Int
 |.bool=>Bool
 |.fc=>Nat
 |.dC=>Nat×Nat
 |.str=>List Int
 |.sl e=>Sl (den e)
 |.unit=>Unit
 |.pair a b=>den a×den b
 |.st p=>den p
 |.arr _ e=>List (den e)
 |.ks p=>Sl (gu (den p))
def aJ:Ty->Nat
 |.unit=>0
 |.pair a b=>aJ a+aJ b
 |.st p=>aJ p
 |.arr n e=>n*aJ e
 |_=>1
def zero:(t:Ty)->den t
 |.int _=>(0:Int)
 |.bool=>false
 |.fc=>(0:Nat)
 |.dC=>((0:Nat),(0:Nat))
 |.str=>([]:List Int)
 |.sl e=>(⟨true,[]⟩:Sl (den e))
 |.unit=>()
 |.pair a b=>(zero a,zero b)
 |.st p=>zero p
 |.arr n e=>List.replicate n (zero e)
 |.ks p=>(⟨true,[]⟩:Sl (gu (den p)))
def D7:Ty->Ty->Ty
 |.pair a b,k=>.pair a (D7 b k)
 |t,k=>.pair t k
def C5:(p k:Ty)->den p->den k->den (D7 p k)
 |.pair _ b,k,x,y=>(x.1,C5 b k x.2 y)
 |.int _,_,x,y=>(x,y)
 |.bool,_,x,y=>(x,y)
 |.fc,_,x,y=>(x,y)
 |.dC,_,x,y=>(x,y)
 |.str,_,x,y=>(x,y)
 |.sl _,_,x,y=>(x,y)
 |.unit,_,x,y=>(x,y)
 |.st _,_,x,y=>(x,y)
 |.arr _ _,_,x,y=>(x,y)
 |.ks _,_,x,y=>(x,y)
def L0:(p k:Ty)->den (D7 p k)->den p
 |.pair _ b,k,z=>(z.1,L0 b k z.2)
 |.int _,_,z=>z.1
 |.bool,_,z=>z.1
 |.fc,_,z=>z.1
 |.dC,_,z=>z.1
 |.str,_,z=>z.1
 |.sl _,_,z=>z.1
 |.unit,_,z=>z.1
 |.st _,_,z=>z.1
 |.arr _ _,_,z=>z.1
 |.ks _,_,z=>z.1
def IF:(p k:Ty)->den (D7 p k)->den k
 |.pair _ b,k,z=>IF b k z.2
 |.int _,_,z=>z.2
 |.bool,_,z=>z.2
 |.fc,_,z=>z.2
 |.dC,_,z=>z.2
 |.str,_,z=>z.2
 |.sl _,_,z=>z.2
 |.unit,_,z=>z.2
 |.st _,_,z=>z.2
 |.arr _ _,_,z=>z.2
 |.ks _,_,z=>z.2
abbrev mg(p:Ty):Ty:=.st (D7 p (.ks p))
def AQ(p:Ty)(s:Sl (gu (den p))):den (.sl (mg p)):=(⟨s.nil,s.l.map fun r=>C5 p (.ks p) r.x r.s⟩:Sl (den (mg p)))
def Hb(p:Ty)(s:Sl (den (mg p))):Sl (gu (den p)):=⟨s.nil,s.l.map fun z=>.node (L0 p (.ks p) z) (IF p (.ks p) z).nil (IF p (.ks p) z).l⟩
inductive V:Type where
 |d (t:Ty) (x:den t)
 |bM (id ver:Nat)
 |pre (id ver:Nat) (n:Nat) (aaa:Bool)
 |ptr (id off:Nat)
 |j7 (id ver:Nat) (i:Nat) (path:List Nat)
 |ref (t:Ty) (x:den t)
 |gI
 |fn (f:Nat) (caps:List V)
 |gw
 |jx (vs:List V)
 |agg (cs:List V)
 |mp (id:Nat)
 |jj
 |ie
 |fq
 |lb (b:Bool)
 |undef
 |dQ
 |dA (id:Nat) (b:Bool)
 |jG (id ver:Nat) (lo:Int)
 |it (id:Nat)
 |L1 (b:Bool) (p c:Int)
 |fa (a:List (Nat×Bool)) (k n:Int)
 |rr (t:Ty) (x:den t)
inductive Obj:Type where
 |box (cs:List V)
 |vec (t:Ty) (ver:Nat) (fr:Bool) (s:Sl (den t))
 |map (k v:Ty) (m:List (den k×den v))
 |dead
 |none
 |iter (s:List Int) (p:Int)
structure St:Type where
 env:Nat->V
 obj:Nat->Obj
def eg:V->V
 |.lb b=>.d .bool b
 |v=>v
def cu{α:Type}(f:Nat->α)(i:Nat)(x:α):Nat->α:=fun j=>bif Nat.beq j i then x else f j
def ak{α:Type}(f:Nat->α):List (Nat×α)->Nat->α
 |[]=>f
 |(i,x)::r=>ak (cu f i x) r
def gJ(t:Ty):(t':Ty)->den t'->Option (den t):=fun t' x=>
 match decEq t' t with
 |isTrue h=>some (h▸x)
 |isFalse _=>none
section
variable (L:Lf)
def jk(o:Nat->Obj)(t:Ty):V->Option (den t)
 |.d t' x=>gJ t t' x
 |.bM id ver=>match o id with
  |.vec e aC _ s=>bif Nat.beq ver aC then gJ t (.sl e) s else none
  |_=>none
 |.pre id ver n _=>match o id with
  |.vec e aC _ s=>bif Nat.beq ver aC then gJ t (.sl e) (⟨s.nil,L.aI s.l n⟩:Sl (den e)) else none
  |_=>none
 |.fq=>match t with
  |.sl e=>some (⟨true,[]⟩:Sl (den e))
  |_=>none
 |.jG id ver lo=>match o id with
  |.vec e aC _ s=>bif Nat.beq ver aC then gJ t (.sl e) (⟨s.nil,L.cQ s.l lo⟩:Sl (den e)) else none
  |_=>none
 |_=>none
def Hc(o:Nat->Obj):(t:Ty)->V->Option (den t)
 |.ks p,v=>match jk L o (.sl (mg p)) v with
  |some s=>some (Hb p s)
  |none=>none
 |_,_=>none
def mu(o:Nat->Obj)(t:Ty)(v:V):Option (den t):=match jk L o t v with
 |some x=>some x
 |none=>Hc L o t v
def vM:(t:Ty)->den t->List V
 |.unit,_=>[]
 |.pair a b,x=>vM a x.1++vM b x.2
 |.st p,x=>vM p x
 |.ks p,x=>[.d (.sl (mg p)) (AQ p x)]
 |t,x=>[.d t x]
def lD(o:Nat->Obj):(t:Ty)->List V->Option (den t×List V)
 |.unit,cs=>some ((),cs)
 |.pair a b,cs=>match lD o a cs with
  |some (x,r)=>match lD o b r with
   |some (y,r')=>some ((x,y),r')
   |none=>none
  |none=>none
 |.st p,cs=>lD o p cs
 |.arr _ _,_=>none
 |t,c::r=>match mu L o t c with
  |some x=>some (x,r)
  |none=>none
 |_,[]=>none
def fT(o:Nat->Obj)(t:Ty)(v:V):Option (den t):=
 match v with
 |.agg cs=>match t with
  |.st p=>match lD L o p cs with
   |some (x,[])=>some x
   |_=>none
  |_=>none
 |v=>mu L o t v
end
def desc(P:Program)(t:TypeId):Option TypeDesc:=
 match P.types.toList[t]? with
 |some i=>match i.desc with
  |.named _ u=>match P.types.toList[u]? with
   |some j=>some j.desc
   |none=>none
  |d=>some d
 |none=>none
def size(P:Program)(t:TypeId):Nat:=match P.types.toList[t]? with|some i=>i.size|none=>0
def IG(P:Program)(t:TypeId)(f:Nat):Option Field:=
 match desc P t with
 |some (.struct fs)=>fs.toList[f]?
 |_=>none
def Hd:(p:Ty)->Nat->den p->Option ((t:Ty)×den t)
 |.pair a _,0,x=>some ⟨a,x.1⟩
 |.pair _ b,n+1,x=>Hd b n x.2
 |.unit,_,_=>none
 |.ks p,0,x=>some ⟨.sl (mg p),AQ p x⟩
 |t,0,x=>some ⟨t,x⟩
 |_,_+1,_=>none
def He:(t:Ty)->Nat->den t->Option ((t:Ty)×den t)
 |.st p,n,x=>Hd p n x
 |_,_,_=>none
def L2:(path:List Nat)->(t:Ty)->den t->Option ((t:Ty)×den t)
 |[],t,x=>some ⟨t,x⟩
 |f::r,t,x=>match He t f x with
  |some ⟨u,y⟩=>L2 r u y
  |none=>none
def tF:(p:Ty)->Nat->den p->((t:Ty)->den t->Option (den t))->Option (den p)
 |.pair a b,0,x,g=>match g a x.1 with|some y=>some ((y,x.2):den (.pair a b))|none=>none
 |.pair a b,n+1,x,g=>match tF b n x.2 g with|some y=>some ((x.1,y):den (.pair a b))|none=>none
 |.unit,_,_,_=>none
 |.ks p,0,x,g=>match g (.sl (mg p)) (AQ p x) with|some s=>some (Hb p s)|none=>none
 |t,0,x,g=>g t x
 |_,_+1,_,_=>none
def O0:(t:Ty)->Nat->den t->((t:Ty)->den t->Option (den t))->Option (den t)
 |.st p,n,x,g=>tF p n x g
 |_,_,_,_=>none
def D8:(path:List Nat)->(t:Ty)->den t->((t:Ty)->den t->Option (den t))->Option (den t)
 |[],t,x,g=>g t x
 |f::r,t,x,g=>O0 t f x (fun u y=>D8 r u y g)
inductive Sh where
 |d (t:Ty)|bM (id:Nat)|ptr (id off:Nat)|ref (t:Ty)|gI|fn (f:Nat) (caps:List Sh)|gw
 |jx (l:List Sh)|agg (l:List Sh)|mp (id:Nat)|jj|ie|dQ|dA (id:Nat)|jG (id:Nat)|it (id:Nat)|fa (a:List (Nat×Bool))|rr (t:Ty)
inductive fW where
 |box (cs:List Sh)|vec (t:Ty)|map (k v:Ty)|gone|iter
structure Shape where
 roots:List Sh
 ay:List fW
mutual
def Hf:Sh->List Ty->List Ty
 |.d t,r=>t::r
 |.ref t,r=>t::r
 |.rr t,r=>t::r
 |.fn _ l,r=>iH l r
 |.jx l,r=>iH l r
 |.agg l,r=>iH l r
 |.dA _,r=>.bool::r
 |.jG _,r=>.int .i64::r
 |.fa _,r=>.int .i64::.int .i64::r
 |_,r=>r
def iH:List Sh->List Ty->List Ty
 |[],r=>r
 |s::l,r=>Hf s (iH l r)
end
def Hg:fW->List Ty->List Ty
 |.box cs,r=>iH cs r
 |.vec t,r=>.sl t::r
 |.map k v,r=>.arr 0 (.pair k v)::r
 |.gone,r=>r
 |.iter,r=>.str::.int .i64::r
def bV:List fW->List Ty->List Ty
 |[],r=>r
 |s::l,r=>Hg s (bV l r)
def Shape.aN(s:Shape):List Ty:=iH s.roots (bV s.ay [])
abbrev ai:List Ty->Type
 |[]=>Unit
 |t::ts=>den t×ai ts
mutual
def kD(ρ κ:Nat->Nat):(s:Sh)->(r:List Ty)->ai (Hf s r)->V×ai r
 |.d t,_,c=>(.d t c.1,c.2)
 |.ref t,_,c=>(.ref t c.1,c.2)
 |.rr t,_,c=>(.rr t c.1,c.2)
 |.fn f l,r,c=>let p:=fG ρ κ l r c;(.fn f p.1,p.2)
 |.jx l,r,c=>let p:=fG ρ κ l r c;(.jx p.1,p.2)
 |.agg l,r,c=>let p:=fG ρ κ l r c;(.agg p.1,p.2)
 |.bM id,_,c=>(.bM (ρ id) (κ id),c)
 |.ptr id off,_,c=>(.ptr (ρ id) off,c)
 |.gI,_,c=>(.gI,c)
 |.gw,_,c=>(.gw,c)
 |.mp id,_,c=>(.mp (ρ id),c)
 |.jj,_,c=>(.jj,c)
 |.ie,_,c=>(.ie,c)
 |.dQ,_,c=>(.dQ,c)
 |.dA id,_,c=>(.dA (ρ id) c.1,c.2)
 |.jG id,_,c=>(.jG (ρ id) (κ id) c.1,c.2)
 |.it id,_,c=>(.it (ρ id),c)
 |.fa a,_,c=>(.fa a c.1 c.2.1,c.2.2)
def fG(ρ κ:Nat->Nat):(l:List Sh)->(r:List Ty)->ai (iH l r)->List V×ai r
 |[],_,c=>([],c)
 |s::l,r,c=>let p:=kD ρ κ s (iH l r) c;let q:=fG ρ κ l r p.2;(p.1::q.1,q.2)
end
def fH(ρ κ:Nat->Nat)(i:Nat):(s:fW)->(r:List Ty)->ai (Hg s r)->Obj×ai r
 |.box cs,r,c=>let p:=fG ρ κ cs r c;(.box p.1,p.2)
 |.vec t,_,c=>(.vec t (κ i) false c.1,c.2)
 |.map k v,_,c=>(.map k v c.1,c.2)
 |.gone,_,c=>(.dead,c)
 |.iter,_,c=>(.iter c.1 c.2.1,c.2.2)
def gx(ρ κ:Nat->Nat):Nat->(l:List fW)->(r:List Ty)->ai (bV l r)->List (Nat×Obj)
 |_,[],_,_=>[]
 |i,s::l,r,c=>let p:=fH ρ κ i s (bV l r) c;(ρ i,p.1)::gx ρ κ (i+1) l r p.2
def fill(ρ κ:Nat->Nat)(s:Shape)(c:ai s.aN):List V×List (Nat×Obj):=
 let p:=fG ρ κ s.roots (bV s.ay []) c
 (p.1,gx ρ κ 0 s.ay [] p.2)
abbrev Ren:=List Nat
def idx(cC:Nat):Ren->Nat->Option Nat
 |[],_=>none
 |x::r,i=>bif Nat.beq x cC then some i else idx cC r (i+1)
def D9(cC:Nat)(aL:Ren):Nat×Ren:=match idx cC aL 0 with
 |some i=>(i,aL)
 |none=>(aL.length,aL++[cC])
mutual
def shV(o:Nat->Obj):V->Ren->Sh×Ren
 |.d t _,aL=>(.d t,aL)
 |.ref t _,aL=>(.ref t,aL)
 |.rr t _,aL=>(.rr t,aL)
 |.bM id ver,aL=>match o id with
  |.vec t aC fr _=>bif Nat.beq ver aC then(bif fr then(.d (.sl t),aL) else let p:=D9 id aL;(.bM p.1,p.2)) else(.dQ,aL)
  |_=>(.dQ,aL)
 |.pre id ver _ _,aL=>match o id with
  |.vec t aC fr _=>bif Nat.beq ver aC then(bif fr then(.d (.sl t),aL) else let p:=D9 id aL;(.bM p.1,p.2)) else(.dQ,aL)
  |_=>(.dQ,aL)
 |.ptr id off,aL=>match o id with
  |.none=>(.dQ,aL)
  |.dead=>(.dQ,aL)
  |_=>let p:=D9 id aL;(.ptr p.1 off,p.2)
 |.gI,aL=>(.gI,aL)
 |.fn f l,aL=>let p:=Ea o l aL;(.fn f p.1,p.2)
 |.gw,aL=>(.gw,aL)
 |.jx l,aL=>let p:=Ea o l aL;(.jx p.1,p.2)
 |.agg l,aL=>let p:=Ea o l aL;(.agg p.1,p.2)
 |.mp id,aL=>let p:=D9 id aL;(.mp p.1,p.2)
 |.it id,aL=>let p:=D9 id aL;(.it p.1,p.2)
 |.fa a _ _,aL=>(.fa a,aL)
 |.jj,aL=>(.jj,aL)
 |.ie,aL=>(.ie,aL)
 |.dA id _,aL=>match o id with
  |.box _=>let p:=D9 id aL;(.dA p.1,p.2)
  |_=>(.dQ,aL)
 |.jG id ver _,aL=>match o id with
  |.vec t aC fr _=>bif Nat.beq ver aC then(bif fr then(.d (.sl t),aL) else let p:=D9 id aL;(.jG p.1,p.2)) else(.dQ,aL)
  |_=>(.dQ,aL)
 |_,aL=>(.dQ,aL)
def Ea(o:Nat->Obj):List V->Ren->List Sh×Ren
 |[],aL=>([],aL)
 |v::l,aL=>let p:=shV o v aL;let q:=Ea o l p.2;(p.1::q.1,q.2)
end
def shO(o:Nat->Obj)(b:Obj)(aL:Ren):fW×Ren:=match b with
 |.box cs=>let p:=Ea o cs aL;(.box p.1,p.2)
 |.vec t _ _ _=>(.vec t,aL)
 |.map k v _=>(.map k v,aL)
 |.none=>(.gone,aL)
 |.dead=>(.gone,aL)
 |.iter _ _=>(.iter,aL)
def IH(o:Nat->Obj):Nat->Nat->Ren->List fW
 |0,_,_=>[]
 |n+1,i,aL=>match aL[i]? with
  |some cC=>let p:=shO o (o cC) aL;p.1::IH o n (i+1) p.2
  |none=>[]
def z6n(sk:List Nat)(o:Nat->Obj)(vs:List V):Shape:=
 let p:=Ea o vs sk
 ⟨p.1,IH o 100 0 p.2⟩
structure PS where
 aL:List (Nat×Nat)
 cut:List (Nat×Nat)
 cg:List Nat
 full:List Nat
def ig(i:Nat):List (Nat×Nat)->Option Nat
 |[]=>none
 |(a,b)::r=>bif Nat.beq a i then some b else ig i r
def vO(j:Nat):List (Nat×Nat)->Bool
 |[]=>false
 |(_,b)::r=>bif Nat.beq b j then true else vO j r
def bJ(j:Nat):List Nat->Bool
 |[]=>false
 |b::r=>bif Nat.beq b j then true else bJ j r
def L3(j:Nat):List (Nat×Nat)->Option Nat
 |[]=>none
 |(a,b)::r=>bif Nat.beq b j then some a else L3 j r
def O1(n:Nat):Option Nat->Bool
 |some m=>Nat.beq m n
 |none=>false
def II:Option Nat->Bool
 |some _=>false
 |none=>true
def tie(i cC:Nat)(s:PS):PS:={s with aL:=(i,cC)::s.aL}
def L4(k:Nat)(all:List (Nat×Nat)):List (Nat×Nat)->Bool
 |[]=>true
 |(i,cC)::r=>Nat.blt i k&&O1 cC (ig i all)&&O1 i (L3 cC all)&&L4 k all r
def L5:List (Nat×Nat)->Bool
 |[]=>true
 |(id,_)::r=>II (ig id r)&&L5 r
def L6(cut:List (Nat×Nat)):List Nat->Bool
 |[]=>true
 |id::r=>II (ig id cut)&&L6 cut r
def L7:List Nat->List (Nat×Nat)->Bool
 |[],_=>true
 |j::l,aL=>bif vO j aL then false else L7 l aL
def Eb(k:Nat)(ps:PS):Bool:=L4 k ps.aL ps.aL&&L5 ps.cut&&L6 ps.cut ps.full&&L7 ps.cg ps.aL
def L8(o:Nat->Obj)(id:Nat):Bool:=match o id with
 |.box _=>true
 |.vec _ ver false _=>Nat.beq ver 0
 |.map _ _ _=>true
 |_=>false
def tG(o:Nat->Obj):List Nat->Bool
 |[]=>true
 |id::r=>L8 o id&&tG o r
def Hh(cut:List (Nat×Nat)):List Nat->Bool
 |[]=>true
 |id::r=>II (ig id cut)&&Hh cut r
def qV:Nat->List Nat->List (Nat×Nat)
 |_,[]=>[]
 |i,id::r=>(i,id)::qV (i+1) r
def dD(sk:List Nat)(i:Nat):Nat:=match sk[i]? with
 |some j=>j
 |none=>1000000+i
def O2:List Nat->List (Nat×Nat)
 |[]=>[]
 |id::r=>(id,id)::O2 r
def Hi(k:Nat):List Nat->Bool
 |[]=>true
 |id::r=>Nat.blt id k&&Nat.blt id 1000000&&!(bJ id r)&&Hi k r
mutual
def fj(o:Nat->Obj):V->List Nat
 |.bM id _=>match o id with|.vec _ _ true _=>[]|_=>[id]
 |.pre id _ _ _=>match o id with|.vec _ _ true _=>[]|_=>[id]
 |.jG id _ _=>match o id with|.vec _ _ true _=>[]|_=>[id]
 |.agg l=>pw o l
 |_=>[]
def pw(o:Nat->Obj):List V->List Nat
 |[]=>[]
 |v::l=>fj o v++pw o l
end
def Hj(o:Nat->Obj)(id:Nat):List Nat:=match o id with
 |.box cs=>pw o cs
 |_=>[]
section
variable (L:Lf)
def qW(o:Nat->Obj)(t:Ty)(id:Nat):Option (den t):=match o id with
 |.box cs=>match lD L o t cs with
  |some (x,[])=>some x
  |_=>none
 |_=>none
abbrev Take:=Option (PS×(∀r,ai r->ai r))
def vd(b:Bool)(ps:PS):Take:=match b with
 |true=>some (ps,fun _ c=>c)
 |false=>none
def z9n:V->Bool
 |.gI=>true
 |_=>false
def z9o:V->Bool
 |.gw=>true
 |_=>false
def z9p:V->Bool
 |.jj=>true
 |_=>false
def z9q:V->Bool
 |.ie=>true
 |_=>false
def O3(o:Nat->Obj)(t:Ty)(v:V)(ps:PS):Option (PS×(∀r,ai r->den t×ai r)):=match fT L o t v with
 |some x=>some ({ps with cg:=fj o v++ps.cg},fun _ c=>(x,c))
 |none=>none
def IJ(o:Nat->Obj)(t:Ty)(v:V)(ps:PS):Option (PS×(∀r,ai r->den t×ai r)):=match v with
 |.ref t' x=>match gJ t t' x with
  |some x=>some (ps,fun _ c=>(x,c))
  |none=>none
 |.ptr id off=>bif Nat.beq off 0 then(match qW L o t id with
  |some x=>some ({ps with cg:=id::(Hj o id++ps.cg)},fun _ c=>(x,c))
  |none=>none) else none
 |_=>none
def O4(o:Nat->Obj)(t:Ty)(id:Nat):Option (Nat×den t):=match o id with
 |.box [.ptr kE Ec]=>bif Nat.beq Ec 0 then(match qW L o t kE with
  |some x=>some (kE,x)
  |none=>none) else none
 |_=>none
def Ed(o:Nat->Obj)(t:Ty)(v:V)(ps:PS):Option (PS×(∀r,ai r->den t×ai r)):=match v with
 |.rr t' x=>match gJ t t' x with
  |some x=>some (ps,fun _ c=>(x,c))
  |none=>none
 |.ptr id off=>bif Nat.beq off 0 then(match O4 L o t id with
  |some (kE,x)=>some ({ps with cg:=id::kE::(Hj o kE++ps.cg)},fun _ c=>(x,c))
  |none=>none) else none
 |_=>none
def IK(o:Nat->Obj)(i:Nat)(v:V)(ps:PS):Take:=match v with
 |.bM id ver=>match o id with
  |.vec _ aC false _=>vd (Nat.beq ver aC) {tie i id ps with full:=id::ps.full}
  |_=>none
 |.pre id ver n _=>match o id with
  |.vec _ aC false _=>vd (Nat.beq ver aC) {tie i id ps with cut:=(id,n)::ps.cut}
  |_=>none
 |_=>none
def IL(o:Nat->Obj)(i off:Nat)(v:V)(ps:PS):Take:=match v with
 |.ptr id Ee=>match o id with
  |.box _=>vd (Nat.beq off Ee) (tie i id ps)
  |.vec _ aC false _=>vd (Nat.beq off Ee&&Nat.beq 0 aC) (tie i id ps)
  |_=>none
 |_=>none
def vP(o:Nat->Obj)(i:Nat)(v:V)(ps:PS):Take:=match v with
 |.mp id=>match o id with
  |.map _ _ _=>some (tie i id ps,fun _ c=>c)
  |_=>none
 |_=>none
def vQ(o:Nat->Obj)(i:Nat)(v:V)(ps:PS):Take:=match v with
 |.it id=>match o id with
  |.iter _ _=>some (tie i id ps,fun _ c=>c)
  |_=>none
 |_=>none
def IM(o:Nat->Obj)(i:Nat)(v:V)(ps:PS):Option (PS×(∀r,ai r->den .bool×ai r)):=match v with
 |.dA id b=>match o id with
  |.box _=>some (tie i id ps,fun _ c=>(b,c))
  |_=>none
 |_=>none
def L9(o:Nat->Obj)(i:Nat)(v:V)(ps:PS):Option (PS×(∀r,ai r->den (.int .i64)×ai r)):=match v with
 |.jG id ver lo=>match o id with
  |.vec _ aC false _=>bif Nat.beq ver aC then some ({tie i id ps with full:=id::ps.full},fun _ c=>((lo:den (.int .i64)),c)) else none
  |_=>none
 |_=>none
def Ef(f:Nat)(c:Bool):List (Nat×Bool)->Nat->Option Nat
 |[],_=>none
 |(g,d)::r,i=>bif Nat.beq g f&&(bif c then d else !d) then some i else Ef f c r (i+1)
def IN:List (Nat×Bool)->List (Nat×Bool)->Bool
 |[],[]=>true
 |(f,c)::a,(g,d)::b=>Nat.beq f g&&(bif c then d else !d)&&IN a b
 |_,_=>false
def nN{α:Type}:List α->Nat->Nat
 |[],i=>i
 |_::r,i=>nN r (i+1)
def AR(o:Nat->Obj)(a:List (Nat×Bool))(v:V)(ps:PS):Option (PS×(∀r,ai r->den (.int .i64)×den (.int .i64)×ai r)):=match v with
 |.fa b k n=>bif IN b a then some (ps,fun _ c=>(k,n,c)) else none
 |.gw=>some (ps,fun _ c=>(Int.ofNat (nN a 0),(0:Int),c))
 |.fn f []=>match(bif Nat.blt f 1048576 then Ef f false a 0 else none) with
  |some i=>some (ps,fun _ c=>(Int.ofNat i,(0:Int),c))
  |none=>none
 |.fn f [w]=>match(bif Nat.blt f 1048576 then Ef f true a 0 else none) with
  |some i=>match IJ L o (.int .i64) w ps with
   |some (aZ,g)=>some (aZ,fun r c=>(Int.ofNat i,g r c))
   |none=>none
  |none=>none
 |_=>none
def AS(f:Nat):V->Option (List V)
 |.fn f' l=>bif Nat.beq f f' then some l else none
 |_=>none
def Ma:V->Option (List V)
 |.jx l=>some l
 |_=>none
def AT:V->Option (List V)
 |.agg l=>some l
 |_=>none
mutual
def C6(o:Nat->Obj):(s:Sh)->V->PS->Option (PS×(∀r,ai r->ai (Hf s r)))
 |.d t,v,ps=>O3 L o t v ps
 |.ref t,v,ps=>IJ L o t v ps
 |.rr t,v,ps=>Ed L o t v ps
 |.bM i,v,ps=>IK o i v ps
 |.ptr i off,v,ps=>IL o i off v ps
 |.gI,v,ps=>vd (z9n v) ps
 |.fn f l,v,ps=>match AS f v with
  |some l'=>mh o l l' ps
  |none=>none
 |.gw,v,ps=>vd (z9o v) ps
 |.jx l,v,ps=>match Ma v with
  |some l'=>mh o l l' ps
  |none=>none
 |.agg l,v,ps=>match AT v with
  |some l'=>mh o l l' ps
  |none=>none
 |.mp i,v,ps=>vP o i v ps
 |.jj,v,ps=>vd (z9p v) ps
 |.ie,v,ps=>vd (z9q v) ps
 |.dQ,_,ps=>vd true ps
 |.dA i,v,ps=>IM o i v ps
 |.jG i,v,ps=>L9 o i v ps
 |.it i,v,ps=>vQ o i v ps
 |.fa a,v,ps=>AR L o a v ps
def mh(o:Nat->Obj):(l:List Sh)->List V->PS->Option (PS×(∀r,ai r->ai (iH l r)))
 |[],vs,ps=>vd vs.isEmpty ps
 |s::l,vs,ps=>match vs with
  |v::vs=>match C6 o s v ps with
   |some (ps,f)=>match mh o l vs ps with
    |some (ps,g)=>some (ps,fun r c=>f _ (g r c))
    |none=>none
   |none=>none
  |[]=>none
end
def vR(o:Nat->Obj)(cC:Nat):(s:fW)->PS->Option (PS×(∀r,ai r->ai (Hg s r)))
 |.box l,ps=>match o cC with
  |.box cs=>mh L o l cs ps
  |_=>none
 |.vec t,ps=>match o cC with
  |.vec t' _ false s=>match gJ (.sl t) (.sl t') s with
   |some s=>match ig cC ps.cut with
    |some n=>some (ps,fun _ c=>((⟨s.nil,L.aI s.l n⟩:Sl (den t)),c))
    |none=>some ({ps with full:=cC::ps.full},fun _ c=>(s,c))
   |none=>none
  |_=>none
 |.map k v,ps=>match o cC with
  |.map k' v' m=>match gJ (.arr 0 (.pair k v)) (.arr 0 (.pair k' v')) m with
   |some m=>some (ps,fun _ c=>(m,c))
   |none=>none
  |_=>none
 |.gone,ps=>some (ps,fun _ c=>c)
 |.iter,ps=>match o cC with
  |.iter s p=>some (ps,fun _ c=>((s:den .str),(p:den (.int .i64)),c))
  |_=>none
def mv(o:Nat->Obj):Nat->(l:List fW)->PS->Option (PS×(∀r,ai r->ai (bV l r)))
 |_,[],ps=>some (ps,fun _ c=>c)
 |i,.gone::l,ps=>match mv o (i+1) l ps with
   |some (ps,g)=>some (ps,fun r c=>g r c)
   |none=>none
 |i,s::l,ps=>match ig i ps.aL with
  |some cC=>match vR L o cC s ps with
   |some (ps,f)=>match mv o (i+1) l ps with
    |some (ps,g)=>some (ps,fun r c=>f _ (g r c))
    |none=>none
   |none=>none
  |none=>none
def pack(o:Nat->Obj)(aL:List (Nat×Nat))(s:Shape)(vs:List V):Option (PS×ai s.aN):=
 match mh L o s.roots vs ⟨aL,[],[],[]⟩ with
 |some (ps,f)=>match mv L o 0 s.ay ps with
  |some (ps,g)=>bif Eb s.ay.length ps then some (ps,f _ (g [] ())) else none
  |none=>none
 |none=>none
def Eg(sk:List Nat)(aL:List (Nat×Nat))(o:Nat->Obj)(s:Shape)(vs:List V):Option (PS×ai s.aN):=
 match pack L o aL s vs with
 |some p=>bif tG o sk&&Hh p.1.cut sk then some p else none
 |none=>none
end
inductive Pk:Type 1 where
 |fail
 |lE (v:V) (u:List (Nat×Obj))
 |dyn (α:Type) (x:Option α) (out:α->V×List (Nat×Obj))
def Pk.now(v:V)(u:List (Nat×Obj):=[]):Pk:=.lE v u
def Pk.j8{t:Ty}(x:Option (den t)):Pk:=.dyn (den t) x (fun y=>(.d t y,[]))
def Pk.when(b:Bool)(p:Pk):Pk:=match b with|true=>p|false=>.fail
section
variable (L:Lf)
def fR:(t:Ty)->den t->den t->Bool
 |.int _,a,b=>L.e a b
 |.bool,a,b=>L.fQ a b
 |.str,a,b=>L.h a b
 |.unit,_,_=>true
 |.pair s t,a,b=>L.d (fR s a.1 b.1) (fR t a.2 b.2)
 |.st p,a,b=>fR p a b
 |_,_,_=>false
end
def C7:Ty->Bool
 |.int _=>true|.bool=>true|.str=>true|_=>false
structure lr where
 f:Nat
 ins:Shape
 outs:Shape
 bH:List Nat
structure Cx where
 P:Program
 sigs:List lr
 j9:Nat->Option ((t:Ty)×den t)
 eM:List (Nat×Ty)
 eqs:List Nat
 gW:Nat
 px:Nat
def AU:List (Nat×Ty)->Nat->Option Ty
 |[],_=>none
 |(a,T)::r,t=>bif Nat.beq a t then some T else AU r t
def Cx.ty(C:Cx)(t:TypeId):Option Ty:=AU C.eM t
def qX:IntKind->Nat
 |.i8=>0|.i16=>1|.i32=>2|.i64=>3|.u8=>4|.u16=>5|.u32=>6|.u64=>7
def nO:Ty->Ty->Bool
 |.int k,.int k'=>Nat.beq (qX k) (qX k')
 |.bool,.bool=>true
 |.fc,.fc=>true
 |.dC,.dC=>true
 |.str,.str=>true
 |.sl a,.sl b=>nO a b
 |.unit,.unit=>true
 |.pair a b,.pair c d=>nO a c&&nO b d
 |.st a,.st b=>nO a b
 |.arr n a,.arr m b=>Nat.beq n m&&nO a b
 |.ks a,.ks b=>nO a b
 |_,_=>false
def gK(T:Ty):Option Ty->Bool
 |some T'=>nO T' T
 |none=>false
def Cx.is(C:Cx)(t:TypeId)(T:Ty):Bool:=gK T (C.ty t)
def tH(P:Program)(t:TypeId):Option (Bool×Nat):=match P.types.toList[t]? with
 |none=>none
 |some i=>match desc P t with
  |some (.struct _)=>some (true,i.size)
  |some (.array ..)=>some (true,i.size)
  |some _=>some (false,i.size)
  |none=>none
def ka:Ty->Bool
 |.int _=>true|.bool=>true|.str=>true|.sl _=>true|.fc=>true|.dC=>true|_=>false
def Hk(o:Nat->Obj):V->Bool
 |.d t _=>ka t
 |.bM id ver=>match o id with|.vec _ aC _ _=>Nat.beq ver aC|_=>false
 |.pre id ver _ _=>match o id with|.vec _ aC _ _=>Nat.beq ver aC|_=>false
 |.ptr id _=>match o id with|.box _=>true|.vec _ aC _ _=>Nat.beq 0 aC|_=>false
 |.j7 id ver _ _=>match o id with|.vec _ aC _ _=>Nat.beq ver aC|_=>false
 |.ref _ _=>true
 |.gI=>true
 |.fn _ _=>true
 |.gw=>true
 |.mp id=>match o id with|.map .. =>true|_=>false
 |.it id=>match o id with|.iter .. =>true|_=>false
 |.jj=>true
 |.ie=>true
 |.fq=>true
 |.dA id _=>match o id with|.box _=>true|_=>false
 |.jG id ver _=>match o id with|.vec _ aC _ _=>Nat.beq ver aC|_=>false
 |.fa .. =>true
 |_=>false
def nP:List V->Bool
 |.dA _ _::_=>true
 |_=>false
def Mb:Ty->Bool
 |.int .u8=>false
 |_=>true
def tI(o:Nat->Obj):List V->Bool
 |[]=>true
 |v::r=>Hk o v&&tI o r
def IP(o:Nat->Obj):V->Option (List V)
 |.d (.st p) x=>bif tI o (vM p x) then some (vM p x) else none
 |.agg cs=>bif tI o cs then some cs else none
 |v=>bif Hk o v then some [v] else none
def nQ:Ty->Nat->Option Ty
 |.pair a _,0=>some a
 |.pair _ b,n+1=>nQ b n
 |.unit,_=>none
 |.ks p,0=>some (.sl (mg p))
 |t,0=>some t
 |_,_+1=>none
def Ab:List Nat->Ty->Option Ty
 |[],t=>some t
 |f::r,.st p=>match nQ p f with
  |some u=>Ab r u
  |none=>none
 |_::_,_=>none
def aM:List lr->Nat->lr
 |[],_=>⟨0,⟨[],[]⟩,⟨[],[]⟩,[]⟩
 |s::_,0=>s
 |_::r,n+1=>aM r n
abbrev iX(sg:List lr):=(i:Nat)->ai (aM sg i).ins.aN->Option (ai (aM sg i).outs.aN)
section
variable (L:Lf) (C:Cx)
def AV(k:IntKind)(n:Int):Bool:=decide (k.min<=n)&&decide (n<=k.max)
def C8:Value->V
 |.bool b=>.d .bool b
 |.float .f64 b=>.d .fc b
 |.complex .f64 a b=>.d .dC (a,b)
 |.int k n=>bif AV k n then .d (.int k) n else .dQ
 |.string s=>bif Nat.ble s.size 1000000 then .d .str (s.data.toList.map fun b=>(b.toNat:Int)) else .dQ
 |.pointer none=>.gI
 |.map none=>.jj
 |.nilFunc=>.gw
 |.nilIface=>.ie
 |.slice none 0 0=>.fq
 |_=>.dQ
def cv(env:Nat->V):Operand->V
 |.tmp t=>eg (env t)
 |.const v=>C8 v
 |.global g=>match C.j9 g with
  |some ⟨t,x⟩=>.ref t x
  |none=>.dQ
 |.func f=>bif Nat.blt f 1048576 then .fn f [] else .dQ
def AW(env:Nat->V):Operand->V
 |.tmp t=>env t
 |x=>cv C env x
def eu(o:Nat->Obj):List Nat->List (Nat×Obj)
 |[]=>[]
 |id::r=>match o id with
  |.vec t ver _ s=>(id,.vec t ver true s)::eu o r
  |_=>eu o r
def AX(id:Nat):List Nat->Bool
 |[]=>true
 |b::r=>bif Nat.beq b id then false else AX id r
def Ac(o:Nat->Obj):V->Option ((t:Ty)×Sl (den t))
 |.bM id ver=>match o id with
  |.vec t aC _ s=>bif Nat.beq ver aC then some ⟨t,s⟩ else none
  |_=>none
 |.pre id ver n _=>match o id with
  |.vec t aC _ s=>bif Nat.beq ver aC then some ⟨t,⟨s.nil,L.aI s.l n⟩⟩ else none
  |_=>none
 |.jG id ver lo=>match o id with
  |.vec t aC _ s=>bif Nat.beq ver aC then some ⟨t,⟨s.nil,L.cQ s.l lo⟩⟩ else none
  |_=>none
 |_=>none
def asInt:V->Option ((_:IntKind)×Int)
 |.d (.int k) n=>some ⟨k,n⟩
 |_=>none
def oT(t:TypeId):Option Ty:=match desc C.P t with
 |some (.slice e)=>C.ty e
 |_=>none
def IQ(t:TypeId):Option (Nat×Ty):=match desc C.P t with
 |some (.array n e)=>match C.ty e with
  |some e=>some (n,e)
  |none=>none
 |_=>none
def Mc:List V->Bool
 |[]=>false
 |.fq::_=>true
 |_::r=>Mc r
def Md(o:Nat->Obj)(t:TypeId)(cs:List V):V:=
 match C.ty t with
 |some (.st p)=>match pw o cs,Mc cs with
  |[],false=>match lD L o p cs with
   |some (x,[])=>.d (.st p) x
   |_=>.agg cs
  |_,_=>.agg cs
 |_=>.agg cs
def Hl(l:List V)(i:Nat)(cs:List V):List V:=l.take i++cs++l.drop (i+cs.length)
def Me(o:Nat->Obj)(t:TypeId):V->Pk
 |.ref t' x=>.when (C.is t t') (.now (.d t' x))
 |.rr t' x=>match tH C.P t with
  |some (false,_)=>.now (.ref t' x)
  |_=>.fail
 |.ptr id off=>match o id with
  |.box cs=>match tH C.P t with
   |some (true,n)=>.when (Nat.ble (off+n) cs.length) (.now (Md L C o t ((cs.drop off).take n)))
   |some (false,_)=>match cs[off]? with
    |some v=>.now v
    |none=>.fail
   |none=>.fail
  |_=>.fail
 |.j7 id ver i path=>match o id with
  |.vec e aC _ s=>match Ab path e with
   |some t'=>.when (Nat.beq ver aC&&C.is t t') (.dyn (den e) (L.nth s.l i) (fun x=>match L2 path e x with
     |some ⟨t,y⟩=>(.d t y,[])
     |none=>(.dQ,[])))
   |none=>.fail
  |_=>.fail
 |_=>.fail
def O5(o:Nat->Obj)(t:TypeId)(a v:V):Pk:=
 match a with
 |.ptr id off=>match o id with
  |.box cs=>match IP o v with
   |some vs=>match tH C.P t with
    |some (_,n)=>.when (Nat.beq vs.length n&&Nat.ble (off+n) cs.length&&!nP vs) (.now .undef [(id,.box (Hl cs off vs))])
    |none=>.fail
   |none=>.fail
  |_=>.fail
 |.j7 id ver i path=>match o id with
  |.vec e aC false s=>match Ab path e with
   |some t'=>.when (Nat.beq ver aC&&C.is t t'&&AX id (fj o v))
    (.dyn (den e) (L.b (L.nth s.l i) fun x=>D8 path e x (fun u _=>fT L o u v)) (fun y=>(.undef,eu o (fj o v)++[(id,.vec e aC false ⟨s.nil,L.ia s.l i y⟩)])))
   |none=>.fail
  |_=>.fail
 |_=>.fail
def O6(op:BinOp)(k:IntKind)(a b:Int):Pk:=
 match op with
 |.add=>.now (.d (.int k) (L.a k a b))
 |.sub=>.now (.d (.int k) (L.u k a b))
 |.mul=>.now (.d (.int k) (L.mq k a b))
 |.quo=>.j8 (t:=.int k) (L.vL k a b)
 |.rem=>.j8 (t:=.int k) (L.lB a b)
 |.and=>.now (.d (.int k) (L.jD k a b))
 |.or=>.now (.d (.int k) (L.po k a b))
 |.xor=>.now (.d (.int k) (L.nM k a b))
 |.andNot=>.now (.d (.int k) (L.jE k a b))
 |.eql=>.now (.d .bool (L.e a b))
 |.neq=>.now (.d .bool (L.t (L.e a b)))
 |.lss=>.now (.d .bool (L.l a b))
 |.leq=>.now (.d .bool (L.m a b))
 |.gtr=>.now (.d .bool (L.l b a))
 |.geq=>.now (.d .bool (L.m b a))
 |_=>.fail
def O7(op:BinOp)(a b:List Int):Pk:=
 match op with
 |.add=>.dyn Unit (L.f (L.s (L.n a) (L.n b))) (fun _=>(.d .str (L.q a b),[]))
 |.eql=>.now (.d .bool (L.h a b))
 |.neq=>.now (.d .bool (L.t (L.h a b)))
 |.lss=>.now (.d .bool (L.strLt a b))
 |.gtr=>.now (.d .bool (L.t (L.t (L.d (L.t (L.strLt a b)) (L.t (L.h a b))))))
 |.leq=>.now (.d .bool (L.t (L.d (L.t (L.strLt a b)) (L.t (L.h a b)))))
 |.geq=>.now (.d .bool (L.t (L.strLt a b)))
 |_=>.fail
def O8(op:BinOp)(a b:Nat):Pk:=
 match op with
 |.add=>.j8 (t:=.fc) (L.ic a b)
 |.leq=>.now (.d .bool (L.C4 a b))
 |_=>.fail
def O9(op:BinOp)(a b:Nat×Nat):Pk:=
 match op with
 |.add=>.j8 (t:=.dC) (L.b (L.ic a.1 b.1) fun x=>L.b (L.ic a.2 b.2) fun y=>some (x,y))
 |_=>.fail
def jl(op:BinOp)(b:Bool):Pk:=
 match op with
 |.eql=>.now (.d .bool b)
 |.neq=>.now (.d .bool (L.t b))
 |_=>.fail
def tJ(t:TypeId):Nat:=match desc C.P t with
 |some .bool=>0
 |some (.slice _)=>1
 |some (.func ..)=>2
 |some (.pointer _)=>3
 |some (.map ..)=>4
 |_=>5
def sure(o:Nat->Obj):V->Bool
 |.ptr id _=>match o id with|.box _=>true|.vec _ aC _ _=>Nat.beq 0 aC|_=>false
 |.ref _ _=>true
 |_=>false
def Hm(o:Nat->Obj)(op:BinOp)(t:TypeId)(x y:V):Pk:=
 match x,y with
 |.d (.int k) a,.d (.int k') b=>match op with
  |.shl=>.j8 (t:=.int k) (L.gZ k a b)
  |.shr=>.j8 (t:=.int k) (L.iK k a b)
  |op=>match decEq k k' with
   |isTrue _=>O6 L op k a b
   |isFalse _=>.fail
 |.d .str a,.d .str b=>O7 L op a b
 |.d .fc a,.d .fc b=>O8 L op a b
 |.d .dC a,.d .dC b=>O9 L op a b
 |.d .bool a,.d .bool b=>.when (Nat.beq (tJ C t) 0) (jl L op (L.fQ a b))
 |.d (.st p) a,.d (.st p') b=>match gJ p p' b with
  |some b=>.when (bJ t C.eqs&&C.is t (.st p)) (jl L op (fR L p a b))
  |none=>.fail
 |.d (.sl _) s,.fq=>.when (Nat.beq (tJ C t) 1) (jl L op (Sl.nil s))
 |.fq,.fq=>.when (Nat.beq (tJ C t) 1) (jl L op true)
 |.fn _ _,.gw=>.when (Nat.beq (tJ C t) 2) (jl L op false)
 |.gw,.gw=>.when (Nat.beq (tJ C t) 2) (jl L op true)
 |.fa a k _,.gw=>.when (Nat.beq (tJ C t) 2) (jl L op (L.e k (Int.ofNat (nN a 0))))
 |.gI,.gI=>.when (Nat.beq (tJ C t) 3) (jl L op true)
 |v,.gI=>.when (Nat.beq (tJ C t) 3&&sure o v) (jl L op false)
 |v,.fq=>match Ac L o v with
  |some ⟨_,s⟩=>.when (Nat.beq (tJ C t) 1) (jl L op s.nil)
  |none=>.fail
 |_,_=>.fail
def Pa(o:Nat->Obj)(t:TypeId)(x:V):Pk:=
 match desc C.P t with
 |some .string=>match x with
  |.d .str l=>.now (.d (.int .i64) (L.n (α:=Int) l))
  |_=>.fail
 |some (.slice _)=>match x with
  |.d (.sl _) s=>.now (.d (.int .i64) (L.n s.l))
  |.fq=>.now (.d (.int .i64) (0:Int))
  |v=>match Ac L o v with
   |some ⟨_,s⟩=>.now (.d (.int .i64) (L.n s.l))
   |none=>.fail
 |some (.map ..)=>match x with
  |.mp id=>match o id with
   |.map _ _ _=>.fail
   |_=>.fail
  |.jj=>.now (.d (.int .i64) (0:Int))
  |_=>.fail
 |some (.array n _)=>.when (Nat.ble n 1000000) (.now (.d (.int .i64) ((n:Nat):Int)))
 |_=>.fail
def Mg(o:Nat->Obj)(e:Ty):V->Option (List (den e))
 |.d .str l=>gJ (.arr 0 e) (.arr 0 (.int .u8)) l
 |v=>match mu L o (.sl e) v with
  |some s=>some s.l
  |none=>none
def IS(id ver:Nat)(e:Ty)(nil:Bool)(l m:List (den e)):Pk:=.dyn Unit (L.f (L.s (L.n l) (L.n m))) (fun _=>(.bM id ver,[(id,.vec e ver false ⟨L.d nil (L.i m),L.app l m⟩)]))
def Pb(t:TypeId):Bool:=match desc C.P t with|some (.slice _)=>true|some .string=>true|_=>false
def Pc(o:Nat->Obj)(fresh:Nat)(t u:TypeId)(x y:V):Pk:=
 match oT C t with
 |none=>.fail
 |some e=>match Mg L o e y with
  |none=>.fail
  |some m=>.when (Pb C u&&Nat.blt 0 (aJ e)) (match x with
   |.fq=>IS L fresh 0 e true [] m
   |.bM id ver=>match o id with
    |.vec e' aC false s=>match gJ (.sl e) (.sl e') s with
     |some s=>.when (Nat.beq ver aC) (IS L id (ver+1) e s.nil s.l m)
     |none=>.fail
    |_=>.fail
   |.pre id ver n cp=>match o id with
    |.vec e' aC fr s=>match gJ (.sl e) (.sl e') s with
     |some s=>.when (Nat.beq ver aC) (match cp,fr with
      |false,false=>IS L id (ver+1) e s.nil (L.aI s.l n) m
      |true,_=>.dyn Unit (L.b (L.f (L.s (L.n (L.aI s.l n)) (L.n m))) fun _=>L.c (L.i m) none (some ())) (fun _=>(.bM fresh 0,[(fresh,.vec e 0 false ⟨false,L.app (L.aI s.l n) m⟩)]))
      |_,_=>.fail)
     |none=>.fail
    |_=>.fail
   |_=>.fail)
def bd(d:Int)(h:Option V):Option Int:=match h with
 |none=>some d
 |some v=>match asInt v with
  |some ⟨_,n⟩=>some n
  |none=>none
def Mh(t:TypeId):Nat:=match desc C.P t with
 |some .string=>0
 |some (.slice _)=>1
 |some (.array ..)=>2
 |_=>3
def Pd(o:Nat->Obj)(fresh:Nat)(t:TypeId)(x:V)(lo hi mx:Option V):Pk:=
 match x,mx with
 |.d .str l,none=>match bd 0 lo,bd (L.n (α:=Int) l) hi with
  |some a,some b=>.when (Nat.beq (Mh C t) 0) (.dyn (List Int) (L.cf l a b) (fun m=>(.d .str m,[])))
  |_,_=>.fail
 |.d (.sl e) s,none=>match bd 0 lo,bd (L.n s.l) hi with
  |some a,some b=>.when (gK e (oT C t)) (.dyn (List (den e)) (L.cf s.l a b) (fun m=>(.d (.sl e) (⟨s.nil,m⟩:Sl (den e)),[])))
  |_,_=>.fail
 |.d (.sl e) s,some _=>match lo,bd 1 hi,bd 1 mx with
  |none,some b,some c=>.when (gK e (oT C t)&&Mb e) (.dyn Unit (L.c (L.e b 0) (L.c (L.e c 0) (some ()) none) none) (fun _=>(.bM fresh 0,[(fresh,.vec e 0 false ⟨s.nil,[]⟩)])))
  |_,_,_=>.fail
 |.bM id ver,some _=>match o id with
  |.vec e aC _ s=>.when (Nat.beq ver aC&&gK e (oT C t)) (match lo,bd (-1) hi,bd (-1) mx with
    |none,some b,some c=>.dyn Nat (L.b (L.ef (L.n s.l) b) fun p=>L.c (L.e b c) (some p) none) (fun p=>(.pre id ver p true,[]))
    |_,_,_=>.fail)
  |_=>.fail
 |.bM id ver,none=>match o id with
  |.vec e aC _ s=>.when (Nat.beq ver aC&&gK e (oT C t)) (match lo with
    |none=>match bd (L.n s.l) hi with
     |some b=>.dyn Nat (L.ef (L.n s.l) b) (fun p=>(.pre id ver p false,[]))
     |none=>.fail
    |some ve=>match hi with
     |none=>(match bd 0 (some ve) with
      |some a=>.dyn Nat (L.ef (L.n s.l) a) (fun _=>(.jG id ver a,[]))
      |none=>.fail)
     |some _=>match bd 0 lo,bd (L.n s.l) hi with
     |some a,some b=>.dyn (List (den e)) (L.cf s.l a b) (fun m=>(.d (.sl e) (⟨s.nil,m⟩:Sl (den e)),[(id,.vec e aC true s)]))
     |_,_=>.fail)
  |_=>.fail
 |_,_=>.fail
def Pe(o:Nat->Obj)(t:TypeId)(x i:V):Pk:=
 match asInt i with
 |none=>.fail
 |some ⟨_,n⟩=>match x with
  |.d (.sl e) s=>.when (gK e (oT C t)) (.dyn (den e) (L.g s.l n) (fun y=>(.ref e y,[])))
  |.ref (.arr m e) l=>match IQ C t with
   |some (m',e')=>.when (Nat.beq m m'&&gK e (some e')) (.dyn (den e) (L.g l n) (fun y=>(.ref e y,[])))
   |none=>.fail
  |.bM id ver=>match o id with
   |.vec e aC _ s=>.when (Nat.beq ver aC&&gK e (oT C t)) (.dyn Nat (L.bA s.l n) (fun j=>(.j7 id ver j [],[])))
   |_=>.fail
  |.pre id ver k _=>match o id with
   |.vec e aC _ s=>.when (Nat.beq ver aC&&gK e (oT C t)) (.dyn Nat (L.bA (L.aI s.l k) n) (fun j=>(.j7 id ver j [],[])))
   |_=>.fail
  |.jG id ver lo=>match o id with
   |.vec e aC _ s=>.when (Nat.beq ver aC&&gK e (oT C t)) (.dyn Nat (L.c (L.m 0 n) (L.bA s.l (L.s lo n)) none) (fun j=>(.j7 id ver j [],[])))
   |_=>.fail
  |.ptr id 0=>match o id with
   |.vec e 0 _ s=>match IQ C t with
    |some (m,e')=>.when (gK e (some e')) (.dyn Nat (L.b (L.ef ((m:Nat):Int) (L.s n 1)) fun _=>L.bA s.l n) (fun j=>(.j7 id 0 j [],[])))
    |none=>.fail
   |_=>.fail
  |_=>.fail
def Pf(t:TypeId)(x i:V):Pk:=
 match asInt i with
 |none=>.fail
 |some ⟨_,n⟩=>match x with
  |.d .str l=>.when (Nat.beq (Mh C t) 0) (.j8 (t:=.int .u8) (L.g (α:=Int) l n))
  |.d (.arr m e) l=>match IQ C t with
   |some (m',e')=>.when (Nat.beq m m'&&gK e (some e')) (.j8 (t:=e) (L.g l n))
   |none=>.fail
  |_=>.fail
def Hn(o:Nat->Obj)(t:TypeId)(x:V)(f:Nat):Pk:=
 match IG C.P t f with
 |none=>.fail
 |some fd=>match tH C.P fd.type with
  |some (_,sz)=>.when (Nat.blt 0 sz) (match x with
   |.ptr id off=>match o id with
    |.box _=>.now (.ptr id (off+fd.offset))
    |_=>.fail
   |.ref t' y=>.when (C.is t t') (match He t' f y with
    |some ⟨u,z⟩=>.now (.ref u z)
    |none=>.fail)
   |.j7 id ver i path=>match o id with
    |.vec e aC _ _=>match Ab path e with
     |some t'=>match t' with
      |.st p=>match nQ p f with
       |some _=>.when (Nat.beq ver aC&&C.is t t') (.now (.j7 id ver i (path++[f])))
       |none=>.fail
      |_=>.fail
     |none=>.fail
    |_=>.fail
   |_=>.fail)
  |none=>.fail
def Pg(t:TypeId)(x:V)(f:Nat):Pk:=
 match x with
 |.d t' y=>.when (C.is t t') (match He t' f y with
  |some ⟨u,z⟩=>.now (.d u z)
  |none=>.fail)
 |.agg cs=>match IG C.P t f with
  |some fd=>match tH C.P fd.type with
   |some (true,n)=>.when (Nat.ble (fd.offset+n) cs.length) (.now (.agg ((cs.drop fd.offset).take n)))
   |some (false,_)=>match cs[fd.offset]? with
    |some v=>.now v
    |none=>.fail
   |none=>.fail
  |none=>.fail
 |_=>.fail
def vS(e:TypeId):Bool:=match desc C.P e with|some (.int .u8)=>true|_=>false
def Ph(o:Nat->Obj)(fresh:Nat)(s t:TypeId)(x:V):Pk:=
 match desc C.P s with
 |none=>.fail
 |some ds=>match desc C.P t with
  |some (.int k)=>match x with
   |.d (.int _) n=>.now (.d (.int k) (L.fS k n))
   |_=>.fail
  |some (.float .f64)=>match x with
   |.d (.int _) n=>.now (.d .fc (L.cR n))
   |_=>.fail
  |some .string=>match x with
   |.d .str l=>.now (.d .str l)
   |v=>match ds with
    |.slice e=>.when (vS C e&&Nat.blt 0 1) (match mu L o (.sl (.int .u8)) v with
     |some s=>.now (.d .str (Sl.l s))
     |none=>.fail)
    |_=>.fail
  |some (.slice e)=>match x with
   |.d .str l=>match ds with
    |.string=>.when (vS C e) (.dyn Unit (L.f (L.n l)) (fun _=>(.bM fresh 0,[(fresh,.vec (.int .u8) 0 false ⟨false,l⟩)])))
    |_=>.fail
   |.bM id ver=>match ds with
    |.slice _=>match o id with
     |.vec (.int .u8) aC false b=>.when (vS C e&&Nat.beq s t&&Nat.beq ver aC) (.dyn Unit (L.c b.nil none (some ())) (fun _=>(.bM id ver,[(id,.vec (.int .u8) ver false b)])))
     |_=>.fail
    |_=>.fail
   |_=>.fail
  |_=>.fail
def Mi(t:TypeId):Option (List V):=match C.P.types.toList[t]? with
 |some i=>match i.zero with
  |some z=>some (z.cells.toList.map C8)
  |none=>none
 |none=>none
def Mj(o:Nat->Obj)(fs:List Field):List (Nat×V)->List V->Option (List V)
 |[],cs=>some cs
 |p::r,cs=>match fs[p.1]?,IP o p.2 with
  |some fd,some vs=>match tH C.P fd.type with
   |some (_,n)=>bif Nat.beq vs.length n&&Nat.ble (fd.offset+n) cs.length then Mj o fs r (Hl cs fd.offset vs) else none
   |none=>none
  |_,_=>none
def C9(o:Nat->Obj)(e:Ty):List (Nat×V)->List (den e)->Option (List (den e))
 |[],l=>some l
 |p::r,l=>match fT L o e p.2 with
  |some x=>bif Nat.blt p.1 l.length then C9 o e r (l.set p.1 x) else none
  |none=>none
def vf(o:Nat->Obj):List (Nat×V)->List Nat
 |[]=>[]
 |p::r=>fj o p.2++vf o r
def Mk(P:Program):List Field->Bool
 |[]=>true
 |f::r=>match tH P f.type with
  |some _=>Mk P r
  |none=>false
def Pj(o:Nat->Obj)(t:TypeId)(parts:List (Nat×V)):Pk:=
 match desc C.P t with
 |some (.struct fs)=>.when (Mk C.P fs.toList) (match Mi C t with
  |some z=>match Mj C o fs.toList parts z with
   |some cs=>.now (Md L C o t cs)
   |none=>.fail
  |none=>.fail)
 |some (.array n _)=>match C.ty t with
  |some (.arr n' e)=>.when (Nat.beq n n') (match C9 L o e parts (List.replicate n (zero e)) with
   |some l=>.now (.d (.arr n' e) l) (eu o (vf o parts))
   |none=>.fail)
  |_=>.fail
 |_=>.fail
def Pl(o:Nat->Obj)(fresh:Nat)(t:TypeId)(n:Nat)(parts:List (Nat×V)):Pk:=
 match oT C t with
 |some e=>.when (Nat.ble (n*aJ e) 16777216&&Nat.blt 0 (aJ e)) (match C9 L o e parts (List.replicate n (zero e)) with
  |some l=>.now (.bM fresh 0) (eu o (vf o parts)++[(fresh,.vec e 0 false ⟨false,l⟩)])
  |none=>.fail)
 |none=>.fail
def vT:Nat->TypeId->List (Option Ty)
 |0,_=>[]
 |n+1,t=>match desc C.P t with
  |some (.struct fs)=>(fs.toList.map fun f=>vT n f.type).flatten
  |some (.slice e)=>[C.ty e]
  |some (.array ..)=>match tH C.P t with
   |some (_,k)=>List.replicate k none
   |none=>[]
  |_=>[none]
def nf(i:Nat):List V->List (Option Ty)->List V×List (Nat×Obj)
 |.fq::r,some e::s=>let p:=nf (i+1) r s;(.bM i 0::p.1,(i,.vec e 0 false ⟨true,[]⟩)::p.2)
 |v::r,_::s=>let p:=nf i r s;(v::p.1,p.2)
 |l,[]=>(l,[])
 |[],_=>([],[])
def tK:List V->Nat
 |[]=>0
 |.fq::r=>tK r+1
 |_::r=>tK r
def Ml(fresh:Nat)(t:TypeId)(cs:List V):Pk:=
 let p:=bif Nat.ble (tK cs) 14 then nf (fresh+1) cs (vT C 8 t) else(cs,[])
 .when (!nP p.1) (.now (.ptr fresh 0) ((fresh,.box p.1)::p.2))
def Pm(fresh:Nat):List V->Pk
 |[.gI,.fq]=>.now (.ptr fresh 0) [(fresh,.box [.dA fresh false,.bM (fresh+1) 0]),(fresh+1,.vec (.int .u8) 0 false ⟨true,[]⟩)]
 |_=>.fail
def Mm(fresh:Nat):List V->Pk
 |[.gI,.fq,.d s x,.d t y]=>.when (ka s&&ka t) (.now (.ptr fresh 0) [(fresh,.box [.dA fresh false,.bM (fresh+1) 0,.d s x,.d t y]),(fresh+1,.vec (.int .u8) 0 false ⟨true,[]⟩)])
 |_=>.fail
def Po:Option Ty->Bool
 |none=>true
 |some _=>false
def Mn:Ty->Bool
 |.ks _=>true
 |.pair a b=>Mn a||Mn b
 |.st p=>Mn p
 |_=>false
def Pp:Option Ty->Bool
 |none=>false
 |some t=>Mn t
def Pq(fresh:Nat)(t:TypeId)(b:Bool):Pk->Pk
 |.lE (.agg cs) []=>bif b&&Mc cs&&Nat.ble (tK cs) 15 then .now (.agg (nf fresh cs (vT C 8 t)).1) (nf fresh cs (vT C 8 t)).2 else .now (.agg cs)
 |p=>p
def Pr(fresh:Nat)(t:TypeId):Pk:=
 match C.ty t with
 |some (.arr n e)=>.when (Nat.blt 0 (aJ e)&&Nat.ble n 1000000&&Mb e) (.now (.ptr fresh 0) [(fresh,.vec e 0 false ⟨false,List.replicate n (zero e)⟩)])
 |_=>match Mi C t with
  |some cs=>bif Nat.beq t C.gW then Pm fresh cs else bif Nat.beq t C.px then Mm fresh cs else Ml C fresh t cs
  |none=>.fail
def Ps(o:Nat->Obj)(fresh:Nat)(t:TypeId)(v:V):Pk:=
 match v with
 |.d (.arr n e) l=>.when (Nat.blt 0 (aJ e)&&Nat.ble n 1000000&&Mb e) (.now (.ptr fresh 0) [(fresh,.vec e 0 false ⟨false,l⟩)])
 |v=>match IP o v with
  |some cs=>bif Nat.beq t C.px then Mm fresh cs else Ml C fresh t cs
  |none=>.fail
def IT(fresh:Nat)(t:TypeId)(v:V):Pk:=
 match v with
 |.fq=>match oT C t with
  |some e=>.now (.bM fresh 0) [(fresh,.vec e 0 false ⟨true,[]⟩)]
  |none=>.now .fq
 |v=>.now v
def Pu(x:Bool)(a b:V):V:=
 match a,b with
 |.d t a',.d t' b'=>match gJ t t' b' with
  |some b'=>.d t (L.LZ x a' b')
  |none=>bif x then a else b
 |_,_=>bif x then a else b
def IU(t:TypeId):Option (Ty×Ty):=match desc C.P t with
 |some (.map k v)=>match C.ty k,C.ty v with
  |some k,some v=>some (k,v)
  |_,_=>none
 |_=>none
def IV(t:TypeId)(tk tv:Ty):Bool:=match IU C t with
 |some (k,v)=>gK tk (some k)&&gK tv (some v)&&C7 tk
 |none=>false
def Pv(o:Nat->Obj)(t:TypeId)(m k:V)(ok:Bool):Pk:=
 match m with
 |.mp id=>match o id with
  |.map tk tv m=>match fT L o tk k with
   |some k=>.when (IV C t tk tv) (.now (bif ok then .jx [.d tv (L.lC (fR L tk) k m (zero tv)),.d .bool (L.tE (fR L tk) k m)]
     else .d tv (L.lC (fR L tk) k m (zero tv))))
   |none=>.fail
  |_=>.fail
 |.jj=>match IU C t with
  |some (tk,tv)=>match fT L o tk k with
   |some _=>.when (C7 tk) (.now (bif ok then .jx [.d tv (zero tv),.d .bool false] else .d tv (zero tv)))
   |none=>.fail
  |none=>.fail
 |_=>.fail
def Pw(o:Nat->Obj)(t:TypeId)(m k v:V):Pk:=
 match m with
 |.mp id=>match o id with
  |.map tk tv m=>match fT L o tk k,fT L o tv v with
   |some k,some x=>.when (IV C t tk tv&&(fj o v).isEmpty) (.now .undef [(id,.map tk tv (L.j5 (fR L tk) k x m))])
   |_,_=>.fail
  |_=>.fail
 |_=>.fail
def Px(fresh:Nat)(t:TypeId):Pk:=match IU C t with
 |some (tk,tv)=>.when (C7 tk) (.now (.mp fresh) [(fresh,.map tk tv [])])
 |none=>.fail
def Py(fresh:Nat)(t:TypeId)(l c:V):Pk:=
 match oT C t,asInt l,asInt c with
 |some e,some ⟨_,n⟩,some ⟨_,m⟩=>.when (Nat.blt 0 (aJ e)) (.dyn Nat (L.sV n m) (fun k=>(.bM fresh 0,[(fresh,.vec e 0 false ⟨false,L.rep k (zero e)⟩)])))
 |_,_,_=>.fail
def sW:Ty->Bool
 |.sl _=>true
 |.pair a b=>sW a||sW b
 |.st p=>sW p
 |.arr _ e=>sW e
 |.ks _=>true
 |.fc=>true
 |.dC=>true
 |_=>false
mutual
def IW:Sh->Bool
 |.d t=>sW t
 |.fa _=>true
 |.ref _=>true
 |.rr _=>true
 |.fn _ l=>vg l
 |.jx l=>vg l
 |.agg l=>vg l
 |_=>false
def vg:List Sh->Bool
 |[]=>false
 |s::l=>IW s||vg l
end
def qY:List fW->Bool
 |[]=>false
 |.box l::r=>vg l||qY r
 |.vec t::r=>sW t||qY r
 |.map k v::r=>sW k||sW v||qY r
 |.gone::r=>qY r
 |.iter::r=>qY r
def lu(s:Shape):Bool:=vg s.roots||qY s.ay
def Mo(o:Nat->Obj):List Nat->Bool
 |[]=>true
 |id::r=>(match o id with|.box _=>false|.map _ _ _=>false|.iter _ _=>false|_=>true)&&Mo o r
def Ad(bH:List Nat):Nat->Nat->List fW->Bool
 |0,_,_=>true
 |n+1,i,.gone::r=>AX i bH&&Ad bH n (i+1) r
 |n+1,i,_::r=>bJ i bH&&Ad bH n (i+1) r
 |_+1,_,[]=>false
variable (R:iX C.sigs)
def Mp(o:Nat->Obj)(aL:List (Nat×Nat)):Nat->Bool
 |0=>true
 |n+1=>(match ig n aL with
  |some cC=>(match o cC with|.none=>false|_=>true)
  |none=>false)&&Mp o aL n
def Mq(ps:PS):List Nat->Bool
 |[]=>true
 |i::r=>II (ig ((ig i ps.aL).getD 0) ps.cut)&&Mq ps r
def Mr(o:Nat->Obj)(ps:PS)(k:Nat)(outs:Shape)(bH:List Nat):Bool:=Mq ps bH&&Ad bH k 0 outs.ay&&(Mo o ps.cg||!(lu outs))&&Mp o ps.aL k&&Nat.ble outs.ay.length (k+16)
def Ae(aL:List (Nat×Nat))(k fresh:Nat):Nat->Nat:=fun id=>bif Nat.blt id k then(ig id aL).getD 0 else fresh+(id-k)
def W8:Obj->Nat
 |.vec _ ver _ _=>ver
 |_=>0
def AY(o:Nat->Obj)(aL:List (Nat×Nat))(k:Nat)(bH:List Nat):Nat->Nat:=fun id=>bif Nat.blt id k&&bJ id bH then W8 (o ((ig id aL).getD 0)) else 0
def vU:List V->V
 |[v]=>v
 |vs=>.jx vs
def Af(o:Nat->Obj)(fresh:Nat)(f:Nat)(args:List V):List lr->Nat->Pk
 |[],_=>.fail
 |s::r,i=>bif Nat.beq s.f f then match pack L o [] (aM C.sigs i).ins args with
   |some (ps,c)=>.when (Nat.beq (aM C.sigs i).f f&&Mr o ps (aM C.sigs i).ins.ay.length (aM C.sigs i).outs (aM C.sigs i).bH)
    (.dyn (ai (aM C.sigs i).outs.aN) (R i c) (fun y=>
     (vU (fill (Ae ps.aL (aM C.sigs i).ins.ay.length fresh) (AY o ps.aL (aM C.sigs i).ins.ay.length (aM C.sigs i).bH) (aM C.sigs i).outs y).1,
      (bif lu (aM C.sigs i).outs then eu o ps.cg else [])++(fill (Ae ps.aL (aM C.sigs i).ins.ay.length fresh) (AY o ps.aL (aM C.sigs i).ins.ay.length (aM C.sigs i).bH) (aM C.sigs i).outs y).2)))
   |none=>Af o fresh f args r (i+1)
  else Af o fresh f args r (i+1)
def faX:Pk->Option (Option Bool)
 |.dyn _ x out=>some (L.b x fun y=>match out y with
  |(.d .bool b,[])=>some b
  |_=>none)
 |_=>none
def IX(o:Nat->Obj)(fresh:Nat)(k n:Int)(args:List V):List (Nat×Bool)->Nat->Option (Option Bool)
 |[],_=>some none
 |(f,c)::r,i=>match faX L (Af L C R o fresh f (args++bif c then [.ref (.int .i64) n] else []) C.sigs 0) with
  |some x=>match IX o fresh k n args r (i+1) with
   |some y=>some (L.c (L.e k (Int.ofNat i)) x y)
   |none=>none
  |none=>none
def PA(o:Nat->Obj)(t:TypeId)(x y:V):Pk:=
 match x with
 |.bM id ver=>match o id with
  |.vec e aC false s=>match Mg L o e y with
   |some m=>.when (Nat.beq ver aC&&gK e (oT C t)) (.now (.d (.int .i64) (L.jF (L.n s.l) (L.n m))) [(id,.vec e ver false ⟨s.nil,L.pv s.l m⟩)])
   |none=>.fail
  |_=>.fail
 |_=>.fail
def PB(o:Nat->Obj)(t:TypeId)(m k:V):Pk:=
 match m with
 |.mp id=>match o id with
  |.map tk tv m=>match fT L o tk k with
   |some k=>.when (IV C t tk tv) (.now (.jx []) [(id,.map tk tv (L.j6 (fR L tk) k m))])
   |none=>.fail
  |_=>.fail
 |_=>.fail
def PD(o:Nat->Obj)(t:TypeId)(x:V):Pk:=
 match x with
 |.jG id ver lo=>match o id with
  |.vec e aC false s=>.when (Nat.beq ver aC&&gK e (oT C t)) (.now (.jx []) [(id,.vec e ver false ⟨s.nil,L.ib s.l lo (zero e)⟩)])
  |_=>.fail
 |_=>.fail
def W9(o:Nat->Obj)(fresh:Nat)(b:Builtin)(ts:List TypeId)(args:List V):Pk:=
 match b,ts,args with
 |.len,t::_,[x]=>Pa L C o t x
 |.append,t::u::_,[x,y]=>Pc L C o fresh t u x y
 |.copy,t::_,[x,y]=>PA L C o t x y
 |.clear,t::_,[x]=>PD L C o t x
 |.delete,t::_,[m,k]=>PB L C o t m k
 |.min,_,[.d (.int k) a,.d (.int k') b]=>.when (Nat.beq (qX k) (qX k')) (.now (.d (.int k) (L.jF a b)))
 |.max,_,[.d (.int k) a,.d (.int k') b]=>.when (Nat.beq (qX k) (qX k')) (.now (.d (.int k) (L.ji a b)))
 |.complex,_,[.d .fc a,.d .fc b]=>.now (.d .dC ((a:Nat),(b:Nat)))
 |.real,_,[.d .dC a]=>.now (.d .fc (Prod.fst (α:=Nat) (β:=Nat) a))
 |.imag,_,[.d .dC a]=>.now (.d .fc (Prod.snd (α:=Nat) (β:=Nat) a))
 |_,_,_=>.fail
def PE(fresh:Nat)(t:TypeId)(x:V):Pk:=match desc C.P t with
 |some .string=>match x with
  |.d .str l=>.now (.it fresh) [(fresh,.iter l 0)]
  |_=>.fail
 |_=>.fail
def PF(o:Nat->Obj)(x:V):Pk:=match x with
 |.it id=>match o id with
  |.iter l p=>.now (.L1 (L.l p (L.n l)) p (L.dP l p)) [(id,.iter l (L.eV l p))]
  |_=>.fail
 |_=>.fail
def PG(i:Nat):V->Pk
 |.jx vs=>match vs[i]? with
  |some v=>.now v
  |none=>.fail
 |.L1 b p c=>match i with
  |0=>.now (.d .bool b)
  |1=>.j8 (t:=.int .i64) (L.c b (some p) none)
  |2=>.j8 (t:=.int .i32) (L.c b (some c) none)
  |_=>.fail
 |_=>.fail
def Eh:IntKind->Int
 |.u8=>255|.u16=>65535|.u32=>4294967295|.u64=>18446744073709551615|_=>-1
def Ho(o:Nat->Obj)(v:V):Pk:=
 match v with
 |.ptr _ _=>.when (sure o v) (.now v)
 |.ref _ _=>.now v
 |.j7 id ver _ _=>match o id with
  |.vec _ aC _ _=>.when (Nat.beq ver aC) (.now v)
  |_=>.fail
 |.fn _ _=>.now v
 |_=>.fail
def dE(env:Nat->V)(o:Nat->Obj)(fresh:Nat)(t:TypeId):Op->Pk
 |.move x=>IT C fresh t (cv C env x)
 |.assign x=>IT C fresh t (cv C env x)
 |.pick c a b=>match AW C env c with
  |.lb x=>.now (bif x then cv C env a else cv C env b)
  |.d .bool x=>.now (Pu L x (cv C env a) (cv C env b))
  |_=>.fail
 |.alloc e=>Pr C fresh e
 |.box e x=>Ps C o fresh e (cv C env x)
 |.build t ps=>Pq C fresh t (!(Nat.beq t C.px)&&(ps.toList.isEmpty||(Po (C.ty t)||Pp (C.ty t)))) (Pj L C o t (ps.toList.map fun p=>(p.1,cv C env p.2)))
 |.buildSlice t n ps=>Pl L C o fresh t n (ps.toList.map fun p=>(p.1,cv C env p.2))
 |.load t a=>Me L C o t (cv C env a)
 |.store t a v=>O5 L C o t (cv C env a) (cv C env v)
 |.nilCheck x=>Ho o (cv C env x)
 |.binOp op t x y _=>Hm L C o op t (cv C env x) (cv C env y)
 |.unOp .not _ x=>match cv C env x with
  |.d .bool x=>.now (.d .bool (L.t x))
  |_=>.fail
 |.unOp .xor _ x=>match cv C env x with
  |.d (.int k) n=>.now (.d (.int k) (L.nM k (Eh k) n))
  |_=>.fail
 |.unOp .neg _ x=>match cv C env x with
  |.d (.int k) n=>.now (.d (.int k) (L.u k 0 n))
  |_=>.fail
 |.convert s d x=>Ph L C o fresh s d (cv C env x)
 |.makeFunc (.func f) first caps=>.when (Nat.blt f 1048576) (.now (.fn (f+1048576*first.toList.length) (first.toList.map (cv C env)++caps.toList.map (cv C env))))
 |.makeSlice t l c=>Py L C fresh t (cv C env l) (cv C env c)
 |.slice t x lo hi mx=>Pd L C o fresh t (cv C env x) (lo.map (cv C env)) (hi.map (cv C env)) (mx.map (cv C env))
 |.fieldAddr t x f=>Hn C o t (cv C env x) f
 |.field t x f=>Pg C t (cv C env x) f
 |.indexAddr t x i=>Pe L C o t (cv C env x) (cv C env i)
 |.index t x i=>Pf L C t (cv C env x) (cv C env i)
 |.makeMap t none=>Px C fresh t
 |.lookup t x k ok=>Pv L C o t (cv C env x) (cv C env k) ok
 |.mapUpdate t m k x=>Pw L C o t (cv C env m) (cv C env k) (cv C env x)
 |.extract x i=>PG L i (cv C env x)
 |.range t x=>PE C fresh t (cv C env x)
 |.next x true=>PF L o (cv C env x)
 |.call c=>match c.callee with
  |.builtin b=>W9 L C o fresh b c.argTypes.toList (c.args.toList.map (cv C env))
  |.value f=>match cv C env f with
   |.fn f caps=>Af L C R o fresh (f % 1048576) (caps.take (f / 1048576)++(c.args.toList.map (cv C env)++caps.drop (f / 1048576))) C.sigs 0
   |.fa a k n=>match IX L C R o fresh k n (c.args.toList.map (cv C env)) a 0 with
    |some x=>.dyn Bool x (fun b=>(.d .bool b,[]))
    |none=>.fail
   |_=>.fail
  |_=>.fail
 |_=>.fail
end
end Ev