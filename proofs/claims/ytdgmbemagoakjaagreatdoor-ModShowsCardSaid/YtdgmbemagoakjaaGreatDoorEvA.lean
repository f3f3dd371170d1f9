/- The evaluator: leaves, types, values, shapes, operations. -/
import GoSem.Core.Code
import GoSem.Core.Program
import GoSem.Core.View
import GoSem.Core.Utf8
import GoSem.Core.Float
set_option linter.defProp false
namespace Ev
def om{p:Prop}(h:p:=by omega):p:=h
def dc{p:Prop}(h:p:=by decide):p:=h
abbrev zd:=@List.length_append
abbrev ze:=@Bool.and_eq_true
abbrev zf:=@List.getElem?_eq_getElem
abbrev zg:=@List.mem_cons_self
abbrev zh:=@List.mem_cons_of_mem
abbrev zj:=@Nat.eq_of_beq_eq_true
abbrev zk:=@List.mem_cons
abbrev zm:=@List.append_assoc
abbrev zn:=@List.append_nil
abbrev zo:=@decide_eq_false
abbrev zt:=@decide_eq_true
abbrev zu:=@List.length_cons
abbrev zv:=@List.mem_of_getElem?
abbrev zw:=@List.drop_eq_nil_of_le
abbrev zA:=@Classical.byContradiction
abbrev zB:=@Option.some.injEq
abbrev zC:=@Nat.zero_add
abbrev zD:=@Nat.le_of_ble_eq_true
abbrev zE:=@List.getElem?_eq_some_iff
abbrev zF:=@Option.some.inj
abbrev zG:=@List.length_map
abbrev zH:=@List.mem_append
abbrev zI:=@of_decide_eq_true
abbrev zJ:=@Array.getElem?_toList
abbrev zK:=@List.eq_nil_of_length_eq_zero
abbrev zL:=@List.all_eq_true
abbrev zM:=@List.mem_singleton
abbrev zN:=@List.map_cons
abbrev zO:=@List.getElem?_append_right
abbrev zP:=@List.length_take
abbrev zQ:=@List.map_append
abbrev zR:=@Option.bind_eq_some_iff
abbrev zS:=@List.map_map
abbrev zT:=@List.length_drop
abbrev zU:=@List.getElem?_map
abbrev zV:=@List.mem_map
abbrev zW:=@List.take_of_length_le
abbrev zX:=@List.any_eq_true
abbrev zY:=@Array.getElem?_eq_none
abbrev zZ:=@List.getElem?_eq_none
abbrev ja:=@List.map_congr_left
open Go
structure Sl (α:Type) where
 nil:Bool
 l:List α
def az{α β:Type}(x:Option α)(f:α->Option β):Option β:=match x with|some a=>f a|none=>none
def aP{α:Type}(x:Bool)(a b:Option α):Option α:=match x with|true=>a|false=>b
def Wo{α:Type}(x:Bool)(a b:α):α:=match x with|true=>a|false=>b
def cH{α β:Type}(f:α->Option β)(y:α⊕β):Option β:=match y with|.inl a=>f a|.inr b=>some b
def ar(a:Bool):Bool:=!a
def bP(a b:Bool):Bool:=a&&b
def cM{α:Type}(l:List α)(i:Int):Option α:=if 0<=i then l[i.toNat]? else none
def cD{α:Type}(l:List α)(i:Int):Option Nat:=if 0<=i/\i<l.length then some i.toNat else none
def cI{α:Type}(l:List α)(lo hi:Int):Option (List α):=if 0<=lo/\lo<=hi/\hi<=l.length then some ((l.take hi.toNat).drop lo.toNat) else none
def df(n:Int)(hi:Int):Option Nat:=if 0<=hi/\hi<=n then some hi.toNat else none
def fit(n:Int):Option Unit:=if n<=2147483648 then some () else none
def BR(n m:Int):Option Nat:=if 0<=n/\n<=m/\m<=2147483648 then some n.toNat else none
def l7(k:IntKind)(a b:Int):Option Int:=if b=0 then none else some (k.wrap (a.tdiv b))
def jK(a b:Int):Option Int:=if b=0 then none else some (a.tmod b)
def qj(k:IntKind)(a b:Int):Option Int:=if b<0 then none else some (k.wrap (a*2 ^ min b.toNat k.bits))
def la(k:IntKind)(a b:Int):Option Int:=if b<0 then none else some (a.fdiv (2 ^ min b.toNat k.bits))
def cE(k:IntKind)(a b:Int):Int:=k.wrap (a+b)
def gS(k:IntKind)(a b:Int):Int:=k.wrap (a-b)
def yF(k:IntKind)(a b:Int):Int:=k.wrap (a*b)
def dV(k:IntKind)(a:Int):Int:=k.wrap a
def l9(k:IntKind)(a b:Int):Int:=k.wrap (BitVec.ofInt k.bits a&&&BitVec.ofInt k.bits b).toNat
def Ly(k:IntKind)(a b:Int):Int:=k.wrap (BitVec.ofInt k.bits a|||BitVec.ofInt k.bits b).toNat
def qk(k:IntKind)(a b:Int):Int:=k.wrap (BitVec.ofInt k.bits a ^^^ BitVec.ofInt k.bits b).toNat
def kB(k:IntKind)(a b:Int):Int:=k.wrap (BitVec.ofInt k.bits a&&&~~~BitVec.ofInt k.bits b).toNat
def aL(a b:Int):Bool:=decide (a<b)
def bJ(a b:Int):Bool:=decide (a<=b)
def ag(a b:Int):Bool:=a==b
def fA(a b:Bool):Bool:=a==b
def bM(a b:List Int):Bool:=a==b
def cw(a b:List Int):List Int:=a++b
def kC(a b:Int):Int:=if b<a then b else a
def kD(a b:Int):Int:=if a<b then b else a
def bS(a b:Int):Int:=a+b
def ae{α:Type}(l:List α):Int:=(l.length:Int)
def app{α:Type}(l m:List α):List α:=l++m
def rep{α:Type}(n:Nat)(x:α):List α:=List.replicate n x
def nth{α:Type}(l:List α)(n:Nat):Option α:=l[n]?
def jY{α:Type}(l:List α)(n:Nat)(x:α):List α:=l.set n x
def aH{α:Type}(l:List α)(n:Nat):List α:=l.take n
def cj{α:Type}(l:List α)(n:Int):List α:=l.drop n.toNat
def fF{α:Type}(l:List α)(n:Int)(z:α):List α:=l.take n.toNat++List.replicate (l.length-n.toNat) z
def rS{α:Type}(l m:List α):List α:=m.take l.length++l.drop m.length
def eX{α:Type}(l:List α):Bool:=l.isEmpty
def strLt:List Int->List Int->Bool
 |_,[]=>false
 |[],_::_=>true
 |a::x,b::y=>decide (a<b)||(decide (a=b)&&strLt x y)
def Bv(l:List Int):ByteArray:=⟨(l.map fun b=>UInt8.ofNat b.toNat).toArray⟩
def fN(l:List Int)(p:Int):Int:=((Utf8.decode (Bv l) p.toNat).1:Int)
def gO(l:List Int)(p:Int):Int:=if p<l.length then p+((Utf8.decode (Bv l) p.toNat).2:Int) else p
def jL(a b:Nat):Option Nat:=Ieee.double.add a b
def Ko(a b:Nat):Bool:=(Ieee.double.order a b==some .lt)||(Ieee.double.order a b==some .eq)
def cT(n:Int):Nat:=FloatKind.nearest .f64 n
def px{σ ρ:Type}(f:σ->Option (σ⊕ρ)):Nat->σ->Option ρ
 |0,_=>none
 |n+1,s=>match f s with
  |some (.inl s')=>px f n s'
  |some (.inr r)=>some r
  |none=>none
open Classical in
noncomputable def aD{σ ρ:Type}(f:σ->Option (σ⊕ρ))(s:σ):Option ρ:=if h:∃r n,px f n s=some r then some (Classical.choose h) else none
structure Lf:Type 1 where
 b:{α β:Type}->Option α->(α->Option β)->Option β
 c:{α:Type}->Bool->Option α->Option α->Option α
 Wo:{α:Type}->Bool->α->α->α
 cH:{α β:Type}->(α->Option β)->α⊕β->Option β
 t:Bool->Bool
 d:Bool->Bool->Bool
 g:{α:Type}->List α->Int->Option α
 cD:{α:Type}->List α->Int->Option Nat
 cI:{α:Type}->List α->Int->Int->Option (List α)
 df:Int->Int->Option Nat
 f:Int->Option Unit
 BR:Int->Int->Option Nat
 l7:IntKind->Int->Int->Option Int
 jK:Int->Int->Option Int
 qj:IntKind->Int->Int->Option Int
 la:IntKind->Int->Int->Option Int
 a:IntKind->Int->Int->Int
 u:IntKind->Int->Int->Int
 yF:IntKind->Int->Int->Int
 dV:IntKind->Int->Int
 l9:IntKind->Int->Int->Int
 Ly:IntKind->Int->Int->Int
 qk:IntKind->Int->Int->Int
 kB:IntKind->Int->Int->Int
 l:Int->Int->Bool
 m:Int->Int->Bool
 e:Int->Int->Bool
 fA:Bool->Bool->Bool
 h:List Int->List Int->Bool
 q:List Int->List Int->List Int
 kC:Int->Int->Int
 kD:Int->Int->Int
 s:Int->Int->Int
 n:{α:Type}->List α->Int
 app:{α:Type}->List α->List α->List α
 rep:{α:Type}->Nat->α->List α
 nth:{α:Type}->List α->Nat->Option α
 jY:{α:Type}->List α->Nat->α->List α
 aH:{α:Type}->List α->Nat->List α
 cj:{α:Type}->List α->Int->List α
 fF:{α:Type}->List α->Int->α->List α
 rS:{α:Type}->List α->List α->List α
 i:{α:Type}->List α->Bool
 strLt:List Int->List Int->Bool
 o:{σ ρ:Type}->(σ->Option (σ⊕ρ))->σ->Option ρ
 jL:Nat->Nat->Option Nat
 Ko:Nat->Nat->Bool
 cT:Int->Nat
 fN:List Int->Int->Int
 gO:List Int->Int->Int
noncomputable def lf:Lf where
 b:=@az
 c:=@aP
 Wo:=@Wo
 cH:=@cH
 t:=ar
 d:=bP
 g:=@cM
 cD:=@cD
 cI:=@cI
 df:=df
 f:=fit
 BR:=BR
 l7:=l7
 jK:=jK
 qj:=qj
 la:=la
 a:=cE
 u:=gS
 yF:=yF
 dV:=dV
 l9:=l9
 Ly:=Ly
 qk:=qk
 kB:=kB
 l:=aL
 m:=bJ
 e:=ag
 fA:=fA
 h:=bM
 q:=cw
 kC:=kC
 kD:=kD
 s:=bS
 n:=@ae
 app:=@app
 rep:=@rep
 nth:=@nth
 jY:=@jY
 aH:=@aH
 cj:=@cj
 fF:=@fF
 rS:=@rS
 i:=@eX
 strLt:=strLt
 o:=@aD
 jL:=jL
 Ko:=Ko
 cT:=cT
 fN:=fN
 gO:=gO
inductive Ty where
 |int (k:IntKind)|bool|str|sl (e:Ty)|unit|pair (a b:Ty)|st (p:Ty)|arr (n:Nat) (e:Ty)
 |fG|dG
 deriving DecidableEq
abbrev den:Ty->Type
 |.int _=>Int
 |.bool=>Bool
 |.fG=>Nat
 |.dG=>Nat×Nat
 |.str=>List Int
 |.sl e=>Sl (den e)
 |.unit=>Unit
 |.pair a b=>den a×den b
 |.st p=>den p
 |.arr _ e=>List (den e)
def aM:Ty->Nat
 |.unit=>0
 |.pair a b=>aM a+aM b
 |.st p=>aM p
 |.arr n e=>n*aM e
 |_=>1
def zero:(t:Ty)->den t
 |.int _=>(0:Int)
 |.bool=>false
 |.fG=>(0:Nat)
 |.dG=>((0:Nat),(0:Nat))
 |.str=>([]:List Int)
 |.sl e=>(⟨true,[]⟩:Sl (den e))
 |.unit=>()
 |.pair a b=>(zero a,zero b)
 |.st p=>zero p
 |.arr n e=>List.replicate n (zero e)
inductive V:Type where
 |d (t:Ty) (x:den t)
 |aY (id ver:Nat)
 |pre (id ver:Nat) (n:Nat) (agA:Bool)
 |ptr (id off:Nat)
 |lh (id ver:Nat) (i:Nat) (path:List Nat)
 |ref (t:Ty) (x:den t)
 |gU
 |fn (f:Nat) (caps:List V)
 |ga
 |mc (vs:List V)
 |agg (cs:List V)
 |iK
 |fh
 |lb (b:Bool)
 |undef
 |dH
 |cX (id:Nat) (b:Bool)
 |iM (id ver:Nat) (lo:Int)
 |it (id:Nat)
 |Wp (b:Bool) (p c:Int)
 |fa (a:List (Nat×Bool)) (k n:Int)
 |rr (t:Ty) (x:den t)
inductive Obj:Type where
 |box (cs:List V)
 |vec (t:Ty) (ver:Nat) (fr:Bool) (s:Sl (den t))
 |dead
 |none
 |iter (s:List Int) (p:Int)
structure St:Type where
 env:Nat->V
 obj:Nat->Obj
def dO:V->V
 |.lb b=>.d .bool b
 |v=>v
def cy{α:Type}(f:Nat->α)(i:Nat)(x:α):Nat->α:=fun j=>bif Nat.beq j i then x else f j
def aq{α:Type}(f:Nat->α):List (Nat×α)->Nat->α
 |[]=>f
 |(i,x)::r=>aq (cy f i x) r
def iN(t:Ty):(t':Ty)->den t'->Option (den t):=fun t' x=>
 match decEq t' t with
 |isTrue h=>some (h▸x)
 |isFalse _=>none
section
variable (L:Lf)
def py(o:Nat->Obj)(t:Ty):V->Option (den t)
 |.d t' x=>iN t t' x
 |.aY id ver=>match o id with
  |.vec e aC _ s=>bif Nat.beq ver aC then iN t (.sl e) s else none
  |_=>none
 |.pre id ver n _=>match o id with
  |.vec e aC _ s=>bif Nat.beq ver aC then iN t (.sl e) (⟨s.nil,L.aH s.l n⟩:Sl (den e)) else none
  |_=>none
 |.fh=>match t with
  |.sl e=>some (⟨true,[]⟩:Sl (den e))
  |_=>none
 |.iM id ver lo=>match o id with
  |.vec e aC _ s=>bif Nat.beq ver aC then iN t (.sl e) (⟨s.nil,L.cj s.l lo⟩:Sl (den e)) else none
  |_=>none
 |_=>none
def BS:(t:Ty)->den t->List V
 |.unit,_=>[]
 |.pair a b,x=>BS a x.1++BS b x.2
 |.st p,x=>BS p x
 |t,x=>[.d t x]
def oh(o:Nat->Obj):(t:Ty)->List V->Option (den t×List V)
 |.unit,cs=>some ((),cs)
 |.pair a b,cs=>match oh o a cs with
  |some (x,r)=>match oh o b r with
   |some (y,r')=>some ((x,y),r')
   |none=>none
  |none=>none
 |.st p,cs=>oh o p cs
 |.arr _ _,_=>none
 |t,c::r=>match py L o t c with
  |some x=>some (x,r)
  |none=>none
 |_,[]=>none
def lj(o:Nat->Obj)(t:Ty)(v:V):Option (den t):=
 match v with
 |.agg cs=>match t with
  |.st p=>match oh L o p cs with
   |some (x,[])=>some x
   |_=>none
  |_=>none
 |v=>py L o t v
end
def desc(P:Program)(t:TypeId):Option TypeDesc:=
 match P.types.toList[t]? with
 |some i=>match i.desc with
  |.named _ u=>match P.types.toList[u]? with
   |some j=>some j.desc
   |none=>none
  |d=>some d
 |none=>none
def size(P:Program)(t:TypeId):Nat:=match P.types.toList[t]? with|some i=>i.size|none=>0
def RG(P:Program)(t:TypeId)(f:Nat):Option Field:=
 match desc P t with
 |some (.struct fs)=>fs.toList[f]?
 |_=>none
def Qr:(p:Ty)->Nat->den p->Option ((t:Ty)×den t)
 |.pair a _,0,x=>some ⟨a,x.1⟩
 |.pair _ b,n+1,x=>Qr b n x.2
 |.unit,_,_=>none
 |t,0,x=>some ⟨t,x⟩
 |_,_+1,_=>none
def Qs:(t:Ty)->Nat->den t->Option ((t:Ty)×den t)
 |.st p,n,x=>Qr p n x
 |_,_,_=>none
def Wq:(path:List Nat)->(t:Ty)->den t->Option ((t:Ty)×den t)
 |[],t,x=>some ⟨t,x⟩
 |f::r,t,x=>match Qs t f x with
  |some ⟨u,y⟩=>Wq r u y
  |none=>none
def fV:(p:Ty)->Nat->den p->((t:Ty)->den t->Option (den t))->Option (den p)
 |.pair a b,0,x,g=>match g a x.1 with|some y=>some ((y,x.2):den (.pair a b))|none=>none
 |.pair a b,n+1,x,g=>match fV b n x.2 g with|some y=>some ((x.1,y):den (.pair a b))|none=>none
 |.unit,_,_,_=>none
 |t,0,x,g=>g t x
 |_,_+1,_,_=>none
def aaa:(t:Ty)->Nat->den t->((t:Ty)->den t->Option (den t))->Option (den t)
 |.st p,n,x,g=>fV p n x g
 |_,_,_,_=>none
def Lz:(path:List Nat)->(t:Ty)->den t->((t:Ty)->den t->Option (den t))->Option (den t)
 |[],t,x,g=>g t x
 |f::r,t,x,g=>aaa t f x (fun u y=>Lz r u y g)
inductive Sh where
 |d (t:Ty)|aY (id:Nat)|ptr (id off:Nat)|ref (t:Ty)|gU|fn (f:Nat) (caps:List Sh)|ga
 |mc (l:List Sh)|agg (l:List Sh)|iK|dH|cX (id:Nat)|iM (id:Nat)|it (id:Nat)|fa (a:List (Nat×Bool))|rr (t:Ty)
inductive fS where
 |box (cs:List Sh)|vec (t:Ty)|gone|iter
structure Shape where
 roots:List Sh
 aw:List fS
mutual
def Qt:Sh->List Ty->List Ty
 |.d t,r=>t::r
 |.ref t,r=>t::r
 |.rr t,r=>t::r
 |.fn _ l,r=>jG l r
 |.mc l,r=>jG l r
 |.agg l,r=>jG l r
 |.cX _,r=>.bool::r
 |.iM _,r=>.int .i64::r
 |.fa _,r=>.int .i64::.int .i64::r
 |_,r=>r
def jG:List Sh->List Ty->List Ty
 |[],r=>r
 |s::l,r=>Qt s (jG l r)
end
def Qu:fS->List Ty->List Ty
 |.box cs,r=>jG cs r
 |.vec t,r=>.sl t::r
 |.gone,r=>r
 |.iter,r=>.str::.int .i64::r
def bY:List fS->List Ty->List Ty
 |[],r=>r
 |s::l,r=>Qu s (bY l r)
def Shape.aS(s:Shape):List Ty:=jG s.roots (bY s.aw [])
abbrev ai:List Ty->Type
 |[]=>Unit
 |t::ts=>den t×ai ts
mutual
def lT(ρ κ:Nat->Nat):(s:Sh)->(r:List Ty)->ai (Qt s r)->V×ai r
 |.d t,_,c=>(.d t c.1,c.2)
 |.ref t,_,c=>(.ref t c.1,c.2)
 |.rr t,_,c=>(.rr t c.1,c.2)
 |.fn f l,r,c=>let p:=fH ρ κ l r c;(.fn f p.1,p.2)
 |.mc l,r,c=>let p:=fH ρ κ l r c;(.mc p.1,p.2)
 |.agg l,r,c=>let p:=fH ρ κ l r c;(.agg p.1,p.2)
 |.aY id,_,c=>(.aY (ρ id) (κ id),c)
 |.ptr id off,_,c=>(.ptr (ρ id) off,c)
 |.gU,_,c=>(.gU,c)
 |.ga,_,c=>(.ga,c)
 |.iK,_,c=>(.iK,c)
 |.dH,_,c=>(.dH,c)
 |.cX id,_,c=>(.cX (ρ id) c.1,c.2)
 |.iM id,_,c=>(.iM (ρ id) (κ id) c.1,c.2)
 |.it id,_,c=>(.it (ρ id),c)
 |.fa a,_,c=>(.fa a c.1 c.2.1,c.2.2)
def fH(ρ κ:Nat->Nat):(l:List Sh)->(r:List Ty)->ai (jG l r)->List V×ai r
 |[],_,c=>([],c)
 |s::l,r,c=>let p:=lT ρ κ s (jG l r) c;let q:=fH ρ κ l r p.2;(p.1::q.1,q.2)
end
def fI(ρ κ:Nat->Nat)(i:Nat):(s:fS)->(r:List Ty)->ai (Qu s r)->Obj×ai r
 |.box cs,r,c=>let p:=fH ρ κ cs r c;(.box p.1,p.2)
 |.vec t,_,c=>(.vec t (κ i) false c.1,c.2)
 |.gone,_,c=>(.dead,c)
 |.iter,_,c=>(.iter c.1 c.2.1,c.2.2)
def gf(ρ κ:Nat->Nat):Nat->(l:List fS)->(r:List Ty)->ai (bY l r)->List (Nat×Obj)
 |_,[],_,_=>[]
 |i,s::l,r,c=>let p:=fI ρ κ i s (bY l r) c;(ρ i,p.1)::gf ρ κ (i+1) l r p.2
def fill(ρ κ:Nat->Nat)(s:Shape)(c:ai s.aS):List V×List (Nat×Obj):=
 let p:=fH ρ κ s.roots (bY s.aw []) c
 (p.1,gf ρ κ 0 s.aw [] p.2)
abbrev Ren:=List Nat
def idx(cN:Nat):Ren->Nat->Option Nat
 |[],_=>none
 |x::r,i=>bif Nat.beq x cN then some i else idx cN r (i+1)
def Qv(cN:Nat)(aT:Ren):Nat×Ren:=match idx cN aT 0 with
 |some i=>(i,aT)
 |none=>(aT.length,aT++[cN])
mutual
def shV(o:Nat->Obj):V->Ren->Sh×Ren
 |.d t _,aT=>(.d t,aT)
 |.ref t _,aT=>(.ref t,aT)
 |.rr t _,aT=>(.rr t,aT)
 |.aY id ver,aT=>match o id with
  |.vec t aC fr _=>bif Nat.beq ver aC then(bif fr then(.d (.sl t),aT) else let p:=Qv id aT;(.aY p.1,p.2)) else(.dH,aT)
  |_=>(.dH,aT)
 |.pre id ver _ _,aT=>match o id with
  |.vec t aC fr _=>bif Nat.beq ver aC then(bif fr then(.d (.sl t),aT) else let p:=Qv id aT;(.aY p.1,p.2)) else(.dH,aT)
  |_=>(.dH,aT)
 |.ptr id off,aT=>match o id with
  |.none=>(.dH,aT)
  |.dead=>(.dH,aT)
  |_=>let p:=Qv id aT;(.ptr p.1 off,p.2)
 |.gU,aT=>(.gU,aT)
 |.fn f l,aT=>let p:=LA o l aT;(.fn f p.1,p.2)
 |.ga,aT=>(.ga,aT)
 |.mc l,aT=>let p:=LA o l aT;(.mc p.1,p.2)
 |.agg l,aT=>let p:=LA o l aT;(.agg p.1,p.2)
 |.it id,aT=>let p:=Qv id aT;(.it p.1,p.2)
 |.fa a _ _,aT=>(.fa a,aT)
 |.iK,aT=>(.iK,aT)
 |.cX id _,aT=>match o id with
  |.box _=>let p:=Qv id aT;(.cX p.1,p.2)
  |_=>(.dH,aT)
 |.iM id ver _,aT=>match o id with
  |.vec t aC fr _=>bif Nat.beq ver aC then(bif fr then(.d (.sl t),aT) else let p:=Qv id aT;(.iM p.1,p.2)) else(.dH,aT)
  |_=>(.dH,aT)
 |_,aT=>(.dH,aT)
def LA(o:Nat->Obj):List V->Ren->List Sh×Ren
 |[],aT=>([],aT)
 |v::l,aT=>let p:=shV o v aT;let q:=LA o l p.2;(p.1::q.1,q.2)
end
def shO(o:Nat->Obj)(b:Obj)(aT:Ren):fS×Ren:=match b with
 |.box cs=>let p:=LA o cs aT;(.box p.1,p.2)
 |.vec t _ _ _=>(.vec t,aT)
 |.none=>(.gone,aT)
 |.dead=>(.gone,aT)
 |.iter _ _=>(.iter,aT)
def RH(o:Nat->Obj):Nat->Nat->Ren->List fS
 |0,_,_=>[]
 |n+1,i,aT=>match aT[i]? with
  |some cN=>let p:=shO o (o cN) aT;p.1::RH o n (i+1) p.2
  |none=>[]
def zfb(sk:List Nat)(o:Nat->Obj)(vs:List V):Shape:=
 let p:=LA o vs sk
 ⟨p.1,RH o 100 0 p.2⟩
structure PS where
 aT:List (Nat×Nat)
 cut:List (Nat×Nat)
 cq:List Nat
 full:List Nat
def iO(i:Nat):List (Nat×Nat)->Option Nat
 |[]=>none
 |(a,b)::r=>bif Nat.beq a i then some b else iO i r
def BU(j:Nat):List (Nat×Nat)->Bool
 |[]=>false
 |(_,b)::r=>bif Nat.beq b j then true else BU j r
def bQ(j:Nat):List Nat->Bool
 |[]=>false
 |b::r=>bif Nat.beq b j then true else bQ j r
def Wr(j:Nat):List (Nat×Nat)->Option Nat
 |[]=>none
 |(a,b)::r=>bif Nat.beq b j then some a else Wr j r
def isN(n:Nat):Option Nat->Bool
 |some m=>Nat.beq m n
 |none=>false
def RJ:Option Nat->Bool
 |some _=>false
 |none=>true
def tie(i cN:Nat)(s:PS):PS:={s with aT:=(i,cN)::s.aT}
def Ws(k:Nat)(all:List (Nat×Nat)):List (Nat×Nat)->Bool
 |[]=>true
 |(i,cN)::r=>Nat.blt i k&&isN cN (iO i all)&&isN i (Wr cN all)&&Ws k all r
def Wt:List (Nat×Nat)->Bool
 |[]=>true
 |(id,_)::r=>RJ (iO id r)&&Wt r
def Wu(cut:List (Nat×Nat)):List Nat->Bool
 |[]=>true
 |id::r=>RJ (iO id cut)&&Wu cut r
def Wv:List Nat->List (Nat×Nat)->Bool
 |[],_=>true
 |j::l,aT=>bif BU j aT then false else Wv l aT
def LC(k:Nat)(ps:PS):Bool:=Ws k ps.aT ps.aT&&Wt ps.cut&&Wu ps.cut ps.full&&Wv ps.cq ps.aT
def Ww(o:Nat->Obj)(id:Nat):Bool:=match o id with
 |.box _=>true
 |.vec _ ver false _=>Nat.beq ver 0
 |_=>false
def BV(o:Nat->Obj):List Nat->Bool
 |[]=>true
 |id::r=>Ww o id&&BV o r
def RL(cut:List (Nat×Nat)):List Nat->Bool
 |[]=>true
 |id::r=>RJ (iO id cut)&&RL cut r
def vL:Nat->List Nat->List (Nat×Nat)
 |_,[]=>[]
 |i,id::r=>(i,id)::vL (i+1) r
def dx(sk:List Nat)(i:Nat):Nat:=match sk[i]? with
 |some j=>j
 |none=>1000000+i
def qx8:List Nat->List (Nat×Nat)
 |[]=>[]
 |id::r=>(id,id)::qx8 r
def Qw(k:Nat):List Nat->Bool
 |[]=>true
 |id::r=>Nat.blt id k&&Nat.blt id 1000000&&!(bQ id r)&&Qw k r
mutual
def fq(o:Nat->Obj):V->List Nat
 |.aY id _=>match o id with|.vec _ _ true _=>[]|_=>[id]
 |.pre id _ _ _=>match o id with|.vec _ _ true _=>[]|_=>[id]
 |.iM id _ _=>match o id with|.vec _ _ true _=>[]|_=>[id]
 |.agg l=>rT o l
 |_=>[]
def rT(o:Nat->Obj):List V->List Nat
 |[]=>[]
 |v::l=>fq o v++rT o l
end
def Qx(o:Nat->Obj)(id:Nat):List Nat:=match o id with
 |.box cs=>rT o cs
 |_=>[]
section
variable (L:Lf)
def vM(o:Nat->Obj)(t:Ty)(id:Nat):Option (den t):=match o id with
 |.box cs=>match oh L o t cs with
  |some (x,[])=>some x
  |_=>none
 |_=>none
abbrev Take:=Option (PS×(∀r,ai r->ai r))
def BW(b:Bool)(ps:PS):Take:=match b with
 |true=>some (ps,fun _ c=>c)
 |false=>none
def zid:V->Bool
 |.gU=>true
 |_=>false
def zie:V->Bool
 |.ga=>true
 |_=>false
def zif:V->Bool
 |.iK=>true
 |_=>false
def paD(o:Nat->Obj)(t:Ty)(v:V)(ps:PS):Option (PS×(∀r,ai r->den t×ai r)):=match lj L o t v with
 |some x=>some ({ps with cq:=fq o v++ps.cq},fun _ c=>(x,c))
 |none=>none
def RM(o:Nat->Obj)(t:Ty)(v:V)(ps:PS):Option (PS×(∀r,ai r->den t×ai r)):=match v with
 |.ref t' x=>match iN t t' x with
  |some x=>some (ps,fun _ c=>(x,c))
  |none=>none
 |.ptr id off=>bif Nat.beq off 0 then(match vM L o t id with
  |some x=>some ({ps with cq:=id::(Qx o id++ps.cq)},fun _ c=>(x,c))
  |none=>none) else none
 |_=>none
def rrD(o:Nat->Obj)(t:Ty)(id:Nat):Option (Nat×den t):=match o id with
 |.box [.ptr lU LD]=>bif Nat.beq LD 0 then(match vM L o t lU with
  |some x=>some (lU,x)
  |none=>none) else none
 |_=>none
def LG(o:Nat->Obj)(t:Ty)(v:V)(ps:PS):Option (PS×(∀r,ai r->den t×ai r)):=match v with
 |.rr t' x=>match iN t t' x with
  |some x=>some (ps,fun _ c=>(x,c))
  |none=>none
 |.ptr id off=>bif Nat.beq off 0 then(match rrD L o t id with
  |some (lU,x)=>some ({ps with cq:=id::lU::(Qx o lU++ps.cq)},fun _ c=>(x,c))
  |none=>none) else none
 |_=>none
def RN(o:Nat->Obj)(i:Nat)(v:V)(ps:PS):Take:=match v with
 |.aY id ver=>match o id with
  |.vec _ aC false _=>BW (Nat.beq ver aC) {tie i id ps with full:=id::ps.full}
  |_=>none
 |.pre id ver n _=>match o id with
  |.vec _ aC false _=>BW (Nat.beq ver aC) {tie i id ps with cut:=(id,n)::ps.cut}
  |_=>none
 |_=>none
def RO(o:Nat->Obj)(i off:Nat)(v:V)(ps:PS):Take:=match v with
 |.ptr id LH=>match o id with
  |.box _=>BW (Nat.beq off LH) (tie i id ps)
  |.vec _ aC false _=>BW (Nat.beq off LH&&Nat.beq 0 aC) (tie i id ps)
  |_=>none
 |_=>none
def BX(o:Nat->Obj)(i:Nat)(v:V)(ps:PS):Take:=match v with
 |.it id=>match o id with
  |.iter _ _=>some (tie i id ps,fun _ c=>c)
  |_=>none
 |_=>none
def RP(o:Nat->Obj)(i:Nat)(v:V)(ps:PS):Option (PS×(∀r,ai r->den .bool×ai r)):=match v with
 |.cX id b=>match o id with
  |.box _=>some (tie i id ps,fun _ c=>(b,c))
  |_=>none
 |_=>none
def Wx(o:Nat->Obj)(i:Nat)(v:V)(ps:PS):Option (PS×(∀r,ai r->den (.int .i64)×ai r)):=match v with
 |.iM id ver lo=>match o id with
  |.vec _ aC false _=>bif Nat.beq ver aC then some ({tie i id ps with full:=id::ps.full},fun _ c=>((lo:den (.int .i64)),c)) else none
  |_=>none
 |_=>none
def LI(f:Nat)(c:Bool):List (Nat×Bool)->Nat->Option Nat
 |[],_=>none
 |(g,d)::r,i=>bif Nat.beq g f&&(bif c then d else !d) then some i else LI f c r (i+1)
def RQ:List (Nat×Bool)->List (Nat×Bool)->Bool
 |[],[]=>true
 |(f,c)::a,(g,d)::b=>Nat.beq f g&&(bif c then d else !d)&&RQ a b
 |_,_=>false
def ql{α:Type}:List α->Nat->Nat
 |[],i=>i
 |_::r,i=>ql r (i+1)
def F8(o:Nat->Obj)(a:List (Nat×Bool))(v:V)(ps:PS):Option (PS×(∀r,ai r->den (.int .i64)×den (.int .i64)×ai r)):=match v with
 |.fa b k n=>bif RQ b a then some (ps,fun _ c=>(k,n,c)) else none
 |.ga=>some (ps,fun _ c=>(Int.ofNat (ql a 0),(0:Int),c))
 |.fn f []=>match(bif Nat.blt f 1048576 then LI f false a 0 else none) with
  |some i=>some (ps,fun _ c=>(Int.ofNat i,(0:Int),c))
  |none=>none
 |.fn f [w]=>match(bif Nat.blt f 1048576 then LI f true a 0 else none) with
  |some i=>match RM L o (.int .i64) w ps with
   |some (bG,g)=>some (bG,fun r c=>(Int.ofNat i,g r c))
   |none=>none
  |none=>none
 |_=>none
def F9(f:Nat):V->Option (List V)
 |.fn f' l=>bif Nat.beq f f' then some l else none
 |_=>none
def Wy:V->Option (List V)
 |.mc l=>some l
 |_=>none
def Ga:V->Option (List V)
 |.agg l=>some l
 |_=>none
mutual
def Kp(o:Nat->Obj):(s:Sh)->V->PS->Option (PS×(∀r,ai r->ai (Qt s r)))
 |.d t,v,ps=>paD L o t v ps
 |.ref t,v,ps=>RM L o t v ps
 |.rr t,v,ps=>LG L o t v ps
 |.aY i,v,ps=>RN o i v ps
 |.ptr i off,v,ps=>RO o i off v ps
 |.gU,v,ps=>BW (zid v) ps
 |.fn f l,v,ps=>match F9 f v with
  |some l'=>oq o l l' ps
  |none=>none
 |.ga,v,ps=>BW (zie v) ps
 |.mc l,v,ps=>match Wy v with
  |some l'=>oq o l l' ps
  |none=>none
 |.agg l,v,ps=>match Ga v with
  |some l'=>oq o l l' ps
  |none=>none
 |.iK,v,ps=>BW (zif v) ps
 |.dH,_,ps=>BW true ps
 |.cX i,v,ps=>RP o i v ps
 |.iM i,v,ps=>Wx o i v ps
 |.it i,v,ps=>BX o i v ps
 |.fa a,v,ps=>F8 L o a v ps
def oq(o:Nat->Obj):(l:List Sh)->List V->PS->Option (PS×(∀r,ai r->ai (jG l r)))
 |[],vs,ps=>BW vs.isEmpty ps
 |s::l,vs,ps=>match vs with
  |v::vs=>match Kp o s v ps with
   |some (ps,f)=>match oq o l vs ps with
    |some (ps,g)=>some (ps,fun r c=>f _ (g r c))
    |none=>none
   |none=>none
  |[]=>none
end
def Gb(o:Nat->Obj)(cN:Nat):(s:fS)->PS->Option (PS×(∀r,ai r->ai (Qu s r)))
 |.box l,ps=>match o cN with
  |.box cs=>oq L o l cs ps
  |_=>none
 |.vec t,ps=>match o cN with
  |.vec t' _ false s=>match iN (.sl t) (.sl t') s with
   |some s=>match iO cN ps.cut with
    |some n=>some (ps,fun _ c=>((⟨s.nil,L.aH s.l n⟩:Sl (den t)),c))
    |none=>some ({ps with full:=cN::ps.full},fun _ c=>(s,c))
   |none=>none
  |_=>none
 |.gone,ps=>some (ps,fun _ c=>c)
 |.iter,ps=>match o cN with
  |.iter s p=>some (ps,fun _ c=>((s:den .str),(p:den (.int .i64)),c))
  |_=>none
def qm(o:Nat->Obj):Nat->(l:List fS)->PS->Option (PS×(∀r,ai r->ai (bY l r)))
 |_,[],ps=>some (ps,fun _ c=>c)
 |i,.gone::l,ps=>match qm o (i+1) l ps with
   |some (ps,g)=>some (ps,fun r c=>g r c)
   |none=>none
 |i,s::l,ps=>match iO i ps.aT with
  |some cN=>match Gb L o cN s ps with
   |some (ps,f)=>match qm o (i+1) l ps with
    |some (ps,g)=>some (ps,fun r c=>f _ (g r c))
    |none=>none
   |none=>none
  |none=>none
def pack(o:Nat->Obj)(aT:List (Nat×Nat))(s:Shape)(vs:List V):Option (PS×ai s.aS):=
 match oq L o s.roots vs ⟨aT,[],[],[]⟩ with
 |some (ps,f)=>match qm L o 0 s.aw ps with
  |some (ps,g)=>bif LC s.aw.length ps then some (ps,f _ (g [] ())) else none
  |none=>none
 |none=>none
def LJ(sk:List Nat)(aT:List (Nat×Nat))(o:Nat->Obj)(s:Shape)(vs:List V):Option (PS×ai s.aS):=
 match pack L o aT s vs with
 |some p=>bif BV o sk&&RL p.1.cut sk then some p else none
 |none=>none
end
inductive Pk:Type 1 where
 |fail
 |mW (v:V) (u:List (Nat×Obj))
 |dyn (α:Type) (x:Option α) (out:α->V×List (Nat×Obj))
def Pk.now(v:V)(u:List (Nat×Obj):=[]):Pk:=.mW v u
def Pk.lp{t:Ty}(x:Option (den t)):Pk:=.dyn (den t) x (fun y=>(.d t y,[]))
def Pk.when(b:Bool)(p:Pk):Pk:=match b with|true=>p|false=>.fail
section
variable (L:Lf)
def xy:(t:Ty)->den t->den t->Bool
 |.int _,a,b=>L.e a b
 |.bool,a,b=>L.fA a b
 |.str,a,b=>L.h a b
 |.unit,_,_=>true
 |.pair s t,a,b=>L.d (xy s a.1 b.1) (xy t a.2 b.2)
 |.st p,a,b=>xy p a b
 |_,_,_=>false
end
structure lr where
 f:Nat
 ins:Shape
 outs:Shape
 bN:List Nat
structure Cx where
 P:Program
 sigs:List lr
 lu:Nat->Option ((t:Ty)×den t)
 eY:List (Nat×Ty)
 eqs:List Nat
 mf:Nat
 rU:Nat
def Gc:List (Nat×Ty)->Nat->Option Ty
 |[],_=>none
 |(a,T)::r,t=>bif Nat.beq a t then some T else Gc r t
def Cx.ty(C:Cx)(t:TypeId):Option Ty:=Gc C.eY t
def vN:IntKind->Nat
 |.i8=>0|.i16=>1|.i32=>2|.i64=>3|.u8=>4|.u16=>5|.u32=>6|.u64=>7
def rV:Ty->Ty->Bool
 |.int k,.int k'=>Nat.beq (vN k) (vN k')
 |.bool,.bool=>true
 |.fG,.fG=>true
 |.dG,.dG=>true
 |.str,.str=>true
 |.sl a,.sl b=>rV a b
 |.unit,.unit=>true
 |.pair a b,.pair c d=>rV a c&&rV b d
 |.st a,.st b=>rV a b
 |.arr n a,.arr m b=>Nat.beq n m&&rV a b
 |_,_=>false
def jM(T:Ty):Option Ty->Bool
 |some T'=>rV T' T
 |none=>false
def Cx.is(C:Cx)(t:TypeId)(T:Ty):Bool:=jM T (C.ty t)
def yG(P:Program)(t:TypeId):Option (Bool×Nat):=match P.types.toList[t]? with
 |none=>none
 |some i=>match desc P t with
  |some (.struct _)=>some (true,i.size)
  |some (.array ..)=>some (true,i.size)
  |some _=>some (false,i.size)
  |none=>none
def lx:Ty->Bool
 |.int _=>true|.bool=>true|.str=>true|.sl _=>true|.fG=>true|.dG=>true|_=>false
def Qy(o:Nat->Obj):V->Bool
 |.d t _=>lx t
 |.aY id ver=>match o id with|.vec _ aC _ _=>Nat.beq ver aC|_=>false
 |.pre id ver _ _=>match o id with|.vec _ aC _ _=>Nat.beq ver aC|_=>false
 |.ptr id _=>match o id with|.box _=>true|.vec _ aC _ _=>Nat.beq 0 aC|_=>false
 |.lh id ver _ _=>match o id with|.vec _ aC _ _=>Nat.beq ver aC|_=>false
 |.ref _ _=>true
 |.gU=>true
 |.fn _ _=>true
 |.ga=>true
 |.it id=>match o id with|.iter .. =>true|_=>false
 |.iK=>true
 |.fh=>true
 |.cX id _=>match o id with|.box _=>true|_=>false
 |.iM id ver _=>match o id with|.vec _ aC _ _=>Nat.beq ver aC|_=>false
 |.fa .. =>true
 |_=>false
def qn:List V->Bool
 |.cX _ _::_=>true
 |_=>false
def Wz:Ty->Bool
 |.int .u8=>false
 |_=>true
def yH(o:Nat->Obj):List V->Bool
 |[]=>true
 |v::r=>Qy o v&&yH o r
def RT(o:Nat->Obj):V->Option (List V)
 |.d (.st p) x=>bif yH o (BS p x) then some (BS p x) else none
 |.agg cs=>bif yH o cs then some cs else none
 |v=>bif Qy o v then some [v] else none
def qo:Ty->Nat->Option Ty
 |.pair a _,0=>some a
 |.pair _ b,n+1=>qo b n
 |.unit,_=>none
 |t,0=>some t
 |_,_+1=>none
def Ft:List Nat->Ty->Option Ty
 |[],t=>some t
 |f::r,.st p=>match qo p f with
  |some u=>Ft r u
  |none=>none
 |_::_,_=>none
def aQ:List lr->Nat->lr
 |[],_=>⟨0,⟨[],[]⟩,⟨[],[]⟩,[]⟩
 |s::_,0=>s
 |_::r,n+1=>aQ r n
abbrev jU(sg:List lr):=(i:Nat)->ai (aQ sg i).ins.aS->Option (ai (aQ sg i).outs.aS)
section
variable (L:Lf) (C:Cx)
def Gd(k:IntKind)(n:Int):Bool:=decide (k.min<=n)&&decide (n<=k.max)
def Kq:Value->V
 |.bool b=>.d .bool b
 |.float .f64 b=>.d .fG b
 |.complex .f64 a b=>.d .dG (a,b)
 |.int k n=>bif Gd k n then .d (.int k) n else .dH
 |.string s=>bif Nat.ble s.size 1000000 then .d .str (s.data.toList.map fun b=>(b.toNat:Int)) else .dH
 |.pointer none=>.gU
 |.nilFunc=>.ga
 |.nilIface=>.iK
 |.slice none 0 0=>.fh
 |_=>.dH
def cG(env:Nat->V):Operand->V
 |.tmp t=>dO (env t)
 |.const v=>Kq v
 |.global g=>match C.lu g with
  |some ⟨t,x⟩=>.ref t x
  |none=>.dH
 |.func f=>bif Nat.blt f 1048576 then .fn f [] else .dH
def Ge(env:Nat->V):Operand->V
 |.tmp t=>env t
 |x=>cG C env x
def eG(o:Nat->Obj):List Nat->List (Nat×Obj)
 |[]=>[]
 |id::r=>match o id with
  |.vec t ver _ s=>(id,.vec t ver true s)::eG o r
  |_=>eG o r
def Fu(id:Nat):List Nat->Bool
 |[]=>true
 |b::r=>bif Nat.beq b id then false else Fu id r
def Fv(o:Nat->Obj):V->Option ((t:Ty)×Sl (den t))
 |.aY id ver=>match o id with
  |.vec t aC _ s=>bif Nat.beq ver aC then some ⟨t,s⟩ else none
  |_=>none
 |.pre id ver n _=>match o id with
  |.vec t aC _ s=>bif Nat.beq ver aC then some ⟨t,⟨s.nil,L.aH s.l n⟩⟩ else none
  |_=>none
 |.iM id ver lo=>match o id with
  |.vec t aC _ s=>bif Nat.beq ver aC then some ⟨t,⟨s.nil,L.cj s.l lo⟩⟩ else none
  |_=>none
 |_=>none
def asInt:V->Option ((_:IntKind)×Int)
 |.d (.int k) n=>some ⟨k,n⟩
 |_=>none
def rH(t:TypeId):Option Ty:=match desc C.P t with
 |some (.slice e)=>C.ty e
 |_=>none
def RU(t:TypeId):Option (Nat×Ty):=match desc C.P t with
 |some (.array n e)=>match C.ty e with
  |some e=>some (n,e)
  |none=>none
 |_=>none
def WA:List V->Bool
 |[]=>false
 |.fh::_=>true
 |_::r=>WA r
def WB(o:Nat->Obj)(t:TypeId)(cs:List V):V:=
 match C.ty t with
 |some (.st p)=>match rT o cs,WA cs with
  |[],false=>match oh L o p cs with
   |some (x,[])=>.d (.st p) x
   |_=>.agg cs
  |_,_=>.agg cs
 |_=>.agg cs
def Qz(l:List V)(i:Nat)(cs:List V):List V:=l.take i++cs++l.drop (i+cs.length)
def WC(o:Nat->Obj)(t:TypeId):V->Pk
 |.ref t' x=>.when (C.is t t') (.now (.d t' x))
 |.rr t' x=>match yG C.P t with
  |some (false,_)=>.now (.ref t' x)
  |_=>.fail
 |.ptr id off=>match o id with
  |.box cs=>match yG C.P t with
   |some (true,n)=>.when (Nat.ble (off+n) cs.length) (.now (WB L C o t ((cs.drop off).take n)))
   |some (false,_)=>match cs[off]? with
    |some v=>.now v
    |none=>.fail
   |none=>.fail
  |_=>.fail
 |.lh id ver i path=>match o id with
  |.vec e aC _ s=>match Ft path e with
   |some t'=>.when (Nat.beq ver aC&&C.is t t') (.dyn (den e) (L.nth s.l i) (fun x=>match Wq path e x with
     |some ⟨t,y⟩=>(.d t y,[])
     |none=>(.dH,[])))
   |none=>.fail
  |_=>.fail
 |_=>.fail
def qxb(o:Nat->Obj)(t:TypeId)(a v:V):Pk:=
 match a with
 |.ptr id off=>match o id with
  |.box cs=>match RT o v with
   |some vs=>match yG C.P t with
    |some (_,n)=>.when (Nat.beq vs.length n&&Nat.ble (off+n) cs.length&&!qn vs) (.now .undef [(id,.box (Qz cs off vs))])
    |none=>.fail
   |none=>.fail
  |_=>.fail
 |.lh id ver i path=>match o id with
  |.vec e aC false s=>match Ft path e with
   |some t'=>.when (Nat.beq ver aC&&C.is t t'&&Fu id (fq o v))
    (.dyn (den e) (L.b (L.nth s.l i) fun x=>Lz path e x (fun u _=>lj L o u v)) (fun y=>(.undef,eG o (fq o v)++[(id,.vec e aC false ⟨s.nil,L.jY s.l i y⟩)])))
   |none=>.fail
  |_=>.fail
 |_=>.fail
def zfc(op:BinOp)(k:IntKind)(a b:Int):Pk:=
 match op with
 |.add=>.now (.d (.int k) (L.a k a b))
 |.sub=>.now (.d (.int k) (L.u k a b))
 |.mul=>.now (.d (.int k) (L.yF k a b))
 |.quo=>.lp (t:=.int k) (L.l7 k a b)
 |.rem=>.lp (t:=.int k) (L.jK a b)
 |.and=>.now (.d (.int k) (L.l9 k a b))
 |.or=>.now (.d (.int k) (L.Ly k a b))
 |.xor=>.now (.d (.int k) (L.qk k a b))
 |.andNot=>.now (.d (.int k) (L.kB k a b))
 |.eql=>.now (.d .bool (L.e a b))
 |.neq=>.now (.d .bool (L.t (L.e a b)))
 |.lss=>.now (.d .bool (L.l a b))
 |.leq=>.now (.d .bool (L.m a b))
 |.gtr=>.now (.d .bool (L.l b a))
 |.geq=>.now (.d .bool (L.m b a))
 |_=>.fail
def zfd(op:BinOp)(a b:List Int):Pk:=
 match op with
 |.add=>.dyn Unit (L.f (L.s (L.n a) (L.n b))) (fun _=>(.d .str (L.q a b),[]))
 |.eql=>.now (.d .bool (L.h a b))
 |.neq=>.now (.d .bool (L.t (L.h a b)))
 |.lss=>.now (.d .bool (L.strLt a b))
 |.gtr=>.now (.d .bool (L.t (L.t (L.d (L.t (L.strLt a b)) (L.t (L.h a b))))))
 |.leq=>.now (.d .bool (L.t (L.d (L.t (L.strLt a b)) (L.t (L.h a b)))))
 |.geq=>.now (.d .bool (L.t (L.strLt a b)))
 |_=>.fail
def zfe(op:BinOp)(a b:Nat):Pk:=
 match op with
 |.add=>.lp (t:=.fG) (L.jL a b)
 |.leq=>.now (.d .bool (L.Ko a b))
 |_=>.fail
def zff(op:BinOp)(a b:Nat×Nat):Pk:=
 match op with
 |.add=>.lp (t:=.dG) (L.b (L.jL a.1 b.1) fun x=>L.b (L.jL a.2 b.2) fun y=>some (x,y))
 |_=>.fail
def jZ(op:BinOp)(b:Bool):Pk:=
 match op with
 |.eql=>.now (.d .bool b)
 |.neq=>.now (.d .bool (L.t b))
 |_=>.fail
def yI(t:TypeId):Nat:=match desc C.P t with
 |some .bool=>0
 |some (.slice _)=>1
 |some (.func ..)=>2
 |some (.pointer _)=>3
 |_=>5
def sure(o:Nat->Obj):V->Bool
 |.ptr id _=>match o id with|.box _=>true|.vec _ aC _ _=>Nat.beq 0 aC|_=>false
 |.ref _ _=>true
 |_=>false
def QA(o:Nat->Obj)(op:BinOp)(t:TypeId)(x y:V):Pk:=
 match x,y with
 |.d (.int k) a,.d (.int k') b=>match op with
  |.shl=>.lp (t:=.int k) (L.qj k a b)
  |.shr=>.lp (t:=.int k) (L.la k a b)
  |op=>match decEq k k' with
   |isTrue _=>zfc L op k a b
   |isFalse _=>.fail
 |.d .str a,.d .str b=>zfd L op a b
 |.d .fG a,.d .fG b=>zfe L op a b
 |.d .dG a,.d .dG b=>zff L op a b
 |.d .bool a,.d .bool b=>.when (Nat.beq (yI C t) 0) (jZ L op (L.fA a b))
 |.d (.st p) a,.d (.st p') b=>match iN p p' b with
  |some b=>.when (bQ t C.eqs&&C.is t (.st p)) (jZ L op (xy L p a b))
  |none=>.fail
 |.d (.sl _) s,.fh=>.when (Nat.beq (yI C t) 1) (jZ L op (Sl.nil s))
 |.fh,.fh=>.when (Nat.beq (yI C t) 1) (jZ L op true)
 |.fn _ _,.ga=>.when (Nat.beq (yI C t) 2) (jZ L op false)
 |.ga,.ga=>.when (Nat.beq (yI C t) 2) (jZ L op true)
 |.fa a k _,.ga=>.when (Nat.beq (yI C t) 2) (jZ L op (L.e k (Int.ofNat (ql a 0))))
 |.gU,.gU=>.when (Nat.beq (yI C t) 3) (jZ L op true)
 |v,.gU=>.when (Nat.beq (yI C t) 3&&sure o v) (jZ L op false)
 |v,.fh=>match Fv L o v with
  |some ⟨_,s⟩=>.when (Nat.beq (yI C t) 1) (jZ L op s.nil)
  |none=>.fail
 |_,_=>.fail
def zfg(o:Nat->Obj)(t:TypeId)(x:V):Pk:=
 match desc C.P t with
 |some .string=>match x with
  |.d .str l=>.now (.d (.int .i64) (L.n (α:=Int) l))
  |_=>.fail
 |some (.slice _)=>match x with
  |.d (.sl _) s=>.now (.d (.int .i64) (L.n s.l))
  |.fh=>.now (.d (.int .i64) (0:Int))
  |v=>match Fv L o v with
   |some ⟨_,s⟩=>.now (.d (.int .i64) (L.n s.l))
   |none=>.fail
 |some (.array n _)=>.when (Nat.ble n 1000000) (.now (.d (.int .i64) ((n:Nat):Int)))
 |_=>.fail
def WD(o:Nat->Obj)(e:Ty):V->Option (List (den e))
 |.d .str l=>iN (.arr 0 e) (.arr 0 (.int .u8)) l
 |v=>match py L o (.sl e) v with
  |some s=>some s.l
  |none=>none
def RV(id ver:Nat)(e:Ty)(nil:Bool)(l m:List (den e)):Pk:=.dyn Unit (L.f (L.s (L.n l) (L.n m))) (fun _=>(.aY id ver,[(id,.vec e ver false ⟨L.d nil (L.i m),L.app l m⟩)]))
def z5n(t:TypeId):Bool:=match desc C.P t with|some (.slice _)=>true|some .string=>true|_=>false
def qs0(o:Nat->Obj)(fresh:Nat)(t u:TypeId)(x y:V):Pk:=
 match rH C t with
 |none=>.fail
 |some e=>match WD L o e y with
  |none=>.fail
  |some m=>.when (z5n C u&&Nat.blt 0 (aM e)) (match x with
   |.fh=>RV L fresh 0 e true [] m
   |.aY id ver=>match o id with
    |.vec e' aC false s=>match iN (.sl e) (.sl e') s with
     |some s=>.when (Nat.beq ver aC) (RV L id (ver+1) e s.nil s.l m)
     |none=>.fail
    |_=>.fail
   |.pre id ver n cp=>match o id with
    |.vec e' aC fr s=>match iN (.sl e) (.sl e') s with
     |some s=>.when (Nat.beq ver aC) (match cp,fr with
      |false,false=>RV L id (ver+1) e s.nil (L.aH s.l n) m
      |true,_=>.dyn Unit (L.b (L.f (L.s (L.n (L.aH s.l n)) (L.n m))) fun _=>L.c (L.i m) none (some ())) (fun _=>(.aY fresh 0,[(fresh,.vec e 0 false ⟨false,L.app (L.aH s.l n) m⟩)]))
      |_,_=>.fail)
     |none=>.fail
    |_=>.fail
   |_=>.fail)
def bd(d:Int)(h:Option V):Option Int:=match h with
 |none=>some d
 |some v=>match asInt v with
  |some ⟨_,n⟩=>some n
  |none=>none
def WE(t:TypeId):Nat:=match desc C.P t with
 |some .string=>0
 |some (.slice _)=>1
 |some (.array ..)=>2
 |_=>3
def qxc(o:Nat->Obj)(fresh:Nat)(t:TypeId)(x:V)(lo hi mx:Option V):Pk:=
 match x,mx with
 |.d .str l,none=>match bd 0 lo,bd (L.n (α:=Int) l) hi with
  |some a,some b=>.when (Nat.beq (WE C t) 0) (.dyn (List Int) (L.cI l a b) (fun m=>(.d .str m,[])))
  |_,_=>.fail
 |.d (.sl e) s,none=>match bd 0 lo,bd (L.n s.l) hi with
  |some a,some b=>.when (jM e (rH C t)) (.dyn (List (den e)) (L.cI s.l a b) (fun m=>(.d (.sl e) (⟨s.nil,m⟩:Sl (den e)),[])))
  |_,_=>.fail
 |.d (.sl e) s,some _=>match lo,bd 1 hi,bd 1 mx with
  |none,some b,some c=>.when (jM e (rH C t)&&Wz e) (.dyn Unit (L.c (L.e b 0) (L.c (L.e c 0) (some ()) none) none) (fun _=>(.aY fresh 0,[(fresh,.vec e 0 false ⟨s.nil,[]⟩)])))
  |_,_,_=>.fail
 |.aY id ver,some _=>match o id with
  |.vec e aC _ s=>.when (Nat.beq ver aC&&jM e (rH C t)) (match lo,bd (-1) hi,bd (-1) mx with
    |none,some b,some c=>.dyn Nat (L.b (L.df (L.n s.l) b) fun p=>L.c (L.e b c) (some p) none) (fun p=>(.pre id ver p true,[]))
    |_,_,_=>.fail)
  |_=>.fail
 |.aY id ver,none=>match o id with
  |.vec e aC _ s=>.when (Nat.beq ver aC&&jM e (rH C t)) (match lo with
    |none=>match bd (L.n s.l) hi with
     |some b=>.dyn Nat (L.df (L.n s.l) b) (fun p=>(.pre id ver p false,[]))
     |none=>.fail
    |some Fw=>match hi with
     |none=>(match bd 0 (some Fw) with
      |some a=>.dyn Nat (L.df (L.n s.l) a) (fun _=>(.iM id ver a,[]))
      |none=>.fail)
     |some _=>match bd 0 lo,bd (L.n s.l) hi with
     |some a,some b=>.dyn (List (den e)) (L.cI s.l a b) (fun m=>(.d (.sl e) (⟨s.nil,m⟩:Sl (den e)),[(id,.vec e aC true s)]))
     |_,_=>.fail)
  |_=>.fail
 |_,_=>.fail
def qhs(o:Nat->Obj)(t:TypeId)(x i:V):Pk:=
 match asInt i with
 |none=>.fail
 |some ⟨_,n⟩=>match x with
  |.d (.sl e) s=>.when (jM e (rH C t)) (.dyn (den e) (L.g s.l n) (fun y=>(.ref e y,[])))
  |.ref (.arr m e) l=>match RU C t with
   |some (m',e')=>.when (Nat.beq m m'&&jM e (some e')) (.dyn (den e) (L.g l n) (fun y=>(.ref e y,[])))
   |none=>.fail
  |.aY id ver=>match o id with
   |.vec e aC _ s=>.when (Nat.beq ver aC&&jM e (rH C t)) (.dyn Nat (L.cD s.l n) (fun j=>(.lh id ver j [],[])))
   |_=>.fail
  |.pre id ver k _=>match o id with
   |.vec e aC _ s=>.when (Nat.beq ver aC&&jM e (rH C t)) (.dyn Nat (L.cD (L.aH s.l k) n) (fun j=>(.lh id ver j [],[])))
   |_=>.fail
  |.iM id ver lo=>match o id with
   |.vec e aC _ s=>.when (Nat.beq ver aC&&jM e (rH C t)) (.dyn Nat (L.c (L.m 0 n) (L.cD s.l (L.s lo n)) none) (fun j=>(.lh id ver j [],[])))
   |_=>.fail
  |.ptr id 0=>match o id with
   |.vec e 0 _ s=>match RU C t with
    |some (m,e')=>.when (jM e (some e')) (.dyn Nat (L.b (L.df ((m:Nat):Int) (L.s n 1)) fun _=>L.cD s.l n) (fun j=>(.lh id 0 j [],[])))
    |none=>.fail
   |_=>.fail
  |_=>.fail
def qxd(t:TypeId)(x i:V):Pk:=
 match asInt i with
 |none=>.fail
 |some ⟨_,n⟩=>match x with
  |.d .str l=>.when (Nat.beq (WE C t) 0) (.lp (t:=.int .u8) (L.g (α:=Int) l n))
  |.d (.arr m e) l=>match RU C t with
   |some (m',e')=>.when (Nat.beq m m'&&jM e (some e')) (.lp (t:=e) (L.g l n))
   |none=>.fail
  |_=>.fail
def QB(o:Nat->Obj)(t:TypeId)(x:V)(f:Nat):Pk:=
 match RG C.P t f with
 |none=>.fail
 |some fd=>match yG C.P fd.type with
  |some (_,sz)=>.when (Nat.blt 0 sz) (match x with
   |.ptr id off=>match o id with
    |.box _=>.now (.ptr id (off+fd.offset))
    |_=>.fail
   |.ref t' y=>.when (C.is t t') (match Qs t' f y with
    |some ⟨u,z⟩=>.now (.ref u z)
    |none=>.fail)
   |.lh id ver i path=>match o id with
    |.vec e aC _ _=>match Ft path e with
     |some t'=>match t' with
      |.st p=>match qo p f with
       |some _=>.when (Nat.beq ver aC&&C.is t t') (.now (.lh id ver i (path++[f])))
       |none=>.fail
      |_=>.fail
     |none=>.fail
    |_=>.fail
   |_=>.fail)
  |none=>.fail
def qxe(t:TypeId)(x:V)(f:Nat):Pk:=
 match x with
 |.d t' y=>.when (C.is t t') (match Qs t' f y with
  |some ⟨u,z⟩=>.now (.d u z)
  |none=>.fail)
 |.agg cs=>match RG C.P t f with
  |some fd=>match yG C.P fd.type with
   |some (true,n)=>.when (Nat.ble (fd.offset+n) cs.length) (.now (.agg ((cs.drop fd.offset).take n)))
   |some (false,_)=>match cs[fd.offset]? with
    |some v=>.now v
    |none=>.fail
   |none=>.fail
  |none=>.fail
 |_=>.fail
def BY(e:TypeId):Bool:=match desc C.P e with|some (.int .u8)=>true|_=>false
def qnf(o:Nat->Obj)(fresh:Nat)(s t:TypeId)(x:V):Pk:=
 match desc C.P s with
 |none=>.fail
 |some ds=>match desc C.P t with
  |some (.int k)=>match x with
   |.d (.int _) n=>.now (.d (.int k) (L.dV k n))
   |_=>.fail
  |some (.float .f64)=>match x with
   |.d (.int _) n=>.now (.d .fG (L.cT n))
   |_=>.fail
  |some .string=>match x with
   |.d .str l=>.now (.d .str l)
   |v=>match ds with
    |.slice e=>.when (BY C e&&Nat.blt 0 1) (match py L o (.sl (.int .u8)) v with
     |some s=>.now (.d .str (Sl.l s))
     |none=>.fail)
    |_=>.fail
  |some (.slice e)=>match x with
   |.d .str l=>match ds with
    |.string=>.when (BY C e) (.dyn Unit (L.f (L.n l)) (fun _=>(.aY fresh 0,[(fresh,.vec (.int .u8) 0 false ⟨false,l⟩)])))
    |_=>.fail
   |.aY id ver=>match ds with
    |.slice _=>match o id with
     |.vec (.int .u8) aC false b=>.when (BY C e&&Nat.beq s t&&Nat.beq ver aC) (.dyn Unit (L.c b.nil none (some ())) (fun _=>(.aY id ver,[(id,.vec (.int .u8) ver false b)])))
     |_=>.fail
    |_=>.fail
   |_=>.fail
  |_=>.fail
def WG(t:TypeId):Option (List V):=match C.P.types.toList[t]? with
 |some i=>match i.zero with
  |some z=>some (z.cells.toList.map Kq)
  |none=>none
 |none=>none
def WH(o:Nat->Obj)(fs:List Field):List (Nat×V)->List V->Option (List V)
 |[],cs=>some cs
 |p::r,cs=>match fs[p.1]?,RT o p.2 with
  |some fd,some vs=>match yG C.P fd.type with
   |some (_,n)=>bif Nat.beq vs.length n&&Nat.ble (fd.offset+n) cs.length then WH o fs r (Qz cs fd.offset vs) else none
   |none=>none
  |_,_=>none
def Kr(o:Nat->Obj)(e:Ty):List (Nat×V)->List (den e)->Option (List (den e))
 |[],l=>some l
 |p::r,l=>match lj L o e p.2 with
  |some x=>bif Nat.blt p.1 l.length then Kr o e r (l.set p.1 x) else none
  |none=>none
def Bw(o:Nat->Obj):List (Nat×V)->List Nat
 |[]=>[]
 |p::r=>fq o p.2++Bw o r
def WI(P:Program):List Field->Bool
 |[]=>true
 |f::r=>match yG P f.type with
  |some _=>WI P r
  |none=>false
def qxf(o:Nat->Obj)(t:TypeId)(parts:List (Nat×V)):Pk:=
 match desc C.P t with
 |some (.struct fs)=>.when (WI C.P fs.toList) (match WG C t with
  |some z=>match WH C o fs.toList parts z with
   |some cs=>.now (WB L C o t cs)
   |none=>.fail
  |none=>.fail)
 |some (.array n _)=>match C.ty t with
  |some (.arr n' e)=>.when (Nat.beq n n') (match Kr L o e parts (List.replicate n (zero e)) with
   |some l=>.now (.d (.arr n' e) l) (eG o (Bw o parts))
   |none=>.fail)
  |_=>.fail
 |_=>.fail
def qea(o:Nat->Obj)(fresh:Nat)(t:TypeId)(n:Nat)(parts:List (Nat×V)):Pk:=
 match rH C t with
 |some e=>.when (Nat.ble (n*aM e) 16777216&&Nat.blt 0 (aM e)) (match Kr L o e parts (List.replicate n (zero e)) with
  |some l=>.now (.aY fresh 0) (eG o (Bw o parts)++[(fresh,.vec e 0 false ⟨false,l⟩)])
  |none=>.fail)
 |none=>.fail
def BZ:Nat->TypeId->List (Option Ty)
 |0,_=>[]
 |n+1,t=>match desc C.P t with
  |some (.struct fs)=>(fs.toList.map fun f=>BZ n f.type).flatten
  |some (.slice e)=>[C.ty e]
  |some (.array ..)=>match yG C.P t with
   |some (_,k)=>List.replicate k none
   |none=>[]
  |_=>[none]
def pA(i:Nat):List V->List (Option Ty)->List V×List (Nat×Obj)
 |.fh::r,some e::s=>let p:=pA (i+1) r s;(.aY i 0::p.1,(i,.vec e 0 false ⟨true,[]⟩)::p.2)
 |v::r,_::s=>let p:=pA i r s;(v::p.1,p.2)
 |l,[]=>(l,[])
 |[],_=>([],[])
def yJ:List V->Nat
 |[]=>0
 |.fh::r=>yJ r+1
 |_::r=>yJ r
def WJ(fresh:Nat)(t:TypeId)(cs:List V):Pk:=
 let p:=bif Nat.ble (yJ cs) 14 then pA (fresh+1) cs (BZ C 8 t) else(cs,[])
 .when (!qn p.1) (.now (.ptr fresh 0) ((fresh,.box p.1)::p.2))
def z5o(fresh:Nat):List V->Pk
 |[.gU,.fh]=>.now (.ptr fresh 0) [(fresh,.box [.cX fresh false,.aY (fresh+1) 0]),(fresh+1,.vec (.int .u8) 0 false ⟨true,[]⟩)]
 |_=>.fail
def WK(fresh:Nat):List V->Pk
 |[.gU,.fh,.d s x,.d t y]=>.when (lx s&&lx t) (.now (.ptr fresh 0) [(fresh,.box [.cX fresh false,.aY (fresh+1) 0,.d s x,.d t y]),(fresh+1,.vec (.int .u8) 0 false ⟨true,[]⟩)])
 |_=>.fail
def z5p(fresh:Nat)(t:TypeId)(b:Bool):Pk->Pk
 |.mW (.agg cs) []=>bif b&&WA cs&&Nat.ble (yJ cs) 15 then .now (.agg (pA fresh cs (BZ C 8 t)).1) (pA fresh cs (BZ C 8 t)).2 else .now (.agg cs)
 |p=>p
def qxg(fresh:Nat)(t:TypeId):Pk:=
 match C.ty t with
 |some (.arr n e)=>.when (Nat.blt 0 (aM e)&&Nat.ble n 1000000&&Wz e) (.now (.ptr fresh 0) [(fresh,.vec e 0 false ⟨false,List.replicate n (zero e)⟩)])
 |_=>match WG C t with
  |some cs=>bif Nat.beq t C.mf then z5o fresh cs else bif Nat.beq t C.rU then WK fresh cs else WJ C fresh t cs
  |none=>.fail
def zfh(o:Nat->Obj)(fresh:Nat)(t:TypeId)(v:V):Pk:=
 match v with
 |.d (.arr n e) l=>.when (Nat.blt 0 (aM e)&&Nat.ble n 1000000&&Wz e) (.now (.ptr fresh 0) [(fresh,.vec e 0 false ⟨false,l⟩)])
 |v=>match RT o v with
  |some cs=>bif Nat.beq t C.rU then WK fresh cs else WJ C fresh t cs
  |none=>.fail
def RW(fresh:Nat)(t:TypeId)(v:V):Pk:=
 match v with
 |.fh=>match rH C t with
  |some e=>.now (.aY fresh 0) [(fresh,.vec e 0 false ⟨true,[]⟩)]
  |none=>.now .fh
 |v=>.now v
def zfi(x:Bool)(a b:V):V:=
 match a,b with
 |.d t a',.d t' b'=>match iN t t' b' with
  |some b'=>.d t (L.Wo x a' b')
  |none=>bif x then a else b
 |_,_=>bif x then a else b
def qht(fresh:Nat)(t:TypeId)(l c:V):Pk:=
 match rH C t,asInt l,asInt c with
 |some e,some ⟨_,n⟩,some ⟨_,m⟩=>.when (Nat.blt 0 (aM e)) (.dyn Nat (L.BR n m) (fun k=>(.aY fresh 0,[(fresh,.vec e 0 false ⟨false,L.rep k (zero e)⟩)])))
 |_,_,_=>.fail
def Bx:Ty->Bool
 |.sl _=>true
 |.pair a b=>Bx a||Bx b
 |.st p=>Bx p
 |.arr _ e=>Bx e
 |.fG=>true
 |.dG=>true
 |_=>false
mutual
def RX:Sh->Bool
 |.d t=>Bx t
 |.fa _=>true
 |.ref _=>true
 |.rr _=>true
 |.fn _ l=>By l
 |.mc l=>By l
 |.agg l=>By l
 |_=>false
def By:List Sh->Bool
 |[]=>false
 |s::l=>RX s||By l
end
def yK:List fS->Bool
 |[]=>false
 |.box l::r=>By l||yK r
 |.vec t::r=>Bx t||yK r
 |.gone::r=>yK r
 |.iter::r=>yK r
def mX(s:Shape):Bool:=By s.roots||yK s.aw
def WL(o:Nat->Obj):List Nat->Bool
 |[]=>true
 |id::r=>(match o id with|.box _=>false|.iter _ _=>false|_=>true)&&WL o r
def Gf(bN:List Nat):Nat->Nat->List fS->Bool
 |0,_,_=>true
 |n+1,i,.gone::r=>Fu i bN&&Gf bN n (i+1) r
 |n+1,i,_::r=>bQ i bN&&Gf bN n (i+1) r
 |_+1,_,[]=>false
variable (R:jU C.sigs)
def WM(o:Nat->Obj)(aT:List (Nat×Nat)):Nat->Bool
 |0=>true
 |n+1=>(match iO n aT with
  |some cN=>(match o cN with|.none=>false|_=>true)
  |none=>false)&&WM o aT n
def WN(ps:PS):List Nat->Bool
 |[]=>true
 |i::r=>RJ (iO ((iO i ps.aT).getD 0) ps.cut)&&WN ps r
def WO(o:Nat->Obj)(ps:PS)(k:Nat)(outs:Shape)(bN:List Nat):Bool:=WN ps bN&&Gf bN k 0 outs.aw&&(WL o ps.cq||!(mX outs))&&WM o ps.aT k&&Nat.ble outs.aw.length (k+16)
def Fy(aT:List (Nat×Nat))(k fresh:Nat):Nat->Nat:=fun id=>bif Nat.blt id k then(iO id aT).getD 0 else fresh+(id-k)
def zig:Obj->Nat
 |.vec _ ver _ _=>ver
 |_=>0
def Gg(o:Nat->Obj)(aT:List (Nat×Nat))(k:Nat)(bN:List Nat):Nat->Nat:=fun id=>bif Nat.blt id k&&bQ id bN then zig (o ((iO id aT).getD 0)) else 0
def B0:List V->V
 |[v]=>v
 |vs=>.mc vs
def Fz(o:Nat->Obj)(fresh:Nat)(f:Nat)(args:List V):List lr->Nat->Pk
 |[],_=>.fail
 |s::r,i=>bif Nat.beq s.f f then match pack L o [] (aQ C.sigs i).ins args with
   |some (ps,c)=>.when (Nat.beq (aQ C.sigs i).f f&&WO o ps (aQ C.sigs i).ins.aw.length (aQ C.sigs i).outs (aQ C.sigs i).bN)
    (.dyn (ai (aQ C.sigs i).outs.aS) (R i c) (fun y=>
     (B0 (fill (Fy ps.aT (aQ C.sigs i).ins.aw.length fresh) (Gg o ps.aT (aQ C.sigs i).ins.aw.length (aQ C.sigs i).bN) (aQ C.sigs i).outs y).1,
      (bif mX (aQ C.sigs i).outs then eG o ps.cq else [])++(fill (Fy ps.aT (aQ C.sigs i).ins.aw.length fresh) (Gg o ps.aT (aQ C.sigs i).ins.aw.length (aQ C.sigs i).bN) (aQ C.sigs i).outs y).2)))
   |none=>Fz o fresh f args r (i+1)
  else Fz o fresh f args r (i+1)
def faX:Pk->Option (Option Bool)
 |.dyn _ x out=>some (L.b x fun y=>match out y with
  |(.d .bool b,[])=>some b
  |_=>none)
 |_=>none
def RY(o:Nat->Obj)(fresh:Nat)(k n:Int)(args:List V):List (Nat×Bool)->Nat->Option (Option Bool)
 |[],_=>some none
 |(f,c)::r,i=>match faX L (Fz L C R o fresh f (args++bif c then [.ref (.int .i64) n] else []) C.sigs 0) with
  |some x=>match RY o fresh k n args r (i+1) with
   |some y=>some (L.c (L.e k (Int.ofNat i)) x y)
   |none=>none
  |none=>none
def z5q(o:Nat->Obj)(t:TypeId)(x y:V):Pk:=
 match x with
 |.aY id ver=>match o id with
  |.vec e aC false s=>match WD L o e y with
   |some m=>.when (Nat.beq ver aC&&jM e (rH C t)) (.now (.d (.int .i64) (L.kC (L.n s.l) (L.n m))) [(id,.vec e ver false ⟨s.nil,L.rS s.l m⟩)])
   |none=>.fail
  |_=>.fail
 |_=>.fail
def qxh(o:Nat->Obj)(t:TypeId)(x:V):Pk:=
 match x with
 |.iM id ver lo=>match o id with
  |.vec e aC false s=>.when (Nat.beq ver aC&&jM e (rH C t)) (.now (.mc []) [(id,.vec e ver false ⟨s.nil,L.fF s.l lo (zero e)⟩)])
  |_=>.fail
 |_=>.fail
def qu0(o:Nat->Obj)(fresh:Nat)(b:Builtin)(ts:List TypeId)(args:List V):Pk:=
 match b,ts,args with
 |.len,t::_,[x]=>zfg L C o t x
 |.append,t::u::_,[x,y]=>qs0 L C o fresh t u x y
 |.copy,t::_,[x,y]=>z5q L C o t x y
 |.clear,t::_,[x]=>qxh L C o t x
 |.min,_,[.d (.int k) a,.d (.int k') b]=>.when (Nat.beq (vN k) (vN k')) (.now (.d (.int k) (L.kC a b)))
 |.max,_,[.d (.int k) a,.d (.int k') b]=>.when (Nat.beq (vN k) (vN k')) (.now (.d (.int k) (L.kD a b)))
 |.complex,_,[.d .fG a,.d .fG b]=>.now (.d .dG ((a:Nat),(b:Nat)))
 |.real,_,[.d .dG a]=>.now (.d .fG (Prod.fst (α:=Nat) (β:=Nat) a))
 |.imag,_,[.d .dG a]=>.now (.d .fG (Prod.snd (α:=Nat) (β:=Nat) a))
 |_,_,_=>.fail
def qxi(fresh:Nat)(t:TypeId)(x:V):Pk:=match desc C.P t with
 |some .string=>match x with
  |.d .str l=>.now (.it fresh) [(fresh,.iter l 0)]
  |_=>.fail
 |_=>.fail
def z5r(o:Nat->Obj)(x:V):Pk:=match x with
 |.it id=>match o id with
  |.iter l p=>.now (.Wp (L.l p (L.n l)) p (L.fN l p)) [(id,.iter l (L.gO l p))]
  |_=>.fail
 |_=>.fail
def zfj(i:Nat):V->Pk
 |.mc vs=>match vs[i]? with
  |some v=>.now v
  |none=>.fail
 |.Wp b p c=>match i with
  |0=>.now (.d .bool b)
  |1=>.lp (t:=.int .i64) (L.c b (some p) none)
  |2=>.lp (t:=.int .i32) (L.c b (some c) none)
  |_=>.fail
 |_=>.fail
def LK:IntKind->Int
 |.u8=>255|.u16=>65535|.u32=>4294967295|.u64=>18446744073709551615|_=>-1
def QC(o:Nat->Obj)(v:V):Pk:=
 match v with
 |.ptr _ _=>.when (sure o v) (.now v)
 |.ref _ _=>.now v
 |.lh id ver _ _=>match o id with
  |.vec _ aC _ _=>.when (Nat.beq ver aC) (.now v)
  |_=>.fail
 |.fn _ _=>.now v
 |_=>.fail
def cZ(env:Nat->V)(o:Nat->Obj)(fresh:Nat)(t:TypeId):Op->Pk
 |.move x=>RW C fresh t (cG C env x)
 |.assign x=>RW C fresh t (cG C env x)
 |.pick c a b=>match Ge C env c with
  |.lb x=>.now (bif x then cG C env a else cG C env b)
  |.d .bool x=>.now (zfi L x (cG C env a) (cG C env b))
  |_=>.fail
 |.alloc e=>qxg C fresh e
 |.box e x=>zfh C o fresh e (cG C env x)
 |.build t ps=>z5p C fresh t (!(Nat.beq t C.rU)) (qxf L C o t (ps.toList.map fun p=>(p.1,cG C env p.2)))
 |.buildSlice t n ps=>qea L C o fresh t n (ps.toList.map fun p=>(p.1,cG C env p.2))
 |.load t a=>WC L C o t (cG C env a)
 |.store t a v=>qxb L C o t (cG C env a) (cG C env v)
 |.nilCheck x=>QC o (cG C env x)
 |.binOp op t x y _=>QA L C o op t (cG C env x) (cG C env y)
 |.unOp .not _ x=>match cG C env x with
  |.d .bool x=>.now (.d .bool (L.t x))
  |_=>.fail
 |.unOp .xor _ x=>match cG C env x with
  |.d (.int k) n=>.now (.d (.int k) (L.qk k (LK k) n))
  |_=>.fail
 |.unOp .neg _ x=>match cG C env x with
  |.d (.int k) n=>.now (.d (.int k) (L.u k 0 n))
  |_=>.fail
 |.convert s d x=>qnf L C o fresh s d (cG C env x)
 |.makeFunc (.func f) first caps=>.when (Nat.blt f 1048576) (.now (.fn (f+1048576*first.toList.length) (first.toList.map (cG C env)++caps.toList.map (cG C env))))
 |.makeSlice t l c=>qht L C fresh t (cG C env l) (cG C env c)
 |.slice t x lo hi mx=>qxc L C o fresh t (cG C env x) (lo.map (cG C env)) (hi.map (cG C env)) (mx.map (cG C env))
 |.fieldAddr t x f=>QB C o t (cG C env x) f
 |.field t x f=>qxe C t (cG C env x) f
 |.indexAddr t x i=>qhs L C o t (cG C env x) (cG C env i)
 |.index t x i=>qxd L C t (cG C env x) (cG C env i)
 |.extract x i=>zfj L i (cG C env x)
 |.range t x=>qxi C fresh t (cG C env x)
 |.next x true=>z5r L o (cG C env x)
 |.call c=>match c.callee with
  |.builtin b=>qu0 L C o fresh b c.argTypes.toList (c.args.toList.map (cG C env))
  |.value f=>match cG C env f with
   |.fn f caps=>Fz L C R o fresh (f % 1048576) (caps.take (f / 1048576)++(c.args.toList.map (cG C env)++caps.drop (f / 1048576))) C.sigs 0
   |.fa a k n=>match RY L C R o fresh k n (c.args.toList.map (cG C env)) a 0 with
    |some x=>.dyn Bool x (fun b=>(.d .bool b,[]))
    |none=>.fail
   |_=>.fail
  |_=>.fail
 |_=>.fail
end
end Ev