/- The evaluator: leaves, types, values, shapes, operations. -/
import GoSem.Core.Code
import GoSem.Core.Program
import GoSem.Core.View
import GoSem.Core.Utf8
import GoSem.Core.Float
namespace Ev
theorem om{p:Prop}(h:p:=by omega):p:=h
theorem dc{p:Prop}(h:p:=by decide):p:=h
abbrev zd:=@List.length_append
abbrev ze:=@Bool.and_eq_true
abbrev zf:=@List.mem_cons_of_mem
abbrev zg:=@List.mem_cons_self
abbrev zh:=@List.getElem?_eq_getElem
abbrev zj:=@if_neg
abbrev zk:=@List.append_assoc
abbrev zm:=@Nat.le_refl
abbrev zn:=@List.length_cons
abbrev zo:=@Nat.eq_of_beq_eq_true
abbrev zt:=@decide_eq_false
abbrev zu:=@if_pos
abbrev zv:=@List.append_nil
abbrev zw:=@decide_eq_true
abbrev zA:=@List.mem_cons
abbrev zB:=@List.length_singleton
abbrev zC:=@Nat.zero_le
abbrev zD:=@List.mem_append
abbrev zE:=@cond_false
abbrev zF:=@Classical.byContradiction
abbrev zG:=@List.mem_append_right
abbrev zH:=@List.mem_of_getElem?
abbrev zI:=@List.length_map
abbrev zJ:=@List.mem_singleton
abbrev zK:=@cond_true
abbrev zL:=@List.not_mem_nil
abbrev zM:=@List.getElem?_append_right
abbrev zN:=@List.mem_append_left
abbrev zO:=@Option.bind_eq_some_iff
abbrev zP:=@Nat.le_of_ble_eq_true
abbrev zQ:=@List.length_nil
abbrev zR:=@List.drop_eq_nil_of_le
abbrev zT:=@List.getElem?_eq_some_iff
abbrev zU:=@Option.some.injEq
abbrev zV:=@decide_eq_true_eq
abbrev zW:=@Nat.zero_add
abbrev zX:=@List.map_cons
abbrev zY:=@Bool.not_true
abbrev zZ:=@of_decide_eq_true
abbrev ja:=@List.flatten_cons
abbrev jb:=@Option.some.inj
abbrev jc:=@Bool.or_eq_false_iff
abbrev jd:=@congrArg
abbrev je:=@Nat.le_trans
abbrev jf:=@List.length_drop
abbrev jg:=@decide_eq_false_iff_not
abbrev jh:=@List.drop_zero
abbrev ji:=@Array.getElem?_toList
abbrev jj:=@Option.map_eq_some_iff
abbrev jk:=@Bool.or_eq_true
abbrev jl:=@List.eq_nil_of_length_eq_zero
abbrev jm:=@List.flatten_nil
abbrev jn:=@List.map_append
abbrev jo:=@Nat.lt_of_lt_of_le
abbrev jp:=@List.length_replicate
abbrev jq:=@Int.toNat_natCast
abbrev jr:=@Nat.add_assoc
abbrev jt:=@Nat.mul_le_mul_right
abbrev ju:=@List.all_eq_true
abbrev jv:=@List.length_take
abbrev jw:=@List.drop_drop
abbrev jx:=@List.getElem_mem
abbrev jy:=@Nat.sub_self
abbrev jz:=@decide_eq_decide
abbrev jA:=@Array.length_toList
abbrev jB:=@List.mem_of_mem_drop
abbrev jC:=@Nat.le_succ_of_le
abbrev jD:=@List.take_length
abbrev jE:=@List.getElem?_append_left
abbrev jF:=@List.nil_append
abbrev jG:=@Nat.lt_succ_self
abbrev jH:=@List.take_append_drop
abbrev jI:=@Array.getD_eq_getD_getElem?
abbrev jJ:=@Bool.false_beq
abbrev jK:=@List.mem_of_mem_take
abbrev jL:=@List.cons_append
abbrev jM:=@List.flatMap_cons
abbrev jN:=@List.getElem?_eq_none
abbrev jO:=@Bool.not_false
abbrev jP:=@Int.eq_ofNat_of_zero_le
abbrev jQ:=@Int.le_refl
abbrev jR:=@Nat.mul_lt_mul_of_pos_right
abbrev jS:=@List.mem_map
abbrev jT:=@List.take_of_length_le
abbrev jU:=@Eq.trans
abbrev jV:=@Bool.true_and
abbrev jW:=@List.sum_cons
abbrev jX:=@Prod.mk.injEq
abbrev jY:=@Nat.add_mul
abbrev jZ:=@List.getElem?_map
abbrev Za:=@Nat.lt_trichotomy
abbrev Zb:=@List.cons.injEq
abbrev Zc:=@Nat.pow_add
abbrev Zd:=@Array.toList_inj
abbrev Ze:=@of_decide_eq_false
abbrev Zf:=@Array.getElem?_modify
abbrev Zg:=@List.drop_eq_getElem_cons
abbrev Zh:=@Bool.eq_iff_iff
abbrev Zi:=@List.foldl_cons
abbrev Zj:=@Nat.min_eq_left
abbrev Zk:=@Nat.two_pow_pos
abbrev Zl:=@List.take_add_one
abbrev Zm:=@Nat.succ_mul
abbrev Zn:=@Bool.false_or
abbrev Zo:=@Bool.or_false
abbrev Zp:=@List.mem_map_of_mem
abbrev Zq:=@List.drop_take
abbrev Zr:=@Nat.add_sub_cancel_left
abbrev Zs:=@Nat.shiftLeft_eq
abbrev Zt:=@or_false
abbrev Zu:=@Bool.false_eq_true
abbrev Zv:=@ByteArray.size_extract
abbrev Zw:=@List.getElem_cons_drop
abbrev Zx:=@UInt8.toNat_ofNat'
abbrev Zy:=@List.sum_append
abbrev Zz:=@List.take_left'
abbrev ZA:=@Nat.not_lt_zero
abbrev ZB:=@UInt8.toNat_inj
abbrev ZC:=@List.any_cons
abbrev ZD:=@Classical.choose_spec
abbrev ZE:=@List.length_mergeSort
abbrev ZF:=@BEq.rfl
abbrev ZG:=@Bool.not_eq_true'
abbrev ZH:=@Array.toArray_toList
abbrev ZI:=@Array.toList_setIfInBounds
abbrev ZJ:=@Bool.false_and
abbrev ZK:=@Array.toList_map
abbrev ZL:=@Array.getElem?_eq_getElem
abbrev ZM:=@List.flatten_append
abbrev ZN:=@List.length_pos_iff
abbrev ZO:=@List.mergeSort_perm
abbrev ZP:=@beq_eq_false_iff_ne
abbrev ZQ:=@Bool.and_true
abbrev ZR:=@Nat.mul_assoc
abbrev ZS:=@List.nodup_cons
abbrev ZT:=@Option.map_some
abbrev ZU:=@List.pairwise_cons
abbrev ZV:=@List.not_all_eq_any_not
abbrev ZW:=@List.set_eq_take_append_cons_drop
abbrev ZX:=@List.map_map
abbrev ZY:=@Array.getElem?_eq_none
abbrev ZZ:=@List.drop_left
abbrev Ja:=@List.size_toArray
abbrev Jb:=@Nat.add_comm
abbrev Jc:=@Bool.and_eq_false_iff
abbrev Jd:=@List.ext_getElem
abbrev Je:=@Nat.le_add_right
abbrev Jf:=@Nat.mod_eq_of_lt
abbrev Jg:=@Nat.succ_ne_zero
abbrev Jh:=@List.all_cons
abbrev Ji:=@List.drop_eq_nil_iff
abbrev Jj:=@List.drop_succ_cons
abbrev Jk:=@List.length_flatten
abbrev Jl:=@List.length_reverse
abbrev Jm:=@List.map_eq_nil_iff
abbrev Jn:=@List.replicate_succ
abbrev Jo:=@List.take_succ_cons
abbrev Jp:=@Nat.mul_le_mul_left
abbrev Jq:=@List.map_nil
abbrev Jr:=@List.append_of_mem
abbrev Js:=@List.nodup_nil
abbrev Jt:=@List.take_left
abbrev Ju:=@Nat.add_sub_cancel
abbrev Jv:=@Nat.blt_eq
abbrev Jw:=@Nat.mul_le_mul
abbrev Jx:=@and_true
abbrev Jy:=@Nat.le_succ
abbrev Jz:=@Bool.and_self
abbrev JA:=@Nat.div_eq_of_lt
abbrev JB:=@Nat.lt_log2_self
abbrev JC:=@Option.bind_some
abbrev JD:=@Option.getD_some
abbrev JE:=@beq_self_eq_true
abbrev JF:=@Bool.or_true
abbrev JG:=@Nat.beq_refl
open Go
variable{α:Type}
structure Sl (α:Type) where
 nil:Bool
 l:List α
def aw{α β:Type}(x:Option α)(f:α->Option β):Option β:=match x with|some a=>f a|none=>none
def aL{α:Type}(x:Bool)(a b:Option α):Option α:=match x with|true=>a|false=>b
def UY{α:Type}(x:Bool)(a b:α):α:=match x with|true=>a|false=>b
def cd{α β:Type}(f:α->Option β)(y:α⊕β):Option β:=match y with|.inl a=>f a|.inr b=>some b
def ai(a:Bool):Bool:=!a
def aH(a b:Bool):Bool:=a&&b
def fL(l:List α)(i:Int):Option α:=if 0<=i then l[i.toNat]? else none
def cj{α:Type}(l:List α)(i:Int):Option Nat:=if 0<=i/\i<l.length then some i.toNat else none
def bS{α:Type}(l:List α)(lo hi:Int):Option (List α):=if 0<=lo/\lo<=hi/\hi<=l.length then some ((l.take hi.toNat).drop lo.toNat) else none
def dY(n:Int)(hi:Int):Option Nat:=if 0<=hi/\hi<=n then some hi.toNat else none
def fit(n:Int):Option Unit:=if n<=2147483648 then some () else none
def wy(n m:Int):Option Nat:=if 0<=n/\n<=m/\m<=2147483648 then some n.toNat else none
def Be(k:IntKind)(a b:Int):Option Int:=if b=0 then none else some (k.wrap (a.tdiv b))
def oS(a b:Int):Option Int:=if b=0 then none else some (a.tmod b)
def lr(k:IntKind)(a b:Int):Option Int:=if b<0 then none else some (k.wrap (a*2 ^ min b.toNat k.bits))
def lu(k:IntKind)(a b:Int):Option Int:=if b<0 then none else some (a.fdiv (2 ^ min b.toNat k.bits))
def bc(k:IntKind)(a b:Int):Int:=k.wrap (a+b)
def dx(k:IntKind)(a b:Int):Int:=k.wrap (a-b)
def pW(k:IntKind)(a b:Int):Int:=k.wrap (a*b)
def fR(k:IntKind)(a:Int):Int:=k.wrap a
def mV(k:IntKind)(a b:Int):Int:=k.wrap (BitVec.ofInt k.bits a&&&BitVec.ofInt k.bits b).toNat
def Az(k:IntKind)(a b:Int):Int:=k.wrap (BitVec.ofInt k.bits a|||BitVec.ofInt k.bits b).toNat
def pX(k:IntKind)(a b:Int):Int:=k.wrap (BitVec.ofInt k.bits a ^^^ BitVec.ofInt k.bits b).toNat
def ly(k:IntKind)(a b:Int):Int:=k.wrap (BitVec.ofInt k.bits a&&&~~~BitVec.ofInt k.bits b).toNat
def aZ(a b:Int):Bool:=decide (a<b)
def cD(a b:Int):Bool:=decide (a<=b)
def ah(a b:Int):Bool:=a==b
def ga(a b:Bool):Bool:=a==b
def bW(a b:List Int):Bool:=a==b
def fw(a b:List Int):List Int:=a++b
def lA(a b:Int):Int:=if b<a then b else a
def lB(a b:Int):Int:=if a<b then b else a
def bL(a b:Int):Int:=a+b
def aa{α:Type}(l:List α):Int:=(l.length:Int)
def app{α:Type}(l m:List α):List α:=l++m
def rep{α:Type}(n:Nat)(x:α):List α:=List.replicate n x
def nth{α:Type}(l:List α)(n:Nat):Option α:=l[n]?
def kF{α:Type}(l:List α)(n:Nat)(x:α):List α:=l.set n x
def aP{α:Type}(l:List α)(n:Nat):List α:=l.take n
def eN{α:Type}(l:List α)(n:Int):List α:=l.drop n.toNat
def gb{α:Type}(l:List α)(n:Int)(z:α):List α:=l.take n.toNat++List.replicate (l.length-n.toNat) z
def uz{α:Type}(l m:List α):List α:=m.take l.length++l.drop m.length
def cB{α:Type}(l:List α):Bool:=l.isEmpty
def strLt:List Int->List Int->Bool
 |_,[]=>false
 |[],_::_=>true
 |a::x,b::y=>decide (a<b)||(decide (a=b)&&strLt x y)
def mM(l:List Int):ByteArray:=⟨(l.map fun b=>UInt8.ofNat b.toNat).toArray⟩
def fh(l:List Int)(p:Int):Int:=((Utf8.decode (mM l) p.toNat).1:Int)
def gP(l:List Int)(p:Int):Int:=if p<l.length then p+((Utf8.decode (mM l) p.toNat).2:Int) else p
def ko(a b:Nat):Option Nat:=Ieee.double.add a b
def GC(a b:Nat):Bool:=(Ieee.double.order a b==some .lt)||(Ieee.double.order a b==some .eq)
def cV(n:Int):Nat:=FloatKind.nearest .f64 n
def oT{σ ρ:Type}(f:σ->Option (σ⊕ρ)):Nat->σ->Option ρ
 |0,_=>none
 |n+1,s=>match f s with
  |some (.inl s')=>oT f n s'
  |some (.inr r)=>some r
  |none=>none
open Classical in
@[irreducible] noncomputable def aI{σ ρ:Type}(f:σ->Option (σ⊕ρ))(s:σ):Option ρ:=(oT f 300 s).or (if h:∃r n,oT f n s=some r then some (Classical.choose h) else none)
structure Lf:Type 1 where
 b:{α β:Type}->Option α->(α->Option β)->Option β
 c:{α:Type}->Bool->Option α->Option α->Option α
 UY:{α:Type}->Bool->α->α->α
 cd:{α β:Type}->(α->Option β)->α⊕β->Option β
 t:Bool->Bool
 d:Bool->Bool->Bool
 g:{α:Type}->List α->Int->Option α
 cj:{α:Type}->List α->Int->Option Nat
 bS:{α:Type}->List α->Int->Int->Option (List α)
 dY:Int->Int->Option Nat
 f:Int->Option Unit
 wy:Int->Int->Option Nat
 Be:IntKind->Int->Int->Option Int
 oS:Int->Int->Option Int
 lr:IntKind->Int->Int->Option Int
 lu:IntKind->Int->Int->Option Int
 a:IntKind->Int->Int->Int
 u:IntKind->Int->Int->Int
 pW:IntKind->Int->Int->Int
 fR:IntKind->Int->Int
 mV:IntKind->Int->Int->Int
 Az:IntKind->Int->Int->Int
 pX:IntKind->Int->Int->Int
 ly:IntKind->Int->Int->Int
 l:Int->Int->Bool
 m:Int->Int->Bool
 e:Int->Int->Bool
 ga:Bool->Bool->Bool
 h:List Int->List Int->Bool
 q:List Int->List Int->List Int
 lA:Int->Int->Int
 lB:Int->Int->Int
 s:Int->Int->Int
 n:{α:Type}->List α->Int
 app:{α:Type}->List α->List α->List α
 rep:{α:Type}->Nat->α->List α
 nth:{α:Type}->List α->Nat->Option α
 kF:{α:Type}->List α->Nat->α->List α
 aP:{α:Type}->List α->Nat->List α
 eN:{α:Type}->List α->Int->List α
 gb:{α:Type}->List α->Int->α->List α
 uz:{α:Type}->List α->List α->List α
 i:{α:Type}->List α->Bool
 strLt:List Int->List Int->Bool
 o:{σ ρ:Type}->(σ->Option (σ⊕ρ))->σ->Option ρ
 ko:Nat->Nat->Option Nat
 GC:Nat->Nat->Bool
 cV:Int->Nat
 fh:List Int->Int->Int
 gP:List Int->Int->Int
noncomputable def lf:Lf where
 b:=@aw
 c:=@aL
 UY:=@UY
 cd:=@cd
 t:=ai
 d:=aH
 g:=@fL
 cj:=@cj
 bS:=@bS
 dY:=dY
 f:=fit
 wy:=wy
 Be:=Be
 oS:=oS
 lr:=lr
 lu:=lu
 a:=bc
 u:=dx
 pW:=pW
 fR:=fR
 mV:=mV
 Az:=Az
 pX:=pX
 ly:=ly
 l:=aZ
 m:=cD
 e:=ah
 ga:=ga
 h:=bW
 q:=fw
 lA:=lA
 lB:=lB
 s:=bL
 n:=@aa
 app:=@app
 rep:=@rep
 nth:=@nth
 kF:=@kF
 aP:=@aP
 eN:=@eN
 gb:=@gb
 uz:=@uz
 i:=@cB
 strLt:=strLt
 o:=@aI
 ko:=ko
 GC:=GC
 cV:=cV
 fh:=fh
 gP:=gP
inductive Ty where
 |int (k:IntKind)|bool|str|sl (e:Ty)|unit|pair (a b:Ty)|st (p:Ty)|arr (n:Nat) (e:Ty)
 |gz|fY
 deriving DecidableEq
abbrev den:Ty->Type
 |.int _=>Int
 |.bool=>Bool
 |.gz=>Nat
 |.fY=>Nat×Nat
 |.str=>List Int
 |.sl e=>Sl (den e)
 |.unit=>Unit
 |.pair a b=>den a×den b
 |.st p=>den p
 |.arr _ e=>List (den e)
def aB:Ty->Nat
 |.unit=>0
 |.pair a b=>aB a+aB b
 |.st p=>aB p
 |.arr n e=>n*aB e
 |_=>1
def zero:(t:Ty)->den t
 |.int _=>(0:Int)
 |.bool=>false
 |.gz=>(0:Nat)
 |.fY=>((0:Nat),(0:Nat))
 |.str=>([]:List Int)
 |.sl e=>(⟨true,[]⟩:Sl (den e))
 |.unit=>()
 |.pair a b=>(zero a,zero b)
 |.st p=>zero p
 |.arr n e=>List.replicate n (zero e)
inductive V:Type where
 |d (t:Ty) (x:den t)
 |cC (id ver:Nat)
 |pre (id ver:Nat) (n:Nat) (afP:Bool)
 |ptr (id off:Nat)
 |l9 (id ver:Nat) (i:Nat) (path:List Nat)
 |ref (t:Ty) (x:den t)
 |iM
 |fn (f:Nat) (caps:List V)
 |ie
 |mW (vs:List V)
 |agg (cs:List V)
 |iN
 |fS
 |lb (b:Bool)
 |undef
 |dZ
 |ib (id:Nat) (b:Bool)
 |j8 (id ver:Nat) (lo:Int)
 |it (id:Nat)
 |UZ (b:Bool) (p c:Int)
 |fa (a:List (Nat×Bool)) (k n:Int)
 |rr (t:Ty) (x:den t)
inductive Obj:Type where
 |box (cs:List V)
 |vec (t:Ty) (ver:Nat) (fr:Bool) (s:Sl (den t))
 |dead
 |none
 |iter (s:List Int) (p:Int)
structure St:Type where
 env:Nat->V
 obj:Nat->Obj
def eI:V->V
 |.lb b=>.d .bool b
 |v=>v
def dR(f:Nat->α)(i:Nat)(x:α):Nat->α:=fun j=>bif Nat.beq j i then x else f j
def aj(f:Nat->α):List (Nat×α)->Nat->α
 |[]=>f
 |(i,x)::r=>aj (dR f i x) r
def iO(t:Ty):(t':Ty)->den t'->Option (den t):=fun t' x=>
 match decEq t' t with
 |isTrue h=>some (h▸x)
 |isFalse _=>none
section
variable (L:Lf)
def ri(o:Nat->Obj)(t:Ty):V->Option (den t)
 |.d t' x=>iO t t' x
 |.cC id ver=>match o id with
  |.vec e aA _ s=>bif Nat.beq ver aA then iO t (.sl e) s else none
  |_=>none
 |.pre id ver n _=>match o id with
  |.vec e aA _ s=>bif Nat.beq ver aA then iO t (.sl e) (⟨s.nil,L.aP s.l n⟩:Sl (den e)) else none
  |_=>none
 |.fS=>match t with
  |.sl e=>some (⟨true,[]⟩:Sl (den e))
  |_=>none
 |.j8 id ver lo=>match o id with
  |.vec e aA _ s=>bif Nat.beq ver aA then iO t (.sl e) (⟨s.nil,L.eN s.l lo⟩:Sl (den e)) else none
  |_=>none
 |_=>none
def Bf:(t:Ty)->den t->List V
 |.unit,_=>[]
 |.pair a b,x=>Bf a x.1++Bf b x.2
 |.st p,x=>Bf p x
 |t,x=>[.d t x]
def pY(o:Nat->Obj):(t:Ty)->List V->Option (den t×List V)
 |.unit,cs=>some ((),cs)
 |.pair a b,cs=>match pY o a cs with
  |some (x,r)=>match pY o b r with
   |some (y,r')=>some ((x,y),r')
   |none=>none
  |none=>none
 |.st p,cs=>pY o p cs
 |.arr _ _,_=>none
 |t,c::r=>match ri L o t c with
  |some x=>some (x,r)
  |none=>none
 |_,[]=>none
def nO(o:Nat->Obj)(t:Ty)(v:V):Option (den t):=
 match v with
 |.agg cs=>match t with
  |.st p=>match pY L o p cs with
   |some (x,[])=>some x
   |_=>none
  |_=>none
 |v=>ri L o t v
end
def desc(P:Program)(t:TypeId):Option TypeDesc:=
 match P.types.toList[t]? with
 |some i=>match i.desc with
  |.named _ u=>match P.types.toList[u]? with
   |some j=>some j.desc
   |none=>none
  |d=>some d
 |none=>none
def size(P:Program)(t:TypeId):Nat:=match P.types.toList[t]? with|some i=>i.size|none=>0
def Po(P:Program)(t:TypeId)(f:Nat):Option Field:=
 match desc P t with
 |some (.struct fs)=>fs.toList[f]?
 |_=>none
def Pp:(p:Ty)->Nat->den p->Option ((t:Ty)×den t)
 |.pair a _,0,x=>some ⟨a,x.1⟩
 |.pair _ b,n+1,x=>Pp b n x.2
 |.unit,_,_=>none
 |t,0,x=>some ⟨t,x⟩
 |_,_+1,_=>none
def NR:(t:Ty)->Nat->den t->Option ((t:Ty)×den t)
 |.st p,n,x=>Pp p n x
 |_,_,_=>none
def U0:(path:List Nat)->(t:Ty)->den t->Option ((t:Ty)×den t)
 |[],t,x=>some ⟨t,x⟩
 |f::r,t,x=>match NR t f x with
  |some ⟨u,y⟩=>U0 r u y
  |none=>none
def cX:(p:Ty)->Nat->den p->((t:Ty)->den t->Option (den t))->Option (den p)
 |.pair a b,0,x,g=>match g a x.1 with|some y=>some ((y,x.2):den (.pair a b))|none=>none
 |.pair a b,n+1,x,g=>match cX b n x.2 g with|some y=>some ((x.1,y):den (.pair a b))|none=>none
 |.unit,_,_,_=>none
 |t,0,x,g=>g t x
 |_,_+1,_,_=>none
def YD:(t:Ty)->Nat->den t->((t:Ty)->den t->Option (den t))->Option (den t)
 |.st p,n,x,g=>cX p n x g
 |_,_,_,_=>none
def Ib:(path:List Nat)->(t:Ty)->den t->((t:Ty)->den t->Option (den t))->Option (den t)
 |[],t,x,g=>g t x
 |f::r,t,x,g=>YD t f x (fun u y=>Ib r u y g)
inductive Sh where
 |d (t:Ty)|cC (id:Nat)|ptr (id off:Nat)|ref (t:Ty)|iM|fn (f:Nat) (caps:List Sh)|ie
 |mW (l:List Sh)|agg (l:List Sh)|iN|dZ|ib (id:Nat)|j8 (id:Nat)|it (id:Nat)|fa (a:List (Nat×Bool))|rr (t:Ty)
inductive fG where
 |box (cs:List Sh)|vec (t:Ty)|gone|iter
structure Shape where
 roots:List Sh
 ar:List fG
mutual
def NS:Sh->List Ty->List Ty
 |.d t,r=>t::r
 |.ref t,r=>t::r
 |.rr t,r=>t::r
 |.fn _ l,r=>kW l r
 |.mW l,r=>kW l r
 |.agg l,r=>kW l r
 |.ib _,r=>.bool::r
 |.j8 _,r=>.int .i64::r
 |.fa _,r=>.int .i64::.int .i64::r
 |_,r=>r
def kW:List Sh->List Ty->List Ty
 |[],r=>r
 |s::l,r=>NS s (kW l r)
end
def NT:fG->List Ty->List Ty
 |.box cs,r=>kW cs r
 |.vec t,r=>.sl t::r
 |.gone,r=>r
 |.iter,r=>.str::.int .i64::r
def eC:List fG->List Ty->List Ty
 |[],r=>r
 |s::l,r=>NT s (eC l r)
def Shape.bQ(s:Shape):List Ty:=kW s.roots (eC s.ar [])
abbrev ak:List Ty->Type
 |[]=>Unit
 |t::ts=>den t×ak ts
mutual
def nP(ρ κ:Nat->Nat):(s:Sh)->(r:List Ty)->ak (NS s r)->V×ak r
 |.d t,_,c=>(.d t c.1,c.2)
 |.ref t,_,c=>(.ref t c.1,c.2)
 |.rr t,_,c=>(.rr t c.1,c.2)
 |.fn f l,r,c=>let p:=gN ρ κ l r c;(.fn f p.1,p.2)
 |.mW l,r,c=>let p:=gN ρ κ l r c;(.mW p.1,p.2)
 |.agg l,r,c=>let p:=gN ρ κ l r c;(.agg p.1,p.2)
 |.cC id,_,c=>(.cC (ρ id) (κ id),c)
 |.ptr id off,_,c=>(.ptr (ρ id) off,c)
 |.iM,_,c=>(.iM,c)
 |.ie,_,c=>(.ie,c)
 |.iN,_,c=>(.iN,c)
 |.dZ,_,c=>(.dZ,c)
 |.ib id,_,c=>(.ib (ρ id) c.1,c.2)
 |.j8 id,_,c=>(.j8 (ρ id) (κ id) c.1,c.2)
 |.it id,_,c=>(.it (ρ id),c)
 |.fa a,_,c=>(.fa a c.1 c.2.1,c.2.2)
def gN(ρ κ:Nat->Nat):(l:List Sh)->(r:List Ty)->ak (kW l r)->List V×ak r
 |[],_,c=>([],c)
 |s::l,r,c=>let p:=nP ρ κ s (kW l r) c;let q:=gN ρ κ l r p.2;(p.1::q.1,q.2)
end
def nE(ρ κ:Nat->Nat)(i:Nat):(s:fG)->(r:List Ty)->ak (NT s r)->Obj×ak r
 |.box cs,r,c=>let p:=gN ρ κ cs r c;(.box p.1,p.2)
 |.vec t,_,c=>(.vec t (κ i) false c.1,c.2)
 |.gone,_,c=>(.dead,c)
 |.iter,_,c=>(.iter c.1 c.2.1,c.2.2)
def mX(ρ κ:Nat->Nat):Nat->(l:List fG)->(r:List Ty)->ak (eC l r)->List (Nat×Obj)
 |_,[],_,_=>[]
 |i,s::l,r,c=>let p:=nE ρ κ i s (eC l r) c;(ρ i,p.1)::mX ρ κ (i+1) l r p.2
def fill(ρ κ:Nat->Nat)(s:Shape)(c:ak s.bQ):List V×List (Nat×Obj):=
 let p:=gN ρ κ s.roots (eC s.ar []) c
 (p.1,mX ρ κ 0 s.ar [] p.2)
abbrev Ren:=List Nat
def idx(cO:Nat):Ren->Nat->Option Nat
 |[],_=>none
 |x::r,i=>bif Nat.beq x cO then some i else idx cO r (i+1)
def NU(cO:Nat)(aR:Ren):Nat×Ren:=match idx cO aR 0 with
 |some i=>(i,aR)
 |none=>(aR.length,aR++[cO])
mutual
def shV(o:Nat->Obj):V->Ren->Sh×Ren
 |.d t _,aR=>(.d t,aR)
 |.ref t _,aR=>(.ref t,aR)
 |.rr t _,aR=>(.rr t,aR)
 |.cC id ver,aR=>match o id with
  |.vec t aA fr _=>bif Nat.beq ver aA then(bif fr then(.d (.sl t),aR) else let p:=NU id aR;(.cC p.1,p.2)) else(.dZ,aR)
  |_=>(.dZ,aR)
 |.pre id ver _ _,aR=>match o id with
  |.vec t aA fr _=>bif Nat.beq ver aA then(bif fr then(.d (.sl t),aR) else let p:=NU id aR;(.cC p.1,p.2)) else(.dZ,aR)
  |_=>(.dZ,aR)
 |.ptr id off,aR=>match o id with
  |.none=>(.dZ,aR)
  |.dead=>(.dZ,aR)
  |_=>let p:=NU id aR;(.ptr p.1 off,p.2)
 |.iM,aR=>(.iM,aR)
 |.fn f l,aR=>let p:=Ic o l aR;(.fn f p.1,p.2)
 |.ie,aR=>(.ie,aR)
 |.mW l,aR=>let p:=Ic o l aR;(.mW p.1,p.2)
 |.agg l,aR=>let p:=Ic o l aR;(.agg p.1,p.2)
 |.it id,aR=>let p:=NU id aR;(.it p.1,p.2)
 |.fa a _ _,aR=>(.fa a,aR)
 |.iN,aR=>(.iN,aR)
 |.ib id _,aR=>match o id with
  |.box _=>let p:=NU id aR;(.ib p.1,p.2)
  |_=>(.dZ,aR)
 |.j8 id ver _,aR=>match o id with
  |.vec t aA fr _=>bif Nat.beq ver aA then(bif fr then(.d (.sl t),aR) else let p:=NU id aR;(.j8 p.1,p.2)) else(.dZ,aR)
  |_=>(.dZ,aR)
 |_,aR=>(.dZ,aR)
def Ic(o:Nat->Obj):List V->Ren->List Sh×Ren
 |[],aR=>([],aR)
 |v::l,aR=>let p:=shV o v aR;let q:=Ic o l p.2;(p.1::q.1,q.2)
end
def shO(o:Nat->Obj)(b:Obj)(aR:Ren):fG×Ren:=match b with
 |.box cs=>let p:=Ic o cs aR;(.box p.1,p.2)
 |.vec t _ _ _=>(.vec t,aR)
 |.none=>(.gone,aR)
 |.dead=>(.gone,aR)
 |.iter _ _=>(.iter,aR)
def Pq(o:Nat->Obj):Nat->Nat->Ren->List fG
 |0,_,_=>[]
 |n+1,i,aR=>match aR[i]? with
  |some cO=>let p:=shO o (o cO) aR;p.1::Pq o n (i+1) p.2
  |none=>[]
def zik(sk:List Nat)(o:Nat->Obj)(vs:List V):Shape:=
 let p:=Ic o vs sk
 ⟨p.1,Pq o 100 0 p.2⟩
structure PS where
 aR:List (Nat×Nat)
 cut:List (Nat×Nat)
 bY:List Nat
 full:List Nat
def iP(i:Nat):List (Nat×Nat)->Option Nat
 |[]=>none
 |(a,b)::r=>bif Nat.beq a i then some b else iP i r
def Bi(j:Nat):List (Nat×Nat)->Bool
 |[]=>false
 |(_,b)::r=>bif Nat.beq b j then true else Bi j r
def bF(j:Nat):List Nat->Bool
 |[]=>false
 |b::r=>bif Nat.beq b j then true else bF j r
def U1(j:Nat):List (Nat×Nat)->Option Nat
 |[]=>none
 |(a,b)::r=>bif Nat.beq b j then some a else U1 j r
def YE(n:Nat):Option Nat->Bool
 |some m=>Nat.beq m n
 |none=>false
def Pr:Option Nat->Bool
 |some _=>false
 |none=>true
def tie(i cO:Nat)(s:PS):PS:={s with aR:=(i,cO)::s.aR}
def U2(k:Nat)(all:List (Nat×Nat)):List (Nat×Nat)->Bool
 |[]=>true
 |(i,cO)::r=>Nat.blt i k&&YE cO (iP i all)&&YE i (U1 cO all)&&U2 k all r
def U3:List (Nat×Nat)->Bool
 |[]=>true
 |(id,_)::r=>Pr (iP id r)&&U3 r
def U4(cut:List (Nat×Nat)):List Nat->Bool
 |[]=>true
 |id::r=>Pr (iP id cut)&&U4 cut r
def U5:List Nat->List (Nat×Nat)->Bool
 |[],_=>true
 |j::l,aR=>bif Bi j aR then false else U5 l aR
def Ie(k:Nat)(ps:PS):Bool:=U2 k ps.aR ps.aR&&U3 ps.cut&&U4 ps.cut ps.full&&U5 ps.bY ps.aR
def U6(o:Nat->Obj)(id:Nat):Bool:=match o id with
 |.box _=>true
 |.vec _ ver false _=>Nat.beq ver 0
 |_=>false
def Bj(o:Nat->Obj):List Nat->Bool
 |[]=>true
 |id::r=>U6 o id&&Bj o r
def Ps(cut:List (Nat×Nat)):List Nat->Bool
 |[]=>true
 |id::r=>Pr (iP id cut)&&Ps cut r
def uT:Nat->List Nat->List (Nat×Nat)
 |_,[]=>[]
 |i,id::r=>(i,id)::uT (i+1) r
def dM(sk:List Nat)(i:Nat):Nat:=match sk[i]? with
 |some j=>j
 |none=>1000000+i
def YF:List Nat->List (Nat×Nat)
 |[]=>[]
 |id::r=>(id,id)::YF r
def NV(k:Nat):List Nat->Bool
 |[]=>true
 |id::r=>Nat.blt id k&&Nat.blt id 1000000&&!(bF id r)&&NV k r
mutual
def ig(o:Nat->Obj):V->List Nat
 |.cC id _=>match o id with|.vec _ _ true _=>[]|_=>[id]
 |.pre id _ _ _=>match o id with|.vec _ _ true _=>[]|_=>[id]
 |.j8 id _ _=>match o id with|.vec _ _ true _=>[]|_=>[id]
 |.agg l=>AA o l
 |_=>[]
def AA(o:Nat->Obj):List V->List Nat
 |[]=>[]
 |v::l=>ig o v++AA o l
end
def NW(o:Nat->Obj)(id:Nat):List Nat:=match o id with
 |.box cs=>AA o cs
 |_=>[]
section
variable (L:Lf)
def uU(o:Nat->Obj)(t:Ty)(id:Nat):Option (den t):=match o id with
 |.box cs=>match pY L o t cs with
  |some (x,[])=>some x
  |_=>none
 |_=>none
abbrev Take:=Option (PS×(∀r,ak r->ak r))
def Dk(b:Bool)(ps:PS):Take:=match b with
 |true=>some (ps,fun _ c=>c)
 |false=>none
def zmi:V->Bool
 |.iM=>true
 |_=>false
def zmj:V->Bool
 |.ie=>true
 |_=>false
def zmk:V->Bool
 |.iN=>true
 |_=>false
def YG(o:Nat->Obj)(t:Ty)(v:V)(ps:PS):Option (PS×(∀r,ak r->den t×ak r)):=match nO L o t v with
 |some x=>some ({ps with bY:=ig o v++ps.bY},fun _ c=>(x,c))
 |none=>none
def Pu(o:Nat->Obj)(t:Ty)(v:V)(ps:PS):Option (PS×(∀r,ak r->den t×ak r)):=match v with
 |.ref t' x=>match iO t t' x with
  |some x=>some (ps,fun _ c=>(x,c))
  |none=>none
 |.ptr id off=>bif Nat.beq off 0 then(match uU L o t id with
  |some x=>some ({ps with bY:=id::(NW o id++ps.bY)},fun _ c=>(x,c))
  |none=>none) else none
 |_=>none
def YH(o:Nat->Obj)(t:Ty)(id:Nat):Option (Nat×den t):=match o id with
 |.box [.ptr mY Ig]=>bif Nat.beq Ig 0 then(match uU L o t mY with
  |some x=>some (mY,x)
  |none=>none) else none
 |_=>none
def Ih(o:Nat->Obj)(t:Ty)(v:V)(ps:PS):Option (PS×(∀r,ak r->den t×ak r)):=match v with
 |.rr t' x=>match iO t t' x with
  |some x=>some (ps,fun _ c=>(x,c))
  |none=>none
 |.ptr id off=>bif Nat.beq off 0 then(match YH L o t id with
  |some (mY,x)=>some ({ps with bY:=id::mY::(NW o mY++ps.bY)},fun _ c=>(x,c))
  |none=>none) else none
 |_=>none
def Pv(o:Nat->Obj)(i:Nat)(v:V)(ps:PS):Take:=match v with
 |.cC id ver=>match o id with
  |.vec _ aA false _=>Dk (Nat.beq ver aA) {tie i id ps with full:=id::ps.full}
  |_=>none
 |.pre id ver n _=>match o id with
  |.vec _ aA false _=>Dk (Nat.beq ver aA) {tie i id ps with cut:=(id,n)::ps.cut}
  |_=>none
 |_=>none
def Pw(o:Nat->Obj)(i off:Nat)(v:V)(ps:PS):Take:=match v with
 |.ptr id Ii=>match o id with
  |.box _=>Dk (Nat.beq off Ii) (tie i id ps)
  |.vec _ aA false _=>Dk (Nat.beq off Ii&&Nat.beq 0 aA) (tie i id ps)
  |_=>none
 |_=>none
def Bk(o:Nat->Obj)(i:Nat)(v:V)(ps:PS):Take:=match v with
 |.it id=>match o id with
  |.iter _ _=>some (tie i id ps,fun _ c=>c)
  |_=>none
 |_=>none
def z50(o:Nat->Obj)(i:Nat)(v:V)(ps:PS):Option (PS×(∀r,ak r->den .bool×ak r)):=match v with
 |.ib id b=>match o id with
  |.box _=>some (tie i id ps,fun _ c=>(b,c))
  |_=>none
 |_=>none
def U7(o:Nat->Obj)(i:Nat)(v:V)(ps:PS):Option (PS×(∀r,ak r->den (.int .i64)×ak r)):=match v with
 |.j8 id ver lo=>match o id with
  |.vec _ aA false _=>bif Nat.beq ver aA then some ({tie i id ps with full:=id::ps.full},fun _ c=>((lo:den (.int .i64)),c)) else none
  |_=>none
 |_=>none
def Ij(f:Nat)(c:Bool):List (Nat×Bool)->Nat->Option Nat
 |[],_=>none
 |(g,d)::r,i=>bif Nat.beq g f&&(bif c then d else !d) then some i else Ij f c r (i+1)
def Px:List (Nat×Bool)->List (Nat×Bool)->Bool
 |[],[]=>true
 |(f,c)::a,(g,d)::b=>Nat.beq f g&&(bif c then d else !d)&&Px a b
 |_,_=>false
def pZ:List α->Nat->Nat
 |[],i=>i
 |_::r,i=>pZ r (i+1)
def Eg(o:Nat->Obj)(a:List (Nat×Bool))(v:V)(ps:PS):Option (PS×(∀r,ak r->den (.int .i64)×den (.int .i64)×ak r)):=match v with
 |.fa b k n=>bif Px b a then some (ps,fun _ c=>(k,n,c)) else none
 |.ie=>some (ps,fun _ c=>(Int.ofNat (pZ a 0),(0:Int),c))
 |.fn f []=>match(bif Nat.blt f 1048576 then Ij f false a 0 else none) with
  |some i=>some (ps,fun _ c=>(Int.ofNat i,(0:Int),c))
  |none=>none
 |.fn f [w]=>match(bif Nat.blt f 1048576 then Ij f true a 0 else none) with
  |some i=>match Pu L o (.int .i64) w ps with
   |some (bM,g)=>some (bM,fun r c=>(Int.ofNat i,g r c))
   |none=>none
  |none=>none
 |_=>none
def Eh(f:Nat):V->Option (List V)
 |.fn f' l=>bif Nat.beq f f' then some l else none
 |_=>none
def U8:V->Option (List V)
 |.mW l=>some l
 |_=>none
def Ei:V->Option (List V)
 |.agg l=>some l
 |_=>none
mutual
def GF(o:Nat->Obj):(s:Sh)->V->PS->Option (PS×(∀r,ak r->ak (NS s r)))
 |.d t,v,ps=>YG L o t v ps
 |.ref t,v,ps=>Pu L o t v ps
 |.rr t,v,ps=>Ih L o t v ps
 |.cC i,v,ps=>Pv o i v ps
 |.ptr i off,v,ps=>Pw o i off v ps
 |.iM,v,ps=>Dk (zmi v) ps
 |.fn f l,v,ps=>match Eh f v with
  |some l'=>oF o l l' ps
  |none=>none
 |.ie,v,ps=>Dk (zmj v) ps
 |.mW l,v,ps=>match U8 v with
  |some l'=>oF o l l' ps
  |none=>none
 |.agg l,v,ps=>match Ei v with
  |some l'=>oF o l l' ps
  |none=>none
 |.iN,v,ps=>Dk (zmk v) ps
 |.dZ,_,ps=>Dk true ps
 |.ib i,v,ps=>z50 o i v ps
 |.j8 i,v,ps=>U7 o i v ps
 |.it i,v,ps=>Bk o i v ps
 |.fa a,v,ps=>Eg L o a v ps
def oF(o:Nat->Obj):(l:List Sh)->List V->PS->Option (PS×(∀r,ak r->ak (kW l r)))
 |[],vs,ps=>Dk vs.isEmpty ps
 |s::l,vs,ps=>match vs with
  |v::vs=>match GF o s v ps with
   |some (ps,f)=>match oF o l vs ps with
    |some (ps,g)=>some (ps,fun r c=>f _ (g r c))
    |none=>none
   |none=>none
  |[]=>none
end
def GG(o:Nat->Obj)(cO:Nat):(s:fG)->PS->Option (PS×(∀r,ak r->ak (NT s r)))
 |.box l,ps=>match o cO with
  |.box cs=>oF L o l cs ps
  |_=>none
 |.vec t,ps=>match o cO with
  |.vec t' _ false s=>match iO (.sl t) (.sl t') s with
   |some s=>match iP cO ps.cut with
    |some n=>some (ps,fun _ c=>((⟨s.nil,L.aP s.l n⟩:Sl (den t)),c))
    |none=>some ({ps with full:=cO::ps.full},fun _ c=>(s,c))
   |none=>none
  |_=>none
 |.gone,ps=>some (ps,fun _ c=>c)
 |.iter,ps=>match o cO with
  |.iter s p=>some (ps,fun _ c=>((s:den .str),(p:den (.int .i64)),c))
  |_=>none
def rK(o:Nat->Obj):Nat->(l:List fG)->PS->Option (PS×(∀r,ak r->ak (eC l r)))
 |_,[],ps=>some (ps,fun _ c=>c)
 |i,.gone::l,ps=>match rK o (i+1) l ps with
   |some (ps,g)=>some (ps,fun r c=>g r c)
   |none=>none
 |i,s::l,ps=>match iP i ps.aR with
  |some cO=>match GG L o cO s ps with
   |some (ps,f)=>match rK o (i+1) l ps with
    |some (ps,g)=>some (ps,fun r c=>f _ (g r c))
    |none=>none
   |none=>none
  |none=>none
def pack(o:Nat->Obj)(aR:List (Nat×Nat))(s:Shape)(vs:List V):Option (PS×ak s.bQ):=
 match oF L o s.roots vs ⟨aR,[],[],[]⟩ with
 |some (ps,f)=>match rK L o 0 s.ar ps with
  |some (ps,g)=>bif Ie s.ar.length ps then some (ps,f _ (g [] ())) else none
  |none=>none
 |none=>none
def Ik(sk:List Nat)(aR:List (Nat×Nat))(o:Nat->Obj)(s:Shape)(vs:List V):Option (PS×ak s.bQ):=
 match pack L o aR s vs with
 |some p=>bif Bj o sk&&Ps p.1.cut sk then some p else none
 |none=>none
end
inductive Pk:Type 1 where
 |fail
 |nQ (v:V) (u:List (Nat×Obj))
 |dyn (α:Type) (x:Option α) (out:α->V×List (Nat×Obj))
def Pk.now(v:V)(u:List (Nat×Obj):=[]):Pk:=.nQ v u
def Pk.mc{t:Ty}(x:Option (den t)):Pk:=.dyn (den t) x (fun y=>(.d t y,[]))
def Pk.when(b:Bool)(p:Pk):Pk:=match b with|true=>p|false=>.fail
section
variable (L:Lf)
def wA:(t:Ty)->den t->den t->Bool
 |.int _,a,b=>L.e a b
 |.bool,a,b=>L.ga a b
 |.str,a,b=>L.h a b
 |.unit,_,_=>true
 |.pair s t,a,b=>L.d (wA s a.1 b.1) (wA t a.2 b.2)
 |.st p,a,b=>wA p a b
 |_,_,_=>false
end
structure nG where
 f:Nat
 ins:Shape
 outs:Shape
 bD:List Nat
structure Cx where
 P:Program
 sigs:List nG
 me:Nat->Option ((t:Ty)×den t)
 fD:List (Nat×Ty)
 eqs:List Nat
 nR:Nat
 U9:Nat
def Ej:List (Nat×Ty)->Nat->Option Ty
 |[],_=>none
 |(a,T)::r,t=>bif Nat.beq a t then some T else Ej r t
def Cx.ty(C:Cx)(t:TypeId):Option Ty:=Ej C.fD t
def uV:IntKind->Nat
 |.i8=>0|.i16=>1|.i32=>2|.i64=>3|.u8=>4|.u16=>5|.u32=>6|.u64=>7
def rM:Ty->Ty->Bool
 |.int k,.int k'=>Nat.beq (uV k) (uV k')
 |.bool,.bool=>true
 |.gz,.gz=>true
 |.fY,.fY=>true
 |.str,.str=>true
 |.sl a,.sl b=>rM a b
 |.unit,.unit=>true
 |.pair a b,.pair c d=>rM a c&&rM b d
 |.st a,.st b=>rM a b
 |.arr n a,.arr m b=>Nat.beq n m&&rM a b
 |_,_=>false
def kp(T:Ty):Option Ty->Bool
 |some T'=>rM T' T
 |none=>false
def Cx.is(C:Cx)(t:TypeId)(T:Ty):Bool:=kp T (C.ty t)
def xC(P:Program)(t:TypeId):Option (Bool×Nat):=match P.types.toList[t]? with
 |none=>none
 |some i=>match desc P t with
  |some (.struct _)=>some (true,i.size)
  |some (.array ..)=>some (true,i.size)
  |some _=>some (false,i.size)
  |none=>none
def nS:Ty->Bool
 |.int _=>true|.bool=>true|.str=>true|.sl _=>true|.gz=>true|.fY=>true|_=>false
def NX(o:Nat->Obj):V->Bool
 |.d t _=>nS t
 |.cC id ver=>match o id with|.vec _ aA _ _=>Nat.beq ver aA|_=>false
 |.pre id ver _ _=>match o id with|.vec _ aA _ _=>Nat.beq ver aA|_=>false
 |.ptr id _=>match o id with|.box _=>true|.vec _ aA _ _=>Nat.beq 0 aA|_=>false
 |.l9 id ver _ _=>match o id with|.vec _ aA _ _=>Nat.beq ver aA|_=>false
 |.ref _ _=>true
 |.iM=>true
 |.fn _ _=>true
 |.ie=>true
 |.it id=>match o id with|.iter .. =>true|_=>false
 |.iN=>true
 |.fS=>true
 |.ib id _=>match o id with|.box _=>true|_=>false
 |.j8 id ver _=>match o id with|.vec _ aA _ _=>Nat.beq ver aA|_=>false
 |.fa .. =>true
 |_=>false
def rj:List V->Bool
 |.ib _ _::_=>true
 |_=>false
def Va:Ty->Bool
 |.int .u8=>false
 |_=>true
def xD(o:Nat->Obj):List V->Bool
 |[]=>true
 |v::r=>NX o v&&xD o r
def Py(o:Nat->Obj):V->Option (List V)
 |.d (.st p) x=>bif xD o (Bf p x) then some (Bf p x) else none
 |.agg cs=>bif xD o cs then some cs else none
 |v=>bif NX o v then some [v] else none
def p8:Ty->Nat->Option Ty
 |.pair a _,0=>some a
 |.pair _ b,n+1=>p8 b n
 |.unit,_=>none
 |t,0=>some t
 |_,_+1=>none
def Dl:List Nat->Ty->Option Ty
 |[],t=>some t
 |f::r,.st p=>match p8 p f with
  |some u=>Dl r u
  |none=>none
 |_::_,_=>none
def bI:List nG->Nat->nG
 |[],_=>⟨0,⟨[],[]⟩,⟨[],[]⟩,[]⟩
 |s::_,0=>s
 |_::r,n+1=>bI r n
abbrev kX(sg:List nG):=(i:Nat)->ak (bI sg i).ins.bQ->Option (ak (bI sg i).outs.bQ)
section
variable (L:Lf) (C:Cx)
def Ek(k:IntKind)(n:Int):Bool:=decide (k.min<=n)&&decide (n<=k.max)
def dJ:Value->V
 |.bool b=>.d .bool b
 |.float .f64 b=>.d .gz b
 |.complex .f64 a b=>.d .fY (a,b)
 |.int k n=>bif Ek k n then .d (.int k) n else .dZ
 |.string s=>bif Nat.ble s.size 1000000 then .d .str (s.data.toList.map fun b=>(b.toNat:Int)) else .dZ
 |.pointer none=>.iM
 |.nilFunc=>.ie
 |.nilIface=>.iN
 |.slice none 0 0=>.fS
 |_=>.dZ
def cE(env:Nat->V):Operand->V
 |.tmp t=>eI (env t)
 |.const v=>dJ v
 |.global g=>match C.me g with
  |some ⟨t,x⟩=>.ref t x
  |none=>.dZ
 |.func f=>bif Nat.blt f 1048576 then .fn f [] else .dZ
def El(env:Nat->V):Operand->V
 |.tmp t=>env t
 |x=>cE C env x
def eY(o:Nat->Obj):List Nat->List (Nat×Obj)
 |[]=>[]
 |id::r=>match o id with
  |.vec t ver _ s=>(id,.vec t ver true s)::eY o r
  |_=>eY o r
def Dm(id:Nat):List Nat->Bool
 |[]=>true
 |b::r=>bif Nat.beq b id then false else Dm id r
def Em(o:Nat->Obj):V->Option ((t:Ty)×Sl (den t))
 |.cC id ver=>match o id with
  |.vec t aA _ s=>bif Nat.beq ver aA then some ⟨t,s⟩ else none
  |_=>none
 |.pre id ver n _=>match o id with
  |.vec t aA _ s=>bif Nat.beq ver aA then some ⟨t,⟨s.nil,L.aP s.l n⟩⟩ else none
  |_=>none
 |.j8 id ver lo=>match o id with
  |.vec t aA _ s=>bif Nat.beq ver aA then some ⟨t,⟨s.nil,L.eN s.l lo⟩⟩ else none
  |_=>none
 |_=>none
def asInt:V->Option ((_:IntKind)×Int)
 |.d (.int k) n=>some ⟨k,n⟩
 |_=>none
def rk(t:TypeId):Option Ty:=match desc C.P t with
 |some (.slice e)=>C.ty e
 |_=>none
def z51(t:TypeId):Option (Nat×Ty):=match desc C.P t with
 |some (.array n e)=>match C.ty e with
  |some e=>some (n,e)
  |none=>none
 |_=>none
def Vb:List V->Bool
 |[]=>false
 |.fS::_=>true
 |_::r=>Vb r
def Vc(o:Nat->Obj)(t:TypeId)(cs:List V):V:=
 match C.ty t with
 |some (.st p)=>match AA o cs,Vb cs with
  |[],false=>match pY L o p cs with
   |some (x,[])=>.d (.st p) x
   |_=>.agg cs
  |_,_=>.agg cs
 |_=>.agg cs
def NY(l:List V)(i:Nat)(cs:List V):List V:=l.take i++cs++l.drop (i+cs.length)
def Vd(o:Nat->Obj)(t:TypeId):V->Pk
 |.ref t' x=>.when (C.is t t') (.now (.d t' x))
 |.rr t' x=>match xC C.P t with
  |some (false,_)=>.now (.ref t' x)
  |_=>.fail
 |.ptr id off=>match o id with
  |.box cs=>match xC C.P t with
   |some (true,n)=>.when (Nat.ble (off+n) cs.length) (.now (Vc L C o t ((cs.drop off).take n)))
   |some (false,_)=>match cs[off]? with
    |some v=>.now v
    |none=>.fail
   |none=>.fail
  |_=>.fail
 |.l9 id ver i path=>match o id with
  |.vec e aA _ s=>match Dl path e with
   |some t'=>.when (Nat.beq ver aA&&C.is t t') (.dyn (den e) (L.nth s.l i) (fun x=>match U0 path e x with
     |some ⟨t,y⟩=>(.d t y,[])
     |none=>(.dZ,[])))
   |none=>.fail
  |_=>.fail
 |_=>.fail
def YI(o:Nat->Obj)(t:TypeId)(a v:V):Pk:=
 match a with
 |.ptr id off=>match o id with
  |.box cs=>match Py o v with
   |some vs=>match xC C.P t with
    |some (_,n)=>.when (Nat.beq vs.length n&&Nat.ble (off+n) cs.length&&!rj vs) (.now .undef [(id,.box (NY cs off vs))])
    |none=>.fail
   |none=>.fail
  |_=>.fail
 |.l9 id ver i path=>match o id with
  |.vec e aA false s=>match Dl path e with
   |some t'=>.when (Nat.beq ver aA&&C.is t t'&&Dm id (ig o v))
    (.dyn (den e) (L.b (L.nth s.l i) fun x=>Ib path e x (fun u _=>nO L o u v)) (fun y=>(.undef,eY o (ig o v)++[(id,.vec e aA false ⟨s.nil,L.kF s.l i y⟩)])))
   |none=>.fail
  |_=>.fail
 |_=>.fail
def YJ(op:BinOp)(k:IntKind)(a b:Int):Pk:=
 match op with
 |.add=>.now (.d (.int k) (L.a k a b))
 |.sub=>.now (.d (.int k) (L.u k a b))
 |.mul=>.now (.d (.int k) (L.pW k a b))
 |.quo=>.mc (t:=.int k) (L.Be k a b)
 |.rem=>.mc (t:=.int k) (L.oS a b)
 |.and=>.now (.d (.int k) (L.mV k a b))
 |.or=>.now (.d (.int k) (L.Az k a b))
 |.xor=>.now (.d (.int k) (L.pX k a b))
 |.andNot=>.now (.d (.int k) (L.ly k a b))
 |.eql=>.now (.d .bool (L.e a b))
 |.neq=>.now (.d .bool (L.t (L.e a b)))
 |.lss=>.now (.d .bool (L.l a b))
 |.leq=>.now (.d .bool (L.m a b))
 |.gtr=>.now (.d .bool (L.l b a))
 |.geq=>.now (.d .bool (L.m b a))
 |_=>.fail
def YK(op:BinOp)(a b:List Int):Pk:=
 match op with
 |.add=>.dyn Unit (L.f (L.s (L.n a) (L.n b))) (fun _=>(.d .str (L.q a b),[]))
 |.eql=>.now (.d .bool (L.h a b))
 |.neq=>.now (.d .bool (L.t (L.h a b)))
 |.lss=>.now (.d .bool (L.strLt a b))
 |.gtr=>.now (.d .bool (L.t (L.t (L.d (L.t (L.strLt a b)) (L.t (L.h a b))))))
 |.leq=>.now (.d .bool (L.t (L.d (L.t (L.strLt a b)) (L.t (L.h a b)))))
 |.geq=>.now (.d .bool (L.t (L.strLt a b)))
 |_=>.fail
def YL(op:BinOp)(a b:Nat):Pk:=
 match op with
 |.add=>.mc (t:=.gz) (L.ko a b)
 |.leq=>.now (.d .bool (L.GC a b))
 |_=>.fail
def YM(op:BinOp)(a b:Nat×Nat):Pk:=
 match op with
 |.add=>.mc (t:=.fY) (L.b (L.ko a.1 b.1) fun x=>L.b (L.ko a.2 b.2) fun y=>some (x,y))
 |_=>.fail
def kG(op:BinOp)(b:Bool):Pk:=
 match op with
 |.eql=>.now (.d .bool b)
 |.neq=>.now (.d .bool (L.t b))
 |_=>.fail
def xE(t:TypeId):Nat:=match desc C.P t with
 |some .bool=>0
 |some (.slice _)=>1
 |some (.func ..)=>2
 |some (.pointer _)=>3
 |_=>5
def sure(o:Nat->Obj):V->Bool
 |.ptr id _=>match o id with|.box _=>true|.vec _ aA _ _=>Nat.beq 0 aA|_=>false
 |.ref _ _=>true
 |_=>false
def NZ(o:Nat->Obj)(op:BinOp)(t:TypeId)(x y:V):Pk:=
 match x,y with
 |.d (.int k) a,.d (.int k') b=>match op with
  |.shl=>.mc (t:=.int k) (L.lr k a b)
  |.shr=>.mc (t:=.int k) (L.lu k a b)
  |op=>match decEq k k' with
   |isTrue _=>YJ L op k a b
   |isFalse _=>.fail
 |.d .str a,.d .str b=>YK L op a b
 |.d .gz a,.d .gz b=>YL L op a b
 |.d .fY a,.d .fY b=>YM L op a b
 |.d .bool a,.d .bool b=>.when (Nat.beq (xE C t) 0) (kG L op (L.ga a b))
 |.d (.st p) a,.d (.st p') b=>match iO p p' b with
  |some b=>.when (bF t C.eqs&&C.is t (.st p)) (kG L op (wA L p a b))
  |none=>.fail
 |.d (.sl _) s,.fS=>.when (Nat.beq (xE C t) 1) (kG L op (Sl.nil s))
 |.fS,.fS=>.when (Nat.beq (xE C t) 1) (kG L op true)
 |.fn _ _,.ie=>.when (Nat.beq (xE C t) 2) (kG L op false)
 |.ie,.ie=>.when (Nat.beq (xE C t) 2) (kG L op true)
 |.fa a k _,.ie=>.when (Nat.beq (xE C t) 2) (kG L op (L.e k (Int.ofNat (pZ a 0))))
 |.iM,.iM=>.when (Nat.beq (xE C t) 3) (kG L op true)
 |v,.iM=>.when (Nat.beq (xE C t) 3&&sure o v) (kG L op false)
 |v,.fS=>match Em L o v with
  |some ⟨_,s⟩=>.when (Nat.beq (xE C t) 1) (kG L op s.nil)
  |none=>.fail
 |_,_=>.fail
def zip(o:Nat->Obj)(t:TypeId)(x:V):Pk:=
 match desc C.P t with
 |some .string=>match x with
  |.d .str l=>.now (.d (.int .i64) (L.n (α:=Int) l))
  |_=>.fail
 |some (.slice _)=>match x with
  |.d (.sl _) s=>.now (.d (.int .i64) (L.n s.l))
  |.fS=>.now (.d (.int .i64) (0:Int))
  |v=>match Em L o v with
   |some ⟨_,s⟩=>.now (.d (.int .i64) (L.n s.l))
   |none=>.fail
 |some (.array n _)=>.when (Nat.ble n 1000000) (.now (.d (.int .i64) ((n:Nat):Int)))
 |_=>.fail
def Ve(o:Nat->Obj)(e:Ty):V->Option (List (den e))
 |.d .str l=>iO (.arr 0 e) (.arr 0 (.int .u8)) l
 |v=>match ri L o (.sl e) v with
  |some s=>some s.l
  |none=>none
def PA(id ver:Nat)(e:Ty)(nil:Bool)(l m:List (den e)):Pk:=.dyn Unit (L.f (L.s (L.n l) (L.n m))) (fun _=>(.cC id ver,[(id,.vec e ver false ⟨L.d nil (L.i m),L.app l m⟩)]))
def z53(t:TypeId):Bool:=match desc C.P t with|some (.slice _)=>true|some .string=>true|_=>false
def YN(o:Nat->Obj)(fresh:Nat)(t u:TypeId)(x y:V):Pk:=
 match rk C t with
 |none=>.fail
 |some e=>match Ve L o e y with
  |none=>.fail
  |some m=>.when (z53 C u&&Nat.blt 0 (aB e)) (match x with
   |.fS=>PA L fresh 0 e true [] m
   |.cC id ver=>match o id with
    |.vec e' aA false s=>match iO (.sl e) (.sl e') s with
     |some s=>.when (Nat.beq ver aA) (PA L id (ver+1) e s.nil s.l m)
     |none=>.fail
    |_=>.fail
   |.pre id ver n cp=>match o id with
    |.vec e' aA fr s=>match iO (.sl e) (.sl e') s with
     |some s=>.when (Nat.beq ver aA) (match cp,fr with
      |false,false=>PA L id (ver+1) e s.nil (L.aP s.l n) m
      |true,_=>.dyn Unit (L.b (L.f (L.s (L.n (L.aP s.l n)) (L.n m))) fun _=>L.c (L.i m) none (some ())) (fun _=>(.cC fresh 0,[(fresh,.vec e 0 false ⟨false,L.app (L.aP s.l n) m⟩)]))
      |_,_=>.fail)
     |none=>.fail
    |_=>.fail
   |_=>.fail)
def bd(d:Int)(h:Option V):Option Int:=match h with
 |none=>some d
 |some v=>match asInt v with
  |some ⟨_,n⟩=>some n
  |none=>none
def Vf(t:TypeId):Nat:=match desc C.P t with
 |some .string=>0
 |some (.slice _)=>1
 |some (.array ..)=>2
 |_=>3
def YO(o:Nat->Obj)(fresh:Nat)(t:TypeId)(x:V)(lo hi mx:Option V):Pk:=
 match x,mx with
 |.d .str l,none=>match bd 0 lo,bd (L.n (α:=Int) l) hi with
  |some a,some b=>.when (Nat.beq (Vf C t) 0) (.dyn (List Int) (L.bS l a b) (fun m=>(.d .str m,[])))
  |_,_=>.fail
 |.d (.sl e) s,none=>match bd 0 lo,bd (L.n s.l) hi with
  |some a,some b=>.when (kp e (rk C t)) (.dyn (List (den e)) (L.bS s.l a b) (fun m=>(.d (.sl e) (⟨s.nil,m⟩:Sl (den e)),[])))
  |_,_=>.fail
 |.d (.sl e) s,some _=>match lo,bd 1 hi,bd 1 mx with
  |none,some b,some c=>.when (kp e (rk C t)&&Va e) (.dyn Unit (L.c (L.e b 0) (L.c (L.e c 0) (some ()) none) none) (fun _=>(.cC fresh 0,[(fresh,.vec e 0 false ⟨s.nil,[]⟩)])))
  |_,_,_=>.fail
 |.cC id ver,some _=>match o id with
  |.vec e aA _ s=>.when (Nat.beq ver aA&&kp e (rk C t)) (match lo,bd (-1) hi,bd (-1) mx with
    |none,some b,some c=>.dyn Nat (L.b (L.dY (L.n s.l) b) fun p=>L.c (L.e b c) (some p) none) (fun p=>(.pre id ver p true,[]))
    |_,_,_=>.fail)
  |_=>.fail
 |.cC id ver,none=>match o id with
  |.vec e aA _ s=>.when (Nat.beq ver aA&&kp e (rk C t)) (match lo with
    |none=>match bd (L.n s.l) hi with
     |some b=>.dyn Nat (L.dY (L.n s.l) b) (fun p=>(.pre id ver p false,[]))
     |none=>.fail
    |some Dn=>match hi with
     |none=>(match bd 0 (some Dn) with
      |some a=>.dyn Nat (L.dY (L.n s.l) a) (fun _=>(.j8 id ver a,[]))
      |none=>.fail)
     |some _=>match bd 0 lo,bd (L.n s.l) hi with
     |some a,some b=>.dyn (List (den e)) (L.bS s.l a b) (fun m=>(.d (.sl e) (⟨s.nil,m⟩:Sl (den e)),[(id,.vec e aA true s)]))
     |_,_=>.fail)
  |_=>.fail
 |_,_=>.fail
def YP(o:Nat->Obj)(t:TypeId)(x i:V):Pk:=
 match asInt i with
 |none=>.fail
 |some ⟨_,n⟩=>match x with
  |.d (.sl e) s=>.when (kp e (rk C t)) (.dyn (den e) (L.g s.l n) (fun y=>(.ref e y,[])))
  |.ref (.arr m e) l=>match z51 C t with
   |some (m',e')=>.when (Nat.beq m m'&&kp e (some e')) (.dyn (den e) (L.g l n) (fun y=>(.ref e y,[])))
   |none=>.fail
  |.cC id ver=>match o id with
   |.vec e aA _ s=>.when (Nat.beq ver aA&&kp e (rk C t)) (.dyn Nat (L.cj s.l n) (fun j=>(.l9 id ver j [],[])))
   |_=>.fail
  |.pre id ver k _=>match o id with
   |.vec e aA _ s=>.when (Nat.beq ver aA&&kp e (rk C t)) (.dyn Nat (L.cj (L.aP s.l k) n) (fun j=>(.l9 id ver j [],[])))
   |_=>.fail
  |.j8 id ver lo=>match o id with
   |.vec e aA _ s=>.when (Nat.beq ver aA&&kp e (rk C t)) (.dyn Nat (L.c (L.m 0 n) (L.cj s.l (L.s lo n)) none) (fun j=>(.l9 id ver j [],[])))
   |_=>.fail
  |.ptr id 0=>match o id with
   |.vec e 0 _ s=>match z51 C t with
    |some (m,e')=>.when (kp e (some e')) (.dyn Nat (L.b (L.dY ((m:Nat):Int) (L.s n 1)) fun _=>L.cj s.l n) (fun j=>(.l9 id 0 j [],[])))
    |none=>.fail
   |_=>.fail
  |_=>.fail
def YQ(t:TypeId)(x i:V):Pk:=
 match asInt i with
 |none=>.fail
 |some ⟨_,n⟩=>match x with
  |.d .str l=>.when (Nat.beq (Vf C t) 0) (.mc (t:=.int .u8) (L.g (α:=Int) l n))
  |.d (.arr m e) l=>match z51 C t with
   |some (m',e')=>.when (Nat.beq m m'&&kp e (some e')) (.mc (t:=e) (L.g l n))
   |none=>.fail
  |_=>.fail
def N1(o:Nat->Obj)(t:TypeId)(x:V)(f:Nat):Pk:=
 match Po C.P t f with
 |none=>.fail
 |some fd=>match xC C.P fd.type with
  |some (_,sz)=>.when (Nat.blt 0 sz) (match x with
   |.ptr id off=>match o id with
    |.box _=>.now (.ptr id (off+fd.offset))
    |_=>.fail
   |.ref t' y=>.when (C.is t t') (match NR t' f y with
    |some ⟨u,z⟩=>.now (.ref u z)
    |none=>.fail)
   |.l9 id ver i path=>match o id with
    |.vec e aA _ _=>match Dl path e with
     |some t'=>match t' with
      |.st p=>match p8 p f with
       |some _=>.when (Nat.beq ver aA&&C.is t t') (.now (.l9 id ver i (path++[f])))
       |none=>.fail
      |_=>.fail
     |none=>.fail
    |_=>.fail
   |_=>.fail)
  |none=>.fail
def YR(t:TypeId)(x:V)(f:Nat):Pk:=
 match x with
 |.d t' y=>.when (C.is t t') (match NR t' f y with
  |some ⟨u,z⟩=>.now (.d u z)
  |none=>.fail)
 |.agg cs=>match Po C.P t f with
  |some fd=>match xC C.P fd.type with
   |some (true,n)=>.when (Nat.ble (fd.offset+n) cs.length) (.now (.agg ((cs.drop fd.offset).take n)))
   |some (false,_)=>match cs[fd.offset]? with
    |some v=>.now v
    |none=>.fail
   |none=>.fail
  |none=>.fail
 |_=>.fail
def Bl(e:TypeId):Bool:=match desc C.P e with|some (.int .u8)=>true|_=>false
def YS(o:Nat->Obj)(fresh:Nat)(s t:TypeId)(x:V):Pk:=
 match desc C.P s with
 |none=>.fail
 |some ds=>match desc C.P t with
  |some (.int k)=>match x with
   |.d (.int _) n=>.now (.d (.int k) (L.fR k n))
   |_=>.fail
  |some (.float .f64)=>match x with
   |.d (.int _) n=>.now (.d .gz (L.cV n))
   |_=>.fail
  |some .string=>match x with
   |.d .str l=>.now (.d .str l)
   |v=>match ds with
    |.slice e=>.when (Bl C e&&Nat.blt 0 1) (match ri L o (.sl (.int .u8)) v with
     |some s=>.now (.d .str (Sl.l s))
     |none=>.fail)
    |_=>.fail
  |some (.slice e)=>match x with
   |.d .str l=>match ds with
    |.string=>.when (Bl C e) (.dyn Unit (L.f (L.n l)) (fun _=>(.cC fresh 0,[(fresh,.vec (.int .u8) 0 false ⟨false,l⟩)])))
    |_=>.fail
   |.cC id ver=>match ds with
    |.slice _=>match o id with
     |.vec (.int .u8) aA false b=>.when (Bl C e&&Nat.beq s t&&Nat.beq ver aA) (.dyn Unit (L.c b.nil none (some ())) (fun _=>(.cC id ver,[(id,.vec (.int .u8) ver false b)])))
     |_=>.fail
    |_=>.fail
   |_=>.fail
  |_=>.fail
def Vg(t:TypeId):Option (List V):=match C.P.types.toList[t]? with
 |some i=>match i.zero with
  |some z=>some (z.cells.toList.map dJ)
  |none=>none
 |none=>none
def Vh(o:Nat->Obj)(fs:List Field):List (Nat×V)->List V->Option (List V)
 |[],cs=>some cs
 |p::r,cs=>match fs[p.1]?,Py o p.2 with
  |some fd,some vs=>match xC C.P fd.type with
   |some (_,n)=>bif Nat.beq vs.length n&&Nat.ble (fd.offset+n) cs.length then Vh o fs r (NY cs fd.offset vs) else none
   |none=>none
  |_,_=>none
def GH(o:Nat->Obj)(e:Ty):List (Nat×V)->List (den e)->Option (List (den e))
 |[],l=>some l
 |p::r,l=>match nO L o e p.2 with
  |some x=>bif Nat.blt p.1 l.length then GH o e r (l.set p.1 x) else none
  |none=>none
def AB(o:Nat->Obj):List (Nat×V)->List Nat
 |[]=>[]
 |p::r=>ig o p.2++AB o r
def Vi(P:Program):List Field->Bool
 |[]=>true
 |f::r=>match xC P f.type with
  |some _=>Vi P r
  |none=>false
def YT(o:Nat->Obj)(t:TypeId)(parts:List (Nat×V)):Pk:=
 match desc C.P t with
 |some (.struct fs)=>.when (Vi C.P fs.toList) (match Vg C t with
  |some z=>match Vh C o fs.toList parts z with
   |some cs=>.now (Vc L C o t cs)
   |none=>.fail
  |none=>.fail)
 |some (.array n _)=>match C.ty t with
  |some (.arr n' e)=>.when (Nat.beq n n') (match GH L o e parts (List.replicate n (zero e)) with
   |some l=>.now (.d (.arr n' e) l) (eY o (AB o parts))
   |none=>.fail)
  |_=>.fail
 |_=>.fail
def YU(o:Nat->Obj)(fresh:Nat)(t:TypeId)(n:Nat)(parts:List (Nat×V)):Pk:=
 match rk C t with
 |some e=>.when (Nat.ble (n*aB e) 16777216&&Nat.blt 0 (aB e)) (match GH L o e parts (List.replicate n (zero e)) with
  |some l=>.now (.cC fresh 0) (eY o (AB o parts)++[(fresh,.vec e 0 false ⟨false,l⟩)])
  |none=>.fail)
 |none=>.fail
def Bm:Nat->TypeId->List (Option Ty)
 |0,_=>[]
 |n+1,t=>match desc C.P t with
  |some (.struct fs)=>(fs.toList.map fun f=>Bm n f.type).flatten
  |some (.slice e)=>[C.ty e]
  |some (.array ..)=>match xC C.P t with
   |some (_,k)=>List.replicate k none
   |none=>[]
  |_=>[none]
def p9(i:Nat):List V->List (Option Ty)->List V×List (Nat×Obj)
 |.fS::r,some e::s=>let p:=p9 (i+1) r s;(.cC i 0::p.1,(i,.vec e 0 false ⟨true,[]⟩)::p.2)
 |v::r,_::s=>let p:=p9 i r s;(v::p.1,p.2)
 |l,[]=>(l,[])
 |[],_=>([],[])
def xF:List V->Nat
 |[]=>0
 |.fS::r=>xF r+1
 |_::r=>xF r
def z54(fresh:Nat)(t:TypeId)(cs:List V):Pk:=
 let p:=bif Nat.ble (xF cs) 14 then p9 (fresh+1) cs (Bm C 8 t) else(cs,[])
 .when (!rj p.1) (.now (.ptr fresh 0) ((fresh,.box p.1)::p.2))
def Vj(n fresh:Nat):List V->Pk
 |.iM::.fS::E=>.when (Nat.beq E.length n) (.now (.ptr fresh 0) [(fresh,.box (.ib fresh false::.cC (fresh+1) 0::E)),(fresh+1,.vec (.int .u8) 0 false ⟨true,[]⟩)])
 |_=>.fail
def Vk(fresh:Nat)(t:TypeId)(cs:List V):Pk:=bif Nat.beq t C.nR then Vj 0 fresh cs else bif Nat.beq t C.U9 then Vj 2 fresh cs else z54 C fresh t cs
def z55(fresh:Nat)(t:TypeId)(b:Bool):Pk->Pk
 |.nQ (.agg cs) []=>bif b&&Vb cs&&Nat.ble (xF cs) 15 then .now (.agg (p9 fresh cs (Bm C 8 t)).1) (p9 fresh cs (Bm C 8 t)).2 else .now (.agg cs)
 |p=>p
def YV(fresh:Nat)(t:TypeId):Pk:=
 match C.ty t with
 |some (.arr n e)=>.when (Nat.blt 0 (aB e)&&Nat.ble n 1000000&&Va e) (.now (.ptr fresh 0) [(fresh,.vec e 0 false ⟨false,List.replicate n (zero e)⟩)])
 |_=>match Vg C t with
  |some cs=>Vk C fresh t cs
  |none=>.fail
def YW(o:Nat->Obj)(fresh:Nat)(t:TypeId)(v:V):Pk:=
 match v with
 |.d (.arr n e) l=>.when (Nat.blt 0 (aB e)&&Nat.ble n 1000000&&Va e) (.now (.ptr fresh 0) [(fresh,.vec e 0 false ⟨false,l⟩)])
 |v=>match Py o v with
  |some cs=>Vk C fresh t cs
  |none=>.fail
def PB(fresh:Nat)(t:TypeId)(v:V):Pk:=
 match v with
 |.fS=>match rk C t with
  |some e=>.now (.cC fresh 0) [(fresh,.vec e 0 false ⟨true,[]⟩)]
  |none=>.now .fS
 |v=>.now v
def YX(x:Bool)(a b:V):V:=
 match a,b with
 |.d t a',.d t' b'=>match iO t t' b' with
  |some b'=>.d t (L.UY x a' b')
  |none=>bif x then a else b
 |_,_=>bif x then a else b
def YY(fresh:Nat)(t:TypeId)(l c:V):Pk:=
 match rk C t,asInt l,asInt c with
 |some e,some ⟨_,n⟩,some ⟨_,m⟩=>.when (Nat.blt 0 (aB e)) (.dyn Nat (L.wy n m) (fun k=>(.cC fresh 0,[(fresh,.vec e 0 false ⟨false,L.rep k (zero e)⟩)])))
 |_,_,_=>.fail
def AD:Ty->Bool
 |.sl _=>true
 |.pair a b=>AD a||AD b
 |.st p=>AD p
 |.arr _ e=>AD e
 |.gz=>true
 |.fY=>true
 |_=>false
mutual
def PE:Sh->Bool
 |.d t=>AD t
 |.fa _=>true
 |.ref _=>true
 |.rr _=>true
 |.fn _ l=>AE l
 |.mW l=>AE l
 |.agg l=>AE l
 |_=>false
def AE:List Sh->Bool
 |[]=>false
 |s::l=>PE s||AE l
end
def xG:List fG->Bool
 |[]=>false
 |.box l::r=>AE l||xG r
 |.vec t::r=>AD t||xG r
 |.gone::r=>xG r
 |.iter::r=>xG r
def nU(s:Shape):Bool:=AE s.roots||xG s.ar
def Vl(o:Nat->Obj):List Nat->Bool
 |[]=>true
 |id::r=>(match o id with|.box _=>false|.iter _ _=>false|_=>true)&&Vl o r
def Eo(bD:List Nat):Nat->Nat->List fG->Bool
 |0,_,_=>true
 |n+1,i,.gone::r=>Dm i bD&&Eo bD n (i+1) r
 |n+1,i,_::r=>bF i bD&&Eo bD n (i+1) r
 |_+1,_,[]=>false
variable (R:kX C.sigs)
def Vm(o:Nat->Obj)(aR:List (Nat×Nat)):Nat->Bool
 |0=>true
 |n+1=>(match iP n aR with
  |some cO=>(match o cO with|.none=>false|_=>true)
  |none=>false)&&Vm o aR n
def Vn(ps:PS):List Nat->Bool
 |[]=>true
 |i::r=>Pr (iP ((iP i ps.aR).getD 0) ps.cut)&&Vn ps r
def Vo(o:Nat->Obj)(ps:PS)(k:Nat)(outs:Shape)(bD:List Nat):Bool:=Vn ps bD&&Eo bD k 0 outs.ar&&(Vl o ps.bY||!(nU outs))&&Vm o ps.aR k&&Nat.ble outs.ar.length (k+16)
def Dp(aR:List (Nat×Nat))(k fresh:Nat):Nat->Nat:=fun id=>bif Nat.blt id k then(iP id aR).getD 0 else fresh+(id-k)
def zml:Obj->Nat
 |.vec _ ver _ _=>ver
 |_=>0
def Ep(o:Nat->Obj)(aR:List (Nat×Nat))(k:Nat)(bD:List Nat):Nat->Nat:=fun id=>bif Nat.blt id k&&bF id bD then zml (o ((iP id aR).getD 0)) else 0
def Bn:List V->V
 |[v]=>v
 |vs=>.mW vs
def Dq(o:Nat->Obj)(fresh:Nat)(f:Nat)(args:List V):List nG->Nat->Pk
 |[],_=>.fail
 |s::r,i=>bif Nat.beq s.f f then match pack L o [] (bI C.sigs i).ins args with
   |some (ps,c)=>.when (Nat.beq (bI C.sigs i).f f&&Vo o ps (bI C.sigs i).ins.ar.length (bI C.sigs i).outs (bI C.sigs i).bD)
    (.dyn (ak (bI C.sigs i).outs.bQ) (R i c) (fun y=>
     (Bn (fill (Dp ps.aR (bI C.sigs i).ins.ar.length fresh) (Ep o ps.aR (bI C.sigs i).ins.ar.length (bI C.sigs i).bD) (bI C.sigs i).outs y).1,
      (bif nU (bI C.sigs i).outs then eY o ps.bY else [])++(fill (Dp ps.aR (bI C.sigs i).ins.ar.length fresh) (Ep o ps.aR (bI C.sigs i).ins.ar.length (bI C.sigs i).bD) (bI C.sigs i).outs y).2)))
   |none=>Dq o fresh f args r (i+1)
  else Dq o fresh f args r (i+1)
def faX:Pk->Option (Option Bool)
 |.dyn _ x out=>some (L.b x fun y=>match out y with
  |(.d .bool b,[])=>some b
  |_=>none)
 |_=>none
def PF(o:Nat->Obj)(fresh:Nat)(k n:Int)(args:List V):List (Nat×Bool)->Nat->Option (Option Bool)
 |[],_=>some none
 |(f,c)::r,i=>match faX L (Dq L C R o fresh f (args++bif c then [.ref (.int .i64) n] else []) C.sigs 0) with
  |some x=>match PF o fresh k n args r (i+1) with
   |some y=>some (L.c (L.e k (Int.ofNat i)) x y)
   |none=>none
  |none=>none
def YZ(o:Nat->Obj)(t:TypeId)(x y:V):Pk:=
 match x with
 |.cC id ver=>match o id with
  |.vec e aA false s=>match Ve L o e y with
   |some m=>.when (Nat.beq ver aA&&kp e (rk C t)) (.now (.d (.int .i64) (L.lA (L.n s.l) (L.n m))) [(id,.vec e ver false ⟨s.nil,L.uz s.l m⟩)])
   |none=>.fail
  |_=>.fail
 |_=>.fail
def Z0(o:Nat->Obj)(t:TypeId)(x:V):Pk:=
 match x with
 |.j8 id ver lo=>match o id with
  |.vec e aA false s=>.when (Nat.beq ver aA&&kp e (rk C t)) (.now (.mW []) [(id,.vec e ver false ⟨s.nil,L.gb s.l lo (zero e)⟩)])
  |_=>.fail
 |_=>.fail
def qti(o:Nat->Obj)(fresh:Nat)(b:Builtin)(ts:List TypeId)(args:List V):Pk:=
 match b,ts,args with
 |.len,t::_,[x]=>zip L C o t x
 |.append,t::u::_,[x,y]=>YN L C o fresh t u x y
 |.copy,t::_,[x,y]=>YZ L C o t x y
 |.clear,t::_,[x]=>Z0 L C o t x
 |.min,_,[.d (.int k) a,.d (.int k') b]=>.when (Nat.beq (uV k) (uV k')) (.now (.d (.int k) (L.lA a b)))
 |.max,_,[.d (.int k) a,.d (.int k') b]=>.when (Nat.beq (uV k) (uV k')) (.now (.d (.int k) (L.lB a b)))
 |.complex,_,[.d .gz a,.d .gz b]=>.now (.d .fY ((a:Nat),(b:Nat)))
 |.real,_,[.d .fY a]=>.now (.d .gz (Prod.fst (α:=Nat) (β:=Nat) a))
 |.imag,_,[.d .fY a]=>.now (.d .gz (Prod.snd (α:=Nat) (β:=Nat) a))
 |_,_,_=>.fail
def Z1(fresh:Nat)(t:TypeId)(x:V):Pk:=match desc C.P t with
 |some .string=>match x with
  |.d .str l=>.now (.it fresh) [(fresh,.iter l 0)]
  |_=>.fail
 |_=>.fail
def Z2(o:Nat->Obj)(x:V):Pk:=match x with
 |.it id=>match o id with
  |.iter l p=>.now (.UZ (L.l p (L.n l)) p (L.fh l p)) [(id,.iter l (L.gP l p))]
  |_=>.fail
 |_=>.fail
def Z3(i:Nat):V->Pk
 |.mW vs=>match vs[i]? with
  |some v=>.now v
  |none=>.fail
 |.UZ b p c=>match i with
  |0=>.now (.d .bool b)
  |1=>.mc (t:=.int .i64) (L.c b (some p) none)
  |2=>.mc (t:=.int .i32) (L.c b (some c) none)
  |_=>.fail
 |_=>.fail
def Il:IntKind->Int
 |.u8=>255|.u16=>65535|.u32=>4294967295|.u64=>18446744073709551615|_=>-1
def N2(o:Nat->Obj)(v:V):Pk:=
 match v with
 |.ptr _ _=>.when (sure o v) (.now v)
 |.ref _ _=>.now v
 |.l9 id ver _ _=>match o id with
  |.vec _ aA _ _=>.when (Nat.beq ver aA) (.now v)
  |_=>.fail
 |.fn _ _=>.now v
 |_=>.fail
def dD(env:Nat->V)(o:Nat->Obj)(fresh:Nat)(t:TypeId):Op->Pk
 |.move x=>PB C fresh t (cE C env x)
 |.assign x=>PB C fresh t (cE C env x)
 |.pick c a b=>match El C env c with
  |.lb x=>.now (bif x then cE C env a else cE C env b)
  |.d .bool x=>.now (YX L x (cE C env a) (cE C env b))
  |_=>.fail
 |.alloc e=>YV C fresh e
 |.box e x=>YW C o fresh e (cE C env x)
 |.build t ps=>z55 C fresh t (!(Nat.beq t C.U9)) (YT L C o t (ps.toList.map fun p=>(p.1,cE C env p.2)))
 |.buildSlice t n ps=>YU L C o fresh t n (ps.toList.map fun p=>(p.1,cE C env p.2))
 |.load t a=>Vd L C o t (cE C env a)
 |.store t a v=>YI L C o t (cE C env a) (cE C env v)
 |.nilCheck x=>N2 o (cE C env x)
 |.binOp op t x y _=>NZ L C o op t (cE C env x) (cE C env y)
 |.unOp .not _ x=>match cE C env x with
  |.d .bool x=>.now (.d .bool (L.t x))
  |_=>.fail
 |.unOp .xor _ x=>match cE C env x with
  |.d (.int k) n=>.now (.d (.int k) (L.pX k (Il k) n))
  |_=>.fail
 |.unOp .neg _ x=>match cE C env x with
  |.d (.int k) n=>.now (.d (.int k) (L.u k 0 n))
  |_=>.fail
 |.convert s d x=>YS L C o fresh s d (cE C env x)
 |.makeFunc (.func f) first caps=>.when (Nat.blt f 1048576) (.now (.fn (f+1048576*first.toList.length) (first.toList.map (cE C env)++caps.toList.map (cE C env))))
 |.makeSlice t l c=>YY L C fresh t (cE C env l) (cE C env c)
 |.slice t x lo hi mx=>YO L C o fresh t (cE C env x) (lo.map (cE C env)) (hi.map (cE C env)) (mx.map (cE C env))
 |.fieldAddr t x f=>N1 C o t (cE C env x) f
 |.field t x f=>YR C t (cE C env x) f
 |.indexAddr t x i=>YP L C o t (cE C env x) (cE C env i)
 |.index t x i=>YQ L C t (cE C env x) (cE C env i)
 |.extract x i=>Z3 L i (cE C env x)
 |.range t x=>Z1 C fresh t (cE C env x)
 |.next x true=>Z2 L o (cE C env x)
 |.call c=>match c.callee with
  |.builtin b=>qti L C o fresh b c.argTypes.toList (c.args.toList.map (cE C env))
  |.value f=>match cE C env f with
   |.fn f caps=>Dq L C R o fresh (f % 1048576) (caps.take (f / 1048576)++(c.args.toList.map (cE C env)++caps.drop (f / 1048576))) C.sigs 0
   |.fa a k n=>match PF L C R o fresh k n (c.args.toList.map (cE C env)) a 0 with
    |some x=>.dyn Bool x (fun b=>(.d .bool b,[]))
    |none=>.fail
   |_=>.fail
  |_=>.fail
 |_=>.fail
end
end Ev