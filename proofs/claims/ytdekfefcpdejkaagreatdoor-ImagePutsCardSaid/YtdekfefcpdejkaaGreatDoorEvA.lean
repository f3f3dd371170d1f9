/- The evaluator: leaves, types, values, shapes, operations.
   A part of a verified evaluator of the model: no statement of its own about the program. -/
import GoSem.Core.Code
import GoSem.Core.Program
import GoSem.Core.View
namespace Ev
open Go

structure Sl (α : Type) where
  nil : Bool
  l : List α

/-! What is reckoned: the leaves of the code that is told. -/
def bnd {α β : Type} (x : Option α) (f : α → Option β) : Option β := match x with | some a => f a | none => none
def cnd {α : Type} (x : Bool) (a b : Option α) : Option α := match x with | true => a | false => b
def sel {α : Type} (x : Bool) (a b : α) : α := match x with | true => a | false => b
def sumE {α β : Type} (f : α → Option β) (y : α ⊕ β) : Option β := match y with | .inl a => f a | .inr b => some b
def notB (a : Bool) : Bool := !a
def andB (a b : Bool) : Bool := a && b
def at? {α : Type} (l : List α) (i : Int) : Option α := if 0 ≤ i then l[i.toNat]? else none
def okAt {α : Type} (l : List α) (i : Int) : Option Nat := if 0 ≤ i ∧ i < l.length then some i.toNat else none
def cutL {α : Type} (l : List α) (lo hi : Int) : Option (List α) := if 0 ≤ lo ∧ lo ≤ hi ∧ hi ≤ l.length then some ((l.take hi.toNat).drop lo.toNat) else none
def cutN (n : Int) (hi : Int) : Option Nat := if 0 ≤ hi ∧ hi ≤ n then some hi.toNat else none
def fit (n : Int) : Option Unit := if n ≤ 2147483648 then some () else none
def mkN (n m : Int) : Option Nat := if 0 ≤ n ∧ n ≤ m ∧ m ≤ 2147483648 then some n.toNat else none
def quoI (k : IntKind) (a b : Int) : Option Int := if b = 0 then none else some (k.wrap (a.tdiv b))
def remI (a b : Int) : Option Int := if b = 0 then none else some (a.tmod b)
def shlI (k : IntKind) (a b : Int) : Option Int := if b < 0 then none else some (k.wrap (a * 2 ^ min b.toNat k.bits))
def shrI (k : IntKind) (a b : Int) : Option Int := if b < 0 then none else some (a.fdiv (2 ^ min b.toNat k.bits))
def addI (k : IntKind) (a b : Int) : Int := k.wrap (a + b)
def subI (k : IntKind) (a b : Int) : Int := k.wrap (a - b)
def mulI (k : IntKind) (a b : Int) : Int := k.wrap (a * b)
def cvI (k : IntKind) (a : Int) : Int := k.wrap a
def andI (k : IntKind) (a b : Int) : Int := k.wrap (BitVec.ofInt k.bits a &&& BitVec.ofInt k.bits b).toNat
def orI (k : IntKind) (a b : Int) : Int := k.wrap (BitVec.ofInt k.bits a ||| BitVec.ofInt k.bits b).toNat
def xorI (k : IntKind) (a b : Int) : Int := k.wrap (BitVec.ofInt k.bits a ^^^ BitVec.ofInt k.bits b).toNat
def andNotI (k : IntKind) (a b : Int) : Int := k.wrap (BitVec.ofInt k.bits a &&& ~~~BitVec.ofInt k.bits b).toNat
def ltI (a b : Int) : Bool := decide (a < b)
def leI (a b : Int) : Bool := decide (a ≤ b)
def eqI (a b : Int) : Bool := a == b
def eqB (a b : Bool) : Bool := a == b
def eqS (a b : List Int) : Bool := a == b
def catS (a b : List Int) : List Int := a ++ b
def minI (a b : Int) : Int := if b < a then b else a
def maxI (a b : Int) : Int := if a < b then b else a
def sumI (a b : Int) : Int := a + b
def lenI {α : Type} (l : List α) : Int := (l.length : Int)
def app {α : Type} (l m : List α) : List α := l ++ m
def rep {α : Type} (n : Nat) (x : α) : List α := List.replicate n x
def nth {α : Type} (l : List α) (n : Nat) : Option α := l[n]?
def setL {α : Type} (l : List α) (n : Nat) (x : α) : List α := l.set n x
def takeL {α : Type} (l : List α) (n : Nat) : List α := l.take n
def dropL {α : Type} (l : List α) (n : Int) : List α := l.drop n.toNat
/-- The end of a row made nought. -/
def zerL {α : Type} (l : List α) (n : Int) (z : α) : List α := l.take n.toNat ++ List.replicate (l.length - n.toNat) z
def ovl {α : Type} (l m : List α) : List α := m.take l.length ++ l.drop m.length
def isE {α : Type} (l : List α) : Bool := l.isEmpty
def strLt : List Int → List Int → Bool
  | _, [] => false
  | [], _ :: _ => true
  | a :: x, b :: y => decide (a < b) || (decide (a = b) && strLt x y)
def mget {κ ν : Type} (eq : κ → κ → Bool) (k : κ) : List (κ × ν) → Option ν
  | [] => none
  | (k', v) :: m => bif eq k k' then some v else mget eq k m
def mgetD {κ ν : Type} (eq : κ → κ → Bool) (k : κ) (m : List (κ × ν)) (z : ν) : ν := (mget eq k m).getD z
def mhas {κ ν : Type} (eq : κ → κ → Bool) (k : κ) (m : List (κ × ν)) : Bool := (mget eq k m).isSome
def mset {κ ν : Type} (eq : κ → κ → Bool) (k : κ) (v : ν) : List (κ × ν) → List (κ × ν)
  | [] => [(k, v)]
  | (k', v') :: m => bif eq k k' then (k, v) :: m else (k', v') :: mset eq k v m
def mdel {κ ν : Type} (eq : κ → κ → Bool) (k : κ) : List (κ × ν) → List (κ × ν)
  | [] => []
  | (k', v') :: m => bif eq k k' then m else (k', v') :: mdel eq k m

/-- A loop, as far as it ends. -/
def loopN {σ ρ : Type} (f : σ → Option (σ ⊕ ρ)) : Nat → σ → Option ρ
  | 0, _ => none
  | n + 1, s => match f s with
    | some (.inl s') => loopN f n s'
    | some (.inr r) => some r
    | none => none

open Classical in
noncomputable def loopR {σ ρ : Type} (f : σ → Option (σ ⊕ ρ)) (s : σ) : Option ρ :=
  if h : ∃ r n, loopN f n s = some r then some (Classical.choose h) else none

/-- The leaves, as a record: what is told of a code is told over any such record: so that the kernel opens none of them. -/
structure Lf : Type 1 where
  bnd : {α β : Type} → Option α → (α → Option β) → Option β
  cnd : {α : Type} → Bool → Option α → Option α → Option α
  sel : {α : Type} → Bool → α → α → α
  sumE : {α β : Type} → (α → Option β) → α ⊕ β → Option β
  notB : Bool → Bool
  andB : Bool → Bool → Bool
  at? : {α : Type} → List α → Int → Option α
  okAt : {α : Type} → List α → Int → Option Nat
  cutL : {α : Type} → List α → Int → Int → Option (List α)
  cutN : Int → Int → Option Nat
  fit : Int → Option Unit
  mkN : Int → Int → Option Nat
  quoI : IntKind → Int → Int → Option Int
  remI : Int → Int → Option Int
  shlI : IntKind → Int → Int → Option Int
  shrI : IntKind → Int → Int → Option Int
  addI : IntKind → Int → Int → Int
  subI : IntKind → Int → Int → Int
  mulI : IntKind → Int → Int → Int
  cvI : IntKind → Int → Int
  andI : IntKind → Int → Int → Int
  orI : IntKind → Int → Int → Int
  xorI : IntKind → Int → Int → Int
  andNotI : IntKind → Int → Int → Int
  ltI : Int → Int → Bool
  leI : Int → Int → Bool
  eqI : Int → Int → Bool
  eqB : Bool → Bool → Bool
  eqS : List Int → List Int → Bool
  catS : List Int → List Int → List Int
  minI : Int → Int → Int
  maxI : Int → Int → Int
  sumI : Int → Int → Int
  lenI : {α : Type} → List α → Int
  app : {α : Type} → List α → List α → List α
  rep : {α : Type} → Nat → α → List α
  nth : {α : Type} → List α → Nat → Option α
  setL : {α : Type} → List α → Nat → α → List α
  takeL : {α : Type} → List α → Nat → List α
  dropL : {α : Type} → List α → Int → List α
  zerL : {α : Type} → List α → Int → α → List α
  ovl : {α : Type} → List α → List α → List α
  isE : {α : Type} → List α → Bool
  strLt : List Int → List Int → Bool
  mgetD : {κ ν : Type} → (κ → κ → Bool) → κ → List (κ × ν) → ν → ν
  mhas : {κ ν : Type} → (κ → κ → Bool) → κ → List (κ × ν) → Bool
  mset : {κ ν : Type} → (κ → κ → Bool) → κ → ν → List (κ × ν) → List (κ × ν)
  mdel : {κ ν : Type} → (κ → κ → Bool) → κ → List (κ × ν) → List (κ × ν)
  loopR : {σ ρ : Type} → (σ → Option (σ ⊕ ρ)) → σ → Option ρ

/-- The leaves as they are. -/
noncomputable def lf : Lf where
  bnd := @bnd
  cnd := @cnd
  sel := @sel
  sumE := @sumE
  notB := notB
  andB := andB
  at? := @at?
  okAt := @okAt
  cutL := @cutL
  cutN := cutN
  fit := fit
  mkN := mkN
  quoI := quoI
  remI := remI
  shlI := shlI
  shrI := shrI
  addI := addI
  subI := subI
  mulI := mulI
  cvI := cvI
  andI := andI
  orI := orI
  xorI := xorI
  andNotI := andNotI
  ltI := ltI
  leI := leI
  eqI := eqI
  eqB := eqB
  eqS := eqS
  catS := catS
  minI := minI
  maxI := maxI
  sumI := sumI
  lenI := @lenI
  app := @app
  rep := @rep
  nth := @nth
  setL := @setL
  takeL := @takeL
  dropL := @dropL
  zerL := @zerL
  ovl := @ovl
  isE := @isE
  strLt := strLt
  mgetD := @mgetD
  mhas := @mhas
  mset := @mset
  mdel := @mdel
  loopR := @loopR

end Ev


/- The staged evaluator: types, symbolic values, states, shapes. -/
namespace Ev
open Go

/-- Types of data. -/
inductive Ty where
  | int (k : IntKind) | bool | str | sl (e : Ty) | unit | pair (a b : Ty) | st (p : Ty) | arr (n : Nat) (e : Ty)
  deriving DecidableEq

abbrev den : Ty → Type
  | .int _ => Int
  | .bool => Bool
  | .str => List Int
  | .sl e => Sl (den e)
  | .unit => Unit
  | .pair a b => den a × den b
  | .st p => den p
  | .arr _ e => List (den e)

def csz : Ty → Nat
  | .unit => 0
  | .pair a b => csz a + csz b
  | .st p => csz p
  | .arr n e => n * csz e
  | _ => 1

def zero : (t : Ty) → den t
  | .int _ => (0 : Int)
  | .bool => false
  | .str => ([] : List Int)
  | .sl e => (⟨true, []⟩ : Sl (den e))
  | .unit => ()
  | .pair a b => (zero a, zero b)
  | .st p => zero p
  | .arr n e => List.replicate n (zero e)

/-- Symbolic values. -/
inductive V : Type where
  | d (t : Ty) (x : den t)
  | osl (id ver : Nat)
  | pre (id ver : Nat) (n : Nat) (capd : Bool)
  | ptr (id off : Nat)
  | eptr (id ver : Nat) (i : Nat) (path : List Nat)
  | ref (t : Ty) (x : den t)
  | nilp
  | fn (f : Nat) (caps : List V)
  | nilf
  | tup (vs : List V)
  | agg (cs : List V)
  | mp (id : Nat)
  | nilm
  | nili
  | nils
  | lb (b : Bool)
  | undef
  | junk
  | slf (id : Nat) (b : Bool)
  | suf (id ver : Nat) (lo : Int)

inductive Obj : Type where
  | box (cs : List V)
  | vec (t : Ty) (ver : Nat) (fr : Bool) (s : Sl (den t))
  | map (k v : Ty) (m : List (den k × den v))
  | dead
  | none

structure St : Type where
  env : Nat → V
  obj : Nat → Obj

/-- A known truth is data as any other, but for guards. -/
def unlb : V → V
  | .lb b => .d .bool b
  | v => v

def upd {α : Type} (f : Nat → α) (i : Nat) (x : α) : Nat → α := fun j => bif Nat.beq j i then x else f j

def upds {α : Type} (f : Nat → α) : List (Nat × α) → Nat → α
  | [] => f
  | (i, x) :: r => upds (upd f i x) r

def asTy (t : Ty) : (t' : Ty) → den t' → Option (den t) := fun t' x =>
  match decEq t' t with
  | isTrue h => some (h ▸ x)
  | isFalse _ => none

section
variable (L : Lf)
/-- A value as data of a type (an own slice is lent). -/
def asD (o : Nat → Obj) (t : Ty) : V → Option (den t)
  | .d t' x => asTy t t' x
  | .osl id ver => match o id with
    | .vec e ver' _ s => bif Nat.beq ver ver' then asTy t (.sl e) s else none
    | _ => none
  | .pre id ver n _ => match o id with
    | .vec e ver' _ s => bif Nat.beq ver ver' then asTy t (.sl e) (⟨s.nil, L.takeL s.l n⟩ : Sl (den e)) else none
    | _ => none
  | .nils => match t with
    | .sl e => some (⟨true, []⟩ : Sl (den e))
    | _ => none
  | .suf id ver lo => match o id with
    | .vec e ver' _ s => bif Nat.beq ver ver' then asTy t (.sl e) (⟨s.nil, L.dropL s.l lo⟩ : Sl (den e)) else none
    | _ => none
  | _ => none

/-- Data as cells. -/
def unC : (t : Ty) → den t → List V
  | .unit, _ => []
  | .pair a b, x => unC a x.1 ++ unC b x.2
  | .st p, x => unC p x
  | t, x => [.d t x]

/-- Cells as data. -/
def paC (o : Nat → Obj) : (t : Ty) → List V → Option (den t × List V)
  | .unit, cs => some ((), cs)
  | .pair a b, cs => match paC o a cs with
    | some (x, r) => match paC o b r with
      | some (y, r') => some ((x, y), r')
      | none => none
    | none => none
  | .st p, cs => paC o p cs
  | .arr _ _, _ => none
  | t, c :: r => match asD L o t c with
    | some x => some (x, r)
    | none => none
  | _, [] => none

def asDs (o : Nat → Obj) (t : Ty) (v : V) : Option (den t) :=
  match v with
  | .agg cs => match t with
    | .st p => match paC L o p cs with
      | some (x, []) => some x
      | _ => none
    | _ => none
  | v => asD L o t v

end

/-- The cells of a value. -/
def cellsV : V → List V
  | .d (.st p) x => unC p x
  | .agg cs => cs
  | v => [v]

/-- The types of the program's types. -/
def chain : List Ty → Ty
  | [] => .unit
  | [a] => a
  | a :: b :: r => .pair a (chain (b :: r))

def desc (P : Program) (t : TypeId) : Option TypeDesc :=
  match P.types.toList[t]? with
  | some i => match i.desc with
    | .named _ u => match P.types.toList[u]? with
      | some j => some j.desc
      | none => none
    | d => some d
  | none => none

def allSome {α : Type} : List (Option α) → Option (List α)
  | [] => some []
  | some x :: r => match allSome r with
    | some l => some (x :: l)
    | none => none
  | none :: _ => none

def tyOf (P : Program) : Nat → TypeId → Option Ty
  | 0, _ => none
  | n + 1, t => match desc P t with
    | some (.int k) => some (.int k)
    | some .bool => some .bool
    | some .string => some .str
    | some (.slice e) => match tyOf P n e with
      | some e => some (.sl e)
      | none => none
    | some (.array m e) => match tyOf P n e with
      | some e => some (.arr m e)
      | none => none
    | some (.struct fs) => match allSome (fs.toList.map fun f => tyOf P n f.type) with
      | some l => some (.st (chain l))
      | none => none
    | _ => none

def size (P : Program) (t : TypeId) : Nat := match P.types.toList[t]? with | some i => i.size | none => 0
def isAgg (P : Program) (t : TypeId) : Bool := match desc P t with | some (.struct _) | some (.array ..) => true | _ => false

def fieldOf (P : Program) (t : TypeId) (f : Nat) : Option Field :=
  match desc P t with
  | some (.struct fs) => fs.toList[f]?
  | _ => none

/-- The part of a chain. -/
def projF : (p : Ty) → Nat → den p → Option ((t : Ty) × den t)
  | .pair a _, 0, x => some ⟨a, x.1⟩
  | .pair _ b, n + 1, x => projF b n x.2
  | .unit, _, _ => none
  | t, 0, x => some ⟨t, x⟩
  | _, _ + 1, _ => none

def projS : (t : Ty) → Nat → den t → Option ((t : Ty) × den t)
  | .st p, n, x => projF p n x
  | _, _, _ => none

/-- A data's part at a path, given to a continuation; and with another part there. -/
def projP : (path : List Nat) → (t : Ty) → den t → Option ((t : Ty) × den t)
  | [], t, x => some ⟨t, x⟩
  | f :: r, t, x => match projS t f x with
    | some ⟨u, y⟩ => projP r u y
    | none => none

def setF : (p : Ty) → Nat → den p → ((t : Ty) → den t → Option (den t)) → Option (den p)
  | .pair a b, 0, x, g => match g a x.1 with | some y => some ((y, x.2) : den (.pair a b)) | none => none
  | .pair a b, n + 1, x, g => match setF b n x.2 g with | some y => some ((x.1, y) : den (.pair a b)) | none => none
  | .unit, _, _, _ => none
  | t, 0, x, g => g t x
  | _, _ + 1, _, _ => none

def setS : (t : Ty) → Nat → den t → ((t : Ty) → den t → Option (den t)) → Option (den t)
  | .st p, n, x, g => setF p n x g
  | _, _, _, _ => none

def setP : (path : List Nat) → (t : Ty) → den t → ((t : Ty) → den t → Option (den t)) → Option (den t)
  | [], t, x, g => g t x
  | f :: r, t, x, g => setS t f x (fun u y => setP r u y g)

end Ev


namespace Ev
open Go

/-- The shape of a value: all but its data. -/
inductive Sh where
  | d (t : Ty) | osl (id : Nat) | ptr (id off : Nat) | ref (t : Ty) | nilp | fn (f : Nat) (caps : List Sh) | nilf
  | tup (l : List Sh) | agg (l : List Sh) | mp (id : Nat) | nilm | nili | junk | slf (id : Nat) | suf (id : Nat)

inductive OSh where
  | box (cs : List Sh) | vec (t : Ty) | map (k v : Ty) | gone

structure Shape where
  roots : List Sh
  objs : List OSh

mutual
def tyS : Sh → List Ty → List Ty
  | .d t, r => t :: r
  | .ref t, r => t :: r
  | .fn _ l, r => tyL l r
  | .tup l, r => tyL l r
  | .agg l, r => tyL l r
  | .slf _, r => .bool :: r
  | .suf _, r => .int .i64 :: r
  | _, r => r
def tyL : List Sh → List Ty → List Ty
  | [], r => r
  | s :: l, r => tyS s (tyL l r)
end

def tyO : OSh → List Ty → List Ty
  | .box cs, r => tyL cs r
  | .vec t, r => .sl t :: r
  | .map k v, r => .arr 0 (.pair k v) :: r
  | .gone, r => r

def tyOL : List OSh → List Ty → List Ty
  | [], r => r
  | s :: l, r => tyO s (tyOL l r)

def Shape.tys (s : Shape) : List Ty := tyL s.roots (tyOL s.objs [])

abbrev denP : List Ty → Type
  | [] => Unit
  | t :: ts => den t × denP ts

/-! Filling a shape. -/
mutual
def fillS (ρ κ : Nat → Nat) : (s : Sh) → (r : List Ty) → denP (tyS s r) → V × denP r
  | .d t, _, c => (.d t c.1, c.2)
  | .ref t, _, c => (.ref t c.1, c.2)
  | .fn f l, r, c => let p := fillL ρ κ l r c; (.fn f p.1, p.2)
  | .tup l, r, c => let p := fillL ρ κ l r c; (.tup p.1, p.2)
  | .agg l, r, c => let p := fillL ρ κ l r c; (.agg p.1, p.2)
  | .osl id, _, c => (.osl (ρ id) (κ id), c)
  | .ptr id off, _, c => (.ptr (ρ id) off, c)
  | .nilp, _, c => (.nilp, c)
  | .nilf, _, c => (.nilf, c)
  | .mp id, _, c => (.mp (ρ id), c)
  | .nilm, _, c => (.nilm, c)
  | .nili, _, c => (.nili, c)
  | .junk, _, c => (.junk, c)
  | .slf id, _, c => (.slf (ρ id) c.1, c.2)
  | .suf id, _, c => (.suf (ρ id) (κ id) c.1, c.2)
def fillL (ρ κ : Nat → Nat) : (l : List Sh) → (r : List Ty) → denP (tyL l r) → List V × denP r
  | [], _, c => ([], c)
  | s :: l, r, c => let p := fillS ρ κ s (tyL l r) c; let q := fillL ρ κ l r p.2; (p.1 :: q.1, q.2)
end

def fillO (ρ κ : Nat → Nat) (i : Nat) : (s : OSh) → (r : List Ty) → denP (tyO s r) → Obj × denP r
  | .box cs, r, c => let p := fillL ρ κ cs r c; (.box p.1, p.2)
  | .vec t, _, c => (.vec t (κ i) false c.1, c.2)
  | .map k v, _, c => (.map k v c.1, c.2)
  | .gone, _, c => (.dead, c)

def fillOs (ρ κ : Nat → Nat) : Nat → (l : List OSh) → (r : List Ty) → denP (tyOL l r) → List (Nat × Obj)
  | _, [], _, _ => []
  | i, s :: l, r, c => let p := fillO ρ κ i s (tyOL l r) c; (ρ i, p.1) :: fillOs ρ κ (i + 1) l r p.2

def fill (ρ κ : Nat → Nat) (s : Shape) (c : denP s.tys) : List V × List (Nat × Obj) :=
  let p := fillL ρ κ s.roots (tyOL s.objs []) c
  (p.1, fillOs ρ κ 0 s.objs [] p.2)

/-! The shape of a state. -/
abbrev Ren := List Nat
def idx (old : Nat) : Ren → Nat → Option Nat
  | [], _ => none
  | x :: r, i => bif Nat.beq x old then some i else idx old r (i + 1)
def visit (old : Nat) (ren : Ren) : Nat × Ren := match idx old ren 0 with
  | some i => (i, ren)
  | none => (ren.length, ren ++ [old])

mutual
def shV (o : Nat → Obj) : V → Ren → Sh × Ren
  | .d t _, ren => (.d t, ren)
  | .ref t _, ren => (.ref t, ren)
  | .osl id ver, ren => match o id with
    | .vec t ver' fr _ => bif Nat.beq ver ver' then (bif fr then (.d (.sl t), ren) else let p := visit id ren; (.osl p.1, p.2)) else (.junk, ren)
    | _ => (.junk, ren)
  | .pre id ver _ _, ren => match o id with
    | .vec t ver' fr _ => bif Nat.beq ver ver' then (bif fr then (.d (.sl t), ren) else let p := visit id ren; (.osl p.1, p.2)) else (.junk, ren)
    | _ => (.junk, ren)
  | .ptr id off, ren => match o id with
    | .none => (.junk, ren)
    | .dead => (.junk, ren)
    | _ => let p := visit id ren; (.ptr p.1 off, p.2)
  | .nilp, ren => (.nilp, ren)
  | .fn f l, ren => let p := shL o l ren; (.fn f p.1, p.2)
  | .nilf, ren => (.nilf, ren)
  | .tup l, ren => let p := shL o l ren; (.tup p.1, p.2)
  | .agg l, ren => let p := shL o l ren; (.agg p.1, p.2)
  | .mp id, ren => let p := visit id ren; (.mp p.1, p.2)
  | .nilm, ren => (.nilm, ren)
  | .nili, ren => (.nili, ren)
  | .slf id _, ren => match o id with
    | .box _ => let p := visit id ren; (.slf p.1, p.2)
    | _ => (.junk, ren)
  | .suf id ver _, ren => match o id with
    | .vec t ver' fr _ => bif Nat.beq ver ver' then (bif fr then (.d (.sl t), ren) else let p := visit id ren; (.suf p.1, p.2)) else (.junk, ren)
    | _ => (.junk, ren)
  | _, ren => (.junk, ren)
def shL (o : Nat → Obj) : List V → Ren → List Sh × Ren
  | [], ren => ([], ren)
  | v :: l, ren => let p := shV o v ren; let q := shL o l p.2; (p.1 :: q.1, q.2)
end

def shO (o : Nat → Obj) (b : Obj) (ren : Ren) : OSh × Ren := match b with
  | .box cs => let p := shL o cs ren; (.box p.1, p.2)
  | .vec t _ _ _ => (.vec t, ren)
  | .map k v _ => (.map k v, ren)
  | .none => (.gone, ren)
  | .dead => (.gone, ren)

def shOs (o : Nat → Obj) : Nat → Nat → Ren → List OSh
  | 0, _, _ => []
  | n + 1, i, ren => match ren[i]? with
    | some old => let p := shO o (o old) ren; p.1 :: shOs o n (i + 1) p.2
    | none => []

def shapeOf (sk : List Nat) (o : Nat → Obj) (vs : List V) : Shape :=
  let p := shL o vs sk
  ⟨p.1, shOs o 100 0 p.2⟩

/-! Packing a state into a shape. -/
structure PS where
  ren : List (Nat × Nat)
  cut : List (Nat × Nat)
  lent : List Nat
  full : List Nat

def assoc (i : Nat) : List (Nat × Nat) → Option Nat
  | [] => none
  | (a, b) :: r => bif Nat.beq a i then some b else assoc i r
def hasR (j : Nat) : List (Nat × Nat) → Bool
  | [] => false
  | (_, b) :: r => bif Nat.beq b j then true else hasR j r
def hasN (j : Nat) : List Nat → Bool
  | [] => false
  | b :: r => bif Nat.beq b j then true else hasN j r
/-- The id of the shape for one of the state. -/
def rassoc (j : Nat) : List (Nat × Nat) → Option Nat
  | [] => none
  | (a, b) :: r => bif Nat.beq b j then some a else rassoc j r
def isN (n : Nat) : Option Nat → Bool
  | some m => Nat.beq m n
  | none => false
def noN : Option Nat → Bool
  | some _ => false
  | none => true

def tie (i old : Nat) (s : PS) : PS := { s with ren := (i, old) :: s.ren }

/-- Is what was tied one to one, and below a bound? -/
def renOk (k : Nat) (all : List (Nat × Nat)) : List (Nat × Nat) → Bool
  | [] => true
  | (i, old) :: r => Nat.blt i k && isN old (assoc i all) && isN i (rassoc old all) && renOk k all r
def cutOk : List (Nat × Nat) → Bool
  | [] => true
  | (id, _) :: r => noN (assoc id r) && cutOk r
def fullOk (cut : List (Nat × Nat)) : List Nat → Bool
  | [] => true
  | id :: r => noN (assoc id cut) && fullOk cut r
def apartL : List Nat → List (Nat × Nat) → Bool
  | [], _ => true
  | j :: l, ren => bif hasR j ren then false else apartL l ren
def finOk (k : Nat) (ps : PS) : Bool := renOk k ps.ren ps.ren && cutOk ps.cut && fullOk ps.cut ps.full && apartL ps.lent ps.ren

/-! Objects that are kept: a function's own arguments that it may turn, under their own numbers throughout. -/
def keptB (o : Nat → Obj) (id : Nat) : Bool := match o id with
  | .box _ => true
  | .vec _ ver false _ => Nat.beq ver 0
  | .map _ _ _ => true
  | _ => false
def skOk (o : Nat → Obj) : List Nat → Bool
  | [] => true
  | id :: r => keptB o id && skOk o r
def noCut (cut : List (Nat × Nat)) : List Nat → Bool
  | [] => true
  | id :: r => noN (assoc id cut) && noCut cut r
def skRen : Nat → List Nat → List (Nat × Nat)
  | _, [] => []
  | i, id :: r => (i, id) :: skRen (i + 1) r
def skOf (sk : List Nat) (i : Nat) : Nat := match sk[i]? with
  | some j => j
  | none => 1000000 + i
def keepRen : List Nat → List (Nat × Nat)
  | [] => []
  | id :: r => (id, id) :: keepRen r
/-- Numbers of arguments, each once. -/
def keepGood (k : Nat) : List Nat → Bool
  | [] => true
  | id :: r => Nat.blt id k && Nat.blt id 1000000 && !(hasN id r) && keepGood k r

mutual
def lentV (o : Nat → Obj) : V → List Nat
  | .osl id _ => match o id with | .vec _ _ true _ => [] | _ => [id]
  | .pre id _ _ _ => match o id with | .vec _ _ true _ => [] | _ => [id]
  | .suf id _ _ => match o id with | .vec _ _ true _ => [] | _ => [id]
  | .agg l => lentL o l
  | _ => []
def lentL (o : Nat → Obj) : List V → List Nat
  | [] => []
  | v :: l => lentV o v ++ lentL o l
end

/-- The own slices in a box. -/
def lentB (o : Nat → Obj) (id : Nat) : List Nat := match o id with
  | .box cs => lentL o cs
  | _ => []

section
variable (L : Lf)
def boxD (o : Nat → Obj) (t : Ty) (id : Nat) : Option (den t) := match o id with
  | .box cs => match paC L o t cs with
    | some (x, []) => some x
    | _ => none
  | _ => none

/-- What is taken that is no data. -/
abbrev Take := Option (PS × (∀ r, denP r → denP r))
def takeIf (b : Bool) (ps : PS) : Take := match b with
  | true => some (ps, fun _ c => c)
  | false => none
def isNilp : V → Bool
  | .nilp => true
  | _ => false
def isNilf : V → Bool
  | .nilf => true
  | _ => false
def isNilm : V → Bool
  | .nilm => true
  | _ => false
def isNili : V → Bool
  | .nili => true
  | _ => false

def paD (o : Nat → Obj) (t : Ty) (v : V) (ps : PS) : Option (PS × (∀ r, denP r → den t × denP r)) := match asDs L o t v with
  | some x => some ({ ps with lent := lentV o v ++ ps.lent }, fun _ c => (x, c))
  | none => none
def paRef (o : Nat → Obj) (t : Ty) (v : V) (ps : PS) : Option (PS × (∀ r, denP r → den t × denP r)) := match v with
  | .ref t' x => match asTy t t' x with
    | some x => some (ps, fun _ c => (x, c))
    | none => none
  | .ptr id off => bif Nat.beq off 0 then (match boxD L o t id with
    | some x => some ({ ps with lent := id :: (lentB o id ++ ps.lent) }, fun _ c => (x, c))
    | none => none) else none
  | _ => none
def paOwn (o : Nat → Obj) (i : Nat) (v : V) (ps : PS) : Take := match v with
  | .osl id ver => match o id with
    | .vec _ ver' false _ => takeIf (Nat.beq ver ver') { tie i id ps with full := id :: ps.full }
    | _ => none
  | .pre id ver n _ => match o id with
    | .vec _ ver' false _ => takeIf (Nat.beq ver ver') { tie i id ps with cut := (id, n) :: ps.cut }
    | _ => none
  | _ => none
def paPtr (o : Nat → Obj) (i off : Nat) (v : V) (ps : PS) : Take := match v with
  | .ptr id off' => match o id with
    | .box _ => takeIf (Nat.beq off off') (tie i id ps)
    | .vec _ ver' false _ => takeIf (Nat.beq off off' && Nat.beq 0 ver') (tie i id ps)
    | _ => none
  | _ => none
def paMp (o : Nat → Obj) (i : Nat) (v : V) (ps : PS) : Take := match v with
  | .mp id => match o id with
    | .map _ _ _ => some (tie i id ps, fun _ c => c)
    | _ => none
  | _ => none
def paSlf (o : Nat → Obj) (i : Nat) (v : V) (ps : PS) : Option (PS × (∀ r, denP r → den .bool × denP r)) := match v with
  | .slf id b => match o id with
    | .box _ => some (tie i id ps, fun _ c => (b, c))
    | _ => none
  | _ => none
def paSuf (o : Nat → Obj) (i : Nat) (v : V) (ps : PS) : Option (PS × (∀ r, denP r → den (.int .i64) × denP r)) := match v with
  | .suf id ver lo => match o id with
    | .vec _ ver' false _ => bif Nat.beq ver ver' then some ({ tie i id ps with full := id :: ps.full }, fun _ c => ((lo : den (.int .i64)), c)) else none
    | _ => none
  | _ => none
def fnOf (f : Nat) : V → Option (List V)
  | .fn f' l => bif Nat.beq f f' then some l else none
  | _ => none
def tupOf : V → Option (List V)
  | .tup l => some l
  | _ => none
def aggL : V → Option (List V)
  | .agg l => some l
  | _ => none

mutual
def paS (o : Nat → Obj) : (s : Sh) → V → PS → Option (PS × (∀ r, denP r → denP (tyS s r)))
  | .d t, v, ps => paD L o t v ps
  | .ref t, v, ps => paRef L o t v ps
  | .osl i, v, ps => paOwn o i v ps
  | .ptr i off, v, ps => paPtr o i off v ps
  | .nilp, v, ps => takeIf (isNilp v) ps
  | .fn f l, v, ps => match fnOf f v with
    | some l' => paL o l l' ps
    | none => none
  | .nilf, v, ps => takeIf (isNilf v) ps
  | .tup l, v, ps => match tupOf v with
    | some l' => paL o l l' ps
    | none => none
  | .agg l, v, ps => match aggL v with
    | some l' => paL o l l' ps
    | none => none
  | .mp i, v, ps => paMp o i v ps
  | .nilm, v, ps => takeIf (isNilm v) ps
  | .nili, v, ps => takeIf (isNili v) ps
  | .junk, _, ps => takeIf true ps
  | .slf i, v, ps => paSlf o i v ps
  | .suf i, v, ps => paSuf o i v ps
def paL (o : Nat → Obj) : (l : List Sh) → List V → PS → Option (PS × (∀ r, denP r → denP (tyL l r)))
  | [], vs, ps => takeIf vs.isEmpty ps
  | s :: l, vs, ps => match vs with
    | v :: vs => match paS o s v ps with
      | some (ps, f) => match paL o l vs ps with
        | some (ps, g) => some (ps, fun r c => f _ (g r c))
        | none => none
      | none => none
    | [] => none
end

def paO (o : Nat → Obj) (old : Nat) : (s : OSh) → PS → Option (PS × (∀ r, denP r → denP (tyO s r)))
  | .box l, ps => match o old with
    | .box cs => paL L o l cs ps
    | _ => none
  | .vec t, ps => match o old with
    | .vec t' _ false s => match asTy (.sl t) (.sl t') s with
      | some s => match assoc old ps.cut with
        | some n => some (ps, fun _ c => ((⟨s.nil, L.takeL s.l n⟩ : Sl (den t)), c))
        | none => some ({ ps with full := old :: ps.full }, fun _ c => (s, c))
      | none => none
    | _ => none
  | .map k v, ps => match o old with
    | .map k' v' m => match asTy (.arr 0 (.pair k v)) (.arr 0 (.pair k' v')) m with
      | some m => some (ps, fun _ c => (m, c))
      | none => none
    | _ => none
  | .gone, ps => some (ps, fun _ c => c)

def paOs (o : Nat → Obj) : Nat → (l : List OSh) → PS → Option (PS × (∀ r, denP r → denP (tyOL l r)))
  | _, [], ps => some (ps, fun _ c => c)
  | i, .gone :: l, ps => match paOs o (i + 1) l ps with
      | some (ps, g) => some (ps, fun r c => g r c)
      | none => none
  | i, s :: l, ps => match assoc i ps.ren with
    | some old => match paO L o old s ps with
      | some (ps, f) => match paOs o (i + 1) l ps with
        | some (ps, g) => some (ps, fun r c => f _ (g r c))
        | none => none
      | none => none
    | none => none

/-- Values as contents of a shape; 'ren' to begin with: what must be where. -/
def pack (o : Nat → Obj) (ren : List (Nat × Nat)) (s : Shape) (vs : List V) : Option (PS × denP s.tys) :=
  match paL L o s.roots vs ⟨ren, [], [], []⟩ with
  | some (ps, f) => match paOs L o 0 s.objs ps with
    | some (ps, g) => bif finOk s.objs.length ps then some (ps, f _ (g [] ())) else none
    | none => none
  | none => none

/-- The same, with what is kept. -/
def packK (sk : List Nat) (ren : List (Nat × Nat)) (o : Nat → Obj) (s : Shape) (vs : List V) : Option (PS × denP s.tys) :=
  match pack L o ren s vs with
  | some p => bif skOk o sk && noCut p.1.cut sk then some p else none
  | none => none

end
end Ev


namespace Ev
open Go

/-- A step's outcome: what is reckoned when it runs, and what it is then worth. -/
inductive Pk : Type 1 where
  | fail
  | nowU (v : V) (u : List (Nat × Obj))
  | dyn (α : Type) (x : Option α) (out : α → V × List (Nat × Obj))

def Pk.now (v : V) (u : List (Nat × Obj) := []) : Pk := .nowU v u
def Pk.dynD {t : Ty} (x : Option (den t)) : Pk := .dyn (den t) x (fun y => (.d t y, []))
def Pk.when (b : Bool) (p : Pk) : Pk := match b with | true => p | false => .fail

section
variable (L : Lf)
def eqD : (t : Ty) → den t → den t → Bool
  | .int _, a, b => L.eqI a b
  | .bool, a, b => L.eqB a b
  | .str, a, b => L.eqS a b
  | .unit, _, _ => true
  | .pair s t, a, b => L.andB (eqD s a.1 b.1) (eqD t a.2 b.2)
  | .st p, a, b => eqD p a b
  | _, _, _ => false
end

def comparable : Ty → Bool
  | .int _ => true | .bool => true | .str => true | .unit => true
  | .pair a b => comparable a && comparable b
  | .st p => comparable p
  | _ => false

/-- A key of a map. -/
def keyOk : Ty → Bool
  | .int _ => true | .bool => true | .str => true | _ => false

/-- 'keep': the objects among the arguments that are there behind the call, too. -/
structure Sig where
  f : Nat
  ins : Shape
  outs : Shape
  keep : List Nat

structure Cx where
  P : Program
  sigs : List Sig
  glob : Nat → Option ((t : Ty) × den t)
  tab : List (Nat × Ty)
  eqs : List Nat
  bld : Nat

def tyIn : List (Nat × Ty) → Nat → Option Ty
  | [], _ => none
  | (a, T) :: r, t => bif Nat.beq a t then some T else tyIn r t

/-- The type of data that a type of the program is. -/
def Cx.ty (C : Cx) (t : TypeId) : Option Ty := tyIn C.tab t

def kindN : IntKind → Nat
  | .i8 => 0 | .i16 => 1 | .i32 => 2 | .i64 => 3 | .u8 => 4 | .u16 => 5 | .u32 => 6 | .u64 => 7

def tyB : Ty → Ty → Bool
  | .int k, .int k' => Nat.beq (kindN k) (kindN k')
  | .bool, .bool => true
  | .str, .str => true
  | .sl a, .sl b => tyB a b
  | .unit, .unit => true
  | .pair a b, .pair c d => tyB a c && tyB b d
  | .st a, .st b => tyB a b
  | .arr n a, .arr m b => Nat.beq n m && tyB a b
  | _, _ => false

def isTy (T : Ty) : Option Ty → Bool
  | some T' => tyB T' T
  | none => false

def Cx.is (C : Cx) (t : TypeId) (T : Ty) : Bool := isTy T (C.ty t)

/-- Is a type one of several cells, and of how many? -/
def kindOf (P : Program) (t : TypeId) : Option (Bool × Nat) := match P.types.toList[t]? with
  | none => none
  | some i => match desc P t with
    | some (.struct _) => some (true, i.size)
    | some (.array ..) => some (true, i.size)
    | some _ => some (false, i.size)
    | none => none

def scal : Ty → Bool
  | .int _ => true | .bool => true | .str => true | .sl _ => true | _ => false

/-- A value that is surely that of one cell. -/
def solid (o : Nat → Obj) : V → Bool
  | .d t _ => scal t
  | .osl id ver => match o id with | .vec _ ver' _ _ => Nat.beq ver ver' | _ => false
  | .pre id ver _ _ => match o id with | .vec _ ver' _ _ => Nat.beq ver ver' | _ => false
  | .ptr id _ => match o id with | .box _ => true | .vec _ ver' _ _ => Nat.beq 0 ver' | _ => false
  | .eptr id ver _ _ => match o id with | .vec _ ver' _ _ => Nat.beq ver ver' | _ => false
  | .ref _ _ => true
  | .nilp => true
  | .fn _ _ => true
  | .nilf => true
  | .mp id => match o id with | .map .. => true | _ => false
  | .nilm => true
  | .nili => true
  | .nils => true
  | .slf id _ => match o id with | .box _ => true | _ => false
  | .suf id ver _ => match o id with | .vec _ ver' _ _ => Nat.beq ver ver' | _ => false
  | _ => false

/-- Cells that begin with a pointer to themselves. -/
def isSlf : List V → Bool
  | .slf _ _ :: _ => true
  | _ => false
/-- No array of bytes: a row of bytes is made as such. -/
def noBytes : Ty → Bool
  | .int .u8 => false
  | _ => true

def solids (o : Nat → Obj) : List V → Bool
  | [] => true
  | v :: r => solid o v && solids o r

/-- The cells of a value, each of one. -/
def cellsOk (o : Nat → Obj) : V → Option (List V)
  | .d (.st p) x => bif solids o (unC p x) then some (unC p x) else none
  | .agg cs => bif solids o cs then some cs else none
  | v => bif solid o v then some [v] else none

def tyF? : Ty → Nat → Option Ty
  | .pair a _, 0 => some a
  | .pair _ b, n + 1 => tyF? b n
  | .unit, _ => none
  | t, 0 => some t
  | _, _ + 1 => none

def tyPath : List Nat → Ty → Option Ty
  | [], t => some t
  | f :: r, .st p => match tyF? p f with
    | some u => tyPath r u
    | none => none
  | _ :: _, _ => none

def sigAt : List Sig → Nat → Sig
  | [], _ => ⟨0, ⟨[], []⟩, ⟨[], []⟩, []⟩
  | s :: _, 0 => s
  | _ :: r, n + 1 => sigAt r n

abbrev Oracle (sg : List Sig) := (i : Nat) → denP (sigAt sg i).ins.tys → Option (denP (sigAt sg i).outs.tys)

section
variable (L : Lf) (C : Cx)

def inKb (k : IntKind) (n : Int) : Bool := decide (k.min ≤ n) && decide (n ≤ k.max)

def cst : Value → V
  | .bool b => .d .bool b
  | .int k n => bif inKb k n then .d (.int k) n else .junk
  | .string s => bif Nat.ble s.size 1000000 then .d .str (s.data.toList.map fun b => (b.toNat : Int)) else .junk
  | .pointer none => .nilp
  | .map none => .nilm
  | .nilFunc => .nilf
  | .nilIface => .nili
  | .slice none 0 0 => .nils
  | _ => .junk

def opd (env : Nat → V) : Operand → V
  | .tmp t => unlb (env t)
  | .const v => cst v
  | .global g => match C.glob g with
    | some ⟨t, x⟩ => .ref t x
    | none => .junk
  | .func f => .fn f []

/-- The same, but that a known truth is told. -/
def opdL (env : Nat → V) : Operand → V
  | .tmp t => env t
  | x => opd C env x

/-- The ids that are lent, as no one's to write. -/
def frz (o : Nat → Obj) : List Nat → List (Nat × Obj)
  | [] => []
  | id :: r => match o id with
    | .vec t ver _ s => (id, .vec t ver true s) :: frz o r
    | _ => frz o r

def notIn (id : Nat) : List Nat → Bool
  | [] => true
  | b :: r => bif Nat.beq b id then false else notIn id r

/-- What an own slice holds. -/
def ownOf (o : Nat → Obj) : V → Option ((t : Ty) × Sl (den t))
  | .osl id ver => match o id with
    | .vec t ver' _ s => bif Nat.beq ver ver' then some ⟨t, s⟩ else none
    | _ => none
  | .pre id ver n _ => match o id with
    | .vec t ver' _ s => bif Nat.beq ver ver' then some ⟨t, ⟨s.nil, L.takeL s.l n⟩⟩ else none
    | _ => none
  | .suf id ver lo => match o id with
    | .vec t ver' _ s => bif Nat.beq ver ver' then some ⟨t, ⟨s.nil, L.dropL s.l lo⟩⟩ else none
    | _ => none
  | _ => none

def asInt : V → Option ((_ : IntKind) × Int)
  | .d (.int k) n => some ⟨k, n⟩
  | _ => none

/-- The type of a slice's elements. -/
def elemTy (t : TypeId) : Option Ty := match desc C.P t with
  | some (.slice e) => C.ty e
  | _ => none
def arrTy (t : TypeId) : Option (Nat × Ty) := match desc C.P t with
  | some (.array n e) => match C.ty e with
    | some e => some (n, e)
    | none => none
  | _ => none

def hasNils : List V → Bool
  | [] => false
  | .nils :: _ => true
  | _ :: r => hasNils r

/-- All cells of a value as data of a struct type, or as they are. -/
def aggOf (o : Nat → Obj) (t : TypeId) (cs : List V) : V :=
  match C.ty t with
  | some (.st p) => match lentL o cs, hasNils cs with
    | [], false => match paC L o p cs with
      | some (x, []) => .d (.st p) x
      | _ => .agg cs
    | _, _ => .agg cs
  | _ => .agg cs

def setAt (l : List V) (i : Nat) (cs : List V) : List V := l.take i ++ cs ++ l.drop (i + cs.length)

def loadPk (o : Nat → Obj) (t : TypeId) : V → Pk
  | .ref t' x => .when (C.is t t') (.now (.d t' x))
  | .ptr id off => match o id with
    | .box cs => match kindOf C.P t with
      | some (true, n) => .when (Nat.ble (off + n) cs.length) (.now (aggOf L C o t ((cs.drop off).take n)))
      | some (false, _) => match cs[off]? with
        | some v => .now v
        | none => .fail
      | none => .fail
    | _ => .fail
  | .eptr id ver i path => match o id with
    | .vec e ver' _ s => match tyPath path e with
      | some t' => .when (Nat.beq ver ver' && C.is t t') (.dyn (den e) (L.nth s.l i) (fun x => match projP path e x with
          | some ⟨t, y⟩ => (.d t y, [])
          | none => (.junk, [])))
      | none => .fail
    | _ => .fail
  | _ => .fail

def storePk (o : Nat → Obj) (t : TypeId) (a v : V) : Pk :=
  match a with
  | .ptr id off => match o id with
    | .box cs => match cellsOk o v with
      | some vs => match kindOf C.P t with
        | some (_, n) => .when (Nat.beq vs.length n && Nat.ble (off + n) cs.length && !isSlf vs) (.now .undef [(id, .box (setAt cs off vs))])
        | none => .fail
      | none => .fail
    | _ => .fail
  | .eptr id ver i path => match o id with
    | .vec e ver' false s => match tyPath path e with
      | some t' => .when (Nat.beq ver ver' && C.is t t' && notIn id (lentV o v))
        (.dyn (den e) (L.bnd (L.nth s.l i) fun x => setP path e x (fun u _ => asDs L o u v)) (fun y => (.undef, frz o (lentV o v) ++ [(id, .vec e ver' false ⟨s.nil, L.setL s.l i y⟩)])))
      | none => .fail
    | _ => .fail
  | _ => .fail

def intPk (op : BinOp) (k : IntKind) (a b : Int) : Pk :=
  match op with
  | .add => .now (.d (.int k) (L.addI k a b))
  | .sub => .now (.d (.int k) (L.subI k a b))
  | .mul => .now (.d (.int k) (L.mulI k a b))
  | .quo => .dynD (t := .int k) (L.quoI k a b)
  | .rem => .dynD (t := .int k) (L.remI a b)
  | .and => .now (.d (.int k) (L.andI k a b))
  | .or => .now (.d (.int k) (L.orI k a b))
  | .xor => .now (.d (.int k) (L.xorI k a b))
  | .andNot => .now (.d (.int k) (L.andNotI k a b))
  | .eql => .now (.d .bool (L.eqI a b))
  | .neq => .now (.d .bool (L.notB (L.eqI a b)))
  | .lss => .now (.d .bool (L.ltI a b))
  | .leq => .now (.d .bool (L.leI a b))
  | .gtr => .now (.d .bool (L.ltI b a))
  | .geq => .now (.d .bool (L.leI b a))
  | _ => .fail

def strPk (op : BinOp) (a b : List Int) : Pk :=
  match op with
  | .add => .dyn Unit (L.fit (L.sumI (L.lenI a) (L.lenI b))) (fun _ => (.d .str (L.catS a b), []))
  | .eql => .now (.d .bool (L.eqS a b))
  | .neq => .now (.d .bool (L.notB (L.eqS a b)))
  | .lss => .now (.d .bool (L.strLt a b))
  | .gtr => .now (.d .bool (L.notB (L.notB (L.andB (L.notB (L.strLt a b)) (L.notB (L.eqS a b))))))
  | .leq => .now (.d .bool (L.notB (L.andB (L.notB (L.strLt a b)) (L.notB (L.eqS a b)))))
  | .geq => .now (.d .bool (L.notB (L.strLt a b)))
  | _ => .fail

/-- A truth, or its contrary. -/
def eqPk (op : BinOp) (b : Bool) : Pk :=
  match op with
  | .eql => .now (.d .bool b)
  | .neq => .now (.d .bool (L.notB b))
  | _ => .fail

/-- What kind of type is compared: 0 bool, 1 slice, 2 func, 3 pointer, 4 map. -/
def eqKind (t : TypeId) : Nat := match desc C.P t with
  | some .bool => 0
  | some (.slice _) => 1
  | some (.func ..) => 2
  | some (.pointer _) => 3
  | some (.map ..) => 4
  | _ => 5

/-- Is a value surely a pointer that is not nil? -/
def sure (o : Nat → Obj) : V → Bool
  | .ptr id _ => match o id with | .box _ => true | .vec _ ver' _ _ => Nat.beq 0 ver' | _ => false
  | .ref _ _ => true
  | _ => false

def binPk (o : Nat → Obj) (op : BinOp) (t : TypeId) (x y : V) : Pk :=
  match x, y with
  | .d (.int k) a, .d (.int k') b => match op with
    | .shl => .dynD (t := .int k) (L.shlI k a b)
    | .shr => .dynD (t := .int k) (L.shrI k a b)
    | op => match decEq k k' with
      | isTrue _ => intPk L op k a b
      | isFalse _ => .fail
  | .d .str a, .d .str b => strPk L op a b
  | .d .bool a, .d .bool b => .when (Nat.beq (eqKind C t) 0) (eqPk L op (L.eqB a b))
  | .d (.st p) a, .d (.st p') b => match asTy p p' b with
    | some b => .when (hasN t C.eqs && C.is t (.st p)) (eqPk L op (eqD L p a b))
    | none => .fail
  | .d (.sl _) s, .nils => .when (Nat.beq (eqKind C t) 1) (eqPk L op (Sl.nil s))
  | .nils, .nils => .when (Nat.beq (eqKind C t) 1) (eqPk L op true)
  | .fn _ _, .nilf => .when (Nat.beq (eqKind C t) 2) (eqPk L op false)
  | .nilf, .nilf => .when (Nat.beq (eqKind C t) 2) (eqPk L op true)
  | .nilp, .nilp => .when (Nat.beq (eqKind C t) 3) (eqPk L op true)
  | v, .nilp => .when (Nat.beq (eqKind C t) 3 && sure o v) (eqPk L op false)
  | v, .nils => match ownOf L o v with
    | some ⟨_, s⟩ => .when (Nat.beq (eqKind C t) 1) (eqPk L op s.nil)
    | none => .fail
  | _, _ => .fail

def lenPk (o : Nat → Obj) (t : TypeId) (x : V) : Pk :=
  match desc C.P t with
  | some .string => match x with
    | .d .str l => .now (.d (.int .i64) (L.lenI (α := Int) l))
    | _ => .fail
  | some (.slice _) => match x with
    | .d (.sl _) s => .now (.d (.int .i64) (L.lenI s.l))
    | .nils => .now (.d (.int .i64) (0 : Int))
    | v => match ownOf L o v with
      | some ⟨_, s⟩ => .now (.d (.int .i64) (L.lenI s.l))
      | none => .fail
  | some (.map ..) => match x with
    | .mp id => match o id with
      | .map _ _ _ => .fail
      | _ => .fail
    | .nilm => .now (.d (.int .i64) (0 : Int))
    | _ => .fail
  | some (.array n _) => .when (Nat.ble n 1000000) (.now (.d (.int .i64) ((n : Nat) : Int)))
  | _ => .fail

/-- The elements of what is appended. -/
def moreOf (o : Nat → Obj) (e : Ty) : V → Option (List (den e))
  | .d .str l => asTy (.arr 0 e) (.arr 0 (.int .u8)) l
  | v => match asD L o (.sl e) v with
    | some s => some s.l
    | none => none

def catPk (id ver : Nat) (e : Ty) (nil : Bool) (l m : List (den e)) : Pk :=
  .dyn Unit (L.fit (L.sumI (L.lenI l) (L.lenI m))) (fun _ => (.osl id ver, [(id, .vec e ver false ⟨L.andB nil (L.isE m), L.app l m⟩)]))

/-- Is what is appended a slice or a string? -/
def moreIs (t : TypeId) : Bool := match desc C.P t with | some (.slice _) => true | some .string => true | _ => false

def appendPk (o : Nat → Obj) (fresh : Nat) (t u : TypeId) (x y : V) : Pk :=
  match elemTy C t with
  | none => .fail
  | some e => match moreOf L o e y with
    | none => .fail
    | some m => .when (moreIs C u && Nat.blt 0 (csz e)) (match x with
      | .nils => catPk L fresh 0 e true [] m
      | .osl id ver => match o id with
        | .vec e' ver' false s => match asTy (.sl e) (.sl e') s with
          | some s => .when (Nat.beq ver ver') (catPk L id (ver + 1) e s.nil s.l m)
          | none => .fail
        | _ => .fail
      | .pre id ver n cp => match o id with
        | .vec e' ver' fr s => match asTy (.sl e) (.sl e') s with
          | some s => .when (Nat.beq ver ver') (match cp, fr with
            | false, false => catPk L id (ver + 1) e s.nil (L.takeL s.l n) m
            | true, _ => .dyn Unit (L.bnd (L.fit (L.sumI (L.lenI (L.takeL s.l n)) (L.lenI m))) fun _ => L.cnd (L.isE m) none (some ())) (fun _ => (.osl fresh 0, [(fresh, .vec e 0 false ⟨false, L.app (L.takeL s.l n) m⟩)]))
            | _, _ => .fail)
          | none => .fail
        | _ => .fail
      | _ => .fail)

def bd (d : Int) (h : Option V) : Option Int := match h with
  | none => some d
  | some v => match asInt v with
    | some ⟨_, n⟩ => some n
    | none => none

/-- 0 string, 1 slice, 2 array. -/
def sliceKind (t : TypeId) : Nat := match desc C.P t with
  | some .string => 0
  | some (.slice _) => 1
  | some (.array ..) => 2
  | _ => 3

def slicePk (o : Nat → Obj) (fresh : Nat) (t : TypeId) (x : V) (lo hi mx : Option V) : Pk :=
  match x, mx with
  | .d .str l, none => match bd 0 lo, bd (L.lenI (α := Int) l) hi with
    | some a, some b => .when (Nat.beq (sliceKind C t) 0) (.dyn (List Int) (L.cutL l a b) (fun m => (.d .str m, [])))
    | _, _ => .fail
  | .d (.sl e) s, none => match bd 0 lo, bd (L.lenI s.l) hi with
    | some a, some b => .when (isTy e (elemTy C t)) (.dyn (List (den e)) (L.cutL s.l a b) (fun m => (.d (.sl e) (⟨s.nil, m⟩ : Sl (den e)), [])))
    | _, _ => .fail
  | .d (.sl e) s, some _ => match lo, bd 1 hi, bd 1 mx with
    | none, some b, some c => .when (isTy e (elemTy C t) && noBytes e) (.dyn Unit (L.cnd (L.eqI b 0) (L.cnd (L.eqI c 0) (some ()) none) none) (fun _ => (.osl fresh 0, [(fresh, .vec e 0 false ⟨s.nil, []⟩)])))
    | _, _, _ => .fail
  | .osl id ver, some _ => match o id with
    | .vec e ver' _ s => .when (Nat.beq ver ver' && isTy e (elemTy C t)) (match lo, bd (-1) hi, bd (-1) mx with
        | none, some b, some c => .dyn Nat (L.bnd (L.cutN (L.lenI s.l) b) fun p => L.cnd (L.eqI b c) (some p) none) (fun p => (.pre id ver p true, []))
        | _, _, _ => .fail)
    | _ => .fail
  | .osl id ver, none => match o id with
    | .vec e ver' _ s => .when (Nat.beq ver ver' && isTy e (elemTy C t)) (match lo with
        | none => match bd (L.lenI s.l) hi with
          | some b => .dyn Nat (L.cutN (L.lenI s.l) b) (fun p => (.pre id ver p false, []))
          | none => .fail
        | some lo' => match hi with
          | none => (match bd 0 (some lo') with
            | some a => .dyn Nat (L.cutN (L.lenI s.l) a) (fun _ => (.suf id ver a, []))
            | none => .fail)
          | some _ => match bd 0 lo, bd (L.lenI s.l) hi with
          | some a, some b => .dyn (List (den e)) (L.cutL s.l a b) (fun m => (.d (.sl e) (⟨s.nil, m⟩ : Sl (den e)), [(id, .vec e ver' true s)]))
          | _, _ => .fail)
    | _ => .fail
  | _, _ => .fail

def indexAddrPk (o : Nat → Obj) (t : TypeId) (x i : V) : Pk :=
  match asInt i with
  | none => .fail
  | some ⟨_, n⟩ => match x with
    | .d (.sl e) s => .when (isTy e (elemTy C t)) (.dyn (den e) (L.at? s.l n) (fun y => (.ref e y, [])))
    | .ref (.arr m e) l => match arrTy C t with
      | some (m', e') => .when (Nat.beq m m' && isTy e (some e')) (.dyn (den e) (L.at? l n) (fun y => (.ref e y, [])))
      | none => .fail
    | .osl id ver => match o id with
      | .vec e ver' _ s => .when (Nat.beq ver ver' && isTy e (elemTy C t)) (.dyn Nat (L.okAt s.l n) (fun j => (.eptr id ver j [], [])))
      | _ => .fail
    | .pre id ver k _ => match o id with
      | .vec e ver' _ s => .when (Nat.beq ver ver' && isTy e (elemTy C t)) (.dyn Nat (L.okAt (L.takeL s.l k) n) (fun j => (.eptr id ver j [], [])))
      | _ => .fail
    | .suf id ver lo => match o id with
      | .vec e ver' _ s => .when (Nat.beq ver ver' && isTy e (elemTy C t)) (.dyn Nat (L.cnd (L.leI 0 n) (L.okAt s.l (L.sumI lo n)) none) (fun j => (.eptr id ver j [], [])))
      | _ => .fail
    | .ptr id 0 => match o id with
      | .vec e 0 _ s => match arrTy C t with
        | some (m, e') => .when (isTy e (some e')) (.dyn Nat (L.bnd (L.cutN ((m : Nat) : Int) (L.sumI n 1)) fun _ => L.okAt s.l n) (fun j => (.eptr id 0 j [], [])))
        | none => .fail
      | _ => .fail
    | _ => .fail

def indexPk (t : TypeId) (x i : V) : Pk :=
  match asInt i with
  | none => .fail
  | some ⟨_, n⟩ => match x with
    | .d .str l => .when (Nat.beq (sliceKind C t) 0) (.dynD (t := .int .u8) (L.at? (α := Int) l n))
    | .d (.arr m e) l => match arrTy C t with
      | some (m', e') => .when (Nat.beq m m' && isTy e (some e')) (.dynD (t := e) (L.at? l n))
      | none => .fail
    | _ => .fail

def fieldAddrPk (o : Nat → Obj) (t : TypeId) (x : V) (f : Nat) : Pk :=
  match fieldOf C.P t f with
  | none => .fail
  | some fd => match kindOf C.P fd.type with
    | some (_, sz) => .when (Nat.blt 0 sz) (match x with
      | .ptr id off => match o id with
        | .box _ => .now (.ptr id (off + fd.offset))
        | _ => .fail
      | .ref t' y => .when (C.is t t') (match projS t' f y with
        | some ⟨u, z⟩ => .now (.ref u z)
        | none => .fail)
      | .eptr id ver i path => match o id with
        | .vec e ver' _ _ => match tyPath path e with
          | some t' => match t' with
            | .st p => match tyF? p f with
              | some _ => .when (Nat.beq ver ver' && C.is t t') (.now (.eptr id ver i (path ++ [f])))
              | none => .fail
            | _ => .fail
          | none => .fail
        | _ => .fail
      | _ => .fail)
    | none => .fail

def fieldPk (t : TypeId) (x : V) (f : Nat) : Pk :=
  match x with
  | .d t' y => .when (C.is t t') (match projS t' f y with
    | some ⟨u, z⟩ => .now (.d u z)
    | none => .fail)
  | .agg cs => match fieldOf C.P t f with
    | some fd => match kindOf C.P fd.type with
      | some (true, n) => .when (Nat.ble (fd.offset + n) cs.length) (.now (.agg ((cs.drop fd.offset).take n)))
      | some (false, _) => match cs[fd.offset]? with
        | some v => .now v
        | none => .fail
      | none => .fail
    | none => .fail
  | _ => .fail

def isU8 (e : TypeId) : Bool := match desc C.P e with | some (.int .u8) => true | _ => false

def convertPk (o : Nat → Obj) (fresh : Nat) (s t : TypeId) (x : V) : Pk :=
  match desc C.P s with
  | none => .fail
  | some ds => match desc C.P t with
    | some (.int k) => match x with
      | .d (.int _) n => .now (.d (.int k) (L.cvI k n))
      | _ => .fail
    | some .string => match x with
      | .d .str l => .now (.d .str l)
      | v => match ds with
        | .slice e => .when (isU8 C e && Nat.blt 0 1) (match asD L o (.sl (.int .u8)) v with
          | some s => .now (.d .str (Sl.l s))
          | none => .fail)
        | _ => .fail
    | some (.slice e) => match x with
      | .d .str l => match ds with
        | .string => .when (isU8 C e) (.dyn Unit (L.fit (L.lenI l)) (fun _ => (.osl fresh 0, [(fresh, .vec (.int .u8) 0 false ⟨false, l⟩)])))
        | _ => .fail
      | .osl id ver => match ds with
        | .slice _ => match o id with
          | .vec (.int .u8) ver' false b => .when (isU8 C e && Nat.beq s t && Nat.beq ver ver') (.dyn Unit (L.cnd b.nil none (some ())) (fun _ => (.osl id ver, [(id, .vec (.int .u8) ver false b)])))
          | _ => .fail
        | _ => .fail
      | _ => .fail
    | _ => .fail

/-- The cells of a type's zero value. -/
def zeroC (t : TypeId) : Option (List V) := match C.P.types.toList[t]? with
  | some i => match i.zero with
    | some z => some (z.cells.toList.map cst)
    | none => none
  | none => none

def buildGo (o : Nat → Obj) (fs : List Field) : List (Nat × V) → List V → Option (List V)
  | [], cs => some cs
  | p :: r, cs => match fs[p.1]?, cellsOk o p.2 with
    | some fd, some vs => match kindOf C.P fd.type with
      | some (_, n) => bif Nat.beq vs.length n && Nat.ble (fd.offset + n) cs.length then buildGo o fs r (setAt cs fd.offset vs) else none
      | none => none
    | _, _ => none

def elemsGo (o : Nat → Obj) (e : Ty) : List (Nat × V) → List (den e) → Option (List (den e))
  | [], l => some l
  | p :: r, l => match asDs L o e p.2 with
    | some x => bif Nat.blt p.1 l.length then elemsGo o e r (l.set p.1 x) else none
    | none => none

def lentP (o : Nat → Obj) : List (Nat × V) → List Nat
  | [] => []
  | p :: r => lentV o p.2 ++ lentP o r

def kindsOk (P : Program) : List Field → Bool
  | [] => true
  | f :: r => match kindOf P f.type with
    | some _ => kindsOk P r
    | none => false

def buildPk (o : Nat → Obj) (t : TypeId) (parts : List (Nat × V)) : Pk :=
  match desc C.P t with
  | some (.struct fs) => .when (kindsOk C.P fs.toList) (match zeroC C t with
    | some z => match buildGo C o fs.toList parts z with
      | some cs => .now (aggOf L C o t cs)
      | none => .fail
    | none => .fail)
  | some (.array n _) => match C.ty t with
    | some (.arr n' e) => .when (Nat.beq n n') (match elemsGo L o e parts (List.replicate n (zero e)) with
      | some l => .now (.d (.arr n' e) l) (frz o (lentP o parts))
      | none => .fail)
    | _ => .fail
  | _ => .fail

def buildSlicePk (o : Nat → Obj) (fresh : Nat) (t : TypeId) (n : Nat) (parts : List (Nat × V)) : Pk :=
  match elemTy C t with
  | some e => .when (Nat.ble (n * csz e) 16777216 && Nat.blt 0 (csz e)) (match elemsGo L o e parts (List.replicate n (zero e)) with
    | some l => .now (.osl fresh 0) (frz o (lentP o parts) ++ [(fresh, .vec e 0 false ⟨false, l⟩)])
    | none => .fail)
  | none => .fail

/-- Which of a type's cells are slices, and of what. -/
def slotsC : Nat → TypeId → List (Option Ty)
  | 0, _ => []
  | n + 1, t => match desc C.P t with
    | some (.struct fs) => (fs.toList.map fun f => slotsC n f.type).flatten
    | some (.slice e) => [C.ty e]
    | some (.array ..) => match kindOf C.P t with
      | some (_, k) => List.replicate k none
      | none => []
    | _ => [none]

/-- Nil slices, each as its own. -/
def ownNils (i : Nat) : List V → List (Option Ty) → List V × List (Nat × Obj)
  | .nils :: r, some e :: s => let p := ownNils (i + 1) r s; (.osl i 0 :: p.1, (i, .vec e 0 false ⟨true, []⟩) :: p.2)
  | v :: r, _ :: s => let p := ownNils i r s; (v :: p.1, p.2)
  | l, [] => (l, [])
  | [], _ => ([], [])

def countNils : List V → Nat
  | [] => 0
  | .nils :: r => countNils r + 1
  | _ :: r => countNils r

def newBox (fresh : Nat) (t : TypeId) (cs : List V) : Pk :=
  let p := bif Nat.ble (countNils cs) 14 then ownNils (fresh + 1) cs (slotsC C 8 t) else (cs, [])
  .when (!isSlf p.1) (.now (.ptr fresh 0) ((fresh, .box p.1) :: p.2))

/-- A strings.Builder: a pointer to itself, or none yet, and its bytes. -/
def newBld (fresh : Nat) : List V → Pk
  | [.nilp, .nils] => .now (.ptr fresh 0) [(fresh, .box [.slf fresh false, .osl (fresh + 1) 0]), (fresh + 1, .vec (.int .u8) 0 false ⟨true, []⟩)]
  | _ => .fail

/-- A value of no parts: its nil slices are its own. -/
def ownAgg (fresh : Nat) (t : TypeId) (b : Bool) : Pk → Pk
  | .nowU (.agg cs) [] => bif b && hasNils cs && Nat.ble (countNils cs) 15 then .now (.agg (ownNils fresh cs (slotsC C 8 t)).1) (ownNils fresh cs (slotsC C 8 t)).2 else .now (.agg cs)
  | p => p

def allocPk (fresh : Nat) (t : TypeId) : Pk :=
  match C.ty t with
  | some (.arr n e) => .when (Nat.blt 0 (csz e) && Nat.ble n 1000000 && noBytes e) (.now (.ptr fresh 0) [(fresh, .vec e 0 false ⟨false, List.replicate n (zero e)⟩)])
  | _ => match zeroC C t with
    | some cs => bif Nat.beq t C.bld then newBld fresh cs else newBox C fresh t cs
    | none => .fail

def boxPk (o : Nat → Obj) (fresh : Nat) (t : TypeId) (v : V) : Pk :=
  match v with
  | .d (.arr n e) l => .when (Nat.blt 0 (csz e) && Nat.ble n 1000000 && noBytes e) (.now (.ptr fresh 0) [(fresh, .vec e 0 false ⟨false, l⟩)])
  | v => match cellsOk o v with
    | some cs => newBox C fresh t cs
    | none => .fail

def movePk (fresh : Nat) (t : TypeId) (v : V) : Pk :=
  match v with
  | .nils => match elemTy C t with
    | some e => .now (.osl fresh 0) [(fresh, .vec e 0 false ⟨true, []⟩)]
    | none => .now .nils
  | v => .now v

def pickV (x : Bool) (a b : V) : V :=
  match a, b with
  | .d t a', .d t' b' => match asTy t t' b' with
    | some b' => .d t (L.sel x a' b')
    | none => bif x then a else b
  | _, _ => bif x then a else b

def mapTys (t : TypeId) : Option (Ty × Ty) := match desc C.P t with
  | some (.map k v) => match C.ty k, C.ty v with
    | some k, some v => some (k, v)
    | _, _ => none
  | _ => none

def mapIs (t : TypeId) (tk tv : Ty) : Bool := match mapTys C t with
  | some (k, v) => isTy tk (some k) && isTy tv (some v) && keyOk tk
  | none => false

def lookupPk (o : Nat → Obj) (t : TypeId) (m k : V) (ok : Bool) : Pk :=
  match m with
  | .mp id => match o id with
    | .map tk tv m => match asDs L o tk k with
      | some k => .when (mapIs C t tk tv) (.now (bif ok then .tup [.d tv (L.mgetD (eqD L tk) k m (zero tv)), .d .bool (L.mhas (eqD L tk) k m)]
          else .d tv (L.mgetD (eqD L tk) k m (zero tv))))
      | none => .fail
    | _ => .fail
  | .nilm => match mapTys C t with
    | some (tk, tv) => match asDs L o tk k with
      | some _ => .when (keyOk tk) (.now (bif ok then .tup [.d tv (zero tv), .d .bool false] else .d tv (zero tv)))
      | none => .fail
    | none => .fail
  | _ => .fail

def mapUpdatePk (o : Nat → Obj) (t : TypeId) (m k v : V) : Pk :=
  match m with
  | .mp id => match o id with
    | .map tk tv m => match asDs L o tk k, asDs L o tv v with
      | some k, some x => .when (mapIs C t tk tv && (lentV o v).isEmpty) (.now .undef [(id, .map tk tv (L.mset (eqD L tk) k x m))])
      | _, _ => .fail
    | _ => .fail
  | _ => .fail

def makeMapPk (fresh : Nat) (t : TypeId) : Pk := match mapTys C t with
  | some (tk, tv) => .when (keyOk tk) (.now (.mp fresh) [(fresh, .map tk tv [])])
  | none => .fail

def makeSlicePk (fresh : Nat) (t : TypeId) (l c : V) : Pk :=
  match elemTy C t, asInt l, asInt c with
  | some e, some ⟨_, n⟩, some ⟨_, m⟩ => .when (Nat.blt 0 (csz e)) (.dyn Nat (L.mkN n m) (fun k => (.osl fresh 0, [(fresh, .vec e 0 false ⟨false, L.rep k (zero e)⟩)])))
  | _, _, _ => .fail

def hasSlT : Ty → Bool
  | .sl _ => true
  | .pair a b => hasSlT a || hasSlT b
  | .st p => hasSlT p
  | .arr _ e => hasSlT e
  | _ => false

mutual
def alS : Sh → Bool
  | .d t => hasSlT t
  | .ref _ => true
  | .fn _ l => alL l
  | .tup l => alL l
  | .agg l => alL l
  | _ => false
def alL : List Sh → Bool
  | [] => false
  | s :: l => alS s || alL l
end

def alO : List OSh → Bool
  | [] => false
  | .box l :: r => alL l || alO r
  | .vec t :: r => hasSlT t || alO r
  | .map k v :: r => hasSlT k || hasSlT v || alO r
  | .gone :: r => alO r

/-- May what comes out share memory with what was lent? -/
def alias (s : Shape) : Bool := alL s.roots || alO s.objs

/-- Is nothing of a box lent? -/
def noBox (o : Nat → Obj) : List Nat → Bool
  | [] => true
  | id :: r => (match o id with | .box _ => false | .map _ _ _ => false | _ => true) && noBox o r

def allGone (keep : List Nat) : Nat → Nat → List OSh → Bool
  | 0, _, _ => true
  | n + 1, i, .gone :: r => notIn i keep && allGone keep n (i + 1) r
  | n + 1, i, _ :: r => hasN i keep && allGone keep n (i + 1) r
  | _ + 1, _, [] => false

variable (R : Oracle C.sigs)

/-- Is each of so many numbers tied to something? -/
def tiedAll (o : Nat → Obj) (ren : List (Nat × Nat)) : Nat → Bool
  | 0 => true
  | n + 1 => (match assoc n ren with
    | some old => (match o old with | .none => false | _ => true)
    | none => false) && tiedAll o ren n

/-- What is kept is packed whole. -/
def wholeAll (ps : PS) : List Nat → Bool
  | [] => true
  | i :: r => noN (assoc ((assoc i ps.ren).getD 0) ps.cut) && wholeAll ps r

def callOk (o : Nat → Obj) (ps : PS) (k : Nat) (outs : Shape) (keep : List Nat) : Bool := wholeAll ps keep && allGone keep k 0 outs.objs && (noBox o ps.lent || !(alias outs)) && tiedAll o ps.ren k && Nat.ble outs.objs.length (k + 16)

/-- The numbers of what comes back. -/
def callRho (ren : List (Nat × Nat)) (k fresh : Nat) : Nat → Nat := fun id => bif Nat.blt id k then (assoc id ren).getD 0 else fresh + (id - k)

def verOf : Obj → Nat
  | .vec _ ver _ _ => ver
  | _ => 0
/-- The states of what is kept. -/
def callKap (o : Nat → Obj) (ren : List (Nat × Nat)) (k : Nat) (keep : List Nat) : Nat → Nat := fun id => bif Nat.blt id k && hasN id keep then verOf (o ((assoc id ren).getD 0)) else 0

def oneV : List V → V
  | [v] => v
  | vs => .tup vs

/-- A call by its signature. -/
def callPk (o : Nat → Obj) (fresh : Nat) (f : Nat) (args : List V) : List Sig → Nat → Pk
  | [], _ => .fail
  | s :: r, i => bif Nat.beq s.f f then match pack L o [] (sigAt C.sigs i).ins args with
      | some (ps, c) => .when (Nat.beq (sigAt C.sigs i).f f && callOk o ps (sigAt C.sigs i).ins.objs.length (sigAt C.sigs i).outs (sigAt C.sigs i).keep)
        (.dyn (denP (sigAt C.sigs i).outs.tys) (R i c) (fun y =>
          (oneV (fill (callRho ps.ren (sigAt C.sigs i).ins.objs.length fresh) (callKap o ps.ren (sigAt C.sigs i).ins.objs.length (sigAt C.sigs i).keep) (sigAt C.sigs i).outs y).1,
           (bif alias (sigAt C.sigs i).outs then frz o ps.lent else []) ++ (fill (callRho ps.ren (sigAt C.sigs i).ins.objs.length fresh) (callKap o ps.ren (sigAt C.sigs i).ins.objs.length (sigAt C.sigs i).keep) (sigAt C.sigs i).outs y).2)))
      | none => callPk o fresh f args r (i + 1)
    else callPk o fresh f args r (i + 1)

def copyPk (o : Nat → Obj) (t : TypeId) (x y : V) : Pk :=
  match x with
  | .osl id ver => match o id with
    | .vec e ver' false s => match moreOf L o e y with
      | some m => .when (Nat.beq ver ver' && isTy e (elemTy C t)) (.now (.d (.int .i64) (L.minI (L.lenI s.l) (L.lenI m))) [(id, .vec e ver false ⟨s.nil, L.ovl s.l m⟩)])
      | none => .fail
    | _ => .fail
  | _ => .fail

def deletePk (o : Nat → Obj) (t : TypeId) (m k : V) : Pk :=
  match m with
  | .mp id => match o id with
    | .map tk tv m => match asDs L o tk k with
      | some k => .when (mapIs C t tk tv) (.now (.tup []) [(id, .map tk tv (L.mdel (eqD L tk) k m))])
      | none => .fail
    | _ => .fail
  | _ => .fail

def clearPk (o : Nat → Obj) (t : TypeId) (x : V) : Pk :=
  match x with
  | .suf id ver lo => match o id with
    | .vec e ver' false s => .when (Nat.beq ver ver' && isTy e (elemTy C t)) (.now (.tup []) [(id, .vec e ver false ⟨s.nil, L.zerL s.l lo (zero e)⟩)])
    | _ => .fail
  | _ => .fail

def builtinPk (o : Nat → Obj) (fresh : Nat) (b : Builtin) (ts : List TypeId) (args : List V) : Pk :=
  match b, ts, args with
  | .len, t :: _, [x] => lenPk L C o t x
  | .append, t :: u :: _, [x, y] => appendPk L C o fresh t u x y
  | .copy, t :: _, [x, y] => copyPk L C o t x y
  | .clear, t :: _, [x] => clearPk L C o t x
  | .min, _, [.d (.int k) a, .d (.int k') b] => .when (Nat.beq (kindN k) (kindN k')) (.now (.d (.int k) (L.minI a b)))
  | .max, _, [.d (.int k) a, .d (.int k') b] => .when (Nat.beq (kindN k) (kindN k')) (.now (.d (.int k) (L.maxI a b)))
  | _, _, _ => .fail

def nilPk (o : Nat → Obj) (v : V) : Pk :=
  match v with
  | .ptr _ _ => .when (sure o v) (.now v)
  | .ref _ _ => .now v
  | .eptr id ver _ _ => match o id with
    | .vec _ ver' _ _ => .when (Nat.beq ver ver') (.now v)
    | _ => .fail
  | .fn _ _ => .now v
  | _ => .fail

def opPk (env : Nat → V) (o : Nat → Obj) (fresh : Nat) (t : TypeId) : Op → Pk
  | .move x => movePk C fresh t (opd C env x)
  | .assign x => movePk C fresh t (opd C env x)
  | .pick c a b => match opdL C env c with
    | .lb x => .now (bif x then opd C env a else opd C env b)
    | .d .bool x => .now (pickV L x (opd C env a) (opd C env b))
    | _ => .fail
  | .alloc e => allocPk C fresh e
  | .box e x => boxPk C o fresh e (opd C env x)
  | .build t ps => ownAgg C fresh t ps.toList.isEmpty (buildPk L C o t (ps.toList.map fun p => (p.1, opd C env p.2)))
  | .buildSlice t n ps => buildSlicePk L C o fresh t n (ps.toList.map fun p => (p.1, opd C env p.2))
  | .load t a => loadPk L C o t (opd C env a)
  | .store t a v => storePk L C o t (opd C env a) (opd C env v)
  | .nilCheck x => nilPk o (opd C env x)
  | .binOp op t x y _ => binPk L C o op t (opd C env x) (opd C env y)
  | .unOp .not _ x => match opd C env x with
    | .d .bool x => .now (.d .bool (L.notB x))
    | _ => .fail
  | .unOp .neg _ x => match opd C env x with
    | .d (.int k) n => .now (.d (.int k) (L.subI k 0 n))
    | _ => .fail
  | .convert s d x => convertPk L C o fresh s d (opd C env x)
  | .makeFunc (.func f) first caps => match first.toList with
    | [] => .now (.fn f (caps.toList.map (opd C env)))
    | _ => .fail
  | .makeSlice t l c => makeSlicePk L C fresh t (opd C env l) (opd C env c)
  | .slice t x lo hi mx => slicePk L C o fresh t (opd C env x) (lo.map (opd C env)) (hi.map (opd C env)) (mx.map (opd C env))
  | .fieldAddr t x f => fieldAddrPk C o t (opd C env x) f
  | .field t x f => fieldPk C t (opd C env x) f
  | .indexAddr t x i => indexAddrPk L C o t (opd C env x) (opd C env i)
  | .index t x i => indexPk L C t (opd C env x) (opd C env i)
  | .makeMap t none => makeMapPk C fresh t
  | .lookup t x k ok => lookupPk L C o t (opd C env x) (opd C env k) ok
  | .mapUpdate t m k x => mapUpdatePk L C o t (opd C env m) (opd C env k) (opd C env x)
  | .extract x i => match opd C env x with
    | .tup vs => match vs[i]? with
      | some v => .now v
      | none => .fail
    | _ => .fail
  | .call c => match c.callee with
    | .builtin b => builtinPk L C o fresh b c.argTypes.toList (c.args.toList.map (opd C env))
    | .value f => match opd C env f with
      | .fn f caps => callPk L C R o fresh f (c.args.toList.map (opd C env) ++ caps) C.sigs 0
      | _ => .fail
    | _ => .fail
  | _ => .fail
end
end Ev

