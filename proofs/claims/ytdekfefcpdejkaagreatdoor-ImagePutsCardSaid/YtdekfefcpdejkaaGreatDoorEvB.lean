/- The evaluator: code; what data is in memory; numbers, strings, types.
   A part of a verified evaluator of the model: no statement of its own about the program. -/
import Derived.Test.YtdekfefcpdejkaaGreatDoorEvA
import GoSem.Machine.Frame
import GoSem.Core.Sem
import Derived.Orders
import Derived.Laws.Strings
import Derived.Laws.StructEq
import Derived.Laws.Slices
namespace Ev
open Go

/-! Which temporaries are read later. -/
def bit (t : Nat) : Nat := 1 <<< t
def opM : Operand → Nat
  | .tmp t => bit t
  | _ => 0
def opsM : List Operand → Nat
  | [] => 0
  | x :: r => opM x ||| opsM r
def diffM (a b : Nat) : Nat := (a ||| b) ^^^ b

def readsM (o : Oper) : Nat := opsM o.op.operands.toList

def liveOps : List Oper → Nat → Nat
  | [], m => m
  | o :: r, m => let m' := liveOps r m
    (match o.dst with | some d => diffM m' (bit d) | none => m') ||| readsM o

def look (i : Nat) : List (Nat × Nat) → Nat
  | [] => 0
  | (a, b) :: r => bif Nat.beq a i then b else look i r

def sqN {β : Type} (n : Nat) (k : Nat → β) : β := Nat.rec (k 0) (fun m _ => k (Nat.succ m)) n

/-- Code with what is read later noted where states are packed. -/
inductive AC where
  | skip
  | region (id : Nat) (ops : Array Oper) (draw : Bool)
  | seq (a b : AC)
  | cond (c : Operand) (m : List Nat) (a b : AC)
  | block (id : Nat) (m : List Nat) (b : AC)
  | loop (m : List Nat) (b : AC)
  | exit (id : Nat)
  | goto (l : Nat)
  | ret
  | scope (b : AC)
  | jump (l : Nat) (m : List Nat) (p r : AC)
  | bad

def gotos (l : Nat) : Code → Bool
  | .seq a b => gotos l a || gotos l b
  | .cond _ a b => gotos l a || gotos l b
  | .block _ b => gotos l b
  | .loop b => gotos l b
  | .scope b => gotos l b
  | .goto j => Nat.beq j l
  | _ => false

/-- The first label that is gone to, in a scope's own row. -/
def labelOf (whole : Code) : Code → Option Nat
  | .seq a b => match labelOf whole a with
    | some l => some l
    | none => labelOf whole b
  | .label l => bif gotos l whole then some l else none
  | _ => none

def dstsOk (nt : Nat) : List Oper → Bool
  | [] => true
  | o :: r => (match o.dst with | some d => Nat.blt d nt | none => true) && dstsOk nt r

/-- The temporaries of a mask. -/
def tmK {β : Type} (m : Nat) : Nat → List Nat → (List Nat → β) → β
  | 0, acc, k => k acc
  | n + 1, acc, k => bif Nat.testBit m n then tmK m n (n :: acc) k else tmK m n acc k

/-- What stands ahead of a label. -/
def ahead (l : Nat) : Code → Option Code
  | .seq a b => match ahead l a with
    | some c => some c
    | none => match ahead l b with
      | some c => some (.seq a c)
      | none => none
  | .label j => bif Nat.beq j l then some .skip else none
  | _ => none

/-- 'ex': what is read behind an exit; 'gt': behind a goto; 'rt': by a return. -/
def ann {β : Type} (rt nt : Nat) : Nat → (c : Code) → (ex gt : List (Nat × Nat)) → Nat → (Nat → AC → β) → β
  | 0, _, _, _, m, k => k m .bad
  | _ + 1, .skip, _, _, m, k => k m .skip
  | _ + 1, .label _, _, _, m, k => k m .skip
  | _ + 1, .region id ops d, _, _, m, k => bif dstsOk nt ops.toList then sqN (liveOps ops.toList m) fun m' => k m' (.region id ops d) else k m .bad
  | n + 1, .seq a b, ex, gt, m, k => ann rt nt n b ex gt m fun mb b' => ann rt nt n a ex gt mb fun ma a' => k ma (.seq a' b')
  | n + 1, .cond c a b, ex, gt, m, k => ann rt nt n a ex gt m fun ma a' => ann rt nt n b ex gt m fun mb b' =>
      sqN (opM c ||| ma ||| mb) fun m' => tmK m nt [] fun ts => k m' (.cond c ts a' b')
  | n + 1, .block id b, ex, gt, m, k => ann rt nt n b ((id, m) :: ex) gt m fun mb b' => tmK m nt [] fun ts => k mb (.block id ts b')
  | n + 1, .loop b, ex, gt, _, k => ann rt nt n b ex gt 0 fun m1 _ => ann rt nt n b ex gt m1 fun m2 b' => tmK m2 nt [] fun ts => k m2 (.loop ts b')
  | _ + 1, .exit id, ex, _, _, k => k (look id ex) (.exit id)
  | _ + 1, .goto l, _, gt, _, k => k (look l gt) (.goto l)
  | _ + 1, .ret, _, _, _, k => k rt .ret
  | n + 1, .scope b, ex, gt, m, k => match labelOf b b with
    | none => ann rt nt n b ex gt m fun mb b' => k mb (.scope b')
    | some l => match ahead l b, findLabel b l with
      | some p, some r => ann rt nt n r ex ((l, 0) :: gt) m fun m1 _ => ann rt nt n r ex ((l, m1) :: gt) m fun m2 r' => ann rt nt n p ex gt m2 fun mp p' => tmK m2 nt [] fun ts => k mp (.jump l ts p' r')
      | _, _ => k m .bad
  | _ + 1, _, _, _, m, k => k m .bad

def exitsTo (id : Nat) : AC → Bool
  | .seq a b => exitsTo id a || exitsTo id b
  | .cond _ _ a b => exitsTo id a || exitsTo id b
  | .block _ _ b => exitsTo id b
  | .loop _ b => exitsTo id b
  | .scope b => exitsTo id b
  | .jump _ _ p r => exitsTo id p || exitsTo id r
  | .exit j => Nat.beq j id
  | _ => false

def falls : AC → Bool
  | .seq a b => falls a && falls b
  | .cond _ _ a b => falls a || falls b
  | .block id _ b => falls b || exitsTo id b
  | .loop _ _ => false
  | .scope b => falls b
  | .jump _ _ p r => falls p && falls r
  | .exit _ => false
  | .ret => false
  | .goto _ => false
  | .bad => false
  | _ => true

/-- How many ways lead to the end of a block. -/
def ways (id : Nat) : AC → Nat
  | .seq a b => ways id a + ways id b
  | .cond _ _ a b => ways id a + ways id b
  | .block _ _ b => ways id b
  | .loop _ b => ways id b
  | .scope b => ways id b
  | .jump _ _ p r => ways id p + ways id r
  | .exit j => bif Nat.beq j id then 1 else 0
  | _ => 0

/-- Is a code left but at its end? -/
def leaves : AC → Bool
  | .seq a b => leaves a || leaves b
  | .cond _ _ a b => leaves a || leaves b
  | .block _ _ b => leaves b
  | .loop _ b => leaves b
  | .scope b => leaves b
  | .jump _ _ p r => leaves p || leaves r
  | .exit _ => true
  | .ret => true
  | .goto _ => true
  | _ => false

inductive Ex where
  | normal | exit (id : Nat) | goto (l : Nat) | ret

section
variable (L : Lf) (C : Cx) (R : Oracle C.sigs)

def envOf : List Nat → List V → Nat → V
  | t :: ts, v :: vs => upd (envOf ts vs) t v
  | _, _ => fun _ => .junk

/-- The operations ahead of the pick that ends a guard's group. -/
def groupOf (d : Nat) : List Oper → Option (List Oper × Oper × List Oper)
  | [] => none
  | o :: r => match o.op with
    | .pick (.tmp c) _ _ => bif Nat.beq c d then some ([], o, r) else (groupOf d r).map fun p => (o :: p.1, p.2.1, p.2.2)
    | _ => (groupOf d r).map fun p => (o :: p.1, p.2.1, p.2.2)

def putO (st : St) (d : Option Nat) (v : V) : St := match d with
  | some d => { st with env := upd st.env d v }
  | none => st

def junks (st : St) : List Oper → St
  | [] => st
  | o :: r => junks (putO st o.dst .junk) r

/-- The ids that an operation may make (sixteen from here on), by its region and its place in that. -/
def freshOf (rg i : Nat) : Nat := 16 * (1 + 256 * rg + i)

/-! Reckoned at once: so that nothing is reckoned again and again. -/
mutual
def sqV {β : Type} : V → (V → β) → β
  | .d t x, k => k (.d t x)
  | .osl id ver, k => sqN id fun id => sqN ver fun ver => k (.osl id ver)
  | .pre id ver n c, k => sqN id fun id => sqN ver fun ver => k (.pre id ver n c)
  | .ptr id off, k => sqN id fun id => sqN off fun off => k (.ptr id off)
  | .fn f l, k => sqN f fun f => sqL l fun l => k (.fn f l)
  | .tup l, k => sqL l fun l => k (.tup l)
  | .agg l, k => sqL l fun l => k (.agg l)
  | .slf id b, k => sqN id fun id => k (.slf id b)
  | .suf id ver lo, k => sqN id fun id => sqN ver fun ver => k (.suf id ver lo)
  | v, k => k v
def sqL {β : Type} : List V → (List V → β) → β
  | [], k => k []
  | v :: l, k => sqV v fun v => sqL l fun l => k (v :: l)
end

def sqO {β : Type} : Obj → (Obj → β) → β
  | .box cs, k => sqL cs fun cs => k (.box cs)
  | .vec t ver fr s, k => sqN ver fun ver => k (.vec t ver fr s)
  | o, k => k o

def sqU {β : Type} (o : Nat → Obj) : List (Nat × Obj) → ((Nat → Obj) → β) → β
  | [], k => k o
  | (i, x) :: r, k => sqN i fun i => sqO x fun x => sqU (upd o i x) r k

/-- The same: what is new (sixteen ids from 'fr' on) was not there. -/
def sqF {β : Type} (fr : Nat) (o : Nat → Obj) : List (Nat × Obj) → ((Nat → Obj) → Option β) → Option β
  | [], k => k o
  | (i, x) :: r, k => sqN i fun i => bif Nat.ble fr i && Nat.blt i (fr + 16) then
      (match o i with
      | .none => sqO x fun x => sqF fr (upd o i x) r k
      | _ => none)
    else sqO x fun x => sqF fr (upd o i x) r k

/-- A state of a shape, at temporaries. -/
def stK {β : Type} (sk ts : List Nat) (s : Shape) (c : denP s.tys) (k : St → β) : β :=
  let p := fill (skOf sk) (fun _ => 0) s c
  sqL p.1 fun vs => sqU (fun _ => Obj.none) p.2 fun o => k ⟨envOf ts vs, o⟩

mutual
def sqSh {β : Type} : Sh → (Sh → β) → β
  | .d t, k => k (.d t)
  | .ref t, k => k (.ref t)
  | .osl id, k => sqN id fun id => k (.osl id)
  | .ptr id off, k => sqN id fun id => sqN off fun off => k (.ptr id off)
  | .fn f l, k => sqN f fun f => sqShL l fun l => k (.fn f l)
  | .tup l, k => sqShL l fun l => k (.tup l)
  | .agg l, k => sqShL l fun l => k (.agg l)
  | .mp id, k => sqN id fun id => k (.mp id)
  | .slf id, k => sqN id fun id => k (.slf id)
  | .suf id, k => sqN id fun id => k (.suf id)
  | s, k => k s
def sqShL {β : Type} : List Sh → (List Sh → β) → β
  | [], k => k []
  | s :: l, k => sqSh s fun s => sqShL l fun l => k (s :: l)
end

def sqOSh {β : Type} : OSh → (OSh → β) → β
  | .box l, k => sqShL l fun l => k (.box l)
  | s, k => k s
def sqOShL {β : Type} : List OSh → (List OSh → β) → β
  | [], k => k []
  | s :: l, k => sqOSh s fun s => sqOShL l fun l => k (s :: l)

/-- The shape of a state at temporaries. -/
def shK {β : Type} (sk : List Nat) (st : St) (ts : List Nat) (k : Shape → β) : β :=
  let s := shapeOf sk st.obj (ts.map fun t => unlb (st.env t))
  sqShL s.roots fun r => sqOShL s.objs fun o => k ⟨r, o⟩

/-- A continuation: whatever stands round what it gives. -/
def K (γ : Type) (α : Type) : Type 1 := (δ : Type) → (γ → δ) → α → Option δ

def boolK : (δ : Type) → (Bool → δ) → V → Option δ
  | _, w, .d .bool x => some (w x)
  | _, _, _ => none

/-- Is all that is written new, seen from a state? -/
def onlyNew : Option (Nat → Obj) → List (Nat × Obj) → Bool
  | none, _ => true
  | some _, [] => true
  | some o, (i, _) :: r => (match o i with | .none => true | _ => false) && onlyNew (some o) r

def evOps {γ δ : Type} (rg : Nat) (all : List Oper) (g0 : Option (Nat → Obj)) : Nat → (γ → δ) → Nat → List Oper → St → ((γ → δ) → St → Option δ) → Option δ
  | 0, _, _, _, _, _ => none
  | _ + 1, w, _, [], st, k => k w st
  | n + 1, w, i, o :: r, st, k =>
    let run := match opPk L C R st.env st.obj (freshOf rg i) o.type o.op with
      | .fail => none
      | .nowU v u => bif onlyNew g0 u then sqV v fun v => sqF (freshOf rg i) st.obj u fun o' => evOps rg all g0 n w (i + 1) r (putO { st with obj := o' } o.dst v) k else none
      | .dyn _ x out => L.bnd x fun y => bif onlyNew g0 (out y).2 then sqV (out y).1 fun v => sqF (freshOf rg i) st.obj (out y).2 fun o' => evOps rg all g0 n w (i + 1) r (putO { st with obj := o' } o.dst v) k else none
    match o.guard with
    | none => run
    | some (j, want) => match all[j]? with
      | some oj => match oj.dst with
        | some dj => match st.env dj with
          | .lb b => bif (bif want then b else !b) then run else evOps rg all g0 n w (i + 1) r (putO st o.dst .undef) k
          | .undef => evOps rg all g0 n w (i + 1) r (putO st o.dst .undef) k
          | .d .bool x => match g0 with
            | some g => L.cnd x (evOps rg all (some g) n w i (o :: r) (putO st (some dj) (.lb true)) k) (evOps rg all (some g) n w i (o :: r) (putO st (some dj) (.lb false)) k)
            | none => match groupOf dj (o :: r) with
              | some (g, p, r') => match p.dst with
                | some pd =>
                  let br (b : Bool) : Option Bool := evOps (γ := Bool) (δ := Bool) rg all (some st.obj) n (fun x => x) i (g ++ [p]) (putO st (some dj) (.lb b)) (fun w' st' => boolK _ w' (unlb (st'.env pd)))
                  L.bnd (L.cnd x (br true) (br false)) fun y => evOps rg all none n w (i + g.length + 1) r' (putO (junks st g) (some pd) (.d .bool y)) k
                | none => none
              | none => none
          | _ => none
        | none => none
      | none => none

/-! A region that draws its order: flat, each guard decided, and what each operation touches noted. -/
mutual
def idsV : V → List Nat
  | .osl id _ => [id]
  | .pre id _ _ _ => [id]
  | .ptr id _ => [id]
  | .eptr id _ _ _ => [id]
  | .mp id => [id]
  | .slf id _ => [id]
  | .suf id _ _ => [id]
  | .fn _ l => idsL l
  | .tup l => idsL l
  | .agg l => idsL l
  | _ => []
def idsL : List V → List Nat
  | [] => []
  | v :: l => idsV v ++ idsL l
end

def idsO : Obj → List Nat
  | .box cs => idsL cs
  | _ => []

/-- All that is reached from ids, so many steps. -/
def reach (o : Nat → Obj) : Nat → List Nat → List Nat
  | 0, l => l
  | n + 1, l => l ++ reach o n (l.flatMap fun id => idsO (o id))

structure Tr where
  i : Nat
  op : Oper
  rd : List Nat
  wr : List Nat

def keysU : List (Nat × Obj) → List Nat
  | [] => []
  | p :: r => p.1 :: keysU r

def disj (a b : List Nat) : Bool := a.all fun x => !hasN x b

/-- Which operations stand ahead of each, as masks. -/
def befs : List Oper → List Nat → List Nat
  | [], acc => acc
  | o :: r, acc => befs r (acc ++ [o.after.toList.foldl (fun s e => bif Region.binds .any e then s ||| bit e.on ||| acc.getD e.on 0 else s) 0])

/-- The temporaries that an operation looks at. -/
def tmpsO : List Operand → List Nat
  | [] => []
  | .tmp t :: r => t :: tmpsO r
  | _ :: r => tmpsO r

def looksO (all : List Oper) (o : Oper) : List Nat := tmpsO o.op.operands.toList ++ (match o.guard with
  | some (g, _) => (match all[g]? with
    | some og => (match og.dst with | some d => [d] | none => [])
    | none => [])
  | none => [])

def dstNot (d : Option Nat) (l : List Nat) : Bool := match d with
  | some d => notIn d l
  | none => true

def dstL (d : Option Nat) : List Nat := match d with
  | some d => [d]
  | none => []

/-- Two operations touch nothing of each other. -/
def apartT (all : List Oper) (a b : Tr) : Bool :=
  dstNot a.op.dst (looksO all b.op ++ dstL b.op.dst) && dstNot b.op.dst (looksO all a.op) && disj a.wr (b.rd ++ b.wr) && disj b.wr a.rd

def mayPass (bef : List Nat) (all : List Oper) (a b : Tr) : Bool := Nat.testBit (bef.getD b.i 0) a.i || apartT all a b

def passAll (bef : List Nat) (all : List Oper) (b : Tr) : List Tr → Bool
  | [] => true
  | a :: r => mayPass bef all a b && passAll bef all b r

/-- The operations (the last first): each two that may come in either order touch nothing of each other. -/
def drawOk (bef : List Nat) (all : List Oper) : List Tr → Bool
  | [] => true
  | b :: r => passAll bef all b r && drawOk bef all r

def footOf (st : St) (o : Oper) : List Nat := reach st.obj 4 (idsL (o.op.operands.toList.map (opd C st.env)))

def allIn (l m : List Nat) : Bool := match l with
  | [] => true
  | x :: r => hasN x m && allIn r m

/-- All that is reached from ids is among them. -/
def closed (o : Nat → Obj) (F : List Nat) : List Nat → Bool
  | [] => true
  | id :: r => allIn (idsO (o id)) F && closed o F r

def lookK (t : Nat) : List (Nat × Bool) → Option Bool
  | [] => none
  | (a, b) :: r => bif Nat.beq a t then some b else lookK t r

/-- Is a temporary one of which nothing is known? -/
def notKn (d : Option Nat) (kn : List (Nat × Bool)) : Bool := match d with
  | some d => (match lookK d kn with | some _ => false | none => true)
  | none => true

def envR (env : Nat → V) (kn : List (Nat × Bool)) (ts : List Nat) : Nat → V := fun t => bif hasN t ts then (match lookK t kn with | some b => .lb b | none => env t) else .junk
def objR (o : Nat → Obj) (F : List Nat) : Nat → Obj := fun id => bif hasN id F then o id else .none

/-- An operation waits for earlier ones alone. -/
def backE (i : Nat) : List Edge → Bool
  | [] => true
  | e :: r => (!(Region.binds .any e) || Nat.blt e.on i) && backE i r

/-- What is written was reached, or is new. -/
def keysIn (F : List Nat) (fr : Nat) : List Nat → Bool
  | [] => true
  | id :: r => (hasN id F || (Nat.ble fr id && Nat.blt id (fr + 16))) && keysIn F fr r

def trsOk (rg : Nat) : List Tr → Bool
  | [] => true
  | t :: r => backE t.i t.op.after.toList && keysIn t.rd (freshOf rg t.i) t.wr && trsOk rg r

/-- What is known of what an operation gives: a pick of which the condition is known, and what is moved. -/
def newKn (o : Oper) (kn : List (Nat × Bool)) : List (Nat × Bool) := match o.dst with
  | none => kn
  | some d => match o.op with
    | .move (.tmp t) => (match lookK t kn with
      | some y => (d, y) :: kn
      | none => kn)
    | .pick (.tmp c) x y => (match lookK c kn with
      | some q => (match (bif q then x else y) with
        | .const (.bool z) => (d, z) :: kn
        | _ => kn)
      | none => kn)
    | _ => kn

/-- 'kn': the truths that are known. -/
def evF {γ δ : Type} (rg : Nat) (all : List Oper) : Nat → (γ → δ) → Nat → List Oper → St → List (Nat × Bool) → List Tr → ((γ → δ) → St → Option δ) → Option δ
  | 0, _, _, _, _, _, _, _ => none
  | _ + 1, w, _, [], st, _, tr, k => bif drawOk (befs all []) all tr && trsOk rg tr then k w st else none
  | n + 1, w, i, o :: r, st, kn, tr, k =>
    let F := footOf C st o
    bif notKn o.dst kn then
    let run := bif closed st.obj F F then (match opPk L C R (envR st.env kn (tmpsO o.op.operands.toList)) (objR st.obj F) (freshOf rg i) o.type o.op with
      | .fail => none
      | .nowU v u => sqV v fun v => sqF (freshOf rg i) st.obj u fun o' => evF rg all n w (i + 1) r (putO { st with obj := o' } o.dst v) (newKn o kn) (⟨i, o, F, keysU u⟩ :: tr) k
      | .dyn _ x out => L.bnd x fun y => sqV (out y).1 fun v => sqF (freshOf rg i) st.obj (out y).2 fun o' =>
          evF rg all n w (i + 1) r (putO { st with obj := o' } o.dst v) (newKn o kn) (⟨i, o, F, keysU (out y).2⟩ :: tr) k) else none
    match o.guard with
    | none => run
    | some (j, want) => match all[j]? with
      | some oj => match oj.dst with
        | some dj => match lookK dj kn with
          | some b => bif (bif want then b else !b) then run else evF rg all n w (i + 1) r (putO st o.dst .undef) kn (⟨i, o, [], []⟩ :: tr) k
          | none => match st.env dj with
            | .undef => evF rg all n w (i + 1) r (putO st o.dst .undef) kn (⟨i, o, [], []⟩ :: tr) k
            | .d .bool x => L.cnd x (evF rg all n w i (o :: r) st ((dj, true) :: kn) tr k) (evF rg all n w i (o :: r) st ((dj, false) :: kn) tr k)
            | _ => none
        | none => none
      | none => none
    else none
end
end Ev


namespace Ev
open Go
section
variable (L : Lf) (C : Cx) (R : Oracle C.sigs)

/-- What is packed into a shape, given on. -/
def give {δ : Type} (sk : List Nat) (s : Shape) (w : denP s.tys → δ) (ren : List (Nat × Nat)) (o : Nat → Obj) (vs : List V) : Option δ :=
  match packK L sk ren o s vs with
  | some p => some (w p.2)
  | none => none

def ev (sk : List Nat) : (c : AC) → St → (γ δ : Type) → (γ → δ) → ((δ : Type) → (γ → δ) → Ex → St → Option δ) → Option δ
  | .skip, st, _, δ, w, k => k δ w .normal st
  | .region rg ops true, st, _, δ, w, k => evF L C R rg ops.toList (2 * ops.toList.length + 1) w 0 ops.toList st [] [] (fun w st => k δ w .normal st)
  | .region rg ops false, st, _, δ, w, k => evOps L C R rg ops.toList none (2 * ops.toList.length + 2) w 0 ops.toList st (fun w st => k δ w .normal st)
  | .seq a b, st, γ, δ, w, k => ev sk a st γ δ w fun δ w e st' => match e with
    | .normal => ev sk b st' γ δ w k
    | e => k δ w e st'
  | .cond c ts a b, st, γ, δ, w, k => match opd C st.env c with
    | .d .bool x => bif falls a && falls b then
        shK sk st ts fun s =>
        bif leaves a || leaves b then
          let k' : (δ' : Type) → (denP s.tys ⊕ δ → δ') → Ex → St → Option δ' := fun δ' w' e st' => match e with
            | .normal => give L sk s (fun c => w' (.inl c)) (skRen 0 sk) st'.obj (ts.map fun t => unlb (st'.env t))
            | e => k δ' (fun g => w' (.inr (w g))) e st'
          L.bnd (L.cnd x (ev sk a st (denP s.tys ⊕ δ) (denP s.tys ⊕ δ) (fun x => x) k') (ev sk b st (denP s.tys ⊕ δ) (denP s.tys ⊕ δ) (fun x => x) k'))
            (L.sumE fun c => stK sk ts s c fun st => k δ w .normal st)
        else
          let k' : (δ' : Type) → (denP s.tys → δ') → Ex → St → Option δ' := fun _ w' e st' => match e with
            | .normal => give L sk s w' (skRen 0 sk) st'.obj (ts.map fun t => unlb (st'.env t))
            | _ => none
          L.bnd (L.cnd x (ev sk a st (denP s.tys) (denP s.tys) (fun x => x) k') (ev sk b st (denP s.tys) (denP s.tys) (fun x => x) k'))
            (fun c => stK sk ts s c fun st => k δ w .normal st)
      else L.cnd x (ev sk a st γ δ w k) (ev sk b st γ δ w k)
    | _ => none
  | .block id ts b, st, γ, δ, w, k => bif Nat.ble 2 (ways id b + (bif falls b then 1 else 0)) then
        shK sk st ts fun s =>
        let k' : (δ' : Type) → (denP s.tys ⊕ δ → δ') → Ex → St → Option δ' := fun δ' w' e st' => match e with
          | .normal => give L sk s (fun c => w' (.inl c)) (skRen 0 sk) st'.obj (ts.map fun t => unlb (st'.env t))
          | .exit j => bif Nat.beq j id then give L sk s (fun c => w' (.inl c)) (skRen 0 sk) st'.obj (ts.map fun t => unlb (st'.env t)) else k δ' (fun g => w' (.inr (w g))) (.exit j) st'
          | e => k δ' (fun g => w' (.inr (w g))) e st'
        L.bnd (ev sk b st (denP s.tys ⊕ δ) (denP s.tys ⊕ δ) (fun x => x) k') (L.sumE fun c => stK sk ts s c fun st => k δ w .normal st)
      else ev sk b st γ δ w fun δ w e st' => match e with
        | .exit j => bif Nat.beq j id then k δ w .normal st' else k δ w (.exit j) st'
        | e => k δ w e st'
  | .loop ts b, st, _, δ, w, k =>
      shK sk st ts fun s =>
      match packK L sk (skRen 0 sk) st.obj s (ts.map fun t => unlb (st.env t)) with
      | some p => L.loopR (fun c => stK sk ts s c fun st => ev sk b st (denP s.tys ⊕ δ) (denP s.tys ⊕ δ) (fun x => x) fun δ' w' e st' => match e with
          | .normal => give L sk s (fun c => w' (.inl c)) (skRen 0 sk) st'.obj (ts.map fun t => unlb (st'.env t))
          | e => k δ' (fun g => w' (.inr (w g))) e st') p.2
      | none => none
  | .jump l ts p r, st, γ, δ, w, k => ev sk p st γ δ w fun δ w e st => match e with
    | .normal =>
      shK sk st ts fun s =>
      match packK L sk (skRen 0 sk) st.obj s (ts.map fun t => unlb (st.env t)) with
      | some p => L.loopR (fun c => stK sk ts s c fun st => ev sk r st (denP s.tys ⊕ δ) (denP s.tys ⊕ δ) (fun x => x) fun δ' w' e st' => match e with
          | .goto l' => bif Nat.beq l' l then give L sk s (fun c => w' (.inl c)) (skRen 0 sk) st'.obj (ts.map fun t => unlb (st'.env t)) else none
          | e => k δ' (fun g => w' (.inr (w g))) e st') p.2
      | none => none
    | .goto _ => none
    | e => k δ w e st
  | .exit id, st, _, δ, w, k => k δ w (.exit id) st
  | .goto l, st, _, δ, w, k => k δ w (.goto l) st
  | .ret, st, _, δ, w, k => k δ w .ret st
  | .scope b, st, γ, δ, w, k => ev sk b st γ δ w fun δ w e st => match e with
    | .goto _ => none
    | e => k δ w e st
  | .bad, _, _, _, _, _ => none

def setArgs (env : Nat → V) : Nat → List V → Nat → V
  | _, [] => env
  | i, v :: r => setArgs (upd env i v) (i + 1) r

def resM : List ResultVar → Nat
  | [] => 0
  | .tmp t :: r => bit t ||| resM r
  | .cell t _ :: r => bit t ||| resM r

def resV (st : St) : List ResultVar → Option (List V)
  | [] => some []
  | .tmp t :: r => match resV st r with
    | some l => some (unlb (st.env t) :: l)
    | none => none
  | .cell t ty :: r => match loadPk L C st.obj ty (st.env t) with
    | .nowU v _ => match resV st r with
      | some l => some (v :: l)
      | none => none
    | _ => none

/-- What is given back. -/
def giveR {δ : Type} (sk : List Nat) (s : Shape) (w : denP s.tys → δ) (st : St) (rs : List ResultVar) : Option δ :=
  match resV L C st rs with
  | some vs => give L sk s w (keepRen sk) st.obj vs
  | none => none

/-- A function at a signature. -/
def evalFn (i : Nat) (x : denP (sigAt C.sigs i).ins.tys) : Option (denP (sigAt C.sigs i).outs.tys) :=
  let sg := sigAt C.sigs i
  match C.P.funcs.toList[sg.f]? with
  | none => none
  | some fn => match fn.body with
    | none => none
    | some b =>
      let p := fill id (fun _ => 0) sg.ins x
      let k := sg.ins.objs.length
      bif keepGood k (sigAt C.sigs i).keep && Nat.ble p.1.length fn.ntmps then ann (resM fn.results.toList) fn.ntmps 1000 b [] [] (resM fn.results.toList) fun _ ac => ev L C R (sigAt C.sigs i).keep ac ⟨setArgs (fun _ => .undef) 0 p.1, upds (fun _ => Obj.none) p.2⟩
        (denP (sigAt C.sigs i).outs.tys) (denP (sigAt C.sigs i).outs.tys) (fun x => x) fun _ w e st => match e with
        | .normal => giveR L C (sigAt C.sigs i).keep (sigAt C.sigs i).outs w st fn.results.toList
        | .ret => giveR L C (sigAt C.sigs i).keep (sigAt C.sigs i).outs w st fn.results.toList
        | _ => none else none
end
end Ev


namespace Ev
open Go

/-! What data is in memory. -/
def maxL : Nat := 9223372036854775807

def inK (k : IntKind) (n : Int) : Prop := k.min ≤ n ∧ n ≤ k.max

def cellsAt (w : World) (a : Addr) (cs : List Value) : Prop := ∀ j (h : j < cs.length), w.cell? ⟨a.block, a.off + j, none⟩ = some cs[j]

/-- A row of things, one behind another. -/
def relR {α : Type} (f : α → List Value → Prop) : List α → List Value → Prop
  | [], cs => cs = []
  | x :: l, cs => ∃ c d, cs = c ++ d ∧ f x c ∧ relR f l d

/-- Data against cells. 'imm': the blocks that no one writes. -/
def relC (imm : Nat → Prop) (w : World) : (t : Ty) → den t → List Value → Prop
  | .unit, _, cs => cs = []
  | .pair a b, x, cs => ∃ c d, cs = c ++ d ∧ relC imm w a x.1 c ∧ relC imm w b x.2 d
  | .st p, x, cs => relC imm w p x cs
  | .arr n e, l, cs => List.length l = n ∧ relR (relC imm w e) l cs
  | .int k, n, cs => cs = [.int k n] ∧ inK k n
  | .bool, b, cs => cs = [.bool b]
  | .str, l, cs => ∃ s : ByteArray, cs = [.string s] ∧ s.data.toList.map (fun b => (b.toNat : Int)) = l ∧ s.size ≤ maxL
  | .sl e, s, cs => ∃ v, cs = [v] ∧ s.l.length ≤ maxL ∧ ((s.nil = true ∧ s.l = [] ∧ v = .slice none 0 0) ∨
      (s.nil = false ∧ ∃ a cap ec, v = .slice (some a) s.l.length cap ∧ a.spot = none ∧ (s.l ≠ [] → imm a.block) ∧ relR (relC imm w e) s.l ec ∧ cellsAt w a ec ∧ s.l.length ≤ cap))

def relV (imm : Nat → Prop) (w : World) (t : Ty) (x : den t) (v : Value) : Prop :=
  match t, x with
  | .st p, x => ∃ cs : Array Value, v = .agg cs ∧ relC imm w p x cs.toList
  | .arr n e, x => ∃ cs : Array Value, v = .agg cs ∧ relC imm w (.arr n e) x cs.toList
  | .unit, _ => False
  | .pair _ _, _ => False
  | t, x => relC imm w t x [v]

theorem relR_mono {α : Type} {f g : α → List Value → Prop} : ∀ {l : List α} {cs : List Value}, (∀ x c, f x c → g x c) → relR f l cs → relR g l cs
  | [], _, _, h => h
  | _ :: _, _, hf, ⟨c, d, e, h1, h2⟩ => ⟨c, d, e, hf _ _ h1, relR_mono hf h2⟩

theorem cell?_congr {w w' : World} {a : Addr} (h : w'.heap[a.block]? = w.heap[a.block]?) : w'.cell? a = w.cell? a := by
  unfold World.cell?; rw [h]

theorem cellsAt_congr {w w' : World} {a : Addr} {cs : List Value} (h : w'.heap[a.block]? = w.heap[a.block]?) (hc : cellsAt w a cs) : cellsAt w' a cs := by
  intro j hj
  rw [← hc j hj]
  exact cell?_congr h

theorem cellsAt_sl {α : Type} {f : α → List Value → Prop} {l : List α} {w w' : World} {a : Addr} {cs : List Value} (hr : relR f l cs) (h : l ≠ [] → w'.heap[a.block]? = w.heap[a.block]?) (hc : cellsAt w a cs) : cellsAt w' a cs := by
  cases l with
  | nil => intro j hj; rw [show cs = [] from hr] at hj; cases hj
  | cons x l => exact cellsAt_congr (h (List.cons_ne_nil x l)) hc

theorem relC_mono {imm imm' : Nat → Prop} {w w' : World} (hi : ∀ b, imm b → imm' b) (hw : ∀ b, imm b → w'.heap[b]? = w.heap[b]?) :
    ∀ (t : Ty) (x : den t) (cs : List Value), relC imm w t x cs → relC imm' w' t x cs
  | .unit, _, _, h => h
  | .pair a b, x, _, ⟨c, d, e, h1, h2⟩ => ⟨c, d, e, relC_mono hi hw a x.1 c h1, relC_mono hi hw b x.2 d h2⟩
  | .st p, x, cs, h => relC_mono hi hw p x cs h
  | .arr _ e, _, _, ⟨h1, h2⟩ => ⟨h1, relR_mono (relC_mono hi hw e) h2⟩
  | .int _, _, _, h => h
  | .bool, _, _, h => h
  | .str, _, _, h => h
  | .sl e, _, _, ⟨v, e1, hl, h⟩ => ⟨v, e1, hl, h.imp id fun ⟨hn, a, cap, ec, e2, hs, hb, hr, hc, hcap⟩ =>
      ⟨hn, a, cap, ec, e2, hs, fun hne => hi _ (hb hne), relR_mono (relC_mono hi hw e) hr, cellsAt_sl hr (fun hne => hw _ (hb hne)) hc, hcap⟩⟩

theorem relC_len {imm : Nat → Prop} {w : World} : ∀ (t : Ty) (x : den t) (cs : List Value), relC imm w t x cs → cs.length = csz t
  | .unit, _, _, h => by simp [relC] at h; simp [h, csz]
  | .pair a b, x, _, ⟨c, d, e, h1, h2⟩ => by subst e; simp [csz, relC_len a x.1 c h1, relC_len b x.2 d h2]
  | .st p, x, cs, h => by simpa [csz] using relC_len p x cs h
  | .arr n e, l, cs, ⟨h1, h2⟩ => by
      have key : ∀ (l : List (den e)) (cs : List Value), relR (relC imm w e) l cs → cs.length = l.length * csz e := by
        intro l
        induction l with
        | nil => intro cs h; simp [relR] at h; simp [h]
        | cons y l ih => intro cs ⟨c, d, e1, h3, h4⟩; subst e1; simp [relC_len e y c h3, ih d h4, Nat.succ_mul, Nat.add_comm]
      rw [key l cs h2, h1]; simp [csz]
  | .int _, _, _, h => by simp [relC] at h; simp [h.1, csz]
  | .bool, _, _, h => by simp [relC] at h; simp [h, csz]
  | .str, _, _, ⟨s, h, _⟩ => by simp [h, csz]
  | .sl e, _, _, ⟨v, h, _⟩ => by simp [h, csz]

theorem relR_len {imm : Nat → Prop} {w : World} {e : Ty} : ∀ {l : List (den e)} {cs : List Value}, relR (relC imm w e) l cs → cs.length = l.length * csz e
  | [], cs, h => by simp [relR] at h; simp [h]
  | y :: l, cs, ⟨c, d, e1, h3, h4⟩ => by subst e1; simp [relC_len e y c h3, relR_len h4, Nat.succ_mul, Nat.add_comm]

theorem relR_append {α : Type} {f : α → List Value → Prop} : ∀ {l m : List α} {cs ds : List Value}, relR f l cs → relR f m ds → relR f (l ++ m) (cs ++ ds)
  | [], _, _, _, h, h' => by simp [relR] at h; simpa [h] using h'
  | _ :: _, _, _, _, ⟨c, d, e, h1, h2⟩, h' => ⟨c, d ++ _, by rw [e, List.append_assoc], h1, relR_append h2 h'⟩

/-- A row's element at a place, and the rows ahead and behind. -/
theorem relR_split {imm : Nat → Prop} {w : World} {e : Ty} : ∀ {l : List (den e)} {cs : List Value} (n : Nat), n ≤ l.length → relR (relC imm w e) l cs →
    relR (relC imm w e) (l.take n) (cs.take (n * csz e)) ∧ relR (relC imm w e) (l.drop n) (cs.drop (n * csz e))
  | l, cs, 0, _, h => by simpa [relR] using h
  | [], _, n + 1, hn, _ => by simp at hn
  | y :: l, cs, n + 1, hn, ⟨c, d, e1, h3, h4⟩ => by
    subst e1
    have hc := relC_len e y c h3
    obtain ⟨h5, h6⟩ := relR_split n (by simpa using hn) h4
    have e2 : (n + 1) * csz e = c.length + n * csz e := by rw [hc, Nat.succ_mul, Nat.add_comm]
    rw [e2, List.take_length_add_append, List.drop_length_add_append]
    exact ⟨⟨c, _, rfl, h3, h5⟩, by simpa using h6⟩

theorem relR_get {imm : Nat → Prop} {w : World} {e : Ty} {l : List (den e)} {cs : List Value} (h : relR (relC imm w e) l cs) (i : Nat) (hi : i < l.length) :
    relC imm w e l[i] ((cs.drop (i * csz e)).take (csz e)) := by
  obtain ⟨_, h2⟩ := relR_split i (Nat.le_of_lt hi) h
  rw [List.drop_eq_getElem_cons hi] at h2
  obtain ⟨c, d, e1, h3, _⟩ := h2
  rw [e1, ← relC_len e _ c h3, List.take_left']
  · exact h3
  · rfl

end Ev


namespace Ev
open Go

/-! Symbolic values against values. -/
def offF : (p : Ty) → Nat → Nat
  | .pair _ _, 0 => 0
  | .pair a b, n + 1 => csz a + offF b n
  | _, _ => 0

def tyF : (p : Ty) → Nat → Ty
  | .pair a _, 0 => a
  | .pair _ b, n + 1 => tyF b n
  | t, _ => t

def pathOff : List Nat → Ty → Nat
  | [], _ => 0
  | f :: r, .st p => offF p f + pathOff r (tyF p f)
  | _ :: _, _ => 0

/-- Whose block is no one's but this one's. -/
def live : Obj → Bool
  | .box _ => true
  | .vec _ _ fr s => !s.nil && !fr
  | .map _ _ _ => true
  | .dead => false
  | .none => false

/-- An own slice of no elements and no room, whose block is no one's to write: told by its address's spot. -/
def capless : Obj → Addr → Bool
  | .vec _ _ _ _, a => a.spot.isSome
  | _, _ => false
def excl (a : Addr) (x : Obj) : Bool := live x && !capless x a
def bare (a : Addr) : Addr := ⟨a.block, a.off, none⟩
theorem bare_of {a : Addr} (h : a.spot = none) : bare a = a := by cases a; cases h; rfl
theorem excl_vec {a : Addr} {t : Ty} {ver : Nat} {s : Sl (den t)} (hn : s.nil = false) (ha : a.spot = none) : excl a (.vec t ver false s) = true := by simp [excl, live, capless, hn, ha]
theorem excl_none {a : Addr} (h : excl a .none = true) : False := by simp [excl, live] at h
theorem excl_live {a : Addr} {x : Obj} (h : excl a x = true) : live x = true := by unfold excl at h; rw [Bool.and_eq_true] at h; exact h.1
theorem excl_spot {a : Addr} {t : Ty} {ver : Nat} {fr : Bool} {s : Sl (den t)} (h : excl a (.vec t ver fr s) = true) : s.nil = false ∧ fr = false ∧ a.spot = none := by
  have h : (!s.nil && !fr && !a.spot.isSome) = true := h
  cases hn : s.nil <;> cases fr <;> cases hs : a.spot <;> simp [hn, hs] at h ⊢
theorem excl_capless {a : Addr} {x : Obj} (h : live x = true) : excl a x = true ∨ ∃ t ver s, x = .vec t ver false s ∧ s.nil = false ∧ a.spot ≠ none := by
  cases x with
  | vec t ver fr s =>
    cases hs : a.spot with
    | none => left; simp [excl, capless, h, hs]
    | some n =>
      right
      have h : (!s.nil && !fr) = true := h
      refine ⟨t, ver, s, ?_, ?_, by simp⟩
      · cases fr <;> simp at h ⊢
      · cases hn : s.nil <;> simp [hn] at h ⊢
  | box cs => left; rfl
  | map k v m => left; rfl
  | dead => cases h
  | none => cases h

def owned (φ : Nat → Addr) (o : Nat → Obj) (b : Nat) : Prop := ∃ id, excl (φ id) (o id) = true ∧ (φ id).block = b

def immB (X : Nat → Prop) (φ : Nat → Addr) (o : Nat → Obj) (w : World) (b : Nat) : Prop := b < w.heap.size ∧ ¬ X b ∧ ¬ owned φ o b

/-- Cells of a block that may be written: so many, from an address on. -/
def room (w : World) (a : Addr) (n : Nat) : Prop :=
  ∃ c el lo hi, w.heap[a.block]? = some (.cells c el (lo, hi)) ∧ a.off + n ≤ c.size ∧ (hi ≤ lo ∨ hi ≤ a.off ∨ a.off + n ≤ lo)

/-- An own slice, or so many of its elements. -/
def relOwn (w : World) (a : Addr) (nil fr : Bool) (sz n : Nat) (v : Value) : Prop :=
  (nil = true ∧ v = .slice none 0 0) ∨ (nil = false ∧ ∃ cap, v = .slice (some (bare a)) n cap ∧ n ≤ cap ∧ (a.spot.isSome = true → cap = 0) ∧ (fr = false → a.spot = none → room w a (cap * sz)))

/-- The end of an own slice, from a place on. -/
def relSuf (a : Addr) (nil : Bool) (sz : Nat) (lo : Int) (n : Nat) (v : Value) : Prop :=
  ∃ k : Nat, lo = (k : Int) ∧ k ≤ n ∧ ((nil = true ∧ v = .slice none 0 0) ∨ (nil = false ∧ ∃ cap, v = .slice (some (if cap = 0 then bare a else ⟨a.block, a.off + k * sz, none⟩)) (n - k) cap ∧ n - k ≤ cap))

mutual
def relVal (φ : Nat → Addr) (o : Nat → Obj) (imm : Nat → Prop) (w : World) : V → Value → Prop
  | .d t x, v => relV imm w t x v
  | .osl id ver, v => match o id with
    | .vec t ver' fr s => ver ≤ ver' ∧ (ver = ver' → relOwn w (φ id) s.nil fr (csz t) s.l.length v)
    | .none => False
    | _ => True
  | .pre id ver n cp, v => match o id with
    | .vec t ver' fr s => ver ≤ ver' ∧ (ver = ver' → n ≤ s.l.length ∧ relOwn w (φ id) s.nil fr (csz t) n v ∧ (cp = true → ∀ a m c, v = .slice a m c → c = n))
    | .none => False
    | _ => True
  | .ptr id off, v => match o id with
    | .none => False
    | .dead => True
    | .vec _ ver _ _ => ver = 0 → v = .pointer (some ⟨(φ id).block, (φ id).off + off, none⟩)
    | _ => v = .pointer (some ⟨(φ id).block, (φ id).off + off, none⟩)
  | .eptr id ver i path, v => match o id with
    | .vec t ver' _ s => ver ≤ ver' ∧ (ver = ver' → i < s.l.length ∧ v = .pointer (some ⟨(φ id).block, (φ id).off + i * csz t + pathOff path t, none⟩))
    | .none => False
    | _ => True
  | .ref t x, v => ∃ a cs, v = .pointer (some a) ∧ a.spot = none ∧ imm a.block ∧ relC imm w t x cs ∧ cellsAt w a cs
  | .nilp, v => v = .pointer none
  | .fn f l, v => ∃ c : Array Value, v = .func (.func f) #[] c ∧ relVs φ o imm w l c.toList
  | .nilf, v => v = .nilFunc
  | .tup l, v => ∃ c : Array Value, v = .tuple c ∧ relVs φ o imm w l c.toList
  | .agg l, v => ∃ c : Array Value, v = .agg c ∧ relVs φ o imm w l c.toList
  | .mp id, v => match o id with
    | .none => False
    | .map _ _ _ => v = .map (some (φ id).block)
    | _ => True
  | .nilm, v => v = .map none
  | .nili, v => v = .nilIface
  | .nils, v => v = .slice none 0 0
  | .lb b, v => v = .bool b
  | .undef, v => v = undef
  | .junk, _ => True
  | .slf id b, v => match o id with
    | .none => False
    | .box _ => v = .pointer (bif b then some ⟨(φ id).block, (φ id).off, none⟩ else none)
    | _ => True
  | .suf id ver lo, v => match o id with
    | .vec t ver' _ s => ver ≤ ver' ∧ (ver = ver' → relSuf (φ id) s.nil (csz t) lo s.l.length v)
    | .none => False
    | _ => True
def relVs (φ : Nat → Addr) (o : Nat → Obj) (imm : Nat → Prop) (w : World) : List V → List Value → Prop
  | [], vs => vs = []
  | x :: l, vs => ∃ v r, vs = v :: r ∧ relVal φ o imm w x v ∧ relVs φ o imm w l r
end

def relEs {α β : Type} (f : α → Value → Prop) (g : β → Value → Prop) : List (α × β) → List MapEntry → Prop
  | [], es => es = []
  | p :: l, es => ∃ e r, es = e :: r ∧ f p.1 e.key ∧ g p.2 e.val ∧ relEs f g l r

/-- An object against memory. -/
def relObj (φ : Nat → Addr) (o : Nat → Obj) (imm : Nat → Prop) (w : World) (id : Nat) : Obj → Prop
  | .box cs => (φ id).off = 0 ∧ ∃ c el lo hi, w.heap[(φ id).block]? = some (.cells c el (lo, hi)) ∧ hi ≤ lo ∧ relVs φ o imm w cs c.toList
  | .vec t _ fr s => s.l.length ≤ maxL ∧ (s.nil = true → s.l = []) ∧ (s.nil = false → ((φ id).spot = none ∧ ∃ ec, relR (relC imm w t) s.l ec ∧ cellsAt w (φ id) ec ∧
      room w (φ id) 0 ∧ (fr = false → room w (φ id) (s.l.length * csz t)) ∧ (fr = true → imm (φ id).block)) ∨ ((φ id).spot ≠ none ∧ s.l = [] ∧ t ≠ .int .u8))
  | .map k v m => ∃ es clock, w.heap[(φ id).block]? = some (.map es clock) ∧ relEs (relV imm w k) (relV imm w v) m es.toList
  | .dead => True
  | .none => True

/-- Own bytes lie in a row of bytes; what points to itself, in its own type. -/
def ElsAt (C : Cx) (w : World) (a : Addr) : Obj → Prop
  | .vec t _ _ s => t = .int .u8 → s.nil = false → ∃ c el fz, w.heap[a.block]? = some (.cells c el fz) ∧ C.P.underlying el = some (.int .u8) ∧ (fz.1 = fz.2 ∨ c.size ≤ fz.1)
  | .box cs => isSlf cs = true → ∃ c fz, w.heap[a.block]? = some (.cells c C.bld fz)
  | _ => True

/-- The objects against a world. X, the blocks of others. -/
structure MRel (C : Cx) (X : Nat → Prop) (φ : Nat → Addr) (o : Nat → Obj) (w : World) : Prop where
  objs : ∀ id, relObj φ o (immB X φ o w) w id (o id)
  inj : ∀ i j, excl (φ i) (o i) = true → excl (φ j) (o j) = true → (φ i).block = (φ j).block → i = j
  sep : ∀ i, excl (φ i) (o i) = true → (φ i).block < w.heap.size ∧ ¬ X (φ i).block
  xs : ∀ b, X b → b < w.heap.size
  els : ∀ id, ElsAt C w (φ id) (o id)
  globs : ∀ g t x, C.glob g = some ⟨t, x⟩ → relVal φ o (immB X φ o w) w (.ref t x) (.pointer (some ⟨g, 0, none⟩))

/-- What is alive and has no block of its own has no elements, in a block that is no one's to write. -/
theorem MRel.cap {C : Cx} {X : Nat → Prop} {φ : Nat → Addr} {o : Nat → Obj} {w : World} (hm : MRel C X φ o w) {id : Nat} {t : Ty} {ver : Nat} {fr : Bool} {s : Sl (den t)} (h : o id = .vec t ver fr s) (hn : s.nil = false) (hs : (φ id).spot ≠ none) :
    s.l = [] ∧ t ≠ .int .u8 := by
  have := hm.objs id
  rw [h] at this
  rcases this.2.2 hn with h1 | h1
  · exact absurd h1.1 hs
  · exact h1.2
theorem MRel.elsC {C : Cx} {X : Nat → Prop} {φ : Nat → Addr} {o : Nat → Obj} {w : World} (hm : MRel C X φ o w) (id : Nat) : ∀ ver fr (s : Sl (den (.int .u8))), o id = .vec (.int .u8) ver fr s → s.nil = false → (φ id).spot = none := by
  intro ver fr s h hn
  apply Classical.byContradiction
  intro hs
  exact (hm.cap h hn hs).2 rfl
/-- A state against a frame and a world. -/
structure Rel (C : Cx) (nt : Nat) (X : Nat → Prop) (φ : Nat → Addr) (st : St) (a : Act) (w : World) : Prop extends MRel C X φ st.obj w where
  size : a.tmps.size = nt
  env : ∀ t, relVal φ st.obj (immB X φ st.obj w) w (st.env t) (a.tmps.getD t undef)
  defers : a.defers = []

theorem relV_mono {imm imm' : Nat → Prop} {w w' : World} (hi : ∀ b, imm b → imm' b) (hw : ∀ b, imm b → w'.heap[b]? = w.heap[b]?)
    (t : Ty) (x : den t) (v : Value) (h : relV imm w t x v) : relV imm' w' t x v := by
  cases t with
  | st p => obtain ⟨cs, h1, h2⟩ := h; exact ⟨cs, h1, relC_mono hi hw p x _ h2⟩
  | arr n e => obtain ⟨cs, h1, h2⟩ := h; exact ⟨cs, h1, relC_mono hi hw (.arr n e) x _ h2⟩
  | unit => exact h
  | pair a b => exact h
  | int k => exact relC_mono hi hw (.int k) x _ h
  | bool => exact relC_mono hi hw .bool x _ h
  | str => exact relC_mono hi hw .str x _ h
  | sl e => exact relC_mono hi hw (.sl e) x _ h

theorem room_congr {w w' : World} {a : Addr} {n : Nat} (h : w'.heap[a.block]? = w.heap[a.block]?) (hr : room w a n) : room w' a n := by
  obtain ⟨c, el, lo, hi, h1, h2, h3⟩ := hr
  exact ⟨c, el, lo, hi, by rw [h, h1], h2, h3⟩

theorem relOwn_congr {w w' : World} {a : Addr} {nil fr : Bool} {sz n : Nat} {v : Value} (h : nil = false → fr = false → a.spot = none → w'.heap[a.block]? = w.heap[a.block]?)
    (hr : relOwn w a nil fr sz n v) : relOwn w' a nil fr sz n v :=
  hr.imp id fun ⟨hn, cap, h1, h2, h4, h3⟩ => ⟨hn, cap, h1, h2, h4, fun hf hs => room_congr (h hn hf hs) (h3 hf hs)⟩

/-- A block of cells stays one of its type. -/
def ElKept (w w' : World) (b : Nat) : Prop := ∀ c el fz, w.heap[b]? = some (.cells c el fz) → ∃ c', w'.heap[b]? = some (.cells c' el fz) ∧ c'.size = c.size

theorem ElKept.same {w w' : World} {b : Nat} (h : w'.heap[b]? = w.heap[b]?) : ElKept w w' b := fun c el fz e => ⟨c, by rw [h]; exact e, rfl⟩

theorem ElsAt.keep {C : Cx} {w w' : World} {a : Addr} {x : Obj} (h : ElsAt C w a x) (hb : excl a x = true → ElKept w w' a.block) (hf : ∀ ver (s : Sl (den (.int .u8))), x = .vec (.int .u8) ver true s → s.nil = false → ElKept w w' a.block)
    (hc : ∀ ver fr (s : Sl (den (.int .u8))), x = .vec (.int .u8) ver fr s → s.nil = false → a.spot = none) : ElsAt C w' a x := by
  cases x with
  | vec t ver fr s =>
    intro ht hn
    obtain ⟨c, el, fz, h1, h2, h4⟩ := h ht hn
    subst ht
    have hk : ElKept w w' a.block := by
      cases fr with
      | true => exact hf _ _ rfl hn
      | false => exact hb (excl_vec hn (hc _ _ _ rfl hn))
    obtain ⟨c', h3, h5⟩ := hk _ _ _ h1
    exact ⟨c', el, fz, h3, h2, by rw [h5]; exact h4⟩
  | box cs =>
    intro hs
    obtain ⟨c, fz, h1⟩ := h hs
    obtain ⟨c', h2, _⟩ := (hb rfl) _ _ _ h1
    exact ⟨c', fz, h2⟩
  | map k v m => trivial
  | dead => trivial
  | none => trivial

/-- How an object may turn, so that what speaks of it stays true. -/
def Up (w w' : World) (a a' : Addr) : Obj → Obj → Prop
  | .none, _ => True
  | _, .dead => True
  | .box _, .box _ => a' = a
  | .map _ _ _, .map _ _ _ => a' = a
  | .vec t ver fr s, .vec t' ver' fr' s' => ver < ver' ∨ (ver = ver' ∧ t = t' ∧ s.nil = s'.nil ∧ s.l.length = s'.l.length ∧ a' = a ∧ (fr' = false → fr = false ∧ (s.nil = false → a.spot = none → ∀ n, room w a n → room w' a n)))
  | _, _ => False

theorem Up.same {w w' : World} {a : Addr} {x : Obj} (h : excl a x = true → ∀ n, room w a n → room w' a n) : Up w w' a a x x := by
  cases x with
  | vec t ver fr s => exact .inr ⟨rfl, rfl, rfl, rfl, rfl, fun hf => ⟨hf, fun hn hs => h (by subst hf; exact excl_vec hn hs)⟩⟩
  | box cs => exact rfl
  | map k v m => exact rfl
  | dead => trivial
  | none => trivial

theorem relOwn_up {w w' : World} {a : Addr} {nil fr fr' : Bool} {sz n : Nat} {v : Value} (h : fr' = false → fr = false ∧ (nil = false → a.spot = none → ∀ n, room w a n → room w' a n))
    (hr : relOwn w a nil fr sz n v) : relOwn w' a nil fr' sz n v :=
  hr.imp id fun ⟨hn, cap, h1, h2, h4, h3⟩ => ⟨hn, cap, h1, h2, h4, fun hf hs => (h hf).2 hn hs _ (h3 (h hf).1 hs)⟩

/-- A value is what it was, where what is no one's to write is as it was, and the objects have turned as they may. -/
theorem relVal_up {φ φ' : Nat → Addr} {o o' : Nat → Obj} {imm imm' : Nat → Prop} {w w' : World} (hi : ∀ b, imm b → imm' b) (hw : ∀ b, imm b → w'.heap[b]? = w.heap[b]?)
    (ho : ∀ id, Up w w' (φ id) (φ' id) (o id) (o' id)) :
    ∀ (x : V) (v : Value), relVal φ o imm w x v → relVal φ' o' imm' w' x v := by
  intro x
  refine V.rec (motive_1 := fun x => ∀ v, relVal φ o imm w x v → relVal φ' o' imm' w' x v) (motive_2 := fun l => ∀ vs, relVs φ o imm w l vs → relVs φ' o' imm' w' l vs)
    ?_ ?_ ?_ ?_ ?_ ?_ ?_ ?_ ?_ ?_ ?_ ?_ ?_ ?_ ?_ ?_ ?_ ?_ ?_ ?_ ?_ ?_ x
  · exact fun t x v h => relV_mono hi hw t x v h
  · intro id ver v h
    have hu := ho id
    unfold relVal at *
    revert h hu
    cases o id <;> cases o' id <;> simp only [Up] <;> intro hu h <;> first | trivial | exact h.elim | exact hu.elim | skip
    obtain ⟨h0, h⟩ := h
    rcases hu with hu | ⟨e1, e2, e3, e4, e5, e6⟩
    · exact ⟨by omega, fun e => by omega⟩
    · subst e1 e2
      exact ⟨h0, fun e => by rw [e5, ← e3, ← e4]; exact relOwn_up e6 (h e)⟩
  · intro id ver n cp v h
    have hu := ho id
    unfold relVal at *
    revert h hu
    cases o id <;> cases o' id <;> simp only [Up] <;> intro hu h <;> first | trivial | exact h.elim | exact hu.elim | skip
    obtain ⟨h0, h⟩ := h
    rcases hu with hu | ⟨e1, e2, e3, e4, e5, e6⟩
    · exact ⟨by omega, fun e => by omega⟩
    · subst e1 e2
      refine ⟨h0, fun e => ?_⟩
      obtain ⟨h1, h2, h3⟩ := h e
      exact ⟨by omega, by rw [e5, ← e3]; exact relOwn_up e6 h2, h3⟩
  · intro id off v h
    have hu := ho id
    unfold relVal at *
    revert h hu
    cases o id <;> cases o' id <;> simp only [Up] <;> intro hu h <;> first | trivial | exact h.elim | exact hu.elim | (rw [hu]; exact h) | skip
    rcases hu with hu | ⟨e1, e2, e3, e4, e5, e6⟩
    · intro e; omega
    · subst e1; rw [e5]; exact h
  · intro id ver i path v h
    have hu := ho id
    unfold relVal at *
    revert h hu
    cases o id <;> cases o' id <;> simp only [Up] <;> intro hu h <;> first | trivial | exact h.elim | exact hu.elim | skip
    obtain ⟨h0, h⟩ := h
    rcases hu with hu | ⟨e1, e2, e3, e4, e5, e6⟩
    · exact ⟨by omega, fun e => by omega⟩
    · subst e1 e2
      refine ⟨h0, fun e => ?_⟩
      obtain ⟨h1, h2⟩ := h e
      exact ⟨by omega, by rw [e5]; exact h2⟩
  · exact fun t x v ⟨a, cs, h1, h2, h3, h4, h5⟩ => ⟨a, cs, h1, h2, hi _ h3, relC_mono hi hw t x cs h4, cellsAt_congr (hw _ h3) h5⟩
  · exact fun v h => h
  · exact fun f l ih v ⟨c, h1, h2⟩ => ⟨c, h1, ih _ h2⟩
  · exact fun v h => h
  · exact fun l ih v ⟨c, h1, h2⟩ => ⟨c, h1, ih _ h2⟩
  · exact fun l ih v ⟨c, h1, h2⟩ => ⟨c, h1, ih _ h2⟩
  · intro id v h
    have hu := ho id
    unfold relVal at *
    revert h hu
    cases o id <;> cases o' id <;> simp only [Up] <;> intro hu h <;> first | trivial | exact h.elim | exact hu.elim | (rw [hu]; exact h) | exact h
  · exact fun v h => h
  · exact fun v h => h
  · exact fun v h => h
  · exact fun b v h => h
  · exact fun v h => h
  · exact fun v h => h
  · intro id b v h
    have hu := ho id
    unfold relVal at *
    revert h hu
    cases o id <;> cases o' id <;> simp only [Up] <;> intro hu h <;> first | trivial | exact h.elim | exact hu.elim | (rw [hu]; exact h) | exact h
  · intro id ver lo v h
    have hu := ho id
    unfold relVal at *
    revert h hu
    cases o id <;> cases o' id <;> simp only [Up] <;> intro hu h <;> first | trivial | exact h.elim | exact hu.elim | skip
    obtain ⟨h0, h⟩ := h
    rcases hu with hu | ⟨e1, e2, e3, e4, e5, e6⟩
    · exact ⟨by omega, fun e => by omega⟩
    · subst e1 e2
      refine ⟨h0, fun e => ?_⟩
      rw [e5, ← e3, ← e4]
      exact h e
  · exact fun vs h => h
  · exact fun x l ih1 ih2 vs ⟨v, r, h1, h2, h3⟩ => ⟨v, r, h1, ih1 _ h2, ih2 _ h3⟩

/-- A block of an object that is written. -/
def hit (ks : List Nat) (φ : Nat → Addr) (o : Nat → Obj) (b : Nat) : Prop := ∃ id, id ∈ ks ∧ excl (φ id) (o id) = true ∧ (φ id).block = b

/-- What lies outside memory stays as it is. -/
def Still (w w' : World) : Prop := w'.os = w.os ∧ w'.output = w.output

/-- What an operation comes to. -/
structure Comes (C : Cx) (X : Nat → Prop) (φ φ' : Nat → Addr) (o : Nat → Obj) (u : List (Nat × Obj)) (w w' : World) (v : V) (val : Value) : Prop where
  mem : MRel C X φ' (upds o u) w'
  val : relVal φ' (upds o u) (immB X φ' (upds o u) w') w' v val
  up : ∀ id, Up w w' (φ id) (φ' id) (o id) (upds o u id)
  size : w.heap.size ≤ w'.heap.size
  frame : ∀ b, b < w.heap.size → ¬ hit (keysU u) φ o b → w'.heap[b]? = w.heap[b]?
  phi : ∀ id, o id ≠ .none → id ∉ keysU u → φ' id = φ id
  news : ∀ id, excl (φ' id) (upds o u id) = true → w.heap.size ≤ (φ' id).block ∨ owned φ o (φ' id).block
  still : Still w w'

theorem Comes.imm {C : Cx} {X : Nat → Prop} {φ φ' : Nat → Addr} {o : Nat → Obj} {u : List (Nat × Obj)} {w w' : World} {v : V} {val : Value}
    (h : Comes C X φ φ' o u w w' v val) (b : Nat) (hb : immB X φ o w b) : immB X φ' (upds o u) w' b := by
  obtain ⟨h1, h2, h3⟩ := hb
  refine ⟨Nat.lt_of_lt_of_le h1 h.size, h2, fun ⟨id, e1, e2⟩ => ?_⟩
  rcases h.news id e1 with e3 | e3
  · omega
  · exact h3 (e2 ▸ e3)

theorem Comes.stays {C : Cx} {X : Nat → Prop} {φ φ' : Nat → Addr} {o : Nat → Obj} {u : List (Nat × Obj)} {w w' : World} {v : V} {val : Value}
    (h : Comes C X φ φ' o u w w' v val) (b : Nat) (hb : immB X φ o w b) : w'.heap[b]? = w.heap[b]? :=
  h.frame b hb.1 fun ⟨id, _, e1, e2⟩ => hb.2.2 ⟨id, e1, e2⟩

/-- What was related stays related. -/
theorem Comes.keeps {C : Cx} {X : Nat → Prop} {φ φ' : Nat → Addr} {o : Nat → Obj} {u : List (Nat × Obj)} {w w' : World} {v : V} {val : Value}
    (h : Comes C X φ φ' o u w w' v val) (x : V) (z : Value) (hx : relVal φ o (immB X φ o w) w x z) : relVal φ' (upds o u) (immB X φ' (upds o u) w') w' x z :=
  relVal_up h.imm h.stays h.up x z hx

def Out (C : Cx) (X : Nat → Prop) (φ : Nat → Addr) (o : Nat → Obj) (w : World) (v : V) (u : List (Nat × Obj)) (r : Result Next) : Prop :=
  ∃ val w' φ', r = .ok (.value val) w' ∧ Comes C X φ φ' o u w w' v val

end Ev


namespace Ev
open Go

section
variable {C : Cx} {X : Nat → Prop} {φ : Nat → Addr} {o : Nat → Obj} {w : World}

/-- Nothing turns. -/
theorem Comes.same {v : V} {val : Value} (hm : MRel C X φ o w) (hv : relVal φ o (immB X φ o w) w v val) : Comes C X φ φ o [] w w v val :=
  ⟨hm, hv, fun _ => Up.same fun _ _ h => h, Nat.le_refl _, fun _ _ _ => rfl, fun _ _ _ => rfl, fun id h => .inr ⟨id, h, rfl⟩, ⟨rfl, rfl⟩⟩

theorem Out.same {v : V} {val : Value} {r : Result Next} (hm : MRel C X φ o w) (hr : r = .ok (.value val) w) (hv : relVal φ o (immB X φ o w) w v val) : Out C X φ o w v [] r :=
  ⟨val, w, φ, hr, .same hm hv⟩

theorem relVal_unlb {imm : Nat → Prop} {x : V} {v : Value} (h : relVal φ o imm w x v) : relVal φ o imm w (unlb x) v := by
  cases x <;> first | exact h | skip
  simp only [unlb, relVal, relV, relC] at *
  simp [h]

theorem inKb_spec {k : IntKind} {n : Int} (h : inKb k n = true) : inK k n := by
  simpa [inKb, inK] using h

theorem relVal_cst {imm : Nat → Prop} (v : Value) : relVal φ o imm w (cst v) v := by
  unfold cst
  split
  · simp [relVal, relV, relC]
  · rename_i k n
    cases h : inKb k n
    · simp [relVal]
    · simp [relVal, relV, relC, inKb_spec h]
  · rename_i s
    cases h : Nat.ble s.size 1000000
    · simp [relVal]
    · simp only [cond_true, relVal, relV, relC]
      refine ⟨s, rfl, rfl, ?_⟩
      have := Nat.le_of_ble_eq_true h
      unfold maxL; omega
  all_goals simp [relVal]

theorem Rel.opd {nt : Nat} {st : St} {a : Act} (h : Rel C nt X φ st a w) (x : Operand) : relVal φ st.obj (immB X φ st.obj w) w (opd C st.env x) (a.eval x) := by
  cases x with
  | tmp t =>
    exact relVal_unlb (h.env t)
  | const v => exact relVal_cst v
  | global g =>
    simp only [Ev.opd, Act.eval]
    split
    · rename_i e; exact h.globs _ _ _ e
    · simp [relVal]
  | func f => exact ⟨#[], rfl, rfl⟩
end
end Ev


namespace Ev
open Go

/-- A step comes to a value and new objects. -/
def Pk.gives (p : Pk) (v : V) (u : List (Nat × Obj)) : Prop := match p with
  | .fail => False
  | .nowU v' u' => v' = v ∧ u' = u
  | .dyn _ x out => ∃ y, x = some y ∧ out y = (v, u)

@[simp] theorem gives_fail {v : V} {u : List (Nat × Obj)} : Pk.fail.gives v u ↔ False := Iff.rfl
@[simp] theorem gives_now {v v' : V} {u u' : List (Nat × Obj)} : (Pk.now v u).gives v' u' ↔ v = v' ∧ u = u' := Iff.rfl
@[simp] theorem gives_dyn {α : Type} {x : Option α} {out : α → V × List (Nat × Obj)} {v : V} {u : List (Nat × Obj)} :
    (Pk.dyn α x out).gives v u ↔ ∃ y, x = some y ∧ out y = (v, u) := Iff.rfl
@[simp] theorem gives_dynD {t : Ty} {x : Option (den t)} {v : V} {u : List (Nat × Obj)} :
    (Pk.dynD x).gives v u ↔ ∃ y, x = some y ∧ (V.d t y, []) = (v, u) := Iff.rfl
@[simp] theorem gives_when {b : Bool} {p : Pk} {v : V} {u : List (Nat × Obj)} : (Pk.when b p).gives v u ↔ b = true ∧ p.gives v u := by
  cases b <;> simp [Pk.when]

section
variable {P : Program} {C : Cx} {X : Nat → Prop} {φ : Nat → Addr} {o : Nat → Obj} {w : World} {imm : Nat → Prop}

theorem rel_int {k : IntKind} {n : Int} {z : Value} (h : relVal φ o imm w (.d (.int k) n) z) : z = .int k n ∧ inK k n := by
  simpa [relVal, relV, relC] using h
theorem rel_bool {b : Bool} {z : Value} (h : relVal φ o imm w (.d .bool b) z) : z = .bool b := by
  simpa [relVal, relV, relC] using h
theorem rel_str {l : List Int} {z : Value} (h : relVal φ o imm w (.d .str l) z) :
    ∃ s : ByteArray, z = .string s ∧ s.data.toList.map (fun b => (b.toNat : Int)) = l ∧ s.size ≤ maxL := by
  simp only [relVal, relV, relC] at h
  obtain ⟨s, h1, h2, h3⟩ := h
  exact ⟨s, by simpa using h1, h2, h3⟩
theorem mk_int {k : IntKind} {n : Int} (h : inK k n) : relVal φ o imm w (.d (.int k) n) (.int k n) := by
  simpa [relVal, relV, relC] using h
theorem mk_bool {b : Bool} : relVal φ o imm w (.d .bool b) (.bool b) := by
  simp [relVal, relV, relC]
theorem mk_str {s : ByteArray} {l : List Int} (h : s.data.toList.map (fun b => (b.toNat : Int)) = l) (hl : s.size ≤ maxL) : relVal φ o imm w (.d .str l) (.string s) := by
  simp only [relVal, relV, relC]
  exact ⟨s, rfl, h, hl⟩

theorem wrap_in (k : IntKind) (n : Int) : inK k (k.wrap n) := by
  unfold inK IntKind.wrap IntKind.min IntKind.max
  cases k <;> simp [IntKind.bits, IntKind.signed] <;> (try split) <;> omega

/-- A computation that leaves the world alone comes to a value that is told. -/
def pureOk (P : Program) (φ : Nat → Addr) (o : Nat → Obj) (imm : Nat → Prop) (w : World) (v : V) (s : Sem Value) : Prop :=
  ∃ val, s.run P w = .ok val w ∧ relVal φ o imm w v val

theorem in_zero (k : IntKind) : inK k 0 := by
  unfold inK IntKind.min IntKind.max
  cases k <;> simp [IntKind.bits, IntKind.signed]

theorem tmod_in {k : IntKind} {a b : Int} (h : inK k a) : inK k (a.tmod b) := by
  have h1 : (a.tmod b).natAbs ≤ a.natAbs := by rw [Int.natAbs_tmod]; exact Nat.mod_le _ _
  have hz := in_zero k
  unfold inK at *
  rcases Int.le_total 0 a with h0 | h0
  · have := Int.tmod_nonneg b h0
    omega
  · have := Int.tmod_nonneg b (show 0 ≤ -a by omega)
    rw [Int.neg_tmod] at this
    omega

theorem intPk_ok {op : BinOp} {k : IntKind} {a b : Int} {v : V} {u : List (Nat × Obj)} (ha : inK k a) (h : (intPk lf op k a b).gives v u) (t : TypeId) :
    u = [] ∧ pureOk P φ o imm w v (binOp op t (.int k a) (.int k b)) := by
  cases op <;> simp only [intPk, gives_now, gives_dynD, gives_fail] at h
  case quo =>
    obtain ⟨y, h1, h2⟩ := h
    simp only [Prod.mk.injEq] at h2
    obtain ⟨rfl, rfl⟩ := h2
    simp only [lf, quoI] at h1
    split at h1
    · cases h1
    · rename_i hb
      simp only [Option.some.injEq] at h1
      subst h1
      exact ⟨rfl, .int k _, by simp [binOp, Op.intDiv, hb, pure], mk_int (wrap_in _ _)⟩
  case rem =>
    obtain ⟨y, h1, h2⟩ := h
    simp only [Prod.mk.injEq] at h2
    obtain ⟨rfl, rfl⟩ := h2
    simp only [lf, remI] at h1
    split at h1
    · cases h1
    · rename_i hb
      simp only [Option.some.injEq] at h1
      subst h1
      exact ⟨rfl, .int k _, by simp [binOp, Op.intDiv, hb, pure], mk_int (tmod_in ha)⟩
  all_goals
    obtain ⟨rfl, rfl⟩ := h
    refine ⟨rfl, ?_⟩
    first
    | exact ⟨.int k _, by simp [binOp, Op.intArith, Op.intBits, lf, addI, subI, mulI, andI, orI, xorI, andNotI, pure], mk_int (wrap_in _ _)⟩
    | exact ⟨.bool _, by simp [binOp, Op.intCmp, lf, ltI, leI, eqI, notB, pure, bne], mk_bool⟩
end
end Ev


namespace Ev
open Go

def bl (s : ByteArray) : List Int := s.data.toList.map fun b => (b.toNat : Int)

theorem u8_inj {a b : UInt8} (h : (a.toNat : Int) = (b.toNat : Int)) : a = b := by
  apply UInt8.toNat_inj.1
  omega

theorem map_u8_beq : ∀ (x y : List UInt8), (x.map (fun b => (b.toNat : Int)) == y.map (fun b => (b.toNat : Int))) = (x == y)
  | [], [] => rfl
  | [], _ :: _ => rfl
  | _ :: _, [] => rfl
  | a :: x, b :: y => by
    have e : (((a.toNat : Nat) : Int) == ((b.toNat : Nat) : Int)) = (a == b) := by
      rw [Bool.eq_iff_iff]; simp only [beq_iff_eq]
      exact ⟨u8_inj, fun h => by rw [h]⟩
    have ih := map_u8_beq x y
    simp only [List.map_cons, List.cons_beq_cons, e, ih]

theorem strLt_map : ∀ (x y : List UInt8), strLt (x.map fun b => (b.toNat : Int)) (y.map fun b => (b.toNat : Int)) = Op.bytesLess x y
  | [], [] => rfl
  | [], _ :: _ => rfl
  | _ :: _, [] => rfl
  | a :: x, b :: y => by
    have e1 : decide (((a.toNat : Nat) : Int) < ((b.toNat : Nat) : Int)) = decide (a < b) := by
      rw [decide_eq_decide, UInt8.lt_iff_toNat_lt]; omega
    have e2 : decide (((a.toNat : Nat) : Int) = ((b.toNat : Nat) : Int)) = (a == b) := by
      rw [Bool.eq_iff_iff]; simp only [decide_eq_true_eq, beq_iff_eq]
      exact ⟨u8_inj, fun h => by rw [h]⟩
    simp only [List.map_cons, strLt, Op.bytesLess, e1, e2, strLt_map x y]

theorem eqS_bl (a b : ByteArray) : eqS (bl a) (bl b) = (a.toList == b.toList) := by
  rw [ByteArray.toList_eq, ByteArray.toList_eq]; exact map_u8_beq _ _

theorem strLt_bl (a b : ByteArray) : strLt (bl a) (bl b) = Op.bytesLess a.toList b.toList := by
  rw [ByteArray.toList_eq, ByteArray.toList_eq]; exact strLt_map _ _

theorem bl_length (a : ByteArray) : (bl a).length = a.size := by
  unfold bl; rw [List.length_map]; rfl

theorem bl_append (a b : ByteArray) : bl (a ++ b) = bl a ++ bl b := by
  unfold bl; rw [← List.map_append, ByteArray.data_append, Array.toList_append]

section
variable {P : Program} {φ : Nat → Addr} {o : Nat → Obj} {w : World} {imm : Nat → Prop}

theorem strPk_ok {op : BinOp} {a b : ByteArray} {v : V} {u : List (Nat × Obj)} (h : (strPk lf op (bl a) (bl b)).gives v u) (t : TypeId) :
    u = [] ∧ pureOk P φ o imm w v (binOp op t (.string a) (.string b)) := by
  cases op <;> simp only [strPk, gives_now, gives_dyn, gives_fail] at h
  case add =>
    obtain ⟨y, h1, h2⟩ := h
    simp only [Prod.mk.injEq] at h2
    obtain ⟨rfl, rfl⟩ := h2
    simp only [lf, fit, sumI, lenI, bl_length] at h1
    split at h1
    · rename_i hb
      refine ⟨rfl, .string (a ++ b), ?_, ?_⟩
      · simp [binOp, Op.stringOp, pure, Sem.run, IntKind.max, IntKind.signed, IntKind.bits]
        omega
      · refine mk_str (show bl (a ++ b) = bl a ++ bl b from bl_append a b) ?_
        rw [ByteArray.size_append]; unfold maxL; omega
    · cases h1
  all_goals
    obtain ⟨rfl, rfl⟩ := h
    refine ⟨rfl, .bool _, ?_, mk_bool⟩
    simp [binOp, Op.stringOp, lf, notB, andB, eqS_bl, strLt_bl, pure]
end
end Ev


namespace Ev
open Go

section
variable {P : Program} {C : Cx} {φ : Nat → Addr} {o : Nat → Obj} {w : World} {imm : Nat → Prop}

theorem shr_in {k : IntKind} {a : Int} (n : Nat) (h : inK k a) : inK k (a.fdiv (2 ^ n)) := by
  have hp : (0 : Int) < 2 ^ n := Int.pow_pos (by omega)
  rw [Int.fdiv_eq_ediv_of_nonneg _ (Int.le_of_lt hp)]
  have hz := in_zero k
  unfold inK at *
  rcases Int.le_total 0 a with h0 | h0
  · have h1 := Int.ediv_nonneg h0 (Int.le_of_lt hp)
    have h2 : a / 2 ^ n ≤ a := Int.ediv_le_self _ h0
    omega
  · have h1 : a / 2 ^ n ≤ 0 := Int.ediv_nonpos_of_nonpos_of_neg h0 hp
    have h2 : a ≤ a / 2 ^ n := by
      rw [Int.le_ediv_iff_mul_le hp]
      have : a * 2 ^ n ≤ a * 1 := Int.mul_le_mul_of_nonpos_left h0 (by omega)
      omega
    omega

theorem shift_ok {op : BinOp} (hop : op = .shl ∨ op = .shr) {k k' : IntKind} {a b : Int} {v : V} {u : List (Nat × Obj)} (ha : inK k a)
    (h : (match op with | .shl => Pk.dynD (t := .int k) (lf.shlI k a b) | _ => Pk.dynD (t := .int k) (lf.shrI k a b)).gives v u) (t : TypeId) :
    u = [] ∧ pureOk P φ o imm w v (binOp op t (.int k a) (.int k' b)) := by
  rcases hop with rfl | rfl <;> simp only [gives_dynD, Prod.mk.injEq, lf, shlI, shrI] at h <;> obtain ⟨y, h1, rfl, rfl⟩ := h <;> split at h1
  · cases h1
  · rename_i hb
    simp only [Option.some.injEq] at h1; subst h1
    exact ⟨rfl, .int k _, by simp [binOp, Op.shift, hb, pure], mk_int (wrap_in _ _)⟩
  · cases h1
  · rename_i hb
    simp only [Option.some.injEq] at h1; subst h1
    exact ⟨rfl, .int k _, by simp [binOp, Op.shift, hb, pure], mk_int (shr_in _ ha)⟩

end
end Ev


namespace Ev
open Go

/-! The table of a program's types that are data. -/
theorem info_of {P : Program} {t : TypeId} {i : TypeInfo} (h : P.types.toList[t]? = some i) : P.info? t = some i := by
  rw [Array.getElem?_toList] at h
  have ht : t < P.types.size := by
    rcases Nat.lt_or_ge t P.types.size with h1 | h1
    · exact h1
    · rw [Array.getElem?_eq_none h1] at h; cases h
  simp only [Tables.info?, ht, if_true]
  exact h

theorem desc_spec {P : Program} {t : TypeId} {d : TypeDesc} (h : desc P t = some d) : P.underlying t = some d := by
  unfold desc at h
  cases h1 : P.types.toList[t]? with
  | none => rw [h1] at h; cases h
  | some i =>
    rw [h1] at h
    unfold Program.underlying
    rw [info_of h1]
    obtain ⟨d', _, _, _, _, _, _, _, _, _⟩ := i
    cases d' <;> simp only at h ⊢ <;> first | exact h | skip
    rename_i u
    cases h2 : P.types.toList[u]? with
    | none => rw [h2] at h; cases h
    | some j => rw [h2] at h; rw [info_of h2]; exact h

theorem kindN_inj {k k' : IntKind} (h : Nat.beq (kindN k) (kindN k') = true) : k = k' := by
  cases k <;> cases k' <;> first | rfl | cases h

theorem tyB_spec : ∀ {a b : Ty}, tyB a b = true → a = b
  | .int k, b, h => by cases b <;> simp only [tyB] at h <;> first | exact congrArg Ty.int (kindN_inj h) | cases h
  | .bool, b, h => by cases b <;> simp only [tyB] at h <;> first | rfl | cases h
  | .str, b, h => by cases b <;> simp only [tyB] at h <;> first | rfl | cases h
  | .unit, b, h => by cases b <;> simp only [tyB] at h <;> first | rfl | cases h
  | .sl e, b, h => by cases b <;> simp only [tyB] at h <;> first | exact congrArg Ty.sl (tyB_spec h) | cases h
  | .st e, b, h => by cases b <;> simp only [tyB] at h <;> first | exact congrArg Ty.st (tyB_spec h) | cases h
  | .pair c d, b, h => by
    cases b <;> simp only [tyB, Bool.and_eq_true] at h <;> first | (rw [tyB_spec h.1, tyB_spec h.2]) | cases h
  | .arr n e, b, h => by
    cases b <;> simp only [tyB, Bool.and_eq_true] at h <;> first | (rw [Nat.eq_of_beq_eq_true h.1, tyB_spec h.2]) | cases h

theorem isTy_spec {T : Ty} {x : Option Ty} (h : isTy T x = true) : x = some T := by
  cases x with
  | none => cases h
  | some T' => exact congrArg some (tyB_spec h)

theorem is_spec {C : Cx} {t : TypeId} {T : Ty} (h : C.is t T = true) : C.ty t = some T := isTy_spec h

/-- Reading zeros off a row of cells. -/
def zeroN (f : List Value → Option (List Value)) : Nat → List Value → Option (List Value)
  | 0, cs => some cs
  | n + 1, cs => match f cs with
    | some r => zeroN f n r
    | none => none

def zeroGo : Ty → List Value → Option (List Value)
  | .int k, .int k' n :: r => bif Nat.beq (kindN k) (kindN k') && decide (n = 0) then some r else none
  | .bool, .bool false :: r => some r
  | .str, .string s :: r => bif Nat.beq s.size 0 then some r else none
  | .sl _, .slice none 0 0 :: r => some r
  | .unit, cs => some cs
  | .pair a b, cs => match zeroGo a cs with
    | some r => zeroGo b r
    | none => none
  | .st p, cs => zeroGo p cs
  | .arr n e, cs => zeroN (zeroGo e) n cs
  | _, _ => none

theorem zeroN_spec {α : Type} {f : List Value → Option (List Value)} {g : α → List Value → Prop} {z : α} (hf : ∀ cs r, f cs = some r → ∃ c, cs = c ++ r ∧ g z c) :
    ∀ (n : Nat) (cs r : List Value), zeroN f n cs = some r → ∃ c, cs = c ++ r ∧ relR g (List.replicate n z) c
  | 0, cs, r, h => by simp only [zeroN, Option.some.injEq] at h; subst h; exact ⟨[], rfl, rfl⟩
  | n + 1, cs, r, h => by
    simp only [zeroN] at h
    split at h
    · rename_i r1 h1
      obtain ⟨c, e1, e2⟩ := hf _ _ h1
      obtain ⟨d, e3, e4⟩ := zeroN_spec hf n _ _ h
      exact ⟨c ++ d, by rw [e1, e3, List.append_assoc], c, d, rfl, e2, e4⟩
    · cases h

theorem zeroGo_spec (imm : Nat → Prop) (w : World) (T : Ty) : ∀ (cs r : List Value), zeroGo T cs = some r → ∃ c, cs = c ++ r ∧ relC imm w T (zero T) c := by
  induction T with
  | int k =>
    intro cs r h
    cases cs with
    | nil => cases h
    | cons v cs =>
      cases v <;> (try simp only [zeroGo] at h) <;> try (cases h; done)
      rename_i k' n
      cases hb : (Nat.beq (kindN k) (kindN k') && decide (n = 0)) with
      | false => rw [hb] at h; cases h
      | true =>
        rw [hb] at h
        simp only [Bool.and_eq_true, decide_eq_true_eq] at hb
        simp only [cond_true, Option.some.injEq] at h
        obtain ⟨h1, rfl⟩ := hb
        have := kindN_inj h1
        subst this h
        exact ⟨[_], rfl, rfl, in_zero k⟩
  | bool =>
    intro cs r h
    cases cs with
    | nil => cases h
    | cons v cs =>
      cases v <;> (try simp only [zeroGo] at h) <;> try (cases h; done)
      rename_i b
      cases b
      · simp only [zeroGo, Option.some.injEq] at h
        subst h
        exact ⟨[_], rfl, rfl⟩
      · cases h
  | str =>
    intro cs r h
    cases cs with
    | nil => cases h
    | cons v cs =>
      cases v <;> (try simp only [zeroGo] at h) <;> try (cases h; done)
      rename_i s
      cases hb : Nat.beq s.size 0 with
      | false => rw [hb] at h; cases h
      | true =>
        rw [hb] at h
        simp only [cond_true, Option.some.injEq] at h
        subst h
        have hz := Nat.eq_of_beq_eq_true hb
        refine ⟨[_], rfl, s, rfl, ?_, by omega⟩
        have : s.data.toList = [] := List.eq_nil_of_length_eq_zero (by simpa using hz)
        rw [this]; rfl
  | sl e _ =>
    intro cs r h
    cases cs with
    | nil => cases h
    | cons v cs =>
      cases v <;> (try simp only [zeroGo] at h) <;> try (cases h; done)
      rename_i a n m
      cases a <;> cases n <;> cases m <;> try (cases h; done)
      have h := Option.some.inj h
      subst h
      exact ⟨[_], rfl, _, rfl, Nat.zero_le _, .inl ⟨rfl, rfl, rfl⟩⟩
  | unit => intro cs r h; simp only [zeroGo, Option.some.injEq] at h; subst h; exact ⟨[], rfl, rfl⟩
  | pair a b iha ihb =>
    intro cs r h
    simp only [zeroGo] at h
    split at h
    · rename_i r1 h1
      obtain ⟨c, e1, e2⟩ := iha _ _ h1
      obtain ⟨d, e3, e4⟩ := ihb _ _ h
      exact ⟨c ++ d, by rw [e1, e3, List.append_assoc], c, d, rfl, e2, e4⟩
    · cases h
  | st p ih => intro cs r h; exact ih _ _ h
  | arr n e ih =>
    intro cs r h
    obtain ⟨c, e1, e2⟩ := zeroN_spec ih n _ _ h
    exact ⟨c, e1, by simp [zero], e2⟩

/-- Fields against the types of a chain. -/
def fieldsB (C : Cx) : List Field → Ty → Nat → Bool
  | [], .unit, _ => true
  | [f], p, off => C.is f.type p && Nat.beq f.offset off
  | f :: g :: r, .pair a b, off => C.is f.type a && Nat.beq f.offset off && fieldsB C (g :: r) b (off + csz a)
  | _, _, _ => false

def descB (C : Cx) : TypeDesc → Ty → Bool
  | .int k, .int k' => Nat.beq (kindN k) (kindN k')
  | .bool, .bool => true
  | .string, .str => true
  | .slice e, .sl e' => C.is e e'
  | .array n e, .arr n' e' => Nat.beq n n' && C.is e e'
  | .struct fs, .st p => fieldsB C fs.toList p 0
  | _, _ => false

def aggT : Ty → Bool
  | .st _ => true | .arr .. => true | _ => false

def isAggV : Value → Bool
  | .agg _ => true | _ => false

def tyChk (C : Cx) (t : TypeId) (T : Ty) : Bool :=
  match C.P.types.toList[t]?, desc C.P t with
  | some i, some d => Nat.beq i.size (csz T) && Nat.ble i.bytes 65536 && descB C d T &&
    (match i.zero with
     | some z => (isAggV z == aggT T) && (match zeroGo T z.cells.toList with | some [] => true | _ => false)
     | none => false)
  | _, _ => false

def tabChk (C : Cx) : List (Nat × Ty) → Bool
  | [] => true
  | p :: r => tyChk C p.1 p.2 && tabChk C r

structure TyOk (C : Cx) (t : TypeId) (T : Ty) : Prop where
  info : ∃ i z, C.P.info? t = some i ∧ C.P.types.toList[t]? = some i ∧ i.size = csz T ∧ i.bytes ≤ 65536 ∧ i.zero = some z ∧ isAggV z = aggT T ∧ ∀ imm w, relC imm w T (zero T) z.cells.toList
  desc : ∃ d, desc C.P t = some d ∧ C.P.underlying t = some d ∧ descB C d T = true

theorem tyChk_spec {C : Cx} {t : TypeId} {T : Ty} (h : tyChk C t T = true) : TyOk C t T := by
  unfold tyChk at h
  split at h
  · rename_i i d h1 h2
    simp only [Bool.and_eq_true] at h
    obtain ⟨⟨⟨h3, h4⟩, h5⟩, h6⟩ := h
    split at h6
    · rename_i z hz
      simp only [Bool.and_eq_true] at h6
      obtain ⟨h7, h8⟩ := h6
      refine ⟨⟨i, z, info_of h1, h1, Nat.eq_of_beq_eq_true h3, Nat.le_of_ble_eq_true h4, hz, ?_, ?_⟩, d, h2, desc_spec h2, h5⟩
      · exact eq_of_beq h7
      · intro imm w
        split at h8
        · rename_i h9
          obtain ⟨c, e1, e2⟩ := zeroGo_spec imm w T _ _ h9
          rw [e1, List.append_nil]; exact e2
        · cases h8
    · cases h6
  · cases h

theorem tabChk_spec {C : Cx} : ∀ {l : List (Nat × Ty)}, tabChk C l = true → ∀ t T, tyIn l t = some T → TyOk C t T
  | [], _, _, _, h => by cases h
  | (a, S) :: r, hc, t, T, h => by
    simp only [tabChk, Bool.and_eq_true] at hc
    simp only [tyIn] at h
    cases hb : Nat.beq a t with
    | true =>
      rw [hb] at h
      simp only [cond_true, Option.some.injEq] at h
      have := Nat.eq_of_beq_eq_true hb
      subst this h
      exact tyChk_spec hc.1
    | false =>
      rw [hb] at h
      exact tabChk_spec hc.2 t T h

/-- A program's tables are as they should be. -/
structure CxOk (C : Cx) : Prop where
  tab : ∀ t T, C.ty t = some T → TyOk C t T
end Ev


namespace Ev
open Go

section
variable {P : Program} {C : Cx} {X : Nat → Prop} {φ : Nat → Addr} {o : Nat → Obj} {w : World} {imm : Nat → Prop}

theorem rel_sl {e : Ty} {s : Sl (den e)} {z : Value} (h : relVal φ o imm w (.d (.sl e) s) z) : s.l.length ≤ maxL ∧
    ((s.nil = true ∧ s.l = [] ∧ z = .slice none 0 0) ∨ (s.nil = false ∧ ∃ a cap ec, z = .slice (some a) s.l.length cap ∧ a.spot = none ∧ (s.l ≠ [] → imm a.block) ∧ relR (relC imm w e) s.l ec ∧ cellsAt w a ec ∧ s.l.length ≤ cap)) := by
  simp only [relVal, relV, relC] at h
  obtain ⟨v, h1, h2, h3⟩ := h
  have : z = v := by simpa using h1
  subst this
  exact ⟨h2, h3⟩

theorem mk_st {p : Ty} {x : den p} {cs : Array Value} (h : relC imm w p x cs.toList) : relVal φ o imm w (.d (.st p) x) (.agg cs) := ⟨cs, rfl, h⟩

theorem ownOf_spec {x : V} {z : Value} {t : Ty} {s : Sl (den t)} (h : relVal φ o imm w x z) (he : ownOf lf o x = some ⟨t, s⟩) (hl : ∀ id, relObj φ o imm w id (o id)) :
    (s.nil = true ∧ s.l = [] ∧ z = .slice none 0 0) ∨ (s.nil = false ∧ ∃ a cap, z = .slice (some a) s.l.length cap) := by
  cases x <;> simp only [ownOf] at he <;> try (cases he; done)
  · rename_i id ver
    have ho := hl id
    unfold relVal at h
    split at he
    · rename_i t' ver' fr s' e1
      rw [e1] at h ho
      cases hb : Nat.beq ver ver' with
      | false => rw [hb] at he; cases he
      | true =>
        rw [hb] at he
        simp only [cond_true, Option.some.injEq, Sigma.mk.injEq] at he
        obtain ⟨rfl, he⟩ := he
        have he := eq_of_heq he
        subst he
        have h := h.2 (Nat.eq_of_beq_eq_true hb)
        rcases h with ⟨h1, h2⟩ | ⟨h1, cap, h2, h3, h4⟩
        · exact .inl ⟨h1, ho.2.1 h1, h2⟩
        · exact .inr ⟨h1, _, cap, h2⟩
    · cases he
  · rename_i id ver n cp
    have ho := hl id
    unfold relVal at h
    split at he
    · rename_i t' ver' fr s' e1
      rw [e1] at h ho
      cases hb : Nat.beq ver ver' with
      | false => rw [hb] at he; cases he
      | true =>
        rw [hb] at he
        simp only [cond_true, Option.some.injEq, Sigma.mk.injEq] at he
        obtain ⟨rfl, he⟩ := he
        have he := eq_of_heq he
        subst he
        obtain ⟨h0, h, _⟩ := h.2 (Nat.eq_of_beq_eq_true hb)
        rcases h with ⟨h1, h2⟩ | ⟨h1, cap, h2, h3, h4⟩
        · exact .inl ⟨h1, by simp [lf, takeL, ho.2.1 h1], h2⟩
        · have e2 : (lf.takeL s'.l n).length = n := by simp [lf, takeL, Nat.min_eq_left h0]
          exact .inr ⟨h1, bare (φ id), cap, by rw [h2]; exact congrArg (fun k => Value.slice (some (bare (φ id))) k cap) e2.symm⟩
    · cases he
  · rename_i id ver lo
    have ho := hl id
    unfold relVal at h
    split at he
    · rename_i t' ver' fr s' e1
      rw [e1] at h ho
      cases hb : Nat.beq ver ver' with
      | false => rw [hb] at he; cases he
      | true =>
        rw [hb] at he
        simp only [cond_true, Option.some.injEq, Sigma.mk.injEq] at he
        obtain ⟨rfl, he⟩ := he
        have he := eq_of_heq he
        subst he
        obtain ⟨k, rfl, hk, h⟩ := h.2 (Nat.eq_of_beq_eq_true hb)
        rcases h with ⟨h1, h2⟩ | ⟨h1, cap, h2, h3⟩
        · exact .inl ⟨h1, by simp [lf, dropL, ho.2.1 h1], h2⟩
        · have e2 : (lf.dropL s'.l (k : Int)).length = s'.l.length - k := by simp [lf, dropL]
          exact .inr ⟨h1, _, cap, by rw [h2]; exact congrArg (fun j => Value.slice _ j cap) e2.symm⟩
    · cases he
end
end Ev


namespace Ev
open Go

def guardless : Value → Bool
  | .nilIface => false | .agg _ => false | _ => true

section
variable {P : Program} {C : Cx} {X : Nat → Prop} {φ : Nat → Addr} {o : Nat → Obj} {w : World} {imm : Nat → Prop}

theorem run_eqGuard {op : BinOp} {t : TypeId} {x y : Operand} {a b : Value} (h : guardless a = true) : (eqGuard op t x y a b).run P w = .ok () w := by
  cases a <;> first | (cases h; done) | (cases op <;> cases b <;> simp [eqGuard])

theorem eqPk_ok {op : BinOp} {t : TypeId} {x y : Value} {b : Bool} {v : V} {u : List (Nat × Obj)} (h : (eqPk lf op b).gives v u)
    (he : (Op.equal t x y).run P w = .ok b w) (hi : ∀ op, op = .eql ∨ op = .neq → binOp op t x y = (match op with | .eql => (do pure (.bool (← Op.equal t x y))) | _ => (do pure (.bool (!(← Op.equal t x y)))))) :
    u = [] ∧ pureOk P φ o imm w v (binOp op t x y) := by
  cases op <;> simp only [eqPk, gives_now, gives_fail] at h
  · obtain ⟨rfl, rfl⟩ := h
    refine ⟨rfl, .bool b, ?_, mk_bool⟩
    rw [hi _ (.inl rfl)]
    simp [he]
  · obtain ⟨rfl, rfl⟩ := h
    refine ⟨rfl, .bool (!b), ?_, mk_bool⟩
    rw [hi _ (.inr rfl)]
    simp [he]

theorem eqKind_spec {t : TypeId} {n : Nat} (h : Nat.beq (eqKind C t) n = true) (hn : n < 5) : ∃ d, C.P.underlying t = some d ∧
    (match n, d with | 0, .bool => True | 1, .slice _ => True | 2, .func .. => True | 3, .pointer _ => True | 4, .map .. => True | _, _ => False) := by
  have h := Nat.eq_of_beq_eq_true h
  unfold eqKind at h
  cases hd : desc C.P t with
  | none => rw [hd] at h; simp at h; omega
  | some d => rw [hd] at h; exact ⟨d, desc_spec hd, by cases d <;> simp only at h <;> subst h <;> first | trivial | omega⟩

theorem eqIn_slice (d : Nat) {t e : TypeId} (ht : P.underlying t = some (.slice e)) (b : Option Addr) (n m : Nat) :
    (Op.equalIn (d + 1) t (.slice b n m) (.slice none 0 0)).run P w = .ok b.isNone w := by
  cases b <;> simp [Op.equalIn, run_underlying ht]
theorem eqIn_func (d : Nat) {t : TypeId} {ps rs : Array TypeId} {v : Bool} (ht : P.underlying t = some (.func ps rs v)) (f : Fn) (a c : Array Value) :
    (Op.equalIn (d + 1) t (.func f a c) .nilFunc).run P w = .ok false w := by
  simp [Op.equalIn, run_underlying ht]
theorem eqIn_nilFunc (d : Nat) {t : TypeId} {ps rs : Array TypeId} {v : Bool} (ht : P.underlying t = some (.func ps rs v)) :
    (Op.equalIn (d + 1) t .nilFunc .nilFunc).run P w = .ok true w := by
  simp [Op.equalIn, run_underlying ht]
theorem eqIn_ptr (d : Nat) {t e : TypeId} (ht : P.underlying t = some (.pointer e)) (a : Option Addr) :
    (Op.equalIn (d + 1) t (.pointer a) (.pointer none)).run P w = .ok a.isNone w := by
  cases a <;> simp [Op.equalIn, run_underlying ht]

theorem equal_at {t : TypeId} {a b : Value} {r : Bool} (h : (Op.equalIn (9999 + 1) t a b).run P w = .ok r w) : (Op.equal t a b).run P w = .ok r w := h

theorem sure_spec {x : V} {z : Value} (hx : relVal φ o imm w x z) (h : sure o x = true) : ∃ a, z = .pointer (some a) := by
  cases x <;> simp only [sure] at h <;> try (cases h; done)
  · rename_i id off
    unfold relVal at hx
    cases e : o id <;> rw [e] at h hx <;> simp only at h hx <;> try (cases h; done)
    · exact ⟨_, hx⟩
    · exact ⟨_, hx (Nat.eq_of_beq_eq_true h).symm⟩
  · obtain ⟨a, cs, h1, _⟩ := hx
    exact ⟨a, h1⟩

theorem eqOf {op : BinOp} {t : TypeId} {x y : Value} {b : Bool} {v : V} {u : List (Nat × Obj)} (h : (eqPk lf op b).gives v u)
    (he : (Op.equal t x y).run P w = .ok b w) (hi : (∀ op : BinOp, op = .eql → binOp op t x y = (do pure (.bool (← Op.equal t x y)))) ∧ (∀ op : BinOp, op = .neq → binOp op t x y = (do pure (.bool (!(← Op.equal t x y)))))) :
    u = [] ∧ pureOk P φ o imm w v (binOp op t x y) :=
  eqPk_ok h he fun op ho => by
    rcases ho with rfl | rfl
    · exact hi.1 _ rfl
    · exact hi.2 _ rfl

theorem binPk_ok {op : BinOp} {t : TypeId} {x y : V} {zx zy : Value} {v : V} {u : List (Nat × Obj)} (hl : ∀ id, relObj φ o imm w id (o id))
    (hx : relVal φ o imm w x zx) (hy : relVal φ o imm w y zy)
    (hst : ∀ (t : TypeId) (p : Ty) (a b : den p) (xs ys : Array Value), hasN t C.eqs = true → C.ty t = some (.st p) → relC imm w p a xs.toList → relC imm w p b ys.toList →
      (Op.equal t (.agg xs) (.agg ys)).run C.P w = .ok (eqD lf p a b) w)
    (h : (binPk lf C o op t x y).gives v u) : u = [] ∧ pureOk C.P φ o imm w v (binOp op t zx zy) := by
  have hnil : ∀ (s : Bool) (zx : Value), (Nat.beq (eqKind C t) 1 = true ∧ (eqPk lf op s).gives v u) → zy = .slice none 0 0 → (∃ b n m, zx = .slice b n m ∧ b.isNone = s) → u = [] ∧ pureOk C.P φ o imm w v (binOp op t zx zy) := by
    rintro s zx ⟨h1, h2⟩ rfl ⟨b, n, m, rfl, rfl⟩
    obtain ⟨d, hd, hk⟩ := eqKind_spec h1 (by omega)
    cases d <;> try exact False.elim hk
    exact eqOf h2 (equal_at (eqIn_slice _ hd _ _ _)) ⟨by rintro _ rfl; rfl, by rintro _ rfl; rfl⟩
  have hptr : ∀ (zx : Value) (s : Bool), Nat.beq (eqKind C t) 3 = true → (eqPk lf op s).gives v u → zy = .pointer none → (∃ a, zx = .pointer a ∧ a.isNone = s) → u = [] ∧ pureOk C.P φ o imm w v (binOp op t zx zy) := by
    rintro zx s h1 h2 rfl ⟨a, rfl, rfl⟩
    obtain ⟨d, hd, hk⟩ := eqKind_spec h1 (by omega)
    cases d <;> try exact False.elim hk
    refine eqOf h2 (equal_at (eqIn_ptr _ hd _)) ⟨by rintro _ rfl; rfl, by rintro _ rfl; rfl⟩
  unfold binPk at h
  split at h
  ·
    rename_i k a k' b
    obtain ⟨rfl, ha⟩ := rel_int hx
    obtain ⟨rfl, hb⟩ := rel_int hy
    split at h
    · exact shift_ok (.inl rfl) ha h t
    · exact shift_ok (.inr rfl) ha h t
    · split at h
      · rename_i e _
        subst e
        exact intPk_ok ha h t
      · cases h
  · obtain ⟨s, rfl, rfl, _⟩ := rel_str hx
    obtain ⟨s', rfl, rfl, _⟩ := rel_str hy
    exact strPk_ok h t
  · have e1 := rel_bool hx
    have e2 := rel_bool hy
    subst e1 e2
    rw [gives_when] at h
    obtain ⟨d, hd, hk⟩ := eqKind_spec h.1 (by omega)
    cases d <;> try exact False.elim hk
    exact eqOf h.2 (equal_at (run_equalIn_bool _ _ _ _ _ hd)) ⟨by rintro _ rfl; rfl, by rintro _ rfl; rfl⟩
  · rename_i p a p' b
    split at h
    · rename_i b' hb
      rw [gives_when, Bool.and_eq_true] at h
      unfold asTy at hb
      split at hb
      · rename_i hp _
        subst hp
        simp only [Option.some.injEq] at hb
        subst hb
        obtain ⟨xs, rfl, hxs⟩ := hx
        obtain ⟨ys, rfl, hys⟩ := hy
        exact eqOf h.2 (hst t p' a b xs ys h.1.1 (is_spec h.1.2) hxs hys) ⟨by rintro _ rfl; rfl, by rintro _ rfl; rfl⟩
      · cases hb
    · cases h
  · rename_i e s
    rw [gives_when] at h
    refine hnil _ _ h hy ?_
    obtain ⟨_, h2⟩ := rel_sl hx
    rcases h2 with ⟨h3, _, rfl⟩ | ⟨h3, a, cap, ec, rfl, _⟩
    · exact ⟨_, _, _, rfl, by rw [h3]; rfl⟩
    · exact ⟨_, _, _, rfl, by rw [h3]; rfl⟩
  · rw [gives_when] at h
    exact hnil _ _ h hy ⟨_, _, _, hx, rfl⟩
  · rename_i f l
    rw [gives_when] at h
    obtain ⟨c, rfl, _⟩ := hx
    have e2 : zy = .nilFunc := hy
    subst e2
    obtain ⟨d, hd, hk⟩ := eqKind_spec h.1 (by omega)
    cases d <;> try exact False.elim hk
    exact eqOf h.2 (equal_at (eqIn_func _ hd _ _ _)) ⟨by rintro _ rfl; rfl, by rintro _ rfl; rfl⟩
  · rw [gives_when] at h
    have e1 : zx = .nilFunc := hx
    have e2 : zy = .nilFunc := hy
    subst e1 e2
    obtain ⟨d, hd, hk⟩ := eqKind_spec h.1 (by omega)
    cases d <;> try exact False.elim hk
    exact eqOf h.2 (equal_at (eqIn_nilFunc _ hd)) ⟨by rintro _ rfl; rfl, by rintro _ rfl; rfl⟩
  · rw [gives_when] at h
    exact hptr _ _ h.1 h.2 hy ⟨none, hx, rfl⟩
  · rw [gives_when, Bool.and_eq_true] at h
    obtain ⟨a, ha⟩ := sure_spec hx h.1.2
    exact hptr _ _ h.1.1 h.2 hy ⟨some a, ha, rfl⟩
  · split at h
    · rename_i e s he
      rw [gives_when] at h
      refine hnil _ _ h hy ?_
      rcases ownOf_spec hx he hl with ⟨h3, _, rfl⟩ | ⟨h3, a, cap, rfl⟩
      · exact ⟨_, _, _, rfl, by rw [h3]; rfl⟩
      · exact ⟨_, _, _, rfl, by rw [h3]; rfl⟩
    · cases h
  · cases h
end
end Ev

