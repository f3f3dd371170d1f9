/- ModJoins: for every input the law returns true (two texts, one behind another, tell what both tell, where the first tells no fixity, or something is told twice, or too often), and each argument reads behind the call as it read before.
   The condition:as the card af0,the listed package-level variables hold what the program's text lays. -/
import Derived.Test.YtdgmbemagoakjaaGreatDoorCards
import Derived.Test.YtdgmbemagoakjaaGreatDoorTie
import Derived.Test.YtdgmbemagoakjaaGreatDoorSt
import Derived.Test.YtdgmbemagoakjaaGreatDoorPlainD
import Derived.ProofKit
import Derived.OpenShut
import Derived.Deep.DeepHandedRow
import Derived.Deep.DeepWitnessRowRef
namespace Go.Proofs.YtdgmbemagoakjaaGreatDoor.modJoins
open Go Go.Proofs Ev Go.ChangeShapes Go.WideShapes Go.ChangeAt Go.RowKit

theorem own:ownKnob Tryz.prog.godebug=none:=by kernel_rfl

/-- The law as data. -/
theorem data (x:rz [.str,.str,.str,.sl (.st (.pair .str (.pair (.int .i64) (.int .i64))))]) (hx:oY [.str,.str,.str,.sl (.st (.pair .str (.pair (.int .i64) (.int .i64))))] x):Ev.Fn.cD x=some (true,()):=by obtain ⟨s,a,b,⟨m,c⟩,u⟩:=x;exact Ev.Fn.we s a b (Ev.Fn.ow hx.1) (Ev.Fn.ow hx.2.1) (Ev.Fn.ow hx.2.2.1) m c (fun y hy=>Ev.Fn.Gk (hx.2.2.2.1.2.2 y hy))

set_option maxRecDepth 100000 in
theorem BP (H:Type) (enc:TypeId×Value→H) (W:World) (base:Nat) (args:Array Value) (ds gs:List (DataW H)) (before:List MemPlace) (hc:∀(j:Nat) t v,Tryz.f5.params[j]?=some t→args[j]?=some v→Value.okWide Tryz.prog W .any base t v) (hW:DataW.Whole enc Tryz.prog Tryz.f5.params.toList Rows.modJoinsSpec.vars false W args.toList ds gs before) (hL:laidMetH Tryz.prog Rows.modJoinsRow.laid W):Calls Tryz.prog 5 args W fun e W'=>∃v,e=.returned v∧Rows.modJoinsSpec.post enc Tryz.prog Tryz.f5 false true false false W args v W':=
  mc (C:=BL.C) (laid:=Rows.modJoinsRow.laid) BL.LN [.str,.str,.str,.sl (.st (.pair .str (.pair (.int .i64) (.int .i64))))] 4 (by kernel_rfl) (by kernel_rfl) (by kernel_rfl) Tryz.underlying4 rfl
    (fun ds h=>by
      match ds,h with
      |[d0,d1,d2,d3],_=>rfl) hc hW hL
    (fun x hx _=>(BL.calls (BL.jU x (true,()) (data x hx))).s)

/-- A world for the witness: the settled one with two blocks more (the ranges of unicode.White_Space, and what leads to them), the two variables holding what their initialisers lay. -/
def ranges:Array Value:=#[9,13,1,32,133,101,160,5760,5600,8192,8202,1,8232,8233,1,8239,8287,48,12288,12288,1].map fun n=>.int .u16 n
def dY:MemPlace→Nat
  |.cell b off=>b*512+off
  |.map b=>b*512+511
def Gu:List MemPlace→Nat→Bool
  |[],_=>true
  |p::r,m=>!(Nat.testBit m (dY p))&&Gu r (m|||1<<<dY p)
theorem uq:∀(l:List MemPlace) (m:Nat),Gu l m=true→l.Nodup∧∀p,p∈l→m.testBit (dY p)=false
  |[],_,_=>⟨List.nodup_nil,fun _ h=>by cases h⟩
  |p::r,m,h=>by
    simp only [Gu,zd,Bool.not_eq_true'] at h;obtain ⟨h1,h2⟩:=uq r _ h.2;have hb:∀q,q∈r→m.testBit (dY q)=false∧dY p≠dY q:=fun q hq=>by have:=h2 q hq;rw [Nat.testBit_or,Nat.one_shiftLeft,Nat.testBit_two_pow] at this;simp only [Bool.or_eq_false_iff,decide_eq_false_iff_not] at this;exact this
    refine ⟨List.nodup_cons.2 ⟨fun hp=>(hb p hp).2 rfl,h1⟩,fun q hq=>?_⟩;rcases zt.1 hq with rfl|hq
    · exact h.1
    · exact (hb q hq).1
theorem oz {P:Program} {w:World} {l:List (String×DataW Unit)} (fuel:Nat) (h:(DataW.laidRun P w fuel (l.map (·.1))).map (·.1)=some l) (hr:(DataW.laidRun P w fuel (l.map (·.1))).map (fun x=>Gu x.2 0)=some true) (hs:(DataW.laidRun P w fuel (l.map (·.1))).map (fun x=>laidRowsB P w x.2)=some true):laidMet P l w:=by
  cases hx:DataW.laidRun P w fuel (l.map (·.1)) with
  |none=>rw [hx] at h;cases h
  |some x=>obtain ⟨l',ps⟩:=x;rw [hx] at h hr hs;injection h with h;have h:l'=l:=h;injection hr with hr;injection hs with hs;subst h;exact laidMet_of_run fuel hx (zo (uq _ _ hr).1) hs
def ints (d:DataW Unit):List Value:=match d with
  |.agg l=>l.map fun
    |.lit (.int k n)=>.int k n
    |_=>.int .u8 0
  |_=>[]
def Rk (d:DataW Unit):List Value:=match d with
  |.agg l=>l.flatMap ints
  |_=>[]
def LO (N:Nat):Nat→Option (Array Value)
  |0=>some (ints Rows.laid_strings_asciiSpace).toArray
  |1=>some #[.pointer (some ⟨N+1,0,none⟩)]
  |3=>some (ints Rows.laid_unicode_utf8_first).toArray
  |4=>some (Rk Rows.laid_unicode_utf8_acceptRanges).toArray
  |5=>some (ints Rows.laid_internal_strconv_uint64pow10).toArray
  |6=>some (ints Rows.laid_math_bits_deBruijn32tab).toArray
  |7=>some (ints Rows.laid_math_bits_deBruijn64tab).toArray
  |_=>none
def bG (f:Option (Array Value)) (o:Go.Obj):Go.Obj:=match f,o with
  |some cs,.cells _ t frozen=>.cells cs t frozen
  |_,o=>o
def Rl (f:Nat→Option (Array Value)):List Go.Obj→Nat→List Go.Obj
  |[],_=>[]
  |o::r,i=>bG (f i) o::Rl f r (i+1)
noncomputable def jV (os:Os):World:=
  let N:=(World.settled Tryz.prog os).heap.size;let w0:=World.holding Tryz.prog os ⟨#[.cells ranges 332,.cells #[.slice (some ⟨N,0,none⟩) 7 7,.slice none 0 0,.int .i64 2] 329],#[],[]⟩
  {w0 with heap:=⟨Rl (LO N) w0.heap.toList 0⟩}
theorem BQ (os:Os):laidMet Tryz.prog Rows.modJoinsRow.laid ((jV os).forCall (fun _ _=>0) ⟨#[],#[.string (ByteArray.mk #[]),.string (ByteArray.mk #[]),.string (ByteArray.mk #[]),.slice none 0 0],[]⟩).memory:=oz 8 (by kernel_rfl) (by kernel_rfl) (by kernel_rfl)
theorem reads (os:Os) {H:Type} (enc:TypeId×Value→H):∃places,DataW.whole enc Tryz.prog ((jV os).forCall (fun _ _=>0) ⟨#[],#[.string (ByteArray.mk #[]),.string (ByteArray.mk #[]),.string (ByteArray.mk #[]),.slice none 0 0],[]⟩).memory Tryz.f5.params.toList Rows.modJoinsSpec.vars false (#[.string (ByteArray.mk #[]),.string (ByteArray.mk #[]),.string (ByteArray.mk #[]),.slice none 0 0]:Array Value).toList 8=some ([.lit (.string []),.lit (.string []),.lit (.string []),.nil],[],places):=⟨[],by kernel_rfl⟩

set_option maxRecDepth 100000 in
theorem lifted (os:Os) (started:os.Started) (H:Type) (enc:TypeId×Value→H) (F:Stop.Interp):ReturnsInHanded {} Tryz.checked os 5 .any ((OpenSpec.ofChange Rows.modJoinsSpec).preRow enc Tryz.prog Tryz.f5 Rows.modJoinsRow.domain false Rows.modJoinsRow.laid) (((OpenSpec.ofChange Rows.modJoinsSpec).at F).post enc Tryz.prog Tryz.f5 false true false false):=by
  obtain ⟨places,hx⟩:=reads os enc;refine returnsInHanded_of_row (C:=Tryz.checked) (s:=OpenSpec.ofChange Rows.modJoinsSpec) own started (by kernel_rfl) Tryz.func5
    (witness_row_atRef (enc:=enc) (C:=Tryz.checked) false (jV os) #[.string (ByteArray.mk #[]),.string (ByteArray.mk #[]),.string (ByteArray.mk #[]),.slice none 0 0] rfl (by kernel_rfl) (by kernel_rfl) (by kernel_rfl)
      (OpenSpec.preRow_of_cond 8 hx (by kernel_rfl) (fun k hk=>by cases hk) (by kernel_rfl) (BQ os))) ?_
  intro W base args ds gs before hc hW _ _ _ hL _ _;exact BP H enc W base args ds gs before hc hW hL

theorem found:Tryz.pinned.checked.prog.funcNamed Rows.modJoinsRow.func=some 5:=by kernel_rfl
theorem facts:joinedFacts Tryz.pinned.checked.prog 5 Tryz.f5 (OpenSpec.ofChange Rows.modJoinsSpec).bare Rows.modJoinsRow=true:=by kernel_rfl
theorem inst:Tryz.f5.isInstance Tryz.pinned.checked.prog Rows.modJoinsRow.origin Rows.modJoinsRow.targs:=of_decide_eq_true (by kernel_rfl)
theorem said:Rows.ModJoinsSaid:=
  OpenClaim.holds_of_cond 5 Tryz.f5 rfl rfl rfl rfl rfl rfl rfl ⟨rfl,rfl,rfl,rfl,rfl⟩ rfl rfl rfl rfl rfl found Tryz.func5 facts
    inst (by unfold Func.isWrapper;first|(rw [if_pos (by decide+kernel)];kernel_rfl)|(rw [if_neg (by decide+kernel)];exact ⟨rfl,rfl⟩))
    (fun os started H enc _ F=>by rw [OpenClaim.pre_eq_preRow];exact lifted os started H enc F)

/-- No parameter wants a stand-in; the program's own looks are off. -/
theorem plain (f:FuncId) (fn:Func) (hf:Tryz.pinned.checked.prog.funcNamed Rows.modJoinsRow.func=some f) (hd:Tryz.pinned.checked.prog.funcs[f]?=some fn):false=Tryz.pinned.checked.prog.looks []∧∀(j:Nat) t,fn.params[j]?=some t→Tryz.pinned.checked.prog.wantsStandIn t=false:=by
  obtain rfl:f=5:=zK ((show Tryz.prog.funcNamed Rows.modJoinsRow.func=some 5 by kernel_rfl).symm.trans hf)|>.symm;obtain rfl:fn=Tryz.f5:=(zK (Tryz.func5.symm.trans hd)).symm;refine ⟨by kernel_rfl,fun j t ht=>?_⟩;have hc:(Tryz.f5.params.toList.all fun t=>!Tryz.prog.wantsStandIn t)=true:=by kernel_rfl
  have hm:t∈Tryz.f5.params.toList:=by rw [←zN] at ht;exact zG ht
  have h2:Tryz.prog.wantsStandIn t=false:=by simpa using zS.1 hc t hm
  exact h2

/-- The card. -/
theorem card:Rows.ModJoinsCardSaid:=Claim7.holds_tied_plain_at .later [] _ _ _ _ said (fun _ h=>by cases h) (by kernel_rfl) (fun _ h=>by cases h) modJoins_row_tie rfl ⟨rfl,rfl⟩ (by kernel_rfl) rfl plain (by kernel_rfl)
end Go.Proofs.YtdgmbemagoakjaaGreatDoor.modJoins
