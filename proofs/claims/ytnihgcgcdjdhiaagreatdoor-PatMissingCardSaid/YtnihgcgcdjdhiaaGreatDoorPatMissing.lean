/- PatMissing: for every input the law returns true (something is missing just where something is left; it is of the type, and none matches anything that it does), and each argument reads behind the call as it read before.
   The condition:as the card says,the listed package-level variables hold what the program's text lays. -/
import Derived.Test.YtnihgcgcdjdhiaaGreatDoorCards
import Derived.Test.YtnihgcgcdjdhiaaGreatDoorTie
import Derived.Test.YtnihgcgcdjdhiaaGreatDoorSt
import Derived.Test.YtnihgcgcdjdhiaaGreatDoorPlainC
import Derived.ProofKit
import Derived.OpenShut
import Derived.Deep.DeepHandedRow
import Derived.Deep.DeepWitnessRowRef
namespace Go.Proofs.YtnihgcgcdjdhiaaGreatDoor.patMissing
open Go Go.Proofs Ev Go.ChangeShapes Go.WideShapes Go.ChangeAt Go.RowKit

theorem own:ownKnob Tryz.prog.godebug=none:=by kernel_rfl

/-- The law as data. -/
theorem data (x:denA [.sl (.st (.pair .str (.pair (.int .i64) (.sl (.st (.pair .str (.sl (.sl (.st (.pair (.int .i64) (.pair .str (.pair (.int .i64) (.int .i64))))))))))))),.sl (.st (.pair (.int .i64) (.pair .str (.pair (.int .i64) (.int .i64))))),.sl (.sl (.st (.pair (.int .i64) (.pair .str (.pair (.int .i64) (.int .i64))))))]) (hx:goodA [.sl (.st (.pair .str (.pair (.int .i64) (.sl (.st (.pair .str (.sl (.sl (.st (.pair (.int .i64) (.pair .str (.pair (.int .i64) (.int .i64))))))))))))),.sl (.st (.pair (.int .i64) (.pair .str (.pair (.int .i64) (.int .i64))))),.sl (.sl (.st (.pair (.int .i64) (.pair .str (.pair (.int .i64) (.int .i64))))))] x):Ev.Fn.f_law12_PatMissing x=some (true,()):=by obtain ⟨⟨b0,l⟩,⟨b1,t⟩,⟨b2,a⟩,u⟩:=x;exact Ev.Fn.law_Missing b0 b1 b2 l t a (Ev.Fn.good_gD hx.1) (Ev.Fn.good_gL hx.2.1) (Ev.Fn.good_gR hx.2.2.1).1 (Ev.Fn.good_gR hx.2.2.1).2

set_option maxRecDepth 100000 in
theorem contract (H:Type) (enc:TypeId×Value→H) (W:World) (base:Nat) (args:Array Value) (ds gs:List (DataW H)) (before:List MemPlace) (hc:∀(j:Nat) t v,Tryz.f5.params[j]?=some t→args[j]?=some v→Value.okWide Tryz.prog W .any base t v) (hW:DataW.Whole enc Tryz.prog Tryz.f5.params.toList Rows.patMissingSpec.vars false W args.toList ds gs before) (hL:laidMetH Tryz.prog Rows.patMissingRow.laid W):Calls Tryz.prog 5 args W fun e W'=>∃v,e=.returned v∧Rows.patMissingSpec.post enc Tryz.prog Tryz.f5 false true false false W args v W':=
  law_contractB (C:=Seat.C) (laid:=Rows.patMissingRow.laid) Seat.seatOk [.sl (.st (.pair .str (.pair (.int .i64) (.sl (.st (.pair .str (.sl (.sl (.st (.pair (.int .i64) (.pair .str (.pair (.int .i64) (.int .i64))))))))))))),.sl (.st (.pair (.int .i64) (.pair .str (.pair (.int .i64) (.int .i64))))),.sl (.sl (.st (.pair (.int .i64) (.pair .str (.pair (.int .i64) (.int .i64))))))] 4 (by kernel_rfl) (by kernel_rfl) (by kernel_rfl) Tryz.underlying4 rfl
    (fun ds h=>by
      match ds,h with
      |[d0,d1,d2],_=>rfl) hc hW hL
    (fun x hx _=>(Seat.calls (Seat.c_law12_PatMissing x (true,()) (data x hx))).s)

/-- A world for the witness: the settled one with two blocks more (the ranges of unicode.White_Space, and what leads to them), the two variables holding what their initialisers lay. -/
def ranges:Array Value:=#[9,13,1,32,133,101,160,5760,5600,8192,8202,1,8232,8233,1,8239,8287,48,12288,12288,1].map fun n=>.int .u16 n
def put (h:Array Go.Obj) (g:Nat) (cs:Array Value):Array Go.Obj:=h.modify g fun
  |.cells _ t frozen=>.cells cs t frozen
  |o=>o
noncomputable def laidWorld (os:Os):World:=
  let N:=(World.settled Tryz.prog os).heap.size;let w0:=World.holding Tryz.prog os ⟨#[.cells ranges 216,.cells #[.slice (some ⟨N,0,none⟩) 7 7,.slice none 0 0,.int .i64 2] 213],#[],[]⟩
  {w0 with heap:=put (put w0.heap 0 (Seat.spaces.map fun n=>Value.int .u8 n).toArray) 1 #[.pointer (some ⟨N+1,0,none⟩)]}
theorem laid_met (os:Os):laidMet Tryz.prog Rows.patMissingRow.laid ((laidWorld os).forCall (fun _ _=>0) ⟨#[],#[.slice none 0 0,.slice none 0 0,.slice none 0 0],[]⟩).memory:=laidMet_of_run' 8 (by kernel_rfl) (by kernel_rfl)
theorem reads (os:Os) {H:Type} (enc:TypeId×Value→H):∃places,DataW.whole enc Tryz.prog ((laidWorld os).forCall (fun _ _=>0) ⟨#[],#[.slice none 0 0,.slice none 0 0,.slice none 0 0],[]⟩).memory Tryz.f5.params.toList Rows.patMissingSpec.vars false (#[.slice none 0 0,.slice none 0 0,.slice none 0 0]:Array Value).toList 8=some ([.nil,.nil,.nil],[],places):=⟨[],by kernel_rfl⟩

set_option maxRecDepth 100000 in
theorem lifted (os:Os) (started:os.Started) (H:Type) (enc:TypeId×Value→H) (F:Stop.Interp):ReturnsInHanded {} Tryz.checked os 5 .any ((OpenSpec.ofChange Rows.patMissingSpec).preRow enc Tryz.prog Tryz.f5 Rows.patMissingRow.domain false Rows.patMissingRow.laid) (((OpenSpec.ofChange Rows.patMissingSpec).at F).post enc Tryz.prog Tryz.f5 false true false false):=by
  obtain ⟨places,hx⟩:=reads os enc;refine returnsInHanded_of_row (C:=Tryz.checked) (s:=OpenSpec.ofChange Rows.patMissingSpec) own started (by kernel_rfl) Tryz.func5
    (witness_row_atRef (enc:=enc) (C:=Tryz.checked) false (laidWorld os) #[.slice none 0 0,.slice none 0 0,.slice none 0 0] rfl (by kernel_rfl) (by kernel_rfl) (by kernel_rfl)
      (OpenSpec.preRow_of_cond 8 hx (by kernel_rfl) (fun k hk=>by cases hk) (by kernel_rfl) (laid_met os))) ?_
  intro W base args ds gs before hc hW _ _ _ hL _ _;exact contract H enc W base args ds gs before hc hW hL

theorem said:Rows.PatMissingSaid:=
  OpenClaim.holds_of_cond 5 Tryz.f5 rfl rfl rfl rfl rfl rfl rfl ⟨rfl,rfl,rfl,rfl,rfl⟩ rfl rfl rfl rfl rfl (by kernel_rfl) Tryz.func5 (by kernel_rfl)
    (zB (by kernel_rfl)) (by unfold Func.isWrapper;first|(rw [if_pos (by decide+kernel)];kernel_rfl)|(rw [if_neg (by decide+kernel)];exact ⟨rfl,rfl⟩))
    (fun os started H enc _ F=>by rw [OpenClaim.pre_eq_preRow];exact lifted os started H enc F)

/-- No parameter wants a stand-in; the program's own looks are off. -/
theorem plain (f:FuncId) (fn:Func) (hf:Tryz.pinned.checked.prog.funcNamed Rows.patMissingRow.func=some f) (he:Tryz.pinned.checked.prog.funcs[f]?=some fn):false=Tryz.pinned.checked.prog.looks []∧∀(j:Nat) t,fn.params[j]?=some t→Tryz.pinned.checked.prog.wantsStandIn t=false:=by
  obtain rfl:f=5:=zG ((show Tryz.prog.funcNamed Rows.patMissingRow.func=some 5 by kernel_rfl).symm.trans hf)|>.symm;obtain rfl:fn=Tryz.f5:=(zG (Tryz.func5.symm.trans he)).symm;refine ⟨by kernel_rfl,fun j t ht=>?_⟩;have hc:(Tryz.f5.params.toList.all fun t=>!Tryz.prog.wantsStandIn t)=true:=by kernel_rfl
  have hm:t∈Tryz.f5.params.toList:=by rw [←zN] at ht;exact zn ht
  have h2:Tryz.prog.wantsStandIn t=false:=by simpa using zQ.1 hc t hm
  exact h2

/-- The card. -/
theorem card:Rows.PatMissingCardSaid:=Claim7.holds_tied_plain_at .later [] _ _ _ _ said (fun _ h=>by cases h) (by kernel_rfl) (fun _ h=>by cases h) patMissing_row_tie rfl ⟨rfl,rfl⟩ (by kernel_rfl) rfl plain (by kernel_rfl)
end Go.Proofs.YtnihgcgcdjdhiaaGreatDoor.patMissing
