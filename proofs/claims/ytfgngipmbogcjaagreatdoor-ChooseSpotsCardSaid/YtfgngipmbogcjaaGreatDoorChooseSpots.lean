/- ChooseSpots: for every input the law returns true (what a name is given stands where it is told), and each argument reads behind the call as it read before.
   The condition:as the card Oa,the listed package-level variables hold what the program's text lays. -/
import Derived.Test.YtfgngipmbogcjaaGreatDoorCards
import Derived.Test.YtfgngipmbogcjaaGreatDoorTie
import Derived.Test.YtfgngipmbogcjaaGreatDoorSt
import Derived.Test.YtfgngipmbogcjaaGreatDoorPlainC
import Derived.ProofKit
import Derived.OpenShut
import Derived.Deep.DeepHandedRow
import Derived.Deep.DeepWitnessRowRef
namespace Go.Proofs.YtfgngipmbogcjaaGreatDoor.chooseSpots
open Go Go.Proofs Ev Go.ChangeShapes Go.WideShapes Go.ChangeAt Go.RowKit

theorem own:ownKnob Tryz.prog.godebug=none:=by kernel_rfl

/-- The law as data. -/
theorem data (x:pV [.sl (.st (.pair (.int .i64) (.pair .str (.pair (.int .i64) (.int .i64))))),.sl (.st (.pair (.int .i64) (.pair .str (.pair (.int .i64) (.int .i64)))))]) (hx:nA [.sl (.st (.pair (.int .i64) (.pair .str (.pair (.int .i64) (.int .i64))))),.sl (.st (.pair (.int .i64) (.pair .str (.pair (.int .i64) (.int .i64)))))] x):Ev.Fn.cN x=some (true,()):=by obtain ⟨⟨b0,p⟩,⟨b1,v⟩,u⟩:=x;exact Ev.Fn.xv b0 b1 p v (Ev.Fn.gM hx.1) (Ev.Fn.gM hx.2.1)

set_option maxRecDepth 100000 in
theorem iY (H:Type) (enc:TypeId×Value→H) (W:World) (base:Nat) (args:Array Value) (ds gs:List (DataW H)) (before:List MemPlace) (hc:∀(j:Nat) t v,Tryz.f5.params[j]?=some t→args[j]?=some v→Value.okWide Tryz.prog W .any base t v) (hW:DataW.Whole enc Tryz.prog Tryz.f5.params.toList Rows.chooseSpotsSpec.vars false W args.toList ds gs before) (hL:laidMetH Tryz.prog Rows.chooseSpotsRow.laid W):Calls Tryz.prog 5 args W fun e W'=>∃v,e=.returned v∧Rows.chooseSpotsSpec.post enc Tryz.prog Tryz.f5 false true false false W args v W':=
  fK (C:=lL.C) (laid:=Rows.chooseSpotsRow.laid) lL.uT [.sl (.st (.pair (.int .i64) (.pair .str (.pair (.int .i64) (.int .i64))))),.sl (.st (.pair (.int .i64) (.pair .str (.pair (.int .i64) (.int .i64)))))] 4 (by kernel_rfl) (by kernel_rfl) (by kernel_rfl) Tryz.underlying4 rfl
    (fun ds h=>by
      match ds,h with
      |[d0,d1],_=>rfl) hc hW hL
    (fun x hx _=>(lL.calls (lL.jK x (true,()) (data x hx))).s)

/-- A world for the witness: the settled one with two blocks more (the ranges of unicode.White_Space, and what leads to them), the two variables holding what their initialisers lay. -/
def ranges:Array Value:=#[9,13,1,32,133,101,160,5760,5600,8192,8202,1,8232,8233,1,8239,8287,48,12288,12288,1].map fun n=>.int .u16 n
def fY:MemPlace→Nat
  |.cell b off=>b*512+off
  |.map b=>b*512+511
def kS:List MemPlace→Nat→Bool
  |[],_=>true
  |p::r,m=>!(Nat.testBit m (fY p))&&kS r (m|||1<<<fY p)
theorem fH:∀(l:List MemPlace) (m:Nat),kS l m=true→l.Nodup∧∀p,p∈l→m.testBit (fY p)=false
  |[],_,_=>⟨List.nodup_nil,fun _ h=>by cases h⟩
  |p::r,m,h=>by
    simp only [kS,zd,Bool.not_eq_true'] at h;obtain ⟨h1,h2⟩:=fH r _ h.2;have hb:∀q,q∈r→m.testBit (fY q)=false∧fY p≠fY q:=fun q hq=>by have:=h2 q hq;rw [Nat.testBit_or,Nat.one_shiftLeft,Nat.testBit_two_pow] at this;simp only [Bool.or_eq_false_iff,decide_eq_false_iff_not] at this;exact this
    refine ⟨List.nodup_cons.2 ⟨fun hp=>(hb p hp).2 rfl,h1⟩,fun q hq=>?_⟩;rcases zu.1 hq with rfl|hq
    · exact h.1
    · exact (hb q hq).1
theorem dY {P:Program} {w:World} {l:List (String×DataW Unit)} (fuel:Nat) (h:(DataW.laidRun P w fuel (l.map (·.1))).map (·.1)=some l) (hr:(DataW.laidRun P w fuel (l.map (·.1))).map (fun x=>kS x.2 0)=some true) (hs:(DataW.laidRun P w fuel (l.map (·.1))).map (fun x=>laidRowsB P w x.2)=some true):laidMet P l w:=by
  cases hx:DataW.laidRun P w fuel (l.map (·.1)) with
  |none=>rw [hx] at h;cases h
  |some x=>obtain ⟨l',ps⟩:=x;rw [hx] at h hr hs;injection h with h;have h:l'=l:=h;injection hr with hr;injection hs with hs;subst h;exact laidMet_of_run fuel hx (zn (fH _ _ hr).1) hs
def ints (d:DataW Unit):List Value:=match d with
  |.agg l=>l.map fun
    |.lit (.int k n)=>.int k n
    |_=>.int .u8 0
  |_=>[]
def sQ (d:DataW Unit):List Value:=match d with
  |.agg l=>l.flatMap ints
  |_=>[]
def nW (N:Nat):Nat→Option (Array Value)
  |0=>some (ints Rows.laid_internal_strconv_uint64pow10).toArray
  |1=>some (ints Rows.laid_unicode_utf8_first).toArray
  |2=>some (sQ Rows.laid_unicode_utf8_acceptRanges).toArray
  |4=>some (ints Rows.laid_strings_asciiSpace).toArray
  |5=>some #[.pointer (some ⟨N+1,0,none⟩)]
  |6=>some (ints Rows.laid_math_bits_deBruijn32tab).toArray
  |7=>some (ints Rows.laid_math_bits_deBruijn64tab).toArray
  |_=>none
def bF (f:Option (Array Value)) (o:Go.Obj):Go.Obj:=match f,o with
  |some cs,.cells _ t frozen=>.cells cs t frozen
  |_,o=>o
def sR (f:Nat→Option (Array Value)):List Go.Obj→Nat→List Go.Obj
  |[],_=>[]
  |o::r,i=>bF (f i) o::sR f r (i+1)
noncomputable def cQ (os:Os):World:=
  let N:=(World.settled Tryz.prog os).heap.size;let w0:=World.holding Tryz.prog os ⟨#[.cells ranges 246,.cells #[.slice (some ⟨N,0,none⟩) 7 7,.slice none 0 0,.int .i64 2] 243],#[],[]⟩
  {w0 with heap:=⟨sR (nW N) w0.heap.toList 0⟩}
theorem iZ (os:Os):laidMet Tryz.prog Rows.chooseSpotsRow.laid ((cQ os).forCall (fun _ _=>0) ⟨#[],#[.slice none 0 0,.slice none 0 0],[]⟩).memory:=dY 8 (by kernel_rfl) (by kernel_rfl) (by kernel_rfl)
theorem reads (os:Os) {H:Type} (enc:TypeId×Value→H):∃places,DataW.whole enc Tryz.prog ((cQ os).forCall (fun _ _=>0) ⟨#[],#[.slice none 0 0,.slice none 0 0],[]⟩).memory Tryz.f5.params.toList Rows.chooseSpotsSpec.vars false (#[.slice none 0 0,.slice none 0 0]:Array Value).toList 8=some ([.nil,.nil],[],places):=⟨[],by kernel_rfl⟩

set_option maxRecDepth 100000 in
theorem lifted (os:Os) (started:os.Started) (H:Type) (enc:TypeId×Value→H) (F:Stop.Interp):ReturnsInHanded {} Tryz.checked os 5 .any ((OpenSpec.ofChange Rows.chooseSpotsSpec).preRow enc Tryz.prog Tryz.f5 Rows.chooseSpotsRow.domain false Rows.chooseSpotsRow.laid) (((OpenSpec.ofChange Rows.chooseSpotsSpec).at F).post enc Tryz.prog Tryz.f5 false true false false):=by
  obtain ⟨places,hx⟩:=reads os enc;refine returnsInHanded_of_row (C:=Tryz.checked) (s:=OpenSpec.ofChange Rows.chooseSpotsSpec) own started (by kernel_rfl) Tryz.func5
    (witness_row_atRef (enc:=enc) (C:=Tryz.checked) false (cQ os) #[.slice none 0 0,.slice none 0 0] rfl (by kernel_rfl) (by kernel_rfl) (by kernel_rfl)
      (OpenSpec.preRow_of_cond 8 hx (by kernel_rfl) (fun k hk=>by cases hk) (by kernel_rfl) (iZ os))) ?_
  intro W base args ds gs before hc hW _ _ _ hL _ _;exact iY H enc W base args ds gs before hc hW hL

theorem found:Tryz.pinned.checked.prog.funcNamed Rows.chooseSpotsRow.func=some 5:=by kernel_rfl
theorem facts:joinedFacts Tryz.pinned.checked.prog 5 Tryz.f5 (OpenSpec.ofChange Rows.chooseSpotsSpec).bare Rows.chooseSpotsRow=true:=by kernel_rfl
theorem inst:Tryz.f5.isInstance Tryz.pinned.checked.prog Rows.chooseSpotsRow.origin Rows.chooseSpotsRow.targs:=zM (by kernel_rfl)
theorem said:Rows.ChooseSpotsSaid:=
  OpenClaim.holds_of_cond 5 Tryz.f5 rfl rfl rfl rfl rfl rfl rfl ⟨rfl,rfl,rfl,rfl,rfl⟩ rfl rfl rfl rfl rfl found Tryz.func5 facts
    inst (by unfold Func.isWrapper;first|(rw [if_pos (by decide+kernel)];kernel_rfl)|(rw [if_neg (by decide+kernel)];exact ⟨rfl,rfl⟩))
    (fun os started H enc _ F=>by rw [OpenClaim.pre_eq_preRow];exact lifted os started H enc F)

/-- No parameter wants a stand-in; the program's own looks are off. -/
theorem plain (f:FuncId) (fn:Func) (hf:Tryz.pinned.checked.prog.funcNamed Rows.chooseSpotsRow.func=some f) (he:Tryz.pinned.checked.prog.funcs[f]?=some fn):false=Tryz.pinned.checked.prog.looks []∧∀(j:Nat) t,fn.params[j]?=some t→Tryz.pinned.checked.prog.wantsStandIn t=false:=by
  obtain rfl:f=5:=zG ((show Tryz.prog.funcNamed Rows.chooseSpotsRow.func=some 5 by kernel_rfl).symm.trans hf)|>.symm;obtain rfl:fn=Tryz.f5:=(zG (Tryz.func5.symm.trans he)).symm;refine ⟨by kernel_rfl,fun j t ht=>?_⟩;have hc:(Tryz.f5.params.toList.all fun t=>!Tryz.prog.wantsStandIn t)=true:=by kernel_rfl
  have hm:t∈Tryz.f5.params.toList:=by rw [←zF] at ht;exact zj ht
  have h2:Tryz.prog.wantsStandIn t=false:=by simpa using zJ.1 hc t hm
  exact h2

/-- The card. -/
theorem card:Rows.ChooseSpotsCardSaid:=Claim7.holds_tied_plain_at .later [] _ _ _ _ said (fun _ h=>by cases h) (by kernel_rfl) (fun _ h=>by cases h) chooseSpots_row_tie rfl ⟨rfl,rfl⟩ (by kernel_rfl) rfl plain (by kernel_rfl)
end Go.Proofs.YtfgngipmbogcjaaGreatDoor.chooseSpots
