/- ChooseBuilds: for every input the law returns true (the choice among any patterns is the document's, or what is wrong), and each argument reads behind the call as it read before.
   The condition:as the card aa6,the listed package-level variables hold what the program's text lays. -/
import Derived.Test.YtfgngipmbogcjaaGreatDoorCards
import Derived.Test.YtfgngipmbogcjaaGreatDoorTie
import Derived.Test.YtfgngipmbogcjaaGreatDoorSt
import Derived.Test.YtfgngipmbogcjaaGreatDoorPlainC
import Derived.ProofKit
import Derived.OpenShut
import Derived.Deep.DeepHandedRow
import Derived.Deep.DeepWitnessRowRef
namespace Go.Proofs.YtfgngipmbogcjaaGreatDoor.chooseBuilds
open Go Go.Proofs Ev Go.ChangeShapes Go.WideShapes Go.ChangeAt Go.RowKit

theorem own:ownKnob Tryz.prog.godebug=none:=by kernel_rfl

/-- The law as data. -/
theorem data (x:sd [.sl (.st (.pair .str (.pair (.int .i64) (.sl (.st (.pair .str (.sl (.sl (.st (.pair (.int .i64) (.pair .str (.pair (.int .i64) (.int .i64))))))))))))),.sl (.st (.pair (.int .i64) (.pair .str (.pair (.int .i64) (.int .i64))))),.sl (.sl (.st (.pair (.int .i64) (.pair .str (.pair (.int .i64) (.int .i64))))))]) (hx:pC [.sl (.st (.pair .str (.pair (.int .i64) (.sl (.st (.pair .str (.sl (.sl (.st (.pair (.int .i64) (.pair .str (.pair (.int .i64) (.int .i64))))))))))))),.sl (.st (.pair (.int .i64) (.pair .str (.pair (.int .i64) (.int .i64))))),.sl (.sl (.st (.pair (.int .i64) (.pair .str (.pair (.int .i64) (.int .i64))))))] x):Ev.Fn.cA x=some (true,()):=by obtain ⟨⟨b0,l⟩,⟨b1,t⟩,⟨b2,p⟩,u⟩:=x;exact Ev.Fn.tz b0 b1 b2 l t p (Ev.Fn.DG hx.1) (Ev.Fn.oW hx.2.1) (Ev.Fn.uO hx.2.2.1).1 (Ev.Fn.uO hx.2.2.1).2

set_option maxRecDepth 100000 in
theorem Aq (H:Type) (enc:TypeId×Value→H) (W:World) (base:Nat) (args:Array Value) (ds gs:List (DataW H)) (before:List MemPlace) (hc:∀(j:Nat) t v,Tryz.f3.params[j]?=some t→args[j]?=some v→Value.okWide Tryz.prog W .any base t v) (hW:DataW.Whole enc Tryz.prog Tryz.f3.params.toList Rows.chooseBuildsSpec.vars false W args.toList ds gs before) (hL:laidMetH Tryz.prog Rows.chooseBuildsRow.laid W):Calls Tryz.prog 3 args W fun e W'=>∃v,e=.returned v∧Rows.chooseBuildsSpec.post enc Tryz.prog Tryz.f3 false true false false W args v W':=
  nm (C:=Am.C) (laid:=Rows.chooseBuildsRow.laid) Am.H6 [.sl (.st (.pair .str (.pair (.int .i64) (.sl (.st (.pair .str (.sl (.sl (.st (.pair (.int .i64) (.pair .str (.pair (.int .i64) (.int .i64))))))))))))),.sl (.st (.pair (.int .i64) (.pair .str (.pair (.int .i64) (.int .i64))))),.sl (.sl (.st (.pair (.int .i64) (.pair .str (.pair (.int .i64) (.int .i64))))))] 4 (by kernel_rfl) (by kernel_rfl) (by kernel_rfl) Tryz.underlying4 rfl
    (fun ds h=>by
      match ds,h with
      |[d0,d1,d2],_=>rfl) hc hW hL
    (fun x hx _=>(Am.calls (Am.iA x (true,()) (data x hx))).s)

/-- A world for the witness: the settled one with two blocks more (the ranges of unicode.White_Space, and what leads to them), the two variables holding what their initialisers lay. -/
def ranges:Array Value:=#[9,13,1,32,133,101,160,5760,5600,8192,8202,1,8232,8233,1,8239,8287,48,12288,12288,1].map fun n=>.int .u16 n
def wg:MemPlace→Nat
  |.cell b off=>b*512+off
  |.map b=>b*512+511
def DL:List MemPlace→Nat→Bool
  |[],_=>true
  |p::r,m=>!(Nat.testBit m (wg p))&&DL r (m|||1<<<wg p)
theorem uQ:∀(l:List MemPlace) (m:Nat),DL l m=true→l.Nodup∧∀p,p∈l→m.testBit (wg p)=false
  |[],_,_=>⟨List.nodup_nil,fun _ h=>by cases h⟩
  |p::r,m,h=>by
    simp only [DL,zd,Bool.not_eq_true'] at h;obtain ⟨h1,h2⟩:=uQ r _ h.2;have hb:∀q,q∈r→m.testBit (wg q)=false∧wg p≠wg q:=fun q hq=>by have:=h2 q hq;rw [Nat.testBit_or,Nat.one_shiftLeft,Nat.testBit_two_pow] at this;simp only [Bool.or_eq_false_iff,decide_eq_false_iff_not] at this;exact this
    refine ⟨List.nodup_cons.2 ⟨fun hp=>(hb p hp).2 rfl,h1⟩,fun q hq=>?_⟩;rcases zt.1 hq with rfl|hq
    · exact h.1
    · exact (hb q hq).1
theorem oX {P:Program} {w:World} {l:List (String×DataW Unit)} (fuel:Nat) (h:(DataW.laidRun P w fuel (l.map (·.1))).map (·.1)=some l) (hr:(DataW.laidRun P w fuel (l.map (·.1))).map (fun x=>DL x.2 0)=some true) (hs:(DataW.laidRun P w fuel (l.map (·.1))).map (fun x=>laidRowsB P w x.2)=some true):laidMet P l w:=by
  cases hx:DataW.laidRun P w fuel (l.map (·.1)) with
  |none=>rw [hx] at h;cases h
  |some x=>obtain ⟨l',ps⟩:=x;rw [hx] at h hr hs;injection h with h;have h:l'=l:=h;injection hr with hr;injection hs with hs;subst h;exact laidMet_of_run fuel hx (zu (uQ _ _ hr).1) hs
def ints (d:DataW Unit):List Value:=match d with
  |.agg l=>l.map fun
    |.lit (.int k n)=>.int k n
    |_=>.int .u8 0
  |_=>[]
def M7 (d:DataW Unit):List Value:=match d with
  |.agg l=>l.flatMap ints
  |_=>[]
def H7 (N:Nat):Nat→Option (Array Value)
  |0=>some (ints Rows.laid_internal_strconv_uint64pow10).toArray
  |1=>some (ints Rows.laid_unicode_utf8_first).toArray
  |2=>some (M7 Rows.laid_unicode_utf8_acceptRanges).toArray
  |4=>some (ints Rows.laid_strings_asciiSpace).toArray
  |5=>some #[.pointer (some ⟨N+1,0,none⟩)]
  |6=>some (ints Rows.laid_math_bits_deBruijn32tab).toArray
  |7=>some (ints Rows.laid_math_bits_deBruijn64tab).toArray
  |_=>none
def bE (f:Option (Array Value)) (o:Go.Obj):Go.Obj:=match f,o with
  |some cs,.cells _ t frozen=>.cells cs t frozen
  |_,o=>o
def M8 (f:Nat→Option (Array Value)):List Go.Obj→Nat→List Go.Obj
  |[],_=>[]
  |o::r,i=>bE (f i) o::M8 f r (i+1)
noncomputable def kL (os:Os):World:=
  let N:=(World.settled Tryz.prog os).heap.size;let w0:=World.holding Tryz.prog os ⟨#[.cells ranges 246,.cells #[.slice (some ⟨N,0,none⟩) 7 7,.slice none 0 0,.int .i64 2] 243],#[],[]⟩
  {w0 with heap:=⟨M8 (H7 N) w0.heap.toList 0⟩}
theorem Ar (os:Os):laidMet Tryz.prog Rows.chooseBuildsRow.laid ((kL os).forCall (fun _ _=>0) ⟨#[],#[.slice none 0 0,.slice none 0 0,.slice none 0 0],[]⟩).memory:=oX 8 (by kernel_rfl) (by kernel_rfl) (by kernel_rfl)
theorem reads (os:Os) {H:Type} (enc:TypeId×Value→H):∃places,DataW.whole enc Tryz.prog ((kL os).forCall (fun _ _=>0) ⟨#[],#[.slice none 0 0,.slice none 0 0,.slice none 0 0],[]⟩).memory Tryz.f3.params.toList Rows.chooseBuildsSpec.vars false (#[.slice none 0 0,.slice none 0 0,.slice none 0 0]:Array Value).toList 8=some ([.nil,.nil,.nil],[],places):=⟨[],by kernel_rfl⟩

set_option maxRecDepth 100000 in
theorem lifted (os:Os) (started:os.Started) (H:Type) (enc:TypeId×Value→H) (F:Stop.Interp):ReturnsInHanded {} Tryz.checked os 3 .any ((OpenSpec.ofChange Rows.chooseBuildsSpec).preRow enc Tryz.prog Tryz.f3 Rows.chooseBuildsRow.domain false Rows.chooseBuildsRow.laid) (((OpenSpec.ofChange Rows.chooseBuildsSpec).at F).post enc Tryz.prog Tryz.f3 false true false false):=by
  obtain ⟨places,hx⟩:=reads os enc;refine returnsInHanded_of_row (C:=Tryz.checked) (s:=OpenSpec.ofChange Rows.chooseBuildsSpec) own started (by kernel_rfl) Tryz.func3
    (witness_row_atRef (enc:=enc) (C:=Tryz.checked) false (kL os) #[.slice none 0 0,.slice none 0 0,.slice none 0 0] rfl (by kernel_rfl) (by kernel_rfl) (by kernel_rfl)
      (OpenSpec.preRow_of_cond 8 hx (by kernel_rfl) (fun k hk=>by cases hk) (by kernel_rfl) (Ar os))) ?_
  intro W base args ds gs before hc hW _ _ _ hL _ _;exact Aq H enc W base args ds gs before hc hW hL

theorem found:Tryz.pinned.checked.prog.funcNamed Rows.chooseBuildsRow.func=some 3:=by kernel_rfl
theorem facts:joinedFacts Tryz.pinned.checked.prog 3 Tryz.f3 (OpenSpec.ofChange Rows.chooseBuildsSpec).bare Rows.chooseBuildsRow=true:=by kernel_rfl
theorem inst:Tryz.f3.isInstance Tryz.pinned.checked.prog Rows.chooseBuildsRow.origin Rows.chooseBuildsRow.targs:=zP (by kernel_rfl)
theorem said:Rows.ChooseBuildsSaid:=
  OpenClaim.holds_of_cond 3 Tryz.f3 rfl rfl rfl rfl rfl rfl rfl ⟨rfl,rfl,rfl,rfl,rfl⟩ rfl rfl rfl rfl rfl found Tryz.func3 facts
    inst (by unfold Func.isWrapper;first|(rw [if_pos (by decide+kernel)];kernel_rfl)|(rw [if_neg (by decide+kernel)];exact ⟨rfl,rfl⟩))
    (fun os started H enc _ F=>by rw [OpenClaim.pre_eq_preRow];exact lifted os started H enc F)

/-- No parameter wants a stand-in; the program's own looks are off. -/
theorem plain (f:FuncId) (fn:Func) (hf:Tryz.pinned.checked.prog.funcNamed Rows.chooseBuildsRow.func=some f) (he:Tryz.pinned.checked.prog.funcs[f]?=some fn):false=Tryz.pinned.checked.prog.looks []∧∀(j:Nat) t,fn.params[j]?=some t→Tryz.pinned.checked.prog.wantsStandIn t=false:=by
  obtain rfl:f=3:=zI ((show Tryz.prog.funcNamed Rows.chooseBuildsRow.func=some 3 by kernel_rfl).symm.trans hf)|>.symm;obtain rfl:fn=Tryz.f3:=(zI (Tryz.func3.symm.trans he)).symm;refine ⟨by kernel_rfl,fun j t ht=>?_⟩;have hc:(Tryz.f3.params.toList.all fun t=>!Tryz.prog.wantsStandIn t)=true:=by kernel_rfl
  have hm:t∈Tryz.f3.params.toList:=by rw [←zG] at ht;exact zj ht
  have h2:Tryz.prog.wantsStandIn t=false:=by simpa using zO.1 hc t hm
  exact h2

/-- The card. -/
theorem card:Rows.ChooseBuildsCardSaid:=Claim7.holds_tied_plain_at .later [] _ _ _ _ said (fun _ h=>by cases h) (by kernel_rfl) (fun _ h=>by cases h) chooseBuilds_row_tie rfl ⟨rfl,rfl⟩ (by kernel_rfl) rfl plain (by kernel_rfl)
end Go.Proofs.YtfgngipmbogcjaaGreatDoor.chooseBuilds
