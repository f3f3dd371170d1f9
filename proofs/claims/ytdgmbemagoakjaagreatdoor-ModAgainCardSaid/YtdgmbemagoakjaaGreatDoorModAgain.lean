/- ModAgain: for every input the law returns true (what was read may be; shown, and read again it is the same), and each argument reads behind the call as it read before.
   The condition:as the card af2,the listed package-level variables hold what the program's text lays. -/
import Derived.Test.YtdgmbemagoakjaaGreatDoorCards
import Derived.Test.YtdgmbemagoakjaaGreatDoorTie
import Derived.Test.YtdgmbemagoakjaaGreatDoorSt
import Derived.Test.YtdgmbemagoakjaaGreatDoorPlainF
import Derived.ProofKit
import Derived.OpenShut
import Derived.Deep.DeepHandedRow
import Derived.Deep.DeepWitnessRowRef
namespace Go.Proofs.YtdgmbemagoakjaaGreatDoor.modAgain
open Go Go.Proofs Ev Go.ChangeShapes Go.WideShapes Go.ChangeAt Go.RowKit

theorem own:ownKnob Tryz.prog.godebug=none:=by kernel_rfl

/-- The law as data. -/
theorem data (x:xV [.str,.str,.sl (.st (.pair .str (.pair (.int .i64) (.int .i64))))]) (hx:wI [.str,.str,.sl (.st (.pair .str (.pair (.int .i64) (.int .i64))))] x):Ev.Fn.cq x=some (true,()):=by obtain ⟨s,a,⟨m,c⟩,u⟩:=x;exact Ev.Fn.Aq s a (Ev.Fn.xw hx.1) (Ev.Fn.xw hx.2.1) m c (fun y hy=>Ev.Fn.F9 (hx.2.2.1.2.2 y hy))

set_option maxRecDepth 100000 in
theorem Di (H:Type) (enc:TypeId×Value→H) (W:World) (base:Nat) (args:Array Value) (ds gs:List (DataW H)) (before:List MemPlace) (hc:∀(j:Nat) t v,Tryz.f4.params[j]?=some t→args[j]?=some v→Value.okWide Tryz.prog W .any base t v) (hW:DataW.Whole enc Tryz.prog Tryz.f4.params.toList Rows.modAgainSpec.vars false W args.toList ds gs before) (hL:laidMetH Tryz.prog Rows.modAgainRow.laid W):Calls Tryz.prog 4 args W fun e W'=>∃v,e=.returned v∧Rows.modAgainSpec.post enc Tryz.prog Tryz.f4 false true false false W args v W':=
  oX (C:=Da.C) (laid:=Rows.modAgainRow.laid) Da.Nr [.str,.str,.sl (.st (.pair .str (.pair (.int .i64) (.int .i64))))] 4 (by kernel_rfl) (by kernel_rfl) (by kernel_rfl) Tryz.underlying4 rfl
    (fun ds h=>by
      match ds,h with
      |[d0,d1,d2],_=>rfl) hc hW hL
    (fun x hx _=>(Da.calls (Da.mK x (true,()) (data x hx))).s)

/-- A world for the witness: the settled one with two blocks more (the ranges of unicode.White_Space, and what leads to them), the two variables holding what their initialisers lay. -/
def ranges:Array Value:=#[9,13,1,32,133,101,160,5760,5600,8192,8202,1,8232,8233,1,8239,8287,48,12288,12288,1].map fun n=>.int .u16 n
def eQ:MemPlace→Nat
  |.cell b off=>b*512+off
  |.map b=>b*512+511
def GB:List MemPlace→Nat→Bool
  |[],_=>true
  |p::r,m=>!(Nat.testBit m (eQ p))&&GB r (m|||1<<<eQ p)
theorem xB:∀(l:List MemPlace) (m:Nat),GB l m=true→l.Nodup∧∀p,p∈l→m.testBit (eQ p)=false
  |[],_,_=>⟨Js,fun _ h=>by cases h⟩
  |p::r,m,h=>by
    simp only [GB,ze,ZG] at h;obtain ⟨h1,h2⟩:=xB r _ h.2;have hb:∀q,q∈r→m.testBit (eQ q)=false∧eQ p≠eQ q:=fun q hq=>by have:=h2 q hq;rw [Nat.testBit_or,Nat.one_shiftLeft,Nat.testBit_two_pow] at this;simp only [jc,jg] at this;exact this
    refine ⟨ZS.2 ⟨fun hp=>(hb p hp).2 rfl,h1⟩,fun q hq=>?_⟩;rcases zA.1 hq with rfl|hq
    · exact h.1
    · exact (hb q hq).1
theorem rh {P:Program} {w:World} {l:List (String×DataW Unit)} (fuel:Nat) (h:(DataW.laidRun P w fuel (l.map (·.1))).map (·.1)=some l) (hr:(DataW.laidRun P w fuel (l.map (·.1))).map (fun x=>GB x.2 0)=some true) (hs:(DataW.laidRun P w fuel (l.map (·.1))).map (fun x=>laidRowsB P w x.2)=some true):laidMet P l w:=by
  cases hx:DataW.laidRun P w fuel (l.map (·.1)) with
  |none=>rw [hx] at h;cases h
  |some x=>obtain ⟨l',ps⟩:=x;rw [hx] at h hr hs;injection h with h;have h:l'=l:=h;injection hr with hr;injection hs with hs;subst h;exact laidMet_of_run fuel hx (zw (xB _ _ hr).1) hs
def ints (d:DataW Unit):List Value:=match d with
  |.agg l=>l.map fun
    |.lit (.int k n)=>.int k n
    |_=>.int .u8 0
  |_=>[]
def UW (d:DataW Unit):List Value:=match d with
  |.agg l=>l.flatMap ints
  |_=>[]
def Ns (N:Nat):Nat→Option (Array Value)
  |0=>some (ints Rows.laid_strings_asciiSpace).toArray
  |1=>some #[.pointer (some ⟨N+1,0,none⟩)]
  |3=>some (ints Rows.laid_unicode_utf8_first).toArray
  |4=>some (UW Rows.laid_unicode_utf8_acceptRanges).toArray
  |5=>some (ints Rows.laid_internal_strconv_uint64pow10).toArray
  |6=>some (ints Rows.laid_math_bits_deBruijn32tab).toArray
  |7=>some (ints Rows.laid_math_bits_deBruijn64tab).toArray
  |_=>none
def bN (f:Option (Array Value)) (o:Go.Obj):Go.Obj:=match f,o with
  |some cs,.cells _ t frozen=>.cells cs t frozen
  |_,o=>o
def UX (f:Nat→Option (Array Value)):List Go.Obj→Nat→List Go.Obj
  |[],_=>[]
  |o::r,i=>bN (f i) o::UX f r (i+1)
noncomputable def mL (os:Os):World:=
  let N:=(World.settled Tryz.prog os).heap.size;let w0:=World.holding Tryz.prog os ⟨#[.cells ranges 332,.cells #[.slice (some ⟨N,0,none⟩) 7 7,.slice none 0 0,.int .i64 2] 329],#[],[]⟩
  {w0 with heap:=⟨UX (Ns N) w0.heap.toList 0⟩}
theorem Dj (os:Os):laidMet Tryz.prog Rows.modAgainRow.laid ((mL os).forCall (fun _ _=>0) ⟨#[],#[.string (ByteArray.mk #[]),.string (ByteArray.mk #[]),.slice none 0 0],[]⟩).memory:=rh 8 (by kernel_rfl) (by kernel_rfl) (by kernel_rfl)
theorem reads (os:Os) {H:Type} (enc:TypeId×Value→H):∃places,DataW.whole enc Tryz.prog ((mL os).forCall (fun _ _=>0) ⟨#[],#[.string (ByteArray.mk #[]),.string (ByteArray.mk #[]),.slice none 0 0],[]⟩).memory Tryz.f4.params.toList Rows.modAgainSpec.vars false (#[.string (ByteArray.mk #[]),.string (ByteArray.mk #[]),.slice none 0 0]:Array Value).toList 8=some ([.lit (.string []),.lit (.string []),.nil],[],places):=⟨[],by kernel_rfl⟩

set_option maxRecDepth 100000 in
theorem lifted (os:Os) (started:os.Started) (H:Type) (enc:TypeId×Value→H) (F:Stop.Interp):ReturnsInHanded {} Tryz.checked os 4 .any ((OpenSpec.ofChange Rows.modAgainSpec).preRow enc Tryz.prog Tryz.f4 Rows.modAgainRow.domain false Rows.modAgainRow.laid) (((OpenSpec.ofChange Rows.modAgainSpec).at F).post enc Tryz.prog Tryz.f4 false true false false):=by
  obtain ⟨places,hx⟩:=reads os enc;refine returnsInHanded_of_row (C:=Tryz.checked) (s:=OpenSpec.ofChange Rows.modAgainSpec) own started (by kernel_rfl) Tryz.func4
    (witness_row_atRef (enc:=enc) (C:=Tryz.checked) false (mL os) #[.string (ByteArray.mk #[]),.string (ByteArray.mk #[]),.slice none 0 0] rfl (by kernel_rfl) (by kernel_rfl) (by kernel_rfl)
      (OpenSpec.preRow_of_cond 8 hx (by kernel_rfl) (fun k hk=>by cases hk) (by kernel_rfl) (Dj os))) ?_
  intro W base args ds gs before hc hW _ _ _ hL _ _;exact Di H enc W base args ds gs before hc hW hL

theorem found:Tryz.pinned.checked.prog.funcNamed Rows.modAgainRow.func=some 4:=by kernel_rfl
set_option linter.defProp false
def kB {x a b:Bool} (_:x=(a&&b)):Bool:=a
def eM {x a b:Bool} (_:x=(a&&b)):Prop:=b=true
def kU {x a b:Bool} (h:x=(a&&b)):x=(a&&b):=h
def kV {x a b:Bool} (p:x=(a&&b)) (h:eM p) (i:kB p=true):x=true:=by rw [p,show a=true from i,show b=true from h];rfl
def fp1:=kU (x:=joinedFacts Tryz.pinned.checked.prog 4 Tryz.f4 (OpenSpec.ofChange Rows.modAgainSpec).bare Rows.modAgainRow) rfl
def fp2:=kU (x:=kB fp1) rfl
def fp3:=kU (x:=kB fp2) rfl
def fp4:=kU (x:=kB fp3) rfl
def fp5:=kU (x:=kB fp4) rfl
def fp6:=kU (x:=kB fp5) rfl
def fp7:=kU (x:=kB fp6) rfl
def fp8:=kU (x:=kB fp7) rfl
def fp9:=kU (x:=kB fp8) rfl
def Nt:=kU (x:=kB fp9) rfl
def Nu:=kU (x:=kB Nt) rfl
def Nv:=kU (x:=kB Nu) rfl
def Nw:=kU (x:=kB Nv) rfl
def Nx:=kU (x:=kB Nw) rfl
def Ny:=kU (x:=kB Nx) rfl
def Nz:=kU (x:=kB Ny) rfl
def NA:=kU (x:=kB Nz) rfl
def NB:=kU (x:=kB NA) rfl
def NC:=kU (x:=kB NB) rfl
def NF:=kU (x:=kB NC) rfl
def NG:=kU (x:=kB NF) rfl
def NH:=kU (x:=kB NG) rfl
def NI:=kU (x:=kB NH) rfl
def NJ:=kU (x:=kB NI) rfl
def NK:=kU (x:=kB NJ) rfl
def NL:=kU (x:=kB NK) rfl
def NM:=kU (x:=kB NL) rfl
def NN:=kU (x:=kB NM) rfl
def NO:=kU (x:=kB NN) rfl
def NP:=kU (x:=kB NO) rfl
def NQ:=kU (x:=kB NP) rfl
def ft1:eM fp1:=by unfold eM;kernel_rfl
def ft2:eM fp2:=by unfold eM;kernel_rfl
def ft3:eM fp3:=by unfold eM;kernel_rfl
def ft4:eM fp4:=by unfold eM;kernel_rfl
def ft5:eM fp5:=by unfold eM;kernel_rfl
def ft6:eM fp6:=by unfold eM;kernel_rfl
def ft7:eM fp7:=by unfold eM;kernel_rfl
def ft8:eM fp8:=by unfold eM;kernel_rfl
def ft9:eM fp9:=by unfold eM;kernel_rfl
def afr:eM Nt:=by unfold eM;kernel_rfl
def afs:eM Nu:=by unfold eM;kernel_rfl
def aft:eM Nv:=by unfold eM;kernel_rfl
def afu:eM Nw:=by unfold eM;kernel_rfl
def afv:eM Nx:=by unfold eM;kernel_rfl
def afw:eM Ny:=by unfold eM;kernel_rfl
def afx:eM Nz:=by unfold eM;kernel_rfl
def afy:eM NA:=by unfold eM;kernel_rfl
def afz:eM NB:=by unfold eM;kernel_rfl
def afA:eM NC:=by unfold eM;kernel_rfl
def afB:eM NF:=by unfold eM;kernel_rfl
def afC:eM NG:=by unfold eM;kernel_rfl
def afD:eM NH:=by unfold eM;kernel_rfl
def afE:eM NI:=by unfold eM;kernel_rfl
def afF:eM NJ:=by unfold eM;kernel_rfl
def afG:eM NK:=by unfold eM;kernel_rfl
def afH:eM NL:=by unfold eM;kernel_rfl
def afI:eM NM:=by unfold eM;kernel_rfl
def afJ:eM NN:=by unfold eM;kernel_rfl
def afK:eM NO:=by unfold eM;kernel_rfl
def afL:eM NP:=by unfold eM;kernel_rfl
def afM:eM NQ:=by unfold eM;kernel_rfl
def afN:kB NQ=true:=by unfold kB;kernel_rfl
theorem facts:joinedFacts Tryz.pinned.checked.prog 4 Tryz.f4 (OpenSpec.ofChange Rows.modAgainSpec).bare Rows.modAgainRow=true:=(kV fp1 ft1 (kV fp2 ft2 (kV fp3 ft3 (kV fp4 ft4 (kV fp5 ft5 (kV fp6 ft6 (kV fp7 ft7 (kV fp8 ft8 (kV fp9 ft9 (kV Nt afr (kV Nu afs (kV Nv aft (kV Nw afu (kV Nx afv (kV Ny afw (kV Nz afx (kV NA afy (kV NB afz (kV NC afA (kV NF afB (kV NG afC (kV NH afD (kV NI afE (kV NJ afF (kV NK afG (kV NL afH (kV NM afI (kV NN afJ (kV NO afK (kV NP afL (kV NQ afM afN)))))))))))))))))))))))))))))))
theorem inst:Tryz.f4.isInstance Tryz.pinned.checked.prog Rows.modAgainRow.origin Rows.modAgainRow.targs:=zZ (by kernel_rfl)
theorem said:Rows.ModAgainSaid:=
  OpenClaim.holds_of_cond 4 Tryz.f4 rfl rfl rfl rfl rfl rfl rfl ⟨rfl,rfl,rfl,rfl,rfl⟩ rfl rfl rfl rfl rfl found Tryz.func4 facts
    inst (by unfold Func.isWrapper;first|(rw [zu (by decide+kernel)];kernel_rfl)|(rw [zj (by decide+kernel)];exact ⟨rfl,rfl⟩))
    (fun os started H enc _ F=>by rw [OpenClaim.pre_eq_preRow];exact lifted os started H enc F)

/-- No parameter wants a stand-in; the program's own looks are off. -/
theorem plain (f:FuncId) (fn:Func) (hf:Tryz.pinned.checked.prog.funcNamed Rows.modAgainRow.func=some f) (he:Tryz.pinned.checked.prog.funcs[f]?=some fn):false=Tryz.pinned.checked.prog.looks []∧∀(j:Nat) t,fn.params[j]?=some t→Tryz.pinned.checked.prog.wantsStandIn t=false:=by
  obtain rfl:f=4:=jb ((show Tryz.prog.funcNamed Rows.modAgainRow.func=some 4 by kernel_rfl).symm.trans hf)|>.symm;obtain rfl:fn=Tryz.f4:=(jb (Tryz.func4.symm.trans he)).symm;refine ⟨by kernel_rfl,fun j t ht=>?_⟩;have hc:(Tryz.f4.params.toList.all fun t=>!Tryz.prog.wantsStandIn t)=true:=by kernel_rfl
  have hm:t∈Tryz.f4.params.toList:=by rw [←ji] at ht;exact zH ht
  have h2:Tryz.prog.wantsStandIn t=false:=by simpa using ju.1 hc t hm
  exact h2

/-- The card. -/
theorem card:Rows.ModAgainCardSaid:=Claim7.holds_tied_plain_at .later [] _ _ _ _ said (fun _ h=>by cases h) (by kernel_rfl) (fun _ h=>by cases h) modAgain_row_tie rfl ⟨rfl,rfl⟩ (by kernel_rfl) rfl plain (by kernel_rfl)
end Go.Proofs.YtdgmbemagoakjaaGreatDoor.modAgain
