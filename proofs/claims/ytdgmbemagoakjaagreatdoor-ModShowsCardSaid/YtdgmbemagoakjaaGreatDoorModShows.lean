/- ModShows: for every input the law returns true (any module is written as the chapter says, or it is told that it may not be), and each argument reads behind the call as it read before.
   The condition:as the card says,the listed package-level variables hold what the program's text lays. -/
import Derived.Test.YtdgmbemagoakjaaGreatDoorCards
import Derived.Test.YtdgmbemagoakjaaGreatDoorTie
import Derived.Test.YtdgmbemagoakjaaGreatDoorSt
import Derived.Test.YtdgmbemagoakjaaGreatDoorPlainE
import Derived.ProofKit
import Derived.OpenShut
import Derived.Deep.DeepHandedRow
import Derived.Deep.DeepWitnessRowRef
namespace Go.Proofs.YtdgmbemagoakjaaGreatDoor.modShows
open Go Go.Proofs Ev Go.ChangeShapes Go.WideShapes Go.ChangeAt Go.RowKit

theorem own:ownKnob Tryz.prog.godebug=none:=by kernel_rfl

/-- The law as data. -/
theorem data (x:vV [.st (.pair .str (.pair (.sl .str) (.pair (.sl (.st (.pair .str (.pair (.int .i64) (.int .i64))))) (.pair (.sl (.st (.pair .str (.pair (.int .i64) (.sl (.st (.pair .str (.sl (.sl (.st (.pair (.int .i64) (.pair .str (.pair (.int .i64) (.int .i64)))))))))))))) (.sl (.st (.pair .str (.pair .bool (.sl (.st (.pair (.int .i64) (.pair .str (.pair (.int .i64) (.int .i64)))))))))))))),.sl (.st (.pair .str (.pair (.int .i64) (.int .i64))))]) (hx:sj [.st (.pair .str (.pair (.sl .str) (.pair (.sl (.st (.pair .str (.pair (.int .i64) (.int .i64))))) (.pair (.sl (.st (.pair .str (.pair (.int .i64) (.sl (.st (.pair .str (.sl (.sl (.st (.pair (.int .i64) (.pair .str (.pair (.int .i64) (.int .i64)))))))))))))) (.sl (.st (.pair .str (.pair .bool (.sl (.st (.pair (.int .i64) (.pair .str (.pair (.int .i64) (.int .i64)))))))))))))),.sl (.st (.pair .str (.pair (.int .i64) (.int .i64))))] x):Ev.Fn.cA x=some (true,()):=by obtain ⟨⟨nm,O,X,D,L⟩,⟨m,c⟩,u⟩:=x;exact Ev.Fn.Bn nm O X D L m c (Ev.Fn.Fk hx.1) (fun y hy=>Ev.Fn.yB (hx.2.1.2.2 y hy))

set_option maxRecDepth 100000 in
theorem Fq (H:Type) (enc:TypeId×Value→H) (W:World) (base:Nat) (args:Array Value) (ds gs:List (DataW H)) (before:List MemPlace) (hc:∀(j:Nat) t v,Tryz.f3.params[j]?=some t→args[j]?=some v→Value.okWide Tryz.prog W .any base t v) (hW:DataW.Whole enc Tryz.prog Tryz.f3.params.toList Rows.modShowsSpec.vars false W args.toList ds gs before) (hL:laidMetH Tryz.prog Rows.modShowsRow.laid W):Calls Tryz.prog 3 args W fun e W'=>∃v,e=.returned v∧Rows.modShowsSpec.post enc Tryz.prog Tryz.f3 false true false false W args v W':=
  oJ (C:=Fl.C) (laid:=Rows.modShowsRow.laid) Fl.Qp [.st (.pair .str (.pair (.sl .str) (.pair (.sl (.st (.pair .str (.pair (.int .i64) (.int .i64))))) (.pair (.sl (.st (.pair .str (.pair (.int .i64) (.sl (.st (.pair .str (.sl (.sl (.st (.pair (.int .i64) (.pair .str (.pair (.int .i64) (.int .i64)))))))))))))) (.sl (.st (.pair .str (.pair .bool (.sl (.st (.pair (.int .i64) (.pair .str (.pair (.int .i64) (.int .i64)))))))))))))),.sl (.st (.pair .str (.pair (.int .i64) (.int .i64))))] 4 (by kernel_rfl) (by kernel_rfl) (by kernel_rfl) Tryz.underlying4 rfl
    (fun ds h=>by
      match ds,h with
      |[d0,d1],_=>rfl) hc hW hL
    (fun x hx _=>(Fl.calls (Fl.lR x (true,()) (data x hx))).s)

/-- A world for the witness: the settled one with two blocks more (the ranges of unicode.White_Space, and what leads to them), the two variables holding what their initialisers lay. -/
def ranges:Array Value:=#[9,13,1,32,133,101,160,5760,5600,8192,8202,1,8232,8233,1,8239,8287,48,12288,12288,1].map fun n=>.int .u16 n
def jD:MemPlace→Nat
  |.cell b off=>b*512+off
  |.map b=>b*512+511
def Kn:List MemPlace→Nat→Bool
  |[],_=>true
  |p::r,m=>!(Nat.testBit m (jD p))&&Kn r (m|||1<<<jD p)
theorem yE:∀(l:List MemPlace) (m:Nat),Kn l m=true→l.Nodup∧∀p,p∈l→m.testBit (jD p)=false
  |[],_,_=>⟨List.nodup_nil,fun _ h=>by cases h⟩
  |p::r,m,h=>by
    simp only [Kn,ze,Bool.not_eq_true'] at h;obtain ⟨h1,h2⟩:=yE r _ h.2;have hb:∀q,q∈r→m.testBit (jD q)=false∧jD p≠jD q:=fun q hq=>by have:=h2 q hq;rw [Nat.testBit_or,Nat.one_shiftLeft,Nat.testBit_two_pow] at this;simp only [Bool.or_eq_false_iff,decide_eq_false_iff_not] at this;exact this
    refine ⟨List.nodup_cons.2 ⟨fun hp=>(hb p hp).2 rfl,h1⟩,fun q hq=>?_⟩;rcases zk.1 hq with rfl|hq
    · exact h.1
    · exact (hb q hq).1
theorem rG {P:Program} {w:World} {l:List (String×DataW Unit)} (fuel:Nat) (h:(DataW.laidRun P w fuel (l.map (·.1))).map (·.1)=some l) (hr:(DataW.laidRun P w fuel (l.map (·.1))).map (fun x=>Kn x.2 0)=some true) (hs:(DataW.laidRun P w fuel (l.map (·.1))).map (fun x=>laidRowsB P w x.2)=some true):laidMet P l w:=by
  cases hx:DataW.laidRun P w fuel (l.map (·.1)) with
  |none=>rw [hx] at h;cases h
  |some x=>obtain ⟨l',ps⟩:=x;rw [hx] at h hr hs;injection h with h;have h:l'=l:=h;injection hr with hr;injection hs with hs;subst h;exact laidMet_of_run fuel hx (zt (yE _ _ hr).1) hs
def ints (d:DataW Unit):List Value:=match d with
  |.agg l=>l.map fun
    |.lit (.int k n)=>.int k n
    |_=>.int .u8 0
  |_=>[]
def Wm (d:DataW Unit):List Value:=match d with
  |.agg l=>l.flatMap ints
  |_=>[]
def Qq (N:Nat):Nat→Option (Array Value)
  |0=>some (ints Rows.laid_strings_asciiSpace).toArray
  |1=>some #[.pointer (some ⟨N+1,0,none⟩)]
  |3=>some (ints Rows.laid_unicode_utf8_first).toArray
  |4=>some (Wm Rows.laid_unicode_utf8_acceptRanges).toArray
  |5=>some (ints Rows.laid_internal_strconv_uint64pow10).toArray
  |6=>some (ints Rows.laid_math_bits_deBruijn32tab).toArray
  |7=>some (ints Rows.laid_math_bits_deBruijn64tab).toArray
  |_=>none
def bK (f:Option (Array Value)) (o:Go.Obj):Go.Obj:=match f,o with
  |some cs,.cells _ t frozen=>.cells cs t frozen
  |_,o=>o
def Wn (f:Nat→Option (Array Value)):List Go.Obj→Nat→List Go.Obj
  |[],_=>[]
  |o::r,i=>bK (f i) o::Wn f r (i+1)
noncomputable def lS (os:Os):World:=
  let N:=(World.settled Tryz.prog os).heap.size;let w0:=World.holding Tryz.prog os ⟨#[.cells ranges 332,.cells #[.slice (some ⟨N,0,none⟩) 7 7,.slice none 0 0,.int .i64 2] 329],#[],[]⟩
  {w0 with heap:=⟨Wn (Qq N) w0.heap.toList 0⟩}
theorem Fs (os:Os):laidMet Tryz.prog Rows.modShowsRow.laid ((lS os).forCall (fun _ _=>0) ⟨#[],#[.agg #[.string (ByteArray.mk #[]),.slice none 0 0,.slice none 0 0,.slice none 0 0,.slice none 0 0],.slice none 0 0],[]⟩).memory:=rG 8 (by kernel_rfl) (by kernel_rfl) (by kernel_rfl)
theorem reads (os:Os) {H:Type} (enc:TypeId×Value→H):∃places,DataW.whole enc Tryz.prog ((lS os).forCall (fun _ _=>0) ⟨#[],#[.agg #[.string (ByteArray.mk #[]),.slice none 0 0,.slice none 0 0,.slice none 0 0,.slice none 0 0],.slice none 0 0],[]⟩).memory Tryz.f3.params.toList Rows.modShowsSpec.vars false (#[.agg #[.string (ByteArray.mk #[]),.slice none 0 0,.slice none 0 0,.slice none 0 0,.slice none 0 0],.slice none 0 0]:Array Value).toList 8=some ([.agg [.lit (.string []),.nil,.nil,.nil,.nil],.nil],[],places):=⟨[],by kernel_rfl⟩

set_option maxRecDepth 100000 in
theorem lifted (os:Os) (started:os.Started) (H:Type) (enc:TypeId×Value→H) (F:Stop.Interp):ReturnsInHanded {} Tryz.checked os 3 .any ((OpenSpec.ofChange Rows.modShowsSpec).preRow enc Tryz.prog Tryz.f3 Rows.modShowsRow.domain false Rows.modShowsRow.laid) (((OpenSpec.ofChange Rows.modShowsSpec).at F).post enc Tryz.prog Tryz.f3 false true false false):=by
  obtain ⟨places,hx⟩:=reads os enc;refine returnsInHanded_of_row (C:=Tryz.checked) (s:=OpenSpec.ofChange Rows.modShowsSpec) own started (by kernel_rfl) Tryz.func3
    (witness_row_atRef (enc:=enc) (C:=Tryz.checked) false (lS os) #[.agg #[.string (ByteArray.mk #[]),.slice none 0 0,.slice none 0 0,.slice none 0 0,.slice none 0 0],.slice none 0 0] rfl (by kernel_rfl) (by kernel_rfl) (by kernel_rfl)
      (OpenSpec.preRow_of_cond 8 hx (by kernel_rfl) (fun k hk=>by cases hk) (by kernel_rfl) (Fs os))) ?_
  intro W base args ds gs before hc hW _ _ _ hL _ _;exact Fq H enc W base args ds gs before hc hW hL

theorem found:Tryz.pinned.checked.prog.funcNamed Rows.modShowsRow.func=some 3:=by kernel_rfl
set_option linter.defProp false
def la {x a b:Bool} (_:x=(a && b)):Bool:=a
def rb {x a b:Bool} (_:x=(a && b)):Prop:=b=true
def sp {x a b:Bool} (h:x=(a && b)):x=(a && b):=h
def an {x a b:Bool} (p:x=(a && b)) (h:rb p) (i:la p=true):x=true:=by rw [p,show a=true from i,show b=true from h];rfl
def p1:=sp (x:=joinedFacts Tryz.pinned.checked.prog 3 Tryz.f3 (OpenSpec.ofChange Rows.modShowsSpec).bare Rows.modShowsRow) rfl
def p2:=sp (x:=la p1) rfl
def p3:=sp (x:=la p2) rfl
def p4:=sp (x:=la p3) rfl
def p5:=sp (x:=la p4) rfl
def p6:=sp (x:=la p5) rfl
def p7:=sp (x:=la p6) rfl
def p8:=sp (x:=la p7) rfl
def p9:=sp (x:=la p8) rfl
def p10:=sp (x:=la p9) rfl
def p11:=sp (x:=la p10) rfl
def p12:=sp (x:=la p11) rfl
def p13:=sp (x:=la p12) rfl
def p14:=sp (x:=la p13) rfl
def p15:=sp (x:=la p14) rfl
def p16:=sp (x:=la p15) rfl
def p17:=sp (x:=la p16) rfl
def p18:=sp (x:=la p17) rfl
def p19:=sp (x:=la p18) rfl
def p20:=sp (x:=la p19) rfl
def p21:=sp (x:=la p20) rfl
def p22:=sp (x:=la p21) rfl
def p23:=sp (x:=la p22) rfl
def p24:=sp (x:=la p23) rfl
def p25:=sp (x:=la p24) rfl
def p26:=sp (x:=la p25) rfl
def p27:=sp (x:=la p26) rfl
def p28:=sp (x:=la p27) rfl
def p29:=sp (x:=la p28) rfl
def p30:=sp (x:=la p29) rfl
def p31:=sp (x:=la p30) rfl
def t1:rb p1:=by unfold rb;kernel_rfl
def t2:rb p2:=by unfold rb;kernel_rfl
def t3:rb p3:=by unfold rb;kernel_rfl
def t4:rb p4:=by unfold rb;kernel_rfl
def t5:rb p5:=by unfold rb;kernel_rfl
def t6:rb p6:=by unfold rb;kernel_rfl
def t7:rb p7:=by unfold rb;kernel_rfl
def t8:rb p8:=by unfold rb;kernel_rfl
def t9:rb p9:=by unfold rb;kernel_rfl
def t10:rb p10:=by unfold rb;kernel_rfl
def t11:rb p11:=by unfold rb;kernel_rfl
def t12:rb p12:=by unfold rb;kernel_rfl
def t13:rb p13:=by unfold rb;kernel_rfl
def t14:rb p14:=by unfold rb;kernel_rfl
def t15:rb p15:=by unfold rb;kernel_rfl
def t16:rb p16:=by unfold rb;kernel_rfl
def t17:rb p17:=by unfold rb;kernel_rfl
def t18:rb p18:=by unfold rb;kernel_rfl
def t19:rb p19:=by unfold rb;kernel_rfl
def t20:rb p20:=by unfold rb;kernel_rfl
def t21:rb p21:=by unfold rb;kernel_rfl
def t22:rb p22:=by unfold rb;kernel_rfl
def t23:rb p23:=by unfold rb;kernel_rfl
def t24:rb p24:=by unfold rb;kernel_rfl
def t25:rb p25:=by unfold rb;kernel_rfl
def t26:rb p26:=by unfold rb;kernel_rfl
def t27:rb p27:=by unfold rb;kernel_rfl
def t28:rb p28:=by unfold rb;kernel_rfl
def t29:rb p29:=by unfold rb;kernel_rfl
def t30:rb p30:=by unfold rb;kernel_rfl
def t31:rb p31:=by unfold rb;kernel_rfl
def t32:la p31=true:=by unfold la;kernel_rfl
theorem facts:joinedFacts Tryz.pinned.checked.prog 3 Tryz.f3 (OpenSpec.ofChange Rows.modShowsSpec).bare Rows.modShowsRow=true:=(an p1 t1 (an p2 t2 (an p3 t3 (an p4 t4 (an p5 t5 (an p6 t6 (an p7 t7 (an p8 t8 (an p9 t9 (an p10 t10 (an p11 t11 (an p12 t12 (an p13 t13 (an p14 t14 (an p15 t15 (an p16 t16 (an p17 t17 (an p18 t18 (an p19 t19 (an p20 t20 (an p21 t21 (an p22 t22 (an p23 t23 (an p24 t24 (an p25 t25 (an p26 t26 (an p27 t27 (an p28 t28 (an p29 t29 (an p30 t30 (an p31 t31 t32)))))))))))))))))))))))))))))))
theorem inst:Tryz.f3.isInstance Tryz.pinned.checked.prog Rows.modShowsRow.origin Rows.modShowsRow.targs:=zI (by kernel_rfl)
theorem said:Rows.ModShowsSaid:=
  OpenClaim.holds_of_cond 3 Tryz.f3 rfl rfl rfl rfl rfl rfl rfl ⟨rfl,rfl,rfl,rfl,rfl⟩ rfl rfl rfl rfl rfl found Tryz.func3 facts
    inst (by unfold Func.isWrapper;first|(rw [if_pos (by decide+kernel)];kernel_rfl)|(rw [if_neg (by decide+kernel)];exact ⟨rfl,rfl⟩))
    (fun os started H enc _ F=>by rw [OpenClaim.pre_eq_preRow];exact lifted os started H enc F)

/-- No parameter wants a stand-in; the program's own looks are off. -/
theorem plain (f:FuncId) (fn:Func) (hf:Tryz.pinned.checked.prog.funcNamed Rows.modShowsRow.func=some f) (he:Tryz.pinned.checked.prog.funcs[f]?=some fn):false=Tryz.pinned.checked.prog.looks []∧∀(j:Nat) t,fn.params[j]?=some t→Tryz.pinned.checked.prog.wantsStandIn t=false:=by
  obtain rfl:f=3:=zF ((show Tryz.prog.funcNamed Rows.modShowsRow.func=some 3 by kernel_rfl).symm.trans hf)|>.symm;obtain rfl:fn=Tryz.f3:=(zF (Tryz.func3.symm.trans he)).symm;refine ⟨by kernel_rfl,fun j t ht=>?_⟩;have hc:(Tryz.f3.params.toList.all fun t=>!Tryz.prog.wantsStandIn t)=true:=by kernel_rfl
  have hm:t∈Tryz.f3.params.toList:=by rw [←zJ] at ht;exact zv ht
  have h2:Tryz.prog.wantsStandIn t=false:=by simpa using zL.1 hc t hm
  exact h2

/-- The card. -/
theorem card:Rows.ModShowsCardSaid:=Claim7.holds_tied_plain_at .later [] _ _ _ _ said (fun _ h=>by cases h) (by kernel_rfl) (fun _ h=>by cases h) modShows_row_tie rfl ⟨rfl,rfl⟩ (by kernel_rfl) rfl plain (by kernel_rfl)
end Go.Proofs.YtdgmbemagoakjaaGreatDoor.modShows
