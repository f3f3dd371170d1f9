/- What choose.place gives, by hand: a loop over an iterator that keeps a state. No statement of its own about the program. -/
import Derived.Test.YtfgngipmbogcjaaGreatDoorEvI
import Derived.OrdersIn
import Derived.TacticsIn
import Derived.RangeFuncNested
import Derived.RangeFuncBound
import Derived.RangeFuncCalls
import Derived.RangeFuncLeaves
import Derived.RangeFuncBox
import Derived.Shelf.Abstract
import Derived.Shelf.RegionOpen
import Derived.WalkKit
import Derived.OwnWalkIn
import Derived.TacticsInMore
import Derived.LoopNIn
import Derived.LoopIn
import Derived.Test.YtfgngipmbogcjaaGreatDoorProg
import Derived.Lib.Slices
import Derived.Lib.Strings
import Derived.Lib.IndexBytes
import Derived.Shelf.Strings.Search2
import Derived.Maps.AppendAt
namespace Ev
open Go
section
variable {F:Fence} {n:Nat} {P:Program} {ops:Array Oper} {Q:Exit→Act→World→Prop} {a:Act} {w:World} {md:Region.Mode}
def Af(md:Region.Mode)(ops:Array Oper):Nat->Array Bool->List (List Nat)
 |0,_=>[[]]
 |f+1,d=>if Region.ready md ops d=[] then [[]] else(Region.ready md ops d).flatMap fun i=>(Af md ops f (d.setIfInBounds i true)).map (i:: ·)
theorem qyk:∀(f t:Nat) (d:Array Bool),Region.linearise.go md ops f t d []∈Af md ops f d:=by
 intro f
 induction f with
 |zero=>intro t d;simp[Region.linearise.go,Af]
 |succ f ih=>
  intro t d;simp only[Region.linearise.go,Af];change (match(Region.ready md ops d)[t % (Region.ready md ops d).length]? with
   |some i=>Region.linearise.go md ops f (t / (Region.ready md ops d).length) (d.setIfInBounds i true) [i]
   |none=>[].reverse)∈_
  by_cases hr:Region.ready md ops d=[]
  ·simp[hr]
  ·rw[if_neg hr];have hc:t % (Region.ready md ops d).length<(Region.ready md ops d).length:=Nat.mod_lt _ (List.length_pos_iff.2 hr);rw[ze hc];show Region.linearise.go md ops f _ _ [_]∈_;rw[linearise_go_acc];exact List.mem_flatMap.2 ⟨_,List.getElem_mem hc,zW.2 ⟨_,ih _ _,rfl⟩⟩
theorem quv{id:Nat}(hm:P.follows .mixedOrders=true)(L:List (List Nat))(hL:Af .any ops ops.size (Array.replicate ops.size false)=L)(h:∀l∈L,wpOpsIn F n P ops Q l a {w with drawn:=w.drawn+1}):(Code.region id ops true).wpIn F n P Q a w:=wpIn_region_draw fun t=>by simp only[Region.schedule,hm,Bool.true_or,if_true];exact h _ (hL▸qyk _ _ _)
theorem Xe:∀(is:List Nat) (l:List Oper) (_:is.map (fun i=>ops[i]?)=l.map some) (a:Act) (w:World),wpListIn F n P ops Q l a w->wpOpsIn F n P ops Q is a w
 |[],[],_,_,_,h=>h
 |[],_::_,e,_,_,_=>by cases e
 |_::_,[],e,_,_,_=>by cases e
 |i::is,o::l,e,a,w,h=>by
  injection e with e1 e2;unfold wpOpsIn;simp only[e1];unfold wpListIn at h;split
  ·rename_i hw;rw[if_pos hw] at h;exact Oper.wpIn_mono (fun a w=>Xe is l e2 a w) h
  ·rename_i hw;rw[if_neg hw] at h;exact⟨h.1,Xe is l e2 _ _ h.2⟩
end
end Ev
namespace Ev
open Go Go.RowKit
theorem z1z{P:Program}{α:Type}{g:Operand}{ps:Array Tmp}{assign body:Code}{Q:Exit->Act->World->Prop}{a:Act}{w:World}{n:Nat}(h1:1<=n){gf:Nat}{lb:Array Value}(hg:a.eval g=.func (.func gf) #[] lb)(eg:∀args w,(callFunc gf args).run P w=.ok (.enter gf args) w){enc:α->Value}{Z Kp:World->World->Prop}{S Sp:List α->Prop}(hI:ps.size=1)(hu:∀(l:Nat) (J Jx:List α->World->Prop) (W:World),(∀s A B,J s A->Z A B->J s B)->(∀s A B,Jx s A->Z A B->Jx s B)->(∀pre x W1,J pre W1->Sp (pre++[x])->YieldAt Fence.wide (n-1-1) P l #[enc x] W1 fun e W'=>(e=.returned (.bool true)/\J (pre++[x]) W'/\Kp W1 W')\/(e=.returned (.bool false)/\Jx (pre++[x]) W'))->J [] W->Kp w W->CallsIn Fence.wide (n-1) P gf (#[.func (.yield l) #[] #[]]++lb) W fun e W'=>(∃v,e=.returned v)/\((∃xs,S xs/\J xs W')\/(∃pre,Sp pre/\Jx pre W')))(hv:∀{A B C:World},Kp A B->Kp B C->Kp A C)(hE:∀(A:World) (o:Go.Obj),w.heap.size<=A.heap.size->Kp A (A.alloc o))(hF:∀(W:World) (l:Nat) (o:Go.Obj),w.heap.size<=l->Kp W (W.putObj l o))(ht:∀A B,Z A B->KeepsOthers A B)(I:List α->World->Prop)(Ix:Code->List α->World->Prop)(hG:∀s W o,I s W->I s (W.alloc o))(hw:∀s W l o o',w.heap.size<=l->W.heap[l]?=some o->o.isCells=false->I s W->I s (W.putObj l o'))(hH:∀c s W l o o',w.heap.size<=l->W.heap[l]?=some o->o.isCells=false->Ix c s W->Ix c s (W.putObj l o'))(hJ:∀s A B,I s A->Z A B->I s B)(hK:∀c s A B,Ix c s A->Z A B->Ix c s B)(h0:I [] w)(Me:α->Act)(hf:∀(l:Nat) (x:α) (W:World) (K:Act->World->Prop),K (Me x) W->assign.wpIn (Fence.wide.inRound l) (n-1-1) P (Exit.then K (fun _ _ _=>False)) {tmps:=(ps.zip #[enc x]).foldl (fun t (p,v)=>t.setIfInBounds p v) a.tmps,defers:=[]} W)
  (hn:∀(l:Nat) (pre:List α) (x:α) (W:World),I pre W->Sp (pre++[x])->body.wpIn (Fence.wide.inRound l) (n-1-1) P (ownPostK Kp I Ix (pre++[x]) W) (Me x) W)
  (ho:∀(D:Nat) (xs:List α) (W:World),S xs->I xs W->w.heap.size<=D->W.heap[D]?=some (.deferred (some []))->Q .normal {a with defers:={target:=.collected D,args:=#[]}::a.defers} W)
  (hq:∀(D:Nat) (c:Code) (pre:List α) (W:World),Sp pre->Ix c pre W->w.heap.size<=D->W.heap[D]?=some (.deferred (some []))->c.wpIn Fence.wide n P Q {a with defers:={target:=.collected D,args:=#[]}::a.defers} W):
  (Code.rangeFunc g ps assign body).wpIn Fence.wide n P Q a w:=by
 refine wpIn_rangeFunc fun fn _=>?_;show ∃l mark Xf d aa2 f args aa5,(Instr.enterLoop fn a.tmps ps assign body none).run P w=.ok (l,mark) Xf/\_;generalize hx:(fun st pe=>({state:=st,pending:=pe,fn,tmps:=a.tmps,params:=ps,assign,body,defers:=w.heap.size}:Loop))=rec;have he:∀st pe,rec st pe={state:=st,pending:=pe,fn,tmps:=a.tmps,params:=ps,assign,body,defers:=w.heap.size}:=fun st pe=>by rw[<-hx]
 have hL:∀st pe bc Xg,({rec st pe with state:=bc,pending:=Xg}:Loop)=rec bc Xg:=fun st pe bc Xg=>by rw[he,he]
 have hM:∀st pe bc,({rec st pe with state:=bc}:Loop)=rec bc pe:=fun st pe bc=>by rw[he,he]
 obtain⟨W1,hs⟩:∃W1,(w.alloc (.deferred (some []))).alloc (.loop (rec .ready none))=W1:=⟨_,rfl⟩;have hN:W1.heap[w.heap.size+1]?=some (.loop (rec .ready none)):=by rw[<-hs];have:=World.alloc_heap_new (w.alloc (.deferred (some []))) (.loop (rec .ready none));rwa [World.size_alloc] at this
 have hO:W1.heap[w.heap.size]?=some (.deferred (some [])):=by rw[<-hs];exact(Below.heap_alloc _ _ _ (by simp)).trans (World.alloc_heap_new w _)
 have hP:I [] W1:=by rw[<-hs];exact hG _ _ _ (hG _ _ _ h0)
 have hQ:Kp w W1:=by rw[<-hs];exact hv (hE _ _ (Nat.le_refl _)) (hE _ _ (by simp))
 refine⟨w.heap.size+1,[{target:=.collected w.heap.size,args:=#[]}],W1,{target:=.fn (.func gf) lb,args:=#[.func (.yield (w.heap.size+1)) #[] #[]]},W1,gf,
  #[.func (.yield (w.heap.size+1)) #[] #[]]++lb,W1,?_,?_,fun _ _=>trivial,?_,fun _=>h1,?_⟩
 ·rw[<-hs,he];exact run_enterLoop_outer _ _ _ _ _
 ·simp only[resolve,hg];simp[go_sem]
 ·simp[invoke,go_sem,eg]
 refine(hu (w.heap.size+1)
  (fun pre W=>I pre W/\W.heap[w.heap.size+1]?=some (.loop (rec .ready none))/\W.heap[w.heap.size]?=some (.deferred (some [])))
  (fun pre W=>∃c,Ix c pre W/\W.heap[w.heap.size+1]?=some (.loop (rec .done (some c)))/\W.heap[w.heap.size]?=some (.deferred (some [])))
  W1 (fun s A B h hz=>⟨hJ s A B h.1 hz,(ht A B hz).same _ _ h.2.1 rfl,(ht A B hz).same _ _ h.2.2 rfl⟩)
  (fun s A B h hz=>by obtain⟨c,hc,hl,hk⟩:=h;exact⟨c,hK c s A B hc hz,(ht A B hz).same _ _ hl rfl,(ht A B hz).same _ _ hk rfl⟩) ?_ ⟨hP,hN,hO⟩ hQ).mono ?_
 ·rintro pre x W ⟨hi,hl,hk⟩ hR;have hT:w.heap.size+1<W.heap.size:=(Array.getElem?_eq_some_iff.1 hl).1;have hy:=run_yield (P:=P) (args:=#[enc x]) hl (by rw[he];exact hI.symm);rw[he] at hy;refine⟨fn,_,assign,body,hy,roundIn_of_wpIn trivial (hf _ x W _ ⟨_,run_beginRound hl (by rw[he]),?_⟩)⟩;rw[hM];have hU:(W.putObj (w.heap.size+1) (.loop (rec .busy none))).heap[w.heap.size+1]?=some (.loop (rec .busy none)):=World.putObj_heap_same hT;have hV:(W.putObj (w.heap.size+1) (.loop (rec .busy none))).heap[w.heap.size]?=some (.deferred (some [])):=(World.putObj_heap_other om).trans hk;refine wpIn_mono (hn _ pre x _ (hw _ _ _ _ _ om hl rfl hi) hR) ?_;have fin:∀(jump:Option Code) (W3:World),KeepsOthers (W.putObj (w.heap.size+1) (.loop (rec .busy none))) W3->
    (Instr.endRound (w.heap.size+1) jump).run P W3=.ok (.bool jump.isNone) (W3.putObj (w.heap.size+1) (.loop (rec (if jump.isNone then .ready else .done) jump)))/\
    W3.heap[w.heap.size+1]?=some (.loop (rec .busy none))/\
    (W3.putObj (w.heap.size+1) (.loop (rec (if jump.isNone then .ready else .done) jump))).heap[w.heap.size+1]?=some (.loop (rec (if jump.isNone then .ready else .done) jump))/\
    (W3.putObj (w.heap.size+1) (.loop (rec (if jump.isNone then .ready else .done) jump))).heap[w.heap.size]?=some (.deferred (some [])):=fun jump W3 hm=>by
   have hj:=hm.same _ _ hU rfl;have:=run_endRound (P:=P) jump hj;rw[hL] at this;exact⟨this,hj,World.putObj_heap_same (Array.getElem?_eq_some_iff.1 hj).1,(World.putObj_heap_other om).trans (hm.same _ _ hV rfl)⟩
  have out:∀(c:Code) (W3:World),KeepsOthers (W.putObj (w.heap.size+1) (.loop (rec .busy none))) W3->Ix c (pre++[x]) W3->
    ∃v w',(Instr.endRound (w.heap.size+1) (some c)).run P W3=.ok v w'/\((Ending.returned v=.returned (.bool true)/\(I (pre++[x]) w'/\w'.heap[w.heap.size+1]?=some (.loop (rec .ready none))/\w'.heap[w.heap.size]?=some (.deferred (some [])))/\Kp W w')\/
     (Ending.returned v=.returned (.bool false)/\∃c,Ix c (pre++[x]) w'/\w'.heap[w.heap.size+1]?=some (.loop (rec .done (some c)))/\w'.heap[w.heap.size]?=some (.deferred (some [])))):=fun c W3 hm hW=>by
   obtain⟨hr,hj,hA,hB⟩:=fin (some c) W3 hm;exact⟨_,_,hr,.inr ⟨rfl,c,hH c _ _ _ _ _ om hj rfl hW,hA,hB⟩⟩
  rintro e a3 W3 hp;cases e with
  |normal=>obtain⟨hm,hC,hX⟩:=hp;obtain⟨hr,hj,hA,hB⟩:=fin none W3 hm;exact⟨_,_,hr,.inl ⟨rfl,⟨hw _ _ _ _ _ om hj rfl hX,hA,hB⟩,hv (hv (hF _ _ _ om) hC) (hF _ _ _ om)⟩⟩
  |ret=>exact out .ret W3 hp.1 hp.2
  |exit id=>exact out (.exit id) W3 hp.1 hp.2
  |goto t=>exact out (.goto t) W3 hp.1 hp.2
  |panic ch=>exact hp.elim
  |outgrown=>exact hp.elim
 ·rintro e W2 ⟨⟨v,rfl⟩,(⟨xs,hS,hi,hl,hk⟩|⟨pre,hY,c,hi,hl,hk⟩)⟩
  ·exact⟨none,_,by have:=run_endLoop (P:=P) hl (by rw[he];simp);rw[he] at this;exact this,ho _ xs _ hS (hw _ _ _ _ _ om hl rfl hi) (Nat.le_refl _) ((World.putObj_heap_other om).trans hk)⟩
  ·exact⟨some c,_,by have:=run_endLoop (P:=P) hl (by rw[he];simp);rw[he] at this;exact this,hq _ c pre _ hY (hH c _ _ _ _ _ om hl rfl hi) (Nat.le_refl _) ((World.putObj_heap_other om).trans hk)⟩
end Ev
namespace Ev
open Go Go.RowKit Go.Shelf Go.Proofs
attribute [local go_sem] Oper.semAt_some
def Kp3(B:Nat)(X Y:World):Prop:=∀k,k<3->Y.heap[B+k]?=X.heap[B+k]?
noncomputable def z3t(B:Nat)(W:World):Nat:=match W.cell? ⟨B,0,none⟩ with
 |some (.string r)=>r.size
 |_=>0
def pc:List UInt8->List (List UInt8)
 |[]=>[[]]
 |b::l=>if b=46 then []::pc l else match pc l with
  |[]=>[[b]]
  |h::t=>(b::h)::t
def iD(s:ByteArray):List ByteArray:=(pc s.data.toList).map fun x=>⟨x.toArray⟩
theorem qp2:∀l:List UInt8,Lib.indexByte l 46<0->pc l=[l]
 |[],_=>rfl
 |b::l,h=>by
  unfold Lib.indexByte at h;by_cases hb:b=46
  ·subst hb;simp at h
  ·have e1:(b==46)=false:=beq_eq_false_iff_ne.2 hb;rw[e1] at h;have hl:Lib.indexByte l 46<0:=by apply zK;intro hn;have e2:(Lib.indexByte l 46==-1)=false:=beq_eq_false_iff_ne.2 om;simp only[e2] at h;simp at h;omega
   unfold pc;rw[if_neg hb,qp2 l hl]
theorem qp3:∀l:List UInt8,¬Lib.indexByte l 46<0->∃i:Nat,Lib.indexByte l 46=(i:Int)/\i<l.length/\pc l=l.take i::pc (l.drop (i+1))
 |[],h=>absurd dc h
 |b::l,h=>by
  by_cases hb:b=46
  ·subst hb;exact⟨0,rfl,by simp,by simp[pc]⟩
  ·have e1:(b==46)=false:=beq_eq_false_iff_ne.2 hb;unfold Lib.indexByte at h;rw[e1] at h;have hl:¬Lib.indexByte l 46<0:=by
    intro hn;have:Lib.indexByte l 46=-1:=by have:=Lib.indexByte_ge l 46;omega
    rw[this] at h;exact h dc
   obtain⟨i,h1,h2,h3⟩:=qp3 l hl;refine⟨i+1,?_,by simp only[zw];omega,?_⟩
   ·unfold Lib.indexByte;have e2:((i:Int)==-1)=false:=beq_eq_false_iff_ne.2 om;rw[h1,e1,e2];rfl
   ·show(if b=46 then []::pc l else match pc l with|[]=>[[b]]|h::t=>(b::h)::t)=_;rw[if_neg hb,h3];rfl
theorem qc9{n:Nat}(h:n<=2000000):wrap64 (n:Int)=(n:Int):=by unfold wrap64;omega
theorem Xh{r:ByteArray}(h:Lib.indexByte r.data.toList 46<0):iD r=[r]:=by unfold iD;rw[qp2 _ h];rfl
theorem qmu{r:ByteArray}(h:¬Lib.indexByte r.data.toList 46<0):∃i:Nat,Lib.indexByte r.data.toList 46=(i:Int)/\i<r.size/\iD r=r.extract 0 i::iD (r.extract (i+1) r.size):=by
 obtain⟨i,h1,h2,h3⟩:=qp3 _ h;refine⟨i,h1,by rw[Lib.size_eq];exact h2,?_⟩;have hd:(r.extract (i+1) r.size).data.toList=r.data.toList.drop (i+1):=by rw[ByteArray.data_extract,Array.toList_extract,List.extract_eq_take_drop,jc];rw[zT,<-Lib.size_eq];omega
 have ht:r.extract 0 i=⟨(r.data.toList.take i).toArray⟩:=by apply ByteArray.ext;apply Array.toList_inj.1;rw[ByteArray.data_extract,Array.toList_extract,List.extract_eq_take_drop];simp
 unfold iD;rw[h3,hd,ht];rfl
set_option maxRecDepth 100000 in
set_option maxHeartbeats 2000000 in
theorem z20(hf:∀(s:ByteArray) (w:World),Calls Tryz.prog 182 #[.string s,.string ⟨#[46]⟩] w fun e w'=>e=.returned (.int .i64 (Lib.indexByte s.data.toList 46))/\w'=w)(n l B:Nat)(hn:1<=n)(s:ByteArray)(hs:s.size<=1000000)(J Jx:List ByteArray->World->Prop)(hl:∀p A t,J p A->J p (A.setCell ⟨B,0,none⟩ (.string t)))(hY:∀pre x W1,J pre W1->pre++[x]<+:iD s->YieldAt Fence.wide (n-1) Tryz.prog l #[.string x] W1 fun e W'=>(e=.returned (.bool true)/\J (pre++[x]) W'/\Kp3 B W1 W')\/(e=.returned (.bool false)/\Jx (pre++[x]) W'))(W:World)(h1:Boxed W B 9 (.string s))(h2:Boxed W (B+1) 9 (.string ⟨#[46]⟩))(h3:Boxed W (B+2) 3 (.int .i64 0))(h0:J [] W):CallsIn Fence.wide n Tryz.prog 180 #[.func (.yield l) #[] #[],.pointer (some ⟨B+1,0,none⟩),.pointer (some ⟨B,0,none⟩),.pointer (some ⟨B+2,0,none⟩)] W fun e W'=>(∃v,e=.returned v)/\((∃xs,xs=iD s/\J xs W')\/(∃pre,pre<+:iD s/\Jx pre W')):=by
 have c2:=h2.cell;refine callsIn_of_wp Tryz.func180 rfl trivial ?_ rfl;simp only[Tryz.ntmps180,List.size_toArray,zw,List.length_nil,Nat.reduceAdd,Nat.reduceSub,Array.replicate_succ,Array.replicate_zero,List.push_toArray,List.append_toArray,List.nil_append,List.cons_append]
 gi_wp2
 gi_loopw [7] (fun _ wr=>∃(pre:List ByteArray) (r:ByteArray),iD s=pre++iD r/\r.size<=1000000/\J pre wr/\Boxed wr B 9 (.string r)/\Boxed wr (B+1) 9 (.string ⟨#[46]⟩)/\Boxed wr (B+2) 3 (.int .i64 0))
  (fun _ wr=>z3t B wr)
 case atStart=>exact⟨[],s,rfl,hs,h0,h1,h2,h3⟩
 case round=>
  obtain⟨pre,r,e1,hm,hJ,g1,g2,g3⟩:=hrel;have d1:=g1.cell;have d2:=g2.cell;have d3:=g3.cell;have f1:=g1.frozen;by_cases hc:Lib.indexByte r.data.toList 46<0
  ·obtain⟨fn,tmps,assign,body,hy,hR⟩:=hY pre r wr hJ ⟨[],by rw[e1,Xh hc];simp⟩
   gi_wp2_with (refine⟨trivial,?_⟩;gi_at_call 182;refine(callsIn_wide.2 (hf r wr)).mono ?_;rintro e w' ⟨rfl,rfl⟩)
   refine hR.mono ?_;rintro e W3 (⟨rfl,hk,hj⟩|⟨rfl,he⟩)
   ·gi_wp2
    go_end0
    exact⟨⟨_,rfl⟩,.inl ⟨_,by rw[e1,Xh hc],hk⟩⟩
   ·gi_wp2
    go_end0
    exact⟨⟨_,rfl⟩,.inr ⟨_,⟨[],by rw[e1,Xh hc];simp⟩,he⟩⟩
  ·obtain⟨i,h4,h5,h6⟩:=qmu hc;have ho:wrap64 (i:Int)=(i:Int):=qc9 om;have hq:wrap64 ((i:Int)+1)=((i+1:Nat):Int):=qc9 (n:=i+1) om;obtain⟨fn,tmps,assign,body,hy,hR⟩:=hY pre (r.extract 0 i) wr hJ ⟨iD (r.extract (i+1) r.size),by rw[e1,h6];simp⟩;rw[h4] at hc;have hI:=hf r wr;rw[h4] at hI
   gi_wp2_with (refine⟨trivial,?_⟩;gi_at_call 182;refine(callsIn_wide.2 hI).mono ?_;rintro e w' ⟨rfl,rfl⟩)
   have hg:iD s=(pre++[r.extract 0 i])++iD (r.extract (i+1) r.size):=by rw[e1,h6];simp
   refine hR.mono ?_;rintro e W3 (⟨rfl,hk,hj⟩|⟨rfl,he⟩)
   ·have k1:Boxed W3 B 9 (.string r):=(hj 0 om).trans g1;have k2:Boxed W3 (B+1) 9 (.string ⟨#[46]⟩):=(hj 1 om).trans g2;have k3:Boxed W3 (B+2) 3 (.int .i64 0):=(hj 2 om).trans g3;have c1:=k1.cell;have c2':=k2.cell;have c3:=k3.cell;have f3:=k1.frozen;have ht:(⟨#[46]⟩:ByteArray).size=1:=rfl
    gi_wp2
    refine⟨⟨pre++[r.extract 0 i],r.extract (i+1) r.size,hg,?_,hl _ _ _ hk,k1.set _,Boxed.kept k2 (grownBy_setCell' _ _ _) (by simp),Boxed.kept k3 (grownBy_setCell' _ _ _) (by simp)⟩,?_⟩
    ·rw[ByteArray.size_extract];omega
    ·unfold z3t;rw[(k1.set _).cell,d1];show(r.extract (i+1) r.size).size<r.size;rw[ByteArray.size_extract];omega
   ·gi_wp2
    refine bodyPost_ret (results_none rfl _ _ _) rfl ?_;exact⟨⟨_,rfl⟩,.inr ⟨_,⟨_,hg.symm⟩,he⟩⟩
attribute [local go_sem] Oper.semAt_some
set_option maxRecDepth 100000 in
set_option maxHeartbeats 1000000 in
theorem quw(n:Nat)(_hn:1<=n)(s sep:ByteArray)(w:World):CallsIn Fence.wide n Tryz.prog 163 #[.string s,.string sep,.int .i64 0] w fun e w'=>e=.returned (.func (.func 180) #[] #[.pointer (some ⟨w.heap.size+1,0,none⟩),.pointer (some ⟨w.heap.size,0,none⟩),.pointer (some ⟨w.heap.size+2,0,none⟩)])/\w'=((w.alloc (.cells #[.string s] 9)).alloc (.cells #[.string sep] 9)).alloc (.cells #[.int .i64 0] 3):=by
 refine callsIn_of_wp Tryz.func163 rfl trivial ?_ rfl;simp only[Tryz.ntmps163,List.size_toArray,zw,List.length_nil,Nat.reduceAdd,Nat.reduceSub,Array.replicate_succ,Array.replicate_zero,List.push_toArray,List.append_toArray,List.nil_append,List.cons_append]
 gi_wp2
 go_ret
 exact⟨by simp,rfl⟩
set_option maxRecDepth 100000 in
set_option maxHeartbeats 1000000 in
theorem qyl(n:Nat)(hn:1<=n)(s sep:ByteArray)(w:World):CallsIn Fence.wide n Tryz.prog 130 #[.string s,.string sep] w fun e w'=>e=.returned (.func (.func 180) #[] #[.pointer (some ⟨w.heap.size+1,0,none⟩),.pointer (some ⟨w.heap.size,0,none⟩),.pointer (some ⟨w.heap.size+2,0,none⟩)])/\w'=((w.alloc (.cells #[.string s] 9)).alloc (.cells #[.string sep] 9)).alloc (.cells #[.int .i64 0] 3):=by
 refine callsIn_of_wp Tryz.func130 rfl trivial ?_ rfl;simp only[Tryz.ntmps130,List.size_toArray,zw,List.length_nil,Nat.reduceAdd,Nat.reduceSub,Array.replicate_succ,Array.replicate_zero,List.push_toArray,List.append_toArray,List.nil_append,List.cons_append]
 gi_wp2_with (refine⟨trivial,?_⟩;gi_at_call 163;refine(callsIn_wide.2 (callsIn_wide.1 (quw 1 (Nat.le_refl _) s sep w))).mono ?_;rintro e w' ⟨rfl,rfl⟩)
 go_ret
 exact⟨rfl,rfl⟩
def wa(x:ByteArray):Bool:=(x.size==1)&&(match x.data.toList with|b::_=>decide (48<=b.toNat/\b.toNat<56)|[]=>false)
theorem qea:∀l:List UInt8,(pc l).length<=l.length+1
 |[]=>Nat.le_refl _
 |b::l=>by
  have ih:=qea l;unfold pc;split
  ·simp;omega
  ·split
   ·simp
   ·rename_i h;rw[h] at ih;simp at ih ⊢;omega
theorem qge(s:ByteArray):(iD s).length<=s.size+1:=by unfold iD;rw[zC];have:=qea s.data.toList;simp at this ⊢;exact this
theorem Xi{w:World}{base base':Nat}{e:TypeId}{size:Nat}{v:Value}{n:Nat}{xs:List Value}(h:w.ownsRow base e size v n xs)(hb:base'<=base):w.ownsRow base' e size v n xs:=⟨h.1,h.2.imp id fun⟨g,cap,cur,a,b,c⟩=>⟨g,cap,cur,a,Nat.le_trans hb b,c⟩⟩
theorem qqs:∀l:List UInt8,pc l≠[]
 |[]=>by simp[pc]
 |b::l=>by
  unfold pc;split
  ·simp
  ·split<;>simp
theorem qkr(s:ByteArray):iD s≠[]:=by unfold iD;intro h;exact qqs _ (List.map_eq_nil_iff.1 h)
theorem z1(b:UInt8):0<(⟨#[b]⟩:ByteArray).size:=Nat.zero_lt_one
def lA(x:ByteArray):Int:=match x.data.toList with|b::_=>((b.toNat-48:Nat):Int)|[]=>0
def Xj(s:ByteArray)(w:World)(e:Ending)(W':World):Prop:=∃v b,e=.returned (.tuple #[v,.bool b])/\Below w.heap.size w W'/\
   (if s=.empty then b=true/\v=.slice none 0 0 else if(iD s).all wa then b=true/\W'.ownsRow w.heap.size 3 1 v (iD s).length ((iD s).map fun x=>Value.int .i64 (lA x))/\v≠.slice none 0 0 else b=false/\v=.slice none 0 0)
theorem Xk{fn:Func}{p q:Tmp}{t u:TypeId}(h:fn.results=#[.cell p t,.cell q u])(tmps:Array Value)(P:Program)(w:World){A B:Addr}{v y:Value}(ht:∀w,(Go.isAgg t).run P w=.ok false w)(hu:∀w,(Go.isAgg u).run P w=.ok false w)(hp:tmps.getD p undef=.pointer (some A))(hq:tmps.getD q undef=.pointer (some B))(hA:w.cell? A=some v)(hB:w.cell? B=some y):(results fn tmps).run P w=.ok (.tuple #[v,y]) w:=by simp only[Array.getD_eq_getD_getElem?] at hp hq;simp[results,h,Sem.run_bind,Result.andThen,loadVar,ht,hu,hp,hq,asAddr,hA,hB]
theorem z4v(w:World):(Go.isAgg 87).run Tryz.prog w=.ok false w:=by simp[Go.isAgg,go_sem]
theorem Xl(w:World):(Go.isAgg 4).run Tryz.prog w=.ok false w:=by simp[Go.isAgg,go_sem]
theorem q8i{W:World}{D k:Nat}{o:Go.Obj}(h:k≠D):(W.putObj D o).heap[k]?=W.heap[k]?:=World.putObj_heap_other om
theorem Xm{s:ByteArray}{w W:World}{h D:Nat}{v:Value}{b:Bool}{tmps:Array Value}(hh:w.heap.size=h)(hB:Below h w W)(B1:Boxed W (h+1) 87 v)(B2:Boxed W (h+2) 4 (.bool b))(hD:h+3<=D)(hK:W.heap[D]?=some (.deferred (some [])))(hc:tmps.getD 2 undef=.pointer (some ⟨h+1,0,none⟩))(he:tmps.getD 3 undef=.pointer (some ⟨h+2,0,none⟩))(hR:if s=.empty then b=true/\v=.slice none 0 0 else if(iD s).all wa then b=true/\W.ownsRow h 3 1 v (iD s).length ((iD s).map fun x=>Value.int .i64 (lA x))/\v≠.slice none 0 0 else b=false/\v=.slice none 0 0):bodyPostM Fence.wide 9 Tryz.prog Tryz.f88 (Xj s w) Exit.ret {tmps:=tmps,defers:=[{target:=.collected D,args:=#[]}]} W:=by
 subst hh;refine⟨by simp,.inl ⟨_,_,rfl,run_takeDeferred hK,?_⟩⟩;have e1:Boxed (W.putObj D (.deferred none)) (w.heap.size+1) 87 v:=(q8i (k:=w.heap.size+1) om).trans B1;have e2:Boxed (W.putObj D (.deferred none)) (w.heap.size+2) 4 (.bool b):=(q8i (k:=w.heap.size+2) om).trans B2;have eB:=hB.trans ((Below.refl w.heap.size W).grown (grownBy_putObj' W D (.deferred none)) (by have:=hB.size;omega) fun k e=>by cases e;omega);refine⟨_,Xk rfl _ _ _ z4v Xl hc he e1.cell e2.cell,v,b,rfl,eB,?_⟩;split
 ·rename_i e;rw[if_pos e] at hR;exact hR
 ·rename_i e;rw[if_neg e] at hR;split
  ·rename_i e2;rw[if_pos e2] at hR;exact⟨hR.1,ownsRow_putObj hR.2.1 _ hK rfl,hR.2.2⟩
  ·rename_i e2;rw[if_neg e2] at hR;exact hR
theorem z4w:(Tryz.prog.info? 3).map (fun i=>(i.zero,i.size,i.bytes))=some (some (.int .i64 0),1,8):=by kernel_rfl
def PlI(w:World)(s:ByteArray)(h:Nat)(pre:List ByteArray)(W:World):Prop:=Below h w W/\pre.all wa=true/\(s=.empty->pre=[])/\Boxed W h 9 (.string s)/\Boxed W (h+1) 87 (.slice none 0 0)/\Boxed W (h+2) 4 (.bool false)/\(∃r,Boxed W (h+4) 9 r)/\
 h+7<=W.heap.size/\∃v,Boxed W (h+3) 87 v/\W.ownsRow (h+7) 3 1 v pre.length (pre.map fun x=>Value.int .i64 (lA x))/\(v=.slice none 0 0↔pre=[])
def PlX(w:World)(s:ByteArray)(h:Nat)(c:Code)(pre:List ByteArray)(W:World):Prop:=Below h w W/\match c with
 |.exit 0=>s=.empty/\Boxed W (h+3) 87 (.slice none 0 0)/\Boxed W (h+1) 87 (.slice none 0 0)/\Boxed W (h+2) 4 (.bool false)
 |.ret=>s≠.empty/\pre.all wa=false/\Boxed W (h+1) 87 (.slice none 0 0)/\Boxed W (h+2) 4 (.bool false)
 |_=>False
set_option maxRecDepth 100000 in
set_option maxHeartbeats 4000000 in
theorem qym(hE:∀(s:ByteArray) (w:World),Calls Tryz.prog 182 #[.string s,.string ⟨#[46]⟩] w fun e w'=>e=.returned (.int .i64 (Lib.indexByte s.data.toList 46))/\w'=w)(s:ByteArray)(hs:s.size<=1000000)(w:World):CallsIn Fence.wide 9 Tryz.prog 88 #[.string s] w (Xj s w):=by
 refine callsIn_of_wp_marks Tryz.func88 rfl trivial ?_ rfl;simp only[Tryz.ntmps88,List.size_toArray,zw,List.length_nil,Nat.reduceAdd,Nat.reduceSub,Array.replicate_succ,Array.replicate_zero,List.push_toArray,List.append_toArray,List.nil_append,List.cons_append]
 gi_wp2_with (refine⟨trivial,?_⟩;gi_at_call 130;refine(callsIn_wide.2 (callsIn_wide.1 (qyl 1 (Nat.le_refl _) s ⟨#[46]⟩ _))).mono ?_;rintro e w' ⟨rfl,rfl⟩)
 obtain⟨i0,hi,hQ,hR,hS⟩:=info_parts z4w;have b0:=((((((Boxed.new w 9 (.string s)).alloc (.cells #[.slice none 0 0] 87)).alloc (.cells #[.bool false] 4)).alloc (.cells #[.slice none 0 0] 87)).alloc (.cells #[.string s] 9)).alloc (.cells #[.string ⟨#[46]⟩] 9)).alloc (.cells #[.int .i64 0] 3);have b1:=(((((Boxed.new (w.alloc (.cells #[.string s] 9)) 87 (.slice none 0 0)).alloc (.cells #[.bool false] 4)).alloc (.cells #[.slice none 0 0] 87)).alloc (.cells #[.string s] 9)).alloc (.cells #[.string ⟨#[46]⟩] 9)).alloc (.cells #[.int .i64 0] 3);have b2:=((((Boxed.new ((w.alloc (.cells #[.string s] 9)).alloc (.cells #[.slice none 0 0] 87)) 4 (.bool false)).alloc (.cells #[.slice none 0 0] 87)).alloc (.cells #[.string s] 9)).alloc (.cells #[.string ⟨#[46]⟩] 9)).alloc (.cells #[.int .i64 0] 3);have b3:=(((Boxed.new (((w.alloc (.cells #[.string s] 9)).alloc (.cells #[.slice none 0 0] 87)).alloc (.cells #[.bool false] 4)) 87 (.slice none 0 0)).alloc (.cells #[.string s] 9)).alloc (.cells #[.string ⟨#[46]⟩] 9)).alloc (.cells #[.int .i64 0] 3);have b4:=((Boxed.new ((((w.alloc (.cells #[.string s] 9)).alloc (.cells #[.slice none 0 0] 87)).alloc (.cells #[.bool false] 4)).alloc (.cells #[.slice none 0 0] 87)) 9 (.string s)).alloc (.cells #[.string ⟨#[46]⟩] 9)).alloc (.cells #[.int .i64 0] 3);have b5:=(Boxed.new (((((w.alloc (.cells #[.string s] 9)).alloc (.cells #[.slice none 0 0] 87)).alloc (.cells #[.bool false] 4)).alloc (.cells #[.slice none 0 0] 87)).alloc (.cells #[.string s] 9)) 9 (.string ⟨#[46]⟩)).alloc (.cells #[.int .i64 0] 3);have b6:=Boxed.new ((((((w.alloc (.cells #[.string s] 9)).alloc (.cells #[.slice none 0 0] 87)).alloc (.cells #[.bool false] 4)).alloc (.cells #[.slice none 0 0] 87)).alloc (.cells #[.string s] 9)).alloc (.cells #[.string ⟨#[46]⟩] 9)) 3 (.int .i64 0);simp only[World.size_alloc] at b1 b2 b3 b4 b5 b6;have hT:Below w.heap.size w (((((((w.alloc (.cells #[.string s] 9)).alloc (.cells #[.slice none 0 0] 87)).alloc (.cells #[.bool false] 4)).alloc (.cells #[.slice none 0 0] 87)).alloc (.cells #[.string s] 9)).alloc (.cells #[.string ⟨#[46]⟩] 9)).alloc (.cells #[.int .i64 0] 3)):=(((((((Below.refl _ w).alloc (Nat.le_refl _) _).alloc (by simp) _).alloc (by simp;omega) _).alloc (by simp;omega) _).alloc (by simp;omega) _).alloc (by simp;omega) _).alloc (by simp;omega) _;have hW:(((((((w.alloc (.cells #[.string s] 9)).alloc (.cells #[.slice none 0 0] 87)).alloc (.cells #[.bool false] 4)).alloc (.cells #[.slice none 0 0] 87)).alloc (.cells #[.string s] 9)).alloc (.cells #[.string ⟨#[46]⟩] 9)).alloc (.cells #[.int .i64 0] 3)).heap.size=w.heap.size+7:=by simp
 generalize (((((((w.alloc (.cells #[.string s] 9)).alloc (.cells #[.slice none 0 0] 87)).alloc (.cells #[.bool false] 4)).alloc (.cells #[.slice none 0 0] 87)).alloc (.cells #[.string s] 9)).alloc (.cells #[.string ⟨#[46]⟩] 9)).alloc (.cells #[.int .i64 0] 3))=W0 at*
 simp only[Nat.add_assoc,Nat.reduceAdd] at*
 generalize hh:w.heap.size=h at*
 refine z1z (n:=9) om (gf:=180) (lb:=#[.pointer (some ⟨h+5,0,none⟩),.pointer (some ⟨h+4,0,none⟩),.pointer (some ⟨h+6,0,none⟩)]) rfl (enters_of Tryz.func180 (by kernel_rfl) rfl) (enc:=fun x:ByteArray=>.string x)
  (Z:=fun A B=>∃t,B=A.setCell ⟨h+4,0,none⟩ (.string t)) (Kp:=Kp3 (h+4)) (S:=fun xs=>xs=iD s) (Sp:=fun pre=>pre<+:iD s) rfl ?seq ?kt ?ka ?kb ?zo
  (fun pre W=>PlI w s h pre W) (fun c pre W=>PlX w s h c pre W) ?ia ?ip ?xp ?iz ?xz ?start (fun x=>{tmps:=#[.string s,.pointer (some ⟨h,0,none⟩),.pointer (some ⟨h+1,0,none⟩),.pointer (some ⟨h+2,0,none⟩),.pointer (some ⟨h+3,0,none⟩),.string x,.string s,
   .func (.func 180) #[] #[.pointer (some ⟨h+5,0,none⟩),.pointer (some ⟨h+4,0,none⟩),.pointer (some ⟨h+6,0,none⟩)],.string x,undef,undef,undef,undef,undef,undef,undef,undef,undef,undef,undef,undef,undef,undef,undef,undef,undef,undef,undef,undef,undef,undef,undef],defers:=[]}) ?assign ?body ?done ?stop
 case seq=>intro l J Jx W hJ _ hY h0 hk;exact z20 hE 8 l (h+4) om s hs J Jx (fun p A t hp=>hJ p A _ hp ⟨t,rfl⟩) hY W ((hk 0 om).trans b4) ((hk 1 om).trans b5) ((hk 2 om).trans b6) h0
 case kt=>exact fun h1 h2 k hk=>(h2 k hk).trans (h1 k hk)
 case ka=>exact fun A o hA k hk=>Below.heap_alloc _ _ _ om
 case kb=>exact fun W l o hl k hk=>World.putObj_heap_other om
 case zo=>rintro A B ⟨t,rfl⟩;exact KeepsOthers.setCell _ _ _
 case assign=>
  intro l x W K hK
  gi_wp2
  exact hK
 case ia=>rintro pre W o ⟨hB,hg,he,B0,B1,B2,⟨r4,B4⟩,hw,v,B3,hf,hj⟩;exact⟨hB.alloc (by have:=hB.size;omega) _,hg,he,B0.alloc _,B1.alloc _,B2.alloc _,⟨_,B4.alloc _⟩,by rw[World.size_alloc];omega,v,B3.alloc _,hf.alloc _,hj⟩
 case ip=>rintro pre W l o o' hl ho hc ⟨hB,hg,he,B0,B1,B2,⟨r4,B4⟩,hw,v,B3,hf,hj⟩;have hk:=grownBy_putObj' W l o';exact⟨hB.trans ((Below.refl h W).grown hk (by have:=hB.size;omega) fun k e=>by cases e;omega),hg,he,B0.kept hk (by simp;omega),B1.kept hk (by simp;omega),B2.kept hk (by simp;omega),⟨_,B4.kept hk (by simp;omega)⟩,by have:=hk.size;omega,v,B3.kept hk (by simp;omega),ownsRow_putObj hf _ ho hc,hj⟩
 case xp=>
  rintro c pre W l o o' hl ho hc ⟨hB,hx⟩;have hk:=grownBy_putObj' W l o';refine⟨hB.trans ((Below.refl h W).grown hk (by have:=hB.size;omega) fun k e=>by cases e;omega),?_⟩;cases c with
  |exit id=>
   cases id with
   |zero=>exact⟨hx.1,hx.2.1.kept hk (by simp;omega),hx.2.2.1.kept hk (by simp;omega),hx.2.2.2.kept hk (by simp;omega)⟩
   |succ m=>exact hx
  |ret=>exact⟨hx.1,hx.2.1,hx.2.2.1.kept hk (by simp;omega),hx.2.2.2.kept hk (by simp;omega)⟩
  |_=>exact hx
 case iz=>rintro pre A B ⟨hB,hg,he,B0,B1,B2,⟨r4,B4⟩,hw,v,B3,hf,hj⟩ ⟨t,rfl⟩;have hk:=grownBy_setCell' A (h+4) (.string t);exact⟨hB.setCell (p:=⟨h+4,0,none⟩) (by show h<=h+4;omega) _,hg,he,B0.kept hk (by simp),B1.kept hk (by simp),B2.kept hk (by simp),⟨_,B4.set _⟩,by have:=hk.size;omega,v,B3.kept hk (by simp),hf.kept hk (.inr (B4.not_row dc hf).symm),hj⟩
 case xz=>
  rintro c pre A B ⟨hB,hx⟩ ⟨t,rfl⟩;have hk:=grownBy_setCell' A (h+4) (.string t);refine⟨hB.setCell (p:=⟨h+4,0,none⟩) (by show h<=h+4;omega) _,?_⟩;cases c with
  |exit id=>
   cases id with
   |zero=>exact⟨hx.1,hx.2.1.kept hk (by simp),hx.2.2.1.kept hk (by simp),hx.2.2.2.kept hk (by simp)⟩
   |succ m=>exact hx
  |ret=>exact⟨hx.1,hx.2.1,hx.2.2.1.kept hk (by simp),hx.2.2.2.kept hk (by simp)⟩
  |_=>exact hx
 case start=>exact⟨hT,rfl,fun _=>rfl,b0,b1,b2,⟨_,b4⟩,by omega,_,b3,World.ownsRow_nil _ _ _ _,by simp⟩
 case body=>
  rintro l pre x W ⟨hB,hg,he,B0,B1,B2,⟨r4,B4⟩,hw,v,B3,hf,hj⟩ hU;have hX:pre.length<=1000001:=by have h1:=hU.length_le;have h2:=qge s;simp at h1;omega
  have c0:=B0.cell;have c1:=B1.cell;have c2:=B2.cell;have c3:=B3.cell;have f1:=B1.frozen;have f2:=B2.frozen;by_cases ht:s=.empty
  ·have hp:=he ht;subst ht;have hv:=hj.2 hp;subst hv
   gi_wp2
   exact⟨KeepsOthers.refl _,hB,rfl,B3,B1,B2⟩
  ·have hC:s.toList.isEmpty=false:=by
    rw[Lib.toList_data];cases hd:s.data.toList with
    |nil=>exfalso;apply ht;apply ByteArray.ext;exact Array.toList_inj.1 hd
    |cons b r=>rfl
   have bad:wa x=false->PlX w s h .ret (pre++[x]) ((W.setCell ⟨h+1,0,none⟩ (.slice none 0 0)).setCell ⟨h+2,0,none⟩ (.bool false)):=fun hb=>⟨(hB.setCell (p:=⟨h+1,0,none⟩) (by show h<=h+1;omega) _).setCell (p:=⟨h+2,0,none⟩) (by show h<=h+2;omega) _,ht,by rw[List.all_append];simp[hb],(B1.set _).kept (grownBy_setCell' _ _ _) (by simp),(B2.kept (grownBy_setCell' _ _ _) (by simp)).set _⟩;by_cases hH:x.size=1
   ·obtain⟨b,rfl⟩:∃b:UInt8,x=⟨#[b]⟩:=by
     obtain⟨⟨l⟩⟩:=x
     match l,hH with
     |[b],_=>exact⟨b,rfl⟩
    by_cases hZ:b.toNat<48
    ·have hF:(((⟨#[b]⟩:ByteArray)[0]'(z1 b)).toNat:Int)<48:=by show(b.toNat:Int)<48;omega
     gi_wp2
     exact⟨(KeepsOthers.setCell _ _ _).trans (KeepsOthers.setCell _ _ _),bad (by simp[wa];omega)⟩
    ·have hF:¬(((⟨#[b]⟩:ByteArray)[0]'(z1 b)).toNat:Int)<48:=by show ¬(b.toNat:Int)<48;omega
     by_cases hI:b.toNat<56
     ·have hG:¬(56:Int)<=(((⟨#[b]⟩:ByteArray)[0]'(z1 b)).toNat:Int):=by show ¬(56:Int)<=(b.toNat:Int);omega
      gi_wp2
      refine quv rfl [[0,1,2,3,4,5,6,7],[1,0,2,3,4,5,6,7],[1,2,0,3,4,5,6,7],[1,2,3,0,4,5,6,7],[1,2,3,4,0,5,6,7],[1,2,3,4,5,0,6,7]] (by kernel_rfl) ?_;intro lo hL;have E0:Boxed {W with drawn:=W.drawn+1} h 9 (.string s):=B0;have E1:Boxed {W with drawn:=W.drawn+1} (h+1) 87 (.slice none 0 0):=B1;have E2:Boxed {W with drawn:=W.drawn+1} (h+2) 4 (.bool false):=B2;have E3:Boxed {W with drawn:=W.drawn+1} (h+3) 87 v:=B3;have E4:Boxed {W with drawn:=W.drawn+1} (h+4) 9 r4:=B4;have HO:World.ownsRow {W with drawn:=W.drawn+1} (h+7) 3 1 v pre.length (pre.map fun x=>Value.int .i64 (lA x)):=hf;have eB:Below h w {W with drawn:=W.drawn+1}:=hB.trans ⟨rfl,rfl,rfl,Nat.le_refl _,fun _ _=>rfl⟩;have eK:KeepsOthers W {W with drawn:=W.drawn+1}:=KeepsOthers.drew W;have eS:W.heap.size<=(World.heap {W with drawn:=W.drawn+1}).size:=Nat.le_refl _;generalize hM:({W with drawn:=W.drawn+1}:World)=W2 at*
      have eW:∀k:Nat,W2.heap[k]?=W.heap[k]?:=fun k=>by rw[<-hM]
      clear hM;have eZ:h<=W2.heap.size:=om
      have k3:=E3.cell;have ka:∀o,(W2.alloc o).cell? ⟨h+3,0,none⟩=some v:=fun _=>(E3.alloc _).cell;simp only[zt,List.not_mem_nil,or_false] at hL;rcases hL with rfl|rfl|rfl|rfl|rfl|rfl<;>refine Xe _ (_::_::_::_::_::_::_::_::[]) rfl _ _ ?_<;>simp only[List.getElem_toArray,List.getElem_cons_zero,List.getElem_cons_succ]
      all_goals gi_wp2_with (gi_at_builtin;refine wpListIn_append_own _ rfl _ _ 87 rfl (h+7) 3 i0 (.int .i64 0) 1 8 Tryz.underlying87 hi hQ hR hS rfl dc _ _ _ rfl (HO.alloc _) ⟨W2.heap.size,0,none⟩ 1 1 [_] rfl rfl (cell_one_new _ _ _) (by simp[Value.oneCell']) (by have:maxLen=maxLen:=rfl;unfold maxLen;omega) om (by have:=eB.size;first|omega|(simp;omega)) ?_;intro v' w1 hm hq _;obtain⟨g',Mg,rfl⟩:=ownsRow_succ hm;obtain⟨hN,hV,h5,hO,hI⟩:=E3.appended dc (Xi (base':=h) HO om) eZ om (Xi (base':=h) hm om) hq;have h6:=hN.cell;have h7:=hN.frozen)
      all_goals
       have no:∀k:Nat,k<7->v.ownBlock≠some (h+k):=fun k hk e=>by have:=(HO.lt _ e).1;omega
       have nk:∀k:Nat,k<7->k≠3->(w1.setCell ⟨h+3,0,none⟩ (.slice (some ⟨g',0,none⟩) (pre.length+1) Mg)).heap[h+k]?=W.heap[h+k]?:=fun k hk h3=>((grownBy_setCell' w1 (h+3) _).block _ (by have:=hq.size;simp at this;omega) (by simp;omega)).trans (((hq.block _ (by simp;omega) (Ne.symm (no k hk))).trans (Below.heap_alloc _ _ _ om)).trans (eW _));refine⟨eK.trans hO,fun k hk=>?_,eB.trans hI,?_,fun e=>absurd e ht,(nk 0 om om).trans B0,(nk 1 om om).trans B1,(nk 2 om om).trans B2,⟨_,(nk 4 om om).trans B4⟩,?_,_,hV,?_,by simp⟩
       ·rw[Nat.add_assoc];exact nk _ om om
       ·rw[List.all_append,hg];simp[wa];omega
       ·have:=hO.size;omega
       ·have hr:=hm.kept (grownBy_setCell' w1 (h+3) (.slice (some ⟨g',0,none⟩) (pre.length+1) Mg)) (.inr fun e=>by have:=(hm.lt _ e).1;omega);have hd:lA ⟨#[b]⟩=(b.toNat:Int)-48:=by show((b.toNat-48:Nat):Int)=_;omega
        rw[zA,zM,List.map_nil,hd,zm];exact hr
     ·have hG:(56:Int)<=(((⟨#[b]⟩:ByteArray)[0]'(z1 b)).toNat:Int):=by show(56:Int)<=(b.toNat:Int);omega
      gi_wp2
      exact⟨(KeepsOthers.setCell _ _ _).trans (KeepsOthers.setCell _ _ _),bad (by simp[wa];omega)⟩
   ·have h8:¬(x.size:Int)=1:=om
    gi_wp2
    exact⟨(KeepsOthers.setCell _ _ _).trans (KeepsOthers.setCell _ _ _),bad (by simp[wa,hH])⟩
 case done=>
  rintro D ys W rfl ⟨hB,hg,he,B0,B1,B2,⟨r4,B4⟩,hw,v,B3,hf,hj⟩ hD hK;have hC:s≠.empty:=fun e=>qkr s (he e);have c1:=B1.cell;have c2:=B2.cell;have c3:=B3.cell;have f1:=B1.frozen;have f2:=B2.frozen;have h9:=hf;rcases hf.2 with ⟨rfl,hn⟩|⟨g,cap,cur,rfl,hg7,hP,_⟩
  ·exact absurd (hj.1 rfl) (qkr s)
  gi_wp2
  have hz:=hf.kept (grownBy_setCell' W (h+1) (.slice (some ⟨g,0,none⟩) (iD s).length cap)) (.inr fun e=>by have:=(hf.lt _ e).1;omega);have hy:=hz.kept (grownBy_setCell' _ (h+2) (.bool true)) (.inr fun e=>by have:=(hf.lt _ e).1;omega);exact Xm hh (hB.trans ((Below.setCell (Below.refl h W) (p:=⟨h+1,0,none⟩) (by show h<=h+1;omega) _).setCell (p:=⟨h+2,0,none⟩) (by show h<=h+2;omega) _)) ((B1.set _).kept (grownBy_setCell' _ _ _) (by simp)) ((B2.kept (grownBy_setCell' _ _ _) (by simp)).set _) om (by rw[Below.heap_setCell _ _ _ _ (by simp;omega),Below.heap_setCell _ _ _ _ (by simp;omega)];exact hK) rfl rfl (by rw[if_neg hC,if_pos hg];exact⟨rfl,Xi hy om,by simp⟩)
 case stop=>
  rintro D c pre W hp ⟨hB,hx⟩ hD hK;cases c with
  |exit m=>
   cases m with
   |zero=>
    obtain⟨rfl,B3,B1,B2⟩:=hx;have c1:=B1.cell;have c2:=B2.cell;have c3:=B3.cell;have f1:=B1.frozen;have f2:=B2.frozen
    gi_wp2
    exact Xm hh (hB.trans ((Below.setCell (Below.refl h W) (p:=⟨h+1,0,none⟩) (by show h<=h+1;omega) _).setCell (p:=⟨h+2,0,none⟩) (by show h<=h+2;omega) _)) ((B1.set _).kept (grownBy_setCell' _ _ _) (by simp)) ((B2.kept (grownBy_setCell' _ _ _) (by simp)).set _) om (by rw[Below.heap_setCell _ _ _ _ (by simp;omega),Below.heap_setCell _ _ _ _ (by simp;omega)];exact hK) rfl rfl (by rw[if_pos rfl];exact⟨rfl,rfl⟩)
   |succ m=>exact hx.elim
  |ret=>
   obtain⟨hC,hg,B1,B2⟩:=hx;obtain⟨rest,hu⟩:=hp
   gi_wp2
   exact Xm hh hB B1 B2 om hK rfl rfl (by rw[if_neg hC,if_neg (by rw[<-hu,List.all_append,hg];simp)];exact⟨rfl,rfl⟩)
  |_=>exact hx.elim
end Ev
namespace Ev
open Go
def Jj(f:Nat):lE:=⟨f,⟨[.d .str],[]⟩,⟨[.d (.sl (.int .i64)),.d .bool],[]⟩,[]⟩
def toI(l:List UInt8):List Int:=l.map fun b=>(b.toNat:Int)
theorem qks:∀l:List UInt8,rB (toI l)=(pc l).map toI
 |[]=>rfl
 |b::l=>by
  have ih:=qks l;show rB ((b.toNat:Int)::toI l)=_;unfold rB pc;rw[ih];by_cases h:b=46
  ·subst h;rfl
  ·have h2:¬(b.toNat:Int)=46:=fun e=>h (UInt8.toNat_inj.1 (by
    have:(46:UInt8).toNat=46:=rfl;omega))
   rw[if_neg h,if_neg h2];cases pc l<;>rfl
theorem qgf(l:List UInt8):KP (toI l)=wa ⟨l.toArray⟩:=by
 match l with
 |[]=>rfl
 |[b]=>show(decide ((48:Int)<=(b.toNat:Int))&&decide ((b.toNat:Int)<56))=(true&&decide (48<=b.toNat/\b.toNat<56));by_cases h1:48<=b.toNat<;>by_cases h2:b.toNat<56<;>simp[h1,h2]<;>omega
 |b::c::r=>show false=((List.toArray (b::c::r)).size==1&&_);simp
theorem qux(l:List UInt8)(h:KP (toI l)=true):pG (toI l)=lA ⟨l.toArray⟩:=by
 match l with
 |[]=>cases h
 |[b]=>have h:(decide ((48:Int)<=(b.toNat:Int))&&decide ((b.toNat:Int)<56))=true:=h;simp only[zd,decide_eq_true_eq] at h;show(b.toNat:Int)-48=((b.toNat-48:Nat):Int);omega
 |b::c::r=>cases h
theorem all_map{α β:Type}(f:α->β)(p:β->Bool):∀l:List α,(l.map f).all p=l.all fun x=>p (f x)
 |[]=>rfl
 |x::l=>by rw[zM,List.all_cons,List.all_cons,all_map f p l]
theorem quy{imm:Nat->Prop}{w:World}{k:IntKind}:∀(l:List Int),(∀x,x∈l->fJ k x)->bf (aC imm w (.int k)) l (l.map fun z=>Value.int k z)
 |[],_=>rfl
 |x::l,h=>⟨[.int k x],l.map fun z=>Value.int k z,rfl,⟨rfl,h x (zf ..)⟩,quy l fun y hy=>h y (zh _ hy)⟩
theorem quz{C:Cx}{f:Nat}(hu:∃fn,C.P.funcs[f]?=some fn/\fn.body.isNone=false)(h0:∀(s:ByteArray) (w:World),s.size<=1000000->Calls C.P f #[.string s] w (Xj s w))(x:List Int)(hx:x.length<=1000000):Ed C (Jj f) (x,()) (KQ x):=by
 intro X φ w zs hm hz;have hm:MRel C X φ lI w:=hm;have hz:bW φ lI (ah X φ lI w) w [.d .str x] zs:=hz;refine⟨hu,?_⟩;obtain⟨z0,r0,rfl,g1,g3⟩:=hz;have g3:r0=[]:=g3;subst g3;obtain⟨s,rfl,hs,hl⟩:=ry g1;have hw:x.length=s.size:=by rw[<-hs];simp
 refine Calls.mono (h0 s w om) fun e w' ⟨v,b,e1,hb,hR⟩=>?_;subst e1;have ht:x=[]↔s=.empty:=by
  constructor
  ·intro h;apply ByteArray.ext;apply Array.toList_inj.1;rw[h] at hs;exact List.map_eq_nil_iff.1 hs
  ·rintro rfl;rw[<-hs];rfl
 have hp:rB x=(iD s).map fun y=>toI y.data.toList:=by rw[<-hs];show rB (toI _)=_;rw[qks];unfold iD;rw[ja];rfl
 have hf:(rB x).all KP=(iD s).all wa:=by rw[hp,all_map];congr 1;funext y;exact qgf _
 have fin:∀(y:Sl Int),(aX (ah X φ lI w') w' (.sl (.int .i64)) y v)->
   ∃cm φ' X',Ending.returned (.tuple #[v,.bool b])=.returned (rW cm)/\(∀b,X b->X' b)/\MRel C X' φ' (a7 (Jj f).outs (y,b,())) w'/\
    bW φ' (a7 (Jj f).outs (y,b,())) (ah X' φ' (a7 (Jj f).outs (y,b,())) w') w' (fill cg bO (Jj f).outs (y,b,())).1 cm/\cL [] φ lI w φ' (a7 (Jj f).outs (y,b,())) w':=by
  intro y hy;have hc:Comes C X φ φ lI [] w w' (.d (.sl (.int .i64)) y) v:=
   Comes.make hm hb.size (fun b hA _=>hb.block b hA) (fun _ _=>rfl) (fun _ _ _=>rfl) (fun id h=>absurd h (List.not_mem_nil)) (fun id h=>absurd h (List.not_mem_nil)) (fun i j h=>absurd h (List.not_mem_nil))
    (fun _ _ _ id h=>absurd h (List.not_mem_nil)) (fun id h=>absurd h (List.not_mem_nil)) (fun _ _ _=>hy) ⟨hb.os,hb.output⟩
  exact⟨[v,.bool b],φ,X,rfl,fun _ h=>h,hc.mem,⟨v,[.bool b],rfl,hc.val,.bool b,[],rfl,tJ,rfl⟩,(cL.refl [] φ lI w).step hc⟩
 have nil:∀vv:Value,vv=.slice none 0 0->aX (ah X φ lI w') w' (.sl (.int .i64)) (⟨true,[]⟩:Sl Int) vv:=fun vv e=>by subst e;exact⟨_,rfl,Nat.zero_le _,.inl ⟨rfl,rfl,rfl⟩⟩
 unfold KQ;by_cases h1:x=[]
 ·rw[if_pos h1];rw[if_pos (ht.1 h1)] at hR;obtain⟨rfl,hv⟩:=hR;exact fin _ (nil v hv)
 ·rw[if_neg h1];rw[if_neg (fun e=>h1 (ht.2 e))] at hR;cases h2:(iD s).all wa with
  |false=>rw[hf,h2];rw[h2] at hR;simp only[Bool.false_eq_true,if_false] at hR ⊢;obtain⟨rfl,hv⟩:=hR;exact fin _ (nil v hv)
  |true=>
   rw[hf,h2];rw[h2] at hR;simp only[if_true] at hR ⊢;obtain⟨rfl,hk,hB⟩:=hR;have hd:(rB x).map pG=(iD s).map lA:=by rw[hp,ja];apply zY;intro y hy;have hg:=zO.1 h2 y hy;rw[show wa y=KP (toI y.data.toList) from(qgf _).symm] at hg;exact qux _ hg
   have hC:∀y,y∈(iD s).map lA->fJ .i64 y:=fun y hy=>by
    obtain⟨q,hq,rfl⟩:=zW.1 hy;have:0<=lA q/\lA q<=255:=by
     unfold lA;split
     ·rename_i c r e;have:=c.toNat_lt;omega
     ·omega
    show(-9223372036854775808:Int)<=_/\_<=(9223372036854775807:Int);omega
   refine fin _ ?_;rcases hk.2 with ⟨hv,_⟩|⟨g,cap,cur,rfl,hg,hn,ho,_⟩
   ·exact absurd hv hB
   have he:((rB x).map pG).length=(iD s).length:=by rw[hd,zC]
   refine⟨_,rfl,?_,.inr ⟨rfl,⟨g,0,none⟩,cap,((rB x).map pG).map fun z=>Value.int .i64 z,?_,fun _=>rfl,fun _=>⟨(Array.getElem?_eq_some_iff.1 hn).1,fun hX=>?_,?_⟩,?_,?_,?_⟩⟩
   ·show((rB x).map pG).length<=cj;rw[he];have:=qge s;unfold cj;omega
   ·show Value.slice _ _ _=Value.slice _ ((rB x).map pG).length _;rw[he]
   ·have h5:g<w.heap.size:=hm.xs _ hX;omega
   ·rintro⟨id,h,_⟩;cases h
   ·rw[hd];exact quy _ hC
   ·rw[hd];intro j hj;have hE:=hj;have:=hk.cells (g:=g) rfl j (((iD s).map fun y=>Value.int .i64 (lA y))[j]'(by simpa using hj)) (ze _);have ea:(⟨g,0,none⟩:Addr).add j=⟨g,j,none⟩:=by unfold Addr.add;split<;>simp_all
    rw[ea] at this;simpa[Function.comp_def] using this
   ·show((rB x).map pG).length<=cap;rw[he];exact ho
end Ev