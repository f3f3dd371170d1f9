/- The calls of slices.Sort, slices.Grow. No statement of its own about the program. -/
import Derived.Test.YtnihgcgcdjdhiaaGreatDoorEvI
import Derived.Shelf.SlSortCmp.NoneTotal
import Derived.Shelf.Slices.In.SortNone
namespace Ev
open Go Go.Shelf Go.RowKit Go.Proofs Go.Sort
def rowO {t:Ty} (s:Sl (den t)):Nat→Obj:=upds (fun _=>Obj.none) [(0,.vec t 0 false s)]
theorem qpp {t:Ty} {s:Sl (den t)}:rowO s 0=.vec t 0 false s:=rfl
theorem qva {t:Ty} {s:Sl (den t)} {id:Nat} (h:id≠0):rowO s id=.none:=by show upd (fun _=>Obj.none) 0 _ id=_;rw [q12 h]
theorem qpq {t:Ty} {s s':Sl (den t)}:upds (rowO s) [(0,.vec t 0 false s')]=rowO s':=by
 funext id;show upd (rowO s) 0 _ id=_;by_cases h:id=0
 ·subst h;rw [q0e];rfl
 ·rw [q12 h,qva h,qva h]
end Ev

namespace Ev
open Go Go.Shelf Go.RowKit Go.Proofs Go.Sort
theorem qar {α β:Type} {enc:α→Value} {dat:α→β} {R:β→List Value→Prop}:∀(l:List α) (_hrel:∀x,x∈l→∀cs,R (dat x) cs↔cs=[enc x]) (ec:List Value),relR R (l.map dat) ec↔ec=l.map enc
 |[],_,ec=>Iff.rfl
 |x::r,hc,ec=>by
  simp only [zS];constructor
  ·rintro ⟨c,d,e,h1,h2⟩;rw [e,(hc x (ze ..) c).1 h1,(qar r (fun y hy=>hc y (zh _ hy)) d).1 h2];rfl
  ·intro e;exact ⟨[enc x],r.map enc,e,(hc x (ze ..) _).2 rfl,(qar r (fun y hy=>hc y (zh _ hy)) _).2 rfl⟩
theorem qeo {α:Type} [Inhabited α] {enc:α→Value} {w:World} {blk off n:Nat} {d:Array α} {os:Array Go.Obj} (hb:blk<w.heap.size):w.heap.size≤(grow (putRow enc (Sort.ahead w n) blk off d) os).heap.size∧(∀b,b<w.heap.size→b≠blk→(grow (putRow enc (Sort.ahead w n) blk off d) os).heap[b]?=w.heap[b]?)∧(∀c el fz,w.heap[blk]?=some (.cells c el fz)→(grow (putRow enc (Sort.ahead w n) blk off d) os).heap[blk]?=some (.cells (putCells enc off d c) el fz)):=by
 have he:(putRow enc (Sort.ahead w n) blk off d).heap.size=w.heap.size:=Go.Proofs.size_putRow _ _ _ _ _;have hc:∀b,b<w.heap.size→(grow (putRow enc (Sort.ahead w n) blk off d) os).heap[b]?=(putRow enc (Sort.ahead w n) blk off d).heap[b]?:=by intro b hb;show ((putRow enc (Sort.ahead w n) blk off d).heap++os)[b]?=_;rw [Array.getElem?_append_left (by rw [he];exact hb)]
 refine ⟨?_,fun b hb hf=>?_,fun c el fz h=>?_⟩
 ·show w.heap.size≤((putRow enc (Sort.ahead w n) blk off d).heap++os).size;rw [Array.size_append,he];exact Nat.le_add_right _ _
 ·rw [hc b hb];show (w.heap.modify blk _)[b]?=_;rw [Array.getElem?_modify,if_neg (Ne.symm hf)]
 ·rw [hc blk hb];show (w.heap.modify blk _)[blk]?=_;rw [Array.getElem?_modify,if_pos rfl,h];rfl
def qzl (f:Nat) (t:Ty):Sig:=⟨f,⟨[.osl 0],[.vec t]⟩,⟨[],[.vec t]⟩,[0]⟩
theorem qvb {C:Cx} {f:Nat} {t:Ty} {α:Type} [Inhabited α] (enc:α→Value) (dat:α→den t) (P:α→Prop) (srt:List α→List α) (ht:t≠.int .u8) (hG:csz t=1) (hu:∀imm w x,P x→∀cs,relC imm w t (dat x) cs↔cs=[enc x]) (hv:∀l,(srt l).length=l.length) (hy:∀l x,x∈srt l→x∈l) (hM:∃fn,C.P.funcs[f]?=some fn∧fn.body.isNone=false) (h0:∀p cap w,Calls C.P f #[.slice p 0 cap] w fun e w'=>e=.returned (.tuple #[])∧w'=w) (hs:∀blk off cap (l:List α) w,Holds enc w blk off l.toArray→blk<w.heap.size→l.length<4611686018427387904→Calls C.P f #[.slice (some ⟨blk,off,none⟩) l.length cap] w fun e w'=>e=.returned (.tuple #[])∧∃n os,w'=grow (putRow enc (Sort.ahead w n) blk off (srt l).toArray) os) (nil:Bool) (l:List α) (hP:∀x,x∈l→P x) (hl:l.length<4611686018427387904):qri C (qzl f t) (⟨nil,l.map dat⟩,()) (⟨nil,(srt l).map dat⟩,()):=by
 intro X φ w zs hm hz;have hm:MRel C X φ (rowO ⟨nil,l.map dat⟩) w:=hm;have hz:q0j φ (rowO ⟨nil,l.map dat⟩) (immB X φ (rowO ⟨nil,l.map dat⟩) w) w [.osl 0 0] zs:=hz;refine ⟨hM,?_⟩;obtain ⟨z0,r0,rfl,g1,g3⟩:=hz;have g3:r0=[]:=g3;subst g3;have ho:=hm.objs 0;rw [qpp] at ho;obtain ⟨k1,k2,k3⟩:=ho;unfold q04 at g1;rw [qpp] at g1;have g1:=g1.2 rfl;show Calls C.P f [z0].toArray w _;by_cases hI:l=[]
 ·subst hI;have hA:srt []=[]:=List.length_eq_zero_iff.1 (by rw [hv];rfl);have hB:∃p cap,z0=.slice p 0 cap:=by
   rcases g1 with ⟨_,e⟩|⟨_,cap,e,_⟩
   ·exact ⟨_,_,e⟩
   ·exact ⟨_,_,e⟩
  obtain ⟨p,cap,rfl⟩:=hB;refine Calls.mono (h0 p cap w) fun e w' ⟨e1,e2⟩=>?_;subst e1 e2;rw [hA];exact ⟨[],φ,X,rfl,fun _ h=>h,hm,rfl,Hist.refl _ _ _ _⟩
 ·have hJ:l.map dat≠[]:=fun e=>hI (List.map_eq_nil_iff.1 e);have hn:nil=false:=by
   cases nil with
   |false=>rfl
   |true=>exact absurd (k2 rfl) hJ
  subst hn;obtain ⟨m1,ec,m2,m3,m4,m5,_⟩:=(k3 rfl).resolve_right fun g=>hJ g.2.1;have hK:ec=l.map enc:=(qar l (fun x hx cs=>hu _ _ x (hP x hx) cs) ec).1 m2;obtain ⟨cap,hB,hN⟩:∃cap,z0=.slice (some (φ 0)) l.length cap∧l.length≤cap:=by
   rcases g1 with ⟨e,_⟩|⟨_,cap,e,h1,h2,h3⟩
   ·cases e
   ·rw [qmk m1,zo] at e;rw [zo] at h1;exact ⟨cap,e,h1⟩
  subst hB;obtain ⟨c,el,lo,hi,r1,r2,r3⟩:=m5 rfl;have hC:excl (φ 0) (rowO (t:=t) ⟨false,l.map dat⟩ 0)=true:=by rw [qpp];exact q2z rfl m1
  obtain ⟨hb,hU⟩:=hm.sep 0 hC;have hD:(l.map dat).length=l.length:=zo ..;have r2:(φ 0).off+l.length*csz t≤c.size:=by rw [←hD];exact r2
  have r3:hi≤lo∨hi≤(φ 0).off∨(φ 0).off+l.length*csz t≤lo:=by rw [←hD];exact r3
  rw [hG,Nat.mul_one] at r2 r3;have eφ:(⟨(φ 0).block,(φ 0).off,none⟩:Addr)=φ 0:=(qyr m1).symm.trans (qmk m1);have hH:Holds enc w (φ 0).block (φ 0).off l.toArray:=by
   intro j hj;have hj:j<l.length:=by simpa using hj
   have hO:j<ec.length:=by rw [hK,zo];exact hj
   refine ⟨?_,?_⟩
   ·rw [m3 j hO];have e1:(l.toArray)[j]! =l[j]:=by simp [hj]
    rw [e1];simp [hK]
   ·rw [World.frozen?,r1];simp only [Bool.and_eq_false_iff,decide_eq_false_iff_not];omega
  have hg:=hs (φ 0).block (φ 0).off cap l w hH hb hl;rw [eφ] at hg;refine Calls.mono hg fun e w' ⟨e1,n,os,e2⟩=>?_;subst e1;obtain ⟨q1,q2,q3⟩:=qeo (enc:=enc) (off:=(φ 0).off) (n:=n) (d:=(srt l).toArray) (os:=os) hb;rw [←e2] at q1 q2 q3;have q3:=q3 c el (lo,hi) r1;have hw:(srt l).length=l.length:=hv l;have hE:(putCells enc (φ 0).off (srt l).toArray c).size=c.size:=by simp [putCells]
  have he:∀m,room w (φ 0) m→room w' (φ 0) m:=by intro m ⟨c',el',lo',hV,h1,h2,h3⟩;rw [r1] at h1;injection h1 with h1;injection h1 with h4 h5 h6;injection h6 with h6 h7;subst h4 h5 h6 h7;exact ⟨_,_,lo,hi,q3,by rw [hE];exact h2,h3⟩
  have hQ:qhs w w':=by rw [e2];exact ⟨rfl,rfl⟩
  have hc:Comes C X φ φ (rowO (t:=t) ⟨false,l.map dat⟩) [(0,.vec t 0 false ⟨false,(srt l).map dat⟩)] w w' .undef undef:=by
   have hF:upds (rowO (t:=t) ⟨false,l.map dat⟩) [(0,.vec t 0 false ⟨false,(srt l).map dat⟩)] 0=.vec t 0 false ⟨false,(srt l).map dat⟩:=by rw [qpq];rfl
   have hq:∀i,i∈q0f [((0:Nat),Obj.vec t 0 false ⟨false,(srt l).map dat⟩)]→i=0:=fun i hi=>by simpa [q0f] using hi
   refine Comes.make hm q1 (fun b hb hh=>q2 b hb fun e=>hh ⟨0,by simp [q0f],hC,e.symm⟩) (fun _ _=>rfl) (fun _ _ _=>rfl) (fun i hf=>?_) (fun i hf h=>?_) (fun i j hf hR _ _ _ _=>?_) (fun h1 h2 h3 i hf=>?_) (fun i hf=>?_) (fun _ _ _=>rfl) hQ
   ·rw [hq i hf,hF,qpp];exact .inr ⟨rfl,rfl,rfl,by simp [hw],rfl,fun _=>⟨rfl,fun _ _ m=>he m⟩⟩
   ·rw [hq i hf];exact .inr ⟨hC,rfl⟩
   ·rw [hq i hf,hq j hR]
   ·rw [hq i hf,hF];refine ⟨(by rw [zo,hw,←hD];exact k1),(fun h=>by cases h),fun _=>.inl ⟨m1,_,(qar (srt l) (fun x hx cs=>hu _ _ x (hP x (hy l x hx)) cs) _).2 rfl,fun j hj=>?_,he 0 m4,fun _=>?_,(fun h=>by cases h)⟩⟩
    ·rw [zo,hw] at hj;rw [World.cell?];simp only;rw [q3];simp only;have hS:(φ 0).off+j<c.size:=by omega
     rw [if_neg (by decide)];show (putCells enc (φ 0).off (srt l).toArray c)[(φ 0).off+j]?=_;unfold putCells;rw [Array.getElem?_mapIdx,Array.getElem?_eq_getElem hS,Option.map_some];rw [if_pos ⟨by omega,by simp [hw];omega⟩];have e4:(φ 0).off+j-(φ 0).off=j:=by omega
     rw [e4];have hT:j<(srt l).length:=by omega
     have e1:((srt l).toArray)[j]! =(srt l)[j]:=by simp [hT]
     rw [e1];simp
    ·show room w' (φ 0) (((srt l).map dat).length*csz t);rw [zo,hw,hG,Nat.mul_one];exact he _ ⟨c,el,lo,hi,r1,r2,r3⟩
   ·rw [hq i hf,hF];exact fun h=>absurd h ht
  have hL:=hc.mem;have hh:=(Hist.refl [0] φ (rowO (t:=t) ⟨false,l.map dat⟩) w).step hc;rw [qpq] at hL hh;exact ⟨[],φ,X,rfl,fun _ h=>h,hL,rfl,hh⟩
def q8o (f:Nat) (t:Ty):Sig:=⟨f,⟨[.d (.sl t),.d (.int .i64)],[]⟩,⟨[.osl 0],[.vec t]⟩,[]⟩
theorem qvc {C:Cx} {f:Nat} {t:Ty} (ht:t≠.int .u8) (hl:∃fn,C.P.funcs[f]?=some fn∧fn.body.isNone=false) (h0:∀w,Calls C.P f #[.slice none 0 0,.int .i64 0] w fun e w'=>e=.returned (.slice none 0 0)∧w'=w) (h1:∀(n:Nat) w,0<n→n≤1000000→Calls C.P f #[.slice none 0 0,.int .i64 n] w fun e w'=>∃cap el cs,e=.returned (.slice (some ⟨w.heap.size,0,none⟩) 0 cap)∧w'=w.drew.alloc (.cells cs el)∧cap*csz t≤cs.size) (n:Nat) (hn:n≤1000000):qri C (q8o f t) (⟨true,[]⟩,(n:Int),()) (⟨decide (n=0),[]⟩,()):=by
 intro X φ w zs hm hz;have hm:MRel C X φ noO w:=hm;have hz:q0j φ noO (immB X φ noO w) w [.d (.sl t) (⟨true,[]⟩:Sl (den t)),.d (.int .i64) (n:Int)] zs:=hz;refine ⟨hl,?_⟩;obtain ⟨z0,r0,rfl,g1,z1,r1,rfl,g2,g3⟩:=hz;have g3:r1=[]:=g3;subst g3;obtain ⟨rfl,_⟩:=q2s g2;obtain ⟨_,g1⟩:=qcb g1;obtain rfl:z0=.slice none 0 0:=by
  rcases g1 with ⟨_,_,e⟩|⟨e,_⟩
  ·exact e
  ·cases e
 have fin:∀(s:Sl (den t)) (val:Value) (φ':Nat→Addr) (w':World),Comes C X φ φ' noO [(0,.vec t 0 false s)] w w' (.osl 0 0) val→
   ∃vals φ' X',Ending.returned val=.returned (qkg vals)∧(∀b,X b→X' b)∧MRel C X' φ' (canO (q8o f t).outs (s,())) w'∧
    q0j φ' (canO (q8o f t).outs (s,())) (immB X' φ' (canO (q8o f t).outs (s,())) w') w' (fill id0 ka0 (q8o f t).outs (s,())).1 vals∧Hist [] φ noO w φ' (canO (q8o f t).outs (s,())) w':=by
  intro s val φ' w' hc;exact ⟨[val],φ',X,rfl,fun _ h=>h,hc.mem,⟨val,[],rfl,hc.val,rfl⟩,(Hist.refl [] φ noO w).step hc⟩
 by_cases h:n=0
 ·subst h;refine Calls.mono (h0 w) fun e w' ⟨e1,e2⟩=>?_;subst e1 e2;have hd:decide (0=0)=true:=rfl;rw [hd];refine fin ⟨true,[]⟩ _ φ w' ?_;refine Comes.nils hm (fun p hp=>?_) (fun hk=>?_)
  ·rw [zA.1 hp];exact ⟨⟨t,rfl⟩,rfl⟩
  ·exact ⟨Nat.le_refl _,fun _=>.inl ⟨rfl,rfl⟩⟩
 ·refine Calls.mono (h1 n w (by omega) hn) fun e w' ⟨cap,el,cs,e1,e2,e3⟩=>?_;subst e1;have hd:decide (n=0)=false:=zw h;rw [hd];refine fin ⟨false,[]⟩ _ (upd φ 0 ⟨w.heap.size,0,none⟩) w' ?_;have hg:w'.heap=w.heap.push (.cells cs el):=by rw [e2];rfl
  have hf:w'.heap[w.heap.size]?=some (.cells cs el):=by rw [hg];simp
  have he:∀m,m≤cs.size→room w' ⟨w.heap.size,0,none⟩ m:=fun m hm=>⟨cs,el,0,0,hf,by simpa using hm,.inl (Nat.le_refl _)⟩;refine Comes.fresh hm (B:=.cells cs el) hg (.vec t 0 false (⟨false,[]⟩:Sl (den t))) (ns:=[]) (fun p hp=>by cases hp) (fun _=>trivial) (fun _ _ _=>?_) (fun h _=>absurd h ht) (fun h3=>?_) (by rw [e2];exact ⟨rfl,rfl⟩)
  ·refine ⟨Nat.zero_le _,fun h=>(by cases h),fun _=>.inl ?_⟩;rw [q0e];refine ⟨rfl,[],rfl,fun j hj=>by simp at hj,he 0 (Nat.zero_le _),fun _=>he _ (by show 0*_≤_;omega),fun h=>by cases h⟩
  ·unfold q04;rw [h3,q0e];refine ⟨Nat.le_refl _,fun _=>.inr ⟨rfl,cap,rfl,Nat.zero_le _,fun h=>(by cases h),fun _ _=>he _ (by show cap*_≤_;omega)⟩⟩
end Ev

