/- The calls of slices.Sort, slices.Grow, strings.Replace. No statement of its own about the program. -/
import Derived.Test.YtidhnphmmajobaaGreatDoorEvI
import Derived.Shelf.SlSortCmp.NoneTotal
import Derived.Shelf.Slices.In.SortNone
import Derived.Shelf.Strings.Replace
namespace Ev
open Go Go.Shelf Go.RowKit Go.Proofs Go.Sort
def rowO {t:Ty} (s:Sl (den t)):Nat→Obj:=upds (fun _=>Obj.none) [(0,.vec t 0 false s)]
theorem qnn {t:Ty} {s:Sl (den t)}:rowO s 0=.vec t 0 false s:=rfl
theorem qs9 {t:Ty} {s:Sl (den t)} {id:Nat} (h:id≠0):rowO s id=.none:=by show upd (fun _=>Obj.none) 0 _ id=_;rw [q1c h]
theorem qno {t:Ty} {s s':Sl (den t)}:upds (rowO s) [(0,.vec t 0 false s')]=rowO s':=by
 funext id;show upd (rowO s) 0 _ id=_;by_cases h:id=0
 ·subst h;rw [q0g];rfl
 ·rw [q1c h,qs9 h,qs9 h]
end Ev

namespace Ev
open Go Go.Shelf Go.RowKit Go.Proofs Go.Sort
theorem qag {α β:Type} {enc:α→Value} {dat:α→β} {R:β→List Value→Prop}:∀(l:List α) (_hrel:∀x,x∈l→∀cs,R (dat x) cs↔cs=[enc x]) (ec:List Value),relR R (l.map dat) ec↔ec=l.map enc
 |[],_,ec=>Iff.rfl
 |x::r,hrel,ec=>by
  simp only [zI];constructor
  ·rintro ⟨c,d,e,h1,h2⟩;rw [e,(hrel x (zj ..) c).1 h1,(qag r (fun y hy=>hrel y (zm _ hy)) d).1 h2];rfl
  ·intro e;exact ⟨[enc x],r.map enc,e,(hrel x (zj ..) _).2 rfl,(qag r (fun y hy=>hrel y (zm _ hy)) _).2 rfl⟩
theorem qed {α:Type} [Inhabited α] {enc:α→Value} {w:World} {blk off n:Nat} {d:Array α} {os:Array Go.Obj} (hb:blk<w.heap.size):w.heap.size≤(grow (putRow enc (Sort.ahead w n) blk off d) os).heap.size∧(∀b,b<w.heap.size→b≠blk→(grow (putRow enc (Sort.ahead w n) blk off d) os).heap[b]?=w.heap[b]?)∧(∀c el fz,w.heap[blk]?=some (.cells c el fz)→(grow (putRow enc (Sort.ahead w n) blk off d) os).heap[blk]?=some (.cells (putCells enc off d c) el fz)):=by
 have hd:(putRow enc (Sort.ahead w n) blk off d).heap.size=w.heap.size:=Go.Proofs.size_putRow _ _ _ _ _;have hc:∀b,b<w.heap.size→(grow (putRow enc (Sort.ahead w n) blk off d) os).heap[b]?=(putRow enc (Sort.ahead w n) blk off d).heap[b]?:=by intro b hb;show ((putRow enc (Sort.ahead w n) blk off d).heap++os)[b]?=_;rw [Array.getElem?_append_left (by rw [hd];exact hb)]
 refine ⟨?_,fun b hb he=>?_,fun c el fz h=>?_⟩
 ·show w.heap.size≤((putRow enc (Sort.ahead w n) blk off d).heap++os).size;rw [Array.size_append,hd];exact Nat.le_add_right _ _
 ·rw [hc b hb];show (w.heap.modify blk _)[b]?=_;rw [Array.getElem?_modify,if_neg (Ne.symm he)]
 ·rw [hc blk hb];show (w.heap.modify blk _)[blk]?=_;rw [Array.getElem?_modify,if_pos rfl,h];rfl
def qvk (f:Nat) (t:Ty):Sig:=⟨f,⟨[.osl 0],[.vec t]⟩,⟨[],[.vec t]⟩,[0]⟩
theorem qsa {C:Cx} {f:Nat} {t:Ty} {α:Type} [Inhabited α] (enc:α→Value) (dat:α→den t) (P:α→Prop) (srt:List α→List α) (ht:t≠.int .u8) (hD:csz t=1) (hrel:∀imm w x,P x→∀cs,relC imm w t (dat x) cs↔cs=[enc x]) (hk:∀l,(srt l).length=l.length) (hu:∀l x,x∈srt l→x∈l) (hJ:∃fn,C.P.funcs[f]?=some fn∧fn.body.isNone=false) (h0:∀p cap w,Calls C.P f #[.slice p 0 cap] w fun e w'=>e=.returned (.tuple #[])∧w'=w) (hs:∀blk off cap (l:List α) w,Holds enc w blk off l.toArray→blk<w.heap.size→l.length<4611686018427387904→Calls C.P f #[.slice (some ⟨blk,off,none⟩) l.length cap] w fun e w'=>e=.returned (.tuple #[])∧∃n os,w'=grow (putRow enc (Sort.ahead w n) blk off (srt l).toArray) os) (nil:Bool) (l:List α) (hP:∀x,x∈l→P x) (hl:l.length<4611686018427387904):qjn C (qvk f t) (⟨nil,l.map dat⟩,()) (⟨nil,(srt l).map dat⟩,()):=by
 intro X φ w zs hm hz;have hm:MRel C X φ (rowO ⟨nil,l.map dat⟩) w:=hm;have hz:q0m φ (rowO ⟨nil,l.map dat⟩) (immB X φ (rowO ⟨nil,l.map dat⟩) w) w [.osl 0 0] zs:=hz;refine ⟨hJ,?_⟩;obtain ⟨z0,r0,rfl,g1,g3⟩:=hz;have g3:r0=[]:=g3;subst g3;have ho:=hm.objs 0;rw [qnn] at ho;obtain ⟨k1,k2,k3⟩:=ho;unfold q01 at g1;rw [qnn] at g1;have g1:=g1.2 rfl;show Calls C.P f [z0].toArray w _;by_cases hE:l=[]
 ·subst hE;have hv:srt []=[]:=List.length_eq_zero_iff.1 (by rw [hk];rfl);have hw:∃p cap,z0=.slice p 0 cap:=by
   rcases g1 with ⟨_,e⟩|⟨_,cap,e,_⟩
   ·exact ⟨_,_,e⟩
   ·exact ⟨_,_,e⟩
  obtain ⟨p,cap,rfl⟩:=hw;refine Calls.mono (h0 p cap w) fun e w' ⟨e1,e2⟩=>?_;subst e1 e2;rw [hv];exact ⟨[],φ,X,rfl,fun _ h=>h,hm,rfl,Hist.refl _ _ _ _⟩
 ·have hF:l.map dat≠[]:=fun e=>hE (List.map_eq_nil_iff.1 e);have hn:nil=false:=by
   cases nil with
   |false=>rfl
   |true=>exact absurd (k2 rfl) hF
  subst hn;obtain ⟨m1,ec,m2,m3,m4,m5,_⟩:=(k3 rfl).resolve_right fun g=>hF g.2.1;have hG:ec=l.map enc:=(qag l (fun x hx cs=>hrel _ _ x (hP x hx) cs) ec).1 m2;obtain ⟨cap,hw,hK⟩:∃cap,z0=.slice (some (φ 0)) l.length cap∧l.length≤cap:=by
   rcases g1 with ⟨e,_⟩|⟨_,cap,e,h1,h2,h3⟩
   ·cases e
   ·rw [ql1 m1,zH] at e;rw [zH] at h1;exact ⟨cap,e,h1⟩
  subst hw;obtain ⟨c,el,lo,hi,r1,r2,r3⟩:=m5 rfl;have hy:excl (φ 0) (rowO (t:=t) ⟨false,l.map dat⟩ 0)=true:=by rw [qnn];exact q2y rfl m1
  obtain ⟨hb,hR⟩:=hm.sep 0 hy;have hA:(l.map dat).length=l.length:=zH ..;have r2:(φ 0).off+l.length*csz t≤c.size:=by rw [←hA];exact r2
  have r3:hi≤lo∨hi≤(φ 0).off∨(φ 0).off+l.length*csz t≤lo:=by rw [←hA];exact r3
  rw [hD,Nat.mul_one] at r2 r3;have eφ:(⟨(φ 0).block,(φ 0).off,none⟩:Addr)=φ 0:=(qup m1).symm.trans (ql1 m1);have hH:Holds enc w (φ 0).block (φ 0).off l.toArray:=by
   intro j hj;have hj:j<l.length:=by simpa using hj
   have hL:j<ec.length:=by rw [hG,zH];exact hj
   refine ⟨?_,?_⟩
   ·rw [m3 j hL];have e1:(l.toArray)[j]! =l[j]:=by simp [hj]
    rw [e1];simp [hG]
   ·rw [World.frozen?,r1];simp only [Bool.and_eq_false_iff,decide_eq_false_iff_not];omega
  have hf:=hs (φ 0).block (φ 0).off cap l w hH hb hl;rw [eφ] at hf;refine Calls.mono hf fun e w' ⟨e1,n,os,e2⟩=>?_;subst e1;obtain ⟨q1,q2,q3⟩:=qed (enc:=enc) (off:=(φ 0).off) (n:=n) (d:=(srt l).toArray) (os:=os) hb;rw [←e2] at q1 q2 q3;have q3:=q3 c el (lo,hi) r1;have hq:(srt l).length=l.length:=hk l;have hB:(putCells enc (φ 0).off (srt l).toArray c).size=c.size:=by simp [putCells]
  have hd:∀m,room w (φ 0) m→room w' (φ 0) m:=by intro m ⟨c',el',lo',hS,h1,h2,h3⟩;rw [r1] at h1;injection h1 with h1;injection h1 with h4 h5 h6;injection h6 with h6 h7;subst h4 h5 h6 h7;exact ⟨_,_,lo,hi,q3,by rw [hB];exact h2,h3⟩
  have hM:qgz w w':=by rw [e2];exact ⟨rfl,rfl⟩
  have hc:Comes C X φ φ (rowO (t:=t) ⟨false,l.map dat⟩) [(0,.vec t 0 false ⟨false,(srt l).map dat⟩)] w w' .undef undef:=by
   have hC:upds (rowO (t:=t) ⟨false,l.map dat⟩) [(0,.vec t 0 false ⟨false,(srt l).map dat⟩)] 0=.vec t 0 false ⟨false,(srt l).map dat⟩:=by rw [qno];rfl
   have hg:∀i,i∈q0h [((0:Nat),Obj.vec t 0 false ⟨false,(srt l).map dat⟩)]→i=0:=fun i hi=>by simpa [q0h] using hi
   refine Comes.make hm q1 (fun b hb hh=>q2 b hb fun e=>hh ⟨0,by simp [q0h],hy,e.symm⟩) (fun _ _=>rfl) (fun _ _ _=>rfl) (fun i he=>?_) (fun i he h=>?_) (fun i j he hN _ _ _ _=>?_) (fun h1 h2 h3 i he=>?_) (fun i he=>?_) (fun _ _ _=>rfl) hM
   ·rw [hg i he,hC,qnn];exact .inr ⟨rfl,rfl,rfl,by simp [hq],rfl,fun _=>⟨rfl,fun _ _ m=>hd m⟩⟩
   ·rw [hg i he];exact .inr ⟨hy,rfl⟩
   ·rw [hg i he,hg j hN]
   ·rw [hg i he,hC];refine ⟨(by rw [zH,hq,←hA];exact k1),(fun h=>by cases h),fun _=>.inl ⟨m1,_,(qag (srt l) (fun x hx cs=>hrel _ _ x (hP x (hu l x hx)) cs) _).2 rfl,fun j hj=>?_,hd 0 m4,fun _=>?_,(fun h=>by cases h)⟩⟩
    ·rw [zH,hq] at hj;rw [World.cell?];simp only;rw [q3];simp only;have hO:(φ 0).off+j<c.size:=by omega
     rw [if_neg (by decide)];show (putCells enc (φ 0).off (srt l).toArray c)[(φ 0).off+j]?=_;unfold putCells;rw [Array.getElem?_mapIdx,Array.getElem?_eq_getElem hO,Option.map_some];rw [if_pos ⟨by omega,by simp [hq];omega⟩];have e4:(φ 0).off+j-(φ 0).off=j:=by omega
     rw [e4];have hQ:j<(srt l).length:=by omega
     have e1:((srt l).toArray)[j]! =(srt l)[j]:=by simp [hQ]
     rw [e1];simp
    ·show room w' (φ 0) (((srt l).map dat).length*csz t);rw [zH,hq,hD,Nat.mul_one];exact hd _ ⟨c,el,lo,hi,r1,r2,r3⟩
   ·rw [hg i he,hC];exact fun h=>absurd h ht
  have hI:=hc.mem;have hh:=(Hist.refl [0] φ (rowO (t:=t) ⟨false,l.map dat⟩) w).step hc;rw [qno] at hI hh;exact ⟨[],φ,X,rfl,fun _ h=>h,hI,rfl,hh⟩
end Ev

namespace Ev
open Go Go.Shelf Go.RowKit Go.Proofs Go.Lib
variable {P:Program} {ρ:Shelf.Ren}
theorem qg2:∀l:List UInt8,countByte l 45=0→q8c l=l
 |[],_=>rfl
 |b::l,h=>by
  unfold countByte at h;have hb:b≠45:=fun e=>by rw [e,List.count_cons_self] at h;omega
  rw [List.count_cons_of_ne (fun e=>hb e)] at h;unfold q8c;rw [if_neg hb,qg2 l h]
theorem qg3:∀l:List UInt8,countByte l 45≠0→∃i:Nat,indexByte l 45=(i:Int)∧i<l.length∧q8c l=l.take i++([126]++l.drop (i+1))
 |[],h=>absurd rfl h
 |b::l,h=>by
  by_cases hb:b=45
  ·subst hb;exact ⟨0,rfl,by simp,by unfold q8c;simp⟩
  ·unfold countByte at h;rw [List.count_cons_of_ne (fun e=>hb e)] at h;obtain ⟨i,h1,h2,h3⟩:=qg3 l h;refine ⟨i+1,?_,by simp only [ze];omega,?_⟩
   ·unfold indexByte;have e1:(b==45)=false:=beq_eq_false_iff_ne.2 hb;have e2:((i:Int)==-1)=false:=beq_eq_false_iff_ne.2 (by omega);rw [h1,e1,e2];rfl
   ·unfold q8c;rw [if_neg hb,h3];rfl
theorem qxd:(⟨#[45]⟩:ByteArray)≠⟨#[126]⟩:=by intro h;injection h with h;exact absurd h (by decide)
theorem qvl (L:Lays.n154 P ρ) (s:ByteArray) (w:World) (hc:countByte s.data.toList 45=0):Calls P (ρ.f 154) #[.string s,.string ⟨#[45]⟩,.string ⟨#[126]⟩,.int .i64 1] w fun e w'=>e=.returned (.string s)∧w'=w:=by
 have hC:=Any.strings_Count_one {L with} s 45 w;rw [hc] at hC;have hd:=(Lib.bytes_beq_false_iff (⟨#[45]⟩:ByteArray) ⟨#[126]⟩).2 qxd;have t3:=L.t3;have a3:=L.a3;have z3:=L.z3;have v3:=L.v3;have t9:=L.t9;have a9:=L.a9;have z9:=L.z9;have v9:=L.v9;have t4:=L.t4;have a4:=L.a4;have z4:=L.z4;have v4:=L.v4;have e138:∀args w,(callFunc (ρ.f 138) args).run P w=.ok (.enter (ρ.f 138) args) w:=enters_of L.f138 (by kernel_rfl) rfl
 go_enter L.f154,Body.n154_ntmps ρ
 go_wp2_with (first|(go_at_fn (ρ.f 138);refine hC.mono ?_;rintro e w' ⟨rfl,hw⟩;rw [hw]))
 go_ret
 exact ⟨rfl,rfl⟩
theorem q4b {p:Prop} (h:p):Hid p:=h
set_option maxHeartbeats 4000000 in
set_option maxRecDepth 1000000 in
theorem qvm (L:Lays.n154 P ρ) (X:Builder.Extra P ρ) (s:ByteArray) (w:World) (hs:s.size≤1000) (hn:countByte s.data.toList 45≠0):Calls P (ρ.f 154) #[.string s,.string ⟨#[45]⟩,.string ⟨#[126]⟩,.int .i64 1] w fun e w'=>e=.returned (.string ⟨(q8c s.data.toList).toArray⟩)∧Below w.heap.size w w':=by
 have hC:=Any.strings_Count_one {L with} s 45 w;obtain ⟨i,hy,hz,ho⟩:=qg3 s.data.toList hn;obtain ⟨cn,hA⟩:∃cn:Nat,countByte s.data.toList 45=cn:=⟨_,rfl⟩;rw [hA] at hC hn;have hj:s.data.toList.length=s.size:=(Lib.size_eq s).symm;rw [hj] at hz;have HI3:=q4b ho;clear ho;have hB:=(Lib.bytes_beq_false_iff (⟨#[45]⟩:ByteArray) ⟨#[126]⟩).2 qxd;have hG:((cn:Int)==0)=false:=beq_eq_false_iff_ne.2 (by omega);have hH:¬((cn:Int)<1):=by omega
 have mixed:=L.mixed;have t72:=L.t72;have a72:=L.a72;have z72:=L.z72;have v72:=L.v72;have u72:=run_underlying L.t72;have t70:=L.t70;have a70:=L.a70;have z70:=L.z70;have v70:=L.v70;have u70:=run_underlying L.t70;have t37:=L.t37;have a37:=L.a37;have z37:=L.z37;have v37:=L.v37;have u37:=run_underlying L.t37;have t3:=L.t3;have a3:=L.a3;have z3:=L.z3;have v3:=L.v3;have u3:=run_underlying L.t3;have t9:=L.t9;have a9:=L.a9;have z9:=L.z9;have v9:=L.v9;have u9:=run_underlying L.t9;have t4:=L.t4;have a4:=L.a4;have z4:=L.z4;have v4:=L.v4;have u4:=run_underlying L.t4;have e138:∀args w,(callFunc (ρ.f 138) args).run P w=.ok (.enter (ρ.f 138) args) w:=enters_of L.f138 (by kernel_rfl) rfl;have e143:∀args w,(callFunc (ρ.f 143) args).run P w=.ok (.enter (ρ.f 143) args) w:=enters_of L.f143 (by kernel_rfl) rfl;have e165:∀args w,(callFunc (ρ.f 165) args).run P w=.ok (.enter (ρ.f 165) args) w:=enters_of L.f165 (by kernel_rfl) rfl;have e166:∀args w,(callFunc (ρ.f 166) args).run P w=.ok (.enter (ρ.f 166) args) w:=enters_of L.f166 (by kernel_rfl) rfl;have e169:∀args w,(callFunc (ρ.f 169) args).run P w=.ok (.enter (ρ.f 169) args) w:=enters_of L.f169 (by kernel_rfl) rfl
 go_enter L.f154,Body.n154_ntmps ρ
 go_wp2_with (first|(go_at_fn (ρ.f 138);refine hC.mono ?_;rintro e w' ⟨rfl,hw⟩;rw [hw]))
 refine (Any.Builder_Grow_fresh {L with} X w.heap.size w.heap.size s.size _ (Nat.le_refl _) (heap_alloc_new w _) (by simp) (by omega)).mono ?_;rintro e w1 ⟨rfl,hq,ht⟩;have H1:=q4b (Or.inr hq:Lib.IsBuilder (ρ.t 72) (ρ.t 5) w.heap.size w.heap.size (Lib.byteCells []) w1);have Hb1:=q4b (((Below.refl w.heap.size w).alloc (Nat.le_refl _) _).trans ht);clear hq ht hC
 go_wp2_with fail
 go_loopg [11,53] 1 (fun g s11 s53 wx=>∃(k start:Nat) (acc:List UInt8),s53=.int .i64 k∧s11=.int .i64 start∧k+g=1∧Hid (Lib.IsBuilder (ρ.t 72) (ρ.t 5) w.heap.size w.heap.size (Lib.byteCells acc) wx)∧
  Hid (Below w.heap.size w wx)∧start≤s.size∧acc.length≤1000∧Hid ((g=1∧start=0∧acc=[])∨(g=0∧start=i+1∧acc=s.data.toList.take i++[126])))
 case atStart=>exact ⟨0,0,[],rfl,rfl,rfl,H1,Hb1,Nat.zero_le _,Nat.zero_le _,q4b (.inl ⟨rfl,rfl,rfl⟩)⟩
 case round=>
  obtain ⟨k,start,acc,rfl,rfl,hI,HB,HW,hJ,hD,HR⟩:=hrel;have hl:w.heap.size≤wr.heap.size:=HW.out.size;have c1:(0:Int)≤(start:Int):=by omega
  have c2:(start:Int)≤(s.size:Int):=by omega
  cases gk with
  |zero=>
   have hE:¬((k:Int)<1):=by omega
   go_wp2_with fail
   obtain ⟨hc,hm⟩:start=i+1∧acc=s.data.toList.take i++[126]:=by
    rcases HR.out with ⟨h,_⟩|⟨_,h1,h2⟩
    ·exact absurd h (by decide)
    ·exact ⟨h1,h2⟩
   refine (Any.Builder_WriteString {L with} X w.heap.size w.heap.size _ _ wr HB.out (by rw [Lib.byteCells_length,ByteArray.size_extract];omega) hl).mono ?_;rintro e w3 ⟨rfl,h3,hf⟩;have hk:acc++s.data.toList.drop start=q8c s.data.toList:=by rw [hm,hc,HI3.out,zu]
   rw [Lib.strCells_eq,Lib.extract_to_end,←Lib.byteCells_append,hk] at h3;have H3:=q4b (Or.inr h3:Lib.IsBuilder (ρ.t 72) (ρ.t 5) w.heap.size w.heap.size (Lib.byteCells (q8c s.data.toList)) w3);have Hb3:=q4b (HW.out.trans hf);have he:w.heap.size≤w3.heap.size:=Hb3.out.size;clear h3 hf hk
   go_wp2_with fail
   refine (Any.Builder_String_any {L with} X w.heap.size w.heap.size _ w3 H3.out he).mono ?_;rintro e w5 ⟨rfl,hu⟩;have Hb5:=q4b (Hb3.out.trans hu);clear hu
   go_wp2
   go_ret
   exact ⟨rfl,Hb5.out⟩
  |succ g=>
   have hE:(k:Int)<1:=by omega
   obtain ⟨hg,hc,hm⟩:g=0∧start=0∧acc=[]:=by
    rcases HR.out with ⟨h,h1,h2⟩|⟨h,_⟩
    ·exact ⟨by omega,h1,h2⟩
    ·exact absurd h (by omega)
   subst hg hc hm;have hF:k=0:=by omega
   subst hF;have c3:(0:Int)≤(i:Int):=by omega
   have c4:(i:Int)≤(s.size:Int):=by omega
   go_wp2_with (first|(go_at_fn (ρ.f 143);refine (Any.strings_Index_one {L with} _ 45 _).mono ?_;rintro e w' ⟨rfl,hw⟩;rw [hw,hy]))
   refine (Any.Builder_WriteString {L with} X w.heap.size w.heap.size _ (s.extract 0 i) wr HB.out (by rw [Lib.byteCells_length,ByteArray.size_extract];simp only [List.length_nil];omega) hl).mono ?_;rintro e w3 ⟨rfl,h3,hf⟩;have he:w.heap.size≤w3.heap.size:=Nat.le_trans hl hf.size;have H3:=q4b h3;have Hb3:=q4b hf;clear h3 hf
   go_wp2_with fail
   refine (Any.Builder_WriteString {L with} X w.heap.size w.heap.size _ ⟨#[126]⟩ w3 (Or.inr H3.out) (by rw [zh,Lib.byteCells_length,Lib.strCells_length,ByteArray.size_extract];simp only [List.length_nil];have:(⟨#[126]⟩:ByteArray).size=1:=rfl;omega) he).mono ?_;rintro e w4 ⟨rfl,h4,hv⟩;have hd:Lib.byteCells []++Lib.strCells (s.extract 0 i)++Lib.strCells ⟨#[126]⟩=Lib.byteCells (s.data.toList.take i++[126]):=by rw [Lib.strCells_eq,Lib.strCells_eq,Lib.extract_data,Nat.sub_zero,List.drop_zero,←Lib.byteCells_append,←Lib.byteCells_append];rfl
   rw [hd] at h4;have H4:=q4b (Or.inr h4:Lib.IsBuilder (ρ.t 72) (ρ.t 5) w.heap.size w.heap.size (Lib.byteCells (s.data.toList.take i++[126])) w4);have Hb4:=q4b ((HW.out.trans Hb3.out).trans hv);have hx:(s.data.toList.take i++[126]).length≤1000:=by rw [zh,zM,List.length_singleton];omega
   have HL:=q4b hx;clear h4 hv hd hx
   go_wp2
   go_roundg 0
   case measure=>omega
   case rel=>exact ⟨1,i+1,_,by first|rfl|(simp;unfold wrap64;omega),by first|rfl|simp|(simp;unfold wrap64;omega),rfl,H4,Hb4,by omega,HL.out,q4b (.inr ⟨rfl,rfl,rfl⟩)⟩
theorem qvn (L:Lays.n154 P ρ) (X:Builder.Extra P ρ) (s:ByteArray) (w:World) (hs:s.size≤1000):Calls P (ρ.f 154) #[.string s,.string ⟨#[45]⟩,.string ⟨#[126]⟩,.int .i64 1] w fun e w'=>e=.returned (.string ⟨(q8c s.data.toList).toArray⟩)∧Below w.heap.size w w':=by
 by_cases hc:countByte s.data.toList 45=0
 ·refine (qvl L s w hc).mono fun e w' ⟨h1,h2⟩=>⟨?_,h2▸Below.refl _ _⟩;rw [h1,qg2 _ hc,Array.toArray_toList]
 ·exact qvm L X s w hs hc
end Ev

