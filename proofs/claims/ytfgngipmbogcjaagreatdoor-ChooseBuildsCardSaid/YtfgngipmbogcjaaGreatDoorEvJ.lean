/- The calls of slices.Sort, slices.Grow. No statement of its own about the program. -/
import Derived.Test.YtfgngipmbogcjaaGreatDoorEvI
import Derived.Shelf.SlSortCmp.NoneTotal
import Derived.Shelf.Slices.In.SortNone
namespace Ev
open Go Go.Shelf Go.RowKit Go.Proofs Go.Sort
def lv{t:Ty}(s:Sl (den t)):Nat->Obj:=ak (fun _=>Obj.none) [(0,.vec t 0 false s)]
theorem O3{t:Ty}{s:Sl (den t)}:lv s 0=.vec t 0 false s:=rfl
theorem quq{t:Ty}{s:Sl (den t)}{id:Nat}(h:id≠0):lv s id=.none:=by show cP (fun _=>Obj.none) 0 _ id=_;rw[nH h]
theorem qp1{t:Ty}{s s':Sl (den t)}:ak (lv s) [(0,.vec t 0 false s')]=lv s':=by
 funext id;show cP (lv s) 0 _ id=_;by_cases h:id=0
 ·subst h;rw[eL];rfl
 ·rw[nH h,quq h,quq h]
theorem O4{α β:Type}{enc:α->Value}{fK:α->β}{R:β->List Value->Prop}:∀(l:List α) (_hrel:∀x,x∈l->∀cs,R (fK x) cs↔cs=[enc x]) (ec:List Value),bf R (l.map fK) ec↔ec=l.map enc
 |[],_,ec=>Iff.rfl
 |x::r,hrel,ec=>by
  simp only[zM];constructor
  ·rintro⟨c,d,e,h1,h2⟩;rw[e,(hrel x (zf ..) c).1 h1,(O4 r (fun y hy=>hrel y (zh _ hy)) d).1 h2];rfl
  ·intro e;exact⟨[enc x],r.map enc,e,(hrel x (zf ..) _).2 rfl,(O4 r (fun y hy=>hrel y (zh _ hy)) _).2 rfl⟩
theorem qe9{α:Type}[Inhabited α]{enc:α->Value}{w:World}{lO off n:Nat}{d:Array α}{os:Array Go.Obj}(hb:lO<w.heap.size):w.heap.size<=(grow (putRow enc (Sort.ahead w n) lO off d) os).heap.size/\(∀b,b<w.heap.size->b≠lO->(grow (putRow enc (Sort.ahead w n) lO off d) os).heap[b]?=w.heap[b]?)/\(∀c el fz,w.heap[lO]?=some (.cells c el fz)->(grow (putRow enc (Sort.ahead w n) lO off d) os).heap[lO]?=some (.cells (putCells enc off d c) el fz)):=by
 have he:(putRow enc (Sort.ahead w n) lO off d).heap.size=w.heap.size:=Go.Proofs.size_putRow _ _ _ _ _;have hc:∀b,b<w.heap.size->(grow (putRow enc (Sort.ahead w n) lO off d) os).heap[b]?=(putRow enc (Sort.ahead w n) lO off d).heap[b]?:=by intro b hb;show((putRow enc (Sort.ahead w n) lO off d).heap++os)[b]?=_;rw[Array.getElem?_append_left (by rw[he];exact hb)]
 refine⟨?_,fun b hb hf=>?_,fun c el fz h=>?_⟩
 ·show w.heap.size<=((putRow enc (Sort.ahead w n) lO off d).heap++os).size;rw[Array.size_append,he];exact Nat.le_add_right _ _
 ·rw[hc b hb];show(w.heap.modify lO _)[b]?=_;rw[Array.getElem?_modify,if_neg (Ne.symm hf)]
 ·rw[hc lO hb];show(w.heap.modify lO _)[lO]?=_;rw[Array.getElem?_modify,if_pos rfl,h];rfl
def qyi(f:Nat)(t:Ty):lE:=⟨f,⟨[.cK 0],[.vec t]⟩,⟨[],[.vec t]⟩,[0]⟩
theorem qur{C:Cx}{f:Nat}{t:Ty}{α:Type}[Inhabited α](enc:α->Value)(fK:α->den t)(P:α->Prop)(o7:List α->List α)(ht:t≠.int .u8)(hF:aM t=1)(hrel:∀imm w x,P x->∀cs,aC imm w t (fK x) cs↔cs=[enc x])(hq:∀l,(o7 l).length=l.length)(hv:∀l x,x∈o7 l->x∈l)(hL:∃fn,C.P.funcs[f]?=some fn/\fn.body.isNone=false)(h0:∀p cap w,Calls C.P f #[.slice p 0 cap] w fun e w'=>e=.returned (.tuple #[])/\w'=w)(hs:∀lO off cap (l:List α) w,Holds enc w lO off l.toArray->lO<w.heap.size->l.length<4611686018427387904->Calls C.P f #[.slice (some ⟨lO,off,none⟩) l.length cap] w fun e w'=>e=.returned (.tuple #[])/\∃n os,w'=grow (putRow enc (Sort.ahead w n) lO off (o7 l).toArray) os)(nil:Bool)(l:List α)(hP:∀x,x∈l->P x)(hl:l.length<4611686018427387904):Ed C (qyi f t) (⟨nil,l.map fK⟩,()) (⟨nil,(o7 l).map fK⟩,()):=by
 intro X φ w zs hm hz;have hm:MRel C X φ (lv ⟨nil,l.map fK⟩) w:=hm;have hz:bW φ (lv ⟨nil,l.map fK⟩) (ah X φ (lv ⟨nil,l.map fK⟩) w) w [.cK 0 0] zs:=hz;refine⟨hL,?_⟩;obtain⟨z0,r0,rfl,g1,g3⟩:=hz;have g3:r0=[]:=g3;subst g3;have ho:=hm.ay 0;rw[O3] at ho;obtain⟨k1,k2,k3⟩:=ho;unfold au at g1;rw[O3] at g1;have g1:=g1.2 rfl;show Calls C.P f [z0].toArray w _;by_cases hG:l=[]
 ·subst hG;have hw:o7 []=[]:=List.length_eq_zero_iff.1 (by rw[hq];rfl);have hy:∃p cap,z0=.slice p 0 cap:=by
   rcases g1 with ⟨_,e⟩|⟨_,cap,e,_⟩
   ·exact⟨_,_,e⟩
   ·exact⟨_,_,e⟩
  obtain⟨p,cap,rfl⟩:=hy;refine Calls.mono (h0 p cap w) fun e w' ⟨e1,e2⟩=>?_;subst e1 e2;rw[hw];exact⟨[],φ,X,rfl,fun _ h=>h,hm,rfl,cL.refl _ _ _ _⟩
 ·have hI:l.map fK≠[]:=fun e=>hG (List.map_eq_nil_iff.1 e);have hn:nil=false:=by
   cases nil with
   |false=>rfl
   |true=>exact absurd (k2 rfl) hI
  subst hn;obtain⟨m1,ec,m2,m3,m4,m5,_⟩:=(k3 rfl).resolve_right fun g=>hI g.2.1;have hJ:ec=l.map enc:=(O4 l (fun x hx cs=>hrel _ _ x (hP x hx) cs) ec).1 m2;obtain⟨cap,hy,hM⟩:∃cap,z0=.slice (some (φ 0)) l.length cap/\l.length<=cap:=by
   rcases g1 with ⟨e,_⟩|⟨_,cap,e,h1,h2,h3⟩
   ·cases e
   ·rw[QG m1,zC] at e;rw[zC] at h1;exact⟨cap,e,h1⟩
  subst hy;obtain⟨c,el,lo,hi,r1,r2,r3⟩:=m5 rfl;have hA:aV (φ 0) (lv (t:=t) ⟨false,l.map fK⟩ 0)=true:=by rw[O3];exact tG rfl m1
  obtain⟨hb,hT⟩:=hm.sep 0 hA;have hB:(l.map fK).length=l.length:=zC ..;have r2:(φ 0).off+l.length*aM t<=c.size:=by rw[<-hB];exact r2
  have r3:hi<=lo\/hi<=(φ 0).off\/(φ 0).off+l.length*aM t<=lo:=by rw[<-hB];exact r3
  rw[hF,Nat.mul_one] at r2 r3;have eφ:(⟨(φ 0).block,(φ 0).off,none⟩:Addr)=φ 0:=(NW m1).symm.trans (QG m1);have hH:Holds enc w (φ 0).block (φ 0).off l.toArray:=by
   intro j hj;have hj:j<l.length:=by simpa using hj
   have hN:j<ec.length:=by rw[hJ,zC];exact hj
   refine⟨?_,?_⟩
   ·rw[m3 j hN];have e1:(l.toArray)[j]! =l[j]:=by simp[hj]
    rw[e1];simp[hJ]
   ·rw[World.frozen?,r1];simp only[Bool.and_eq_false_iff,decide_eq_false_iff_not];omega
  have hg:=hs (φ 0).block (φ 0).off cap l w hH hb hl;rw[eφ] at hg;refine Calls.mono hg fun e w' ⟨e1,n,os,e2⟩=>?_;subst e1;obtain⟨q1,q2,q3⟩:=qe9 (enc:=enc) (off:=(φ 0).off) (n:=n) (d:=(o7 l).toArray) (os:=os) hb;rw[<-e2] at q1 q2 q3;have q3:=q3 c el (lo,hi) r1;have hu:(o7 l).length=l.length:=hq l;have hC:(putCells enc (φ 0).off (o7 l).toArray c).size=c.size:=by simp[putCells]
  have he:∀m,room w (φ 0) m->room w' (φ 0) m:=by intro m ⟨c',el',Bb,hU,h1,h2,h3⟩;rw[r1] at h1;injection h1 with h1;injection h1 with h4 h5 h6;injection h6 with h6 h7;subst h4 h5 h6 h7;exact⟨_,_,lo,hi,q3,by rw[hC];exact h2,h3⟩
  have hO:Bi w w':=by rw[e2];exact⟨rfl,rfl⟩
  have hc:Comes C X φ φ (lv (t:=t) ⟨false,l.map fK⟩) [(0,.vec t 0 false ⟨false,(o7 l).map fK⟩)] w w' .undef undef:=by
   have hE:ak (lv (t:=t) ⟨false,l.map fK⟩) [(0,.vec t 0 false ⟨false,(o7 l).map fK⟩)] 0=.vec t 0 false ⟨false,(o7 l).map fK⟩:=by rw[qp1];rfl
   have hk:∀i,i∈bJ [((0:Nat),Obj.vec t 0 false ⟨false,(o7 l).map fK⟩)]->i=0:=fun i hi=>by simpa[bJ] using hi
   refine Comes.make hm q1 (fun b hb hh=>q2 b hb fun e=>hh ⟨0,by simp[bJ],hA,e.symm⟩) (fun _ _=>rfl) (fun _ _ _=>rfl) (fun i hf=>?_) (fun i hf h=>?_) (fun i j hf hQ _ _ _ _=>?_) (fun h1 h2 h3 i hf=>?_) (fun i hf=>?_) (fun _ _ _=>rfl) hO
   ·rw[hk i hf,hE,O3];exact .inr ⟨rfl,rfl,rfl,by simp[hu],rfl,fun _=>⟨rfl,fun _ _ m=>he m⟩⟩
   ·rw[hk i hf];exact .inr ⟨hA,rfl⟩
   ·rw[hk i hf,hk j hQ]
   ·rw[hk i hf,hE];refine⟨(by rw[zC,hu,<-hB];exact k1),(fun h=>by cases h),fun _=>.inl ⟨m1,_,(O4 (o7 l) (fun x hx cs=>hrel _ _ x (hP x (hv l x hx)) cs) _).2 rfl,fun j hj=>?_,he 0 m4,fun _=>?_,(fun h=>by cases h)⟩⟩
    ·rw[zC,hu] at hj;rw[World.cell?];simp only;rw[q3];simp only;have hR:(φ 0).off+j<c.size:=om
     rw[if_neg dc];show(putCells enc (φ 0).off (o7 l).toArray c)[(φ 0).off+j]?=_;unfold putCells;rw[Array.getElem?_mapIdx,Array.getElem?_eq_getElem hR,Option.map_some];rw[if_pos ⟨by omega,by simp[hu];omega⟩];have e4:(φ 0).off+j-(φ 0).off=j:=om
     rw[e4];have hS:j<(o7 l).length:=om
     have e1:((o7 l).toArray)[j]! =(o7 l)[j]:=by simp[hS]
     rw[e1];simp
    ·show room w' (φ 0) (((o7 l).map fK).length*aM t);rw[zC,hu,hF,Nat.mul_one];exact he _ ⟨c,el,lo,hi,r1,r2,r3⟩
   ·rw[hk i hf,hE];exact fun h=>absurd h ht
  have hK:=hc.mem;have hh:=(cL.refl [0] φ (lv (t:=t) ⟨false,l.map fK⟩) w).step hc;rw[qp1] at hK hh;exact⟨[],φ,X,rfl,fun _ h=>h,hK,rfl,hh⟩
def I9(f:Nat)(t:Ty):lE:=⟨f,⟨[.d (.sl t),.d (.int .i64)],[]⟩,⟨[.cK 0],[.vec t]⟩,[]⟩
theorem qkp{C:Cx}{f:Nat}{t:Ty}(ht:t≠.int .u8)(hl:∃fn,C.P.funcs[f]?=some fn/\fn.body.isNone=false)(h0:∀w,Calls C.P f #[.slice none 0 0,.int .i64 0] w fun e w'=>e=.returned (.slice none 0 0)/\w'=w)(h1:∀(n:Nat) w,0<n->n<=1000000->Calls C.P f #[.slice none 0 0,.int .i64 n] w fun e w'=>∃cap el cs,e=.returned (.slice (some ⟨w.heap.size,0,none⟩) 0 cap)/\w'=w.drew.alloc (.cells cs el)/\cap*aM t<=cs.size)(n:Nat)(hn:n<=1000000):Ed C (I9 f t) (⟨true,[]⟩,(n:Int),()) (⟨decide (n=0),[]⟩,()):=by
 intro X φ w zs hm hz;have hm:MRel C X φ lI w:=hm;have hz:bW φ lI (ah X φ lI w) w [.d (.sl t) (⟨true,[]⟩:Sl (den t)),.d (.int .i64) (n:Int)] zs:=hz;refine⟨hl,?_⟩;obtain⟨z0,r0,rfl,g1,z1,r1,rfl,g2,g3⟩:=hz;have g3:r1=[]:=g3;subst g3;obtain⟨rfl,_⟩:=nG g2;obtain⟨_,g1⟩:=D1 g1;obtain rfl:z0=.slice none 0 0:=by
  rcases g1 with ⟨_,_,e⟩|⟨e,_⟩
  ·exact e
  ·cases e
 have fin:∀(s:Sl (den t)) (val:Value) (φ':Nat->Addr) (w':World),Comes C X φ φ' lI [(0,.vec t 0 false s)] w w' (.cK 0 0) val->
   ∃cm φ' X',Ending.returned val=.returned (rW cm)/\(∀b,X b->X' b)/\MRel C X' φ' (a7 (I9 f t).outs (s,())) w'/\
    bW φ' (a7 (I9 f t).outs (s,())) (ah X' φ' (a7 (I9 f t).outs (s,())) w') w' (fill cg bO (I9 f t).outs (s,())).1 cm/\cL [] φ lI w φ' (a7 (I9 f t).outs (s,())) w':=by
  intro s val φ' w' hc;exact⟨[val],φ',X,rfl,fun _ h=>h,hc.mem,⟨val,[],rfl,hc.val,rfl⟩,(cL.refl [] φ lI w).step hc⟩
 by_cases h:n=0
 ·subst h;refine Calls.mono (h0 w) fun e w' ⟨e1,e2⟩=>?_;subst e1 e2;have hd:decide (0=0)=true:=rfl;rw[hd];refine fin ⟨true,[]⟩ _ φ w' ?_;refine Comes.eE hm (fun p hp=>?_) (fun hk=>?_)
  ·rw[zS.1 hp];exact⟨⟨t,rfl⟩,rfl⟩
  ·exact⟨Nat.le_refl _,fun _=>.inl ⟨rfl,rfl⟩⟩
 ·refine Calls.mono (h1 n w om hn) fun e w' ⟨cap,el,cs,e1,e2,e3⟩=>?_;subst e1;have hd:decide (n=0)=false:=zn h;rw[hd];refine fin ⟨false,[]⟩ _ (cP φ 0 ⟨w.heap.size,0,none⟩) w' ?_;have hg:w'.heap=w.heap.push (.cells cs el):=by rw[e2];rfl
  have hf:w'.heap[w.heap.size]?=some (.cells cs el):=by rw[hg];simp
  have he:∀m,m<=cs.size->room w' ⟨w.heap.size,0,none⟩ m:=fun m hm=>⟨cs,el,0,0,hf,by simpa using hm,.inl (Nat.le_refl _)⟩;refine Comes.fresh hm (B:=.cells cs el) hg (.vec t 0 false (⟨false,[]⟩:Sl (den t))) (ns:=[]) (fun p hp=>by cases hp) (fun _=>trivial) (fun _ _ _=>?_) (fun h _=>absurd h ht) (fun h3=>?_) (by rw[e2];exact⟨rfl,rfl⟩)
  ·refine⟨Nat.zero_le _,fun h=>(by cases h),fun _=>.inl ?_⟩;rw[eL];refine⟨rfl,[],rfl,fun j hj=>by simp at hj,he 0 (Nat.zero_le _),fun _=>he _ (by show 0*_<=_;omega),fun h=>by cases h⟩
  ·unfold au;rw[h3,eL];refine⟨Nat.le_refl _,fun _=>.inr ⟨rfl,cap,rfl,Nat.zero_le _,fun h=>(by cases h),fun _ _=>he _ (by show cap*_<=_;omega)⟩⟩
end Ev