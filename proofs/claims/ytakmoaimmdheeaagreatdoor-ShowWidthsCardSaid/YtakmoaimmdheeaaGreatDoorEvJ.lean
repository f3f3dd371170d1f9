/- The calls of strings.Builder, slices.Sort, slices.Grow, strings.Replace. No statement of its own about the program. -/
import Derived.Test.YtakmoaimmdheeaaGreatDoorEvI
import Derived.Shelf.Strings.Builder1
import Derived.Shelf.SlSortCmp.NoneTotal
import Derived.Shelf.Slices.In.SortNone
import Derived.Shelf.Strings.Replace
namespace Ev
open Go
def z5q(f:Nat):Sig:=⟨f,⟨[.ptr 0 0],[.box [.slf 0,.osl 1],.vec (.int .u8)]⟩,⟨[],[.box [.slf 0,.osl 1],.vec (.int .u8)]⟩,[0,1]⟩
def bldO(b:Bool)(s:Sl (den (.int .u8))):Nat->Obj:=upds (fun _=>Obj.none) [(0,.box [.slf 0 b,.osl 1 0]),(1,.vec (.int .u8) 0 false s)]
theorem z4d{b:Bool}{s:Sl (den (.int .u8))}:bldO b s 0=.box [.slf 0 b,.osl 1 0]:=rfl
theorem qvb{b:Bool}{s:Sl (den (.int .u8))}:bldO b s 1=.vec (.int .u8) 0 false s:=rfl
theorem qvc{b:Bool}{s:Sl (den (.int .u8))}:upds (bldO b s) [(0,.box [.slf 0 true,.osl 1 0])]=bldO true s:=by
 funext id;show upd (bldO b s) 0 _ id=_;by_cases h:id=0
 ·subst h;rw[q0e];rfl
 ·rw[q0n h];show upd (upd _ 0 _) 1 _ id=upd (upd _ 0 _) 1 _ id;by_cases h1:id=1
  ·subst h1;rw[q0e,q0e]
  ·rw[q0n h1,q0n h1,q0n h,q0n h]
theorem z0q{C:Cx}{X:Nat->Prop}{φ:Nat->Addr}{w:World}{b:Bool}{s:Sl (den (.int .u8))}(hm:MRel C X φ (bldO b s) w):(φ 0).off=0/\∃c z lo hi,w.heap[(φ 0).block]?=some (.cells c C.bld (lo,hi))/\hi<=lo/\c=#[.pointer (bif b then some ⟨(φ 0).block,0,none⟩ else none),z]/\q03 φ (bldO b s) (immB X φ (bldO b s) w) w (.osl 1 0) z:=by
 have ho:=hm.objs 0;have he:=hm.els 0;rw[z4d] at ho he;obtain⟨h0,c,el,lo,hi,h1,h2,z0,r,e1,h3,z1,r1,e2,h4,h5⟩:=ho;obtain⟨c',el',fz,h6,h7⟩:=he rfl;rw[h6] at h1;injection h1 with h1;injection h1 with g1 g2 g3;have h5:r1=[]:=h5;have hc:el'=C.bld:=by
  rcases h7 with h7|h7
  ·exact h7.1
  ·exfalso;have:c'.size=2:=by rw[g1,<-Array.length_toList,e1,e2,h5];rfl
   omega
 subst hc;have h3:z0=.pointer (bif b then some ⟨(φ 0).block,(φ 0).off,none⟩ else none):=h3;subst h5 e2;refine⟨h0,c,z1,lo,hi,by rw[h6,g1,<-g3],h2,?_,h4⟩;rw[h0] at h3;rw[<-h3];exact Array.toList_inj.1 e1
theorem z4e{C:Cx}{f:Nat}(hl:∃fn,C.P.funcs[f]?=some fn/\fn.body.isNone=false)(hu:∀(b:Nat) (w:World),w.cell? ⟨b,0,none⟩=some (.pointer (some ⟨b,0,none⟩))->Calls C.P f #[.pointer (some ⟨b,0,none⟩)] w fun e w'=>e=.returned (.tuple #[])/\w'=w)(hf:∀(b:Nat) (w:World),w.cell? ⟨b,0,none⟩=some (.pointer none)->w.shape? b=some (C.bld,2)->w.frozen? ⟨b,0,none⟩=false->Calls C.P f #[.pointer (some ⟨b,0,none⟩)] w fun e w'=>e=.returned (.tuple #[])/\w'=w.setCell ⟨b,0,none⟩ (.pointer (some ⟨b,0,none⟩)))(b:Bool)(s:Sl (den (.int .u8))):qdy C (z5q f) (b,s,()) (true,s,()):=by
 intro X φ w zs hm hz;have hm:MRel C X φ (bldO b s) w:=hm;have hz:q0m φ (bldO b s) (immB X φ (bldO b s) w) w [.ptr 0 0] zs:=hz;refine⟨hl,?_⟩;obtain⟨h0,c,z,lo,hi,h1,h2,rfl,h3⟩:=z0q hm;obtain⟨z0,r,rfl,g1,g2⟩:=hz;have g2:r=[]:=g2;have g1:z0=.pointer (some ⟨(φ 0).block,(φ 0).off+0,none⟩):=g1;rw[h0] at g1;subst g1 g2;cases b with
 |true=>refine Calls.mono (hu (φ 0).block w (by rw[World.cell?,h1];rfl)) fun e w' ⟨e1,e2⟩=>?_;subst e1 e2;exact⟨[],φ,X,rfl,fun _ h=>h,hm,rfl,Hist.refl _ _ _ _⟩
 |false=>
  refine Calls.mono (hf (φ 0).block w (by rw[World.cell?,h1];rfl) (by rw[World.shape?,h1];rfl) ?_) fun e w' ⟨e1,e2⟩=>?_
  ·rw[World.frozen?,h1];simp only[Bool.and_eq_false_iff,decide_eq_false_iff_not];omega
  ·subst e1;have he:w'.heap[(φ 0).block]?=some (.cells #[.pointer (some ⟨(φ 0).block,0,none⟩),z] C.bld (lo,hi)):=by rw[e2];simp[World.setCell,Array.getElem?_modify,h1]
   have hg:∀b,b≠(φ 0).block->w'.heap[b]?=w.heap[b]?:=fun b hb=>by rw[e2];simp[World.setCell,Array.getElem?_modify,Ne.symm hb]
   have hj:excl (φ 0) (bldO false s 0)=true:=rfl;have hc:Comes C X φ φ (bldO false s) [(0,.box [.slf 0 true,.osl 1 0])] w w' .undef undef:=by refine Comes.write hm (.box [.slf 0 true,.osl 1 0]) (fun _=>hj) (by rw[e2];simp[World.setCell]) (fun b hb=>hg b fun e=>hb ⟨hj,e.symm⟩) rfl (fun a1 a2 a3=>?_) (fun _=>⟨_,_,_,he,.inl ⟨rfl,rfl⟩⟩) (fun _=>rfl) ⟨by rw[e2];rfl,by rw[e2];rfl⟩;refine⟨h0,_,C.bld,lo,hi,he,h2,_,_,rfl,?_,z,[],rfl,a3 _ _ h3,rfl⟩;show Value.pointer (some ⟨(φ 0).block,0,none⟩)=.pointer (some ⟨(φ 0).block,(φ 0).off,none⟩);rw[h0]
   have hk:=hc.mem;have hh:=(Hist.refl [0,1] φ (bldO false s) w).step hc;rw[qvc] at hk hh;exact⟨[],φ,X,rfl,fun _ h=>h,hk,rfl,hh⟩
end Ev
namespace Ev
open Go Go.Shelf Go.RowKit Go.Proofs
theorem z2l{P:Program}{e u:TypeId}(he:P.underlying e=some (.int .u8))(hu:P.underlying u=some (.int .u8))(hc:P.cellsOf e=1)(count off n:Nat)(hn:off+n<=count):liesAt P P.depth e count off u n=true:=by have hd:P.depth=(2*(P.types.size+Made.depth)+1)+1:=rfl;rw[hd];simp only[liesAt,Bool.or_eq_true];left;rw[hd];simp[rowAt,hc,sameLayout,he,hu];omega
theorem q6a{P:Program}{w:World}(pt it ty u e:TypeId)(hp:P.underlying pt=some (.pointer u))(hu:P.underlying u=some (.int .u8))(he:P.underlying e=some (.int .u8))(hc:P.cellsOf e=1)(a:Addr)(cells:Nat)(hq:w.shape? a.block=some (e,cells))(l:List UInt8)(h0:l≠[])(hn:a.off+l.length<=cells)(hs:(l.length:Int)<=9223372036854775807)(hf:∀j x,l[j]?=some x->w.cell? (a.add j)=some (.int .u8 x.toNat)):(Builtin.unsafeString_ #[pt,it] ty #[.pointer (some a),.int .i64 l.length]).run P w=.ok (.string ⟨l.toArray⟩) (w.freeze a l.length):=by
 have hl:l.length≠0:=by simpa using h0
 have ht:=Lib.run_loadBytes (P:=P) w l a .empty hf;have hg:=z2l (P:=P) he hu hc (cells / P.cellsOf e) a.off l.length (by rw[hc];simpa using hn);have hj:¬(9223372036854775807:Int)<(l.length:Int):=by omega
 have hk:Builtin.unsafeString_ #[pt,it] ty #[.pointer (some a),.int .i64 l.length]=
   (do
    let n <-Go.asInt (Value.int .i64 l.length)
    if n<0 then runtimePanic (.error "unsafe.String: len out of range")
    if n>IntKind.i64.max then unsupported (.unsafePointer "String: a length above the largest int")
    if n=0 then pure (.string .empty)
    else if <-variablesAt a (<-elemOf pt) n.toNat then do
     let s <-loadBytes a .empty n.toNat
     freeze a n.toNat
     pure (.string s)
    else unsupported (.unsafePointer "String: not so many bytes at ptr")):=rfl
 rw[hk];have hm:IntKind.i64.max=9223372036854775807:=rfl;have ho:¬(l.length:Int)<0:=by omega
 simp[Go.asInt,asIntOf,hm,hj,ho,hl,variablesAt,hq,elemOf,run_underlying hp,hg,ht]
def q8a(f:Nat):Sig:=⟨f,⟨[.ptr 0 0],[.box [.slf 0,.osl 1],.vec (.int .u8)]⟩,⟨[.d .str],[.gone,.gone]⟩,[]⟩
structure qnr (P:Program) (f sl pt it st u:Nat):Prop where
 walk:∀(b:Nat) (base q:Option Addr) (n cap:Nat) (bs:ByteArray) (w w2:World),w.drew.cell? ⟨b,1,none⟩=some (.slice base n cap)->
  (Builtin.unsafeSliceData_ #[sl] pt #[.slice base n cap]).run P w.drew=.ok (.pointer q) w.drew->
  (Builtin.unsafeString_ #[pt,it] st #[.pointer q,.int .i64 n]).run P w.drew=.ok (.string bs) w2->
  Calls P f #[.pointer (some ⟨b,0,none⟩)] w fun e w'=>e=.returned (.string bs)/\w'=w2
 walk0:∀(b:Nat) (a:Addr) (cs:Array Value) (el:TypeId) (fz:Nat×Nat) (w:World),w.heap[b]?=some (.cells cs el fz)->cs[1]?=some (.slice (some a) 0 0)->
  ∀(sh:TypeId×Nat),w.drew.shape? a.block=some sh->
  Calls P f #[.pointer (some ⟨b,0,none⟩)] w fun e w'=>e=.returned (.string .empty)/\w'=w.drew.alloc (.view a u)
theorem z2m{C:Cx}{f sl pt it st u:Nat}(W:qnr C.P f sl pt it st u)(hL:C.P.underlying pt=some (.pointer u))(hM:∃fn,C.P.funcs[f]?=some fn/\fn.body.isNone=false)(hN:C.P.underlying u=some (.int .u8))(hk:∀el,C.P.underlying el=some (.int .u8)->C.P.cellsOf el=1)(b:Bool)(s:Sl (den (.int .u8))):qdy C (q8a f) (b,s,()) (s.l,()):=by
 intro Y φ w zs hm hz;have hm:MRel C Y φ (bldO b s) w:=hm;have hz:q0m φ (bldO b s) (immB Y φ (bldO b s) w) w [.ptr 0 0] zs:=hz;refine⟨hM,?_⟩;obtain⟨h0,c,z,lo,hi,h1,h2,rfl,h3⟩:=z0q hm;obtain⟨z0,r,rfl,g1,g2⟩:=hz;have g2:r=[]:=g2;have g1:z0=.pointer (some ⟨(φ 0).block,(φ 0).off+0,none⟩):=g1;rw[h0] at g1;subst g1 g2
 have fin:∀(bs:ByteArray) (w':World),(bs.data.toList.map fun b=>(b.toNat:Int))=s.l->s.l.length<=maxL->w.heap.size<=w'.heap.size->qce w w'->(∀b',b'<w.heap.size->¬q6t φ (bldO b s) b'->w'.heap[b']?=w.heap[b']?)->
   ∃vals φ' X',Ending.returned (.string bs)=.returned (qfm vals)/\(∀b,Y b->X' b)/\MRel C X' φ' (canO (q8a f).outs (s.l,())) w'/\
    q0m φ' (canO (q8a f).outs (s.l,())) (immB X' φ' (canO (q8a f).outs (s.l,())) w') w' (fill id0 ka0 (q8a f).outs (s.l,())).1 vals/\Hist (q8a f).keep φ (canO (q8a f).ins (b,s,())) w φ' (canO (q8a f).outs (s.l,())) w':=by
  intro bs w' hD hq hv ht he;have hc:∀id,canO (q8a f).outs (s.l,()) id=.dead\/(bldO b s id=.none/\canO (q8a f).outs (s.l,()) id=.none):=fun id=>by
   show upd (upd _ 0 _) 1 _ id=_\/(upd (upd _ 0 _) 1 _ id=_/\upd (upd _ 0 _) 1 _ id=_);by_cases h:id=1
   ·subst h;exact .inl rfl
   ·by_cases h':id=0
    ·subst h';exact .inl rfl
    ·refine .inr ⟨?_,?_⟩<;>rw[q0n h,q0n h']
  have hu:∀id a,excl a (canO (q8a f).outs (s.l,()) id)=false:=fun id a=>by rcases hc id with h|⟨_,h⟩<;>rw[h]<;>rfl
  have hw:∀b',immB Y φ (bldO b s) w b'->immB Y φ (canO (q8a f).outs (s.l,())) w' b':=fun b' hb=>⟨Nat.lt_of_lt_of_le hb.1 hv,hb.2.1,fun⟨id,e,_⟩=>by rw[hu id] at e;cases e⟩;refine⟨[.string bs],φ,Y,rfl,fun _ h=>h,⟨fun id=>?_,fun i j hi=>?_,fun i hi=>?_,fun b' hb=>Nat.lt_of_lt_of_le (hm.xs b' hb) hv,fun id=>?_,fun g t x hg=>?_,hm.gszUp (fun b' hb=>he b' hb.1 hb.2.2)⟩,⟨.string bs,[],rfl,qes hD ?_,rfl⟩,⟨hv,he,fun b' ⟨id,e,_⟩=>?_,ht,fun id hi=>by cases hi⟩⟩
  ·rcases hc id with h|⟨_,h⟩<;>rw[h]<;>trivial
  ·rw[hu i] at hi;cases hi
  ·rw[hu i] at hi;cases hi
  ·rcases hc id with h|⟨_,h⟩<;>rw[h]<;>trivial
  ·refine q2w hw (fun b' hb=>he b' hb.1 hb.2.2) (fun id=>?_) _ _ (hm.globs g t x hg);rcases hc id with h|⟨h,h'⟩
   ·rw[h];cases bldO b s id<;>trivial
   ·rw[h];trivial
  ·rw[<-hD] at hq;simpa using hq
  ·rw[hu id] at e;cases e
 have hE:=hm.objs 1;have hF:=hm.els 1;rw[qvb] at hE hF;obtain⟨k1,k2,k3⟩:=hE;unfold q03 at h3;rw[qvb] at h3;have cell:∀z',z=z'->w.drew.cell? ⟨(φ 0).block,1,none⟩=some z':=fun z' e=>by have:w.drew.heap[(φ 0).block]?=_:=h1;rw[World.cell?,this,e];rfl
 have ht:qce w w.drew:=⟨rfl,rfl⟩;have hs:(Builtin.unsafeString_ #[pt,it] st #[.pointer none,.int .i64 (0:Nat)]).run C.P w.drew=.ok (.string .empty) w.drew:=Lib.run_unsafeString_none w.drew _ _ _ none;rcases h3.2 rfl with ⟨hn,ho⟩|⟨hn,cap,ho,hO,hU,hG⟩
 ·have hl:=k2 hn;have:=W.walk (φ 0).block none none 0 0 .empty w w.drew (cell _ ho) (Lib.run_unsafeSliceData_nil _ _ _ _ _) hs;refine Calls.mono this fun e w' ⟨e1,e2⟩=>?_;subst e1 e2;exact fin .empty w.drew (by rw[hl];rfl) k1 (Nat.le_refl _) ht (fun _ _ _=>rfl)
 ·obtain⟨m1,ec,m2,m3,m4,m5,_⟩:=(k3 hn).resolve_right fun g=>g.2.2 rfl;rw[qeo m1] at ho;obtain⟨c0,el,fz,q1,q2⟩:=hF rfl hn;have hH:w.drew.shape? (φ 1).block=some (el,c0.size):=by have:w.drew.heap[(φ 1).block]?=_:=q1;rw[World.shape?,this]
  have hy:q6t φ (bldO b s) (φ 1).block:=⟨1,by rw[qvb];exact q2h hn m1,rfl⟩;by_cases hl:s.l=[]
  ·have hP:s.l.length=0:=by rw[hl];rfl
   rw[hP] at ho;by_cases hI:cap=0
   ·subst hI;have:=W.walk0 (φ 0).block (φ 1) _ C.bld (lo,hi) w h1 (by rw[ho];rfl) _ hH;refine Calls.mono this fun e w' ⟨e1,e2⟩=>?_;subst e1 e2;refine fin .empty _ (by rw[hl];rfl) k1 (by show w.heap.size<=(w.heap.push _).size;simp) ⟨rfl,rfl⟩ (fun b' hb _=>?_);exact Lib.alloc_old w.drew _ b' hb
   ·have:=W.walk (φ 0).block (some (φ 1)) (some (φ 1)) 0 cap .empty w w.drew (cell _ ho) (Lib.run_unsafeSliceData_row _ _ _ _ _ _ hI) (Lib.run_unsafeString_none w.drew _ _ _ _);refine Calls.mono this fun e w' ⟨e1,e2⟩=>?_;subst e1 e2;exact fin .empty w.drew (by rw[hl];rfl) k1 (Nat.le_refl _) ht (fun _ _ _=>rfl)
  ·obtain⟨u1,u2⟩:=qe4 m2;have back:∀n:Int,0<=n->n<=255->(((UInt8.ofNat n.toNat).toNat:Nat):Int)=n:=by intro n h0 h1;rw[UInt8.toNat_ofNat',Nat.mod_eq_of_lt (by omega)];omega
   generalize hJ:List.map (fun n:Int=>UInt8.ofNat n.toNat) s.l=l8;have hf:l8.length=s.l.length:=by rw[<-hJ];simp
   have hA:l8.map (fun b=>(b.toNat:Int))=s.l:=by
    rw[<-hJ,ja];have:∀l:List Int,(∀n,n∈l->0<=n/\n<=255)->List.map ((fun b:UInt8=>(b.toNat:Int))∘fun n:Int=>UInt8.ofNat n.toNat) l=l:=by
     intro l
     induction l with
     |nil=>intro _;rfl
     |cons a l ih=>intro h;rw[zI,ih fun n hn=>h n (zg _ hn)];have:=h a (ze ..);show _::l=a::l;simp only[Function.comp];rw[back a this.1 this.2]
    exact this _ u2
   have hB:l8≠[]:=fun e=>hl (by rw[<-hA,e];rfl);have hQ:0<s.l.length:=List.length_pos_iff.2 hl;obtain⟨c5,el5,lo5,hV,r1,r2,r3⟩:=m5 rfl;rw[q1] at r1;injection r1 with r1;injection r1 with r4 r5 r6;subst r4;have hC:csz (.int .u8)=1:=rfl;rw[hC,Nat.mul_one] at r2;have hK:=q6a (P:=C.P) (w:=w.drew) pt it st u el hL hN q2.1 (hk el q2.1) (φ 1) c0.size hH l8 hB (by rw[hf];exact r2) (by rw[hf];unfold maxL at k1;omega) (fun j x hx=>by
    have hb:(s.l)[j]?=some (x.toNat:Int):=by rw[<-hA,zY,hx];rfl
    have hR:ec[j]?=some (.int .u8 (x.toNat:Int)):=by rw[u1,zY,hb];rfl
    obtain⟨hj,e⟩:=zG.1 hR;have:=m3 j hj;rw[e] at this;rw[q2i m1];exact this)
   rw[hf] at hK;have:=W.walk (φ 0).block (some (φ 1)) (some (φ 1)) s.l.length cap ⟨l8.toArray⟩ w (w.drew.freeze (φ 1) s.l.length) (cell _ ho) (Lib.run_unsafeSliceData_row _ _ _ _ _ _ (by omega)) hK;refine Calls.mono this fun e w' ⟨e1,e2⟩=>?_;subst e1 e2;refine fin ⟨l8.toArray⟩ _ (by simpa using hA) k1 ?_ ?_ ?_
   ·unfold World.freeze;split
    ·exact Nat.le_refl _
    ·show w.heap.size<=(w.heap.modify _ _).size;simp
   ·unfold World.freeze;split<;>exact⟨rfl,rfl⟩
   ·intro b' hb hS;have hT:b'≠(φ 1).block:=fun e=>hS (e▸hy);unfold World.freeze;split
    ·rfl
    ·show(w.heap.modify _ _)[b']?=_;simp[Array.getElem?_modify,Ne.symm hT]
end Ev
namespace Ev
open Go
def qz0:TypeDesc->Bool
 |.int _=>false
 |.named _ _=>false
 |_=>true
theorem qbk{info:TypeId->Option TypeInfo}{fs:Array Field}{i:TypeInfo}(h:Made.reckonStruct info fs=some i):qz0 i.desc=true:=by unfold Made.reckonStruct at h;simp only[Option.bind_eq_bind,zT,Option.pure_def] at h;obtain⟨_,_,h⟩:=h;split at h<;>(injection h with h;subst h;rfl)
theorem qlv{info:TypeId->Option TypeInfo}{d:TypeDesc}{i:TypeInfo}(h:Made.reckon info d=some i):qz0 i.desc=true:=by
 cases d<;>simp only[Made.reckon,Option.bind_eq_bind,zT,Option.pure_def,zB] at h
 case struct fs=>exact qbk h
 case pointer e=>
  obtain⟨a,_,h⟩:=h;split at h
  ·cases h
  ·split at h
   ·cases h
   ·simp only[zT,zB] at h;obtain⟨_,_,rfl⟩:=h;rfl
  ·simp only[zT,zB] at h;obtain⟨_,_,rfl⟩:=h;rfl
 case slice=>obtain⟨_,_,_,_,rfl⟩:=h;rfl
 case array=>obtain⟨_,_,_,_,rfl⟩:=h;rfl
 case map=>obtain⟨_,_,_,_,_,_,_,_,rfl⟩:=h;rfl
 case chan=>obtain⟨_,_,_,_,rfl⟩:=h;rfl
 case func=>obtain⟨_,_,rfl⟩:=h;rfl
 all_goals cases h
def isB:Option TypeDesc->Bool
 |some (.int .u8)=>true
 |_=>false
def qbl(P:Program):Nat->Bool
 |0=>true
 |n+1=>(!isB (P.underlying n)||Nat.beq (P.cellsOf n) 1)&&qbl P n
theorem qbm{P:Program}:∀(n:Nat),qbl P n=true->∀el,el<n->P.underlying el=some (.int .u8)->P.cellsOf el=1
 |0,_,el,h,_=>absurd h (by omega)
 |n+1,h,el,hl,hu=>by
  simp only[qbl,zd,Bool.or_eq_true] at h;by_cases e:el=n
  ·subst e;rcases h.1 with h1|h1
   ·rw[hu] at h1;simp[isB] at h1
   ·exact zf h1
  ·exact qbm n h.2 el (by omega) hu
theorem qlw{P:Program}(h:qbl P P.types.size=true)(el:TypeId)(hu:P.underlying el=some (.int .u8)):P.cellsOf el=1:=by
 refine qbm _ h el ?_ hu;refine zC fun hn=>?_;cases e:P.info? el with
 |none=>simp[Program.underlying,e] at hu
 |some i=>
  have hi:qz0 i.desc=true:=by unfold Tables.info? at e;rw[if_neg hn] at e;have e:Made.infoAt P.toTables (99+1) el=some i:=e;unfold Made.infoAt at e;rw[if_neg hn] at e;obtain⟨d,_,hd⟩:=zT.1 e;exact qlv hd
  unfold Program.underlying at hu;rw[e] at hu;obtain⟨d,_,_,_,_,_,_,_,_,_⟩:=i;cases d<;>simp only[qz0] at hi<;>first|(cases hi;done)|(simp at hu;done)
end Ev
namespace Ev
open Go Go.Shelf Go.RowKit Go.Proofs
def z4f(f:Nat):Sig:=⟨f,⟨[.ptr 0 0],[.box [.slf 0,.osl 1,.d .cpx,.d (.int .i64)],.vec (.int .u8)]⟩,⟨[],[.box [.slf 0,.osl 1,.d .cpx,.d (.int .i64)],.vec (.int .u8)]⟩,[0,1]⟩
def penO(b:Bool)(q:Nat×Nat)(n:Int)(s:Sl (den (.int .u8))):Nat->Obj:=upds (fun _=>Obj.none) [(0,.box [.slf 0 b,.osl 1 0,.d .cpx q,.d (.int .i64) n]),(1,.vec (.int .u8) 0 false s)]
theorem z4g{b:Bool}{q:Nat×Nat}{n:Int}{s:Sl (den (.int .u8))}:penO b q n s 0=.box [.slf 0 b,.osl 1 0,.d .cpx q,.d (.int .i64) n]:=rfl
theorem qvd{b:Bool}{q:Nat×Nat}{n:Int}{s:Sl (den (.int .u8))}:penO b q n s 1=.vec (.int .u8) 0 false s:=rfl
theorem qve{b:Bool}{q:Nat×Nat}{n:Int}{s:Sl (den (.int .u8))}:upds (penO b q n s) [(0,.box [.slf 0 true,.osl 1 0,.d .cpx q,.d (.int .i64) n])]=penO true q n s:=by
 funext id;show upd (penO b q n s) 0 _ id=_;by_cases h:id=0
 ·subst h;rw[q0e];rfl
 ·rw[q0n h];show upd (upd _ 0 _) 1 _ id=upd (upd _ 0 _) 1 _ id;by_cases h1:id=1
  ·subst h1;rw[q0e,q0e]
  ·rw[q0n h1,q0n h1,q0n h,q0n h]
theorem z0r{C:Cx}{X:Nat->Prop}{φ:Nat->Addr}{w:World}{b:Bool}{q:Nat×Nat}{n:Int}{s:Sl (den (.int .u8))}(hm:MRel C X φ (penO b q n s) w):(φ 0).off=0/\∃c z lo hi,w.heap[(φ 0).block]?=some (.cells c C.pen (lo,hi))/\hi<=lo/\c=#[.pointer (bif b then some ⟨(φ 0).block,0,none⟩ else none),z,.complex .f64 q.1 q.2,.int .i64 n]/\q03 φ (penO b q n s) (immB X φ (penO b q n s) w) w (.osl 1 0) z/\inK .i64 n:=by
 have ho:=hm.objs 0;have he:=hm.els 0;rw[z4g] at ho he;obtain⟨h0,c,el,lo,hi,h1,h2,z0,r,e1,h3,z1,r1,e2,h4,z2,r2,e3,h5,z3,r3,e4,h8,h9⟩:=ho;obtain⟨c',el',fz,h6,h7⟩:=he rfl;rw[h6] at h1;injection h1 with h1;injection h1 with g1 g2 g3;have h9:r3=[]:=h9;have h3:z0=.pointer (bif b then some ⟨(φ 0).block,(φ 0).off,none⟩ else none):=h3;have h5:=qcg h5;obtain⟨h8,hn⟩:=q1v h8;subst h9 e4 e3 e2;have hc:el'=C.pen:=by
  rcases h7 with h7|h7
  ·exfalso;have:c'.size=4:=by rw[g1,<-Array.length_toList,e1];rfl
   omega
  ·exact h7.1
 subst hc;refine⟨h0,c,z1,lo,hi,by rw[h6,g1,<-g3],h2,?_,h4,hn⟩;rw[h0] at h3;rw[<-h3,<-h5,<-h8];exact Array.toList_inj.1 e1
theorem z4h{C:Cx}{f:Nat}(hl:∃fn,C.P.funcs[f]?=some fn/\fn.body.isNone=false)(hu:∀(b:Nat) (w:World),w.cell? ⟨b,0,none⟩=some (.pointer (some ⟨b,0,none⟩))->Calls C.P f #[.pointer (some ⟨b,0,none⟩)] w fun e w'=>e=.returned (.tuple #[])/\w'=w)(hf:∀(b:Nat) (w:World),w.cell? ⟨b,0,none⟩=some (.pointer none)->w.shape? b=some (C.pen,4)->w.frozen? ⟨b,0,none⟩=false->Calls C.P f #[.pointer (some ⟨b,0,none⟩)] w fun e w'=>e=.returned (.tuple #[])/\w'=w.setCell ⟨b,0,none⟩ (.pointer (some ⟨b,0,none⟩)))(b:Bool)(q:Nat×Nat)(n:Int)(s:Sl (den (.int .u8))):qdy C (z4f f) (b,q,n,s,()) (true,q,n,s,()):=by
 intro X φ w zs hm hz;have hm:MRel C X φ (penO b q n s) w:=hm;have hz:q0m φ (penO b q n s) (immB X φ (penO b q n s) w) w [.ptr 0 0] zs:=hz;refine⟨hl,?_⟩;obtain⟨h0,c,z,lo,hi,h1,h2,rfl,h3,hn⟩:=z0r hm;obtain⟨z0,r,rfl,g1,g2⟩:=hz;have g2:r=[]:=g2;have g1:z0=.pointer (some ⟨(φ 0).block,(φ 0).off+0,none⟩):=g1;rw[h0] at g1;subst g1 g2;cases b with
 |true=>refine Calls.mono (hu (φ 0).block w (by rw[World.cell?,h1];rfl)) fun e w' ⟨e1,e2⟩=>?_;subst e1 e2;exact⟨[],φ,X,rfl,fun _ h=>h,hm,rfl,Hist.refl _ _ _ _⟩
 |false=>
  refine Calls.mono (hf (φ 0).block w (by rw[World.cell?,h1];rfl) (by rw[World.shape?,h1];rfl) ?_) fun e w' ⟨e1,e2⟩=>?_
  ·rw[World.frozen?,h1];simp only[Bool.and_eq_false_iff,decide_eq_false_iff_not];omega
  ·subst e1;have he:w'.heap[(φ 0).block]?=some (.cells #[.pointer (some ⟨(φ 0).block,0,none⟩),z,.complex .f64 q.1 q.2,.int .i64 n] C.pen (lo,hi)):=by rw[e2];simp[World.setCell,Array.getElem?_modify,h1]
   have hg:∀b,b≠(φ 0).block->w'.heap[b]?=w.heap[b]?:=fun b hb=>by rw[e2];simp[World.setCell,Array.getElem?_modify,Ne.symm hb]
   have hj:excl (φ 0) (penO false q n s 0)=true:=rfl;have hc:Comes C X φ φ (penO false q n s) [(0,.box [.slf 0 true,.osl 1 0,.d .cpx q,.d (.int .i64) n])] w w' .undef undef:=by refine Comes.write hm (.box [.slf 0 true,.osl 1 0,.d .cpx q,.d (.int .i64) n]) (fun _=>hj) (by rw[e2];simp[World.setCell]) (fun b hb=>hg b fun e=>hb ⟨hj,e.symm⟩) rfl (fun a1 a2 a3=>?_) (fun _=>⟨_,_,_,he,.inr ⟨rfl,rfl⟩⟩) (fun _=>rfl) ⟨by rw[e2];rfl,by rw[e2];rfl⟩;refine⟨h0,_,C.pen,lo,hi,he,h2,_,_,rfl,?_,z,_,rfl,a3 _ _ h3,_,_,rfl,qti,_,_,rfl,q30 hn,rfl⟩;show Value.pointer (some ⟨(φ 0).block,0,none⟩)=.pointer (some ⟨(φ 0).block,(φ 0).off,none⟩);rw[h0]
   have hk:=hc.mem;have hh:=(Hist.refl [0,1] φ (penO false q n s) w).step hc;rw[qve] at hk hh;exact⟨[],φ,X,rfl,fun _ h=>h,hk,rfl,hh⟩
def q5o(f:Nat):Sig:=⟨f,⟨[.ptr 0 0],[.box [.slf 0,.osl 1,.d .cpx,.d (.int .i64)],.vec (.int .u8)]⟩,⟨[.d .str],[.gone,.gone]⟩,[]⟩
theorem z2n{C:Cx}{f sl pt it st u:Nat}(W:qnr C.P f sl pt it st u)(hL:C.P.underlying pt=some (.pointer u))(hM:∃fn,C.P.funcs[f]?=some fn/\fn.body.isNone=false)(hN:C.P.underlying u=some (.int .u8))(hk:∀el,C.P.underlying el=some (.int .u8)->C.P.cellsOf el=1)(b:Bool)(q:Nat×Nat)(n:Int)(s:Sl (den (.int .u8))):qdy C (q5o f) (b,q,n,s,()) (s.l,()):=by
 intro Y φ w zs hm hz;have hm:MRel C Y φ (penO b q n s) w:=hm;have hz:q0m φ (penO b q n s) (immB Y φ (penO b q n s) w) w [.ptr 0 0] zs:=hz;refine⟨hM,?_⟩;obtain⟨h0,c,z,lo,hi,h1,h2,rfl,h3,hU⟩:=z0r hm;obtain⟨z0,r,rfl,g1,g2⟩:=hz;have g2:r=[]:=g2;have g1:z0=.pointer (some ⟨(φ 0).block,(φ 0).off+0,none⟩):=g1;rw[h0] at g1;subst g1 g2
 have fin:∀(bs:ByteArray) (w':World),(bs.data.toList.map fun b=>(b.toNat:Int))=s.l->s.l.length<=maxL->w.heap.size<=w'.heap.size->qce w w'->(∀b',b'<w.heap.size->¬q6t φ (penO b q n s) b'->w'.heap[b']?=w.heap[b']?)->
   ∃vals φ' X',Ending.returned (.string bs)=.returned (qfm vals)/\(∀b,Y b->X' b)/\MRel C X' φ' (canO (q5o f).outs (s.l,())) w'/\
    q0m φ' (canO (q5o f).outs (s.l,())) (immB X' φ' (canO (q5o f).outs (s.l,())) w') w' (fill id0 ka0 (q5o f).outs (s.l,())).1 vals/\Hist (q5o f).keep φ (canO (q5o f).ins (b,q,n,s,())) w φ' (canO (q5o f).outs (s.l,())) w':=by
  intro bs w' hD hq hv ht he;have hc:∀id,canO (q5o f).outs (s.l,()) id=.dead\/(penO b q n s id=.none/\canO (q5o f).outs (s.l,()) id=.none):=fun id=>by
   show upd (upd _ 0 _) 1 _ id=_\/(upd (upd _ 0 _) 1 _ id=_/\upd (upd _ 0 _) 1 _ id=_);by_cases h:id=1
   ·subst h;exact .inl rfl
   ·by_cases h':id=0
    ·subst h';exact .inl rfl
    ·refine .inr ⟨?_,?_⟩<;>rw[q0n h,q0n h']
  have hu:∀id a,excl a (canO (q5o f).outs (s.l,()) id)=false:=fun id a=>by rcases hc id with h|⟨_,h⟩<;>rw[h]<;>rfl
  have hw:∀b',immB Y φ (penO b q n s) w b'->immB Y φ (canO (q5o f).outs (s.l,())) w' b':=fun b' hb=>⟨Nat.lt_of_lt_of_le hb.1 hv,hb.2.1,fun⟨id,e,_⟩=>by rw[hu id] at e;cases e⟩;refine⟨[.string bs],φ,Y,rfl,fun _ h=>h,⟨fun id=>?_,fun i j hi=>?_,fun i hi=>?_,fun b' hb=>Nat.lt_of_lt_of_le (hm.xs b' hb) hv,fun id=>?_,fun g t x hg=>?_,hm.gszUp (fun b' hb=>he b' hb.1 hb.2.2)⟩,⟨.string bs,[],rfl,qes hD ?_,rfl⟩,⟨hv,he,fun b' ⟨id,e,_⟩=>?_,ht,fun id hi=>by cases hi⟩⟩
  ·rcases hc id with h|⟨_,h⟩<;>rw[h]<;>trivial
  ·rw[hu i] at hi;cases hi
  ·rw[hu i] at hi;cases hi
  ·rcases hc id with h|⟨_,h⟩<;>rw[h]<;>trivial
  ·refine q2w hw (fun b' hb=>he b' hb.1 hb.2.2) (fun id=>?_) _ _ (hm.globs g t x hg);rcases hc id with h|⟨h,h'⟩
   ·rw[h];cases penO b q n s id<;>trivial
   ·rw[h];trivial
  ·rw[<-hD] at hq;simpa using hq
  ·rw[hu id] at e;cases e
 have hE:=hm.objs 1;have hF:=hm.els 1;rw[qvd] at hE hF;obtain⟨k1,k2,k3⟩:=hE;unfold q03 at h3;rw[qvd] at h3;have cell:∀z',z=z'->w.drew.cell? ⟨(φ 0).block,1,none⟩=some z':=fun z' e=>by have:w.drew.heap[(φ 0).block]?=_:=h1;rw[World.cell?,this,e];rfl
 have ht:qce w w.drew:=⟨rfl,rfl⟩;have hs:(Builtin.unsafeString_ #[pt,it] st #[.pointer none,.int .i64 (0:Nat)]).run C.P w.drew=.ok (.string .empty) w.drew:=Lib.run_unsafeString_none w.drew _ _ _ none;rcases h3.2 rfl with ⟨hn,ho⟩|⟨hn,cap,ho,hO,hV,hG⟩
 ·have hl:=k2 hn;have:=W.walk (φ 0).block none none 0 0 .empty w w.drew (cell _ ho) (Lib.run_unsafeSliceData_nil _ _ _ _ _) hs;refine Calls.mono this fun e w' ⟨e1,e2⟩=>?_;subst e1 e2;exact fin .empty w.drew (by rw[hl];rfl) k1 (Nat.le_refl _) ht (fun _ _ _=>rfl)
 ·obtain⟨m1,ec,m2,m3,m4,m5,_⟩:=(k3 hn).resolve_right fun g=>g.2.2 rfl;rw[qeo m1] at ho;obtain⟨c0,el,fz,q1,q2⟩:=hF rfl hn;have hH:w.drew.shape? (φ 1).block=some (el,c0.size):=by have:w.drew.heap[(φ 1).block]?=_:=q1;rw[World.shape?,this]
  have hy:q6t φ (penO b q n s) (φ 1).block:=⟨1,by rw[qvd];exact q2h hn m1,rfl⟩;by_cases hl:s.l=[]
  ·have hP:s.l.length=0:=by rw[hl];rfl
   rw[hP] at ho;by_cases hI:cap=0
   ·subst hI;have:=W.walk0 (φ 0).block (φ 1) _ C.pen (lo,hi) w h1 (by rw[ho];rfl) _ hH;refine Calls.mono this fun e w' ⟨e1,e2⟩=>?_;subst e1 e2;refine fin .empty _ (by rw[hl];rfl) k1 (by show w.heap.size<=(w.heap.push _).size;simp) ⟨rfl,rfl⟩ (fun b' hb _=>?_);exact Lib.alloc_old w.drew _ b' hb
   ·have:=W.walk (φ 0).block (some (φ 1)) (some (φ 1)) 0 cap .empty w w.drew (cell _ ho) (Lib.run_unsafeSliceData_row _ _ _ _ _ _ hI) (Lib.run_unsafeString_none w.drew _ _ _ _);refine Calls.mono this fun e w' ⟨e1,e2⟩=>?_;subst e1 e2;exact fin .empty w.drew (by rw[hl];rfl) k1 (Nat.le_refl _) ht (fun _ _ _=>rfl)
  ·obtain⟨u1,u2⟩:=qe4 m2;have back:∀n:Int,0<=n->n<=255->(((UInt8.ofNat n.toNat).toNat:Nat):Int)=n:=by intro n h0 h1;rw[UInt8.toNat_ofNat',Nat.mod_eq_of_lt (by omega)];omega
   generalize hJ:List.map (fun n:Int=>UInt8.ofNat n.toNat) s.l=l8;have hf:l8.length=s.l.length:=by rw[<-hJ];simp
   have hA:l8.map (fun b=>(b.toNat:Int))=s.l:=by
    rw[<-hJ,ja];have:∀l:List Int,(∀n,n∈l->0<=n/\n<=255)->List.map ((fun b:UInt8=>(b.toNat:Int))∘fun n:Int=>UInt8.ofNat n.toNat) l=l:=by
     intro l
     induction l with
     |nil=>intro _;rfl
     |cons a l ih=>intro h;rw[zI,ih fun n hn=>h n (zg _ hn)];have:=h a (ze ..);show _::l=a::l;simp only[Function.comp];rw[back a this.1 this.2]
    exact this _ u2
   have hB:l8≠[]:=fun e=>hl (by rw[<-hA,e];rfl);have hQ:0<s.l.length:=List.length_pos_iff.2 hl;obtain⟨c5,el5,lo5,hW,r1,r2,r3⟩:=m5 rfl;rw[q1] at r1;injection r1 with r1;injection r1 with r4 r5 r6;subst r4;have hC:csz (.int .u8)=1:=rfl;rw[hC,Nat.mul_one] at r2;have hK:=q6a (P:=C.P) (w:=w.drew) pt it st u el hL hN q2.1 (hk el q2.1) (φ 1) c0.size hH l8 hB (by rw[hf];exact r2) (by rw[hf];unfold maxL at k1;omega) (fun j x hx=>by
    have hb:(s.l)[j]?=some (x.toNat:Int):=by rw[<-hA,zY,hx];rfl
    have hR:ec[j]?=some (.int .u8 (x.toNat:Int)):=by rw[u1,zY,hb];rfl
    obtain⟨hj,e⟩:=zG.1 hR;have:=m3 j hj;rw[e] at this;rw[q2i m1];exact this)
   rw[hf] at hK;have:=W.walk (φ 0).block (some (φ 1)) (some (φ 1)) s.l.length cap ⟨l8.toArray⟩ w (w.drew.freeze (φ 1) s.l.length) (cell _ ho) (Lib.run_unsafeSliceData_row _ _ _ _ _ _ (by omega)) hK;refine Calls.mono this fun e w' ⟨e1,e2⟩=>?_;subst e1 e2;refine fin ⟨l8.toArray⟩ _ (by simpa using hA) k1 ?_ ?_ ?_
   ·unfold World.freeze;split
    ·exact Nat.le_refl _
    ·show w.heap.size<=(w.heap.modify _ _).size;simp
   ·unfold World.freeze;split<;>exact⟨rfl,rfl⟩
   ·intro b' hb hS;have hT:b'≠(φ 1).block:=fun e=>hS (e▸hy);unfold World.freeze;split
    ·rfl
    ·show(w.heap.modify _ _)[b']?=_;simp[Array.getElem?_modify,Ne.symm hT]
end Ev
namespace Ev
open Go Go.Shelf Go.RowKit Go.Proofs Go.Sort
def rowO{t:Ty}(s:Sl (den t)):Nat->Obj:=upds (fun _=>Obj.none) [(0,.vec t 0 false s)]
theorem qpv{t:Ty}{s:Sl (den t)}:rowO s 0=.vec t 0 false s:=rfl
theorem qvf{t:Ty}{s:Sl (den t)}{id:Nat}(h:id≠0):rowO s id=.none:=by show upd (fun _=>Obj.none) 0 _ id=_;rw[q0n h]
theorem qpw{t:Ty}{s s':Sl (den t)}:upds (rowO s) [(0,.vec t 0 false s')]=rowO s':=by
 funext id;show upd (rowO s) 0 _ id=_;by_cases h:id=0
 ·subst h;rw[q0e];rfl
 ·rw[q0n h,qvf h,qvf h]
theorem qbn{α β:Type}{enc:α->Value}{dat:α->β}{R:β->List Value->Prop}:∀(l:List α) (_hrel:∀x,x∈l->∀cs,R (dat x) cs↔cs=[enc x]) (ec:List Value),relR R (l.map dat) ec↔ec=l.map enc
 |[],_,ec=>Iff.rfl
 |x::r,hrel,ec=>by
  simp only[zI];constructor
  ·rintro⟨c,d,e,h1,h2⟩;rw[e,(hrel x (ze ..) c).1 h1,(qbn r (fun y hy=>hrel y (zg _ hy)) d).1 h2];rfl
  ·intro e;exact⟨[enc x],r.map enc,e,(hrel x (ze ..) _).2 rfl,(qbn r (fun y hy=>hrel y (zg _ hy)) _).2 rfl⟩
theorem qfz{α:Type}[Inhabited α]{enc:α->Value}{w:World}{blk off n:Nat}{d:Array α}{os:Array Go.Obj}(hb:blk<w.heap.size):w.heap.size<=(grow (putRow enc (Sort.ahead w n) blk off d) os).heap.size/\(∀b,b<w.heap.size->b≠blk->(grow (putRow enc (Sort.ahead w n) blk off d) os).heap[b]?=w.heap[b]?)/\(∀c el fz,w.heap[blk]?=some (.cells c el fz)->(grow (putRow enc (Sort.ahead w n) blk off d) os).heap[blk]?=some (.cells (putCells enc off d c) el fz)):=by
 have he:(putRow enc (Sort.ahead w n) blk off d).heap.size=w.heap.size:=Go.Proofs.size_putRow _ _ _ _ _;have hc:∀b,b<w.heap.size->(grow (putRow enc (Sort.ahead w n) blk off d) os).heap[b]?=(putRow enc (Sort.ahead w n) blk off d).heap[b]?:=by intro b hb;show((putRow enc (Sort.ahead w n) blk off d).heap++os)[b]?=_;rw[Array.getElem?_append_left (by rw[he];exact hb)]
 refine⟨?_,fun b hb hf=>?_,fun c el fz h=>?_⟩
 ·show w.heap.size<=((putRow enc (Sort.ahead w n) blk off d).heap++os).size;rw[Array.size_append,he];exact Nat.le_add_right _ _
 ·rw[hc b hb];show(w.heap.modify blk _)[b]?=_;rw[Array.getElem?_modify,if_neg (Ne.symm hf)]
 ·rw[hc blk hb];show(w.heap.modify blk _)[blk]?=_;rw[Array.getElem?_modify,if_pos rfl,h];rfl
def qz1(f:Nat)(t:Ty):Sig:=⟨f,⟨[.osl 0],[.vec t]⟩,⟨[],[.vec t]⟩,[0]⟩
theorem qvg{C:Cx}{f:Nat}{t:Ty}{α:Type}[Inhabited α](enc:α->Value)(dat:α->den t)(P:α->Prop)(srt:List α->List α)(ht:t≠.int .u8)(hE:csz t=1)(hrel:∀imm w x,P x->∀cs,relC imm w t (dat x) cs↔cs=[enc x])(hq:∀l,(srt l).length=l.length)(hv:∀l x,x∈srt l->x∈l)(hK:∃fn,C.P.funcs[f]?=some fn/\fn.body.isNone=false)(h0:∀p cap w,Calls C.P f #[.slice p 0 cap] w fun e w'=>e=.returned (.tuple #[])/\w'=w)(hs:∀blk off cap (l:List α) w,Holds enc w blk off l.toArray->blk<w.heap.size->l.length<4611686018427387904->Calls C.P f #[.slice (some ⟨blk,off,none⟩) l.length cap] w fun e w'=>e=.returned (.tuple #[])/\∃n os,w'=grow (putRow enc (Sort.ahead w n) blk off (srt l).toArray) os)(nil:Bool)(l:List α)(hP:∀x,x∈l->P x)(hl:l.length<4611686018427387904):qdy C (qz1 f t) (⟨nil,l.map dat⟩,()) (⟨nil,(srt l).map dat⟩,()):=by
 intro X φ w zs hm hz;have hm:MRel C X φ (rowO ⟨nil,l.map dat⟩) w:=hm;have hz:q0m φ (rowO ⟨nil,l.map dat⟩) (immB X φ (rowO ⟨nil,l.map dat⟩) w) w [.osl 0 0] zs:=hz;refine⟨hK,?_⟩;obtain⟨z0,r0,rfl,g1,g3⟩:=hz;have g3:r0=[]:=g3;subst g3;have ho:=hm.objs 0;rw[qpv] at ho;obtain⟨k1,k2,k3⟩:=ho;unfold q03 at g1;rw[qpv] at g1;have g1:=g1.2 rfl;show Calls C.P f [z0].toArray w _;by_cases hF:l=[]
 ·subst hF;have hw:srt []=[]:=List.length_eq_zero_iff.1 (by rw[hq];rfl);have hy:∃p cap,z0=.slice p 0 cap:=by
   rcases g1 with ⟨_,e⟩|⟨_,cap,e,_⟩
   ·exact⟨_,_,e⟩
   ·exact⟨_,_,e⟩
  obtain⟨p,cap,rfl⟩:=hy;refine Calls.mono (h0 p cap w) fun e w' ⟨e1,e2⟩=>?_;subst e1 e2;rw[hw];exact⟨[],φ,X,rfl,fun _ h=>h,hm,rfl,Hist.refl _ _ _ _⟩
 ·have hG:l.map dat≠[]:=fun e=>hF (List.map_eq_nil_iff.1 e);have hn:nil=false:=by
   cases nil with
   |false=>rfl
   |true=>exact absurd (k2 rfl) hG
  subst hn;obtain⟨m1,ec,m2,m3,m4,m5,_⟩:=(k3 rfl).resolve_right fun g=>hG g.2.1;have hI:ec=l.map enc:=(qbn l (fun x hx cs=>hrel _ _ x (hP x hx) cs) ec).1 m2;obtain⟨cap,hy,hL⟩:∃cap,z0=.slice (some (φ 0)) l.length cap/\l.length<=cap:=by
   rcases g1 with ⟨e,_⟩|⟨_,cap,e,h1,h2,h3⟩
   ·cases e
   ·rw[qeo m1,zJ] at e;rw[zJ] at h1;exact⟨cap,e,h1⟩
  subst hy;obtain⟨c,el,lo,hi,r1,r2,r3⟩:=m5 rfl;have hA:excl (φ 0) (rowO (t:=t) ⟨false,l.map dat⟩ 0)=true:=by rw[qpv];exact q2h rfl m1
  obtain⟨hb,hS⟩:=hm.sep 0 hA;have hB:(l.map dat).length=l.length:=zJ ..;have r2:(φ 0).off+l.length*csz t<=c.size:=by rw[<-hB];exact r2
  have r3:hi<=lo\/hi<=(φ 0).off\/(φ 0).off+l.length*csz t<=lo:=by rw[<-hB];exact r3
  rw[hE,Nat.mul_one] at r2 r3;have eφ:(⟨(φ 0).block,(φ 0).off,none⟩:Addr)=φ 0:=(qy1 m1).symm.trans (qeo m1);have hH:Holds enc w (φ 0).block (φ 0).off l.toArray:=by
   intro j hj;have hj:j<l.length:=by simpa using hj
   have hM:j<ec.length:=by rw[hI,zJ];exact hj
   refine⟨?_,?_⟩
   ·rw[m3 j hM];have e1:(l.toArray)[j]! =l[j]:=by simp[hj]
    rw[e1];simp[hI]
   ·rw[World.frozen?,r1];simp only[Bool.and_eq_false_iff,decide_eq_false_iff_not];omega
  have hg:=hs (φ 0).block (φ 0).off cap l w hH hb hl;rw[eφ] at hg;refine Calls.mono hg fun e w' ⟨e1,n,os,e2⟩=>?_;subst e1;obtain⟨q1,q2,q3⟩:=qfz (enc:=enc) (off:=(φ 0).off) (n:=n) (d:=(srt l).toArray) (os:=os) hb;rw[<-e2] at q1 q2 q3;have q3:=q3 c el (lo,hi) r1;have hu:(srt l).length=l.length:=hq l;have hC:(putCells enc (φ 0).off (srt l).toArray c).size=c.size:=by simp[putCells]
  have he:∀m,room w (φ 0) m->room w' (φ 0) m:=by intro m ⟨c',el',lo',hT,h1,h2,h3⟩;rw[r1] at h1;injection h1 with h1;injection h1 with h4 h5 h6;injection h6 with h6 h7;subst h4 h5 h6 h7;exact⟨_,_,lo,hi,q3,by rw[hC];exact h2,h3⟩
  have hN:qce w w':=by rw[e2];exact⟨rfl,rfl⟩
  have hc:Comes C X φ φ (rowO (t:=t) ⟨false,l.map dat⟩) [(0,.vec t 0 false ⟨false,(srt l).map dat⟩)] w w' .undef undef:=by
   have hD:upds (rowO (t:=t) ⟨false,l.map dat⟩) [(0,.vec t 0 false ⟨false,(srt l).map dat⟩)] 0=.vec t 0 false ⟨false,(srt l).map dat⟩:=by rw[qpw];rfl
   have hk:∀i,i∈q0j [((0:Nat),Obj.vec t 0 false ⟨false,(srt l).map dat⟩)]->i=0:=fun i hi=>by simpa[q0j] using hi
   refine Comes.make hm q1 (fun b hb hh=>q2 b hb fun e=>hh ⟨0,by simp[q0j],hA,e.symm⟩) (fun _ _=>rfl) (fun _ _ _=>rfl) (fun i hf=>?_) (fun i hf h=>?_) (fun i j hf hO _ _ _ _=>?_) (fun h1 h2 h3 i hf=>?_) (fun i hf=>?_) (fun _ _ _=>rfl) hN
   ·rw[hk i hf,hD,qpv];exact .inr ⟨rfl,rfl,rfl,by simp[hu],rfl,fun _=>⟨rfl,fun _ _ m=>he m⟩⟩
   ·rw[hk i hf];exact .inr ⟨hA,rfl⟩
   ·rw[hk i hf,hk j hO]
   ·rw[hk i hf,hD];refine⟨(by rw[zJ,hu,<-hB];exact k1),(fun h=>by cases h),fun _=>.inl ⟨m1,_,(qbn (srt l) (fun x hx cs=>hrel _ _ x (hP x (hv l x hx)) cs) _).2 rfl,fun j hj=>?_,he 0 m4,fun _=>?_,(fun h=>by cases h)⟩⟩
    ·rw[zJ,hu] at hj;rw[World.cell?];simp only;rw[q3];simp only;have hQ:(φ 0).off+j<c.size:=by omega
     rw[if_neg (by decide)];show(putCells enc (φ 0).off (srt l).toArray c)[(φ 0).off+j]?=_;unfold putCells;rw[Array.getElem?_mapIdx,Array.getElem?_eq_getElem hQ,Option.map_some];rw[if_pos ⟨by omega,by simp[hu];omega⟩];have e4:(φ 0).off+j-(φ 0).off=j:=by omega
     rw[e4];have hR:j<(srt l).length:=by omega
     have e1:((srt l).toArray)[j]! =(srt l)[j]:=by simp[hR]
     rw[e1];simp
    ·show room w' (φ 0) (((srt l).map dat).length*csz t);rw[zJ,hu,hE,Nat.mul_one];exact he _ ⟨c,el,lo,hi,r1,r2,r3⟩
   ·rw[hk i hf,hD];exact fun h=>absurd h ht
  have hJ:=hc.mem;have hh:=(Hist.refl [0] φ (rowO (t:=t) ⟨false,l.map dat⟩) w).step hc;rw[qpw] at hJ hh;exact⟨[],φ,X,rfl,fun _ h=>h,hJ,rfl,hh⟩
end Ev
namespace Ev
open Go Go.Shelf Go.RowKit Go.Proofs Go.Lib
variable {P:Program} {ρ:Shelf.Ren}
theorem qi0:∀l:List UInt8,countByte l 45=0->q9i l=l
 |[],_=>rfl
 |b::l,h=>by
  unfold countByte at h;have hb:b≠45:=fun e=>by rw[e,List.count_cons_self] at h;omega
  rw[List.count_cons_of_ne (fun e=>hb e)] at h;unfold q9i;rw[if_neg hb,qi0 l h]
theorem qi1:∀l:List UInt8,countByte l 45≠0->∃i:Nat,indexByte l 45=(i:Int)/\i<l.length/\q9i l=l.take i++([126]++l.drop (i+1))
 |[],h=>absurd rfl h
 |b::l,h=>by
  by_cases hb:b=45
  ·subst hb;exact⟨0,rfl,by simp,by unfold q9i;simp⟩
  ·unfold countByte at h;rw[List.count_cons_of_ne (fun e=>hb e)] at h;obtain⟨i,h1,h2,h3⟩:=qi1 l h;refine⟨i+1,?_,by simp only[zm];omega,?_⟩
   ·unfold indexByte;have e1:(b==45)=false:=beq_eq_false_iff_ne.2 hb;have e2:((i:Int)==-1)=false:=beq_eq_false_iff_ne.2 (by omega);rw[h1,e1,e2];rfl
   ·unfold q9i;rw[if_neg hb,h3];rfl
theorem z0s:(⟨#[45]⟩:ByteArray)≠⟨#[126]⟩:=by intro h;injection h with h;exact absurd h (by decide)
theorem qz2(L:Lays.n154 P ρ)(s:ByteArray)(w:World)(hc:countByte s.data.toList 45=0):Calls P (ρ.f 154) #[.string s,.string ⟨#[45]⟩,.string ⟨#[126]⟩,.int .i64 1] w fun e w'=>e=.returned (.string s)/\w'=w:=by
 have hC:=Any.strings_Count_one {L with} s 45 w;rw[hc] at hC;have he:=(Lib.bytes_beq_false_iff (⟨#[45]⟩:ByteArray) ⟨#[126]⟩).2 z0s;have t3:=L.t3;have a3:=L.a3;have z3:=L.z3;have v3:=L.v3;have t9:=L.t9;have a9:=L.a9;have z9:=L.z9;have v9:=L.v9;have t4:=L.t4;have a4:=L.a4;have z4:=L.z4;have v4:=L.v4;have e138:∀args w,(callFunc (ρ.f 138) args).run P w=.ok (.enter (ρ.f 138) args) w:=enters_of L.f138 (by kernel_rfl) rfl
 go_enter L.f154,Body.n154_ntmps ρ
 go_wp2_with (first|(go_at_fn (ρ.f 138);refine hC.mono ?_;rintro e w' ⟨rfl,hw⟩;rw[hw]))
 go_ret
 exact⟨rfl,rfl⟩
theorem q56{p:Prop}(h:p):Hid p:=h
set_option maxHeartbeats 4000000 in
set_option maxRecDepth 1000000 in
theorem qz3(L:Lays.n154 P ρ)(X:Builder.Extra P ρ)(s:ByteArray)(w:World)(hs:s.size<=1000)(ho:countByte s.data.toList 45≠0):Calls P (ρ.f 154) #[.string s,.string ⟨#[45]⟩,.string ⟨#[126]⟩,.int .i64 1] w fun e w'=>e=.returned (.string ⟨(q9i s.data.toList).toArray⟩)/\Below w.heap.size w w':=by
 have hC:=Any.strings_Count_one {L with} s 45 w;obtain⟨i,hz,hA,hq⟩:=qi1 s.data.toList ho;obtain⟨cn,hB⟩:∃cn:Nat,countByte s.data.toList 45=cn:=⟨_,rfl⟩;rw[hB] at hC ho;have hk:s.data.toList.length=s.size:=(Lib.size_eq s).symm;rw[hk] at hA;have HI3:=q56 hq;clear hq;have hD:=(Lib.bytes_beq_false_iff (⟨#[45]⟩:ByteArray) ⟨#[126]⟩).2 z0s;have hH:((cn:Int)==0)=false:=beq_eq_false_iff_ne.2 (by omega);have hI:¬((cn:Int)<1):=by omega
 have mixed:=L.mixed;have t72:=L.t72;have a72:=L.a72;have z72:=L.z72;have v72:=L.v72;have u72:=run_underlying L.t72;have t70:=L.t70;have a70:=L.a70;have z70:=L.z70;have v70:=L.v70;have u70:=run_underlying L.t70;have t37:=L.t37;have a37:=L.a37;have z37:=L.z37;have v37:=L.v37;have u37:=run_underlying L.t37;have t3:=L.t3;have a3:=L.a3;have z3:=L.z3;have v3:=L.v3;have u3:=run_underlying L.t3;have t9:=L.t9;have a9:=L.a9;have z9:=L.z9;have v9:=L.v9;have u9:=run_underlying L.t9;have t4:=L.t4;have a4:=L.a4;have z4:=L.z4;have v4:=L.v4;have u4:=run_underlying L.t4;have e138:∀args w,(callFunc (ρ.f 138) args).run P w=.ok (.enter (ρ.f 138) args) w:=enters_of L.f138 (by kernel_rfl) rfl;have e143:∀args w,(callFunc (ρ.f 143) args).run P w=.ok (.enter (ρ.f 143) args) w:=enters_of L.f143 (by kernel_rfl) rfl;have e165:∀args w,(callFunc (ρ.f 165) args).run P w=.ok (.enter (ρ.f 165) args) w:=enters_of L.f165 (by kernel_rfl) rfl;have e166:∀args w,(callFunc (ρ.f 166) args).run P w=.ok (.enter (ρ.f 166) args) w:=enters_of L.f166 (by kernel_rfl) rfl;have e169:∀args w,(callFunc (ρ.f 169) args).run P w=.ok (.enter (ρ.f 169) args) w:=enters_of L.f169 (by kernel_rfl) rfl
 go_enter L.f154,Body.n154_ntmps ρ
 go_wp2_with (first|(go_at_fn (ρ.f 138);refine hC.mono ?_;rintro e w' ⟨rfl,hw⟩;rw[hw]))
 refine(Any.Builder_Grow_fresh {L with} X w.heap.size w.heap.size s.size _ (Nat.le_refl _) (heap_alloc_new w _) (by simp) (by omega)).mono ?_;rintro e w1 ⟨rfl,ht,hu⟩;have H1:=q56 (Or.inr ht:Lib.IsBuilder (ρ.t 72) (ρ.t 5) w.heap.size w.heap.size (Lib.byteCells []) w1);have Hb1:=q56 (((Below.refl w.heap.size w).alloc (Nat.le_refl _) _).trans hu);clear ht hu hC
 go_wp2_with fail
 go_loopg [11,53] 1 (fun g s11 s53 wx=>∃(k start:Nat) (acc:List UInt8),s53=.int .i64 k/\s11=.int .i64 start/\k+g=1/\Hid (Lib.IsBuilder (ρ.t 72) (ρ.t 5) w.heap.size w.heap.size (Lib.byteCells acc) wx)/\
  Hid (Below w.heap.size w wx)/\start<=s.size/\acc.length<=1000/\Hid ((g=1/\start=0/\acc=[])\/(g=0/\start=i+1/\acc=s.data.toList.take i++[126])))
 case atStart=>exact⟨0,0,[],rfl,rfl,rfl,H1,Hb1,Nat.zero_le _,Nat.zero_le _,q56 (.inl ⟨rfl,rfl,rfl⟩)⟩
 case round=>
  obtain⟨k,start,acc,rfl,rfl,hJ,HB,HW,hK,hE,HR⟩:=hrel;have hm:w.heap.size<=wr.heap.size:=HW.out.size;have c1:(0:Int)<=(start:Int):=by omega
  have c2:(start:Int)<=(s.size:Int):=by omega
  cases gk with
  |zero=>
   have hF:¬((k:Int)<1):=by omega
   go_wp2_with fail
   obtain⟨hc,hn⟩:start=i+1/\acc=s.data.toList.take i++[126]:=by
    rcases HR.out with ⟨h,_⟩|⟨_,h1,h2⟩
    ·exact absurd h (by decide)
    ·exact⟨h1,h2⟩
   refine(Any.Builder_WriteString {L with} X w.heap.size w.heap.size _ _ wr HB.out (by rw[Lib.byteCells_length,ByteArray.size_extract];omega) hm).mono ?_;rintro e w3 ⟨rfl,h3,hj⟩;have hl:acc++s.data.toList.drop start=q9i s.data.toList:=by rw[hn,hc,HI3.out,zt]
   rw[Lib.strCells_eq,Lib.extract_to_end,<-Lib.byteCells_append,hl] at h3;have H3:=q56 (Or.inr h3:Lib.IsBuilder (ρ.t 72) (ρ.t 5) w.heap.size w.heap.size (Lib.byteCells (q9i s.data.toList)) w3);have Hb3:=q56 (HW.out.trans hj);have hf:w.heap.size<=w3.heap.size:=Hb3.out.size;clear h3 hj hl
   go_wp2_with fail
   refine(Any.Builder_String_any {L with} X w.heap.size w.heap.size _ w3 H3.out hf).mono ?_;rintro e w5 ⟨rfl,hv⟩;have Hb5:=q56 (Hb3.out.trans hv);clear hv
   go_wp2
   go_ret
   exact⟨rfl,Hb5.out⟩
  |succ g=>
   have hF:(k:Int)<1:=by omega
   obtain⟨hg,hc,hn⟩:g=0/\start=0/\acc=[]:=by
    rcases HR.out with ⟨h,h1,h2⟩|⟨h,_⟩
    ·exact⟨by omega,h1,h2⟩
    ·exact absurd h (by omega)
   subst hg hc hn;have hG:k=0:=by omega
   subst hG;have c3:(0:Int)<=(i:Int):=by omega
   have c4:(i:Int)<=(s.size:Int):=by omega
   go_wp2_with (first|(go_at_fn (ρ.f 143);refine(Any.strings_Index_one {L with} _ 45 _).mono ?_;rintro e w' ⟨rfl,hw⟩;rw[hw,hz]))
   refine(Any.Builder_WriteString {L with} X w.heap.size w.heap.size _ (s.extract 0 i) wr HB.out (by rw[Lib.byteCells_length,ByteArray.size_extract];simp only[List.length_nil];omega) hm).mono ?_;rintro e w3 ⟨rfl,h3,hj⟩;have hf:w.heap.size<=w3.heap.size:=Nat.le_trans hm hj.size;have H3:=q56 h3;have Hb3:=q56 hj;clear h3 hj
   go_wp2_with fail
   refine(Any.Builder_WriteString {L with} X w.heap.size w.heap.size _ ⟨#[126]⟩ w3 (Or.inr H3.out) (by rw[zh,Lib.byteCells_length,Lib.strCells_length,ByteArray.size_extract];simp only[List.length_nil];have:(⟨#[126]⟩:ByteArray).size=1:=rfl;omega) hf).mono ?_;rintro e w4 ⟨rfl,h4,hx⟩;have he:Lib.byteCells []++Lib.strCells (s.extract 0 i)++Lib.strCells ⟨#[126]⟩=Lib.byteCells (s.data.toList.take i++[126]):=by rw[Lib.strCells_eq,Lib.strCells_eq,Lib.extract_data,Nat.sub_zero,List.drop_zero,<-Lib.byteCells_append,<-Lib.byteCells_append];rfl
   rw[he] at h4;have H4:=q56 (Or.inr h4:Lib.IsBuilder (ρ.t 72) (ρ.t 5) w.heap.size w.heap.size (Lib.byteCells (s.data.toList.take i++[126])) w4);have Hb4:=q56 ((HW.out.trans Hb3.out).trans hx);have hy:(s.data.toList.take i++[126]).length<=1000:=by rw[zh,zN,List.length_singleton];omega
   have HL:=q56 hy;clear h4 hx he hy
   go_wp2
   go_roundg 0
   case measure=>omega
   case rel=>exact⟨1,i+1,_,by first|rfl|(simp;unfold wrap64;omega),by first|rfl|simp|(simp;unfold wrap64;omega),rfl,H4,Hb4,by omega,HL.out,q56 (.inr ⟨rfl,rfl,rfl⟩)⟩
theorem qz4(L:Lays.n154 P ρ)(X:Builder.Extra P ρ)(s:ByteArray)(w:World)(hs:s.size<=1000):Calls P (ρ.f 154) #[.string s,.string ⟨#[45]⟩,.string ⟨#[126]⟩,.int .i64 1] w fun e w'=>e=.returned (.string ⟨(q9i s.data.toList).toArray⟩)/\Below w.heap.size w w':=by
 by_cases hc:countByte s.data.toList 45=0
 ·refine(qz2 L s w hc).mono fun e w' ⟨h1,h2⟩=>⟨?_,h2▸Below.refl _ _⟩;rw[h1,qi0 _ hc,Array.toArray_toList]
 ·exact qz3 L X s w hs hc
end Ev