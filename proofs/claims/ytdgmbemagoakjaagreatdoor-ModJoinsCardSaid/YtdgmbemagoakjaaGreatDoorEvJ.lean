/- The calls of strings.Builder, slices.Sort, slices.Grow, strings.Replace. No statement of its own about the program. -/
import Derived.Test.YtdgmbemagoakjaaGreatDoorEvI
import Derived.Shelf.Strings.Builder1
import Derived.Shelf.SlSortCmp.NoneTotal
import Derived.Shelf.Slices.In.SortNone
import Derived.Shelf.Strings.Replace
namespace Ev
open Go
def zar(f:Nat):jY:=⟨f,⟨[.ptr 0 0],[.box [.cG 0,.aX 1],.vec (.int .u8)]⟩,⟨[],[.box [.cG 0,.aX 1],.vec (.int .u8)]⟩,[0,1]⟩
def eZ(b:Bool)(s:Sl (den (.int .u8))):Nat->Obj:=ar (fun _=>Obj.none) [(0,.box [.cG 0 b,.aX 1 0]),(1,.vec (.int .u8) 0 false s)]
theorem z91{b:Bool}{s:Sl (den (.int .u8))}:eZ b s 0=.box [.cG 0 b,.aX 1 0]:=rfl
theorem WW{b:Bool}{s:Sl (den (.int .u8))}:eZ b s 1=.vec (.int .u8) 0 false s:=rfl
theorem qxd{b:Bool}{s:Sl (den (.int .u8))}:ar (eZ b s) [(0,.box [.cG 0 true,.aX 1 0])]=eZ true s:=by
 funext id;show ck (eZ b s) 0 _ id=_;by_cases h:id=0
 ·subst h;rw[dM];rfl
 ·rw[gM h];show ck (ck _ 0 _) 1 _ id=ck (ck _ 0 _) 1 _ id;by_cases h1:id=1
  ·subst h1;rw[dM,dM]
  ·rw[gM h1,gM h1,gM h,gM h]
theorem z4f{C:Cx}{X:Nat->Prop}{φ:Nat->Addr}{w:World}{b:Bool}{s:Sl (den (.int .u8))}(hm:MRel C X φ (eZ b s) w):(φ 0).off=0/\∃c z lo hi,w.heap[(φ 0).block]?=some (.cells c C.gX (lo,hi))/\hi<=lo/\c=#[.pointer (bif b then some ⟨(φ 0).block,0,none⟩ else none),z]/\av φ (eZ b s) (ah X φ (eZ b s) w) w (.aX 1 0) z:=by
 have ho:=hm.aw 0;have he:=hm.oD 0;rw[z91] at ho he;obtain⟨h0,c,el,lo,hi,h1,h2,z0,r,e1,h3,z1,r1,e2,h4,h5⟩:=ho;obtain⟨c',Io,fz,h6,h7⟩:=he rfl;rw[h6] at h1;injection h1 with h1;injection h1 with g1 g2 g3;have h5:r1=[]:=h5;have hc:Io=C.gX:=by
  rcases h7 with h7|h7
  ·exact h7.1
  ·exfalso;have:c'.size=2:=by rw[g1,<-Array.length_toList,e1,e2,h5];rfl
   omega
 subst hc;have h3:z0=.pointer (bif b then some ⟨(φ 0).block,(φ 0).off,none⟩ else none):=h3;subst h5 e2;refine⟨h0,c,z1,lo,hi,by rw[h6,g1,<-g3],h2,?_,h4⟩;rw[h0] at h3;rw[<-h3];exact Array.toList_inj.1 e1
theorem z92{C:Cx}{f:Nat}(hk:∃fn,C.P.funcs[f]?=some fn/\fn.body.isNone=false)(hu:∀(b:Nat) (w:World),w.cell? ⟨b,0,none⟩=some (.pointer (some ⟨b,0,none⟩))->Calls C.P f #[.pointer (some ⟨b,0,none⟩)] w fun e w'=>e=.returned (.tuple #[])/\w'=w)(hf:∀(b:Nat) (w:World),w.cell? ⟨b,0,none⟩=some (.pointer none)->w.shape? b=some (C.gX,2)->w.frozen? ⟨b,0,none⟩=false->Calls C.P f #[.pointer (some ⟨b,0,none⟩)] w fun e w'=>e=.returned (.tuple #[])/\w'=w.setCell ⟨b,0,none⟩ (.pointer (some ⟨b,0,none⟩)))(b:Bool)(s:Sl (den (.int .u8))):tG C (zar f) (b,s,()) (true,s,()):=by
 intro X φ w zs hm hz;have hm:MRel C X φ (eZ b s) w:=hm;have hz:bV φ (eZ b s) (ah X φ (eZ b s) w) w [.ptr 0 0] zs:=hz;refine⟨hk,?_⟩;obtain⟨h0,c,z,lo,hi,h1,h2,rfl,h3⟩:=z4f hm;obtain⟨z0,r,rfl,g1,g2⟩:=hz;have g2:r=[]:=g2;have g1:z0=.pointer (some ⟨(φ 0).block,(φ 0).off+0,none⟩):=g1;rw[h0] at g1;subst g1 g2;cases b with
 |true=>refine Calls.mono (hu (φ 0).block w (by rw[World.cell?,h1];rfl)) fun e w' ⟨e1,e2⟩=>?_;subst e1 e2;exact⟨[],φ,X,rfl,fun _ h=>h,hm,rfl,cW.refl _ _ _ _⟩
 |false=>
  refine Calls.mono (hf (φ 0).block w (by rw[World.cell?,h1];rfl) (by rw[World.shape?,h1];rfl) ?_) fun e w' ⟨e1,e2⟩=>?_
  ·rw[World.frozen?,h1];simp only[Bool.and_eq_false_iff,decide_eq_false_iff_not];omega
  ·subst e1;have hd:w'.heap[(φ 0).block]?=some (.cells #[.pointer (some ⟨(φ 0).block,0,none⟩),z] C.gX (lo,hi)):=by rw[e2];simp[World.setCell,Array.getElem?_modify,h1]
   have he:∀b,b≠(φ 0).block->w'.heap[b]?=w.heap[b]?:=fun b hb=>by rw[e2];simp[World.setCell,Array.getElem?_modify,Ne.symm hb]
   have hg:aV (φ 0) (eZ false s 0)=true:=rfl;have hc:Comes C X φ φ (eZ false s) [(0,.box [.cG 0 true,.aX 1 0])] w w' .undef undef:=by refine Comes.write hm (.box [.cG 0 true,.aX 1 0]) (fun _=>hg) (by rw[e2];simp[World.setCell]) (fun b hb=>he b fun e=>hb ⟨hg,e.symm⟩) rfl (fun a1 a2 a3=>?_) (fun _=>⟨_,_,_,hd,.inl ⟨rfl,rfl⟩⟩) (fun _=>rfl) ⟨by rw[e2];rfl,by rw[e2];rfl⟩;refine⟨h0,_,C.gX,lo,hi,hd,h2,_,_,rfl,?_,z,[],rfl,a3 _ _ h3,rfl⟩;show Value.pointer (some ⟨(φ 0).block,0,none⟩)=.pointer (some ⟨(φ 0).block,(φ 0).off,none⟩);rw[h0]
   have hj:=hc.mem;have hh:=(cW.refl [0,1] φ (eZ false s) w).step hc;rw[qxd] at hj hh;exact⟨[],φ,X,rfl,fun _ h=>h,hj,rfl,hh⟩
end Ev
namespace Ev
open Go Go.Shelf Go.RowKit Go.Proofs
theorem z6j{P:Program}{e u:TypeId}(he:P.underlying e=some (.int .u8))(hu:P.underlying u=some (.int .u8))(hc:P.cellsOf e=1)(count off n:Nat)(hn:off+n<=count):liesAt P P.depth e count off u n=true:=by have hd:P.depth=(2*(P.types.size+Made.depth)+1)+1:=rfl;rw[hd];simp only[liesAt,Bool.or_eq_true];left;rw[hd];simp[rowAt,hc,sameLayout,he,hu];omega
theorem q6s{P:Program}{w:World}(pt it ty u e:TypeId)(hp:P.underlying pt=some (.pointer u))(hu:P.underlying u=some (.int .u8))(he:P.underlying e=some (.int .u8))(hc:P.cellsOf e=1)(a:Addr)(cells:Nat)(ho:w.shape? a.block=some (e,cells))(l:List UInt8)(h0:l≠[])(hn:a.off+l.length<=cells)(hq:(l.length:Int)<=9223372036854775807)(hd:∀j x,l[j]?=some x->w.cell? (a.add j)=some (.int .u8 x.toNat)):(Builtin.unsafeString_ #[pt,it] ty #[.pointer (some a),.int .i64 l.length]).run P w=.ok (.string ⟨l.toArray⟩) (w.freeze a l.length):=by
 have hl:l.length≠0:=by simpa using h0
 have hs:=Lib.run_loadBytes (P:=P) w l a .empty hd;have hf:=z6j (P:=P) he hu hc (cells / P.cellsOf e) a.off l.length (by rw[hc];simpa using hn);have hg:¬(9223372036854775807:Int)<(l.length:Int):=om
 have hj:Builtin.unsafeString_ #[pt,it] ty #[.pointer (some a),.int .i64 l.length]=
   (do
    let n <-Go.asInt (Value.int .i64 l.length)
    if n<0 then runtimePanic (.error "unsafe.String: len out of range")
    if n>IntKind.i64.max then unsupported (.unsafePointer "String: a length above the largest int")
    if n=0 then pure (.string .empty)
    else if <-variablesAt a (<-elemOf pt) n.toNat then do
     let s <-loadBytes a .empty n.toNat
     freeze a n.toNat
     pure (.string s)
    else unsupported (.unsafePointer "String: not so many bytes at ptr")):=rfl
 rw[hj];have hk:IntKind.i64.max=9223372036854775807:=rfl;have hm:¬(l.length:Int)<0:=om
 simp[Go.asInt,asIntOf,hk,hg,hm,hl,variablesAt,ho,elemOf,run_underlying hp,hf,hs]
def wG(f:Nat):jY:=⟨f,⟨[.ptr 0 0],[.box [.cG 0,.aX 1],.vec (.int .u8)]⟩,⟨[.d .str],[.gone,.gone]⟩,[]⟩
structure WX (P:Program) (f sl pt it st u:Nat):Prop where
 walk:∀(b:Nat) (base q:Option Addr) (n cap:Nat) (bs:ByteArray) (w w2:World),w.drew.cell? ⟨b,1,none⟩=some (.slice base n cap)->
  (Builtin.unsafeSliceData_ #[sl] pt #[.slice base n cap]).run P w.drew=.ok (.pointer q) w.drew->
  (Builtin.unsafeString_ #[pt,it] st #[.pointer q,.int .i64 n]).run P w.drew=.ok (.string bs) w2->
  Calls P f #[.pointer (some ⟨b,0,none⟩)] w fun e w'=>e=.returned (.string bs)/\w'=w2
 xB:∀(b:Nat) (a:Addr) (cs:Array Value) (el:TypeId) (fz:Nat×Nat) (w:World),w.heap[b]?=some (.cells cs el fz)->cs[1]?=some (.slice (some a) 0 0)->
  ∀(sh:TypeId×Nat),w.drew.shape? a.block=some sh->
  Calls P f #[.pointer (some ⟨b,0,none⟩)] w fun e w'=>e=.returned (.string .empty)/\w'=w.drew.alloc (.view a u)
theorem z6k{C:Cx}{f sl pt it st u:Nat}(W:WX C.P f sl pt it st u)(hK:C.P.underlying pt=some (.pointer u))(hL:∃fn,C.P.funcs[f]?=some fn/\fn.body.isNone=false)(hM:C.P.underlying u=some (.int .u8))(hf:∀el,C.P.underlying el=some (.int .u8)->C.P.cellsOf el=1)(b:Bool)(s:Sl (den (.int .u8))):tG C (wG f) (b,s,()) (s.l,()):=by
 intro Y φ w zs hm hz;have hm:MRel C Y φ (eZ b s) w:=hm;have hz:bV φ (eZ b s) (ah Y φ (eZ b s) w) w [.ptr 0 0] zs:=hz;refine⟨hL,?_⟩;obtain⟨h0,c,z,lo,hi,h1,h2,rfl,h3⟩:=z4f hm;obtain⟨z0,r,rfl,g1,g2⟩:=hz;have g2:r=[]:=g2;have g1:z0=.pointer (some ⟨(φ 0).block,(φ 0).off+0,none⟩):=g1;rw[h0] at g1;subst g1 g2
 have fin:∀(bs:ByteArray) (w':World),(bs.data.toList.map fun b=>(b.toNat:Int))=s.l->s.l.length<=bU->w.heap.size<=w'.heap.size->tw w w'->(∀b',b'<w.heap.size->¬lZ φ (eZ b s) b'->w'.heap[b']?=w.heap[b']?)->
   ∃dF φ' X',Ending.returned (.string bs)=.returned (xx dF)/\(∀b,Y b->X' b)/\MRel C X' φ' (bf (wG f).outs (s.l,())) w'/\
    bV φ' (bf (wG f).outs (s.l,())) (ah X' φ' (bf (wG f).outs (s.l,())) w') w' (fill cv bS (wG f).outs (s.l,())).1 dF/\cW (wG f).bH φ (bf (wG f).ins (b,s,())) w φ' (bf (wG f).outs (s.l,())) w':=by
  intro bs w' hC ho hu hs hd;have hc:∀id,bf (wG f).outs (s.l,()) id=.dead\/(eZ b s id=.none/\bf (wG f).outs (s.l,()) id=.none):=fun id=>by
   show ck (ck _ 0 _) 1 _ id=_\/(ck (ck _ 0 _) 1 _ id=_/\ck (ck _ 0 _) 1 _ id=_);by_cases h:id=1
   ·subst h;exact .inl rfl
   ·by_cases h':id=0
    ·subst h';exact .inl rfl
    ·refine .inr ⟨?_,?_⟩<;>rw[gM h,gM h']
  have ht:∀id a,aV a (bf (wG f).outs (s.l,()) id)=false:=fun id a=>by rcases hc id with h|⟨_,h⟩<;>rw[h]<;>rfl
  have hv:∀b',ah Y φ (eZ b s) w b'->ah Y φ (bf (wG f).outs (s.l,())) w' b':=fun b' hb=>⟨Nat.lt_of_lt_of_le hb.1 hu,hb.2.1,fun⟨id,e,_⟩=>by rw[ht id] at e;cases e⟩;refine⟨[.string bs],φ,Y,rfl,fun _ h=>h,⟨fun id=>?_,fun i j hi=>?_,fun i hi=>?_,fun b' hb=>Nat.lt_of_lt_of_le (hm.xs b' hb) hu,fun id=>?_,fun g t x hg=>?_,hm.mP (fun b' hb=>hd b' hb.1 hb.2.2)⟩,⟨.string bs,[],rfl,H9 hC ?_,rfl⟩,⟨hu,hd,fun b' ⟨id,e,_⟩=>?_,hs,fun id hi=>by cases hi⟩⟩
  ·rcases hc id with h|⟨_,h⟩<;>rw[h]<;>trivial
  ·rw[ht i] at hi;cases hi
  ·rw[ht i] at hi;cases hi
  ·rcases hc id with h|⟨_,h⟩<;>rw[h]<;>trivial
  ·refine wA hv (fun b' hb=>hd b' hb.1 hb.2.2) (fun id=>?_) _ _ (hm.eG g t x hg);rcases hc id with h|⟨h,h'⟩
   ·rw[h];cases eZ b s id<;>trivial
   ·rw[h];trivial
  ·rw[<-hC] at ho;simpa using ho
  ·rw[ht id] at e;cases e
 have hD:=hm.aw 1;have hE:=hm.oD 1;rw[WW] at hD hE;obtain⟨k1,k2,k3⟩:=hD;unfold av at h3;rw[WW] at h3;have cell:∀z',z=z'->w.drew.cell? ⟨(φ 0).block,1,none⟩=some z':=fun z' e=>by have:w.drew.heap[(φ 0).block]?=_:=h1;rw[World.cell?,this,e];rfl
 have hs:tw w w.drew:=⟨rfl,rfl⟩;have hq:(Builtin.unsafeString_ #[pt,it] st #[.pointer none,.int .i64 (0:Nat)]).run C.P w.drew=.ok (.string .empty) w.drew:=Lib.run_unsafeString_none w.drew _ _ _ none;rcases h3.2 rfl with ⟨hn,hk⟩|⟨hn,cap,hk,hN,hT,hF⟩
 ·have hl:=k2 hn;have:=W.walk (φ 0).block none none 0 0 .empty w w.drew (cell _ hk) (Lib.run_unsafeSliceData_nil _ _ _ _ _) hq;refine Calls.mono this fun e w' ⟨e1,e2⟩=>?_;subst e1 e2;exact fin .empty w.drew (by rw[hl];rfl) k1 (Nat.le_refl _) hs (fun _ _ _=>rfl)
 ·obtain⟨m1,ec,m2,m3,m4,m5,_⟩:=(k3 hn).resolve_right fun g=>g.2.2 rfl;rw[H7 m1] at hk;obtain⟨c0,el,fz,q1,q2⟩:=hE rfl hn;have hG:w.drew.shape? (φ 1).block=some (el,c0.size):=by have:w.drew.heap[(φ 1).block]?=_:=q1;rw[World.shape?,this]
  have hw:lZ φ (eZ b s) (φ 1).block:=⟨1,by rw[WW];exact oV hn m1,rfl⟩;by_cases hl:s.l=[]
  ·have hO:s.l.length=0:=by rw[hl];rfl
   rw[hO] at hk;by_cases hH:cap=0
   ·subst hH;have:=W.xB (φ 0).block (φ 1) _ C.gX (lo,hi) w h1 (by rw[hk];rfl) _ hG;refine Calls.mono this fun e w' ⟨e1,e2⟩=>?_;subst e1 e2;refine fin .empty _ (by rw[hl];rfl) k1 (by show w.heap.size<=(w.heap.push _).size;simp) ⟨rfl,rfl⟩ (fun b' hb _=>?_);exact Lib.alloc_old w.drew _ b' hb
   ·have:=W.walk (φ 0).block (some (φ 1)) (some (φ 1)) 0 cap .empty w w.drew (cell _ hk) (Lib.run_unsafeSliceData_row _ _ _ _ _ _ hH) (Lib.run_unsafeString_none w.drew _ _ _ _);refine Calls.mono this fun e w' ⟨e1,e2⟩=>?_;subst e1 e2;exact fin .empty w.drew (by rw[hl];rfl) k1 (Nat.le_refl _) hs (fun _ _ _=>rfl)
  ·obtain⟨u1,u2⟩:=SD m2;have back:∀n:Int,0<=n->n<=255->(((UInt8.ofNat n.toNat).toNat:Nat):Int)=n:=by intro n h0 h1;rw[UInt8.toNat_ofNat',Nat.mod_eq_of_lt om];omega
   generalize hI:List.map (fun n:Int=>UInt8.ofNat n.toNat) s.l=l8;have he:l8.length=s.l.length:=by rw[<-hI];simp
   have hy:l8.map (fun b=>(b.toNat:Int))=s.l:=by
    rw[<-hI,zX];have:∀l:List Int,(∀n,n∈l->0<=n/\n<=255)->List.map ((fun b:UInt8=>(b.toNat:Int))∘fun n:Int=>UInt8.ofNat n.toNat) l=l:=by
     intro l
     induction l with
     |nil=>intro _;rfl
     |cons a l ih=>intro h;rw[zI,ih fun n hn=>h n (zm _ hn)];have:=h a (zj ..);show _::l=a::l;simp only[Function.comp];rw[back a this.1 this.2]
    exact this _ u2
   have hA:l8≠[]:=fun e=>hl (by rw[<-hy,e];rfl);have hP:0<s.l.length:=List.length_pos_iff.2 hl;obtain⟨c5,el5,lo5,hU,r1,r2,r3⟩:=m5 rfl;rw[q1] at r1;injection r1 with r1;injection r1 with r4 r5 r6;subst r4;have hB:aI (.int .u8)=1:=rfl;rw[hB,Nat.mul_one] at r2;have hJ:=q6s (P:=C.P) (w:=w.drew) pt it st u el hK hM q2.1 (hf el q2.1) (φ 1) c0.size hG l8 hA (by rw[he];exact r2) (by rw[he];unfold bU at k1;omega) (fun j x hx=>by
    have hb:(s.l)[j]?=some (x.toNat:Int):=by rw[<-hy,zV,hx];rfl
    have hQ:ec[j]?=some (.int .u8 (x.toNat:Int)):=by rw[u1,zV,hb];rfl
    obtain⟨hj,e⟩:=zH.1 hQ;have:=m3 j hj;rw[e] at this;rw[qJ m1];exact this)
   rw[he] at hJ;have:=W.walk (φ 0).block (some (φ 1)) (some (φ 1)) s.l.length cap ⟨l8.toArray⟩ w (w.drew.freeze (φ 1) s.l.length) (cell _ hk) (Lib.run_unsafeSliceData_row _ _ _ _ _ _ om) hJ;refine Calls.mono this fun e w' ⟨e1,e2⟩=>?_;subst e1 e2;refine fin ⟨l8.toArray⟩ _ (by simpa using hy) k1 ?_ ?_ ?_
   ·unfold World.freeze;split
    ·exact Nat.le_refl _
    ·show w.heap.size<=(w.heap.modify _ _).size;simp
   ·unfold World.freeze;split<;>exact⟨rfl,rfl⟩
   ·intro b' hb hR;have hS:b'≠(φ 1).block:=fun e=>hR (e▸hw);unfold World.freeze;split
    ·rfl
    ·show(w.heap.modify _ _)[b']?=_;simp[Array.getElem?_modify,Ne.symm hS]
end Ev
namespace Ev
open Go
def Tb:TypeDesc->Bool
 |.int _=>false
 |.named _ _=>false
 |_=>true
theorem qc0{info:TypeId->Option TypeInfo}{fs:Array Field}{i:TypeInfo}(h:Made.reckonStruct info fs=some i):Tb i.desc=true:=by unfold Made.reckonStruct at h;simp only[Option.bind_eq_bind,zW,Option.pure_def] at h;obtain⟨_,_,h⟩:=h;split at h<;>(injection h with h;subst h;rfl)
theorem qn5{info:TypeId->Option TypeInfo}{d:TypeDesc}{i:TypeInfo}(h:Made.reckon info d=some i):Tb i.desc=true:=by
 cases d<;>simp only[Made.reckon,Option.bind_eq_bind,zW,Option.pure_def,zE] at h
 case struct fs=>exact qc0 h
 case pointer e=>
  obtain⟨a,_,h⟩:=h;split at h
  ·cases h
  ·split at h
   ·cases h
   ·simp only[zW,zE] at h;obtain⟨_,_,rfl⟩:=h;rfl
  ·simp only[zW,zE] at h;obtain⟨_,_,rfl⟩:=h;rfl
 case slice=>obtain⟨_,_,_,_,rfl⟩:=h;rfl
 case array=>obtain⟨_,_,_,_,rfl⟩:=h;rfl
 case map=>obtain⟨_,_,_,_,_,_,_,_,rfl⟩:=h;rfl
 case chan=>obtain⟨_,_,_,_,rfl⟩:=h;rfl
 case func=>obtain⟨_,_,rfl⟩:=h;rfl
 all_goals cases h
def isB:Option TypeDesc->Bool
 |some (.int .u8)=>true
 |_=>false
def OE(P:Program):Nat->Bool
 |0=>true
 |n+1=>(!isB (P.underlying n)||Nat.beq (P.cellsOf n) 1)&&OE P n
theorem qc2{P:Program}:∀(n:Nat),OE P n=true->∀el,el<n->P.underlying el=some (.int .u8)->P.cellsOf el=1
 |0,_,el,h,_=>absurd h om
 |n+1,h,el,hl,hu=>by
  simp only[OE,zd,Bool.or_eq_true] at h;by_cases e:el=n
  ·subst e;rcases h.1 with h1|h1
   ·rw[hu] at h1;simp[isB] at h1
   ·exact zg h1
  ·exact qc2 n h.2 el om hu
theorem qn6{P:Program}(h:OE P P.types.size=true)(el:TypeId)(hu:P.underlying el=some (.int .u8)):P.cellsOf el=1:=by
 refine qc2 _ h el ?_ hu;refine zM fun hn=>?_;cases e:P.info? el with
 |none=>simp[Program.underlying,e] at hu
 |some i=>
  have hi:Tb i.desc=true:=by unfold Tables.info? at e;rw[if_neg hn] at e;have e:Made.infoAt P.toTables (99+1) el=some i:=e;unfold Made.infoAt at e;rw[if_neg hn] at e;obtain⟨d,_,hd⟩:=zW.1 e;exact qn5 hd
  unfold Program.underlying at hu;rw[e] at hu;obtain⟨d,_,_,_,_,_,_,_,_,_⟩:=i;cases d<;>simp only[Tb] at hi<;>first|(cases hi;done)|(simp at hu;done)
end Ev
namespace Ev
open Go Go.Shelf Go.RowKit Go.Proofs
def z93(f:Nat):jY:=⟨f,⟨[.ptr 0 0],[.box [.cG 0,.aX 1,.d .cJ,.d (.int .i64)],.vec (.int .u8)]⟩,⟨[],[.box [.cG 0,.aX 1,.d .cJ,.d (.int .i64)],.vec (.int .u8)]⟩,[0,1]⟩
def fb(b:Bool)(q:Nat×Nat)(n:Int)(s:Sl (den (.int .u8))):Nat->Obj:=ar (fun _=>Obj.none) [(0,.box [.cG 0 b,.aX 1 0,.d .cJ q,.d (.int .i64) n]),(1,.vec (.int .u8) 0 false s)]
theorem z94{b:Bool}{q:Nat×Nat}{n:Int}{s:Sl (den (.int .u8))}:fb b q n s 0=.box [.cG 0 b,.aX 1 0,.d .cJ q,.d (.int .i64) n]:=rfl
theorem WY{b:Bool}{q:Nat×Nat}{n:Int}{s:Sl (den (.int .u8))}:fb b q n s 1=.vec (.int .u8) 0 false s:=rfl
theorem qxf{b:Bool}{q:Nat×Nat}{n:Int}{s:Sl (den (.int .u8))}:ar (fb b q n s) [(0,.box [.cG 0 true,.aX 1 0,.d .cJ q,.d (.int .i64) n])]=fb true q n s:=by
 funext id;show ck (fb b q n s) 0 _ id=_;by_cases h:id=0
 ·subst h;rw[dM];rfl
 ·rw[gM h];show ck (ck _ 0 _) 1 _ id=ck (ck _ 0 _) 1 _ id;by_cases h1:id=1
  ·subst h1;rw[dM,dM]
  ·rw[gM h1,gM h1,gM h,gM h]
theorem z4g{C:Cx}{X:Nat->Prop}{φ:Nat->Addr}{w:World}{b:Bool}{q:Nat×Nat}{n:Int}{s:Sl (den (.int .u8))}(hm:MRel C X φ (fb b q n s) w):(φ 0).off=0/\∃c z lo hi,w.heap[(φ 0).block]?=some (.cells c C.oT (lo,hi))/\hi<=lo/\c=#[.pointer (bif b then some ⟨(φ 0).block,0,none⟩ else none),z,.complex .f64 q.1 q.2,.int .i64 n]/\av φ (fb b q n s) (ah X φ (fb b q n s) w) w (.aX 1 0) z/\fO .i64 n:=by
 have ho:=hm.aw 0;have he:=hm.oD 0;rw[z94] at ho he;obtain⟨h0,c,el,lo,hi,h1,h2,z0,r,e1,h3,z1,r1,e2,h4,z2,r2,e3,h5,z3,r3,e4,h8,h9⟩:=ho;obtain⟨c',Io,fz,h6,h7⟩:=he rfl;rw[h6] at h1;injection h1 with h1;injection h1 with g1 g2 g3;have h9:r3=[]:=h9;have h3:z0=.pointer (bif b then some ⟨(φ 0).block,(φ 0).off,none⟩ else none):=h3;have h5:=Ml h5;obtain⟨h8,hn⟩:=kI h8;subst h9 e4 e3 e2;have hc:Io=C.oT:=by
  rcases h7 with h7|h7
  ·exfalso;have:c'.size=4:=by rw[g1,<-Array.length_toList,e1];rfl
   omega
  ·exact h7.1
 subst hc;refine⟨h0,c,z1,lo,hi,by rw[h6,g1,<-g3],h2,?_,h4,hn⟩;rw[h0] at h3;rw[<-h3,<-h5,<-h8];exact Array.toList_inj.1 e1
theorem z95{C:Cx}{f:Nat}(hk:∃fn,C.P.funcs[f]?=some fn/\fn.body.isNone=false)(hu:∀(b:Nat) (w:World),w.cell? ⟨b,0,none⟩=some (.pointer (some ⟨b,0,none⟩))->Calls C.P f #[.pointer (some ⟨b,0,none⟩)] w fun e w'=>e=.returned (.tuple #[])/\w'=w)(hf:∀(b:Nat) (w:World),w.cell? ⟨b,0,none⟩=some (.pointer none)->w.shape? b=some (C.oT,4)->w.frozen? ⟨b,0,none⟩=false->Calls C.P f #[.pointer (some ⟨b,0,none⟩)] w fun e w'=>e=.returned (.tuple #[])/\w'=w.setCell ⟨b,0,none⟩ (.pointer (some ⟨b,0,none⟩)))(b:Bool)(q:Nat×Nat)(n:Int)(s:Sl (den (.int .u8))):tG C (z93 f) (b,q,n,s,()) (true,q,n,s,()):=by
 intro X φ w zs hm hz;have hm:MRel C X φ (fb b q n s) w:=hm;have hz:bV φ (fb b q n s) (ah X φ (fb b q n s) w) w [.ptr 0 0] zs:=hz;refine⟨hk,?_⟩;obtain⟨h0,c,z,lo,hi,h1,h2,rfl,h3,hl⟩:=z4g hm;obtain⟨z0,r,rfl,g1,g2⟩:=hz;have g2:r=[]:=g2;have g1:z0=.pointer (some ⟨(φ 0).block,(φ 0).off+0,none⟩):=g1;rw[h0] at g1;subst g1 g2;cases b with
 |true=>refine Calls.mono (hu (φ 0).block w (by rw[World.cell?,h1];rfl)) fun e w' ⟨e1,e2⟩=>?_;subst e1 e2;exact⟨[],φ,X,rfl,fun _ h=>h,hm,rfl,cW.refl _ _ _ _⟩
 |false=>
  refine Calls.mono (hf (φ 0).block w (by rw[World.cell?,h1];rfl) (by rw[World.shape?,h1];rfl) ?_) fun e w' ⟨e1,e2⟩=>?_
  ·rw[World.frozen?,h1];simp only[Bool.and_eq_false_iff,decide_eq_false_iff_not];omega
  ·subst e1;have hd:w'.heap[(φ 0).block]?=some (.cells #[.pointer (some ⟨(φ 0).block,0,none⟩),z,.complex .f64 q.1 q.2,.int .i64 n] C.oT (lo,hi)):=by rw[e2];simp[World.setCell,Array.getElem?_modify,h1]
   have he:∀b,b≠(φ 0).block->w'.heap[b]?=w.heap[b]?:=fun b hb=>by rw[e2];simp[World.setCell,Array.getElem?_modify,Ne.symm hb]
   have hg:aV (φ 0) (fb false q n s 0)=true:=rfl;have hc:Comes C X φ φ (fb false q n s) [(0,.box [.cG 0 true,.aX 1 0,.d .cJ q,.d (.int .i64) n])] w w' .undef undef:=by refine Comes.write hm (.box [.cG 0 true,.aX 1 0,.d .cJ q,.d (.int .i64) n]) (fun _=>hg) (by rw[e2];simp[World.setCell]) (fun b hb=>he b fun e=>hb ⟨hg,e.symm⟩) rfl (fun a1 a2 a3=>?_) (fun _=>⟨_,_,_,hd,.inr ⟨rfl,rfl⟩⟩) (fun _=>rfl) ⟨by rw[e2];rfl,by rw[e2];rfl⟩;refine⟨h0,_,C.oT,lo,hi,hd,h2,_,_,rfl,?_,z,_,rfl,a3 _ _ h3,_,_,rfl,Vp,_,_,rfl,kz hl,rfl⟩;show Value.pointer (some ⟨(φ 0).block,0,none⟩)=.pointer (some ⟨(φ 0).block,(φ 0).off,none⟩);rw[h0]
   have hj:=hc.mem;have hh:=(cW.refl [0,1] φ (fb false q n s) w).step hc;rw[qxf] at hj hh;exact⟨[],φ,X,rfl,fun _ h=>h,hj,rfl,hh⟩
def wJ(f:Nat):jY:=⟨f,⟨[.ptr 0 0],[.box [.cG 0,.aX 1,.d .cJ,.d (.int .i64)],.vec (.int .u8)]⟩,⟨[.d .str],[.gone,.gone]⟩,[]⟩
theorem z6l{C:Cx}{f sl pt it st u:Nat}(W:WX C.P f sl pt it st u)(hK:C.P.underlying pt=some (.pointer u))(hL:∃fn,C.P.funcs[f]?=some fn/\fn.body.isNone=false)(hM:C.P.underlying u=some (.int .u8))(hf:∀el,C.P.underlying el=some (.int .u8)->C.P.cellsOf el=1)(b:Bool)(q:Nat×Nat)(n:Int)(s:Sl (den (.int .u8))):tG C (wJ f) (b,q,n,s,()) (s.l,()):=by
 intro Y φ w zs hm hz;have hm:MRel C Y φ (fb b q n s) w:=hm;have hz:bV φ (fb b q n s) (ah Y φ (fb b q n s) w) w [.ptr 0 0] zs:=hz;refine⟨hL,?_⟩;obtain⟨h0,c,z,lo,hi,h1,h2,rfl,h3,hT⟩:=z4g hm;obtain⟨z0,r,rfl,g1,g2⟩:=hz;have g2:r=[]:=g2;have g1:z0=.pointer (some ⟨(φ 0).block,(φ 0).off+0,none⟩):=g1;rw[h0] at g1;subst g1 g2
 have fin:∀(bs:ByteArray) (w':World),(bs.data.toList.map fun b=>(b.toNat:Int))=s.l->s.l.length<=bU->w.heap.size<=w'.heap.size->tw w w'->(∀b',b'<w.heap.size->¬lZ φ (fb b q n s) b'->w'.heap[b']?=w.heap[b']?)->
   ∃dF φ' X',Ending.returned (.string bs)=.returned (xx dF)/\(∀b,Y b->X' b)/\MRel C X' φ' (bf (wJ f).outs (s.l,())) w'/\
    bV φ' (bf (wJ f).outs (s.l,())) (ah X' φ' (bf (wJ f).outs (s.l,())) w') w' (fill cv bS (wJ f).outs (s.l,())).1 dF/\cW (wJ f).bH φ (bf (wJ f).ins (b,q,n,s,())) w φ' (bf (wJ f).outs (s.l,())) w':=by
  intro bs w' hC ho hu hs hd;have hc:∀id,bf (wJ f).outs (s.l,()) id=.dead\/(fb b q n s id=.none/\bf (wJ f).outs (s.l,()) id=.none):=fun id=>by
   show ck (ck _ 0 _) 1 _ id=_\/(ck (ck _ 0 _) 1 _ id=_/\ck (ck _ 0 _) 1 _ id=_);by_cases h:id=1
   ·subst h;exact .inl rfl
   ·by_cases h':id=0
    ·subst h';exact .inl rfl
    ·refine .inr ⟨?_,?_⟩<;>rw[gM h,gM h']
  have ht:∀id a,aV a (bf (wJ f).outs (s.l,()) id)=false:=fun id a=>by rcases hc id with h|⟨_,h⟩<;>rw[h]<;>rfl
  have hv:∀b',ah Y φ (fb b q n s) w b'->ah Y φ (bf (wJ f).outs (s.l,())) w' b':=fun b' hb=>⟨Nat.lt_of_lt_of_le hb.1 hu,hb.2.1,fun⟨id,e,_⟩=>by rw[ht id] at e;cases e⟩;refine⟨[.string bs],φ,Y,rfl,fun _ h=>h,⟨fun id=>?_,fun i j hi=>?_,fun i hi=>?_,fun b' hb=>Nat.lt_of_lt_of_le (hm.xs b' hb) hu,fun id=>?_,fun g t x hg=>?_,hm.mP (fun b' hb=>hd b' hb.1 hb.2.2)⟩,⟨.string bs,[],rfl,H9 hC ?_,rfl⟩,⟨hu,hd,fun b' ⟨id,e,_⟩=>?_,hs,fun id hi=>by cases hi⟩⟩
  ·rcases hc id with h|⟨_,h⟩<;>rw[h]<;>trivial
  ·rw[ht i] at hi;cases hi
  ·rw[ht i] at hi;cases hi
  ·rcases hc id with h|⟨_,h⟩<;>rw[h]<;>trivial
  ·refine wA hv (fun b' hb=>hd b' hb.1 hb.2.2) (fun id=>?_) _ _ (hm.eG g t x hg);rcases hc id with h|⟨h,h'⟩
   ·rw[h];cases fb b q n s id<;>trivial
   ·rw[h];trivial
  ·rw[<-hC] at ho;simpa using ho
  ·rw[ht id] at e;cases e
 have hD:=hm.aw 1;have hE:=hm.oD 1;rw[WY] at hD hE;obtain⟨k1,k2,k3⟩:=hD;unfold av at h3;rw[WY] at h3;have cell:∀z',z=z'->w.drew.cell? ⟨(φ 0).block,1,none⟩=some z':=fun z' e=>by have:w.drew.heap[(φ 0).block]?=_:=h1;rw[World.cell?,this,e];rfl
 have hs:tw w w.drew:=⟨rfl,rfl⟩;have hq:(Builtin.unsafeString_ #[pt,it] st #[.pointer none,.int .i64 (0:Nat)]).run C.P w.drew=.ok (.string .empty) w.drew:=Lib.run_unsafeString_none w.drew _ _ _ none;rcases h3.2 rfl with ⟨hn,hk⟩|⟨hn,cap,hk,hN,hU,hF⟩
 ·have hl:=k2 hn;have:=W.walk (φ 0).block none none 0 0 .empty w w.drew (cell _ hk) (Lib.run_unsafeSliceData_nil _ _ _ _ _) hq;refine Calls.mono this fun e w' ⟨e1,e2⟩=>?_;subst e1 e2;exact fin .empty w.drew (by rw[hl];rfl) k1 (Nat.le_refl _) hs (fun _ _ _=>rfl)
 ·obtain⟨m1,ec,m2,m3,m4,m5,_⟩:=(k3 hn).resolve_right fun g=>g.2.2 rfl;rw[H7 m1] at hk;obtain⟨c0,el,fz,q1,q2⟩:=hE rfl hn;have hG:w.drew.shape? (φ 1).block=some (el,c0.size):=by have:w.drew.heap[(φ 1).block]?=_:=q1;rw[World.shape?,this]
  have hw:lZ φ (fb b q n s) (φ 1).block:=⟨1,by rw[WY];exact oV hn m1,rfl⟩;by_cases hl:s.l=[]
  ·have hO:s.l.length=0:=by rw[hl];rfl
   rw[hO] at hk;by_cases hH:cap=0
   ·subst hH;have:=W.xB (φ 0).block (φ 1) _ C.oT (lo,hi) w h1 (by rw[hk];rfl) _ hG;refine Calls.mono this fun e w' ⟨e1,e2⟩=>?_;subst e1 e2;refine fin .empty _ (by rw[hl];rfl) k1 (by show w.heap.size<=(w.heap.push _).size;simp) ⟨rfl,rfl⟩ (fun b' hb _=>?_);exact Lib.alloc_old w.drew _ b' hb
   ·have:=W.walk (φ 0).block (some (φ 1)) (some (φ 1)) 0 cap .empty w w.drew (cell _ hk) (Lib.run_unsafeSliceData_row _ _ _ _ _ _ hH) (Lib.run_unsafeString_none w.drew _ _ _ _);refine Calls.mono this fun e w' ⟨e1,e2⟩=>?_;subst e1 e2;exact fin .empty w.drew (by rw[hl];rfl) k1 (Nat.le_refl _) hs (fun _ _ _=>rfl)
  ·obtain⟨u1,u2⟩:=SD m2;have back:∀n:Int,0<=n->n<=255->(((UInt8.ofNat n.toNat).toNat:Nat):Int)=n:=by intro n h0 h1;rw[UInt8.toNat_ofNat',Nat.mod_eq_of_lt om];omega
   generalize hI:List.map (fun n:Int=>UInt8.ofNat n.toNat) s.l=l8;have he:l8.length=s.l.length:=by rw[<-hI];simp
   have hy:l8.map (fun b=>(b.toNat:Int))=s.l:=by
    rw[<-hI,zX];have:∀l:List Int,(∀n,n∈l->0<=n/\n<=255)->List.map ((fun b:UInt8=>(b.toNat:Int))∘fun n:Int=>UInt8.ofNat n.toNat) l=l:=by
     intro l
     induction l with
     |nil=>intro _;rfl
     |cons a l ih=>intro h;rw[zI,ih fun n hn=>h n (zm _ hn)];have:=h a (zj ..);show _::l=a::l;simp only[Function.comp];rw[back a this.1 this.2]
    exact this _ u2
   have hA:l8≠[]:=fun e=>hl (by rw[<-hy,e];rfl);have hP:0<s.l.length:=List.length_pos_iff.2 hl;obtain⟨c5,el5,lo5,hV,r1,r2,r3⟩:=m5 rfl;rw[q1] at r1;injection r1 with r1;injection r1 with r4 r5 r6;subst r4;have hB:aI (.int .u8)=1:=rfl;rw[hB,Nat.mul_one] at r2;have hJ:=q6s (P:=C.P) (w:=w.drew) pt it st u el hK hM q2.1 (hf el q2.1) (φ 1) c0.size hG l8 hA (by rw[he];exact r2) (by rw[he];unfold bU at k1;omega) (fun j x hx=>by
    have hb:(s.l)[j]?=some (x.toNat:Int):=by rw[<-hy,zV,hx];rfl
    have hQ:ec[j]?=some (.int .u8 (x.toNat:Int)):=by rw[u1,zV,hb];rfl
    obtain⟨hj,e⟩:=zH.1 hQ;have:=m3 j hj;rw[e] at this;rw[qJ m1];exact this)
   rw[he] at hJ;have:=W.walk (φ 0).block (some (φ 1)) (some (φ 1)) s.l.length cap ⟨l8.toArray⟩ w (w.drew.freeze (φ 1) s.l.length) (cell _ hk) (Lib.run_unsafeSliceData_row _ _ _ _ _ _ om) hJ;refine Calls.mono this fun e w' ⟨e1,e2⟩=>?_;subst e1 e2;refine fin ⟨l8.toArray⟩ _ (by simpa using hy) k1 ?_ ?_ ?_
   ·unfold World.freeze;split
    ·exact Nat.le_refl _
    ·show w.heap.size<=(w.heap.modify _ _).size;simp
   ·unfold World.freeze;split<;>exact⟨rfl,rfl⟩
   ·intro b' hb hR;have hS:b'≠(φ 1).block:=fun e=>hR (e▸hw);unfold World.freeze;split
    ·rfl
    ·show(w.heap.modify _ _)[b']?=_;simp[Array.getElem?_modify,Ne.symm hS]
end Ev
namespace Ev
open Go Go.Shelf Go.RowKit Go.Proofs Go.Sort
theorem qgq{α:Type}{enc:α->List Value}{k:Nat}(hk:∀x,(enc x).length=k):∀(l:List α) (i:Nat) (hi:i<l.length) (j:Nat),j<k->(l.map enc).flatten[i*k+j]?=(enc l[i])[j]?
 |x::r,0,_,j,hj=>by simp only[zI,List.flatten_cons,Nat.zero_mul,zO,List.getElem_cons_zero];rw[ja (by rw[hk];exact hj)]
 |x::r,i+1,hi,j,hj=>by
  simp only[zI,List.flatten_cons,List.getElem_cons_succ];rw[zR (by rw[hk,Nat.add_mul,Nat.one_mul];omega),hk];have:(i+1)*k+j-k=i*k+j:=by rw[Nat.add_mul,Nat.one_mul];omega
  rw[this];exact qgq hk r i (by simpa using hi) j hj
theorem Tc{α:Type}{enc:α->List Value}{k:Nat}(hk:∀x,(enc x).length=k):∀l:List α,(l.map enc).flatten.length=l.length*k
 |[]=>by simp
 |x::r=>by simp only[zI,List.flatten_cons,zh,hk,Tc hk r,zf,Nat.add_mul,Nat.one_mul];omega
theorem Td{α β:Type}{enc:α->List Value}{dI:α->β}{R:β->List Value->Prop}(hrel:∀x cs,R (dI x) cs↔cs=enc x):∀(l:List α) (ec:List Value),bD R (l.map dI) ec↔ec=(l.map enc).flatten
 |[],ec=>Iff.rfl
 |x::r,ec=>by
  simp only[zI,List.flatten_cons];constructor
  ·rintro⟨c,d,e,h1,h2⟩;rw[e,(hrel x c).1 h1,(Td hrel r d).1 h2]
  ·intro e;exact⟨_,_,e,(hrel x _).2 rfl,(Td hrel r _).2 rfl⟩
theorem qn7{α:Type}[Inhabited α]{enc:α->List Value}{k:Nat}(hk:∀x,(enc x).length=k)(l:List α)(t:Nat)(ht:t<l.length*k):(l.map enc).flatten[t]?=some (flatK enc k l.toArray)[t]! :=by
 have hc:0<k:=by
  rcases Nat.eq_zero_or_pos k with h|h
  ·rw[h,Nat.mul_zero] at ht;exact absurd ht (Nat.not_lt_zero _)
  ·exact h
 have hi:t / k<l.length:=(Nat.div_lt_iff_lt_mul hc).2 ht;have hm:t % k<k:=Nat.mod_lt _ hc;have e:t / k*k+t % k=t:=Nat.div_add_mod' t k;rw[get_flatK enc k l.toArray t (by simpa using ht)];have h:=qgq hk l (t / k) hi (t % k) hm;rw[e] at h;rw[h];have e1:(l.toArray)[t / k]! =l[t / k]:=by simp[hi]
 rw[e1];have hd:t % k<(enc l[t / k]).length:=by rw[hk];exact hm
 rw[ze hd];congr 1;simp[hd]
theorem qhv{α:Type}[Inhabited α]{enc:α->List Value}{k:Nat}{w:World}{eg off n:Nat}{d:Array α}{os:Array Go.Obj}(hb:eg<w.heap.size):w.heap.size<=(sortWorldK enc k w eg off n d os).heap.size/\(∀b,b<w.heap.size->b≠eg->(sortWorldK enc k w eg off n d os).heap[b]?=w.heap[b]?)/\(∀c el fz,w.heap[eg]?=some (.cells c el fz)->(sortWorldK enc k w eg off n d os).heap[eg]?=some (.cells (putCells id off (flatK enc k d) c) el fz)):=by
 have hd:(putRowK enc k (Sort.ahead w n) eg off d).heap.size=w.heap.size:=Go.Proofs.size_putRow _ _ _ _ _;have hc:∀b,b<w.heap.size->(sortWorldK enc k w eg off n d os).heap[b]?=(putRowK enc k (Sort.ahead w n) eg off d).heap[b]?:=by intro b hb;show((putRowK enc k (Sort.ahead w n) eg off d).heap++os)[b]?=_;rw[Array.getElem?_append_left (by rw[hd];exact hb)]
 refine⟨?_,fun b hb he=>?_,fun c el fz h=>?_⟩
 ·show w.heap.size<=((putRowK enc k (Sort.ahead w n) eg off d).heap++os).size;rw[Array.size_append,hd];exact Nat.le_add_right _ _
 ·rw[hc b hb];show(w.heap.modify eg _)[b]?=_;rw[Array.getElem?_modify,if_neg (Ne.symm he)]
 ·rw[hc eg hb];show(w.heap.modify eg _)[eg]?=_;rw[Array.getElem?_modify,if_pos rfl,h];rfl
def qxg(f g:Nat)(t:Ty):jY:=⟨f,⟨[.aX 0,.fn g []],[.vec t]⟩,⟨[],[.vec t]⟩,[0]⟩
def fJ{t:Ty}(s:Sl (den t)):Nat->Obj:=ar (fun _=>Obj.none) [(0,.vec t 0 false s)]
theorem G0{t:Ty}{s:Sl (den t)}:fJ s 0=.vec t 0 false s:=rfl
theorem qxh{t:Ty}{s:Sl (den t)}{id:Nat}(h:id≠0):fJ s id=.none:=by show ck (fun _=>Obj.none) 0 _ id=_;rw[gM h]
theorem Te{t:Ty}{s s':Sl (den t)}:ar (fJ s) [(0,.vec t 0 false s')]=fJ s':=by
 funext id;show ck (fJ s) 0 _ id=_;by_cases h:id=0
 ·subst h;rw[dM];rfl
 ·rw[gM h,qxh h,qxh h]
theorem z1g{C:Cx}{f g:Nat}{t:Ty}{α:Type}[Inhabited α](enc:α->List Value)(dI:α->den t)(gr:List α->List α)(ht:t≠.int .u8)(hrel:∀imm w x cs,az imm w t (dI x) cs↔cs=enc x)(hk:∀x,(enc x).length=aI t)(hv:∀l,(gr l).length=l.length)(hJ:∃fn,C.P.funcs[f]?=some fn/\fn.body.isNone=false)(h0:∀p cap fv w,Calls C.P f #[.slice p 0 cap,fv] w fun e w'=>e=.returned (.tuple #[])/\w'=w)(hs:∀eg off cap (d:Array α) w,HoldsK enc (aI t) w eg off d->eg<w.heap.size->d.size<4611686018427387904->Calls C.P f #[.slice (some ⟨eg,off,none⟩) d.size cap,.func (.func g) #[] #[]] w fun e w'=>e=.returned (.tuple #[])/\∃n os,w'=sortWorldK enc (aI t) w eg off n (gr d.toList).toArray os)(hK:g<1048576)(nil:Bool)(l:List α)(hl:l.length<4611686018427387904):tG C (qxg f g t) (⟨nil,l.map dI⟩,()) (⟨nil,(gr l).map dI⟩,()):=by
 intro X φ w zs hm hz;have hm:MRel C X φ (fJ ⟨nil,l.map dI⟩) w:=hm;have hz:bV φ (fJ ⟨nil,l.map dI⟩) (ah X φ (fJ ⟨nil,l.map dI⟩) w) w [.aX 0 0,.fn g []] zs:=hz;refine⟨hJ,?_⟩;obtain⟨z0,r0,rfl,g1,z1,r1,rfl,g2,g3⟩:=hz;have g3:r1=[]:=g3;subst g3;obtain⟨cb,rfl,g4⟩:=g2;have g4:cb.toList=[]:=g4;have hL:cb=#[]:=Array.toList_inj.1 g4;subst hL;rw[NL hK];have ho:=hm.aw 0;rw[G0] at ho;obtain⟨k1,k2,k3⟩:=ho;unfold av at g1;rw[G0] at g1;have g1:=g1.2 rfl;show Calls C.P f [z0,.func (.func g) #[] #[]].toArray w _;by_cases hD:l=[]
 ·subst hD;have hw:gr []=[]:=List.length_eq_zero_iff.1 (by rw[hv];rfl);have hx:∃p cap,z0=.slice p 0 cap:=by
   rcases g1 with ⟨_,e⟩|⟨_,cap,e,_⟩
   ·exact⟨_,_,e⟩
   ·exact⟨_,_,e⟩
  obtain⟨p,cap,rfl⟩:=hx;refine Calls.mono (h0 p cap (.func (.func g) #[] #[]) w) fun e w' ⟨e1,e2⟩=>?_;subst e1 e2;rw[hw];exact⟨[],φ,X,rfl,fun _ h=>h,hm,rfl,cW.refl _ _ _ _⟩
 ·have hE:l.map dI≠[]:=fun e=>hD (List.map_eq_nil_iff.1 e);have hn:nil=false:=by
   cases nil with
   |false=>rfl
   |true=>exact absurd (k2 rfl) hE
  subst hn;obtain⟨m1,ec,m2,m3,m4,m5,_⟩:=(k3 rfl).resolve_right fun g=>hE g.2.1;have hF:ec=(l.map enc).flatten:=(Td (fun x cs=>hrel _ _ x cs) l ec).1 m2;obtain⟨cap,hx,hM⟩:∃cap,z0=.slice (some (φ 0)) l.length cap/\l.length<=cap:=by
   rcases g1 with ⟨e,_⟩|⟨_,cap,e,h1,h2,h3⟩
   ·cases e
   ·rw[H7 m1,zA] at e;rw[zA] at h1;exact⟨cap,e,h1⟩
  subst hx;obtain⟨c,el,lo,hi,r1,r2,r3⟩:=m5 rfl;have hy:aV (φ 0) (fJ (t:=t) ⟨false,l.map dI⟩ 0)=true:=by rw[G0];exact oV rfl m1
  obtain⟨hb,hR⟩:=hm.sep 0 hy;have hA:(l.map dI).length=l.length:=zA ..;have r2:(φ 0).off+l.length*aI t<=c.size:=by rw[<-hA];exact r2
  have r3:hi<=lo\/hi<=(φ 0).off\/(φ 0).off+l.length*aI t<=lo:=by rw[<-hA];exact r3
  have WZ:(⟨(φ 0).block,(φ 0).off,none⟩:Addr)=φ 0:=(NJ m1).symm.trans (H7 m1);have hH:HoldsK enc (aI t) w (φ 0).block (φ 0).off l.toArray:=by
   intro j hj;rw[size_flatK] at hj;have hj:j<l.length*aI t:=by simpa using hj
   have hG:j<ec.length:=by rw[hF,Tc hk];exact hj
   refine⟨?_,?_⟩
   ·rw[m3 j hG];have:=qn7 hk l j hj;rw[<-hF,ze hG] at this;exact this
   ·rw[World.frozen?,r1];simp only[Bool.and_eq_false_iff,decide_eq_false_iff_not];omega
  have hd:=hs (φ 0).block (φ 0).off cap l.toArray w hH hb (by simpa using hl);rw[WZ] at hd;have W0:l.toArray.size=l.length:=List.size_toArray ..;rw[W0] at hd;refine Calls.mono hd fun e w' ⟨e1,n,os,e2⟩=>?_;subst e1;have etl:l.toArray.toList=l:=rfl;rw[etl] at e2;obtain⟨q1,q2,q3⟩:=qhv (enc:=enc) (k:=aI t) (off:=(φ 0).off) (n:=n) (d:=(gr l).toArray) (os:=os) hb;rw[<-e2] at q1 q2 q3;have q3:=q3 c el (lo,hi) r1;have hq:(gr l).length=l.length:=hv l;have hB:(putCells id (φ 0).off (flatK enc (aI t) (gr l).toArray) c).size=c.size:=by simp[putCells]
  have he:∀m,room w (φ 0) m->room w' (φ 0) m:=by intro m ⟨c',Io,uy,hS,h1,h2,h3⟩;rw[r1] at h1;injection h1 with h1;injection h1 with h4 h5 h6;injection h6 with h6 h7;subst h4 h5 h6 h7;exact⟨_,_,lo,hi,q3,by rw[hB];exact h2,h3⟩
  have hN:tw w w':=by rw[e2];exact⟨rfl,rfl⟩
  have hc:Comes C X φ φ (fJ (t:=t) ⟨false,l.map dI⟩) [(0,.vec t 0 false ⟨false,(gr l).map dI⟩)] w w' .undef undef:=by
   have hC:ar (fJ (t:=t) ⟨false,l.map dI⟩) [(0,.vec t 0 false ⟨false,(gr l).map dI⟩)] 0=.vec t 0 false ⟨false,(gr l).map dI⟩:=by rw[Te];rfl
   have hu:∀i,i∈bO [((0:Nat),Obj.vec t 0 false ⟨false,(gr l).map dI⟩)]->i=0:=fun i hi=>by simpa[bO] using hi
   refine Comes.make hm q1 (fun b hb hh=>q2 b hb fun e=>hh ⟨0,by simp[bO],hy,e.symm⟩) (fun _ _=>rfl) (fun _ _ _=>rfl) (fun i hf=>?_) (fun i hf h=>?_) (fun i j hf hO _ _ _ _=>?_) (fun h1 h2 h3 i hf=>?_) (fun i hf=>?_) (fun _ _ _=>rfl) hN
   ·rw[hu i hf,hC,G0];exact .inr ⟨rfl,rfl,rfl,by simp[hq],rfl,fun _=>⟨rfl,fun _ _ m=>he m⟩⟩
   ·rw[hu i hf];exact .inr ⟨hy,rfl⟩
   ·rw[hu i hf,hu j hO]
   ·rw[hu i hf,hC];refine⟨(by rw[zA,hq,<-hA];exact k1),(fun h=>by cases h),fun _=>.inl ⟨m1,_,(Td (fun x cs=>hrel _ _ x cs) (gr l) _).2 rfl,fun j hj=>?_,he 0 m4,fun _=>?_,(fun h=>by cases h)⟩⟩
    ·rw[Tc hk,hq] at hj;have hg:=qn7 hk (gr l) j (by rw[hq];exact hj);rw[ze (by rw[Tc hk,hq];exact hj)] at hg;injection hg with hg;rw[hg];rw[World.cell?];simp only;rw[q3];simp only;have hP:(φ 0).off+j<c.size:=om
     rw[if_neg dc];show(putCells id (φ 0).off (flatK enc (aI t) (gr l).toArray) c)[(φ 0).off+j]?=_;unfold putCells;rw[Array.getElem?_mapIdx,Array.getElem?_eq_getElem hP,Option.map_some];have hQ:(flatK enc (aI t) (gr l).toArray).size=l.length*aI t:=by rw[size_flatK];simp[hq]
     rw[if_pos ⟨by omega,by rw[hQ];omega⟩];have:(φ 0).off+j-(φ 0).off=j:=om
     rw[this];rfl
    ·show room w' (φ 0) (((gr l).map dI).length*aI t);rw[zA,hq];exact he _ ⟨c,el,lo,hi,r1,r2,r3⟩
   ·rw[hu i hf,hC];exact fun h=>absurd h ht
  have hI:=hc.mem;have hh:=(cW.refl [0] φ (fJ (t:=t) ⟨false,l.map dI⟩) w).step hc;rw[Te] at hI hh;exact⟨[],φ,X,rfl,fun _ h=>h,hI,rfl,hh⟩
theorem Tf{α β:Type}{enc:α->Value}{dI:α->β}{R:β->List Value->Prop}:∀(l:List α) (_hrel:∀x,x∈l->∀cs,R (dI x) cs↔cs=[enc x]) (ec:List Value),bD R (l.map dI) ec↔ec=l.map enc
 |[],_,ec=>Iff.rfl
 |x::r,hrel,ec=>by
  simp only[zI];constructor
  ·rintro⟨c,d,e,h1,h2⟩;rw[e,(hrel x (zj ..) c).1 h1,(Tf r (fun y hy=>hrel y (zm _ hy)) d).1 h2];rfl
  ·intro e;exact⟨[enc x],r.map enc,e,(hrel x (zj ..) _).2 rfl,(Tf r (fun y hy=>hrel y (zm _ hy)) _).2 rfl⟩
theorem qgr{α:Type}[Inhabited α]{enc:α->Value}{w:World}{eg off n:Nat}{d:Array α}{os:Array Go.Obj}(hb:eg<w.heap.size):w.heap.size<=(grow (putRow enc (Sort.ahead w n) eg off d) os).heap.size/\(∀b,b<w.heap.size->b≠eg->(grow (putRow enc (Sort.ahead w n) eg off d) os).heap[b]?=w.heap[b]?)/\(∀c el fz,w.heap[eg]?=some (.cells c el fz)->(grow (putRow enc (Sort.ahead w n) eg off d) os).heap[eg]?=some (.cells (putCells enc off d c) el fz)):=by
 have hd:(putRow enc (Sort.ahead w n) eg off d).heap.size=w.heap.size:=Go.Proofs.size_putRow _ _ _ _ _;have hc:∀b,b<w.heap.size->(grow (putRow enc (Sort.ahead w n) eg off d) os).heap[b]?=(putRow enc (Sort.ahead w n) eg off d).heap[b]?:=by intro b hb;show((putRow enc (Sort.ahead w n) eg off d).heap++os)[b]?=_;rw[Array.getElem?_append_left (by rw[hd];exact hb)]
 refine⟨?_,fun b hb he=>?_,fun c el fz h=>?_⟩
 ·show w.heap.size<=((putRow enc (Sort.ahead w n) eg off d).heap++os).size;rw[Array.size_append,hd];exact Nat.le_add_right _ _
 ·rw[hc b hb];show(w.heap.modify eg _)[b]?=_;rw[Array.getElem?_modify,if_neg (Ne.symm he)]
 ·rw[hc eg hb];show(w.heap.modify eg _)[eg]?=_;rw[Array.getElem?_modify,if_pos rfl,h];rfl
def z1h(f:Nat)(t:Ty):jY:=⟨f,⟨[.aX 0],[.vec t]⟩,⟨[],[.vec t]⟩,[0]⟩
theorem qxi{C:Cx}{f:Nat}{t:Ty}{α:Type}[Inhabited α](enc:α->Value)(dI:α->den t)(P:α->Prop)(gr:List α->List α)(ht:t≠.int .u8)(hD:aI t=1)(hrel:∀imm w x,P x->∀cs,az imm w t (dI x) cs↔cs=[enc x])(hk:∀l,(gr l).length=l.length)(hu:∀l x,x∈gr l->x∈l)(hJ:∃fn,C.P.funcs[f]?=some fn/\fn.body.isNone=false)(h0:∀p cap w,Calls C.P f #[.slice p 0 cap] w fun e w'=>e=.returned (.tuple #[])/\w'=w)(hs:∀eg off cap (l:List α) w,Holds enc w eg off l.toArray->eg<w.heap.size->l.length<4611686018427387904->Calls C.P f #[.slice (some ⟨eg,off,none⟩) l.length cap] w fun e w'=>e=.returned (.tuple #[])/\∃n os,w'=grow (putRow enc (Sort.ahead w n) eg off (gr l).toArray) os)(nil:Bool)(l:List α)(hP:∀x,x∈l->P x)(hl:l.length<4611686018427387904):tG C (z1h f t) (⟨nil,l.map dI⟩,()) (⟨nil,(gr l).map dI⟩,()):=by
 intro X φ w zs hm hz;have hm:MRel C X φ (fJ ⟨nil,l.map dI⟩) w:=hm;have hz:bV φ (fJ ⟨nil,l.map dI⟩) (ah X φ (fJ ⟨nil,l.map dI⟩) w) w [.aX 0 0] zs:=hz;refine⟨hJ,?_⟩;obtain⟨z0,r0,rfl,g1,g3⟩:=hz;have g3:r0=[]:=g3;subst g3;have ho:=hm.aw 0;rw[G0] at ho;obtain⟨k1,k2,k3⟩:=ho;unfold av at g1;rw[G0] at g1;have g1:=g1.2 rfl;show Calls C.P f [z0].toArray w _;by_cases hE:l=[]
 ·subst hE;have hv:gr []=[]:=List.length_eq_zero_iff.1 (by rw[hk];rfl);have hw:∃p cap,z0=.slice p 0 cap:=by
   rcases g1 with ⟨_,e⟩|⟨_,cap,e,_⟩
   ·exact⟨_,_,e⟩
   ·exact⟨_,_,e⟩
  obtain⟨p,cap,rfl⟩:=hw;refine Calls.mono (h0 p cap w) fun e w' ⟨e1,e2⟩=>?_;subst e1 e2;rw[hv];exact⟨[],φ,X,rfl,fun _ h=>h,hm,rfl,cW.refl _ _ _ _⟩
 ·have hF:l.map dI≠[]:=fun e=>hE (List.map_eq_nil_iff.1 e);have hn:nil=false:=by
   cases nil with
   |false=>rfl
   |true=>exact absurd (k2 rfl) hF
  subst hn;obtain⟨m1,ec,m2,m3,m4,m5,_⟩:=(k3 rfl).resolve_right fun g=>hF g.2.1;have hG:ec=l.map enc:=(Tf l (fun x hx cs=>hrel _ _ x (hP x hx) cs) ec).1 m2;obtain⟨cap,hw,hK⟩:∃cap,z0=.slice (some (φ 0)) l.length cap/\l.length<=cap:=by
   rcases g1 with ⟨e,_⟩|⟨_,cap,e,h1,h2,h3⟩
   ·cases e
   ·rw[H7 m1,zA] at e;rw[zA] at h1;exact⟨cap,e,h1⟩
  subst hw;obtain⟨c,el,lo,hi,r1,r2,r3⟩:=m5 rfl;have hy:aV (φ 0) (fJ (t:=t) ⟨false,l.map dI⟩ 0)=true:=by rw[G0];exact oV rfl m1
  obtain⟨hb,hR⟩:=hm.sep 0 hy;have hA:(l.map dI).length=l.length:=zA ..;have r2:(φ 0).off+l.length*aI t<=c.size:=by rw[<-hA];exact r2
  have r3:hi<=lo\/hi<=(φ 0).off\/(φ 0).off+l.length*aI t<=lo:=by rw[<-hA];exact r3
  rw[hD,Nat.mul_one] at r2 r3;have WZ:(⟨(φ 0).block,(φ 0).off,none⟩:Addr)=φ 0:=(NJ m1).symm.trans (H7 m1);have hH:Holds enc w (φ 0).block (φ 0).off l.toArray:=by
   intro j hj;have hj:j<l.length:=by simpa using hj
   have hL:j<ec.length:=by rw[hG,zA];exact hj
   refine⟨?_,?_⟩
   ·rw[m3 j hL];have e1:(l.toArray)[j]! =l[j]:=by simp[hj]
    rw[e1];simp[hG]
   ·rw[World.frozen?,r1];simp only[Bool.and_eq_false_iff,decide_eq_false_iff_not];omega
  have hf:=hs (φ 0).block (φ 0).off cap l w hH hb hl;rw[WZ] at hf;refine Calls.mono hf fun e w' ⟨e1,n,os,e2⟩=>?_;subst e1;obtain⟨q1,q2,q3⟩:=qgr (enc:=enc) (off:=(φ 0).off) (n:=n) (d:=(gr l).toArray) (os:=os) hb;rw[<-e2] at q1 q2 q3;have q3:=q3 c el (lo,hi) r1;have hq:(gr l).length=l.length:=hk l;have hB:(putCells enc (φ 0).off (gr l).toArray c).size=c.size:=by simp[putCells]
  have hd:∀m,room w (φ 0) m->room w' (φ 0) m:=by intro m ⟨c',Io,uy,hS,h1,h2,h3⟩;rw[r1] at h1;injection h1 with h1;injection h1 with h4 h5 h6;injection h6 with h6 h7;subst h4 h5 h6 h7;exact⟨_,_,lo,hi,q3,by rw[hB];exact h2,h3⟩
  have hM:tw w w':=by rw[e2];exact⟨rfl,rfl⟩
  have hc:Comes C X φ φ (fJ (t:=t) ⟨false,l.map dI⟩) [(0,.vec t 0 false ⟨false,(gr l).map dI⟩)] w w' .undef undef:=by
   have hC:ar (fJ (t:=t) ⟨false,l.map dI⟩) [(0,.vec t 0 false ⟨false,(gr l).map dI⟩)] 0=.vec t 0 false ⟨false,(gr l).map dI⟩:=by rw[Te];rfl
   have hg:∀i,i∈bO [((0:Nat),Obj.vec t 0 false ⟨false,(gr l).map dI⟩)]->i=0:=fun i hi=>by simpa[bO] using hi
   refine Comes.make hm q1 (fun b hb hh=>q2 b hb fun e=>hh ⟨0,by simp[bO],hy,e.symm⟩) (fun _ _=>rfl) (fun _ _ _=>rfl) (fun i he=>?_) (fun i he h=>?_) (fun i j he hN _ _ _ _=>?_) (fun h1 h2 h3 i he=>?_) (fun i he=>?_) (fun _ _ _=>rfl) hM
   ·rw[hg i he,hC,G0];exact .inr ⟨rfl,rfl,rfl,by simp[hq],rfl,fun _=>⟨rfl,fun _ _ m=>hd m⟩⟩
   ·rw[hg i he];exact .inr ⟨hy,rfl⟩
   ·rw[hg i he,hg j hN]
   ·rw[hg i he,hC];refine⟨(by rw[zA,hq,<-hA];exact k1),(fun h=>by cases h),fun _=>.inl ⟨m1,_,(Tf (gr l) (fun x hx cs=>hrel _ _ x (hP x (hu l x hx)) cs) _).2 rfl,fun j hj=>?_,hd 0 m4,fun _=>?_,(fun h=>by cases h)⟩⟩
    ·rw[zA,hq] at hj;rw[World.cell?];simp only;rw[q3];simp only;have hO:(φ 0).off+j<c.size:=om
     rw[if_neg dc];show(putCells enc (φ 0).off (gr l).toArray c)[(φ 0).off+j]?=_;unfold putCells;rw[Array.getElem?_mapIdx,Array.getElem?_eq_getElem hO,Option.map_some];rw[if_pos ⟨by omega,by simp[hq];omega⟩];have e4:(φ 0).off+j-(φ 0).off=j:=om
     rw[e4];have hQ:j<(gr l).length:=om
     have e1:((gr l).toArray)[j]! =(gr l)[j]:=by simp[hQ]
     rw[e1];simp
    ·show room w' (φ 0) (((gr l).map dI).length*aI t);rw[zA,hq,hD,Nat.mul_one];exact hd _ ⟨c,el,lo,hi,r1,r2,r3⟩
   ·rw[hg i he,hC];exact fun h=>absurd h ht
  have hI:=hc.mem;have hh:=(cW.refl [0] φ (fJ (t:=t) ⟨false,l.map dI⟩) w).step hc;rw[Te] at hI hh;exact⟨[],φ,X,rfl,fun _ h=>h,hI,rfl,hh⟩
end Ev
namespace Ev
open Go Go.Shelf Go.RowKit Go.Proofs Go.Lib
variable {P:Program} {ρ:Shelf.Ren}
theorem qj0:∀l:List UInt8,countByte l 45=0->qM l=l
 |[],_=>rfl
 |b::l,h=>by
  unfold countByte at h;have hb:b≠45:=fun e=>by rw[e,List.count_cons_self] at h;omega
  rw[List.count_cons_of_ne (fun e=>hb e)] at h;unfold qM;rw[if_neg hb,qj0 l h]
theorem qj1:∀l:List UInt8,countByte l 45≠0->∃i:Nat,indexByte l 45=(i:Int)/\i<l.length/\qM l=l.take i++([126]++l.drop (i+1))
 |[],h=>absurd rfl h
 |b::l,h=>by
  by_cases hb:b=45
  ·subst hb;exact⟨0,rfl,by simp,by unfold qM;simp⟩
  ·unfold countByte at h;rw[List.count_cons_of_ne (fun e=>hb e)] at h;obtain⟨i,h1,h2,h3⟩:=qj1 l h;refine⟨i+1,?_,by simp only[zf];omega,?_⟩
   ·unfold indexByte;have e1:(b==45)=false:=beq_eq_false_iff_ne.2 hb;have e2:((i:Int)==-1)=false:=beq_eq_false_iff_ne.2 om;rw[h1,e1,e2];rfl
   ·unfold qM;rw[if_neg hb,h3];rfl
theorem z4h:(⟨#[45]⟩:ByteArray)≠⟨#[126]⟩:=by intro h;injection h with h;exact absurd h dc
theorem z1i(L:Lays.n154 P ρ)(s:ByteArray)(w:World)(hc:countByte s.data.toList 45=0):Calls P (ρ.f 154) #[.string s,.string ⟨#[45]⟩,.string ⟨#[126]⟩,.int .i64 1] w fun e w'=>e=.returned (.string s)/\w'=w:=by
 have hC:=Any.strings_Count_one {L with} s 45 w;rw[hc] at hC;have hd:=(Lib.bytes_beq_false_iff (⟨#[45]⟩:ByteArray) ⟨#[126]⟩).2 z4h;have t3:=L.t3;have a3:=L.a3;have z3:=L.z3;have v3:=L.v3;have t9:=L.t9;have a9:=L.a9;have z9:=L.z9;have v9:=L.v9;have t4:=L.t4;have a4:=L.a4;have z4:=L.z4;have v4:=L.v4;have W1:∀args w,(callFunc (ρ.f 138) args).run P w=.ok (.enter (ρ.f 138) args) w:=enters_of L.f138 (by kernel_rfl) rfl
 go_enter L.f154,Body.n154_ntmps ρ
 go_wp2_with (first|(go_at_fn (ρ.f 138);refine hC.mono ?_;rintro e w' ⟨rfl,hw⟩;rw[hw]))
 go_ret
 exact⟨rfl,rfl⟩
theorem uR{p:Prop}(h:p):Hid p:=h
set_option maxHeartbeats 4000000 in
set_option maxRecDepth 1000000 in
theorem z1j(L:Lays.n154 P ρ)(X:Builder.Extra P ρ)(s:ByteArray)(w:World)(hs:s.size<=1000)(hn:countByte s.data.toList 45≠0):Calls P (ρ.f 154) #[.string s,.string ⟨#[45]⟩,.string ⟨#[126]⟩,.int .i64 1] w fun e w'=>e=.returned (.string ⟨(qM s.data.toList).toArray⟩)/\Below w.heap.size w w':=by
 have hC:=Any.strings_Count_one {L with} s 45 w;obtain⟨i,hy,hz,ho⟩:=qj1 s.data.toList hn;obtain⟨cn,hA⟩:∃cn:Nat,countByte s.data.toList 45=cn:=⟨_,rfl⟩;rw[hA] at hC hn;have hj:s.data.toList.length=s.size:=(Lib.size_eq s).symm;rw[hj] at hz;have HI3:=uR ho;clear ho;have hB:=(Lib.bytes_beq_false_iff (⟨#[45]⟩:ByteArray) ⟨#[126]⟩).2 z4h;have hG:((cn:Int)==0)=false:=beq_eq_false_iff_ne.2 om;have hH:¬((cn:Int)<1):=om
 have mixed:=L.mixed;have t72:=L.t72;have a72:=L.a72;have z72:=L.z72;have v72:=L.v72;have u72:=run_underlying L.t72;have t70:=L.t70;have a70:=L.a70;have z70:=L.z70;have v70:=L.v70;have u70:=run_underlying L.t70;have t37:=L.t37;have a37:=L.a37;have z37:=L.z37;have v37:=L.v37;have u37:=run_underlying L.t37;have t3:=L.t3;have a3:=L.a3;have z3:=L.z3;have v3:=L.v3;have u3:=run_underlying L.t3;have t9:=L.t9;have a9:=L.a9;have z9:=L.z9;have v9:=L.v9;have u9:=run_underlying L.t9;have t4:=L.t4;have a4:=L.a4;have z4:=L.z4;have v4:=L.v4;have u4:=run_underlying L.t4;have W1:∀args w,(callFunc (ρ.f 138) args).run P w=.ok (.enter (ρ.f 138) args) w:=enters_of L.f138 (by kernel_rfl) rfl;have acG:∀args w,(callFunc (ρ.f 143) args).run P w=.ok (.enter (ρ.f 143) args) w:=enters_of L.f143 (by kernel_rfl) rfl;have acH:∀args w,(callFunc (ρ.f 165) args).run P w=.ok (.enter (ρ.f 165) args) w:=enters_of L.f165 (by kernel_rfl) rfl;have acI:∀args w,(callFunc (ρ.f 166) args).run P w=.ok (.enter (ρ.f 166) args) w:=enters_of L.f166 (by kernel_rfl) rfl;have acJ:∀args w,(callFunc (ρ.f 169) args).run P w=.ok (.enter (ρ.f 169) args) w:=enters_of L.f169 (by kernel_rfl) rfl
 go_enter L.f154,Body.n154_ntmps ρ
 go_wp2_with (first|(go_at_fn (ρ.f 138);refine hC.mono ?_;rintro e w' ⟨rfl,hw⟩;rw[hw]))
 refine(Any.Builder_Grow_fresh {L with} X w.heap.size w.heap.size s.size _ (Nat.le_refl _) (heap_alloc_new w _) (by simp) om).mono ?_;rintro e w1 ⟨rfl,hq,ht⟩;have H1:=uR (Or.inr hq:Lib.IsBuilder (ρ.t 72) (ρ.t 5) w.heap.size w.heap.size (Lib.byteCells []) w1);have Hb1:=uR (((Below.refl w.heap.size w).alloc (Nat.le_refl _) _).trans ht);clear hq ht hC
 go_wp2_with fail
 go_loopg [11,53] 1 (fun g s11 s53 wx=>∃(k start:Nat) (acc:List UInt8),s53=.int .i64 k/\s11=.int .i64 start/\k+g=1/\Hid (Lib.IsBuilder (ρ.t 72) (ρ.t 5) w.heap.size w.heap.size (Lib.byteCells acc) wx)/\
  Hid (Below w.heap.size w wx)/\start<=s.size/\acc.length<=1000/\Hid ((g=1/\start=0/\acc=[])\/(g=0/\start=i+1/\acc=s.data.toList.take i++[126])))
 case atStart=>exact⟨0,0,[],rfl,rfl,rfl,H1,Hb1,Nat.zero_le _,Nat.zero_le _,uR (.inl ⟨rfl,rfl,rfl⟩)⟩
 case round=>
  obtain⟨k,start,acc,rfl,rfl,hI,HB,HW,hJ,hD,HR⟩:=hrel;have hl:w.heap.size<=wr.heap.size:=HW.out.size;have c1:(0:Int)<=(start:Int):=om
  have c2:(start:Int)<=(s.size:Int):=om
  cases gk with
  |zero=>
   have hE:¬((k:Int)<1):=om
   go_wp2_with fail
   obtain⟨hc,hm⟩:start=i+1/\acc=s.data.toList.take i++[126]:=by
    rcases HR.out with ⟨h,_⟩|⟨_,h1,h2⟩
    ·exact absurd h dc
    ·exact⟨h1,h2⟩
   refine(Any.Builder_WriteString {L with} X w.heap.size w.heap.size _ _ wr HB.out (by rw[Lib.byteCells_length,ByteArray.size_extract];omega) hl).mono ?_;rintro e w3 ⟨rfl,h3,hf⟩;have hk:acc++s.data.toList.drop start=qM s.data.toList:=by rw[hm,hc,HI3.out,zC]
   rw[Lib.strCells_eq,Lib.extract_to_end,<-Lib.byteCells_append,hk] at h3;have H3:=uR (Or.inr h3:Lib.IsBuilder (ρ.t 72) (ρ.t 5) w.heap.size w.heap.size (Lib.byteCells (qM s.data.toList)) w3);have Tg:=uR (HW.out.trans hf);have he:w.heap.size<=w3.heap.size:=Tg.out.size;clear h3 hf hk
   go_wp2_with fail
   refine(Any.Builder_String_any {L with} X w.heap.size w.heap.size _ w3 H3.out he).mono ?_;rintro e w5 ⟨rfl,hu⟩;have Hb5:=uR (Tg.out.trans hu);clear hu
   go_wp2
   go_ret
   exact⟨rfl,Hb5.out⟩
  |succ g=>
   have hE:(k:Int)<1:=om
   obtain⟨hg,hc,hm⟩:g=0/\start=0/\acc=[]:=by
    rcases HR.out with ⟨h,h1,h2⟩|⟨h,_⟩
    ·exact⟨by omega,h1,h2⟩
    ·exact absurd h om
   subst hg hc hm;have hF:k=0:=om
   subst hF;have c3:(0:Int)<=(i:Int):=om
   have c4:(i:Int)<=(s.size:Int):=om
   go_wp2_with (first|(go_at_fn (ρ.f 143);refine(Any.strings_Index_one {L with} _ 45 _).mono ?_;rintro e w' ⟨rfl,hw⟩;rw[hw,hy]))
   refine(Any.Builder_WriteString {L with} X w.heap.size w.heap.size _ (s.extract 0 i) wr HB.out (by rw[Lib.byteCells_length,ByteArray.size_extract];simp only[List.length_nil];omega) hl).mono ?_;rintro e w3 ⟨rfl,h3,hf⟩;have he:w.heap.size<=w3.heap.size:=Nat.le_trans hl hf.size;have H3:=uR h3;have Tg:=uR hf;clear h3 hf
   go_wp2_with fail
   refine(Any.Builder_WriteString {L with} X w.heap.size w.heap.size _ ⟨#[126]⟩ w3 (Or.inr H3.out) (by rw[zh,Lib.byteCells_length,Lib.strCells_length,ByteArray.size_extract];simp only[List.length_nil];have:(⟨#[126]⟩:ByteArray).size=1:=rfl;omega) he).mono ?_;rintro e w4 ⟨rfl,h4,hv⟩;have hd:Lib.byteCells []++Lib.strCells (s.extract 0 i)++Lib.strCells ⟨#[126]⟩=Lib.byteCells (s.data.toList.take i++[126]):=by rw[Lib.strCells_eq,Lib.strCells_eq,Lib.extract_data,Nat.sub_zero,List.drop_zero,<-Lib.byteCells_append,<-Lib.byteCells_append];rfl
   rw[hd] at h4;have H4:=uR (Or.inr h4:Lib.IsBuilder (ρ.t 72) (ρ.t 5) w.heap.size w.heap.size (Lib.byteCells (s.data.toList.take i++[126])) w4);have Hb4:=uR ((HW.out.trans Tg.out).trans hv);have hx:(s.data.toList.take i++[126]).length<=1000:=by rw[zh,zJ,List.length_singleton];omega
   have HL:=uR hx;clear h4 hv hd hx
   go_wp2
   go_roundg 0
   case measure=>omega
   case rel=>exact⟨1,i+1,_,by first|rfl|(simp;unfold wrap64;omega),by first|rfl|simp|(simp;unfold wrap64;omega),rfl,H4,Hb4,by omega,HL.out,uR (.inr ⟨rfl,rfl,rfl⟩)⟩
theorem z1k(L:Lays.n154 P ρ)(X:Builder.Extra P ρ)(s:ByteArray)(w:World)(hs:s.size<=1000):Calls P (ρ.f 154) #[.string s,.string ⟨#[45]⟩,.string ⟨#[126]⟩,.int .i64 1] w fun e w'=>e=.returned (.string ⟨(qM s.data.toList).toArray⟩)/\Below w.heap.size w w':=by
 by_cases hc:countByte s.data.toList 45=0
 ·refine(z1i L s w hc).mono fun e w' ⟨h1,h2⟩=>⟨?_,h2▸Below.refl _ _⟩;rw[h1,qj0 _ hc,Array.toArray_toList]
 ·exact z1j L X s w hs hc
end Ev