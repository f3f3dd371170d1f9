/- The calls of strings.Builder, slices.Sort, slices.Grow, strings.Replace. -/
import Derived.Test.YtdgmbemagoakjaaGreatDoorEvI
import Derived.Shelf.Strings.Builder1
import Derived.Shelf.SlSortCmp.NoneTotal
import Derived.Shelf.Slices.In.SortNone
import Derived.Shelf.Strings.Replace
set_option linter.defProp false
namespace Ev
open Go
def zkh(f:Nat):lr:=⟨f,⟨[.ptr 0 0],[.box [.cX 0,.aY 1],.vec (.int .u8)]⟩,⟨[],[.box [.cX 0,.aY 1],.vec (.int .u8)]⟩,[0,1]⟩
def fJ(b:Bool)(s:Sl (den (.int .u8))):Nat->Obj:=aq (fun _=>Obj.none) [(0,.box [.cX 0 b,.aY 1 0]),(1,.vec (.int .u8) 0 false s)]
def ziw{b:Bool}{s:Sl (den (.int .u8))}:fJ b s 0=.box [.cX 0 b,.aY 1 0]:=rfl
def z7o{b:Bool}{s:Sl (den (.int .u8))}:fJ b s 1=.vec (.int .u8) 0 false s:=rfl
def z7p{b:Bool}{s:Sl (den (.int .u8))}:aq (fJ b s) [(0,.box [.cX 0 true,.aY 1 0])]=fJ true s:=by
 funext id;show cy (fJ b s) 0 _ id=_;by_cases h:id=0
 ·subst h;rw[eQ];rfl
 ·rw[jI h];show cy (cy _ 0 _) 1 _ id=cy (cy _ 0 _) 1 _ id;by_cases h1:id=1
  ·subst h1;rw[eQ,eQ]
  ·rw[jI h1,jI h1,jI h,jI h]
def zen{C:Cx}{X:Nat->Prop}{φ:Nat->Addr}{w:World}{b:Bool}{s:Sl (den (.int .u8))}(hm:MRel C X φ (fJ b s) w):(φ 0).off=0/\∃c z lo hi,w.heap[(φ 0).block]?=some (.cells c C.mf (lo,hi))/\hi<=lo/\c=#[.pointer (bif b then some ⟨(φ 0).block,0,none⟩ else none),z]/\ay φ (fJ b s) (aj X φ (fJ b s) w) w (.aY 1 0) z:=by
 have ho:=hm.aw 0;have he:=hm.rK 0;rw[ziw] at ho he;obtain⟨h0,c,el,lo,hi,h1,h2,z0,r,e1,h3,z1,r1,e2,h4,h5⟩:=ho;obtain⟨c',L3,fz,h6,h7⟩:=he rfl;rw[h6] at h1;injection h1 with h1;injection h1 with g1 g2 g3;have h5:r1=[]:=h5;have hc:L3=C.mf:=by
  rcases h7 with h7|h7
  ·exact h7.1
  ·exfalso;have:c'.size=2:=by rw[g1,<-Array.length_toList,e1,e2,h5];rfl
   omega
 subst hc;have h3:z0=.pointer (bif b then some ⟨(φ 0).block,(φ 0).off,none⟩ else none):=h3
 grind
def zix{C:Cx}{f:Nat}(hl:∃fn,C.P.funcs[f]?=some fn/\fn.body.isNone=false)(hu:∀(b:Nat) (w:World),w.cell? ⟨b,0,none⟩=some (.pointer (some ⟨b,0,none⟩))->Calls C.P f #[.pointer (some ⟨b,0,none⟩)] w fun e w'=>e=.returned (.tuple #[])/\w'=w)(hf:∀(b:Nat) (w:World),w.cell? ⟨b,0,none⟩=some (.pointer none)->w.shape? b=some (C.mf,2)->w.frozen? ⟨b,0,none⟩=false->Calls C.P f #[.pointer (some ⟨b,0,none⟩)] w fun e w'=>e=.returned (.tuple #[])/\w'=w.setCell ⟨b,0,none⟩ (.pointer (some ⟨b,0,none⟩)))(b:Bool)(s:Sl (den (.int .u8))):xG C (zkh f) (b,s,()) (true,s,()):=by
 intro X φ w zs hm hz;have hm:MRel C X φ (fJ b s) w:=hm;have hz:ck φ (fJ b s) (aj X φ (fJ b s) w) w [.ptr 0 0] zs:=hz;refine⟨hl,?_⟩;obtain⟨h0,c,z,lo,hi,h1,h2,rfl,h3⟩:=zen hm;obtain⟨z0,r,rfl,g1,g2⟩:=hz;have g2:r=[]:=g2;have g1:z0=.pointer (some ⟨(φ 0).block,(φ 0).off+0,none⟩):=g1;rw[h0] at g1;subst g1 g2;cases b with
 |true=>refine Calls.mono (hu (φ 0).block w (by rw[World.cell?,h1];rfl)) fun e w' ⟨e1,e2⟩=>?_;subst e1 e2;exact⟨[],φ,X,rfl,fun _ h=>h,hm,rfl,dC.refl _ _ _ _⟩
 |false=>
  refine Calls.mono (hf (φ 0).block w (by rw[World.cell?,h1];rfl) (by rw[World.shape?,h1];rfl) ?_) fun e w' ⟨e1,e2⟩=>?_
  ·rw[World.frozen?,h1]
   grind
  ·subst e1;have he:w'.heap[(φ 0).block]?=some (.cells #[.pointer (some ⟨(φ 0).block,0,none⟩),z] C.mf (lo,hi)):=by rw[e2];simp[World.setCell,Array.getElem?_modify,h1]
   have hg:∀b,b≠(φ 0).block->w'.heap[b]?=w.heap[b]?:=fun b hb=>by rw[e2];simp[World.setCell,Array.getElem?_modify,Ne.symm hb]
   have hj:aV (φ 0) (fJ false s 0)=true:=rfl;have hc:Comes C X φ φ (fJ false s) [(0,.box [.cX 0 true,.aY 1 0])] w w' .undef undef:=by refine Comes.write hm (.box [.cX 0 true,.aY 1 0]) (fun _=>hj) (by rw[e2];simp[World.setCell]) (fun b hb=>hg b fun e=>hb ⟨hj,e.symm⟩) rfl (fun a1 a2 a3=>?_) (fun _=>⟨_,_,_,he,.inl ⟨rfl,rfl⟩⟩) (fun _=>rfl) ⟨by rw[e2];rfl,by rw[e2];rfl⟩;refine⟨h0,_,C.mf,lo,hi,he,h2,_,_,rfl,?_,z,[],rfl,a3 _ _ h3,rfl⟩;show Value.pointer (some ⟨(φ 0).block,0,none⟩)=.pointer (some ⟨(φ 0).block,(φ 0).off,none⟩);rw[h0]
   have hk:=hc.mem;have hh:=(dC.refl [0,1] φ (fJ false s) w).step hc;rw[z7p] at hk hh;exact⟨[],φ,X,rfl,fun _ h=>h,hk,rfl,hh⟩
end Ev
namespace Ev
open Go Go.Shelf Go.RowKit Go.Proofs
def zgn{P:Program}{e u:TypeId}(he:P.underlying e=some (.int .u8))(hu:P.underlying u=some (.int .u8))(hc:P.cellsOf e=1)(count off n:Nat)(hn:off+n<=count):liesAt P P.depth e count off u n=true:=by have hd:P.depth=(2*(P.types.size+Made.depth)+1)+1:=rfl;rw[hd];simp only[liesAt,Bool.or_eq_true];left;rw[hd];simp[rowAt,hc,sameLayout,he,hu];omega
def q9a{P:Program}{w:World}(pt it ty u e:TypeId)(hp:P.underlying pt=some (.pointer u))(hu:P.underlying u=some (.int .u8))(he:P.underlying e=some (.int .u8))(hc:P.cellsOf e=1)(a:Addr)(cells:Nat)(hq:w.shape? a.block=some (e,cells))(l:List UInt8)(h0:l≠[])(hn:a.off+l.length<=cells)(hs:(l.length:Int)<=9223372036854775807)(hf:∀j x,l[j]?=some x->w.cell? (a.add j)=some (.int .u8 x.toNat)):(Builtin.unsafeString_ #[pt,it] ty #[.pointer (some a),.int .i64 l.length]).run P w=.ok (.string ⟨l.toArray⟩) (w.freeze a l.length):=by
 have hl:l.length≠0:=by simpa using h0
 have ht:=Lib.run_loadBytes (P:=P) w l a .empty hf;have hg:=zgn (P:=P) he hu hc (cells / P.cellsOf e) a.off l.length (by rw[hc];simpa using hn);have hj:¬(9223372036854775807:Int)<(l.length:Int):=om
 obtain ⟨sS1, sS2, sS3, hk⟩ : ∃ sS1 sS2 sS3 : String, Builtin.unsafeString_ #[pt,it] ty #[.pointer (some a),.int .i64 l.length]=
   (do
    let n <-Go.asInt (Value.int .i64 l.length)
    if n<0 then runtimePanic (.error sS1)
    if n>IntKind.i64.max then unsupported (.unsafePointer sS2)
    if n=0 then pure (.string .empty)
    else if <-variablesAt a (<-elemOf pt) n.toNat then do
     let s <-loadBytes a .empty n.toNat
     freeze a n.toNat
     pure (.string s)
    else unsupported (.unsafePointer sS3)) := ⟨_, _, _, rfl⟩
 rw[hk];have hm:IntKind.i64.max=9223372036854775807:=rfl;have ho:¬(l.length:Int)<0:=om
 simp[Go.asInt,asIntOf,hm,hj,ho,hl,variablesAt,hq,elemOf,run_underlying hp,hg,ht]
def BC(f:Nat):lr:=⟨f,⟨[.ptr 0 0],[.box [.cX 0,.aY 1],.vec (.int .u8)]⟩,⟨[.d .str],[.gone,.gone]⟩,[]⟩
structure qy8 (P:Program) (f sl pt it st u:Nat):Prop where
 walk:∀(b:Nat) (base q:Option Addr) (n cap:Nat) (bs:ByteArray) (w w2:World),w.drew.cell? ⟨b,1,none⟩=some (.slice base n cap)->
  (Builtin.unsafeSliceData_ #[sl] pt #[.slice base n cap]).run P w.drew=.ok (.pointer q) w.drew->
  (Builtin.unsafeString_ #[pt,it] st #[.pointer q,.int .i64 n]).run P w.drew=.ok (.string bs) w2->
  Calls P f #[.pointer (some ⟨b,0,none⟩)] w fun e w'=>e=.returned (.string bs)/\w'=w2
 Ci:∀(b:Nat) (a:Addr) (cs:Array Value) (el:TypeId) (fz:Nat×Nat) (w:World),w.heap[b]?=some (.cells cs el fz)->cs[1]?=some (.slice (some a) 0 0)->
  ∀(sh:TypeId×Nat),w.drew.shape? a.block=some sh->
  Calls P f #[.pointer (some ⟨b,0,none⟩)] w fun e w'=>e=.returned (.string .empty)/\w'=w.drew.alloc (.view a u)
def zgo{C:Cx}{f sl pt it st u:Nat}(W:qy8 C.P f sl pt it st u)(hK:C.P.underlying pt=some (.pointer u))(hL:∃fn,C.P.funcs[f]?=some fn/\fn.body.isNone=false)(hM:C.P.underlying u=some (.int .u8))(hk:∀el,C.P.underlying el=some (.int .u8)->C.P.cellsOf el=1)(b:Bool)(s:Sl (den (.int .u8))):xG C (BC f) (b,s,()) (s.l,()):=by
 intro Y φ w zs hm hz;have hm:MRel C Y φ (fJ b s) w:=hm;have hz:ck φ (fJ b s) (aj Y φ (fJ b s) w) w [.ptr 0 0] zs:=hz;refine⟨hL,?_⟩;obtain⟨h0,c,z,lo,hi,h1,h2,rfl,h3⟩:=zen hm;obtain⟨z0,r,rfl,g1,g2⟩:=hz;have g2:r=[]:=g2;have g1:z0=.pointer (some ⟨(φ 0).block,(φ 0).off+0,none⟩):=g1;rw[h0] at g1;subst g1 g2
 have fin:∀(bs:ByteArray) (w':World),(bs.data.toList.map fun b=>(b.toNat:Int))=s.l->s.l.length<=cv->w.heap.size<=w'.heap.size->xB w w'->(∀b',b'<w.heap.size->¬oG φ (fJ b s) b'->w'.heap[b']?=w.heap[b']?)->
   ∃dS φ' X',Ending.returned (.string bs)=.returned (Cd dS)/\(∀b,Y b->X' b)/\MRel C X' φ' (ba (BC f).outs (s.l,())) w'/\
    ck φ' (ba (BC f).outs (s.l,())) (aj X' φ' (ba (BC f).outs (s.l,())) w') w' (fill cJ cd (BC f).outs (s.l,())).1 dS/\dC (BC f).bN φ (ba (BC f).ins (b,s,())) w φ' (ba (BC f).outs (s.l,())) w':=by
  intro bs w' hC hq hu ht he;have hc:∀id,ba (BC f).outs (s.l,()) id=.dead\/(fJ b s id=.none/\ba (BC f).outs (s.l,()) id=.none):=fun id=>by
   show cy (cy _ 0 _) 1 _ id=_\/(cy (cy _ 0 _) 1 _ id=_/\cy (cy _ 0 _) 1 _ id=_);by_cases h:id=1
   ·subst h;exact .inl rfl
   ·by_cases h':id=0
    ·subst h';exact .inl rfl
    ·refine .inr ⟨?_,?_⟩<;>rw[jI h,jI h']
  have hN:∀id a,aV a (ba (BC f).outs (s.l,()) id)=false:=fun id a=>by rcases hc id with h|⟨_,h⟩<;>rw[h]<;>rfl
  have hv:∀b',aj Y φ (fJ b s) w b'->aj Y φ (ba (BC f).outs (s.l,())) w' b':=fun b' hb=>⟨Nat.lt_of_lt_of_le hb.1 hu,hb.2.1,fun⟨id,e,_⟩=>by rw[hN id] at e;cases e⟩;refine⟨[.string bs],φ,Y,rfl,fun _ h=>h,⟨fun id=>?_,fun i j hi=>?_,fun i hi=>?_,fun b' hb=>Nat.lt_of_lt_of_le (hm.xs b' hb) hu,fun id=>?_,fun g t x hg=>?_,hm.pC (fun b' hb=>he b' hb.1 hb.2.2)⟩,⟨.string bs,[],rfl,LR hC ?_,rfl⟩,⟨hu,he,fun b' ⟨id,e,_⟩=>?_,ht,fun id hi=>by cases hi⟩⟩
  ·rcases hc id with h|⟨_,h⟩<;>rw[h]<;>trivial
  ·grind
  ·grind
  ·rcases hc id with h|⟨_,h⟩<;>rw[h]<;>trivial
  ·refine BA hv (fun b' hb=>he b' hb.1 hb.2.2) (fun id=>?_) _ _ (hm.fe g t x hg);rcases hc id with h|⟨h,h'⟩
   ·rw[h];cases fJ b s id<;>trivial
   ·rw[h];trivial
  ·rw[<-hC] at hq;simpa using hq
  grind
 have hD:=hm.aw 1;have hE:=hm.rK 1;rw[z7o] at hD hE;obtain⟨k1,k2,k3⟩:=hD;unfold ay at h3;rw[z7o] at h3;have cell:∀z',z=z'->w.drew.cell? ⟨(φ 0).block,1,none⟩=some z':=fun z' e=>by have:w.drew.heap[(φ 0).block]?=_:=h1;rw[World.cell?,this,e];rfl
 have ht:xB w w.drew:=⟨rfl,rfl⟩;have hs:(Builtin.unsafeString_ #[pt,it] st #[.pointer none,.int .i64 (0:Nat)]).run C.P w.drew=.ok (.string .empty) w.drew:=Lib.run_unsafeString_none w.drew _ _ _ none;rcases h3.2 rfl with ⟨hn,ho⟩|⟨hn,cap,ho,hO,hT,hF⟩
 ·have hl:=k2 hn;have:=W.walk (φ 0).block none none 0 0 .empty w w.drew (cell _ ho) (Lib.run_unsafeSliceData_nil _ _ _ _ _) hs;refine Calls.mono this fun e w' ⟨e1,e2⟩=>?_;subst e1 e2;exact fin .empty w.drew (by rw[hl];rfl) k1 (Nat.le_refl _) ht (fun _ _ _=>rfl)
 ·obtain⟨m1,ec,m2,m3,m4,m5,_⟩:=(k3 hn).resolve_right fun g=>g.2.2 rfl;rw[LO m1] at ho;obtain⟨c0,el,fz,q1,q2⟩:=hE rfl hn;have hG:w.drew.shape? (φ 1).block=some (el,c0.size):=by have:w.drew.heap[(φ 1).block]?=_:=q1;rw[World.shape?,this]
  have hw:oG φ (fJ b s) (φ 1).block:=⟨1,by rw[z7o];exact rX hn m1,rfl⟩;by_cases hl:s.l=[]
  ·have hP:s.l.length=0:=by rw[hl];rfl
   rw[hP] at ho;by_cases hH:cap=0
   ·subst hH;have:=W.Ci (φ 0).block (φ 1) _ C.mf (lo,hi) w h1 (by rw[ho];rfl) _ hG;refine Calls.mono this fun e w' ⟨e1,e2⟩=>?_;subst e1 e2;refine fin .empty _ (by rw[hl];rfl) k1 (by show w.heap.size<=(w.heap.push _).size;simp) ⟨rfl,rfl⟩ (fun b' hb _=>?_);exact Lib.alloc_old w.drew _ b' hb
   ·have:=W.walk (φ 0).block (some (φ 1)) (some (φ 1)) 0 cap .empty w w.drew (cell _ ho) (Lib.run_unsafeSliceData_row _ _ _ _ _ _ hH) (Lib.run_unsafeString_none w.drew _ _ _ _);refine Calls.mono this fun e w' ⟨e1,e2⟩=>?_;subst e1 e2;exact fin .empty w.drew (by rw[hl];rfl) k1 (Nat.le_refl _) ht (fun _ _ _=>rfl)
  ·obtain⟨u1,u2⟩:=Xm m2;have back:∀n:Int,0<=n->n<=255->(((UInt8.ofNat n.toNat).toNat:Nat):Int)=n:=by intro n h0 h1;rw[UInt8.toNat_ofNat',Nat.mod_eq_of_lt om];omega
   generalize hI:List.map (fun n:Int=>UInt8.ofNat n.toNat) s.l=l8;have hf:l8.length=s.l.length:=by rw[<-hI];simp
   have hy:l8.map (fun b=>(b.toNat:Int))=s.l:=by
    rw[<-hI,zS];have:∀l:List Int,(∀n,n∈l->0<=n/\n<=255)->List.map ((fun b:UInt8=>(b.toNat:Int))∘fun n:Int=>UInt8.ofNat n.toNat) l=l:=by
     intro l
     induction l with
     |nil=>intro _;rfl
     |cons a l ih=>simp_all
    exact this _ u2
   have hA:l8≠[]:=fun e=>hl (by rw[<-hy,e];rfl);have hQ:0<s.l.length:=List.length_pos_iff.2 hl;obtain⟨c5,el5,lo5,hU,r1,r2,r3⟩:=m5 rfl;rw[q1] at r1;injection r1 with r1;injection r1 with r4 r5 r6;subst r4;have hB:aM (.int .u8)=1:=rfl;rw[hB,Nat.mul_one] at r2;have hJ:=q9a (P:=C.P) (w:=w.drew) pt it st u el hK hM q2.1 (hk el q2.1) (φ 1) c0.size hG l8 hA (by rw[hf];exact r2) (by rw[hf];unfold cv at k1;omega) (fun j x hx=>by
    have hb:(s.l)[j]?=some (x.toNat:Int):=by rw[<-hy,zU,hx];rfl
    have hR:ec[j]?=some (.int .u8 (x.toNat:Int)):=by rw[u1,zU,hb];rfl
    obtain⟨hj,e⟩:=zE.1 hR;have:=m3 j hj;rw[e] at this;rw[vu m1];exact this)
   rw[hf] at hJ;have:=W.walk (φ 0).block (some (φ 1)) (some (φ 1)) s.l.length cap ⟨l8.toArray⟩ w (w.drew.freeze (φ 1) s.l.length) (cell _ ho) (Lib.run_unsafeSliceData_row _ _ _ _ _ _ om) hJ;refine Calls.mono this fun e w' ⟨e1,e2⟩=>?_;subst e1 e2;refine fin ⟨l8.toArray⟩ _ (by simpa using hy) k1 ?_ ?_ ?_
   ·unfold World.freeze;split
    all_goals simp_all
   ·unfold World.freeze;split<;>exact⟨rfl,rfl⟩
   ·intro b' hb hS;have hV:b'≠(φ 1).block:=fun e=>hS (e▸hw);unfold World.freeze;split
    ·rfl
    ·show(w.heap.modify _ _)[b']?=_
     grind
end Ev
namespace Ev
open Go
def XO:TypeDesc->Bool
 |.int _=>false
 |.named _ _=>false
 |_=>true
def qj6{info:TypeId->Option TypeInfo}{fs:Array Field}{i:TypeInfo}(h:Made.reckonStruct info fs=some i):XO i.desc=true:=by unfold Made.reckonStruct at h;simp only[Option.bind_eq_bind,zR,Option.pure_def] at h;obtain⟨_,_,h⟩:=h;split at h<;>(injection h with h;subst h;rfl)
def qvk{info:TypeId->Option TypeInfo}{d:TypeDesc}{i:TypeInfo}(h:Made.reckon info d=some i):XO i.desc=true:=by
 cases d<;>simp only[Made.reckon,Option.bind_eq_bind,zR,Option.pure_def,zB] at h
 case struct fs=>exact qj6 h
 case pointer e=>
  obtain⟨a,_,h⟩:=h;split at h
  ·cases h
  ·split at h
   ·cases h
   ·simp only[zR,zB] at h;obtain⟨_,_,rfl⟩:=h;rfl
  ·simp only[zR,zB] at h;obtain⟨_,_,rfl⟩:=h;rfl
 case slice=>obtain⟨_,_,_,_,rfl⟩:=h;rfl
 case array=>obtain⟨_,_,_,_,rfl⟩:=h;rfl
 case map=>obtain⟨_,_,_,_,_,_,_,_,rfl⟩:=h;rfl
 case chan=>obtain⟨_,_,_,_,rfl⟩:=h;rfl
 case func=>obtain⟨_,_,rfl⟩:=h;rfl
 all_goals cases h
def isB:Option TypeDesc->Bool
 |some (.int .u8)=>true
 |_=>false
def S4(P:Program):Nat->Bool
 |0=>true
 |n+1=>(!isB (P.underlying n)||Nat.beq (P.cellsOf n) 1)&&S4 P n
def qj8{P:Program}:∀(n:Nat),S4 P n=true->∀el,el<n->P.underlying el=some (.int .u8)->P.cellsOf el=1
 |0,_,el,h,_=>absurd h om
 |n+1,h,el,hl,hu=>by
  simp only[S4,ze,Bool.or_eq_true] at h;by_cases e:el=n
  ·subst e;rcases h.1 with h1|h1
   ·rw[hu] at h1;simp[isB] at h1
   simp_all
  ·exact qj8 n h.2 el om hu
def qvl{P:Program}(h:S4 P P.types.size=true)(el:TypeId)(hu:P.underlying el=some (.int .u8)):P.cellsOf el=1:=by
 refine qj8 _ h el ?_ hu;refine zA fun hn=>?_;cases e:P.info? el with
 |none=>simp[Program.underlying,e] at hu
 |some i=>
  have hi:XO i.desc=true:=by unfold Tables.info? at e;rw[if_neg hn] at e;have e:Made.infoAt P.toTables (99+1) el=some i:=e;unfold Made.infoAt at e;rw[if_neg hn] at e;obtain⟨d,_,hd⟩:=zR.1 e;exact qvk hd
  unfold Program.underlying at hu;rw[e] at hu;obtain⟨d,_,_,_,_,_,_,_,_,_⟩:=i;cases d<;>simp only[XO] at hi<;>first|(cases hi;done)|(simp at hu;done)
end Ev
namespace Ev
open Go Go.Shelf Go.RowKit Go.Proofs
def ziy(f:Nat):lr:=⟨f,⟨[.ptr 0 0],[.box [.cX 0,.aY 1,.d .dG,.d (.int .i64)],.vec (.int .u8)]⟩,⟨[],[.box [.cX 0,.aY 1,.d .dG,.d (.int .i64)],.vec (.int .u8)]⟩,[0,1]⟩
def fK(b:Bool)(q:Nat×Nat)(n:Int)(s:Sl (den (.int .u8))):Nat->Obj:=aq (fun _=>Obj.none) [(0,.box [.cX 0 b,.aY 1 0,.d .dG q,.d (.int .i64) n]),(1,.vec (.int .u8) 0 false s)]
def ziz{b:Bool}{q:Nat×Nat}{n:Int}{s:Sl (den (.int .u8))}:fK b q n s 0=.box [.cX 0 b,.aY 1 0,.d .dG q,.d (.int .i64) n]:=rfl
def z7q{b:Bool}{q:Nat×Nat}{n:Int}{s:Sl (den (.int .u8))}:fK b q n s 1=.vec (.int .u8) 0 false s:=rfl
def z7r{b:Bool}{q:Nat×Nat}{n:Int}{s:Sl (den (.int .u8))}:aq (fK b q n s) [(0,.box [.cX 0 true,.aY 1 0,.d .dG q,.d (.int .i64) n])]=fK true q n s:=by
 funext id;show cy (fK b q n s) 0 _ id=_;by_cases h:id=0
 ·subst h;rw[eQ];rfl
 ·rw[jI h];show cy (cy _ 0 _) 1 _ id=cy (cy _ 0 _) 1 _ id;by_cases h1:id=1
  ·subst h1;rw[eQ,eQ]
  ·rw[jI h1,jI h1,jI h,jI h]
def zeo{C:Cx}{X:Nat->Prop}{φ:Nat->Addr}{w:World}{b:Bool}{q:Nat×Nat}{n:Int}{s:Sl (den (.int .u8))}(hm:MRel C X φ (fK b q n s) w):(φ 0).off=0/\∃c z lo hi,w.heap[(φ 0).block]?=some (.cells c C.rU (lo,hi))/\hi<=lo/\c=#[.pointer (bif b then some ⟨(φ 0).block,0,none⟩ else none),z,.complex .f64 q.1 q.2,.int .i64 n]/\ay φ (fK b q n s) (aj X φ (fK b q n s) w) w (.aY 1 0) z/\gE .i64 n:=by
 have ho:=hm.aw 0;have he:=hm.rK 0;rw[ziz] at ho he;obtain⟨h0,c,el,lo,hi,h1,h2,z0,r,e1,h3,z1,r1,e2,h4,z2,r2,e3,h5,z3,r3,e4,h8,h9⟩:=ho;obtain⟨c',L3,fz,h6,h7⟩:=he rfl;rw[h6] at h1;injection h1 with h1;injection h1 with g1 g2 g3;have h9:r3=[]:=h9;have h3:z0=.pointer (bif b then some ⟨(φ 0).block,(φ 0).off,none⟩ else none):=h3;have h5:=QO h5;obtain⟨h8,hn⟩:=oH h8;subst h9 e4 e3 e2;have hc:L3=C.rU:=by
  rcases h7 with h7|h7
  ·exfalso;have:c'.size=4:=by rw[g1,<-Array.length_toList,e1];rfl
   omega
  ·exact h7.1
 grind
def zj0{C:Cx}{f:Nat}(hl:∃fn,C.P.funcs[f]?=some fn/\fn.body.isNone=false)(hu:∀(b:Nat) (w:World),w.cell? ⟨b,0,none⟩=some (.pointer (some ⟨b,0,none⟩))->Calls C.P f #[.pointer (some ⟨b,0,none⟩)] w fun e w'=>e=.returned (.tuple #[])/\w'=w)(hf:∀(b:Nat) (w:World),w.cell? ⟨b,0,none⟩=some (.pointer none)->w.shape? b=some (C.rU,4)->w.frozen? ⟨b,0,none⟩=false->Calls C.P f #[.pointer (some ⟨b,0,none⟩)] w fun e w'=>e=.returned (.tuple #[])/\w'=w.setCell ⟨b,0,none⟩ (.pointer (some ⟨b,0,none⟩)))(b:Bool)(q:Nat×Nat)(n:Int)(s:Sl (den (.int .u8))):xG C (ziy f) (b,q,n,s,()) (true,q,n,s,()):=by
 intro X φ w zs hm hz;have hm:MRel C X φ (fK b q n s) w:=hm;have hz:ck φ (fK b q n s) (aj X φ (fK b q n s) w) w [.ptr 0 0] zs:=hz;refine⟨hl,?_⟩;obtain⟨h0,c,z,lo,hi,h1,h2,rfl,h3,hn⟩:=zeo hm;obtain⟨z0,r,rfl,g1,g2⟩:=hz;have g2:r=[]:=g2;have g1:z0=.pointer (some ⟨(φ 0).block,(φ 0).off+0,none⟩):=g1;rw[h0] at g1;subst g1 g2;cases b with
 |true=>refine Calls.mono (hu (φ 0).block w (by rw[World.cell?,h1];rfl)) fun e w' ⟨e1,e2⟩=>?_;subst e1 e2;exact⟨[],φ,X,rfl,fun _ h=>h,hm,rfl,dC.refl _ _ _ _⟩
 |false=>
  refine Calls.mono (hf (φ 0).block w (by rw[World.cell?,h1];rfl) (by rw[World.shape?,h1];rfl) ?_) fun e w' ⟨e1,e2⟩=>?_
  ·rw[World.frozen?,h1]
   grind
  ·subst e1;have he:w'.heap[(φ 0).block]?=some (.cells #[.pointer (some ⟨(φ 0).block,0,none⟩),z,.complex .f64 q.1 q.2,.int .i64 n] C.rU (lo,hi)):=by rw[e2];simp[World.setCell,Array.getElem?_modify,h1]
   have hg:∀b,b≠(φ 0).block->w'.heap[b]?=w.heap[b]?:=fun b hb=>by rw[e2];simp[World.setCell,Array.getElem?_modify,Ne.symm hb]
   have hj:aV (φ 0) (fK false q n s 0)=true:=rfl;have hc:Comes C X φ φ (fK false q n s) [(0,.box [.cX 0 true,.aY 1 0,.d .dG q,.d (.int .i64) n])] w w' .undef undef:=by refine Comes.write hm (.box [.cX 0 true,.aY 1 0,.d .dG q,.d (.int .i64) n]) (fun _=>hj) (by rw[e2];simp[World.setCell]) (fun b hb=>hg b fun e=>hb ⟨hj,e.symm⟩) rfl (fun a1 a2 a3=>?_) (fun _=>⟨_,_,_,he,.inr ⟨rfl,rfl⟩⟩) (fun _=>rfl) ⟨by rw[e2];rfl,by rw[e2];rfl⟩;refine⟨h0,_,C.rU,lo,hi,he,h2,_,_,rfl,?_,z,_,rfl,a3 _ _ h3,_,_,rfl,z60,_,_,rfl,nf hn,rfl⟩;show Value.pointer (some ⟨(φ 0).block,0,none⟩)=.pointer (some ⟨(φ 0).block,(φ 0).off,none⟩);rw[h0]
   have hk:=hc.mem;have hh:=(dC.refl [0,1] φ (fK false q n s) w).step hc;rw[z7r] at hk hh;exact⟨[],φ,X,rfl,fun _ h=>h,hk,rfl,hh⟩
def BD(f:Nat):lr:=⟨f,⟨[.ptr 0 0],[.box [.cX 0,.aY 1,.d .dG,.d (.int .i64)],.vec (.int .u8)]⟩,⟨[.d .str],[.gone,.gone]⟩,[]⟩
def zgp{C:Cx}{f sl pt it st u:Nat}(W:qy8 C.P f sl pt it st u)(hK:C.P.underlying pt=some (.pointer u))(hL:∃fn,C.P.funcs[f]?=some fn/\fn.body.isNone=false)(hM:C.P.underlying u=some (.int .u8))(hk:∀el,C.P.underlying el=some (.int .u8)->C.P.cellsOf el=1)(b:Bool)(q:Nat×Nat)(n:Int)(s:Sl (den (.int .u8))):xG C (BD f) (b,q,n,s,()) (s.l,()):=by
 intro Y φ w zs hm hz;have hm:MRel C Y φ (fK b q n s) w:=hm;have hz:ck φ (fK b q n s) (aj Y φ (fK b q n s) w) w [.ptr 0 0] zs:=hz;refine⟨hL,?_⟩;obtain⟨h0,c,z,lo,hi,h1,h2,rfl,h3,hT⟩:=zeo hm;obtain⟨z0,r,rfl,g1,g2⟩:=hz;have g2:r=[]:=g2;have g1:z0=.pointer (some ⟨(φ 0).block,(φ 0).off+0,none⟩):=g1;rw[h0] at g1;subst g1 g2
 have fin:∀(bs:ByteArray) (w':World),(bs.data.toList.map fun b=>(b.toNat:Int))=s.l->s.l.length<=cv->w.heap.size<=w'.heap.size->xB w w'->(∀b',b'<w.heap.size->¬oG φ (fK b q n s) b'->w'.heap[b']?=w.heap[b']?)->
   ∃dS φ' X',Ending.returned (.string bs)=.returned (Cd dS)/\(∀b,Y b->X' b)/\MRel C X' φ' (ba (BD f).outs (s.l,())) w'/\
    ck φ' (ba (BD f).outs (s.l,())) (aj X' φ' (ba (BD f).outs (s.l,())) w') w' (fill cJ cd (BD f).outs (s.l,())).1 dS/\dC (BD f).bN φ (ba (BD f).ins (b,q,n,s,())) w φ' (ba (BD f).outs (s.l,())) w':=by
  intro bs w' hC hq hu ht he;have hc:∀id,ba (BD f).outs (s.l,()) id=.dead\/(fK b q n s id=.none/\ba (BD f).outs (s.l,()) id=.none):=fun id=>by
   show cy (cy _ 0 _) 1 _ id=_\/(cy (cy _ 0 _) 1 _ id=_/\cy (cy _ 0 _) 1 _ id=_);by_cases h:id=1
   ·subst h;exact .inl rfl
   ·by_cases h':id=0
    ·subst h';exact .inl rfl
    ·refine .inr ⟨?_,?_⟩<;>rw[jI h,jI h']
  have hN:∀id a,aV a (ba (BD f).outs (s.l,()) id)=false:=fun id a=>by rcases hc id with h|⟨_,h⟩<;>rw[h]<;>rfl
  have hv:∀b',aj Y φ (fK b q n s) w b'->aj Y φ (ba (BD f).outs (s.l,())) w' b':=fun b' hb=>⟨Nat.lt_of_lt_of_le hb.1 hu,hb.2.1,fun⟨id,e,_⟩=>by rw[hN id] at e;cases e⟩;refine⟨[.string bs],φ,Y,rfl,fun _ h=>h,⟨fun id=>?_,fun i j hi=>?_,fun i hi=>?_,fun b' hb=>Nat.lt_of_lt_of_le (hm.xs b' hb) hu,fun id=>?_,fun g t x hg=>?_,hm.pC (fun b' hb=>he b' hb.1 hb.2.2)⟩,⟨.string bs,[],rfl,LR hC ?_,rfl⟩,⟨hu,he,fun b' ⟨id,e,_⟩=>?_,ht,fun id hi=>by cases hi⟩⟩
  ·rcases hc id with h|⟨_,h⟩<;>rw[h]<;>trivial
  ·grind
  ·grind
  ·rcases hc id with h|⟨_,h⟩<;>rw[h]<;>trivial
  ·refine BA hv (fun b' hb=>he b' hb.1 hb.2.2) (fun id=>?_) _ _ (hm.fe g t x hg);rcases hc id with h|⟨h,h'⟩
   ·rw[h];cases fK b q n s id<;>trivial
   ·rw[h];trivial
  ·rw[<-hC] at hq;simpa using hq
  grind
 have hD:=hm.aw 1;have hE:=hm.rK 1;rw[z7q] at hD hE;obtain⟨k1,k2,k3⟩:=hD;unfold ay at h3;rw[z7q] at h3;have cell:∀z',z=z'->w.drew.cell? ⟨(φ 0).block,1,none⟩=some z':=fun z' e=>by have:w.drew.heap[(φ 0).block]?=_:=h1;rw[World.cell?,this,e];rfl
 have ht:xB w w.drew:=⟨rfl,rfl⟩;have hs:(Builtin.unsafeString_ #[pt,it] st #[.pointer none,.int .i64 (0:Nat)]).run C.P w.drew=.ok (.string .empty) w.drew:=Lib.run_unsafeString_none w.drew _ _ _ none;rcases h3.2 rfl with ⟨hn,ho⟩|⟨hn,cap,ho,hO,hU,hF⟩
 ·have hl:=k2 hn;have:=W.walk (φ 0).block none none 0 0 .empty w w.drew (cell _ ho) (Lib.run_unsafeSliceData_nil _ _ _ _ _) hs;refine Calls.mono this fun e w' ⟨e1,e2⟩=>?_;subst e1 e2;exact fin .empty w.drew (by rw[hl];rfl) k1 (Nat.le_refl _) ht (fun _ _ _=>rfl)
 ·obtain⟨m1,ec,m2,m3,m4,m5,_⟩:=(k3 hn).resolve_right fun g=>g.2.2 rfl;rw[LO m1] at ho;obtain⟨c0,el,fz,q1,q2⟩:=hE rfl hn;have hG:w.drew.shape? (φ 1).block=some (el,c0.size):=by have:w.drew.heap[(φ 1).block]?=_:=q1;rw[World.shape?,this]
  have hw:oG φ (fK b q n s) (φ 1).block:=⟨1,by rw[z7q];exact rX hn m1,rfl⟩;by_cases hl:s.l=[]
  ·have hP:s.l.length=0:=by rw[hl];rfl
   rw[hP] at ho;by_cases hH:cap=0
   ·subst hH;have:=W.Ci (φ 0).block (φ 1) _ C.rU (lo,hi) w h1 (by rw[ho];rfl) _ hG;refine Calls.mono this fun e w' ⟨e1,e2⟩=>?_;subst e1 e2;refine fin .empty _ (by rw[hl];rfl) k1 (by show w.heap.size<=(w.heap.push _).size;simp) ⟨rfl,rfl⟩ (fun b' hb _=>?_);exact Lib.alloc_old w.drew _ b' hb
   ·have:=W.walk (φ 0).block (some (φ 1)) (some (φ 1)) 0 cap .empty w w.drew (cell _ ho) (Lib.run_unsafeSliceData_row _ _ _ _ _ _ hH) (Lib.run_unsafeString_none w.drew _ _ _ _);refine Calls.mono this fun e w' ⟨e1,e2⟩=>?_;subst e1 e2;exact fin .empty w.drew (by rw[hl];rfl) k1 (Nat.le_refl _) ht (fun _ _ _=>rfl)
  ·obtain⟨u1,u2⟩:=Xm m2;have back:∀n:Int,0<=n->n<=255->(((UInt8.ofNat n.toNat).toNat:Nat):Int)=n:=by intro n h0 h1;rw[UInt8.toNat_ofNat',Nat.mod_eq_of_lt om];omega
   generalize hI:List.map (fun n:Int=>UInt8.ofNat n.toNat) s.l=l8;have hf:l8.length=s.l.length:=by rw[<-hI];simp
   have hy:l8.map (fun b=>(b.toNat:Int))=s.l:=by
    rw[<-hI,zS];have:∀l:List Int,(∀n,n∈l->0<=n/\n<=255)->List.map ((fun b:UInt8=>(b.toNat:Int))∘fun n:Int=>UInt8.ofNat n.toNat) l=l:=by
     intro l
     induction l with
     |nil=>intro _;rfl
     |cons a l ih=>simp_all
    exact this _ u2
   have hA:l8≠[]:=fun e=>hl (by rw[<-hy,e];rfl);have hQ:0<s.l.length:=List.length_pos_iff.2 hl;obtain⟨c5,el5,lo5,hV,r1,r2,r3⟩:=m5 rfl;rw[q1] at r1;injection r1 with r1;injection r1 with r4 r5 r6;subst r4;have hB:aM (.int .u8)=1:=rfl;rw[hB,Nat.mul_one] at r2;have hJ:=q9a (P:=C.P) (w:=w.drew) pt it st u el hK hM q2.1 (hk el q2.1) (φ 1) c0.size hG l8 hA (by rw[hf];exact r2) (by rw[hf];unfold cv at k1;omega) (fun j x hx=>by
    have hb:(s.l)[j]?=some (x.toNat:Int):=by rw[<-hy,zU,hx];rfl
    have hR:ec[j]?=some (.int .u8 (x.toNat:Int)):=by rw[u1,zU,hb];rfl
    obtain⟨hj,e⟩:=zE.1 hR;have:=m3 j hj;rw[e] at this;rw[vu m1];exact this)
   rw[hf] at hJ;have:=W.walk (φ 0).block (some (φ 1)) (some (φ 1)) s.l.length cap ⟨l8.toArray⟩ w (w.drew.freeze (φ 1) s.l.length) (cell _ ho) (Lib.run_unsafeSliceData_row _ _ _ _ _ _ om) hJ;refine Calls.mono this fun e w' ⟨e1,e2⟩=>?_;subst e1 e2;refine fin ⟨l8.toArray⟩ _ (by simpa using hy) k1 ?_ ?_ ?_
   ·unfold World.freeze;split
    all_goals simp_all
   ·unfold World.freeze;split<;>exact⟨rfl,rfl⟩
   ·intro b' hb hS;have hW:b'≠(φ 1).block:=fun e=>hS (e▸hw);unfold World.freeze;split
    ·rfl
    ·show(w.heap.modify _ _)[b']?=_
     grind
end Ev
namespace Ev
open Go Go.Shelf Go.RowKit Go.Proofs Go.Sort
def qov{α:Type}{enc:α->List Value}{k:Nat}(hk:∀x,(enc x).length=k):∀(l:List α) (i:Nat) (hi:i<l.length) (j:Nat),j<k->(l.map enc).flatten[i*k+j]?=(enc l[i])[j]?
 |x::r,0,_,j,hj=>by grind
 |x::r,i+1,hi,j,hj=>by
  simp only[zN,List.flatten_cons,List.getElem_cons_succ];rw[zO (by rw[hk,Nat.add_mul,Nat.one_mul];omega),hk];have:(i+1)*k+j-k=i*k+j:=by rw[Nat.add_mul,Nat.one_mul];omega
  rw[this];exact qov hk r i (by simpa using hi) j hj
def XP{α:Type}{enc:α->List Value}{k:Nat}(hk:∀x,(enc x).length=k):∀l:List α,(l.map enc).flatten.length=l.length*k
 |[]=>by simp
 |x::r=>by simp only[zN,List.flatten_cons,zd,hk,XP hk r,zu,Nat.add_mul,Nat.one_mul];omega
def XQ{α β:Type}{enc:α->List Value}{ef:α->β}{R:β->List Value->Prop}(hrel:∀x cs,R (ef x) cs↔cs=enc x):∀(l:List α) (ec:List Value),bR R (l.map ef) ec↔ec=(l.map enc).flatten
 |[],ec=>Iff.rfl
 |x::r,ec=>by
  simp only[zN,List.flatten_cons];constructor
  ·rintro⟨c,d,e,h1,h2⟩;rw[e,(hrel x c).1 h1,(XQ hrel r d).1 h2]
  ·intro e;exact⟨_,_,e,(hrel x _).2 rfl,(XQ hrel r _).2 rfl⟩
def qvm{α:Type}[Inhabited α]{enc:α->List Value}{k:Nat}(hk:∀x,(enc x).length=k)(l:List α)(t:Nat)(ht:t<l.length*k):(l.map enc).flatten[t]?=some (flatK enc k l.toArray)[t]! :=by
 have hc:0<k:=by grind
 have hi:t / k<l.length:=(Nat.div_lt_iff_lt_mul hc).2 ht;have hm:t % k<k:=Nat.mod_lt _ hc;have e:t / k*k+t % k=t:=Nat.div_add_mod' t k;rw[get_flatK enc k l.toArray t (by simpa using ht)];have h:=qov hk l (t / k) hi (t % k) hm
 grind
def qq6{α:Type}[Inhabited α]{enc:α->List Value}{k:Nat}{w:World}{ff off n:Nat}{d:Array α}{os:Array Go.Obj}(hb:ff<w.heap.size):w.heap.size<=(sortWorldK enc k w ff off n d os).heap.size/\(∀b,b<w.heap.size->b≠ff->(sortWorldK enc k w ff off n d os).heap[b]?=w.heap[b]?)/\(∀c el fz,w.heap[ff]?=some (.cells c el fz)->(sortWorldK enc k w ff off n d os).heap[ff]?=some (.cells (putCells id off (flatK enc k d) c) el fz)):=by
 have he:(putRowK enc k (Sort.ahead w n) ff off d).heap.size=w.heap.size:=Go.Proofs.size_putRow _ _ _ _ _;have hc:∀b,b<w.heap.size->(sortWorldK enc k w ff off n d os).heap[b]?=(putRowK enc k (Sort.ahead w n) ff off d).heap[b]?:=by
  intro b hb;show((putRowK enc k (Sort.ahead w n) ff off d).heap++os)[b]?=_
  grind
 refine⟨?_,fun b hb hf=>?_,fun c el fz h=>?_⟩
 ·grind
 ·rw[hc b hb];show(w.heap.modify ff _)[b]?=_
  grind
 ·rw[hc ff hb];show(w.heap.modify ff _)[ff]?=_;rw[Array.getElem?_modify,if_pos rfl,h];rfl
def z7s(f g:Nat)(t:Ty):lr:=⟨f,⟨[.aY 0,.fn g []],[.vec t]⟩,⟨[],[.vec t]⟩,[0]⟩
def gG{t:Ty}(s:Sl (den t)):Nat->Obj:=aq (fun _=>Obj.none) [(0,.vec t 0 false s)]
def KN{t:Ty}{s:Sl (den t)}:gG s 0=.vec t 0 false s:=rfl
def z7t{t:Ty}{s:Sl (den t)}{id:Nat}(h:id≠0):gG s id=.none:=by show cy (fun _=>Obj.none) 0 _ id=_;rw[jI h]
def XR{t:Ty}{s s':Sl (den t)}:aq (gG s) [(0,.vec t 0 false s')]=gG s':=by
 funext id;show cy (gG s) 0 _ id=_;by_cases h:id=0
 ·subst h;rw[eQ];rfl
 ·rw[jI h,z7t h,z7t h]
def zc7{C:Cx}{f g:Nat}{t:Ty}{α:Type}[Inhabited α](enc:α->List Value)(ef:α->den t)(iY:List α->List α)(ht:t≠.int .u8)(hrel:∀imm w x cs,aE imm w t (ef x) cs↔cs=enc x)(hk:∀x,(enc x).length=aM t)(hw:∀l,(iY l).length=l.length)(hI:∃fn,C.P.funcs[f]?=some fn/\fn.body.isNone=false)(h0:∀p cap fv w,Calls C.P f #[.slice p 0 cap,fv] w fun e w'=>e=.returned (.tuple #[])/\w'=w)(hs:∀ff off cap (d:Array α) w,HoldsK enc (aM t) w ff off d->ff<w.heap.size->d.size<4611686018427387904->Calls C.P f #[.slice (some ⟨ff,off,none⟩) d.size cap,.func (.func g) #[] #[]] w fun e w'=>e=.returned (.tuple #[])/\∃n os,w'=sortWorldK enc (aM t) w ff off n (iY d.toList).toArray os)(hJ:g<1048576)(nil:Bool)(l:List α)(hl:l.length<4611686018427387904):xG C (z7s f g t) (⟨nil,l.map ef⟩,()) (⟨nil,(iY l).map ef⟩,()):=by
 intro X φ w zs hm hz;have hm:MRel C X φ (gG ⟨nil,l.map ef⟩) w:=hm;have hz:ck φ (gG ⟨nil,l.map ef⟩) (aj X φ (gG ⟨nil,l.map ef⟩) w) w [.aY 0 0,.fn g []] zs:=hz;refine⟨hI,?_⟩;obtain⟨z0,r0,rfl,g1,z1,r1,rfl,g2,g3⟩:=hz;have g3:r1=[]:=g3;subst g3;obtain⟨cb,rfl,g4⟩:=g2;have g4:cb.toList=[]:=g4;have hK:cb=#[]:=Array.toList_inj.1 g4;subst hK;rw[R7 hJ];have ho:=hm.aw 0;rw[KN] at ho;obtain⟨k1,k2,k3⟩:=ho;unfold ay at g1;rw[KN] at g1;have g1:=g1.2 rfl;show Calls C.P f [z0,.func (.func g) #[] #[]].toArray w _;by_cases hE:l=[]
 ·subst hE;have hx:iY []=[]:=List.length_eq_zero_iff.1 (by rw[hw];rfl);have hy:∃p cap,z0=.slice p 0 cap:=by
   rcases g1 with ⟨_,e⟩|⟨_,cap,e,_⟩
   all_goals grind
  obtain⟨p,cap,rfl⟩:=hy;refine Calls.mono (h0 p cap (.func (.func g) #[] #[]) w) fun e w' ⟨e1,e2⟩=>?_;subst e1 e2;rw[hx];exact⟨[],φ,X,rfl,fun _ h=>h,hm,rfl,dC.refl _ _ _ _⟩
 ·have hF:l.map ef≠[]:=fun e=>hE (List.map_eq_nil_iff.1 e);have hn:nil=false:=by
   cases nil with
   |false=>rfl
   |true=>exact absurd (k2 rfl) hF
  subst hn;obtain⟨m1,ec,m2,m3,m4,m5,_⟩:=(k3 rfl).resolve_right fun g=>hF g.2.1;have hL:ec=(l.map enc).flatten:=(XQ (fun x cs=>hrel _ _ x cs) l ec).1 m2;obtain⟨cap,hy,hM⟩:∃cap,z0=.slice (some (φ 0)) l.length cap/\l.length<=cap:=by
   rcases g1 with ⟨e,_⟩|⟨_,cap,e,h1,h2,h3⟩
   ·cases e
   ·rw[LO m1,zG] at e
    grind
  subst hy;obtain⟨c,el,lo,hi,r1,r2,r3⟩:=m5 rfl;have hA:aV (φ 0) (gG (t:=t) ⟨false,l.map ef⟩ 0)=true:=by rw[KN];exact rX rfl m1
  obtain⟨hb,hS⟩:=hm.sep 0 hA;have hB:(l.map ef).length=l.length:=zG ..;have r2:(φ 0).off+l.length*aM t<=c.size:=by rw[<-hB];exact r2
  have r3:hi<=lo\/hi<=(φ 0).off\/(φ 0).off+l.length*aM t<=lo:=by rw[<-hB];exact r3
  have eφ:(⟨(φ 0).block,(φ 0).off,none⟩:Addr)=φ 0:=(R5 m1).symm.trans (LO m1);have hH:HoldsK enc (aM t) w (φ 0).block (φ 0).off l.toArray:=by
   intro j hj;rw[size_flatK] at hj;have hj:j<l.length*aM t:=by simpa using hj
   have hN:j<ec.length:=by rw[hL,XP hk];exact hj
   refine⟨?_,?_⟩
   ·rw[m3 j hN];have:=qvm hk l j hj
    grind
   ·rw[World.frozen?,r1]
    grind
  have he:=hs (φ 0).block (φ 0).off cap l.toArray w hH hb (by simpa using hl);rw[eφ] at he;have esz:l.toArray.size=l.length:=List.size_toArray ..;rw[esz] at he;refine Calls.mono he fun e w' ⟨e1,n,os,e2⟩=>?_;subst e1;have etl:l.toArray.toList=l:=rfl;rw[etl] at e2;obtain⟨q1,q2,q3⟩:=qq6 (enc:=enc) (k:=aM t) (off:=(φ 0).off) (n:=n) (d:=(iY l).toArray) (os:=os) hb;rw[<-e2] at q1 q2 q3;have q3:=q3 c el (lo,hi) r1;have hu:(iY l).length=l.length:=hw l;have hC:(putCells id (φ 0).off (flatK enc (aM t) (iY l).toArray) c).size=c.size:=by simp[putCells]
  have hf:∀m,room w (φ 0) m->room w' (φ 0) m:=by intro m ⟨c',L3,Fw,hT,h1,h2,h3⟩;rw[r1] at h1;injection h1 with h1;injection h1 with h4 h5 h6;injection h6 with h6 h7;subst h4 h5 h6 h7;exact⟨_,_,lo,hi,q3,by rw[hC];exact h2,h3⟩
  have hO:xB w w':=by rw[e2];exact⟨rfl,rfl⟩
  have hc:Comes C X φ φ (gG (t:=t) ⟨false,l.map ef⟩) [(0,.vec t 0 false ⟨false,(iY l).map ef⟩)] w w' .undef undef:=by
   have hD:aq (gG (t:=t) ⟨false,l.map ef⟩) [(0,.vec t 0 false ⟨false,(iY l).map ef⟩)] 0=.vec t 0 false ⟨false,(iY l).map ef⟩:=by rw[XR];rfl
   have hv:∀i,i∈bW [((0:Nat),Obj.vec t 0 false ⟨false,(iY l).map ef⟩)]->i=0:=fun i hi=>by simpa[bW] using hi
   refine Comes.make hm q1 (fun b hb hh=>q2 b hb fun e=>hh ⟨0,by simp[bW],hA,e.symm⟩) (fun _ _=>rfl) (fun _ _ _=>rfl) (fun i hg=>?_) (fun i hg h=>?_) (fun i j hg hP _ _ _ _=>?_) (fun h1 h2 h3 i hg=>?_) (fun i hg=>?_) (fun _ _ _=>rfl) hO
   ·rw[hv i hg,hD,KN];exact .inr ⟨rfl,rfl,rfl,by simp[hu],rfl,fun _=>⟨rfl,fun _ _ m=>hf m⟩⟩
   ·rw[hv i hg];exact .inr ⟨hA,rfl⟩
   ·rw[hv i hg,hv j hP]
   ·rw[hv i hg,hD];refine⟨(by rw[zG,hu,<-hB];exact k1),(fun h=>by cases h),fun _=>.inl ⟨m1,_,(XQ (fun x cs=>hrel _ _ x cs) (iY l) _).2 rfl,fun j hj=>?_,hf 0 m4,fun _=>?_,(fun h=>by cases h)⟩⟩
    ·rw[XP hk,hu] at hj;have hq:=qvm hk (iY l) j (by rw[hu];exact hj);rw[zf (by rw[XP hk,hu];exact hj)] at hq;injection hq with hq;rw[hq];rw[World.cell?];simp only;rw[q3];simp only;have hQ:(φ 0).off+j<c.size:=om
     rw[if_neg dc];show(putCells id (φ 0).off (flatK enc (aM t) (iY l).toArray) c)[(φ 0).off+j]?=_;unfold putCells;rw[Array.getElem?_mapIdx,Array.getElem?_eq_getElem hQ,Option.map_some];have hR:(flatK enc (aM t) (iY l).toArray).size=l.length*aM t:=by rw[size_flatK];simp[hu]
     rw[if_pos ⟨by omega,by rw[hR];omega⟩];have:(φ 0).off+j-(φ 0).off=j:=om
     rw[this];rfl
    ·show room w' (φ 0) (((iY l).map ef).length*aM t);rw[zG,hu];exact hf _ ⟨c,el,lo,hi,r1,r2,r3⟩
   ·rw[hv i hg,hD];exact fun h=>absurd h ht
  have hG:=hc.mem;have hh:=(dC.refl [0] φ (gG (t:=t) ⟨false,l.map ef⟩) w).step hc;rw[XR] at hG hh;exact⟨[],φ,X,rfl,fun _ h=>h,hG,rfl,hh⟩
def XS{α β:Type}{enc:α->Value}{ef:α->β}{R:β->List Value->Prop}:∀(l:List α) (_hrel:∀x,x∈l->∀cs,R (ef x) cs↔cs=[enc x]) (ec:List Value),bR R (l.map ef) ec↔ec=l.map enc
 |[],_,ec=>Iff.rfl
 |x::r,hrel,ec=>by
  simp only[zN];constructor
  ·rintro⟨c,d,e,h1,h2⟩;rw[e,(hrel x (zg ..) c).1 h1,(XS r (fun y hy=>hrel y (zh _ hy)) d).1 h2];rfl
  ·intro e;exact⟨[enc x],r.map enc,e,(hrel x (zg ..) _).2 rfl,(XS r (fun y hy=>hrel y (zh _ hy)) _).2 rfl⟩
def qow{α:Type}[Inhabited α]{enc:α->Value}{w:World}{ff off n:Nat}{d:Array α}{os:Array Go.Obj}(hb:ff<w.heap.size):w.heap.size<=(grow (putRow enc (Sort.ahead w n) ff off d) os).heap.size/\(∀b,b<w.heap.size->b≠ff->(grow (putRow enc (Sort.ahead w n) ff off d) os).heap[b]?=w.heap[b]?)/\(∀c el fz,w.heap[ff]?=some (.cells c el fz)->(grow (putRow enc (Sort.ahead w n) ff off d) os).heap[ff]?=some (.cells (putCells enc off d c) el fz)):=by
 have he:(putRow enc (Sort.ahead w n) ff off d).heap.size=w.heap.size:=Go.Proofs.size_putRow _ _ _ _ _;have hc:∀b,b<w.heap.size->(grow (putRow enc (Sort.ahead w n) ff off d) os).heap[b]?=(putRow enc (Sort.ahead w n) ff off d).heap[b]?:=by
  intro b hb;show((putRow enc (Sort.ahead w n) ff off d).heap++os)[b]?=_
  grind
 refine⟨?_,fun b hb hf=>?_,fun c el fz h=>?_⟩
 ·grind
 ·rw[hc b hb];show(w.heap.modify ff _)[b]?=_
  grind
 ·rw[hc ff hb];show(w.heap.modify ff _)[ff]?=_;rw[Array.getElem?_modify,if_pos rfl,h];rfl
def zc8(f:Nat)(t:Ty):lr:=⟨f,⟨[.aY 0],[.vec t]⟩,⟨[],[.vec t]⟩,[0]⟩
def z7u{C:Cx}{f:Nat}{t:Ty}{α:Type}[Inhabited α](enc:α->Value)(ef:α->den t)(P:α->Prop)(iY:List α->List α)(ht:t≠.int .u8)(hE:aM t=1)(hrel:∀imm w x,P x->∀cs,aE imm w t (ef x) cs↔cs=[enc x])(hq:∀l,(iY l).length=l.length)(hv:∀l x,x∈iY l->x∈l)(hJ:∃fn,C.P.funcs[f]?=some fn/\fn.body.isNone=false)(h0:∀p cap w,Calls C.P f #[.slice p 0 cap] w fun e w'=>e=.returned (.tuple #[])/\w'=w)(hs:∀ff off cap (l:List α) w,Holds enc w ff off l.toArray->ff<w.heap.size->l.length<4611686018427387904->Calls C.P f #[.slice (some ⟨ff,off,none⟩) l.length cap] w fun e w'=>e=.returned (.tuple #[])/\∃n os,w'=grow (putRow enc (Sort.ahead w n) ff off (iY l).toArray) os)(nil:Bool)(l:List α)(hP:∀x,x∈l->P x)(hl:l.length<4611686018427387904):xG C (zc8 f t) (⟨nil,l.map ef⟩,()) (⟨nil,(iY l).map ef⟩,()):=by
 intro X φ w zs hm hz;have hm:MRel C X φ (gG ⟨nil,l.map ef⟩) w:=hm;have hz:ck φ (gG ⟨nil,l.map ef⟩) (aj X φ (gG ⟨nil,l.map ef⟩) w) w [.aY 0 0] zs:=hz;refine⟨hJ,?_⟩;obtain⟨z0,r0,rfl,g1,g3⟩:=hz;have g3:r0=[]:=g3;subst g3;have ho:=hm.aw 0;rw[KN] at ho;obtain⟨k1,k2,k3⟩:=ho;unfold ay at g1;rw[KN] at g1;have g1:=g1.2 rfl;show Calls C.P f [z0].toArray w _;by_cases hF:l=[]
 ·subst hF;have hw:iY []=[]:=List.length_eq_zero_iff.1 (by rw[hq];rfl);have hy:∃p cap,z0=.slice p 0 cap:=by
   rcases g1 with ⟨_,e⟩|⟨_,cap,e,_⟩
   all_goals grind
  obtain⟨p,cap,rfl⟩:=hy;refine Calls.mono (h0 p cap w) fun e w' ⟨e1,e2⟩=>?_;subst e1 e2;rw[hw];exact⟨[],φ,X,rfl,fun _ h=>h,hm,rfl,dC.refl _ _ _ _⟩
 ·have hG:l.map ef≠[]:=fun e=>hF (List.map_eq_nil_iff.1 e);have hn:nil=false:=by
   cases nil with
   |false=>rfl
   |true=>exact absurd (k2 rfl) hG
  subst hn;obtain⟨m1,ec,m2,m3,m4,m5,_⟩:=(k3 rfl).resolve_right fun g=>hG g.2.1;have hK:ec=l.map enc:=(XS l (fun x hx cs=>hrel _ _ x (hP x hx) cs) ec).1 m2;obtain⟨cap,hy,hL⟩:∃cap,z0=.slice (some (φ 0)) l.length cap/\l.length<=cap:=by
   rcases g1 with ⟨e,_⟩|⟨_,cap,e,h1,h2,h3⟩
   ·cases e
   ·rw[LO m1,zG] at e
    grind
  subst hy;obtain⟨c,el,lo,hi,r1,r2,r3⟩:=m5 rfl;have hA:aV (φ 0) (gG (t:=t) ⟨false,l.map ef⟩ 0)=true:=by rw[KN];exact rX rfl m1
  obtain⟨hb,hS⟩:=hm.sep 0 hA;have hB:(l.map ef).length=l.length:=zG ..;have r2:(φ 0).off+l.length*aM t<=c.size:=by rw[<-hB];exact r2
  have r3:hi<=lo\/hi<=(φ 0).off\/(φ 0).off+l.length*aM t<=lo:=by rw[<-hB];exact r3
  rw[hE,Nat.mul_one] at r2 r3;have eφ:(⟨(φ 0).block,(φ 0).off,none⟩:Addr)=φ 0:=(R5 m1).symm.trans (LO m1);have hH:Holds enc w (φ 0).block (φ 0).off l.toArray:=by
   intro j hj;have hj:j<l.length:=by simpa using hj
   have hM:j<ec.length:=by rw[hK,zG];exact hj
   refine⟨?_,?_⟩
   ·rw[m3 j hM]
    grind
   ·rw[World.frozen?,r1]
    grind
  have hg:=hs (φ 0).block (φ 0).off cap l w hH hb hl;rw[eφ] at hg;refine Calls.mono hg fun e w' ⟨e1,n,os,e2⟩=>?_;subst e1;obtain⟨q1,q2,q3⟩:=qow (enc:=enc) (off:=(φ 0).off) (n:=n) (d:=(iY l).toArray) (os:=os) hb;rw[<-e2] at q1 q2 q3;have q3:=q3 c el (lo,hi) r1;have hu:(iY l).length=l.length:=hq l;have hC:(putCells enc (φ 0).off (iY l).toArray c).size=c.size:=by simp[putCells]
  have he:∀m,room w (φ 0) m->room w' (φ 0) m:=by intro m ⟨c',L3,Fw,hT,h1,h2,h3⟩;rw[r1] at h1;injection h1 with h1;injection h1 with h4 h5 h6;injection h6 with h6 h7;subst h4 h5 h6 h7;exact⟨_,_,lo,hi,q3,by rw[hC];exact h2,h3⟩
  have hN:xB w w':=by rw[e2];exact⟨rfl,rfl⟩
  have hc:Comes C X φ φ (gG (t:=t) ⟨false,l.map ef⟩) [(0,.vec t 0 false ⟨false,(iY l).map ef⟩)] w w' .undef undef:=by
   have hD:aq (gG (t:=t) ⟨false,l.map ef⟩) [(0,.vec t 0 false ⟨false,(iY l).map ef⟩)] 0=.vec t 0 false ⟨false,(iY l).map ef⟩:=by rw[XR];rfl
   have hk:∀i,i∈bW [((0:Nat),Obj.vec t 0 false ⟨false,(iY l).map ef⟩)]->i=0:=fun i hi=>by simpa[bW] using hi
   refine Comes.make hm q1 (fun b hb hh=>q2 b hb fun e=>hh ⟨0,by simp[bW],hA,e.symm⟩) (fun _ _=>rfl) (fun _ _ _=>rfl) (fun i hf=>?_) (fun i hf h=>?_) (fun i j hf hO _ _ _ _=>?_) (fun h1 h2 h3 i hf=>?_) (fun i hf=>?_) (fun _ _ _=>rfl) hN
   ·rw[hk i hf,hD,KN];exact .inr ⟨rfl,rfl,rfl,by simp[hu],rfl,fun _=>⟨rfl,fun _ _ m=>he m⟩⟩
   ·rw[hk i hf];exact .inr ⟨hA,rfl⟩
   ·rw[hk i hf,hk j hO]
   ·rw[hk i hf,hD];refine⟨(by rw[zG,hu,<-hB];exact k1),(fun h=>by cases h),fun _=>.inl ⟨m1,_,(XS (iY l) (fun x hx cs=>hrel _ _ x (hP x (hv l x hx)) cs) _).2 rfl,fun j hj=>?_,he 0 m4,fun _=>?_,(fun h=>by cases h)⟩⟩
    ·rw[zG,hu] at hj;rw[World.cell?];simp only;rw[q3];simp only;have hQ:(φ 0).off+j<c.size:=om
     rw[if_neg dc];show(putCells enc (φ 0).off (iY l).toArray c)[(φ 0).off+j]?=_;unfold putCells;rw[Array.getElem?_mapIdx,Array.getElem?_eq_getElem hQ,Option.map_some];rw[if_pos ⟨by omega,by simp[hu];omega⟩];have e4:(φ 0).off+j-(φ 0).off=j:=om
     rw[e4];have hR:j<(iY l).length:=om
     have e1:((iY l).toArray)[j]! =(iY l)[j]:=by simp[hR]
     rw[e1];simp
    ·show room w' (φ 0) (((iY l).map ef).length*aM t);rw[zG,hu,hE,Nat.mul_one];exact he _ ⟨c,el,lo,hi,r1,r2,r3⟩
   ·rw[hk i hf,hD];exact fun h=>absurd h ht
  have hI:=hc.mem;have hh:=(dC.refl [0] φ (gG (t:=t) ⟨false,l.map ef⟩) w).step hc;rw[XR] at hI hh;exact⟨[],φ,X,rfl,fun _ h=>h,hI,rfl,hh⟩
end Ev
namespace Ev
open Go Go.Shelf Go.RowKit Go.Proofs Go.Lib
variable {P:Program} {ρ:Shelf.Ren}
def qr6:∀l:List UInt8,countByte l 45=0->vz l=l
 |[],_=>rfl
 |b::l,h=>by
  unfold countByte at h;have hb:b≠45:=fun e=>by rw[e,List.count_cons_self] at h;omega
  rw[List.count_cons_of_ne (fun e=>hb e)] at h;unfold vz;rw[if_neg hb,qr6 l h]
def qr7:∀l:List UInt8,countByte l 45≠0->∃i:Nat,indexByte l 45=(i:Int)/\i<l.length/\vz l=l.take i++([126]++l.drop (i+1))
 |[],h=>absurd rfl h
 |b::l,h=>by
  by_cases hb:b=45
  ·subst hb;exact⟨0,rfl,by simp,by unfold vz;simp⟩
  ·unfold countByte at h;rw[List.count_cons_of_ne (fun e=>hb e)] at h;obtain⟨i,h1,h2,h3⟩:=qr7 l h;refine⟨i+1,?_,by simp only[zu];omega,?_⟩
   ·unfold indexByte;have e1:(b==45)=false:=beq_eq_false_iff_ne.2 hb;have e2:((i:Int)==-1)=false:=beq_eq_false_iff_ne.2 om;rw[h1,e1,e2];rfl
   ·unfold vz;rw[if_neg hb,h3];rfl
def zep:(⟨#[45]⟩:ByteArray)≠⟨#[126]⟩:=by intro h;injection h with h;exact absurd h dc
def zc9(L:Lays.n154 P ρ)(s:ByteArray)(w:World)(hc:countByte s.data.toList 45=0):Calls P (ρ.f 154) #[.string s,.string ⟨#[45]⟩,.string ⟨#[126]⟩,.int .i64 1] w fun e w'=>e=.returned (.string s)/\w'=w:=by
 have hC:=Any.strings_Count_one {L with} s 45 w;rw[hc] at hC;have he:=(Lib.bytes_beq_false_iff (⟨#[45]⟩:ByteArray) ⟨#[126]⟩).2 zep;have t3:=L.t3;have a3:=L.a3;have z3:=L.z3;have v3:=L.v3;have t9:=L.t9;have a9:=L.a9;have z9:=L.z9;have v9:=L.v9;have t4:=L.t4;have a4:=L.a4;have z4:=L.z4;have v4:=L.v4;have aaj:∀args w,(callFunc (ρ.f 138) args).run P w=.ok (.enter (ρ.f 138) args) w:=enters_of L.f138 (by kernel_rfl) rfl
 go_enter L.f154,Body.n154_ntmps ρ
 go_wp2_with (first|(go_at_fn (ρ.f 138);refine hC.mono ?_;rintro e w' ⟨rfl,hw⟩;rw[hw]))
 go_ret
 exact⟨rfl,rfl⟩
def y5{p:Prop}(h:p):Hid p:=h
set_option maxHeartbeats 4000000 in
set_option maxRecDepth 1000000 in
def zca(L:Lays.n154 P ρ)(X:Builder.Extra P ρ)(s:ByteArray)(w:World)(hs:s.size<=1000)(ho:countByte s.data.toList 45≠0):Calls P (ρ.f 154) #[.string s,.string ⟨#[45]⟩,.string ⟨#[126]⟩,.int .i64 1] w fun e w'=>e=.returned (.string ⟨(vz s.data.toList).toArray⟩)/\Below w.heap.size w w':=by
 have hC:=Any.strings_Count_one {L with} s 45 w;obtain⟨i,hz,hA,hq⟩:=qr7 s.data.toList ho;obtain⟨cn,hB⟩:∃cn:Nat,countByte s.data.toList 45=cn:=⟨_,rfl⟩;rw[hB] at hC ho;have hk:s.data.toList.length=s.size:=(Lib.size_eq s).symm;rw[hk] at hA;have HI3:=y5 hq;clear hq;have hD:=(Lib.bytes_beq_false_iff (⟨#[45]⟩:ByteArray) ⟨#[126]⟩).2 zep;have hH:((cn:Int)==0)=false:=beq_eq_false_iff_ne.2 om;have hI:¬((cn:Int)<1):=om
 have mixed:=L.mixed;have t72:=L.t72;have a72:=L.a72;have z72:=L.z72;have v72:=L.v72;have u72:=run_underlying L.t72;have t70:=L.t70;have a70:=L.a70;have z70:=L.z70;have v70:=L.v70;have u70:=run_underlying L.t70;have t37:=L.t37;have a37:=L.a37;have z37:=L.z37;have v37:=L.v37;have u37:=run_underlying L.t37;have t3:=L.t3;have a3:=L.a3;have z3:=L.z3;have v3:=L.v3;have u3:=run_underlying L.t3;have t9:=L.t9;have a9:=L.a9;have z9:=L.z9;have v9:=L.v9;have u9:=run_underlying L.t9;have t4:=L.t4;have a4:=L.a4;have z4:=L.z4;have v4:=L.v4;have u4:=run_underlying L.t4;have aaj:∀args w,(callFunc (ρ.f 138) args).run P w=.ok (.enter (ρ.f 138) args) w:=enters_of L.f138 (by kernel_rfl) rfl;have agB:∀args w,(callFunc (ρ.f 143) args).run P w=.ok (.enter (ρ.f 143) args) w:=enters_of L.f143 (by kernel_rfl) rfl;have agC:∀args w,(callFunc (ρ.f 165) args).run P w=.ok (.enter (ρ.f 165) args) w:=enters_of L.f165 (by kernel_rfl) rfl;have agD:∀args w,(callFunc (ρ.f 166) args).run P w=.ok (.enter (ρ.f 166) args) w:=enters_of L.f166 (by kernel_rfl) rfl;have agE:∀args w,(callFunc (ρ.f 169) args).run P w=.ok (.enter (ρ.f 169) args) w:=enters_of L.f169 (by kernel_rfl) rfl
 go_enter L.f154,Body.n154_ntmps ρ
 go_wp2_with (first|(go_at_fn (ρ.f 138);refine hC.mono ?_;rintro e w' ⟨rfl,hw⟩;rw[hw]))
 refine(Any.Builder_Grow_fresh {L with} X w.heap.size w.heap.size s.size _ (Nat.le_refl _) (heap_alloc_new w _) (by simp) om).mono ?_;rintro e w1 ⟨rfl,ht,hu⟩;have H1:=y5 (Or.inr ht:Lib.IsBuilder (ρ.t 72) (ρ.t 5) w.heap.size w.heap.size (Lib.byteCells []) w1);have Hb1:=y5 (((Below.refl w.heap.size w).alloc (Nat.le_refl _) _).trans hu);clear ht hu hC
 go_wp2_with fail
 go_loopg [11,53] 1 (fun g s11 s53 wx=>∃(k start:Nat) (acc:List UInt8),s53=.int .i64 k/\s11=.int .i64 start/\k+g=1/\Hid (Lib.IsBuilder (ρ.t 72) (ρ.t 5) w.heap.size w.heap.size (Lib.byteCells acc) wx)/\
  Hid (Below w.heap.size w wx)/\start<=s.size/\acc.length<=1000/\Hid ((g=1/\start=0/\acc=[])\/(g=0/\start=i+1/\acc=s.data.toList.take i++[126])))
 case atStart=>exact⟨0,0,[],rfl,rfl,rfl,H1,Hb1,Nat.zero_le _,Nat.zero_le _,y5 (.inl ⟨rfl,rfl,rfl⟩)⟩
 case round=>
  obtain⟨k,start,acc,rfl,rfl,hJ,HB,HW,hK,hE,HR⟩:=hrel;have hm:w.heap.size<=wr.heap.size:=HW.out.size;have c1:(0:Int)<=(start:Int):=om
  have c2:(start:Int)<=(s.size:Int):=om
  cases gk with
  |zero=>
   have hF:¬((k:Int)<1):=om
   go_wp2_with fail
   obtain⟨hc,hn⟩:start=i+1/\acc=s.data.toList.take i++[126]:=by
    rcases HR.out with ⟨h,_⟩|⟨_,h1,h2⟩
    ·exact absurd h dc
    ·exact⟨h1,h2⟩
   refine(Any.Builder_WriteString {L with} X w.heap.size w.heap.size _ _ wr HB.out (by rw[Lib.byteCells_length,ByteArray.size_extract];omega) hm).mono ?_;rintro e w3 ⟨rfl,h3,hj⟩;have hl:acc++s.data.toList.drop start=vz s.data.toList:=by rw[hn,hc,HI3.out,zm]
   rw[Lib.strCells_eq,Lib.extract_to_end,<-Lib.byteCells_append,hl] at h3;have H3:=y5 (Or.inr h3:Lib.IsBuilder (ρ.t 72) (ρ.t 5) w.heap.size w.heap.size (Lib.byteCells (vz s.data.toList)) w3);have XT:=y5 (HW.out.trans hj);have hf:w.heap.size<=w3.heap.size:=XT.out.size;clear h3 hj hl
   go_wp2_with fail
   refine(Any.Builder_String_any {L with} X w.heap.size w.heap.size _ w3 H3.out hf).mono ?_;rintro e w5 ⟨rfl,hv⟩;have Hb5:=y5 (XT.out.trans hv);clear hv
   go_wp2
   go_ret
   exact⟨rfl,Hb5.out⟩
  |succ g=>
   have hF:(k:Int)<1:=om
   obtain⟨hg,hc,hn⟩:g=0/\start=0/\acc=[]:=by
    rcases HR.out with ⟨h,h1,h2⟩|⟨h,_⟩
    ·exact⟨by omega,h1,h2⟩
    ·exact absurd h om
   subst hg hc hn;have hG:k=0:=om
   subst hG;have c3:(0:Int)<=(i:Int):=om
   have c4:(i:Int)<=(s.size:Int):=om
   go_wp2_with (first|(go_at_fn (ρ.f 143);refine(Any.strings_Index_one {L with} _ 45 _).mono ?_;rintro e w' ⟨rfl,hw⟩;rw[hw,hz]))
   refine(Any.Builder_WriteString {L with} X w.heap.size w.heap.size _ (s.extract 0 i) wr HB.out (by rw[Lib.byteCells_length,ByteArray.size_extract];simp only[List.length_nil];omega) hm).mono ?_;rintro e w3 ⟨rfl,h3,hj⟩;have hf:w.heap.size<=w3.heap.size:=Nat.le_trans hm hj.size;have H3:=y5 h3;have XT:=y5 hj;clear h3 hj
   go_wp2_with fail
   refine(Any.Builder_WriteString {L with} X w.heap.size w.heap.size _ ⟨#[126]⟩ w3 (Or.inr H3.out) (by rw[zd,Lib.byteCells_length,Lib.strCells_length,ByteArray.size_extract];simp only[List.length_nil];have:(⟨#[126]⟩:ByteArray).size=1:=rfl;omega) hf).mono ?_;rintro e w4 ⟨rfl,h4,hx⟩;have he:Lib.byteCells []++Lib.strCells (s.extract 0 i)++Lib.strCells ⟨#[126]⟩=Lib.byteCells (s.data.toList.take i++[126]):=by rw[Lib.strCells_eq,Lib.strCells_eq,Lib.extract_data,Nat.sub_zero,List.drop_zero,<-Lib.byteCells_append,<-Lib.byteCells_append];rfl
   rw[he] at h4;have H4:=y5 (Or.inr h4:Lib.IsBuilder (ρ.t 72) (ρ.t 5) w.heap.size w.heap.size (Lib.byteCells (s.data.toList.take i++[126])) w4);have Hb4:=y5 ((HW.out.trans XT.out).trans hx);have hy:(s.data.toList.take i++[126]).length<=1000:=by rw[zd,zP,List.length_singleton];omega
   have HL:=y5 hy;clear h4 hx he hy
   go_wp2
   go_roundg 0
   case measure=>omega
   case rel=>exact⟨1,i+1,_,by first|rfl|(simp;unfold wrap64;omega),by first|rfl|simp|(simp;unfold wrap64;omega),rfl,H4,Hb4,by omega,HL.out,y5 (.inr ⟨rfl,rfl,rfl⟩)⟩
def zcb(L:Lays.n154 P ρ)(X:Builder.Extra P ρ)(s:ByteArray)(w:World)(hs:s.size<=1000):Calls P (ρ.f 154) #[.string s,.string ⟨#[45]⟩,.string ⟨#[126]⟩,.int .i64 1] w fun e w'=>e=.returned (.string ⟨(vz s.data.toList).toArray⟩)/\Below w.heap.size w w':=by
 by_cases hc:countByte s.data.toList 45=0
 ·refine(zc9 L s w hc).mono fun e w' ⟨h1,h2⟩=>⟨?_,h2▸Below.refl _ _⟩;rw[h1,qr6 _ hc,Array.toArray_toList]
 ·exact zca L X s w hs hc
end Ev