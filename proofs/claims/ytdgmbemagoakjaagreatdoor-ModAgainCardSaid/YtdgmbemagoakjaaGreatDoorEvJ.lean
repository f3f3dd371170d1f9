/- The calls of strings.Builder, slices.Sort, slices.Grow, strings.Replace. -/
import Derived.Test.YtdgmbemagoakjaaGreatDoorEvI
import Derived.Shelf.Strings.Builder1
import Derived.Shelf.SlSortCmp.NoneTotal
import Derived.Shelf.Slices.In.SortNone
import Derived.Shelf.Strings.Replace
namespace Ev
open Go
variable{b:Bool}{E:List V}{f:Nat}
def gh(b:Bool)(s:Sl (den (.int .u8)))(E:List V):Nat->Obj:=aj (fun _=>Obj.none) [(0,.box (.ib 0 b::.cC 1 0::E)),(1,.vec (.int .u8) 0 false s)]
theorem zn3{s:Sl (den (.int .u8))}:gh b s E 0=.box (.ib 0 b::.cC 1 0::E):=rfl
theorem z6x{s:Sl (den (.int .u8))}:gh b s E 1=.vec (.int .u8) 0 false s:=rfl
theorem z6y{s:Sl (den (.int .u8))}:aj (gh b s E) [(0,.box (.ib 0 true::.cC 1 0::E))]=gh true s E:=by
 funext id;show dR (gh b s E) 0 _ id=_;by_cases h:id=0
 ·subst h;rw[gq];rfl
 ·rw[nJ h];show dR (dR _ 0 _) 1 _ id=dR (dR _ 0 _) 1 _ id;by_cases h1:id=1
  ·subst h1;rw[gq,gq]
  ·rw[nJ h1,nJ h1,nJ h,nJ h]
section
variable {C:Cx} {X:Nat→Prop} {φ:Nat→Addr} {w:World} {b:Bool} {s:Sl (den (.int .u8))} {E:List V} {T:TypeId} (hT:∀el,GO C el (E.length+2)→el=T)
include hT
theorem zgp(hm:MRel C X φ (gh b s E) w):(φ 0).off=0/\∃z r lo hi,w.heap[(φ 0).block]?=some (.cells (.pointer (bif b then some ⟨(φ 0).block,0,none⟩ else none)::z::r).toArray T (lo,hi))/\hi<=lo/\au φ (gh b s E) (ag X φ (gh b s E) w) w (.cC 1 0) z/\cu φ (gh b s E) (ag X φ (gh b s E) w) w E r/\GO C T (E.length+2):=by
 have ho:=hm.ar 0;have he:=hm.uA 0;rw[zn3] at ho he;obtain⟨h0,c,el,lo,hi,h1,h2,z0,r,e1,h3,z1,r1,e2,h4,h5⟩:=ho;obtain⟨c',Qd,fz,h6,h7⟩:=he rfl;rw[h6] at h1;injection h1 with h1;injection h1 with g1 g2 g3;have hc:c'=(z0::z1::r1).toArray:=by rw[g1,<-e2,<-e1]
 have hB:GO C Qd (E.length+2):=by have:=Bw h5;rw[hc] at h7;simpa[this] using h7
 have hf:Qd=T:=hT _ hB;have h3:z0=.pointer (bif b then some ⟨(φ 0).block,(φ 0).off,none⟩ else none):=h3;subst hf g3 hc h3;rw[h0] at h6;exact⟨h0,z1,r1,lo,hi,h6,h2,h4,h5,hB⟩
theorem zn4(ho:∃fn,C.P.funcs[f]?=some fn/\fn.body.isNone=false)(hu:∀(b:Nat) (w:World),w.cell? ⟨b,0,none⟩=some (.pointer (some ⟨b,0,none⟩))->Calls C.P f #[.pointer (some ⟨b,0,none⟩)] w fun e w'=>e=.returned (.tuple #[])/\w'=w)(hf:∀(b:Nat) (w:World),w.cell? ⟨b,0,none⟩=some (.pointer none)->w.shape? b=some (T,E.length+2)->w.frozen? ⟨b,0,none⟩=false->Calls C.P f #[.pointer (some ⟨b,0,none⟩)] w fun e w'=>e=.returned (.tuple #[])/\w'=w.setCell ⟨b,0,none⟩ (.pointer (some ⟨b,0,none⟩))){S:nG}{x:ak S.ins.bQ}{y:ak S.outs.bQ}(hx:bB S.ins x=gh b s E)(hy:bB S.outs y=gh true s E)(x1:(fill eg cW S.ins x).1=[.ptr 0 0])(y1:(fill eg cW S.outs y).1=[])(hk:S.bD=[0,1])(hS:S.f=f):DG C S x y:=by
 intro X φ w zs hm hz;rw[hx] at hm hz;rw[x1] at hz;rw[hS,hx,hy,y1,hk];refine⟨ho,?_⟩;obtain⟨h0,z,r1,lo,hi,h1,h2,h3,h4,h5⟩:=zgp hT hm;obtain⟨z0,r,rfl,g1,g2⟩:=hz;have g2:r=[]:=g2;have g1:z0=.pointer (some ⟨(φ 0).block,(φ 0).off+0,none⟩):=g1;rw[h0] at g1;subst g1 g2;have hl:=Bw h4;cases b with
 |true=>refine Calls.mono (hu (φ 0).block w (by rw[World.cell?,h1];rfl)) fun e w' ⟨e1,e2⟩=>?_;subst e1 e2;exact⟨[],φ,X,rfl,fun _ h=>h,hm,rfl,eU.refl _ _ _ _⟩
 |false=>
  refine Calls.mono (hf (φ 0).block w (by rw[World.cell?,h1];rfl) (by rw[World.shape?,h1,hl];rfl) ?_) fun e w' ⟨e1,e2⟩=>?_
  ·rw[World.frozen?,h1]
   grind
  ·subst e1;have he:w'.heap[(φ 0).block]?=some (.cells (.pointer (some ⟨(φ 0).block,0,none⟩)::z::r1).toArray T (lo,hi)):=by rw[e2];simp[World.setCell,Array.getElem?_modify,h1]
   have hg:∀b,b≠(φ 0).block->w'.heap[b]?=w.heap[b]?:=fun b hb=>by rw[e2];simp[World.setCell,Array.getElem?_modify,Ne.symm hb]
   have hj:aV (φ 0) (gh false s E 0)=true:=rfl;have hc:Comes C X φ φ (gh false s E) [(0,.box (.ib 0 true::.cC 1 0::E))] w w' .undef undef:=by
    refine Comes.write hm (.box (.ib 0 true::.cC 1 0::E)) (fun _=>hj) (by rw[e2];simp[World.setCell]) (fun b hb=>hg b fun e=>hb ⟨hj,e.symm⟩) rfl (fun a1 a2 a3=>?_) (fun _=>⟨_,_,_,he,?_⟩) (fun _=>rfl) ⟨by rw[e2];rfl,by rw[e2];rfl⟩
    ·refine⟨h0,_,T,lo,hi,he,h2,_,_,rfl,?_,z,_,rfl,a3 _ _ h3,EB a3 _ _ h4⟩;show Value.pointer (some ⟨(φ 0).block,0,none⟩)=.pointer (some ⟨(φ 0).block,(φ 0).off,none⟩);rw[h0]
    ·rw[hl] at h5;exact h5
   have hn:=hc.mem;have hh:=(eU.refl [0,1] φ (gh false s E) w).step hc;rw[z6y] at hn hh;exact⟨[],φ,X,rfl,fun _ h=>h,hn,rfl,hh⟩
end
end Ev
namespace Ev
open Go Go.Shelf Go.RowKit Go.Proofs
variable{b:Bool}{E:List V}{f:Nat}{P:Program}{w:World}
theorem zk0{e u:TypeId}(he:P.underlying e=some (.int .u8))(hu:P.underlying u=some (.int .u8))(hc:P.cellsOf e=1)(count off n:Nat)(hn:off+n<=count):liesAt P P.depth e count off u n=true:=by have hd:P.depth=(2*(P.types.size+Made.depth)+1)+1:=rfl;rw[hd];simp only[liesAt,jk];left;rw[hd];simp[rowAt,hc,sameLayout,he,hu];omega
theorem qgb(pt it ty u e:TypeId)(hp:P.underlying pt=some (.pointer u))(hu:P.underlying u=some (.int .u8))(he:P.underlying e=some (.int .u8))(hc:P.cellsOf e=1)(a:Addr)(cells:Nat)(hq:w.shape? a.block=some (e,cells))(l:List UInt8)(h0:l≠[])(hn:a.off+l.length<=cells)(hs:(l.length:Int)<=9223372036854775807)(hf:∀j x,l[j]?=some x->w.cell? (a.add j)=some (.int .u8 x.toNat)):(Builtin.unsafeString_ #[pt,it] ty #[.pointer (some a),.int .i64 l.length]).run P w=.ok (.string ⟨l.toArray⟩) (w.freeze a l.length):=by
 have hl:l.length≠0:=by simpa using h0
 have ht:=Lib.run_loadBytes (P:=P) w l a .empty hf;have hg:=zk0 (P:=P) he hu hc (cells / P.cellsOf e) a.off l.length (by rw[hc];simpa using hn);have hj:¬(9223372036854775807:Int)<(l.length:Int):=om
 obtain ⟨sS1, sS2, sS3, hk⟩ : ∃ sS1 sS2 sS3 : String, Builtin.unsafeString_ #[pt,it] ty #[.pointer (some a),.int .i64 l.length]=
   (do
    let n <-Go.asInt (Value.int .i64 l.length)
    if n<0 then runtimePanic (.error sS1)
    if n>IntKind.i64.max then unsupported (.unsafePointer sS2)
    if n=0 then pure (.string .empty)
    else if <-variablesAt a (<-elemOf pt) n.toNat then do
     let s <-loadBytes a .empty n.toNat
     freeze a n.toNat
     pure (.string s)
    else unsupported (.unsafePointer sS3)) := ⟨_, _, _, rfl⟩
 rw[hk];have hm:IntKind.i64.max=9223372036854775807:=rfl;have ho:¬(l.length:Int)<0:=om
 simp[Go.asInt,asIntOf,hm,hj,ho,hl,variablesAt,hq,elemOf,run_underlying hp,hg,ht]
structure z6z (P:Program) (f sl pt it st u:Nat):Prop where
 walk:∀(b:Nat) (base q:Option Addr) (n cap:Nat) (bs:ByteArray) (w w2:World),w.drew.cell? ⟨b,1,none⟩=some (.slice base n cap)->
  (Builtin.unsafeSliceData_ #[sl] pt #[.slice base n cap]).run P w.drew=.ok (.pointer q) w.drew->
  (Builtin.unsafeString_ #[pt,it] st #[.pointer q,.int .i64 n]).run P w.drew=.ok (.string bs) w2->
  Calls P f #[.pointer (some ⟨b,0,none⟩)] w fun e w'=>e=.returned (.string bs)/\w'=w2
 G6:∀(b:Nat) (a:Addr) (cs:Array Value) (el:TypeId) (fz:Nat×Nat) (w:World),w.heap[b]?=some (.cells cs el fz)->cs[1]?=some (.slice (some a) 0 0)->
  ∀(sh:TypeId×Nat),w.drew.shape? a.block=some sh->
  Calls P f #[.pointer (some ⟨b,0,none⟩)] w fun e w'=>e=.returned (.string .empty)/\w'=w.drew.alloc (.view a u)
def EL:Nat->Obj:=aj (fun _=>Obj.none) [(0,.dead),(1,.dead)]
theorem zgq{C:Cx}{T:TypeId}(hT:∀el,GO C el (E.length+2)->el=T){sl pt it st u:Nat}(W:z6z C.P f sl pt it st u)(hM:C.P.underlying pt=some (.pointer u))(hN:∃fn,C.P.funcs[f]?=some fn/\fn.body.isNone=false)(hO:C.P.underlying u=some (.int .u8))(ho:∀el,C.P.underlying el=some (.int .u8)->C.P.cellsOf el=1){s:Sl (den (.int .u8))}{S:nG}{x:ak S.ins.bQ}{y:ak S.outs.bQ}(hx:bB S.ins x=gh b s E)(hy:bB S.outs y=EL)(x1:(fill eg cW S.ins x).1=[.ptr 0 0])(y1:(fill eg cW S.outs y).1=[.d .str s.l])(hk:S.bD=[])(hS:S.f=f):DG C S x y:=by
 intro Y φ w zs hm hz;rw[hx] at hm hz;rw[x1] at hz;rw[hS,hx,hy,y1,hk];refine⟨hN,?_⟩;obtain⟨h0,z,r1,lo,hi,h1,h2,h3,_⟩:=zgp hT hm;obtain⟨z0,r,rfl,g1,g2⟩:=hz;have g2:r=[]:=g2;have g1:z0=.pointer (some ⟨(φ 0).block,(φ 0).off+0,none⟩):=g1;rw[h0] at g1;subst g1 g2
 have fin:∀(bs:ByteArray) (w':World),(bs.data.toList.map fun b=>(b.toNat:Int))=s.l->s.l.length<=cG->w.heap.size<=w'.heap.size->Bu w w'->(∀b',b'<w.heap.size->¬qd φ (gh b s E) b'->w'.heap[b']?=w.heap[b']?)->
   ∃fk φ' X',Ending.returned (.string bs)=.returned (DE fk)/\(∀b,Y b->X' b)/\MRel C X' φ' (EL) w'/\
    cu φ' (EL) (ag X' φ' (EL) w') w' [.d .str s.l] fk/\eU [] φ (gh b s E) w φ' (EL) w':=by
  intro bs w' hE hs hv hu he;have hc:∀id,EL id=.dead\/(gh b s E id=.none/\EL id=.none):=fun id=>by
   show dR (dR _ 0 _) 1 _ id=_\/(dR (dR _ 0 _) 1 _ id=_/\dR (dR _ 0 _) 1 _ id=_);by_cases h:id=1
   ·subst h;exact .inl rfl
   ·by_cases h':id=0
    ·subst h';exact .inl rfl
    ·refine .inr ⟨?_,?_⟩<;>rw[nJ h,nJ h']
  have hP:∀id a,aV a (EL id)=false:=fun id a=>by rcases hc id with h|⟨_,h⟩<;>rw[h]<;>rfl
  have hw:∀b',ag Y φ (gh b s E) w b'->ag Y φ (EL) w' b':=fun b' hb=>⟨jo hb.1 hv,hb.2.1,fun⟨id,e,_⟩=>by rw[hP id] at e;cases e⟩;refine⟨[.string bs],φ,Y,rfl,fun _ h=>h,⟨fun id=>?_,fun i j hi=>?_,fun i hi=>?_,fun b' hb=>jo (hm.xs b' hb) hv,fun id=>?_,fun g t x hg=>?_,hm.rT (fun b' hb=>he b' hb.1 hb.2.2)⟩,⟨.string bs,[],rfl,Od hE ?_,rfl⟩,⟨hv,he,fun b' ⟨id,e,_⟩=>?_,hu,fun id hi=>by cases hi⟩⟩
  ·rcases hc id with h|⟨_,h⟩<;>rw[h]<;>trivial
  ·grind
  ·grind
  ·rcases hc id with h|⟨_,h⟩<;>rw[h]<;>trivial
  ·refine Bs hw (fun b' hb=>he b' hb.1 hb.2.2) (fun id=>?_) _ _ (hm.fT g t x hg);rcases hc id with h|⟨h,h'⟩
   ·rw[h];cases gh b s E id<;>trivial
   ·rw[h];trivial
  ·rw[<-hE] at hs;simpa using hs
  grind
 have hF:=hm.ar 1;have hG:=hm.uA 1;rw[z6x] at hF hG;obtain⟨k1,k2,k3⟩:=hF;unfold au at h3;rw[z6x] at h3;have cell:∀z',z=z'->w.drew.cell? ⟨(φ 0).block,1,none⟩=some z':=fun z' e=>by have:w.drew.heap[(φ 0).block]?=_:=h1;rw[World.cell?,this,e];rfl
 have hu:Bu w w.drew:=⟨rfl,rfl⟩;have ht:(Builtin.unsafeString_ #[pt,it] st #[.pointer none,.int .i64 (0:Nat)]).run C.P w.drew=.ok (.string .empty) w.drew:=Lib.run_unsafeString_none w.drew _ _ _ none;rcases h3.2 rfl with ⟨hn,hq⟩|⟨hn,cap,hq,hQ,hX,hH⟩
 ·have hl:=k2 hn;have:=W.walk (φ 0).block none none 0 0 .empty w w.drew (cell _ hq) (Lib.run_unsafeSliceData_nil _ _ _ _ _) ht;refine Calls.mono this fun e w' ⟨e1,e2⟩=>?_;subst e1 e2;exact fin .empty w.drew (by rw[hl];rfl) k1 (zm _) hu (fun _ _ _=>rfl)
 ·obtain⟨m1,ec,m2,m3,m4,m5,_⟩:=(k3 hn).resolve_right fun g=>g.2.2 rfl;rw[Vz m1] at hq;obtain⟨c0,el,fz,q1,q2⟩:=hG rfl hn;have hI:w.drew.shape? (φ 1).block=some (el,c0.size):=by have:w.drew.heap[(φ 1).block]?=_:=q1;rw[World.shape?,this]
  have hA:qd φ (gh b s E) (φ 1).block:=⟨1,by rw[z6x];exact uZ hn m1,rfl⟩;by_cases hl:s.l=[]
  ·have hR:s.l.length=0:=by rw[hl];rfl
   rw[hR] at hq;by_cases hJ:cap=0
   ·subst hJ;have:=W.G6 (φ 0).block (φ 1) _ T (lo,hi) w h1 (by rw[hq];rfl) _ hI;refine Calls.mono this fun e w' ⟨e1,e2⟩=>?_;subst e1 e2;refine fin .empty _ (by rw[hl];rfl) k1 (by show w.heap.size<=(w.heap.push _).size;simp) ⟨rfl,rfl⟩ (fun b' hb _=>?_);exact Lib.alloc_old w.drew _ b' hb
   ·have:=W.walk (φ 0).block (some (φ 1)) (some (φ 1)) 0 cap .empty w w.drew (cell _ hq) (Lib.run_unsafeSliceData_row _ _ _ _ _ _ hJ) (Lib.run_unsafeString_none w.drew _ _ _ _);refine Calls.mono this fun e w' ⟨e1,e2⟩=>?_;subst e1 e2;exact fin .empty w.drew (by rw[hl];rfl) k1 (zm _) hu (fun _ _ _=>rfl)
  ·obtain⟨u1,u2⟩:=qrr m2;generalize hK:List.map (fun n:Int=>UInt8.ofNat n.toNat) s.l=l8;have hf:l8.length=s.l.length:=by rw[<-hK];simp
   have hB:l8.map (fun b=>(b.toNat:Int))=s.l:=by rw[<-hK];exact Iu u2
   have hC:l8≠[]:=fun e=>hl (by rw[<-hB,e];rfl);have hU:0<s.l.length:=ZN.2 hl;obtain⟨c5,el5,lo5,hY,r1,r2,r3⟩:=m5 rfl;rw[q1] at r1;injection r1 with r1;injection r1 with r4 r5 r6;subst r4;have hD:aB (.int .u8)=1:=rfl;rw[hD,Nat.mul_one] at r2;have hL:=qgb (P:=C.P) (w:=w.drew) pt it st u el hM hO q2.1 (ho el q2.1) (φ 1) c0.size hI l8 hC (by rw[hf];exact r2) (by rw[hf];unfold cG at k1;omega) (fun j x hx=>by
    have hb:(s.l)[j]?=some (x.toNat:Int):=by rw[<-hB,jZ,hx];rfl
    have hV:ec[j]?=some (.int .u8 (x.toNat:Int)):=by rw[u1,jZ,hb];rfl
    obtain⟨hj,e⟩:=zT.1 hV;have:=m3 j hj;rw[e] at this;rw[u7 m1];exact this)
   rw[hf] at hL;have:=W.walk (φ 0).block (some (φ 1)) (some (φ 1)) s.l.length cap ⟨l8.toArray⟩ w (w.drew.freeze (φ 1) s.l.length) (cell _ hq) (Lib.run_unsafeSliceData_row _ _ _ _ _ _ om) hL;refine Calls.mono this fun e w' ⟨e1,e2⟩=>?_;subst e1 e2;refine fin ⟨l8.toArray⟩ _ (by simpa using hB) k1 ?_ ?_ ?_
   ·unfold World.freeze;split
    all_goals simp_all
   ·unfold World.freeze;split<;>exact⟨rfl,rfl⟩
   ·intro b' hb hW;have hZ:b'≠(φ 1).block:=fun e=>hW (e▸hA);unfold World.freeze;split
    ·rfl
    ·show(w.heap.modify _ _)[b']?=_
     grind
end Ev
namespace Ev
open Go
variable{P:Program}{info:TypeId→Option TypeInfo}{i:TypeInfo}
def Wu:TypeDesc->Bool
 |.int _=>false
 |.named _ _=>false
 |_=>true
theorem qhh{fs:Array Field}(h:Made.reckonStruct info fs=some i):Wu i.desc=true:=by unfold Made.reckonStruct at h;simp only[Option.bind_eq_bind,zO,Option.pure_def] at h;obtain⟨_,_,h⟩:=h;split at h<;>(injection h with h;subst h;rfl)
theorem qv2{d:TypeDesc}(h:Made.reckon info d=some i):Wu i.desc=true:=by
 cases d<;>simp only[Made.reckon,Option.bind_eq_bind,zO,Option.pure_def,zU] at h
 case struct fs=>exact qhh h
 case pointer e=>
  obtain⟨a,_,h⟩:=h;split at h
  ·cases h
  ·split at h
   ·cases h
   ·simp only[zO,zU] at h;obtain⟨_,_,rfl⟩:=h;rfl
  ·simp only[zO,zU] at h;obtain⟨_,_,rfl⟩:=h;rfl
 case slice=>obtain⟨_,_,_,_,rfl⟩:=h;rfl
 case array=>obtain⟨_,_,_,_,rfl⟩:=h;rfl
 case map=>obtain⟨_,_,_,_,_,_,_,_,rfl⟩:=h;rfl
 case chan=>obtain⟨_,_,_,_,rfl⟩:=h;rfl
 case func=>obtain⟨_,_,rfl⟩:=h;rfl
 all_goals cases h
def isB:Option TypeDesc->Bool
 |some (.int .u8)=>true
 |_=>false
def QJ(P:Program):Nat->Bool
 |0=>true
 |n+1=>(!isB (P.underlying n)||Nat.beq (P.cellsOf n) 1)&&QJ P n
theorem qhj:∀(n:Nat),QJ P n=true->∀el,el<n->P.underlying el=some (.int .u8)->P.cellsOf el=1
 |0,_,el,h,_=>absurd h om
 |n+1,h,el,hl,hu=>by
  simp only[QJ,ze,jk] at h;by_cases e:el=n
  ·subst e;rcases h.1 with h1|h1
   ·rw[hu] at h1;simp[isB] at h1
   simp_all
  ·exact qhj n h.2 el om hu
theorem qv3(h:QJ P P.types.size=true)(el:TypeId)(hu:P.underlying el=some (.int .u8)):P.cellsOf el=1:=by
 refine qhj _ h el ?_ hu;refine zF fun hn=>?_;cases e:P.info? el with
 |none=>simp[Program.underlying,e] at hu
 |some i=>
  have hi:Wu i.desc=true:=by unfold Tables.info? at e;rw[zj hn] at e;have e:Made.infoAt P.toTables (99+1) el=some i:=e;unfold Made.infoAt at e;rw[zj hn] at e;obtain⟨d,_,hd⟩:=zO.1 e;exact qv2 hd
  unfold Program.underlying at hu;rw[e] at hu;obtain⟨d,_,_,_,_,_,_,_,_,_⟩:=i;cases d<;>simp only[Wu] at hi<;>first|(cases hi;done)|(simp at hu;done)
end Ev
namespace Ev
open Go Go.Shelf Go.RowKit Go.Proofs Go.Sort
variable{α:Type}{f k:Nat}{t:Ty}{w:World}
theorem qnh{enc:α->List Value}(hk:∀x,(enc x).length=k):∀(l:List α) (i:Nat) (hi:i<l.length) (j:Nat),j<k->(l.map enc).flatten[i*k+j]?=(enc l[i])[j]?
 |x::r,0,_,j,hj=>by grind
 |x::r,i+1,hi,j,hj=>by
  simp only[zX,ja,List.getElem_cons_succ];rw[zM (by rw[hk,jY,Nat.one_mul];omega),hk];have:(i+1)*k+j-k=i*k+j:=by rw[jY,Nat.one_mul];omega
  rw[this];exact qnh hk r i (by simpa using hi) j hj
theorem Wv{enc:α->List Value}(hk:∀x,(enc x).length=k):∀l:List α,(l.map enc).flatten.length=l.length*k
 |[]=>by simp
 |x::r=>by simp only[zX,ja,zd,hk,Wv hk r,zn,jY,Nat.one_mul];omega
theorem qs7{β:Type}{enc:α->List Value}{iJ:α->β}{R:β->List Value->Prop}:∀(l:List α) (_:∀x,x∈l->∀cs,R (iJ x) cs↔cs=enc x) (ec:List Value),bT R (l.map iJ) ec↔ec=(l.map enc).flatten
 |[],_,ec=>Iff.rfl
 |x::r,h,ec=>by
  simp only[zX,ja];have h1:=fun c=>h x (zg ..) c;have h2:=qs7 r fun y hy=>h y (zf _ hy);constructor
  ·rintro⟨c,d,e,g1,g2⟩;rw[e,(h1 c).1 g1,(h2 d).1 g2]
  ·intro e;exact⟨_,_,e,(h1 _).2 rfl,(h2 _).2 rfl⟩
theorem qv4[Inhabited α]{enc:α->List Value}(hk:∀x,(enc x).length=k)(l:List α)(t:Nat)(ht:t<l.length*k):(l.map enc).flatten[t]?=some (flatK enc k l.toArray)[t]! :=by
 have hc:0<k:=by grind
 have hi:t / k<l.length:=(Nat.div_lt_iff_lt_mul hc).2 ht;have hm:t % k<k:=Nat.mod_lt _ hc;have e:t / k*k+t % k=t:=Nat.div_add_mod' t k;rw[get_flatK enc k l.toArray t (by simpa using ht)];have h:=qnh hk l (t / k) hi (t % k) hm
 grind
theorem qp7[Inhabited α]{enc:α->List Value}{kh off n:Nat}{d:Array α}{os:Array Go.Obj}(hb:kh<w.heap.size):w.heap.size<=(sortWorldK enc k w kh off n d os).heap.size/\(∀b,b<w.heap.size->b≠kh->(sortWorldK enc k w kh off n d os).heap[b]?=w.heap[b]?)/\(∀c el fz,w.heap[kh]?=some (.cells c el fz)->(sortWorldK enc k w kh off n d os).heap[kh]?=some (.cells (putCells id off (flatK enc k d) c) el fz)):=by
 have he:(putRowK enc k (Sort.ahead w n) kh off d).heap.size=w.heap.size:=Go.Proofs.size_putRow _ _ _ _ _;have hc:∀b,b<w.heap.size->(sortWorldK enc k w kh off n d os).heap[b]?=(putRowK enc k (Sort.ahead w n) kh off d).heap[b]?:=by
  intro b hb;show((putRowK enc k (Sort.ahead w n) kh off d).heap++os)[b]?=_
  grind
 refine⟨?_,fun b hb hf=>?_,fun c el fz h=>?_⟩
 ·grind
 ·rw[hc b hb];show(w.heap.modify kh _)[b]?=_
  grind
 ·rw[hc kh hb];show(w.heap.modify kh _)[kh]?=_;rw[Zf,zu rfl,h];rfl
def nY(s:Sl (den t)):Nat->Obj:=aj (fun _=>Obj.none) [(0,.vec t 0 false s)]
theorem Ww{s:Sl (den t)}:nY s 0=.vec t 0 false s:=rfl
theorem z71{s:Sl (den t)}{id:Nat}(h:id≠0):nY s id=.none:=by show dR (fun _=>Obj.none) 0 _ id=_;rw[nJ h]
theorem z0b{s s':Sl (den t)}:aj (nY s) [(0,.vec t 0 false s')]=nY s':=by
 funext id;show dR (nY s) 0 _ id=_;by_cases h:id=0
 ·subst h;rw[gq];rfl
 ·rw[nJ h,z71 h,z71 h]
theorem z73{C:Cx}[Inhabited α](enc:α->List Value)(iJ:α->den t)(P:α->Prop)(oZ:List α->List α)(ht:t≠.int .u8)(hrel:∀imm w x,P x->∀cs,az imm w t (iJ x) cs↔cs=enc x)(hk:∀x,(enc x).length=aB t)(hA:∀l,(oZ l).length=l.length)(hB:∀l x,x∈oZ l->x∈l)(hM:∃fn,C.P.funcs[f]?=some fn/\fn.body.isNone=false){fv:List Value}(h0:∀p cap w,Calls C.P f (.slice p 0 cap::fv).toArray w fun e w'=>e=.returned (.tuple #[])/\w'=w)(hs:∀kh off cap (d:Array α) w,HoldsK enc (aB t) w kh off d->kh<w.heap.size->d.size<4611686018427387904->Calls C.P f (.slice (some ⟨kh,off,none⟩) d.size cap::fv).toArray w fun e w'=>e=.returned (.tuple #[])/\∃n os,w'=sortWorldK enc (aB t) w kh off n (oZ d.toList).toArray os)(nil:Bool)(l:List α)(hP:∀x,x∈l->P x)(hl:l.length<4611686018427387904){es:List V}(he:∀φ o imm w zs,cu φ o imm w es zs->zs=fv){S:nG}{x:ak S.ins.bQ}{y:ak S.outs.bQ}(hx:bB S.ins x=nY ⟨nil,l.map iJ⟩)(hy:bB S.outs y=nY ⟨nil,(oZ l).map iJ⟩)(x1:(fill eg cW S.ins x).1=.cC 0 0::es)(y1:(fill eg cW S.outs y).1=[])(hN:S.bD=[0])(hS:S.f=f):DG C S x y:=by
 intro X φ w zs hm hz;rw[hx] at hm hz;rw[x1] at hz;rw[hS,hx,hy,y1,hN];refine⟨hM,?_⟩;obtain⟨z0,r0,rfl,g1,g2⟩:=hz;obtain rfl:=he _ _ _ _ _ g2;have ho:=hm.ar 0;rw[Ww] at ho;obtain⟨k1,k2,k3⟩:=ho;unfold au at g1;rw[Ww] at g1;have g1:=g1.2 rfl;by_cases hJ:l=[]
 ·subst hJ;have hC:oZ []=[]:=List.length_eq_zero_iff.1 (by rw[hA];rfl);have hD:∃p cap,z0=.slice p 0 cap:=by
   rcases g1 with ⟨_,e⟩|⟨_,cap,e,_⟩
   all_goals grind
  obtain⟨p,cap,rfl⟩:=hD;refine Calls.mono (h0 p cap w) fun e w' ⟨e1,e2⟩=>?_;subst e1 e2;rw[hC];exact⟨[],φ,X,rfl,fun _ h=>h,hm,rfl,eU.refl _ _ _ _⟩
 ·have hK:l.map iJ≠[]:=fun e=>hJ (Jm.1 e);have hn:nil=false:=by
   cases nil with
   |false=>rfl
   |true=>exact absurd (k2 rfl) hK
  subst hn;obtain⟨m1,ec,m2,m3,m4,m5,_⟩:=(k3 rfl).resolve_right fun g=>hK g.2.1;have hO:ec=(l.map enc).flatten:=(qs7 l (fun x hx cs=>hrel _ _ x (hP x hx) cs) ec).1 m2;obtain⟨cap,hD,hQ⟩:∃cap,z0=.slice (some (φ 0)) l.length cap/\l.length<=cap:=by
   rcases g1 with ⟨e,_⟩|⟨_,cap,e,h1,h2,h3⟩
   ·cases e
   ·rw[Vz m1,zI] at e
    grind
  subst hD;obtain⟨c,el,lo,hi,r1,r2,r3⟩:=m5 rfl;have hE:aV (φ 0) (nY (t:=t) ⟨false,l.map iJ⟩ 0)=true:=by rw[Ww];exact uZ rfl m1
  obtain⟨hb,hX⟩:=hm.sep 0 hE;have hF:(l.map iJ).length=l.length:=zI ..;have r2:(φ 0).off+l.length*aB t<=c.size:=by rw[<-hF];exact r2
  have r3:hi<=lo\/hi<=(φ 0).off\/(φ 0).off+l.length*aB t<=lo:=by rw[<-hF];exact r3
  have eφ:(⟨(φ 0).block,(φ 0).off,none⟩:Addr)=φ 0:=(VA m1).symm.trans (Vz m1);have hH:HoldsK enc (aB t) w (φ 0).block (φ 0).off l.toArray:=by
   intro j hj;rw[size_flatK] at hj;have hj:j<l.length*aB t:=by simpa using hj
   have hR:j<ec.length:=by rw[hO,Wv hk];exact hj
   refine⟨?_,?_⟩
   ·rw[m3 j hR];have:=qv4 hk l j hj
    grind
   ·rw[World.frozen?,r1]
    grind
  have hf:=hs (φ 0).block (φ 0).off cap l.toArray w hH hb (by simpa using hl);rw[eφ] at hf;have esz:l.toArray.size=l.length:=Ja ..;rw[esz] at hf;refine Calls.mono hf fun e w' ⟨e1,n,os,e2⟩=>?_;subst e1;have etl:l.toArray.toList=l:=rfl;rw[etl] at e2;obtain⟨q1,q2,q3⟩:=qp7 (enc:=enc) (k:=aB t) (off:=(φ 0).off) (n:=n) (d:=(oZ l).toArray) (os:=os) hb;rw[<-e2] at q1 q2 q3;have q3:=q3 c el (lo,hi) r1;have hv:(oZ l).length=l.length:=hA l;have hG:(putCells id (φ 0).off (flatK enc (aB t) (oZ l).toArray) c).size=c.size:=by simp[putCells]
  have hg:∀m,room w (φ 0) m->room w' (φ 0) m:=by intro m ⟨c',Qd,Dn,hY,h1,h2,h3⟩;rw[r1] at h1;injection h1 with h1;injection h1 with h4 h5 h6;injection h6 with h6 h7;subst h4 h5 h6 h7;exact⟨_,_,lo,hi,q3,by rw[hG];exact h2,h3⟩
  have hT:Bu w w':=by rw[e2];exact⟨rfl,rfl⟩
  have hc:Comes C X φ φ (nY (t:=t) ⟨false,l.map iJ⟩) [(0,.vec t 0 false ⟨false,(oZ l).map iJ⟩)] w w' .undef undef:=by
   have hI:aj (nY (t:=t) ⟨false,l.map iJ⟩) [(0,.vec t 0 false ⟨false,(oZ l).map iJ⟩)] 0=.vec t 0 false ⟨false,(oZ l).map iJ⟩:=by rw[z0b];rfl
   have hw:∀i,i∈bU [((0:Nat),Obj.vec t 0 false ⟨false,(oZ l).map iJ⟩)]->i=0:=fun i hi=>by simpa[bU] using hi
   refine Comes.make hm q1 (fun b hb hh=>q2 b hb fun e=>hh ⟨0,by simp[bU],hE,e.symm⟩) (fun _ _=>rfl) (fun _ _ _=>rfl) (fun i hq=>?_) (fun i hq h=>?_) (fun i j hq hU _ _ _ _=>?_) (fun h1 h2 h3 i hq=>?_) (fun i hq=>?_) (fun _ _ _=>rfl) hT
   ·rw[hw i hq,hI,Ww];exact .inr ⟨rfl,rfl,rfl,by simp[hv],rfl,fun _=>⟨rfl,fun _ _ m=>hg m⟩⟩
   ·rw[hw i hq];exact .inr ⟨hE,rfl⟩
   ·rw[hw i hq,hw j hU]
   ·rw[hw i hq,hI];refine⟨(by rw[zI,hv,<-hF];exact k1),(fun h=>by cases h),fun _=>.inl ⟨m1,_,(qs7 (oZ l) (fun x hx cs=>hrel _ _ x (hP x (hB l x hx)) cs) _).2 rfl,fun j hj=>?_,hg 0 m4,fun _=>?_,(fun h=>by cases h)⟩⟩
    ·rw[Wv hk,hv] at hj;have hu:=qv4 hk (oZ l) j (by rw[hv];exact hj);rw[zh (by rw[Wv hk,hv];exact hj)] at hu;injection hu with hu;rw[hu];rw[World.cell?];simp only;rw[q3];simp only;have hV:(φ 0).off+j<c.size:=om
     rw[zj dc];show(putCells id (φ 0).off (flatK enc (aB t) (oZ l).toArray) c)[(φ 0).off+j]?=_;unfold putCells;rw[Array.getElem?_mapIdx,ZL hV,ZT];have hW:(flatK enc (aB t) (oZ l).toArray).size=l.length*aB t:=by rw[size_flatK];simp[hv]
     rw[zu ⟨by omega,by rw[hW];omega⟩];have:(φ 0).off+j-(φ 0).off=j:=om
     rw[this];rfl
    ·show room w' (φ 0) (((oZ l).map iJ).length*aB t);rw[zI,hv];exact hg _ ⟨c,el,lo,hi,r1,r2,r3⟩
   ·rw[hw i hq,hI];exact fun h=>absurd h ht
  have hL:=hc.mem;have hh:=(eU.refl [0] φ (nY (t:=t) ⟨false,l.map iJ⟩) w).step hc;rw[z0b] at hL hh;exact⟨[],φ,X,rfl,fun _ h=>h,hL,rfl,hh⟩
section
variable {α:Type} [Inhabited α] {enc:α→Value} {w:World} {kh off:Nat} {d:Array α}
theorem zn5(h:HoldsK (fun x=>[enc x]) 1 w kh off d):Holds enc w kh off d:=fun j hj=>by have:=h j (by rw[size_flatK];omega);rw[get_flatK _ _ _ _ om,Nat.div_one,Nat.mod_one] at this;exact this
theorem zk1:putRow enc w kh off d=putRowK (fun x=>[enc x]) 1 w kh off d:=by
 unfold putRowK putRow;congr 1;funext c;unfold putCells;rw[size_flatK,Nat.mul_one];congr 1;funext k x;split
 ·rw[get_flatK _ _ _ _ om,Nat.div_one,Nat.mod_one];rfl
 ·rfl
end
end Ev
namespace Ev
open Go Go.Shelf Go.RowKit Go.Proofs Go.Lib
variable {P:Program} {ρ:Shelf.Ren}
theorem qqa:∀l:List UInt8,countByte l 45=0->uE l=l
 |[],_=>rfl
 |b::l,h=>by
  unfold countByte at h;have hb:b≠45:=fun e=>by rw[e,List.count_cons_self] at h;omega
  rw[List.count_cons_of_ne (fun e=>hb e)] at h;unfold uE;rw[zj hb,qqa l h]
theorem qqb:∀l:List UInt8,countByte l 45≠0->∃i:Nat,indexByte l 45=(i:Int)/\i<l.length/\uE l=l.take i++([126]++l.drop (i+1))
 |[],h=>absurd rfl h
 |b::l,h=>by
  by_cases hb:b=45
  ·subst hb;exact⟨0,rfl,by simp,by unfold uE;simp⟩
  ·unfold countByte at h;rw[List.count_cons_of_ne (fun e=>hb e)] at h;obtain⟨i,h1,h2,h3⟩:=qqb l h;refine⟨i+1,?_,by simp only[zn];omega,?_⟩
   ·unfold indexByte;have e1:(b==45)=false:=ZP.2 hb;have e2:((i:Int)==-1)=false:=ZP.2 om;rw[h1,e1,e2];rfl
   ·unfold uE;rw[zj hb,h3];rfl
theorem zgr:(⟨#[45]⟩:ByteArray)≠⟨#[126]⟩:=by intro h;injection h with h;exact absurd h dc
theorem zcr(L:Lays.n154 P ρ)(s:ByteArray)(w:World)(hc:countByte s.data.toList 45=0):Calls P (ρ.f 154) #[.string s,.string ⟨#[45]⟩,.string ⟨#[126]⟩,.int .i64 1] w fun e w'=>e=.returned (.string s)/\w'=w:=by
 have hC:=Any.strings_Count_one {L with} s 45 w;rw[hc] at hC;have he:=(Lib.bytes_beq_false_iff (⟨#[45]⟩:ByteArray) ⟨#[126]⟩).2 zgr;have t3:=L.t3;have a3:=L.a3;have z3:=L.z3;have v3:=L.v3;have t9:=L.t9;have a9:=L.a9;have z9:=L.z9;have v9:=L.v9;have t4:=L.t4;have a4:=L.a4;have z4:=L.z4;have v4:=L.v4;have aag:∀args w,(callFunc (ρ.f 138) args).run P w=.ok (.enter (ρ.f 138) args) w:=enters_of L.f138 (by kernel_rfl) rfl
 go_enter L.f154,Body.n154_ntmps ρ
 go_wp2_with (first|(go_at_fn (ρ.f 138);refine hC.mono ?_;rintro e w' ⟨rfl,hw⟩;rw[hw]))
 go_ret
 exact⟨rfl,rfl⟩
theorem xX{p:Prop}(h:p):Hid p:=h
set_option maxHeartbeats 4000000 in
set_option maxRecDepth 1000000 in
theorem zcs(L:Lays.n154 P ρ)(X:Builder.Extra P ρ)(s:ByteArray)(w:World)(hs:s.size<=1000)(ho:countByte s.data.toList 45≠0):Calls P (ρ.f 154) #[.string s,.string ⟨#[45]⟩,.string ⟨#[126]⟩,.int .i64 1] w fun e w'=>e=.returned (.string ⟨(uE s.data.toList).toArray⟩)/\Below w.heap.size w w':=by
 have hC:=Any.strings_Count_one {L with} s 45 w;obtain⟨i,hz,hA,hq⟩:=qqb s.data.toList ho;obtain⟨cn,hB⟩:∃cn:Nat,countByte s.data.toList 45=cn:=⟨_,rfl⟩;rw[hB] at hC ho;have hk:s.data.toList.length=s.size:=(Lib.size_eq s).symm;rw[hk] at hA;have HI3:=xX hq;clear hq;have hD:=(Lib.bytes_beq_false_iff (⟨#[45]⟩:ByteArray) ⟨#[126]⟩).2 zgr;have hH:((cn:Int)==0)=false:=ZP.2 om;have hI:¬((cn:Int)<1):=om
 have mixed:=L.mixed;have t72:=L.t72;have a72:=L.a72;have z72:=L.z72;have v72:=L.v72;have u72:=run_underlying L.t72;have t70:=L.t70;have a70:=L.a70;have z70:=L.z70;have v70:=L.v70;have u70:=run_underlying L.t70;have t37:=L.t37;have a37:=L.a37;have z37:=L.z37;have v37:=L.v37;have u37:=run_underlying L.t37;have t3:=L.t3;have a3:=L.a3;have z3:=L.z3;have v3:=L.v3;have u3:=run_underlying L.t3;have t9:=L.t9;have a9:=L.a9;have z9:=L.z9;have v9:=L.v9;have u9:=run_underlying L.t9;have t4:=L.t4;have a4:=L.a4;have z4:=L.z4;have v4:=L.v4;have u4:=run_underlying L.t4;have aag:∀args w,(callFunc (ρ.f 138) args).run P w=.ok (.enter (ρ.f 138) args) w:=enters_of L.f138 (by kernel_rfl) rfl;have afR:∀args w,(callFunc (ρ.f 143) args).run P w=.ok (.enter (ρ.f 143) args) w:=enters_of L.f143 (by kernel_rfl) rfl;have afS:∀args w,(callFunc (ρ.f 165) args).run P w=.ok (.enter (ρ.f 165) args) w:=enters_of L.f165 (by kernel_rfl) rfl;have afT:∀args w,(callFunc (ρ.f 166) args).run P w=.ok (.enter (ρ.f 166) args) w:=enters_of L.f166 (by kernel_rfl) rfl;have afU:∀args w,(callFunc (ρ.f 169) args).run P w=.ok (.enter (ρ.f 169) args) w:=enters_of L.f169 (by kernel_rfl) rfl
 go_enter L.f154,Body.n154_ntmps ρ
 go_wp2_with (first|(go_at_fn (ρ.f 138);refine hC.mono ?_;rintro e w' ⟨rfl,hw⟩;rw[hw]))
 refine(Any.Builder_Grow_fresh {L with} X w.heap.size w.heap.size s.size _ (zm _) (heap_alloc_new w _) (by simp) om).mono ?_;rintro e w1 ⟨rfl,ht,hu⟩;have H1:=xX (Or.inr ht:Lib.IsBuilder (ρ.t 72) (ρ.t 5) w.heap.size w.heap.size (Lib.byteCells []) w1);have Hb1:=xX (((Below.refl w.heap.size w).alloc (zm _) _).trans hu);clear ht hu hC
 go_wp2_with fail
 go_loopg [11,53] 1 (fun g s11 s53 wx=>∃(k start:Nat) (acc:List UInt8),s53=.int .i64 k/\s11=.int .i64 start/\k+g=1/\Hid (Lib.IsBuilder (ρ.t 72) (ρ.t 5) w.heap.size w.heap.size (Lib.byteCells acc) wx)/\
  Hid (Below w.heap.size w wx)/\start<=s.size/\acc.length<=1000/\Hid ((g=1/\start=0/\acc=[])\/(g=0/\start=i+1/\acc=s.data.toList.take i++[126])))
 case atStart=>exact⟨0,0,[],rfl,rfl,rfl,H1,Hb1,zC _,zC _,xX (.inl ⟨rfl,rfl,rfl⟩)⟩
 case round=>
  obtain⟨k,start,acc,rfl,rfl,hJ,HB,HW,hK,hE,HR⟩:=hrel;have hm:w.heap.size<=wr.heap.size:=HW.out.size;have c1:(0:Int)<=(start:Int):=om
  have c2:(start:Int)<=(s.size:Int):=om
  cases gk with
  |zero=>
   have hF:¬((k:Int)<1):=om
   go_wp2_with fail
   obtain⟨hc,hn⟩:start=i+1/\acc=s.data.toList.take i++[126]:=by
    rcases HR.out with ⟨h,_⟩|⟨_,h1,h2⟩
    ·exact absurd h dc
    ·exact⟨h1,h2⟩
   refine(Any.Builder_WriteString {L with} X w.heap.size w.heap.size _ _ wr HB.out (by rw[Lib.byteCells_length,Zv];omega) hm).mono ?_;rintro e w3 ⟨rfl,h3,hj⟩;have hl:acc++s.data.toList.drop start=uE s.data.toList:=by rw[hn,hc,HI3.out,zk]
   rw[Lib.strCells_eq,Lib.extract_to_end,<-Lib.byteCells_append,hl] at h3;have H3:=xX (Or.inr h3:Lib.IsBuilder (ρ.t 72) (ρ.t 5) w.heap.size w.heap.size (Lib.byteCells (uE s.data.toList)) w3);have Wx:=xX (HW.out.trans hj);have hf:w.heap.size<=w3.heap.size:=Wx.out.size;clear h3 hj hl
   go_wp2_with fail
   refine(Any.Builder_String_any {L with} X w.heap.size w.heap.size _ w3 H3.out hf).mono ?_;rintro e w5 ⟨rfl,hv⟩;have Hb5:=xX (Wx.out.trans hv);clear hv
   go_wp2
   go_ret
   exact⟨rfl,Hb5.out⟩
  |succ g=>
   have hF:(k:Int)<1:=om
   obtain⟨hg,hc,hn⟩:g=0/\start=0/\acc=[]:=by
    rcases HR.out with ⟨h,h1,h2⟩|⟨h,_⟩
    ·exact⟨by omega,h1,h2⟩
    ·exact absurd h om
   subst hg hc hn;have hG:k=0:=om
   subst hG;have c3:(0:Int)<=(i:Int):=om
   have c4:(i:Int)<=(s.size:Int):=om
   go_wp2_with (first|(go_at_fn (ρ.f 143);refine(Any.strings_Index_one {L with} _ 45 _).mono ?_;rintro e w' ⟨rfl,hw⟩;rw[hw,hz]))
   refine(Any.Builder_WriteString {L with} X w.heap.size w.heap.size _ (s.extract 0 i) wr HB.out (by rw[Lib.byteCells_length,Zv];simp only[zQ];omega) hm).mono ?_;rintro e w3 ⟨rfl,h3,hj⟩;have hf:w.heap.size<=w3.heap.size:=je hm hj.size;have H3:=xX h3;have Wx:=xX hj;clear h3 hj
   go_wp2_with fail
   refine(Any.Builder_WriteString {L with} X w.heap.size w.heap.size _ ⟨#[126]⟩ w3 (Or.inr H3.out) (by rw[zd,Lib.byteCells_length,Lib.strCells_length,Zv];simp only[zQ];have:(⟨#[126]⟩:ByteArray).size=1:=rfl;omega) hf).mono ?_;rintro e w4 ⟨rfl,h4,hx⟩;have he:Lib.byteCells []++Lib.strCells (s.extract 0 i)++Lib.strCells ⟨#[126]⟩=Lib.byteCells (s.data.toList.take i++[126]):=by rw[Lib.strCells_eq,Lib.strCells_eq,Lib.extract_data,Nat.sub_zero,jh,<-Lib.byteCells_append,<-Lib.byteCells_append];rfl
   rw[he] at h4;have H4:=xX (Or.inr h4:Lib.IsBuilder (ρ.t 72) (ρ.t 5) w.heap.size w.heap.size (Lib.byteCells (s.data.toList.take i++[126])) w4);have Hb4:=xX ((HW.out.trans Wx.out).trans hx);have hy:(s.data.toList.take i++[126]).length<=1000:=by rw[zd,jv,zB];omega
   have HL:=xX hy;clear h4 hx he hy
   go_wp2
   go_roundg 0
   case measure=>omega
   case rel=>exact⟨1,i+1,_,by first|rfl|(simp;unfold wrap64;omega),by first|rfl|simp|(simp;unfold wrap64;omega),rfl,H4,Hb4,by omega,HL.out,xX (.inr ⟨rfl,rfl,rfl⟩)⟩
theorem zct(L:Lays.n154 P ρ)(X:Builder.Extra P ρ)(s:ByteArray)(w:World)(hs:s.size<=1000):Calls P (ρ.f 154) #[.string s,.string ⟨#[45]⟩,.string ⟨#[126]⟩,.int .i64 1] w fun e w'=>e=.returned (.string ⟨(uE s.data.toList).toArray⟩)/\Below w.heap.size w w':=by
 by_cases hc:countByte s.data.toList 45=0
 ·refine(zcr L s w hc).mono fun e w' ⟨h1,h2⟩=>⟨?_,h2▸Below.refl _ _⟩;rw[h1,qqa _ hc,ZH]
 ·exact zcs L X s w hs hc
end Ev