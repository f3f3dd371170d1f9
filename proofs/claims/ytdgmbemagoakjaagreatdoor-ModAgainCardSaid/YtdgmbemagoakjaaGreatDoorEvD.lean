/- Operations are sound: building, making, appending, storing, copying, comparing. -/
import Derived.Test.YtdgmbemagoakjaaGreatDoorEvC
import Derived.Laws.RangeAny
namespace Ev
open Go
variable{α:Type}{zparts:Array (Nat×Value)}{c:Array Value}{u:List (Nat×Obj)}{parts:List (Nat×V)}{ts:List TypeId}{ds news olds:List Value}{b fr k m n off r7 tid v':Nat}{fz:Nat×Nat}{base:Option Addr}{P:Program}{e:Ty}{ei el t:TypeId}{i:TypeInfo}{v x y:V}{z zx zy:Value}{w:World}
section
variable {P:Program} {C:Cx} {X:Nat→Prop} {φ φ':Nat→Addr} {o o':Nat→Obj} {w w':World} {imm imm':Nat→Prop}
def Dz(φ:Nat->Addr)(o:Nat->Obj)(imm:Nat->Prop)(w:World):List (Nat×V)->List (Nat×Value)->Prop
 |[],zs=>zs=[]
 |p::l,zs=>∃z r,zs=(p.1,z)::r/\au φ o imm w p.2 z/\Dz φ o imm w l r
theorem qmj(h:∀x z,au φ o imm w x z->au φ' o' imm' w' x z):∀(l:List (Nat×V)) (zs:List (Nat×Value)),Dz φ o imm w l zs->Dz φ' o' imm' w' l zs
 |[],_,h1=>h1
 |_::l,_,⟨a,r,h1,h2,h3⟩=>⟨a,r,h1,h _ _ h2,qmj h l _ h3⟩
theorem qu2{cs vs:List V}{zs ys:List Value}(off:Nat)(h:cu φ o imm w cs zs)(h':cu φ o imm w vs ys):cu φ o imm w (NY cs off vs) (ov zs off ys):=by unfold NY ov;rw[Bw h'];exact GX (GX (P8 off h) h') (P7 _ h)
theorem qxc{fs:List Field}{places:Array (Nat×Nat)}(hp:∀(i:Nat) fd b n,fs[i]?=some fd->xC C.P fd.type=some (b,n)->places[i]?=some (fd.offset,n)):∀(parts:List (Nat×V)) (zparts:List (Nat×Value)) (cs mO:List V) (cells:Array Value),Dz φ o imm w parts zparts->cu φ o imm w cs cells.toList->Vh C o fs parts cs=some mO->∃ef,Instr.fill (places[·]?) cells zparts=some ef/\cu φ o imm w mO ef.toList:=by
 intro parts
 induction parts with
 |nil=>intro zparts cs mO cells h1 h2 h;simp[Dz] at h1;subst h1;injection h with h;subst h;exact⟨cells,rfl,h2⟩
 |cons p r ih=>
  intro zparts cs mO cells ⟨z,zr,e,h1,hc⟩ h2 h;subst e;simp[Vh] at h;split at h
  ·rename_i fd vs h3 h4;split at h
   ·rename_i b n hk;cases hb:(Nat.beq vs.length n&&Nat.ble (fd.offset+n) cs.length) with
    |false=>rw[hb] at h;cases h
    |true=>
     rw[hb] at h;rw[ze] at hb;have he:=zo hb.1;have hf:=zP hb.2;have⟨g1,g2⟩:=qg6 h1 h4;have l1:=Bw g1;have l2:=Bw h2;simp[Array.length_toList] at l1 l2;have:=ih zr _ _ (ov cells.toList fd.offset z.cells.toList).toArray hc (by simpa using qu2 fd.offset h2 g1) h
     rwa [<-qtz (places[·]?) cells p.1 z zr (hp _ _ _ _ h3 hk) om om] at this
   ·cases h
  ·cases h
theorem qmk(hm:MRel C X φ o w)(hT:oV C ei e):∀(parts:List (Nat×V)) (zparts:List (Nat×Value)) (l l':List (den e)) (cells:Array Value),Dz φ o (ag X φ o w) w parts zparts->(∀p,p∈parts->Ix o p.2)->bT (az (ag X φ o w) w e) l cells.toList->GH lf o e parts l=some l'->∃ef,Instr.fill (fun i=>some (i*aB e,aB e)) cells zparts=some ef/\bT (az (ag X φ o w) w e) l' ef.toList/\l'.length=l.length:=by
 intro parts
 induction parts with
 |nil=>intro zparts l l' cells h1 _ h2 h;simp[Dz] at h1;subst h1;injection h with h;subst h;exact⟨cells,rfl,h2,rfl⟩
 |cons p r ih=>
  intro zparts l l' cells ⟨z,zr,e1,h1,hg⟩ hf h2 h;simp[GH] at h;split at h
  ·rename_i x h3;cases hb:Nat.blt p.1 l.length with
   |false=>rw[hb] at h;cases h
   |true=>
    rw[hb] at h;have he:p.1<l.length:=zP hb;have hr:=qzi hm h1 (hf p (zg ..)) h3;have hc:=qpq hT hr;have l1:=ke _ _ _ hc;have l2:=rR h2;simp[Array.length_toList] at l1 l2;have hj:(p.1+1)*aB e<=l.length*aB e:=jt _ he;rw[Zm] at hj;have h4:bT (az (ag X φ o w) w e) (l.set p.1 x) (ov cells.toList (p.1*aB e) z.cells.toList):=by have:=VS (i:=p.1) (m:=[x]) (by exact he) h2 ⟨_,[],(zv _).symm,hc,rfl⟩;rw[ZW,zu he];simpa using this
    obtain⟨ef,g1,g2,g3⟩:=ih zr _ _ (ov cells.toList (p.1*aB e) z.cells.toList).toArray hg (fun q hq=>hf q (zf _ hq)) (by simp_all) h;rw[<-qtz (fun i=>some (i*aB e,aB e)) cells p.1 z zr rfl l1 om] at g1
    grind
  ·cases h
theorem qml(ks:List Nat)(e:Ty):∀(parts:List (Nat×V)) (l:List (den e)),GH lf (aj o (eY o ks)) e parts l=GH lf o e parts l:=by
 intro parts
 induction parts with
 |nil=>intro l;rfl
 |cons p r ih=>intro l;simp[GH,qzh,ih]
theorem qmm:∀{parts:List (Nat×V)} {p:Nat×V},p∈parts->∀id,id∈ig o p.2->id∈AB o parts
 |q::r,p,h,id,hi=>by
  rcases zA.1 h with rfl|h
  ·exact zN _ hi
  ·exact zG _ (qmm h id hi)
theorem qfg:∀{fs:List Field},Vi P fs=true->∃places,fs.mapM (fun f=>(P.info? f.type).map fun i=>(f.offset,i.size))=some places/\∀(i:Nat) fd b n,fs[i]?=some fd->xC P fd.type=some (b,n)->places[i]?=some (fd.offset,n)
 |[],_=>⟨[],rfl,fun i fd b n h=>by simp at h⟩
 |f::r,h=>by
  simp[Vi] at h;split at h
  ·rename_i bn hk;have⟨b,n⟩:=bn;have⟨i,d,g1,g2,_⟩:=GW hk;have⟨places,h1,h2⟩:=qfg h;refine⟨(f.offset,i.size)::places,?_,fun j fd b' n' hj hc=>?_⟩
   ·simp_all
   grind
  ·cases h
theorem z2y(hC:cS C)(hm:MRel C X φ o w)  (hx:Dz φ o (ag X φ o w) w parts zparts.toList) (h:(YT lf C o t parts).aD v u):ck C X φ o w v u (Instr.build t zparts):=by
 unfold YT at h;split at h
 ·rename_i fs hd;have hu:=nV hd;rw[eT] at h;have⟨hk,h⟩:=h;have⟨places,hf,hs⟩:=qfg hk;split at h
  ·rename_i cs hj;split at h
   ·rename_i mO hb;obtain⟨rfl,rfl⟩:=h;obtain⟨i,z,k1,k2,rfl⟩:=qps hj;obtain⟨ef,g1,g2⟩:=qxc (places:=places.toArray) (by simp_all) _ _ _ _ z.cells hx (qmi _) hb;refine ck.aW hm ⟨rfl,.agg ef,?_,qtv hm g2⟩;have g1':Instr.fill (fun x=>places[x]?) z.cells zparts.toList=some ef:=by simp_all
    simp[Instr.build,run_underlying hu,GV k1 k2,Array.mapM_eq_mapM_toList,run_places w _ _ hf,g1']
   ·cases h
  ·cases h
 ·rename_i n ei hd;have hu:=nV hd;split at h
  ·rename_i n' e he;rw[eT] at h;have⟨hn,h⟩:=h;split at h
   ·rename_i l hg;obtain⟨rfl,rfl⟩:=h;have hT:=hC.fD _ _ he;have⟨i,z,k1,_,k2,k3,k4,k5,k6⟩:=hT.info;have⟨d,d1,d2,d3⟩:=hT.desc;rw[hd] at d1;injection d1 with d1;subst d1;simp only[pE,ze] at d3;have hE:=hC.fD _ _ (qe d3.2);have⟨ii,zz,m1,_,m2,_⟩:=hE.info;have hc:=P5 hm (AB o parts);have⟨hl,ho⟩:=k6 (ag X φ (aj o (eY o (AB o parts))) w) w;have hq:=zo d3.1;subst hq;rw[<-qml (AB o parts)] at hg;have⟨ef,g1,g2,g3⟩:=qmk hc.mem hE parts zparts.toList _ l z.cells (qmj (fun x z h=>hc.keeps x z h) _ _ hx)
     (fun p hp=>VG (fun id hi=>qmm hp id hi)) ho hg
    refine⟨.agg ef,w,φ,?_,{hc with val:=?_}⟩
    ·simp[Instr.build,run_underlying hu,GV k1 k4,kZ m1,m2,g1]
    ·exact⟨ef,rfl,g3.trans hl,g2⟩
   ·cases h
  ·cases h
 ·cases h
theorem Comes.fS(hm:MRel C X φ o w){ns:List (Nat×Obj)}(hf:∀p,p∈ns->(∃e,p.2=.vec e 0 false ⟨true,[]⟩)/\o p.1=.none)  (hc:(∀y z,au φ o (ag X φ o w) w y z->au φ (aj o ns) (ag X φ (aj o ns) w) w y z)->au φ (aj o ns) (ag X φ (aj o ns) w) w v z):Comes C X φ φ o ns w w v z:=by
 have hj:∀(ns:List (Nat×Obj)) id,id∈bU ns->∃p,p∈ns/\p.1=id:=by
  intro ns
  induction ns with
  |nil=>intro id h;cases h
  |cons p r ih=>
   intro id h;rcases zA.1 h with h|h
   all_goals grind
 have he:∀id,id∈bU ns->∃e,aj o ns id=.vec e 0 false ⟨true,[]⟩:=fun id h=>qrp ns _ id (fun p hp=>(hf p hp).1) h;have hg:∀id,id∈bU ns->o id=.none:=fun id h=>by grind
 have hx:∀id a,id∈bU ns->aV a (aj o ns id)=true->False:=fun id a hk hx=>by have⟨e,h⟩:=he id hk;rw[h] at hx;simp[aV,live] at hx
 refine Comes.make hm (zm _) (fun _ _ _=>rfl) (fun _ _=>rfl) (fun _ _ _=>rfl) (fun id hk=>?_) (fun id hk h=>(hx id _ hk h).elim) (fun i j hi _ h _ _ _=>(hx i _ hi h).elim) (fun _ _ _ id hk=>?_) (fun id hk=>?_) (fun _ _ h=>hc h)
 ·rw[hg id hk];trivial
 ·have⟨e,h⟩:=he id hk;rw[h];exact⟨zC _,fun _=>rfl,fun h=>by simp at h⟩
 ·have⟨e,h⟩:=he id hk;rw[h];exact fun _ h=>by simp at h
theorem z5p{b:Bool}{p:Pk}{s:Sem Value}(hp:∀v u,p.aD v u->ck C X φ o w v u s)  (h:(z55 C fr t b p).aD v u) (hf:nK fr o u):ck C X φ o w v u s:=by
 unfold z55 at h;split at h
 ·rename_i cs;cases hb:(b&&Vb cs&&Nat.ble (xF cs) 15) with
  |false=>rw[hb] at h;exact hp v u h
  |true=>
   rw[hb] at h;obtain⟨rfl,rfl⟩:=h;simp only[ze] at hb;have hb:=zP hb.2;have⟨val,w',φ',g1,g2⟩:=hp _ _ ((kg (v:=.agg cs) (u:=[])).2 ⟨rfl,rfl⟩);have sp:=fun p hp=>(VV (φ:=φ) (o:=o) (imm:=ag X φ o w) (w:=w) (φ':=φ) (o':=o) (imm':=ag X φ o w) (w':=w) cs (Bm C 8 t) fr).1 p hp;refine⟨val,w',φ',g1,?_⟩;have g3:=Comes.trans g2 (v':=.agg (p9 fr cs (Bm C 8 t)).1) (z':=val) (Comes.fS (ns:=(p9 fr cs (Bm C 8 t)).2) g2.mem (fun p hp=>?_) (fun hk=>?_))
   ·exact g3
   ·have⟨g3,g4,g5⟩:=sp p hp;exact⟨g3,hf p hp g4 om⟩
   ·obtain⟨c,rfl,h1⟩:=g2.val;exact⟨c,rfl,(VV cs (Bm C 8 t) fr).2 _ h1 hk fun p hp=>qrp _ _ p.1 (fun q hq=>(sp q hq).1) (VU hp)⟩
 ·exact hp v u h
theorem qj6(z:Array Value):∀n,((List.range (n*z.size)).map fun j=>z[j % z.size]!)=(List.replicate n z.toList).flatten
 |0=>by simp
 |n+1=>by
  rw[Zm,Jb,List.range_add,jn,Jn,ja,<-qj6 z n];congr 1
  ·apply Jd
   ·simp
   ·intro j h1 h2;have hj:j<z.size:=by simp_all
    simp[Nat.mod_eq_of_lt hj,hj]
  simp_all
theorem z5q(z:Array Value)(n:Nat):(madeCells z (n*z.size)).toList=(List.replicate n z.toList).flatten:=by rw[<-qj6];simp[madeCells,Array.toList_range]
theorem qmn{f:α->List Value->Prop}{x:α}{c:List Value}(h:f x c):∀n,bT f (List.replicate n x) (List.replicate n c).flatten
 |0=>by simp[bT]
 |n+1=>by exact⟨c,_,rfl,h,qmn h n⟩
theorem qzk(h3:∀imm w,az imm w e (zero e) z.cells.toList)(n:Nat):bT (az imm w e) (List.replicate n (zero e)) (madeCells z.cells (n*aB e)).toList:=by have:=ke (imm:=imm) (w:=w) _ _ _ (h3 imm w);simp[Array.length_toList] at this;rw[<-this,z5q];exact qmn (h3 imm w) n
theorem qmo(hC:cS C)(hm:MRel C X φ o w)  (hx:Dz φ o (ag X φ o w) w parts zparts.toList) (h:(YU lf C o fr t n parts).aD v u) (hf:nK fr o u):ck C X φ o w v u (Instr.buildSlice t n zparts):=by
 unfold YU at h;split at h
 ·rename_i e he;rw[eT,ze] at h;have⟨⟨h1,hk⟩,h⟩:=h;have h1:=zP h1;have hk:0<aB e:=zP hk;split at h
  ·rename_i l hg;obtain⟨rfl,rfl⟩:=h;have⟨ei,hu,_,he⟩:=qg5 he;have hT:=hC.fD _ _ he;have⟨i,z,k1,_,k2,k3,k4,k5,k6⟩:=hT.info;have hj:=P5 hm (AB o parts);have hs:o fr=.none:=hf (fr,.vec e 0 false ⟨false,l⟩) (zG _ (zg ..)) (zm _) om;have hl:aj o (eY o (AB o parts)) fr=.none:=by
    rcases GS (o:=o) (AB o parts) fr with ⟨g1,_⟩|⟨_,_,_,_,g1,_⟩
    all_goals grind
   rw[<-qml (AB o parts)] at hg;have hc:bT (az (ag X φ (aj o (eY o (AB o parts))) w) w e) (List.replicate n (zero e)) ((Array.range (n*aB e)).map ((if n*aB e=0 then #[] else z.cells)[· % (if n*aB e=0 then #[] else z.cells).size]!)).toList:=by
    by_cases hn:n*aB e=0
    ·have:n=0:=by
      rcases Nat.mul_eq_zero.1 hn with h|h
      ·exact h
      ·omega
     subst this;simp[bT]
    ·rw[zj hn];exact qzk k6 n
   obtain⟨ef,g1,g2,g3⟩:=qmk hj.mem hT parts zparts.toList _ l _ (qmj (fun x z h=>hj.keeps x z h) _ _ hx)
    (fun p hp=>VG (fun id hi=>qmm hp id hi)) hc hg
   have l2:=rR g2;have ho:l.length=n:=by rw[g3];simp
   have hq:=Nat.le_mul_of_pos_right n hk;refine⟨.slice (some ⟨w.heap.size,0,none⟩) l.length n,w.alloc (.cells ef ei),_,?_,hj.trans (Ol hj.mem (c:=ef) (el:=ei) (lo:=0) (hi:=0) (cap:=n) (ec:=ef.toList) (rest:=[]) rfl (Om hl) (by simp) g2 ?_ ?_ ?_ (.inl rfl) (qrq hC he)).1⟩
   ·have h5:¬(16777216<n*aB e):=om
    by_cases hn:n*aB e=0
    ·simp[hn] at g1;simp[Instr.buildSlice,run_underlying hu,kZ k1,k2,hn,ho,newRow] at g1 ⊢;simp[g1]
    ·simp only[zj hn] at g1;simp[Instr.buildSlice,run_underlying hu,kZ k1,k2,h5,hn,ho,newRow,GV k1 k4] at g1 ⊢;simp[g1]
   ·grind
   ·omega
   ·unfold cG;omega
  ·cases h
 ·cases h
end
section
variable {P:Program} {C:Cx} {X:Nat→Prop} {φ φ':Nat→Addr} {o o':Nat→Obj} {w w':World} {imm imm':Nat→Prop}
theorem zc2{n m:Int}(h:wy n m=some k):0<=n/\n<=m/\m<=2147483648/\k=n.toNat:=by
 unfold wy at h
 grind
theorem qzl{n:Int}{y:Unit}(h:fit n=some y):n<=2147483648:=by
 unfold fit at h
 grind
theorem qoy(hC:cS C)(hm:MRel C X φ o w){l c:V}{zl zc:Value}(hl:au φ o (ag X φ o w) w l zl)(hc:au φ o (ag X φ o w) w c zc)(h:(YY lf C fr t l c).aD v u)(hf:nK fr o u):ck C X φ o w v u (Instr.makeSlice t zl zc):=by
 unfold YY at h;split at h
 ·rename_i e k1 n k2 m he hn hj;rw[eT] at h;have⟨h1,k,h2,h3⟩:=h;obtain⟨rfl,rfl⟩:=h3;have hk:o fr=.none:=hf _ (zg ..) (zm _) om;obtain⟨rfl,_⟩:=Qa hn hl;obtain⟨rfl,_⟩:=Qa hj hc;have⟨ei,hu,_,he⟩:=qg5 he;have⟨i,z,g1,_,g2,g3,g4,g5,g6⟩:=(hC.fD _ _ he).info;obtain⟨a1,a2,a3,rfl⟩:=zc2 h2;have hb:(i.bytes:Int)*m<=281474976710656:=by have h7:(i.bytes:Int)*m<=65536*m:=Int.mul_le_mul_of_nonneg_right om om;omega
  have hg:=run_make (P:=C.P) w t ei i z hu g1 g4 k1 k2 n m a1 a2 hb om;have hr:=xK n.toNat (by simp;omega) (qzk (imm:=ag X φ o w) (w:=w) g6 m.toNat);have e1:(List.replicate m.toNat (zero e)).take n.toNat=List.replicate n.toNat (zero e):=by grind
  rw[e1] at hr;have:=(Ol hm (w':=w.alloc (.cells (madeCells z.cells (m.toNat*i.size)) ei)) (c:=madeCells z.cells (m.toNat*i.size)) (el:=ei) (lo:=0) (hi:=0) (ver:=0) (cap:=m.toNat)
   (l:=List.replicate n.toNat (zero e)) (rest:=(madeCells z.cells (m.toNat*aB e)).toList.drop (n.toNat*aB e)) rfl (Om hk) (by rw[g2,jH]) hr.1 (by rw[g2,size_madeCells]) (by simp;omega) (by simp;unfold cG;omega) (.inl rfl) (qrq hC he)).1
  rw[jp] at this;exact⟨_,_,_,hg,this⟩
 ·cases h
theorem qmp{e:TypeId}(h:Bl C e=true):C.P.underlying e=some (.int .u8):=by
 unfold Bl at h;split at h
 ·rename_i hd;exact nV hd
 ·cases h
theorem qrr:∀{l:List (den (.int .u8))} {ec:List Value},bT (az imm w (.int .u8)) l ec->ec=List.map (Value.int .u8) l/\∀(n:Int),n∈(l:List Int)->0<=n/\n<=255
 |[],ec,h=>by exact⟨by rw[h];rfl,(fun n hn=>by cases hn)⟩
 |x::l,ec,⟨c,d,e,h1,h2⟩=>by
  have⟨h1,h3⟩:=h1;have⟨h4,h5⟩:=qrr h2;refine⟨by rw[e,h1,h4];rfl,fun n hn=>?_⟩;rcases zA.1 hn with rfl|hn
  ·unfold iI IntKind.min IntKind.max at h3;exact h3
  ·exact h5 n hn
theorem qzm(s:List UInt8):bT (az imm w (.int .u8)) (s.map fun b=>(b.toNat:Int)) (s.map fun b=>Value.int .u8 (b.toNat:Int)):=by
 induction s with
 |nil=>rfl
 |cons b s ih=>refine⟨[_],_,rfl,⟨rfl,?_⟩,ih⟩;have:=b.toNat_lt;unfold iI IntKind.min IntKind.max;simp[IntKind.signed,IntKind.bits];omega
theorem qu3(hC:cS C)(hm:MRel C X φ o w){s:TypeId}(hx:au φ o (ag X φ o w) w x z)(h:(YS lf C o fr s t x).aD v u)(hf:nK fr o u):ck C X φ o w v u (convert s t z):=by
 have _:=hC;unfold YS at h;split at h
 ·cases h
 ·rename_i ds hH;have hs:=nV hH;split at h
  ·rename_i k hq;have ht:=nV hq;split at h
   ·rw[kg] at h;obtain⟨rfl,rfl⟩:=h;obtain⟨rfl,_⟩:=pC hx;refine ck.aW hm ⟨rfl,_,?_,oG (Oe _ _)⟩;simp[convert,run_underlying hs,run_underlying ht,Conv.intToInt];rfl
   ·cases h
  ·rename_i hq;have ht:=nV hq;split at h
   ·rw[kg] at h;obtain⟨rfl,rfl⟩:=h;obtain⟨rfl,_⟩:=pC hx;refine ck.aW hm ⟨rfl,_,?_,VE⟩;simp[convert,run_underlying hs,run_underlying ht,Conv.intToFloat];rfl
   ·cases h
  ·rename_i hq;have ht:=nV hq;split at h
   ·rw[kg] at h;obtain⟨rfl,rfl⟩:=h;refine ck.aW hm ⟨rfl,z,?_,hx⟩;obtain⟨s',rfl,_,_⟩:=rU hx;simp[convert,run_underlying hs,run_underlying ht]
   ·split at h
    ·rename_i e;rw[eT,ze] at h;obtain⟨⟨h1,_⟩,h⟩:=h;have he:=qmp h1;split at h
     ·rename_i sl hI;obtain⟨rfl,rfl⟩:=h;obtain⟨g1,g2⟩:=qts hm.ar hx hI;rcases g2 with ⟨_,g3,rfl⟩|⟨_,a,cap,ec,rfl,g4,g5,g6,g7⟩
      ·refine ck.aW hm ⟨rfl,.string .empty,?_,Od (by rw[g3];rfl) (by simp)⟩;rw[run_convert_bytes_string _ _ _ _ _ _ _ hs he ht];simp[Conv.bytesToString]
      ·obtain⟨e1,e2⟩:=qrr g5;have hl:(List.map (fun n:Int=>UInt8.ofNat n.toNat) sl.l).length=List.length sl.l:=by simp
       have hr:=run_convert_bytes_back (P:=C.P) w s t e a cap (List.map (fun n:Int=>UInt8.ofNat n.toNat) sl.l) hs he ht (fun j hj=>by
        have hJ:j<ec.length:=by rw[e1];simpa using hj
        have hc:=g6 j hJ;rw[u7 (g4 om),hc];simp only[e1,List.getElem_map,zU,Value.int.injEq,true_and];have hK:j<(sl.l:List Int).length:=by simpa using hj
        obtain⟨b1,b2⟩:=e2 (sl.l:List Int)[j] (jx hK);exact(zmp b1 b2).symm)
       rw[hl] at hr;refine ck.aW hm ⟨rfl,_,hr,Od ?_ ?_⟩
       ·exact Iu e2
       ·simpa[ByteArray.size] using g1
     ·cases h
    ·cases h
  ·rename_i e hq;have ht:=nV hq;split at h
   ·rename_i l;split at h
    case h_2=>cases h
    rw[eT] at h;have⟨h1,y,h2,h3⟩:=h;obtain⟨rfl,rfl⟩:=h3;have he:=qmp h1;obtain⟨b,rfl,rfl,hb⟩:=rU hx;have hL:o fr=.none:=hf _ (zg ..) (zm _) om;have hu:=run_bytes_of_string (P:=C.P) w s t e b hs ht he;have hA:b.size<=grownCap w b.size 0 e:=by exact Je _ _
    have e1:(b.data.toList.map fun c=>(c.toNat:Int)).length=b.size:=by simp
    have:=(Ol hm (w':=w.drew.alloc (.cells (bytesRow b (grownCap w b.size 0 e)) e ((bytesRow b (grownCap w b.size 0 e)).size,(bytesRow b (grownCap w b.size 0 e)).size+1)))
     (l:=b.data.toList.map fun c=>(c.toNat:Int)) (e:=.int .u8) (ver:=0) (cap:=grownCap w b.size 0 e) (ec:=b.data.toList.map fun c=>Value.int .u8 (c.toNat:Int)) (rest:=List.replicate (grownCap w b.size 0 e-b.size) (.int .u8 0))
     rfl (Om hL) (by simp[bytesRow]) (qzm _) (by simp[bytesRow,aB];omega) (by rw[e1];exact hA) (by rw[e1];exact hb) (.inr (zm _)) (fun _=>he)).1
    rw[e1] at this;exact⟨_,_,_,hu,this⟩
   ·rename_i id ver;split at h
    ·rename_i e';split at h
     ·rename_i aA b ho;rw[eT,wD,ze,ze] at h;obtain⟨⟨⟨h1,hB⟩,hD⟩,y,h2,h3⟩:=h;obtain⟨rfl,rfl⟩:=h3;have he:=qmp h1;have hB:=zo hB;have hD:=zo hD;subst hB hD;have hM:e'=e:=by grind
      subst hM;have hn:b.nil=false:=by
       cases hb:b.nil with
       |false=>rfl
       |true=>rw[hb] at h2;cases h2
      have hw:=hm.ar id;have hy:=hm.uA id;unfold au at hx;rw[ho] at hx hw hy;obtain⟨b1,b2,b3⟩:=hw;obtain⟨b4,ec,b5,b6,b7,b8,_⟩:=(b3 hn).resolve_right fun g=>g.2.2 rfl;obtain⟨c,el,fz,r1,hN,hR⟩:=hy rfl hn;rcases hx.2 rfl with ⟨hS,_⟩|⟨_,cap,rfl,k1,k2,k3⟩
      ·grind
      ·obtain⟨lo,hi⟩:=fz;have hF:aV (φ id) (o id)=true:=by rw[ho];exact uZ hn b4
       generalize hz:w.freeze ⟨(φ id).block,c.size,none⟩ 1=w2;have hk:∃r7,w2.heap[(φ id).block]?=some (.cells c el (c.size,r7)):=by
        rw[<-hz];simp only[World.freeze,Nat.one_ne_zero,if_false,Zf,if_true,r1,ZT];by_cases hT:lo=hi
        all_goals simp_all
       obtain⟨r7,hk⟩:=hk;have hE:∀b',b'≠(φ id).block->w2.heap[b']?=w.heap[b']?:=fun b' hG=>by
        rw[<-hz];simp only[World.freeze,Nat.one_ne_zero,if_false,Zf]
        grind
       have hO:w2.heap.size=w.heap.size:=by rw[<-hz];simp[World.freeze]
       have hg:∀n,room w (φ id) n->room w2 (φ id) n:=fun n ⟨c',Qd,Dn,hU,q1,q2,q3⟩=>by rw[r1] at q1;injection q1 with q1;injection q1 with q4 q5 q6;subst q4 q5;exact⟨c,el,c.size,r7,hk,q2,.inr (.inr q2)⟩
       have hv:mN w2 (φ id) ec:=fun j hj=>by
        have:=b6 j hj;unfold World.cell? at this ⊢
        grind
       have hP:w.shape? (bare (φ id)).block=some (el,c.size):=by have:w.heap[(bare (φ id)).block]?=some (.cells c el (lo,hi)):=r1;rw[World.shape?,this]
       have hu:(convert s s (.slice (some (bare (φ id))) b.l.length cap)).run C.P w=.ok (.slice (some (bare (φ id))) b.l.length cap) w2:=by rw[<-hz];simp[convert,run_underlying hs,run_underlying he,markStringish,hP,freeze];rfl
       refine⟨_,w2,φ,hu,Comes.write hm _ (fun _=>hF) hO (fun b' hG=>hE b' fun e=>hG ⟨hF,e.symm⟩) ?_ (fun a1 a2 a3=>?_) (fun _ _=>⟨c,el,(c.size,r7),hk,hN,.inr (zm _)⟩) (fun hQ=>?_) (by rw[<-hz];exact⟨rfl,rfl⟩)⟩
       ·rw[ho];exact .inr ⟨rfl,rfl,rfl,rfl,rfl,fun _=>⟨rfl,fun _ _ n hr=>hg n hr⟩⟩
       ·exact⟨b1,b2,fun _=>.inl ⟨b4,ec,rq (j9 a1 a2 _) b5,hv,hg _ b7,fun _=>hg _ (b8 rfl),by simp⟩⟩
       ·unfold au;rw[hQ];exact⟨zm _,fun _=>.inr ⟨hn,cap,rfl,k1,k2,fun h1 h2=>hg _ (k3 h1 h2)⟩⟩
     ·cases h
    ·cases h
   ·cases h
  ·cases h
theorem zj8{l:List Int}{m:List (den e)}(h:iO (.arr 0 e) (.arr 0 (.int .u8)) l=some m):∃h:Ty.int .u8=e,m=h▸l:=by
 have⟨h1,h2⟩:=Bv h
 grind
theorem qu4(hm:MRel C X φ o w){m:List (den e)}(hy:au φ o (ag X φ o w) w y zy)(h:Ve lf o e y=some m):∃news,bT (az (ag X φ o w) w e) m news/\m.length<=cG/\(∀w':World,(Builtin.lenOf zy).run P w'=.ok m.length w')/\(∀(w':World) k,w'.heap=w.heap->k<=m.length->(Builtin.firstCells (aB e) k zy).run P w'=.ok (news.take (k*aB e)).toArray w'):=by
 have cell:∀(w':World) (a:Addr),w'.heap=w.heap->w'.cell? a=w.cell? a:=fun w' a h=>by unfold World.cell?;rw[h]
 by_cases hs:∃l,y=.d .str l
 ·obtain⟨l,rfl⟩:=hs;have⟨h1,h2⟩:=zj8 h;subst h1 h2;obtain⟨b,rfl,rfl,hb⟩:=rU hy;refine⟨_,qzm _,by simp_all,fun w'=>by simp[Builtin.lenOf],fun w' k _ hk=>?_⟩;simp[Builtin.firstCells,aB,Nat.mul_one,Sem.run_pure];congr 1;apply Zd.1;simp
 ·have h:∃s,ri lf o (.sl e) y=some s/\m=s.l:=by
   have:Ve lf o e y=(match ri lf o (.sl e) y with|some s=>some s.l|none=>none):=by
    cases y<;>try rfl
    rename_i t d;cases t<;>first|rfl|exact absurd ⟨_,rfl⟩ hs
   rw[this] at h;split at h
   ·rename_i s e1;injection h with h;exact⟨s,e1,h.symm⟩
   ·cases h
  obtain⟨s,h1,rfl⟩:=h;have⟨g1,g2⟩:=qts hm.ar hy h1;rcases g2 with ⟨_,g3,rfl⟩|⟨_,a,cap,ec,rfl,g4,g5,g6,g7⟩
  ·refine⟨[],by rw[g3];rfl,g1,fun w'=>by simp[Builtin.lenOf,g3],fun w' k _ hk=>by simp[Builtin.firstCells]⟩
  ·refine⟨ec,g5,g1,fun w'=>by simp[Builtin.lenOf],fun w' k hw hk=>?_⟩;have hl:=rR g5;have hg:k*aB e<=ec.length:=by rw[hl];exact jt _ hk
   refine run_firstCells_some w' _ _ _ _ _ _ (by simp;omega) (fun j v hj=>?_);obtain⟨hc,he⟩:=zT.1 hj;have hf:j<ec.length:=by simp at hc;omega
   rw[cell _ _ hw,u7 (g4 fun h0=>by
    have h4:s.l.length=0:=om
    rw[h4] at hl;omega)]
   have:=g6 j hf;rw[this,<-he];simp
end
theorem Qe(l ds:List Value)(k j:Nat)(hk:k<=l.length):(ov l k ds)[j]?=if j<k then l[j]? else if j<k+ds.length then ds[j-k]? else l[j]?:=by
 unfold ov
 grind
section
variable {P:Program} {C:Cx} {X:Nat→Prop} {φ φ':Nat→Addr} {o o':Nat→Obj} {w w':World} {imm imm':Nat→Prop}
theorem iS{a:Addr}{cs:List Value}:mN w a cs↔∀j v,cs[j]?=some v->w.cell? ⟨a.block,a.off+j,none⟩=some v:=by
 constructor
 ·intro h j v hj;have⟨h1,h2⟩:=zT.1 hj;rw[h j h1,h2]
 ·intro h j hj
  grind
theorem VX{a:Addr}{ec:List Value}(hh:w.heap[a.block]?=some (.cells c el fz))(h:mN w a ec)(hk:k<=ec.length)(hb:a.off+k+ds.length<=c.size):mN (w.setRow a.block (ov c.toList (a.off+k) ds).toArray) a (ov ec k ds):=by
 rw[iS] at h ⊢;intro j v hj;simp[World.cell?,VR hh,Option.isSome_none,Bool.false_eq_true,List.getElem?_toArray];rw[Qe _ _ _ _ hk] at hj;rw[Qe _ _ _ _ (by simp;omega)];by_cases h1:j<k
 ·rw[zu h1] at hj;rw[zu om];have:=h j v hj;simpa[World.cell?,hh] using this
 ·rw[zj h1] at hj;rw[zj om];by_cases h2:j<k+ds.length
  ·grind
  ·rw[zj h2] at hj;rw[zj om];have:=h j v hj;simpa[World.cell?,hh] using this
def ID(P:Program)(u:TypeId):Prop:=(∃e,P.underlying u=some (.slice e))\/P.underlying u=some .string
theorem qrs{u ty:TypeId}(ht:P.underlying t=some (.slice ei))(hu:ID P u)(hi:P.info? ei=some i){cap lo:Nat}{cur:Array Value}(hn:(Builtin.lenOf zy).run P w=.ok m w)(hf:(Builtin.firstCells i.size m zy).run P w=.ok news.toArray w)(hg:w.heap[b]?=some (.cells cur el (lo,r7)))(hc:n+m<=cap)(he:off+n*i.size+news.length<=cur.size)(hk:r7<=lo\/r7<=off+n*i.size\/off+n*i.size+news.length<=lo)(h1:∀v∈news,v.oneCell'=true):(Builtin.append_ (t::u::ts).toArray ty #[.slice (some ⟨b,off,none⟩) n cap,zy]).run P w=.ok (.slice (some ⟨b,off,none⟩) (n+m) cap) (w.setRow b (ov cur.toList (off+n*i.size) news).toArray):=by
 have hl:=Qc (P:=P) (b:=b) (off:=off+n*i.size) news 0 cur w hg he hk h1;have hj:(⟨b,off,none⟩:Addr).add (n*i.size)=⟨b,off+n*i.size,none⟩:=u7 rfl _;rcases hu with ⟨e,hu⟩|hu<;>
 simp[Builtin.append_,run_underlying ht,run_underlying hu,kZ hi,hn,hc,hf,hj,hl]
theorem qmq{u ty:TypeId}(ht:P.underlying t=some (.slice ei))(hu:ID P u)(hi:P.info? ei=some i){cs:Array Value}(hn:(Builtin.lenOf zy).run P w=.ok 0 w)(hf:(Builtin.firstCells i.size 0 zy).run P w=.ok cs w):(Builtin.append_ (t::u::ts).toArray ty #[.slice none 0 0,zy]).run P w=.ok (.slice none 0 0) w:=by
 rcases hu with ⟨e,hu⟩|hu<;>
 simp[Builtin.append_,run_underlying ht,run_underlying hu,kZ hi,hn,hf]
theorem qmr{u ty:TypeId}(ht:P.underlying t=some (.slice ei))(hu:ID P u)(hi:P.info? ei=some i){base:Addr}{cap:Nat}(hn:(Builtin.lenOf zy).run P w=.ok 0 w)(hf:(Builtin.firstCells i.size 0 zy).run P w=.ok ([]:List Value).toArray w)(hc:n<=cap):(Builtin.append_ (t::u::ts).toArray ty #[.slice (some base) n cap,zy]).run P w=.ok (.slice (some base) n cap) w:=by
 rcases hu with ⟨e,hu⟩|hu<;>
 simp[Builtin.append_,run_underlying ht,run_underlying hu,kZ hi,hn,hf,hc,storeCells]
theorem qoz{u ty:TypeId}(ht:P.underlying t=some (.slice ei))(hu:ID P u)(hi:P.info? ei=some i)(hz:i.zero=some z){cap:Nat}(hn:(Builtin.lenOf zy).run P w=.ok m w)(hf:(Builtin.firstCells i.size m zy).run P w.drew=.ok news.toArray w.drew)(hj:(Builtin.firstCells i.size n (.slice base n cap)).run P w.drew=.ok olds.toArray w.drew)(hg:cap<n+m)(hl:n+m<=2147483648)(hm:i.bytes<=65536):(Builtin.append_ (t::u::ts).toArray ty #[.slice base n cap,zy]).run P w=.ok (.slice (some ⟨w.heap.size,0,none⟩) (n+m) (grownCap w (n+m) cap ei)) (w.drew.alloc (.cells (olds.toArray++news.toArray++Builtin.zeroCells z.cells (grownCap w (n+m) cap ei-(n+m))) ei)):=by
 have hk:¬(n+m<=cap):=om
 have hc:¬(9223372036854775807<((n:Int)+(m:Int))):=om
 have ho:(n+m)*i.bytes<=140737488355328:=je (Jw hl hm) om;have he:¬(281474976710656<Builtin.nextslicecap (n+m) cap*i.bytes):=by have:=growslice_fits hg ho;omega
 rcases hu with ⟨e,hu⟩|hu
 ·simp[Builtin.append_,run_underlying ht,run_underlying hu,kZ hi,GV hi hz,typeInfo,hi,hn,hk,hc,he,Question.forced,hf,hj,newRow,grownCap]
  grind
 ·simp[Builtin.append_,run_underlying ht,run_underlying hu,kZ hi,GV hi hz,typeInfo,hi,hn,hk,hc,he,Question.forced,hf,hj,newRow,grownCap]
  grind
end
section
variable {P:Program} {C:Cx} {X:Nat→Prop} {φ φ':Nat→Addr} {o o':Nat→Obj} {w w':World} {imm imm':Nat→Prop}
theorem DA{a:Addr}(hh:w.heap[a.block]?=some (.cells c el fz))(hb:off+ds.length<=c.size)(h:room w a n):room (w.setRow a.block (ov c.toList off ds).toArray) a n:=by obtain⟨c',Qd,lo,hi,h1,h2,h3⟩:=h;rw[hh] at h1;injection h1 with h1;injection h1 with h1 h4 h5;subst h1 h4 h5;refine⟨_,_,lo,hi,VR hh _,?_,h3⟩;have:=qmg c.toList off ds (by simpa using hb);simp at this ⊢;omega
theorem qxd{u:TypeId}(h:z53 C u=true):ID C.P u:=by
 unfold z53 at h;split at h
 ·rename_i e hd;exact .inl ⟨e,nV hd⟩
 ·rename_i hd;exact .inr (nV hd)
 ·cases h
theorem VY(hC:cS C)(hm:MRel C X φ o w){u ty:TypeId}(he:C.ty ei=some e)(ht:C.P.underlying t=some (.slice ei))(hu:ID C.P u){l m:List (den e)}(ho:∀w' a' s,Up w w' (φ tid) a' (o tid) (.vec e v' false s))(hr:bT (az (ag X φ o w) w e) m news)(hf:∀w':World,(Builtin.lenOf zy).run C.P w'=.ok m.length w')(hx:∀(w':World) k,w'.heap=w.heap->k<=m.length->(Builtin.firstCells (aB e) k zy).run C.P w'=.ok (news.take (k*aB e)).toArray w')(hq:l.length+m.length<=2147483648){cap:Nat}(hn:n=l.length)(hg:cap<n+m.length)(hs:zx=.slice base n cap)(hk:bT (az (ag X φ o w) w e) l olds)(hl:(Builtin.firstCells (aB e) n zx).run C.P w.drew=.ok olds.toArray w.drew):ck C X φ o w (.cC tid v') [(tid,.vec e v' false ⟨false,l++m⟩)] (Builtin.append_ (t::u::ts).toArray ty #[zx,zy]):=by
 obtain⟨i,z,k1,_,k2,k3,k4,k5,k6⟩:=(hC.fD _ _ he).info;have hv:z.cells.size=aB e:=by have:=ke (imm:=ag X φ o w) (w:=w) _ _ _ (k6 _ w);simpa using this
 have GY:=rR hr;have hy:(news.take (m.length*aB e))=news:=by rw[<-GY,jD]
 have hc:∀w':World,w'.heap=w.heap->(Builtin.firstCells i.size m.length zy).run C.P w'=.ok news.toArray w':=fun w' h=>by grind
 subst hs;rw[<-k2] at hl;have hj:=qoz (ts:=ts) (ty:=ty) (w:=w) ht hu k1 k4 (hf w) (hc w.drew rfl) hl hg om k3;have hw:n+m.length<=grownCap w (n+m.length) cap ei:=Je _ _;have Dn:=rR hk;have:=(Ol hm (fr:=tid) (ver:=v') (w':=w.drew.alloc (.cells (olds.toArray++news.toArray++Builtin.zeroCells z.cells (grownCap w (n+m.length) cap ei-(n+m.length))) ei)) (lo:=0) (hi:=0) (e:=e) (l:=l++m)
  (cap:=grownCap w (n+m.length) cap ei) (ec:=olds++news) (rest:=(Builtin.zeroCells z.cells (grownCap w (n+m.length) cap ei-(n+m.length))).toList)
  (c:=olds.toArray++news.toArray++Builtin.zeroCells z.cells (grownCap w (n+m.length) cap ei-(n+m.length))) rfl (fun w'=>ho w' _ _) (by simp) (PK hk hr)
  (by
   simp only[Array.size_append,Ja,size_zeroCells,hv,Dn,GY,<-hn];rw[<-jY,<-jY];congr 1;omega)
  (by rw[zd,<-hn];exact hw) (by rw[zd];unfold cG;omega) (.inl rfl) (qrq hC he)).1
 rw[zd,<-hn] at this;exact⟨_,_,_,hj,this⟩
theorem qg7(hC:cS C)(hm:MRel C X φ o w){u ty:TypeId}(he:C.ty ei=some e)(ht:C.P.underlying t=some (.slice ei))(hu:ID C.P u){nl:Bool}{l m:List (den e)}(hE:∀w' a' s,Up w w' (φ tid) a' (o tid) (.vec e v' false s))(hx:(nl=true/\l=[]/\zx=.slice none 0 0)\/(nl=false/\∃n cap ver s,o tid=.vec e ver false s/\s.nil=false/\n=l.length/\n<=s.l.length/\l=s.l.take n/\zx=.slice (some (bare (φ tid))) n cap/\n<=cap/\((φ tid).spot.isSome=true->cap=0)/\((φ tid).spot=none->room w (φ tid) (cap*aB e))))(hr:bT (az (ag X φ o w) w e) m news)(hv:∀w':World,(Builtin.lenOf zy).run C.P w'=.ok m.length w')(hP:∀(w':World) k,w'.heap=w.heap->k<=m.length->(Builtin.firstCells (aB e) k zy).run C.P w'=.ok (news.take (k*aB e)).toArray w')(hI:l.length+m.length<=2147483648):ck C X φ o w (.cC tid v') [(tid,.vec e v' false ⟨aH nl (cB m),l++m⟩)] (Builtin.append_ (t::u::ts).toArray ty #[zx,zy]):=by
 obtain⟨i,z,k1,_,k2,k3,k4,k5,k6⟩:=(hC.fD _ _ he).info;have GY:=rR hr;have hZ:(news.take (m.length*aB e))=news:=by rw[<-GY,jD]
 have hq:∀w':World,w'.heap=w.heap->(Builtin.firstCells i.size m.length zy).run C.P w'=.ok news.toArray w':=fun w' h=>by grind
 have grow:∀(base:Option Addr) (n cap:Nat) (olds:List Value),n=l.length->cap<n+m.length->zx=.slice base n cap->bT (az (ag X φ o w) w e) l olds->
   (Builtin.firstCells i.size n zx).run C.P w.drew=.ok olds.toArray w.drew->aH nl (cB m)=false->
   ck C X φ o w (.cC tid v') [(tid,.vec e v' false ⟨aH nl (cB m),l++m⟩)] (Builtin.append_ (t::u::ts).toArray ty #[zx,zy]):=by
  intro base n cap olds hn hg hQ hF hJ hR;rw[hR];exact VY hC hm he ht hu hE hr hv hP hI hn hg hQ hF (by rw[<-k2];exact hJ)
 rcases hx with ⟨rfl,rfl,rfl⟩|⟨rfl,n,cap,ver,s,ho,hK,hn,hN,hl,rfl,hL,hS,hz⟩
 ·cases hw:m with
  |nil=>subst hw;have hf:=qmq (ts:=ts) (ty:=ty) (w:=w) ht hu k1 (hv w) (hq w rfl);refine⟨_,w,φ,hf,?_⟩;refine Comes.write hm _ (by simp[aV,live,aH,cB]) rfl (fun _ _=>rfl) (hE w (φ tid) _) (fun _ _ _=>⟨by simp,fun _=>rfl,fun h=>by simp[aH,cB] at h⟩) (fun _ h=>by simp[aH,cB] at h) (fun hA=>?_);unfold au;rw[hA];exact⟨zm _,fun _=>.inl ⟨rfl,rfl⟩⟩
  |cons y r=>rw[<-hw];exact grow none 0 0 [] rfl (by rw[hw];simp) rfl rfl (run_firstCells_none (P:=C.P) w.drew i.size 0 0 0) (by rw[hw];rfl)
 ·have hB:=hm.ar tid;rw[ho] at hB;obtain⟨g1,g2,g3⟩:=hB;rcases g3 hK with ⟨g4,ec,g5,g6,g7,g8,_⟩|⟨g4,c1,c3⟩
  ·have hO:aV (φ tid) (o tid)=true:=by rw[ho];exact uZ hK g4
   have hT:=xK n hN g5;have hU:=rR g5;have hV:n*aB e<=ec.length:=by rw[hU];exact jt _ hN
   have hF:bT (az (ag X φ o w) w e) l (ec.take (n*aB e)):=by rw[hl];exact hT.1
   by_cases hc:n+m.length<=cap
   ·rw[VA g4];obtain⟨c,el,lo,hi,r1,r2,r3⟩:=hz g4;have hW:n*aB e+m.length*aB e<=cap*aB e:=by rw[<-jY];exact jt _ hc
    have hf:=qrs (ts:=ts) (ty:=ty) (w:=w) (b:=(φ tid).block) (off:=(φ tid).off) (n:=n) (cap:=cap) (m:=m.length) ht hu k1 (hv w) (hq w rfl) r1 hc (by rw[k2,GY];omega) (by rw[k2,GY];omega) (VT hr);rw[k2] at hf;have hX:aH false (cB m)=false:=rfl;rw[hX];have hG:(l++m).length=n+m.length:=by rw[zd,<-hn]
    have hs:(φ tid).off+n*aB e+news.length<=c.size:=by rw[GY];omega
    refine⟨_,_,φ,hf,?_⟩;have hM:∀k,k<=cap*aB e->room (w.setRow (φ tid).block (ov c.toList ((φ tid).off+n*aB e) news).toArray) (φ tid) k:=fun k hk=>DA r1 hs ⟨c,el,lo,hi,r1,by omega,by omega⟩;refine Comes.write hm _ (fun _=>hO) (by simp) (fun b hb=>setRow_other w _ b _ (fun e=>hb ⟨hO,e.symm⟩)) (hE _ _ _) (fun h1 h2 h3=>?_) (VW hm ho hK (.ov r1 hs)) (fun hA=>?_)
    ·refine⟨by rw[hG];unfold cG;omega,by simp,fun _=>.inl ⟨g4,ec.take (n*aB e)++news,rq (j9 h1 h2 e) (PK hF hr),?_,hM 0 (zC _),fun _=>hM _ ?_,by simp⟩⟩
     ·have:=VX (k:=n*aB e) (ds:=news) r1 (P3 (n*aB e) g6) (by simp[hV]) hs;have e1:ov (ec.take (n*aB e)) (n*aB e) news=ec.take (n*aB e)++news:=by unfold ov;rw[List.take_take,Nat.min_self,zR (by simp;omega),zv]
      rw[e1] at this;exact this
     ·rw[hG];exact jt _ hc
    ·unfold au;rw[hA];refine⟨zm _,fun _=>.inr ⟨rfl,cap,(by rw[hG,VA g4]),(by rw[hG];exact hc),(fun h=>by rw[g4] at h;cases h),fun _ _=>hM _ (zm _)⟩⟩
   ·have hJ:(Builtin.firstCells i.size n (.slice (some (bare (φ tid))) n cap)).run C.P w.drew=.ok (ec.take (n*aB e)).toArray w.drew:=by refine run_firstCells_some w.drew i.size n (bare (φ tid)) n cap _ (by rw[k2];simp;omega) (fun j v hj=>?_);rw[u7 (a:=bare (φ tid)) (qm3 g4)];exact iS.1 (P3 _ g6) j v hj
    exact grow (some (bare (φ tid))) n cap _ hn om rfl hF hJ rfl
  ·have hy:cap=0:=hS (by cases h:(φ tid).spot with
    |none=>exact absurd h g4
    |some _=>rfl)
   have hH:n=0:=om
   have hY:l=[]:=jl om;subst hY;cases hw:m with
   |nil=>
    subst hw;have hD:news=[]:=jl (by rw[GY];simp);subst hD;have hf:=qmr (ts:=ts) (ty:=ty) (w:=w) (base:=bare (φ tid)) (n:=n) (cap:=cap) ht hu k1 (hv w) (hq w rfl) hL;refine⟨_,w,φ,hf,?_⟩;refine Comes.write hm _ (fun h=>absurd (Ey h).2.2 g4) rfl (fun _ _=>rfl) (hE w (φ tid) _) (fun _ _ _=>⟨by simp,by simp,fun _=>.inr ⟨g4,rfl,c3⟩⟩) (fun h=>absurd h c3) (fun hA=>?_);unfold au;rw[hA];refine⟨zm _,fun _=>.inr ⟨rfl,cap,?_,?_,fun _=>hy,fun _ h=>absurd h g4⟩⟩
    ·rw[hH];rfl
    ·simp
   |cons y r=>rw[<-hw];refine grow (some (bare (φ tid))) n cap [] (by simpa using hH) (by rw[hw,hH,hy];simp) rfl rfl ?_ rfl;refine run_firstCells_some w.drew i.size n (bare (φ tid)) n cap _ (by rw[hH];simp) (fun j v hj=>by simp at hj)
theorem qg8{id ver:Nat}{nil:Bool}{l m:List (den e)}(h:(PA lf id ver e nil l m).aD v u):l.length+m.length<=2147483648/\v=.cC id ver/\u=[(id,.vec e ver false ⟨aH nil (cB m),l++m⟩)]:=by unfold PA at h;rw[wD] at h;obtain⟨y,h1,h2⟩:=h;simp only[jX] at h2;obtain⟨rfl,rfl⟩:=h2;have:=qzl h1;have h3:(l.length:Int)+(m.length:Int)<=2147483648:=this;exact⟨by omega,rfl,rfl⟩
theorem qxe(hC:cS C)(hm:MRel C X φ o w){fr:Nat}{t u ty:TypeId}{ts:List TypeId}{x y:V}{zx zy:Value}{v:V}{u':List (Nat×Obj)}(hx:au φ o (ag X φ o w) w x zx)(hy:au φ o (ag X φ o w) w y zy)(h:(YN lf C o fr t u x y).aD v u')(hf:nK fr o u'):ck C X φ o w v u' (Builtin.append_ (t::u::ts).toArray ty #[zx,zy]):=by
 unfold YN at h;split at h
 ·cases h
 ·rename_i e he;obtain⟨ei,ht,_,he⟩:=qg5 he;split at h
  ·cases h
  ·rename_i m hA;rw[eT,ze] at h;obtain⟨⟨h1,_⟩,h⟩:=h;have hu:=qxd h1;obtain⟨news,n1,n2,n3,n4⟩:=qu4 hm hy hA;cases x<;>try exact False.elim h
   ·rename_i id ver;simp only at h;split at h
    ·rename_i e' aA s ho;split at h
     ·rename_i s' hs;rw[eT] at h;obtain⟨hv,h⟩:=h;obtain⟨h3,h4⟩:=Bv hs;injection h3 with h3;subst h3 h4;obtain⟨g1,rfl,rfl⟩:=qg8 h;have hc:=hm.ar id;unfold au at hx;rw[ho] at hx hc;have hv:=zo hv;have hx:=hx.2 hv;refine qg7 hC hm he ht hu (fun _ _ _=>by rw[ho];exact .inl om) ?_ n1 n3 n4 g1;rcases hx with ⟨k1,rfl⟩|⟨k1,cap,rfl,k2,k4,k3⟩
      ·exact .inl ⟨k1,hc.2.1 k1,rfl⟩
      ·exact .inr ⟨k1,s'.l.length,cap,_,s',ho,k1,rfl,zm _,(jD).symm,rfl,k2,k4,k3 rfl⟩
     ·cases h
    ·cases h
   ·rename_i id ver n cp;simp only at h;split at h
    ·rename_i e' aA GP s ho;split at h
     ·rename_i s' hs;rw[eT] at h;obtain⟨hv,h⟩:=h;obtain⟨h3,h4⟩:=Bv hs;injection h3 with h3;subst h3 h4;split at h
      ·obtain⟨g1,rfl,rfl⟩:=qg8 h;have hc:=hm.ar id;unfold au at hx;rw[ho] at hx hc;have hv:=zo hv;obtain⟨hn,hx,_⟩:=hx.2 hv;refine qg7 hC hm he ht hu (fun _ _ _=>by rw[ho];exact .inl om) ?_ n1 n3 n4 g1;rcases hx with ⟨k1,rfl⟩|⟨k1,cap,rfl,k2,k3⟩
       ·exact .inl ⟨k1,by simp[lf,aP,hc.2.1 k1],rfl⟩
       ·exact .inr ⟨k1,n,cap,_,s',ho,k1,by simp[lf,aP,Nat.min_eq_left hn],hn,rfl,rfl,k2,k3.1,k3.2 rfl⟩
      ·rw[wD] at h;obtain⟨y,h2,h3⟩:=h;simp only[jX] at h3;obtain⟨rfl,rfl⟩:=h3;obtain⟨_,hg,hl⟩:=Dx h2;have hg:=qzl hg;have hl:aL (cB m) none (some ())=some y:=hl;have hB:m≠[]:=fun h=>by rw[h] at hl;cases hl
       have hF:=ZN.2 hB;have hk:o fr=.none:=hf _ (zg ..) (zm _) (by show fr<fr+16;omega);have hc:=hm.ar id;unfold au at hx;rw[ho] at hx hc;have hv:=zo hv;obtain⟨hn,hx,hq⟩:=hx.2 hv;have hq:=hq rfl;have e2:(lf.aP s'.l n).length=n:=by simp[lf,aP,Nat.min_eq_left hn]
       have hg:((lf.aP s'.l n).length:Int)+(m.length:Int)<=2147483648:=hg;rcases hx with ⟨k1,rfl⟩|⟨k1,cap,rfl,k2,k4,k3⟩
       ·have hD:=hc.2.1 k1;have hw:n=0:=by rw[hD] at hn;simpa using hn
        subst hw;have hz:lf.aP s'.l 0=[]:=by simp[lf,aP]
        exact VY hC hm he ht hu (fun _ _ _=>by rw[hk];trivial) n1 n3 n4 (l:=lf.aP s'.l 0) om (base:=none) (n:=0) (cap:=0) (olds:=[]) e2.symm om rfl (by rw[hz];rfl) (run_firstCells_none (P:=C.P) w.drew _ 0 0 0)
       ·have hE:cap=n:=hq _ _ _ rfl;subst hE;rcases hc.2.2 k1 with ⟨g4,ec,g5,g6,_⟩|⟨_,g5,_⟩
        ·refine VY hC hm he ht hu (fun _ _ _=>by rw[hk];trivial) n1 n3 n4 (l:=lf.aP s'.l cap) om (base:=some (bare (φ id))) (n:=cap) (cap:=cap) (olds:=ec.take (cap*aB e')) e2.symm om rfl (xK cap hn g5).1 ?_;have hG:=rR g5;have hH:=jt (aB e') hn;refine run_firstCells_some w.drew (aB e') cap (bare (φ id)) cap cap _ (by simp;omega) (fun j v hj=>?_);rw[u7 (a:=bare (φ id)) (qm3 g4)];exact iS.1 (P3 _ g6) j v hj
        ·have hw:cap=0:=by rw[g5] at hn;simpa using hn
         have hz:lf.aP s'.l cap=[]:=by rw[g5];simp[lf,aP]
         refine VY hC hm he ht hu (fun _ _ _=>by rw[hk];trivial) n1 n3 n4 (l:=lf.aP s'.l cap) om (base:=some (bare (φ id))) (n:=cap) (cap:=cap) (olds:=[]) e2.symm om rfl (by rw[hz];rfl) ?_;exact run_firstCells_some w.drew (aB e') cap (bare (φ id)) cap cap _ (by rw[hw];simp) (fun j v hj=>by simp at hj)
      ·cases h
     ·cases h
    ·cases h
   ·obtain⟨g1,rfl,rfl⟩:=qg8 h;have hk:o fr=.none:=hf _ (zg ..) (zm _) (by show fr<fr+16;omega);exact qg7 hC hm he ht hu (fun _ _ _=>by rw[hk];trivial) (.inl ⟨rfl,rfl,hx⟩) n1 n3 n4 g1
end
theorem zms(l ds:List Value)(b k n:Nat)(hk:k+ds.length<=n)(hn:b+n<=l.length):ov l b (ov ((l.drop b).take n) k ds)=ov l (b+k) ds:=by
 have hl:((l.drop b).take n).length=n:=by simp;omega
 apply List.ext_getElem?;intro j;rw[Qe l (ov ((l.drop b).take n) k ds) b j om,qmg _ _ _ om,hl,Qe l ds (b+k) j om];by_cases h1:j<b
 ·grind
 ·rw[zj h1];by_cases h2:j<b+n
  ·rw[zu h2,Qe ((l.drop b).take n) ds k (j-b) om]
   grind
  grind
theorem z5r(l ds:List Value)(h:l.length=ds.length):ov l 0 ds=ds:=by
 unfold ov
 grind
section
variable {P:Program} {C:Cx} {X:Nat→Prop} {φ φ':Nat→Addr} {o o':Nat→Obj} {w w':World} {imm imm':Nat→Prop}
def IE(C:Cx)(X:Nat->Prop)(φ:Nat->Addr)(o:Nat->Obj)(w:World)(v:V)(u:List (Nat×Obj))(s:Sem Unit):Prop:=∃w' φ',s.run C.P w=.ok () w'/\Comes C X φ φ' o u w w' v undef
theorem z5s:∀(p:Ty) (f:Nat) (x:den p) (g:(t:Ty)->den t->Option (den t)) {y:den p} {u:Ty},cX p f x g=some y->p8 p f=some u->∃(a b:den u),g u a=some b/\∀cs ds (imm:Nat->Prop) (w:World),az imm w p x cs->(az imm w u a ((cs.drop (gQ p f)).take (aB u))->az imm w u b ds)->gQ p f+aB u<=cs.length/\az imm w u a ((cs.drop (gQ p f)).take (aB u))/\az imm w p y (ov cs (gQ p f) ds):=by
 have base:∀(t:Ty) (x y:den t) (g:(t:Ty)->den t->Option (den t)),g t x=some y->
   ∃(a b:den t),g t a=some b/\∀cs ds (imm:Nat->Prop) (w:World),az imm w t x cs->(az imm w t a ((cs.drop 0).take (aB t))->az imm w t b ds)->0+aB t<=cs.length/\az imm w t a ((cs.drop 0).take (aB t))/\az imm w t y (ov cs 0 ds):=by
  intro t x y g h;refine⟨x,y,h,fun cs ds imm w hc hd=>?_⟩;have hl:=ke _ _ _ hc;have e:(cs.drop 0).take (aB t)=cs:=by rw[jh,<-hl,jD]
  rw[e] at hd ⊢;have hd:=hd hc;have he:=ke _ _ _ hd;exact⟨by omega,hc,by rw[z5r _ _ om];exact hd⟩
 intro p
 induction p with
 |pair a b _ mZ=>
  intro f x g y u h ht;cases f with
  |zero=>
   simp[cX] at h;split at h
   ·rename_i y1 h1;injection h with h;subst h;have:=jb ht;subst this;refine⟨x.1,y1,h1,fun cs ds imm w ⟨c,d,e,h2,h3⟩ hd=>?_⟩;have hl:=ke _ _ _ h2;subst e;have e1:((c++d).drop 0).take (aB a)=c:=by rw[jh,<-hl,Zz];rfl
    simp only[gQ] at hd ⊢;rw[e1] at hd ⊢;have hd:=hd h2;have he:=ke _ _ _ hd;refine⟨by simp;omega,h2,ds,d,?_,hd,h3⟩;unfold ov
    grind
   ·cases h
  |succ n=>
   simp[cX] at h;split at h
   ·rename_i y1 h1;injection h with h;subst h;have⟨a',b',g1,g2⟩:=mZ n x.2 g h1 ht;refine⟨a',b',g1,fun cs ds imm w ⟨c,d,e,h2,h3⟩ hd=>?_⟩;have hl:=ke _ _ _ h2;subst e;simp only[gQ] at hd ⊢;rw[<-hl,List.drop_length_add_append] at hd ⊢;have⟨k1,k2,k3⟩:=g2 d ds imm w h3 hd;refine⟨by simp;omega,k2,c,ov d (gQ b n) ds,?_,h2,k3⟩;unfold ov;rw[List.take_length_add_append,jr];simp
   ·cases h
 |unit=>intro f x g y u h ht;cases f<;>cases ht
 |int k=>intro f x g y u h ht;cases f with|zero=>have:=jb ht;subst this;exact base _ _ _ _ h|succ n=>cases ht
 |bool=>intro f x g y u h ht;cases f with|zero=>have:=jb ht;subst this;exact base _ _ _ _ h|succ n=>cases ht
 |gz=>intro f x g y u h ht;cases f with|zero=>have:=jb ht;subst this;exact base _ _ _ _ h|succ n=>cases ht
 |fY=>intro f x g y u h ht;cases f with|zero=>have:=jb ht;subst this;exact base _ _ _ _ h|succ n=>cases ht
 |str=>intro f x g y u h ht;cases f with|zero=>have:=jb ht;subst this;exact base _ _ _ _ h|succ n=>cases ht
 |sl e=>intro f x g y u h ht;cases f with|zero=>have:=jb ht;subst this;exact base _ _ _ _ h|succ n=>cases ht
 |st q=>intro f x g y u h ht;cases f with|zero=>have:=jb ht;subst this;exact base _ _ _ _ h|succ n=>cases ht
 |arr m e=>intro f x g y u h ht;cases f with|zero=>have:=jb ht;subst this;exact base _ _ _ _ h|succ n=>cases ht
theorem qu6:∀(path:List Nat) (t:Ty) (x:den t) (g:(t:Ty)->den t->Option (den t)) {y:den t} {u:Ty},Ib path t x g=some y->Dl path t=some u->∃(a b:den u),g u a=some b/\∀cs ds (imm:Nat->Prop) (w:World),az imm w t x cs->az imm w u b ds->kY path t+aB u<=cs.length/\az imm w t y (ov cs (kY path t) ds)
 |[],t,x,g,y,u,h,ht=>by have:=jb ht;subst this;refine⟨x,y,h,fun cs ds imm w hc hd=>?_⟩;have hl:=ke _ _ _ hc;have he:=ke _ _ _ hd;exact⟨by simp[kY];omega,by rw[show kY [] t=0 from rfl,z5r _ _ om];exact hd⟩
 |f::r,t,x,g,y,u,h,ht=>by
  cases t<;>simp[Dl] at ht<;>try (cases ht;done)
  rename_i p;split at ht
  ·rename_i u1 h1;have⟨a,b,g1,g2⟩:=z5s p f x _ h h1;have⟨a',b',g3,g4⟩:=qu6 r u1 a g g1 ht;refine⟨a',b',g3,fun cs ds imm w hc hd=>?_⟩;have hl:az imm w u1 a ((cs.drop (gQ p f)).take (aB u1))->kY r u1+aB u<=aB u1/\az imm w u1 b (ov ((cs.drop (gQ p f)).take (aB u1)) (kY r u1) ds):=fun ha=>by grind
   have⟨k1,k2,k3⟩:=g2 cs (ov ((cs.drop (gQ p f)).take (aB u1)) (kY r u1) ds) imm w hc (fun ha=>(hl ha).2);have⟨k4,_⟩:=hl k2;have hf:=ke _ _ _ hd;rw[zms _ _ _ _ _ om k1] at k3;simp[kY,z5j h1];exact⟨by omega,k3⟩
  ·cases ht
theorem qj7{id:Nat}:∀{l:List Nat},Dm id l=true->id∉l
 |[],_=>by simp
 |b::r,h=>by
  simp only[Dm] at h;cases hb:Nat.beq b id with
  |true=>rw[hb] at h;cases h
  |false=>
   rw[hb] at h;have:=qj7 h;intro hm
   simp_all
theorem qkc(hi:P.info? t=some i){a:Addr}(hs:a.spot=none)(hz:z.cells.size=i.size){lo:Nat}(hh:w.heap[a.block]?=some (.cells c el (lo,r7)))(hb:a.off+z.cells.size<=c.size)(hf:r7<=lo\/r7<=a.off\/a.off+z.cells.size<=lo)(h1:∀v∈z.cells.toList,v.oneCell'=true):(Instr.storeAt t (.pointer (some a)) z).run P w=.ok () (w.setRow a.block (ov c.toList a.off z.cells.toList).toArray):=by
 have hc:=Qc (P:=P) (b:=a.block) (off:=a.off) z.cells.toList 0 c w hh (by simp_all) (by simpa using hf) h1;have ha:a=⟨a.block,a.off,none⟩:=by rw[<-hs]
 rw[<-ha] at hc;simp[Instr.storeAt,Instr.sureAddr,storeVar,kZ hi,hz,hc]
theorem z2z(hC:cS C)(hm:MRel C X φ o w)(hx:au φ o (ag X φ o w) w x zx)(hy:au φ o (ag X φ o w) w y zy)(h:(YI lf C o t x y).aD v u):IE C X φ o w v u (Instr.storeAt t zx zy):=by
 unfold YI at h;split at h
 ·rename_i id off;split at h
  ·rename_i cs ho;split at h
   ·rename_i vs hA;split at h
    ·rename_i b n hk;rw[eT,kg,ze,ze] at h;obtain⟨⟨⟨h1,h2⟩,hz⟩,rfl,rfl⟩:=h;have hz:rj vs=false:=by simp_all
     have h1:=zo h1;have h2:=zP h2;have⟨i,d,g1,g2,g3,g4⟩:=GW hk;have⟨k1,k2⟩:=qg6 hy hA;have hc:=hm.ar id;unfold au at hx;rw[ho] at hx hc;simp at hx;subst hx;obtain⟨h0,c,el,lo,hi,r1,r2,r3⟩:=hc;have l1:=Bw k1;have l2:=Bw r3;simp[Array.length_toList] at l1 l2;have hq:aV (φ id) (o id)=true:=by rw[ho];rfl
     have hj:=qkc (P:=C.P) (w:=w) g1 (a:=⟨(φ id).block,(φ id).off+off,none⟩) rfl (z:=zy) om r1 (by simp only;omega) (.inl r2) k2;refine⟨_,φ,hj,?_⟩;refine Comes.write hm _ (fun _=>hq) (by simp) (fun b hb=>setRow_other w _ b _ (fun e=>hb ⟨hq,e.symm⟩)) (by rw[ho];exact rfl) (fun a1 a2 a3=>?_) (zj7 hm ho (fun h=>qxb h hz) (.ov r1 (by simp only[jA];omega))) (fun _=>rfl);refine⟨h0,_,el,lo,hi,VR r1 _,r2,?_⟩;have:=EB a3 _ _ (qu2 off r3 k1);simpa[h0] using this
    ·cases h
   ·cases h
  ·cases h
 ·rename_i id ver i path;split at h
  ·rename_i e aA s ho;split at h
   ·rename_i t' ht;rw[eT,wD,ze,ze] at h;obtain⟨⟨⟨h1,h2⟩,h3⟩,y',h4,h5⟩:=h;simp only[jX] at h5;obtain⟨rfl,rfl⟩:=h5;obtain⟨x0,h6,h7⟩:=Dx h4;have h6:s.l[i]?=some x0:=h6;have⟨a,b,g1,g2⟩:=qu6 path e x0 _ h7 ht;have hf:=P5 hm (ig o y);have hB:id∉ig o y:=qj7 h3;have hs:aj o (eY o (ig o y)) id=.vec e aA false s:=by
     rcases GS (o:=o) (ig o y) id with ⟨k1,_⟩|⟨t1,v1,f1,s1,k1,k2⟩
     ·rw[k1,ho]
     ·have:id∈bU (eY o (ig o y)):=by
       by_cases hk:id∈bU (eY o (ig o y))
       ·exact hk
       ·rw[iR hk,ho] at k2;cases k2
      exfalso;have key:∀ks:List Nat,id∈bU (eY o ks)->id∈ks:=by
       intro ks
       induction ks with
       |nil=>intro h;cases h
       |cons q r ih=>
        intro h;simp[eY] at h;split at h
        ·rcases zA.1 h with h|h
         all_goals grind
        grind
      exact hB (key _ this)
    have hD:=hf.keeps _ _ hy;have hu:=hf.keeps _ _ hx;have hE:Ix (aj o (eY o (ig o y))) y:=VG (fun _ h=>h);rw[<-qzh (ig o y)] at g1;have hd:=qzi hf.mem hD hE g1;have hT:=hC.fD _ _ (qe h2);have hv:=qpq hT hd;have⟨ii,zz,m1,_,m2,_⟩:=hT.info;have hc:=hf.mem.ar id;unfold au at hu;rw[hs] at hu hc;obtain⟨hi,rfl⟩:=hu.2 (zo h1);have⟨b1,b2,b3⟩:=hc;have hn:s.nil=false:=by
     cases hn:s.nil with
     |false=>rfl
     |true=>rw[b2 hn] at hi;simp at hi
    obtain⟨b4,ec,b5,b6,b7,b8,_⟩:=(b3 hn).resolve_right fun g=>by rw[g.2.1] at hi;simp at hi
    have hq:aV (φ id) (aj o (eY o (ig o y)) id)=true:=by rw[hs];exact uZ hn b4
    obtain⟨r7,hF⟩:=zT.1 h6;have hl:=PL b5 i r7;rw[hF] at hl;have hG:=rR b5;have hH:(i+1)*aB e<=s.l.length*aB e:=jt _ r7;rw[Zm] at hH;have he:=ke _ _ _ hl;obtain⟨p1,p2⟩:=g2 _ zy.cells.toList _ w hl hv;rw[he] at p1;have hI:=ke _ _ _ hv;simp[Array.length_toList] at hI;obtain⟨c,el,lo,hJ,r1,r2,r3⟩:=b8 rfl;have hj:=qkc (P:=C.P) (w:=w) m1 (a:=⟨(φ id).block,(φ id).off+i*aB e+kY path e,none⟩) rfl (z:=zy) om r1 (by simp only;omega) (by simp only;omega) (IC _ _ _ hv);refine⟨_,φ,hj,hf.trans ?_⟩;have hg:(φ id).off+(i*aB e+kY path e)+zy.cells.toList.length<=c.size:=by simp;omega
    refine Comes.write hf.mem _ (fun _=>hq) (by simp) (fun b hb=>setRow_other w _ b _ (fun e=>hb ⟨hq,e.symm⟩)) ?_ (fun a1 a2 a3=>?_) (VW hf.mem hs hn (.ov r1 (by simp[Array.length_toList];omega))) (fun _=>rfl)
    ·rw[hs];refine .inr ⟨rfl,rfl,rfl,by simp[lf,kF],rfl,fun _=>⟨rfl,fun _ _ n hr=>?_⟩⟩;have:=DA (off:=(φ id).off+(i*aB e+kY path e)) (ds:=zy.cells.toList) r1 hg hr
     grind
    ·have hw:bT (az (ag X φ (aj o (eY o (ig o y))) w) w e) (s.l.set i y') (ov ec (i*aB e+kY path e) zy.cells.toList):=by have:=VS (i:=i) (m:=[y']) (by show i+1<=s.l.length;exact r7) b5 ⟨_,[],(zv _).symm,p2,rfl⟩;rw[zms _ _ _ _ _ (by simp;omega) om] at this;rw[ZW,zu r7];simpa using this
     refine⟨by simpa[lf,kF] using b1,fun h=>(by rw[hn] at h;cases h),fun _=>.inl ⟨b4,_,rq (j9 a1 a2 e) hw,?_,?_,fun _=>?_,by simp⟩⟩
     ·have:=VX (k:=i*aB e+kY path e) (ds:=zy.cells.toList) r1 b6 om hg
      grind
     ·have:=DA (off:=(φ id).off+(i*aB e+kY path e)) (ds:=zy.cells.toList) r1 hg b7
      grind
     ·have:=DA (off:=(φ id).off+(i*aB e+kY path e)) (ds:=zy.cells.toList) r1 hg (b8 rfl);simpa[Nat.add_assoc,lf,kF] using this
   ·cases h
  ·cases h
 ·cases h
end
section
variable {P:Program} {C:Cx} {X:Nat→Prop} {φ φ':Nat→Addr} {o o':Nat→Obj} {w w':World} {imm imm':Nat→Prop}
theorem z5t(hC:cS C)(hm:MRel C X φ o w){ty:TypeId}(hx:au φ o (ag X φ o w) w x zx)(hy:au φ o (ag X φ o w) w y zy)(h:(YZ lf C o t x y).aD v u):ck C X φ o w v u (Builtin.copy_ (t::ts).toArray ty #[zx,zy]):=by
 unfold YZ at h;split at h
 ·rename_i id ver;split at h
  ·rename_i e aA s ho;split at h
   ·rename_i m hD;rw[eT,kg,ze] at h;obtain⟨⟨h1,h2⟩,rfl,rfl⟩:=h;have h1:=zo h1;subst h1;have⟨ei,ht,_,he⟩:=Dw h2;have⟨i,z,k1,_,k2,k3,k4,k5,k6⟩:=(hC.fD _ _ he).info;have⟨news,n1,n2,n3,n4⟩:=qu4 (P:=C.P) hm hy hD;have hk:=hm.ar id;unfold au at hx;rw[ho] at hx hk;have⟨b1,b2,b3⟩:=hk;have ru:iI .i64 (lf.lA (lf.n s.l) (lf.n m)):=by simp[lf,lA,aa];unfold cG at b1 n2;unfold iI IntKind.min IntKind.max;simp[IntKind.signed,IntKind.bits];split<;>omega
    have hj:(lf.lA (lf.n s.l) (lf.n m))=((Nat.min m.length s.l.length:Nat):Int):=by
     simp[lf,lA,aa]
     grind
    have hc:(uz s.l m).length=s.l.length:=by unfold uz;simp;omega
    rcases hx.2 rfl with ⟨hn,rfl⟩|⟨hn,cap,rfl,c1,c4,c2⟩
    ·have hq:=b2 hn;have hl:=n4 w 0 rfl (zC _);rw[<-k2] at hl;have hf:(Builtin.copy_ (t::ts).toArray ty #[.slice none 0 0,zy]).run C.P w=.ok (goInt 0) w:=by simp[Builtin.copy_,run_underlying ht,n3 w,kZ k1,hl]
     refine⟨_,w,φ,hf,Comes.write hm _ (by simp[aV,live,hn]) rfl (fun _ _=>rfl) (by rw[ho];exact .inr ⟨rfl,rfl,rfl,hc.symm,rfl,fun _=>⟨rfl,fun _ _ _ h=>h⟩⟩) (fun _ _ _=>⟨?_,fun _=>?_,fun h=>(by rw[hn] at h;cases h)⟩) (fun _ h=>(by rw[hn] at h;cases h)) (fun _=>?_)⟩
     ·show(uz s.l m).length<=cG;omega
     ·exact jl (by show(uz s.l m).length=0;rw[hc,hq];rfl)
     ·rw[hj] at ru ⊢;rw[hq] at ru ⊢;have e0:((Nat.min m.length ([]:List (den e)).length:Nat):Int)=0:=by simp
      rw[e0] at ru ⊢;exact oG ru
    ·rcases b3 hn with ⟨b4,ec,b5,b6,b7,b8,_⟩|⟨b4,d1,d3⟩
     ·have hw:aV (φ id) (o id)=true:=by rw[ho];exact uZ hn b4
      obtain⟨c,el,lo,hi,r1,r2,r3⟩:=b8 rfl;have hs:Nat.min m.length s.l.length<=m.length:=Nat.min_le_left _ _;have hE:Nat.min m.length s.l.length<=s.l.length:=Nat.min_le_right _ _;have hF:=jt (aB e) hE;have hz:=n4 w (Nat.min m.length s.l.length) rfl hs;rw[<-k2] at hz;have hJ:=rR n1;have hG:=jt (aB e) hs;have hH:(news.take (Nat.min m.length s.l.length*i.size)).length=Nat.min m.length s.l.length*aB e:=by rw[k2];simp[List.length_take];omega
      have hu:=(xK (Nat.min m.length s.l.length) hs n1).1;rw[<-k2] at hu;have hA:=Qc (P:=C.P) (b:=(φ id).block) (off:=(φ id).off) (news.take (Nat.min m.length s.l.length*i.size)) 0 c w r1 om (by rw[hH];omega) (VT hu);have eZ:=(VA b4).symm;rw[eZ] at hA;have hf:(Builtin.copy_ (t::ts).toArray ty #[.slice (some (bare (φ id))) s.l.length cap,zy]).run C.P w=.ok (goInt ((Nat.min m.length s.l.length:Nat):Int)) (w.setRow (φ id).block (ov c.toList (φ id).off (news.take (Nat.min m.length s.l.length*i.size))).toArray):=by simp[Builtin.copy_,run_underlying ht,n3 w,kZ k1,hz,hA]
      have hg:(φ id).off+(news.take (Nat.min m.length s.l.length*i.size)).length<=c.size:=om
      have hv:uz s.l m=s.l.take 0++m.take (Nat.min m.length s.l.length)++s.l.drop (0+(m.take (Nat.min m.length s.l.length)).length):=by
       unfold uz;by_cases hK:m.length<=s.l.length
       ·grind
       ·have:Nat.min m.length s.l.length=s.l.length:=Nat.min_eq_right om
        simp_all
      have hB:=VS (i:=0) (m:=m.take (Nat.min m.length s.l.length)) (by simp[Nat.zero_add,List.length_take];omega) b5 hu;rw[<-hv] at hB;refine⟨_,_,φ,hf,Comes.write hm _ (fun _=>hw) (by simp) (fun b hb=>setRow_other w _ b _ (fun e=>hb ⟨hw,e.symm⟩)) ?_ (fun a1 a2 a3=>⟨?_,fun h=>(by rw[hn] at h;cases h),fun _=>.inl ⟨b4,_,rq (j9 a1 a2 e) hB,?_,?_,fun _=>?_,by simp⟩⟩) (VW hm ho hn (.ov r1 hg)) (fun _=>?_)⟩
      ·rw[ho];exact .inr ⟨rfl,rfl,rfl,hc.symm,rfl,fun _=>⟨rfl,fun _ _ n hr=>DA r1 hg hr⟩⟩
      ·show(uz s.l m).length<=cG;omega
      ·have:=VX (k:=0) (ds:=news.take (Nat.min m.length s.l.length*i.size)) r1 b6 (zC _) (by simp_all);simpa using this
      ·exact DA r1 hg b7
      ·show room _ _ ((uz s.l m).length*aB e);rw[hc];exact DA r1 hg (b8 rfl)
      ·rw[hj] at ru ⊢;exact oG ru
     ·have hI:Nat.min m.length s.l.length=0:=by rw[d1];exact Nat.min_zero _
      have hl:=n4 w 0 rfl (zC _);rw[<-k2] at hl;have hq:=jl (by rw[hc,d1];rfl);have hf:(Builtin.copy_ (t::ts).toArray ty #[.slice (some (bare (φ id))) s.l.length cap,zy]).run C.P w=.ok (goInt 0) w:=by rw[d1];simp[Builtin.copy_,run_underlying ht,n3 w,kZ k1,hl,storeCells]
      refine⟨_,w,φ,hf,Comes.write hm _ (fun h=>absurd (Ey h).2.2 b4) rfl (fun _ _=>rfl) (by rw[ho];exact .inr ⟨rfl,rfl,rfl,hc.symm,rfl,fun _=>⟨rfl,fun _ _ _ h=>h⟩⟩) (fun _ _ _=>⟨?_,fun h=>(by rw[hn] at h;cases h),fun _=>.inr ⟨b4,hq,d3⟩⟩) (fun h=>absurd h d3) (fun _=>?_)⟩
      ·show(uz s.l m).length<=cG;omega
      ·rw[hj,hI] at ru ⊢;exact oG ru
   ·cases h
  ·cases h
 ·cases h
theorem z5u{ty:TypeId}(ht:P.underlying t=some (.slice ei))(hi:P.info? ei=some i)(hz:i.zero=some z){a:Addr}{cap:Nat}{w':World}(hn:n≠0)(hc:(storeCells a (Builtin.zeroCells z.cells n).toList 0).run P w=.ok () w'):(Builtin.clear_ (t::ts).toArray ty #[.slice (some a) n cap]).run P w=.ok (.tuple #[]) w':=by
 have h0:∀m,n=m+1->(Builtin.clear_ (t::ts).toArray ty #[.slice (some a) n cap]).run P w=.ok (.tuple #[]) w':=by rintro m rfl;simp[Builtin.clear_,run_underlying ht,GV hi hz,hc]
 exact h0 (n-1) om
theorem qfh{ty:TypeId}(ht:P.underlying t=some (.slice ei)){a:Option Addr}{cap:Nat}:(Builtin.clear_ (t::ts).toArray ty #[.slice a 0 cap]).run P w=.ok (.tuple #[]) w:=by cases a<;>simp[Builtin.clear_,run_underlying ht]
theorem z5v{imm:Nat->Prop}(hz:az imm w e (zero e) z.cells.toList)(n:Nat):bT (az imm w e) (List.replicate n (zero e)) (Builtin.zeroCells z.cells n).toList:=by
 have h:(Builtin.zeroCells z.cells n).toList=(List.replicate n z.cells.toList).flatten:=by rw[<-qj6];simp[Builtin.zeroCells]
 rw[h];exact qmn hz n
theorem z30(hC:cS C)(hm:MRel C X φ o w){ty:TypeId}(hx:au φ o (ag X φ o w) w x zx)(h:(Z0 lf C o t x).aD v u):ck C X φ o w v u (Builtin.clear_ (t::ts).toArray ty #[zx]):=by
 unfold Z0 at h;split at h
 ·rename_i id ver lo;split at h
  ·rename_i e aA s ho;rw[eT,kg,ze] at h;obtain⟨⟨h1,h2⟩,rfl,rfl⟩:=h;have h1:=zo h1;subst h1;have⟨ei,ht,_,he⟩:=Dw h2;have⟨i,z,k1,_,k2,k3,k4,k5,k6⟩:=(hC.fD _ _ he).info;have hl:=hm.ar id;unfold au at hx;rw[ho] at hx hl;have⟨b1,b2,b3⟩:=hl;obtain⟨k,rfl,hk,hx⟩:=hx.2 rfl;have e1:lf.gb s.l (k:Int) (zero e)=s.l.take k++List.replicate (s.l.length-k) (zero e):=by simp[lf,gb]
   have hg:(lf.gb s.l (k:Int) (zero e)).length=s.l.length:=by rw[e1];simp;omega
   have same:s.l.length-k=0->lf.gb s.l (k:Int) (zero e)=s.l:=fun h=>by grind
   have nothing:s.l.length-k=0->(Builtin.clear_ (t::ts).toArray ty #[zx]).run C.P w=.ok (.tuple #[]) w->ck C X φ o w (.mW []) [(id,.vec e ver false ⟨s.nil,lf.gb s.l (k:Int) (zero e)⟩)] (Builtin.clear_ (t::ts).toArray ty #[zx]):=by
    intro h0 hj;rw[same h0];refine⟨_,w,φ,hj,Comes.write hm _ (fun h=>by rw[ho];exact h) rfl (fun _ _=>rfl) (by rw[ho];exact .inr ⟨rfl,rfl,rfl,rfl,rfl,fun _=>⟨rfl,fun _ _ _ h=>h⟩⟩) (fun a1 a2 a3=>?_) ?_ (fun _=>⟨#[],rfl,rfl⟩)⟩
    ·exact Iw a1 a2 a3 rfl (fun _=>rfl) (show rS φ o (ag X φ o w) w id (.vec e ver false s) from⟨b1,b2,b3⟩)
    ·have:=hm.uA id
     rwa [ho] at this
   rcases hx with ⟨hn,rfl⟩|⟨hn,cap,rfl,hc⟩
   ·exact nothing (by rw[b2 hn];simp) (qfh ht)
   ·by_cases h0:s.l.length-k=0
    ·rw[h0];rw[h0] at nothing;exact nothing rfl (qfh ht)
    ·have hw:cap≠0:=om
     rw[zj hw];rcases b3 hn with ⟨b4,ec,b5,b6,b7,b8,_⟩|⟨_,b5,_⟩
     ·have hs:aV (φ id) (o id)=true:=by rw[ho];exact uZ hn b4
      have⟨c,el,Dn,hi,r1,r2,r3⟩:=b8 rfl;have hq:=z5v (k6 (ag X φ o w) w) (s.l.length-k);have hu:=rR hq;rw[jp] at hu;have hA:=rR b5;have hy:k*aB e+(s.l.length-k)*aB e=s.l.length*aB e:=by rw[<-jY];congr 1;omega
      have hz:=Qc (P:=C.P) (b:=(φ id).block) (off:=(φ id).off+k*aB e) (Builtin.zeroCells z.cells (s.l.length-k)).toList 0 c w r1 om (by rw[hu];omega) (VT hq);have hj:=z5u (ts:=ts) (ty:=ty) (cap:=cap) ht k1 k4 h0 hz;have hf:(φ id).off+k*aB e+(Builtin.zeroCells z.cells (s.l.length-k)).toList.length<=c.size:=om
      refine⟨_,_,φ,hj,Comes.write hm _ (fun _=>hs) (by simp) (fun b hb=>setRow_other w _ b _ (fun e=>hb ⟨hs,e.symm⟩)) ?_ (fun a1 a2 a3=>⟨by rw[hg];exact b1,fun h=>(by rw[hn] at h;cases h),fun _=>.inl ⟨b4,ov ec (k*aB e) (Builtin.zeroCells z.cells (s.l.length-k)).toList,?_,?_,?_,fun _=>?_,by simp⟩⟩) (VW hm ho hn (.ov r1 hf)) (fun _=>⟨#[],rfl,rfl⟩)⟩
      ·rw[ho];exact .inr ⟨rfl,rfl,rfl,hg.symm,rfl,fun _=>⟨rfl,fun _ _ n hr=>DA r1 hf hr⟩⟩
      ·have hv:=VS (i:=k) (m:=List.replicate (s.l.length-k) (zero e)) (by rw[jp];omega) b5 hq;have e3:s.l.take k++List.replicate (s.l.length-k) (zero e)++s.l.drop (k+(List.replicate (s.l.length-k) (zero e)).length)=s.l.take k++List.replicate (s.l.length-k) (zero e):=by rw[jp,zR om,zv]
       rw[e3] at hv;exact rq (j9 a1 a2 e) hv
      ·have:=VX (k:=k*aB e) (ds:=(Builtin.zeroCells z.cells (s.l.length-k)).toList) r1 b6 om hf;exact this
      ·exact DA r1 hf b7
      ·rw[hg];exact DA r1 hf (b8 rfl)
     ·exfalso;apply h0;rw[b5];simp
  ·cases h
 ·cases h
end
section
variable {P:Program} {C:Cx} {X:Nat→Prop} {φ φ':Nat→Addr} {o o':Nat→Obj} {w w':World} {imm imm':Nat→Prop}
structure nW (C:Cx):Prop where
 eq:∀(w:World) (imm:Nat->Prop) (t:TypeId) (p:Ty) (a b:den p) (xs ys:Array Value),bF t C.eqs=true->C.ty t=some (.st p)->az imm w p a xs.toList->az imm w p b ys.toList->
   (Op.equal t (.agg xs) (.agg ys)).run C.P w=.ok (wA lf p a b) w
 guard:∀t,bF t C.eqs=true->C.P.eqGuardType C.P.depth t=false
def qu7(C:Cx)(f:Field):Bool:=(f.name != "_")&&(match C.ty f.type with
 |some (.int _)=>true
 |some .bool=>true
 |some .str=>true
 |some (.st _)=>bF f.type C.eqs
 |_=>false)
def VZ(C:Cx):List Field->Bool
 |[]=>true
 |f::r=>qu7 C f&&VZ C r
def oW:Ty->Nat
 |.st p=>oW p+1
 |.pair a b=>oW a+oW b
 |_=>0
def Qf(C:Cx)(t:TypeId):Bool:=!(C.P.stoodInHeld t)&&!(C.P.eqGuardType C.P.depth t)&&(match desc C.P t with
 |some (.struct fs)=>VZ C fs.toList
 |_=>false)&&(match C.ty t with
 |some T=>Nat.ble (oW T) 1000
 |none=>false)
def IF(C:Cx):List Nat->Bool
 |[]=>true
 |t::r=>Qf C t&&IF C r
theorem V0:∀{l:List Nat},IF C l=true->∀{t},bF t l=true->Qf C t=true
 |[],_,t,h=>by cases h
 |b::r,hc,t,h=>by
  simp[IF,Bool.and_eq_true] at hc;simp only[bF] at h;cases hb:Nat.beq b t with
  |true=>have:=zo hb;subst this;exact hc.1
  |false=>rw[hb] at h;exact V0 hc.2 h
theorem z31(hC:cS C)(hq:IF C C.eqs=true):∀(n d:Nat) (t:TypeId) (T:Ty) (a b:den T) (za zb:Value),n<d->oW T<=n->C.ty t=some T->(match T with|.int _=>True|.bool=>True|.str=>True|.st _=>bF t C.eqs=true|_=>False)->dS imm w T a za->dS imm w T b zb->(Op.equalIn d t za zb).run C.P w=.ok (wA lf T a b) w:=by
 intro n
 induction n with
 |zero=>
  intro d t T a b za zb hd hl ht hk ha hb;obtain⟨d,rfl⟩:∃k,d=k+1:=⟨d-1,by omega⟩;obtain⟨dd,_,hu,he⟩:=(hC.fD _ _ ht).desc;cases T<;>simp at hk
  ·cases dd<;>simp only[pE] at he<;>try (cases he;done)
   have h1:au (fun _=>⟨0,0,none⟩) (fun _=>Obj.none) imm w (.d _ a) za:=ha;have h2:au (fun _=>⟨0,0,none⟩) (fun _=>Obj.none) imm w (.d _ b) zb:=hb;obtain⟨rfl,_⟩:=pC h1;obtain⟨rfl,_⟩:=pC h2;exact run_equalIn_int _ _ _ _ _ _ _ hu
  ·cases dd<;>first|(simp only[pE] at he;cases he;done)|skip
   have h1:au (fun _=>⟨0,0,none⟩) (fun _=>Obj.none) imm w (.d _ a) za:=ha;have h2:au (fun _=>⟨0,0,none⟩) (fun _=>Obj.none) imm w (.d _ b) zb:=hb;have e1:=uB h1;have e2:=uB h2;subst e1 e2;exact run_equalIn_bool' _ _ _ _ _ hu
  ·cases dd<;>first|(simp only[pE] at he;cases he;done)|skip
   have h1:au (fun _=>⟨0,0,none⟩) (fun _=>Obj.none) imm w (.d _ a) za:=ha;have h2:au (fun _=>⟨0,0,none⟩) (fun _=>Obj.none) imm w (.d _ b) zb:=hb;obtain⟨s,rfl,rfl,_⟩:=rU h1;obtain⟨s',rfl,rfl,_⟩:=rU h2;have:=zgc s s';unfold bl at this;show _=Result.ok (bW _ _) w;rw[this];exact run_equalIn_string _ _ _ _ _ hu
  ·simp[oW] at hl
 |succ n ih=>
  intro d t T a b za zb hd hl ht hk ha hb;by_cases hs:∃p,T=.st p
  ·obtain⟨p,rfl⟩:=hs;simp only at hk;obtain⟨d,rfl⟩:∃k,d=k+1:=⟨d-1,by omega⟩;have h1:=V0 hq hk;unfold Qf at h1;simp only[ze,ZG] at h1;obtain⟨⟨⟨h1,h2⟩,h3⟩,h4⟩:=h1;obtain⟨fs,g1,g2,g3⟩:=VK hC ht;rw[g1] at h3;simp only at h3;obtain⟨xs,rfl,hv⟩:=ha;obtain⟨ys,rfl,hw⟩:=hb;have hx:C.P.fieldsOf t=fs:=by unfold Program.fieldsOf;rw[g2]
   rw[run_equalIn_struct w d t xs ys (by rw[hx];exact g2) h1,hx];simp[oW] at hl;have key:∀(fs:List Field) (p:Ty) (off:Nat) (a b:den p),oW p<=n->uC C fs p off=true->VZ C fs=true->az imm w p a ((xs.toList.drop off).take (aB p))->az imm w p b ((ys.toList.drop off).take (aB p))->
     (Op.eqFields d xs ys fs).run C.P w=.ok (wA lf p a b) w:=by
    intro fs
    induction fs with
    |nil=>
     intro p off a b _ h _ _ _;cases p<;>first|(simp only[uC] at h;cases h;done)|skip
     simp[Op.eqFields,wA]
    |cons f r ihf=>
     intro p off a b hn h hf ha hb;simp only[VZ,ze] at hf;have⟨hc,hy⟩:=hf;unfold qu7 at hc;rw[ze] at hc;obtain⟨hm,hc⟩:=hc;have hm:f.name≠ "_":=by simpa using hm
     have one:∀(q:Ty) (a b:den q),C.ty f.type=some q->oW q<=n->f.offset=off->az imm w q a ((xs.toList.drop off).take (aB q))->az imm w q b ((ys.toList.drop off).take (aB q))->
       ∃va vb,(part f.type xs f.offset).run C.P w=.ok va w/\(part f.type ys f.offset).run C.P w=.ok vb w/\(Op.equalIn d f.type va vb).run C.P w=.ok (wA lf q a b) w:=by
      intro q a b ho hz hg ha hb;obtain⟨va,v1,v2⟩:=VJ (w:=w) (hC.fD _ _ ho) (cs:=xs) (off:=f.offset) (by rw[hg];exact ha);obtain⟨vb,v3,v4⟩:=VJ (w:=w) (hC.fD _ _ ho) (cs:=ys) (off:=f.offset) (by rw[hg];exact hb);rw[ho] at hc;exact⟨va,vb,v1,v3,ih d f.type q a b va vb om hz ho (by cases q<;>first|trivial|exact hc|(simp at hc;done)) v2 v4⟩
     cases r with
     |nil=>
      have h:(C.is f.type p&&Nat.beq f.offset off)=true:=by cases p<;>exact h
      rw[ze] at h;obtain⟨va,vb,v1,v2,v3⟩:=one p a b (qe h.1) hn (zo h.2) ha hb;simp only[Op.eqFields,zu hm,Sem.run_bind,v1,v2,v3,Result.andThen_ok];cases wA lf p a b<;>simp
     |cons g r=>
      cases p<;>first|(simp only[uC] at h;cases h;done)|skip
      rename_i s t;simp only[uC,ze] at h;obtain⟨c1,c2,e1,a1,a2⟩:=ha;obtain⟨d1,d2,e2,b1,b2⟩:=hb;have cut:∀{l c1 c2:List Value},(l.drop off).take (aB s+aB t)=c1++c2->c1.length=aB s->c2.length=aB t->(l.drop off).take (aB s)=c1/\(l.drop (off+aB s)).take (aB t)=c2:=by
       intro l c1 c2 e l1 l2;have f1:=jd (List.take (aB s)) e;rw[List.take_take,Zj om,<-l1,Zz] at f1
       ·have f2:=jd (List.drop (aB s)) e;rw[<-l1,List.drop_left',Zq,jw,l1,Zr] at f2
        ·rw[l1] at f1;exact⟨f1,f2⟩
        ·rfl
       ·rfl
      simp only[aB] at e1 e2;obtain⟨f1,f2⟩:=cut e1 (ke _ _ _ a1) (ke _ _ _ a2);obtain⟨f3,f4⟩:=cut e2 (ke _ _ _ b1) (ke _ _ _ b2);simp only[oW] at hn;obtain⟨va,vb,v1,v2,v3⟩:=one s a.1 b.1 (qe h.1.1) om (zo h.1.2) (by rw[f1];exact a1) (by rw[f3];exact b1);have hj:=ihf t (off+aB s) a.2 b.2 om h.2 hy (by rw[f2];exact a2) (by rw[f4];exact b2);rw[Op.eqFields];simp only[zu hm,Sem.run_bind,v1,v2,v3,Result.andThen_ok];show _=Result.ok (aH (wA lf s a.1 b.1) (wA lf t a.2 b.2)) w;cases wA lf s a.1 b.1
      ·simp[aH]
      ·simp[Bool.not_true,Bool.false_eq_true,hj,aH,Bool.true_and]
   have hA:=ke _ _ _ hv;have hB:=ke _ _ _ hw;exact key fs.toList p 0 a b om g3 h3 (by rw[jh,<-hA,jD];exact hv) (by rw[jh,<-hB,jD];exact hw)
  ·refine ih d t T a b za zb om ?_ ht hk ha hb;cases T<;>first|exact zC _|exact hk.elim|exact absurd ⟨_,rfl⟩ hs
theorem z5x{a b:Value}{r:Bool}(h:∀d,1000<d->(Op.equalIn d t a b).run P w=.ok r w):(Op.equal t a b).run P w=.ok r w:=by exact h _ dc
theorem zj9(hC:cS C)(hq:IF C C.eqs=true):nW C where
 eq:=by intro w imm t p a b xs ys h1 h2 h3 h4;have h5:=V0 hq h1;unfold Qf at h5;simp[Bool.and_eq_true] at h5;have h6:=h5.2;rw[h2] at h6;have h6:=zP h6;exact z5x fun d hd=>z31 (imm:=imm) hC hq 1000 d t (.st p) a b _ _ hd h6 h2 h1 ⟨xs,rfl,h3⟩ ⟨ys,rfl,h4⟩
 guard:=by
  intro t h1;have h5:=V0 hq h1;unfold Qf at h5
  grind
end
section
variable {C:Cx} {X:Nat→Prop} {φ:Nat→Addr} {o:Nat→Obj} {w:World} {imm:Nat→Prop}
end
section
variable {C:Cx} {X:Nat→Prop} {φ:Nat→Addr} {o:Nat→Obj} {w:World} {imm:Nat→Prop}
theorem qu8(s:ByteArray):mM (s.data.toList.map fun b=>(b.toNat:Int))=s:=by
 have⟨⟨l⟩⟩:=s;show ByteArray.mk ((l.map fun b=>(b.toNat:Int)).map fun b=>UInt8.ofNat b.toNat).toArray=ByteArray.mk ⟨l⟩;congr 2
 induction l with
 |nil=>rfl
 |cons a l ih=>simp_all
theorem z5y{s:ByteArray}{ty:TypeId}(h:w.heap[b]?=some (.stringIter s n))(hn:n<s.size):(Instr.next (.pointer (some ⟨b,0,none⟩)) true ty).run P w=.ok (.tuple #[.bool true,.int .i64 n,.int .i32 (Utf8.decode s n).1]) {w with heap:=w.heap.setIfInBounds b (.stringIter s (n+(Utf8.decode s n).2))}:=by simp[Instr.next,getObj,setObj,Sem.run,h,hn,Result.andThen,goInt]
theorem z5z{s:ByteArray}{ty:TypeId}(h:w.heap[b]?=some (.stringIter s n))(hn:¬n<s.size):(Instr.next (.pointer (some ⟨b,0,none⟩)) true ty).run P w=.ok (.tuple #[.bool false]) w:=by simp[Instr.next,getObj,Sem.run,h,hn,Result.andThen]
theorem z32(hm:MRel C X φ o w)(hx:au φ o (ag X φ o w) w x zx)(h:(Z1 C fr t x).aD v u)(hf:nK fr o u):ck C X φ o w v u (Instr.range t zx):=by
 unfold Z1 at h;split at h
 ·rename_i hd;split at h
  ·rename_i l;obtain⟨rfl,rfl⟩:=h;obtain⟨s,rfl,hs,hl⟩:=rU hx;have hc:o fr=.none:=hf _ (zg ..) (zm _) om;refine⟨.pointer (some ⟨w.heap.size,0,none⟩),w.alloc (.stringIter s 0),dR φ fr ⟨w.heap.size,0,none⟩,run_range_string w t s (nV hd),?_⟩;refine Comes.fresh hm (B:=.stringIter s 0) rfl (.iter l 0) (ns:=[]) (fun p hp=>by cases hp) (fun _=>by rw[hc];trivial) (fun _ _ _=>?_) trivial (fun h3=>?_)
   ·refine⟨s,0,?_,hs,rfl,hl⟩;rw[gq];show(w.heap.push (Go.Obj.stringIter s 0))[w.heap.size]?=some (Go.Obj.stringIter s 0);simp
   ·unfold au;rw[h3,gq]
  ·cases h
 ·cases h
theorem z60(hm:MRel C X φ o w){ty:TypeId}(hx:au φ o (ag X φ o w) w x zx)(h:(Z2 lf o x).aD v u):ck C X φ o w v u (Instr.next zx true ty):=by
 unfold Z2 at h;split at h
 ·rename_i id;split at h
  ·rename_i l p ho;obtain⟨rfl,rfl⟩:=h;have hc:=hm.ar id;rw[ho] at hc;obtain⟨s,n,hb,hs,rfl,hl⟩:=hc;have he:aV (φ id) (o id)=true:=by rw[ho];rfl
   unfold au at hx;rw[ho] at hx;subst hx;have hf:l.length=s.size:=by rw[<-hs];simp
   have hg:mM l=s:=by rw[<-hs];exact qu8 s
   by_cases hn:n<s.size
   ·have e1:lf.l (n:Int) (lf.n l)=true:=zw (by show(n:Int)<(l.length:Int);omega);have e2:lf.gP l (n:Int)=((n+(Utf8.decode s n).2:Nat):Int):=by
     show(if(n:Int)<(l.length:Int) then _ else _)=_
     grind
    have e3:lf.fh l (n:Int)=((Utf8.decode s n).1:Int):=by
     show((Utf8.decode (mM l) (n:Int).toNat).1:Int)=_
     grind
    rw[e1,e2,e3];refine⟨_,_,φ,z5y hb hn,Comes.write hm _ (fun _=>he) (by simp) (fun b hb=>?_) (by rw[ho];exact rfl) (fun a1 a2 a3=>?_) trivial (fun _=>?_)⟩
    ·grind
    ·refine⟨s,_,?_,hs,rfl,hl⟩
     grind
    ·have hr:=decode_le s n;have h1:iI .i64 (n:Int):=by unfold cG at hl;show(-9223372036854775808:Int)<=_/\_<=(9223372036854775807:Int);omega
     have h2:iI .i32 ((Utf8.decode s n).1:Int):=by show(-2147483648:Int)<=_/\_<=(2147483647:Int);omega
     exact .inl ⟨rfl,rfl,h1,h2⟩
   ·have e1:lf.l (n:Int) (lf.n l)=false:=zt (by show ¬(n:Int)<(l.length:Int);omega);have e2:lf.gP l (n:Int)=(n:Int):=by show(if(n:Int)<(l.length:Int) then _ else _)=_;rw[zj om]
    rw[e1,e2];refine⟨_,w,φ,z5z hb hn,Comes.write hm _ (fun _=>he) rfl (fun b _=>rfl) (by rw[ho];exact rfl) (fun a1 a2 a3=>?_) trivial (fun _=>?_)⟩
    ·exact⟨s,n,hb,hs,rfl,hl⟩
    ·exact .inr ⟨rfl,rfl⟩
  ·cases h
 ·cases h
theorem qzn{b:Bool}{x y:α}(h:(aL b (some x) none:Option α)=some y):b=true/\x=y:=by
 cases b with
 |true=>exact⟨rfl,jb h⟩
 |false=>cases h
theorem zc3(hm:MRel C X φ o w){i:Nat}(hx:au φ o (ag X φ o w) w x zx)(h:(Z3 lf i x).aD v u):ck C X φ o w v u (Instr.extract zx i):=by
 unfold Z3 at h;split at h
 ·rename_i vs;obtain⟨c,rfl,hr⟩:=hx;split at h
  ·rename_i v' hv;obtain⟨rfl,rfl⟩:=h;have⟨z,h1,h2⟩:=P6 hr hv;rw[ji] at h1;exact ck.aW hm ⟨rfl,z,by simp[Instr.extract,h1],h2⟩
  ·cases h
 ·rename_i b p c;split at h
  ·rw[kg] at h;obtain⟨rfl,rfl⟩:=h;refine ck.aW hm ⟨rfl,.bool b,?_,EA⟩;rcases hx with ⟨rfl,rfl,_⟩|⟨rfl,rfl⟩<;>simp[Instr.extract]
  ·rw[It] at h;have⟨y,h1,h2⟩:=h;obtain⟨rfl,rfl⟩:=qzn h1;injection h2 with h2 h3;subst h2 h3;rcases hx with ⟨_,rfl,h4,_⟩|⟨h4,_⟩
   ·exact ck.aW hm ⟨rfl,.int .i64 p,by simp[Instr.extract],oG h4⟩
   ·cases h4
  ·rw[It] at h;have⟨y,h1,h2⟩:=h;obtain⟨rfl,rfl⟩:=qzn h1;injection h2 with h2 h3;subst h2 h3;rcases hx with ⟨_,rfl,_,h4⟩|⟨h4,_⟩
   ·exact ck.aW hm ⟨rfl,.int .i32 c,by simp[Instr.extract],oG h4⟩
   ·cases h4
  ·cases h
 ·cases h
end
end Ev