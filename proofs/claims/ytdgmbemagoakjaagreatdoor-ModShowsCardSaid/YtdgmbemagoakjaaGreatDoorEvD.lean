/- Operations are sound: building, making, appending, storing, copying, comparing. -/
import Derived.Test.YtdgmbemagoakjaaGreatDoorEvC
import Derived.Laws.RangeAny
set_option linter.defProp false
namespace Ev
open Go
section
variable {P:Program} {C:Cx} {X:Nat→Prop} {φ φ':Nat→Addr} {o o':Nat→Obj} {w w':World} {imm imm':Nat→Prop}
def FI(φ:Nat->Addr)(o:Nat->Obj)(imm:Nat->Prop)(w:World):List (Nat×V)->List (Nat×Value)->Prop
 |[],zs=>zs=[]
 |p::l,zs=>∃z r,zs=(p.1,z)::r/\ay φ o imm w p.2 z/\FI φ o imm w l r
def qnw(h:∀x z,ay φ o imm w x z->ay φ' o' imm' w' x z):∀(l:List (Nat×V)) (zs:List (Nat×Value)),FI φ o imm w l zs->FI φ' o' imm' w' l zs
 |[],_,h1=>h1
 |_::l,_,⟨a,r,h1,h2,h3⟩=>⟨a,r,h1,h _ _ h2,qnw h l _ h3⟩
def quj{cs vs:List V}{zs ys:List Value}(off:Nat)(h:ck φ o imm w cs zs)(h':ck φ o imm w vs ys):ck φ o imm w (Qz cs off vs) (ov zs off ys):=by unfold Qz ov;rw[KC h'];exact KD (KD (Sq off h) h') (Sp _ h)
def qxu{fs:List Field}{places:Array (Nat×Nat)}(hp:∀(i:Nat) fd b n,fs[i]?=some fd->yG C.P fd.type=some (b,n)->places[i]?=some (fd.offset,n)):∀(parts:List (Nat×V)) (zparts:List (Nat×Value)) (cs lW:List V) (cells:Array Value),FI φ o imm w parts zparts->ck φ o imm w cs cells.toList->WH C o fs parts cs=some lW->∃dI,Instr.fill (places[·]?) cells zparts=some dI/\ck φ o imm w lW dI.toList:=by
 intro parts
 induction parts with
 |nil=>intro zparts cs lW cells h1 h2 h;simp[FI] at h1;subst h1;injection h with h;subst h;exact⟨cells,rfl,h2⟩
 |cons p r ih=>
  intro zparts cs lW cells ⟨z,zr,e,h1,hc⟩ h2 h;subst e;simp only[WH] at h;split at h
  ·rename_i fd vs h3 h4;split at h
   ·rename_i b n hk;cases hb:(Nat.beq vs.length n&&Nat.ble (fd.offset+n) cs.length) with
    |false=>rw[hb] at h;cases h
    |true=>rw[hb] at h;rw[ze] at hb;have he:=zj hb.1;have hf:=zD hb.2;obtain⟨g1,g2⟩:=qhz h1 h4;have l1:=KC g1;have l2:=KC h2;simp only[Array.length_toList] at l1 l2;have:=ih zr _ _ (ov cells.toList fd.offset z.cells.toList).toArray hc (by simpa using quj fd.offset h2 g1) h;rw[<-quf (places[·]?) cells p.1 z zr (hp _ _ _ _ h3 hk) om om] at this;exact this
   ·cases h
  ·cases h
def qnx(hm:MRel C X φ o w){ei:TypeId}{e:Ty}(hT:oI C ei e):∀(parts:List (Nat×V)) (zparts:List (Nat×Value)) (l l':List (den e)) (cells:Array Value),FI φ o (aj X φ o w) w parts zparts->(∀p,p∈parts->yR o p.2)->bR (aE (aj X φ o w) w e) l cells.toList->Kr lf o e parts l=some l'->∃dI,Instr.fill (fun i=>some (i*aM e,aM e)) cells zparts=some dI/\bR (aE (aj X φ o w) w e) l' dI.toList/\l'.length=l.length:=by
 intro parts
 induction parts with
 |nil=>intro zparts l l' cells h1 _ h2 h;simp[FI] at h1;subst h1;injection h with h;subst h;exact⟨cells,rfl,h2,rfl⟩
 |cons p r ih=>
  intro zparts l l' cells ⟨z,zr,e1,h1,hg⟩ hf h2 h;subst e1;simp only[Kr] at h;split at h
  ·rename_i x h3;cases hb:Nat.blt p.1 l.length with
   |false=>rw[hb] at h;cases h
   |true=>
    rw[hb] at h;have he:p.1<l.length:=zD hb;have hr:=z02 hm h1 (hf p (zg ..)) h3;have hc:=qqk hT hr;have l1:=iQ _ _ _ hc;have l2:=qu h2;simp only[Array.length_toList] at l1 l2;have hj:(p.1+1)*aM e<=l.length*aM e:=Nat.mul_le_mul_right _ he;rw[Nat.succ_mul] at hj;have h4:bR (aE (aj X φ o w) w e) (l.set p.1 x) (ov cells.toList (p.1*aM e) z.cells.toList):=by have:=Xg (i:=p.1) (m:=[x]) (by show p.1+1<=l.length;exact he) h2 ⟨_,[],(zn _).symm,hc,rfl⟩;rw[List.set_eq_take_append_cons_drop,if_pos he];simpa using this
    obtain⟨dI,g1,g2,g3⟩:=ih zr _ _ (ov cells.toList (p.1*aM e) z.cells.toList).toArray hg (fun q hq=>hf q (zh _ hq)) (by simpa using h4) h;rw[<-quf (fun i=>some (i*aM e,aM e)) cells p.1 z zr rfl l1 om] at g1
    grind
  ·cases h
def qny(ks:List Nat)(e:Ty):∀(parts:List (Nat×V)) (l:List (den e)),Kr lf (aq o (eG o ks)) e parts l=Kr lf o e parts l:=by
 intro parts
 induction parts with
 |nil=>intro l;rfl
 |cons p r ih=>intro l;simp only[Kr,z01,ih]
def qnz:∀{parts:List (Nat×V)} {p:Nat×V},p∈parts->∀id,id∈fq o p.2->id∈Bw o parts
 |q::r,p,h,id,hi=>by
  rcases zk.1 h with rfl|h
  ·exact List.mem_append_left _ hi
  ·exact List.mem_append_right _ (qnz h id hi)
def qh1:∀{fs:List Field},WI P fs=true->∃places,fs.mapM (fun f=>(P.info? f.type).map fun i=>(f.offset,i.size))=some places/\∀(i:Nat) fd b n,fs[i]?=some fd->yG P fd.type=some (b,n)->places[i]?=some (fd.offset,n)
 |[],_=>⟨[],rfl,fun i fd b n h=>by simp at h⟩
 |f::r,h=>by
  simp only[WI] at h;split at h
  ·rename_i bn hk;obtain⟨b,n⟩:=bn;obtain⟨i,d,g1,g2,_⟩:=KB hk;obtain⟨places,h1,h2⟩:=qh1 h;refine⟨(f.offset,i.size)::places,?_,fun j fd b' n' hj hc=>?_⟩
   ·simp_all
   grind
  ·cases h
def z30(hC:cV C)(hm:MRel C X φ o w){t:TypeId}{parts:List (Nat×V)}{zparts:Array (Nat×Value)}{v:V}{u:List (Nat×Obj)}(hx:FI φ o (aj X φ o w) w parts zparts.toList)(h:(qxf lf C o t parts).aN v u):dY C X φ o w v u (Instr.build t zparts):=by
 unfold qxf at h;split at h
 ·rename_i fs hd;have hu:=ng hd;rw[dX] at h;obtain⟨hk,h⟩:=h;obtain⟨places,hf,hj⟩:=qh1 hk;split at h
  ·rename_i cs hl;split at h
   ·rename_i lW hb;rw[dW] at h;obtain⟨rfl,rfl⟩:=h;obtain⟨i,z,k1,k2,rfl⟩:=qqm hl;obtain⟨dI,g1,g2⟩:=qxu (places:=places.toArray) (by simpa using hj) _ _ _ _ z.cells hx (Sx _) hb;refine dY.aZ hm ⟨rfl,.agg dI,?_,qub hm g2⟩;have g1':Instr.fill (fun x=>places[x]?) z.cells zparts.toList=some dI:=by simpa using g1
    simp[Instr.build,run_underlying hu,FD k1 k2,Array.mapM_eq_mapM_toList,run_places w _ _ hf,g1']
   ·cases h
  ·cases h
 ·rename_i n ei hd;have hu:=ng hd;split at h
  ·rename_i n' e he;rw[dX] at h;obtain⟨hn,h⟩:=h;split at h
   ·rename_i l hg;rw[dW] at h;obtain⟨rfl,rfl⟩:=h;have hT:=hC.eY _ _ he;obtain⟨i,z,k1,_,k2,k3,k4,k5,k6⟩:=hT.info;obtain⟨d,d1,d2,d3⟩:=hT.desc;rw[hd] at d1;injection d1 with d1;subst d1;simp only[pE,ze] at d3;have hE:=hC.eY _ _ (cg d3.2);obtain⟨ii,zz,m1,_,m2,_⟩:=hE.info;have hc:=Sj hm (Bw o parts);obtain⟨ho,hq⟩:=k6 (aj X φ (aq o (eG o (Bw o parts))) w) w;have hs:=zj d3.1;subst hs;rw[<-qny (Bw o parts)] at hg;obtain⟨dI,g1,g2,g3⟩:=qnx hc.mem hE parts zparts.toList _ l z.cells (qnw (fun x z h=>hc.keeps x z h) _ _ hx)
     (fun p hp=>W5 (fun id hi=>qnz hp id hi)) hq hg
    refine⟨.agg dI,w,φ,?_,{hc with val:=?_}⟩
    ·simp[Instr.build,run_underlying hu,FD k1 k4,kl m1,m2,g1]
    ·exact⟨dI,rfl,g3.trans ho,g2⟩
   ·cases h
  ·cases h
 ·cases h
def Comes.fh(hm:MRel C X φ o w){ns:List (Nat×Obj)}(hf:∀p,p∈ns->(∃e,p.2=.vec e 0 false ⟨true,[]⟩)/\o p.1=.none){v:V}{z:Value}(hc:(∀y z,ay φ o (aj X φ o w) w y z->ay φ (aq o ns) (aj X φ (aq o ns) w) w y z)->ay φ (aq o ns) (aj X φ (aq o ns) w) w v z):Comes C X φ φ o ns w w v z:=by
 have hj:∀(ns:List (Nat×Obj)) id,id∈bW ns->∃p,p∈ns/\p.1=id:=by
  intro ns
  induction ns with
  |nil=>intro id h;cases h
  |cons p r ih=>
   intro id h;rcases zk.1 h with h|h
   all_goals grind
 have he:∀id,id∈bW ns->∃e,aq o ns id=.vec e 0 false ⟨true,[]⟩:=fun id h=>qsc ns _ id (fun p hp=>(hf p hp).1) h;have hg:∀id,id∈bW ns->o id=.none:=fun id h=>by grind
 have hx:∀id a,id∈bW ns->aV a (aq o ns id)=true->False:=fun id a hk hx=>by obtain⟨e,h⟩:=he id hk;rw[h] at hx;simp[aV,live] at hx
 refine Comes.make hm (Nat.le_refl _) (fun _ _ _=>rfl) (fun _ _=>rfl) (fun _ _ _=>rfl) (fun id hk=>?_) (fun id hk h=>(hx id _ hk h).elim) (fun i j hi _ h _ _ _=>(hx i _ hi h).elim) (fun _ _ _ id hk=>?_) (fun id hk=>?_) (fun _ _ h=>hc h)
 ·rw[hg id hk];trivial
 ·obtain⟨e,h⟩:=he id hk;rw[h];exact⟨Nat.zero_le _,fun _=>rfl,fun h=>by simp at h⟩
 ·obtain⟨e,h⟩:=he id hk;rw[h];exact fun _ h=>by simp at h
def z6c{fr:Nat}{t:TypeId}{b:Bool}{p:Pk}{s:Sem Value}(hp:∀v u,p.aN v u->dY C X φ o w v u s){v:V}{u:List (Nat×Obj)}(h:(z5p C fr t b p).aN v u)(hf:mU fr o u):dY C X φ o w v u s:=by
 unfold z5p at h;split at h
 ·rename_i cs;cases hb:(b&&WA cs&&Nat.ble (yJ cs) 15) with
  |false=>rw[hb] at h;exact hp v u h
  |true=>
   rw[hb] at h;simp only[cond_true,dW] at h;obtain⟨rfl,rfl⟩:=h;simp only[ze] at hb;have hb:=zD hb.2;obtain⟨val,w',φ',g1,g2⟩:=hp _ _ ((dW (v:=.agg cs) (u:=[])).2 ⟨rfl,rfl⟩);have sp:=fun p hp=>(Xj (φ:=φ) (o:=o) (imm:=aj X φ o w) (w:=w) (φ':=φ) (o':=o) (imm':=aj X φ o w) (w':=w) cs (BZ C 8 t) fr).1 p hp;refine⟨val,w',φ',g1,?_⟩;have g3:=Comes.trans g2 (v':=.agg (pA fr cs (BZ C 8 t)).1) (z':=val) (Comes.fh (ns:=(pA fr cs (BZ C 8 t)).2) g2.mem (fun p hp=>?_) (fun hk=>?_))
   ·exact g3
   ·obtain⟨g3,g4,g5⟩:=sp p hp;exact⟨g3,hf p hp g4 om⟩
   ·obtain⟨c,rfl,h1⟩:=g2.val;exact⟨c,rfl,(Xj cs (BZ C 8 t) fr).2 _ h1 hk fun p hp=>qsc _ _ p.1 (fun q hq=>(sp q hq).1) (Xi hp)⟩
 ·exact hp v u h
def ql5(z:Array Value):∀n,((List.range (n*z.size)).map fun j=>z[j % z.size]!)=(List.replicate n z.toList).flatten
 |0=>by simp
 |n+1=>by
  rw[Nat.succ_mul,Nat.add_comm,List.range_add,zQ,List.replicate_succ,List.flatten_cons,<-ql5 z n,zS];congr 1
  ·apply List.ext_getElem
   ·simp
   ·intro j h1 h2;have hj:j<z.size:=by simpa using h1
    simp[Nat.mod_eq_of_lt hj,hj]
  simp_all
def z6d(z:Array Value)(n:Nat):(madeCells z (n*z.size)).toList=(List.replicate n z.toList).flatten:=by rw[<-ql5];simp[madeCells,Array.toList_range]
def qo0{α:Type}{f:α->List Value->Prop}{x:α}{c:List Value}(h:f x c):∀n,bR f (List.replicate n x) (List.replicate n c).flatten
 |0=>by simp[bR]
 |n+1=>by rw[List.replicate_succ,List.replicate_succ,List.flatten_cons];exact⟨c,_,rfl,h,qo0 h n⟩
def z04{e:Ty}{z:Value}(h3:∀imm w,aE imm w e (zero e) z.cells.toList)(n:Nat):bR (aE imm w e) (List.replicate n (zero e)) (madeCells z.cells (n*aM e)).toList:=by have:=iQ (imm:=imm) (w:=w) _ _ _ (h3 imm w);simp only[Array.length_toList] at this;rw[<-this,z6d];exact qo0 (h3 imm w) n
def qo1(hC:cV C)(hm:MRel C X φ o w){fr n:Nat}{t:TypeId}{parts:List (Nat×V)}{zparts:Array (Nat×Value)}{v:V}{u:List (Nat×Obj)}(hx:FI φ o (aj X φ o w) w parts zparts.toList)(h:(qea lf C o fr t n parts).aN v u)(hf:mU fr o u):dY C X φ o w v u (Instr.buildSlice t n zparts):=by
 unfold qea at h;split at h
 ·rename_i e he;rw[dX,ze] at h;obtain⟨⟨h1,hk⟩,h⟩:=h;have h1:=zD h1;have hk:0<aM e:=zD hk;split at h
  ·rename_i l hg;rw[dW] at h;obtain⟨rfl,rfl⟩:=h;obtain⟨ei,hu,_,he⟩:=qhy he;have hT:=hC.eY _ _ he;obtain⟨i,z,k1,_,k2,k3,k4,k5,k6⟩:=hT.info;have hj:=Sj hm (Bw o parts);have hs:o fr=.none:=hf (fr,.vec e 0 false ⟨false,l⟩) (List.mem_append_right _ (zg ..)) (Nat.le_refl _) (by show fr<fr+16;omega);have hl:aq o (eG o (Bw o parts)) fr=.none:=by
    rcases Kz (o:=o) (Bw o parts) fr with ⟨g1,_⟩|⟨_,_,_,_,g1,_⟩
    all_goals grind
   rw[<-qny (Bw o parts)] at hg;have hc:bR (aE (aj X φ (aq o (eG o (Bw o parts))) w) w e) (List.replicate n (zero e)) ((Array.range (n*aM e)).map ((if n*aM e=0 then #[] else z.cells)[· % (if n*aM e=0 then #[] else z.cells).size]!)).toList:=by
    by_cases hn:n*aM e=0
    ·have:n=0:=by
      rcases Nat.mul_eq_zero.1 hn with h|h
      ·exact h
      ·omega
     subst this;simp[bR]
    ·rw[if_neg hn];exact z04 k6 n
   obtain⟨dI,g1,g2,g3⟩:=qnx hj.mem hT parts zparts.toList _ l _ (qnw (fun x z h=>hj.keeps x z h) _ _ hx)
    (fun p hp=>W5 (fun id hi=>qnz hp id hi)) hc hg
   have l2:=qu g2;have ho:l.length=n:=by rw[g3];simp
   have hq:n<=n*aM e:=Nat.le_mul_of_pos_right n hk;refine⟨.slice (some ⟨w.heap.size,0,none⟩) l.length n,w.alloc (.cells dI ei),_,?_,hj.trans (L2 hj.mem (c:=dI) (el:=ei) (lo:=0) (hi:=0) (cap:=n) (ec:=dI.toList) (rest:=[]) rfl (QV hl) (by simp) g2 ?_ ?_ ?_ (.inl rfl) (Xk hC he)).1⟩
   ·have h5:¬(16777216<n*aM e):=om
    by_cases hn:n*aM e=0
    ·simp only[hn,if_true] at g1;simp[Instr.buildSlice,run_underlying hu,kl k1,k2,hn,ho,newRow] at g1 ⊢;simp[g1]
    ·simp only[if_neg hn] at g1;simp[Instr.buildSlice,run_underlying hu,kl k1,k2,h5,hn,ho,newRow,FD k1 k4] at g1 ⊢;simp[g1]
   ·grind
   ·omega
   ·unfold cv;omega
  ·cases h
 ·cases h
end
section
variable {P:Program} {C:Cx} {X:Nat→Prop} {φ φ':Nat→Addr} {o o':Nat→Obj} {w w':World} {imm imm':Nat→Prop}
def zbl{n m:Int}{k:Nat}(h:BR n m=some k):0<=n/\n<=m/\m<=2147483648/\k=n.toNat:=by
 unfold BR at h
 grind
def qsd{n:Int}{y:Unit}(h:fit n=some y):n<=2147483648:=by
 unfold fit at h
 grind
def qq2(hC:cV C)(hm:MRel C X φ o w){fr:Nat}{t:TypeId}{l c:V}{zl zc:Value}{v:V}{u:List (Nat×Obj)}(hl:ay φ o (aj X φ o w) w l zl)(hc:ay φ o (aj X φ o w) w c zc)(h:(qht lf C fr t l c).aN v u)(hf:mU fr o u):dY C X φ o w v u (Instr.makeSlice t zl zc):=by
 unfold qht at h;split at h
 ·rename_i e k1 n k2 m he hn hj;rw[dX,ou] at h;obtain⟨h1,k,h2,h3⟩:=h;simp only[Prod.mk.injEq] at h3;obtain⟨rfl,rfl⟩:=h3;have hk:o fr=.none:=hf _ (zg ..) (Nat.le_refl _) (by show fr<fr+16;omega);obtain⟨rfl,_⟩:=Ss hn hl;obtain⟨rfl,_⟩:=Ss hj hc;obtain⟨ei,hu,_,he⟩:=qhy he;obtain⟨i,z,g1,_,g2,g3,g4,g5,g6⟩:=(hC.eY _ _ he).info;obtain⟨a1,a2,a3,rfl⟩:=zbl h2;have ho:m.toNat<=2147483648:=om
  have hb:(i.bytes:Int)*m<=281474976710656:=by have h7:(i.bytes:Int)*m<=65536*m:=Int.mul_le_mul_of_nonneg_right om om;omega
  have hg:=run_make (P:=C.P) w t ei i z hu g1 g4 k1 k2 n m a1 a2 hb om;have hr:=yP n.toNat (by simp;omega) (z04 (imm:=aj X φ o w) (w:=w) g6 m.toNat);have e1:(List.replicate m.toNat (zero e)).take n.toNat=List.replicate n.toNat (zero e):=by grind
  rw[e1] at hr;have:=(L2 hm (w':=w.alloc (.cells (madeCells z.cells (m.toNat*i.size)) ei)) (c:=madeCells z.cells (m.toNat*i.size)) (el:=ei) (lo:=0) (hi:=0) (ver:=0) (cap:=m.toNat)
   (l:=List.replicate n.toNat (zero e)) (rest:=(madeCells z.cells (m.toNat*aM e)).toList.drop (n.toNat*aM e)) rfl (QV hk) (by rw[g2,List.take_append_drop]) hr.1 (by rw[g2,size_madeCells]) (by simp;omega) (by simp;unfold cv;omega) (.inl rfl) (Xk hC he)).1
  rw[List.length_replicate] at this;exact⟨_,_,_,hg,this⟩
 ·cases h
def qo2{e:TypeId}(h:BY C e=true):C.P.underlying e=some (.int .u8):=by
 unfold BY at h;split at h
 ·rename_i hd;exact ng hd
 ·cases h
def Xm:∀{l:List (den (.int .u8))} {ec:List Value},bR (aE imm w (.int .u8)) l ec->ec=List.map (Value.int .u8) l/\∀(n:Int),n∈(l:List Int)->0<=n/\n<=255
 |[],ec,h=>by have h:ec=[]:=h;exact⟨by rw[h];rfl,(fun n hn=>by cases hn)⟩
 |x::l,ec,⟨c,d,e,h1,h2⟩=>by
  obtain⟨h1,h3⟩:=h1;obtain⟨h4,h5⟩:=Xm h2;refine⟨by rw[e,h1,h4];rfl,fun n hn=>?_⟩;rcases zk.1 hn with rfl|hn
  ·unfold gE IntKind.min IntKind.max at h3;simp[IntKind.signed,IntKind.bits] at h3;exact h3
  ·exact h5 n hn
def z05(s:List UInt8):bR (aE imm w (.int .u8)) (s.map fun b=>(b.toNat:Int)) (s.map fun b=>Value.int .u8 (b.toNat:Int)):=by
 induction s with
 |nil=>rfl
 |cons b s ih=>refine⟨[_],_,rfl,⟨rfl,?_⟩,ih⟩;have:=b.toNat_lt;unfold gE IntKind.min IntKind.max;simp[IntKind.signed,IntKind.bits];omega
def quk(hC:cV C)(hm:MRel C X φ o w){fr:Nat}{s t:TypeId}{x:V}{z:Value}{v:V}{u:List (Nat×Obj)}(hx:ay φ o (aj X φ o w) w x z)(h:(qnf lf C o fr s t x).aN v u)(hf:mU fr o u):dY C X φ o w v u (convert s t z):=by
 have _:=hC;unfold qnf at h;split at h
 ·cases h
 ·rename_i ds hI;have hs:=ng hI;split at h
  ·rename_i k hq;have ht:=ng hq;split at h
   ·rw[dW] at h;obtain⟨rfl,rfl⟩:=h;obtain⟨rfl,_⟩:=oH hx;refine dY.aZ hm ⟨rfl,_,?_,nf (QP _ _)⟩;simp[convert,run_underlying hs,run_underlying ht,Conv.intToInt];rfl
   ·cases h
  ·rename_i hq;have ht:=ng hq;split at h
   ·rw[dW] at h;obtain⟨rfl,rfl⟩:=h;obtain⟨rfl,_⟩:=oH hx;refine dY.aZ hm ⟨rfl,_,?_,W3⟩;simp[convert,run_underlying hs,run_underlying ht,Conv.intToFloat];rfl
   ·cases h
  ·rename_i hq;have ht:=ng hq;split at h
   ·rw[dW] at h;obtain⟨rfl,rfl⟩:=h;refine dY.aZ hm ⟨rfl,z,?_,hx⟩;obtain⟨s',rfl,_,_⟩:=rZ hx;simp[convert,run_underlying hs,run_underlying ht]
   ·split at h
    ·rename_i e;rw[dX,ze] at h;obtain⟨⟨h1,_⟩,h⟩:=h;have he:=qo2 h1;split at h
     ·rename_i sl hJ;rw[dW] at h;obtain⟨rfl,rfl⟩:=h;obtain⟨g1,g2⟩:=qu9 hm.aw hx hJ;rcases g2 with ⟨_,g3,rfl⟩|⟨_,a,cap,ec,rfl,g4,g5,g6,g7⟩
      ·refine dY.aZ hm ⟨rfl,.string .empty,?_,LR (by rw[g3];rfl) (by unfold cv;simp)⟩;rw[run_convert_bytes_string _ _ _ _ _ _ _ hs he ht];simp[Conv.bytesToString]
      ·obtain⟨e1,e2⟩:=Xm g5;have hl:(List.map (fun n:Int=>UInt8.ofNat n.toNat) sl.l).length=List.length sl.l:=by simp
       have back:∀n:Int,0<=n->n<=255->(((UInt8.ofNat n.toNat).toNat:Nat):Int)=n:=by intro n h0 h1;rw[UInt8.toNat_ofNat',Nat.mod_eq_of_lt om];omega
       have hr:=run_convert_bytes_back (P:=C.P) w s t e a cap (List.map (fun n:Int=>UInt8.ofNat n.toNat) sl.l) hs he ht (fun j hj=>by
        have hK:j<ec.length:=by rw[e1];simpa using hj
        have hc:=g6 j hK;rw[vu (g4 (by rw[hl] at hj;omega)),hc];simp only[e1,List.getElem_map,zB,Value.int.injEq,true_and];have hL:j<(sl.l:List Int).length:=by simpa using hj
        obtain⟨b1,b2⟩:=e2 (sl.l:List Int)[j] (List.getElem_mem hL);exact(back _ b1 b2).symm)
       rw[hl] at hr;refine dY.aZ hm ⟨rfl,_,hr,LR ?_ ?_⟩
       ·simp only[zS]
        conv=>rhs;rw[<-List.map_id (l:=(sl.l:List Int))]
        apply ja
        grind
       ·simpa[ByteArray.size] using g1
     ·cases h
    ·cases h
  ·rename_i e hq;have ht:=ng hq;split at h
   ·rename_i l;split at h
    case h_2=>cases h
    rw[dX,ou] at h;obtain⟨h1,y,h2,h3⟩:=h;simp only[Prod.mk.injEq] at h3;obtain⟨rfl,rfl⟩:=h3;have he:=qo2 h1;obtain⟨b,rfl,rfl,hb⟩:=rZ hx;have hM:o fr=.none:=hf _ (zg ..) (Nat.le_refl _) (by show fr<fr+16;omega);have hN:=qsd h2;have hu:=run_bytes_of_string (P:=C.P) w s t e b hs ht he;have hB:b.size<=grownCap w b.size 0 e:=by exact Nat.le_add_right _ _
    have e1:(b.data.toList.map fun c=>(c.toNat:Int)).length=b.size:=by simp
    have:=(L2 hm (w':=w.drew.alloc (.cells (bytesRow b (grownCap w b.size 0 e)) e ((bytesRow b (grownCap w b.size 0 e)).size,(bytesRow b (grownCap w b.size 0 e)).size+1)))
     (l:=b.data.toList.map fun c=>(c.toNat:Int)) (e:=.int .u8) (ver:=0) (cap:=grownCap w b.size 0 e) (ec:=b.data.toList.map fun c=>Value.int .u8 (c.toNat:Int)) (rest:=List.replicate (grownCap w b.size 0 e-b.size) (.int .u8 0))
     rfl (QV hM) (by simp[bytesRow]) (z05 _) (by simp[bytesRow,aM];omega) (by rw[e1];exact hB) (by rw[e1];exact hb) (.inr (Nat.le_refl _)) (fun _=>he)).1
    rw[e1] at this;exact⟨_,_,_,hu,this⟩
   ·rename_i id ver;split at h
    ·rename_i e';split at h
     ·rename_i aC b ho;rw[dX,ou,ze,ze] at h;obtain⟨⟨⟨h1,hD⟩,hE⟩,y,h2,h3⟩:=h;simp only[Prod.mk.injEq] at h3;obtain⟨rfl,rfl⟩:=h3;have he:=qo2 h1;have hD:=zj hD;have hE:=zj hE;subst hD hE;have hO:e'=e:=by grind
      subst hO;have hn:b.nil=false:=by
       have h2:aP b.nil none (some ())=some y:=h2;cases hb:b.nil with
       |false=>rfl
       |true=>rw[hb] at h2;cases h2
      have hw:=hm.aw id;have hy:=hm.rK id;unfold ay at hx;rw[ho] at hx hw hy;obtain⟨b1,b2,b3⟩:=hw;obtain⟨b4,ec,b5,b6,b7,b8,_⟩:=(b3 hn).resolve_right fun g=>g.2.2 rfl;obtain⟨c,el,fz,r1,hP,hT⟩:=hy rfl hn;rcases hx.2 rfl with ⟨hU,_⟩|⟨_,cap,rfl,k1,k2,k3⟩
      ·grind
      ·obtain⟨lo,hi⟩:=fz;have hG:aV (φ id) (o id)=true:=by rw[ho];exact rX hn b4
       generalize hz:w.freeze ⟨(φ id).block,c.size,none⟩ 1=w2;have hk:∃hA,w2.heap[(φ id).block]?=some (.cells c el (c.size,hA)):=by
        rw[<-hz];simp only[World.freeze,Nat.one_ne_zero,if_false,Array.getElem?_modify,if_true,r1,Option.map_some];by_cases hV:lo=hi
        all_goals simp_all
       obtain⟨hA,hk⟩:=hk;have hF:∀b',b'≠(φ id).block->w2.heap[b']?=w.heap[b']?:=fun b' hH=>by
        rw[<-hz];simp only[World.freeze,Nat.one_ne_zero,if_false,Array.getElem?_modify]
        grind
       have hQ:w2.heap.size=w.heap.size:=by rw[<-hz];simp[World.freeze]
       have hg:∀n,room w (φ id) n->room w2 (φ id) n:=fun n ⟨c',L3,Fw,hW,q1,q2,q3⟩=>by rw[r1] at q1;injection q1 with q1;injection q1 with q4 q5 q6;subst q4 q5;exact⟨c,el,c.size,hA,hk,q2,.inr (.inr q2)⟩
       have hv:lV w2 (φ id) ec:=fun j hj=>by
        have:=b6 j hj;unfold World.cell? at this ⊢
        grind
       have hR:w.shape? (bare (φ id)).block=some (el,c.size):=by have:w.heap[(bare (φ id)).block]?=some (.cells c el (lo,hi)):=r1;rw[World.shape?,this]
       have hu:(convert s s (.slice (some (bare (φ id))) b.l.length cap)).run C.P w=.ok (.slice (some (bare (φ id))) b.l.length cap) w2:=by rw[<-hz];simp[convert,run_underlying hs,run_underlying he,markStringish,hR,freeze];rfl
       refine⟨_,w2,φ,hu,Comes.write hm _ (fun _=>hG) hQ (fun b' hH=>hF b' fun e=>hH ⟨hG,e.symm⟩) ?_ (fun a1 a2 a3=>?_) (fun _ _=>⟨c,el,(c.size,hA),hk,hP,.inr (Nat.le_refl _)⟩) (fun hS=>?_) (by rw[<-hz];exact⟨rfl,rfl⟩)⟩
       ·rw[ho];exact .inr ⟨rfl,rfl,rfl,rfl,rfl,fun _=>⟨rfl,fun _ _ n hr=>hg n hr⟩⟩
       ·exact⟨b1,b2,fun _=>.inl ⟨b4,ec,rJ (jH a1 a2 _) b5,hv,hg _ b7,fun _=>hg _ (b8 rfl),by simp⟩⟩
       ·unfold ay;rw[hS];exact⟨Nat.le_refl _,fun _=>.inr ⟨hn,cap,rfl,k1,k2,fun h1 h2=>hg _ (k3 h1 h2)⟩⟩
     ·cases h
    ·cases h
   ·cases h
  ·cases h
def zfy{e:Ty}{l:List Int}{m:List (den e)}(h:iN (.arr 0 e) (.arr 0 (.int .u8)) l=some m):∃h:Ty.int .u8=e,m=h▸l:=by
 obtain⟨h1,h2⟩:=B5 h
 grind
def qul(hm:MRel C X φ o w){e:Ty}{y:V}{zy:Value}{m:List (den e)}(hy:ay φ o (aj X φ o w) w y zy)(h:WD lf o e y=some m):∃news,bR (aE (aj X φ o w) w e) m news/\m.length<=cv/\(∀w':World,(Builtin.lenOf zy).run P w'=.ok m.length w')/\(∀(w':World) k,w'.heap=w.heap->k<=m.length->(Builtin.firstCells (aM e) k zy).run P w'=.ok (news.take (k*aM e)).toArray w'):=by
 have cell:∀(w':World) (a:Addr),w'.heap=w.heap->w'.cell? a=w.cell? a:=fun w' a h=>by unfold World.cell?;rw[h]
 by_cases hs:∃l,y=.d .str l
 ·obtain⟨l,rfl⟩:=hs;obtain⟨h1,h2⟩:=zfy h;subst h1 h2;obtain⟨b,rfl,rfl,hb⟩:=rZ hy;refine⟨_,z05 _,by simpa using hb,fun w'=>by simp[Builtin.lenOf],fun w' k _ hk=>?_⟩;have hk:k<=b.size:=by simpa using hk
  simp only[Builtin.firstCells,aM,Nat.mul_one,Sem.run_pure];congr 1;apply Array.toList_inj.1;simp
 ·have h:∃s,py lf o (.sl e) y=some s/\m=s.l:=by
   have:WD lf o e y=(match py lf o (.sl e) y with|some s=>some s.l|none=>none):=by
    cases y<;>try rfl
    rename_i t d;cases t<;>first|rfl|exact absurd ⟨_,rfl⟩ hs
   rw[this] at h;split at h
   ·rename_i s e1;injection h with h;exact⟨s,e1,h.symm⟩
   ·cases h
  obtain⟨s,h1,rfl⟩:=h;obtain⟨g1,g2⟩:=qu9 hm.aw hy h1;rcases g2 with ⟨_,g3,rfl⟩|⟨_,a,cap,ec,rfl,g4,g5,g6,g7⟩
  ·refine⟨[],by rw[g3];rfl,g1,fun w'=>by simp[Builtin.lenOf,g3],fun w' k _ hk=>by simp[Builtin.firstCells]⟩
  ·refine⟨ec,g5,g1,fun w'=>by simp[Builtin.lenOf],fun w' k hw hk=>?_⟩;have hl:=qu g5;have hg:k*aM e<=ec.length:=by rw[hl];exact Nat.mul_le_mul_right _ hk
   refine run_firstCells_some w' _ _ _ _ _ _ (by simp;omega) (fun j v hj=>?_);obtain⟨hc,he⟩:=zE.1 hj;have hf:j<ec.length:=by simp at hc;omega
   rw[cell _ _ hw,vu (g4 fun h0=>by
    have h4:s.l.length=0:=om
    rw[h4,Nat.zero_mul] at hl;omega)]
   have:=g6 j hf;rw[this,<-he];simp
end
def Sy(l ds:List Value)(k j:Nat)(hk:k<=l.length):(ov l k ds)[j]?=if j<k then l[j]? else if j<k+ds.length then ds[j-k]? else l[j]?:=by
 unfold ov
 grind
section
variable {P:Program} {C:Cx} {X:Nat→Prop} {φ φ':Nat→Addr} {o o':Nat→Obj} {w w':World} {imm imm':Nat→Prop}
def iV{a:Addr}{cs:List Value}:lV w a cs↔∀j v,cs[j]?=some v->w.cell? ⟨a.block,a.off+j,none⟩=some v:=by
 constructor
 ·intro h j v hj;obtain⟨h1,h2⟩:=zE.1 hj;rw[h j h1,h2]
 ·intro h j hj
  grind
def Xn{a:Addr}{ec ds:List Value}{k:Nat}{c:Array Value}{el:TypeId}{fz:Nat×Nat}(hh:w.heap[a.block]?=some (.cells c el fz))(h:lV w a ec)(hk:k<=ec.length)(hb:a.off+k+ds.length<=c.size):lV (w.setRow a.block (ov c.toList (a.off+k) ds).toArray) a (ov ec k ds):=by
 rw[iV] at h ⊢;intro j v hj;simp only[World.cell?,Xf hh,Option.isSome_none,Bool.false_eq_true,if_false,List.getElem?_toArray];rw[Sy _ _ _ _ hk] at hj;rw[Sy _ _ _ _ (by simp;omega)];by_cases h1:j<k
 ·rw[if_pos h1] at hj;rw[if_pos om];have:=h j v hj;simpa[World.cell?,hh] using this
 ·rw[if_neg h1] at hj;rw[if_neg om];by_cases h2:j<k+ds.length
  ·grind
  ·rw[if_neg h2] at hj;rw[if_neg om];have:=h j v hj;simpa[World.cell?,hh] using this
def L4(P:Program)(u:TypeId):Prop:=(∃e,P.underlying u=some (.slice e))\/P.underlying u=some .string
def qse{t u ty ei:TypeId}{ts:List TypeId}{i:TypeInfo}(ht:P.underlying t=some (.slice ei))(hu:L4 P u)(hi:P.info? ei=some i){b off n cap m lo he:Nat}{zy:Value}{news:List Value}{cur:Array Value}{el:TypeId}(hn:(Builtin.lenOf zy).run P w=.ok m w)(hf:(Builtin.firstCells i.size m zy).run P w=.ok news.toArray w)(hg:w.heap[b]?=some (.cells cur el (lo,he)))(hc:n+m<=cap)(hj:off+n*i.size+news.length<=cur.size)(hm:he<=lo\/he<=off+n*i.size\/off+n*i.size+news.length<=lo)(h1:∀v∈news,v.oneCell'=true):(Builtin.append_ (t::u::ts).toArray ty #[.slice (some ⟨b,off,none⟩) n cap,zy]).run P w=.ok (.slice (some ⟨b,off,none⟩) (n+m) cap) (w.setRow b (ov cur.toList (off+n*i.size) news).toArray):=by
 have hl:=Sw (P:=P) (b:=b) (off:=off+n*i.size) news 0 cur w hg hj hm h1;simp only[Nat.add_zero] at hl;have hk:(⟨b,off,none⟩:Addr).add (n*i.size)=⟨b,off+n*i.size,none⟩:=vu rfl _;rcases hu with ⟨e,hu⟩|hu<;>
 simp[Builtin.append_,run_underlying ht,run_underlying hu,kl hi,hn,hc,hf,hk,hl]
def qo3{t u ty ei:TypeId}{ts:List TypeId}{i:TypeInfo}(ht:P.underlying t=some (.slice ei))(hu:L4 P u)(hi:P.info? ei=some i){zy:Value}{cs:Array Value}(hn:(Builtin.lenOf zy).run P w=.ok 0 w)(hf:(Builtin.firstCells i.size 0 zy).run P w=.ok cs w):(Builtin.append_ (t::u::ts).toArray ty #[.slice none 0 0,zy]).run P w=.ok (.slice none 0 0) w:=by
 rcases hu with ⟨e,hu⟩|hu<;>
 simp[Builtin.append_,run_underlying ht,run_underlying hu,kl hi,hn,hf]
def qo4{t u ty ei:TypeId}{ts:List TypeId}{i:TypeInfo}(ht:P.underlying t=some (.slice ei))(hu:L4 P u)(hi:P.info? ei=some i){base:Addr}{n cap:Nat}{zy:Value}(hn:(Builtin.lenOf zy).run P w=.ok 0 w)(hf:(Builtin.firstCells i.size 0 zy).run P w=.ok ([]:List Value).toArray w)(hc:n<=cap):(Builtin.append_ (t::u::ts).toArray ty #[.slice (some base) n cap,zy]).run P w=.ok (.slice (some base) n cap) w:=by
 rcases hu with ⟨e,hu⟩|hu<;>
 simp[Builtin.append_,run_underlying ht,run_underlying hu,kl hi,hn,hf,hc,storeCells]
def qh2{t u ty ei:TypeId}{ts:List TypeId}{i:TypeInfo}{z:Value}(ht:P.underlying t=some (.slice ei))(hu:L4 P u)(hi:P.info? ei=some i)(hz:i.zero=some z){base:Option Addr}{n cap m:Nat}{zy:Value}{olds news:List Value}(hn:(Builtin.lenOf zy).run P w=.ok m w)(hf:(Builtin.firstCells i.size m zy).run P w.drew=.ok news.toArray w.drew)(hj:(Builtin.firstCells i.size n (.slice base n cap)).run P w.drew=.ok olds.toArray w.drew)(hg:cap<n+m)(hl:n+m<=2147483648)(hm:i.bytes<=65536):(Builtin.append_ (t::u::ts).toArray ty #[.slice base n cap,zy]).run P w=.ok (.slice (some ⟨w.heap.size,0,none⟩) (n+m) (grownCap w (n+m) cap ei)) (w.drew.alloc (.cells (olds.toArray++news.toArray++Builtin.zeroCells z.cells (grownCap w (n+m) cap ei-(n+m))) ei)):=by
 have hk:¬(n+m<=cap):=om
 have hc:¬(9223372036854775807<((n:Int)+(m:Int))):=om
 have ho:(n+m)*i.bytes<=140737488355328:=Nat.le_trans (Nat.mul_le_mul hl hm) om;have he:¬(281474976710656<Builtin.nextslicecap (n+m) cap*i.bytes):=by have:=growslice_fits hg ho;omega
 rcases hu with ⟨e,hu⟩|hu
 ·simp[Builtin.append_,run_underlying ht,run_underlying hu,kl hi,FD hi hz,typeInfo,hi,hn,hk,hc,he,Question.forced,hf,hj,newRow,grownCap]
  grind
 ·simp[Builtin.append_,run_underlying ht,run_underlying hu,kl hi,FD hi hz,typeInfo,hi,hn,hk,hc,he,Question.forced,hf,hj,newRow,grownCap]
  grind
end
section
variable {P:Program} {C:Cx} {X:Nat→Prop} {φ φ':Nat→Addr} {o o':Nat→Obj} {w w':World} {imm imm':Nat→Prop}
def FJ{a:Addr}{n off:Nat}{c:Array Value}{el:TypeId}{fz:Nat×Nat}{ds:List Value}(hh:w.heap[a.block]?=some (.cells c el fz))(hb:off+ds.length<=c.size)(h:room w a n):room (w.setRow a.block (ov c.toList off ds).toArray) a n:=by obtain⟨c',L3,lo,hi,h1,h2,h3⟩:=h;rw[hh] at h1;injection h1 with h1;injection h1 with h1 h4 h5;subst h1 h4 h5;refine⟨_,_,lo,hi,Xf hh _,?_,h3⟩;have:=qnv c.toList off ds (by simpa using hb);simp at this ⊢;omega
def qxv{u:TypeId}(h:z5n C u=true):L4 C.P u:=by
 unfold z5n at h;split at h
 ·rename_i e hd;exact .inl ⟨e,ng hd⟩
 ·rename_i hd;exact .inr (ng hd)
 ·cases h
def qi1(hC:cV C)(hm:MRel C X φ o w){t u ty ei:TypeId}{ts:List TypeId}{e:Ty}(he:C.ty ei=some e)(ht:C.P.underlying t=some (.slice ei))(hu:L4 C.P u){tid v':Nat}{l m:List (den e)}{zx zy:Value}(ho:∀w' a' s,Up w w' (φ tid) a' (o tid) (.vec e v' false s)){news:List Value}(hr:bR (aE (aj X φ o w) w e) m news)(hf:∀w':World,(Builtin.lenOf zy).run C.P w'=.ok m.length w')(hx:∀(w':World) k,w'.heap=w.heap->k<=m.length->(Builtin.firstCells (aM e) k zy).run C.P w'=.ok (news.take (k*aM e)).toArray w')(hq:l.length+m.length<=2147483648){base:Option Addr}{n cap:Nat}{olds:List Value}(hn:n=l.length)(hg:cap<n+m.length)(hs:zx=.slice base n cap)(hk:bR (aE (aj X φ o w) w e) l olds)(hl:(Builtin.firstCells (aM e) n zx).run C.P w.drew=.ok olds.toArray w.drew):dY C X φ o w (.aY tid v') [(tid,.vec e v' false ⟨false,l++m⟩)] (Builtin.append_ (t::u::ts).toArray ty #[zx,zy]):=by
 obtain⟨i,z,k1,_,k2,k3,k4,k5,k6⟩:=(hC.eY _ _ he).info;have hv:z.cells.size=aM e:=by have:=iQ (imm:=aj X φ o w) (w:=w) _ _ _ (k6 _ w);simpa using this
 have Gs:=qu hr;have hy:(news.take (m.length*aM e))=news:=by rw[<-Gs,List.take_length]
 have hc:∀w':World,w'.heap=w.heap->(Builtin.firstCells i.size m.length zy).run C.P w'=.ok news.toArray w':=fun w' h=>by grind
 subst hs;rw[<-k2] at hl;have hj:=qh2 (ts:=ts) (ty:=ty) (w:=w) ht hu k1 k4 (hf w) (hc w.drew rfl) hl hg om k3;have hw:n+m.length<=grownCap w (n+m.length) cap ei:=Nat.le_add_right _ _;have Fw:=qu hk;have:=(L2 hm (fr:=tid) (ver:=v') (w':=w.drew.alloc (.cells (olds.toArray++news.toArray++Builtin.zeroCells z.cells (grownCap w (n+m.length) cap ei-(n+m.length))) ei)) (lo:=0) (hi:=0) (e:=e) (l:=l++m)
  (cap:=grownCap w (n+m.length) cap ei) (ec:=olds++news) (rest:=(Builtin.zeroCells z.cells (grownCap w (n+m.length) cap ei-(n+m.length))).toList)
  (c:=olds.toArray++news.toArray++Builtin.zeroCells z.cells (grownCap w (n+m.length) cap ei-(n+m.length))) rfl (fun w'=>ho w' _ _) (by simp) (QL hk hr)
  (by
   simp only[Array.size_append,List.size_toArray,size_zeroCells,hv,Fw,Gs,<-hn];rw[<-Nat.add_mul,<-Nat.add_mul];congr 1;omega)
  (by rw[zd,<-hn];exact hw) (by rw[zd];unfold cv;omega) (.inl rfl) (Xk hC he)).1
 rw[zd,<-hn] at this;exact⟨_,_,_,hj,this⟩
def qi2(hC:cV C)(hm:MRel C X φ o w){t u ty ei:TypeId}{ts:List TypeId}{e:Ty}(he:C.ty ei=some e)(ht:C.P.underlying t=some (.slice ei))(hu:L4 C.P u){tid v':Nat}{nl:Bool}{l m:List (den e)}{zx zy:Value}(hF:∀w' a' s,Up w w' (φ tid) a' (o tid) (.vec e v' false s))(hx:(nl=true/\l=[]/\zx=.slice none 0 0)\/(nl=false/\∃n cap ver s,o tid=.vec e ver false s/\s.nil=false/\n=l.length/\n<=s.l.length/\l=s.l.take n/\zx=.slice (some (bare (φ tid))) n cap/\n<=cap/\((φ tid).spot.isSome=true->cap=0)/\((φ tid).spot=none->room w (φ tid) (cap*aM e)))){news:List Value}(hr:bR (aE (aj X φ o w) w e) m news)(hv:∀w':World,(Builtin.lenOf zy).run C.P w'=.ok m.length w')(h0:∀(w':World) k,w'.heap=w.heap->k<=m.length->(Builtin.firstCells (aM e) k zy).run C.P w'=.ok (news.take (k*aM e)).toArray w')(hO:l.length+m.length<=2147483648):dY C X φ o w (.aY tid v') [(tid,.vec e v' false ⟨bP nl (eX m),l++m⟩)] (Builtin.append_ (t::u::ts).toArray ty #[zx,zy]):=by
 obtain⟨i,z,k1,_,k2,k3,k4,k5,k6⟩:=(hC.eY _ _ he).info;have hP:z.cells.size=aM e:=by have:=iQ (imm:=aj X φ o w) (w:=w) _ _ _ (k6 _ w);simpa using this
 have Gs:=qu hr;have h5:(news.take (m.length*aM e))=news:=by rw[<-Gs,List.take_length]
 have hq:∀w':World,w'.heap=w.heap->(Builtin.firstCells i.size m.length zy).run C.P w'=.ok news.toArray w':=fun w' h=>by grind
 have grow:∀(base:Option Addr) (n cap:Nat) (olds:List Value),n=l.length->cap<n+m.length->zx=.slice base n cap->bR (aE (aj X φ o w) w e) l olds->
   (Builtin.firstCells i.size n zx).run C.P w.drew=.ok olds.toArray w.drew->bP nl (eX m)=false->
   dY C X φ o w (.aY tid v') [(tid,.vec e v' false ⟨bP nl (eX m),l++m⟩)] (Builtin.append_ (t::u::ts).toArray ty #[zx,zy]):=by
  intro base n cap olds hn hg hQ hz hI hR;subst hQ;have hf:=qh2 (ts:=ts) (ty:=ty) (w:=w) ht hu k1 k4 (hv w) (hq w.drew rfl) hI hg om k3;have hS:n+m.length<=grownCap w (n+m.length) cap ei:=Nat.le_add_right _ _;have Fw:=qu hz;have:=(L2 hm (fr:=tid) (ver:=v') (w':=w.drew.alloc (.cells (olds.toArray++news.toArray++Builtin.zeroCells z.cells (grownCap w (n+m.length) cap ei-(n+m.length))) ei)) (lo:=0) (hi:=0) (e:=e) (l:=l++m)
   (cap:=grownCap w (n+m.length) cap ei) (ec:=olds++news) (rest:=(Builtin.zeroCells z.cells (grownCap w (n+m.length) cap ei-(n+m.length))).toList)
   (c:=olds.toArray++news.toArray++Builtin.zeroCells z.cells (grownCap w (n+m.length) cap ei-(n+m.length))) rfl (fun w'=>hF w' _ _) (by simp) (QL hz hr)
   (by
    simp only[Array.size_append,List.size_toArray,size_zeroCells,hP,Fw,Gs,<-hn];rw[<-Nat.add_mul,<-Nat.add_mul];congr 1;omega)
   (by rw[zd,<-hn];exact hS) (by rw[zd];unfold cv;omega) (.inl rfl) (Xk hC he)).1
  rw[zd,<-hn] at this;rw[hR];exact⟨_,_,_,hf,this⟩
 rcases hx with ⟨rfl,rfl,rfl⟩|⟨rfl,n,cap,ver,s,ho,hJ,hn,hM,hl,rfl,hK,hT,hA⟩
 ·cases hw:m with
  |nil=>subst hw;have hf:=qo3 (ts:=ts) (ty:=ty) (w:=w) ht hu k1 (hv w) (hq w rfl);refine⟨_,w,φ,hf,?_⟩;refine Comes.write hm _ (by simp[aV,live,bP,eX]) rfl (fun _ _=>rfl) (hF w (φ tid) _) (fun _ _ _=>⟨by simp,fun _=>rfl,fun h=>by simp[bP,eX] at h⟩) (fun _ h=>by simp[bP,eX] at h) (fun hB=>?_);unfold ay;rw[hB];exact⟨Nat.le_refl _,fun _=>.inl ⟨rfl,rfl⟩⟩
  |cons y r=>rw[<-hw];exact grow none 0 0 [] rfl (by rw[hw];simp) rfl rfl (run_firstCells_none (P:=C.P) w.drew i.size 0 0 0) (by rw[hw];rfl)
 ·have hD:=hm.aw tid;rw[ho] at hD;obtain⟨g1,g2,g3⟩:=hD;rcases g3 hJ with ⟨g4,ec,g5,g6,g7,g8,_⟩|⟨g4,c1,c3⟩
  ·have hN:aV (φ tid) (o tid)=true:=by rw[ho];exact rX hJ g4
   have hU:=yP n hM g5;have hV:=qu g5;have hW:n*aM e<=ec.length:=by rw[hV];exact Nat.mul_le_mul_right _ hM
   have hz:bR (aE (aj X φ o w) w e) l (ec.take (n*aM e)):=by rw[hl];exact hU.1
   by_cases hc:n+m.length<=cap
   ·rw[R5 g4];obtain⟨c,el,lo,hi,r1,r2,r3⟩:=hA g4;have hX:n*aM e+m.length*aM e<=cap*aM e:=by rw[<-Nat.add_mul];exact Nat.mul_le_mul_right _ hc
    have hf:=qse (ts:=ts) (ty:=ty) (w:=w) (b:=(φ tid).block) (off:=(φ tid).off) (n:=n) (cap:=cap) (m:=m.length) ht hu k1 (hv w) (hq w rfl) r1 hc (by rw[k2,Gs];omega) (by rw[k2,Gs];omega) (Xh hr);rw[k2] at hf;have hY:bP false (eX m)=false:=rfl;rw[hY];have hG:(l++m).length=n+m.length:=by rw[zd,<-hn]
    have hs:(φ tid).off+n*aM e+news.length<=c.size:=by rw[Gs];omega
    refine⟨_,_,φ,hf,?_⟩;have hL:∀k,k<=cap*aM e->room (w.setRow (φ tid).block (ov c.toList ((φ tid).off+n*aM e) news).toArray) (φ tid) k:=fun k hk=>FJ r1 hs ⟨c,el,lo,hi,r1,by omega,by omega⟩;refine Comes.write hm _ (fun _=>hN) (by simp) (fun b hb=>setRow_other w _ b _ (fun e=>hb ⟨hN,e.symm⟩)) (hF _ _ _) (fun h1 h2 h3=>?_) (Xl hm ho hJ (.ov r1 hs)) (fun hB=>?_)
    ·refine⟨by rw[hG];unfold cv;omega,by simp,fun _=>.inl ⟨g4,ec.take (n*aM e)++news,rJ (jH h1 h2 e) (QL hz hr),?_,hL 0 (Nat.zero_le _),fun _=>hL _ ?_,by simp⟩⟩
     ·have:=Xn (k:=n*aM e) (ds:=news) r1 (Sk (n*aM e) g6) (by simp[hW]) hs;have e1:ov (ec.take (n*aM e)) (n*aM e) news=ec.take (n*aM e)++news:=by unfold ov;rw[List.take_take,Nat.min_self,zw (by simp;omega),zn]
      rw[e1] at this;exact this
     ·rw[hG];exact Nat.mul_le_mul_right _ hc
    ·unfold ay;rw[hB];refine⟨Nat.le_refl _,fun _=>.inr ⟨rfl,cap,(by rw[hG,R5 g4]),(by rw[hG];exact hc),(fun h=>by rw[g4] at h;cases h),fun _ _=>hL _ (Nat.le_refl _)⟩⟩
   ·have hI:(Builtin.firstCells i.size n (.slice (some (bare (φ tid))) n cap)).run C.P w.drew=.ok (ec.take (n*aM e)).toArray w.drew:=by refine run_firstCells_some w.drew i.size n (bare (φ tid)) n cap _ (by rw[k2];simp;omega) (fun j v hj=>?_);rw[vu (a:=bare (φ tid)) (qnk g4)];exact iV.1 (Sk _ g6) j v hj
    exact grow (some (bare (φ tid))) n cap _ hn om rfl hz hI rfl
  ·have hy:cap=0:=hT (by cases h:(φ tid).spot with
    |none=>exact absurd h g4
    |some _=>rfl)
   have hH:n=0:=om
   have hZ:l=[]:=zK om;subst hZ;cases hw:m with
   |nil=>
    subst hw;have hE:news=[]:=zK (by rw[Gs];simp);subst hE;have hf:=qo4 (ts:=ts) (ty:=ty) (w:=w) (base:=bare (φ tid)) (n:=n) (cap:=cap) ht hu k1 (hv w) (hq w rfl) hK;refine⟨_,w,φ,hf,?_⟩;refine Comes.write hm _ (fun h=>absurd (Gm h).2.2 g4) rfl (fun _ _=>rfl) (hF w (φ tid) _) (fun _ _ _=>⟨by simp,by simp,fun _=>.inr ⟨g4,rfl,c3⟩⟩) (fun h=>absurd h c3) (fun hB=>?_);unfold ay;rw[hB];refine⟨Nat.le_refl _,fun _=>.inr ⟨rfl,cap,?_,?_,fun _=>hy,fun _ h=>absurd h g4⟩⟩
    ·rw[hH];rfl
    ·simp
   |cons y r=>rw[<-hw];refine grow (some (bare (φ tid))) n cap [] (by simpa using hH) (by rw[hw,hH,hy];simp) rfl rfl ?_ rfl;refine run_firstCells_some w.drew i.size n (bare (φ tid)) n cap _ (by rw[hH];simp) (fun j v hj=>by simp at hj)
def qi3{id ver:Nat}{e:Ty}{nil:Bool}{l m:List (den e)}{v:V}{u:List (Nat×Obj)}(h:(RV lf id ver e nil l m).aN v u):l.length+m.length<=2147483648/\v=.aY id ver/\u=[(id,.vec e ver false ⟨bP nil (eX m),l++m⟩)]:=by unfold RV at h;rw[ou] at h;obtain⟨y,h1,h2⟩:=h;simp only[Prod.mk.injEq] at h2;obtain⟨rfl,rfl⟩:=h2;have:=qsd h1;have h3:(l.length:Int)+(m.length:Int)<=2147483648:=this;exact⟨by omega,rfl,rfl⟩
def qxw(hC:cV C)(hm:MRel C X φ o w){fr:Nat}{t u ty:TypeId}{ts:List TypeId}{x y:V}{zx zy:Value}{v:V}{u':List (Nat×Obj)}(hx:ay φ o (aj X φ o w) w x zx)(hy:ay φ o (aj X φ o w) w y zy)(h:(qs0 lf C o fr t u x y).aN v u')(hf:mU fr o u'):dY C X φ o w v u' (Builtin.append_ (t::u::ts).toArray ty #[zx,zy]):=by
 unfold qs0 at h;split at h
 ·cases h
 ·rename_i e he;obtain⟨ei,ht,_,he⟩:=qhy he;split at h
  ·cases h
  ·rename_i m hA;rw[dX,ze] at h;obtain⟨⟨h1,_⟩,h⟩:=h;have hu:=qxv h1;obtain⟨news,n1,n2,n3,n4⟩:=qul hm hy hA;cases x<;>try exact False.elim h
   ·rename_i id ver;simp only at h;split at h
    ·rename_i e' aC s ho;split at h
     ·rename_i s' hs;rw[dX] at h;obtain⟨hv,h⟩:=h;obtain⟨h3,h4⟩:=B5 hs;injection h3 with h3;subst h3 h4;obtain⟨g1,rfl,rfl⟩:=qi3 h;have hc:=hm.aw id;unfold ay at hx;rw[ho] at hx hc;have hv:=zj hv;have hx:=hx.2 hv;refine qi2 hC hm he ht hu (fun _ _ _=>by rw[ho];exact .inl om) ?_ n1 n3 n4 g1;rcases hx with ⟨k1,rfl⟩|⟨k1,cap,rfl,k2,k4,k3⟩
      ·exact .inl ⟨k1,hc.2.1 k1,rfl⟩
      ·exact .inr ⟨k1,s'.l.length,cap,_,s',ho,k1,rfl,Nat.le_refl _,(List.take_length).symm,rfl,k2,k4,k3 rfl⟩
     ·cases h
    ·cases h
   ·rename_i id ver n cp;simp only at h;split at h
    ·rename_i e' aC Kv s ho;split at h
     ·rename_i s' hs;rw[dX] at h;obtain⟨hv,h⟩:=h;obtain⟨h3,h4⟩:=B5 hs;injection h3 with h3;subst h3 h4;split at h
      ·obtain⟨g1,rfl,rfl⟩:=qi3 h;have hc:=hm.aw id;unfold ay at hx;rw[ho] at hx hc;have hv:=zj hv;obtain⟨hn,hx,_⟩:=hx.2 hv;refine qi2 hC hm he ht hu (fun _ _ _=>by rw[ho];exact .inl om) ?_ n1 n3 n4 g1;rcases hx with ⟨k1,rfl⟩|⟨k1,cap,rfl,k2,k3⟩
       ·exact .inl ⟨k1,by simp[lf,aH,hc.2.1 k1],rfl⟩
       ·exact .inr ⟨k1,n,cap,_,s',ho,k1,by simp[lf,aH,Nat.min_eq_left hn],hn,rfl,rfl,k2,k3.1,k3.2 rfl⟩
      ·rw[ou] at h;obtain⟨y,h2,h3⟩:=h;simp only[Prod.mk.injEq] at h3;obtain⟨rfl,rfl⟩:=h3;obtain⟨_,hg,hl⟩:=FG h2;have hg:=qsd hg;have hl:aP (eX m) none (some ())=some y:=hl;have hB:m≠[]:=fun h=>by rw[h] at hl;cases hl
       have hF:=List.length_pos_iff.2 hB;have hk:o fr=.none:=hf _ (zg ..) (Nat.le_refl _) (by show fr<fr+16;omega);have hc:=hm.aw id;unfold ay at hx;rw[ho] at hx hc;have hv:=zj hv;obtain⟨hn,hx,hq⟩:=hx.2 hv;have hq:=hq rfl;have e2:(lf.aH s'.l n).length=n:=by simp[lf,aH,Nat.min_eq_left hn]
       have hg:((lf.aH s'.l n).length:Int)+(m.length:Int)<=2147483648:=hg;rcases hx with ⟨k1,rfl⟩|⟨k1,cap,rfl,k2,k4,k3⟩
       ·have hD:=hc.2.1 k1;have hw:n=0:=by rw[hD] at hn;simpa using hn
        subst hw;have hz:lf.aH s'.l 0=[]:=by simp[lf,aH]
        exact qi1 hC hm he ht hu (fun _ _ _=>by rw[hk];trivial) n1 n3 n4 (l:=lf.aH s'.l 0) om (base:=none) (n:=0) (cap:=0) (olds:=[]) e2.symm om rfl (by rw[hz];rfl) (run_firstCells_none (P:=C.P) w.drew _ 0 0 0)
       ·have hE:cap=n:=hq _ _ _ rfl;subst hE;rcases hc.2.2 k1 with ⟨g4,ec,g5,g6,_⟩|⟨_,g5,_⟩
        ·refine qi1 hC hm he ht hu (fun _ _ _=>by rw[hk];trivial) n1 n3 n4 (l:=lf.aH s'.l cap) om (base:=some (bare (φ id))) (n:=cap) (cap:=cap) (olds:=ec.take (cap*aM e')) e2.symm om rfl (yP cap hn g5).1 ?_;have hG:=qu g5;have hH:=Nat.mul_le_mul_right (aM e') hn;refine run_firstCells_some w.drew (aM e') cap (bare (φ id)) cap cap _ (by simp;omega) (fun j v hj=>?_);rw[vu (a:=bare (φ id)) (qnk g4)];exact iV.1 (Sk _ g6) j v hj
        ·have hw:cap=0:=by rw[g5] at hn;simpa using hn
         have hz:lf.aH s'.l cap=[]:=by rw[g5];simp[lf,aH]
         refine qi1 hC hm he ht hu (fun _ _ _=>by rw[hk];trivial) n1 n3 n4 (l:=lf.aH s'.l cap) om (base:=some (bare (φ id))) (n:=cap) (cap:=cap) (olds:=[]) e2.symm om rfl (by rw[hz];rfl) ?_;exact run_firstCells_some w.drew (aM e') cap (bare (φ id)) cap cap _ (by rw[hw];simp) (fun j v hj=>by simp at hj)
      ·cases h
     ·cases h
    ·cases h
   ·obtain⟨g1,rfl,rfl⟩:=qi3 h;have hk:o fr=.none:=hf _ (zg ..) (Nat.le_refl _) (by show fr<fr+16;omega);exact qi2 hC hm he ht hu (fun _ _ _=>by rw[hk];trivial) (.inl ⟨rfl,rfl,hx⟩) n1 n3 n4 g1
end
def zim(l ds:List Value)(b k n:Nat)(hk:k+ds.length<=n)(hn:b+n<=l.length):ov l b (ov ((l.drop b).take n) k ds)=ov l (b+k) ds:=by
 have hl:((l.drop b).take n).length=n:=by simp;omega
 apply List.ext_getElem?;intro j;rw[Sy l (ov ((l.drop b).take n) k ds) b j om,qnv _ _ _ om,hl,Sy l ds (b+k) j om];by_cases h1:j<b
 ·grind
 ·rw[if_neg h1];by_cases h2:j<b+n
  ·rw[if_pos h2,Sy ((l.drop b).take n) ds k (j-b) om]
   grind
  grind
def z6e(l ds:List Value)(h:l.length=ds.length):ov l 0 ds=ds:=by
 unfold ov
 grind
section
variable {P:Program} {C:Cx} {X:Nat→Prop} {φ φ':Nat→Addr} {o o':Nat→Obj} {w w':World} {imm imm':Nat→Prop}
def L5(C:Cx)(X:Nat->Prop)(φ:Nat->Addr)(o:Nat->Obj)(w:World)(v:V)(u:List (Nat×Obj))(s:Sem Unit):Prop:=∃w' φ',s.run C.P w=.ok () w'/\Comes C X φ φ' o u w w' v undef
def z6f:∀(p:Ty) (f:Nat) (x:den p) (g:(t:Ty)->den t->Option (den t)) {y:den p} {u:Ty},fV p f x g=some y->qo p f=some u->∃(a b:den u),g u a=some b/\∀cs ds (imm:Nat->Prop) (w:World),aE imm w p x cs->(aE imm w u a ((cs.drop (fW p f)).take (aM u))->aE imm w u b ds)->fW p f+aM u<=cs.length/\aE imm w u a ((cs.drop (fW p f)).take (aM u))/\aE imm w p y (ov cs (fW p f) ds):=by
 have base:∀(t:Ty) (x y:den t) (g:(t:Ty)->den t->Option (den t)),g t x=some y->
   ∃(a b:den t),g t a=some b/\∀cs ds (imm:Nat->Prop) (w:World),aE imm w t x cs->(aE imm w t a ((cs.drop 0).take (aM t))->aE imm w t b ds)->0+aM t<=cs.length/\aE imm w t a ((cs.drop 0).take (aM t))/\aE imm w t y (ov cs 0 ds):=by
  intro t x y g h;refine⟨x,y,h,fun cs ds imm w hc hd=>?_⟩;have hl:=iQ _ _ _ hc;have e:(cs.drop 0).take (aM t)=cs:=by rw[List.drop_zero,<-hl,List.take_length]
  rw[e] at hd ⊢;have hd:=hd hc;have he:=iQ _ _ _ hd;exact⟨by omega,hc,by rw[z6e _ _ om];exact hd⟩
 intro p
 induction p with
 |pair a b _ lA=>
  intro f x g y u h ht;cases f with
  |zero=>
   simp only[fV] at h;split at h
   ·rename_i y1 h1;injection h with h;subst h;have:=zF ht;subst this;refine⟨x.1,y1,h1,fun cs ds imm w ⟨c,d,e,h2,h3⟩ hd=>?_⟩;have hl:=iQ _ _ _ h2;subst e;have e1:((c++d).drop 0).take (aM a)=c:=by rw[List.drop_zero,<-hl,List.take_left'];rfl
    simp only[fW] at hd ⊢;rw[e1] at hd ⊢;have hd:=hd h2;have he:=iQ _ _ _ hd;refine⟨by simp;omega,h2,ds,d,?_,hd,h3⟩;unfold ov
    grind
   ·cases h
  |succ n=>
   simp only[fV] at h;split at h
   ·rename_i y1 h1;injection h with h;subst h;obtain⟨a',b',g1,g2⟩:=lA n x.2 g h1 ht;refine⟨a',b',g1,fun cs ds imm w ⟨c,d,e,h2,h3⟩ hd=>?_⟩;have hl:=iQ _ _ _ h2;subst e;simp only[fW] at hd ⊢;rw[<-hl,List.drop_length_add_append] at hd ⊢;obtain⟨k1,k2,k3⟩:=g2 d ds imm w h3 hd;refine⟨by simp;omega,k2,c,ov d (fW b n) ds,?_,h2,k3⟩;unfold ov;rw[List.take_length_add_append,Nat.add_assoc,List.drop_length_add_append];simp
   ·cases h
 |unit=>intro f x g y u h ht;cases f<;>cases ht
 |int k=>intro f x g y u h ht;cases f with|zero=>have:=zF ht;subst this;exact base _ _ _ _ h|succ n=>cases ht
 |bool=>intro f x g y u h ht;cases f with|zero=>have:=zF ht;subst this;exact base _ _ _ _ h|succ n=>cases ht
 |fG=>intro f x g y u h ht;cases f with|zero=>have:=zF ht;subst this;exact base _ _ _ _ h|succ n=>cases ht
 |dG=>intro f x g y u h ht;cases f with|zero=>have:=zF ht;subst this;exact base _ _ _ _ h|succ n=>cases ht
 |str=>intro f x g y u h ht;cases f with|zero=>have:=zF ht;subst this;exact base _ _ _ _ h|succ n=>cases ht
 |sl e=>intro f x g y u h ht;cases f with|zero=>have:=zF ht;subst this;exact base _ _ _ _ h|succ n=>cases ht
 |st q=>intro f x g y u h ht;cases f with|zero=>have:=zF ht;subst this;exact base _ _ _ _ h|succ n=>cases ht
 |arr m e=>intro f x g y u h ht;cases f with|zero=>have:=zF ht;subst this;exact base _ _ _ _ h|succ n=>cases ht
def qun:∀(path:List Nat) (t:Ty) (x:den t) (g:(t:Ty)->den t->Option (den t)) {y:den t} {u:Ty},Lz path t x g=some y->Ft path t=some u->∃(a b:den u),g u a=some b/\∀cs ds (imm:Nat->Prop) (w:World),aE imm w t x cs->aE imm w u b ds->j9 path t+aM u<=cs.length/\aE imm w t y (ov cs (j9 path t) ds)
 |[],t,x,g,y,u,h,ht=>by have:=zF ht;subst this;refine⟨x,y,h,fun cs ds imm w hc hd=>?_⟩;have hl:=iQ _ _ _ hc;have he:=iQ _ _ _ hd;exact⟨by simp[j9];omega,by rw[show j9 [] t=0 from rfl,z6e _ _ om];exact hd⟩
 |f::r,t,x,g,y,u,h,ht=>by
  cases t<;>simp only[Ft] at ht<;>try (cases ht;done)
  rename_i p;split at ht
  ·rename_i u1 h1;obtain⟨a,b,g1,g2⟩:=z6f p f x _ h h1;obtain⟨a',b',g3,g4⟩:=qun r u1 a g g1 ht;refine⟨a',b',g3,fun cs ds imm w hc hd=>?_⟩;have hl:aE imm w u1 a ((cs.drop (fW p f)).take (aM u1))->j9 r u1+aM u<=aM u1/\aE imm w u1 b (ov ((cs.drop (fW p f)).take (aM u1)) (j9 r u1) ds):=fun ha=>by grind
   obtain⟨k1,k2,k3⟩:=g2 cs (ov ((cs.drop (fW p f)).take (aM u1)) (j9 r u1) ds) imm w hc (fun ha=>(hl ha).2);obtain⟨k4,_⟩:=hl k2;have hf:=iQ _ _ _ hd;rw[zim _ _ _ _ _ om k1] at k3;simp only[j9,z66 h1];exact⟨by omega,k3⟩
  ·cases ht
def ql6{id:Nat}:∀{l:List Nat},Fu id l=true->id∉l
 |[],_=>by simp
 |b::r,h=>by
  simp only[Fu] at h;cases hb:Nat.beq b id with
  |true=>rw[hb] at h;cases h
  |false=>
   rw[hb] at h;have:=ql6 h;intro hm
   simp_all
def qm4{t:TypeId}{i:TypeInfo}(hi:P.info? t=some i){a:Addr}(hs:a.spot=none){z:Value}(hz:z.cells.size=i.size){c:Array Value}{el:TypeId}{lo hc:Nat}(hh:w.heap[a.block]?=some (.cells c el (lo,hc)))(hb:a.off+z.cells.size<=c.size)(hf:hc<=lo\/hc<=a.off\/a.off+z.cells.size<=lo)(h1:∀v∈z.cells.toList,v.oneCell'=true):(Instr.storeAt t (.pointer (some a)) z).run P w=.ok () (w.setRow a.block (ov c.toList a.off z.cells.toList).toArray):=by
 have he:=Sw (P:=P) (b:=a.block) (off:=a.off) z.cells.toList 0 c w hh (by simpa using hb) (by simpa using hf) h1;simp only[Nat.add_zero] at he;have ha:a=⟨a.block,a.off,none⟩:=by rw[<-hs]
 rw[<-ha] at he;simp[Instr.storeAt,Instr.sureAddr,storeVar,kl hi,hz,he]
def z31(hC:cV C)(hm:MRel C X φ o w){t:TypeId}{x y:V}{zx zy:Value}{v:V}{u:List (Nat×Obj)}(hx:ay φ o (aj X φ o w) w x zx)(hy:ay φ o (aj X φ o w) w y zy)(h:(qxb lf C o t x y).aN v u):L5 C X φ o w v u (Instr.storeAt t zx zy):=by
 unfold qxb at h;split at h
 ·rename_i id off;split at h
  ·rename_i cs ho;split at h
   ·rename_i vs hB;split at h
    ·rename_i b n hk;rw[dX,dW,ze,ze] at h;obtain⟨⟨⟨h1,h2⟩,hv⟩,rfl,rfl⟩:=h;have hv:qn vs=false:=by simpa using hv
     have h1:=zj h1;have h2:=zD h2;obtain⟨i,d,g1,g2,g3,g4⟩:=KB hk;obtain⟨k1,k2⟩:=qhz hy hB;have hc:=hm.aw id;unfold ay at hx;rw[ho] at hx hc;simp only at hx;subst hx;obtain⟨h0,c,el,lo,hi,r1,r2,r3⟩:=hc;have l1:=KC k1;have l2:=KC r3;simp only[Array.length_toList] at l1 l2;have hq:aV (φ id) (o id)=true:=by rw[ho];rfl
     have hj:=qm4 (P:=C.P) (w:=w) g1 (a:=⟨(φ id).block,(φ id).off+off,none⟩) rfl (z:=zy) om r1 (by simp only;omega) (.inl r2) k2;refine⟨_,φ,hj,?_⟩;refine Comes.write hm _ (fun _=>hq) (by simp) (fun b hb=>setRow_other w _ b _ (fun e=>hb ⟨hq,e.symm⟩)) (by rw[ho];exact rfl) (fun a1 a2 a3=>?_) (zfx hm ho (fun h=>qxt h hv) (.ov r1 (by simp only[Array.length_toList];omega))) (fun _=>rfl);refine⟨h0,_,el,lo,hi,Xf r1 _,r2,?_⟩;have:=LU a3 _ _ (quj off r3 k1);simpa[h0] using this
    ·cases h
   ·cases h
  ·cases h
 ·rename_i id ver i path;split at h
  ·rename_i e aC s ho;split at h
   ·rename_i t' ht;rw[dX,ou,ze,ze] at h;obtain⟨⟨⟨h1,h2⟩,h3⟩,y',h4,h5⟩:=h;simp only[Prod.mk.injEq] at h5;obtain⟨rfl,rfl⟩:=h5;obtain⟨x0,h6,h7⟩:=FG h4;have h6:s.l[i]?=some x0:=h6;obtain⟨a,b,g1,g2⟩:=qun path e x0 _ h7 ht;have hf:=Sj hm (fq o y);have hD:id∉fq o y:=ql6 h3;have hs:aq o (eG o (fq o y)) id=.vec e aC false s:=by
     rcases Kz (o:=o) (fq o y) id with ⟨k1,_⟩|⟨t1,v1,f1,s1,k1,k2⟩
     ·rw[k1,ho]
     ·have:id∈bW (eG o (fq o y)):=by
       by_cases hk:id∈bW (eG o (fq o y))
       ·exact hk
       ·rw[iU hk,ho] at k2;cases k2
      exfalso;have key:∀ks:List Nat,id∈bW (eG o ks)->id∈ks:=by
       intro ks
       induction ks with
       |nil=>intro h;cases h
       |cons q r ih=>
        intro h;simp only[eG] at h;split at h
        ·rcases zk.1 h with h|h
         all_goals grind
        grind
      exact hD (key _ this)
    have hE:=hf.keeps _ _ hy;have hw:=hf.keeps _ _ hx;have hF:yR (aq o (eG o (fq o y))) y:=W5 (fun _ h=>h);rw[<-z01 (fq o y)] at g1;have hd:=z02 hf.mem hE hF g1;have hT:=hC.eY _ _ (cg h2);have hz:=qqk hT hd;obtain⟨ii,zz,m1,_,m2,_⟩:=hT.info;have hc:=hf.mem.aw id;unfold ay at hw;rw[hs] at hw hc;obtain⟨hi,rfl⟩:=hw.2 (zj h1);obtain⟨b1,b2,b3⟩:=hc;have hn:s.nil=false:=by
     cases hn:s.nil with
     |false=>rfl
     |true=>rw[b2 hn] at hi;simp at hi
    obtain⟨b4,ec,b5,b6,b7,b8,_⟩:=(b3 hn).resolve_right fun g=>by rw[g.2.1] at hi;simp at hi
    have hq:aV (φ id) (aq o (eG o (fq o y)) id)=true:=by rw[hs];exact rX hn b4
    obtain⟨hu,hG⟩:=zE.1 h6;have hl:=R4 b5 i hu;rw[hG] at hl;have hH:=qu b5;have hI:(i+1)*aM e<=s.l.length*aM e:=Nat.mul_le_mul_right _ hu;rw[Nat.succ_mul] at hI;have he:=iQ _ _ _ hl;obtain⟨p1,p2⟩:=g2 _ zy.cells.toList _ w hl hz;rw[he] at p1;have hJ:=iQ _ _ _ hz;simp only[Array.length_toList] at hJ;obtain⟨c,el,lo,hK,r1,r2,r3⟩:=b8 rfl;have hj:=qm4 (P:=C.P) (w:=w) m1 (a:=⟨(φ id).block,(φ id).off+i*aM e+j9 path e,none⟩) rfl (z:=zy) om r1 (by simp only;omega) (by simp only;omega) (L1 _ _ _ hz);refine⟨_,φ,hj,hf.trans ?_⟩;have hg:(φ id).off+(i*aM e+j9 path e)+zy.cells.toList.length<=c.size:=by simp;omega
    refine Comes.write hf.mem _ (fun _=>hq) (by simp) (fun b hb=>setRow_other w _ b _ (fun e=>hb ⟨hq,e.symm⟩)) ?_ (fun a1 a2 a3=>?_) (Xl hf.mem hs hn (.ov r1 (by simp only[Array.length_toList];omega))) (fun _=>rfl)
    ·rw[hs];refine .inr ⟨rfl,rfl,rfl,by simp[lf,jY],rfl,fun _=>⟨rfl,fun _ _ n hr=>?_⟩⟩;have:=FJ (off:=(φ id).off+(i*aM e+j9 path e)) (ds:=zy.cells.toList) r1 hg hr
     grind
    ·have hA:bR (aE (aj X φ (aq o (eG o (fq o y))) w) w e) (s.l.set i y') (ov ec (i*aM e+j9 path e) zy.cells.toList):=by have:=Xg (i:=i) (m:=[y']) (by show i+1<=s.l.length;exact hu) b5 ⟨_,[],(zn _).symm,p2,rfl⟩;rw[zim _ _ _ _ _ (by simp;omega) om] at this;rw[List.set_eq_take_append_cons_drop,if_pos hu];simpa using this
     refine⟨by simpa[lf,jY] using b1,fun h=>(by rw[hn] at h;cases h),fun _=>.inl ⟨b4,_,rJ (jH a1 a2 e) hA,?_,?_,fun _=>?_,by simp⟩⟩
     ·have:=Xn (k:=i*aM e+j9 path e) (ds:=zy.cells.toList) r1 b6 om hg
      grind
     ·have:=FJ (off:=(φ id).off+(i*aM e+j9 path e)) (ds:=zy.cells.toList) r1 hg b7
      grind
     ·have:=FJ (off:=(φ id).off+(i*aM e+j9 path e)) (ds:=zy.cells.toList) r1 hg (b8 rfl);simpa[Nat.add_assoc,lf,jY] using this
   ·cases h
  ·cases h
 ·cases h
end
section
variable {P:Program} {C:Cx} {X:Nat→Prop} {φ φ':Nat→Addr} {o o':Nat→Obj} {w w':World} {imm imm':Nat→Prop}
def z6g(hC:cV C)(hm:MRel C X φ o w){t ty:TypeId}{ts:List TypeId}{x y:V}{zx zy:Value}{v:V}{u:List (Nat×Obj)}(hx:ay φ o (aj X φ o w) w x zx)(hy:ay φ o (aj X φ o w) w y zy)(h:(z5q lf C o t x y).aN v u):dY C X φ o w v u (Builtin.copy_ (t::ts).toArray ty #[zx,zy]):=by
 unfold z5q at h;split at h
 ·rename_i id ver;split at h
  ·rename_i e aC s ho;split at h
   ·rename_i m hF;rw[dX,dW,ze] at h;obtain⟨⟨h1,h2⟩,rfl,rfl⟩:=h;have h1:=zj h1;subst h1;obtain⟨ei,ht,_,he⟩:=FE h2;obtain⟨i,z,k1,_,k2,k3,k4,k5,k6⟩:=(hC.eY _ _ he).info;obtain⟨news,n1,n2,n3,n4⟩:=qul (P:=C.P) hm hy hF;have hl:=hm.aw id;unfold ay at hx;rw[ho] at hx hl;obtain⟨b1,b2,b3⟩:=hl;have hj:gE .i64 (lf.kC (lf.n s.l) (lf.n m)):=by simp only[lf,kC,ae];unfold cv at b1 n2;unfold gE IntKind.min IntKind.max;simp[IntKind.signed,IntKind.bits];split<;>omega
    have hk:(lf.kC (lf.n s.l) (lf.n m))=((Nat.min m.length s.l.length:Nat):Int):=by
     simp only[lf,kC,ae]
     grind
    have hc:(rS s.l m).length=s.l.length:=by unfold rS;simp;omega
    rcases hx.2 rfl with ⟨hn,rfl⟩|⟨hn,cap,rfl,c1,c4,c2⟩
    ·have hs:=b2 hn;have hq:=n4 w 0 rfl (Nat.zero_le _);rw[<-k2] at hq;have hf:(Builtin.copy_ (t::ts).toArray ty #[.slice none 0 0,zy]).run C.P w=.ok (goInt 0) w:=by simp[Builtin.copy_,run_underlying ht,n3 w,kl k1,hq]
     refine⟨_,w,φ,hf,Comes.write hm _ (by simp[aV,live,hn]) rfl (fun _ _=>rfl) (by rw[ho];exact .inr ⟨rfl,rfl,rfl,hc.symm,rfl,fun _=>⟨rfl,fun _ _ _ h=>h⟩⟩) (fun _ _ _=>⟨?_,fun _=>?_,fun h=>(by rw[hn] at h;cases h)⟩) (fun _ h=>(by have h:s.nil=false:=h;rw[hn] at h;cases h)) (fun _=>?_)⟩
     ·show(rS s.l m).length<=cv;omega
     ·exact zK (by show(rS s.l m).length=0;rw[hc,hs];rfl)
     ·rw[hk] at hj ⊢;rw[hs] at hj ⊢;have e0:((Nat.min m.length ([]:List (den e)).length:Nat):Int)=0:=by simp
      rw[e0] at hj ⊢;exact nf hj
    ·rcases b3 hn with ⟨b4,ec,b5,b6,b7,b8,_⟩|⟨b4,d1,d3⟩
     ·have hB:aV (φ id) (o id)=true:=by rw[ho];exact rX hn b4
      obtain⟨c,el,lo,hi,r1,r2,r3⟩:=b8 rfl;have hu:Nat.min m.length s.l.length<=m.length:=Nat.min_le_left _ _;have hG:Nat.min m.length s.l.length<=s.l.length:=Nat.min_le_right _ _;have hH:=Nat.mul_le_mul_right (aM e) hG;have hD:=n4 w (Nat.min m.length s.l.length) rfl hu;rw[<-k2] at hD;have hK:=qu n1;have hI:=Nat.mul_le_mul_right (aM e) hu;have hv:(news.take (Nat.min m.length s.l.length*i.size)).length=Nat.min m.length s.l.length*aM e:=by rw[k2];simp only[zP];omega
      have hw:=(yP (Nat.min m.length s.l.length) hu n1).1;rw[<-k2] at hw;have hz:=Sw (P:=C.P) (b:=(φ id).block) (off:=(φ id).off) (news.take (Nat.min m.length s.l.length*i.size)) 0 c w r1 (by rw[hv];omega) (by rw[hv];omega) (Xh hw);simp only[Nat.add_zero] at hz;have dZ:(⟨(φ id).block,(φ id).off,none⟩:Addr)=bare (φ id):=(R5 b4).symm;rw[dZ] at hz;have hf:(Builtin.copy_ (t::ts).toArray ty #[.slice (some (bare (φ id))) s.l.length cap,zy]).run C.P w=.ok (goInt ((Nat.min m.length s.l.length:Nat):Int)) (w.setRow (φ id).block (ov c.toList (φ id).off (news.take (Nat.min m.length s.l.length*i.size))).toArray):=by simp[Builtin.copy_,run_underlying ht,n3 w,kl k1,hD,hz]
      have hg:(φ id).off+(news.take (Nat.min m.length s.l.length*i.size)).length<=c.size:=by rw[hv];omega
      have hA:rS s.l m=s.l.take 0++m.take (Nat.min m.length s.l.length)++s.l.drop (0+(m.take (Nat.min m.length s.l.length)).length):=by
       unfold rS;rw[List.take_zero,List.nil_append,zC,zP,Nat.min_eq_left hu];by_cases hL:m.length<=s.l.length
       ·grind
       ·have:Nat.min m.length s.l.length=s.l.length:=Nat.min_eq_right om
        simp_all
      have hE:=Xg (i:=0) (m:=m.take (Nat.min m.length s.l.length)) (by simp only[zC,zP];omega) b5 hw;rw[<-hA,Nat.zero_mul] at hE;refine⟨_,_,φ,hf,Comes.write hm _ (fun _=>hB) (by simp) (fun b hb=>setRow_other w _ b _ (fun e=>hb ⟨hB,e.symm⟩)) ?_ (fun a1 a2 a3=>⟨?_,fun h=>(by rw[hn] at h;cases h),fun _=>.inl ⟨b4,_,rJ (jH a1 a2 e) hE,?_,?_,fun _=>?_,by simp⟩⟩) (Xl hm ho hn (.ov r1 hg)) (fun _=>?_)⟩
      ·rw[ho];exact .inr ⟨rfl,rfl,rfl,hc.symm,rfl,fun _=>⟨rfl,fun _ _ n hr=>FJ r1 hg hr⟩⟩
      ·show(rS s.l m).length<=cv;omega
      ·have:=Xn (k:=0) (ds:=news.take (Nat.min m.length s.l.length*i.size)) r1 b6 (Nat.zero_le _) (by simpa using hg);simpa using this
      ·exact FJ r1 hg b7
      ·show room _ _ ((rS s.l m).length*aM e);rw[hc];exact FJ r1 hg (b8 rfl)
      ·rw[hk] at hj ⊢;exact nf hj
     ·have hJ:Nat.min m.length s.l.length=0:=by rw[d1];exact Nat.min_zero _
      have hq:=n4 w 0 rfl (Nat.zero_le _);rw[<-k2] at hq;have hs:rS s.l m=[]:=zK (by rw[hc,d1];rfl);have hf:(Builtin.copy_ (t::ts).toArray ty #[.slice (some (bare (φ id))) s.l.length cap,zy]).run C.P w=.ok (goInt 0) w:=by rw[d1];simp[Builtin.copy_,run_underlying ht,n3 w,kl k1,hq,storeCells]
      refine⟨_,w,φ,hf,Comes.write hm _ (fun h=>absurd (Gm h).2.2 b4) rfl (fun _ _=>rfl) (by rw[ho];exact .inr ⟨rfl,rfl,rfl,hc.symm,rfl,fun _=>⟨rfl,fun _ _ _ h=>h⟩⟩) (fun _ _ _=>⟨?_,fun h=>(by rw[hn] at h;cases h),fun _=>.inr ⟨b4,hs,d3⟩⟩) (fun h=>absurd h d3) (fun _=>?_)⟩
      ·show(rS s.l m).length<=cv;omega
      ·rw[hk,hJ] at hj ⊢;exact nf hj
   ·cases h
  ·cases h
 ·cases h
def z6h{P:Program}{t ei:TypeId}{ts:List TypeId}{ty:TypeId}{i:TypeInfo}{z:Value}(ht:P.underlying t=some (.slice ei))(hi:P.info? ei=some i)(hz:i.zero=some z){a:Addr}{n cap:Nat}{w w':World}(hn:n≠0)(hc:(storeCells a (Builtin.zeroCells z.cells n).toList 0).run P w=.ok () w'):(Builtin.clear_ (t::ts).toArray ty #[.slice (some a) n cap]).run P w=.ok (.tuple #[]) w':=by
 have h0:∀m,n=m+1->(Builtin.clear_ (t::ts).toArray ty #[.slice (some a) n cap]).run P w=.ok (.tuple #[]) w':=by rintro m rfl;simp[Builtin.clear_,run_underlying ht,FD hi hz,hc]
 exact h0 (n-1) om
def qh3{P:Program}{t ei:TypeId}{ts:List TypeId}{ty:TypeId}(ht:P.underlying t=some (.slice ei)){a:Option Addr}{cap:Nat}{w:World}:(Builtin.clear_ (t::ts).toArray ty #[.slice a 0 cap]).run P w=.ok (.tuple #[]) w:=by cases a<;>simp[Builtin.clear_,run_underlying ht]
def z6i{e:Ty}{imm:Nat->Prop}{w:World}{z:Value}(hz:aE imm w e (zero e) z.cells.toList)(n:Nat):bR (aE imm w e) (List.replicate n (zero e)) (Builtin.zeroCells z.cells n).toList:=by
 have h:(Builtin.zeroCells z.cells n).toList=(List.replicate n z.cells.toList).flatten:=by rw[<-ql5];simp[Builtin.zeroCells]
 rw[h];exact qo0 hz n
def z32(hC:cV C)(hm:MRel C X φ o w){t ty:TypeId}{ts:List TypeId}{x:V}{zx:Value}{v:V}{u:List (Nat×Obj)}(hx:ay φ o (aj X φ o w) w x zx)(h:(qxh lf C o t x).aN v u):dY C X φ o w v u (Builtin.clear_ (t::ts).toArray ty #[zx]):=by
 unfold qxh at h;split at h
 ·rename_i id ver lo;split at h
  ·rename_i e aC s ho;rw[dX,dW,ze] at h;obtain⟨⟨h1,h2⟩,rfl,rfl⟩:=h;have h1:=zj h1;subst h1;obtain⟨ei,ht,_,he⟩:=FE h2;obtain⟨i,z,k1,_,k2,k3,k4,k5,k6⟩:=(hC.eY _ _ he).info;have hl:=hm.aw id;unfold ay at hx;rw[ho] at hx hl;obtain⟨b1,b2,b3⟩:=hl;obtain⟨k,rfl,hk,hx⟩:=hx.2 rfl;have e1:lf.fF s.l (k:Int) (zero e)=s.l.take k++List.replicate (s.l.length-k) (zero e):=by simp[lf,fF]
   have hg:(lf.fF s.l (k:Int) (zero e)).length=s.l.length:=by rw[e1];simp;omega
   have same:s.l.length-k=0->lf.fF s.l (k:Int) (zero e)=s.l:=fun h=>by grind
   have nothing:s.l.length-k=0->(Builtin.clear_ (t::ts).toArray ty #[zx]).run C.P w=.ok (.tuple #[]) w->dY C X φ o w (.mc []) [(id,.vec e ver false ⟨s.nil,lf.fF s.l (k:Int) (zero e)⟩)] (Builtin.clear_ (t::ts).toArray ty #[zx]):=by
    intro h0 hj;rw[same h0];refine⟨_,w,φ,hj,Comes.write hm _ (fun h=>by rw[ho];exact h) rfl (fun _ _=>rfl) (by rw[ho];exact .inr ⟨rfl,rfl,rfl,rfl,rfl,fun _=>⟨rfl,fun _ _ _ h=>h⟩⟩) (fun a1 a2 a3=>?_) ?_ (fun _=>⟨#[],rfl,rfl⟩)⟩
    ·exact LV a1 a2 a3 rfl (fun _=>rfl) (show rY φ o (aj X φ o w) w id (.vec e ver false s) from⟨b1,b2,b3⟩)
    ·have:=hm.rK id;rw[ho] at this;exact this
   rcases hx with ⟨hn,rfl⟩|⟨hn,cap,rfl,hc⟩
   ·exact nothing (by rw[b2 hn];simp) (qh3 ht)
   ·by_cases h0:s.l.length-k=0
    ·rw[h0];rw[h0] at nothing;exact nothing rfl (qh3 ht)
    ·have hy:cap≠0:=om
     rw[if_neg hy];rcases b3 hn with ⟨b4,ec,b5,b6,b7,b8,_⟩|⟨_,b5,_⟩
     ·have hu:aV (φ id) (o id)=true:=by rw[ho];exact rX hn b4
      obtain⟨c,el,Fw,hi,r1,r2,r3⟩:=b8 rfl;have hs:=z6i (k6 (aj X φ o w) w) (s.l.length-k);have hq:=qu hs;rw[List.length_replicate] at hq;have hA:=qu b5;have hz:k*aM e+(s.l.length-k)*aM e=s.l.length*aM e:=by rw[<-Nat.add_mul];congr 1;omega
      have hv:=Sw (P:=C.P) (b:=(φ id).block) (off:=(φ id).off+k*aM e) (Builtin.zeroCells z.cells (s.l.length-k)).toList 0 c w r1 (by rw[hq];omega) (by rw[hq];omega) (Xh hs);simp only[Nat.add_zero] at hv;have hj:=z6h (ts:=ts) (ty:=ty) (cap:=cap) ht k1 k4 h0 hv;have hf:(φ id).off+k*aM e+(Builtin.zeroCells z.cells (s.l.length-k)).toList.length<=c.size:=by rw[hq];omega
      refine⟨_,_,φ,hj,Comes.write hm _ (fun _=>hu) (by simp) (fun b hb=>setRow_other w _ b _ (fun e=>hb ⟨hu,e.symm⟩)) ?_ (fun a1 a2 a3=>⟨by rw[hg];exact b1,fun h=>(by rw[hn] at h;cases h),fun _=>.inl ⟨b4,ov ec (k*aM e) (Builtin.zeroCells z.cells (s.l.length-k)).toList,?_,?_,?_,fun _=>?_,by simp⟩⟩) (Xl hm ho hn (.ov r1 hf)) (fun _=>⟨#[],rfl,rfl⟩)⟩
      ·rw[ho];exact .inr ⟨rfl,rfl,rfl,hg.symm,rfl,fun _=>⟨rfl,fun _ _ n hr=>FJ r1 hf hr⟩⟩
      ·have hw:=Xg (i:=k) (m:=List.replicate (s.l.length-k) (zero e)) (by rw[List.length_replicate];omega) b5 hs;have e3:s.l.take k++List.replicate (s.l.length-k) (zero e)++s.l.drop (k+(List.replicate (s.l.length-k) (zero e)).length)=s.l.take k++List.replicate (s.l.length-k) (zero e):=by rw[List.length_replicate,zw om,zn]
       rw[e3,<-e1] at hw;exact rJ (jH a1 a2 e) hw
      ·have:=Xn (k:=k*aM e) (ds:=(Builtin.zeroCells z.cells (s.l.length-k)).toList) r1 b6 om hf;exact this
      ·exact FJ r1 hf b7
      ·rw[hg];exact FJ r1 hf (b8 rfl)
     ·exfalso;apply h0;rw[b5];simp
  ·cases h
 ·cases h
end
section
variable {P:Program} {C:Cx} {X:Nat→Prop} {φ φ':Nat→Addr} {o o':Nat→Obj} {w w':World} {imm imm':Nat→Prop}
structure mw (C:Cx):Prop where
 eq:∀(w:World) (imm:Nat->Prop) (t:TypeId) (p:Ty) (a b:den p) (xs ys:Array Value),bQ t C.eqs=true->C.ty t=some (.st p)->aE imm w p a xs.toList->aE imm w p b ys.toList->
   (Op.equal t (.agg xs) (.agg ys)).run C.P w=.ok (xy lf p a b) w
 guard:∀t,bQ t C.eqs=true->C.P.eqGuardType C.P.depth t=false
def qup(C:Cx)(f:Field):Bool:=(f.name != "_")&&(match C.ty f.type with
 |some (.int _)=>true
 |some .bool=>true
 |some .str=>true
 |some (.st _)=>bQ f.type C.eqs
 |_=>false)
def Xo(C:Cx):List Field->Bool
 |[]=>true
 |f::r=>qup C f&&Xo C r
def nj:Ty->Nat
 |.st p=>nj p+1
 |.pair a b=>nj a+nj b
 |_=>0
def Sz(C:Cx)(t:TypeId):Bool:=!(C.P.stoodInHeld t)&&!(C.P.eqGuardType C.P.depth t)&&(match desc C.P t with
 |some (.struct fs)=>Xo C fs.toList
 |_=>false)&&(match C.ty t with
 |some T=>Nat.ble (nj T) 1000
 |none=>false)
def L6(C:Cx):List Nat->Bool
 |[]=>true
 |t::r=>Sz C t&&L6 C r
def Xp:∀{l:List Nat},L6 C l=true->∀{t},bQ t l=true->Sz C t=true
 |[],_,t,h=>by cases h
 |b::r,hc,t,h=>by
  simp only[L6,ze] at hc;simp only[bQ] at h;cases hb:Nat.beq b t with
  |true=>have:=zj hb;subst this;exact hc.1
  |false=>rw[hb] at h;exact Xp hc.2 h
def z33(hC:cV C)(hq:L6 C C.eqs=true):∀(n d:Nat) (t:TypeId) (T:Ty) (a b:den T) (za zb:Value),n<d->nj T<=n->C.ty t=some T->(match T with|.int _=>True|.bool=>True|.str=>True|.st _=>bQ t C.eqs=true|_=>False)->cY imm w T a za->cY imm w T b zb->(Op.equalIn d t za zb).run C.P w=.ok (xy lf T a b) w:=by
 intro n
 induction n with
 |zero=>
  intro d t T a b za zb hd hl ht hk ha hb;obtain⟨d,rfl⟩:∃k,d=k+1:=⟨d-1,by omega⟩;obtain⟨dd,_,hu,he⟩:=(hC.eY _ _ ht).desc;cases T<;>simp only at hk
  ·cases dd<;>simp only[pE] at he<;>try (cases he;done)
   have h1:ay (fun _=>⟨0,0,none⟩) (fun _=>Obj.none) imm w (.d _ a) za:=ha;have h2:ay (fun _=>⟨0,0,none⟩) (fun _=>Obj.none) imm w (.d _ b) zb:=hb;obtain⟨rfl,_⟩:=oH h1;obtain⟨rfl,_⟩:=oH h2;exact run_equalIn_int _ _ _ _ _ _ _ hu
  ·cases dd<;>first|(simp only[pE] at he;cases he;done)|skip
   have h1:ay (fun _=>⟨0,0,none⟩) (fun _=>Obj.none) imm w (.d _ a) za:=ha;have h2:ay (fun _=>⟨0,0,none⟩) (fun _=>Obj.none) imm w (.d _ b) zb:=hb;have e1:=vr h1;have e2:=vr h2;subst e1 e2;exact run_equalIn_bool' _ _ _ _ _ hu
  ·cases dd<;>first|(simp only[pE] at he;cases he;done)|skip
   have h1:ay (fun _=>⟨0,0,none⟩) (fun _=>Obj.none) imm w (.d _ a) za:=ha;have h2:ay (fun _=>⟨0,0,none⟩) (fun _=>Obj.none) imm w (.d _ b) zb:=hb;obtain⟨s,rfl,rfl,_⟩:=rZ h1;obtain⟨s',rfl,rfl,_⟩:=rZ h2;have:=zeb s s';unfold bl at this;show _=Result.ok (bM _ _) w;rw[this];exact run_equalIn_string _ _ _ _ _ hu
  ·simp[nj] at hl
 |succ n ih=>
  intro d t T a b za zb hd hl ht hk ha hb;by_cases hs:∃p,T=.st p
  ·obtain⟨p,rfl⟩:=hs;simp only at hk;obtain⟨d,rfl⟩:∃k,d=k+1:=⟨d-1,by omega⟩;have h1:=Xp hq hk;unfold Sz at h1;simp only[ze,Bool.not_eq_true'] at h1;obtain⟨⟨⟨h1,h2⟩,h3⟩,h4⟩:=h1;obtain⟨fs,g1,g2,g3⟩:=W8 hC ht;rw[g1] at h3;simp only at h3;obtain⟨xs,rfl,hv⟩:=ha;obtain⟨ys,rfl,hw⟩:=hb;have hx:C.P.fieldsOf t=fs:=by unfold Program.fieldsOf;rw[g2]
   rw[run_equalIn_struct w d t xs ys (by rw[hx];exact g2) h1,hx];simp only[nj] at hl;have key:∀(fs:List Field) (p:Ty) (off:Nat) (a b:den p),nj p<=n->vt C fs p off=true->Xo C fs=true->aE imm w p a ((xs.toList.drop off).take (aM p))->aE imm w p b ((ys.toList.drop off).take (aM p))->
     (Op.eqFields d xs ys fs).run C.P w=.ok (xy lf p a b) w:=by
    intro fs
    induction fs with
    |nil=>
     intro p off a b _ h _ _ _;cases p<;>first|(simp only[vt] at h;cases h;done)|skip
     simp[Op.eqFields,xy]
    |cons f r ihf=>
     intro p off a b hn h hf ha hb;simp only[Xo,ze] at hf;obtain⟨hc,hy⟩:=hf;unfold qup at hc;rw[ze] at hc;obtain⟨hm,hc⟩:=hc;have hm:f.name≠ "_":=by simpa using hm
     have one:∀(q:Ty) (a b:den q),C.ty f.type=some q->nj q<=n->f.offset=off->aE imm w q a ((xs.toList.drop off).take (aM q))->aE imm w q b ((ys.toList.drop off).take (aM q))->
       ∃va vb,(part f.type xs f.offset).run C.P w=.ok va w/\(part f.type ys f.offset).run C.P w=.ok vb w/\(Op.equalIn d f.type va vb).run C.P w=.ok (xy lf q a b) w:=by
      intro q a b ho hz hg ha hb;obtain⟨va,v1,v2⟩:=W7 (w:=w) (hC.eY _ _ ho) (cs:=xs) (off:=f.offset) (by rw[hg];exact ha);obtain⟨vb,v3,v4⟩:=W7 (w:=w) (hC.eY _ _ ho) (cs:=ys) (off:=f.offset) (by rw[hg];exact hb);rw[ho] at hc;exact⟨va,vb,v1,v3,ih d f.type q a b va vb om hz ho (by cases q<;>first|trivial|exact hc|(simp at hc;done)) v2 v4⟩
     cases r with
     |nil=>
      have h:(C.is f.type p&&Nat.beq f.offset off)=true:=by cases p<;>exact h
      rw[ze] at h;obtain⟨va,vb,v1,v2,v3⟩:=one p a b (cg h.1) hn (zj h.2) ha hb;simp only[Op.eqFields,if_pos hm,Sem.run_bind,v1,v2,v3,Result.andThen_ok];cases xy lf p a b<;>simp
     |cons g r=>
      cases p<;>first|(simp only[vt] at h;cases h;done)|skip
      rename_i s t;simp only[vt,ze] at h;obtain⟨c1,c2,e1,a1,a2⟩:=ha;obtain⟨d1,d2,e2,b1,b2⟩:=hb;have cut:∀{l c1 c2:List Value},(l.drop off).take (aM s+aM t)=c1++c2->c1.length=aM s->c2.length=aM t->(l.drop off).take (aM s)=c1/\(l.drop (off+aM s)).take (aM t)=c2:=by
       intro l c1 c2 e l1 l2;have f1:=congrArg (List.take (aM s)) e;rw[List.take_take,Nat.min_eq_left om,<-l1,List.take_left'] at f1
       ·have f2:=congrArg (List.drop (aM s)) e;rw[<-l1,List.drop_left',List.drop_take,List.drop_drop,l1,Nat.add_sub_cancel_left] at f2
        ·rw[l1] at f1;exact⟨f1,f2⟩
        ·rfl
       ·rfl
      simp only[aM] at e1 e2;obtain⟨f1,f2⟩:=cut e1 (iQ _ _ _ a1) (iQ _ _ _ a2);obtain⟨f3,f4⟩:=cut e2 (iQ _ _ _ b1) (iQ _ _ _ b2);simp only[nj] at hn;obtain⟨va,vb,v1,v2,v3⟩:=one s a.1 b.1 (cg h.1.1) om (zj h.1.2) (by rw[f1];exact a1) (by rw[f3];exact b1);have hj:=ihf t (off+aM s) a.2 b.2 om h.2 hy (by rw[f2];exact a2) (by rw[f4];exact b2);rw[Op.eqFields];simp only[if_pos hm,Sem.run_bind,v1,v2,v3,Result.andThen_ok];show _=Result.ok (bP (xy lf s a.1 b.1) (xy lf t a.2 b.2)) w;cases xy lf s a.1 b.1
      ·simp[bP]
      ·simp only[Bool.not_true,Bool.false_eq_true,if_false,hj,bP,Bool.true_and]
   have hA:=iQ _ _ _ hv;have hB:=iQ _ _ _ hw;exact key fs.toList p 0 a b om g3 h3 (by rw[List.drop_zero,<-hA,List.take_length];exact hv) (by rw[List.drop_zero,<-hB,List.take_length];exact hw)
  ·refine ih d t T a b za zb om ?_ ht hk ha hb;cases T<;>first|exact Nat.zero_le _|exact hk.elim|exact absurd ⟨_,rfl⟩ hs
def z6k{t:TypeId}{a b:Value}{r:Bool}(h:∀d,1000<d->(Op.equalIn d t a b).run P w=.ok r w):(Op.equal t a b).run P w=.ok r w:=by unfold Op.equal;exact h _ dc
def zfz(hC:cV C)(hq:L6 C C.eqs=true):mw C where
 eq:=by intro w imm t p a b xs ys h1 h2 h3 h4;have h5:=Xp hq h1;unfold Sz at h5;simp only[ze,Bool.not_eq_true'] at h5;have h6:=h5.2;rw[h2] at h6;have h6:nj (.st p)<=1000:=zD h6;exact z6k fun d hd=>z33 (imm:=imm) hC hq 1000 d t (.st p) a b _ _ hd h6 h2 h1 ⟨xs,rfl,h3⟩ ⟨ys,rfl,h4⟩
 guard:=by
  intro t h1;have h5:=Xp hq h1;unfold Sz at h5
  grind
end
section
variable {C:Cx} {X:Nat→Prop} {φ:Nat→Addr} {o:Nat→Obj} {w:World} {imm:Nat→Prop}
end
section
variable {C:Cx} {X:Nat→Prop} {φ:Nat→Addr} {o:Nat→Obj} {w:World} {imm:Nat→Prop}
def quq(s:ByteArray):Bv (s.data.toList.map fun b=>(b.toNat:Int))=s:=by
 obtain⟨⟨l⟩⟩:=s;show ByteArray.mk ((l.map fun b=>(b.toNat:Int)).map fun b=>UInt8.ofNat b.toNat).toArray=ByteArray.mk ⟨l⟩;rw[zS];congr 2
 induction l with
 |nil=>rfl
 |cons a l ih=>simp_all
def z6l{P:Program}{b n:Nat}{s:ByteArray}{ty:TypeId}(h:w.heap[b]?=some (.stringIter s n))(hn:n<s.size):(Instr.next (.pointer (some ⟨b,0,none⟩)) true ty).run P w=.ok (.tuple #[.bool true,.int .i64 n,.int .i32 (Utf8.decode s n).1]) {w with heap:=w.heap.setIfInBounds b (.stringIter s (n+(Utf8.decode s n).2))}:=by simp[Instr.next,getObj,setObj,Sem.run,h,hn,Result.andThen,goInt]
def z6m{P:Program}{b n:Nat}{s:ByteArray}{ty:TypeId}(h:w.heap[b]?=some (.stringIter s n))(hn:¬n<s.size):(Instr.next (.pointer (some ⟨b,0,none⟩)) true ty).run P w=.ok (.tuple #[.bool false]) w:=by simp[Instr.next,getObj,Sem.run,h,hn,Result.andThen]
def z34(hm:MRel C X φ o w){fr:Nat}{t:TypeId}{x:V}{zx:Value}{v:V}{u:List (Nat×Obj)}(hx:ay φ o (aj X φ o w) w x zx)(h:(qxi C fr t x).aN v u)(hf:mU fr o u):dY C X φ o w v u (Instr.range t zx):=by
 unfold qxi at h;split at h
 ·rename_i hd;split at h
  ·rename_i l;rw[dW] at h;obtain⟨rfl,rfl⟩:=h;obtain⟨s,rfl,hs,hl⟩:=rZ hx;have hc:o fr=.none:=hf _ (zg ..) (Nat.le_refl _) (by show fr<fr+16;omega);refine⟨.pointer (some ⟨w.heap.size,0,none⟩),w.alloc (.stringIter s 0),cy φ fr ⟨w.heap.size,0,none⟩,run_range_string w t s (ng hd),?_⟩;refine Comes.fresh hm (B:=.stringIter s 0) rfl (.iter l 0) (ns:=[]) (fun p hp=>by cases hp) (fun _=>by rw[hc];trivial) (fun _ _ _=>?_) trivial (fun h3=>?_)
   ·refine⟨s,0,?_,hs,rfl,hl⟩;rw[eQ];show(w.heap.push (Go.Obj.stringIter s 0))[w.heap.size]?=some (Go.Obj.stringIter s 0);simp
   ·unfold ay;rw[h3,eQ]
  ·cases h
 ·cases h
def z6n(hm:MRel C X φ o w){ty:TypeId}{x:V}{zx:Value}{v:V}{u:List (Nat×Obj)}(hx:ay φ o (aj X φ o w) w x zx)(h:(z5r lf o x).aN v u):dY C X φ o w v u (Instr.next zx true ty):=by
 unfold z5r at h;split at h
 ·rename_i id;split at h
  ·rename_i l p ho;rw[dW] at h;obtain⟨rfl,rfl⟩:=h;have he:=hm.aw id;rw[ho] at he;obtain⟨s,n,hb,hs,rfl,hl⟩:=he;have hc:aV (φ id) (o id)=true:=by rw[ho];rfl
   have hg:(φ id).block<w.heap.size:=(hm.sep id hc).1;unfold ay at hx;rw[ho] at hx;simp only at hx;subst hx;have hf:l.length=s.size:=by rw[<-hs];simp
   have hj:Bv l=s:=by rw[<-hs];exact quq s
   by_cases hn:n<s.size
   ·have e1:lf.l (n:Int) (lf.n l)=true:=zt (by show(n:Int)<(l.length:Int);omega);have e2:lf.gO l (n:Int)=((n+(Utf8.decode s n).2:Nat):Int):=by
     show(if(n:Int)<(l.length:Int) then _ else _)=_
     grind
    have e3:lf.fN l (n:Int)=((Utf8.decode s n).1:Int):=by
     show((Utf8.decode (Bv l) (n:Int).toNat).1:Int)=_
     grind
    rw[e1,e2,e3];refine⟨_,_,φ,z6l hb hn,Comes.write hm _ (fun _=>hc) (by simp) (fun b hb=>?_) (by rw[ho];exact rfl) (fun a1 a2 a3=>?_) trivial (fun _=>?_)⟩
    ·grind
    ·refine⟨s,_,?_,hs,rfl,hl⟩
     grind
    ·have hr:=decode_le s n;have h1:gE .i64 (n:Int):=by unfold cv at hl;show(-9223372036854775808:Int)<=_/\_<=(9223372036854775807:Int);omega
     have h2:gE .i32 ((Utf8.decode s n).1:Int):=by show(-2147483648:Int)<=_/\_<=(2147483647:Int);omega
     exact .inl ⟨rfl,rfl,h1,h2⟩
   ·have e1:lf.l (n:Int) (lf.n l)=false:=zo (by show ¬(n:Int)<(l.length:Int);omega);have e2:lf.gO l (n:Int)=(n:Int):=by show(if(n:Int)<(l.length:Int) then _ else _)=_;rw[if_neg om]
    rw[e1,e2];refine⟨_,w,φ,z6m hb hn,Comes.write hm _ (fun _=>hc) rfl (fun b _=>rfl) (by rw[ho];exact rfl) (fun a1 a2 a3=>?_) trivial (fun _=>?_)⟩
    ·exact⟨s,n,hb,hs,rfl,hl⟩
    ·exact .inr ⟨rfl,rfl⟩
  ·cases h
 ·cases h
def z06{α:Type}{b:Bool}{x y:α}(h:(aP b (some x) none:Option α)=some y):b=true/\x=y:=by
 cases b with
 |true=>exact⟨rfl,zF h⟩
 |false=>cases h
def zbm(hm:MRel C X φ o w){i:Nat}{x:V}{zx:Value}{v:V}{u:List (Nat×Obj)}(hx:ay φ o (aj X φ o w) w x zx)(h:(zfj lf i x).aN v u):dY C X φ o w v u (Instr.extract zx i):=by
 unfold zfj at h;split at h
 ·rename_i vs;obtain⟨c,rfl,hr⟩:=hx;split at h
  ·rename_i v' hv;rw[dW] at h;obtain⟨rfl,rfl⟩:=h;obtain⟨z,h1,h2⟩:=Sn hr hv;rw[zJ] at h1;exact dY.aZ hm ⟨rfl,z,by simp[Instr.extract,h1],h2⟩
  ·cases h
 ·rename_i b p c;split at h
  ·rw[dW] at h;obtain⟨rfl,rfl⟩:=h;refine dY.aZ hm ⟨rfl,.bool b,?_,Gp⟩;rcases hx with ⟨rfl,rfl,_⟩|⟨rfl,rfl⟩<;>simp[Instr.extract]
  ·rw[Kw] at h;obtain⟨y,h1,h2⟩:=h;obtain⟨rfl,rfl⟩:=z06 h1;injection h2 with h2 h3;subst h2 h3;rcases hx with ⟨_,rfl,h4,_⟩|⟨h4,_⟩
   ·exact dY.aZ hm ⟨rfl,.int .i64 p,by simp[Instr.extract],nf h4⟩
   ·cases h4
  ·rw[Kw] at h;obtain⟨y,h1,h2⟩:=h;obtain⟨rfl,rfl⟩:=z06 h1;injection h2 with h2 h3;subst h2 h3;rcases hx with ⟨_,rfl,_,h4⟩|⟨h4,_⟩
   ·exact dY.aZ hm ⟨rfl,.int .i32 c,by simp[Instr.extract],nf h4⟩
   ·cases h4
  ·cases h
 ·cases h
end
end Ev