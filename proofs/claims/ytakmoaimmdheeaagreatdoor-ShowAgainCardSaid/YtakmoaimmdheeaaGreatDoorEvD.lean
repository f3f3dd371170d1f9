/- Operations are sound: building, making, appending, storing, copying, comparing. No statement of its own about the program. -/
import Derived.Test.YtakmoaimmdheeaaGreatDoorEvC
import Derived.Laws.RangeAny
namespace Ev
open Go
section
variable {P:Program} {C:Cx} {X:Nat→Prop} {φ φ':Nat→Addr} {o o':Nat→Obj} {w w':World} {imm imm':Nat→Prop}
def An(φ:Nat->Addr)(o:Nat->Obj)(imm:Nat->Prop)(w:World):List (Nat×V)->List (Nat×Value)->Prop
 |[],zs=>zs=[]
 |p::l,zs=>∃z r,zs=(p.1,z)::r/\aq φ o imm w p.2 z/\An φ o imm w l r
theorem Qn(h:∀x z,aq φ o imm w x z->aq φ' o' imm' w' x z):∀(l:List (Nat×V)) (zs:List (Nat×Value)),An φ o imm w l zs->An φ' o' imm' w' l zs
 |[],_,h1=>h1
 |_::l,_,⟨a,r,h1,h2,h3⟩=>⟨a,r,h1,h _ _ h2,Qn h l _ h3⟩
theorem XZ{cs vs:List V}{zs ys:List Value}(off:Nat)(h:cd φ o imm w cs zs)(h':cd φ o imm w vs ys):cd φ o imm w (Hl cs off vs) (ov zs off ys):=by unfold Hl ov;rw[Dl h'];exact Dm (Dm (Jk off h) h') (Jj _ h)
theorem qqc{fs:List Field}{places:Array (Nat×Nat)}(hp:∀(i:Nat) fd b n,fs[i]?=some fd->tH C.P fd.type=some (b,n)->places[i]?=some (fd.offset,n)):∀(parts:List (Nat×V)) (zparts:List (Nat×Value)) (cs km:List V) (cells:Array Value),An φ o imm w parts zparts->cd φ o imm w cs cells.toList->Mj C o fs parts cs=some km->∃dK,Instr.fill (places[·]?) cells zparts=some dK/\cd φ o imm w km dK.toList:=by
 intro parts
 induction parts with
 |nil=>intro zparts cs km cells h1 h2 h;simp[An] at h1;subst h1;injection h with h;subst h;exact⟨cells,rfl,h2⟩
 |cons p r ih=>
  intro zparts cs km cells ⟨z,zr,e,h1,hc⟩ h2 h;subst e;simp only[Mj] at h;split at h
  ·rename_i fd vs h3 h4;split at h
   ·rename_i b n hk;cases hb:(Nat.beq vs.length n&&Nat.ble (fd.offset+n) cs.length) with
    |false=>rw[hb] at h;cases h
    |true=>rw[hb] at h;rw[ze] at hb;have he:=zm hb.1;have hf:=zB hb.2;obtain⟨g1,g2⟩:=Ql h1 h4;have l1:=Dl g1;have l2:=Dl h2;simp only[Array.length_toList] at l1 l2;have:=ih zr _ _ (ov cells.toList fd.offset z.cells.toList).toArray hc (by simpa using XZ fd.offset h2 g1) h;rw[<-XR (places[·]?) cells p.1 z zr (hp _ _ _ _ h3 hk) om om] at this;exact this
   ·cases h
  ·cases h
theorem X0(hm:MRel C X φ o w){ei:TypeId}{e:Ty}(hT:mA C ei e):∀(parts:List (Nat×V)) (zparts:List (Nat×Value)) (l l':List (den e)) (cells:Array Value),An φ o (ah X φ o w) w parts zparts->(∀p,p∈parts->sZ o p.2)->bc (aA (ah X φ o w) w e) l cells.toList->C9 lf o e parts l=some l'->∃dK,Instr.fill (fun i=>some (i*aJ e,aJ e)) cells zparts=some dK/\bc (aA (ah X φ o w) w e) l' dK.toList/\l'.length=l.length:=by
 intro parts
 induction parts with
 |nil=>intro zparts l l' cells h1 _ h2 h;simp[An] at h1;subst h1;injection h with h;subst h;exact⟨cells,rfl,h2,rfl⟩
 |cons p r ih=>
  intro zparts l l' cells ⟨z,zr,e1,h1,hg⟩ hf h2 h;subst e1;simp only[C9] at h;split at h
  ·rename_i x h3;cases hb:Nat.blt p.1 l.length with
   |false=>rw[hb] at h;cases h
   |true=>
    rw[hb] at h;have he:p.1<l.length:=zB hb;have hr:=Qc hm h1 (hf p (zf ..)) h3;have hc:=XF hT hr;have l1:=gY _ _ _ hc;have l2:=nS h2;simp only[Array.length_toList] at l1 l2;have hj:(p.1+1)*aJ e<=l.length*aJ e:=Nat.mul_le_mul_right _ he;rw[Nat.succ_mul] at hj;have h4:bc (aA (ah X φ o w) w e) (l.set p.1 x) (ov cells.toList (p.1*aJ e) z.cells.toList):=by have:=MU (i:=p.1) (m:=[x]) (by show p.1+1<=l.length;exact he) h2 ⟨_,[],(zt _).symm,hc,rfl⟩;rw[List.set_eq_take_append_cons_drop,if_pos he];simpa using this
    obtain⟨dK,g1,g2,g3⟩:=ih zr _ _ (ov cells.toList (p.1*aJ e) z.cells.toList).toArray hg (fun q hq=>hf q (zh _ hq)) (by simpa using h4) h;rw[<-XR (fun i=>some (i*aJ e,aJ e)) cells p.1 z zr rfl l1 om] at g1;exact⟨dK,g1,g2,by simpa using g3⟩
  ·cases h
theorem X4(ks:List Nat)(e:Ty):∀(parts:List (Nat×V)) (l:List (den e)),C9 lf (ak o (eu o ks)) e parts l=C9 lf o e parts l:=by
 intro parts
 induction parts with
 |nil=>intro l;rfl
 |cons p r ih=>intro l;simp only[C9,XA,ih]
theorem Qo:∀{parts:List (Nat×V)} {p:Nat×V},p∈parts->∀id,id∈fj o p.2->id∈vf o parts
 |q::r,p,h,id,hi=>by
  rcases zw.1 h with rfl|h
  ·exact List.mem_append_left _ hi
  ·exact List.mem_append_right _ (Qo h id hi)
theorem X5:∀{fs:List Field},Mk P fs=true->∃places,fs.mapM (fun f=>(P.info? f.type).map fun i=>(f.offset,i.size))=some places/\∀(i:Nat) fd b n,fs[i]?=some fd->tH P fd.type=some (b,n)->places[i]?=some (fd.offset,n)
 |[],_=>⟨[],rfl,fun i fd b n h=>by simp at h⟩
 |f::r,h=>by
  simp only[Mk] at h;split at h
  ·rename_i bn hk;obtain⟨b,n⟩:=bn;obtain⟨i,d,g1,g2,_⟩:=Dk hk;obtain⟨places,h1,h2⟩:=X5 h;refine⟨(f.offset,i.size)::places,?_,fun j fd b' n' hj hc=>?_⟩
   ·rw[List.mapM_cons,g1,h1];rfl
   ·cases j with
    |zero=>simp only[List.getElem?_cons_zero,zE] at hj;subst hj;rw[hk] at hc;injection hc with hc;injection hc with _ hc;simp[g2,hc]
    |succ j=>simpa using h2 j fd b' n' (by simpa using hj) hc
  ·cases h
theorem quv(hC:cD C)(hm:MRel C X φ o w){t:TypeId}{parts:List (Nat×V)}{zparts:Array (Nat×Value)}{v:V}{u:List (Nat×Obj)}(hx:An φ o (ah X φ o w) w parts zparts.toList)(h:(Pj lf C o t parts).aE v u):dY C X φ o w v u (Instr.build t zparts):=by
 unfold Pj at h;split at h
 ·rename_i fs hd;have hu:=kN hd;rw[dU] at h;obtain⟨hk,h⟩:=h;obtain⟨places,hf,hj⟩:=X5 hk;split at h
  ·rename_i cs hl;split at h
   ·rename_i km hb;rw[dR] at h;obtain⟨rfl,rfl⟩:=h;obtain⟨i,z,k1,k2,rfl⟩:=XY hl;obtain⟨dK,g1,g2⟩:=qqc (places:=places.toArray) (by simpa using hj) _ _ _ _ z.cells hx (Jp _) hb;refine dY.aR hm ⟨rfl,.agg dK,?_,XI hm g2⟩;have X6:Instr.fill (fun x=>places[x]?) z.cells zparts.toList=some dK:=by simpa using g1
    simp[Instr.build,run_underlying hu,vZ k1 k2,Array.mapM_eq_mapM_toList,run_places w _ _ hf,X6]
   ·cases h
  ·cases h
 ·rename_i n ei hd;have hu:=kN hd;split at h
  ·rename_i n' e he;rw[dU] at h;obtain⟨hn,h⟩:=h;split at h
   ·rename_i l hg;rw[dR] at h;obtain⟨rfl,rfl⟩:=h;have hT:=hC.eM _ _ he;obtain⟨i,z,k1,_,k2,k3,k4,k5,k6⟩:=hT.info;obtain⟨d,d1,d2,d3⟩:=hT.desc;rw[hd] at d1;injection d1 with d1;subst d1;simp only[mz,ze] at d3;have hE:=hC.eM _ _ (bY d3.2);obtain⟨ii,zz,m1,_,m2,_⟩:=hE.info;have hc:=Je hm (vf o parts);obtain⟨ho,hq⟩:=k6 (ah X φ (ak o (eu o (vf o parts))) w) w;have hs:=zm d3.1;subst hs;rw[<-X4 (vf o parts)] at hg;obtain⟨dK,g1,g2,g3⟩:=X0 hc.mem hE parts zparts.toList _ l z.cells (Qn (fun x z h=>hc.keeps x z h) _ _ hx)
     (fun p hp=>MJ (fun id hi=>Qo hp id hi)) hq hg
    refine⟨.agg dK,w,φ,?_,{hc with val:=?_}⟩
    ·simp[Instr.build,run_underlying hu,vZ k1 k4,jz m1,m2,g1]
    ·exact⟨dK,rfl,g3.trans ho,g2⟩
   ·cases h
  ·cases h
 ·cases h
theorem Comes.fq(hm:MRel C X φ o w){ns:List (Nat×Obj)}(hf:∀p,p∈ns->(∃e,p.2=.vec e 0 false ⟨true,[]⟩)/\o p.1=.none){v:V}{z:Value}(hc:(∀y z,aq φ o (ah X φ o w) w y z->aq φ (ak o ns) (ah X φ (ak o ns) w) w y z)->aq φ (ak o ns) (ah X φ (ak o ns) w) w v z):Comes C X φ φ o ns w w v z:=by
 have hg:∀(ns:List (Nat×Obj)) id,id∈bW ns->∃p,p∈ns/\p.1=id:=by
  intro ns
  induction ns with
  |nil=>intro id h;cases h
  |cons p r ih=>
   intro id h;rcases zw.1 h with h|h
   ·exact⟨p,zf ..,h.symm⟩
   ·obtain⟨q,h1,h2⟩:=ih id h;exact⟨q,zh _ h1,h2⟩
 have he:∀id,id∈bW ns->∃e,ak o ns id=.vec e 0 false ⟨true,[]⟩:=fun id h=>Qm ns _ id (fun p hp=>(hf p hp).1) h;have hj:∀id,id∈bW ns->o id=.none:=fun id h=>by obtain⟨p,h1,h2⟩:=hg ns _ h;exact h2▸(hf p h1).2
 have hx:∀id a,id∈bW ns->aP a (ak o ns id)=true->False:=fun id a hk hx=>by obtain⟨e,h⟩:=he id hk;rw[h] at hx;simp[aP,live] at hx
 refine Comes.make hm (Nat.le_refl _) (fun _ _ _=>rfl) (fun _ _=>rfl) (fun _ _ _=>rfl) (fun id hk=>?_) (fun id hk h=>(hx id _ hk h).elim) (fun i j hi _ h _ _ _=>(hx i _ hi h).elim) (fun _ _ _ id hk=>?_) (fun id hk=>?_) (fun _ _ h=>hc h)
 ·rw[hj id hk];trivial
 ·obtain⟨e,h⟩:=he id hk;rw[h];exact⟨Nat.zero_le _,fun _=>rfl,fun h=>by simp at h⟩
 ·obtain⟨e,h⟩:=he id hk;rw[h];exact fun _ h=>by simp at h
theorem qx6{fr:Nat}{t:TypeId}{b:Bool}{p:Pk}{s:Sem Value}(hp:∀v u,p.aE v u->dY C X φ o w v u s){v:V}{u:List (Nat×Obj)}(h:(Pq C fr t b p).aE v u)(hf:kO fr o u):dY C X φ o w v u s:=by
 unfold Pq at h;split at h
 ·rename_i cs;cases hb:(b&&Mc cs&&Nat.ble (tK cs) 15) with
  |false=>rw[hb] at h;exact hp v u h
  |true=>
   rw[hb] at h;simp only[cond_true,dR] at h;obtain⟨rfl,rfl⟩:=h;simp only[ze] at hb;have hb:=zB hb.2;obtain⟨val,w',φ',g1,g2⟩:=hp _ _ ((dR (v:=.agg cs) (u:=[])).2 ⟨rfl,rfl⟩);have sp:=fun p hp=>(MX (φ:=φ) (o:=o) (imm:=ah X φ o w) (w:=w) (φ':=φ) (o':=o) (imm':=ah X φ o w) (w':=w) cs (vT C 8 t) fr).1 p hp;refine⟨val,w',φ',g1,?_⟩;have g3:=Comes.trans g2 (v':=.agg (nf fr cs (vT C 8 t)).1) (z':=val) (Comes.fq (ns:=(nf fr cs (vT C 8 t)).2) g2.mem (fun p hp=>?_) (fun hk=>?_))
   ·exact g3
   ·obtain⟨g3,g4,g5⟩:=sp p hp;exact⟨g3,hf p hp g4 om⟩
   ·obtain⟨c,rfl,h1⟩:=g2.val;exact⟨c,rfl,(MX cs (vT C 8 t) fr).2 _ h1 hk fun p hp=>Qm _ _ p.1 (fun q hq=>(sp q hq).1) (MW hp)⟩
 ·exact hp v u h
theorem Qp(z:Array Value):∀n,((List.range (n*z.size)).map fun j=>z[j % z.size]!)=(List.replicate n z.toList).flatten
 |0=>by simp
 |n+1=>by
  rw[Nat.succ_mul,Nat.add_comm,List.range_add,zT,List.replicate_succ,List.flatten_cons,<-Qp z n,jb];congr 1
  ·apply List.ext_getElem
   ·simp
   ·intro j h1 h2;have hj:j<z.size:=by simpa using h1
    simp[Nat.mod_eq_of_lt hj,hj]
  ·apply ja;intro j _;simp[Function.comp]
theorem qx7(z:Array Value)(n:Nat):(madeCells z (n*z.size)).toList=(List.replicate n z.toList).flatten:=by rw[<-Qp];simp[madeCells,Array.toList_range]
theorem Qq{α:Type}{f:α->List Value->Prop}{x:α}{c:List Value}(h:f x c):∀n,bc f (List.replicate n x) (List.replicate n c).flatten
 |0=>by simp[bc]
 |n+1=>by rw[List.replicate_succ,List.replicate_succ,List.flatten_cons];exact⟨c,_,rfl,h,Qq h n⟩
theorem X7{e:Ty}{z:Value}(h3:∀imm w,aA imm w e (zero e) z.cells.toList)(n:Nat):bc (aA imm w e) (List.replicate n (zero e)) (madeCells z.cells (n*aJ e)).toList:=by have:=gY (imm:=imm) (w:=w) _ _ _ (h3 imm w);simp only[Array.length_toList] at this;rw[<-this,qx7];exact Qq (h3 imm w) n
theorem qh4(hC:cD C)(hm:MRel C X φ o w){fr n:Nat}{t:TypeId}{parts:List (Nat×V)}{zparts:Array (Nat×Value)}{v:V}{u:List (Nat×Obj)}(hx:An φ o (ah X φ o w) w parts zparts.toList)(h:(Pl lf C o fr t n parts).aE v u)(hf:kO fr o u):dY C X φ o w v u (Instr.buildSlice t n zparts):=by
 unfold Pl at h;split at h
 ·rename_i e he;rw[dU,ze] at h;obtain⟨⟨h1,hk⟩,h⟩:=h;have h1:=zB h1;have hk:0<aJ e:=zB hk;split at h
  ·rename_i l hg;rw[dR] at h;obtain⟨rfl,rfl⟩:=h;obtain⟨ei,hu,_,he⟩:=Qh he;have hT:=hC.eM _ _ he;obtain⟨i,z,k1,_,k2,k3,k4,k5,k6⟩:=hT.info;have hj:=Je hm (vf o parts);have hq:o fr=.none:=hf (fr,.vec e 0 false ⟨false,l⟩) (List.mem_append_right _ (zf ..)) (Nat.le_refl _) (by show fr<fr+16;omega);have hl:ak o (eu o (vf o parts)) fr=.none:=by
    rcases Dj (o:=o) (vf o parts) fr with ⟨g1,_⟩|⟨_,_,_,_,g1,_⟩
    ·rw[g1,hq]
    ·rw[hq] at g1;cases g1
   rw[<-X4 (vf o parts)] at hg;have hc:bc (aA (ah X φ (ak o (eu o (vf o parts))) w) w e) (List.replicate n (zero e)) ((Array.range (n*aJ e)).map ((if n*aJ e=0 then #[] else z.cells)[· % (if n*aJ e=0 then #[] else z.cells).size]!)).toList:=by
    by_cases hn:n*aJ e=0
    ·have:n=0:=by
      rcases Nat.mul_eq_zero.1 hn with h|h
      ·exact h
      ·omega
     subst this;simp[bc]
    ·rw[if_neg hn];exact X7 k6 n
   obtain⟨dK,g1,g2,g3⟩:=X0 hj.mem hT parts zparts.toList _ l _ (Qn (fun x z h=>hj.keeps x z h) _ _ hx)
    (fun p hp=>MJ (fun id hi=>Qo hp id hi)) hc hg
   have l2:=nS g2;have ho:l.length=n:=by rw[g3];simp
   have hs:n<=n*aJ e:=Nat.le_mul_of_pos_right n hk;refine⟨.slice (some ⟨w.heap.size,0,none⟩) l.length n,w.alloc (.cells dK ei),_,?_,hj.trans (EC hj.mem (c:=dK) (el:=ei) (lo:=0) (hi:=0) (cap:=n) (ec:=dK.toList) (rest:=[]) rfl (HM hl) (by simp) g2 ?_ ?_ ?_ (.inl rfl) (MY hC he)).1⟩
   ·have h5:¬(16777216<n*aJ e):=om
    by_cases hn:n*aJ e=0
    ·simp only[hn,if_true] at g1;simp[Instr.buildSlice,run_underlying hu,jz k1,k2,hn,ho,newRow] at g1 ⊢;simp[g1]
    ·simp only[if_neg hn] at g1;simp[Instr.buildSlice,run_underlying hu,jz k1,k2,h5,hn,ho,newRow,vZ k1 k4] at g1 ⊢;simp[g1]
   ·rw[ho] at l2;simpa using l2
   ·omega
   ·unfold ch;omega
  ·cases h
 ·cases h
end
section
variable {P:Program} {C:Cx} {X:Nat→Prop} {φ φ':Nat→Addr} {o o':Nat→Obj} {w w':World} {imm imm':Nat→Prop}
theorem z2g{n m:Int}{k:Nat}(h:sV n m=some k):0<=n/\n<=m/\m<=2147483648/\k=n.toNat:=by
 unfold sV at h;split at h
 ·rename_i h0;injection h with h;exact⟨h0.1,h0.2.1,h0.2.2,h.symm⟩
 ·cases h
theorem Qr{n:Int}{y:Unit}(h:fit n=some y):n<=2147483648:=by
 unfold fit at h;split at h
 ·assumption
 ·cases h
theorem qj4(hC:cD C)(hm:MRel C X φ o w){fr:Nat}{t:TypeId}{l c:V}{zl zc:Value}{v:V}{u:List (Nat×Obj)}(hl:aq φ o (ah X φ o w) w l zl)(hc:aq φ o (ah X φ o w) w c zc)(h:(Py lf C fr t l c).aE v u)(hf:kO fr o u):dY C X φ o w v u (Instr.makeSlice t zl zc):=by
 unfold Py at h;split at h
 ·rename_i e k1 n k2 m he hn hj;rw[dU,mj] at h;obtain⟨h1,k,h2,h3⟩:=h;simp only[Prod.mk.injEq] at h3;obtain⟨rfl,rfl⟩:=h3;have hk:o fr=.none:=hf _ (zf ..) (Nat.le_refl _) (by show fr<fr+16;omega);obtain⟨rfl,_⟩:=Jm hn hl;obtain⟨rfl,_⟩:=Jm hj hc;obtain⟨ei,hu,_,he⟩:=Qh he;obtain⟨i,z,g1,_,g2,g3,g4,g5,g6⟩:=(hC.eM _ _ he).info;obtain⟨a1,a2,a3,rfl⟩:=z2g h2;have ho:m.toNat<=2147483648:=om
  have hb:(i.bytes:Int)*m<=281474976710656:=by have h7:(i.bytes:Int)*m<=65536*m:=Int.mul_le_mul_of_nonneg_right om om;omega
  have hg:=run_make (P:=C.P) w t ei i z hu g1 g4 k1 k2 n m a1 a2 hb om;have hr:=tP n.toNat (by simp;omega) (X7 (imm:=ah X φ o w) (w:=w) g6 m.toNat);have e1:(List.replicate m.toNat (zero e)).take n.toNat=List.replicate n.toNat (zero e):=by rw[List.take_replicate,Nat.min_eq_left om]
  rw[e1] at hr;have:=(EC hm (w':=w.alloc (.cells (madeCells z.cells (m.toNat*i.size)) ei)) (c:=madeCells z.cells (m.toNat*i.size)) (el:=ei) (lo:=0) (hi:=0) (ver:=0) (cap:=m.toNat)
   (l:=List.replicate n.toNat (zero e)) (rest:=(madeCells z.cells (m.toNat*aJ e)).toList.drop (n.toNat*aJ e)) rfl (HM hk) (by rw[g2,List.take_append_drop]) hr.1 (by rw[g2,size_madeCells]) (by simp;omega) (by simp;unfold ch;omega) (.inl rfl) (MY hC he)).1
  rw[List.length_replicate] at this;exact⟨_,_,_,hg,this⟩
 ·cases h
theorem Qs{e:TypeId}(h:vS C e=true):C.P.underlying e=some (.int .u8):=by
 unfold vS at h;split at h
 ·rename_i hd;exact kN hd
 ·cases h
theorem M0:∀{l:List (den (.int .u8))} {ec:List Value},bc (aA imm w (.int .u8)) l ec->ec=List.map (Value.int .u8) l/\∀(n:Int),n∈(l:List Int)->0<=n/\n<=255
 |[],ec,h=>by have h:ec=[]:=h;exact⟨by rw[h];rfl,(fun n hn=>by cases hn)⟩
 |x::l,ec,⟨c,d,e,h1,h2⟩=>by
  obtain⟨h1,h3⟩:=h1;obtain⟨h4,h5⟩:=M0 h2;refine⟨by rw[e,h1,h4];rfl,fun n hn=>?_⟩;rcases zw.1 hn with rfl|hn
  ·unfold gH IntKind.min IntKind.max at h3;simp[IntKind.signed,IntKind.bits] at h3;exact h3
  ·exact h5 n hn
theorem X8(s:List UInt8):bc (aA imm w (.int .u8)) (s.map fun b=>(b.toNat:Int)) (s.map fun b=>Value.int .u8 (b.toNat:Int)):=by
 induction s with
 |nil=>rfl
 |cons b s ih=>refine⟨[_],_,rfl,⟨rfl,?_⟩,ih⟩;have:=b.toNat_lt;unfold gH IntKind.min IntKind.max;simp[IntKind.signed,IntKind.bits];omega
theorem qnj(hC:cD C)(hm:MRel C X φ o w){fr:Nat}{s t:TypeId}{x:V}{z:Value}{v:V}{u:List (Nat×Obj)}(hx:aq φ o (ah X φ o w) w x z)(h:(Ph lf C o fr s t x).aE v u)(hf:kO fr o u):dY C X φ o w v u (convert s t z):=by
 have _:=hC;unfold Ph at h;split at h
 ·cases h
 ·rename_i ds hK;have hs:=kN hK;split at h
  ·rename_i k hq;have ht:=kN hq;split at h
   ·rw[dR] at h;obtain⟨rfl,rfl⟩:=h;obtain⟨rfl,_⟩:=lG hx;refine dY.aR hm ⟨rfl,_,?_,lA (HE _ _)⟩;simp[convert,run_underlying hs,run_underlying ht,Conv.intToInt];rfl
   ·cases h
  ·rename_i hq;have ht:=kN hq;split at h
   ·rw[dR] at h;obtain⟨rfl,rfl⟩:=h;obtain⟨rfl,_⟩:=lG hx;refine dY.aR hm ⟨rfl,_,?_,MF⟩;simp[convert,run_underlying hs,run_underlying ht,Conv.intToFloat];rfl
   ·cases h
  ·rename_i hq;have ht:=kN hq;split at h
   ·rw[dR] at h;obtain⟨rfl,rfl⟩:=h;refine dY.aR hm ⟨rfl,z,?_,hx⟩;obtain⟨s',rfl,_,_⟩:=nV hx;simp[convert,run_underlying hs,run_underlying ht]
   ·split at h
    ·rename_i e;rw[dU,ze] at h;obtain⟨⟨h1,_⟩,h⟩:=h;have he:=Qs h1;split at h
     ·rename_i sl hL;rw[dR] at h;obtain⟨rfl,rfl⟩:=h;obtain⟨g1,g2⟩:=Xx hm.ay hx hL;rcases g2 with ⟨_,g3,rfl⟩|⟨_,a,cap,ec,rfl,g4,g5,g6,g7⟩
      ·refine dY.aR hm ⟨rfl,.string .empty,?_,Em (by rw[g3];rfl) (by unfold ch;simp)⟩;rw[run_convert_bytes_string _ _ _ _ _ _ _ hs he ht];simp[Conv.bytesToString]
      ·obtain⟨e1,e2⟩:=M0 g5;have hl:(List.map (fun n:Int=>UInt8.ofNat n.toNat) sl.l).length=List.length sl.l:=by simp
       have back:∀n:Int,0<=n->n<=255->(((UInt8.ofNat n.toNat).toNat:Nat):Int)=n:=by intro n h0 h1;rw[UInt8.toNat_ofNat',Nat.mod_eq_of_lt om];omega
       have hr:=run_convert_bytes_back (P:=C.P) w s t e a cap (List.map (fun n:Int=>UInt8.ofNat n.toNat) sl.l) hs he ht (fun j hj=>by
        have hM:j<ec.length:=by rw[e1];simpa using hj
        have hc:=g6 j hM;rw[qO (g4 (by rw[hl] at hj;omega)),hc];simp only[e1,List.getElem_map,zE,Value.int.injEq,true_and];have hN:j<(sl.l:List Int).length:=by simpa using hj
        obtain⟨b1,b2⟩:=e2 (sl.l:List Int)[j] (List.getElem_mem hN);exact(back _ b1 b2).symm)
       rw[hl] at hr;refine dY.aR hm ⟨rfl,_,hr,Em ?_ ?_⟩
       ·simp only[jb]
        conv=>rhs;rw[<-List.map_id (l:=(sl.l:List Int))]
        apply ja;intro n hn;obtain⟨b1,b2⟩:=e2 n hn;exact back n b1 b2
       ·simpa[ByteArray.size] using g1
     ·cases h
    ·cases h
  ·rename_i e hq;have ht:=kN hq;split at h
   ·rename_i l;split at h
    case h_2=>cases h
    rw[dU,mj] at h;obtain⟨h1,y,h2,h3⟩:=h;simp only[Prod.mk.injEq] at h3;obtain⟨rfl,rfl⟩:=h3;have he:=Qs h1;obtain⟨b,rfl,rfl,hb⟩:=nV hx;have hO:o fr=.none:=hf _ (zf ..) (Nat.le_refl _) (by show fr<fr+16;omega);have hP:=Qr h2;have hu:=run_bytes_of_string (P:=C.P) w s t e b hs ht he;have hB:b.size<=grownCap w b.size 0 e:=by exact Nat.le_add_right _ _
    have e1:(b.data.toList.map fun c=>(c.toNat:Int)).length=b.size:=by simp
    have:=(EC hm (w':=w.drew.alloc (.cells (bytesRow b (grownCap w b.size 0 e)) e ((bytesRow b (grownCap w b.size 0 e)).size,(bytesRow b (grownCap w b.size 0 e)).size+1)))
     (l:=b.data.toList.map fun c=>(c.toNat:Int)) (e:=.int .u8) (ver:=0) (cap:=grownCap w b.size 0 e) (ec:=b.data.toList.map fun c=>Value.int .u8 (c.toNat:Int)) (rest:=List.replicate (grownCap w b.size 0 e-b.size) (.int .u8 0))
     rfl (HM hO) (by simp[bytesRow]) (X8 _) (by simp[bytesRow,aJ];omega) (by rw[e1];exact hB) (by rw[e1];exact hb) (.inr (Nat.le_refl _)) (fun _=>he)).1
    rw[e1] at this;exact⟨_,_,_,hu,this⟩
   ·rename_i id ver;split at h
    ·rename_i e';split at h
     ·rename_i aC b ho;rw[dU,mj,ze,ze] at h;obtain⟨⟨⟨h1,hD⟩,hE⟩,y,h2,h3⟩:=h;simp only[Prod.mk.injEq] at h3;obtain⟨rfl,rfl⟩:=h3;have he:=Qs h1;have hD:=zm hD;have hE:=zm hE;subst hD hE;have hQ:e'=e:=by rw[hs] at ht;injection ht with ht;injection ht
      subst hQ;have hn:b.nil=false:=by
       have h2:az b.nil none (some ())=some y:=h2;cases hb:b.nil with
       |false=>rfl
       |true=>rw[hb] at h2;cases h2
      have hw:=hm.ay id;have hy:=hm.oW id;unfold aq at hx;rw[ho] at hx hw hy;obtain⟨b1,b2,b3⟩:=hw;obtain⟨b4,ec,b5,b6,b7,b8,_⟩:=(b3 hn).resolve_right fun g=>g.2.2 rfl;obtain⟨c,el,fz,r1,hR,hS⟩:=hy rfl hn;rcases hx.2 rfl with ⟨hI,_⟩|⟨_,cap,rfl,k1,k2,k3⟩
      ·rw[hn] at hI;cases hI
      ·obtain⟨lo,hi⟩:=fz;have hJ:aP (φ id) (o id)=true:=by rw[ho];exact qM hn b4
       generalize hz:w.freeze ⟨(φ id).block,c.size,none⟩ 1=w2;have hk:∃hA,w2.heap[(φ id).block]?=some (.cells c el (c.size,hA)):=by
        rw[<-hz];simp only[World.freeze,Nat.one_ne_zero,if_false,Array.getElem?_modify,if_true,r1,Option.map_some];by_cases hF:lo=hi
        ·subst hF;exact⟨_,by simp;rfl⟩
        ·have:c.size<=lo:=hS.resolve_left hF;refine⟨max hi (c.size+1),?_⟩;have hb:(lo==hi)=false:=by simpa using hF
         simp[hb,Nat.min_eq_right this]
       obtain⟨hA,hk⟩:=hk;have hG:∀b',b'≠(φ id).block->w2.heap[b']?=w.heap[b']?:=fun b' hH=>by rw[<-hz];simp only[World.freeze,Nat.one_ne_zero,if_false,Array.getElem?_modify];rw[if_neg fun e=>hH e.symm]
       have hT:w2.heap.size=w.heap.size:=by rw[<-hz];simp[World.freeze]
       have hg:∀n,room w (φ id) n->room w2 (φ id) n:=fun n ⟨c',HO,ve,hW,q1,q2,q3⟩=>by rw[r1] at q1;injection q1 with q1;injection q1 with q4 q5 q6;subst q4 q5;exact⟨c,el,c.size,hA,hk,q2,.inr (.inr q2)⟩
       have hv:kg w2 (φ id) ec:=fun j hj=>by have:=b6 j hj;unfold World.cell? at this ⊢;simp only[r1] at this;simp only[hk];exact this
       have hU:w.shape? (bare (φ id)).block=some (el,c.size):=by have:w.heap[(bare (φ id)).block]?=some (.cells c el (lo,hi)):=r1;rw[World.shape?,this]
       have hu:(convert s s (.slice (some (bare (φ id))) b.l.length cap)).run C.P w=.ok (.slice (some (bare (φ id))) b.l.length cap) w2:=by rw[<-hz];simp[convert,run_underlying hs,run_underlying he,markStringish,hU,freeze];rfl
       refine⟨_,w2,φ,hu,Comes.write hm _ (fun _=>hJ) hT (fun b' hH=>hG b' fun e=>hH ⟨hJ,e.symm⟩) ?_ (fun a1 a2 a3=>?_) (fun _ _=>⟨c,el,(c.size,hA),hk,hR,.inr (Nat.le_refl _)⟩) (fun hV=>?_) (by rw[<-hz];exact⟨rfl,rfl⟩)⟩
       ·rw[ho];exact .inr ⟨rfl,rfl,rfl,rfl,rfl,fun _=>⟨rfl,fun _ _ n hr=>hg n hr⟩⟩
       ·exact⟨b1,b2,fun _=>.inl ⟨b4,ec,nh (gX a1 a2 _) b5,hv,hg _ b7,fun _=>hg _ (b8 rfl),by simp⟩⟩
       ·unfold aq;rw[hV];exact⟨Nat.le_refl _,fun _=>.inr ⟨hn,cap,rfl,k1,k2,fun h1 h2=>hg _ (k3 h1 h2)⟩⟩
     ·cases h
    ·cases h
   ·cases h
  ·cases h
theorem z7b{e:Ty}{l:List Int}{m:List (den e)}(h:gJ (.arr 0 e) (.arr 0 (.int .u8)) l=some m):∃h:Ty.int .u8=e,m=h▸l:=by obtain⟨h1,h2⟩:=vk h;injection h1 with _ h1;subst h1;exact⟨rfl,h2⟩
theorem X9(hm:MRel C X φ o w){e:Ty}{y:V}{zy:Value}{m:List (den e)}(hy:aq φ o (ah X φ o w) w y zy)(h:Mg lf o e y=some m):∃news,bc (aA (ah X φ o w) w e) m news/\m.length<=ch/\(∀w':World,(Builtin.lenOf zy).run P w'=.ok m.length w')/\(∀(w':World) k,w'.heap=w.heap->k<=m.length->(Builtin.firstCells (aJ e) k zy).run P w'=.ok (news.take (k*aJ e)).toArray w'):=by
 have cell:∀(w':World) (a:Addr),w'.heap=w.heap->w'.cell? a=w.cell? a:=fun w' a h=>by unfold World.cell?;rw[h]
 by_cases hs:∃l,y=.d .str l
 ·obtain⟨l,rfl⟩:=hs;obtain⟨h1,h2⟩:=z7b h;subst h1 h2;obtain⟨b,rfl,rfl,hb⟩:=nV hy;refine⟨_,X8 _,by simpa using hb,fun w'=>by simp[Builtin.lenOf],fun w' k _ hk=>?_⟩;have hk:k<=b.size:=by simpa using hk
  simp only[Builtin.firstCells,aJ,Nat.mul_one,Sem.run_pure];congr 1;apply Array.toList_inj.1;simp
 ·have h:∃s,mu lf o (.sl e) y=some s/\m=s.l:=by
   have:Mg lf o e y=(match mu lf o (.sl e) y with|some s=>some s.l|none=>none):=by
    cases y<;>try rfl
    rename_i t d;cases t<;>first|rfl|exact absurd ⟨_,rfl⟩ hs
   rw[this] at h;split at h
   ·rename_i s e1;injection h with h;exact⟨s,e1,h.symm⟩
   ·cases h
  obtain⟨s,h1,rfl⟩:=h;obtain⟨g1,g2⟩:=Xx hm.ay hy h1;rcases g2 with ⟨_,g3,rfl⟩|⟨_,a,cap,ec,rfl,g4,g5,g6,g7⟩
  ·refine⟨[],by rw[g3];rfl,g1,fun w'=>by simp[Builtin.lenOf,g3],fun w' k _ hk=>by simp[Builtin.firstCells]⟩
  ·refine⟨ec,g5,g1,fun w'=>by simp[Builtin.lenOf],fun w' k hw hk=>?_⟩;have hl:=nS g5;have hg:k*aJ e<=ec.length:=by rw[hl];exact Nat.mul_le_mul_right _ hk
   refine run_firstCells_some w' _ _ _ _ _ _ (by simp;omega) (fun j v hj=>?_);obtain⟨hc,he⟩:=zF.1 hj;have hf:j<ec.length:=by simp at hc;omega
   rw[cell _ _ hw,qO (g4 fun h0=>by
    have h4:s.l.length=0:=om
    rw[h4,Nat.zero_mul] at hl;omega)]
   have:=g6 j hf;rw[this,<-he];simp
end
theorem Jq(l ds:List Value)(k j:Nat)(hk:k<=l.length):(ov l k ds)[j]?=if j<k then l[j]? else if j<k+ds.length then ds[j-k]? else l[j]?:=by
 unfold ov;by_cases h1:j<k
 ·rw[if_pos h1,zo,zR (by simp;omega),List.getElem?_take,if_pos h1]
 ·rw[if_neg h1,zo,zG (by simp;omega)];have e:(l.take k).length=k:=by simp[Nat.min_eq_left hk]
  rw[e];by_cases h2:j<k+ds.length
  ·rw[if_pos h2,zR om]
  ·rw[if_neg h2,zG om,List.getElem?_drop];congr 1;omega
section
variable {P:Program} {C:Cx} {X:Nat→Prop} {φ φ':Nat→Addr} {o o':Nat→Obj} {w w':World} {imm imm':Nat→Prop}
theorem ir{a:Addr}{cs:List Value}:kg w a cs↔∀j v,cs[j]?=some v->w.cell? ⟨a.block,a.off+j,none⟩=some v:=by
 constructor
 ·intro h j v hj;obtain⟨h1,h2⟩:=zF.1 hj;rw[h j h1,h2]
 ·intro h j hj;exact h j _ (zg hj)
theorem M3{a:Addr}{ec ds:List Value}{k:Nat}{c:Array Value}{el:TypeId}{fz:Nat×Nat}(hh:w.heap[a.block]?=some (.cells c el fz))(h:kg w a ec)(hk:k<=ec.length)(hb:a.off+k+ds.length<=c.size):kg (w.setRow a.block (ov c.toList (a.off+k) ds).toArray) a (ov ec k ds):=by
 rw[ir] at h ⊢;intro j v hj;simp only[World.cell?,MT hh,Option.isSome_none,Bool.false_eq_true,if_false,List.getElem?_toArray];rw[Jq _ _ _ _ hk] at hj;rw[Jq _ _ _ _ (by simp;omega)];by_cases h1:j<k
 ·rw[if_pos h1] at hj;rw[if_pos om];have:=h j v hj;simpa[World.cell?,hh] using this
 ·rw[if_neg h1] at hj;rw[if_neg om];by_cases h2:j<k+ds.length
  ·rw[if_pos h2] at hj;rw[if_pos om,<-hj];congr 1;omega
  ·rw[if_neg h2] at hj;rw[if_neg om];have:=h j v hj;simpa[World.cell?,hh] using this
def ED(P:Program)(u:TypeId):Prop:=(∃e,P.underlying u=some (.slice e))\/P.underlying u=some .string
theorem qle{t u ty ei:TypeId}{ts:List TypeId}{i:TypeInfo}(ht:P.underlying t=some (.slice ei))(hu:ED P u)(hi:P.info? ei=some i){b off n cap m lo he:Nat}{zy:Value}{news:List Value}{cur:Array Value}{el:TypeId}(hn:(Builtin.lenOf zy).run P w=.ok m w)(hf:(Builtin.firstCells i.size m zy).run P w=.ok news.toArray w)(hg:w.heap[b]?=some (.cells cur el (lo,he)))(hc:n+m<=cap)(hj:off+n*i.size+news.length<=cur.size)(hm:he<=lo\/he<=off+n*i.size\/off+n*i.size+news.length<=lo)(h1:∀v∈news,v.oneCell'=true):(Builtin.append_ (t::u::ts).toArray ty #[.slice (some ⟨b,off,none⟩) n cap,zy]).run P w=.ok (.slice (some ⟨b,off,none⟩) (n+m) cap) (w.setRow b (ov cur.toList (off+n*i.size) news).toArray):=by
 have hl:=Jo (P:=P) (b:=b) (off:=off+n*i.size) news 0 cur w hg hj hm h1;simp only[Nat.add_zero] at hl;have hk:(⟨b,off,none⟩:Addr).add (n*i.size)=⟨b,off+n*i.size,none⟩:=qO rfl _;rcases hu with ⟨e,hu⟩|hu<;>
 simp[Builtin.append_,run_underlying ht,run_underlying hu,jz hi,hn,hc,hf,hk,hl]
theorem qh6{t u ty ei:TypeId}{ts:List TypeId}{i:TypeInfo}(ht:P.underlying t=some (.slice ei))(hu:ED P u)(hi:P.info? ei=some i){zy:Value}{cs:Array Value}(hn:(Builtin.lenOf zy).run P w=.ok 0 w)(hf:(Builtin.firstCells i.size 0 zy).run P w=.ok cs w):(Builtin.append_ (t::u::ts).toArray ty #[.slice none 0 0,zy]).run P w=.ok (.slice none 0 0) w:=by
 rcases hu with ⟨e,hu⟩|hu<;>
 simp[Builtin.append_,run_underlying ht,run_underlying hu,jz hi,hn,hf]
theorem qh7{t u ty ei:TypeId}{ts:List TypeId}{i:TypeInfo}(ht:P.underlying t=some (.slice ei))(hu:ED P u)(hi:P.info? ei=some i){base:Addr}{n cap:Nat}{zy:Value}(hn:(Builtin.lenOf zy).run P w=.ok 0 w)(hf:(Builtin.firstCells i.size 0 zy).run P w=.ok ([]:List Value).toArray w)(hc:n<=cap):(Builtin.append_ (t::u::ts).toArray ty #[.slice (some base) n cap,zy]).run P w=.ok (.slice (some base) n cap) w:=by
 rcases hu with ⟨e,hu⟩|hu<;>
 simp[Builtin.append_,run_underlying ht,run_underlying hu,jz hi,hn,hf,hc,storeCells]
theorem Ya{t u ty ei:TypeId}{ts:List TypeId}{i:TypeInfo}{z:Value}(ht:P.underlying t=some (.slice ei))(hu:ED P u)(hi:P.info? ei=some i)(hz:i.zero=some z){base:Option Addr}{n cap m:Nat}{zy:Value}{olds news:List Value}(hn:(Builtin.lenOf zy).run P w=.ok m w)(hf:(Builtin.firstCells i.size m zy).run P w.drew=.ok news.toArray w.drew)(hj:(Builtin.firstCells i.size n (.slice base n cap)).run P w.drew=.ok olds.toArray w.drew)(hg:cap<n+m)(hl:n+m<=2147483648)(hm:i.bytes<=65536):(Builtin.append_ (t::u::ts).toArray ty #[.slice base n cap,zy]).run P w=.ok (.slice (some ⟨w.heap.size,0,none⟩) (n+m) (grownCap w (n+m) cap ei)) (w.drew.alloc (.cells (olds.toArray++news.toArray++Builtin.zeroCells z.cells (grownCap w (n+m) cap ei-(n+m))) ei)):=by
 have hk:¬(n+m<=cap):=om
 have hc:¬(9223372036854775807<((n:Int)+(m:Int))):=om
 have ho:(n+m)*i.bytes<=140737488355328:=Nat.le_trans (Nat.mul_le_mul hl hm) om;have he:¬(281474976710656<Builtin.nextslicecap (n+m) cap*i.bytes):=by have:=growslice_fits hg ho;omega
 rcases hu with ⟨e,hu⟩|hu
 ·simp[Builtin.append_,run_underlying ht,run_underlying hu,jz hi,vZ hi hz,typeInfo,hi,hn,hk,hc,he,Question.forced,hf,hj,newRow,grownCap];congr 2;apply Array.ext';simp[List.append_assoc]
 ·simp[Builtin.append_,run_underlying ht,run_underlying hu,jz hi,vZ hi hz,typeInfo,hi,hn,hk,hc,he,Question.forced,hf,hj,newRow,grownCap];congr 2;apply Array.ext';simp[List.append_assoc]
end
section
variable {P:Program} {C:Cx} {X:Nat→Prop} {φ φ':Nat→Addr} {o o':Nat→Obj} {w w':World} {imm imm':Nat→Prop}
theorem Ao{a:Addr}{n off:Nat}{c:Array Value}{el:TypeId}{fz:Nat×Nat}{ds:List Value}(hh:w.heap[a.block]?=some (.cells c el fz))(hb:off+ds.length<=c.size)(h:room w a n):room (w.setRow a.block (ov c.toList off ds).toArray) a n:=by obtain⟨c',HO,lo,hi,h1,h2,h3⟩:=h;rw[hh] at h1;injection h1 with h1;injection h1 with h1 h4 h5;subst h1 h4 h5;refine⟨_,_,lo,hi,MT hh _,?_,h3⟩;have:=Qj c.toList off ds (by simpa using hb);simp at this ⊢;omega
theorem qqd{u:TypeId}(h:Pb C u=true):ED C.P u:=by
 unfold Pb at h;split at h
 ·rename_i e hd;exact .inl ⟨e,kN hd⟩
 ·rename_i hd;exact .inr (kN hd)
 ·cases h
theorem Qt(hC:cD C)(hm:MRel C X φ o w){t u ty ei:TypeId}{ts:List TypeId}{e:Ty}(he:C.ty ei=some e)(ht:C.P.underlying t=some (.slice ei))(hu:ED C.P u){tid v':Nat}{l m:List (den e)}{zx zy:Value}(ho:∀w' a' s,Up w w' (φ tid) a' (o tid) (.vec e v' false s)){news:List Value}(hr:bc (aA (ah X φ o w) w e) m news)(hf:∀w':World,(Builtin.lenOf zy).run C.P w'=.ok m.length w')(hq:∀(w':World) k,w'.heap=w.heap->k<=m.length->(Builtin.firstCells (aJ e) k zy).run C.P w'=.ok (news.take (k*aJ e)).toArray w')(hs:l.length+m.length<=2147483648){base:Option Addr}{n cap:Nat}{olds:List Value}(hn:n=l.length)(hg:cap<n+m.length)(hv:zx=.slice base n cap)(hk:bc (aA (ah X φ o w) w e) l olds)(hl:(Builtin.firstCells (aJ e) n zx).run C.P w.drew=.ok olds.toArray w.drew):dY C X φ o w (.bM tid v') [(tid,.vec e v' false ⟨false,l++m⟩)] (Builtin.append_ (t::u::ts).toArray ty #[zx,zy]):=by
 obtain⟨i,z,k1,_,k2,k3,k4,k5,k6⟩:=(hC.eM _ _ he).info;have hw:z.cells.size=aJ e:=by have:=gY (imm:=ah X φ o w) (w:=w) _ _ _ (k6 _ w);simpa using this
 have A9:=nS hr;have hx:(news.take (m.length*aJ e))=news:=by rw[<-A9,List.take_length]
 have hc:∀w':World,w'.heap=w.heap->(Builtin.firstCells i.size m.length zy).run C.P w'=.ok news.toArray w':=fun w' h=>by have:=hq w' m.length h (Nat.le_refl _);rw[hx,<-k2] at this;exact this
 subst hv;rw[<-k2] at hl;have hj:=Ya (ts:=ts) (ty:=ty) (w:=w) ht hu k1 k4 (hf w) (hc w.drew rfl) hl hg om k3;have hy:n+m.length<=grownCap w (n+m.length) cap ei:=Nat.le_add_right _ _;have ve:=nS hk;have:=(EC hm (fr:=tid) (ver:=v') (w':=w.drew.alloc (.cells (olds.toArray++news.toArray++Builtin.zeroCells z.cells (grownCap w (n+m.length) cap ei-(n+m.length))) ei)) (lo:=0) (hi:=0) (e:=e) (l:=l++m)
  (cap:=grownCap w (n+m.length) cap ei) (ec:=olds++news) (rest:=(Builtin.zeroCells z.cells (grownCap w (n+m.length) cap ei-(n+m.length))).toList)
  (c:=olds.toArray++news.toArray++Builtin.zeroCells z.cells (grownCap w (n+m.length) cap ei-(n+m.length))) rfl (fun w'=>ho w' _ _) (by simp) (Hw hk hr)
  (by
   simp only[Array.size_append,List.size_toArray,size_zeroCells,hw,ve,A9,<-hn];rw[<-Nat.add_mul,<-Nat.add_mul];congr 1;omega)
  (by rw[zd,<-hn];exact hy) (by rw[zd];unfold ch;omega) (.inl rfl) (MY hC he)).1
 rw[zd,<-hn] at this;exact⟨_,_,_,hj,this⟩
theorem Qu(hC:cD C)(hm:MRel C X φ o w){t u ty ei:TypeId}{ts:List TypeId}{e:Ty}(he:C.ty ei=some e)(ht:C.P.underlying t=some (.slice ei))(hu:ED C.P u){tid v':Nat}{nl:Bool}{l m:List (den e)}{zx zy:Value}(hF:∀w' a' s,Up w w' (φ tid) a' (o tid) (.vec e v' false s))(hx:(nl=true/\l=[]/\zx=.slice none 0 0)\/(nl=false/\∃n cap ver s,o tid=.vec e ver false s/\s.nil=false/\n=l.length/\n<=s.l.length/\l=s.l.take n/\zx=.slice (some (bare (φ tid))) n cap/\n<=cap/\((φ tid).spot.isSome=true->cap=0)/\((φ tid).spot=none->room w (φ tid) (cap*aJ e)))){news:List Value}(hr:bc (aA (ah X φ o w) w e) m news)(hv:∀w':World,(Builtin.lenOf zy).run C.P w'=.ok m.length w')(hO:∀(w':World) k,w'.heap=w.heap->k<=m.length->(Builtin.firstCells (aJ e) k zy).run C.P w'=.ok (news.take (k*aJ e)).toArray w')(hP:l.length+m.length<=2147483648):dY C X φ o w (.bM tid v') [(tid,.vec e v' false ⟨aF nl (cj m),l++m⟩)] (Builtin.append_ (t::u::ts).toArray ty #[zx,zy]):=by
 obtain⟨i,z,k1,_,k2,k3,k4,k5,k6⟩:=(hC.eM _ _ he).info;have hQ:z.cells.size=aJ e:=by have:=gY (imm:=ah X φ o w) (w:=w) _ _ _ (k6 _ w);simpa using this
 have A9:=nS hr;have hR:(news.take (m.length*aJ e))=news:=by rw[<-A9,List.take_length]
 have hq:∀w':World,w'.heap=w.heap->(Builtin.firstCells i.size m.length zy).run C.P w'=.ok news.toArray w':=fun w' h=>by have:=hO w' m.length h (Nat.le_refl _);rw[hR,<-k2] at this;exact this
 have grow:∀(base:Option Addr) (n cap:Nat) (olds:List Value),n=l.length->cap<n+m.length->zx=.slice base n cap->bc (aA (ah X φ o w) w e) l olds->
   (Builtin.firstCells i.size n zx).run C.P w.drew=.ok olds.toArray w.drew->aF nl (cj m)=false->
   dY C X φ o w (.bM tid v') [(tid,.vec e v' false ⟨aF nl (cj m),l++m⟩)] (Builtin.append_ (t::u::ts).toArray ty #[zx,zy]):=by
  intro base n cap olds hn hg hS hz hI hT;subst hS;have hf:=Ya (ts:=ts) (ty:=ty) (w:=w) ht hu k1 k4 (hv w) (hq w.drew rfl) hI hg om k3;have hU:n+m.length<=grownCap w (n+m.length) cap ei:=Nat.le_add_right _ _;have ve:=nS hz;have:=(EC hm (fr:=tid) (ver:=v') (w':=w.drew.alloc (.cells (olds.toArray++news.toArray++Builtin.zeroCells z.cells (grownCap w (n+m.length) cap ei-(n+m.length))) ei)) (lo:=0) (hi:=0) (e:=e) (l:=l++m)
   (cap:=grownCap w (n+m.length) cap ei) (ec:=olds++news) (rest:=(Builtin.zeroCells z.cells (grownCap w (n+m.length) cap ei-(n+m.length))).toList)
   (c:=olds.toArray++news.toArray++Builtin.zeroCells z.cells (grownCap w (n+m.length) cap ei-(n+m.length))) rfl (fun w'=>hF w' _ _) (by simp) (Hw hz hr)
   (by
    simp only[Array.size_append,List.size_toArray,size_zeroCells,hQ,ve,A9,<-hn];rw[<-Nat.add_mul,<-Nat.add_mul];congr 1;omega)
   (by rw[zd,<-hn];exact hU) (by rw[zd];unfold ch;omega) (.inl rfl) (MY hC he)).1
  rw[zd,<-hn] at this;rw[hT];exact⟨_,_,_,hf,this⟩
 rcases hx with ⟨rfl,rfl,rfl⟩|⟨rfl,n,cap,ver,s,ho,hJ,hn,hM,hl,rfl,hK,hV,hA⟩
 ·cases hw:m with
  |nil=>subst hw;have hf:=qh6 (ts:=ts) (ty:=ty) (w:=w) ht hu k1 (hv w) (hq w rfl);refine⟨_,w,φ,hf,?_⟩;refine Comes.write hm _ (by simp[aP,live,aF,cj]) rfl (fun _ _=>rfl) (hF w (φ tid) _) (fun _ _ _=>⟨by simp,fun _=>rfl,fun h=>by simp[aF,cj] at h⟩) (fun _ h=>by simp[aF,cj] at h) (fun hB=>?_);unfold aq;rw[hB];exact⟨Nat.le_refl _,fun _=>.inl ⟨rfl,rfl⟩⟩
  |cons y r=>rw[<-hw];exact grow none 0 0 [] rfl (by rw[hw];simp) rfl rfl (run_firstCells_none (P:=C.P) w.drew i.size 0 0 0) (by rw[hw];rfl)
 ·have hD:=hm.ay tid;rw[ho] at hD;obtain⟨g1,g2,g3⟩:=hD;rcases g3 hJ with ⟨g4,ec,g5,g6,g7,g8,_⟩|⟨g4,c1,c3⟩
  ·have hN:aP (φ tid) (o tid)=true:=by rw[ho];exact qM hJ g4
   have hW:=tP n hM g5;have hX:=nS g5;have hY:n*aJ e<=ec.length:=by rw[hX];exact Nat.mul_le_mul_right _ hM
   have hz:bc (aA (ah X φ o w) w e) l (ec.take (n*aJ e)):=by rw[hl];exact hW.1
   by_cases hc:n+m.length<=cap
   ·rw[z22 g4];obtain⟨c,el,lo,hi,r1,r2,r3⟩:=hA g4;have hZ:n*aJ e+m.length*aJ e<=cap*aJ e:=by rw[<-Nat.add_mul];exact Nat.mul_le_mul_right _ hc
    have hf:=qle (ts:=ts) (ty:=ty) (w:=w) (b:=(φ tid).block) (off:=(φ tid).off) (n:=n) (cap:=cap) (m:=m.length) ht hu k1 (hv w) (hq w rfl) r1 hc (by rw[k2,A9];omega) (by rw[k2,A9];omega) (MV hr);rw[k2] at hf;have h0:aF false (cj m)=false:=rfl;rw[h0];have hG:(l++m).length=n+m.length:=by rw[zd,<-hn]
    have hs:(φ tid).off+n*aJ e+news.length<=c.size:=by rw[A9];omega
    refine⟨_,_,φ,hf,?_⟩;have hL:∀k,k<=cap*aJ e->room (w.setRow (φ tid).block (ov c.toList ((φ tid).off+n*aJ e) news).toArray) (φ tid) k:=fun k hk=>Ao r1 hs ⟨c,el,lo,hi,r1,by omega,by omega⟩;refine Comes.write hm _ (fun _=>hN) (by simp) (fun b hb=>setRow_other w _ b _ (fun e=>hb ⟨hN,e.symm⟩)) (hF _ _ _) (fun h1 h2 h3=>?_) (MZ hm ho hJ (.ov r1 hs)) (fun hB=>?_)
    ·refine⟨by rw[hG];unfold ch;omega,by simp,fun _=>.inl ⟨g4,ec.take (n*aJ e)++news,nh (gX h1 h2 e) (Hw hz hr),?_,hL 0 (Nat.zero_le _),fun _=>hL _ ?_,by simp⟩⟩
     ·have:=M3 (k:=n*aJ e) (ds:=news) r1 (Jf (n*aJ e) g6) (by simp[hY]) hs;have e1:ov (ec.take (n*aJ e)) (n*aJ e) news=ec.take (n*aJ e)++news:=by unfold ov;rw[List.take_take,Nat.min_self,zC (by simp;omega),zt]
      rw[e1] at this;exact this
     ·rw[hG];exact Nat.mul_le_mul_right _ hc
    ·unfold aq;rw[hB];refine⟨Nat.le_refl _,fun _=>.inr ⟨rfl,cap,(by rw[hG,z22 g4]),(by rw[hG];exact hc),(fun h=>by rw[g4] at h;cases h),fun _ _=>hL _ (Nat.le_refl _)⟩⟩
   ·have hI:(Builtin.firstCells i.size n (.slice (some (bare (φ tid))) n cap)).run C.P w.drew=.ok (ec.take (n*aJ e)).toArray w.drew:=by refine run_firstCells_some w.drew i.size n (bare (φ tid)) n cap _ (by rw[k2];simp;omega) (fun j v hj=>?_);rw[qO (a:=bare (φ tid)) (PX g4)];exact ir.1 (Jf _ g6) j v hj
    exact grow (some (bare (φ tid))) n cap _ hn om rfl hz hI rfl
  ·have hy:cap=0:=hV (by cases h:(φ tid).spot with
    |none=>exact absurd h g4
    |some _=>rfl)
   have hH:n=0:=om
   have h5:l=[]:=zP om;subst h5;cases hw:m with
   |nil=>
    subst hw;have hE:news=[]:=zP (by rw[A9];simp);subst hE;have hf:=qh7 (ts:=ts) (ty:=ty) (w:=w) (base:=bare (φ tid)) (n:=n) (cap:=cap) ht hu k1 (hv w) (hq w rfl) hK;refine⟨_,w,φ,hf,?_⟩;refine Comes.write hm _ (fun h=>absurd (A4 h).2.2 g4) rfl (fun _ _=>rfl) (hF w (φ tid) _) (fun _ _ _=>⟨by simp,by simp,fun _=>.inr ⟨g4,rfl,c3⟩⟩) (fun h=>absurd h c3) (fun hB=>?_);unfold aq;rw[hB];refine⟨Nat.le_refl _,fun _=>.inr ⟨rfl,cap,?_,?_,fun _=>hy,fun _ h=>absurd h g4⟩⟩
    ·rw[hH];rfl
    ·simp
   |cons y r=>rw[<-hw];refine grow (some (bare (φ tid))) n cap [] (by simpa using hH) (by rw[hw,hH,hy];simp) rfl rfl ?_ rfl;refine run_firstCells_some w.drew i.size n (bare (φ tid)) n cap _ (by rw[hH];simp) (fun j v hj=>by simp at hj)
theorem Qv{id ver:Nat}{e:Ty}{nil:Bool}{l m:List (den e)}{v:V}{u:List (Nat×Obj)}(h:(IS lf id ver e nil l m).aE v u):l.length+m.length<=2147483648/\v=.bM id ver/\u=[(id,.vec e ver false ⟨aF nil (cj m),l++m⟩)]:=by unfold IS at h;rw[mj] at h;obtain⟨y,h1,h2⟩:=h;simp only[Prod.mk.injEq] at h2;obtain⟨rfl,rfl⟩:=h2;have:=Qr h1;have h3:(l.length:Int)+(m.length:Int)<=2147483648:=this;exact⟨by omega,rfl,rfl⟩
theorem qqe(hC:cD C)(hm:MRel C X φ o w){fr:Nat}{t u ty:TypeId}{ts:List TypeId}{x y:V}{zx zy:Value}{v:V}{u':List (Nat×Obj)}(hx:aq φ o (ah X φ o w) w x zx)(hy:aq φ o (ah X φ o w) w y zy)(h:(Pc lf C o fr t u x y).aE v u')(hf:kO fr o u'):dY C X φ o w v u' (Builtin.append_ (t::u::ts).toArray ty #[zx,zy]):=by
 unfold Pc at h;split at h
 ·cases h
 ·rename_i e he;obtain⟨ei,ht,_,he⟩:=Qh he;split at h
  ·cases h
  ·rename_i m hA;rw[dU,ze] at h;obtain⟨⟨h1,_⟩,h⟩:=h;have hu:=qqd h1;obtain⟨news,n1,n2,n3,n4⟩:=X9 hm hy hA;cases x<;>try exact False.elim h
   ·rename_i id ver;simp only at h;split at h
    ·rename_i e' aC s ho;split at h
     ·rename_i s' hs;rw[dU] at h;obtain⟨hv,h⟩:=h;obtain⟨h3,h4⟩:=vk hs;injection h3 with h3;subst h3 h4;obtain⟨g1,rfl,rfl⟩:=Qv h;have hc:=hm.ay id;unfold aq at hx;rw[ho] at hx hc;have hv:=zm hv;have hx:=hx.2 hv;refine Qu hC hm he ht hu (fun _ _ _=>by rw[ho];exact .inl om) ?_ n1 n3 n4 g1;rcases hx with ⟨k1,rfl⟩|⟨k1,cap,rfl,k2,k4,k3⟩
      ·exact .inl ⟨k1,hc.2.1 k1,rfl⟩
      ·exact .inr ⟨k1,s'.l.length,cap,_,s',ho,k1,rfl,Nat.le_refl _,(List.take_length).symm,rfl,k2,k4,k3 rfl⟩
     ·cases h
    ·cases h
   ·rename_i id ver n cp;simp only at h;split at h
    ·rename_i e' aC De s ho;split at h
     ·rename_i s' hs;rw[dU] at h;obtain⟨hv,h⟩:=h;obtain⟨h3,h4⟩:=vk hs;injection h3 with h3;subst h3 h4;split at h
      ·obtain⟨g1,rfl,rfl⟩:=Qv h;have hc:=hm.ay id;unfold aq at hx;rw[ho] at hx hc;have hv:=zm hv;obtain⟨hn,hx,_⟩:=hx.2 hv;refine Qu hC hm he ht hu (fun _ _ _=>by rw[ho];exact .inl om) ?_ n1 n3 n4 g1;rcases hx with ⟨k1,rfl⟩|⟨k1,cap,rfl,k2,k3⟩
       ·exact .inl ⟨k1,by simp[lf,aI,hc.2.1 k1],rfl⟩
       ·exact .inr ⟨k1,n,cap,_,s',ho,k1,by simp[lf,aI,Nat.min_eq_left hn],hn,rfl,rfl,k2,k3.1,k3.2 rfl⟩
      ·rw[mj] at h;obtain⟨y,h2,h3⟩:=h;simp only[Prod.mk.injEq] at h3;obtain⟨rfl,rfl⟩:=h3;obtain⟨_,hg,hl⟩:=Al h2;have hg:=Qr hg;have hl:az (cj m) none (some ())=some y:=hl;have hB:m≠[]:=fun h=>by rw[h] at hl;cases hl
       have hF:=List.length_pos_iff.2 hB;have hk:o fr=.none:=hf _ (zf ..) (Nat.le_refl _) (by show fr<fr+16;omega);have hc:=hm.ay id;unfold aq at hx;rw[ho] at hx hc;have hv:=zm hv;obtain⟨hn,hx,hq⟩:=hx.2 hv;have hq:=hq rfl;have e2:(lf.aI s'.l n).length=n:=by simp[lf,aI,Nat.min_eq_left hn]
       have hg:((lf.aI s'.l n).length:Int)+(m.length:Int)<=2147483648:=hg;rcases hx with ⟨k1,rfl⟩|⟨k1,cap,rfl,k2,k4,k3⟩
       ·have hD:=hc.2.1 k1;have hw:n=0:=by rw[hD] at hn;simpa using hn
        subst hw;have hz:lf.aI s'.l 0=[]:=by simp[lf,aI]
        exact Qt hC hm he ht hu (fun _ _ _=>by rw[hk];trivial) n1 n3 n4 (l:=lf.aI s'.l 0) om (base:=none) (n:=0) (cap:=0) (olds:=[]) e2.symm om rfl (by rw[hz];rfl) (run_firstCells_none (P:=C.P) w.drew _ 0 0 0)
       ·have hE:cap=n:=hq _ _ _ rfl;subst hE;rcases hc.2.2 k1 with ⟨g4,ec,g5,g6,_⟩|⟨_,g5,_⟩
        ·refine Qt hC hm he ht hu (fun _ _ _=>by rw[hk];trivial) n1 n3 n4 (l:=lf.aI s'.l cap) om (base:=some (bare (φ id))) (n:=cap) (cap:=cap) (olds:=ec.take (cap*aJ e')) e2.symm om rfl (tP cap hn g5).1 ?_;have hG:=nS g5;have hH:=Nat.mul_le_mul_right (aJ e') hn;refine run_firstCells_some w.drew (aJ e') cap (bare (φ id)) cap cap _ (by simp;omega) (fun j v hj=>?_);rw[qO (a:=bare (φ id)) (PX g4)];exact ir.1 (Jf _ g6) j v hj
        ·have hw:cap=0:=by rw[g5] at hn;simpa using hn
         have hz:lf.aI s'.l cap=[]:=by rw[g5];simp[lf,aI]
         refine Qt hC hm he ht hu (fun _ _ _=>by rw[hk];trivial) n1 n3 n4 (l:=lf.aI s'.l cap) om (base:=some (bare (φ id))) (n:=cap) (cap:=cap) (olds:=[]) e2.symm om rfl (by rw[hz];rfl) ?_;exact run_firstCells_some w.drew (aJ e') cap (bare (φ id)) cap cap _ (by rw[hw];simp) (fun j v hj=>by simp at hj)
      ·cases h
     ·cases h
    ·cases h
   ·obtain⟨g1,rfl,rfl⟩:=Qv h;have hk:o fr=.none:=hf _ (zf ..) (Nat.le_refl _) (by show fr<fr+16;omega);exact Qu hC hm he ht hu (fun _ _ _=>by rw[hk];trivial) (.inl ⟨rfl,rfl,hx⟩) n1 n3 n4 g1
end
theorem Yb(l ds:List Value)(b k n:Nat)(hk:k+ds.length<=n)(hn:b+n<=l.length):ov l b (ov ((l.drop b).take n) k ds)=ov l (b+k) ds:=by
 have hl:((l.drop b).take n).length=n:=by simp;omega
 apply List.ext_getElem?;intro j;rw[Jq l (ov ((l.drop b).take n) k ds) b j om,Qj _ _ _ om,hl,Jq l ds (b+k) j om];by_cases h1:j<b
 ·rw[if_pos h1,if_pos om]
 ·rw[if_neg h1];by_cases h2:j<b+n
  ·rw[if_pos h2,Jq ((l.drop b).take n) ds k (j-b) om];by_cases h3:j<b+k
   ·rw[if_pos h3,if_pos om,List.getElem?_take,if_pos om,List.getElem?_drop];congr 1;omega
   ·rw[if_neg h3,if_neg om];by_cases h4:j<b+k+ds.length
    ·rw[if_pos h4,if_pos om];congr 1;omega
    ·rw[if_neg h4,if_neg om,List.getElem?_take,if_pos om,List.getElem?_drop];congr 1;omega
  ·rw[if_neg h2,if_neg om,if_neg om]
theorem Yc(l ds:List Value)(h:l.length=ds.length):ov l 0 ds=ds:=by unfold ov;rw[List.take_zero,List.nil_append,zD,zC om,zt]
section
variable {P:Program} {C:Cx} {X:Nat→Prop} {φ φ':Nat→Addr} {o o':Nat→Obj} {w w':World} {imm imm':Nat→Prop}
def wa(C:Cx)(X:Nat->Prop)(φ:Nat->Addr)(o:Nat->Obj)(w:World)(v:V)(u:List (Nat×Obj))(s:Sem Unit):Prop:=∃w' φ',s.run C.P w=.ok () w'/\Comes C X φ φ' o u w w' v undef
theorem qx9:∀(p:Ty) (f:Nat) (x:den p) (g:(t:Ty)->den t->Option (den t)) {y:den p} {u:Ty},tF p f x g=some y->nQ p f=some u->∃(a b:den u),g u a=some b/\∀cs ds (imm:Nat->Prop) (w:World),aA imm w p x cs->(aA imm w u a ((cs.drop (fZ p f)).take (aJ u))->aA imm w u b ds)->fZ p f+aJ u<=cs.length/\aA imm w u a ((cs.drop (fZ p f)).take (aJ u))/\aA imm w p y (ov cs (fZ p f) ds):=by
 have base:∀(t:Ty) (x y:den t) (g:(t:Ty)->den t->Option (den t)),g t x=some y->
   ∃(a b:den t),g t a=some b/\∀cs ds (imm:Nat->Prop) (w:World),aA imm w t x cs->(aA imm w t a ((cs.drop 0).take (aJ t))->aA imm w t b ds)->0+aJ t<=cs.length/\aA imm w t a ((cs.drop 0).take (aJ t))/\aA imm w t y (ov cs 0 ds):=by
  intro t x y g h;refine⟨x,y,h,fun cs ds imm w hc hd=>?_⟩;have hl:=gY _ _ _ hc;have e:(cs.drop 0).take (aJ t)=cs:=by rw[List.drop_zero,<-hl,List.take_length]
  rw[e] at hd ⊢;have hd:=hd hc;have he:=gY _ _ _ hd;exact⟨by omega,hc,by rw[Yc _ _ om];exact hd⟩
 intro p
 induction p with
 |pair a b _ kh=>
  intro f x g y u h ht;cases f with
  |zero=>
   simp only[tF] at h;split at h
   ·rename_i y1 h1;injection h with h;subst h;have:=zI ht;subst this;refine⟨x.1,y1,h1,fun cs ds imm w ⟨c,d,e,h2,h3⟩ hd=>?_⟩;have hl:=gY _ _ _ h2;subst e;have e1:((c++d).drop 0).take (aJ a)=c:=by rw[List.drop_zero,<-hl,List.take_left'];rfl
    simp only[fZ] at hd ⊢;rw[e1] at hd ⊢;have hd:=hd h2;have he:=gY _ _ _ hd;refine⟨by simp;omega,h2,ds,d,?_,hd,h3⟩;unfold ov;rw[List.take_zero,List.nil_append,zD,he,<-hl,List.drop_left'];rfl
   ·cases h
  |succ n=>
   simp only[tF] at h;split at h
   ·rename_i y1 h1;injection h with h;subst h;obtain⟨a',b',g1,g2⟩:=kh n x.2 g h1 ht;refine⟨a',b',g1,fun cs ds imm w ⟨c,d,e,h2,h3⟩ hd=>?_⟩;have hl:=gY _ _ _ h2;subst e;simp only[fZ] at hd ⊢;rw[<-hl,List.drop_length_add_append] at hd ⊢;obtain⟨k1,k2,k3⟩:=g2 d ds imm w h3 hd;refine⟨by simp;omega,k2,c,ov d (fZ b n) ds,?_,h2,k3⟩;unfold ov;rw[List.take_length_add_append,Nat.add_assoc,List.drop_length_add_append];simp
   ·cases h
 |unit=>intro f x g y u h ht;cases f<;>cases ht
 |int k=>intro f x g y u h ht;cases f with|zero=>have:=zI ht;subst this;exact base _ _ _ _ h|succ n=>cases ht
 |bool=>intro f x g y u h ht;cases f with|zero=>have:=zI ht;subst this;exact base _ _ _ _ h|succ n=>cases ht
 |fc=>intro f x g y u h ht;cases f with|zero=>have:=zI ht;subst this;exact base _ _ _ _ h|succ n=>cases ht
 |dC=>intro f x g y u h ht;cases f with|zero=>have:=zI ht;subst this;exact base _ _ _ _ h|succ n=>cases ht
 |str=>intro f x g y u h ht;cases f with|zero=>have:=zI ht;subst this;exact base _ _ _ _ h|succ n=>cases ht
 |sl e=>intro f x g y u h ht;cases f with|zero=>have:=zI ht;subst this;exact base _ _ _ _ h|succ n=>cases ht
 |ks q _=>
  intro f x g y u h ht;cases f with
  |succ n=>cases ht
  |zero=>
   have:=zI ht;subst this;simp only[tF] at h;split at h
   ·rename_i b h1;injection h with h;subst h;obtain⟨a',b',g1,g2⟩:=base (.sl (mg q)) (AQ q x) b g h1;refine⟨a',b',g1,fun cs ds imm w hc hd=>?_⟩;obtain⟨k1,k2,k3⟩:=g2 cs ds imm w ((Hx q x cs).1 hc) hd;exact⟨k1,k2,(Hx q _ _).2 (by rw[PU];exact k3)⟩
   ·cases h
 |st q=>intro f x g y u h ht;cases f with|zero=>have:=zI ht;subst this;exact base _ _ _ _ h|succ n=>cases ht
 |arr m e=>intro f x g y u h ht;cases f with|zero=>have:=zI ht;subst this;exact base _ _ _ _ h|succ n=>cases ht
theorem Yd:∀(path:List Nat) (t:Ty) (x:den t) (g:(t:Ty)->den t->Option (den t)) {y:den t} {u:Ty},D8 path t x g=some y->Ab path t=some u->∃(a b:den u),g u a=some b/\∀cs ds (imm:Nat->Prop) (w:World),aA imm w t x cs->aA imm w u b ds->jy path t+aJ u<=cs.length/\aA imm w t y (ov cs (jy path t) ds)
 |[],t,x,g,y,u,h,ht=>by have:=zI ht;subst this;refine⟨x,y,h,fun cs ds imm w hc hd=>?_⟩;have hl:=gY _ _ _ hc;have he:=gY _ _ _ hd;exact⟨by simp[jy];omega,by rw[show jy [] t=0 from rfl,Yc _ _ om];exact hd⟩
 |f::r,t,x,g,y,u,h,ht=>by
  cases t<;>simp only[Ab] at ht<;>try (cases ht;done)
  rename_i p;split at ht
  ·rename_i u1 h1;obtain⟨a,b,g1,g2⟩:=qx9 p f x _ h h1;obtain⟨a',b',g3,g4⟩:=Yd r u1 a g g1 ht;refine⟨a',b',g3,fun cs ds imm w hc hd=>?_⟩;have hl:aA imm w u1 a ((cs.drop (fZ p f)).take (aJ u1))->jy r u1+aJ u<=aJ u1/\aA imm w u1 b (ov ((cs.drop (fZ p f)).take (aJ u1)) (jy r u1) ds):=fun ha=>by obtain⟨k1,k2⟩:=g4 _ ds imm w ha hd;rw[gY _ _ _ ha] at k1;exact⟨k1,k2⟩
   obtain⟨k1,k2,k3⟩:=g2 cs (ov ((cs.drop (fZ p f)).take (aJ u1)) (jy r u1) ds) imm w hc (fun ha=>(hl ha).2);obtain⟨k4,_⟩:=hl k2;have hf:=gY _ _ _ hd;rw[Yb _ _ _ _ _ om k1] at k3;simp only[jy,Qg h1];exact⟨by omega,k3⟩
  ·cases ht
theorem Qw{id:Nat}:∀{l:List Nat},AX id l=true->id∉l
 |[],_=>by simp
 |b::r,h=>by
  simp only[AX] at h;cases hb:Nat.beq b id with
  |true=>rw[hb] at h;cases h
  |false=>
   rw[hb] at h;have:=Qw h;intro hm;rcases zw.1 hm with rfl|hm
   ·rw[Nat.beq_refl] at hb;cases hb
   ·exact this hm
theorem Ye{t:TypeId}{i:TypeInfo}(hi:P.info? t=some i){a:Addr}(hs:a.spot=none){z:Value}(hz:z.cells.size=i.size){c:Array Value}{el:TypeId}{lo hc:Nat}(hh:w.heap[a.block]?=some (.cells c el (lo,hc)))(hb:a.off+z.cells.size<=c.size)(hf:hc<=lo\/hc<=a.off\/a.off+z.cells.size<=lo)(h1:∀v∈z.cells.toList,v.oneCell'=true):(Instr.storeAt t (.pointer (some a)) z).run P w=.ok () (w.setRow a.block (ov c.toList a.off z.cells.toList).toArray):=by
 have he:=Jo (P:=P) (b:=a.block) (off:=a.off) z.cells.toList 0 c w hh (by simpa using hb) (by simpa using hf) h1;simp only[Nat.add_zero] at he;have ha:a=⟨a.block,a.off,none⟩:=by rw[<-hs]
 rw[<-ha] at he;simp[Instr.storeAt,Instr.sureAddr,storeVar,jz hi,hz,he]
theorem quw(hC:cD C)(hm:MRel C X φ o w){t:TypeId}{x y:V}{zx zy:Value}{v:V}{u:List (Nat×Obj)}(hx:aq φ o (ah X φ o w) w x zx)(hy:aq φ o (ah X φ o w) w y zy)(h:(O5 lf C o t x y).aE v u):wa C X φ o w v u (Instr.storeAt t zx zy):=by
 unfold O5 at h;split at h
 ·rename_i id off;split at h
  ·rename_i cs ho;split at h
   ·rename_i vs hB;split at h
    ·rename_i b n hk;rw[dU,dR,ze,ze] at h;obtain⟨⟨⟨h1,h2⟩,hv⟩,rfl,rfl⟩:=h;have hv:nP vs=false:=by simpa using hv
     have h1:=zm h1;have h2:=zB h2;obtain⟨i,d,g1,g2,g3,g4⟩:=Dk hk;obtain⟨k1,k2⟩:=Ql hy hB;have hc:=hm.ay id;unfold aq at hx;rw[ho] at hx hc;simp only at hx;subst hx;obtain⟨h0,c,el,lo,hi,r1,r2,r3⟩:=hc;have l1:=Dl k1;have l2:=Dl r3;simp only[Array.length_toList] at l1 l2;have hq:aP (φ id) (o id)=true:=by rw[ho];rfl
     have hj:=Ye (P:=C.P) (w:=w) g1 (a:=⟨(φ id).block,(φ id).off+off,none⟩) rfl (z:=zy) om r1 (by simp only;omega) (.inl r2) k2;refine⟨_,φ,hj,?_⟩;refine Comes.write hm _ (fun _=>hq) (by simp) (fun b hb=>setRow_other w _ b _ (fun e=>hb ⟨hq,e.symm⟩)) (by rw[ho];exact rfl) (fun a1 a2 a3=>?_) (z7a hm ho (fun h=>qqb h hv) (.ov r1 (by simp only[Array.length_toList];omega))) (fun _=>rfl);refine⟨h0,_,el,lo,hi,MT r1 _,r2,?_⟩;have:=Eu a3 _ _ (XZ off r3 k1);simpa[h0] using this
    ·cases h
   ·cases h
  ·cases h
 ·rename_i id ver i path;split at h
  ·rename_i e aC s ho;split at h
   ·rename_i t' ht;rw[dU,mj,ze,ze] at h;obtain⟨⟨⟨h1,h2⟩,h3⟩,y',h4,h5⟩:=h;simp only[Prod.mk.injEq] at h5;obtain⟨rfl,rfl⟩:=h5;obtain⟨x0,h6,h7⟩:=Al h4;have h6:s.l[i]?=some x0:=h6;obtain⟨a,b,g1,g2⟩:=Yd path e x0 _ h7 ht;have hf:=Je hm (fj o y);have hD:id∉fj o y:=Qw h3;have hs:ak o (eu o (fj o y)) id=.vec e aC false s:=by
     rcases Dj (o:=o) (fj o y) id with ⟨k1,_⟩|⟨t1,v1,f1,s1,k1,k2⟩
     ·rw[k1,ho]
     ·have:id∈bW (eu o (fj o y)):=by
       by_cases hk:id∈bW (eu o (fj o y))
       ·exact hk
       ·rw[iq hk,ho] at k2;cases k2
      exfalso;have key:∀ks:List Nat,id∈bW (eu o ks)->id∈ks:=by
       intro ks
       induction ks with
       |nil=>intro h;cases h
       |cons q r ih=>
        intro h;simp only[eu] at h;split at h
        ·rcases zw.1 h with h|h
         ·exact h▸zf ..
         ·exact zh _ (ih h)
        ·exact zh _ (ih h)
      exact hD (key _ this)
    have hE:=hf.keeps _ _ hy;have hw:=hf.keeps _ _ hx;have hF:sZ (ak o (eu o (fj o y))) y:=MJ (fun _ h=>h);rw[<-XA (fj o y)] at g1;have hd:=Qc hf.mem hE hF g1;have hT:=hC.eM _ _ (bY h2);have hz:=XF hT hd;obtain⟨ii,zz,m1,_,m2,_⟩:=hT.info;have hc:=hf.mem.ay id;unfold aq at hw;rw[hs] at hw hc;obtain⟨hi,rfl⟩:=hw.2 (zm h1);obtain⟨b1,b2,b3⟩:=hc;have hn:s.nil=false:=by
     cases hn:s.nil with
     |false=>rfl
     |true=>rw[b2 hn] at hi;simp at hi
    obtain⟨b4,ec,b5,b6,b7,b8,_⟩:=(b3 hn).resolve_right fun g=>by rw[g.2.1] at hi;simp at hi
    have hq:aP (φ id) (ak o (eu o (fj o y)) id)=true:=by rw[hs];exact qM hn b4
    obtain⟨hu,hG⟩:=zF.1 h6;have hl:=I2 b5 i hu;rw[hG] at hl;have hH:=nS b5;have hI:(i+1)*aJ e<=s.l.length*aJ e:=Nat.mul_le_mul_right _ hu;rw[Nat.succ_mul] at hI;have he:=gY _ _ _ hl;obtain⟨p1,p2⟩:=g2 _ zy.cells.toList _ w hl hz;rw[he] at p1;have hJ:=gY _ _ _ hz;simp only[Array.length_toList] at hJ;obtain⟨c,el,lo,hK,r1,r2,r3⟩:=b8 rfl;have hj:=Ye (P:=C.P) (w:=w) m1 (a:=⟨(φ id).block,(φ id).off+i*aJ e+jy path e,none⟩) rfl (z:=zy) om r1 (by simp only;omega) (by simp only;omega) (EB _ _ _ hz);refine⟨_,φ,hj,hf.trans ?_⟩;have hg:(φ id).off+(i*aJ e+jy path e)+zy.cells.toList.length<=c.size:=by simp;omega
    refine Comes.write hf.mem _ (fun _=>hq) (by simp) (fun b hb=>setRow_other w _ b _ (fun e=>hb ⟨hq,e.symm⟩)) ?_ (fun a1 a2 a3=>?_) (MZ hf.mem hs hn (.ov r1 (by simp only[Array.length_toList];omega))) (fun _=>rfl)
    ·rw[hs];refine .inr ⟨rfl,rfl,rfl,by simp[lf,ia],rfl,fun _=>⟨rfl,fun _ _ n hr=>?_⟩⟩;have:=Ao (off:=(φ id).off+(i*aJ e+jy path e)) (ds:=zy.cells.toList) r1 hg hr;simpa[Nat.add_assoc] using this
    ·have hA:bc (aA (ah X φ (ak o (eu o (fj o y))) w) w e) (s.l.set i y') (ov ec (i*aJ e+jy path e) zy.cells.toList):=by have:=MU (i:=i) (m:=[y']) (by show i+1<=s.l.length;exact hu) b5 ⟨_,[],(zt _).symm,p2,rfl⟩;rw[Yb _ _ _ _ _ (by simp;omega) om] at this;rw[List.set_eq_take_append_cons_drop,if_pos hu];simpa using this
     refine⟨by simpa[lf,ia] using b1,fun h=>(by rw[hn] at h;cases h),fun _=>.inl ⟨b4,_,nh (gX a1 a2 e) hA,?_,?_,fun _=>?_,by simp⟩⟩
     ·have:=M3 (k:=i*aJ e+jy path e) (ds:=zy.cells.toList) r1 b6 om hg;simpa[Nat.add_assoc] using this
     ·have:=Ao (off:=(φ id).off+(i*aJ e+jy path e)) (ds:=zy.cells.toList) r1 hg b7;simpa[Nat.add_assoc] using this
     ·have:=Ao (off:=(φ id).off+(i*aJ e+jy path e)) (ds:=zy.cells.toList) r1 hg (b8 rfl);simpa[Nat.add_assoc,lf,ia] using this
   ·cases h
  ·cases h
 ·cases h
end
section
variable {P:Program} {C:Cx} {X:Nat→Prop} {φ φ':Nat→Addr} {o o':Nat→Obj} {w w':World} {imm imm':Nat→Prop}
theorem qxa(hC:cD C)(hm:MRel C X φ o w){t ty:TypeId}{ts:List TypeId}{x y:V}{zx zy:Value}{v:V}{u:List (Nat×Obj)}(hx:aq φ o (ah X φ o w) w x zx)(hy:aq φ o (ah X φ o w) w y zy)(h:(PA lf C o t x y).aE v u):dY C X φ o w v u (Builtin.copy_ (t::ts).toArray ty #[zx,zy]):=by
 unfold PA at h;split at h
 ·rename_i id ver;split at h
  ·rename_i e aC s ho;split at h
   ·rename_i m hF;rw[dU,dR,ze] at h;obtain⟨⟨h1,h2⟩,rfl,rfl⟩:=h;have h1:=zm h1;subst h1;obtain⟨ei,ht,_,he⟩:=Ak h2;obtain⟨i,z,k1,_,k2,k3,k4,k5,k6⟩:=(hC.eM _ _ he).info;obtain⟨news,n1,n2,n3,n4⟩:=X9 (P:=C.P) hm hy hF;have hk:=hm.ay id;unfold aq at hx;rw[ho] at hx hk;obtain⟨b1,b2,b3⟩:=hk;have oY:gH .i64 (lf.jF (lf.n s.l) (lf.n m)):=by simp only[lf,jF,ae];unfold ch at b1 n2;unfold gH IntKind.min IntKind.max;simp[IntKind.signed,IntKind.bits];split<;>omega
    have hj:(lf.jF (lf.n s.l) (lf.n m))=((Nat.min m.length s.l.length:Nat):Int):=by simp only[lf,jF,ae];have:Nat.min m.length s.l.length=min m.length s.l.length:=rfl;rw[this];split<;>omega
    have hc:(pv s.l m).length=s.l.length:=by unfold pv;simp;omega
    rcases hx.2 rfl with ⟨hn,rfl⟩|⟨hn,cap,rfl,c1,c4,c2⟩
    ·have hq:=b2 hn;have hl:=n4 w 0 rfl (Nat.zero_le _);rw[<-k2] at hl;have hf:(Builtin.copy_ (t::ts).toArray ty #[.slice none 0 0,zy]).run C.P w=.ok (goInt 0) w:=by simp[Builtin.copy_,run_underlying ht,n3 w,jz k1,hl]
     refine⟨_,w,φ,hf,Comes.write hm _ (by simp[aP,live,hn]) rfl (fun _ _=>rfl) (by rw[ho];exact .inr ⟨rfl,rfl,rfl,hc.symm,rfl,fun _=>⟨rfl,fun _ _ _ h=>h⟩⟩) (fun _ _ _=>⟨?_,fun _=>?_,fun h=>(by rw[hn] at h;cases h)⟩) (fun _ h=>(by have h:s.nil=false:=h;rw[hn] at h;cases h)) (fun _=>?_)⟩
     ·show(pv s.l m).length<=ch;omega
     ·exact zP (by show(pv s.l m).length=0;rw[hc,hq];rfl)
     ·rw[hj] at oY ⊢;rw[hq] at oY ⊢;have e0:((Nat.min m.length ([]:List (den e)).length:Nat):Int)=0:=by simp
      rw[e0] at oY ⊢;exact lA oY
    ·rcases b3 hn with ⟨b4,ec,b5,b6,b7,b8,_⟩|⟨b4,d1,d3⟩
     ·have hA:aP (φ id) (o id)=true:=by rw[ho];exact qM hn b4
      obtain⟨c,el,lo,hi,r1,r2,r3⟩:=b8 rfl;have hs:Nat.min m.length s.l.length<=m.length:=Nat.min_le_left _ _;have hG:Nat.min m.length s.l.length<=s.l.length:=Nat.min_le_right _ _;have hH:=Nat.mul_le_mul_right (aJ e) hG;have hB:=n4 w (Nat.min m.length s.l.length) rfl hs;rw[<-k2] at hB;have hK:=nS n1;have hI:=Nat.mul_le_mul_right (aJ e) hs;have hu:(news.take (Nat.min m.length s.l.length*i.size)).length=Nat.min m.length s.l.length*aJ e:=by rw[k2];simp only[zQ];omega
      have hv:=(tP (Nat.min m.length s.l.length) hs n1).1;rw[<-k2] at hv;have hw:=Jo (P:=C.P) (b:=(φ id).block) (off:=(φ id).off) (news.take (Nat.min m.length s.l.length*i.size)) 0 c w r1 (by rw[hu];omega) (by rw[hu];omega) (MV hv);simp only[Nat.add_zero] at hw;have dJ:(⟨(φ id).block,(φ id).off,none⟩:Addr)=bare (φ id):=(z22 b4).symm;rw[dJ] at hw;have hf:(Builtin.copy_ (t::ts).toArray ty #[.slice (some (bare (φ id))) s.l.length cap,zy]).run C.P w=.ok (goInt ((Nat.min m.length s.l.length:Nat):Int)) (w.setRow (φ id).block (ov c.toList (φ id).off (news.take (Nat.min m.length s.l.length*i.size))).toArray):=by simp[Builtin.copy_,run_underlying ht,n3 w,jz k1,hB,hw]
      have hg:(φ id).off+(news.take (Nat.min m.length s.l.length*i.size)).length<=c.size:=by rw[hu];omega
      have hz:pv s.l m=s.l.take 0++m.take (Nat.min m.length s.l.length)++s.l.drop (0+(m.take (Nat.min m.length s.l.length)).length):=by
       unfold pv;rw[List.take_zero,List.nil_append,zD,zQ,Nat.min_eq_left hs];by_cases hD:m.length<=s.l.length
       ·have:Nat.min m.length s.l.length=m.length:=Nat.min_eq_left hD;rw[this,List.take_length,zZ hD]
       ·have:Nat.min m.length s.l.length=s.l.length:=Nat.min_eq_right om;rw[this,zC (Nat.le_refl _),zC om]
      have hE:=MU (i:=0) (m:=m.take (Nat.min m.length s.l.length)) (by simp only[zD,zQ];omega) b5 hv;rw[<-hz,Nat.zero_mul] at hE;refine⟨_,_,φ,hf,Comes.write hm _ (fun _=>hA) (by simp) (fun b hb=>setRow_other w _ b _ (fun e=>hb ⟨hA,e.symm⟩)) ?_ (fun a1 a2 a3=>⟨?_,fun h=>(by rw[hn] at h;cases h),fun _=>.inl ⟨b4,_,nh (gX a1 a2 e) hE,?_,?_,fun _=>?_,by simp⟩⟩) (MZ hm ho hn (.ov r1 hg)) (fun _=>?_)⟩
      ·rw[ho];exact .inr ⟨rfl,rfl,rfl,hc.symm,rfl,fun _=>⟨rfl,fun _ _ n hr=>Ao r1 hg hr⟩⟩
      ·show(pv s.l m).length<=ch;omega
      ·have:=M3 (k:=0) (ds:=news.take (Nat.min m.length s.l.length*i.size)) r1 b6 (Nat.zero_le _) (by simpa using hg);simpa using this
      ·exact Ao r1 hg b7
      ·show room _ _ ((pv s.l m).length*aJ e);rw[hc];exact Ao r1 hg (b8 rfl)
      ·rw[hj] at oY ⊢;exact lA oY
     ·have hJ:Nat.min m.length s.l.length=0:=by rw[d1];exact Nat.min_zero _
      have hl:=n4 w 0 rfl (Nat.zero_le _);rw[<-k2] at hl;have hq:pv s.l m=[]:=zP (by rw[hc,d1];rfl);have hf:(Builtin.copy_ (t::ts).toArray ty #[.slice (some (bare (φ id))) s.l.length cap,zy]).run C.P w=.ok (goInt 0) w:=by rw[d1];simp[Builtin.copy_,run_underlying ht,n3 w,jz k1,hl,storeCells]
      refine⟨_,w,φ,hf,Comes.write hm _ (fun h=>absurd (A4 h).2.2 b4) rfl (fun _ _=>rfl) (by rw[ho];exact .inr ⟨rfl,rfl,rfl,hc.symm,rfl,fun _=>⟨rfl,fun _ _ _ h=>h⟩⟩) (fun _ _ _=>⟨?_,fun h=>(by rw[hn] at h;cases h),fun _=>.inr ⟨b4,hq,d3⟩⟩) (fun h=>absurd h d3) (fun _=>?_)⟩
      ·show(pv s.l m).length<=ch;omega
      ·rw[hj,hJ] at oY ⊢;exact lA oY
   ·cases h
  ·cases h
 ·cases h
theorem qxb{P:Program}{t ei:TypeId}{ts:List TypeId}{ty:TypeId}{i:TypeInfo}{z:Value}(ht:P.underlying t=some (.slice ei))(hi:P.info? ei=some i)(hz:i.zero=some z){a:Addr}{n cap:Nat}{w w':World}(hn:n≠0)(hc:(storeCells a (Builtin.zeroCells z.cells n).toList 0).run P w=.ok () w'):(Builtin.clear_ (t::ts).toArray ty #[.slice (some a) n cap]).run P w=.ok (.tuple #[]) w':=by
 have h0:∀m,n=m+1->(Builtin.clear_ (t::ts).toArray ty #[.slice (some a) n cap]).run P w=.ok (.tuple #[]) w':=by rintro m rfl;simp[Builtin.clear_,run_underlying ht,vZ hi hz,hc]
 exact h0 (n-1) om
theorem Yf{P:Program}{t ei:TypeId}{ts:List TypeId}{ty:TypeId}(ht:P.underlying t=some (.slice ei)){a:Option Addr}{cap:Nat}{w:World}:(Builtin.clear_ (t::ts).toArray ty #[.slice a 0 cap]).run P w=.ok (.tuple #[]) w:=by cases a<;>simp[Builtin.clear_,run_underlying ht]
theorem qxc{e:Ty}{imm:Nat->Prop}{w:World}{z:Value}(hz:aA imm w e (zero e) z.cells.toList)(n:Nat):bc (aA imm w e) (List.replicate n (zero e)) (Builtin.zeroCells z.cells n).toList:=by
 have h:(Builtin.zeroCells z.cells n).toList=(List.replicate n z.cells.toList).flatten:=by rw[<-Qp];simp[Builtin.zeroCells]
 rw[h];exact Qq hz n
theorem qux(hC:cD C)(hm:MRel C X φ o w){t ty:TypeId}{ts:List TypeId}{x:V}{zx:Value}{v:V}{u:List (Nat×Obj)}(hx:aq φ o (ah X φ o w) w x zx)(h:(PD lf C o t x).aE v u):dY C X φ o w v u (Builtin.clear_ (t::ts).toArray ty #[zx]):=by
 unfold PD at h;split at h
 ·rename_i id ver lo;split at h
  ·rename_i e aC s ho;rw[dU,dR,ze] at h;obtain⟨⟨h1,h2⟩,rfl,rfl⟩:=h;have h1:=zm h1;subst h1;obtain⟨ei,ht,_,he⟩:=Ak h2;obtain⟨i,z,k1,_,k2,k3,k4,k5,k6⟩:=(hC.eM _ _ he).info;have hl:=hm.ay id;unfold aq at hx;rw[ho] at hx hl;obtain⟨b1,b2,b3⟩:=hl;obtain⟨k,rfl,hk,hx⟩:=hx.2 rfl;have e1:lf.ib s.l (k:Int) (zero e)=s.l.take k++List.replicate (s.l.length-k) (zero e):=by simp[lf,ib]
   have hg:(lf.ib s.l (k:Int) (zero e)).length=s.l.length:=by rw[e1];simp;omega
   have same:s.l.length-k=0->lf.ib s.l (k:Int) (zero e)=s.l:=fun h=>by rw[e1,h,List.replicate_zero,zt,zZ om]
   have nothing:s.l.length-k=0->(Builtin.clear_ (t::ts).toArray ty #[zx]).run C.P w=.ok (.tuple #[]) w->dY C X φ o w (.jx []) [(id,.vec e ver false ⟨s.nil,lf.ib s.l (k:Int) (zero e)⟩)] (Builtin.clear_ (t::ts).toArray ty #[zx]):=by
    intro h0 hj;rw[same h0];refine⟨_,w,φ,hj,Comes.write hm _ (fun h=>by rw[ho];exact h) rfl (fun _ _=>rfl) (by rw[ho];exact .inr ⟨rfl,rfl,rfl,rfl,rfl,fun _=>⟨rfl,fun _ _ _ h=>h⟩⟩) (fun a1 a2 a3=>?_) ?_ (fun _=>⟨#[],rfl,rfl⟩)⟩
    ·exact Ew a1 a2 a3 rfl (fun _=>rfl) (show oV φ o (ah X φ o w) w id (.vec e ver false s) from⟨b1,b2,b3⟩)
    ·have:=hm.oW id;rw[ho] at this;exact this
   rcases hx with ⟨hn,rfl⟩|⟨hn,cap,rfl,hc⟩
   ·exact nothing (by rw[b2 hn];simp) (Yf ht)
   ·by_cases h0:s.l.length-k=0
    ·rw[h0];rw[h0] at nothing;exact nothing rfl (Yf ht)
    ·have hy:cap≠0:=om
     rw[if_neg hy];rcases b3 hn with ⟨b4,ec,b5,b6,b7,b8,_⟩|⟨_,b5,_⟩
     ·have hu:aP (φ id) (o id)=true:=by rw[ho];exact qM hn b4
      obtain⟨c,el,ve,hi,r1,r2,r3⟩:=b8 rfl;have hs:=qxc (k6 (ah X φ o w) w) (s.l.length-k);have hq:=nS hs;rw[List.length_replicate] at hq;have hA:=nS b5;have hz:k*aJ e+(s.l.length-k)*aJ e=s.l.length*aJ e:=by rw[<-Nat.add_mul];congr 1;omega
      have hv:=Jo (P:=C.P) (b:=(φ id).block) (off:=(φ id).off+k*aJ e) (Builtin.zeroCells z.cells (s.l.length-k)).toList 0 c w r1 (by rw[hq];omega) (by rw[hq];omega) (MV hs);simp only[Nat.add_zero] at hv;have hj:=qxb (ts:=ts) (ty:=ty) (cap:=cap) ht k1 k4 h0 hv;have hf:(φ id).off+k*aJ e+(Builtin.zeroCells z.cells (s.l.length-k)).toList.length<=c.size:=by rw[hq];omega
      refine⟨_,_,φ,hj,Comes.write hm _ (fun _=>hu) (by simp) (fun b hb=>setRow_other w _ b _ (fun e=>hb ⟨hu,e.symm⟩)) ?_ (fun a1 a2 a3=>⟨by rw[hg];exact b1,fun h=>(by rw[hn] at h;cases h),fun _=>.inl ⟨b4,ov ec (k*aJ e) (Builtin.zeroCells z.cells (s.l.length-k)).toList,?_,?_,?_,fun _=>?_,by simp⟩⟩) (MZ hm ho hn (.ov r1 hf)) (fun _=>⟨#[],rfl,rfl⟩)⟩
      ·rw[ho];exact .inr ⟨rfl,rfl,rfl,hg.symm,rfl,fun _=>⟨rfl,fun _ _ n hr=>Ao r1 hf hr⟩⟩
      ·have hw:=MU (i:=k) (m:=List.replicate (s.l.length-k) (zero e)) (by rw[List.length_replicate];omega) b5 hs;have e3:s.l.take k++List.replicate (s.l.length-k) (zero e)++s.l.drop (k+(List.replicate (s.l.length-k) (zero e)).length)=s.l.take k++List.replicate (s.l.length-k) (zero e):=by rw[List.length_replicate,zC om,zt]
       rw[e3,<-e1] at hw;exact nh (gX a1 a2 e) hw
      ·have:=M3 (k:=k*aJ e) (ds:=(Builtin.zeroCells z.cells (s.l.length-k)).toList) r1 b6 om hf;exact this
      ·exact Ao r1 hf b7
      ·rw[hg];exact Ao r1 hf (b8 rfl)
     ·exfalso;apply h0;rw[b5];simp
  ·cases h
 ·cases h
end
section
variable {P:Program} {C:Cx} {X:Nat→Prop} {φ φ':Nat→Addr} {o o':Nat→Obj} {w w':World} {imm imm':Nat→Prop}
structure kP (C:Cx):Prop where
 eq:∀(w:World) (imm:Nat->Prop) (t:TypeId) (p:Ty) (a b:den p) (xs ys:Array Value),bJ t C.eqs=true->C.ty t=some (.st p)->aA imm w p a xs.toList->aA imm w p b ys.toList->
   (Op.equal t (.agg xs) (.agg ys)).run C.P w=.ok (fR lf p a b) w
 guard:∀t,bJ t C.eqs=true->C.P.eqGuardType C.P.depth t=false
def Yg(C:Cx)(f:Field):Bool:=(f.name != "_")&&(match C.ty f.type with
 |some (.int _)=>true
 |some .bool=>true
 |some .str=>true
 |some (.st _)=>bJ f.type C.eqs
 |_=>false)
def M4(C:Cx):List Field->Bool
 |[]=>true
 |f::r=>Yg C f&&M4 C r
def lH:Ty->Nat
 |.st p=>lH p+1
 |.pair a b=>lH a+lH b
 |_=>0
def Jr(C:Cx)(t:TypeId):Bool:=!(C.P.stoodInHeld t)&&!(C.P.eqGuardType C.P.depth t)&&(match desc C.P t with
 |some (.struct fs)=>M4 C fs.toList
 |_=>false)&&(match C.ty t with
 |some T=>Nat.ble (lH T) 1000
 |none=>false)
def EE(C:Cx):List Nat->Bool
 |[]=>true
 |t::r=>Jr C t&&EE C r
theorem M5:∀{l:List Nat},EE C l=true->∀{t},bJ t l=true->Jr C t=true
 |[],_,t,h=>by cases h
 |b::r,hc,t,h=>by
  simp only[EE,ze] at hc;simp only[bJ] at h;cases hb:Nat.beq b t with
  |true=>have:=zm hb;subst this;exact hc.1
  |false=>rw[hb] at h;exact M5 hc.2 h
theorem quy(hC:cD C)(hq:EE C C.eqs=true):∀(n d:Nat) (t:TypeId) (T:Ty) (a b:den T) (za zb:Value),n<d->lH T<=n->C.ty t=some T->(match T with|.int _=>True|.bool=>True|.str=>True|.st _=>bJ t C.eqs=true|_=>False)->aT imm w T a za->aT imm w T b zb->(Op.equalIn d t za zb).run C.P w=.ok (fR lf T a b) w:=by
 intro n
 induction n with
 |zero=>
  intro d t T a b za zb hd hl ht hk ha hb;obtain⟨d,rfl⟩:∃k,d=k+1:=⟨d-1,by omega⟩;obtain⟨dd,_,hu,he⟩:=(hC.eM _ _ ht).desc;cases T<;>simp only at hk
  ·cases dd<;>simp only[mz] at he<;>try (cases he;done)
   have h1:aq (fun _=>⟨0,0,none⟩) (fun _=>Obj.none) imm w (.d _ a) za:=ha;have h2:aq (fun _=>⟨0,0,none⟩) (fun _=>Obj.none) imm w (.d _ b) zb:=hb;obtain⟨rfl,_⟩:=lG h1;obtain⟨rfl,_⟩:=lG h2;exact run_equalIn_int _ _ _ _ _ _ _ hu
  ·cases dd<;>first|(simp only[mz] at he;cases he;done)|skip
   have h1:aq (fun _=>⟨0,0,none⟩) (fun _=>Obj.none) imm w (.d _ a) za:=ha;have h2:aq (fun _=>⟨0,0,none⟩) (fun _=>Obj.none) imm w (.d _ b) zb:=hb;have e1:=oX h1;have e2:=oX h2;subst e1 e2;exact run_equalIn_bool' _ _ _ _ _ hu
  ·cases dd<;>first|(simp only[mz] at he;cases he;done)|skip
   have h1:aq (fun _=>⟨0,0,none⟩) (fun _=>Obj.none) imm w (.d _ a) za:=ha;have h2:aq (fun _=>⟨0,0,none⟩) (fun _=>Obj.none) imm w (.d _ b) zb:=hb;obtain⟨s,rfl,rfl,_⟩:=nV h1;obtain⟨s',rfl,rfl,_⟩:=nV h2;have:=P3 s s';unfold bl at this;show _=Result.ok (eU _ _) w;rw[this];exact run_equalIn_string _ _ _ _ _ hu
  ·simp[lH] at hl
 |succ n ih=>
  intro d t T a b za zb hd hl ht hk ha hb;by_cases hs:∃p,T=.st p
  ·obtain⟨p,rfl⟩:=hs;simp only at hk;obtain⟨d,rfl⟩:∃k,d=k+1:=⟨d-1,by omega⟩;have h1:=M5 hq hk;unfold Jr at h1;simp only[ze,Bool.not_eq_true'] at h1;obtain⟨⟨⟨h1,h2⟩,h3⟩,h4⟩:=h1;obtain⟨fs,g1,g2,g3⟩:=MM hC ht;rw[g1] at h3;simp only at h3;obtain⟨xs,rfl,hv⟩:=ha;obtain⟨ys,rfl,hw⟩:=hb;have hx:C.P.fieldsOf t=fs:=by unfold Program.fieldsOf;rw[g2]
   rw[run_equalIn_struct w d t xs ys (by rw[hx];exact g2) h1,hx];simp only[lH] at hl;have key:∀(fs:List Field) (p:Ty) (off:Nat) (a b:den p),lH p<=n->qN C fs p off=true->M4 C fs=true->aA imm w p a ((xs.toList.drop off).take (aJ p))->aA imm w p b ((ys.toList.drop off).take (aJ p))->
     (Op.eqFields d xs ys fs).run C.P w=.ok (fR lf p a b) w:=by
    intro fs
    induction fs with
    |nil=>
     intro p off a b _ h _ _ _;cases p<;>first|(simp only[qN] at h;cases h;done)|skip
     simp[Op.eqFields,fR]
    |cons f r ihf=>
     intro p off a b hn h hf ha hb;simp only[M4,ze] at hf;obtain⟨hc,hz⟩:=hf;unfold Yg at hc;rw[ze] at hc;obtain⟨hm,hc⟩:=hc;have hm:f.name≠ "_":=by simpa using hm
     have one:∀(q:Ty) (a b:den q),C.ty f.type=some q->lH q<=n->f.offset=off->aA imm w q a ((xs.toList.drop off).take (aJ q))->aA imm w q b ((ys.toList.drop off).take (aJ q))->
       ∃va vb,(part f.type xs f.offset).run C.P w=.ok va w/\(part f.type ys f.offset).run C.P w=.ok vb w/\(Op.equalIn d f.type va vb).run C.P w=.ok (fR lf q a b) w:=by
      intro q a b ho hA hg ha hb;obtain⟨va,v1,v2⟩:=ML (w:=w) (hC.eM _ _ ho) (cs:=xs) (off:=f.offset) (by rw[hg];exact ha);obtain⟨vb,v3,v4⟩:=ML (w:=w) (hC.eM _ _ ho) (cs:=ys) (off:=f.offset) (by rw[hg];exact hb);rw[ho] at hc;exact⟨va,vb,v1,v3,ih d f.type q a b va vb om hA ho (by cases q<;>first|trivial|exact hc|(simp at hc;done)) v2 v4⟩
     cases r with
     |nil=>
      by_cases hy:∃q,p=.ks q
      ·obtain⟨q,rfl⟩:=hy;have h:(C.is f.type (.sl (mg q))&&Nat.beq f.offset off)=true:=h;rw[ze] at h;rw[bY h.1] at hc;exact absurd hc (by simp)
      have h:(C.is f.type p&&Nat.beq f.offset off)=true:=by cases p<;>first|exact h|exact absurd ⟨_,rfl⟩ hy
      rw[ze] at h;obtain⟨va,vb,v1,v2,v3⟩:=one p a b (bY h.1) hn (zm h.2) ha hb;simp only[Op.eqFields,if_pos hm,Sem.run_bind,v1,v2,v3,Result.andThen_ok];cases fR lf p a b<;>simp
     |cons g r=>
      cases p<;>first|(simp only[qN] at h;cases h;done)|skip
      rename_i s t;simp only[qN,ze] at h;obtain⟨c1,c2,e1,a1,a2⟩:=ha;obtain⟨d1,d2,e2,b1,b2⟩:=hb;have cut:∀{l c1 c2:List Value},(l.drop off).take (aJ s+aJ t)=c1++c2->c1.length=aJ s->c2.length=aJ t->(l.drop off).take (aJ s)=c1/\(l.drop (off+aJ s)).take (aJ t)=c2:=by
       intro l c1 c2 e l1 l2;have f1:=congrArg (List.take (aJ s)) e;rw[List.take_take,Nat.min_eq_left om,<-l1,List.take_left'] at f1
       ·have f2:=congrArg (List.drop (aJ s)) e;rw[<-l1,List.drop_left',List.drop_take,List.drop_drop,l1,Nat.add_sub_cancel_left] at f2
        ·rw[l1] at f1;exact⟨f1,f2⟩
        ·rfl
       ·rfl
      simp only[aJ] at e1 e2;obtain⟨f1,f2⟩:=cut e1 (gY _ _ _ a1) (gY _ _ _ a2);obtain⟨f3,f4⟩:=cut e2 (gY _ _ _ b1) (gY _ _ _ b2);simp only[lH] at hn;obtain⟨va,vb,v1,v2,v3⟩:=one s a.1 b.1 (bY h.1.1) om (zm h.1.2) (by rw[f1];exact a1) (by rw[f3];exact b1);have hj:=ihf t (off+aJ s) a.2 b.2 om h.2 hz (by rw[f2];exact a2) (by rw[f4];exact b2);rw[Op.eqFields];simp only[if_pos hm,Sem.run_bind,v1,v2,v3,Result.andThen_ok];show _=Result.ok (aF (fR lf s a.1 b.1) (fR lf t a.2 b.2)) w;cases fR lf s a.1 b.1
      ·simp[aF]
      ·simp only[Bool.not_true,Bool.false_eq_true,if_false,hj,aF,Bool.true_and]
   have hB:=gY _ _ _ hv;have hD:=gY _ _ _ hw;exact key fs.toList p 0 a b om g3 h3 (by rw[List.drop_zero,<-hB,List.take_length];exact hv) (by rw[List.drop_zero,<-hD,List.take_length];exact hw)
  ·refine ih d t T a b za zb om ?_ ht hk ha hb;cases T<;>first|exact Nat.zero_le _|exact hk.elim|exact absurd ⟨_,rfl⟩ hs
theorem qxe{t:TypeId}{a b:Value}{r:Bool}(h:∀d,1000<d->(Op.equalIn d t a b).run P w=.ok r w):(Op.equal t a b).run P w=.ok r w:=by unfold Op.equal;exact h _ dc
theorem z7c(hC:cD C)(hq:EE C C.eqs=true):kP C where
 eq:=by intro w imm t p a b xs ys h1 h2 h3 h4;have h5:=M5 hq h1;unfold Jr at h5;simp only[ze,Bool.not_eq_true'] at h5;have h6:=h5.2;rw[h2] at h6;have h6:lH (.st p)<=1000:=zB h6;exact qxe fun d hd=>quy (imm:=imm) hC hq 1000 d t (.st p) a b _ _ hd h6 h2 h1 ⟨xs,rfl,h3⟩ ⟨ys,rfl,h4⟩
 guard:=by intro t h1;have h5:=M5 hq h1;unfold Jr at h5;simp only[ze,Bool.not_eq_true'] at h5;exact h5.1.1.2
end
section
variable {C:Cx} {X:Nat→Prop} {φ:Nat→Addr} {o:Nat→Obj} {w:World} {imm:Nat→Prop}
theorem Yh{t:TypeId}{tk tv:Ty}(h:IU C t=some (tk,tv)):∃k v,C.P.underlying t=some (.map k v)/\C.ty k=some tk/\C.ty v=some tv:=by
 unfold IU at h;split at h
 ·rename_i k v hd;split at h
  ·rename_i tk' tv' h1 h2;injection h with h;injection h with h3 h4;subst h3 h4;exact⟨k,v,kN hd,h1,h2⟩
  ·cases h
 ·cases h
theorem Qx{t:TypeId}{tk tv:Ty}(h:IV C t tk tv=true):∃k v,C.P.underlying t=some (.map k v)/\C.ty k=some tk/\C.ty v=some tv/\C7 tk=true:=by
 unfold IV at h;split at h
 ·rename_i k v hm;simp only[ze] at h;obtain⟨⟨h1,h2⟩,h3⟩:=h;have h1:=Ep h1;have h2:=Ep h2;injection h1 with h1;injection h2 with h2;subst h1 h2;obtain⟨a,b,g1,g2,g3⟩:=Yh hm;exact⟨a,b,g1,g2,g3,h3⟩
 ·cases h
def rh:TypeDesc->Ty->Bool
 |.int _,.int _=>true
 |.bool,.bool=>true
 |.string,.str=>true
 |_,_=>false
theorem M6(hC:cD C){k:TypeId}{tk:Ty}(h:C.ty k=some tk)(hk:C7 tk=true):∃d,C.P.underlying k=some d/\rh d tk=true:=by
 obtain⟨d,_,h1,h2⟩:=(hC.eM _ _ h).desc;refine⟨d,h1,?_⟩;cases tk<;>simp only[C7] at hk<;>try (cases hk;done)
 all_goals cases d<;>simp only[mz] at h2<;>first|rfl|(cases h2;done)
theorem Qy(s s':ByteArray):(s==s')=(s.data==s'.data):=rfl
theorem zcc{s s':ByteArray}(h:(s==s')=true):s=s':=by
 rw[Qy] at h;have:s.data=s'.data:=by simpa using h
 cases s;cases s';simp only at this;rw[this]
theorem z7d(s:ByteArray):(s==s)=true:=by rw[Qy];simp
theorem Yi{d:TypeDesc}{tk:Ty}(hd:rh d tk=true){a b:den tk}{za zb:Value}(ha:aT imm w tk a za)(hb:aT imm w tk b zb):Instr.sameNow d za zb=some (fR lf tk a b)/\(fR lf tk a b=true->Instr.sameBits 10000 zb za=true):=by
 cases tk<;>cases d<;>simp only[rh] at hd<;>try (cases hd;done)
 ·rename_i k k';have ha:aq (fun _=>⟨0,0,none⟩) (fun _=>Obj.none) imm w (.d (.int k) a) za:=ha;have hb:aq (fun _=>⟨0,0,none⟩) (fun _=>Obj.none) imm w (.d (.int k) b) zb:=hb;obtain⟨rfl,_⟩:=lG ha;obtain⟨rfl,_⟩:=lG hb;refine⟨?_,fun h=>?_⟩
  ·simp only[Instr.sameNow,if_pos];rfl
  ·have h:(a==b)=true:=h;have:a=b:=by simpa using h
   subst this;simp[Instr.sameBits]
 ·have ha:aq (fun _=>⟨0,0,none⟩) (fun _=>Obj.none) imm w (.d .bool a) za:=ha;have hb:aq (fun _=>⟨0,0,none⟩) (fun _=>Obj.none) imm w (.d .bool b) zb:=hb;have:=oX ha;subst this;have:=oX hb;subst this;refine⟨rfl,fun h=>?_⟩;have h:(a==b)=true:=h;have:a=b:=by simpa using h
  subst this;simp[Instr.sameBits]
 ·have ha:aq (fun _=>⟨0,0,none⟩) (fun _=>Obj.none) imm w (.d .str a) za:=ha;have hb:aq (fun _=>⟨0,0,none⟩) (fun _=>Obj.none) imm w (.d .str b) zb:=hb;obtain⟨s,rfl,rfl,_⟩:=nV ha;obtain⟨s',rfl,rfl,_⟩:=nV hb;have e:fR lf .str (s.data.toList.map fun b=>(b.toNat:Int)) (s'.data.toList.map fun b=>(b.toNat:Int))=(s==s'):=by show eU (bl s) (bl s')=_;rw[P3,Qy,ByteArray.toList_eq,ByteArray.toList_eq,Bool.eq_iff_iff];simp only[beq_iff_eq];exact⟨fun h=>Array.toList_inj.1 h,fun h=>by rw[h]⟩
  rw[e];refine⟨rfl,fun h=>?_⟩;have:=zcc h;subst this;simp[Instr.sameBits,z7d]
theorem find_spec{d:TypeDesc}{tk tv:Ty}(hd:rh d tk=true){k:den tk}{zk:Value}(hk:aT imm w tk k zk):∀(m:List (den tk×den tv)) (es:List MapEntry) (i:Nat),vi (aT imm w tk) (aT imm w tv) m es->(∃j zv e x,Instr.findNow d zk es i=some (some (i+j,zv))/\es[j]?=some e/\Instr.sameBits 10000 e.key zk=true/\j4 (fR lf tk) k m=some x/\aT imm w tv x zv/\∀y zy,aT imm w tv y zy->vi (aT imm w tk) (aT imm w tv) (j5 (fR lf tk) k y m) (es.modify j fun e=>{e with key:=zk,val:=zy}))\/(Instr.findNow d zk es i=some none/\j4 (fR lf tk) k m=none/\∀y zy born,aT imm w tv y zy->vi (aT imm w tk) (aT imm w tv) (j5 (fR lf tk) k y m) (es++[{key:=zk,val:=zy,born:=born}]))
 |[],es,i,h=>by have h:es=[]:=h;subst h;exact .inr ⟨rfl,rfl,fun y zy born hy=>⟨_,[],rfl,hk,hy,rfl⟩⟩
 |(k',v')::m,es,i,⟨e,r,he,h1,h2,h3⟩=>by
  subst he;obtain⟨g1,g2⟩:=Yi hd hk h1;cases hb:fR lf tk k k' with
  |true=>
   refine .inl ⟨0,e.val,e,v',?_,rfl,g2 hb,?_,h2,fun y zy hy=>?_⟩
   ·simp only[Instr.findNow,g1,hb];rfl
   ·simp only[j4,hb];rfl
   ·simp only[j5,hb,cond_true];exact⟨_,r,rfl,hk,hy,h3⟩
  |false=>
   have f1:Instr.findNow d zk (e::r) i=Instr.findNow d zk r (i+1):=by simp only[Instr.findNow,g1,hb]
   have f2:j4 (fR lf tk) k ((k',v')::m)=j4 (fR lf tk) k m:=by simp only[j4,hb];rfl
   have f3:∀y,j5 (fR lf tk) k y ((k',v')::m)=(k',v')::j5 (fR lf tk) k y m:=fun y=>by simp only[j5,hb];rfl
   rcases find_spec hd hk m r (i+1) h3 with ⟨j,zv,e',x,a1,a2,a3,a4,a5,a6⟩|⟨a1,a2,a3⟩
   ·refine .inl ⟨j+1,zv,e',x,?_,by simpa using a2,a3,by rw[f2];exact a4,a5,fun y zy hy=>?_⟩
    ·rw[f1,a1];simp only[Nat.add_assoc,Nat.add_comm 1 j]
    ·rw[f3,List.modify_succ_cons];exact⟨e,_,rfl,h1,h2,a6 y zy hy⟩
   ·refine .inr ⟨by rw[f1];exact a1,by rw[f2];exact a2,fun y zy born hy=>?_⟩;rw[f3];exact⟨e,_,rfl,h1,h2,a3 y zy born hy⟩
theorem EF{P:Program}{d:TypeDesc}{tk:Ty}(hd:rh d tk=true){t:TypeId}(ht:P.underlying t=some d)(b:Bool)(v:Value):(Instr.checkKey b 10000 t v).run P w=.ok () w:=by rw[show(10000:Nat)=9999+1 from rfl];generalize 9999=n;unfold Instr.checkKey;rw[Sem.run_bind,run_underlying ht w];simp only[Result.andThen_ok];cases d<;>cases tk<;>simp only[rh] at hd<;>first|(cases hd;done)|(cases v<;>rfl)
theorem EG{P:Program}{d:TypeDesc}{t:TypeId}(ht:P.underlying t=some d){zk:Value}{es:List MapEntry}{r:Option (Nat×Value)}(h:Instr.findNow d zk es 0=some r):(Instr.findKey t zk es).run P w=.ok r w:=by unfold Instr.findKey;rw[Sem.run_bind,run_underlying ht w];simp only[Result.andThen_ok,h];rfl
theorem Yj(hC:cD C){t:TypeId}{T:Ty}(h:C.ty t=some T):∃z,(zeroValue t).run C.P w=.ok z w/\aT imm w T (zero T) z:=by
 obtain⟨i,z,g1,_,g2,g3,g4,g5,g6⟩:=(hC.eM _ _ h).info;obtain⟨d,_,_,hd⟩:=(hC.eM _ _ h).desc;refine⟨z,vZ g1 g4,?_⟩;obtain⟨_,hk⟩:=Jh hd;cases ha:jH T with
 |true=>
  rw[ha] at g5;cases z<;>simp only[Es] at g5<;>try (cases g5;done)
  exact Qd ha (g6 imm w)
 |false=>
  rw[ha] at g5 hk;obtain⟨v,e,hv⟩:=MK hk (g6 imm w);have:z.cells=#[z]:=by cases z<;>first|rfl|(simp only[Es] at g5;cases g5;done)
  rw[this] at e;injection e with e _;rw[e];exact hv
theorem qqg(hm:MRel C X φ o w){t:Ty}{x:V}{d:den t}{z:Value}(hx:aq φ o (ah X φ o w) w x z)(hn:fj o x=[])(h:fT lf o t x=some d):aT (ah X φ o w) w t d z:=Qc hm hx (fun id hi=>by rw[hn] at hi;cases hi) h
theorem Qz{t:Ty}{x:V}{d:den t}(hk:C7 t=true)(h:fT lf o t x=some d):x=.d t d:=by
 have hx:mu lf o t x=some d:=by
  by_cases hc:∃cs,x=.agg cs
  ·obtain⟨cs,rfl⟩:=hc;cases t<;>simp only[C7] at hk<;>first|(cases hk;done)|(simp only[fT] at h;cases h)
  ·cases x<;>first|exact h|exact absurd ⟨_,rfl⟩ hc
 have hx:jk lf o t x=some d:=by
  rcases MI hx with hx|⟨p,ht,_⟩
  ·exact hx
  ·subst ht;cases hk
 rcases MH hx with rfl|⟨e',ht,_⟩|⟨e',ht,_⟩
 ·rfl
 ·subst ht;cases hk
 ·subst ht;cases hk
theorem QA(hm:MRel C X φ o w){id:Nat}{tk tv:Ty}{m:List (den tk×den tv)}(ho:o id=.map tk tv m):∃es clock,w.heap[(φ id).block]?=some (.map es clock)/\vi (aT (ah X φ o w) w tk) (aT (ah X φ o w) w tv) m es.toList:=by have:=hm.ay id;rw[ho] at this;exact this
theorem HP{P:Program}{b:Nat}{es:Array MapEntry}{clock:Nat}(h:w.heap[b]?=some (.map es clock)):(getObj b).run P w=.ok (.map es clock) w:=by simp[getObj,Sem.run,h]
theorem M7{P:Program}{b:Nat}{es:Array MapEntry}{clock:Nat}(x:Go.Obj)(h:w.heap[b]?=some (.map es clock)):(setObj b x).run P w=.ok () {w with heap:=w.heap.setIfInBounds b x}:=by simp[setObj,Sem.run,h]
theorem qqi(hC:cD C)(hm:MRel C X φ o w){t:TypeId}{x k:V}{zx zk:Value}{ok:Bool}{v:V}{u:List (Nat×Obj)}(hx:aq φ o (ah X φ o w) w x zx)(hk:aq φ o (ah X φ o w) w k zk)(h:(Pv lf C o t x k ok).aE v u):dY C X φ o w v u (Instr.lookup t zx zk ok):=by
 have fin:∀{tv:Ty} (b:Bool) (d:den tv) (z:Value),aT (ah X φ o w) w tv d z->(Instr.lookup t zx zk ok).run C.P w=.ok (if ok then .tuple #[z,.bool b] else z) w->
   dY C X φ o w (bif ok then .jx [.d tv d,.d .bool b] else .d tv d) [] (Instr.lookup t zx zk ok):=by
  intro tv b d z hz hr;refine⟨_,w,φ,hr,.same hm ?_⟩;cases ok with
  |false=>exact hz
  |true=>exact⟨#[z,.bool b],rfl,z,[.bool b],rfl,hz,.bool b,[],rfl,Ai,rfl⟩
 unfold Pv at h;split at h
 ·rename_i id;split at h
  ·rename_i tk tv m ho;split at h
   ·rename_i d hd;rw[dU,dR] at h;obtain⟨h1,rfl,rfl⟩:=h;obtain⟨kt,vt,hu,c1,c2,hf⟩:=Qx h1;have:=Qz hf hd;subst this;have hk:aT (ah X φ o w) w tk d zk:=hk;obtain⟨dd,hc,he⟩:=M6 hC c1 hf;obtain⟨es,clock,hb,hr⟩:=QA hm ho;unfold aq at hx;rw[ho] at hx;simp only at hx;subst hx;rcases find_spec he hk m es.toList 0 hr with ⟨j,zv,e,y,a1,a2,a3,a4,a5,a6⟩|⟨a1,a2,a3⟩
    ·have e1:lf.lC (fR lf tk) d m (zero tv)=y:=by show(j4 _ d m).getD _=y;rw[a4];rfl
     have e2:lf.tE (fR lf tk) d m=true:=by show(j4 _ d m).isSome=true;rw[a4];rfl
     rw[e1,e2];refine fin true y zv a5 ?_;simp[Instr.lookup,run_underlying hu,HP hb,EF he hc,EG hc a1]
    ·have e1:lf.lC (fR lf tk) d m (zero tv)=zero tv:=by show(j4 _ d m).getD _=_;rw[a2];rfl
     have e2:lf.tE (fR lf tk) d m=false:=by show(j4 _ d m).isSome=false;rw[a2];rfl
     rw[e1,e2];obtain⟨z,z1,z2⟩:=Yj (imm:=ah X φ o w) (w:=w) hC c2;refine fin false _ z z2 ?_;simp[Instr.lookup,run_underlying hu,HP hb,EF he hc,EG hc a1,z1]
   ·cases h
  ·cases h
 ·split at h
  ·rename_i tk tv hg;split at h
   ·rename_i d hd;rw[dU,dR] at h;obtain⟨hf,rfl,rfl⟩:=h;obtain⟨kt,vt,hu,c1,c2⟩:=Yh hg;obtain⟨dd,hc,he⟩:=M6 hC c1 hf;have:zx=.map none:=hx;subst this;obtain⟨z,z1,z2⟩:=Yj (imm:=ah X φ o w) (w:=w) hC c2;refine fin false _ z z2 ?_;have a1:Instr.findNow dd zk [] 0=some none:=rfl;simp[Instr.lookup,run_underlying hu,EF he hc,EG hc a1,z1]
   ·cases h
  ·cases h
 ·cases h
theorem qno(hm:MRel C X φ o w){fr:Nat}{t:TypeId}{v:V}{u:List (Nat×Obj)}(h:(Px C fr t).aE v u)(hf:kO fr o u):dY C X φ o w v u (Instr.makeMap t none):=by
 unfold Px at h;split at h
 ·rename_i tk tv he;rw[dU,dR] at h;obtain⟨_,rfl,rfl⟩:=h;have hc:o fr=.none:=hf _ (zf ..) (Nat.le_refl _) (by show fr<fr+16;omega);refine⟨.map (some w.heap.size),w.alloc (.map #[] 0),cu φ fr ⟨w.heap.size,0,none⟩,by simp[Instr.makeMap],?_⟩;refine Comes.fresh hm (B:=.map #[] 0) rfl (.map tk tv []) (ns:=[]) (fun p hp=>by cases hp) (fun _=>by rw[hc];trivial) (fun _ _ _=>?_) trivial (fun h3=>?_)
  ·refine⟨#[],0,?_,rfl⟩;rw[eH];show(w.heap.push (Go.Obj.map #[] 0))[w.heap.size]?=some (Go.Obj.map #[] 0);simp
  ·unfold aq;rw[h3,eH]
 ·cases h
theorem qj5(hC:cD C)(hm:MRel C X φ o w){t:TypeId}{x k y:V}{zx zk zy:Value}{v:V}{u:List (Nat×Obj)}(hx:aq φ o (ah X φ o w) w x zx)(hk:aq φ o (ah X φ o w) w k zk)(hy:aq φ o (ah X φ o w) w y zy)(h:(Pw lf C o t x k y).aE v u):wa C X φ o w v u (Instr.mapUpdate t zx zk zy):=by
 unfold Pw at h;split at h
 ·rename_i id;split at h
  ·rename_i tk tv m ho;split at h
   ·rename_i d d' hd hn;rw[dU,dR,ze] at h;obtain⟨⟨h1,h2⟩,rfl,rfl⟩:=h;obtain⟨kt,vt,hu,c1,c2,hl⟩:=Qx h1;have:=Qz hl hd;subst this;have hk:aT (ah X φ o w) w tk d zk:=hk;have hy:=qqg hm hy (by simpa using h2) hn;obtain⟨dd,hc,hf⟩:=M6 hC c1 hl;obtain⟨es,clock,hb,hr⟩:=QA hm ho;have hg:aP (φ id) (o id)=true:=by rw[ho];rfl
    unfold aq at hx;rw[ho] at hx;simp only at hx;subst hx;have hq:(φ id).block<w.heap.size:=(hm.sep id hg).1;have done:∀(Ba:Array MapEntry) (ri:Nat),vi (aT (ah X φ o w) w tk) (aT (ah X φ o w) w tv) (j5 (fR lf tk) d d' m) Ba.toList->
      (Instr.mapUpdate t (.map (some (φ id).block)) zk zy).run C.P w=.ok () {w with heap:=w.heap.setIfInBounds (φ id).block (.map Ba ri)}->
      wa C X φ o w .undef [(id,.map tk tv (lf.j5 (fR lf tk) d d' m))] (Instr.mapUpdate t (.map (some (φ id).block)) zk zy):=by
     intro Ba ri he hj;refine⟨_,φ,hj,Comes.write hm _ (fun _=>hg) (by simp) (fun b hb=>?_) (by rw[ho];exact rfl) (fun a1 a2 a3=>?_) trivial (fun _=>rfl)⟩
     ·show(w.heap.setIfInBounds _ _)[b]?=_;rw[Array.getElem?_setIfInBounds_ne (fun e=>hb ⟨hg,e⟩)]
     ·refine⟨Ba,ri,?_,?_⟩
      ·show(w.heap.setIfInBounds _ _)[_]?=_;rw[Array.getElem?_setIfInBounds_self_of_lt hq]
      ·exact Dh (rf a1 a2 _) (rf a1 a2 _) he
    rcases find_spec hf hk m es.toList 0 hr with ⟨j,zv,e,y',a1,a2,a3,a4,a5,a6⟩|⟨a1,a2,a3⟩
    ·refine done (es.modify j fun e=>{e with key:=zk,val:=zy}) clock (by rw[Array.toList_modify];exact a6 _ _ hy) ?_;have hs:es[j]?=some e:=by rw[<-zL];exact a2
     rw[zD] at a1;simp[Instr.mapUpdate,run_underlying hu,HP hb,M7 _ hb,EF hf hc,EG hc a1,Instr.keyThatStays,hs,a3]
    ·refine done (es.push {key:=zk,val:=zy,born:=clock}) (clock+1) (by rw[Array.toList_push];exact a3 _ _ clock hy) ?_;simp[Instr.mapUpdate,run_underlying hu,HP hb,M7 _ hb,EF hf hc,EG hc a1]
   ·cases h
  ·cases h
 ·cases h
theorem qnp{α:Type}(a:Array α)(j:Nat):(a.eraseIdxIfInBounds j).toList=a.toList.eraseIdx j:=by
 rw[Array.eraseIdxIfInBounds];split
 ·simp
 ·rw[List.eraseIdx_of_length_le (by simpa using ‹¬j<a.size›)]
theorem Yk{d:TypeDesc}{tk tv:Ty}(hd:rh d tk=true){k:den tk}{zk:Value}(hk:aT imm w tk k zk):∀(m:List (den tk×den tv)) (es:List MapEntry) (i:Nat),vi (aT imm w tk) (aT imm w tv) m es->(∃j zv,Instr.findNow d zk es i=some (some (i+j,zv))/\vi (aT imm w tk) (aT imm w tv) (j6 (fR lf tk) k m) (es.eraseIdx j))\/(Instr.findNow d zk es i=some none/\j6 (fR lf tk) k m=m)
 |[],es,i,h=>by have h:es=[]:=h;subst h;exact .inr ⟨rfl,rfl⟩
 |(k',v')::m,es,i,⟨e,r,he,h1,h2,h3⟩=>by
  subst he;obtain⟨g1,g2⟩:=Yi hd hk h1;cases hb:fR lf tk k k' with
  |true=>
   refine .inl ⟨0,e.val,?_,?_⟩
   ·simp only[Instr.findNow,g1,hb];rfl
   ·simp only[j6,hb,cond_true];exact h3
  |false=>
   have f1:Instr.findNow d zk (e::r) i=Instr.findNow d zk r (i+1):=by simp only[Instr.findNow,g1,hb]
   have f3:j6 (fR lf tk) k ((k',v')::m)=(k',v')::j6 (fR lf tk) k m:=by simp only[j6,hb];rfl
   rcases Yk hd hk m r (i+1) h3 with ⟨j,zv,a1,a2⟩|⟨a1,a2⟩
   ·refine .inl ⟨j+1,zv,?_,?_⟩
    ·rw[f1,a1];simp only[Nat.add_assoc,Nat.add_comm 1 j]
    ·rw[f3,List.eraseIdx_cons_succ];exact⟨e,_,rfl,h1,h2,a2⟩
   ·exact .inr ⟨by rw[f1];exact a1,by rw[f3,a2]⟩
theorem qqj(hC:cD C)(hm:MRel C X φ o w){t ty:TypeId}{ts:List TypeId}{x k:V}{zx zk:Value}{v:V}{u:List (Nat×Obj)}(hx:aq φ o (ah X φ o w) w x zx)(hk:aq φ o (ah X φ o w) w k zk)(h:(PB lf C o t x k).aE v u):dY C X φ o w v u (Builtin.delete_ (t::ts).toArray ty #[zx,zk]):=by
 unfold PB at h;split at h
 ·rename_i id;split at h
  ·rename_i tk tv m ho;split at h
   ·rename_i d hd;rw[dU,dR] at h;obtain⟨h1,rfl,rfl⟩:=h;obtain⟨kt,vt,hu,c1,c2,hl⟩:=Qx h1;have:=Qz hl hd;subst this;have hk:aT (ah X φ o w) w tk d zk:=hk;obtain⟨dd,hc,hf⟩:=M6 hC c1 hl;obtain⟨es,clock,hb,hr⟩:=QA hm ho;have hg:aP (φ id) (o id)=true:=by rw[ho];rfl
    unfold aq at hx;rw[ho] at hx;simp only at hx;subst hx;have hn:(φ id).block<w.heap.size:=(hm.sep id hg).1;have done:∀(Ba:Array MapEntry),vi (aT (ah X φ o w) w tk) (aT (ah X φ o w) w tv) (j6 (fR lf tk) d m) Ba.toList->
      (Builtin.delete_ (t::ts).toArray ty #[.map (some (φ id).block),zk]).run C.P w=.ok (.tuple #[]) {w with heap:=w.heap.setIfInBounds (φ id).block (.map Ba clock)}->
      dY C X φ o w (.jx []) [(id,.map tk tv (lf.j6 (fR lf tk) d m))] (Builtin.delete_ (t::ts).toArray ty #[.map (some (φ id).block),zk]):=by
     intro Ba he hj;refine⟨_,_,φ,hj,Comes.write hm _ (fun _=>hg) (by simp) (fun b hb=>?_) (by rw[ho];exact rfl) (fun a1 a2 a3=>?_) trivial (fun _=>⟨#[],rfl,rfl⟩)⟩
     ·show(w.heap.setIfInBounds _ _)[b]?=_;rw[Array.getElem?_setIfInBounds_ne (fun e=>hb ⟨hg,e⟩)]
     ·refine⟨Ba,clock,?_,?_⟩
      ·show(w.heap.setIfInBounds _ _)[_]?=_;rw[Array.getElem?_setIfInBounds_self_of_lt hn]
      ·exact Dh (rf a1 a2 _) (rf a1 a2 _) he
    rcases Yk hf hk m es.toList 0 hr with ⟨j,zv,a1,a2⟩|⟨a1,a2⟩
    ·rw[zD] at a1;refine done (es.eraseIdxIfInBounds j) (by rw[qnp];exact a2) ?_;simp[Builtin.delete_,run_underlying hu,HP hb,M7 _ hb,EF hf hc,EG hc a1]
    ·refine done es (by rw[a2];exact hr) ?_;simp[Builtin.delete_,run_underlying hu,HP hb,M7 _ hb,EF hf hc,EG hc a1]
   ·cases h
  ·cases h
 ·cases h
end
section
variable {C:Cx} {X:Nat→Prop} {φ:Nat→Addr} {o:Nat→Obj} {w:World} {imm:Nat→Prop}
theorem qxg(s:ByteArray):vc (s.data.toList.map fun b=>(b.toNat:Int))=s:=by
 obtain⟨⟨l⟩⟩:=s;show ByteArray.mk ((l.map fun b=>(b.toNat:Int)).map fun b=>UInt8.ofNat b.toNat).toArray=ByteArray.mk ⟨l⟩;rw[jb];congr 2
 induction l with
 |nil=>rfl
 |cons a l ih=>rw[zJ,ih];congr 1;show UInt8.ofNat ((a.toNat:Int)).toNat=a;rw[Int.toNat_natCast];exact UInt8.ofNat_toNat
theorem qxh{P:Program}{b n:Nat}{s:ByteArray}{ty:TypeId}(h:w.heap[b]?=some (.stringIter s n))(hn:n<s.size):(Instr.next (.pointer (some ⟨b,0,none⟩)) true ty).run P w=.ok (.tuple #[.bool true,.int .i64 n,.int .i32 (Utf8.decode s n).1]) {w with heap:=w.heap.setIfInBounds b (.stringIter s (n+(Utf8.decode s n).2))}:=by simp[Instr.next,getObj,setObj,Sem.run,h,hn,Result.andThen,goInt]
theorem qxi{P:Program}{b n:Nat}{s:ByteArray}{ty:TypeId}(h:w.heap[b]?=some (.stringIter s n))(hn:¬n<s.size):(Instr.next (.pointer (some ⟨b,0,none⟩)) true ty).run P w=.ok (.tuple #[.bool false]) w:=by simp[Instr.next,getObj,Sem.run,h,hn,Result.andThen]
theorem quz(hm:MRel C X φ o w){fr:Nat}{t:TypeId}{x:V}{zx:Value}{v:V}{u:List (Nat×Obj)}(hx:aq φ o (ah X φ o w) w x zx)(h:(PE C fr t x).aE v u)(hf:kO fr o u):dY C X φ o w v u (Instr.range t zx):=by
 unfold PE at h;split at h
 ·rename_i hd;split at h
  ·rename_i l;rw[dR] at h;obtain⟨rfl,rfl⟩:=h;obtain⟨s,rfl,hs,hl⟩:=nV hx;have hc:o fr=.none:=hf _ (zf ..) (Nat.le_refl _) (by show fr<fr+16;omega);refine⟨.pointer (some ⟨w.heap.size,0,none⟩),w.alloc (.stringIter s 0),cu φ fr ⟨w.heap.size,0,none⟩,run_range_string w t s (kN hd),?_⟩;refine Comes.fresh hm (B:=.stringIter s 0) rfl (.iter l 0) (ns:=[]) (fun p hp=>by cases hp) (fun _=>by rw[hc];trivial) (fun _ _ _=>?_) trivial (fun h3=>?_)
   ·refine⟨s,0,?_,hs,rfl,hl⟩;rw[eH];show(w.heap.push (Go.Obj.stringIter s 0))[w.heap.size]?=some (Go.Obj.stringIter s 0);simp
   ·unfold aq;rw[h3,eH]
  ·cases h
 ·cases h
theorem qxj(hm:MRel C X φ o w){ty:TypeId}{x:V}{zx:Value}{v:V}{u:List (Nat×Obj)}(hx:aq φ o (ah X φ o w) w x zx)(h:(PF lf o x).aE v u):dY C X φ o w v u (Instr.next zx true ty):=by
 unfold PF at h;split at h
 ·rename_i id;split at h
  ·rename_i l p ho;rw[dR] at h;obtain⟨rfl,rfl⟩:=h;have he:=hm.ay id;rw[ho] at he;obtain⟨s,n,hb,hs,rfl,hl⟩:=he;have hc:aP (φ id) (o id)=true:=by rw[ho];rfl
   have hg:(φ id).block<w.heap.size:=(hm.sep id hc).1;unfold aq at hx;rw[ho] at hx;simp only at hx;subst hx;have hj:l.length=s.size:=by rw[<-hs];simp
   have hf:vc l=s:=by rw[<-hs];exact qxg s
   by_cases hn:n<s.size
   ·have e1:lf.l (n:Int) (lf.n l)=true:=zu (by show(n:Int)<(l.length:Int);omega);have e2:lf.eV l (n:Int)=((n+(Utf8.decode s n).2:Nat):Int):=by show(if(n:Int)<(l.length:Int) then _ else _)=_;rw[if_pos om,hf,Int.toNat_natCast];rfl
    have e3:lf.dP l (n:Int)=((Utf8.decode s n).1:Int):=by show((Utf8.decode (vc l) (n:Int).toNat).1:Int)=_;rw[hf,Int.toNat_natCast]
    rw[e1,e2,e3];refine⟨_,_,φ,qxh hb hn,Comes.write hm _ (fun _=>hc) (by simp) (fun b hb=>?_) (by rw[ho];exact rfl) (fun a1 a2 a3=>?_) trivial (fun _=>?_)⟩
    ·show(w.heap.setIfInBounds _ _)[b]?=_;rw[Array.getElem?_setIfInBounds_ne (fun e=>hb ⟨hc,e⟩)]
    ·refine⟨s,_,?_,hs,rfl,hl⟩;show(w.heap.setIfInBounds _ _)[_]?=_;rw[Array.getElem?_setIfInBounds_self_of_lt hg]
    ·have hr:=decode_le s n;have h1:gH .i64 (n:Int):=by unfold ch at hl;show(-9223372036854775808:Int)<=_/\_<=(9223372036854775807:Int);omega
     have h2:gH .i32 ((Utf8.decode s n).1:Int):=by show(-2147483648:Int)<=_/\_<=(2147483647:Int);omega
     exact .inl ⟨rfl,rfl,h1,h2⟩
   ·have e1:lf.l (n:Int) (lf.n l)=false:=zn (by show ¬(n:Int)<(l.length:Int);omega);have e2:lf.eV l (n:Int)=(n:Int):=by show(if(n:Int)<(l.length:Int) then _ else _)=_;rw[if_neg om]
    rw[e1,e2];refine⟨_,w,φ,qxi hb hn,Comes.write hm _ (fun _=>hc) rfl (fun b _=>rfl) (by rw[ho];exact rfl) (fun a1 a2 a3=>?_) trivial (fun _=>?_)⟩
    ·exact⟨s,n,hb,hs,rfl,hl⟩
    ·exact .inr ⟨rfl,rfl⟩
  ·cases h
 ·cases h
theorem Yl{α:Type}{b:Bool}{x y:α}(h:(az b (some x) none:Option α)=some y):b=true/\x=y:=by
 cases b with
 |true=>exact⟨rfl,zI h⟩
 |false=>cases h
theorem z2h(hm:MRel C X φ o w){i:Nat}{x:V}{zx:Value}{v:V}{u:List (Nat×Obj)}(hx:aq φ o (ah X φ o w) w x zx)(h:(PG lf i x).aE v u):dY C X φ o w v u (Instr.extract zx i):=by
 unfold PG at h;split at h
 ·rename_i vs;obtain⟨c,rfl,hr⟩:=hx;split at h
  ·rename_i v' hv;rw[dR] at h;obtain⟨rfl,rfl⟩:=h;obtain⟨z,h1,h2⟩:=Ji hr hv;rw[zL] at h1;exact dY.aR hm ⟨rfl,z,by simp[Instr.extract,h1],h2⟩
  ·cases h
 ·rename_i b p c;split at h
  ·rw[dR] at h;obtain⟨rfl,rfl⟩:=h;refine dY.aR hm ⟨rfl,.bool b,?_,Ai⟩;rcases hx with ⟨rfl,rfl,_⟩|⟨rfl,rfl⟩<;>simp[Instr.extract]
  ·rw[Df] at h;obtain⟨y,h1,h2⟩:=h;obtain⟨rfl,rfl⟩:=Yl h1;injection h2 with h2 h3;subst h2 h3;rcases hx with ⟨_,rfl,h4,_⟩|⟨h4,_⟩
   ·exact dY.aR hm ⟨rfl,.int .i64 p,by simp[Instr.extract],lA h4⟩
   ·cases h4
  ·rw[Df] at h;obtain⟨y,h1,h2⟩:=h;obtain⟨rfl,rfl⟩:=Yl h1;injection h2 with h2 h3;subst h2 h3;rcases hx with ⟨_,rfl,_,h4⟩|⟨h4,_⟩
   ·exact dY.aR hm ⟨rfl,.int .i32 c,by simp[Instr.extract],lA h4⟩
   ·cases h4
  ·cases h
 ·cases h
end
end Ev