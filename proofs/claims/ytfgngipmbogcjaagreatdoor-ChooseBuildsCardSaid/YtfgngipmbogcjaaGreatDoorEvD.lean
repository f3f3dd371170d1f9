/- Operations are sound: building, making, appending, storing, copying, comparing. No statement of its own about the program. -/
import Derived.Test.YtfgngipmbogcjaaGreatDoorEvC
import Derived.Laws.RangeAny
namespace Ev
open Go
section
variable {P:Program} {C:Cx} {X:Nat→Prop} {φ φ':Nat→Addr} {o o':Nat→Obj} {w w':World} {imm imm':Nat→Prop}
def AI(φ:Nat->Addr)(o:Nat->Obj)(imm:Nat->Prop)(w:World):List (Nat×V)->List (Nat×Value)->Prop
 |[],zs=>zs=[]
 |p::l,zs=>∃z r,zs=(p.1,z)::r/\au φ o imm w p.2 z/\AI φ o imm w l r
theorem Q9(h:∀x z,au φ o imm w x z->au φ' o' imm' w' x z):∀(l:List (Nat×V)) (zs:List (Nat×Value)),AI φ o imm w l zs->AI φ' o' imm' w' l zs
 |[],_,h1=>h1
 |_::l,_,⟨a,r,h1,h2,h3⟩=>⟨a,r,h1,h _ _ h2,Q9 h l _ h3⟩
theorem qji{cs vs:List V}{zs ys:List Value}(off:Nat)(h:bW φ o imm w cs zs)(h':bW φ o imm w vs ys):bW φ o imm w (Il cs off vs) (ov zs off ys):=by unfold Il ov;rw[wW h'];exact AF (AF (II off h) h') (IH _ h)
theorem qm7{fs:List Field}{places:Array (Nat×Nat)}(hp:∀(i:Nat) fd b n,fs[i]?=some fd->uV C.P fd.type=some (b,n)->places[i]?=some (fd.offset,n)):∀(parts:List (Nat×V)) (zparts:List (Nat×Value)) (cs kC:List V) (cells:Array Value),AI φ o imm w parts zparts->bW φ o imm w cs cells.toList->Nz C o fs parts cs=some kC->∃cW,Instr.fill (places[·]?) cells zparts=some cW/\bW φ o imm w kC cW.toList:=by
 intro parts
 induction parts with
 |nil=>intro zparts cs kC cells h1 h2 h;simp[AI] at h1;subst h1;injection h with h;subst h;exact⟨cells,rfl,h2⟩
 |cons p r ih=>
  intro zparts cs kC cells ⟨z,zr,e,h1,hc⟩ h2 h;subst e;simp only[Nz] at h;split at h
  ·rename_i fd vs h3 h4;split at h
   ·rename_i b n hk;cases hb:(Nat.beq vs.length n&&Nat.ble (fd.offset+n) cs.length) with
    |false=>rw[hb] at h;cases h
    |true=>rw[hb] at h;rw[zd] at hb;have he:=zg hb.1;have hf:=zF hb.2;obtain⟨g1,g2⟩:=Q7 h1 h4;have l1:=wW g1;have l2:=wW h2;simp only[Array.length_toList] at l1 l2;have:=ih zr _ _ (ov cells.toList fd.offset z.cells.toList).toArray hc (by simpa using qji fd.offset h2 g1) h;rw[<-qje (places[·]?) cells p.1 z zr (hp _ _ _ _ h3 hk) om om] at this;exact this
   ·cases h
  ·cases h
theorem qda(hm:MRel C X φ o w){ei:TypeId}{e:Ty}(hT:nh C ei e):∀(parts:List (Nat×V)) (zparts:List (Nat×Value)) (l l':List (den e)) (cells:Array Value),AI φ o (ah X φ o w) w parts zparts->(∀p,p∈parts->tK o p.2)->bf (aC (ah X φ o w) w e) l cells.toList->DS lf o e parts l=some l'->∃cW,Instr.fill (fun i=>some (i*aM e,aM e)) cells zparts=some cW/\bf (aC (ah X φ o w) w e) l' cW.toList/\l'.length=l.length:=by
 intro parts
 induction parts with
 |nil=>intro zparts l l' cells h1 _ h2 h;simp[AI] at h1;subst h1;injection h with h;subst h;exact⟨cells,rfl,h2,rfl⟩
 |cons p r ih=>
  intro zparts l l' cells ⟨z,zr,e1,h1,hg⟩ hf h2 h;subst e1;simp only[DS] at h;split at h
  ·rename_i x h3;cases hb:Nat.blt p.1 l.length with
   |false=>rw[hb] at h;cases h
   |true=>
    rw[hb] at h;have he:p.1<l.length:=zF hb;have hr:=QW hm h1 (hf p (zf ..)) h3;have hc:=qfk hT hr;have l1:=gB _ _ _ hc;have l2:=oy h2;simp only[Array.length_toList] at l1 l2;have hj:(p.1+1)*aM e<=l.length*aM e:=Nat.mul_le_mul_right _ he;rw[Nat.succ_mul] at hj;have h4:bf (aC (ah X φ o w) w e) (l.set p.1 x) (ov cells.toList (p.1*aM e) z.cells.toList):=by have:=Od (i:=p.1) (m:=[x]) (by show p.1+1<=l.length;exact he) h2 ⟨_,[],(zE _).symm,hc,rfl⟩;rw[List.set_eq_take_append_cons_drop,if_pos he];simpa using this
    obtain⟨cW,g1,g2,g3⟩:=ih zr _ _ (ov cells.toList (p.1*aM e) z.cells.toList).toArray hg (fun q hq=>hf q (zh _ hq)) (by simpa using h4) h;rw[<-qje (fun i=>some (i*aM e,aM e)) cells p.1 z zr rfl l1 om] at g1;exact⟨cW,g1,g2,by simpa using g3⟩
  ·cases h
theorem qdb(ks:List Nat)(e:Ty):∀(parts:List (Nat×V)) (l:List (den e)),DS lf (ak o (dN o ks)) e parts l=DS lf o e parts l:=by
 intro parts
 induction parts with
 |nil=>intro l;rfl
 |cons p r ih=>intro l;simp only[DS,qo4,ih]
theorem Ra:∀{parts:List (Nat×V)} {p:Nat×V},p∈parts->∀id,id∈eJ o p.2->id∈wj o parts
 |q::r,p,h,id,hi=>by
  rcases zt.1 h with rfl|h
  ·exact List.mem_append_left _ hi
  ·exact List.mem_append_right _ (Ra h id hi)
theorem q8f:∀{fs:List Field},NA P fs=true->∃places,fs.mapM (fun f=>(P.info? f.type).map fun i=>(f.offset,i.size))=some places/\∀(i:Nat) fd b n,fs[i]?=some fd->uV P fd.type=some (b,n)->places[i]?=some (fd.offset,n)
 |[],_=>⟨[],rfl,fun i fd b n h=>by simp at h⟩
 |f::r,h=>by
  simp only[NA] at h;split at h
  ·rename_i bn hk;obtain⟨b,n⟩:=bn;obtain⟨i,d,g1,g2,_⟩:=D6 hk;obtain⟨places,h1,h2⟩:=q8f h;refine⟨(f.offset,i.size)::places,?_,fun j fd b' n' hj hc=>?_⟩
   ·rw[List.mapM_cons,g1,h1];rfl
   ·cases j with
    |zero=>simp only[List.getElem?_cons_zero,zH] at hj;subst hj;rw[hk] at hc;injection hc with hc;injection hc with _ hc;simp[g2,hc]
    |succ j=>simpa using h2 j fd b' n' (by simpa using hj) hc
  ·cases h
theorem qq9(hC:cf C)(hm:MRel C X φ o w){t:TypeId}{parts:List (Nat×V)}{zparts:Array (Nat×Value)}{v:V}{u:List (Nat×Obj)}(hx:AI φ o (ah X φ o w) w parts zparts.toList)(h:(Qb lf C o t parts).gives v u):dG C X φ o w v u (Instr.build t zparts):=by
 unfold Qb at h;split at h
 ·rename_i fs hd;have hu:=kP hd;rw[dC] at h;obtain⟨hk,h⟩:=h;obtain⟨places,hf,hj⟩:=q8f hk;split at h
  ·rename_i cs hl;split at h
   ·rename_i kC hb;rw[df] at h;obtain⟨rfl,rfl⟩:=h;obtain⟨i,z,k1,k2,rfl⟩:=qfm hl;obtain⟨cW,g1,g2⟩:=qm7 (places:=places.toArray) (by simpa using hj) _ _ _ _ z.cells hx (Ki _) hb;refine dG.aY hm ⟨rfl,.agg cW,?_,qja hm g2⟩;have g1':Instr.fill (fun x=>places[x]?) z.cells zparts.toList=some cW:=by simpa using g1
    simp[Instr.build,run_underlying hu,wV k1 k2,Array.mapM_eq_mapM_toList,run_places w _ _ hf,g1']
   ·cases h
  ·cases h
 ·rename_i n ei hd;have hu:=kP hd;split at h
  ·rename_i n' e he;rw[dC] at h;obtain⟨hn,h⟩:=h;split at h
   ·rename_i l hg;rw[df] at h;obtain⟨rfl,rfl⟩:=h;have hT:=hC.dP _ _ he;obtain⟨i,z,k1,_,k2,k3,k4,k5,k6⟩:=hT.info;obtain⟨d,d1,d2,d3⟩:=hT.desc;rw[hd] at d1;injection d1 with d1;subst d1;simp only[ng,zd] at d3;have hE:=hC.dP _ _ (bR d3.2);obtain⟨ii,zz,m1,_,m2,_⟩:=hE.info;have hc:=Ka hm (wj o parts);obtain⟨ho,hq⟩:=k6 (ah X φ (ak o (dN o (wj o parts))) w) w;have hs:=zg d3.1;subst hs;rw[<-qdb (wj o parts)] at hg;obtain⟨cW,g1,g2,g3⟩:=qda hc.mem hE parts zparts.toList _ l z.cells (Q9 (fun x z h=>hc.keeps x z h) _ _ hx)
     (fun p hp=>N3 (fun id hi=>Ra hp id hi)) hq hg
    refine⟨.agg cW,w,φ,?_,{hc with val:=?_}⟩
    ·simp[Instr.build,run_underlying hu,wV k1 k4,iY m1,m2,g1]
    ·exact⟨cW,rfl,g3.trans ho,g2⟩
   ·cases h
  ·cases h
 ·cases h
theorem Comes.eE(hm:MRel C X φ o w){ns:List (Nat×Obj)}(hf:∀p,p∈ns->(∃e,p.2=.vec e 0 false ⟨true,[]⟩)/\o p.1=.none){v:V}{z:Value}(hc:(∀y z,au φ o (ah X φ o w) w y z->au φ (ak o ns) (ah X φ (ak o ns) w) w y z)->au φ (ak o ns) (ah X φ (ak o ns) w) w v z):Comes C X φ φ o ns w w v z:=by
 have hg:∀(ns:List (Nat×Obj)) id,id∈bJ ns->∃p,p∈ns/\p.1=id:=by
  intro ns
  induction ns with
  |nil=>intro id h;cases h
  |cons p r ih=>
   intro id h;rcases zt.1 h with h|h
   ·exact⟨p,zf ..,h.symm⟩
   ·obtain⟨q,h1,h2⟩:=ih id h;exact⟨q,zh _ h1,h2⟩
 have he:∀id,id∈bJ ns->∃e,ak o ns id=.vec e 0 false ⟨true,[]⟩:=fun id h=>Q8 ns _ id (fun p hp=>(hf p hp).1) h;have hj:∀id,id∈bJ ns->o id=.none:=fun id h=>by obtain⟨p,h1,h2⟩:=hg ns _ h;exact h2▸(hf p h1).2
 have hx:∀id a,id∈bJ ns->aV a (ak o ns id)=true->False:=fun id a hk hx=>by obtain⟨e,h⟩:=he id hk;rw[h] at hx;simp[aV,live] at hx
 refine Comes.make hm (Nat.le_refl _) (fun _ _ _=>rfl) (fun _ _=>rfl) (fun _ _ _=>rfl) (fun id hk=>?_) (fun id hk h=>(hx id _ hk h).elim) (fun i j hi _ h _ _ _=>(hx i _ hi h).elim) (fun _ _ _ id hk=>?_) (fun id hk=>?_) (fun _ _ h=>hc h)
 ·rw[hj id hk];trivial
 ·obtain⟨e,h⟩:=he id hk;rw[h];exact⟨Nat.zero_le _,fun _=>rfl,fun h=>by simp at h⟩
 ·obtain⟨e,h⟩:=he id hk;rw[h];exact fun _ h=>by simp at h
theorem qta{fr:Nat}{t:TypeId}{b:Bool}{p:Pk}{s:Sem Value}(hp:∀v u,p.gives v u->dG C X φ o w v u s){v:V}{u:List (Nat×Obj)}(h:(Qe C fr t b p).gives v u)(hf:jH fr o u):dG C X φ o w v u s:=by
 unfold Qe at h;split at h
 ·rename_i cs;cases hb:(b&&Ns cs&&Nat.ble (uY cs) 15) with
  |false=>rw[hb] at h;exact hp v u h
  |true=>
   rw[hb] at h;simp only[cond_true,df] at h;obtain⟨rfl,rfl⟩:=h;simp only[zd] at hb;have hb:=zF hb.2;obtain⟨val,w',φ',g1,g2⟩:=hp _ _ ((df (v:=.agg cs) (u:=[])).2 ⟨rfl,rfl⟩);have sp:=fun p hp=>(Og (φ:=φ) (o:=o) (imm:=ah X φ o w) (w:=w) (φ':=φ) (o':=o) (imm':=ah X φ o w) (w':=w) cs (wP C 8 t) fr).1 p hp;refine⟨val,w',φ',g1,?_⟩;have g3:=Comes.trans g2 (v':=.agg (nC fr cs (wP C 8 t)).1) (z':=val) (Comes.eE (ns:=(nC fr cs (wP C 8 t)).2) g2.mem (fun p hp=>?_) (fun hk=>?_))
   ·exact g3
   ·obtain⟨g3,g4,g5⟩:=sp p hp;exact⟨g3,hf p hp g4 om⟩
   ·obtain⟨c,rfl,h1⟩:=g2.val;exact⟨c,rfl,(Og cs (wP C 8 t) fr).2 _ h1 hk fun p hp=>Q8 _ _ p.1 (fun q hq=>(sp q hq).1) (Of hp)⟩
 ·exact hp v u h
theorem Rb(z:Array Value):∀n,((List.range (n*z.size)).map fun j=>z[j % z.size]!)=(List.replicate n z.toList).flatten
 |0=>by simp
 |n+1=>by
  rw[Nat.succ_mul,Nat.add_comm,List.range_add,zA,List.replicate_succ,List.flatten_cons,<-Rb z n,ja];congr 1
  ·apply List.ext_getElem
   ·simp
   ·intro j h1 h2;have hj:j<z.size:=by simpa using h1
    simp[Nat.mod_eq_of_lt hj,hj]
  ·apply zY;intro j _;simp[Function.comp]
theorem qtb(z:Array Value)(n:Nat):(madeCells z (n*z.size)).toList=(List.replicate n z.toList).flatten:=by rw[<-Rb];simp[madeCells,Array.toList_range]
theorem Rc{α:Type}{f:α->List Value->Prop}{x:α}{c:List Value}(h:f x c):∀n,bf f (List.replicate n x) (List.replicate n c).flatten
 |0=>by simp[bf]
 |n+1=>by rw[List.replicate_succ,List.replicate_succ,List.flatten_cons];exact⟨c,_,rfl,h,Rc h n⟩
theorem qo6{e:Ty}{z:Value}(h3:∀imm w,aC imm w e (zero e) z.cells.toList)(n:Nat):bf (aC imm w e) (List.replicate n (zero e)) (madeCells z.cells (n*aM e)).toList:=by have:=gB (imm:=imm) (w:=w) _ _ _ (h3 imm w);simp only[Array.length_toList] at this;rw[<-this,qtb];exact Rc (h3 imm w) n
theorem qde(hC:cf C)(hm:MRel C X φ o w){fr n:Nat}{t:TypeId}{parts:List (Nat×V)}{zparts:Array (Nat×Value)}{v:V}{u:List (Nat×Obj)}(hx:AI φ o (ah X φ o w) w parts zparts.toList)(h:(Qc lf C o fr t n parts).gives v u)(hf:jH fr o u):dG C X φ o w v u (Instr.buildSlice t n zparts):=by
 unfold Qc at h;split at h
 ·rename_i e he;rw[dC,zd] at h;obtain⟨⟨h1,hk⟩,h⟩:=h;have h1:=zF h1;have hk:0<aM e:=zF hk;split at h
  ·rename_i l hg;rw[df] at h;obtain⟨rfl,rfl⟩:=h;obtain⟨ei,hu,_,he⟩:=Q3 he;have hT:=hC.dP _ _ he;obtain⟨i,z,k1,_,k2,k3,k4,k5,k6⟩:=hT.info;have hj:=Ka hm (wj o parts);have hq:o fr=.none:=hf (fr,.vec e 0 false ⟨false,l⟩) (List.mem_append_right _ (zf ..)) (Nat.le_refl _) (by show fr<fr+16;omega);have hl:ak o (dN o (wj o parts)) fr=.none:=by
    rcases D5 (o:=o) (wj o parts) fr with ⟨g1,_⟩|⟨_,_,_,_,g1,_⟩
    ·rw[g1,hq]
    ·rw[hq] at g1;cases g1
   rw[<-qdb (wj o parts)] at hg;have hc:bf (aC (ah X φ (ak o (dN o (wj o parts))) w) w e) (List.replicate n (zero e)) ((Array.range (n*aM e)).map ((if n*aM e=0 then #[] else z.cells)[· % (if n*aM e=0 then #[] else z.cells).size]!)).toList:=by
    by_cases hn:n*aM e=0
    ·have:n=0:=by
      rcases Nat.mul_eq_zero.1 hn with h|h
      ·exact h
      ·omega
     subst this;simp[bf]
    ·rw[if_neg hn];exact qo6 k6 n
   obtain⟨cW,g1,g2,g3⟩:=qda hj.mem hT parts zparts.toList _ l _ (Q9 (fun x z h=>hj.keeps x z h) _ _ hx)
    (fun p hp=>N3 (fun id hi=>Ra hp id hi)) hc hg
   have l2:=oy g2;have ho:l.length=n:=by rw[g3];simp
   have hs:n<=n*aM e:=Nat.le_mul_of_pos_right n hk;refine⟨.slice (some ⟨w.heap.size,0,none⟩) l.length n,w.alloc (.cells cW ei),_,?_,hj.trans (E6 hj.mem (c:=cW) (el:=ei) (lo:=0) (hi:=0) (cap:=n) (ec:=cW.toList) (rest:=[]) rfl (IK hl) (by simp) g2 ?_ ?_ ?_ (.inl rfl) (Oh hC he)).1⟩
   ·have h5:¬(16777216<n*aM e):=om
    by_cases hn:n*aM e=0
    ·simp only[hn,if_true] at g1;simp[Instr.buildSlice,run_underlying hu,iY k1,k2,hn,ho,newRow] at g1 ⊢;simp[g1]
    ·simp only[if_neg hn] at g1;simp[Instr.buildSlice,run_underlying hu,iY k1,k2,h5,hn,ho,newRow,wV k1 k4] at g1 ⊢;simp[g1]
   ·rw[ho] at l2;simpa using l2
   ·omega
   ·unfold cj;omega
  ·cases h
 ·cases h
end
section
variable {P:Program} {C:Cx} {X:Nat→Prop} {φ φ':Nat→Addr} {o o':Nat→Obj} {w w':World} {imm imm':Nat→Prop}
theorem qxu{n m:Int}{k:Nat}(h:rn n m=some k):0<=n/\n<=m/\m<=2147483648/\k=n.toNat:=by
 unfold rn at h;split at h
 ·rename_i h0;injection h with h;exact⟨h0.1,h0.2.1,h0.2.2,h.symm⟩
 ·cases h
theorem Re{n:Int}{y:Unit}(h:fit n=some y):n<=2147483648:=by
 unfold fit at h;split at h
 ·assumption
 ·cases h
theorem qf5(hC:cf C)(hm:MRel C X φ o w){fr:Nat}{t:TypeId}{l c:V}{zl zc:Value}{v:V}{u:List (Nat×Obj)}(hl:au φ o (ah X φ o w) w l zl)(hc:au φ o (ah X φ o w) w c zc)(h:(Ql lf C fr t l c).gives v u)(hf:jH fr o u):dG C X φ o w v u (Instr.makeSlice t zl zc):=by
 unfold Ql at h;split at h
 ·rename_i e k1 n k2 m he hn hj;rw[dC,mN] at h;obtain⟨h1,k,h2,h3⟩:=h;simp only[Prod.mk.injEq] at h3;obtain⟨rfl,rfl⟩:=h3;have hk:o fr=.none:=hf _ (zf ..) (Nat.le_refl _) (by show fr<fr+16;omega);obtain⟨rfl,_⟩:=Kf hn hl;obtain⟨rfl,_⟩:=Kf hj hc;obtain⟨ei,hu,_,he⟩:=Q3 he;obtain⟨i,z,g1,_,g2,g3,g4,g5,g6⟩:=(hC.dP _ _ he).info;obtain⟨a1,a2,a3,rfl⟩:=qxu h2;have ho:m.toNat<=2147483648:=om
  have hb:(i.bytes:Int)*m<=281474976710656:=by have h7:(i.bytes:Int)*m<=65536*m:=Int.mul_le_mul_of_nonneg_right om om;omega
  have hg:=run_make (P:=C.P) w t ei i z hu g1 g4 k1 k2 n m a1 a2 hb om;have hr:=ve n.toNat (by simp;omega) (qo6 (imm:=ah X φ o w) (w:=w) g6 m.toNat);have e1:(List.replicate m.toNat (zero e)).take n.toNat=List.replicate n.toNat (zero e):=by rw[List.take_replicate,Nat.min_eq_left om]
  rw[e1] at hr;have:=(E6 hm (w':=w.alloc (.cells (madeCells z.cells (m.toNat*i.size)) ei)) (c:=madeCells z.cells (m.toNat*i.size)) (el:=ei) (lo:=0) (hi:=0) (ver:=0) (cap:=m.toNat)
   (l:=List.replicate n.toNat (zero e)) (rest:=(madeCells z.cells (m.toNat*aM e)).toList.drop (n.toNat*aM e)) rfl (IK hk) (by rw[g2,List.take_append_drop]) hr.1 (by rw[g2,size_madeCells]) (by simp;omega) (by simp;unfold cj;omega) (.inl rfl) (Oh hC he)).1
  rw[List.length_replicate] at this;exact⟨_,_,_,hg,this⟩
 ·cases h
theorem Rf{e:TypeId}(h:wO C e=true):C.P.underlying e=some (.int .u8):=by
 unfold wO at h;split at h
 ·rename_i hd;exact kP hd
 ·cases h
theorem qo7:∀{l:List (den (.int .u8))} {ec:List Value},bf (aC imm w (.int .u8)) l ec->ec=List.map (Value.int .u8) l/\∀(n:Int),n∈(l:List Int)->0<=n/\n<=255
 |[],ec,h=>by have h:ec=[]:=h;exact⟨by rw[h];rfl,(fun n hn=>by cases hn)⟩
 |x::l,ec,⟨c,d,e,h1,h2⟩=>by
  obtain⟨h1,h3⟩:=h1;obtain⟨h4,h5⟩:=qo7 h2;refine⟨by rw[e,h1,h4];rfl,fun n hn=>?_⟩;rcases zt.1 hn with rfl|hn
  ·unfold fJ IntKind.min IntKind.max at h3;simp[IntKind.signed,IntKind.bits] at h3;exact h3
  ·exact h5 n hn
theorem qo8(s:List UInt8):bf (aC imm w (.int .u8)) (s.map fun b=>(b.toNat:Int)) (s.map fun b=>Value.int .u8 (b.toNat:Int)):=by
 induction s with
 |nil=>rfl
 |cons b s ih=>refine⟨[_],_,rfl,⟨rfl,?_⟩,ih⟩;have:=b.toNat_lt;unfold fJ IntKind.min IntKind.max;simp[IntKind.signed,IntKind.bits];omega
theorem qjj(hC:cf C)(hm:MRel C X φ o w){fr:Nat}{s t:TypeId}{x:V}{z:Value}{v:V}{u:List (Nat×Obj)}(hx:au φ o (ah X φ o w) w x z)(h:(Qa lf C o fr s t x).gives v u)(hf:jH fr o u):dG C X φ o w v u (convert s t z):=by
 have _:=hC;unfold Qa at h;split at h
 ·cases h
 ·rename_i ds hL;have hs:=kP hL;split at h
  ·rename_i k hq;have ht:=kP hq;split at h
   ·rw[df] at h;obtain⟨rfl,rfl⟩:=h;obtain⟨rfl,_⟩:=nG hx;refine dG.aY hm ⟨rfl,_,?_,lH (IC _ _)⟩;simp[convert,run_underlying hs,run_underlying ht,Conv.intToInt];rfl
   ·cases h
  ·rename_i hq;have ht:=kP hq;split at h
   ·rw[df] at h;obtain⟨rfl,rfl⟩:=h;obtain⟨rfl,_⟩:=nG hx;refine dG.aY hm ⟨rfl,_,?_,NZ⟩;simp[convert,run_underlying hs,run_underlying ht,Conv.intToFloat];rfl
   ·cases h
  ·rename_i hq;have ht:=kP hq;split at h
   ·rw[df] at h;obtain⟨rfl,rfl⟩:=h;refine dG.aY hm ⟨rfl,z,?_,hx⟩;obtain⟨s',rfl,_,_⟩:=ry hx;simp[convert,run_underlying hs,run_underlying ht]
   ·split at h
    ·rename_i e;rw[dC,zd] at h;obtain⟨⟨h1,_⟩,h⟩:=h;have he:=Rf h1;split at h
     ·rename_i sl hM;rw[df] at h;obtain⟨rfl,rfl⟩:=h;obtain⟨g1,g2⟩:=qj8 hm.ay hx hM;rcases g2 with ⟨_,g3,rfl⟩|⟨_,a,cap,ec,rfl,g4,g5,g6,g7⟩
      ·refine dG.aY hm ⟨rfl,.string .empty,?_,J4 (by rw[g3];rfl) (by unfold cj;simp)⟩;rw[run_convert_bytes_string _ _ _ _ _ _ _ hs he ht];simp[Conv.bytesToString]
      ·obtain⟨e1,e2⟩:=qo7 g5;have hl:(List.map (fun n:Int=>UInt8.ofNat n.toNat) sl.l).length=List.length sl.l:=by simp
       have back:∀n:Int,0<=n->n<=255->(((UInt8.ofNat n.toNat).toNat:Nat):Int)=n:=by intro n h0 h1;rw[UInt8.toNat_ofNat',Nat.mod_eq_of_lt om];omega
       have hr:=run_convert_bytes_back (P:=C.P) w s t e a cap (List.map (fun n:Int=>UInt8.ofNat n.toNat) sl.l) hs he ht (fun j hj=>by
        have hN:j<ec.length:=by rw[e1];simpa using hj
        have hc:=g6 j hN;rw[tL (g4 (by rw[hl] at hj;omega)),hc];simp only[e1,List.getElem_map,zH,Value.int.injEq,true_and];have hO:j<(sl.l:List Int).length:=by simpa using hj
        obtain⟨b1,b2⟩:=e2 (sl.l:List Int)[j] (List.getElem_mem hO);exact(back _ b1 b2).symm)
       rw[hl] at hr;refine dG.aY hm ⟨rfl,_,hr,J4 ?_ ?_⟩
       ·simp only[ja]
        conv=>rhs;rw[<-List.map_id (l:=(sl.l:List Int))]
        apply zY;intro n hn;obtain⟨b1,b2⟩:=e2 n hn;exact back n b1 b2
       ·simpa[ByteArray.size] using g1
     ·cases h
    ·cases h
  ·rename_i e hq;have ht:=kP hq;split at h
   ·rename_i l;split at h
    case h_2=>cases h
    rw[dC,mN] at h;obtain⟨h1,y,h2,h3⟩:=h;simp only[Prod.mk.injEq] at h3;obtain⟨rfl,rfl⟩:=h3;have he:=Rf h1;obtain⟨b,rfl,rfl,hb⟩:=ry hx;have hP:o fr=.none:=hf _ (zf ..) (Nat.le_refl _) (by show fr<fr+16;omega);have hQ:=Re h2;have hu:=run_bytes_of_string (P:=C.P) w s t e b hs ht he;have hB:b.size<=grownCap w b.size 0 e:=by exact Nat.le_add_right _ _
    have e1:(b.data.toList.map fun c=>(c.toNat:Int)).length=b.size:=by simp
    have:=(E6 hm (w':=w.drew.alloc (.cells (bytesRow b (grownCap w b.size 0 e)) e ((bytesRow b (grownCap w b.size 0 e)).size,(bytesRow b (grownCap w b.size 0 e)).size+1)))
     (l:=b.data.toList.map fun c=>(c.toNat:Int)) (e:=.int .u8) (ver:=0) (cap:=grownCap w b.size 0 e) (ec:=b.data.toList.map fun c=>Value.int .u8 (c.toNat:Int)) (rest:=List.replicate (grownCap w b.size 0 e-b.size) (.int .u8 0))
     rfl (IK hP) (by simp[bytesRow]) (qo8 _) (by simp[bytesRow,aM];omega) (by rw[e1];exact hB) (by rw[e1];exact hb) (.inr (Nat.le_refl _)) (fun _=>he)).1
    rw[e1] at this;exact⟨_,_,_,hu,this⟩
   ·rename_i id ver;split at h
    ·rename_i e';split at h
     ·rename_i aE b ho;rw[dC,mN,zd,zd] at h;obtain⟨⟨⟨h1,hE⟩,hF⟩,y,h2,h3⟩:=h;simp only[Prod.mk.injEq] at h3;obtain⟨rfl,rfl⟩:=h3;have he:=Rf h1;have hE:=zg hE;have hF:=zg hF;subst hE hF;have hR:e'=e:=by rw[hs] at ht;injection ht with ht;injection ht
      subst hR;have hn:b.nil=false:=by
       have h2:aq b.nil none (some ())=some y:=h2;cases hb:b.nil with
       |false=>rfl
       |true=>rw[hb] at h2;cases h2
      have hw:=hm.ay id;have hy:=hm.tH id;unfold au at hx;rw[ho] at hx hw hy;obtain⟨b1,b2,b3⟩:=hw;obtain⟨b4,ec,b5,b6,b7,b8,_⟩:=(b3 hn).resolve_right fun g=>g.2.2 rfl;obtain⟨c,el,fz,r1,hS,hT⟩:=hy rfl hn;rcases hx.2 rfl with ⟨hJ,_⟩|⟨_,cap,rfl,k1,k2,k3⟩
      ·rw[hn] at hJ;cases hJ
      ·obtain⟨lo,hi⟩:=fz;have hK:aV (φ id) (o id)=true:=by rw[ho];exact tG hn b4
       generalize hz:w.freeze ⟨(φ id).block,c.size,none⟩ 1=w2;have hk:∃hA,w2.heap[(φ id).block]?=some (.cells c el (c.size,hA)):=by
        rw[<-hz];simp only[World.freeze,Nat.one_ne_zero,if_false,Array.getElem?_modify,if_true,r1,Option.map_some];by_cases hG:lo=hi
        ·subst hG;exact⟨_,by simp;rfl⟩
        ·have:c.size<=lo:=hT.resolve_left hG;refine⟨max hi (c.size+1),?_⟩;have hb:(lo==hi)=false:=by simpa using hG
         simp[hb,Nat.min_eq_right this]
       obtain⟨hA,hk⟩:=hk;have hH:∀b',b'≠(φ id).block->w2.heap[b']?=w.heap[b']?:=fun b' hI=>by rw[<-hz];simp only[World.freeze,Nat.one_ne_zero,if_false,Array.getElem?_modify];rw[if_neg fun e=>hI e.symm]
       have hU:w2.heap.size=w.heap.size:=by rw[<-hz];simp[World.freeze]
       have hg:∀n,room w (φ id) n->room w2 (φ id) n:=fun n ⟨c',el',Bb,hX,q1,q2,q3⟩=>by rw[r1] at q1;injection q1 with q1;injection q1 with q4 q5 q6;subst q4 q5;exact⟨c,el,c.size,hA,hk,q2,.inr (.inr q2)⟩
       have hv:kB w2 (φ id) ec:=fun j hj=>by have:=b6 j hj;unfold World.cell? at this ⊢;simp only[r1] at this;simp only[hk];exact this
       have hV:w.shape? (bare (φ id)).block=some (el,c.size):=by have:w.heap[(bare (φ id)).block]?=some (.cells c el (lo,hi)):=r1;rw[World.shape?,this]
       have hu:(convert s s (.slice (some (bare (φ id))) b.l.length cap)).run C.P w=.ok (.slice (some (bare (φ id))) b.l.length cap) w2:=by rw[<-hz];simp[convert,run_underlying hs,run_underlying he,markStringish,hV,freeze];rfl
       refine⟨_,w2,φ,hu,Comes.write hm _ (fun _=>hK) hU (fun b' hI=>hH b' fun e=>hI ⟨hK,e.symm⟩) ?_ (fun a1 a2 a3=>?_) (fun _ _=>⟨c,el,(c.size,hA),hk,hS,.inr (Nat.le_refl _)⟩) (fun hW=>?_) (by rw[<-hz];exact⟨rfl,rfl⟩)⟩
       ·rw[ho];exact .inr ⟨rfl,rfl,rfl,rfl,rfl,fun _=>⟨rfl,fun _ _ n hr=>hg n hr⟩⟩
       ·exact⟨b1,b2,fun _=>.inl ⟨b4,ec,nD (gG a1 a2 _) b5,hv,hg _ b7,fun _=>hg _ (b8 rfl),by simp⟩⟩
       ·unfold au;rw[hW];exact⟨Nat.le_refl _,fun _=>.inr ⟨hn,cap,rfl,k1,k2,fun h1 h2=>hg _ (k3 h1 h2)⟩⟩
     ·cases h
    ·cases h
   ·cases h
  ·cases h
theorem z1d{e:Ty}{l:List Int}{m:List (den e)}(h:fZ (.arr 0 e) (.arr 0 (.int .u8)) l=some m):∃h:Ty.int .u8=e,m=h▸l:=by obtain⟨h1,h2⟩:=wq h;injection h1 with _ h1;subst h1;exact⟨rfl,h2⟩
theorem qjk(hm:MRel C X φ o w){e:Ty}{y:V}{zy:Value}{m:List (den e)}(hy:au φ o (ah X φ o w) w y zy)(h:Nw lf o e y=some m):∃news,bf (aC (ah X φ o w) w e) m news/\m.length<=cj/\(∀w':World,(Builtin.lenOf zy).run P w'=.ok m.length w')/\(∀(w':World) k,w'.heap=w.heap->k<=m.length->(Builtin.firstCells (aM e) k zy).run P w'=.ok (news.take (k*aM e)).toArray w'):=by
 have cell:∀(w':World) (a:Addr),w'.heap=w.heap->w'.cell? a=w.cell? a:=fun w' a h=>by unfold World.cell?;rw[h]
 by_cases hs:∃l,y=.d .str l
 ·obtain⟨l,rfl⟩:=hs;obtain⟨h1,h2⟩:=z1d h;subst h1 h2;obtain⟨b,rfl,rfl,hb⟩:=ry hy;refine⟨_,qo8 _,by simpa using hb,fun w'=>by simp[Builtin.lenOf],fun w' k _ hk=>?_⟩;have hk:k<=b.size:=by simpa using hk
  simp only[Builtin.firstCells,aM,Nat.mul_one,Sem.run_pure];congr 1;apply Array.toList_inj.1;simp
 ·have h:∃s,mW lf o (.sl e) y=some s/\m=s.l:=by
   have:Nw lf o e y=(match mW lf o (.sl e) y with|some s=>some s.l|none=>none):=by
    cases y<;>try rfl
    rename_i t d;cases t<;>first|rfl|exact absurd ⟨_,rfl⟩ hs
   rw[this] at h;split at h
   ·rename_i s e1;injection h with h;exact⟨s,e1,h.symm⟩
   ·cases h
  obtain⟨s,h1,rfl⟩:=h;obtain⟨g1,g2⟩:=qj8 hm.ay hy h1;rcases g2 with ⟨_,g3,rfl⟩|⟨_,a,cap,ec,rfl,g4,g5,g6,g7⟩
  ·refine⟨[],by rw[g3];rfl,g1,fun w'=>by simp[Builtin.lenOf,g3],fun w' k _ hk=>by simp[Builtin.firstCells]⟩
  ·refine⟨ec,g5,g1,fun w'=>by simp[Builtin.lenOf],fun w' k hw hk=>?_⟩;have hl:=oy g5;have hg:k*aM e<=ec.length:=by rw[hl];exact Nat.mul_le_mul_right _ hk
   refine run_firstCells_some w' _ _ _ _ _ _ (by simp;omega) (fun j v hj=>?_);obtain⟨hc,he⟩:=zB.1 hj;have hf:j<ec.length:=by simp at hc;omega
   rw[cell _ _ hw,tL (g4 fun h0=>by
    have h4:s.l.length=0:=om
    rw[h4,Nat.zero_mul] at hl;omega)]
   have:=g6 j hf;rw[this,<-he];simp
end
theorem Kj(l ds:List Value)(k j:Nat)(hk:k<=l.length):(ov l k ds)[j]?=if j<k then l[j]? else if j<k+ds.length then ds[j-k]? else l[j]?:=by
 unfold ov;by_cases h1:j<k
 ·rw[if_pos h1,zD,zZ (by simp;omega),List.getElem?_take,if_pos h1]
 ·rw[if_neg h1,zD,zR (by simp;omega)];have e:(l.take k).length=k:=by simp[Nat.min_eq_left hk]
  rw[e];by_cases h2:j<k+ds.length
  ·rw[if_pos h2,zZ om]
  ·rw[if_neg h2,zR om,List.getElem?_drop];congr 1;omega
section
variable {P:Program} {C:Cx} {X:Nat→Prop} {φ φ':Nat→Addr} {o o':Nat→Obj} {w w':World} {imm imm':Nat→Prop}
theorem gU{a:Addr}{cs:List Value}:kB w a cs↔∀j v,cs[j]?=some v->w.cell? ⟨a.block,a.off+j,none⟩=some v:=by
 constructor
 ·intro h j v hj;obtain⟨h1,h2⟩:=zB.1 hj;rw[h j h1,h2]
 ·intro h j hj;exact h j _ (ze hj)
theorem Oj{a:Addr}{ec ds:List Value}{k:Nat}{c:Array Value}{el:TypeId}{fz:Nat×Nat}(hh:w.heap[a.block]?=some (.cells c el fz))(h:kB w a ec)(hk:k<=ec.length)(hb:a.off+k+ds.length<=c.size):kB (w.setRow a.block (ov c.toList (a.off+k) ds).toArray) a (ov ec k ds):=by
 rw[gU] at h ⊢;intro j v hj;simp only[World.cell?,Oc hh,Option.isSome_none,Bool.false_eq_true,if_false,List.getElem?_toArray];rw[Kj _ _ _ _ hk] at hj;rw[Kj _ _ _ _ (by simp;omega)];by_cases h1:j<k
 ·rw[if_pos h1] at hj;rw[if_pos om];have:=h j v hj;simpa[World.cell?,hh] using this
 ·rw[if_neg h1] at hj;rw[if_neg om];by_cases h2:j<k+ds.length
  ·rw[if_pos h2] at hj;rw[if_pos om,<-hj];congr 1;omega
  ·rw[if_neg h2] at hj;rw[if_neg om];have:=h j v hj;simpa[World.cell?,hh] using this
def E7(P:Program)(u:TypeId):Prop:=(∃e,P.underlying u=some (.slice e))\/P.underlying u=some .string
theorem qhi{t u ty ei:TypeId}{ts:List TypeId}{i:TypeInfo}(ht:P.underlying t=some (.slice ei))(hu:E7 P u)(hi:P.info? ei=some i){b off n cap m lo he:Nat}{zy:Value}{news:List Value}{cur:Array Value}{el:TypeId}(hn:(Builtin.lenOf zy).run P w=.ok m w)(hf:(Builtin.firstCells i.size m zy).run P w=.ok news.toArray w)(hg:w.heap[b]?=some (.cells cur el (lo,he)))(hc:n+m<=cap)(hj:off+n*i.size+news.length<=cur.size)(hm:he<=lo\/he<=off+n*i.size\/off+n*i.size+news.length<=lo)(h1:∀v∈news,v.oneCell'=true):(Builtin.append_ (t::u::ts).toArray ty #[.slice (some ⟨b,off,none⟩) n cap,zy]).run P w=.ok (.slice (some ⟨b,off,none⟩) (n+m) cap) (w.setRow b (ov cur.toList (off+n*i.size) news).toArray):=by
 have hl:=Kh (P:=P) (b:=b) (off:=off+n*i.size) news 0 cur w hg hj hm h1;simp only[Nat.add_zero] at hl;have hk:(⟨b,off,none⟩:Addr).add (n*i.size)=⟨b,off+n*i.size,none⟩:=tL rfl _;rcases hu with ⟨e,hu⟩|hu<;>
 simp[Builtin.append_,run_underlying ht,run_underlying hu,iY hi,hn,hc,hf,hk,hl]
theorem qdg{t u ty ei:TypeId}{ts:List TypeId}{i:TypeInfo}(ht:P.underlying t=some (.slice ei))(hu:E7 P u)(hi:P.info? ei=some i){zy:Value}{cs:Array Value}(hn:(Builtin.lenOf zy).run P w=.ok 0 w)(hf:(Builtin.firstCells i.size 0 zy).run P w=.ok cs w):(Builtin.append_ (t::u::ts).toArray ty #[.slice none 0 0,zy]).run P w=.ok (.slice none 0 0) w:=by
 rcases hu with ⟨e,hu⟩|hu<;>
 simp[Builtin.append_,run_underlying ht,run_underlying hu,iY hi,hn,hf]
theorem qdh{t u ty ei:TypeId}{ts:List TypeId}{i:TypeInfo}(ht:P.underlying t=some (.slice ei))(hu:E7 P u)(hi:P.info? ei=some i){base:Addr}{n cap:Nat}{zy:Value}(hn:(Builtin.lenOf zy).run P w=.ok 0 w)(hf:(Builtin.firstCells i.size 0 zy).run P w=.ok ([]:List Value).toArray w)(hc:n<=cap):(Builtin.append_ (t::u::ts).toArray ty #[.slice (some base) n cap,zy]).run P w=.ok (.slice (some base) n cap) w:=by
 rcases hu with ⟨e,hu⟩|hu<;>
 simp[Builtin.append_,run_underlying ht,run_underlying hu,iY hi,hn,hf,hc,storeCells]
theorem q8g{t u ty ei:TypeId}{ts:List TypeId}{i:TypeInfo}{z:Value}(ht:P.underlying t=some (.slice ei))(hu:E7 P u)(hi:P.info? ei=some i)(hz:i.zero=some z){base:Option Addr}{n cap m:Nat}{zy:Value}{olds news:List Value}(hn:(Builtin.lenOf zy).run P w=.ok m w)(hf:(Builtin.firstCells i.size m zy).run P w.drew=.ok news.toArray w.drew)(hj:(Builtin.firstCells i.size n (.slice base n cap)).run P w.drew=.ok olds.toArray w.drew)(hg:cap<n+m)(hl:n+m<=2147483648)(hm:i.bytes<=65536):(Builtin.append_ (t::u::ts).toArray ty #[.slice base n cap,zy]).run P w=.ok (.slice (some ⟨w.heap.size,0,none⟩) (n+m) (grownCap w (n+m) cap ei)) (w.drew.alloc (.cells (olds.toArray++news.toArray++Builtin.zeroCells z.cells (grownCap w (n+m) cap ei-(n+m))) ei)):=by
 have hk:¬(n+m<=cap):=om
 have hc:¬(9223372036854775807<((n:Int)+(m:Int))):=om
 have ho:(n+m)*i.bytes<=140737488355328:=Nat.le_trans (Nat.mul_le_mul hl hm) om;have he:¬(281474976710656<Builtin.nextslicecap (n+m) cap*i.bytes):=by have:=growslice_fits hg ho;omega
 rcases hu with ⟨e,hu⟩|hu
 ·simp[Builtin.append_,run_underlying ht,run_underlying hu,iY hi,wV hi hz,typeInfo,hi,hn,hk,hc,he,Question.forced,hf,hj,newRow,grownCap];congr 2;apply Array.ext';simp[List.append_assoc]
 ·simp[Builtin.append_,run_underlying ht,run_underlying hu,iY hi,wV hi hz,typeInfo,hi,hn,hk,hc,he,Question.forced,hf,hj,newRow,grownCap];congr 2;apply Array.ext';simp[List.append_assoc]
end
section
variable {P:Program} {C:Cx} {X:Nat→Prop} {φ φ':Nat→Addr} {o o':Nat→Obj} {w w':World} {imm imm':Nat→Prop}
theorem AJ{a:Addr}{n off:Nat}{c:Array Value}{el:TypeId}{fz:Nat×Nat}{ds:List Value}(hh:w.heap[a.block]?=some (.cells c el fz))(hb:off+ds.length<=c.size)(h:room w a n):room (w.setRow a.block (ov c.toList off ds).toArray) a n:=by obtain⟨c',el',lo,hi,h1,h2,h3⟩:=h;rw[hh] at h1;injection h1 with h1;injection h1 with h1 h4 h5;subst h1 h4 h5;refine⟨_,_,lo,hi,Oc hh _,?_,h3⟩;have:=Q5 c.toList off ds (by simpa using hb);simp at this ⊢;omega
theorem qm8{u:TypeId}(h:P4 C u=true):E7 C.P u:=by
 unfold P4 at h;split at h
 ·rename_i e hd;exact .inl ⟨e,kP hd⟩
 ·rename_i hd;exact .inr (kP hd)
 ·cases h
theorem Rg(hC:cf C)(hm:MRel C X φ o w){t u ty ei:TypeId}{ts:List TypeId}{e:Ty}(he:C.ty ei=some e)(ht:C.P.underlying t=some (.slice ei))(hu:E7 C.P u){tid v':Nat}{l m:List (den e)}{zx zy:Value}(ho:∀w' a' s,Up w w' (φ tid) a' (o tid) (.vec e v' false s)){news:List Value}(hr:bf (aC (ah X φ o w) w e) m news)(hf:∀w':World,(Builtin.lenOf zy).run C.P w'=.ok m.length w')(hq:∀(w':World) k,w'.heap=w.heap->k<=m.length->(Builtin.firstCells (aM e) k zy).run C.P w'=.ok (news.take (k*aM e)).toArray w')(hs:l.length+m.length<=2147483648){base:Option Addr}{n cap:Nat}{olds:List Value}(hn:n=l.length)(hg:cap<n+m.length)(hv:zx=.slice base n cap)(hk:bf (aC (ah X φ o w) w e) l olds)(hl:(Builtin.firstCells (aM e) n zx).run C.P w.drew=.ok olds.toArray w.drew):dG C X φ o w (.cK tid v') [(tid,.vec e v' false ⟨false,l++m⟩)] (Builtin.append_ (t::u::ts).toArray ty #[zx,zy]):=by
 obtain⟨i,z,k1,_,k2,k3,k4,k5,k6⟩:=(hC.dP _ _ he).info;have hw:z.cells.size=aM e:=by have:=gB (imm:=ah X φ o w) (w:=w) _ _ _ (k6 _ w);simpa using this
 have Bn:=oy hr;have hx:(news.take (m.length*aM e))=news:=by rw[<-Bn,List.take_length]
 have hc:∀w':World,w'.heap=w.heap->(Builtin.firstCells i.size m.length zy).run C.P w'=.ok news.toArray w':=fun w' h=>by have:=hq w' m.length h (Nat.le_refl _);rw[hx,<-k2] at this;exact this
 subst hv;rw[<-k2] at hl;have hj:=q8g (ts:=ts) (ty:=ty) (w:=w) ht hu k1 k4 (hf w) (hc w.drew rfl) hl hg om k3;have hy:n+m.length<=grownCap w (n+m.length) cap ei:=Nat.le_add_right _ _;have Bb:=oy hk;have:=(E6 hm (fr:=tid) (ver:=v') (w':=w.drew.alloc (.cells (olds.toArray++news.toArray++Builtin.zeroCells z.cells (grownCap w (n+m.length) cap ei-(n+m.length))) ei)) (lo:=0) (hi:=0) (e:=e) (l:=l++m)
  (cap:=grownCap w (n+m.length) cap ei) (ec:=olds++news) (rest:=(Builtin.zeroCells z.cells (grownCap w (n+m.length) cap ei-(n+m.length))).toList)
  (c:=olds.toArray++news.toArray++Builtin.zeroCells z.cells (grownCap w (n+m.length) cap ei-(n+m.length))) rfl (fun w'=>ho w' _ _) (by simp) (Iw hk hr)
  (by
   simp only[Array.size_append,List.size_toArray,size_zeroCells,hw,Bb,Bn,<-hn];rw[<-Nat.add_mul,<-Nat.add_mul];congr 1;omega)
  (by rw[zm,<-hn];exact hy) (by rw[zm];unfold cj;omega) (.inl rfl) (Oh hC he)).1
 rw[zm,<-hn] at this;exact⟨_,_,_,hj,this⟩
theorem Rh(hC:cf C)(hm:MRel C X φ o w){t u ty ei:TypeId}{ts:List TypeId}{e:Ty}(he:C.ty ei=some e)(ht:C.P.underlying t=some (.slice ei))(hu:E7 C.P u){tid v':Nat}{nl:Bool}{l m:List (den e)}{zx zy:Value}(hG:∀w' a' s,Up w w' (φ tid) a' (o tid) (.vec e v' false s))(hx:(nl=true/\l=[]/\zx=.slice none 0 0)\/(nl=false/\∃n cap ver s,o tid=.vec e ver false s/\s.nil=false/\n=l.length/\n<=s.l.length/\l=s.l.take n/\zx=.slice (some (bare (φ tid))) n cap/\n<=cap/\((φ tid).spot.isSome=true->cap=0)/\((φ tid).spot=none->room w (φ tid) (cap*aM e)))){news:List Value}(hr:bf (aC (ah X φ o w) w e) m news)(hv:∀w':World,(Builtin.lenOf zy).run C.P w'=.ok m.length w')(hP:∀(w':World) k,w'.heap=w.heap->k<=m.length->(Builtin.firstCells (aM e) k zy).run C.P w'=.ok (news.take (k*aM e)).toArray w')(hQ:l.length+m.length<=2147483648):dG C X φ o w (.cK tid v') [(tid,.vec e v' false ⟨aP nl (cR m),l++m⟩)] (Builtin.append_ (t::u::ts).toArray ty #[zx,zy]):=by
 obtain⟨i,z,k1,_,k2,k3,k4,k5,k6⟩:=(hC.dP _ _ he).info;have hR:z.cells.size=aM e:=by have:=gB (imm:=ah X φ o w) (w:=w) _ _ _ (k6 _ w);simpa using this
 have Bn:=oy hr;have hS:(news.take (m.length*aM e))=news:=by rw[<-Bn,List.take_length]
 have hq:∀w':World,w'.heap=w.heap->(Builtin.firstCells i.size m.length zy).run C.P w'=.ok news.toArray w':=fun w' h=>by have:=hP w' m.length h (Nat.le_refl _);rw[hS,<-k2] at this;exact this
 have grow:∀(base:Option Addr) (n cap:Nat) (olds:List Value),n=l.length->cap<n+m.length->zx=.slice base n cap->bf (aC (ah X φ o w) w e) l olds->
   (Builtin.firstCells i.size n zx).run C.P w.drew=.ok olds.toArray w.drew->aP nl (cR m)=false->
   dG C X φ o w (.cK tid v') [(tid,.vec e v' false ⟨aP nl (cR m),l++m⟩)] (Builtin.append_ (t::u::ts).toArray ty #[zx,zy]):=by
  intro base n cap olds hn hg hT hz hJ hU;subst hT;have hf:=q8g (ts:=ts) (ty:=ty) (w:=w) ht hu k1 k4 (hv w) (hq w.drew rfl) hJ hg om k3;have hV:n+m.length<=grownCap w (n+m.length) cap ei:=Nat.le_add_right _ _;have Bb:=oy hz;have:=(E6 hm (fr:=tid) (ver:=v') (w':=w.drew.alloc (.cells (olds.toArray++news.toArray++Builtin.zeroCells z.cells (grownCap w (n+m.length) cap ei-(n+m.length))) ei)) (lo:=0) (hi:=0) (e:=e) (l:=l++m)
   (cap:=grownCap w (n+m.length) cap ei) (ec:=olds++news) (rest:=(Builtin.zeroCells z.cells (grownCap w (n+m.length) cap ei-(n+m.length))).toList)
   (c:=olds.toArray++news.toArray++Builtin.zeroCells z.cells (grownCap w (n+m.length) cap ei-(n+m.length))) rfl (fun w'=>hG w' _ _) (by simp) (Iw hz hr)
   (by
    simp only[Array.size_append,List.size_toArray,size_zeroCells,hR,Bb,Bn,<-hn];rw[<-Nat.add_mul,<-Nat.add_mul];congr 1;omega)
   (by rw[zm,<-hn];exact hV) (by rw[zm];unfold cj;omega) (.inl rfl) (Oh hC he)).1
  rw[zm,<-hn] at this;rw[hU];exact⟨_,_,_,hf,this⟩
 rcases hx with ⟨rfl,rfl,rfl⟩|⟨rfl,n,cap,ver,s,ho,hK,hn,hN,hl,rfl,hL,hW,hA⟩
 ·cases hw:m with
  |nil=>subst hw;have hf:=qdg (ts:=ts) (ty:=ty) (w:=w) ht hu k1 (hv w) (hq w rfl);refine⟨_,w,φ,hf,?_⟩;refine Comes.write hm _ (by simp[aV,live,aP,cR]) rfl (fun _ _=>rfl) (hG w (φ tid) _) (fun _ _ _=>⟨by simp,fun _=>rfl,fun h=>by simp[aP,cR] at h⟩) (fun _ h=>by simp[aP,cR] at h) (fun hB=>?_);unfold au;rw[hB];exact⟨Nat.le_refl _,fun _=>.inl ⟨rfl,rfl⟩⟩
  |cons y r=>rw[<-hw];exact grow none 0 0 [] rfl (by rw[hw];simp) rfl rfl (run_firstCells_none (P:=C.P) w.drew i.size 0 0 0) (by rw[hw];rfl)
 ·have hE:=hm.ay tid;rw[ho] at hE;obtain⟨g1,g2,g3⟩:=hE;rcases g3 hK with ⟨g4,ec,g5,g6,g7,g8,_⟩|⟨g4,c1,c3⟩
  ·have hO:aV (φ tid) (o tid)=true:=by rw[ho];exact tG hK g4
   have hX:=ve n hN g5;have hY:=oy g5;have hZ:n*aM e<=ec.length:=by rw[hY];exact Nat.mul_le_mul_right _ hN
   have hz:bf (aC (ah X φ o w) w e) l (ec.take (n*aM e)):=by rw[hl];exact hX.1
   by_cases hc:n+m.length<=cap
   ·rw[NW g4];obtain⟨c,el,lo,hi,r1,r2,r3⟩:=hA g4;have h0:n*aM e+m.length*aM e<=cap*aM e:=by rw[<-Nat.add_mul];exact Nat.mul_le_mul_right _ hc
    have hf:=qhi (ts:=ts) (ty:=ty) (w:=w) (b:=(φ tid).block) (off:=(φ tid).off) (n:=n) (cap:=cap) (m:=m.length) ht hu k1 (hv w) (hq w rfl) r1 hc (by rw[k2,Bn];omega) (by rw[k2,Bn];omega) (Oe hr);rw[k2] at hf;have h5:aP false (cR m)=false:=rfl;rw[h5];have hH:(l++m).length=n+m.length:=by rw[zm,<-hn]
    have hs:(φ tid).off+n*aM e+news.length<=c.size:=by rw[Bn];omega
    refine⟨_,_,φ,hf,?_⟩;have hM:∀k,k<=cap*aM e->room (w.setRow (φ tid).block (ov c.toList ((φ tid).off+n*aM e) news).toArray) (φ tid) k:=fun k hk=>AJ r1 hs ⟨c,el,lo,hi,r1,by omega,by omega⟩;refine Comes.write hm _ (fun _=>hO) (by simp) (fun b hb=>setRow_other w _ b _ (fun e=>hb ⟨hO,e.symm⟩)) (hG _ _ _) (fun h1 h2 h3=>?_) (Oi hm ho hK (.ov r1 hs)) (fun hB=>?_)
    ·refine⟨by rw[hH];unfold cj;omega,by simp,fun _=>.inl ⟨g4,ec.take (n*aM e)++news,nD (gG h1 h2 e) (Iw hz hr),?_,hM 0 (Nat.zero_le _),fun _=>hM _ ?_,by simp⟩⟩
     ·have:=Oj (k:=n*aM e) (ds:=news) r1 (Kb (n*aM e) g6) (by simp[hZ]) hs;have e1:ov (ec.take (n*aM e)) (n*aM e) news=ec.take (n*aM e)++news:=by unfold ov;rw[List.take_take,Nat.min_self,zN (by simp;omega),zE]
      rw[e1] at this;exact this
     ·rw[hH];exact Nat.mul_le_mul_right _ hc
    ·unfold au;rw[hB];refine⟨Nat.le_refl _,fun _=>.inr ⟨rfl,cap,(by rw[hH,NW g4]),(by rw[hH];exact hc),(fun h=>by rw[g4] at h;cases h),fun _ _=>hM _ (Nat.le_refl _)⟩⟩
   ·have hJ:(Builtin.firstCells i.size n (.slice (some (bare (φ tid))) n cap)).run C.P w.drew=.ok (ec.take (n*aM e)).toArray w.drew:=by refine run_firstCells_some w.drew i.size n (bare (φ tid)) n cap _ (by rw[k2];simp;omega) (fun j v hj=>?_);rw[tL (a:=bare (φ tid)) (QH g4)];exact gU.1 (Kb _ g6) j v hj
    exact grow (some (bare (φ tid))) n cap _ hn om rfl hz hJ rfl
  ·have hy:cap=0:=hW (by cases h:(φ tid).spot with
    |none=>exact absurd h g4
    |some _=>rfl)
   have hI:n=0:=om
   have h6:l=[]:=zQ om;subst h6;cases hw:m with
   |nil=>
    subst hw;have hF:news=[]:=zQ (by rw[Bn];simp);subst hF;have hf:=qdh (ts:=ts) (ty:=ty) (w:=w) (base:=bare (φ tid)) (n:=n) (cap:=cap) ht hu k1 (hv w) (hq w rfl) hL;refine⟨_,w,φ,hf,?_⟩;refine Comes.write hm _ (fun h=>absurd (Bg h).2.2 g4) rfl (fun _ _=>rfl) (hG w (φ tid) _) (fun _ _ _=>⟨by simp,by simp,fun _=>.inr ⟨g4,rfl,c3⟩⟩) (fun h=>absurd h c3) (fun hB=>?_);unfold au;rw[hB];refine⟨Nat.le_refl _,fun _=>.inr ⟨rfl,cap,?_,?_,fun _=>hy,fun _ h=>absurd h g4⟩⟩
    ·rw[hI];rfl
    ·simp
   |cons y r=>rw[<-hw];refine grow (some (bare (φ tid))) n cap [] (by simpa using hI) (by rw[hw,hI,hy];simp) rfl rfl ?_ rfl;refine run_firstCells_some w.drew i.size n (bare (φ tid)) n cap _ (by rw[hI];simp) (fun j v hj=>by simp at hj)
theorem Ri{id ver:Nat}{e:Ty}{nil:Bool}{l m:List (den e)}{v:V}{u:List (Nat×Obj)}(h:(JI lf id ver e nil l m).gives v u):l.length+m.length<=2147483648/\v=.cK id ver/\u=[(id,.vec e ver false ⟨aP nil (cR m),l++m⟩)]:=by unfold JI at h;rw[mN] at h;obtain⟨y,h1,h2⟩:=h;simp only[Prod.mk.injEq] at h2;obtain⟨rfl,rfl⟩:=h2;have:=Re h1;have h3:(l.length:Int)+(m.length:Int)<=2147483648:=this;exact⟨by omega,rfl,rfl⟩
theorem qm9(hC:cf C)(hm:MRel C X φ o w){fr:Nat}{t u ty:TypeId}{ts:List TypeId}{x y:V}{zx zy:Value}{v:V}{u':List (Nat×Obj)}(hx:au φ o (ah X φ o w) w x zx)(hy:au φ o (ah X φ o w) w y zy)(h:(P5 lf C o fr t u x y).gives v u')(hf:jH fr o u'):dG C X φ o w v u' (Builtin.append_ (t::u::ts).toArray ty #[zx,zy]):=by
 unfold P5 at h;split at h
 ·cases h
 ·rename_i e he;obtain⟨ei,ht,_,he⟩:=Q3 he;split at h
  ·cases h
  ·rename_i m hA;rw[dC,zd] at h;obtain⟨⟨h1,_⟩,h⟩:=h;have hu:=qm8 h1;obtain⟨news,n1,n2,n3,n4⟩:=qjk hm hy hA;cases x<;>try exact False.elim h
   ·rename_i id ver;simp only at h;split at h
    ·rename_i e' aE s ho;split at h
     ·rename_i s' hs;rw[dC] at h;obtain⟨hv,h⟩:=h;obtain⟨h3,h4⟩:=wq hs;injection h3 with h3;subst h3 h4;obtain⟨g1,rfl,rfl⟩:=Ri h;have hc:=hm.ay id;unfold au at hx;rw[ho] at hx hc;have hv:=zg hv;have hx:=hx.2 hv;refine Rh hC hm he ht hu (fun _ _ _=>by rw[ho];exact .inl om) ?_ n1 n3 n4 g1;rcases hx with ⟨k1,rfl⟩|⟨k1,cap,rfl,k2,k4,k3⟩
      ·exact .inl ⟨k1,hc.2.1 k1,rfl⟩
      ·exact .inr ⟨k1,s'.l.length,cap,_,s',ho,k1,rfl,Nat.le_refl _,(List.take_length).symm,rfl,k2,k4,k3 rfl⟩
     ·cases h
    ·cases h
   ·rename_i id ver n cp;simp only at h;split at h
    ·rename_i e' aE DZ s ho;split at h
     ·rename_i s' hs;rw[dC] at h;obtain⟨hv,h⟩:=h;obtain⟨h3,h4⟩:=wq hs;injection h3 with h3;subst h3 h4;split at h
      ·obtain⟨g1,rfl,rfl⟩:=Ri h;have hc:=hm.ay id;unfold au at hx;rw[ho] at hx hc;have hv:=zg hv;obtain⟨hn,hx,_⟩:=hx.2 hv;refine Rh hC hm he ht hu (fun _ _ _=>by rw[ho];exact .inl om) ?_ n1 n3 n4 g1;rcases hx with ⟨k1,rfl⟩|⟨k1,cap,rfl,k2,k3⟩
       ·exact .inl ⟨k1,by simp[lf,aN,hc.2.1 k1],rfl⟩
       ·exact .inr ⟨k1,n,cap,_,s',ho,k1,by simp[lf,aN,Nat.min_eq_left hn],hn,rfl,rfl,k2,k3.1,k3.2 rfl⟩
      ·rw[mN] at h;obtain⟨y,h2,h3⟩:=h;simp only[Prod.mk.injEq] at h3;obtain⟨rfl,rfl⟩:=h3;obtain⟨_,hg,hl⟩:=wu h2;have hg:=Re hg;have hl:aq (cR m) none (some ())=some y:=hl;have hB:m≠[]:=fun h=>by rw[h] at hl;cases hl
       have hG:=List.length_pos_iff.2 hB;have hk:o fr=.none:=hf _ (zf ..) (Nat.le_refl _) (by show fr<fr+16;omega);have hc:=hm.ay id;unfold au at hx;rw[ho] at hx hc;have hv:=zg hv;obtain⟨hn,hx,hq⟩:=hx.2 hv;have hq:=hq rfl;have e2:(lf.aN s'.l n).length=n:=by simp[lf,aN,Nat.min_eq_left hn]
       have hg:((lf.aN s'.l n).length:Int)+(m.length:Int)<=2147483648:=hg;rcases hx with ⟨k1,rfl⟩|⟨k1,cap,rfl,k2,k4,k3⟩
       ·have hE:=hc.2.1 k1;have hw:n=0:=by rw[hE] at hn;simpa using hn
        subst hw;have hz:lf.aN s'.l 0=[]:=by simp[lf,aN]
        exact Rg hC hm he ht hu (fun _ _ _=>by rw[hk];trivial) n1 n3 n4 (l:=lf.aN s'.l 0) om (base:=none) (n:=0) (cap:=0) (olds:=[]) e2.symm om rfl (by rw[hz];rfl) (run_firstCells_none (P:=C.P) w.drew _ 0 0 0)
       ·have hF:cap=n:=hq _ _ _ rfl;subst hF;rcases hc.2.2 k1 with ⟨g4,ec,g5,g6,_⟩|⟨_,g5,_⟩
        ·refine Rg hC hm he ht hu (fun _ _ _=>by rw[hk];trivial) n1 n3 n4 (l:=lf.aN s'.l cap) om (base:=some (bare (φ id))) (n:=cap) (cap:=cap) (olds:=ec.take (cap*aM e')) e2.symm om rfl (ve cap hn g5).1 ?_;have hH:=oy g5;have hI:=Nat.mul_le_mul_right (aM e') hn;refine run_firstCells_some w.drew (aM e') cap (bare (φ id)) cap cap _ (by simp;omega) (fun j v hj=>?_);rw[tL (a:=bare (φ id)) (QH g4)];exact gU.1 (Kb _ g6) j v hj
        ·have hw:cap=0:=by rw[g5] at hn;simpa using hn
         have hz:lf.aN s'.l cap=[]:=by rw[g5];simp[lf,aN]
         refine Rg hC hm he ht hu (fun _ _ _=>by rw[hk];trivial) n1 n3 n4 (l:=lf.aN s'.l cap) om (base:=some (bare (φ id))) (n:=cap) (cap:=cap) (olds:=[]) e2.symm om rfl (by rw[hz];rfl) ?_;exact run_firstCells_some w.drew (aM e') cap (bare (φ id)) cap cap _ (by rw[hw];simp) (fun j v hj=>by simp at hj)
      ·cases h
     ·cases h
    ·cases h
   ·obtain⟨g1,rfl,rfl⟩:=Ri h;have hk:o fr=.none:=hf _ (zf ..) (Nat.le_refl _) (by show fr<fr+16;omega);exact Rh hC hm he ht hu (fun _ _ _=>by rw[hk];trivial) (.inl ⟨rfl,rfl,hx⟩) n1 n3 n4 g1
end
theorem z3h(l ds:List Value)(b k n:Nat)(hk:k+ds.length<=n)(hn:b+n<=l.length):ov l b (ov ((l.drop b).take n) k ds)=ov l (b+k) ds:=by
 have hl:((l.drop b).take n).length=n:=by simp;omega
 apply List.ext_getElem?;intro j;rw[Kj l (ov ((l.drop b).take n) k ds) b j om,Q5 _ _ _ om,hl,Kj l ds (b+k) j om];by_cases h1:j<b
 ·rw[if_pos h1,if_pos om]
 ·rw[if_neg h1];by_cases h2:j<b+n
  ·rw[if_pos h2,Kj ((l.drop b).take n) ds k (j-b) om];by_cases h3:j<b+k
   ·rw[if_pos h3,if_pos om,List.getElem?_take,if_pos om,List.getElem?_drop];congr 1;omega
   ·rw[if_neg h3,if_neg om];by_cases h4:j<b+k+ds.length
    ·rw[if_pos h4,if_pos om];congr 1;omega
    ·rw[if_neg h4,if_neg om,List.getElem?_take,if_pos om,List.getElem?_drop];congr 1;omega
  ·rw[if_neg h2,if_neg om,if_neg om]
theorem qtc(l ds:List Value)(h:l.length=ds.length):ov l 0 ds=ds:=by unfold ov;rw[List.take_zero,List.nil_append,zL,zN om,zE]
section
variable {P:Program} {C:Cx} {X:Nat→Prop} {φ φ':Nat→Addr} {o o':Nat→Obj} {w w':World} {imm imm':Nat→Prop}
def wZ(C:Cx)(X:Nat->Prop)(φ:Nat->Addr)(o:Nat->Obj)(w:World)(v:V)(u:List (Nat×Obj))(s:Sem Unit):Prop:=∃w' φ',s.run C.P w=.ok () w'/\Comes C X φ φ' o u w w' v undef
theorem qtd:∀(p:Ty) (f:Nat) (x:den p) (g:(t:Ty)->den t->Option (den t)) {y:den p} {u:Ty},uT p f x g=some y->ow p f=some u->∃(a b:den u),g u a=some b/\∀cs ds (imm:Nat->Prop) (w:World),aC imm w p x cs->(aC imm w u a ((cs.drop (fw p f)).take (aM u))->aC imm w u b ds)->fw p f+aM u<=cs.length/\aC imm w u a ((cs.drop (fw p f)).take (aM u))/\aC imm w p y (ov cs (fw p f) ds):=by
 have base:∀(t:Ty) (x y:den t) (g:(t:Ty)->den t->Option (den t)),g t x=some y->
   ∃(a b:den t),g t a=some b/\∀cs ds (imm:Nat->Prop) (w:World),aC imm w t x cs->(aC imm w t a ((cs.drop 0).take (aM t))->aC imm w t b ds)->0+aM t<=cs.length/\aC imm w t a ((cs.drop 0).take (aM t))/\aC imm w t y (ov cs 0 ds):=by
  intro t x y g h;refine⟨x,y,h,fun cs ds imm w hc hd=>?_⟩;have hl:=gB _ _ _ hc;have e:(cs.drop 0).take (aM t)=cs:=by rw[List.drop_zero,<-hl,List.take_length]
  rw[e] at hd ⊢;have hd:=hd hc;have he:=gB _ _ _ hd;exact⟨by omega,hc,by rw[qtc _ _ om];exact hd⟩
 intro p
 induction p with
 |pair a b _ jF=>
  intro f x g y u h ht;cases f with
  |zero=>
   simp only[uT] at h;split at h
   ·rename_i y1 h1;injection h with h;subst h;have:=zI ht;subst this;refine⟨x.1,y1,h1,fun cs ds imm w ⟨c,d,e,h2,h3⟩ hd=>?_⟩;have hl:=gB _ _ _ h2;subst e;have e1:((c++d).drop 0).take (aM a)=c:=by rw[List.drop_zero,<-hl,List.take_left'];rfl
    simp only[fw] at hd ⊢;rw[e1] at hd ⊢;have hd:=hd h2;have he:=gB _ _ _ hd;refine⟨by simp;omega,h2,ds,d,?_,hd,h3⟩;unfold ov;rw[List.take_zero,List.nil_append,zL,he,<-hl,List.drop_left'];rfl
   ·cases h
  |succ n=>
   simp only[uT] at h;split at h
   ·rename_i y1 h1;injection h with h;subst h;obtain⟨a',b',g1,g2⟩:=jF n x.2 g h1 ht;refine⟨a',b',g1,fun cs ds imm w ⟨c,d,e,h2,h3⟩ hd=>?_⟩;have hl:=gB _ _ _ h2;subst e;simp only[fw] at hd ⊢;rw[<-hl,List.drop_length_add_append] at hd ⊢;obtain⟨k1,k2,k3⟩:=g2 d ds imm w h3 hd;refine⟨by simp;omega,k2,c,ov d (fw b n) ds,?_,h2,k3⟩;unfold ov;rw[List.take_length_add_append,Nat.add_assoc,List.drop_length_add_append];simp
   ·cases h
 |unit=>intro f x g y u h ht;cases f<;>cases ht
 |int k=>intro f x g y u h ht;cases f with|zero=>have:=zI ht;subst this;exact base _ _ _ _ h|succ n=>cases ht
 |bool=>intro f x g y u h ht;cases f with|zero=>have:=zI ht;subst this;exact base _ _ _ _ h|succ n=>cases ht
 |eD=>intro f x g y u h ht;cases f with|zero=>have:=zI ht;subst this;exact base _ _ _ _ h|succ n=>cases ht
 |eU=>intro f x g y u h ht;cases f with|zero=>have:=zI ht;subst this;exact base _ _ _ _ h|succ n=>cases ht
 |str=>intro f x g y u h ht;cases f with|zero=>have:=zI ht;subst this;exact base _ _ _ _ h|succ n=>cases ht
 |sl e=>intro f x g y u h ht;cases f with|zero=>have:=zI ht;subst this;exact base _ _ _ _ h|succ n=>cases ht
 |ks q _=>
  intro f x g y u h ht;cases f with
  |succ n=>cases ht
  |zero=>
   have:=zI ht;subst this;simp only[uT] at h;split at h
   ·rename_i b h1;injection h with h;subst h;obtain⟨a',b',g1,g2⟩:=base (.sl (mH q)) (A3 q x) b g h1;refine⟨a',b',g1,fun cs ds imm w hc hd=>?_⟩;obtain⟨k1,k2,k3⟩:=g2 cs ds imm w ((Iy q x cs).1 hc) hd;exact⟨k1,k2,(Iy q _ _).2 (by rw[QE];exact k3)⟩
   ·cases h
 |st q=>intro f x g y u h ht;cases f with|zero=>have:=zI ht;subst this;exact base _ _ _ _ h|succ n=>cases ht
 |arr m e=>intro f x g y u h ht;cases f with|zero=>have:=zI ht;subst this;exact base _ _ _ _ h|succ n=>cases ht
theorem qjm:∀(path:List Nat) (t:Ty) (x:den t) (g:(t:Ty)->den t->Option (den t)) {y:den t} {u:Ty},EE path t x g=some y->Au path t=some u->∃(a b:den u),g u a=some b/\∀cs ds (imm:Nat->Prop) (w:World),aC imm w t x cs->aC imm w u b ds->iX path t+aM u<=cs.length/\aC imm w t y (ov cs (iX path t) ds)
 |[],t,x,g,y,u,h,ht=>by have:=zI ht;subst this;refine⟨x,y,h,fun cs ds imm w hc hd=>?_⟩;have hl:=gB _ _ _ hc;have he:=gB _ _ _ hd;exact⟨by simp[iX];omega,by rw[show iX [] t=0 from rfl,qtc _ _ om];exact hd⟩
 |f::r,t,x,g,y,u,h,ht=>by
  cases t<;>simp only[Au] at ht<;>try (cases ht;done)
  rename_i p;split at ht
  ·rename_i u1 h1;obtain⟨a,b,g1,g2⟩:=qtd p f x _ h h1;obtain⟨a',b',g3,g4⟩:=qjm r u1 a g g1 ht;refine⟨a',b',g3,fun cs ds imm w hc hd=>?_⟩;have hl:aC imm w u1 a ((cs.drop (fw p f)).take (aM u1))->iX r u1+aM u<=aM u1/\aC imm w u1 b (ov ((cs.drop (fw p f)).take (aM u1)) (iX r u1) ds):=fun ha=>by obtain⟨k1,k2⟩:=g4 _ ds imm w ha hd;rw[gB _ _ _ ha] at k1;exact⟨k1,k2⟩
   obtain⟨k1,k2,k3⟩:=g2 cs (ov ((cs.drop (fw p f)).take (aM u1)) (iX r u1) ds) imm w hc (fun ha=>(hl ha).2);obtain⟨k4,_⟩:=hl k2;have hf:=gB _ _ _ hd;rw[z3h _ _ _ _ _ om k1] at k3;simp only[iX,Q0 h1];exact⟨by omega,k3⟩
  ·cases ht
theorem Rj{id:Nat}:∀{l:List Nat},Av id l=true->id∉l
 |[],_=>by simp
 |b::r,h=>by
  simp only[Av] at h;cases hb:Nat.beq b id with
  |true=>rw[hb] at h;cases h
  |false=>
   rw[hb] at h;have:=Rj h;intro hm;rcases zt.1 hm with rfl|hm
   ·rw[Nat.beq_refl] at hb;cases hb
   ·exact this hm
theorem qbx{t:TypeId}{i:TypeInfo}(hi:P.info? t=some i){a:Addr}(hs:a.spot=none){z:Value}(hz:z.cells.size=i.size){c:Array Value}{el:TypeId}{lo hc:Nat}(hh:w.heap[a.block]?=some (.cells c el (lo,hc)))(hb:a.off+z.cells.size<=c.size)(hf:hc<=lo\/hc<=a.off\/a.off+z.cells.size<=lo)(h1:∀v∈z.cells.toList,v.oneCell'=true):(Instr.storeAt t (.pointer (some a)) z).run P w=.ok () (w.setRow a.block (ov c.toList a.off z.cells.toList).toArray):=by
 have he:=Kh (P:=P) (b:=a.block) (off:=a.off) z.cells.toList 0 c w hh (by simpa using hb) (by simpa using hf) h1;simp only[Nat.add_zero] at he;have ha:a=⟨a.block,a.off,none⟩:=by rw[<-hs]
 rw[<-ha] at he;simp[Instr.storeAt,Instr.sureAddr,storeVar,iY hi,hz,he]
theorem qfn(hC:cf C)(hm:MRel C X φ o w){t:TypeId}{x y:V}{zx zy:Value}{v:V}{u:List (Nat×Obj)}(hx:au φ o (ah X φ o w) w x zx)(hy:au φ o (ah X φ o w) w y zy)(h:(Nv lf C o t x y).gives v u):wZ C X φ o w v u (Instr.storeAt t zx zy):=by
 unfold Nv at h;split at h
 ·rename_i id off;split at h
  ·rename_i cs ho;split at h
   ·rename_i vs hB;split at h
    ·rename_i b n hk;rw[dC,df,zd,zd] at h;obtain⟨⟨⟨h1,h2⟩,hv⟩,rfl,rfl⟩:=h;have hv:ou vs=false:=by simpa using hv
     have h1:=zg h1;have h2:=zF h2;obtain⟨i,d,g1,g2,g3,g4⟩:=D6 hk;obtain⟨k1,k2⟩:=Q7 hy hB;have hc:=hm.ay id;unfold au at hx;rw[ho] at hx hc;simp only at hx;subst hx;obtain⟨h0,c,el,lo,hi,r1,r2,r3⟩:=hc;have l1:=wW k1;have l2:=wW r3;simp only[Array.length_toList] at l1 l2;have hq:aV (φ id) (o id)=true:=by rw[ho];rfl
     have hj:=qbx (P:=C.P) (w:=w) g1 (a:=⟨(φ id).block,(φ id).off+off,none⟩) rfl (z:=zy) om r1 (by simp only;omega) (.inl r2) k2;refine⟨_,φ,hj,?_⟩;refine Comes.write hm _ (fun _=>hq) (by simp) (fun b hb=>setRow_other w _ b _ (fun e=>hb ⟨hq,e.symm⟩)) (by rw[ho];exact rfl) (fun a1 a2 a3=>?_) (z1c hm ho (fun h=>qm6 h hv) (.ov r1 (by simp only[Array.length_toList];omega))) (fun _=>rfl);refine⟨h0,_,el,lo,hi,Oc r1 _,r2,?_⟩;have:=D3 a3 _ _ (qji off r3 k1);simpa[h0] using this
    ·cases h
   ·cases h
  ·cases h
 ·rename_i id ver i path;split at h
  ·rename_i e aE s ho;split at h
   ·rename_i t' ht;rw[dC,mN,zd,zd] at h;obtain⟨⟨⟨h1,h2⟩,h3⟩,y',h4,h5⟩:=h;simp only[Prod.mk.injEq] at h5;obtain⟨rfl,rfl⟩:=h5;obtain⟨x0,h6,h7⟩:=wu h4;have h6:s.l[i]?=some x0:=h6;obtain⟨a,b,g1,g2⟩:=qjm path e x0 _ h7 ht;have hf:=Ka hm (eJ o y);have hE:id∉eJ o y:=Rj h3;have hs:ak o (dN o (eJ o y)) id=.vec e aE false s:=by
     rcases D5 (o:=o) (eJ o y) id with ⟨k1,_⟩|⟨t1,v1,f1,s1,k1,k2⟩
     ·rw[k1,ho]
     ·have:id∈bJ (dN o (eJ o y)):=by
       by_cases hk:id∈bJ (dN o (eJ o y))
       ·exact hk
       ·rw[gS hk,ho] at k2;cases k2
      exfalso;have key:∀ks:List Nat,id∈bJ (dN o ks)->id∈ks:=by
       intro ks
       induction ks with
       |nil=>intro h;cases h
       |cons q r ih=>
        intro h;simp only[dN] at h;split at h
        ·rcases zt.1 h with h|h
         ·exact h▸zf ..
         ·exact zh _ (ih h)
        ·exact zh _ (ih h)
      exact hE (key _ this)
    have hF:=hf.keeps _ _ hy;have hw:=hf.keeps _ _ hx;have hG:tK (ak o (dN o (eJ o y))) y:=N3 (fun _ h=>h);rw[<-qo4 (eJ o y)] at g1;have hd:=QW hf.mem hF hG g1;have hT:=hC.dP _ _ (bR h2);have hz:=qfk hT hd;obtain⟨ii,zz,m1,_,m2,_⟩:=hT.info;have hc:=hf.mem.ay id;unfold au at hw;rw[hs] at hw hc;obtain⟨hi,rfl⟩:=hw.2 (zg h1);obtain⟨b1,b2,b3⟩:=hc;have hn:s.nil=false:=by
     cases hn:s.nil with
     |false=>rfl
     |true=>rw[b2 hn] at hi;simp at hi
    obtain⟨b4,ec,b5,b6,b7,b8,_⟩:=(b3 hn).resolve_right fun g=>by rw[g.2.1] at hi;simp at hi
    have hq:aV (φ id) (ak o (dN o (eJ o y)) id)=true:=by rw[hs];exact tG hn b4
    obtain⟨hu,hH⟩:=zB.1 h6;have hl:=JX b5 i hu;rw[hH] at hl;have hI:=oy b5;have hJ:(i+1)*aM e<=s.l.length*aM e:=Nat.mul_le_mul_right _ hu;rw[Nat.succ_mul] at hJ;have he:=gB _ _ _ hl;obtain⟨p1,p2⟩:=g2 _ zy.cells.toList _ w hl hz;rw[he] at p1;have hK:=gB _ _ _ hz;simp only[Array.length_toList] at hK;obtain⟨c,el,lo,hL,r1,r2,r3⟩:=b8 rfl;have hj:=qbx (P:=C.P) (w:=w) m1 (a:=⟨(φ id).block,(φ id).off+i*aM e+iX path e,none⟩) rfl (z:=zy) om r1 (by simp only;omega) (by simp only;omega) (E5 _ _ _ hz);refine⟨_,φ,hj,hf.trans ?_⟩;have hg:(φ id).off+(i*aM e+iX path e)+zy.cells.toList.length<=c.size:=by simp;omega
    refine Comes.write hf.mem _ (fun _=>hq) (by simp) (fun b hb=>setRow_other w _ b _ (fun e=>hb ⟨hq,e.symm⟩)) ?_ (fun a1 a2 a3=>?_) (Oi hf.mem hs hn (.ov r1 (by simp only[Array.length_toList];omega))) (fun _=>rfl)
    ·rw[hs];refine .inr ⟨rfl,rfl,rfl,by simp[lf,eP],rfl,fun _=>⟨rfl,fun _ _ n hr=>?_⟩⟩;have:=AJ (off:=(φ id).off+(i*aM e+iX path e)) (ds:=zy.cells.toList) r1 hg hr;simpa[Nat.add_assoc] using this
    ·have hA:bf (aC (ah X φ (ak o (dN o (eJ o y))) w) w e) (s.l.set i y') (ov ec (i*aM e+iX path e) zy.cells.toList):=by have:=Od (i:=i) (m:=[y']) (by show i+1<=s.l.length;exact hu) b5 ⟨_,[],(zE _).symm,p2,rfl⟩;rw[z3h _ _ _ _ _ (by simp;omega) om] at this;rw[List.set_eq_take_append_cons_drop,if_pos hu];simpa using this
     refine⟨by simpa[lf,eP] using b1,fun h=>(by rw[hn] at h;cases h),fun _=>.inl ⟨b4,_,nD (gG a1 a2 e) hA,?_,?_,fun _=>?_,by simp⟩⟩
     ·have:=Oj (k:=i*aM e+iX path e) (ds:=zy.cells.toList) r1 b6 om hg;simpa[Nat.add_assoc] using this
     ·have:=AJ (off:=(φ id).off+(i*aM e+iX path e)) (ds:=zy.cells.toList) r1 hg b7;simpa[Nat.add_assoc] using this
     ·have:=AJ (off:=(φ id).off+(i*aM e+iX path e)) (ds:=zy.cells.toList) r1 hg (b8 rfl);simpa[Nat.add_assoc,lf,eP] using this
   ·cases h
  ·cases h
 ·cases h
end
section
variable {P:Program} {C:Cx} {X:Nat→Prop} {φ φ':Nat→Addr} {o o':Nat→Obj} {w w':World} {imm imm':Nat→Prop}
theorem qte(hC:cf C)(hm:MRel C X φ o w){t ty:TypeId}{ts:List TypeId}{x y:V}{zx zy:Value}{v:V}{u:List (Nat×Obj)}(hx:au φ o (ah X φ o w) w x zx)(hy:au φ o (ah X φ o w) w y zy)(h:(Qn lf C o t x y).gives v u):dG C X φ o w v u (Builtin.copy_ (t::ts).toArray ty #[zx,zy]):=by
 unfold Qn at h;split at h
 ·rename_i id ver;split at h
  ·rename_i e aE s ho;split at h
   ·rename_i m hH;rw[dC,df,zd] at h;obtain⟨⟨h1,h2⟩,rfl,rfl⟩:=h;have h1:=zg h1;subst h1;obtain⟨ei,ht,_,he⟩:=AG h2;obtain⟨i,z,k1,_,k2,k3,k4,k5,k6⟩:=(hC.dP _ _ he).info;obtain⟨news,n1,n2,n3,n4⟩:=qjk (P:=C.P) hm hy hH;have hl:=hm.ay id;unfold au at hx;rw[ho] at hx hl;obtain⟨b1,b2,b3⟩:=hl;have hj:fJ .i64 (lf.jD (lf.n s.l) (lf.n m)):=by simp only[lf,jD,aa];unfold cj at b1 n2;unfold fJ IntKind.min IntKind.max;simp[IntKind.signed,IntKind.bits];split<;>omega
    have hk:(lf.jD (lf.n s.l) (lf.n m))=((Nat.min m.length s.l.length:Nat):Int):=by simp only[lf,jD,aa];have:Nat.min m.length s.l.length=min m.length s.l.length:=rfl;rw[this];split<;>omega
    have hc:(pr s.l m).length=s.l.length:=by unfold pr;simp;omega
    rcases hx.2 rfl with ⟨hn,rfl⟩|⟨hn,cap,rfl,c1,c4,c2⟩
    ·have hs:=b2 hn;have hq:=n4 w 0 rfl (Nat.zero_le _);rw[<-k2] at hq;have hf:(Builtin.copy_ (t::ts).toArray ty #[.slice none 0 0,zy]).run C.P w=.ok (goInt 0) w:=by simp[Builtin.copy_,run_underlying ht,n3 w,iY k1,hq]
     refine⟨_,w,φ,hf,Comes.write hm _ (by simp[aV,live,hn]) rfl (fun _ _=>rfl) (by rw[ho];exact .inr ⟨rfl,rfl,rfl,hc.symm,rfl,fun _=>⟨rfl,fun _ _ _ h=>h⟩⟩) (fun _ _ _=>⟨?_,fun _=>?_,fun h=>(by rw[hn] at h;cases h)⟩) (fun _ h=>(by have h:s.nil=false:=h;rw[hn] at h;cases h)) (fun _=>?_)⟩
     ·show(pr s.l m).length<=cj;omega
     ·exact zQ (by show(pr s.l m).length=0;rw[hc,hs];rfl)
     ·rw[hk] at hj ⊢;rw[hs] at hj ⊢;have e0:((Nat.min m.length ([]:List (den e)).length:Nat):Int)=0:=by simp
      rw[e0] at hj ⊢;exact lH hj
    ·rcases b3 hn with ⟨b4,ec,b5,b6,b7,b8,_⟩|⟨b4,d1,d3⟩
     ·have hB:aV (φ id) (o id)=true:=by rw[ho];exact tG hn b4
      obtain⟨c,el,lo,hi,r1,r2,r3⟩:=b8 rfl;have hu:Nat.min m.length s.l.length<=m.length:=Nat.min_le_left _ _;have hI:Nat.min m.length s.l.length<=s.l.length:=Nat.min_le_right _ _;have hJ:=Nat.mul_le_mul_right (aM e) hI;have hE:=n4 w (Nat.min m.length s.l.length) rfl hu;rw[<-k2] at hE;have hM:=oy n1;have hK:=Nat.mul_le_mul_right (aM e) hu;have hv:(news.take (Nat.min m.length s.l.length*i.size)).length=Nat.min m.length s.l.length*aM e:=by rw[k2];simp only[zJ];omega
      have hw:=(ve (Nat.min m.length s.l.length) hu n1).1;rw[<-k2] at hw;have hz:=Kh (P:=C.P) (b:=(φ id).block) (off:=(φ id).off) (news.take (Nat.min m.length s.l.length*i.size)) 0 c w r1 (by rw[hv];omega) (by rw[hv];omega) (Oe hw);simp only[Nat.add_zero] at hz;have cU:(⟨(φ id).block,(φ id).off,none⟩:Addr)=bare (φ id):=(NW b4).symm;rw[cU] at hz;have hf:(Builtin.copy_ (t::ts).toArray ty #[.slice (some (bare (φ id))) s.l.length cap,zy]).run C.P w=.ok (goInt ((Nat.min m.length s.l.length:Nat):Int)) (w.setRow (φ id).block (ov c.toList (φ id).off (news.take (Nat.min m.length s.l.length*i.size))).toArray):=by simp[Builtin.copy_,run_underlying ht,n3 w,iY k1,hE,hz]
      have hg:(φ id).off+(news.take (Nat.min m.length s.l.length*i.size)).length<=c.size:=by rw[hv];omega
      have hA:pr s.l m=s.l.take 0++m.take (Nat.min m.length s.l.length)++s.l.drop (0+(m.take (Nat.min m.length s.l.length)).length):=by
       unfold pr;rw[List.take_zero,List.nil_append,zL,zJ,Nat.min_eq_left hu];by_cases hF:m.length<=s.l.length
       ·have:Nat.min m.length s.l.length=m.length:=Nat.min_eq_left hF;rw[this,List.take_length,jc hF]
       ·have:Nat.min m.length s.l.length=s.l.length:=Nat.min_eq_right om;rw[this,zN (Nat.le_refl _),zN om]
      have hG:=Od (i:=0) (m:=m.take (Nat.min m.length s.l.length)) (by simp only[zL,zJ];omega) b5 hw;rw[<-hA,Nat.zero_mul] at hG;refine⟨_,_,φ,hf,Comes.write hm _ (fun _=>hB) (by simp) (fun b hb=>setRow_other w _ b _ (fun e=>hb ⟨hB,e.symm⟩)) ?_ (fun a1 a2 a3=>⟨?_,fun h=>(by rw[hn] at h;cases h),fun _=>.inl ⟨b4,_,nD (gG a1 a2 e) hG,?_,?_,fun _=>?_,by simp⟩⟩) (Oi hm ho hn (.ov r1 hg)) (fun _=>?_)⟩
      ·rw[ho];exact .inr ⟨rfl,rfl,rfl,hc.symm,rfl,fun _=>⟨rfl,fun _ _ n hr=>AJ r1 hg hr⟩⟩
      ·show(pr s.l m).length<=cj;omega
      ·have:=Oj (k:=0) (ds:=news.take (Nat.min m.length s.l.length*i.size)) r1 b6 (Nat.zero_le _) (by simpa using hg);simpa using this
      ·exact AJ r1 hg b7
      ·show room _ _ ((pr s.l m).length*aM e);rw[hc];exact AJ r1 hg (b8 rfl)
      ·rw[hk] at hj ⊢;exact lH hj
     ·have hL:Nat.min m.length s.l.length=0:=by rw[d1];exact Nat.min_zero _
      have hq:=n4 w 0 rfl (Nat.zero_le _);rw[<-k2] at hq;have hs:pr s.l m=[]:=zQ (by rw[hc,d1];rfl);have hf:(Builtin.copy_ (t::ts).toArray ty #[.slice (some (bare (φ id))) s.l.length cap,zy]).run C.P w=.ok (goInt 0) w:=by rw[d1];simp[Builtin.copy_,run_underlying ht,n3 w,iY k1,hq,storeCells]
      refine⟨_,w,φ,hf,Comes.write hm _ (fun h=>absurd (Bg h).2.2 b4) rfl (fun _ _=>rfl) (by rw[ho];exact .inr ⟨rfl,rfl,rfl,hc.symm,rfl,fun _=>⟨rfl,fun _ _ _ h=>h⟩⟩) (fun _ _ _=>⟨?_,fun h=>(by rw[hn] at h;cases h),fun _=>.inr ⟨b4,hs,d3⟩⟩) (fun h=>absurd h d3) (fun _=>?_)⟩
      ·show(pr s.l m).length<=cj;omega
      ·rw[hk,hL] at hj ⊢;exact lH hj
   ·cases h
  ·cases h
 ·cases h
theorem qtf{P:Program}{t ei:TypeId}{ts:List TypeId}{ty:TypeId}{i:TypeInfo}{z:Value}(ht:P.underlying t=some (.slice ei))(hi:P.info? ei=some i)(hz:i.zero=some z){a:Addr}{n cap:Nat}{w w':World}(hn:n≠0)(hc:(storeCells a (Builtin.zeroCells z.cells n).toList 0).run P w=.ok () w'):(Builtin.clear_ (t::ts).toArray ty #[.slice (some a) n cap]).run P w=.ok (.tuple #[]) w':=by
 have h0:∀m,n=m+1->(Builtin.clear_ (t::ts).toArray ty #[.slice (some a) n cap]).run P w=.ok (.tuple #[]) w':=by rintro m rfl;simp[Builtin.clear_,run_underlying ht,wV hi hz,hc]
 exact h0 (n-1) om
theorem q8h{P:Program}{t ei:TypeId}{ts:List TypeId}{ty:TypeId}(ht:P.underlying t=some (.slice ei)){a:Option Addr}{cap:Nat}{w:World}:(Builtin.clear_ (t::ts).toArray ty #[.slice a 0 cap]).run P w=.ok (.tuple #[]) w:=by cases a<;>simp[Builtin.clear_,run_underlying ht]
theorem qtg{e:Ty}{imm:Nat->Prop}{w:World}{z:Value}(hz:aC imm w e (zero e) z.cells.toList)(n:Nat):bf (aC imm w e) (List.replicate n (zero e)) (Builtin.zeroCells z.cells n).toList:=by
 have h:(Builtin.zeroCells z.cells n).toList=(List.replicate n z.cells.toList).flatten:=by rw[<-Rb];simp[Builtin.zeroCells]
 rw[h];exact Rc hz n
theorem qqa(hC:cf C)(hm:MRel C X φ o w){t ty:TypeId}{ts:List TypeId}{x:V}{zx:Value}{v:V}{u:List (Nat×Obj)}(hx:au φ o (ah X φ o w) w x zx)(h:(Qp lf C o t x).gives v u):dG C X φ o w v u (Builtin.clear_ (t::ts).toArray ty #[zx]):=by
 unfold Qp at h;split at h
 ·rename_i id ver lo;split at h
  ·rename_i e aE s ho;rw[dC,df,zd] at h;obtain⟨⟨h1,h2⟩,rfl,rfl⟩:=h;have h1:=zg h1;subst h1;obtain⟨ei,ht,_,he⟩:=AG h2;obtain⟨i,z,k1,_,k2,k3,k4,k5,k6⟩:=(hC.dP _ _ he).info;have hl:=hm.ay id;unfold au at hx;rw[ho] at hx hl;obtain⟨b1,b2,b3⟩:=hl;obtain⟨k,rfl,hk,hx⟩:=hx.2 rfl;have e1:lf.gK s.l (k:Int) (zero e)=s.l.take k++List.replicate (s.l.length-k) (zero e):=by simp[lf,gK]
   have hg:(lf.gK s.l (k:Int) (zero e)).length=s.l.length:=by rw[e1];simp;omega
   have same:s.l.length-k=0->lf.gK s.l (k:Int) (zero e)=s.l:=fun h=>by rw[e1,h,List.replicate_zero,zE,jc om]
   have nothing:s.l.length-k=0->(Builtin.clear_ (t::ts).toArray ty #[zx]).run C.P w=.ok (.tuple #[]) w->dG C X φ o w (.fY []) [(id,.vec e ver false ⟨s.nil,lf.gK s.l (k:Int) (zero e)⟩)] (Builtin.clear_ (t::ts).toArray ty #[zx]):=by
    intro h0 hj;rw[same h0];refine⟨_,w,φ,hj,Comes.write hm _ (fun h=>by rw[ho];exact h) rfl (fun _ _=>rfl) (by rw[ho];exact .inr ⟨rfl,rfl,rfl,rfl,rfl,fun _=>⟨rfl,fun _ _ _ h=>h⟩⟩) (fun a1 a2 a3=>?_) ?_ (fun _=>⟨#[],rfl,rfl⟩)⟩
    ·exact EW a1 a2 a3 rfl (fun _=>rfl) (show o3 φ o (ah X φ o w) w id (.vec e ver false s) from⟨b1,b2,b3⟩)
    ·have:=hm.tH id;rw[ho] at this;exact this
   rcases hx with ⟨hn,rfl⟩|⟨hn,cap,rfl,hc⟩
   ·exact nothing (by rw[b2 hn];simp) (q8h ht)
   ·by_cases h0:s.l.length-k=0
    ·rw[h0];rw[h0] at nothing;exact nothing rfl (q8h ht)
    ·have hy:cap≠0:=om
     rw[if_neg hy];rcases b3 hn with ⟨b4,ec,b5,b6,b7,b8,_⟩|⟨_,b5,_⟩
     ·have hu:aV (φ id) (o id)=true:=by rw[ho];exact tG hn b4
      obtain⟨c,el,Bb,hi,r1,r2,r3⟩:=b8 rfl;have hs:=qtg (k6 (ah X φ o w) w) (s.l.length-k);have hq:=oy hs;rw[List.length_replicate] at hq;have hA:=oy b5;have hz:k*aM e+(s.l.length-k)*aM e=s.l.length*aM e:=by rw[<-Nat.add_mul];congr 1;omega
      have hv:=Kh (P:=C.P) (b:=(φ id).block) (off:=(φ id).off+k*aM e) (Builtin.zeroCells z.cells (s.l.length-k)).toList 0 c w r1 (by rw[hq];omega) (by rw[hq];omega) (Oe hs);simp only[Nat.add_zero] at hv;have hj:=qtf (ts:=ts) (ty:=ty) (cap:=cap) ht k1 k4 h0 hv;have hf:(φ id).off+k*aM e+(Builtin.zeroCells z.cells (s.l.length-k)).toList.length<=c.size:=by rw[hq];omega
      refine⟨_,_,φ,hj,Comes.write hm _ (fun _=>hu) (by simp) (fun b hb=>setRow_other w _ b _ (fun e=>hb ⟨hu,e.symm⟩)) ?_ (fun a1 a2 a3=>⟨by rw[hg];exact b1,fun h=>(by rw[hn] at h;cases h),fun _=>.inl ⟨b4,ov ec (k*aM e) (Builtin.zeroCells z.cells (s.l.length-k)).toList,?_,?_,?_,fun _=>?_,by simp⟩⟩) (Oi hm ho hn (.ov r1 hf)) (fun _=>⟨#[],rfl,rfl⟩)⟩
      ·rw[ho];exact .inr ⟨rfl,rfl,rfl,hg.symm,rfl,fun _=>⟨rfl,fun _ _ n hr=>AJ r1 hf hr⟩⟩
      ·have hw:=Od (i:=k) (m:=List.replicate (s.l.length-k) (zero e)) (by rw[List.length_replicate];omega) b5 hs;have e3:s.l.take k++List.replicate (s.l.length-k) (zero e)++s.l.drop (k+(List.replicate (s.l.length-k) (zero e)).length)=s.l.take k++List.replicate (s.l.length-k) (zero e):=by rw[List.length_replicate,zN om,zE]
       rw[e3,<-e1] at hw;exact nD (gG a1 a2 e) hw
      ·have:=Oj (k:=k*aM e) (ds:=(Builtin.zeroCells z.cells (s.l.length-k)).toList) r1 b6 om hf;exact this
      ·exact AJ r1 hf b7
      ·rw[hg];exact AJ r1 hf (b8 rfl)
     ·exfalso;apply h0;rw[b5];simp
  ·cases h
 ·cases h
end
section
variable {P:Program} {C:Cx} {X:Nat→Prop} {φ φ':Nat→Addr} {o o':Nat→Obj} {w w':World} {imm imm':Nat→Prop}
structure jI (C:Cx):Prop where
 eq:∀(w:World) (imm:Nat->Prop) (t:TypeId) (p:Ty) (a b:den p) (xs ys:Array Value),bH t C.eqs=true->C.ty t=some (.st p)->aC imm w p a xs.toList->aC imm w p b ys.toList->
   (Op.equal t (.agg xs) (.agg ys)).run C.P w=.ok (fo lf p a b) w
 guard:∀t,bH t C.eqs=true->C.P.eqGuardType C.P.depth t=false
def qjn(C:Cx)(f:Field):Bool:=(f.name != "_")&&(match C.ty f.type with
 |some (.int _)=>true
 |some .bool=>true
 |some .str=>true
 |some (.st _)=>bH f.type C.eqs
 |_=>false)
def Ol(C:Cx):List Field->Bool
 |[]=>true
 |f::r=>qjn C f&&Ol C r
def lN:Ty->Nat
 |.st p=>lN p+1
 |.pair a b=>lN a+lN b
 |_=>0
def Kk(C:Cx)(t:TypeId):Bool:=!(C.P.stoodInHeld t)&&!(C.P.eqGuardType C.P.depth t)&&(match desc C.P t with
 |some (.struct fs)=>Ol C fs.toList
 |_=>false)&&(match C.ty t with
 |some T=>Nat.ble (lN T) 1000
 |none=>false)
def E8(C:Cx):List Nat->Bool
 |[]=>true
 |t::r=>Kk C t&&E8 C r
theorem Om:∀{l:List Nat},E8 C l=true->∀{t},bH t l=true->Kk C t=true
 |[],_,t,h=>by cases h
 |b::r,hc,t,h=>by
  simp only[E8,zd] at hc;simp only[bH] at h;cases hb:Nat.beq b t with
  |true=>have:=zg hb;subst this;exact hc.1
  |false=>rw[hb] at h;exact Om hc.2 h
theorem qqb(hC:cf C)(hq:E8 C C.eqs=true):∀(n d:Nat) (t:TypeId) (T:Ty) (a b:den T) (za zb:Value),n<d->lN T<=n->C.ty t=some T->(match T with|.int _=>True|.bool=>True|.str=>True|.st _=>bH t C.eqs=true|_=>False)->aX imm w T a za->aX imm w T b zb->(Op.equalIn d t za zb).run C.P w=.ok (fo lf T a b) w:=by
 intro n
 induction n with
 |zero=>
  intro d t T a b za zb hd hl ht hk ha hb;obtain⟨d,rfl⟩:∃k,d=k+1:=⟨d-1,by omega⟩;obtain⟨dd,_,hu,he⟩:=(hC.dP _ _ ht).desc;cases T<;>simp only at hk
  ·cases dd<;>simp only[ng] at he<;>try (cases he;done)
   have h1:au (fun _=>⟨0,0,none⟩) (fun _=>Obj.none) imm w (.d _ a) za:=ha;have h2:au (fun _=>⟨0,0,none⟩) (fun _=>Obj.none) imm w (.d _ b) zb:=hb;obtain⟨rfl,_⟩:=nG h1;obtain⟨rfl,_⟩:=nG h2;exact run_equalIn_int _ _ _ _ _ _ _ hu
  ·cases dd<;>first|(simp only[ng] at he;cases he;done)|skip
   have h1:au (fun _=>⟨0,0,none⟩) (fun _=>Obj.none) imm w (.d _ a) za:=ha;have h2:au (fun _=>⟨0,0,none⟩) (fun _=>Obj.none) imm w (.d _ b) zb:=hb;have e1:=oz h1;have e2:=oz h2;subst e1 e2;exact run_equalIn_bool' _ _ _ _ _ hu
  ·cases dd<;>first|(simp only[ng] at he;cases he;done)|skip
   have h1:au (fun _=>⟨0,0,none⟩) (fun _=>Obj.none) imm w (.d _ a) za:=ha;have h2:au (fun _=>⟨0,0,none⟩) (fun _=>Obj.none) imm w (.d _ b) zb:=hb;obtain⟨s,rfl,rfl,_⟩:=ry h1;obtain⟨s',rfl,rfl,_⟩:=ry h2;have:=QM s s';unfold bl at this;show _=Result.ok (aS _ _) w;rw[this];exact run_equalIn_string _ _ _ _ _ hu
  ·simp[lN] at hl
 |succ n ih=>
  intro d t T a b za zb hd hl ht hk ha hb;by_cases hs:∃p,T=.st p
  ·obtain⟨p,rfl⟩:=hs;simp only at hk;obtain⟨d,rfl⟩:∃k,d=k+1:=⟨d-1,by omega⟩;have h1:=Om hq hk;unfold Kk at h1;simp only[zd,Bool.not_eq_true'] at h1;obtain⟨⟨⟨h1,h2⟩,h3⟩,h4⟩:=h1;obtain⟨fs,g1,g2,g3⟩:=N6 hC ht;rw[g1] at h3;simp only at h3;obtain⟨xs,rfl,hv⟩:=ha;obtain⟨ys,rfl,hw⟩:=hb;have hx:C.P.fieldsOf t=fs:=by unfold Program.fieldsOf;rw[g2]
   rw[run_equalIn_struct w d t xs ys (by rw[hx];exact g2) h1,hx];simp only[lN] at hl;have key:∀(fs:List Field) (p:Ty) (off:Nat) (a b:den p),lN p<=n->rz C fs p off=true->Ol C fs=true->aC imm w p a ((xs.toList.drop off).take (aM p))->aC imm w p b ((ys.toList.drop off).take (aM p))->
     (Op.eqFields d xs ys fs).run C.P w=.ok (fo lf p a b) w:=by
    intro fs
    induction fs with
    |nil=>
     intro p off a b _ h _ _ _;cases p<;>first|(simp only[rz] at h;cases h;done)|skip
     simp[Op.eqFields,fo]
    |cons f r ihf=>
     intro p off a b hn h hf ha hb;simp only[Ol,zd] at hf;obtain⟨hc,hz⟩:=hf;unfold qjn at hc;rw[zd] at hc;obtain⟨hm,hc⟩:=hc;have hm:f.name≠ "_":=by simpa using hm
     have one:∀(q:Ty) (a b:den q),C.ty f.type=some q->lN q<=n->f.offset=off->aC imm w q a ((xs.toList.drop off).take (aM q))->aC imm w q b ((ys.toList.drop off).take (aM q))->
       ∃va vb,(part f.type xs f.offset).run C.P w=.ok va w/\(part f.type ys f.offset).run C.P w=.ok vb w/\(Op.equalIn d f.type va vb).run C.P w=.ok (fo lf q a b) w:=by
      intro q a b ho hA hg ha hb;obtain⟨va,v1,v2⟩:=N5 (w:=w) (hC.dP _ _ ho) (cs:=xs) (off:=f.offset) (by rw[hg];exact ha);obtain⟨vb,v3,v4⟩:=N5 (w:=w) (hC.dP _ _ ho) (cs:=ys) (off:=f.offset) (by rw[hg];exact hb);rw[ho] at hc;exact⟨va,vb,v1,v3,ih d f.type q a b va vb om hA ho (by cases q<;>first|trivial|exact hc|(simp at hc;done)) v2 v4⟩
     cases r with
     |nil=>
      by_cases hy:∃q,p=.ks q
      ·obtain⟨q,rfl⟩:=hy;have h:(C.is f.type (.sl (mH q))&&Nat.beq f.offset off)=true:=h;rw[zd] at h;rw[bR h.1] at hc;exact absurd hc (by simp)
      have h:(C.is f.type p&&Nat.beq f.offset off)=true:=by cases p<;>first|exact h|exact absurd ⟨_,rfl⟩ hy
      rw[zd] at h;obtain⟨va,vb,v1,v2,v3⟩:=one p a b (bR h.1) hn (zg h.2) ha hb;simp only[Op.eqFields,if_pos hm,Sem.run_bind,v1,v2,v3,Result.andThen_ok];cases fo lf p a b<;>simp
     |cons g r=>
      cases p<;>first|(simp only[rz] at h;cases h;done)|skip
      rename_i s t;simp only[rz,zd] at h;obtain⟨c1,c2,e1,a1,a2⟩:=ha;obtain⟨d1,d2,e2,b1,b2⟩:=hb;have cut:∀{l c1 c2:List Value},(l.drop off).take (aM s+aM t)=c1++c2->c1.length=aM s->c2.length=aM t->(l.drop off).take (aM s)=c1/\(l.drop (off+aM s)).take (aM t)=c2:=by
       intro l c1 c2 e l1 l2;have f1:=congrArg (List.take (aM s)) e;rw[List.take_take,Nat.min_eq_left om,<-l1,List.take_left'] at f1
       ·have f2:=congrArg (List.drop (aM s)) e;rw[<-l1,List.drop_left',List.drop_take,List.drop_drop,l1,Nat.add_sub_cancel_left] at f2
        ·rw[l1] at f1;exact⟨f1,f2⟩
        ·rfl
       ·rfl
      simp only[aM] at e1 e2;obtain⟨f1,f2⟩:=cut e1 (gB _ _ _ a1) (gB _ _ _ a2);obtain⟨f3,f4⟩:=cut e2 (gB _ _ _ b1) (gB _ _ _ b2);simp only[lN] at hn;obtain⟨va,vb,v1,v2,v3⟩:=one s a.1 b.1 (bR h.1.1) om (zg h.1.2) (by rw[f1];exact a1) (by rw[f3];exact b1);have hj:=ihf t (off+aM s) a.2 b.2 om h.2 hz (by rw[f2];exact a2) (by rw[f4];exact b2);rw[Op.eqFields];simp only[if_pos hm,Sem.run_bind,v1,v2,v3,Result.andThen_ok];show _=Result.ok (aP (fo lf s a.1 b.1) (fo lf t a.2 b.2)) w;cases fo lf s a.1 b.1
      ·simp[aP]
      ·simp only[Bool.not_true,Bool.false_eq_true,if_false,hj,aP,Bool.true_and]
   have hB:=gB _ _ _ hv;have hE:=gB _ _ _ hw;exact key fs.toList p 0 a b om g3 h3 (by rw[List.drop_zero,<-hB,List.take_length];exact hv) (by rw[List.drop_zero,<-hE,List.take_length];exact hw)
  ·refine ih d t T a b za zb om ?_ ht hk ha hb;cases T<;>first|exact Nat.zero_le _|exact hk.elim|exact absurd ⟨_,rfl⟩ hs
theorem qti{t:TypeId}{a b:Value}{r:Bool}(h:∀d,1000<d->(Op.equalIn d t a b).run P w=.ok r w):(Op.equal t a b).run P w=.ok r w:=by unfold Op.equal;exact h _ dc
theorem z1e(hC:cf C)(hq:E8 C C.eqs=true):jI C where
 eq:=by intro w imm t p a b xs ys h1 h2 h3 h4;have h5:=Om hq h1;unfold Kk at h5;simp only[zd,Bool.not_eq_true'] at h5;have h6:=h5.2;rw[h2] at h6;have h6:lN (.st p)<=1000:=zF h6;exact qti fun d hd=>qqb (imm:=imm) hC hq 1000 d t (.st p) a b _ _ hd h6 h2 h1 ⟨xs,rfl,h3⟩ ⟨ys,rfl,h4⟩
 guard:=by intro t h1;have h5:=Om hq h1;unfold Kk at h5;simp only[zd,Bool.not_eq_true'] at h5;exact h5.1.1.2
end
section
variable {C:Cx} {X:Nat→Prop} {φ:Nat→Addr} {o:Nat→Obj} {w:World} {imm:Nat→Prop}
theorem qdi{t:TypeId}{tk tv:Ty}(h:JL C t=some (tk,tv)):∃k v,C.P.underlying t=some (.map k v)/\C.ty k=some tk/\C.ty v=some tv:=by
 unfold JL at h;split at h
 ·rename_i k v hd;split at h
  ·rename_i tk' tv' h1 h2;injection h with h;injection h with h3 h4;subst h3 h4;exact⟨k,v,kP hd,h1,h2⟩
  ·cases h
 ·cases h
theorem Rk{t:TypeId}{tk tv:Ty}(h:JM C t tk tv=true):∃k v,C.P.underlying t=some (.map k v)/\C.ty k=some tk/\C.ty v=some tv/\DP tk=true:=by
 unfold JM at h;split at h
 ·rename_i k v hm;simp only[zd] at h;obtain⟨⟨h1,h2⟩,h3⟩:=h;have h1:=ET h1;have h2:=ET h2;injection h1 with h1;injection h2 with h2;subst h1 h2;obtain⟨a,b,g1,g2,g3⟩:=qdi hm;exact⟨a,b,g1,g2,g3,h3⟩
 ·cases h
def rU:TypeDesc->Ty->Bool
 |.int _,.int _=>true
 |.bool,.bool=>true
 |.string,.str=>true
 |_,_=>false
theorem On(hC:cf C){k:TypeId}{tk:Ty}(h:C.ty k=some tk)(hk:DP tk=true):∃d,C.P.underlying k=some d/\rU d tk=true:=by
 obtain⟨d,_,h1,h2⟩:=(hC.dP _ _ h).desc;refine⟨d,h1,?_⟩;cases tk<;>simp only[DP] at hk<;>try (cases hk;done)
 all_goals cases d<;>simp only[ng] at h2<;>first|rfl|(cases h2;done)
theorem Rl(s s':ByteArray):(s==s')=(s.data==s'.data):=rfl
theorem z4t{s s':ByteArray}(h:(s==s')=true):s=s':=by
 rw[Rl] at h;have:s.data=s'.data:=by simpa using h
 cases s;cases s';simp only at this;rw[this]
theorem z1f(s:ByteArray):(s==s)=true:=by rw[Rl];simp
theorem qfo{d:TypeDesc}{tk:Ty}(hd:rU d tk=true){a b:den tk}{za zb:Value}(ha:aX imm w tk a za)(hb:aX imm w tk b zb):Instr.sameNow d za zb=some (fo lf tk a b)/\(fo lf tk a b=true->Instr.sameBits 10000 zb za=true):=by
 cases tk<;>cases d<;>simp only[rU] at hd<;>try (cases hd;done)
 ·rename_i k k';have ha:au (fun _=>⟨0,0,none⟩) (fun _=>Obj.none) imm w (.d (.int k) a) za:=ha;have hb:au (fun _=>⟨0,0,none⟩) (fun _=>Obj.none) imm w (.d (.int k) b) zb:=hb;obtain⟨rfl,_⟩:=nG ha;obtain⟨rfl,_⟩:=nG hb;refine⟨?_,fun h=>?_⟩
  ·simp only[Instr.sameNow,if_pos];rfl
  ·have h:(a==b)=true:=h;have:a=b:=by simpa using h
   subst this;simp[Instr.sameBits]
 ·have ha:au (fun _=>⟨0,0,none⟩) (fun _=>Obj.none) imm w (.d .bool a) za:=ha;have hb:au (fun _=>⟨0,0,none⟩) (fun _=>Obj.none) imm w (.d .bool b) zb:=hb;have:=oz ha;subst this;have:=oz hb;subst this;refine⟨rfl,fun h=>?_⟩;have h:(a==b)=true:=h;have:a=b:=by simpa using h
  subst this;simp[Instr.sameBits]
 ·have ha:au (fun _=>⟨0,0,none⟩) (fun _=>Obj.none) imm w (.d .str a) za:=ha;have hb:au (fun _=>⟨0,0,none⟩) (fun _=>Obj.none) imm w (.d .str b) zb:=hb;obtain⟨s,rfl,rfl,_⟩:=ry ha;obtain⟨s',rfl,rfl,_⟩:=ry hb;have e:fo lf .str (s.data.toList.map fun b=>(b.toNat:Int)) (s'.data.toList.map fun b=>(b.toNat:Int))=(s==s'):=by show aS (bl s) (bl s')=_;rw[QM,Rl,ByteArray.toList_eq,ByteArray.toList_eq,Bool.eq_iff_iff];simp only[beq_iff_eq];exact⟨fun h=>Array.toList_inj.1 h,fun h=>by rw[h]⟩
  rw[e];refine⟨rfl,fun h=>?_⟩;have:=z4t h;subst this;simp[Instr.sameBits,z1f]
theorem Rm{d:TypeDesc}{tk tv:Ty}(hd:rU d tk=true){k:den tk}{zk:Value}(hk:aX imm w tk k zk):∀(m:List (den tk×den tv)) (es:List MapEntry) (i:Nat),wo (aX imm w tk) (aX imm w tv) m es->(∃j zv e x,Instr.findNow d zk es i=some (some (i+j,zv))/\es[j]?=some e/\Instr.sameBits 10000 e.key zk=true/\j5 (fo lf tk) k m=some x/\aX imm w tv x zv/\∀y zy,aX imm w tv y zy->wo (aX imm w tk) (aX imm w tv) (j6 (fo lf tk) k y m) (es.modify j fun e=>{e with key:=zk,val:=zy}))\/(Instr.findNow d zk es i=some none/\j5 (fo lf tk) k m=none/\∀y zy born,aX imm w tv y zy->wo (aX imm w tk) (aX imm w tv) (j6 (fo lf tk) k y m) (es++[{key:=zk,val:=zy,born:=born}]))
 |[],es,i,h=>by have h:es=[]:=h;subst h;exact .inr ⟨rfl,rfl,fun y zy born hy=>⟨_,[],rfl,hk,hy,rfl⟩⟩
 |(k',v')::m,es,i,⟨e,r,he,h1,h2,h3⟩=>by
  subst he;obtain⟨g1,g2⟩:=qfo hd hk h1;cases hb:fo lf tk k k' with
  |true=>
   refine .inl ⟨0,e.val,e,v',?_,rfl,g2 hb,?_,h2,fun y zy hy=>?_⟩
   ·simp only[Instr.findNow,g1,hb];rfl
   ·simp only[j5,hb];rfl
   ·simp only[j6,hb,cond_true];exact⟨_,r,rfl,hk,hy,h3⟩
  |false=>
   have f1:Instr.findNow d zk (e::r) i=Instr.findNow d zk r (i+1):=by simp only[Instr.findNow,g1,hb]
   have f2:j5 (fo lf tk) k ((k',v')::m)=j5 (fo lf tk) k m:=by simp only[j5,hb];rfl
   have f3:∀y,j6 (fo lf tk) k y ((k',v')::m)=(k',v')::j6 (fo lf tk) k y m:=fun y=>by simp only[j6,hb];rfl
   rcases Rm hd hk m r (i+1) h3 with ⟨j,zv,e',x,a1,a2,a3,a4,a5,a6⟩|⟨a1,a2,a3⟩
   ·refine .inl ⟨j+1,zv,e',x,?_,by simpa using a2,a3,by rw[f2];exact a4,a5,fun y zy hy=>?_⟩
    ·rw[f1,a1];simp only[Nat.add_assoc,Nat.add_comm 1 j]
    ·rw[f3,List.modify_succ_cons];exact⟨e,_,rfl,h1,h2,a6 y zy hy⟩
   ·refine .inr ⟨by rw[f1];exact a1,by rw[f2];exact a2,fun y zy born hy=>?_⟩;rw[f3];exact⟨e,_,rfl,h1,h2,a3 y zy born hy⟩
theorem E9{P:Program}{d:TypeDesc}{tk:Ty}(hd:rU d tk=true){t:TypeId}(ht:P.underlying t=some d)(b:Bool)(v:Value):(Instr.checkKey b 10000 t v).run P w=.ok () w:=by rw[show(10000:Nat)=9999+1 from rfl];generalize 9999=n;unfold Instr.checkKey;rw[Sem.run_bind,run_underlying ht w];simp only[Result.andThen_ok];cases d<;>cases tk<;>simp only[rU] at hd<;>first|(cases hd;done)|(cases v<;>rfl)
theorem Fa{P:Program}{d:TypeDesc}{t:TypeId}(ht:P.underlying t=some d){zk:Value}{es:List MapEntry}{r:Option (Nat×Value)}(h:Instr.findNow d zk es 0=some r):(Instr.findKey t zk es).run P w=.ok r w:=by unfold Instr.findKey;rw[Sem.run_bind,run_underlying ht w];simp only[Result.andThen_ok,h];rfl
theorem qo9(hC:cf C){t:TypeId}{T:Ty}(h:C.ty t=some T):∃z,(zeroValue t).run C.P w=.ok z w/\aX imm w T (zero T) z:=by
 obtain⟨i,z,g1,_,g2,g3,g4,g5,g6⟩:=(hC.dP _ _ h).info;obtain⟨d,_,_,hd⟩:=(hC.dP _ _ h).desc;refine⟨z,wV g1 g4,?_⟩;obtain⟨_,hk⟩:=Kd hd;cases ha:jG T with
 |true=>
  rw[ha] at g5;cases z<;>simp only[EU] at g5<;>try (cases g5;done)
  exact QX ha (g6 imm w)
 |false=>
  rw[ha] at g5 hk;obtain⟨v,e,hv⟩:=N4 hk (g6 imm w);have:z.cells=#[z]:=by cases z<;>first|rfl|(simp only[EU] at g5;cases g5;done)
  rw[this] at e;injection e with e _;rw[e];exact hv
theorem qmb(hm:MRel C X φ o w){t:Ty}{x:V}{d:den t}{z:Value}(hx:au φ o (ah X φ o w) w x z)(hn:eJ o x=[])(h:ft lf o t x=some d):aX (ah X φ o w) w t d z:=QW hm hx (fun id hi=>by rw[hn] at hi;cases hi) h
theorem Rn{t:Ty}{x:V}{d:den t}(hk:DP t=true)(h:ft lf o t x=some d):x=.d t d:=by
 have hx:mW lf o t x=some d:=by
  by_cases hc:∃cs,x=.agg cs
  ·obtain⟨cs,rfl⟩:=hc;cases t<;>simp only[DP] at hk<;>first|(cases hk;done)|(simp only[ft] at h;cases h)
  ·cases x<;>first|exact h|exact absurd ⟨_,rfl⟩ hc
 have hx:iQ lf o t x=some d:=by
  rcases N2 hx with hx|⟨p,ht,_⟩
  ·exact hx
  ·subst ht;cases hk
 rcases N1 hx with rfl|⟨e',ht,_⟩|⟨e',ht,_⟩
 ·rfl
 ·subst ht;cases hk
 ·subst ht;cases hk
theorem Ro(hm:MRel C X φ o w){id:Nat}{tk tv:Ty}{m:List (den tk×den tv)}(ho:o id=.map tk tv m):∃es clock,w.heap[(φ id).block]?=some (.map es clock)/\wo (aX (ah X φ o w) w tk) (aX (ah X φ o w) w tv) m es.toList:=by have:=hm.ay id;rw[ho] at this;exact this
theorem IL{P:Program}{b:Nat}{es:Array MapEntry}{clock:Nat}(h:w.heap[b]?=some (.map es clock)):(getObj b).run P w=.ok (.map es clock) w:=by simp[getObj,Sem.run,h]
theorem Oo{P:Program}{b:Nat}{es:Array MapEntry}{clock:Nat}(x:Go.Obj)(h:w.heap[b]?=some (.map es clock)):(setObj b x).run P w=.ok () {w with heap:=w.heap.setIfInBounds b x}:=by simp[setObj,Sem.run,h]
theorem qmd(hC:cf C)(hm:MRel C X φ o w){t:TypeId}{x k:V}{zx zk:Value}{ok:Bool}{v:V}{u:List (Nat×Obj)}(hx:au φ o (ah X φ o w) w x zx)(hk:au φ o (ah X φ o w) w k zk)(h:(Qi lf C o t x k ok).gives v u):dG C X φ o w v u (Instr.lookup t zx zk ok):=by
 have fin:∀{tv:Ty} (b:Bool) (d:den tv) (z:Value),aX (ah X φ o w) w tv d z->(Instr.lookup t zx zk ok).run C.P w=.ok (if ok then .tuple #[z,.bool b] else z) w->
   dG C X φ o w (bif ok then .fY [.d tv d,.d .bool b] else .d tv d) [] (Instr.lookup t zx zk ok):=by
  intro tv b d z hz hr;refine⟨_,w,φ,hr,.same hm ?_⟩;cases ok with
  |false=>exact hz
  |true=>exact⟨#[z,.bool b],rfl,z,[.bool b],rfl,hz,.bool b,[],rfl,tJ,rfl⟩
 unfold Qi at h;split at h
 ·rename_i id;split at h
  ·rename_i tk tv m ho;split at h
   ·rename_i d hd;rw[dC,df] at h;obtain⟨h1,rfl,rfl⟩:=h;obtain⟨kt,vt,hu,c1,c2,hf⟩:=Rk h1;have:=Rn hf hd;subst this;have hk:aX (ah X φ o w) w tk d zk:=hk;obtain⟨dd,hc,he⟩:=On hC c1 hf;obtain⟨es,clock,hb,hr⟩:=Ro hm ho;unfold au at hx;rw[ho] at hx;simp only at hx;subst hx;rcases Rm he hk m es.toList 0 hr with ⟨j,zv,e,y,a1,a2,a3,a4,a5,a6⟩|⟨a1,a2,a3⟩
    ·have e1:lf.lK (fo lf tk) d m (zero tv)=y:=by show(j5 _ d m).getD _=y;rw[a4];rfl
     have e2:lf.uR (fo lf tk) d m=true:=by show(j5 _ d m).isSome=true;rw[a4];rfl
     rw[e1,e2];refine fin true y zv a5 ?_;simp[Instr.lookup,run_underlying hu,IL hb,E9 he hc,Fa hc a1]
    ·have e1:lf.lK (fo lf tk) d m (zero tv)=zero tv:=by show(j5 _ d m).getD _=_;rw[a2];rfl
     have e2:lf.uR (fo lf tk) d m=false:=by show(j5 _ d m).isSome=false;rw[a2];rfl
     rw[e1,e2];obtain⟨z,z1,z2⟩:=qo9 (imm:=ah X φ o w) (w:=w) hC c2;refine fin false _ z z2 ?_;simp[Instr.lookup,run_underlying hu,IL hb,E9 he hc,Fa hc a1,z1]
   ·cases h
  ·cases h
 ·split at h
  ·rename_i tk tv hg;split at h
   ·rename_i d hd;rw[dC,df] at h;obtain⟨hf,rfl,rfl⟩:=h;obtain⟨kt,vt,hu,c1,c2⟩:=qdi hg;obtain⟨dd,hc,he⟩:=On hC c1 hf;have:zx=.map none:=hx;subst this;obtain⟨z,z1,z2⟩:=qo9 (imm:=ah X φ o w) (w:=w) hC c2;refine fin false _ z z2 ?_;have a1:Instr.findNow dd zk [] 0=some none:=rfl;simp[Instr.lookup,run_underlying hu,E9 he hc,Fa hc a1,z1]
   ·cases h
  ·cases h
 ·cases h
theorem qjo(hm:MRel C X φ o w){fr:Nat}{t:TypeId}{v:V}{u:List (Nat×Obj)}(h:(Qk C fr t).gives v u)(hf:jH fr o u):dG C X φ o w v u (Instr.makeMap t none):=by
 unfold Qk at h;split at h
 ·rename_i tk tv he;rw[dC,df] at h;obtain⟨_,rfl,rfl⟩:=h;have hc:o fr=.none:=hf _ (zf ..) (Nat.le_refl _) (by show fr<fr+16;omega);refine⟨.map (some w.heap.size),w.alloc (.map #[] 0),cP φ fr ⟨w.heap.size,0,none⟩,by simp[Instr.makeMap],?_⟩;refine Comes.fresh hm (B:=.map #[] 0) rfl (.map tk tv []) (ns:=[]) (fun p hp=>by cases hp) (fun _=>by rw[hc];trivial) (fun _ _ _=>?_) trivial (fun h3=>?_)
  ·refine⟨#[],0,?_,rfl⟩;rw[eL];show(w.heap.push (Go.Obj.map #[] 0))[w.heap.size]?=some (Go.Obj.map #[] 0);simp
  ·unfold au;rw[h3,eL]
 ·cases h
theorem qf6(hC:cf C)(hm:MRel C X φ o w){t:TypeId}{x k y:V}{zx zk zy:Value}{v:V}{u:List (Nat×Obj)}(hx:au φ o (ah X φ o w) w x zx)(hk:au φ o (ah X φ o w) w k zk)(hy:au φ o (ah X φ o w) w y zy)(h:(Qj lf C o t x k y).gives v u):wZ C X φ o w v u (Instr.mapUpdate t zx zk zy):=by
 unfold Qj at h;split at h
 ·rename_i id;split at h
  ·rename_i tk tv m ho;split at h
   ·rename_i d d' hd hn;rw[dC,df,zd] at h;obtain⟨⟨h1,h2⟩,rfl,rfl⟩:=h;obtain⟨kt,vt,hu,c1,c2,hl⟩:=Rk h1;have:=Rn hl hd;subst this;have hk:aX (ah X φ o w) w tk d zk:=hk;have hy:=qmb hm hy (by simpa using h2) hn;obtain⟨dd,hc,hf⟩:=On hC c1 hl;obtain⟨es,clock,hb,hr⟩:=Ro hm ho;have hg:aV (φ id) (o id)=true:=by rw[ho];rfl
    unfold au at hx;rw[ho] at hx;simp only at hx;subst hx;have hq:(φ id).block<w.heap.size:=(hm.sep id hg).1;have done:∀(Bo:Array MapEntry) (rV:Nat),wo (aX (ah X φ o w) w tk) (aX (ah X φ o w) w tv) (j6 (fo lf tk) d d' m) Bo.toList->
      (Instr.mapUpdate t (.map (some (φ id).block)) zk zy).run C.P w=.ok () {w with heap:=w.heap.setIfInBounds (φ id).block (.map Bo rV)}->
      wZ C X φ o w .undef [(id,.map tk tv (lf.j6 (fo lf tk) d d' m))] (Instr.mapUpdate t (.map (some (φ id).block)) zk zy):=by
     intro Bo rV he hj;refine⟨_,φ,hj,Comes.write hm _ (fun _=>hg) (by simp) (fun b hb=>?_) (by rw[ho];exact rfl) (fun a1 a2 a3=>?_) trivial (fun _=>rfl)⟩
     ·show(w.heap.setIfInBounds _ _)[b]?=_;rw[Array.getElem?_setIfInBounds_ne (fun e=>hb ⟨hg,e⟩)]
     ·refine⟨Bo,rV,?_,?_⟩
      ·show(w.heap.setIfInBounds _ _)[_]?=_;rw[Array.getElem?_setIfInBounds_self_of_lt hq]
      ·exact D2 (rT a1 a2 _) (rT a1 a2 _) he
    rcases Rm hf hk m es.toList 0 hr with ⟨j,zv,e,y',a1,a2,a3,a4,a5,a6⟩|⟨a1,a2,a3⟩
    ·refine done (es.modify j fun e=>{e with key:=zk,val:=zy}) clock (by rw[Array.toList_modify];exact a6 _ _ hy) ?_;have hs:es[j]?=some e:=by rw[<-zG];exact a2
     rw[zL] at a1;simp[Instr.mapUpdate,run_underlying hu,IL hb,Oo _ hb,E9 hf hc,Fa hc a1,Instr.keyThatStays,hs,a3]
    ·refine done (es.push {key:=zk,val:=zy,born:=clock}) (clock+1) (by rw[Array.toList_push];exact a3 _ _ clock hy) ?_;simp[Instr.mapUpdate,run_underlying hu,IL hb,Oo _ hb,E9 hf hc,Fa hc a1]
   ·cases h
  ·cases h
 ·cases h
theorem qjp{α:Type}(a:Array α)(j:Nat):(a.eraseIdxIfInBounds j).toList=a.toList.eraseIdx j:=by
 rw[Array.eraseIdxIfInBounds];split
 ·simp
 ·rw[List.eraseIdx_of_length_le (by simpa using ‹¬j<a.size›)]
theorem qjq{d:TypeDesc}{tk tv:Ty}(hd:rU d tk=true){k:den tk}{zk:Value}(hk:aX imm w tk k zk):∀(m:List (den tk×den tv)) (es:List MapEntry) (i:Nat),wo (aX imm w tk) (aX imm w tv) m es->(∃j zv,Instr.findNow d zk es i=some (some (i+j,zv))/\wo (aX imm w tk) (aX imm w tv) (j7 (fo lf tk) k m) (es.eraseIdx j))\/(Instr.findNow d zk es i=some none/\j7 (fo lf tk) k m=m)
 |[],es,i,h=>by have h:es=[]:=h;subst h;exact .inr ⟨rfl,rfl⟩
 |(k',v')::m,es,i,⟨e,r,he,h1,h2,h3⟩=>by
  subst he;obtain⟨g1,g2⟩:=qfo hd hk h1;cases hb:fo lf tk k k' with
  |true=>
   refine .inl ⟨0,e.val,?_,?_⟩
   ·simp only[Instr.findNow,g1,hb];rfl
   ·simp only[j7,hb,cond_true];exact h3
  |false=>
   have f1:Instr.findNow d zk (e::r) i=Instr.findNow d zk r (i+1):=by simp only[Instr.findNow,g1,hb]
   have f3:j7 (fo lf tk) k ((k',v')::m)=(k',v')::j7 (fo lf tk) k m:=by simp only[j7,hb];rfl
   rcases qjq hd hk m r (i+1) h3 with ⟨j,zv,a1,a2⟩|⟨a1,a2⟩
   ·refine .inl ⟨j+1,zv,?_,?_⟩
    ·rw[f1,a1];simp only[Nat.add_assoc,Nat.add_comm 1 j]
    ·rw[f3,List.eraseIdx_cons_succ];exact⟨e,_,rfl,h1,h2,a2⟩
   ·exact .inr ⟨by rw[f1];exact a1,by rw[f3,a2]⟩
theorem qme(hC:cf C)(hm:MRel C X φ o w){t ty:TypeId}{ts:List TypeId}{x k:V}{zx zk:Value}{v:V}{u:List (Nat×Obj)}(hx:au φ o (ah X φ o w) w x zx)(hk:au φ o (ah X φ o w) w k zk)(h:(Qo lf C o t x k).gives v u):dG C X φ o w v u (Builtin.delete_ (t::ts).toArray ty #[zx,zk]):=by
 unfold Qo at h;split at h
 ·rename_i id;split at h
  ·rename_i tk tv m ho;split at h
   ·rename_i d hd;rw[dC,df] at h;obtain⟨h1,rfl,rfl⟩:=h;obtain⟨kt,vt,hu,c1,c2,hl⟩:=Rk h1;have:=Rn hl hd;subst this;have hk:aX (ah X φ o w) w tk d zk:=hk;obtain⟨dd,hc,hf⟩:=On hC c1 hl;obtain⟨es,clock,hb,hr⟩:=Ro hm ho;have hg:aV (φ id) (o id)=true:=by rw[ho];rfl
    unfold au at hx;rw[ho] at hx;simp only at hx;subst hx;have hn:(φ id).block<w.heap.size:=(hm.sep id hg).1;have done:∀(Bo:Array MapEntry),wo (aX (ah X φ o w) w tk) (aX (ah X φ o w) w tv) (j7 (fo lf tk) d m) Bo.toList->
      (Builtin.delete_ (t::ts).toArray ty #[.map (some (φ id).block),zk]).run C.P w=.ok (.tuple #[]) {w with heap:=w.heap.setIfInBounds (φ id).block (.map Bo clock)}->
      dG C X φ o w (.fY []) [(id,.map tk tv (lf.j7 (fo lf tk) d m))] (Builtin.delete_ (t::ts).toArray ty #[.map (some (φ id).block),zk]):=by
     intro Bo he hj;refine⟨_,_,φ,hj,Comes.write hm _ (fun _=>hg) (by simp) (fun b hb=>?_) (by rw[ho];exact rfl) (fun a1 a2 a3=>?_) trivial (fun _=>⟨#[],rfl,rfl⟩)⟩
     ·show(w.heap.setIfInBounds _ _)[b]?=_;rw[Array.getElem?_setIfInBounds_ne (fun e=>hb ⟨hg,e⟩)]
     ·refine⟨Bo,clock,?_,?_⟩
      ·show(w.heap.setIfInBounds _ _)[_]?=_;rw[Array.getElem?_setIfInBounds_self_of_lt hn]
      ·exact D2 (rT a1 a2 _) (rT a1 a2 _) he
    rcases qjq hf hk m es.toList 0 hr with ⟨j,zv,a1,a2⟩|⟨a1,a2⟩
    ·rw[zL] at a1;refine done (es.eraseIdxIfInBounds j) (by rw[qjp];exact a2) ?_;simp[Builtin.delete_,run_underlying hu,IL hb,Oo _ hb,E9 hf hc,Fa hc a1]
    ·refine done es (by rw[a2];exact hr) ?_;simp[Builtin.delete_,run_underlying hu,IL hb,Oo _ hb,E9 hf hc,Fa hc a1]
   ·cases h
  ·cases h
 ·cases h
end
section
variable {C:Cx} {X:Nat→Prop} {φ:Nat→Addr} {o:Nat→Obj} {w:World} {imm:Nat→Prop}
theorem qtk(s:ByteArray):wh (s.data.toList.map fun b=>(b.toNat:Int))=s:=by
 obtain⟨⟨l⟩⟩:=s;show ByteArray.mk ((l.map fun b=>(b.toNat:Int)).map fun b=>UInt8.ofNat b.toNat).toArray=ByteArray.mk ⟨l⟩;rw[ja];congr 2
 induction l with
 |nil=>rfl
 |cons a l ih=>rw[zM,ih];congr 1;show UInt8.ofNat ((a.toNat:Int)).toNat=a;rw[Int.toNat_natCast];exact UInt8.ofNat_toNat
theorem qtl{P:Program}{b n:Nat}{s:ByteArray}{ty:TypeId}(h:w.heap[b]?=some (.stringIter s n))(hn:n<s.size):(Instr.next (.pointer (some ⟨b,0,none⟩)) true ty).run P w=.ok (.tuple #[.bool true,.int .i64 n,.int .i32 (Utf8.decode s n).1]) {w with heap:=w.heap.setIfInBounds b (.stringIter s (n+(Utf8.decode s n).2))}:=by simp[Instr.next,getObj,setObj,Sem.run,h,hn,Result.andThen,goInt]
theorem qtm{P:Program}{b n:Nat}{s:ByteArray}{ty:TypeId}(h:w.heap[b]?=some (.stringIter s n))(hn:¬n<s.size):(Instr.next (.pointer (some ⟨b,0,none⟩)) true ty).run P w=.ok (.tuple #[.bool false]) w:=by simp[Instr.next,getObj,Sem.run,h,hn,Result.andThen]
theorem qqc(hm:MRel C X φ o w){fr:Nat}{t:TypeId}{x:V}{zx:Value}{v:V}{u:List (Nat×Obj)}(hx:au φ o (ah X φ o w) w x zx)(h:(Qq C fr t x).gives v u)(hf:jH fr o u):dG C X φ o w v u (Instr.range t zx):=by
 unfold Qq at h;split at h
 ·rename_i hd;split at h
  ·rename_i l;rw[df] at h;obtain⟨rfl,rfl⟩:=h;obtain⟨s,rfl,hs,hl⟩:=ry hx;have hc:o fr=.none:=hf _ (zf ..) (Nat.le_refl _) (by show fr<fr+16;omega);refine⟨.pointer (some ⟨w.heap.size,0,none⟩),w.alloc (.stringIter s 0),cP φ fr ⟨w.heap.size,0,none⟩,run_range_string w t s (kP hd),?_⟩;refine Comes.fresh hm (B:=.stringIter s 0) rfl (.iter l 0) (ns:=[]) (fun p hp=>by cases hp) (fun _=>by rw[hc];trivial) (fun _ _ _=>?_) trivial (fun h3=>?_)
   ·refine⟨s,0,?_,hs,rfl,hl⟩;rw[eL];show(w.heap.push (Go.Obj.stringIter s 0))[w.heap.size]?=some (Go.Obj.stringIter s 0);simp
   ·unfold au;rw[h3,eL]
  ·cases h
 ·cases h
theorem qtn(hm:MRel C X φ o w){ty:TypeId}{x:V}{zx:Value}{v:V}{u:List (Nat×Obj)}(hx:au φ o (ah X φ o w) w x zx)(h:(Qr lf o x).gives v u):dG C X φ o w v u (Instr.next zx true ty):=by
 unfold Qr at h;split at h
 ·rename_i id;split at h
  ·rename_i l p ho;rw[df] at h;obtain⟨rfl,rfl⟩:=h;have he:=hm.ay id;rw[ho] at he;obtain⟨s,n,hb,hs,rfl,hl⟩:=he;have hc:aV (φ id) (o id)=true:=by rw[ho];rfl
   have hg:(φ id).block<w.heap.size:=(hm.sep id hc).1;unfold au at hx;rw[ho] at hx;simp only at hx;subst hx;have hj:l.length=s.size:=by rw[<-hs];simp
   have hf:wh l=s:=by rw[<-hs];exact qtk s
   by_cases hn:n<s.size
   ·have e1:lf.l (n:Int) (lf.n l)=true:=zu (by show(n:Int)<(l.length:Int);omega);have e2:lf.fQ l (n:Int)=((n+(Utf8.decode s n).2:Nat):Int):=by show(if(n:Int)<(l.length:Int) then _ else _)=_;rw[if_pos om,hf,Int.toNat_natCast];rfl
    have e3:lf.fm l (n:Int)=((Utf8.decode s n).1:Int):=by show((Utf8.decode (wh l) (n:Int).toNat).1:Int)=_;rw[hf,Int.toNat_natCast]
    rw[e1,e2,e3];refine⟨_,_,φ,qtl hb hn,Comes.write hm _ (fun _=>hc) (by simp) (fun b hb=>?_) (by rw[ho];exact rfl) (fun a1 a2 a3=>?_) trivial (fun _=>?_)⟩
    ·show(w.heap.setIfInBounds _ _)[b]?=_;rw[Array.getElem?_setIfInBounds_ne (fun e=>hb ⟨hc,e⟩)]
    ·refine⟨s,_,?_,hs,rfl,hl⟩;show(w.heap.setIfInBounds _ _)[_]?=_;rw[Array.getElem?_setIfInBounds_self_of_lt hg]
    ·have hr:=decode_le s n;have h1:fJ .i64 (n:Int):=by unfold cj at hl;show(-9223372036854775808:Int)<=_/\_<=(9223372036854775807:Int);omega
     have h2:fJ .i32 ((Utf8.decode s n).1:Int):=by show(-2147483648:Int)<=_/\_<=(2147483647:Int);omega
     exact .inl ⟨rfl,rfl,h1,h2⟩
   ·have e1:lf.l (n:Int) (lf.n l)=false:=zn (by show ¬(n:Int)<(l.length:Int);omega);have e2:lf.fQ l (n:Int)=(n:Int):=by show(if(n:Int)<(l.length:Int) then _ else _)=_;rw[if_neg om]
    rw[e1,e2];refine⟨_,w,φ,qtm hb hn,Comes.write hm _ (fun _=>hc) rfl (fun b _=>rfl) (by rw[ho];exact rfl) (fun a1 a2 a3=>?_) trivial (fun _=>?_)⟩
    ·exact⟨s,n,hb,hs,rfl,hl⟩
    ·exact .inr ⟨rfl,rfl⟩
  ·cases h
 ·cases h
theorem qoa{α:Type}{b:Bool}{x y:α}(h:(aq b (some x) none:Option α)=some y):b=true/\x=y:=by
 cases b with
 |true=>exact⟨rfl,zI h⟩
 |false=>cases h
theorem qxv(hm:MRel C X φ o w){i:Nat}{x:V}{zx:Value}{v:V}{u:List (Nat×Obj)}(hx:au φ o (ah X φ o w) w x zx)(h:(Qs lf i x).gives v u):dG C X φ o w v u (Instr.extract zx i):=by
 unfold Qs at h;split at h
 ·rename_i vs;obtain⟨c,rfl,hr⟩:=hx;split at h
  ·rename_i v' hv;rw[df] at h;obtain⟨rfl,rfl⟩:=h;obtain⟨z,h1,h2⟩:=IG hr hv;rw[zG] at h1;exact dG.aY hm ⟨rfl,z,by simp[Instr.extract,h1],h2⟩
  ·cases h
 ·rename_i b p c;split at h
  ·rw[df] at h;obtain⟨rfl,rfl⟩:=h;refine dG.aY hm ⟨rfl,.bool b,?_,tJ⟩;rcases hx with ⟨rfl,rfl,_⟩|⟨rfl,rfl⟩<;>simp[Instr.extract]
  ·rw[D0] at h;obtain⟨y,h1,h2⟩:=h;obtain⟨rfl,rfl⟩:=qoa h1;injection h2 with h2 h3;subst h2 h3;rcases hx with ⟨_,rfl,h4,_⟩|⟨h4,_⟩
   ·exact dG.aY hm ⟨rfl,.int .i64 p,by simp[Instr.extract],lH h4⟩
   ·cases h4
  ·rw[D0] at h;obtain⟨y,h1,h2⟩:=h;obtain⟨rfl,rfl⟩:=qoa h1;injection h2 with h2 h3;subst h2 h3;rcases hx with ⟨_,rfl,_,h4⟩|⟨h4,_⟩
   ·exact dG.aY hm ⟨rfl,.int .i32 c,by simp[Instr.extract],lH h4⟩
   ·cases h4
  ·cases h
 ·cases h
end
end Ev