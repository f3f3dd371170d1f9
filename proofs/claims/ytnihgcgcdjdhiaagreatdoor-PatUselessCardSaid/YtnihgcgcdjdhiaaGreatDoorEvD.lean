/- Operations are sound: building, making, appending, storing, copying, comparing. No statement of its own about the program. -/
import Derived.Test.YtnihgcgcdjdhiaaGreatDoorEvC
import Derived.Laws.RangeAny
namespace Ev
open Go
section
variable {P:Program} {C:Cx} {X:Nat→Prop} {φ φ':Nat→Addr} {o o':Nat→Obj} {w w':World} {imm imm':Nat→Prop}
def qft (φ:Nat→Addr) (o:Nat→Obj) (imm:Nat→Prop) (w:World):List (Nat×V)→List (Nat×Value)→Prop
 |[],zs=>zs=[]
 |p::l,zs=>∃z r,zs=(p.1,z)::r∧q03 φ o imm w p.2 z∧qft φ o imm w l r
theorem qdu (h:∀x z,q03 φ o imm w x z→q03 φ' o' imm' w' x z):∀(l:List (Nat×V)) (zs:List (Nat×Value)),qft φ o imm w l zs→qft φ' o' imm' w' l zs
 |[],_,h1=>h1
 |_::l,_,⟨a,r,h1,h2,h3⟩=>⟨a,r,h1,h _ _ h2,qdu h l _ h3⟩
theorem qjs {cs vs:List V} {zs ys:List Value} (off:Nat) (h:q0m φ o imm w cs zs) (h':q0m φ o imm w vs ys):q0m φ o imm w (qqp cs off vs) (ov zs off ys):=by unfold qqp ov;rw [q4a h'];exact q6e (q6e (q8m off h) h') (q8l _ h)
theorem qmp {fs:List Field} {places:Array (Nat×Nat)} (hp:∀(i:Nat) fd b n,fs[i]?=some fd→q7o C.P fd.type=some (b,n)→places[i]?=some (fd.offset,n)):∀(parts:List (Nat×V)) (zparts:List (Nat×Value)) (cs cs':List V) (cells:Array Value),qft φ o imm w parts zparts→q0m φ o imm w cs cells.toList→qhl C o fs parts cs=some cs'→∃cells',Instr.fill (places[·]?) cells zparts=some cells'∧q0m φ o imm w cs' cells'.toList:=by
 intro parts
 induction parts with
 |nil=>intro zparts cs cs' cells h1 h2 h;simp [qft] at h1;subst h1;injection h with h;subst h;exact ⟨cells,rfl,h2⟩
 |cons p r ih=>
  intro zparts cs cs' cells ⟨z,zr,e,h1,hc⟩ h2 h;subst e;simp only [qhl] at h;split at h
  ·rename_i fd vs h3 h4;split at h
   ·rename_i b n hk;cases hb:(Nat.beq vs.length n&&Nat.ble (fd.offset+n) cs.length) with
    |false=>rw [hb] at h;cases h
    |true=>rw [hb] at h;rw [zd] at hb;have he:=zg hb.1;have hf:=zH hb.2;obtain ⟨g1,g2⟩:=q9o h1 h4;have l1:=q4a g1;have l2:=q4a h2;simp only [Array.length_toList] at l1 l2;have:=ih zr _ _ (ov cells.toList fd.offset z.cells.toList).toArray hc (by simpa using qjs fd.offset h2 g1) h;rw [←qjp (places[·]?) cells p.1 z zr (hp _ _ _ _ h3 hk) (by omega) (by omega)] at this;exact this
   ·cases h
  ·cases h
theorem qdv (hm:MRel C X φ o w) {ei:TypeId} {e:Ty} (hT:TyOk C ei e):∀(parts:List (Nat×V)) (zparts:List (Nat×Value)) (l l':List (den e)) (cells:Array Value),qft φ o (immB X φ o w) w parts zparts→(∀p,p∈parts→q5n o p.2)→relR (relC (immB X φ o w) w e) l cells.toList→q7x lf o e parts l=some l'→∃cells',Instr.fill (fun i=>some (i*csz e,csz e)) cells zparts=some cells'∧relR (relC (immB X φ o w) w e) l' cells'.toList∧l'.length=l.length:=by
 intro parts
 induction parts with
 |nil=>intro zparts l l' cells h1 _ h2 h;simp [qft] at h1;subst h1;injection h with h;subst h;exact ⟨cells,rfl,h2,rfl⟩
 |cons p r ih=>
  intro zparts l l' cells ⟨z,zr,e1,h1,hg⟩ hf h2 h;subst e1;simp only [q7x] at h;split at h
  ·rename_i x h3;cases hb:Nat.blt p.1 l.length with
   |false=>rw [hb] at h;cases h
   |true=>
    rw [hb] at h;have he:p.1<l.length:=zH hb;have hr:=qhx hm h1 (hf p (ze ..)) h3;have hc:=qg9 hT hr;have l1:=q0o _ _ _ hc;have l2:=q1i h2;simp only [Array.length_toList] at l1 l2;have hj:(p.1+1)*csz e≤l.length*csz e:=Nat.mul_le_mul_right _ he;rw [Nat.succ_mul] at hj;have h4:relR (relC (immB X φ o w) w e) (l.set p.1 x) (ov cells.toList (p.1*csz e) z.cells.toList):=by have:=qi0 (i:=p.1) (m:=[x]) (by show p.1+1≤l.length;exact he) h2 ⟨_,[],(zG _).symm,hc,rfl⟩;rw [List.set_eq_take_append_cons_drop,if_pos he];simpa using this
    obtain ⟨cells',g1,g2,g3⟩:=ih zr _ _ (ov cells.toList (p.1*csz e) z.cells.toList).toArray hg (fun q hq=>hf q (zf _ hq)) (by simpa using h4) h;rw [←qjp (fun i=>some (i*csz e,csz e)) cells p.1 z zr rfl l1 (by omega)] at g1;exact ⟨cells',g1,g2,by simpa using g3⟩
  ·cases h
theorem qdw (ks:List Nat) (e:Ty):∀(parts:List (Nat×V)) (l:List (den e)),q7x lf (upds o (frz o ks)) e parts l=q7x lf o e parts l:=by
 intro parts
 induction parts with
 |nil=>intro l;rfl
 |cons p r ih=>intro l;simp only [q7x,qoo,ih]
theorem qdx:∀{parts:List (Nat×V)} {p:Nat×V},p∈parts→∀id,id∈q1g o p.2→id∈qd0 o parts
 |q::r,p,h,id,hi=>by
  rcases zj.1 h with rfl|h
  ·exact List.mem_append_left _ hi
  ·exact List.mem_append_right _ (qdx h id hi)
theorem q95:∀{fs:List Field},qhm P fs=true→∃places,fs.mapM (fun f=>(P.info? f.type).map fun i=>(f.offset,i.size))=some places∧∀(i:Nat) fd b n,fs[i]?=some fd→q7o P fd.type=some (b,n)→places[i]?=some (fd.offset,n)
 |[],_=>⟨[],rfl,fun i fd b n h=>by simp at h⟩
 |f::r,h=>by
  simp only [qhm] at h;split at h
  ·rename_i bn hk;obtain ⟨b,n⟩:=bn;obtain ⟨i,d,g1,g2,_⟩:=q3a hk;obtain ⟨places,h1,h2⟩:=q95 h;refine ⟨(f.offset,i.size)::places,?_,fun j fd b' n' hj hc=>?_⟩
   ·rw [List.mapM_cons,g1,h1];rfl
   ·cases j with
    |zero=>simp only [List.getElem?_cons_zero,zF] at hj;subst hj;rw [hk] at hc;injection hc with hc;injection hc with _ hc;simp [g2,hc]
    |succ j=>simpa using h2 j fd b' n' (by simpa using hj) hc
  ·cases h
theorem qr1 (hC:CxOk C) (hm:MRel C X φ o w) {t:TypeId} {parts:List (Nat×V)} {zparts:Array (Nat×Value)} {v:V} {u:List (Nat×Obj)} (hx:qft φ o (immB X φ o w) w parts zparts.toList) (h:(qm8 lf C o t parts).gives v u):Res C X φ o w v u (Instr.build t zparts):=by
 unfold qm8 at h;split at h
 ·rename_i fs hd;have hu:=q0x hd;rw [q08] at h;obtain ⟨hk,h⟩:=h;obtain ⟨places,hf,hj⟩:=q95 hk;split at h
  ·rename_i cs hl;split at h
   ·rename_i cs' hb;rw [q09] at h;obtain ⟨rfl,rfl⟩:=h;obtain ⟨i,z,k1,k2,rfl⟩:=qgb hl;obtain ⟨cells',g1,g2⟩:=qmp (places:=places.toArray) (by simpa using hj) _ _ _ _ z.cells hx (qak _) hb;refine Res.of_pure hm ⟨rfl,.agg cells',?_,qjl hm g2⟩;have g1':Instr.fill (fun x=>places[x]?) z.cells zparts.toList=some cells':=by simpa using g1
    simp [Instr.build,run_underlying hu,q1b k1 k2,Array.mapM_eq_mapM_toList,run_places w _ _ hf,g1']
   ·cases h
  ·cases h
 ·rename_i n ei hd;have hu:=q0x hd;split at h
  ·rename_i n' e he;rw [q08] at h;obtain ⟨hn,h⟩:=h;split at h
   ·rename_i l hg;rw [q09] at h;obtain ⟨rfl,rfl⟩:=h;have hT:=hC.tab _ _ he;obtain ⟨i,z,k1,_,k2,k3,k4,k5,k6⟩:=hT.info;obtain ⟨d,d1,d2,d3⟩:=hT.desc;rw [hd] at d1;injection d1 with d1;subst d1;simp only [q62,zd] at d3;have hE:=hC.tab _ _ (is_spec d3.2);obtain ⟨ii,zz,m1,_,m2,_⟩:=hE.info;have hc:=qji hm (qd0 o parts);obtain ⟨ho,hq⟩:=k6 (immB X φ (upds o (frz o (qd0 o parts))) w) w;have hs:=zg d3.1;subst hs;rw [←qdw (qd0 o parts)] at hg;obtain ⟨cells',g1,g2,g3⟩:=qdv hc.mem hE parts zparts.toList _ l z.cells (qdu (fun x z h=>hc.keeps x z h) _ _ hx)
     (fun p hp=>q8k (fun id hi=>qdx hp id hi)) hq hg
    refine ⟨.agg cells',w,φ,?_,{hc with val:=?_}⟩
    ·simp [Instr.build,run_underlying hu,q1b k1 k4,q0f m1,m2,g1]
    ·exact ⟨cells',rfl,g3.trans ho,g2⟩
   ·cases h
  ·cases h
 ·cases h
theorem Comes.nils (hm:MRel C X φ o w) {ns:List (Nat×Obj)} (hf:∀p,p∈ns→(∃e,p.2=.vec e 0 false ⟨true,[]⟩)∧o p.1=.none) {v:V} {z:Value} (hc:(∀y z,q03 φ o (immB X φ o w) w y z→q03 φ (upds o ns) (immB X φ (upds o ns) w) w y z)→q03 φ (upds o ns) (immB X φ (upds o ns) w) w v z):Comes C X φ φ o ns w w v z:=by
 have hg:∀(ns:List (Nat×Obj)) id,id∈q0e ns→∃p,p∈ns∧p.1=id:=by
  intro ns
  induction ns with
  |nil=>intro id h;cases h
  |cons p r ih=>
   intro id h;rcases zj.1 h with h|h
   ·exact ⟨p,ze ..,h.symm⟩
   ·obtain ⟨q,h1,h2⟩:=ih id h;exact ⟨q,zf _ h1,h2⟩
 have he:∀id,id∈q0e ns→∃e,upds o ns id=.vec e 0 false ⟨true,[]⟩:=fun id h=>qi1 ns _ id (fun p hp=>(hf p hp).1) h;have hj:∀id,id∈q0e ns→o id=.none:=fun id h=>by obtain ⟨p,h1,h2⟩:=hg ns _ h;exact h2▸(hf p h1).2
 have hx:∀id a,id∈q0e ns→excl a (upds o ns id)=true→False:=fun id a hk hx=>by obtain ⟨e,h⟩:=he id hk;rw [h] at hx;simp [excl,live] at hx
 refine Comes.make hm (Nat.le_refl _) (fun _ _ _=>rfl) (fun _ _=>rfl) (fun _ _ _=>rfl) (fun id hk=>?_) (fun id hk h=>(hx id _ hk h).elim) (fun i j hi _ h _ _ _=>(hx i _ hi h).elim) (fun _ _ _ id hk=>?_) (fun id hk=>?_) (fun _ _ h=>hc h)
 ·rw [hj id hk];trivial
 ·obtain ⟨e,h⟩:=he id hk;rw [h];exact ⟨Nat.zero_le _,fun _=>rfl,fun h=>by simp at h⟩
 ·obtain ⟨e,h⟩:=he id hk;rw [h];exact fun _ h=>by simp at h
theorem qtp {fr:Nat} {t:TypeId} {b:Bool} {p:Pk} {s:Sem Value} (hp:∀v u,p.gives v u→Res C X φ o w v u s) {v:V} {u:List (Nat×Obj)} (h:(qt0 C fr t b p).gives v u) (hf:q4s fr o u):Res C X φ o w v u s:=by
 unfold qt0 at h;split at h
 ·rename_i cs;cases hb:(b&&qhj cs&&Nat.ble (q2a cs) 15) with
  |false=>rw [hb] at h;exact hp v u h
  |true=>
   rw [hb] at h;simp only [cond_true,q09] at h;obtain ⟨rfl,rfl⟩:=h;simp only [zd] at hb;have hb:=zH hb.2;obtain ⟨val,w',φ',g1,g2⟩:=hp _ _ ((q09 (v:=.agg cs) (u:=[])).2 ⟨rfl,rfl⟩);have sp:=fun p hp=>(q5p (φ:=φ) (o:=o) (imm:=immB X φ o w) (w:=w) (φ':=φ) (o':=o) (imm':=immB X φ o w) (w':=w) cs (q7z C 8 t) fr).1 p hp;refine ⟨val,w',φ',g1,?_⟩;have g3:=Comes.trans g2 (v':=.agg (q29 fr cs (q7z C 8 t)).1) (z':=val) (Comes.nils (ns:=(q29 fr cs (q7z C 8 t)).2) g2.mem (fun p hp=>?_) (fun hk=>?_))
   ·exact g3
   ·obtain ⟨g3,g4,g5⟩:=sp p hp;exact ⟨g3,hf p hp g4 (by omega)⟩
   ·obtain ⟨c,rfl,h1⟩:=g2.val;exact ⟨c,rfl,(q5p cs (q7z C 8 t) fr).2 _ h1 hk fun p hp=>qi1 _ _ p.1 (fun q hq=>(sp q hq).1) (qai hp)⟩
 ·exact hp v u h
theorem qbs (z:Array Value):∀n,((List.range (n*z.size)).map fun j=>z[j % z.size]!)=(List.replicate n z.toList).flatten
 |0=>by simp
 |n+1=>by
  rw [Nat.succ_mul,Nat.add_comm,List.range_add,zE,List.replicate_succ,List.flatten_cons,←qbs z n,zW];congr 1
  ·apply List.ext_getElem
   ·simp
   ·intro j h1 h2;have hj:j<z.size:=by simpa using h1
    simp [Nat.mod_eq_of_lt hj,hj]
  ·apply zX;intro j _;simp [Function.comp]
theorem qtq (z:Array Value) (n:Nat):(madeCells z (n*z.size)).toList=(List.replicate n z.toList).flatten:=by rw [←qbs];simp [madeCells,Array.toList_range]
theorem qdy {α:Type} {f:α→List Value→Prop} {x:α} {c:List Value} (h:f x c):∀n,relR f (List.replicate n x) (List.replicate n c).flatten
 |0=>by simp [relR]
 |n+1=>by rw [List.replicate_succ,List.replicate_succ,List.flatten_cons];exact ⟨c,_,rfl,h,qdy h n⟩
theorem qoq {e:Ty} {z:Value} (h3:∀imm w,relC imm w e (zero e) z.cells.toList) (n:Nat):relR (relC imm w e) (List.replicate n (zero e)) (madeCells z.cells (n*csz e)).toList:=by have:=q0o (imm:=imm) (w:=w) _ _ _ (h3 imm w);simp only [Array.length_toList] at this;rw [←this,qtq];exact qdy (h3 imm w) n
theorem qdz (hC:CxOk C) (hm:MRel C X φ o w) {fr n:Nat} {t:TypeId} {parts:List (Nat×V)} {zparts:Array (Nat×Value)} {v:V} {u:List (Nat×Obj)} (hx:qft φ o (immB X φ o w) w parts zparts.toList) (h:(q7y lf C o fr t n parts).gives v u) (hf:q4s fr o u):Res C X φ o w v u (Instr.buildSlice t n zparts):=by
 unfold q7y at h;split at h
 ·rename_i e he;rw [q08,zd] at h;obtain ⟨⟨h1,hl⟩,h⟩:=h;have h1:=zH h1;have hl:0<csz e:=zH hl;split at h
  ·rename_i l hg;rw [q09] at h;obtain ⟨rfl,rfl⟩:=h;obtain ⟨ei,hu,_,he⟩:=q9n he;have hT:=hC.tab _ _ he;obtain ⟨i,z,k1,_,k2,k3,k4,k5,k6⟩:=hT.info;have hj:=qji hm (qd0 o parts);have hs:o fr=.none:=hf (fr,.vec e 0 false ⟨false,l⟩) (List.mem_append_right _ (ze ..)) (Nat.le_refl _) (by show fr<fr+16;omega);have ho:upds o (frz o (qd0 o parts)) fr=.none:=by
    rcases q82 (o:=o) (qd0 o parts) fr with ⟨g1,_⟩|⟨_,_,_,_,g1,_⟩
    ·rw [g1,hs]
    ·rw [hs] at g1;cases g1
   rw [←qdw (qd0 o parts)] at hg;have hc:relR (relC (immB X φ (upds o (frz o (qd0 o parts))) w) w e) (List.replicate n (zero e)) ((Array.range (n*csz e)).map ((if n*csz e=0 then #[] else z.cells)[· % (if n*csz e=0 then #[] else z.cells).size]!)).toList:=by
    by_cases hn:n*csz e=0
    ·have:n=0:=by
      rcases Nat.mul_eq_zero.1 hn with h|h
      ·exact h
      ·omega
     subst this;simp [relR]
    ·rw [if_neg hn];exact qoq k6 n
   obtain ⟨cells',g1,g2,g3⟩:=qdv hj.mem hT parts zparts.toList _ l _ (qdu (fun x z h=>hj.keeps x z h) _ _ hx)
    (fun p hp=>q8k (fun id hi=>qdx hp id hi)) hc hg
   have l2:=q1i g2;have hq:l.length=n:=by rw [g3];simp
   have ht:n≤n*csz e:=Nat.le_mul_of_pos_right n hl;refine ⟨.slice (some ⟨w.heap.size,0,none⟩) l.length n,w.alloc (.cells cells' ei),_,?_,hj.trans (q9p hj.mem (c:=cells') (el:=ei) (lo:=0) (hi:=0) (cap:=n) (ec:=cells'.toList) (rest:=[]) rfl (qbr ho) (by simp) g2 ?_ ?_ ?_ (.inl rfl) (qd6 hC he)).1⟩
   ·have h5:¬(16777216<n*csz e):=by omega
    by_cases hn:n*csz e=0
    ·simp only [hn,if_true] at g1;simp [Instr.buildSlice,run_underlying hu,q0f k1,k2,hn,hq,newRow] at g1 ⊢;simp [g1]
    ·simp only [if_neg hn] at g1;simp [Instr.buildSlice,run_underlying hu,q0f k1,k2,h5,hn,hq,newRow,q1b k1 k4] at g1 ⊢;simp [g1]
   ·rw [hq] at l2;simpa using l2
   ·omega
   ·unfold maxL;omega
  ·cases h
 ·cases h
end
end Ev

namespace Ev
open Go
section
variable {P:Program} {C:Cx} {X:Nat→Prop} {φ φ':Nat→Addr} {o o':Nat→Obj} {w w':World} {imm imm':Nat→Prop}
theorem qyp {n m:Int} {k:Nat} (h:mkN n m=some k):0≤n∧n≤m∧m≤2147483648∧k=n.toNat:=by
 unfold mkN at h;split at h
 ·rename_i h0;injection h with h;exact ⟨h0.1,h0.2.1,h0.2.2,h.symm⟩
 ·cases h
theorem qi2 {n:Int} {y:Unit} (h:fit n=some y):n≤2147483648:=by
 unfold fit at h;split at h
 ·assumption
 ·cases h
theorem qfu (hC:CxOk C) (hm:MRel C X φ o w) {fr:Nat} {t:TypeId} {l c:V} {zl zc:Value} {v:V} {u:List (Nat×Obj)} (hl:q03 φ o (immB X φ o w) w l zl) (hc:q03 φ o (immB X φ o w) w c zc) (h:(q9h lf C fr t l c).gives v u) (hf:q4s fr o u):Res C X φ o w v u (Instr.makeSlice t zl zc):=by
 unfold q9h at h;split at h
 ·rename_i e k1 n k2 m he hn hj;rw [q08,q0z] at h;obtain ⟨h1,k,h2,h3⟩:=h;simp only [Prod.mk.injEq] at h3;obtain ⟨rfl,rfl⟩:=h3;have ho:o fr=.none:=hf _ (ze ..) (Nat.le_refl _) (by show fr<fr+16;omega);obtain ⟨rfl,_⟩:=q6f hn hl;obtain ⟨rfl,_⟩:=q6f hj hc;obtain ⟨ei,hu,_,he⟩:=q9n he;obtain ⟨i,z,g1,_,g2,g3,g4,g5,g6⟩:=(hC.tab _ _ he).info;obtain ⟨a1,a2,a3,rfl⟩:=qyp h2;have hq:m.toNat≤2147483648:=by omega
  have hb:(i.bytes:Int)*m≤281474976710656:=by have h7:(i.bytes:Int)*m≤65536*m:=Int.mul_le_mul_of_nonneg_right (by omega) (by omega);omega
  have hg:=run_make (P:=C.P) w t ei i z hu g1 g4 k1 k2 n m a1 a2 hb (by omega);have hr:=q1l n.toNat (by simp;omega) (qoq (imm:=immB X φ o w) (w:=w) g6 m.toNat);have e1:(List.replicate m.toNat (zero e)).take n.toNat=List.replicate n.toNat (zero e):=by rw [List.take_replicate,Nat.min_eq_left (by omega)]
  rw [e1] at hr;have:=(q9p hm (w':=w.alloc (.cells (madeCells z.cells (m.toNat*i.size)) ei)) (c:=madeCells z.cells (m.toNat*i.size)) (el:=ei) (lo:=0) (hi:=0) (ver:=0) (cap:=m.toNat)
   (l:=List.replicate n.toNat (zero e)) (rest:=(madeCells z.cells (m.toNat*csz e)).toList.drop (n.toNat*csz e)) rfl (qbr ho) (by rw [g2,List.take_append_drop]) hr.1 (by rw [g2,size_madeCells]) (by simp;omega) (by simp;unfold maxL;omega) (.inl rfl) (qd6 hC he)).1
  rw [List.length_replicate] at this;exact ⟨_,_,_,hg,this⟩
 ·cases h
theorem qe0 {e:TypeId} (h:isU8 C e=true):C.P.underlying e=some (.int .u8):=by
 unfold isU8 at h;split at h
 ·rename_i hd;exact q0x hd
 ·cases h
theorem qor:∀{l:List (den (.int .u8))} {ec:List Value},relR (relC imm w (.int .u8)) l ec→ec=List.map (Value.int .u8) l∧∀(n:Int),n∈(l:List Int)→0≤n∧n≤255
 |[],ec,h=>by have h:ec=[]:=h;exact ⟨by rw [h];rfl,(fun n hn=>by cases hn)⟩
 |x::l,ec,⟨c,d,e,h1,h2⟩=>by
  obtain ⟨h1,h3⟩:=h1;obtain ⟨h4,h5⟩:=qor h2;refine ⟨by rw [e,h1,h4];rfl,fun n hn=>?_⟩;rcases zj.1 hn with rfl|hn
  ·unfold inK IntKind.min IntKind.max at h3;simp [IntKind.signed,IntKind.bits] at h3;exact h3
  ·exact h5 n hn
theorem qos (s:List UInt8):relR (relC imm w (.int .u8)) (s.map fun b=>(b.toNat:Int)) (s.map fun b=>Value.int .u8 (b.toNat:Int)):=by
 induction s with
 |nil=>rfl
 |cons b s ih=>refine ⟨[_],_,rfl,⟨rfl,?_⟩,ih⟩;have:=b.toNat_lt;unfold inK IntKind.min IntKind.max;simp [IntKind.signed,IntKind.bits];omega
theorem qjt (hC:CxOk C) (hm:MRel C X φ o w) {fr:Nat} {s t:TypeId} {x:V} {z:Value} {v:V} {u:List (Nat×Obj)} (hx:q03 φ o (immB X φ o w) w x z) (h:(qdh lf C o fr s t x).gives v u) (hf:q4s fr o u):Res C X φ o w v u (convert s t z):=by
 have _:=hC;unfold qdh at h;split at h
 ·cases h
 ·rename_i ds hL;have hs:=q0x hL;split at h
  ·rename_i k hw;have ht:=q0x hw;split at h
   ·rw [q09] at h;obtain ⟨rfl,rfl⟩:=h;obtain ⟨rfl,_⟩:=q2q hx;refine Res.of_pure hm ⟨rfl,_,?_,q2r (qbm _ _)⟩;simp [convert,run_underlying hs,run_underlying ht,Conv.intToInt];rfl
   ·cases h
  ·rename_i hw;have ht:=q0x hw;split at h
   ·rw [q09] at h;obtain ⟨rfl,rfl⟩:=h;refine Res.of_pure hm ⟨rfl,z,?_,hx⟩;obtain ⟨s',rfl,_,_⟩:=q38 hx;simp [convert,run_underlying hs,run_underlying ht]
   ·split at h
    ·rename_i e;rw [q08,zd] at h;obtain ⟨⟨h1,_⟩,h⟩:=h;have he:=qe0 h1;split at h
     ·rename_i sl hM;rw [q09] at h;obtain ⟨rfl,rfl⟩:=h;obtain ⟨g1,g2⟩:=qjj hm.objs hx hM;rcases g2 with ⟨_,g3,rfl⟩|⟨_,a,cap,ec,rfl,g4,g5,g6,g7⟩
      ·refine Res.of_pure hm ⟨rfl,.string .empty,?_,qok (by rw [g3];rfl) (by unfold maxL;simp)⟩;rw [run_convert_bytes_string _ _ _ _ _ _ _ hs he ht];simp [Conv.bytesToString]
      ·obtain ⟨e1,e2⟩:=qor g5;have hl:(List.map (fun n:Int=>UInt8.ofNat n.toNat) sl.l).length=List.length sl.l:=by simp
       have back:∀n:Int,0≤n→n≤255→(((UInt8.ofNat n.toNat).toNat:Nat):Int)=n:=by intro n h0 h1;rw [UInt8.toNat_ofNat',Nat.mod_eq_of_lt (by omega)];omega
       have hr:=run_convert_bytes_back (P:=C.P) w s t e a cap (List.map (fun n:Int=>UInt8.ofNat n.toNat) sl.l) hs he ht (fun j hj=>by
        have hN:j<ec.length:=by rw [e1];simpa using hj
        have hc:=g6 j hN;rw [q2n (g4 (by rw [hl] at hj;omega)),hc];simp only [e1,List.getElem_map,zF,Value.int.injEq,true_and];have hO:j<(sl.l:List Int).length:=by simpa using hj
        obtain ⟨b1,b2⟩:=e2 (sl.l:List Int)[j] (List.getElem_mem hO);exact (back _ b1 b2).symm)
       rw [hl] at hr;refine Res.of_pure hm ⟨rfl,_,hr,qok ?_ ?_⟩
       ·simp only [zW]
        conv=>rhs;rw [←List.map_id (l:=(sl.l:List Int))]
        apply zX;intro n hn;obtain ⟨b1,b2⟩:=e2 n hn;exact back n b1 b2
       ·simpa [ByteArray.size] using g1
     ·cases h
    ·cases h
  ·rename_i e hw;have ht:=q0x hw;split at h
   ·rename_i l;split at h
    case h_2=>cases h
    rw [q08,q0z] at h;obtain ⟨h1,y,h2,h3⟩:=h;simp only [Prod.mk.injEq] at h3;obtain ⟨rfl,rfl⟩:=h3;have he:=qe0 h1;obtain ⟨b,rfl,rfl,hb⟩:=q38 hx;have hP:o fr=.none:=hf _ (ze ..) (Nat.le_refl _) (by show fr<fr+16;omega);have hQ:=qi2 h2;have hu:=run_bytes_of_string (P:=C.P) w s t e b hs ht he;have hD:b.size≤grownCap w b.size 0 e:=by exact Nat.le_add_right _ _
    have e1:(b.data.toList.map fun c=>(c.toNat:Int)).length=b.size:=by simp
    have:=(q9p hm (w':=w.drew.alloc (.cells (bytesRow b (grownCap w b.size 0 e)) e ((bytesRow b (grownCap w b.size 0 e)).size,(bytesRow b (grownCap w b.size 0 e)).size+1)))
     (l:=b.data.toList.map fun c=>(c.toNat:Int)) (e:=.int .u8) (ver:=0) (cap:=grownCap w b.size 0 e) (ec:=b.data.toList.map fun c=>Value.int .u8 (c.toNat:Int)) (rest:=List.replicate (grownCap w b.size 0 e-b.size) (.int .u8 0))
     rfl (qbr hP) (by simp [bytesRow]) (qos _) (by simp [bytesRow,csz];omega) (by rw [e1];exact hD) (by rw [e1];exact hb) (.inr (Nat.le_refl _)) (fun _=>he)).1
    rw [e1] at this;exact ⟨_,_,_,hu,this⟩
   ·rename_i id ver;split at h
    ·rename_i e';split at h
     ·rename_i ver' b ho;rw [q08,q0z,zd,zd] at h;obtain ⟨⟨⟨h1,hE⟩,hF⟩,y,h2,h3⟩:=h;simp only [Prod.mk.injEq] at h3;obtain ⟨rfl,rfl⟩:=h3;have he:=qe0 h1;have hE:=zg hE;have hF:=zg hF;subst hE hF;have hR:e'=e:=by rw [hs] at ht;injection ht with ht;injection ht
      subst hR;have hn:b.nil=false:=by
       have h2:cnd b.nil none (some ())=some y:=h2;cases hb:b.nil with
       |false=>rfl
       |true=>rw [hb] at h2;cases h2
      have hy:=hm.objs id;have hz:=hm.els id;unfold q03 at hx;rw [ho] at hx hy hz;obtain ⟨b1,b2,b3⟩:=hy;obtain ⟨b4,ec,b5,b6,b7,b8,_⟩:=(b3 hn).resolve_right fun g=>g.2.2 rfl;obtain ⟨c,el,fz,r1,hS,hT⟩:=hz rfl hn;rcases hx.2 rfl with ⟨hJ,_⟩|⟨_,cap,rfl,k1,k2,k3⟩
      ·rw [hn] at hJ;cases hJ
      ·obtain ⟨lo,hi⟩:=fz;have hK:excl (φ id) (o id)=true:=by rw [ho];exact q2y hn b4
       generalize hA:w.freeze ⟨(φ id).block,c.size,none⟩ 1=w2;have hq:∃hB,w2.heap[(φ id).block]?=some (.cells c el (c.size,hB)):=by
        rw [←hA];simp only [World.freeze,Nat.one_ne_zero,if_false,Array.getElem?_modify,if_true,r1,Option.map_some];by_cases hG:lo=hi
        ·subst hG;exact ⟨_,by simp;rfl⟩
        ·have:c.size≤lo:=hT.resolve_left hG;refine ⟨max hi (c.size+1),?_⟩;have hb:(lo==hi)=false:=by simpa using hG
         simp [hb,Nat.min_eq_right this]
       obtain ⟨hB,hq⟩:=hq;have hH:∀b',b'≠(φ id).block→w2.heap[b']?=w.heap[b']?:=fun b' hI=>by rw [←hA];simp only [World.freeze,Nat.one_ne_zero,if_false,Array.getElem?_modify];rw [if_neg fun e=>hI e.symm]
       have hU:w2.heap.size=w.heap.size:=by rw [←hA];simp [World.freeze]
       have hg:∀n,room w (φ id) n→room w2 (φ id) n:=fun n ⟨c',el',lo',hX,q1,q2,q3⟩=>by rw [r1] at q1;injection q1 with q1;injection q1 with q4 q5 q6;subst q4 q5;exact ⟨c,el,c.size,hB,hq,q2,.inr (.inr q2)⟩
       have hv:q1f w2 (φ id) ec:=fun j hj=>by have:=b6 j hj;unfold World.cell? at this ⊢;simp only [r1] at this;simp only [hq];exact this
       have hV:w.shape? (bare (φ id)).block=some (el,c.size):=by have:w.heap[(bare (φ id)).block]?=some (.cells c el (lo,hi)):=r1;rw [World.shape?,this]
       have hu:(convert s s (.slice (some (bare (φ id))) b.l.length cap)).run C.P w=.ok (.slice (some (bare (φ id))) b.l.length cap) w2:=by rw [←hA];simp [convert,run_underlying hs,run_underlying he,markStringish,hV,freeze];rfl
       refine ⟨_,w2,φ,hu,Comes.write hm _ (fun _=>hK) hU (fun b' hI=>hH b' fun e=>hI ⟨hK,e.symm⟩) ?_ (fun a1 a2 a3=>?_) (fun _ _=>⟨c,el,(c.size,hB),hq,hS,.inr (Nat.le_refl _)⟩) (fun hW=>?_) (by rw [←hA];exact ⟨rfl,rfl⟩)⟩
       ·rw [ho];exact .inr ⟨rfl,rfl,rfl,rfl,rfl,fun _=>⟨rfl,fun _ _ n hr=>hg n hr⟩⟩
       ·exact ⟨b1,b2,fun _=>.inl ⟨b4,ec,q11 (q0j a1 a2 _) b5,hv,hg _ b7,fun _=>hg _ (b8 rfl),by simp⟩⟩
       ·unfold q03;rw [hW];exact ⟨Nat.le_refl _,fun _=>.inr ⟨hn,cap,rfl,k1,k2,fun h1 h2=>hg _ (k3 h1 h2)⟩⟩
     ·cases h
    ·cases h
   ·cases h
  ·cases h
theorem z1u {e:Ty} {l:List Int} {m:List (den e)} (h:asTy (.arr 0 e) (.arr 0 (.int .u8)) l=some m):∃h:Ty.int .u8=e,m=h▸l:=by obtain ⟨h1,h2⟩:=q2s h;injection h1 with _ h1;subst h1;exact ⟨rfl,h2⟩
theorem qju (hm:MRel C X φ o w) {e:Ty} {y:V} {zy:Value} {m:List (den e)} (hy:q03 φ o (immB X φ o w) w y zy) (h:qo9 lf o e y=some m):∃news,relR (relC (immB X φ o w) w e) m news∧m.length≤maxL∧(∀w':World,(Builtin.lenOf zy).run P w'=.ok m.length w')∧(∀(w':World) k,w'.heap=w.heap→k≤m.length→(Builtin.firstCells (csz e) k zy).run P w'=.ok (news.take (k*csz e)).toArray w'):=by
 have cell:∀(w':World) (a:Addr),w'.heap=w.heap→w'.cell? a=w.cell? a:=fun w' a h=>by unfold World.cell?;rw [h]
 by_cases hs:∃l,y=.d .str l
 ·obtain ⟨l,rfl⟩:=hs;obtain ⟨h1,h2⟩:=z1u h;subst h1 h2;obtain ⟨b,rfl,rfl,hb⟩:=q38 hy;refine ⟨_,qos _,by simpa using hb,fun w'=>by simp [Builtin.lenOf],fun w' k _ hk=>?_⟩;have hk:k≤b.size:=by simpa using hk
  simp only [Builtin.firstCells,csz,Nat.mul_one,Sem.run_pure];congr 1;apply Array.toList_inj.1;simp
 ·have h:∃s,asD lf o (.sl e) y=some s∧m=s.l:=by
   have:qo9 lf o e y=(match asD lf o (.sl e) y with|some s=>some s.l|none=>none):=by
    cases y<;>try rfl
    rename_i t d;cases t<;>first|rfl|exact absurd ⟨_,rfl⟩ hs
   rw [this] at h;split at h
   ·rename_i s e1;injection h with h;exact ⟨s,e1,h.symm⟩
   ·cases h
  obtain ⟨s,h1,rfl⟩:=h;obtain ⟨g1,g2⟩:=qjj hm.objs hy h1;rcases g2 with ⟨_,g3,rfl⟩|⟨_,a,cap,ec,rfl,g4,g5,g6,g7⟩
  ·refine ⟨[],by rw [g3];rfl,g1,fun w'=>by simp [Builtin.lenOf,g3],fun w' k _ hk=>by simp [Builtin.firstCells]⟩
  ·refine ⟨ec,g5,g1,fun w'=>by simp [Builtin.lenOf],fun w' k hw hk=>?_⟩;have hl:=q1i g5;have hg:k*csz e≤ec.length:=by rw [hl];exact Nat.mul_le_mul_right _ hk
   refine run_firstCells_some w' _ _ _ _ _ _ (by simp;omega) (fun j v hj=>?_);obtain ⟨hc,he⟩:=zO.1 hj;have hf:j<ec.length:=by simp at hc;omega
   rw [cell _ _ hw,q2n (g4 fun h0=>by
    have h4:s.l.length=0:=by omega
    rw [h4,Nat.zero_mul] at hl;omega)]
   have:=g6 j hf;rw [this,←he];simp
end
end Ev

namespace Ev
open Go
theorem qjv (l ds:List Value) (k j:Nat) (hk:k≤l.length):(ov l k ds)[j]?=if j<k then l[j]? else if j<k+ds.length then ds[j-k]? else l[j]?:=by
 unfold ov;by_cases h1:j<k
 ·rw [if_pos h1,zC,jg (by simp;omega),List.getElem?_take,if_pos h1]
 ·rw [if_neg h1,zC,zY (by simp;omega)];have e:(l.take k).length=k:=by simp [Nat.min_eq_left hk]
  rw [e];by_cases h2:j<k+ds.length
  ·rw [if_pos h2,jg (by omega)]
  ·rw [if_neg h2,zY (by omega),List.getElem?_drop];congr 1;omega
section
variable {P:Program} {C:Cx} {X:Nat→Prop} {φ φ':Nat→Addr} {o o':Nat→Obj} {w w':World} {imm imm':Nat→Prop}
theorem cellsAt_iff {a:Addr} {cs:List Value}:q1f w a cs↔∀j v,cs[j]?=some v→w.cell? ⟨a.block,a.off+j,none⟩=some v:=by
 constructor
 ·intro h j v hj;obtain ⟨h1,h2⟩:=zO.1 hj;rw [h j h1,h2]
 ·intro h j hj;exact h j _ (zh hj)
theorem q8n {a:Addr} {ec ds:List Value} {k:Nat} {c:Array Value} {el:TypeId} {fz:Nat×Nat} (hh:w.heap[a.block]?=some (.cells c el fz)) (h:q1f w a ec) (hk:k≤ec.length) (hb:a.off+k+ds.length≤c.size):q1f (w.setRow a.block (ov c.toList (a.off+k) ds).toArray) a (ov ec k ds):=by
 rw [cellsAt_iff] at h ⊢;intro j v hj;simp only [World.cell?,q5o hh,Option.isSome_none,Bool.false_eq_true,if_false,List.getElem?_toArray];rw [qjv _ _ _ _ hk] at hj;rw [qjv _ _ _ _ (by simp;omega)];by_cases h1:j<k
 ·rw [if_pos h1] at hj;rw [if_pos (by omega)];have:=h j v hj;simpa [World.cell?,hh] using this
 ·rw [if_neg h1] at hj;rw [if_neg (by omega)];by_cases h2:j<k+ds.length
  ·rw [if_pos h2] at hj;rw [if_pos (by omega),←hj];congr 1;omega
  ·rw [if_neg h2] at hj;rw [if_neg (by omega)];have:=h j v hj;simpa [World.cell?,hh] using this
def q77 (P:Program) (u:TypeId):Prop:=(∃e,P.underlying u=some (.slice e))∨P.underlying u=some .string
theorem qi3 {t u ty ei:TypeId} {ts:List TypeId} {i:TypeInfo} (ht:P.underlying t=some (.slice ei)) (hu:q77 P u) (hi:P.info? ei=some i) {b off n cap m lo he:Nat} {zy:Value} {news:List Value} {cur:Array Value} {el:TypeId} (hn:(Builtin.lenOf zy).run P w=.ok m w) (hf:(Builtin.firstCells i.size m zy).run P w=.ok news.toArray w) (hg:w.heap[b]?=some (.cells cur el (lo,he))) (hc:n+m≤cap) (hj:off+n*i.size+news.length≤cur.size) (ho:he≤lo∨he≤off+n*i.size∨off+n*i.size+news.length≤lo) (h1:∀v∈news,v.oneCell'=true):(Builtin.append_ (t::u::ts).toArray ty #[.slice (some ⟨b,off,none⟩) n cap,zy]).run P w=.ok (.slice (some ⟨b,off,none⟩) (n+m) cap) (w.setRow b (ov cur.toList (off+n*i.size) news).toArray):=by
 have hm:=q2b (P:=P) (b:=b) (off:=off+n*i.size) news 0 cur w hg hj ho h1;simp only [Nat.add_zero] at hm;have hl:(⟨b,off,none⟩:Addr).add (n*i.size)=⟨b,off+n*i.size,none⟩:=q2n rfl _;rcases hu with ⟨e,hu⟩|hu<;>
 simp [Builtin.append_,run_underlying ht,run_underlying hu,q0f hi,hn,hc,hf,hl,hm]
theorem qe1 {t u ty ei:TypeId} {ts:List TypeId} {i:TypeInfo} (ht:P.underlying t=some (.slice ei)) (hu:q77 P u) (hi:P.info? ei=some i) {zy:Value} {cs:Array Value} (hn:(Builtin.lenOf zy).run P w=.ok 0 w) (hf:(Builtin.firstCells i.size 0 zy).run P w=.ok cs w):(Builtin.append_ (t::u::ts).toArray ty #[.slice none 0 0,zy]).run P w=.ok (.slice none 0 0) w:=by
 rcases hu with ⟨e,hu⟩|hu<;>
 simp [Builtin.append_,run_underlying ht,run_underlying hu,q0f hi,hn,hf]
theorem qe2 {t u ty ei:TypeId} {ts:List TypeId} {i:TypeInfo} (ht:P.underlying t=some (.slice ei)) (hu:q77 P u) (hi:P.info? ei=some i) {base:Addr} {n cap:Nat} {zy:Value} (hn:(Builtin.lenOf zy).run P w=.ok 0 w) (hf:(Builtin.firstCells i.size 0 zy).run P w=.ok ([]:List Value).toArray w) (hc:n≤cap):(Builtin.append_ (t::u::ts).toArray ty #[.slice (some base) n cap,zy]).run P w=.ok (.slice (some base) n cap) w:=by
 rcases hu with ⟨e,hu⟩|hu<;>
 simp [Builtin.append_,run_underlying ht,run_underlying hu,q0f hi,hn,hf,hc,storeCells]
theorem q96 {t u ty ei:TypeId} {ts:List TypeId} {i:TypeInfo} {z:Value} (ht:P.underlying t=some (.slice ei)) (hu:q77 P u) (hi:P.info? ei=some i) (hz:i.zero=some z) {base:Option Addr} {n cap m:Nat} {zy:Value} {olds news:List Value} (hn:(Builtin.lenOf zy).run P w=.ok m w) (hf:(Builtin.firstCells i.size m zy).run P w.drew=.ok news.toArray w.drew) (hj:(Builtin.firstCells i.size n (.slice base n cap)).run P w.drew=.ok olds.toArray w.drew) (hg:cap<n+m) (hm:n+m≤2147483648) (ho:i.bytes≤65536):(Builtin.append_ (t::u::ts).toArray ty #[.slice base n cap,zy]).run P w=.ok (.slice (some ⟨w.heap.size,0,none⟩) (n+m) (grownCap w (n+m) cap ei)) (w.drew.alloc (.cells (olds.toArray++news.toArray++Builtin.zeroCells z.cells (grownCap w (n+m) cap ei-(n+m))) ei)):=by
 have hl:¬(n+m≤cap):=by omega
 have hc:¬(9223372036854775807<((n:Int)+(m:Int))):=by omega
 have hq:(n+m)*i.bytes≤140737488355328:=Nat.le_trans (Nat.mul_le_mul hm ho) (by omega);have he:¬(281474976710656<Builtin.nextslicecap (n+m) cap*i.bytes):=by have:=growslice_fits hg hq;omega
 rcases hu with ⟨e,hu⟩|hu
 ·simp [Builtin.append_,run_underlying ht,run_underlying hu,q0f hi,q1b hi hz,typeInfo,hi,hn,hl,hc,he,Question.forced,hf,hj,newRow,grownCap];congr 2;apply Array.ext';simp [List.append_assoc]
 ·simp [Builtin.append_,run_underlying ht,run_underlying hu,q0f hi,q1b hi hz,typeInfo,hi,hn,hl,hc,he,Question.forced,hf,hj,newRow,grownCap];congr 2;apply Array.ext';simp [List.append_assoc]
end
end Ev

namespace Ev
open Go
section
variable {P:Program} {C:Cx} {X:Nat→Prop} {φ φ':Nat→Addr} {o o':Nat→Obj} {w w':World} {imm imm':Nat→Prop}
theorem q25 {a:Addr} {n off:Nat} {c:Array Value} {el:TypeId} {fz:Nat×Nat} {ds:List Value} (hh:w.heap[a.block]?=some (.cells c el fz)) (hb:off+ds.length≤c.size) (h:room w a n):room (w.setRow a.block (ov c.toList off ds).toArray) a n:=by obtain ⟨c',el',lo,hi,h1,h2,h3⟩:=h;rw [hh] at h1;injection h1 with h1;injection h1 with h1 h4 h5;subst h1 h4 h5;refine ⟨_,_,lo,hi,q5o hh _,?_,h3⟩;have:=qdt c.toList off ds (by simpa using hb);simp at this ⊢;omega
theorem qmq {u:TypeId} (h:qsy C u=true):q77 C.P u:=by
 unfold qsy at h;split at h
 ·rename_i e hd;exact .inl ⟨e,q0x hd⟩
 ·rename_i hd;exact .inr (q0x hd)
 ·cases h
theorem q9q (hC:CxOk C) (hm:MRel C X φ o w) {t u ty ei:TypeId} {ts:List TypeId} {e:Ty} (he:C.ty ei=some e) (ht:C.P.underlying t=some (.slice ei)) (hu:q77 C.P u) {tid v':Nat} {l m:List (den e)} {zx zy:Value} (hq:∀w' a' s,Up w w' (φ tid) a' (o tid) (.vec e v' false s)) {news:List Value} (hr:relR (relC (immB X φ o w) w e) m news) (hf:∀w':World,(Builtin.lenOf zy).run C.P w'=.ok m.length w') (hs:∀(w':World) k,w'.heap=w.heap→k≤m.length→(Builtin.firstCells (csz e) k zy).run C.P w'=.ok (news.take (k*csz e)).toArray w') (hv:l.length+m.length≤2147483648) {base:Option Addr} {n cap:Nat} {olds:List Value} (hn:n=l.length) (hg:cap<n+m.length) (hw:zx=.slice base n cap) (hl:relR (relC (immB X φ o w) w e) l olds) (ho:(Builtin.firstCells (csz e) n zx).run C.P w.drew=.ok olds.toArray w.drew):Res C X φ o w (.osl tid v') [(tid,.vec e v' false ⟨false,l++m⟩)] (Builtin.append_ (t::u::ts).toArray ty #[zx,zy]):=by
 obtain ⟨i,z,k1,_,k2,k3,k4,k5,k6⟩:=(hC.tab _ _ he).info;have hx:z.cells.size=csz e:=by have:=q0o (imm:=immB X φ o w) (w:=w) _ _ _ (k6 _ w);simpa using this
 have nl':=q1i hr;have hy:(news.take (m.length*csz e))=news:=by rw [←nl',List.take_length]
 have hc:∀w':World,w'.heap=w.heap→(Builtin.firstCells i.size m.length zy).run C.P w'=.ok news.toArray w':=fun w' h=>by have:=hs w' m.length h (Nat.le_refl _);rw [hy,←k2] at this;exact this
 subst hw;rw [←k2] at ho;have hj:=q96 (ts:=ts) (ty:=ty) (w:=w) ht hu k1 k4 (hf w) (hc w.drew rfl) ho hg (by omega) k3;have hz:n+m.length≤grownCap w (n+m.length) cap ei:=Nat.le_add_right _ _;have lo':=q1i hl;have:=(q9p hm (fr:=tid) (ver:=v') (w':=w.drew.alloc (.cells (olds.toArray++news.toArray++Builtin.zeroCells z.cells (grownCap w (n+m.length) cap ei-(n+m.length))) ei)) (lo:=0) (hi:=0) (e:=e) (l:=l++m)
  (cap:=grownCap w (n+m.length) cap ei) (ec:=olds++news) (rest:=(Builtin.zeroCells z.cells (grownCap w (n+m.length) cap ei-(n+m.length))).toList)
  (c:=olds.toArray++news.toArray++Builtin.zeroCells z.cells (grownCap w (n+m.length) cap ei-(n+m.length))) rfl (fun w'=>hq w' _ _) (by simp) (q3v hl hr)
  (by
   simp only [Array.size_append,List.size_toArray,size_zeroCells,hx,lo',nl',←hn];rw [←Nat.add_mul,←Nat.add_mul];congr 1;omega)
  (by rw [zp,←hn];exact hz) (by rw [zp];unfold maxL;omega) (.inl rfl) (qd6 hC he)).1
 rw [zp,←hn] at this;exact ⟨_,_,_,hj,this⟩
theorem q9r (hC:CxOk C) (hm:MRel C X φ o w) {t u ty ei:TypeId} {ts:List TypeId} {e:Ty} (he:C.ty ei=some e) (ht:C.P.underlying t=some (.slice ei)) (hu:q77 C.P u) {tid v':Nat} {nl:Bool} {l m:List (den e)} {zx zy:Value} (hF:∀w' a' s,Up w w' (φ tid) a' (o tid) (.vec e v' false s)) (hx:(nl=true∧l=[]∧zx=.slice none 0 0)∨(nl=false∧∃n cap ver s,o tid=.vec e ver false s∧s.nil=false∧n=l.length∧n≤s.l.length∧l=s.l.take n∧zx=.slice (some (bare (φ tid))) n cap∧n≤cap∧((φ tid).spot.isSome=true→cap=0)∧((φ tid).spot=none→room w (φ tid) (cap*csz e)))) {news:List Value} (hr:relR (relC (immB X φ o w) w e) m news) (hv:∀w':World,(Builtin.lenOf zy).run C.P w'=.ok m.length w') (hO:∀(w':World) k,w'.heap=w.heap→k≤m.length→(Builtin.firstCells (csz e) k zy).run C.P w'=.ok (news.take (k*csz e)).toArray w') (hP:l.length+m.length≤2147483648):Res C X φ o w (.osl tid v') [(tid,.vec e v' false ⟨andB nl (isE m),l++m⟩)] (Builtin.append_ (t::u::ts).toArray ty #[zx,zy]):=by
 obtain ⟨i,z,k1,_,k2,k3,k4,k5,k6⟩:=(hC.tab _ _ he).info;have hQ:z.cells.size=csz e:=by have:=q0o (imm:=immB X φ o w) (w:=w) _ _ _ (k6 _ w);simpa using this
 have nl':=q1i hr;have hR:(news.take (m.length*csz e))=news:=by rw [←nl',List.take_length]
 have hq:∀w':World,w'.heap=w.heap→(Builtin.firstCells i.size m.length zy).run C.P w'=.ok news.toArray w':=fun w' h=>by have:=hO w' m.length h (Nat.le_refl _);rw [hR,←k2] at this;exact this
 have grow:∀(base:Option Addr) (n cap:Nat) (olds:List Value),n=l.length→cap<n+m.length→zx=.slice base n cap→relR (relC (immB X φ o w) w e) l olds→
   (Builtin.firstCells i.size n zx).run C.P w.drew=.ok olds.toArray w.drew→andB nl (isE m)=false→
   Res C X φ o w (.osl tid v') [(tid,.vec e v' false ⟨andB nl (isE m),l++m⟩)] (Builtin.append_ (t::u::ts).toArray ty #[zx,zy]):=by
  intro base n cap olds hn hg hS hz hI hT;subst hS;have hf:=q96 (ts:=ts) (ty:=ty) (w:=w) ht hu k1 k4 (hv w) (hq w.drew rfl) hI hg (by omega) k3;have hU:n+m.length≤grownCap w (n+m.length) cap ei:=Nat.le_add_right _ _;have lo':=q1i hz;have:=(q9p hm (fr:=tid) (ver:=v') (w':=w.drew.alloc (.cells (olds.toArray++news.toArray++Builtin.zeroCells z.cells (grownCap w (n+m.length) cap ei-(n+m.length))) ei)) (lo:=0) (hi:=0) (e:=e) (l:=l++m)
   (cap:=grownCap w (n+m.length) cap ei) (ec:=olds++news) (rest:=(Builtin.zeroCells z.cells (grownCap w (n+m.length) cap ei-(n+m.length))).toList)
   (c:=olds.toArray++news.toArray++Builtin.zeroCells z.cells (grownCap w (n+m.length) cap ei-(n+m.length))) rfl (fun w'=>hF w' _ _) (by simp) (q3v hz hr)
   (by
    simp only [Array.size_append,List.size_toArray,size_zeroCells,hQ,lo',nl',←hn];rw [←Nat.add_mul,←Nat.add_mul];congr 1;omega)
   (by rw [zp,←hn];exact hU) (by rw [zp];unfold maxL;omega) (.inl rfl) (qd6 hC he)).1
  rw [zp,←hn] at this;rw [hT];exact ⟨_,_,_,hf,this⟩
 rcases hx with ⟨rfl,rfl,rfl⟩|⟨rfl,n,cap,ver,s,ho,hJ,hn,hM,hl,rfl,hK,hV,hA⟩
 ·cases hw:m with
  |nil=>subst hw;have hf:=qe1 (ts:=ts) (ty:=ty) (w:=w) ht hu k1 (hv w) (hq w rfl);refine ⟨_,w,φ,hf,?_⟩;refine Comes.write hm _ (by simp [excl,live,andB,isE]) rfl (fun _ _=>rfl) (hF w (φ tid) _) (fun _ _ _=>⟨by simp,fun _=>rfl,fun h=>by simp [andB,isE] at h⟩) (fun _ h=>by simp [andB,isE] at h) (fun hB=>?_);unfold q03;rw [hB];exact ⟨Nat.le_refl _,fun _=>.inl ⟨rfl,rfl⟩⟩
  |cons y r=>rw [←hw];exact grow none 0 0 [] rfl (by rw [hw];simp) rfl rfl (run_firstCells_none (P:=C.P) w.drew i.size 0 0 0) (by rw [hw];rfl)
 ·have hD:=hm.objs tid;rw [ho] at hD;obtain ⟨g1,g2,g3⟩:=hD;rcases g3 hJ with ⟨g4,ec,g5,g6,g7,g8,_⟩|⟨g4,c1,c3⟩
  ·have hN:excl (φ tid) (o tid)=true:=by rw [ho];exact q2y hJ g4
   have hW:=q1l n hM g5;have hX:=q1i g5;have hY:n*csz e≤ec.length:=by rw [hX];exact Nat.mul_le_mul_right _ hM
   have hz:relR (relC (immB X φ o w) w e) l (ec.take (n*csz e)):=by rw [hl];exact hW.1
   by_cases hc:n+m.length≤cap
   ·rw [qyd g4];obtain ⟨c,el,lo,hi,r1,r2,r3⟩:=hA g4;have hZ:n*csz e+m.length*csz e≤cap*csz e:=by rw [←Nat.add_mul];exact Nat.mul_le_mul_right _ hc
    have hf:=qi3 (ts:=ts) (ty:=ty) (w:=w) (b:=(φ tid).block) (off:=(φ tid).off) (n:=n) (cap:=cap) (m:=m.length) ht hu k1 (hv w) (hq w rfl) r1 hc (by rw [k2,nl'];omega) (by rw [k2,nl'];omega) (qd5 hr);rw [k2] at hf;have h0:andB false (isE m)=false:=rfl;rw [h0];have hG:(l++m).length=n+m.length:=by rw [zp,←hn]
    have hs:(φ tid).off+n*csz e+news.length≤c.size:=by rw [nl'];omega
    refine ⟨_,_,φ,hf,?_⟩;have hL:∀k,k≤cap*csz e→room (w.setRow (φ tid).block (ov c.toList ((φ tid).off+n*csz e) news).toArray) (φ tid) k:=fun k hk=>q25 r1 hs ⟨c,el,lo,hi,r1,by omega,by omega⟩;refine Comes.write hm _ (fun _=>hN) (by simp) (fun b hb=>setRow_other w _ b _ (fun e=>hb ⟨hN,e.symm⟩)) (hF _ _ _) (fun h1 h2 h3=>?_) (qaj hm ho hJ (.ov r1 hs)) (fun hB=>?_)
    ·refine ⟨by rw [hG];unfold maxL;omega,by simp,fun _=>.inl ⟨g4,ec.take (n*csz e)++news,q11 (q0j h1 h2 e) (q3v hz hr),?_,hL 0 (Nat.zero_le _),fun _=>hL _ ?_,by simp⟩⟩
     ·have:=q8n (k:=n*csz e) (ds:=news) r1 (q49 (n*csz e) g6) (by simp [hY]) hs;have e1:ov (ec.take (n*csz e)) (n*csz e) news=ec.take (n*csz e)++news:=by unfold ov;rw [List.take_take,Nat.min_self,zQ (by simp;omega),zG]
      rw [e1] at this;exact this
     ·rw [hG];exact Nat.mul_le_mul_right _ hc
    ·unfold q03;rw [hB];refine ⟨Nat.le_refl _,fun _=>.inr ⟨rfl,cap,(by rw [hG,qyd g4]),(by rw [hG];exact hc),(fun h=>by rw [g4] at h;cases h),fun _ _=>hL _ (Nat.le_refl _)⟩⟩
   ·have hI:(Builtin.firstCells i.size n (.slice (some (bare (φ tid))) n cap)).run C.P w.drew=.ok (ec.take (n*csz e)).toArray w.drew:=by refine run_firstCells_some w.drew i.size n (bare (φ tid)) n cap _ (by rw [k2];simp;omega) (fun j v hj=>?_);rw [q2n (a:=bare (φ tid)) (qdn g4)];exact cellsAt_iff.1 (q49 _ g6) j v hj
    exact grow (some (bare (φ tid))) n cap _ hn (by omega) rfl hz hI rfl
  ·have hy:cap=0:=hV (by cases h:(φ tid).spot with
    |none=>exact absurd h g4
    |some _=>rfl)
   have hH:n=0:=by omega
   have h5:l=[]:=zD (by omega);subst h5;cases hw:m with
   |nil=>
    subst hw;have hE:news=[]:=zD (by rw [nl'];simp);subst hE;have hf:=qe2 (ts:=ts) (ty:=ty) (w:=w) (base:=bare (φ tid)) (n:=n) (cap:=cap) ht hu k1 (hv w) (hq w rfl) hK;refine ⟨_,w,φ,hf,?_⟩;refine Comes.write hm _ (fun h=>absurd (q3g h).2.2 g4) rfl (fun _ _=>rfl) (hF w (φ tid) _) (fun _ _ _=>⟨by simp,by simp,fun _=>.inr ⟨g4,rfl,c3⟩⟩) (fun h=>absurd h c3) (fun hB=>?_);unfold q03;rw [hB];refine ⟨Nat.le_refl _,fun _=>.inr ⟨rfl,cap,?_,?_,fun _=>hy,fun _ h=>absurd h g4⟩⟩
    ·rw [hH];rfl
    ·simp
   |cons y r=>rw [←hw];refine grow (some (bare (φ tid))) n cap [] (by simpa using hH) (by rw [hw,hH,hy];simp) rfl rfl ?_ rfl;refine run_firstCells_some w.drew i.size n (bare (φ tid)) n cap _ (by rw [hH];simp) (fun j v hj=>by simp at hj)
theorem q9s {id ver:Nat} {e:Ty} {nil:Bool} {l m:List (den e)} {v:V} {u:List (Nat×Obj)} (h:(qsx lf id ver e nil l m).gives v u):l.length+m.length≤2147483648∧v=.osl id ver∧u=[(id,.vec e ver false ⟨andB nil (isE m),l++m⟩)]:=by unfold qsx at h;rw [q0z] at h;obtain ⟨y,h1,h2⟩:=h;simp only [Prod.mk.injEq] at h2;obtain ⟨rfl,rfl⟩:=h2;have:=qi2 h1;have h3:(l.length:Int)+(m.length:Int)≤2147483648:=this;exact ⟨by omega,rfl,rfl⟩
theorem qmr (hC:CxOk C) (hm:MRel C X φ o w) {fr:Nat} {t u ty:TypeId} {ts:List TypeId} {x y:V} {zx zy:Value} {v:V} {u':List (Nat×Obj)} (hx:q03 φ o (immB X φ o w) w x zx) (hy:q03 φ o (immB X φ o w) w y zy) (h:(qhk lf C o fr t u x y).gives v u') (hf:q4s fr o u'):Res C X φ o w v u' (Builtin.append_ (t::u::ts).toArray ty #[zx,zy]):=by
 unfold qhk at h;split at h
 ·cases h
 ·rename_i e he;obtain ⟨ei,ht,_,he⟩:=q9n he;split at h
  ·cases h
  ·rename_i m hB;rw [q08,zd] at h;obtain ⟨⟨h1,_⟩,h⟩:=h;have hu:=qmq h1;obtain ⟨news,n1,n2,n3,n4⟩:=qju hm hy hB;cases x<;>try exact False.elim h
   ·rename_i id ver;simp only at h;split at h
    ·rename_i e' ver' s ho;split at h
     ·rename_i s' hs;rw [q08] at h;obtain ⟨hv,h⟩:=h;obtain ⟨h3,h4⟩:=q2s hs;injection h3 with h3;subst h3 h4;obtain ⟨g1,rfl,rfl⟩:=q9s h;have hc:=hm.objs id;unfold q03 at hx;rw [ho] at hx hc;have hv:=zg hv;have hx:=hx.2 hv;refine q9r hC hm he ht hu (fun _ _ _=>by rw [ho];exact .inl (by omega)) ?_ n1 n3 n4 g1;rcases hx with ⟨k1,rfl⟩|⟨k1,cap,rfl,k2,k4,k3⟩
      ·exact .inl ⟨k1,hc.2.1 k1,rfl⟩
      ·exact .inr ⟨k1,s'.l.length,cap,_,s',ho,k1,rfl,Nat.le_refl _,(List.take_length).symm,rfl,k2,k4,k3 rfl⟩
     ·cases h
    ·cases h
   ·rename_i id ver n cp;simp only at h;split at h
    ·rename_i e' ver' fr' s ho;split at h
     ·rename_i s' hs;rw [q08] at h;obtain ⟨hv,h⟩:=h;obtain ⟨h3,h4⟩:=q2s hs;injection h3 with h3;subst h3 h4;split at h
      ·obtain ⟨g1,rfl,rfl⟩:=q9s h;have hc:=hm.objs id;unfold q03 at hx;rw [ho] at hx hc;have hv:=zg hv;obtain ⟨hn,hx,_⟩:=hx.2 hv;refine q9r hC hm he ht hu (fun _ _ _=>by rw [ho];exact .inl (by omega)) ?_ n1 n3 n4 g1;rcases hx with ⟨k1,rfl⟩|⟨k1,cap,rfl,k2,k3⟩
       ·exact .inl ⟨k1,by simp [lf,takeL,hc.2.1 k1],rfl⟩
       ·exact .inr ⟨k1,n,cap,_,s',ho,k1,by simp [lf,takeL,Nat.min_eq_left hn],hn,rfl,rfl,k2,k3.1,k3.2 rfl⟩
      ·rw [q0z] at h;obtain ⟨y,h2,h3⟩:=h;simp only [Prod.mk.injEq] at h3;obtain ⟨rfl,rfl⟩:=h3;obtain ⟨_,hg,hq⟩:=q40 h2;have hg:=qi2 hg;have hq:cnd (isE m) none (some ())=some y:=hq;have hD:m≠[]:=fun h=>by rw [h] at hq;cases hq
       have hG:=List.length_pos_iff.2 hD;have hl:o fr=.none:=hf _ (ze ..) (Nat.le_refl _) (by show fr<fr+16;omega);have hc:=hm.objs id;unfold q03 at hx;rw [ho] at hx hc;have hv:=zg hv;obtain ⟨hn,hx,hw⟩:=hx.2 hv;have hw:=hw rfl;have e2:(lf.takeL s'.l n).length=n:=by simp [lf,takeL,Nat.min_eq_left hn]
       have hg:((lf.takeL s'.l n).length:Int)+(m.length:Int)≤2147483648:=hg;rcases hx with ⟨k1,rfl⟩|⟨k1,cap,rfl,k2,k4,k3⟩
       ·have hE:=hc.2.1 k1;have hz:n=0:=by rw [hE] at hn;simpa using hn
        subst hz;have hA:lf.takeL s'.l 0=[]:=by simp [lf,takeL]
        exact q9q hC hm he ht hu (fun _ _ _=>by rw [hl];trivial) n1 n3 n4 (l:=lf.takeL s'.l 0) (by omega) (base:=none) (n:=0) (cap:=0) (olds:=[]) e2.symm (by omega) rfl (by rw [hA];rfl) (run_firstCells_none (P:=C.P) w.drew _ 0 0 0)
       ·have hF:cap=n:=hw _ _ _ rfl;subst hF;rcases hc.2.2 k1 with ⟨g4,ec,g5,g6,_⟩|⟨_,g5,_⟩
        ·refine q9q hC hm he ht hu (fun _ _ _=>by rw [hl];trivial) n1 n3 n4 (l:=lf.takeL s'.l cap) (by omega) (base:=some (bare (φ id))) (n:=cap) (cap:=cap) (olds:=ec.take (cap*csz e')) e2.symm (by omega) rfl (q1l cap hn g5).1 ?_;have hH:=q1i g5;have hI:=Nat.mul_le_mul_right (csz e') hn;refine run_firstCells_some w.drew (csz e') cap (bare (φ id)) cap cap _ (by simp;omega) (fun j v hj=>?_);rw [q2n (a:=bare (φ id)) (qdn g4)];exact cellsAt_iff.1 (q49 _ g6) j v hj
        ·have hz:cap=0:=by rw [g5] at hn;simpa using hn
         have hA:lf.takeL s'.l cap=[]:=by rw [g5];simp [lf,takeL]
         refine q9q hC hm he ht hu (fun _ _ _=>by rw [hl];trivial) n1 n3 n4 (l:=lf.takeL s'.l cap) (by omega) (base:=some (bare (φ id))) (n:=cap) (cap:=cap) (olds:=[]) e2.symm (by omega) rfl (by rw [hA];rfl) ?_;exact run_firstCells_some w.drew (csz e') cap (bare (φ id)) cap cap _ (by rw [hz];simp) (fun j v hj=>by simp at hj)
      ·cases h
     ·cases h
    ·cases h
   ·obtain ⟨g1,rfl,rfl⟩:=q9s h;have hl:o fr=.none:=hf _ (ze ..) (Nat.le_refl _) (by show fr<fr+16;omega);exact q9r hC hm he ht hu (fun _ _ _=>by rw [hl];trivial) (.inl ⟨rfl,rfl,hx⟩) n1 n3 n4 g1
end
end Ev

namespace Ev
open Go
theorem z3r (l ds:List Value) (b k n:Nat) (hk:k+ds.length≤n) (hn:b+n≤l.length):ov l b (ov ((l.drop b).take n) k ds)=ov l (b+k) ds:=by
 have hl:((l.drop b).take n).length=n:=by simp;omega
 apply List.ext_getElem?;intro j;rw [qjv l (ov ((l.drop b).take n) k ds) b j (by omega),qdt _ _ _ (by omega),hl,qjv l ds (b+k) j (by omega)];by_cases h1:j<b
 ·rw [if_pos h1,if_pos (by omega)]
 ·rw [if_neg h1];by_cases h2:j<b+n
  ·rw [if_pos h2,qjv ((l.drop b).take n) ds k (j-b) (by omega)];by_cases h3:j<b+k
   ·rw [if_pos h3,if_pos (by omega),List.getElem?_take,if_pos (by omega),List.getElem?_drop];congr 1;omega
   ·rw [if_neg h3,if_neg (by omega)];by_cases h4:j<b+k+ds.length
    ·rw [if_pos h4,if_pos (by omega)];congr 1;omega
    ·rw [if_neg h4,if_neg (by omega),List.getElem?_take,if_pos (by omega),List.getElem?_drop];congr 1;omega
  ·rw [if_neg h2,if_neg (by omega),if_neg (by omega)]
theorem qtr (l ds:List Value) (h:l.length=ds.length):ov l 0 ds=ds:=by unfold ov;rw [List.take_zero,List.nil_append,zN,zQ (by omega),zG]
section
variable {P:Program} {C:Cx} {X:Nat→Prop} {φ φ':Nat→Addr} {o o':Nat→Obj} {w w':World} {imm imm':Nat→Prop}
def ResU (C:Cx) (X:Nat→Prop) (φ:Nat→Addr) (o:Nat→Obj) (w:World) (v:V) (u:List (Nat×Obj)) (s:Sem Unit):Prop:=∃w' φ',s.run C.P w=.ok () w'∧Comes C X φ φ' o u w w' v undef
theorem qts:∀(p:Ty) (f:Nat) (x:den p) (g:(t:Ty)→den t→Option (den t)) {y:den p} {u:Ty},setF p f x g=some y→tyF? p f=some u→∃(a b:den u),g u a=some b∧∀cs ds (imm:Nat→Prop) (w:World),relC imm w p x cs→(relC imm w u a ((cs.drop (offF p f)).take (csz u))→relC imm w u b ds)→offF p f+csz u≤cs.length∧relC imm w u a ((cs.drop (offF p f)).take (csz u))∧relC imm w p y (ov cs (offF p f) ds):=by
 have base:∀(t:Ty) (x y:den t) (g:(t:Ty)→den t→Option (den t)),g t x=some y→
   ∃(a b:den t),g t a=some b∧∀cs ds (imm:Nat→Prop) (w:World),relC imm w t x cs→(relC imm w t a ((cs.drop 0).take (csz t))→relC imm w t b ds)→0+csz t≤cs.length∧relC imm w t a ((cs.drop 0).take (csz t))∧relC imm w t y (ov cs 0 ds):=by
  intro t x y g h;refine ⟨x,y,h,fun cs ds imm w hc hd=>?_⟩;have hl:=q0o _ _ _ hc;have e:(cs.drop 0).take (csz t)=cs:=by rw [List.drop_zero,←hl,List.take_length]
  rw [e] at hd ⊢;have hd:=hd hc;have he:=q0o _ _ _ hd;exact ⟨by omega,hc,by rw [qtr _ _ (by omega)];exact hd⟩
 intro p
 induction p with
 |pair a b _ ihb=>
  intro f x g y u h ht;cases f with
  |zero=>
   simp only [setF] at h;split at h
   ·rename_i y1 h1;injection h with h;subst h;have:=zI ht;subst this;refine ⟨x.1,y1,h1,fun cs ds imm w ⟨c,d,e,h2,h3⟩ hd=>?_⟩;have hl:=q0o _ _ _ h2;subst e;have e1:((c++d).drop 0).take (csz a)=c:=by rw [List.drop_zero,←hl,List.take_left'];rfl
    simp only [offF] at hd ⊢;rw [e1] at hd ⊢;have hd:=hd h2;have he:=q0o _ _ _ hd;refine ⟨by simp;omega,h2,ds,d,?_,hd,h3⟩;unfold ov;rw [List.take_zero,List.nil_append,zN,he,←hl,List.drop_left'];rfl
   ·cases h
  |succ n=>
   simp only [setF] at h;split at h
   ·rename_i y1 h1;injection h with h;subst h;obtain ⟨a',b',g1,g2⟩:=ihb n x.2 g h1 ht;refine ⟨a',b',g1,fun cs ds imm w ⟨c,d,e,h2,h3⟩ hd=>?_⟩;have hl:=q0o _ _ _ h2;subst e;simp only [offF] at hd ⊢;rw [←hl,List.drop_length_add_append] at hd ⊢;obtain ⟨k1,k2,k3⟩:=g2 d ds imm w h3 hd;refine ⟨by simp;omega,k2,c,ov d (offF b n) ds,?_,h2,k3⟩;unfold ov;rw [List.take_length_add_append,Nat.add_assoc,List.drop_length_add_append];simp
   ·cases h
 |unit=>intro f x g y u h ht;cases f<;>cases ht
 |int k=>intro f x g y u h ht;cases f with|zero=>have:=zI ht;subst this;exact base _ _ _ _ h|succ n=>cases ht
 |bool=>intro f x g y u h ht;cases f with|zero=>have:=zI ht;subst this;exact base _ _ _ _ h|succ n=>cases ht
 |str=>intro f x g y u h ht;cases f with|zero=>have:=zI ht;subst this;exact base _ _ _ _ h|succ n=>cases ht
 |sl e=>intro f x g y u h ht;cases f with|zero=>have:=zI ht;subst this;exact base _ _ _ _ h|succ n=>cases ht
 |ks q _=>
  intro f x g y u h ht;cases f with
  |succ n=>cases ht
  |zero=>
   have:=zI ht;subst this;simp only [setF] at h;split at h
   ·rename_i b h1;injection h with h;subst h;obtain ⟨a',b',g1,g2⟩:=base (.sl (q5h q)) (q0c q x) b g h1;refine ⟨a',b',g1,fun cs ds imm w hc hd=>?_⟩;obtain ⟨k1,k2,k3⟩:=g2 cs ds imm w ((qbi q x cs).1 hc) hd;exact ⟨k1,k2,(qbi q _ _).2 (by rw [q9k];exact k3)⟩
   ·cases h
 |st q=>intro f x g y u h ht;cases f with|zero=>have:=zI ht;subst this;exact base _ _ _ _ h|succ n=>cases ht
 |arr m e=>intro f x g y u h ht;cases f with|zero=>have:=zI ht;subst this;exact base _ _ _ _ h|succ n=>cases ht
theorem qjw:∀(path:List Nat) (t:Ty) (x:den t) (g:(t:Ty)→den t→Option (den t)) {y:den t} {u:Ty},setP path t x g=some y→q93 path t=some u→∃(a b:den u),g u a=some b∧∀cs ds (imm:Nat→Prop) (w:World),relC imm w t x cs→relC imm w u b ds→q14 path t+csz u≤cs.length∧relC imm w t y (ov cs (q14 path t) ds)
 |[],t,x,g,y,u,h,ht=>by have:=zI ht;subst this;refine ⟨x,y,h,fun cs ds imm w hc hd=>?_⟩;have hl:=q0o _ _ _ hc;have he:=q0o _ _ _ hd;exact ⟨by simp [q14];omega,by rw [show q14 [] t=0 from rfl,qtr _ _ (by omega)];exact hd⟩
 |f::r,t,x,g,y,u,h,ht=>by
  cases t<;>simp only [q93] at ht<;>try (cases ht;done)
  rename_i p;split at ht
  ·rename_i u1 h1;obtain ⟨a,b,g1,g2⟩:=qts p f x _ h h1;obtain ⟨a',b',g3,g4⟩:=qjw r u1 a g g1 ht;refine ⟨a',b',g3,fun cs ds imm w hc hd=>?_⟩;have hl:relC imm w u1 a ((cs.drop (offF p f)).take (csz u1))→q14 r u1+csz u≤csz u1∧relC imm w u1 b (ov ((cs.drop (offF p f)).take (csz u1)) (q14 r u1) ds):=fun ha=>by obtain ⟨k1,k2⟩:=g4 _ ds imm w ha hd;rw [q0o _ _ _ ha] at k1;exact ⟨k1,k2⟩
   obtain ⟨k1,k2,k3⟩:=g2 cs (ov ((cs.drop (offF p f)).take (csz u1)) (q14 r u1) ds) imm w hc (fun ha=>(hl ha).2);obtain ⟨k4,_⟩:=hl k2;have hf:=q0o _ _ _ hd;rw [z3r _ _ _ _ _ (by omega) k1] at k3;simp only [q14,qtj h1];exact ⟨by omega,k3⟩
  ·cases ht
theorem qbt {id:Nat}:∀{l:List Nat},qhi id l=true→id∉l
 |[],_=>by simp
 |b::r,h=>by
  simp only [qhi] at h;cases hb:Nat.beq b id with
  |true=>rw [hb] at h;cases h
  |false=>
   rw [hb] at h;have:=qbt h;intro hm;rcases zj.1 hm with rfl|hm
   ·rw [Nat.beq_refl] at hb;cases hb
   ·exact this hm
theorem qck {t:TypeId} {i:TypeInfo} (hi:P.info? t=some i) {a:Addr} (hs:a.spot=none) {z:Value} (hz:z.cells.size=i.size) {c:Array Value} {el:TypeId} {lo hc:Nat} (hh:w.heap[a.block]?=some (.cells c el (lo,hc))) (hb:a.off+z.cells.size≤c.size) (hf:hc≤lo∨hc≤a.off∨a.off+z.cells.size≤lo) (h1:∀v∈z.cells.toList,v.oneCell'=true):(Instr.storeAt t (.pointer (some a)) z).run P w=.ok () (w.setRow a.block (ov c.toList a.off z.cells.toList).toArray):=by
 have he:=q2b (P:=P) (b:=a.block) (off:=a.off) z.cells.toList 0 c w hh (by simpa using hb) (by simpa using hf) h1;simp only [Nat.add_zero] at he;have ha:a=⟨a.block,a.off,none⟩:=by rw [←hs]
 rw [←ha] at he;simp [Instr.storeAt,Instr.sureAddr,storeVar,q0f hi,hz,he]
theorem qr2 (hC:CxOk C) (hm:MRel C X φ o w) {t:TypeId} {x y:V} {zx zy:Value} {v:V} {u:List (Nat×Obj)} (hx:q03 φ o (immB X φ o w) w x zx) (hy:q03 φ o (immB X φ o w) w y zy) (h:(qm4 lf C o t x y).gives v u):ResU C X φ o w v u (Instr.storeAt t zx zy):=by
 unfold qm4 at h;split at h
 ·rename_i id off;split at h
  ·rename_i cs ho;split at h
   ·rename_i vs hB;split at h
    ·rename_i b n hk;rw [q08,q09,zd,zd] at h;obtain ⟨⟨⟨h1,h2⟩,hv⟩,rfl,rfl⟩:=h;have hv:q6w vs=false:=by simpa using hv
     have h1:=zg h1;have h2:=zH h2;obtain ⟨i,d,g1,g2,g3,g4⟩:=q3a hk;obtain ⟨k1,k2⟩:=q9o hy hB;have hc:=hm.objs id;unfold q03 at hx;rw [ho] at hx hc;simp only at hx;subst hx;obtain ⟨h0,c,el,lo,hi,r1,r2,r3⟩:=hc;have l1:=q4a k1;have l2:=q4a r3;simp only [Array.length_toList] at l1 l2;have hq:excl (φ id) (o id)=true:=by rw [ho];rfl
     have hj:=qck (P:=C.P) (w:=w) g1 (a:=⟨(φ id).block,(φ id).off+off,none⟩) rfl (z:=zy) (by omega) r1 (by simp only;omega) (.inl r2) k2;refine ⟨_,φ,hj,?_⟩;refine Comes.write hm _ (fun _=>hq) (by simp) (fun b hb=>setRow_other w _ b _ (fun e=>hb ⟨hq,e.symm⟩)) (by rw [ho];exact rfl) (fun a1 a2 a3=>?_) (z1t hm ho (fun h=>qmo h hv) (.ov r1 (by simp only [Array.length_toList];omega))) (fun _=>rfl);refine ⟨h0,_,el,lo,hi,q5o r1 _,r2,?_⟩;have:=q58 a3 _ _ (qjs off r3 k1);simpa [h0] using this
    ·cases h
   ·cases h
  ·cases h
 ·rename_i id ver i path;split at h
  ·rename_i e ver' s ho;split at h
   ·rename_i t' ht;rw [q08,q0z,zd,zd] at h;obtain ⟨⟨⟨h1,h2⟩,h3⟩,y',h4,h5⟩:=h;simp only [Prod.mk.injEq] at h5;obtain ⟨rfl,rfl⟩:=h5;obtain ⟨x0,h6,h7⟩:=q40 h4;have h6:s.l[i]?=some x0:=h6;obtain ⟨a,b,g1,g2⟩:=qjw path e x0 _ h7 ht;have hf:=qji hm (q1g o y);have hD:id∉q1g o y:=qbt h3;have hs:upds o (frz o (q1g o y)) id=.vec e ver' false s:=by
     rcases q82 (o:=o) (q1g o y) id with ⟨k1,_⟩|⟨t1,v1,f1,s1,k1,k2⟩
     ·rw [k1,ho]
     ·have:id∈q0e (frz o (q1g o y)):=by
       by_cases hk:id∈q0e (frz o (q1g o y))
       ·exact hk
       ·rw [q0n hk,ho] at k2;cases k2
      exfalso;have key:∀ks:List Nat,id∈q0e (frz o ks)→id∈ks:=by
       intro ks
       induction ks with
       |nil=>intro h;cases h
       |cons q r ih=>
        intro h;simp only [frz] at h;split at h
        ·rcases zj.1 h with h|h
         ·exact h▸ze ..
         ·exact zf _ (ih h)
        ·exact zf _ (ih h)
      exact hD (key _ this)
    have hE:=hf.keeps _ _ hy;have hw:=hf.keeps _ _ hx;have hF:q5n (upds o (frz o (q1g o y))) y:=q8k (fun _ h=>h);rw [←qoo (q1g o y)] at g1;have hd:=qhx hf.mem hE hF g1;have hT:=hC.tab _ _ (is_spec h2);have hz:=qg9 hT hd;obtain ⟨ii,zz,m1,_,m2,_⟩:=hT.info;have hc:=hf.mem.objs id;unfold q03 at hw;rw [hs] at hw hc;obtain ⟨hi,rfl⟩:=hw.2 (zg h1);obtain ⟨b1,b2,b3⟩:=hc;have hn:s.nil=false:=by
     cases hn:s.nil with
     |false=>rfl
     |true=>rw [b2 hn] at hi;simp at hi
    obtain ⟨b4,ec,b5,b6,b7,b8,_⟩:=(b3 hn).resolve_right fun g=>by rw [g.2.1] at hi;simp at hi
    have hq:excl (φ id) (upds o (frz o (q1g o y)) id)=true:=by rw [hs];exact q2y hn b4
    obtain ⟨hu,hG⟩:=zO.1 h6;have hl:=qa9 b5 i hu;rw [hG] at hl;have hH:=q1i b5;have hI:(i+1)*csz e≤s.l.length*csz e:=Nat.mul_le_mul_right _ hu;rw [Nat.succ_mul] at hI;have he:=q0o _ _ _ hl;obtain ⟨p1,p2⟩:=g2 _ zy.cells.toList _ w hl hz;rw [he] at p1;have hJ:=q0o _ _ _ hz;simp only [Array.length_toList] at hJ;obtain ⟨c,el,lo,hK,r1,r2,r3⟩:=b8 rfl;have hj:=qck (P:=C.P) (w:=w) m1 (a:=⟨(φ id).block,(φ id).off+i*csz e+q14 path e,none⟩) rfl (z:=zy) (by omega) r1 (by simp only;omega) (by simp only;omega) (q76 _ _ _ hz);refine ⟨_,φ,hj,hf.trans ?_⟩;have hg:(φ id).off+(i*csz e+q14 path e)+zy.cells.toList.length≤c.size:=by simp;omega
    refine Comes.write hf.mem _ (fun _=>hq) (by simp) (fun b hb=>setRow_other w _ b _ (fun e=>hb ⟨hq,e.symm⟩)) ?_ (fun a1 a2 a3=>?_) (qaj hf.mem hs hn (.ov r1 (by simp only [Array.length_toList];omega))) (fun _=>rfl)
    ·rw [hs];refine .inr ⟨rfl,rfl,rfl,by simp [lf,setL],rfl,fun _=>⟨rfl,fun _ _ n hr=>?_⟩⟩;have:=q25 (off:=(φ id).off+(i*csz e+q14 path e)) (ds:=zy.cells.toList) r1 hg hr;simpa [Nat.add_assoc] using this
    ·have hA:relR (relC (immB X φ (upds o (frz o (q1g o y))) w) w e) (s.l.set i y') (ov ec (i*csz e+q14 path e) zy.cells.toList):=by have:=qi0 (i:=i) (m:=[y']) (by show i+1≤s.l.length;exact hu) b5 ⟨_,[],(zG _).symm,p2,rfl⟩;rw [z3r _ _ _ _ _ (by simp;omega) (by omega)] at this;rw [List.set_eq_take_append_cons_drop,if_pos hu];simpa using this
     refine ⟨by simpa [lf,setL] using b1,fun h=>(by rw [hn] at h;cases h),fun _=>.inl ⟨b4,_,q11 (q0j a1 a2 e) hA,?_,?_,fun _=>?_,by simp⟩⟩
     ·have:=q8n (k:=i*csz e+q14 path e) (ds:=zy.cells.toList) r1 b6 (by omega) hg;simpa [Nat.add_assoc] using this
     ·have:=q25 (off:=(φ id).off+(i*csz e+q14 path e)) (ds:=zy.cells.toList) r1 hg b7;simpa [Nat.add_assoc] using this
     ·have:=q25 (off:=(φ id).off+(i*csz e+q14 path e)) (ds:=zy.cells.toList) r1 hg (b8 rfl);simpa [Nat.add_assoc,lf,setL] using this
   ·cases h
  ·cases h
 ·cases h
end
end Ev

namespace Ev
open Go
section
variable {P:Program} {C:Cx} {X:Nat→Prop} {φ φ':Nat→Addr} {o o':Nat→Obj} {w w':World} {imm imm':Nat→Prop}
theorem qtt (hC:CxOk C) (hm:MRel C X φ o w) {t ty:TypeId} {ts:List TypeId} {x y:V} {zx zy:Value} {v:V} {u:List (Nat×Obj)} (hx:q03 φ o (immB X φ o w) w x zx) (hy:q03 φ o (immB X φ o w) w y zy) (h:(qt2 lf C o t x y).gives v u):Res C X φ o w v u (Builtin.copy_ (t::ts).toArray ty #[zx,zy]):=by
 unfold qt2 at h;split at h
 ·rename_i id ver;split at h
  ·rename_i e ver' s ho;split at h
   ·rename_i m hH;rw [q08,q09,zd] at h;obtain ⟨⟨h1,h2⟩,rfl,rfl⟩:=h;have h1:=zg h1;subst h1;obtain ⟨ei,ht,_,he⟩:=q24 h2;obtain ⟨i,z,k1,_,k2,k3,k4,k5,k6⟩:=(hC.tab _ _ he).info;obtain ⟨news,n1,n2,n3,n4⟩:=qju (P:=C.P) hm hy hH;have hq:=hm.objs id;unfold q03 at hx;rw [ho] at hx hq;obtain ⟨b1,b2,b3⟩:=hq;have hj:inK .i64 (lf.minI (lf.lenI s.l) (lf.lenI m)):=by simp only [lf,minI,lenI];unfold maxL at b1 n2;unfold inK IntKind.min IntKind.max;simp [IntKind.signed,IntKind.bits];split<;>omega
    have hl:(lf.minI (lf.lenI s.l) (lf.lenI m))=((Nat.min m.length s.l.length:Nat):Int):=by simp only [lf,minI,lenI];have:Nat.min m.length s.l.length=min m.length s.l.length:=rfl;rw [this];split<;>omega
    have hc:(ovl s.l m).length=s.l.length:=by unfold ovl;simp;omega
    rcases hx.2 rfl with ⟨hn,rfl⟩|⟨hn,cap,rfl,c1,c4,c2⟩
    ·have hu:=b2 hn;have hs:=n4 w 0 rfl (Nat.zero_le _);rw [←k2] at hs;have hf:(Builtin.copy_ (t::ts).toArray ty #[.slice none 0 0,zy]).run C.P w=.ok (goInt 0) w:=by simp [Builtin.copy_,run_underlying ht,n3 w,q0f k1,hs]
     refine ⟨_,w,φ,hf,Comes.write hm _ (by simp [excl,live,hn]) rfl (fun _ _=>rfl) (by rw [ho];exact .inr ⟨rfl,rfl,rfl,hc.symm,rfl,fun _=>⟨rfl,fun _ _ _ h=>h⟩⟩) (fun _ _ _=>⟨?_,fun _=>?_,fun h=>(by rw [hn] at h;cases h)⟩) (fun _ h=>(by have h:s.nil=false:=h;rw [hn] at h;cases h)) (fun _=>?_)⟩
     ·show (ovl s.l m).length≤maxL;omega
     ·exact zD (by show (ovl s.l m).length=0;rw [hc,hu];rfl)
     ·rw [hl] at hj ⊢;rw [hu] at hj ⊢;have e0:((Nat.min m.length ([]:List (den e)).length:Nat):Int)=0:=by simp
      rw [e0] at hj ⊢;exact q2r hj
    ·rcases b3 hn with ⟨b4,ec,b5,b6,b7,b8,_⟩|⟨b4,d1,d3⟩
     ·have hD:excl (φ id) (o id)=true:=by rw [ho];exact q2y hn b4
      obtain ⟨c,el,lo,hi,r1,r2,r3⟩:=b8 rfl;have hv:Nat.min m.length s.l.length≤m.length:=Nat.min_le_left _ _;have hI:Nat.min m.length s.l.length≤s.l.length:=Nat.min_le_right _ _;have hJ:=Nat.mul_le_mul_right (csz e) hI;have hE:=n4 w (Nat.min m.length s.l.length) rfl hv;rw [←k2] at hE;have hM:=q1i n1;have hK:=Nat.mul_le_mul_right (csz e) hv;have hw:(news.take (Nat.min m.length s.l.length*i.size)).length=Nat.min m.length s.l.length*csz e:=by rw [k2];simp only [zU];omega
      have hz:=(q1l (Nat.min m.length s.l.length) hv n1).1;rw [←k2] at hz;have hA:=q2b (P:=C.P) (b:=(φ id).block) (off:=(φ id).off) (news.take (Nat.min m.length s.l.length*i.size)) 0 c w r1 (by rw [hw];omega) (by rw [hw];omega) (qd5 hz);simp only [Nat.add_zero] at hA;have hφ:(⟨(φ id).block,(φ id).off,none⟩:Addr)=bare (φ id):=(qyd b4).symm;rw [hφ] at hA;have hf:(Builtin.copy_ (t::ts).toArray ty #[.slice (some (bare (φ id))) s.l.length cap,zy]).run C.P w=.ok (goInt ((Nat.min m.length s.l.length:Nat):Int)) (w.setRow (φ id).block (ov c.toList (φ id).off (news.take (Nat.min m.length s.l.length*i.size))).toArray):=by simp [Builtin.copy_,run_underlying ht,n3 w,q0f k1,hE,hA]
      have hg:(φ id).off+(news.take (Nat.min m.length s.l.length*i.size)).length≤c.size:=by rw [hw];omega
      have hB:ovl s.l m=s.l.take 0++m.take (Nat.min m.length s.l.length)++s.l.drop (0+(m.take (Nat.min m.length s.l.length)).length):=by
       unfold ovl;rw [List.take_zero,List.nil_append,zN,zU,Nat.min_eq_left hv];by_cases hF:m.length≤s.l.length
       ·have:Nat.min m.length s.l.length=m.length:=Nat.min_eq_left hF;rw [this,List.take_length,jc hF]
       ·have:Nat.min m.length s.l.length=s.l.length:=Nat.min_eq_right (by omega);rw [this,zQ (Nat.le_refl _),zQ (by omega)]
      have hG:=qi0 (i:=0) (m:=m.take (Nat.min m.length s.l.length)) (by simp only [zN,zU];omega) b5 hz;rw [←hB,Nat.zero_mul] at hG;refine ⟨_,_,φ,hf,Comes.write hm _ (fun _=>hD) (by simp) (fun b hb=>setRow_other w _ b _ (fun e=>hb ⟨hD,e.symm⟩)) ?_ (fun a1 a2 a3=>⟨?_,fun h=>(by rw [hn] at h;cases h),fun _=>.inl ⟨b4,_,q11 (q0j a1 a2 e) hG,?_,?_,fun _=>?_,by simp⟩⟩) (qaj hm ho hn (.ov r1 hg)) (fun _=>?_)⟩
      ·rw [ho];exact .inr ⟨rfl,rfl,rfl,hc.symm,rfl,fun _=>⟨rfl,fun _ _ n hr=>q25 r1 hg hr⟩⟩
      ·show (ovl s.l m).length≤maxL;omega
      ·have:=q8n (k:=0) (ds:=news.take (Nat.min m.length s.l.length*i.size)) r1 b6 (Nat.zero_le _) (by simpa using hg);simpa using this
      ·exact q25 r1 hg b7
      ·show room _ _ ((ovl s.l m).length*csz e);rw [hc];exact q25 r1 hg (b8 rfl)
      ·rw [hl] at hj ⊢;exact q2r hj
     ·have hL:Nat.min m.length s.l.length=0:=by rw [d1];exact Nat.min_zero _
      have hs:=n4 w 0 rfl (Nat.zero_le _);rw [←k2] at hs;have hu:ovl s.l m=[]:=zD (by rw [hc,d1];rfl);have hf:(Builtin.copy_ (t::ts).toArray ty #[.slice (some (bare (φ id))) s.l.length cap,zy]).run C.P w=.ok (goInt 0) w:=by rw [d1];simp [Builtin.copy_,run_underlying ht,n3 w,q0f k1,hs,storeCells]
      refine ⟨_,w,φ,hf,Comes.write hm _ (fun h=>absurd (q3g h).2.2 b4) rfl (fun _ _=>rfl) (by rw [ho];exact .inr ⟨rfl,rfl,rfl,hc.symm,rfl,fun _=>⟨rfl,fun _ _ _ h=>h⟩⟩) (fun _ _ _=>⟨?_,fun h=>(by rw [hn] at h;cases h),fun _=>.inr ⟨b4,hu,d3⟩⟩) (fun h=>absurd h d3) (fun _=>?_)⟩
      ·show (ovl s.l m).length≤maxL;omega
      ·rw [hl,hL] at hj ⊢;exact q2r hj
   ·cases h
  ·cases h
 ·cases h
theorem qtu {P:Program} {t ei:TypeId} {ts:List TypeId} {ty:TypeId} {i:TypeInfo} {z:Value} (ht:P.underlying t=some (.slice ei)) (hi:P.info? ei=some i) (hz:i.zero=some z) {a:Addr} {n cap:Nat} {w w':World} (hn:n≠0) (hc:(storeCells a (Builtin.zeroCells z.cells n).toList 0).run P w=.ok () w'):(Builtin.clear_ (t::ts).toArray ty #[.slice (some a) n cap]).run P w=.ok (.tuple #[]) w':=by
 have h0:∀m,n=m+1→(Builtin.clear_ (t::ts).toArray ty #[.slice (some a) n cap]).run P w=.ok (.tuple #[]) w':=by rintro m rfl;simp [Builtin.clear_,run_underlying ht,q1b hi hz,hc]
 exact h0 (n-1) (by omega)
theorem q97 {P:Program} {t ei:TypeId} {ts:List TypeId} {ty:TypeId} (ht:P.underlying t=some (.slice ei)) {a:Option Addr} {cap:Nat} {w:World}:(Builtin.clear_ (t::ts).toArray ty #[.slice a 0 cap]).run P w=.ok (.tuple #[]) w:=by cases a<;>simp [Builtin.clear_,run_underlying ht]
theorem qtv {e:Ty} {imm:Nat→Prop} {w:World} {z:Value} (hz:relC imm w e (zero e) z.cells.toList) (n:Nat):relR (relC imm w e) (List.replicate n (zero e)) (Builtin.zeroCells z.cells n).toList:=by
 have h:(Builtin.zeroCells z.cells n).toList=(List.replicate n z.cells.toList).flatten:=by rw [←qbs];simp [Builtin.zeroCells]
 rw [h];exact qdy hz n
theorem qr3 (hC:CxOk C) (hm:MRel C X φ o w) {t ty:TypeId} {ts:List TypeId} {x:V} {zx:Value} {v:V} {u:List (Nat×Obj)} (hx:q03 φ o (immB X φ o w) w x zx) (h:(qma lf C o t x).gives v u):Res C X φ o w v u (Builtin.clear_ (t::ts).toArray ty #[zx]):=by
 unfold qma at h;split at h
 ·rename_i id ver lo;split at h
  ·rename_i e ver' s ho;rw [q08,q09,zd] at h;obtain ⟨⟨h1,h2⟩,rfl,rfl⟩:=h;have h1:=zg h1;subst h1;obtain ⟨ei,ht,_,he⟩:=q24 h2;obtain ⟨i,z,k1,_,k2,k3,k4,k5,k6⟩:=(hC.tab _ _ he).info;have hl:=hm.objs id;unfold q03 at hx;rw [ho] at hx hl;obtain ⟨b1,b2,b3⟩:=hl;obtain ⟨k,rfl,hk,hx⟩:=hx.2 rfl;have e1:lf.zerL s.l (k:Int) (zero e)=s.l.take k++List.replicate (s.l.length-k) (zero e):=by simp [lf,zerL]
   have hg:(lf.zerL s.l (k:Int) (zero e)).length=s.l.length:=by rw [e1];simp;omega
   have same:s.l.length-k=0→lf.zerL s.l (k:Int) (zero e)=s.l:=fun h=>by rw [e1,h,List.replicate_zero,zG,jc (by omega)]
   have nothing:s.l.length-k=0→(Builtin.clear_ (t::ts).toArray ty #[zx]).run C.P w=.ok (.tuple #[]) w→Res C X φ o w (.tup []) [(id,.vec e ver false ⟨s.nil,lf.zerL s.l (k:Int) (zero e)⟩)] (Builtin.clear_ (t::ts).toArray ty #[zx]):=by
    intro h0 hj;rw [same h0];refine ⟨_,w,φ,hj,Comes.write hm _ (fun h=>by rw [ho];exact h) rfl (fun _ _=>rfl) (by rw [ho];exact .inr ⟨rfl,rfl,rfl,rfl,rfl,fun _=>⟨rfl,fun _ _ _ h=>h⟩⟩) (fun a1 a2 a3=>?_) ?_ (fun _=>⟨#[],rfl,rfl⟩)⟩
    ·exact q39 a1 a2 a3 rfl (fun _=>rfl) (show q3s φ o (immB X φ o w) w id (.vec e ver false s) from ⟨b1,b2,b3⟩)
    ·have:=hm.els id;rw [ho] at this;exact this
   rcases hx with ⟨hn,rfl⟩|⟨hn,cap,rfl,hc⟩
   ·exact nothing (by rw [b2 hn];simp) (q97 ht)
   ·by_cases h0:s.l.length-k=0
    ·rw [h0];rw [h0] at nothing;exact nothing rfl (q97 ht)
    ·have hy:cap≠0:=by omega
     rw [if_neg hy];rcases b3 hn with ⟨b4,ec,b5,b6,b7,b8,_⟩|⟨_,b5,_⟩
     ·have hu:excl (φ id) (o id)=true:=by rw [ho];exact q2y hn b4
      obtain ⟨c,el,lo',hi,r1,r2,r3⟩:=b8 rfl;have hs:=qtv (k6 (immB X φ o w) w) (s.l.length-k);have hq:=q1i hs;rw [List.length_replicate] at hq;have hA:=q1i b5;have hz:k*csz e+(s.l.length-k)*csz e=s.l.length*csz e:=by rw [←Nat.add_mul];congr 1;omega
      have hv:=q2b (P:=C.P) (b:=(φ id).block) (off:=(φ id).off+k*csz e) (Builtin.zeroCells z.cells (s.l.length-k)).toList 0 c w r1 (by rw [hq];omega) (by rw [hq];omega) (qd5 hs);simp only [Nat.add_zero] at hv;have hj:=qtu (ts:=ts) (ty:=ty) (cap:=cap) ht k1 k4 h0 hv;have hf:(φ id).off+k*csz e+(Builtin.zeroCells z.cells (s.l.length-k)).toList.length≤c.size:=by rw [hq];omega
      refine ⟨_,_,φ,hj,Comes.write hm _ (fun _=>hu) (by simp) (fun b hb=>setRow_other w _ b _ (fun e=>hb ⟨hu,e.symm⟩)) ?_ (fun a1 a2 a3=>⟨by rw [hg];exact b1,fun h=>(by rw [hn] at h;cases h),fun _=>.inl ⟨b4,ov ec (k*csz e) (Builtin.zeroCells z.cells (s.l.length-k)).toList,?_,?_,?_,fun _=>?_,by simp⟩⟩) (qaj hm ho hn (.ov r1 hf)) (fun _=>⟨#[],rfl,rfl⟩)⟩
      ·rw [ho];exact .inr ⟨rfl,rfl,rfl,hg.symm,rfl,fun _=>⟨rfl,fun _ _ n hr=>q25 r1 hf hr⟩⟩
      ·have hw:=qi0 (i:=k) (m:=List.replicate (s.l.length-k) (zero e)) (by rw [List.length_replicate];omega) b5 hs;have e3:s.l.take k++List.replicate (s.l.length-k) (zero e)++s.l.drop (k+(List.replicate (s.l.length-k) (zero e)).length)=s.l.take k++List.replicate (s.l.length-k) (zero e):=by rw [List.length_replicate,zQ (by omega),zG]
       rw [e3,←e1] at hw;exact q11 (q0j a1 a2 e) hw
      ·have:=q8n (k:=k*csz e) (ds:=(Builtin.zeroCells z.cells (s.l.length-k)).toList) r1 b6 (by omega) hf;exact this
      ·exact q25 r1 hf b7
      ·rw [hg];exact q25 r1 hf (b8 rfl)
     ·exfalso;apply h0;rw [b5];simp
  ·cases h
 ·cases h
end
end Ev

namespace Ev
open Go
section
variable {P:Program} {C:Cx} {X:Nat→Prop} {φ φ':Nat→Addr} {o o':Nat→Obj} {w w':World} {imm imm':Nat→Prop}
structure EqOk (C:Cx):Prop where
 eq:∀(w:World) (imm:Nat→Prop) (t:TypeId) (p:Ty) (a b:den p) (xs ys:Array Value),hasN t C.eqs=true→C.ty t=some (.st p)→relC imm w p a xs.toList→relC imm w p b ys.toList→
   (Op.equal t (.agg xs) (.agg ys)).run C.P w=.ok (eqD lf p a b) w
 guard:∀t,hasN t C.eqs=true→C.P.eqGuardType C.P.depth t=false
def qjx (C:Cx) (f:Field):Bool:=(f.name != "_")&&(match C.ty f.type with
 |some (.int _)=>true
 |some .bool=>true
 |some .str=>true
 |some (.st _)=>hasN f.type C.eqs
 |_=>false)
def q8o (C:Cx):List Field→Bool
 |[]=>true
 |f::r=>qjx C f&&q8o C r
def nlev:Ty→Nat
 |.st p=>nlev p+1
 |.pair a b=>nlev a+nlev b
 |_=>0
def qtw (C:Cx) (t:TypeId):Bool:=!(C.P.stoodInHeld t)&&!(C.P.eqGuardType C.P.depth t)&&(match desc C.P t with
 |some (.struct fs)=>q8o C fs.toList
 |_=>false)&&(match C.ty t with
 |some T=>Nat.ble (nlev T) 1000
 |none=>false)
def qms (C:Cx):List Nat→Bool
 |[]=>true
 |t::r=>qtw C t&&qms C r
theorem qal:∀{l:List Nat},qms C l=true→∀{t},hasN t l=true→qtw C t=true
 |[],_,t,h=>by cases h
 |b::r,hc,t,h=>by
  simp only [qms,zd] at hc;simp only [hasN] at h;cases hb:Nat.beq b t with
  |true=>have:=zg hb;subst this;exact hc.1
  |false=>rw [hb] at h;exact qal hc.2 h
theorem qr4 (hC:CxOk C) (hq:qms C C.eqs=true):∀(n d:Nat) (t:TypeId) (T:Ty) (a b:den T) (za zb:Value),n<d→nlev T≤n→C.ty t=some T→(match T with|.int _=>True|.bool=>True|.str=>True|.st _=>hasN t C.eqs=true|_=>False)→relV imm w T a za→relV imm w T b zb→(Op.equalIn d t za zb).run C.P w=.ok (eqD lf T a b) w:=by
 intro n
 induction n with
 |zero=>
  intro d t T a b za zb hd hl ht hk ha hb;obtain ⟨d,rfl⟩:∃k,d=k+1:=⟨d-1,by omega⟩;obtain ⟨dd,_,hu,he⟩:=(hC.tab _ _ ht).desc;cases T<;>simp only at hk
  ·cases dd<;>simp only [q62] at he<;>try (cases he;done)
   have h1:q03 (fun _=>⟨0,0,none⟩) (fun _=>Obj.none) imm w (.d _ a) za:=ha;have h2:q03 (fun _=>⟨0,0,none⟩) (fun _=>Obj.none) imm w (.d _ b) zb:=hb;obtain ⟨rfl,_⟩:=q2q h1;obtain ⟨rfl,_⟩:=q2q h2;exact run_equalIn_int _ _ _ _ _ _ _ hu
  ·cases dd<;>first|(simp only [q62] at he;cases he;done)|skip
   have h1:q03 (fun _=>⟨0,0,none⟩) (fun _=>Obj.none) imm w (.d _ a) za:=ha;have h2:q03 (fun _=>⟨0,0,none⟩) (fun _=>Obj.none) imm w (.d _ b) zb:=hb;have e1:=q1p h1;have e2:=q1p h2;subst e1 e2;exact run_equalIn_bool' _ _ _ _ _ hu
  ·cases dd<;>first|(simp only [q62] at he;cases he;done)|skip
   have h1:q03 (fun _=>⟨0,0,none⟩) (fun _=>Obj.none) imm w (.d _ a) za:=ha;have h2:q03 (fun _=>⟨0,0,none⟩) (fun _=>Obj.none) imm w (.d _ b) zb:=hb;obtain ⟨s,rfl,rfl,_⟩:=q38 h1;obtain ⟨s',rfl,rfl,_⟩:=q38 h2;have:=qtc s s';unfold bl at this;show _=Result.ok (eqS _ _) w;rw [this];exact run_equalIn_string _ _ _ _ _ hu
  ·simp [nlev] at hl
 |succ n ih=>
  intro d t T a b za zb hd hl ht hk ha hb;by_cases hs:∃p,T=.st p
  ·obtain ⟨p,rfl⟩:=hs;simp only at hk;obtain ⟨d,rfl⟩:∃k,d=k+1:=⟨d-1,by omega⟩;have h1:=qal hq hk;unfold qtw at h1;simp only [zd,Bool.not_eq_true'] at h1;obtain ⟨⟨⟨h1,h2⟩,h3⟩,h4⟩:=h1;obtain ⟨fs,g1,g2,g3⟩:=qae hC ht;rw [g1] at h3;simp only at h3;obtain ⟨xs,rfl,hv⟩:=ha;obtain ⟨ys,rfl,hw⟩:=hb;have hx:C.P.fieldsOf t=fs:=by unfold Program.fieldsOf;rw [g2]
   rw [run_equalIn_struct w d t xs ys (by rw [hx];exact g2) h1,hx];simp only [nlev] at hl;have key:∀(fs:List Field) (p:Ty) (off:Nat) (a b:den p),nlev p≤n→q32 C fs p off=true→q8o C fs=true→relC imm w p a ((xs.toList.drop off).take (csz p))→relC imm w p b ((ys.toList.drop off).take (csz p))→
     (Op.eqFields d xs ys fs).run C.P w=.ok (eqD lf p a b) w:=by
    intro fs
    induction fs with
    |nil=>
     intro p off a b _ h _ _ _;cases p<;>first|(simp only [q32] at h;cases h;done)|skip
     simp [Op.eqFields,eqD]
    |cons f r ihf=>
     intro p off a b hn h hf ha hb;simp only [q8o,zd] at hf;obtain ⟨hc,hz⟩:=hf;unfold qjx at hc;rw [zd] at hc;obtain ⟨hm,hc⟩:=hc;have hm:f.name≠ "_":=by simpa using hm
     have one:∀(q:Ty) (a b:den q),C.ty f.type=some q→nlev q≤n→f.offset=off→relC imm w q a ((xs.toList.drop off).take (csz q))→relC imm w q b ((ys.toList.drop off).take (csz q))→
       ∃va vb,(part f.type xs f.offset).run C.P w=.ok va w∧(part f.type ys f.offset).run C.P w=.ok vb w∧(Op.equalIn d f.type va vb).run C.P w=.ok (eqD lf q a b) w:=by
      intro q a b ho hA hg ha hb;obtain ⟨va,v1,v2⟩:=qhy (w:=w) (hC.tab _ _ ho) (cs:=xs) (off:=f.offset) (by rw [hg];exact ha);obtain ⟨vb,v3,v4⟩:=qhy (w:=w) (hC.tab _ _ ho) (cs:=ys) (off:=f.offset) (by rw [hg];exact hb);rw [ho] at hc;exact ⟨va,vb,v1,v3,ih d f.type q a b va vb (by omega) hA ho (by cases q<;>first|trivial|exact hc|(simp at hc;done)) v2 v4⟩
     cases r with
     |nil=>
      by_cases hy:∃q,p=.ks q
      ·obtain ⟨q,rfl⟩:=hy;have h:(C.is f.type (.sl (q5h q))&&Nat.beq f.offset off)=true:=h;rw [zd] at h;rw [is_spec h.1] at hc;exact absurd hc (by simp)
      have h:(C.is f.type p&&Nat.beq f.offset off)=true:=by cases p<;>first|exact h|exact absurd ⟨_,rfl⟩ hy
      rw [zd] at h;obtain ⟨va,vb,v1,v2,v3⟩:=one p a b (is_spec h.1) hn (zg h.2) ha hb;simp only [Op.eqFields,if_pos hm,Sem.run_bind,v1,v2,v3,Result.andThen_ok];cases eqD lf p a b<;>simp
     |cons g r=>
      cases p<;>first|(simp only [q32] at h;cases h;done)|skip
      rename_i s t;simp only [q32,zd] at h;obtain ⟨c1,c2,e1,a1,a2⟩:=ha;obtain ⟨d1,d2,e2,b1,b2⟩:=hb;have cut:∀{l c1 c2:List Value},(l.drop off).take (csz s+csz t)=c1++c2→c1.length=csz s→c2.length=csz t→(l.drop off).take (csz s)=c1∧(l.drop (off+csz s)).take (csz t)=c2:=by
       intro l c1 c2 e l1 l2;have f1:=congrArg (List.take (csz s)) e;rw [List.take_take,Nat.min_eq_left (by omega),←l1,List.take_left'] at f1
       ·have f2:=congrArg (List.drop (csz s)) e;rw [←l1,List.drop_left',List.drop_take,List.drop_drop,l1,Nat.add_sub_cancel_left] at f2
        ·rw [l1] at f1;exact ⟨f1,f2⟩
        ·rfl
       ·rfl
      simp only [csz] at e1 e2;obtain ⟨f1,f2⟩:=cut e1 (q0o _ _ _ a1) (q0o _ _ _ a2);obtain ⟨f3,f4⟩:=cut e2 (q0o _ _ _ b1) (q0o _ _ _ b2);simp only [nlev] at hn;obtain ⟨va,vb,v1,v2,v3⟩:=one s a.1 b.1 (is_spec h.1.1) (by omega) (zg h.1.2) (by rw [f1];exact a1) (by rw [f3];exact b1);have hj:=ihf t (off+csz s) a.2 b.2 (by omega) h.2 hz (by rw [f2];exact a2) (by rw [f4];exact b2);rw [Op.eqFields];simp only [if_pos hm,Sem.run_bind,v1,v2,v3,Result.andThen_ok];show _=Result.ok (andB (eqD lf s a.1 b.1) (eqD lf t a.2 b.2)) w;cases eqD lf s a.1 b.1
      ·simp [andB]
      ·simp only [Bool.not_true,Bool.false_eq_true,if_false,hj,andB,Bool.true_and]
   have hB:=q0o _ _ _ hv;have hD:=q0o _ _ _ hw;exact key fs.toList p 0 a b (by omega) g3 h3 (by rw [List.drop_zero,←hB,List.take_length];exact hv) (by rw [List.drop_zero,←hD,List.take_length];exact hw)
  ·refine ih d t T a b za zb (by omega) ?_ ht hk ha hb;cases T<;>first|exact Nat.zero_le _|exact hk.elim|exact absurd ⟨_,rfl⟩ hs
theorem qtx {t:TypeId} {a b:Value} {r:Bool} (h:∀d,1000<d→(Op.equalIn d t a b).run P w=.ok r w):(Op.equal t a b).run P w=.ok r w:=by unfold Op.equal;exact h _ (by decide)
theorem z1v (hC:CxOk C) (hq:qms C C.eqs=true):EqOk C where
 eq:=by intro w imm t p a b xs ys h1 h2 h3 h4;have h5:=qal hq h1;unfold qtw at h5;simp only [zd,Bool.not_eq_true'] at h5;have h6:=h5.2;rw [h2] at h6;have h6:nlev (.st p)≤1000:=zH h6;exact qtx fun d hd=>qr4 (imm:=imm) hC hq 1000 d t (.st p) a b _ _ hd h6 h2 h1 ⟨xs,rfl,h3⟩ ⟨ys,rfl,h4⟩
 guard:=by intro t h1;have h5:=qal hq h1;unfold qtw at h5;simp only [zd,Bool.not_eq_true'] at h5;exact h5.1.1.2
end
end Ev

namespace Ev
open Go
section
variable {C:Cx} {X:Nat→Prop} {φ:Nat→Addr} {o:Nat→Obj} {w:World} {imm:Nat→Prop}
theorem qe3 {t:TypeId} {tk tv:Ty} (h:qj5 C t=some (tk,tv)):∃k v,C.P.underlying t=some (.map k v)∧C.ty k=some tk∧C.ty v=some tv:=by
 unfold qj5 at h;split at h
 ·rename_i k v hd;split at h
  ·rename_i tk' tv' h1 h2;injection h with h;injection h with h3 h4;subst h3 h4;exact ⟨k,v,q0x hd,h1,h2⟩
  ·cases h
 ·cases h
theorem qbu {t:TypeId} {tk tv:Ty} (h:qt1 C t tk tv=true):∃k v,C.P.underlying t=some (.map k v)∧C.ty k=some tk∧C.ty v=some tv∧qj3 tk=true:=by
 unfold qt1 at h;split at h
 ·rename_i k v hm;simp only [zd] at h;obtain ⟨⟨h1,h2⟩,h3⟩:=h;have h1:=q57 h1;have h2:=q57 h2;injection h1 with h1;injection h2 with h2;subst h1 h2;obtain ⟨a,b,g1,g2,g3⟩:=qe3 hm;exact ⟨a,b,g1,g2,g3,h3⟩
 ·cases h
def keyD:TypeDesc→Ty→Bool
 |.int _,.int _=>true
 |.bool,.bool=>true
 |.string,.str=>true
 |_,_=>false
theorem qd7 (hC:CxOk C) {k:TypeId} {tk:Ty} (h:C.ty k=some tk) (hk:qj3 tk=true):∃d,C.P.underlying k=some d∧keyD d tk=true:=by
 obtain ⟨d,_,h1,h2⟩:=(hC.tab _ _ h).desc;refine ⟨d,h1,?_⟩;cases tk<;>simp only [qj3] at hk<;>try (cases hk;done)
 all_goals cases d<;>simp only [q62] at h2<;>first|rfl|(cases h2;done)
theorem qty (s s':ByteArray):(s==s')=(s.data==s'.data):=rfl
theorem z50 {s s':ByteArray} (h:(s==s')=true):s=s':=by
 rw [qty] at h;have:s.data=s'.data:=by simpa using h
 cases s;cases s';simp only at this;rw [this]
theorem z1w (s:ByteArray):(s==s)=true:=by rw [qty];simp
theorem qgc {d:TypeDesc} {tk:Ty} (hd:keyD d tk=true) {a b:den tk} {za zb:Value} (ha:relV imm w tk a za) (hb:relV imm w tk b zb):Instr.sameNow d za zb=some (eqD lf tk a b)∧(eqD lf tk a b=true→Instr.sameBits 10000 zb za=true):=by
 cases tk<;>cases d<;>simp only [keyD] at hd<;>try (cases hd;done)
 ·rename_i k k';have ha:q03 (fun _=>⟨0,0,none⟩) (fun _=>Obj.none) imm w (.d (.int k) a) za:=ha;have hb:q03 (fun _=>⟨0,0,none⟩) (fun _=>Obj.none) imm w (.d (.int k) b) zb:=hb;obtain ⟨rfl,_⟩:=q2q ha;obtain ⟨rfl,_⟩:=q2q hb;refine ⟨?_,fun h=>?_⟩
  ·simp only [Instr.sameNow,if_pos];rfl
  ·have h:(a==b)=true:=h;have:a=b:=by simpa using h
   subst this;simp [Instr.sameBits]
 ·have ha:q03 (fun _=>⟨0,0,none⟩) (fun _=>Obj.none) imm w (.d .bool a) za:=ha;have hb:q03 (fun _=>⟨0,0,none⟩) (fun _=>Obj.none) imm w (.d .bool b) zb:=hb;have:=q1p ha;subst this;have:=q1p hb;subst this;refine ⟨rfl,fun h=>?_⟩;have h:(a==b)=true:=h;have:a=b:=by simpa using h
  subst this;simp [Instr.sameBits]
 ·have ha:q03 (fun _=>⟨0,0,none⟩) (fun _=>Obj.none) imm w (.d .str a) za:=ha;have hb:q03 (fun _=>⟨0,0,none⟩) (fun _=>Obj.none) imm w (.d .str b) zb:=hb;obtain ⟨s,rfl,rfl,_⟩:=q38 ha;obtain ⟨s',rfl,rfl,_⟩:=q38 hb;have e:eqD lf .str (s.data.toList.map fun b=>(b.toNat:Int)) (s'.data.toList.map fun b=>(b.toNat:Int))=(s==s'):=by show eqS (bl s) (bl s')=_;rw [qtc,qty,ByteArray.toList_eq,ByteArray.toList_eq,Bool.eq_iff_iff];simp only [beq_iff_eq];exact ⟨fun h=>Array.toList_inj.1 h,fun h=>by rw [h]⟩
  rw [e];refine ⟨rfl,fun h=>?_⟩;have:=z50 h;subst this;simp [Instr.sameBits,z1w]
theorem find_spec {d:TypeDesc} {tk tv:Ty} (hd:keyD d tk=true) {k:den tk} {zk:Value} (hk:relV imm w tk k zk):∀(m:List (den tk×den tv)) (es:List MapEntry) (i:Nat),qd2 (relV imm w tk) (relV imm w tv) m es→(∃j zv e x,Instr.findNow d zk es i=some (some (i+j,zv))∧es[j]?=some e∧Instr.sameBits 10000 e.key zk=true∧mget (eqD lf tk) k m=some x∧relV imm w tv x zv∧∀y zy,relV imm w tv y zy→qd2 (relV imm w tk) (relV imm w tv) (mset (eqD lf tk) k y m) (es.modify j fun e=>{e with key:=zk,val:=zy}))∨(Instr.findNow d zk es i=some none∧mget (eqD lf tk) k m=none∧∀y zy born,relV imm w tv y zy→qd2 (relV imm w tk) (relV imm w tv) (mset (eqD lf tk) k y m) (es++[{key:=zk,val:=zy,born:=born}]))
 |[],es,i,h=>by have h:es=[]:=h;subst h;exact .inr ⟨rfl,rfl,fun y zy born hy=>⟨_,[],rfl,hk,hy,rfl⟩⟩
 |(k',v')::m,es,i,⟨e,r,he,h1,h2,h3⟩=>by
  subst he;obtain ⟨g1,g2⟩:=qgc hd hk h1;cases hb:eqD lf tk k k' with
  |true=>
   refine .inl ⟨0,e.val,e,v',?_,rfl,g2 hb,?_,h2,fun y zy hy=>?_⟩
   ·simp only [Instr.findNow,g1,hb];rfl
   ·simp only [mget,hb];rfl
   ·simp only [mset,hb,cond_true];exact ⟨_,r,rfl,hk,hy,h3⟩
  |false=>
   have f1:Instr.findNow d zk (e::r) i=Instr.findNow d zk r (i+1):=by simp only [Instr.findNow,g1,hb]
   have f2:mget (eqD lf tk) k ((k',v')::m)=mget (eqD lf tk) k m:=by simp only [mget,hb];rfl
   have f3:∀y,mset (eqD lf tk) k y ((k',v')::m)=(k',v')::mset (eqD lf tk) k y m:=fun y=>by simp only [mset,hb];rfl
   rcases find_spec hd hk m r (i+1) h3 with ⟨j,zv,e',x,a1,a2,a3,a4,a5,a6⟩|⟨a1,a2,a3⟩
   ·refine .inl ⟨j+1,zv,e',x,?_,by simpa using a2,a3,by rw [f2];exact a4,a5,fun y zy hy=>?_⟩
    ·rw [f1,a1];simp only [Nat.add_assoc,Nat.add_comm 1 j]
    ·rw [f3,List.modify_succ_cons];exact ⟨e,_,rfl,h1,h2,a6 y zy hy⟩
   ·refine .inr ⟨by rw [f1];exact a1,by rw [f2];exact a2,fun y zy born hy=>?_⟩;rw [f3];exact ⟨e,_,rfl,h1,h2,a3 y zy born hy⟩
theorem q2t {P:Program} {d:TypeDesc} {tk:Ty} (hd:keyD d tk=true) {t:TypeId} (ht:P.underlying t=some d) (b:Bool) (v:Value):(Instr.checkKey b 10000 t v).run P w=.ok () w:=by rw [show (10000:Nat)=9999+1 from rfl];generalize 9999=n;unfold Instr.checkKey;rw [Sem.run_bind,run_underlying ht w];simp only [Result.andThen_ok];cases d<;>cases tk<;>simp only [keyD] at hd<;>first|(cases hd;done)|(cases v<;>rfl)
theorem q3b {P:Program} {d:TypeDesc} {t:TypeId} (ht:P.underlying t=some d) {zk:Value} {es:List MapEntry} {r:Option (Nat×Value)} (h:Instr.findNow d zk es 0=some r):(Instr.findKey t zk es).run P w=.ok r w:=by unfold Instr.findKey;rw [Sem.run_bind,run_underlying ht w];simp only [Result.andThen_ok,h];rfl
theorem qot (hC:CxOk C) {t:TypeId} {T:Ty} (h:C.ty t=some T):∃z,(zeroValue t).run C.P w=.ok z w∧relV imm w T (zero T) z:=by
 obtain ⟨i,z,g1,_,g2,g3,g4,g5,g6⟩:=(hC.tab _ _ h).info;obtain ⟨d,_,_,hd⟩:=(hC.tab _ _ h).desc;refine ⟨z,q1b g1 g4,?_⟩;obtain ⟨_,hk⟩:=q6c hd;cases ha:aggT T with
 |true=>
  rw [ha] at g5;cases z<;>simp only [qdq] at g5<;>try (cases g5;done)
  exact qti ha (g6 imm w)
 |false=>
  rw [ha] at g5 hk;obtain ⟨v,e,hv⟩:=qad hk (g6 imm w);have:z.cells=#[z]:=by cases z<;>first|rfl|(simp only [qdq] at g5;cases g5;done)
  rw [this] at e;injection e with e _;rw [e];exact hv
theorem qmt (hm:MRel C X φ o w) {t:Ty} {x:V} {d:den t} {z:Value} (hx:q03 φ o (immB X φ o w) w x z) (hn:q1g o x=[]) (h:asDs lf o t x=some d):relV (immB X φ o w) w t d z:=qhx hm hx (fun id hi=>by rw [hn] at hi;cases hi) h
theorem qi4 {t:Ty} {x:V} {d:den t} (hk:qj3 t=true) (h:asDs lf o t x=some d):x=.d t d:=by
 have hx:asD lf o t x=some d:=by
  by_cases hc:∃cs,x=.agg cs
  ·obtain ⟨cs,rfl⟩:=hc;cases t<;>simp only [qj3] at hk<;>first|(cases hk;done)|(simp only [asDs] at h;cases h)
  ·cases x<;>first|exact h|exact absurd ⟨_,rfl⟩ hc
 have hx:asD1 lf o t x=some d:=by
  rcases qac hx with hx|⟨p,ht,_⟩
  ·exact hx
  ·subst ht;cases hk
 rcases q8j hx with rfl|⟨e',ht,_⟩|⟨e',ht,_⟩
 ·rfl
 ·subst ht;cases hk
 ·subst ht;cases hk
theorem qmu (hm:MRel C X φ o w) {id:Nat} {tk tv:Ty} {m:List (den tk×den tv)} (ho:o id=.map tk tv m):∃es clock,w.heap[(φ id).block]?=some (.map es clock)∧qd2 (relV (immB X φ o w) w tk) (relV (immB X φ o w) w tv) m es.toList:=by have:=hm.objs id;rw [ho] at this;exact this
theorem q50 {P:Program} {b:Nat} {es:Array MapEntry} {clock:Nat} (h:w.heap[b]?=some (.map es clock)):(getObj b).run P w=.ok (.map es clock) w:=by simp [getObj,Sem.run,h]
theorem q8p {P:Program} {b:Nat} {es:Array MapEntry} {clock:Nat} (x:Go.Obj) (h:w.heap[b]?=some (.map es clock)):(setObj b x).run P w=.ok () {w with heap:=w.heap.setIfInBounds b x}:=by simp [setObj,Sem.run,h]
theorem qmv (hC:CxOk C) (hm:MRel C X φ o w) {t:TypeId} {x k:V} {zx zk:Value} {ok:Bool} {v:V} {u:List (Nat×Obj)} (hx:q03 φ o (immB X φ o w) w x zx) (hk:q03 φ o (immB X φ o w) w k zk) (h:(qhn lf C o t x k ok).gives v u):Res C X φ o w v u (Instr.lookup t zx zk ok):=by
 have fin:∀{tv:Ty} (b:Bool) (d:den tv) (z:Value),relV (immB X φ o w) w tv d z→(Instr.lookup t zx zk ok).run C.P w=.ok (if ok then .tuple #[z,.bool b] else z) w→
   Res C X φ o w (bif ok then .tup [.d tv d,.d .bool b] else .d tv d) [] (Instr.lookup t zx zk ok):=by
  intro tv b d z hz hr;refine ⟨_,w,φ,hr,.same hm ?_⟩;cases ok with
  |false=>exact hz
  |true=>exact ⟨#[z,.bool b],rfl,z,[.bool b],rfl,hz,.bool b,[],rfl,q72,rfl⟩
 unfold qhn at h;split at h
 ·rename_i id;split at h
  ·rename_i tk tv m ho;split at h
   ·rename_i d hd;rw [q08,q09] at h;obtain ⟨h1,rfl,rfl⟩:=h;obtain ⟨kt,vt,hu,c1,c2,hf⟩:=qbu h1;have:=qi4 hf hd;subst this;have hk:relV (immB X φ o w) w tk d zk:=hk;obtain ⟨dd,hc,he⟩:=qd7 hC c1 hf;obtain ⟨es,clock,hb,hr⟩:=qmu hm ho;unfold q03 at hx;rw [ho] at hx;simp only at hx;subst hx;rcases find_spec he hk m es.toList 0 hr with ⟨j,zv,e,y,a1,a2,a3,a4,a5,a6⟩|⟨a1,a2,a3⟩
    ·have e1:lf.mgetD (eqD lf tk) d m (zero tv)=y:=by show (mget _ d m).getD _=y;rw [a4];rfl
     have e2:lf.mhas (eqD lf tk) d m=true:=by show (mget _ d m).isSome=true;rw [a4];rfl
     rw [e1,e2];refine fin true y zv a5 ?_;simp [Instr.lookup,run_underlying hu,q50 hb,q2t he hc,q3b hc a1]
    ·have e1:lf.mgetD (eqD lf tk) d m (zero tv)=zero tv:=by show (mget _ d m).getD _=_;rw [a2];rfl
     have e2:lf.mhas (eqD lf tk) d m=false:=by show (mget _ d m).isSome=false;rw [a2];rfl
     rw [e1,e2];obtain ⟨z,z1,z2⟩:=qot (imm:=immB X φ o w) (w:=w) hC c2;refine fin false _ z z2 ?_;simp [Instr.lookup,run_underlying hu,q50 hb,q2t he hc,q3b hc a1,z1]
   ·cases h
  ·cases h
 ·split at h
  ·rename_i tk tv hg;split at h
   ·rename_i d hd;rw [q08,q09] at h;obtain ⟨hf,rfl,rfl⟩:=h;obtain ⟨kt,vt,hu,c1,c2⟩:=qe3 hg;obtain ⟨dd,hc,he⟩:=qd7 hC c1 hf;have:zx=.map none:=hx;subst this;obtain ⟨z,z1,z2⟩:=qot (imm:=immB X φ o w) (w:=w) hC c2;refine fin false _ z z2 ?_;have a1:Instr.findNow dd zk [] 0=some none:=rfl;simp [Instr.lookup,run_underlying hu,q2t he hc,q3b hc a1,z1]
   ·cases h
  ·cases h
 ·cases h
theorem qjy (hm:MRel C X φ o w) {fr:Nat} {t:TypeId} {v:V} {u:List (Nat×Obj)} (h:(qdi C fr t).gives v u) (hf:q4s fr o u):Res C X φ o w v u (Instr.makeMap t none):=by
 unfold qdi at h;split at h
 ·rename_i tk tv he;rw [q08,q09] at h;obtain ⟨_,rfl,rfl⟩:=h;have hc:o fr=.none:=hf _ (ze ..) (Nat.le_refl _) (by show fr<fr+16;omega);refine ⟨.map (some w.heap.size),w.alloc (.map #[] 0),upd φ fr ⟨w.heap.size,0,none⟩,by simp [Instr.makeMap],?_⟩;refine Comes.fresh hm (B:=.map #[] 0) rfl (.map tk tv []) (ns:=[]) (fun p hp=>by cases hp) (fun _=>by rw [hc];trivial) (fun _ _ _=>?_) trivial (fun h3=>?_)
  ·refine ⟨#[],0,?_,rfl⟩;rw [q0d];show (w.heap.push (Go.Obj.map #[] 0))[w.heap.size]?=some (Go.Obj.map #[] 0);simp
  ·unfold q03;rw [h3,q0d]
 ·cases h
theorem qfv (hC:CxOk C) (hm:MRel C X φ o w) {t:TypeId} {x k y:V} {zx zk zy:Value} {v:V} {u:List (Nat×Obj)} (hx:q03 φ o (immB X φ o w) w x zx) (hk:q03 φ o (immB X φ o w) w k zk) (hy:q03 φ o (immB X φ o w) w y zy) (h:(q9g lf C o t x k y).gives v u):ResU C X φ o w v u (Instr.mapUpdate t zx zk zy):=by
 unfold q9g at h;split at h
 ·rename_i id;split at h
  ·rename_i tk tv m ho;split at h
   ·rename_i d d' hd hn;rw [q08,q09,zd] at h;obtain ⟨⟨h1,h2⟩,rfl,rfl⟩:=h;obtain ⟨kt,vt,hu,c1,c2,hl⟩:=qbu h1;have:=qi4 hl hd;subst this;have hk:relV (immB X φ o w) w tk d zk:=hk;have hy:=qmt hm hy (by simpa using h2) hn;obtain ⟨dd,hc,hf⟩:=qd7 hC c1 hl;obtain ⟨es,clock,hb,hr⟩:=qmu hm ho;have hg:excl (φ id) (o id)=true:=by rw [ho];rfl
    unfold q03 at hx;rw [ho] at hx;simp only at hx;subst hx;have hq:(φ id).block<w.heap.size:=(hm.sep id hg).1;have done:∀(es':Array MapEntry) (clock':Nat),qd2 (relV (immB X φ o w) w tk) (relV (immB X φ o w) w tv) (mset (eqD lf tk) d d' m) es'.toList→
      (Instr.mapUpdate t (.map (some (φ id).block)) zk zy).run C.P w=.ok () {w with heap:=w.heap.setIfInBounds (φ id).block (.map es' clock')}→
      ResU C X φ o w .undef [(id,.map tk tv (lf.mset (eqD lf tk) d d' m))] (Instr.mapUpdate t (.map (some (φ id).block)) zk zy):=by
     intro es' clock' he hj;refine ⟨_,φ,hj,Comes.write hm _ (fun _=>hg) (by simp) (fun b hb=>?_) (by rw [ho];exact rfl) (fun a1 a2 a3=>?_) trivial (fun _=>rfl)⟩
     ·show (w.heap.setIfInBounds _ _)[b]?=_;rw [Array.getElem?_setIfInBounds_ne (fun e=>hb ⟨hg,e⟩)]
     ·refine ⟨es',clock',?_,?_⟩
      ·show (w.heap.setIfInBounds _ _)[_]?=_;rw [Array.getElem?_setIfInBounds_self_of_lt hq]
      ·exact q3d (q1m a1 a2 _) (q1m a1 a2 _) he
    rcases find_spec hf hk m es.toList 0 hr with ⟨j,zv,e,y',a1,a2,a3,a4,a5,a6⟩|⟨a1,a2,a3⟩
    ·refine done (es.modify j fun e=>{e with key:=zk,val:=zy}) clock (by rw [Array.toList_modify];exact a6 _ _ hy) ?_;have hs:es[j]?=some e:=by rw [←zM];exact a2
     rw [zN] at a1;simp [Instr.mapUpdate,run_underlying hu,q50 hb,q8p _ hb,q2t hf hc,q3b hc a1,Instr.keyThatStays,hs,a3]
    ·refine done (es.push {key:=zk,val:=zy,born:=clock}) (clock+1) (by rw [Array.toList_push];exact a3 _ _ clock hy) ?_;simp [Instr.mapUpdate,run_underlying hu,q50 hb,q8p _ hb,q2t hf hc,q3b hc a1]
   ·cases h
  ·cases h
 ·cases h
theorem qjz {α:Type} (a:Array α) (j:Nat):(a.eraseIdxIfInBounds j).toList=a.toList.eraseIdx j:=by
 rw [Array.eraseIdxIfInBounds];split
 ·simp
 ·rw [List.eraseIdx_of_length_le (by simpa using ‹¬j<a.size›)]
theorem qk0 {d:TypeDesc} {tk tv:Ty} (hd:keyD d tk=true) {k:den tk} {zk:Value} (hk:relV imm w tk k zk):∀(m:List (den tk×den tv)) (es:List MapEntry) (i:Nat),qd2 (relV imm w tk) (relV imm w tv) m es→(∃j zv,Instr.findNow d zk es i=some (some (i+j,zv))∧qd2 (relV imm w tk) (relV imm w tv) (mdel (eqD lf tk) k m) (es.eraseIdx j))∨(Instr.findNow d zk es i=some none∧mdel (eqD lf tk) k m=m)
 |[],es,i,h=>by have h:es=[]:=h;subst h;exact .inr ⟨rfl,rfl⟩
 |(k',v')::m,es,i,⟨e,r,he,h1,h2,h3⟩=>by
  subst he;obtain ⟨g1,g2⟩:=qgc hd hk h1;cases hb:eqD lf tk k k' with
  |true=>
   refine .inl ⟨0,e.val,?_,?_⟩
   ·simp only [Instr.findNow,g1,hb];rfl
   ·simp only [mdel,hb,cond_true];exact h3
  |false=>
   have f1:Instr.findNow d zk (e::r) i=Instr.findNow d zk r (i+1):=by simp only [Instr.findNow,g1,hb]
   have f3:mdel (eqD lf tk) k ((k',v')::m)=(k',v')::mdel (eqD lf tk) k m:=by simp only [mdel,hb];rfl
   rcases qk0 hd hk m r (i+1) h3 with ⟨j,zv,a1,a2⟩|⟨a1,a2⟩
   ·refine .inl ⟨j+1,zv,?_,?_⟩
    ·rw [f1,a1];simp only [Nat.add_assoc,Nat.add_comm 1 j]
    ·rw [f3,List.eraseIdx_cons_succ];exact ⟨e,_,rfl,h1,h2,a2⟩
   ·exact .inr ⟨by rw [f1];exact a1,by rw [f3,a2]⟩
theorem qmw (hC:CxOk C) (hm:MRel C X φ o w) {t ty:TypeId} {ts:List TypeId} {x k:V} {zx zk:Value} {v:V} {u:List (Nat×Obj)} (hx:q03 φ o (immB X φ o w) w x zx) (hk:q03 φ o (immB X φ o w) w k zk) (h:(qhp lf C o t x k).gives v u):Res C X φ o w v u (Builtin.delete_ (t::ts).toArray ty #[zx,zk]):=by
 unfold qhp at h;split at h
 ·rename_i id;split at h
  ·rename_i tk tv m ho;split at h
   ·rename_i d hd;rw [q08,q09] at h;obtain ⟨h1,rfl,rfl⟩:=h;obtain ⟨kt,vt,hu,c1,c2,hl⟩:=qbu h1;have:=qi4 hl hd;subst this;have hk:relV (immB X φ o w) w tk d zk:=hk;obtain ⟨dd,hc,hf⟩:=qd7 hC c1 hl;obtain ⟨es,clock,hb,hr⟩:=qmu hm ho;have hg:excl (φ id) (o id)=true:=by rw [ho];rfl
    unfold q03 at hx;rw [ho] at hx;simp only at hx;subst hx;have hn:(φ id).block<w.heap.size:=(hm.sep id hg).1;have done:∀(es':Array MapEntry),qd2 (relV (immB X φ o w) w tk) (relV (immB X φ o w) w tv) (mdel (eqD lf tk) d m) es'.toList→
      (Builtin.delete_ (t::ts).toArray ty #[.map (some (φ id).block),zk]).run C.P w=.ok (.tuple #[]) {w with heap:=w.heap.setIfInBounds (φ id).block (.map es' clock)}→
      Res C X φ o w (.tup []) [(id,.map tk tv (lf.mdel (eqD lf tk) d m))] (Builtin.delete_ (t::ts).toArray ty #[.map (some (φ id).block),zk]):=by
     intro es' he hj;refine ⟨_,_,φ,hj,Comes.write hm _ (fun _=>hg) (by simp) (fun b hb=>?_) (by rw [ho];exact rfl) (fun a1 a2 a3=>?_) trivial (fun _=>⟨#[],rfl,rfl⟩)⟩
     ·show (w.heap.setIfInBounds _ _)[b]?=_;rw [Array.getElem?_setIfInBounds_ne (fun e=>hb ⟨hg,e⟩)]
     ·refine ⟨es',clock,?_,?_⟩
      ·show (w.heap.setIfInBounds _ _)[_]?=_;rw [Array.getElem?_setIfInBounds_self_of_lt hn]
      ·exact q3d (q1m a1 a2 _) (q1m a1 a2 _) he
    rcases qk0 hf hk m es.toList 0 hr with ⟨j,zv,a1,a2⟩|⟨a1,a2⟩
    ·rw [zN] at a1;refine done (es.eraseIdxIfInBounds j) (by rw [qjz];exact a2) ?_;simp [Builtin.delete_,run_underlying hu,q50 hb,q8p _ hb,q2t hf hc,q3b hc a1]
    ·refine done es (by rw [a2];exact hr) ?_;simp [Builtin.delete_,run_underlying hu,q50 hb,q8p _ hb,q2t hf hc,q3b hc a1]
   ·cases h
  ·cases h
 ·cases h
end
end Ev

namespace Ev
open Go
section
variable {C:Cx} {X:Nat→Prop} {φ:Nat→Addr} {o:Nat→Obj} {w:World} {imm:Nat→Prop}
theorem qtz (s:ByteArray):q7m (s.data.toList.map fun b=>(b.toNat:Int))=s:=by
 obtain ⟨⟨l⟩⟩:=s;show ByteArray.mk ((l.map fun b=>(b.toNat:Int)).map fun b=>UInt8.ofNat b.toNat).toArray=ByteArray.mk ⟨l⟩;rw [zW];congr 2
 induction l with
 |nil=>rfl
 |cons a l ih=>rw [zV,ih];congr 1;show UInt8.ofNat ((a.toNat:Int)).toNat=a;rw [Int.toNat_natCast];exact UInt8.ofNat_toNat
theorem qu0 {P:Program} {b n:Nat} {s:ByteArray} {ty:TypeId} (h:w.heap[b]?=some (.stringIter s n)) (hn:n<s.size):(Instr.next (.pointer (some ⟨b,0,none⟩)) true ty).run P w=.ok (.tuple #[.bool true,.int .i64 n,.int .i32 (Utf8.decode s n).1]) {w with heap:=w.heap.setIfInBounds b (.stringIter s (n+(Utf8.decode s n).2))}:=by simp [Instr.next,getObj,setObj,Sem.run,h,hn,Result.andThen,goInt]
theorem qu1 {P:Program} {b n:Nat} {s:ByteArray} {ty:TypeId} (h:w.heap[b]?=some (.stringIter s n)) (hn:¬n<s.size):(Instr.next (.pointer (some ⟨b,0,none⟩)) true ty).run P w=.ok (.tuple #[.bool false]) w:=by simp [Instr.next,getObj,Sem.run,h,hn,Result.andThen]
theorem qr5 (hm:MRel C X φ o w) {fr:Nat} {t:TypeId} {x:V} {zx:Value} {v:V} {u:List (Nat×Obj)} (hx:q03 φ o (immB X φ o w) w x zx) (h:(qmb C fr t x).gives v u) (hf:q4s fr o u):Res C X φ o w v u (Instr.range t zx):=by
 unfold qmb at h;split at h
 ·rename_i hd;split at h
  ·rename_i l;rw [q09] at h;obtain ⟨rfl,rfl⟩:=h;obtain ⟨s,rfl,hs,hl⟩:=q38 hx;have hc:o fr=.none:=hf _ (ze ..) (Nat.le_refl _) (by show fr<fr+16;omega);refine ⟨.pointer (some ⟨w.heap.size,0,none⟩),w.alloc (.stringIter s 0),upd φ fr ⟨w.heap.size,0,none⟩,run_range_string w t s (q0x hd),?_⟩;refine Comes.fresh hm (B:=.stringIter s 0) rfl (.iter l 0) (ns:=[]) (fun p hp=>by cases hp) (fun _=>by rw [hc];trivial) (fun _ _ _=>?_) trivial (fun h3=>?_)
   ·refine ⟨s,0,?_,hs,rfl,hl⟩;rw [q0d];show (w.heap.push (Go.Obj.stringIter s 0))[w.heap.size]?=some (Go.Obj.stringIter s 0);simp
   ·unfold q03;rw [h3,q0d]
  ·cases h
 ·cases h
theorem qu2 (hm:MRel C X φ o w) {ty:TypeId} {x:V} {zx:Value} {v:V} {u:List (Nat×Obj)} (hx:q03 φ o (immB X φ o w) w x zx) (h:(qt3 lf o x).gives v u):Res C X φ o w v u (Instr.next zx true ty):=by
 unfold qt3 at h;split at h
 ·rename_i id;split at h
  ·rename_i l p ho;rw [q09] at h;obtain ⟨rfl,rfl⟩:=h;have he:=hm.objs id;rw [ho] at he;obtain ⟨s,n,hb,hs,rfl,hl⟩:=he;have hc:excl (φ id) (o id)=true:=by rw [ho];rfl
   have hg:(φ id).block<w.heap.size:=(hm.sep id hc).1;unfold q03 at hx;rw [ho] at hx;simp only at hx;subst hx;have hj:l.length=s.size:=by rw [←hs];simp
   have hf:q7m l=s:=by rw [←hs];exact qtz s
   by_cases hn:n<s.size
   ·have e1:lf.ltI (n:Int) (lf.lenI l)=true:=zA (by show (n:Int)<(l.length:Int);omega);have e2:lf.nextI l (n:Int)=((n+(Utf8.decode s n).2:Nat):Int):=by show (if (n:Int)<(l.length:Int) then _ else _)=_;rw [if_pos (by omega),hf,Int.toNat_natCast];rfl
    have e3:lf.runeI l (n:Int)=((Utf8.decode s n).1:Int):=by show ((Utf8.decode (q7m l) (n:Int).toNat).1:Int)=_;rw [hf,Int.toNat_natCast]
    rw [e1,e2,e3];refine ⟨_,_,φ,qu0 hb hn,Comes.write hm _ (fun _=>hc) (by simp) (fun b hb=>?_) (by rw [ho];exact rfl) (fun a1 a2 a3=>?_) trivial (fun _=>?_)⟩
    ·show (w.heap.setIfInBounds _ _)[b]?=_;rw [Array.getElem?_setIfInBounds_ne (fun e=>hb ⟨hc,e⟩)]
    ·refine ⟨s,_,?_,hs,rfl,hl⟩;show (w.heap.setIfInBounds _ _)[_]?=_;rw [Array.getElem?_setIfInBounds_self_of_lt hg]
    ·have hr:=decode_le s n;have h1:inK .i64 (n:Int):=by unfold maxL at hl;show (-9223372036854775808:Int)≤_∧_≤(9223372036854775807:Int);omega
     have h2:inK .i32 ((Utf8.decode s n).1:Int):=by show (-2147483648:Int)≤_∧_≤(2147483647:Int);omega
     exact .inl ⟨rfl,rfl,h1,h2⟩
   ·have e1:lf.ltI (n:Int) (lf.lenI l)=false:=zB (by show ¬(n:Int)<(l.length:Int);omega);have e2:lf.nextI l (n:Int)=(n:Int):=by show (if (n:Int)<(l.length:Int) then _ else _)=_;rw [if_neg (by omega)]
    rw [e1,e2];refine ⟨_,w,φ,qu1 hb hn,Comes.write hm _ (fun _=>hc) rfl (fun b _=>rfl) (by rw [ho];exact rfl) (fun a1 a2 a3=>?_) trivial (fun _=>?_)⟩
    ·exact ⟨s,n,hb,hs,rfl,hl⟩
    ·exact .inr ⟨rfl,rfl⟩
  ·cases h
 ·cases h
theorem qou {α:Type} {b:Bool} {x y:α} (h:(cnd b (some x) none:Option α)=some y):b=true∧x=y:=by
 cases b with
 |true=>exact ⟨rfl,zI h⟩
 |false=>cases h
theorem qyq (hm:MRel C X φ o w) {i:Nat} {x:V} {zx:Value} {v:V} {u:List (Nat×Obj)} (hx:q03 φ o (immB X φ o w) w x zx) (h:(z1g lf i x).gives v u):Res C X φ o w v u (Instr.extract zx i):=by
 unfold z1g at h;split at h
 ·rename_i vs;obtain ⟨c,rfl,hr⟩:=hx;split at h
  ·rename_i v' hv;rw [q09] at h;obtain ⟨rfl,rfl⟩:=h;obtain ⟨z,h1,h2⟩:=q84 hr hv;rw [zM] at h1;exact Res.of_pure hm ⟨rfl,z,by simp [Instr.extract,h1],h2⟩
  ·cases h
 ·rename_i b p c;split at h
  ·rw [q09] at h;obtain ⟨rfl,rfl⟩:=h;refine Res.of_pure hm ⟨rfl,.bool b,?_,q72⟩;rcases hx with ⟨rfl,rfl,_⟩|⟨rfl,rfl⟩<;>simp [Instr.extract]
  ·rw [q4z] at h;obtain ⟨y,h1,h2⟩:=h;obtain ⟨rfl,rfl⟩:=qou h1;injection h2 with h2 h3;subst h2 h3;rcases hx with ⟨_,rfl,h4,_⟩|⟨h4,_⟩
   ·exact Res.of_pure hm ⟨rfl,.int .i64 p,by simp [Instr.extract],q2r h4⟩
   ·cases h4
  ·rw [q4z] at h;obtain ⟨y,h1,h2⟩:=h;obtain ⟨rfl,rfl⟩:=qou h1;injection h2 with h2 h3;subst h2 h3;rcases hx with ⟨_,rfl,_,h4⟩|⟨h4,_⟩
   ·exact Res.of_pure hm ⟨rfl,.int .i32 c,by simp [Instr.extract],q2r h4⟩
   ·cases h4
  ·cases h
 ·cases h
end
end Ev

