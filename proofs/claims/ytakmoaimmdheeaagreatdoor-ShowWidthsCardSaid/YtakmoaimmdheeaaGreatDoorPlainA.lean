/- Layers 2 and 6 in plain words: names, trees, patterns. No statement of its own about the program. -/
import Derived.Test.YtakmoaimmdheeaaGreatDoorFnB
import Derived.Test.YtakmoaimmdheeaaGreatDoorAw
import Derived.Laws.RangeAny
namespace Ev
open Go
namespace Fn
def q6b:List (List Int):=[[108,101,116],[114,101,99],[105,110],[102,117,110],[105,102],[116,104,101,110],[101,108,115,101],[109,97,116,99,104],[119,105,116,104],[101,110,100],[114,97,105,115,101],[116,114,121],[111,112,101,110],[116,121,112,101],[111,102],[105,110,102,105,120,108],[105,110,102,105,120,114],[105,110,102,105,120],[45,62],[61],[124],[40],[41],[95],[59,59]]
theorem qrp:f_b9 ()=some (⟨false,q6b⟩,()):=l_b9 300 () _ (by kernel_rfl)
theorem add1{k:Nat}(h:k<=1000000000):addI .i64 (k:Int) 1=((k+1:Nat):Int):=by rw[q81 (by omega) (by omega)];omega
theorem q17{α:Type}{l:List α}{k:Nat}(h:k<l.length):l.drop k=l[k]::l.drop (k+1):=List.drop_eq_getElem_cons h
theorem q3q{α:Type}{l:List α}{i:Nat}(h:i<l.length):okAt l (i:Int)=some i:=by unfold okAt;rw[if_pos (by omega)];rfl
theorem z4i{α:Type}{l:List α}{i:Nat}{x:α}(h:l[i]?=some x):nth l i=some x:=h
theorem z2p{α:Type}{l:List α}{k:Nat}(h:k<=l.length):cutL l 0 (k:Int)=some (l.take k):=by unfold cutL;rw[if_pos (by omega)];rfl
theorem qrq(s:List Int)(n:Bool)(l:List (List Int))(hl:l.length<=1000000):∀(m k:Nat),k+m=l.length->∃r,q0i l1_cw (⟨n,l⟩,s,(l.length:Int),(k:Int),())=some (r,())/\(0<=r↔s∈l.drop k):=by
 intro m
 induction m with
 |zero=>intro k hk;refine⟨-1,q09 ?_,by rw[zD (by omega)];simp⟩;unfold l1_cw;simp only;rw[q0h,if_neg (by omega)]
 |succ m ih=>
  intro k hk;have hc:k<l.length:=by omega
  rw[q17 hc];have step:l1_cw (⟨n,l⟩,s,(l.length:Int),(k:Int),())=if s=l[k] then some (.inr ((k:Int),())) else some (.inl (⟨n,l⟩,s,(l.length:Int),((k+1:Nat):Int),())):=by unfold l1_cw;simp only;rw[q0h,if_pos (by omega),q0g (zj hc),q00,qcx,add1 (by omega)]
  by_cases h:s=l[k]
  ·rw[if_pos h] at step;exact⟨k,q09 step,by simp[h,-List.getElem_cons_drop]⟩
  ·rw[if_neg h] at step;obtain⟨r,h1,h2⟩:=ih (k+1) (by omega);exact⟨r,by rw[q0d step,h1],by rw[h2];simp[h,-List.getElem_cons_drop]⟩
theorem qjl(s:List Int):f_ao (s,())=some (decide (s∈q6b),()):=by obtain⟨r,h1,h2⟩:=qrq s false q6b (by decide) 25 0 (by decide);rw[u_ao,qrp,q00,u_ct,u_cw];have h1:q0i l1_cw (⟨false,q6b⟩,s,lenI q6b,0,())=some (r,()):=h1;simp only[h1,q00];have:leI 0 r=decide (s∈q6b):=decide_eq_decide.2 (by rw[h2];rfl);rw[this]
def signsL:List Int:=[33,36,37,38,42,43,45,47,58,60,61,62,63,64,94,124]
theorem qvk(c:Int):∀l:List Int,(0<=ixB c l↔c∈l)
 |[]=>by simp[ixB]
 |b::r=>by
  have ih:=qvk c r;unfold ixB;by_cases h:b=c
  ·rw[if_pos h];simp[h]
  ·rw[if_neg h];have:c≠b:=fun e=>h e.symm;simp only[zn,this,false_or];rw[<-ih];split<;>omega
theorem qvl(c:Int):f_b3 (c,())=some (decide (c∈signsL),()):=by rw[u_b3,u_de,q00];have:leI 0 (ixB c signsL)=decide (c∈signsL):=decide_eq_decide.2 (qvk c signsL);show some (leI 0 (ixB c signsL),())=_;rw[this]
def allS(s:List Int):Bool:=!s.isEmpty&&s.all fun b=>decide (b∈signsL)
def opOk(s:List Int):Bool:=allS s&&!decide (s∈q6b)
theorem qvm{b:Int}(h:b∈signsL):0<=b/\b<=126:=by unfold signsL at h;simp only[zn,List.not_mem_nil,or_false] at h;omega
theorem qnu{s:List Int}(hs:∀b,b∈s->0<=b/\b<=255){k:Nat}(hk:k<s.length):(s[k]<=127->runeI s (k:Int)=s[k]/\nextI s (k:Int)=((k+1:Nat):Int))/\(127<s[k]->126<runeI s (k:Int)):=by
 have hb:=hs _ (List.getElem_mem hk);have he:(q86 s).size=s.length:=by show(s.map _).toArray.size=_;simp
 have hc:k<(q86 s).size:=by omega
 have hg:(((q86 s)[k]'hc).toNat:Int)=s[k]:=by
  have:(q86 s)[k]'hc=UInt8.ofNat s[k].toNat:=by have h1:(q86 s)[k]'hc=((s.map fun b=>UInt8.ofNat b.toNat).toArray)[k]'(by simpa using hk):=rfl;rw[h1,List.getElem_toArray,List.getElem_map]
  rw[this,UInt8.toNat_ofNat',Nat.mod_eq_of_lt (by omega)];omega
 unfold runeI nextI;rw[Int.toNat_natCast,if_pos (by omega)];constructor
 ·intro h;have:=decode_ascii (q86 s) k hc (by omega);rw[this];exact⟨hg,by simp⟩
 ·intro h;have:=(decode_high (q86 s) k hc (by omega)).1;omega
theorem qz5{s:List Int}(hs:∀b,b∈s->0<=b/\b<=255):∀(m k:Nat),k+m=s.length->q0i l1_aw (s,s,(k:Int),())=some ((s.drop k).all (fun b=>decide (b∈signsL))&&!s.isEmpty,()):=by
 intro m
 induction m with
 |zero=>intro k hk;refine q09 ?_;unfold l1_aw;simp only;rw[q0h,if_neg (by unfold lenI;omega),zD (by omega)];cases s<;>rfl
 |succ m ih=>
  intro k hk;have hc:k<s.length:=by omega
  rw[q17 hc];obtain⟨h1,h2⟩:=qnu hs hc;have c0:ltI (k:Int) (lenI s)=true:=zw (by unfold lenI;omega);have hb:=hs _ (List.getElem_mem hc);have step:l1_aw (s,s,(k:Int),())=if s[k]∈signsL then some (.inl (s,s,((k+1:Nat):Int),())) else some (.inr (false,())):=by
   unfold l1_aw;simp only[c0,q04,q00];by_cases h:s[k]<=126
   ·obtain⟨e1,e2⟩:=h1 (by omega);rw[e1,e2];have c1:ltI 126 s[k]=false:=zu (by omega);have c2:cvI .u8 s[k]=s[k]:=by rw[z0p];omega
    simp only[c1,q01,c2,qvl,q00,notB];by_cases hm:s[k]∈signsL
    ·rw[if_pos hm];simp[hm,q01]
    ·rw[if_neg hm];simp[hm,q04]
   ·have hm:s[k]∉signsL:=fun e=>by have:=qvm e;omega
    rw[if_neg hm];have c1:ltI 126 (runeI s (k:Int))=true:=by
     refine zw ?_;by_cases he:s[k]<=127
     ·rw[(h1 he).1];omega
     ·exact h2 (by omega)
    simp only[c1,q04,q00]
  by_cases hm:s[k]∈signsL
  ·rw[if_pos hm] at step;rw[q0d step,ih (k+1) (by omega)];simp[hm,-List.getElem_cons_drop]
  ·rw[if_neg hm] at step;rw[q09 step];simp[hm,-List.getElem_cons_drop]
theorem qz6{s:List Int}(hs:∀b,b∈s->0<=b/\b<=255):f_aw (s,())=some (allS s,()):=by rw[u_aw];have:=qz5 hs s.length 0 (by omega);rw[List.drop_zero,Bool.and_comm] at this;exact this
def pre5:List Int->Nat
 |[]=>0
 |b::r=>if b∈signsL then pre5 r+1 else 0
theorem qpy:∀s:List Int,(pre5 s=s.length↔s.all (fun b=>decide (b∈signsL))=true)
 |[]=>by simp[pre5]
 |b::r=>by
  have ih:=qpy r;unfold pre5;by_cases h:b∈signsL
  ·rw[if_pos h,zm,List.all_cons];simp only[h,decide_true,Bool.true_and,<-ih];omega
  ·rw[if_neg h];simp[h]
theorem qg3(s:List Int)(hs:∀b,b∈s->0<=b/\b<=255):f_as ((5,s,0,0),())=some (opOk s,()):=by rw[u_as,qz6 hs,qjl];have c1:ltI 0 0=false:=rfl;have c2:eqI 5 3=false:=rfl;have c3:eqI 0 0=true:=rfl;have c4:eqI 5 1=false:=rfl;have c5:eqI 5 2=false:=rfl;have c6:eqI 5 4=false:=rfl;have c7:eqI 5 5=true:=rfl;simp only[c1,c2,c3,c4,c5,c6,c7,q01,q04,q00,notB,Bool.not_true,Bool.not_false];unfold opOk;cases allS s<;>rfl
def q3y(c:Int):Bool:=leI 97 c&&leI c 122
def q3z(c:Int):Bool:=leI 65 c&&leI c 90
def q8w(c:Int):Bool:=leI 48 c&&leI c 57
def q2d(c:Int):Bool:=q3y c||q3z c||q8w c||eqI c 95||eqI c 39
theorem q8x(a b:Bool):(cnd a (some b) (some false):Option Bool)=some (a&&b):=by cases a<;>rfl
theorem qly(a b:Bool):(cnd a (some true) (some b):Option Bool)=some (a||b):=by cases a<;>rfl
theorem qi2(c:Int):f_b4 (c,())=some (q3y c,()):=by rw[u_b4,q8x];rfl
theorem qi3(c:Int):f_ay (c,())=some (q3z c,()):=by rw[u_ay,q8x];rfl
theorem qrr(c:Int):f_ax (c,())=some (q8w c,()):=by rw[u_ax,q8x];rfl
theorem qrs(c:Int):f_az (c,())=some (q2d c,()):=by rw[u_az,qi2,qi3,qrr];simp only[q00,qly];rfl
theorem qvn{c:Int}(h:q2d c=true):0<=c/\c<=126:=by unfold q2d q3y q3z q8w leI at h;simp only[Bool.or_eq_true,zd,decide_eq_true_eq,eqI_eq] at h;omega
theorem qvo{s:List Int}(hs:∀b,b∈s->0<=b/\b<=255):∀(m k:Nat),k+m=s.length->q0i l1_av (s,s,(k:Int),())=some ((s.drop k).all q2d&&!s.isEmpty,()):=by
 intro m
 induction m with
 |zero=>intro k hk;refine q09 ?_;unfold l1_av;simp only;rw[q0h,if_neg (by unfold lenI;omega),zD (by omega)];cases s<;>rfl
 |succ m ih=>
  intro k hk;have hc:k<s.length:=by omega
  rw[q17 hc];obtain⟨h1,h2⟩:=qnu hs hc;have c0:ltI (k:Int) (lenI s)=true:=zw (by unfold lenI;omega);have hb:=hs _ (List.getElem_mem hc);have step:l1_av (s,s,(k:Int),())=if q2d s[k]=true then some (.inl (s,s,((k+1:Nat):Int),())) else some (.inr (false,())):=by
   unfold l1_av;simp only[c0,q04,q00];by_cases h:s[k]<=126
   ·obtain⟨e1,e2⟩:=h1 (by omega);rw[e1,e2];have c1:ltI 126 s[k]=false:=zu (by omega);have c2:cvI .u8 s[k]=s[k]:=by rw[z0p];omega
    simp only[c1,q01,c2,qrs,q00,notB];cases q2d s[k]<;>rfl
   ·have hm:¬q2d s[k]=true:=fun e=>by have:=qvn e;omega
    rw[if_neg hm];have c1:ltI 126 (runeI s (k:Int))=true:=by
     refine zw ?_;by_cases he:s[k]<=127
     ·rw[(h1 he).1];omega
     ·exact h2 (by omega)
    simp only[c1,q04,q00]
  rw[List.all_cons];cases hm:q2d s[k] with
  |true=>rw[hm,if_pos rfl] at step;rw[q0d step,ih (k+1) (by omega),Bool.true_and]
  |false=>rw[hm,if_neg (by decide)] at step;rw[q09 step,Bool.false_and,Bool.false_and]
theorem qlz{s:List Int}(hs:∀b,b∈s->0<=b/\b<=255):f_av (s,())=some (s.all q2d&&!s.isEmpty,()):=by rw[u_av];exact qvo hs s.length 0 (by omega)
def qdz(c:Int):Int:=bif decide (c∈signsL) then 5 else bif q3y c then 1 else bif q3z c then 2 else bif q8w c then 3 else bif eqI c 95||eqI c 39 then 4 else 0
theorem qd4{c:Int}(h:c∈signsL):q2d c=false:=by unfold signsL at h;simp only[zn,List.not_mem_nil,or_false] at h;rcases h with h|h|h|h|h|h|h|h|h|h|h|h|h|h|h|h<;>subst h<;>decide
theorem qrt(c:Int):(leI 1 (qdz c)&&leI (qdz c) 4)=q2d c:=by
 unfold qdz;by_cases h:c∈signsL
 ·rw[qd4 h];simp[h,leI]
 ·simp only[h,decide_false,cond_false];unfold q2d;cases q3y c<;>cases q3z c<;>cases q8w c<;>cases h1:eqI c 95<;>cases eqI c 39<;>rfl
theorem qnv{c:Int}(h:q3z c=true):q3y c=false:=by
 unfold q3z q3y leI at*
 simp only[zd,decide_eq_true_eq,Bool.and_eq_false_iff,decide_eq_false_iff_not] at*
 omega
theorem qru{c:Int}(h:q2d c=true):eqI (qdz c) 1=q3y c:=by
 unfold qdz;have hs:c∉signsL:=fun e=>by rw[qd4 e] at h;cases h
 simp only[hs,decide_false,cond_false];cases q3y c<;>cases q3z c<;>cases q8w c<;>cases (eqI c 95||eqI c 39)<;>rfl
theorem qrv{c:Int}(h:q2d c=true):eqI (qdz c) 2=q3z c:=by
 unfold qdz;have hs:c∉signsL:=fun e=>by rw[qd4 e] at h;cases h
 simp only[hs,decide_false,cond_false];cases hg:q3z c with
 |true=>rw[qnv hg];rfl
 |false=>cases q3y c<;>cases q8w c<;>cases (eqI c 95||eqI c 39)<;>rfl
def preI:List Int->Nat
 |[]=>0
 |b::r=>bif q2d b then preI r+1 else 0
theorem qpz:∀s:List Int,(preI s=s.length↔s.all q2d=true)
 |[]=>by simp[preI]
 |b::r=>by
  have ih:=qpz r;unfold preI;cases h:q2d b with
  |true=>simp only[cond_true,zm,List.all_cons,h,Bool.true_and,<-ih];omega
  |false=>simp[h]
def z2q(p:Int->Bool):List Int->Bool
 |[]=>false
 |b::_=>p b
def q4p(p:Int->Bool)(s:List Int):Bool:=s.all q2d&&!s.isEmpty&&z2q p s&&!decide (s∈q6b)
theorem qvp(s:List Int)(a2 a3:Int)(hs:∀b,b∈s->0<=b/\b<=255):f_at ((1,s,a2,a3),())=some (q4p q3y s,()):=by
 rw[u_at,qlz hs,qjl];simp only[q00];cases s with
 |nil=>rfl
 |cons b r=>have h0:at? (b::r) 0=some b:=rfl;rw[h0];simp only[q00,qi2];unfold q4p;show _=some (_&&q3y b&&_,());cases List.all (b::r) q2d<;>cases q3y b<;>cases decide (b::r∈q6b)<;>rfl
theorem qvq(s:List Int)(a2 a3:Int)(hs:∀b,b∈s->0<=b/\b<=255):f_au ((2,s,a2,a3),())=some (q4p q3z s,()):=by
 rw[u_au,qlz hs,qjl];simp only[q00];cases s with
 |nil=>rfl
 |cons b r=>have h0:at? (b::r) 0=some b:=rfl;rw[h0];simp only[q00,qi3];unfold q4p;show _=some (_&&q3z b&&_,());cases List.all (b::r) q2d<;>cases q3z b<;>cases decide (b::r∈q6b)<;>rfl
theorem qrw(s:List Int)(hs:∀b,b∈s->0<=b/\b<=255):f_as ((1,s,0,0),())=some (q4p q3y s,()):=by rw[u_as,qvp s 0 0 hs];have c1:ltI 0 0=false:=rfl;have c2:eqI 1 3=false:=rfl;have c3:eqI 0 0=true:=rfl;have c4:eqI 1 1=true:=rfl;simp only[c1,c2,c3,c4,q01,q04,q00,notB,Bool.not_true,Bool.not_false]
theorem qrx(s:List Int)(hs:∀b,b∈s->0<=b/\b<=255):f_as ((2,s,0,0),())=some (q4p q3z s,()):=by rw[u_as,qvq s 0 0 hs];have c1:ltI 0 0=false:=rfl;have c2:eqI 2 3=false:=rfl;have c3:eqI 0 0=true:=rfl;have c4:eqI 2 1=false:=rfl;have c5:eqI 2 2=true:=rfl;simp only[c1,c2,c3,c4,c5,q01,q04,q00,notB,Bool.not_true,Bool.not_false]
def nameOk(s:List Int):Bool:=q4p q3y s||opOk s
def q8d(s:List Int):Bool:=q4p q3z s
theorem qvr{s:List Int}(hs:∀b,b∈s->0<=b/\b<=255):f_dl (s,())=some (nameOk s,()):=by rw[u_dl,qrw s hs,qg3 s hs];simp only[q00,qly];rfl
theorem qz7{s:List Int}(hs:∀b,b∈s->0<=b/\b<=255):f_dk (s,())=some (q8d s,()):=by rw[u_dk,qrx s hs];rfl
abbrev ND:=Int×List Int×Int×Int
inductive F where
 |nil:F
 |cons:Int->List Int->Int->F->F->F
def F.cnt:F->Nat
 |.nil=>0
 |.cons _ _ _ _ r=>r.cnt+1
def F.flat:F->List ND
 |.nil=>[]
 |.cons k t n ks r=>(k,t,n,(ks.cnt:Int))::(ks.flat++r.flat)
def F.size:F->Nat
 |.nil=>0
 |.cons _ _ _ ks r=>ks.size+r.size+1
def F.dep:F->Nat
 |.nil=>0
 |.cons _ _ _ ks r=>max (ks.dep+1) r.dep
def F.app:F->F->F
 |.nil,g=>g
 |.cons k t n ks r,g=>.cons k t n ks (r.app g)
abbrev tr(k:Int)(t:List Int)(n:Int)(ks:F):F:=.cons k t n ks .nil
theorem F.len:∀f:F,f.flat.length=f.size
 |.nil=>rfl
 |.cons k t n ks r=>by show(_::(ks.flat++r.flat)).length=ks.size+r.size+1;rw[zm,zh,ks.len,r.len]
theorem F.cnt_le:∀f:F,f.cnt<=f.size
 |.nil=>Nat.le_refl _
 |.cons k t n ks r=>by have:=r.cnt_le;show r.cnt+1<=ks.size+r.size+1;omega
theorem F.dep_le:∀f:F,f.dep<=f.size
 |.nil=>Nat.le_refl _
 |.cons k t n ks r=>by have h1:=r.dep_le;have h2:=ks.dep_le;show max (ks.dep+1) r.dep<=ks.size+r.size+1;omega
theorem q6y(k:Int)(t:List Int)(n:Int)(ks:F):(tr k t n ks).flat=(k,t,n,(ks.cnt:Int))::ks.flat:=by show _::(ks.flat++[])=_;rw[zo]
theorem q49(k:Int)(t:List Int)(n:Int)(ks:F):(tr k t n ks).size=ks.size+1:=rfl
def skip(N:Nat):List ND->Nat->Option (List ND)
 |l,0=>some l
 |[],_+1=>none
 |d::r,c+1=>if 0<=d.2.2.2/\d.2.2.2<=(N:Int) then skip N r (c+d.2.2.2.toNat) else none
theorem q7f(N:Nat)(l:List ND):skip N l 0=some l:=by cases l<;>rfl
theorem q5j(N:Nat)(d:ND)(r:List ND)(c:Nat):skip N (d::r) (c+1)=if 0<=d.2.2.2/\d.2.2.2<=(N:Int) then skip N r (c+d.2.2.2.toNat) else none:=by conv=>lhs;unfold skip
theorem qbv(N:Nat):∀(f:F) (c:Nat) (post:List ND),f.size<=N->skip N (f.flat++post) (f.cnt+c)=skip N post c
 |.nil,c,post,_=>by show skip N post (0+c)=_;rw[zE]
 |.cons k t n ks r,c,post,h=>by
  have h:ks.size+r.size+1<=N:=h;have hc:=ks.cnt_le;show skip N ((k,t,n,(ks.cnt:Int))::((ks.flat++r.flat)++post)) (r.cnt+1+c)=_;have e:r.cnt+1+c=(r.cnt+c)+1:=by omega
  rw[e,q5j];rw[if_pos ⟨by show(0:Int)<=(ks.cnt:Int);omega,by show(ks.cnt:Int)<=N;omega⟩];show skip N _ (r.cnt+c+(ks.cnt:Int).toNat)=_;rw[Int.toNat_natCast,zt,Nat.add_comm (r.cnt+c),qbv N ks _ _ (by omega),qbv N r _ _ (by omega)]
theorem F.split:∀(g:F) (a c:Nat),g.cnt=a+c->∃x y:F,x.cnt=a/\y.cnt=c/\g.flat=x.flat++y.flat
 |g,0,c,h=>⟨.nil,g,rfl,by omega,rfl⟩
 |.nil,a+1,c,h=>by have h:0=a+1+c:=h;omega
 |.cons k t n ks r,a+1,c,h=>by
  have h:r.cnt+1=a+1+c:=h;obtain⟨x,y,h1,h2,h3⟩:=r.split a c (by omega);refine⟨.cons k t n ks x,y,by show x.cnt+1=_;omega,h2,?_⟩;show _::(ks.flat++r.flat)=_::(ks.flat++x.flat)++y.flat
  rw[h3,List.cons_append,zt]
theorem qd5(N:Nat):∀(l:List ND) (c:Nat) (rest:List ND),skip N l c=some rest->∃f:F,f.cnt=c/\l=f.flat++rest
 |l,0,rest,h=>by rw[q7f] at h;injection h with h;exact⟨.nil,rfl,h⟩
 |[],c+1,rest,h=>by cases h
 |d::r,c+1,rest,h=>by
  obtain⟨k,t,n,z⟩:=d;rw[q5j] at h;have h:(if 0<=z/\z<=(N:Int) then skip N r (c+z.toNat) else none)=some rest:=h;by_cases hz:0<=z/\z<=(N:Int)
  ·rw[if_pos hz] at h;obtain⟨g,h1,h2⟩:=qd5 N r _ rest h;obtain⟨x,y,h3,h4,h5⟩:=g.split z.toNat c (by omega);refine⟨.cons k t n x y,by show y.cnt+1=_;omega,?_⟩;show _=(k,t,n,(x.cnt:Int))::(x.flat++y.flat)++rest;rw[h2,h5,h3,Int.toNat_of_nonneg hz.1];rfl
  ·rw[if_neg hz] at h;cases h
theorem qq0(N:Nat):∀(l:List ND) (a b:Nat),skip N l (a+b)=(skip N l a).bind fun r=>skip N r b
 |l,0,b=>by rw[q7f,zE];rfl
 |[],a+1,b=>by
  have e:a+1+b=(a+b)+1:=by omega
  rw[e];rfl
 |d::r,a+1,b=>by
  have e:a+1+b=(a+b)+1:=by omega
  rw[e,q5j,q5j];by_cases h:0<=d.2.2.2/\d.2.2.2<=(N:Int)
  ·rw[if_pos h,if_pos h];have e2:a+b+d.2.2.2.toNat=(a+d.2.2.2.toNat)+b:=by omega
   rw[e2];exact qq0 N r _ b
  ·rw[if_neg h,if_neg h];rfl
theorem qz8(N:Nat){l:List ND}{c:Nat}{rest:List ND}(h:skip N l c=some rest):c<=l.length-rest.length/\rest.length<=l.length/\rest=l.drop (l.length-rest.length):=by obtain⟨f,h1,h2⟩:=qd5 N l c rest h;have:=f.cnt_le;have h3:=f.len;subst h2;rw[zh];refine⟨by omega,by omega,?_⟩;rw[show f.flat.length+rest.length-rest.length=f.flat.length by omega,List.drop_left'];rfl
def endZ(l:List ND)(k c:Nat):Int:=(skip l.length (l.drop k) c).elim (-1) fun r=>(l.length:Int)-(r.length:Int)
theorem qz9(b:Bool)(l:List ND)(hl:l.length<=10000):∀(m k c:Nat),k+m=l.length->c<=k*10000->q0i l1_e1 (⟨b,l⟩,(k:Int),((c+1:Nat):Int),())=some (endZ l k (c+1),()):=by
 intro m
 induction m with
 |zero=>intro k c hk hc;refine q09 ?_;unfold l1_e1;have c0:leI (lenI l) (k:Int)=true:=zw (by unfold lenI;omega);simp only[c0,q04,q00];unfold endZ;rw[zD (by omega)];rfl
 |succ m ih=>
  intro k c hk hc;have hg:k<l.length:=by omega
  obtain⟨d,hd⟩:∃d,l[k]?=some d:=⟨_,zj hg⟩;have hf:l.drop k=d::l.drop (k+1):=by rw[q17 hg];rw[zj hg] at hd;injection hd with hd;rw[hd]
  obtain⟨x,t,n,z⟩:=d;have c0:leI (lenI l) (k:Int)=false:=zu (by unfold lenI;omega);have hj:=q0g hd;by_cases hz:0<=z/\z<=(l.length:Int)
  ·have c1:ltI z 0=false:=zu (by omega);have c2:ltI (lenI l) z=false:=zu (by unfold lenI;omega);have e1:subI .i64 z 1=z-1:=q3l (by omega) (by omega);have e2:addI .i64 ((c+1:Nat):Int) (z-1)=((c+z.toNat:Nat):Int):=by rw[q81 (by omega) (by omega)];omega
   have e3:=add1 (show k<=1000000000 by omega);have step:l1_e1 (⟨b,l⟩,(k:Int),((c+1:Nat):Int),())=if 0<c+z.toNat then some (.inl (⟨b,l⟩,((k+1:Nat):Int),((c+z.toNat:Nat):Int),())) else some (.inr (((k+1:Nat):Int),())):=by
    unfold l1_e1;simp only[c0,q01,q00,hj,c1,c2,e1,e2,e3];rw[q0h];by_cases h:0<c+z.toNat
    ·rw[if_pos h,if_pos (by omega)]
    ·rw[if_neg h,if_neg (by omega)]
   have he:endZ l k (c+1)=(skip l.length (l.drop (k+1)) (c+z.toNat)).elim (-1) fun r=>(l.length:Int)-(r.length:Int):=by unfold endZ;rw[hf,q5j];rw[if_pos (show 0<=(x,t,n,z).2.2.2/\(x,t,n,z).2.2.2<=(l.length:Int) from hz)]
   rw[he];by_cases h:0<c+z.toNat
   ·rw[if_pos h] at step;rw[q0d step];obtain⟨c',hm⟩:∃c',c+z.toNat=c'+1:=⟨c+z.toNat-1,by omega⟩;rw[hm];exact ih (k+1) c' (by omega) (by omega)
   ·rw[if_neg h] at step;rw[q09 step];have h0:c+z.toNat=0:=by omega
    rw[h0,q7f];show some (((k+1:Nat):Int),())=some ((l.length:Int)-((l.drop (k+1)).length:Int),());rw[zR];congr 2;omega
  ·have he:endZ l k (c+1)=-1:=by unfold endZ;rw[hf,q5j];rw[if_neg (show ¬(0<=(x,t,n,z).2.2.2/\(x,t,n,z).2.2.2<=(l.length:Int)) from hz)];rfl
   rw[he];refine q09 ?_;unfold l1_e1;simp only[c0,q01,q00,hj];cases h1:ltI z 0 with
   |true=>simp only[q04,q00]
   |false=>
    have c2:ltI (lenI l) z=true:=by have:=of_decide_eq_false h1;exact zw (by unfold lenI;omega)
    simp only[q01,q00,c2,q04]
theorem q9b(b:Bool)(l:List ND)(hl:l.length<=10000)(k:Nat):f_e1 (⟨b,l⟩,(k:Int),())=some (endZ l k 1,()):=by
 rw[u_e1];have c0:ltI (k:Int) 0=false:=zu (by omega);rw[c0,q01];by_cases h:k<=l.length
 ·exact qz9 b l hl (l.length-k) k 0 (by omega) (by omega)
 ·have he:endZ l k 1=-1:=by unfold endZ;rw[zD (by omega)];rfl
  rw[he];refine q09 ?_;unfold l1_e1;have c0:leI (lenI l) (k:Int)=true:=zw (by unfold lenI;omega);simp only[c0,q04,q00]
theorem qza{l:List ND}{k c:Nat}(h:skip l.length (l.drop k) c=none):endZ l k c=-1:=by unfold endZ;rw[h];rfl
def q9u(l:List ND):Bool:=decide (0<l.length)&&decide (endZ l 0 1=(l.length:Int))
theorem q9c(b:Bool)(l:List ND)(hl:l.length<=10000):f_e5 (⟨b,l⟩,())=some (q9u l,()):=by rw[u_e5];have:=q9b b l hl 0;have h0:((0:Nat):Int)=0:=rfl;rw[h0] at this;simp only[this,q00,q8x];unfold q9u ltI eqI lenI;have e1:decide ((0:Int)<(l.length:Int))=decide (0<l.length):=decide_eq_decide.2 (by omega);rw[e1];rfl
theorem q7g(l:List ND):q9u l=true↔∃k t n ks,l=(tr k t n ks).flat:=by
 unfold q9u endZ;rw[zd,decide_eq_true_eq,decide_eq_true_eq,List.drop_zero];constructor
 ·rintro⟨h1,h2⟩;cases hs:skip l.length l 1 with
  |none=>rw[hs] at h2;have h2:(-1:Int)=l.length:=h2;omega
  |some r=>
   rw[hs] at h2;have h2:(l.length:Int)-(r.length:Int)=l.length:=h2;have hr:r=[]:=List.length_eq_zero_iff.1 (by omega);subst hr;obtain⟨f,h3,h4⟩:=qd5 _ _ _ _ hs;cases f with
   |nil=>cases h3
   |cons k t n ks r=>
    cases r with
    |nil=>exact⟨k,t,n,ks,by rw[h4,zo]⟩
    |cons _ _ _ _ _=>have h3:_+1+1=1:=h3;omega
 ·rintro⟨k,t,n,ks,rfl⟩;have hc:=(tr k t n ks).len;refine⟨by rw[hc,q49];omega,?_⟩;have:=qbv (tr k t n ks).flat.length (tr k t n ks) 0 [] (by omega);rw[zo,q7f] at this;have e:(tr k t n ks).cnt+0=1:=rfl;rw[e] at this;rw[this];show((tr k t n ks).flat.length:Int)-((0:Nat):Int)=_;omega
def Sits(l:List ND)(k:Nat)(f:F):Prop:=∃post,l.drop k=f.flat++post
theorem Sits.node{l:List ND}{k:Nat}{x:Int}{t:List Int}{n:Int}{ks r:F}(h:Sits l k (.cons x t n ks r)):l[k]?=some (x,t,n,(ks.cnt:Int))/\Sits l (k+1) ks/\Sits l (k+1+ks.size) r/\k+1+ks.size+r.size<=l.length:=by
 obtain⟨post,h⟩:=h;have h:l.drop k=(x,t,n,(ks.cnt:Int))::((ks.flat++r.flat)++post):=h;have h1:l[k]?=some (x,t,n,(ks.cnt:Int)):=by rw[<-List.head?_drop,h];rfl
 have h2:l.drop (k+1)=(ks.flat++r.flat)++post:=by rw[<-List.drop_drop,h];rfl
 refine⟨h1,⟨r.flat++post,by rw[h2,zt]⟩,⟨post,?_⟩,?_⟩
 ·rw[<-List.drop_drop,h2,<-ks.len,zt,List.drop_left'];rfl
 ·have:=congrArg List.length h2;rw[zR,zh,zh,ks.len,r.len] at this;have hc:k<l.length:=(zG.1 h1).1;omega
theorem Sits.le{l:List ND}{k:Nat}{f:F}(h:Sits l k f)(hk:k<=l.length):k+f.size<=l.length:=by
 cases f with
 |nil=>exact hk
 |cons x t n ks r=>have:=h.node.2.2.2;show k+(ks.size+r.size+1)<=_;omega
theorem Sits.first{l:List ND}{k:Nat}{x:Int}{t:List Int}{n:Int}{ks r:F}(h:Sits l k (.cons x t n ks r)):Sits l k (tr x t n ks):=by obtain⟨post,h⟩:=h;refine⟨r.flat++post,?_⟩;rw[h,q6y];show _::(ks.flat++r.flat)++post=_;rw[List.cons_append,List.cons_append,zt]
theorem Sits.ends{l:List ND}{k:Nat}{x:Int}{t:List Int}{n:Int}{ks r:F}(h:Sits l k (.cons x t n ks r)):endZ l k 1=((k+1+ks.size:Nat):Int):=by obtain⟨g1,g2,g3,g4⟩:=h.node;obtain⟨post,h⟩:=h.first;unfold endZ;have e:(tr x t n ks).cnt+0=1:=rfl;have hs:=qbv l.length (tr x t n ks) 0 post (by rw[q49];omega);rw[e,q7f] at hs;rw[h,hs];show(l.length:Int)-(post.length:Int)=_;have:=congrArg List.length h;rw[zR,zh,(tr x t n ks).len,q49] at this;omega
def F.pos:Nat->F->List Int
 |_,.nil=>[]
 |k,.cons _ _ _ ks r=>(k:Int)::r.pos (k+1+ks.size)
theorem F.pos_len:∀(f:F) (k:Nat),(f.pos k).length=f.cnt
 |.nil,_=>rfl
 |.cons _ _ _ ks r,k=>by show(_::r.pos _).length=r.cnt+1;rw[zm,r.pos_len]
def F.Each(P:Nat->Int->List Int->Int->F->Prop):Nat->F->Prop
 |_,.nil=>True
 |k,.cons x t n ks r=>P k x t n ks/\r.Each P (k+1+ks.size)
theorem F.each_of{l:List ND}{P:Nat->Int->List Int->Int->F->Prop}(h:∀k x t n ks,Sits l k (tr x t n ks)->ks.Each P (k+1)->P k x t n ks):∀(f:F) (k:Nat),Sits l k f->f.Each P k
 |.nil,_,_=>trivial
 |.cons x t n ks r,k,hs=>⟨h k x t n ks hs.first (F.each_of h ks (k+1) hs.node.2.1),F.each_of h r _ hs.node.2.2.1⟩
theorem F.each_one{l:List ND}{P:Nat->Int->List Int->Int->F->Prop}(h:∀k x t n ks,Sits l k (tr x t n ks)->ks.Each P (k+1)->P k x t n ks){k:Nat}{x:Int}{t:List Int}{n:Int}{ks:F}(hs:Sits l k (tr x t n ks)):P k x t n ks:=(F.each_of h (tr x t n ks) k hs).1
theorem q1d{a b:Nat}(h:a+b<=2000000):fit (sumI (a:Int) (b:Int))=some ():=qfx (by show(a:Int)+(b:Int)<=_;omega)
theorem qry(x:Bool):andB false x=false:=id (Eq.refl false)
theorem qbw{α:Type}(b:Bool)(x:α):andB b (isE [x])=false:=by cases b<;>rfl
theorem qzb(a b:Nat):maxI (a:Int) (b:Int)=((max a b:Nat):Int):=by unfold maxI;split<;>omega
def qh2:Nat->List Nat->List Nat
 |c+1,s=>(c+1)::s
 |0,[]=>[]
 |0,c::s=>qh2 (c-1) s
def toI(s:List Nat):List Int:=s.reverse.map fun(c:Nat)=>(c:Int)
theorem q27(s:List Nat):(toI s).length=s.length:=by unfold toI;rw[zJ,List.length_reverse]
theorem q5w(c:Nat)(s:List Nat):toI (c::s)=toI s++[(c:Int)]:=by unfold toI;rw[List.reverse_cons,zU];rfl
theorem qg4(c:Nat)(s:List Nat):qh2 (c+1) s=(c+1)::s:=by cases s<;>rfl
theorem pops(b:Bool)(l:List ND)(most ln k:Int)(hk:0<=k/\k<=1000000)(nb:Bool):∀(s:List Nat) (c:Nat),(∀x,x∈s->1<=x/\x<=1000000)->c<=1000000->s.length<=1000000->q0i l1_e0 (most,⟨b,l⟩,ln,k,⟨nb,toI (c::s)⟩,())=some (.inl (most,⟨b,l⟩,ln,k+1,⟨nb,toI (qh2 c s)⟩,())):=by
 have hj:addI .i64 k 1=k+1:=q81 (by omega) (by omega);have done:∀(s:List Nat) (c:Nat),c+1<=1000000->s.length<=1000000->q0i l1_e0 (most,⟨b,l⟩,ln,k,⟨nb,toI ((c+1)::s)⟩,())=some (.inl (most,⟨b,l⟩,ln,k+1,⟨nb,toI ((c+1)::s)⟩,())):=by
  intro s c hc hs;refine q09 ?_;have e1:subI .i64 (lenI (toI ((c+1)::s))) 1=(s.length:Int):=by unfold lenI;rw[q27,zm,q3l (by omega) (by omega)];omega
  have hg:nth (toI ((c+1)::s)) s.length=some ((c+1:Nat):Int):=by rw[q5w];unfold nth;rw[zM (by rw[q27];exact Nat.le_refl _),q27,Nat.sub_self];rfl
  have c0:ltI 0 (lenI (toI ((c+1)::s)))=true:=zw (by unfold lenI;rw[q27,zm];omega);have c1:eqI ((c+1:Nat):Int) 0=false:=by cases h:eqI ((c+1:Nat):Int) 0 with
   |false=>rfl
   |true=>have:=eqI_eq.1 h;omega
  unfold l1_e0;simp only[c0,q04,e1,q3q (show s.length<(toI ((c+1)::s)).length by rw[q27,zm];omega),q00,hg,c1,q01,hj]
 have nils:q0i l1_e0 (most,⟨b,l⟩,ln,k,⟨nb,toI []⟩,())=some (.inl (most,⟨b,l⟩,ln,k+1,⟨nb,toI []⟩,())):=by refine q09 ?_;have c0:ltI 0 (lenI (toI []))=false:=rfl;unfold l1_e0;simp only[c0,q01,q00,hj]
 have step:∀(s:List Nat) (X:List Int),s.length<=1000000->(s=[]/\X=[]\/∃c r,s=c::r/\1<=c/\c<=1000000/\X=toI ((c-1)::r))->
   l1_e0 (most,⟨b,l⟩,ln,k,⟨nb,toI (0::s)⟩,())=some (.inl (most,⟨b,l⟩,ln,k,⟨nb,X⟩,())):=by
  intro s X hs hX;have e1:subI .i64 (lenI (toI (0::s))) 1=(s.length:Int):=by unfold lenI;rw[q27,zm,q3l (by omega) (by omega)];omega
  have hg:nth (toI (0::s)) s.length=some 0:=by rw[q5w];unfold nth;rw[zM (by rw[q27];exact Nat.le_refl _),q27,Nat.sub_self];rfl
  have c0:ltI 0 (lenI (toI (0::s)))=true:=zw (by unfold lenI;rw[q27,zm];omega);have c1:eqI 0 0=true:=rfl;have he:cutN (lenI (toI (0::s))) (s.length:Int)=some s.length:=by unfold cutN lenI;rw[if_pos (by rw[q27,zm];omega),Int.toNat_natCast]
  have hl:takeL (toI (0::s)) s.length=toI s:=by unfold takeL;rw[q5w,List.take_left' (q27 s)]
  unfold l1_e0;simp only[c0,q04,e1,q3q (show s.length<(toI (0::s)).length by rw[q27,zm];omega),q00,hg,c1,he,hl];rcases hX with ⟨rfl,rfl⟩|⟨c,r,rfl,h1,h2,rfl⟩
  ·have c2:ltI 0 (lenI (toI []))=false:=rfl;simp only[c2,q01,q00];rfl
  ·have hs:r.length+1<=1000000:=hs;have c2:ltI 0 (lenI (toI (c::r)))=true:=zw (by unfold lenI;rw[q27,zm];omega);have e2:subI .i64 (lenI (toI (c::r))) 1=(r.length:Int):=by unfold lenI;rw[q27,zm,q3l (by omega) (by omega)];omega
   have hm:nth (toI (0::c::r)) r.length=some (c:Int):=by rw[q5w,q5w];unfold nth;rw[zt,zM (by rw[q27];exact Nat.le_refl _),q27,Nat.sub_self];rfl
   have hf:takeL (setL (toI (0::c::r)) r.length ((c:Int)-1)) (c::r).length=toI ((c-1)::r):=by unfold takeL setL;rw[q5w,q5w,q5w,zt,List.set_append_right _ _ (by rw[q27];exact Nat.le_refl _),q27,Nat.sub_self];show List.take (r.length+1) (toI r++([(c:Int)-1]++[((0:Nat):Int)]))=_;rw[<-zt,List.take_left' (by rw[zh,q27];rfl)];congr 2;omega
   have e3:subI .i64 (c:Int) 1=(c:Int)-1:=q3l (by omega) (by omega);simp only[c2,q04,e2,q3q (show r.length<(toI (c::r)).length by rw[q27,zm];omega),q00,hm,e3,hf]
 intro s
 induction s with
 |nil=>
  intro c _ hc _;cases c with
  |zero=>rw[q0d (step [] [] (by decide) (.inl ⟨rfl,rfl⟩))];exact nils
  |succ c=>rw[qg4];exact done [] c hc (by decide)
 |cons d s ih=>
  intro c hx hc hs;have hd:=hx d (ze ..);have hs:s.length+1<=1000000:=hs;cases c with
  |zero=>rw[q0d (step (d::s) (toI ((d-1)::s)) hs (.inr ⟨d,s,rfl,hd.1,hd.2,rfl⟩))];exact ih (d-1) (fun x h=>hx x (zg _ h)) (by omega) (by omega)
  |succ c=>rw[qg4];exact done (d::s) c hc hs
theorem qzc(b:Bool)(l:List ND)(hl:l.length<=10000):∀(f:F) (q:Nat) (s:List Nat) (most:Nat) (nb:Bool),Sits l q f->q<=l.length->(∀x,x∈s->1<=x/\x<=1000000)->s.length<=q->most<=100000->∃nb',q0i l2_e0 ((most:Int),⟨b,l⟩,(l.length:Int),(q:Int),⟨nb,toI (qh2 f.cnt s)⟩,())=q0i l2_e0 (((max most (if f.cnt=0 then 0 else s.length+1+f.dep):Nat):Int),⟨b,l⟩,(l.length:Int),((q+f.size:Nat):Int),⟨nb',toI (qh2 0 s)⟩,()):=by
 intro f
 induction f with
 |nil=>intro q s most nb _ _ _ _ _;refine⟨nb,?_⟩;show _=q0i l2_e0 (((max most 0:Nat):Int),_,_,((q+0:Nat):Int),_,());rw[Nat.max_zero,Nat.add_zero];rfl
 |cons x t n ks r ih1 ih2=>
  intro q s most nb hs hq hx hj hm;obtain⟨g1,g2,g3,g4⟩:=hs.node;have hc:=ks.cnt_le;have hk:=r.cnt_le;have hn:=ks.dep_le;have ho:=r.dep_le;have e0:qh2 (F.cons x t n ks r).cnt s=(r.cnt+1)::s:=qg4 r.cnt s;rw[e0];have hf:fit (sumI (lenI (toI ((r.cnt+1)::s))) (lenI [(ks.cnt:Int)]))=some ():=q1d (by rw[q27,zm,List.length_singleton];omega);have hg:∀y,y∈(r.cnt+1)::s->1<=y/\y<=1000000:=by
   intro y hy;rcases zn.1 hy with rfl|hy
   ·omega
   ·exact hx y hy
  have hp:=pops b l ((max most (s.length+2):Nat):Int) (l.length:Int) (q:Int) (by omega) false ((r.cnt+1)::s) ks.cnt hg (by omega) (by rw[zm];omega);have step:l2_e0 ((most:Int),⟨b,l⟩,(l.length:Int),(q:Int),⟨nb,toI ((r.cnt+1)::s)⟩,())=
    some (.inl (((max most (s.length+2):Nat):Int),⟨b,l⟩,(l.length:Int),((q+1:Nat):Int),⟨false,toI (qh2 ks.cnt ((r.cnt+1)::s))⟩,())):=by
   unfold l2_e0;simp only;rw[q0h,if_pos (by omega),q0g g1,q00];simp only[hf,q00,qbw];have e1:maxI (most:Int) (addI .i64 (lenI (toI ((r.cnt+1)::s))) 1)=((max most (s.length+2):Nat):Int):=by unfold lenI;rw[q27,zm,add1 (by omega),qzb]
   have e2:app (toI ((r.cnt+1)::s)) [(ks.cnt:Int)]=toI (ks.cnt::(r.cnt+1)::s):=(q5w _ _).symm;rw[e1,e2,hp];rfl
  rw[q0d step];obtain⟨nb1,h1⟩:=ih1 (q+1) ((r.cnt+1)::s) (max most (s.length+2)) false g2 (by omega) hg (by rw[zm];omega) (by omega);rw[h1];have e3:qh2 0 ((r.cnt+1)::s)=qh2 r.cnt s:=rfl;rw[e3];have he:max (max most (s.length+2)) (if ks.cnt=0 then 0 else((r.cnt+1)::s).length+1+ks.dep)=max most (s.length+1+(ks.dep+1)):=by
   rw[zm];by_cases h0:ks.cnt=0
   ·rw[if_pos h0];have:ks.dep=0:=by
     cases ks with
     |nil=>rfl
     |cons _ _ _ _ r=>exact absurd h0 (Nat.succ_ne_zero _)
    omega
   ·rw[if_neg h0];omega
  rw[he];obtain⟨nb2,h2⟩:=ih2 (q+1+ks.size) s (max most (s.length+1+(ks.dep+1))) nb1 g3 (by omega) hx (by omega) (by omega);refine⟨nb2,?_⟩;rw[h2];have e4:q+1+ks.size+r.size=q+(F.cons x t n ks r).size:=by show _=q+(ks.size+r.size+1);omega
  rw[e4];have e5:max (max most (s.length+1+(ks.dep+1))) (if r.cnt=0 then 0 else s.length+1+r.dep)=max most (if(F.cons x t n ks r).cnt=0 then 0 else s.length+1+(F.cons x t n ks r).dep):=by
   have h9:(F.cons x t n ks r).cnt≠0:=Nat.succ_ne_zero _;rw[if_neg h9];show _=max most (s.length+1+max (ks.dep+1) r.dep);by_cases h0:r.cnt=0
   ·rw[if_pos h0];have:r.dep=0:=by
     cases r with
     |nil=>rfl
     |cons _ _ _ _ r=>exact absurd h0 (Nat.succ_ne_zero _)
    omega
   ·rw[if_neg h0];omega
  rw[e5]
theorem q7h(x:Int)(t:List Int)(n:Int)(ks:F):Sits (tr x t n ks).flat 0 (tr x t n ks):=⟨[],by rw[zo];rfl⟩
theorem qvs(b:Bool)(x:Int)(t:List Int)(n:Int)(ks:F)(hl:ks.size+1<=10000):f_e0 (⟨b,(tr x t n ks).flat⟩,())=some (((ks.dep+1:Nat):Int),()):=by
 have he:(tr x t n ks).flat.length=ks.size+1:=(tr x t n ks).len;have hs:=q7h x t n ks;obtain⟨g1,g2,g3,g4⟩:=hs.node;have hg:=ks.dep_le;have hc:=ks.cnt_le;rw[u_e0,q9c b _ (by omega),(q7g _).2 ⟨x,t,n,ks,rfl⟩];have hn:notB true=false:=rfl;simp only[q00,hn,q01];generalize hL:(tr x t n ks).flat=L at*
 have hf:fit (sumI (lenI ([]:List Int)) (lenI [(ks.cnt:Int)]))=some ():=q1d (by show 0+1<=_;omega);have hp:=pops b L ((1:Nat):Int) (L.length:Int) ((0:Nat):Int) (by omega) false [] ks.cnt (fun _ h=>by cases h) (by omega) (by decide);have step:l2_e0 (((0:Nat):Int),⟨b,L⟩,(L.length:Int),((0:Nat):Int),⟨true,[]⟩,())=
   some (.inl (((1:Nat):Int),⟨b,L⟩,(L.length:Int),((0+1:Nat):Int),⟨false,toI (qh2 ks.cnt [])⟩,())):=by
  unfold l2_e0;simp only;rw[q0h,if_pos (by omega),q0g g1,q00];simp only[hf,q00,qbw];have e1:maxI ((0:Nat):Int) (addI .i64 (lenI ([]:List Int)) 1)=((1:Nat):Int):=rfl;have e2:app ([]:List Int) [(ks.cnt:Int)]=toI (ks.cnt::[]):=rfl;rw[e1,e2,hp];rfl
 obtain⟨nb1,h1⟩:=qzc b L (by omega) ks 1 [] 1 false g2 (by omega) (fun _ h=>by cases h) (by decide) (by decide);have goal1:q0i l2_e0 (0,⟨b,L⟩,lenI L,0,⟨true,[]⟩,())=_:=q0d step;rw[goal1,h1];have e6:max 1 (if ks.cnt=0 then 0 else([]:List Nat).length+1+ks.dep)=ks.dep+1:=by
  by_cases h0:ks.cnt=0
  ·rw[if_pos h0];have:ks.dep=0:=by
    cases ks with
    |nil=>rfl
    |cons _ _ _ _ r=>exact absurd h0 (Nat.succ_ne_zero _)
   omega
  ·rw[if_neg h0,List.length_nil];omega
 rw[e6];refine q09 ?_;unfold l2_e0;simp only;rw[q0h,if_neg (by omega)]
def q4q(n:Int):Bool:=decide (-4611686018427387904<=n/\n<=4611686018427387903)
def rng(n:Int):Prop:=-9223372036854775808<=n/\n<=9223372036854775807
theorem qdq(n:Int):IntKind.i64.wrap n=if n % 18446744073709551616<9223372036854775808 then n % 18446744073709551616 else n % 18446744073709551616-18446744073709551616:=by
 unfold IntKind.wrap;show(if(true&&decide (n % 18446744073709551616>=9223372036854775808))=true then _ else _)=_;rw[Bool.true_and];by_cases h:n % 18446744073709551616<9223372036854775808
 ·rw[if_pos h,if_neg (by simp;omega)];rfl
 ·rw[if_neg h,if_pos (by simp;omega)];rfl
theorem q6m(n:Int):IntKind.u64.wrap n=n % 18446744073709551616:=by unfold IntKind.wrap;show(if(false&&_)=true then _ else _)=_;rw[Bool.false_and,if_neg (by decide)];rfl
theorem qi4(n:Int)(h:rng n):∃v,f_e8 (n,())=some (v,())/\eqI v n=q4q n:=by
 obtain⟨h1,h2⟩:=h;rw[u_e8];have e1:shlI .u64 (cvI .u64 n) 1=some (IntKind.u64.wrap (cvI .u64 n*2)):=by unfold shlI;rw[if_neg (by decide)];rfl
 simp only[e1,q00];have e2:=qyx (a:=cvI .i64 (IntKind.u64.wrap (cvI .u64 n*2))) 1 (by decide);have e3:((1:Nat):Int)=1:=rfl;rw[e3] at e2;rw[e2];refine⟨_,rfl,?_⟩;unfold cvI;rw[qdq,q6m,q6m];rw[Bool.eq_iff_iff,eqI_eq];unfold q4q;rw[decide_eq_true_eq];show(ite _ _ _) / 2=n↔_;split<;>omega
def q2o(k:Int):Int:=bif eqI k 1||eqI k 6||eqI k 9||eqI k 10||eqI k 11||eqI k 21||eqI k 23 then 0 else bif eqI k 3||eqI k 5||eqI k 7||eqI k 8||eqI k 12||eqI k 22 then 1 else bif eqI k 4||eqI k 24 then 2 else bif eqI k 2 then 3 else -1
def q5k(k c:Int):Bool:=bif eqI k 5||eqI k 11 then eqI c 1 else bif eqI k 6||eqI k 7||eqI k 8||eqI k 12 then eqI c 2 else bif eqI k 9 then eqI c 3 else bif eqI k 10 then leI 3 c&&eqI (c % 2) 1 else bif eqI k 24 then true else eqI c 0
def q39(k:Int):Bool:=leI 21 k&&leI k 24
def q6z(k:Int)(t:List Int)(hk:Int):Int:=bif eqI k 8&&notB (eqI hk 5) then 61 else bif eqI (q2o k) 1&&notB (nameOk t) then 62 else bif eqI (q2o k) 2&&notB (q8d t) then 62 else 0
def q6f(k:Int)(t:List Int)(hk:Int):Int:=bif eqI (q2o k) 0 then(bif eqS t [] then q6z k t hk else 61) else bif eqI (q2o k) 3 then(bif ltI 200 (lenI t) then 61 else q6z k t hk) else q6z k t hk
def q1o(k:Int)(t:List Int)(n c hk:Int)(pat:Bool):Int:=
 bif ltI (q2o k) 0 then 61 else bif notB (eqB (q39 k) pat) then 61 else bif notB (q5k k c) then 61 else
 bif eqI k 1||eqI k 23 then(bif q4q n then q6f k t hk else 61) else(bif eqI n 0 then q6f k t hk else 61)
def qq1:List Int:=[1,2,3,4,5,6,7,8,9,10,11,12,21,22,23,24]
theorem q9d{P:Int->Prop}(h1:P 1)(h2:P 2)(h3:P 3)(h4:P 4)(h5:P 5)(h6:P 6)(h7:P 7)(h8:P 8)(h9:P 9)(he:P 10)(hf:P 11)(hg:P 12)(hj:P 21)(hk:P 22)(hl:P 23)(hm:P 24)(ho:∀a,(∀c,c∈qq1->eqI a c=false)->P a):∀a,P a:=by
 intro a;by_cases e1:a=1
 ·rw[e1];exact h1
 by_cases e2:a=2
 ·rw[e2];exact h2
 by_cases e3:a=3
 ·rw[e3];exact h3
 by_cases e4:a=4
 ·rw[e4];exact h4
 by_cases e5:a=5
 ·rw[e5];exact h5
 by_cases e6:a=6
 ·rw[e6];exact h6
 by_cases e7:a=7
 ·rw[e7];exact h7
 by_cases e8:a=8
 ·rw[e8];exact h8
 by_cases e9:a=9
 ·rw[e9];exact h9
 by_cases e10:a=10
 ·rw[e10];exact he
 by_cases e11:a=11
 ·rw[e11];exact hf
 by_cases e12:a=12
 ·rw[e12];exact hg
 by_cases e21:a=21
 ·rw[e21];exact hj
 by_cases e22:a=22
 ·rw[e22];exact hk
 by_cases e23:a=23
 ·rw[e23];exact hl
 by_cases e24:a=24
 ·rw[e24];exact hm
 refine ho a fun c hc=>q1j ?_;rintro rfl;simp only[qq1,zn,List.not_mem_nil,or_false] at hc;omega
theorem q0s(a:Int):f_dy (a,())=some (q39 a,()):=by rw[u_dy,q8x];rfl
def F.head:F->Int
 |.nil=>0
 |.cons k _ _ _ _=>k
theorem behind{l:List ND}{k:Nat}{ks:F}{kd:Int}(hk:k<=1000000)(hs:Sits l (k+1) ks)(hn:kd=8->ks.cnt≠0):(cnd (eqI kd 8) (bnd (at? l (addI .i64 (k:Int) 1)) fun x=>some (notB (eqI x.1 5))) (some false):Option Bool)=some (eqI kd 8&&notB (eqI ks.head 5)):=by
 cases h:eqI kd 8 with
 |false=>rfl
 |true=>
  have h8:=eqI_eq.1 h;cases ks with
  |nil=>exact absurd rfl (hn h8)
  |cons x t n ks r=>rw[q04,add1 (by omega),q0g hs.node.1];rfl
theorem q1e(a c:Int):f_dv (a,c,())=some (eqI a c,()):=u_dv a c
theorem all_ok(a:Int):f_dt (a,())=some (true,()):=u_dt a
theorem z4j(a:Int)(h:0<=a):f_ds (a,())=some (leI 3 a&&eqI (a % 2) 1,()):=by rw[u_ds,qbj h (by decide)];cases leI 3 a<;>rfl
theorem z4k:f_dr (1,())=some (true,false,2,0,0,0,true,()):=by kernel_rfl
theorem z4l:f_dr (2,())=some (false,true,2,0,0,0,true,()):=by kernel_rfl
theorem z4m:f_dr (3,())=some (false,false,0,0,0,0,true,()):=by kernel_rfl
theorem z4n:f_dr (4,())=some (false,false,1,0,0,0,true,()):=by kernel_rfl
theorem z4o:f_dr (5,())=some (false,false,0,0,0,1,true,()):=by kernel_rfl
theorem z4p:f_dr (6,())=some (false,false,2,0,0,2,true,()):=by kernel_rfl
theorem z4q:f_dr (7,())=some (false,false,0,0,0,2,true,()):=by kernel_rfl
theorem z4r:f_dr (8,())=some (false,false,0,0,0,2,true,()):=by kernel_rfl
theorem z4s:f_dr (9,())=some (false,false,2,0,0,3,true,()):=by kernel_rfl
theorem z2r:f_dr (10,())=some (false,false,2,0,1,0,true,()):=by kernel_rfl
theorem z2s:f_dr (11,())=some (false,false,2,0,0,1,true,()):=by kernel_rfl
theorem z2t:f_dr (12,())=some (false,false,0,0,0,2,true,()):=by kernel_rfl
theorem z2u:f_dr (21,())=some (false,false,2,0,0,0,true,()):=by kernel_rfl
theorem z2v:f_dr (22,())=some (false,false,0,0,0,0,true,()):=by kernel_rfl
theorem z2w:f_dr (23,())=some (true,false,2,0,0,0,true,()):=by kernel_rfl
theorem z2x:f_dr (24,())=some (false,false,1,0,2,0,true,()):=by kernel_rfl
theorem qrz(a:Int)(h:∀c,c∈qq1->eqI a c=false):f_dr (a,())=some (false,false,2,0,3,0,false,()):=by have i1:eqI a 1=false:=h 1 (by decide);have i2:eqI a 2=false:=h 2 (by decide);have i3:eqI a 3=false:=h 3 (by decide);have i4:eqI a 4=false:=h 4 (by decide);have i5:eqI a 5=false:=h 5 (by decide);have i6:eqI a 6=false:=h 6 (by decide);have i7:eqI a 7=false:=h 7 (by decide);have i8:eqI a 8=false:=h 8 (by decide);have i9:eqI a 9=false:=h 9 (by decide);have i10:eqI a 10=false:=h 10 (by decide);have i11:eqI a 11=false:=h 11 (by decide);have i12:eqI a 12=false:=h 12 (by decide);have i21:eqI a 21=false:=h 21 (by decide);have i22:eqI a 22=false:=h 22 (by decide);have i23:eqI a 23=false:=h 23 (by decide);have i24:eqI a 24=false:=h 24 (by decide);rw[u_dr];simp only[i1,i2,i3,i4,i5,i6,i7,i8,i9,i10,i11,i12,i21,i22,i23,i24,q01,q00]
theorem e00:eqI 0 0=true:=id (Eq.refl true)
theorem e01:eqI 0 1=false:=id (Eq.refl false)
theorem e02:eqI 0 2=false:=id (Eq.refl false)
theorem e10:eqI 1 0=false:=id (Eq.refl false)
theorem e11:eqI 1 1=true:=id (Eq.refl true)
theorem e12:eqI 1 2=false:=id (Eq.refl false)
theorem e20:eqI 2 0=false:=id (Eq.refl false)
theorem e21:eqI 2 1=false:=id (Eq.refl false)
theorem e22:eqI 2 2=true:=id (Eq.refl true)
theorem nT:notB true=false:=id (Eq.refl false)
theorem nF:notB false=true:=id (Eq.refl true)
theorem qvt(b:Bool)(l:List ND)(hl:l.length<=10000){k:Nat}{t:List Int}{n:Int}{ks:F}(pat:Bool)(ht:∀b,b∈t->0<=b/\b<=255)(hr:rng n):∀kd:Int,Sits l k (tr kd t n ks)->f_dx (⟨b,l⟩,(k:Int),pat,())=some (q1o kd t n (ks.cnt:Int) ks.head pat,()):=by
 obtain⟨v,w1,w2⟩:=qi4 n hr;have hc:=qvr ht;have he:=qz7 ht;have hf:=z4j (ks.cnt:Int) (Int.natCast_nonneg _);refine q9d ?k1 ?k2 ?k3 ?k4 ?k5 ?k6 ?k7 ?k8 ?k9 ?k10 ?k11 ?k12 ?k21 ?k22 ?k23 ?k24 (fun a h hs=>?_)
 case k1=>
  intro h;obtain⟨g1,g2,g3,g4⟩:=h.node;rw[u_dx,q0g g1,q00,z4k,q00];have e8:eqI 1 8=false:=rfl;have ep:q39 1=false:=rfl;simp only[q0s,ep,nT,nF,q04,q01,q00,e00,e01,e02,e20,e21,e22,q1e,all_ok,hf,w1,w2,hc,he,e8];have hE:q1o 1 t n (ks.cnt:Int) ks.head pat=bif notB (eqB false pat) then 61 else bif notB (eqI (ks.cnt:Int) 0) then 61 else bif q4q n then(bif eqS t [] then 0 else 61) else 61:=by have kk:q5k 1 (ks.cnt:Int)=eqI (ks.cnt:Int) 0:=rfl;unfold q1o q6f q6z;rw[kk];cases pat<;>cases eqI (ks.cnt:Int) 0<;>cases q4q n<;>cases eqS t []<;>rfl
  rw[hE];cases pat<;>cases a1:eqI (ks.cnt:Int) 0<;>cases a2:q4q n<;>cases a3:eqS t []<;>simp only[nT,nF,q04,q01,q00,e20,e21,e22,hc,he,eqB,e8,BEq.rfl,Bool.false_beq,Bool.not_true,cond_true,cond_false,a3]<;>rfl
 case k2=>
  intro h;obtain⟨g1,g2,g3,g4⟩:=h.node;rw[u_dx,q0g g1,q00,z4l,q00];have e8:eqI 2 8=false:=rfl;have ep:q39 2=false:=rfl;simp only[q0s,ep,nT,nF,q04,q01,q00,e00,e01,e02,e22,q1e,all_ok,hf,w1,w2];have hE:q1o 2 t n (ks.cnt:Int) ks.head pat=bif notB (eqB false pat) then 61 else bif notB (eqI (ks.cnt:Int) 0) then 61 else bif eqI n 0 then(bif ltI 200 (lenI t) then 61 else 0) else 61:=by have kk:q5k 2 (ks.cnt:Int)=eqI (ks.cnt:Int) 0:=rfl;unfold q1o q6f q6z;rw[kk];cases pat<;>cases eqI (ks.cnt:Int) 0<;>cases eqI n 0<;>cases ltI 200 (lenI t)<;>rfl
  rw[hE];cases pat<;>cases a1:eqI (ks.cnt:Int) 0<;>cases a2:eqI n 0<;>cases a3:ltI 200 (lenI t)<;>simp only[nT,nF,q04,q01,q00,e20,e21,e22,hc,he,eqB,e8,BEq.rfl,Bool.false_beq,Bool.not_true,cond_true,cond_false]<;>rfl
 case k3=>
  intro h;obtain⟨g1,g2,g3,g4⟩:=h.node;rw[u_dx,q0g g1,q00,z4m,q00];have e8:eqI 3 8=false:=rfl;have ep:q39 3=false:=rfl;simp only[q0s,ep,nT,nF,q04,q01,q00,e00,e01,e02,q1e,all_ok,hf,w1,w2,hc,he,e8];have hE:q1o 3 t n (ks.cnt:Int) ks.head pat=bif notB (eqB false pat) then 61 else bif notB (eqI (ks.cnt:Int) 0) then 61 else bif eqI n 0 then(bif nameOk t then 0 else 62) else 61:=by have kk:q5k 3 (ks.cnt:Int)=eqI (ks.cnt:Int) 0:=rfl;unfold q1o q6f q6z;rw[kk];cases pat<;>cases eqI (ks.cnt:Int) 0<;>cases eqI n 0<;>cases nameOk t<;>rfl
  rw[hE];cases pat<;>cases a1:eqI (ks.cnt:Int) 0<;>cases a2:eqI n 0<;>cases a3:nameOk t<;>simp only[nT,nF,q04,q01,q00,eqB,BEq.rfl,Bool.false_beq,Bool.not_true,cond_true,cond_false]<;>rfl
 case k4=>
  intro h;obtain⟨g1,g2,g3,g4⟩:=h.node;rw[u_dx,q0g g1,q00,z4n,q00];have e8:eqI 4 8=false:=rfl;have ep:q39 4=false:=rfl;simp only[q0s,ep,nT,nF,q04,q01,q00,e00,e01,e02,e10,e11,e12,q1e,all_ok,hf,w1,w2,hc,he,e8];have hE:q1o 4 t n (ks.cnt:Int) ks.head pat=bif notB (eqB false pat) then 61 else bif notB (eqI (ks.cnt:Int) 0) then 61 else bif eqI n 0 then(bif q8d t then 0 else 62) else 61:=by have kk:q5k 4 (ks.cnt:Int)=eqI (ks.cnt:Int) 0:=rfl;unfold q1o q6f q6z;rw[kk];cases pat<;>cases eqI (ks.cnt:Int) 0<;>cases eqI n 0<;>cases q8d t<;>rfl
  rw[hE];cases pat<;>cases a1:eqI (ks.cnt:Int) 0<;>cases a2:eqI n 0<;>cases a3:q8d t<;>simp only[nT,nF,q04,q01,q00,eqB,BEq.rfl,Bool.false_beq,Bool.not_true,cond_true,cond_false]<;>rfl
 case k5=>
  intro h;obtain⟨g1,g2,g3,g4⟩:=h.node;rw[u_dx,q0g g1,q00,z4o,q00];have e8:eqI 5 8=false:=rfl;have ep:q39 5=false:=rfl;simp only[q0s,ep,nT,nF,q04,q01,q00,e00,e01,e02,q1e,all_ok,hf,w1,w2,hc,he,e8];have hE:q1o 5 t n (ks.cnt:Int) ks.head pat=bif notB (eqB false pat) then 61 else bif notB (eqI (ks.cnt:Int) 1) then 61 else bif eqI n 0 then(bif nameOk t then 0 else 62) else 61:=by have kk:q5k 5 (ks.cnt:Int)=eqI (ks.cnt:Int) 1:=rfl;unfold q1o q6f q6z;rw[kk];cases pat<;>cases eqI (ks.cnt:Int) 1<;>cases eqI n 0<;>cases nameOk t<;>rfl
  rw[hE];cases pat<;>cases a1:eqI (ks.cnt:Int) 1<;>cases a2:eqI n 0<;>cases a3:nameOk t<;>simp only[nT,nF,q04,q01,q00,eqB,BEq.rfl,Bool.false_beq,Bool.not_true,cond_true,cond_false]<;>rfl
 case k6=>
  intro h;obtain⟨g1,g2,g3,g4⟩:=h.node;rw[u_dx,q0g g1,q00,z4p,q00];have e8:eqI 6 8=false:=rfl;have ep:q39 6=false:=rfl;simp only[q0s,ep,nT,nF,q04,q01,q00,e00,e01,e02,e20,e21,e22,q1e,all_ok,hf,w1,w2,hc,he,e8];have hE:q1o 6 t n (ks.cnt:Int) ks.head pat=bif notB (eqB false pat) then 61 else bif notB (eqI (ks.cnt:Int) 2) then 61 else bif eqI n 0 then(bif eqS t [] then 0 else 61) else 61:=by have kk:q5k 6 (ks.cnt:Int)=eqI (ks.cnt:Int) 2:=rfl;unfold q1o q6f q6z;rw[kk];cases pat<;>cases eqI (ks.cnt:Int) 2<;>cases eqI n 0<;>cases eqS t []<;>rfl
  rw[hE];cases pat<;>cases a1:eqI (ks.cnt:Int) 2<;>cases a2:eqI n 0<;>cases a3:eqS t []<;>simp only[nT,nF,q04,q01,q00,eqB,BEq.rfl,Bool.false_beq,Bool.not_true,cond_true,cond_false]<;>rfl
 case k7=>
  intro h;obtain⟨g1,g2,g3,g4⟩:=h.node;rw[u_dx,q0g g1,q00,z4q,q00];have e8:eqI 7 8=false:=rfl;have ep:q39 7=false:=rfl;simp only[q0s,ep,nT,nF,q04,q01,q00,e00,e01,e02,q1e,all_ok,hf,w1,w2,hc,he,e8];have hE:q1o 7 t n (ks.cnt:Int) ks.head pat=bif notB (eqB false pat) then 61 else bif notB (eqI (ks.cnt:Int) 2) then 61 else bif eqI n 0 then(bif nameOk t then 0 else 62) else 61:=by have kk:q5k 7 (ks.cnt:Int)=eqI (ks.cnt:Int) 2:=rfl;unfold q1o q6f q6z;rw[kk];cases pat<;>cases eqI (ks.cnt:Int) 2<;>cases eqI n 0<;>cases nameOk t<;>rfl
  rw[hE];cases pat<;>cases a1:eqI (ks.cnt:Int) 2<;>cases a2:eqI n 0<;>cases a3:nameOk t<;>simp only[nT,nF,q04,q01,q00,eqB,BEq.rfl,Bool.false_beq,Bool.not_true,cond_true,cond_false]<;>rfl
 case k8=>
  intro h;obtain⟨g1,g2,g3,g4⟩:=h.node;rw[u_dx,q0g g1,q00,z4r,q00];have e8:eqI 8 8=true:=rfl;have ep:q39 8=false:=rfl;simp only[q0s,ep,nT,nF,q04,q01,q00,e00,e01,e02,q1e,all_ok,hf,w1,w2,hc,he];have hE:q1o 8 t n (ks.cnt:Int) ks.head pat=bif notB (eqB false pat) then 61 else bif notB (eqI (ks.cnt:Int) 2) then 61 else bif eqI n 0 then(bif eqI ks.head 5 then(bif nameOk t then 0 else 62) else 61) else 61:=by have kk:q5k 8 (ks.cnt:Int)=eqI (ks.cnt:Int) 2:=rfl;unfold q1o q6f q6z;rw[kk];cases pat<;>cases eqI (ks.cnt:Int) 2<;>cases eqI n 0<;>cases nameOk t<;>cases eqI ks.head 5<;>rfl
  rw[hE];cases h2:eqI (ks.cnt:Int) 2 with
  |false=>cases pat<;>rfl
  |true=>have hb:=behind (kd:=8) (l:=l) (k:=k) (ks:=ks) (by omega) g2 (fun _ h0=>by have:=eqI_eq.1 h2;omega);rw[show eqI 8 8=true from rfl,q04] at hb;have hg:bnd (at? l (addI .i64 (k:Int) 1)) (fun x=>some (notB (eqI x.1 5)))=some (notB (eqI ks.head 5)):=hb;cases pat<;>cases a1:eqI n 0<;>cases a2:eqI ks.head 5<;>cases a3:nameOk t<;>simp only[nT,nF,q04,q01,q00,e8,hg,eqB,Bool.false_beq,beq_self_eq_true,Bool.not_true,a2]<;>rfl
 case k9=>
  intro h;obtain⟨g1,g2,g3,g4⟩:=h.node;rw[u_dx,q0g g1,q00,z4s,q00];have e8:eqI 9 8=false:=rfl;have ep:q39 9=false:=rfl;simp only[q0s,ep,nT,nF,q04,q01,q00,e00,e01,e02,e20,e21,e22,q1e,all_ok,hf,w1,w2,hc,he,e8];have hE:q1o 9 t n (ks.cnt:Int) ks.head pat=bif notB (eqB false pat) then 61 else bif notB (eqI (ks.cnt:Int) 3) then 61 else bif eqI n 0 then(bif eqS t [] then 0 else 61) else 61:=by have kk:q5k 9 (ks.cnt:Int)=eqI (ks.cnt:Int) 3:=rfl;unfold q1o q6f q6z;rw[kk];cases pat<;>cases eqI (ks.cnt:Int) 3<;>cases eqI n 0<;>cases eqS t []<;>rfl
  rw[hE];cases pat<;>cases a1:eqI (ks.cnt:Int) 3<;>cases a2:eqI n 0<;>cases a3:eqS t []<;>simp only[nT,nF,q04,q01,q00,eqB,BEq.rfl,Bool.false_beq,Bool.not_true,cond_true,cond_false]<;>rfl
 case k10=>
  intro h;obtain⟨g1,g2,g3,g4⟩:=h.node;rw[u_dx,q0g g1,q00,z2r,q00];have e8:eqI 10 8=false:=rfl;have ep:q39 10=false:=rfl;simp only[q0s,ep,nT,nF,q04,q01,q00,e10,e11,e12,e20,e21,e22,q1e,all_ok,hf,w1,w2,hc,he,e8];have hE:q1o 10 t n (ks.cnt:Int) ks.head pat=bif notB (eqB false pat) then 61 else bif notB ((leI 3 (ks.cnt:Int)&&eqI ((ks.cnt:Int) % 2) 1)) then 61 else bif eqI n 0 then(bif eqS t [] then 0 else 61) else 61:=by have kk:q5k 10 (ks.cnt:Int)=(leI 3 (ks.cnt:Int)&&eqI ((ks.cnt:Int) % 2) 1):=rfl;unfold q1o q6f q6z;rw[kk];cases pat<;>cases leI 3 (ks.cnt:Int)<;>cases eqI ((ks.cnt:Int) % 2) 1<;>cases eqI n 0<;>cases eqS t []<;>rfl
  rw[hE];cases pat<;>cases a1:leI 3 (ks.cnt:Int)<;>cases a2:eqI ((ks.cnt:Int) % 2) 1<;>cases a3:eqI n 0<;>cases a4:eqS t []<;>simp only[nT,nF,q04,q01,q00,eqB,BEq.rfl,Bool.false_beq,Bool.not_true,Bool.true_and,Bool.false_and,cond_true,cond_false]<;>rfl
 case k11=>
  intro h;obtain⟨g1,g2,g3,g4⟩:=h.node;rw[u_dx,q0g g1,q00,z2s,q00];have e8:eqI 11 8=false:=rfl;have ep:q39 11=false:=rfl;simp only[q0s,ep,nT,nF,q04,q01,q00,e00,e01,e02,e20,e21,e22,q1e,all_ok,hf,w1,w2,hc,he,e8];have hE:q1o 11 t n (ks.cnt:Int) ks.head pat=bif notB (eqB false pat) then 61 else bif notB (eqI (ks.cnt:Int) 1) then 61 else bif eqI n 0 then(bif eqS t [] then 0 else 61) else 61:=by have kk:q5k 11 (ks.cnt:Int)=eqI (ks.cnt:Int) 1:=rfl;unfold q1o q6f q6z;rw[kk];cases pat<;>cases eqI (ks.cnt:Int) 1<;>cases eqI n 0<;>cases eqS t []<;>rfl
  rw[hE];cases pat<;>cases a1:eqI (ks.cnt:Int) 1<;>cases a2:eqI n 0<;>cases a3:eqS t []<;>simp only[nT,nF,q04,q01,q00,eqB,BEq.rfl,Bool.false_beq,Bool.not_true,cond_true,cond_false]<;>rfl
 case k12=>
  intro h;obtain⟨g1,g2,g3,g4⟩:=h.node;rw[u_dx,q0g g1,q00,z2t,q00];have e8:eqI 12 8=false:=rfl;have ep:q39 12=false:=rfl;simp only[q0s,ep,nT,nF,q04,q01,q00,e00,e01,e02,q1e,all_ok,hf,w1,w2,hc,he,e8];have hE:q1o 12 t n (ks.cnt:Int) ks.head pat=bif notB (eqB false pat) then 61 else bif notB (eqI (ks.cnt:Int) 2) then 61 else bif eqI n 0 then(bif nameOk t then 0 else 62) else 61:=by have kk:q5k 12 (ks.cnt:Int)=eqI (ks.cnt:Int) 2:=rfl;unfold q1o q6f q6z;rw[kk];cases pat<;>cases eqI (ks.cnt:Int) 2<;>cases eqI n 0<;>cases nameOk t<;>rfl
  rw[hE];cases pat<;>cases a1:eqI (ks.cnt:Int) 2<;>cases a2:eqI n 0<;>cases a3:nameOk t<;>simp only[nT,nF,q04,q01,q00,eqB,BEq.rfl,Bool.false_beq,Bool.not_true,cond_true,cond_false]<;>rfl
 case k21=>
  intro h;obtain⟨g1,g2,g3,g4⟩:=h.node;rw[u_dx,q0g g1,q00,z2u,q00];have e8:eqI 21 8=false:=rfl;have ep:q39 21=true:=rfl;simp only[q0s,ep,nT,nF,q04,q01,q00,e00,e01,e02,e20,e21,e22,q1e,all_ok,hf,w1,w2,hc,he,e8];have hE:q1o 21 t n (ks.cnt:Int) ks.head pat=bif notB (eqB true pat) then 61 else bif notB (eqI (ks.cnt:Int) 0) then 61 else bif eqI n 0 then(bif eqS t [] then 0 else 61) else 61:=by have kk:q5k 21 (ks.cnt:Int)=eqI (ks.cnt:Int) 0:=rfl;unfold q1o q6f q6z;rw[kk];cases pat<;>cases eqI (ks.cnt:Int) 0<;>cases eqI n 0<;>cases eqS t []<;>rfl
  rw[hE];cases pat<;>cases a1:eqI (ks.cnt:Int) 0<;>cases a2:eqI n 0<;>cases a3:eqS t []<;>simp only[nT,nF,q04,q01,q00,eqB,BEq.rfl,cond_true,cond_false]<;>rfl
 case k22=>
  intro h;obtain⟨g1,g2,g3,g4⟩:=h.node;rw[u_dx,q0g g1,q00,z2v,q00];have e8:eqI 22 8=false:=rfl;have ep:q39 22=true:=rfl;simp only[q0s,ep,nT,nF,q04,q01,q00,e00,e01,e02,q1e,all_ok,hf,w1,w2,hc,he,e8];have hE:q1o 22 t n (ks.cnt:Int) ks.head pat=bif notB (eqB true pat) then 61 else bif notB (eqI (ks.cnt:Int) 0) then 61 else bif eqI n 0 then(bif nameOk t then 0 else 62) else 61:=by have kk:q5k 22 (ks.cnt:Int)=eqI (ks.cnt:Int) 0:=rfl;unfold q1o q6f q6z;rw[kk];cases pat<;>cases eqI (ks.cnt:Int) 0<;>cases eqI n 0<;>cases nameOk t<;>rfl
  rw[hE];cases pat<;>cases a1:eqI (ks.cnt:Int) 0<;>cases a2:eqI n 0<;>cases a3:nameOk t<;>simp only[nT,nF,q04,q01,q00,eqB,BEq.rfl,cond_true,cond_false]<;>rfl
 case k23=>
  intro h;obtain⟨g1,g2,g3,g4⟩:=h.node;rw[u_dx,q0g g1,q00,z2w,q00];have e8:eqI 23 8=false:=rfl;have ep:q39 23=true:=rfl;simp only[q0s,ep,nT,nF,q04,q01,q00,e00,e01,e02,e20,e21,e22,q1e,all_ok,hf,w1,w2,hc,he,e8];have hE:q1o 23 t n (ks.cnt:Int) ks.head pat=bif notB (eqB true pat) then 61 else bif notB (eqI (ks.cnt:Int) 0) then 61 else bif q4q n then(bif eqS t [] then 0 else 61) else 61:=by have kk:q5k 23 (ks.cnt:Int)=eqI (ks.cnt:Int) 0:=rfl;unfold q1o q6f q6z;rw[kk];cases pat<;>cases eqI (ks.cnt:Int) 0<;>cases q4q n<;>cases eqS t []<;>rfl
  rw[hE];cases pat<;>cases a1:eqI (ks.cnt:Int) 0<;>cases a2:q4q n<;>cases a3:eqS t []<;>simp only[nT,nF,q04,q01,q00,e20,e21,e22,hc,he,eqB,e8,BEq.rfl,cond_true,cond_false,a3]<;>rfl
 case k24=>
  intro h;obtain⟨g1,g2,g3,g4⟩:=h.node;rw[u_dx,q0g g1,q00,z2x,q00];have e8:eqI 24 8=false:=rfl;have ep:q39 24=true:=rfl;simp only[q0s,ep,nT,nF,q04,q01,q00,e10,e11,e12,e20,e21,e22,q1e,all_ok,hf,w1,w2,hc,he,e8];have hE:q1o 24 t n (ks.cnt:Int) ks.head pat=bif notB (eqB true pat) then 61 else bif notB (true) then 61 else bif eqI n 0 then(bif q8d t then 0 else 62) else 61:=by have kk:q5k 24 (ks.cnt:Int)=true:=rfl;unfold q1o q6f q6z;rw[kk];cases pat<;>cases eqI n 0<;>cases q8d t<;>rfl
  rw[hE];cases pat<;>cases a1:eqI n 0<;>cases a2:q8d t<;>simp only[nT,nF,q04,q01,q00,eqB,BEq.rfl,cond_true,cond_false]<;>rfl
 obtain⟨g1,g2,g3,g4⟩:=hs.node;rw[u_dx,q0g g1,q00,qrz a h,q00];have hE:q1o a t n (ks.cnt:Int) ks.head pat=61:=by
  have hs:q2o a=-1:=by unfold q2o;rw[h 1 (by decide),h 6 (by decide),h 9 (by decide),h 10 (by decide),h 11 (by decide),h 21 (by decide),h 23 (by decide),h 3 (by decide),h 5 (by decide),h 7 (by decide),h 8 (by decide),h 12 (by decide),h 22 (by decide),h 4 (by decide),h 24 (by decide),h 2 (by decide)];rfl
  unfold q1o;rw[hs];rfl
 rw[hE];rfl
def qq2(x:ND):Prop:=(∀b,b∈x.2.1->0<=b/\b<=255)/\x.2.1.length<=1000000/\rng x.2.2.1
def GL(l:List ND):Prop:=∀x,x∈l->qq2 x
theorem GL.at{l:List ND}(h:GL l){k:Nat}{x:ND}(e:l[k]?=some x):qq2 x:=h x (zP e)
def errF:Bool->Bool->Bool->F->Int
 |_,_,_,.nil=>0
 |m,pat,odd,.cons kd t n ks r=>
  bif notB (eqI (q1o kd t n (ks.cnt:Int) ks.head (pat||(m&&odd))) 0) then q1o kd t n (ks.cnt:Int) ks.head (pat||(m&&odd)) else
  bif notB (eqI (errF (eqI kd 10) (pat||(m&&odd)) false ks) 0) then errF (eqI kd 10) (pat||(m&&odd)) false ks else errF m pat (!odd) r
def errT(kd:Int)(t:List Int)(n:Int)(ks:F)(pat:Bool):Int:=bif notB (eqI (q1o kd t n (ks.cnt:Int) ks.head pat) 0) then q1o kd t n (ks.cnt:Int) ks.head pat else errF (eqI kd 10) pat false ks
theorem qq3(m pat odd:Bool):errF m pat odd .nil=0:=id (Eq.refl _)
theorem qg5(m pat odd:Bool)(kd:Int)(t:List Int)(n:Int)(ks r:F):errF m pat odd (.cons kd t n ks r)=bif notB (eqI (errT kd t n ks (pat||(m&&odd))) 0) then errT kd t n ks (pat||(m&&odd)) else errF m pat (!odd) r:=by
 conv=>lhs;unfold errF
 unfold errT;cases h:notB (eqI (q1o kd t n (ks.cnt:Int) ks.head (pat||(m&&odd))) 0) with
 |true=>rw[cond_true,cond_true,h];rfl
 |false=>rw[cond_false,cond_false]
theorem qvu(i:Nat):eqI (((i+1:Nat):Int) % 2) 1=!eqI ((i:Int) % 2) 1:=by
 by_cases h:(i:Int) % 2=1
 ·have h2:((i+1:Nat):Int) % 2=0:=by omega
  rw[h,h2];rfl
 ·have h1:(i:Int) % 2=0:=by omega
  have h2:((i+1:Nat):Int) % 2=1:=by omega
  rw[h1,h2];rfl
def qh3(to:Nat)(e:Int):Int×Int×Unit:=bif eqI e 0 then((to:Int),0,()) else(0,e,())
theorem qzd(b b2:Bool)(l:List ND)(hl:l.length<=10000)(hg:GL l){k:Nat}{kd:Int}{t:List Int}{n:Int}{ks:F}(h:Sits l k (tr kd t n ks)):∀pat N,ks.size+1<=N->recN g_dz N (⟨b,l⟩,(k:Int),pat,⟨b2,l⟩,())=some (qh3 (k+1+ks.size) (errT kd t n ks pat)):=by
 refine F.each_one (l:=l) (P:=fun k kd t n ks=>∀pat N,ks.size+1<=N->recN g_dz N (⟨b,l⟩,(k:Int),pat,⟨b2,l⟩,())=some (qh3 (k+1+ks.size) (errT kd t n ks pat))) ?_ h;clear h k kd t n ks;intro k kd t n ks hs he pat N hN;obtain⟨N,rfl⟩:∃m,N=m+1:=⟨N-1,by omega⟩;show g_dz (recN g_dz N) _=_;obtain⟨g1,g2,g3,g4⟩:=hs.node;obtain⟨q1,q2,q3⟩:=hg.at g1;rw[u_dz,u_do,qvt b2 l hl pat q1 q3 kd hs];simp only[q00];unfold errT;cases hE:notB (eqI (q1o kd t n (ks.cnt:Int) ks.head pat) 0) with
 |true=>
  rw[q04,cond_true];unfold qh3;have:eqI (q1o kd t n (ks.cnt:Int) ks.head pat) 0=false:=by unfold notB at hE;simpa using hE
  rw[this,cond_false]
 |false=>
  rw[q01,cond_false,q0g g1,q00,add1 (by omega)];have loop:∀(g:F) (q i:Nat),g.Each (fun k kd t n ks=>∀pat N,ks.size+1<=N->recN g_dz N (⟨b,l⟩,(k:Int),pat,⟨b2,l⟩,())=some (qh3 (k+1+ks.size) (errT kd t n ks pat))) q->
    g.size<=N->i+g.cnt=ks.cnt->i<=1000000->
    q0i (l1_dz (recN g_dz N)) (⟨b,l⟩,(k:Int),pat,⟨b2,l⟩,(q:Int),(ks.cnt:Int),(i:Int),())=some (qh3 (q+g.size) (errF (eqI kd 10) pat (eqI ((i:Int) % 2) 1) g)):=by
   intro g
   induction g with
   |nil=>intro q i _ _ hi _;have hi:i+0=ks.cnt:=hi;refine q09 ?_;unfold l1_dz;simp only;rw[q0h,if_neg (by omega),qq3];rfl
   |cons kd' t' n' ks' r' _ ih=>
    intro q i hE hz hi hk;have hi:i+(r'.cnt+1)=ks.cnt:=hi;have hz:ks'.size+r'.size+1<=N:=hz;have hc:=ks.cnt_le;have hj:cnd pat (some true) (bnd (at? l (k:Int)) (fun x3=>cnd (eqI x3.1 10) (bnd (remI (i:Int) 2) (fun x4=>some (eqI x4 1))) (some false)))=some (pat||(eqI kd 10&&eqI ((i:Int) % 2) 1)):=by rw[q0g g1,qbj (by omega) (by decide)];simp only[q00];cases pat<;>cases eqI kd 10<;>rfl
    rw[qg5];have hw:=hE.1 (pat||(eqI kd 10&&eqI ((i:Int) % 2) 1)) N (by omega);generalize hv:errT kd' t' n' ks' (pat||(eqI kd 10&&eqI ((i:Int) % 2) 1))=v at*
    have step:l1_dz (recN g_dz N) (⟨b,l⟩,(k:Int),pat,⟨b2,l⟩,(q:Int),(ks.cnt:Int),(i:Int),())=
      bif eqI v 0 then some (.inl (⟨b,l⟩,(k:Int),pat,⟨b2,l⟩,((q+1+ks'.size:Nat):Int),(ks.cnt:Int),((i+1:Nat):Int),())) else some (.inr (0,v,())):=by
     unfold l1_dz;simp only[hj,q00,hw];rw[q0h,if_pos (by omega),add1 (by omega)];unfold qh3;cases hf:eqI v 0 with
     |true=>rfl
     |false=>show cnd (notB (eqI v 0)) _ _=_;rw[hf];rfl
    cases hf:eqI v 0 with
    |true=>
     rw[hf,cond_true] at step;rw[q0d step,ih _ (i+1) hE.2 (by omega) (by omega) (by omega),qvu];have e:q+1+ks'.size+r'.size=q+(F.cons kd' t' n' ks' r').size:=by show _=q+(ks'.size+r'.size+1);omega
     rw[e];rfl
    |false=>rw[hf,cond_false] at step;rw[q09 step];show _=some (qh3 _ v);unfold qh3;rw[hf];rfl
  have hc:=ks.cnt_le;exact loop ks (k+1) 0 he (by omega) (by omega) (by omega)
theorem qvv(b b2:Bool)(l:List ND)(hl:l.length<=10000)(hg:GL l){k:Nat}{kd:Int}{t:List Int}{n:Int}{ks:F}(pat:Bool)(h:Sits l k (tr kd t n ks)):f_dz (⟨b,l⟩,(k:Int),pat,⟨b2,l⟩,())=some (qh3 (k+1+ks.size) (errT kd t n ks pat)):=q6x (ks.size+1) fun N hN=>qzd b b2 l hl hg h pat N hN
abbrev Tx:=List Int
def dupL:List Tx->Bool
 |[]=>false
 |a::r=>decide (a∈r)||dupL r
theorem q9e:∀l:List Tx,dupL l=false↔l.Nodup
 |[]=>by simp[dupL]
 |a::r=>by unfold dupL;rw[List.nodup_cons,<-q9e r,Bool.or_eq_false_iff,decide_eq_false_iff_not]
def q5q(l:List ND):List Tx:=l.filterMap fun x=>if x.1=22 then some x.2.1 else none
theorem qs0(a b:List ND):q5q (a++b)=q5q a++q5q b:=List.filterMap_append ..
theorem qg6(x:ND)(l:List ND):q5q (x::l)=(if x.1=22 then [x.2.1] else [])++q5q l:=by
 show List.filterMap _ (x::l)=_;rw[List.filterMap_cons];by_cases h:x.1=22
 ·rw[if_pos h,if_pos h];rfl
 ·rw[if_neg h,if_neg h];rfl
theorem qs1(l:List ND):(q5q l).length<=l.length:=List.length_filterMap_le _ _
theorem qs2(b:Bool)(l:List ND)(hl:l.length<=10000):∀(m k:Nat) (nb:Bool) (out:List Tx),k+m=l.length->out.length<=k->∃nb',q0i l1_dw (⟨b,l⟩,(l.length:Int),(k:Int),⟨nb,out⟩,())=some (⟨nb',out++q5q (l.drop k)⟩,()):=by
 intro m
 induction m with
 |zero=>intro k nb out hk _;refine⟨nb,q09 ?_⟩;unfold l1_dw;simp only;rw[q0h,if_neg (by omega),zD (by omega)];show _=some (Sum.inr ((⟨nb,out++[]⟩:Sl Tx),()));rw[zo]
 |succ m ih=>
  intro k nb out hk ho;have hc:k<l.length:=by omega
  rw[q17 hc,qg6];have he:=q0g (zj hc);by_cases h:l[k].1=22
  ·have hf:fit (sumI (lenI out) (lenI [l[k].2.1]))=some ():=q1d (by show out.length+1<=_;omega);have step:l1_dw (⟨b,l⟩,(l.length:Int),(k:Int),⟨nb,out⟩,())=some (.inl (⟨b,l⟩,(l.length:Int),((k+1:Nat):Int),⟨false,out++[l[k].2.1]⟩,())):=by unfold l1_dw;simp only;rw[q0h,if_pos (by omega),he,q00,q4d,if_pos h,hf,q00,q00,qbw,add1 (by omega)];rfl
   obtain⟨nb',h'⟩:=ih (k+1) false (out++[l[k].2.1]) (by omega) (by rw[zh,List.length_singleton];omega);refine⟨nb',?_⟩;rw[q0d step,h',if_pos h,zt]
  ·have step:l1_dw (⟨b,l⟩,(l.length:Int),(k:Int),⟨nb,out⟩,())=some (.inl (⟨b,l⟩,(l.length:Int),((k+1:Nat):Int),⟨nb,out⟩,())):=by unfold l1_dw;simp only;rw[q0h,if_pos (by omega),he,q00,q4d,if_neg h,q00,add1 (by omega)]
   obtain⟨nb',h'⟩:=ih (k+1) nb out (by omega) (by omega);refine⟨nb',?_⟩;rw[q0d step,h',if_neg h,List.nil_append]
theorem qs3(b:Bool)(l:List ND)(hl:l.length<=10000):∃nb,f_dw (⟨b,l⟩,())=some (⟨nb,q5q l⟩,()):=by rw[u_dw];exact qs2 b l hl l.length 0 true [] (by omega) (Nat.le_refl _)
def adj:List Tx->Bool
 |[]=>false
 |[_]=>false
 |a::b::r=>decide (a=b)||adj (b::r)
theorem qnw:∀l:List Tx,adj l=true↔∃k,k+1<l.length/\l[k+1]?=l[k]?
 |[]=>by simp[adj]
 |[a]=>by simp[adj]
 |a::b::r=>by
  unfold adj;rw[Bool.or_eq_true,decide_eq_true_eq,qnw (b::r)];constructor
  ·rintro(h|⟨k,h1,h2⟩)
   ·exact⟨0,by simp,by simp[h]⟩
   ·exact⟨k+1,by simpa using h1,by simpa using h2⟩
  ·rintro⟨k,h1,h2⟩;cases k with
   |zero=>left;simpa using h2.symm
   |succ k=>right;exact⟨k,by simpa using h1,by simpa using h2⟩
theorem qq4(a b:Nat):sumI (a:Int) (b:Int)=((a+b:Nat):Int):=by show(a:Int)+(b:Int)=_;omega
theorem qbx{α:Type}{l:List α}{i:Nat}(h:i<l.length):nth l i=some l[i]:=by unfold nth;exact zj h
theorem qs4(k0:Nat)(nb:Bool):∀(m k k2:Nat) (s:List Tx),s.length<=1000000->k0+k2+m=s.length->1<=k2->k+1<=k0+k2->∃c:List Tx,q0i l1_cr ((k:Int),(k0:Int),(k2:Int),⟨nb,s⟩,())=some (.inr (⟨nb,c⟩,()))/\c.length<s.length:=by
 intro m
 induction m with
 |zero=>
  intro k k2 s hs h1 h2 h3;refine⟨(zerL s (k:Int) []).take k,q09 ?_,?_⟩
  ·have e1:lenI (dropL s (k0:Int))=(k2:Int):=by unfold lenI dropL;rw[zR,Int.toNat_natCast];omega
   have ez:(zerL s (k:Int) ([]:Tx)).length=s.length:=by unfold zerL;rw[zh,zN,List.length_replicate,Int.toNat_natCast];omega
   unfold l1_cr;simp only[e1];rw[q0h,if_neg (by omega)];have c1:cutN (lenI s) (k:Int)=some k:=by unfold cutN lenI;rw[if_pos (by omega),Int.toNat_natCast]
   have c2:cutN (lenI (zerL s (k:Int) ([]:Tx))) (k:Int)=some k:=by unfold cutN lenI;rw[if_pos (by omega),Int.toNat_natCast]
   rw[c1,q00,c2,q00];rfl
  ·rw[zN];omega
 |succ m ih=>
  intro k k2 s hs h1 h2 h3;have e1:lenI (dropL s (k0:Int))=((k2+m+1:Nat):Int):=by unfold lenI dropL;rw[zR,Int.toNat_natCast];omega
  have e2:subI .i64 (k2:Int) 1=((k2-1:Nat):Int):=by rw[q3l (by omega) (by omega)];omega
  have l1:leI 0 (k2:Int)=true:=zw (by omega);have l2:leI 0 ((k2-1:Nat):Int)=true:=zw (by omega);have step:∃(k':Nat) (s':List Tx),l1_cr ((k:Int),(k0:Int),(k2:Int),⟨nb,s⟩,())=some (.inl ((k':Int),(k0:Int),((k2+1:Nat):Int),⟨nb,s'⟩,()))/\s'.length=s.length/\k'+1<=k0+(k2+1):=by
   unfold l1_cr;simp only[e1];rw[q0h,if_pos (by omega),e2,l1,l2,q04,q04,qq4,qq4,q3q (by omega),q3q (by omega)];simp only[q00,qbx (show k0+k2<s.length by omega),qbx (show k0+(k2-1)<s.length by omega)];cases eqS s[k0+k2] s[k0+(k2-1)] with
   |true=>refine⟨k,s,?_,rfl,by omega⟩;simp only[notB,Bool.not_true,q01,q00,add1 (show k2<=1000000000 by omega)]
   |false=>refine⟨k+1,s.set k s[k0+k2],?_,by rw[List.length_set],by omega⟩;simp only[notB,Bool.not_false,q04,q00,q3q (show k<s.length by omega),qbx (show k<s.length by omega),add1 (show k2<=1000000000 by omega),add1 (show k<=1000000000 by omega)];rfl
  obtain⟨k',s',h4,h5,h6⟩:=step;obtain⟨c,g1,g2⟩:=ih k' (k2+1) s' (by omega) (by omega) (by omega) h6;exact⟨c,by rw[q0d h4,g1],by omega⟩
theorem qm0(nb:Bool)(s:List Tx)(hs:s.length<=1000000):∀(m k:Nat),k+m=s.length->1<=k->(∀j,j+1<k->s[j+1]?≠s[j]?)->∃c,q0i l2_cr ((k:Int),⟨nb,s⟩,())=some (⟨nb,c⟩,())/\decide (c.length<s.length)=adj s:=by
 intro m
 induction m with
 |zero=>
  intro k h1 h2 h3;refine⟨s,q09 ?_,?_⟩
  ·unfold l2_cr;simp only;rw[q0h,if_neg (by unfold lenI;omega)]
  ·have:adj s=false:=by
    cases h:adj s with
    |false=>rfl
    |true=>obtain⟨j,g1,g2⟩:=(qnw s).1 h;exact absurd g2 (h3 j (by omega))
   rw[this];exact zu (Nat.lt_irrefl _)
 |succ m ih=>
  intro k h1 h2 h3;have e2:subI .i64 (k:Int) 1=((k-1:Nat):Int):=by rw[q3l (by omega) (by omega)];omega
  have hc:cutN (lenI s) (k:Int)=some k:=by unfold cutN lenI;rw[if_pos (by omega),Int.toNat_natCast]
  by_cases he:s[k]=s[k-1]
  ·obtain⟨c,g1,g2⟩:=qs4 k nb m k 1 s hs (by omega) (Nat.le_refl _) (by omega);have g1:q0i l1_cr ((k:Int),(k:Int),1,⟨nb,s⟩,())=some (.inr (⟨nb,c⟩,())):=g1;refine⟨c,q09 ?_,?_⟩
   ·unfold l2_cr;simp only;rw[q0h,if_pos (by unfold lenI;omega),e2,q3q (by omega),q3q (by omega)];simp only[q00,qbx (show k<s.length by omega),qbx (show k-1<s.length by omega),hc];rw[qcx,if_pos he,g1]
   ·have:adj s=true:=(qnw s).2 ⟨k-1,by omega,by rw[show k-1+1=k by omega,zj (by omega),zj (by omega),he]⟩;rw[this];exact zw g2
  ·have step:l2_cr ((k:Int),⟨nb,s⟩,())=some (.inl (((k+1:Nat):Int),⟨nb,s⟩,())):=by unfold l2_cr;simp only;rw[q0h,if_pos (by unfold lenI;omega),e2,q3q (by omega),q3q (by omega)];simp only[q00,qbx (show k<s.length by omega),qbx (show k-1<s.length by omega)];rw[qcx,if_neg he,add1 (by omega)]
   obtain⟨c,g1,g2⟩:=ih (k+1) (by omega) (by omega) (fun j hj=>by
    by_cases hf:j+1=k
    ·have:j=k-1:=by omega
     subst this;rw[show k-1+1=k by omega,zj (by omega),zj (by omega)];exact fun e=>he (zF e)
    ·exact h3 j (by omega))
   exact⟨c,by rw[q0d step,g1],g2⟩
theorem qm1(nb:Bool)(s:List Tx)(hs:s.length<=1000000):∃c,f_cr (⟨nb,s⟩,())=some (⟨nb,c⟩,())/\decide (c.length<s.length)=adj s:=by
 rw[u_cr,q0h];by_cases h:lenI s<2
 ·rw[if_pos h];refine⟨s,rfl,?_⟩;have:adj s=false:=by
   have h:(s.length:Int)<2:=h
   match s,h with
   |[],_=>rfl
   |[a],_=>rfl
   |a::b::r,h=>simp at h;omega
  rw[this];exact zu (Nat.lt_irrefl _)
 ·rw[if_neg h];have h:¬(s.length:Int)<2:=h;exact qm0 nb s hs (s.length-1) 1 (by omega) (Nat.le_refl _) (fun j hj=>by omega)
theorem qi5:∀l:List Tx,(l.Pairwise fun a b=>(!strLt b a)=true)->adj l=dupL l
 |[],_=>rfl
 |[a],_=>by simp[adj,dupL]
 |a::b::r,h=>by
  have ih:=qi5 (b::r) (List.pairwise_cons.1 h).2;unfold adj;rw[ih]
  conv=>rhs;unfold dupL
  by_cases hc:a=b
  ·simp[hc]
  ·have hm:a∉b::r:=by
    intro hm;rcases zn.1 hm with e|e
    ·exact hc e
    ·have h1:=(List.pairwise_cons.1 h).1 b (ze ..);have h2:=(List.pairwise_cons.1 (List.pairwise_cons.1 h).2).1 a e;simp only[Bool.not_eq_true'] at h1 h2;exact hc (qae _ _ h2 h1)
   rw[zu hc,zu hm]
theorem qze{a b:List Tx}(h:a.Perm b):dupL a=dupL b:=by have:=h.nodup_iff;rw[<-q9e,<-q9e] at this;cases ha:dupL a<;>cases hb:dupL b<;>simp_all
theorem z4t(nb:Bool)(s:List Tx)(hs:s.length<=1000000)(hg:∀x,x∈s->qcy x=true):∃c nb',bnd (f_d0 (⟨nb,s⟩,())) (fun x=>f_cr (x.1,()))=some (⟨nb',c⟩,())/\decide (c.length<s.length)=dupL s:=by
 have e:f_d0 (⟨nb,s⟩,())=some (⟨nb,s.mergeSort fun a b=>!strLt b a⟩,()):=by show(bif s.all qcy&&decide (s.length<4611686018427387904) then _ else none)=_;rw[zS.2 hg,zw (show s.length<4611686018427387904 by omega)];rfl
 have hc:(s.mergeSort fun a b=>!strLt b a).length=s.length:=List.length_mergeSort _;obtain⟨c,h1,h2⟩:=qm1 nb (s.mergeSort fun a b=>!strLt b a) (by omega);rw[e,q00];refine⟨c,nb,h1,?_⟩;rw[<-hc,h2,qi5,qze (List.mergeSort_perm _ _)];refine List.pairwise_mergeSort (fun a b c h1 h2=>?_) (fun a b=>?_) _
 ·simp only[Bool.not_eq_true'] at h1 h2 ⊢;cases h3:strLt c a with
  |false=>rfl
  |true=>
   cases h4:strLt b c with
   |true=>rw[qad _ _ _ h4 h3] at h1;cases h1
   |false=>have e:=qae _ _ h2 h4;subst e;rw[h1] at h3;cases h3
 ·cases h3:strLt b a with
  |false=>rfl
  |true=>
   cases h4:strLt a b with
   |false=>rfl
   |true=>have:=qad _ _ _ h3 h4;rw[qdo] at this;cases this
theorem Sits.flat_eq{l:List ND}{k:Nat}{f:F}(h:Sits l k f):(l.drop k).take f.size=f.flat:=by obtain⟨post,h⟩:=h;rw[h,<-f.len,List.take_left'];rfl
theorem qzf{α:Type}(a c:List α)(h:a.length=c.length):ovl a c=c:=by unfold ovl;rw[h,List.take_length,<-h,List.drop_length,zo]
theorem qzg(b:Bool)(l:List ND)(hl:l.length<=10000){k:Nat}{kd:Int}{t:List Int}{n:Int}{ks r:F}(h:Sits l k (.cons kd t n ks r)):f_e4 (⟨b,l⟩,(k:Int),())=some (⟨false,(tr kd t n ks).flat⟩,0,()):=by
 obtain⟨g1,g2,g3,g4⟩:=h.node;rw[u_e4,q9b b l hl,h.ends];have hs:subI .i64 ((k+1+ks.size:Nat):Int) (k:Int)=((ks.size+1:Nat):Int):=by rw[q3l (by omega) (by omega)];omega
 have hm:mkN ((ks.size+1:Nat):Int) ((ks.size+1:Nat):Int)=some (ks.size+1):=by unfold mkN;rw[if_pos (by omega),Int.toNat_natCast]
 have hc:cutL l (k:Int) ((k+1+ks.size:Nat):Int)=some ((l.take (k+1+ks.size)).drop k):=by unfold cutL;rw[if_pos (by omega),Int.toNat_natCast,Int.toNat_natCast]
 have hd:(l.take (k+1+ks.size)).drop k=(tr kd t n ks).flat:=by rw[List.drop_take,show k+1+ks.size-k=(tr kd t n ks).size by rw[q49];omega];exact h.first.flat_eq
 simp only[q00];rw[q0h,if_neg (by omega)];simp only[hs,hm,q00,hc,hd];rw[qzf];rw[(tr kd t n ks).len,q49];exact List.length_replicate
theorem GL.sub{l:List ND}(hg:GL l){k:Nat}{f:F}(h:Sits l k f):GL f.flat:=by intro x hx;rw[<-h.flat_eq] at hx;exact hg x (List.mem_of_mem_drop (List.mem_of_mem_take hx))
theorem qs5{l:List ND}(hg:GL l):∀x,x∈q5q l->qcy x=true:=by
 intro x hx;obtain⟨d,h1,h2⟩:=List.mem_filterMap.1 hx;by_cases h:d.1=22
 ·rw[if_pos h] at h2;injection h2 with h2;subst h2;obtain⟨g1,g2,_⟩:=hg d h1;unfold qcy;rw[zd,zS,decide_eq_true_eq];exact⟨fun b hb=>zw (g1 b hb),by omega⟩
 ·rw[if_neg h] at h2;cases h2
theorem qnx(b:Bool)(l:List ND)(hl:l.length<=10000)(hg:GL l){k:Nat}{kd:Int}{t:List Int}{n:Int}{ks r:F}(h:Sits l k (.cons kd t n ks r)):f_dp ((k:Int),⟨b,l⟩,())=some (dupL (q5q (tr kd t n ks).flat),()):=by
 obtain⟨g1,g2,g3,g4⟩:=h.node;rw[u_dp,qzg b l hl h];simp only[q00];have hc:(tr kd t n ks).flat.length<=10000:=by rw[(tr kd t n ks).len,q49];omega
 obtain⟨nb,h1⟩:=qs3 false (tr kd t n ks).flat hc;have hn:=qs1 (tr kd t n ks).flat
 obtain⟨c,nb',h2,h3⟩:=z4t nb (q5q (tr kd t n ks).flat) (by omega) (qs5 (hg.sub h.first));have h4:f_dq (⟨false,(tr kd t n ks).flat⟩,())=some (lenI (q5q (tr kd t n ks).flat),()):=by rw[u_dq,h1];rfl
 rw[h1];simp only[q00,h4];cases hs:f_d0 (⟨nb,q5q (tr kd t n ks).flat⟩,()) with
 |none=>rw[hs] at h2;cases h2
 |some x=>rw[hs,q00] at h2;simp only[q00,h2];rw[<-h3];congr 2;exact decide_eq_decide.2 (by unfold lenI;omega)
def qg7:F->List Tx
 |.nil=>[]
 |.cons kd t _ ks r=>(bif eqI kd 22 then [t] else qg7 ks)++qg7 r
def q70(kd:Int)(t:Tx)(ks:F):List Tx:=bif eqI kd 22 then [t] else qg7 ks
theorem q7i(kd:Int)(t:Tx)(n:Int)(ks r:F):qg7 (.cons kd t n ks r)=q70 kd t ks++qg7 r:=id (Eq.refl _)
theorem qby:∀f:F,(qg7 f).length<=f.size
 |.nil=>Nat.le_refl _
 |.cons kd t n ks r=>by
  have h1:=qby ks;have h2:=qby r;rw[q7i,zh];show _<=ks.size+r.size+1;unfold q70;cases eqI kd 22 with
  |true=>show 1+_<=_;omega
  |false=>show(qg7 ks).length+_<=_;omega
def twF:F->Bool
 |.nil=>false
 |.cons kd t _ ks r=>(bif q39 kd then dupL (q70 kd t ks) else twF ks)||twF r
def twT(kd:Int)(t:Tx)(ks:F):Bool:=bif q39 kd then dupL (q70 kd t ks) else twF ks
theorem qjm(kd:Int)(t:Tx)(n:Int)(ks r:F):twF (.cons kd t n ks r)=(twT kd t ks||twF r):=id (Eq.refl _)
theorem qi6{a b:Int}:(bif notB (eqI a 0) then a else b)=0↔a=0/\b=0:=by
 cases h:eqI a 0 with
 |true=>have:=eqI_eq.1 h;rw[nT,cond_false];exact⟨fun e=>⟨this,e⟩,fun e=>e.2⟩
 |false=>
  have hn:a≠0:=fun e=>by rw[e] at h;cases h
  rw[nF,cond_true];exact⟨fun e=>absurd e hn,fun e=>absurd e.1 hn⟩
theorem errT_ok{kd:Int}{t:Tx}{n:Int}{ks:F}{pat:Bool}:errT kd t n ks pat=0↔q1o kd t n (ks.cnt:Int) ks.head pat=0/\errF (eqI kd 10) pat false ks=0:=qi6
theorem errF_ok{m pat odd:Bool}{kd:Int}{t:Tx}{n:Int}{ks r:F}:errF m pat odd (.cons kd t n ks r)=0↔errT kd t n ks (pat||(m&&odd))=0/\errF m pat (!odd) r=0:=by rw[qg5];exact qi6
def qzh(k n:Int):Bool:=bif eqI k 1||eqI k 23 then q4q n else eqI n 0
def qbz(k:Int)(t:Tx):Bool:=(bif eqI (q2o k) 0 then eqS t [] else bif eqI (q2o k) 3 then notB (ltI 200 (lenI t)) else true)&&notB (eqI (q2o k) 1&&notB (nameOk t))&&notB (eqI (q2o k) 2&&notB (q8d t))
def z2y(k hk:Int):Bool:=notB (eqI k 8&&notB (eqI hk 5))
theorem qs6(k:Int)(t:Tx)(hk:Int):q6f k t hk=0↔qbz k t=true/\z2y k hk=true:=by unfold q6f q6z qbz z2y;generalize (eqI k 8&&notB (eqI hk 5))=T;generalize eqI (q2o k) 0=s0;generalize eqI (q2o k) 1=s1;generalize eqI (q2o k) 2=s2;generalize eqI (q2o k) 3=s3;generalize eqS t []=a;generalize ltI 200 (lenI t)=c;generalize nameOk t=d;generalize q8d t=e;revert T s0 s1 s2 s3 a c d e;decide
theorem nodeE_zero{k:Int}{t:Tx}{n c hk:Int}{pat:Bool}:q1o k t n c hk pat=0↔ltI (q2o k) 0=false/\q39 k=pat/\q5k k c=true/\qzh k n=true/\qbz k t=true/\z2y k hk=true:=by
 rw[<-qs6];have e:q1o k t n c hk pat=bif ltI (q2o k) 0 then 61 else bif notB (eqB (q39 k) pat) then 61 else bif notB (q5k k c) then 61 else bif qzh k n then q6f k t hk else 61:=by unfold q1o qzh;cases (eqI k 1||eqI k 23)<;>rfl
 rw[e];cases ltI (q2o k) 0 with
 |true=>simp
 |false=>
  have hp:eqB (q39 k) pat=true↔q39 k=pat:=by cases q39 k<;>cases pat<;>decide
  cases h1:eqB (q39 k) pat with
  |false=>
   have:q39 k≠pat:=fun e=>by rw[hp.2 e] at h1;cases h1
   simp[nF,this]
  |true=>
   rw[nT,cond_false,cond_false];have:=hp.1 h1;cases q5k k c with
   |false=>simp[nF]
   |true=>
    rw[nT,cond_false];cases qzh k n with
    |false=>simp
    |true=>simp[this]
theorem qd6{k c:Int}(h:q5k k c=true):(k=5\/k=11->c=1)/\(k=6\/k=7\/k=8\/k=12->c=2)/\(k=9->c=3)/\(k=10->3<=c/\c % 2=1)/\(k=1\/k=2\/k=3\/k=4\/k=21\/k=22\/k=23->c=0):=by
 refine⟨?_,?_,?_,?_,?_⟩
 ·rintro(rfl|rfl)<;>exact eqI_eq.1 h
 ·rintro(rfl|rfl|rfl|rfl)<;>exact eqI_eq.1 h
 ·rintro rfl;exact eqI_eq.1 h
 ·rintro rfl;have h:(leI 3 c&&eqI (c % 2) 1)=true:=h;rw[zd,eqI_eq] at h;exact⟨zK h.1,h.2⟩
 ·rintro(rfl|rfl|rfl|rfl|rfl|rfl|rfl)<;>exact eqI_eq.1 h
theorem qe8{f:F}(h:(f.cnt:Int)=0):f=.nil:=by
 cases f with
 |nil=>rfl
 |cons _ _ _ _ r=>have h:((r.cnt+1:Nat):Int)=0:=h;omega
theorem qal:∀(f:F) (m pat odd:Bool),errF m pat odd f=0->q5q f.flat=qg7 f
 |.nil,_,_,_,_=>rfl
 |.cons kd t n ks r,m,pat,odd,h=>by
  obtain⟨h1,h2⟩:=errF_ok.1 h;obtain⟨h3,h4⟩:=errT_ok.1 h1;have i1:=qal ks _ _ _ h4;have i2:=qal r _ _ _ h2;show q5q ((kd,t,n,(ks.cnt:Int))::(ks.flat++r.flat))=_;rw[qg6,qs0,i1,i2,q7i];unfold q70;by_cases hc:kd=22
  ·subst hc;have:=(qd6 (nodeE_zero.1 h3).2.2.1).2.2.2.2 (by omega);rw[qe8 this,if_pos rfl];rfl
  ·rw[if_neg hc,q1j hc];rfl
theorem qm2{kd:Int}{t:Tx}{n:Int}{ks:F}{pat:Bool}(h:errT kd t n ks pat=0):q5q (tr kd t n ks).flat=q70 kd t ks:=by have h':errF false pat false (tr kd t n ks)=0:=errF_ok.2 ⟨by rw[Bool.false_and,Bool.or_false];exact h,rfl⟩;rw[qal _ _ _ _ h',q7i];exact zo _
theorem qzi(b:Bool)(l:List ND)(hl:l.length<=10000)(hg:GL l):∀(f:F) (q:Nat) (m pat odd:Bool),Sits l q f->q<=l.length->errF m pat odd f=0->q0i l1_dn ((q:Int),⟨b,l⟩,())=bif twF f then some (63,()) else q0i l1_dn (((q+f.size:Nat):Int),⟨b,l⟩,()):=by
 intro f
 induction f with
 |nil=>intro q m pat odd _ _ _;rfl
 |cons kd t n ks r ih1 ih2=>
  intro q m pat odd hs hq he;obtain⟨g1,g2,g3,g4⟩:=hs.node;obtain⟨h1,h2⟩:=errF_ok.1 he;obtain⟨h3,h4⟩:=errT_ok.1 h1;rw[qjm];have esz:q+(F.cons kd t n ks r).size=q+1+ks.size+r.size:=by show q+(ks.size+r.size+1)=_;omega
  rw[esz];have rest:=ih2 (q+1+ks.size) m pat (!odd) g3 (by omega) h2;cases hp:q39 kd with
  |true=>
   have hT:twT kd t ks=dupL (q70 kd t ks):=by unfold twT;rw[hp];rfl
   have hc:=qnx b l hl hg hs;rw[qm2 h1,<-hT] at hc;have step:l1_dn ((q:Int),⟨b,l⟩,())=bif twT kd t ks then some (.inr (63,())) else some (.inl (((q+1+ks.size:Nat):Int),⟨b,l⟩,())):=by
    unfold l1_dn;simp only;rw[q0h,if_pos (by unfold lenI;omega),q0g g1];simp only[q00,q0s,hp,nT,q01,hc];cases twT kd t ks with
    |true=>rfl
    |false=>
     rw[q01,q9b b l hl,hs.ends];simp only[q00];have e1:subI .i64 ((q+1+ks.size:Nat):Int) 1=((q+ks.size:Nat):Int):=by rw[q3l (by omega) (by omega)];omega
     rw[e1];show some (Sum.inl (addI .i64 ((q+ks.size:Nat):Int) 1,_,()))=_;rw[add1 (by omega),show q+ks.size+1=q+1+ks.size by omega];rfl
   cases ht:twT kd t ks with
   |true=>rw[ht,cond_true] at step;rw[q09 step];rfl
   |false=>rw[ht,cond_false] at step;rw[q0d step,rest];rfl
  |false=>
   have hT:twT kd t ks=twF ks:=by unfold twT;rw[hp];rfl
   have step:l1_dn ((q:Int),⟨b,l⟩,())=some (.inl (((q+1:Nat):Int),⟨b,l⟩,())):=by unfold l1_dn;simp only;rw[q0h,if_pos (by unfold lenI;omega),q0g g1];simp only[q00,q0s,hp,nF,q04];show some (Sum.inl (addI .i64 (q:Int) 1,_,()))=_;rw[add1 (by omega)]
   rw[q0d step,ih1 (q+1) _ _ _ g2 (by omega) h4,hT];cases twF ks with
   |true=>rfl
   |false=>rw[cond_false,rest];rfl
def chkT(kd:Int)(t:Tx)(n:Int)(ks:F)(pat:Bool):Int:=bif ltI 100 ((ks.dep+1:Nat):Int) then 60 else bif notB (eqI (errT kd t n ks pat) 0) then errT kd t n ks pat else bif twT kd t ks then 63 else 0
theorem qs7(b:Bool)(kd:Int)(t:Tx)(n:Int)(ks:F)(pat:Bool)(hl:ks.size+1<=4000)(hg:GL (tr kd t n ks).flat):f_dn (⟨b,(tr kd t n ks).flat⟩,pat,())=some (chkT kd t n ks pat,()):=by
 have hc:(tr kd t n ks).flat.length=ks.size+1:=(tr kd t n ks).len;have hs:=q7h kd t n ks;rw[u_dn,q9c b _ (by omega),(q7g _).2 ⟨kd,t,n,ks,rfl⟩,qvs b kd t n ks (by omega)];have hw:=qvv b b _ (by omega) hg pat hs;have h0:((0:Nat):Int)=0:=rfl;rw[h0] at hw;have c0:ltI 4000 (lenI (tr kd t n ks).flat)=false:=zu (by unfold lenI;omega);simp only[c0,q01,q00,nT,hw];unfold chkT;cases ltI 100 ((ks.dep+1:Nat):Int) with
 |true=>rfl
 |false=>
  rw[q01,cond_false];unfold qh3;cases hv:eqI (errT kd t n ks pat) 0 with
  |false=>rw[cond_false,nF];show cnd (notB (eqI (errT kd t n ks pat) 0)) _ _=_;rw[hv];rfl
  |true=>
   rw[cond_true,nT,cond_false];show q0i l1_dn (0,_,())=_;have hz:=eqI_eq.1 hv;have:=qzi b (tr kd t n ks).flat (by omega) hg (tr kd t n ks) 0 false pat false hs (by omega) (errF_ok.2 ⟨by rw[Bool.false_and,Bool.or_false];exact hz,rfl⟩);rw[h0,qjm] at this;rw[this];have hf:twF .nil=false:=rfl;rw[hf,Bool.or_false];cases twT kd t ks with
   |true=>rfl
   |false=>rw[cond_false,cond_false];refine q09 ?_;unfold l1_dn;simp only;rw[q0h,if_neg (by unfold lenI;rw[hc,q49];omega)]
theorem qs8(b:Bool)(l:List ND)(hl:l.length<=4000)(pat:Bool)(h:q9u l=false):f_dn (⟨b,l⟩,pat,())=some (60,()):=by rw[u_dn,q9c b _ (by omega),h];have c0:ltI 4000 (lenI l)=false:=zu (by unfold lenI;omega);simp only[c0,q01,q00,nF,q04]
theorem z2z(l:List ND):q9u l=false\/∃kd t n ks,l=(tr kd t n ks).flat:=by
 cases h:q9u l with
 |false=>exact .inl rfl
 |true=>exact .inr ((q7g l).1 h)
end Fn
end Ev