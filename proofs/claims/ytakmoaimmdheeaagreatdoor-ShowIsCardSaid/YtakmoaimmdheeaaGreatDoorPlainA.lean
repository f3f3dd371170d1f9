/- Layers 2 and 6 in plain words: names, trees, patterns. No statement of its own about the program. -/
import Derived.Test.YtakmoaimmdheeaaGreatDoorFnB
import Derived.Test.YtakmoaimmdheeaaGreatDoorAw
import Derived.Laws.RangeAny
namespace Ev
open Go
namespace Fn
def q6t:List (List Int):=[[108,101,116],[114,101,99],[105,110],[102,117,110],[105,102],[116,104,101,110],[101,108,115,101],[109,97,116,99,104],[119,105,116,104],[101,110,100],[114,97,105,115,101],[116,114,121],[111,112,101,110],[116,121,112,101],[111,102],[105,110,102,105,120,108],[105,110,102,105,120,114],[105,110,102,105,120],[45,62],[61],[124],[40],[41],[95],[59,59]]
theorem qta:f_b9 ()=some (⟨false,q6t⟩,()):=l_b9 300 () _ (by kernel_rfl)
theorem add1{k:Nat}(h:k<=1000000000):addI .i64 (k:Int) 1=((k+1:Nat):Int):=by rw[q53 (by omega) (by omega)];omega
theorem q15{α:Type}{l:List α}{k:Nat}(h:k<l.length):l.drop k=l[k]::l.drop (k+1):=List.drop_eq_getElem_cons h
theorem q48{α:Type}{l:List α}{i:Nat}(h:i<l.length):okAt l (i:Int)=some i:=by unfold okAt;rw[if_pos (by omega)];rfl
theorem z67{α:Type}{l:List α}{i:Nat}{x:α}(h:l[i]?=some x):nth l i=some x:=h
theorem z4h{α:Type}{l:List α}{k:Nat}(h:k<=l.length):cutL l 0 (k:Int)=some (l.take k):=by unfold cutL;rw[if_pos (by omega)];rfl
theorem qtb(s:List Int)(n:Bool)(l:List (List Int))(hl:l.length<=1000000):∀(m k:Nat),k+m=l.length->∃r,q0g l1_di (⟨n,l⟩,s,(l.length:Int),(k:Int),())=some (r,())/\(0<=r↔s∈l.drop k):=by
 intro m
 induction m with
 |zero=>intro k hk;refine⟨-1,q08 ?_,by rw[zB (by omega)];simp⟩;unfold l1_di;simp only;rw[q0f,if_neg (by omega)]
 |succ m ih=>
  intro k hk;have hc:k<l.length:=by omega
  rw[q15 hc];have step:l1_di (⟨n,l⟩,s,(l.length:Int),(k:Int),())=if s=l[k] then some (.inr ((k:Int),())) else some (.inl (⟨n,l⟩,s,(l.length:Int),((k+1:Nat):Int),())):=by unfold l1_di;simp only;rw[q0f,if_pos (by omega),q0e (zj hc),q00,qb0,add1 (by omega)]
  by_cases h:s=l[k]
  ·rw[if_pos h] at step;exact⟨k,q08 step,by simp[h,-List.getElem_cons_drop]⟩
  ·rw[if_neg h] at step;obtain⟨r,h1,h2⟩:=ih (k+1) (by omega);exact⟨r,by rw[q0d step,h1],by rw[h2];simp[h,-List.getElem_cons_drop]⟩
theorem qkg(s:List Int):f_ao (s,())=some (decide (s∈q6t),()):=by obtain⟨r,h1,h2⟩:=qtb s false q6t (by decide) 25 0 (by decide);rw[u_ao,qta,q00,u_df,u_di];have h1:q0g l1_di (⟨false,q6t⟩,s,lenI q6t,0,())=some (r,()):=h1;simp only[h1,q00];have:leI 0 r=decide (s∈q6t):=decide_eq_decide.2 (by rw[h2];rfl);rw[this]
def signsL:List Int:=[33,36,37,38,42,43,45,47,58,60,61,62,63,64,94,124]
theorem qxa(c:Int):∀l:List Int,(0<=ixB c l↔c∈l)
 |[]=>by simp[ixB]
 |b::r=>by
  have ih:=qxa c r;unfold ixB;by_cases h:b=c
  ·rw[if_pos h];simp[h]
  ·rw[if_neg h];have:c≠b:=fun e=>h e.symm;simp only[zo,this,false_or];rw[<-ih];split<;>omega
theorem qxb(c:Int):f_b3 (c,())=some (decide (c∈signsL),()):=by rw[u_b3,u_e0,q00];have:leI 0 (ixB c signsL)=decide (c∈signsL):=decide_eq_decide.2 (qxa c signsL);show some (leI 0 (ixB c signsL),())=_;rw[this]
def allS(s:List Int):Bool:=!s.isEmpty&&s.all fun b=>decide (b∈signsL)
def opOk(s:List Int):Bool:=allS s&&!decide (s∈q6t)
theorem qxc{b:Int}(h:b∈signsL):0<=b/\b<=126:=by unfold signsL at h;simp only[zo,List.not_mem_nil,or_false] at h;omega
theorem qp7{s:List Int}(hs:∀b,b∈s->0<=b/\b<=255){k:Nat}(hk:k<s.length):(s[k]<=127->runeI s (k:Int)=s[k]/\nextI s (k:Int)=((k+1:Nat):Int))/\(127<s[k]->126<runeI s (k:Int)):=by
 have hb:=hs _ (List.getElem_mem hk);have he:(q8m s).size=s.length:=by show(s.map _).toArray.size=_;simp
 have hc:k<(q8m s).size:=by omega
 have hg:(((q8m s)[k]'hc).toNat:Int)=s[k]:=by
  have:(q8m s)[k]'hc=UInt8.ofNat s[k].toNat:=by have h1:(q8m s)[k]'hc=((s.map fun b=>UInt8.ofNat b.toNat).toArray)[k]'(by simpa using hk):=rfl;rw[h1,List.getElem_toArray,List.getElem_map]
  rw[this,UInt8.toNat_ofNat',Nat.mod_eq_of_lt (by omega)];omega
 unfold runeI nextI;rw[Int.toNat_natCast,if_pos (by omega)];constructor
 ·intro h;have:=decode_ascii (q8m s) k hc (by omega);rw[this];exact⟨hg,by simp⟩
 ·intro h;have:=(decode_high (q8m s) k hc (by omega)).1;omega
theorem z10{s:List Int}(hs:∀b,b∈s->0<=b/\b<=255):∀(m k:Nat),k+m=s.length->q0g l1_aw (s,s,(k:Int),())=some ((s.drop k).all (fun b=>decide (b∈signsL))&&!s.isEmpty,()):=by
 intro m
 induction m with
 |zero=>intro k hk;refine q08 ?_;unfold l1_aw;simp only;rw[q0f,if_neg (by unfold lenI;omega),zB (by omega)];cases s<;>rfl
 |succ m ih=>
  intro k hk;have hc:k<s.length:=by omega
  rw[q15 hc];obtain⟨h1,h2⟩:=qp7 hs hc;have c0:ltI (k:Int) (lenI s)=true:=zw (by unfold lenI;omega);have hb:=hs _ (List.getElem_mem hc);have step:l1_aw (s,s,(k:Int),())=if s[k]∈signsL then some (.inl (s,s,((k+1:Nat):Int),())) else some (.inr (false,())):=by
   unfold l1_aw;simp only[c0,q05,q00];by_cases h:s[k]<=126
   ·obtain⟨e1,e2⟩:=h1 (by omega);rw[e1,e2];have c1:ltI 126 s[k]=false:=zu (by omega);have c2:cvI .u8 s[k]=s[k]:=by rw[z2h];omega
    simp only[c1,q01,c2,qxb,q00,notB];by_cases hm:s[k]∈signsL
    ·rw[if_pos hm];simp[hm,q01]
    ·rw[if_neg hm];simp[hm,q05]
   ·have hm:s[k]∉signsL:=fun e=>by have:=qxc e;omega
    rw[if_neg hm];have c1:ltI 126 (runeI s (k:Int))=true:=by
     refine zw ?_;by_cases he:s[k]<=127
     ·rw[(h1 he).1];omega
     ·exact h2 (by omega)
    simp only[c1,q05,q00]
  by_cases hm:s[k]∈signsL
  ·rw[if_pos hm] at step;rw[q0d step,ih (k+1) (by omega)];simp[hm,-List.getElem_cons_drop]
  ·rw[if_neg hm] at step;rw[q08 step];simp[hm,-List.getElem_cons_drop]
theorem z11{s:List Int}(hs:∀b,b∈s->0<=b/\b<=255):f_aw (s,())=some (allS s,()):=by rw[u_aw];have:=z10 hs s.length 0 (by omega);rw[List.drop_zero,Bool.and_comm] at this;exact this
def pre5:List Int->Nat
 |[]=>0
 |b::r=>if b∈signsL then pre5 r+1 else 0
theorem qrg:∀s:List Int,(pre5 s=s.length↔s.all (fun b=>decide (b∈signsL))=true)
 |[]=>by simp[pre5]
 |b::r=>by
  have ih:=qrg r;unfold pre5;by_cases h:b∈signsL
  ·rw[if_pos h,zt,List.all_cons];simp only[h,decide_true,Bool.true_and,<-ih];omega
  ·rw[if_neg h];simp[h]
theorem qgu(s:List Int)(hs:∀b,b∈s->0<=b/\b<=255):f_as ((5,s,0,0),())=some (opOk s,()):=by rw[u_as,z11 hs,qkg];have c1:ltI 0 0=false:=rfl;have c2:eqI 5 3=false:=rfl;have c3:eqI 0 0=true:=rfl;have c4:eqI 5 1=false:=rfl;have c5:eqI 5 2=false:=rfl;have c6:eqI 5 4=false:=rfl;have c7:eqI 5 5=true:=rfl;simp only[c1,c2,c3,c4,c5,c6,c7,q01,q05,q00,notB,Bool.not_true,Bool.not_false];unfold opOk;cases allS s<;>rfl
def q4h(c:Int):Bool:=leI 97 c&&leI c 122
def q4i(c:Int):Bool:=leI 65 c&&leI c 90
def q9a(c:Int):Bool:=leI 48 c&&leI c 57
def q2m(c:Int):Bool:=q4h c||q4i c||q9a c||eqI c 95||eqI c 39
theorem q9b(a b:Bool):(cnd a (some b) (some false):Option Bool)=some (a&&b):=by cases a<;>rfl
theorem qn1(a b:Bool):(cnd a (some true) (some b):Option Bool)=some (a||b):=by cases a<;>rfl
theorem qio(c:Int):f_b4 (c,())=some (q4h c,()):=by rw[u_b4,q9b];rfl
theorem qip(c:Int):f_ay (c,())=some (q4i c,()):=by rw[u_ay,q9b];rfl
theorem qtc(c:Int):f_ax (c,())=some (q9a c,()):=by rw[u_ax,q9b];rfl
theorem qtd(c:Int):f_az (c,())=some (q2m c,()):=by rw[u_az,qio,qip,qtc];simp only[q00,qn1];rfl
theorem qxd{c:Int}(h:q2m c=true):0<=c/\c<=126:=by unfold q2m q4h q4i q9a leI at h;simp only[Bool.or_eq_true,zd,decide_eq_true_eq,eqI_eq] at h;omega
theorem qxe{s:List Int}(hs:∀b,b∈s->0<=b/\b<=255):∀(m k:Nat),k+m=s.length->q0g l1_av (s,s,(k:Int),())=some ((s.drop k).all q2m&&!s.isEmpty,()):=by
 intro m
 induction m with
 |zero=>intro k hk;refine q08 ?_;unfold l1_av;simp only;rw[q0f,if_neg (by unfold lenI;omega),zB (by omega)];cases s<;>rfl
 |succ m ih=>
  intro k hk;have hc:k<s.length:=by omega
  rw[q15 hc];obtain⟨h1,h2⟩:=qp7 hs hc;have c0:ltI (k:Int) (lenI s)=true:=zw (by unfold lenI;omega);have hb:=hs _ (List.getElem_mem hc);have step:l1_av (s,s,(k:Int),())=if q2m s[k]=true then some (.inl (s,s,((k+1:Nat):Int),())) else some (.inr (false,())):=by
   unfold l1_av;simp only[c0,q05,q00];by_cases h:s[k]<=126
   ·obtain⟨e1,e2⟩:=h1 (by omega);rw[e1,e2];have c1:ltI 126 s[k]=false:=zu (by omega);have c2:cvI .u8 s[k]=s[k]:=by rw[z2h];omega
    simp only[c1,q01,c2,qtd,q00,notB];cases q2m s[k]<;>rfl
   ·have hm:¬q2m s[k]=true:=fun e=>by have:=qxd e;omega
    rw[if_neg hm];have c1:ltI 126 (runeI s (k:Int))=true:=by
     refine zw ?_;by_cases he:s[k]<=127
     ·rw[(h1 he).1];omega
     ·exact h2 (by omega)
    simp only[c1,q05,q00]
  rw[List.all_cons];cases hm:q2m s[k] with
  |true=>rw[hm,if_pos rfl] at step;rw[q0d step,ih (k+1) (by omega),Bool.true_and]
  |false=>rw[hm,if_neg (by decide)] at step;rw[q08 step,Bool.false_and,Bool.false_and]
theorem qn2{s:List Int}(hs:∀b,b∈s->0<=b/\b<=255):f_av (s,())=some (s.all q2m&&!s.isEmpty,()):=by rw[u_av];exact qxe hs s.length 0 (by omega)
def qer(c:Int):Int:=bif decide (c∈signsL) then 5 else bif q4h c then 1 else bif q4i c then 2 else bif q9a c then 3 else bif eqI c 95||eqI c 39 then 4 else 0
theorem qdt{c:Int}(h:c∈signsL):q2m c=false:=by unfold signsL at h;simp only[zo,List.not_mem_nil,or_false] at h;rcases h with h|h|h|h|h|h|h|h|h|h|h|h|h|h|h|h<;>subst h<;>decide
theorem qte(c:Int):(leI 1 (qer c)&&leI (qer c) 4)=q2m c:=by
 unfold qer;by_cases h:c∈signsL
 ·rw[qdt h];simp[h,leI]
 ·simp only[h,decide_false,cond_false];unfold q2m;cases q4h c<;>cases q4i c<;>cases q9a c<;>cases h1:eqI c 95<;>cases eqI c 39<;>rfl
theorem qp8{c:Int}(h:q4i c=true):q4h c=false:=by
 unfold q4i q4h leI at*
 simp only[zd,decide_eq_true_eq,Bool.and_eq_false_iff,decide_eq_false_iff_not] at*
 omega
theorem qtf{c:Int}(h:q2m c=true):eqI (qer c) 1=q4h c:=by
 unfold qer;have hs:c∉signsL:=fun e=>by rw[qdt e] at h;cases h
 simp only[hs,decide_false,cond_false];cases q4h c<;>cases q4i c<;>cases q9a c<;>cases (eqI c 95||eqI c 39)<;>rfl
theorem qtg{c:Int}(h:q2m c=true):eqI (qer c) 2=q4i c:=by
 unfold qer;have hs:c∉signsL:=fun e=>by rw[qdt e] at h;cases h
 simp only[hs,decide_false,cond_false];cases hg:q4i c with
 |true=>rw[qp8 hg];rfl
 |false=>cases q4h c<;>cases q9a c<;>cases (eqI c 95||eqI c 39)<;>rfl
def preI:List Int->Nat
 |[]=>0
 |b::r=>bif q2m b then preI r+1 else 0
theorem qrh:∀s:List Int,(preI s=s.length↔s.all q2m=true)
 |[]=>by simp[preI]
 |b::r=>by
  have ih:=qrh r;unfold preI;cases h:q2m b with
  |true=>simp only[cond_true,zt,List.all_cons,h,Bool.true_and,<-ih];omega
  |false=>simp[h]
def z4i(p:Int->Bool):List Int->Bool
 |[]=>false
 |b::_=>p b
def q57(p:Int->Bool)(s:List Int):Bool:=s.all q2m&&!s.isEmpty&&z4i p s&&!decide (s∈q6t)
theorem qxf(s:List Int)(a2 a3:Int)(hs:∀b,b∈s->0<=b/\b<=255):f_at ((1,s,a2,a3),())=some (q57 q4h s,()):=by
 rw[u_at,qn2 hs,qkg];simp only[q00];cases s with
 |nil=>rfl
 |cons b r=>have h0:at? (b::r) 0=some b:=rfl;rw[h0];simp only[q00,qio];unfold q57;show _=some (_&&q4h b&&_,());cases List.all (b::r) q2m<;>cases q4h b<;>cases decide (b::r∈q6t)<;>rfl
theorem qxg(s:List Int)(a2 a3:Int)(hs:∀b,b∈s->0<=b/\b<=255):f_au ((2,s,a2,a3),())=some (q57 q4i s,()):=by
 rw[u_au,qn2 hs,qkg];simp only[q00];cases s with
 |nil=>rfl
 |cons b r=>have h0:at? (b::r) 0=some b:=rfl;rw[h0];simp only[q00,qip];unfold q57;show _=some (_&&q4i b&&_,());cases List.all (b::r) q2m<;>cases q4i b<;>cases decide (b::r∈q6t)<;>rfl
theorem qth(s:List Int)(hs:∀b,b∈s->0<=b/\b<=255):f_as ((1,s,0,0),())=some (q57 q4h s,()):=by rw[u_as,qxf s 0 0 hs];have c1:ltI 0 0=false:=rfl;have c2:eqI 1 3=false:=rfl;have c3:eqI 0 0=true:=rfl;have c4:eqI 1 1=true:=rfl;simp only[c1,c2,c3,c4,q01,q05,q00,notB,Bool.not_true,Bool.not_false]
theorem qti(s:List Int)(hs:∀b,b∈s->0<=b/\b<=255):f_as ((2,s,0,0),())=some (q57 q4i s,()):=by rw[u_as,qxg s 0 0 hs];have c1:ltI 0 0=false:=rfl;have c2:eqI 2 3=false:=rfl;have c3:eqI 0 0=true:=rfl;have c4:eqI 2 1=false:=rfl;have c5:eqI 2 2=true:=rfl;simp only[c1,c2,c3,c4,c5,q01,q05,q00,notB,Bool.not_true,Bool.not_false]
def nameOk(s:List Int):Bool:=q57 q4h s||opOk s
def q8t(s:List Int):Bool:=q57 q4i s
theorem qxh{s:List Int}(hs:∀b,b∈s->0<=b/\b<=255):f_e7 (s,())=some (nameOk s,()):=by rw[u_e7,qth s hs,qgu s hs];simp only[q00,qn1];rfl
theorem z12{s:List Int}(hs:∀b,b∈s->0<=b/\b<=255):f_e6 (s,())=some (q8t s,()):=by rw[u_e6,qti s hs];rfl
abbrev ND:=Int×List Int×Int×Int
inductive F where
 |nil:F
 |cons:Int->List Int->Int->F->F->F
def F.cnt:F->Nat
 |.nil=>0
 |.cons _ _ _ _ r=>r.cnt+1
def F.flat:F->List ND
 |.nil=>[]
 |.cons k t n ks r=>(k,t,n,(ks.cnt:Int))::(ks.flat++r.flat)
def F.size:F->Nat
 |.nil=>0
 |.cons _ _ _ ks r=>ks.size+r.size+1
def F.dep:F->Nat
 |.nil=>0
 |.cons _ _ _ ks r=>max (ks.dep+1) r.dep
def F.app:F->F->F
 |.nil,g=>g
 |.cons k t n ks r,g=>.cons k t n ks (r.app g)
abbrev tr(k:Int)(t:List Int)(n:Int)(ks:F):F:=.cons k t n ks .nil
theorem F.len:∀f:F,f.flat.length=f.size
 |.nil=>rfl
 |.cons k t n ks r=>by show(_::(ks.flat++r.flat)).length=ks.size+r.size+1;rw[zt,ze,ks.len,r.len]
theorem F.cnt_le:∀f:F,f.cnt<=f.size
 |.nil=>Nat.le_refl _
 |.cons k t n ks r=>by have:=r.cnt_le;show r.cnt+1<=ks.size+r.size+1;omega
theorem F.dep_le:∀f:F,f.dep<=f.size
 |.nil=>Nat.le_refl _
 |.cons k t n ks r=>by have h1:=r.dep_le;have h2:=ks.dep_le;show max (ks.dep+1) r.dep<=ks.size+r.size+1;omega
theorem q7g(k:Int)(t:List Int)(n:Int)(ks:F):(tr k t n ks).flat=(k,t,n,(ks.cnt:Int))::ks.flat:=by show _::(ks.flat++[])=_;rw[zn]
theorem q3d(k:Int)(t:List Int)(n:Int)(ks:F):(tr k t n ks).size=ks.size+1:=rfl
def skip(N:Nat):List ND->Nat->Option (List ND)
 |l,0=>some l
 |[],_+1=>none
 |d::r,c+1=>if 0<=d.2.2.2/\d.2.2.2<=(N:Int) then skip N r (c+d.2.2.2.toNat) else none
theorem q7x(N:Nat)(l:List ND):skip N l 0=some l:=by cases l<;>rfl
theorem q5z(N:Nat)(d:ND)(r:List ND)(c:Nat):skip N (d::r) (c+1)=if 0<=d.2.2.2/\d.2.2.2<=(N:Int) then skip N r (c+d.2.2.2.toNat) else none:=by conv=>lhs;unfold skip
theorem qci(N:Nat):∀(f:F) (c:Nat) (post:List ND),f.size<=N->skip N (f.flat++post) (f.cnt+c)=skip N post c
 |.nil,c,post,_=>by show skip N post (0+c)=_;rw[zE]
 |.cons k t n ks r,c,post,h=>by
  have h:ks.size+r.size+1<=N:=h;have hc:=ks.cnt_le;show skip N ((k,t,n,(ks.cnt:Int))::((ks.flat++r.flat)++post)) (r.cnt+1+c)=_;have e:r.cnt+1+c=(r.cnt+c)+1:=by omega
  rw[e,q5z];rw[if_pos ⟨by show(0:Int)<=(ks.cnt:Int);omega,by show(ks.cnt:Int)<=N;omega⟩];show skip N _ (r.cnt+c+(ks.cnt:Int).toNat)=_;rw[Int.toNat_natCast,zm,Nat.add_comm (r.cnt+c),qci N ks _ _ (by omega),qci N r _ _ (by omega)]
theorem F.split:∀(g:F) (a c:Nat),g.cnt=a+c->∃x y:F,x.cnt=a/\y.cnt=c/\g.flat=x.flat++y.flat
 |g,0,c,h=>⟨.nil,g,rfl,by omega,rfl⟩
 |.nil,a+1,c,h=>by have h:0=a+1+c:=h;omega
 |.cons k t n ks r,a+1,c,h=>by
  have h:r.cnt+1=a+1+c:=h;obtain⟨x,y,h1,h2,h3⟩:=r.split a c (by omega);refine⟨.cons k t n ks x,y,by show x.cnt+1=_;omega,h2,?_⟩;show _::(ks.flat++r.flat)=_::(ks.flat++x.flat)++y.flat
  rw[h3,List.cons_append,zm]
theorem qdu(N:Nat):∀(l:List ND) (c:Nat) (rest:List ND),skip N l c=some rest->∃f:F,f.cnt=c/\l=f.flat++rest
 |l,0,rest,h=>by rw[q7x] at h;injection h with h;exact⟨.nil,rfl,h⟩
 |[],c+1,rest,h=>by cases h
 |d::r,c+1,rest,h=>by
  obtain⟨k,t,n,z⟩:=d;rw[q5z] at h;have h:(if 0<=z/\z<=(N:Int) then skip N r (c+z.toNat) else none)=some rest:=h;by_cases hz:0<=z/\z<=(N:Int)
  ·rw[if_pos hz] at h;obtain⟨g,h1,h2⟩:=qdu N r _ rest h;obtain⟨x,y,h3,h4,h5⟩:=g.split z.toNat c (by omega);refine⟨.cons k t n x y,by show y.cnt+1=_;omega,?_⟩;show _=(k,t,n,(x.cnt:Int))::(x.flat++y.flat)++rest;rw[h2,h5,h3,Int.toNat_of_nonneg hz.1];rfl
  ·rw[if_neg hz] at h;cases h
theorem qri(N:Nat):∀(l:List ND) (a b:Nat),skip N l (a+b)=(skip N l a).bind fun r=>skip N r b
 |l,0,b=>by rw[q7x,zE];rfl
 |[],a+1,b=>by
  have e:a+1+b=(a+b)+1:=by omega
  rw[e];rfl
 |d::r,a+1,b=>by
  have e:a+1+b=(a+b)+1:=by omega
  rw[e,q5z,q5z];by_cases h:0<=d.2.2.2/\d.2.2.2<=(N:Int)
  ·rw[if_pos h,if_pos h];have e2:a+b+d.2.2.2.toNat=(a+d.2.2.2.toNat)+b:=by omega
   rw[e2];exact qri N r _ b
  ·rw[if_neg h,if_neg h];rfl
theorem z13(N:Nat){l:List ND}{c:Nat}{rest:List ND}(h:skip N l c=some rest):c<=l.length-rest.length/\rest.length<=l.length/\rest=l.drop (l.length-rest.length):=by obtain⟨f,h1,h2⟩:=qdu N l c rest h;have:=f.cnt_le;have h3:=f.len;subst h2;rw[ze];refine⟨by omega,by omega,?_⟩;rw[show f.flat.length+rest.length-rest.length=f.flat.length by omega,List.drop_left'];rfl
def endZ(l:List ND)(k c:Nat):Int:=(skip l.length (l.drop k) c).elim (-1) fun r=>(l.length:Int)-(r.length:Int)
theorem z14(b:Bool)(l:List ND)(hl:l.length<=10000):∀(m k c:Nat),k+m=l.length->c<=k*10000->q0g l1_en (⟨b,l⟩,(k:Int),((c+1:Nat):Int),())=some (endZ l k (c+1),()):=by
 intro m
 induction m with
 |zero=>intro k c hk hc;refine q08 ?_;unfold l1_en;have c0:leI (lenI l) (k:Int)=true:=zw (by unfold lenI;omega);simp only[c0,q05,q00];unfold endZ;rw[zB (by omega)];rfl
 |succ m ih=>
  intro k c hk hc;have hg:k<l.length:=by omega
  obtain⟨d,hd⟩:∃d,l[k]?=some d:=⟨_,zj hg⟩;have hf:l.drop k=d::l.drop (k+1):=by rw[q15 hg];rw[zj hg] at hd;injection hd with hd;rw[hd]
  obtain⟨x,t,n,z⟩:=d;have c0:leI (lenI l) (k:Int)=false:=zu (by unfold lenI;omega);have hj:=q0e hd;by_cases hz:0<=z/\z<=(l.length:Int)
  ·have c1:ltI z 0=false:=zu (by omega);have c2:ltI (lenI l) z=false:=zu (by unfold lenI;omega);have e1:subI .i64 z 1=z-1:=q3h (by omega) (by omega);have e2:addI .i64 ((c+1:Nat):Int) (z-1)=((c+z.toNat:Nat):Int):=by rw[q53 (by omega) (by omega)];omega
   have e3:=add1 (show k<=1000000000 by omega);have step:l1_en (⟨b,l⟩,(k:Int),((c+1:Nat):Int),())=if 0<c+z.toNat then some (.inl (⟨b,l⟩,((k+1:Nat):Int),((c+z.toNat:Nat):Int),())) else some (.inr (((k+1:Nat):Int),())):=by
    unfold l1_en;simp only[c0,q01,q00,hj,c1,c2,e1,e2,e3];rw[q0f];by_cases h:0<c+z.toNat
    ·rw[if_pos h,if_pos (by omega)]
    ·rw[if_neg h,if_neg (by omega)]
   have he:endZ l k (c+1)=(skip l.length (l.drop (k+1)) (c+z.toNat)).elim (-1) fun r=>(l.length:Int)-(r.length:Int):=by unfold endZ;rw[hf,q5z];rw[if_pos (show 0<=(x,t,n,z).2.2.2/\(x,t,n,z).2.2.2<=(l.length:Int) from hz)]
   rw[he];by_cases h:0<c+z.toNat
   ·rw[if_pos h] at step;rw[q0d step];obtain⟨c',hm⟩:∃c',c+z.toNat=c'+1:=⟨c+z.toNat-1,by omega⟩;rw[hm];exact ih (k+1) c' (by omega) (by omega)
   ·rw[if_neg h] at step;rw[q08 step];have h0:c+z.toNat=0:=by omega
    rw[h0,q7x];show some (((k+1:Nat):Int),())=some ((l.length:Int)-((l.drop (k+1)).length:Int),());rw[zR];congr 2;omega
  ·have he:endZ l k (c+1)=-1:=by unfold endZ;rw[hf,q5z];rw[if_neg (show ¬(0<=(x,t,n,z).2.2.2/\(x,t,n,z).2.2.2<=(l.length:Int)) from hz)];rfl
   rw[he];refine q08 ?_;unfold l1_en;simp only[c0,q01,q00,hj];cases h1:ltI z 0 with
   |true=>simp only[q05,q00]
   |false=>
    have c2:ltI (lenI l) z=true:=by have:=of_decide_eq_false h1;exact zw (by unfold lenI;omega)
    simp only[q01,q00,c2,q05]
theorem q9u(b:Bool)(l:List ND)(hl:l.length<=10000)(k:Nat):f_en (⟨b,l⟩,(k:Int),())=some (endZ l k 1,()):=by
 rw[u_en];have c0:ltI (k:Int) 0=false:=zu (by omega);rw[c0,q01];by_cases h:k<=l.length
 ·exact z14 b l hl (l.length-k) k 0 (by omega) (by omega)
 ·have he:endZ l k 1=-1:=by unfold endZ;rw[zB (by omega)];rfl
  rw[he];refine q08 ?_;unfold l1_en;have c0:leI (lenI l) (k:Int)=true:=zw (by unfold lenI;omega);simp only[c0,q05,q00]
theorem z15{l:List ND}{k c:Nat}(h:skip l.length (l.drop k) c=none):endZ l k c=-1:=by unfold endZ;rw[h];rfl
def qai(l:List ND):Bool:=decide (0<l.length)&&decide (endZ l 0 1=(l.length:Int))
theorem q9v(b:Bool)(l:List ND)(hl:l.length<=10000):f_er (⟨b,l⟩,())=some (qai l,()):=by rw[u_er];have:=q9u b l hl 0;have h0:((0:Nat):Int)=0:=rfl;rw[h0] at this;simp only[this,q00,q9b];unfold qai ltI eqI lenI;have e1:decide ((0:Int)<(l.length:Int))=decide (0<l.length):=decide_eq_decide.2 (by omega);rw[e1];rfl
theorem q6g(l:List ND):qai l=true↔∃k t n ks,l=(tr k t n ks).flat:=by
 unfold qai endZ;rw[zd,decide_eq_true_eq,decide_eq_true_eq,List.drop_zero];constructor
 ·rintro⟨h1,h2⟩;cases hs:skip l.length l 1 with
  |none=>rw[hs] at h2;have h2:(-1:Int)=l.length:=h2;omega
  |some r=>
   rw[hs] at h2;have h2:(l.length:Int)-(r.length:Int)=l.length:=h2;have hr:r=[]:=List.length_eq_zero_iff.1 (by omega);subst hr;obtain⟨f,h3,h4⟩:=qdu _ _ _ _ hs;cases f with
   |nil=>cases h3
   |cons k t n ks r=>
    cases r with
    |nil=>exact⟨k,t,n,ks,by rw[h4,zn]⟩
    |cons _ _ _ _ _=>have h3:_+1+1=1:=h3;omega
 ·rintro⟨k,t,n,ks,rfl⟩;have hc:=(tr k t n ks).len;refine⟨by rw[hc,q3d];omega,?_⟩;have:=qci (tr k t n ks).flat.length (tr k t n ks) 0 [] (by omega);rw[zn,q7x] at this;have e:(tr k t n ks).cnt+0=1:=rfl;rw[e] at this;rw[this];show((tr k t n ks).flat.length:Int)-((0:Nat):Int)=_;omega
def Sits(l:List ND)(k:Nat)(f:F):Prop:=∃post,l.drop k=f.flat++post
theorem Sits.node{l:List ND}{k:Nat}{x:Int}{t:List Int}{n:Int}{ks r:F}(h:Sits l k (.cons x t n ks r)):l[k]?=some (x,t,n,(ks.cnt:Int))/\Sits l (k+1) ks/\Sits l (k+1+ks.size) r/\k+1+ks.size+r.size<=l.length:=by
 obtain⟨post,h⟩:=h;have h:l.drop k=(x,t,n,(ks.cnt:Int))::((ks.flat++r.flat)++post):=h;have h1:l[k]?=some (x,t,n,(ks.cnt:Int)):=by rw[<-List.head?_drop,h];rfl
 have h2:l.drop (k+1)=(ks.flat++r.flat)++post:=by rw[<-List.drop_drop,h];rfl
 refine⟨h1,⟨r.flat++post,by rw[h2,zm]⟩,⟨post,?_⟩,?_⟩
 ·rw[<-List.drop_drop,h2,<-ks.len,zm,List.drop_left'];rfl
 ·have:=congrArg List.length h2;rw[zR,ze,ze,ks.len,r.len] at this;have hc:k<l.length:=(zG.1 h1).1;omega
theorem Sits.le{l:List ND}{k:Nat}{f:F}(h:Sits l k f)(hk:k<=l.length):k+f.size<=l.length:=by
 cases f with
 |nil=>exact hk
 |cons x t n ks r=>have:=h.node.2.2.2;show k+(ks.size+r.size+1)<=_;omega
theorem Sits.first{l:List ND}{k:Nat}{x:Int}{t:List Int}{n:Int}{ks r:F}(h:Sits l k (.cons x t n ks r)):Sits l k (tr x t n ks):=by obtain⟨post,h⟩:=h;refine⟨r.flat++post,?_⟩;rw[h,q7g];show _::(ks.flat++r.flat)++post=_;rw[List.cons_append,List.cons_append,zm]
theorem Sits.ends{l:List ND}{k:Nat}{x:Int}{t:List Int}{n:Int}{ks r:F}(h:Sits l k (.cons x t n ks r)):endZ l k 1=((k+1+ks.size:Nat):Int):=by obtain⟨g1,g2,g3,g4⟩:=h.node;obtain⟨post,h⟩:=h.first;unfold endZ;have e:(tr x t n ks).cnt+0=1:=rfl;have hs:=qci l.length (tr x t n ks) 0 post (by rw[q3d];omega);rw[e,q7x] at hs;rw[h,hs];show(l.length:Int)-(post.length:Int)=_;have:=congrArg List.length h;rw[zR,ze,(tr x t n ks).len,q3d] at this;omega
def F.pos:Nat->F->List Int
 |_,.nil=>[]
 |k,.cons _ _ _ ks r=>(k:Int)::r.pos (k+1+ks.size)
theorem F.pos_len:∀(f:F) (k:Nat),(f.pos k).length=f.cnt
 |.nil,_=>rfl
 |.cons _ _ _ ks r,k=>by show(_::r.pos _).length=r.cnt+1;rw[zt,r.pos_len]
def F.Each(P:Nat->Int->List Int->Int->F->Prop):Nat->F->Prop
 |_,.nil=>True
 |k,.cons x t n ks r=>P k x t n ks/\r.Each P (k+1+ks.size)
theorem F.each_of{l:List ND}{P:Nat->Int->List Int->Int->F->Prop}(h:∀k x t n ks,Sits l k (tr x t n ks)->ks.Each P (k+1)->P k x t n ks):∀(f:F) (k:Nat),Sits l k f->f.Each P k
 |.nil,_,_=>trivial
 |.cons x t n ks r,k,hs=>⟨h k x t n ks hs.first (F.each_of h ks (k+1) hs.node.2.1),F.each_of h r _ hs.node.2.2.1⟩
theorem F.each_one{l:List ND}{P:Nat->Int->List Int->Int->F->Prop}(h:∀k x t n ks,Sits l k (tr x t n ks)->ks.Each P (k+1)->P k x t n ks){k:Nat}{x:Int}{t:List Int}{n:Int}{ks:F}(hs:Sits l k (tr x t n ks)):P k x t n ks:=(F.each_of h (tr x t n ks) k hs).1
theorem q0p{a b:Nat}(h:a+b<=2000000):fit (sumI (a:Int) (b:Int))=some ():=qag (by show(a:Int)+(b:Int)<=_;omega)
theorem qtj(x:Bool):andB false x=false:=id (Eq.refl false)
theorem q9w{α:Type}(b:Bool)(x:α):andB b (isE [x])=false:=by cases b<;>rfl
theorem z16(a b:Nat):maxI (a:Int) (b:Int)=((max a b:Nat):Int):=by unfold maxI;split<;>omega
def qho:Nat->List Nat->List Nat
 |c+1,s=>(c+1)::s
 |0,[]=>[]
 |0,c::s=>qho (c-1) s
def toI(s:List Nat):List Int:=s.reverse.map fun(c:Nat)=>(c:Int)
theorem q2f(s:List Nat):(toI s).length=s.length:=by unfold toI;rw[zJ,List.length_reverse]
theorem q6c(c:Nat)(s:List Nat):toI (c::s)=toI s++[(c:Int)]:=by unfold toI;rw[List.reverse_cons,zT];rfl
theorem qgv(c:Nat)(s:List Nat):qho (c+1) s=(c+1)::s:=by cases s<;>rfl
theorem pops(b:Bool)(l:List ND)(most ln k:Int)(hk:0<=k/\k<=1000000)(nb:Bool):∀(s:List Nat) (c:Nat),(∀x,x∈s->1<=x/\x<=1000000)->c<=1000000->s.length<=1000000->q0g l1_em (most,⟨b,l⟩,ln,k,⟨nb,toI (c::s)⟩,())=some (.inl (most,⟨b,l⟩,ln,k+1,⟨nb,toI (qho c s)⟩,())):=by
 have hj:addI .i64 k 1=k+1:=q53 (by omega) (by omega);have done:∀(s:List Nat) (c:Nat),c+1<=1000000->s.length<=1000000->q0g l1_em (most,⟨b,l⟩,ln,k,⟨nb,toI ((c+1)::s)⟩,())=some (.inl (most,⟨b,l⟩,ln,k+1,⟨nb,toI ((c+1)::s)⟩,())):=by
  intro s c hc hs;refine q08 ?_;have e1:subI .i64 (lenI (toI ((c+1)::s))) 1=(s.length:Int):=by unfold lenI;rw[q2f,zt,q3h (by omega) (by omega)];omega
  have hg:nth (toI ((c+1)::s)) s.length=some ((c+1:Nat):Int):=by rw[q6c];unfold nth;rw[zM (by rw[q2f];exact Nat.le_refl _),q2f,Nat.sub_self];rfl
  have c0:ltI 0 (lenI (toI ((c+1)::s)))=true:=zw (by unfold lenI;rw[q2f,zt];omega);have c1:eqI ((c+1:Nat):Int) 0=false:=by cases h:eqI ((c+1:Nat):Int) 0 with
   |false=>rfl
   |true=>have:=eqI_eq.1 h;omega
  unfold l1_em;simp only[c0,q05,e1,q48 (show s.length<(toI ((c+1)::s)).length by rw[q2f,zt];omega),q00,hg,c1,q01,hj]
 have nils:q0g l1_em (most,⟨b,l⟩,ln,k,⟨nb,toI []⟩,())=some (.inl (most,⟨b,l⟩,ln,k+1,⟨nb,toI []⟩,())):=by refine q08 ?_;have c0:ltI 0 (lenI (toI []))=false:=rfl;unfold l1_em;simp only[c0,q01,q00,hj]
 have step:∀(s:List Nat) (X:List Int),s.length<=1000000->(s=[]/\X=[]\/∃c r,s=c::r/\1<=c/\c<=1000000/\X=toI ((c-1)::r))->
   l1_em (most,⟨b,l⟩,ln,k,⟨nb,toI (0::s)⟩,())=some (.inl (most,⟨b,l⟩,ln,k,⟨nb,X⟩,())):=by
  intro s X hs hX;have e1:subI .i64 (lenI (toI (0::s))) 1=(s.length:Int):=by unfold lenI;rw[q2f,zt,q3h (by omega) (by omega)];omega
  have hg:nth (toI (0::s)) s.length=some 0:=by rw[q6c];unfold nth;rw[zM (by rw[q2f];exact Nat.le_refl _),q2f,Nat.sub_self];rfl
  have c0:ltI 0 (lenI (toI (0::s)))=true:=zw (by unfold lenI;rw[q2f,zt];omega);have c1:eqI 0 0=true:=rfl;have he:cutN (lenI (toI (0::s))) (s.length:Int)=some s.length:=by unfold cutN lenI;rw[if_pos (by rw[q2f,zt];omega),Int.toNat_natCast]
  have hl:takeL (toI (0::s)) s.length=toI s:=by unfold takeL;rw[q6c,List.take_left' (q2f s)]
  unfold l1_em;simp only[c0,q05,e1,q48 (show s.length<(toI (0::s)).length by rw[q2f,zt];omega),q00,hg,c1,he,hl];rcases hX with ⟨rfl,rfl⟩|⟨c,r,rfl,h1,h2,rfl⟩
  ·have c2:ltI 0 (lenI (toI []))=false:=rfl;simp only[c2,q01,q00];rfl
  ·have hs:r.length+1<=1000000:=hs;have c2:ltI 0 (lenI (toI (c::r)))=true:=zw (by unfold lenI;rw[q2f,zt];omega);have e2:subI .i64 (lenI (toI (c::r))) 1=(r.length:Int):=by unfold lenI;rw[q2f,zt,q3h (by omega) (by omega)];omega
   have hm:nth (toI (0::c::r)) r.length=some (c:Int):=by rw[q6c,q6c];unfold nth;rw[zm,zM (by rw[q2f];exact Nat.le_refl _),q2f,Nat.sub_self];rfl
   have hf:takeL (setL (toI (0::c::r)) r.length ((c:Int)-1)) (c::r).length=toI ((c-1)::r):=by unfold takeL setL;rw[q6c,q6c,q6c,zm,List.set_append_right _ _ (by rw[q2f];exact Nat.le_refl _),q2f,Nat.sub_self];show List.take (r.length+1) (toI r++([(c:Int)-1]++[((0:Nat):Int)]))=_;rw[<-zm,List.take_left' (by rw[ze,q2f];rfl)];congr 2;omega
   have e3:subI .i64 (c:Int) 1=(c:Int)-1:=q3h (by omega) (by omega);simp only[c2,q05,e2,q48 (show r.length<(toI (c::r)).length by rw[q2f,zt];omega),q00,hm,e3,hf]
 intro s
 induction s with
 |nil=>
  intro c _ hc _;cases c with
  |zero=>rw[q0d (step [] [] (by decide) (.inl ⟨rfl,rfl⟩))];exact nils
  |succ c=>rw[qgv];exact done [] c hc (by decide)
 |cons d s ih=>
  intro c hx hc hs;have hd:=hx d (zf ..);have hs:s.length+1<=1000000:=hs;cases c with
  |zero=>rw[q0d (step (d::s) (toI ((d-1)::s)) hs (.inr ⟨d,s,rfl,hd.1,hd.2,rfl⟩))];exact ih (d-1) (fun x h=>hx x (zh _ h)) (by omega) (by omega)
  |succ c=>rw[qgv];exact done (d::s) c hc hs
theorem z17(b:Bool)(l:List ND)(hl:l.length<=10000):∀(f:F) (q:Nat) (s:List Nat) (most:Nat) (nb:Bool),Sits l q f->q<=l.length->(∀x,x∈s->1<=x/\x<=1000000)->s.length<=q->most<=100000->∃nb',q0g l2_em ((most:Int),⟨b,l⟩,(l.length:Int),(q:Int),⟨nb,toI (qho f.cnt s)⟩,())=q0g l2_em (((max most (if f.cnt=0 then 0 else s.length+1+f.dep):Nat):Int),⟨b,l⟩,(l.length:Int),((q+f.size:Nat):Int),⟨nb',toI (qho 0 s)⟩,()):=by
 intro f
 induction f with
 |nil=>intro q s most nb _ _ _ _ _;refine⟨nb,?_⟩;show _=q0g l2_em (((max most 0:Nat):Int),_,_,((q+0:Nat):Int),_,());rw[Nat.max_zero,Nat.add_zero];rfl
 |cons x t n ks r ih1 ih2=>
  intro q s most nb hs hq hx hj hm;obtain⟨g1,g2,g3,g4⟩:=hs.node;have hc:=ks.cnt_le;have hk:=r.cnt_le;have hn:=ks.dep_le;have ho:=r.dep_le;have e0:qho (F.cons x t n ks r).cnt s=(r.cnt+1)::s:=qgv r.cnt s;rw[e0];have hf:fit (sumI (lenI (toI ((r.cnt+1)::s))) (lenI [(ks.cnt:Int)]))=some ():=q0p (by rw[q2f,zt,List.length_singleton];omega);have hg:∀y,y∈(r.cnt+1)::s->1<=y/\y<=1000000:=by
   intro y hy;rcases zo.1 hy with rfl|hy
   ·omega
   ·exact hx y hy
  have hp:=pops b l ((max most (s.length+2):Nat):Int) (l.length:Int) (q:Int) (by omega) false ((r.cnt+1)::s) ks.cnt hg (by omega) (by rw[zt];omega);have step:l2_em ((most:Int),⟨b,l⟩,(l.length:Int),(q:Int),⟨nb,toI ((r.cnt+1)::s)⟩,())=
    some (.inl (((max most (s.length+2):Nat):Int),⟨b,l⟩,(l.length:Int),((q+1:Nat):Int),⟨false,toI (qho ks.cnt ((r.cnt+1)::s))⟩,())):=by
   unfold l2_em;simp only;rw[q0f,if_pos (by omega),q0e g1,q00];simp only[hf,q00,q9w];have e1:maxI (most:Int) (addI .i64 (lenI (toI ((r.cnt+1)::s))) 1)=((max most (s.length+2):Nat):Int):=by unfold lenI;rw[q2f,zt,add1 (by omega),z16]
   have e2:app (toI ((r.cnt+1)::s)) [(ks.cnt:Int)]=toI (ks.cnt::(r.cnt+1)::s):=(q6c _ _).symm;rw[e1,e2,hp];rfl
  rw[q0d step];obtain⟨nb1,h1⟩:=ih1 (q+1) ((r.cnt+1)::s) (max most (s.length+2)) false g2 (by omega) hg (by rw[zt];omega) (by omega);rw[h1];have e3:qho 0 ((r.cnt+1)::s)=qho r.cnt s:=rfl;rw[e3];have he:max (max most (s.length+2)) (if ks.cnt=0 then 0 else((r.cnt+1)::s).length+1+ks.dep)=max most (s.length+1+(ks.dep+1)):=by
   rw[zt];by_cases h0:ks.cnt=0
   ·rw[if_pos h0];have:ks.dep=0:=by
     cases ks with
     |nil=>rfl
     |cons _ _ _ _ r=>exact absurd h0 (Nat.succ_ne_zero _)
    omega
   ·rw[if_neg h0];omega
  rw[he];obtain⟨nb2,h2⟩:=ih2 (q+1+ks.size) s (max most (s.length+1+(ks.dep+1))) nb1 g3 (by omega) hx (by omega) (by omega);refine⟨nb2,?_⟩;rw[h2];have e4:q+1+ks.size+r.size=q+(F.cons x t n ks r).size:=by show _=q+(ks.size+r.size+1);omega
  rw[e4];have e5:max (max most (s.length+1+(ks.dep+1))) (if r.cnt=0 then 0 else s.length+1+r.dep)=max most (if(F.cons x t n ks r).cnt=0 then 0 else s.length+1+(F.cons x t n ks r).dep):=by
   have h9:(F.cons x t n ks r).cnt≠0:=Nat.succ_ne_zero _;rw[if_neg h9];show _=max most (s.length+1+max (ks.dep+1) r.dep);by_cases h0:r.cnt=0
   ·rw[if_pos h0];have:r.dep=0:=by
     cases r with
     |nil=>rfl
     |cons _ _ _ _ r=>exact absurd h0 (Nat.succ_ne_zero _)
    omega
   ·rw[if_neg h0];omega
  rw[e5]
theorem q58(x:Int)(t:List Int)(n:Int)(ks:F):Sits (tr x t n ks).flat 0 (tr x t n ks):=⟨[],by rw[zn];rfl⟩
theorem qxi(b:Bool)(x:Int)(t:List Int)(n:Int)(ks:F)(hl:ks.size+1<=10000):f_em (⟨b,(tr x t n ks).flat⟩,())=some (((ks.dep+1:Nat):Int),()):=by
 have he:(tr x t n ks).flat.length=ks.size+1:=(tr x t n ks).len;have hs:=q58 x t n ks;obtain⟨g1,g2,g3,g4⟩:=hs.node;have hg:=ks.dep_le;have hc:=ks.cnt_le;rw[u_em,q9v b _ (by omega),(q6g _).2 ⟨x,t,n,ks,rfl⟩];have hn:notB true=false:=rfl;simp only[q00,hn,q01];generalize hL:(tr x t n ks).flat=L at*
 have hf:fit (sumI (lenI ([]:List Int)) (lenI [(ks.cnt:Int)]))=some ():=q0p (by show 0+1<=_;omega);have hp:=pops b L ((1:Nat):Int) (L.length:Int) ((0:Nat):Int) (by omega) false [] ks.cnt (fun _ h=>by cases h) (by omega) (by decide);have step:l2_em (((0:Nat):Int),⟨b,L⟩,(L.length:Int),((0:Nat):Int),⟨true,[]⟩,())=
   some (.inl (((1:Nat):Int),⟨b,L⟩,(L.length:Int),((0+1:Nat):Int),⟨false,toI (qho ks.cnt [])⟩,())):=by
  unfold l2_em;simp only;rw[q0f,if_pos (by omega),q0e g1,q00];simp only[hf,q00,q9w];have e1:maxI ((0:Nat):Int) (addI .i64 (lenI ([]:List Int)) 1)=((1:Nat):Int):=rfl;have e2:app ([]:List Int) [(ks.cnt:Int)]=toI (ks.cnt::[]):=rfl;rw[e1,e2,hp];rfl
 obtain⟨nb1,h1⟩:=z17 b L (by omega) ks 1 [] 1 false g2 (by omega) (fun _ h=>by cases h) (by decide) (by decide);have goal1:q0g l2_em (0,⟨b,L⟩,lenI L,0,⟨true,[]⟩,())=_:=q0d step;rw[goal1,h1];have e6:max 1 (if ks.cnt=0 then 0 else([]:List Nat).length+1+ks.dep)=ks.dep+1:=by
  by_cases h0:ks.cnt=0
  ·rw[if_pos h0];have:ks.dep=0:=by
    cases ks with
    |nil=>rfl
    |cons _ _ _ _ r=>exact absurd h0 (Nat.succ_ne_zero _)
   omega
  ·rw[if_neg h0,List.length_nil];omega
 rw[e6];refine q08 ?_;unfold l2_em;simp only;rw[q0f,if_neg (by omega)]
def q4b(n:Int):Bool:=decide (-4611686018427387904<=n/\n<=4611686018427387903)
def rng(n:Int):Prop:=-9223372036854775808<=n/\n<=9223372036854775807
theorem qei(n:Int):IntKind.i64.wrap n=if n % 18446744073709551616<9223372036854775808 then n % 18446744073709551616 else n % 18446744073709551616-18446744073709551616:=by
 unfold IntKind.wrap;show(if(true&&decide (n % 18446744073709551616>=9223372036854775808))=true then _ else _)=_;rw[Bool.true_and];by_cases h:n % 18446744073709551616<9223372036854775808
 ·rw[if_pos h,if_neg (by simp;omega)];rfl
 ·rw[if_neg h,if_pos (by simp;omega)];rfl
theorem q30(n:Int):IntKind.u64.wrap n=n % 18446744073709551616:=by unfold IntKind.wrap;show(if(false&&_)=true then _ else _)=_;rw[Bool.false_and,if_neg (by decide)];rfl
theorem qiq(n:Int)(h:rng n):∃v,f_eu (n,())=some (v,())/\eqI v n=q4b n:=by
 obtain⟨h1,h2⟩:=h;rw[u_eu];have e1:shlI .u64 (cvI .u64 n) 1=some (IntKind.u64.wrap (cvI .u64 n*2)):=by unfold shlI;rw[if_neg (by decide)];rfl
 simp only[e1,q00];have e2:=z0s (a:=cvI .i64 (IntKind.u64.wrap (cvI .u64 n*2))) 1 (by decide);have e3:((1:Nat):Int)=1:=rfl;rw[e3] at e2;rw[e2];refine⟨_,rfl,?_⟩;unfold cvI;rw[qei,q30,q30];rw[Bool.eq_iff_iff,eqI_eq];unfold q4b;rw[decide_eq_true_eq];show(ite _ _ _) / 2=n↔_;split<;>omega
def q2x(k:Int):Int:=bif eqI k 1||eqI k 6||eqI k 9||eqI k 10||eqI k 11||eqI k 21||eqI k 23 then 0 else bif eqI k 3||eqI k 5||eqI k 7||eqI k 8||eqI k 12||eqI k 22 then 1 else bif eqI k 4||eqI k 24 then 2 else bif eqI k 2 then 3 else -1
def q60(k c:Int):Bool:=bif eqI k 5||eqI k 11 then eqI c 1 else bif eqI k 6||eqI k 7||eqI k 8||eqI k 12 then eqI c 2 else bif eqI k 9 then eqI c 3 else bif eqI k 10 then leI 3 c&&eqI (c % 2) 1 else bif eqI k 24 then true else eqI c 0
def q3e(k:Int):Bool:=leI 21 k&&leI k 24
def q7h(k:Int)(t:List Int)(hk:Int):Int:=bif eqI k 8&&notB (eqI hk 5) then 61 else bif eqI (q2x k) 1&&notB (nameOk t) then 62 else bif eqI (q2x k) 2&&notB (q8t t) then 62 else 0
def q6x(k:Int)(t:List Int)(hk:Int):Int:=bif eqI (q2x k) 0 then(bif eqS t [] then q7h k t hk else 61) else bif eqI (q2x k) 3 then(bif ltI 200 (lenI t) then 61 else q7h k t hk) else q7h k t hk
def q1y(k:Int)(t:List Int)(n c hk:Int)(pat:Bool):Int:=
 bif ltI (q2x k) 0 then 61 else bif notB (eqB (q3e k) pat) then 61 else bif notB (q60 k c) then 61 else
 bif eqI k 1||eqI k 23 then(bif q4b n then q6x k t hk else 61) else(bif eqI n 0 then q6x k t hk else 61)
def qrj:List Int:=[1,2,3,4,5,6,7,8,9,10,11,12,21,22,23,24]
theorem q9x{P:Int->Prop}(h1:P 1)(h2:P 2)(h3:P 3)(h4:P 4)(h5:P 5)(h6:P 6)(h7:P 7)(h8:P 8)(h9:P 9)(he:P 10)(hf:P 11)(hg:P 12)(hj:P 21)(hk:P 22)(hl:P 23)(hm:P 24)(ho:∀a,(∀c,c∈qrj->eqI a c=false)->P a):∀a,P a:=by
 intro a;by_cases e1:a=1
 ·rw[e1];exact h1
 by_cases e2:a=2
 ·rw[e2];exact h2
 by_cases e3:a=3
 ·rw[e3];exact h3
 by_cases e4:a=4
 ·rw[e4];exact h4
 by_cases e5:a=5
 ·rw[e5];exact h5
 by_cases e6:a=6
 ·rw[e6];exact h6
 by_cases e7:a=7
 ·rw[e7];exact h7
 by_cases e8:a=8
 ·rw[e8];exact h8
 by_cases e9:a=9
 ·rw[e9];exact h9
 by_cases e10:a=10
 ·rw[e10];exact he
 by_cases e11:a=11
 ·rw[e11];exact hf
 by_cases e12:a=12
 ·rw[e12];exact hg
 by_cases e21:a=21
 ·rw[e21];exact hj
 by_cases e22:a=22
 ·rw[e22];exact hk
 by_cases e23:a=23
 ·rw[e23];exact hl
 by_cases e24:a=24
 ·rw[e24];exact hm
 refine ho a fun c hc=>q12 ?_;rintro rfl;simp only[qrj,zo,List.not_mem_nil,or_false] at hc;omega
theorem q0v(a:Int):f_ek (a,())=some (q3e a,()):=by rw[u_ek,q9b];rfl
def F.head:F->Int
 |.nil=>0
 |.cons k _ _ _ _=>k
theorem behind{l:List ND}{k:Nat}{ks:F}{kd:Int}(hk:k<=1000000)(hs:Sits l (k+1) ks)(hn:kd=8->ks.cnt≠0):(cnd (eqI kd 8) (bnd (at? l (addI .i64 (k:Int) 1)) fun x=>some (notB (eqI x.1 5))) (some false):Option Bool)=some (eqI kd 8&&notB (eqI ks.head 5)):=by
 cases h:eqI kd 8 with
 |false=>rfl
 |true=>
  have h8:=eqI_eq.1 h;cases ks with
  |nil=>exact absurd rfl (hn h8)
  |cons x t n ks r=>rw[q05,add1 (by omega),q0e hs.node.1];rfl
theorem q1l(a c:Int):f_eh (a,c,())=some (eqI a c,()):=u_eh a c
theorem all_ok(a:Int):f_ef (a,())=some (true,()):=u_ef a
theorem z68(a:Int)(h:0<=a):f_ee (a,())=some (leI 3 a&&eqI (a % 2) 1,()):=by rw[u_ee,q8j h (by decide)];cases leI 3 a<;>rfl
theorem z69:f_ed (1,())=some (true,false,2,0,0,0,true,()):=by kernel_rfl
theorem z6a:f_ed (2,())=some (false,true,2,0,0,0,true,()):=by kernel_rfl
theorem z6b:f_ed (3,())=some (false,false,0,0,0,0,true,()):=by kernel_rfl
theorem z6c:f_ed (4,())=some (false,false,1,0,0,0,true,()):=by kernel_rfl
theorem z6d:f_ed (5,())=some (false,false,0,0,0,1,true,()):=by kernel_rfl
theorem z6e:f_ed (6,())=some (false,false,2,0,0,2,true,()):=by kernel_rfl
theorem z6f:f_ed (7,())=some (false,false,0,0,0,2,true,()):=by kernel_rfl
theorem z6g:f_ed (8,())=some (false,false,0,0,0,2,true,()):=by kernel_rfl
theorem z6h:f_ed (9,())=some (false,false,2,0,0,3,true,()):=by kernel_rfl
theorem z4j:f_ed (10,())=some (false,false,2,0,1,0,true,()):=by kernel_rfl
theorem z4k:f_ed (11,())=some (false,false,2,0,0,1,true,()):=by kernel_rfl
theorem z4l:f_ed (12,())=some (false,false,0,0,0,2,true,()):=by kernel_rfl
theorem z4m:f_ed (21,())=some (false,false,2,0,0,0,true,()):=by kernel_rfl
theorem z4n:f_ed (22,())=some (false,false,0,0,0,0,true,()):=by kernel_rfl
theorem z4o:f_ed (23,())=some (true,false,2,0,0,0,true,()):=by kernel_rfl
theorem z4p:f_ed (24,())=some (false,false,1,0,2,0,true,()):=by kernel_rfl
theorem qtk(a:Int)(h:∀c,c∈qrj->eqI a c=false):f_ed (a,())=some (false,false,2,0,3,0,false,()):=by have i1:eqI a 1=false:=h 1 (by decide);have i2:eqI a 2=false:=h 2 (by decide);have i3:eqI a 3=false:=h 3 (by decide);have i4:eqI a 4=false:=h 4 (by decide);have i5:eqI a 5=false:=h 5 (by decide);have i6:eqI a 6=false:=h 6 (by decide);have i7:eqI a 7=false:=h 7 (by decide);have i8:eqI a 8=false:=h 8 (by decide);have i9:eqI a 9=false:=h 9 (by decide);have i10:eqI a 10=false:=h 10 (by decide);have i11:eqI a 11=false:=h 11 (by decide);have i12:eqI a 12=false:=h 12 (by decide);have i21:eqI a 21=false:=h 21 (by decide);have i22:eqI a 22=false:=h 22 (by decide);have i23:eqI a 23=false:=h 23 (by decide);have i24:eqI a 24=false:=h 24 (by decide);rw[u_ed];simp only[i1,i2,i3,i4,i5,i6,i7,i8,i9,i10,i11,i12,i21,i22,i23,i24,q01,q00]
theorem e00:eqI 0 0=true:=id (Eq.refl true)
theorem e01:eqI 0 1=false:=id (Eq.refl false)
theorem e02:eqI 0 2=false:=id (Eq.refl false)
theorem e10:eqI 1 0=false:=id (Eq.refl false)
theorem e11:eqI 1 1=true:=id (Eq.refl true)
theorem e12:eqI 1 2=false:=id (Eq.refl false)
theorem e20:eqI 2 0=false:=id (Eq.refl false)
theorem e21:eqI 2 1=false:=id (Eq.refl false)
theorem e22:eqI 2 2=true:=id (Eq.refl true)
theorem nT:notB true=false:=id (Eq.refl false)
theorem nF:notB false=true:=id (Eq.refl true)
theorem qxj(b:Bool)(l:List ND)(hl:l.length<=10000){k:Nat}{t:List Int}{n:Int}{ks:F}(pat:Bool)(ht:∀b,b∈t->0<=b/\b<=255)(hr:rng n):∀kd:Int,Sits l k (tr kd t n ks)->f_ej (⟨b,l⟩,(k:Int),pat,())=some (q1y kd t n (ks.cnt:Int) ks.head pat,()):=by
 obtain⟨v,w1,w2⟩:=qiq n hr;have hc:=qxh ht;have he:=z12 ht;have hf:=z68 (ks.cnt:Int) (Int.natCast_nonneg _);refine q9x ?k1 ?k2 ?k3 ?k4 ?k5 ?k6 ?k7 ?k8 ?k9 ?k10 ?k11 ?k12 ?k21 ?k22 ?k23 ?k24 (fun a h hs=>?_)
 case k1=>
  intro h;obtain⟨g1,g2,g3,g4⟩:=h.node;rw[u_ej,q0e g1,q00,z69,q00];have e8:eqI 1 8=false:=rfl;have ep:q3e 1=false:=rfl;simp only[q0v,ep,nT,nF,q05,q01,q00,e00,e01,e02,e20,e21,e22,q1l,all_ok,hf,w1,w2,hc,he,e8];have hE:q1y 1 t n (ks.cnt:Int) ks.head pat=bif notB (eqB false pat) then 61 else bif notB (eqI (ks.cnt:Int) 0) then 61 else bif q4b n then(bif eqS t [] then 0 else 61) else 61:=by have kk:q60 1 (ks.cnt:Int)=eqI (ks.cnt:Int) 0:=rfl;unfold q1y q6x q7h;rw[kk];cases pat<;>cases eqI (ks.cnt:Int) 0<;>cases q4b n<;>cases eqS t []<;>rfl
  rw[hE];cases pat<;>cases a1:eqI (ks.cnt:Int) 0<;>cases a2:q4b n<;>cases a3:eqS t []<;>simp only[nT,nF,q05,q01,q00,e20,e21,e22,hc,he,eqB,e8,BEq.rfl,Bool.false_beq,Bool.not_true,cond_true,cond_false,a3]<;>rfl
 case k2=>
  intro h;obtain⟨g1,g2,g3,g4⟩:=h.node;rw[u_ej,q0e g1,q00,z6a,q00];have e8:eqI 2 8=false:=rfl;have ep:q3e 2=false:=rfl;simp only[q0v,ep,nT,nF,q05,q01,q00,e00,e01,e02,e22,q1l,all_ok,hf,w1,w2];have hE:q1y 2 t n (ks.cnt:Int) ks.head pat=bif notB (eqB false pat) then 61 else bif notB (eqI (ks.cnt:Int) 0) then 61 else bif eqI n 0 then(bif ltI 200 (lenI t) then 61 else 0) else 61:=by have kk:q60 2 (ks.cnt:Int)=eqI (ks.cnt:Int) 0:=rfl;unfold q1y q6x q7h;rw[kk];cases pat<;>cases eqI (ks.cnt:Int) 0<;>cases eqI n 0<;>cases ltI 200 (lenI t)<;>rfl
  rw[hE];cases pat<;>cases a1:eqI (ks.cnt:Int) 0<;>cases a2:eqI n 0<;>cases a3:ltI 200 (lenI t)<;>simp only[nT,nF,q05,q01,q00,e20,e21,e22,hc,he,eqB,e8,BEq.rfl,Bool.false_beq,Bool.not_true,cond_true,cond_false]<;>rfl
 case k3=>
  intro h;obtain⟨g1,g2,g3,g4⟩:=h.node;rw[u_ej,q0e g1,q00,z6b,q00];have e8:eqI 3 8=false:=rfl;have ep:q3e 3=false:=rfl;simp only[q0v,ep,nT,nF,q05,q01,q00,e00,e01,e02,q1l,all_ok,hf,w1,w2,hc,he,e8];have hE:q1y 3 t n (ks.cnt:Int) ks.head pat=bif notB (eqB false pat) then 61 else bif notB (eqI (ks.cnt:Int) 0) then 61 else bif eqI n 0 then(bif nameOk t then 0 else 62) else 61:=by have kk:q60 3 (ks.cnt:Int)=eqI (ks.cnt:Int) 0:=rfl;unfold q1y q6x q7h;rw[kk];cases pat<;>cases eqI (ks.cnt:Int) 0<;>cases eqI n 0<;>cases nameOk t<;>rfl
  rw[hE];cases pat<;>cases a1:eqI (ks.cnt:Int) 0<;>cases a2:eqI n 0<;>cases a3:nameOk t<;>simp only[nT,nF,q05,q01,q00,eqB,BEq.rfl,Bool.false_beq,Bool.not_true,cond_true,cond_false]<;>rfl
 case k4=>
  intro h;obtain⟨g1,g2,g3,g4⟩:=h.node;rw[u_ej,q0e g1,q00,z6c,q00];have e8:eqI 4 8=false:=rfl;have ep:q3e 4=false:=rfl;simp only[q0v,ep,nT,nF,q05,q01,q00,e00,e01,e02,e10,e11,e12,q1l,all_ok,hf,w1,w2,hc,he,e8];have hE:q1y 4 t n (ks.cnt:Int) ks.head pat=bif notB (eqB false pat) then 61 else bif notB (eqI (ks.cnt:Int) 0) then 61 else bif eqI n 0 then(bif q8t t then 0 else 62) else 61:=by have kk:q60 4 (ks.cnt:Int)=eqI (ks.cnt:Int) 0:=rfl;unfold q1y q6x q7h;rw[kk];cases pat<;>cases eqI (ks.cnt:Int) 0<;>cases eqI n 0<;>cases q8t t<;>rfl
  rw[hE];cases pat<;>cases a1:eqI (ks.cnt:Int) 0<;>cases a2:eqI n 0<;>cases a3:q8t t<;>simp only[nT,nF,q05,q01,q00,eqB,BEq.rfl,Bool.false_beq,Bool.not_true,cond_true,cond_false]<;>rfl
 case k5=>
  intro h;obtain⟨g1,g2,g3,g4⟩:=h.node;rw[u_ej,q0e g1,q00,z6d,q00];have e8:eqI 5 8=false:=rfl;have ep:q3e 5=false:=rfl;simp only[q0v,ep,nT,nF,q05,q01,q00,e00,e01,e02,q1l,all_ok,hf,w1,w2,hc,he,e8];have hE:q1y 5 t n (ks.cnt:Int) ks.head pat=bif notB (eqB false pat) then 61 else bif notB (eqI (ks.cnt:Int) 1) then 61 else bif eqI n 0 then(bif nameOk t then 0 else 62) else 61:=by have kk:q60 5 (ks.cnt:Int)=eqI (ks.cnt:Int) 1:=rfl;unfold q1y q6x q7h;rw[kk];cases pat<;>cases eqI (ks.cnt:Int) 1<;>cases eqI n 0<;>cases nameOk t<;>rfl
  rw[hE];cases pat<;>cases a1:eqI (ks.cnt:Int) 1<;>cases a2:eqI n 0<;>cases a3:nameOk t<;>simp only[nT,nF,q05,q01,q00,eqB,BEq.rfl,Bool.false_beq,Bool.not_true,cond_true,cond_false]<;>rfl
 case k6=>
  intro h;obtain⟨g1,g2,g3,g4⟩:=h.node;rw[u_ej,q0e g1,q00,z6e,q00];have e8:eqI 6 8=false:=rfl;have ep:q3e 6=false:=rfl;simp only[q0v,ep,nT,nF,q05,q01,q00,e00,e01,e02,e20,e21,e22,q1l,all_ok,hf,w1,w2,hc,he,e8];have hE:q1y 6 t n (ks.cnt:Int) ks.head pat=bif notB (eqB false pat) then 61 else bif notB (eqI (ks.cnt:Int) 2) then 61 else bif eqI n 0 then(bif eqS t [] then 0 else 61) else 61:=by have kk:q60 6 (ks.cnt:Int)=eqI (ks.cnt:Int) 2:=rfl;unfold q1y q6x q7h;rw[kk];cases pat<;>cases eqI (ks.cnt:Int) 2<;>cases eqI n 0<;>cases eqS t []<;>rfl
  rw[hE];cases pat<;>cases a1:eqI (ks.cnt:Int) 2<;>cases a2:eqI n 0<;>cases a3:eqS t []<;>simp only[nT,nF,q05,q01,q00,eqB,BEq.rfl,Bool.false_beq,Bool.not_true,cond_true,cond_false]<;>rfl
 case k7=>
  intro h;obtain⟨g1,g2,g3,g4⟩:=h.node;rw[u_ej,q0e g1,q00,z6f,q00];have e8:eqI 7 8=false:=rfl;have ep:q3e 7=false:=rfl;simp only[q0v,ep,nT,nF,q05,q01,q00,e00,e01,e02,q1l,all_ok,hf,w1,w2,hc,he,e8];have hE:q1y 7 t n (ks.cnt:Int) ks.head pat=bif notB (eqB false pat) then 61 else bif notB (eqI (ks.cnt:Int) 2) then 61 else bif eqI n 0 then(bif nameOk t then 0 else 62) else 61:=by have kk:q60 7 (ks.cnt:Int)=eqI (ks.cnt:Int) 2:=rfl;unfold q1y q6x q7h;rw[kk];cases pat<;>cases eqI (ks.cnt:Int) 2<;>cases eqI n 0<;>cases nameOk t<;>rfl
  rw[hE];cases pat<;>cases a1:eqI (ks.cnt:Int) 2<;>cases a2:eqI n 0<;>cases a3:nameOk t<;>simp only[nT,nF,q05,q01,q00,eqB,BEq.rfl,Bool.false_beq,Bool.not_true,cond_true,cond_false]<;>rfl
 case k8=>
  intro h;obtain⟨g1,g2,g3,g4⟩:=h.node;rw[u_ej,q0e g1,q00,z6g,q00];have e8:eqI 8 8=true:=rfl;have ep:q3e 8=false:=rfl;simp only[q0v,ep,nT,nF,q05,q01,q00,e00,e01,e02,q1l,all_ok,hf,w1,w2,hc,he];have hE:q1y 8 t n (ks.cnt:Int) ks.head pat=bif notB (eqB false pat) then 61 else bif notB (eqI (ks.cnt:Int) 2) then 61 else bif eqI n 0 then(bif eqI ks.head 5 then(bif nameOk t then 0 else 62) else 61) else 61:=by have kk:q60 8 (ks.cnt:Int)=eqI (ks.cnt:Int) 2:=rfl;unfold q1y q6x q7h;rw[kk];cases pat<;>cases eqI (ks.cnt:Int) 2<;>cases eqI n 0<;>cases nameOk t<;>cases eqI ks.head 5<;>rfl
  rw[hE];cases h2:eqI (ks.cnt:Int) 2 with
  |false=>cases pat<;>rfl
  |true=>have hb:=behind (kd:=8) (l:=l) (k:=k) (ks:=ks) (by omega) g2 (fun _ h0=>by have:=eqI_eq.1 h2;omega);rw[show eqI 8 8=true from rfl,q05] at hb;have hg:bnd (at? l (addI .i64 (k:Int) 1)) (fun x=>some (notB (eqI x.1 5)))=some (notB (eqI ks.head 5)):=hb;cases pat<;>cases a1:eqI n 0<;>cases a2:eqI ks.head 5<;>cases a3:nameOk t<;>simp only[nT,nF,q05,q01,q00,e8,hg,eqB,Bool.false_beq,beq_self_eq_true,Bool.not_true,a2]<;>rfl
 case k9=>
  intro h;obtain⟨g1,g2,g3,g4⟩:=h.node;rw[u_ej,q0e g1,q00,z6h,q00];have e8:eqI 9 8=false:=rfl;have ep:q3e 9=false:=rfl;simp only[q0v,ep,nT,nF,q05,q01,q00,e00,e01,e02,e20,e21,e22,q1l,all_ok,hf,w1,w2,hc,he,e8];have hE:q1y 9 t n (ks.cnt:Int) ks.head pat=bif notB (eqB false pat) then 61 else bif notB (eqI (ks.cnt:Int) 3) then 61 else bif eqI n 0 then(bif eqS t [] then 0 else 61) else 61:=by have kk:q60 9 (ks.cnt:Int)=eqI (ks.cnt:Int) 3:=rfl;unfold q1y q6x q7h;rw[kk];cases pat<;>cases eqI (ks.cnt:Int) 3<;>cases eqI n 0<;>cases eqS t []<;>rfl
  rw[hE];cases pat<;>cases a1:eqI (ks.cnt:Int) 3<;>cases a2:eqI n 0<;>cases a3:eqS t []<;>simp only[nT,nF,q05,q01,q00,eqB,BEq.rfl,Bool.false_beq,Bool.not_true,cond_true,cond_false]<;>rfl
 case k10=>
  intro h;obtain⟨g1,g2,g3,g4⟩:=h.node;rw[u_ej,q0e g1,q00,z4j,q00];have e8:eqI 10 8=false:=rfl;have ep:q3e 10=false:=rfl;simp only[q0v,ep,nT,nF,q05,q01,q00,e10,e11,e12,e20,e21,e22,q1l,all_ok,hf,w1,w2,hc,he,e8];have hE:q1y 10 t n (ks.cnt:Int) ks.head pat=bif notB (eqB false pat) then 61 else bif notB ((leI 3 (ks.cnt:Int)&&eqI ((ks.cnt:Int) % 2) 1)) then 61 else bif eqI n 0 then(bif eqS t [] then 0 else 61) else 61:=by have kk:q60 10 (ks.cnt:Int)=(leI 3 (ks.cnt:Int)&&eqI ((ks.cnt:Int) % 2) 1):=rfl;unfold q1y q6x q7h;rw[kk];cases pat<;>cases leI 3 (ks.cnt:Int)<;>cases eqI ((ks.cnt:Int) % 2) 1<;>cases eqI n 0<;>cases eqS t []<;>rfl
  rw[hE];cases pat<;>cases a1:leI 3 (ks.cnt:Int)<;>cases a2:eqI ((ks.cnt:Int) % 2) 1<;>cases a3:eqI n 0<;>cases a4:eqS t []<;>simp only[nT,nF,q05,q01,q00,eqB,BEq.rfl,Bool.false_beq,Bool.not_true,Bool.true_and,Bool.false_and,cond_true,cond_false]<;>rfl
 case k11=>
  intro h;obtain⟨g1,g2,g3,g4⟩:=h.node;rw[u_ej,q0e g1,q00,z4k,q00];have e8:eqI 11 8=false:=rfl;have ep:q3e 11=false:=rfl;simp only[q0v,ep,nT,nF,q05,q01,q00,e00,e01,e02,e20,e21,e22,q1l,all_ok,hf,w1,w2,hc,he,e8];have hE:q1y 11 t n (ks.cnt:Int) ks.head pat=bif notB (eqB false pat) then 61 else bif notB (eqI (ks.cnt:Int) 1) then 61 else bif eqI n 0 then(bif eqS t [] then 0 else 61) else 61:=by have kk:q60 11 (ks.cnt:Int)=eqI (ks.cnt:Int) 1:=rfl;unfold q1y q6x q7h;rw[kk];cases pat<;>cases eqI (ks.cnt:Int) 1<;>cases eqI n 0<;>cases eqS t []<;>rfl
  rw[hE];cases pat<;>cases a1:eqI (ks.cnt:Int) 1<;>cases a2:eqI n 0<;>cases a3:eqS t []<;>simp only[nT,nF,q05,q01,q00,eqB,BEq.rfl,Bool.false_beq,Bool.not_true,cond_true,cond_false]<;>rfl
 case k12=>
  intro h;obtain⟨g1,g2,g3,g4⟩:=h.node;rw[u_ej,q0e g1,q00,z4l,q00];have e8:eqI 12 8=false:=rfl;have ep:q3e 12=false:=rfl;simp only[q0v,ep,nT,nF,q05,q01,q00,e00,e01,e02,q1l,all_ok,hf,w1,w2,hc,he,e8];have hE:q1y 12 t n (ks.cnt:Int) ks.head pat=bif notB (eqB false pat) then 61 else bif notB (eqI (ks.cnt:Int) 2) then 61 else bif eqI n 0 then(bif nameOk t then 0 else 62) else 61:=by have kk:q60 12 (ks.cnt:Int)=eqI (ks.cnt:Int) 2:=rfl;unfold q1y q6x q7h;rw[kk];cases pat<;>cases eqI (ks.cnt:Int) 2<;>cases eqI n 0<;>cases nameOk t<;>rfl
  rw[hE];cases pat<;>cases a1:eqI (ks.cnt:Int) 2<;>cases a2:eqI n 0<;>cases a3:nameOk t<;>simp only[nT,nF,q05,q01,q00,eqB,BEq.rfl,Bool.false_beq,Bool.not_true,cond_true,cond_false]<;>rfl
 case k21=>
  intro h;obtain⟨g1,g2,g3,g4⟩:=h.node;rw[u_ej,q0e g1,q00,z4m,q00];have e8:eqI 21 8=false:=rfl;have ep:q3e 21=true:=rfl;simp only[q0v,ep,nT,nF,q05,q01,q00,e00,e01,e02,e20,e21,e22,q1l,all_ok,hf,w1,w2,hc,he,e8];have hE:q1y 21 t n (ks.cnt:Int) ks.head pat=bif notB (eqB true pat) then 61 else bif notB (eqI (ks.cnt:Int) 0) then 61 else bif eqI n 0 then(bif eqS t [] then 0 else 61) else 61:=by have kk:q60 21 (ks.cnt:Int)=eqI (ks.cnt:Int) 0:=rfl;unfold q1y q6x q7h;rw[kk];cases pat<;>cases eqI (ks.cnt:Int) 0<;>cases eqI n 0<;>cases eqS t []<;>rfl
  rw[hE];cases pat<;>cases a1:eqI (ks.cnt:Int) 0<;>cases a2:eqI n 0<;>cases a3:eqS t []<;>simp only[nT,nF,q05,q01,q00,eqB,BEq.rfl,cond_true,cond_false]<;>rfl
 case k22=>
  intro h;obtain⟨g1,g2,g3,g4⟩:=h.node;rw[u_ej,q0e g1,q00,z4n,q00];have e8:eqI 22 8=false:=rfl;have ep:q3e 22=true:=rfl;simp only[q0v,ep,nT,nF,q05,q01,q00,e00,e01,e02,q1l,all_ok,hf,w1,w2,hc,he,e8];have hE:q1y 22 t n (ks.cnt:Int) ks.head pat=bif notB (eqB true pat) then 61 else bif notB (eqI (ks.cnt:Int) 0) then 61 else bif eqI n 0 then(bif nameOk t then 0 else 62) else 61:=by have kk:q60 22 (ks.cnt:Int)=eqI (ks.cnt:Int) 0:=rfl;unfold q1y q6x q7h;rw[kk];cases pat<;>cases eqI (ks.cnt:Int) 0<;>cases eqI n 0<;>cases nameOk t<;>rfl
  rw[hE];cases pat<;>cases a1:eqI (ks.cnt:Int) 0<;>cases a2:eqI n 0<;>cases a3:nameOk t<;>simp only[nT,nF,q05,q01,q00,eqB,BEq.rfl,cond_true,cond_false]<;>rfl
 case k23=>
  intro h;obtain⟨g1,g2,g3,g4⟩:=h.node;rw[u_ej,q0e g1,q00,z4o,q00];have e8:eqI 23 8=false:=rfl;have ep:q3e 23=true:=rfl;simp only[q0v,ep,nT,nF,q05,q01,q00,e00,e01,e02,e20,e21,e22,q1l,all_ok,hf,w1,w2,hc,he,e8];have hE:q1y 23 t n (ks.cnt:Int) ks.head pat=bif notB (eqB true pat) then 61 else bif notB (eqI (ks.cnt:Int) 0) then 61 else bif q4b n then(bif eqS t [] then 0 else 61) else 61:=by have kk:q60 23 (ks.cnt:Int)=eqI (ks.cnt:Int) 0:=rfl;unfold q1y q6x q7h;rw[kk];cases pat<;>cases eqI (ks.cnt:Int) 0<;>cases q4b n<;>cases eqS t []<;>rfl
  rw[hE];cases pat<;>cases a1:eqI (ks.cnt:Int) 0<;>cases a2:q4b n<;>cases a3:eqS t []<;>simp only[nT,nF,q05,q01,q00,e20,e21,e22,hc,he,eqB,e8,BEq.rfl,cond_true,cond_false,a3]<;>rfl
 case k24=>
  intro h;obtain⟨g1,g2,g3,g4⟩:=h.node;rw[u_ej,q0e g1,q00,z4p,q00];have e8:eqI 24 8=false:=rfl;have ep:q3e 24=true:=rfl;simp only[q0v,ep,nT,nF,q05,q01,q00,e10,e11,e12,e20,e21,e22,q1l,all_ok,hf,w1,w2,hc,he,e8];have hE:q1y 24 t n (ks.cnt:Int) ks.head pat=bif notB (eqB true pat) then 61 else bif notB (true) then 61 else bif eqI n 0 then(bif q8t t then 0 else 62) else 61:=by have kk:q60 24 (ks.cnt:Int)=true:=rfl;unfold q1y q6x q7h;rw[kk];cases pat<;>cases eqI n 0<;>cases q8t t<;>rfl
  rw[hE];cases pat<;>cases a1:eqI n 0<;>cases a2:q8t t<;>simp only[nT,nF,q05,q01,q00,eqB,BEq.rfl,cond_true,cond_false]<;>rfl
 obtain⟨g1,g2,g3,g4⟩:=hs.node;rw[u_ej,q0e g1,q00,qtk a h,q00];have hE:q1y a t n (ks.cnt:Int) ks.head pat=61:=by
  have hs:q2x a=-1:=by unfold q2x;rw[h 1 (by decide),h 6 (by decide),h 9 (by decide),h 10 (by decide),h 11 (by decide),h 21 (by decide),h 23 (by decide),h 3 (by decide),h 5 (by decide),h 7 (by decide),h 8 (by decide),h 12 (by decide),h 22 (by decide),h 4 (by decide),h 24 (by decide),h 2 (by decide)];rfl
  unfold q1y;rw[hs];rfl
 rw[hE];rfl
def qrk(x:ND):Prop:=(∀b,b∈x.2.1->0<=b/\b<=255)/\x.2.1.length<=1000000/\rng x.2.2.1
def GL(l:List ND):Prop:=∀x,x∈l->qrk x
theorem GL.at{l:List ND}(h:GL l){k:Nat}{x:ND}(e:l[k]?=some x):qrk x:=h x (zO e)
def errF:Bool->Bool->Bool->F->Int
 |_,_,_,.nil=>0
 |m,pat,odd,.cons kd t n ks r=>
  bif notB (eqI (q1y kd t n (ks.cnt:Int) ks.head (pat||(m&&odd))) 0) then q1y kd t n (ks.cnt:Int) ks.head (pat||(m&&odd)) else
  bif notB (eqI (errF (eqI kd 10) (pat||(m&&odd)) false ks) 0) then errF (eqI kd 10) (pat||(m&&odd)) false ks else errF m pat (!odd) r
def errT(kd:Int)(t:List Int)(n:Int)(ks:F)(pat:Bool):Int:=bif notB (eqI (q1y kd t n (ks.cnt:Int) ks.head pat) 0) then q1y kd t n (ks.cnt:Int) ks.head pat else errF (eqI kd 10) pat false ks
theorem qrl(m pat odd:Bool):errF m pat odd .nil=0:=id (Eq.refl _)
theorem qgw(m pat odd:Bool)(kd:Int)(t:List Int)(n:Int)(ks r:F):errF m pat odd (.cons kd t n ks r)=bif notB (eqI (errT kd t n ks (pat||(m&&odd))) 0) then errT kd t n ks (pat||(m&&odd)) else errF m pat (!odd) r:=by
 conv=>lhs;unfold errF
 unfold errT;cases h:notB (eqI (q1y kd t n (ks.cnt:Int) ks.head (pat||(m&&odd))) 0) with
 |true=>rw[cond_true,cond_true,h];rfl
 |false=>rw[cond_false,cond_false]
theorem qxk(i:Nat):eqI (((i+1:Nat):Int) % 2) 1=!eqI ((i:Int) % 2) 1:=by
 by_cases h:(i:Int) % 2=1
 ·have h2:((i+1:Nat):Int) % 2=0:=by omega
  rw[h,h2];rfl
 ·have h1:(i:Int) % 2=0:=by omega
  have h2:((i+1:Nat):Int) % 2=1:=by omega
  rw[h1,h2];rfl
def qhp(to:Nat)(e:Int):Int×Int×Unit:=bif eqI e 0 then((to:Int),0,()) else(0,e,())
theorem z18(b b2:Bool)(l:List ND)(hl:l.length<=10000)(hg:GL l){k:Nat}{kd:Int}{t:List Int}{n:Int}{ks:F}(h:Sits l k (tr kd t n ks)):∀pat N,ks.size+1<=N->recN g_el N (⟨b,l⟩,(k:Int),pat,⟨b2,l⟩,())=some (qhp (k+1+ks.size) (errT kd t n ks pat)):=by
 refine F.each_one (l:=l) (P:=fun k kd t n ks=>∀pat N,ks.size+1<=N->recN g_el N (⟨b,l⟩,(k:Int),pat,⟨b2,l⟩,())=some (qhp (k+1+ks.size) (errT kd t n ks pat))) ?_ h;clear h k kd t n ks;intro k kd t n ks hs he pat N hN;obtain⟨N,rfl⟩:∃m,N=m+1:=⟨N-1,by omega⟩;show g_el (recN g_el N) _=_;obtain⟨g1,g2,g3,g4⟩:=hs.node;obtain⟨q1,q2,q3⟩:=hg.at g1;rw[u_el,u_ea,qxj b2 l hl pat q1 q3 kd hs];simp only[q00];unfold errT;cases hE:notB (eqI (q1y kd t n (ks.cnt:Int) ks.head pat) 0) with
 |true=>
  rw[q05,cond_true];unfold qhp;have:eqI (q1y kd t n (ks.cnt:Int) ks.head pat) 0=false:=by unfold notB at hE;simpa using hE
  rw[this,cond_false]
 |false=>
  rw[q01,cond_false,q0e g1,q00,add1 (by omega)];have loop:∀(g:F) (q i:Nat),g.Each (fun k kd t n ks=>∀pat N,ks.size+1<=N->recN g_el N (⟨b,l⟩,(k:Int),pat,⟨b2,l⟩,())=some (qhp (k+1+ks.size) (errT kd t n ks pat))) q->
    g.size<=N->i+g.cnt=ks.cnt->i<=1000000->
    q0g (l1_el (recN g_el N)) (⟨b,l⟩,(k:Int),pat,⟨b2,l⟩,(q:Int),(ks.cnt:Int),(i:Int),())=some (qhp (q+g.size) (errF (eqI kd 10) pat (eqI ((i:Int) % 2) 1) g)):=by
   intro g
   induction g with
   |nil=>intro q i _ _ hi _;have hi:i+0=ks.cnt:=hi;refine q08 ?_;unfold l1_el;simp only;rw[q0f,if_neg (by omega),qrl];rfl
   |cons kd' t' n' ks' r' _ ih=>
    intro q i hE hz hi hk;have hi:i+(r'.cnt+1)=ks.cnt:=hi;have hz:ks'.size+r'.size+1<=N:=hz;have hc:=ks.cnt_le;have hj:cnd pat (some true) (bnd (at? l (k:Int)) (fun x3=>cnd (eqI x3.1 10) (bnd (remI (i:Int) 2) (fun x4=>some (eqI x4 1))) (some false)))=some (pat||(eqI kd 10&&eqI ((i:Int) % 2) 1)):=by rw[q0e g1,q8j (by omega) (by decide)];simp only[q00];cases pat<;>cases eqI kd 10<;>rfl
    rw[qgw];have hw:=hE.1 (pat||(eqI kd 10&&eqI ((i:Int) % 2) 1)) N (by omega);generalize hv:errT kd' t' n' ks' (pat||(eqI kd 10&&eqI ((i:Int) % 2) 1))=v at*
    have step:l1_el (recN g_el N) (⟨b,l⟩,(k:Int),pat,⟨b2,l⟩,(q:Int),(ks.cnt:Int),(i:Int),())=
      bif eqI v 0 then some (.inl (⟨b,l⟩,(k:Int),pat,⟨b2,l⟩,((q+1+ks'.size:Nat):Int),(ks.cnt:Int),((i+1:Nat):Int),())) else some (.inr (0,v,())):=by
     unfold l1_el;simp only[hj,q00,hw];rw[q0f,if_pos (by omega),add1 (by omega)];unfold qhp;cases hf:eqI v 0 with
     |true=>rfl
     |false=>show cnd (notB (eqI v 0)) _ _=_;rw[hf];rfl
    cases hf:eqI v 0 with
    |true=>
     rw[hf,cond_true] at step;rw[q0d step,ih _ (i+1) hE.2 (by omega) (by omega) (by omega),qxk];have e:q+1+ks'.size+r'.size=q+(F.cons kd' t' n' ks' r').size:=by show _=q+(ks'.size+r'.size+1);omega
     rw[e];rfl
    |false=>rw[hf,cond_false] at step;rw[q08 step];show _=some (qhp _ v);unfold qhp;rw[hf];rfl
  have hc:=ks.cnt_le;exact loop ks (k+1) 0 he (by omega) (by omega) (by omega)
theorem qxl(b b2:Bool)(l:List ND)(hl:l.length<=10000)(hg:GL l){k:Nat}{kd:Int}{t:List Int}{n:Int}{ks:F}(pat:Bool)(h:Sits l k (tr kd t n ks)):f_el (⟨b,l⟩,(k:Int),pat,⟨b2,l⟩,())=some (qhp (k+1+ks.size) (errT kd t n ks pat)):=q4n (ks.size+1) fun N hN=>z18 b b2 l hl hg h pat N hN
abbrev Tx:=List Int
def dupL:List Tx->Bool
 |[]=>false
 |a::r=>decide (a∈r)||dupL r
theorem q9y:∀l:List Tx,dupL l=false↔l.Nodup
 |[]=>by simp[dupL]
 |a::r=>by unfold dupL;rw[List.nodup_cons,<-q9y r,Bool.or_eq_false_iff,decide_eq_false_iff_not]
def q65(l:List ND):List Tx:=l.filterMap fun x=>if x.1=22 then some x.2.1 else none
theorem qtl(a b:List ND):q65 (a++b)=q65 a++q65 b:=List.filterMap_append ..
theorem qgx(x:ND)(l:List ND):q65 (x::l)=(if x.1=22 then [x.2.1] else [])++q65 l:=by
 show List.filterMap _ (x::l)=_;rw[List.filterMap_cons];by_cases h:x.1=22
 ·rw[if_pos h,if_pos h];rfl
 ·rw[if_neg h,if_neg h];rfl
theorem qtm(l:List ND):(q65 l).length<=l.length:=List.length_filterMap_le _ _
theorem qtn(b:Bool)(l:List ND)(hl:l.length<=10000):∀(m k:Nat) (nb:Bool) (out:List Tx),k+m=l.length->out.length<=k->∃nb',q0g l1_ei (⟨b,l⟩,(l.length:Int),(k:Int),⟨nb,out⟩,())=some (⟨nb',out++q65 (l.drop k)⟩,()):=by
 intro m
 induction m with
 |zero=>intro k nb out hk _;refine⟨nb,q08 ?_⟩;unfold l1_ei;simp only;rw[q0f,if_neg (by omega),zB (by omega)];show _=some (Sum.inr ((⟨nb,out++[]⟩:Sl Tx),()));rw[zn]
 |succ m ih=>
  intro k nb out hk ho;have hc:k<l.length:=by omega
  rw[q15 hc,qgx];have he:=q0e (zj hc);by_cases h:l[k].1=22
  ·have hf:fit (sumI (lenI out) (lenI [l[k].2.1]))=some ():=q0p (by show out.length+1<=_;omega);have step:l1_ei (⟨b,l⟩,(l.length:Int),(k:Int),⟨nb,out⟩,())=some (.inl (⟨b,l⟩,(l.length:Int),((k+1:Nat):Int),⟨false,out++[l[k].2.1]⟩,())):=by unfold l1_ei;simp only;rw[q0f,if_pos (by omega),he,q00,q1r,if_pos h,hf,q00,q00,q9w,add1 (by omega)];rfl
   obtain⟨nb',h'⟩:=ih (k+1) false (out++[l[k].2.1]) (by omega) (by rw[ze,List.length_singleton];omega);refine⟨nb',?_⟩;rw[q0d step,h',if_pos h,zm]
  ·have step:l1_ei (⟨b,l⟩,(l.length:Int),(k:Int),⟨nb,out⟩,())=some (.inl (⟨b,l⟩,(l.length:Int),((k+1:Nat):Int),⟨nb,out⟩,())):=by unfold l1_ei;simp only;rw[q0f,if_pos (by omega),he,q00,q1r,if_neg h,q00,add1 (by omega)]
   obtain⟨nb',h'⟩:=ih (k+1) nb out (by omega) (by omega);refine⟨nb',?_⟩;rw[q0d step,h',if_neg h,List.nil_append]
theorem qto(b:Bool)(l:List ND)(hl:l.length<=10000):∃nb,f_ei (⟨b,l⟩,())=some (⟨nb,q65 l⟩,()):=by rw[u_ei];exact qtn b l hl l.length 0 true [] (by omega) (Nat.le_refl _)
def adj:List Tx->Bool
 |[]=>false
 |[_]=>false
 |a::b::r=>decide (a=b)||adj (b::r)
theorem qp9:∀l:List Tx,adj l=true↔∃k,k+1<l.length/\l[k+1]?=l[k]?
 |[]=>by simp[adj]
 |[a]=>by simp[adj]
 |a::b::r=>by
  unfold adj;rw[Bool.or_eq_true,decide_eq_true_eq,qp9 (b::r)];constructor
  ·rintro(h|⟨k,h1,h2⟩)
   ·exact⟨0,by simp,by simp[h]⟩
   ·exact⟨k+1,by simpa using h1,by simpa using h2⟩
  ·rintro⟨k,h1,h2⟩;cases k with
   |zero=>left;simpa using h2.symm
   |succ k=>right;exact⟨k,by simpa using h1,by simpa using h2⟩
theorem qrm(a b:Nat):sumI (a:Int) (b:Int)=((a+b:Nat):Int):=by show(a:Int)+(b:Int)=_;omega
theorem qcj{α:Type}{l:List α}{i:Nat}(h:i<l.length):nth l i=some l[i]:=by unfold nth;exact zj h
theorem qtp(k0:Nat)(nb:Bool):∀(m k k2:Nat) (s:List Tx),s.length<=1000000->k0+k2+m=s.length->1<=k2->k+1<=k0+k2->∃c:List Tx,q0g l1_dd ((k:Int),(k0:Int),(k2:Int),⟨nb,s⟩,())=some (.inr (⟨nb,c⟩,()))/\c.length<s.length:=by
 intro m
 induction m with
 |zero=>
  intro k k2 s hs h1 h2 h3;refine⟨(zerL s (k:Int) []).take k,q08 ?_,?_⟩
  ·have e1:lenI (dropL s (k0:Int))=(k2:Int):=by unfold lenI dropL;rw[zR,Int.toNat_natCast];omega
   have ez:(zerL s (k:Int) ([]:Tx)).length=s.length:=by unfold zerL;rw[ze,zP,List.length_replicate,Int.toNat_natCast];omega
   unfold l1_dd;simp only[e1];rw[q0f,if_neg (by omega)];have c1:cutN (lenI s) (k:Int)=some k:=by unfold cutN lenI;rw[if_pos (by omega),Int.toNat_natCast]
   have c2:cutN (lenI (zerL s (k:Int) ([]:Tx))) (k:Int)=some k:=by unfold cutN lenI;rw[if_pos (by omega),Int.toNat_natCast]
   rw[c1,q00,c2,q00];rfl
  ·rw[zP];omega
 |succ m ih=>
  intro k k2 s hs h1 h2 h3;have e1:lenI (dropL s (k0:Int))=((k2+m+1:Nat):Int):=by unfold lenI dropL;rw[zR,Int.toNat_natCast];omega
  have e2:subI .i64 (k2:Int) 1=((k2-1:Nat):Int):=by rw[q3h (by omega) (by omega)];omega
  have l1:leI 0 (k2:Int)=true:=zw (by omega);have l2:leI 0 ((k2-1:Nat):Int)=true:=zw (by omega);have step:∃(k':Nat) (s':List Tx),l1_dd ((k:Int),(k0:Int),(k2:Int),⟨nb,s⟩,())=some (.inl ((k':Int),(k0:Int),((k2+1:Nat):Int),⟨nb,s'⟩,()))/\s'.length=s.length/\k'+1<=k0+(k2+1):=by
   unfold l1_dd;simp only[e1];rw[q0f,if_pos (by omega),e2,l1,l2,q05,q05,qrm,qrm,q48 (by omega),q48 (by omega)];simp only[q00,qcj (show k0+k2<s.length by omega),qcj (show k0+(k2-1)<s.length by omega)];cases eqS s[k0+k2] s[k0+(k2-1)] with
   |true=>refine⟨k,s,?_,rfl,by omega⟩;simp only[notB,Bool.not_true,q01,q00,add1 (show k2<=1000000000 by omega)]
   |false=>refine⟨k+1,s.set k s[k0+k2],?_,by rw[List.length_set],by omega⟩;simp only[notB,Bool.not_false,q05,q00,q48 (show k<s.length by omega),qcj (show k<s.length by omega),add1 (show k2<=1000000000 by omega),add1 (show k<=1000000000 by omega)];rfl
  obtain⟨k',s',h4,h5,h6⟩:=step;obtain⟨c,g1,g2⟩:=ih k' (k2+1) s' (by omega) (by omega) (by omega) h6;exact⟨c,by rw[q0d h4,g1],by omega⟩
theorem qn3(nb:Bool)(s:List Tx)(hs:s.length<=1000000):∀(m k:Nat),k+m=s.length->1<=k->(∀j,j+1<k->s[j+1]?≠s[j]?)->∃c,q0g l2_dd ((k:Int),⟨nb,s⟩,())=some (⟨nb,c⟩,())/\decide (c.length<s.length)=adj s:=by
 intro m
 induction m with
 |zero=>
  intro k h1 h2 h3;refine⟨s,q08 ?_,?_⟩
  ·unfold l2_dd;simp only;rw[q0f,if_neg (by unfold lenI;omega)]
  ·have:adj s=false:=by
    cases h:adj s with
    |false=>rfl
    |true=>obtain⟨j,g1,g2⟩:=(qp9 s).1 h;exact absurd g2 (h3 j (by omega))
   rw[this];exact zu (Nat.lt_irrefl _)
 |succ m ih=>
  intro k h1 h2 h3;have e2:subI .i64 (k:Int) 1=((k-1:Nat):Int):=by rw[q3h (by omega) (by omega)];omega
  have hc:cutN (lenI s) (k:Int)=some k:=by unfold cutN lenI;rw[if_pos (by omega),Int.toNat_natCast]
  by_cases he:s[k]=s[k-1]
  ·obtain⟨c,g1,g2⟩:=qtp k nb m k 1 s hs (by omega) (Nat.le_refl _) (by omega);have g1:q0g l1_dd ((k:Int),(k:Int),1,⟨nb,s⟩,())=some (.inr (⟨nb,c⟩,())):=g1;refine⟨c,q08 ?_,?_⟩
   ·unfold l2_dd;simp only;rw[q0f,if_pos (by unfold lenI;omega),e2,q48 (by omega),q48 (by omega)];simp only[q00,qcj (show k<s.length by omega),qcj (show k-1<s.length by omega),hc];rw[qb0,if_pos he,g1]
   ·have:adj s=true:=(qp9 s).2 ⟨k-1,by omega,by rw[show k-1+1=k by omega,zj (by omega),zj (by omega),he]⟩;rw[this];exact zw g2
  ·have step:l2_dd ((k:Int),⟨nb,s⟩,())=some (.inl (((k+1:Nat):Int),⟨nb,s⟩,())):=by unfold l2_dd;simp only;rw[q0f,if_pos (by unfold lenI;omega),e2,q48 (by omega),q48 (by omega)];simp only[q00,qcj (show k<s.length by omega),qcj (show k-1<s.length by omega)];rw[qb0,if_neg he,add1 (by omega)]
   obtain⟨c,g1,g2⟩:=ih (k+1) (by omega) (by omega) (fun j hj=>by
    by_cases hf:j+1=k
    ·have:j=k-1:=by omega
     subst this;rw[show k-1+1=k by omega,zj (by omega),zj (by omega)];exact fun e=>he (zF e)
    ·exact h3 j (by omega))
   exact⟨c,by rw[q0d step,g1],g2⟩
theorem qn4(nb:Bool)(s:List Tx)(hs:s.length<=1000000):∃c,f_dd (⟨nb,s⟩,())=some (⟨nb,c⟩,())/\decide (c.length<s.length)=adj s:=by
 rw[u_dd,q0f];by_cases h:lenI s<2
 ·rw[if_pos h];refine⟨s,rfl,?_⟩;have:adj s=false:=by
   have h:(s.length:Int)<2:=h
   match s,h with
   |[],_=>rfl
   |[a],_=>rfl
   |a::b::r,h=>simp at h;omega
  rw[this];exact zu (Nat.lt_irrefl _)
 ·rw[if_neg h];have h:¬(s.length:Int)<2:=h;exact qn3 nb s hs (s.length-1) 1 (by omega) (Nat.le_refl _) (fun j hj=>by omega)
theorem qir:∀l:List Tx,(l.Pairwise fun a b=>(!strLt b a)=true)->adj l=dupL l
 |[],_=>rfl
 |[a],_=>by simp[adj,dupL]
 |a::b::r,h=>by
  have ih:=qir (b::r) (List.pairwise_cons.1 h).2;unfold adj;rw[ih]
  conv=>rhs;unfold dupL
  by_cases hc:a=b
  ·simp[hc]
  ·have hm:a∉b::r:=by
    intro hm;rcases zo.1 hm with e|e
    ·exact hc e
    ·have h1:=(List.pairwise_cons.1 h).1 b (zf ..);have h2:=(List.pairwise_cons.1 (List.pairwise_cons.1 h).2).1 a e;simp only[Bool.not_eq_true'] at h1 h2;exact hc (qb2 _ _ h2 h1)
   rw[zu hc,zu hm]
theorem z19{a b:List Tx}(h:a.Perm b):dupL a=dupL b:=by have:=h.nodup_iff;rw[<-q9y,<-q9y] at this;cases ha:dupL a<;>cases hb:dupL b<;>simp_all
theorem z6i(nb:Bool)(s:List Tx)(hs:s.length<=1000000)(hg:∀x,x∈s->qdn x=true):∃c nb',bnd (f_dm (⟨nb,s⟩,())) (fun x=>f_dd (x.1,()))=some (⟨nb',c⟩,())/\decide (c.length<s.length)=dupL s:=by
 have e:f_dm (⟨nb,s⟩,())=some (⟨nb,s.mergeSort fun a b=>!strLt b a⟩,()):=by show(bif s.all qdn&&decide (s.length<4611686018427387904) then _ else none)=_;rw[zS.2 hg,zw (show s.length<4611686018427387904 by omega)];rfl
 have hc:(s.mergeSort fun a b=>!strLt b a).length=s.length:=List.length_mergeSort _;obtain⟨c,h1,h2⟩:=qn4 nb (s.mergeSort fun a b=>!strLt b a) (by omega);rw[e,q00];refine⟨c,nb,h1,?_⟩;rw[<-hc,h2,qir,z19 (List.mergeSort_perm _ _)];refine List.pairwise_mergeSort (fun a b c h1 h2=>?_) (fun a b=>?_) _
 ·simp only[Bool.not_eq_true'] at h1 h2 ⊢;cases h3:strLt c a with
  |false=>rfl
  |true=>
   cases h4:strLt b c with
   |true=>rw[qb1 _ _ _ h4 h3] at h1;cases h1
   |false=>have e:=qb2 _ _ h2 h4;subst e;rw[h1] at h3;cases h3
 ·cases h3:strLt b a with
  |false=>rfl
  |true=>
   cases h4:strLt a b with
   |false=>rfl
   |true=>have:=qb1 _ _ _ h3 h4;rw[qee] at this;cases this
theorem Sits.flat_eq{l:List ND}{k:Nat}{f:F}(h:Sits l k f):(l.drop k).take f.size=f.flat:=by obtain⟨post,h⟩:=h;rw[h,<-f.len,List.take_left'];rfl
theorem z1a{α:Type}(a c:List α)(h:a.length=c.length):ovl a c=c:=by unfold ovl;rw[h,List.take_length,<-h,List.drop_length,zn]
theorem z1b(b:Bool)(l:List ND)(hl:l.length<=10000){k:Nat}{kd:Int}{t:List Int}{n:Int}{ks r:F}(h:Sits l k (.cons kd t n ks r)):f_eq (⟨b,l⟩,(k:Int),())=some (⟨false,(tr kd t n ks).flat⟩,0,()):=by
 obtain⟨g1,g2,g3,g4⟩:=h.node;rw[u_eq,q9u b l hl,h.ends];have hs:subI .i64 ((k+1+ks.size:Nat):Int) (k:Int)=((ks.size+1:Nat):Int):=by rw[q3h (by omega) (by omega)];omega
 have hm:mkN ((ks.size+1:Nat):Int) ((ks.size+1:Nat):Int)=some (ks.size+1):=by unfold mkN;rw[if_pos (by omega),Int.toNat_natCast]
 have hc:cutL l (k:Int) ((k+1+ks.size:Nat):Int)=some ((l.take (k+1+ks.size)).drop k):=by unfold cutL;rw[if_pos (by omega),Int.toNat_natCast,Int.toNat_natCast]
 have hd:(l.take (k+1+ks.size)).drop k=(tr kd t n ks).flat:=by rw[List.drop_take,show k+1+ks.size-k=(tr kd t n ks).size by rw[q3d];omega];exact h.first.flat_eq
 simp only[q00];rw[q0f,if_neg (by omega)];simp only[hs,hm,q00,hc,hd];rw[z1a];rw[(tr kd t n ks).len,q3d];exact List.length_replicate
theorem GL.sub{l:List ND}(hg:GL l){k:Nat}{f:F}(h:Sits l k f):GL f.flat:=by intro x hx;rw[<-h.flat_eq] at hx;exact hg x (List.mem_of_mem_drop (List.mem_of_mem_take hx))
theorem qtq{l:List ND}(hg:GL l):∀x,x∈q65 l->qdn x=true:=by
 intro x hx;obtain⟨d,h1,h2⟩:=List.mem_filterMap.1 hx;by_cases h:d.1=22
 ·rw[if_pos h] at h2;injection h2 with h2;subst h2;obtain⟨g1,g2,_⟩:=hg d h1;unfold qdn;rw[zd,zS,decide_eq_true_eq];exact⟨fun b hb=>zw (g1 b hb),by omega⟩
 ·rw[if_neg h] at h2;cases h2
theorem qpa(b:Bool)(l:List ND)(hl:l.length<=10000)(hg:GL l){k:Nat}{kd:Int}{t:List Int}{n:Int}{ks r:F}(h:Sits l k (.cons kd t n ks r)):f_eb ((k:Int),⟨b,l⟩,())=some (dupL (q65 (tr kd t n ks).flat),()):=by
 obtain⟨g1,g2,g3,g4⟩:=h.node;rw[u_eb,z1b b l hl h];simp only[q00];have hc:(tr kd t n ks).flat.length<=10000:=by rw[(tr kd t n ks).len,q3d];omega
 obtain⟨nb,h1⟩:=qto false (tr kd t n ks).flat hc;have hn:=qtm (tr kd t n ks).flat
 obtain⟨c,nb',h2,h3⟩:=z6i nb (q65 (tr kd t n ks).flat) (by omega) (qtq (hg.sub h.first));have h4:f_ec (⟨false,(tr kd t n ks).flat⟩,())=some (lenI (q65 (tr kd t n ks).flat),()):=by rw[u_ec,h1];rfl
 rw[h1];simp only[q00,h4];cases hs:f_dm (⟨nb,q65 (tr kd t n ks).flat⟩,()) with
 |none=>rw[hs] at h2;cases h2
 |some x=>rw[hs,q00] at h2;simp only[q00,h2];rw[<-h3];congr 2;exact decide_eq_decide.2 (by unfold lenI;omega)
def qgy:F->List Tx
 |.nil=>[]
 |.cons kd t _ ks r=>(bif eqI kd 22 then [t] else qgy ks)++qgy r
def q7i(kd:Int)(t:Tx)(ks:F):List Tx:=bif eqI kd 22 then [t] else qgy ks
theorem q7y(kd:Int)(t:Tx)(n:Int)(ks r:F):qgy (.cons kd t n ks r)=q7i kd t ks++qgy r:=id (Eq.refl _)
theorem qck:∀f:F,(qgy f).length<=f.size
 |.nil=>Nat.le_refl _
 |.cons kd t n ks r=>by
  have h1:=qck ks;have h2:=qck r;rw[q7y,ze];show _<=ks.size+r.size+1;unfold q7i;cases eqI kd 22 with
  |true=>show 1+_<=_;omega
  |false=>show(qgy ks).length+_<=_;omega
def twF:F->Bool
 |.nil=>false
 |.cons kd t _ ks r=>(bif q3e kd then dupL (q7i kd t ks) else twF ks)||twF r
def twT(kd:Int)(t:Tx)(ks:F):Bool:=bif q3e kd then dupL (q7i kd t ks) else twF ks
theorem qkh(kd:Int)(t:Tx)(n:Int)(ks r:F):twF (.cons kd t n ks r)=(twT kd t ks||twF r):=id (Eq.refl _)
theorem qis{a b:Int}:(bif notB (eqI a 0) then a else b)=0↔a=0/\b=0:=by
 cases h:eqI a 0 with
 |true=>have:=eqI_eq.1 h;rw[nT,cond_false];exact⟨fun e=>⟨this,e⟩,fun e=>e.2⟩
 |false=>
  have hn:a≠0:=fun e=>by rw[e] at h;cases h
  rw[nF,cond_true];exact⟨fun e=>absurd e hn,fun e=>absurd e.1 hn⟩
theorem errT_ok{kd:Int}{t:Tx}{n:Int}{ks:F}{pat:Bool}:errT kd t n ks pat=0↔q1y kd t n (ks.cnt:Int) ks.head pat=0/\errF (eqI kd 10) pat false ks=0:=qis
theorem errF_ok{m pat odd:Bool}{kd:Int}{t:Tx}{n:Int}{ks r:F}:errF m pat odd (.cons kd t n ks r)=0↔errT kd t n ks (pat||(m&&odd))=0/\errF m pat (!odd) r=0:=by rw[qgw];exact qis
def z1c(k n:Int):Bool:=bif eqI k 1||eqI k 23 then q4b n else eqI n 0
def qcl(k:Int)(t:Tx):Bool:=(bif eqI (q2x k) 0 then eqS t [] else bif eqI (q2x k) 3 then notB (ltI 200 (lenI t)) else true)&&notB (eqI (q2x k) 1&&notB (nameOk t))&&notB (eqI (q2x k) 2&&notB (q8t t))
def z4q(k hk:Int):Bool:=notB (eqI k 8&&notB (eqI hk 5))
theorem qtr(k:Int)(t:Tx)(hk:Int):q6x k t hk=0↔qcl k t=true/\z4q k hk=true:=by unfold q6x q7h qcl z4q;generalize (eqI k 8&&notB (eqI hk 5))=T;generalize eqI (q2x k) 0=s0;generalize eqI (q2x k) 1=s1;generalize eqI (q2x k) 2=s2;generalize eqI (q2x k) 3=s3;generalize eqS t []=a;generalize ltI 200 (lenI t)=c;generalize nameOk t=d;generalize q8t t=e;revert T s0 s1 s2 s3 a c d e;decide
theorem nodeE_zero{k:Int}{t:Tx}{n c hk:Int}{pat:Bool}:q1y k t n c hk pat=0↔ltI (q2x k) 0=false/\q3e k=pat/\q60 k c=true/\z1c k n=true/\qcl k t=true/\z4q k hk=true:=by
 rw[<-qtr];have e:q1y k t n c hk pat=bif ltI (q2x k) 0 then 61 else bif notB (eqB (q3e k) pat) then 61 else bif notB (q60 k c) then 61 else bif z1c k n then q6x k t hk else 61:=by unfold q1y z1c;cases (eqI k 1||eqI k 23)<;>rfl
 rw[e];cases ltI (q2x k) 0 with
 |true=>simp
 |false=>
  have hp:eqB (q3e k) pat=true↔q3e k=pat:=by cases q3e k<;>cases pat<;>decide
  cases h1:eqB (q3e k) pat with
  |false=>
   have:q3e k≠pat:=fun e=>by rw[hp.2 e] at h1;cases h1
   simp[nF,this]
  |true=>
   rw[nT,cond_false,cond_false];have:=hp.1 h1;cases q60 k c with
   |false=>simp[nF]
   |true=>
    rw[nT,cond_false];cases z1c k n with
    |false=>simp
    |true=>simp[this]
theorem q9c{k c:Int}(h:q60 k c=true):(k=5\/k=11->c=1)/\(k=6\/k=7\/k=8\/k=12->c=2)/\(k=9->c=3)/\(k=10->3<=c/\c % 2=1)/\(k=1\/k=2\/k=3\/k=4\/k=21\/k=22\/k=23->c=0):=by
 refine⟨?_,?_,?_,?_,?_⟩
 ·rintro(rfl|rfl)<;>exact eqI_eq.1 h
 ·rintro(rfl|rfl|rfl|rfl)<;>exact eqI_eq.1 h
 ·rintro rfl;exact eqI_eq.1 h
 ·rintro rfl;have h:(leI 3 c&&eqI (c % 2) 1)=true:=h;rw[zd,eqI_eq] at h;exact⟨zK h.1,h.2⟩
 ·rintro(rfl|rfl|rfl|rfl|rfl|rfl|rfl)<;>exact eqI_eq.1 h
theorem qf0{f:F}(h:(f.cnt:Int)=0):f=.nil:=by
 cases f with
 |nil=>rfl
 |cons _ _ _ _ r=>have h:((r.cnt+1:Nat):Int)=0:=h;omega
theorem qb9:∀(f:F) (m pat odd:Bool),errF m pat odd f=0->q65 f.flat=qgy f
 |.nil,_,_,_,_=>rfl
 |.cons kd t n ks r,m,pat,odd,h=>by
  obtain⟨h1,h2⟩:=errF_ok.1 h;obtain⟨h3,h4⟩:=errT_ok.1 h1;have i1:=qb9 ks _ _ _ h4;have i2:=qb9 r _ _ _ h2;show q65 ((kd,t,n,(ks.cnt:Int))::(ks.flat++r.flat))=_;rw[qgx,qtl,i1,i2,q7y];unfold q7i;by_cases hc:kd=22
  ·subst hc;have:=(q9c (nodeE_zero.1 h3).2.2.1).2.2.2.2 (by omega);rw[qf0 this,if_pos rfl];rfl
  ·rw[if_neg hc,q12 hc];rfl
theorem qn5{kd:Int}{t:Tx}{n:Int}{ks:F}{pat:Bool}(h:errT kd t n ks pat=0):q65 (tr kd t n ks).flat=q7i kd t ks:=by have h':errF false pat false (tr kd t n ks)=0:=errF_ok.2 ⟨by rw[Bool.false_and,Bool.or_false];exact h,rfl⟩;rw[qb9 _ _ _ _ h',q7y];exact zn _
theorem z1d(b:Bool)(l:List ND)(hl:l.length<=10000)(hg:GL l):∀(f:F) (q:Nat) (m pat odd:Bool),Sits l q f->q<=l.length->errF m pat odd f=0->q0g l1_e9 ((q:Int),⟨b,l⟩,())=bif twF f then some (63,()) else q0g l1_e9 (((q+f.size:Nat):Int),⟨b,l⟩,()):=by
 intro f
 induction f with
 |nil=>intro q m pat odd _ _ _;rfl
 |cons kd t n ks r ih1 ih2=>
  intro q m pat odd hs hq he;obtain⟨g1,g2,g3,g4⟩:=hs.node;obtain⟨h1,h2⟩:=errF_ok.1 he;obtain⟨h3,h4⟩:=errT_ok.1 h1;rw[qkh];have esz:q+(F.cons kd t n ks r).size=q+1+ks.size+r.size:=by show q+(ks.size+r.size+1)=_;omega
  rw[esz];have rest:=ih2 (q+1+ks.size) m pat (!odd) g3 (by omega) h2;cases hp:q3e kd with
  |true=>
   have hT:twT kd t ks=dupL (q7i kd t ks):=by unfold twT;rw[hp];rfl
   have hc:=qpa b l hl hg hs;rw[qn5 h1,<-hT] at hc;have step:l1_e9 ((q:Int),⟨b,l⟩,())=bif twT kd t ks then some (.inr (63,())) else some (.inl (((q+1+ks.size:Nat):Int),⟨b,l⟩,())):=by
    unfold l1_e9;simp only;rw[q0f,if_pos (by unfold lenI;omega),q0e g1];simp only[q00,q0v,hp,nT,q01,hc];cases twT kd t ks with
    |true=>rfl
    |false=>
     rw[q01,q9u b l hl,hs.ends];simp only[q00];have e1:subI .i64 ((q+1+ks.size:Nat):Int) 1=((q+ks.size:Nat):Int):=by rw[q3h (by omega) (by omega)];omega
     rw[e1];show some (Sum.inl (addI .i64 ((q+ks.size:Nat):Int) 1,_,()))=_;rw[add1 (by omega),show q+ks.size+1=q+1+ks.size by omega];rfl
   cases ht:twT kd t ks with
   |true=>rw[ht,cond_true] at step;rw[q08 step];rfl
   |false=>rw[ht,cond_false] at step;rw[q0d step,rest];rfl
  |false=>
   have hT:twT kd t ks=twF ks:=by unfold twT;rw[hp];rfl
   have step:l1_e9 ((q:Int),⟨b,l⟩,())=some (.inl (((q+1:Nat):Int),⟨b,l⟩,())):=by unfold l1_e9;simp only;rw[q0f,if_pos (by unfold lenI;omega),q0e g1];simp only[q00,q0v,hp,nF,q05];show some (Sum.inl (addI .i64 (q:Int) 1,_,()))=_;rw[add1 (by omega)]
   rw[q0d step,ih1 (q+1) _ _ _ g2 (by omega) h4,hT];cases twF ks with
   |true=>rfl
   |false=>rw[cond_false,rest];rfl
def chkT(kd:Int)(t:Tx)(n:Int)(ks:F)(pat:Bool):Int:=bif ltI 100 ((ks.dep+1:Nat):Int) then 60 else bif notB (eqI (errT kd t n ks pat) 0) then errT kd t n ks pat else bif twT kd t ks then 63 else 0
theorem qts(b:Bool)(kd:Int)(t:Tx)(n:Int)(ks:F)(pat:Bool)(hl:ks.size+1<=4000)(hg:GL (tr kd t n ks).flat):f_e9 (⟨b,(tr kd t n ks).flat⟩,pat,())=some (chkT kd t n ks pat,()):=by
 have hc:(tr kd t n ks).flat.length=ks.size+1:=(tr kd t n ks).len;have hs:=q58 kd t n ks;rw[u_e9,q9v b _ (by omega),(q6g _).2 ⟨kd,t,n,ks,rfl⟩,qxi b kd t n ks (by omega)];have hw:=qxl b b _ (by omega) hg pat hs;have h0:((0:Nat):Int)=0:=rfl;rw[h0] at hw;have c0:ltI 4000 (lenI (tr kd t n ks).flat)=false:=zu (by unfold lenI;omega);simp only[c0,q01,q00,nT,hw];unfold chkT;cases ltI 100 ((ks.dep+1:Nat):Int) with
 |true=>rfl
 |false=>
  rw[q01,cond_false];unfold qhp;cases hv:eqI (errT kd t n ks pat) 0 with
  |false=>rw[cond_false,nF];show cnd (notB (eqI (errT kd t n ks pat) 0)) _ _=_;rw[hv];rfl
  |true=>
   rw[cond_true,nT,cond_false];show q0g l1_e9 (0,_,())=_;have hz:=eqI_eq.1 hv;have:=z1d b (tr kd t n ks).flat (by omega) hg (tr kd t n ks) 0 false pat false hs (by omega) (errF_ok.2 ⟨by rw[Bool.false_and,Bool.or_false];exact hz,rfl⟩);rw[h0,qkh] at this;rw[this];have hf:twF .nil=false:=rfl;rw[hf,Bool.or_false];cases twT kd t ks with
   |true=>rfl
   |false=>rw[cond_false,cond_false];refine q08 ?_;unfold l1_e9;simp only;rw[q0f,if_neg (by unfold lenI;rw[hc,q3d];omega)]
theorem qtt(b:Bool)(l:List ND)(hl:l.length<=4000)(pat:Bool)(h:qai l=false):f_e9 (⟨b,l⟩,pat,())=some (60,()):=by rw[u_e9,q9v b _ (by omega),h];have c0:ltI 4000 (lenI l)=false:=zu (by unfold lenI;omega);simp only[c0,q01,q00,nF,q05]
theorem z4r(l:List ND):qai l=false\/∃kd t n ks,l=(tr kd t n ks).flat:=by
 cases h:qai l with
 |false=>exact .inl rfl
 |true=>exact .inr ((q6g l).1 h)
end Fn
end Ev