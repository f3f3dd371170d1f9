/- Layer 6 in plain words: names, trees, patterns. No statement of its own about the program. -/
import Derived.Test.YtnihgcgcdjdhiaaGreatDoorFnB
import Derived.Test.YtnihgcgcdjdhiaaGreatDoorAw
import Derived.Laws.RangeAny
namespace Ev
open Go
namespace Fn
theorem q93 {α β:Type} {x y:Option α} {f g:α→Option β} (h:lq x y) (h2:∀a,lq (f a) (g a)):lq (bnd x f) (bnd y g):=by
 intro v e;cases hx:x with
 |none=>rw [hx] at e;cases e
 |some a=>rw [hx] at e;rw [h a hx];exact h2 a v e
theorem q94 {α:Type} {c:Bool} {x y x' y':Option α} (h:lq x x') (h2:lq y y'):lq (cnd c x y) (cnd c x' y'):=by
 cases c with
 |true=>exact h
 |false=>exact h2
theorem q65 {α β:Type} {f g:α→Option β} (h:∀a,lq (f a) (g a)) (y:α⊕β):lq (sumE f y) (sumE g y):=by
 cases y with
 |inl a=>exact h a
 |inr b=>exact q07 _
theorem qig {σ ρ:Type} {f g:σ→Option (σ⊕ρ)} (h:∀s,lq (f s) (g s)) (n:Nat) (s:σ):lq (q4g f n s) (loopR g s):=fun r e=>q77 n (qid h n s r e)
def qau (K:((List Int)×Int×Int×(Sl (List Int))×Unit)→Option ((((List Int)×Int×Int×Int×(Sl (List Int))×Unit)⊕(((List Int)×Int×Int×Int×(Sl (List Int))×Unit)⊕(((List Int)×Int×Int×(Sl (List Int))×Unit)⊕(((List Int)×Int×Int×Int×Int×Unit)⊕((Sl (List Int))×Unit))))))) (x8:(List Int)×Int×Int×Int×(Sl (List Int))×Unit):Option (((List Int)×Int×Int×Int×(Sl (List Int))×Unit)⊕((((List Int)×Int×Int×(Sl (List Int))×Unit)⊕(((List Int)×Int×Int×Int×Int×Unit)⊕((Sl (List Int))×Unit))))):=cnd (ltI x8.2.2.2.1 (lenI x8.1)) (bnd (bnd (at? x8.1 x8.2.2.2.1) (fun x9=>bnd (at? ([0,0,0,0,0,0,0,0,0,1,1,1,1,1,0,0,0,0,0,0,0,0,0,0,0,0,0,0,0,0,0,0,1,0,0,0,0,0,0,0,0,0,0,0,0,0,0,0,0,0,0,0,0,0,0,0,0,0,0,0,0,0,0,0,0,0,0,0,0,0,0,0,0,0,0,0,0,0,0,0,0,0,0,0,0,0,0,0,0,0,0,0,0,0,0,0,0,0,0,0,0,0,0,0,0,0,0,0,0,0,0,0,0,0,0,0,0,0,0,0,0,0,0,0,0,0,0,0,0,0,0,0,0,0,0,0,0,0,0,0,0,0,0,0,0,0,0,0,0,0,0,0,0,0,0,0,0,0,0,0,0,0,0,0,0,0,0,0,0,0,0,0,0,0,0,0,0,0,0,0,0,0,0,0,0,0,0,0,0,0,0,0,0,0,0,0,0,0,0,0,0,0,0,0,0,0,0,0,0,0,0,0,0,0,0,0,0,0,0,0,0,0,0,0,0,0,0,0,0,0,0,0,0,0,0,0,0,0,0,0,0,0,0,0,0,0,0,0,0,0,0,0,0,0,0,0]:List Int) x9) (fun x10=>cnd (eqI x10 0) (some (Sum.inl (x8.1,x8.2.1,x8.2.2.1,addI IntKind.i64 x8.2.2.2.1 1,x8.2.2.2.2.1,()))) (bnd (cutL x8.1 x8.2.2.1 x8.2.2.2.1) (fun x11=>bnd (okAt x8.2.2.2.2.1.l x8.2.1) (fun x12=>bnd (bnd (nth x8.2.2.2.2.1.l x12) (fun _=>some x11)) (fun x14=>K (x8.1,addI IntKind.i64 x8.2.1 1,addI IntKind.i64 x8.2.2.2.1 1,⟨x8.2.2.2.2.1.nil,setL x8.2.2.2.2.1.l x12 x14⟩,())))))))) (sumE (fun x19=>some (Sum.inl (x19.1,x19.2.1,x19.2.2.1,x19.2.2.2.1,x19.2.2.2.2.1,()))))) (bnd (cnd (ltI x8.2.2.1 (lenI x8.1)) (bnd (cutL x8.1 x8.2.2.1 (lenI x8.1)) (fun x20=>bnd (okAt x8.2.2.2.2.1.l x8.2.1) (fun x21=>bnd (bnd (nth x8.2.2.2.2.1.l x21) (fun _=>some x20)) (fun x23=>some (⟨x8.2.2.2.2.1.nil,setL x8.2.2.2.2.1.l x21 x23⟩,()))))) (some (x8.2.2.2.2.1,()))) (fun x24=>some (Sum.inr (Sum.inr (Sum.inr (x24.1,()))))))
theorem z2q {K K':((List Int)×Int×Int×(Sl (List Int))×Unit)→Option ((((List Int)×Int×Int×Int×(Sl (List Int))×Unit)⊕(((List Int)×Int×Int×Int×(Sl (List Int))×Unit)⊕(((List Int)×Int×Int×(Sl (List Int))×Unit)⊕(((List Int)×Int×Int×Int×Int×Unit)⊕((Sl (List Int))×Unit))))))} (h:∀s,lq (K s) (K' s)) (s:(List Int)×Int×Int×Int×(Sl (List Int))×Unit):lq (qau K s) (qau K' s):=by
 unfold qau
 repeat' first|exact h _|exact q07 _|apply q93|apply q94|(intro _)|apply q65
def qav (K:((List Int)×Int×Int×Int×(Sl (List Int))×Unit)→Option ((((List Int)×Int×Int×(Sl (List Int))×Unit)⊕(((List Int)×Int×Int×Int×Int×Unit)⊕((Sl (List Int))×Unit))))) (x4:(List Int)×Int×Int×(Sl (List Int))×Unit):Option (((List Int)×Int×Int×(Sl (List Int))×Unit)⊕((((List Int)×Int×Int×Int×Int×Unit)⊕((Sl (List Int))×Unit)))):=bnd (cnd (ltI x4.2.2.1 (lenI x4.1)) (bnd (at? x4.1 x4.2.2.1) (fun x5=>bnd (at? ([0,0,0,0,0,0,0,0,0,1,1,1,1,1,0,0,0,0,0,0,0,0,0,0,0,0,0,0,0,0,0,0,1,0,0,0,0,0,0,0,0,0,0,0,0,0,0,0,0,0,0,0,0,0,0,0,0,0,0,0,0,0,0,0,0,0,0,0,0,0,0,0,0,0,0,0,0,0,0,0,0,0,0,0,0,0,0,0,0,0,0,0,0,0,0,0,0,0,0,0,0,0,0,0,0,0,0,0,0,0,0,0,0,0,0,0,0,0,0,0,0,0,0,0,0,0,0,0,0,0,0,0,0,0,0,0,0,0,0,0,0,0,0,0,0,0,0,0,0,0,0,0,0,0,0,0,0,0,0,0,0,0,0,0,0,0,0,0,0,0,0,0,0,0,0,0,0,0,0,0,0,0,0,0,0,0,0,0,0,0,0,0,0,0,0,0,0,0,0,0,0,0,0,0,0,0,0,0,0,0,0,0,0,0,0,0,0,0,0,0,0,0,0,0,0,0,0,0,0,0,0,0,0,0,0,0,0,0,0,0,0,0,0,0,0,0,0,0,0,0,0,0,0,0,0,0]:List Int) x5) (fun x6=>some (notB (eqI x6 0))))) (some false)) (fun x7=>cnd x7 (some (Sum.inl (x4.1,x4.2.1,addI IntKind.i64 x4.2.2.1 1,x4.2.2.2.1,()))) (K (x4.1,x4.2.1,x4.2.2.1,x4.2.2.1,x4.2.2.2.1,())))
theorem z2r {K K':((List Int)×Int×Int×Int×(Sl (List Int))×Unit)→Option ((((List Int)×Int×Int×(Sl (List Int))×Unit)⊕(((List Int)×Int×Int×Int×Int×Unit)⊕((Sl (List Int))×Unit))))} (h:∀s,lq (K s) (K' s)) (s:(List Int)×Int×Int×(Sl (List Int))×Unit):lq (qav K s) (qav K' s):=by
 unfold qav
 repeat' first|exact h _|exact q07 _|apply q93|apply q94|(intro _)|apply q65
def qaw (K:((List Int)×Int×Int×(Sl (List Int))×Unit)→Option ((((List Int)×Int×Int×Int×Int×Unit)⊕((Sl (List Int))×Unit)))) (x0:(List Int)×Int×Int×Int×Int×Unit):Option (((List Int)×Int×Int×Int×Int×Unit)⊕((Sl (List Int))×Unit)):=cnd (ltI x0.2.2.2.2.1 (lenI x0.1)) (bnd (at? x0.1 x0.2.2.2.2.1) (fun x1=>bnd (at? ([0,0,0,0,0,0,0,0,0,1,1,1,1,1,0,0,0,0,0,0,0,0,0,0,0,0,0,0,0,0,0,0,1,0,0,0,0,0,0,0,0,0,0,0,0,0,0,0,0,0,0,0,0,0,0,0,0,0,0,0,0,0,0,0,0,0,0,0,0,0,0,0,0,0,0,0,0,0,0,0,0,0,0,0,0,0,0,0,0,0,0,0,0,0,0,0,0,0,0,0,0,0,0,0,0,0,0,0,0,0,0,0,0,0,0,0,0,0,0,0,0,0,0,0,0,0,0,0,0,0,0,0,0,0,0,0,0,0,0,0,0,0,0,0,0,0,0,0,0,0,0,0,0,0,0,0,0,0,0,0,0,0,0,0,0,0,0,0,0,0,0,0,0,0,0,0,0,0,0,0,0,0,0,0,0,0,0,0,0,0,0,0,0,0,0,0,0,0,0,0,0,0,0,0,0,0,0,0,0,0,0,0,0,0,0,0,0,0,0,0,0,0,0,0,0,0,0,0,0,0,0,0,0,0,0,0,0,0,0,0,0,0,0,0,0,0,0,0,0,0,0,0,0,0,0,0]:List Int) x1) (fun x2=>some (Sum.inl (x0.1,addI IntKind.i64 x0.2.1 (andI IntKind.i64 x0.2.2.1 (xorI IntKind.i64 (-1) (cvI IntKind.i64 x2))),cvI IntKind.i64 x2,orI IntKind.u8 x0.2.2.2.1 x1,addI IntKind.i64 x0.2.2.2.2.1 1,()))))) (cnd (leI 128 x0.2.2.2.1) none (bnd (mkN x0.2.1 x0.2.1) (fun x3=>K (x0.1,0,0,⟨false,rep x3 ([]:List Int)⟩,()))))
theorem z2s {K K':((List Int)×Int×Int×(Sl (List Int))×Unit)→Option ((((List Int)×Int×Int×Int×Int×Unit)⊕((Sl (List Int))×Unit)))} (h:∀s,lq (K s) (K' s)) (s:(List Int)×Int×Int×Int×Int×Unit):lq (qaw K s) (qaw K' s):=by
 unfold qaw
 repeat' first|exact h _|exact q07 _|apply q93|apply q94|(intro _)|apply q65
def qvg:List Int:=[108,101,116,32,114,101,99,32,105,110,32,102,117,110,32,105,102,32,116,104,101,110,32,101,108,115,101,32,109,97,116,99,104,32,119,105,116,104,32,101,110,100,32,114,97,105,115,101,32,116,114,121,32,111,112,101,110,32,116,121,112,101,32,111,102,32,105,110,102,105,120,108,32,105,110,102,105,120,114,32,105,110,102,105,120,32,45,62,32,61,32,124,32,40,32,41,32,95,32,59,59]
def q4c:List (List Int):=[[108,101,116],[114,101,99],[105,110],[102,117,110],[105,102],[116,104,101,110],[101,108,115,101],[109,97,116,99,104],[119,105,116,104],[101,110,100],[114,97,105,115,101],[116,114,121],[111,112,101,110],[116,121,112,101],[111,102],[105,110,102,105,120,108],[105,110,102,105,120,114],[105,110,102,105,120],[45,62],[61],[124],[40],[41],[95],[59,59]]
noncomputable def n1:=fun s=>q4g l1_e6 200 s
noncomputable def n2:=fun s=>q4g (qau n1) 200 s
noncomputable def n3:=fun s=>q4g (qav n2) 200 s
noncomputable def n4:=fun s=>q4g (qaw n3) 200 s
theorem z5d (s):lq (n1 s) (loopR l1_e6 s):=fun _r e=>q77 200 e
theorem z5e (s):lq (n2 s) (loopR l2_e6 s):=qig (fun s=>z2q z5d s) 200 s
theorem z5f (s):lq (n3 s) (loopR l3_e6 s):=qig (fun s=>z2r z5e s) 200 s
theorem z5g (s):lq (n4 s) (loopR l4_e6 s):=qig (fun s=>z2s z5f s) 200 s
theorem qzn:n4 (qvg,0,1,0,0,())=some (⟨false,q4c⟩,()):=by kernel_rfl
theorem qrm:f_at ()=some (⟨false,q4c⟩,()):=by
 rw [u_at];have h:f_e6 (qvg,())=some (⟨false,q4c⟩,()):=by rw [u_e6];exact z5g _ _ qzn
 show bnd (f_e6 (qvg,())) _=_;rw [h];rfl
theorem qnd:f_c6 ()=some (⟨false,q4c⟩,()):=u_c6
end Fn
end Ev

namespace Ev
open Go
namespace Fn
theorem add1 {k:Nat} (h:k≤1000000000):addI .i64 (k:Int) 1=((k+1:Nat):Int):=by rw [q5q (by omega) (by omega)];omega
theorem q26 {α:Type} {l:List α} {k:Nat} (h:k<l.length):l.drop k=l[k]::l.drop (k+1):=List.drop_eq_getElem_cons h
theorem q2d {α:Type} {l:List α} {i:Nat} (h:i<l.length):okAt l (i:Int)=some i:=by unfold okAt;rw [if_pos (by omega)];rfl
theorem qrn (s:List Int) (n:Bool) (l:List (List Int)) (hl:l.length≤1000000):∀(m k:Nat),k+m=l.length→∃r,loopR l1_e4 (⟨n,l⟩,s,(l.length:Int),(k:Int),())=some (r,())∧(0≤r↔s∈l.drop k):=by
 intro m
 induction m with
 |zero=>intro k hk;refine ⟨-1,q0a ?_,by rw [zM (by omega)];simp⟩;unfold l1_e4;simp only;rw [q0p,if_neg (by omega)]
 |succ m ih=>
  intro k hk;have hc:k<l.length:=by omega
  rw [q26 hc];have step:l1_e4 (⟨n,l⟩,s,(l.length:Int),(k:Int),())=if s=l[k] then some (.inr ((k:Int),())) else some (.inl (⟨n,l⟩,s,(l.length:Int),((k+1:Nat):Int),())):=by unfold l1_e4;simp only;rw [q0p,if_pos (by omega),q06 (zf hc),q00,qen,add1 (by omega)]
  by_cases h:s=l[k]
  ·rw [if_pos h] at step;exact ⟨k,q0a step,by simp [h,-List.getElem_cons_drop]⟩
  ·rw [if_neg h] at step;obtain ⟨r,h1,h2⟩:=ih (k+1) (by omega);exact ⟨r,by rw [q0d step,h1],by rw [h2];simp [h,-List.getElem_cons_drop]⟩
theorem qih (s:List Int):f_ai (s,())=some (decide (s∈q4c),()):=by obtain ⟨r,h1,h2⟩:=qrn s false q4c (by decide) 25 0 (by decide);rw [u_ai,qrm,q00,u_dj,u_e4];have h1:loopR l1_e4 (⟨false,q4c⟩,s,lenI q4c,0,())=some (r,()):=h1;simp only [h1,q00];have:leI 0 r=decide (s∈q4c):=decide_eq_decide.2 (by rw [h2];rfl);rw [this]
theorem qvh (s:List Int) (n:Bool) (l:List (List Int)) (hl:l.length≤1000000):∀(m k:Nat),k+m=l.length→loopR l1_c2 (s,⟨n,l⟩,(k:Int),())=some (decide (s∈l.drop k),()):=by
 intro m
 induction m with
 |zero=>intro k hk;refine q0a ?_;unfold l1_c2;simp only;rw [q0p,if_neg (by unfold lenI;omega),zM (by omega)];simp
 |succ m ih=>
  intro k hk;have hc:k<l.length:=by omega
  rw [q26 hc];have step:l1_c2 (s,⟨n,l⟩,(k:Int),())=if l[k]=s then some (.inr (true,())) else some (.inl (s,⟨n,l⟩,((k+1:Nat):Int),())):=by unfold l1_c2;simp only;rw [q0p,if_pos (by unfold lenI;omega),q06 (zf hc),q00,qen,add1 (by omega)]
  by_cases h:l[k]=s
  ·rw [if_pos h] at step;rw [q0a step];simp [h,-List.getElem_cons_drop]
  ·rw [if_neg h] at step;rw [q0d step,ih (k+1) (by omega)];have:s≠l[k]:=fun e=>h e.symm;simp [this,-List.getElem_cons_drop]
theorem qkx (s:List Int):f_c2 (s,())=some (decide (s∈q4c),()):=by rw [u_c2,qnd,q00];exact qvh s false q4c (by decide) 25 0 (by decide)
def signsL:List Int:=[33,36,37,38,42,43,45,47,58,60,61,62,63,64,94,124]
theorem qvi (c:Int):∀l:List Int,(0≤ixB c l↔c∈l)
 |[]=>by simp [ixB]
 |b::r=>by
  have ih:=qvi c r;unfold ixB;by_cases h:b=c
  ·rw [if_pos h];simp [h]
  ·rw [if_neg h];have:c≠b:=fun e=>h e.symm;simp only [zm,this,false_or];rw [←ih];split<;>omega
theorem qvj (c:Int):f_ar (c,())=some (decide (c∈signsL),()):=by rw [u_ar,u_e7,q00];have:leI 0 (ixB c signsL)=decide (c∈signsL):=decide_eq_decide.2 (qvi c signsL);show some (leI 0 (ixB c signsL),())=_;rw [this]
theorem z2t (c:Int):∀(m k:Nat),k+m=16→∃r,loopR l1_c4 (c,signsL,(k:Int),())=some (r,())∧r≤5∧(r=5↔c∈signsL.drop k):=by
 have he:signsL.length=16:=rfl;intro m
 induction m with
 |zero=>
  intro k hk;rw [zM (by omega)];have last:∀(b1 b2 b3 b4:Bool),∃r:Int,(cnd b1 (some (Sum.inr (1,()))) (cnd b2 (some (Sum.inr (2,()))) (cnd b3 (some (Sum.inr (3,()))) (cnd b4 (some (Sum.inr (4,()))) (some (Sum.inr (0,())))))):Option ((Int×(List Int)×Int×Unit)⊕(Int×Unit)))=some (.inr (r,()))∧r≤5∧r≠5:=by intro b1 b2 b3 b4;cases b1<;>cases b2<;>cases b3<;>cases b4<;>exact ⟨_,rfl,by decide,by decide⟩
  have two:∀(a b:Int) (b2:Bool),(cnd (leI a c) (some b2) (some false):Option Bool)=some (leI a c&&b2):=fun a b b2=>by cases leI a c<;>rfl
  have or2:∀(b1 b2:Bool),(cnd b1 (some true) (some b2):Option Bool)=some (b1||b2):=fun b1 b2=>by cases b1<;>rfl
  obtain ⟨r,h1,h2,h3⟩:=last (leI 97 c&&leI c 122) (leI 65 c&&leI c 90) (leI 48 c&&leI c 57) (eqI c 95||eqI c 39);refine ⟨r,q0a ?_,h2,by simp [h3]⟩;unfold l1_c4;simp only;rw [q0p,if_neg (by unfold lenI;omega),two 97 0,two 65 0,two 48 0,or2];simp only [q00];exact h1
 |succ m ih=>
  intro k hk;have hc:k<signsL.length:=by omega
  rw [q26 hc];have step:l1_c4 (c,signsL,(k:Int),())=if signsL[k]=c then some (.inr (5,())) else some (.inl (c,signsL,((k+1:Nat):Int),())):=by unfold l1_c4;simp only;rw [q0p,if_pos (by unfold lenI;omega),q06 (zf hc),q00,qpn,add1 (by omega)]
  by_cases h:signsL[k]=c
  ·rw [if_pos h] at step;exact ⟨5,q0a step,by omega,by simp [h,-List.getElem_cons_drop]⟩
  ·rw [if_neg h] at step;obtain ⟨r,h1,h2,h3⟩:=ih (k+1) (by omega);have hn:c≠signsL[k]:=fun e=>h e.symm;exact ⟨r,by rw [q0d step,h1],h2,by rw [h3];simp [hn,-List.getElem_cons_drop]⟩
theorem is_spec (c:Int):∃r,f_c4 (c,())=some (r,())∧r≤5∧(r=5↔c∈signsL):=by obtain ⟨r,h1,h2,h3⟩:=z2t c 16 0 rfl;exact ⟨r,by rw [u_c4];exact h1,h2,h3⟩
def allS (s:List Int):Bool:=!s.isEmpty&&s.all fun b=>decide (b∈signsL)
def opOk (s:List Int):Bool:=allS s&&!decide (s∈q4c)
theorem qvk {b:Int} (h:b∈signsL):0≤b∧b≤126:=by unfold signsL at h;simp only [zm,List.not_mem_nil,or_false] at h;omega
theorem qvl {s:List Int} (hs:∀b,b∈s→0≤b∧b≤255) {k:Nat} (hk:k<s.length):(s[k]≤127→runeI s (k:Int)=s[k]∧nextI s (k:Int)=((k+1:Nat):Int))∧(127<s[k]→126<runeI s (k:Int)):=by
 have hb:=hs _ (List.getElem_mem hk);have he:(q7h s).size=s.length:=by show (s.map _).toArray.size=_;simp
 have hc:k<(q7h s).size:=by omega
 have hg:(((q7h s)[k]'hc).toNat:Int)=s[k]:=by
  have:(q7h s)[k]'hc=UInt8.ofNat s[k].toNat:=by have h1:(q7h s)[k]'hc=((s.map fun b=>UInt8.ofNat b.toNat).toArray)[k]'(by simpa using hk):=rfl;rw [h1,List.getElem_toArray,List.getElem_map]
  rw [this,UInt8.toNat_ofNat',Nat.mod_eq_of_lt (by omega)];omega
 unfold runeI nextI;rw [Int.toNat_natCast,if_pos (by omega)];constructor
 ·intro h;have:=decode_ascii (q7h s) k hc (by omega);rw [this];exact ⟨hg,by simp⟩
 ·intro h;have:=(decode_high (q7h s) k hc (by omega)).1;omega
theorem qzo {s:List Int} (hs:∀b,b∈s→0≤b∧b≤255):∀(m k:Nat),k+m=s.length→loopR l1_an (s,s,(k:Int),())=some ((s.drop k).all (fun b=>decide (b∈signsL))&&!s.isEmpty,()):=by
 intro m
 induction m with
 |zero=>intro k hk;refine q0a ?_;unfold l1_an;simp only;rw [q0p,if_neg (by unfold lenI;omega),zM (by omega)];cases s<;>rfl
 |succ m ih=>
  intro k hk;have hc:k<s.length:=by omega
  rw [q26 hc];obtain ⟨h1,h2⟩:=qvl hs hc;have c0:ltI (k:Int) (lenI s)=true:=zu (by unfold lenI;omega);have hb:=hs _ (List.getElem_mem hc);have step:l1_an (s,s,(k:Int),())=if s[k]∈signsL then some (.inl (s,s,((k+1:Nat):Int),())) else some (.inr (false,())):=by
   unfold l1_an;simp only [c0,q02,q00];by_cases h:s[k]≤126
   ·obtain ⟨e1,e2⟩:=h1 (by omega);rw [e1,e2];have c1:ltI 126 s[k]=false:=zw (by omega);have c2:cvI .u8 s[k]=s[k]:=by rw [z12];omega
    simp only [c1,q01,c2,qvj,q00,notB];by_cases hm:s[k]∈signsL
    ·rw [if_pos hm];simp [hm,q01]
    ·rw [if_neg hm];simp [hm,q02]
   ·have hm:s[k]∉signsL:=fun e=>by have:=qvk e;omega
    rw [if_neg hm];have c1:ltI 126 (runeI s (k:Int))=true:=by
     refine zu ?_;by_cases he:s[k]≤127
     ·rw [(h1 he).1];omega
     ·exact h2 (by omega)
    simp only [c1,q02,q00]
  by_cases hm:s[k]∈signsL
  ·rw [if_pos hm] at step;rw [q0d step,ih (k+1) (by omega)];simp [hm,-List.getElem_cons_drop]
  ·rw [if_neg hm] at step;rw [q0a step];simp [hm,-List.getElem_cons_drop]
theorem qzp {s:List Int} (hs:∀b,b∈s→0≤b∧b≤255):f_an (s,())=some (allS s,()):=by rw [u_an];have:=qzo hs s.length 0 (by omega);rw [List.drop_zero,Bool.and_comm] at this;exact this
def pre5:List Int→Nat
 |[]=>0
 |b::r=>if b∈signsL then pre5 r+1 else 0
theorem qpr:∀s:List Int,(pre5 s=s.length↔s.all (fun b=>decide (b∈signsL))=true)
 |[]=>by simp [pre5]
 |b::r=>by
  have ih:=qpr r;unfold pre5;by_cases h:b∈signsL
  ·rw [if_pos h,zt,List.all_cons];simp only [h,decide_true,Bool.true_and,←ih];omega
  ·rw [if_neg h];simp [h]
theorem qro (s:List Int) (hl:s.length≤1000000):∀(m k:Nat),k+m=s.length→loopR l1_c5 (s,(k:Int),5,5,())=some (((k+pre5 (s.drop k):Nat):Int),()):=by
 intro m
 induction m with
 |zero=>intro k hk;refine q0a ?_;unfold l1_c5;simp only;rw [q0p,if_neg (by unfold lenI;omega),zM (by omega)];rfl
 |succ m ih=>
  intro k hk;have hc:k<s.length:=by omega
  rw [q26 hc];obtain ⟨r,h1,h2,h3⟩:=is_spec s[k];have c0:ltI (k:Int) (lenI s)=true:=zu (by unfold lenI;omega);have step:l1_c5 (s,(k:Int),5,5,())=if s[k]∈signsL then some (.inl (s,((k+1:Nat):Int),5,5,())) else some (.inr ((k:Int),())):=by
   unfold l1_c5;simp only [c0,q02,q06 (zf hc),q00,h1,add1 (by omega:k≤1000000000)];by_cases hm:s[k]∈signsL
   ·rw [if_pos hm];have:r=5:=h3.2 hm;subst this;rfl
   ·rw [if_neg hm];have:leI 5 r=false:=zw (fun e=>hm (h3.1 (by omega)));simp only [this,q01,q00]
  unfold pre5;by_cases hm:s[k]∈signsL
  ·rw [if_pos hm] at step ⊢;rw [q0d step,ih (k+1) (by omega)];congr 2;omega
  ·rw [if_neg hm] at step ⊢;rw [q0a step];rfl
theorem qvm (s:List Int) (hs:∀b,b∈s→0≤b∧b≤255):f_aj ((5,s,0,0),())=some (opOk s,()):=by rw [u_aj,qzp hs,qih];have c1:ltI 0 0=false:=rfl;have c2:eqI 5 3=false:=rfl;have c3:eqI 0 0=true:=rfl;have c4:eqI 5 1=false:=rfl;have c5:eqI 5 2=false:=rfl;have c6:eqI 5 4=false:=rfl;have c7:eqI 5 5=true:=rfl;simp only [c1,c2,c3,c4,c5,c6,c7,q01,q02,q00,notB,Bool.not_true,Bool.not_false];unfold opOk;cases allS s<;>rfl
theorem qvn (s:List Int) (hl:s.length≤1000000):f_c3 ((5,s,0,0),())=some (opOk s,()):=by
 rw [u_c3];have c1:ltI 0 0=false:=rfl;have c2:eqI 5 3=false:=rfl;have c3:eqI 0 0=true:=rfl;have c4:eqI 5 1=false:=rfl;have c5:eqI 5 2=false:=rfl;have c6:eqI 5 4=false:=rfl;have c7:eqI 5 5=true:=rfl;have hw:f_c5 (s,0,5,5,())=some ((pre5 s:Int),()):=by rw [u_c5];have:=qro s hl s.length 0 (by omega);rw [List.drop_zero,zJ] at this;exact this
 have he:eqI (pre5 s:Int) (lenI s)=s.all (fun b=>decide (b∈signsL)):=by rw [Bool.eq_iff_iff,eqI_eq,←qpr];unfold lenI;omega
 have hn:eqS s []=s.isEmpty:=by cases s<;>rfl
 simp only [c1,c2,c3,c4,c5,c6,c7,q01,q02,q00,notB,hw,he,hn,qkx];unfold opOk allS;cases s.isEmpty<;>cases s.all (fun b=>decide (b∈signsL))<;>cases decide (s∈q4c)<;>rfl
end Fn
end Ev

namespace Ev
open Go
namespace Fn
def q3i (c:Int):Bool:=leI 97 c&&leI c 122
def q2a (c:Int):Bool:=leI 65 c&&leI c 90
def q95 (c:Int):Bool:=leI 48 c&&leI c 57
def q27 (c:Int):Bool:=q3i c||q2a c||q95 c||eqI c 95||eqI c 39
theorem q86 (a b:Bool):(cnd a (some b) (some false):Option Bool)=some (a&&b):=by cases a<;>rfl
theorem qky (a b:Bool):(cnd a (some true) (some b):Option Bool)=some (a||b):=by cases a<;>rfl
theorem qgo (c:Int):f_as (c,())=some (q3i c,()):=by rw [u_as,q86];rfl
theorem qgp (c:Int):f_ap (c,())=some (q2a c,()):=by rw [u_ap,q86];rfl
theorem qrp (c:Int):f_ao (c,())=some (q95 c,()):=by rw [u_ao,q86];rfl
theorem qrq (c:Int):f_aq (c,())=some (q27 c,()):=by rw [u_aq,qgo,qgp,qrp];simp only [q00,qky];rfl
theorem qvo {c:Int} (h:q27 c=true):0≤c∧c≤126:=by unfold q27 q3i q2a q95 leI at h;simp only [Bool.or_eq_true,zd,decide_eq_true_eq,eqI_eq] at h;omega
theorem qvp {s:List Int} (hs:∀b,b∈s→0≤b∧b≤255):∀(m k:Nat),k+m=s.length→loopR l1_am (s,s,(k:Int),())=some ((s.drop k).all q27&&!s.isEmpty,()):=by
 intro m
 induction m with
 |zero=>intro k hk;refine q0a ?_;unfold l1_am;simp only;rw [q0p,if_neg (by unfold lenI;omega),zM (by omega)];cases s<;>rfl
 |succ m ih=>
  intro k hk;have hc:k<s.length:=by omega
  rw [q26 hc];obtain ⟨h1,h2⟩:=qvl hs hc;have c0:ltI (k:Int) (lenI s)=true:=zu (by unfold lenI;omega);have hb:=hs _ (List.getElem_mem hc);have step:l1_am (s,s,(k:Int),())=if q27 s[k]=true then some (.inl (s,s,((k+1:Nat):Int),())) else some (.inr (false,())):=by
   unfold l1_am;simp only [c0,q02,q00];by_cases h:s[k]≤126
   ·obtain ⟨e1,e2⟩:=h1 (by omega);rw [e1,e2];have c1:ltI 126 s[k]=false:=zw (by omega);have c2:cvI .u8 s[k]=s[k]:=by rw [z12];omega
    simp only [c1,q01,c2,qrq,q00,notB];cases q27 s[k]<;>rfl
   ·have hm:¬q27 s[k]=true:=fun e=>by have:=qvo e;omega
    rw [if_neg hm];have c1:ltI 126 (runeI s (k:Int))=true:=by
     refine zu ?_;by_cases he:s[k]≤127
     ·rw [(h1 he).1];omega
     ·exact h2 (by omega)
    simp only [c1,q02,q00]
  rw [List.all_cons];cases hm:q27 s[k] with
  |true=>rw [hm,if_pos rfl] at step;rw [q0d step,ih (k+1) (by omega),Bool.true_and]
  |false=>rw [hm,if_neg (by decide)] at step;rw [q0a step,Bool.false_and,Bool.false_and]
theorem qkz {s:List Int} (hs:∀b,b∈s→0≤b∧b≤255):f_am (s,())=some (s.all q27&&!s.isEmpty,()):=by rw [u_am];exact qvp hs s.length 0 (by omega)
def qcy (c:Int):Int:=bif decide (c∈signsL) then 5 else bif q3i c then 1 else bif q2a c then 2 else bif q95 c then 3 else bif eqI c 95||eqI c 39 then 4 else 0
theorem qvq (c:Int):∀(m k:Nat),k+m=16→loopR l1_c4 (c,signsL,(k:Int),())=some (bif decide (c∈signsL.drop k) then 5 else bif q3i c then 1 else bif q2a c then 2 else bif q95 c then 3 else bif eqI c 95||eqI c 39 then 4 else 0,()):=by
 have he:signsL.length=16:=rfl;intro m
 induction m with
 |zero=>intro k hk;rw [zM (by omega)];refine q0a ?_;unfold l1_c4;simp only;rw [q0p,if_neg (by unfold lenI;omega)];simp only [q86,qky,q00];show _=some (Sum.inr (bif decide (c∈[]) then _ else _,()));have:decide (c∈([]:List Int))=false:=rfl;rw [this];show (cnd (q3i c) _ (cnd (q2a c) _ (cnd (q95 c) _ _)):Option _)=_;cases q3i c<;>cases q2a c<;>cases q95 c<;>cases (eqI c 95||eqI c 39)<;>rfl
 |succ m ih=>
  intro k hk;have hc:k<signsL.length:=by omega
  rw [q26 hc];have step:l1_c4 (c,signsL,(k:Int),())=if signsL[k]=c then some (.inr (5,())) else some (.inl (c,signsL,((k+1:Nat):Int),())):=by unfold l1_c4;simp only;rw [q0p,if_pos (by unfold lenI;omega),q06 (zf hc),q00,qpn,add1 (by omega)]
  by_cases h:signsL[k]=c
  ·rw [if_pos h] at step;rw [q0a step];simp [h,-List.getElem_cons_drop]
  ·rw [if_neg h] at step;have hn:c≠signsL[k]:=fun e=>h e.symm;rw [q0d step,ih (k+1) (by omega)];have:decide (c∈signsL[k]::signsL.drop (k+1))=decide (c∈signsL.drop (k+1)):=by simp [hn,-List.getElem_cons_drop]
   rw [this]
theorem ql0 (c:Int):f_c4 (c,())=some (qcy c,()):=by rw [u_c4];exact qvq c 16 0 rfl
theorem qc0 {c:Int} (h:c∈signsL):q27 c=false:=by unfold signsL at h;simp only [zm,List.not_mem_nil,or_false] at h;rcases h with h|h|h|h|h|h|h|h|h|h|h|h|h|h|h|h<;>subst h<;>decide
theorem qrr (c:Int):(leI 1 (qcy c)&&leI (qcy c) 4)=q27 c:=by
 unfold qcy;by_cases h:c∈signsL
 ·rw [qc0 h];simp [h,leI]
 ·simp only [h,decide_false,cond_false];unfold q27;cases q3i c<;>cases q2a c<;>cases q95 c<;>cases h1:eqI c 95<;>cases eqI c 39<;>rfl
theorem qne {c:Int} (h:q2a c=true):q3i c=false:=by
 unfold q2a q3i leI at*
 simp only [zd,decide_eq_true_eq,Bool.and_eq_false_iff,decide_eq_false_iff_not] at*
 omega
theorem qrs {c:Int} (h:q27 c=true):eqI (qcy c) 1=q3i c:=by
 unfold qcy;have hs:c∉signsL:=fun e=>by rw [qc0 e] at h;cases h
 simp only [hs,decide_false,cond_false];cases q3i c<;>cases q2a c<;>cases q95 c<;>cases (eqI c 95||eqI c 39)<;>rfl
theorem qrt {c:Int} (h:q27 c=true):eqI (qcy c) 2=q2a c:=by
 unfold qcy;have hs:c∉signsL:=fun e=>by rw [qc0 e] at h;cases h
 simp only [hs,decide_false,cond_false];cases hg:q2a c with
 |true=>rw [qne hg];rfl
 |false=>cases q3i c<;>cases q95 c<;>cases (eqI c 95||eqI c 39)<;>rfl
def preI:List Int→Nat
 |[]=>0
 |b::r=>bif q27 b then preI r+1 else 0
theorem qps:∀s:List Int,(preI s=s.length↔s.all q27=true)
 |[]=>by simp [preI]
 |b::r=>by
  have ih:=qps r;unfold preI;cases h:q27 b with
  |true=>simp only [cond_true,zt,List.all_cons,h,Bool.true_and,←ih];omega
  |false=>simp [h]
theorem qnf (s:List Int) (hl:s.length≤1000000):∀(m k:Nat),k+m=s.length→loopR l1_c5 (s,(k:Int),1,4,())=some (((k+preI (s.drop k):Nat):Int),()):=by
 intro m
 induction m with
 |zero=>intro k hk;refine q0a ?_;unfold l1_c5;simp only;rw [q0p,if_neg (by unfold lenI;omega),zM (by omega)];rfl
 |succ m ih=>
  intro k hk;have hc:k<s.length:=by omega
  rw [q26 hc];have c0:ltI (k:Int) (lenI s)=true:=zu (by unfold lenI;omega);have step:l1_c5 (s,(k:Int),1,4,())=bif q27 s[k] then some (.inl (s,((k+1:Nat):Int),1,4,())) else some (.inr ((k:Int),())):=by unfold l1_c5;simp only [c0,q02,q06 (zf hc),q00,ql0,add1 (by omega:k≤1000000000)];rw [←qrr];cases leI 1 (qcy s[k])<;>cases leI (qcy s[k]) 4<;>rfl
  unfold preI;cases hm:q27 s[k] with
  |true=>rw [hm] at step;rw [q0d step,ih (k+1) (by omega)];simp only [cond_true];congr 2;omega
  |false=>rw [hm] at step;rw [q0a step];rfl
def z2u (p:Int→Bool):List Int→Bool
 |[]=>false
 |b::_=>p b
def q2m (p:Int→Bool) (s:List Int):Bool:=s.all q27&&!s.isEmpty&&z2u p s&&!decide (s∈q4c)
theorem qvr (s:List Int) (a2 a3:Int) (hs:∀b,b∈s→0≤b∧b≤255):f_ak ((1,s,a2,a3),())=some (q2m q3i s,()):=by
 rw [u_ak,qkz hs,qih];simp only [q00];cases s with
 |nil=>rfl
 |cons b r=>have h0:at? (b::r) 0=some b:=rfl;rw [h0];simp only [q00,qgo];unfold q2m;show _=some (_&&q3i b&&_,());cases List.all (b::r) q27<;>cases q3i b<;>cases decide (b::r∈q4c)<;>rfl
theorem qvs (s:List Int) (a2 a3:Int) (hs:∀b,b∈s→0≤b∧b≤255):f_al ((2,s,a2,a3),())=some (q2m q2a s,()):=by
 rw [u_al,qkz hs,qih];simp only [q00];cases s with
 |nil=>rfl
 |cons b r=>have h0:at? (b::r) 0=some b:=rfl;rw [h0];simp only [q00,qgp];unfold q2m;show _=some (_&&q2a b&&_,());cases List.all (b::r) q27<;>cases q2a b<;>cases decide (b::r∈q4c)<;>rfl
theorem qru (s:List Int) (hs:∀b,b∈s→0≤b∧b≤255):f_aj ((1,s,0,0),())=some (q2m q3i s,()):=by rw [u_aj,qvr s 0 0 hs];have c1:ltI 0 0=false:=rfl;have c2:eqI 1 3=false:=rfl;have c3:eqI 0 0=true:=rfl;have c4:eqI 1 1=true:=rfl;simp only [c1,c2,c3,c4,q01,q02,q00,notB,Bool.not_true,Bool.not_false]
theorem qc1 (s:List Int) (hs:∀b,b∈s→0≤b∧b≤255):f_aj ((2,s,0,0),())=some (q2m q2a s,()):=by rw [u_aj,qvs s 0 0 hs];have c1:ltI 0 0=false:=rfl;have c2:eqI 2 3=false:=rfl;have c3:eqI 0 0=true:=rfl;have c4:eqI 2 1=false:=rfl;have c5:eqI 2 2=true:=rfl;simp only [c1,c2,c3,c4,c5,q01,q02,q00,notB,Bool.not_true,Bool.not_false]
theorem z13 (k:Int) (p:Int→Bool) (hp:∀c,q27 c=true→eqI (qcy c) k=p c) (s:List Int) (hl:s.length≤1000000) (X:Option (Bool×Unit)):cnd (notB (eqS s ([]:List Int))) (bnd (at? s 0) (fun x1=>bnd (f_c4 (x1,())) (fun x2=>cnd (eqI x2.1 k) (bnd (f_c5 (s,0,1,4,())) (fun x3=>cnd (eqI x3.1 (lenI s)) (bnd (f_c2 (s,())) (fun x4=>some (notB x4.1,()))) (some (false,())))) (some (false,()))))) X=bif s.isEmpty then X else some (q2m p s,()):=by
 have hw:f_c5 (s,0,1,4,())=some ((preI s:Int),()):=by rw [u_c5];have:=qnf s hl s.length 0 (by omega);rw [List.drop_zero,zJ] at this;exact this
 have he:eqI (preI s:Int) (lenI s)=s.all q27:=by rw [Bool.eq_iff_iff,eqI_eq,←qps];unfold lenI;omega
 cases s with
 |nil=>rfl
 |cons b r=>
  have hn:eqS (b::r) []=false:=rfl;have h0:at? (b::r) 0=some b:=rfl;simp only [hn,notB,Bool.not_false,q02,h0,q00,ql0,hw,he,qkx];have hi:List.isEmpty (b::r)=false:=rfl;rw [hi,cond_false];unfold q2m;rw [hi];show _=some (_&&p b&&_,());cases hb:q27 b with
  |true=>rw [hp b hb];cases List.all (b::r) q27<;>cases p b<;>cases decide (b::r∈q4c)<;>rfl
  |false=>
   have ha:List.all (b::r) q27=false:=by rw [List.all_cons,hb];rfl
   rw [ha];cases eqI (qcy b) k<;>rfl
theorem qrv (s:List Int) (hl:s.length≤1000000):f_c3 ((1,s,0,0),())=some (q2m q3i s,()):=by rw [u_c3];have c1:ltI 0 0=false:=rfl;have c3:eqI 0 0=true:=rfl;have c4:eqI 1 1=true:=rfl;simp only [c1,c3,c4,q01,q02,q00];rw [z13 1 q3i (fun c h=>qrs h) s hl];cases s<;>rfl
theorem qc2 (s:List Int) (hl:s.length≤1000000):f_c3 ((2,s,0,0),())=some (q2m q2a s,()):=by rw [u_c3];have c1:ltI 0 0=false:=rfl;have c3:eqI 0 0=true:=rfl;have c4:eqI 2 1=false:=rfl;have c5:eqI 2 2=true:=rfl;simp only [c1,c3,c4,c5,q01,q02,q00];rw [z13 2 q2a (fun c h=>qrt h) s hl];cases s<;>rfl
def nameOk (s:List Int):Bool:=q2m q3i s||opOk s
def q1l (s:List Int):Bool:=q2m q2a s
theorem qvt {s:List Int} (hs:∀b,b∈s→0≤b∧b≤255):f_e9 (s,())=some (nameOk s,()):=by rw [u_e9,qru s hs,qvm s hs];simp only [q00,qky];rfl
theorem qzq {s:List Int} (hs:∀b,b∈s→0≤b∧b≤255):f_e8 (s,())=some (q1l s,()):=by rw [u_e8,qc1 s hs];rfl
theorem qrw {s:List Int} (hl:s.length≤1000000):f_ca (s,())=some (nameOk s,()):=by rw [u_ca,qrv s hl,qvn s hl];simp only [q00,qky];rfl
theorem qvu {s:List Int} (hl:s.length≤1000000):f_c8 (s,())=some (q1l s,()):=by rw [u_c8,qc2 s hl];rfl
end Fn
end Ev

namespace Ev
open Go
namespace Fn
abbrev ND:=Int×List Int×Int×Int
inductive F where
 |nil:F
 |cons:Int→List Int→Int→F→F→F
def F.cnt:F→Nat
 |.nil=>0
 |.cons _ _ _ _ r=>r.cnt+1
def F.flat:F→List ND
 |.nil=>[]
 |.cons k t n ks r=>(k,t,n,(ks.cnt:Int))::(ks.flat++r.flat)
def F.size:F→Nat
 |.nil=>0
 |.cons _ _ _ ks r=>ks.size+r.size+1
def F.dep:F→Nat
 |.nil=>0
 |.cons _ _ _ ks r=>max (ks.dep+1) r.dep
def F.app:F→F→F
 |.nil,g=>g
 |.cons k t n ks r,g=>.cons k t n ks (r.app g)
abbrev tr (k:Int) (t:List Int) (n:Int) (ks:F):F:=.cons k t n ks .nil
theorem F.len:∀f:F,f.flat.length=f.size
 |.nil=>rfl
 |.cons k t n ks r=>by show (_::(ks.flat++r.flat)).length=ks.size+r.size+1;rw [zt,zj,ks.len,r.len]
theorem F.cnt_le:∀f:F,f.cnt≤f.size
 |.nil=>Nat.le_refl _
 |.cons k t n ks r=>by have:=r.cnt_le;show r.cnt+1≤ks.size+r.size+1;omega
theorem F.dep_le:∀f:F,f.dep≤f.size
 |.nil=>Nat.le_refl _
 |.cons k t n ks r=>by have h1:=r.dep_le;have h2:=ks.dep_le;show max (ks.dep+1) r.dep≤ks.size+r.size+1;omega
theorem q28 (k:Int) (t:List Int) (n:Int) (ks:F):(tr k t n ks).flat=(k,t,n,(ks.cnt:Int))::ks.flat:=by show _::(ks.flat++[])=_;rw [zD]
theorem q66 (k:Int) (t:List Int) (n:Int) (ks:F):(tr k t n ks).size=ks.size+1:=rfl
def skip (N:Nat):List ND→Nat→Option (List ND)
 |l,0=>some l
 |[],_+1=>none
 |d::r,c+1=>if 0≤d.2.2.2∧d.2.2.2≤(N:Int) then skip N r (c+d.2.2.2.toNat) else none
theorem q6j (N:Nat) (l:List ND):skip N l 0=some l:=by cases l<;>rfl
theorem q4d (N:Nat) (d:ND) (r:List ND) (c:Nat):skip N (d::r) (c+1)=if 0≤d.2.2.2∧d.2.2.2≤(N:Int) then skip N r (c+d.2.2.2.toNat) else none:=by conv=>lhs;unfold skip
theorem qax (N:Nat):∀(f:F) (c:Nat) (post:List ND),f.size≤N→skip N (f.flat++post) (f.cnt+c)=skip N post c
 |.nil,c,post,_=>by show skip N post (0+c)=_;rw [zJ]
 |.cons k t n ks r,c,post,h=>by
  have h:ks.size+r.size+1≤N:=h;have hc:=ks.cnt_le;show skip N ((k,t,n,(ks.cnt:Int))::((ks.flat++r.flat)++post)) (r.cnt+1+c)=_;have e:r.cnt+1+c=(r.cnt+c)+1:=by omega
  rw [e,q4d];rw [if_pos ⟨by show (0:Int)≤(ks.cnt:Int);omega,by show (ks.cnt:Int)≤N;omega⟩];show skip N _ (r.cnt+c+(ks.cnt:Int).toNat)=_;rw [Int.toNat_natCast,zC,Nat.add_comm (r.cnt+c),qax N ks _ _ (by omega),qax N r _ _ (by omega)]
theorem F.split:∀(g:F) (a c:Nat),g.cnt=a+c→∃x y:F,x.cnt=a∧y.cnt=c∧g.flat=x.flat++y.flat
 |g,0,c,h=>⟨.nil,g,rfl,by omega,rfl⟩
 |.nil,a+1,c,h=>by have h:0=a+1+c:=h;omega
 |.cons k t n ks r,a+1,c,h=>by
  have h:r.cnt+1=a+1+c:=h;obtain ⟨x,y,h1,h2,h3⟩:=r.split a c (by omega);refine ⟨.cons k t n ks x,y,by show x.cnt+1=_;omega,h2,?_⟩;show _::(ks.flat++r.flat)=_::(ks.flat++x.flat)++y.flat
  rw [h3,List.cons_append,zC]
theorem qc3 (N:Nat):∀(l:List ND) (c:Nat) (rest:List ND),skip N l c=some rest→∃f:F,f.cnt=c∧l=f.flat++rest
 |l,0,rest,h=>by rw [q6j] at h;injection h with h;exact ⟨.nil,rfl,h⟩
 |[],c+1,rest,h=>by cases h
 |d::r,c+1,rest,h=>by
  obtain ⟨k,t,n,z⟩:=d;rw [q4d] at h;have h:(if 0≤z∧z≤(N:Int) then skip N r (c+z.toNat) else none)=some rest:=h;by_cases hz:0≤z∧z≤(N:Int)
  ·rw [if_pos hz] at h;obtain ⟨g,h1,h2⟩:=qc3 N r _ rest h;obtain ⟨x,y,h3,h4,h5⟩:=g.split z.toNat c (by omega);refine ⟨.cons k t n x y,by show y.cnt+1=_;omega,?_⟩;show _=(k,t,n,(x.cnt:Int))::(x.flat++y.flat)++rest;rw [h2,h5,h3,Int.toNat_of_nonneg hz.1];rfl
  ·rw [if_neg hz] at h;cases h
theorem qpt (N:Nat):∀(l:List ND) (a b:Nat),skip N l (a+b)=(skip N l a).bind fun r=>skip N r b
 |l,0,b=>by rw [q6j,zJ];rfl
 |[],a+1,b=>by
  have e:a+1+b=(a+b)+1:=by omega
  rw [e];rfl
 |d::r,a+1,b=>by
  have e:a+1+b=(a+b)+1:=by omega
  rw [e,q4d,q4d];by_cases h:0≤d.2.2.2∧d.2.2.2≤(N:Int)
  ·rw [if_pos h,if_pos h];have e2:a+b+d.2.2.2.toNat=(a+d.2.2.2.toNat)+b:=by omega
   rw [e2];exact qpt N r _ b
  ·rw [if_neg h,if_neg h];rfl
theorem qzr (N:Nat) {l:List ND} {c:Nat} {rest:List ND} (h:skip N l c=some rest):c≤l.length-rest.length∧rest.length≤l.length∧rest=l.drop (l.length-rest.length):=by obtain ⟨f,h1,h2⟩:=qc3 N l c rest h;have:=f.cnt_le;have h3:=f.len;subst h2;rw [zj];refine ⟨by omega,by omega,?_⟩;rw [show f.flat.length+rest.length-rest.length=f.flat.length by omega,List.drop_left'];rfl
def endZ (l:List ND) (k c:Nat):Int:=(skip l.length (l.drop k) c).elim (-1) fun r=>(l.length:Int)-(r.length:Int)
theorem qzs (b:Bool) (l:List ND) (hl:l.length≤10000):∀(m k c:Nat),k+m=l.length→c≤k*10000→loopR l1_ep (⟨b,l⟩,(k:Int),((c+1:Nat):Int),())=some (endZ l k (c+1),()):=by
 intro m
 induction m with
 |zero=>intro k c hk hc;refine q0a ?_;unfold l1_ep;have c0:leI (lenI l) (k:Int)=true:=zu (by unfold lenI;omega);simp only [c0,q02,q00];unfold endZ;rw [zM (by omega)];rfl
 |succ m ih=>
  intro k c hk hc;have hg:k<l.length:=by omega
  obtain ⟨d,hd⟩:∃d,l[k]?=some d:=⟨_,zf hg⟩;have hf:l.drop k=d::l.drop (k+1):=by rw [q26 hg];rw [zf hg] at hd;injection hd with hd;rw [hd]
  obtain ⟨x,t,n,z⟩:=d;have c0:leI (lenI l) (k:Int)=false:=zw (by unfold lenI;omega);have hj:=q06 hd;by_cases hz:0≤z∧z≤(l.length:Int)
  ·have c1:ltI z 0=false:=zw (by omega);have c2:ltI (lenI l) z=false:=zw (by unfold lenI;omega);have e1:subI .i64 z 1=z-1:=q38 (by omega) (by omega);have e2:addI .i64 ((c+1:Nat):Int) (z-1)=((c+z.toNat:Nat):Int):=by rw [q5q (by omega) (by omega)];omega
   have e3:=add1 (show k≤1000000000 by omega);have step:l1_ep (⟨b,l⟩,(k:Int),((c+1:Nat):Int),())=if 0<c+z.toNat then some (.inl (⟨b,l⟩,((k+1:Nat):Int),((c+z.toNat:Nat):Int),())) else some (.inr (((k+1:Nat):Int),())):=by
    unfold l1_ep;simp only [c0,q01,q00,hj,c1,c2,e1,e2,e3];rw [q0p];by_cases h:0<c+z.toNat
    ·rw [if_pos h,if_pos (by omega)]
    ·rw [if_neg h,if_neg (by omega)]
   have he:endZ l k (c+1)=(skip l.length (l.drop (k+1)) (c+z.toNat)).elim (-1) fun r=>(l.length:Int)-(r.length:Int):=by unfold endZ;rw [hf,q4d];rw [if_pos (show 0≤(x,t,n,z).2.2.2∧(x,t,n,z).2.2.2≤(l.length:Int) from hz)]
   rw [he];by_cases h:0<c+z.toNat
   ·rw [if_pos h] at step;rw [q0d step];obtain ⟨c',hm⟩:∃c',c+z.toNat=c'+1:=⟨c+z.toNat-1,by omega⟩;rw [hm];exact ih (k+1) c' (by omega) (by omega)
   ·rw [if_neg h] at step;rw [q0a step];have h0:c+z.toNat=0:=by omega
    rw [h0,q6j];show some (((k+1:Nat):Int),())=some ((l.length:Int)-((l.drop (k+1)).length:Int),());rw [jc];congr 2;omega
  ·have he:endZ l k (c+1)=-1:=by unfold endZ;rw [hf,q4d];rw [if_neg (show ¬(0≤(x,t,n,z).2.2.2∧(x,t,n,z).2.2.2≤(l.length:Int)) from hz)];rfl
   rw [he];refine q0a ?_;unfold l1_ep;simp only [c0,q01,q00,hj];cases h1:ltI z 0 with
   |true=>simp only [q02,q00]
   |false=>
    have c2:ltI (lenI l) z=true:=by have:=of_decide_eq_false h1;exact zu (by unfold lenI;omega)
    simp only [q01,q00,c2,q02]
theorem q8r (b:Bool) (l:List ND) (hl:l.length≤10000) (k:Nat):f_ep (⟨b,l⟩,(k:Int),())=some (endZ l k 1,()):=by
 rw [u_ep];have c0:ltI (k:Int) 0=false:=zw (by omega);rw [c0,q01];by_cases h:k≤l.length
 ·exact qzs b l hl (l.length-k) k 0 (by omega) (by omega)
 ·have he:endZ l k 1=-1:=by unfold endZ;rw [zM (by omega)];rfl
  rw [he];refine q0a ?_;unfold l1_ep;have c0:leI (lenI l) (k:Int)=true:=zu (by unfold lenI;omega);simp only [c0,q02,q00]
theorem qzt {l:List ND} {k c:Nat} (h:skip l.length (l.drop k) c=none):endZ l k c=-1:=by unfold endZ;rw [h];rfl
theorem z49 (b:Bool) (l:List ND) (hl:l.length≤10000):∀(N m k:Nat),l.length-k<N→l.length-k=m→recN g_bx N (⟨b,l⟩,(k:Int),())=some (endZ l k 1,()):=by
 intro N
 induction N with
 |zero=>intro m k h;exact absurd h (Nat.not_lt_zero _)
 |succ N ih=>
  intro m k hN hm;show g_bx (recN g_bx N) _=_;rw [u_bx];have c0:ltI (k:Int) 0=false:=zw (by omega);simp only [c0,q01];by_cases hg:k<l.length
  ·obtain ⟨d,hd⟩:∃d,l[k]?=some d:=⟨_,zf hg⟩;have hc:l.drop k=d::l.drop (k+1):=by rw [q26 hg];rw [zf hg] at hd;injection hd with hd;rw [hd]
   obtain ⟨x,t,n,z⟩:=d;have c0:leI (lenI l) (k:Int)=false:=zw (by unfold lenI;omega);have hf:=q06 hd;by_cases hz:0≤z∧z≤(l.length:Int)
   ·have c1:ltI z 0=false:=zw (by omega);have c2:ltI (lenI l) z=false:=zw (by unfold lenI;omega);have e3:=add1 (show k≤1000000000 by omega);simp only [c0,q01,q00,hf,c1,c2,e3];have he:endZ l k 1=(skip l.length (l.drop (k+1)) z.toNat).elim (-1) fun r=>(l.length:Int)-(r.length:Int):=by unfold endZ;rw [hc,q4d];rw [if_pos (show 0≤(x,t,n,z).2.2.2∧(x,t,n,z).2.2.2≤(l.length:Int) from hz),zJ]
    rw [he];have loop:∀(j i q:Nat),(i:Int)+j=z→k<q→q≤l.length→
      loopR (l1_bx (recN g_bx N)) (⟨b,l⟩,(k:Int),(q:Int),(i:Int),())=some ((skip l.length (l.drop q) j).elim (-1) fun r=>(l.length:Int)-(r.length:Int),()):=by
     intro j
     induction j with
     |zero=>intro i q h1 h2 h3;refine q0a ?_;unfold l1_bx;simp only [hf,q00];rw [q0p,if_neg (by omega),q6j];show _=some (Sum.inr ((l.length:Int)-((l.drop q).length:Int),()));rw [jc];congr 3;omega
     |succ j ihj=>
      intro i q h1 h2 h3;have hi:=ih (l.length-q) q (by omega) rfl;have e:j+1=1+j:=by omega
      rw [e,qpt];have step:l1_bx (recN g_bx N) (⟨b,l⟩,(k:Int),(q:Int),(i:Int),())=if endZ l q 1<0 then some (.inr (-1,())) else some (.inl (⟨b,l⟩,(k:Int),endZ l q 1,((i+1:Nat):Int),())):=by unfold l1_bx;simp only [hf,q00];rw [q0p,if_pos (by omega)];simp only [hi,q00,add1 (show i≤1000000000 by omega)];rw [q0p]
      cases hs:skip l.length (l.drop q) 1 with
      |none=>rw [qzt hs,if_pos (by decide)] at step;rw [q0a step];rfl
      |some r=>
       obtain ⟨s1,s2,s3⟩:=qzr _ hs;rw [jc] at s1 s2 s3;have hj:endZ l q 1=((l.length-r.length:Nat):Int):=by unfold endZ;rw [hs];show (l.length:Int)-(r.length:Int)=_;omega
       rw [hj,if_neg (by omega)] at step;rw [q0d step,ihj (i+1) (l.length-r.length) (by omega) (by omega) (by omega)];show _=some ((skip l.length r j).elim _ _,());have:r=l.drop (l.length-r.length):=by rw [List.drop_drop] at s3;rw [show l.length-r.length=q+(l.length-q-r.length) by omega];exact s3
       rw [←this]
    exact loop z.toNat 0 (k+1) (by omega) (by omega) (by omega)
   ·have he:endZ l k 1=-1:=by unfold endZ;rw [hc,q4d];rw [if_neg (show ¬(0≤(x,t,n,z).2.2.2∧(x,t,n,z).2.2.2≤(l.length:Int)) from hz)];rfl
    rw [he];simp only [c0,q01,q00,hf];cases h1:ltI z 0 with
    |true=>simp only [q02,q00]
    |false=>
     have c2:ltI (lenI l) z=true:=by have:=of_decide_eq_false h1;exact zu (by unfold lenI;omega)
     simp only [q01,q00,c2,q02]
  ·have he:endZ l k 1=-1:=by unfold endZ;rw [zM (by omega)];rfl
   have c0:leI (lenI l) (k:Int)=true:=zu (by unfold lenI;omega);rw [he];simp only [c0,q02,q00]
theorem qay (b:Bool) (l:List ND) (hl:l.length≤10000) (k:Nat):f_bx (⟨b,l⟩,(k:Int),())=some (endZ l k 1,()):=q3m (l.length-k+1) fun N hN=>z49 b l hl N (l.length-k) k (by omega) rfl
def q5v (l:List ND):Bool:=decide (0<l.length)&&decide (endZ l 0 1=(l.length:Int))
theorem q8s (b:Bool) (l:List ND) (hl:l.length≤10000):f_et (⟨b,l⟩,())=some (q5v l,()):=by rw [u_et];have:=q8r b l hl 0;have h0:((0:Nat):Int)=0:=rfl;rw [h0] at this;simp only [this,q00,q86];unfold q5v ltI eqI lenI;have e1:decide ((0:Int)<(l.length:Int))=decide (0<l.length):=decide_eq_decide.2 (by omega);rw [e1];rfl
theorem q9s (b:Bool) (l:List ND) (hl:l.length≤10000):f_c1 (⟨b,l⟩,())=some (q5v l,()):=by rw [u_c1];have:=qay b l hl 0;have h0:((0:Nat):Int)=0:=rfl;rw [h0] at this;simp only [this,q00,q86];unfold q5v ltI eqI lenI;have e1:decide ((0:Int)<(l.length:Int))=decide (0<l.length):=decide_eq_decide.2 (by omega);rw [e1];rfl
theorem q41 (l:List ND):q5v l=true↔∃k t n ks,l=(tr k t n ks).flat:=by
 unfold q5v endZ;rw [zd,decide_eq_true_eq,decide_eq_true_eq,List.drop_zero];constructor
 ·rintro ⟨h1,h2⟩;cases hs:skip l.length l 1 with
  |none=>rw [hs] at h2;have h2:(-1:Int)=l.length:=h2;omega
  |some r=>
   rw [hs] at h2;have h2:(l.length:Int)-(r.length:Int)=l.length:=h2;have hr:r=[]:=List.length_eq_zero_iff.1 (by omega);subst hr;obtain ⟨f,h3,h4⟩:=qc3 _ _ _ _ hs;cases f with
   |nil=>cases h3
   |cons k t n ks r=>
    cases r with
    |nil=>exact ⟨k,t,n,ks,by rw [h4,zD]⟩
    |cons _ _ _ _ _=>have h3:_+1+1=1:=h3;omega
 ·rintro ⟨k,t,n,ks,rfl⟩;have hc:=(tr k t n ks).len;refine ⟨by rw [hc,q66];omega,?_⟩;have:=qax (tr k t n ks).flat.length (tr k t n ks) 0 [] (by omega);rw [zD,q6j] at this;have e:(tr k t n ks).cnt+0=1:=rfl;rw [e] at this;rw [this];show ((tr k t n ks).flat.length:Int)-((0:Nat):Int)=_;omega
end Fn
end Ev

namespace Ev
open Go
namespace Fn
def Sits (l:List ND) (k:Nat) (f:F):Prop:=∃post,l.drop k=f.flat++post
theorem Sits.node {l:List ND} {k:Nat} {x:Int} {t:List Int} {n:Int} {ks r:F} (h:Sits l k (.cons x t n ks r)):l[k]?=some (x,t,n,(ks.cnt:Int))∧Sits l (k+1) ks∧Sits l (k+1+ks.size) r∧k+1+ks.size+r.size≤l.length:=by
 obtain ⟨post,h⟩:=h;have h:l.drop k=(x,t,n,(ks.cnt:Int))::((ks.flat++r.flat)++post):=h;have h1:l[k]?=some (x,t,n,(ks.cnt:Int)):=by rw [←List.head?_drop,h];rfl
 have h2:l.drop (k+1)=(ks.flat++r.flat)++post:=by rw [←List.drop_drop,h];rfl
 refine ⟨h1,⟨r.flat++post,by rw [h2,zC]⟩,⟨post,?_⟩,?_⟩
 ·rw [←List.drop_drop,h2,←ks.len,zC,List.drop_left'];rfl
 ·have:=congrArg List.length h2;rw [jc,zj,zj,ks.len,r.len] at this;have hc:k<l.length:=(zO.1 h1).1;omega
theorem Sits.le {l:List ND} {k:Nat} {f:F} (h:Sits l k f) (hk:k≤l.length):k+f.size≤l.length:=by
 cases f with
 |nil=>exact hk
 |cons x t n ks r=>have:=h.node.2.2.2;show k+(ks.size+r.size+1)≤_;omega
theorem Sits.first {l:List ND} {k:Nat} {x:Int} {t:List Int} {n:Int} {ks r:F} (h:Sits l k (.cons x t n ks r)):Sits l k (tr x t n ks):=by obtain ⟨post,h⟩:=h;refine ⟨r.flat++post,?_⟩;rw [h,q28];show _::(ks.flat++r.flat)++post=_;rw [List.cons_append,List.cons_append,zC]
theorem Sits.ends {l:List ND} {k:Nat} {x:Int} {t:List Int} {n:Int} {ks r:F} (h:Sits l k (.cons x t n ks r)):endZ l k 1=((k+1+ks.size:Nat):Int):=by obtain ⟨g1,g2,g3,g4⟩:=h.node;obtain ⟨post,h⟩:=h.first;unfold endZ;have e:(tr x t n ks).cnt+0=1:=rfl;have hs:=qax l.length (tr x t n ks) 0 post (by rw [q66];omega);rw [e,q6j] at hs;rw [h,hs];show (l.length:Int)-(post.length:Int)=_;have:=congrArg List.length h;rw [jc,zj,(tr x t n ks).len,q66] at this;omega
def F.pos:Nat→F→List Int
 |_,.nil=>[]
 |k,.cons _ _ _ ks r=>(k:Int)::r.pos (k+1+ks.size)
theorem F.pos_len:∀(f:F) (k:Nat),(f.pos k).length=f.cnt
 |.nil,_=>rfl
 |.cons _ _ _ ks r,k=>by show (_::r.pos _).length=r.cnt+1;rw [zt,r.pos_len]
def F.Each (P:Nat→Int→List Int→Int→F→Prop):Nat→F→Prop
 |_,.nil=>True
 |k,.cons x t n ks r=>P k x t n ks∧r.Each P (k+1+ks.size)
theorem F.each_of {l:List ND} {P:Nat→Int→List Int→Int→F→Prop} (h:∀k x t n ks,Sits l k (tr x t n ks)→ks.Each P (k+1)→P k x t n ks):∀(f:F) (k:Nat),Sits l k f→f.Each P k
 |.nil,_,_=>trivial
 |.cons x t n ks r,k,hs=>⟨h k x t n ks hs.first (F.each_of h ks (k+1) hs.node.2.1),F.each_of h r _ hs.node.2.2.1⟩
theorem F.each_one {l:List ND} {P:Nat→Int→List Int→Int→F→Prop} (h:∀k x t n ks,Sits l k (tr x t n ks)→ks.Each P (k+1)→P k x t n ks) {k:Nat} {x:Int} {t:List Int} {n:Int} {ks:F} (hs:Sits l k (tr x t n ks)):P k x t n ks:=(F.each_of h (tr x t n ks) k hs).1
theorem q0g {a b:Nat} (h:a+b≤2000000):fit (sumI (a:Int) (b:Int))=some ():=qpo (by show (a:Int)+(b:Int)≤_;omega)
theorem qgq (x:Bool):andB false x=false:=id (Eq.refl false)
theorem q13 {α:Type} (b:Bool) (x:α):andB b (isE [x])=false:=by cases b<;>rfl
theorem q2j (b:Bool) (l:List ND) (hl:l.length≤10000) {k:Nat} {x:Int} {t:List Int} {n:Int} {ks r:F} (h:Sits l k (.cons x t n ks r)):f_by (⟨b,l⟩,(k:Int),())=some (⟨false,ks.pos (k+1)⟩,()):=by
 obtain ⟨g1,g2,g3,g4⟩:=h.node;have he:=q06 g1;rw [u_by,qay b l hl,h.ends];simp only [q00];rw [q0p,if_neg (by omega),add1 (by omega)];have loop:∀(g:F) (q i:Nat) (out:List Int),Sits l q g→out.length=i→i+g.cnt=ks.cnt→q≤l.length→
   loopR l1_by (⟨b,l⟩,(k:Int),(q:Int),(i:Int),⟨false,out⟩,())=some (⟨false,out++g.pos q⟩,()):=by
  intro g
  induction g with
  |nil=>
   intro q i out hs ho hi hq;have hi:i+0=ks.cnt:=hi;refine q0a ?_;unfold l1_by
   simp only [he,q00];rw [q0p,if_neg (by omega)];show _=some (Sum.inr ((⟨false,out++[]⟩:Sl Int),()));rw [zD]
  |cons x' t' n' ks' r' _ ih=>
   intro q i out hs ho hi hq;have hi:i+(r'.cnt+1)=ks.cnt:=hi;have hc:=ks.cnt_le;have s4:=hs.node;have step:l1_by (⟨b,l⟩,(k:Int),(q:Int),(i:Int),⟨false,out⟩,())=some (.inl (⟨b,l⟩,(k:Int),((q+1+ks'.size:Nat):Int),((i+1:Nat):Int),⟨false,out++[(q:Int)]⟩,())):=by
    unfold l1_by
    simp only [he,q00];rw [q0p,if_pos (by omega)];have hf:fit (sumI (lenI out) (lenI [(q:Int)]))=some ():=q0g (by show out.length+1≤_;omega);rw [hf,q00,qay b l hl,q00,hs.ends,add1 (by omega),q13];rfl
   rw [q0d step,ih _ _ _ s4.2.2.1 (by rw [zj,ho];rfl) (by omega) (by omega),zC];rfl
 have:=loop ks (k+1) 0 [] g2 rfl (by omega) (by omega);exact this
theorem ql1 (b:Bool) (l:List ND) (hl:l.length≤10000) {k:Nat} {x:Int} {t:List Int} {n:Int} {ks r:F} (h:Sits l k (.cons x t n ks r)):∃nb,f_eq (⟨b,l⟩,(k:Int),())=some (⟨nb,ks.pos (k+1)⟩,()):=by
 obtain ⟨g1,g2,g3,g4⟩:=h.node;have he:=q06 g1;rw [u_eq,q8r b l hl,h.ends];simp only [q00,he];rw [q0p,if_neg (by omega),add1 (by omega)];have hc:=ks.cnt_le;have loop:∀(g:F) (q i:Nat) (nb:Bool) (out:List Int),Sits l q g→out.length=i→i+g.cnt=ks.cnt→q≤l.length→
   ∃nb',loopR l1_eq (⟨b,l⟩,(q:Int),(ks.cnt:Int),⟨nb,out⟩,())=some (⟨nb',out++g.pos q⟩,()):=by
  intro g
  induction g with
  |nil=>intro q i nb out hs ho hi hq;have hi:i+0=ks.cnt:=hi;refine ⟨nb,q0a ?_⟩;unfold l1_eq;simp only;rw [q0p,if_neg (by unfold lenI;omega)];show _=some (Sum.inr ((⟨nb,out++[]⟩:Sl Int),()));rw [zD]
  |cons x' t' n' ks' r' _ ih=>
   intro q i nb out hs ho hi hq;have hi:i+(r'.cnt+1)=ks.cnt:=hi;have s4:=hs.node;have step:l1_eq (⟨b,l⟩,(q:Int),(ks.cnt:Int),⟨nb,out⟩,())=some (.inl (⟨b,l⟩,((q+1+ks'.size:Nat):Int),(ks.cnt:Int),⟨false,out++[(q:Int)]⟩,())):=by unfold l1_eq;simp only;rw [q0p,if_pos (by unfold lenI;omega)];have hf:fit (sumI (lenI out) (lenI [(q:Int)]))=some ():=q0g (by show out.length+1≤_;omega);rw [hf,q00,q8r b l hl,q00,hs.ends,q13];rfl
   obtain ⟨nb',h'⟩:=ih (q+1+ks'.size) (i+1) false (out++[(q:Int)]) s4.2.2.1 (by rw [zj,ho];rfl) (by omega) (by omega);refine ⟨nb',?_⟩;rw [q0d step,h',zC];rfl
 exact loop ks (k+1) 0 true [] g2 rfl (by omega) (by omega)
theorem qzu (a b:Nat):maxI (a:Int) (b:Int)=((max a b:Nat):Int):=by unfold maxI;split<;>omega
theorem qrx (b:Bool) (l:List ND) (hl:l.length≤10000) {k:Nat} {x:Int} {t:List Int} {n:Int} {ks:F} (h:Sits l k (tr x t n ks)):f_bw (⟨b,l⟩,(k:Int),())=some (((ks.dep+1:Nat):Int),()):=by
 refine q3m (ks.size+1) ?_;refine F.each_one (l:=l) (P:=fun k x t n ks=>∀N,ks.size+1≤N→recN g_bw N (⟨b,l⟩,(k:Int),())=some (((ks.dep+1:Nat):Int),())) ?_ h;intro k x t n ks hs he N hN;obtain ⟨N,rfl⟩:∃m,N=m+1:=⟨N-1,by omega⟩;show g_bw (recN g_bw N) _=_;rw [u_bw,q2j b l hl hs,q00];have hq:=hs.node.2.2.2;have ht:=ks.dep_le;have loop:∀(g:F) (q:Nat) (pre:List Int) (most:Nat),g.Each (fun k x t n ks=>∀N,ks.size+1≤N→recN g_bw N (⟨b,l⟩,(k:Int),())=some (((ks.dep+1:Nat):Int),())) q→
   g.size≤N→g.size≤10000→pre++g.pos q=ks.pos (k+1)→most≤100000→
   loopR (l1_bw (recN g_bw N)) (⟨b,l⟩,(most:Int),⟨false,ks.pos (k+1)⟩,(pre.length:Int),())=some (((max most g.dep+1:Nat):Int),()):=by
  intro g
  induction g with
  |nil=>intro q pre most hE hz _ hp hm;have hp:pre++[]=ks.pos (k+1):=hp;rw [zD] at hp;refine q0a ?_;unfold l1_bw;simp only;rw [q0p,if_neg (by rw [hp];unfold lenI;omega),add1 (by omega)];show _=some (Sum.inr (((max most 0+1:Nat):Int),()));rw [Nat.max_zero]
  |cons x' t' n' ks' r' _ ih=>
   intro q pre most hE hz hj hp hm;have hj:ks'.size+r'.size+1≤10000:=hj;have hz:ks'.size+r'.size+1≤N:=hz;have hp:pre++(q:Int)::r'.pos (q+1+ks'.size)=ks.pos (k+1):=hp;have hf:(ks.pos (k+1)).length=ks.cnt:=ks.pos_len _;have ho:=congrArg List.length hp;rw [zj,zt,hf] at ho;have hc:=ks.cnt_le;have hg:(ks.pos (k+1))[pre.length]?=some (q:Int):=by rw [←hp];simp
   have hu:=ks'.dep_le;have step:l1_bw (recN g_bw N) (⟨b,l⟩,(most:Int),⟨false,ks.pos (k+1)⟩,(pre.length:Int),())=some (.inl (⟨b,l⟩,((max most (ks'.dep+1):Nat):Int),⟨false,ks.pos (k+1)⟩,((pre.length+1:Nat):Int),())):=by
    unfold l1_bw;simp only;rw [q0p,if_pos (by unfold lenI;rw [hf];omega),q06 hg,q00,hE.1 N (by omega),q00,q0p];have ea:=add1 (show pre.length≤1000000000 by omega);by_cases hn:(most:Int)<((ks'.dep+1:Nat):Int)
    ·rw [if_pos hn,q00,ea];have:max most (ks'.dep+1)=ks'.dep+1:=by omega
     rw [this]
    ·rw [if_neg hn,q00,ea];have:max most (ks'.dep+1)=most:=by omega
     rw [this]
   have hi:=ih (q+1+ks'.size) (pre++[(q:Int)]) (max most (ks'.dep+1)) hE.2 (by omega) (by omega) (by rw [zC];exact hp) (by omega);rw [zj] at hi;have hi:loopR (l1_bw (recN g_bw N)) (⟨b,l⟩,((max most (ks'.dep+1):Nat):Int),⟨false,ks.pos (k+1)⟩,((pre.length+1:Nat):Int),())=_:=hi;rw [q0d step,hi];show some (((max (max most (ks'.dep+1)) r'.dep+1:Nat):Int),())=some (((max most (max (ks'.dep+1) r'.dep)+1:Nat):Int),());rw [Nat.max_assoc]
 have:=loop ks (k+1) [] 0 he (by omega) (by omega) rfl (by omega);rw [Nat.zero_max] at this;exact this
def qfp:Nat→List Nat→List Nat
 |c+1,s=>(c+1)::s
 |0,[]=>[]
 |0,c::s=>qfp (c-1) s
def toI (s:List Nat):List Int:=s.reverse.map fun (c:Nat)=>(c:Int)
theorem q1y (s:List Nat):(toI s).length=s.length:=by unfold toI;rw [zo,List.length_reverse]
theorem q4q (c:Nat) (s:List Nat):toI (c::s)=toI s++[(c:Int)]:=by unfold toI;rw [List.reverse_cons,zI];rfl
theorem qer (c:Nat) (s:List Nat):qfp (c+1) s=(c+1)::s:=by cases s<;>rfl
theorem pops (b:Bool) (l:List ND) (most ln k:Int) (hk:0≤k∧k≤1000000) (nb:Bool):∀(s:List Nat) (c:Nat),(∀x,x∈s→1≤x∧x≤1000000)→c≤1000000→s.length≤1000000→loopR l1_eo (most,⟨b,l⟩,ln,k,⟨nb,toI (c::s)⟩,())=some (.inl (most,⟨b,l⟩,ln,k+1,⟨nb,toI (qfp c s)⟩,())):=by
 have hj:addI .i64 k 1=k+1:=q5q (by omega) (by omega);have done:∀(s:List Nat) (c:Nat),c+1≤1000000→s.length≤1000000→loopR l1_eo (most,⟨b,l⟩,ln,k,⟨nb,toI ((c+1)::s)⟩,())=some (.inl (most,⟨b,l⟩,ln,k+1,⟨nb,toI ((c+1)::s)⟩,())):=by
  intro s c hc hs;refine q0a ?_;have e1:subI .i64 (lenI (toI ((c+1)::s))) 1=(s.length:Int):=by unfold lenI;rw [q1y,zt,q38 (by omega) (by omega)];omega
  have hg:nth (toI ((c+1)::s)) s.length=some ((c+1:Nat):Int):=by rw [q4q];unfold nth;rw [zW (by rw [q1y];exact Nat.le_refl _),q1y,Nat.sub_self];rfl
  have c0:ltI 0 (lenI (toI ((c+1)::s)))=true:=zu (by unfold lenI;rw [q1y,zt];omega);have c1:eqI ((c+1:Nat):Int) 0=false:=by cases h:eqI ((c+1:Nat):Int) 0 with
   |false=>rfl
   |true=>have:=eqI_eq.1 h;omega
  unfold l1_eo;simp only [c0,q02,e1,q2d (show s.length<(toI ((c+1)::s)).length by rw [q1y,zt];omega),q00,hg,c1,q01,hj]
 have nils:loopR l1_eo (most,⟨b,l⟩,ln,k,⟨nb,toI []⟩,())=some (.inl (most,⟨b,l⟩,ln,k+1,⟨nb,toI []⟩,())):=by refine q0a ?_;have c0:ltI 0 (lenI (toI []))=false:=rfl;unfold l1_eo;simp only [c0,q01,q00,hj]
 have step:∀(s:List Nat) (X:List Int),s.length≤1000000→(s=[]∧X=[]∨∃c r,s=c::r∧1≤c∧c≤1000000∧X=toI ((c-1)::r))→
   l1_eo (most,⟨b,l⟩,ln,k,⟨nb,toI (0::s)⟩,())=some (.inl (most,⟨b,l⟩,ln,k,⟨nb,X⟩,())):=by
  intro s X hs hX;have e1:subI .i64 (lenI (toI (0::s))) 1=(s.length:Int):=by unfold lenI;rw [q1y,zt,q38 (by omega) (by omega)];omega
  have hg:nth (toI (0::s)) s.length=some 0:=by rw [q4q];unfold nth;rw [zW (by rw [q1y];exact Nat.le_refl _),q1y,Nat.sub_self];rfl
  have c0:ltI 0 (lenI (toI (0::s)))=true:=zu (by unfold lenI;rw [q1y,zt];omega);have c1:eqI 0 0=true:=rfl;have he:cutN (lenI (toI (0::s))) (s.length:Int)=some s.length:=by unfold cutN lenI;rw [if_pos (by rw [q1y,zt];omega),Int.toNat_natCast]
  have hl:takeL (toI (0::s)) s.length=toI s:=by unfold takeL;rw [q4q,List.take_left' (q1y s)]
  unfold l1_eo;simp only [c0,q02,e1,q2d (show s.length<(toI (0::s)).length by rw [q1y,zt];omega),q00,hg,c1,he,hl];rcases hX with ⟨rfl,rfl⟩|⟨c,r,rfl,h1,h2,rfl⟩
  ·have c2:ltI 0 (lenI (toI []))=false:=rfl;simp only [c2,q01,q00];rfl
  ·have hs:r.length+1≤1000000:=hs;have c2:ltI 0 (lenI (toI (c::r)))=true:=zu (by unfold lenI;rw [q1y,zt];omega);have e2:subI .i64 (lenI (toI (c::r))) 1=(r.length:Int):=by unfold lenI;rw [q1y,zt,q38 (by omega) (by omega)];omega
   have hm:nth (toI (0::c::r)) r.length=some (c:Int):=by rw [q4q,q4q];unfold nth;rw [zC,zW (by rw [q1y];exact Nat.le_refl _),q1y,Nat.sub_self];rfl
   have hf:takeL (setL (toI (0::c::r)) r.length ((c:Int)-1)) (c::r).length=toI ((c-1)::r):=by unfold takeL setL;rw [q4q,q4q,q4q,zC,List.set_append_right _ _ (by rw [q1y];exact Nat.le_refl _),q1y,Nat.sub_self];show List.take (r.length+1) (toI r++([(c:Int)-1]++[((0:Nat):Int)]))=_;rw [←zC,List.take_left' (by rw [zj,q1y];rfl)];congr 2;omega
   have e3:subI .i64 (c:Int) 1=(c:Int)-1:=q38 (by omega) (by omega);simp only [c2,q02,e2,q2d (show r.length<(toI (c::r)).length by rw [q1y,zt];omega),q00,hm,e3,hf]
 intro s
 induction s with
 |nil=>
  intro c _ hc _;cases c with
  |zero=>rw [q0d (step [] [] (by decide) (.inl ⟨rfl,rfl⟩))];exact nils
  |succ c=>rw [qer];exact done [] c hc (by decide)
 |cons d s ih=>
  intro c hx hc hs;have hd:=hx d (ze ..);have hs:s.length+1≤1000000:=hs;cases c with
  |zero=>rw [q0d (step (d::s) (toI ((d-1)::s)) hs (.inr ⟨d,s,rfl,hd.1,hd.2,rfl⟩))];exact ih (d-1) (fun x h=>hx x (zh _ h)) (by omega) (by omega)
  |succ c=>rw [qer];exact done (d::s) c hc hs
theorem qzv (b:Bool) (l:List ND) (hl:l.length≤10000):∀(f:F) (q:Nat) (s:List Nat) (most:Nat) (nb:Bool),Sits l q f→q≤l.length→(∀x,x∈s→1≤x∧x≤1000000)→s.length≤q→most≤100000→∃nb',loopR l2_eo ((most:Int),⟨b,l⟩,(l.length:Int),(q:Int),⟨nb,toI (qfp f.cnt s)⟩,())=loopR l2_eo (((max most (if f.cnt=0 then 0 else s.length+1+f.dep):Nat):Int),⟨b,l⟩,(l.length:Int),((q+f.size:Nat):Int),⟨nb',toI (qfp 0 s)⟩,()):=by
 intro f
 induction f with
 |nil=>intro q s most nb _ _ _ _ _;refine ⟨nb,?_⟩;show _=loopR l2_eo (((max most 0:Nat):Int),_,_,((q+0:Nat):Int),_,());rw [Nat.max_zero,Nat.add_zero];rfl
 |cons x t n ks r ih1 ih2=>
  intro q s most nb hs hq hx hj hm;obtain ⟨g1,g2,g3,g4⟩:=hs.node;have hc:=ks.cnt_le;have hn:=r.cnt_le;have ho:=ks.dep_le;have ht:=r.dep_le;have e0:qfp (F.cons x t n ks r).cnt s=(r.cnt+1)::s:=qer r.cnt s;rw [e0];have hf:fit (sumI (lenI (toI ((r.cnt+1)::s))) (lenI [(ks.cnt:Int)]))=some ():=q0g (by rw [q1y,zt,List.length_singleton];omega);have hg:∀y,y∈(r.cnt+1)::s→1≤y∧y≤1000000:=by
   intro y hy;rcases zm.1 hy with rfl|hy
   ·omega
   ·exact hx y hy
  have hp:=pops b l ((max most (s.length+2):Nat):Int) (l.length:Int) (q:Int) (by omega) false ((r.cnt+1)::s) ks.cnt hg (by omega) (by rw [zt];omega);have step:l2_eo ((most:Int),⟨b,l⟩,(l.length:Int),(q:Int),⟨nb,toI ((r.cnt+1)::s)⟩,())=
    some (.inl (((max most (s.length+2):Nat):Int),⟨b,l⟩,(l.length:Int),((q+1:Nat):Int),⟨false,toI (qfp ks.cnt ((r.cnt+1)::s))⟩,())):=by
   unfold l2_eo;simp only;rw [q0p,if_pos (by omega),q06 g1,q00];simp only [hf,q00,q13];have e1:maxI (most:Int) (addI .i64 (lenI (toI ((r.cnt+1)::s))) 1)=((max most (s.length+2):Nat):Int):=by unfold lenI;rw [q1y,zt,add1 (by omega),qzu]
   have e2:app (toI ((r.cnt+1)::s)) [(ks.cnt:Int)]=toI (ks.cnt::(r.cnt+1)::s):=(q4q _ _).symm;rw [e1,e2,hp];rfl
  rw [q0d step];obtain ⟨nb1,h1⟩:=ih1 (q+1) ((r.cnt+1)::s) (max most (s.length+2)) false g2 (by omega) hg (by rw [zt];omega) (by omega);rw [h1];have e3:qfp 0 ((r.cnt+1)::s)=qfp r.cnt s:=rfl;rw [e3];have he:max (max most (s.length+2)) (if ks.cnt=0 then 0 else ((r.cnt+1)::s).length+1+ks.dep)=max most (s.length+1+(ks.dep+1)):=by
   rw [zt];by_cases h0:ks.cnt=0
   ·rw [if_pos h0];have:ks.dep=0:=by
     cases ks with
     |nil=>rfl
     |cons _ _ _ _ r=>exact absurd h0 (Nat.succ_ne_zero _)
    omega
   ·rw [if_neg h0];omega
  rw [he];obtain ⟨nb2,h2⟩:=ih2 (q+1+ks.size) s (max most (s.length+1+(ks.dep+1))) nb1 g3 (by omega) hx (by omega) (by omega);refine ⟨nb2,?_⟩;rw [h2];have e4:q+1+ks.size+r.size=q+(F.cons x t n ks r).size:=by show _=q+(ks.size+r.size+1);omega
  rw [e4];have e5:max (max most (s.length+1+(ks.dep+1))) (if r.cnt=0 then 0 else s.length+1+r.dep)=max most (if (F.cons x t n ks r).cnt=0 then 0 else s.length+1+(F.cons x t n ks r).dep):=by
   have h9:(F.cons x t n ks r).cnt≠0:=Nat.succ_ne_zero _;rw [if_neg h9];show _=max most (s.length+1+max (ks.dep+1) r.dep);by_cases h0:r.cnt=0
   ·rw [if_pos h0];have:r.dep=0:=by
     cases r with
     |nil=>rfl
     |cons _ _ _ _ r=>exact absurd h0 (Nat.succ_ne_zero _)
    omega
   ·rw [if_neg h0];omega
  rw [e5]
theorem q36 (x:Int) (t:List Int) (n:Int) (ks:F):Sits (tr x t n ks).flat 0 (tr x t n ks):=⟨[],by rw [zD];rfl⟩
theorem qvv (b:Bool) (x:Int) (t:List Int) (n:Int) (ks:F) (hl:ks.size+1≤10000):f_eo (⟨b,(tr x t n ks).flat⟩,())=some (((ks.dep+1:Nat):Int),()):=by
 have he:(tr x t n ks).flat.length=ks.size+1:=(tr x t n ks).len;have hs:=q36 x t n ks;obtain ⟨g1,g2,g3,g4⟩:=hs.node;have hg:=ks.dep_le;have hc:=ks.cnt_le;rw [u_eo,q8s b _ (by omega),(q41 _).2 ⟨x,t,n,ks,rfl⟩];have hn:notB true=false:=rfl;simp only [q00,hn,q01];generalize hL:(tr x t n ks).flat=L at*
 have hf:fit (sumI (lenI ([]:List Int)) (lenI [(ks.cnt:Int)]))=some ():=q0g (by show 0+1≤_;omega);have hp:=pops b L ((1:Nat):Int) (L.length:Int) ((0:Nat):Int) (by omega) false [] ks.cnt (fun _ h=>by cases h) (by omega) (by decide);have step:l2_eo (((0:Nat):Int),⟨b,L⟩,(L.length:Int),((0:Nat):Int),⟨true,[]⟩,())=
   some (.inl (((1:Nat):Int),⟨b,L⟩,(L.length:Int),((0+1:Nat):Int),⟨false,toI (qfp ks.cnt [])⟩,())):=by
  unfold l2_eo;simp only;rw [q0p,if_pos (by omega),q06 g1,q00];simp only [hf,q00,q13];have e1:maxI ((0:Nat):Int) (addI .i64 (lenI ([]:List Int)) 1)=((1:Nat):Int):=rfl;have e2:app ([]:List Int) [(ks.cnt:Int)]=toI (ks.cnt::[]):=rfl;rw [e1,e2,hp];rfl
 obtain ⟨nb1,h1⟩:=qzv b L (by omega) ks 1 [] 1 false g2 (by omega) (fun _ h=>by cases h) (by decide) (by decide);have goal1:loopR l2_eo (0,⟨b,L⟩,lenI L,0,⟨true,[]⟩,())=_:=q0d step;rw [goal1,h1];have e6:max 1 (if ks.cnt=0 then 0 else ([]:List Nat).length+1+ks.dep)=ks.dep+1:=by
  by_cases h0:ks.cnt=0
  ·rw [if_pos h0];have:ks.dep=0:=by
    cases ks with
    |nil=>rfl
    |cons _ _ _ _ r=>exact absurd h0 (Nat.succ_ne_zero _)
   omega
  ·rw [if_neg h0,List.length_nil];omega
 rw [e6];refine q0a ?_;unfold l2_eo;simp only;rw [q0p,if_neg (by omega)]
end Fn
end Ev

namespace Ev
open Go
namespace Fn
def q5a (n:Int):Bool:=decide (-4611686018427387904≤n∧n≤4611686018427387903)
def rng (n:Int):Prop:=-9223372036854775808≤n∧n≤9223372036854775807
theorem ql2 (n:Int):IntKind.i64.wrap n=if n % 18446744073709551616<9223372036854775808 then n % 18446744073709551616 else n % 18446744073709551616-18446744073709551616:=by
 unfold IntKind.wrap;show (if (true&&decide (n % 18446744073709551616≥9223372036854775808))=true then _ else _)=_;rw [Bool.true_and];by_cases h:n % 18446744073709551616<9223372036854775808
 ·rw [if_pos h,if_neg (by simp;omega)];rfl
 ·rw [if_neg h,if_pos (by simp;omega)];rfl
theorem q5w (n:Int):IntKind.u64.wrap n=n % 18446744073709551616:=by unfold IntKind.wrap;show (if (false&&_)=true then _ else _)=_;rw [Bool.false_and,if_neg (by decide)];rfl
theorem qry (n:Int) (h:rng n):∃v,f_f0 (n,())=some (v,())∧eqI v n=q5a n:=by
 obtain ⟨h1,h2⟩:=h;rw [u_f0];have e1:shlI .u64 (cvI .u64 n) 1=some (IntKind.u64.wrap (cvI .u64 n*2)):=by unfold shlI;rw [if_neg (by decide)];rfl
 simp only [e1,q00];have e2:=qzk (a:=cvI .i64 (IntKind.u64.wrap (cvI .u64 n*2))) 1 (by decide);have e3:((1:Nat):Int)=1:=rfl;rw [e3] at e2;rw [e2];refine ⟨_,rfl,?_⟩;unfold cvI;rw [ql2,q5w,q5w];rw [Bool.eq_iff_iff,eqI_eq];unfold q5a;rw [decide_eq_true_eq];show (ite _ _ _) / 2=n↔_;split<;>omega
theorem qrz (n:Int) (h:rng n):∃v,f_bu (n,())=some (v,())∧eqI v n=q5a n:=by
 obtain ⟨h1,h2⟩:=h;have e0:cvI .u64 n=n % 18446744073709551616:=q5w n;rw [u_bu,u_bv,e0,qaq (by omega) (by decide)];simp only [q00];rw [z47];by_cases hb:4611686018427387904≤n % 18446744073709551616 % 9223372036854775808
 ·rw [if_pos hb];refine ⟨_,rfl,?_⟩;have e1:subI .u64 (n % 18446744073709551616 % 9223372036854775808) 4611686018427387904=n % 18446744073709551616 % 9223372036854775808-4611686018427387904:=by unfold subI;rw [q5w];omega
  rw [e1,qv7 (by omega) (by omega),q38 (by omega) (by omega),Bool.eq_iff_iff,eqI_eq];unfold q5a;rw [decide_eq_true_eq];omega
 ·rw [if_neg hb];refine ⟨_,rfl,?_⟩;rw [qv7 (by omega) (by omega),Bool.eq_iff_iff,eqI_eq];unfold q5a;rw [decide_eq_true_eq];omega
def q2w (k:Int):Int:=bif eqI k 1||eqI k 6||eqI k 9||eqI k 10||eqI k 11||eqI k 21||eqI k 23 then 0 else bif eqI k 3||eqI k 5||eqI k 7||eqI k 8||eqI k 12||eqI k 22 then 1 else bif eqI k 4||eqI k 24 then 2 else bif eqI k 2 then 3 else -1
def q4e (k c:Int):Bool:=bif eqI k 5||eqI k 11 then eqI c 1 else bif eqI k 6||eqI k 7||eqI k 8||eqI k 12 then eqI c 2 else bif eqI k 9 then eqI c 3 else bif eqI k 10 then leI 3 c&&eqI (c % 2) 1 else bif eqI k 24 then true else eqI c 0
def q34 (k:Int):Bool:=leI 21 k&&leI k 24
def q67 (k:Int) (t:List Int) (hk:Int):Int:=bif eqI k 8&&notB (eqI hk 5) then 61 else bif eqI (q2w k) 1&&notB (nameOk t) then 62 else bif eqI (q2w k) 2&&notB (q1l t) then 62 else 0
def q5i (k:Int) (t:List Int) (hk:Int):Int:=bif eqI (q2w k) 0 then (bif eqS t [] then q67 k t hk else 61) else bif eqI (q2w k) 3 then (bif ltI 200 (lenI t) then 61 else q67 k t hk) else q67 k t hk
def q1g (k:Int) (t:List Int) (n c hk:Int) (pat:Bool):Int:=
 bif ltI (q2w k) 0 then 61 else bif notB (eqB (q34 k) pat) then 61 else bif notB (q4e k c) then 61 else
 bif eqI k 1||eqI k 23 then (bif q5a n then q5i k t hk else 61) else (bif eqI n 0 then q5i k t hk else 61)
def qvw:List Int:=[1,2,3,4,5,6,7,8,9,10,11,12,21,22,23,24]
theorem qc4 {P:Int→Prop} (h1:P 1) (h2:P 2) (h3:P 3) (h4:P 4) (h5:P 5) (h6:P 6) (h7:P 7) (h8:P 8) (h9:P 9) (he:P 10) (hf:P 11) (hg:P 12) (hj:P 21) (hl:P 22) (hm:P 23) (hn:P 24) (ho:∀a,(∀c,c∈qvw→eqI a c=false)→P a):∀a,P a:=by
 intro a;by_cases e1:a=1
 ·rw [e1];exact h1
 by_cases e2:a=2
 ·rw [e2];exact h2
 by_cases e3:a=3
 ·rw [e3];exact h3
 by_cases e4:a=4
 ·rw [e4];exact h4
 by_cases e5:a=5
 ·rw [e5];exact h5
 by_cases e6:a=6
 ·rw [e6];exact h6
 by_cases e7:a=7
 ·rw [e7];exact h7
 by_cases e8:a=8
 ·rw [e8];exact h8
 by_cases e9:a=9
 ·rw [e9];exact h9
 by_cases e10:a=10
 ·rw [e10];exact he
 by_cases e11:a=11
 ·rw [e11];exact hf
 by_cases e12:a=12
 ·rw [e12];exact hg
 by_cases e21:a=21
 ·rw [e21];exact hj
 by_cases e22:a=22
 ·rw [e22];exact hl
 by_cases e23:a=23
 ·rw [e23];exact hm
 by_cases e24:a=24
 ·rw [e24];exact hn
 refine ho a fun c hc=>q2q ?_;rintro rfl;simp only [qvw,zm,List.not_mem_nil,or_false] at hc;omega
theorem qvx:∀a:Int,f_cf (a,())=some (q2w a,()):=by refine qc4 (by kernel_rfl) (by kernel_rfl) (by kernel_rfl) (by kernel_rfl) (by kernel_rfl) (by kernel_rfl) (by kernel_rfl) (by kernel_rfl) (by kernel_rfl) (by kernel_rfl) (by kernel_rfl) (by kernel_rfl) (by kernel_rfl) (by kernel_rfl) (by kernel_rfl) (by kernel_rfl) (fun a h=>?_);have i1:eqI a 1=false:=h 1 (by decide);have i2:eqI a 2=false:=h 2 (by decide);have i3:eqI a 3=false:=h 3 (by decide);have i4:eqI a 4=false:=h 4 (by decide);have i5:eqI a 5=false:=h 5 (by decide);have i6:eqI a 6=false:=h 6 (by decide);have i7:eqI a 7=false:=h 7 (by decide);have i8:eqI a 8=false:=h 8 (by decide);have i9:eqI a 9=false:=h 9 (by decide);have i10:eqI a 10=false:=h 10 (by decide);have i11:eqI a 11=false:=h 11 (by decide);have i12:eqI a 12=false:=h 12 (by decide);have i21:eqI a 21=false:=h 21 (by decide);have i22:eqI a 22=false:=h 22 (by decide);have i23:eqI a 23=false:=h 23 (by decide);have i24:eqI a 24=false:=h 24 (by decide);rw [u_cf];unfold q2w;simp only [i1,i2,i3,i4,i5,i6,i7,i8,i9,i10,i11,i12,i21,i22,i23,i24,q01,q00];rfl
theorem qzw (c:Int) (hc:0≤c):∀a:Int,f_cc (a,c,())=some (q4e a c,()):=by
 have he:f_cc (10,c,())=some (q4e 10 c,()):=by rw [u_cc];show bnd (cnd (leI 3 c) (bnd (remI c 2) fun x4=>some (eqI x4 1)) (some false)) (fun x5=>some (x5,()))=some (leI 3 c&&eqI (c % 2) 1,());rw [qaq hc (by decide)];cases leI 3 c<;>rfl
 refine qc4 (by rw [u_cc];rfl) (by rw [u_cc];rfl) (by rw [u_cc];rfl) (by rw [u_cc];rfl) (by rw [u_cc];rfl) (by rw [u_cc];rfl) (by rw [u_cc];rfl) (by rw [u_cc];rfl) (by rw [u_cc];rfl) he (by rw [u_cc];rfl) (by rw [u_cc];rfl) (by rw [u_cc];rfl) (by rw [u_cc];rfl) (by rw [u_cc];rfl) (by rw [u_cc];rfl) (fun a h=>?_);have i1:eqI a 1=false:=h 1 (by decide);have i2:eqI a 2=false:=h 2 (by decide);have i3:eqI a 3=false:=h 3 (by decide);have i4:eqI a 4=false:=h 4 (by decide);have i5:eqI a 5=false:=h 5 (by decide);have i6:eqI a 6=false:=h 6 (by decide);have i7:eqI a 7=false:=h 7 (by decide);have i8:eqI a 8=false:=h 8 (by decide);have i9:eqI a 9=false:=h 9 (by decide);have i10:eqI a 10=false:=h 10 (by decide);have i11:eqI a 11=false:=h 11 (by decide);have i12:eqI a 12=false:=h 12 (by decide);have i21:eqI a 21=false:=h 21 (by decide);have i22:eqI a 22=false:=h 22 (by decide);have i23:eqI a 23=false:=h 23 (by decide);have i24:eqI a 24=false:=h 24 (by decide);rw [u_cc];unfold q4e;simp only [i5,i11,i6,i7,i8,i12,i9,i10,i24,q01,q00];rfl
theorem qgr (a:Int):f_c9 (a,())=some (q34 a,()):=by rw [u_c9,q86];rfl
theorem q0n (a:Int):f_em (a,())=some (q34 a,()):=by rw [u_em,q86];rfl
def F.head:F→Int
 |.nil=>0
 |.cons k _ _ _ _=>k
theorem behind {l:List ND} {k:Nat} {ks:F} {kd:Int} (hk:k≤1000000) (hs:Sits l (k+1) ks) (hn:kd=8→ks.cnt≠0):(cnd (eqI kd 8) (bnd (at? l (addI .i64 (k:Int) 1)) fun x=>some (notB (eqI x.1 5))) (some false):Option Bool)=some (eqI kd 8&&notB (eqI ks.head 5)):=by
 cases h:eqI kd 8 with
 |false=>rfl
 |true=>
  have h8:=eqI_eq.1 h;cases ks with
  |nil=>exact absurd rfl (hn h8)
  |cons x t n ks r=>rw [q02,add1 (by omega),q06 hs.node.1];rfl
theorem qs0 (b:Bool) (l:List ND) (hl:l.length≤10000) {k:Nat} {kd:Int} {t:List Int} {n:Int} {ks r:F} (pat:Bool) (h:Sits l k (.cons kd t n ks r)) (ht:t.length≤1000000) (hr:rng n):f_cd (⟨b,l⟩,(k:Int),pat,())=some (q1g kd t n (ks.cnt:Int) ks.head pat,()):=by
 obtain ⟨g1,g2,g3,g4⟩:=h.node;obtain ⟨v,w1,w2⟩:=qrz n hr;rw [u_cd,q06 g1];simp only [q00,qvx,qky,qgr,qzw (ks.cnt:Int) (Int.natCast_nonneg _),w1,w2,qrw ht,qvu ht];by_cases h8:kd=8∧ks.cnt=0
 ·obtain ⟨rfl,h0⟩:=h8;rw [h0];have e1:ltI (q2w 8) 0=false:=rfl;have e2:q4e 8 ((0:Nat):Int)=false:=rfl;unfold q1g;rw [e1,e2];simp only [q02,q01,notB,Bool.not_false,cond_true,cond_false];cases !eqB (q34 8) pat<;>rfl
 ·have e8:=behind (kd:=kd) (l:=l) (k:=k) (ks:=ks) (by omega) g2 (fun e h=>h8 ⟨e,h⟩);simp only [e8,q00,q02,q01];unfold q1g q5i;unfold q67;generalize hT:(eqI kd 8&&notB (eqI ks.head 5))=T;cases ltI (q2w kd) 0 with
  |true=>rfl
  |false=>
   cases notB (eqB (q34 kd) pat) with
   |true=>rfl
   |false=>
    cases notB (q4e kd (ks.cnt:Int)) with
    |true=>rfl
    |false=>
     simp only [q01,cond_false];have fin:(bnd (cnd (eqI (q2w kd) 1) (some (notB (nameOk t))) (some false)) (fun x6=>bnd (cnd x6 (some true) (cnd (eqI (q2w kd) 2) (some (notB (q1l t))) (some false))) (fun x8=>cnd x8 (some ((62:Int),())) (some (0,())))):Option (Int×Unit))=
       some (bif eqI (q2w kd) 1&&notB (nameOk t) then 62 else bif eqI (q2w kd) 2&&notB (q1l t) then 62 else 0,()):=by
      cases eqI (q2w kd) 1<;>cases nameOk t<;>cases eqI (q2w kd) 2<;>cases q1l t<;>rfl
     simp only [fin];cases (eqI kd 1||eqI kd 23) with
     |true=>
      simp only [q02,q01,cond_true,notB,Bool.not_true];cases q5a n with
      |false=>rfl
      |true=>
       simp only [q01,Bool.not_true,cond_true];cases h0:eqI (q2w kd) 0 with
       |true=>
        have h3:eqI (q2w kd) 3=false:=by rw [eqI_eq.1 h0];rfl
        simp only [h3,q01,cond_false];cases eqS t []<;>cases T<;>rfl
       |false=>cases eqI (q2w kd) 3<;>cases ltI 200 (lenI t)<;>cases T<;>rfl
     |false=>
      simp only [q02,q01,cond_false,notB,Bool.not_false];cases eqI n 0 with
      |false=>rfl
      |true=>
       simp only [q01,Bool.not_true,cond_true];cases h0:eqI (q2w kd) 0 with
       |true=>
        have h3:eqI (q2w kd) 3=false:=by rw [eqI_eq.1 h0];rfl
        simp only [h3,q01,cond_false];cases eqS t []<;>cases T<;>rfl
       |false=>cases eqI (q2w kd) 3<;>cases ltI 200 (lenI t)<;>cases T<;>rfl
end Fn
end Ev

namespace Ev
open Go
namespace Fn
theorem q14 (a c:Int):f_ej (a,c,())=some (eqI a c,()):=u_ej a c
theorem q4h (a:Int):f_eh (a,())=some (true,()):=u_eh a
theorem z4a (a:Int) (h:0≤a):f_eg (a,())=some (leI 3 a&&eqI (a % 2) 1,()):=by rw [u_eg,qaq h (by decide)];cases leI 3 a<;>rfl
theorem z4b:f_ef (1,())=some (true,false,2,0,0,0,true,()):=by kernel_rfl
theorem z4c:f_ef (2,())=some (false,true,2,0,0,0,true,()):=by kernel_rfl
theorem z4d:f_ef (3,())=some (false,false,0,0,0,0,true,()):=by kernel_rfl
theorem z4e:f_ef (4,())=some (false,false,1,0,0,0,true,()):=by kernel_rfl
theorem z4f:f_ef (5,())=some (false,false,0,0,0,1,true,()):=by kernel_rfl
theorem z4g:f_ef (6,())=some (false,false,2,0,0,2,true,()):=by kernel_rfl
theorem z4h:f_ef (7,())=some (false,false,0,0,0,2,true,()):=by kernel_rfl
theorem z4i:f_ef (8,())=some (false,false,0,0,0,2,true,()):=by kernel_rfl
theorem z4j:f_ef (9,())=some (false,false,2,0,0,3,true,()):=by kernel_rfl
theorem z2v:f_ef (10,())=some (false,false,2,0,1,0,true,()):=by kernel_rfl
theorem z2w:f_ef (11,())=some (false,false,2,0,0,1,true,()):=by kernel_rfl
theorem z2x:f_ef (12,())=some (false,false,0,0,0,2,true,()):=by kernel_rfl
theorem z2y:f_ef (21,())=some (false,false,2,0,0,0,true,()):=by kernel_rfl
theorem z2z:f_ef (22,())=some (false,false,0,0,0,0,true,()):=by kernel_rfl
theorem z30:f_ef (23,())=some (true,false,2,0,0,0,true,()):=by kernel_rfl
theorem z31:f_ef (24,())=some (false,false,1,0,2,0,true,()):=by kernel_rfl
theorem qs1 (a:Int) (h:∀c,c∈qvw→eqI a c=false):f_ef (a,())=some (false,false,2,0,3,0,false,()):=by have i1:eqI a 1=false:=h 1 (by decide);have i2:eqI a 2=false:=h 2 (by decide);have i3:eqI a 3=false:=h 3 (by decide);have i4:eqI a 4=false:=h 4 (by decide);have i5:eqI a 5=false:=h 5 (by decide);have i6:eqI a 6=false:=h 6 (by decide);have i7:eqI a 7=false:=h 7 (by decide);have i8:eqI a 8=false:=h 8 (by decide);have i9:eqI a 9=false:=h 9 (by decide);have i10:eqI a 10=false:=h 10 (by decide);have i11:eqI a 11=false:=h 11 (by decide);have i12:eqI a 12=false:=h 12 (by decide);have i21:eqI a 21=false:=h 21 (by decide);have i22:eqI a 22=false:=h 22 (by decide);have i23:eqI a 23=false:=h 23 (by decide);have i24:eqI a 24=false:=h 24 (by decide);rw [u_ef];simp only [i1,i2,i3,i4,i5,i6,i7,i8,i9,i10,i11,i12,i21,i22,i23,i24,q01,q00]
theorem e00:eqI 0 0=true:=id (Eq.refl true)
theorem e01:eqI 0 1=false:=id (Eq.refl false)
theorem e02:eqI 0 2=false:=id (Eq.refl false)
theorem e10:eqI 1 0=false:=id (Eq.refl false)
theorem e11:eqI 1 1=true:=id (Eq.refl true)
theorem e12:eqI 1 2=false:=id (Eq.refl false)
theorem e20:eqI 2 0=false:=id (Eq.refl false)
theorem e21:eqI 2 1=false:=id (Eq.refl false)
theorem e22:eqI 2 2=true:=id (Eq.refl true)
theorem nT:notB true=false:=id (Eq.refl false)
theorem nF:notB false=true:=id (Eq.refl true)
theorem qvy (b:Bool) (l:List ND) (hl:l.length≤10000) {k:Nat} {t:List Int} {n:Int} {ks:F} (pat:Bool) (ht:∀b,b∈t→0≤b∧b≤255) (hr:rng n):∀kd:Int,Sits l k (tr kd t n ks)→f_el (⟨b,l⟩,(k:Int),pat,())=some (q1g kd t n (ks.cnt:Int) ks.head pat,()):=by
 obtain ⟨v,w1,w2⟩:=qry n hr;have hc:=qvt ht;have he:=qzq ht;have hf:=z4a (ks.cnt:Int) (Int.natCast_nonneg _);refine qc4 ?k1 ?k2 ?k3 ?k4 ?k5 ?k6 ?k7 ?k8 ?k9 ?k10 ?k11 ?k12 ?k21 ?k22 ?k23 ?k24 (fun a h hs=>?_)
 case k1=>
  intro h;obtain ⟨g1,g2,g3,g4⟩:=h.node;rw [u_el,q06 g1,q00,z4b,q00];have e8:eqI 1 8=false:=rfl;have ep:q34 1=false:=rfl;simp only [q0n,ep,nT,nF,q02,q01,q00,e00,e01,e02,e20,e21,e22,q14,q4h,hf,w1,w2,hc,he,e8];have hE:q1g 1 t n (ks.cnt:Int) ks.head pat=bif notB (eqB false pat) then 61 else bif notB (eqI (ks.cnt:Int) 0) then 61 else bif q5a n then (bif eqS t [] then 0 else 61) else 61:=by have kk:q4e 1 (ks.cnt:Int)=eqI (ks.cnt:Int) 0:=rfl;unfold q1g q5i q67;rw [kk];cases pat<;>cases eqI (ks.cnt:Int) 0<;>cases q5a n<;>cases eqS t []<;>rfl
  rw [hE];cases pat<;>cases a1:eqI (ks.cnt:Int) 0<;>cases a2:q5a n<;>cases a3:eqS t []<;>simp only [nT,nF,q02,q01,q00,e20,e21,e22,hc,he,eqB,e8,BEq.rfl,Bool.false_beq,Bool.not_true,cond_true,cond_false,a3]<;>rfl
 case k2=>
  intro h;obtain ⟨g1,g2,g3,g4⟩:=h.node;rw [u_el,q06 g1,q00,z4c,q00];have e8:eqI 2 8=false:=rfl;have ep:q34 2=false:=rfl;simp only [q0n,ep,nT,nF,q02,q01,q00,e00,e01,e02,e22,q14,q4h,hf,w1,w2];have hE:q1g 2 t n (ks.cnt:Int) ks.head pat=bif notB (eqB false pat) then 61 else bif notB (eqI (ks.cnt:Int) 0) then 61 else bif eqI n 0 then (bif ltI 200 (lenI t) then 61 else 0) else 61:=by have kk:q4e 2 (ks.cnt:Int)=eqI (ks.cnt:Int) 0:=rfl;unfold q1g q5i q67;rw [kk];cases pat<;>cases eqI (ks.cnt:Int) 0<;>cases eqI n 0<;>cases ltI 200 (lenI t)<;>rfl
  rw [hE];cases pat<;>cases a1:eqI (ks.cnt:Int) 0<;>cases a2:eqI n 0<;>cases a3:ltI 200 (lenI t)<;>simp only [nT,nF,q02,q01,q00,e20,e21,e22,hc,he,eqB,e8,BEq.rfl,Bool.false_beq,Bool.not_true,cond_true,cond_false]<;>rfl
 case k3=>
  intro h;obtain ⟨g1,g2,g3,g4⟩:=h.node;rw [u_el,q06 g1,q00,z4d,q00];have e8:eqI 3 8=false:=rfl;have ep:q34 3=false:=rfl;simp only [q0n,ep,nT,nF,q02,q01,q00,e00,e01,e02,q14,q4h,hf,w1,w2,hc,he,e8];have hE:q1g 3 t n (ks.cnt:Int) ks.head pat=bif notB (eqB false pat) then 61 else bif notB (eqI (ks.cnt:Int) 0) then 61 else bif eqI n 0 then (bif nameOk t then 0 else 62) else 61:=by have kk:q4e 3 (ks.cnt:Int)=eqI (ks.cnt:Int) 0:=rfl;unfold q1g q5i q67;rw [kk];cases pat<;>cases eqI (ks.cnt:Int) 0<;>cases eqI n 0<;>cases nameOk t<;>rfl
  rw [hE];cases pat<;>cases a1:eqI (ks.cnt:Int) 0<;>cases a2:eqI n 0<;>cases a3:nameOk t<;>simp only [nT,nF,q02,q01,q00,eqB,BEq.rfl,Bool.false_beq,Bool.not_true,cond_true,cond_false]<;>rfl
 case k4=>
  intro h;obtain ⟨g1,g2,g3,g4⟩:=h.node;rw [u_el,q06 g1,q00,z4e,q00];have e8:eqI 4 8=false:=rfl;have ep:q34 4=false:=rfl;simp only [q0n,ep,nT,nF,q02,q01,q00,e00,e01,e02,e10,e11,e12,q14,q4h,hf,w1,w2,hc,he,e8];have hE:q1g 4 t n (ks.cnt:Int) ks.head pat=bif notB (eqB false pat) then 61 else bif notB (eqI (ks.cnt:Int) 0) then 61 else bif eqI n 0 then (bif q1l t then 0 else 62) else 61:=by have kk:q4e 4 (ks.cnt:Int)=eqI (ks.cnt:Int) 0:=rfl;unfold q1g q5i q67;rw [kk];cases pat<;>cases eqI (ks.cnt:Int) 0<;>cases eqI n 0<;>cases q1l t<;>rfl
  rw [hE];cases pat<;>cases a1:eqI (ks.cnt:Int) 0<;>cases a2:eqI n 0<;>cases a3:q1l t<;>simp only [nT,nF,q02,q01,q00,eqB,BEq.rfl,Bool.false_beq,Bool.not_true,cond_true,cond_false]<;>rfl
 case k5=>
  intro h;obtain ⟨g1,g2,g3,g4⟩:=h.node;rw [u_el,q06 g1,q00,z4f,q00];have e8:eqI 5 8=false:=rfl;have ep:q34 5=false:=rfl;simp only [q0n,ep,nT,nF,q02,q01,q00,e00,e01,e02,q14,q4h,hf,w1,w2,hc,he,e8];have hE:q1g 5 t n (ks.cnt:Int) ks.head pat=bif notB (eqB false pat) then 61 else bif notB (eqI (ks.cnt:Int) 1) then 61 else bif eqI n 0 then (bif nameOk t then 0 else 62) else 61:=by have kk:q4e 5 (ks.cnt:Int)=eqI (ks.cnt:Int) 1:=rfl;unfold q1g q5i q67;rw [kk];cases pat<;>cases eqI (ks.cnt:Int) 1<;>cases eqI n 0<;>cases nameOk t<;>rfl
  rw [hE];cases pat<;>cases a1:eqI (ks.cnt:Int) 1<;>cases a2:eqI n 0<;>cases a3:nameOk t<;>simp only [nT,nF,q02,q01,q00,eqB,BEq.rfl,Bool.false_beq,Bool.not_true,cond_true,cond_false]<;>rfl
 case k6=>
  intro h;obtain ⟨g1,g2,g3,g4⟩:=h.node;rw [u_el,q06 g1,q00,z4g,q00];have e8:eqI 6 8=false:=rfl;have ep:q34 6=false:=rfl;simp only [q0n,ep,nT,nF,q02,q01,q00,e00,e01,e02,e20,e21,e22,q14,q4h,hf,w1,w2,hc,he,e8];have hE:q1g 6 t n (ks.cnt:Int) ks.head pat=bif notB (eqB false pat) then 61 else bif notB (eqI (ks.cnt:Int) 2) then 61 else bif eqI n 0 then (bif eqS t [] then 0 else 61) else 61:=by have kk:q4e 6 (ks.cnt:Int)=eqI (ks.cnt:Int) 2:=rfl;unfold q1g q5i q67;rw [kk];cases pat<;>cases eqI (ks.cnt:Int) 2<;>cases eqI n 0<;>cases eqS t []<;>rfl
  rw [hE];cases pat<;>cases a1:eqI (ks.cnt:Int) 2<;>cases a2:eqI n 0<;>cases a3:eqS t []<;>simp only [nT,nF,q02,q01,q00,eqB,BEq.rfl,Bool.false_beq,Bool.not_true,cond_true,cond_false]<;>rfl
 case k7=>
  intro h;obtain ⟨g1,g2,g3,g4⟩:=h.node;rw [u_el,q06 g1,q00,z4h,q00];have e8:eqI 7 8=false:=rfl;have ep:q34 7=false:=rfl;simp only [q0n,ep,nT,nF,q02,q01,q00,e00,e01,e02,q14,q4h,hf,w1,w2,hc,he,e8];have hE:q1g 7 t n (ks.cnt:Int) ks.head pat=bif notB (eqB false pat) then 61 else bif notB (eqI (ks.cnt:Int) 2) then 61 else bif eqI n 0 then (bif nameOk t then 0 else 62) else 61:=by have kk:q4e 7 (ks.cnt:Int)=eqI (ks.cnt:Int) 2:=rfl;unfold q1g q5i q67;rw [kk];cases pat<;>cases eqI (ks.cnt:Int) 2<;>cases eqI n 0<;>cases nameOk t<;>rfl
  rw [hE];cases pat<;>cases a1:eqI (ks.cnt:Int) 2<;>cases a2:eqI n 0<;>cases a3:nameOk t<;>simp only [nT,nF,q02,q01,q00,eqB,BEq.rfl,Bool.false_beq,Bool.not_true,cond_true,cond_false]<;>rfl
 case k8=>
  intro h;obtain ⟨g1,g2,g3,g4⟩:=h.node;rw [u_el,q06 g1,q00,z4i,q00];have e8:eqI 8 8=true:=rfl;have ep:q34 8=false:=rfl;simp only [q0n,ep,nT,nF,q02,q01,q00,e00,e01,e02,q14,q4h,hf,w1,w2,hc,he];have hE:q1g 8 t n (ks.cnt:Int) ks.head pat=bif notB (eqB false pat) then 61 else bif notB (eqI (ks.cnt:Int) 2) then 61 else bif eqI n 0 then (bif eqI ks.head 5 then (bif nameOk t then 0 else 62) else 61) else 61:=by have kk:q4e 8 (ks.cnt:Int)=eqI (ks.cnt:Int) 2:=rfl;unfold q1g q5i q67;rw [kk];cases pat<;>cases eqI (ks.cnt:Int) 2<;>cases eqI n 0<;>cases nameOk t<;>cases eqI ks.head 5<;>rfl
  rw [hE];cases h2:eqI (ks.cnt:Int) 2 with
  |false=>cases pat<;>rfl
  |true=>have hb:=behind (kd:=8) (l:=l) (k:=k) (ks:=ks) (by omega) g2 (fun _ h0=>by have:=eqI_eq.1 h2;omega);rw [show eqI 8 8=true from rfl,q02] at hb;have hg:bnd (at? l (addI .i64 (k:Int) 1)) (fun x=>some (notB (eqI x.1 5)))=some (notB (eqI ks.head 5)):=hb;cases pat<;>cases a1:eqI n 0<;>cases a2:eqI ks.head 5<;>cases a3:nameOk t<;>simp only [nT,nF,q02,q01,q00,e8,hg,eqB,Bool.false_beq,beq_self_eq_true,Bool.not_true,a2]<;>rfl
 case k9=>
  intro h;obtain ⟨g1,g2,g3,g4⟩:=h.node;rw [u_el,q06 g1,q00,z4j,q00];have e8:eqI 9 8=false:=rfl;have ep:q34 9=false:=rfl;simp only [q0n,ep,nT,nF,q02,q01,q00,e00,e01,e02,e20,e21,e22,q14,q4h,hf,w1,w2,hc,he,e8];have hE:q1g 9 t n (ks.cnt:Int) ks.head pat=bif notB (eqB false pat) then 61 else bif notB (eqI (ks.cnt:Int) 3) then 61 else bif eqI n 0 then (bif eqS t [] then 0 else 61) else 61:=by have kk:q4e 9 (ks.cnt:Int)=eqI (ks.cnt:Int) 3:=rfl;unfold q1g q5i q67;rw [kk];cases pat<;>cases eqI (ks.cnt:Int) 3<;>cases eqI n 0<;>cases eqS t []<;>rfl
  rw [hE];cases pat<;>cases a1:eqI (ks.cnt:Int) 3<;>cases a2:eqI n 0<;>cases a3:eqS t []<;>simp only [nT,nF,q02,q01,q00,eqB,BEq.rfl,Bool.false_beq,Bool.not_true,cond_true,cond_false]<;>rfl
 case k10=>
  intro h;obtain ⟨g1,g2,g3,g4⟩:=h.node;rw [u_el,q06 g1,q00,z2v,q00];have e8:eqI 10 8=false:=rfl;have ep:q34 10=false:=rfl;simp only [q0n,ep,nT,nF,q02,q01,q00,e10,e11,e12,e20,e21,e22,q14,q4h,hf,w1,w2,hc,he,e8];have hE:q1g 10 t n (ks.cnt:Int) ks.head pat=bif notB (eqB false pat) then 61 else bif notB ((leI 3 (ks.cnt:Int)&&eqI ((ks.cnt:Int) % 2) 1)) then 61 else bif eqI n 0 then (bif eqS t [] then 0 else 61) else 61:=by have kk:q4e 10 (ks.cnt:Int)=(leI 3 (ks.cnt:Int)&&eqI ((ks.cnt:Int) % 2) 1):=rfl;unfold q1g q5i q67;rw [kk];cases pat<;>cases leI 3 (ks.cnt:Int)<;>cases eqI ((ks.cnt:Int) % 2) 1<;>cases eqI n 0<;>cases eqS t []<;>rfl
  rw [hE];cases pat<;>cases a1:leI 3 (ks.cnt:Int)<;>cases a2:eqI ((ks.cnt:Int) % 2) 1<;>cases a3:eqI n 0<;>cases a4:eqS t []<;>simp only [nT,nF,q02,q01,q00,eqB,BEq.rfl,Bool.false_beq,Bool.not_true,Bool.true_and,Bool.false_and,cond_true,cond_false]<;>rfl
 case k11=>
  intro h;obtain ⟨g1,g2,g3,g4⟩:=h.node;rw [u_el,q06 g1,q00,z2w,q00];have e8:eqI 11 8=false:=rfl;have ep:q34 11=false:=rfl;simp only [q0n,ep,nT,nF,q02,q01,q00,e00,e01,e02,e20,e21,e22,q14,q4h,hf,w1,w2,hc,he,e8];have hE:q1g 11 t n (ks.cnt:Int) ks.head pat=bif notB (eqB false pat) then 61 else bif notB (eqI (ks.cnt:Int) 1) then 61 else bif eqI n 0 then (bif eqS t [] then 0 else 61) else 61:=by have kk:q4e 11 (ks.cnt:Int)=eqI (ks.cnt:Int) 1:=rfl;unfold q1g q5i q67;rw [kk];cases pat<;>cases eqI (ks.cnt:Int) 1<;>cases eqI n 0<;>cases eqS t []<;>rfl
  rw [hE];cases pat<;>cases a1:eqI (ks.cnt:Int) 1<;>cases a2:eqI n 0<;>cases a3:eqS t []<;>simp only [nT,nF,q02,q01,q00,eqB,BEq.rfl,Bool.false_beq,Bool.not_true,cond_true,cond_false]<;>rfl
 case k12=>
  intro h;obtain ⟨g1,g2,g3,g4⟩:=h.node;rw [u_el,q06 g1,q00,z2x,q00];have e8:eqI 12 8=false:=rfl;have ep:q34 12=false:=rfl;simp only [q0n,ep,nT,nF,q02,q01,q00,e00,e01,e02,q14,q4h,hf,w1,w2,hc,he,e8];have hE:q1g 12 t n (ks.cnt:Int) ks.head pat=bif notB (eqB false pat) then 61 else bif notB (eqI (ks.cnt:Int) 2) then 61 else bif eqI n 0 then (bif nameOk t then 0 else 62) else 61:=by have kk:q4e 12 (ks.cnt:Int)=eqI (ks.cnt:Int) 2:=rfl;unfold q1g q5i q67;rw [kk];cases pat<;>cases eqI (ks.cnt:Int) 2<;>cases eqI n 0<;>cases nameOk t<;>rfl
  rw [hE];cases pat<;>cases a1:eqI (ks.cnt:Int) 2<;>cases a2:eqI n 0<;>cases a3:nameOk t<;>simp only [nT,nF,q02,q01,q00,eqB,BEq.rfl,Bool.false_beq,Bool.not_true,cond_true,cond_false]<;>rfl
 case k21=>
  intro h;obtain ⟨g1,g2,g3,g4⟩:=h.node;rw [u_el,q06 g1,q00,z2y,q00];have e8:eqI 21 8=false:=rfl;have ep:q34 21=true:=rfl;simp only [q0n,ep,nT,nF,q02,q01,q00,e00,e01,e02,e20,e21,e22,q14,q4h,hf,w1,w2,hc,he,e8];have hE:q1g 21 t n (ks.cnt:Int) ks.head pat=bif notB (eqB true pat) then 61 else bif notB (eqI (ks.cnt:Int) 0) then 61 else bif eqI n 0 then (bif eqS t [] then 0 else 61) else 61:=by have kk:q4e 21 (ks.cnt:Int)=eqI (ks.cnt:Int) 0:=rfl;unfold q1g q5i q67;rw [kk];cases pat<;>cases eqI (ks.cnt:Int) 0<;>cases eqI n 0<;>cases eqS t []<;>rfl
  rw [hE];cases pat<;>cases a1:eqI (ks.cnt:Int) 0<;>cases a2:eqI n 0<;>cases a3:eqS t []<;>simp only [nT,nF,q02,q01,q00,eqB,BEq.rfl,cond_true,cond_false]<;>rfl
 case k22=>
  intro h;obtain ⟨g1,g2,g3,g4⟩:=h.node;rw [u_el,q06 g1,q00,z2z,q00];have e8:eqI 22 8=false:=rfl;have ep:q34 22=true:=rfl;simp only [q0n,ep,nT,nF,q02,q01,q00,e00,e01,e02,q14,q4h,hf,w1,w2,hc,he,e8];have hE:q1g 22 t n (ks.cnt:Int) ks.head pat=bif notB (eqB true pat) then 61 else bif notB (eqI (ks.cnt:Int) 0) then 61 else bif eqI n 0 then (bif nameOk t then 0 else 62) else 61:=by have kk:q4e 22 (ks.cnt:Int)=eqI (ks.cnt:Int) 0:=rfl;unfold q1g q5i q67;rw [kk];cases pat<;>cases eqI (ks.cnt:Int) 0<;>cases eqI n 0<;>cases nameOk t<;>rfl
  rw [hE];cases pat<;>cases a1:eqI (ks.cnt:Int) 0<;>cases a2:eqI n 0<;>cases a3:nameOk t<;>simp only [nT,nF,q02,q01,q00,eqB,BEq.rfl,cond_true,cond_false]<;>rfl
 case k23=>
  intro h;obtain ⟨g1,g2,g3,g4⟩:=h.node;rw [u_el,q06 g1,q00,z30,q00];have e8:eqI 23 8=false:=rfl;have ep:q34 23=true:=rfl;simp only [q0n,ep,nT,nF,q02,q01,q00,e00,e01,e02,e20,e21,e22,q14,q4h,hf,w1,w2,hc,he,e8];have hE:q1g 23 t n (ks.cnt:Int) ks.head pat=bif notB (eqB true pat) then 61 else bif notB (eqI (ks.cnt:Int) 0) then 61 else bif q5a n then (bif eqS t [] then 0 else 61) else 61:=by have kk:q4e 23 (ks.cnt:Int)=eqI (ks.cnt:Int) 0:=rfl;unfold q1g q5i q67;rw [kk];cases pat<;>cases eqI (ks.cnt:Int) 0<;>cases q5a n<;>cases eqS t []<;>rfl
  rw [hE];cases pat<;>cases a1:eqI (ks.cnt:Int) 0<;>cases a2:q5a n<;>cases a3:eqS t []<;>simp only [nT,nF,q02,q01,q00,e20,e21,e22,hc,he,eqB,e8,BEq.rfl,cond_true,cond_false,a3]<;>rfl
 case k24=>
  intro h;obtain ⟨g1,g2,g3,g4⟩:=h.node;rw [u_el,q06 g1,q00,z31,q00];have e8:eqI 24 8=false:=rfl;have ep:q34 24=true:=rfl;simp only [q0n,ep,nT,nF,q02,q01,q00,e10,e11,e12,e20,e21,e22,q14,q4h,hf,w1,w2,hc,he,e8];have hE:q1g 24 t n (ks.cnt:Int) ks.head pat=bif notB (eqB true pat) then 61 else bif notB (true) then 61 else bif eqI n 0 then (bif q1l t then 0 else 62) else 61:=by have kk:q4e 24 (ks.cnt:Int)=true:=rfl;unfold q1g q5i q67;rw [kk];cases pat<;>cases eqI n 0<;>cases q1l t<;>rfl
  rw [hE];cases pat<;>cases a1:eqI n 0<;>cases a2:q1l t<;>simp only [nT,nF,q02,q01,q00,eqB,BEq.rfl,cond_true,cond_false]<;>rfl
 obtain ⟨g1,g2,g3,g4⟩:=hs.node;rw [u_el,q06 g1,q00,qs1 a h,q00];have hE:q1g a t n (ks.cnt:Int) ks.head pat=61:=by
  have hs:q2w a=-1:=by unfold q2w;rw [h 1 (by decide),h 6 (by decide),h 9 (by decide),h 10 (by decide),h 11 (by decide),h 21 (by decide),h 23 (by decide),h 3 (by decide),h 5 (by decide),h 7 (by decide),h 8 (by decide),h 12 (by decide),h 22 (by decide),h 4 (by decide),h 24 (by decide),h 2 (by decide)];rfl
  unfold q1g;rw [hs];rfl
 rw [hE];rfl
end Fn
end Ev

namespace Ev
open Go
namespace Fn
def qpu (x:ND):Prop:=(∀b,b∈x.2.1→0≤b∧b≤255)∧x.2.1.length≤1000000∧rng x.2.2.1
def GL (l:List ND):Prop:=∀x,x∈l→qpu x
theorem GL.at {l:List ND} (h:GL l) {k:Nat} {x:ND} (e:l[k]?=some x):qpu x:=h x (zn e)
def errF:Bool→Bool→Bool→F→Int
 |_,_,_,.nil=>0
 |m,pat,odd,.cons kd t n ks r=>
  bif notB (eqI (q1g kd t n (ks.cnt:Int) ks.head (pat||(m&&odd))) 0) then q1g kd t n (ks.cnt:Int) ks.head (pat||(m&&odd)) else
  bif notB (eqI (errF (eqI kd 10) (pat||(m&&odd)) false ks) 0) then errF (eqI kd 10) (pat||(m&&odd)) false ks else errF m pat (!odd) r
def errT (kd:Int) (t:List Int) (n:Int) (ks:F) (pat:Bool):Int:=bif notB (eqI (q1g kd t n (ks.cnt:Int) ks.head pat) 0) then q1g kd t n (ks.cnt:Int) ks.head pat else errF (eqI kd 10) pat false ks
theorem qii (m pat odd:Bool):errF m pat odd .nil=0:=id (Eq.refl _)
theorem qes (m pat odd:Bool) (kd:Int) (t:List Int) (n:Int) (ks r:F):errF m pat odd (.cons kd t n ks r)=bif notB (eqI (errT kd t n ks (pat||(m&&odd))) 0) then errT kd t n ks (pat||(m&&odd)) else errF m pat (!odd) r:=by
 conv=>lhs;unfold errF
 unfold errT;cases h:notB (eqI (q1g kd t n (ks.cnt:Int) ks.head (pat||(m&&odd))) 0) with
 |true=>rw [cond_true,cond_true,h];rfl
 |false=>rw [cond_false,cond_false]
theorem qvz (i:Nat):eqI (((i+1:Nat):Int) % 2) 1=!eqI ((i:Int) % 2) 1:=by
 by_cases h:(i:Int) % 2=1
 ·have h2:((i+1:Nat):Int) % 2=0:=by omega
  rw [h,h2];rfl
 ·have h1:(i:Int) % 2=0:=by omega
  have h2:((i+1:Nat):Int) % 2=1:=by omega
  rw [h1,h2];rfl
def qfq (to:Nat) (e:Int):Int×Int×Unit:=bif eqI e 0 then ((to:Int),0,()) else (0,e,())
theorem qzx (b b2:Bool) (l:List ND) (hl:l.length≤10000) (hg:GL l) {k:Nat} {kd:Int} {t:List Int} {n:Int} {ks:F} (h:Sits l k (tr kd t n ks)):∀pat N,ks.size+1≤N→recN g_en N (⟨b,l⟩,(k:Int),pat,⟨b2,l⟩,())=some (qfq (k+1+ks.size) (errT kd t n ks pat)):=by
 refine F.each_one (l:=l) (P:=fun k kd t n ks=>∀pat N,ks.size+1≤N→recN g_en N (⟨b,l⟩,(k:Int),pat,⟨b2,l⟩,())=some (qfq (k+1+ks.size) (errT kd t n ks pat))) ?_ h;clear h k kd t n ks;intro k kd t n ks hs he pat N hN;obtain ⟨N,rfl⟩:∃m,N=m+1:=⟨N-1,by omega⟩;show g_en (recN g_en N) _=_;obtain ⟨g1,g2,g3,g4⟩:=hs.node;obtain ⟨q1,q2,q3⟩:=hg.at g1;rw [u_en,u_ec,qvy b2 l hl pat q1 q3 kd hs];simp only [q00];unfold errT;cases hE:notB (eqI (q1g kd t n (ks.cnt:Int) ks.head pat) 0) with
 |true=>
  rw [q02,cond_true];unfold qfq;have:eqI (q1g kd t n (ks.cnt:Int) ks.head pat) 0=false:=by unfold notB at hE;simpa using hE
  rw [this,cond_false]
 |false=>
  rw [q01,cond_false,q06 g1,q00,add1 (by omega)];have loop:∀(g:F) (q i:Nat),g.Each (fun k kd t n ks=>∀pat N,ks.size+1≤N→recN g_en N (⟨b,l⟩,(k:Int),pat,⟨b2,l⟩,())=some (qfq (k+1+ks.size) (errT kd t n ks pat))) q→
    g.size≤N→i+g.cnt=ks.cnt→i≤1000000→
    loopR (l1_en (recN g_en N)) (⟨b,l⟩,(k:Int),pat,⟨b2,l⟩,(q:Int),(ks.cnt:Int),(i:Int),())=some (qfq (q+g.size) (errF (eqI kd 10) pat (eqI ((i:Int) % 2) 1) g)):=by
   intro g
   induction g with
   |nil=>intro q i _ _ hi _;have hi:i+0=ks.cnt:=hi;refine q0a ?_;unfold l1_en;simp only;rw [q0p,if_neg (by omega),qii];rfl
   |cons kd' t' n' ks' r' _ ih=>
    intro q i hE hz hi hm;have hi:i+(r'.cnt+1)=ks.cnt:=hi;have hz:ks'.size+r'.size+1≤N:=hz;have hc:=ks.cnt_le;have hj:cnd pat (some true) (bnd (at? l (k:Int)) (fun x3=>cnd (eqI x3.1 10) (bnd (remI (i:Int) 2) (fun x4=>some (eqI x4 1))) (some false)))=some (pat||(eqI kd 10&&eqI ((i:Int) % 2) 1)):=by rw [q06 g1,qaq (by omega) (by decide)];simp only [q00];cases pat<;>cases eqI kd 10<;>rfl
    rw [qes];have hw:=hE.1 (pat||(eqI kd 10&&eqI ((i:Int) % 2) 1)) N (by omega);generalize hv:errT kd' t' n' ks' (pat||(eqI kd 10&&eqI ((i:Int) % 2) 1))=v at*
    have step:l1_en (recN g_en N) (⟨b,l⟩,(k:Int),pat,⟨b2,l⟩,(q:Int),(ks.cnt:Int),(i:Int),())=
      bif eqI v 0 then some (.inl (⟨b,l⟩,(k:Int),pat,⟨b2,l⟩,((q+1+ks'.size:Nat):Int),(ks.cnt:Int),((i+1:Nat):Int),())) else some (.inr (0,v,())):=by
     unfold l1_en;simp only [hj,q00,hw];rw [q0p,if_pos (by omega),add1 (by omega)];unfold qfq;cases hf:eqI v 0 with
     |true=>rfl
     |false=>show cnd (notB (eqI v 0)) _ _=_;rw [hf];rfl
    cases hf:eqI v 0 with
    |true=>
     rw [hf,cond_true] at step;rw [q0d step,ih _ (i+1) hE.2 (by omega) (by omega) (by omega),qvz];have e:q+1+ks'.size+r'.size=q+(F.cons kd' t' n' ks' r').size:=by show _=q+(ks'.size+r'.size+1);omega
     rw [e];rfl
    |false=>rw [hf,cond_false] at step;rw [q0a step];show _=some (qfq _ v);unfold qfq;rw [hf];rfl
  have hc:=ks.cnt_le;exact loop ks (k+1) 0 he (by omega) (by omega) (by omega)
theorem qw0 (b:Bool) (l:List ND) (hl:l.length≤10000) (hg:GL l) {k:Nat} {kd:Int} {t:List Int} {n:Int} {ks:F} (h:Sits l k (tr kd t n ks)):∀pat N,ks.size+1≤N→recN g_ce N (⟨b,l⟩,(k:Int),pat,())=some (errT kd t n ks pat,()):=by
 refine F.each_one (l:=l) (P:=fun k kd t n ks=>∀pat N,ks.size+1≤N→recN g_ce N (⟨b,l⟩,(k:Int),pat,())=some (errT kd t n ks pat,())) ?_ h;clear h k kd t n ks;intro k kd t n ks hs he pat N hN;obtain ⟨N,rfl⟩:∃m,N=m+1:=⟨N-1,by omega⟩;show g_ce (recN g_ce N) _=_;obtain ⟨g1,g2,g3,g4⟩:=hs.node;obtain ⟨q1,q2,q3⟩:=hg.at g1;rw [u_ce,qs0 b l hl pat hs q2 q3,q2j b l hl hs];simp only [q00];unfold errT;cases hE:notB (eqI (q1g kd t n (ks.cnt:Int) ks.head pat) 0) with
 |true=>rw [q02,cond_true]
 |false=>
  rw [q01,cond_false];have loop:∀(g:F) (q:Nat) (pre:List Int),g.Each (fun k kd t n ks=>∀pat N,ks.size+1≤N→recN g_ce N (⟨b,l⟩,(k:Int),pat,())=some (errT kd t n ks pat,())) q→
    g.size≤N→pre++g.pos q=ks.pos (k+1)→
    loopR (l1_ce (recN g_ce N)) (⟨b,l⟩,(k:Int),pat,⟨false,ks.pos (k+1)⟩,(pre.length:Int),())=some (errF (eqI kd 10) pat (eqI ((pre.length:Int) % 2) 1) g,()):=by
   intro g
   induction g with
   |nil=>intro q pre _ _ hp;have hp:pre++[]=ks.pos (k+1):=hp;rw [zD] at hp;refine q0a ?_;unfold l1_ce;simp only;rw [q0p,if_neg (by rw [hp];unfold lenI;omega),qii]
   |cons kd' t' n' ks' r' _ ih=>
    intro q pre hE hz hp;have hz:ks'.size+r'.size+1≤N:=hz;have hp:pre++(q:Int)::r'.pos (q+1+ks'.size)=ks.pos (k+1):=hp;have hf:(ks.pos (k+1)).length=ks.cnt:=ks.pos_len _;have ho:=congrArg List.length hp;rw [zj,zt,hf] at ho;have hc:=ks.cnt_le;have hm:(ks.pos (k+1))[pre.length]?=some (q:Int):=by rw [←hp];simp
    rw [qes];have hw:=hE.1 (pat||(eqI kd 10&&eqI ((pre.length:Int) % 2) 1)) N (by omega);have step:l1_ce (recN g_ce N) (⟨b,l⟩,(k:Int),pat,⟨false,ks.pos (k+1)⟩,(pre.length:Int),())=
      bif notB (eqI (errT kd' t' n' ks' (pat||(eqI kd 10&&eqI ((pre.length:Int) % 2) 1))) 0) then some (.inr (errT kd' t' n' ks' (pat||(eqI kd 10&&eqI ((pre.length:Int) % 2) 1)),())) else some (.inl (⟨b,l⟩,(k:Int),pat,⟨false,ks.pos (k+1)⟩,((pre.length+1:Nat):Int),())):=by
     unfold l1_ce;simp only;rw [q0p,if_pos (by unfold lenI;rw [hf];omega),q06 hm,q00,q06 g1,qaq (by omega) (by decide),add1 (by omega)];cases pat with
     |true=>rw [Bool.true_or] at hw;simp only [q02,Bool.true_or,hw,q00];cases notB (eqI (errT kd' t' n' ks' true) 0)<;>rfl
     |false=>
      cases hj:eqI kd 10 with
      |true=>rw [hj,Bool.false_or,Bool.true_and] at hw;simp only [q01,Bool.false_or,Bool.true_and,hj,q02,hw,q00];cases notB (eqI (errT kd' t' n' ks' (eqI ((pre.length:Int) % 2) 1)) 0)<;>rfl
      |false=>rw [hj,Bool.false_or,Bool.false_and] at hw;simp only [q01,Bool.false_or,Bool.false_and,hj,hw,q00];cases notB (eqI (errT kd' t' n' ks' false) 0)<;>rfl
    cases hn:notB (eqI (errT kd' t' n' ks' (pat||(eqI kd 10&&eqI ((pre.length:Int) % 2) 1))) 0) with
    |true=>rw [hn,cond_true] at step;rw [q0a step];rfl
    |false=>rw [hn,cond_false] at step;have hi:=ih (q+1+ks'.size) (pre++[(q:Int)]) hE.2 (by omega) (by rw [zC];exact hp);rw [zj] at hi;have hi:loopR (l1_ce (recN g_ce N)) (⟨b,l⟩,(k:Int),pat,⟨false,ks.pos (k+1)⟩,((pre.length+1:Nat):Int),())=some (errF (eqI kd 10) pat (eqI (((pre.length+1:Nat):Int) % 2) 1) r',()):=hi;rw [q0d step,hi,qvz];rfl
  exact loop ks (k+1) [] he (by omega) rfl
theorem qw1 (b b2:Bool) (l:List ND) (hl:l.length≤10000) (hg:GL l) {k:Nat} {kd:Int} {t:List Int} {n:Int} {ks:F} (pat:Bool) (h:Sits l k (tr kd t n ks)):f_en (⟨b,l⟩,(k:Int),pat,⟨b2,l⟩,())=some (qfq (k+1+ks.size) (errT kd t n ks pat)):=q3m (ks.size+1) fun N hN=>qzx b b2 l hl hg h pat N hN
theorem qs2 (b:Bool) (l:List ND) (hl:l.length≤10000) (hg:GL l) {k:Nat} {kd:Int} {t:List Int} {n:Int} {ks:F} (pat:Bool) (h:Sits l k (tr kd t n ks)):f_ce (⟨b,l⟩,(k:Int),pat,())=some (errT kd t n ks pat,()):=q3m (ks.size+1) fun N hN=>qw0 b l hl hg h pat N hN
end Fn
end Ev

namespace Ev
open Go
namespace Fn
abbrev Tx:=List Int
def dupL:List Tx→Bool
 |[]=>false
 |a::r=>decide (a∈r)||dupL r
theorem q6k:∀l:List Tx,dupL l=false↔l.Nodup
 |[]=>by simp [dupL]
 |a::r=>by unfold dupL;rw [List.nodup_cons,←q6k r,Bool.or_eq_false_iff,decide_eq_false_iff_not]
def q4i (l:List ND):List Tx:=l.filterMap fun x=>if x.1=22 then some x.2.1 else none
theorem qs3 (a b:List ND):q4i (a++b)=q4i a++q4i b:=List.filterMap_append ..
theorem qet (x:ND) (l:List ND):q4i (x::l)=(if x.1=22 then [x.2.1] else [])++q4i l:=by
 show List.filterMap _ (x::l)=_;rw [List.filterMap_cons];by_cases h:x.1=22
 ·rw [if_pos h,if_pos h];rfl
 ·rw [if_neg h,if_neg h];rfl
theorem qs4 (l:List ND):(q4i l).length≤l.length:=List.length_filterMap_le _ _
theorem qs5 (b:Bool) (l:List ND) (hl:l.length≤10000):∀(m k:Nat) (nb:Bool) (out:List Tx),k+m=l.length→out.length≤k→∃nb',loopR l1_ek (⟨b,l⟩,(l.length:Int),(k:Int),⟨nb,out⟩,())=some (⟨nb',out++q4i (l.drop k)⟩,()):=by
 intro m
 induction m with
 |zero=>intro k nb out hk _;refine ⟨nb,q0a ?_⟩;unfold l1_ek;simp only;rw [q0p,if_neg (by omega),zM (by omega)];show _=some (Sum.inr ((⟨nb,out++[]⟩:Sl Tx),()));rw [zD]
 |succ m ih=>
  intro k nb out hk ho;have hc:k<l.length:=by omega
  rw [q26 hc,qet];have he:=q06 (zf hc);by_cases h:l[k].1=22
  ·have hf:fit (sumI (lenI out) (lenI [l[k].2.1]))=some ():=q0g (by show out.length+1≤_;omega);have step:l1_ek (⟨b,l⟩,(l.length:Int),(k:Int),⟨nb,out⟩,())=some (.inl (⟨b,l⟩,(l.length:Int),((k+1:Nat):Int),⟨false,out++[l[k].2.1]⟩,())):=by unfold l1_ek;simp only;rw [q0p,if_pos (by omega),he,q00,qpn,if_pos h,hf,q00,q00,q13,add1 (by omega)];rfl
   obtain ⟨nb',h'⟩:=ih (k+1) false (out++[l[k].2.1]) (by omega) (by rw [zj,List.length_singleton];omega);refine ⟨nb',?_⟩;rw [q0d step,h',if_pos h,zC]
  ·have step:l1_ek (⟨b,l⟩,(l.length:Int),(k:Int),⟨nb,out⟩,())=some (.inl (⟨b,l⟩,(l.length:Int),((k+1:Nat):Int),⟨nb,out⟩,())):=by unfold l1_ek;simp only;rw [q0p,if_pos (by omega),he,q00,qpn,if_neg h,q00,add1 (by omega)]
   obtain ⟨nb',h'⟩:=ih (k+1) nb out (by omega) (by omega);refine ⟨nb',?_⟩;rw [q0d step,h',if_neg h,List.nil_append]
theorem qs6 (b:Bool) (l:List ND) (hl:l.length≤10000):∃nb,f_ek (⟨b,l⟩,())=some (⟨nb,q4i l⟩,()):=by rw [u_ek];exact qs5 b l hl l.length 0 true [] (by omega) (Nat.le_refl _)
def adj:List Tx→Bool
 |[]=>false
 |[_]=>false
 |a::b::r=>decide (a=b)||adj (b::r)
theorem qng:∀l:List Tx,adj l=true↔∃k,k+1<l.length∧l[k+1]?=l[k]?
 |[]=>by simp [adj]
 |[a]=>by simp [adj]
 |a::b::r=>by
  unfold adj;rw [Bool.or_eq_true,decide_eq_true_eq,qng (b::r)];constructor
  ·rintro (h|⟨k,h1,h2⟩)
   ·exact ⟨0,by simp,by simp [h]⟩
   ·exact ⟨k+1,by simpa using h1,by simpa using h2⟩
  ·rintro ⟨k,h1,h2⟩;cases k with
   |zero=>left;simpa using h2.symm
   |succ k=>right;exact ⟨k,by simpa using h1,by simpa using h2⟩
theorem qpv (a b:Nat):sumI (a:Int) (b:Int)=((a+b:Nat):Int):=by show (a:Int)+(b:Int)=_;omega
theorem qaz {α:Type} {l:List α} {i:Nat} (h:i<l.length):nth l i=some l[i]:=by unfold nth;exact zf h
theorem qs7 (k0:Nat) (nb:Bool):∀(m k k2:Nat) (s:List Tx),s.length≤1000000→k0+k2+m=s.length→1≤k2→k+1≤k0+k2→∃c:List Tx,loopR l1_d4 ((k:Int),(k0:Int),(k2:Int),⟨nb,s⟩,())=some (.inr (⟨nb,c⟩,()))∧c.length<s.length:=by
 intro m
 induction m with
 |zero=>
  intro k k2 s hs h1 h2 h3;refine ⟨(zerL s (k:Int) []).take k,q0a ?_,?_⟩
  ·have e1:lenI (dropL s (k0:Int))=(k2:Int):=by unfold lenI dropL;rw [jc,Int.toNat_natCast];omega
   have ez:(zerL s (k:Int) ([]:Tx)).length=s.length:=by unfold zerL;rw [zj,zT,List.length_replicate,Int.toNat_natCast];omega
   unfold l1_d4;simp only [e1];rw [q0p,if_neg (by omega)];have c1:cutN (lenI s) (k:Int)=some k:=by unfold cutN lenI;rw [if_pos (by omega),Int.toNat_natCast]
   have c2:cutN (lenI (zerL s (k:Int) ([]:Tx))) (k:Int)=some k:=by unfold cutN lenI;rw [if_pos (by omega),Int.toNat_natCast]
   rw [c1,q00,c2,q00];rfl
  ·rw [zT];omega
 |succ m ih=>
  intro k k2 s hs h1 h2 h3;have e1:lenI (dropL s (k0:Int))=((k2+m+1:Nat):Int):=by unfold lenI dropL;rw [jc,Int.toNat_natCast];omega
  have e2:subI .i64 (k2:Int) 1=((k2-1:Nat):Int):=by rw [q38 (by omega) (by omega)];omega
  have l1:leI 0 (k2:Int)=true:=zu (by omega);have l2:leI 0 ((k2-1:Nat):Int)=true:=zu (by omega);have step:∃(k':Nat) (s':List Tx),l1_d4 ((k:Int),(k0:Int),(k2:Int),⟨nb,s⟩,())=some (.inl ((k':Int),(k0:Int),((k2+1:Nat):Int),⟨nb,s'⟩,()))∧s'.length=s.length∧k'+1≤k0+(k2+1):=by
   unfold l1_d4;simp only [e1];rw [q0p,if_pos (by omega),e2,l1,l2,q02,q02,qpv,qpv,q2d (by omega),q2d (by omega)];simp only [q00,qaz (show k0+k2<s.length by omega),qaz (show k0+(k2-1)<s.length by omega)];cases eqS s[k0+k2] s[k0+(k2-1)] with
   |true=>refine ⟨k,s,?_,rfl,by omega⟩;simp only [notB,Bool.not_true,q01,q00,add1 (show k2≤1000000000 by omega)]
   |false=>refine ⟨k+1,s.set k s[k0+k2],?_,by rw [List.length_set],by omega⟩;simp only [notB,Bool.not_false,q02,q00,q2d (show k<s.length by omega),qaz (show k<s.length by omega),add1 (show k2≤1000000000 by omega),add1 (show k≤1000000000 by omega)];rfl
  obtain ⟨k',s',h4,h5,h6⟩:=step;obtain ⟨c,g1,g2⟩:=ih k' (k2+1) s' (by omega) (by omega) (by omega) h6;exact ⟨c,by rw [q0d h4,g1],by omega⟩
theorem ql3 (nb:Bool) (s:List Tx) (hs:s.length≤1000000):∀(m k:Nat),k+m=s.length→1≤k→(∀j,j+1<k→s[j+1]?≠s[j]?)→∃c,loopR l2_d4 ((k:Int),⟨nb,s⟩,())=some (⟨nb,c⟩,())∧decide (c.length<s.length)=adj s:=by
 intro m
 induction m with
 |zero=>
  intro k h1 h2 h3;refine ⟨s,q0a ?_,?_⟩
  ·unfold l2_d4;simp only;rw [q0p,if_neg (by unfold lenI;omega)]
  ·have:adj s=false:=by
    cases h:adj s with
    |false=>rfl
    |true=>obtain ⟨j,g1,g2⟩:=(qng s).1 h;exact absurd g2 (h3 j (by omega))
   rw [this];exact zw (Nat.lt_irrefl _)
 |succ m ih=>
  intro k h1 h2 h3;have e2:subI .i64 (k:Int) 1=((k-1:Nat):Int):=by rw [q38 (by omega) (by omega)];omega
  have hc:cutN (lenI s) (k:Int)=some k:=by unfold cutN lenI;rw [if_pos (by omega),Int.toNat_natCast]
  by_cases he:s[k]=s[k-1]
  ·obtain ⟨c,g1,g2⟩:=qs7 k nb m k 1 s hs (by omega) (Nat.le_refl _) (by omega);have g1:loopR l1_d4 ((k:Int),(k:Int),1,⟨nb,s⟩,())=some (.inr (⟨nb,c⟩,())):=g1;refine ⟨c,q0a ?_,?_⟩
   ·unfold l2_d4;simp only;rw [q0p,if_pos (by unfold lenI;omega),e2,q2d (by omega),q2d (by omega)];simp only [q00,qaz (show k<s.length by omega),qaz (show k-1<s.length by omega),hc];rw [qen,if_pos he,g1]
   ·have:adj s=true:=(qng s).2 ⟨k-1,by omega,by rw [show k-1+1=k by omega,zf (by omega),zf (by omega),he]⟩;rw [this];exact zu g2
  ·have step:l2_d4 ((k:Int),⟨nb,s⟩,())=some (.inl (((k+1:Nat):Int),⟨nb,s⟩,())):=by unfold l2_d4;simp only;rw [q0p,if_pos (by unfold lenI;omega),e2,q2d (by omega),q2d (by omega)];simp only [q00,qaz (show k<s.length by omega),qaz (show k-1<s.length by omega)];rw [qen,if_neg he,add1 (by omega)]
   obtain ⟨c,g1,g2⟩:=ih (k+1) (by omega) (by omega) (fun j hj=>by
    by_cases hf:j+1=k
    ·have:j=k-1:=by omega
     subst this;rw [show k-1+1=k by omega,zf (by omega),zf (by omega)];exact fun e=>he (zG e)
    ·exact h3 j (by omega))
   exact ⟨c,by rw [q0d step,g1],g2⟩
theorem ql4 (nb:Bool) (s:List Tx) (hs:s.length≤1000000):∃c,f_d4 (⟨nb,s⟩,())=some (⟨nb,c⟩,())∧decide (c.length<s.length)=adj s:=by
 rw [u_d4,q0p];by_cases h:lenI s<2
 ·rw [if_pos h];refine ⟨s,rfl,?_⟩;have:adj s=false:=by
   have h:(s.length:Int)<2:=h
   match s,h with
   |[],_=>rfl
   |[a],_=>rfl
   |a::b::r,h=>simp at h;omega
  rw [this];exact zw (Nat.lt_irrefl _)
 ·rw [if_neg h];have h:¬(s.length:Int)<2:=h;exact ql3 nb s hs (s.length-1) 1 (by omega) (Nat.le_refl _) (fun j hj=>by omega)
theorem qgs:∀l:List Tx,(l.Pairwise fun a b=>(!strLt b a)=true)→adj l=dupL l
 |[],_=>rfl
 |[a],_=>by simp [adj,dupL]
 |a::b::r,h=>by
  have ih:=qgs (b::r) (List.pairwise_cons.1 h).2;unfold adj;rw [ih]
  conv=>rhs;unfold dupL
  by_cases hc:a=b
  ·simp [hc]
  ·have hm:a∉b::r:=by
    intro hm;rcases zm.1 hm with e|e
    ·exact hc e
    ·have h1:=(List.pairwise_cons.1 h).1 b (ze ..);have h2:=(List.pairwise_cons.1 (List.pairwise_cons.1 h).2).1 a e;simp only [Bool.not_eq_true'] at h1 h2;exact hc (q9q _ _ h2 h1)
   rw [zw hc,zw hm]
theorem qzy {a b:List Tx} (h:a.Perm b):dupL a=dupL b:=by have:=h.nodup_iff;rw [←q6k,←q6k] at this;cases ha:dupL a<;>cases hb:dupL b<;>simp_all
theorem z4k (nb:Bool) (s:List Tx) (hs:s.length≤1000000) (hg:∀x,x∈s→qby x=true):∃c nb',bnd (f_e5 (⟨nb,s⟩,())) (fun x=>f_d4 (x.1,()))=some (⟨nb',c⟩,())∧decide (c.length<s.length)=dupL s:=by
 have e:f_e5 (⟨nb,s⟩,())=some (⟨nb,s.mergeSort fun a b=>!strLt b a⟩,()):=by show (bif s.all qby&&decide (s.length<4611686018427387904) then _ else none)=_;rw [zQ.2 hg,zu (show s.length<4611686018427387904 by omega)];rfl
 have hc:(s.mergeSort fun a b=>!strLt b a).length=s.length:=List.length_mergeSort _;obtain ⟨c,h1,h2⟩:=ql4 nb (s.mergeSort fun a b=>!strLt b a) (by omega);rw [e,q00];refine ⟨c,nb,h1,?_⟩;rw [←hc,h2,qgs,qzy (List.mergeSort_perm _ _)];refine List.pairwise_mergeSort (fun a b c h1 h2=>?_) (fun a b=>?_) _
 ·simp only [Bool.not_eq_true'] at h1 h2 ⊢;cases h3:strLt c a with
  |false=>rfl
  |true=>
   cases h4:strLt b c with
   |true=>rw [q9p _ _ _ h4 h3] at h1;cases h1
   |false=>have e:=q9q _ _ h2 h4;subst e;rw [h1] at h3;cases h3
 ·cases h3:strLt b a with
  |false=>rfl
  |true=>
   cases h4:strLt a b with
   |false=>rfl
   |true=>have:=q9p _ _ _ h3 h4;rw [qco] at this;cases this
end Fn
end Ev

namespace Ev
open Go
namespace Fn
theorem Sits.flat_eq {l:List ND} {k:Nat} {f:F} (h:Sits l k f):(l.drop k).take f.size=f.flat:=by obtain ⟨post,h⟩:=h;rw [h,←f.len,List.take_left'];rfl
theorem qzz {α:Type} (a c:List α) (h:a.length=c.length):ovl a c=c:=by unfold ovl;rw [h,List.take_length,←h,List.drop_length,zD]
theorem z00 (b:Bool) (l:List ND) (hl:l.length≤10000) {k:Nat} {kd:Int} {t:List Int} {n:Int} {ks r:F} (h:Sits l k (.cons kd t n ks r)):f_es (⟨b,l⟩,(k:Int),())=some (⟨false,(tr kd t n ks).flat⟩,0,()):=by
 obtain ⟨g1,g2,g3,g4⟩:=h.node;rw [u_es,q8r b l hl,h.ends];have hs:subI .i64 ((k+1+ks.size:Nat):Int) (k:Int)=((ks.size+1:Nat):Int):=by rw [q38 (by omega) (by omega)];omega
 have hm:mkN ((ks.size+1:Nat):Int) ((ks.size+1:Nat):Int)=some (ks.size+1):=by unfold mkN;rw [if_pos (by omega),Int.toNat_natCast]
 have hc:cutL l (k:Int) ((k+1+ks.size:Nat):Int)=some ((l.take (k+1+ks.size)).drop k):=by unfold cutL;rw [if_pos (by omega),Int.toNat_natCast,Int.toNat_natCast]
 have hd:(l.take (k+1+ks.size)).drop k=(tr kd t n ks).flat:=by rw [List.drop_take,show k+1+ks.size-k=(tr kd t n ks).size by rw [q66];omega];exact h.first.flat_eq
 simp only [q00];rw [q0p,if_neg (by omega)];simp only [hs,hm,q00,hc,hd];rw [qzz];rw [(tr kd t n ks).len,q66];exact List.length_replicate
theorem GL.sub {l:List ND} (hg:GL l) {k:Nat} {f:F} (h:Sits l k f):GL f.flat:=by intro x hx;rw [←h.flat_eq] at hx;exact hg x (List.mem_of_mem_drop (List.mem_of_mem_take hx))
theorem qs8 {l:List ND} (hg:GL l):∀x,x∈q4i l→qby x=true:=by
 intro x hx;obtain ⟨d,h1,h2⟩:=zU.1 hx;by_cases h:d.1=22
 ·rw [if_pos h] at h2;injection h2 with h2;subst h2;obtain ⟨g1,g2,_⟩:=hg d h1;unfold qby
  rw [zd,zQ,decide_eq_true_eq];exact ⟨fun b hb=>zu (g1 b hb),by omega⟩
 ·rw [if_neg h] at h2;cases h2
theorem qnh (b:Bool) (l:List ND) (hl:l.length≤10000) (hg:GL l) {k:Nat} {kd:Int} {t:List Int} {n:Int} {ks r:F} (h:Sits l k (.cons kd t n ks r)):f_ed ((k:Int),⟨b,l⟩,())=some (dupL (q4i (tr kd t n ks).flat),()):=by
 obtain ⟨g1,g2,g3,g4⟩:=h.node;rw [u_ed,z00 b l hl h];simp only [q00];have hc:(tr kd t n ks).flat.length≤10000:=by rw [(tr kd t n ks).len,q66];omega
 obtain ⟨nb,h1⟩:=qs6 false (tr kd t n ks).flat hc;have hn:=qs4 (tr kd t n ks).flat
 obtain ⟨c,nb',h2,h3⟩:=z4k nb (q4i (tr kd t n ks).flat) (by omega) (qs8 (hg.sub h.first));have h4:f_ee (⟨false,(tr kd t n ks).flat⟩,())=some (lenI (q4i (tr kd t n ks).flat),()):=by rw [u_ee,h1];rfl
 rw [h1];simp only [q00,h4];cases hs:f_e5 (⟨nb,q4i (tr kd t n ks).flat⟩,()) with
 |none=>rw [hs] at h2;cases h2
 |some x=>rw [hs,q00] at h2;simp only [q00,h2];rw [←h3];congr 2;exact decide_eq_decide.2 (by unfold lenI;omega)
def qcz:F→List Tx
 |.nil=>[]
 |.cons kd t _ ks r=>(bif eqI kd 22 then [t] else qcz ks)++qcz r
def q5b (kd:Int) (t:Tx) (ks:F):List Tx:=bif eqI kd 22 then [t] else qcz ks
theorem q42 (kd:Int) (t:Tx) (n:Int) (ks r:F):qcz (.cons kd t n ks r)=q5b kd t ks++qcz r:=id (Eq.refl _)
theorem qb0:∀f:F,(qcz f).length≤f.size
 |.nil=>Nat.le_refl _
 |.cons kd t n ks r=>by
  have h1:=qb0 ks;have h2:=qb0 r;rw [q42,zj];show _≤ks.size+r.size+1;unfold q5b;cases eqI kd 22 with
  |true=>show 1+_≤_;omega
  |false=>show (qcz ks).length+_≤_;omega
theorem z01 (b:Bool) (l:List ND) (hl:l.length≤10000) {k:Nat} {kd:Int} {t:List Int} {n:Int} {ks:F} (h:Sits l k (tr kd t n ks)):∀N,ks.size+1≤N→recN g_cb N (⟨b,l⟩,(k:Int),())=some (⟨false,q5b kd t ks⟩,()):=by
 refine F.each_one (l:=l) (P:=fun k kd t _ ks=>∀N,ks.size+1≤N→recN g_cb N (⟨b,l⟩,(k:Int),())=some (⟨false,q5b kd t ks⟩,())) ?_ h;clear h k kd t n ks;intro k kd t n ks hs he N hN;obtain ⟨N,rfl⟩:∃m,N=m+1:=⟨N-1,by omega⟩;show g_cb (recN g_cb N) _=_;obtain ⟨g1,g2,g3,g4⟩:=hs.node;rw [u_cb,q06 g1];simp only [q00];unfold q5b;cases hn:eqI kd 22 with
 |true=>rfl
 |false=>
  rw [q01,cond_false,q2j b l hl hs,q00];have loop:∀(g:F) (q:Nat) (pre:List Int) (out:List Tx),g.Each (fun k kd t _ ks=>∀N,ks.size+1≤N→recN g_cb N (⟨b,l⟩,(k:Int),())=some (⟨false,q5b kd t ks⟩,())) q→
    g.size≤N→pre++g.pos q=ks.pos (k+1)→out.length+g.size≤1000000→
    loopR (l1_cb (recN g_cb N)) (⟨b,l⟩,⟨false,ks.pos (k+1)⟩,(pre.length:Int),⟨false,out⟩,())=some (⟨false,out++qcz g⟩,()):=by
   intro g
   induction g with
   |nil=>intro q pre out _ _ hp _;have hp:pre++[]=ks.pos (k+1):=hp;rw [zD] at hp;refine q0a ?_;unfold l1_cb;simp only;rw [q0p,if_neg (by rw [hp];unfold lenI;omega)];show _=some (Sum.inr ((⟨false,out++[]⟩:Sl Tx),()));rw [zD]
   |cons kd' t' n' ks' r' _ ih=>
    intro q pre out hE hz hp ho;have hz:ks'.size+r'.size+1≤N:=hz;have ho:out.length+(ks'.size+r'.size+1)≤1000000:=ho;have hp:pre++(q:Int)::r'.pos (q+1+ks'.size)=ks.pos (k+1):=hp;have hg:(ks.pos (k+1)).length=ks.cnt:=ks.pos_len _;have hm:=congrArg List.length hp;rw [zj,zt,hg] at hm;have hc:=ks.cnt_le;have hj:(ks.pos (k+1))[pre.length]?=some (q:Int):=by rw [←hp];simp
    have hv:(q5b kd' t' ks').length≤ks'.size+1:=by have:=qb0 (tr kd' t' n' ks');have e:qcz (tr kd' t' n' ks')=q5b kd' t' ks'++[]:=q42 ..;rw [e,zD,q66] at this;exact this
    have hf:fit (sumI (lenI out) (lenI (q5b kd' t' ks')))=some ():=q0g (by omega);have step:l1_cb (recN g_cb N) (⟨b,l⟩,⟨false,ks.pos (k+1)⟩,(pre.length:Int),⟨false,out⟩,())=some (.inl (⟨b,l⟩,⟨false,ks.pos (k+1)⟩,((pre.length+1:Nat):Int),⟨false,out++q5b kd' t' ks'⟩,())):=by unfold l1_cb;simp only;rw [q0p,if_pos (by unfold lenI;rw [hg];omega),q06 hj,q00,hE.1 N (by omega),q00];simp only [hf,q00,add1 (show pre.length≤1000000000 by omega),qgq];rfl
    have hi:=ih (q+1+ks'.size) (pre++[(q:Int)]) (out++q5b kd' t' ks') hE.2 (by omega) (by rw [zC];exact hp) (by rw [zj];omega);rw [zj] at hi;have hi:loopR (l1_cb (recN g_cb N)) (⟨b,l⟩,⟨false,ks.pos (k+1)⟩,((pre.length+1:Nat):Int),⟨false,out++q5b kd' t' ks'⟩,())=_:=hi;rw [q0d step,hi,zC];rfl
  exact loop ks (k+1) [] [] he (by omega) rfl (by show 0+ks.size≤_;omega)
theorem qw2 (b:Bool) (l:List ND) (hl:l.length≤10000) {k:Nat} {kd:Int} {t:List Int} {n:Int} {ks:F} (h:Sits l k (tr kd t n ks)):f_cb (⟨b,l⟩,(k:Int),())=some (⟨false,q5b kd t ks⟩,()):=q3m (ks.size+1) fun N hN=>z01 b l hl h N hN
theorem z5h (nb:Bool) (v:List Tx) (hv:v.length≤1000000) (i:Nat) (hi:i<v.length):∀(m j:Nat),j+m=i→∃r,loopR l1_cg ((i:Int),(j:Int),⟨nb,v⟩,())=some r∧((∃q,j≤q∧q<i∧v[q]?=v[i]?)∧r=.inr (true,())∨(∀q,j≤q→q<i→v[q]?≠v[i]?)∧r=.inl (((i+1:Nat):Int),⟨nb,v⟩,())):=by
 intro m
 induction m with
 |zero=>intro j hj;refine ⟨_,q0a ?_,.inr ⟨fun q h1 h2=>by omega,rfl⟩⟩;unfold l1_cg;simp only;rw [q0p,if_neg (by omega),add1 (by omega)]
 |succ m ih=>
  intro j hj;have hc:l1_cg ((i:Int),(j:Int),⟨nb,v⟩,())=if v[i]=v[j] then some (.inr (.inr (true,()))) else some (.inl ((i:Int),((j+1:Nat):Int),⟨nb,v⟩,())):=by unfold l1_cg;simp only;rw [q0p,if_pos (by omega),q2d hi,q2d (by omega)];simp only [q00,qaz hi,qaz (show j<v.length by omega)];rw [qen,add1 (by omega)]
  by_cases h:v[i]=v[j]
  ·rw [if_pos h] at hc;exact ⟨_,q0a hc,.inl ⟨⟨j,Nat.le_refl _,by omega,by rw [zf hi,zf (by omega),h]⟩,rfl⟩⟩
  ·rw [if_neg h] at hc;obtain ⟨r,h1,h2⟩:=ih (j+1) (by omega);refine ⟨r,by rw [q0d hc,h1],?_⟩;rcases h2 with ⟨⟨q,e1,e2,e3⟩,e4⟩|⟨e1,e2⟩
   ·exact .inl ⟨⟨q,by omega,e2,e3⟩,e4⟩
   ·refine .inr ⟨fun q h3 h4=>?_,e2⟩;by_cases hq:q=j
    ·subst hq;rw [zf hi,zf (by omega)];exact fun e=>h (zG e).symm
    ·exact e1 q (by omega) h4
theorem z32 (nb:Bool) (v:List Tx) (hv:v.length≤1000000):∀(m i:Nat),i+m=v.length→(∀a c:Nat,a<c→c<i→v[a]?≠v[c]?)→loopR l2_cg ((i:Int),⟨nb,v⟩,())=some (dupL v,()):=by
 have hf:dupL v=true↔∃a c:Nat,a<c∧c<v.length∧v[a]?=v[c]?:=by
  have key:v.Nodup↔∀i j:Nat,i<j→j<v.length→v[i]?≠v[j]?:=by
   unfold List.Nodup;rw [List.pairwise_iff_getElem];constructor
   ·intro h i j hg hj e;rw [zf (show i<v.length by omega),zf hj] at e;exact h i j (by omega) hj hg (zG e)
   ·intro h i j hi hj hg e;exact h i j hg hj (by rw [zf hi,zf hj,e])
  have:=(q6k v).trans key;constructor
  ·intro h;apply zL;intro hn;have hh:dupL v=false:=this.2 fun i j hg hj e=>hn ⟨i,j,hg,hj,e⟩;rw [h] at hh;cases hh
  ·rintro ⟨a,c,h1,h2,h3⟩;cases hd:dupL v with
   |true=>rfl
   |false=>exact absurd h3 (this.1 hd a c h1 h2)
 intro m
 induction m with
 |zero=>
  intro i hi hl;refine q0a ?_;unfold l2_cg;simp only;rw [q0p,if_neg (by unfold lenI;omega)];cases hd:dupL v with
  |false=>rfl
  |true=>obtain ⟨a,c,h1,h2,h3⟩:=hf.1 hd;exact absurd h3 (hl a c h1 (by omega))
 |succ m ih=>
  intro i hi hl;obtain ⟨r,h1,h2⟩:=z5h nb v hv i (by omega) i 0 (by omega);have h1:loopR l1_cg ((i:Int),0,⟨nb,v⟩,())=some r:=h1;have he:l2_cg ((i:Int),⟨nb,v⟩,())=loopR l1_cg ((i:Int),0,⟨nb,v⟩,()):=by unfold l2_cg;simp only;rw [q0p,if_pos (by unfold lenI;omega)]
  rw [h1] at he;rcases h2 with ⟨⟨q,e1,e2,e3⟩,e4⟩|⟨e1,e2⟩
  ·subst e4;rw [q0a he,hf.2 ⟨q,i,e2,by omega,e3⟩]
  ·subst e2;rw [q0d he,ih (i+1) (by omega) (fun a c h3 h4=>by
    by_cases hc:c=i
    ·subst hc;exact e1 a (by omega) h3
    ·exact hl a c h3 (by omega))]
def twF:F→Bool
 |.nil=>false
 |.cons kd t _ ks r=>(bif q34 kd then dupL (q5b kd t ks) else twF ks)||twF r
def twT (kd:Int) (t:Tx) (ks:F):Bool:=bif q34 kd then dupL (q5b kd t ks) else twF ks
theorem qij (kd:Int) (t:Tx) (n:Int) (ks r:F):twF (.cons kd t n ks r)=(twT kd t ks||twF r):=id (Eq.refl _)
theorem qw3 (b:Bool) (l:List ND) (hl:l.length≤10000) {k:Nat} {kd:Int} {t:List Int} {n:Int} {ks:F} (h:Sits l k (tr kd t n ks)):∀N,ks.size+1≤N→recN g_cg N (⟨b,l⟩,(k:Int),())=some (twT kd t ks,()):=by
 refine F.each_one (l:=l) (P:=fun k kd t _ ks=>∀N,ks.size+1≤N→recN g_cg N (⟨b,l⟩,(k:Int),())=some (twT kd t ks,())) ?_ h;clear h k kd t n ks;intro k kd t n ks hs he N hN;obtain ⟨N,rfl⟩:∃m,N=m+1:=⟨N-1,by omega⟩;show g_cg (recN g_cg N) _=_;obtain ⟨g1,g2,g3,g4⟩:=hs.node;rw [u_cg,q06 g1];simp only [q00,qgr];unfold twT;cases q34 kd with
 |true=>
  rw [q02,cond_true,qw2 b l hl hs,q00];have hv:(q5b kd t ks).length≤ks.size+1:=by have:=qb0 (tr kd t n ks);have e:qcz (tr kd t n ks)=q5b kd t ks++[]:=q42 ..;rw [e,zD,q66] at this;exact this
  exact z32 false (q5b kd t ks) (by omega) _ 0 (zJ _) (fun a c h1 h2=>by omega)
 |false=>
  rw [q01,cond_false,q2j b l hl hs,q00];have loop:∀(g:F) (q:Nat) (pre:List Int),g.Each (fun k kd t _ ks=>∀N,ks.size+1≤N→recN g_cg N (⟨b,l⟩,(k:Int),())=some (twT kd t ks,())) q→
    g.size≤N→pre++g.pos q=ks.pos (k+1)→
    loopR (l3_cg (recN g_cg N)) (⟨b,l⟩,⟨false,ks.pos (k+1)⟩,(pre.length:Int),())=some (twF g,()):=by
   intro g
   induction g with
   |nil=>intro q pre _ _ hp;have hp:pre++[]=ks.pos (k+1):=hp;rw [zD] at hp;refine q0a ?_;unfold l3_cg;simp only;rw [q0p,if_neg (by rw [hp];unfold lenI;omega)];rfl
   |cons kd' t' n' ks' r' _ ih=>
    intro q pre hE hz hp;have hz:ks'.size+r'.size+1≤N:=hz;have hp:pre++(q:Int)::r'.pos (q+1+ks'.size)=ks.pos (k+1):=hp;have hf:(ks.pos (k+1)).length=ks.cnt:=ks.pos_len _;have hj:=congrArg List.length hp;rw [zj,zt,hf] at hj;have hc:=ks.cnt_le;have hg:(ks.pos (k+1))[pre.length]?=some (q:Int):=by rw [←hp];simp
    have step:l3_cg (recN g_cg N) (⟨b,l⟩,⟨false,ks.pos (k+1)⟩,(pre.length:Int),())=
      cnd (twT kd' t' ks') (some (.inr (true,()))) (some (.inl (⟨b,l⟩,⟨false,ks.pos (k+1)⟩,((pre.length+1:Nat):Int),()))):=by
     unfold l3_cg;simp only;rw [q0p,if_pos (by unfold lenI;rw [hf];omega),q06 hg,q00,hE.1 N (by omega),q00,add1 (by omega)]
    rw [qij];cases ht:twT kd' t' ks' with
    |true=>rw [ht,q02] at step;rw [q0a step];rfl
    |false=>rw [ht,q01] at step;have hi:=ih (q+1+ks'.size) (pre++[(q:Int)]) hE.2 (by omega) (by rw [zC];exact hp);rw [zj] at hi;have hi:loopR (l3_cg (recN g_cg N)) (⟨b,l⟩,⟨false,ks.pos (k+1)⟩,((pre.length+1:Nat):Int),())=_:=hi;rw [q0d step,hi];rfl
  exact loop ks (k+1) [] he (by omega) rfl
theorem qs9 (b:Bool) (l:List ND) (hl:l.length≤10000) {k:Nat} {kd:Int} {t:List Int} {n:Int} {ks:F} (h:Sits l k (tr kd t n ks)):f_cg (⟨b,l⟩,(k:Int),())=some (twT kd t ks,()):=q3m (ks.size+1) fun N hN=>qw3 b l hl h N hN
end Fn
end Ev

namespace Ev
open Go
namespace Fn
theorem qc5 {a b:Int}:(bif notB (eqI a 0) then a else b)=0↔a=0∧b=0:=by
 cases h:eqI a 0 with
 |true=>have:=eqI_eq.1 h;rw [nT,cond_false];exact ⟨fun e=>⟨this,e⟩,fun e=>e.2⟩
 |false=>
  have hn:a≠0:=fun e=>by rw [e] at h;cases h
  rw [nF,cond_true];exact ⟨fun e=>absurd e hn,fun e=>absurd e.1 hn⟩
theorem errT_ok {kd:Int} {t:Tx} {n:Int} {ks:F} {pat:Bool}:errT kd t n ks pat=0↔q1g kd t n (ks.cnt:Int) ks.head pat=0∧errF (eqI kd 10) pat false ks=0:=qc5
theorem errF_ok {m pat odd:Bool} {kd:Int} {t:Tx} {n:Int} {ks r:F}:errF m pat odd (.cons kd t n ks r)=0↔errT kd t n ks (pat||(m&&odd))=0∧errF m pat (!odd) r=0:=by rw [qes];exact qc5
def z02 (k n:Int):Bool:=bif eqI k 1||eqI k 23 then q5a n else eqI n 0
def ql5 (k:Int) (t:Tx):Bool:=(bif eqI (q2w k) 0 then eqS t [] else bif eqI (q2w k) 3 then notB (ltI 200 (lenI t)) else true)&&notB (eqI (q2w k) 1&&notB (nameOk t))&&notB (eqI (q2w k) 2&&notB (q1l t))
def z33 (k hk:Int):Bool:=notB (eqI k 8&&notB (eqI hk 5))
theorem qsa (k:Int) (t:Tx) (hk:Int):q5i k t hk=0↔ql5 k t=true∧z33 k hk=true:=by unfold q5i q67 ql5 z33;generalize (eqI k 8&&notB (eqI hk 5))=T;generalize eqI (q2w k) 0=s0;generalize eqI (q2w k) 1=s1;generalize eqI (q2w k) 2=s2;generalize eqI (q2w k) 3=s3;generalize eqS t []=a;generalize ltI 200 (lenI t)=c;generalize nameOk t=d;generalize q1l t=e;revert T s0 s1 s2 s3 a c d e;decide
theorem nodeE_zero {k:Int} {t:Tx} {n c hk:Int} {pat:Bool}:q1g k t n c hk pat=0↔ltI (q2w k) 0=false∧q34 k=pat∧q4e k c=true∧z02 k n=true∧ql5 k t=true∧z33 k hk=true:=by
 rw [←qsa];have e:q1g k t n c hk pat=bif ltI (q2w k) 0 then 61 else bif notB (eqB (q34 k) pat) then 61 else bif notB (q4e k c) then 61 else bif z02 k n then q5i k t hk else 61:=by unfold q1g z02;cases (eqI k 1||eqI k 23)<;>rfl
 rw [e];cases ltI (q2w k) 0 with
 |true=>simp
 |false=>
  have hp:eqB (q34 k) pat=true↔q34 k=pat:=by cases q34 k<;>cases pat<;>decide
  cases h1:eqB (q34 k) pat with
  |false=>
   have:q34 k≠pat:=fun e=>by rw [hp.2 e] at h1;cases h1
   simp [nF,this]
  |true=>
   rw [nT,cond_false,cond_false];have:=hp.1 h1;cases q4e k c with
   |false=>simp [nF]
   |true=>
    rw [nT,cond_false];cases z02 k n with
    |false=>simp
    |true=>simp [this]
theorem z34 {k c:Int} (h:q4e k c=true):(k=5∨k=11→c=1)∧(k=6∨k=7∨k=8∨k=12→c=2)∧(k=9→c=3)∧(k=10→3≤c∧c % 2=1)∧(k=1∨k=2∨k=3∨k=4∨k=21∨k=22∨k=23→c=0):=by
 refine ⟨?_,?_,?_,?_,?_⟩
 ·rintro (rfl|rfl)<;>exact eqI_eq.1 h
 ·rintro (rfl|rfl|rfl|rfl)<;>exact eqI_eq.1 h
 ·rintro rfl;exact eqI_eq.1 h
 ·rintro rfl;have h:(leI 3 c&&eqI (c % 2) 1)=true:=h;rw [zd,eqI_eq] at h;exact ⟨zB h.1,h.2⟩
 ·rintro (rfl|rfl|rfl|rfl|rfl|rfl|rfl)<;>exact eqI_eq.1 h
theorem qik {f:F} (h:(f.cnt:Int)=0):f=.nil:=by
 cases f with
 |nil=>rfl
 |cons _ _ _ _ r=>have h:((r.cnt+1:Nat):Int)=0:=h;omega
theorem q9t:∀(f:F) (m pat odd:Bool),errF m pat odd f=0→q4i f.flat=qcz f
 |.nil,_,_,_,_=>rfl
 |.cons kd t n ks r,m,pat,odd,h=>by
  obtain ⟨h1,h2⟩:=errF_ok.1 h;obtain ⟨h3,h4⟩:=errT_ok.1 h1;have i1:=q9t ks _ _ _ h4;have i2:=q9t r _ _ _ h2;show q4i ((kd,t,n,(ks.cnt:Int))::(ks.flat++r.flat))=_;rw [qet,qs3,i1,i2,q42];unfold q5b;by_cases hc:kd=22
  ·subst hc;have:=(z34 (nodeE_zero.1 h3).2.2.1).2.2.2.2 (by omega);rw [qik this,if_pos rfl];rfl
  ·rw [if_neg hc,q2q hc];rfl
theorem ql6 {kd:Int} {t:Tx} {n:Int} {ks:F} {pat:Bool} (h:errT kd t n ks pat=0):q4i (tr kd t n ks).flat=q5b kd t ks:=by have h':errF false pat false (tr kd t n ks)=0:=errF_ok.2 ⟨by rw [Bool.false_and,Bool.or_false];exact h,rfl⟩;rw [q9t _ _ _ _ h',q42];exact zD _
theorem z03 (b:Bool) (l:List ND) (hl:l.length≤10000) (hg:GL l):∀(f:F) (q:Nat) (m pat odd:Bool),Sits l q f→q≤l.length→errF m pat odd f=0→loopR l1_eb ((q:Int),⟨b,l⟩,())=bif twF f then some (63,()) else loopR l1_eb (((q+f.size:Nat):Int),⟨b,l⟩,()):=by
 intro f
 induction f with
 |nil=>intro q m pat odd _ _ _;rfl
 |cons kd t n ks r ih1 ih2=>
  intro q m pat odd hs hq he;obtain ⟨g1,g2,g3,g4⟩:=hs.node;obtain ⟨h1,h2⟩:=errF_ok.1 he;obtain ⟨h3,h4⟩:=errT_ok.1 h1;rw [qij];have esz:q+(F.cons kd t n ks r).size=q+1+ks.size+r.size:=by show q+(ks.size+r.size+1)=_;omega
  rw [esz];have rest:=ih2 (q+1+ks.size) m pat (!odd) g3 (by omega) h2;cases hp:q34 kd with
  |true=>
   have hT:twT kd t ks=dupL (q5b kd t ks):=by unfold twT;rw [hp];rfl
   have hc:=qnh b l hl hg hs;rw [ql6 h1,←hT] at hc;have step:l1_eb ((q:Int),⟨b,l⟩,())=bif twT kd t ks then some (.inr (63,())) else some (.inl (((q+1+ks.size:Nat):Int),⟨b,l⟩,())):=by
    unfold l1_eb;simp only;rw [q0p,if_pos (by unfold lenI;omega),q06 g1];simp only [q00,q0n,hp,nT,q01,hc];cases twT kd t ks with
    |true=>rfl
    |false=>
     rw [q01,q8r b l hl,hs.ends];simp only [q00];have e1:subI .i64 ((q+1+ks.size:Nat):Int) 1=((q+ks.size:Nat):Int):=by rw [q38 (by omega) (by omega)];omega
     rw [e1];show some (Sum.inl (addI .i64 ((q+ks.size:Nat):Int) 1,_,()))=_;rw [add1 (by omega),show q+ks.size+1=q+1+ks.size by omega];rfl
   cases ht:twT kd t ks with
   |true=>rw [ht,cond_true] at step;rw [q0a step];rfl
   |false=>rw [ht,cond_false] at step;rw [q0d step,rest];rfl
  |false=>
   have hT:twT kd t ks=twF ks:=by unfold twT;rw [hp];rfl
   have step:l1_eb ((q:Int),⟨b,l⟩,())=some (.inl (((q+1:Nat):Int),⟨b,l⟩,())):=by unfold l1_eb;simp only;rw [q0p,if_pos (by unfold lenI;omega),q06 g1];simp only [q00,q0n,hp,nF,q02];show some (Sum.inl (addI .i64 (q:Int) 1,_,()))=_;rw [add1 (by omega)]
   rw [q0d step,ih1 (q+1) _ _ _ g2 (by omega) h4,hT];cases twF ks with
   |true=>rfl
   |false=>rw [cond_false,rest];rfl
def chkT (kd:Int) (t:Tx) (n:Int) (ks:F) (pat:Bool):Int:=bif ltI 100 ((ks.dep+1:Nat):Int) then 60 else bif notB (eqI (errT kd t n ks pat) 0) then errT kd t n ks pat else bif twT kd t ks then 63 else 0
theorem qsb (b:Bool) (kd:Int) (t:Tx) (n:Int) (ks:F) (pat:Bool) (hl:ks.size+1≤4000) (hg:GL (tr kd t n ks).flat):f_eb (⟨b,(tr kd t n ks).flat⟩,pat,())=some (chkT kd t n ks pat,()):=by
 have hc:(tr kd t n ks).flat.length=ks.size+1:=(tr kd t n ks).len;have hs:=q36 kd t n ks;rw [u_eb,q8s b _ (by omega),(q41 _).2 ⟨kd,t,n,ks,rfl⟩,qvv b kd t n ks (by omega)];have hw:=qw1 b b _ (by omega) hg pat hs;have h0:((0:Nat):Int)=0:=rfl;rw [h0] at hw;have c0:ltI 4000 (lenI (tr kd t n ks).flat)=false:=zw (by unfold lenI;omega);simp only [c0,q01,q00,nT,hw];unfold chkT;cases ltI 100 ((ks.dep+1:Nat):Int) with
 |true=>rfl
 |false=>
  rw [q01,cond_false];unfold qfq;cases hv:eqI (errT kd t n ks pat) 0 with
  |false=>rw [cond_false,nF];show cnd (notB (eqI (errT kd t n ks pat) 0)) _ _=_;rw [hv];rfl
  |true=>
   rw [cond_true,nT,cond_false];show loopR l1_eb (0,_,())=_;have hz:=eqI_eq.1 hv;have:=z03 b (tr kd t n ks).flat (by omega) hg (tr kd t n ks) 0 false pat false hs (by omega) (errF_ok.2 ⟨by rw [Bool.false_and,Bool.or_false];exact hz,rfl⟩);rw [h0,qij] at this;rw [this];have hf:twF .nil=false:=rfl;rw [hf,Bool.or_false];cases twT kd t ks with
   |true=>rfl
   |false=>rw [cond_false,cond_false];refine q0a ?_;unfold l1_eb;simp only;rw [q0p,if_neg (by unfold lenI;rw [hc,q66];omega)]
theorem qni (b:Bool) (kd:Int) (t:Tx) (n:Int) (ks:F) (pat:Bool) (hl:ks.size+1≤4000) (hg:GL (tr kd t n ks).flat):f_c7 (⟨b,(tr kd t n ks).flat⟩,pat,())=some (chkT kd t n ks pat,()):=by
 have hc:(tr kd t n ks).flat.length=ks.size+1:=(tr kd t n ks).len;have hs:=q36 kd t n ks;have hd:=qrx b _ (by omega) hs;have hw:=qs2 b _ (by omega) hg pat hs;have ht:=qs9 b _ (by omega) hs;have h0:((0:Nat):Int)=0:=rfl;rw [h0] at hw hd ht;rw [u_c7,q9s b _ (by omega),(q41 _).2 ⟨kd,t,n,ks,rfl⟩];have c0:ltI 4000 (lenI (tr kd t n ks).flat)=false:=zw (by unfold lenI;omega);simp only [c0,q01,q00,nT,hw,hd,ht];unfold chkT;cases ltI 100 ((ks.dep+1:Nat):Int) with
 |true=>rfl
 |false=>
  rw [q01,cond_false];cases notB (eqI (errT kd t n ks pat) 0) with
  |true=>rfl
  |false=>cases twT kd t ks<;>rfl
theorem qsc (b:Bool) (l:List ND) (hl:l.length≤4000) (pat:Bool) (h:q5v l=false):f_eb (⟨b,l⟩,pat,())=some (60,()):=by rw [u_eb,q8s b _ (by omega),h];have c0:ltI 4000 (lenI l)=false:=zw (by unfold lenI;omega);simp only [c0,q01,q00,nF,q02]
theorem qnj (b:Bool) (l:List ND) (hl:l.length≤4000) (pat:Bool) (h:q5v l=false):f_c7 (⟨b,l⟩,pat,())=some (60,()):=by rw [u_c7,q9s b _ (by omega),h];have c0:ltI 4000 (lenI l)=false:=zw (by unfold lenI;omega);simp only [c0,q01,q00,nF,q02]
theorem qw4 (l:List ND):q5v l=false∨∃kd t n ks,l=(tr kd t n ks).flat:=by
 cases h:q5v l with
 |false=>exact .inl rfl
 |true=>exact .inr ((q41 l).1 h)
theorem qpw (b:Bool) (kd:Int) (t:Tx) (n:Int) (ks:F) (hl:ks.size+1≤4000) (hg:GL (tr kd t n ks).flat):f_ea (⟨b,(tr kd t n ks).flat⟩,())=some (chkT kd t n ks true,()):=by rw [u_ea,qsb b kd t n ks true hl hg];rfl
theorem qpx (b:Bool) (l:List ND) (hl:l.length≤4000) (h:q5v l=false):f_ea (⟨b,l⟩,())=some (60,()):=by rw [u_ea,qsc b l hl true h];rfl
theorem chkT_ok {kd:Int} {t:Tx} {n:Int} {ks:F} {pat:Bool}:chkT kd t n ks pat=0↔ks.dep+1≤100∧errT kd t n ks pat=0∧twT kd t ks=false:=by
 unfold chkT;cases h:ltI 100 ((ks.dep+1:Nat):Int) with
 |true=>
  have:=zB h;rw [cond_true];constructor
  ·intro e;cases e
  ·rintro ⟨e,_⟩;omega
 |false=>
  have:=of_decide_eq_false h;rw [cond_false,qc5];constructor
  ·rintro ⟨e1,e2⟩;refine ⟨by omega,e1,?_⟩;cases ht:twT kd t ks with
   |false=>rfl
   |true=>rw [ht] at e2;cases e2
  ·rintro ⟨_,e1,e2⟩;refine ⟨e1,?_⟩;rw [e2];rfl
end Fn
end Ev

