/- Layers 2, 6 and 10 in plain words: trees, patterns, declarations. No statement of its own about the program. -/
import Derived.Test.YtfgngipmbogcjaaGreatDoorFnB
import Derived.Test.YtfgngipmbogcjaaGreatDoorAw
import Derived.Laws.RangeAny
namespace Ev
open Go
namespace Fn
theorem Xn{α β:Type}{x y:Option α}{f g:α->Option β}(h:lq x y)(h2:∀a,lq (f a) (g a)):lq (ag x f) (ag y g):=by
 intro v e;cases hx:x with
 |none=>rw[hx] at e;cases e
 |some a=>rw[hx] at e;rw[h a hx];exact h2 a v e
theorem Xo{α:Type}{c:Bool}{x y x' y':Option α}(h:lq x x')(h2:lq y y'):lq (aq c x y) (aq c x' y'):=by
 cases c with
 |true=>exact h
 |false=>exact h2
theorem Xp{α β:Type}{f g:α->Option β}(h:∀a,lq (f a) (g a))(y:α⊕β):lq (eO f y) (eO g y):=by
 cases y with
 |inl a=>exact h a
 |inr b=>exact bA _
theorem Xq{σ ρ:Type}{f g:σ->Option (σ⊕ρ)}(h:∀s,lq (f s) (g s))(n:Nat)(s:σ):lq (lh f n s) (aG g s):=fun r e=>I7 n (Vl h n s r e)
def Ph(K:((List Int)×Int×Int×(Sl (List Int))×Unit)->Option ((((List Int)×Int×Int×Int×(Sl (List Int))×Unit)⊕(((List Int)×Int×Int×Int×(Sl (List Int))×Unit)⊕(((List Int)×Int×Int×(Sl (List Int))×Unit)⊕(((List Int)×Int×Int×Int×Int×Unit)⊕((Sl (List Int))×Unit)))))))(x8:(List Int)×Int×Int×Int×(Sl (List Int))×Unit):Option (((List Int)×Int×Int×Int×(Sl (List Int))×Unit)⊕((((List Int)×Int×Int×(Sl (List Int))×Unit)⊕(((List Int)×Int×Int×Int×Int×Unit)⊕((Sl (List Int))×Unit))))):=aq (aB x8.2.2.2.1 (aa x8.1)) (ag (ag (aJ x8.1 x8.2.2.2.1) (fun x9=>ag (aJ ([0,0,0,0,0,0,0,0,0,1,1,1,1,1,0,0,0,0,0,0,0,0,0,0,0,0,0,0,0,0,0,0,1,0,0,0,0,0,0,0,0,0,0,0,0,0,0,0,0,0,0,0,0,0,0,0,0,0,0,0,0,0,0,0,0,0,0,0,0,0,0,0,0,0,0,0,0,0,0,0,0,0,0,0,0,0,0,0,0,0,0,0,0,0,0,0,0,0,0,0,0,0,0,0,0,0,0,0,0,0,0,0,0,0,0,0,0,0,0,0,0,0,0,0,0,0,0,0,0,0,0,0,0,0,0,0,0,0,0,0,0,0,0,0,0,0,0,0,0,0,0,0,0,0,0,0,0,0,0,0,0,0,0,0,0,0,0,0,0,0,0,0,0,0,0,0,0,0,0,0,0,0,0,0,0,0,0,0,0,0,0,0,0,0,0,0,0,0,0,0,0,0,0,0,0,0,0,0,0,0,0,0,0,0,0,0,0,0,0,0,0,0,0,0,0,0,0,0,0,0,0,0,0,0,0,0,0,0,0,0,0,0,0,0,0,0,0,0,0,0,0,0,0,0,0,0]:List Int) x9) (fun Xs=>aq (af Xs 0) (some (Sum.inl (x8.1,x8.2.1,x8.2.2.1,ar IntKind.i64 x8.2.2.2.1 1,x8.2.2.2.2.1,()))) (ag (bG x8.1 x8.2.2.1 x8.2.2.2.1) (fun x11=>ag (bZ x8.2.2.2.2.1.l x8.2.1) (fun x12=>ag (ag (nth x8.2.2.2.2.1.l x12) (fun _=>some x11)) (fun x14=>K (x8.1,ar IntKind.i64 x8.2.1 1,ar IntKind.i64 x8.2.2.2.1 1,⟨x8.2.2.2.2.1.nil,eP x8.2.2.2.2.1.l x12 x14⟩,())))))))) (eO (fun Mh=>some (Sum.inl (Mh.1,Mh.2.1,Mh.2.2.1,Mh.2.2.2.1,Mh.2.2.2.2.1,()))))) (ag (aq (aB x8.2.2.1 (aa x8.1)) (ag (bG x8.1 x8.2.2.1 (aa x8.1)) (fun x20=>ag (bZ x8.2.2.2.2.1.l x8.2.1) (fun x21=>ag (ag (nth x8.2.2.2.2.1.l x21) (fun _=>some x20)) (fun x23=>some (⟨x8.2.2.2.2.1.nil,eP x8.2.2.2.2.1.l x21 x23⟩,()))))) (some (x8.2.2.2.2.1,()))) (fun x24=>some (Sum.inr (Sum.inr (Sum.inr (x24.1,()))))))
theorem z21{K K':((List Int)×Int×Int×(Sl (List Int))×Unit)->Option ((((List Int)×Int×Int×Int×(Sl (List Int))×Unit)⊕(((List Int)×Int×Int×Int×(Sl (List Int))×Unit)⊕(((List Int)×Int×Int×(Sl (List Int))×Unit)⊕(((List Int)×Int×Int×Int×Int×Unit)⊕((Sl (List Int))×Unit))))))}(h:∀s,lq (K s) (K' s))(s:(List Int)×Int×Int×Int×(Sl (List Int))×Unit):lq (Ph K s) (Ph K' s):=by
 unfold Ph
 repeat' first|exact h _|exact bA _|apply Xn|apply Xo|(intro _)|apply Xp
def Pj(K:((List Int)×Int×Int×Int×(Sl (List Int))×Unit)->Option ((((List Int)×Int×Int×(Sl (List Int))×Unit)⊕(((List Int)×Int×Int×Int×Int×Unit)⊕((Sl (List Int))×Unit)))))(x4:(List Int)×Int×Int×(Sl (List Int))×Unit):Option (((List Int)×Int×Int×(Sl (List Int))×Unit)⊕((((List Int)×Int×Int×Int×Int×Unit)⊕((Sl (List Int))×Unit)))):=ag (aq (aB x4.2.2.1 (aa x4.1)) (ag (aJ x4.1 x4.2.2.1) (fun x5=>ag (aJ ([0,0,0,0,0,0,0,0,0,1,1,1,1,1,0,0,0,0,0,0,0,0,0,0,0,0,0,0,0,0,0,0,1,0,0,0,0,0,0,0,0,0,0,0,0,0,0,0,0,0,0,0,0,0,0,0,0,0,0,0,0,0,0,0,0,0,0,0,0,0,0,0,0,0,0,0,0,0,0,0,0,0,0,0,0,0,0,0,0,0,0,0,0,0,0,0,0,0,0,0,0,0,0,0,0,0,0,0,0,0,0,0,0,0,0,0,0,0,0,0,0,0,0,0,0,0,0,0,0,0,0,0,0,0,0,0,0,0,0,0,0,0,0,0,0,0,0,0,0,0,0,0,0,0,0,0,0,0,0,0,0,0,0,0,0,0,0,0,0,0,0,0,0,0,0,0,0,0,0,0,0,0,0,0,0,0,0,0,0,0,0,0,0,0,0,0,0,0,0,0,0,0,0,0,0,0,0,0,0,0,0,0,0,0,0,0,0,0,0,0,0,0,0,0,0,0,0,0,0,0,0,0,0,0,0,0,0,0,0,0,0,0,0,0,0,0,0,0,0,0,0,0,0,0,0,0]:List Int) x5) (fun x6=>some (av (af x6 0))))) (some false)) (fun x7=>aq x7 (some (Sum.inl (x4.1,x4.2.1,ar IntKind.i64 x4.2.2.1 1,x4.2.2.2.1,()))) (K (x4.1,x4.2.1,x4.2.2.1,x4.2.2.1,x4.2.2.2.1,())))
theorem z22{K K':((List Int)×Int×Int×Int×(Sl (List Int))×Unit)->Option ((((List Int)×Int×Int×(Sl (List Int))×Unit)⊕(((List Int)×Int×Int×Int×Int×Unit)⊕((Sl (List Int))×Unit))))}(h:∀s,lq (K s) (K' s))(s:(List Int)×Int×Int×(Sl (List Int))×Unit):lq (Pj K s) (Pj K' s):=by
 unfold Pj
 repeat' first|exact h _|exact bA _|apply Xn|apply Xo|(intro _)|apply Xp
def Pl(K:((List Int)×Int×Int×(Sl (List Int))×Unit)->Option ((((List Int)×Int×Int×Int×Int×Unit)⊕((Sl (List Int))×Unit))))(x0:(List Int)×Int×Int×Int×Int×Unit):Option (((List Int)×Int×Int×Int×Int×Unit)⊕((Sl (List Int))×Unit)):=aq (aB x0.2.2.2.2.1 (aa x0.1)) (ag (aJ x0.1 x0.2.2.2.2.1) (fun x1=>ag (aJ ([0,0,0,0,0,0,0,0,0,1,1,1,1,1,0,0,0,0,0,0,0,0,0,0,0,0,0,0,0,0,0,0,1,0,0,0,0,0,0,0,0,0,0,0,0,0,0,0,0,0,0,0,0,0,0,0,0,0,0,0,0,0,0,0,0,0,0,0,0,0,0,0,0,0,0,0,0,0,0,0,0,0,0,0,0,0,0,0,0,0,0,0,0,0,0,0,0,0,0,0,0,0,0,0,0,0,0,0,0,0,0,0,0,0,0,0,0,0,0,0,0,0,0,0,0,0,0,0,0,0,0,0,0,0,0,0,0,0,0,0,0,0,0,0,0,0,0,0,0,0,0,0,0,0,0,0,0,0,0,0,0,0,0,0,0,0,0,0,0,0,0,0,0,0,0,0,0,0,0,0,0,0,0,0,0,0,0,0,0,0,0,0,0,0,0,0,0,0,0,0,0,0,0,0,0,0,0,0,0,0,0,0,0,0,0,0,0,0,0,0,0,0,0,0,0,0,0,0,0,0,0,0,0,0,0,0,0,0,0,0,0,0,0,0,0,0,0,0,0,0,0,0,0,0,0,0]:List Int) x1) (fun x2=>some (Sum.inl (x0.1,ar IntKind.i64 x0.2.1 (pq IntKind.i64 x0.2.2.1 (lJ IntKind.i64 (-1) (iZ IntKind.i64 x2))),iZ IntKind.i64 x2,DM IntKind.u8 x0.2.2.2.1 x1,ar IntKind.i64 x0.2.2.2.2.1 1,()))))) (aq (a8 128 x0.2.2.2.1) none (ag (rn x0.2.1 x0.2.1) (fun x3=>K (x0.1,0,0,⟨false,rep x3 ([]:List Int)⟩,()))))
theorem z23{K K':((List Int)×Int×Int×(Sl (List Int))×Unit)->Option ((((List Int)×Int×Int×Int×Int×Unit)⊕((Sl (List Int))×Unit)))}(h:∀s,lq (K s) (K' s))(s:(List Int)×Int×Int×Int×Int×Unit):lq (Pl K s) (Pl K' s):=by
 unfold Pl
 repeat' first|exact h _|exact bA _|apply Xn|apply Xo|(intro _)|apply Xp
def Xt:List Int:=[108,101,116,32,114,101,99,32,105,110,32,102,117,110,32,105,102,32,116,104,101,110,32,101,108,115,101,32,109,97,116,99,104,32,119,105,116,104,32,101,110,100,32,114,97,105,115,101,32,116,114,121,32,111,112,101,110,32,116,121,112,101,32,111,102,32,105,110,102,105,120,108,32,105,110,102,105,120,114,32,105,110,102,105,120,32,45,62,32,61,32,124,32,40,32,41,32,95,32,59,59]
def rf:List (List Int):=[[108,101,116],[114,101,99],[105,110],[102,117,110],[105,102],[116,104,101,110],[101,108,115,101],[109,97,116,99,104],[119,105,116,104],[101,110,100],[114,97,105,115,101],[116,114,121],[111,112,101,110],[116,121,112,101],[111,102],[105,110,102,105,120,108],[105,110,102,105,120,114],[105,110,102,105,120],[45,62],[61],[124],[40],[41],[95],[59,59]]
noncomputable def n1:=fun s=>lh z7 200 s
noncomputable def n2:=fun s=>lh (Ph n1) 200 s
noncomputable def n3:=fun s=>lh (Pj n2) 200 s
noncomputable def n4:=fun s=>lh (Pl n3) 200 s
theorem z4x(s):lq (n1 s) (aG z7 s):=fun _r e=>I7 200 e
theorem z4y(s):lq (n2 s) (aG Ej s):=Xq (fun s=>z21 z4x s) 200 s
theorem z4z(s):lq (n3 s) (aG Ek s):=Xq (fun s=>z22 z4y s) 200 s
theorem z50(s):lq (n4 s) (aG El s):=Xq (fun s=>z23 z4z s) 200 s
theorem qyn:n4 (Xt,0,1,0,0,())=some (⟨false,rf⟩,()):=by kernel_rfl
theorem qqu:sq ()=some (⟨false,rf⟩,()):=by
 rw[SV];have h:so (Xt,())=some (⟨false,rf⟩,()):=by rw[SU];exact z50 _ _ qyn
 show ag (so (Xt,())) _=_;rw[h];rfl
theorem qmw:vS ()=some (⟨false,rf⟩,()):=UK
theorem aH{k:Nat}(h:k<=1000000000):ar .i64 (k:Int) 1=((k+1:Nat):Int):=by rw[AO om om];omega
theorem rh{α:Type}{l:List α}{k:Nat}(h:k<l.length):l.drop k=l[k]::l.drop (k+1):=List.drop_eq_getElem_cons h
theorem ri{α:Type}{l:List α}{i:Nat}(h:i<l.length):bZ l (i:Int)=some i:=by unfold bZ;rw[if_pos om];rfl
theorem Pm{α:Type}{l:List α}{i:Nat}{x:α}(h:l[i]?=some x):nth l i=some x:=h
theorem Mi{α:Type}{l:List α}{k:Nat}(h:k<=l.length):bG l 0 (k:Int)=some (l.take k):=by unfold bG;rw[if_pos om];rfl
theorem qqv(s:List Int)(n:Bool)(l:List (List Int))(hl:l.length<=1000000):∀(m k:Nat),k+m=l.length->∃r,aG nP (⟨n,l⟩,s,(l.length:Int),(k:Int),())=some (r,())/\(0<=r↔s∈l.drop k):=by
 intro m
 induction m with
 |zero=>intro k hk;refine⟨-1,dS ?_,by rw[zN om];simp⟩;unfold nP;simp only;rw[dZ,if_neg om]
 |succ m ih=>
  intro k hk;have hc:k<l.length:=om
  rw[rh hc];have step:nP (⟨n,l⟩,s,(l.length:Int),(k:Int),())=if s=l[k] then some (.inr ((k:Int),())) else some (.inl (⟨n,l⟩,s,(l.length:Int),((k+1:Nat):Int),())):=by unfold nP;simp only;rw[dZ,if_pos om,aT (ze hc),aj,KN,aH om]
  by_cases h:s=l[k]
  ·rw[if_pos h] at step;exact⟨k,dS step,by simp[h,-List.getElem_cons_drop]⟩
  ·rw[if_neg h] at step;obtain⟨r,h1,h2⟩:=ih (k+1) om;exact⟨r,by rw[gH step,h1],by rw[h2];simp[h,-List.getElem_cons_drop]⟩
theorem Xu(s:List Int):oD (s,())=some (decide (s∈rf),()):=by obtain⟨r,h1,h2⟩:=qqv s false rf dc 25 0 dc;rw[SX,qqu,aj,SS,SR];have h1:aG nP (⟨false,rf⟩,s,aa rf,0,())=some (r,()):=h1;simp only[h1,aj];have:a8 0 r=decide (s∈rf):=decide_eq_decide.2 (by rw[h2];rfl);rw[this]
theorem qv3(s:List Int)(n:Bool)(l:List (List Int))(hl:l.length<=1000000):∀(m k:Nat),k+m=l.length->aG qF (s,⟨n,l⟩,(k:Int),())=some (decide (s∈l.drop k),()):=by
 intro m
 induction m with
 |zero=>intro k hk;refine dS ?_;unfold qF;simp only;rw[dZ,if_neg (by unfold aa;omega),zN om];simp
 |succ m ih=>
  intro k hk;have hc:k<l.length:=om
  rw[rh hc];have step:qF (s,⟨n,l⟩,(k:Int),())=if l[k]=s then some (.inr (true,())) else some (.inl (s,⟨n,l⟩,((k+1:Nat):Int),())):=by unfold qF;simp only;rw[dZ,if_pos (by unfold aa;omega),aT (ze hc),aj,KN,aH om]
  by_cases h:l[k]=s
  ·rw[if_pos h] at step;rw[dS step];simp[h,-List.getElem_cons_drop]
  ·rw[if_neg h] at step;rw[gH step,ih (k+1) om];have:s≠l[k]:=fun e=>h e.symm;simp[this,-List.getElem_cons_drop]
theorem qkt(s:List Int):yV (s,())=some (decide (s∈rf),()):=by rw[UL,qmw,aj];exact qv3 s false rf dc 25 0 dc
def aO:List Int:=[33,36,37,38,42,43,45,47,58,60,61,62,63,64,94,124]
theorem qv4(c:Int):∀l:List Int,(0<=nL c l↔c∈l)
 |[]=>by simp[nL]
 |b::r=>by
  have ih:=qv4 c r;unfold nL;by_cases h:b=c
  ·rw[if_pos h];simp[h]
  ·rw[if_neg h];have:c≠b:=fun e=>h e.symm;simp only[zt,this,false_or];rw[<-ih];split<;>omega
theorem qv5(c:Int):pM (c,())=some (decide (c∈aO),()):=by rw[S1,S0,aj];have:a8 0 (nL c aO)=decide (c∈aO):=decide_eq_decide.2 (qv4 c aO);show some (a8 0 (nL c aO),())=_;rw[this]
theorem z24(c:Int):∀(m k:Nat),k+m=16->∃r,aG jP (c,aO,(k:Int),())=some (r,())/\r<=5/\(r=5↔c∈aO.drop k):=by
 have he:aO.length=16:=rfl;intro m
 induction m with
 |zero=>
  intro k hk;rw[zN om];have last:∀(b1 b2 b3 b4:Bool),∃r:Int,(aq b1 (some (Sum.inr (1,()))) (aq b2 (some (Sum.inr (2,()))) (aq b3 (some (Sum.inr (3,()))) (aq b4 (some (Sum.inr (4,()))) (some (Sum.inr (0,())))))):Option ((Int×(List Int)×Int×Unit)⊕(Int×Unit)))=some (.inr (r,()))/\r<=5/\r≠5:=by intro b1 b2 b3 b4;cases b1<;>cases b2<;>cases b3<;>cases b4<;>exact⟨_,rfl,by decide,by decide⟩
  have two:∀(a b:Int) (b2:Bool),(aq (a8 a c) (some b2) (some false):Option Bool)=some (a8 a c&&b2):=fun a b b2=>by cases a8 a c<;>rfl
  have or2:∀(b1 b2:Bool),(aq b1 (some true) (some b2):Option Bool)=some (b1||b2):=fun b1 b2=>by cases b1<;>rfl
  obtain⟨r,h1,h2,h3⟩:=last (a8 97 c&&a8 c 122) (a8 65 c&&a8 c 90) (a8 48 c&&a8 c 57) (af c 95||af c 39);refine⟨r,dS ?_,h2,by simp[h3]⟩;unfold jP;simp only;rw[dZ,if_neg (by unfold aa;omega),two 97 0,two 65 0,two 48 0,or2];simp only[aj];exact h1
 |succ m ih=>
  intro k hk;have hc:k<aO.length:=om
  rw[rh hc];have step:jP (c,aO,(k:Int),())=if aO[k]=c then some (.inr (5,())) else some (.inl (c,aO,((k+1:Nat):Int),())):=by unfold jP;simp only;rw[dZ,if_pos (by unfold aa;omega),aT (ze hc),aj,O1,aH om]
  by_cases h:aO[k]=c
  ·rw[if_pos h] at step;exact⟨5,dS step,by omega,by simp[h,-List.getElem_cons_drop]⟩
  ·rw[if_neg h] at step;obtain⟨r,h1,h2,h3⟩:=ih (k+1) om;have hn:c≠aO[k]:=fun e=>h e.symm;exact⟨r,by rw[gH step,h1],h2,by rw[h3];simp[hn,-List.getElem_cons_drop]⟩
theorem bR(c:Int):∃r,oM (c,())=some (r,())/\r<=5/\(r=5↔c∈aO):=by obtain⟨r,h1,h2,h3⟩:=z24 c 16 0 rfl;exact⟨r,by rw[LA];exact h1,h2,h3⟩
def Dt(s:List Int):Bool:=!s.isEmpty&&s.all fun b=>decide (b∈aO)
def Ag(s:List Int):Bool:=Dt s&&!decide (s∈rf)
theorem qv6{b:Int}(h:b∈aO):0<=b/\b<=126:=by unfold aO at h;simp only[zt,List.not_mem_nil,or_false] at h;omega
theorem qv7{s:List Int}(hs:∀b,b∈s->0<=b/\b<=255){k:Nat}(hk:k<s.length):(s[k]<=127->fm s (k:Int)=s[k]/\fQ s (k:Int)=((k+1:Nat):Int))/\(127<s[k]->126<fm s (k:Int)):=by
 have hb:=hs _ (List.getElem_mem hk);have he:(wh s).size=s.length:=by show(s.map _).toArray.size=_;simp
 have hc:k<(wh s).size:=om
 have hg:(((wh s)[k]'hc).toNat:Int)=s[k]:=by
  have:(wh s)[k]'hc=UInt8.ofNat s[k].toNat:=by have h1:(wh s)[k]'hc=((s.map fun b=>UInt8.ofNat b.toNat).toArray)[k]'(by simpa using hk):=rfl;rw[h1,List.getElem_toArray,List.getElem_map]
  rw[this,UInt8.toNat_ofNat',Nat.mod_eq_of_lt om];omega
 unfold fm fQ;rw[Int.toNat_natCast,if_pos om];constructor
 ·intro h;have:=decode_ascii (wh s) k hc om;rw[this];exact⟨hg,by simp⟩
 ·intro h;have:=(decode_high (wh s) k hc om).1;omega
theorem qyo{s:List Int}(hs:∀b,b∈s->0<=b/\b<=255):∀(m k:Nat),k+m=s.length->aG qf (s,s,(k:Int),())=some ((s.drop k).all (fun b=>decide (b∈aO))&&!s.isEmpty,()):=by
 intro m
 induction m with
 |zero=>intro k hk;refine dS ?_;unfold qf;simp only;rw[dZ,if_neg (by unfold aa;omega),zN om];cases s<;>rfl
 |succ m ih=>
  intro k hk;have hc:k<s.length:=om
  rw[rh hc];obtain⟨h1,h2⟩:=qv7 hs hc;have c0:aB (k:Int) (aa s)=true:=zu (by unfold aa;omega);have hb:=hs _ (List.getElem_mem hc);have step:qf (s,s,(k:Int),())=if s[k]∈aO then some (.inl (s,s,((k+1:Nat):Int),())) else some (.inr (false,())):=by
   unfold qf;simp only[c0,aI,aj];by_cases h:s[k]<=126
   ·obtain⟨e1,e2⟩:=h1 om;rw[e1,e2];have c1:aB 126 s[k]=false:=zn om;have c2:iZ .u8 s[k]=s[k]:=by rw[z0h];omega
    simp only[c1,aF,c2,qv5,aj,av];by_cases hm:s[k]∈aO
    ·rw[if_pos hm];simp[hm,aF]
    ·rw[if_neg hm];simp[hm,aI]
   ·have hm:s[k]∉aO:=fun e=>by have:=qv6 e;omega
    rw[if_neg hm];have c1:aB 126 (fm s (k:Int))=true:=by
     refine zu ?_;by_cases he:s[k]<=127
     ·rw[(h1 he).1];omega
     ·exact h2 om
    simp only[c1,aI,aj]
  by_cases hm:s[k]∈aO
  ·rw[if_pos hm] at step;rw[gH step,ih (k+1) om];simp[hm,-List.getElem_cons_drop]
  ·rw[if_neg hm] at step;rw[dS step];simp[hm,-List.getElem_cons_drop]
theorem qyp{s:List Int}(hs:∀b,b∈s->0<=b/\b<=255):vB (s,())=some (Dt s,()):=by rw[S2];have:=qyo hs s.length 0 om;rw[List.drop_zero,Bool.and_comm] at this;exact this
def rj:List Int->Nat
 |[]=>0
 |b::r=>if b∈aO then rj r+1 else 0
theorem qp5:∀s:List Int,(rj s=s.length↔s.all (fun b=>decide (b∈aO))=true)
 |[]=>by simp[rj]
 |b::r=>by
  have ih:=qp5 r;unfold rj;by_cases h:b∈aO
  ·rw[if_pos h,zw,List.all_cons];simp only[h,decide_true,Bool.true_and,<-ih];omega
  ·rw[if_neg h];simp[h]
theorem qqw(s:List Int)(hl:s.length<=1000000):∀(m k:Nat),k+m=s.length->aG jQ (s,(k:Int),5,5,())=some (((k+rj (s.drop k):Nat):Int),()):=by
 intro m
 induction m with
 |zero=>intro k hk;refine dS ?_;unfold jQ;simp only;rw[dZ,if_neg (by unfold aa;omega),zN om];rfl
 |succ m ih=>
  intro k hk;have hc:k<s.length:=om
  rw[rh hc];obtain⟨r,h1,h2,h3⟩:=bR s[k];have c0:aB (k:Int) (aa s)=true:=zu (by unfold aa;omega);have step:jQ (s,(k:Int),5,5,())=if s[k]∈aO then some (.inl (s,((k+1:Nat):Int),5,5,())) else some (.inr ((k:Int),())):=by
   unfold jQ;simp only[c0,aI,aT (ze hc),aj,h1,aH (by omega:k<=1000000000)];by_cases hm:s[k]∈aO
   ·rw[if_pos hm];have:r=5:=h3.2 hm;subst this;rfl
   ·rw[if_neg hm];have:a8 5 r=false:=zn (fun e=>hm (h3.1 om));simp only[this,aF,aj]
  unfold rj;by_cases hm:s[k]∈aO
  ·rw[if_pos hm] at step ⊢;rw[gH step,ih (k+1) om];congr 2;omega
  ·rw[if_neg hm] at step ⊢;rw[dS step];rfl
theorem qv8(s:List Int)(hs:∀b,b∈s->0<=b/\b<=255):ly ((5,s,0,0),())=some (Ag s,()):=by rw[F1,qyp hs,Xu];have c1:aB 0 0=false:=rfl;have c2:af 5 3=false:=rfl;have c3:af 0 0=true:=rfl;have c4:af 5 1=false:=rfl;have c5:af 5 2=false:=rfl;have c6:af 5 4=false:=rfl;have c7:af 5 5=true:=rfl;simp only[c1,c2,c3,c4,c5,c6,c7,aF,aI,aj,av,Bool.not_true,Bool.not_false];unfold Ag;cases Dt s<;>rfl
theorem qv9(s:List Int)(hl:s.length<=1000000):l4 ((5,s,0,0),())=some (Ag s,()):=by
 rw[F2];have c1:aB 0 0=false:=rfl;have c2:af 5 3=false:=rfl;have c3:af 0 0=true:=rfl;have c4:af 5 1=false:=rfl;have c5:af 5 2=false:=rfl;have c6:af 5 4=false:=rfl;have c7:af 5 5=true:=rfl;have hw:vR (s,0,5,5,())=some ((rj s:Int),()):=by rw[LB];have:=qqw s hl s.length 0 om;rw[List.drop_zero,zL] at this;exact this
 have he:af (rj s:Int) (aa s)=s.all (fun b=>decide (b∈aO)):=by rw[Bool.eq_iff_iff,cu,<-qp5];unfold aa;omega
 have hn:aS s []=s.isEmpty:=by cases s<;>rfl
 simp only[c1,c2,c3,c4,c5,c6,c7,aF,aI,aj,av,hw,he,hn,qkt];unfold Ag Dt;cases s.isEmpty<;>cases s.all (fun b=>decide (b∈aO))<;>cases decide (s∈rf)<;>rfl
def n9(c:Int):Bool:=a8 97 c&&a8 c 122
def kW(c:Int):Bool:=a8 65 c&&a8 c 90
def AX(c:Int):Bool:=a8 48 c&&a8 c 57
def j0(c:Int):Bool:=n9 c||kW c||AX c||af c 95||af c 39
theorem Eu(a b:Bool):(aq a (some b) (some false):Option Bool)=some (a&&b):=by cases a<;>rfl
theorem Mj(a b:Bool):(aq a (some true) (some b):Option Bool)=some (a||b):=by cases a<;>rfl
theorem qgg(c:Int):pJ (c,())=some (n9 c,()):=by rw[SL,Eu];rfl
theorem qgh(c:Int):pK (c,())=some (kW c,()):=by rw[SM,Eu];rfl
theorem qqx(c:Int):si (c,())=some (AX c,()):=by rw[SO,Eu];rfl
theorem qqy(c:Int):pL (c,())=some (j0 c,()):=by rw[SP,qgg,qgh,qqx];simp only[aj,Mj];rfl
theorem qva{c:Int}(h:j0 c=true):0<=c/\c<=126:=by unfold j0 n9 kW AX a8 at h;simp only[Bool.or_eq_true,zd,decide_eq_true_eq,cu] at h;omega
theorem qvb{s:List Int}(hs:∀b,b∈s->0<=b/\b<=255):∀(m k:Nat),k+m=s.length->aG qe (s,s,(k:Int),())=some ((s.drop k).all j0&&!s.isEmpty,()):=by
 intro m
 induction m with
 |zero=>intro k hk;refine dS ?_;unfold qe;simp only;rw[dZ,if_neg (by unfold aa;omega),zN om];cases s<;>rfl
 |succ m ih=>
  intro k hk;have hc:k<s.length:=om
  rw[rh hc];obtain⟨h1,h2⟩:=qv7 hs hc;have c0:aB (k:Int) (aa s)=true:=zu (by unfold aa;omega);have hb:=hs _ (List.getElem_mem hc);have step:qe (s,s,(k:Int),())=if j0 s[k]=true then some (.inl (s,s,((k+1:Nat):Int),())) else some (.inr (false,())):=by
   unfold qe;simp only[c0,aI,aj];by_cases h:s[k]<=126
   ·obtain⟨e1,e2⟩:=h1 om;rw[e1,e2];have c1:aB 126 s[k]=false:=zn om;have c2:iZ .u8 s[k]=s[k]:=by rw[z0h];omega
    simp only[c1,aF,c2,qqy,aj,av];cases j0 s[k]<;>rfl
   ·have hm:¬j0 s[k]=true:=fun e=>by have:=qva e;omega
    rw[if_neg hm];have c1:aB 126 (fm s (k:Int))=true:=by
     refine zu ?_;by_cases he:s[k]<=127
     ·rw[(h1 he).1];omega
     ·exact h2 om
    simp only[c1,aI,aj]
  rw[List.all_cons];cases hm:j0 s[k] with
  |true=>rw[hm,if_pos rfl] at step;rw[gH step,ih (k+1) om,Bool.true_and]
  |false=>rw[hm,if_neg dc] at step;rw[dS step,Bool.false_and,Bool.false_and]
theorem qkv{s:List Int}(hs:∀b,b∈s->0<=b/\b<=255):sj (s,())=some (s.all j0&&!s.isEmpty,()):=by rw[SQ];exact qvb hs s.length 0 om
def wD(c:Int):Int:=bif decide (c∈aO) then 5 else bif n9 c then 1 else bif kW c then 2 else bif AX c then 3 else bif af c 95||af c 39 then 4 else 0
theorem qvc(c:Int):∀(m k:Nat),k+m=16->aG jP (c,aO,(k:Int),())=some (bif decide (c∈aO.drop k) then 5 else bif n9 c then 1 else bif kW c then 2 else bif AX c then 3 else bif af c 95||af c 39 then 4 else 0,()):=by
 have he:aO.length=16:=rfl;intro m
 induction m with
 |zero=>intro k hk;rw[zN om];refine dS ?_;unfold jP;simp only;rw[dZ,if_neg (by unfold aa;omega)];simp only[Eu,Mj,aj];show _=some (Sum.inr (bif decide (c∈[]) then _ else _,()));have:decide (c∈([]:List Int))=false:=rfl;rw[this];show(aq (n9 c) _ (aq (kW c) _ (aq (AX c) _ _)):Option _)=_;cases n9 c<;>cases kW c<;>cases AX c<;>cases (af c 95||af c 39)<;>rfl
 |succ m ih=>
  intro k hk;have hc:k<aO.length:=om
  rw[rh hc];have step:jP (c,aO,(k:Int),())=if aO[k]=c then some (.inr (5,())) else some (.inl (c,aO,((k+1:Nat):Int),())):=by unfold jP;simp only;rw[dZ,if_pos (by unfold aa;omega),aT (ze hc),aj,O1,aH om]
  by_cases h:aO[k]=c
  ·rw[if_pos h] at step;rw[dS step];simp[h,-List.getElem_cons_drop]
  ·rw[if_neg h] at step;have hn:c≠aO[k]:=fun e=>h e.symm;rw[gH step,ih (k+1) om];have:decide (c∈aO[k]::aO.drop (k+1))=decide (c∈aO.drop (k+1)):=by simp[hn,-List.getElem_cons_drop]
   rw[this]
theorem qkw(c:Int):oM (c,())=some (wD c,()):=by rw[LA];exact qvc c 16 0 rfl
theorem Xv{c:Int}(h:c∈aO):j0 c=false:=by unfold aO at h;simp only[zt,List.not_mem_nil,or_false] at h;rcases h with h|h|h|h|h|h|h|h|h|h|h|h|h|h|h|h<;>subst h<;>decide
theorem qqz(c:Int):(a8 1 (wD c)&&a8 (wD c) 4)=j0 c:=by
 unfold wD;by_cases h:c∈aO
 ·rw[Xv h];simp[h,a8]
 ·simp only[h,decide_false,cond_false];unfold j0;cases n9 c<;>cases kW c<;>cases AX c<;>cases h1:af c 95<;>cases af c 39<;>rfl
theorem qmx{c:Int}(h:kW c=true):n9 c=false:=by
 unfold kW n9 a8 at*
 simp only[zd,decide_eq_true_eq,Bool.and_eq_false_iff,decide_eq_false_iff_not] at*
 omega
theorem qr0{c:Int}(h:j0 c=true):af (wD c) 1=n9 c:=by
 unfold wD;have hs:c∉aO:=fun e=>by rw[Xv e] at h;cases h
 simp only[hs,decide_false,cond_false];cases n9 c<;>cases kW c<;>cases AX c<;>cases (af c 95||af c 39)<;>rfl
theorem qr1{c:Int}(h:j0 c=true):af (wD c) 2=kW c:=by
 unfold wD;have hs:c∉aO:=fun e=>by rw[Xv e] at h;cases h
 simp only[hs,decide_false,cond_false];cases hg:kW c with
 |true=>rw[qmx hg];rfl
 |false=>cases n9 c<;>cases AX c<;>cases (af c 95||af c 39)<;>rfl
def nx:List Int->Nat
 |[]=>0
 |b::r=>bif j0 b then nx r+1 else 0
theorem z25:∀s,nx s<=s.length
 |[]=>Nat.le_refl _
 |b::r=>by unfold nx;have:=z25 r;cases j0 b<;>simp<;>omega
theorem qp6:∀s:List Int,(nx s=s.length↔s.all j0=true)
 |[]=>by simp[nx]
 |b::r=>by
  have ih:=qp6 r;unfold nx;cases h:j0 b with
  |true=>simp only[cond_true,zw,List.all_cons,h,Bool.true_and,<-ih];omega
  |false=>simp[h]
theorem qmy(s:List Int)(hl:s.length<=1000000):∀(m k:Nat),k+m=s.length->aG jQ (s,(k:Int),1,4,())=some (((k+nx (s.drop k):Nat):Int),()):=by
 intro m
 induction m with
 |zero=>intro k hk;refine dS ?_;unfold jQ;simp only;rw[dZ,if_neg (by unfold aa;omega),zN om];rfl
 |succ m ih=>
  intro k hk;have hc:k<s.length:=om
  rw[rh hc];have c0:aB (k:Int) (aa s)=true:=zu (by unfold aa;omega);have step:jQ (s,(k:Int),1,4,())=bif j0 s[k] then some (.inl (s,((k+1:Nat):Int),1,4,())) else some (.inr ((k:Int),())):=by unfold jQ;simp only[c0,aI,aT (ze hc),aj,qkw,aH (by omega:k<=1000000000)];rw[<-qqz];cases a8 1 (wD s[k])<;>cases a8 (wD s[k]) 4<;>rfl
  unfold nx;cases hm:j0 s[k] with
  |true=>rw[hm] at step;rw[gH step,ih (k+1) om];simp only[cond_true];congr 2;omega
  |false=>rw[hm] at step;rw[dS step];rfl
def z26(p:Int->Bool):List Int->Bool
 |[]=>false
 |b::_=>p b
def pf(p:Int->Bool)(s:List Int):Bool:=s.all j0&&!s.isEmpty&&z26 p s&&!decide (s∈rf)
theorem qvd(s:List Int)(a2 a3:Int)(hs:∀b,b∈s->0<=b/\b<=255):sr ((1,s,a2,a3),())=some (pf n9 s,()):=by
 rw[SY,qkv hs,Xu];simp only[aj];cases s with
 |nil=>rfl
 |cons b r=>have h0:aJ (b::r) 0=some b:=rfl;rw[h0];simp only[aj,qgg];unfold pf;show _=some (_&&n9 b&&_,());cases List.all (b::r) j0<;>cases n9 b<;>cases decide (b::r∈rf)<;>rfl
theorem qve(s:List Int)(a2 a3:Int)(hs:∀b,b∈s->0<=b/\b<=255):su ((2,s,a2,a3),())=some (pf kW s,()):=by
 rw[SZ,qkv hs,Xu];simp only[aj];cases s with
 |nil=>rfl
 |cons b r=>have h0:aJ (b::r) 0=some b:=rfl;rw[h0];simp only[aj,qgh];unfold pf;show _=some (_&&kW b&&_,());cases List.all (b::r) j0<;>cases kW b<;>cases decide (b::r∈rf)<;>rfl
theorem qr2(s:List Int)(hs:∀b,b∈s->0<=b/\b<=255):ly ((1,s,0,0),())=some (pf n9 s,()):=by rw[F1,qvd s 0 0 hs];have c1:aB 0 0=false:=rfl;have c2:af 1 3=false:=rfl;have c3:af 0 0=true:=rfl;have c4:af 1 1=true:=rfl;simp only[c1,c2,c3,c4,aF,aI,aj,av,Bool.not_true,Bool.not_false]
theorem Xw(s:List Int)(hs:∀b,b∈s->0<=b/\b<=255):ly ((2,s,0,0),())=some (pf kW s,()):=by rw[F1,qve s 0 0 hs];have c1:aB 0 0=false:=rfl;have c2:af 2 3=false:=rfl;have c3:af 0 0=true:=rfl;have c4:af 2 1=false:=rfl;have c5:af 2 2=true:=rfl;simp only[c1,c2,c3,c4,c5,aF,aI,aj,av,Bool.not_true,Bool.not_false]
theorem z0i(k:Int)(p:Int->Bool)(hp:∀c,j0 c=true->af (wD c) k=p c)(s:List Int)(hl:s.length<=1000000)(X:Option (Bool×Unit)):aq (av (aS s ([]:List Int))) (ag (aJ s 0) (fun x1=>ag (oM (x1,())) (fun x2=>aq (af x2.1 k) (ag (vR (s,0,1,4,())) (fun x3=>aq (af x3.1 (aa s)) (ag (yV (s,())) (fun x4=>some (av x4.1,()))) (some (false,())))) (some (false,()))))) X=bif s.isEmpty then X else some (pf p s,()):=by
 have hw:vR (s,0,1,4,())=some ((nx s:Int),()):=by rw[LB];have:=qmy s hl s.length 0 om;rw[List.drop_zero,zL] at this;exact this
 have he:af (nx s:Int) (aa s)=s.all j0:=by rw[Bool.eq_iff_iff,cu,<-qp6];unfold aa;omega
 cases s with
 |nil=>rfl
 |cons b r=>
  have hn:aS (b::r) []=false:=rfl;have h0:aJ (b::r) 0=some b:=rfl;simp only[hn,av,Bool.not_false,aI,h0,aj,qkw,hw,he,qkt];have hi:List.isEmpty (b::r)=false:=rfl;rw[hi,cond_false];unfold pf;rw[hi];show _=some (_&&p b&&_,());cases hb:j0 b with
  |true=>rw[hp b hb];cases List.all (b::r) j0<;>cases p b<;>cases decide (b::r∈rf)<;>rfl
  |false=>
   have ha:List.all (b::r) j0=false:=by rw[List.all_cons,hb];rfl
   rw[ha];cases af (wD b) k<;>rfl
theorem qr3(s:List Int)(hl:s.length<=1000000):l4 ((1,s,0,0),())=some (pf n9 s,()):=by rw[F2];have c1:aB 0 0=false:=rfl;have c3:af 0 0=true:=rfl;have c4:af 1 1=true:=rfl;simp only[c1,c3,c4,aF,aI,aj];rw[z0i 1 n9 (fun c h=>qr0 h) s hl];cases s<;>rfl
theorem Xx(s:List Int)(hl:s.length<=1000000):l4 ((2,s,0,0),())=some (pf kW s,()):=by rw[F2];have c1:aB 0 0=false:=rfl;have c3:af 0 0=true:=rfl;have c4:af 2 1=false:=rfl;have c5:af 2 2=true:=rfl;simp only[c1,c3,c4,c5,aF,aI,aj];rw[z0i 2 kW (fun c h=>qr1 h) s hl];cases s<;>rfl
def bF(s:List Int):Bool:=pf n9 s||Ag s
def gI(s:List Int):Bool:=pf kW s
theorem qvf{s:List Int}(hs:∀b,b∈s->0<=b/\b<=255):sv (s,())=some (bF s,()):=by rw[S6,qr2 s hs,qv8 s hs];simp only[aj,Mj];rfl
theorem qyq{s:List Int}(hs:∀b,b∈s->0<=b/\b<=255):nn (s,())=some (gI s,()):=by rw[S3,Xw s hs];rfl
theorem qr4{s:List Int}(hl:s.length<=1000000):y7 (s,())=some (bF s,()):=by rw[U1,qr3 s hl,qv9 s hl];simp only[aj,Mj];rfl
theorem qvg{s:List Int}(hl:s.length<=1000000):y8 (s,())=some (gI s,()):=by rw[U2,Xx s hl];rfl
abbrev ND:=Int×List Int×Int×Int
inductive F where
 |nil:F
 |cons:Int->List Int->Int->F->F->F
def F.aA:F->Nat
 |.nil=>0
 |.cons _ _ _ _ r=>r.aA+1
def F.flat:F->List ND
 |.nil=>[]
 |.cons k t n ks r=>(k,t,n,(ks.aA:Int))::(ks.flat++r.flat)
def F.size:F->Nat
 |.nil=>0
 |.cons _ _ _ ks r=>ks.size+r.size+1
def F.dep:F->Nat
 |.nil=>0
 |.cons _ _ _ ks r=>max (ks.dep+1) r.dep
def F.app:F->F->F
 |.nil,g=>g
 |.cons k t n ks r,g=>.cons k t n ks (r.app g)
abbrev tr(k:Int)(t:List Int)(n:Int)(ks:F):F:=.cons k t n ks .nil
theorem F.len:∀f:F,f.flat.length=f.size
 |.nil=>rfl
 |.cons k t n ks r=>by show(_::(ks.flat++r.flat)).length=ks.size+r.size+1;rw[zw,zm,ks.len,r.len]
theorem F.cv:∀f:F,f.aA<=f.size
 |.nil=>Nat.le_refl _
 |.cons k t n ks r=>by have:=r.cv;show r.aA+1<=ks.size+r.size+1;omega
theorem F.iV:∀f:F,f.dep<=f.size
 |.nil=>Nat.le_refl _
 |.cons k t n ks r=>by have h1:=r.iV;have h2:=ks.iV;show max (ks.dep+1) r.dep<=ks.size+r.size+1;omega
theorem Du(k:Int)(t:List Int)(n:Int)(ks:F):(tr k t n ks).flat=(k,t,n,(ks.aA:Int))::ks.flat:=by show _::(ks.flat++[])=_;rw[zE]
theorem Dv(k:Int)(t:List Int)(n:Int)(ks:F):(tr k t n ks).size=ks.size+1:=rfl
def skip(N:Nat):List ND->Nat->Option (List ND)
 |l,0=>some l
 |[],_+1=>none
 |d::r,c+1=>if 0<=d.2.2.2/\d.2.2.2<=(N:Int) then skip N r (c+d.2.2.2.toNat) else none
theorem Jk(N:Nat)(l:List ND):skip N l 0=some l:=by cases l<;>rfl
theorem Ew(N:Nat)(d:ND)(r:List ND)(c:Nat):skip N (d::r) (c+1)=if 0<=d.2.2.2/\d.2.2.2<=(N:Int) then skip N r (c+d.2.2.2.toNat) else none:=by conv=>lhs;unfold skip
theorem Po(N:Nat):∀(f:F) (c:Nat) (post:List ND),f.size<=N->skip N (f.flat++post) (f.aA+c)=skip N post c
 |.nil,c,post,_=>by show skip N post (0+c)=_;rw[zL]
 |.cons k t n ks r,c,post,h=>by
  have h:ks.size+r.size+1<=N:=h;have hc:=ks.cv;show skip N ((k,t,n,(ks.aA:Int))::((ks.flat++r.flat)++post)) (r.aA+1+c)=_;have e:r.aA+1+c=(r.aA+c)+1:=om
  rw[e,Ew];rw[if_pos ⟨by show(0:Int)<=(ks.aA:Int);omega,by show(ks.aA:Int)<=N;omega⟩];show skip N _ (r.aA+c+(ks.aA:Int).toNat)=_;rw[Int.toNat_natCast,zD,Nat.add_comm (r.aA+c),Po N ks _ _ om,Po N r _ _ om]
theorem F.split:∀(g:F) (a c:Nat),g.aA=a+c->∃x y:F,x.aA=a/\y.aA=c/\g.flat=x.flat++y.flat
 |g,0,c,h=>⟨.nil,g,rfl,by omega,rfl⟩
 |.nil,a+1,c,h=>by have h:0=a+1+c:=h;omega
 |.cons k t n ks r,a+1,c,h=>by
  have h:r.aA+1=a+1+c:=h;obtain⟨x,y,h1,h2,h3⟩:=r.split a c om;refine⟨.cons k t n ks x,y,by show x.aA+1=_;omega,h2,?_⟩;show _::(ks.flat++r.flat)=_::(ks.flat++x.flat)++y.flat
  rw[h3,List.cons_append,zD]
theorem Xy(N:Nat):∀(l:List ND) (c:Nat) (rest:List ND),skip N l c=some rest->∃f:F,f.aA=c/\l=f.flat++rest
 |l,0,rest,h=>by rw[Jk] at h;injection h with h;exact⟨.nil,rfl,h⟩
 |[],c+1,rest,h=>by cases h
 |d::r,c+1,rest,h=>by
  obtain⟨k,t,n,z⟩:=d;rw[Ew] at h;have h:(if 0<=z/\z<=(N:Int) then skip N r (c+z.toNat) else none)=some rest:=h;by_cases hz:0<=z/\z<=(N:Int)
  ·rw[if_pos hz] at h;obtain⟨g,h1,h2⟩:=Xy N r _ rest h;obtain⟨x,y,h3,h4,h5⟩:=g.split z.toNat c om;refine⟨.cons k t n x y,by show y.aA+1=_;omega,?_⟩;show _=(k,t,n,(x.aA:Int))::(x.flat++y.flat)++rest;rw[h2,h5,h3,Int.toNat_of_nonneg hz.1];rfl
  ·rw[if_neg hz] at h;cases h
theorem qp7(N:Nat):∀(l:List ND) (a b:Nat),skip N l (a+b)=(skip N l a).bind fun r=>skip N r b
 |l,0,b=>by rw[Jk,zL];rfl
 |[],a+1,b=>by
  have e:a+1+b=(a+b)+1:=om
  rw[e];rfl
 |d::r,a+1,b=>by
  have e:a+1+b=(a+b)+1:=om
  rw[e,Ew,Ew];by_cases h:0<=d.2.2.2/\d.2.2.2<=(N:Int)
  ·rw[if_pos h,if_pos h];have e2:a+b+d.2.2.2.toNat=(a+d.2.2.2.toNat)+b:=om
   rw[e2];exact qp7 N r _ b
  ·rw[if_neg h,if_neg h];rfl
theorem qyr(N:Nat){l:List ND}{c:Nat}{rest:List ND}(h:skip N l c=some rest):c<=l.length-rest.length/\rest.length<=l.length/\rest=l.drop (l.length-rest.length):=by obtain⟨f,h1,h2⟩:=Xy N l c rest h;have:=f.cv;have h3:=f.len;subst h2;rw[zm];refine⟨by omega,by omega,?_⟩;rw[show f.flat.length+rest.length-rest.length=f.flat.length by omega,List.drop_left'];rfl
def dT(l:List ND)(k c:Nat):Int:=(skip l.length (l.drop k) c).elim (-1) fun r=>(l.length:Int)-(r.length:Int)
theorem qys(b:Bool)(l:List ND)(hl:l.length<=10000):∀(m k c:Nat),k+m=l.length->c<=k*10000->aG mc (⟨b,l⟩,(k:Int),((c+1:Nat):Int),())=some (dT l k (c+1),()):=by
 intro m
 induction m with
 |zero=>intro k c hk hc;refine dS ?_;unfold mc;have c0:a8 (aa l) (k:Int)=true:=zu (by unfold aa;omega);simp only[c0,aI,aj];unfold dT;rw[zN om];rfl
 |succ m ih=>
  intro k c hk hc;have hg:k<l.length:=om
  obtain⟨d,hd⟩:∃d,l[k]?=some d:=⟨_,ze hg⟩;have hf:l.drop k=d::l.drop (k+1):=by rw[rh hg];rw[ze hg] at hd;injection hd with hd;rw[hd]
  obtain⟨x,t,n,z⟩:=d;have c0:a8 (aa l) (k:Int)=false:=zn (by unfold aa;omega);have hj:=aT hd;by_cases hz:0<=z/\z<=(l.length:Int)
  ·have c1:aB z 0=false:=zn om;have c2:aB (aa l) z=false:=zn (by unfold aa;omega);have e1:dK .i64 z 1=z-1:=vm om om;have e2:ar .i64 ((c+1:Nat):Int) (z-1)=((c+z.toNat:Nat):Int):=by rw[AO om om];omega
   have e3:=aH (show k<=1000000000 by omega);have step:mc (⟨b,l⟩,(k:Int),((c+1:Nat):Int),())=if 0<c+z.toNat then some (.inl (⟨b,l⟩,((k+1:Nat):Int),((c+z.toNat:Nat):Int),())) else some (.inr (((k+1:Nat):Int),())):=by
    unfold mc;simp only[c0,aF,aj,hj,c1,c2,e1,e2,e3];rw[dZ];by_cases h:0<c+z.toNat
    ·rw[if_pos h,if_pos om]
    ·rw[if_neg h,if_neg om]
   have he:dT l k (c+1)=(skip l.length (l.drop (k+1)) (c+z.toNat)).elim (-1) fun r=>(l.length:Int)-(r.length:Int):=by unfold dT;rw[hf,Ew];rw[if_pos (show 0<=(x,t,n,z).2.2.2/\(x,t,n,z).2.2.2<=(l.length:Int) from hz)]
   rw[he];by_cases h:0<c+z.toNat
   ·rw[if_pos h] at step;rw[gH step];obtain⟨c',hm⟩:∃c',c+z.toNat=c'+1:=⟨c+z.toNat-1,by omega⟩;rw[hm];exact ih (k+1) c' om om
   ·rw[if_neg h] at step;rw[dS step];have h0:c+z.toNat=0:=om
    rw[h0,Jk];show some (((k+1:Nat):Int),())=some ((l.length:Int)-((l.drop (k+1)).length:Int),());rw[zT];congr 2;omega
  ·have he:dT l k (c+1)=-1:=by unfold dT;rw[hf,Ew];rw[if_neg (show ¬(0<=(x,t,n,z).2.2.2/\(x,t,n,z).2.2.2<=(l.length:Int)) from hz)];rfl
   rw[he];refine dS ?_;unfold mc;simp only[c0,aF,aj,hj];cases h1:aB z 0 with
   |true=>simp only[aI,aj]
   |false=>
    have c2:aB (aa l) z=true:=by have:=of_decide_eq_false h1;exact zu (by unfold aa;omega)
    simp only[aF,aj,c2,aI]
theorem Jl(b:Bool)(l:List ND)(hl:l.length<=10000)(k:Nat):fB (⟨b,l⟩,(k:Int),())=some (dT l k 1,()):=by
 rw[SH];have c0:aB (k:Int) 0=false:=zn om;rw[c0,aF];by_cases h:k<=l.length
 ·exact qys b l hl (l.length-k) k 0 om om
 ·have he:dT l k 1=-1:=by unfold dT;rw[zN om];rfl
  rw[he];refine dS ?_;unfold mc;have c0:a8 (aa l) (k:Int)=true:=zu (by unfold aa;omega);simp only[c0,aI,aj]
theorem qyt{l:List ND}{k c:Nat}(h:skip l.length (l.drop k) c=none):dT l k c=-1:=by unfold dT;rw[h];rfl
theorem z3u(b:Bool)(l:List ND)(hl:l.length<=10000):∀(N m k:Nat),l.length-k<N->l.length-k=m->bB p7 N (⟨b,l⟩,(k:Int),())=some (dT l k 1,()):=by
 intro N
 induction N with
 |zero=>intro m k h;exact absurd h (Nat.not_lt_zero _)
 |succ N ih=>
  intro m k hN hm;show p7 (bB p7 N) _=_;rw[UI];have c0:aB (k:Int) 0=false:=zn om;simp only[c0,aF];by_cases hg:k<l.length
  ·obtain⟨d,hd⟩:∃d,l[k]?=some d:=⟨_,ze hg⟩;have hc:l.drop k=d::l.drop (k+1):=by rw[rh hg];rw[ze hg] at hd;injection hd with hd;rw[hd]
   obtain⟨x,t,n,z⟩:=d;have c0:a8 (aa l) (k:Int)=false:=zn (by unfold aa;omega);have hf:=aT hd;by_cases hz:0<=z/\z<=(l.length:Int)
   ·have c1:aB z 0=false:=zn om;have c2:aB (aa l) z=false:=zn (by unfold aa;omega);have e3:=aH (show k<=1000000000 by omega);simp only[c0,aF,aj,hf,c1,c2,e3];have he:dT l k 1=(skip l.length (l.drop (k+1)) z.toNat).elim (-1) fun r=>(l.length:Int)-(r.length:Int):=by unfold dT;rw[hc,Ew];rw[if_pos (show 0<=(x,t,n,z).2.2.2/\(x,t,n,z).2.2.2<=(l.length:Int) from hz),zL]
    rw[he];have loop:∀(j i q:Nat),(i:Int)+j=z->k<q->q<=l.length->
      aG (qE (bB p7 N)) (⟨b,l⟩,(k:Int),(q:Int),(i:Int),())=some ((skip l.length (l.drop q) j).elim (-1) fun r=>(l.length:Int)-(r.length:Int),()):=by
     intro j
     induction j with
     |zero=>intro i q h1 h2 h3;refine dS ?_;unfold qE;simp only[hf,aj];rw[dZ,if_neg om,Jk];show _=some (Sum.inr ((l.length:Int)-((l.drop q).length:Int),()));rw[zT];congr 3;omega
     |succ j ihj=>
      intro i q h1 h2 h3;have hi:=ih (l.length-q) q om rfl;have e:j+1=1+j:=om
      rw[e,qp7];have step:qE (bB p7 N) (⟨b,l⟩,(k:Int),(q:Int),(i:Int),())=if dT l q 1<0 then some (.inr (-1,())) else some (.inl (⟨b,l⟩,(k:Int),dT l q 1,((i+1:Nat):Int),())):=by unfold qE;simp only[hf,aj];rw[dZ,if_pos om];simp only[hi,aj,aH (show i<=1000000000 by omega)];rw[dZ]
      cases hs:skip l.length (l.drop q) 1 with
      |none=>rw[qyt hs,if_pos dc] at step;rw[dS step];rfl
      |some r=>
       obtain⟨s1,s2,s3⟩:=qyr _ hs;rw[zT] at s1 s2 s3;have hj:dT l q 1=((l.length-r.length:Nat):Int):=by unfold dT;rw[hs];show(l.length:Int)-(r.length:Int)=_;omega
       rw[hj,if_neg om] at step;rw[gH step,ihj (i+1) (l.length-r.length) om om om];show _=some ((skip l.length r j).elim _ _,());have:r=l.drop (l.length-r.length):=by rw[List.drop_drop] at s3;rw[show l.length-r.length=q+(l.length-q-r.length) by omega];exact s3
       rw[<-this]
    exact loop z.toNat 0 (k+1) om om om
   ·have he:dT l k 1=-1:=by unfold dT;rw[hc,Ew];rw[if_neg (show ¬(0<=(x,t,n,z).2.2.2/\(x,t,n,z).2.2.2<=(l.length:Int)) from hz)];rfl
    rw[he];simp only[c0,aF,aj,hf];cases h1:aB z 0 with
    |true=>simp only[aI,aj]
    |false=>
     have c2:aB (aa l) z=true:=by have:=of_decide_eq_false h1;exact zu (by unfold aa;omega)
     simp only[aF,aj,c2,aI]
  ·have he:dT l k 1=-1:=by unfold dT;rw[zN om];rfl
   have c0:a8 (aa l) (k:Int)=true:=zu (by unfold aa;omega);rw[he];simp only[c0,aI,aj]
theorem Pp(b:Bool)(l:List ND)(hl:l.length<=10000)(k:Nat):oL (⟨b,l⟩,(k:Int),())=some (dT l k 1,()):=xc (l.length-k+1) fun N hN=>z3u b l hl N (l.length-k) k om rfl
def uC(l:List ND):Bool:=decide (0<l.length)&&decide (dT l 0 1=(l.length:Int))
theorem Pq(b:Bool)(l:List ND)(hl:l.length<=10000):kF (⟨b,l⟩,())=some (uC l,()):=by rw[SI];have:=Jl b l hl 0;have h0:((0:Nat):Int)=0:=rfl;rw[h0] at this;simp only[this,aj,Eu];unfold uC aB af aa;have e1:decide ((0:Int)<(l.length:Int))=decide (0<l.length):=decide_eq_decide.2 om;rw[e1];rfl
theorem Xz(b:Bool)(l:List ND)(hl:l.length<=10000):td (⟨b,l⟩,())=some (uC l,()):=by rw[UJ];have:=Pp b l hl 0;have h0:((0:Nat):Int)=0:=rfl;rw[h0] at this;simp only[this,aj,Eu];unfold uC aB af aa;have e1:decide ((0:Int)<(l.length:Int))=decide (0<l.length):=decide_eq_decide.2 om;rw[e1];rfl
theorem Jm(l:List ND):uC l=true↔∃k t n ks,l=(tr k t n ks).flat:=by
 unfold uC dT;rw[zd,decide_eq_true_eq,decide_eq_true_eq,List.drop_zero];constructor
 ·rintro⟨h1,h2⟩;cases hs:skip l.length l 1 with
  |none=>rw[hs] at h2;have h2:(-1:Int)=l.length:=h2;omega
  |some r=>
   rw[hs] at h2;have h2:(l.length:Int)-(r.length:Int)=l.length:=h2;have hr:r=[]:=List.length_eq_zero_iff.1 om;subst hr;obtain⟨f,h3,h4⟩:=Xy _ _ _ _ hs;cases f with
   |nil=>cases h3
   |cons k t n ks r=>
    cases r with
    |nil=>exact⟨k,t,n,ks,by rw[h4,zE]⟩
    |cons _ _ _ _ _=>have h3:_+1+1=1:=h3;omega
 ·rintro⟨k,t,n,ks,rfl⟩;have hc:=(tr k t n ks).len;refine⟨by rw[hc,Dv];omega,?_⟩;have:=Po (tr k t n ks).flat.length (tr k t n ks) 0 [] om;rw[zE,Jk] at this;have e:(tr k t n ks).aA+0=1:=rfl;rw[e] at this;rw[this];show((tr k t n ks).flat.length:Int)-((0:Nat):Int)=_;omega
def cM(l:List ND)(k:Nat)(f:F):Prop:=∃post,l.drop k=f.flat++post
theorem cM.node{l:List ND}{k:Nat}{x:Int}{t:List Int}{n:Int}{ks r:F}(h:cM l k (.cons x t n ks r)):l[k]?=some (x,t,n,(ks.aA:Int))/\cM l (k+1) ks/\cM l (k+1+ks.size) r/\k+1+ks.size+r.size<=l.length:=by
 obtain⟨post,h⟩:=h;have h:l.drop k=(x,t,n,(ks.aA:Int))::((ks.flat++r.flat)++post):=h;have h1:l[k]?=some (x,t,n,(ks.aA:Int)):=by rw[<-List.head?_drop,h];rfl
 have h2:l.drop (k+1)=(ks.flat++r.flat)++post:=by rw[<-List.drop_drop,h];rfl
 refine⟨h1,⟨r.flat++post,by rw[h2,zD]⟩,⟨post,?_⟩,?_⟩
 ·rw[<-List.drop_drop,h2,<-ks.len,zD,List.drop_left'];rfl
 ·have:=congrArg List.length h2;rw[zT,zm,zm,ks.len,r.len] at this;have hc:k<l.length:=(zB.1 h1).1;omega
theorem cM.first{l:List ND}{k:Nat}{x:Int}{t:List Int}{n:Int}{ks r:F}(h:cM l k (.cons x t n ks r)):cM l k (tr x t n ks):=by obtain⟨post,h⟩:=h;refine⟨r.flat++post,?_⟩;rw[h,Du];show _::(ks.flat++r.flat)++post=_;rw[List.cons_append,List.cons_append,zD]
theorem cM.ends{l:List ND}{k:Nat}{x:Int}{t:List Int}{n:Int}{ks r:F}(h:cM l k (.cons x t n ks r)):dT l k 1=((k+1+ks.size:Nat):Int):=by obtain⟨g1,g2,g3,g4⟩:=h.node;obtain⟨post,h⟩:=h.first;unfold dT;have e:(tr x t n ks).aA+0=1:=rfl;have hs:=Po l.length (tr x t n ks) 0 post (by rw[Dv];omega);rw[e,Jk] at hs;rw[h,hs];show(l.length:Int)-(post.length:Int)=_;have:=congrArg List.length h;rw[zT,zm,(tr x t n ks).len,Dv] at this;omega
def F.pos:Nat->F->List Int
 |_,.nil=>[]
 |k,.cons _ _ _ ks r=>(k:Int)::r.pos (k+1+ks.size)
theorem F.dX:∀(f:F) (k:Nat),(f.pos k).length=f.aA
 |.nil,_=>rfl
 |.cons _ _ _ ks r,k=>by show(_::r.pos _).length=r.aA+1;rw[zw,r.dX]
def F.oQ(P:Nat->Int->List Int->Int->F->Prop):Nat->F->Prop
 |_,.nil=>True
 |k,.cons x t n ks r=>P k x t n ks/\r.oQ P (k+1+ks.size)
theorem F.oS{l:List ND}{P:Nat->Int->List Int->Int->F->Prop}(h:∀k x t n ks,cM l k (tr x t n ks)->ks.oQ P (k+1)->P k x t n ks):∀(f:F) (k:Nat),cM l k f->f.oQ P k
 |.nil,_,_=>trivial
 |.cons x t n ks r,k,hs=>⟨h k x t n ks hs.first (F.oS h ks (k+1) hs.node.2.1),F.oS h r _ hs.node.2.2.1⟩
theorem F.ic{l:List ND}{P:Nat->Int->List Int->Int->F->Prop}(h:∀k x t n ks,cM l k (tr x t n ks)->ks.oQ P (k+1)->P k x t n ks){k:Nat}{x:Int}{t:List Int}{n:Int}{ks:F}(hs:cM l k (tr x t n ks)):P k x t n ks:=(F.oS h (tr x t n ks) k hs).1
theorem eM{a b:Nat}(h:a+b<=2000000):fit (aK (a:Int) (b:Int))=some ():=Sj (by show(a:Int)+(b:Int)<=_;omega)
theorem qgi(x:Bool):aP false x=false:=id (Eq.refl false)
theorem uD{α:Type}(b:Bool)(x:α):aP b (cR [x])=false:=by cases b<;>rfl
theorem HP(b:Bool)(l:List ND)(hl:l.length<=10000){k:Nat}{x:Int}{t:List Int}{n:Int}{ks r:F}(h:cM l k (.cons x t n ks r)):eI (⟨b,l⟩,(k:Int),())=some (⟨false,ks.pos (k+1)⟩,()):=by
 obtain⟨g1,g2,g3,g4⟩:=h.node;have he:=aT g1;rw[UX,Pp b l hl,h.ends];simp only[aj];rw[dZ,if_neg om,aH om];have loop:∀(g:F) (q i:Nat) (out:List Int),cM l q g->out.length=i->i+g.aA=ks.aA->q<=l.length->
   aG qT (⟨b,l⟩,(k:Int),(q:Int),(i:Int),⟨false,out⟩,())=some (⟨false,out++g.pos q⟩,()):=by
  intro g
  induction g with
  |nil=>intro q i out hs ho hi hq;have hi:i+0=ks.aA:=hi;refine dS ?_;unfold qT;simp only[he,aj];rw[dZ,if_neg om];show _=some (Sum.inr ((⟨false,out++[]⟩:Sl Int),()));rw[zE]
  |cons x' t' n' bP r' _ ih=>
   intro q i out hs ho hi hq;have hi:i+(r'.aA+1)=ks.aA:=hi;have hc:=ks.cv;have s4:=hs.node;have step:qT (⟨b,l⟩,(k:Int),(q:Int),(i:Int),⟨false,out⟩,())=some (.inl (⟨b,l⟩,(k:Int),((q+1+bP.size:Nat):Int),((i+1:Nat):Int),⟨false,out++[(q:Int)]⟩,())):=by unfold qT;simp only[he,aj];rw[dZ,if_pos om];have hf:fit (aK (aa out) (aa [(q:Int)]))=some ():=eM (by show out.length+1<=_;omega);rw[hf,aj,Pp b l hl,aj,hs.ends,aH om,uD];rfl
   rw[gH step,ih _ _ _ s4.2.2.1 (by rw[zm,ho];rfl) om om,zD];rfl
 have:=loop ks (k+1) 0 [] g2 rfl om om;exact this
theorem qkx(b:Bool)(l:List ND)(hl:l.length<=10000){k:Nat}{x:Int}{t:List Int}{n:Int}{ks r:F}(h:cM l k (.cons x t n ks r)):∃nb,kG (⟨b,l⟩,(k:Int),())=some (⟨nb,ks.pos (k+1)⟩,()):=by
 obtain⟨g1,g2,g3,g4⟩:=h.node;have he:=aT g1;rw[Ub,Jl b l hl,h.ends];simp only[aj,he];rw[dZ,if_neg om,aH om];have hc:=ks.cv;have loop:∀(g:F) (q i:Nat) (nb:Bool) (out:List Int),cM l q g->out.length=i->i+g.aA=ks.aA->q<=l.length->
   ∃uE,aG qv (⟨b,l⟩,(q:Int),(ks.aA:Int),⟨nb,out⟩,())=some (⟨uE,out++g.pos q⟩,()):=by
  intro g
  induction g with
  |nil=>intro q i nb out hs ho hi hq;have hi:i+0=ks.aA:=hi;refine⟨nb,dS ?_⟩;unfold qv;simp only;rw[dZ,if_neg (by unfold aa;omega)];show _=some (Sum.inr ((⟨nb,out++[]⟩:Sl Int),()));rw[zE]
  |cons x' t' n' bP r' _ ih=>
   intro q i nb out hs ho hi hq;have hi:i+(r'.aA+1)=ks.aA:=hi;have s4:=hs.node;have step:qv (⟨b,l⟩,(q:Int),(ks.aA:Int),⟨nb,out⟩,())=some (.inl (⟨b,l⟩,((q+1+bP.size:Nat):Int),(ks.aA:Int),⟨false,out++[(q:Int)]⟩,())):=by unfold qv;simp only;rw[dZ,if_pos (by unfold aa;omega)];have hf:fit (aK (aa out) (aa [(q:Int)]))=some ():=eM (by show out.length+1<=_;omega);rw[hf,aj,Jl b l hl,aj,hs.ends,uD];rfl
   obtain⟨uE,h'⟩:=ih (q+1+bP.size) (i+1) false (out++[(q:Int)]) s4.2.2.1 (by rw[zm,ho];rfl) om om;refine⟨uE,?_⟩;rw[gH step,h',zD];rfl
 exact loop ks (k+1) 0 true [] g2 rfl om om
theorem qyu(a b:Nat):iO (a:Int) (b:Int)=((max a b:Nat):Int):=by unfold iO;split<;>omega
theorem qr5(b:Bool)(l:List ND)(hl:l.length<=10000){k:Nat}{x:Int}{t:List Int}{n:Int}{ks:F}(h:cM l k (tr x t n ks)):FJ (⟨b,l⟩,(k:Int),())=some (((ks.dep+1:Nat):Int),()):=by
 refine xc (ks.size+1) ?_;refine F.ic (l:=l) (P:=fun k x t n ks=>∀N,ks.size+1<=N->bB nu N (⟨b,l⟩,(k:Int),())=some (((ks.dep+1:Nat):Int),())) ?_ h;intro k x t n ks hs he N hN;obtain⟨N,rfl⟩:∃m,N=m+1:=⟨N-1,by omega⟩;show nu (bB nu N) _=_;rw[UY,HP b l hl hs,aj];have ho:=hs.node.2.2.2;have hq:=ks.iV;have loop:∀(g:F) (q:Nat) (pre:List Int) (cB:Nat),g.oQ (fun k x t n ks=>∀N,ks.size+1<=N->bB nu N (⟨b,l⟩,(k:Int),())=some (((ks.dep+1:Nat):Int),())) q->
   g.size<=N->g.size<=10000->pre++g.pos q=ks.pos (k+1)->cB<=100000->
   aG (nV (bB nu N)) (⟨b,l⟩,(cB:Int),⟨false,ks.pos (k+1)⟩,(pre.length:Int),())=some (((max cB g.dep+1:Nat):Int),()):=by
  intro g
  induction g with
  |nil=>
   intro q pre cB hE hz _ hp hm;have hp:pre++[]=ks.pos (k+1):=hp;rw[zE] at hp;refine dS ?_;unfold nV
   simp only;rw[dZ,if_neg (by rw[hp];unfold aa;omega),aH om];show _=some (Sum.inr (((max cB 0+1:Nat):Int),()));rw[Nat.max_zero]
  |cons x' t' n' bP r' _ ih=>
   intro q pre cB hE hz hj hp hm;have hj:bP.size+r'.size+1<=10000:=hj;have hz:bP.size+r'.size+1<=N:=hz;have hp:pre++(q:Int)::r'.pos (q+1+bP.size)=ks.pos (k+1):=hp;have hf:(ks.pos (k+1)).length=ks.aA:=ks.dX _;have hn:=congrArg List.length hp;rw[zm,zw,hf] at hn;have hc:=ks.cv;have hg:(ks.pos (k+1))[pre.length]?=some (q:Int):=by rw[<-hp];simp
   have ht:=bP.iV;have step:nV (bB nu N) (⟨b,l⟩,(cB:Int),⟨false,ks.pos (k+1)⟩,(pre.length:Int),())=some (.inl (⟨b,l⟩,((max cB (bP.dep+1):Nat):Int),⟨false,ks.pos (k+1)⟩,((pre.length+1:Nat):Int),())):=by
    unfold nV
    simp only;rw[dZ,if_pos (by unfold aa;rw[hf];omega),aT hg,aj,hE.1 N om,aj,dZ];have ea:=aH (show pre.length<=1000000000 by omega);by_cases hk:(cB:Int)<((bP.dep+1:Nat):Int)
    ·rw[if_pos hk,aj,ea];have:max cB (bP.dep+1)=bP.dep+1:=om
     rw[this]
    ·rw[if_neg hk,aj,ea];have:max cB (bP.dep+1)=cB:=om
     rw[this]
   have hi:=ih (q+1+bP.size) (pre++[(q:Int)]) (max cB (bP.dep+1)) hE.2 om om (by rw[zD];exact hp) om;rw[zm] at hi;have hi:aG (nV (bB nu N)) (⟨b,l⟩,((max cB (bP.dep+1):Nat):Int),⟨false,ks.pos (k+1)⟩,((pre.length+1:Nat):Int),())=_:=hi;rw[gH step,hi];show some (((max (max cB (bP.dep+1)) r'.dep+1:Nat):Int),())=some (((max cB (max (bP.dep+1) r'.dep)+1:Nat):Int),());rw[Nat.max_assoc]
 have:=loop ks (k+1) [] 0 he om om rfl om;rw[Nat.zero_max] at this;exact this
def AY:Nat->List Nat->List Nat
 |c+1,s=>(c+1)::s
 |0,[]=>[]
 |0,c::s=>AY (c-1) s
def toI(s:List Nat):List Int:=s.reverse.map fun(c:Nat)=>(c:Int)
theorem mR(s:List Nat):(toI s).length=s.length:=by unfold toI;rw[zC,List.length_reverse]
theorem Dw(c:Nat)(s:List Nat):toI (c::s)=toI s++[(c:Int)]:=by unfold toI;rw[List.reverse_cons,zA];rfl
theorem XA(c:Nat)(s:List Nat):AY (c+1) s=(c+1)::s:=by cases s<;>rfl
theorem Mk(b:Bool)(l:List ND)(cB ln k:Int)(hk:0<=k/\k<=1000000)(nb:Bool):∀(s:List Nat) (c:Nat),(∀x,x∈s->1<=x/\x<=1000000)->c<=1000000->s.length<=1000000->aG kR (cB,⟨b,l⟩,ln,k,⟨nb,toI (c::s)⟩,())=some (.inl (cB,⟨b,l⟩,ln,k+1,⟨nb,toI (AY c s)⟩,())):=by
 have hj:ar .i64 k 1=k+1:=AO om om;have done:∀(s:List Nat) (c:Nat),c+1<=1000000->s.length<=1000000->aG kR (cB,⟨b,l⟩,ln,k,⟨nb,toI ((c+1)::s)⟩,())=some (.inl (cB,⟨b,l⟩,ln,k+1,⟨nb,toI ((c+1)::s)⟩,())):=by
  intro s c hc hs;refine dS ?_;have e1:dK .i64 (aa (toI ((c+1)::s))) 1=(s.length:Int):=by unfold aa;rw[mR,zw,vm om om];omega
  have hg:nth (toI ((c+1)::s)) s.length=some ((c+1:Nat):Int):=by rw[Dw];unfold nth;rw[zR (by rw[mR];exact Nat.le_refl _),mR,Nat.sub_self];rfl
  have c0:aB 0 (aa (toI ((c+1)::s)))=true:=zu (by unfold aa;rw[mR,zw];omega);have c1:af ((c+1:Nat):Int) 0=false:=by cases h:af ((c+1:Nat):Int) 0 with
   |false=>rfl
   |true=>have:=cu.1 h;omega
  unfold kR;simp only[c0,aI,e1,ri (show s.length<(toI ((c+1)::s)).length by rw[mR,zw];omega),aj,hg,c1,aF,hj]
 have eE:aG kR (cB,⟨b,l⟩,ln,k,⟨nb,toI []⟩,())=some (.inl (cB,⟨b,l⟩,ln,k+1,⟨nb,toI []⟩,())):=by refine dS ?_;have c0:aB 0 (aa (toI []))=false:=rfl;unfold kR;simp only[c0,aF,aj,hj]
 have step:∀(s:List Nat) (X:List Int),s.length<=1000000->(s=[]/\X=[]\/∃c r,s=c::r/\1<=c/\c<=1000000/\X=toI ((c-1)::r))->
   kR (cB,⟨b,l⟩,ln,k,⟨nb,toI (0::s)⟩,())=some (.inl (cB,⟨b,l⟩,ln,k,⟨nb,X⟩,())):=by
  intro s X hs hX;have e1:dK .i64 (aa (toI (0::s))) 1=(s.length:Int):=by unfold aa;rw[mR,zw,vm om om];omega
  have hg:nth (toI (0::s)) s.length=some 0:=by rw[Dw];unfold nth;rw[zR (by rw[mR];exact Nat.le_refl _),mR,Nat.sub_self];rfl
  have c0:aB 0 (aa (toI (0::s)))=true:=zu (by unfold aa;rw[mR,zw];omega);have c1:af 0 0=true:=rfl;have he:eC (aa (toI (0::s))) (s.length:Int)=some s.length:=by unfold eC aa;rw[if_pos (by rw[mR,zw];omega),Int.toNat_natCast]
  have hl:aN (toI (0::s)) s.length=toI s:=by unfold aN;rw[Dw,List.take_left' (mR s)]
  unfold kR;simp only[c0,aI,e1,ri (show s.length<(toI (0::s)).length by rw[mR,zw];omega),aj,hg,c1,he,hl];rcases hX with ⟨rfl,rfl⟩|⟨c,r,rfl,h1,h2,rfl⟩
  ·have c2:aB 0 (aa (toI []))=false:=rfl;simp only[c2,aF,aj];rfl
  ·have hs:r.length+1<=1000000:=hs;have c2:aB 0 (aa (toI (c::r)))=true:=zu (by unfold aa;rw[mR,zw];omega);have e2:dK .i64 (aa (toI (c::r))) 1=(r.length:Int):=by unfold aa;rw[mR,zw,vm om om];omega
   have hm:nth (toI (0::c::r)) r.length=some (c:Int):=by rw[Dw,Dw];unfold nth;rw[zD,zR (by rw[mR];exact Nat.le_refl _),mR,Nat.sub_self];rfl
   have hf:aN (eP (toI (0::c::r)) r.length ((c:Int)-1)) (c::r).length=toI ((c-1)::r):=by unfold aN eP;rw[Dw,Dw,Dw,zD,List.set_append_right _ _ (by rw[mR];exact Nat.le_refl _),mR,Nat.sub_self];show List.take (r.length+1) (toI r++([(c:Int)-1]++[((0:Nat):Int)]))=_;rw[<-zD,List.take_left' (by rw[zm,mR];rfl)];congr 2;omega
   have e3:dK .i64 (c:Int) 1=(c:Int)-1:=vm om om;simp only[c2,aI,e2,ri (show r.length<(toI (c::r)).length by rw[mR,zw];omega),aj,hm,e3,hf]
 intro s
 induction s with
 |nil=>
  intro c _ hc _;cases c with
  |zero=>rw[gH (step [] [] dc (.inl ⟨rfl,rfl⟩))];exact eE
  |succ c=>rw[XA];exact done [] c hc dc
 |cons d s ih=>
  intro c hx hc hs;have hd:=hx d (zf ..);have hs:s.length+1<=1000000:=hs;cases c with
  |zero=>rw[gH (step (d::s) (toI ((d-1)::s)) hs (.inr ⟨d,s,rfl,hd.1,hd.2,rfl⟩))];exact ih (d-1) (fun x h=>hx x (zh _ h)) om om
  |succ c=>rw[XA];exact done (d::s) c hc hs
theorem qyv(b:Bool)(l:List ND)(hl:l.length<=10000):∀(f:F) (q:Nat) (s:List Nat) (cB:Nat) (nb:Bool),cM l q f->q<=l.length->(∀x,x∈s->1<=x/\x<=1000000)->s.length<=q->cB<=100000->∃uE,aG iM ((cB:Int),⟨b,l⟩,(l.length:Int),(q:Int),⟨nb,toI (AY f.aA s)⟩,())=aG iM (((max cB (if f.aA=0 then 0 else s.length+1+f.dep):Nat):Int),⟨b,l⟩,(l.length:Int),((q+f.size:Nat):Int),⟨uE,toI (AY 0 s)⟩,()):=by
 intro f
 induction f with
 |nil=>intro q s cB nb _ _ _ _ _;refine⟨nb,?_⟩;show _=aG iM (((max cB 0:Nat):Int),_,_,((q+0:Nat):Int),_,());rw[Nat.max_zero,Nat.add_zero];rfl
 |cons x t n ks r mZ nc=>
  intro q s cB nb hs hq hx hj hm;obtain⟨g1,g2,g3,g4⟩:=hs.node;have hc:=ks.cv;have hk:=r.cv;have hn:=ks.iV;have ho:=r.iV;have e0:AY (F.cons x t n ks r).aA s=(r.aA+1)::s:=XA r.aA s;rw[e0];have hf:fit (aK (aa (toI ((r.aA+1)::s))) (aa [(ks.aA:Int)]))=some ():=eM (by rw[mR,zw,List.length_singleton];omega);have hg:∀y,y∈(r.aA+1)::s->1<=y/\y<=1000000:=by
   intro y hy;rcases zt.1 hy with rfl|hy
   ·omega
   ·exact hx y hy
  have hp:=Mk b l ((max cB (s.length+2):Nat):Int) (l.length:Int) (q:Int) om false ((r.aA+1)::s) ks.aA hg om (by rw[zw];omega);have step:iM ((cB:Int),⟨b,l⟩,(l.length:Int),(q:Int),⟨nb,toI ((r.aA+1)::s)⟩,())=
    some (.inl (((max cB (s.length+2):Nat):Int),⟨b,l⟩,(l.length:Int),((q+1:Nat):Int),⟨false,toI (AY ks.aA ((r.aA+1)::s))⟩,())):=by
   unfold iM;simp only;rw[dZ,if_pos om,aT g1,aj];simp only[hf,aj,uD];have e1:iO (cB:Int) (ar .i64 (aa (toI ((r.aA+1)::s))) 1)=((max cB (s.length+2):Nat):Int):=by unfold aa;rw[mR,zw,aH om,qyu]
   have e2:app (toI ((r.aA+1)::s)) [(ks.aA:Int)]=toI (ks.aA::(r.aA+1)::s):=(Dw _ _).symm;rw[e1,e2,hp];rfl
  rw[gH step];obtain⟨nb1,h1⟩:=mZ (q+1) ((r.aA+1)::s) (max cB (s.length+2)) false g2 om hg (by rw[zw];omega) om;rw[h1];have e3:AY 0 ((r.aA+1)::s)=AY r.aA s:=rfl;rw[e3];have he:max (max cB (s.length+2)) (if ks.aA=0 then 0 else((r.aA+1)::s).length+1+ks.dep)=max cB (s.length+1+(ks.dep+1)):=by
   rw[zw];by_cases h0:ks.aA=0
   ·rw[if_pos h0];have:ks.dep=0:=by
     cases ks with
     |nil=>rfl
     |cons _ _ _ _ r=>exact absurd h0 (Nat.succ_ne_zero _)
    omega
   ·rw[if_neg h0];omega
  rw[he];obtain⟨nb2,h2⟩:=nc (q+1+ks.size) s (max cB (s.length+1+(ks.dep+1))) nb1 g3 om hx om om;refine⟨nb2,?_⟩;rw[h2];have e4:q+1+ks.size+r.size=q+(F.cons x t n ks r).size:=by show _=q+(ks.size+r.size+1);omega
  rw[e4];have e5:max (max cB (s.length+1+(ks.dep+1))) (if r.aA=0 then 0 else s.length+1+r.dep)=max cB (if(F.cons x t n ks r).aA=0 then 0 else s.length+1+(F.cons x t n ks r).dep):=by
   have h9:(F.cons x t n ks r).aA≠0:=Nat.succ_ne_zero _;rw[if_neg h9];show _=max cB (s.length+1+max (ks.dep+1) r.dep);by_cases h0:r.aA=0
   ·rw[if_pos h0];have:r.dep=0:=by
     cases r with
     |nil=>rfl
     |cons _ _ _ _ r=>exact absurd h0 (Nat.succ_ne_zero _)
    omega
   ·rw[if_neg h0];omega
  rw[e5]
theorem Ey(x:Int)(t:List Int)(n:Int)(ks:F):cM (tr x t n ks).flat 0 (tr x t n ks):=⟨[],by rw[zE];rfl⟩
theorem qvh(b:Bool)(x:Int)(t:List Int)(n:Int)(ks:F)(hl:ks.size+1<=10000):sf (⟨b,(tr x t n ks).flat⟩,())=some (((ks.dep+1:Nat):Int),()):=by
 have he:(tr x t n ks).flat.length=ks.size+1:=(tr x t n ks).len;have hs:=Ey x t n ks;obtain⟨g1,g2,g3,g4⟩:=hs.node;have hg:=ks.iV;have hc:=ks.cv;rw[SJ,Pq b _ om,(Jm _).2 ⟨x,t,n,ks,rfl⟩];have hn:av true=false:=rfl;simp only[aj,hn,aF];generalize hL:(tr x t n ks).flat=L at*
 have hf:fit (aK (aa ([]:List Int)) (aa [(ks.aA:Int)]))=some ():=eM (by show 0+1<=_;omega);have hp:=Mk b L ((1:Nat):Int) (L.length:Int) ((0:Nat):Int) om false [] ks.aA (fun _ h=>by cases h) om dc;have step:iM (((0:Nat):Int),⟨b,L⟩,(L.length:Int),((0:Nat):Int),⟨true,[]⟩,())=
   some (.inl (((1:Nat):Int),⟨b,L⟩,(L.length:Int),((0+1:Nat):Int),⟨false,toI (AY ks.aA [])⟩,())):=by
  unfold iM;simp only;rw[dZ,if_pos om,aT g1,aj];simp only[hf,aj,uD];have e1:iO ((0:Nat):Int) (ar .i64 (aa ([]:List Int)) 1)=((1:Nat):Int):=rfl;have e2:app ([]:List Int) [(ks.aA:Int)]=toI (ks.aA::[]):=rfl;rw[e1,e2,hp];rfl
 obtain⟨nb1,h1⟩:=qyv b L om ks 1 [] 1 false g2 om (fun _ h=>by cases h) dc dc;have Ml:aG iM (0,⟨b,L⟩,aa L,0,⟨true,[]⟩,())=_:=gH step;rw[Ml,h1];have e6:max 1 (if ks.aA=0 then 0 else([]:List Nat).length+1+ks.dep)=ks.dep+1:=by
  by_cases h0:ks.aA=0
  ·rw[if_pos h0];have:ks.dep=0:=by
    cases ks with
    |nil=>rfl
    |cons _ _ _ _ r=>exact absurd h0 (Nat.succ_ne_zero _)
   omega
  ·rw[if_neg h0,List.length_nil];omega
 rw[e6];refine dS ?_;unfold iM;simp only;rw[dZ,if_neg om]
def uF(n:Int):Bool:=decide (-4611686018427387904<=n/\n<=4611686018427387903)
def Jn(n:Int):Prop:=-9223372036854775808<=n/\n<=9223372036854775807
theorem qky(n:Int):IntKind.i64.wrap n=if n % 18446744073709551616<9223372036854775808 then n % 18446744073709551616 else n % 18446744073709551616-18446744073709551616:=by
 unfold IntKind.wrap;show(if(true&&decide (n % 18446744073709551616>=9223372036854775808))=true then _ else _)=_;rw[Bool.true_and];by_cases h:n % 18446744073709551616<9223372036854775808
 ·rw[if_pos h,if_neg (by simp;omega)];rfl
 ·rw[if_neg h,if_pos (by simp;omega)];rfl
theorem Pr(n:Int):IntKind.u64.wrap n=n % 18446744073709551616:=by unfold IntKind.wrap;show(if(false&&_)=true then _ else _)=_;rw[Bool.false_and,if_neg dc];rfl
theorem qr6(n:Int)(h:Jn n):∃v,oC (n,())=some (v,())/\af v n=uF n:=by
 obtain⟨h1,h2⟩:=h;rw[SK];have e1:oh .u64 (iZ .u64 n) 1=some (IntKind.u64.wrap (iZ .u64 n*2)):=by unfold oh;rw[if_neg dc];rfl
 simp only[e1,aj];have e2:=qyh (a:=iZ .i64 (IntKind.u64.wrap (iZ .u64 n*2))) 1 dc;have e3:((1:Nat):Int)=1:=rfl;rw[e3] at e2;rw[e2];refine⟨_,rfl,?_⟩;unfold iZ;rw[qky,Pr,Pr];rw[Bool.eq_iff_iff,cu];unfold uF;rw[decide_eq_true_eq];show(ite _ _ _) / 2=n↔_;split<;>omega
theorem qr7(n:Int)(h:Jn n):∃v,vT (n,())=some (v,())/\af v n=uF n:=by
 obtain⟨h1,h2⟩:=h;have e0:iZ .u64 n=n % 18446744073709551616:=Pr n;rw[UN,UM,e0,KM om dc];simp only[aj];rw[z3n];by_cases hb:4611686018427387904<=n % 18446744073709551616 % 9223372036854775808
 ·rw[if_pos hb];refine⟨_,rfl,?_⟩;have e1:dK .u64 (n % 18446744073709551616 % 9223372036854775808) 4611686018427387904=n % 18446744073709551616 % 9223372036854775808-4611686018427387904:=by unfold dK;rw[Pr];omega
  rw[e1,quk om om,vm om om,Bool.eq_iff_iff,cu];unfold uF;rw[decide_eq_true_eq];omega
 ·rw[if_neg hb];refine⟨_,rfl,?_⟩;rw[quk om om,Bool.eq_iff_iff,cu];unfold uF;rw[decide_eq_true_eq];omega
def gJ(k:Int):Int:=bif af k 1||af k 6||af k 9||af k 10||af k 11||af k 21||af k 23 then 0 else bif af k 3||af k 5||af k 7||af k 8||af k 12||af k 22 then 1 else bif af k 4||af k 24 then 2 else bif af k 2 then 3 else -1
def kX(k c:Int):Bool:=bif af k 5||af k 11 then af c 1 else bif af k 6||af k 7||af k 8||af k 12 then af c 2 else bif af k 9 then af c 3 else bif af k 10 then a8 3 c&&af (c % 2) 1 else bif af k 24 then true else af c 0
def iJ(k:Int):Bool:=a8 21 k&&a8 k 24
def ny(k:Int)(t:List Int)(hk:Int):Int:=bif af k 8&&av (af hk 5) then 61 else bif af (gJ k) 1&&av (bF t) then 62 else bif af (gJ k) 2&&av (gI t) then 62 else 0
def mT(k:Int)(t:List Int)(hk:Int):Int:=bif af (gJ k) 0 then(bif aS t [] then ny k t hk else 61) else bif af (gJ k) 3 then(bif aB 200 (aa t) then 61 else ny k t hk) else ny k t hk
def eN(k:Int)(t:List Int)(n c hk:Int)(pat:Bool):Int:=
 bif aB (gJ k) 0 then 61 else bif av (fh (iJ k) pat) then 61 else bif av (kX k c) then 61 else
 bif af k 1||af k 23 then(bif uF n then mT k t hk else 61) else(bif af n 0 then mT k t hk else 61)
def XB:List Int:=[1,2,3,4,5,6,7,8,9,10,11,12,21,22,23,24]
theorem XD{P:Int->Prop}(h1:P 1)(h2:P 2)(h3:P 3)(h4:P 4)(h5:P 5)(h6:P 6)(h7:P 7)(h8:P 8)(h9:P 9)(he:P 10)(hf:P 11)(hg:P 12)(hj:P 21)(hk:P 22)(hl:P 23)(hm:P 24)(ho:∀a,(∀c,c∈XB->af a c=false)->P a):∀a,P a:=by
 intro a;by_cases e1:a=1
 ·rw[e1];exact h1
 by_cases e2:a=2
 ·rw[e2];exact h2
 by_cases e3:a=3
 ·rw[e3];exact h3
 by_cases e4:a=4
 ·rw[e4];exact h4
 by_cases e5:a=5
 ·rw[e5];exact h5
 by_cases e6:a=6
 ·rw[e6];exact h6
 by_cases e7:a=7
 ·rw[e7];exact h7
 by_cases e8:a=8
 ·rw[e8];exact h8
 by_cases e9:a=9
 ·rw[e9];exact h9
 by_cases Mm:a=10
 ·rw[Mm];exact he
 by_cases Mn:a=11
 ·rw[Mn];exact hf
 by_cases Ez:a=12
 ·rw[Ez];exact hg
 by_cases uG:a=21
 ·rw[uG];exact hj
 by_cases rk:a=22
 ·rw[rk];exact hk
 by_cases Mo:a=23
 ·rw[Mo];exact hl
 by_cases Ps:a=24
 ·rw[Ps];exact hm
 refine ho a fun c hc=>pD ?_;rintro rfl;simp only[XB,zt,List.not_mem_nil,or_false] at hc;omega
theorem qvj:∀a:Int,y6 (a,())=some (gJ a,()):=by refine XD (by kernel_rfl) (by kernel_rfl) (by kernel_rfl) (by kernel_rfl) (by kernel_rfl) (by kernel_rfl) (by kernel_rfl) (by kernel_rfl) (by kernel_rfl) (by kernel_rfl) (by kernel_rfl) (by kernel_rfl) (by kernel_rfl) (by kernel_rfl) (by kernel_rfl) (by kernel_rfl) (fun a h=>?_);have i1:af a 1=false:=h 1 dc;have i2:af a 2=false:=h 2 dc;have i3:af a 3=false:=h 3 dc;have i4:af a 4=false:=h 4 dc;have i5:af a 5=false:=h 5 dc;have i6:af a 6=false:=h 6 dc;have i7:af a 7=false:=h 7 dc;have i8:af a 8=false:=h 8 dc;have i9:af a 9=false:=h 9 dc;have i10:af a 10=false:=h 10 dc;have i11:af a 11=false:=h 11 dc;have i12:af a 12=false:=h 12 dc;have i21:af a 21=false:=h 21 dc;have i22:af a 22=false:=h 22 dc;have i23:af a 23=false:=h 23 dc;have i24:af a 24=false:=h 24 dc;rw[U0];unfold gJ;simp only[i1,i2,i3,i4,i5,i6,i7,i8,i9,i10,i11,i12,i21,i22,i23,i24,aF,aj];rfl
theorem qyw(c:Int)(hc:0<=c):∀a:Int,vV (a,c,())=some (kX a c,()):=by
 have he:vV (10,c,())=some (kX 10 c,()):=by rw[gZ];show ag (aq (a8 3 c) (ag (fW c 2) fun x4=>some (af x4 1)) (some false)) (fun x5=>some (x5,()))=some (a8 3 c&&af (c % 2) 1,());rw[KM hc dc];cases a8 3 c<;>rfl
 refine XD (by rw[gZ];rfl) (by rw[gZ];rfl) (by rw[gZ];rfl) (by rw[gZ];rfl) (by rw[gZ];rfl) (by rw[gZ];rfl) (by rw[gZ];rfl) (by rw[gZ];rfl) (by rw[gZ];rfl) he (by rw[gZ];rfl) (by rw[gZ];rfl) (by rw[gZ];rfl) (by rw[gZ];rfl) (by rw[gZ];rfl) (by rw[gZ];rfl) (fun a h=>?_);have i1:af a 1=false:=h 1 dc;have i2:af a 2=false:=h 2 dc;have i3:af a 3=false:=h 3 dc;have i4:af a 4=false:=h 4 dc;have i5:af a 5=false:=h 5 dc;have i6:af a 6=false:=h 6 dc;have i7:af a 7=false:=h 7 dc;have i8:af a 8=false:=h 8 dc;have i9:af a 9=false:=h 9 dc;have i10:af a 10=false:=h 10 dc;have i11:af a 11=false:=h 11 dc;have i12:af a 12=false:=h 12 dc;have i21:af a 21=false:=h 21 dc;have i22:af a 22=false:=h 22 dc;have i23:af a 23=false:=h 23 dc;have i24:af a 24=false:=h 24 dc;rw[gZ];unfold kX;simp only[i5,i11,i6,i7,i8,i12,i9,i10,i24,aF,aj];rfl
theorem qgj(a:Int):p8 (a,())=some (iJ a,()):=by rw[UZ,Eu];rfl
theorem pg(a:Int):oE (a,())=some (iJ a,()):=by rw[S4,Eu];rfl
def F.head:F->Int
 |.nil=>0
 |.cons k _ _ _ _=>k
theorem behind{l:List ND}{k:Nat}{ks:F}{kd:Int}(hk:k<=1000000)(hs:cM l (k+1) ks)(hn:kd=8->ks.aA≠0):(aq (af kd 8) (ag (aJ l (ar .i64 (k:Int) 1)) fun x=>some (av (af x.1 5))) (some false):Option Bool)=some (af kd 8&&av (af ks.head 5)):=by
 cases h:af kd 8 with
 |false=>rfl
 |true=>
  have h8:=cu.1 h;cases ks with
  |nil=>exact absurd rfl (hn h8)
  |cons x t n ks r=>rw[aI,aH om,aT hs.node.1];rfl
theorem qr8(b:Bool)(l:List ND)(hl:l.length<=10000){k:Nat}{kd:Int}{t:List Int}{n:Int}{ks r:F}(pat:Bool)(h:cM l k (.cons kd t n ks r))(ht:t.length<=1000000)(hr:Jn n):tf (⟨b,l⟩,(k:Int),pat,())=some (eN kd t n (ks.aA:Int) ks.head pat,()):=by
 obtain⟨g1,g2,g3,g4⟩:=h.node;obtain⟨v,w1,w2⟩:=qr7 n hr;rw[U3,aT g1];simp only[aj,qvj,Mj,qgj,qyw (ks.aA:Int) (Int.natCast_nonneg _),w1,w2,qr4 ht,qvg ht];by_cases h8:kd=8/\ks.aA=0
 ·obtain⟨rfl,h0⟩:=h8;rw[h0];have e1:aB (gJ 8) 0=false:=rfl;have e2:kX 8 ((0:Nat):Int)=false:=rfl;unfold eN;rw[e1,e2];simp only[aI,aF,av,Bool.not_false,cond_true,cond_false];cases !fh (iJ 8) pat<;>rfl
 ·have e8:=behind (kd:=kd) (l:=l) (k:=k) (ks:=ks) om g2 (fun e h=>h8 ⟨e,h⟩);simp only[e8,aj,aI,aF];unfold eN mT;unfold ny;generalize hT:(af kd 8&&av (af ks.head 5))=T;cases aB (gJ kd) 0 with
  |true=>rfl
  |false=>
   cases av (fh (iJ kd) pat) with
   |true=>rfl
   |false=>
    cases av (kX kd (ks.aA:Int)) with
    |true=>rfl
    |false=>
     simp only[aF,cond_false];have fin:(ag (aq (af (gJ kd) 1) (some (av (bF t))) (some false)) (fun x6=>ag (aq x6 (some true) (aq (af (gJ kd) 2) (some (av (gI t))) (some false))) (fun x8=>aq x8 (some ((62:Int),())) (some (0,())))):Option (Int×Unit))=
       some (bif af (gJ kd) 1&&av (bF t) then 62 else bif af (gJ kd) 2&&av (gI t) then 62 else 0,()):=by
      cases af (gJ kd) 1<;>cases bF t<;>cases af (gJ kd) 2<;>cases gI t<;>rfl
     simp only[fin];cases (af kd 1||af kd 23) with
     |true=>
      simp only[aI,aF,cond_true,av,Bool.not_true];cases uF n with
      |false=>rfl
      |true=>
       simp only[aF,Bool.not_true,cond_true];cases h0:af (gJ kd) 0 with
       |true=>
        have h3:af (gJ kd) 3=false:=by rw[cu.1 h0];rfl
        simp only[h3,aF,cond_false];cases aS t []<;>cases T<;>rfl
       |false=>cases af (gJ kd) 3<;>cases aB 200 (aa t)<;>cases T<;>rfl
     |false=>
      simp only[aI,aF,cond_false,av,Bool.not_false];cases af n 0 with
      |false=>rfl
      |true=>
       simp only[aF,Bool.not_true,cond_true];cases h0:af (gJ kd) 0 with
       |true=>
        have h3:af (gJ kd) 3=false:=by rw[cu.1 h0];rfl
        simp only[h3,aF,cond_false];cases aS t []<;>cases T<;>rfl
       |false=>cases af (gJ kd) 3<;>cases aB 200 (aa t)<;>cases T<;>rfl
theorem rD(a c:Int):sx (a,c,())=some (af a c,()):=S9 a c
theorem rE(a:Int):vC (a,())=some (true,()):=S8 a
theorem z3v(a:Int)(h:0<=a):sw (a,())=some (a8 3 a&&af (a % 2) 1,()):=by rw[S7,KM h dc];cases a8 3 a<;>rfl
theorem z3w:fb (1,())=some (true,false,2,0,0,0,true,()):=by kernel_rfl
theorem z3x:fb (2,())=some (false,true,2,0,0,0,true,()):=by kernel_rfl
theorem z3y:fb (3,())=some (false,false,0,0,0,0,true,()):=by kernel_rfl
theorem z3z:fb (4,())=some (false,false,1,0,0,0,true,()):=by kernel_rfl
theorem z40:fb (5,())=some (false,false,0,0,0,1,true,()):=by kernel_rfl
theorem z41:fb (6,())=some (false,false,2,0,0,2,true,()):=by kernel_rfl
theorem z42:fb (7,())=some (false,false,0,0,0,2,true,()):=by kernel_rfl
theorem z43:fb (8,())=some (false,false,0,0,0,2,true,()):=by kernel_rfl
theorem z44:fb (9,())=some (false,false,2,0,0,3,true,()):=by kernel_rfl
theorem z27:fb (10,())=some (false,false,2,0,1,0,true,()):=by kernel_rfl
theorem z28:fb (11,())=some (false,false,2,0,0,1,true,()):=by kernel_rfl
theorem z29:fb (12,())=some (false,false,0,0,0,2,true,()):=by kernel_rfl
theorem z2a:fb (21,())=some (false,false,2,0,0,0,true,()):=by kernel_rfl
theorem z2b:fb (22,())=some (false,false,0,0,0,0,true,()):=by kernel_rfl
theorem z2c:fb (23,())=some (true,false,2,0,0,0,true,()):=by kernel_rfl
theorem z2d:fb (24,())=some (false,false,1,0,2,0,true,()):=by kernel_rfl
theorem qr9(a:Int)(h:∀c,c∈XB->af a c=false):fb (a,())=some (false,false,2,0,3,0,false,()):=by have i1:af a 1=false:=h 1 dc;have i2:af a 2=false:=h 2 dc;have i3:af a 3=false:=h 3 dc;have i4:af a 4=false:=h 4 dc;have i5:af a 5=false:=h 5 dc;have i6:af a 6=false:=h 6 dc;have i7:af a 7=false:=h 7 dc;have i8:af a 8=false:=h 8 dc;have i9:af a 9=false:=h 9 dc;have i10:af a 10=false:=h 10 dc;have i11:af a 11=false:=h 11 dc;have i12:af a 12=false:=h 12 dc;have i21:af a 21=false:=h 21 dc;have i22:af a 22=false:=h 22 dc;have i23:af a 23=false:=h 23 dc;have i24:af a 24=false:=h 24 dc;rw[S5];simp only[i1,i2,i3,i4,i5,i6,i7,i8,i9,i10,i11,i12,i21,i22,i23,i24,aF,aj]
theorem mE:af 0 0=true:=id (Eq.refl true)
theorem uH:af 0 1=false:=id (Eq.refl false)
theorem uI:af 0 2=false:=id (Eq.refl false)
theorem Mm:af 1 0=false:=id (Eq.refl false)
theorem Mn:af 1 1=true:=id (Eq.refl true)
theorem Ez:af 1 2=false:=id (Eq.refl false)
theorem Ah:af 2 0=false:=id (Eq.refl false)
theorem uG:af 2 1=false:=id (Eq.refl false)
theorem rk:af 2 2=true:=id (Eq.refl true)
theorem nT:av true=false:=id (Eq.refl false)
theorem nF:av false=true:=id (Eq.refl true)
theorem qvk(b:Bool)(l:List ND)(hl:l.length<=10000){k:Nat}{t:List Int}{n:Int}{ks:F}(pat:Bool)(ht:∀b,b∈t->0<=b/\b<=255)(hr:Jn n):∀kd:Int,cM l k (tr kd t n ks)->sy (⟨b,l⟩,(k:Int),pat,())=some (eN kd t n (ks.aA:Int) ks.head pat,()):=by
 obtain⟨v,w1,w2⟩:=qr6 n hr;have hc:=qvf ht;have he:=qyq ht;have hf:=z3v (ks.aA:Int) (Int.natCast_nonneg _);refine XD ?k1 ?k2 ?k3 ?k4 ?k5 ?k6 ?k7 ?k8 ?k9 ?k10 ?k11 ?k12 ?k21 ?k22 ?k23 ?k24 (fun a h hs=>?_)
 case k1=>
  intro h;obtain⟨g1,g2,g3,g4⟩:=h.node;rw[gY,aT g1,aj,z3w,aj];have e8:af 1 8=false:=rfl;have ep:iJ 1=false:=rfl;simp only[pg,ep,nT,nF,aI,aF,aj,mE,uH,uI,Ah,uG,rk,rD,rE,hf,w1,w2,hc,he,e8];have hE:eN 1 t n (ks.aA:Int) ks.head pat=bif av (fh false pat) then 61 else bif av (af (ks.aA:Int) 0) then 61 else bif uF n then(bif aS t [] then 0 else 61) else 61:=by have kk:kX 1 (ks.aA:Int)=af (ks.aA:Int) 0:=rfl;unfold eN mT ny;rw[kk];cases pat<;>cases af (ks.aA:Int) 0<;>cases uF n<;>cases aS t []<;>rfl
  rw[hE];cases pat<;>cases a1:af (ks.aA:Int) 0<;>cases a2:uF n<;>cases a3:aS t []<;>simp only[nT,nF,aI,aF,aj,Ah,uG,rk,hc,he,fh,e8,BEq.rfl,Bool.false_beq,Bool.not_true,cond_true,cond_false,a3]<;>rfl
 case k2=>
  intro h;obtain⟨g1,g2,g3,g4⟩:=h.node;rw[gY,aT g1,aj,z3x,aj];have e8:af 2 8=false:=rfl;have ep:iJ 2=false:=rfl;simp only[pg,ep,nT,nF,aI,aF,aj,mE,uH,uI,rk,rD,rE,hf,w1,w2];have hE:eN 2 t n (ks.aA:Int) ks.head pat=bif av (fh false pat) then 61 else bif av (af (ks.aA:Int) 0) then 61 else bif af n 0 then(bif aB 200 (aa t) then 61 else 0) else 61:=by have kk:kX 2 (ks.aA:Int)=af (ks.aA:Int) 0:=rfl;unfold eN mT ny;rw[kk];cases pat<;>cases af (ks.aA:Int) 0<;>cases af n 0<;>cases aB 200 (aa t)<;>rfl
  rw[hE];cases pat<;>cases a1:af (ks.aA:Int) 0<;>cases a2:af n 0<;>cases a3:aB 200 (aa t)<;>simp only[nT,nF,aI,aF,aj,Ah,uG,rk,hc,he,fh,e8,BEq.rfl,Bool.false_beq,Bool.not_true,cond_true,cond_false]<;>rfl
 case k3=>
  intro h;obtain⟨g1,g2,g3,g4⟩:=h.node;rw[gY,aT g1,aj,z3y,aj];have e8:af 3 8=false:=rfl;have ep:iJ 3=false:=rfl;simp only[pg,ep,nT,nF,aI,aF,aj,mE,uH,uI,rD,rE,hf,w1,w2,hc,he,e8];have hE:eN 3 t n (ks.aA:Int) ks.head pat=bif av (fh false pat) then 61 else bif av (af (ks.aA:Int) 0) then 61 else bif af n 0 then(bif bF t then 0 else 62) else 61:=by have kk:kX 3 (ks.aA:Int)=af (ks.aA:Int) 0:=rfl;unfold eN mT ny;rw[kk];cases pat<;>cases af (ks.aA:Int) 0<;>cases af n 0<;>cases bF t<;>rfl
  rw[hE];cases pat<;>cases a1:af (ks.aA:Int) 0<;>cases a2:af n 0<;>cases a3:bF t<;>simp only[nT,nF,aI,aF,aj,fh,BEq.rfl,Bool.false_beq,Bool.not_true,cond_true,cond_false]<;>rfl
 case k4=>
  intro h;obtain⟨g1,g2,g3,g4⟩:=h.node;rw[gY,aT g1,aj,z3z,aj];have e8:af 4 8=false:=rfl;have ep:iJ 4=false:=rfl;simp only[pg,ep,nT,nF,aI,aF,aj,mE,uH,uI,Mm,Mn,Ez,rD,rE,hf,w1,w2,hc,he,e8];have hE:eN 4 t n (ks.aA:Int) ks.head pat=bif av (fh false pat) then 61 else bif av (af (ks.aA:Int) 0) then 61 else bif af n 0 then(bif gI t then 0 else 62) else 61:=by have kk:kX 4 (ks.aA:Int)=af (ks.aA:Int) 0:=rfl;unfold eN mT ny;rw[kk];cases pat<;>cases af (ks.aA:Int) 0<;>cases af n 0<;>cases gI t<;>rfl
  rw[hE];cases pat<;>cases a1:af (ks.aA:Int) 0<;>cases a2:af n 0<;>cases a3:gI t<;>simp only[nT,nF,aI,aF,aj,fh,BEq.rfl,Bool.false_beq,Bool.not_true,cond_true,cond_false]<;>rfl
 case k5=>
  intro h;obtain⟨g1,g2,g3,g4⟩:=h.node;rw[gY,aT g1,aj,z40,aj];have e8:af 5 8=false:=rfl;have ep:iJ 5=false:=rfl;simp only[pg,ep,nT,nF,aI,aF,aj,mE,uH,uI,rD,rE,hf,w1,w2,hc,he,e8];have hE:eN 5 t n (ks.aA:Int) ks.head pat=bif av (fh false pat) then 61 else bif av (af (ks.aA:Int) 1) then 61 else bif af n 0 then(bif bF t then 0 else 62) else 61:=by have kk:kX 5 (ks.aA:Int)=af (ks.aA:Int) 1:=rfl;unfold eN mT ny;rw[kk];cases pat<;>cases af (ks.aA:Int) 1<;>cases af n 0<;>cases bF t<;>rfl
  rw[hE];cases pat<;>cases a1:af (ks.aA:Int) 1<;>cases a2:af n 0<;>cases a3:bF t<;>simp only[nT,nF,aI,aF,aj,fh,BEq.rfl,Bool.false_beq,Bool.not_true,cond_true,cond_false]<;>rfl
 case k6=>
  intro h;obtain⟨g1,g2,g3,g4⟩:=h.node;rw[gY,aT g1,aj,z41,aj];have e8:af 6 8=false:=rfl;have ep:iJ 6=false:=rfl;simp only[pg,ep,nT,nF,aI,aF,aj,mE,uH,uI,Ah,uG,rk,rD,rE,hf,w1,w2,hc,he,e8];have hE:eN 6 t n (ks.aA:Int) ks.head pat=bif av (fh false pat) then 61 else bif av (af (ks.aA:Int) 2) then 61 else bif af n 0 then(bif aS t [] then 0 else 61) else 61:=by have kk:kX 6 (ks.aA:Int)=af (ks.aA:Int) 2:=rfl;unfold eN mT ny;rw[kk];cases pat<;>cases af (ks.aA:Int) 2<;>cases af n 0<;>cases aS t []<;>rfl
  rw[hE];cases pat<;>cases a1:af (ks.aA:Int) 2<;>cases a2:af n 0<;>cases a3:aS t []<;>simp only[nT,nF,aI,aF,aj,fh,BEq.rfl,Bool.false_beq,Bool.not_true,cond_true,cond_false]<;>rfl
 case k7=>
  intro h;obtain⟨g1,g2,g3,g4⟩:=h.node;rw[gY,aT g1,aj,z42,aj];have e8:af 7 8=false:=rfl;have ep:iJ 7=false:=rfl;simp only[pg,ep,nT,nF,aI,aF,aj,mE,uH,uI,rD,rE,hf,w1,w2,hc,he,e8];have hE:eN 7 t n (ks.aA:Int) ks.head pat=bif av (fh false pat) then 61 else bif av (af (ks.aA:Int) 2) then 61 else bif af n 0 then(bif bF t then 0 else 62) else 61:=by have kk:kX 7 (ks.aA:Int)=af (ks.aA:Int) 2:=rfl;unfold eN mT ny;rw[kk];cases pat<;>cases af (ks.aA:Int) 2<;>cases af n 0<;>cases bF t<;>rfl
  rw[hE];cases pat<;>cases a1:af (ks.aA:Int) 2<;>cases a2:af n 0<;>cases a3:bF t<;>simp only[nT,nF,aI,aF,aj,fh,BEq.rfl,Bool.false_beq,Bool.not_true,cond_true,cond_false]<;>rfl
 case k8=>
  intro h;obtain⟨g1,g2,g3,g4⟩:=h.node;rw[gY,aT g1,aj,z43,aj];have e8:af 8 8=true:=rfl;have ep:iJ 8=false:=rfl;simp only[pg,ep,nT,nF,aI,aF,aj,mE,uH,uI,rD,rE,hf,w1,w2,hc,he];have hE:eN 8 t n (ks.aA:Int) ks.head pat=bif av (fh false pat) then 61 else bif av (af (ks.aA:Int) 2) then 61 else bif af n 0 then(bif af ks.head 5 then(bif bF t then 0 else 62) else 61) else 61:=by have kk:kX 8 (ks.aA:Int)=af (ks.aA:Int) 2:=rfl;unfold eN mT ny;rw[kk];cases pat<;>cases af (ks.aA:Int) 2<;>cases af n 0<;>cases bF t<;>cases af ks.head 5<;>rfl
  rw[hE];cases h2:af (ks.aA:Int) 2 with
  |false=>cases pat<;>rfl
  |true=>have hb:=behind (kd:=8) (l:=l) (k:=k) (ks:=ks) om g2 (fun _ h0=>by have:=cu.1 h2;omega);rw[show af 8 8=true from rfl,aI] at hb;have hg:ag (aJ l (ar .i64 (k:Int) 1)) (fun x=>some (av (af x.1 5)))=some (av (af ks.head 5)):=hb;cases pat<;>cases a1:af n 0<;>cases a2:af ks.head 5<;>cases a3:bF t<;>simp only[nT,nF,aI,aF,aj,e8,hg,fh,Bool.false_beq,beq_self_eq_true,Bool.not_true,a2]<;>rfl
 case k9=>
  intro h;obtain⟨g1,g2,g3,g4⟩:=h.node;rw[gY,aT g1,aj,z44,aj];have e8:af 9 8=false:=rfl;have ep:iJ 9=false:=rfl;simp only[pg,ep,nT,nF,aI,aF,aj,mE,uH,uI,Ah,uG,rk,rD,rE,hf,w1,w2,hc,he,e8];have hE:eN 9 t n (ks.aA:Int) ks.head pat=bif av (fh false pat) then 61 else bif av (af (ks.aA:Int) 3) then 61 else bif af n 0 then(bif aS t [] then 0 else 61) else 61:=by have kk:kX 9 (ks.aA:Int)=af (ks.aA:Int) 3:=rfl;unfold eN mT ny;rw[kk];cases pat<;>cases af (ks.aA:Int) 3<;>cases af n 0<;>cases aS t []<;>rfl
  rw[hE];cases pat<;>cases a1:af (ks.aA:Int) 3<;>cases a2:af n 0<;>cases a3:aS t []<;>simp only[nT,nF,aI,aF,aj,fh,BEq.rfl,Bool.false_beq,Bool.not_true,cond_true,cond_false]<;>rfl
 case k10=>
  intro h;obtain⟨g1,g2,g3,g4⟩:=h.node;rw[gY,aT g1,aj,z27,aj];have e8:af 10 8=false:=rfl;have ep:iJ 10=false:=rfl;simp only[pg,ep,nT,nF,aI,aF,aj,Mm,Mn,Ez,Ah,uG,rk,rD,rE,hf,w1,w2,hc,he,e8];have hE:eN 10 t n (ks.aA:Int) ks.head pat=bif av (fh false pat) then 61 else bif av ((a8 3 (ks.aA:Int)&&af ((ks.aA:Int) % 2) 1)) then 61 else bif af n 0 then(bif aS t [] then 0 else 61) else 61:=by have kk:kX 10 (ks.aA:Int)=(a8 3 (ks.aA:Int)&&af ((ks.aA:Int) % 2) 1):=rfl;unfold eN mT ny;rw[kk];cases pat<;>cases a8 3 (ks.aA:Int)<;>cases af ((ks.aA:Int) % 2) 1<;>cases af n 0<;>cases aS t []<;>rfl
  rw[hE];cases pat<;>cases a1:a8 3 (ks.aA:Int)<;>cases a2:af ((ks.aA:Int) % 2) 1<;>cases a3:af n 0<;>cases a4:aS t []<;>simp only[nT,nF,aI,aF,aj,fh,BEq.rfl,Bool.false_beq,Bool.not_true,Bool.true_and,Bool.false_and,cond_true,cond_false]<;>rfl
 case k11=>
  intro h;obtain⟨g1,g2,g3,g4⟩:=h.node;rw[gY,aT g1,aj,z28,aj];have e8:af 11 8=false:=rfl;have ep:iJ 11=false:=rfl;simp only[pg,ep,nT,nF,aI,aF,aj,mE,uH,uI,Ah,uG,rk,rD,rE,hf,w1,w2,hc,he,e8];have hE:eN 11 t n (ks.aA:Int) ks.head pat=bif av (fh false pat) then 61 else bif av (af (ks.aA:Int) 1) then 61 else bif af n 0 then(bif aS t [] then 0 else 61) else 61:=by have kk:kX 11 (ks.aA:Int)=af (ks.aA:Int) 1:=rfl;unfold eN mT ny;rw[kk];cases pat<;>cases af (ks.aA:Int) 1<;>cases af n 0<;>cases aS t []<;>rfl
  rw[hE];cases pat<;>cases a1:af (ks.aA:Int) 1<;>cases a2:af n 0<;>cases a3:aS t []<;>simp only[nT,nF,aI,aF,aj,fh,BEq.rfl,Bool.false_beq,Bool.not_true,cond_true,cond_false]<;>rfl
 case k12=>
  intro h;obtain⟨g1,g2,g3,g4⟩:=h.node;rw[gY,aT g1,aj,z29,aj];have e8:af 12 8=false:=rfl;have ep:iJ 12=false:=rfl;simp only[pg,ep,nT,nF,aI,aF,aj,mE,uH,uI,rD,rE,hf,w1,w2,hc,he,e8];have hE:eN 12 t n (ks.aA:Int) ks.head pat=bif av (fh false pat) then 61 else bif av (af (ks.aA:Int) 2) then 61 else bif af n 0 then(bif bF t then 0 else 62) else 61:=by have kk:kX 12 (ks.aA:Int)=af (ks.aA:Int) 2:=rfl;unfold eN mT ny;rw[kk];cases pat<;>cases af (ks.aA:Int) 2<;>cases af n 0<;>cases bF t<;>rfl
  rw[hE];cases pat<;>cases a1:af (ks.aA:Int) 2<;>cases a2:af n 0<;>cases a3:bF t<;>simp only[nT,nF,aI,aF,aj,fh,BEq.rfl,Bool.false_beq,Bool.not_true,cond_true,cond_false]<;>rfl
 case k21=>
  intro h;obtain⟨g1,g2,g3,g4⟩:=h.node;rw[gY,aT g1,aj,z2a,aj];have e8:af 21 8=false:=rfl;have ep:iJ 21=true:=rfl;simp only[pg,ep,nT,nF,aI,aF,aj,mE,uH,uI,Ah,uG,rk,rD,rE,hf,w1,w2,hc,he,e8];have hE:eN 21 t n (ks.aA:Int) ks.head pat=bif av (fh true pat) then 61 else bif av (af (ks.aA:Int) 0) then 61 else bif af n 0 then(bif aS t [] then 0 else 61) else 61:=by have kk:kX 21 (ks.aA:Int)=af (ks.aA:Int) 0:=rfl;unfold eN mT ny;rw[kk];cases pat<;>cases af (ks.aA:Int) 0<;>cases af n 0<;>cases aS t []<;>rfl
  rw[hE];cases pat<;>cases a1:af (ks.aA:Int) 0<;>cases a2:af n 0<;>cases a3:aS t []<;>simp only[nT,nF,aI,aF,aj,fh,BEq.rfl,cond_true,cond_false]<;>rfl
 case k22=>
  intro h;obtain⟨g1,g2,g3,g4⟩:=h.node;rw[gY,aT g1,aj,z2b,aj];have e8:af 22 8=false:=rfl;have ep:iJ 22=true:=rfl;simp only[pg,ep,nT,nF,aI,aF,aj,mE,uH,uI,rD,rE,hf,w1,w2,hc,he,e8];have hE:eN 22 t n (ks.aA:Int) ks.head pat=bif av (fh true pat) then 61 else bif av (af (ks.aA:Int) 0) then 61 else bif af n 0 then(bif bF t then 0 else 62) else 61:=by have kk:kX 22 (ks.aA:Int)=af (ks.aA:Int) 0:=rfl;unfold eN mT ny;rw[kk];cases pat<;>cases af (ks.aA:Int) 0<;>cases af n 0<;>cases bF t<;>rfl
  rw[hE];cases pat<;>cases a1:af (ks.aA:Int) 0<;>cases a2:af n 0<;>cases a3:bF t<;>simp only[nT,nF,aI,aF,aj,fh,BEq.rfl,cond_true,cond_false]<;>rfl
 case k23=>
  intro h;obtain⟨g1,g2,g3,g4⟩:=h.node;rw[gY,aT g1,aj,z2c,aj];have e8:af 23 8=false:=rfl;have ep:iJ 23=true:=rfl;simp only[pg,ep,nT,nF,aI,aF,aj,mE,uH,uI,Ah,uG,rk,rD,rE,hf,w1,w2,hc,he,e8];have hE:eN 23 t n (ks.aA:Int) ks.head pat=bif av (fh true pat) then 61 else bif av (af (ks.aA:Int) 0) then 61 else bif uF n then(bif aS t [] then 0 else 61) else 61:=by have kk:kX 23 (ks.aA:Int)=af (ks.aA:Int) 0:=rfl;unfold eN mT ny;rw[kk];cases pat<;>cases af (ks.aA:Int) 0<;>cases uF n<;>cases aS t []<;>rfl
  rw[hE];cases pat<;>cases a1:af (ks.aA:Int) 0<;>cases a2:uF n<;>cases a3:aS t []<;>simp only[nT,nF,aI,aF,aj,Ah,uG,rk,hc,he,fh,e8,BEq.rfl,cond_true,cond_false,a3]<;>rfl
 case k24=>
  intro h;obtain⟨g1,g2,g3,g4⟩:=h.node;rw[gY,aT g1,aj,z2d,aj];have e8:af 24 8=false:=rfl;have ep:iJ 24=true:=rfl;simp only[pg,ep,nT,nF,aI,aF,aj,Mm,Mn,Ez,Ah,uG,rk,rD,rE,hf,w1,w2,hc,he,e8];have hE:eN 24 t n (ks.aA:Int) ks.head pat=bif av (fh true pat) then 61 else bif av (true) then 61 else bif af n 0 then(bif gI t then 0 else 62) else 61:=by have kk:kX 24 (ks.aA:Int)=true:=rfl;unfold eN mT ny;rw[kk];cases pat<;>cases af n 0<;>cases gI t<;>rfl
  rw[hE];cases pat<;>cases a1:af n 0<;>cases a2:gI t<;>simp only[nT,nF,aI,aF,aj,fh,BEq.rfl,cond_true,cond_false]<;>rfl
 obtain⟨g1,g2,g3,g4⟩:=hs.node;rw[gY,aT g1,aj,qr9 a h,aj];have hE:eN a t n (ks.aA:Int) ks.head pat=61:=by
  have hs:gJ a=-1:=by unfold gJ;rw[h 1 dc,h 6 dc,h 9 dc,h 10 dc,h 11 dc,h 21 dc,h 23 dc,h 3 dc,h 5 dc,h 7 dc,h 8 dc,h 12 dc,h 22 dc,h 4 dc,h 24 dc,h 2 dc];rfl
  unfold eN;rw[hs];rfl
 rw[hE];rfl
def Mp(x:ND):Prop:=(∀b,b∈x.2.1->0<=b/\b<=255)/\x.2.1.length<=1000000/\Jn x.2.2.1
def GL(l:List ND):Prop:=∀x,x∈l->Mp x
theorem GL.at{l:List ND}(h:GL l){k:Nat}{x:ND}(e:l[k]?=some x):Mp x:=h x (zj e)
def fL:Bool->Bool->Bool->F->Int
 |_,_,_,.nil=>0
 |m,pat,jR,.cons kd t n ks r=>
  bif av (af (eN kd t n (ks.aA:Int) ks.head (pat||(m&&jR))) 0) then eN kd t n (ks.aA:Int) ks.head (pat||(m&&jR)) else
  bif av (af (fL (af kd 10) (pat||(m&&jR)) false ks) 0) then fL (af kd 10) (pat||(m&&jR)) false ks else fL m pat (!jR) r
def dH(kd:Int)(t:List Int)(n:Int)(ks:F)(pat:Bool):Int:=bif av (af (eN kd t n (ks.aA:Int) ks.head pat) 0) then eN kd t n (ks.aA:Int) ks.head pat else fL (af kd 10) pat false ks
theorem qp8(m pat jR:Bool):fL m pat jR .nil=0:=id (Eq.refl _)
theorem XE(m pat jR:Bool)(kd:Int)(t:List Int)(n:Int)(ks r:F):fL m pat jR (.cons kd t n ks r)=bif av (af (dH kd t n ks (pat||(m&&jR))) 0) then dH kd t n ks (pat||(m&&jR)) else fL m pat (!jR) r:=by
 conv=>lhs;unfold fL
 unfold dH;cases h:av (af (eN kd t n (ks.aA:Int) ks.head (pat||(m&&jR))) 0) with
 |true=>rw[cond_true,cond_true,h];rfl
 |false=>rw[cond_false,cond_false]
theorem qvl(i:Nat):af (((i+1:Nat):Int) % 2) 1=!af ((i:Int) % 2) 1:=by
 by_cases h:(i:Int) % 2=1
 ·have h2:((i+1:Nat):Int) % 2=0:=om
  rw[h,h2];rfl
 ·have h1:(i:Int) % 2=0:=om
  have h2:((i+1:Nat):Int) % 2=1:=om
  rw[h1,h2];rfl
def AZ(to:Nat)(e:Int):Int×Int×Unit:=bif af e 0 then((to:Int),0,()) else(0,e,())
theorem qyx(b b2:Bool)(l:List ND)(hl:l.length<=10000)(hg:GL l){k:Nat}{kd:Int}{t:List Int}{n:Int}{ks:F}(h:cM l k (tr kd t n ks)):∀pat N,ks.size+1<=N->bB lQ N (⟨b,l⟩,(k:Int),pat,⟨b2,l⟩,())=some (AZ (k+1+ks.size) (dH kd t n ks pat)):=by
 refine F.ic (l:=l) (P:=fun k kd t n ks=>∀pat N,ks.size+1<=N->bB lQ N (⟨b,l⟩,(k:Int),pat,⟨b2,l⟩,())=some (AZ (k+1+ks.size) (dH kd t n ks pat))) ?_ h;clear h k kd t n ks;intro k kd t n ks hs he pat N hN;obtain⟨N,rfl⟩:∃m,N=m+1:=⟨N-1,by omega⟩;show lQ (bB lQ N) _=_;obtain⟨g1,g2,g3,g4⟩:=hs.node;obtain⟨q1,q2,q3⟩:=hg.at g1;rw[Tb,Ta,qvk b2 l hl pat q1 q3 kd hs];simp only[aj];unfold dH;cases hE:av (af (eN kd t n (ks.aA:Int) ks.head pat) 0) with
 |true=>
  rw[aI,cond_true];unfold AZ;have:af (eN kd t n (ks.aA:Int) ks.head pat) 0=false:=by unfold av at hE;simpa using hE
  rw[this,cond_false]
 |false=>
  rw[aF,cond_false,aT g1,aj,aH om];have loop:∀(g:F) (q i:Nat),g.oQ (fun k kd t n ks=>∀pat N,ks.size+1<=N->bB lQ N (⟨b,l⟩,(k:Int),pat,⟨b2,l⟩,())=some (AZ (k+1+ks.size) (dH kd t n ks pat))) q->
    g.size<=N->i+g.aA=ks.aA->i<=1000000->
    aG (qg (bB lQ N)) (⟨b,l⟩,(k:Int),pat,⟨b2,l⟩,(q:Int),(ks.aA:Int),(i:Int),())=some (AZ (q+g.size) (fL (af kd 10) pat (af ((i:Int) % 2) 1) g)):=by
   intro g
   induction g with
   |nil=>intro q i _ _ hi _;have hi:i+0=ks.aA:=hi;refine dS ?_;unfold qg;simp only;rw[dZ,if_neg om,qp8];rfl
   |cons nz t' n' bP r' _ ih=>
    intro q i hE hz hi hk;have hi:i+(r'.aA+1)=ks.aA:=hi;have hz:bP.size+r'.size+1<=N:=hz;have hc:=ks.cv;have hj:aq pat (some true) (ag (aJ l (k:Int)) (fun x3=>aq (af x3.1 10) (ag (fW (i:Int) 2) (fun x4=>some (af x4 1))) (some false)))=some (pat||(af kd 10&&af ((i:Int) % 2) 1)):=by rw[aT g1,KM om dc];simp only[aj];cases pat<;>cases af kd 10<;>rfl
    rw[XE];have hw:=hE.1 (pat||(af kd 10&&af ((i:Int) % 2) 1)) N om;generalize hv:dH nz t' n' bP (pat||(af kd 10&&af ((i:Int) % 2) 1))=v at*
    have step:qg (bB lQ N) (⟨b,l⟩,(k:Int),pat,⟨b2,l⟩,(q:Int),(ks.aA:Int),(i:Int),())=
      bif af v 0 then some (.inl (⟨b,l⟩,(k:Int),pat,⟨b2,l⟩,((q+1+bP.size:Nat):Int),(ks.aA:Int),((i+1:Nat):Int),())) else some (.inr (0,v,())):=by
     unfold qg;simp only[hj,aj,hw];rw[dZ,if_pos om,aH om];unfold AZ;cases hf:af v 0 with
     |true=>rfl
     |false=>show aq (av (af v 0)) _ _=_;rw[hf];rfl
    cases hf:af v 0 with
    |true=>
     rw[hf,cond_true] at step;rw[gH step,ih _ (i+1) hE.2 om om om,qvl];have e:q+1+bP.size+r'.size=q+(F.cons nz t' n' bP r').size:=by show _=q+(bP.size+r'.size+1);omega
     rw[e];rfl
    |false=>rw[hf,cond_false] at step;rw[dS step];show _=some (AZ _ v);unfold AZ;rw[hf];rfl
  have hc:=ks.cv;exact loop ks (k+1) 0 he om om om
theorem qvm(b:Bool)(l:List ND)(hl:l.length<=10000)(hg:GL l){k:Nat}{kd:Int}{t:List Int}{n:Int}{ks:F}(h:cM l k (tr kd t n ks)):∀pat N,ks.size+1<=N->bB l7 N (⟨b,l⟩,(k:Int),pat,())=some (dH kd t n ks pat,()):=by
 refine F.ic (l:=l) (P:=fun k kd t n ks=>∀pat N,ks.size+1<=N->bB l7 N (⟨b,l⟩,(k:Int),pat,())=some (dH kd t n ks pat,())) ?_ h;clear h k kd t n ks;intro k kd t n ks hs he pat N hN;obtain⟨N,rfl⟩:∃m,N=m+1:=⟨N-1,by omega⟩;show l7 (bB l7 N) _=_;obtain⟨g1,g2,g3,g4⟩:=hs.node;obtain⟨q1,q2,q3⟩:=hg.at g1;rw[U4,qr8 b l hl pat hs q2 q3,HP b l hl hs];simp only[aj];unfold dH;cases hE:av (af (eN kd t n (ks.aA:Int) ks.head pat) 0) with
 |true=>rw[aI,cond_true]
 |false=>
  rw[aF,cond_false];have loop:∀(g:F) (q:Nat) (pre:List Int),g.oQ (fun k kd t n ks=>∀pat N,ks.size+1<=N->bB l7 N (⟨b,l⟩,(k:Int),pat,())=some (dH kd t n ks pat,())) q->
    g.size<=N->pre++g.pos q=ks.pos (k+1)->
    aG (nW (bB l7 N)) (⟨b,l⟩,(k:Int),pat,⟨false,ks.pos (k+1)⟩,(pre.length:Int),())=some (fL (af kd 10) pat (af ((pre.length:Int) % 2) 1) g,()):=by
   intro g
   induction g with
   |nil=>intro q pre _ _ hp;have hp:pre++[]=ks.pos (k+1):=hp;rw[zE] at hp;refine dS ?_;unfold nW;simp only;rw[dZ,if_neg (by rw[hp];unfold aa;omega),qp8]
   |cons nz t' n' bP r' _ ih=>
    intro q pre hE hz hp;have hz:bP.size+r'.size+1<=N:=hz;have hp:pre++(q:Int)::r'.pos (q+1+bP.size)=ks.pos (k+1):=hp;have hf:(ks.pos (k+1)).length=ks.aA:=ks.dX _;have hn:=congrArg List.length hp;rw[zm,zw,hf] at hn;have hc:=ks.cv;have hk:(ks.pos (k+1))[pre.length]?=some (q:Int):=by rw[<-hp];simp
    rw[XE];have hw:=hE.1 (pat||(af kd 10&&af ((pre.length:Int) % 2) 1)) N om;have step:nW (bB l7 N) (⟨b,l⟩,(k:Int),pat,⟨false,ks.pos (k+1)⟩,(pre.length:Int),())=
      bif av (af (dH nz t' n' bP (pat||(af kd 10&&af ((pre.length:Int) % 2) 1))) 0) then some (.inr (dH nz t' n' bP (pat||(af kd 10&&af ((pre.length:Int) % 2) 1)),())) else some (.inl (⟨b,l⟩,(k:Int),pat,⟨false,ks.pos (k+1)⟩,((pre.length+1:Nat):Int),())):=by
     unfold nW;simp only;rw[dZ,if_pos (by unfold aa;rw[hf];omega),aT hk,aj,aT g1,KM om dc,aH om];cases pat with
     |true=>rw[Bool.true_or] at hw;simp only[aI,Bool.true_or,hw,aj];cases av (af (dH nz t' n' bP true) 0)<;>rfl
     |false=>
      cases hj:af kd 10 with
      |true=>rw[hj,Bool.false_or,Bool.true_and] at hw;simp only[aF,Bool.false_or,Bool.true_and,hj,aI,hw,aj];cases av (af (dH nz t' n' bP (af ((pre.length:Int) % 2) 1)) 0)<;>rfl
      |false=>rw[hj,Bool.false_or,Bool.false_and] at hw;simp only[aF,Bool.false_or,Bool.false_and,hj,hw,aj];cases av (af (dH nz t' n' bP false) 0)<;>rfl
    cases hm:av (af (dH nz t' n' bP (pat||(af kd 10&&af ((pre.length:Int) % 2) 1))) 0) with
    |true=>rw[hm,cond_true] at step;rw[dS step];rfl
    |false=>rw[hm,cond_false] at step;have hi:=ih (q+1+bP.size) (pre++[(q:Int)]) hE.2 om (by rw[zD];exact hp);rw[zm] at hi;have hi:aG (nW (bB l7 N)) (⟨b,l⟩,(k:Int),pat,⟨false,ks.pos (k+1)⟩,((pre.length+1:Nat):Int),())=some (fL (af kd 10) pat (af (((pre.length+1:Nat):Int) % 2) 1) r',()):=hi;rw[gH step,hi,qvl];rfl
  exact loop ks (k+1) [] he om rfl
theorem qvn(b b2:Bool)(l:List ND)(hl:l.length<=10000)(hg:GL l){k:Nat}{kd:Int}{t:List Int}{n:Int}{ks:F}(pat:Bool)(h:cM l k (tr kd t n ks)):xJ (⟨b,l⟩,(k:Int),pat,⟨b2,l⟩,())=some (AZ (k+1+ks.size) (dH kd t n ks pat)):=xc (ks.size+1) fun N hN=>qyx b b2 l hl hg h pat N hN
theorem qra(b:Bool)(l:List ND)(hl:l.length<=10000)(hg:GL l){k:Nat}{kd:Int}{t:List Int}{n:Int}{ks:F}(pat:Bool)(h:cM l k (tr kd t n ks)):FQ (⟨b,l⟩,(k:Int),pat,())=some (dH kd t n ks pat,()):=xc (ks.size+1) fun N hN=>qvm b l hl hg h pat N hN
abbrev Tx:=List Int
def bK:List Tx->Bool
 |[]=>false
 |a::r=>decide (a∈r)||bK r
theorem Pt:∀l:List Tx,bK l=false↔l.Nodup
 |[]=>by simp[bK]
 |a::r=>by unfold bK;rw[List.nodup_cons,<-Pt r,Bool.or_eq_false_iff,decide_eq_false_iff_not]
def rF(l:List ND):List Tx:=l.filterMap fun x=>if x.1=22 then some x.2.1 else none
theorem qrb(a b:List ND):rF (a++b)=rF a++rF b:=List.filterMap_append ..
theorem qef(x:ND)(l:List ND):rF (x::l)=(if x.1=22 then [x.2.1] else [])++rF l:=by
 show List.filterMap _ (x::l)=_;rw[List.filterMap_cons];by_cases h:x.1=22
 ·rw[if_pos h,if_pos h];rfl
 ·rw[if_neg h,if_neg h];rfl
theorem qrc(l:List ND):(rF l).length<=l.length:=List.length_filterMap_le _ _
theorem qrd(b:Bool)(l:List ND)(hl:l.length<=10000):∀(m k:Nat) (nb:Bool) (out:List Tx),k+m=l.length->out.length<=k->∃uE,aG mf (⟨b,l⟩,(l.length:Int),(k:Int),⟨nb,out⟩,())=some (⟨uE,out++rF (l.drop k)⟩,()):=by
 intro m
 induction m with
 |zero=>intro k nb out hk _;refine⟨nb,dS ?_⟩;unfold mf;simp only;rw[dZ,if_neg om,zN om];show _=some (Sum.inr ((⟨nb,out++[]⟩:Sl Tx),()));rw[zE]
 |succ m ih=>
  intro k nb out hk ho;have hc:k<l.length:=om
  rw[rh hc,qef];have he:=aT (ze hc);by_cases h:l[k].1=22
  ·have hf:fit (aK (aa out) (aa [l[k].2.1]))=some ():=eM (by show out.length+1<=_;omega);have step:mf (⟨b,l⟩,(l.length:Int),(k:Int),⟨nb,out⟩,())=some (.inl (⟨b,l⟩,(l.length:Int),((k+1:Nat):Int),⟨false,out++[l[k].2.1]⟩,())):=by unfold mf;simp only;rw[dZ,if_pos om,he,aj,O1,if_pos h,hf,aj,aj,uD,aH om];rfl
   obtain⟨uE,h'⟩:=ih (k+1) false (out++[l[k].2.1]) om (by rw[zm,List.length_singleton];omega);refine⟨uE,?_⟩;rw[gH step,h',if_pos h,zD]
  ·have step:mf (⟨b,l⟩,(l.length:Int),(k:Int),⟨nb,out⟩,())=some (.inl (⟨b,l⟩,(l.length:Int),((k+1:Nat):Int),⟨nb,out⟩,())):=by unfold mf;simp only;rw[dZ,if_pos om,he,aj,O1,if_neg h,aj,aH om]
   obtain⟨uE,h'⟩:=ih (k+1) nb out om om;refine⟨uE,?_⟩;rw[gH step,h',if_neg h,List.nil_append]
theorem qre(b:Bool)(l:List ND)(hl:l.length<=10000):∃nb,sB (⟨b,l⟩,())=some (⟨nb,rF l⟩,()):=by rw[Td];exact qrd b l hl l.length 0 true [] om (Nat.le_refl _)
def uJ:List Tx->Bool
 |[]=>false
 |[_]=>false
 |a::b::r=>decide (a=b)||uJ (b::r)
theorem XF:∀l:List Tx,uJ l=true↔∃k,k+1<l.length/\l[k+1]?=l[k]?
 |[]=>by simp[uJ]
 |[a]=>by simp[uJ]
 |a::b::r=>by
  unfold uJ;rw[Bool.or_eq_true,decide_eq_true_eq,XF (b::r)];constructor
  ·rintro(h|⟨k,h1,h2⟩)
   ·exact⟨0,by simp,by simp[h]⟩
   ·exact⟨k+1,by simpa using h1,by simpa using h2⟩
  ·rintro⟨k,h1,h2⟩;cases k with
   |zero=>left;simpa using h2.symm
   |succ k=>right;exact⟨k,by simpa using h1,by simpa using h2⟩
theorem qp9(a b:Nat):aK (a:Int) (b:Int)=((a+b:Nat):Int):=by show(a:Int)+(b:Int)=_;omega
theorem Dx{α:Type}{l:List α}{i:Nat}(h:i<l.length):nth l i=some l[i]:=by unfold nth;exact ze h
theorem qrf(k0:Nat)(nb:Bool):∀(m k k2:Nat) (s:List Tx),s.length<=1000000->k0+k2+m=s.length->1<=k2->k+1<=k0+k2->∃c:List Tx,aG nQ ((k:Int),(k0:Int),(k2:Int),⟨nb,s⟩,())=some (.inr (⟨nb,c⟩,()))/\c.length<s.length:=by
 intro m
 induction m with
 |zero=>
  intro k k2 s hs h1 h2 h3;refine⟨(gK s (k:Int) []).take k,dS ?_,?_⟩
  ·have e1:aa (cJ s (k0:Int))=(k2:Int):=by unfold aa cJ;rw[zT,Int.toNat_natCast];omega
   have ez:(gK s (k:Int) ([]:Tx)).length=s.length:=by unfold gK;rw[zm,zJ,List.length_replicate,Int.toNat_natCast];omega
   unfold nQ;simp only[e1];rw[dZ,if_neg om];have c1:eC (aa s) (k:Int)=some k:=by unfold eC aa;rw[if_pos om,Int.toNat_natCast]
   have c2:eC (aa (gK s (k:Int) ([]:Tx))) (k:Int)=some k:=by unfold eC aa;rw[if_pos om,Int.toNat_natCast]
   rw[c1,aj,c2,aj];rfl
  ·rw[zJ];omega
 |succ m ih=>
  intro k k2 s hs h1 h2 h3;have e1:aa (cJ s (k0:Int))=((k2+m+1:Nat):Int):=by unfold aa cJ;rw[zT,Int.toNat_natCast];omega
  have e2:dK .i64 (k2:Int) 1=((k2-1:Nat):Int):=by rw[vm om om];omega
  have l1:a8 0 (k2:Int)=true:=zu om;have l2:a8 0 ((k2-1:Nat):Int)=true:=zu om;have step:∃(k':Nat) (s':List Tx),nQ ((k:Int),(k0:Int),(k2:Int),⟨nb,s⟩,())=some (.inl ((k':Int),(k0:Int),((k2+1:Nat):Int),⟨nb,s'⟩,()))/\s'.length=s.length/\k'+1<=k0+(k2+1):=by
   unfold nQ;simp only[e1];rw[dZ,if_pos om,e2,l1,l2,aI,aI,qp9,qp9,ri om,ri om];simp only[aj,Dx (show k0+k2<s.length by omega),Dx (show k0+(k2-1)<s.length by omega)];cases aS s[k0+k2] s[k0+(k2-1)] with
   |true=>refine⟨k,s,?_,rfl,by omega⟩;simp only[av,Bool.not_true,aF,aj,aH (show k2<=1000000000 by omega)]
   |false=>refine⟨k+1,s.set k s[k0+k2],?_,by rw[List.length_set],by omega⟩;simp only[av,Bool.not_false,aI,aj,ri (show k<s.length by omega),Dx (show k<s.length by omega),aH (show k2<=1000000000 by omega),aH (show k<=1000000000 by omega)];rfl
  obtain⟨k',s',h4,h5,h6⟩:=step;obtain⟨c,g1,g2⟩:=ih k' (k2+1) s' om om om h6;exact⟨c,by rw[gH h4,g1],by omega⟩
theorem ql0(nb:Bool)(s:List Tx)(hs:s.length<=1000000):∀(m k:Nat),k+m=s.length->1<=k->(∀j,j+1<k->s[j+1]?≠s[j]?)->∃c,aG nR ((k:Int),⟨nb,s⟩,())=some (⟨nb,c⟩,())/\decide (c.length<s.length)=uJ s:=by
 intro m
 induction m with
 |zero=>
  intro k h1 h2 h3;refine⟨s,dS ?_,?_⟩
  ·unfold nR;simp only;rw[dZ,if_neg (by unfold aa;omega)]
  ·have:uJ s=false:=by
    cases h:uJ s with
    |false=>rfl
    |true=>obtain⟨j,g1,g2⟩:=(XF s).1 h;exact absurd g2 (h3 j om)
   rw[this];exact zn (Nat.lt_irrefl _)
 |succ m ih=>
  intro k h1 h2 h3;have e2:dK .i64 (k:Int) 1=((k-1:Nat):Int):=by rw[vm om om];omega
  have hc:eC (aa s) (k:Int)=some k:=by unfold eC aa;rw[if_pos om,Int.toNat_natCast]
  by_cases he:s[k]=s[k-1]
  ·obtain⟨c,g1,g2⟩:=qrf k nb m k 1 s hs om (Nat.le_refl _) om;have g1:aG nQ ((k:Int),(k:Int),1,⟨nb,s⟩,())=some (.inr (⟨nb,c⟩,())):=g1;refine⟨c,dS ?_,?_⟩
   ·unfold nR;simp only;rw[dZ,if_pos (by unfold aa;omega),e2,ri om,ri om];simp only[aj,Dx (show k<s.length by omega),Dx (show k-1<s.length by omega),hc];rw[KN,if_pos he,g1]
   ·have:uJ s=true:=(XF s).2 ⟨k-1,by omega,by rw[show k-1+1=k by omega,ze om,ze om,he]⟩;rw[this];exact zu g2
  ·have step:nR ((k:Int),⟨nb,s⟩,())=some (.inl (((k+1:Nat):Int),⟨nb,s⟩,())):=by unfold nR;simp only;rw[dZ,if_pos (by unfold aa;omega),e2,ri om,ri om];simp only[aj,Dx (show k<s.length by omega),Dx (show k-1<s.length by omega)];rw[KN,if_neg he,aH om]
   obtain⟨c,g1,g2⟩:=ih (k+1) om om (fun j hj=>by
    by_cases hf:j+1=k
    ·have:j=k-1:=om
     subst this;rw[show k-1+1=k by omega,ze om,ze om];exact fun e=>he (zI e)
    ·exact h3 j om)
   exact⟨c,by rw[gH step,g1],g2⟩
theorem ql1(nb:Bool)(s:List Tx)(hs:s.length<=1000000):∃c,sD (⟨nb,s⟩,())=some (⟨nb,c⟩,())/\decide (c.length<s.length)=uJ s:=by
 rw[Te,dZ];by_cases h:aa s<2
 ·rw[if_pos h];refine⟨s,rfl,?_⟩;have:uJ s=false:=by
   have h:(s.length:Int)<2:=h
   match s,h with
   |[],_=>rfl
   |[a],_=>rfl
   |a::b::r,h=>simp at h;omega
  rw[this];exact zn (Nat.lt_irrefl _)
 ·rw[if_neg h];have h:¬(s.length:Int)<2:=h;exact ql0 nb s hs (s.length-1) 1 om (Nat.le_refl _) (fun j hj=>by omega)
theorem qgk:∀l:List Tx,(l.Pairwise fun a b=>(!strLt b a)=true)->uJ l=bK l
 |[],_=>rfl
 |[a],_=>by simp[uJ,bK]
 |a::b::r,h=>by
  have ih:=qgk (b::r) (List.pairwise_cons.1 h).2;unfold uJ;rw[ih]
  conv=>rhs;unfold bK
  by_cases hc:a=b
  ·simp[hc]
  ·have hm:a∉b::r:=by
    intro hm;rcases zt.1 hm with e|e
    ·exact hc e
    ·have h1:=(List.pairwise_cons.1 h).1 b (zf ..);have h2:=(List.pairwise_cons.1 (List.pairwise_cons.1 h).2).1 a e;simp only[Bool.not_eq_true'] at h1 h2;exact hc (Sm _ _ h2 h1)
   rw[zn hc,zn hm]
theorem qyy{a b:List Tx}(h:a.Perm b):bK a=bK b:=by have:=h.nodup_iff;rw[<-Pt,<-Pt] at this;cases ha:bK a<;>cases hb:bK b<;>simp_all
theorem z45(nb:Bool)(s:List Tx)(hs:s.length<=1000000)(hg:∀x,x∈s->vn x=true):∃c uE,ag (sC (⟨nb,s⟩,())) (fun x=>sD (x.1,()))=some (⟨uE,c⟩,())/\decide (c.length<s.length)=bK s:=by
 have e:sC (⟨nb,s⟩,())=some (⟨nb,s.mergeSort fun a b=>!strLt b a⟩,()):=by show(bif s.all vn&&decide (s.length<4611686018427387904) then _ else none)=_;rw[zO.2 hg,zu (show s.length<4611686018427387904 by omega)];rfl
 have hc:(s.mergeSort fun a b=>!strLt b a).length=s.length:=List.length_mergeSort _;obtain⟨c,h1,h2⟩:=ql1 nb (s.mergeSort fun a b=>!strLt b a) om;rw[e,aj];refine⟨c,nb,h1,?_⟩;rw[<-hc,h2,qgk,qyy (List.mergeSort_perm _ _)];refine List.pairwise_mergeSort (fun a b c h1 h2=>?_) (fun a b=>?_) _
 ·simp only[Bool.not_eq_true'] at h1 h2 ⊢;cases h3:strLt c a with
  |false=>rfl
  |true=>
   cases h4:strLt b c with
   |true=>rw[Sk _ _ _ h4 h3] at h1;cases h1
   |false=>have e:=Sm _ _ h2 h4;subst e;rw[h1] at h3;cases h3
 ·cases h3:strLt b a with
  |false=>rfl
  |true=>
   cases h4:strLt a b with
   |false=>rfl
   |true=>have:=Sk _ _ _ h3 h4;rw[qc7] at this;cases this
theorem cM.oT{l:List ND}{k:Nat}{f:F}(h:cM l k f):(l.drop k).take f.size=f.flat:=by obtain⟨post,h⟩:=h;rw[h,<-f.len,List.take_left'];rfl
theorem qyz{α:Type}(a c:List α)(h:a.length=c.length):pr a c=c:=by unfold pr;rw[h,List.take_length,<-h,List.drop_length,zE]
theorem qz0(b:Bool)(l:List ND)(hl:l.length<=10000){k:Nat}{kd:Int}{t:List Int}{n:Int}{ks r:F}(h:cM l k (.cons kd t n ks r)):sA (⟨b,l⟩,(k:Int),())=some (⟨false,(tr kd t n ks).flat⟩,0,()):=by
 obtain⟨g1,g2,g3,g4⟩:=h.node;rw[Tc,Jl b l hl,h.ends];have hs:dK .i64 ((k+1+ks.size:Nat):Int) (k:Int)=((ks.size+1:Nat):Int):=by rw[vm om om];omega
 have hm:rn ((ks.size+1:Nat):Int) ((ks.size+1:Nat):Int)=some (ks.size+1):=by unfold rn;rw[if_pos om,Int.toNat_natCast]
 have hc:bG l (k:Int) ((k+1+ks.size:Nat):Int)=some ((l.take (k+1+ks.size)).drop k):=by unfold bG;rw[if_pos om,Int.toNat_natCast,Int.toNat_natCast]
 have hd:(l.take (k+1+ks.size)).drop k=(tr kd t n ks).flat:=by rw[List.drop_take,show k+1+ks.size-k=(tr kd t n ks).size by rw[Dv];omega];exact h.first.oT
 simp only[aj];rw[dZ,if_neg om];simp only[hs,hm,aj,hc,hd];rw[qyz];rw[(tr kd t n ks).len,Dv];exact List.length_replicate
theorem GL.sub{l:List ND}(hg:GL l){k:Nat}{f:F}(h:cM l k f):GL f.flat:=by intro x hx;rw[<-h.oT] at hx;exact hg x (List.mem_of_mem_drop (List.mem_of_mem_take hx))
theorem qrg{l:List ND}(hg:GL l):∀x,x∈rF l->vn x=true:=by
 intro x hx;obtain⟨d,h1,h2⟩:=jB.1 hx;by_cases h:d.1=22
 ·rw[if_pos h] at h2;injection h2 with h2;subst h2;obtain⟨g1,g2,_⟩:=hg d h1;unfold vn;rw[zd,zO,decide_eq_true_eq];exact⟨fun b hb=>zu (g1 b hb),by omega⟩
 ·rw[if_neg h] at h2;cases h2
theorem qn0(b:Bool)(l:List ND)(hl:l.length<=10000)(hg:GL l){k:Nat}{kd:Int}{t:List Int}{n:Int}{ks r:F}(h:cM l k (.cons kd t n ks r)):pQ ((k:Int),⟨b,l⟩,())=some (bK (rF (tr kd t n ks).flat),()):=by
 obtain⟨g1,g2,g3,g4⟩:=h.node;rw[Tg,qz0 b l hl h];simp only[aj];have hc:(tr kd t n ks).flat.length<=10000:=by rw[(tr kd t n ks).len,Dv];omega
 obtain⟨nb,h1⟩:=qre false (tr kd t n ks).flat hc;have hn:=qrc (tr kd t n ks).flat
 obtain⟨c,uE,h2,h3⟩:=z45 nb (rF (tr kd t n ks).flat) om (qrg (hg.sub h.first));have h4:sE (⟨false,(tr kd t n ks).flat⟩,())=some (aa (rF (tr kd t n ks).flat),()):=by rw[Tf,h1];rfl
 rw[h1];simp only[aj,h4];cases hs:sC (⟨nb,rF (tr kd t n ks).flat⟩,()) with
 |none=>rw[hs] at h2;cases h2
 |some x=>rw[hs,aj] at h2;simp only[aj,h2];rw[<-h3];congr 2;exact decide_eq_decide.2 (by unfold aa;omega)
def Ai:F->List Tx
 |.nil=>[]
 |.cons kd t _ ks r=>(bif af kd 22 then [t] else Ai ks)++Ai r
def nA(kd:Int)(t:Tx)(ks:F):List Tx:=bif af kd 22 then [t] else Ai ks
theorem Mq(kd:Int)(t:Tx)(n:Int)(ks r:F):Ai (.cons kd t n ks r)=nA kd t ks++Ai r:=id (Eq.refl _)
theorem Pu:∀f:F,(Ai f).length<=f.size
 |.nil=>Nat.le_refl _
 |.cons kd t n ks r=>by
  have h1:=Pu ks;have h2:=Pu r;rw[Mq,zm];show _<=ks.size+r.size+1;unfold nA;cases af kd 22 with
  |true=>show 1+_<=_;omega
  |false=>show(Ai ks).length+_<=_;omega
theorem qz1(b:Bool)(l:List ND)(hl:l.length<=10000){k:Nat}{kd:Int}{t:List Int}{n:Int}{ks:F}(h:cM l k (tr kd t n ks)):∀N,ks.size+1<=N->bB l8 N (⟨b,l⟩,(k:Int),())=some (⟨false,nA kd t ks⟩,()):=by
 refine F.ic (l:=l) (P:=fun k kd t _ ks=>∀N,ks.size+1<=N->bB l8 N (⟨b,l⟩,(k:Int),())=some (⟨false,nA kd t ks⟩,())) ?_ h;clear h k kd t n ks;intro k kd t n ks hs he N hN;obtain⟨N,rfl⟩:∃m,N=m+1:=⟨N-1,by omega⟩;show l8 (bB l8 N) _=_;obtain⟨g1,g2,g3,g4⟩:=hs.node;rw[U5,aT g1];simp only[aj];unfold nA;cases hm:af kd 22 with
 |true=>rfl
 |false=>
  rw[aF,cond_false,HP b l hl hs,aj];have loop:∀(g:F) (q:Nat) (pre:List Int) (out:List Tx),g.oQ (fun k kd t _ ks=>∀N,ks.size+1<=N->bB l8 N (⟨b,l⟩,(k:Int),())=some (⟨false,nA kd t ks⟩,())) q->
    g.size<=N->pre++g.pos q=ks.pos (k+1)->out.length+g.size<=1000000->
    aG (nX (bB l8 N)) (⟨b,l⟩,⟨false,ks.pos (k+1)⟩,(pre.length:Int),⟨false,out⟩,())=some (⟨false,out++Ai g⟩,()):=by
   intro g
   induction g with
   |nil=>intro q pre out _ _ hp _;have hp:pre++[]=ks.pos (k+1):=hp;rw[zE] at hp;refine dS ?_;unfold nX;simp only;rw[dZ,if_neg (by rw[hp];unfold aa;omega)];show _=some (Sum.inr ((⟨false,out++[]⟩:Sl Tx),()));rw[zE]
   |cons nz t' n' bP r' _ ih=>
    intro q pre out hE hz hp ho;have hz:bP.size+r'.size+1<=N:=hz;have ho:out.length+(bP.size+r'.size+1)<=1000000:=ho;have hp:pre++(q:Int)::r'.pos (q+1+bP.size)=ks.pos (k+1):=hp;have hg:(ks.pos (k+1)).length=ks.aA:=ks.dX _;have hk:=congrArg List.length hp;rw[zm,zw,hg] at hk;have hc:=ks.cv;have hj:(ks.pos (k+1))[pre.length]?=some (q:Int):=by rw[<-hp];simp
    have hv:(nA nz t' bP).length<=bP.size+1:=by have:=Pu (tr nz t' n' bP);have e:Ai (tr nz t' n' bP)=nA nz t' bP++[]:=Mq ..;rw[e,zE,Dv] at this;exact this
    have hf:fit (aK (aa out) (aa (nA nz t' bP)))=some ():=eM om;have step:nX (bB l8 N) (⟨b,l⟩,⟨false,ks.pos (k+1)⟩,(pre.length:Int),⟨false,out⟩,())=some (.inl (⟨b,l⟩,⟨false,ks.pos (k+1)⟩,((pre.length+1:Nat):Int),⟨false,out++nA nz t' bP⟩,())):=by unfold nX;simp only;rw[dZ,if_pos (by unfold aa;rw[hg];omega),aT hj,aj,hE.1 N om,aj];simp only[hf,aj,aH (show pre.length<=1000000000 by omega),qgi];rfl
    have hi:=ih (q+1+bP.size) (pre++[(q:Int)]) (out++nA nz t' bP) hE.2 om (by rw[zD];exact hp) (by rw[zm];omega);rw[zm] at hi;have hi:aG (nX (bB l8 N)) (⟨b,l⟩,⟨false,ks.pos (k+1)⟩,((pre.length+1:Nat):Int),⟨false,out++nA nz t' bP⟩,())=_:=hi;rw[gH step,hi,zD];rfl
  exact loop ks (k+1) [] [] he om rfl (by show 0+ks.size<=_;omega)
theorem qvo(b:Bool)(l:List ND)(hl:l.length<=10000){k:Nat}{kd:Int}{t:List Int}{n:Int}{ks:F}(h:cM l k (tr kd t n ks)):y9 (⟨b,l⟩,(k:Int),())=some (⟨false,nA kd t ks⟩,()):=xc (ks.size+1) fun N hN=>qz1 b l hl h N hN
theorem z51(nb:Bool)(v:List Tx)(hv:v.length<=1000000)(i:Nat)(hi:i<v.length):∀(m j:Nat),j+m=i->∃r,aG mD ((i:Int),(j:Int),⟨nb,v⟩,())=some r/\((∃q,j<=q/\q<i/\v[q]?=v[i]?)/\r=.inr (true,())\/(∀q,j<=q->q<i->v[q]?≠v[i]?)/\r=.inl (((i+1:Nat):Int),⟨nb,v⟩,())):=by
 intro m
 induction m with
 |zero=>intro j hj;refine⟨_,dS ?_,.inr ⟨fun q h1 h2=>by omega,rfl⟩⟩;unfold mD;simp only;rw[dZ,if_neg om,aH om]
 |succ m ih=>
  intro j hj;have hc:mD ((i:Int),(j:Int),⟨nb,v⟩,())=if v[i]=v[j] then some (.inr (.inr (true,()))) else some (.inl ((i:Int),((j+1:Nat):Int),⟨nb,v⟩,())):=by unfold mD;simp only;rw[dZ,if_pos om,ri hi,ri om];simp only[aj,Dx hi,Dx (show j<v.length by omega)];rw[KN,aH om]
  by_cases h:v[i]=v[j]
  ·rw[if_pos h] at hc;exact⟨_,dS hc,.inl ⟨⟨j,Nat.le_refl _,by omega,by rw[ze hi,ze om,h]⟩,rfl⟩⟩
  ·rw[if_neg h] at hc;obtain⟨r,h1,h2⟩:=ih (j+1) om;refine⟨r,by rw[gH hc,h1],?_⟩;rcases h2 with ⟨⟨q,e1,e2,e3⟩,e4⟩|⟨e1,e2⟩
   ·exact .inl ⟨⟨q,by omega,e2,e3⟩,e4⟩
   ·refine .inr ⟨fun q h3 h4=>?_,e2⟩;by_cases hq:q=j
    ·subst hq;rw[ze hi,ze om];exact fun e=>h (zI e).symm
    ·exact e1 q om h4
theorem z2e(nb:Bool)(v:List Tx)(hv:v.length<=1000000):∀(m i:Nat),i+m=v.length->(∀a c:Nat,a<c->c<i->v[a]?≠v[c]?)->aG qU ((i:Int),⟨nb,v⟩,())=some (bK v,()):=by
 have hf:bK v=true↔∃a c:Nat,a<c/\c<v.length/\v[a]?=v[c]?:=by
  have key:v.Nodup↔∀i j:Nat,i<j->j<v.length->v[i]?≠v[j]?:=by
   unfold List.Nodup;rw[List.pairwise_iff_getElem];constructor
   ·intro h i j hg hj e;rw[ze (show i<v.length by omega),ze hj] at e;exact h i j om hj hg (zI e)
   ·intro h i j hi hj hg e;exact h i j hg hj (by rw[ze hi,ze hj,e])
  have:=(Pt v).trans key;constructor
  ·intro h;apply zK;intro hn;have hh:bK v=false:=this.2 fun i j hg hj e=>hn ⟨i,j,hg,hj,e⟩;rw[h] at hh;cases hh
  ·rintro⟨a,c,h1,h2,h3⟩;cases hd:bK v with
   |true=>rfl
   |false=>exact absurd h3 (this.1 hd a c h1 h2)
 intro m
 induction m with
 |zero=>
  intro i hi hk;refine dS ?_;unfold qU;simp only;rw[dZ,if_neg (by unfold aa;omega)];cases hd:bK v with
  |false=>rfl
  |true=>obtain⟨a,c,h1,h2,h3⟩:=hf.1 hd;exact absurd h3 (hk a c h1 om)
 |succ m ih=>
  intro i hi hk;obtain⟨r,h1,h2⟩:=z51 nb v hv i om i 0 om;have h1:aG mD ((i:Int),0,⟨nb,v⟩,())=some r:=h1;have he:qU ((i:Int),⟨nb,v⟩,())=aG mD ((i:Int),0,⟨nb,v⟩,()):=by unfold qU;simp only;rw[dZ,if_pos (by unfold aa;omega)]
  rw[h1] at he;rcases h2 with ⟨⟨q,e1,e2,e3⟩,e4⟩|⟨e1,e2⟩
  ·subst e4;rw[dS he,hf.2 ⟨q,i,e2,by omega,e3⟩]
  ·subst e2;rw[gH he,ih (i+1) om (fun a c h3 h4=>by
    by_cases hc:c=i
    ·subst hc;exact e1 a om h3
    ·exact hk a c h3 om)]
def A0:F->Bool
 |.nil=>false
 |.cons kd t _ ks r=>(bif iJ kd then bK (nA kd t ks) else A0 ks)||A0 r
def oa(kd:Int)(t:Tx)(ks:F):Bool:=bif iJ kd then bK (nA kd t ks) else A0 ks
theorem XG(kd:Int)(t:Tx)(n:Int)(ks r:F):A0 (.cons kd t n ks r)=(oa kd t ks||A0 r):=id (Eq.refl _)
theorem qvp(b:Bool)(l:List ND)(hl:l.length<=10000){k:Nat}{kd:Int}{t:List Int}{n:Int}{ks:F}(h:cM l k (tr kd t n ks)):∀N,ks.size+1<=N->bB l9 N (⟨b,l⟩,(k:Int),())=some (oa kd t ks,()):=by
 refine F.ic (l:=l) (P:=fun k kd t _ ks=>∀N,ks.size+1<=N->bB l9 N (⟨b,l⟩,(k:Int),())=some (oa kd t ks,())) ?_ h;clear h k kd t n ks;intro k kd t n ks hs he N hN;obtain⟨N,rfl⟩:∃m,N=m+1:=⟨N-1,by omega⟩;show l9 (bB l9 N) _=_;obtain⟨g1,g2,g3,g4⟩:=hs.node;rw[U6,aT g1];simp only[aj,qgj];unfold oa;cases iJ kd with
 |true=>
  rw[aI,cond_true,qvo b l hl hs,aj];have hv:(nA kd t ks).length<=ks.size+1:=by have:=Pu (tr kd t n ks);have e:Ai (tr kd t n ks)=nA kd t ks++[]:=Mq ..;rw[e,zE,Dv] at this;exact this
  exact z2e false (nA kd t ks) om _ 0 (zL _) (fun a c h1 h2=>by omega)
 |false=>
  rw[aF,cond_false,HP b l hl hs,aj];have loop:∀(g:F) (q:Nat) (pre:List Int),g.oQ (fun k kd t _ ks=>∀N,ks.size+1<=N->bB l9 N (⟨b,l⟩,(k:Int),())=some (oa kd t ks,())) q->
    g.size<=N->pre++g.pos q=ks.pos (k+1)->
    aG (nY (bB l9 N)) (⟨b,l⟩,⟨false,ks.pos (k+1)⟩,(pre.length:Int),())=some (A0 g,()):=by
   intro g
   induction g with
   |nil=>intro q pre _ _ hp;have hp:pre++[]=ks.pos (k+1):=hp;rw[zE] at hp;refine dS ?_;unfold nY;simp only;rw[dZ,if_neg (by rw[hp];unfold aa;omega)];rfl
   |cons nz t' n' bP r' _ ih=>
    intro q pre hE hz hp;have hz:bP.size+r'.size+1<=N:=hz;have hp:pre++(q:Int)::r'.pos (q+1+bP.size)=ks.pos (k+1):=hp;have hf:(ks.pos (k+1)).length=ks.aA:=ks.dX _;have hj:=congrArg List.length hp;rw[zm,zw,hf] at hj;have hc:=ks.cv;have hg:(ks.pos (k+1))[pre.length]?=some (q:Int):=by rw[<-hp];simp
    have step:nY (bB l9 N) (⟨b,l⟩,⟨false,ks.pos (k+1)⟩,(pre.length:Int),())=
      aq (oa nz t' bP) (some (.inr (true,()))) (some (.inl (⟨b,l⟩,⟨false,ks.pos (k+1)⟩,((pre.length+1:Nat):Int),()))):=by
     unfold nY;simp only;rw[dZ,if_pos (by unfold aa;rw[hf];omega),aT hg,aj,hE.1 N om,aj,aH om]
    rw[XG];cases ht:oa nz t' bP with
    |true=>rw[ht,aI] at step;rw[dS step];rfl
    |false=>rw[ht,aF] at step;have hi:=ih (q+1+bP.size) (pre++[(q:Int)]) hE.2 om (by rw[zD];exact hp);rw[zm] at hi;have hi:aG (nY (bB l9 N)) (⟨b,l⟩,⟨false,ks.pos (k+1)⟩,((pre.length+1:Nat):Int),())=_:=hi;rw[gH step,hi];rfl
  exact loop ks (k+1) [] he om rfl
theorem qrh(b:Bool)(l:List ND)(hl:l.length<=10000){k:Nat}{kd:Int}{t:List Int}{n:Int}{ks:F}(h:cM l k (tr kd t n ks)):FR (⟨b,l⟩,(k:Int),())=some (oa kd t ks,()):=xc (ks.size+1) fun N hN=>qvp b l hl h N hN
theorem XH{a b:Int}:(bif av (af a 0) then a else b)=0↔a=0/\b=0:=by
 cases h:af a 0 with
 |true=>have:=cu.1 h;rw[nT,cond_false];exact⟨fun e=>⟨this,e⟩,fun e=>e.2⟩
 |false=>
  have hn:a≠0:=fun e=>by rw[e] at h;cases h
  rw[nF,cond_true];exact⟨fun e=>absurd e hn,fun e=>absurd e.1 hn⟩
theorem iE{kd:Int}{t:Tx}{n:Int}{ks:F}{pat:Bool}:dH kd t n ks pat=0↔eN kd t n (ks.aA:Int) ks.head pat=0/\fL (af kd 10) pat false ks=0:=XH
theorem iF{m pat jR:Bool}{kd:Int}{t:Tx}{n:Int}{ks r:F}:fL m pat jR (.cons kd t n ks r)=0↔dH kd t n ks (pat||(m&&jR))=0/\fL m pat (!jR) r=0:=by rw[XE];exact XH
def Pv(k n:Int):Bool:=bif af k 1||af k 23 then uF n else af n 0
def XI(k:Int)(t:Tx):Bool:=(bif af (gJ k) 0 then aS t [] else bif af (gJ k) 3 then av (aB 200 (aa t)) else true)&&av (af (gJ k) 1&&av (bF t))&&av (af (gJ k) 2&&av (gI t))
def XJ(k hk:Int):Bool:=av (af k 8&&av (af hk 5))
theorem qri(k:Int)(t:Tx)(hk:Int):mT k t hk=0↔XI k t=true/\XJ k hk=true:=by unfold mT ny XI XJ;generalize (af k 8&&av (af hk 5))=T;generalize af (gJ k) 0=s0;generalize af (gJ k) 1=s1;generalize af (gJ k) 2=s2;generalize af (gJ k) 3=s3;generalize aS t []=a;generalize aB 200 (aa t)=c;generalize bF t=d;generalize gI t=e;revert T s0 s1 s2 s3 a c d e;decide
theorem fM{k:Int}{t:Tx}{n c hk:Int}{pat:Bool}:eN k t n c hk pat=0↔aB (gJ k) 0=false/\iJ k=pat/\kX k c=true/\Pv k n=true/\XI k t=true/\XJ k hk=true:=by
 rw[<-qri];have e:eN k t n c hk pat=bif aB (gJ k) 0 then 61 else bif av (fh (iJ k) pat) then 61 else bif av (kX k c) then 61 else bif Pv k n then mT k t hk else 61:=by unfold eN Pv;cases (af k 1||af k 23)<;>rfl
 rw[e];cases aB (gJ k) 0 with
 |true=>simp
 |false=>
  have hp:fh (iJ k) pat=true↔iJ k=pat:=by cases iJ k<;>cases pat<;>decide
  cases h1:fh (iJ k) pat with
  |false=>
   have:iJ k≠pat:=fun e=>by rw[hp.2 e] at h1;cases h1
   simp[nF,this]
  |true=>
   rw[nT,cond_false,cond_false];have:=hp.1 h1;cases kX k c with
   |false=>simp[nF]
   |true=>
    rw[nT,cond_false];cases Pv k n with
    |false=>simp
    |true=>simp[this]
theorem z2g{k c:Int}(h:kX k c=true):(k=5\/k=11->c=1)/\(k=6\/k=7\/k=8\/k=12->c=2)/\(k=9->c=3)/\(k=10->3<=c/\c % 2=1)/\(k=1\/k=2\/k=3\/k=4\/k=21\/k=22\/k=23->c=0):=by
 refine⟨?_,?_,?_,?_,?_⟩
 ·rintro(rfl|rfl)<;>exact cu.1 h
 ·rintro(rfl|rfl|rfl|rfl)<;>exact cu.1 h
 ·rintro rfl;exact cu.1 h
 ·rintro rfl;have h:(a8 3 c&&af (c % 2) 1)=true:=h;rw[zd,cu] at h;exact⟨zP h.1,h.2⟩
 ·rintro(rfl|rfl|rfl|rfl|rfl|rfl|rfl)<;>exact cu.1 h
theorem qpa{f:F}(h:(f.aA:Int)=0):f=.nil:=by
 cases f with
 |nil=>rfl
 |cons _ _ _ _ r=>have h:((r.aA+1:Nat):Int)=0:=h;omega
theorem XK:∀(f:F) (m pat jR:Bool),fL m pat jR f=0->rF f.flat=Ai f
 |.nil,_,_,_,_=>rfl
 |.cons kd t n ks r,m,pat,jR,h=>by
  obtain⟨h1,h2⟩:=iF.1 h;obtain⟨h3,h4⟩:=iE.1 h1;have i1:=XK ks _ _ _ h4;have i2:=XK r _ _ _ h2;show rF ((kd,t,n,(ks.aA:Int))::(ks.flat++r.flat))=_;rw[qef,qrb,i1,i2,Mq];unfold nA;by_cases hc:kd=22
  ·subst hc;have:=(z2g (fM.1 h3).2.2.1).2.2.2.2 om;rw[qpa this,if_pos rfl];rfl
  ·rw[if_neg hc,pD hc];rfl
theorem ql2{kd:Int}{t:Tx}{n:Int}{ks:F}{pat:Bool}(h:dH kd t n ks pat=0):rF (tr kd t n ks).flat=nA kd t ks:=by have h':fL false pat false (tr kd t n ks)=0:=iF.2 ⟨by rw[Bool.false_and,Bool.or_false];exact h,rfl⟩;rw[XK _ _ _ _ h',Mq];exact zE _
theorem qz3(b:Bool)(l:List ND)(hl:l.length<=10000)(hg:GL l):∀(f:F) (q:Nat) (m pat jR:Bool),cM l q f->q<=l.length->fL m pat jR f=0->aG jN ((q:Int),⟨b,l⟩,())=bif A0 f then some (63,()) else aG jN (((q+f.size:Nat):Int),⟨b,l⟩,()):=by
 intro f
 induction f with
 |nil=>intro q m pat jR _ _ _;rfl
 |cons kd t n ks r mZ nc=>
  intro q m pat jR hs hq he;obtain⟨g1,g2,g3,g4⟩:=hs.node;obtain⟨h1,h2⟩:=iF.1 he;obtain⟨h3,h4⟩:=iE.1 h1;rw[XG];have esz:q+(F.cons kd t n ks r).size=q+1+ks.size+r.size:=by show q+(ks.size+r.size+1)=_;omega
  rw[esz];have rest:=nc (q+1+ks.size) m pat (!jR) g3 om h2;cases hp:iJ kd with
  |true=>
   have hT:oa kd t ks=bK (nA kd t ks):=by unfold oa;rw[hp];rfl
   have hc:=qn0 b l hl hg hs;rw[ql2 h1,<-hT] at hc;have step:jN ((q:Int),⟨b,l⟩,())=bif oa kd t ks then some (.inr (63,())) else some (.inl (((q+1+ks.size:Nat):Int),⟨b,l⟩,())):=by
    unfold jN;simp only;rw[dZ,if_pos (by unfold aa;omega),aT g1];simp only[aj,pg,hp,nT,aF,hc];cases oa kd t ks with
    |true=>rfl
    |false=>
     rw[aF,Jl b l hl,hs.ends];simp only[aj];have e1:dK .i64 ((q+1+ks.size:Nat):Int) 1=((q+ks.size:Nat):Int):=by rw[vm om om];omega
     rw[e1];show some (Sum.inl (ar .i64 ((q+ks.size:Nat):Int) 1,_,()))=_;rw[aH om,show q+ks.size+1=q+1+ks.size by omega];rfl
   cases ht:oa kd t ks with
   |true=>rw[ht,cond_true] at step;rw[dS step];rfl
   |false=>rw[ht,cond_false] at step;rw[gH step,rest];rfl
  |false=>
   have hT:oa kd t ks=A0 ks:=by unfold oa;rw[hp];rfl
   have step:jN ((q:Int),⟨b,l⟩,())=some (.inl (((q+1:Nat):Int),⟨b,l⟩,())):=by unfold jN;simp only;rw[dZ,if_pos (by unfold aa;omega),aT g1];simp only[aj,pg,hp,nF,aI];show some (Sum.inl (ar .i64 (q:Int) 1,_,()))=_;rw[aH om]
   rw[gH step,mZ (q+1) _ _ _ g2 om h4,hT];cases A0 ks with
   |true=>rfl
   |false=>rw[cond_false,rest];rfl
def mG(kd:Int)(t:Tx)(n:Int)(ks:F)(pat:Bool):Int:=bif aB 100 ((ks.dep+1:Nat):Int) then 60 else bif av (af (dH kd t n ks pat) 0) then dH kd t n ks pat else bif oa kd t ks then 63 else 0
theorem qrj(b:Bool)(kd:Int)(t:Tx)(n:Int)(ks:F)(pat:Bool)(hl:ks.size+1<=4000)(hg:GL (tr kd t n ks).flat):sF (⟨b,(tr kd t n ks).flat⟩,pat,())=some (mG kd t n ks pat,()):=by
 have hc:(tr kd t n ks).flat.length=ks.size+1:=(tr kd t n ks).len;have hs:=Ey kd t n ks;rw[Lv,Pq b _ om,(Jm _).2 ⟨kd,t,n,ks,rfl⟩,qvh b kd t n ks om];have hw:=qvn b b _ om hg pat hs;have h0:((0:Nat):Int)=0:=rfl;rw[h0] at hw;have c0:aB 4000 (aa (tr kd t n ks).flat)=false:=zn (by unfold aa;omega);simp only[c0,aF,aj,nT,hw];unfold mG;cases aB 100 ((ks.dep+1:Nat):Int) with
 |true=>rfl
 |false=>
  rw[aF,cond_false];unfold AZ;cases hv:af (dH kd t n ks pat) 0 with
  |false=>rw[cond_false,nF];show aq (av (af (dH kd t n ks pat) 0)) _ _=_;rw[hv];rfl
  |true=>
   rw[cond_true,nT,cond_false];show aG jN (0,_,())=_;have hz:=cu.1 hv;have:=qz3 b (tr kd t n ks).flat om hg (tr kd t n ks) 0 false pat false hs om (iF.2 ⟨by rw[Bool.false_and,Bool.or_false];exact hz,rfl⟩);rw[h0,XG] at this;rw[this];have hf:A0 .nil=false:=rfl;rw[hf,Bool.or_false];cases oa kd t ks with
   |true=>rfl
   |false=>rw[cond_false,cond_false];refine dS ?_;unfold jN;simp only;rw[dZ,if_neg (by unfold aa;rw[hc,Dv];omega)]
theorem qn1(b:Bool)(kd:Int)(t:Tx)(n:Int)(ks:F)(pat:Bool)(hl:ks.size+1<=4000)(hg:GL (tr kd t n ks).flat):tg (⟨b,(tr kd t n ks).flat⟩,pat,())=some (mG kd t n ks pat,()):=by
 have hc:(tr kd t n ks).flat.length=ks.size+1:=(tr kd t n ks).len;have hs:=Ey kd t n ks;have hd:=qr5 b _ om hs;have hw:=qra b _ om hg pat hs;have ht:=qrh b _ om hs;have h0:((0:Nat):Int)=0:=rfl;rw[h0] at hw hd ht;rw[LC,Xz b _ om,(Jm _).2 ⟨kd,t,n,ks,rfl⟩];have c0:aB 4000 (aa (tr kd t n ks).flat)=false:=zn (by unfold aa;omega);simp only[c0,aF,aj,nT,hw,hd,ht];unfold mG;cases aB 100 ((ks.dep+1:Nat):Int) with
 |true=>rfl
 |false=>
  rw[aF,cond_false];cases av (af (dH kd t n ks pat) 0) with
  |true=>rfl
  |false=>cases oa kd t ks<;>rfl
theorem qrk(b:Bool)(l:List ND)(hl:l.length<=4000)(pat:Bool)(h:uC l=false):sF (⟨b,l⟩,pat,())=some (60,()):=by rw[Lv,Pq b _ om,h];have c0:aB 4000 (aa l)=false:=zn (by unfold aa;omega);simp only[c0,aF,aj,nF,aI]
theorem qn2(b:Bool)(l:List ND)(hl:l.length<=4000)(pat:Bool)(h:uC l=false):tg (⟨b,l⟩,pat,())=some (60,()):=by rw[LC,Xz b _ om,h];have c0:aB 4000 (aa l)=false:=zn (by unfold aa;omega);simp only[c0,aF,aj,nF,aI]
theorem z2h(l:List ND):uC l=false\/∃kd t n ks,l=(tr kd t n ks).flat:=by
 cases h:uC l with
 |false=>exact .inl rfl
 |true=>exact .inr ((Jm l).1 h)
theorem qz4(b:Bool)(kd:Int)(t:Tx)(n:Int)(ks:F)(hl:ks.size+1<=4000)(hg:GL (tr kd t n ks).flat):lR (⟨b,(tr kd t n ks).flat⟩,())=some (mG kd t n ks true,()):=by rw[Lw,qrj b kd t n ks true hl hg];rfl
theorem qz5(b:Bool)(l:List ND)(hl:l.length<=4000)(h:uC l=false):lR (⟨b,l⟩,())=some (60,()):=by rw[Lw,qrk b l hl true h];rfl
theorem uK{kd:Int}{t:Tx}{n:Int}{ks:F}{pat:Bool}:mG kd t n ks pat=0↔ks.dep+1<=100/\dH kd t n ks pat=0/\oa kd t ks=false:=by
 unfold mG;cases h:aB 100 ((ks.dep+1:Nat):Int) with
 |true=>
  have:=zP h;rw[cond_true];constructor
  ·intro e;cases e
  ·rintro⟨e,_⟩;omega
 |false=>
  have:=of_decide_eq_false h;rw[cond_false,XH];constructor
  ·rintro⟨e1,e2⟩;refine⟨by omega,e1,?_⟩;cases ht:oa kd t ks with
   |false=>rfl
   |true=>rw[ht] at e2;cases e2
  ·rintro⟨_,e1,e2⟩;refine⟨e1,?_⟩;rw[e2];rfl
theorem cE{α:Type}{l:List α}{k:Nat}{x:α}(h:l[k]?=some x):aB (k:Int) (aa l)=true:=by have:=(zB.1 h).1;exact zu (by unfold aa;omega)
theorem cQ{α:Type}(l:List α):aB ((l.length:Nat):Int) (aa l)=false:=zn (by unfold aa;omega)
theorem HQ{α β:Type}{x:Option α}{a:α}(h:x=some a)(f:α->Option β):ag x f=f a:=by rw[h,aj]
theorem fc{α:Type}{l:List α}{k:Nat}{x:α}(h:l[k]?=some x):k<l.length:=(zB.1 h).1
def scan{α ρ:Type}(stop:Nat->α->Option ρ)(R:ρ):Nat->List α->ρ
 |_,[]=>R
 |k,x::r=>match stop k x with
  |some y=>y
  |none=>scan stop R (k+1) r
theorem j4{σ ρ α:Type}(f:σ->Option (σ⊕ρ))(S:Int->σ)(l:List α)(hl:l.length<=1000000)(stop:Nat->α->Option ρ)(R:ρ)(he:∀(k:Nat) x,l[k]?=some x->k<=1000000->f (S k)=some (match stop k x with|some y=>.inr y|none=>.inl (S ((k+1:Nat):Int))))(hf:f (S ((l.length:Nat):Int))=some (.inr R)):aG f (S 0)=some (scan stop R 0 l):=by
 have aux:∀(r:List α) (k:Nat),l.drop k=r->k<=l.length->aG f (S k)=some (scan stop R k r):=by
  intro r
  induction r with
  |nil=>
   intro k h hk;have:l.length<=k:=List.drop_eq_nil_iff.1 h;obtain rfl:k=l.length:=om
   exact dS hf
  |cons x r ih=>
   intro k h hk;have hg:k<l.length:=by
    rcases Nat.lt_or_ge k l.length with h2|h2
    ·exact h2
    ·rw[zN h2] at h;cases h
   rw[rh hg] at h;injection h with h1 h2;have hx:l[k]?=some x:=by rw[ze hg,h1]
   have hs:=he k x hx om;unfold scan;cases hc:stop k x with
   |some y=>rw[hc] at hs;exact dS hs
   |none=>rw[hc] at hs;rw[gH hs];exact ih (k+1) h2 om
 exact aux l 0 rfl (Nat.zero_le _)
def fg{α:Type}(p:α->Bool):Nat->List α->Int
 |_,[]=>-1
 |k,x::r=>bif p x then(k:Int) else fg p (k+1) r
theorem z2i{τ α:Type}{O:Int->τ}{p:α->Bool}(r:List α)(k:Nat):scan (fun k x=>bif p x then some (O k) else none) (O (-1)) k r=O (fg p k r):=by
 induction r generalizing k with
 |nil=>rfl
 |cons x r ih=>
  unfold scan fg;cases p x with
  |true=>rfl
  |false=>exact ih (k+1)
theorem ph{σ τ α:Type}(f:σ->Option (σ⊕τ))(S:Int->σ)(O:Int->τ)(l:List α)(hl:l.length<=1000000)(p:α->Bool)(hc:∀(k:Nat) x,l[k]?=some x->k<=1000000->f (S k)=some (bif p x then .inr (O k) else .inl (S ((k+1:Nat):Int))))(he:f (S ((l.length:Nat):Int))=some (.inr (O (-1)))):aG f (S 0)=some (O (fg p 0 l)):=by have h:=j4 f S l hl (fun k x=>bif p x then some (O k) else none) (O (-1)) (fun k x hx hk=>by rw[hc k x hx hk];cases p x<;>rfl) he;rw[h,z2i]
theorem wE{α:Type}(p:α->Bool)(l:List α)(k:Nat):a8 0 (fg p k l)=l.any p:=by
 induction l generalizing k with
 |nil=>rfl
 |cons x r ih=>
  unfold fg;rw[List.any_cons];cases p x with
  |true=>exact zu (by show(0:Int)<=(k:Int);omega)
  |false=>exact ih (k+1)
theorem z0j{α:Type}(p:α->Bool)(l:List α)(k:Nat):aB (fg p k l) 0=!l.any p:=by
 rw[<-wE p l k];generalize fg p k l=z;unfold aB a8;by_cases h:z<0
 ·rw[zu h,zn om];rfl
 ·rw[zn h,zu om];rfl
theorem Jo{α:Type}(p:α->Bool):∀(l:List α) (k:Nat),l.any p=true->∃(i:Nat) (x:α),fg p k l=((k+i:Nat):Int)/\l[i]?=some x/\p x=true/\l.find? p=some x
 |[],_,h=>by cases h
 |x::r,k,h=>by
  unfold fg;rw[List.any_cons] at h;cases hp:p x with
  |true=>exact⟨0,x,rfl,rfl,hp,by rw[List.find?_cons_of_pos hp]⟩
  |false=>rw[hp] at h;obtain⟨i,y,h1,h2,h3,h4⟩:=Jo p r (k+1) h;refine⟨i+1,y,?_,h2,h3,by rw[List.find?_cons_of_neg (by rw[hp];exact Bool.false_ne_true)];exact h4⟩;show fg p (k+1) r=_;rw[h1];congr 1;omega
theorem qpb{α:Type}(p:α->Bool)(l:List α)(k:Nat)(h:l.any p=false):fg p k l=-1:=by
 induction l generalizing k with
 |nil=>rfl
 |cons x r ih=>unfold fg;rw[List.any_cons,Bool.or_eq_false_iff] at h;rw[h.1];exact ih (k+1) h.2
def Mr{α β ρ:Type}(g:Nat->β->α->β⊕ρ)(fin:β->ρ):Nat->β->List α->ρ
 |_,a,[]=>fin a
 |k,a,x::r=>match g k a x with
  |.inl a'=>Mr g fin (k+1) a' r
  |.inr y=>y
theorem qrl{σ ρ α β:Type}(f:σ->Option (σ⊕ρ))(S:Int->β->σ)(l:List α)(g:Nat->β->α->β⊕ρ)(fin:β->ρ)(I:Nat->β->Prop)(a0:β)(h0:I 0 a0)(he:∀(k:Nat) x a,l[k]?=some x->I k a->f (S k a)=some (match g k a x with|.inl a'=>.inl (S ((k+1:Nat):Int) a')|.inr y=>.inr y)/\∀a',g k a x=.inl a'->I (k+1) a')(hf:∀a,I l.length a->f (S ((l.length:Nat):Int) a)=some (.inr (fin a))):aG f (S 0 a0)=some (Mr g fin 0 a0 l):=by
 have aux:∀(r:List α) (k:Nat) (a:β),l.drop k=r->k<=l.length->I k a->aG f (S k a)=some (Mr g fin k a r):=by
  intro r
  induction r with
  |nil=>
   intro k a h hk hi;have:l.length<=k:=List.drop_eq_nil_iff.1 h;obtain rfl:k=l.length:=om
   exact dS (hf a hi)
  |cons x r ih=>
   intro k a h hk hi;have hg:k<l.length:=by
    rcases Nat.lt_or_ge k l.length with h2|h2
    ·exact h2
    ·rw[zN h2] at h;cases h
   rw[rh hg] at h;injection h with h1 h2;have hx:l[k]?=some x:=by rw[ze hg,h1]
   obtain⟨hs,hj⟩:=he k x a hx hi;unfold Mr;cases hc:g k a x with
   |inr y=>rw[hc] at hs;exact dS hs
   |inl a'=>rw[hc] at hs;rw[gH hs];exact ih (k+1) a' h2 om (hj a' hc)
 exact aux l 0 a0 rfl (Nat.zero_le _) h0
theorem qvs{α β ρ:Type}(g:β->α->β)(fin:β->ρ)(l:List α)(k:Nat)(a:β):Mr (fun _ a x=>.inl (g a x)) fin k a l=fin (l.foldl g a):=by
 induction l generalizing k a with
 |nil=>rfl
 |cons x r ih=>exact ih (k+1) (g a x)
theorem rG{σ ρ α β:Type}(f:σ->Option (σ⊕ρ))(S:Int->β->σ)(l:List α)(g:β->α->β)(fin:β->ρ)(I:Nat->β->Prop)(a0:β)(h0:I 0 a0)(hc:∀(k:Nat) x a,l[k]?=some x->I k a->f (S k a)=some (.inl (S ((k+1:Nat):Int) (g a x)))/\I (k+1) (g a x))(he:∀a,I l.length a->f (S ((l.length:Nat):Int) a)=some (.inr (fin a))):aG f (S 0 a0)=some (fin (l.foldl g a0)):=by rw[qrl f S l (fun _ a x=>.inl (g a x)) fin I a0 h0 (fun k x a hx hi=>⟨(hc k x a hx hi).1,fun a' e=>by injection e with e;rw[<-e];exact(hc k x a hx hi).2⟩) he,qvs]
theorem dU{a b:List Int}:aS a b=true↔a=b:=by simp[aS]
def fN(x:ND):Bool:=bif af x.1 31 then af x.2.2.2 0&&(aS x.2.1 []&&(a8 0 x.2.2.1&&a8 x.2.2.1 1048576)) else
 af x.1 32&&(af x.2.2.1 0&&(bif aS x.2.1 [45,62] then af x.2.2.2 2 else bif aS x.2.1 [105,110,116]||aS x.2.1 [116,101,120,116] then af x.2.2.2 0 else bif aS x.2.1 [114,101,102] then af x.2.2.2 1 else gI x.2.1&&a8 x.2.2.2 8))
theorem qn3(x:ND)(hx:Mp x):sI (x,())=some (fN x,()):=by
 obtain⟨a,t,n,c⟩:=x;have hl:=Xw t hx.1;rw[Tk];unfold fN;simp only;cases h1:af a 31 with
 |true=>cases af c 0<;>cases aS t []<;>cases a8 0 n<;>cases a8 n 1048576<;>rfl
 |false=>
  cases h2:af a 32 with
  |false=>rfl
  |true=>
   cases h3:af n 0 with
   |false=>rfl
   |true=>
    cases h4:aS t [45,62] with
    |true=>rfl
    |false=>
     cases h5:aS t [105,110,116] with
     |true=>rfl
     |false=>
      cases h6:aS t [116,101,120,116] with
      |true=>rfl
      |false=>
       cases h7:aS t [114,101,102] with
       |true=>simp only[nT,aF,aI,aj,h7];rfl
       |false=>simp only[nT,aF,aj,cond_false,hl,Bool.true_and,Bool.false_or,h7];unfold gI;cases pf kW t<;>rfl
def jS(l:List ND):Bool:=decide (l.length<=4000)&&(uC l&&l.all fN)
theorem XL(b:Bool)(l:List ND)(hl:l.length<=1000000)(hg:GL l):sK (⟨b,l⟩,())=some (!l.all fN,()):=by
 have e:aG qh (⟨b,l⟩,aa l,0,())=some (fg (fun x=>!fN x) 0 l,()):=by
  refine ph qh (fun k=>(⟨b,l⟩,aa l,k,())) (fun z=>(z,())) l hl (fun x=>!fN x) ?_ ?_
  ·intro k x hx hk;obtain⟨a,t,n,c⟩:=x;unfold qh;simp only[cE hx,aI,aT hx,aj,Tl,qn3 _ (hg.at hx),aH (show k<=1000000000 by omega),av];cases fN (a,t,n,c)<;>rfl
  ·unfold qh;simp only[cQ,aF]
 rw[To,Tm];refine(HQ e _).trans ?_;rw[wE,List.not_all_eq_any_not]
theorem qvt(l:List ND):aB 4000 (aa l)=!decide (l.length<=4000):=by
 unfold aB aa;by_cases e:l.length<=4000
 ·rw[zu e,zn om];rfl
 ·rw[zn e,zu om];rfl
theorem Pw(b:Bool)(l:List ND)(hl:l.length<=10000)(hg:GL l):lS (⟨b,l⟩,())=some (bif jS l then 0 else 90,()):=by rw[Tp,XL b l om hg,Pq b l hl];simp only[qvt];unfold jS;cases decide (l.length<=4000)<;>cases uC l<;>cases l.all fN<;>rfl
theorem qvu:gI [45,62]=false:=by kernel_rfl
theorem z2j:gI [105,110,116]=false:=by kernel_rfl
theorem qz6:gI [116,101,120,116]=false:=by kernel_rfl
theorem z2k:gI [114,101,102]=false:=by kernel_rfl
theorem qei(b:Bool)(l:List ND)(hl:l.length<=10000)(hg:GL l):vU (⟨b,l⟩,())=some (jS l,()):=by
 have loop:aG qG (⟨b,l⟩,0,())=some (l.all fN,()):=by
  refine Eq.trans (ph qG (fun k=>(⟨b,l⟩,k,())) (fun z=>(aB z 0,())) l om (fun x=>!fN x) ?_ ?_) ?_
  ·intro k x hx hk;obtain⟨a,t,n,c⟩:=x;have hr:=Xx t (show t.length<=1000000 from(hg.at hx).2.1);have he:aB (k:Int) 0=false:=zn om;unfold qG fN;simp only[cE hx,aI,aT hx,aj,hr,he];have hc:=aH (show k<=1000000000 by omega);have lt1:aB n 0=!a8 0 n:=by unfold aB a8;by_cases h:n<0<;>simp[h]<;>omega
   have lt2:aB 1048576 n=!a8 n 1048576:=by unfold aB a8;by_cases h:n<=1048576<;>simp[h]<;>omega
   rw[lt1,lt2];cases h1:af a 31 with
   |true=>cases af c 0<;>cases aS t []<;>cases a8 0 n<;>cases a8 n 1048576<;>first|rfl|exact congrArg (fun z:Int=>some (Sum.inl ((⟨b,l⟩:Sl ND),z,()))) hc
   |false=>
    cases h4:aS t [45,62] with
    |true=>rw[dU.1 h4,show pf kW [45,62]=false from qvu];cases af a 32<;>cases af n 0<;>cases af c 2<;>first|rfl|exact congrArg (fun z:Int=>some (Sum.inl ((⟨b,l⟩:Sl ND),z,()))) hc
    |false=>
     cases h5:aS t [105,110,116] with
     |true=>rw[dU.1 h5,show pf kW [105,110,116]=false from z2j];cases af a 32<;>cases af n 0<;>cases af c 0<;>first|rfl|exact congrArg (fun z:Int=>some (Sum.inl ((⟨b,l⟩:Sl ND),z,()))) hc
     |false=>
      cases h6:aS t [116,101,120,116] with
      |true=>rw[dU.1 h6,show pf kW [116,101,120,116]=false from qz6];cases af a 32<;>cases af n 0<;>cases af c 0<;>first|rfl|exact congrArg (fun z:Int=>some (Sum.inl ((⟨b,l⟩:Sl ND),z,()))) hc
      |false=>
       cases h7:aS t [114,101,102] with
       |true=>rw[dU.1 h7,show pf kW [114,101,102]=false from z2k];cases af a 32<;>cases af n 0<;>cases af c 1<;>first|rfl|exact congrArg (fun z:Int=>some (Sum.inl ((⟨b,l⟩:Sl ND),z,()))) hc
       |false=>unfold gI;cases af a 32<;>cases af n 0<;>cases pf kW t<;>cases a8 c 8<;>first|rfl|exact congrArg (fun z:Int=>some (Sum.inl ((⟨b,l⟩:Sl ND),z,()))) hc
  ·unfold qG;simp only[cQ,aF];rfl
  ·rw[z0j,<-List.not_all_eq_any_not,Bool.not_not]
 rw[UO,loop,Xz b l hl];simp only[qvt];unfold jS;cases decide (l.length<=4000)<;>cases uC l<;>cases l.all fN<;>rfl
theorem z0k(v:Int)(l:List Int):l.any (fun x=>af v x)=decide (v∈l):=by
 induction l with
 |nil=>rfl
 |cons a r ih=>
  rw[List.any_cons,ih];by_cases h:v=a
  ·subst h;rw[AP];exact(zu (zf ..)).symm
  ·rw[pD h,Bool.false_or];exact decide_eq_decide.2 ⟨fun e=>zh _ e,fun e=>(zt.1 e).resolve_left h⟩
theorem qi5(b:Bool)(l:List Int)(v:Int)(hl:l.length<=1000000):pR (⟨b,l⟩,v,())=some (decide (v∈l),()):=by
 have e:aG qj (⟨b,l⟩,v,aa l,0,())=some (fg (fun x=>af v x) 0 l,()):=by
  refine ph qj (fun k=>(⟨b,l⟩,v,aa l,k,())) (fun z=>(z,())) l hl (fun x=>af v x) ?_ ?_
  ·intro k x hx hk;unfold qj;simp only[cE hx,aI,aT hx,aj,aH (show k<=1000000000 by omega)];cases af v x<;>rfl
  ·unfold qj;simp only[cQ,aF]
 rw[Tw,Tv];refine(HQ e _).trans ?_;rw[wE,z0k]
theorem qrm(b:Bool)(l:List Int)(v:Int)(hl:l.length<=1000000):∃z,yW (⟨b,l⟩,v,())=some (z,())/\aB z 0=!decide (v∈l):=by
 refine⟨fg (fun x=>af x v) 0 l,?_,?_⟩
 ·rw[UQ];refine ph uo (fun k=>(⟨b,l⟩,v,k,())) (fun z=>(z,())) l hl (fun x=>af x v) ?_ ?_
  ·intro k x hx hk;unfold uo;simp only[cE hx,aI,aT hx,aj,aH (show k<=1000000000 by omega)];cases af x v<;>rfl
  ·unfold uo;simp only[cQ,aF]
 ·rw[z0j,<-z0k];congr 2;funext x;by_cases h:v=x
  ·subst h;rfl
  ·rw[pD h,pD fun e=>h e.symm]
def rl(a:List Int)(x:ND):List Int:=bif af x.1 31&&!decide (x.2.2.1∈a) then a++[x.2.2.1] else a
theorem qz7(a:List Int)(x:ND):(rl a x).length<=a.length+1:=by
 unfold rl;cases (af x.1 31&&!decide (x.2.2.1∈a)) with
 |true=>rw[cond_true,zm];exact Nat.le_refl _
 |false=>exact Nat.le_succ _
theorem qpc(p:Int->Bool)(l:List ND):∀a:List Int,(l.foldl rl a).any p=(a.any p||l.any fun x=>af x.1 31&&p x.2.2.1):=by
 induction l with
 |nil=>intro a;simp
 |cons x r ih=>
  intro a;rw[List.foldl_cons,ih,List.any_cons,<-Bool.or_assoc];congr 1;unfold rl;cases af x.1 31 with
  |false=>simp
  |true=>
   by_cases h:x.2.2.1∈a
   ·rw[zu h];simp only[Bool.not_true,Bool.and_false,cond_false,Bool.true_and];cases hp:p x.2.2.1 with
    |false=>simp
    |true=>rw[Bool.or_true];exact jl.2 ⟨_,h,hp⟩
   ·rw[zn h];simp
def il(a:Sl Int)(x:ND):Sl Int:=bif af x.1 31&&!decide (x.2.2.1∈a.l) then⟨false,a.l++[x.2.2.1]⟩ else a
theorem XM(l:List ND):∀a:Sl Int,(l.foldl il a).l=l.foldl rl a.l:=by
 induction l with
 |nil=>intro a;rfl
 |cons x r ih=>intro a;rw[List.foldl_cons,List.foldl_cons,ih];congr 1;unfold il rl;cases (af x.1 31&&!decide (x.2.2.1∈a.l))<;>rfl
theorem XN(a:Sl Int)(x:ND):(il a x).l.length<=a.l.length+1:=by have:=XM [x] a;rw[List.foldl_cons,List.foldl_nil,List.foldl_cons,List.foldl_nil] at this;rw[this];exact qz7 _ _
theorem qrn(b:Bool)(l:List ND)(hl:l.length<=10000)(hg:GL l)(ht:jS l=true):vE (⟨b,l⟩,())=some (l.foldl il ⟨true,[]⟩,()):=by
 rw[Tz,Pw b l hl hg,ht,aj];show aG qk (⟨b,l⟩,aa l,0,⟨true,[]⟩,())=_;refine rG qk (fun k a=>(⟨b,l⟩,aa l,k,a,())) l il (fun a=>(a,())) (fun k a=>k<=l.length/\a.l.length<=k) ⟨true,[]⟩ ⟨Nat.zero_le _,Nat.le_refl _⟩ ?_ ?_
 ·intro k x a hx hi;obtain⟨nb,a⟩:=a;have hk:=fc hx;have h2:a.length<=k:=hi.2;have he:=aH (show k<=1000000000 by omega);have hc:=qi5 nb a x.2.2.1 om;have hf:fit (aK (aa a) (aa [x.2.2.1]))=some ():=eM (by show a.length+1<=_;omega);refine⟨?_,⟨hk,by have:=XN ⟨nb,a⟩ x;have:=hi.2;simp only at*;omega⟩⟩;unfold qk il;simp only[cE hx,aI,aT hx,aj,hc,hf,uD,av,app];cases af x.1 31<;>cases decide (x.2.2.1∈a)<;>simp only[Bool.not_true,Bool.not_false,Bool.and_true,Bool.and_false,cond_true,cond_false,aI,aF,aj,he]
 ·intro a _;unfold qk;simp only[cQ,aF]
theorem qn4(b:Bool)(l:List ND)(hl:l.length<=10000):yX (⟨b,l⟩,())=some (l.foldl il ⟨false,[]⟩,()):=by
 rw[UR];refine rG uq (fun k a=>(⟨b,l⟩,k,a,())) l il (fun a=>(a,())) (fun k a=>k<=l.length/\a.l.length<=k) ⟨false,[]⟩ ⟨Nat.zero_le _,Nat.le_refl _⟩ ?_ ?_
 ·intro k x a hx hi;obtain⟨nb,a⟩:=a;have hk:=fc hx;have h2:a.length<=k:=hi.2;have he:=aH (show k<=1000000000 by omega);obtain⟨z,hc,hz⟩:=qrm nb a x.2.2.1 om;have hf:fit (aK (aa a) (aa [x.2.2.1]))=some ():=eM (by show a.length+1<=_;omega);refine⟨?_,⟨hk,by have:=XN ⟨nb,a⟩ x;have:=hi.2;simp only at*;omega⟩⟩;unfold uq il;simp only[cE hx,aI,aT hx,aj,hc,hz,hf,uD,app];cases af x.1 31<;>cases decide (x.2.2.1∈a)<;>simp only[Bool.not_true,Bool.not_false,Bool.and_true,Bool.and_false,cond_true,cond_false,aI,aF,aj,he]
 ·intro a _;unfold uq;simp only[cQ,aF]
abbrev SN:=Sl ND
abbrev CT:=Tx×Sl SN
abbrev DD:=Tx×Int×Sl CT
def gT(s:Tx):Prop:=(∀b,b∈s->0<=b/\b<=255)/\s.length<=1000000
def gA(t:SN):Prop:=GL t.l/\t.l.length<=10000
def gC(c:CT):Prop:=gT c.1/\c.2.l.length<=1000/\∀t,t∈c.2.l->gA t
def gD(d:DD):Prop:=gT d.1/\d.2.2.l.length<=1000/\∀c,c∈d.2.2.l->gC c
def GD(L:List DD):Prop:=L.length<=1000/\∀d,d∈L->gD d
def wb(p:Int)(t:List ND):Bool:=jS t&&!(t.any fun x=>af x.1 31&&a8 p x.2.2.1)
def A1(p:Int)(c:CT):Bool:=gI c.1&&(a8 (aa c.2.l) 8&&c.2.l.all fun t=>wb p t.l)
def jT(d:DD):Bool:=gI d.1&&(a8 0 d.2.1&&(a8 d.2.1 8&&(a8 1 (aa d.2.2.l)&&(a8 (aa d.2.2.l) 60&&d.2.2.l.all (A1 d.2.1)))))
theorem XO(s:Tx)(hs:gT s):nq (s,())=some (gI s,()):=by rw[Tj,Xw s hs.1,aj];rfl
theorem XP(s:Tx)(hs:gT s):oN (s,())=some (gI s,()):=by rw[UP,Xx s hs.2,aj];rfl
theorem Px(a b:Int):aB a b=!a8 b a:=by
 unfold aB a8;by_cases h:a<b
 ·rw[zu h,zn om];rfl
 ·rw[zn h,zu om];rfl
theorem ql3(l:List ND):∀a:Sl Int,(l.foldl il a).l.length<=a.l.length+l.length:=by
 induction l with
 |nil=>intro a;exact Nat.le_refl _
 |cons x r ih=>intro a;rw[List.foldl_cons];have h1:=ih (il a x);have h2:=XN a x;rw[zw];omega
theorem qz9(n:Tx)(p:Int)(cs:Sl CT)(t:SN)(ht:gA t):pS (t,n,p,cs,())=some (!wb p t.l,n,p,cs,()):=by
 obtain⟨b,l⟩:=t;obtain⟨hg,hl⟩:=ht;have hl:l.length<=10000:=hl;rw[TC,TB,Pw b l hl hg];unfold wb;cases hc:jS l with
 |false=>rfl
 |true=>
  have hv:=qrn b l hl hg hc;have he:=ql3 l ⟨true,[]⟩;have ha:=qpc (fun v=>a8 p v) l [];rw[List.any_nil,Bool.false_or] at ha;rw[<-show(l.foldl il ⟨true,[]⟩).l=l.foldl rl [] from XM l _] at ha;have he:(l.foldl il ⟨true,[]⟩).l.length<=0+l.length:=he;generalize l.foldl il ⟨true,[]⟩=vs at hv he ha;have e:aG qi (vs,aa vs.l,0,n,p,cs,())=some (fg (fun v=>a8 p v) 0 vs.l,n,p,cs,()):=by
   refine ph qi (fun k=>(vs,aa vs.l,k,n,p,cs,())) (fun z=>(z,n,p,cs,())) vs.l om (fun v=>a8 p v) ?_ ?_
   ·intro k x hx hk;unfold qi;simp only[cE hx,aI,aT hx,aj,Tq,aH (show k<=1000000000 by omega)];cases a8 p x<;>rfl
   ·unfold qi;simp only[cQ,aF]
  rw[aj];simp only[cond_true,mE,aI,aj,hv,Tu,Tt,e,wE,ha,Bool.true_and,av,Bool.not_not]
theorem qvw(n:Tx)(p:Int)(cs:Sl CT)(a:Sl SN)(ha:a.l.length<=1000)(hg:∀t,t∈a.l->gA t):pT (a,n,p,cs,())=some (!(a.l.all fun t=>wb p t.l),n,p,cs,()):=by
 have e:aG qm (a,aa a.l,0,n,p,cs,())=some (fg (fun t=>!wb p t.l) 0 a.l,n,p,cs,()):=by
  refine ph qm (fun k=>(a,aa a.l,k,n,p,cs,())) (fun z=>(z,n,p,cs,())) a.l om (fun t=>!wb p t.l) ?_ ?_
  ·intro k x hx hk;unfold qm;simp only[cE hx,aI,aT hx,aj,qz9 n p cs x (hg x (zj hx)),aH (show k<=1000000000 by omega)];cases wb p x.l<;>rfl
  ·unfold qm;simp only[cQ,aF]
 rw[TE,TD,e,aj,wE,List.not_all_eq_any_not]
theorem HR{α ρ:Type}(p:α->Bool)(A R:ρ)(l:List α)(k:Nat):scan (fun _ x=>bif p x then none else some A) R k l=bif l.all p then R else A:=by
 induction l generalizing k with
 |nil=>rfl
 |cons x r ih=>
  unfold scan;rw[List.all_cons];cases p x with
  |true=>exact ih (k+1)
  |false=>rfl
theorem qn5(d:DD)(hd:gD d):vG (d,())=some (jT d,()):=by
 obtain⟨n,p,cs⟩:=d;obtain⟨h1,h2,h3⟩:=hd;have h2:cs.l.length<=1000:=h2;have e:aG qn (cs,aa cs.l,0,n,p,cs,())=some (cs.l.all (A1 p),()):=by
  refine(j4 qn (fun k=>(cs,aa cs.l,k,n,p,cs,())) cs.l om (fun _ c=>bif A1 p c then none else some (false,())) (true,()) ?_ ?_).trans ?_
  ·intro k c hx hk;obtain⟨g1,g2,g3⟩:=h3 c (zj hx);have hc:=aH (show k<=1000000000 by omega);unfold qn A1;simp only[cE hx,aI,aT hx,aj,XO c.1 g1,Px 8,qvw n p cs c.2 g2 g3,hc];cases gI c.1<;>cases a8 (aa c.2.l) 8<;>cases (c.2.l.all fun t=>wb p t.l)<;>rfl
  ·unfold qn;simp only[cQ,aF]
  ·rw[HR];cases cs.l.all (A1 p)<;>rfl
 rw[TF,XO n h1,e];unfold jT;simp only[aj,Px];cases gI n<;>cases a8 0 p<;>cases a8 p 8<;>cases a8 1 (aa cs.l)<;>cases a8 (aa cs.l) 60<;>rfl
theorem Aj{α ρ:Type}(p:α->Bool)(A R:ρ)(l:List α)(k:Nat):scan (fun _ x=>bif p x then some A else none) R k l=bif l.any p then A else R:=by
 induction l generalizing k with
 |nil=>rfl
 |cons x r ih=>
  unfold scan;rw[List.any_cons];cases p x with
  |false=>exact ih (k+1)
  |true=>rfl
theorem z2l(c a:Int)(vs:Sl Int)(n:Tx)(p:Int)(cs:Sl CT)(cn:Tx)(as:Sl SN)(hv:vs.l.length<=1000000):aG qH (c,a,vs,0,n,p,cs,cn,as,())=some (bif vs.l.any (a8 p) then .inr (.inr (false,())) else .inl (c,ar .i64 a 1,n,p,cs,cn,as,())):=by
 refine(j4 qH (fun k=>(c,a,vs,k,n,p,cs,cn,as,())) vs.l hv (fun _ v=>bif a8 p v then some (.inr (.inr (false,()))) else none) (.inl (c,ar .i64 a 1,n,p,cs,cn,as,())) ?_ ?_).trans ?_
 ·intro k v hx hk;unfold qH;simp only[cE hx,aI,aT hx,aj,aH (show k<=1000000000 by omega)];cases a8 p v<;>rfl
 ·unfold qH;simp only[cQ,aF]
 ·rw[Aj]
theorem z2m(c:Int)(n:Tx)(p:Int)(cs:Sl CT)(cn:Tx)(as:Sl SN)(ha:as.l.length<=1000)(hg:∀t,t∈as.l->gA t):aG qI (c,0,n,p,cs,cn,as,())=some (bif as.l.all (fun t=>wb p t.l) then .inl (ar .i64 c 1,n,p,cs,()) else .inr (false,())):=by
 refine(j4 qI (fun k=>(c,k,n,p,cs,cn,as,())) as.l om (fun _ t=>bif wb p t.l then none else some (.inr (false,()))) (.inl (ar .i64 c 1,n,p,cs,())) ?_ ?_).trans ?_
 ·intro k t hx hk;obtain⟨b,l⟩:=t;obtain⟨hg,hl⟩:=hg _ (zj hx);have hl:l.length<=10000:=hl;have hv:=qn4 b l hl;have hc:=ql3 l ⟨false,[]⟩;have ha:=qpc (fun v=>a8 p v) l [];rw[List.any_nil,Bool.false_or] at ha;rw[<-show(l.foldl il ⟨false,[]⟩).l=l.foldl rl [] from XM l _] at ha;have hc:(l.foldl il ⟨false,[]⟩).l.length<=0+l.length:=hc;generalize l.foldl il ⟨false,[]⟩=vs at hv hc ha;unfold qI wb;simp only[cE hx,aI,aT hx,aj,qei b l hl hg,hv,z2l _ _ vs n p cs cn as om,aH (show k<=1000000000 by omega),ha];cases jS l<;>cases (l.any fun x=>af x.1 31&&a8 p x.2.2.1)<;>rfl
 ·unfold qI;simp only[cQ,aF]
 ·rw[HR]
theorem qza(d:DD)(hd:gD d):yY (d,())=some (jT d,()):=by
 obtain⟨n,p,cs⟩:=d;obtain⟨h1,h2,h3⟩:=hd;have h2:cs.l.length<=1000:=h2;have e:aG qJ (0,n,p,cs,())=some (cs.l.all (A1 p),()):=by
  refine(j4 qJ (fun k=>(k,n,p,cs,())) cs.l om (fun _ c=>bif A1 p c then none else some (false,())) (true,()) ?_ ?_).trans ?_
  ·intro k c hx hk;obtain⟨g1,g2,g3⟩:=h3 c (zj hx);have hc:=aH (show k<=1000000000 by omega);unfold qJ A1;simp only[cE hx,aI,aT hx,aj,XP c.1 g1,Px 8,z2m _ n p cs c.1 c.2 g2 g3,hc];cases gI c.1<;>cases a8 (aa c.2.l) 8<;>cases (c.2.l.all fun t=>wb p t.l)<;>rfl
  ·unfold qJ;simp only[cQ,aF]
  ·rw[HR];cases cs.l.all (A1 p)<;>rfl
 rw[US,XP n h1,e];unfold jT;simp only[aj,Px];cases gI n<;>cases a8 0 p<;>cases a8 p 8<;>cases a8 1 (aa cs.l)<;>cases a8 (aa cs.l) 60<;>rfl
def kJ{α:Type}(q:Nat->α->Bool):Nat->List α->Bool
 |_,[]=>false
 |k,x::r=>q k x||kJ q (k+1) r
theorem Ms{α ρ:Type}(q:Nat->α->Bool)(A R:ρ)(l:List α)(k:Nat):scan (fun k x=>bif q k x then some A else none) R k l=bif kJ q k l then A else R:=by
 induction l generalizing k with
 |nil=>rfl
 |cons x r ih=>
  unfold scan kJ;cases q k x with
  |false=>exact ih (k+1)
  |true=>rfl
def Dy:List Tx->List Tx->Bool
 |_,[]=>false
 |pre,a::r=>decide (a∈pre)||Dy (pre++[a]) r
theorem qvx:∀(l pre:List Tx),Dy pre l=(l.any (fun x=>decide (x∈pre))||bK l)
 |[],_=>rfl
 |a::r,pre=>by
  unfold Dy bK;rw[qvx r,List.any_cons];have h:(r.any fun x=>decide (x∈pre++[a]))=((r.any fun x=>decide (x∈pre))||decide (a∈r)):=by
   rw[Bool.eq_iff_iff];simp only[jl,Bool.or_eq_true,decide_eq_true_eq,zU,zS];constructor
   ·rintro⟨x,h1,h2|h2⟩
    ·exact .inl ⟨x,h1,h2⟩
    ·subst h2;exact .inr h1
   ·rintro(⟨x,h1,h2⟩|h2)
    ·exact⟨x,h1,.inl h2⟩
    ·exact⟨a,h2,.inr rfl⟩
  rw[h];cases decide (a∈pre)<;>cases (r.any fun x=>decide (x∈pre))<;>cases decide (a∈r)<;>rfl
theorem XQ{α:Type}(key:α->Tx)(q:Nat->α->Bool)(L:List α)(h:∀k x,L[k]?=some x->q k x=decide (key x∈(L.take k).map key)):kJ q 0 L=bK (L.map key):=by
 have aux:∀(gN pre:List α),L=pre++gN->kJ q pre.length gN=Dy (pre.map key) (gN.map key):=by
  intro gN
  induction gN with
  |nil=>intro pre _;rfl
  |cons x r ih=>
   intro pre e;have hx:L[pre.length]?=some x:=by rw[e,zR (Nat.le_refl _),Nat.sub_self];rfl
   have ht:L.take pre.length=pre:=by rw[e,List.take_left]
   have h1:=ih (pre++[x]) (by rw[e,zD];rfl);rw[zm,zA] at h1;unfold kJ;rw[h _ x hx,ht];exact congrArg _ h1
 refine(aux L [] rfl).trans ?_;rw[List.map_nil,qvx];simp
theorem qpd{α:Type}(p:α->Bool):∀(l:List α) (i k:Nat) (x:α),l[i]?=some x->p x=true->aB (fg p k l) ((k+i:Nat):Int)=(l.take i).any p
 |[],_,_,_,h,_=>by cases h
 |a::r,0,k,x,h,hp=>by injection h with h;subst h;unfold fg;rw[hp,cond_true];exact zn om
 |a::r,i+1,k,x,h,hp=>by
  unfold fg;rw[List.take_succ_cons,List.any_cons];cases ha:p a with
  |true=>exact zu (by show(k:Int)<_;omega)
  |false=>have:=qpd p r i (k+1) x h hp;rw[show k+(i+1)=k+1+i by omega];exact this
theorem qpe(l:List DD)(n:Tx):(l.any fun x=>aS x.1 n)=decide (n∈l.map fun d=>d.1):=by rw[Bool.eq_iff_iff];simp only[jl,decide_eq_true_eq,zW];exact⟨fun⟨x,h1,h2⟩=>⟨x,h1,dU.1 h2⟩,fun⟨x,h1,h2⟩=>⟨x,h1,dU.2 h2⟩⟩
def PC(i:Nat):Nat->List CT->List ((Int×Int)×Tx)
 |_,[]=>[]
 |k,c::r=>((i,k),c.1)::PC i (k+1) r
def PD:Nat->List DD->List ((Int×Int)×Tx)
 |_,[]=>[]
 |i,d::r=>PC i 0 d.2.2.l++PD (i+1) r
def kY(L:List DD):List Tx:=L.flatMap fun d=>d.2.2.l.map fun c=>c.1
def rH(E:List ((Int×Int)×Tx))(n:Tx):Option (Int×Int):=(E.find? fun e=>aS e.2 n).map fun e=>e.1
theorem qpf(i:Nat):∀(l:List CT) (k:Nat),(PC i k l).map (fun e=>e.2)=l.map fun c=>c.1
 |[],_=>rfl
 |c::r,k=>by show c.1::_=c.1::_;rw[qpf i r]
theorem qpg:∀(L:List DD) (i:Nat),(PD i L).map (fun e=>e.2)=kY L
 |[],_=>rfl
 |d::r,i=>by show(PC i 0 d.2.2.l++PD (i+1) r).map _=_;rw[zA,qpf,qpg r];rfl
theorem Py(i:Nat):∀(l:List CT) (k:Nat) e,e∈PC i k l->e.1.1=(i:Int)/\(k:Int)<=e.1.2
 |[],_,_,h=>by cases h
 |c::r,k,e,h=>by
  rcases zt.1 h with h|h
  ·subst h;exact⟨rfl,Int.le_refl _⟩
  ·obtain⟨h1,h2⟩:=Py i r (k+1) e h;exact⟨h1,by omega⟩
theorem qvy:∀(L:List DD) (i:Nat) e,e∈PD i L->(i:Int)<=e.1.1
 |[],_,_,h=>by cases h
 |d::r,i,e,h=>by
  rcases zU.1 h with h|h
  ·rw[(Py i _ _ e h).1];exact Int.le_refl _
  ·have:=qvy r (i+1) e h;omega
theorem qph(i:Nat):∀(l:List CT) (k:Nat),((PC i k l).map fun e=>e.1).Nodup
 |[],_=>List.nodup_nil
 |c::r,k=>by show(((i:Int),(k:Int))::(PC i (k+1) r).map _).Nodup;refine List.nodup_cons.2 ⟨fun h=>?_,qph i r (k+1)⟩;obtain⟨e,h1,h2⟩:=zW.1 h;have:=(Py i r (k+1) e h1).2;rw[h2] at this;simp only at this;omega
theorem qpi:∀(L:List DD) (i:Nat),((PD i L).map fun e=>e.1).Nodup
 |[],_=>List.nodup_nil
 |d::r,i=>by show((PC i 0 d.2.2.l++PD (i+1) r).map _).Nodup;rw[zA];refine List.nodup_append.2 ⟨qph i _ _,qpi r (i+1),fun a ha b hb=>?_⟩;obtain⟨e,h1,h2⟩:=zW.1 ha;obtain⟨e',h3,h4⟩:=zW.1 hb;have g1:=(Py i _ _ e h1).1;have g2:=qvy r (i+1) e' h3;intro h;rw[<-h,<-h2] at h4;rw[h4,g1] at g2;omega
theorem ql4:∀E:List ((Int×Int)×Tx),(E.map fun e=>e.1).Nodup->(E.any fun e=>!decide (rH E e.2=some e.1))=bK (E.map fun e=>e.2)
 |[],_=>rfl
 |e0::r,h=>by
  rw[zM] at h;obtain⟨h1,h2⟩:=List.nodup_cons.1 h;have ih:=ql4 r h2;have f0:rH (e0::r) e0.2=some e0.1:=by unfold rH;rw[List.find?_cons_of_pos (p:=fun e:(Int×Int)×Tx=>aS e.2 e0.2) (KO e0.2)];rfl
  rw[List.any_cons,f0,zM];unfold bK;rw[<-ih];have hd:(!decide ((some e0.1:Option (Int×Int))=some e0.1))=false:=by simp
  rw[hd,Bool.false_or];rw[Bool.eq_iff_iff];simp only[jl,Bool.or_eq_true,decide_eq_true_eq,zW,Bool.not_eq_true',decide_eq_false_iff_not];have fr:∀e,e∈r->e.2≠e0.2->rH (e0::r) e.2=rH r e.2:=fun e _ hc=>by unfold rH;rw[List.find?_cons_of_neg (p:=fun x:(Int×Int)×Tx=>aS x.2 e.2) (fun hh=>hc (dU.1 hh).symm)]
  constructor
  ·rintro⟨e,g1,g2⟩;by_cases hn:e.2=e0.2
   ·exact .inl ⟨e,g1,hn⟩
   ·rw[fr e g1 hn] at g2;exact .inr ⟨e,g1,g2⟩
  ·rintro(⟨e,g1,g2⟩|⟨e,g1,g2⟩)
   ·refine⟨e,g1,?_⟩;rw[g2,f0];intro hh;injection hh with hh;exact h1 (zW.2 ⟨e,g1,hh.symm⟩)
   ·by_cases hn:e.2=e0.2
    ·refine⟨e,g1,?_⟩;rw[hn,f0];intro hh;injection hh with hh;exact h1 (zW.2 ⟨e,g1,hh.symm⟩)
    ·exact⟨e,g1,by rw[fr e g1 hn];exact g2⟩
def Jp(L:List DD)(x:ND):Bool:=L.any fun d=>aS d.1 x.2.1&&af d.2.1 x.2.2.2
def tw(L:List DD)(x:ND):Bool:=af x.1 32&&(gI x.2.1&&!Jp L x)
def uL(L:List DD)(c:CT):Bool:=c.2.l.any fun t=>t.l.any (tw L)
def rI(L:List DD):Bool:=L.any fun d=>d.2.2.l.any (uL L)
def pj(L:List DD):Bool:=decide (L.length<=60)&&(L.all jT&&(!bK (L.map fun d=>d.1)&&(!bK (kY L)&&!rI L)))
theorem qzb(b:Bool)(L:List DD)(hL:GD L):pU (⟨b,L⟩,())=some (!L.all jT,()):=by
 have e:aG qo (⟨b,L⟩,aa L,0,())=some (fg (fun d=>!jT d) 0 L,()):=by
  refine ph qo (fun k=>(⟨b,L⟩,aa L,k,())) (fun z=>(z,())) L (by have:=hL.1;omega) (fun d=>!jT d) ?_ ?_
  ·intro k x hx hk;have hd:=qn5 x (hL.2 x (zj hx));obtain⟨n,p,cs⟩:=x;unfold qo;simp only[cE hx,aI,aT hx,aj,TG,hd,aH (show k<=1000000000 by omega),av];cases jT (n,p,cs)<;>rfl
  ·unfold qo;simp only[cQ,aF]
 rw[TI,TH];refine(HQ e _).trans ?_;rw[wE,List.not_all_eq_any_not]
theorem z46(b:Bool)(L:List DD)(hL:GD L)(d:DD):sH (⟨b,L⟩,d,())=some (fg (fun x=>aS x.1 d.1) 0 L,()):=by
 obtain⟨n,p,cs⟩:=d;rw[Ti];refine ph tW (fun k=>(⟨b,L⟩,(n,p,cs),aa L,k,())) (fun z=>(z,())) L (by have:=hL.1;omega) (fun x=>aS x.1 n) ?_ ?_
 ·intro k x hx hk;obtain⟨m,q,ds⟩:=x;unfold tW;simp only[cE hx,aI,aT hx,aj,Th,aH (show k<=1000000000 by omega)];cases aS m n<;>rfl
 ·unfold tW;simp only[cQ,aF]
def Mt(n:Tx)(i:Nat)(d:DD):Option (Bool×Int×Int×Unit):=bif a8 0 (fg (fun c:CT=>aS c.1 n) 0 d.2.2.l) then some (true,(i:Int),fg (fun c:CT=>aS c.1 n) 0 d.2.2.l,()) else none
def Ak(s:Sl DD)(n:Tx)(i:Nat)(z:Int):((Sl DD)×Tx×(Sl DD)×Int×Int×Int×Int×Unit)⊕(Bool×Int×Int×Unit):=bif a8 0 z then .inr (true,(i:Int),z,()) else .inl (s,n,s,aa s.l,((i+1:Nat):Int),0,0,())
theorem z52(s:Sl DD)(hL:GD s.l)(n:Tx):vH (s,s,n,0,0,())=some (scan (Mt n) (false,0,0,()) 0 s.l):=by
 rw[TK];refine j4 tX (fun k=>(s,n,s,aa s.l,k,0,0,())) s.l (by have:=hL.1;omega) (Mt n) (false,0,0,()) ?_ ?_
 ·intro i d hd hi;obtain⟨g1,g2,g3⟩:=hL.2 d (zj hd);have e:aG qp (s,n,(i:Int),s,aa s.l,(i:Int),aa d.2.2.l,0,0,0,())=some (Ak s n i (fg (fun c:CT=>aS c.1 n) 0 d.2.2.l)):=by
   refine ph qp (fun k=>(s,n,(i:Int),s,aa s.l,(i:Int),aa d.2.2.l,k,0,0,())) (Ak s n i) d.2.2.l om (fun c:CT=>aS c.1 n) ?_ ?_
   ·intro k c hc hk;have h0:a8 0 (k:Int)=true:=zu om;unfold qp Ak;simp only[cE hc,aI,TJ,aT hd,aT hc,aj,aH (show k<=1000000000 by omega),h0,cond_true];cases aS c.1 n<;>rfl
   ·have h0:a8 0 (-1)=false:=id (Eq.refl _);unfold qp Ak;simp only[cQ,aF,h0,cond_false,aH (show i<=1000000000 by omega)]
  unfold tX;simp only[cE hd,aI,aT hd,aj,e];unfold Mt Ak;cases a8 0 (fg (fun c:CT=>aS c.1 n) 0 d.2.2.l)<;>rfl
 ·unfold tX;simp only[cQ,aF]
theorem qw0(i:Nat)(n:Tx):∀(l:List CT) (k:Nat),rH (PC i k l) n=bif a8 0 (fg (fun c:CT=>aS c.1 n) k l) then some ((i:Int),fg (fun c:CT=>aS c.1 n) k l) else none
 |[],_=>rfl
 |c::r,k=>by
  unfold PC fg rH;rw[List.find?_cons];cases hc:aS c.1 n with
  |true=>have:a8 0 (k:Int)=true:=zu om;simp only[cond_true,this];rfl
  |false=>simp only[cond_false];exact qw0 i n r (k+1)
theorem qgm(n:Tx):∀(L:List DD) (i:Nat),scan (Mt n) (false,0,0,()) i L=match rH (PD i L) n with|some q=>(true,q.1,q.2,())|none=>(false,0,0,())
 |[],_=>rfl
 |d::r,i=>by
  have ih:=qgm n r (i+1);have h:rH (PD i (d::r)) n=(rH (PC i 0 d.2.2.l) n).or (rH (PD (i+1) r) n):=by show((PC i 0 d.2.2.l++PD (i+1) r).find? _).map _=_;unfold rH;rw[List.find?_append];cases (PC i 0 d.2.2.l).find? (fun e=>aS e.2 n)<;>rfl
  rw[h,qw0];unfold scan Mt;cases a8 0 (fg (fun c:CT=>aS c.1 n) 0 d.2.2.l) with
  |true=>rfl
  |false=>exact ih
theorem z0l(P:(Int×Int)×Tx->Bool)(i:Nat):∀(l:List CT) (k:Nat),kJ (fun k c=>P (((i:Int),(k:Int)),c.1)) k l=(PC i k l).any P
 |[],_=>rfl
 |c::r,k=>by unfold kJ PC;rw[List.any_cons,z0l P i r]
theorem z0m(P:(Int×Int)×Tx->Bool):∀(L:List DD) (i:Nat),kJ (fun i d=>kJ (fun k c=>P (((i:Int),(k:Int)),c.1)) 0 d.2.2.l) i L=(PD i L).any P
 |[],_=>rfl
 |d::r,i=>by unfold kJ PD;rw[List.any_append,z0l,z0m P r]
def Dz(L:List DD)(e:(Int×Int)×Tx):Bool:=!decide (rH (PD 0 L) e.2=some e.1)
theorem z0n:∀(L:List DD) (i0 i k:Nat) (d:DD) (c:CT),L[i]?=some d->d.2.2.l[k]?=some c->((((i0+i:Nat):Int),(k:Int)),c.1)∈PD i0 L
 |[],_,_,_,_,_,h,_=>by cases h
 |d0::r,i0,0,k,d,c,h,hc=>by
  injection h with h;subst h;refine List.mem_append_left _ ?_;have aux:∀(l:List CT) (k0 k:Nat),l[k]?=some c->(((i0:Int),((k0+k:Nat):Int)),c.1)∈PC i0 k0 l:=by
   intro l
   induction l with
   |nil=>intro k0 k h;cases h
   |cons c0 r ih=>
    intro k0 k h;cases k with
    |zero=>injection h with h;subst h;exact zf ..
    |succ k=>have:=ih (k0+1) k h;rw[show k0+1+k=k0+(k+1) by omega] at this;exact zh _ this
  have:=aux d0.2.2.l 0 k hc;rw[zL] at this;exact this
 |d0::r,i0,i+1,k,d,c,h,hc=>by have:=z0n r (i0+1) i k d c h hc;rw[show i0+1+i=i0+(i+1) by omega] at this;exact List.mem_append_right _ this
theorem qro(s:Sl DD)(hL:GD s.l){i k:Nat}{d:DD}{c:CT}(hd:s.l[i]?=some d)(hc:d.2.2.l[k]?=some c):pV ((i:Int),(k:Int),s,())=some (Dz s.l (((i:Int),(k:Int)),c.1),s,()):=by
 have hm:=z0n s.l 0 i k d c hd hc;rw[zL] at hm;have hf:∃q,rH (PD 0 s.l) c.1=some q:=by
  unfold rH;cases h:(PD 0 s.l).find? (fun e=>aS e.2 c.1) with
  |some q=>exact⟨q.1,rfl⟩
  |none=>exact absurd (KO c.1) (List.find?_eq_none.1 h _ hm)
 obtain⟨⟨x,y⟩,hq⟩:=hf;rw[TN,aT hd,aj,aT hc,aj,TM,z52 s hL,aj,qgm,hq,aj];unfold Dz;rw[hq];simp only;by_cases h1:x=(i:Int)
 ·by_cases h2:y=(k:Int)
  ·subst h1 h2;rw[AP,AP,zu rfl];rfl
  ·subst h1;rw[AP,pD h2,zn (by intro h;injection h with h;injection h with h h';exact h2 h')];rfl
 ·rw[pD h1,zn (by intro h;injection h with h;injection h with h h';exact h1 h)];rfl
theorem z53(s:Sl DD)(hL:GD s.l):sO (s,s,())=some ((PD 0 s.l).any (Dz s.l),s,()):=by
 rw[TO];refine(j4 tZ (fun k=>(s,aa s.l,k,s,())) s.l (by have:=hL.1;omega) (fun i d=>bif kJ (fun k c=>Dz s.l (((i:Int),(k:Int)),c.1)) 0 d.2.2.l then some (true,s,()) else none) (false,s,()) ?_ ?_).trans ?_
 ·intro i d hd hi;obtain⟨g1,g2,g3⟩:=hL.2 d (zj hd);have e:=j4 tY (fun k=>((i:Int),s,aa s.l,(i:Int),aa d.2.2.l,k,s,())) d.2.2.l om
   (fun k c=>bif Dz s.l (((i:Int),(k:Int)),c.1) then some (.inr (true,s,())) else none) (.inl (s,aa s.l,((i+1:Nat):Int),s,()))
   (fun k c hc hk=>by unfold tY;simp only[cE hc,aI,qro s hL hd hc,aj,aH (show k<=1000000000 by omega)];cases Dz s.l (((i:Int),(k:Int)),c.1)<;>rfl)
   (by
    unfold tY;simp only[cQ,aF,aH (show i<=1000000000 by omega)])
  rw[Ms] at e;unfold tZ;simp only[cE hd,aI,aT hd,aj];refine e.trans ?_;cases kJ (fun k c=>Dz s.l (((i:Int),(k:Int)),c.1)) 0 d.2.2.l<;>rfl
 ·unfold tZ;simp only[cQ,aF]
 ·rw[Ms,z0m];cases (PD 0 s.l).any (Dz s.l)<;>rfl
theorem qw1(L:List DD):(PD 0 L).any (Dz L)=bK (kY L):=by have:=ql4 (PD 0 L) (qpi L 0);rw[qpg] at this;exact this
theorem qrp(s:Sl DD)(hL:s.l.length<=1000)(x:ND):sQ (s,x,())=some (Jp s.l x,()):=by
 obtain⟨a,t,n,c⟩:=x;have e:aG qq (s,(a,t,n,c),aa s.l,0,())=some (fg (fun d:DD=>aS d.1 t&&af d.2.1 c) 0 s.l,()):=by
  refine ph qq (fun k=>(s,(a,t,n,c),aa s.l,k,())) (fun z=>(z,())) s.l om (fun d:DD=>aS d.1 t&&af d.2.1 c) ?_ ?_
  ·intro k d hx hk;obtain⟨m,q,ds⟩:=d;unfold qq;simp only[cE hx,aI,aT hx,aj,TP,aH (show k<=1000000000 by omega)];cases aS m t<;>cases af q c<;>rfl
  ·unfold qq;simp only[cQ,aF]
 rw[TR,TQ,e,aj,wE];rfl
theorem qrq(s:Sl DD)(hL:s.l.length<=1000)(x:ND)(hx:Mp x):pW (x,s,())=some (tw s.l x,s,()):=by have hk:=qrp s hL x;have hn:=XO x.2.1 ⟨hx.1,hx.2.1⟩;obtain⟨a,t,n,c⟩:=x;rw[TS];unfold tw;simp only[hk,hn,aj];cases af a 32<;>cases gI t<;>cases Jp s.l (a,t,n,c)<;>rfl
theorem qrr(s:Sl DD)(hL:s.l.length<=1000)(t:SN)(ht:gA t):pX (t,s,())=some (t.l.any (tw s.l),s,()):=by
 have hl:=ht.2;have e:aG qs (t,aa t.l,0,s,())=some (fg (tw s.l) 0 t.l,s,()):=by
  refine ph qs (fun k=>(t,aa t.l,k,s,())) (fun z=>(z,s,())) t.l om (tw s.l) ?_ ?_
  ·intro k x hx hk;unfold qs;simp only[cE hx,aI,aT hx,aj,qrq s hL x (ht.1.at hx),aH (show k<=1000000000 by omega)];cases tw s.l x<;>rfl
  ·unfold qs;simp only[cQ,aF]
 rw[TV,TU,TT,e,aj,aj,wE]
theorem qrs(s:Sl DD)(hL:GD s.l){i k:Nat}{d:DD}{c:CT}(hd:s.l[i]?=some d)(hc:d.2.2.l[k]?=some c):pY ((i:Int),(k:Int),s,())=some (uL s.l c,s,()):=by
 obtain⟨g1,g2,g3⟩:=(hL.2 d (zj hd)).2.2 c (zj hc);have e:aG qt (c.2,aa c.2.l,0,s,())=some (fg (fun t:SN=>t.l.any (tw s.l)) 0 c.2.l,s,()):=by
  refine ph qt (fun k=>(c.2,aa c.2.l,k,s,())) (fun z=>(z,s,())) c.2.l om (fun t:SN=>t.l.any (tw s.l)) ?_ ?_
  ·intro k t hx hk;unfold qt;simp only[cE hx,aI,aT hx,aj,qrr s hL.1 t (g3 t (zj hx)),aH (show k<=1000000000 by omega)];cases t.l.any (tw s.l)<;>rfl
  ·unfold qt;simp only[cQ,aF]
 rw[TY,aT hd,aj,aT hc,aj,TX,TW,e,aj,aj,wE];rfl
theorem z54(s:Sl DD)(hL:GD s.l):sR (s,s,())=some (rI s.l,s,()):=by
 rw[TZ];refine(j4 ub (fun k=>(s,aa s.l,k,s,())) s.l (by have:=hL.1;omega) (fun _ d=>bif d.2.2.l.any (uL s.l) then some (true,s,()) else none) (false,s,()) ?_ ?_).trans ?_
 ·intro i d hd hi;obtain⟨g1,g2,g3⟩:=hL.2 d (zj hd);have e:=j4 ua (fun k=>((i:Int),s,aa s.l,(i:Int),aa d.2.2.l,k,s,())) d.2.2.l om
   (fun _ c=>bif uL s.l c then some (.inr (true,s,())) else none) (.inl (s,aa s.l,((i+1:Nat):Int),s,()))
   (fun k c hc hk=>by unfold ua;simp only[cE hc,aI,qrs s hL hd hc,aj,aH (show k<=1000000000 by omega)];cases uL s.l c<;>rfl)
   (by
    unfold ua;simp only[cQ,aF,aH (show i<=1000000000 by omega)])
  rw[Aj] at e;unfold ub;simp only[cE hd,aI,aT hd,aj];refine e.trans ?_;cases d.2.2.l.any (uL s.l)<;>rfl
 ·unfold ub;simp only[cQ,aF]
 ·rw[Aj];unfold rI;cases s.l.any (fun d=>d.2.2.l.any (uL s.l))<;>rfl
def DB(L:List DD):Int:=bif decide (L.length<=60)&&L.all jT then(bif bK (L.map fun d=>d.1)||bK (kY L) then 101 else bif rI L then 102 else 0) else 100
theorem XR(L:List DD):af (DB L) 0=pj L:=by unfold DB pj;cases decide (L.length<=60)<;>cases L.all jT<;>cases bK (L.map fun d=>d.1)<;>cases bK (kY L)<;>cases rI L<;>rfl
theorem z47(L:List DD):aB 60 (aa L)=!decide (L.length<=60):=by
 unfold aB aa;by_cases e:L.length<=60
 ·rw[zu e,zn om];rfl
 ·rw[zn e,zu om];rfl
theorem qej(s:Sl DD)(hL:GD s.l):oF (s,())=some (DB s.l,()):=by
 obtain⟨b,L⟩:=s;have hL:GD L:=hL;have e:aG qu (⟨b,L⟩,aa L,0,⟨b,L⟩,())=some (bif bK (L.map fun d=>d.1)||bK (kY L) then 101 else bif rI L then 102 else 0,()):=by
  refine(j4 qu (fun k=>(⟨b,L⟩,aa L,k,⟨b,L⟩,())) L (by have:=hL.1;omega) (fun i d=>bif aB (fg (fun x:DD=>aS x.1 d.1) 0 L) (i:Int) then some (101,()) else none)
   (bif bK (kY L) then 101 else bif rI L then 102 else 0,()) ?_ ?_).trans ?_
  ·intro k d hx hk;have hn:=z46 b L hL d;obtain⟨n,p,cs⟩:=d;unfold qu;simp only[cE hx,aI,aT hx,aj,hn,aH (show k<=1000000000 by omega)];cases aB (fg (fun x:DD=>aS x.1 n) 0 L) (k:Int)<;>rfl
  ·have h1:=z53 ⟨b,L⟩ hL;have h2:=z54 ⟨b,L⟩ hL;rw[qw1] at h1;unfold qu;simp only[cQ,aF,h1,h2,aj];cases bK (kY L)<;>cases rI L<;>rfl
  ·rw[Ms,XQ (fun d:DD=>d.1) (fun i d=>aB (fg (fun x:DD=>aS x.1 d.1) 0 L) (i:Int)) L (fun k x hx=>by have:=qpd (fun y:DD=>aS y.1 x.1) L k 0 x hx (KO _);rw[zL] at this;rw[this,qpe])];cases bK (L.map fun d=>d.1)<;>rfl
 rw[Ua,qzb b L hL];simp only[z47,e,aj];unfold DB;cases decide (L.length<=60)<;>cases L.all jT<;>rfl
theorem qn6(s:Sl DD)(hL:s.l.length<=1000)(x:ND):y0 (s,x,())=some (Jp s.l x,()):=by
 obtain⟨a,t,n,c⟩:=x;rw[UU];refine(j4 uv (fun k=>(s,k,a,t,n,c,())) s.l om (fun _ d=>bif aS d.1 t&&af d.2.1 c then some (true,()) else none) (false,()) ?_ ?_).trans ?_
 ·intro k d hx hk;unfold uv;simp only[cE hx,aI,aT hx,aj,aH (show k<=1000000000 by omega)];cases aS d.1 t<;>cases af d.2.1 c<;>rfl
 ·unfold uv;simp only[cQ,aF]
 ·rw[Aj];unfold Jp;cases s.l.any (fun d=>aS d.1 t&&af d.2.1 c)<;>rfl
theorem r3(s:Sl DD)(hL:s.l.length<=1000)(i k:Int)(m:Nat)(hm:m<=1000000)(t:SN)(ht:gA t):aG qM (s,i,k,(m:Int),t,0,())=some (bif t.l.any (tw s.l) then .inr (.inr (.inr (.inr (.inr (.inr (102,())))))) else .inl (s,i,k,((m+1:Nat):Int),())):=by
 have hl:=ht.2;refine(j4 qM (fun n=>(s,i,k,(m:Int),t,n,())) t.l om (fun _ x=>bif tw s.l x then some (.inr (.inr (.inr (.inr (.inr (.inr (102,()))))))) else none) (.inl (s,i,k,((m+1:Nat):Int),())) ?_ ?_).trans ?_
 ·intro n x hx hk;have hg:=ht.1.at hx;have hc:=qn6 s hL x;have hn:=XP x.2.1 ⟨hg.1,hg.2.1⟩;unfold qM tw;simp only[cE hx,aI,aT hx,aj,hc,hn,aH (show n<=1000000000 by omega)];cases af x.1 32<;>cases gI x.2.1<;>cases Jp s.l x<;>rfl
 ·unfold qM;simp only[cQ,aF,aH (show m<=1000000000 by omega)]
 ·rw[Aj]
theorem r4(s:Sl DD)(hL:GD s.l){i k:Nat}{d:DD}{c:CT}(hd:s.l[i]?=some d)(hc:d.2.2.l[k]?=some c)(hk:k<=1000000):aG qN (s,(i:Int),(k:Int),0,())=some (bif uL s.l c then .inr (.inr (.inr (.inr (.inr (102,()))))) else .inl (s,(i:Int),((k+1:Nat):Int),())):=by
 obtain⟨g1,g2,g3⟩:=(hL.2 d (zj hd)).2.2 c (zj hc);refine(j4 qN (fun m=>(s,(i:Int),(k:Int),m,())) c.2.l om (fun _ t=>bif t.l.any (tw s.l) then some (.inr (.inr (.inr (.inr (.inr (102,())))))) else none) (.inl (s,(i:Int),((k+1:Nat):Int),())) ?_ ?_).trans ?_
 ·intro m t hx hm;unfold qN;simp only[aT hd,aT hc,cE hx,aI,aT hx,aj,r3 s hL.1 i k m hm t (g3 t (zj hx))];cases t.l.any (tw s.l)<;>rfl
 ·unfold qN;simp only[aT hd,aT hc,aj,cQ,aF,aH (show k<=1000000000 by omega)]
 ·rw[Aj];rfl
theorem r5(s:Sl DD)(hL:GD s.l){i:Nat}{d:DD}(hd:s.l[i]?=some d)(hi:i<=1000000):aG qO (s,(i:Int),0,())=some (bif d.2.2.l.any (uL s.l) then .inr (.inr (.inr (.inr (102,())))) else .inl (s,((i+1:Nat):Int),())):=by
 obtain⟨g1,g2,g3⟩:=hL.2 d (zj hd);refine(j4 qO (fun k=>(s,(i:Int),k,())) d.2.2.l om (fun _ c=>bif uL s.l c then some (.inr (.inr (.inr (.inr (102,()))))) else none) (.inl (s,((i+1:Nat):Int),())) ?_ ?_).trans ?_
 ·intro k c hx hk;unfold qO;simp only[aT hd,aj,cE hx,aI,r4 s hL hd hx hk];cases uL s.l c<;>rfl
 ·unfold qO;simp only[aT hd,aj,cQ,aF,aH (show i<=1000000000 by omega)]
 ·rw[Aj]
theorem r6(s:Sl DD)(hL:GD s.l):aG qP (s,0,())=some (.inr (.inr (.inr (bif rI s.l then 102 else 0,())))):=by
 refine(j4 qP (fun i=>(s,i,())) s.l (by have:=hL.1;omega) (fun _ d=>bif d.2.2.l.any (uL s.l) then some (.inr (.inr (.inr (102,())))) else none) (.inr (.inr (.inr (0,())))) ?_ ?_).trans ?_
 ·intro i d hx hi;unfold qP;simp only[cE hx,aI,r5 s hL hx hi];cases d.2.2.l.any (uL s.l)<;>rfl
 ·unfold qP;simp only[cQ,aF]
 ·rw[Aj];unfold rI;cases s.l.any (fun d=>d.2.2.l.any (uL s.l))<;>rfl
theorem qpj{α:Type}{l:List α}{i k:Nat}{x:α}(h:(l.take i)[k]?=some x):l[k]?=some x/\k<i:=by have h1:=fc h;rw[zJ] at h1;rw[List.getElem?_take_of_lt om] at h;exact⟨h,by omega⟩
theorem ltT{i k:Nat}(h:k<i):aB (k:Int) (i:Int)=true:=zu om
theorem z2n(l:List Tx)(n:Tx):(l.any fun x=>aS x n)=decide (n∈l):=by rw[Bool.eq_iff_iff];simp only[jl,decide_eq_true_eq];exact⟨fun⟨x,h1,h2⟩=>by rw[<-dU.1 h2];exact h1,fun h=>⟨n,h,KO n⟩⟩
theorem r2(s:Sl DD)(ns:Sl Tx){i:Nat}{n:Tx}(hn:ns.l[i]?=some n)(hi:i<=1000000):aG qL (s,ns,(i:Int),0,())=some (bif decide (n∈ns.l.take i) then .inr (.inr (.inr (101,()))) else .inl (s,ns,((i+1:Nat):Int),())):=by
 have hc:(ns.l.take i).length=i:=by rw[zJ];have:=fc hn;omega
 refine(j4 qL (fun k=>(s,ns,(i:Int),k,())) (ns.l.take i) om (fun _ x=>bif aS x n then some (.inr (.inr (.inr (101,())))) else none) (.inl (s,ns,((i+1:Nat):Int),())) ?_ ?_).trans ?_
 ·intro k x hx hk;obtain⟨h1,h2⟩:=qpj hx;unfold qL;simp only[ltT h2,aI,aT h1,aT hn,aj,aH (show k<=1000000000 by omega)];cases aS x n<;>rfl
 ·have h0:aB (i:Int) (i:Int)=false:=zn om;unfold qL;simp only[hc,h0,aF,aH (show i<=1000000000 by omega)]
 ·rw[Aj,z2n]
theorem r7(s:Sl DD)(hL:GD s.l)(ns:Sl Tx)(hc:ns.l.length<=1000000):aG qQ (s,ns,0,())=some (.inr (.inr (bif bK ns.l then 101 else bif rI s.l then 102 else 0,()))):=by
 refine(j4 qQ (fun i=>(s,ns,i,())) ns.l hc (fun i n=>bif decide (n∈ns.l.take i) then some (.inr (.inr (101,()))) else none) (.inr (.inr (bif rI s.l then 102 else 0,()))) ?_ ?_).trans ?_
 ·intro i n hx hi;unfold qQ;simp only[cE hx,aI,r2 s ns hx hi];cases decide (n∈ns.l.take i)<;>rfl
 ·unfold qQ;simp only[cQ,aF,r6 s hL]
 ·rw[Ms,XQ (fun n:Tx=>n) (fun i n=>decide (n∈ns.l.take i)) ns.l (fun k x _=>by simp),List.map_id'];cases bK ns.l<;>rfl
theorem r1(s:Sl DD)(ns:Sl Tx){i:Nat}{d:DD}(hn:s.l[i]?=some d)(hi:i<=1000000):aG qK (s,ns,(i:Int),0,())=some (bif decide (d.1∈(s.l.take i).map fun d=>d.1) then .inr (.inr (101,())) else .inl (s,ns,((i+1:Nat):Int),())):=by
 have hc:(s.l.take i).length=i:=by rw[zJ];have:=fc hn;omega
 refine(j4 qK (fun k=>(s,ns,(i:Int),k,())) (s.l.take i) om (fun _ x=>bif aS x.1 d.1 then some (.inr (.inr (101,()))) else none) (.inl (s,ns,((i+1:Nat):Int),())) ?_ ?_).trans ?_
 ·intro k x hx hk;obtain⟨h1,h2⟩:=qpj hx;unfold qK;simp only[ltT h2,aI,aT h1,aT hn,aj,aH (show k<=1000000000 by omega)];cases aS x.1 d.1<;>rfl
 ·have h0:aB (i:Int) (i:Int)=false:=zn om;unfold qK;simp only[hc,h0,aF,aH (show i<=1000000000 by omega)]
 ·rw[Aj,qpe]
theorem r8(s:Sl DD)(hL:GD s.l)(ns:Sl Tx)(hc:ns.l.length<=1000000):aG qR (s,ns,0,())=some (.inr (bif bK (s.l.map fun d=>d.1) then 101 else bif bK ns.l then 101 else bif rI s.l then 102 else 0,())):=by
 refine(j4 qR (fun i=>(s,ns,i,())) s.l (by have:=hL.1;omega) (fun i d=>bif decide (d.1∈(s.l.take i).map fun d=>d.1) then some (.inr (101,())) else none) (.inr (bif bK ns.l then 101 else bif rI s.l then 102 else 0,())) ?_ ?_).trans ?_
 ·intro i d hx hi;unfold qR;simp only[cE hx,aI,r1 s ns hx hi];cases decide (d.1∈(s.l.take i).map fun d=>d.1)<;>rfl
 ·unfold qR;simp only[cQ,aF,r7 s hL ns hc]
 ·rw[Ms,XQ (fun d:DD=>d.1) (fun i d=>decide (d.1∈(s.l.take i).map fun d=>d.1)) s.l (fun k x _=>rfl)];cases bK (s.l.map fun d=>d.1)<;>rfl
theorem qw2(a:List DD)(d:DD):kY (a++[d])=kY a++d.2.2.l.map fun c=>c.1:=by unfold kY;rw[List.flatMap_append];simp
theorem XS(L:List DD)(hg:∀d,d∈L->gD d):(kY L).length<=L.length*1000:=by
 induction L with
 |nil=>exact Nat.zero_le _
 |cons d r ih=>have:=ih fun x hx=>hg x (zh _ hx);have h2:=(hg d (zf ..)).2.1;show((d.2.2.l.map fun c=>c.1)++kY r).length<=(r.length+1)*1000;rw[zm,zC];omega
theorem qn7(s:Sl DD)(hL:GD s.l):∃b,yZ (s,())=some (⟨b,kY s.l⟩,()):=by
 have hl:=XS s.l hL.2;have hg:=hL.1;rw[UT];have e:=rG uu (fun k a=>(s,k,a,())) s.l (fun(a:Sl Tx) d=>(⟨a.nil&&d.2.2.l.isEmpty,a.l++d.2.2.l.map fun c=>c.1⟩:Sl Tx)) (fun a=>(a,())) (fun k a=>k<=s.l.length/\a.l=kY (s.l.take k)) ⟨false,[]⟩ ⟨Nat.zero_le _,rfl⟩ ?_ ?_
 ·refine⟨(s.l.foldl (fun(a:Sl Tx) d=>(⟨a.nil&&d.2.2.l.isEmpty,a.l++d.2.2.l.map fun c=>c.1⟩:Sl Tx)) ⟨false,[]⟩).nil,e.trans ?_⟩;have:∀(l:List DD) (a:Sl Tx),(l.foldl (fun(a:Sl Tx) d=>(⟨a.nil&&d.2.2.l.isEmpty,a.l++d.2.2.l.map fun c=>c.1⟩:Sl Tx)) a).l=a.l++kY l:=by
   intro l
   induction l with
   |nil=>intro a;simp[kY]
   |cons d r ih=>intro a;rw[List.foldl_cons,ih];simp[kY]
  rw[<-show _=kY s.l from(this s.l ⟨false,[]⟩).trans (List.nil_append _)]
 ·intro i d a hd hi;obtain⟨nb,al⟩:=a;have hj:al=kY (s.l.take i):=hi.2;have hm:=fc hd;obtain⟨g1,g2,g3⟩:=hL.2 d (zj hd);have ho:al.length<=1000000:=by have:=XS (s.l.take i) fun d h=>hL.2 d (List.mem_of_mem_take h);rw[zJ] at this;rw[hj];omega
  have e2:=rG ur (fun k a=>(s,(i:Int),k,a,())) d.2.2.l (fun(a:Sl Tx) c=>(⟨false,a.l++[c.1]⟩:Sl Tx)) (fun a=>.inl (s,((i+1:Nat):Int),a,())) (fun k a=>k<=d.2.2.l.length/\a.l.length=al.length+k) ⟨nb,al⟩ ⟨Nat.zero_le _,rfl⟩
   (fun k c a hc hk=>by obtain⟨nb2,a2⟩:=a;have h2:a2.length=al.length+k:=hk.2;have hn:=fc hc;have he:fit (aK (aa a2) (aa [c.1]))=some ():=eM (by show a2.length+1<=_;omega);refine⟨?_,hn,by show(a2++[c.1]).length=_;rw[zm,h2];rfl⟩;unfold ur;simp only[aT hd,aj,cE hc,aI,aT hc,he,uD,aH (show k<=1000000000 by omega)];rfl)
   (fun a _=>by unfold ur;simp only[aT hd,aj,cQ,aF,aH (show i<=1000000000 by omega)])
  have hf:∀(l:List CT) (a:Sl Tx),l.foldl (fun(a:Sl Tx) c=>(⟨false,a.l++[c.1]⟩:Sl Tx)) a=⟨a.nil&&l.isEmpty,a.l++l.map fun c=>c.1⟩:=by
   intro l
   induction l with
   |nil=>intro a;simp
   |cons c r ih=>intro a;rw[List.foldl_cons,ih];simp
  rw[hf] at e2;refine⟨?_,hm,?_⟩
  ·unfold uu;simp only[cE hd,aI];exact e2
  ·show al++_=_;rw[List.take_add_one,hd,hj];exact(qw2 _ _).symm
 ·intro a _;unfold uu;simp only[cQ,aF]
theorem ql5(s:Sl DD)(hL:GD s.l):y5 (s,())=some (DB s.l,()):=by
 obtain⟨nb,hn⟩:=qn7 s hL;have he:=XS s.l hL.2;have hc:=hL.1;have e:aG qS (s,0,())=some (bif s.l.all jT then(bif bK (s.l.map fun d=>d.1) then 101 else bif bK (kY s.l) then 101 else bif rI s.l then 102 else 0) else 100,()):=by
  refine(j4 qS (fun i=>(s,i,())) s.l om (fun _ d=>bif jT d then none else some (100,())) (bif bK (s.l.map fun d=>d.1) then 101 else bif bK (kY s.l) then 101 else bif rI s.l then 102 else 0,()) ?_ ?_).trans ?_
  ·intro i d hx hi;unfold qS;simp only[cE hx,aI,aT hx,aj,qza d (hL.2 d (zj hx)),aH (show i<=1000000000 by omega)];cases jT d<;>rfl
  ·unfold qS;simp only[cQ,aF,hn,aj,r8 s hL ⟨nb,kY s.l⟩ (by show(kY s.l).length<=_;omega)]
  ·rw[HR];cases s.l.all jT<;>rfl
 rw[UW,e,z47];unfold DB;cases decide (s.l.length<=60)<;>cases s.l.all jT<;>cases bK (s.l.map fun d=>d.1)<;>cases bK (kY s.l)<;>rfl
def F.trees:F->List (List ND)
 |.nil=>[]
 |.cons k t n ks r=>(tr k t n ks).flat::r.trees
def F.gF:Nat->F->List (Int×List ND)
 |_,.nil=>[]
 |q,.cons k t n ks r=>((q:Int),(tr k t n ks).flat)::r.gF (q+1+ks.size)
theorem F.dD:∀(f:F) (q:Nat),(f.gF q).map (fun e=>e.1)=f.pos q
 |.nil,_=>rfl
 |.cons _ _ _ ks r,q=>by show(q:Int)::_=(q:Int)::_;rw[F.dD r]
theorem F.cX:∀(f:F) (q:Nat),(f.gF q).map (fun e=>e.2)=f.trees
 |.nil,_=>rfl
 |.cons k t n ks r,q=>by show(tr k t n ks).flat::_=(tr k t n ks).flat::_;rw[F.cX r]
theorem F.eV:∀f:F,f.trees.length=f.aA
 |.nil=>rfl
 |.cons k t n ks r=>by show r.trees.length+1=_;rw[F.eV r];rfl
theorem F.fe:∀f:F,f.trees.flatten=f.flat
 |.nil=>rfl
 |.cons k t n ks r=>by show(tr k t n ks).flat++r.trees.flatten=_;rw[F.fe r,Du];rfl
theorem pn(k:Int)(t:Tx)(n:Int)(ks:F):(tr k t n ks).flat.length=ks.size+1:=by rw[F.len];rfl
structure z48 (l:List ND) (e:Int×List ND):Prop where
 pos:0<=e.1
 ends:∀b,fB (⟨b,l⟩,e.1,())=some (e.1+(e.2.length:Int),())
 Mu:∀b,oL (⟨b,l⟩,e.1,())=some (e.1+(e.2.length:Int),())
 cut:bG l e.1 (e.1+(e.2.length:Int))=some e.2
 XT:∃(q:Nat) (k:Int) (t:Tx) (n:Int) (ks:F),e=((q:Int),(tr k t n ks).flat)/\cM l q (tr k t n ks)
theorem Jq{l:List ND}(hl:l.length<=10000):∀(f:F) (q:Nat),cM l q f->q<=l.length->∀e,e∈f.gF q->z48 l e
 |.nil,_,_,_,_,h=>by cases h
 |.cons k t n ks r,q,hs,hq,e,h=>by
  rcases zt.1 h with h|h
  ·subst h;have he:=hs.ends;have hn:=hs.node;have hf:=pn k t n ks;have hz:(q:Int)+((tr k t n ks).flat.length:Int)=((q+1+ks.size:Nat):Int):=by rw[hf];omega
   refine⟨by show(0:Int)<=(q:Int);omega,fun b=>?_,fun b=>?_,?_,⟨q,k,t,n,ks,rfl,hs.first⟩⟩
   ·show fB (⟨b,l⟩,(q:Int),())=_;rw[Jl b l hl q,he,hz]
   ·show oL (⟨b,l⟩,(q:Int),())=_;rw[Pp b l hl q,he,hz]
   ·show bG l (q:Int) ((q:Int)+((tr k t n ks).flat.length:Int))=some (tr k t n ks).flat
    have hc:=hs.first.oT;have hg:(tr k t n ks).size=ks.size+1:=rfl;rw[hz];unfold bG;rw[if_pos ⟨by omega,by omega,by have:=hn.2.2.2;omega⟩];rw[hg] at hc;rw[Int.toNat_natCast,Int.toNat_natCast,List.drop_take,show q+1+ks.size-q=ks.size+1 by omega];exact congrArg some hc
  ·exact Jq hl r _ hs.node.2.2.1 (by have:=hs.node.2.2.2;omega) e h
theorem Pz{α β:Type}(h:α->β)(l:List α):∀a:Sl β,l.foldl (fun(a:Sl β) e=>(⟨false,a.l++[h e]⟩:Sl β)) a=⟨a.nil&&l.isEmpty,a.l++l.map h⟩:=by
 induction l with
 |nil=>intro a;simp
 |cons x r ih=>intro a;rw[List.foldl_cons,ih];simp
theorem getM{α β:Type}{l:List α}{f:α->β}{k:Nat}{e:α}(h:l[k]?=some e):(l.map f)[k]?=some (f e):=by rw[zV,h];rfl
theorem qgo(b:Bool)(k:Int)(t:Tx)(n:Int)(ks:F)(hl:ks.size+1<=10000):∃nb,lU (⟨b,(tr k t n ks).flat⟩,())=some (⟨nb,ks.trees.map fun l=>(⟨b,l⟩:SN)⟩,()):=by
 have hf:(tr k t n ks).flat.length<=10000:=by rw[pn];exact hl
 have hs:=Ey k t n ks;obtain⟨nb,hk⟩:=qkx b _ hf hs;have hj:=Jq hf ks 1 hs.node.2.1 (by rw[pn];omega);have hc:(ks.gF 1).length=ks.aA:=by rw[<-F.dX ks 1,<-F.dD,zC]
 have hm:=F.cv ks;have e:=rG uc (fun i a=>(⟨b,(tr k t n ks).flat⟩,⟨nb,ks.pos (0+1)⟩,aa (ks.pos (0+1)),i,a,())) (ks.gF 1) (fun(a:Sl SN) e=>(⟨false,a.l++[⟨b,e.2⟩]⟩:Sl SN)) (fun a=>(a,())) (fun i a=>i<=ks.aA/\a.l.length=i) ⟨true,[]⟩ ⟨Nat.zero_le _,rfl⟩
  (fun i e a hx hi=>by
   obtain⟨na,al⟩:=a;have h2:al.length=i:=hi.2;have hp:(ks.pos (0+1))[i]?=some e.1:=by rw[<-F.dD];exact getM hx
   have hg:=hj e (zj hx);have ho:=fc hx;have he:fit (aK (aa al) (aa [(⟨b,e.2⟩:SN)]))=some ():=eM (by show al.length+1<=_;omega);refine⟨?_,by omega,by show(al++[_]).length=_;rw[zm,h2];rfl⟩;unfold uc;simp only[cE hp,aI,aT hp,aj,hg.ends b,hg.cut,he,uD,aH (show i<=1000000000 by omega)];rfl)
  (fun a _=>by
   have hn:(ks.gF 1).length=(ks.pos (0+1)).length:=by rw[hc,F.dX]
   unfold uc;simp only[hn,cQ,aF])
 rw[Pz] at e;refine⟨true&&(ks.gF 1).isEmpty,?_⟩;rw[Uc];refine(HQ hk _).trans (e.trans ?_);rw[<-F.cX ks 1,ja];rfl
def mU(Ts:List (List ND))(x:ND):List ND:=bif af x.1 31 then(if 0<=x.2.2.1 then(Ts[x.2.2.1.toNat]?).getD [x] else [x]) else [x]
def uM(Ts:List (List ND))(a:List ND):List ND:=a.flatMap (mU Ts)
def bl(b:Bool):Nat->List (List ND)->List (Int×SN)
 |_,[]=>[]
 |i,T::r=>((i:Int),⟨b,T⟩)::bl b (i+1) r
theorem XU(b:Bool):∀(Ts:List (List ND)) (i j:Nat),(bl b i Ts)[j]?=(Ts[j]?).map fun T=>(((i+j:Nat):Int),(⟨b,T⟩:SN))
 |[],_,_=>rfl
 |T::r,i,0=>rfl
 |T::r,i,j+1=>by show(bl b (i+1) r)[j]?=(r[j]?).map _;rw[XU b r,show i+1+j=i+(j+1) by omega]
theorem Mv(b:Bool):∀(Ts:List (List ND)) (i:Nat),(bl b i Ts).length=Ts.length
 |[],_=>rfl
 |_::r,i=>by show(bl b (i+1) r).length+1=_;rw[Mv b r];rfl
theorem z0o(b:Bool)(v:Int):∀(Ts:List (List ND)) (i k:Nat),fg (fun x:Int×SN=>af x.1 v) k (bl b i Ts)=if(i:Int)<=v/\v<(i:Int)+Ts.length then(k:Int)+(v-i) else -1
 |[],i,k=>by rw[if_neg (by simp only[List.length_nil];omega)];rfl
 |T::r,i,k=>by
  show(bif af (i:Int) v then(k:Int) else fg _ (k+1) (bl b (i+1) r))=_;rw[z0o b v r (i+1) (k+1)];by_cases h:(i:Int)=v
  ·rw[h,AP,cond_true,if_pos ⟨by omega,by rw[zw];omega⟩];omega
  ·rw[pD h,cond_false];by_cases h2:((i+1:Nat):Int)<=v/\v<((i+1:Nat):Int)+r.length
   ·rw[if_pos h2,if_pos ⟨by omega,by rw[zw];omega⟩];omega
   ·rw[if_neg h2,if_neg (by rw[zw];omega)]
theorem XV(nb b:Bool)(Ts:List (List ND))(hT:Ts.length<=1000000)(x:ND):sW (⟨nb,bl b 0 Ts⟩,x,())=some (if 0<=x.2.2.1/\x.2.2.1<Ts.length then x.2.2.1 else -1,()):=by
 obtain⟨a,t,n,c⟩:=x;rw[Ui];refine(ph uf (fun k=>(⟨nb,bl b 0 Ts⟩,(a,t,n,c),aa (bl b 0 Ts),k,())) (fun z=>(z,())) (bl b 0 Ts) (by rw[Mv];exact hT) (fun x=>af x.1 n) ?_ ?_).trans ?_
 ·intro k x hx hk;obtain⟨v,s⟩:=x;unfold uf;simp only[cE hx,aI,aT hx,aj,Uh,aH (show k<=1000000000 by omega)];cases af v n<;>rfl
 ·unfold uf;simp only[cQ,aF]
 ·rw[z0o];have:((0:Nat):Int)+(Ts.length:Int)=(Ts.length:Int):=om
  simp only[Int.natCast_zero,Int.zero_add,Int.sub_zero]<;>rfl
def ix(Ts:List (List ND))(a:Sl ND)(x:ND):Sl ND:=⟨aP a.nil (cR (mU Ts x)),a.l++mU Ts x⟩
theorem z49(Ts:List (List ND))(l:List ND):∀a:Sl ND,(l.foldl (ix Ts) a).l=a.l++uM Ts l:=by
 induction l with
 |nil=>intro a;simp[uM]
 |cons x r ih=>intro a;rw[List.foldl_cons,ih];simp[ix,uM]
theorem ql7(Ts:List (List ND))(hT:∀T,T∈Ts->T.length<=4000)(x:ND):(mU Ts x).length<=4000:=by
 unfold mU;cases af x.1 31 with
 |false=>show 1<=_;omega
 |true=>
  rw[cond_true];split
  ·cases h:Ts[x.2.2.1.toNat]? with
   |none=>show 1<=_;omega
   |some T=>exact hT T (zj h)
  ·show 1<=_;omega
theorem XW(Ts:List (List ND))(x:ND)(h:af x.1 31=true):mU Ts x=if 0<=x.2.2.1/\x.2.2.1<Ts.length then(Ts[x.2.2.1.toNat]?).getD [x] else [x]:=by
 unfold mU;rw[h,cond_true];by_cases h0:0<=x.2.2.1
 ·rw[if_pos h0];by_cases h1:x.2.2.1<Ts.length
  ·rw[if_pos ⟨h0,h1⟩]
  ·rw[if_neg (fun h=>h1 h.2),jx om];rfl
 ·rw[if_neg h0,if_neg (fun h=>h0 h.1)]
theorem qrt(nb b b2:Bool)(Ts:List (List ND))(hT:Ts.length<=10000)(hj:∀T,T∈Ts->T.length<=4000)(a:List ND)(ha:a.length<=10000):sX (⟨nb,bl b 0 Ts⟩,⟨b2,a⟩,())=some (a.foldl (ix Ts) ⟨true,[]⟩,()):=by
 rw[Uj];refine rG ug (fun k s=>(⟨nb,bl b 0 Ts⟩,⟨b2,a⟩,aa a,k,s,())) a (ix Ts) (fun s=>(s,())) (fun k s=>k<=a.length/\s.l.length<=k*4000) ⟨true,[]⟩ ⟨Nat.zero_le _,Nat.le_refl _⟩ ?_ ?_
 ·intro k x s hx hi;obtain⟨ns,sl⟩:=s;have h2:sl.length<=k*4000:=hi.2;have hk:=fc hx;have ho:=XV nb b Ts om x;have hq:=ql7 Ts hj x;have hc:=aH (show k<=1000000000 by omega);have hl:∀m:List ND,m.length<=4000->fit (aK (aa sl) (aa m))=some ():=fun m hm=>Sj (by show(sl.length:Int)+(m.length:Int)<=_;omega);refine⟨?_,hk,by show(sl++mU Ts x).length<=_;rw[zm];omega⟩;have hs:=hl [x] (by show 1<=_;omega);obtain⟨kd,t,n,c⟩:=x;unfold ug;simp only[cE hx,aI,aT hx,aj,ho,hs];cases hn:af kd 31 with
  |false=>
   have hv:mU Ts (kd,t,n,c)=[(kd,t,n,c)]:=by unfold mU;simp only[hn,cond_false]
   unfold ix;rw[hv];simp only[nF,aI,aj,hc];rfl
  |true=>
   have hv:=XW Ts (kd,t,n,c) hn;by_cases he:0<=n/\n<(Ts.length:Int)
   ·rw[if_pos he] at hv;have hf:aB n 0=false:=zn om;obtain⟨T,hg⟩:∃T,Ts[n.toNat]?=some T:=⟨_,ze om⟩;have hb:aJ (bl b 0 Ts) n=some (n,⟨b,T⟩):=by
     have h5:(bl b 0 Ts)[n.toNat]?=some (n,⟨b,T⟩):=by rw[XU,hg];show some (((0+n.toNat:Nat):Int),_)=_;rw[show((0+n.toNat:Nat):Int)=n by omega]
     have:=aT h5;rw[Int.toNat_of_nonneg he.1] at this;exact this
    rw[hg] at hv;have hv:mU Ts (kd,t,n,c)=T:=hv;have ht:=hl T (hj T (zj hg));unfold ix;rw[hv,if_pos he];simp only[nT,aF,aj,hf,hb,ht,hc];rfl
   ·rw[if_neg he] at hv;have hf:aB (-1) 0=true:=id (Eq.refl _);unfold ix;rw[hv,if_neg he];simp only[nT,aF,aI,aj,hf,hc];rfl
 ·intro s _;unfold ug;simp only[cQ,aF]
theorem z2o(nb b b2:Bool)(Ts:List (List ND))(hT:Ts.length<=10000)(hy:∀T,T∈Ts->T.length<=4000)(a:List ND)(i:Nat)(hi:i<=1000000)(x:ND)(hx:a[i]?=some x)(s:Sl ND)(hs:s.l.length<=40000000):∀(k:Nat) (z:Int),k<=Ts.length->(z=-1\/(af x.1 31=true/\z=x.2.2.1/\(k:Int)<=z/\z<Ts.length))->(af x.1 31=true->(Ts.length:Int)>x.2.2.1->(k:Int)<=x.2.2.1->z=x.2.2.1)->aG kU (⟨nb,bl b 0 Ts⟩,⟨b2,a⟩,(i:Int),z,(k:Int)-1,s,())=some (.inl (⟨nb,bl b 0 Ts⟩,⟨b2,a⟩,((i+1:Nat):Int),ix Ts s x,())):=by
 have hg:=aH (show i<=1000000000 by omega);have hn:=aT hx;have ht:∀m:List ND,m.length<=4000->fit (aK (aa s.l) (aa m))=some ():=fun m hm=>Sj (by show(s.l.length:Int)+(m.length:Int)<=_;omega);have hA:=ht [x] (by show 1<=_;omega);have hu:∀j:Nat,(hj:j<Ts.length)->aJ (bl b 0 Ts) (j:Int)=some ((j:Int),⟨b,Ts[j]⟩):=fun j hj=>aT (by rw[XU,ze hj,zL];rfl)
 have fin:∀(z:Int) (k':Int),(aq (a8 0 k') (ag (aJ a (i:Int)) (fun x2=>some (af x2.1 31))) (some false):Option Bool)=some false->(z=-1/\(af x.1 31=true->¬(0<=x.2.2.1/\x.2.2.1<Ts.length))\/(af x.1 31=true/\z=x.2.2.1/\0<=z/\z<Ts.length))->
   kU (⟨nb,bl b 0 Ts⟩,⟨b2,a⟩,(i:Int),z,k',s,())=some (.inr (.inl (⟨nb,bl b 0 Ts⟩,⟨b2,a⟩,((i+1:Nat):Int),ix Ts s x,()))):=by
  intro z k' hc hz;unfold kU;simp only[hc,aj,aF];rcases hz with ⟨h1,h2⟩|⟨h1,h2,h3,h4⟩
  ·have ho:aB z 0=true:=zu om;have hv:mU Ts x=[x]:=by
    cases hf:af x.1 31 with
    |false=>unfold mU;rw[hf];rfl
    |true=>rw[XW Ts x hf,if_neg (h2 hf)]
   unfold ix;rw[hv];simp only[ho,aI,hn,aj,hA,hg];rfl
  ·have ho:aB z 0=false:=zn om;have hj:z.toNat<Ts.length:=om
   have hb:=hu z.toNat hj;rw[Int.toNat_of_nonneg h3] at hb;have hv:mU Ts x=Ts[z.toNat]:=by rw[XW Ts x h1,if_pos ⟨by omega,by omega⟩,<-h2,ze hj];rfl
   have hB:=ht Ts[z.toNat] (hy _ (List.getElem_mem hj));unfold ix;rw[hv];simp only[ho,aF,hb,aj,hB,hg];rfl
 intro k
 induction k with
 |zero=>
  intro z _ hz hq;refine dS (fin z _ rfl ?_);rcases hz with h|⟨h1,h2,h3,h4⟩
  ·refine .inl ⟨h,fun hf hC=>?_⟩;have:=hq hf hC.2 om;omega
  ·exact .inr ⟨h1,h2,by omega,h4⟩
 |succ k ih=>
  intro z hk hz hq;have h0:a8 0 (((k+1:Nat):Int)-1)=true:=zu om;cases hf:af x.1 31 with
  |false=>
   refine dS (fin z _ ?_ ?_)
   ·rw[h0,aI,hn,aj,hf]
   ·rcases hz with h|⟨h1,_⟩
    ·exact .inl ⟨h,fun e=>by rw[hf] at e;cases e⟩
    ·rw[hf] at h1;cases h1
  |true=>
   have hb:=hu k om;have hE:((k+1:Nat):Int)-1=(k:Int):=om
   have hl:dK .i64 (k:Int) 1=(k:Int)-1:=vm om om;have hw:a8 0 (k:Int)=true:=zu om;rw[hE];by_cases he:(k:Int)=x.2.2.1
   ·have step:kU (⟨nb,bl b 0 Ts⟩,⟨b2,a⟩,(i:Int),z,(k:Int),s,())=some (.inl (⟨nb,bl b 0 Ts⟩,⟨b2,a⟩,(i:Int),(k:Int),(k:Int)-1,s,())):=by unfold kU;simp only[hw,aI,hn,aj,hf,hb];rw[<-he,AP];simp only[aI,aj,hl]
    rw[gH step];exact ih (k:Int) om (.inr ⟨hf,he,Int.le_refl _,by omega⟩) (fun _ _ _=>he)
   ·have step:kU (⟨nb,bl b 0 Ts⟩,⟨b2,a⟩,(i:Int),z,(k:Int),s,())=some (.inl (⟨nb,bl b 0 Ts⟩,⟨b2,a⟩,(i:Int),z,(k:Int)-1,s,())):=by unfold kU;simp only[hw,aI,hn,aj,hf,hb,pD he,aF,hl]
    rw[gH step];refine ih z om ?_ (fun e1 e2 e3=>hq e1 e2 om);rcases hz with h|⟨h1,h2,h3,h4⟩
    ·exact .inl h
    ·exact .inr ⟨h1,h2,by omega,h4⟩
theorem qn8(nb b b2:Bool)(Ts:List (List ND))(hT:Ts.length<=10000)(he:∀T,T∈Ts->T.length<=4000)(a:List ND)(ha:a.length<=10000):th (⟨nb,bl b 0 Ts⟩,⟨b2,a⟩,())=some (a.foldl (ix Ts) ⟨false,[]⟩,()):=by
 rw[U8];refine rG uw (fun k s=>(⟨nb,bl b 0 Ts⟩,⟨b2,a⟩,k,s,())) a (ix Ts) (fun s=>(s,())) (fun k s=>k<=a.length/\s.l.length<=k*4000) ⟨false,[]⟩ ⟨Nat.zero_le _,Nat.le_refl _⟩ ?_ ?_
 ·intro k x s hx hi;obtain⟨ns,sl⟩:=s;have h2:sl.length<=k*4000:=hi.2;have hk:=fc hx;have hf:=ql7 Ts he x;refine⟨?_,hk,by show(sl++mU Ts x).length<=_;rw[zm];omega⟩;have hg:aa (bl b 0 Ts)=(Ts.length:Int):=by unfold aa;rw[Mv]
  have hc:dK .i64 (aa (bl b 0 Ts)) 1=(Ts.length:Int)-1:=by rw[hg];exact vm om om
  unfold uw;simp only[cE hx,aI,hc];exact z2o nb b b2 Ts hT he a k om x hx ⟨ns,sl⟩ (by show sl.length<=_;omega) Ts.length (-1) (Nat.le_refl _) (.inl rfl) (fun _ e1 e2=>by omega)
 ·intro s _;unfold uw;simp only[cQ,aF]
end Fn
end Ev