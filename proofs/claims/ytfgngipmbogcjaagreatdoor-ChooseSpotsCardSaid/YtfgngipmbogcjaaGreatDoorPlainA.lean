/- Layers 2, 6 and 10 in plain words: trees, patterns, declarations. No statement of its own about the program. -/
import Derived.Test.YtfgngipmbogcjaaGreatDoorFnB
import Derived.Test.YtfgngipmbogcjaaGreatDoorAw
import Derived.Laws.RangeAny
namespace Ev
open Go
namespace Fn
theorem YZ{α β:Type}{x y:Option α}{f g:α->Option β}(h:lq x y)(h2:∀a,lq (f a) (g a)):lq (ag x f) (ag y g):=by
 intro v e;cases hx:x with
 |none=>rw[hx] at e;cases e
 |some a=>rw[hx] at e;rw[h a hx];exact h2 a v e
theorem Za{α:Type}{c:Bool}{x y x' y':Option α}(h:lq x x')(h2:lq y y'):lq (ak c x y) (ak c x' y'):=by
 cases c with
 |true=>exact h
 |false=>exact h2
theorem Zb{α β:Type}{f g:α->Option β}(h:∀a,lq (f a) (g a))(y:α⊕β):lq (ga f y) (ga g y):=by
 cases y with
 |inl a=>exact h a
 |inr b=>exact bH _
theorem Zc{σ ρ:Type}{f g:σ->Option (σ⊕ρ)}(h:∀s,lq (f s) (g s))(n:Nat)(s:σ):lq (mc f n s) (aH g s):=fun r e=>J4 n (WT h n s r e)
def Qm(K:((List Int)×Int×Int×(Sl (List Int))×Unit)->Option ((((List Int)×Int×Int×Int×(Sl (List Int))×Unit)⊕(((List Int)×Int×Int×Int×(Sl (List Int))×Unit)⊕(((List Int)×Int×Int×(Sl (List Int))×Unit)⊕(((List Int)×Int×Int×Int×Int×Unit)⊕((Sl (List Int))×Unit)))))))(x8:(List Int)×Int×Int×Int×(Sl (List Int))×Unit):Option (((List Int)×Int×Int×Int×(Sl (List Int))×Unit)⊕((((List Int)×Int×Int×(Sl (List Int))×Unit)⊕(((List Int)×Int×Int×Int×Int×Unit)⊕((Sl (List Int))×Unit))))):=ak (aA x8.2.2.2.1 (aa x8.1)) (ag (ag (aE x8.1 x8.2.2.2.1) (fun x9=>ag (aE ([0,0,0,0,0,0,0,0,0,1,1,1,1,1,0,0,0,0,0,0,0,0,0,0,0,0,0,0,0,0,0,0,1,0,0,0,0,0,0,0,0,0,0,0,0,0,0,0,0,0,0,0,0,0,0,0,0,0,0,0,0,0,0,0,0,0,0,0,0,0,0,0,0,0,0,0,0,0,0,0,0,0,0,0,0,0,0,0,0,0,0,0,0,0,0,0,0,0,0,0,0,0,0,0,0,0,0,0,0,0,0,0,0,0,0,0,0,0,0,0,0,0,0,0,0,0,0,0,0,0,0,0,0,0,0,0,0,0,0,0,0,0,0,0,0,0,0,0,0,0,0,0,0,0,0,0,0,0,0,0,0,0,0,0,0,0,0,0,0,0,0,0,0,0,0,0,0,0,0,0,0,0,0,0,0,0,0,0,0,0,0,0,0,0,0,0,0,0,0,0,0,0,0,0,0,0,0,0,0,0,0,0,0,0,0,0,0,0,0,0,0,0,0,0,0,0,0,0,0,0,0,0,0,0,0,0,0,0,0,0,0,0,0,0,0,0,0,0,0,0,0,0,0,0,0,0]:List Int) x9) (fun Nd=>ak (af Nd 0) (some (Sum.inl (x8.1,x8.2.1,x8.2.2.1,au IntKind.i64 x8.2.2.2.1 1,x8.2.2.2.2.1,()))) (ag (bX x8.1 x8.2.2.1 x8.2.2.2.1) (fun x11=>ag (cB x8.2.2.2.2.1.l x8.2.1) (fun x12=>ag (ag (nth x8.2.2.2.2.1.l x12) (fun _=>some x11)) (fun x14=>K (x8.1,au IntKind.i64 x8.2.1 1,au IntKind.i64 x8.2.2.2.1 1,⟨x8.2.2.2.2.1.nil,ff x8.2.2.2.2.1.l x12 x14⟩,())))))))) (ga (fun Nf=>some (Sum.inl (Nf.1,Nf.2.1,Nf.2.2.1,Nf.2.2.2.1,Nf.2.2.2.2.1,()))))) (ag (ak (aA x8.2.2.1 (aa x8.1)) (ag (bX x8.1 x8.2.2.1 (aa x8.1)) (fun x20=>ag (cB x8.2.2.2.2.1.l x8.2.1) (fun x21=>ag (ag (nth x8.2.2.2.2.1.l x21) (fun _=>some x20)) (fun x23=>some (⟨x8.2.2.2.2.1.nil,ff x8.2.2.2.2.1.l x21 x23⟩,()))))) (some (x8.2.2.2.2.1,()))) (fun x24=>some (Sum.inr (Sum.inr (Sum.inr (x24.1,()))))))
theorem z50{K K':((List Int)×Int×Int×(Sl (List Int))×Unit)->Option ((((List Int)×Int×Int×Int×(Sl (List Int))×Unit)⊕(((List Int)×Int×Int×Int×(Sl (List Int))×Unit)⊕(((List Int)×Int×Int×(Sl (List Int))×Unit)⊕(((List Int)×Int×Int×Int×Int×Unit)⊕((Sl (List Int))×Unit))))))}(h:∀s,lq (K s) (K' s))(s:(List Int)×Int×Int×Int×(Sl (List Int))×Unit):lq (Qm K s) (Qm K' s):=by
 unfold Qm
 repeat' first|exact h _|exact bH _|apply YZ|apply Za|(intro _)|apply Zb
def Qn(K:((List Int)×Int×Int×Int×(Sl (List Int))×Unit)->Option ((((List Int)×Int×Int×(Sl (List Int))×Unit)⊕(((List Int)×Int×Int×Int×Int×Unit)⊕((Sl (List Int))×Unit)))))(x4:(List Int)×Int×Int×(Sl (List Int))×Unit):Option (((List Int)×Int×Int×(Sl (List Int))×Unit)⊕((((List Int)×Int×Int×Int×Int×Unit)⊕((Sl (List Int))×Unit)))):=ag (ak (aA x4.2.2.1 (aa x4.1)) (ag (aE x4.1 x4.2.2.1) (fun x5=>ag (aE ([0,0,0,0,0,0,0,0,0,1,1,1,1,1,0,0,0,0,0,0,0,0,0,0,0,0,0,0,0,0,0,0,1,0,0,0,0,0,0,0,0,0,0,0,0,0,0,0,0,0,0,0,0,0,0,0,0,0,0,0,0,0,0,0,0,0,0,0,0,0,0,0,0,0,0,0,0,0,0,0,0,0,0,0,0,0,0,0,0,0,0,0,0,0,0,0,0,0,0,0,0,0,0,0,0,0,0,0,0,0,0,0,0,0,0,0,0,0,0,0,0,0,0,0,0,0,0,0,0,0,0,0,0,0,0,0,0,0,0,0,0,0,0,0,0,0,0,0,0,0,0,0,0,0,0,0,0,0,0,0,0,0,0,0,0,0,0,0,0,0,0,0,0,0,0,0,0,0,0,0,0,0,0,0,0,0,0,0,0,0,0,0,0,0,0,0,0,0,0,0,0,0,0,0,0,0,0,0,0,0,0,0,0,0,0,0,0,0,0,0,0,0,0,0,0,0,0,0,0,0,0,0,0,0,0,0,0,0,0,0,0,0,0,0,0,0,0,0,0,0,0,0,0,0,0,0]:List Int) x5) (fun x6=>some (aw (af x6 0))))) (some false)) (fun x7=>ak x7 (some (Sum.inl (x4.1,x4.2.1,au IntKind.i64 x4.2.2.1 1,x4.2.2.2.1,()))) (K (x4.1,x4.2.1,x4.2.2.1,x4.2.2.1,x4.2.2.2.1,())))
theorem z51{K K':((List Int)×Int×Int×Int×(Sl (List Int))×Unit)->Option ((((List Int)×Int×Int×(Sl (List Int))×Unit)⊕(((List Int)×Int×Int×Int×Int×Unit)⊕((Sl (List Int))×Unit))))}(h:∀s,lq (K s) (K' s))(s:(List Int)×Int×Int×(Sl (List Int))×Unit):lq (Qn K s) (Qn K' s):=by
 unfold Qn
 repeat' first|exact h _|exact bH _|apply YZ|apply Za|(intro _)|apply Zb
def Qo(K:((List Int)×Int×Int×(Sl (List Int))×Unit)->Option ((((List Int)×Int×Int×Int×Int×Unit)⊕((Sl (List Int))×Unit))))(x0:(List Int)×Int×Int×Int×Int×Unit):Option (((List Int)×Int×Int×Int×Int×Unit)⊕((Sl (List Int))×Unit)):=ak (aA x0.2.2.2.2.1 (aa x0.1)) (ag (aE x0.1 x0.2.2.2.2.1) (fun x1=>ag (aE ([0,0,0,0,0,0,0,0,0,1,1,1,1,1,0,0,0,0,0,0,0,0,0,0,0,0,0,0,0,0,0,0,1,0,0,0,0,0,0,0,0,0,0,0,0,0,0,0,0,0,0,0,0,0,0,0,0,0,0,0,0,0,0,0,0,0,0,0,0,0,0,0,0,0,0,0,0,0,0,0,0,0,0,0,0,0,0,0,0,0,0,0,0,0,0,0,0,0,0,0,0,0,0,0,0,0,0,0,0,0,0,0,0,0,0,0,0,0,0,0,0,0,0,0,0,0,0,0,0,0,0,0,0,0,0,0,0,0,0,0,0,0,0,0,0,0,0,0,0,0,0,0,0,0,0,0,0,0,0,0,0,0,0,0,0,0,0,0,0,0,0,0,0,0,0,0,0,0,0,0,0,0,0,0,0,0,0,0,0,0,0,0,0,0,0,0,0,0,0,0,0,0,0,0,0,0,0,0,0,0,0,0,0,0,0,0,0,0,0,0,0,0,0,0,0,0,0,0,0,0,0,0,0,0,0,0,0,0,0,0,0,0,0,0,0,0,0,0,0,0,0,0,0,0,0,0]:List Int) x1) (fun x2=>some (Sum.inl (x0.1,au IntKind.i64 x0.2.1 (qF IntKind.i64 x0.2.2.1 (nu IntKind.i64 (-1) (j9 IntKind.i64 x2))),j9 IntKind.i64 x2,ES IntKind.u8 x0.2.2.2.1 x1,au IntKind.i64 x0.2.2.2.2.1 1,()))))) (ak (bf 128 x0.2.2.2.1) none (ag (sS x0.2.1 x0.2.1) (fun x3=>K (x0.1,0,0,⟨false,rep x3 ([]:List Int)⟩,()))))
theorem z52{K K':((List Int)×Int×Int×(Sl (List Int))×Unit)->Option ((((List Int)×Int×Int×Int×Int×Unit)⊕((Sl (List Int))×Unit)))}(h:∀s,lq (K s) (K' s))(s:(List Int)×Int×Int×Int×Int×Unit):lq (Qo K s) (Qo K' s):=by
 unfold Qo
 repeat' first|exact h _|exact bH _|apply YZ|apply Za|(intro _)|apply Zb
def Zd:List Int:=[108,101,116,32,114,101,99,32,105,110,32,102,117,110,32,105,102,32,116,104,101,110,32,101,108,115,101,32,109,97,116,99,104,32,119,105,116,104,32,101,110,100,32,114,97,105,115,101,32,116,114,121,32,111,112,101,110,32,116,121,112,101,32,111,102,32,105,110,102,105,120,108,32,105,110,102,105,120,114,32,105,110,102,105,120,32,45,62,32,61,32,124,32,40,32,41,32,95,32,59,59]
def sI:List (List Int):=[[108,101,116],[114,101,99],[105,110],[102,117,110],[105,102],[116,104,101,110],[101,108,115,101],[109,97,116,99,104],[119,105,116,104],[101,110,100],[114,97,105,115,101],[116,114,121],[111,112,101,110],[116,121,112,101],[111,102],[105,110,102,105,120,108],[105,110,102,105,120,114],[105,110,102,105,120],[45,62],[61],[124],[40],[41],[95],[59,59]]
noncomputable def n1:=fun s=>mc Bo 200 s
noncomputable def n2:=fun s=>mc (Qm n1) 200 s
noncomputable def n3:=fun s=>mc (Qn n2) 200 s
noncomputable def n4:=fun s=>mc (Qo n3) 200 s
theorem z88(s):lq (n1 s) (aH Bo s):=fun _r e=>J4 200 e
theorem z89(s):lq (n2 s) (aH Fy s):=Zc (fun s=>z50 z88 s) 200 s
theorem z8a(s):lq (n3 s) (aH Fz s):=Zc (fun s=>z51 z89 s) 200 s
theorem z8b(s):lq (n4 s) (aH FA s):=Zc (fun s=>z52 z8a s) 200 s
theorem z16:n4 (Zd,0,1,0,0,())=some (⟨false,sI⟩,()):=by kernel_rfl
theorem qt1:tN ()=some (⟨false,sI⟩,()):=by
 rw[Uw];have h:tM (Zd,())=some (⟨false,sI⟩,()):=by rw[Uv];exact z8b _ _ z16
 show ag (tM (Zd,())) _=_;rw[h];rfl
theorem qor:Be ()=some (⟨false,sI⟩,()):=Wj
theorem aI{k:Nat}(h:k<=1000000000):au .i64 (k:Int) 1=((k+1:Nat):Int):=by rw[Ft om om];omega
theorem sJ{α:Type}{l:List α}{k:Nat}(h:k<l.length):l.drop k=l[k]::l.drop (k+1):=List.drop_eq_getElem_cons h
theorem vR{α:Type}{l:List α}{i:Nat}(h:i<l.length):cB l (i:Int)=some i:=by unfold cB;rw[if_pos om];rfl
theorem z70{α:Type}{l:List α}{i:Nat}{x:α}(h:l[i]?=some x):nth l i=some x:=h
theorem Ze{α:Type}{l:List α}{k:Nat}(h:k<=l.length):bX l 0 (k:Int)=some (l.take k):=by unfold bX;rw[if_pos om];rfl
theorem qt2(s:List Int)(n:Bool)(l:List (List Int))(hl:l.length<=1000000):∀(m k:Nat),k+m=l.length->∃r,aH pg (⟨n,l⟩,s,(l.length:Int),(k:Int),())=some (r,())/\(0<=r↔s∈l.drop k):=by
 intro m
 induction m with
 |zero=>intro k hk;refine⟨-1,dO ?_,by rw[zR om];simp⟩;unfold pg;simp only;rw[eI,if_neg om]
 |succ m ih=>
  intro k hk;have hc:k<l.length:=om
  rw[sJ hc];have step:pg (⟨n,l⟩,s,(l.length:Int),(k:Int),())=if s=l[k] then some (.inr ((k:Int),())) else some (.inl (⟨n,l⟩,s,(l.length:Int),((k+1:Nat):Int),())):=by unfold pg;simp only;rw[eI,if_pos om,aQ (ze hc),aj,LP,aI om]
  by_cases h:s=l[k]
  ·rw[if_pos h] at step;exact⟨k,dO step,by simp[h,-List.getElem_cons_drop]⟩
  ·rw[if_neg h] at step;obtain⟨r,h1,h2⟩:=ih (k+1) om;exact⟨r,by rw[fE step,h1],by rw[h2];simp[h,-List.getElem_cons_drop]⟩
theorem Zf(s:List Int):pY (s,())=some (decide (s∈sI),()):=by obtain⟨r,h1,h2⟩:=qt2 s false sI dc 25 0 dc;rw[Ux,qt1,aj,Uu,Ut];have h1:aH pg (⟨false,sI⟩,s,aa sI,0,())=some (r,()):=h1;simp only[h1,aj];have:bf 0 r=decide (s∈sI):=decide_eq_decide.2 (by rw[h2];rfl);rw[this]
theorem qxa(s:List Int)(n:Bool)(l:List (List Int))(hl:l.length<=1000000):∀(m k:Nat),k+m=l.length->aH sc (s,⟨n,l⟩,(k:Int),())=some (decide (s∈l.drop k),()):=by
 intro m
 induction m with
 |zero=>intro k hk;refine dO ?_;unfold sc;simp only;rw[eI,if_neg (by unfold aa;omega),zR om];simp
 |succ m ih=>
  intro k hk;have hc:k<l.length:=om
  rw[sJ hc];have step:sc (s,⟨n,l⟩,(k:Int),())=if l[k]=s then some (.inr (true,())) else some (.inl (s,⟨n,l⟩,((k+1:Nat):Int),())):=by unfold sc;simp only;rw[eI,if_pos (by unfold aa;omega),aQ (ze hc),aj,LP,aI om]
  by_cases h:l[k]=s
  ·rw[if_pos h] at step;rw[dO step];simp[h,-List.getElem_cons_drop]
  ·rw[if_neg h] at step;rw[fE step,ih (k+1) om];have:s≠l[k]:=fun e=>h e.symm;simp[this,-List.getElem_cons_drop]
theorem qmj(s:List Int):D0 (s,())=some (decide (s∈sI),()):=by rw[Wk,qor,aj];exact qxa s false sI dc 25 0 dc
def aP:List Int:=[33,36,37,38,42,43,45,47,58,60,61,62,63,64,94,124]
theorem qxb(c:Int):∀l:List Int,(0<=pa c l↔c∈l)
 |[]=>by simp[pa]
 |b::r=>by
  have ih:=qxb c r;unfold pa;by_cases h:b=c
  ·rw[if_pos h];simp[h]
  ·rw[if_neg h];have:c≠b:=fun e=>h e.symm;simp only[zu,this,false_or];rw[<-ih];split<;>omega
theorem qxc(c:Int):qU (c,())=some (decide (c∈aP),()):=by rw[UB,UA,aj];have:bf 0 (pa c aP)=decide (c∈aP):=decide_eq_decide.2 (qxb c aP);show some (bf 0 (pa c aP),())=_;rw[this]
theorem z53(c:Int):∀(m k:Nat),k+m=16->∃r,aH kL (c,aP,(k:Int),())=some (r,())/\r<=5/\(r=5↔c∈aP.drop k):=by
 have he:aP.length=16:=rfl;intro m
 induction m with
 |zero=>
  intro k hk;rw[zR om];have last:∀(b1 b2 b3 b4:Bool),∃r:Int,(ak b1 (some (Sum.inr (1,()))) (ak b2 (some (Sum.inr (2,()))) (ak b3 (some (Sum.inr (3,()))) (ak b4 (some (Sum.inr (4,()))) (some (Sum.inr (0,())))))):Option ((Int×(List Int)×Int×Unit)⊕(Int×Unit)))=some (.inr (r,()))/\r<=5/\r≠5:=by intro b1 b2 b3 b4;cases b1<;>cases b2<;>cases b3<;>cases b4<;>exact⟨_,rfl,by decide,by decide⟩
  have two:∀(a b:Int) (b2:Bool),(ak (bf a c) (some b2) (some false):Option Bool)=some (bf a c&&b2):=fun a b b2=>by cases bf a c<;>rfl
  have or2:∀(b1 b2:Bool),(ak b1 (some true) (some b2):Option Bool)=some (b1||b2):=fun b1 b2=>by cases b1<;>rfl
  obtain⟨r,h1,h2,h3⟩:=last (bf 97 c&&bf c 122) (bf 65 c&&bf c 90) (bf 48 c&&bf c 57) (af c 95||af c 39);refine⟨r,dO ?_,h2,by simp[h3]⟩;unfold kL;simp only;rw[eI,if_neg (by unfold aa;omega),two 97 0,two 65 0,two 48 0,or2];simp only[aj];exact h1
 |succ m ih=>
  intro k hk;have hc:k<aP.length:=om
  rw[sJ hc];have step:kL (c,aP,(k:Int),())=if aP[k]=c then some (.inr (5,())) else some (.inl (c,aP,((k+1:Nat):Int),())):=by unfold kL;simp only;rw[eI,if_pos (by unfold aa;omega),aQ (ze hc),aj,P5,aI om]
  by_cases h:aP[k]=c
  ·rw[if_pos h] at step;exact⟨5,dO step,by omega,by simp[h,-List.getElem_cons_drop]⟩
  ·rw[if_neg h] at step;obtain⟨r,h1,h2,h3⟩:=ih (k+1) om;have hn:c≠aP[k]:=fun e=>h e.symm;exact⟨r,by rw[fE step,h1],h2,by rw[h3];simp[hn,-List.getElem_cons_drop]⟩
theorem bW(c:Int):∃r,ry (c,())=some (r,())/\r<=5/\(r=5↔c∈aP):=by obtain⟨r,h1,h2,h3⟩:=z53 c 16 0 rfl;exact⟨r,by rw[My];exact h1,h2,h3⟩
def EB(s:List Int):Bool:=!s.isEmpty&&s.all fun b=>decide (b∈aP)
def Bw(s:List Int):Bool:=EB s&&!decide (s∈sI)
theorem qxd{b:Int}(h:b∈aP):0<=b/\b<=126:=by unfold aP at h;simp only[zu,List.not_mem_nil,or_false] at h;omega
theorem qxe{s:List Int}(hs:∀b,b∈s->0<=b/\b<=255){k:Nat}(hk:k<s.length):(s[k]<=127->fA s (k:Int)=s[k]/\gN s (k:Int)=((k+1:Nat):Int))/\(127<s[k]->126<fA s (k:Int)):=by
 have hb:=hs _ (List.getElem_mem hk);have he:(xx s).size=s.length:=by show(s.map _).toArray.size=_;simp
 have hc:k<(xx s).size:=om
 have hg:(((xx s)[k]'hc).toNat:Int)=s[k]:=by
  have:(xx s)[k]'hc=UInt8.ofNat s[k].toNat:=by have h1:(xx s)[k]'hc=((s.map fun b=>UInt8.ofNat b.toNat).toArray)[k]'(by simpa using hk):=rfl;rw[h1,List.getElem_toArray,List.getElem_map]
  rw[this,UInt8.toNat_ofNat',Nat.mod_eq_of_lt om];omega
 unfold fA gN;rw[Int.toNat_natCast,if_pos om];constructor
 ·intro h;have:=decode_ascii (xx s) k hc om;rw[this];exact⟨hg,by simp⟩
 ·intro h;have:=(decode_high (xx s) k hc om).1;omega
theorem z17{s:List Int}(hs:∀b,b∈s->0<=b/\b<=255):∀(m k:Nat),k+m=s.length->aH rC (s,s,(k:Int),())=some ((s.drop k).all (fun b=>decide (b∈aP))&&!s.isEmpty,()):=by
 intro m
 induction m with
 |zero=>intro k hk;refine dO ?_;unfold rC;simp only;rw[eI,if_neg (by unfold aa;omega),zR om];cases s<;>rfl
 |succ m ih=>
  intro k hk;have hc:k<s.length:=om
  rw[sJ hc];obtain⟨h1,h2⟩:=qxe hs hc;have c0:aA (k:Int) (aa s)=true:=zn (by unfold aa;omega);have hb:=hs _ (List.getElem_mem hc);have step:rC (s,s,(k:Int),())=if s[k]∈aP then some (.inl (s,s,((k+1:Nat):Int),())) else some (.inr (false,())):=by
   unfold rC;simp only[c0,aG,aj];by_cases h:s[k]<=126
   ·obtain⟨e1,e2⟩:=h1 om;rw[e1,e2];have c1:aA 126 s[k]=false:=zm om;have c2:j9 .u8 s[k]=s[k]:=by rw[z3a];omega
    simp only[c1,aD,c2,qxc,aj,aw];by_cases hm:s[k]∈aP
    ·rw[if_pos hm];simp[hm,aD]
    ·rw[if_neg hm];simp[hm,aG]
   ·have hm:s[k]∉aP:=fun e=>by have:=qxd e;omega
    rw[if_neg hm];have c1:aA 126 (fA s (k:Int))=true:=by
     refine zn ?_;by_cases he:s[k]<=127
     ·rw[(h1 he).1];omega
     ·exact h2 om
    simp only[c1,aG,aj]
  by_cases hm:s[k]∈aP
  ·rw[if_pos hm] at step;rw[fE step,ih (k+1) om];simp[hm,-List.getElem_cons_drop]
  ·rw[if_neg hm] at step;rw[dO step];simp[hm,-List.getElem_cons_drop]
theorem z18{s:List Int}(hs:∀b,b∈s->0<=b/\b<=255):wR (s,())=some (EB s,()):=by rw[UC];have:=z17 hs s.length 0 om;rw[List.drop_zero,Bool.and_comm] at this;exact this
def sK:List Int->Nat
 |[]=>0
 |b::r=>if b∈aP then sK r+1 else 0
theorem qr6:∀s:List Int,(sK s=s.length↔s.all (fun b=>decide (b∈aP))=true)
 |[]=>by simp[sK]
 |b::r=>by
  have ih:=qr6 r;unfold sK;by_cases h:b∈aP
  ·rw[if_pos h,zw,List.all_cons];simp only[h,decide_true,Bool.true_and,<-ih];omega
  ·rw[if_neg h];simp[h]
theorem qt3(s:List Int)(hl:s.length<=1000000):∀(m k:Nat),k+m=s.length->aH kM (s,(k:Int),5,5,())=some (((k+sK (s.drop k):Nat):Int),()):=by
 intro m
 induction m with
 |zero=>intro k hk;refine dO ?_;unfold kM;simp only;rw[eI,if_neg (by unfold aa;omega),zR om];rfl
 |succ m ih=>
  intro k hk;have hc:k<s.length:=om
  rw[sJ hc];obtain⟨r,h1,h2,h3⟩:=bW s[k];have c0:aA (k:Int) (aa s)=true:=zn (by unfold aa;omega);have step:kM (s,(k:Int),5,5,())=if s[k]∈aP then some (.inl (s,((k+1:Nat):Int),5,5,())) else some (.inr ((k:Int),())):=by
   unfold kM;simp only[c0,aG,aQ (ze hc),aj,h1,aI (by omega:k<=1000000000)];by_cases hm:s[k]∈aP
   ·rw[if_pos hm];have:r=5:=h3.2 hm;subst this;rfl
   ·rw[if_neg hm];have:bf 5 r=false:=zm (fun e=>hm (h3.1 om));simp only[this,aD,aj]
  unfold sK;by_cases hm:s[k]∈aP
  ·rw[if_pos hm] at step ⊢;rw[fE step,ih (k+1) om];congr 2;omega
  ·rw[if_neg hm] at step ⊢;rw[dO step];rfl
theorem qxf(s:List Int)(hs:∀b,b∈s->0<=b/\b<=255):mM ((5,s,0,0),())=some (Bw s,()):=by rw[GW,z18 hs,Zf];have c1:aA 0 0=false:=rfl;have c2:af 5 3=false:=rfl;have c3:af 0 0=true:=rfl;have c4:af 5 1=false:=rfl;have c5:af 5 2=false:=rfl;have c6:af 5 4=false:=rfl;have c7:af 5 5=true:=rfl;simp only[c1,c2,c3,c4,c5,c6,c7,aD,aG,aj,aw,Bool.not_true,Bool.not_false];unfold Bw;cases EB s<;>rfl
theorem qxg(s:List Int)(hl:s.length<=1000000):oM ((5,s,0,0),())=some (Bw s,()):=by
 rw[GX];have c1:aA 0 0=false:=rfl;have c2:af 5 3=false:=rfl;have c3:af 0 0=true:=rfl;have c4:af 5 1=false:=rfl;have c5:af 5 2=false:=rfl;have c6:af 5 4=false:=rfl;have c7:af 5 5=true:=rfl;have hw:Bd (s,0,5,5,())=some ((sK s:Int),()):=by rw[Mz];have:=qt3 s hl s.length 0 om;rw[List.drop_zero,zN] at this;exact this
 have he:af (sK s:Int) (aa s)=s.all (fun b=>decide (b∈aP)):=by rw[Bool.eq_iff_iff,aV,<-qr6];unfold aa;omega
 have hn:aM s []=s.isEmpty:=by cases s<;>rfl
 simp only[c1,c2,c3,c4,c5,c6,c7,aD,aG,aj,aw,hw,he,hn,qmj];unfold Bw EB;cases s.isEmpty<;>cases s.all (fun b=>decide (b∈aP))<;>cases decide (s∈sI)<;>rfl
def pC(c:Int):Bool:=bf 97 c&&bf c 122
def lZ(c:Int):Bool:=bf 65 c&&bf c 90
def Cd(c:Int):Bool:=bf 48 c&&bf c 57
def kX(c:Int):Bool:=pC c||lZ c||Cd c||af c 95||af c 39
theorem FH(a b:Bool):(ak a (some b) (some false):Option Bool)=some (a&&b):=by cases a<;>rfl
theorem Ng(a b:Bool):(ak a (some true) (some b):Option Bool)=some (a||b):=by cases a<;>rfl
theorem qhw(c:Int):qR (c,())=some (pC c,()):=by rw[Un,FH];rfl
theorem qhx(c:Int):qS (c,())=some (lZ c,()):=by rw[Uo,FH];rfl
theorem qt4(c:Int):tK (c,())=some (Cd c,()):=by rw[Uq,FH];rfl
theorem qt5(c:Int):qT (c,())=some (kX c,()):=by rw[Ur,qhw,qhx,qt4];simp only[aj,Ng];rfl
theorem qxh{c:Int}(h:kX c=true):0<=c/\c<=126:=by unfold kX pC lZ Cd bf at h;simp only[Bool.or_eq_true,zd,decide_eq_true_eq,aV] at h;omega
theorem qxi{s:List Int}(hs:∀b,b∈s->0<=b/\b<=255):∀(m k:Nat),k+m=s.length->aH rB (s,s,(k:Int),())=some ((s.drop k).all kX&&!s.isEmpty,()):=by
 intro m
 induction m with
 |zero=>intro k hk;refine dO ?_;unfold rB;simp only;rw[eI,if_neg (by unfold aa;omega),zR om];cases s<;>rfl
 |succ m ih=>
  intro k hk;have hc:k<s.length:=om
  rw[sJ hc];obtain⟨h1,h2⟩:=qxe hs hc;have c0:aA (k:Int) (aa s)=true:=zn (by unfold aa;omega);have hb:=hs _ (List.getElem_mem hc);have step:rB (s,s,(k:Int),())=if kX s[k]=true then some (.inl (s,s,((k+1:Nat):Int),())) else some (.inr (false,())):=by
   unfold rB;simp only[c0,aG,aj];by_cases h:s[k]<=126
   ·obtain⟨e1,e2⟩:=h1 om;rw[e1,e2];have c1:aA 126 s[k]=false:=zm om;have c2:j9 .u8 s[k]=s[k]:=by rw[z3a];omega
    simp only[c1,aD,c2,qt5,aj,aw];cases kX s[k]<;>rfl
   ·have hm:¬kX s[k]=true:=fun e=>by have:=qxh e;omega
    rw[if_neg hm];have c1:aA 126 (fA s (k:Int))=true:=by
     refine zn ?_;by_cases he:s[k]<=127
     ·rw[(h1 he).1];omega
     ·exact h2 om
    simp only[c1,aG,aj]
  rw[List.all_cons];cases hm:kX s[k] with
  |true=>rw[hm,if_pos rfl] at step;rw[fE step,ih (k+1) om,Bool.true_and]
  |false=>rw[hm,if_neg dc] at step;rw[dO step,Bool.false_and,Bool.false_and]
theorem qml{s:List Int}(hs:∀b,b∈s->0<=b/\b<=255):tL (s,())=some (s.all kX&&!s.isEmpty,()):=by rw[Us];exact qxi hs s.length 0 om
def xQ(c:Int):Int:=bif decide (c∈aP) then 5 else bif pC c then 1 else bif lZ c then 2 else bif Cd c then 3 else bif af c 95||af c 39 then 4 else 0
theorem qxj(c:Int):∀(m k:Nat),k+m=16->aH kL (c,aP,(k:Int),())=some (bif decide (c∈aP.drop k) then 5 else bif pC c then 1 else bif lZ c then 2 else bif Cd c then 3 else bif af c 95||af c 39 then 4 else 0,()):=by
 have he:aP.length=16:=rfl;intro m
 induction m with
 |zero=>intro k hk;rw[zR om];refine dO ?_;unfold kL;simp only;rw[eI,if_neg (by unfold aa;omega)];simp only[FH,Ng,aj];show _=some (Sum.inr (bif decide (c∈[]) then _ else _,()));have:decide (c∈([]:List Int))=false:=rfl;rw[this];show(ak (pC c) _ (ak (lZ c) _ (ak (Cd c) _ _)):Option _)=_;cases pC c<;>cases lZ c<;>cases Cd c<;>cases (af c 95||af c 39)<;>rfl
 |succ m ih=>
  intro k hk;have hc:k<aP.length:=om
  rw[sJ hc];have step:kL (c,aP,(k:Int),())=if aP[k]=c then some (.inr (5,())) else some (.inl (c,aP,((k+1:Nat):Int),())):=by unfold kL;simp only;rw[eI,if_pos (by unfold aa;omega),aQ (ze hc),aj,P5,aI om]
  by_cases h:aP[k]=c
  ·rw[if_pos h] at step;rw[dO step];simp[h,-List.getElem_cons_drop]
  ·rw[if_neg h] at step;have hn:c≠aP[k]:=fun e=>h e.symm;rw[fE step,ih (k+1) om];have:decide (c∈aP[k]::aP.drop (k+1))=decide (c∈aP.drop (k+1)):=by simp[hn,-List.getElem_cons_drop]
   rw[this]
theorem qmm(c:Int):ry (c,())=some (xQ c,()):=by rw[My];exact qxj c 16 0 rfl
theorem Zg{c:Int}(h:c∈aP):kX c=false:=by unfold aP at h;simp only[zu,List.not_mem_nil,or_false] at h;rcases h with h|h|h|h|h|h|h|h|h|h|h|h|h|h|h|h<;>subst h<;>decide
theorem qt6(c:Int):(bf 1 (xQ c)&&bf (xQ c) 4)=kX c:=by
 unfold xQ;by_cases h:c∈aP
 ·rw[Zg h];simp[h,bf]
 ·simp only[h,decide_false,cond_false];unfold kX;cases pC c<;>cases lZ c<;>cases Cd c<;>cases h1:af c 95<;>cases af c 39<;>rfl
theorem qot{c:Int}(h:lZ c=true):pC c=false:=by
 unfold lZ pC bf at*
 simp only[zd,decide_eq_true_eq,Bool.and_eq_false_iff,decide_eq_false_iff_not] at*
 omega
theorem qt7{c:Int}(h:kX c=true):af (xQ c) 1=pC c:=by
 unfold xQ;have hs:c∉aP:=fun e=>by rw[Zg e] at h;cases h
 simp only[hs,decide_false,cond_false];cases pC c<;>cases lZ c<;>cases Cd c<;>cases (af c 95||af c 39)<;>rfl
theorem qt8{c:Int}(h:kX c=true):af (xQ c) 2=lZ c:=by
 unfold xQ;have hs:c∉aP:=fun e=>by rw[Zg e] at h;cases h
 simp only[hs,decide_false,cond_false];cases hg:lZ c with
 |true=>rw[qot hg];rfl
 |false=>cases pC c<;>cases Cd c<;>cases (af c 95||af c 39)<;>rfl
def oS:List Int->Nat
 |[]=>0
 |b::r=>bif kX b then oS r+1 else 0
theorem z54:∀s,oS s<=s.length
 |[]=>Nat.le_refl _
 |b::r=>by unfold oS;have:=z54 r;cases kX b<;>simp<;>omega
theorem qr7:∀s:List Int,(oS s=s.length↔s.all kX=true)
 |[]=>by simp[oS]
 |b::r=>by
  have ih:=qr7 r;unfold oS;cases h:kX b with
  |true=>simp only[cond_true,zw,List.all_cons,h,Bool.true_and,<-ih];omega
  |false=>simp[h]
theorem qou(s:List Int)(hl:s.length<=1000000):∀(m k:Nat),k+m=s.length->aH kM (s,(k:Int),1,4,())=some (((k+oS (s.drop k):Nat):Int),()):=by
 intro m
 induction m with
 |zero=>intro k hk;refine dO ?_;unfold kM;simp only;rw[eI,if_neg (by unfold aa;omega),zR om];rfl
 |succ m ih=>
  intro k hk;have hc:k<s.length:=om
  rw[sJ hc];have c0:aA (k:Int) (aa s)=true:=zn (by unfold aa;omega);have step:kM (s,(k:Int),1,4,())=bif kX s[k] then some (.inl (s,((k+1:Nat):Int),1,4,())) else some (.inr ((k:Int),())):=by unfold kM;simp only[c0,aG,aQ (ze hc),aj,qmm,aI (by omega:k<=1000000000)];rw[<-qt6];cases bf 1 (xQ s[k])<;>cases bf (xQ s[k]) 4<;>rfl
  unfold oS;cases hm:kX s[k] with
  |true=>rw[hm] at step;rw[fE step,ih (k+1) om];simp only[cond_true];congr 2;omega
  |false=>rw[hm] at step;rw[dO step];rfl
def z55(p:Int->Bool):List Int->Bool
 |[]=>false
 |b::_=>p b
def qB(p:Int->Bool)(s:List Int):Bool:=s.all kX&&!s.isEmpty&&z55 p s&&!decide (s∈sI)
theorem qxk(s:List Int)(a2 a3:Int)(hs:∀b,b∈s->0<=b/\b<=255):tO ((1,s,a2,a3),())=some (qB pC s,()):=by
 rw[Uy,qml hs,Zf];simp only[aj];cases s with
 |nil=>rfl
 |cons b r=>have h0:aE (b::r) 0=some b:=rfl;rw[h0];simp only[aj,qhw];unfold qB;show _=some (_&&pC b&&_,());cases List.all (b::r) kX<;>cases pC b<;>cases decide (b::r∈sI)<;>rfl
theorem qxl(s:List Int)(a2 a3:Int)(hs:∀b,b∈s->0<=b/\b<=255):tP ((2,s,a2,a3),())=some (qB lZ s,()):=by
 rw[Uz,qml hs,Zf];simp only[aj];cases s with
 |nil=>rfl
 |cons b r=>have h0:aE (b::r) 0=some b:=rfl;rw[h0];simp only[aj,qhx];unfold qB;show _=some (_&&lZ b&&_,());cases List.all (b::r) kX<;>cases lZ b<;>cases decide (b::r∈sI)<;>rfl
theorem qt9(s:List Int)(hs:∀b,b∈s->0<=b/\b<=255):mM ((1,s,0,0),())=some (qB pC s,()):=by rw[GW,qxk s 0 0 hs];have c1:aA 0 0=false:=rfl;have c2:af 1 3=false:=rfl;have c3:af 0 0=true:=rfl;have c4:af 1 1=true:=rfl;simp only[c1,c2,c3,c4,aD,aG,aj,aw,Bool.not_true,Bool.not_false]
theorem Zh(s:List Int)(hs:∀b,b∈s->0<=b/\b<=255):mM ((2,s,0,0),())=some (qB lZ s,()):=by rw[GW,qxl s 0 0 hs];have c1:aA 0 0=false:=rfl;have c2:af 2 3=false:=rfl;have c3:af 0 0=true:=rfl;have c4:af 2 1=false:=rfl;have c5:af 2 2=true:=rfl;simp only[c1,c2,c3,c4,c5,aD,aG,aj,aw,Bool.not_true,Bool.not_false]
theorem z3b(k:Int)(p:Int->Bool)(hp:∀c,kX c=true->af (xQ c) k=p c)(s:List Int)(hl:s.length<=1000000)(X:Option (Bool×Unit)):ak (aw (aM s ([]:List Int))) (ag (aE s 0) (fun x1=>ag (ry (x1,())) (fun x2=>ak (af x2.1 k) (ag (Bd (s,0,1,4,())) (fun x3=>ak (af x3.1 (aa s)) (ag (D0 (s,())) (fun x4=>some (aw x4.1,()))) (some (false,())))) (some (false,()))))) X=bif s.isEmpty then X else some (qB p s,()):=by
 have hw:Bd (s,0,1,4,())=some ((oS s:Int),()):=by rw[Mz];have:=qou s hl s.length 0 om;rw[List.drop_zero,zN] at this;exact this
 have he:af (oS s:Int) (aa s)=s.all kX:=by rw[Bool.eq_iff_iff,aV,<-qr7];unfold aa;omega
 cases s with
 |nil=>rfl
 |cons b r=>
  have hn:aM (b::r) []=false:=rfl;have h0:aE (b::r) 0=some b:=rfl;simp only[hn,aw,Bool.not_false,aG,h0,aj,qmm,hw,he,qmj];have hi:List.isEmpty (b::r)=false:=rfl;rw[hi,cond_false];unfold qB;rw[hi];show _=some (_&&p b&&_,());cases hb:kX b with
  |true=>rw[hp b hb];cases List.all (b::r) kX<;>cases p b<;>cases decide (b::r∈sI)<;>rfl
  |false=>
   have ha:List.all (b::r) kX=false:=by rw[List.all_cons,hb];rfl
   rw[ha];cases af (xQ b) k<;>rfl
theorem qta(s:List Int)(hl:s.length<=1000000):oM ((1,s,0,0),())=some (qB pC s,()):=by rw[GX];have c1:aA 0 0=false:=rfl;have c3:af 0 0=true:=rfl;have c4:af 1 1=true:=rfl;simp only[c1,c3,c4,aD,aG,aj];rw[z3b 1 pC (fun c h=>qt7 h) s hl];cases s<;>rfl
theorem Zi(s:List Int)(hl:s.length<=1000000):oM ((2,s,0,0),())=some (qB lZ s,()):=by rw[GX];have c1:aA 0 0=false:=rfl;have c3:af 0 0=true:=rfl;have c4:af 2 1=false:=rfl;have c5:af 2 2=true:=rfl;simp only[c1,c3,c4,c5,aD,aG,aj];rw[z3b 2 lZ (fun c h=>qt8 h) s hl];cases s<;>rfl
def bK(s:List Int):Bool:=qB pC s||Bw s
def eJ(s:List Int):Bool:=qB lZ s
theorem qxm{s:List Int}(hs:∀b,b∈s->0<=b/\b<=255):tQ (s,())=some (bK s,()):=by rw[UG,qt9 s hs,qxf s hs];simp only[aj,Ng];rfl
theorem Zj{s:List Int}(hs:∀b,b∈s->0<=b/\b<=255):mN (s,())=some (eJ s,()):=by rw[UD,Zh s hs];rfl
theorem qtb{s:List Int}(hl:s.length<=1000000):D8 (s,())=some (bK s,()):=by rw[Wz,qta s hl,qxg s hl];simp only[aj,Ng];rfl
theorem qxn{s:List Int}(hl:s.length<=1000000):D9 (s,())=some (eJ s,()):=by rw[WA,Zi s hl];rfl
abbrev ND:=Int×List Int×Int×Int
inductive F where
 |nil:F
 |cons:Int->List Int->Int->F->F->F
def F.aq:F->Nat
 |.nil=>0
 |.cons _ _ _ _ r=>r.aq+1
def F.flat:F->List ND
 |.nil=>[]
 |.cons k t n ks r=>(k,t,n,(ks.aq:Int))::(ks.flat++r.flat)
def F.size:F->Nat
 |.nil=>0
 |.cons _ _ _ ks r=>ks.size+r.size+1
def F.dep:F->Nat
 |.nil=>0
 |.cons _ _ _ ks r=>max (ks.dep+1) r.dep
def F.app:F->F->F
 |.nil,g=>g
 |.cons k t n ks r,g=>.cons k t n ks (r.app g)
abbrev tr(k:Int)(t:List Int)(n:Int)(ks:F):F:=.cons k t n ks .nil
theorem F.len:∀f:F,f.flat.length=f.size
 |.nil=>rfl
 |.cons k t n ks r=>by show(_::(ks.flat++r.flat)).length=ks.size+r.size+1;rw[zw,zt,ks.len,r.len]
theorem F.cq:∀f:F,f.aq<=f.size
 |.nil=>Nat.le_refl _
 |.cons k t n ks r=>by have:=r.cq;show r.aq+1<=ks.size+r.size+1;omega
theorem F.jY:∀f:F,f.dep<=f.size
 |.nil=>Nat.le_refl _
 |.cons k t n ks r=>by have h1:=r.jY;have h2:=ks.jY;show max (ks.dep+1) r.dep<=ks.size+r.size+1;omega
theorem qg(k:Int)(t:List Int)(n:Int)(ks:F):(tr k t n ks).flat=(k,t,n,(ks.aq:Int))::ks.flat:=by show _::(ks.flat++[])=_;rw[zC]
theorem EC(k:Int)(t:List Int)(n:Int)(ks:F):(tr k t n ks).size=ks.size+1:=rfl
def skip(N:Nat):List ND->Nat->Option (List ND)
 |l,0=>some l
 |[],_+1=>none
 |d::r,c+1=>if 0<=d.2.2.2/\d.2.2.2<=(N:Int) then skip N r (c+d.2.2.2.toNat) else none
theorem Kj(N:Nat)(l:List ND):skip N l 0=some l:=by cases l<;>rfl
theorem FI(N:Nat)(d:ND)(r:List ND)(c:Nat):skip N (d::r) (c+1)=if 0<=d.2.2.2/\d.2.2.2<=(N:Int) then skip N r (c+d.2.2.2.toNat) else none:=by conv=>lhs;unfold skip
theorem Qp(N:Nat):∀(f:F) (c:Nat) (post:List ND),f.size<=N->skip N (f.flat++post) (f.aq+c)=skip N post c
 |.nil,c,post,_=>by show skip N post (0+c)=_;rw[zN]
 |.cons k t n ks r,c,post,h=>by
  have h:ks.size+r.size+1<=N:=h;have hc:=ks.cq;show skip N ((k,t,n,(ks.aq:Int))::((ks.flat++r.flat)++post)) (r.aq+1+c)=_;have e:r.aq+1+c=(r.aq+c)+1:=om
  rw[e,FI];rw[if_pos ⟨by show(0:Int)<=(ks.aq:Int);omega,by show(ks.aq:Int)<=N;omega⟩];show skip N _ (r.aq+c+(ks.aq:Int).toNat)=_;rw[Int.toNat_natCast,zD,Nat.add_comm (r.aq+c),Qp N ks _ _ om,Qp N r _ _ om]
theorem F.split:∀(g:F) (a c:Nat),g.aq=a+c->∃x y:F,x.aq=a/\y.aq=c/\g.flat=x.flat++y.flat
 |g,0,c,h=>⟨.nil,g,rfl,by omega,rfl⟩
 |.nil,a+1,c,h=>by have h:0=a+1+c:=h;omega
 |.cons k t n ks r,a+1,c,h=>by
  have h:r.aq+1=a+1+c:=h;obtain⟨x,y,h1,h2,h3⟩:=r.split a c om;refine⟨.cons k t n ks x,y,by show x.aq+1=_;omega,h2,?_⟩;show _::(ks.flat++r.flat)=_::(ks.flat++x.flat)++y.flat
  rw[h3,List.cons_append,zD]
theorem Zk(N:Nat):∀(l:List ND) (c:Nat) (rest:List ND),skip N l c=some rest->∃f:F,f.aq=c/\l=f.flat++rest
 |l,0,rest,h=>by rw[Kj] at h;injection h with h;exact⟨.nil,rfl,h⟩
 |[],c+1,rest,h=>by cases h
 |d::r,c+1,rest,h=>by
  obtain⟨k,t,n,z⟩:=d;rw[FI] at h;have h:(if 0<=z/\z<=(N:Int) then skip N r (c+z.toNat) else none)=some rest:=h;by_cases hz:0<=z/\z<=(N:Int)
  ·rw[if_pos hz] at h;obtain⟨g,h1,h2⟩:=Zk N r _ rest h;obtain⟨x,y,h3,h4,h5⟩:=g.split z.toNat c om;refine⟨.cons k t n x y,by show y.aq+1=_;omega,?_⟩;show _=(k,t,n,(x.aq:Int))::(x.flat++y.flat)++rest;rw[h2,h5,h3,Int.toNat_of_nonneg hz.1];rfl
  ·rw[if_neg hz] at h;cases h
theorem qr8(N:Nat):∀(l:List ND) (a b:Nat),skip N l (a+b)=(skip N l a).bind fun r=>skip N r b
 |l,0,b=>by rw[Kj,zN];rfl
 |[],a+1,b=>by
  have e:a+1+b=(a+b)+1:=om
  rw[e];rfl
 |d::r,a+1,b=>by
  have e:a+1+b=(a+b)+1:=om
  rw[e,FI,FI];by_cases h:0<=d.2.2.2/\d.2.2.2<=(N:Int)
  ·rw[if_pos h,if_pos h];have e2:a+b+d.2.2.2.toNat=(a+d.2.2.2.toNat)+b:=om
   rw[e2];exact qr8 N r _ b
  ·rw[if_neg h,if_neg h];rfl
theorem z19(N:Nat){l:List ND}{c:Nat}{rest:List ND}(h:skip N l c=some rest):c<=l.length-rest.length/\rest.length<=l.length/\rest=l.drop (l.length-rest.length):=by obtain⟨f,h1,h2⟩:=Zk N l c rest h;have:=f.cq;have h3:=f.len;subst h2;rw[zt];refine⟨by omega,by omega,?_⟩;rw[show f.flat.length+rest.length-rest.length=f.flat.length by omega,List.drop_left'];rfl
def eE(l:List ND)(k c:Nat):Int:=(skip l.length (l.drop k) c).elim (-1) fun r=>(l.length:Int)-(r.length:Int)
theorem z1a(b:Bool)(l:List ND)(hl:l.length<=10000):∀(m k c:Nat),k+m=l.length->c<=k*10000->aH nL (⟨b,l⟩,(k:Int),((c+1:Nat):Int),())=some (eE l k (c+1),()):=by
 intro m
 induction m with
 |zero=>intro k c hk hc;refine dO ?_;unfold nL;have c0:bf (aa l) (k:Int)=true:=zn (by unfold aa;omega);simp only[c0,aG,aj];unfold eE;rw[zR om];rfl
 |succ m ih=>
  intro k c hk hc;have hg:k<l.length:=om
  obtain⟨d,hd⟩:∃d,l[k]?=some d:=⟨_,ze hg⟩;have hf:l.drop k=d::l.drop (k+1):=by rw[sJ hg];rw[ze hg] at hd;injection hd with hd;rw[hd]
  obtain⟨x,t,n,z⟩:=d;have c0:bf (aa l) (k:Int)=false:=zm (by unfold aa;omega);have hj:=aQ hd;by_cases hz:0<=z/\z<=(l.length:Int)
  ·have c1:aA z 0=false:=zm om;have c2:aA (aa l) z=false:=zm (by unfold aa;omega);have e1:cu .i64 z 1=z-1:=qu om om;have e2:au .i64 ((c+1:Nat):Int) (z-1)=((c+z.toNat:Nat):Int):=by rw[Ft om om];omega
   have e3:=aI (show k<=1000000000 by omega);have step:nL (⟨b,l⟩,(k:Int),((c+1:Nat):Int),())=if 0<c+z.toNat then some (.inl (⟨b,l⟩,((k+1:Nat):Int),((c+z.toNat:Nat):Int),())) else some (.inr (((k+1:Nat):Int),())):=by
    unfold nL;simp only[c0,aD,aj,hj,c1,c2,e1,e2,e3];rw[eI];by_cases h:0<c+z.toNat
    ·rw[if_pos h,if_pos om]
    ·rw[if_neg h,if_neg om]
   have he:eE l k (c+1)=(skip l.length (l.drop (k+1)) (c+z.toNat)).elim (-1) fun r=>(l.length:Int)-(r.length:Int):=by unfold eE;rw[hf,FI];rw[if_pos (show 0<=(x,t,n,z).2.2.2/\(x,t,n,z).2.2.2<=(l.length:Int) from hz)]
   rw[he];by_cases h:0<c+z.toNat
   ·rw[if_pos h] at step;rw[fE step];obtain⟨c',hm⟩:∃c',c+z.toNat=c'+1:=⟨c+z.toNat-1,by omega⟩;rw[hm];exact ih (k+1) c' om om
   ·rw[if_neg h] at step;rw[dO step];have h0:c+z.toNat=0:=om
    rw[h0,Kj];show some (((k+1:Nat):Int),())=some ((l.length:Int)-((l.drop (k+1)).length:Int),());rw[zX];congr 2;omega
  ·have he:eE l k (c+1)=-1:=by unfold eE;rw[hf,FI];rw[if_neg (show ¬(0<=(x,t,n,z).2.2.2/\(x,t,n,z).2.2.2<=(l.length:Int)) from hz)];rfl
   rw[he];refine dO ?_;unfold nL;simp only[c0,aD,aj,hj];cases h1:aA z 0 with
   |true=>simp only[aG,aj]
   |false=>
    have c2:aA (aa l) z=true:=by have:=of_decide_eq_false h1;exact zn (by unfold aa;omega)
    simp only[aD,aj,c2,aG]
theorem Kk(b:Bool)(l:List ND)(hl:l.length<=10000)(k:Nat):fL (⟨b,l⟩,(k:Int),())=some (eE l k 1,()):=by
 rw[Uj];have c0:aA (k:Int) 0=false:=zm om;rw[c0,aD];by_cases h:k<=l.length
 ·exact z1a b l hl (l.length-k) k 0 om om
 ·have he:eE l k 1=-1:=by unfold eE;rw[zR om];rfl
  rw[he];refine dO ?_;unfold nL;have c0:bf (aa l) (k:Int)=true:=zn (by unfold aa;omega);simp only[c0,aG,aj]
theorem z1b{l:List ND}{k c:Nat}(h:skip l.length (l.drop k) c=none):eE l k c=-1:=by unfold eE;rw[h];rfl
theorem z71(b:Bool)(l:List ND)(hl:l.length<=10000):∀(N m k:Nat),l.length-k<N->l.length-k=m->aU ru N (⟨b,l⟩,(k:Int),())=some (eE l k 1,()):=by
 intro N
 induction N with
 |zero=>intro m k h;exact absurd h (Nat.not_lt_zero _)
 |succ N ih=>
  intro m k hN hm;show ru (aU ru N) _=_;rw[Wh];have c0:aA (k:Int) 0=false:=zm om;simp only[c0,aD];by_cases hg:k<l.length
  ·obtain⟨d,hd⟩:∃d,l[k]?=some d:=⟨_,ze hg⟩;have hc:l.drop k=d::l.drop (k+1):=by rw[sJ hg];rw[ze hg] at hd;injection hd with hd;rw[hd]
   obtain⟨x,t,n,z⟩:=d;have c0:bf (aa l) (k:Int)=false:=zm (by unfold aa;omega);have hf:=aQ hd;by_cases hz:0<=z/\z<=(l.length:Int)
   ·have c1:aA z 0=false:=zm om;have c2:aA (aa l) z=false:=zm (by unfold aa;omega);have e3:=aI (show k<=1000000000 by omega);simp only[c0,aD,aj,hf,c1,c2,e3];have he:eE l k 1=(skip l.length (l.drop (k+1)) z.toNat).elim (-1) fun r=>(l.length:Int)-(r.length:Int):=by unfold eE;rw[hc,FI];rw[if_pos (show 0<=(x,t,n,z).2.2.2/\(x,t,n,z).2.2.2<=(l.length:Int) from hz),zN]
    rw[he];have loop:∀(j i q:Nat),(i:Int)+j=z->k<q->q<=l.length->
      aH (r9 (aU ru N)) (⟨b,l⟩,(k:Int),(q:Int),(i:Int),())=some ((skip l.length (l.drop q) j).elim (-1) fun r=>(l.length:Int)-(r.length:Int),()):=by
     intro j
     induction j with
     |zero=>intro i q h1 h2 h3;refine dO ?_;unfold r9;simp only[hf,aj];rw[eI,if_neg om,Kj];show _=some (Sum.inr ((l.length:Int)-((l.drop q).length:Int),()));rw[zX];congr 3;omega
     |succ j ihj=>
      intro i q h1 h2 h3;have hi:=ih (l.length-q) q om rfl;have e:j+1=1+j:=om
      rw[e,qr8];have step:r9 (aU ru N) (⟨b,l⟩,(k:Int),(q:Int),(i:Int),())=if eE l q 1<0 then some (.inr (-1,())) else some (.inl (⟨b,l⟩,(k:Int),eE l q 1,((i+1:Nat):Int),())):=by unfold r9;simp only[hf,aj];rw[eI,if_pos om];simp only[hi,aj,aI (show i<=1000000000 by omega)];rw[eI]
      cases hs:skip l.length (l.drop q) 1 with
      |none=>rw[z1b hs,if_pos dc] at step;rw[dO step];rfl
      |some r=>
       obtain⟨s1,s2,s3⟩:=z19 _ hs;rw[zX] at s1 s2 s3;have hj:eE l q 1=((l.length-r.length:Nat):Int):=by unfold eE;rw[hs];show(l.length:Int)-(r.length:Int)=_;omega
       rw[hj,if_neg om] at step;rw[fE step,ihj (i+1) (l.length-r.length) om om om];show _=some ((skip l.length r j).elim _ _,());have:r=l.drop (l.length-r.length):=by rw[List.drop_drop] at s3;rw[show l.length-r.length=q+(l.length-q-r.length) by omega];exact s3
       rw[<-this]
    exact loop z.toNat 0 (k+1) om om om
   ·have he:eE l k 1=-1:=by unfold eE;rw[hc,FI];rw[if_neg (show ¬(0<=(x,t,n,z).2.2.2/\(x,t,n,z).2.2.2<=(l.length:Int)) from hz)];rfl
    rw[he];simp only[c0,aD,aj,hf];cases h1:aA z 0 with
    |true=>simp only[aG,aj]
    |false=>
     have c2:aA (aa l) z=true:=by have:=of_decide_eq_false h1;exact zn (by unfold aa;omega)
     simp only[aD,aj,c2,aG]
  ·have he:eE l k 1=-1:=by unfold eE;rw[zR om];rfl
   have c0:bf (aa l) (k:Int)=true:=zn (by unfold aa;omega);rw[he];simp only[c0,aG,aj]
theorem Qq(b:Bool)(l:List ND)(hl:l.length<=10000)(k:Nat):qd (⟨b,l⟩,(k:Int),())=some (eE l k 1,()):=tG (l.length-k+1) fun N hN=>z71 b l hl N (l.length-k) k om rfl
def s6(l:List ND):Bool:=decide (0<l.length)&&decide (eE l 0 1=(l.length:Int))
theorem Kl(b:Bool)(l:List ND)(hl:l.length<=10000):lF (⟨b,l⟩,())=some (s6 l,()):=by rw[Uk];have:=Kk b l hl 0;have h0:((0:Nat):Int)=0:=rfl;rw[h0] at this;simp only[this,aj,FH];unfold s6 aA af aa;have e1:decide ((0:Int)<(l.length:Int))=decide (0<l.length):=decide_eq_decide.2 om;rw[e1];rfl
theorem Zl(b:Bool)(l:List ND)(hl:l.length<=10000):xd (⟨b,l⟩,())=some (s6 l,()):=by rw[Wi];have:=Qq b l hl 0;have h0:((0:Nat):Int)=0:=rfl;rw[h0] at this;simp only[this,aj,FH];unfold s6 aA af aa;have e1:decide ((0:Int)<(l.length:Int))=decide (0<l.length):=decide_eq_decide.2 om;rw[e1];rfl
theorem ED(l:List ND):s6 l=true↔∃k t n ks,l=(tr k t n ks).flat:=by
 unfold s6 eE;rw[zd,decide_eq_true_eq,decide_eq_true_eq,List.drop_zero];constructor
 ·rintro⟨h1,h2⟩;cases hs:skip l.length l 1 with
  |none=>rw[hs] at h2;have h2:(-1:Int)=l.length:=h2;omega
  |some r=>
   rw[hs] at h2;have h2:(l.length:Int)-(r.length:Int)=l.length:=h2;have hr:r=[]:=List.length_eq_zero_iff.1 om;subst hr;obtain⟨f,h3,h4⟩:=Zk _ _ _ _ hs;cases f with
   |nil=>cases h3
   |cons k t n ks r=>
    cases r with
    |nil=>exact⟨k,t,n,ks,by rw[h4,zC]⟩
    |cons _ _ _ _ _=>have h3:_+1+1=1:=h3;omega
 ·rintro⟨k,t,n,ks,rfl⟩;have hc:=(tr k t n ks).len;refine⟨by rw[hc,EC];omega,?_⟩;have:=Qp (tr k t n ks).flat.length (tr k t n ks) 0 [] om;rw[zC,Kj] at this;have e:(tr k t n ks).aq+0=1:=rfl;rw[e] at this;rw[this];show((tr k t n ks).flat.length:Int)-((0:Nat):Int)=_;omega
def cg(l:List ND)(k:Nat)(f:F):Prop:=∃post,l.drop k=f.flat++post
theorem cg.node{l:List ND}{k:Nat}{x:Int}{t:List Int}{n:Int}{ks r:F}(h:cg l k (.cons x t n ks r)):l[k]?=some (x,t,n,(ks.aq:Int))/\cg l (k+1) ks/\cg l (k+1+ks.size) r/\k+1+ks.size+r.size<=l.length:=by
 obtain⟨post,h⟩:=h;have h:l.drop k=(x,t,n,(ks.aq:Int))::((ks.flat++r.flat)++post):=h;have h1:l[k]?=some (x,t,n,(ks.aq:Int)):=by rw[<-List.head?_drop,h];rfl
 have h2:l.drop (k+1)=(ks.flat++r.flat)++post:=by rw[<-List.drop_drop,h];rfl
 refine⟨h1,⟨r.flat++post,by rw[h2,zD]⟩,⟨post,?_⟩,?_⟩
 ·rw[<-List.drop_drop,h2,<-ks.len,zD,List.drop_left'];rfl
 ·have:=congrArg List.length h2;rw[zX,zt,zt,ks.len,r.len] at this;have hc:k<l.length:=(zB.1 h1).1;omega
theorem cg.first{l:List ND}{k:Nat}{x:Int}{t:List Int}{n:Int}{ks r:F}(h:cg l k (.cons x t n ks r)):cg l k (tr x t n ks):=by obtain⟨post,h⟩:=h;refine⟨r.flat++post,?_⟩;rw[h,qg];show _::(ks.flat++r.flat)++post=_;rw[List.cons_append,List.cons_append,zD]
theorem cg.ends{l:List ND}{k:Nat}{x:Int}{t:List Int}{n:Int}{ks r:F}(h:cg l k (.cons x t n ks r)):eE l k 1=((k+1+ks.size:Nat):Int):=by obtain⟨g1,g2,g3,g4⟩:=h.node;obtain⟨post,h⟩:=h.first;unfold eE;have e:(tr x t n ks).aq+0=1:=rfl;have hs:=Qp l.length (tr x t n ks) 0 post (by rw[EC];omega);rw[e,Kj] at hs;rw[h,hs];show(l.length:Int)-(post.length:Int)=_;have:=congrArg List.length h;rw[zX,zt,(tr x t n ks).len,EC] at this;omega
def F.pos:Nat->F->List Int
 |_,.nil=>[]
 |k,.cons _ _ _ ks r=>(k:Int)::r.pos (k+1+ks.size)
theorem F.dG:∀(f:F) (k:Nat),(f.pos k).length=f.aq
 |.nil,_=>rfl
 |.cons _ _ _ ks r,k=>by show(_::r.pos _).length=r.aq+1;rw[zw,r.dG]
def F.qh(P:Nat->Int->List Int->Int->F->Prop):Nat->F->Prop
 |_,.nil=>True
 |k,.cons x t n ks r=>P k x t n ks/\r.qh P (k+1+ks.size)
theorem F.qi{l:List ND}{P:Nat->Int->List Int->Int->F->Prop}(h:∀k x t n ks,cg l k (tr x t n ks)->ks.qh P (k+1)->P k x t n ks):∀(f:F) (k:Nat),cg l k f->f.qh P k
 |.nil,_,_=>trivial
 |.cons x t n ks r,k,hs=>⟨h k x t n ks hs.first (F.qi h ks (k+1) hs.node.2.1),F.qi h r _ hs.node.2.2.1⟩
theorem F.iS{l:List ND}{P:Nat->Int->List Int->Int->F->Prop}(h:∀k x t n ks,cg l k (tr x t n ks)->ks.qh P (k+1)->P k x t n ks){k:Nat}{x:Int}{t:List Int}{n:Int}{ks:F}(hs:cg l k (tr x t n ks)):P k x t n ks:=(F.qi h (tr x t n ks) k hs).1
theorem iA{a b:Nat}(h:a+b<=2000000):fit (aT (a:Int) (b:Int))=some ():=Tu (by show(a:Int)+(b:Int)<=_;omega)
theorem Zm(x:Bool):aR false x=false:=id (Eq.refl false)
theorem uN{α:Type}(b:Bool)(x:α):aR b (dI [x])=false:=by cases b<;>rfl
theorem IK(b:Bool)(l:List ND)(hl:l.length<=10000){k:Nat}{x:Int}{t:List Int}{n:Int}{ks r:F}(h:cg l k (.cons x t n ks r)):fV (⟨b,l⟩,(k:Int),())=some (⟨false,ks.pos (k+1)⟩,()):=by
 obtain⟨g1,g2,g3,g4⟩:=h.node;have he:=aQ g1;rw[Wv,Qq b l hl,h.ends];simp only[aj];rw[eI,if_neg om,aI om];have loop:∀(g:F) (q i:Nat) (out:List Int),cg l q g->out.length=i->i+g.aq=ks.aq->q<=l.length->
   aH sA (⟨b,l⟩,(k:Int),(q:Int),(i:Int),⟨false,out⟩,())=some (⟨false,out++g.pos q⟩,()):=by
  intro g
  induction g with
  |nil=>intro q i out hs ho hi hq;have hi:i+0=ks.aq:=hi;refine dO ?_;unfold sA;simp only[he,aj];rw[eI,if_neg om];show _=some (Sum.inr ((⟨false,out++[]⟩:Sl Int),()));rw[zC]
  |cons x' t' n' ks' r' _ ih=>
   intro q i out hs ho hi hq;have hi:i+(r'.aq+1)=ks.aq:=hi;have hc:=ks.cq;have s4:=hs.node;have step:sA (⟨b,l⟩,(k:Int),(q:Int),(i:Int),⟨false,out⟩,())=some (.inl (⟨b,l⟩,(k:Int),((q+1+ks'.size:Nat):Int),((i+1:Nat):Int),⟨false,out++[(q:Int)]⟩,())):=by unfold sA;simp only[he,aj];rw[eI,if_pos om];have hf:fit (aT (aa out) (aa [(q:Int)]))=some ():=iA (by show out.length+1<=_;omega);rw[hf,aj,Qq b l hl,aj,hs.ends,aI om,uN];rfl
   rw[fE step,ih _ _ _ s4.2.2.1 (by rw[zt,ho];rfl) om om,zD];rfl
 have:=loop ks (k+1) 0 [] g2 rfl om om;exact this
theorem Qr(b:Bool)(l:List ND)(hl:l.length<=10000){k:Nat}{x:Int}{t:List Int}{n:Int}{ks r:F}(h:cg l k (.cons x t n ks r)):∃nb,jG (⟨b,l⟩,(k:Int),())=some (⟨nb,ks.pos (k+1)⟩,()):=by
 obtain⟨g1,g2,g3,g4⟩:=h.node;have he:=aQ g1;rw[Vv,Kk b l hl,h.ends];simp only[aj,he];rw[eI,if_neg om,aI om];have hc:=ks.cq;have loop:∀(g:F) (q i:Nat) (nb:Bool) (out:List Int),cg l q g->out.length=i->i+g.aq=ks.aq->q<=l.length->
   ∃vS,aH rQ (⟨b,l⟩,(q:Int),(ks.aq:Int),⟨nb,out⟩,())=some (⟨vS,out++g.pos q⟩,()):=by
  intro g
  induction g with
  |nil=>intro q i nb out hs ho hi hq;have hi:i+0=ks.aq:=hi;refine⟨nb,dO ?_⟩;unfold rQ;simp only;rw[eI,if_neg (by unfold aa;omega)];show _=some (Sum.inr ((⟨nb,out++[]⟩:Sl Int),()));rw[zC]
  |cons x' t' n' ks' r' _ ih=>
   intro q i nb out hs ho hi hq;have hi:i+(r'.aq+1)=ks.aq:=hi;have s4:=hs.node;have step:rQ (⟨b,l⟩,(q:Int),(ks.aq:Int),⟨nb,out⟩,())=some (.inl (⟨b,l⟩,((q+1+ks'.size:Nat):Int),(ks.aq:Int),⟨false,out++[(q:Int)]⟩,())):=by unfold rQ;simp only;rw[eI,if_pos (by unfold aa;omega)];have hf:fit (aT (aa out) (aa [(q:Int)]))=some ():=iA (by show out.length+1<=_;omega);rw[hf,aj,Kk b l hl,aj,hs.ends,uN];rfl
   obtain⟨vS,h'⟩:=ih (q+1+ks'.size) (i+1) false (out++[(q:Int)]) s4.2.2.1 (by rw[zt,ho];rfl) om om;refine⟨vS,?_⟩;rw[fE step,h',zD];rfl
 exact loop ks (k+1) 0 true [] g2 rfl om om
theorem z1c(a b:Nat):jQ (a:Int) (b:Int)=((max a b:Nat):Int):=by unfold jQ;split<;>omega
theorem qtc(b:Bool)(l:List ND)(hl:l.length<=10000){k:Nat}{x:Int}{t:List Int}{n:Int}{ks:F}(h:cg l k (tr x t n ks)):L7 (⟨b,l⟩,(k:Int),())=some (((ks.dep+1:Nat):Int),()):=by
 refine tG (ks.size+1) ?_;refine F.iS (l:=l) (P:=fun k x t n ks=>∀N,ks.size+1<=N->aU qe N (⟨b,l⟩,(k:Int),())=some (((ks.dep+1:Nat):Int),())) ?_ h;intro k x t n ks hs he N hN;obtain⟨N,rfl⟩:∃m,N=m+1:=⟨N-1,by omega⟩;show qe (aU qe N) _=_;rw[Ww,IK b l hl hs,aj];have ho:=hs.node.2.2.2;have hq:=ks.jY;have loop:∀(g:F) (q:Nat) (pre:List Int) (cI:Nat),g.qh (fun k x t n ks=>∀N,ks.size+1<=N->aU qe N (⟨b,l⟩,(k:Int),())=some (((ks.dep+1:Nat):Int),())) q->
   g.size<=N->g.size<=10000->pre++g.pos q=ks.pos (k+1)->cI<=100000->
   aH (py (aU qe N)) (⟨b,l⟩,(cI:Int),⟨false,ks.pos (k+1)⟩,(pre.length:Int),())=some (((max cI g.dep+1:Nat):Int),()):=by
  intro g
  induction g with
  |nil=>intro q pre cI hE hz _ hp hm;have hp:pre++[]=ks.pos (k+1):=hp;rw[zC] at hp;refine dO ?_;unfold py;simp only;rw[eI,if_neg (by rw[hp];unfold aa;omega),aI om];show _=some (Sum.inr (((max cI 0+1:Nat):Int),()));rw[Nat.max_zero]
  |cons x' t' n' ks' r' _ ih=>
   intro q pre cI hE hz hj hp hm;have hj:ks'.size+r'.size+1<=10000:=hj;have hz:ks'.size+r'.size+1<=N:=hz;have hp:pre++(q:Int)::r'.pos (q+1+ks'.size)=ks.pos (k+1):=hp;have hf:(ks.pos (k+1)).length=ks.aq:=ks.dG _;have hn:=congrArg List.length hp;rw[zt,zw,hf] at hn;have hc:=ks.cq;have hg:(ks.pos (k+1))[pre.length]?=some (q:Int):=by rw[<-hp];simp
   have ht:=ks'.jY;have step:py (aU qe N) (⟨b,l⟩,(cI:Int),⟨false,ks.pos (k+1)⟩,(pre.length:Int),())=some (.inl (⟨b,l⟩,((max cI (ks'.dep+1):Nat):Int),⟨false,ks.pos (k+1)⟩,((pre.length+1:Nat):Int),())):=by
    unfold py;simp only;rw[eI,if_pos (by unfold aa;rw[hf];omega),aQ hg,aj,hE.1 N om,aj,eI];have ea:=aI (show pre.length<=1000000000 by omega);by_cases hk:(cI:Int)<((ks'.dep+1:Nat):Int)
    ·rw[if_pos hk,aj,ea];have:max cI (ks'.dep+1)=ks'.dep+1:=om
     rw[this]
    ·rw[if_neg hk,aj,ea];have:max cI (ks'.dep+1)=cI:=om
     rw[this]
   have hi:=ih (q+1+ks'.size) (pre++[(q:Int)]) (max cI (ks'.dep+1)) hE.2 om om (by rw[zD];exact hp) om;rw[zt] at hi;have hi:aH (py (aU qe N)) (⟨b,l⟩,((max cI (ks'.dep+1):Nat):Int),⟨false,ks.pos (k+1)⟩,((pre.length+1:Nat):Int),())=_:=hi;rw[fE step,hi];show some (((max (max cI (ks'.dep+1)) r'.dep+1:Nat):Int),())=some (((max cI (max (ks'.dep+1) r'.dep)+1:Nat):Int),());rw[Nat.max_assoc]
 have:=loop ks (k+1) [] 0 he om om rfl om;rw[Nat.zero_max] at this;exact this
def Ce:Nat->List Nat->List Nat
 |c+1,s=>(c+1)::s
 |0,[]=>[]
 |0,c::s=>Ce (c-1) s
def toI(s:List Nat):List Int:=s.reverse.map fun(c:Nat)=>(c:Int)
theorem od(s:List Nat):(toI s).length=s.length:=by unfold toI;rw[zA,List.length_reverse]
theorem EE(c:Nat)(s:List Nat):toI (c::s)=toI s++[(c:Int)]:=by unfold toI;rw[List.reverse_cons,zE];rfl
theorem Zn(c:Nat)(s:List Nat):Ce (c+1) s=(c+1)::s:=by cases s<;>rfl
theorem Nh(b:Bool)(l:List ND)(cI ln k:Int)(hk:0<=k/\k<=1000000)(nb:Bool):∀(s:List Nat) (c:Nat),(∀x,x∈s->1<=x/\x<=1000000)->c<=1000000->s.length<=1000000->aH lS (cI,⟨b,l⟩,ln,k,⟨nb,toI (c::s)⟩,())=some (.inl (cI,⟨b,l⟩,ln,k+1,⟨nb,toI (Ce c s)⟩,())):=by
 have hj:au .i64 k 1=k+1:=Ft om om;have done:∀(s:List Nat) (c:Nat),c+1<=1000000->s.length<=1000000->aH lS (cI,⟨b,l⟩,ln,k,⟨nb,toI ((c+1)::s)⟩,())=some (.inl (cI,⟨b,l⟩,ln,k+1,⟨nb,toI ((c+1)::s)⟩,())):=by
  intro s c hc hs;refine dO ?_;have e1:cu .i64 (aa (toI ((c+1)::s))) 1=(s.length:Int):=by unfold aa;rw[od,zw,qu om om];omega
  have hg:nth (toI ((c+1)::s)) s.length=some ((c+1:Nat):Int):=by rw[EE];unfold nth;rw[zV (by rw[od];exact Nat.le_refl _),od,Nat.sub_self];rfl
  have c0:aA 0 (aa (toI ((c+1)::s)))=true:=zn (by unfold aa;rw[od,zw];omega);have c1:af ((c+1:Nat):Int) 0=false:=by cases h:af ((c+1:Nat):Int) 0 with
   |false=>rfl
   |true=>have:=aV.1 h;omega
  unfold lS;simp only[c0,aG,e1,vR (show s.length<(toI ((c+1)::s)).length by rw[od,zw];omega),aj,hg,c1,aD,hj]
 have eQ:aH lS (cI,⟨b,l⟩,ln,k,⟨nb,toI []⟩,())=some (.inl (cI,⟨b,l⟩,ln,k+1,⟨nb,toI []⟩,())):=by refine dO ?_;have c0:aA 0 (aa (toI []))=false:=rfl;unfold lS;simp only[c0,aD,aj,hj]
 have step:∀(s:List Nat) (X:List Int),s.length<=1000000->(s=[]/\X=[]\/∃c r,s=c::r/\1<=c/\c<=1000000/\X=toI ((c-1)::r))->
   lS (cI,⟨b,l⟩,ln,k,⟨nb,toI (0::s)⟩,())=some (.inl (cI,⟨b,l⟩,ln,k,⟨nb,X⟩,())):=by
  intro s X hs hX;have e1:cu .i64 (aa (toI (0::s))) 1=(s.length:Int):=by unfold aa;rw[od,zw,qu om om];omega
  have hg:nth (toI (0::s)) s.length=some 0:=by rw[EE];unfold nth;rw[zV (by rw[od];exact Nat.le_refl _),od,Nat.sub_self];rfl
  have c0:aA 0 (aa (toI (0::s)))=true:=zn (by unfold aa;rw[od,zw];omega);have c1:af 0 0=true:=rfl;have he:eN (aa (toI (0::s))) (s.length:Int)=some s.length:=by unfold eN aa;rw[if_pos (by rw[od,zw];omega),Int.toNat_natCast]
  have hl:aO (toI (0::s)) s.length=toI s:=by unfold aO;rw[EE,List.take_left' (od s)]
  unfold lS;simp only[c0,aG,e1,vR (show s.length<(toI (0::s)).length by rw[od,zw];omega),aj,hg,c1,he,hl];rcases hX with ⟨rfl,rfl⟩|⟨c,r,rfl,h1,h2,rfl⟩
  ·have c2:aA 0 (aa (toI []))=false:=rfl;simp only[c2,aD,aj];rfl
  ·have hs:r.length+1<=1000000:=hs;have c2:aA 0 (aa (toI (c::r)))=true:=zn (by unfold aa;rw[od,zw];omega);have e2:cu .i64 (aa (toI (c::r))) 1=(r.length:Int):=by unfold aa;rw[od,zw,qu om om];omega
   have hm:nth (toI (0::c::r)) r.length=some (c:Int):=by rw[EE,EE];unfold nth;rw[zD,zV (by rw[od];exact Nat.le_refl _),od,Nat.sub_self];rfl
   have hf:aO (ff (toI (0::c::r)) r.length ((c:Int)-1)) (c::r).length=toI ((c-1)::r):=by unfold aO ff;rw[EE,EE,EE,zD,List.set_append_right _ _ (by rw[od];exact Nat.le_refl _),od,Nat.sub_self];show List.take (r.length+1) (toI r++([(c:Int)-1]++[((0:Nat):Int)]))=_;rw[<-zD,List.take_left' (by rw[zt,od];rfl)];congr 2;omega
   have e3:cu .i64 (c:Int) 1=(c:Int)-1:=qu om om;simp only[c2,aG,e2,vR (show r.length<(toI (c::r)).length by rw[od,zw];omega),aj,hm,e3,hf]
 intro s
 induction s with
 |nil=>
  intro c _ hc _;cases c with
  |zero=>rw[fE (step [] [] dc (.inl ⟨rfl,rfl⟩))];exact eQ
  |succ c=>rw[Zn];exact done [] c hc dc
 |cons d s ih=>
  intro c hx hc hs;have hd:=hx d (zf ..);have hs:s.length+1<=1000000:=hs;cases c with
  |zero=>rw[fE (step (d::s) (toI ((d-1)::s)) hs (.inr ⟨d,s,rfl,hd.1,hd.2,rfl⟩))];exact ih (d-1) (fun x h=>hx x (zg _ h)) om om
  |succ c=>rw[Zn];exact done (d::s) c hc hs
theorem z1d(b:Bool)(l:List ND)(hl:l.length<=10000):∀(f:F) (q:Nat) (s:List Nat) (cI:Nat) (nb:Bool),cg l q f->q<=l.length->(∀x,x∈s->1<=x/\x<=1000000)->s.length<=q->cI<=100000->∃vS,aH jM ((cI:Int),⟨b,l⟩,(l.length:Int),(q:Int),⟨nb,toI (Ce f.aq s)⟩,())=aH jM (((max cI (if f.aq=0 then 0 else s.length+1+f.dep):Nat):Int),⟨b,l⟩,(l.length:Int),((q+f.size:Nat):Int),⟨vS,toI (Ce 0 s)⟩,()):=by
 intro f
 induction f with
 |nil=>intro q s cI nb _ _ _ _ _;refine⟨nb,?_⟩;show _=aH jM (((max cI 0:Nat):Int),_,_,((q+0:Nat):Int),_,());rw[Nat.max_zero,Nat.add_zero];rfl
 |cons x t n ks r ow ox=>
  intro q s cI nb hs hq hx hj hm;obtain⟨g1,g2,g3,g4⟩:=hs.node;have hc:=ks.cq;have hk:=r.cq;have hn:=ks.jY;have ho:=r.jY;have e0:Ce (F.cons x t n ks r).aq s=(r.aq+1)::s:=Zn r.aq s;rw[e0];have hf:fit (aT (aa (toI ((r.aq+1)::s))) (aa [(ks.aq:Int)]))=some ():=iA (by rw[od,zw,List.length_singleton];omega);have hg:∀y,y∈(r.aq+1)::s->1<=y/\y<=1000000:=by
   intro y hy;rcases zu.1 hy with rfl|hy
   ·omega
   ·exact hx y hy
  have hp:=Nh b l ((max cI (s.length+2):Nat):Int) (l.length:Int) (q:Int) om false ((r.aq+1)::s) ks.aq hg om (by rw[zw];omega);have step:jM ((cI:Int),⟨b,l⟩,(l.length:Int),(q:Int),⟨nb,toI ((r.aq+1)::s)⟩,())=
    some (.inl (((max cI (s.length+2):Nat):Int),⟨b,l⟩,(l.length:Int),((q+1:Nat):Int),⟨false,toI (Ce ks.aq ((r.aq+1)::s))⟩,())):=by
   unfold jM;simp only;rw[eI,if_pos om,aQ g1,aj];simp only[hf,aj,uN];have e1:jQ (cI:Int) (au .i64 (aa (toI ((r.aq+1)::s))) 1)=((max cI (s.length+2):Nat):Int):=by unfold aa;rw[od,zw,aI om,z1c]
   have e2:app (toI ((r.aq+1)::s)) [(ks.aq:Int)]=toI (ks.aq::(r.aq+1)::s):=(EE _ _).symm;rw[e1,e2,hp];rfl
  rw[fE step];obtain⟨nb1,h1⟩:=ow (q+1) ((r.aq+1)::s) (max cI (s.length+2)) false g2 om hg (by rw[zw];omega) om;rw[h1];have e3:Ce 0 ((r.aq+1)::s)=Ce r.aq s:=rfl;rw[e3];have he:max (max cI (s.length+2)) (if ks.aq=0 then 0 else((r.aq+1)::s).length+1+ks.dep)=max cI (s.length+1+(ks.dep+1)):=by
   rw[zw];by_cases h0:ks.aq=0
   ·rw[if_pos h0];have:ks.dep=0:=by
     cases ks with
     |nil=>rfl
     |cons _ _ _ _ r=>exact absurd h0 (Nat.succ_ne_zero _)
    omega
   ·rw[if_neg h0];omega
  rw[he];obtain⟨Zo,h2⟩:=ox (q+1+ks.size) s (max cI (s.length+1+(ks.dep+1))) nb1 g3 om hx om om;refine⟨Zo,?_⟩;rw[h2];have e4:q+1+ks.size+r.size=q+(F.cons x t n ks r).size:=by show _=q+(ks.size+r.size+1);omega
  rw[e4];have e5:max (max cI (s.length+1+(ks.dep+1))) (if r.aq=0 then 0 else s.length+1+r.dep)=max cI (if(F.cons x t n ks r).aq=0 then 0 else s.length+1+(F.cons x t n ks r).dep):=by
   have h9:(F.cons x t n ks r).aq≠0:=Nat.succ_ne_zero _;rw[if_neg h9];show _=max cI (s.length+1+max (ks.dep+1) r.dep);by_cases h0:r.aq=0
   ·rw[if_pos h0];have:r.dep=0:=by
     cases r with
     |nil=>rfl
     |cons _ _ _ _ r=>exact absurd h0 (Nat.succ_ne_zero _)
    omega
   ·rw[if_neg h0];omega
  rw[e5]
theorem Cf(x:Int)(t:List Int)(n:Int)(ks:F):cg (tr x t n ks).flat 0 (tr x t n ks):=⟨[],by rw[zC];rfl⟩
theorem qxo(b:Bool)(x:Int)(t:List Int)(n:Int)(ks:F)(hl:ks.size+1<=10000):tJ (⟨b,(tr x t n ks).flat⟩,())=some (((ks.dep+1:Nat):Int),()):=by
 have he:(tr x t n ks).flat.length=ks.size+1:=(tr x t n ks).len;have hs:=Cf x t n ks;obtain⟨g1,g2,g3,g4⟩:=hs.node;have hg:=ks.jY;have hc:=ks.cq;rw[Ul,Kl b _ om,(ED _).2 ⟨x,t,n,ks,rfl⟩];have hn:aw true=false:=rfl;simp only[aj,hn,aD];generalize hL:(tr x t n ks).flat=L at*
 have hf:fit (aT (aa ([]:List Int)) (aa [(ks.aq:Int)]))=some ():=iA (by show 0+1<=_;omega);have hp:=Nh b L ((1:Nat):Int) (L.length:Int) ((0:Nat):Int) om false [] ks.aq (fun _ h=>by cases h) om dc;have step:jM (((0:Nat):Int),⟨b,L⟩,(L.length:Int),((0:Nat):Int),⟨true,[]⟩,())=
   some (.inl (((1:Nat):Int),⟨b,L⟩,(L.length:Int),((0+1:Nat):Int),⟨false,toI (Ce ks.aq [])⟩,())):=by
  unfold jM;simp only;rw[eI,if_pos om,aQ g1,aj];simp only[hf,aj,uN];have e1:jQ ((0:Nat):Int) (au .i64 (aa ([]:List Int)) 1)=((1:Nat):Int):=rfl;have e2:app ([]:List Int) [(ks.aq:Int)]=toI (ks.aq::[]):=rfl;rw[e1,e2,hp];rfl
 obtain⟨nb1,h1⟩:=z1d b L om ks 1 [] 1 false g2 om (fun _ h=>by cases h) dc dc;have Ni:aH jM (0,⟨b,L⟩,aa L,0,⟨true,[]⟩,())=_:=fE step;rw[Ni,h1];have e6:max 1 (if ks.aq=0 then 0 else([]:List Nat).length+1+ks.dep)=ks.dep+1:=by
  by_cases h0:ks.aq=0
  ·rw[if_pos h0];have:ks.dep=0:=by
    cases ks with
    |nil=>rfl
    |cons _ _ _ _ r=>exact absurd h0 (Nat.succ_ne_zero _)
   omega
  ·rw[if_neg h0,List.length_nil];omega
 rw[e6];refine dO ?_;unfold jM;simp only;rw[eI,if_neg om]
def s7(n:Int):Bool:=decide (-4611686018427387904<=n/\n<=4611686018427387903)
def Km(n:Int):Prop:=-9223372036854775808<=n/\n<=9223372036854775807
theorem qmn(n:Int):IntKind.i64.wrap n=if n % 18446744073709551616<9223372036854775808 then n % 18446744073709551616 else n % 18446744073709551616-18446744073709551616:=by
 unfold IntKind.wrap;show(if(true&&decide (n % 18446744073709551616>=9223372036854775808))=true then _ else _)=_;rw[Bool.true_and];by_cases h:n % 18446744073709551616<9223372036854775808
 ·rw[if_pos h,if_neg (by simp;omega)];rfl
 ·rw[if_neg h,if_pos (by simp;omega)];rfl
theorem Qs(n:Int):IntKind.u64.wrap n=n % 18446744073709551616:=by unfold IntKind.wrap;show(if(false&&_)=true then _ else _)=_;rw[Bool.false_and,if_neg dc];rfl
theorem qhy(n:Int)(h:Km n):∃v,pX (n,())=some (v,())/\af v n=s7 n:=by
 obtain⟨h1,h2⟩:=h;rw[Um];have e1:pI .u64 (j9 .u64 n) 1=some (IntKind.u64.wrap (j9 .u64 n*2)):=by unfold pI;rw[if_neg dc];rfl
 simp only[e1,aj];have e2:=z11 (a:=j9 .i64 (IntKind.u64.wrap (j9 .u64 n*2))) 1 dc;have e3:((1:Nat):Int)=1:=rfl;rw[e3] at e2;rw[e2];refine⟨_,rfl,?_⟩;unfold j9;rw[qmn,Qs,Qs];rw[Bool.eq_iff_iff,aV];unfold s7;rw[decide_eq_true_eq];show(ite _ _ _) / 2=n↔_;split<;>omega
theorem qtd(n:Int)(h:Km n):∃v,Bf (n,())=some (v,())/\af v n=s7 n:=by
 obtain⟨h1,h2⟩:=h;have e0:j9 .u64 n=n % 18446744073709551616:=Qs n;rw[Wm,Wl,e0,Fu om dc];simp only[aj];rw[z6t];by_cases hb:4611686018427387904<=n % 18446744073709551616 % 9223372036854775808
 ·rw[if_pos hb];refine⟨_,rfl,?_⟩;have e1:cu .u64 (n % 18446744073709551616 % 9223372036854775808) 4611686018427387904=n % 18446744073709551616 % 9223372036854775808-4611686018427387904:=by unfold cu;rw[Qs];omega
  rw[e1,qws om om,qu om om,Bool.eq_iff_iff,aV];unfold s7;rw[decide_eq_true_eq];omega
 ·rw[if_neg hb];refine⟨_,rfl,?_⟩;rw[qws om om,Bool.eq_iff_iff,aV];unfold s7;rw[decide_eq_true_eq];omega
def fZ(k:Int):Int:=bif af k 1||af k 6||af k 9||af k 10||af k 11||af k 21||af k 23 then 0 else bif af k 3||af k 5||af k 7||af k 8||af k 12||af k 22 then 1 else bif af k 4||af k 24 then 2 else bif af k 2 then 3 else -1
def l4(k c:Int):Bool:=bif af k 5||af k 11 then af c 1 else bif af k 6||af k 7||af k 8||af k 12 then af c 2 else bif af k 9 then af c 3 else bif af k 10 then bf 3 c&&af (c % 2) 1 else bif af k 24 then true else af c 0
def jH(k:Int):Bool:=bf 21 k&&bf k 24
def oT(k:Int)(t:List Int)(hk:Int):Int:=bif af k 8&&aw (af hk 5) then 61 else bif af (fZ k) 1&&aw (bK t) then 62 else bif af (fZ k) 2&&aw (eJ t) then 62 else 0
def oe(k:Int)(t:List Int)(hk:Int):Int:=bif af (fZ k) 0 then(bif aM t [] then oT k t hk else 61) else bif af (fZ k) 3 then(bif aA 200 (aa t) then 61 else oT k t hk) else oT k t hk
def fc(k:Int)(t:List Int)(n c hk:Int)(pat:Bool):Int:=
 bif aA (fZ k) 0 then 61 else bif aw (fu (jH k) pat) then 61 else bif aw (l4 k c) then 61 else
 bif af k 1||af k 23 then(bif s7 n then oe k t hk else 61) else(bif af n 0 then oe k t hk else 61)
def Zp:List Int:=[1,2,3,4,5,6,7,8,9,10,11,12,21,22,23,24]
theorem Zq{P:Int->Prop}(h1:P 1)(h2:P 2)(h3:P 3)(h4:P 4)(h5:P 5)(h6:P 6)(h7:P 7)(h8:P 8)(h9:P 9)(he:P 10)(hf:P 11)(hg:P 12)(hj:P 21)(hk:P 22)(hl:P 23)(hm:P 24)(ho:∀a,(∀c,c∈Zp->af a c=false)->P a):∀a,P a:=by
 intro a;by_cases e1:a=1
 ·rw[e1];exact h1
 by_cases e2:a=2
 ·rw[e2];exact h2
 by_cases e3:a=3
 ·rw[e3];exact h3
 by_cases e4:a=4
 ·rw[e4];exact h4
 by_cases e5:a=5
 ·rw[e5];exact h5
 by_cases e6:a=6
 ·rw[e6];exact h6
 by_cases e7:a=7
 ·rw[e7];exact h7
 by_cases e8:a=8
 ·rw[e8];exact h8
 by_cases e9:a=9
 ·rw[e9];exact h9
 by_cases Nj:a=10
 ·rw[Nj];exact he
 by_cases Nk:a=11
 ·rw[Nk];exact hf
 by_cases FJ:a=12
 ·rw[FJ];exact hg
 by_cases vT:a=21
 ·rw[vT];exact hj
 by_cases sL:a=22
 ·rw[sL];exact hk
 by_cases Nl:a=23
 ·rw[Nl];exact hl
 by_cases Kn:a=24
 ·rw[Kn];exact hm
 refine ho a fun c hc=>jW ?_;rintro rfl;simp only[Zp,zu,List.not_mem_nil,or_false] at hc;omega
theorem qxq:∀a:Int,D7 (a,())=some (fZ a,()):=by refine Zq (by kernel_rfl) (by kernel_rfl) (by kernel_rfl) (by kernel_rfl) (by kernel_rfl) (by kernel_rfl) (by kernel_rfl) (by kernel_rfl) (by kernel_rfl) (by kernel_rfl) (by kernel_rfl) (by kernel_rfl) (by kernel_rfl) (by kernel_rfl) (by kernel_rfl) (by kernel_rfl) (fun a h=>?_);have i1:af a 1=false:=h 1 dc;have i2:af a 2=false:=h 2 dc;have i3:af a 3=false:=h 3 dc;have i4:af a 4=false:=h 4 dc;have i5:af a 5=false:=h 5 dc;have i6:af a 6=false:=h 6 dc;have i7:af a 7=false:=h 7 dc;have i8:af a 8=false:=h 8 dc;have i9:af a 9=false:=h 9 dc;have i10:af a 10=false:=h 10 dc;have i11:af a 11=false:=h 11 dc;have i12:af a 12=false:=h 12 dc;have i21:af a 21=false:=h 21 dc;have i22:af a 22=false:=h 22 dc;have i23:af a 23=false:=h 23 dc;have i24:af a 24=false:=h 24 dc;rw[Wy];unfold fZ;simp only[i1,i2,i3,i4,i5,i6,i7,i8,i9,i10,i11,i12,i21,i22,i23,i24,aD,aj];rfl
theorem z1e(c:Int)(hc:0<=c):∀a:Int,Bh (a,c,())=some (l4 a c,()):=by
 have he:Bh (10,c,())=some (l4 10 c,()):=by rw[iR];show ag (ak (bf 3 c) (ag (eO c 2) fun x4=>some (af x4 1)) (some false)) (fun x5=>some (x5,()))=some (bf 3 c&&af (c % 2) 1,());rw[Fu hc dc];cases bf 3 c<;>rfl
 refine Zq (by rw[iR];rfl) (by rw[iR];rfl) (by rw[iR];rfl) (by rw[iR];rfl) (by rw[iR];rfl) (by rw[iR];rfl) (by rw[iR];rfl) (by rw[iR];rfl) (by rw[iR];rfl) he (by rw[iR];rfl) (by rw[iR];rfl) (by rw[iR];rfl) (by rw[iR];rfl) (by rw[iR];rfl) (by rw[iR];rfl) (fun a h=>?_);have i1:af a 1=false:=h 1 dc;have i2:af a 2=false:=h 2 dc;have i3:af a 3=false:=h 3 dc;have i4:af a 4=false:=h 4 dc;have i5:af a 5=false:=h 5 dc;have i6:af a 6=false:=h 6 dc;have i7:af a 7=false:=h 7 dc;have i8:af a 8=false:=h 8 dc;have i9:af a 9=false:=h 9 dc;have i10:af a 10=false:=h 10 dc;have i11:af a 11=false:=h 11 dc;have i12:af a 12=false:=h 12 dc;have i21:af a 21=false:=h 21 dc;have i22:af a 22=false:=h 22 dc;have i23:af a 23=false:=h 23 dc;have i24:af a 24=false:=h 24 dc;rw[iR];unfold l4;simp only[i5,i11,i6,i7,i8,i12,i9,i10,i24,aD,aj];rfl
theorem qhz(a:Int):xe (a,())=some (jH a,()):=by rw[Wx,FH];rfl
theorem qC(a:Int):pZ (a,())=some (jH a,()):=by rw[UE,FH];rfl
def F.head:F->Int
 |.nil=>0
 |.cons k _ _ _ _=>k
theorem behind{l:List ND}{k:Nat}{ks:F}{kd:Int}(hk:k<=1000000)(hs:cg l (k+1) ks)(hn:kd=8->ks.aq≠0):(ak (af kd 8) (ag (aE l (au .i64 (k:Int) 1)) fun x=>some (aw (af x.1 5))) (some false):Option Bool)=some (af kd 8&&aw (af ks.head 5)):=by
 cases h:af kd 8 with
 |false=>rfl
 |true=>
  have h8:=aV.1 h;cases ks with
  |nil=>exact absurd rfl (hn h8)
  |cons x t n ks r=>rw[aG,aI om,aQ hs.node.1];rfl
theorem qte(b:Bool)(l:List ND)(hl:l.length<=10000){k:Nat}{kd:Int}{t:List Int}{n:Int}{ks r:F}(pat:Bool)(h:cg l k (.cons kd t n ks r))(ht:t.length<=1000000)(hr:Km n):Bi (⟨b,l⟩,(k:Int),pat,())=some (fc kd t n (ks.aq:Int) ks.head pat,()):=by
 obtain⟨g1,g2,g3,g4⟩:=h.node;obtain⟨v,w1,w2⟩:=qtd n hr;rw[WB,aQ g1];simp only[aj,qxq,Ng,qhz,z1e (ks.aq:Int) (Int.natCast_nonneg _),w1,w2,qtb ht,qxn ht];by_cases h8:kd=8/\ks.aq=0
 ·obtain⟨rfl,h0⟩:=h8;rw[h0];have e1:aA (fZ 8) 0=false:=rfl;have e2:l4 8 ((0:Nat):Int)=false:=rfl;unfold fc;rw[e1,e2];simp only[aG,aD,aw,Bool.not_false,cond_true,cond_false];cases !fu (jH 8) pat<;>rfl
 ·have e8:=behind (kd:=kd) (l:=l) (k:=k) (ks:=ks) om g2 (fun e h=>h8 ⟨e,h⟩);simp only[e8,aj,aG,aD];unfold fc oe;unfold oT;generalize hT:(af kd 8&&aw (af ks.head 5))=T;cases aA (fZ kd) 0 with
  |true=>rfl
  |false=>
   cases aw (fu (jH kd) pat) with
   |true=>rfl
   |false=>
    cases aw (l4 kd (ks.aq:Int)) with
    |true=>rfl
    |false=>
     simp only[aD,cond_false];have fin:(ag (ak (af (fZ kd) 1) (some (aw (bK t))) (some false)) (fun x6=>ag (ak x6 (some true) (ak (af (fZ kd) 2) (some (aw (eJ t))) (some false))) (fun x8=>ak x8 (some ((62:Int),())) (some (0,())))):Option (Int×Unit))=
       some (bif af (fZ kd) 1&&aw (bK t) then 62 else bif af (fZ kd) 2&&aw (eJ t) then 62 else 0,()):=by
      cases af (fZ kd) 1<;>cases bK t<;>cases af (fZ kd) 2<;>cases eJ t<;>rfl
     simp only[fin];cases (af kd 1||af kd 23) with
     |true=>
      simp only[aG,aD,cond_true,aw,Bool.not_true];cases s7 n with
      |false=>rfl
      |true=>
       simp only[aD,Bool.not_true,cond_true];cases h0:af (fZ kd) 0 with
       |true=>
        have h3:af (fZ kd) 3=false:=by rw[aV.1 h0];rfl
        simp only[h3,aD,cond_false];cases aM t []<;>cases T<;>rfl
       |false=>cases af (fZ kd) 3<;>cases aA 200 (aa t)<;>cases T<;>rfl
     |false=>
      simp only[aG,aD,cond_false,aw,Bool.not_false];cases af n 0 with
      |false=>rfl
      |true=>
       simp only[aD,Bool.not_true,cond_true];cases h0:af (fZ kd) 0 with
       |true=>
        have h3:af (fZ kd) 3=false:=by rw[aV.1 h0];rfl
        simp only[h3,aD,cond_false];cases aM t []<;>cases T<;>rfl
       |false=>cases af (fZ kd) 3<;>cases aA 200 (aa t)<;>cases T<;>rfl
theorem s8(a c:Int):tS (a,c,())=some (af a c,()):=UJ a c
theorem s9(a:Int):wS (a,())=some (true,()):=UI a
theorem z72(a:Int)(h:0<=a):tR (a,())=some (bf 3 a&&af (a % 2) 1,()):=by rw[UH,Fu h dc];cases bf 3 a<;>rfl
theorem z73:fo (1,())=some (true,false,2,0,0,0,true,()):=by kernel_rfl
theorem z74:fo (2,())=some (false,true,2,0,0,0,true,()):=by kernel_rfl
theorem z75:fo (3,())=some (false,false,0,0,0,0,true,()):=by kernel_rfl
theorem z76:fo (4,())=some (false,false,1,0,0,0,true,()):=by kernel_rfl
theorem z77:fo (5,())=some (false,false,0,0,0,1,true,()):=by kernel_rfl
theorem z78:fo (6,())=some (false,false,2,0,0,2,true,()):=by kernel_rfl
theorem z79:fo (7,())=some (false,false,0,0,0,2,true,()):=by kernel_rfl
theorem z7a:fo (8,())=some (false,false,0,0,0,2,true,()):=by kernel_rfl
theorem z7b:fo (9,())=some (false,false,2,0,0,3,true,()):=by kernel_rfl
theorem z56:fo (10,())=some (false,false,2,0,1,0,true,()):=by kernel_rfl
theorem z57:fo (11,())=some (false,false,2,0,0,1,true,()):=by kernel_rfl
theorem z58:fo (12,())=some (false,false,0,0,0,2,true,()):=by kernel_rfl
theorem z59:fo (21,())=some (false,false,2,0,0,0,true,()):=by kernel_rfl
theorem z5a:fo (22,())=some (false,false,0,0,0,0,true,()):=by kernel_rfl
theorem z5b:fo (23,())=some (true,false,2,0,0,0,true,()):=by kernel_rfl
theorem z5c:fo (24,())=some (false,false,1,0,2,0,true,()):=by kernel_rfl
theorem qtf(a:Int)(h:∀c,c∈Zp->af a c=false):fo (a,())=some (false,false,2,0,3,0,false,()):=by have i1:af a 1=false:=h 1 dc;have i2:af a 2=false:=h 2 dc;have i3:af a 3=false:=h 3 dc;have i4:af a 4=false:=h 4 dc;have i5:af a 5=false:=h 5 dc;have i6:af a 6=false:=h 6 dc;have i7:af a 7=false:=h 7 dc;have i8:af a 8=false:=h 8 dc;have i9:af a 9=false:=h 9 dc;have i10:af a 10=false:=h 10 dc;have i11:af a 11=false:=h 11 dc;have i12:af a 12=false:=h 12 dc;have i21:af a 21=false:=h 21 dc;have i22:af a 22=false:=h 22 dc;have i23:af a 23=false:=h 23 dc;have i24:af a 24=false:=h 24 dc;rw[UF];simp only[i1,i2,i3,i4,i5,i6,i7,i8,i9,i10,i11,i12,i21,i22,i23,i24,aD,aj]
theorem nR:af 0 0=true:=id (Eq.refl true)
theorem vU:af 0 1=false:=id (Eq.refl false)
theorem vV:af 0 2=false:=id (Eq.refl false)
theorem Nj:af 1 0=false:=id (Eq.refl false)
theorem Nk:af 1 1=true:=id (Eq.refl true)
theorem FJ:af 1 2=false:=id (Eq.refl false)
theorem Bx:af 2 0=false:=id (Eq.refl false)
theorem vT:af 2 1=false:=id (Eq.refl false)
theorem sL:af 2 2=true:=id (Eq.refl true)
theorem nT:aw true=false:=id (Eq.refl false)
theorem nF:aw false=true:=id (Eq.refl true)
theorem qxr(b:Bool)(l:List ND)(hl:l.length<=10000){k:Nat}{t:List Int}{n:Int}{ks:F}(pat:Bool)(ht:∀b,b∈t->0<=b/\b<=255)(hr:Km n):∀kd:Int,cg l k (tr kd t n ks)->tU (⟨b,l⟩,(k:Int),pat,())=some (fc kd t n (ks.aq:Int) ks.head pat,()):=by
 obtain⟨v,w1,w2⟩:=qhy n hr;have hc:=qxm ht;have he:=Zj ht;have hf:=z72 (ks.aq:Int) (Int.natCast_nonneg _);refine Zq ?k1 ?k2 ?k3 ?k4 ?k5 ?k6 ?k7 ?k8 ?k9 ?k10 ?k11 ?k12 ?k21 ?k22 ?k23 ?k24 (fun a h hs=>?_)
 case k1=>
  intro h;obtain⟨g1,g2,g3,g4⟩:=h.node;rw[iQ,aQ g1,aj,z73,aj];have e8:af 1 8=false:=rfl;have ep:jH 1=false:=rfl;simp only[qC,ep,nT,nF,aG,aD,aj,nR,vU,vV,Bx,vT,sL,s8,s9,hf,w1,w2,hc,he,e8];have hE:fc 1 t n (ks.aq:Int) ks.head pat=bif aw (fu false pat) then 61 else bif aw (af (ks.aq:Int) 0) then 61 else bif s7 n then(bif aM t [] then 0 else 61) else 61:=by have kk:l4 1 (ks.aq:Int)=af (ks.aq:Int) 0:=rfl;unfold fc oe oT;rw[kk];cases pat<;>cases af (ks.aq:Int) 0<;>cases s7 n<;>cases aM t []<;>rfl
  rw[hE];cases pat<;>cases a1:af (ks.aq:Int) 0<;>cases a2:s7 n<;>cases a3:aM t []<;>simp only[nT,nF,aG,aD,aj,Bx,vT,sL,hc,he,fu,e8,BEq.rfl,Bool.false_beq,Bool.not_true,cond_true,cond_false,a3]<;>rfl
 case k2=>
  intro h;obtain⟨g1,g2,g3,g4⟩:=h.node;rw[iQ,aQ g1,aj,z74,aj];have e8:af 2 8=false:=rfl;have ep:jH 2=false:=rfl;simp only[qC,ep,nT,nF,aG,aD,aj,nR,vU,vV,sL,s8,s9,hf,w1,w2];have hE:fc 2 t n (ks.aq:Int) ks.head pat=bif aw (fu false pat) then 61 else bif aw (af (ks.aq:Int) 0) then 61 else bif af n 0 then(bif aA 200 (aa t) then 61 else 0) else 61:=by have kk:l4 2 (ks.aq:Int)=af (ks.aq:Int) 0:=rfl;unfold fc oe oT;rw[kk];cases pat<;>cases af (ks.aq:Int) 0<;>cases af n 0<;>cases aA 200 (aa t)<;>rfl
  rw[hE];cases pat<;>cases a1:af (ks.aq:Int) 0<;>cases a2:af n 0<;>cases a3:aA 200 (aa t)<;>simp only[nT,nF,aG,aD,aj,Bx,vT,sL,hc,he,fu,e8,BEq.rfl,Bool.false_beq,Bool.not_true,cond_true,cond_false]<;>rfl
 case k3=>
  intro h;obtain⟨g1,g2,g3,g4⟩:=h.node;rw[iQ,aQ g1,aj,z75,aj];have e8:af 3 8=false:=rfl;have ep:jH 3=false:=rfl;simp only[qC,ep,nT,nF,aG,aD,aj,nR,vU,vV,s8,s9,hf,w1,w2,hc,he,e8];have hE:fc 3 t n (ks.aq:Int) ks.head pat=bif aw (fu false pat) then 61 else bif aw (af (ks.aq:Int) 0) then 61 else bif af n 0 then(bif bK t then 0 else 62) else 61:=by have kk:l4 3 (ks.aq:Int)=af (ks.aq:Int) 0:=rfl;unfold fc oe oT;rw[kk];cases pat<;>cases af (ks.aq:Int) 0<;>cases af n 0<;>cases bK t<;>rfl
  rw[hE];cases pat<;>cases a1:af (ks.aq:Int) 0<;>cases a2:af n 0<;>cases a3:bK t<;>simp only[nT,nF,aG,aD,aj,fu,BEq.rfl,Bool.false_beq,Bool.not_true,cond_true,cond_false]<;>rfl
 case k4=>
  intro h;obtain⟨g1,g2,g3,g4⟩:=h.node;rw[iQ,aQ g1,aj,z76,aj];have e8:af 4 8=false:=rfl;have ep:jH 4=false:=rfl;simp only[qC,ep,nT,nF,aG,aD,aj,nR,vU,vV,Nj,Nk,FJ,s8,s9,hf,w1,w2,hc,he,e8];have hE:fc 4 t n (ks.aq:Int) ks.head pat=bif aw (fu false pat) then 61 else bif aw (af (ks.aq:Int) 0) then 61 else bif af n 0 then(bif eJ t then 0 else 62) else 61:=by have kk:l4 4 (ks.aq:Int)=af (ks.aq:Int) 0:=rfl;unfold fc oe oT;rw[kk];cases pat<;>cases af (ks.aq:Int) 0<;>cases af n 0<;>cases eJ t<;>rfl
  rw[hE];cases pat<;>cases a1:af (ks.aq:Int) 0<;>cases a2:af n 0<;>cases a3:eJ t<;>simp only[nT,nF,aG,aD,aj,fu,BEq.rfl,Bool.false_beq,Bool.not_true,cond_true,cond_false]<;>rfl
 case k5=>
  intro h;obtain⟨g1,g2,g3,g4⟩:=h.node;rw[iQ,aQ g1,aj,z77,aj];have e8:af 5 8=false:=rfl;have ep:jH 5=false:=rfl;simp only[qC,ep,nT,nF,aG,aD,aj,nR,vU,vV,s8,s9,hf,w1,w2,hc,he,e8];have hE:fc 5 t n (ks.aq:Int) ks.head pat=bif aw (fu false pat) then 61 else bif aw (af (ks.aq:Int) 1) then 61 else bif af n 0 then(bif bK t then 0 else 62) else 61:=by have kk:l4 5 (ks.aq:Int)=af (ks.aq:Int) 1:=rfl;unfold fc oe oT;rw[kk];cases pat<;>cases af (ks.aq:Int) 1<;>cases af n 0<;>cases bK t<;>rfl
  rw[hE];cases pat<;>cases a1:af (ks.aq:Int) 1<;>cases a2:af n 0<;>cases a3:bK t<;>simp only[nT,nF,aG,aD,aj,fu,BEq.rfl,Bool.false_beq,Bool.not_true,cond_true,cond_false]<;>rfl
 case k6=>
  intro h;obtain⟨g1,g2,g3,g4⟩:=h.node;rw[iQ,aQ g1,aj,z78,aj];have e8:af 6 8=false:=rfl;have ep:jH 6=false:=rfl;simp only[qC,ep,nT,nF,aG,aD,aj,nR,vU,vV,Bx,vT,sL,s8,s9,hf,w1,w2,hc,he,e8];have hE:fc 6 t n (ks.aq:Int) ks.head pat=bif aw (fu false pat) then 61 else bif aw (af (ks.aq:Int) 2) then 61 else bif af n 0 then(bif aM t [] then 0 else 61) else 61:=by have kk:l4 6 (ks.aq:Int)=af (ks.aq:Int) 2:=rfl;unfold fc oe oT;rw[kk];cases pat<;>cases af (ks.aq:Int) 2<;>cases af n 0<;>cases aM t []<;>rfl
  rw[hE];cases pat<;>cases a1:af (ks.aq:Int) 2<;>cases a2:af n 0<;>cases a3:aM t []<;>simp only[nT,nF,aG,aD,aj,fu,BEq.rfl,Bool.false_beq,Bool.not_true,cond_true,cond_false]<;>rfl
 case k7=>
  intro h;obtain⟨g1,g2,g3,g4⟩:=h.node;rw[iQ,aQ g1,aj,z79,aj];have e8:af 7 8=false:=rfl;have ep:jH 7=false:=rfl;simp only[qC,ep,nT,nF,aG,aD,aj,nR,vU,vV,s8,s9,hf,w1,w2,hc,he,e8];have hE:fc 7 t n (ks.aq:Int) ks.head pat=bif aw (fu false pat) then 61 else bif aw (af (ks.aq:Int) 2) then 61 else bif af n 0 then(bif bK t then 0 else 62) else 61:=by have kk:l4 7 (ks.aq:Int)=af (ks.aq:Int) 2:=rfl;unfold fc oe oT;rw[kk];cases pat<;>cases af (ks.aq:Int) 2<;>cases af n 0<;>cases bK t<;>rfl
  rw[hE];cases pat<;>cases a1:af (ks.aq:Int) 2<;>cases a2:af n 0<;>cases a3:bK t<;>simp only[nT,nF,aG,aD,aj,fu,BEq.rfl,Bool.false_beq,Bool.not_true,cond_true,cond_false]<;>rfl
 case k8=>
  intro h;obtain⟨g1,g2,g3,g4⟩:=h.node;rw[iQ,aQ g1,aj,z7a,aj];have e8:af 8 8=true:=rfl;have ep:jH 8=false:=rfl;simp only[qC,ep,nT,nF,aG,aD,aj,nR,vU,vV,s8,s9,hf,w1,w2,hc,he];have hE:fc 8 t n (ks.aq:Int) ks.head pat=bif aw (fu false pat) then 61 else bif aw (af (ks.aq:Int) 2) then 61 else bif af n 0 then(bif af ks.head 5 then(bif bK t then 0 else 62) else 61) else 61:=by have kk:l4 8 (ks.aq:Int)=af (ks.aq:Int) 2:=rfl;unfold fc oe oT;rw[kk];cases pat<;>cases af (ks.aq:Int) 2<;>cases af n 0<;>cases bK t<;>cases af ks.head 5<;>rfl
  rw[hE];cases h2:af (ks.aq:Int) 2 with
  |false=>cases pat<;>rfl
  |true=>have hb:=behind (kd:=8) (l:=l) (k:=k) (ks:=ks) om g2 (fun _ h0=>by have:=aV.1 h2;omega);rw[show af 8 8=true from rfl,aG] at hb;have hg:ag (aE l (au .i64 (k:Int) 1)) (fun x=>some (aw (af x.1 5)))=some (aw (af ks.head 5)):=hb;cases pat<;>cases a1:af n 0<;>cases a2:af ks.head 5<;>cases a3:bK t<;>simp only[nT,nF,aG,aD,aj,e8,hg,fu,Bool.false_beq,beq_self_eq_true,Bool.not_true,a2]<;>rfl
 case k9=>
  intro h;obtain⟨g1,g2,g3,g4⟩:=h.node;rw[iQ,aQ g1,aj,z7b,aj];have e8:af 9 8=false:=rfl;have ep:jH 9=false:=rfl;simp only[qC,ep,nT,nF,aG,aD,aj,nR,vU,vV,Bx,vT,sL,s8,s9,hf,w1,w2,hc,he,e8];have hE:fc 9 t n (ks.aq:Int) ks.head pat=bif aw (fu false pat) then 61 else bif aw (af (ks.aq:Int) 3) then 61 else bif af n 0 then(bif aM t [] then 0 else 61) else 61:=by have kk:l4 9 (ks.aq:Int)=af (ks.aq:Int) 3:=rfl;unfold fc oe oT;rw[kk];cases pat<;>cases af (ks.aq:Int) 3<;>cases af n 0<;>cases aM t []<;>rfl
  rw[hE];cases pat<;>cases a1:af (ks.aq:Int) 3<;>cases a2:af n 0<;>cases a3:aM t []<;>simp only[nT,nF,aG,aD,aj,fu,BEq.rfl,Bool.false_beq,Bool.not_true,cond_true,cond_false]<;>rfl
 case k10=>
  intro h;obtain⟨g1,g2,g3,g4⟩:=h.node;rw[iQ,aQ g1,aj,z56,aj];have e8:af 10 8=false:=rfl;have ep:jH 10=false:=rfl;simp only[qC,ep,nT,nF,aG,aD,aj,Nj,Nk,FJ,Bx,vT,sL,s8,s9,hf,w1,w2,hc,he,e8];have hE:fc 10 t n (ks.aq:Int) ks.head pat=bif aw (fu false pat) then 61 else bif aw ((bf 3 (ks.aq:Int)&&af ((ks.aq:Int) % 2) 1)) then 61 else bif af n 0 then(bif aM t [] then 0 else 61) else 61:=by have kk:l4 10 (ks.aq:Int)=(bf 3 (ks.aq:Int)&&af ((ks.aq:Int) % 2) 1):=rfl;unfold fc oe oT;rw[kk];cases pat<;>cases bf 3 (ks.aq:Int)<;>cases af ((ks.aq:Int) % 2) 1<;>cases af n 0<;>cases aM t []<;>rfl
  rw[hE];cases pat<;>cases a1:bf 3 (ks.aq:Int)<;>cases a2:af ((ks.aq:Int) % 2) 1<;>cases a3:af n 0<;>cases a4:aM t []<;>simp only[nT,nF,aG,aD,aj,fu,BEq.rfl,Bool.false_beq,Bool.not_true,Bool.true_and,Bool.false_and,cond_true,cond_false]<;>rfl
 case k11=>
  intro h;obtain⟨g1,g2,g3,g4⟩:=h.node;rw[iQ,aQ g1,aj,z57,aj];have e8:af 11 8=false:=rfl;have ep:jH 11=false:=rfl;simp only[qC,ep,nT,nF,aG,aD,aj,nR,vU,vV,Bx,vT,sL,s8,s9,hf,w1,w2,hc,he,e8];have hE:fc 11 t n (ks.aq:Int) ks.head pat=bif aw (fu false pat) then 61 else bif aw (af (ks.aq:Int) 1) then 61 else bif af n 0 then(bif aM t [] then 0 else 61) else 61:=by have kk:l4 11 (ks.aq:Int)=af (ks.aq:Int) 1:=rfl;unfold fc oe oT;rw[kk];cases pat<;>cases af (ks.aq:Int) 1<;>cases af n 0<;>cases aM t []<;>rfl
  rw[hE];cases pat<;>cases a1:af (ks.aq:Int) 1<;>cases a2:af n 0<;>cases a3:aM t []<;>simp only[nT,nF,aG,aD,aj,fu,BEq.rfl,Bool.false_beq,Bool.not_true,cond_true,cond_false]<;>rfl
 case k12=>
  intro h;obtain⟨g1,g2,g3,g4⟩:=h.node;rw[iQ,aQ g1,aj,z58,aj];have e8:af 12 8=false:=rfl;have ep:jH 12=false:=rfl;simp only[qC,ep,nT,nF,aG,aD,aj,nR,vU,vV,s8,s9,hf,w1,w2,hc,he,e8];have hE:fc 12 t n (ks.aq:Int) ks.head pat=bif aw (fu false pat) then 61 else bif aw (af (ks.aq:Int) 2) then 61 else bif af n 0 then(bif bK t then 0 else 62) else 61:=by have kk:l4 12 (ks.aq:Int)=af (ks.aq:Int) 2:=rfl;unfold fc oe oT;rw[kk];cases pat<;>cases af (ks.aq:Int) 2<;>cases af n 0<;>cases bK t<;>rfl
  rw[hE];cases pat<;>cases a1:af (ks.aq:Int) 2<;>cases a2:af n 0<;>cases a3:bK t<;>simp only[nT,nF,aG,aD,aj,fu,BEq.rfl,Bool.false_beq,Bool.not_true,cond_true,cond_false]<;>rfl
 case k21=>
  intro h;obtain⟨g1,g2,g3,g4⟩:=h.node;rw[iQ,aQ g1,aj,z59,aj];have e8:af 21 8=false:=rfl;have ep:jH 21=true:=rfl;simp only[qC,ep,nT,nF,aG,aD,aj,nR,vU,vV,Bx,vT,sL,s8,s9,hf,w1,w2,hc,he,e8];have hE:fc 21 t n (ks.aq:Int) ks.head pat=bif aw (fu true pat) then 61 else bif aw (af (ks.aq:Int) 0) then 61 else bif af n 0 then(bif aM t [] then 0 else 61) else 61:=by have kk:l4 21 (ks.aq:Int)=af (ks.aq:Int) 0:=rfl;unfold fc oe oT;rw[kk];cases pat<;>cases af (ks.aq:Int) 0<;>cases af n 0<;>cases aM t []<;>rfl
  rw[hE];cases pat<;>cases a1:af (ks.aq:Int) 0<;>cases a2:af n 0<;>cases a3:aM t []<;>simp only[nT,nF,aG,aD,aj,fu,BEq.rfl,cond_true,cond_false]<;>rfl
 case k22=>
  intro h;obtain⟨g1,g2,g3,g4⟩:=h.node;rw[iQ,aQ g1,aj,z5a,aj];have e8:af 22 8=false:=rfl;have ep:jH 22=true:=rfl;simp only[qC,ep,nT,nF,aG,aD,aj,nR,vU,vV,s8,s9,hf,w1,w2,hc,he,e8];have hE:fc 22 t n (ks.aq:Int) ks.head pat=bif aw (fu true pat) then 61 else bif aw (af (ks.aq:Int) 0) then 61 else bif af n 0 then(bif bK t then 0 else 62) else 61:=by have kk:l4 22 (ks.aq:Int)=af (ks.aq:Int) 0:=rfl;unfold fc oe oT;rw[kk];cases pat<;>cases af (ks.aq:Int) 0<;>cases af n 0<;>cases bK t<;>rfl
  rw[hE];cases pat<;>cases a1:af (ks.aq:Int) 0<;>cases a2:af n 0<;>cases a3:bK t<;>simp only[nT,nF,aG,aD,aj,fu,BEq.rfl,cond_true,cond_false]<;>rfl
 case k23=>
  intro h;obtain⟨g1,g2,g3,g4⟩:=h.node;rw[iQ,aQ g1,aj,z5b,aj];have e8:af 23 8=false:=rfl;have ep:jH 23=true:=rfl;simp only[qC,ep,nT,nF,aG,aD,aj,nR,vU,vV,Bx,vT,sL,s8,s9,hf,w1,w2,hc,he,e8];have hE:fc 23 t n (ks.aq:Int) ks.head pat=bif aw (fu true pat) then 61 else bif aw (af (ks.aq:Int) 0) then 61 else bif s7 n then(bif aM t [] then 0 else 61) else 61:=by have kk:l4 23 (ks.aq:Int)=af (ks.aq:Int) 0:=rfl;unfold fc oe oT;rw[kk];cases pat<;>cases af (ks.aq:Int) 0<;>cases s7 n<;>cases aM t []<;>rfl
  rw[hE];cases pat<;>cases a1:af (ks.aq:Int) 0<;>cases a2:s7 n<;>cases a3:aM t []<;>simp only[nT,nF,aG,aD,aj,Bx,vT,sL,hc,he,fu,e8,BEq.rfl,cond_true,cond_false,a3]<;>rfl
 case k24=>
  intro h;obtain⟨g1,g2,g3,g4⟩:=h.node;rw[iQ,aQ g1,aj,z5c,aj];have e8:af 24 8=false:=rfl;have ep:jH 24=true:=rfl;simp only[qC,ep,nT,nF,aG,aD,aj,Nj,Nk,FJ,Bx,vT,sL,s8,s9,hf,w1,w2,hc,he,e8];have hE:fc 24 t n (ks.aq:Int) ks.head pat=bif aw (fu true pat) then 61 else bif aw (true) then 61 else bif af n 0 then(bif eJ t then 0 else 62) else 61:=by have kk:l4 24 (ks.aq:Int)=true:=rfl;unfold fc oe oT;rw[kk];cases pat<;>cases af n 0<;>cases eJ t<;>rfl
  rw[hE];cases pat<;>cases a1:af n 0<;>cases a2:eJ t<;>simp only[nT,nF,aG,aD,aj,fu,BEq.rfl,cond_true,cond_false]<;>rfl
 obtain⟨g1,g2,g3,g4⟩:=hs.node;rw[iQ,aQ g1,aj,qtf a h,aj];have hE:fc a t n (ks.aq:Int) ks.head pat=61:=by
  have hs:fZ a=-1:=by unfold fZ;rw[h 1 dc,h 6 dc,h 9 dc,h 10 dc,h 11 dc,h 21 dc,h 23 dc,h 3 dc,h 5 dc,h 7 dc,h 8 dc,h 12 dc,h 22 dc,h 4 dc,h 24 dc,h 2 dc];rfl
  unfold fc;rw[hs];rfl
 rw[hE];rfl
def IL(x:ND):Prop:=(∀b,b∈x.2.1->0<=b/\b<=255)/\x.2.1.length<=1000000/\Km x.2.2.1
def GL(l:List ND):Prop:=∀x,x∈l->IL x
theorem GL.at{l:List ND}(h:GL l){k:Nat}{x:ND}(e:l[k]?=some x):IL x:=h x (zj e)
def fM:Bool->Bool->Bool->F->Int
 |_,_,_,.nil=>0
 |m,pat,odd,.cons kd t n ks r=>
  bif aw (af (fc kd t n (ks.aq:Int) ks.head (pat||(m&&odd))) 0) then fc kd t n (ks.aq:Int) ks.head (pat||(m&&odd)) else
  bif aw (af (fM (af kd 10) (pat||(m&&odd)) false ks) 0) then fM (af kd 10) (pat||(m&&odd)) false ks else fM m pat (!odd) r
def dU(kd:Int)(t:List Int)(n:Int)(ks:F)(pat:Bool):Int:=bif aw (af (fc kd t n (ks.aq:Int) ks.head pat) 0) then fc kd t n (ks.aq:Int) ks.head pat else fM (af kd 10) pat false ks
theorem Zr(m pat odd:Bool):fM m pat odd .nil=0:=id (Eq.refl _)
theorem Zs(m pat odd:Bool)(kd:Int)(t:List Int)(n:Int)(ks r:F):fM m pat odd (.cons kd t n ks r)=bif aw (af (dU kd t n ks (pat||(m&&odd))) 0) then dU kd t n ks (pat||(m&&odd)) else fM m pat (!odd) r:=by
 conv=>lhs;unfold fM
 unfold dU;cases h:aw (af (fc kd t n (ks.aq:Int) ks.head (pat||(m&&odd))) 0) with
 |true=>rw[cond_true,cond_true,h];rfl
 |false=>rw[cond_false,cond_false]
theorem Qt(i:Nat):af (((i+1:Nat):Int) % 2) 1=!af ((i:Int) % 2) 1:=by
 by_cases h:(i:Int) % 2=1
 ·have h2:((i+1:Nat):Int) % 2=0:=om
  rw[h,h2];rfl
 ·have h1:(i:Int) % 2=0:=om
  have h2:((i+1:Nat):Int) % 2=1:=om
  rw[h1,h2];rfl
def Cg(to:Nat)(e:Int):Int×Int×Unit:=bif af e 0 then((to:Int),0,()) else(0,e,())
theorem z1f(b b2:Bool)(l:List ND)(hl:l.length<=10000)(hg:GL l){k:Nat}{kd:Int}{t:List Int}{n:Int}{ks:F}(h:cg l k (tr kd t n ks)):∀pat N,ks.size+1<=N->aU nD N (⟨b,l⟩,(k:Int),pat,⟨b2,l⟩,())=some (Cg (k+1+ks.size) (dU kd t n ks pat)):=by
 refine F.iS (l:=l) (P:=fun k kd t n ks=>∀pat N,ks.size+1<=N->aU nD N (⟨b,l⟩,(k:Int),pat,⟨b2,l⟩,())=some (Cg (k+1+ks.size) (dU kd t n ks pat))) ?_ h;clear h k kd t n ks;intro k kd t n ks hs he pat N hN;obtain⟨N,rfl⟩:∃m,N=m+1:=⟨N-1,by omega⟩;show nD (aU nD N) _=_;obtain⟨g1,g2,g3,g4⟩:=hs.node;obtain⟨q1,q2,q3⟩:=hg.at g1;rw[UL,UK,qxr b2 l hl pat q1 q3 kd hs];simp only[aj];unfold dU;cases hE:aw (af (fc kd t n (ks.aq:Int) ks.head pat) 0) with
 |true=>
  rw[aG,cond_true];unfold Cg;have:af (fc kd t n (ks.aq:Int) ks.head pat) 0=false:=by unfold aw at hE;simpa using hE
  rw[this,cond_false]
 |false=>
  rw[aD,cond_false,aQ g1,aj,aI om];have loop:∀(g:F) (q i:Nat),g.qh (fun k kd t n ks=>∀pat N,ks.size+1<=N->aU nD N (⟨b,l⟩,(k:Int),pat,⟨b2,l⟩,())=some (Cg (k+1+ks.size) (dU kd t n ks pat))) q->
    g.size<=N->i+g.aq=ks.aq->i<=1000000->
    aH (rD (aU nD N)) (⟨b,l⟩,(k:Int),pat,⟨b2,l⟩,(q:Int),(ks.aq:Int),(i:Int),())=some (Cg (q+g.size) (fM (af kd 10) pat (af ((i:Int) % 2) 1) g)):=by
   intro g
   induction g with
   |nil=>intro q i _ _ hi _;have hi:i+0=ks.aq:=hi;refine dO ?_;unfold rD;simp only;rw[eI,if_neg om,Zr];rfl
   |cons oU t' n' ks' r' _ ih=>
    intro q i hE hz hi hk;have hi:i+(r'.aq+1)=ks.aq:=hi;have hz:ks'.size+r'.size+1<=N:=hz;have hc:=ks.cq;have hj:ak pat (some true) (ag (aE l (k:Int)) (fun x3=>ak (af x3.1 10) (ag (eO (i:Int) 2) (fun x4=>some (af x4 1))) (some false)))=some (pat||(af kd 10&&af ((i:Int) % 2) 1)):=by rw[aQ g1,Fu om dc];simp only[aj];cases pat<;>cases af kd 10<;>rfl
    rw[Zs];have hw:=hE.1 (pat||(af kd 10&&af ((i:Int) % 2) 1)) N om;generalize hv:dU oU t' n' ks' (pat||(af kd 10&&af ((i:Int) % 2) 1))=v at*
    have step:rD (aU nD N) (⟨b,l⟩,(k:Int),pat,⟨b2,l⟩,(q:Int),(ks.aq:Int),(i:Int),())=
      bif af v 0 then some (.inl (⟨b,l⟩,(k:Int),pat,⟨b2,l⟩,((q+1+ks'.size:Nat):Int),(ks.aq:Int),((i+1:Nat):Int),())) else some (.inr (0,v,())):=by
     unfold rD;simp only[hj,aj,hw];rw[eI,if_pos om,aI om];unfold Cg;cases hf:af v 0 with
     |true=>rfl
     |false=>show ak (aw (af v 0)) _ _=_;rw[hf];rfl
    cases hf:af v 0 with
    |true=>
     rw[hf,cond_true] at step;rw[fE step,ih _ (i+1) hE.2 om om om,Qt];have e:q+1+ks'.size+r'.size=q+(F.cons oU t' n' ks' r').size:=by show _=q+(ks'.size+r'.size+1);omega
     rw[e];rfl
    |false=>rw[hf,cond_false] at step;rw[dO step];show _=some (Cg _ v);unfold Cg;rw[hf];rfl
  have hc:=ks.cq;exact loop ks (k+1) 0 he om om om
theorem qxs(b:Bool)(l:List ND)(hl:l.length<=10000)(hg:GL l){k:Nat}{kd:Int}{t:List Int}{n:Int}{ks:F}(h:cg l k (tr kd t n ks)):∀pat N,ks.size+1<=N->aU oN N (⟨b,l⟩,(k:Int),pat,())=some (dU kd t n ks pat,()):=by
 refine F.iS (l:=l) (P:=fun k kd t n ks=>∀pat N,ks.size+1<=N->aU oN N (⟨b,l⟩,(k:Int),pat,())=some (dU kd t n ks pat,())) ?_ h;clear h k kd t n ks;intro k kd t n ks hs he pat N hN;obtain⟨N,rfl⟩:∃m,N=m+1:=⟨N-1,by omega⟩;show oN (aU oN N) _=_;obtain⟨g1,g2,g3,g4⟩:=hs.node;obtain⟨q1,q2,q3⟩:=hg.at g1;rw[WC,qte b l hl pat hs q2 q3,IK b l hl hs];simp only[aj];unfold dU;cases hE:aw (af (fc kd t n (ks.aq:Int) ks.head pat) 0) with
 |true=>rw[aG,cond_true]
 |false=>
  rw[aD,cond_false];have loop:∀(g:F) (q:Nat) (pre:List Int),g.qh (fun k kd t n ks=>∀pat N,ks.size+1<=N->aU oN N (⟨b,l⟩,(k:Int),pat,())=some (dU kd t n ks pat,())) q->
    g.size<=N->pre++g.pos q=ks.pos (k+1)->
    aH (pz (aU oN N)) (⟨b,l⟩,(k:Int),pat,⟨false,ks.pos (k+1)⟩,(pre.length:Int),())=some (fM (af kd 10) pat (af ((pre.length:Int) % 2) 1) g,()):=by
   intro g
   induction g with
   |nil=>intro q pre _ _ hp;have hp:pre++[]=ks.pos (k+1):=hp;rw[zC] at hp;refine dO ?_;unfold pz;simp only;rw[eI,if_neg (by rw[hp];unfold aa;omega),Zr]
   |cons oU t' n' ks' r' _ ih=>
    intro q pre hE hz hp;have hz:ks'.size+r'.size+1<=N:=hz;have hp:pre++(q:Int)::r'.pos (q+1+ks'.size)=ks.pos (k+1):=hp;have hf:(ks.pos (k+1)).length=ks.aq:=ks.dG _;have hn:=congrArg List.length hp;rw[zt,zw,hf] at hn;have hc:=ks.cq;have hk:(ks.pos (k+1))[pre.length]?=some (q:Int):=by rw[<-hp];simp
    rw[Zs];have hw:=hE.1 (pat||(af kd 10&&af ((pre.length:Int) % 2) 1)) N om;have step:pz (aU oN N) (⟨b,l⟩,(k:Int),pat,⟨false,ks.pos (k+1)⟩,(pre.length:Int),())=
      bif aw (af (dU oU t' n' ks' (pat||(af kd 10&&af ((pre.length:Int) % 2) 1))) 0) then some (.inr (dU oU t' n' ks' (pat||(af kd 10&&af ((pre.length:Int) % 2) 1)),())) else some (.inl (⟨b,l⟩,(k:Int),pat,⟨false,ks.pos (k+1)⟩,((pre.length+1:Nat):Int),())):=by
     unfold pz;simp only;rw[eI,if_pos (by unfold aa;rw[hf];omega),aQ hk,aj,aQ g1,Fu om dc,aI om];cases pat with
     |true=>rw[Bool.true_or] at hw;simp only[aG,Bool.true_or,hw,aj];cases aw (af (dU oU t' n' ks' true) 0)<;>rfl
     |false=>
      cases hj:af kd 10 with
      |true=>rw[hj,Bool.false_or,Bool.true_and] at hw;simp only[aD,Bool.false_or,Bool.true_and,hj,aG,hw,aj];cases aw (af (dU oU t' n' ks' (af ((pre.length:Int) % 2) 1)) 0)<;>rfl
      |false=>rw[hj,Bool.false_or,Bool.false_and] at hw;simp only[aD,Bool.false_or,Bool.false_and,hj,hw,aj];cases aw (af (dU oU t' n' ks' false) 0)<;>rfl
    cases hm:aw (af (dU oU t' n' ks' (pat||(af kd 10&&af ((pre.length:Int) % 2) 1))) 0) with
    |true=>rw[hm,cond_true] at step;rw[dO step];rfl
    |false=>rw[hm,cond_false] at step;have hi:=ih (q+1+ks'.size) (pre++[(q:Int)]) hE.2 om (by rw[zD];exact hp);rw[zt] at hi;have hi:aH (pz (aU oN N)) (⟨b,l⟩,(k:Int),pat,⟨false,ks.pos (k+1)⟩,((pre.length+1:Nat):Int),())=some (fM (af kd 10) pat (af (((pre.length+1:Nat):Int) % 2) 1) r',()):=hi;rw[fE step,hi,Qt];rfl
  exact loop ks (k+1) [] he om rfl
theorem qxt(b b2:Bool)(l:List ND)(hl:l.length<=10000)(hg:GL l){k:Nat}{kd:Int}{t:List Int}{n:Int}{ks:F}(pat:Bool)(h:cg l k (tr kd t n ks)):y7 (⟨b,l⟩,(k:Int),pat,⟨b2,l⟩,())=some (Cg (k+1+ks.size) (dU kd t n ks pat)):=tG (ks.size+1) fun N hN=>z1f b b2 l hl hg h pat N hN
theorem qtg(b:Bool)(l:List ND)(hl:l.length<=10000)(hg:GL l){k:Nat}{kd:Int}{t:List Int}{n:Int}{ks:F}(pat:Bool)(h:cg l k (tr kd t n ks)):Me (⟨b,l⟩,(k:Int),pat,())=some (dU kd t n ks pat,()):=tG (ks.size+1) fun N hN=>qxs b l hl hg h pat N hN
abbrev Tx:=List Int
def bN:List Tx->Bool
 |[]=>false
 |a::r=>decide (a∈r)||bN r
theorem Nn:∀l:List Tx,bN l=false↔l.Nodup
 |[]=>by simp[bN]
 |a::r=>by unfold bN;rw[List.nodup_cons,<-Nn r,Bool.or_eq_false_iff,decide_eq_false_iff_not]
def td(l:List ND):List Tx:=l.filterMap fun x=>if x.1=22 then some x.2.1 else none
theorem qth(a b:List ND):td (a++b)=td a++td b:=List.filterMap_append ..
theorem qfq(x:ND)(l:List ND):td (x::l)=(if x.1=22 then [x.2.1] else [])++td l:=by
 show List.filterMap _ (x::l)=_;rw[List.filterMap_cons];by_cases h:x.1=22
 ·rw[if_pos h,if_pos h];rfl
 ·rw[if_neg h,if_neg h];rfl
theorem qti(l:List ND):(td l).length<=l.length:=List.length_filterMap_le _ _
theorem qtj(b:Bool)(l:List ND)(hl:l.length<=10000):∀(m k:Nat) (nb:Bool) (out:List Tx),k+m=l.length->out.length<=k->∃vS,aH nM (⟨b,l⟩,(l.length:Int),(k:Int),⟨nb,out⟩,())=some (⟨vS,out++td (l.drop k)⟩,()):=by
 intro m
 induction m with
 |zero=>intro k nb out hk _;refine⟨nb,dO ?_⟩;unfold nM;simp only;rw[eI,if_neg om,zR om];show _=some (Sum.inr ((⟨nb,out++[]⟩:Sl Tx),()));rw[zC]
 |succ m ih=>
  intro k nb out hk ho;have hc:k<l.length:=om
  rw[sJ hc,qfq];have he:=aQ (ze hc);by_cases h:l[k].1=22
  ·have hf:fit (aT (aa out) (aa [l[k].2.1]))=some ():=iA (by show out.length+1<=_;omega);have step:nM (⟨b,l⟩,(l.length:Int),(k:Int),⟨nb,out⟩,())=some (.inl (⟨b,l⟩,(l.length:Int),((k+1:Nat):Int),⟨false,out++[l[k].2.1]⟩,())):=by unfold nM;simp only;rw[eI,if_pos om,he,aj,P5,if_pos h,hf,aj,aj,uN,aI om];rfl
   obtain⟨vS,h'⟩:=ih (k+1) false (out++[l[k].2.1]) om (by rw[zt,List.length_singleton];omega);refine⟨vS,?_⟩;rw[fE step,h',if_pos h,zD]
  ·have step:nM (⟨b,l⟩,(l.length:Int),(k:Int),⟨nb,out⟩,())=some (.inl (⟨b,l⟩,(l.length:Int),((k+1:Nat):Int),⟨nb,out⟩,())):=by unfold nM;simp only;rw[eI,if_pos om,he,aj,P5,if_neg h,aj,aI om]
   obtain⟨vS,h'⟩:=ih (k+1) nb out om om;refine⟨vS,?_⟩;rw[fE step,h',if_neg h,List.nil_append]
theorem qtk(b:Bool)(l:List ND)(hl:l.length<=10000):∃nb,tW (⟨b,l⟩,())=some (⟨nb,td l⟩,()):=by rw[UN];exact qtj b l hl l.length 0 true [] om (Nat.le_refl _)
def vW:List Tx->Bool
 |[]=>false
 |[_]=>false
 |a::b::r=>decide (a=b)||vW (b::r)
theorem Zt:∀l:List Tx,vW l=true↔∃k,k+1<l.length/\l[k+1]?=l[k]?
 |[]=>by simp[vW]
 |[a]=>by simp[vW]
 |a::b::r=>by
  unfold vW;rw[Bool.or_eq_true,decide_eq_true_eq,Zt (b::r)];constructor
  ·rintro(h|⟨k,h1,h2⟩)
   ·exact⟨0,by simp,by simp[h]⟩
   ·exact⟨k+1,by simpa using h1,by simpa using h2⟩
  ·rintro⟨k,h1,h2⟩;cases k with
   |zero=>left;simpa using h2.symm
   |succ k=>right;exact⟨k,by simpa using h1,by simpa using h2⟩
theorem qr9(a b:Nat):aT (a:Int) (b:Int)=((a+b:Nat):Int):=by show(a:Int)+(b:Int)=_;omega
theorem EF{α:Type}{l:List α}{i:Nat}(h:i<l.length):nth l i=some l[i]:=by unfold nth;exact ze h
theorem qtl(k0:Nat)(nb:Bool):∀(m k k2:Nat) (s:List Tx),s.length<=1000000->k0+k2+m=s.length->1<=k2->k+1<=k0+k2->∃c:List Tx,aH ph ((k:Int),(k0:Int),(k2:Int),⟨nb,s⟩,())=some (.inr (⟨nb,c⟩,()))/\c.length<s.length:=by
 intro m
 induction m with
 |zero=>
  intro k k2 s hs h1 h2 h3;refine⟨(iG s (k:Int) []).take k,dO ?_,?_⟩
  ·have e1:aa (cP s (k0:Int))=(k2:Int):=by unfold aa cP;rw[zX,Int.toNat_natCast];omega
   have ez:(iG s (k:Int) ([]:Tx)).length=s.length:=by unfold iG;rw[zt,zO,List.length_replicate,Int.toNat_natCast];omega
   unfold ph;simp only[e1];rw[eI,if_neg om];have c1:eN (aa s) (k:Int)=some k:=by unfold eN aa;rw[if_pos om,Int.toNat_natCast]
   have c2:eN (aa (iG s (k:Int) ([]:Tx))) (k:Int)=some k:=by unfold eN aa;rw[if_pos om,Int.toNat_natCast]
   rw[c1,aj,c2,aj];rfl
  ·rw[zO];omega
 |succ m ih=>
  intro k k2 s hs h1 h2 h3;have e1:aa (cP s (k0:Int))=((k2+m+1:Nat):Int):=by unfold aa cP;rw[zX,Int.toNat_natCast];omega
  have e2:cu .i64 (k2:Int) 1=((k2-1:Nat):Int):=by rw[qu om om];omega
  have l1:bf 0 (k2:Int)=true:=zn om;have l2:bf 0 ((k2-1:Nat):Int)=true:=zn om;have step:∃(k':Nat) (s':List Tx),ph ((k:Int),(k0:Int),(k2:Int),⟨nb,s⟩,())=some (.inl ((k':Int),(k0:Int),((k2+1:Nat):Int),⟨nb,s'⟩,()))/\s'.length=s.length/\k'+1<=k0+(k2+1):=by
   unfold ph;simp only[e1];rw[eI,if_pos om,e2,l1,l2,aG,aG,qr9,qr9,vR om,vR om];simp only[aj,EF (show k0+k2<s.length by omega),EF (show k0+(k2-1)<s.length by omega)];cases aM s[k0+k2] s[k0+(k2-1)] with
   |true=>refine⟨k,s,?_,rfl,by omega⟩;simp only[aw,Bool.not_true,aD,aj,aI (show k2<=1000000000 by omega)]
   |false=>refine⟨k+1,s.set k s[k0+k2],?_,by rw[List.length_set],by omega⟩;simp only[aw,Bool.not_false,aG,aj,vR (show k<s.length by omega),EF (show k<s.length by omega),aI (show k2<=1000000000 by omega),aI (show k<=1000000000 by omega)];rfl
  obtain⟨k',s',h4,h5,h6⟩:=step;obtain⟨c,g1,g2⟩:=ih k' (k2+1) s' om om om h6;exact⟨c,by rw[fE h4,g1],by omega⟩
theorem qmo(nb:Bool)(s:List Tx)(hs:s.length<=1000000):∀(m k:Nat),k+m=s.length->1<=k->(∀j,j+1<k->s[j+1]?≠s[j]?)->∃c,aH pj ((k:Int),⟨nb,s⟩,())=some (⟨nb,c⟩,())/\decide (c.length<s.length)=vW s:=by
 intro m
 induction m with
 |zero=>
  intro k h1 h2 h3;refine⟨s,dO ?_,?_⟩
  ·unfold pj;simp only;rw[eI,if_neg (by unfold aa;omega)]
  ·have:vW s=false:=by
    cases h:vW s with
    |false=>rfl
    |true=>obtain⟨j,g1,g2⟩:=(Zt s).1 h;exact absurd g2 (h3 j om)
   rw[this];exact zm (Nat.lt_irrefl _)
 |succ m ih=>
  intro k h1 h2 h3;have e2:cu .i64 (k:Int) 1=((k-1:Nat):Int):=by rw[qu om om];omega
  have hc:eN (aa s) (k:Int)=some k:=by unfold eN aa;rw[if_pos om,Int.toNat_natCast]
  by_cases he:s[k]=s[k-1]
  ·obtain⟨c,g1,g2⟩:=qtl k nb m k 1 s hs om (Nat.le_refl _) om;have g1:aH ph ((k:Int),(k:Int),1,⟨nb,s⟩,())=some (.inr (⟨nb,c⟩,())):=g1;refine⟨c,dO ?_,?_⟩
   ·unfold pj;simp only;rw[eI,if_pos (by unfold aa;omega),e2,vR om,vR om];simp only[aj,EF (show k<s.length by omega),EF (show k-1<s.length by omega),hc];rw[LP,if_pos he,g1]
   ·have:vW s=true:=(Zt s).2 ⟨k-1,by omega,by rw[show k-1+1=k by omega,ze om,ze om,he]⟩;rw[this];exact zn g2
  ·have step:pj ((k:Int),⟨nb,s⟩,())=some (.inl (((k+1:Nat):Int),⟨nb,s⟩,())):=by unfold pj;simp only;rw[eI,if_pos (by unfold aa;omega),e2,vR om,vR om];simp only[aj,EF (show k<s.length by omega),EF (show k-1<s.length by omega)];rw[LP,if_neg he,aI om]
   obtain⟨c,g1,g2⟩:=ih (k+1) om om (fun j hj=>by
    by_cases hf:j+1=k
    ·have:j=k-1:=om
     subst this;rw[show k-1+1=k by omega,ze om,ze om];exact fun e=>he (zG e)
    ·exact h3 j om)
   exact⟨c,by rw[fE step,g1],g2⟩
theorem qmp(nb:Bool)(s:List Tx)(hs:s.length<=1000000):∃c,tY (⟨nb,s⟩,())=some (⟨nb,c⟩,())/\decide (c.length<s.length)=vW s:=by
 rw[UO,eI];by_cases h:aa s<2
 ·rw[if_pos h];refine⟨s,rfl,?_⟩;have:vW s=false:=by
   have h:(s.length:Int)<2:=h
   match s,h with
   |[],_=>rfl
   |[a],_=>rfl
   |a::b::r,h=>simp at h;omega
  rw[this];exact zm (Nat.lt_irrefl _)
 ·rw[if_neg h];have h:¬(s.length:Int)<2:=h;exact qmo nb s hs (s.length-1) 1 om (Nat.le_refl _) (fun j hj=>by omega)
theorem qi0:∀l:List Tx,(l.Pairwise fun a b=>(!strLt b a)=true)->vW l=bN l
 |[],_=>rfl
 |[a],_=>by simp[vW,bN]
 |a::b::r,h=>by
  have ih:=qi0 (b::r) (List.pairwise_cons.1 h).2;unfold vW;rw[ih]
  conv=>rhs;unfold bN
  by_cases hc:a=b
  ·simp[hc]
  ·have hm:a∉b::r:=by
    intro hm;rcases zu.1 hm with e|e
    ·exact hc e
    ·have h1:=(List.pairwise_cons.1 h).1 b (zf ..);have h2:=(List.pairwise_cons.1 (List.pairwise_cons.1 h).2).1 a e;simp only[Bool.not_eq_true'] at h1 h2;exact hc (Tw _ _ h2 h1)
   rw[zm hc,zm hm]
theorem z1g{a b:List Tx}(h:a.Perm b):bN a=bN b:=by have:=h.nodup_iff;rw[<-Nn,<-Nn] at this;cases ha:bN a<;>cases hb:bN b<;>simp_all
theorem z7c(nb:Bool)(s:List Tx)(hs:s.length<=1000000)(hg:∀x,x∈s->wK x=true):∃c vS,ag (tX (⟨nb,s⟩,())) (fun x=>tY (x.1,()))=some (⟨vS,c⟩,())/\decide (c.length<s.length)=bN s:=by
 have e:tX (⟨nb,s⟩,())=some (⟨nb,s.mergeSort fun a b=>!strLt b a⟩,()):=by show(bif s.all wK&&decide (s.length<4611686018427387904) then _ else none)=_;rw[zJ.2 hg,zn (show s.length<4611686018427387904 by omega)];rfl
 have hc:(s.mergeSort fun a b=>!strLt b a).length=s.length:=List.length_mergeSort _;obtain⟨c,h1,h2⟩:=qmp nb (s.mergeSort fun a b=>!strLt b a) om;rw[e,aj];refine⟨c,nb,h1,?_⟩;rw[<-hc,h2,qi0,z1g (List.mergeSort_perm _ _)];refine List.pairwise_mergeSort (fun a b c h1 h2=>?_) (fun a b=>?_) _
 ·simp only[Bool.not_eq_true'] at h1 h2 ⊢;cases h3:strLt c a with
  |false=>rfl
  |true=>
   cases h4:strLt b c with
   |true=>rw[Tv _ _ _ h4 h3] at h1;cases h1
   |false=>have e:=Tw _ _ h2 h4;subst e;rw[h1] at h3;cases h3
 ·cases h3:strLt b a with
  |false=>rfl
  |true=>
   cases h4:strLt a b with
   |false=>rfl
   |true=>have:=Tv _ _ _ h3 h4;rw[qdb] at this;cases this
theorem cg.qj{l:List ND}{k:Nat}{f:F}(h:cg l k f):(l.drop k).take f.size=f.flat:=by obtain⟨post,h⟩:=h;rw[h,<-f.len,List.take_left'];rfl
theorem z1h{α:Type}(a c:List α)(h:a.length=c.length):qG a c=c:=by unfold qG;rw[h,List.take_length,<-h,List.drop_length,zC]
theorem z1i(b:Bool)(l:List ND)(hl:l.length<=10000){k:Nat}{kd:Int}{t:List Int}{n:Int}{ks r:F}(h:cg l k (.cons kd t n ks r)):tV (⟨b,l⟩,(k:Int),())=some (⟨false,(tr kd t n ks).flat⟩,0,()):=by
 obtain⟨g1,g2,g3,g4⟩:=h.node;rw[UM,Kk b l hl,h.ends];have hs:cu .i64 ((k+1+ks.size:Nat):Int) (k:Int)=((ks.size+1:Nat):Int):=by rw[qu om om];omega
 have hm:sS ((ks.size+1:Nat):Int) ((ks.size+1:Nat):Int)=some (ks.size+1):=by unfold sS;rw[if_pos om,Int.toNat_natCast]
 have hc:bX l (k:Int) ((k+1+ks.size:Nat):Int)=some ((l.take (k+1+ks.size)).drop k):=by unfold bX;rw[if_pos om,Int.toNat_natCast,Int.toNat_natCast]
 have hd:(l.take (k+1+ks.size)).drop k=(tr kd t n ks).flat:=by rw[List.drop_take,show k+1+ks.size-k=(tr kd t n ks).size by rw[EC];omega];exact h.first.qj
 simp only[aj];rw[eI,if_neg om];simp only[hs,hm,aj,hc,hd];rw[z1h];rw[(tr kd t n ks).len,EC];exact List.length_replicate
theorem GL.sub{l:List ND}(hg:GL l){k:Nat}{f:F}(h:cg l k f):GL f.flat:=by intro x hx;rw[<-h.qj] at hx;exact hg x (List.mem_of_mem_drop (List.mem_of_mem_take hx))
theorem qtm{l:List ND}(hg:GL l):∀x,x∈td l->wK x=true:=by
 intro x hx;obtain⟨d,h1,h2⟩:=jA.1 hx;by_cases h:d.1=22
 ·rw[if_pos h] at h2;injection h2 with h2;subst h2;obtain⟨g1,g2,_⟩:=hg d h1;unfold wK;rw[zd,zJ,decide_eq_true_eq];exact⟨fun b hb=>zn (g1 b hb),by omega⟩
 ·rw[if_neg h] at h2;cases h2
theorem qow(b:Bool)(l:List ND)(hl:l.length<=10000)(hg:GL l){k:Nat}{kd:Int}{t:List Int}{n:Int}{ks r:F}(h:cg l k (.cons kd t n ks r)):qW ((k:Int),⟨b,l⟩,())=some (bN (td (tr kd t n ks).flat),()):=by
 obtain⟨g1,g2,g3,g4⟩:=h.node;rw[UQ,z1i b l hl h];simp only[aj];have hc:(tr kd t n ks).flat.length<=10000:=by rw[(tr kd t n ks).len,EC];omega
 obtain⟨nb,h1⟩:=qtk false (tr kd t n ks).flat hc;have hn:=qti (tr kd t n ks).flat
 obtain⟨c,vS,h2,h3⟩:=z7c nb (td (tr kd t n ks).flat) om (qtm (hg.sub h.first));have h4:tZ (⟨false,(tr kd t n ks).flat⟩,())=some (aa (td (tr kd t n ks).flat),()):=by rw[UP,h1];rfl
 rw[h1];simp only[aj,h4];cases hs:tX (⟨nb,td (tr kd t n ks).flat⟩,()) with
 |none=>rw[hs] at h2;cases h2
 |some x=>rw[hs,aj] at h2;simp only[aj,h2];rw[<-h3];congr 2;exact decide_eq_decide.2 (by unfold aa;omega)
def By:F->List Tx
 |.nil=>[]
 |.cons kd t _ ks r=>(bif af kd 22 then [t] else By ks)++By r
def oV(kd:Int)(t:Tx)(ks:F):List Tx:=bif af kd 22 then [t] else By ks
theorem Np(kd:Int)(t:Tx)(n:Int)(ks r:F):By (.cons kd t n ks r)=oV kd t ks++By r:=id (Eq.refl _)
theorem Qu:∀f:F,(By f).length<=f.size
 |.nil=>Nat.le_refl _
 |.cons kd t n ks r=>by
  have h1:=Qu ks;have h2:=Qu r;rw[Np,zt];show _<=ks.size+r.size+1;unfold oV;cases af kd 22 with
  |true=>show 1+_<=_;omega
  |false=>show(By ks).length+_<=_;omega
theorem z1j(b:Bool)(l:List ND)(hl:l.length<=10000){k:Nat}{kd:Int}{t:List Int}{n:Int}{ks:F}(h:cg l k (tr kd t n ks)):∀N,ks.size+1<=N->aU oO N (⟨b,l⟩,(k:Int),())=some (⟨false,oV kd t ks⟩,()):=by
 refine F.iS (l:=l) (P:=fun k kd t _ ks=>∀N,ks.size+1<=N->aU oO N (⟨b,l⟩,(k:Int),())=some (⟨false,oV kd t ks⟩,())) ?_ h;clear h k kd t n ks;intro k kd t n ks hs he N hN;obtain⟨N,rfl⟩:∃m,N=m+1:=⟨N-1,by omega⟩;show oO (aU oO N) _=_;obtain⟨g1,g2,g3,g4⟩:=hs.node;rw[WD,aQ g1];simp only[aj];unfold oV;cases hm:af kd 22 with
 |true=>rfl
 |false=>
  rw[aD,cond_false,IK b l hl hs,aj];have loop:∀(g:F) (q:Nat) (pre:List Int) (out:List Tx),g.qh (fun k kd t _ ks=>∀N,ks.size+1<=N->aU oO N (⟨b,l⟩,(k:Int),())=some (⟨false,oV kd t ks⟩,())) q->
    g.size<=N->pre++g.pos q=ks.pos (k+1)->out.length+g.size<=1000000->
    aH (pA (aU oO N)) (⟨b,l⟩,⟨false,ks.pos (k+1)⟩,(pre.length:Int),⟨false,out⟩,())=some (⟨false,out++By g⟩,()):=by
   intro g
   induction g with
   |nil=>intro q pre out _ _ hp _;have hp:pre++[]=ks.pos (k+1):=hp;rw[zC] at hp;refine dO ?_;unfold pA;simp only;rw[eI,if_neg (by rw[hp];unfold aa;omega)];show _=some (Sum.inr ((⟨false,out++[]⟩:Sl Tx),()));rw[zC]
   |cons oU t' n' ks' r' _ ih=>
    intro q pre out hE hz hp ho;have hz:ks'.size+r'.size+1<=N:=hz;have ho:out.length+(ks'.size+r'.size+1)<=1000000:=ho;have hp:pre++(q:Int)::r'.pos (q+1+ks'.size)=ks.pos (k+1):=hp;have hg:(ks.pos (k+1)).length=ks.aq:=ks.dG _;have hk:=congrArg List.length hp;rw[zt,zw,hg] at hk;have hc:=ks.cq;have hj:(ks.pos (k+1))[pre.length]?=some (q:Int):=by rw[<-hp];simp
    have hv:(oV oU t' ks').length<=ks'.size+1:=by have:=Qu (tr oU t' n' ks');have e:By (tr oU t' n' ks')=oV oU t' ks'++[]:=Np ..;rw[e,zC,EC] at this;exact this
    have hf:fit (aT (aa out) (aa (oV oU t' ks')))=some ():=iA om;have step:pA (aU oO N) (⟨b,l⟩,⟨false,ks.pos (k+1)⟩,(pre.length:Int),⟨false,out⟩,())=some (.inl (⟨b,l⟩,⟨false,ks.pos (k+1)⟩,((pre.length+1:Nat):Int),⟨false,out++oV oU t' ks'⟩,())):=by unfold pA;simp only;rw[eI,if_pos (by unfold aa;rw[hg];omega),aQ hj,aj,hE.1 N om,aj];simp only[hf,aj,aI (show pre.length<=1000000000 by omega),Zm];rfl
    have hi:=ih (q+1+ks'.size) (pre++[(q:Int)]) (out++oV oU t' ks') hE.2 om (by rw[zD];exact hp) (by rw[zt];omega);rw[zt] at hi;have hi:aH (pA (aU oO N)) (⟨b,l⟩,⟨false,ks.pos (k+1)⟩,((pre.length+1:Nat):Int),⟨false,out++oV oU t' ks'⟩,())=_:=hi;rw[fE step,hi,zD];rfl
  exact loop ks (k+1) [] [] he om rfl (by show 0+ks.size<=_;omega)
theorem qxu(b:Bool)(l:List ND)(hl:l.length<=10000){k:Nat}{kd:Int}{t:List Int}{n:Int}{ks:F}(h:cg l k (tr kd t n ks)):GN (⟨b,l⟩,(k:Int),())=some (⟨false,oV kd t ks⟩,()):=tG (ks.size+1) fun N hN=>z1j b l hl h N hN
theorem z8c(nb:Bool)(v:List Tx)(hv:v.length<=1000000)(i:Nat)(hi:i<v.length):∀(m j:Nat),j+m=i->∃r,aH nQ ((i:Int),(j:Int),⟨nb,v⟩,())=some r/\((∃q,j<=q/\q<i/\v[q]?=v[i]?)/\r=.inr (true,())\/(∀q,j<=q->q<i->v[q]?≠v[i]?)/\r=.inl (((i+1:Nat):Int),⟨nb,v⟩,())):=by
 intro m
 induction m with
 |zero=>intro j hj;refine⟨_,dO ?_,.inr ⟨fun q h1 h2=>by omega,rfl⟩⟩;unfold nQ;simp only;rw[eI,if_neg om,aI om]
 |succ m ih=>
  intro j hj;have hc:nQ ((i:Int),(j:Int),⟨nb,v⟩,())=if v[i]=v[j] then some (.inr (.inr (true,()))) else some (.inl ((i:Int),((j+1:Nat):Int),⟨nb,v⟩,())):=by unfold nQ;simp only;rw[eI,if_pos om,vR hi,vR om];simp only[aj,EF hi,EF (show j<v.length by omega)];rw[LP,aI om]
  by_cases h:v[i]=v[j]
  ·rw[if_pos h] at hc;exact⟨_,dO hc,.inl ⟨⟨j,Nat.le_refl _,by omega,by rw[ze hi,ze om,h]⟩,rfl⟩⟩
  ·rw[if_neg h] at hc;obtain⟨r,h1,h2⟩:=ih (j+1) om;refine⟨r,by rw[fE hc,h1],?_⟩;rcases h2 with ⟨⟨q,e1,e2,e3⟩,e4⟩|⟨e1,e2⟩
   ·exact .inl ⟨⟨q,by omega,e2,e3⟩,e4⟩
   ·refine .inr ⟨fun q h3 h4=>?_,e2⟩;by_cases hq:q=j
    ·subst hq;rw[ze hi,ze om];exact fun e=>h (zG e).symm
    ·exact e1 q om h4
theorem z5d(nb:Bool)(v:List Tx)(hv:v.length<=1000000):∀(m i:Nat),i+m=v.length->(∀a c:Nat,a<c->c<i->v[a]?≠v[c]?)->aH sB ((i:Int),⟨nb,v⟩,())=some (bN v,()):=by
 have hf:bN v=true↔∃a c:Nat,a<c/\c<v.length/\v[a]?=v[c]?:=by
  have key:v.Nodup↔∀i j:Nat,i<j->j<v.length->v[i]?≠v[j]?:=by
   unfold List.Nodup;rw[List.pairwise_iff_getElem];constructor
   ·intro h i j hg hj e;rw[ze (show i<v.length by omega),ze hj] at e;exact h i j om hj hg (zG e)
   ·intro h i j hi hj hg e;exact h i j hg hj (by rw[ze hi,ze hj,e])
  have:=(Nn v).trans key;constructor
  ·intro h;apply zP;intro hn;have hh:bN v=false:=this.2 fun i j hg hj e=>hn ⟨i,j,hg,hj,e⟩;rw[h] at hh;cases hh
  ·rintro⟨a,c,h1,h2,h3⟩;cases hd:bN v with
   |true=>rfl
   |false=>exact absurd h3 (this.1 hd a c h1 h2)
 intro m
 induction m with
 |zero=>
  intro i hi hk;refine dO ?_;unfold sB;simp only;rw[eI,if_neg (by unfold aa;omega)];cases hd:bN v with
  |false=>rfl
  |true=>obtain⟨a,c,h1,h2,h3⟩:=hf.1 hd;exact absurd h3 (hk a c h1 om)
 |succ m ih=>
  intro i hi hk;obtain⟨r,h1,h2⟩:=z8c nb v hv i om i 0 om;have h1:aH nQ ((i:Int),0,⟨nb,v⟩,())=some r:=h1;have he:sB ((i:Int),⟨nb,v⟩,())=aH nQ ((i:Int),0,⟨nb,v⟩,()):=by unfold sB;simp only;rw[eI,if_pos (by unfold aa;omega)]
  rw[h1] at he;rcases h2 with ⟨⟨q,e1,e2,e3⟩,e4⟩|⟨e1,e2⟩
  ·subst e4;rw[dO he,hf.2 ⟨q,i,e2,by omega,e3⟩]
  ·subst e2;rw[fE he,ih (i+1) om (fun a c h3 h4=>by
    by_cases hc:c=i
    ·subst hc;exact e1 a om h3
    ·exact hk a c h3 om)]
def Ch:F->Bool
 |.nil=>false
 |.cons kd t _ ks r=>(bif jH kd then bN (oV kd t ks) else Ch ks)||Ch r
def pD(kd:Int)(t:Tx)(ks:F):Bool:=bif jH kd then bN (oV kd t ks) else Ch ks
theorem Zu(kd:Int)(t:Tx)(n:Int)(ks r:F):Ch (.cons kd t n ks r)=(pD kd t ks||Ch r):=id (Eq.refl _)
theorem qxv(b:Bool)(l:List ND)(hl:l.length<=10000){k:Nat}{kd:Int}{t:List Int}{n:Int}{ks:F}(h:cg l k (tr kd t n ks)):∀N,ks.size+1<=N->aU oP N (⟨b,l⟩,(k:Int),())=some (pD kd t ks,()):=by
 refine F.iS (l:=l) (P:=fun k kd t _ ks=>∀N,ks.size+1<=N->aU oP N (⟨b,l⟩,(k:Int),())=some (pD kd t ks,())) ?_ h;clear h k kd t n ks;intro k kd t n ks hs he N hN;obtain⟨N,rfl⟩:∃m,N=m+1:=⟨N-1,by omega⟩;show oP (aU oP N) _=_;obtain⟨g1,g2,g3,g4⟩:=hs.node;rw[WE,aQ g1];simp only[aj,qhz];unfold pD;cases jH kd with
 |true=>
  rw[aG,cond_true,qxu b l hl hs,aj];have hv:(oV kd t ks).length<=ks.size+1:=by have:=Qu (tr kd t n ks);have e:By (tr kd t n ks)=oV kd t ks++[]:=Np ..;rw[e,zC,EC] at this;exact this
  exact z5d false (oV kd t ks) om _ 0 (zN _) (fun a c h1 h2=>by omega)
 |false=>
  rw[aD,cond_false,IK b l hl hs,aj];have loop:∀(g:F) (q:Nat) (pre:List Int),g.qh (fun k kd t _ ks=>∀N,ks.size+1<=N->aU oP N (⟨b,l⟩,(k:Int),())=some (pD kd t ks,())) q->
    g.size<=N->pre++g.pos q=ks.pos (k+1)->
    aH (pB (aU oP N)) (⟨b,l⟩,⟨false,ks.pos (k+1)⟩,(pre.length:Int),())=some (Ch g,()):=by
   intro g
   induction g with
   |nil=>intro q pre _ _ hp;have hp:pre++[]=ks.pos (k+1):=hp;rw[zC] at hp;refine dO ?_;unfold pB;simp only;rw[eI,if_neg (by rw[hp];unfold aa;omega)];rfl
   |cons oU t' n' ks' r' _ ih=>
    intro q pre hE hz hp;have hz:ks'.size+r'.size+1<=N:=hz;have hp:pre++(q:Int)::r'.pos (q+1+ks'.size)=ks.pos (k+1):=hp;have hf:(ks.pos (k+1)).length=ks.aq:=ks.dG _;have hj:=congrArg List.length hp;rw[zt,zw,hf] at hj;have hc:=ks.cq;have hg:(ks.pos (k+1))[pre.length]?=some (q:Int):=by rw[<-hp];simp
    have step:pB (aU oP N) (⟨b,l⟩,⟨false,ks.pos (k+1)⟩,(pre.length:Int),())=
      ak (pD oU t' ks') (some (.inr (true,()))) (some (.inl (⟨b,l⟩,⟨false,ks.pos (k+1)⟩,((pre.length+1:Nat):Int),()))):=by
     unfold pB;simp only;rw[eI,if_pos (by unfold aa;rw[hf];omega),aQ hg,aj,hE.1 N om,aj,aI om]
    rw[Zu];cases ht:pD oU t' ks' with
    |true=>rw[ht,aG] at step;rw[dO step];rfl
    |false=>rw[ht,aD] at step;have hi:=ih (q+1+ks'.size) (pre++[(q:Int)]) hE.2 om (by rw[zD];exact hp);rw[zt] at hi;have hi:aH (pB (aU oP N)) (⟨b,l⟩,⟨false,ks.pos (k+1)⟩,((pre.length+1:Nat):Int),())=_:=hi;rw[fE step,hi];rfl
  exact loop ks (k+1) [] he om rfl
theorem qtn(b:Bool)(l:List ND)(hl:l.length<=10000){k:Nat}{kd:Int}{t:List Int}{n:Int}{ks:F}(h:cg l k (tr kd t n ks)):Mg (⟨b,l⟩,(k:Int),())=some (pD kd t ks,()):=tG (ks.size+1) fun N hN=>qxv b l hl h N hN
theorem Zv{a b:Int}:(bif aw (af a 0) then a else b)=0↔a=0/\b=0:=by
 cases h:af a 0 with
 |true=>have:=aV.1 h;rw[nT,cond_false];exact⟨fun e=>⟨this,e⟩,fun e=>e.2⟩
 |false=>
  have hn:a≠0:=fun e=>by rw[e] at h;cases h
  rw[nF,cond_true];exact⟨fun e=>absurd e hn,fun e=>absurd e.1 hn⟩
theorem fF{kd:Int}{t:Tx}{n:Int}{ks:F}{pat:Bool}:dU kd t n ks pat=0↔fc kd t n (ks.aq:Int) ks.head pat=0/\fM (af kd 10) pat false ks=0:=Zv
theorem fG{m pat odd:Bool}{kd:Int}{t:Tx}{n:Int}{ks r:F}:fM m pat odd (.cons kd t n ks r)=0↔dU kd t n ks (pat||(m&&odd))=0/\fM m pat (!odd) r=0:=by rw[Zs];exact Zv
def Qv(k n:Int):Bool:=bif af k 1||af k 23 then s7 n else af n 0
def Zw(k:Int)(t:Tx):Bool:=(bif af (fZ k) 0 then aM t [] else bif af (fZ k) 3 then aw (aA 200 (aa t)) else true)&&aw (af (fZ k) 1&&aw (bK t))&&aw (af (fZ k) 2&&aw (eJ t))
def Zx(k hk:Int):Bool:=aw (af k 8&&aw (af hk 5))
theorem qto(k:Int)(t:Tx)(hk:Int):oe k t hk=0↔Zw k t=true/\Zx k hk=true:=by unfold oe oT Zw Zx;generalize (af k 8&&aw (af hk 5))=T;generalize af (fZ k) 0=s0;generalize af (fZ k) 1=s1;generalize af (fZ k) 2=s2;generalize af (fZ k) 3=s3;generalize aM t []=a;generalize aA 200 (aa t)=c;generalize bK t=d;generalize eJ t=e;revert T s0 s1 s2 s3 a c d e;decide
theorem eF{k:Int}{t:Tx}{n c hk:Int}{pat:Bool}:fc k t n c hk pat=0↔aA (fZ k) 0=false/\jH k=pat/\l4 k c=true/\Qv k n=true/\Zw k t=true/\Zx k hk=true:=by
 rw[<-qto];have e:fc k t n c hk pat=bif aA (fZ k) 0 then 61 else bif aw (fu (jH k) pat) then 61 else bif aw (l4 k c) then 61 else bif Qv k n then oe k t hk else 61:=by unfold fc Qv;cases (af k 1||af k 23)<;>rfl
 rw[e];cases aA (fZ k) 0 with
 |true=>simp
 |false=>
  have hp:fu (jH k) pat=true↔jH k=pat:=by cases jH k<;>cases pat<;>decide
  cases h1:fu (jH k) pat with
  |false=>
   have:jH k≠pat:=fun e=>by rw[hp.2 e] at h1;cases h1
   simp[nF,this]
  |true=>
   rw[nT,cond_false,cond_false];have:=hp.1 h1;cases l4 k c with
   |false=>simp[nF]
   |true=>
    rw[nT,cond_false];cases Qv k n with
    |false=>simp
    |true=>simp[this]
theorem qxx{k c:Int}(h:l4 k c=true):(k=5\/k=11->c=1)/\(k=6\/k=7\/k=8\/k=12->c=2)/\(k=9->c=3)/\(k=10->3<=c/\c % 2=1)/\(k=1\/k=2\/k=3\/k=4\/k=21\/k=22\/k=23->c=0):=by
 refine⟨?_,?_,?_,?_,?_⟩
 ·rintro(rfl|rfl)<;>exact aV.1 h
 ·rintro(rfl|rfl|rfl|rfl)<;>exact aV.1 h
 ·rintro rfl;exact aV.1 h
 ·rintro rfl;have h:(bf 3 c&&af (c % 2) 1)=true:=h;rw[zd,aV] at h;exact⟨zM h.1,h.2⟩
 ·rintro(rfl|rfl|rfl|rfl|rfl|rfl|rfl)<;>exact aV.1 h
theorem Ko{f:F}(h:(f.aq:Int)=0):f=.nil:=by
 cases f with
 |nil=>rfl
 |cons _ _ _ _ r=>have h:((r.aq+1:Nat):Int)=0:=h;omega
theorem Zy:∀(f:F) (m pat odd:Bool),fM m pat odd f=0->td f.flat=By f
 |.nil,_,_,_,_=>rfl
 |.cons kd t n ks r,m,pat,odd,h=>by
  obtain⟨h1,h2⟩:=fG.1 h;obtain⟨h3,h4⟩:=fF.1 h1;have i1:=Zy ks _ _ _ h4;have i2:=Zy r _ _ _ h2;show td ((kd,t,n,(ks.aq:Int))::(ks.flat++r.flat))=_;rw[qfq,qth,i1,i2,Np];unfold oV;by_cases hc:kd=22
  ·subst hc;have:=(qxx (eF.1 h3).2.2.1).2.2.2.2 om;rw[Ko this,if_pos rfl];rfl
  ·rw[if_neg hc,jW hc];rfl
theorem qmq{kd:Int}{t:Tx}{n:Int}{ks:F}{pat:Bool}(h:dU kd t n ks pat=0):td (tr kd t n ks).flat=oV kd t ks:=by have h':fM false pat false (tr kd t n ks)=0:=fG.2 ⟨by rw[Bool.false_and,Bool.or_false];exact h,rfl⟩;rw[Zy _ _ _ _ h',Np];exact zC _
theorem z1l(b:Bool)(l:List ND)(hl:l.length<=10000)(hg:GL l):∀(f:F) (q:Nat) (m pat odd:Bool),cg l q f->q<=l.length->fM m pat odd f=0->aH kJ ((q:Int),⟨b,l⟩,())=bif Ch f then some (63,()) else aH kJ (((q+f.size:Nat):Int),⟨b,l⟩,()):=by
 intro f
 induction f with
 |nil=>intro q m pat odd _ _ _;rfl
 |cons kd t n ks r ow ox=>
  intro q m pat odd hs hq he;obtain⟨g1,g2,g3,g4⟩:=hs.node;obtain⟨h1,h2⟩:=fG.1 he;obtain⟨h3,h4⟩:=fF.1 h1;rw[Zu];have esz:q+(F.cons kd t n ks r).size=q+1+ks.size+r.size:=by show q+(ks.size+r.size+1)=_;omega
  rw[esz];have rest:=ox (q+1+ks.size) m pat (!odd) g3 om h2;cases hp:jH kd with
  |true=>
   have hT:pD kd t ks=bN (oV kd t ks):=by unfold pD;rw[hp];rfl
   have hc:=qow b l hl hg hs;rw[qmq h1,<-hT] at hc;have step:kJ ((q:Int),⟨b,l⟩,())=bif pD kd t ks then some (.inr (63,())) else some (.inl (((q+1+ks.size:Nat):Int),⟨b,l⟩,())):=by
    unfold kJ;simp only;rw[eI,if_pos (by unfold aa;omega),aQ g1];simp only[aj,qC,hp,nT,aD,hc];cases pD kd t ks with
    |true=>rfl
    |false=>
     rw[aD,Kk b l hl,hs.ends];simp only[aj];have e1:cu .i64 ((q+1+ks.size:Nat):Int) 1=((q+ks.size:Nat):Int):=by rw[qu om om];omega
     rw[e1];show some (Sum.inl (au .i64 ((q+ks.size:Nat):Int) 1,_,()))=_;rw[aI om,show q+ks.size+1=q+1+ks.size by omega];rfl
   cases ht:pD kd t ks with
   |true=>rw[ht,cond_true] at step;rw[dO step];rfl
   |false=>rw[ht,cond_false] at step;rw[fE step,rest];rfl
  |false=>
   have hT:pD kd t ks=Ch ks:=by unfold pD;rw[hp];rfl
   have step:kJ ((q:Int),⟨b,l⟩,())=some (.inl (((q+1:Nat):Int),⟨b,l⟩,())):=by unfold kJ;simp only;rw[eI,if_pos (by unfold aa;omega),aQ g1];simp only[aj,qC,hp,nF,aG];show some (Sum.inl (au .i64 (q:Int) 1,_,()))=_;rw[aI om]
   rw[fE step,ow (q+1) _ _ _ g2 om h4,hT];cases Ch ks with
   |true=>rfl
   |false=>rw[cond_false,rest];rfl
def jZ(kd:Int)(t:Tx)(n:Int)(ks:F)(pat:Bool):Int:=bif aA 100 ((ks.dep+1:Nat):Int) then 60 else bif aw (af (dU kd t n ks pat) 0) then dU kd t n ks pat else bif pD kd t ks then 63 else 0
theorem qtp(b:Bool)(kd:Int)(t:Tx)(n:Int)(ks:F)(pat:Bool)(hl:ks.size+1<=4000)(hg:GL (tr kd t n ks).flat):ua (⟨b,(tr kd t n ks).flat⟩,pat,())=some (jZ kd t n ks pat,()):=by
 have hc:(tr kd t n ks).flat.length=ks.size+1:=(tr kd t n ks).len;have hs:=Cf kd t n ks;rw[Mp,Kl b _ om,(ED _).2 ⟨kd,t,n,ks,rfl⟩,qxo b kd t n ks om];have hw:=qxt b b _ om hg pat hs;have h0:((0:Nat):Int)=0:=rfl;rw[h0] at hw;have c0:aA 4000 (aa (tr kd t n ks).flat)=false:=zm (by unfold aa;omega);simp only[c0,aD,aj,nT,hw];unfold jZ;cases aA 100 ((ks.dep+1:Nat):Int) with
 |true=>rfl
 |false=>
  rw[aD,cond_false];unfold Cg;cases hv:af (dU kd t n ks pat) 0 with
  |false=>rw[cond_false,nF];show ak (aw (af (dU kd t n ks pat) 0)) _ _=_;rw[hv];rfl
  |true=>
   rw[cond_true,nT,cond_false];show aH kJ (0,_,())=_;have hz:=aV.1 hv;have:=z1l b (tr kd t n ks).flat om hg (tr kd t n ks) 0 false pat false hs om (fG.2 ⟨by rw[Bool.false_and,Bool.or_false];exact hz,rfl⟩);rw[h0,Zu] at this;rw[this];have hf:Ch .nil=false:=rfl;rw[hf,Bool.or_false];cases pD kd t ks with
   |true=>rfl
   |false=>rw[cond_false,cond_false];refine dO ?_;unfold kJ;simp only;rw[eI,if_neg (by unfold aa;rw[hc,EC];omega)]
theorem qox(b:Bool)(kd:Int)(t:Tx)(n:Int)(ks:F)(pat:Bool)(hl:ks.size+1<=4000)(hg:GL (tr kd t n ks).flat):xf (⟨b,(tr kd t n ks).flat⟩,pat,())=some (jZ kd t n ks pat,()):=by
 have hc:(tr kd t n ks).flat.length=ks.size+1:=(tr kd t n ks).len;have hs:=Cf kd t n ks;have hd:=qtc b _ om hs;have hw:=qtg b _ om hg pat hs;have ht:=qtn b _ om hs;have h0:((0:Nat):Int)=0:=rfl;rw[h0] at hw hd ht;rw[MA,Zl b _ om,(ED _).2 ⟨kd,t,n,ks,rfl⟩];have c0:aA 4000 (aa (tr kd t n ks).flat)=false:=zm (by unfold aa;omega);simp only[c0,aD,aj,nT,hw,hd,ht];unfold jZ;cases aA 100 ((ks.dep+1:Nat):Int) with
 |true=>rfl
 |false=>
  rw[aD,cond_false];cases aw (af (dU kd t n ks pat) 0) with
  |true=>rfl
  |false=>cases pD kd t ks<;>rfl
theorem qtq(b:Bool)(l:List ND)(hl:l.length<=4000)(pat:Bool)(h:s6 l=false):ua (⟨b,l⟩,pat,())=some (60,()):=by rw[Mp,Kl b _ om,h];have c0:aA 4000 (aa l)=false:=zm (by unfold aa;omega);simp only[c0,aD,aj,nF,aG]
theorem qoy(b:Bool)(l:List ND)(hl:l.length<=4000)(pat:Bool)(h:s6 l=false):xf (⟨b,l⟩,pat,())=some (60,()):=by rw[MA,Zl b _ om,h];have c0:aA 4000 (aa l)=false:=zm (by unfold aa;omega);simp only[c0,aD,aj,nF,aG]
theorem z5f(l:List ND):s6 l=false\/∃kd t n ks,l=(tr kd t n ks).flat:=by
 cases h:s6 l with
 |false=>exact .inl rfl
 |true=>exact .inr ((ED l).1 h)
theorem Zz(b:Bool)(kd:Int)(t:Tx)(n:Int)(ks:F)(hl:ks.size+1<=4000)(hg:GL (tr kd t n ks).flat):nE (⟨b,(tr kd t n ks).flat⟩,())=some (jZ kd t n ks true,()):=by rw[Mq,qtp b kd t n ks true hl hg];rfl
theorem z1m(b:Bool)(l:List ND)(hl:l.length<=4000)(h:s6 l=false):nE (⟨b,l⟩,())=some (60,()):=by rw[Mq,qtq b l hl true h];rfl
theorem qk{kd:Int}{t:Tx}{n:Int}{ks:F}{pat:Bool}:jZ kd t n ks pat=0↔ks.dep+1<=100/\dU kd t n ks pat=0/\pD kd t ks=false:=by
 unfold jZ;cases h:aA 100 ((ks.dep+1:Nat):Int) with
 |true=>
  have:=zM h;rw[cond_true];constructor
  ·intro e;cases e
  ·rintro⟨e,_⟩;omega
 |false=>
  have:=of_decide_eq_false h;rw[cond_false,Zv];constructor
  ·rintro⟨e1,e2⟩;refine⟨by omega,e1,?_⟩;cases ht:pD kd t ks with
   |false=>rfl
   |true=>rw[ht] at e2;cases e2
  ·rintro⟨_,e1,e2⟩;refine⟨e1,?_⟩;rw[e2];rfl
theorem cJ{α:Type}{l:List α}{k:Nat}{x:α}(h:l[k]?=some x):aA (k:Int) (aa l)=true:=by have:=(zB.1 h).1;exact zn (by unfold aa;omega)
theorem dB{α:Type}(l:List α):aA ((l.length:Nat):Int) (aa l)=false:=zm (by unfold aa;omega)
theorem EG{α β:Type}{x:Option α}{a:α}(h:x=some a)(f:α->Option β):ag x f=f a:=by rw[h,aj]
theorem fh{α:Type}{l:List α}{k:Nat}{x:α}(h:l[k]?=some x):k<l.length:=(zB.1 h).1
def scan{α ρ:Type}(stop:Nat->α->Option ρ)(R:ρ):Nat->List α->ρ
 |_,[]=>R
 |k,x::r=>match stop k x with
  |some y=>y
  |none=>scan stop R (k+1) r
theorem kN{σ ρ α:Type}(f:σ->Option (σ⊕ρ))(S:Int->σ)(l:List α)(hl:l.length<=1000000)(stop:Nat->α->Option ρ)(R:ρ)(he:∀(k:Nat) x,l[k]?=some x->k<=1000000->f (S k)=some (match stop k x with|some y=>.inr y|none=>.inl (S ((k+1:Nat):Int))))(hf:f (S ((l.length:Nat):Int))=some (.inr R)):aH f (S 0)=some (scan stop R 0 l):=by
 have aux:∀(r:List α) (k:Nat),l.drop k=r->k<=l.length->aH f (S k)=some (scan stop R k r):=by
  intro r
  induction r with
  |nil=>
   intro k h hk;have:l.length<=k:=List.drop_eq_nil_iff.1 h;obtain rfl:k=l.length:=om
   exact dO hf
  |cons x r ih=>
   intro k h hk;have hg:k<l.length:=by
    rcases Nat.lt_or_ge k l.length with h2|h2
    ·exact h2
    ·rw[zR h2] at h;cases h
   rw[sJ hg] at h;injection h with h1 h2;have hx:l[k]?=some x:=by rw[ze hg,h1]
   have hs:=he k x hx om;unfold scan;cases hc:stop k x with
   |some y=>rw[hc] at hs;exact dO hs
   |none=>rw[hc] at hs;rw[fE hs];exact ih (k+1) h2 om
 exact aux l 0 rfl (Nat.zero_le _)
def fe{α:Type}(p:α->Bool):Nat->List α->Int
 |_,[]=>-1
 |k,x::r=>bif p x then(k:Int) else fe p (k+1) r
theorem z5g{τ α:Type}{O:Int->τ}{p:α->Bool}(r:List α)(k:Nat):scan (fun k x=>bif p x then some (O k) else none) (O (-1)) k r=O (fe p k r):=by
 induction r generalizing k with
 |nil=>rfl
 |cons x r ih=>
  unfold scan fe;cases p x with
  |true=>rfl
  |false=>exact ih (k+1)
theorem pE{σ τ α:Type}(f:σ->Option (σ⊕τ))(S:Int->σ)(O:Int->τ)(l:List α)(hl:l.length<=1000000)(p:α->Bool)(hc:∀(k:Nat) x,l[k]?=some x->k<=1000000->f (S k)=some (bif p x then .inr (O k) else .inl (S ((k+1:Nat):Int))))(he:f (S ((l.length:Nat):Int))=some (.inr (O (-1)))):aH f (S 0)=some (O (fe p 0 l)):=by have h:=kN f S l hl (fun k x=>bif p x then some (O k) else none) (O (-1)) (fun k x hx hk=>by rw[hc k x hx hk];cases p x<;>rfl) he;rw[h,z5g]
theorem xo{α:Type}(p:α->Bool)(l:List α)(k:Nat):bf 0 (fe p k l)=l.any p:=by
 induction l generalizing k with
 |nil=>rfl
 |cons x r ih=>
  unfold fe;rw[List.any_cons];cases p x with
  |true=>exact zn (by show(0:Int)<=(k:Int);omega)
  |false=>exact ih (k+1)
theorem z3c{α:Type}(p:α->Bool)(l:List α)(k:Nat):aA (fe p k l) 0=!l.any p:=by
 rw[<-xo p l k];generalize fe p k l=z;unfold aA bf;by_cases h:z<0
 ·rw[zn h,zm om];rfl
 ·rw[zm h,zn om];rfl
theorem Kq{α:Type}(p:α->Bool):∀(l:List α) (k:Nat),l.any p=true->∃(i:Nat) (x:α),fe p k l=((k+i:Nat):Int)/\l[i]?=some x/\p x=true/\l.find? p=some x
 |[],_,h=>by cases h
 |x::r,k,h=>by
  unfold fe;rw[List.any_cons] at h;cases hp:p x with
  |true=>exact⟨0,x,rfl,rfl,hp,by rw[List.find?_cons_of_pos hp]⟩
  |false=>rw[hp] at h;obtain⟨i,y,h1,h2,h3,h4⟩:=Kq p r (k+1) h;refine⟨i+1,y,?_,h2,h3,by rw[jB (by rw[hp];exact Bool.false_ne_true)];exact h4⟩;show fe p (k+1) r=_;rw[h1];congr 1;omega
theorem qra{α:Type}(p:α->Bool)(l:List α)(k:Nat)(h:l.any p=false):fe p k l=-1:=by
 induction l generalizing k with
 |nil=>rfl
 |cons x r ih=>unfold fe;rw[List.any_cons,Bool.or_eq_false_iff] at h;rw[h.1];exact ih (k+1) h.2
def Nq{α β ρ:Type}(g:Nat->β->α->β⊕ρ)(fin:β->ρ):Nat->β->List α->ρ
 |_,a,[]=>fin a
 |k,a,x::r=>match g k a x with
  |.inl a'=>Nq g fin (k+1) a' r
  |.inr y=>y
theorem qtr{σ ρ α β:Type}(f:σ->Option (σ⊕ρ))(S:Int->β->σ)(l:List α)(g:Nat->β->α->β⊕ρ)(fin:β->ρ)(I:Nat->β->Prop)(a0:β)(h0:I 0 a0)(he:∀(k:Nat) x a,l[k]?=some x->I k a->f (S k a)=some (match g k a x with|.inl a'=>.inl (S ((k+1:Nat):Int) a')|.inr y=>.inr y)/\∀a',g k a x=.inl a'->I (k+1) a')(hf:∀a,I l.length a->f (S ((l.length:Nat):Int) a)=some (.inr (fin a))):aH f (S 0 a0)=some (Nq g fin 0 a0 l):=by
 have aux:∀(r:List α) (k:Nat) (a:β),l.drop k=r->k<=l.length->I k a->aH f (S k a)=some (Nq g fin k a r):=by
  intro r
  induction r with
  |nil=>
   intro k a h hk hi;have:l.length<=k:=List.drop_eq_nil_iff.1 h;obtain rfl:k=l.length:=om
   exact dO (hf a hi)
  |cons x r ih=>
   intro k a h hk hi;have hg:k<l.length:=by
    rcases Nat.lt_or_ge k l.length with h2|h2
    ·exact h2
    ·rw[zR h2] at h;cases h
   rw[sJ hg] at h;injection h with h1 h2;have hx:l[k]?=some x:=by rw[ze hg,h1]
   obtain⟨hs,hj⟩:=he k x a hx hi;unfold Nq;cases hc:g k a x with
   |inr y=>rw[hc] at hs;exact dO hs
   |inl a'=>rw[hc] at hs;rw[fE hs];exact ih (k+1) a' h2 om (hj a' hc)
 exact aux l 0 a0 rfl (Nat.zero_le _) h0
theorem qxz{α β ρ:Type}(g:β->α->β)(fin:β->ρ)(l:List α)(k:Nat)(a:β):Nq (fun _ a x=>.inl (g a x)) fin k a l=fin (l.foldl g a):=by
 induction l generalizing k a with
 |nil=>rfl
 |cons x r ih=>exact ih (k+1) (g a x)
theorem tf{σ ρ α β:Type}(f:σ->Option (σ⊕ρ))(S:Int->β->σ)(l:List α)(g:β->α->β)(fin:β->ρ)(I:Nat->β->Prop)(a0:β)(h0:I 0 a0)(hc:∀(k:Nat) x a,l[k]?=some x->I k a->f (S k a)=some (.inl (S ((k+1:Nat):Int) (g a x)))/\I (k+1) (g a x))(he:∀a,I l.length a->f (S ((l.length:Nat):Int) a)=some (.inr (fin a))):aH f (S 0 a0)=some (fin (l.foldl g a0)):=by rw[qtr f S l (fun _ a x=>.inl (g a x)) fin I a0 h0 (fun k x a hx hi=>⟨(hc k x a hx hi).1,fun a' e=>by injection e with e;rw[<-e];exact(hc k x a hx hi).2⟩) he,qxz]
theorem bU{a b:List Int}:aM a b=true↔a=b:=by simp[aM]
def fW(x:ND):Bool:=bif af x.1 31 then af x.2.2.2 0&&(aM x.2.1 []&&(bf 0 x.2.2.1&&bf x.2.2.1 1048576)) else
 af x.1 32&&(af x.2.2.1 0&&(bif aM x.2.1 [45,62] then af x.2.2.2 2 else bif aM x.2.1 [105,110,116]||aM x.2.1 [116,101,120,116] then af x.2.2.2 0 else bif aM x.2.1 [114,101,102] then af x.2.2.2 1 else eJ x.2.1&&bf x.2.2.2 8))
theorem qoz(x:ND)(hx:IL x):ud (x,())=some (fW x,()):=by
 obtain⟨a,t,n,c⟩:=x;have hl:=Zh t hx.1;rw[UU];unfold fW;simp only;cases h1:af a 31 with
 |true=>cases af c 0<;>cases aM t []<;>cases bf 0 n<;>cases bf n 1048576<;>rfl
 |false=>
  cases h2:af a 32 with
  |false=>rfl
  |true=>
   cases h3:af n 0 with
   |false=>rfl
   |true=>
    cases h4:aM t [45,62] with
    |true=>rfl
    |false=>
     cases h5:aM t [105,110,116] with
     |true=>rfl
     |false=>
      cases h6:aM t [116,101,120,116] with
      |true=>rfl
      |false=>
       cases h7:aM t [114,101,102] with
       |true=>simp only[nT,aD,aG,aj,h7];rfl
       |false=>simp only[nT,aD,aj,cond_false,hl,Bool.true_and,Bool.false_or,h7];unfold eJ;cases qB lZ t<;>rfl
def jN(l:List ND):Bool:=decide (l.length<=4000)&&(s6 l&&l.all fW)
theorem ZA(b:Bool)(l:List ND)(hl:l.length<=1000000)(hg:GL l):uf (⟨b,l⟩,())=some (!l.all fW,()):=by
 have e:aH rE (⟨b,l⟩,aa l,0,())=some (fe (fun x=>!fW x) 0 l,()):=by
  refine pE rE (fun k=>(⟨b,l⟩,aa l,k,())) (fun z=>(z,())) l hl (fun x=>!fW x) ?_ ?_
  ·intro k x hx hk;obtain⟨a,t,n,c⟩:=x;unfold rE;simp only[cJ hx,aG,aQ hx,aj,UW,qoz _ (hg.at hx),aI (show k<=1000000000 by omega),aw];cases fW (a,t,n,c)<;>rfl
  ·unfold rE;simp only[dB,aD]
 rw[UY,UX];refine(EG e _).trans ?_;rw[xo,List.not_all_eq_any_not]
theorem qy0(l:List ND):aA 4000 (aa l)=!decide (l.length<=4000):=by
 unfold aA aa;by_cases e:l.length<=4000
 ·rw[zn e,zm om];rfl
 ·rw[zm e,zn om];rfl
theorem Nr(b:Bool)(l:List ND)(hl:l.length<=10000)(hg:GL l):mO (⟨b,l⟩,())=some (bif jN l then 0 else 90,()):=by rw[UZ,ZA b l om hg,Kl b l hl];simp only[qy0];unfold jN;cases decide (l.length<=4000)<;>cases s6 l<;>cases l.all fW<;>rfl
theorem qy1:eJ [45,62]=false:=by kernel_rfl
theorem z5h:eJ [105,110,116]=false:=by kernel_rfl
theorem z1n:eJ [116,101,120,116]=false:=by kernel_rfl
theorem z5i:eJ [114,101,102]=false:=by kernel_rfl
theorem qfs(b:Bool)(l:List ND)(hl:l.length<=10000)(hg:GL l):Bg (⟨b,l⟩,())=some (jN l,()):=by
 have loop:aH sd (⟨b,l⟩,0,())=some (l.all fW,()):=by
  refine Eq.trans (pE sd (fun k=>(⟨b,l⟩,k,())) (fun z=>(aA z 0,())) l om (fun x=>!fW x) ?_ ?_) ?_
  ·intro k x hx hk;obtain⟨a,t,n,c⟩:=x;have hr:=Zi t (show t.length<=1000000 from(hg.at hx).2.1);have he:aA (k:Int) 0=false:=zm om;unfold sd fW;simp only[cJ hx,aG,aQ hx,aj,hr,he];have hc:=aI (show k<=1000000000 by omega);have lt1:aA n 0=!bf 0 n:=by unfold aA bf;by_cases h:n<0<;>simp[h]<;>omega
   have lt2:aA 1048576 n=!bf n 1048576:=by unfold aA bf;by_cases h:n<=1048576<;>simp[h]<;>omega
   rw[lt1,lt2];cases h1:af a 31 with
   |true=>cases af c 0<;>cases aM t []<;>cases bf 0 n<;>cases bf n 1048576<;>first|rfl|exact congrArg (fun z:Int=>some (Sum.inl ((⟨b,l⟩:Sl ND),z,()))) hc
   |false=>
    cases h4:aM t [45,62] with
    |true=>rw[bU.1 h4,show qB lZ [45,62]=false from qy1];cases af a 32<;>cases af n 0<;>cases af c 2<;>first|rfl|exact congrArg (fun z:Int=>some (Sum.inl ((⟨b,l⟩:Sl ND),z,()))) hc
    |false=>
     cases h5:aM t [105,110,116] with
     |true=>rw[bU.1 h5,show qB lZ [105,110,116]=false from z5h];cases af a 32<;>cases af n 0<;>cases af c 0<;>first|rfl|exact congrArg (fun z:Int=>some (Sum.inl ((⟨b,l⟩:Sl ND),z,()))) hc
     |false=>
      cases h6:aM t [116,101,120,116] with
      |true=>rw[bU.1 h6,show qB lZ [116,101,120,116]=false from z1n];cases af a 32<;>cases af n 0<;>cases af c 0<;>first|rfl|exact congrArg (fun z:Int=>some (Sum.inl ((⟨b,l⟩:Sl ND),z,()))) hc
      |false=>
       cases h7:aM t [114,101,102] with
       |true=>rw[bU.1 h7,show qB lZ [114,101,102]=false from z5i];cases af a 32<;>cases af n 0<;>cases af c 1<;>first|rfl|exact congrArg (fun z:Int=>some (Sum.inl ((⟨b,l⟩:Sl ND),z,()))) hc
       |false=>unfold eJ;cases af a 32<;>cases af n 0<;>cases qB lZ t<;>cases bf c 8<;>first|rfl|exact congrArg (fun z:Int=>some (Sum.inl ((⟨b,l⟩:Sl ND),z,()))) hc
  ·unfold sd;simp only[dB,aD];rfl
  ·rw[z3c,<-List.not_all_eq_any_not,Bool.not_not]
 rw[Wn,loop,Zl b l hl];simp only[qy0];unfold jN;cases decide (l.length<=4000)<;>cases s6 l<;>cases l.all fW<;>rfl
theorem z3d(v:Int)(l:List Int):l.any (fun x=>af v x)=decide (v∈l):=by
 induction l with
 |nil=>rfl
 |cons a r ih=>
  rw[List.any_cons,ih];by_cases h:v=a
  ·subst h;rw[xL];exact(zn (zf ..)).symm
  ·rw[jW h,Bool.false_or];exact decide_eq_decide.2 ⟨fun e=>zg _ e,fun e=>(zu.1 e).resolve_left h⟩
theorem qjt(b:Bool)(l:List Int)(v:Int)(hl:l.length<=1000000):qX (⟨b,l⟩,v,())=some (decide (v∈l),()):=by
 have e:aH rG (⟨b,l⟩,v,aa l,0,())=some (fe (fun x=>af v x) 0 l,()):=by
  refine pE rG (fun k=>(⟨b,l⟩,v,aa l,k,())) (fun z=>(z,())) l hl (fun x=>af v x) ?_ ?_
  ·intro k x hx hk;unfold rG;simp only[cJ hx,aG,aQ hx,aj,aI (show k<=1000000000 by omega)];cases af v x<;>rfl
  ·unfold rG;simp only[dB,aD]
 rw[U4,U3];refine(EG e _).trans ?_;rw[xo,z3d]
theorem qts(b:Bool)(l:List Int)(v:Int)(hl:l.length<=1000000):∃z,D1 (⟨b,l⟩,v,())=some (z,())/\aA z 0=!decide (v∈l):=by
 refine⟨fe (fun x=>af x v) 0 l,?_,?_⟩
 ·rw[Wp];refine pE vI (fun k=>(⟨b,l⟩,v,k,())) (fun z=>(z,())) l hl (fun x=>af x v) ?_ ?_
  ·intro k x hx hk;unfold vI;simp only[cJ hx,aG,aQ hx,aj,aI (show k<=1000000000 by omega)];cases af x v<;>rfl
  ·unfold vI;simp only[dB,aD]
 ·rw[z3c,<-z3d];congr 2;funext x;by_cases h:v=x
  ·subst h;rfl
  ·rw[jW h,jW fun e=>h e.symm]
def sM(a:List Int)(x:ND):List Int:=bif af x.1 31&&!decide (x.2.2.1∈a) then a++[x.2.2.1] else a
theorem z1o(a:List Int)(x:ND):(sM a x).length<=a.length+1:=by
 unfold sM;cases (af x.1 31&&!decide (x.2.2.1∈a)) with
 |true=>rw[cond_true,zt];exact Nat.le_refl _
 |false=>exact Nat.le_succ _
theorem qrb(p:Int->Bool)(l:List ND):∀a:List Int,(l.foldl sM a).any p=(a.any p||l.any fun x=>af x.1 31&&p x.2.2.1):=by
 induction l with
 |nil=>intro a;simp
 |cons x r ih=>
  intro a;rw[List.foldl_cons,ih,List.any_cons,<-Bool.or_assoc];congr 1;unfold sM;cases af x.1 31 with
  |false=>simp
  |true=>
   by_cases h:x.2.2.1∈a
   ·rw[zn h];simp only[Bool.not_true,Bool.and_false,cond_false,Bool.true_and];cases hp:p x.2.2.1 with
    |false=>simp
    |true=>rw[Bool.or_true];exact jx.2 ⟨_,h,hp⟩
   ·rw[zm h];simp
def iT(a:Sl Int)(x:ND):Sl Int:=bif af x.1 31&&!decide (x.2.2.1∈a.l) then⟨false,a.l++[x.2.2.1]⟩ else a
theorem ZB(l:List ND):∀a:Sl Int,(l.foldl iT a).l=l.foldl sM a.l:=by
 induction l with
 |nil=>intro a;rfl
 |cons x r ih=>intro a;rw[List.foldl_cons,List.foldl_cons,ih];congr 1;unfold iT sM;cases (af x.1 31&&!decide (x.2.2.1∈a.l))<;>rfl
theorem ZC(a:Sl Int)(x:ND):(iT a x).l.length<=a.l.length+1:=by have:=ZB [x] a;rw[List.foldl_cons,List.foldl_nil,List.foldl_cons,List.foldl_nil] at this;rw[this];exact z1o _ _
theorem qtt(b:Bool)(l:List ND)(hl:l.length<=10000)(hg:GL l)(ht:jN l=true):wU (⟨b,l⟩,())=some (l.foldl iT ⟨true,[]⟩,()):=by
 rw[U5,Nr b l hl hg,ht,aj];show aH rH (⟨b,l⟩,aa l,0,⟨true,[]⟩,())=_;refine tf rH (fun k a=>(⟨b,l⟩,aa l,k,a,())) l iT (fun a=>(a,())) (fun k a=>k<=l.length/\a.l.length<=k) ⟨true,[]⟩ ⟨Nat.zero_le _,Nat.le_refl _⟩ ?_ ?_
 ·intro k x a hx hi;obtain⟨nb,a⟩:=a;have hk:=fh hx;have h2:a.length<=k:=hi.2;have he:=aI (show k<=1000000000 by omega);have hc:=qjt nb a x.2.2.1 om;have hf:fit (aT (aa a) (aa [x.2.2.1]))=some ():=iA (by show a.length+1<=_;omega);refine⟨?_,⟨hk,by have:=ZC ⟨nb,a⟩ x;have:=hi.2;simp only at*;omega⟩⟩;unfold rH iT;simp only[cJ hx,aG,aQ hx,aj,hc,hf,uN,aw,app];cases af x.1 31<;>cases decide (x.2.2.1∈a)<;>simp only[Bool.not_true,Bool.not_false,Bool.and_true,Bool.and_false,cond_true,cond_false,aG,aD,aj,he]
 ·intro a _;unfold rH;simp only[dB,aD]
theorem qp0(b:Bool)(l:List ND)(hl:l.length<=10000):D2 (⟨b,l⟩,())=some (l.foldl iT ⟨false,[]⟩,()):=by
 rw[Wq];refine tf vJ (fun k a=>(⟨b,l⟩,k,a,())) l iT (fun a=>(a,())) (fun k a=>k<=l.length/\a.l.length<=k) ⟨false,[]⟩ ⟨Nat.zero_le _,Nat.le_refl _⟩ ?_ ?_
 ·intro k x a hx hi;obtain⟨nb,a⟩:=a;have hk:=fh hx;have h2:a.length<=k:=hi.2;have he:=aI (show k<=1000000000 by omega);obtain⟨z,hc,hz⟩:=qts nb a x.2.2.1 om;have hf:fit (aT (aa a) (aa [x.2.2.1]))=some ():=iA (by show a.length+1<=_;omega);refine⟨?_,⟨hk,by have:=ZC ⟨nb,a⟩ x;have:=hi.2;simp only at*;omega⟩⟩;unfold vJ iT;simp only[cJ hx,aG,aQ hx,aj,hc,hz,hf,uN,app];cases af x.1 31<;>cases decide (x.2.2.1∈a)<;>simp only[Bool.not_true,Bool.not_false,Bool.and_true,Bool.and_false,cond_true,cond_false,aG,aD,aj,he]
 ·intro a _;unfold vJ;simp only[dB,aD]
abbrev SN:=Sl ND
abbrev CT:=Tx×Sl SN
abbrev DD:=Tx×Int×Sl CT
def gT(s:Tx):Prop:=(∀b,b∈s->0<=b/\b<=255)/\s.length<=1000000
def gA(t:SN):Prop:=GL t.l/\t.l.length<=10000
def gC(c:CT):Prop:=gT c.1/\c.2.l.length<=1000/\∀t,t∈c.2.l->gA t
def gD(d:DD):Prop:=gT d.1/\d.2.2.l.length<=1000/\∀c,c∈d.2.2.l->gC c
def GD(L:List DD):Prop:=L.length<=1000/\∀d,d∈L->gD d
def xq(p:Int)(t:List ND):Bool:=jN t&&!(t.any fun x=>af x.1 31&&bf p x.2.2.1)
def Ci(p:Int)(c:CT):Bool:=eJ c.1&&(bf (aa c.2.l) 8&&c.2.l.all fun t=>xq p t.l)
def iU(d:DD):Bool:=eJ d.1&&(bf 0 d.2.1&&(bf d.2.1 8&&(bf 1 (aa d.2.2.l)&&(bf (aa d.2.2.l) 60&&d.2.2.l.all (Ci d.2.1)))))
theorem ZD(s:Tx)(hs:gT s):oF (s,())=some (eJ s,()):=by rw[UT,Zh s hs.1,aj];rfl
theorem ZE(s:Tx)(hs:gT s):rz (s,())=some (eJ s,()):=by rw[Wo,Zi s hs.2,aj];rfl
theorem Qw(a b:Int):aA a b=!bf b a:=by
 unfold aA bf;by_cases h:a<b
 ·rw[zn h,zm om];rfl
 ·rw[zm h,zn om];rfl
theorem qmr(l:List ND):∀a:Sl Int,(l.foldl iT a).l.length<=a.l.length+l.length:=by
 induction l with
 |nil=>intro a;exact Nat.le_refl _
 |cons x r ih=>intro a;rw[List.foldl_cons];have h1:=ih (iT a x);have h2:=ZC a x;rw[zw];omega
theorem z1q(n:Tx)(p:Int)(cs:Sl CT)(t:SN)(ht:gA t):qY (t,n,p,cs,())=some (!xq p t.l,n,p,cs,()):=by
 obtain⟨b,l⟩:=t;obtain⟨hg,hl⟩:=ht;have hl:l.length<=10000:=hl;rw[U7,U6,Nr b l hl hg];unfold xq;cases hc:jN l with
 |false=>rfl
 |true=>
  have hv:=qtt b l hl hg hc;have he:=qmr l ⟨true,[]⟩;have ha:=qrb (fun v=>bf p v) l [];rw[List.any_nil,Bool.false_or] at ha;rw[<-show(l.foldl iT ⟨true,[]⟩).l=l.foldl sM [] from ZB l _] at ha;have he:(l.foldl iT ⟨true,[]⟩).l.length<=0+l.length:=he;generalize l.foldl iT ⟨true,[]⟩=vs at hv he ha;have e:aH rF (vs,aa vs.l,0,n,p,cs,())=some (fe (fun v=>bf p v) 0 vs.l,n,p,cs,()):=by
   refine pE rF (fun k=>(vs,aa vs.l,k,n,p,cs,())) (fun z=>(z,n,p,cs,())) vs.l om (fun v=>bf p v) ?_ ?_
   ·intro k x hx hk;unfold rF;simp only[cJ hx,aG,aQ hx,aj,U0,aI (show k<=1000000000 by omega)];cases bf p x<;>rfl
   ·unfold rF;simp only[dB,aD]
  rw[aj];simp only[cond_true,nR,aG,aj,hv,U2,U1,e,xo,ha,Bool.true_and,aw,Bool.not_not]
theorem qy3(n:Tx)(p:Int)(cs:Sl CT)(a:Sl SN)(ha:a.l.length<=1000)(hg:∀t,t∈a.l->gA t):qZ (a,n,p,cs,())=some (!(a.l.all fun t=>xq p t.l),n,p,cs,()):=by
 have e:aH rI (a,aa a.l,0,n,p,cs,())=some (fe (fun t=>!xq p t.l) 0 a.l,n,p,cs,()):=by
  refine pE rI (fun k=>(a,aa a.l,k,n,p,cs,())) (fun z=>(z,n,p,cs,())) a.l om (fun t=>!xq p t.l) ?_ ?_
  ·intro k x hx hk;unfold rI;simp only[cJ hx,aG,aQ hx,aj,z1q n p cs x (hg x (zj hx)),aI (show k<=1000000000 by omega)];cases xq p x.l<;>rfl
  ·unfold rI;simp only[dB,aD]
 rw[U9,U8,e,aj,xo,List.not_all_eq_any_not]
theorem FK{α ρ:Type}(p:α->Bool)(A R:ρ)(l:List α)(k:Nat):scan (fun _ x=>bif p x then none else some A) R k l=bif l.all p then R else A:=by
 induction l generalizing k with
 |nil=>rfl
 |cons x r ih=>
  unfold scan;rw[List.all_cons];cases p x with
  |true=>exact ih (k+1)
  |false=>rfl
theorem qp1(d:DD)(hd:gD d):wW (d,())=some (iU d,()):=by
 obtain⟨n,p,cs⟩:=d;obtain⟨h1,h2,h3⟩:=hd;have h2:cs.l.length<=1000:=h2;have e:aH rJ (cs,aa cs.l,0,n,p,cs,())=some (cs.l.all (Ci p),()):=by
  refine(kN rJ (fun k=>(cs,aa cs.l,k,n,p,cs,())) cs.l om (fun _ c=>bif Ci p c then none else some (false,())) (true,()) ?_ ?_).trans ?_
  ·intro k c hx hk;obtain⟨g1,g2,g3⟩:=h3 c (zj hx);have hc:=aI (show k<=1000000000 by omega);unfold rJ Ci;simp only[cJ hx,aG,aQ hx,aj,ZD c.1 g1,Qw 8,qy3 n p cs c.2 g2 g3,hc];cases eJ c.1<;>cases bf (aa c.2.l) 8<;>cases (c.2.l.all fun t=>xq p t.l)<;>rfl
  ·unfold rJ;simp only[dB,aD]
  ·rw[FK];cases cs.l.all (Ci p)<;>rfl
 rw[Va,ZD n h1,e];unfold iU;simp only[aj,Qw];cases eJ n<;>cases bf 0 p<;>cases bf p 8<;>cases bf 1 (aa cs.l)<;>cases bf (aa cs.l) 60<;>rfl
theorem xR{α ρ:Type}(p:α->Bool)(A R:ρ)(l:List α)(k:Nat):scan (fun _ x=>bif p x then some A else none) R k l=bif l.any p then A else R:=by
 induction l generalizing k with
 |nil=>rfl
 |cons x r ih=>
  unfold scan;rw[List.any_cons];cases p x with
  |false=>exact ih (k+1)
  |true=>rfl
theorem z5j(c a:Int)(vs:Sl Int)(n:Tx)(p:Int)(cs:Sl CT)(cn:Tx)(as:Sl SN)(hv:vs.l.length<=1000000):aH se (c,a,vs,0,n,p,cs,cn,as,())=some (bif vs.l.any (bf p) then .inr (.inr (false,())) else .inl (c,au .i64 a 1,n,p,cs,cn,as,())):=by
 refine(kN se (fun k=>(c,a,vs,k,n,p,cs,cn,as,())) vs.l hv (fun _ v=>bif bf p v then some (.inr (.inr (false,()))) else none) (.inl (c,au .i64 a 1,n,p,cs,cn,as,())) ?_ ?_).trans ?_
 ·intro k v hx hk;unfold se;simp only[cJ hx,aG,aQ hx,aj,aI (show k<=1000000000 by omega)];cases bf p v<;>rfl
 ·unfold se;simp only[dB,aD]
 ·rw[xR]
theorem z5k(c:Int)(n:Tx)(p:Int)(cs:Sl CT)(cn:Tx)(as:Sl SN)(ha:as.l.length<=1000)(hg:∀t,t∈as.l->gA t):aH sf (c,0,n,p,cs,cn,as,())=some (bif as.l.all (fun t=>xq p t.l) then .inl (au .i64 c 1,n,p,cs,()) else .inr (false,())):=by
 refine(kN sf (fun k=>(c,k,n,p,cs,cn,as,())) as.l om (fun _ t=>bif xq p t.l then none else some (.inr (false,()))) (.inl (au .i64 c 1,n,p,cs,())) ?_ ?_).trans ?_
 ·intro k t hx hk;obtain⟨b,l⟩:=t;obtain⟨hg,hl⟩:=hg _ (zj hx);have hl:l.length<=10000:=hl;have hv:=qp0 b l hl;have hc:=qmr l ⟨false,[]⟩;have ha:=qrb (fun v=>bf p v) l [];rw[List.any_nil,Bool.false_or] at ha;rw[<-show(l.foldl iT ⟨false,[]⟩).l=l.foldl sM [] from ZB l _] at ha;have hc:(l.foldl iT ⟨false,[]⟩).l.length<=0+l.length:=hc;generalize l.foldl iT ⟨false,[]⟩=vs at hv hc ha;unfold sf xq;simp only[cJ hx,aG,aQ hx,aj,qfs b l hl hg,hv,z5j _ _ vs n p cs cn as om,aI (show k<=1000000000 by omega),ha];cases jN l<;>cases (l.any fun x=>af x.1 31&&bf p x.2.2.1)<;>rfl
 ·unfold sf;simp only[dB,aD]
 ·rw[FK]
theorem z1r(d:DD)(hd:gD d):D3 (d,())=some (iU d,()):=by
 obtain⟨n,p,cs⟩:=d;obtain⟨h1,h2,h3⟩:=hd;have h2:cs.l.length<=1000:=h2;have e:aH si (0,n,p,cs,())=some (cs.l.all (Ci p),()):=by
  refine(kN si (fun k=>(k,n,p,cs,())) cs.l om (fun _ c=>bif Ci p c then none else some (false,())) (true,()) ?_ ?_).trans ?_
  ·intro k c hx hk;obtain⟨g1,g2,g3⟩:=h3 c (zj hx);have hc:=aI (show k<=1000000000 by omega);unfold si Ci;simp only[cJ hx,aG,aQ hx,aj,ZE c.1 g1,Qw 8,z5k _ n p cs c.1 c.2 g2 g3,hc];cases eJ c.1<;>cases bf (aa c.2.l) 8<;>cases (c.2.l.all fun t=>xq p t.l)<;>rfl
  ·unfold si;simp only[dB,aD]
  ·rw[FK];cases cs.l.all (Ci p)<;>rfl
 rw[Wr,ZE n h1,e];unfold iU;simp only[aj,Qw];cases eJ n<;>cases bf 0 p<;>cases bf p 8<;>cases bf 1 (aa cs.l)<;>cases bf (aa cs.l) 60<;>rfl
def lG{α:Type}(q:Nat->α->Bool):Nat->List α->Bool
 |_,[]=>false
 |k,x::r=>q k x||lG q (k+1) r
theorem Ns{α ρ:Type}(q:Nat->α->Bool)(A R:ρ)(l:List α)(k:Nat):scan (fun k x=>bif q k x then some A else none) R k l=bif lG q k l then A else R:=by
 induction l generalizing k with
 |nil=>rfl
 |cons x r ih=>
  unfold scan lG;cases q k x with
  |false=>exact ih (k+1)
  |true=>rfl
def EH:List Tx->List Tx->Bool
 |_,[]=>false
 |pre,a::r=>decide (a∈pre)||EH (pre++[a]) r
theorem qy4:∀(l pre:List Tx),EH pre l=(l.any (fun x=>decide (x∈pre))||bN l)
 |[],_=>rfl
 |a::r,pre=>by
  unfold EH bN;rw[qy4 r,List.any_cons];have h:(r.any fun x=>decide (x∈pre++[a]))=((r.any fun x=>decide (x∈pre))||decide (a∈r)):=by
   rw[Bool.eq_iff_iff];simp only[jx,Bool.or_eq_true,decide_eq_true_eq,zL,zI];constructor
   ·rintro⟨x,h1,h2|h2⟩
    ·exact .inl ⟨x,h1,h2⟩
    ·subst h2;exact .inr h1
   ·rintro(⟨x,h1,h2⟩|h2)
    ·exact⟨x,h1,.inl h2⟩
    ·exact⟨a,h2,.inr rfl⟩
  rw[h];cases decide (a∈pre)<;>cases (r.any fun x=>decide (x∈pre))<;>cases decide (a∈r)<;>rfl
theorem ZF{α:Type}(key:α->Tx)(q:Nat->α->Bool)(L:List α)(h:∀k x,L[k]?=some x->q k x=decide (key x∈(L.take k).map key)):lG q 0 L=bN (L.map key):=by
 have aux:∀(iI pre:List α),L=pre++iI->lG q pre.length iI=EH (pre.map key) (iI.map key):=by
  intro iI
  induction iI with
  |nil=>intro pre _;rfl
  |cons x r ih=>
   intro pre e;have hx:L[pre.length]?=some x:=by rw[e,zV (Nat.le_refl _),Nat.sub_self];rfl
   have ht:L.take pre.length=pre:=by rw[e,List.take_left]
   have h1:=ih (pre++[x]) (by rw[e,zD];rfl);rw[zt,zE] at h1;unfold lG;rw[h _ x hx,ht];exact congrArg _ h1
 refine(aux L [] rfl).trans ?_;rw[List.map_nil,qy4];simp
theorem qrc{α:Type}(p:α->Bool):∀(l:List α) (i k:Nat) (x:α),l[i]?=some x->p x=true->aA (fe p k l) ((k+i:Nat):Int)=(l.take i).any p
 |[],_,_,_,h,_=>by cases h
 |a::r,0,k,x,h,hp=>by injection h with h;subst h;unfold fe;rw[hp,cond_true];exact zm om
 |a::r,i+1,k,x,h,hp=>by
  unfold fe;rw[List.take_succ_cons,List.any_cons];cases ha:p a with
  |true=>exact zn (by show(k:Int)<_;omega)
  |false=>have:=qrc p r i (k+1) x h hp;rw[show k+(i+1)=k+1+i by omega];exact this
theorem qrd(l:List DD)(n:Tx):(l.any fun x=>aM x.1 n)=decide (n∈l.map fun d=>d.1):=by rw[Bool.eq_iff_iff];simp only[jx,decide_eq_true_eq,zS];exact⟨fun⟨x,h1,h2⟩=>⟨x,h1,bU.1 h2⟩,fun⟨x,h1,h2⟩=>⟨x,h1,bU.2 h2⟩⟩
def PC(i:Nat):Nat->List CT->List ((Int×Int)×Tx)
 |_,[]=>[]
 |k,c::r=>((i,k),c.1)::PC i (k+1) r
def PD:Nat->List DD->List ((Int×Int)×Tx)
 |_,[]=>[]
 |i,d::r=>PC i 0 d.2.2.l++PD (i+1) r
def l7(L:List DD):List Tx:=L.flatMap fun d=>d.2.2.l.map fun c=>c.1
def tg(E:List ((Int×Int)×Tx))(n:Tx):Option (Int×Int):=(E.find? fun e=>aM e.2 n).map fun e=>e.1
theorem qre(i:Nat):∀(l:List CT) (k:Nat),(PC i k l).map (fun e=>e.2)=l.map fun c=>c.1
 |[],_=>rfl
 |c::r,k=>by show c.1::_=c.1::_;rw[qre i r]
theorem qrf:∀(L:List DD) (i:Nat),(PD i L).map (fun e=>e.2)=l7 L
 |[],_=>rfl
 |d::r,i=>by show(PC i 0 d.2.2.l++PD (i+1) r).map _=_;rw[zE,qre,qrf r];rfl
theorem Qx(i:Nat):∀(l:List CT) (k:Nat) e,e∈PC i k l->e.1.1=(i:Int)/\(k:Int)<=e.1.2
 |[],_,_,h=>by cases h
 |c::r,k,e,h=>by
  rcases zu.1 h with h|h
  ·subst h;exact⟨rfl,Int.le_refl _⟩
  ·obtain⟨h1,h2⟩:=Qx i r (k+1) e h;exact⟨h1,by omega⟩
theorem qy5:∀(L:List DD) (i:Nat) e,e∈PD i L->(i:Int)<=e.1.1
 |[],_,_,h=>by cases h
 |d::r,i,e,h=>by
  rcases zL.1 h with h|h
  ·rw[(Qx i _ _ e h).1];exact Int.le_refl _
  ·have:=qy5 r (i+1) e h;omega
theorem qrg(i:Nat):∀(l:List CT) (k:Nat),((PC i k l).map fun e=>e.1).Nodup
 |[],_=>List.nodup_nil
 |c::r,k=>by show(((i:Int),(k:Int))::(PC i (k+1) r).map _).Nodup;refine List.nodup_cons.2 ⟨fun h=>?_,qrg i r (k+1)⟩;obtain⟨e,h1,h2⟩:=zS.1 h;have:=(Qx i r (k+1) e h1).2;rw[h2] at this;simp only at this;omega
theorem qrh:∀(L:List DD) (i:Nat),((PD i L).map fun e=>e.1).Nodup
 |[],_=>List.nodup_nil
 |d::r,i=>by show((PC i 0 d.2.2.l++PD (i+1) r).map _).Nodup;rw[zE];refine List.nodup_append.2 ⟨qrg i _ _,qrh r (i+1),fun a ha b hb=>?_⟩;obtain⟨e,h1,h2⟩:=zS.1 ha;obtain⟨e',h3,h4⟩:=zS.1 hb;have g1:=(Qx i _ _ e h1).1;have g2:=qy5 r (i+1) e' h3;intro h;rw[<-h,<-h2] at h4;rw[h4,g1] at g2;omega
theorem qms:∀E:List ((Int×Int)×Tx),(E.map fun e=>e.1).Nodup->(E.any fun e=>!decide (tg E e.2=some e.1))=bN (E.map fun e=>e.2)
 |[],_=>rfl
 |e0::r,h=>by
  rw[zQ] at h;obtain⟨h1,h2⟩:=List.nodup_cons.1 h;have ih:=qms r h2;have f0:tg (e0::r) e0.2=some e0.1:=by unfold tg;rw[List.find?_cons_of_pos (p:=fun e:(Int×Int)×Tx=>aM e.2 e0.2) (LQ e0.2)];rfl
  rw[List.any_cons,f0,zQ];unfold bN;rw[<-ih];have hd:(!decide ((some e0.1:Option (Int×Int))=some e0.1))=false:=by simp
  rw[hd,Bool.false_or];rw[Bool.eq_iff_iff];simp only[jx,Bool.or_eq_true,decide_eq_true_eq,zS,Bool.not_eq_true',decide_eq_false_iff_not];have fr:∀e,e∈r->e.2≠e0.2->tg (e0::r) e.2=tg r e.2:=fun e _ hc=>by unfold tg;rw[jB (p:=fun x:(Int×Int)×Tx=>aM x.2 e.2) (fun hh=>hc (bU.1 hh).symm)]
  constructor
  ·rintro⟨e,g1,g2⟩;by_cases hn:e.2=e0.2
   ·exact .inl ⟨e,g1,hn⟩
   ·rw[fr e g1 hn] at g2;exact .inr ⟨e,g1,g2⟩
  ·rintro(⟨e,g1,g2⟩|⟨e,g1,g2⟩)
   ·refine⟨e,g1,?_⟩;rw[g2,f0];intro hh;injection hh with hh;exact h1 (zS.2 ⟨e,g1,hh.symm⟩)
   ·by_cases hn:e.2=e0.2
    ·refine⟨e,g1,?_⟩;rw[hn,f0];intro hh;injection hh with hh;exact h1 (zS.2 ⟨e,g1,hh.symm⟩)
    ·exact⟨e,g1,by rw[fr e g1 hn];exact g2⟩
def Kr(L:List DD)(x:ND):Bool:=L.any fun d=>aM d.1 x.2.1&&af d.2.1 x.2.2.2
def uO(L:List DD)(x:ND):Bool:=af x.1 32&&(eJ x.2.1&&!Kr L x)
def vX(L:List DD)(c:CT):Bool:=c.2.l.any fun t=>t.l.any (uO L)
def th(L:List DD):Bool:=L.any fun d=>d.2.2.l.any (vX L)
def qD(L:List DD):Bool:=decide (L.length<=60)&&(L.all iU&&(!bN (L.map fun d=>d.1)&&(!bN (l7 L)&&!th L)))
theorem z1s(b:Bool)(L:List DD)(hL:GD L):q7 (⟨b,L⟩,())=some (!L.all iU,()):=by
 have e:aH rK (⟨b,L⟩,aa L,0,())=some (fe (fun d=>!iU d) 0 L,()):=by
  refine pE rK (fun k=>(⟨b,L⟩,aa L,k,())) (fun z=>(z,())) L (by have:=hL.1;omega) (fun d=>!iU d) ?_ ?_
  ·intro k x hx hk;have hd:=qp1 x (hL.2 x (zj hx));obtain⟨n,p,cs⟩:=x;unfold rK;simp only[cJ hx,aG,aQ hx,aj,Vb,hd,aI (show k<=1000000000 by omega),aw];cases iU (n,p,cs)<;>rfl
  ·unfold rK;simp only[dB,aD]
 rw[Vd,Vc];refine(EG e _).trans ?_;rw[xo,List.not_all_eq_any_not]
theorem z7d(b:Bool)(L:List DD)(hL:GD L)(d:DD):uc (⟨b,L⟩,d,())=some (fe (fun x=>aM x.1 d.1) 0 L,()):=by
 obtain⟨n,p,cs⟩:=d;rw[US];refine pE vn (fun k=>(⟨b,L⟩,(n,p,cs),aa L,k,())) (fun z=>(z,())) L (by have:=hL.1;omega) (fun x=>aM x.1 n) ?_ ?_
 ·intro k x hx hk;obtain⟨m,q,ds⟩:=x;unfold vn;simp only[cJ hx,aG,aQ hx,aj,UR,aI (show k<=1000000000 by omega)];cases aM m n<;>rfl
 ·unfold vn;simp only[dB,aD]
def Nt(n:Tx)(i:Nat)(d:DD):Option (Bool×Int×Int×Unit):=bif bf 0 (fe (fun c:CT=>aM c.1 n) 0 d.2.2.l) then some (true,(i:Int),fe (fun c:CT=>aM c.1 n) 0 d.2.2.l,()) else none
def Bz(s:Sl DD)(n:Tx)(i:Nat)(z:Int):((Sl DD)×Tx×(Sl DD)×Int×Int×Int×Int×Unit)⊕(Bool×Int×Int×Unit):=bif bf 0 z then .inr (true,(i:Int),z,()) else .inl (s,n,s,aa s.l,((i+1:Nat):Int),0,0,())
theorem z8d(s:Sl DD)(hL:GD s.l)(n:Tx):wX (s,s,n,0,0,())=some (scan (Nt n) (false,0,0,()) 0 s.l):=by
 rw[Vf];refine kN vo (fun k=>(s,n,s,aa s.l,k,0,0,())) s.l (by have:=hL.1;omega) (Nt n) (false,0,0,()) ?_ ?_
 ·intro i d hd hi;obtain⟨g1,g2,g3⟩:=hL.2 d (zj hd);have e:aH rL (s,n,(i:Int),s,aa s.l,(i:Int),aa d.2.2.l,0,0,0,())=some (Bz s n i (fe (fun c:CT=>aM c.1 n) 0 d.2.2.l)):=by
   refine pE rL (fun k=>(s,n,(i:Int),s,aa s.l,(i:Int),aa d.2.2.l,k,0,0,())) (Bz s n i) d.2.2.l om (fun c:CT=>aM c.1 n) ?_ ?_
   ·intro k c hc hk;have h0:bf 0 (k:Int)=true:=zn om;unfold rL Bz;simp only[cJ hc,aG,Ve,aQ hd,aQ hc,aj,aI (show k<=1000000000 by omega),h0,cond_true];cases aM c.1 n<;>rfl
   ·have h0:bf 0 (-1)=false:=id (Eq.refl _);unfold rL Bz;simp only[dB,aD,h0,cond_false,aI (show i<=1000000000 by omega)]
  unfold vo;simp only[cJ hd,aG,aQ hd,aj,e];unfold Nt Bz;cases bf 0 (fe (fun c:CT=>aM c.1 n) 0 d.2.2.l)<;>rfl
 ·unfold vo;simp only[dB,aD]
theorem qy7(i:Nat)(n:Tx):∀(l:List CT) (k:Nat),tg (PC i k l) n=bif bf 0 (fe (fun c:CT=>aM c.1 n) k l) then some ((i:Int),fe (fun c:CT=>aM c.1 n) k l) else none
 |[],_=>rfl
 |c::r,k=>by
  unfold PC fe tg;rw[List.find?_cons];cases hc:aM c.1 n with
  |true=>have:bf 0 (k:Int)=true:=zn om;simp only[cond_true,this];rfl
  |false=>simp only[cond_false];exact qy7 i n r (k+1)
theorem qi2(n:Tx):∀(L:List DD) (i:Nat),scan (Nt n) (false,0,0,()) i L=match tg (PD i L) n with|some q=>(true,q.1,q.2,())|none=>(false,0,0,())
 |[],_=>rfl
 |d::r,i=>by
  have ih:=qi2 n r (i+1);have h:tg (PD i (d::r)) n=(tg (PC i 0 d.2.2.l) n).or (tg (PD (i+1) r) n):=by show((PC i 0 d.2.2.l++PD (i+1) r).find? _).map _=_;unfold tg;rw[List.find?_append];cases (PC i 0 d.2.2.l).find? (fun e=>aM e.2 n)<;>rfl
  rw[h,qy7];unfold scan Nt;cases bf 0 (fe (fun c:CT=>aM c.1 n) 0 d.2.2.l) with
  |true=>rfl
  |false=>exact ih
theorem z3e(P:(Int×Int)×Tx->Bool)(i:Nat):∀(l:List CT) (k:Nat),lG (fun k c=>P (((i:Int),(k:Int)),c.1)) k l=(PC i k l).any P
 |[],_=>rfl
 |c::r,k=>by unfold lG PC;rw[List.any_cons,z3e P i r]
theorem z3f(P:(Int×Int)×Tx->Bool):∀(L:List DD) (i:Nat),lG (fun i d=>lG (fun k c=>P (((i:Int),(k:Int)),c.1)) 0 d.2.2.l) i L=(PD i L).any P
 |[],_=>rfl
 |d::r,i=>by unfold lG PD;rw[List.any_append,z3e,z3f P r]
def EI(L:List DD)(e:(Int×Int)×Tx):Bool:=!decide (tg (PD 0 L) e.2=some e.1)
theorem z3g:∀(L:List DD) (i0 i k:Nat) (d:DD) (c:CT),L[i]?=some d->d.2.2.l[k]?=some c->((((i0+i:Nat):Int),(k:Int)),c.1)∈PD i0 L
 |[],_,_,_,_,_,h,_=>by cases h
 |d0::r,i0,0,k,d,c,h,hc=>by
  injection h with h;subst h;refine List.mem_append_left _ ?_;have aux:∀(l:List CT) (k0 k:Nat),l[k]?=some c->(((i0:Int),((k0+k:Nat):Int)),c.1)∈PC i0 k0 l:=by
   intro l
   induction l with
   |nil=>intro k0 k h;cases h
   |cons c0 r ih=>
    intro k0 k h;cases k with
    |zero=>injection h with h;subst h;exact zf ..
    |succ k=>have:=ih (k0+1) k h;rw[show k0+1+k=k0+(k+1) by omega] at this;exact zg _ this
  have:=aux d0.2.2.l 0 k hc;rw[zN] at this;exact this
 |d0::r,i0,i+1,k,d,c,h,hc=>by have:=z3g r (i0+1) i k d c h hc;rw[show i0+1+i=i0+(i+1) by omega] at this;exact List.mem_append_right _ this
theorem qtu(s:Sl DD)(hL:GD s.l){i k:Nat}{d:DD}{c:CT}(hd:s.l[i]?=some d)(hc:d.2.2.l[k]?=some c):q8 ((i:Int),(k:Int),s,())=some (EI s.l (((i:Int),(k:Int)),c.1),s,()):=by
 have hm:=z3g s.l 0 i k d c hd hc;rw[zN] at hm;have hf:∃q,tg (PD 0 s.l) c.1=some q:=by
  unfold tg;cases h:(PD 0 s.l).find? (fun e=>aM e.2 c.1) with
  |some q=>exact⟨q.1,rfl⟩
  |none=>exact absurd (LQ c.1) (List.find?_eq_none.1 h _ hm)
 obtain⟨⟨x,y⟩,hq⟩:=hf;rw[Vh,aQ hd,aj,aQ hc,aj,Vg,z8d s hL,aj,qi2,hq,aj];unfold EI;rw[hq];simp only;by_cases h1:x=(i:Int)
 ·by_cases h2:y=(k:Int)
  ·subst h1 h2;rw[xL,xL,zn rfl];rfl
  ·subst h1;rw[xL,jW h2,zm (by intro h;injection h with h;injection h with h h';exact h2 h')];rfl
 ·rw[jW h1,zm (by intro h;injection h with h;injection h with h h';exact h1 h)];rfl
theorem z8e(s:Sl DD)(hL:GD s.l):uj (s,s,())=some ((PD 0 s.l).any (EI s.l),s,()):=by
 rw[Vi];refine(kN vq (fun k=>(s,aa s.l,k,s,())) s.l (by have:=hL.1;omega) (fun i d=>bif lG (fun k c=>EI s.l (((i:Int),(k:Int)),c.1)) 0 d.2.2.l then some (true,s,()) else none) (false,s,()) ?_ ?_).trans ?_
 ·intro i d hd hi;obtain⟨g1,g2,g3⟩:=hL.2 d (zj hd);have e:=kN vp (fun k=>((i:Int),s,aa s.l,(i:Int),aa d.2.2.l,k,s,())) d.2.2.l om
   (fun k c=>bif EI s.l (((i:Int),(k:Int)),c.1) then some (.inr (true,s,())) else none) (.inl (s,aa s.l,((i+1:Nat):Int),s,()))
   (fun k c hc hk=>by unfold vp;simp only[cJ hc,aG,qtu s hL hd hc,aj,aI (show k<=1000000000 by omega)];cases EI s.l (((i:Int),(k:Int)),c.1)<;>rfl)
   (by
    unfold vp;simp only[dB,aD,aI (show i<=1000000000 by omega)])
  rw[Ns] at e;unfold vq;simp only[cJ hd,aG,aQ hd,aj];refine e.trans ?_;cases lG (fun k c=>EI s.l (((i:Int),(k:Int)),c.1)) 0 d.2.2.l<;>rfl
 ·unfold vq;simp only[dB,aD]
 ·rw[Ns,z3f];cases (PD 0 s.l).any (EI s.l)<;>rfl
theorem qy8(L:List DD):(PD 0 L).any (EI L)=bN (l7 L):=by have:=qms (PD 0 L) (qrh L 0);rw[qrf] at this;exact this
theorem qtv(s:Sl DD)(hL:s.l.length<=1000)(x:ND):um (s,x,())=some (Kr s.l x,()):=by
 obtain⟨a,t,n,c⟩:=x;have e:aH rM (s,(a,t,n,c),aa s.l,0,())=some (fe (fun d:DD=>aM d.1 t&&af d.2.1 c) 0 s.l,()):=by
  refine pE rM (fun k=>(s,(a,t,n,c),aa s.l,k,())) (fun z=>(z,())) s.l om (fun d:DD=>aM d.1 t&&af d.2.1 c) ?_ ?_
  ·intro k d hx hk;obtain⟨m,q,ds⟩:=d;unfold rM;simp only[cJ hx,aG,aQ hx,aj,Vj,aI (show k<=1000000000 by omega)];cases aM m t<;>cases af q c<;>rfl
  ·unfold rM;simp only[dB,aD]
 rw[Vl,Vk,e,aj,xo];rfl
theorem qtw(s:Sl DD)(hL:s.l.length<=1000)(x:ND)(hx:IL x):q9 (x,s,())=some (uO s.l x,s,()):=by have hk:=qtv s hL x;have hn:=ZD x.2.1 ⟨hx.1,hx.2.1⟩;obtain⟨a,t,n,c⟩:=x;rw[Vm];unfold uO;simp only[hk,hn,aj];cases af a 32<;>cases eJ t<;>cases Kr s.l (a,t,n,c)<;>rfl
theorem qtx(s:Sl DD)(hL:s.l.length<=1000)(t:SN)(ht:gA t):re (t,s,())=some (t.l.any (uO s.l),s,()):=by
 have hl:=ht.2;have e:aH rN (t,aa t.l,0,s,())=some (fe (uO s.l) 0 t.l,s,()):=by
  refine pE rN (fun k=>(t,aa t.l,k,s,())) (fun z=>(z,s,())) t.l om (uO s.l) ?_ ?_
  ·intro k x hx hk;unfold rN
   simp only[cJ hx,aG,aQ hx,aj,qtw s hL x (ht.1.at hx),aI (show k<=1000000000 by omega)];cases uO s.l x<;>rfl
  ·unfold rN
   simp only[dB,aD]
 rw[Vp,Vo,Vn,e,aj,aj,xo]
theorem qty(s:Sl DD)(hL:GD s.l){i k:Nat}{d:DD}{c:CT}(hd:s.l[i]?=some d)(hc:d.2.2.l[k]?=some c):rf ((i:Int),(k:Int),s,())=some (vX s.l c,s,()):=by
 obtain⟨g1,g2,g3⟩:=(hL.2 d (zj hd)).2.2 c (zj hc);have e:aH rO (c.2,aa c.2.l,0,s,())=some (fe (fun t:SN=>t.l.any (uO s.l)) 0 c.2.l,s,()):=by
  refine pE rO (fun k=>(c.2,aa c.2.l,k,s,())) (fun z=>(z,s,())) c.2.l om (fun t:SN=>t.l.any (uO s.l)) ?_ ?_
  ·intro k t hx hk;unfold rO;simp only[cJ hx,aG,aQ hx,aj,qtx s hL.1 t (g3 t (zj hx)),aI (show k<=1000000000 by omega)];cases t.l.any (uO s.l)<;>rfl
  ·unfold rO;simp only[dB,aD]
 rw[Vs,aQ hd,aj,aQ hc,aj,Vr,Vq,e,aj,aj,xo];rfl
theorem z8f(s:Sl DD)(hL:GD s.l):uo (s,s,())=some (th s.l,s,()):=by
 rw[Vt];refine(kN vu (fun k=>(s,aa s.l,k,s,())) s.l (by have:=hL.1;omega) (fun _ d=>bif d.2.2.l.any (vX s.l) then some (true,s,()) else none) (false,s,()) ?_ ?_).trans ?_
 ·intro i d hd hi;obtain⟨g1,g2,g3⟩:=hL.2 d (zj hd);have e:=kN vr (fun k=>((i:Int),s,aa s.l,(i:Int),aa d.2.2.l,k,s,())) d.2.2.l om
   (fun _ c=>bif vX s.l c then some (.inr (true,s,())) else none) (.inl (s,aa s.l,((i+1:Nat):Int),s,()))
   (fun k c hc hk=>by unfold vr;simp only[cJ hc,aG,qty s hL hd hc,aj,aI (show k<=1000000000 by omega)];cases vX s.l c<;>rfl)
   (by
    unfold vr;simp only[dB,aD,aI (show i<=1000000000 by omega)])
  rw[xR] at e;unfold vu;simp only[cJ hd,aG,aQ hd,aj];refine e.trans ?_;cases d.2.2.l.any (vX s.l)<;>rfl
 ·unfold vu;simp only[dB,aD]
 ·rw[xR];unfold th;cases s.l.any (fun d=>d.2.2.l.any (vX s.l))<;>rfl
def Cj(L:List DD):Int:=bif decide (L.length<=60)&&L.all iU then(bif bN (L.map fun d=>d.1)||bN (l7 L) then 101 else bif th L then 102 else 0) else 100
theorem Qy(L:List DD):af (Cj L) 0=qD L:=by unfold Cj qD;cases decide (L.length<=60)<;>cases L.all iU<;>cases bN (L.map fun d=>d.1)<;>cases bN (l7 L)<;>cases th L<;>rfl
theorem z7e(L:List DD):aA 60 (aa L)=!decide (L.length<=60):=by
 unfold aA aa;by_cases e:L.length<=60
 ·rw[zn e,zm om];rfl
 ·rw[zm e,zn om];rfl
theorem ZG(s:Sl DD)(hL:GD s.l):nG (s,())=some (Cj s.l,()):=by
 obtain⟨b,L⟩:=s;have hL:GD L:=hL;have e:aH rP (⟨b,L⟩,aa L,0,⟨b,L⟩,())=some (bif bN (L.map fun d=>d.1)||bN (l7 L) then 101 else bif th L then 102 else 0,()):=by
  refine(kN rP (fun k=>(⟨b,L⟩,aa L,k,⟨b,L⟩,())) L (by have:=hL.1;omega) (fun i d=>bif aA (fe (fun x:DD=>aM x.1 d.1) 0 L) (i:Int) then some (101,()) else none)
   (bif bN (l7 L) then 101 else bif th L then 102 else 0,()) ?_ ?_).trans ?_
  ·intro k d hx hk;have hn:=z7d b L hL d;obtain⟨n,p,cs⟩:=d;unfold rP;simp only[cJ hx,aG,aQ hx,aj,hn,aI (show k<=1000000000 by omega)];cases aA (fe (fun x:DD=>aM x.1 n) 0 L) (k:Int)<;>rfl
  ·have h1:=z8e ⟨b,L⟩ hL;have h2:=z8f ⟨b,L⟩ hL;rw[qy8] at h1;unfold rP;simp only[dB,aD,h1,h2,aj];cases bN (l7 L)<;>cases th L<;>rfl
  ·rw[Ns,ZF (fun d:DD=>d.1) (fun i d=>aA (fe (fun x:DD=>aM x.1 d.1) 0 L) (i:Int)) L (fun k x hx=>by have:=qrc (fun y:DD=>aM y.1 x.1) L k 0 x hx (LQ _);rw[zN] at this;rw[this,qrd])];cases bN (L.map fun d=>d.1)<;>rfl
 rw[Vu,z1s b L hL];simp only[z7e,e,aj];unfold Cj;cases decide (L.length<=60)<;>cases L.all iU<;>rfl
theorem qp2(s:Sl DD)(hL:s.l.length<=1000)(x:ND):D5 (s,x,())=some (Kr s.l x,()):=by
 obtain⟨a,t,n,c⟩:=x;rw[Wt];refine(kN vM (fun k=>(s,k,a,t,n,c,())) s.l om (fun _ d=>bif aM d.1 t&&af d.2.1 c then some (true,()) else none) (false,()) ?_ ?_).trans ?_
 ·intro k d hx hk;unfold vM;simp only[cJ hx,aG,aQ hx,aj,aI (show k<=1000000000 by omega)];cases aM d.1 t<;>cases af d.2.1 c<;>rfl
 ·unfold vM;simp only[dB,aD]
 ·rw[xR];unfold Kr;cases s.l.any (fun d=>aM d.1 t&&af d.2.1 c)<;>rfl
theorem r3(s:Sl DD)(hL:s.l.length<=1000)(i k:Int)(m:Nat)(hm:m<=1000000)(t:SN)(ht:gA t):aH sq (s,i,k,(m:Int),t,0,())=some (bif t.l.any (uO s.l) then .inr (.inr (.inr (.inr (.inr (.inr (102,())))))) else .inl (s,i,k,((m+1:Nat):Int),())):=by
 have hl:=ht.2;refine(kN sq (fun n=>(s,i,k,(m:Int),t,n,())) t.l om (fun _ x=>bif uO s.l x then some (.inr (.inr (.inr (.inr (.inr (.inr (102,()))))))) else none) (.inl (s,i,k,((m+1:Nat):Int),())) ?_ ?_).trans ?_
 ·intro n x hx hk;have hg:=ht.1.at hx;have hc:=qp2 s hL x;have hn:=ZE x.2.1 ⟨hg.1,hg.2.1⟩;unfold sq uO;simp only[cJ hx,aG,aQ hx,aj,hc,hn,aI (show n<=1000000000 by omega)];cases af x.1 32<;>cases eJ x.2.1<;>cases Kr s.l x<;>rfl
 ·unfold sq;simp only[dB,aD,aI (show m<=1000000000 by omega)]
 ·rw[xR]
theorem r4(s:Sl DD)(hL:GD s.l){i k:Nat}{d:DD}{c:CT}(hd:s.l[i]?=some d)(hc:d.2.2.l[k]?=some c)(hk:k<=1000000):aH sr (s,(i:Int),(k:Int),0,())=some (bif vX s.l c then .inr (.inr (.inr (.inr (.inr (102,()))))) else .inl (s,(i:Int),((k+1:Nat):Int),())):=by
 obtain⟨g1,g2,g3⟩:=(hL.2 d (zj hd)).2.2 c (zj hc);refine(kN sr (fun m=>(s,(i:Int),(k:Int),m,())) c.2.l om (fun _ t=>bif t.l.any (uO s.l) then some (.inr (.inr (.inr (.inr (.inr (102,())))))) else none) (.inl (s,(i:Int),((k+1:Nat):Int),())) ?_ ?_).trans ?_
 ·intro m t hx hm;unfold sr;simp only[aQ hd,aQ hc,cJ hx,aG,aQ hx,aj,r3 s hL.1 i k m hm t (g3 t (zj hx))];cases t.l.any (uO s.l)<;>rfl
 ·unfold sr;simp only[aQ hd,aQ hc,aj,dB,aD,aI (show k<=1000000000 by omega)]
 ·rw[xR];rfl
theorem r5(s:Sl DD)(hL:GD s.l){i:Nat}{d:DD}(hd:s.l[i]?=some d)(hi:i<=1000000):aH su (s,(i:Int),0,())=some (bif d.2.2.l.any (vX s.l) then .inr (.inr (.inr (.inr (102,())))) else .inl (s,((i+1:Nat):Int),())):=by
 obtain⟨g1,g2,g3⟩:=hL.2 d (zj hd);refine(kN su (fun k=>(s,(i:Int),k,())) d.2.2.l om (fun _ c=>bif vX s.l c then some (.inr (.inr (.inr (.inr (102,()))))) else none) (.inl (s,((i+1:Nat):Int),())) ?_ ?_).trans ?_
 ·intro k c hx hk;unfold su;simp only[aQ hd,aj,cJ hx,aG,r4 s hL hd hx hk];cases vX s.l c<;>rfl
 ·unfold su;simp only[aQ hd,aj,dB,aD,aI (show i<=1000000000 by omega)]
 ·rw[xR]
theorem r6(s:Sl DD)(hL:GD s.l):aH sv (s,0,())=some (.inr (.inr (.inr (bif th s.l then 102 else 0,())))):=by
 refine(kN sv (fun i=>(s,i,())) s.l (by have:=hL.1;omega) (fun _ d=>bif d.2.2.l.any (vX s.l) then some (.inr (.inr (.inr (102,())))) else none) (.inr (.inr (.inr (0,())))) ?_ ?_).trans ?_
 ·intro i d hx hi;unfold sv;simp only[cJ hx,aG,r5 s hL hx hi];cases d.2.2.l.any (vX s.l)<;>rfl
 ·unfold sv;simp only[dB,aD]
 ·rw[xR];unfold th;cases s.l.any (fun d=>d.2.2.l.any (vX s.l))<;>rfl
theorem qri{α:Type}{l:List α}{i k:Nat}{x:α}(h:(l.take i)[k]?=some x):l[k]?=some x/\k<i:=by have h1:=fh h;rw[zO] at h1;rw[List.getElem?_take_of_lt om] at h;exact⟨h,by omega⟩
theorem ltT{i k:Nat}(h:k<i):aA (k:Int) (i:Int)=true:=zn om
theorem z5l(l:List Tx)(n:Tx):(l.any fun x=>aM x n)=decide (n∈l):=by rw[Bool.eq_iff_iff];simp only[jx,decide_eq_true_eq];exact⟨fun⟨x,h1,h2⟩=>by rw[<-bU.1 h2];exact h1,fun h=>⟨n,h,LQ n⟩⟩
theorem r2(s:Sl DD)(ns:Sl Tx){i:Nat}{n:Tx}(hn:ns.l[i]?=some n)(hi:i<=1000000):aH so (s,ns,(i:Int),0,())=some (bif decide (n∈ns.l.take i) then .inr (.inr (.inr (101,()))) else .inl (s,ns,((i+1:Nat):Int),())):=by
 have hc:(ns.l.take i).length=i:=by rw[zO];have:=fh hn;omega
 refine(kN so (fun k=>(s,ns,(i:Int),k,())) (ns.l.take i) om (fun _ x=>bif aM x n then some (.inr (.inr (.inr (101,())))) else none) (.inl (s,ns,((i+1:Nat):Int),())) ?_ ?_).trans ?_
 ·intro k x hx hk;obtain⟨h1,h2⟩:=qri hx;unfold so;simp only[ltT h2,aG,aQ h1,aQ hn,aj,aI (show k<=1000000000 by omega)];cases aM x n<;>rfl
 ·have h0:aA (i:Int) (i:Int)=false:=zm om;unfold so;simp only[hc,h0,aD,aI (show i<=1000000000 by omega)]
 ·rw[xR,z5l]
theorem r7(s:Sl DD)(hL:GD s.l)(ns:Sl Tx)(hc:ns.l.length<=1000000):aH sw (s,ns,0,())=some (.inr (.inr (bif bN ns.l then 101 else bif th s.l then 102 else 0,()))):=by
 refine(kN sw (fun i=>(s,ns,i,())) ns.l hc (fun i n=>bif decide (n∈ns.l.take i) then some (.inr (.inr (101,()))) else none) (.inr (.inr (bif th s.l then 102 else 0,()))) ?_ ?_).trans ?_
 ·intro i n hx hi;unfold sw;simp only[cJ hx,aG,r2 s ns hx hi];cases decide (n∈ns.l.take i)<;>rfl
 ·unfold sw;simp only[dB,aD,r6 s hL]
 ·rw[Ns,ZF (fun n:Tx=>n) (fun i n=>decide (n∈ns.l.take i)) ns.l (fun k x _=>by simp),List.map_id'];cases bN ns.l<;>rfl
theorem r1(s:Sl DD)(ns:Sl Tx){i:Nat}{d:DD}(hn:s.l[i]?=some d)(hi:i<=1000000):aH sj (s,ns,(i:Int),0,())=some (bif decide (d.1∈(s.l.take i).map fun d=>d.1) then .inr (.inr (101,())) else .inl (s,ns,((i+1:Nat):Int),())):=by
 have hc:(s.l.take i).length=i:=by rw[zO];have:=fh hn;omega
 refine(kN sj (fun k=>(s,ns,(i:Int),k,())) (s.l.take i) om (fun _ x=>bif aM x.1 d.1 then some (.inr (.inr (101,()))) else none) (.inl (s,ns,((i+1:Nat):Int),())) ?_ ?_).trans ?_
 ·intro k x hx hk;obtain⟨h1,h2⟩:=qri hx;unfold sj;simp only[ltT h2,aG,aQ h1,aQ hn,aj,aI (show k<=1000000000 by omega)];cases aM x.1 d.1<;>rfl
 ·have h0:aA (i:Int) (i:Int)=false:=zm om;unfold sj;simp only[hc,h0,aD,aI (show i<=1000000000 by omega)]
 ·rw[xR,qrd]
theorem r8(s:Sl DD)(hL:GD s.l)(ns:Sl Tx)(hc:ns.l.length<=1000000):aH sx (s,ns,0,())=some (.inr (bif bN (s.l.map fun d=>d.1) then 101 else bif bN ns.l then 101 else bif th s.l then 102 else 0,())):=by
 refine(kN sx (fun i=>(s,ns,i,())) s.l (by have:=hL.1;omega) (fun i d=>bif decide (d.1∈(s.l.take i).map fun d=>d.1) then some (.inr (101,())) else none) (.inr (bif bN ns.l then 101 else bif th s.l then 102 else 0,())) ?_ ?_).trans ?_
 ·intro i d hx hi;unfold sx;simp only[cJ hx,aG,r1 s ns hx hi];cases decide (d.1∈(s.l.take i).map fun d=>d.1)<;>rfl
 ·unfold sx;simp only[dB,aD,r7 s hL ns hc]
 ·rw[Ns,ZF (fun d:DD=>d.1) (fun i d=>decide (d.1∈(s.l.take i).map fun d=>d.1)) s.l (fun k x _=>rfl)];cases bN (s.l.map fun d=>d.1)<;>rfl
theorem qy9(a:List DD)(d:DD):l7 (a++[d])=l7 a++d.2.2.l.map fun c=>c.1:=by unfold l7;rw[List.flatMap_append];simp
theorem ZH(L:List DD)(hg:∀d,d∈L->gD d):(l7 L).length<=L.length*1000:=by
 induction L with
 |nil=>exact Nat.zero_le _
 |cons d r ih=>have:=ih fun x hx=>hg x (zg _ hx);have h2:=(hg d (zf ..)).2.1;show((d.2.2.l.map fun c=>c.1)++l7 r).length<=(r.length+1)*1000;rw[zt,zA];omega
theorem qp3(s:Sl DD)(hL:GD s.l):∃b,D4 (s,())=some (⟨b,l7 s.l⟩,()):=by
 have hl:=ZH s.l hL.2;have hg:=hL.1;rw[Ws];have e:=tf vL (fun k a=>(s,k,a,())) s.l (fun(a:Sl Tx) d=>(⟨a.nil&&d.2.2.l.isEmpty,a.l++d.2.2.l.map fun c=>c.1⟩:Sl Tx)) (fun a=>(a,())) (fun k a=>k<=s.l.length/\a.l=l7 (s.l.take k)) ⟨false,[]⟩ ⟨Nat.zero_le _,rfl⟩ ?_ ?_
 ·refine⟨(s.l.foldl (fun(a:Sl Tx) d=>(⟨a.nil&&d.2.2.l.isEmpty,a.l++d.2.2.l.map fun c=>c.1⟩:Sl Tx)) ⟨false,[]⟩).nil,e.trans ?_⟩;have:∀(l:List DD) (a:Sl Tx),(l.foldl (fun(a:Sl Tx) d=>(⟨a.nil&&d.2.2.l.isEmpty,a.l++d.2.2.l.map fun c=>c.1⟩:Sl Tx)) a).l=a.l++l7 l:=by
   intro l
   induction l with
   |nil=>intro a;simp[l7]
   |cons d r ih=>intro a;rw[List.foldl_cons,ih];simp[l7]
  rw[<-show _=l7 s.l from(this s.l ⟨false,[]⟩).trans (List.nil_append _)]
 ·intro i d a hd hi;obtain⟨nb,al⟩:=a;have hj:al=l7 (s.l.take i):=hi.2;have hm:=fh hd;obtain⟨g1,g2,g3⟩:=hL.2 d (zj hd);have ho:al.length<=1000000:=by have:=ZH (s.l.take i) fun d h=>hL.2 d (List.mem_of_mem_take h);rw[zO] at this;rw[hj];omega
  have e2:=tf vK (fun k a=>(s,(i:Int),k,a,())) d.2.2.l (fun(a:Sl Tx) c=>(⟨false,a.l++[c.1]⟩:Sl Tx)) (fun a=>.inl (s,((i+1:Nat):Int),a,())) (fun k a=>k<=d.2.2.l.length/\a.l.length=al.length+k) ⟨nb,al⟩ ⟨Nat.zero_le _,rfl⟩
   (fun k c a hc hk=>by obtain⟨Zo,a2⟩:=a;have h2:a2.length=al.length+k:=hk.2;have hn:=fh hc;have he:fit (aT (aa a2) (aa [c.1]))=some ():=iA (by show a2.length+1<=_;omega);refine⟨?_,hn,by show(a2++[c.1]).length=_;rw[zt,h2];rfl⟩;unfold vK;simp only[aQ hd,aj,cJ hc,aG,aQ hc,he,uN,aI (show k<=1000000000 by omega)];rfl)
   (fun a _=>by unfold vK;simp only[aQ hd,aj,dB,aD,aI (show i<=1000000000 by omega)])
  have hf:∀(l:List CT) (a:Sl Tx),l.foldl (fun(a:Sl Tx) c=>(⟨false,a.l++[c.1]⟩:Sl Tx)) a=⟨a.nil&&l.isEmpty,a.l++l.map fun c=>c.1⟩:=by
   intro l
   induction l with
   |nil=>intro a;simp
   |cons c r ih=>intro a;rw[List.foldl_cons,ih];simp
  rw[hf] at e2;refine⟨?_,hm,?_⟩
  ·unfold vL;simp only[cJ hd,aG];exact e2
  ·show al++_=_;rw[List.take_add_one,hd,hj];exact(qy9 _ _).symm
 ·intro a _;unfold vL;simp only[dB,aD]
theorem qmt(s:Sl DD)(hL:GD s.l):D6 (s,())=some (Cj s.l,()):=by
 obtain⟨nb,hn⟩:=qp3 s hL;have he:=ZH s.l hL.2;have hc:=hL.1;have e:aH sy (s,0,())=some (bif s.l.all iU then(bif bN (s.l.map fun d=>d.1) then 101 else bif bN (l7 s.l) then 101 else bif th s.l then 102 else 0) else 100,()):=by
  refine(kN sy (fun i=>(s,i,())) s.l om (fun _ d=>bif iU d then none else some (100,())) (bif bN (s.l.map fun d=>d.1) then 101 else bif bN (l7 s.l) then 101 else bif th s.l then 102 else 0,()) ?_ ?_).trans ?_
  ·intro i d hx hi;unfold sy;simp only[cJ hx,aG,aQ hx,aj,z1r d (hL.2 d (zj hx)),aI (show i<=1000000000 by omega)];cases iU d<;>rfl
  ·unfold sy;simp only[dB,aD,hn,aj,r8 s hL ⟨nb,l7 s.l⟩ (by show(l7 s.l).length<=_;omega)]
  ·rw[FK];cases s.l.all iU<;>rfl
 rw[Wu,e,z7e];unfold Cj;cases decide (s.l.length<=60)<;>cases s.l.all iU<;>cases bN (s.l.map fun d=>d.1)<;>cases bN (l7 s.l)<;>rfl
def F.trees:F->List (List ND)
 |.nil=>[]
 |.cons k t n ks r=>(tr k t n ks).flat::r.trees
def F.iB:Nat->F->List (Int×List ND)
 |_,.nil=>[]
 |q,.cons k t n ks r=>((q:Int),(tr k t n ks).flat)::r.iB (q+1+ks.size)
theorem F.dD:∀(f:F) (q:Nat),(f.iB q).map (fun e=>e.1)=f.pos q
 |.nil,_=>rfl
 |.cons _ _ _ ks r,q=>by show(q:Int)::_=(q:Int)::_;rw[F.dD r]
theorem F.dE:∀(f:F) (q:Nat),(f.iB q).map (fun e=>e.2)=f.trees
 |.nil,_=>rfl
 |.cons k t n ks r,q=>by show(tr k t n ks).flat::_=(tr k t n ks).flat::_;rw[F.dE r]
theorem F.eG:∀f:F,f.trees.length=f.aq
 |.nil=>rfl
 |.cons k t n ks r=>by show r.trees.length+1=_;rw[F.eG r];rfl
theorem F.dF:∀f:F,f.trees.flatten=f.flat
 |.nil=>rfl
 |.cons k t n ks r=>by show(tr k t n ks).flat++r.trees.flatten=_;rw[F.dF r,qg];rfl
theorem kO(k:Int)(t:Tx)(n:Int)(ks:F):(tr k t n ks).flat.length=ks.size+1:=by rw[F.len];rfl
structure z7f (l:List ND) (e:Int×List ND):Prop where
 pos:0<=e.1
 ends:∀b,fL (⟨b,l⟩,e.1,())=some (e.1+(e.2.length:Int),())
 Nu:∀b,qd (⟨b,l⟩,e.1,())=some (e.1+(e.2.length:Int),())
 cut:bX l e.1 (e.1+(e.2.length:Int))=some e.2
 ZI:∃(q:Nat) (k:Int) (t:Tx) (n:Int) (ks:F),e=((q:Int),(tr k t n ks).flat)/\cg l q (tr k t n ks)
theorem Ks{l:List ND}(hl:l.length<=10000):∀(f:F) (q:Nat),cg l q f->q<=l.length->∀e,e∈f.iB q->z7f l e
 |.nil,_,_,_,_,h=>by cases h
 |.cons k t n ks r,q,hs,hq,e,h=>by
  rcases zu.1 h with h|h
  ·subst h;have he:=hs.ends;have hn:=hs.node;have hf:=kO k t n ks;have hz:(q:Int)+((tr k t n ks).flat.length:Int)=((q+1+ks.size:Nat):Int):=by rw[hf];omega
   refine⟨by show(0:Int)<=(q:Int);omega,fun b=>?_,fun b=>?_,?_,⟨q,k,t,n,ks,rfl,hs.first⟩⟩
   ·show fL (⟨b,l⟩,(q:Int),())=_;rw[Kk b l hl q,he,hz]
   ·show qd (⟨b,l⟩,(q:Int),())=_;rw[Qq b l hl q,he,hz]
   ·show bX l (q:Int) ((q:Int)+((tr k t n ks).flat.length:Int))=some (tr k t n ks).flat
    have hc:=hs.first.qj;have hg:(tr k t n ks).size=ks.size+1:=rfl;rw[hz];unfold bX;rw[if_pos ⟨by omega,by omega,by have:=hn.2.2.2;omega⟩];rw[hg] at hc;rw[Int.toNat_natCast,Int.toNat_natCast,List.drop_take,show q+1+ks.size-q=ks.size+1 by omega];exact congrArg some hc
  ·exact Ks hl r _ hs.node.2.2.1 (by have:=hs.node.2.2.2;omega) e h
theorem Qz{α β:Type}(h:α->β)(l:List α):∀a:Sl β,l.foldl (fun(a:Sl β) e=>(⟨false,a.l++[h e]⟩:Sl β)) a=⟨a.nil&&l.isEmpty,a.l++l.map h⟩:=by
 induction l with
 |nil=>intro a;simp
 |cons x r ih=>intro a;rw[List.foldl_cons,ih];simp
theorem getM{α β:Type}{l:List α}{f:α->β}{k:Nat}{e:α}(h:l[k]?=some e):(l.map f)[k]?=some (f e):=by rw[zU,h];rfl
theorem Nv(b:Bool)(k:Int)(t:Tx)(n:Int)(ks:F)(hl:ks.size+1<=10000):∃nb,fU (⟨b,(tr k t n ks).flat⟩,())=some (⟨nb,ks.trees.map fun l=>(⟨b,l⟩:SN)⟩,()):=by
 have hf:(tr k t n ks).flat.length<=10000:=by rw[kO];exact hl
 have hs:=Cf k t n ks;obtain⟨nb,hk⟩:=Qr b _ hf hs;have hj:=Ks hf ks 1 hs.node.2.1 (by rw[kO];omega);have hc:(ks.iB 1).length=ks.aq:=by rw[<-F.dG ks 1,<-F.dD,zA]
 have hm:=F.cq ks;have e:=tf vw (fun i a=>(⟨b,(tr k t n ks).flat⟩,⟨nb,ks.pos (0+1)⟩,aa (ks.pos (0+1)),i,a,())) (ks.iB 1) (fun(a:Sl SN) e=>(⟨false,a.l++[⟨b,e.2⟩]⟩:Sl SN)) (fun a=>(a,())) (fun i a=>i<=ks.aq/\a.l.length=i) ⟨true,[]⟩ ⟨Nat.zero_le _,rfl⟩
  (fun i e a hx hi=>by
   obtain⟨na,al⟩:=a;have h2:al.length=i:=hi.2;have hp:(ks.pos (0+1))[i]?=some e.1:=by rw[<-F.dD];exact getM hx
   have hg:=hj e (zj hx);have ho:=fh hx;have he:fit (aT (aa al) (aa [(⟨b,e.2⟩:SN)]))=some ():=iA (by show al.length+1<=_;omega);refine⟨?_,by omega,by show(al++[_]).length=_;rw[zt,h2];rfl⟩;unfold vw;simp only[cJ hp,aG,aQ hp,aj,hg.ends b,hg.cut,he,uN,aI (show i<=1000000000 by omega)];rfl)
  (fun a _=>by
   have hn:(ks.iB 1).length=(ks.pos (0+1)).length:=by rw[hc,F.dG]
   unfold vw;simp only[hn,dB,aD])
 rw[Qz] at e;refine⟨true&&(ks.iB 1).isEmpty,?_⟩;rw[Vw];refine(EG hk _).trans (e.trans ?_);rw[<-F.dE ks 1,zY];rfl
def oh(Ts:List (List ND))(x:ND):List ND:=bif af x.1 31 then(if 0<=x.2.2.1 then(Ts[x.2.2.1.toNat]?).getD [x] else [x]) else [x]
def vY(Ts:List (List ND))(a:List ND):List ND:=a.flatMap (oh Ts)
def bl(b:Bool):Nat->List (List ND)->List (Int×SN)
 |_,[]=>[]
 |i,T::r=>((i:Int),⟨b,T⟩)::bl b (i+1) r
theorem ZJ(b:Bool):∀(Ts:List (List ND)) (i j:Nat),(bl b i Ts)[j]?=(Ts[j]?).map fun T=>(((i+j:Nat):Int),(⟨b,T⟩:SN))
 |[],_,_=>rfl
 |T::r,i,0=>rfl
 |T::r,i,j+1=>by show(bl b (i+1) r)[j]?=(r[j]?).map _;rw[ZJ b r,show i+1+j=i+(j+1) by omega]
theorem Nw(b:Bool):∀(Ts:List (List ND)) (i:Nat),(bl b i Ts).length=Ts.length
 |[],_=>rfl
 |_::r,i=>by show(bl b (i+1) r).length+1=_;rw[Nw b r];rfl
theorem z3h(b:Bool)(v:Int):∀(Ts:List (List ND)) (i k:Nat),fe (fun x:Int×SN=>af x.1 v) k (bl b i Ts)=if(i:Int)<=v/\v<(i:Int)+Ts.length then(k:Int)+(v-i) else -1
 |[],i,k=>by rw[if_neg (by simp only[List.length_nil];omega)];rfl
 |T::r,i,k=>by
  show(bif af (i:Int) v then(k:Int) else fe _ (k+1) (bl b (i+1) r))=_;rw[z3h b v r (i+1) (k+1)];by_cases h:(i:Int)=v
  ·rw[h,xL,cond_true,if_pos ⟨by omega,by rw[zw];omega⟩];omega
  ·rw[jW h,cond_false];by_cases h2:((i+1:Nat):Int)<=v/\v<((i+1:Nat):Int)+r.length
   ·rw[if_pos h2,if_pos ⟨by omega,by rw[zw];omega⟩];omega
   ·rw[if_neg h2,if_neg (by rw[zw];omega)]
theorem ZK(nb b:Bool)(Ts:List (List ND))(hT:Ts.length<=1000000)(x:ND):uw (⟨nb,bl b 0 Ts⟩,x,())=some (if 0<=x.2.2.1/\x.2.2.1<Ts.length then x.2.2.1 else -1,()):=by
 obtain⟨a,t,n,c⟩:=x;rw[VC];refine(pE vB (fun k=>(⟨nb,bl b 0 Ts⟩,(a,t,n,c),aa (bl b 0 Ts),k,())) (fun z=>(z,())) (bl b 0 Ts) (by rw[Nw];exact hT) (fun x=>af x.1 n) ?_ ?_).trans ?_
 ·intro k x hx hk;obtain⟨v,s⟩:=x;unfold vB;simp only[cJ hx,aG,aQ hx,aj,VB,aI (show k<=1000000000 by omega)];cases af v n<;>rfl
 ·unfold vB;simp only[dB,aD]
 ·rw[z3h];have:((0:Nat):Int)+(Ts.length:Int)=(Ts.length:Int):=om
  simp only[Int.natCast_zero,Int.zero_add,Int.sub_zero]<;>rfl
def iV(Ts:List (List ND))(a:Sl ND)(x:ND):Sl ND:=⟨aR a.nil (dI (oh Ts x)),a.l++oh Ts x⟩
theorem z7g(Ts:List (List ND))(l:List ND):∀a:Sl ND,(l.foldl (iV Ts) a).l=a.l++vY Ts l:=by
 induction l with
 |nil=>intro a;simp[vY]
 |cons x r ih=>intro a;rw[List.foldl_cons,ih];simp[iV,vY]
theorem qmv(Ts:List (List ND))(hT:∀T,T∈Ts->T.length<=4000)(x:ND):(oh Ts x).length<=4000:=by
 unfold oh;cases af x.1 31 with
 |false=>show 1<=_;omega
 |true=>
  rw[cond_true];split
  ·cases h:Ts[x.2.2.1.toNat]? with
   |none=>show 1<=_;omega
   |some T=>exact hT T (zj h)
  ·show 1<=_;omega
theorem ZL(Ts:List (List ND))(x:ND)(h:af x.1 31=true):oh Ts x=if 0<=x.2.2.1/\x.2.2.1<Ts.length then(Ts[x.2.2.1.toNat]?).getD [x] else [x]:=by
 unfold oh;rw[h,cond_true];by_cases h0:0<=x.2.2.1
 ·rw[if_pos h0];by_cases h1:x.2.2.1<Ts.length
  ·rw[if_pos ⟨h0,h1⟩]
  ·rw[if_neg (fun h=>h1 h.2),jf om];rfl
 ·rw[if_neg h0,if_neg (fun h=>h0 h.1)]
theorem qtz(nb b b2:Bool)(Ts:List (List ND))(hT:Ts.length<=10000)(hj:∀T,T∈Ts->T.length<=4000)(a:List ND)(ha:a.length<=10000):ux (⟨nb,bl b 0 Ts⟩,⟨b2,a⟩,())=some (a.foldl (iV Ts) ⟨true,[]⟩,()):=by
 rw[VD];refine tf vC (fun k s=>(⟨nb,bl b 0 Ts⟩,⟨b2,a⟩,aa a,k,s,())) a (iV Ts) (fun s=>(s,())) (fun k s=>k<=a.length/\s.l.length<=k*4000) ⟨true,[]⟩ ⟨Nat.zero_le _,Nat.le_refl _⟩ ?_ ?_
 ·intro k x s hx hi;obtain⟨ns,sl⟩:=s;have h2:sl.length<=k*4000:=hi.2;have hk:=fh hx;have ho:=ZK nb b Ts om x;have hq:=qmv Ts hj x;have hc:=aI (show k<=1000000000 by omega);have hl:∀m:List ND,m.length<=4000->fit (aT (aa sl) (aa m))=some ():=fun m hm=>Tu (by show(sl.length:Int)+(m.length:Int)<=_;omega);refine⟨?_,hk,by show(sl++oh Ts x).length<=_;rw[zt];omega⟩;have hs:=hl [x] (by show 1<=_;omega);obtain⟨kd,t,n,c⟩:=x;unfold vC;simp only[cJ hx,aG,aQ hx,aj,ho,hs];cases hn:af kd 31 with
  |false=>
   have hv:oh Ts (kd,t,n,c)=[(kd,t,n,c)]:=by unfold oh;simp only[hn,cond_false]
   unfold iV;rw[hv];simp only[nF,aG,aj,hc];rfl
  |true=>
   have hv:=ZL Ts (kd,t,n,c) hn;by_cases he:0<=n/\n<(Ts.length:Int)
   ·rw[if_pos he] at hv;have hf:aA n 0=false:=zm om;obtain⟨T,hg⟩:∃T,Ts[n.toNat]?=some T:=⟨_,ze om⟩;have hb:aE (bl b 0 Ts) n=some (n,⟨b,T⟩):=by
     have h5:(bl b 0 Ts)[n.toNat]?=some (n,⟨b,T⟩):=by rw[ZJ,hg];show some (((0+n.toNat:Nat):Int),_)=_;rw[show((0+n.toNat:Nat):Int)=n by omega]
     have:=aQ h5;rw[Int.toNat_of_nonneg he.1] at this;exact this
    rw[hg] at hv;have hv:oh Ts (kd,t,n,c)=T:=hv;have ht:=hl T (hj T (zj hg));unfold iV;rw[hv,if_pos he];simp only[nT,aD,aj,hf,hb,ht,hc];rfl
   ·rw[if_neg he] at hv;have hf:aA (-1) 0=true:=id (Eq.refl _);unfold iV;rw[hv,if_neg he];simp only[nT,aD,aG,aj,hf,hc];rfl
 ·intro s _;unfold vC;simp only[dB,aD]
theorem z5m(nb b b2:Bool)(Ts:List (List ND))(hT:Ts.length<=10000)(hy:∀T,T∈Ts->T.length<=4000)(a:List ND)(i:Nat)(hi:i<=1000000)(x:ND)(hx:a[i]?=some x)(s:Sl ND)(hs:s.l.length<=40000000):∀(k:Nat) (z:Int),k<=Ts.length->(z=-1\/(af x.1 31=true/\z=x.2.2.1/\(k:Int)<=z/\z<Ts.length))->(af x.1 31=true->(Ts.length:Int)>x.2.2.1->(k:Int)<=x.2.2.1->z=x.2.2.1)->aH lX (⟨nb,bl b 0 Ts⟩,⟨b2,a⟩,(i:Int),z,(k:Int)-1,s,())=some (.inl (⟨nb,bl b 0 Ts⟩,⟨b2,a⟩,((i+1:Nat):Int),iV Ts s x,())):=by
 have hg:=aI (show i<=1000000000 by omega);have hn:=aQ hx;have ht:∀m:List ND,m.length<=4000->fit (aT (aa s.l) (aa m))=some ():=fun m hm=>Tu (by show(s.l.length:Int)+(m.length:Int)<=_;omega);have hA:=ht [x] (by show 1<=_;omega);have hu:∀j:Nat,(hj:j<Ts.length)->aE (bl b 0 Ts) (j:Int)=some ((j:Int),⟨b,Ts[j]⟩):=fun j hj=>aQ (by rw[ZJ,ze hj,zN];rfl)
 have fin:∀(z:Int) (k':Int),(ak (bf 0 k') (ag (aE a (i:Int)) (fun x2=>some (af x2.1 31))) (some false):Option Bool)=some false->(z=-1/\(af x.1 31=true->¬(0<=x.2.2.1/\x.2.2.1<Ts.length))\/(af x.1 31=true/\z=x.2.2.1/\0<=z/\z<Ts.length))->
   lX (⟨nb,bl b 0 Ts⟩,⟨b2,a⟩,(i:Int),z,k',s,())=some (.inr (.inl (⟨nb,bl b 0 Ts⟩,⟨b2,a⟩,((i+1:Nat):Int),iV Ts s x,()))):=by
  intro z k' hc hz;unfold lX;simp only[hc,aj,aD];rcases hz with ⟨h1,h2⟩|⟨h1,h2,h3,h4⟩
  ·have ho:aA z 0=true:=zn om;have hv:oh Ts x=[x]:=by
    cases hf:af x.1 31 with
    |false=>unfold oh;rw[hf];rfl
    |true=>rw[ZL Ts x hf,if_neg (h2 hf)]
   unfold iV;rw[hv];simp only[ho,aG,hn,aj,hA,hg];rfl
  ·have ho:aA z 0=false:=zm om;have hj:z.toNat<Ts.length:=om
   have hb:=hu z.toNat hj;rw[Int.toNat_of_nonneg h3] at hb;have hv:oh Ts x=Ts[z.toNat]:=by rw[ZL Ts x h1,if_pos ⟨by omega,by omega⟩,<-h2,ze hj];rfl
   have hB:=ht Ts[z.toNat] (hy _ (List.getElem_mem hj));unfold iV;rw[hv];simp only[ho,aD,hb,aj,hB,hg];rfl
 intro k
 induction k with
 |zero=>
  intro z _ hz hq;refine dO (fin z _ rfl ?_);rcases hz with h|⟨h1,h2,h3,h4⟩
  ·refine .inl ⟨h,fun hf hC=>?_⟩;have:=hq hf hC.2 om;omega
  ·exact .inr ⟨h1,h2,by omega,h4⟩
 |succ k ih=>
  intro z hk hz hq;have h0:bf 0 (((k+1:Nat):Int)-1)=true:=zn om;cases hf:af x.1 31 with
  |false=>
   refine dO (fin z _ ?_ ?_)
   ·rw[h0,aG,hn,aj,hf]
   ·rcases hz with h|⟨h1,_⟩
    ·exact .inl ⟨h,fun e=>by rw[hf] at e;cases e⟩
    ·rw[hf] at h1;cases h1
  |true=>
   have hb:=hu k om;have hE:((k+1:Nat):Int)-1=(k:Int):=om
   have hl:cu .i64 (k:Int) 1=(k:Int)-1:=qu om om;have hw:bf 0 (k:Int)=true:=zn om;rw[hE];by_cases he:(k:Int)=x.2.2.1
   ·have step:lX (⟨nb,bl b 0 Ts⟩,⟨b2,a⟩,(i:Int),z,(k:Int),s,())=some (.inl (⟨nb,bl b 0 Ts⟩,⟨b2,a⟩,(i:Int),(k:Int),(k:Int)-1,s,())):=by unfold lX;simp only[hw,aG,hn,aj,hf,hb];rw[<-he,xL];simp only[aG,aj,hl]
    rw[fE step];exact ih (k:Int) om (.inr ⟨hf,he,Int.le_refl _,by omega⟩) (fun _ _ _=>he)
   ·have step:lX (⟨nb,bl b 0 Ts⟩,⟨b2,a⟩,(i:Int),z,(k:Int),s,())=some (.inl (⟨nb,bl b 0 Ts⟩,⟨b2,a⟩,(i:Int),z,(k:Int)-1,s,())):=by unfold lX;simp only[hw,aG,hn,aj,hf,hb,jW he,aD,hl]
    rw[fE step];refine ih z om ?_ (fun e1 e2 e3=>hq e1 e2 om);rcases hz with h|⟨h1,h2,h3,h4⟩
    ·exact .inl h
    ·exact .inr ⟨h1,h2,by omega,h4⟩
theorem qp4(nb b b2:Bool)(Ts:List (List ND))(hT:Ts.length<=10000)(he:∀T,T∈Ts->T.length<=4000)(a:List ND)(ha:a.length<=10000):xg (⟨nb,bl b 0 Ts⟩,⟨b2,a⟩,())=some (a.foldl (iV Ts) ⟨false,[]⟩,()):=by
 rw[WH];refine tf vN (fun k s=>(⟨nb,bl b 0 Ts⟩,⟨b2,a⟩,k,s,())) a (iV Ts) (fun s=>(s,())) (fun k s=>k<=a.length/\s.l.length<=k*4000) ⟨false,[]⟩ ⟨Nat.zero_le _,Nat.le_refl _⟩ ?_ ?_
 ·intro k x s hx hi;obtain⟨ns,sl⟩:=s;have h2:sl.length<=k*4000:=hi.2;have hk:=fh hx;have hf:=qmv Ts he x;refine⟨?_,hk,by show(sl++oh Ts x).length<=_;rw[zt];omega⟩;have hg:aa (bl b 0 Ts)=(Ts.length:Int):=by unfold aa;rw[Nw]
  have hc:cu .i64 (aa (bl b 0 Ts)) 1=(Ts.length:Int)-1:=by rw[hg];exact qu om om
  unfold vN;simp only[cJ hx,aG,hc];exact z5m nb b b2 Ts hT he a k om x hx ⟨ns,sl⟩ (by show sl.length<=_;omega) Ts.length (-1) (Nat.le_refl _) (.inl rfl) (fun _ e1 e2=>by omega)
 ·intro s _;unfold vN;simp only[dB,aD]
end Fn
end Ev