/- The functions of this seat as data: loops, equations. -/
import Derived.Test.YtdgmbemagoakjaaGreatDoorFnA
import Derived.KernelRfl
namespace Ev
open Go
namespace Fn
noncomputable section
open Prod
set_option linter.defProp false
def aG{α:Type}(x:α){y:α}(h:x=y):x=y:=h
def aak a0:=aG (qG (a0,())) (by dsimp only[qG,Cm,lf,Lf.y,SZ])
def aal a0:=aG (qH (a0,())) (by dsimp only[qH,Cn,lf,Lf.y,SZ])
def aam a0:=aG (qI (a0,())) (by dsimp only[qI,Co,lf,Lf.y,SZ])
def aan a0:=aG (qJ (a0,())) (by dsimp only[qJ,Cp,lf,Lf.r,SZ])
noncomputable abbrev tC:=XZ lf qJ
def qp0 x:=aG (tC x) (by dsimp only[tC,XZ,lf,s2,d2,IZ,JZ,Lf.r,SZ])
def aao a0:wc ((a0,()))=aD tC (a0,a0,0,()):=by kernel_rfl
noncomputable abbrev nI:=X0 lf
def qdw x:=aG (nI x) (by dsimp only[nI,X0,lf,s3,d2,d3,IZ,JZ,SZ])
def Uj a0 a1:Ak ((a0,a1,()))=aD nI (a0,a1,ae a0.l,0,()):=by kernel_rfl
def Uk a0 a1:=aG (nx (a0,a1,())) (by dsimp only[nx,Cq,lf,SZ])
def aap a0:=aG (oU (a0,())) (by dsimp only[oU,Cs,lf,SZ])
def aaq a0 a1 a2 a3:=aG (we ((a0,a1,a2,a3),())) (by dsimp only[we,Ct,lf,Lf.y,SZ])
def aar a0 a1 a2 a3:=aG (wg ((a0,a1,a2,a3),())) (by dsimp only[wg,Cu,lf,Lf.y,SZ])
def aas a0 a1:Al ((a0,a1,()))=some (qy a1 a0,()):=rfl
def aat a0:=aG (oV (a0,())) (by dsimp only[oV,Cv,lf,SZ])
noncomputable abbrev tD:=X4 lf oV
def qh6 x:=aG (tD x) (by dsimp only[tD,X4,lf,s2,d2,IZ,JZ,Lf.r,SZ])
def aau a0:Am ((a0,()))=aD tD (a0,a0,0,()):=by kernel_rfl
def aav a0:=aG (oW (a0,())) (by dsimp only[oW,Cw,lf,SZ])
def Nd a0 a1 a2 a3:=aG (j5 ((a0,a1,a2,a3),())) (by dsimp only[j5,Cy,lf,d2,Lf.r,Lf.y,SZ])
def aaw a0 a1 a2:=aG (nz ((a0,a1,a2),())) (by dsimp only[nz,Cz,lf,Lf.y,SZ])
def aax a0 a1 a2:=aG (sE ((a0,a1,a2),())) (by dsimp only[sE,CA,lf,SZ])
noncomputable abbrev pJ:=X5 lf sE
def q6g x:=aG (pJ x) (by dsimp only[pJ,X5,lf,s2,d2,IZ,JZ,SZ])
def aay a0:CB ((a0,()))=aD pJ (a0,ae a0.l,0,()):=by kernel_rfl
def aaz a0:=aG (wh (a0,())) (by dsimp only[wh,CC,lf,SZ])
def aaA a0 a1 a2 a3:=aG (sF ((a0,a1,a2),a3,())) (by dsimp only[sF,CD,lf,SZ])
noncomputable abbrev pK:=X6 lf sF
def q6h x:=aG (pK x) (by dsimp only[pK,X6,lf,s3,d2,d3,IZ,JZ,SZ])
def aaB a0 a1:CE ((a0,a1,()))=aD pK (a0,a1,ae a0.l,0,()):=by kernel_rfl
def aaC a0 a1:=aG (nA (a0,a1,())) (by dsimp only[nA,CF,lf,SZ])
noncomputable abbrev tE:=X7 lf nA
def qjh x:=aG (tE x) (by dsimp only[tE,X7,lf,s3,d2,d3,IZ,JZ,SZ])
def aaD a0:iZ ((a0,()))=az (aP (aL 400 (ae a0.l)) (some true) (az (wh (a0,())) (fun b=>some b.1))) (fun d=>aP d (some (40,())) (aD tE (a0,a0,ae a0.l,0,()))):=by kernel_rfl
def aaE a0:=aG (sG (a0,())) (by dsimp only[sG,CG,lf,SZ])
def aaF a0:=aG (oX (a0,())) (by dsimp only[oX,CH,lf,Lf.y,SZ])
def aaG a0:=aG (wi (a0,())) (by dsimp only[wi,CI,lf,SZ])
noncomputable abbrev tF:=X8 lf wi
def q6i x:=aG (tF x) (by dsimp only[tF,X8,lf,s2,d2,IZ,JZ,SZ])
def aaH a0:CJ ((a0,()))=aD tF (a0,ae a0.l,0,()):=by kernel_rfl
def aaI a0:=aG (qK (a0,())) (by dsimp only[qK,CK,lf,SZ])
def aaJ a0:=aG (sH (a0,())) (by dsimp only[sH,CL,lf,Lf.r,SZ])
noncomputable abbrev tG:=X9 lf
def Zj x:=aG (tG x) (by dsimp only[tG,X9,lf,d2,IZ,JZ,Lf.r,SZ])
def aaK a0 a1:kG ((a0,a1,()))=aP (aL a1 0) (some ((-1),())) (aD tG (a0,a1,1,())):=by kernel_rfl
def aaL a0:=aG (lJ (a0,())) (by dsimp only[lJ,CM,lf,Lf.y,SZ])
noncomputable abbrev nJ:=Ya lf
def qdf x:=aG (nJ x) (by dsimp only[nJ,Ya,lf,s3,s4,d3,d4,IZ,JZ,Lf.y,SZ])
noncomputable abbrev kO:=Yb lf nJ
def qdg x:=aG (kO x) (by dsimp only[kO,Yb,lf,s0,s4,d2,d3,d4,JZ,Lf.v,Lf.w,Lf.z,SZ])
def aaM a0:wj ((a0,()))=az (lJ (a0,())) (fun b=>aP (ar b.1) (some (0,())) (aD kO (0,a0,ae a0.l,0,⟨true,([]:Y1)⟩,()))):=by kernel_rfl
def aaN a0:=aG (qL (a0,())) (by dsimp only[qL,CN,lf,Lf.y,SZ])
def aaO a0:=aG (fu (a0,())) (by dsimp only[fu,CO,lf,SZ])
def aaP a0:=aG (wk (a0,())) (by dsimp only[wk,CP,lf,Lf.y,SZ])
def aaQ a0:An ((a0,()))=some (true,()):=by kernel_rfl
def aaR a0 a1:=aG (wm (a0,a1,())) (by dsimp only[wm,CQ,lf,SZ])
def jA a0 a1 a2:=aG (wo (a0,a1,a2,())) (by dsimp only[wo,CR,lf,d2,d3,d4,d5,d6,d8,d9,Lf.r,Lf.y,SZ])
def aaS a0 a1 a2:=aG (sI (a0,a1,a2,())) (by dsimp only[sI,CS,lf,d2,SZ])
noncomputable abbrev tH(self:wb):=Yc lf self
def qme(self:wb) x:=aG (tH self x) (by dsimp only[tH,Yc,lf,s4,s6,d2,d3,d4,d5,d6,IZ,JZ,Lf.r,Lf.y,SZ])
def aaT self a0 a1 a2 a3:nB self ((a0,a1,a2,a3,()))=az (sI (a1,a2,a3,())) (fun b=>aP (ar (ag b.1 0)) (some (0,b.1,())) (az (cM a0.l a1) (fun d=>aD (tH self) (a0,a1,a2,a3,cE .i64 a1 1,d.2.2.2,0,())))):=by kernel_rfl
def aaU a0 a1:=aG (wq (a0,a1,())) (by dsimp only[wq,CV,lf,SZ])
noncomputable abbrev pL:=Yd lf
def qdh x:=aG (pL x) (by dsimp only[pL,Yd,lf,s2,s3,d2,d3,IZ,JZ,Lf.v,Lf.w,Lf.z,SZ])
def aaV a0:wu ((a0,()))=aD pL (a0,ae a0.l,0,⟨true,([]:List Y1)⟩,()):=by kernel_rfl
noncomputable abbrev pM:=Ye lf
def qat x:=aG (pM x) (by dsimp only[pM,Ye,lf,s2,d2,d3,IZ,JZ,SZ])
noncomputable abbrev tI:=Yf lf pM
def q6j x:=aG (tI x) (by dsimp only[tI,Yf,lf,IZ,JZ,SZ])
def aaW a0:wy ((a0,()))=aP (aL (ae a0.l) 2) (some (a0,())) (aD tI (1,a0,())):=by kernel_rfl
def aaX a0:=aG (wz (a0,())) (by dsimp only[wz,CW,lf,SZ])
def aaY a0 a1:=aG (sJ (a0,a1,())) (by dsimp only[sJ,CY,lf,SZ])
noncomputable abbrev lX:=Yg lf kG sJ qL
def qdi x:=aG (lX x) (by dsimp only[lX,Yg,lf,IZ,JZ,SZ])
def Ul a0 a1:qM ((a0,a1,()))=az (aP (aL 4000 (ae a0.l)) (some true) (az (lJ (a0,())) (fun b=>some (ar b.1)))) (fun d=>az (aP d (some true) (az (wj (a0,())) (fun e=>some (aL 100 e.1)))) (fun g=>aP g (some (60,())) (az (CU (a0,0,a1,a0,())) (fun h=>aP (ar (ag h.2.1 0)) (some (h.2.1,())) (aD lX (0,a0,())))))):=by kernel_rfl
def EM a0:=aG (jc (a0,())) (by dsimp only[jc,CZ,lf,SZ])
def aaZ a0 a1 a2:=aG (sK ((a0,a1,a2),())) (by dsimp only[sK,C0,lf,Lf.r,Lf.y,SZ])
def aa0 a0 a1 a2:=aG (wA ((a0,a1,a2),())) (by dsimp only[wA,C1,lf,SZ])
noncomputable abbrev tJ:=Yh lf wA
def q6k x:=aG (tJ x) (by dsimp only[tJ,Yh,lf,s2,d2,IZ,JZ,SZ])
def aa1 a0:C2 ((a0,()))=aD tJ (a0,ae a0.l,0,()):=by kernel_rfl
def aa2 a0:=aG (qN (a0,())) (by dsimp only[qN,C3,lf,SZ])
def aa3 a0:=aG (oY (a0,())) (by dsimp only[oY,C4,lf,SZ])
def aa4 a0 a1 a2 a3:=aG (wB ((a0,a1,a2,a3),())) (by dsimp only[wB,C5,lf,d2,d3,d5,Lf.r,Lf.y,SZ])
def aa5 a0 a1 a2 a3:=aG (wC ((a0,a1,a2,a3),())) (by dsimp only[wC,C6,lf,d2,SZ])
noncomputable abbrev tK:=Yi lf wC
def q5y x:=aG (tK x) (by dsimp only[tK,Yi,lf,s2,d2,IZ,JZ,SZ])
def aa6 a0:C7 ((a0,()))=aD tK (a0,ae a0.l,0,()):=by kernel_rfl
def aa7 a0:=aG (wD (a0,())) (by dsimp only[wD,C8,lf,SZ])
def aa8 a0:=aG (qO (a0,())) (by dsimp only[qO,C9,lf,Lf.r,SZ])
def aa9 a0 a1 a2 a3:=aG (wF (a0,a1,a2,a3,())) (by dsimp only[wF,Da,lf,d2,d3,SZ])
noncomputable abbrev tL:=Yj lf wF
def q5z x:=aG (tL x) (by dsimp only[tL,Yj,lf,d2,d3,d4,d5,IZ,JZ,SZ])
def aba a0 a1 a2 a3:Db ((a0,a1,a2,a3,()))=aD tL (a0,ae a0.l,0,a1,a2,a3,()):=by kernel_rfl
def abb a0 a1 a2 a3:=aG (Ao (a0,a1,a2,a3,())) (by dsimp only[Ao,Dd,lf,d2,d3,SZ])
noncomputable abbrev tM:=Yk lf
def qa8 x:=aG (tM x) (by dsimp only[tM,Yk,lf,s3,d2,d3,IZ,JZ,SZ])
def abc a0 a1:De ((a0,a1,()))=aD tM (a0,a1,ae a0.l,0,()):=by kernel_rfl
def abd a0 a1:=aG (sL (a0,a1,())) (by dsimp only[sL,Df,lf,SZ])
noncomputable abbrev tN:=Yl lf sL
def qmf x:=aG (tN x) (by dsimp only[tN,Yl,lf,s2,s3,d2,d3,IZ,JZ,Lf.v,Lf.w,Lf.y,Lf.z,SZ])
def abe a0:Ap ((a0,()))=az (qO (a0,())) (fun b=>aP (ar (ag b.1 0)) (some (⟨true,([]:Y1)⟩,())) (aD tN (a0,ae a0.l,0,⟨true,([]:Y1)⟩,()))):=by kernel_rfl
def abf a0 a1 a2 a3:=aG (Aq (a0,a1,a2,a3,())) (by dsimp only[Aq,Dg,lf,d2,d3,SZ])
def abg a0 a1 a2 a3:=aG (sM (a0,a1,a2,a3,())) (by dsimp only[sM,Dh,lf,d2,d3,SZ])
noncomputable abbrev tO:=Ym lf sM
def q60 x:=aG (tO x) (by dsimp only[tO,Ym,lf,d2,d3,d4,d5,IZ,JZ,SZ])
def abh a0 a1 a2 a3:Di ((a0,a1,a2,a3,()))=aD tO (a0,ae a0.l,0,a1,a2,a3,()):=by kernel_rfl
def abi a0 a1 a2 a3:=aG (sO (a0,a1,a2,a3,())) (by dsimp only[sO,Dj,lf,d2,d3,SZ])
noncomputable abbrev tP:=Yn lf oY sO
def qh7 x:=aG (tP x) (by dsimp only[tP,Yn,lf,s2,d2,d3,d4,d5,IZ,JZ,Lf.r,SZ])
def abj a0 a1 a2:Ar (((a0,a1,a2),()))=az (oY (a0,())) (fun b=>az (aP (ar b.1) (some true) (some (aL a1 0))) (fun d=>az (aP d (some true) (some (aL 8 a1))) (fun e=>az (aP e (some true) (some (aL (ae a2.l) 1))) (fun g=>az (aP g (some true) (some (aL 60 (ae a2.l)))) (fun h=>aP h (some (false,())) (aD tP (a2,ae a2.l,0,a0,a1,a2,()))))))):=by kernel_rfl
def abk a0 a1 a2:=aG (wG ((a0,a1,a2),())) (by dsimp only[wG,Dk,lf,SZ])
noncomputable abbrev tQ:=Yo lf wG
def q6l x:=aG (tQ x) (by dsimp only[tQ,Yo,lf,s2,d2,IZ,JZ,SZ])
def abl a0:Dl ((a0,()))=aD tQ (a0,ae a0.l,0,()):=by kernel_rfl
def abm a0:=aG (sP (a0,())) (by dsimp only[sP,Dm,lf,SZ])
def abn a0 a1 a2 a3 a4 a5:=aG (wH ((a0,a1,a2),(a3,a4,a5),())) (by dsimp only[wH,Dn,lf,SZ])
noncomputable abbrev xM:=Yp lf wH
def q6m x:=aG (xM x) (by dsimp only[xM,Yp,lf,s3,d2,d3,IZ,JZ,SZ])
def abo a0 a1 a2 a3:wJ ((a0,(a1,a2,a3),()))=aD xM (a0,(a1,a2,a3),ae a0.l,0,()):=by kernel_rfl
def abp a0 a1 a2 a3 a4 a5:=aG (wK (a0,a1,a2,a3,a4,a5,())) (by dsimp only[wK,Dp,lf,d2,d3,d4,d5,SZ])
noncomputable abbrev tR:=Yq lf wK
def qdx x:=aG (tR x) (by dsimp only[tR,Yq,lf,s0,s7,s8,s9,d2,d3,d4,d5,d6,d7,d8,d9,IZ,JZ,SZ])
noncomputable abbrev xN:=Yr lf tR
def qdy x:=aG (xN x) (by dsimp only[xN,Yr,lf,d2,d3,d4,d5,d6,JZ,SZ])
def abq a0 a1 a2 a3 a4:As ((a0,a1,a2,a3,a4,()))=aD xN (a1,a2,a0,ae a0.l,0,a3,a4,()):=by kernel_rfl
def abr a0 a1:=aG (Au (a0,a1,())) (by dsimp only[Au,Dq,lf,d2,SZ])
def abt a0 a1 a2:=aG (sQ (a0,a1,a2,())) (by dsimp only[sQ,Dr,lf,d2,Lf.r,SZ])
noncomputable abbrev xO:=Ys lf sQ
def qji x:=aG (xO x) (by dsimp only[xO,Ys,lf,s5,s6,d2,d3,d4,d5,d6,IZ,JZ,SZ])
noncomputable abbrev xP:=Yt lf xO
def qjj x:=aG (xP x) (by dsimp only[xP,Yt,lf,d2,d3,JZ,SZ])
def abu a0 a1:wL ((a0,a1,()))=aD xP (a0,ae a0.l,0,a1,()):=by kernel_rfl
def abv a0 a1 a2 a3 a4 a5 a6:=aG (wM ((a0,a1,a2),(a3,a4,a5,a6),())) (by dsimp only[wM,Dt,lf,Lf.y,SZ])
noncomputable abbrev tS:=Yu lf wM
def q6n x:=aG (tS x) (by dsimp only[tS,Yu,lf,s3,d2,d3,IZ,JZ,SZ])
def abw a0 a1 a2 a3 a4:Du ((a0,(a1,a2,a3,a4),()))=aD tS (a0,(a1,a2,a3,a4),ae a0.l,0,()):=by kernel_rfl
def abx a0 a1 a2 a3 a4:=aG (wN (a0,(a1,a2,a3,a4),())) (by dsimp only[wN,Dv,lf,SZ])
def aby a0 a1 a2 a3 a4:=aG (sR ((a0,a1,a2,a3),a4,())) (by dsimp only[sR,Dw,lf,d2,Lf.r,SZ])
noncomputable abbrev tT:=Yv lf sR
def q61 x:=aG (tT x) (by dsimp only[tT,Yv,lf,d2,d3,IZ,JZ,SZ])
def abz a0 a1:Dx ((a0,a1,()))=aD tT (a0,ae a0.l,0,a1,()):=by kernel_rfl
def abA a0 a1:=aG (Av (a0,a1,())) (by dsimp only[Av,Dy,lf,SZ])
def abB a0 a1:=aG (sS (a0,a1,())) (by dsimp only[sS,Dz,lf,SZ])
noncomputable abbrev tU:=Yw lf sS
def q62 x:=aG (tU x) (by dsimp only[tU,Yw,lf,d2,d3,IZ,JZ,SZ])
def abC a0 a1:DA ((a0,a1,()))=aD tU (a0,ae a0.l,0,a1,()):=by kernel_rfl
def abD a0 a1:=aG (Aw (a0,a1,())) (by dsimp only[Aw,DB,lf,SZ])
def abE a0 a1 a2:=aG (sT (a0,a1,a2,())) (by dsimp only[sT,DC,lf,d2,SZ])
noncomputable abbrev xQ:=Yx lf sT
def qdz x:=aG (xQ x) (by dsimp only[xQ,Yx,lf,s5,s6,d2,d3,d4,d5,d6,IZ,JZ,SZ])
noncomputable abbrev xR:=Yy lf xQ
def qe0 x:=aG (xR x) (by dsimp only[xR,Yy,lf,d2,d3,JZ,SZ])
def abF a0 a1:wO ((a0,a1,()))=aD xR (a0,ae a0.l,0,a1,()):=by kernel_rfl
noncomputable abbrev tV:=Yz lf wJ wL wO
def qh8 x:=aG (tV x) (by dsimp only[tV,Yz,lf,s2,d2,d3,IZ,JZ,SZ])
def abG a0:qP ((a0,()))=az (aP (aL 60 (ae a0.l)) (some true) (az (sP (a0,())) (fun b=>some b.1))) (fun d=>aP d (some (100,())) (aD tV (a0,ae a0.l,0,a0,()))):=by kernel_rfl
noncomputable abbrev xS:=YA lf nx
def qe1 x:=aG (xS x) (by dsimp only[xS,YA,lf,s3,d2,d3,IZ,JZ,SZ])
def abH a0:qQ ((a0,()))=aD xS (a0,a0,ae a0.l,0,()):=by kernel_rfl
noncomputable abbrev pP:=YB lf qQ
def qe2 x:=aG (pP x) (by dsimp only[pP,YB,lf,s2,s8,d2,d3,d4,d8,IZ,JZ,Lf.r,Lf.v,Lf.w,Lf.z,SZ])
def abI a0 a1 a2 a3 a4:oZ (((a0,a1,a2,a3,a4),()))=az (oX (a0,())) (fun b=>az (aP (ar b.1) (some true) (some (aL 60 (ae a1.l)))) (fun d=>az (aP d (some true) (some (aL 200 (ae a4.l)))) (fun e=>az (aP e (some true) (az (qK (a1,())) (fun g=>some g.1))) (fun h=>az (aP h (some true) (az (qN (a4,())) (fun i=>some i.1))) (fun j=>aP j (some (240,())) (az (qP (a3,())) (fun k=>az (aP (ar (ag k.1 0)) (some (ar (ag k.1 102))) (some false)) (fun m=>az (aP m (some true) (az (iZ (a2,())) (fun n=>some (ar (ag n.1 0))))) (fun o=>aP o (some (240,())) (aD pP (a4,ae a4.l,0,a0,a1,a2,a3,a4,⟨true,([]:List Y1)⟩,()))))))))))):=by kernel_rfl
def Um a0 a1 a2:=aG (gX (a0,a1,a2,())) (by dsimp only[gX,DE,lf,d2,Lf.w,SZ])
def Un a0:=aG (nC (a0,())) (by dsimp only[nC,DF,lf,Lf.w,SZ])
def abJ a0 a1 a2 a3 a4 a5:=aG (nD ((a0,a1,a2),(a3,a4,a5),())) (by dsimp only[nD,DG,lf,SZ])
noncomputable abbrev pQ:=YC lf nD
def q6o x:=aG (pQ x) (by dsimp only[pQ,YC,lf,s3,d2,d3,IZ,JZ,SZ])
def abK a0 a1 a2 a3:wP ((a0,(a1,a2,a3),()))=aD pQ (a0,(a1,a2,a3),ae a0.l,0,()):=by kernel_rfl
noncomputable abbrev tW:=YD lf nD
def q7w x:=aG (tW x) (by dsimp only[tW,YD,lf,s2,d2,d3,IZ,JZ,SZ])
def abL a0 a1 a2 a3:sU (((a0,a1,a2),a3,()))=az (wP (a3,(a0,a1,a2),())) (fun b=>aP (ag b.1 (-1)) (some (a3,())) (aD tW ((a0,a1,a2),b.1,cE .i64 b.1 1,a3,()))):=by kernel_rfl
def abM a0 a1 a2 a3:=aG (o4 (a0,(a1,a2,a3),())) (by dsimp only[o4,DH,lf,Lf.r,Lf.v,Lf.w,Lf.z,SZ])
noncomputable abbrev tX:=YE lf kG
def qjk x:=aG (tX x) (by dsimp only[tX,YE,lf,d2,d3,IZ,JZ,Lf.v,Lf.w,Lf.z,SZ])
def abN a0 a1:fM ((a0,a1,()))=az (kG (a0,a1,())) (fun b=>aP (aL b.1 0) (some (⟨true,([]:Y1)⟩,())) (az (cM a0.l a1) (fun d=>aD tX (a0,cE .i64 a1 1,d.2.2.2,⟨true,([]:Y1)⟩,())))):=by kernel_rfl
noncomputable abbrev tY(self:oS):=YF lf self
def qe3(self:oS) x:=aG (tY self x) (by dsimp only[tY,YF,lf,s3,s6,d2,d3,d4,d5,d6,IZ,JZ,Lf.w,Lf.y,SZ])
def abO self a0 a1 a2 a3:wQ self ((a0,a1,a2,a3,()))=az (cM a0.l a1) (fun b=>aP (ag b.1 31) (some (([dV .u8 (cE .i64 97 b.2.2.1)]:Y1),())) (az (fM (a0,a1,())) (fun d=>aP (bM b.2.1 ([45,62]:Y1)) (az (cM d.1.l 0) (fun e=>az (self (a0,e,false,true,())) (fun g=>az (fit (bS (ae g.1) (ae ([32,45,62,32]:Y1)))) (fun _=>az (cM d.1.l 1) (fun h=>az (self (a0,h,false,false,())) (fun i=>az (fit (bS (ae (cw g.1 ([32,45,62,32]:Y1))) (ae i.1))) (fun _=>az (aP a2 (some true) (some a3)) (fun j=>aP j (az (fit (bS (ae ([40]:Y1)) (ae (cw (cw g.1 ([32,45,62,32]:Y1)) i.1)))) (fun _=>az (fit (bS (ae (cw ([40]:Y1) (cw (cw g.1 ([32,45,62,32]:Y1)) i.1))) (ae ([41]:Y1)))) (fun _=>some (cw (cw ([40]:Y1) (cw (cw g.1 ([32,45,62,32]:Y1)) i.1)) ([41]:Y1),())))) (some (cw (cw g.1 ([32,45,62,32]:Y1)) i.1,())))))))))) (aD (tY self) (a0,a2,d.1,b.2.1,d.1,ae d.1.l,0,()))))):=by kernel_rfl
noncomputable abbrev tZ:=YG lf sV
def qa9 x:=aG (tZ x) (by dsimp only[tZ,YG,lf,d2,d3,d4,d5,d6,IZ,JZ,Lf.w,SZ])
noncomputable abbrev ua:=YH lf tZ
def qaa x:=aG (ua x) (by dsimp only[ua,YH,lf,s0,d2,d3,d5,JZ,Lf.w,SZ])
noncomputable abbrev ub:=YI lf ua
def qab x:=aG (ub x) (by dsimp only[ub,YI,lf,s0,s2,d2,d5,IZ,Lf.w,SZ])
def abP a0 a1 a2:qR (((a0,a1,a2),()))=az (fit (bS (ae ([116,121,112,101,32]:Y1)) (ae a0))) (fun _=>aD ub (cw ([116,121,112,101,32]:Y1) a0,a1,0,a0,a1,a2,())):=by kernel_rfl
def qjl self a0 a1 a2 a3:=aG (K5 self (a0,a1,a2,a3,())) (by dsimp only[K5,Tb,lf,d2,d3,SZ])
noncomputable abbrev uc:=YJ lf
def qjm x:=aG (uc x) (by dsimp only[uc,YJ,lf,d2,d3,IZ,JZ,Lf.w,SZ])
def abQ a0 a1 a2 a3 a4:jf (((a0,a1,a2,a3),a4,()))=aD uc (a4,ae a4.l,0,⟨false,([(a0,a1,a2,ae a4.l)]:List Y0)⟩,()):=by kernel_rfl
def abR a0:=aG (Ay (a0,())) (by dsimp only[Ay,DI,lf,SZ])
def abS a0:=aG (gY (a0,())) (by dsimp only[gY,DJ,lf,SZ])
def abT a0:=aG (mG (a0,())) (by dsimp only[mG,DM,lf,SZ])
def q8s(a0:Int)(a1:Bool)(a2:Sl Int)(c:oL->OZ oL):wR lf c ((a0,a1,a2,()))=az (c (a1,a2,())) (fun b=>az (fit (bS (ae b.2.1.l) (ae ([a0]:Y1)))) (fun _=>some (b.1,⟨bP b.2.1.nil (eX ([a0]:Y1)),app b.2.1.l ([a0]:Y1)⟩,()))):=by kernel_rfl
def abU a0 a1 a2:wS ((a0,a1,a2,()))=az (o3 (a1,a2,())) (fun b=>az (fit (bS (ae b.2.1.l) (ae ([a0]:Y1)))) (fun _=>some (b.1,⟨bP b.2.1.nil (eX ([a0]:Y1)),app b.2.1.l ([a0]:Y1)⟩,()))):=q8s a0 a1 a2 o3
noncomputable abbrev ud:=YK lf gX qS wS
def qjn x:=aG (ud x) (by dsimp only[ud,YK,lf,s2,d2,d3,d4,d5,d6,d7,IZ,JZ,Lf.r,Lf.w,SZ])
def abV a0:wT ((a0,()))=az (wS (34,false,⟨true,([]:Y1)⟩,())) (fun b=>aD ud (a0,ae a0,0,b.1,b.2.1,())):=by kernel_rfl
def abW a0:=aG (mH (a0,())) (by dsimp only[mH,DN,lf,Lf.w,SZ])
def abX a0:=aG (Az (a0,())) (by dsimp only[Az,DO,lf,SZ])
def abY a0:=aG (o5 (a0,())) (by dsimp only[o5,DP,lf,SZ])
def abZ a0:=aG (sW (a0,())) (by dsimp only[sW,DQ,lf,SZ])
def ab0 a0:=aG (jR (a0,())) (by dsimp only[jR,DR,lf,SZ])
def ab1:=aG (gZ ()) (by dsimp only[gZ,DS,lf,SZ])
def ab2 a0 a1:=aG (AA (a0,a1,())) (by dsimp only[AA,DT,lf,SZ])
def ab3 a0:=aG (j6 (a0,())) (by dsimp only[j6,DU,lf,SZ])
def ab4 a0:=aG (mI (a0,())) (by dsimp only[mI,DV,lf,SZ])
noncomputable abbrev ue(self:oT):=YL lf self
def qe4(self:oT) x:=aG (ue self x) (by dsimp only[ue,YL,lf,s2,s5,d2,d3,d4,d5,d9,IZ,JZ,Lf.w,Lf.y,SZ])
def ab5 self a0 a1 a2:wU self ((a0,a1,a2,()))=az (cM a0.l a1) (fun b=>aP (ag b.1 21) (some (([95]:Y1),())) (aP (ag b.1 22) (az (mH (b.2.1,())) (fun d=>some (d.1,()))) (aP (ag b.1 23) (az (mG (b.2.2.1,())) (fun e=>some (e.1,()))) (az (fM (a0,a1,())) (fun g=>aD (ue self) (a0,a2,b.2.1,g.1,ae g.1.l,0,b.1,b.2.1,b.2.2.1,b.2.2.2,())))))):=by kernel_rfl
noncomputable abbrev Nf(self:iI):=YM lf self gY jR mI gZ j6 AB
def q89(self:iI) x:=aG (Nf self x) (by dsimp only[Nf,YM,lf,s1,d2,d3,d4,IZ,JZ,Lf.v,Lf.w,Lf.z,SZ])
def qjo(self:iI)(a0:Int)(a1:Sl Y0)(a2:Y3):Mo self ((a0,a1,a2,()))=az (fM (a1,a0,())) (fun b=>az (gY (([109,97,116,99,104]:Y1),())) (fun d=>az (cM b.1.l 0) (fun e=>az (self (e,a1,a2,())) (fun g=>az (mI (g.1,())) (fun h=>az (gZ ()) (fun i=>az (gY (([119,105,116,104]:Y1),())) (fun j=>aD (Nf self) (b.1,1,g.2.1,g.2.2.1,⟨false,([d.1,h.1,i.1,j.1]:List (Sl Y0))⟩,())))))))):=by kernel_rfl
def ab6 a0 a1 a2:=aG (o6 ((a0,a1),a2,())) (by dsimp only[o6,DW,lf,Lf.r,SZ])
def ab7 a0 a1 a2:=aG (kH ((a0,a1),a2,())) (by dsimp only[kH,DY,lf,SZ])
def qlh self a0 a1 a2 a3:=aG (BG self (a0,a1,a2,a3,())) (by dsimp only[BG,Tc,lf,d2,d3,SZ])
def ab8 a0 a1 a2 a3 a4 a5 a6:=aG (wV ((a0,a1),a2,(a3,a4,a5),a6,())) (by dsimp only[wV,DZ,lf,d2,d3,Lf.r,Lf.y,SZ])
def qli self a0 a1 a2 a3 a4 a5 a6:=aG (K6 self (a0,(a1,a2,a3),a4,a5,a6,())) (by dsimp only[K6,Td,lf,d2,d3,d4,SZ])
def qlj self a0 a1 a2:=aG (K7 self (a0,a1,a2,())) (by dsimp only[K7,Te,lf,d2,Lf.w,SZ])
noncomputable abbrev Uo(self:iI):=YO lf jR gZ kH j6 (BG self)
def qac(self:iI) x:=aG (Uo self x) (by dsimp only[Uo,YO,lf,s0,d2,d3,d4,d5,d6,IZ,JZ,Lf.r,Lf.v,Lf.w,Lf.z,SZ])
noncomputable abbrev Uq(self:iI):=YP lf fM kH (Uo self)
def q5n(self:iI) x:=aG (Uq self x) (by dsimp only[Uq,YP,lf,d2,d3,IZ,Lf.v,Lf.w,Lf.z,SZ])
def qlk(self:iI)(a0:Int)(a1:Sl Y0)(a2:Y3):Mp self ((a0,a1,a2,()))=aD (Uq self) (a0,a1,a2,⟨true,([]:Y1)⟩,()):=by kernel_rfl
def Jf self a0 a1 a2:=aG (qT self (a0,a1,a2,())) (by dsimp only[qT,D0,lf,d2,d3,Lf.w,SZ])
def Ng a0 a1:=aG (qU (a0,a1,())) (by dsimp only[qU,D2,lf,SZ])
def ab9 a0:=aG (wW (a0,())) (by dsimp only[wW,D3,lf,Lf.r,SZ])
noncomputable abbrev pR:=YR lf wW
def q7x x:=aG (pR x) (by dsimp only[pR,YR,lf,s2,d2,IZ,JZ,SZ])
def aca a0 a1:D4 ((a0,a1,()))=aD pR (a1,a0,0,()):=by kernel_rfl
def acb a0:=aG (AD (a0,())) (by dsimp only[AD,D5,lf,SZ])
def acd a0:=aG (sX (a0,())) (by dsimp only[sX,D6,lf,SZ])
def ace a0 a1 a2 a3:=aG (qV ((a0,a1,a2,a3),())) (by dsimp only[qV,D7,lf,d2,d4,d6,IZ,JZ,Lf.r,Lf.y,SZ])
noncomputable abbrev uf:=YS lf qV
def qe5 x:=aG (uf x) (by dsimp only[uf,YS,lf,s2,d2,IZ,JZ,SZ])
def acf a0:AE ((a0,()))=az (aP (aL 4000 (ae a0.l)) (some true) (az (lJ (a0,())) (fun b=>some (ar b.1)))) (fun d=>aP d (some (50,())) (aD uf (a0,ae a0.l,0,()))):=by kernel_rfl
def BH(self:nw)(b:Y99):OZ (Y99⊕XW):=aP (aL b.2.2.2.2.1 b.2.2.2.1) (az (self (b.2.2.2.2.2.2.2.2.2.2.1,b.2.2.1,b.1,b.2.1,b.2.2.2.2.2.2.2.2.2.2.2.1,b.2.2.2.2.2.2.2.2.2.2.2.2.1,b.2.2.2.2.2.2.2.2.2.2.2.2.2.1,b.2.2.2.2.2.2.2.2.2.2.2.2.2.2.1,())) (fun d=>some (Sum.inl (b.1,b.2.1,d.1,b.2.2.2.1,cE .i64 b.2.2.2.2.1 1,b.2.2.2.2.2.1,b.2.2.2.2.2.2.1,b.2.2.2.2.2.2.2.1,b.2.2.2.2.2.2.2.2.1,b.2.2.2.2.2.2.2.2.2.1,b.2.2.2.2.2.2.2.2.2.2.1,d.2.1,d.2.2.1,d.2.2.2.1,d.2.2.2.2.1,())))) (some (Sum.inr (b.2.2.1,b.2.2.2.2.2.1,b.2.2.2.2.2.2.1,b.2.2.2.2.2.2.2.1,b.2.2.2.2.2.2.2.2.1,b.2.2.2.2.2.2.2.2.2.1,b.2.2.2.2.2.2.2.2.2.2.1,b.2.2.2.2.2.2.2.2.2.2.2.1,b.2.2.2.2.2.2.2.2.2.2.2.2.1,b.2.2.2.2.2.2.2.2.2.2.2.2.2.1,b.2.2.2.2.2.2.2.2.2.2.2.2.2.2.1,())))
def Nh(self:nw)(a0:Int)(a1:Bool)(a2:Int)(a3:Int)(a4:Y1)(a5:Int)(a6:Int)(a7:Sl Y0)(a8:Bool)(a9:Nat)(a10:Nat)(a11:Int)(a12:Sl Int):Ri self ((a0,a1,a2,a3,a4,a5,a6,a7,a8,(a9,a10),a11,a12,()))=aD (BH self) (a0,a1,cE .i64 a2 1,a6,0,a2,a3,a4,a5,a6,a7,a8,(a9,a10),a11,a12,()):=by kernel_rfl
def acg a0 a1 a2 a3 a4 a5:=aG (AF (a0,a1,(a2,a3),a4,a5,())) (by dsimp only[AF,D8,lf,d2,d3,d4,Lf.w,SZ])
def ach a0 a1 a2 a3 a4 a5:=aG (qX (a0,a1,(a2,a3),a4,a5,())) (by dsimp only[qX,D9,lf,d2,d3,d4,SZ])
def q7c(a0:Int)(a1:Bool)(a2:Nat)(a3:Nat)(a4:Int)(a5:Sl Int)(c:qA->OZ qA):wX lf c ((a0,a1,(a2,a3),a4,a5,()))=az (c (a1,(a2,a3),a4,a5,())) (fun b=>az (fit (bS (ae b.2.2.2.1.l) (ae ([a0]:Y1)))) (fun _=>some (b.1,b.2.1,b.2.2.1,⟨bP b.2.2.2.1.nil (eX ([a0]:Y1)),app b.2.2.2.1.l ([a0]:Y1)⟩,()))):=by kernel_rfl
def aci a0 a1 a2 a3 a4 a5:HI ((a0,a1,(a2,a3),a4,a5,()))=az (qW (a1,(a2,a3),a4,a5,())) (fun b=>az (fit (bS (ae b.2.2.2.1.l) (ae ([a0]:Y1)))) (fun _=>some (b.1,b.2.1,b.2.2.1,⟨bP b.2.2.2.1.nil (eX ([a0]:Y1)),app b.2.2.2.1.l ([a0]:Y1)⟩,()))):=q7c a0 a1 a2 a3 a4 a5 qW
def acj a0 a1 a2 a3 a4 a5:=aG (sY (a0,a1,(a2,a3),a4,a5,())) (by dsimp only[sY,Eb,lf,d2,d3,d4,SZ])
def ack a0 a1 a2 a3 a4 a5:=aG (sZ (a0,a1,(a2,a3),a4,a5,())) (by dsimp only[sZ,Ec,lf,d2,d3,d4,SZ])
noncomputable abbrev ug:=YU lf
def qez x:=aG (ug x) (by dsimp only[ug,YU,lf,s0,s3,d2,d3,IZ,JZ,SZ])
def acm a0:wY ((a0,()))=aD ug (0,a0,ae a0.l,0,()):=by kernel_rfl
def acn self a0 a1 a2 a3 a4 a5 a6 a7 a8:=aG (ti self (a0,a1,a2,a3,a4,(a5,a6),a7,a8,())) (by dsimp only[ti,Ed,lf,d10,d11,d2,d3,d4,d5,d6,d7,d8,d9,IZ,JZ,SZ])
def aco a0:=aG (wZ (a0,())) (by dsimp only[wZ,Ef,lf,d2,d3,d4,SZ])
def Ur a0 a1:=aG (o7 (a0,a1,())) (by dsimp only[o7,Eg,lf,SZ])
def acp a0:=aG (tj (a0,())) (by dsimp only[tj,Eh,lf,Lf.w,SZ])
def acq a0 a1:AG ((a0,a1,()))=some (ae a1.l,a0,a1,()):=by kernel_rfl
noncomputable abbrev lY:=YV lf gX o7 tj AG qS
def qad x:=aG (lY x) (by dsimp only[lY,YV,lf,d10,d2,d3,d4,d5,d6,d7,IZ,JZ,Lf.w,SZ])
noncomputable abbrev pT:=YW lf gX qR lY
def qf0 x:=aG (pT x) (by dsimp only[pT,YW,lf,d10,d2,d3,d4,d5,d6,d7,d8,d9,IZ,Lf.w,SZ])
noncomputable abbrev uh:=YX lf gX o4 pT
def qf1 x:=aG (uh x) (by dsimp only[uh,YX,lf,d10,d2,d3,d4,d5,d6,d7,d8,d9,IZ,Lf.w,SZ])
noncomputable abbrev pU:=YY lf gX nC uh
def qf2 x:=aG (pU x) (by dsimp only[pU,YY,lf,d10,d2,d3,d4,d5,d6,d7,d8,d9,IZ,Lf.w,SZ])
def acr a0 a1 a2 a3 a4 a5:w7 (((a0,a1,a2,a3,a4),a5,()))=az (oZ ((a0,a1,a2,a3,a4),())) (fun b=>aP (ar (ag b.1 0)) (some (([]:Y1),b.1,())) (az (iZ (a5,())) (fun d=>aP (ar (ag d.1 0)) (some (([]:Y1),d.1,())) (aD pU (a5,a1,ae a1.l,0,a0,a1,a2,a3,a4,false,⟨true,([]:Y1)⟩,()))))):=by kernel_rfl
noncomputable abbrev xT:=qcy lf
def qjp x:=aG (xT x) (by dsimp only[xT,qcy,lf,d2,d3,d4,d5,d6,d7,IZ,JZ,Lf.r,Lf.y,SZ])
noncomputable abbrev xU:=qcz lf xT
def qjq x:=aG (xU x) (by dsimp only[xU,qcz,lf,d2,d3,d4,d5,d6,IZ,JZ,SZ])
noncomputable abbrev xV:=qd0 lf xU
def qjr x:=aG (xV x) (by dsimp only[xV,qd0,lf,d2,d3,IZ,JZ,Lf.r,SZ])
noncomputable abbrev xW:=qd1 lf xV
def qjs x:=aG (xW x) (by dsimp only[xW,qd1,lf,d2,JZ,Lf.r,SZ])
def acs a0:Es ((a0,()))=aP (aL 70 (ae a0.l)) (some (false,())) (aD xW (a0,0,0,())):=by kernel_rfl
noncomputable abbrev Us:=qjf lf
noncomputable abbrev K9:=qjg lf Us
noncomputable abbrev xX:=qd2 lf K9
def qjt x:=aG (xX x) (by dsimp only[xX,qd2,lf,s0,d4,IZ,JZ,SZ])
noncomputable abbrev ui:=qd3 lf xX
def qsx x:=aG (ui x) (by dsimp only[ui,qd3,lf,s0,d2,IZ,JZ,SZ])
def acu a0 a1 a2 a3 a4:AJ (((a0,a1,a2,a3,a4),()))=az (aP (aL 100 (ae a0)) (some true) (some (aL 70 (ae a1.l)))) (fun b=>az (aP b (some true) (some (aL 70 (ae a3.l)))) (fun d=>az (aP d (some true) (some (aL 40 (ae a4.l)))) (fun e=>az (aP e (some true) (az (Es (a2,())) (fun g=>some (ar g.1)))) (fun h=>aP h (some (false,())) (aD ui (0,a0,a1,a2,a3,a4,())))))):=by kernel_rfl
noncomputable abbrev xY:=qd4 lf
def qju x:=aG (xY x) (by dsimp only[xY,qd4,lf,s1,d2,d3,d4,d5,d6,IZ,JZ,SZ])
noncomputable abbrev xZ:=qd5 lf xY
def qjv x:=aG (xZ x) (by dsimp only[xZ,qd5,lf,d2,d3,d4,d5,JZ,Lf.r,SZ])
noncomputable abbrev x7:=qd6 lf xZ
def qjw x:=aG (x7 x) (by dsimp only[x7,qd6,lf,s0,d2,IZ,JZ,SZ])
def acv a0 a1 a2 a3 a4:Et (((a0,a1,a2,a3,a4),()))=az (AJ ((a0,⟨true,([]:List (Y1×Int))⟩,a3,a2,⟨true,([]:List jQ)⟩),())) (fun b=>az (aP (ar b.1) (some true) (some (aL 70 (ae a1.l)))) (fun d=>az (aP d (some true) (some (aL 20 (ae a2.l)))) (fun e=>az (aP e (some true) (some (aL 12 (ae a4.l)))) (fun g=>aP g (some (false,())) (aD x7 (0,a0,a1,a2,a3,a4,())))))):=by kernel_rfl
noncomputable abbrev Ut:=qd7 lf
def qdj x:=aG (Ut x) (by dsimp only[Ut,qd7,lf,IZ,JZ,Lf.y,SZ])
def qy9(a0:Y3):Tt ((a0,()))=aD Ut (a0,0,()):=by kernel_rfl
def qsy a0:=aG (Tu (a0,())) (by dsimp only[Tu,qd8,lf,Lf.w,SZ])
noncomputable abbrev nK:=qeu lf
def Zk x:=aG (nK x) (by dsimp only[nK,qeu,lf,s2,d2,IZ,JZ,Lf.r,Lf.y,SZ])
def Uu a0:tn ((a0,()))=aD nK (a0,([33,36,37,38,42,43,45,47,58,60,61,62,63,64,94,124]:Y1),0,()):=by kernel_rfl
noncomputable abbrev nL:=q9c lf tn
def Zl x:=aG (nL x) (by dsimp only[nL,q9c,lf,s1,d2,d3,IZ,JZ,Lf.y,SZ])
def Uv a0 a1 a2 a3:AK ((a0,a1,a2,a3,()))=aD nL (a0,a1,a2,a3,()):=by kernel_rfl
def acw:=aG (AL ()) (by dsimp only[AL,My,lf,SZ])
noncomputable abbrev uj:=qd9 lf
def qjx x:=aG (uj x) (by dsimp only[uj,qd9,lf,s2,d2,IZ,JZ,SZ])
def acx a0:Eu ((a0,()))=az (AL ()) (fun b=>aD uj (a0,b.1,0,())):=by kernel_rfl
def acy a0:=aG (Jb (a0,())) (by dsimp only[Jb,Mz,lf,SZ])
def acz a0:=aG (tp (a0,())) (by dsimp only[tp,MA,lf,SZ])
def Ni a0 a1 a2 a3:=aG (lL ((a0,a1,a2,a3),())) (by dsimp only[lL,MB,lf,d2,d3,d5,Lf.y,SZ])
def acA a0 a1 a2:=aG (qY ((a0,a1,a2),())) (by dsimp only[qY,MD,lf,Lf.y,SZ])
noncomputable abbrev pV:=q9d lf
def qf3 x:=aG (pV x) (by dsimp only[pV,q9d,lf,d2,d3,IZ,JZ,SZ])
noncomputable abbrev uk:=q9e lf qY pV
def qf4 x:=aG (uk x) (by dsimp only[uk,q9e,lf,d2,JZ,SZ])
def acB a0:qZ ((a0,()))=aP (aL 400 (ae a0.l)) (some (40,())) (aD uk (a0,false,0,())):=by kernel_rfl
def acC a0:=aG (AM (a0,())) (by dsimp only[AM,ME,lf,SZ])
def acD a0:=aG (xa (a0,())) (by dsimp only[xa,MF,lf,Lf.y,SZ])
def acE a0:=aG (q7 (a0,())) (by dsimp only[q7,MG,lf,SZ])
noncomputable abbrev um(self:oN):=qda lf self
def qjy(self:oN) x:=aG (um self x) (by dsimp only[um,qda,lf,d2,d3,IZ,JZ,SZ])
def acF self a0 a1:tq self ((a0,a1,()))=az (aP (aL a1 0) (some true) (some (bJ (ae a0.l) a1))) (fun b=>az (aP b (some true) (az (cM a0.l a1) (fun d=>some (aL d.2.2.2 0)))) (fun e=>az (aP e (some true) (az (cM a0.l a1) (fun g=>some (aL (ae a0.l) g.2.2.2)))) (fun h=>aP h (some ((-1),())) (aD (um self) (a0,a1,cE .i64 a1 1,0,()))))):=by kernel_rfl
def acG a0:=aG (q8 (a0,())) (by dsimp only[q8,MH,lf,Lf.y,SZ])
noncomputable abbrev uo:=q9f lf lL
def qf5 x:=aG (uo x) (by dsimp only[uo,q9f,lf,d2,IZ,JZ,Lf.r,Lf.y,SZ])
def acH a0:Ew ((a0,()))=az (aP (aL 4000 (ae a0.l)) (some true) (az (q8 (a0,())) (fun b=>some (ar b.1)))) (fun d=>aP d (some (false,())) (aD uo (a0,0,()))):=by kernel_rfl
noncomputable abbrev x9:=q9g lf
def qf6 x:=aG (x9 x) (by dsimp only[x9,q9g,lf,s2,d2,IZ,JZ,SZ])
def acI a0 a1:Ey ((a0,a1,()))=aD x9 (a0,a1,0,()):=by kernel_rfl
noncomputable abbrev ya:=qb4 lf Ey
def qh9 x:=aG (ya x) (by dsimp only[ya,qb4,lf,s1,s2,d2,IZ,JZ,Lf.v,Lf.w,Lf.y,Lf.z,SZ])
def acJ a0:Ez ((a0,()))=aD ya (a0,0,⟨false,([]:Y1)⟩,()):=by kernel_rfl
noncomputable abbrev uq:=q9h lf
def qf7 x:=aG (uq x) (by dsimp only[uq,q9h,lf,s3,d2,d3,d4,d5,d6,d7,d8,IZ,JZ,SZ])
noncomputable abbrev ur:=q9i lf Ew Ez uq
def qf8 x:=aG (ur x) (by dsimp only[ur,q9i,lf,d2,d3,d4,d5,d6,IZ,JZ,SZ])
noncomputable abbrev uu:=q9j lf q7 ur
def qf9 x:=aG (uu x) (by dsimp only[uu,q9j,lf,d2,d3,JZ,Lf.r,SZ])
def acK a0 a1 a2:EA (((a0,a1,a2),()))=az (q7 (a0,())) (fun b=>az (aP (ar b.1) (some true) (some (aL a1 0))) (fun d=>az (aP d (some true) (some (aL 8 a1))) (fun e=>az (aP e (some true) (some (aL (ae a2.l) 1))) (fun g=>az (aP g (some true) (some (aL 60 (ae a2.l)))) (fun h=>aP h (some (false,())) (aD uu (0,a0,a1,a2,()))))))):=by kernel_rfl
noncomputable abbrev yc:=q9k lf
def qfa x:=aG (yc x) (by dsimp only[yc,q9k,lf,d2,d3,IZ,JZ,Lf.v,Lf.w,Lf.z,SZ])
noncomputable abbrev yd:=q9l lf yc
def qfb x:=aG (yd x) (by dsimp only[yd,q9l,lf,d2,JZ,SZ])
def acL a0:EB ((a0,()))=aD yd (a0,0,⟨false,([]:List Y1)⟩,()):=by kernel_rfl
noncomputable abbrev ye:=q9m lf
def qfc x:=aG (ye x) (by dsimp only[ye,q9m,lf,s1,d3,d5,IZ,JZ,SZ])
def acM a0 a1 a2 a3 a4:EC ((a0,(a1,a2,a3,a4),()))=aD ye (a0,0,a1,a2,a3,a4,()):=by kernel_rfl
noncomputable abbrev uv:=q9t lf
def qfd x:=aG (uv x) (by dsimp only[uv,q9t,lf,d2,d3,IZ,JZ,SZ])
noncomputable abbrev uw:=q9r lf
def qfe x:=aG (uw x) (by dsimp only[uw,q9r,lf,d2,d3,IZ,JZ,SZ])
noncomputable abbrev ux:=q9n lf q7 EC
def qff x:=aG (ux x) (by dsimp only[ux,q9n,lf,d2,d3,d4,d5,IZ,JZ,Lf.y,SZ])
noncomputable abbrev uy:=q9o lf ux
def qfg x:=aG (uy x) (by dsimp only[uy,q9o,lf,d2,d3,IZ,JZ,SZ])
noncomputable abbrev uz:=q9p lf uy
def qfh x:=aG (uz x) (by dsimp only[uz,q9p,lf,d2,IZ,JZ,SZ])
noncomputable abbrev uA:=q9q lf uz
def qfi x:=aG (uA x) (by dsimp only[uA,q9q,lf,JZ,SZ])
noncomputable abbrev uB:=q9s lf uw uA
def qfj x:=aG (uB x) (by dsimp only[uB,q9s,lf,d2])
noncomputable abbrev uC:=q9u lf uv uB
def qfk x:=aG (uC x) (by dsimp only[uC,q9u,lf,d2])
noncomputable abbrev uD:=q9v lf EA EB uC
def qfl x:=aG (uD x) (by dsimp only[uD,q9v,lf,IZ,JZ,SZ])
def acN a0:Jc ((a0,()))=aP (aL 60 (ae a0.l)) (some (100,())) (aD uD (a0,0,())):=by kernel_rfl
def acO a0:=aG (AP (a0,())) (by dsimp only[AP,MI,lf,Lf.r,SZ])
def acP a0:=aG (AQ (a0,())) (by dsimp only[AQ,MJ,lf,Lf.r,SZ])
noncomputable abbrev uE:=qb5 lf AO
def qha x:=aG (uE x) (by dsimp only[uE,qb5,lf,d2,d3,d4,IZ,JZ,Lf.v,Lf.w,Lf.z,SZ])
def acQ a0 a1:dJ ((a0,a1,()))=az (AO (a0,a1,())) (fun b=>aP (aL b.1 0) (some (⟨false,([]:Y1)⟩,())) (aD uE (a0,a1,cE .i64 a1 1,0,⟨false,([]:Y1)⟩,()))):=by kernel_rfl
noncomputable abbrev pW(self:oN):=qb6 lf self
def qhb(self:oN) x:=aG (pW self x) (by dsimp only[pW,qb6,lf,s1,s3,d2,d3,IZ,JZ,SZ])
def acR self a0 a1:o8 self ((a0,a1,()))=az (dJ (a0,a1,())) (fun b=>aD (pW self) (a0,0,b.1,0,())):=by kernel_rfl
def acS a0:=aG (tu (a0,())) (by dsimp only[tu,ML,lf,Lf.y,SZ])
def acT a0:=aG (ED (a0,())) (by dsimp only[ED,MM,lf,SZ])
def jB a0 a1:=aG (AR (a0,a1,())) (by dsimp only[AR,MN,lf,d2,Lf.y,SZ])
def acU a0 a1 a2:=aG (xc (a0,a1,a2,())) (by dsimp only[xc,MO,lf,d2,Lf.r,Lf.y,SZ])
noncomputable abbrev pX(self:sA):=q9w lf self
def qfm(self:sA) x:=aG (pX self x) (by dsimp only[pX,q9w,lf,s4,d2,d3,d4,IZ,JZ,SZ])
def acV self a0 a1 a2:nE self ((a0,a1,a2,()))=az (xc (a0,a1,a2,())) (fun b=>aP (ar (ag b.1 0)) (some (b.1,())) (az (dJ (a0,a1,())) (fun d=>aD (pX self) (a0,a1,a2,d.1,0,())))):=by kernel_rfl
noncomputable abbrev pY(self:Ah):=qb7 lf self
def qhc(self:Ah) x:=aG (pY self x) (by dsimp only[pY,qb7,lf,d2,d3,IZ,JZ,Lf.w,SZ])
def acW self a0 a1:nG self ((a0,a1,()))=az (cM a0.l a1) (fun b=>aP (ag b.1 22) (az (cM a0.l a1) (fun d=>some (⟨false,([d.2.1]:List Y1)⟩,()))) (az (dJ (a0,a1,())) (fun e=>aD (pY self) (a0,e.1,0,⟨false,([]:List Y1)⟩,())))):=by kernel_rfl
noncomputable abbrev nM:=q9y lf
def qfn x:=aG (nM x) (by dsimp only[nM,q9y,lf,s1,d2,IZ,JZ,SZ])
noncomputable abbrev uF:=q9z lf nM
def qfo x:=aG (uF x) (by dsimp only[uF,q9z,lf,JZ,SZ])
noncomputable abbrev pZ(self:Ai):=q9x lf self
def qfp(self:Ai) x:=aG (pZ self x) (by dsimp only[pZ,q9x,lf,s2,d2,IZ,JZ,SZ])
def acX self a0 a1:nH self ((a0,a1,()))=az (cM a0.l a1) (fun b=>az (tu (b.1,())) (fun d=>aP d.1 (az (EE (a0,a1,())) (fun e=>aD uF (0,e.1,()))) (az (dJ (a0,a1,())) (fun g=>aD (pZ self) (a0,g.1,0,()))))):=by kernel_rfl
def Uw a0 a1:=aG (o9 (a0,a1,())) (by dsimp only[o9,MR,lf,Lf.r,SZ])
def acY a0 a1 a2:=aG (xd ((a0,a1,a2),())) (by dsimp only[xd,MS,lf,Lf.r,Lf.y,SZ])
noncomputable abbrev yf:=qev lf
def qmg x:=aG (yf x) (by dsimp only[yf,qev,lf,s2,d2,IZ,JZ,SZ])
def acZ a0 a1:EF ((a0,a1,()))=aD yf (a0,a1,0,()):=by kernel_rfl
noncomputable abbrev uG:=qa0 lf
def qfq x:=aG (uG x) (by dsimp only[uG,qa0,lf,s1,d2,d3,d4,d5,d6,IZ,JZ,SZ])
noncomputable abbrev uH:=qa1 lf uG
def qfr x:=aG (uH x) (by dsimp only[uH,qa1,lf,d2,d3,d4,d5,JZ,SZ])
noncomputable abbrev uI:=qa2 lf EF uH
def qfs x:=aG (uI x) (by dsimp only[uI,qa2,lf,s0,d2,IZ,JZ,SZ])
noncomputable abbrev uJ:=qa3 lf xd uI
def qft x:=aG (uJ x) (by dsimp only[uJ,qa3,lf,s0,d5,IZ,JZ,SZ])
noncomputable abbrev uK:=qa4 lf xa uJ
def qfu x:=aG (uK x) (by dsimp only[uK,qa4,lf,s0,d2,IZ,JZ,SZ])
def ac0 a0 a1 a2 a3 a4:EG (((a0,a1,a2,a3,a4),()))=az (xa (a0,())) (fun b=>az (aP (ar b.1) (some true) (some (aL 60 (ae a1.l)))) (fun d=>az (aP d (some true) (some (aL 200 (ae a4.l)))) (fun e=>az (aP e (some true) (az (AP (a3,())) (fun g=>some (ar g.1)))) (fun h=>az (aP h (some true) (az (qZ (a2,())) (fun i=>some (ar (ag i.1 0))))) (fun j=>aP j (some (240,())) (aD uK (0,a0,a1,a2,a3,a4,()))))))):=by kernel_rfl
noncomputable abbrev uL:=qdb lf
def qjz x:=aG (uL x) (by dsimp only[uL,qdb,lf,s1,d2,d3,IZ,JZ,Lf.w,SZ])
noncomputable abbrev nN:=qdc lf uL
def qk0 x:=aG (nN x) (by dsimp only[nN,qdc,lf,d2,JZ,SZ])
noncomputable abbrev nO:=qdd lf nN
def qk1 x:=aG (nO x) (by dsimp only[nO,qdd,lf,s1,s5,d2,d5,IZ,JZ,Lf.v,Lf.w,Lf.z,SZ])
def ac1 a0 a1 a2 a3:AS ((a0,(a1,a2,a3),()))=az (qZ (a0,())) (fun b=>aP (ar (ag b.1 0)) (some (⟨true,([]:List Y6)⟩,b.1,())) (az (qY ((a1,a2,a3),())) (fun d=>aP (ar d.1) (some (⟨true,([]:List Y6)⟩,40,())) (aD nO (a0,0,a1,a2,a3,⟨false,([(a1,a2,a3)]:List Y6)⟩,()))))):=by kernel_rfl
def ac2 a0:=aG (q9 (a0,())) (by dsimp only[q9,MT,lf,SZ])
def ac3 a0 a1:=aG (tv (a0,a1,())) (by dsimp only[tv,MU,lf,Lf.w,SZ])
noncomputable abbrev uM(self:qF):=qb8 lf self tv
def qhd(self:qF) x:=aG (uM self x) (by dsimp only[uM,qb8,lf,s3,s4,d2,d3,d4,IZ,JZ,Lf.w,Lf.y,SZ])
def ac4 self a0 a1 a2:tA self ((a0,a1,a2,()))=az (cM a0.l a1) (fun b=>aP (ag b.1 31) (az (q9 (b.2.2.1,())) (fun d=>some (d.1,()))) (az (dJ (a0,a1,())) (fun e=>aP (bM b.2.1 ([45,62]:Y1)) (az (cM e.1.l 0) (fun g=>az (self (a0,g,1,())) (fun h=>az (fit (bS (ae h.1) (ae ([32,45,62,32]:Y1)))) (fun _=>az (cM e.1.l 1) (fun i=>az (self (a0,i,2,())) (fun j=>az (fit (bS (ae (cw h.1 ([32,45,62,32]:Y1))) (ae j.1))) (fun _=>az (tv (cw (cw h.1 ([32,45,62,32]:Y1)) j.1,aL a2 2,())) (fun k=>some (k.1,()))))))))) (aD (uM self) (a0,a2,e.1,b.2.1,0,()))))):=by kernel_rfl
def Ux a0 a1:=aG (AU (a0,a1,())) (by dsimp only[AU,MW,lf,SZ])
def ac5 a0:=aG (jS (a0,())) (by dsimp only[jS,MY,lf,Lf.w,SZ])
def ac6 a0:=aG (eO (a0,())) (by dsimp only[eO,MZ,lf,SZ])
def ac7 a0:=aG (EH (a0,())) (by dsimp only[EH,M0,lf,SZ])
noncomputable abbrev p9:=qb9 lf
def qhe x:=aG (p9 x) (by dsimp only[p9,qb9,lf,d2,IZ,JZ,Lf.r,Lf.w,SZ])
def ac8 a0:re ((a0,()))=az (tp (a0,())) (fun b=>az (EH (b.1,())) (fun d=>aD p9 (b.1,([]:Y1),d.1,()))):=by kernel_rfl
noncomputable abbrev uN:=qa5 lf
def qfv x:=aG (uN x) (by dsimp only[uN,qa5,lf,s2,s3,d2,d3,IZ,JZ,Lf.r,Lf.w,Lf.y,SZ])
def ac9 a0:AV ((a0,()))=aD uN (a0,([48,49,50,51,52,53,54,55,56,57,97,98,99,100,101,102]:Y1),([34]:Y1),0,()):=by kernel_rfl
noncomputable abbrev uO:=qba lf
def qhf x:=aG (uO x) (by dsimp only[uO,qba,lf,d2,IZ,JZ,Lf.w,SZ])
def ada a0 a1 a2 a3 a4:pa (((a0,a1,a2,a3),a4,()))=aD uO (a4,0,⟨false,([(a0,a1,a2,ae a4.l)]:List Y0)⟩,()):=by kernel_rfl
def adb a0:=aG (AW (a0,())) (by dsimp only[AW,M3,lf,SZ])
def ade a0:=aG (kN (a0,())) (by dsimp only[kN,M4,lf,SZ])
def adf:=aG (ic ()) (by dsimp only[ic,M5,lf,SZ])
def adg a0:=aG (pb (a0,())) (by dsimp only[pb,M6,lf,SZ])
def adh a0:=aG (jx (a0,())) (by dsimp only[jx,M7,lf,SZ])
noncomputable abbrev uP(self:gI):=q7b lf self
def qc5(self:gI) x:=aG (uP self x) (by dsimp only[uP,q7b,lf,d2,d3,d4,IZ,JZ,Lf.w,Lf.y,SZ])
def adi self a0 a1:AX self ((a0,a1,()))=az (cM a0.l a1) (fun b=>aP (ag b.1 21) (some (([95]:Y1),())) (aP (ag b.1 22) (az (jS (b.2.1,())) (fun d=>some (d.1,()))) (aP (ag b.1 23) (az (re (b.2.2.1,())) (fun e=>some (e.1,()))) (az (dJ (a0,a1,())) (fun g=>aD (uP self) (a0,b.2.1,g.1,0,())))))):=by kernel_rfl
noncomputable abbrev uQ:=qbb lf
def qhg x:=aG (uQ x) (by dsimp only[uQ,qbb,lf,s2,d2,IZ,JZ,SZ])
def adk a0 a1:Jd ((a0,a1,()))=aD uQ (a0,a1,0,([]:Y1),0,0,()):=by kernel_rfl
def adl a0 a1 a2:=aG (pe (a0,a1,a2,())) (by dsimp only[pe,M8,lf,d2,Lf.y,SZ])
def adm a0 a1 a2:=aG (mM (a0,a1,a2,())) (by dsimp only[mM,M9,lf,d2,SZ])
def qvn self a0 a1 a2 a3:=aG (EI self (a0,a1,a2,a3,())) (by dsimp only[EI,qew,lf,d2,d3,SZ])
def qvo self a0 a1 a2 a3 a4 a5 a6:=aG (K8 self (a0,a1,a2,(a3,a4,a5),a6,())) (by dsimp only[K8,qex,lf,d2,d3,d4,Lf.r,Lf.y,SZ])
def qvp self EJ a0 a1 a2:=aG (Na self EJ (a0,a1,a2,())) (by dsimp only[Na,qey,lf,d2,Lf.w,SZ])
noncomputable abbrev qa(self:gH):=qde lf self eO kN jx ic AY
def qk2(self:gH) x:=aG (qa self x) (by dsimp only[qa,qde,lf,s3,s4,d2,d3,d4,IZ,JZ,Lf.v,Lf.w,Lf.z,SZ])
def EN self a0 a1 a2:pf self ((a0,a1,a2,()))=az (cM a0.l a1) (fun b=>az (dJ (a0,a1,())) (fun d=>aP (ag b.1 1) (az (re (b.2.2.1,())) (fun e=>az (eO (e.1,())) (fun g=>some (g.1,())))) (aP (ag b.1 2) (az (AV (b.2.1,())) (fun h=>az (eO (h.1,())) (fun i=>some (i.1,())))) (aP (ag b.1 3) (az (jS (b.2.1,())) (fun j=>az (eO (j.1,())) (fun k=>some (k.1,())))) (aP (ag b.1 4) (az (eO (b.2.1,())) (fun m=>some (m.1,()))) (aP (ag b.1 5) (az (jS (b.2.1,())) (fun n=>az (fit (bS (ae ([102,117,110,32]:Y1)) (ae n.1))) (fun _=>az (fit (bS (ae (cw ([102,117,110,32]:Y1) n.1)) (ae ([32,45,62]:Y1)))) (fun _=>az (eO (cw (cw ([102,117,110,32]:Y1) n.1) ([32,45,62]:Y1),())) (fun o=>az (cM d.1.l 0) (fun p=>az (self (a0,p,a2,())) (fun q=>az (jx (q.1,())) (fun r=>az (kN (⟨false,([o.1,r.1]:List (Sl Y0))⟩,())) (fun s=>some (s.1,())))))))))) (az (aP (ag b.1 7) (some (a0,a1,a2,d.1,b.1,ag b.1 7,b.1,b.2.1,b.2.2.1,b.2.2.2,())) (some (a0,a1,a2,d.1,b.1,ag b.1 8,b.1,b.2.1,b.2.2.1,b.2.2.2,()))) (fun t=>aP t.2.2.2.2.2.1 (az (aP (ag t.2.2.2.2.2.2.1 8) (some (t.1,t.2.2.1,t.2.2.2.1,([108,101,116,32,114,101,99,32]:Y1),t.2.2.2.2.2.2.1,t.2.2.2.2.2.2.2.1,t.2.2.2.2.2.2.2.2.1,t.2.2.2.2.2.2.2.2.2.1,())) (some (t.1,t.2.2.1,t.2.2.2.1,([108,101,116,32]:Y1),t.2.2.2.2.2.2.1,t.2.2.2.2.2.2.2.1,t.2.2.2.2.2.2.2.2.1,t.2.2.2.2.2.2.2.2.2.1,()))) (fun u=>az (jS (u.2.2.2.2.2.1,())) (fun v=>az (fit (bS (ae u.2.2.2.1) (ae v.1))) (fun _=>az (fit (bS (ae (cw u.2.2.2.1 v.1)) (ae ([32,61]:Y1)))) (fun _=>az (eO (cw (cw u.2.2.2.1 v.1) ([32,61]:Y1),())) (fun w=>az (cM u.2.2.1.l 0) (fun y=>az (self (u.1,y,u.2.1,())) (fun z=>az (jx (z.1,())) (fun bb=>az (ic ()) (fun bd=>az (eO (([105,110]:Y1),())) (fun be=>az (ic ()) (fun bg=>az (cM u.2.2.1.l 1) (fun bh=>az (self (u.1,bh,u.2.1,())) (fun bi=>az (kN (⟨false,([w.1,bb.1,bd.1,be.1,bg.1,bi.1]:List (Sl Y0))⟩,())) (fun bj=>some (bj.1,())))))))))))))))) (aP (ag t.2.2.2.2.1 9) (az (eO (([105,102]:Y1),())) (fun bk=>az (cM t.2.2.2.1.l 0) (fun bm=>az (self (t.1,bm,t.2.2.1,())) (fun bn=>az (jx (bn.1,())) (fun bo=>az (ic ()) (fun bp=>az (eO (([116,104,101,110]:Y1),())) (fun bq=>az (cM t.2.2.2.1.l 1) (fun br=>az (self (t.1,br,t.2.2.1,())) (fun bs=>az (jx (bs.1,())) (fun bt=>az (ic ()) (fun bu=>az (eO (([101,108,115,101]:Y1),())) (fun bv=>az (cM t.2.2.2.1.l 2) (fun bw=>az (self (t.1,bw,t.2.2.1,())) (fun bz=>az (jx (bz.1,())) (fun db=>az (kN (⟨false,([bk.1,bo.1,bp.1,bq.1,bt.1,bu.1,bv.1,db.1]:List (Sl Y0))⟩,())) (fun dd=>some (dd.1,()))))))))))))))))) (aP (ag t.2.2.2.2.1 11) (az (eO (([114,97,105,115,101]:Y1),())) (fun de=>az (cM t.2.2.2.1.l 0) (fun dg=>az (self (t.1,dg,t.2.2.1,())) (fun dh=>az (jx (dh.1,())) (fun di=>az (kN (⟨false,([de.1,di.1]:List (Sl Y0))⟩,())) (fun dj=>some (dj.1,()))))))) (aP (ag t.2.2.2.2.1 12) (az (eO (([116,114,121]:Y1),())) (fun dk=>az (cM t.2.2.2.1.l 0) (fun dm=>az (self (t.1,dm,t.2.2.1,())) (fun dn=>az (jx (dn.1,())) (fun dp=>az (ic ()) (fun dq=>az (jS (t.2.2.2.2.2.2.2.1,())) (fun dr=>az (fit (bS (ae ([119,105,116,104,32]:Y1)) (ae dr.1))) (fun _=>az (fit (bS (ae (cw ([119,105,116,104,32]:Y1) dr.1)) (ae ([32,45,62]:Y1)))) (fun _=>az (eO (cw (cw ([119,105,116,104,32]:Y1) dr.1) ([32,45,62]:Y1),())) (fun ds=>az (cM t.2.2.2.1.l 1) (fun dt=>az (self (t.1,dt,t.2.2.1,())) (fun du=>az (jx (du.1,())) (fun dv=>az (kN (⟨false,([dk.1,dp.1,dq.1,ds.1,dv.1]:List (Sl Y0))⟩,())) (fun dw=>some (dw.1,()))))))))))))))) (aP (ag t.2.2.2.2.1 10) (az (eO (([109,97,116,99,104]:Y1),())) (fun dy=>az (cM t.2.2.2.1.l 0) (fun dz=>az (self (t.1,dz,t.2.2.1,())) (fun eb=>az (jx (eb.1,())) (fun ed=>az (ic ()) (fun ee=>az (eO (([119,105,116,104]:Y1),())) (fun eg=>az (ic ()) (fun eh=>az (cM t.2.2.2.1.l 1) (fun ei=>az (AY (t.1,ei,())) (fun ej=>az (fit (bS (ae ej.1) (ae ([32,45,62]:Y1)))) (fun _=>az (eO (cw ej.1 ([32,45,62]:Y1),())) (fun ek=>az (cM t.2.2.2.1.l 2) (fun em=>az (self (t.1,em,t.2.2.1,())) (fun en=>az (jx (en.1,())) (fun eo=>az (pb (⟨false,([eh.1,ek.1,eo.1]:List (Sl Y0))⟩,())) (fun ep=>az (fit (bS (ae ([dy.1,ed.1,ee.1,eg.1]:List (Sl Y0))) (ae ([ep.1]:List (Sl Y0))))) (fun _=>aD (qa self) (t.1,t.2.2.1,t.2.2.2.1,3,⟨bP false (eX ([ep.1]:List (Sl Y0))),app ([dy.1,ed.1,ee.1,eg.1]:List (Sl Y0)) ([ep.1]:List (Sl Y0))⟩,())))))))))))))))))) (az (pe (t.1,t.2.1,t.2.2.1,())) (fun eq=>aP eq.2.1 (az (cM t.2.2.2.1.l 0) (fun er=>az (dJ (t.1,er,())) (fun es=>az (cM es.1.l 1) (fun et=>az ((K8 self) (t.1,et,t.2.2.1,(eq.1.1,eq.1.2.1,eq.1.2.2),(-1),())) (fun eu=>az (ic ()) (fun ev=>az (fit (bS (ae eq.1.1) (ae ([32]:Y1)))) (fun _=>az (eO (cw eq.1.1 ([32]:Y1),())) (fun ew=>az (cM t.2.2.2.1.l 1) (fun ey=>az ((K8 self) (t.1,ey,t.2.2.1,(eq.1.1,eq.1.2.1,eq.1.2.2),1,())) (fun ez=>az (pb (⟨false,([ev.1,ew.1,ez.1]:List (Sl Y0))⟩,())) (fun gb=>az (kN (⟨false,([eu.1,gb.1]:List (Sl Y0))⟩,())) (fun gd=>some (gd.1,()))))))))))))) (az ((TY self) (t.1,t.2.1,t.2.2.1,())) (fun ge=>az (mM (t.1,ge.1,t.2.2.1,())) (fun gg=>az (aP (ag gg.1 2) (some true) (some (ag gg.1 3))) (fun gh=>az ((EI self) (t.1,ge.1,t.2.2.1,gh,())) (fun gi=>az (pb (ge.2.1,())) (fun gj=>az (kN (⟨false,([gi.1,gj.1]:List (Sl Y0))⟩,())) (fun gk=>some (gk.1,())))))))))))))))))))))):=by kernel_rfl
noncomputable abbrev qb:=qa6 lf
def qfw x:=aG (qb x) (by dsimp only[qb,qa6,lf,s2,d2,d4,IZ,JZ,Lf.r,SZ])
noncomputable abbrev uR:=qa7 lf qb
def qfx x:=aG (uR x) (by dsimp only[uR,qa7,lf,d2,JZ,Lf.r,Lf.y,SZ])
def adn a0:Je ((a0,()))=az (aP (aL 4000 (ae a0.l)) (some true) (az (q8 (a0,())) (fun b=>some (ar b.1)))) (fun d=>aP d (some (false,())) (aD uR (a0,0,()))):=by kernel_rfl
noncomputable abbrev qc(self:gI):=qbc lf self
def qhh(self:gI) x:=aG (qc self x) (by dsimp only[qc,qbc,lf,d2,d3,IZ,JZ,Lf.w,SZ])
def ado self a0 a1:A0 self ((a0,a1,()))=az (cM a0.l a1) (fun b=>aP (ag b.1 41) (some (b.2.1,())) (aP (ag b.1 42) (some (([32]:Y1),())) (az (dJ (a0,a1,())) (fun d=>aD (qc self) (a0,([]:Y1),d.1,0,()))))):=by kernel_rfl
def Uy a0 a1 a2:=aG (tB (a0,a1,a2,())) (by dsimp only[tB,Nc,lf,d2,SZ])
noncomputable abbrev uS:=qbe lf AT
def qhi x:=aG (uS x) (by dsimp only[uS,qbe,lf,s2,s6,d10,d11,d12,d13,d14,d2,d3,d4,d5,d6,d7,d8,d9,IZ,JZ,Lf.w,SZ])
noncomputable abbrev uT:=qbf lf uS
def qhj x:=aG (uT x) (by dsimp only[uT,qbf,lf,d10,d11,d12,d13,d2,d3,d4,d5,d6,d7,d8,d9,IZ,JZ,Lf.w,SZ])
noncomputable abbrev uU:=qbg lf q9 uT
def qhk x:=aG (uU x) (by dsimp only[uU,qbg,lf,s2,s4,d10,d11,d12,d2,d3,d4,d5,d6,d7,d8,d9,IZ,Lf.w,SZ])
noncomputable abbrev nP:=qbd lf tB jS
def qbk x:=aG (nP x) (by dsimp only[nP,qbd,lf,d10,d11,d2,d3,d4,d5,d6,d7,d8,d9,IZ,JZ,Lf.w,SZ])
noncomputable abbrev qd:=qbh lf uU nP
def qhl x:=aG (qd x) (by dsimp only[qd,qbh,lf,s3,d2,d3,d4,d5,d6,d7,d8,Lf.w])
noncomputable abbrev uV:=qbi lf AS qd
def qhm x:=aG (uV x) (by dsimp only[uV,qbi,lf,s3,s4,d10,d11,d12,d2,d3,d4,d5,d6,d7,d8,d9,IZ,Lf.w,SZ])
noncomputable abbrev uW:=qbj lf uV
def qhn x:=aG (uW x) (by dsimp only[uW,qbj,lf,s2,s3,d2,d3,d5,IZ,Lf.w,SZ])
def adp a0 a1 a2 a3 a4 a5:EL (((a0,a1,a2,a3,a4),a5,()))=az (fit (bS (ae ([59,59]:Y1)) (ae ([10]:Y1)))) (fun _=>aD uW (a5,cw ([59,59]:Y1) ([10]:Y1),([]:Y1),0,a0,a1,a2,a3,a4,())):=by kernel_rfl
def qmr a0 a1 a2 a3 a4 a5:=aG (cA ((a0,a1,a2,a3,a4),a5,())) (by dsimp only[cA,q82,lf,d2,d3,d4,d5,d6,d7,d8,Lf.r,Lf.y,SZ])
end
end Fn
end Ev