/- The functions of this seat as data: loops, equations. -/
import Derived.Test.YtdgmbemagoakjaaGreatDoorFnA
import Derived.KernelRfl
namespace Ev
open Go
namespace Fn
noncomputable section
open Prod
set_option linter.defProp false
def aC{α:Type}(x:α){y:α}(h:x=y):x=y:=h
def aaj a0:=aC (vp (a0,())) (by dsimp only[vp,I7,lf,Lf.y,SZ])
def aak a0:=aC (vq (a0,())) (by dsimp only[vq,I8,lf,Lf.y,SZ])
def aal a0:=aC (sx (a0,())) (by dsimp only[sx,JH,lf,Lf.y,SZ])
def aam a0:=aC (sy (a0,())) (by dsimp only[sy,JI,lf,Lf.r,SZ])
noncomputable abbrev sM:=qgc lf sy
def qnk x:=aC (sM x) (by dsimp only[sM,qgc,lf,s2,d2,IS,JS,Lf.r,SZ])
def aan a0:BN ((a0,()))=aI sM (a0,a0,0,()):=by kernel_rfl
noncomputable abbrev lG:=q83 lf
def W3 x:=aC (lG x) (by dsimp only[lG,q83,lf,s3,d2,d3,IS,JS])
def Ss a0 a1:BO ((a0,a1,()))=aI lG (a0,a1,aa a0.l,0,()):=by kernel_rfl
def Su a0 a1:=aC (nk (a0,a1,())) (by dsimp only[nk,JK,lf,SZ])
def aao a0:=aC (sA (a0,())) (by dsimp only[sA,JM,lf,SZ])
def aap a0 a1 a2 a3:=aC (BP ((a0,a1,a2,a3),())) (by dsimp only[BP,JN,lf,Lf.y,SZ])
def aaq a0 a1 a2 a3:=aC (BQ ((a0,a1,a2,a3),())) (by dsimp only[BQ,JO,lf,Lf.y,SZ])
def Ml a0 a1:vr ((a0,a1,()))=some (qh a1 a0,()):=rfl
def aar a0:=aC (qu (a0,())) (by dsimp only[qu,JP,lf,SZ])
noncomputable abbrev sO:=qaj lf qu
def qfi x:=aC (sO x) (by dsimp only[sO,qaj,lf,s2,d2,IS,JS,Lf.r,SZ])
def aas a0:EY ((a0,()))=aI sO (a0,a0,0,()):=by kernel_rfl
def Sw a0:=aC (qv (a0,())) (by dsimp only[qv,JR,lf,SZ])
def Mm a0 a1 a2 a3:=aC (mq ((a0,a1,a2,a3),())) (by dsimp only[mq,JT,lf,d2,Lf.r,Lf.y,SZ])
def aat a0 a1 a2:=aC (vt ((a0,a1,a2),())) (by dsimp only[vt,JU,lf,Lf.y,SZ])
def aau a0 a1 a2:=aC (yi ((a0,a1,a2),())) (by dsimp only[yi,JV,lf,SZ])
noncomputable abbrev pI:=q3i lf yi
def q6a x:=aC (pI x) (by dsimp only[pI,q3i,lf,s2,d2,IS,JS])
def aav a0:JW ((a0,()))=aI pI (a0,aa a0.l,0,()):=by kernel_rfl
def aaw a0:=aC (BR (a0,())) (by dsimp only[BR,JX,lf,SZ])
def aax a0 a1 a2 a3:=aC (yj ((a0,a1,a2),a3,())) (by dsimp only[yj,JY,lf,SZ])
noncomputable abbrev pJ:=q3j lf yj
def q6b x:=aC (pJ x) (by dsimp only[pJ,q3j,lf,s3,d2,d3,IS,JS])
def aay a0 a1:J0 ((a0,a1,()))=aI pJ (a0,a1,aa a0.l,0,()):=by kernel_rfl
def aaz a0 a1:=aC (o8 (a0,a1,())) (by dsimp only[o8,J1,lf,SZ])
noncomputable abbrev sP:=qc0 lf o8
def qhp x:=aC (sP x) (by dsimp only[sP,qc0,lf,s3,d2,d3,IS,JS])
def aaA a0:iC ((a0,()))=aw (aL (aZ 400 (aa a0.l)) (some true) (aw (BR (a0,())) (fun b=>some b.1))) (fun d=>aL d (some (40,())) (aI sP (a0,a0,aa a0.l,0,()))):=by kernel_rfl
def aaB a0:=aC (yl (a0,())) (by dsimp only[yl,J2,lf,SZ])
def aaC a0:=aC (qw (a0,())) (by dsimp only[qw,J3,lf,Lf.y,SZ])
def aaD a0:=aC (BS (a0,())) (by dsimp only[BS,J4,lf,SZ])
noncomputable abbrev sQ:=q3k lf BS
def q6c x:=aC (sQ x) (by dsimp only[sQ,q3k,lf,s2,d2,IS,JS])
def aaE a0:J5 ((a0,()))=aI sQ (a0,aa a0.l,0,()):=by kernel_rfl
def aaF a0:=aC (vu (a0,())) (by dsimp only[vu,J6,lf,SZ])
def aaG a0:=aC (ym (a0,())) (by dsimp only[ym,J7,lf,Lf.r,SZ])
noncomputable abbrev sR:=qdw lf
def W4 x:=aC (sR x) (by dsimp only[sR,qdw,lf,d2,IS,JS,Lf.r,SZ])
def aaH a0 a1:n5 ((a0,a1,()))=aL (aZ a1 0) (some ((-1),())) (aI sR (a0,a1,1,())):=by kernel_rfl
def aaI a0:=aC (n9 (a0,())) (by dsimp only[n9,J8,lf,Lf.y,SZ])
noncomputable abbrev oq:=qc1 lf
def qch x:=aC (oq x) (by dsimp only[oq,qc1,lf,s3,s4,d3,d4,IS,IZ,JS,Lf.y,SZ])
noncomputable abbrev lH:=qc2 lf oq
def qci x:=aC (lH x) (by dsimp only[lH,qc2,lf,s0,s4,d2,d3,d4,JS,Lf.v,Lf.w,Lf.z])
def aaJ a0:BT ((a0,()))=aw (n9 (a0,())) (fun b=>aL (ai b.1) (some (0,())) (aI lH (0,a0,aa a0.l,0,⟨true,([]:Y1)⟩,()))):=by kernel_rfl
def aaK a0:=aC (vv (a0,())) (by dsimp only[vv,J9,lf,Lf.y,SZ])
def aaL a0:=aC (gG (a0,())) (by dsimp only[gG,Ka,lf,SZ])
def aaM a0:=aC (BU (a0,())) (by dsimp only[BU,Kb,lf,Lf.y,SZ])
def aaN a0:EZ ((a0,()))=some (true,()):=by kernel_rfl
def aaO a0 a1:=aC (BV (a0,a1,())) (by dsimp only[BV,Kc,lf,SZ])
def iW a0 a1 a2:=aC (BW (a0,a1,a2,())) (by dsimp only[BW,Kd,lf,d2,d3,d4,d5,d6,d8,d9,Lf.r,Lf.y,SZ])
def aaP a0 a1 a2:=aC (BX (a0,a1,a2,())) (by dsimp only[BX,Ke,lf,d2,SZ])
noncomputable abbrev sS(self:yg):=WG lf self
def qkk(self:yg) x:=aC (sS self x) (by dsimp only[sS,WG,lf,s4,s6,d2,d3,d4,d5,d6,IS,JS,Lf.r,Lf.y,SZ])
def aaQ self a0 a1 a2 a3:oa self ((a0,a1,a2,a3,()))=aw (BX (a1,a2,a3,())) (fun b=>aL (ai (ah b.1 0)) (some (0,b.1,())) (aw (fL a0.l a1) (fun d=>aI (sS self) (a0,a1,a2,a3,bc .i64 a1 1,d.2.2.2,0,())))):=by kernel_rfl
def aaR a0 a1:=aC (BY (a0,a1,())) (by dsimp only[BY,Kg,lf,SZ])
noncomputable abbrev pK:=qc3 lf
def qcj x:=aC (pK x) (by dsimp only[pK,qc3,lf,s2,s3,d2,d3,IS,JS,Lf.v,Lf.w,Lf.z,SZ])
def afV a0:BZ ((a0,()))=aI pK (a0,aa a0.l,0,⟨true,([]:List Y1)⟩,()):=by kernel_rfl
noncomputable abbrev pL:=q62 lf
def qa5 x:=aC (pL x) (by dsimp only[pL,q62,lf,s2,d2,d3,IS,JS,JZ,SZ])
noncomputable abbrev sT:=q63 lf pL
def q6d x:=aC (sT x) (by dsimp only[sT,q63,lf,IS,JS])
def aaS a0:B3 ((a0,()))=aL (aZ (aa a0.l) 2) (some (a0,())) (aI sT (1,a0,())):=by kernel_rfl
def aaT a0:=aC (B4 (a0,())) (by dsimp only[B4,Kh,lf,SZ])
def aaU a0 a1:=aC (yo (a0,a1,())) (by dsimp only[yo,Ki,lf,SZ])
noncomputable abbrev ot:=qc4 lf n5 yo vv
def qck x:=aC (ot x) (by dsimp only[ot,qc4,lf,IS,JS,JZ])
def Mn a0 a1:B5 ((a0,a1,()))=aw (aL (aZ 4000 (aa a0.l)) (some true) (aw (n9 (a0,())) (fun b=>some (ai b.1)))) (fun d=>aw (aL d (some true) (aw (BT (a0,())) (fun e=>some (aZ 100 e.1)))) (fun g=>aL g (some (60,())) (aw (E0 (a0,0,a1,a0,())) (fun h=>aL (ai (ah h.2.1 0)) (some (h.2.1,())) (aI ot (0,a0,())))))):=by kernel_rfl
def Mp a0:=aC (iU (a0,())) (by dsimp only[iU,Kj,lf,SZ])
def aaV a0 a1 a2:=aC (qx ((a0,a1,a2),())) (by dsimp only[qx,Kk,lf,Lf.r,Lf.y,SZ])
def aaW a0 a1 a2:=aC (B6 ((a0,a1,a2),())) (by dsimp only[B6,Kl,lf,SZ])
noncomputable abbrev sU:=q3l lf B6
def q6e x:=aC (sU x) (by dsimp only[sU,q3l,lf,s2,d2,IS,JS])
def aaX a0:Km ((a0,()))=aI sU (a0,aa a0.l,0,()):=by kernel_rfl
def aaY a0:=aC (vw (a0,())) (by dsimp only[vw,Kn,lf,SZ])
def aaZ a0:=aC (sB (a0,())) (by dsimp only[sB,Ko,lf,SZ])
def aa0 a0 a1 a2 a3:=aC (B7 ((a0,a1,a2,a3),())) (by dsimp only[B7,Kp,lf,d2,d3,d5,Lf.r,Lf.y,SZ])
def aa1 a0 a1 a2 a3:=aC (B8 ((a0,a1,a2,a3),())) (by dsimp only[B8,Kq,lf,d2,SZ])
noncomputable abbrev sV:=q32 lf B8
def q5s x:=aC (sV x) (by dsimp only[sV,q32,lf,s2,d2,IS,JS])
def aa2 a0:Kr ((a0,()))=aI sV (a0,aa a0.l,0,()):=by kernel_rfl
def aa3 a0:=aC (B9 (a0,())) (by dsimp only[B9,Ks,lf,SZ])
def aa4 a0:=aC (vz (a0,())) (by dsimp only[vz,Kt,lf,Lf.r,SZ])
def aa5 a0 a1 a2 a3:=aC (Ca (a0,a1,a2,a3,())) (by dsimp only[Ca,Ku,lf,d2,d3,SZ])
noncomputable abbrev sW:=q33 lf Ca
def q5t x:=aC (sW x) (by dsimp only[sW,q33,lf,d2,d3,d4,d5,IS,JS])
def aa6 a0 a1 a2 a3:Kv ((a0,a1,a2,a3,()))=aI sW (a0,aa a0.l,0,a1,a2,a3,()):=by kernel_rfl
def aa7 a0 a1 a2 a3:=aC (E1 (a0,a1,a2,a3,())) (by dsimp only[E1,Kw,lf,d2,d3,SZ])
noncomputable abbrev sX:=q5i lf
def q9k x:=aC (sX x) (by dsimp only[sX,q5i,lf,s3,d2,d3,IS,JS])
def aa8 a0 a1:Kx ((a0,a1,()))=aI sX (a0,a1,aa a0.l,0,()):=by kernel_rfl
def aa9 a0 a1:=aC (yp (a0,a1,())) (by dsimp only[yp,Ky,lf,SZ])
noncomputable abbrev sY:=qdx lf yp
def qkl x:=aC (sY x) (by dsimp only[sY,qdx,lf,s2,s3,d2,d3,IS,JS,Lf.v,Lf.w,Lf.y,Lf.z,SZ])
def aba a0:E2 ((a0,()))=aw (vz (a0,())) (fun b=>aL (ai (ah b.1 0)) (some (⟨true,([]:Y1)⟩,())) (aI sY (a0,aa a0.l,0,⟨true,([]:Y1)⟩,()))):=by kernel_rfl
def abb a0 a1 a2 a3:=aC (E3 (a0,a1,a2,a3,())) (by dsimp only[E3,Kz,lf,d2,d3,SZ])
def abc a0 a1 a2 a3:=aC (yq (a0,a1,a2,a3,())) (by dsimp only[yq,KA,lf,d2,d3,SZ])
noncomputable abbrev sZ:=q34 lf yq
def q5u x:=aC (sZ x) (by dsimp only[sZ,q34,lf,d2,d3,d4,d5,IS,JS])
def abd a0 a1 a2 a3:KB ((a0,a1,a2,a3,()))=aI sZ (a0,aa a0.l,0,a1,a2,a3,()):=by kernel_rfl
def abe a0 a1 a2 a3:=aC (yu (a0,a1,a2,a3,())) (by dsimp only[yu,KC,lf,d2,d3,SZ])
noncomputable abbrev tj:=qak lf sB yu
def qfj x:=aC (tj x) (by dsimp only[tj,qak,lf,s2,d2,d3,d4,d5,IS,JS,Lf.r,SZ])
def abf a0 a1 a2:E4 (((a0,a1,a2),()))=aw (sB (a0,())) (fun b=>aw (aL (ai b.1) (some true) (some (aZ a1 0))) (fun d=>aw (aL d (some true) (some (aZ 8 a1))) (fun e=>aw (aL e (some true) (some (aZ (aa a2.l) 1))) (fun g=>aw (aL g (some true) (some (aZ 60 (aa a2.l)))) (fun h=>aL h (some (false,())) (aI tj (a2,aa a2.l,0,a0,a1,a2,()))))))):=by kernel_rfl
def abg a0 a1 a2:=aC (Cb ((a0,a1,a2),())) (by dsimp only[Cb,KD,lf,SZ])
noncomputable abbrev tm:=q3m lf Cb
def q6f x:=aC (tm x) (by dsimp only[tm,q3m,lf,s2,d2,IS,JS])
def abh a0:KE ((a0,()))=aI tm (a0,aa a0.l,0,()):=by kernel_rfl
def abi a0:=aC (yv (a0,())) (by dsimp only[yv,KF,lf,SZ])
def abj a0 a1 a2 a3 a4 a5:=aC (Cc ((a0,a1,a2),(a3,a4,a5),())) (by dsimp only[Cc,KG,lf,SZ])
noncomputable abbrev wP:=q3n lf Cc
def q6g x:=aC (wP x) (by dsimp only[wP,q3n,lf,s3,d2,d3,IS,JS])
def abk a0 a1 a2 a3:Cd ((a0,(a1,a2,a3),()))=aI wP (a0,(a1,a2,a3),aa a0.l,0,()):=by kernel_rfl
def abl a0 a1 a2 a3 a4 a5:=aC (Ce (a0,a1,a2,a3,a4,a5,())) (by dsimp only[Ce,KH,lf,d2,d3,d4,d5,SZ])
noncomputable abbrev tn:=q84 lf Ce
def qd0 x:=aC (tn x) (by dsimp only[tn,q84,lf,s0,s7,s8,s9,d2,d3,d4,d5,d6,d7,d8,d9,IS,IZ,JS,JZ])
noncomputable abbrev wQ:=q85 lf tn
def qd1 x:=aC (wQ x) (by dsimp only[wQ,q85,lf,d2,d3,d4,d5,d6,JS])
def abm a0 a1 a2 a3 a4:E5 ((a0,a1,a2,a3,a4,()))=aI wQ (a1,a2,a0,aa a0.l,0,a3,a4,()):=by kernel_rfl
def abn a0 a1:=aC (E6 (a0,a1,())) (by dsimp only[E6,KI,lf,d2,SZ])
def abo a0 a1 a2:=aC (yw (a0,a1,a2,())) (by dsimp only[yw,KJ,lf,d2,Lf.r,SZ])
noncomputable abbrev wR:=qc5 lf yw
def qhq x:=aC (wR x) (by dsimp only[wR,qc5,lf,s5,s6,d2,d3,d4,d5,d6,IS,IZ,JS,JZ])
noncomputable abbrev wS:=qc6 lf wR
def qhr x:=aC (wS x) (by dsimp only[wS,qc6,lf,d2,d3,JS])
def abp a0 a1:Cf ((a0,a1,()))=aI wS (a0,aa a0.l,0,a1,()):=by kernel_rfl
def abq a0 a1 a2 a3 a4 a5 a6:=aC (Cg ((a0,a1,a2),(a3,a4,a5,a6),())) (by dsimp only[Cg,KK,lf,Lf.y,SZ])
noncomputable abbrev tp:=q3o lf Cg
def q6h x:=aC (tp x) (by dsimp only[tp,q3o,lf,s3,d2,d3,IS,JS])
def abr a0 a1 a2 a3 a4:KL ((a0,(a1,a2,a3,a4),()))=aI tp (a0,(a1,a2,a3,a4),aa a0.l,0,()):=by kernel_rfl
def abt a0 a1 a2 a3 a4:=aC (Ch (a0,(a1,a2,a3,a4),())) (by dsimp only[Ch,KM,lf,SZ])
def abu a0 a1 a2 a3 a4:=aC (yx ((a0,a1,a2,a3),a4,())) (by dsimp only[yx,KN,lf,d2,Lf.r,SZ])
noncomputable abbrev tq:=q35 lf yx
def q5v x:=aC (tq x) (by dsimp only[tq,q35,lf,d2,d3,IS,JS])
def abv a0 a1:KO ((a0,a1,()))=aI tq (a0,aa a0.l,0,a1,()):=by kernel_rfl
def abw a0 a1:=aC (E7 (a0,a1,())) (by dsimp only[E7,KP,lf,SZ])
def abx a0 a1:=aC (yz (a0,a1,())) (by dsimp only[yz,KQ,lf,SZ])
noncomputable abbrev tu:=q36 lf yz
def q5w x:=aC (tu x) (by dsimp only[tu,q36,lf,d2,d3,IS,JS])
def aby a0 a1:KR ((a0,a1,()))=aI tu (a0,aa a0.l,0,a1,()):=by kernel_rfl
def abz a0 a1:=aC (E8 (a0,a1,())) (by dsimp only[E8,KS,lf,SZ])
def abA a0 a1 a2:=aC (yA (a0,a1,a2,())) (by dsimp only[yA,KT,lf,d2,SZ])
noncomputable abbrev wU:=q86 lf yA
def qd2 x:=aC (wU x) (by dsimp only[wU,q86,lf,s5,s6,d2,d3,d4,d5,d6,IS,IZ,JS,JZ])
noncomputable abbrev wV:=q87 lf wU
def qd3 x:=aC (wV x) (by dsimp only[wV,q87,lf,d2,d3,JS])
def abB a0 a1:Ci ((a0,a1,()))=aI wV (a0,aa a0.l,0,a1,()):=by kernel_rfl
noncomputable abbrev tv:=qal lf Cd Cf Ci
def qfk x:=aC (tv x) (by dsimp only[tv,qal,lf,s2,d2,d3,IS,JS])
def abC a0:qy ((a0,()))=aw (aL (aZ 60 (aa a0.l)) (some true) (aw (yv (a0,())) (fun b=>some b.1))) (fun d=>aL d (some (100,())) (aI tv (a0,aa a0.l,0,a0,()))):=by kernel_rfl
noncomputable abbrev wW:=q88 lf nk
def qd4 x:=aC (wW x) (by dsimp only[wW,q88,lf,s3,d2,d3,IS,JS])
def abD a0:vA ((a0,()))=aI wW (a0,a0,aa a0.l,0,()):=by kernel_rfl
noncomputable abbrev pM:=q89 lf vA
def qd5 x:=aC (pM x) (by dsimp only[pM,q89,lf,s2,s8,d2,d3,d4,d8,IS,JS,Lf.r,Lf.v,Lf.w,Lf.z,SZ])
def abE a0 a1 a2 a3 a4:o9 (((a0,a1,a2,a3,a4),()))=aw (qw (a0,())) (fun b=>aw (aL (ai b.1) (some true) (some (aZ 60 (aa a1.l)))) (fun d=>aw (aL d (some true) (some (aZ 200 (aa a4.l)))) (fun e=>aw (aL e (some true) (aw (vu (a1,())) (fun g=>some g.1))) (fun h=>aw (aL h (some true) (aw (vw (a4,())) (fun i=>some i.1))) (fun j=>aL j (some (240,())) (aw (qy (a3,())) (fun k=>aw (aL (ai (ah k.1 0)) (some (ai (ah k.1 102))) (some false)) (fun m=>aw (aL m (some true) (aw (iC (a2,())) (fun n=>some (ai (ah n.1 0))))) (fun o=>aL o (some (240,())) (aI pM (a4,aa a4.l,0,a0,a1,a2,a3,a4,⟨true,([]:List Y1)⟩,()))))))))))):=by kernel_rfl
def Sx a0 a1 a2:=aC (kJ (a0,a1,a2,())) (by dsimp only[kJ,KU,lf,d2,Lf.w,SZ])
def Sy a0:=aC (pe (a0,())) (by dsimp only[pe,KV,lf,Lf.w,SZ])
def abF a0 a1 a2 a3 a4 a5:=aC (qz ((a0,a1,a2),(a3,a4,a5),())) (by dsimp only[qz,KW,lf,SZ])
noncomputable abbrev pP:=q3p lf qz
def q6i x:=aC (pP x) (by dsimp only[pP,q3p,lf,s3,d2,d3,IS,JS])
def abG a0 a1 a2 a3:Cj ((a0,(a1,a2,a3),()))=aI pP (a0,(a1,a2,a3),aa a0.l,0,()):=by kernel_rfl
noncomputable abbrev tw:=q4j lf qz
def q7s x:=aC (tw x) (by dsimp only[tw,q4j,lf,s2,d2,d3,IS,JS,SZ])
def abH a0 a1 a2 a3:Ck (((a0,a1,a2),a3,()))=aw (Cj (a3,(a0,a1,a2),())) (fun b=>aL (ah b.1 (-1)) (some (a3,())) (aI tw ((a0,a1,a2),b.1,bc .i64 b.1 1,a3,()))):=by kernel_rfl
def abI a0 a1 a2 a3:=aC (pf (a0,(a1,a2,a3),())) (by dsimp only[pf,KX,lf,Lf.r,Lf.v,Lf.w,Lf.z,SZ])
noncomputable abbrev tA:=qc7 lf n5
def qhs x:=aC (tA x) (by dsimp only[tA,qc7,lf,d2,d3,IS,JS,Lf.v,Lf.w,Lf.z])
def abJ a0 a1:lE ((a0,a1,()))=aw (n5 (a0,a1,())) (fun b=>aL (aZ b.1 0) (some (⟨true,([]:Y1)⟩,())) (aw (fL a0.l a1) (fun d=>aI tA (a0,bc .i64 a1 1,d.2.2.2,⟨true,([]:Y1)⟩,())))):=by kernel_rfl
noncomputable abbrev tB(self:qn):=WH lf self
def qd6(self:qn) x:=aC (tB self x) (by dsimp only[tB,WH,lf,s3,s6,d2,d3,d4,d5,d6,IS,JS,Lf.w,Lf.y,SZ])
def abK self a0 a1 a2 a3:vB self ((a0,a1,a2,a3,()))=aw (fL a0.l a1) (fun b=>aL (ah b.1 31) (some (([fR .u8 (bc .i64 97 b.2.2.1)]:Y1),())) (aw (lE (a0,a1,())) (fun d=>aL (bW b.2.1 ([45,62]:Y1)) (aw (fL d.1.l 0) (fun e=>aw (self (a0,e,false,true,())) (fun g=>aw (fit (bL (aa g.1) (aa ([32,45,62,32]:Y1)))) (fun _=>aw (fL d.1.l 1) (fun h=>aw (self (a0,h,false,false,())) (fun i=>aw (fit (bL (aa (fw g.1 ([32,45,62,32]:Y1))) (aa i.1))) (fun _=>aw (aL a2 (some true) (some a3)) (fun j=>aL j (aw (fit (bL (aa ([40]:Y1)) (aa (fw (fw g.1 ([32,45,62,32]:Y1)) i.1)))) (fun _=>aw (fit (bL (aa (fw ([40]:Y1) (fw (fw g.1 ([32,45,62,32]:Y1)) i.1))) (aa ([41]:Y1)))) (fun _=>some (fw (fw ([40]:Y1) (fw (fw g.1 ([32,45,62,32]:Y1)) i.1)) ([41]:Y1),())))) (some (fw (fw g.1 ([32,45,62,32]:Y1)) i.1,())))))))))) (aI (tB self) (a0,a2,d.1,b.2.1,d.1,aa d.1.l,0,()))))):=by kernel_rfl
noncomputable abbrev tC:=q5j lf Cl
def q9l x:=aC (tC x) (by dsimp only[tC,q5j,lf,d2,d3,d4,d5,d6,IS,IZ,JS,Lf.w])
noncomputable abbrev tD:=q5k lf tC
def q9m x:=aC (tD x) (by dsimp only[tD,q5k,lf,s0,d2,d3,d5,JS,JZ,Lf.w,SZ])
noncomputable abbrev tE:=q5l lf tD
def q9n x:=aC (tE x) (by dsimp only[tE,q5l,lf,s0,s2,d2,d5,IS,Lf.w])
def abL a0 a1 a2:yB (((a0,a1,a2),()))=aw (fit (bL (aa ([116,121,112,101,32]:Y1)) (aa a0))) (fun _=>aI tE (fw ([116,121,112,101,32]:Y1) a0,a1,0,a0,a1,a2,())):=by kernel_rfl
def qht self a0 a1 a2 a3:=aC (Hk self (a0,a1,a2,a3,())) (by dsimp only[Hk,WI,lf,d2,d3,SZ])
noncomputable abbrev tF:=qc8 lf
def qhu x:=aC (tF x) (by dsimp only[tF,qc8,lf,d2,d3,IS,JS,Lf.w])
def abM a0 a1 a2 a3 a4:kt (((a0,a1,a2,a3),a4,()))=aI tF (a4,aa a4.l,0,⟨false,([(a0,a1,a2,aa a4.l)]:List Y0)⟩,()):=by kernel_rfl
def abN a0:=aC (Fa (a0,())) (by dsimp only[Fa,KZ,lf,SZ])
def abO a0:=aC (nq (a0,())) (by dsimp only[nq,K0,lf,SZ])
def Sz a0:=aC (mr (a0,())) (by dsimp only[mr,K1,lf,SZ])
def q8u(a0:Int)(a1:Bool)(a2:Sl Int)(c:qj->OZ qj):K3 lf c ((a0,a1,a2,()))=aw (c (a1,a2,())) (fun b=>aw (fit (bL (aa b.2.1.l) (aa ([a0]:Y1)))) (fun _=>some (b.1,⟨aH b.2.1.nil (cB ([a0]:Y1)),app b.2.1.l ([a0]:Y1)⟩,()))):=by kernel_rfl
def abP a0 a1 a2:yD ((a0,a1,a2,()))=aw (sC (a1,a2,())) (fun b=>aw (fit (bL (aa b.2.1.l) (aa ([a0]:Y1)))) (fun _=>some (b.1,⟨aH b.2.1.nil (cB ([a0]:Y1)),app b.2.1.l ([a0]:Y1)⟩,()))):=q8u a0 a1 a2 sC
noncomputable abbrev tG:=qc9 lf kJ yC yD
def qhv x:=aC (tG x) (by dsimp only[tG,qc9,lf,s2,d2,d3,d4,d5,d6,d7,IS,JS,Lf.r,Lf.w,SZ])
def abQ a0:Fe ((a0,()))=aw (yD (34,false,⟨true,([]:Y1)⟩,())) (fun b=>aI tG (a0,aa a0,0,b.1,b.2.1,())):=by kernel_rfl
def abR a0:=aC (sD (a0,())) (by dsimp only[sD,K4,lf,Lf.w,SZ])
def abS a0:=aC (Ff (a0,())) (by dsimp only[Ff,K5,lf,SZ])
def abT a0:=aC (yE (a0,())) (by dsimp only[yE,K6,lf,SZ])
def abU a0:=aC (yF (a0,())) (by dsimp only[yF,K7,lf,SZ])
def abV a0:=aC (ph (a0,())) (by dsimp only[ph,K8,lf,SZ])
def abW:=aC (nu ()) (by dsimp only[nu,K9,lf,SZ])
def abX a0 a1:=aC (Fg (a0,a1,())) (by dsimp only[Fg,La,lf,SZ])
def abY a0:=aC (pj (a0,())) (by dsimp only[pj,Lb,lf,SZ])
def abZ a0:=aC (sE (a0,())) (by dsimp only[sE,Lc,lf,SZ])
noncomputable abbrev tH(self:qq):=WJ lf self
def qd7(self:qq) x:=aC (tH self x) (by dsimp only[tH,WJ,lf,s2,s5,d2,d3,d4,d5,d9,IS,JS,Lf.w,Lf.y,SZ])
def ab0 self a0 a1 a2:vC self ((a0,a1,a2,()))=aw (fL a0.l a1) (fun b=>aL (ah b.1 21) (some (([95]:Y1),())) (aL (ah b.1 22) (aw (sD (b.2.1,())) (fun d=>some (d.1,()))) (aL (ah b.1 23) (aw (mr (b.2.2.1,())) (fun e=>some (e.1,()))) (aw (lE (a0,a1,())) (fun g=>aI (tH self) (a0,a2,b.2.1,g.1,aa g.1.l,0,b.1,b.2.1,b.2.2.1,b.2.2.2,())))))):=by kernel_rfl
noncomputable abbrev Mq(self:lV):=WK lf self nq ph sE nu pj Fh
def q8k(self:lV) x:=aC (Mq self x) (by dsimp only[Mq,WK,lf,s1,d2,d3,d4,IS,JS,Lf.v,Lf.w,Lf.z,SZ])
def qhw(self:lV)(a0:Int)(a1:Sl Y0)(a2:Y3):Le self ((a0,a1,a2,()))=aw (lE (a1,a0,())) (fun b=>aw (nq (([109,97,116,99,104]:Y1),())) (fun d=>aw (fL b.1.l 0) (fun e=>aw (self (e,a1,a2,())) (fun g=>aw (sE (g.1,())) (fun h=>aw (nu ()) (fun i=>aw (nq (([119,105,116,104]:Y1),())) (fun j=>aI (Mq self) (b.1,1,g.2.1,g.2.2.1,⟨false,([d.1,h.1,i.1,j.1]:List Sa)⟩,())))))))):=by kernel_rfl
def ab1 a0 a1 a2:=aC (vD ((a0,a1),a2,())) (by dsimp only[vD,Lg,lf,Lf.r,SZ])
def ab2 a0 a1 a2:=aC (qA ((a0,a1),a2,())) (by dsimp only[qA,Lh,lf,SZ])
def qjh self a0 a1 a2 a3:=aC (Cm self (a0,a1,a2,a3,())) (by dsimp only[Cm,WL,lf,d2,d3,SZ])
def ab3 a0 a1 a2 a3 a4 a5 a6:=aC (Fi ((a0,a1),a2,(a3,a4,a5),a6,())) (by dsimp only[Fi,Li,lf,d2,d3,Lf.r,Lf.y,SZ])
def qji self a0 a1 a2 a3 a4 a5 a6:=aC (Hl self (a0,(a1,a2,a3),a4,a5,a6,())) (by dsimp only[Hl,WM,lf,d2,d3,d4,SZ])
def qjj self a0 a1 a2:=aC (Hm self (a0,a1,a2,())) (by dsimp only[Hm,WN,lf,d2,Lf.w,SZ])
noncomputable abbrev SA(self:lV):=WO lf ph nu qA pj (Cm self)
def q9o(self:lV) x:=aC (SA self x) (by dsimp only[SA,WO,lf,s0,d2,d3,d4,d5,d6,IS,JS,JZ,Lf.r,Lf.v,Lf.w,Lf.z,SZ])
noncomputable abbrev SB(self:lV):=WQ lf lE qA (SA self)
def q5o(self:lV) x:=aC (SB self x) (by dsimp only[SB,WQ,lf,d2,d3,IS,Lf.v,Lf.w,Lf.z])
def qjk(self:lV)(a0:Int)(a1:Sl Y0)(a2:Y3):Lj self ((a0,a1,a2,()))=aI (SB self) (a0,a1,a2,⟨true,([]:Y1)⟩,()):=by kernel_rfl
def FH self a0 a1 a2:=aC (qB self (a0,a1,a2,())) (by dsimp only[qB,Fj,lf,d2,d3,Lf.w,SZ])
def Mr a0 a1:=aC (sG (a0,a1,())) (by dsimp only[sG,Ll,lf,SZ])
def ab4 a0:=aC (Cn (a0,())) (by dsimp only[Cn,Lm,lf,Lf.r,SZ])
noncomputable abbrev pQ:=q4k lf Cn
def q7t x:=aC (pQ x) (by dsimp only[pQ,q4k,lf,s2,d2,IS,JS,SZ])
def ab5 a0 a1:Ln ((a0,a1,()))=aI pQ (a1,a0,0,()):=by kernel_rfl
def ab6 a0:=aC (Fl (a0,())) (by dsimp only[Fl,Lo,lf,SZ])
def ab7 a0:=aC (yG (a0,())) (by dsimp only[yG,Lp,lf,SZ])
def ab8 a0 a1 a2 a3:=aC (yH ((a0,a1,a2,a3),())) (by dsimp only[yH,Lq,lf,d2,d4,d6,IS,JS,JZ,Lf.r,Lf.y,SZ])
noncomputable abbrev tI:=q8a lf yH
def qd8 x:=aC (tI x) (by dsimp only[tI,q8a,lf,s2,d2,IS,JS])
def SC a0:Co ((a0,()))=aw (aL (aZ 4000 (aa a0.l)) (some true) (aw (n9 (a0,())) (fun b=>some (ai b.1)))) (fun d=>aL d (some (50,())) (aI tI (a0,aa a0.l,0,()))):=by kernel_rfl
def CG(self:qk)(b:Y99):OZ (Y99⊕WA):=aL (aZ b.2.2.2.2.1 b.2.2.2.1) (aw (self (b.2.2.2.2.2.2.2.2.2.2.1,b.2.2.1,b.1,b.2.1,b.2.2.2.2.2.2.2.2.2.2.2.1,b.2.2.2.2.2.2.2.2.2.2.2.2.1,b.2.2.2.2.2.2.2.2.2.2.2.2.2.1,b.2.2.2.2.2.2.2.2.2.2.2.2.2.2.1,())) (fun d=>some (Sum.inl (b.1,b.2.1,d.1,b.2.2.2.1,bc .i64 b.2.2.2.2.1 1,b.2.2.2.2.2.1,b.2.2.2.2.2.2.1,b.2.2.2.2.2.2.2.1,b.2.2.2.2.2.2.2.2.1,b.2.2.2.2.2.2.2.2.2.1,b.2.2.2.2.2.2.2.2.2.2.1,d.2.1,d.2.2.1,d.2.2.2.1,d.2.2.2.2.1,())))) (some (Sum.inr (b.2.2.1,b.2.2.2.2.2.1,b.2.2.2.2.2.2.1,b.2.2.2.2.2.2.2.1,b.2.2.2.2.2.2.2.2.1,b.2.2.2.2.2.2.2.2.2.1,b.2.2.2.2.2.2.2.2.2.2.1,b.2.2.2.2.2.2.2.2.2.2.2.1,b.2.2.2.2.2.2.2.2.2.2.2.2.1,b.2.2.2.2.2.2.2.2.2.2.2.2.2.1,b.2.2.2.2.2.2.2.2.2.2.2.2.2.2.1,())))
def Ms(self:qk)(a0:Int)(a1:Bool)(a2:Int)(a3:Int)(a4:Y1)(a5:Int)(a6:Int)(a7:Sl Y0)(a8:Bool)(a9:Nat)(a10:Nat)(a11:Int)(a12:Sl Int):OF self ((a0,a1,a2,a3,a4,a5,a6,a7,a8,(a9,a10),a11,a12,()))=aI (CG self) (a0,a1,bc .i64 a2 1,a6,0,a2,a3,a4,a5,a6,a7,a8,(a9,a10),a11,a12,()):=by kernel_rfl
def ab9 a0 a1 a2 a3 a4 a5:=aC (Fm (a0,a1,(a2,a3),a4,a5,())) (by dsimp only[Fm,Lr,lf,d2,d3,d4,Lf.w,SZ])
def aca a0 a1 a2 a3 a4 a5:=aC (yI (a0,a1,(a2,a3),a4,a5,())) (by dsimp only[yI,Ls,lf,d2,d3,d4,SZ])
def q7d(a0:Int)(a1:Bool)(a2:Nat)(a3:Nat)(a4:Int)(a5:Sl Int)(c:si->OZ si):Lt lf c ((a0,a1,(a2,a3),a4,a5,()))=aw (c (a1,(a2,a3),a4,a5,())) (fun b=>aw (fit (bL (aa b.2.2.2.1.l) (aa ([a0]:Y1)))) (fun _=>some (b.1,b.2.1,b.2.2.1,⟨aH b.2.2.2.1.nil (cB ([a0]:Y1)),app b.2.2.2.1.l ([a0]:Y1)⟩,()))):=by kernel_rfl
def acb a0 a1 a2 a3 a4 a5:Lu ((a0,a1,(a2,a3),a4,a5,()))=aw (vE (a1,(a2,a3),a4,a5,())) (fun b=>aw (fit (bL (aa b.2.2.2.1.l) (aa ([a0]:Y1)))) (fun _=>some (b.1,b.2.1,b.2.2.1,⟨aH b.2.2.2.1.nil (cB ([a0]:Y1)),app b.2.2.2.1.l ([a0]:Y1)⟩,()))):=q7d a0 a1 a2 a3 a4 a5 vE
def acd a0 a1 a2 a3 a4 a5:=aC (Cp (a0,a1,(a2,a3),a4,a5,())) (by dsimp only[Cp,Lw,lf,d2,d3,d4,SZ])
def ace a0 a1 a2 a3 a4 a5:=aC (Cq (a0,a1,(a2,a3),a4,a5,())) (by dsimp only[Cq,Lx,lf,d2,d3,d4,SZ])
noncomputable abbrev tJ:=q9a lf
def qe1 x:=aC (tJ x) (by dsimp only[tJ,q9a,lf,s0,s3,d2,d3,IS,JS,SZ])
def acf a0:Fo ((a0,()))=aI tJ (0,a0,aa a0.l,0,()):=by kernel_rfl
def acg self a0 a1 a2 a3 a4 a5 a6 a7 a8:=aC (sH self (a0,a1,a2,a3,a4,(a5,a6),a7,a8,())) (by dsimp only[sH,Fp,lf,d10,d11,d2,d3,d4,d5,d6,d7,d8,d9,IS,JS,JZ,SZ])
def SD a0:=aC (Cr (a0,())) (by dsimp only[Cr,Ly,lf,d2,d3,d4,SZ])
def Mt a0 a1:=aC (qC (a0,a1,())) (by dsimp only[qC,Lz,lf,SZ])
def ach a0:=aC (yJ (a0,())) (by dsimp only[yJ,LA,lf,Lf.w,SZ])
def aci a0 a1:Fs ((a0,a1,()))=some (aa a1.l,a0,a1,()):=by kernel_rfl
noncomputable abbrev tK:=q9b lf kJ qC yJ Fs yC
def q9p x:=aC (tK x) (by dsimp only[tK,q9b,lf,d10,d2,d3,d4,d5,d6,d7,IS,JS,JZ,Lf.w,SZ])
noncomputable abbrev tL:=q9c lf kJ yB tK
def qe2 x:=aC (tL x) (by dsimp only[tL,q9c,lf,d10,d2,d3,d4,d5,d6,d7,d8,d9,IS,Lf.w])
noncomputable abbrev tM:=q9d lf kJ pf tL
def qe3 x:=aC (tM x) (by dsimp only[tM,q9d,lf,d10,d2,d3,d4,d5,d6,d7,d8,d9,IS,Lf.w])
noncomputable abbrev tN:=q9e lf kJ pe tM
def qe4 x:=aC (tN x) (by dsimp only[tN,q9e,lf,d10,d2,d3,d4,d5,d6,d7,d8,d9,IS,Lf.w])
def acj a0 a1 a2 a3 a4 a5:Cs (((a0,a1,a2,a3,a4),a5,()))=aw (o9 ((a0,a1,a2,a3,a4),())) (fun b=>aL (ai (ah b.1 0)) (some (([]:Y1),b.1,())) (aw (iC (a5,())) (fun d=>aL (ai (ah d.1 0)) (some (([]:Y1),d.1,())) (aI tN (a5,a1,aa a1.l,0,a0,a1,a2,a3,a4,false,⟨true,([]:Y1)⟩,()))))):=by kernel_rfl
def ack a0:=aC (Ct (a0,())) (by dsimp only[Ct,LC,lf,SZ])
noncomputable abbrev Hp:=qdy lf Ct
def afW a0:Cu ((a0,()))=aI Hp (a0,0,()):=by kernel_rfl
noncomputable abbrev Hq:=qkj lf sy
def afX a0:Ft ((a0,()))=aI Hq (a0,0,()):=by kernel_rfl
noncomputable abbrev Hr:=qdz lf qu
def afY a0:Fu ((a0,()))=aI Hr (a0,0,()):=by kernel_rfl
noncomputable abbrev Hs:=qe0 lf sx
def afZ a0:Fv ((a0,()))=aI Hs (a0,0,()):=by kernel_rfl
def acm a0 a1 a2:=aC (vF (a0,a1,a2,())) (by dsimp only[vF,LD,lf,d2,SZ])
def Mu a0 a1:=aC (Cv (a0,a1,())) (by dsimp only[Cv,LG,lf,Lf.y,SZ])
def acn a0 a1:=aC (Cw (a0,a1,())) (by dsimp only[Cw,LH,lf,SZ])
def SE a0 a1:=aC (Fw (a0,a1,())) (by dsimp only[Fw,LI,lf,SZ])
def SF a0 a1:=aC (yK (a0,a1,())) (by dsimp only[yK,LJ,lf,SZ])
noncomputable abbrev iq:=qca lf mr
def SG x:=aC (iq x) (by dsimp only[iq,qca,lf,s2,s4,d2,d3,d4,IS,JS,Lf.r,SZ])
def SH a0:vG ((a0,()))=aw (yK (a0,([126]:Y1),())) (fun b=>aI iq (a0,b.2.1,0,b.1,0,())):=by kernel_rfl
noncomputable abbrev gU:=qam lf vr
def OG x:=aC (gU x) (by dsimp only[gU,qam,lf,s1,s2,d2,d3,d4,IS,IZ,JS,JZ,Lf.r,Lf.v,Lf.w,Lf.z,SZ])
def aco a0:=aC (yL (a0,())) (by dsimp only[yL,LL,lf,d2,Lf.r,SZ])
noncomputable abbrev ou:=qgd lf Cu yL
def W5 x:=aC (ou x) (by dsimp only[ou,qgd,lf,s1,d2,d3,d4,d5,d6,d7,IS,IZ,JS,JZ,Lf.r,Lf.v,Lf.w,Lf.y,Lf.z,SZ])
noncomputable abbrev mR:=qni lf ou
def acp a0:yM ((a0,()))=aI mR (a0,0,⟨true,([]:List Y0)⟩,()):=by kernel_rfl
def acq a0 a1 a2 a3 a4 a5:=aC (mu (a0,a1,a2,a3,a4,a5,())) (by dsimp only[mu,LM,lf,d2,d3,d4,d5,SZ])
def acr a0 a1 a2 a3 a4 a5:=aC (iV (a0,a1,a2,a3,a4,a5,())) (by dsimp only[iV,LN,lf,d2,d3,d4,d5,SZ])
def SI a0 a1 a2 a3 a4 a5:=aC (cH (a0,a1,a2,a3,a4,a5,())) (by dsimp only[cH,LP,lf,d2,d3,d4,d5,SZ])
def acs a0 a1 a2 a3:=aC (yN (a0,a1,a2,a3,())) (by dsimp only[yN,LR,lf,d2,d3,d4,d5,d6,d7,Lf.r,SZ])
def acu a0 a1 a2 a3 a4:=aC (Cy (a0,a1,a2,a3,a4,())) (by dsimp only[Cy,LS,lf,d2,d3,d4,Lf.y,SZ])
def acv self a0 a1 a2 a3:=aC (mv self (a0,a1,a2,a3,())) (by dsimp only[mv,Fy,lf,d2,d3,d4,SZ])
def acw a0 a1 a2 a3:=aC (yO (a0,a1,a2,a3,())) (by dsimp only[yO,LU,lf,d2,d3,d4,SZ])
noncomputable abbrev tO(self:nZ):=WR lf (mv self) yO
def q44(self:nZ) x:=aC (tO self x) (by dsimp only[tO,WR,lf,d2,d3,d4,IS,JS,Lf.v,Lf.w,Lf.z])
noncomputable abbrev tP:=qan lf
def qfl x:=aC (tP x) (by dsimp only[tP,qan,lf,s3,s4,d2,d3,d4,IS,JS,Lf.w])
def acx a0 a1:Cz ((a0,a1,()))=aI tP (a1,a0,aa a0.l,0,⟨true,([]:List Y0)⟩,()):=by kernel_rfl
def acy self a0 a1 a2 a3:=aC (sI self (a0,a1,a2,a3,())) (by dsimp only[sI,Fz,lf,d2,d3,d4,SZ])
def acz a0 a1 a2 a3:=aC (od (a0,a1,a2,a3,())) (by dsimp only[od,L3,lf,d2,d3,d4,d5,d7,Lf.w,SZ])
noncomputable abbrev mS:=q42 lf cH iV od
def q6y x:=aC (mS x) (by dsimp only[mS,q42,lf,d2,d3,d4,d5,d6,d7,d8,d9,IS,JS,JZ,Lf.v,Lf.w,Lf.z])
noncomputable abbrev kD:=q43 lf nk cH iV od mS
def q45 x:=aC (kD x) (by dsimp only[kD,q43,lf,d10,d2,d3,d4,d5,d6,d7,d8,d9,IS,Lf.v,Lf.w,Lf.z,SZ])
def acA a0 a1 a2 a3:CA ((a0,a1,a2,a3,()))=aw (cH (6,([116,121,112,101]:Y1),a0,a1,a2,a3,())) (fun b=>aw (cH (2,([]:Y1),b.2.1,b.2.2.1,b.2.2.2.1,b.2.2.2.2.1,())) (fun d=>aI kD (d.2.1,d.2.2.1,d.2.2.2.1,([]:Y1),0,d.1.2.1,0,d.2.2.2.2.1,(⟨true,[]⟩:Sl BG),(⟨true,[]⟩:Sl BG),()))):=by kernel_rfl
def acB a0 a1 a2 a3:=aC (vH (a0,a1,a2,a3,())) (by dsimp only[vH,L4,lf,d2,d3,d4,SZ])
def acC a0 a1 a2 a3 a4 a5 a6 a7 a8:=aC (mw (a0,a1,a2,a3,a4,a5,a6,a7,a8,())) (by dsimp only[mw,L5,lf,d2,d3,d4,d5,d6,d7,d8,SZ])
def acD a0 a1 a2 a3 a4 a5 a6 a7:=aC (my (a0,a1,a2,a3,a4,a5,a6,a7,())) (by dsimp only[my,L6,lf,d2,d3,d4,d5,d6,d7,SZ])
def Mv a0 a1 a2 a3 a4 a5 a6 a7 a8 a9:=aC (gR (a0,a1,a2,a3,a4,a5,a6,a7,a8,a9,())) (by dsimp only[gR,L7,lf,d2,d3,d4,d5,d6,d7,d8,d9,Lf.r,Lf.y,SZ])
def acE a0 a1 a2 a3 a4 a5 a6 a7:=aC (yQ (a0,a1,a2,a3,a4,a5,a6,a7,())) (by dsimp only[yQ,L8,lf,d2,d3,d4,d5,d6,d7,SZ])
noncomputable abbrev tQ:=q56 lf yQ
def q8l x:=aC (tQ x) (by dsimp only[tQ,q56,lf,d2,d3,d4,d5,d6,d7,d8,d9,IS,JS])
def af0 a0 a1 a2 a3 a4 a5 a6 a7:CB ((a0,a1,a2,a3,a4,a5,a6,a7,()))=aI tQ (a0,aa a0.l,0,a1,a2,a3,a4,a5,a6,a7,()):=by kernel_rfl
def acF a0 a1 a2 a3 a4 a5 a6:=aC (mz (a0,a1,a2,a3,a4,a5,a6,())) (by dsimp only[mz,L9,lf,d2,d3,d4,d5,d6,SZ])
def acG a0 a1 a2:=aC (gS (a0,a1,a2,())) (by dsimp only[gS,Ma,lf,d2,SZ])
def SJ a0 a1 a2 a3 a4 a5 a6 a7:=aC (kK (a0,a1,a2,a3,a4,a5,a6,a7,())) (by dsimp only[kK,Mb,lf,d2,d3,d4,d5,d6,d7,SZ])
def SK a0 a1 a2 a3 a4 a5 a6:=aC (sJ (a0,a1,a2,a3,a4,a5,a6,())) (by dsimp only[sJ,Mc,lf,d2,d3,d4,d5,d6,d7,SZ])
def SL a0 a1 a2 a3 a4 a5 a6:=aC (qE (a0,a1,a2,a3,a4,a5,a6,())) (by dsimp only[qE,Md,lf,d2,d3,d4,d5,d6,d7,SZ])
def qf5 self a0 a1 a2 a3 a4 a5 a6:=aC (CC self (a0,a1,a2,a3,a4,a5,a6,())) (by dsimp only[CC,WS,lf,d2,d3,d4,d5,d6,d7,SZ])
noncomputable abbrev OH(self:fU):=WT lf gR gS (CC self)
def q8m(self:fU) x:=aC (OH self x) (by dsimp only[OH,WT,lf,d2,d3,d4,d5,d6,d7,d8,IS,JS,Lf.v,Lf.w,Lf.z])
def qhx(self:fU)(a0:Sl Y0)(a1:Int)(a2:Y3)(a3:Int)(a4:Int)(a5:Int)(a6:Int):Me self ((a0,a1,a2,a3,a4,a5,a6,()))=aw (gR (0,2,⟨true,([]:List Y1)⟩,a0,a1,a2,a3,a4,a5,a6,())) (fun b=>aL (ai b.1) (aw ((CC self) (b.2.1,b.2.2.1,b.2.2.2.1,b.2.2.2.2.1,b.2.2.2.2.2.1,b.2.2.2.2.2.2.1,b.2.2.2.2.2.2.2.1,())) (fun d=>some (d.1,d.2.1,d.2.2.1,d.2.2.2.1,d.2.2.2.2.1,d.2.2.2.2.2.1,d.2.2.2.2.2.2.1,d.2.2.2.2.2.2.2.1,()))) (aw (mz (b.2.1,b.2.2.1,b.2.2.2.1,b.2.2.2.2.1,b.2.2.2.2.2.1,b.2.2.2.2.2.2.1,b.2.2.2.2.2.2.2.1,())) (fun e=>aI (OH self) (e.1.2.1,e.2.1,e.2.2.1,e.2.2.2.1,e.2.2.2.2.1,e.2.2.2.2.2.1,e.2.2.2.2.2.2.1,e.2.2.2.2.2.2.2.1,⟨true,([]:List Sa)⟩,())))):=by kernel_rfl
def FI self a0 a1 a2 a3 a4 a5 a6:=aC (oe self (a0,a1,a2,a3,a4,a5,a6,())) (by dsimp only[oe,FA,lf,d2,d3,d4,d5,d6,d7,SZ])
def qe5 self a0 a1 a2 a3 a4 a5 a6 a7:=aC (AR self (a0,a1,a2,a3,a4,a5,a6,a7,())) (by dsimp only[AR,WU,lf,d2,d3,d4,d5,d6,d7,SZ])
noncomputable abbrev Mw(self:fU):=WV lf lF gR (AR self)
def q6z(self:fU) x:=aC (Mw self x) (by dsimp only[Mw,WV,lf,d2,d3,d4,d5,d6,d7,IS,IZ,JS,Lf.v,Lf.w,Lf.z])
def qf6(self:fU)(a0:Sl Y0)(a1:Int)(a2:Y3)(a3:Int)(a4:Int)(a5:Int)(a6:Int):Mg self ((a0,a1,a2,a3,a4,a5,a6,()))=aw (self (a0,a1,a2,a3,a4,a5,a6,())) (fun b=>aw (kK (([119,105,116,104]:Y1),b.2.1,b.2.2.1,b.2.2.2.1,b.2.2.2.2.1,b.2.2.2.2.2.1,b.2.2.2.2.2.2.1,b.2.2.2.2.2.2.2.1,())) (fun d=>aw (aI (Mw self) (d.1,d.2.1,d.2.2.1,d.2.2.2.1,d.2.2.2.2.1,d.2.2.2.2.2.1,d.2.2.2.2.2.2.1,⟨false,([b.1]:List Sa)⟩,())) (cd (fun e=>aw (kK (([101,110,100]:Y1),e.1,e.2.1,e.2.2.1,e.2.2.2.1,e.2.2.2.2.1,e.2.2.2.2.2.1,e.2.2.2.2.2.2.1,())) (fun g=>aw (gS (10,([]:Y1),e.2.2.2.2.2.2.2.1,())) (fun h=>some (h.1,g.1,g.2.1,g.2.2.1,g.2.2.2.1,g.2.2.2.2.1,g.2.2.2.2.2.1,g.2.2.2.2.2.2.1,()))))))):=by kernel_rfl
def qge self a0 a1 a2 a3 a4 a5 a6:=aC (DP self (a0,a1,a2,a3,a4,a5,a6,())) (by dsimp only[DP,WW,lf,d2,d3,d4,d5,d6,d7,SZ])
noncomputable abbrev OI(self:fU):=WX lf gS (DP self) sJ
def q58(self:fU) x:=aC (OI self x) (by dsimp only[OI,WX,lf,s0,d2,d3,d4,d5,d6,d7,IS,JS])
noncomputable abbrev tR:=q7b lf
def qb7 x:=aC (tR x) (by dsimp only[tR,q7b,lf,d2,d3,IS,JS,JZ,Lf.w])
noncomputable abbrev tS:=q7c lf CD tR
def qb8 x:=aC (tS x) (by dsimp only[tS,q7c,lf,s1,s4,d2,d3,d4,IS,SZ])
def acH a0:FC ((a0,()))=aI tS (a0,0,a0,aa a0.l,0,()):=by kernel_rfl
def acI a0 a1:=aC (sK (a0,a1,())) (by dsimp only[sK,Mh,lf,Lf.w,SZ])
noncomputable abbrev tT:=qcc lf sK
def qs8 x:=aC (tT x) (by dsimp only[tT,qcc,lf,d2,d3,d4,d5,d6,d7,d8,IS,IZ,JS,JZ,Lf.r,SZ])
noncomputable abbrev tU:=qcb lf sK
def qhy x:=aC (tU x) (by dsimp only[tU,qcb,lf,IS,JS,JZ])
noncomputable abbrev pR:=qcd lf tT tU
def qcm x:=aC (pR x) (by dsimp only[pR,qcd,lf,d2,d3,d4,d5,IS,Lf.v,Lf.w,Lf.z])
noncomputable abbrev lI:=qce lf o8 pR
def qcn x:=aC (lI x) (by dsimp only[lI,qce,lf,s3,s4,d2,d3,d4,IS,JS,SZ])
def acJ a0 a1:vI ((a0,a1,()))=aw (iC (a0,())) (fun b=>aL (ai (ah b.1 0)) (some (⟨true,([]:Y1)⟩,b.1,())) (aL (aZ 400 (aa a1.l)) (some (⟨true,([]:Y1)⟩,40,())) (aw (wy (aa a1.l) (aa a1.l)) (fun d=>aI lI (a0,a1,aa a1.l,0,⟨false,rep d (([]:Y1),0,0)⟩,()))))):=by kernel_rfl
def SM self a0 a1 a2 a3:=aC (sL self (a0,a1,a2,a3,())) (by dsimp only[sL,FD,lf,d2,d3,d4,SZ])
noncomputable abbrev DQ(self:fU):=WY lf CB mw my gR mz (FB self) vI CE
def SO(self:fU) x:=aC (DQ self x) (by dsimp only[DQ,WY,lf,d10,d2,d3,d4,d5,d6,d7,d8,d9,IS,JS,Lf.r,Lf.v,Lf.w,Lf.z,SZ])
def qhz(self:fU)(a0:Sl Y0)(a1:Int)(a2:Y3)(a3:Int)(a4:Int)(a5:Int)(a6:Int):Mi self ((a0,a1,a2,a3,a4,a5,a6,()))=aw (my (a3,a0,a1,a2,a3,a4,a5,a6,())) (fun b=>aw ((FB self) (b.2.1,b.2.2.1,b.2.2.2.1,b.2.2.2.2.1,b.2.2.2.2.2.1,b.2.2.2.2.2.2.1,b.2.2.2.2.2.2.2.1,())) (fun d=>aI (DQ self) (b.1,d.2.1,d.2.2.1,d.2.2.2.1,d.2.2.2.2.1,d.2.2.2.2.2.1,d.2.2.2.2.2.2.1,d.2.2.2.2.2.2.2.1,⟨true,([]:Y1)⟩,⟨false,([d.1]:List Sa)⟩,⟨true,([]:List Y1)⟩,()))):=by kernel_rfl
def qgf self a0 a1 a2 a3 a4 a5 a6:=aC (Hn self (a0,a1,a2,a3,a4,a5,a6,())) (by dsimp only[Hn,WZ,lf,d2,d3,d4,d5,d6,d7,SZ])
def q5p self a0 a1 a2 a3 a4 a5 a6:=aC (Ho self (a0,a1,a2,a3,a4,a5,a6,())) (by dsimp only[Ho,W0,lf,d2,d3,d4,d5,d6,d7,SZ])
def FJ self a0 a1 a2 a3 a4 a5 a6:=aC (oh self (a0,a1,a2,a3,a4,a5,a6,())) (by dsimp only[oh,FE,lf,d2,d3,d4,d5,d6,SZ])
def acK a0 a1 a2:=aC (oo (a0,a1,a2,())) (by dsimp only[oo,Mj,lf,d2,d3,d4,d5,d6,d7,Lf.y,SZ])
def acL a0 a1 a2 a3 a4 a5 a6 a7:=aC (yR (a0,a1,a2,a3,a4,a5,a6,a7,())) (by dsimp only[yR,Mk,lf,d10,d11,d12,d14,d2,d3,d4,d5,d6,d7,d8,d9,IS,IZ,JS,JZ,Lf.r,Lf.v,Lf.w,Lf.y,Lf.z,SZ])
noncomputable abbrev lJ:=q9f lf o9 yR
def W6 x:=aC (lJ x) (by dsimp only[lJ,q9f,lf,s5,d10,d11,d12,d13,d14,d15,d16,d2,d3,d4,d5,d6,d7,d8,d9,IS,JS,JZ,Lf.r,SZ])
def acM a0 a1 a2:CF ((a0,a1,a2,()))=aw (iC (a2,())) (fun b=>aL (ai (ah b.1 0)) (some ((([]:Y1),(⟨true,[]⟩:Sl Y1),(⟨true,[]⟩:Sl Y6),(⟨true,[]⟩:Sl Y2),(⟨true,[]⟩:Sl Y5)),0,b.1,())) (aL (aZ 262144 (aa a1)) (some ((([]:Y1),(⟨true,[]⟩:Sl Y1),(⟨true,[]⟩:Sl Y6),(⟨true,[]⟩:Sl Y2),(⟨true,[]⟩:Sl Y5)),0,240,())) (aw (yM (a1,())) (fun d=>aL (ai (ah d.2.2.1 0)) (some ((([]:Y1),(⟨true,[]⟩:Sl Y1),(⟨true,[]⟩:Sl Y6),(⟨true,[]⟩:Sl Y2),(⟨true,[]⟩:Sl Y5)),d.2.1,d.2.2.1,())) (aw (pe (a2,())) (fun e=>aI lJ (a1,d.1,0,d.1,aa d.1.l,0,([]:Y1),a0,e.1,(⟨true,[]⟩:Sl Y1),(⟨true,[]⟩:Sl Y6),(⟨true,[]⟩:Sl Y2),(⟨true,[]⟩:Sl Y5),(⟨true,[]⟩:Sl Y1),(⟨true,[]⟩:Sl Y6),(⟨true,[]⟩:Sl Y2),(⟨true,[]⟩:Sl Y5),()))))))):=by kernel_rfl
noncomputable abbrev SP:=qcf lf
def qco x:=aC (SP x) (by dsimp only[SP,qcf,lf,IS,JS,Lf.y,SZ])
def qxr(a0:Y3):R7 ((a0,()))=aI SP (a0,0,()):=by kernel_rfl
def qs9 a0:=aC (R8 (a0,())) (by dsimp only[R8,qcg,lf,Lf.w,SZ])
noncomputable abbrev tV(self:wO):=W2 lf self
def qi0(self:wO) x:=aC (tV self x) (by dsimp only[tV,W2,lf,d2,d3,IS,JS])
def acN self a0 a1:qF self ((a0,a1,()))=aw (aL (aZ a1 0) (some true) (some (cD (aa a0.l) a1))) (fun b=>aw (aL b (some true) (aw (fL a0.l a1) (fun d=>some (aZ d.2.2.2 0)))) (fun e=>aw (aL e (some true) (aw (fL a0.l a1) (fun g=>some (aZ (aa a0.l) g.2.2.2)))) (fun h=>aL h (some ((-1),())) (aI (tV self) (a0,a1,bc .i64 a1 1,0,()))))):=by kernel_rfl
noncomputable abbrev tW:=qao lf FG
def qfm x:=aC (tW x) (by dsimp only[tW,qao,lf,d2,d3,d4,IS,JS,Lf.v,Lf.w,Lf.z])
def acO a0 a1:Sj ((a0,a1,()))=aw (FG (a0,a1,())) (fun b=>aL (aZ b.1 0) (some (⟨false,([]:Y1)⟩,())) (aI tW (a0,a1,bc .i64 a1 1,0,⟨false,([]:Y1)⟩,()))):=by kernel_rfl
noncomputable abbrev wX:=qap lf
def qfn x:=aC (wX x) (by dsimp only[wX,qap,lf,s2,d2,IS,JS])
def acP a0 a1:yS ((a0,a1,()))=aL (ai (ah (aa a0.l) (aa a1.l))) (some (false,())) (aI wX (a0,a1,0,())):=by kernel_rfl
noncomputable abbrev wY:=qaq lf
def qfo x:=aC (wY x) (by dsimp only[wY,qaq,lf,s2,d2,IS,JS])
def acQ a0 a1:vJ ((a0,a1,()))=aL (ai (ah (aa a0.l) (aa a1.l))) (some (false,())) (aI wY (a0,a1,0,())):=by kernel_rfl
noncomputable abbrev wZ:=q9h lf vJ
def qe6 x:=aC (wZ x) (by dsimp only[wZ,q9h,lf,s2,d2,IS,JS])
def acR a0 a1:vK ((a0,a1,()))=aL (ai (ah (aa a0.l) (aa a1.l))) (some (false,())) (aI wZ (a0,a1,0,())):=by kernel_rfl
noncomputable abbrev SQ:=q9j lf vK
noncomputable abbrev SR:=q9i lf vK
noncomputable abbrev tX:=q5m lf vK
def q9q x:=aC (tX x) (by dsimp only[tX,q5m,lf,d2,d3,IS,IZ,JS,JZ])
noncomputable abbrev w7:=q5n lf SQ SR tX
def q9r x:=aC (w7 x) (by dsimp only[w7,q5n,lf,d2,JS])
def acS a0 a1:yT ((a0,a1,()))=aL (ai (ah (aa a0.l) (aa a1.l))) (some (false,())) (aI w7 (a0,a1,0,())):=by kernel_rfl
noncomputable abbrev tY:=qar lf vJ
def qfp x:=aC (tY x) (by dsimp only[tY,qar,lf,s0,d10,d5,IS,JS,JZ])
noncomputable abbrev tZ:=qas lf tY
def qfq x:=aC (tZ x) (by dsimp only[tZ,qas,lf,s0,d3,d8,IS,JS])
def acT a0 a1 a2 a3 a4 a5 a6 a7 a8 a9:yU (((a0,a1,a2,a3,a4),(a5,a6,a7,a8,a9),()))=aw (aL (ai (bW a0 a5)) (some true) (aw (yS (a1,a6,())) (fun b=>some (ai b.1)))) (fun d=>aw (aL d (some true) (some (ai (ah (aa a2.l) (aa a7.l))))) (fun e=>aw (aL e (some true) (aw (yT (a3,a8,())) (fun g=>some (ai g.1)))) (fun h=>aw (aL h (some true) (some (ai (ah (aa a4.l) (aa a9.l))))) (fun i=>aL i (some (false,())) (aI tZ (0,a0,a1,a2,a3,a4,a5,a6,a7,a8,a9,())))))):=by kernel_rfl
def ql0 a0 a1 a2:=aC (cq (a0,a1,a2,())) (by dsimp only[cq,q8b,lf,d2,d3,Lf.r,Lf.y,SZ])
end
end Fn
end Ev