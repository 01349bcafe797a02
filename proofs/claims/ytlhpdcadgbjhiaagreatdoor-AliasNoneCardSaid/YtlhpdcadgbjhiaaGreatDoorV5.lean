/- Parts of the proof, joined and shortened by a program: the plain machine, the functions as it prints them, and the mathematics over them. -/
import Derived.Test.YtlhpdcadgbjhiaaGreatDoorV3
set_option linter.unusedVariables false
set_option linter.unusedSimpArgs false
set_option maxRecDepth 100000
set_option maxHeartbeats 4000000
namespace Go.Proofs.YtlhpdcadgbjhiaaGreatDoor
section
open Option renaming some → a6, none → a7
open Tryz
open Go.RowKit
def apU (h:bH) (g:Int) (d:Int×EW×o8):Option (yc×(Int×EW×o8)×Unit):=cond (gm d.2.1 0) (aZ (abH h g (bT d.2.1 ([],(false,())) 0)) fun f=>cond (!f.2.1) (cond ((bC d.1 d.1)&&((Fz V8 d.2.1 d.2.1)&&((Pz d.2.2.1 d.2.2.1)&&true))) (a6 ((7,(g,(f.1,((!f.2.1),())))),((d.1,(d.2.1,(d.2.2.1,()))),()))) a7)<|cond (gy (bi d.2.1) 1 (bi d.2.1)) (aZ (pq (sub d.2.1 1 (bi d.2.1))) fun e=>cond (bC d.1 d.1) (cond (bC (bi e.1) (bi e.1)) (cond (Pz (gY 0 (bi e.1)) (gY 0 (bi e.1))) (cond ((bC d.1 d.1)&&((Pz (gY 0 (bi e.1)) (gY 0 (bi e.1)))&&true)) (a6 ((7,(g,(f.1,((!f.2.1),())))),((d.1,(e.1,((gY 0 (bi e.1)),()))),()))) a7) a7) a7) a7) a7) a7
def atK:Sum:=⟨[.str,bW,.pair bW tyJ],tzF,fun x=>apU x.1 x.2.1 x.2.2.1⟩
theorem alo:dO prog 99 atK:=qA f99 [] (sE afQ (sE uI aN))
def Xl (d:jY):Option o8:=cond (bC d.1 12) (a6 ((bC d.2.2.1 (bV .i64 d.2.1 1)),()))<|some (false,())
def ak1:Sum:=⟨[Hr],Wl,fun x=>Xl x.1⟩
theorem age:dO prog 213 ak1:=qA f213 [] aN
def TB (d:jY):Option mi:=cond d.2.2.2.2.1 (a6 ((bV .i64 d.2.1 2),((yV (eY .i64 d.2.2.1 0) (bV .i64 d.2.1 2)),())))<|some ((bV .i64 d.2.1 2),((yV (eY .i64 d.2.2.1 1) (bV .i64 d.2.1 2)),()))
def ab4 (d:jY):Option mi:=cond d.2.2.2.2.1 (a6 ((bV .i64 d.2.1 1),((yV (eY .i64 d.2.2.1 0) (bV .i64 d.2.1 1)),())))<|some ((bV .i64 d.2.1 1),((yV (eY .i64 d.2.2.1 0) (bV .i64 d.2.1 1)),()))
def ab5 (d:jY):Option mi:=cond d.2.2.2.2.1 (a6 ((bV .i64 d.2.1 1),((yV (eY .i64 d.2.2.1 0) (bV .i64 d.2.1 1)),())))<|some ((bV .i64 d.2.1 1),((yV (eY .i64 d.2.2.1 1) (bV .i64 d.2.1 1)),()))
def TC (d:jY):Option mi:=cond (bC d.1 9) (cond d.2.2.2.2.1 (a6 ((bV .i64 d.2.1 3),((yV (eY .i64 d.2.2.1 0) (bV .i64 d.2.1 3)),())))<|some ((bV .i64 d.2.1 3),((yV (eY .i64 d.2.2.1 2) (bV .i64 d.2.1 3)),())))<|cond (bC d.1 13) (cond (bC d.1 13) (ab4 d)<|ab5 d)<|cond (bC d.1 12) (ab4 d)<|ab5 d
def ab3 (d:jY):Option mi:=cond (bC d.1 1) (cond (bC d.1 1) (TB d)<|TC d)<|cond (bC d.1 7) (cond (bC d.1 7) (TB d)<|TC d)<|cond (bC d.1 8) (TB d)<|TC d
def ak6:Sum:=⟨[Hr],[(.int .i64,false),(.int .i64,false)],fun x=>ab3 x.1⟩
theorem agq:dO prog 249 ak6:=qA f249 [] aN
noncomputable def Sv:Code:=(Tryz.f143.body).getD .skip
noncomputable def LV:Code:=(f170.body).getD .skip
noncomputable def LW:Code:=(f210.body).getD .skip
noncomputable def LX:Code:=(f215.body).getD .skip
noncomputable def MB:Code:=cA (cA (cB (cA (cB (cB (LV))))))
noncomputable def MC:Code:=cA (cA (cB (cA (cB (cB (cB (cA (cB (LW)))))))))
noncomputable def MF:Code:=cA (cA (cB (cA (cB (cB (cB (cB (LX))))))))
def NG:dW:=⟨[3,15,16,17,171000003],[],[3],[],[2],[]⟩
def NH:dW:=⟨[1,2,3,4,5,211000004],[(300000300,.pair (.list .unit) (.int .u8))],[4],[],[],[]⟩
def NI:dW:=⟨[0,2,8,9,10,11,123000005],[(9,(.int .u8))],[2,9,10],[],[6],[]⟩
def amL:dW:=⟨[2,3],[],[],[],[],[]⟩
def amA:dW:=⟨[0,2,3],[],[],[],[],[]⟩
def amB:dW:=⟨[3,4],[],[],[],[],[]⟩
def ack:dW:=⟨[3],[],[],[],[],[]⟩
def XM:dW:=⟨[1,2,3,4,5],[],[],[],[],[]⟩
def yO:dW:=⟨[1,2,3,4,5,6],[],[],[],[],[]⟩
def TU:dW:=⟨[1,2,3,4,5,8,9],[],[],[],[],[]⟩
def XN:dW:=⟨[1,3],[],[],[],[],[]⟩
def XO:dW:=⟨[0,2,8,9,10,11],[],[],[],[],[]⟩
def TV:dW:=⟨[0,2,8,9,10,12],[],[],[],[],[]⟩
def XP:dW:=⟨[0,2,8,9,12],[],[],[],[],[]⟩
def XQ:dW:=⟨[0,2,8,12],[],[],[],[],[]⟩
def TW:dW:=⟨[2,9],[],[],[],[],[]⟩
def yZ:SQ:=⟨us [.u,.u,.u,cR,.u,.u,.u,.u,.u,.u,.u,.u,.u,.u,.u,d7,bX,bX] 14,[us [bL,.u,bL,dS,.u,bL] 7,[]],[cm,cN,cr,cK]⟩
def AY:SQ:=⟨us [.u,.u,.u,cR] 28,[us [bL,.u,bL,dS,.u,bL] 7,[]],[cm,cN,cr,cK]⟩
def Be:SQ:=⟨us [] 112,[cf,cJ,[]],bA⟩
def vV {e:Type} (s:(List jY)->Int->Int->bH->bH->bH->bH->(List jY)->(List mJ)->jB->Option e) (u:bH->bH->bH->bH->(List jY)->(List mJ)->jB->Option e) (v:bH->bH->(List jY)->(List mJ)->bH->jB->Option e) (f:List jY) (g d:Int) (h i j l:bH) (o:List jY) (p:List mJ) (q:jB):Option e:=cond (gY d g) (cond (gm f d) (s f g (bV .i64 d 1) h i j l o (kN p (bT f (0,(0,(0,(0,(false,()))))) d).2.1 (bV .i64 d 1)) q) a7)<|u h i j l o p q
def og:Nat->(List jY)->Int->Int->bH->bH->bH->bH->(List jY)->(List mJ)->jB->Option (AY.den⊕Be.den)
 |0,_,_,_,_,_,_,_,_,_,_=>a7
 |n+1,d,e,f,g,h,i,j,l,o,p=>vV (og n) (fun q s u v x y z=>a6 (.inl ((),((q,s,u,()),(),()),((v,x,()),y,(),z,())))) (fun A B D E G I=>a6 (.inr ((),((A,()),(),(),()),((B,D,()),E,(),(G,()),I,(),())))) d e f g h i j l o p
def X5 (n:Nat) (v:yZ.den):=og n v.1.1 v.1.2.1 v.1.2.2.1 v.2.1.1.1 v.2.1.1.2.1 v.2.1.1.2.2.1 v.2.2.1.1 v.2.2.1.2.1 v.2.2.2.1 v.2.2.2.2.2.1
noncomputable def JH:dA:=eH NG yZ AY Be (.exit 0) (X5 bD) 6
def zg:SQ:=⟨us [cR,.u,.yld 1700008,.u,.u,.u,.u,.u,bX,.slc 4800009,ci,bX] 83,[bB,cf,cJ,[]],bR⟩
def vG:SQ:=⟨us [.u,.u,.yld 1700008,.u,.u,.u,.u,.u,.u,.slc 4800009,ci] 84,[bB,cf,cJ,[]],bR⟩
def vK:SQ:=⟨us [] 112,[cf,cJ,[]],bA⟩
def dK (d:List jY) (e:List mJ) (f:Int):=bT d (0,(0,(0,(0,(false,()))))) (eY .i64 (kw e f) 1)
def gK (d:bH) (e:List jY) (f:List mJ) (g:Int):=bU d (bV .i64 (dK e f g).2.1 1)
def jl (g:bH) (d:List jY) (e:List mJ) (f:Int):=bF (sub g (dK d e f).2.1 (dK d e f).2.2.1)
def lg {h:Type} (i:jB) (f:bH) (d:List jY) (e:List mJ) (g:Int) (j:Int->Bool->Int->Int->Bool->Bool->jY->bH->jB->Int->Int->Int->Int->Bool->jB->bH->(List jY)->(List mJ)->bH->jB->Option h) (l:Int) (o:Bool) (p:Int) (q s:Bool) (u:jY) (v:bH) (x y z A:Int) (B:Bool) (D:jB) (E:bH) (G:jB):Option h:=cond (dZ (bI i (bF (ofBytes [(gK f d e g)]))) 1) (j l o (dK d e g).2.2.1 p q s u v (bI i (bF (ofBytes [(gK f d e g)]))) x y z A B D f d e E G) a7
def lm {i:Type} (g:bH) (d:List jY) (e:List mJ) (f:Int) (h:jB) (j:Int->Bool->Int->Int->Bool->Bool->jY->bH->jB->Int->Int->Int->Int->Bool->jB->bH->(List jY)->(List mJ)->bH->jB->Option i) (l:Int) (o:Bool) (p:Int) (q s:Bool) (u:jY) (v:bH) (x y z A:Int) (B:Bool) (D:jB) (E:bH) (G:jB):Option i:=cond (bC (gK g d e f) 10) (cond (dZ (bI h (bF [])) 1) (j l o (dK d e f).2.2.1 p q s u v (bI h (bF [])) x y z A B D g d e E G) a7)<|cond (gy (bi g) (dK d e f).2.1 (dK d e f).2.2.1) (cond (dZ (bI h (jl g d e f)) 1) (j l o (dK d e f).2.2.1 p q s u v (bI h (jl g d e f)) x y z A B D g d e E G) a7) a7
def vX {G:Type} (D:Int->Bool->Int->Int->Bool->Bool->jY->bH->jB->Int->Int->Int->Int->Bool->jB->bH->(List jY)->(List mJ)->bH->jB->Option G) (I:Bool->Int->Bool->Bool->jY->bH->jB->Int->Int->Int->Int->Bool->jB->bH->(List jY)->(List mJ)->bH->jB->Option G) (K:bH->bH->(List jY)->(List mJ)->bH->jB->Option G) (j:Int) (E:Bool) (d l:Int) (o p:Bool) (q:jY) (s:bH) (h:jB) (u v x y:Int) (z:Bool) (A:jB) (g:bH) (f:List jY) (e:List mJ) (B:bH) (i:jB):Option G:=cond (gY d j) (cond (bC (kw e d) 0) (cond (gm g d) (cond (dZ (bI h [(bU g d)]) 1) (D j E (bV .i64 d 1) l o p q s (bI h [(bU g d)]) u v x y z A g f e B i) a7) a7)<|cond (gm f (eY .i64 (kw e d) 1)) (aZ (Xl ((dK f e d).1,((dK f e d).2.1,((dK f e d).2.2.1,((dK f e d).2.2.2.1,((dK f e d).2.2.2.2.1,())))))) fun J=>cond J.1 (cond (gm g d) (cond (dZ (bI h [(bU g d)]) 1) (D j E (bV .i64 d 1) l o p q s (bI h [(bU g d)]) u v x y z A g f e B i) a7) a7)<|cond (bC (dK f e d).1 13) (cond (gY (eY .i64 (dK f e d).2.2.1 (dK f e d).2.1) 2) (cond (dZ (bI h (bF [])) 1) (D j E (dK f e d).2.2.1 l o p q s (bI h (bF [])) u v x y z A g f e B i) a7)<|cond (gm g (bV .i64 (dK f e d).2.1 1)) (cond (bC (gK g f e d) 36) (cond (bC (gK g f e d) 36) (lg h g f e d D j E l o p q s u v x y z A B i)<|lm g f e d h D j E l o p q s u v x y z A B i)<|cond (bC (gK g f e d) 96) (cond (bC (gK g f e d) 96) (lg h g f e d D j E l o p q s u v x y z A B i)<|lm g f e d h D j E l o p q s u v x y z A B i)<|cond (bC (gK g f e d) 34) (cond (bC (gK g f e d) 34) (lg h g f e d D j E l o p q s u v x y z A B i)<|lm g f e d h D j E l o p q s u v x y z A B i)<|cond (bC (gK g f e d) 92) (lg h g f e d D j E l o p q s u v x y z A B i)<|lm g f e d h D j E l o p q s u v x y z A B i) a7)<|cond (gY 0 (bi h)) (cond (dZ (bI i (bF (ofBytes h))) 1) (cond (gy (bi g) (dK f e d).2.1 (dK f e d).2.2.1) (cond (dZ (bI (bI i (bF (ofBytes h))) (jl g f e d)) 1) (D j true (dK f e d).2.2.1 l o p q s [] u v x y z A g f e B (bI (bI i (bF (ofBytes h))) (jl g f e d))) a7) a7) a7)<|cond (gy (bi g) (dK f e d).2.1 (dK f e d).2.2.1) (cond (dZ (bI i (jl g f e d)) 1) (D j true (dK f e d).2.2.1 l o p q s [] u v x y z A g f e B (bI i (jl g f e d))) a7) a7) a7)<|I E l o p q s h u v x y z A g f e B i
def jI:Nat->Int->Bool->Int->Int->Bool->Bool->jY->bH->jB->Int->Int->Int->Int->Bool->jB->bH->(List jY)->(List mJ)->bH->jB->Option (vG.den⊕vK.den)
 |0,_,_,_,_,_,_,_,_,_,_,_,_,_,_,_,_,_,_,_,_=>a7
 |n+1,d,e,f,g,h,i,j,l,o,p,q,s,u,v,x,y,z,A,B,D=>vX (jI n) (fun E G I J K L M N O S U V W X Y Z ab ad=>a6 (.inl ((E,()),((G,I,J,K,()),(L,()),(),(),()),(M,(N,O,S,U,V,()),W,(),(),(X,Y,()),Z,(),(ab,()),ad,(),())))) (fun r0 r1 r2 r3 r4 r5=>a6 (.inr ((),((r0,()),(),(),()),((r1,r2,()),r3,(),(r4,()),r5,(),())))) d e f g h i j l o p q s u v x y z A B D
def X7 (n:Nat) (v:zg.den):=aR (jI n) v
noncomputable def JJ:dA:=eH NI zg vG vK (.exit 0) (X7 bD) 12
def zf:SQ:=⟨us [.u,c9,.ptr 3000002 0,.ptr 3000003 0,cF,bX] 106,[cf,cJ,[]],b9⟩
def AZ:SQ:=⟨us [.u,.u,.u,.u,cF] 107,[cf,cJ,[]],b9⟩
def Bf:SQ:=⟨us [] 112,[cf,cJ,[]],bA⟩
def bG (d:List jY) (e:List mJ) (f:Int):=bT d (0,(0,(0,(0,(false,()))))) (eY .i64 (kw e f) 1)
def mX (d:List jY) (e:List mJ) (f:Int):=ab3 ((bG d e f).1,((bG d e f).2.1,((bG d e f).2.2.1,((bG d e f).2.2.2.1,((bG d e f).2.2.2.2.1,())))))
def ji (g:bH) (d:List jY) (e:List mJ) (f:Int):=sub g (bV .i64 (bG d e f).2.1 1) (bG d e f).2.2.1
def jk (g:bH) (d:List jY) (e:List mJ) (f:Int):=bF (sub g (bG d e f).2.1 (bG d e f).2.2.1)
def gz (d e:jB):=bI d (bF (ofBytes e))
def qo {h:Type} (g:bH) (d:List jY) (e:List mJ) (f:Int) (i:jB) (j:Int->bH->jB->bH->(List jY)->(List mJ)->bH->jB->Option h) (l o:bH) (p:jB):Option h:=cond (gy (bi g) (bG d e f).2.1 (bG d e f).2.2.1) (cond (dZ (bI i (jk g d e f)) 1) (j (bG d e f).2.2.1 l (bI i (jk g d e f)) g d e o p) a7) a7
def qp {q:Type} (d:List jY) (e:List mJ) (g:Int) (f:bH) (i h:jB) (l:Int->bH->jB->bH->(List jY)->(List mJ)->bH->jB->Option q) (o p:bH):Option q:=cond (bC (bG d e g).1 4) (aZ (mX d e g) fun j=>cond (gy (bi f) j.1 j.2.1) (cond (iG (ofBytes i) []) (cond (dZ (bI h (bF (sub f j.1 j.2.1))) 1) (l (bG d e g).2.2.1 o [] f d e p (bI h (bF (sub f j.1 j.2.1)))) a7)<|cond (dZ (gz h i) 1) (cond (dZ (bI (gz h i) (bF (sub f j.1 j.2.1))) 1) (l (bG d e g).2.2.1 o [] f d e p (bI (gz h i) (bF (sub f j.1 j.2.1)))) a7) a7) a7)<|cond (gy (bi f) (bV .i64 (bG d e g).2.1 1) (bG d e g).2.2.1) (cond (!(iG (ji f d e g) [])) (cond (!(iG (ji f d e g) [10])) (cond (iG (ofBytes i) []) (cond (dZ (bI h (bF (ji f d e g))) 1) (l (bG d e g).2.2.1 o [] f d e p (bI h (bF (ji f d e g)))) a7)<|cond (dZ (gz h i) 1) (cond (dZ (bI (gz h i) (bF (ji f d e g))) 1) (l (bG d e g).2.2.1 o [] f d e p (bI (gz h i) (bF (ji f d e g)))) a7) a7)<|l (bG d e g).2.2.1 o i f d e p h)<|l (bG d e g).2.2.1 o i f d e p h) a7
def qw {e:Type} (h:vG.den⊕vK.den) (f:Int->bH->jB->bH->(List jY)->(List mJ)->bH->jB->Option e) (g:bH->bH->(List jY)->(List mJ)->bH->jB->Option e):Option e:=dB h (fun d=>cond (bC (bi d.2.2.1) 0) (cond d.1.1 (cond d.2.1.1.2.2.1 (f d.2.1.1.1 d.2.1.2.1.1 [] d.2.2.2.2.2.2.2.1.1 d.2.2.2.2.2.2.2.1.2.1 d.2.2.2.2.2.2.2.2.1 d.2.2.2.2.2.2.2.2.2.2.1.1 d.2.2.2.2.2.2.2.2.2.2.2.1)<|g d.2.1.2.1.1 d.2.2.2.2.2.2.2.1.1 d.2.2.2.2.2.2.2.1.2.1 d.2.2.2.2.2.2.2.2.1 d.2.2.2.2.2.2.2.2.2.2.1.1 d.2.2.2.2.2.2.2.2.2.2.2.1)<|cond (dZ (bI d.2.2.2.2.2.2.2.2.2.2.2.1 (bF (ofBytes d.2.2.1))) 1) (cond d.2.1.1.2.2.1 (f d.2.1.1.1 d.2.1.2.1.1 [] d.2.2.2.2.2.2.2.1.1 d.2.2.2.2.2.2.2.1.2.1 d.2.2.2.2.2.2.2.2.1 d.2.2.2.2.2.2.2.2.2.2.1.1 (bI d.2.2.2.2.2.2.2.2.2.2.2.1 (bF (ofBytes d.2.2.1))))<|g d.2.1.2.1.1 d.2.2.2.2.2.2.2.1.1 d.2.2.2.2.2.2.2.1.2.1 d.2.2.2.2.2.2.2.2.1 d.2.2.2.2.2.2.2.2.2.2.1.1 (bI d.2.2.2.2.2.2.2.2.2.2.2.1 (bF (ofBytes d.2.2.1)))) a7)<|cond (dZ (bI d.2.2.2.2.2.2.2.2.2.2.2.1 (bF (ofBytes d.2.2.1))) 1) (cond d.2.1.1.2.2.1 (f d.2.1.1.1 d.2.1.2.1.1 [] d.2.2.2.2.2.2.2.1.1 d.2.2.2.2.2.2.2.1.2.1 d.2.2.2.2.2.2.2.2.1 d.2.2.2.2.2.2.2.2.2.2.1.1 (bI d.2.2.2.2.2.2.2.2.2.2.2.1 (bF (ofBytes d.2.2.1))))<|g d.2.1.2.1.1 d.2.2.2.2.2.2.2.1.1 d.2.2.2.2.2.2.2.1.2.1 d.2.2.2.2.2.2.2.2.1 d.2.2.2.2.2.2.2.2.2.2.1.1 (bI d.2.2.2.2.2.2.2.2.2.2.2.1 (bF (ofBytes d.2.2.1)))) a7) (fun i=>a7)
def qx {q:Type} (d:List jY) (e:List mJ) (f:Int) (h:jB) (l g o:bH) (i:jB) (p:Int->bH->jB->bH->(List jY)->(List mJ)->bH->jB->Option q) (u:bH->bH->(List jY)->(List mJ)->bH->jB->Option q):Option q:=cond (bC (bG d e f).1 5) (cond (iG (ofBytes h) []) (aZ (mX d e f) fun j=>aZ (jI bD j.2.1 false j.1 (bG d e f).2.2.1 true true ((bG d e f).1,((bG d e f).2.1,((bG d e f).2.2.1,((bG d e f).2.2.2.1,((bG d e f).2.2.2.2.1,()))))) l [] (bG d e f).1 (bG d e f).2.1 (bG d e f).2.2.1 (bG d e f).2.2.2.1 (bG d e f).2.2.2.2.1 h g d e o i) fun s=>qw s p u)<|cond (dZ (gz i h) 1) (aZ (mX d e f) fun j=>aZ (jI bD j.2.1 false j.1 (bG d e f).2.2.1 true true ((bG d e f).1,((bG d e f).2.1,((bG d e f).2.2.1,((bG d e f).2.2.2.1,((bG d e f).2.2.2.2.1,()))))) l [] (bG d e f).1 (bG d e f).2.1 (bG d e f).2.2.1 (bG d e f).2.2.2.1 (bG d e f).2.2.2.2.1 h g d e o (gz i h)) fun s=>qw s p u) a7)<|cond (iG (ofBytes h) []) (cond (gy (bi g) (bG d e f).2.1 (bG d e f).2.2.1) (cond (dZ (bI i (jk g d e f)) 1) (p (bG d e f).2.2.1 l [] g d e o (bI i (jk g d e f))) a7) a7)<|cond (dZ (gz i h) 1) (cond (gy (bi g) (bG d e f).2.1 (bG d e f).2.2.1) (cond (dZ (bI (gz i h) (jk g d e f)) 1) (p (bG d e f).2.2.1 l [] g d e o (bI (gz i h) (jk g d e f))) a7) a7) a7
def qy {p:Type} (d:List jY) (e:List mJ) (f:Int) (g:bH) (h i:jB) (j:Int->bH->jB->bH->(List jY)->(List mJ)->bH->jB->Option p) (l o:bH) (q:bH->bH->(List jY)->(List mJ)->bH->jB->Option p):Option p:=cond (bC (bG d e f).1 13) (cond (bC (bG d e f).1 13) (qp d e f g h i j l o)<|qx d e f h l g o i j q)<|cond (bC (bG d e f).1 4) (qp d e f g h i j l o)<|qx d e f h l g o i j q
def vW {p:Type} (o:Int->bH->jB->bH->(List jY)->(List mJ)->bH->jB->Option p) (u:bH->jB->bH->(List jY)->(List mJ)->bH->jB->Option p) (q:bH->bH->(List jY)->(List mJ)->bH->jB->Option p) (d:Int) (i:bH) (h:jB) (e:bH) (g:List jY) (f:List mJ) (j:bH) (l:jB):Option p:=cond (gY d (bi e)) (cond (bC (kw f d) 0) (cond (gm e d) (cond (iG e e) (cond (bC d d) (cond (dZ (bI h [(bU e d)]) 1) (cond (iG e e) (cond (bC d d) (cond (gm e d) (cond (bC (bU e d) (bU e d)) (o (bV .i64 d 1) i (bI h [(bU e d)]) e g f j l) a7) a7) a7) a7) a7) a7) a7) a7)<|cond (gm g (eY .i64 (kw f d) 1)) (aZ (Xl ((bG g f d).1,((bG g f d).2.1,((bG g f d).2.2.1,((bG g f d).2.2.2.1,((bG g f d).2.2.2.2.1,())))))) fun s=>cond s.1 (cond s.1 (qo e g f d h o i j l)<|qy g f d e h l o i j q)<|cond (bC (bG g f d).1 14) (qo e g f d h o i j l)<|qy g f d e h l o i j q) a7)<|u i h e g f j l
def iJ:Nat->Int->bH->jB->bH->(List jY)->(List mJ)->bH->jB->Option (AZ.den⊕Bf.den)
 |0,_,_,_,_,_,_,_,_=>a7
 |n+1,d,e,f,g,h,i,j,l=>vW (iJ n) (fun o p q s u v x=>a6 (.inl ((),((o,()),(),(),()),(p,(),(),(q,s,()),u,(),(v,()),x,(),())))) (fun y z A B D E=>a6 (.inr ((),((y,()),(),(),()),((z,A,()),B,(),(D,()),E,(),())))) d e f g h i j l
def X6 (n:Nat) (v:zf.den):=iJ n v.1.1 v.2.1.1.1 v.2.2.1 v.2.2.2.2.2.1.1 v.2.2.2.2.2.1.2.1 v.2.2.2.2.2.2.1 v.2.2.2.2.2.2.2.2.1.1 v.2.2.2.2.2.2.2.2.2.1
noncomputable def JI:dA:=eH NH zf AZ Bf (.exit 0) (X6 bD) 18
def abK (f:bH):Option (bH×Unit):=aZ (abW f) fun g=>aZ (og bD g.1 (bi g.1) 0 f [] f f g.1 [] []) fun i=>dB i (fun e=>aZ (iJ bD 0 e.2.1.1.2.1 [] e.2.2.1.1 e.2.2.1.2.1 e.2.2.2.1 e.2.1.1.2.1 e.2.2.2.2.2.1) fun j=>dB j (fun d=>cond (iG (ofBytes d.2.2.1) []) (cond (bC (bi d.2.2.2.2.2.2.2.2.2.1) (bi d.2.2.2.2.2.2.2.2.2.1)) (a6 ((ofBytes d.2.2.2.2.2.2.2.2.2.1),())) a7)<|cond (dZ (bI d.2.2.2.2.2.2.2.2.2.1 (bF (ofBytes d.2.2.1))) 1) (cond (bC (bi (bI d.2.2.2.2.2.2.2.2.2.1 (bF (ofBytes d.2.2.1)))) (bi (bI d.2.2.2.2.2.2.2.2.2.1 (bF (ofBytes d.2.2.1))))) (a6 ((ofBytes (bI d.2.2.2.2.2.2.2.2.2.1 (bF (ofBytes d.2.2.1)))),())) a7) a7) (fun h=>cond (bC (bi h.2.2.2.2.2.2.1) (bi h.2.2.2.2.2.2.1)) (a6 ((ofBytes h.2.2.2.2.2.2.1),())) a7)) (fun l=>a7)
def arH:Sum:=⟨[.str],[(.str,false)],fun x=>abK x.1⟩
noncomputable def zX:Env:=fK prog tt [(209,ak0),(213,ak1),(249,ak6)] [(170,3,NG),(210,4,NH),(215,5,NI),(143,500004,amL),(143,600002,amA),(143,600004,amB),(143,600005,ack),(210,600005,XM),(210,600016,yO),(210,600017,TU),(210,600019,yO),(210,600010,yO),(210,600020,acl),(211,600003,XN),(215,600006,XO),(215,600016,TV),(215,600007,XP),(215,600009,XQ),(215,600020,TW),(90,600001,yP)] [(170,3,JH),(215,5,JJ),(210,4,JI)] [143]
def J7 {d:Type} (a:yZ.den->Option d) (b:AY.den->Option d) (c:Be.den->Option d) (v:yZ.den):Option d:=vV (fun e f g h i j l o p q=>a ((e,f,g,()),((h,i,j,()),(),()),((l,o,()),p,(),q,()))) (fun s u x y z A B=>b ((),((s,u,x,()),(),()),((y,z,()),A,(),B,()))) (aM c) v.1.1 v.1.2.1 v.1.2.2.1 v.2.1.1.1 v.2.1.1.2.1 v.2.1.1.2.2.1 v.2.2.1.1 v.2.2.1.2.1 v.2.2.2.1 v.2.2.2.2.2.1
theorem Ym:dU zX 170 MB JH:=lN (J7) (h2:=by intros;simp only[J7,aM,vV,di,dm,aY,bZ,dn])
def J9 {d:Type} (a:zg.den->Option d) (b:vG.den->Option d) (c:vK.den->Option d) (v:zg.den):Option d:=aR (vX (fun e f g h i j l o p q s u x y z A B D E G=>a ((e,f,g,()),((h,i,j,l,()),(o,()),(),(),()),(p,(q,s,u,x,y,()),z,(),(),(A,B,()),D,(),(E,()),G,(),()))) (fun I J K L M N O S U V W X Y Z ab ad ae af=>b ((I,()),((J,K,L,M,()),(N,()),(),(),()),(O,(S,U,V,W,X,()),Y,(),(),(Z,ab,()),ad,(),(ae,()),af,(),()))) (aM c)) v
theorem Yo:dU zX 215 MF JJ:=lN (J9) (h2:=by intros;simp only[J9,aM,aR,vX,di,dm,aY,bZ,dn,dK,gK,jl,lg,lm])
def J8 {d:Type} (a:zf.den->Option d) (b:AZ.den->Option d) (c:Bf.den->Option d) (v:zf.den):Option d:=vW (fun e f g h i j l o=>a ((e,()),((f,()),(),(),()),(g,(),(),(h,i,()),j,(),(l,()),o,(),()))) (fun p q s u x y z=>b ((),((p,()),(),(),()),(q,(),(),(s,u,()),x,(),(y,()),z,(),()))) (aM c) v.1.1 v.2.1.1.1 v.2.2.1 v.2.2.2.2.2.1.1 v.2.2.2.2.2.1.2.1 v.2.2.2.2.2.2.1 v.2.2.2.2.2.2.2.2.1.1 v.2.2.2.2.2.2.2.2.2.1
theorem Yn:dU zX 210 MC JI:=lN (J8) (h2:=by intros;simp only[J8,aM,vW,di,dm,aY,bZ,dn,bG,mX,ji,jk,gz,qo,qp,qw,qx,qy])
theorem aqa:iW Sv=[]:=by kernel_rfl
theorem arj:iU Sv=[(cA (cA (cB (cA (cB (cB (Sv)))))),cB (cA (cB (cA (cB (cB (Sv)))))))]:=by kernel_rfl
theorem aql:dL zX 143 Sv:=nX Sv (by rw[arj];exact(aD (fun _=>(show oO 143 4=a6 (cA (cA (cB (cA (cB (cB (Sv)))))),cB (cA (cB (cA (cB (cB (Sv))))))) by kernel_rfl)) aN)) (by rw[aqa];exact aN)
theorem aaz:dL zX 170 LV:=zL [MB] (aD (fM (Ym)) aN)
theorem aaA:dL zX 210 LW:=zL [MC] (aD (fM (Yn)) aN)
theorem aaB:dL zX 215 LX:=zL [MF] (aD (fM (Yo)) aN)
theorem aep:eP zX:=eB (aD agd (aD age (aD agq aN))) [143,170,210,215] (aD ⟨Tryz.f143,Sv,by kernel_rfl,by kernel_rfl,aql⟩ (aD ⟨f170,LV,by kernel_rfl,by kernel_rfl,aaz⟩ (aD ⟨f210,LW,by kernel_rfl,by kernel_rfl,aaA⟩ (aD ⟨f215,LX,by kernel_rfl,by kernel_rfl,aaB⟩ aN))))
theorem afW:dO prog 143 arH:=sA aep
def abG (g:bH) (h:Int) (d:Int×EW×o8):Option ((Int×EW×o8)×Unit):=aZ (pq d.2.1) fun f=>cond (bC h 1) (a6 ((d.1,(f.1,(false,()))),()))<|cond (bC h 2) (a6 ((0,(f.1,((gY 0 (bi f.1)),()))),()))<|cond (bC h 4) (aZ (Jp g) fun e=>cond (bC e.1 4) (a6 ((e.1,(f.1,(false,()))),()))<|cond (bC e.1 5) (a6 ((e.1,(f.1,(false,()))),()))<|some ((0,(f.1,(false,()))),()))<|cond (bC h 6) (cond (!(bC d.1 0)) (aZ (abK g) fun e=>cond (iG g g) (cond (bC d.1 d.1) (cond (Pz (bC d.1 5) (bC d.1 5)) (cond (((iG g g)&&true)&&((iG e.1 e.1)&&true)) (cond (dZ (bI f.1 [(e.1,((bC d.1 5),()))]) 24) (cond (iG g g) (cond (bC d.1 d.1) (cond (Pz (bC d.1 5) (bC d.1 5)) (cond ((iG e.1 e.1)&&((Pz (bC d.1 5) (bC d.1 5))&&true)) (a6 ((0,((bI f.1 [(e.1,((bC d.1 5),()))]),(false,()))),())) a7) a7) a7) a7) a7) a7) a7) a7) a7)<|some ((0,(f.1,(false,()))),()))<|some ((0,(f.1,(false,()))),())
def arz:Sum:=⟨[.str,bW,.pair bW tyJ],[(.pair bW tyJ,false)],fun x=>abG x.1 x.2.1 x.2.2.1⟩
theorem afO:dO prog 101 arz:=qA f101 [] (sE uI (sE I4 (sE afW aN)))
def aae (d:Int×EW×o8):Option (yc×(Int×EW×o8)×Unit):=cond ((bC d.1 d.1)&&((Fz V8 d.2.1 d.2.1)&&((Pz d.2.2.1 d.2.2.1)&&true))) (a6 ((0,(0,(0,(false,())))),((d.1,(d.2.1,(d.2.2.1,()))),()))) a7
def aaf (e:bH) (h:Int) (f:Int×EW×o8):Option (yc×(Int×EW×o8)×Unit):=aZ (abE e h) fun d=>cond (gy (bi e) d.1.2.1 d.1.2.2.1) (aZ (abG (sub e d.1.2.1 d.1.2.2.1) d.1.1 (f.1,(f.2.1,(f.2.2.1,())))) fun g=>cond ((bC d.1.1 d.1.1)&&((bC d.1.2.1 d.1.2.1)&&((bC d.1.2.2.1 d.1.2.2.1)&&((Pz d.1.2.2.2.1 d.1.2.2.2.1)&&true)))) (cond (iG e e) (cond (bC d.1.2.1 d.1.2.1) (cond (bC d.1.2.2.1 d.1.2.2.1) (cond (iG e e) (cond (bC d.1.2.1 d.1.2.1) (cond (bC d.1.2.2.1 d.1.2.2.1) (cond (gy (bi e) d.1.2.1 d.1.2.2.1) (cond (iG (sub e d.1.2.1 d.1.2.2.1) (sub e d.1.2.1 d.1.2.2.1)) (cond (bC d.1.1 d.1.1) (cond ((bC f.1 f.1)&&((Fz V8 f.2.1 f.2.1)&&((Pz f.2.2.1 f.2.2.1)&&true))) (a6 ((d.1.1,(d.1.2.1,(d.1.2.2.1,(d.1.2.2.2.1,())))),((g.1.1,(g.1.2.1,(g.1.2.2.1,()))),()))) a7) a7) a7) a7) a7) a7) a7) a7) a7) a7) a7) a7
def amg (g:bH) (f:Int) (d:Int×EW×o8):Option (yc×(Int×EW×o8)×Unit):=cond (gY f 0) (aae d)<|cond (leI (bi g) f) (aae d)<|cond d.2.2.1 (cond (gY 0 (bi d.2.1)) (aZ (apU g f (d.1,(d.2.1,(d.2.2.1,())))) fun e=>a6 ((e.1.1,(e.1.2.1,(e.1.2.2.1,(e.1.2.2.2.1,())))),((e.2.1.1,(e.2.1.2.1,(e.2.1.2.2.1,()))),())))<|aaf g f d)<|aaf g f d
def aoT:Sum:=⟨[.str,bW,.pair bW tyJ],tzF,fun x=>amg x.1 x.2.1 x.2.2.1⟩
theorem alj:dO prog 68 aoT:=qA f68 [] (sE alo (sE afN (sE afO aN)))
noncomputable def b20:Code:=(Tryz.f20.body).getD .skip
noncomputable def ZA:Code:=(f67.body).getD .skip
noncomputable def WC:Code:=cA (cA (cB (cB (cB (ZA)))))
def XJ:dW:=⟨[0,1,3,4,5,241000003],[(100000501,.pair (.list .unit) (.pair .unit V8)),(300000301,.pair (.list .unit) (.pair .unit V8))],[],[],[],[]⟩
def ap8:dW:=⟨[2,3,4,5],[],[],[],[],[]⟩
def ap2:dW:=⟨[0,2,3,4,5],[],[],[],[],[]⟩
def afa:dW:=⟨[0,1,3,4],[],[],[],[],[]⟩
def GK:SQ:=⟨us [.yld 1700010,c9,.u,.ptr 3000003 0,.ptr 3000004 0,bX] 18,[ce,[.yld 1700010],[]],[.box 3000004 32 [bX,bX,bX,ci],.box 3000003 50 cI,.box 2000001 9 [bL],.lp 1700010 20 (ce) [10,11] 6 0 a7,.arr 1500004 Wj,.box 1000005 50 cI,cX,.box 1000003 50 [bX,.nils,ci]]⟩
def IG:SQ:=⟨us [] 24,[ce,[.yld 1700010],[]],[.box 2000001 9 [bL],.lp 1700010 20 (ce) [10,11] 6 0 a7,.arr 1500004 Wj,.box 1000005 50 cI,cX,.box 1000003 50 [bX,.nils,ci]]⟩
def IL:SQ:=⟨us [] 24,[ce,[.yld 1700010],[]],[]⟩
def CV {e:Type} (l:Int->Int->Int->Int->Bool->Int->EW->Bool->bH->(List yc)->Int->EW->Bool->Int->Bool->Option e) (o:bH->(List yc)->Int->EW->Bool->Int->Bool->Option e) (y:Option e) (h z A B:Int) (D:Bool) (p:Int) (q:EW) (s:Bool) (f:bH) (g:List yc) (u:Int) (v:EW) (x:Bool) (i:Int) (j:Bool):Option e:=cond (gY h (bi f)) (aZ (amg f h (p,(q,(s,())))) fun d=>cond ((bC d.2.1.1 d.2.1.1)&&((Fz V8 d.2.1.2.1 d.2.1.2.1)&&((Pz d.2.1.2.2.1 d.2.1.2.2.1)&&true))) (cond (dZ (bI g [(d.1.1,(d.1.2.1,(d.1.2.2.1,(d.1.2.2.2.1,()))))]) 32) (cond ((bC d.1.1 d.1.1)&&((bC d.1.2.1 d.1.2.1)&&((bC d.1.2.2.1 d.1.2.2.1)&&((Pz d.1.2.2.2.1 d.1.2.2.2.1)&&true)))) (cond ((bC d.2.1.1 d.2.1.1)&&((Fz V8 d.2.1.2.1 d.2.1.2.1)&&((Pz d.2.1.2.2.1 d.2.1.2.2.1)&&true))) (cond ((bC d.2.1.1 d.2.1.1)&&((Fz V8 d.2.1.2.1 d.2.1.2.1)&&((Pz d.2.1.2.2.1 d.2.1.2.2.1)&&true))) (l d.1.2.2.1 d.1.1 d.1.2.1 d.1.2.2.1 d.1.2.2.2.1 d.2.1.1 d.2.1.2.1 d.2.1.2.2.1 f (bI g [(d.1.1,(d.1.2.1,(d.1.2.2.1,(d.1.2.2.2.1,()))))]) d.2.1.1 d.2.1.2.1 d.2.1.2.2.1 i j) a7) a7) a7) a7) a7)<|o f g u v x i j
def tK:Nat->Int->Int->Int->Int->Bool->Int->EW->Bool->bH->(List yc)->Int->EW->Bool->Int->Bool->Option (IG.den⊕IL.den)
 |0,_,_,_,_,_,_,_,_,_,_,_,_,_,_,_=>a7
 |n+1,d,e,f,g,h,i,j,l,o,p,q,s,u,v,x=>CV (tK n) (fun y z A B D E G=>a6 (.inl ((),((),(),(),()),((y,()),(),z,(A,B,D,()),(),(E,G,()),())))) (a6 (.inr ((),((),(),(),()),()))) d e f g h i j l o p q s u v x
def afm (n:Nat) (v:GK.den):=ba (tK n) v
noncomputable def QN:dA:=eH XJ GK IG IL (.exit 0) (afm bD) 6
def Xi (e:bH):Option ((List yc)×(Int×EW×o8)×Unit):=aZ (tK bD 0 0 0 0 false 0 [] false e [] 0 [] false 0 false) fun f=>dB f (fun d=>a6 (d.2.2.2.2.1,((d.2.2.2.2.2.1.1,(d.2.2.2.2.2.1.2.1,(d.2.2.2.2.2.1.2.2.1,()))),()))) (fun g=>a7)
def adJ:Sum:=⟨[.str],[(.list Wj,false),(.pair bW tyJ,false)],fun x=>Xi x.1⟩
noncomputable def abC:Env:=fK prog tt [(68,aoT)] [(67,3,XJ),(20,500006,ap8),(20,600003,ap2),(67,600006,afa)] [(67,3,QN)] [20]
def Rn {d:Type} (a:GK.den->Option d) (b:IG.den->Option d) (c:IL.den->Option d) (v:GK.den):Option d:=ba (CV (fun e f g h i j l o p q s u x y z=>a ((e,()),((),(),(),()),((f,g,h,i,()),(j,l,o,()),(p,()),(),q,(s,u,x,()),(),(y,z,()),()))) (fun A B D E G I J=>b ((),((),(),(),()),((A,()),(),B,(D,E,G,()),(),(I,J,()),()))) (c ((),((),(),(),()),()))) v
theorem afv:dU abC 67 WC QN:=lN (Rn) (h2:=by intros;simp only[Rn,ba,CV,di,dm,aY,bZ,dn])
theorem as9:iW b20=[]:=by kernel_rfl
theorem atz:iU b20=[(cA (cA (cB (cA (cB (cB (cB (b20))))))),cB (cA (cB (cA (cB (cB (cB (b20))))))))]:=by kernel_rfl
theorem atf:dL abC 20 b20:=nX b20 (by rw[atz];exact(aD (fun _=>(show oO 20 6=a6 (cA (cA (cB (cA (cB (cB (cB (b20))))))),cB (cA (cB (cA (cB (cB (cB (b20)))))))) by kernel_rfl)) aN)) (by rw[as9];exact aN)
theorem ajj:dL abC 67 ZA:=zL [WC] (aD (fM (afv)) aN)
theorem ahr:eP abC:=eB (aD alj aN) [20,67] (aD ⟨Tryz.f20,b20,by kernel_rfl,by kernel_rfl,atf⟩ (aD ⟨f67,ZA,by kernel_rfl,by kernel_rfl,ajj⟩ aN))
theorem OV:dO prog 20 adJ:=sA ahr
def amd (e:bH) (d:yc):Option (bH×Unit):=cond (gY d.2.1 0) (a6 ([],()))<|cond (gY d.2.2.1 d.2.1) (a6 ([],()))<|cond (gY (bi e) d.2.2.1) (a6 ([],()))<|cond (gy (bi e) d.2.1 d.2.2.1) (a6 ((sub e d.2.1 d.2.2.1),())) a7
def aoQ:Sum:=⟨[.str,Wj],[(.str,false)],fun x=>amd x.1 x.2.1⟩
theorem ald:dO prog 39 aoQ:=qA f39 [] aN
noncomputable def b21:Code:=(Tryz.f21.body).getD .skip
noncomputable def aof:Code:=cA (cA (cB (cA (cB (b21)))))
def aow:dW:=⟨[0,4,7,8,9,100002],[(4,RS)],[4],[],[4],[(4,RS)]⟩
def acT:SP:=⟨us [bL,.u,.u,.u,.slc 1800004,.u,.u,.v (.list Wj),bX,bX] 42,[.arr 1800004 RS]⟩
def aaS:SP:=⟨us [.u,.u,.u,.u,.slc 1800004] 47,[.arr 1800004 RS]⟩
def aaX:SP:=⟨us [.u,.u,.u,.u,.v qE] 47,[]⟩
def dD (d:List yc) (e:Int):=bT d (0,(0,(0,(false,())))) e
def rG (d:List yc) (e:Int):=bC (dD d e).2.2.1 (dD d e).2.2.1
def xY {h:Type} (f:bH) (d:List yc) (e:Int) (i:List eG) (j:bH->(List yc)->Int->Int->(List eG)->Option h) (l:Int):Option h:=aZ (amd f ((dD d e).1,((dD d e).2.1,((dD d e).2.2.1,((dD d e).2.2.2.1,()))))) fun g=>cond (bC (dD d e).1 (dD d e).1) (cond (iG f f) (cond ((bC (dD d e).1 (dD d e).1)&&((bC (dD d e).2.1 (dD d e).2.1)&&((rG d e)&&((Pz (dD d e).2.2.2.1 (dD d e).2.2.2.1)&&true)))) (cond (bC (dD d e).2.1 (dD d e).2.1) (cond (rG d e) (cond (((iG f f)&&(((bC (dD d e).1 (dD d e).1)&&((bC (dD d e).2.1 (dD d e).2.1)&&((rG d e)&&((Pz (dD d e).2.2.2.1 (dD d e).2.2.2.1)&&true))))&&true))&&((iG g.1 g.1)&&true)) (cond (dZ (bI i [((dD d e).1,(g.1,((dD d e).2.1,((dD d e).2.2.1,()))))]) 40) (cond (bC (dD d e).1 (dD d e).1) (cond (iG f f) (cond ((bC (dD d e).1 (dD d e).1)&&((bC (dD d e).2.1 (dD d e).2.1)&&((rG d e)&&((Pz (dD d e).2.2.2.1 (dD d e).2.2.2.1)&&true)))) (cond (bC (dD d e).2.1 (dD d e).2.1) (cond (rG d e) (cond ((bC (dD d e).1 (dD d e).1)&&((iG g.1 g.1)&&((bC (dD d e).2.1 (dD d e).2.1)&&((rG d e)&&true)))) (j f d l (bV .i64 e 1) (bI i [((dD d e).1,(g.1,((dD d e).2.1,((dD d e).2.2.1,()))))])) a7) a7) a7) a7) a7) a7) a7) a7) a7) a7) a7) a7) a7
def VO {j:Type} (i:bH->(List yc)->Int->Int->(List eG)->Option j) (l o:(List eG)->Option j) (f:bH) (e:List yc) (g d:Int) (h:List eG):Option j:=cond (gY d g) (cond (gm e d) (cond (gY (dD e d).2.1 0) (i f e g (bV .i64 d 1) h)<|cond (gY (dD e d).2.2.1 (dD e d).2.1) (i f e g (bV .i64 d 1) h)<|cond (gY (bi f) (dD e d).2.2.1) (i f e g (bV .i64 d 1) h)<|cond (bC (dD e d).1 4) (cond (bC (dD e d).1 4) (xY f e d h i g)<|i f e g (bV .i64 d 1) h)<|cond (bC (dD e d).1 5) (cond (bC (dD e d).1 5) (xY f e d h i g)<|i f e g (bV .i64 d 1) h)<|cond (bC (dD e d).1 6) (cond (bC (dD e d).1 6) (xY f e d h i g)<|i f e g (bV .i64 d 1) h)<|cond (bC (dD e d).1 2) (xY f e d h i g)<|i f e g (bV .i64 d 1) h) a7)<|l h
def Az:Nat->bH->(List yc)->Int->Int->(List eG)->Option (aaS.den⊕aaX.den)
 |0,_,_,_,_,_=>a7
 |n+1,d,e,f,g,h=>VO (Az n) (fun i=>a6 (.inl ((),(i,())))) (fun j=>a6 (.inr ((j,()),()))) d e f g h
def aqA (n:Nat) (v:acT.den):=Az n v.1.1 v.1.2.1 v.1.2.2.1 v.1.2.2.2.1 v.2.1
noncomputable def aju:dA:=jb aow acT aaS aaX (.exit 0) (aqA bD) 6
def Xk (e:bH) (d:List yc):Option ((List eG)×Unit):=aZ (Az bD e d (bi d) 0 []) fun f=>dB f (fun g=>a6 (g.2.1,())) (fun h=>a6 (h.1.1,()))
def adK:Sum:=⟨[.str,.list Wj],[(.list RS,false)],fun x=>Xk x.1 x.2.1⟩
noncomputable def ahs:Env:=oC prog tt 21 [(39,aoQ)] [(2,aow)] [(2,aju)]
def aki {d:Type} (a:acT.den->Option d) (b:aaS.den->Option d) (c:aaX.den->Option d) (v:acT.den):Option d:=VO (fun e f g h i=>a ((e,f,g,h,()),(i,()))) (fun j=>b ((),(j,()))) (aE c) v.1.1 v.1.2.1 v.1.2.2.1 v.1.2.2.2.1 v.2.1
theorem aqM:dU ahs 21 aof aju:=lpS (aki) (h2:=by intros;simp only[aki,aE,VO,di,dm,aY,bZ,dn,dD,rG,xY])
theorem atg:dL ahs 21 b21:=zL [aof] (aD (fM (aqM)) aN)
theorem aht:eP ahs:=eA Tryz.f21 (aD ald aN) (atg)
theorem OW:dO prog 21 adK:=sA aht
end
end Go.Proofs.YtlhpdcadgbjhiaaGreatDoor
