/- Parts of the proof, joined and shortened by a program: the plain machine, the functions as it prints them, and the mathematics over them. -/
import Derived.Test.YtjegbhogodknhaaGreatDoorZ3
import Derived.Test.YtjegbhogodknhaaGreatDoorZ4
set_option linter.unusedVariables false
set_option linter.unusedSimpArgs false
set_option maxRecDepth 100000
set_option maxHeartbeats 4000000
namespace Go.Proofs.YtjegbhogodknhaaGreatDoor
section
open Option renaming some → a6, none → a7
open Tryz
open Go.RowKit
def aBP (i:dC) (g:Int) (d:Int×DJ×xy):Option taS:=cond (iy d.2.1 0) (bU (aiM i g (gW d.2.1 ([],(false,())) 0)) fun f=>cond (!f.2.1) (cond ((cZ d.1 d.1)&&((qV EU d.2.1 d.2.1)&&((kV d.2.2.1 d.2.2.1)&&true))) (a6 ((7,(g,(f.1,((!f.2.1),())))),((d.1,(d.2.1,(d.2.2.1,()))),()))) a7)<|cond (gy (bV d.2.1) 1 (bV d.2.1)) (bU (uK (sub d.2.1 1 (bV d.2.1))) fun e=>cond (cZ d.1 d.1) (cond (cZ (bV e.1) (bV e.1)) (cond (kV (iV 0 (bV e.1)) (iV 0 (bV e.1))) (cond ((cZ d.1 d.1)&&((kV (iV 0 (bV e.1)) (iV 0 (bV e.1)))&&true)) (a6 ((7,(g,(f.1,((!f.2.1),())))),((d.1,(e.1,((iV 0 (bV e.1)),()))),()))) a7) a7) a7) a7) a7) a7
def aHp:Sum:=⟨[.str,dL,.pair dL tyL],tzH,fun x=>aBP x.1 x.2.1 x.2.2.1⟩
theorem avK:eX prog 92 aHp:=qA f92 [] (sE anY (sE zM aN))
def adI (d:jT):Option xy:=cond (cZ d.1 12) (a6 ((cZ d.2.2.1 (dJ .i64 d.2.1 1)),()))<|some (false,())
def ave:Sum:=⟨[J7],YK,fun x=>adI x.1⟩
theorem aor:eX prog 206 ave:=qA f206 [] aN
def Zw (d:jT):Option qP:=cond d.2.2.2.2.1 (a6 ((dJ .i64 d.2.1 2),((Eo (fO .i64 d.2.2.1 0) (dJ .i64 d.2.1 2)),())))<|some ((dJ .i64 d.2.1 2),((Eo (fO .i64 d.2.2.1 1) (dJ .i64 d.2.1 2)),()))
def ajb (d:jT):Option qP:=cond d.2.2.2.2.1 (a6 ((dJ .i64 d.2.1 1),((Eo (fO .i64 d.2.2.1 0) (dJ .i64 d.2.1 1)),())))<|some ((dJ .i64 d.2.1 1),((Eo (fO .i64 d.2.2.1 0) (dJ .i64 d.2.1 1)),()))
def ajc (d:jT):Option qP:=cond d.2.2.2.2.1 (a6 ((dJ .i64 d.2.1 1),((Eo (fO .i64 d.2.2.1 0) (dJ .i64 d.2.1 1)),())))<|some ((dJ .i64 d.2.1 1),((Eo (fO .i64 d.2.2.1 1) (dJ .i64 d.2.1 1)),()))
def Zx (d:jT):Option qP:=cond (cZ d.1 9) (cond d.2.2.2.2.1 (a6 ((dJ .i64 d.2.1 3),((Eo (fO .i64 d.2.2.1 0) (dJ .i64 d.2.1 3)),())))<|some ((dJ .i64 d.2.1 3),((Eo (fO .i64 d.2.2.1 2) (dJ .i64 d.2.1 3)),())))<|cond (cZ d.1 13) (cond (cZ d.1 13) (ajb d)<|ajc d)<|cond (cZ d.1 12) (ajb d)<|ajc d
def aja (d:jT):Option qP:=cond (cZ d.1 1) (cond (cZ d.1 1) (Zw d)<|Zx d)<|cond (cZ d.1 7) (cond (cZ d.1 7) (Zw d)<|Zx d)<|cond (cZ d.1 8) (Zw d)<|Zx d
def avj:Sum:=⟨[J7],tzJ,fun x=>aja x.1⟩
theorem aoB:eX prog 232 avj:=qA f232 [] aN
noncomputable def YU:Code:=(f134.body).getD .skip
noncomputable def Sv:Code:=(f167.body).getD .skip
noncomputable def Sz:Code:=(f203.body).getD .skip
noncomputable def SA:Code:=(f208.body).getD .skip
noncomputable def SS:Code:=cA (cA (cB (cA (cB (cB (Sv))))))
noncomputable def SV:Code:=cA (cA (cB (cA (cB (cB (cB (cA (cB (Sz)))))))))
noncomputable def SX:Code:=cA (cA (cB (cA (cB (cB (cB (cB (SA))))))))
def Uo:fZ:=⟨[3,15,16,17,168000003],[],[3],[],[2],[]⟩
def Ur:fZ:=⟨[1,2,3,4,5,204000004],[(300000300,.pair (.list .unit) (.int .u8))],[4],[],[],[]⟩
def Us:fZ:=⟨[0,2,8,9,10,11,151000005],[(9,(.int .u8))],[2,9,10],[],[6],[]⟩
def axB:fZ:=⟨[2,3],[],[],[],[],[]⟩
def axr:fZ:=⟨[0,2,3],[],[],[],[],[]⟩
def axs:fZ:=⟨[3,4],[],[],[],[],[]⟩
def ad6:fZ:=⟨[1,2,3,4,5],[],[],[],[],[]⟩
def Ec:fZ:=⟨[1,2,3,4,5,6],[],[],[],[],[]⟩
def ZR:fZ:=⟨[1,2,3,4,5,8,9],[],[],[],[],[]⟩
def ad7:fZ:=⟨[1,3],[],[],[],[],[]⟩
def ad8:fZ:=⟨[0,2,8,9,10,11],[],[],[],[],[]⟩
def ZT:fZ:=⟨[0,2,8,9,10,12],[],[],[],[],[]⟩
def ad9:fZ:=⟨[0,2,8,9,12],[],[],[],[],[]⟩
def aea:fZ:=⟨[0,2,8,12],[],[],[],[],[]⟩
def ZU:fZ:=⟨[2,9],[],[],[],[],[]⟩
def Eu:SQ:=⟨us [.u,.u,.u,cX,.u,.u,.u,.u,.u,.u,.u,.u,.u,.u,.u,.v Xf,bL,bL] 14,[us [bN,.u,bN,cR,.u,bN] 7,[]],[ct,cV,cq,cN]⟩
def Gm:SQ:=⟨us [.u,.u,.u,cX] 28,[us [bN,.u,bN,cR,.u,bN] 7,[]],[ct,cV,cq,cN]⟩
def Gu:SQ:=⟨us [] 112,[cg,cL,[]],bS⟩
def AV {e:Type} (v:(List jT)->Int->Int->dC->dC->dC->dC->(List jT)->(List xf)->lq->Option e) (x:dC->dC->dC->dC->(List jT)->(List xf)->lq->Option e) (y:dC->dC->(List jT)->(List xf)->dC->lq->Option e) (f:List jT) (g d:Int) (i j l m:dC) (p:List jT) (q:List xf) (u:lq):Option e:=cond (iV d g) (cond (iy f d) (v f g (dJ .i64 d 1) i j l m p (xx q (gW f (0,(0,(0,(0,(false,()))))) d).2.1 (dJ .i64 d 1)) u) a7)<|x i j l m p q u
def tK:Nat->(List jT)->Int->Int->dC->dC->dC->dC->(List jT)->(List xf)->lq->Option (Gm.den⊕Gu.den)
 |0,_,_,_,_,_,_,_,_,_,_=>a7
 |n+1,d,e,f,g,i,j,l,m,p,q=>AV (tK n) (fun u v x y z A B=>a6 (.inl ((),((u,v,x,()),(),()),((y,z,()),A,(),B,())))) (fun D I J K L M=>a6 (.inr ((),((D,()),(),(),()),((I,J,()),K,(),(L,()),M,(),())))) d e f g i j l m p q
def ael (n:Nat) (v:Eu.den):=tK n v.1.1 v.1.2.1 v.1.2.2.1 v.2.1.1.1 v.2.1.1.2.1 v.2.1.1.2.2.1 v.2.2.1.1 v.2.2.1.2.1 v.2.2.2.1 v.2.2.2.2.2.1
noncomputable def Qa:dO:=gq Uo Eu Gm Gu (.exit 0) (ael bY) 6
def Ey:SQ:=⟨us [cX,.u,.yld 1700008,.u,.u,.u,.u,.u,bL,.slc 4800009,bX,bL] 83,[bO,cg,cL,[]],b8⟩
def AA:SQ:=⟨us [.u,.u,.yld 1700008,.u,.u,.u,.u,.u,.u,.slc 4800009,bX] 84,[bO,cg,cL,[]],b8⟩
def AC:SQ:=⟨us [] 112,[cg,cL,[]],bS⟩
def fP (d:List jT) (e:List xf) (f:Int):=gW d (0,(0,(0,(0,(false,()))))) (fO .i64 (tV e f) 1)
def jA (d:dC) (e:List jT) (f:List xf) (g:Int):=dm d (dJ .i64 (fP e f g).2.1 1)
def lZ (g:dC) (d:List jT) (e:List xf) (f:Int):=dR (sub g (fP d e f).2.1 (fP d e f).2.2.1)
def pO {i:Type} (j:lq) (f:dC) (d:List jT) (e:List xf) (g:Int) (l:Int->Bool->Int->Int->Bool->Bool->jT->dC->lq->Int->Int->Int->Int->Bool->lq->dC->(List jT)->(List xf)->dC->lq->Option i) (m:Int) (p:Bool) (q:Int) (u v:Bool) (x:jT) (y:dC) (z A B D:Int) (I:Bool) (J:lq) (K:dC) (L:lq):Option i:=cond (fG (bZ j (dR (ofBytes [(jA f d e g)]))) 1) (l m p (fP d e g).2.2.1 q u v x y (bZ j (dR (ofBytes [(jA f d e g)]))) z A B D I J f d e K L) a7
def pU {j:Type} (g:dC) (d:List jT) (e:List xf) (f:Int) (i:lq) (l:Int->Bool->Int->Int->Bool->Bool->jT->dC->lq->Int->Int->Int->Int->Bool->lq->dC->(List jT)->(List xf)->dC->lq->Option j) (m:Int) (p:Bool) (q:Int) (u v:Bool) (x:jT) (y:dC) (z A B D:Int) (I:Bool) (J:lq) (K:dC) (L:lq):Option j:=cond (cZ (jA g d e f) 10) (cond (fG (bZ i (dR [])) 1) (l m p (fP d e f).2.2.1 q u v x y (bZ i (dR [])) z A B D I J g d e K L) a7)<|cond (gy (bV g) (fP d e f).2.1 (fP d e f).2.2.1) (cond (fG (bZ i (lZ g d e f)) 1) (l m p (fP d e f).2.2.1 q u v x y (bZ i (lZ g d e f)) z A B D I J g d e K L) a7) a7
def AY {L:Type} (J:Int->Bool->Int->Int->Bool->Bool->jT->dC->lq->Int->Int->Int->Int->Bool->lq->dC->(List jT)->(List xf)->dC->lq->Option L) (M:Bool->Int->Bool->Bool->jT->dC->lq->Int->Int->Int->Int->Bool->lq->dC->(List jT)->(List xf)->dC->lq->Option L) (O:dC->dC->(List jT)->(List xf)->dC->lq->Option L) (l:Int) (K:Bool) (d m:Int) (p q:Bool) (u:jT) (v:dC) (i:lq) (x y z A:Int) (B:Bool) (D:lq) (g:dC) (f:List jT) (e:List xf) (I:dC) (j:lq):Option L:=cond (iV d l) (cond (cZ (tV e d) 0) (cond (iy g d) (cond (fG (bZ i [(dm g d)]) 1) (J l K (dJ .i64 d 1) m p q u v (bZ i [(dm g d)]) x y z A B D g f e I j) a7) a7)<|cond (iy f (fO .i64 (tV e d) 1)) (bU (adI ((fP f e d).1,((fP f e d).2.1,((fP f e d).2.2.1,((fP f e d).2.2.2.1,((fP f e d).2.2.2.2.1,())))))) fun N=>cond N.1 (cond (iy g d) (cond (fG (bZ i [(dm g d)]) 1) (J l K (dJ .i64 d 1) m p q u v (bZ i [(dm g d)]) x y z A B D g f e I j) a7) a7)<|cond (cZ (fP f e d).1 13) (cond (iV (fO .i64 (fP f e d).2.2.1 (fP f e d).2.1) 2) (cond (fG (bZ i (dR [])) 1) (J l K (fP f e d).2.2.1 m p q u v (bZ i (dR [])) x y z A B D g f e I j) a7)<|cond (iy g (dJ .i64 (fP f e d).2.1 1)) (cond (cZ (jA g f e d) 36) (cond (cZ (jA g f e d) 36) (pO i g f e d J l K m p q u v x y z A B D I j)<|pU g f e d i J l K m p q u v x y z A B D I j)<|cond (cZ (jA g f e d) 96) (cond (cZ (jA g f e d) 96) (pO i g f e d J l K m p q u v x y z A B D I j)<|pU g f e d i J l K m p q u v x y z A B D I j)<|cond (cZ (jA g f e d) 34) (cond (cZ (jA g f e d) 34) (pO i g f e d J l K m p q u v x y z A B D I j)<|pU g f e d i J l K m p q u v x y z A B D I j)<|cond (cZ (jA g f e d) 92) (pO i g f e d J l K m p q u v x y z A B D I j)<|pU g f e d i J l K m p q u v x y z A B D I j) a7)<|cond (iV 0 (bV i)) (cond (fG (bZ j (dR (ofBytes i))) 1) (cond (gy (bV g) (fP f e d).2.1 (fP f e d).2.2.1) (cond (fG (bZ (bZ j (dR (ofBytes i))) (lZ g f e d)) 1) (J l true (fP f e d).2.2.1 m p q u v [] x y z A B D g f e I (bZ (bZ j (dR (ofBytes i))) (lZ g f e d))) a7) a7) a7)<|cond (gy (bV g) (fP f e d).2.1 (fP f e d).2.2.1) (cond (fG (bZ j (lZ g f e d)) 1) (J l true (fP f e d).2.2.1 m p q u v [] x y z A B D g f e I (bZ j (lZ g f e d))) a7) a7) a7)<|M K m p q u v i x y z A B D g f e I j
def nR:Nat->Int->Bool->Int->Int->Bool->Bool->jT->dC->lq->Int->Int->Int->Int->Bool->lq->dC->(List jT)->(List xf)->dC->lq->Option (AA.den⊕AC.den)
 |0,_,_,_,_,_,_,_,_,_,_,_,_,_,_,_,_,_,_,_,_=>a7
 |n+1,d,e,f,g,i,j,l,m,p,q,u,v,x,y,z,A,B,D,I,J=>AY (nR n) (fun K L M N O S U V W X Y Z ab ad ae af ag ah=>a6 (.inl ((K,()),((L,M,N,O,()),(S,()),(),(),()),(U,(V,W,X,Y,Z,()),ab,(),(),(ad,ae,()),af,(),(ag,()),ah,(),())))) (fun r0 r1 r2 r3 r4 r5=>a6 (.inr ((),((r0,()),(),(),()),((r1,r2,()),r3,(),(r4,()),r5,(),())))) d e f g i j l m p q u v x y z A B D I J
def aen (n:Nat) (v:Ey.den):=bs (nR n) v
noncomputable def Qc:dO:=gq Us Ey AA AC (.exit 0) (aen bY) 12
def Ew:SQ:=⟨us [.u,eo,ez,.ptr 3000003 0,cK,bL] 106,[cg,cL,[]],ce⟩
def Gn:SQ:=⟨us [.u,.u,.u,.u,cK] 107,[cg,cL,[]],ce⟩
def Gv:SQ:=⟨us [] 112,[cg,cL,[]],bS⟩
def dK (d:List jT) (e:List xf) (f:Int):=gW d (0,(0,(0,(0,(false,()))))) (fO .i64 (tV e f) 1)
def rZ (d:List jT) (e:List xf) (f:Int):=aja ((dK d e f).1,((dK d e f).2.1,((dK d e f).2.2.1,((dK d e f).2.2.2.1,((dK d e f).2.2.2.2.1,())))))
def lX (g:dC) (d:List jT) (e:List xf) (f:Int):=sub g (dJ .i64 (dK d e f).2.1 1) (dK d e f).2.2.1
def lY (g:dC) (d:List jT) (e:List xf) (f:Int):=dR (sub g (dK d e f).2.1 (dK d e f).2.2.1)
def jh (d e:lq):=bZ d (dR (ofBytes e))
def vS {i:Type} (g:dC) (d:List jT) (e:List xf) (f:Int) (j:lq) (l:Int->dC->lq->dC->(List jT)->(List xf)->dC->lq->Option i) (m p:dC) (q:lq):Option i:=cond (gy (bV g) (dK d e f).2.1 (dK d e f).2.2.1) (cond (fG (bZ j (lY g d e f)) 1) (l (dK d e f).2.2.1 m (bZ j (lY g d e f)) g d e p q) a7) a7
def vT {u:Type} (d:List jT) (e:List xf) (g:Int) (f:dC) (j i:lq) (m:Int->dC->lq->dC->(List jT)->(List xf)->dC->lq->Option u) (p q:dC):Option u:=cond (cZ (dK d e g).1 4) (bU (rZ d e g) fun l=>cond (gy (bV f) l.1 l.2.1) (cond (iG (ofBytes j) []) (cond (fG (bZ i (dR (sub f l.1 l.2.1))) 1) (m (dK d e g).2.2.1 p [] f d e q (bZ i (dR (sub f l.1 l.2.1)))) a7)<|cond (fG (jh i j) 1) (cond (fG (bZ (jh i j) (dR (sub f l.1 l.2.1))) 1) (m (dK d e g).2.2.1 p [] f d e q (bZ (jh i j) (dR (sub f l.1 l.2.1)))) a7) a7) a7)<|cond (gy (bV f) (dJ .i64 (dK d e g).2.1 1) (dK d e g).2.2.1) (cond (!(iG (lX f d e g) [])) (cond (!(iG (lX f d e g) [10])) (cond (iG (ofBytes j) []) (cond (fG (bZ i (dR (lX f d e g))) 1) (m (dK d e g).2.2.1 p [] f d e q (bZ i (dR (lX f d e g)))) a7)<|cond (fG (jh i j) 1) (cond (fG (bZ (jh i j) (dR (lX f d e g))) 1) (m (dK d e g).2.2.1 p [] f d e q (bZ (jh i j) (dR (lX f d e g)))) a7) a7)<|m (dK d e g).2.2.1 p j f d e q i)<|m (dK d e g).2.2.1 p j f d e q i) a7
def vU {e:Type} (i:AA.den⊕AC.den) (f:Int->dC->lq->dC->(List jT)->(List xf)->dC->lq->Option e) (g:dC->dC->(List jT)->(List xf)->dC->lq->Option e):Option e:=dX i (fun d=>cond (cZ (bV d.2.2.1) 0) (cond d.1.1 (cond d.2.1.1.2.2.1 (f d.2.1.1.1 d.2.1.2.1.1 [] d.2.2.2.2.2.2.2.1.1 d.2.2.2.2.2.2.2.1.2.1 d.2.2.2.2.2.2.2.2.1 d.2.2.2.2.2.2.2.2.2.2.1.1 d.2.2.2.2.2.2.2.2.2.2.2.1)<|g d.2.1.2.1.1 d.2.2.2.2.2.2.2.1.1 d.2.2.2.2.2.2.2.1.2.1 d.2.2.2.2.2.2.2.2.1 d.2.2.2.2.2.2.2.2.2.2.1.1 d.2.2.2.2.2.2.2.2.2.2.2.1)<|cond (fG (bZ d.2.2.2.2.2.2.2.2.2.2.2.1 (dR (ofBytes d.2.2.1))) 1) (cond d.2.1.1.2.2.1 (f d.2.1.1.1 d.2.1.2.1.1 [] d.2.2.2.2.2.2.2.1.1 d.2.2.2.2.2.2.2.1.2.1 d.2.2.2.2.2.2.2.2.1 d.2.2.2.2.2.2.2.2.2.2.1.1 (bZ d.2.2.2.2.2.2.2.2.2.2.2.1 (dR (ofBytes d.2.2.1))))<|g d.2.1.2.1.1 d.2.2.2.2.2.2.2.1.1 d.2.2.2.2.2.2.2.1.2.1 d.2.2.2.2.2.2.2.2.1 d.2.2.2.2.2.2.2.2.2.2.1.1 (bZ d.2.2.2.2.2.2.2.2.2.2.2.1 (dR (ofBytes d.2.2.1)))) a7)<|cond (fG (bZ d.2.2.2.2.2.2.2.2.2.2.2.1 (dR (ofBytes d.2.2.1))) 1) (cond d.2.1.1.2.2.1 (f d.2.1.1.1 d.2.1.2.1.1 [] d.2.2.2.2.2.2.2.1.1 d.2.2.2.2.2.2.2.1.2.1 d.2.2.2.2.2.2.2.2.1 d.2.2.2.2.2.2.2.2.2.2.1.1 (bZ d.2.2.2.2.2.2.2.2.2.2.2.1 (dR (ofBytes d.2.2.1))))<|g d.2.1.2.1.1 d.2.2.2.2.2.2.2.1.1 d.2.2.2.2.2.2.2.1.2.1 d.2.2.2.2.2.2.2.2.1 d.2.2.2.2.2.2.2.2.2.2.1.1 (bZ d.2.2.2.2.2.2.2.2.2.2.2.1 (dR (ofBytes d.2.2.1)))) a7) (fun j=>a7)
def vV {u:Type} (d:List jT) (e:List xf) (f:Int) (i:lq) (m g p:dC) (j:lq) (q:Int->dC->lq->dC->(List jT)->(List xf)->dC->lq->Option u) (x:dC->dC->(List jT)->(List xf)->dC->lq->Option u):Option u:=cond (cZ (dK d e f).1 5) (cond (iG (ofBytes i) []) (bU (rZ d e f) fun l=>bU (nR bY l.2.1 false l.1 (dK d e f).2.2.1 true true ((dK d e f).1,((dK d e f).2.1,((dK d e f).2.2.1,((dK d e f).2.2.2.1,((dK d e f).2.2.2.2.1,()))))) m [] (dK d e f).1 (dK d e f).2.1 (dK d e f).2.2.1 (dK d e f).2.2.2.1 (dK d e f).2.2.2.2.1 i g d e p j) fun v=>vU v q x)<|cond (fG (jh j i) 1) (bU (rZ d e f) fun l=>bU (nR bY l.2.1 false l.1 (dK d e f).2.2.1 true true ((dK d e f).1,((dK d e f).2.1,((dK d e f).2.2.1,((dK d e f).2.2.2.1,((dK d e f).2.2.2.2.1,()))))) m [] (dK d e f).1 (dK d e f).2.1 (dK d e f).2.2.1 (dK d e f).2.2.2.1 (dK d e f).2.2.2.2.1 i g d e p (jh j i)) fun v=>vU v q x) a7)<|cond (iG (ofBytes i) []) (cond (gy (bV g) (dK d e f).2.1 (dK d e f).2.2.1) (cond (fG (bZ j (lY g d e f)) 1) (q (dK d e f).2.2.1 m [] g d e p (bZ j (lY g d e f))) a7) a7)<|cond (fG (jh j i) 1) (cond (gy (bV g) (dK d e f).2.1 (dK d e f).2.2.1) (cond (fG (bZ (jh j i) (lY g d e f)) 1) (q (dK d e f).2.2.1 m [] g d e p (bZ (jh j i) (lY g d e f))) a7) a7) a7
def vW {q:Type} (d:List jT) (e:List xf) (f:Int) (g:dC) (i j:lq) (l:Int->dC->lq->dC->(List jT)->(List xf)->dC->lq->Option q) (m p:dC) (u:dC->dC->(List jT)->(List xf)->dC->lq->Option q):Option q:=cond (cZ (dK d e f).1 13) (cond (cZ (dK d e f).1 13) (vT d e f g i j l m p)<|vV d e f i m g p j l u)<|cond (cZ (dK d e f).1 4) (vT d e f g i j l m p)<|vV d e f i m g p j l u
def AX {q:Type} (p:Int->dC->lq->dC->(List jT)->(List xf)->dC->lq->Option q) (x:dC->lq->dC->(List jT)->(List xf)->dC->lq->Option q) (u:dC->dC->(List jT)->(List xf)->dC->lq->Option q) (d:Int) (j:dC) (i:lq) (e:dC) (g:List jT) (f:List xf) (l:dC) (m:lq):Option q:=cond (iV d (bV e)) (cond (cZ (tV f d) 0) (cond (iy e d) (cond (iG e e) (cond (cZ d d) (cond (fG (bZ i [(dm e d)]) 1) (cond (iG e e) (cond (cZ d d) (cond (iy e d) (cond (cZ (dm e d) (dm e d)) (p (dJ .i64 d 1) j (bZ i [(dm e d)]) e g f l m) a7) a7) a7) a7) a7) a7) a7) a7)<|cond (iy g (fO .i64 (tV f d) 1)) (bU (adI ((dK g f d).1,((dK g f d).2.1,((dK g f d).2.2.1,((dK g f d).2.2.2.1,((dK g f d).2.2.2.2.1,())))))) fun v=>cond v.1 (cond v.1 (vS e g f d i p j l m)<|vW g f d e i m p j l u)<|cond (cZ (dK g f d).1 14) (vS e g f d i p j l m)<|vW g f d e i m p j l u) a7)<|x j i e g f l m
def kL:Nat->Int->dC->lq->dC->(List jT)->(List xf)->dC->lq->Option (Gn.den⊕Gv.den)
 |0,_,_,_,_,_,_,_,_=>a7
 |n+1,d,e,f,g,i,j,l,m=>AX (kL n) (fun p q u v x y z=>a6 (.inl ((),((p,()),(),(),()),(q,(),(),(u,v,()),x,(),(y,()),z,(),())))) (fun A B D I J K=>a6 (.inr ((),((A,()),(),(),()),((B,D,()),I,(),(J,()),K,(),())))) d e f g i j l m
def aem (n:Nat) (v:Ew.den):=kL n v.1.1 v.2.1.1.1 v.2.2.1 v.2.2.2.2.2.1.1 v.2.2.2.2.2.1.2.1 v.2.2.2.2.2.2.1 v.2.2.2.2.2.2.2.2.1.1 v.2.2.2.2.2.2.2.2.2.1
noncomputable def Qb:dO:=gq Ur Ew Gn Gv (.exit 0) (aem bY) 18
def aiQ (f:dC):Option (dC×Unit):=bU (ai5 f) fun g=>bU (tK bY g.1 (bV g.1) 0 f [] f f g.1 [] []) fun j=>dX j (fun e=>bU (kL bY 0 e.2.1.1.2.1 [] e.2.2.1.1 e.2.2.1.2.1 e.2.2.2.1 e.2.1.1.2.1 e.2.2.2.2.2.1) fun l=>dX l (fun d=>cond (iG (ofBytes d.2.2.1) []) (cond (cZ (bV d.2.2.2.2.2.2.2.2.2.1) (bV d.2.2.2.2.2.2.2.2.2.1)) (a6 ((ofBytes d.2.2.2.2.2.2.2.2.2.1),())) a7)<|cond (fG (bZ d.2.2.2.2.2.2.2.2.2.1 (dR (ofBytes d.2.2.1))) 1) (cond (cZ (bV (bZ d.2.2.2.2.2.2.2.2.2.1 (dR (ofBytes d.2.2.1)))) (bV (bZ d.2.2.2.2.2.2.2.2.2.1 (dR (ofBytes d.2.2.1))))) (a6 ((ofBytes (bZ d.2.2.2.2.2.2.2.2.2.1 (dR (ofBytes d.2.2.1)))),())) a7) a7) (fun i=>cond (cZ (bV i.2.2.2.2.2.2.1) (bV i.2.2.2.2.2.2.1)) (a6 ((ofBytes i.2.2.2.2.2.2.1),())) a7)) (fun m=>a7)
def aEa:Sum:=⟨[.str],tzI,fun x=>aiQ x.1⟩
noncomputable def Fp:Env:=iE prog tt [(202,avd),(206,ave),(232,avj)] [(167,3,Uo),(203,4,Ur),(208,5,Us),(134,500004,axB),(134,600002,axr),(134,600004,axs),(134,600005,⟨[3],[],[],[],[],[]⟩),(203,600005,ad6),(203,600016,Ec),(203,600017,ZR),(203,600019,Ec),(203,600010,Ec),(203,600020,ajz),(204,600003,ad7),(208,600006,ad8),(208,600016,ZT),(208,600007,ad9),(208,600009,aea),(208,600020,ZU),(110,600001,Ed)] [(167,3,Qa),(208,5,Qc),(203,4,Qb)] [134]
def Qv {d:Type} (a:Eu.den->Option d) (b:Gm.den->Option d) (c:Gu.den->Option d) (v:Eu.den):Option d:=AV (fun e f g i j l m p q u=>a ((e,f,g,()),((i,j,l,()),(),()),((m,p,()),q,(),u,()))) (fun x y z A B D I=>b ((),((x,y,z,()),(),()),((A,B,()),D,(),I,()))) (br c) v.1.1 v.1.2.1 v.1.2.2.1 v.2.1.1.1 v.2.1.1.2.1 v.2.1.1.2.2.1 v.2.2.1.1 v.2.2.1.2.1 v.2.2.2.1 v.2.2.2.2.2.1
theorem aeI:eY Fp 167 SS Qa:=oq (Qv) (h2:=by intros;simp only[Qv,br,AV,dG,dH,bT,dw,dI])
def Qx {d:Type} (a:Ey.den->Option d) (b:AA.den->Option d) (c:AC.den->Option d) (v:Ey.den):Option d:=bs (AY (fun e f g i j l m p q u x y z A B D I J K L=>a ((e,f,g,()),((i,j,l,m,()),(p,()),(),(),()),(q,(u,x,y,z,A,()),B,(),(),(D,I,()),J,(),(K,()),L,(),()))) (fun M N O S U V W X Y Z ab ad ae af ag ah ai aj=>b ((M,()),((N,O,S,U,()),(V,()),(),(),()),(W,(X,Y,Z,ab,ad,()),ae,(),(),(af,ag,()),ah,(),(ai,()),aj,(),()))) (br c)) v
theorem aeK:eY Fp 208 SX Qc:=oq (Qx) (h2:=by intros;simp only[Qx,br,bs,AY,dG,dH,bT,dw,dI,fP,jA,lZ,pO,pU])
def Qw {d:Type} (a:Ew.den->Option d) (b:Gn.den->Option d) (c:Gv.den->Option d) (v:Ew.den):Option d:=AX (fun e f g i j l m p=>a ((e,()),((f,()),(),(),()),(g,(),(),(i,j,()),l,(),(m,()),p,(),()))) (fun q u x y z A B=>b ((),((q,()),(),(),()),(u,(),(),(x,y,()),z,(),(A,()),B,(),()))) (br c) v.1.1 v.2.1.1.1 v.2.2.1 v.2.2.2.2.2.1.1 v.2.2.2.2.2.1.2.1 v.2.2.2.2.2.2.1 v.2.2.2.2.2.2.2.2.1.1 v.2.2.2.2.2.2.2.2.2.1
theorem aeJ:eY Fp 203 SV Qb:=oq (Qw) (h2:=by intros;simp only[Qw,br,AX,dG,dH,bT,dw,dI,dK,rZ,lX,lY,jh,vS,vT,vU,vV,vW])
theorem aB5:kX YU=[]:=by kernel_rfl
theorem aDN:lC YU=[(cA (cA (cB (cA (cB (cB (YU)))))),cB (cA (cB (cA (cB (cB (YU)))))))]:=by kernel_rfl
theorem aCj:eP Fp 134 YU:=tH YU (by rw[aDN];exact(aD (fun _=>(show uB 134 4=a6 (cA (cA (cB (cA (cB (cB (YU)))))),cB (cA (cB (cA (cB (cB (YU))))))) by kernel_rfl)) aN)) (by rw[aB5];exact aN)
theorem agY:eP Fp 167 Sv:=tC [SS] (aD (fM (aeI)) aN)
theorem agZ:eP Fp 203 Sz:=tC [SV] (aD (fM (aeJ)) aN)
theorem ag0:eP Fp 208 SA:=tC [SX] (aD (fM (aeK)) aN)
theorem amr:gm Fp:=eB (aD aoq (aD aor (aD aoB aN))) [134,167,203,208] (aD ⟨f134,YU,by kernel_rfl,by kernel_rfl,aCj⟩ (aD ⟨f167,Sv,by kernel_rfl,by kernel_rfl,agY⟩ (aD ⟨f203,Sz,by kernel_rfl,by kernel_rfl,agZ⟩ (aD ⟨f208,SA,by kernel_rfl,by kernel_rfl,ag0⟩ aN))))
theorem an4:eX prog 134 aEa:=sA amr
def axf (g:dC) (i:Int) (d:Int×DJ×xy):Option ((Int×DJ×xy)×Unit):=bU (uK d.2.1) fun f=>cond (cZ i 1) (a6 ((d.1,(f.1,(false,()))),()))<|cond (cZ i 2) (a6 ((0,(f.1,((iV 0 (bV f.1)),()))),()))<|cond (cZ i 4) (bU (PS g) fun e=>cond (cZ e.1 4) (a6 ((e.1,(f.1,(false,()))),()))<|cond (cZ e.1 5) (a6 ((e.1,(f.1,(false,()))),()))<|some ((0,(f.1,(false,()))),()))<|cond (cZ i 6) (cond (!(cZ d.1 0)) (bU (aiQ g) fun e=>cond (iG g g) (cond (cZ d.1 d.1) (cond (kV (cZ d.1 5) (cZ d.1 5)) (cond (((iG g g)&&true)&&((iG e.1 e.1)&&true)) (cond (fG (bZ f.1 [(e.1,((cZ d.1 5),()))]) 24) (cond (iG g g) (cond (cZ d.1 d.1) (cond (kV (cZ d.1 5) (cZ d.1 5)) (cond ((iG e.1 e.1)&&((kV (cZ d.1 5) (cZ d.1 5))&&true)) (a6 ((0,((bZ f.1 [(e.1,((cZ d.1 5),()))]),(false,()))),())) a7) a7) a7) a7) a7) a7) a7) a7) a7)<|some ((0,(f.1,(false,()))),()))<|some ((0,(f.1,(false,()))),())
def aHr:Sum:=⟨[.str,dL,.pair dL tyL],[(.pair dL tyL,false)],fun x=>axf x.1 x.2.1 x.2.2.1⟩
theorem avM:eX prog 94 aHr:=qA f94 [] (sE zM (sE Pi (sE an4 aN)))
def agC (d:Int×DJ×xy):Option taS:=cond ((cZ d.1 d.1)&&((qV EU d.2.1 d.2.1)&&((kV d.2.2.1 d.2.2.1)&&true))) (a6 ((0,(0,(0,(false,())))),((d.1,(d.2.1,(d.2.2.1,()))),()))) a7
def agD (e:dC) (i:Int) (f:Int×DJ×xy):Option taS:=bU (axe e i) fun d=>cond (gy (bV e) d.1.2.1 d.1.2.2.1) (bU (axf (sub e d.1.2.1 d.1.2.2.1) d.1.1 (f.1,(f.2.1,(f.2.2.1,())))) fun g=>cond ((cZ d.1.1 d.1.1)&&((cZ d.1.2.1 d.1.2.1)&&((cZ d.1.2.2.1 d.1.2.2.1)&&((kV d.1.2.2.2.1 d.1.2.2.2.1)&&true)))) (cond (iG e e) (cond (cZ d.1.2.1 d.1.2.1) (cond (cZ d.1.2.2.1 d.1.2.2.1) (cond (iG e e) (cond (cZ d.1.2.1 d.1.2.1) (cond (cZ d.1.2.2.1 d.1.2.2.1) (cond (gy (bV e) d.1.2.1 d.1.2.2.1) (cond (iG (sub e d.1.2.1 d.1.2.2.1) (sub e d.1.2.1 d.1.2.2.1)) (cond (cZ d.1.1 d.1.1) (cond ((cZ f.1 f.1)&&((qV EU f.2.1 f.2.1)&&((kV f.2.2.1 f.2.2.1)&&true))) (a6 ((d.1.1,(d.1.2.1,(d.1.2.2.1,(d.1.2.2.2.1,())))),((g.1.1,(g.1.2.1,(g.1.2.2.1,()))),()))) a7) a7) a7) a7) a7) a7) a7) a7) a7) a7) a7) a7
def axb (g:dC) (f:Int) (d:Int×DJ×xy):Option taS:=cond (iV f 0) (agC d)<|cond (leI (bV g) f) (agC d)<|cond d.2.2.1 (cond (iV 0 (bV d.2.1)) (bU (aBP g f (d.1,(d.2.1,(d.2.2.1,())))) fun e=>a6 ((e.1.1,(e.1.2.1,(e.1.2.2.1,(e.1.2.2.2.1,())))),((e.2.1.1,(e.2.1.2.1,(e.2.1.2.2.1,()))),())))<|agD g f d)<|agD g f d
def aAE:Sum:=⟨[.str,dL,.pair dL tyL],tzH,fun x=>axb x.1 x.2.1 x.2.2.1⟩
theorem avE:eX prog 70 aAE:=qA f70 [] (sE avK (sE avL (sE avM aN)))
noncomputable def b22:Code:=(f22.body).getD .skip
noncomputable def afU:Code:=(f69.body).getD .skip
noncomputable def ac6:Code:=cA (cA (cB (cB (cB (afU)))))
def ad3:fZ:=⟨[0,1,3,4,5,224000003],[(100000501,.pair (.list .unit) (.pair .unit EU)),(300000301,.pair (.list .unit) (.pair .unit EU))],[],[],[],[]⟩
def aB1:fZ:=⟨[2,3,4,5],[],[],[],[],[]⟩
def aBX:fZ:=⟨[0,2,3,4,5],[],[],[],[],[]⟩
def ank:fZ:=⟨[0,1,3,4],[],[],[],[],[]⟩
def MC:SQ:=⟨us [.yld 1700010,eo,.u,.ptr 3000003 0,.ptr 3000004 0,bL] 18,[cf,[.yld 1700010],[]],[.box 3000004 34 [bL,bL,bL,bX],.box 3000003 39 cm,.box 2000001 9 [bN],.lp 1700010 22 (cf) [10,11] 6 0 a7,.arr 1500004 YI,dj,.box 1000004 40 [.slc 1500004],cQ]⟩
def OJ:SQ:=⟨us [] 24,[cf,[.yld 1700010],[]],[.box 2000001 9 [bN],.lp 1700010 22 (cf) [10,11] 6 0 a7,.arr 1500004 YI,dj,.box 1000004 40 [.slc 1500004],cQ]⟩
def OQ:SQ:=⟨us [] 24,[cf,[.yld 1700010],[]],[]⟩
def Iy {e:Type} (m:Int->Int->Int->Int->Bool->Int->DJ->Bool->dC->(List DL)->Int->DJ->Bool->Int->Bool->Option e) (p:dC->(List DL)->Int->DJ->Bool->Int->Bool->Option e) (A:Option e) (i B D I:Int) (J:Bool) (q:Int) (u:DJ) (v:Bool) (f:dC) (g:List DL) (x:Int) (y:DJ) (z:Bool) (j:Int) (l:Bool):Option e:=cond (iV i (bV f)) (bU (axb f i (q,(u,(v,())))) fun d=>cond ((cZ d.2.1.1 d.2.1.1)&&((qV EU d.2.1.2.1 d.2.1.2.1)&&((kV d.2.1.2.2.1 d.2.1.2.2.1)&&true))) (cond (fG (bZ g [(d.1.1,(d.1.2.1,(d.1.2.2.1,(d.1.2.2.2.1,()))))]) 32) (cond ((cZ d.1.1 d.1.1)&&((cZ d.1.2.1 d.1.2.1)&&((cZ d.1.2.2.1 d.1.2.2.1)&&((kV d.1.2.2.2.1 d.1.2.2.2.1)&&true)))) (cond ((cZ d.2.1.1 d.2.1.1)&&((qV EU d.2.1.2.1 d.2.1.2.1)&&((kV d.2.1.2.2.1 d.2.1.2.2.1)&&true))) (cond ((cZ d.2.1.1 d.2.1.1)&&((qV EU d.2.1.2.1 d.2.1.2.1)&&((kV d.2.1.2.2.1 d.2.1.2.2.1)&&true))) (m d.1.2.2.1 d.1.1 d.1.2.1 d.1.2.2.1 d.1.2.2.2.1 d.2.1.1 d.2.1.2.1 d.2.1.2.2.1 f (bZ g [(d.1.1,(d.1.2.1,(d.1.2.2.1,(d.1.2.2.2.1,()))))]) d.2.1.1 d.2.1.2.1 d.2.1.2.2.1 j l) a7) a7) a7) a7) a7)<|p f g x y z j l
def yI:Nat->Int->Int->Int->Int->Bool->Int->DJ->Bool->dC->(List DL)->Int->DJ->Bool->Int->Bool->Option (OJ.den⊕OQ.den)
 |0,_,_,_,_,_,_,_,_,_,_,_,_,_,_,_=>a7
 |n+1,d,e,f,g,i,j,l,m,p,q,u,v,x,y,z=>Iy (yI n) (fun A B D I J K L=>a6 (.inl ((),((),(),(),()),((A,()),(),B,(D,I,J,()),(),(K,L,()),())))) (a6 (.inr ((),((),(),(),()),()))) d e f g i j l m p q u v x y z
def anw (n:Nat) (v:MC.den):=bv (yI n) v
noncomputable def XT:dO:=gq ad3 MC OJ OQ (.exit 0) (anw bY) 6
def aw2 (e:dC):Option ((List DL)×(Int×DJ×xy)×Unit):=bU (yI bY 0 0 0 0 false 0 [] false e [] 0 [] false 0 false) fun f=>dX f (fun d=>a6 (d.2.2.2.2.1,((d.2.2.2.2.2.1.1,(d.2.2.2.2.2.1.2.1,(d.2.2.2.2.2.1.2.2.1,()))),()))) (fun g=>a7)
def aAn:Sum:=⟨[.str],[(.list YI,false),(.pair dL tyL,false)],fun x=>aw2 x.1⟩
noncomputable def aiE:Env:=iE prog tt [(70,aAE)] [(69,3,ad3),(22,500006,aB1),(22,600003,aBX),(69,600006,ank)] [(69,3,XT)] [22]
def Yj {d:Type} (a:MC.den->Option d) (b:OJ.den->Option d) (c:OQ.den->Option d) (v:MC.den):Option d:=bv (Iy (fun e f g i j l m p q u x y z A B=>a ((e,()),((),(),(),()),((f,g,i,j,()),(l,m,p,()),(q,()),(),u,(x,y,z,()),(),(A,B,()),()))) (fun D I J K L M N=>b ((),((),(),(),()),((D,()),(),I,(J,K,L,()),(),(M,N,()),()))) (c ((),((),(),(),()),()))) v
theorem anF:eY aiE 69 ac6 XT:=oq (Yj) (h2:=by intros;simp only[Yj,bv,Iy,dG,dH,bT,dw,dI])
theorem aGr:kX b22=[]:=by kernel_rfl
theorem aG4:lC b22=[(cA (cA (cB (cA (cB (cB (cB (b22))))))),cB (cA (cB (cA (cB (cB (cB (b22))))))))]:=by kernel_rfl
theorem aGy:eP aiE 22 b22:=tH b22 (by rw[aG4];exact(aD (fun _=>(show uB 22 6=a6 (cA (cA (cB (cA (cB (cB (cB (b22))))))),cB (cA (cB (cA (cB (cB (cB (b22)))))))) by kernel_rfl)) aN)) (by rw[aGr];exact aN)
theorem asy:eP aiE 69 afU:=tC [ac6] (aD (fM (anF)) aN)
theorem aqb:gm aiE:=eB (aD avE aN) [22,69] (aD ⟨f22,b22,by kernel_rfl,by kernel_rfl,aGy⟩ (aD ⟨f69,afU,by kernel_rfl,by kernel_rfl,asy⟩ aN))
theorem afp:eX prog 22 aAn:=sA aqb
def aw6 (e:dC) (d:DL):Option (dC×Unit):=cond (iV d.2.1 0) (a6 ([],()))<|cond (iV d.2.2.1 d.2.1) (a6 ([],()))<|cond (iV (bV e) d.2.2.1) (a6 ([],()))<|cond (gy (bV e) d.2.1 d.2.2.1) (a6 ((sub e d.2.1 d.2.2.1),())) a7
def aAu:Sum:=⟨[.str,YI],tzI,fun x=>aw6 x.1 x.2.1⟩
theorem avs:eX prog 44 aAu:=qA f44 [] aN
noncomputable def b23:Code:=(f23.body).getD .skip
noncomputable def azn:Code:=cA (cA (cB (cA (cB (b23)))))
def azS:fZ:=⟨[0,4,7,8,9,100002],[(4,tyC)],[4],[],[4],[(4,tyC)]⟩
def akp:SP:=⟨us [bN,.u,.u,.u,dv,.u,.u,eJ,bL,bL] 42,[.arr 1800004 tyC]⟩
def ahh:SP:=⟨us [.u,.u,.u,.u,dv] 47,[.arr 1800004 tyC]⟩
def ahD:SP:=⟨us [.u,.u,.u,.u,.v rF] 47,[]⟩
def fE (d:List DL) (e:Int):=gW d (0,(0,(0,(false,())))) e
def wY (d:List DL) (e:Int):=cZ (fE d e).2.2.1 (fE d e).2.2.1
def Dz {i:Type} (f:dC) (d:List DL) (e:Int) (j:List gJ) (l:dC->(List DL)->Int->Int->(List gJ)->Option i) (m:Int):Option i:=bU (aw6 f ((fE d e).1,((fE d e).2.1,((fE d e).2.2.1,((fE d e).2.2.2.1,()))))) fun g=>cond (cZ (fE d e).1 (fE d e).1) (cond (iG f f) (cond ((cZ (fE d e).1 (fE d e).1)&&((cZ (fE d e).2.1 (fE d e).2.1)&&((wY d e)&&((kV (fE d e).2.2.2.1 (fE d e).2.2.2.1)&&true)))) (cond (cZ (fE d e).2.1 (fE d e).2.1) (cond (wY d e) (cond (((iG f f)&&(((cZ (fE d e).1 (fE d e).1)&&((cZ (fE d e).2.1 (fE d e).2.1)&&((wY d e)&&((kV (fE d e).2.2.2.1 (fE d e).2.2.2.1)&&true))))&&true))&&((iG g.1 g.1)&&true)) (cond (fG (bZ j [((fE d e).1,(g.1,((fE d e).2.1,((fE d e).2.2.1,()))))]) 40) (cond (cZ (fE d e).1 (fE d e).1) (cond (iG f f) (cond ((cZ (fE d e).1 (fE d e).1)&&((cZ (fE d e).2.1 (fE d e).2.1)&&((wY d e)&&((kV (fE d e).2.2.2.1 (fE d e).2.2.2.1)&&true)))) (cond (cZ (fE d e).2.1 (fE d e).2.1) (cond (wY d e) (cond ((cZ (fE d e).1 (fE d e).1)&&((iG g.1 g.1)&&((cZ (fE d e).2.1 (fE d e).2.1)&&((wY d e)&&true)))) (l f d m (dJ .i64 e 1) (bZ j [((fE d e).1,(g.1,((fE d e).2.1,((fE d e).2.2.1,()))))])) a7) a7) a7) a7) a7) a7) a7) a7) a7) a7) a7) a7) a7
def acm {l:Type} (j:dC->(List DL)->Int->Int->(List gJ)->Option l) (m p:(List gJ)->Option l) (f:dC) (e:List DL) (g d:Int) (i:List gJ):Option l:=cond (iV d g) (cond (iy e d) (cond (iV (fE e d).2.1 0) (j f e g (dJ .i64 d 1) i)<|cond (iV (fE e d).2.2.1 (fE e d).2.1) (j f e g (dJ .i64 d 1) i)<|cond (iV (bV f) (fE e d).2.2.1) (j f e g (dJ .i64 d 1) i)<|cond (cZ (fE e d).1 4) (cond (cZ (fE e d).1 4) (Dz f e d i j g)<|j f e g (dJ .i64 d 1) i)<|cond (cZ (fE e d).1 5) (cond (cZ (fE e d).1 5) (Dz f e d i j g)<|j f e g (dJ .i64 d 1) i)<|cond (cZ (fE e d).1 6) (cond (cZ (fE e d).1 6) (Dz f e d i j g)<|j f e g (dJ .i64 d 1) i)<|cond (cZ (fE e d).1 2) (Dz f e d i j g)<|j f e g (dJ .i64 d 1) i) a7)<|m i
def FX:Nat->dC->(List DL)->Int->Int->(List gJ)->Option (ahh.den⊕ahD.den)
 |0,_,_,_,_,_=>a7
 |n+1,d,e,f,g,i=>acm (FX n) (fun j=>a6 (.inl ((),(j,())))) (fun l=>a6 (.inr ((l,()),()))) d e f g i
def aCK (n:Nat) (v:akp.den):=FX n v.1.1 v.1.2.1 v.1.2.2.1 v.1.2.2.2.1 v.2.1
noncomputable def asP:dO:=iq azS akp ahh ahD (.exit 0) (aCK bY) 6
def aw3 (e:dC) (d:List DL):Option ((List gJ)×Unit):=bU (FX bY e d (bV d) 0 []) fun f=>dX f (fun g=>a6 (g.2.1,())) (fun i=>a6 (i.1.1,()))
def aAo:Sum:=⟨[.str,.list YI],[(.list tyC,false)],fun x=>aw3 x.1 x.2.1⟩
noncomputable def aqc:Env:=kU prog tt 23 [(44,aAu)] [(2,azS)] [(2,asP)]
def aud {d:Type} (a:akp.den->Option d) (b:ahh.den->Option d) (c:ahD.den->Option d) (v:akp.den):Option d:=acm (fun e f g i j=>a ((e,f,g,i,()),(j,()))) (fun l=>b ((),(l,()))) (aE c) v.1.1 v.1.2.1 v.1.2.2.1 v.1.2.2.2.1 v.2.1
theorem aDk:eY aqc 23 azn asP:=En (aud) (h2:=by intros;simp only[aud,aE,acm,dG,dH,bT,dw,dI,fE,wY,Dz])
theorem aGz:eP aqc 23 b23:=tC [azn] (aD (fM (aDk)) aN)
theorem aqd:gm aqc:=eA f23 (aD avs aN) (aGz)
theorem afq:eX prog 23 aAo:=sA aqd
end
end Go.Proofs.YtjegbhogodknhaaGreatDoor
