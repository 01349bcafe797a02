/- Parts of the proof, joined and shortened by a program: the plain machine, the functions as it prints them, and the mathematics over them. -/
import Derived.Test.YtkichehglnecnaaGreatDoorZ3
import Derived.Test.YtkichehglnecnaaGreatDoorZ4
set_option linter.unusedVariables false
set_option linter.unusedSimpArgs false
set_option maxRecDepth 100000
set_option maxHeartbeats 4000000
namespace Go.Proofs.YtkichehglnecnaaGreatDoor
section
open Option renaming some → a6, none → a7
open Tryz
open Go.RowKit
def awd (i:bV) (g:Int) (d:Int×J9×vJ):Option taU:=cond (gy d.2.1 0) (bJ (amA i g (ed d.2.1 ([],(false,())) 0)) fun f=>cond (!f.2.1) (cond ((bY d.1 d.1)&&((pO II d.2.1 d.2.1)&&((jM d.2.2.1 d.2.2.1)&&true))) (a6 ((7,(g,(f.1,((!f.2.1),())))),((d.1,(d.2.1,(d.2.2.1,()))),()))) a7)<|cond (eY (bK d.2.1) 1 (bK d.2.1)) (bJ (uH (sub d.2.1 1 (bK d.2.1))) fun e=>cond (bY d.1 d.1) (cond (bY (bK e.1) (bK e.1)) (cond (jM (iF 0 (bK e.1)) (iF 0 (bK e.1))) (cond ((bY d.1 d.1)&&((jM (iF 0 (bK e.1)) (iF 0 (bK e.1)))&&true)) (a6 ((7,(g,(f.1,((!f.2.1),())))),((d.1,(e.1,((iF 0 (bK e.1)),()))),()))) a7) a7) a7) a7) a7) a7
def aJw:Sum:=⟨[.str,dA,.pair dA tyN],tzI,fun x=>awd x.1 x.2.1 x.2.2.1⟩
theorem asy:dU prog 149 aJw:=qA f149 [] (sE asJ (sE Aw aN))
def V5 (d:iM):Option vJ:=cond (bY d.1 12) (a6 ((bY d.2.2.1 (cO .i64 d.2.1 1)),()))<|some (false,())
def alC:Sum:=⟨[Kq],YI,fun x=>V5 x.1⟩
theorem aaN:dU prog 141 alC:=qA f141 [] aN
def ab2 (d:iM):Option lL:=cond d.2.2.2.2.1 (a6 ((cO .i64 d.2.1 2),((Fh (eP .i64 d.2.2.1 0) (cO .i64 d.2.1 2)),())))<|some ((cO .i64 d.2.1 2),((Fh (eP .i64 d.2.2.1 1) (cO .i64 d.2.1 2)),()))
def amy (d:iM):Option lL:=cond d.2.2.2.2.1 (a6 ((cO .i64 d.2.1 1),((Fh (eP .i64 d.2.2.1 0) (cO .i64 d.2.1 1)),())))<|some ((cO .i64 d.2.1 1),((Fh (eP .i64 d.2.2.1 0) (cO .i64 d.2.1 1)),()))
def amz (d:iM):Option lL:=cond d.2.2.2.2.1 (a6 ((cO .i64 d.2.1 1),((Fh (eP .i64 d.2.2.1 0) (cO .i64 d.2.1 1)),())))<|some ((cO .i64 d.2.1 1),((Fh (eP .i64 d.2.2.1 1) (cO .i64 d.2.1 1)),()))
def ab3 (d:iM):Option lL:=cond (bY d.1 9) (cond d.2.2.2.2.1 (a6 ((cO .i64 d.2.1 3),((Fh (eP .i64 d.2.2.1 0) (cO .i64 d.2.1 3)),())))<|some ((cO .i64 d.2.1 3),((Fh (eP .i64 d.2.2.1 2) (cO .i64 d.2.1 3)),())))<|cond (bY d.1 13) (cond (bY d.1 13) (amy d)<|amz d)<|cond (bY d.1 12) (amy d)<|amz d
def agw (d:iM):Option lL:=cond (bY d.1 1) (cond (bY d.1 1) (ab2 d)<|ab3 d)<|cond (bY d.1 7) (cond (bY d.1 7) (ab2 d)<|ab3 d)<|cond (bY d.1 8) (ab2 d)<|ab3 d
def alF:Sum:=⟨[Kq],tzJ,fun x=>agw x.1⟩
theorem aaS:dU prog 183 alF:=qA f183 [] aN
noncomputable def abk:Code:=(f201.body).getD .skip
noncomputable def abl:Code:=(f91.body).getD .skip
noncomputable def Vo:Code:=(Tryz.f138.body).getD .skip
noncomputable def Vp:Code:=(Tryz.f143.body).getD .skip
noncomputable def Zz:Code:=cA (cA (cB (cA (cB (cB (abl))))))
noncomputable def VA:Code:=cA (cA (cB (cA (cB (cB (cB (cA (cB (Vo)))))))))
noncomputable def VB:Code:=cA (cA (cB (cA (cB (cB (cB (cB (Vp))))))))
def Ja:fJ:=⟨[3,15,16,17,92000003],[],[3],[],[2],[]⟩
def EU:fJ:=⟨[1,2,3,4,5,139000004],[(300000300,.pair (.list .unit) (.int .u8))],[4],[],[],[]⟩
def EW:fJ:=⟨[0,2,8,9,10,11,39000005],[(9,(.int .u8))],[2,9,10],[],[6],[]⟩
def anb:fJ:=⟨[2,3],[],[],[],[],[]⟩
def am7:fJ:=⟨[0,2,3],[],[],[],[],[]⟩
def aCg:fJ:=⟨[3,4],[],[],[],[],[]⟩
def TQ:fJ:=⟨[3],[],[],[],[],[]⟩
def RX:fJ:=⟨[1,2,3,4,5],[],[],[],[],[]⟩
def qH:fJ:=⟨[1,2,3,4,5,6],[],[],[],[],[]⟩
def NT:fJ:=⟨[1,2,3,4,5,8,9],[],[],[],[],[]⟩
def RY:fJ:=⟨[1,3],[],[],[],[],[]⟩
def RZ:fJ:=⟨[0,2,8,9,10,11],[],[],[],[],[]⟩
def NU:fJ:=⟨[0,2,8,9,10,12],[],[],[],[],[]⟩
def Si:fJ:=⟨[0,2,8,9,12],[],[],[],[],[]⟩
def Sj:fJ:=⟨[0,2,8,12],[],[],[],[],[]⟩
def NV:fJ:=⟨[2,9],[],[],[],[],[]⟩
def Ju:SQ:=⟨en,[us [b9,.u,b9,ck,.u,b9] 7,[]],[ce,cq,cg,cr]⟩
def LY:SQ:=⟨us [.u,.u,.u,db] 28,[us [b9,.u,b9,ck,.u,b9] 7,[]],[ce,cq,cg,cr]⟩
def Mc:SQ:=⟨us [] 112,[cJ,dc,[]],da⟩
def F7 {e:Type} (s:(List iM)->Int->Int->bV->bV->bV->bV->(List iM)->(List lW)->iG->Option e) (u:bV->bV->bV->bV->(List iM)->(List lW)->iG->Option e) (v:bV->bV->(List iM)->(List lW)->bV->iG->Option e) (f:List iM) (g d:Int) (i j l m:bV) (o:List iM) (p:List lW) (q:iG):Option e:=cond (iF d g) (cond (gy f d) (s f g (cO .i64 d 1) i j l m o (xe p (ed f (0,(0,(0,(0,(false,()))))) d).2.1 (cO .i64 d 1)) q) a7)<|u i j l m o p q
def uQ:Nat->(List iM)->Int->Int->bV->bV->bV->bV->(List iM)->(List lW)->iG->Option (LY.den⊕Mc.den)
 |0,_,_,_,_,_,_,_,_,_,_=>a7
 |n+1,d,e,f,g,i,j,l,m,o,p=>F7 (uQ n) (fun q s u v x y z=>a6 (.inl ((),((q,s,u,()),(),()),((v,x,()),y,(),z,())))) (fun A B D E G I=>a6 (.inr ((),((A,()),(),(),()),((B,D,()),E,(),(G,()),I,(),())))) d e f g i j l m o p
def akb (n:Nat) (v:Ju.den):=uQ n v.1.1 v.1.2.1 v.1.2.2.1 v.2.1.1.1 v.2.1.1.2.1 v.2.1.1.2.2.1 v.2.2.1.1 v.2.2.1.2.1 v.2.2.2.1 v.2.2.2.2.2.1
noncomputable def WW:dD:=fP Ja Ju LY Mc (.exit 0) (akb bT) 6
def Fz:SQ:=⟨us [db,.u,.yld 1700008,.u,.u,.u,.u,.u,bX,.slc 4800009,cf,bX] 83,[ci,cJ,dc,[]],cD⟩
def BK:SQ:=⟨us [.u,.u,.yld 1700008,.u,.u,.u,.u,.u,.u,.slc 4800009,cf] 84,[ci,cJ,dc,[]],cD⟩
def BL:SQ:=⟨us [] 112,[cJ,dc,[]],da⟩
def fO (d:List iM) (e:List lW) (f:Int):=ed d (0,(0,(0,(0,(false,()))))) (eP .i64 (nV e f) 1)
def jd (d:bV) (e:List iM) (f:List lW) (g:Int):=cu d (cO .i64 (fO e f g).2.1 1)
def lH (g:bV) (d:List iM) (e:List lW) (f:Int):=cZ (sub g (fO d e f).2.1 (fO d e f).2.2.1)
def oO {i:Type} (j:iG) (f:bV) (d:List iM) (e:List lW) (g:Int) (l:Int->Bool->Int->Int->Bool->Bool->iM->bV->iG->Int->Int->Int->Int->Bool->iG->bV->(List iM)->(List lW)->bV->iG->Option i) (m:Int) (o:Bool) (p:Int) (q s:Bool) (u:iM) (v:bV) (x y z A:Int) (B:Bool) (D:iG) (E:bV) (G:iG):Option i:=cond (eu (bU j (cZ (ofBytes [(jd f d e g)]))) 1) (l m o (fO d e g).2.2.1 p q s u v (bU j (cZ (ofBytes [(jd f d e g)]))) x y z A B D f d e E G) a7
def oP {j:Type} (g:bV) (d:List iM) (e:List lW) (f:Int) (i:iG) (l:Int->Bool->Int->Int->Bool->Bool->iM->bV->iG->Int->Int->Int->Int->Bool->iG->bV->(List iM)->(List lW)->bV->iG->Option j) (m:Int) (o:Bool) (p:Int) (q s:Bool) (u:iM) (v:bV) (x y z A:Int) (B:Bool) (D:iG) (E:bV) (G:iG):Option j:=cond (bY (jd g d e f) 10) (cond (eu (bU i (cZ [])) 1) (l m o (fO d e f).2.2.1 p q s u v (bU i (cZ [])) x y z A B D g d e E G) a7)<|cond (eY (bK g) (fO d e f).2.1 (fO d e f).2.2.1) (cond (eu (bU i (lH g d e f)) 1) (l m o (fO d e f).2.2.1 p q s u v (bU i (lH g d e f)) x y z A B D g d e E G) a7) a7
def BV {G:Type} (D:Int->Bool->Int->Int->Bool->Bool->iM->bV->iG->Int->Int->Int->Int->Bool->iG->bV->(List iM)->(List lW)->bV->iG->Option G) (I:Bool->Int->Bool->Bool->iM->bV->iG->Int->Int->Int->Int->Bool->iG->bV->(List iM)->(List lW)->bV->iG->Option G) (K:bV->bV->(List iM)->(List lW)->bV->iG->Option G) (l:Int) (E:Bool) (d m:Int) (o p:Bool) (q:iM) (s:bV) (i:iG) (u v x y:Int) (z:Bool) (A:iG) (g:bV) (f:List iM) (e:List lW) (B:bV) (j:iG):Option G:=cond (iF d l) (cond (bY (nV e d) 0) (cond (gy g d) (cond (eu (bU i [(cu g d)]) 1) (D l E (cO .i64 d 1) m o p q s (bU i [(cu g d)]) u v x y z A g f e B j) a7) a7)<|cond (gy f (eP .i64 (nV e d) 1)) (bJ (V5 ((fO f e d).1,((fO f e d).2.1,((fO f e d).2.2.1,((fO f e d).2.2.2.1,((fO f e d).2.2.2.2.1,())))))) fun J=>cond J.1 (cond (gy g d) (cond (eu (bU i [(cu g d)]) 1) (D l E (cO .i64 d 1) m o p q s (bU i [(cu g d)]) u v x y z A g f e B j) a7) a7)<|cond (bY (fO f e d).1 13) (cond (iF (eP .i64 (fO f e d).2.2.1 (fO f e d).2.1) 2) (cond (eu (bU i (cZ [])) 1) (D l E (fO f e d).2.2.1 m o p q s (bU i (cZ [])) u v x y z A g f e B j) a7)<|cond (gy g (cO .i64 (fO f e d).2.1 1)) (cond (bY (jd g f e d) 36) (cond (bY (jd g f e d) 36) (oO i g f e d D l E m o p q s u v x y z A B j)<|oP g f e d i D l E m o p q s u v x y z A B j)<|cond (bY (jd g f e d) 96) (cond (bY (jd g f e d) 96) (oO i g f e d D l E m o p q s u v x y z A B j)<|oP g f e d i D l E m o p q s u v x y z A B j)<|cond (bY (jd g f e d) 34) (cond (bY (jd g f e d) 34) (oO i g f e d D l E m o p q s u v x y z A B j)<|oP g f e d i D l E m o p q s u v x y z A B j)<|cond (bY (jd g f e d) 92) (oO i g f e d D l E m o p q s u v x y z A B j)<|oP g f e d i D l E m o p q s u v x y z A B j) a7)<|cond (iF 0 (bK i)) (cond (eu (bU j (cZ (ofBytes i))) 1) (cond (eY (bK g) (fO f e d).2.1 (fO f e d).2.2.1) (cond (eu (bU (bU j (cZ (ofBytes i))) (lH g f e d)) 1) (D l true (fO f e d).2.2.1 m o p q s [] u v x y z A g f e B (bU (bU j (cZ (ofBytes i))) (lH g f e d))) a7) a7) a7)<|cond (eY (bK g) (fO f e d).2.1 (fO f e d).2.2.1) (cond (eu (bU j (lH g f e d)) 1) (D l true (fO f e d).2.2.1 m o p q s [] u v x y z A g f e B (bU j (lH g f e d))) a7) a7) a7)<|I E m o p q s i u v x y z A g f e B j
def mD:Nat->Int->Bool->Int->Int->Bool->Bool->iM->bV->iG->Int->Int->Int->Int->Bool->iG->bV->(List iM)->(List lW)->bV->iG->Option (BK.den⊕BL.den)
 |0,_,_,_,_,_,_,_,_,_,_,_,_,_,_,_,_,_,_,_,_=>a7
 |n+1,d,e,f,g,i,j,l,m,o,p,q,s,u,v,x,y,z,A,B,D=>BV (mD n) (fun E G I J K L M N O S U V W X Y Z ab ad=>a6 (.inl ((E,()),((G,I,J,K,()),(L,()),(),(),()),(M,(N,O,S,U,V,()),W,(),(),(X,Y,()),Z,(),(ab,()),ad,(),())))) (fun r0 r1 r2 r3 r4 r5=>a6 (.inr ((),((r0,()),(),(),()),((r1,r2,()),r3,(),(r4,()),r5,(),())))) d e f g i j l m o p q s u v x y z A B D
def ahi (n:Nat) (v:Fz.den):=bk (mD n) v
noncomputable def SA:dD:=fP EW Fz BK BL (.exit 0) (ahi bT) 12
def Fv:SQ:=⟨us [.u,dz,fj,eE,cx,bX] 106,[cJ,dc,[]],cQ⟩
def H8:SQ:=⟨us [.u,.u,.u,.u,cx] 107,[cJ,dc,[]],cQ⟩
def Ig:SQ:=⟨us [] 112,[cJ,dc,[]],da⟩
def dC (d:List iM) (e:List lW) (f:Int):=ed d (0,(0,(0,(0,(false,()))))) (eP .i64 (nV e f) 1)
def rH (d:List iM) (e:List lW) (f:Int):=agw ((dC d e f).1,((dC d e f).2.1,((dC d e f).2.2.1,((dC d e f).2.2.2.1,((dC d e f).2.2.2.2.1,())))))
def lF (g:bV) (d:List iM) (e:List lW) (f:Int):=sub g (cO .i64 (dC d e f).2.1 1) (dC d e f).2.2.1
def lG (g:bV) (d:List iM) (e:List lW) (f:Int):=cZ (sub g (dC d e f).2.1 (dC d e f).2.2.1)
def iW (d e:iG):=bU d (cZ (ofBytes e))
def wu {i:Type} (g:bV) (d:List iM) (e:List lW) (f:Int) (j:iG) (l:Int->bV->iG->bV->(List iM)->(List lW)->bV->iG->Option i) (m o:bV) (p:iG):Option i:=cond (eY (bK g) (dC d e f).2.1 (dC d e f).2.2.1) (cond (eu (bU j (lG g d e f)) 1) (l (dC d e f).2.2.1 m (bU j (lG g d e f)) g d e o p) a7) a7
def ww {q:Type} (d:List iM) (e:List lW) (g:Int) (f:bV) (j i:iG) (m:Int->bV->iG->bV->(List iM)->(List lW)->bV->iG->Option q) (o p:bV):Option q:=cond (bY (dC d e g).1 4) (bJ (rH d e g) fun l=>cond (eY (bK f) l.1 l.2.1) (cond (gp (ofBytes j) []) (cond (eu (bU i (cZ (sub f l.1 l.2.1))) 1) (m (dC d e g).2.2.1 o [] f d e p (bU i (cZ (sub f l.1 l.2.1)))) a7)<|cond (eu (iW i j) 1) (cond (eu (bU (iW i j) (cZ (sub f l.1 l.2.1))) 1) (m (dC d e g).2.2.1 o [] f d e p (bU (iW i j) (cZ (sub f l.1 l.2.1)))) a7) a7) a7)<|cond (eY (bK f) (cO .i64 (dC d e g).2.1 1) (dC d e g).2.2.1) (cond (!(gp (lF f d e g) [])) (cond (!(gp (lF f d e g) [10])) (cond (gp (ofBytes j) []) (cond (eu (bU i (cZ (lF f d e g))) 1) (m (dC d e g).2.2.1 o [] f d e p (bU i (cZ (lF f d e g)))) a7)<|cond (eu (iW i j) 1) (cond (eu (bU (iW i j) (cZ (lF f d e g))) 1) (m (dC d e g).2.2.1 o [] f d e p (bU (iW i j) (cZ (lF f d e g)))) a7) a7)<|m (dC d e g).2.2.1 o j f d e p i)<|m (dC d e g).2.2.1 o j f d e p i) a7
def wz {e:Type} (i:BK.den⊕BL.den) (f:Int->bV->iG->bV->(List iM)->(List lW)->bV->iG->Option e) (g:bV->bV->(List iM)->(List lW)->bV->iG->Option e):Option e:=dR i (fun d=>cond (bY (bK d.2.2.1) 0) (cond d.1.1 (cond d.2.1.1.2.2.1 (f d.2.1.1.1 d.2.1.2.1.1 [] d.2.2.2.2.2.2.2.1.1 d.2.2.2.2.2.2.2.1.2.1 d.2.2.2.2.2.2.2.2.1 d.2.2.2.2.2.2.2.2.2.2.1.1 d.2.2.2.2.2.2.2.2.2.2.2.1)<|g d.2.1.2.1.1 d.2.2.2.2.2.2.2.1.1 d.2.2.2.2.2.2.2.1.2.1 d.2.2.2.2.2.2.2.2.1 d.2.2.2.2.2.2.2.2.2.2.1.1 d.2.2.2.2.2.2.2.2.2.2.2.1)<|cond (eu (bU d.2.2.2.2.2.2.2.2.2.2.2.1 (cZ (ofBytes d.2.2.1))) 1) (cond d.2.1.1.2.2.1 (f d.2.1.1.1 d.2.1.2.1.1 [] d.2.2.2.2.2.2.2.1.1 d.2.2.2.2.2.2.2.1.2.1 d.2.2.2.2.2.2.2.2.1 d.2.2.2.2.2.2.2.2.2.2.1.1 (bU d.2.2.2.2.2.2.2.2.2.2.2.1 (cZ (ofBytes d.2.2.1))))<|g d.2.1.2.1.1 d.2.2.2.2.2.2.2.1.1 d.2.2.2.2.2.2.2.1.2.1 d.2.2.2.2.2.2.2.2.1 d.2.2.2.2.2.2.2.2.2.2.1.1 (bU d.2.2.2.2.2.2.2.2.2.2.2.1 (cZ (ofBytes d.2.2.1)))) a7)<|cond (eu (bU d.2.2.2.2.2.2.2.2.2.2.2.1 (cZ (ofBytes d.2.2.1))) 1) (cond d.2.1.1.2.2.1 (f d.2.1.1.1 d.2.1.2.1.1 [] d.2.2.2.2.2.2.2.1.1 d.2.2.2.2.2.2.2.1.2.1 d.2.2.2.2.2.2.2.2.1 d.2.2.2.2.2.2.2.2.2.2.1.1 (bU d.2.2.2.2.2.2.2.2.2.2.2.1 (cZ (ofBytes d.2.2.1))))<|g d.2.1.2.1.1 d.2.2.2.2.2.2.2.1.1 d.2.2.2.2.2.2.2.1.2.1 d.2.2.2.2.2.2.2.2.1 d.2.2.2.2.2.2.2.2.2.2.1.1 (bU d.2.2.2.2.2.2.2.2.2.2.2.1 (cZ (ofBytes d.2.2.1)))) a7) (fun j=>a7)
def wB {q:Type} (d:List iM) (e:List lW) (f:Int) (i:iG) (m g o:bV) (j:iG) (p:Int->bV->iG->bV->(List iM)->(List lW)->bV->iG->Option q) (u:bV->bV->(List iM)->(List lW)->bV->iG->Option q):Option q:=cond (bY (dC d e f).1 5) (cond (gp (ofBytes i) []) (bJ (rH d e f) fun l=>bJ (mD bT l.2.1 false l.1 (dC d e f).2.2.1 true true ((dC d e f).1,((dC d e f).2.1,((dC d e f).2.2.1,((dC d e f).2.2.2.1,((dC d e f).2.2.2.2.1,()))))) m [] (dC d e f).1 (dC d e f).2.1 (dC d e f).2.2.1 (dC d e f).2.2.2.1 (dC d e f).2.2.2.2.1 i g d e o j) fun s=>wz s p u)<|cond (eu (iW j i) 1) (bJ (rH d e f) fun l=>bJ (mD bT l.2.1 false l.1 (dC d e f).2.2.1 true true ((dC d e f).1,((dC d e f).2.1,((dC d e f).2.2.1,((dC d e f).2.2.2.1,((dC d e f).2.2.2.2.1,()))))) m [] (dC d e f).1 (dC d e f).2.1 (dC d e f).2.2.1 (dC d e f).2.2.2.1 (dC d e f).2.2.2.2.1 i g d e o (iW j i)) fun s=>wz s p u) a7)<|cond (gp (ofBytes i) []) (cond (eY (bK g) (dC d e f).2.1 (dC d e f).2.2.1) (cond (eu (bU j (lG g d e f)) 1) (p (dC d e f).2.2.1 m [] g d e o (bU j (lG g d e f))) a7) a7)<|cond (eu (iW j i) 1) (cond (eY (bK g) (dC d e f).2.1 (dC d e f).2.2.1) (cond (eu (bU (iW j i) (lG g d e f)) 1) (p (dC d e f).2.2.1 m [] g d e o (bU (iW j i) (lG g d e f))) a7) a7) a7
def wC {p:Type} (d:List iM) (e:List lW) (f:Int) (g:bV) (i j:iG) (l:Int->bV->iG->bV->(List iM)->(List lW)->bV->iG->Option p) (m o:bV) (q:bV->bV->(List iM)->(List lW)->bV->iG->Option p):Option p:=cond (bY (dC d e f).1 13) (cond (bY (dC d e f).1 13) (ww d e f g i j l m o)<|wB d e f i m g o j l q)<|cond (bY (dC d e f).1 4) (ww d e f g i j l m o)<|wB d e f i m g o j l q
def BU {p:Type} (o:Int->bV->iG->bV->(List iM)->(List lW)->bV->iG->Option p) (u:bV->iG->bV->(List iM)->(List lW)->bV->iG->Option p) (q:bV->bV->(List iM)->(List lW)->bV->iG->Option p) (d:Int) (j:bV) (i:iG) (e:bV) (g:List iM) (f:List lW) (l:bV) (m:iG):Option p:=cond (iF d (bK e)) (cond (bY (nV f d) 0) (cond (gy e d) (cond (gp e e) (cond (bY d d) (cond (eu (bU i [(cu e d)]) 1) (cond (gp e e) (cond (bY d d) (cond (gy e d) (cond (bY (cu e d) (cu e d)) (o (cO .i64 d 1) j (bU i [(cu e d)]) e g f l m) a7) a7) a7) a7) a7) a7) a7) a7)<|cond (gy g (eP .i64 (nV f d) 1)) (bJ (V5 ((dC g f d).1,((dC g f d).2.1,((dC g f d).2.2.1,((dC g f d).2.2.2.1,((dC g f d).2.2.2.2.1,())))))) fun s=>cond s.1 (cond s.1 (wu e g f d i o j l m)<|wC g f d e i m o j l q)<|cond (bY (dC g f d).1 14) (wu e g f d i o j l m)<|wC g f d e i m o j l q) a7)<|u j i e g f l m
def jO:Nat->Int->bV->iG->bV->(List iM)->(List lW)->bV->iG->Option (H8.den⊕Ig.den)
 |0,_,_,_,_,_,_,_,_=>a7
 |n+1,d,e,f,g,i,j,l,m=>BU (jO n) (fun o p q s u v x=>a6 (.inl ((),((o,()),(),(),()),(p,(),(),(q,s,()),u,(),(v,()),x,(),())))) (fun y z A B D E=>a6 (.inr ((),((y,()),(),(),()),((z,A,()),B,(),(D,()),E,(),())))) d e f g i j l m
def ahh (n:Nat) (v:Fv.den):=jO n v.1.1 v.2.1.1.1 v.2.2.1 v.2.2.2.2.2.1.1 v.2.2.2.2.2.1.2.1 v.2.2.2.2.2.2.1 v.2.2.2.2.2.2.2.2.1.1 v.2.2.2.2.2.2.2.2.2.1
noncomputable def Sz:dD:=fP EU Fv H8 Ig (.exit 0) (ahh bT) 18
def amD (f:bV):Option taV:=bJ (arh f) fun g=>bJ (uQ bT g.1 (bK g.1) 0 f [] f f g.1 [] []) fun i=>dR i (fun e=>bJ (jO bT 0 e.2.1.1.2.1 [] e.2.2.1.1 e.2.2.1.2.1 e.2.2.2.1 e.2.1.1.2.1 e.2.2.2.2.2.1) fun j=>dR j (fun d=>cond (gp (ofBytes d.2.2.1) []) (cond (bY (bK d.2.2.2.2.2.2.2.2.2.1) (bK d.2.2.2.2.2.2.2.2.2.1)) (a6 ((ofBytes d.2.2.2.2.2.2.2.2.2.1),())) a7)<|cond (eu (bU d.2.2.2.2.2.2.2.2.2.1 (cZ (ofBytes d.2.2.1))) 1) (cond (bY (bK (bU d.2.2.2.2.2.2.2.2.2.1 (cZ (ofBytes d.2.2.1)))) (bK (bU d.2.2.2.2.2.2.2.2.2.1 (cZ (ofBytes d.2.2.1))))) (a6 ((ofBytes (bU d.2.2.2.2.2.2.2.2.2.1 (cZ (ofBytes d.2.2.1)))),())) a7) a7) (fun b4=>cond (bY (bK b4.2.2.2.2.2.2.1) (bK b4.2.2.2.2.2.2.1)) (a6 ((ofBytes b4.2.2.2.2.2.2.1),())) a7)) (fun l=>a7)
def aJN:Sum:=⟨[.str],tzG,fun x=>amD x.1⟩
noncomputable def GM:Env:=gY prog tt [(90,aAx),(141,alC),(183,alF)] [(91,3,Ja),(138,4,EU),(143,5,EW),(201,500004,anb),(201,600002,am7),(201,600004,aCg),(201,600005,TQ),(138,600005,RX),(138,600016,qH),(138,600017,NT),(138,600019,qH),(138,600010,qH),(138,600020,ajR),(139,600003,RY),(143,600006,RZ),(143,600016,NU),(143,600007,Si),(143,600009,Sj),(143,600020,NV),(20,600001,zV)] [(91,3,WW),(143,5,SA),(138,4,Sz)] [201]
def XV {d:Type} (a:Ju.den->Option d) (b:LY.den->Option d) (c:Mc.den->Option d) (v:Ju.den):Option d:=F7 (fun e f g i j l m o p q=>a ((e,f,g,()),((i,j,l,()),(),()),((m,o,()),p,(),q,()))) (fun s u x y z A B=>b ((),((s,u,x,()),(),()),((y,z,()),A,(),B,()))) (bj c) v.1.1 v.1.2.1 v.1.2.2.1 v.2.1.1.1 v.2.1.1.2.1 v.2.1.1.2.2.1 v.2.2.1.1 v.2.2.1.2.1 v.2.2.2.1 v.2.2.2.2.2.1
theorem akj:dX GM 91 Zz WW:=mF (XV) (h2:=by intros;simp only[XV,bj,F7,dm,dn,bI,di,dw])
def Ti {d:Type} (a:Fz.den->Option d) (b:BK.den->Option d) (c:BL.den->Option d) (v:Fz.den):Option d:=bk (BV (fun e f g i j l m o p q s u x y z A B D E G=>a ((e,f,g,()),((i,j,l,m,()),(o,()),(),(),()),(p,(q,s,u,x,y,()),z,(),(),(A,B,()),D,(),(E,()),G,(),()))) (fun I J K L M N O S U V W X Y Z ab ad ae af=>b ((I,()),((J,K,L,M,()),(N,()),(),(),()),(O,(S,U,V,W,X,()),Y,(),(),(Z,ab,()),ad,(),(ae,()),af,(),()))) (bj c)) v
theorem ahC:dX GM 143 VB SA:=mF (Ti) (h2:=by intros;simp only[Ti,bj,bk,BV,dm,dn,bI,di,dw,fO,jd,lH,oO,oP])
def Tf {d:Type} (a:Fv.den->Option d) (b:H8.den->Option d) (c:Ig.den->Option d) (v:Fv.den):Option d:=BU (fun e f g i j l m o=>a ((e,()),((f,()),(),(),()),(g,(),(),(i,j,()),l,(),(m,()),o,(),()))) (fun p q s u x y z=>b ((),((p,()),(),(),()),(q,(),(),(s,u,()),x,(),(y,()),z,(),()))) (bj c) v.1.1 v.2.1.1.1 v.2.2.1 v.2.2.2.2.2.1.1 v.2.2.2.2.2.1.2.1 v.2.2.2.2.2.2.1 v.2.2.2.2.2.2.2.2.1.1 v.2.2.2.2.2.2.2.2.2.1
theorem ahB:dX GM 138 VA Sz:=mF (Tf) (h2:=by intros;simp only[Tf,bj,BU,dm,dn,bI,di,dw,dC,rH,lF,lG,iW,wu,ww,wz,wB,wC])
theorem aHl:jF abk=[]:=by kernel_rfl
theorem aJd:kC abk=[(cA (cA (cB (cA (cB (cB (abk)))))),cB (cA (cB (cA (cB (cB (abk)))))))]:=by kernel_rfl
theorem aHJ:dO GM 201 abk:=sU abk (by rw[aJd];exact(aD (fun _=>(show ut 201 4=a6 (cA (cA (cB (cA (cB (cB (abk)))))),cB (cA (cB (cA (cB (cB (abk))))))) by kernel_rfl)) aN)) (by rw[aHl];exact aN)
theorem arB:dO GM 91 abl:=pI [Zz] (aD (fM (akj)) aN)
theorem ajZ:dO GM 138 Vo:=pI [VA] (aD (fM (ahB)) aN)
theorem aj0:dO GM 143 Vp:=pI [VB] (aD (fM (ahC)) aN)
theorem aqC:fK GM:=eB (aD Yv (aD aaN (aD aaS aN))) [201,91,138,143] (aD ⟨f201,abk,by kernel_rfl,by kernel_rfl,aHJ⟩ (aD ⟨f91,abl,by kernel_rfl,by kernel_rfl,arB⟩ (aD ⟨Tryz.f138,Vo,by kernel_rfl,by kernel_rfl,ajZ⟩ (aD ⟨Tryz.f143,Vp,by kernel_rfl,by kernel_rfl,aj0⟩ aN))))
theorem asP:dU prog 201 aJN:=sA aqC
def amr (g:bV) (i:Int) (d:Int×J9×vJ):Option ((Int×J9×vJ)×Unit):=bJ (uH d.2.1) fun f=>cond (bY i 1) (a6 ((d.1,(f.1,(false,()))),()))<|cond (bY i 2) (a6 ((0,(f.1,((iF 0 (bK f.1)),()))),()))<|cond (bY i 4) (bJ (ab8 g) fun e=>cond (bY e.1 4) (a6 ((e.1,(f.1,(false,()))),()))<|cond (bY e.1 5) (a6 ((e.1,(f.1,(false,()))),()))<|some ((0,(f.1,(false,()))),()))<|cond (bY i 6) (cond (!(bY d.1 0)) (bJ (amD g) fun e=>cond (gp g g) (cond (bY d.1 d.1) (cond (jM (bY d.1 5) (bY d.1 5)) (cond (((gp g g)&&true)&&((gp e.1 e.1)&&true)) (cond (eu (bU f.1 [(e.1,((bY d.1 5),()))]) 24) (cond (gp g g) (cond (bY d.1 d.1) (cond (jM (bY d.1 5) (bY d.1 5)) (cond ((gp e.1 e.1)&&((jM (bY d.1 5) (bY d.1 5))&&true)) (a6 ((0,((bU f.1 [(e.1,((bY d.1 5),()))]),(false,()))),())) a7) a7) a7) a7) a7) a7) a7) a7) a7)<|some ((0,(f.1,(false,()))),()))<|some ((0,(f.1,(false,()))),())
def aJy:Sum:=⟨[.str,dA,.pair dA tyN],[(.pair dA tyN,false)],fun x=>amr x.1 x.2.1 x.2.2.1⟩
theorem asA:dU prog 151 aJy:=qA f151 [] (sE Aw (sE Px (sE asP aN)))
def abV (d:Int×J9×vJ):Option taU:=cond ((bY d.1 d.1)&&((pO II d.2.1 d.2.1)&&((jM d.2.2.1 d.2.2.1)&&true))) (a6 ((0,(0,(0,(false,())))),((d.1,(d.2.1,(d.2.2.1,()))),()))) a7
def abW (e:bV) (i:Int) (f:Int×J9×vJ):Option taU:=bJ (amq e i) fun d=>cond (eY (bK e) d.1.2.1 d.1.2.2.1) (bJ (amr (sub e d.1.2.1 d.1.2.2.1) d.1.1 (f.1,(f.2.1,(f.2.2.1,())))) fun g=>cond ((bY d.1.1 d.1.1)&&((bY d.1.2.1 d.1.2.1)&&((bY d.1.2.2.1 d.1.2.2.1)&&((jM d.1.2.2.2.1 d.1.2.2.2.1)&&true)))) (cond (gp e e) (cond (bY d.1.2.1 d.1.2.1) (cond (bY d.1.2.2.1 d.1.2.2.1) (cond (gp e e) (cond (bY d.1.2.1 d.1.2.1) (cond (bY d.1.2.2.1 d.1.2.2.1) (cond (eY (bK e) d.1.2.1 d.1.2.2.1) (cond (gp (sub e d.1.2.1 d.1.2.2.1) (sub e d.1.2.1 d.1.2.2.1)) (cond (bY d.1.1 d.1.1) (cond ((bY f.1 f.1)&&((pO II f.2.1 f.2.1)&&((jM f.2.2.1 f.2.2.1)&&true))) (a6 ((d.1.1,(d.1.2.1,(d.1.2.2.1,(d.1.2.2.2.1,())))),((g.1.1,(g.1.2.1,(g.1.2.2.1,()))),()))) a7) a7) a7) a7) a7) a7) a7) a7) a7) a7) a7) a7
def agm (g:bV) (f:Int) (d:Int×J9×vJ):Option taU:=cond (iF f 0) (abV d)<|cond (leI (bK g) f) (abV d)<|cond d.2.2.1 (cond (iF 0 (bK d.2.1)) (bJ (awd g f (d.1,(d.2.1,(d.2.2.1,())))) fun e=>a6 ((e.1.1,(e.1.2.1,(e.1.2.2.1,(e.1.2.2.2.1,())))),((e.2.1.1,(e.2.1.2.1,(e.2.1.2.2.1,()))),())))<|abW g f d)<|abW g f d
def aly:Sum:=⟨[.str,dA,.pair dA tyN],tzI,fun x=>agm x.1 x.2.1 x.2.2.1⟩
theorem aaL:dU prog 105 aly:=qA f105 [] (sE asy (sE asz (sE asA aN)))
noncomputable def b28:Code:=(f28.body).getD .skip
noncomputable def abm:Code:=(f104.body).getD .skip
noncomputable def ZA:Code:=cA (cA (cB (cB (cB (abm)))))
def Z7:fJ:=⟨[0,1,3,4,5,175000003],[(100000501,.pair (.list .unit) (.pair .unit II)),(300000301,.pair (.list .unit) (.pair .unit II))],[],[],[],[]⟩
def aHg:fJ:=⟨[2,3,4,5],[],[],[],[],[]⟩
def aG9:fJ:=⟨[0,2,3,4,5],[],[],[],[],[]⟩
def ajQ:fJ:=⟨[0,1,3,4],[],[],[],[],[]⟩
def Jv:SQ:=⟨us [.yld 1700010,dz,.u,eE,.ptr 3000004 0,bX] 18,[c7,[.yld 1700010],[]],[.box 3000004 78 [bX,bX,bX,cf],.box 3000003 73 cI,.box 2000001 9 [b9],.lp 1700010 28 (c7) [10,11] 6 0 a7,.arr 1500004 MR,ei,.box 1000004 70 [.slc 1500004],dr]⟩
def LZ:SQ:=⟨us [] 24,[c7,[.yld 1700010],[]],[.box 2000001 9 [b9],.lp 1700010 28 (c7) [10,11] 6 0 a7,.arr 1500004 MR,ei,.box 1000004 70 [.slc 1500004],dr]⟩
def Md:SQ:=⟨us [] 24,[c7,[.yld 1700010],[]],[]⟩
def F8 {e:Type} (m:Int->Int->Int->Int->Bool->Int->J9->Bool->bV->(List sQ)->Int->J9->Bool->Int->Bool->Option e) (o:bV->(List sQ)->Int->J9->Bool->Int->Bool->Option e) (y:Option e) (i z A B:Int) (D:Bool) (p:Int) (q:J9) (s:Bool) (f:bV) (g:List sQ) (u:Int) (v:J9) (x:Bool) (j:Int) (l:Bool):Option e:=cond (iF i (bK f)) (bJ (agm f i (p,(q,(s,())))) fun d=>cond ((bY d.2.1.1 d.2.1.1)&&((pO II d.2.1.2.1 d.2.1.2.1)&&((jM d.2.1.2.2.1 d.2.1.2.2.1)&&true))) (cond (eu (bU g [(d.1.1,(d.1.2.1,(d.1.2.2.1,(d.1.2.2.2.1,()))))]) 32) (cond ((bY d.1.1 d.1.1)&&((bY d.1.2.1 d.1.2.1)&&((bY d.1.2.2.1 d.1.2.2.1)&&((jM d.1.2.2.2.1 d.1.2.2.2.1)&&true)))) (cond ((bY d.2.1.1 d.2.1.1)&&((pO II d.2.1.2.1 d.2.1.2.1)&&((jM d.2.1.2.2.1 d.2.1.2.2.1)&&true))) (cond ((bY d.2.1.1 d.2.1.1)&&((pO II d.2.1.2.1 d.2.1.2.1)&&((jM d.2.1.2.2.1 d.2.1.2.2.1)&&true))) (m d.1.2.2.1 d.1.1 d.1.2.1 d.1.2.2.1 d.1.2.2.2.1 d.2.1.1 d.2.1.2.1 d.2.1.2.2.1 f (bU g [(d.1.1,(d.1.2.1,(d.1.2.2.1,(d.1.2.2.2.1,()))))]) d.2.1.1 d.2.1.2.1 d.2.1.2.2.1 j l) a7) a7) a7) a7) a7)<|o f g u v x j l
def uS:Nat->Int->Int->Int->Int->Bool->Int->J9->Bool->bV->(List sQ)->Int->J9->Bool->Int->Bool->Option (LZ.den⊕Md.den)
 |0,_,_,_,_,_,_,_,_,_,_,_,_,_,_,_=>a7
 |n+1,d,e,f,g,i,j,l,m,o,p,q,s,u,v,x=>F8 (uS n) (fun y z A B D E G=>a6 (.inl ((),((),(),(),()),((y,()),(),z,(A,B,D,()),(),(E,G,()),())))) (a6 (.inr ((),((),(),(),()),()))) d e f g i j l m o p q s u v x
def akc (n:Nat) (v:Jv.den):=bl (uS n) v
noncomputable def WX:dD:=fP Z7 Jv LZ Md (.exit 0) (akc bT) 6
def aBG (e:bV):Option ((List sQ)×(Int×J9×vJ)×Unit):=bJ (uS bT 0 0 0 0 false 0 [] false e [] 0 [] false 0 false) fun f=>dR f (fun d=>a6 (d.2.2.2.2.1,((d.2.2.2.2.2.1.1,(d.2.2.2.2.2.1.2.1,(d.2.2.2.2.2.1.2.2.1,()))),()))) (fun g=>a7)
def aFq:Sum:=⟨[.str],[(.list MR,false),(.pair dA tyN,false)],fun x=>aBG x.1⟩
noncomputable def amc:Env:=gY prog tt [(105,aly)] [(104,3,Z7),(28,500006,aHg),(28,600003,aG9),(104,600006,ajQ)] [(104,3,WX)] [28]
def XW {d:Type} (a:Jv.den->Option d) (b:LZ.den->Option d) (c:Md.den->Option d) (v:Jv.den):Option d:=bl (F8 (fun e f g i j l m o p q s u x y z=>a ((e,()),((),(),(),()),((f,g,i,j,()),(l,m,o,()),(p,()),(),q,(s,u,x,()),(),(y,z,()),()))) (fun A B D E G I J=>b ((),((),(),(),()),((A,()),(),B,(D,E,G,()),(),(I,J,()),()))) (c ((),((),(),(),()),()))) v
theorem akk:dX amc 104 ZA WX:=mF (XW) (h2:=by intros;simp only[XW,bl,F8,dm,dn,bI,di,dw])
theorem aMa:jF b28=[]:=by kernel_rfl
theorem aMW:kC b28=[(cA (cA (cB (cA (cB (cB (cB (b28))))))),cB (cA (cB (cA (cB (cB (cB (b28))))))))]:=by kernel_rfl
theorem aMl:dO amc 28 b28:=sU b28 (by rw[aMW];exact(aD (fun _=>(show ut 28 6=a6 (cA (cA (cB (cA (cB (cB (cB (b28))))))),cB (cA (cB (cA (cB (cB (cB (b28)))))))) by kernel_rfl)) aN)) (by rw[aMa];exact aN)
theorem arC:dO amc 104 abm:=pI [ZA] (aD (fM (akk)) aN)
theorem auT:fK amc:=eB (aD aaL aN) [28,104] (aD ⟨f28,b28,by kernel_rfl,by kernel_rfl,aMl⟩ (aD ⟨f104,abm,by kernel_rfl,by kernel_rfl,arC⟩ aN))
theorem az2:dU prog 28 aFq:=sA auT
def aBT (e:bV) (d:sQ):Option taV:=cond (iF d.2.1 0) (a6 ([],()))<|cond (iF d.2.2.1 d.2.1) (a6 ([],()))<|cond (iF (bK e) d.2.2.1) (a6 ([],()))<|cond (eY (bK e) d.2.1 d.2.2.1) (a6 ((sub e d.2.1 d.2.2.1),())) a7
def aFG:Sum:=⟨[.str,MR],tzG,fun x=>aBT x.1 x.2.1⟩
theorem aAn:dU prog 66 aFG:=qA f66 [] aN
noncomputable def b29:Code:=(f29.body).getD .skip
noncomputable def aEm:Code:=cA (cA (cB (cA (cB (b29)))))
def aEU:fJ:=⟨[0,4,7,8,9,100002],[(4,tyD)],[4],[],[4],[]⟩
def an9:SP:=⟨us [b9,.u,.u,.u,ec,.u,.u,eK,bX,bX] 42,[.arr 1800004 tyD]⟩
def aku:SP:=⟨us [.u,.u,.u,.u,ec] 47,[.arr 1800004 tyD]⟩
def akU:SP:=⟨us [.u,.u,.u,.u,.v ru] 47,[]⟩
def fB (d:List sQ) (e:Int):=ed d (0,(0,(0,(false,())))) e
def xE (d:List sQ) (e:Int):=bY (fB d e).2.2.1 (fB d e).2.2.1
def Et {i:Type} (f:bV) (d:List sQ) (e:Int) (j:List gJ) (l:bV->(List sQ)->Int->Int->(List gJ)->Option i) (m:Int):Option i:=bJ (aBT f ((fB d e).1,((fB d e).2.1,((fB d e).2.2.1,((fB d e).2.2.2.1,()))))) fun g=>cond (bY (fB d e).1 (fB d e).1) (cond (gp f f) (cond ((bY (fB d e).1 (fB d e).1)&&((bY (fB d e).2.1 (fB d e).2.1)&&((xE d e)&&((jM (fB d e).2.2.2.1 (fB d e).2.2.2.1)&&true)))) (cond (bY (fB d e).2.1 (fB d e).2.1) (cond (xE d e) (cond (((gp f f)&&(((bY (fB d e).1 (fB d e).1)&&((bY (fB d e).2.1 (fB d e).2.1)&&((xE d e)&&((jM (fB d e).2.2.2.1 (fB d e).2.2.2.1)&&true))))&&true))&&((gp g.1 g.1)&&true)) (cond (eu (bU j [((fB d e).1,(g.1,((fB d e).2.1,((fB d e).2.2.1,()))))]) 40) (cond (bY (fB d e).1 (fB d e).1) (cond (gp f f) (cond ((bY (fB d e).1 (fB d e).1)&&((bY (fB d e).2.1 (fB d e).2.1)&&((xE d e)&&((jM (fB d e).2.2.2.1 (fB d e).2.2.2.1)&&true)))) (cond (bY (fB d e).2.1 (fB d e).2.1) (cond (xE d e) (cond ((bY (fB d e).1 (fB d e).1)&&((gp g.1 g.1)&&((bY (fB d e).2.1 (fB d e).2.1)&&((xE d e)&&true)))) (l f d m (cO .i64 e 1) (bU j [((fB d e).1,(g.1,((fB d e).2.1,((fB d e).2.2.1,()))))])) a7) a7) a7) a7) a7) a7) a7) a7) a7) a7) a7) a7) a7
def ae5 {l:Type} (j:bV->(List sQ)->Int->Int->(List gJ)->Option l) (m o:(List gJ)->Option l) (f:bV) (e:List sQ) (g d:Int) (i:List gJ):Option l:=cond (iF d g) (cond (gy e d) (cond (iF (fB e d).2.1 0) (j f e g (cO .i64 d 1) i)<|cond (iF (fB e d).2.2.1 (fB e d).2.1) (j f e g (cO .i64 d 1) i)<|cond (iF (bK f) (fB e d).2.2.1) (j f e g (cO .i64 d 1) i)<|cond (bY (fB e d).1 4) (cond (bY (fB e d).1 4) (Et f e d i j g)<|j f e g (cO .i64 d 1) i)<|cond (bY (fB e d).1 5) (cond (bY (fB e d).1 5) (Et f e d i j g)<|j f e g (cO .i64 d 1) i)<|cond (bY (fB e d).1 6) (cond (bY (fB e d).1 6) (Et f e d i j g)<|j f e g (cO .i64 d 1) i)<|cond (bY (fB e d).1 2) (Et f e d i j g)<|j f e g (cO .i64 d 1) i) a7)<|m i
def Fb:Nat->bV->(List sQ)->Int->Int->(List gJ)->Option (aku.den⊕akU.den)
 |0,_,_,_,_,_=>a7
 |n+1,d,e,f,g,i=>ae5 (Fb n) (fun j=>a6 (.inl ((),(j,())))) (fun l=>a6 (.inr ((l,()),()))) d e f g i
def aH6 (n:Nat) (v:an9.den):=bc (Fb n) v
noncomputable def axC:dD:=gu aEU an9 aku akU (.exit 0) (aH6 bT) 6
def agH (e:bV) (d:List sQ):Option ((List gJ)×Unit):=bJ (Fb bT e d (bK d) 0 []) fun f=>dR f (fun g=>a6 (g.2.1,())) (fun i=>a7)
def aFr:Sum:=⟨[.str,.list MR],[(.list tyD,true)],fun x=>agH x.1 x.2.1⟩
noncomputable def auU:Env:=jm prog tt 29 [(66,aFG)] [(2,aEU)] [(2,axC)]
def ayI {d:Type} (a:an9.den->Option d) (b:aku.den->Option d) (c:akU.den->Option d) (v:an9.den):Option d:=bc (ae5 (fun e f g i j=>a ((e,f,g,i,()),(j,()))) (fun l=>b ((),(l,()))) (aE c)) v
theorem aIH:dX auU 29 aEm axC:=yu (ayI) (h2:=by intros;simp only[ayI,aE,bc,ae5,dm,dn,bI,di,dw,fB,xE,Et])
theorem aMm:dO auU 29 b29:=pI [aEm] (aD (fM (aIH)) aN)
theorem auV:fK auU:=eA f29 (aD aAn aN) (aMm)
theorem az3:dU prog 29 aFr:=sA auV
end
end Go.Proofs.YtkichehglnecnaaGreatDoor
