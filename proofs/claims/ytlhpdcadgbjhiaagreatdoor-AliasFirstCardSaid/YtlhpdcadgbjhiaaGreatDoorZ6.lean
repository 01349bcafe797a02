/- Parts of the proof, joined and shortened by a program: the plain machine, the functions as it prints them, and the mathematics over them. -/
import Derived.Test.YtlhpdcadgbjhiaaGreatDoorZ3
import Derived.Test.YtlhpdcadgbjhiaaGreatDoorZ4
set_option linter.unusedVariables false
set_option linter.unusedSimpArgs false
set_option maxRecDepth 100000
set_option maxHeartbeats 4000000
namespace Go.Proofs.YtlhpdcadgbjhiaaGreatDoor
section
open Option renaming some → a6, none → a7
open Tryz
open Go.RowKit
def aEd (i:bZ) (g:Int) (d:Int×Dx×qG):Option taT:=cond (fV d.2.1 0) (bJ (ajk i g (dJ d.2.1 ([],(false,())) 0)) fun f=>cond (!f.2.1) (cond ((bV d.1 d.1)&&((lZ Dy d.2.1 d.2.1)&&((jA d.2.2.1 d.2.2.1)&&true))) (a6 ((7,(g,(f.1,((!f.2.1),())))),((d.1,(d.2.1,(d.2.2.1,()))),()))) a7)<|cond (fH (bM d.2.1) 1 (bM d.2.1)) (bJ (qN (sub d.2.1 1 (bM d.2.1))) fun e=>cond (bV d.1 d.1) (cond (bV (bM e.1) (bM e.1)) (cond (jA (gY 0 (bM e.1)) (gY 0 (bM e.1))) (cond ((bV d.1 d.1)&&((jA (gY 0 (bM e.1)) (gY 0 (bM e.1)))&&true)) (a6 ((7,(g,(f.1,((!f.2.1),())))),((d.1,(e.1,((gY 0 (bM e.1)),()))),()))) a7) a7) a7) a7) a7) a7
def aKK:Sum:=⟨[.str,dC,.pair dC tyM],tzI,fun x=>aEd x.1 x.2.1 x.2.2.1⟩
theorem ax1:dR prog 99 aKK:=qA f99 [] (sE apo (sE wX aN))
def adH (d:je):Option qG:=cond (bV d.1 12) (a6 ((bV d.2.2.1 (dw .i64 d.2.1 1)),()))<|some (false,())
def axm:Sum:=⟨[Jf],LG,fun x=>adH x.1⟩
theorem apU:dR prog 213 axm:=qA f213 [] aN
def YS (d:je):Option nN:=cond d.2.2.2.2.1 (a6 ((dw .i64 d.2.1 2),((BX (eU .i64 d.2.2.1 0) (dw .i64 d.2.1 2)),())))<|some ((dw .i64 d.2.1 2),((BX (eU .i64 d.2.2.1 1) (dw .i64 d.2.1 2)),()))
def ajK (d:je):Option nN:=cond d.2.2.2.2.1 (a6 ((dw .i64 d.2.1 1),((BX (eU .i64 d.2.2.1 0) (dw .i64 d.2.1 1)),())))<|some ((dw .i64 d.2.1 1),((BX (eU .i64 d.2.2.1 0) (dw .i64 d.2.1 1)),()))
def ajL (d:je):Option nN:=cond d.2.2.2.2.1 (a6 ((dw .i64 d.2.1 1),((BX (eU .i64 d.2.2.1 0) (dw .i64 d.2.1 1)),())))<|some ((dw .i64 d.2.1 1),((BX (eU .i64 d.2.2.1 1) (dw .i64 d.2.1 1)),()))
def YT (d:je):Option nN:=cond (bV d.1 9) (cond d.2.2.2.2.1 (a6 ((dw .i64 d.2.1 3),((BX (eU .i64 d.2.2.1 0) (dw .i64 d.2.1 3)),())))<|some ((dw .i64 d.2.1 3),((BX (eU .i64 d.2.2.1 2) (dw .i64 d.2.1 3)),())))<|cond (bV d.1 13) (cond (bV d.1 13) (ajK d)<|ajL d)<|cond (bV d.1 12) (ajK d)<|ajL d
def ajJ (d:je):Option nN:=cond (bV d.1 1) (cond (bV d.1 1) (YS d)<|YT d)<|cond (bV d.1 7) (cond (bV d.1 7) (YS d)<|YT d)<|cond (bV d.1 8) (YS d)<|YT d
def axx:Sum:=⟨[Jf],tzJ,fun x=>ajJ x.1⟩
theorem ap8:dR prog 249 axx:=qA f249 [] aN
noncomputable def Yj:Code:=(Tryz.f143.body).getD .skip
noncomputable def Rf:Code:=(f170.body).getD .skip
noncomputable def Rh:Code:=(f210.body).getD .skip
noncomputable def Ri:Code:=(f215.body).getD .skip
noncomputable def Rw:Code:=cA (cA (cB (cA (cB (cB (Rf))))))
noncomputable def Rx:Code:=cA (cA (cB (cA (cB (cB (cB (cA (cB (Rh)))))))))
noncomputable def Ry:Code:=cA (cA (cB (cA (cB (cB (cB (cB (Ri))))))))
def Td:eQ:=⟨[3,15,16,17,171000003],[],[3],[],[2],[]⟩
def Tf:eQ:=⟨[1,2,3,4,5,211000004],[(300000300,.pair (.list .unit) (.int .u8))],[4],[],[],[]⟩
def Ti:eQ:=⟨[0,2,8,9,10,11,123000005],[(9,(.int .u8))],[2,9,10],[],[6],[]⟩
def azA:eQ:=⟨[2,3],[],[],[],[],[]⟩
def azv:eQ:=⟨[0,2,3],[],[],[],[],[]⟩
def azw:eQ:=⟨[3,4],[],[],[],[],[]⟩
def PO:eQ:=⟨[3],[],[],[],[],[]⟩
def aeg:eQ:=⟨[1,2,3,4,5],[],[],[],[],[]⟩
def BG:eQ:=⟨[1,2,3,4,5,6],[],[],[],[],[]⟩
def Ze:eQ:=⟨[1,2,3,4,5,8,9],[],[],[],[],[]⟩
def aeh:eQ:=⟨[1,3],[],[],[],[],[]⟩
def aei:eQ:=⟨[0,2,8,9,10,11],[],[],[],[],[]⟩
def Zf:eQ:=⟨[0,2,8,9,10,12],[],[],[],[],[]⟩
def aej:eQ:=⟨[0,2,8,9,12],[],[],[],[],[]⟩
def aek:eQ:=⟨[0,2,8,12],[],[],[],[],[]⟩
def Zg:eQ:=⟨[2,9],[],[],[],[],[]⟩
def Ce:SQ:=⟨us [.u,.u,.u,cY,.u,.u,.u,.u,.u,.u,.u,.u,.u,.u,.u,.v V3,bR,bR] 14,[us [bO,.u,bO,cg,.u,bO] 7,[]],[cz,cW,bS,cy]⟩
def En:SQ:=⟨us [.u,.u,.u,cY] 28,[us [bO,.u,bO,cg,.u,bO] 7,[]],[cz,cW,bS,cy]⟩
def Ew:SQ:=⟨us [] 112,[cG,cQ,[]],ce⟩
def yu {e:Type} (u:(List je)->Int->Int->bZ->bZ->bZ->bZ->(List je)->(List oH)->jg->Option e) (v:bZ->bZ->bZ->bZ->(List je)->(List oH)->jg->Option e) (x:bZ->bZ->(List je)->(List oH)->bZ->jg->Option e) (f:List je) (g d:Int) (i j l o:bZ) (p:List je) (q:List oH) (s:jg):Option e:=cond (gY d g) (cond (fV f d) (u f g (dw .i64 d 1) i j l o p (lH q (dJ f (0,(0,(0,(0,(false,()))))) d).2.1 (dw .i64 d 1)) s) a7)<|v i j l o p q s
def pO:Nat->(List je)->Int->Int->bZ->bZ->bZ->bZ->(List je)->(List oH)->jg->Option (En.den⊕Ew.den)
 |0,_,_,_,_,_,_,_,_,_,_=>a7
 |n+1,d,e,f,g,i,j,l,o,p,q=>yu (pO n) (fun s u v x y z A=>a6 (.inl ((),((s,u,v,()),(),()),((x,y,()),z,(),A,())))) (fun B D E G I J=>a6 (.inr ((),((B,()),(),(),()),((D,E,()),G,(),(I,()),J,(),())))) d e f g i j l o p q
def aeu (n:Nat) (v:Ce.den):=pO n v.1.1 v.1.2.1 v.1.2.2.1 v.2.1.1.1 v.2.1.1.2.1 v.2.1.1.2.2.1 v.2.2.1.1 v.2.2.1.2.1 v.2.2.2.1 v.2.2.2.2.2.1
noncomputable def OE:dE:=fG Td Ce En Ew (.exit 0) (aeu bQ) 6
def Ci:SQ:=⟨us [cY,.u,.yld 1700008,.u,.u,.u,.u,.u,bR,.slc 4800009,b9,bR] 83,[bX,cG,cQ,[]],cf⟩
def xU:SQ:=⟨us [.u,.u,.yld 1700008,.u,.u,.u,.u,.u,.u,.slc 4800009,b9] 84,[bX,cG,cQ,[]],cf⟩
def x8:SQ:=⟨us [] 112,[cG,cQ,[]],ce⟩
def eX (d:List je) (e:List oH) (f:Int):=dJ d (0,(0,(0,(0,(false,()))))) (eU .i64 (lU e f) 1)
def iQ (d:bZ) (e:List je) (f:List oH) (g:Int):=bY d (dw .i64 (eX e f g).2.1 1)
def kw (g:bZ) (d:List je) (e:List oH) (f:Int):=dA (sub g (eX d e f).2.1 (eX d e f).2.2.1)
def mJ {i:Type} (j:jg) (f:bZ) (d:List je) (e:List oH) (g:Int) (l:Int->Bool->Int->Int->Bool->Bool->je->bZ->jg->Int->Int->Int->Int->Bool->jg->bZ->(List je)->(List oH)->bZ->jg->Option i) (o:Int) (p:Bool) (q:Int) (s u:Bool) (v:je) (x:bZ) (y z A B:Int) (D:Bool) (E:jg) (G:bZ) (I:jg):Option i:=cond (dY (bT j (dA (ofBytes [(iQ f d e g)]))) 1) (l o p (eX d e g).2.2.1 q s u v x (bT j (dA (ofBytes [(iQ f d e g)]))) y z A B D E f d e G I) a7
def mM {j:Type} (g:bZ) (d:List je) (e:List oH) (f:Int) (i:jg) (l:Int->Bool->Int->Int->Bool->Bool->je->bZ->jg->Int->Int->Int->Int->Bool->jg->bZ->(List je)->(List oH)->bZ->jg->Option j) (o:Int) (p:Bool) (q:Int) (s u:Bool) (v:je) (x:bZ) (y z A B:Int) (D:Bool) (E:jg) (G:bZ) (I:jg):Option j:=cond (bV (iQ g d e f) 10) (cond (dY (bT i (dA [])) 1) (l o p (eX d e f).2.2.1 q s u v x (bT i (dA [])) y z A B D E g d e G I) a7)<|cond (fH (bM g) (eX d e f).2.1 (eX d e f).2.2.1) (cond (dY (bT i (kw g d e f)) 1) (l o p (eX d e f).2.2.1 q s u v x (bT i (kw g d e f)) y z A B D E g d e G I) a7) a7
def yx {I:Type} (E:Int->Bool->Int->Int->Bool->Bool->je->bZ->jg->Int->Int->Int->Int->Bool->jg->bZ->(List je)->(List oH)->bZ->jg->Option I) (J:Bool->Int->Bool->Bool->je->bZ->jg->Int->Int->Int->Int->Bool->jg->bZ->(List je)->(List oH)->bZ->jg->Option I) (L:bZ->bZ->(List je)->(List oH)->bZ->jg->Option I) (l:Int) (G:Bool) (d o:Int) (p q:Bool) (s:je) (u:bZ) (i:jg) (v x y z:Int) (A:Bool) (B:jg) (g:bZ) (f:List je) (e:List oH) (D:bZ) (j:jg):Option I:=cond (gY d l) (cond (bV (lU e d) 0) (cond (fV g d) (cond (dY (bT i [(bY g d)]) 1) (E l G (dw .i64 d 1) o p q s u (bT i [(bY g d)]) v x y z A B g f e D j) a7) a7)<|cond (fV f (eU .i64 (lU e d) 1)) (bJ (adH ((eX f e d).1,((eX f e d).2.1,((eX f e d).2.2.1,((eX f e d).2.2.2.1,((eX f e d).2.2.2.2.1,())))))) fun K=>cond K.1 (cond (fV g d) (cond (dY (bT i [(bY g d)]) 1) (E l G (dw .i64 d 1) o p q s u (bT i [(bY g d)]) v x y z A B g f e D j) a7) a7)<|cond (bV (eX f e d).1 13) (cond (gY (eU .i64 (eX f e d).2.2.1 (eX f e d).2.1) 2) (cond (dY (bT i (dA [])) 1) (E l G (eX f e d).2.2.1 o p q s u (bT i (dA [])) v x y z A B g f e D j) a7)<|cond (fV g (dw .i64 (eX f e d).2.1 1)) (cond (bV (iQ g f e d) 36) (cond (bV (iQ g f e d) 36) (mJ i g f e d E l G o p q s u v x y z A B D j)<|mM g f e d i E l G o p q s u v x y z A B D j)<|cond (bV (iQ g f e d) 96) (cond (bV (iQ g f e d) 96) (mJ i g f e d E l G o p q s u v x y z A B D j)<|mM g f e d i E l G o p q s u v x y z A B D j)<|cond (bV (iQ g f e d) 34) (cond (bV (iQ g f e d) 34) (mJ i g f e d E l G o p q s u v x y z A B D j)<|mM g f e d i E l G o p q s u v x y z A B D j)<|cond (bV (iQ g f e d) 92) (mJ i g f e d E l G o p q s u v x y z A B D j)<|mM g f e d i E l G o p q s u v x y z A B D j) a7)<|cond (gY 0 (bM i)) (cond (dY (bT j (dA (ofBytes i))) 1) (cond (fH (bM g) (eX f e d).2.1 (eX f e d).2.2.1) (cond (dY (bT (bT j (dA (ofBytes i))) (kw g f e d)) 1) (E l true (eX f e d).2.2.1 o p q s u [] v x y z A B g f e D (bT (bT j (dA (ofBytes i))) (kw g f e d))) a7) a7) a7)<|cond (fH (bM g) (eX f e d).2.1 (eX f e d).2.2.1) (cond (dY (bT j (kw g f e d)) 1) (E l true (eX f e d).2.2.1 o p q s u [] v x y z A B g f e D (bT j (kw g f e d))) a7) a7) a7)<|J G o p q s u i v x y z A B g f e D j
def kY:Nat->Int->Bool->Int->Int->Bool->Bool->je->bZ->jg->Int->Int->Int->Int->Bool->jg->bZ->(List je)->(List oH)->bZ->jg->Option (xU.den⊕x8.den)
 |0,_,_,_,_,_,_,_,_,_,_,_,_,_,_,_,_,_,_,_,_=>a7
 |n+1,d,e,f,g,i,j,l,o,p,q,s,u,v,x,y,z,A,B,D,E=>yx (kY n) (fun G I J K L M N O S U V W X Y Z ab ad ae=>a6 (.inl ((G,()),((I,J,K,L,()),(M,()),(),(),()),(N,(O,S,U,V,W,()),X,(),(),(Y,Z,()),ab,(),(ad,()),ae,(),())))) (fun r0 r1 r2 r3 r4 r5=>a6 (.inr ((),((r0,()),(),(),()),((r1,r2,()),r3,(),(r4,()),r5,(),())))) d e f g i j l o p q s u v x y z A B D E
def aew (n:Nat) (v:Ci.den):=bc (kY n) v
noncomputable def OH:dE:=fG Ti Ci xU x8 (.exit 0) (aew bQ) 12
def Cf:SQ:=⟨us [.u,d7,.ptr 3000002 0,.ptr 3000003 0,cN,bR] 106,[cG,cQ,[]],ci⟩
def Eo:SQ:=⟨us [.u,.u,.u,.u,cN] 107,[cG,cQ,[]],ci⟩
def Ey:SQ:=⟨us [] 112,[cG,cQ,[]],ce⟩
def dB (d:List je) (e:List oH) (f:Int):=dJ d (0,(0,(0,(0,(false,()))))) (eU .i64 (lU e f) 1)
def oP (d:List je) (e:List oH) (f:Int):=ajJ ((dB d e f).1,((dB d e f).2.1,((dB d e f).2.2.1,((dB d e f).2.2.2.1,((dB d e f).2.2.2.2.1,())))))
def jZ (g:bZ) (d:List je) (e:List oH) (f:Int):=sub g (dw .i64 (dB d e f).2.1 1) (dB d e f).2.2.1
def ku (g:bZ) (d:List je) (e:List oH) (f:Int):=dA (sub g (dB d e f).2.1 (dB d e f).2.2.1)
def iG (d e:jg):=bT d (dA (ofBytes e))
def rW {i:Type} (g:bZ) (d:List je) (e:List oH) (f:Int) (j:jg) (l:Int->bZ->jg->bZ->(List je)->(List oH)->bZ->jg->Option i) (o p:bZ) (q:jg):Option i:=cond (fH (bM g) (dB d e f).2.1 (dB d e f).2.2.1) (cond (dY (bT j (ku g d e f)) 1) (l (dB d e f).2.2.1 o (bT j (ku g d e f)) g d e p q) a7) a7
def rX {s:Type} (d:List je) (e:List oH) (g:Int) (f:bZ) (j i:jg) (o:Int->bZ->jg->bZ->(List je)->(List oH)->bZ->jg->Option s) (p q:bZ):Option s:=cond (bV (dB d e g).1 4) (bJ (oP d e g) fun l=>cond (fH (bM f) l.1 l.2.1) (cond (fP (ofBytes j) []) (cond (dY (bT i (dA (sub f l.1 l.2.1))) 1) (o (dB d e g).2.2.1 p [] f d e q (bT i (dA (sub f l.1 l.2.1)))) a7)<|cond (dY (iG i j) 1) (cond (dY (bT (iG i j) (dA (sub f l.1 l.2.1))) 1) (o (dB d e g).2.2.1 p [] f d e q (bT (iG i j) (dA (sub f l.1 l.2.1)))) a7) a7) a7)<|cond (fH (bM f) (dw .i64 (dB d e g).2.1 1) (dB d e g).2.2.1) (cond (!(fP (jZ f d e g) [])) (cond (!(fP (jZ f d e g) [10])) (cond (fP (ofBytes j) []) (cond (dY (bT i (dA (jZ f d e g))) 1) (o (dB d e g).2.2.1 p [] f d e q (bT i (dA (jZ f d e g)))) a7)<|cond (dY (iG i j) 1) (cond (dY (bT (iG i j) (dA (jZ f d e g))) 1) (o (dB d e g).2.2.1 p [] f d e q (bT (iG i j) (dA (jZ f d e g)))) a7) a7)<|o (dB d e g).2.2.1 p j f d e q i)<|o (dB d e g).2.2.1 p j f d e q i) a7
def rY {e:Type} (i:xU.den⊕x8.den) (f:Int->bZ->jg->bZ->(List je)->(List oH)->bZ->jg->Option e) (g:bZ->bZ->(List je)->(List oH)->bZ->jg->Option e):Option e:=dW i (fun d=>cond (bV (bM d.2.2.1) 0) (cond d.1.1 (cond d.2.1.1.2.2.1 (f d.2.1.1.1 d.2.1.2.1.1 [] d.2.2.2.2.2.2.2.1.1 d.2.2.2.2.2.2.2.1.2.1 d.2.2.2.2.2.2.2.2.1 d.2.2.2.2.2.2.2.2.2.2.1.1 d.2.2.2.2.2.2.2.2.2.2.2.1)<|g d.2.1.2.1.1 d.2.2.2.2.2.2.2.1.1 d.2.2.2.2.2.2.2.1.2.1 d.2.2.2.2.2.2.2.2.1 d.2.2.2.2.2.2.2.2.2.2.1.1 d.2.2.2.2.2.2.2.2.2.2.2.1)<|cond (dY (bT d.2.2.2.2.2.2.2.2.2.2.2.1 (dA (ofBytes d.2.2.1))) 1) (cond d.2.1.1.2.2.1 (f d.2.1.1.1 d.2.1.2.1.1 [] d.2.2.2.2.2.2.2.1.1 d.2.2.2.2.2.2.2.1.2.1 d.2.2.2.2.2.2.2.2.1 d.2.2.2.2.2.2.2.2.2.2.1.1 (bT d.2.2.2.2.2.2.2.2.2.2.2.1 (dA (ofBytes d.2.2.1))))<|g d.2.1.2.1.1 d.2.2.2.2.2.2.2.1.1 d.2.2.2.2.2.2.2.1.2.1 d.2.2.2.2.2.2.2.2.1 d.2.2.2.2.2.2.2.2.2.2.1.1 (bT d.2.2.2.2.2.2.2.2.2.2.2.1 (dA (ofBytes d.2.2.1)))) a7)<|cond (dY (bT d.2.2.2.2.2.2.2.2.2.2.2.1 (dA (ofBytes d.2.2.1))) 1) (cond d.2.1.1.2.2.1 (f d.2.1.1.1 d.2.1.2.1.1 [] d.2.2.2.2.2.2.2.1.1 d.2.2.2.2.2.2.2.1.2.1 d.2.2.2.2.2.2.2.2.1 d.2.2.2.2.2.2.2.2.2.2.1.1 (bT d.2.2.2.2.2.2.2.2.2.2.2.1 (dA (ofBytes d.2.2.1))))<|g d.2.1.2.1.1 d.2.2.2.2.2.2.2.1.1 d.2.2.2.2.2.2.2.1.2.1 d.2.2.2.2.2.2.2.2.1 d.2.2.2.2.2.2.2.2.2.2.1.1 (bT d.2.2.2.2.2.2.2.2.2.2.2.1 (dA (ofBytes d.2.2.1)))) a7) (fun j=>a7)
def rZ {s:Type} (d:List je) (e:List oH) (f:Int) (i:jg) (o g p:bZ) (j:jg) (q:Int->bZ->jg->bZ->(List je)->(List oH)->bZ->jg->Option s) (v:bZ->bZ->(List je)->(List oH)->bZ->jg->Option s):Option s:=cond (bV (dB d e f).1 5) (cond (fP (ofBytes i) []) (bJ (oP d e f) fun l=>bJ (kY bQ l.2.1 false l.1 (dB d e f).2.2.1 true true ((dB d e f).1,((dB d e f).2.1,((dB d e f).2.2.1,((dB d e f).2.2.2.1,((dB d e f).2.2.2.2.1,()))))) o [] (dB d e f).1 (dB d e f).2.1 (dB d e f).2.2.1 (dB d e f).2.2.2.1 (dB d e f).2.2.2.2.1 i g d e p j) fun u=>rY u q v)<|cond (dY (iG j i) 1) (bJ (oP d e f) fun l=>bJ (kY bQ l.2.1 false l.1 (dB d e f).2.2.1 true true ((dB d e f).1,((dB d e f).2.1,((dB d e f).2.2.1,((dB d e f).2.2.2.1,((dB d e f).2.2.2.2.1,()))))) o [] (dB d e f).1 (dB d e f).2.1 (dB d e f).2.2.1 (dB d e f).2.2.2.1 (dB d e f).2.2.2.2.1 i g d e p (iG j i)) fun u=>rY u q v) a7)<|cond (fP (ofBytes i) []) (cond (fH (bM g) (dB d e f).2.1 (dB d e f).2.2.1) (cond (dY (bT j (ku g d e f)) 1) (q (dB d e f).2.2.1 o [] g d e p (bT j (ku g d e f))) a7) a7)<|cond (dY (iG j i) 1) (cond (fH (bM g) (dB d e f).2.1 (dB d e f).2.2.1) (cond (dY (bT (iG j i) (ku g d e f)) 1) (q (dB d e f).2.2.1 o [] g d e p (bT (iG j i) (ku g d e f))) a7) a7) a7
def su {q:Type} (d:List je) (e:List oH) (f:Int) (g:bZ) (i j:jg) (l:Int->bZ->jg->bZ->(List je)->(List oH)->bZ->jg->Option q) (o p:bZ) (s:bZ->bZ->(List je)->(List oH)->bZ->jg->Option q):Option q:=cond (bV (dB d e f).1 13) (cond (bV (dB d e f).1 13) (rX d e f g i j l o p)<|rZ d e f i o g p j l s)<|cond (bV (dB d e f).1 4) (rX d e f g i j l o p)<|rZ d e f i o g p j l s
def yw {q:Type} (p:Int->bZ->jg->bZ->(List je)->(List oH)->bZ->jg->Option q) (v:bZ->jg->bZ->(List je)->(List oH)->bZ->jg->Option q) (s:bZ->bZ->(List je)->(List oH)->bZ->jg->Option q) (d:Int) (j:bZ) (i:jg) (e:bZ) (g:List je) (f:List oH) (l:bZ) (o:jg):Option q:=cond (gY d (bM e)) (cond (bV (lU f d) 0) (cond (fV e d) (cond (fP e e) (cond (bV d d) (cond (dY (bT i [(bY e d)]) 1) (cond (fP e e) (cond (bV d d) (cond (fV e d) (cond (bV (bY e d) (bY e d)) (p (dw .i64 d 1) j (bT i [(bY e d)]) e g f l o) a7) a7) a7) a7) a7) a7) a7) a7)<|cond (fV g (eU .i64 (lU f d) 1)) (bJ (adH ((dB g f d).1,((dB g f d).2.1,((dB g f d).2.2.1,((dB g f d).2.2.2.1,((dB g f d).2.2.2.2.1,())))))) fun u=>cond u.1 (cond u.1 (rW e g f d i p j l o)<|su g f d e i o p j l s)<|cond (bV (dB g f d).1 14) (rW e g f d i p j l o)<|su g f d e i o p j l s) a7)<|v j i e g f l o
def jr:Nat->Int->bZ->jg->bZ->(List je)->(List oH)->bZ->jg->Option (Eo.den⊕Ey.den)
 |0,_,_,_,_,_,_,_,_=>a7
 |n+1,d,e,f,g,i,j,l,o=>yw (jr n) (fun p q s u v x y=>a6 (.inl ((),((p,()),(),(),()),(q,(),(),(s,u,()),v,(),(x,()),y,(),())))) (fun z A B D E G=>a6 (.inr ((),((z,()),(),(),()),((A,B,()),D,(),(E,()),G,(),())))) d e f g i j l o
def aev (n:Nat) (v:Cf.den):=jr n v.1.1 v.2.1.1.1 v.2.2.1 v.2.2.2.2.2.1.1 v.2.2.2.2.2.1.2.1 v.2.2.2.2.2.2.1 v.2.2.2.2.2.2.2.2.1.1 v.2.2.2.2.2.2.2.2.2.1
noncomputable def OG:dE:=fG Tf Cf Eo Ey (.exit 0) (aev bQ) 18
def ajn (f:bZ):Option taU:=bJ (ajB f) fun g=>bJ (pO bQ g.1 (bM g.1) 0 f [] f f g.1 [] []) fun j=>dW j (fun e=>bJ (jr bQ 0 e.2.1.1.2.1 [] e.2.2.1.1 e.2.2.1.2.1 e.2.2.2.1 e.2.1.1.2.1 e.2.2.2.2.2.1) fun l=>dW l (fun d=>cond (fP (ofBytes d.2.2.1) []) (cond (bV (bM d.2.2.2.2.2.2.2.2.2.1) (bM d.2.2.2.2.2.2.2.2.2.1)) (a6 ((ofBytes d.2.2.2.2.2.2.2.2.2.1),())) a7)<|cond (dY (bT d.2.2.2.2.2.2.2.2.2.1 (dA (ofBytes d.2.2.1))) 1) (cond (bV (bM (bT d.2.2.2.2.2.2.2.2.2.1 (dA (ofBytes d.2.2.1)))) (bM (bT d.2.2.2.2.2.2.2.2.2.1 (dA (ofBytes d.2.2.1))))) (a6 ((ofBytes (bT d.2.2.2.2.2.2.2.2.2.1 (dA (ofBytes d.2.2.1)))),())) a7) a7) (fun i=>cond (bV (bM i.2.2.2.2.2.2.1) (bM i.2.2.2.2.2.2.1)) (a6 ((ofBytes i.2.2.2.2.2.2.1),())) a7)) (fun o=>a7)
def aGx:Sum:=⟨[.str],tzF,fun x=>ajn x.1⟩
noncomputable def DJ:Env:=gz prog tt [(209,axk),(213,axm),(249,axx)] [(170,3,Td),(210,4,Tf),(215,5,Ti),(143,500004,azA),(143,600002,azv),(143,600004,azw),(143,600005,PO),(210,600005,aeg),(210,600016,BG),(210,600017,Ze),(210,600019,BG),(210,600010,BG),(210,600020,aj6),(211,600003,aeh),(215,600006,aei),(215,600016,Zf),(215,600007,aej),(215,600009,aek),(215,600020,Zg),(90,600001,rH)] [(170,3,OE),(215,5,OH),(210,4,OG)] [143]
def O8 {d:Type} (a:Ce.den->Option d) (b:En.den->Option d) (c:Ew.den->Option d) (v:Ce.den):Option d:=yu (fun e f g i j l o p q s=>a ((e,f,g,()),((i,j,l,()),(),()),((o,p,()),q,(),s,()))) (fun u x y z A B D=>b ((),((u,x,y,()),(),()),((z,A,()),B,(),D,()))) (bb c) v.1.1 v.1.2.1 v.1.2.2.1 v.2.1.1.1 v.2.1.1.2.1 v.2.1.1.2.2.1 v.2.2.1.1 v.2.2.1.2.1 v.2.2.2.1 v.2.2.2.2.2.1
theorem aeQ:dV DJ 170 Rw OE:=lg (O8) (h2:=by intros;simp only[O8,bb,yu,dh,di,bI,cZ,dm])
def Pg {d:Type} (a:Ci.den->Option d) (b:xU.den->Option d) (c:x8.den->Option d) (v:Ci.den):Option d:=bc (yx (fun e f g i j l o p q s u x y z A B D E G I=>a ((e,f,g,()),((i,j,l,o,()),(p,()),(),(),()),(q,(s,u,x,y,z,()),A,(),(),(B,D,()),E,(),(G,()),I,(),()))) (fun J K L M N O S U V W X Y Z ab ad ae af ag=>b ((J,()),((K,L,M,N,()),(O,()),(),(),()),(S,(U,V,W,X,Y,()),Z,(),(),(ab,ad,()),ae,(),(af,()),ag,(),()))) (bb c)) v
theorem aeS:dV DJ 215 Ry OH:=lg (Pg) (h2:=by intros;simp only[Pg,bb,bc,yx,dh,di,bI,cZ,dm,eX,iQ,kw,mJ,mM])
def O9 {d:Type} (a:Cf.den->Option d) (b:Eo.den->Option d) (c:Ey.den->Option d) (v:Cf.den):Option d:=yw (fun e f g i j l o p=>a ((e,()),((f,()),(),(),()),(g,(),(),(i,j,()),l,(),(o,()),p,(),()))) (fun q s u x y z A=>b ((),((q,()),(),(),()),(s,(),(),(u,x,()),y,(),(z,()),A,(),()))) (bb c) v.1.1 v.2.1.1.1 v.2.2.1 v.2.2.2.2.2.1.1 v.2.2.2.2.2.1.2.1 v.2.2.2.2.2.2.1 v.2.2.2.2.2.2.2.2.1.1 v.2.2.2.2.2.2.2.2.2.1
theorem aeR:dV DJ 210 Rx OG:=lg (O9) (h2:=by intros;simp only[O9,bb,yw,dh,di,bI,cZ,dm,dB,oP,jZ,ku,iG,rW,rX,rY,rZ,su])
theorem aEu:jC Yj=[]:=by kernel_rfl
theorem aGb:jU Yj=[(cA (cA (cB (cA (cB (cB (Yj)))))),cB (cA (cB (cA (cB (cB (Yj)))))))]:=by kernel_rfl
theorem aEN:dO DJ 143 Yj:=tK Yj (by rw[aGb];exact(aD (fun _=>(show qK 143 4=a6 (cA (cA (cB (cA (cB (cB (Yj)))))),cB (cA (cB (cA (cB (cB (Yj))))))) by kernel_rfl)) aN)) (by rw[aEu];exact aN)
theorem ahp:dO DJ 170 Rf:=nM [Rw] (aD (fM (aeQ)) aN)
theorem ahq:dO DJ 210 Rh:=nM [Rx] (aD (fM (aeR)) aN)
theorem ahr:dO DJ 215 Ri:=nM [Ry] (aD (fM (aeS)) aN)
theorem anv:eF DJ:=eB (aD apT (aD apU (aD ap8 aN))) [143,170,210,215] (aD ⟨Tryz.f143,Yj,by kernel_rfl,by kernel_rfl,aEN⟩ (aD ⟨f170,Rf,by kernel_rfl,by kernel_rfl,ahp⟩ (aD ⟨f210,Rh,by kernel_rfl,by kernel_rfl,ahq⟩ (aD ⟨f215,Ri,by kernel_rfl,by kernel_rfl,ahr⟩ aN))))
theorem apv:dR prog 143 aGx:=sA anv
def ajg (g:bZ) (i:Int) (d:Int×Dx×qG):Option ((Int×Dx×qG)×Unit):=bJ (qN d.2.1) fun f=>cond (bV i 1) (a6 ((d.1,(f.1,(false,()))),()))<|cond (bV i 2) (a6 ((0,(f.1,((gY 0 (bM f.1)),()))),()))<|cond (bV i 4) (bJ (Oh g) fun e=>cond (bV e.1 4) (a6 ((e.1,(f.1,(false,()))),()))<|cond (bV e.1 5) (a6 ((e.1,(f.1,(false,()))),()))<|some ((0,(f.1,(false,()))),()))<|cond (bV i 6) (cond (!(bV d.1 0)) (bJ (ajn g) fun e=>cond (fP g g) (cond (bV d.1 d.1) (cond (jA (bV d.1 5) (bV d.1 5)) (cond (((fP g g)&&true)&&((fP e.1 e.1)&&true)) (cond (dY (bT f.1 [(e.1,((bV d.1 5),()))]) 24) (cond (fP g g) (cond (bV d.1 d.1) (cond (jA (bV d.1 5) (bV d.1 5)) (cond ((fP e.1 e.1)&&((jA (bV d.1 5) (bV d.1 5))&&true)) (a6 ((0,((bT f.1 [(e.1,((bV d.1 5),()))]),(false,()))),())) a7) a7) a7) a7) a7) a7) a7) a7) a7)<|some ((0,(f.1,(false,()))),()))<|some ((0,(f.1,(false,()))),())
def aGm:Sum:=⟨[.str,dC,.pair dC tyM],[(.pair dC tyM,false)],fun x=>ajg x.1 x.2.1 x.2.2.1⟩
theorem ape:dR prog 101 aGm:=qA f101 [] (sE wX (sE NM (sE apv aN)))
def ag1 (d:Int×Dx×qG):Option taT:=cond ((bV d.1 d.1)&&((lZ Dy d.2.1 d.2.1)&&((jA d.2.2.1 d.2.2.1)&&true))) (a6 ((0,(0,(0,(false,())))),((d.1,(d.2.1,(d.2.2.1,()))),()))) a7
def ag2 (e:bZ) (i:Int) (f:Int×Dx×qG):Option taT:=bJ (ajf e i) fun d=>cond (fH (bM e) d.1.2.1 d.1.2.2.1) (bJ (ajg (sub e d.1.2.1 d.1.2.2.1) d.1.1 (f.1,(f.2.1,(f.2.2.1,())))) fun g=>cond ((bV d.1.1 d.1.1)&&((bV d.1.2.1 d.1.2.1)&&((bV d.1.2.2.1 d.1.2.2.1)&&((jA d.1.2.2.2.1 d.1.2.2.2.1)&&true)))) (cond (fP e e) (cond (bV d.1.2.1 d.1.2.1) (cond (bV d.1.2.2.1 d.1.2.2.1) (cond (fP e e) (cond (bV d.1.2.1 d.1.2.1) (cond (bV d.1.2.2.1 d.1.2.2.1) (cond (fH (bM e) d.1.2.1 d.1.2.2.1) (cond (fP (sub e d.1.2.1 d.1.2.2.1) (sub e d.1.2.1 d.1.2.2.1)) (cond (bV d.1.1 d.1.1) (cond ((bV f.1 f.1)&&((lZ Dy f.2.1 f.2.1)&&((jA f.2.2.1 f.2.2.1)&&true))) (a6 ((d.1.1,(d.1.2.1,(d.1.2.2.1,(d.1.2.2.2.1,())))),((g.1.1,(g.1.2.1,(g.1.2.2.1,()))),()))) a7) a7) a7) a7) a7) a7) a7) a7) a7) a7) a7) a7
def azc (g:bZ) (f:Int) (d:Int×Dx×qG):Option taT:=cond (gY f 0) (ag1 d)<|cond (leI (bM g) f) (ag1 d)<|cond d.2.2.1 (cond (gY 0 (bM d.2.1)) (bJ (aEd g f (d.1,(d.2.1,(d.2.2.1,())))) fun e=>a6 ((e.1.1,(e.1.2.1,(e.1.2.2.1,(e.1.2.2.2.1,())))),((e.2.1.1,(e.2.1.2.1,(e.2.1.2.2.1,()))),())))<|ag2 g f d)<|ag2 g f d
def aC3:Sum:=⟨[.str,dC,.pair dC tyM],tzI,fun x=>azc x.1 x.2.1 x.2.2.1⟩
theorem axT:dR prog 68 aC3:=qA f68 [] (sE ax1 (sE apd (sE ape aN)))
noncomputable def b20:Code:=(Tryz.f20.body).getD .skip
noncomputable def agd:Code:=(f67.body).getD .skip
noncomputable def ac5:Code:=cA (cA (cB (cB (cB (agd)))))
def aed:eQ:=⟨[0,1,3,4,5,241000003],[(100000501,.pair (.list .unit) (.pair .unit Dy)),(300000301,.pair (.list .unit) (.pair .unit Dy))],[],[],[],[]⟩
def aEr:eQ:=⟨[2,3,4,5],[],[],[],[],[]⟩
def aEm:eQ:=⟨[0,2,3,4,5],[],[],[],[],[]⟩
def aoy:eQ:=⟨[0,1,3,4],[],[],[],[],[]⟩
def KC:SQ:=⟨us [.yld 1700010,d7,.u,.ptr 3000003 0,.ptr 3000004 0,bR] 18,[cD,[.yld 1700010],[]],[.box 3000004 32 [bR,bR,bR,b9],.box 3000003 50 ct,.box 2000001 9 [bO],.lp 1700010 20 (cD) [10,11] 6 0 a7,.arr 1500004 VY,dk,dv,cT]⟩
def Nh:SQ:=⟨us [] 24,[cD,[.yld 1700010],[]],[.box 2000001 9 [bO],.lp 1700010 20 (cD) [10,11] 6 0 a7,.arr 1500004 VY,dk,dv,cT]⟩
def Np:SQ:=⟨us [] 24,[cD,[.yld 1700010],[]],[]⟩
def Gs {e:Type} (o:Int->Int->Int->Int->Bool->Int->Dx->Bool->bZ->(List Du)->Int->Dx->Bool->Int->Bool->Option e) (p:bZ->(List Du)->Int->Dx->Bool->Int->Bool->Option e) (z:Option e) (i A B D:Int) (E:Bool) (q:Int) (s:Dx) (u:Bool) (f:bZ) (g:List Du) (v:Int) (x:Dx) (y:Bool) (j:Int) (l:Bool):Option e:=cond (gY i (bM f)) (bJ (azc f i (q,(s,(u,())))) fun d=>cond ((bV d.2.1.1 d.2.1.1)&&((lZ Dy d.2.1.2.1 d.2.1.2.1)&&((jA d.2.1.2.2.1 d.2.1.2.2.1)&&true))) (cond (dY (bT g [(d.1.1,(d.1.2.1,(d.1.2.2.1,(d.1.2.2.2.1,()))))]) 32) (cond ((bV d.1.1 d.1.1)&&((bV d.1.2.1 d.1.2.1)&&((bV d.1.2.2.1 d.1.2.2.1)&&((jA d.1.2.2.2.1 d.1.2.2.2.1)&&true)))) (cond ((bV d.2.1.1 d.2.1.1)&&((lZ Dy d.2.1.2.1 d.2.1.2.1)&&((jA d.2.1.2.2.1 d.2.1.2.2.1)&&true))) (cond ((bV d.2.1.1 d.2.1.1)&&((lZ Dy d.2.1.2.1 d.2.1.2.1)&&((jA d.2.1.2.2.1 d.2.1.2.2.1)&&true))) (o d.1.2.2.1 d.1.1 d.1.2.1 d.1.2.2.1 d.1.2.2.2.1 d.2.1.1 d.2.1.2.1 d.2.1.2.2.1 f (bT g [(d.1.1,(d.1.2.1,(d.1.2.2.1,(d.1.2.2.2.1,()))))]) d.2.1.1 d.2.1.2.1 d.2.1.2.2.1 j l) a7) a7) a7) a7) a7)<|p f g v x y j l
def vI:Nat->Int->Int->Int->Int->Bool->Int->Dx->Bool->bZ->(List Du)->Int->Dx->Bool->Int->Bool->Option (Nh.den⊕Np.den)
 |0,_,_,_,_,_,_,_,_,_,_,_,_,_,_,_=>a7
 |n+1,d,e,f,g,i,j,l,o,p,q,s,u,v,x,y=>Gs (vI n) (fun z A B D E G I=>a6 (.inl ((),((),(),(),()),((z,()),(),A,(B,D,E,()),(),(G,I,()),())))) (a6 (.inr ((),((),(),(),()),()))) d e f g i j l o p q s u v x y
def aoM (n:Nat) (v:KC.den):=be (vI n) v
noncomputable def WZ:dE:=fG aed KC Nh Np (.exit 0) (aoM bQ) 6
def aoe (e:bZ):Option ((List Du)×(Int×Dx×qG)×Unit):=bJ (vI bQ 0 0 0 0 false 0 [] false e [] 0 [] false 0 false) fun f=>dW f (fun d=>a6 (d.2.2.2.2.1,((d.2.2.2.2.2.1.1,(d.2.2.2.2.2.1.2.1,(d.2.2.2.2.2.1.2.2.1,()))),()))) (fun g=>a7)
def axe:Sum:=⟨[.str],[(.list VY,false),(.pair dC tyM,false)],fun x=>aoe x.1⟩
noncomputable def aja:Env:=gz prog tt [(68,aC3)] [(67,3,aed),(20,500006,aEr),(20,600003,aEm),(67,600006,aoy)] [(67,3,WZ)] [20]
def XB {d:Type} (a:KC.den->Option d) (b:Nh.den->Option d) (c:Np.den->Option d) (v:KC.den):Option d:=be (Gs (fun e f g i j l o p q s u x y z A=>a ((e,()),((),(),(),()),((f,g,i,j,()),(l,o,p,()),(q,()),(),s,(u,x,y,()),(),(z,A,()),()))) (fun B D E G I J K=>b ((),((),(),(),()),((B,()),(),D,(E,G,I,()),(),(J,K,()),()))) (c ((),((),(),(),()),()))) v
theorem aoU:dV aja 67 ac5 WZ:=lg (XB) (h2:=by intros;simp only[XB,be,Gs,dh,di,bI,cZ,dm])
theorem aJF:jC b20=[]:=by kernel_rfl
theorem aKl:jU b20=[(cA (cA (cB (cA (cB (cB (cB (b20))))))),cB (cA (cB (cA (cB (cB (cB (b20))))))))]:=by kernel_rfl
theorem aJP:dO aja 20 b20:=tK b20 (by rw[aKl];exact(aD (fun _=>(show qK 20 6=a6 (cA (cA (cB (cA (cB (cB (cB (b20))))))),cB (cA (cB (cA (cB (cB (cB (b20)))))))) by kernel_rfl)) aN)) (by rw[aJF];exact aN)
theorem auE:dO aja 67 agd:=nM [ac5] (aD (fM (aoU)) aN)
theorem arU:eF aja:=eB (aD axT aN) [20,67] (aD ⟨Tryz.f20,b20,by kernel_rfl,by kernel_rfl,aJP⟩ (aD ⟨f67,agd,by kernel_rfl,by kernel_rfl,auE⟩ aN))
theorem afD:dR prog 20 axe:=sA arU
def ay5 (e:bZ) (d:Du):Option taU:=cond (gY d.2.1 0) (a6 ([],()))<|cond (gY d.2.2.1 d.2.1) (a6 ([],()))<|cond (gY (bM e) d.2.2.1) (a6 ([],()))<|cond (fH (bM e) d.2.1 d.2.2.1) (a6 ((sub e d.2.1 d.2.2.1),())) a7
def aCV:Sum:=⟨[.str,VY],tzF,fun x=>ay5 x.1 x.2.1⟩
theorem axG:dR prog 39 aCV:=qA f39 [] aN
noncomputable def b21:Code:=(Tryz.f21.body).getD .skip
noncomputable def aBP:Code:=cA (cA (cB (cA (cB (b21)))))
def aCi:eQ:=⟨[0,4,7,8,9,100002],[(4,Vk)],[4],[],[4],[(4,Vk)]⟩
def ak6:SP:=⟨us [bO,.u,.u,.u,d5,.u,.u,eM,bR,bR] 42,[.arr 1800004 Vk]⟩
def ahJ:SP:=⟨us [.u,.u,.u,.u,d5] 47,[.arr 1800004 Vk]⟩
def ah4:SP:=⟨us [.u,.u,.u,.u,.v oI] 47,[]⟩
def ed (d:List Du) (e:Int):=dJ d (0,(0,(0,(false,())))) e
def ui (d:List Du) (e:Int):=bV (ed d e).2.2.1 (ed d e).2.2.1
def Az {i:Type} (f:bZ) (d:List Du) (e:Int) (j:List gm) (l:bZ->(List Du)->Int->Int->(List gm)->Option i) (o:Int):Option i:=bJ (ay5 f ((ed d e).1,((ed d e).2.1,((ed d e).2.2.1,((ed d e).2.2.2.1,()))))) fun g=>cond (bV (ed d e).1 (ed d e).1) (cond (fP f f) (cond ((bV (ed d e).1 (ed d e).1)&&((bV (ed d e).2.1 (ed d e).2.1)&&((ui d e)&&((jA (ed d e).2.2.2.1 (ed d e).2.2.2.1)&&true)))) (cond (bV (ed d e).2.1 (ed d e).2.1) (cond (ui d e) (cond (((fP f f)&&(((bV (ed d e).1 (ed d e).1)&&((bV (ed d e).2.1 (ed d e).2.1)&&((ui d e)&&((jA (ed d e).2.2.2.1 (ed d e).2.2.2.1)&&true))))&&true))&&((fP g.1 g.1)&&true)) (cond (dY (bT j [((ed d e).1,(g.1,((ed d e).2.1,((ed d e).2.2.1,()))))]) 40) (cond (bV (ed d e).1 (ed d e).1) (cond (fP f f) (cond ((bV (ed d e).1 (ed d e).1)&&((bV (ed d e).2.1 (ed d e).2.1)&&((ui d e)&&((jA (ed d e).2.2.2.1 (ed d e).2.2.2.1)&&true)))) (cond (bV (ed d e).2.1 (ed d e).2.1) (cond (ui d e) (cond ((bV (ed d e).1 (ed d e).1)&&((fP g.1 g.1)&&((bV (ed d e).2.1 (ed d e).2.1)&&((ui d e)&&true)))) (l f d o (dw .i64 e 1) (bT j [((ed d e).1,(g.1,((ed d e).2.1,((ed d e).2.2.1,()))))])) a7) a7) a7) a7) a7) a7) a7) a7) a7) a7) a7) a7) a7
def acg {l:Type} (j:bZ->(List Du)->Int->Int->(List gm)->Option l) (o p:(List gm)->Option l) (f:bZ) (e:List Du) (g d:Int) (i:List gm):Option l:=cond (gY d g) (cond (fV e d) (cond (gY (ed e d).2.1 0) (j f e g (dw .i64 d 1) i)<|cond (gY (ed e d).2.2.1 (ed e d).2.1) (j f e g (dw .i64 d 1) i)<|cond (gY (bM f) (ed e d).2.2.1) (j f e g (dw .i64 d 1) i)<|cond (bV (ed e d).1 4) (cond (bV (ed e d).1 4) (Az f e d i j g)<|j f e g (dw .i64 d 1) i)<|cond (bV (ed e d).1 5) (cond (bV (ed e d).1 5) (Az f e d i j g)<|j f e g (dw .i64 d 1) i)<|cond (bV (ed e d).1 6) (cond (bV (ed e d).1 6) (Az f e d i j g)<|j f e g (dw .i64 d 1) i)<|cond (bV (ed e d).1 2) (Az f e d i j g)<|j f e g (dw .i64 d 1) i) a7)<|o i
def D8:Nat->bZ->(List Du)->Int->Int->(List gm)->Option (ahJ.den⊕ah4.den)
 |0,_,_,_,_,_=>a7
 |n+1,d,e,f,g,i=>acg (D8 n) (fun j=>a6 (.inl ((),(j,())))) (fun l=>a6 (.inr ((l,()),()))) d e f g i
def aFg (n:Nat) (v:ak6.den):=bh (D8 n) v
noncomputable def auU:dE:=fU aCi ak6 ahJ ah4 (.exit 0) (aFg bQ) 6
def aof (e:bZ) (d:List Du):Option ((List gm)×Unit):=bJ (D8 bQ e d (bM d) 0 []) fun f=>dW f (fun g=>a6 (g.2.1,())) (fun i=>a6 (i.1.1,()))
def axl:Sum:=⟨[.str,.list VY],[(.list Vk,false)],fun x=>aof x.1 x.2.1⟩
noncomputable def arV:Env:=iO prog tt 21 [(39,aCV)] [(2,aCi)] [(2,auU)]
def avY {d:Type} (a:ak6.den->Option d) (b:ahJ.den->Option d) (c:ah4.den->Option d) (v:ak6.den):Option d:=bh (acg (fun e f g i j=>a ((e,f,g,i,()),(j,()))) (fun l=>b ((),(l,()))) (aE c)) v
theorem aFK:dV arV 21 aBP auU:=xh (avY) (h2:=by intros;simp only[avY,aE,bh,acg,dh,di,bI,cZ,dm,ed,ui,Az])
theorem aJQ:dO arV 21 b21:=nM [aBP] (aD (fM (aFK)) aN)
theorem arW:eF arV:=eA Tryz.f21 (aD axG aN) (aJQ)
theorem afE:dR prog 21 axl:=sA arW
end
end Go.Proofs.YtlhpdcadgbjhiaaGreatDoor
