/- Parts of the proof, joined and shortened by a program: the plain machine, the functions as it prints them, and the mathematics over them. -/
import Derived.Test.YtkichehglnecnaaGreatDoorY3
import Derived.Test.YtkichehglnecnaaGreatDoorY4
set_option linter.unusedVariables false
set_option linter.unusedSimpArgs false
set_option maxRecDepth 100000
set_option maxHeartbeats 4000000
namespace Go.Proofs.YtkichehglnecnaaGreatDoor
section
open Option renaming some → a6, none → a7
open Tryz
open Go.RowKit
def aqY (h:bW) (g:Int) (d:Int×GV×uO):Option taV:=cond (gm d.2.1 0) (bF (ah9 h g (eX d.2.1 ([],(false,())) 0)) fun f=>cond (!f.2.1) (cond ((bT d.1 d.1)&&((oH EU d.2.1 d.2.1)&&((jr d.2.2.1 d.2.2.1)&&true))) (a6 ((7,(g,(f.1,((!f.2.1),())))),((d.1,(d.2.1,(d.2.2.1,()))),()))) a7)<|cond (eU (bG d.2.1) 1 (bG d.2.1)) (bF (rJ (sub d.2.1 1 (bG d.2.1))) fun e=>cond (bT d.1 d.1) (cond (bT (bG e.1) (bG e.1)) (cond (jr (iq 0 (bG e.1)) (iq 0 (bG e.1))) (cond ((bT d.1 d.1)&&((jr (iq 0 (bG e.1)) (iq 0 (bG e.1)))&&true)) (a6 ((7,(g,(f.1,((!f.2.1),())))),((d.1,(e.1,((iq 0 (bG e.1)),()))),()))) a7) a7) a7) a7) a7) a7
def aEi:Sum:=⟨[.str,di,.pair di tyM],tzH,fun x=>aqY x.1 x.2.1 x.2.2.1⟩
theorem anM:dK prog 149 aEi:=qA f149 [] (sE anY (sE xR aN))
def acy (d:iZ):Option uO:=cond (bT d.1 12) (a6 ((bT d.2.2.1 (bZ .i64 d.2.1 1)),()))<|some (false,())
def auE:Sum:=⟨[Jb],O7,fun x=>acy x.1⟩
theorem anI:dK prog 141 auE:=qA f141 [] aN
def Yl (d:iZ):Option oz:=cond d.2.2.2.2.1 (a6 ((bZ .i64 d.2.1 2),((su (eF .i64 d.2.2.1 0) (bZ .i64 d.2.1 2)),())))<|some ((bZ .i64 d.2.1 2),((su (eF .i64 d.2.2.1 1) (bZ .i64 d.2.1 2)),()))
def ah7 (d:iZ):Option oz:=cond d.2.2.2.2.1 (a6 ((bZ .i64 d.2.1 1),((su (eF .i64 d.2.2.1 0) (bZ .i64 d.2.1 1)),())))<|some ((bZ .i64 d.2.1 1),((su (eF .i64 d.2.2.1 0) (bZ .i64 d.2.1 1)),()))
def ah8 (d:iZ):Option oz:=cond d.2.2.2.2.1 (a6 ((bZ .i64 d.2.1 1),((su (eF .i64 d.2.2.1 0) (bZ .i64 d.2.1 1)),())))<|some ((bZ .i64 d.2.1 1),((su (eF .i64 d.2.2.1 1) (bZ .i64 d.2.1 1)),()))
def Ym (d:iZ):Option oz:=cond (bT d.1 9) (cond d.2.2.2.2.1 (a6 ((bZ .i64 d.2.1 3),((su (eF .i64 d.2.2.1 0) (bZ .i64 d.2.1 3)),())))<|some ((bZ .i64 d.2.1 3),((su (eF .i64 d.2.2.1 2) (bZ .i64 d.2.1 3)),())))<|cond (bT d.1 13) (cond (bT d.1 13) (ah7 d)<|ah8 d)<|cond (bT d.1 12) (ah7 d)<|ah8 d
def ah6 (d:iZ):Option oz:=cond (bT d.1 1) (cond (bT d.1 1) (Yl d)<|Ym d)<|cond (bT d.1 7) (cond (bT d.1 7) (Yl d)<|Ym d)<|cond (bT d.1 8) (Yl d)<|Ym d
def auP:Sum:=⟨[Jb],tzL,fun x=>ah6 x.1⟩
theorem anX:dK prog 183 auP:=qA f183 [] aN
noncomputable def XH:Code:=(f201.body).getD .skip
noncomputable def XI:Code:=(f91.body).getD .skip
noncomputable def QU:Code:=(Tryz.f138.body).getD .skip
noncomputable def QV:Code:=(Tryz.f143.body).getD .skip
noncomputable def VI:Code:=cA (cA (cB (cA (cB (cB (XI))))))
noncomputable def Q7:Code:=cA (cA (cB (cA (cB (cB (cB (cA (cB (QU)))))))))
noncomputable def Q8:Code:=cA (cA (cB (cA (cB (cB (cB (cB (QV))))))))
def Wl:eG:=⟨[3,15,16,17,92000003],[],[3],[],[2],[]⟩
def Su:eG:=⟨[1,2,3,4,5,139000004],[(300000300,.pair (.list .unit) (.int .u8))],[4],[],[],[]⟩
def Sv:eG:=⟨[0,2,8,9,10,11,39000005],[(9,(.int .u8))],[2,9,10],[],[6],[]⟩
def awS:eG:=⟨[2,3],[],[],[],[],[]⟩
def awK:eG:=⟨[0,2,3],[],[],[],[],[]⟩
def awL:eG:=⟨[3,4],[],[],[],[],[]⟩
def ac5:eG:=⟨[1,2,3,4,5],[],[],[],[],[]⟩
def BR:eG:=⟨[1,2,3,4,5,6],[],[],[],[],[]⟩
def YJ:eG:=⟨[1,2,3,4,5,8,9],[],[],[],[],[]⟩
def ac6:eG:=⟨[1,3],[],[],[],[],[]⟩
def ac7:eG:=⟨[0,2,8,9,10,11],[],[],[],[],[]⟩
def YK:eG:=⟨[0,2,8,9,10,12],[],[],[],[],[]⟩
def ac8:eG:=⟨[0,2,8,9,12],[],[],[],[],[]⟩
def ac9:eG:=⟨[0,2,8,12],[],[],[],[],[]⟩
def YL:eG:=⟨[2,9],[],[],[],[],[]⟩
def F9:SQ:=⟨us [.u,.u,.u,cX,.u,.u,.u,.u,.u,.u,.u,.u,.u,.u,.u,.v Vy,bR,bR] 14,[us [bS,.u,bS,cR,.u,bS] 7,[]],[cy,cV,cw,cN]⟩
def II:SQ:=⟨us [.u,.u,.u,cX] 28,[us [bS,.u,bS,cR,.u,bS] 7,[]],[cy,cV,cw,cN]⟩
def IL:SQ:=⟨us [] 112,[ck,cL,[]],ce⟩
def Df {e:Type} (q:(List iZ)->Int->Int->bW->bW->bW->bW->(List iZ)->(List uP)->jo->Option e) (s:bW->bW->bW->bW->(List iZ)->(List uP)->jo->Option e) (u:bW->bW->(List iZ)->(List uP)->bW->jo->Option e) (f:List iZ) (g d:Int) (h i j l:bW) (m:List iZ) (o:List uP) (p:jo):Option e:=cond (iq d g) (cond (gm f d) (q f g (bZ .i64 d 1) h i j l m (vz o (eX f (0,(0,(0,(0,(false,()))))) d).2.1 (bZ .i64 d 1)) p) a7)<|s h i j l m o p
def rY:Nat->(List iZ)->Int->Int->bW->bW->bW->bW->(List iZ)->(List uP)->jo->Option (II.den⊕IL.den)
 |0,_,_,_,_,_,_,_,_,_,_=>a7
 |n+1,d,e,f,g,h,i,j,l,m,o=>Df (rY n) (fun p q s u v x y=>a6 (.inl ((),((p,q,s,()),(),()),((u,v,()),x,(),y,())))) (fun z A B D E G=>a6 (.inr ((),((z,()),(),(),()),((A,B,()),D,(),(E,()),G,(),())))) d e f g h i j l m o
def af6 (n:Nat) (v:F9.den):=rY n v.1.1 v.1.2.1 v.1.2.2.1 v.2.1.1.1 v.2.1.1.2.1 v.2.1.1.2.2.1 v.2.2.1.1 v.2.2.1.2.1 v.2.2.2.1 v.2.2.2.2.2.1
noncomputable def S9:dA:=fK Wl F9 II IL (.exit 0) (af6 bJ) 6
def CG:SQ:=⟨us [cX,.u,.yld 1700008,.u,.u,.u,.u,.u,bR,.slc 4800009,cg,bR] 83,[bX,ck,cL,[]],cf⟩
def yP:SQ:=⟨us [.u,.u,.yld 1700008,.u,.u,.u,.u,.u,.u,.slc 4800009,cg] 84,[bX,ck,cL,[]],cf⟩
def yR:SQ:=⟨us [] 112,[ck,cL,[]],ce⟩
def eu (d:List iZ) (e:List uP) (f:Int):=eX d (0,(0,(0,(0,(false,()))))) (eF .i64 (qH e f) 1)
def iK (d:bW) (e:List iZ) (f:List uP) (g:Int):=bY d (bZ .i64 (eu e f g).2.1 1)
def jV (g:bW) (d:List iZ) (e:List uP) (f:Int):=dn (sub g (eu d e f).2.1 (eu d e f).2.2.1)
def nz {h:Type} (i:jo) (f:bW) (d:List iZ) (e:List uP) (g:Int) (j:Int->Bool->Int->Int->Bool->Bool->iZ->bW->jo->Int->Int->Int->Int->Bool->jo->bW->(List iZ)->(List uP)->bW->jo->Option h) (l:Int) (m:Bool) (o:Int) (p q:Bool) (s:iZ) (u:bW) (v x y z:Int) (A:Bool) (B:jo) (D:bW) (E:jo):Option h:=cond (dV (bM i (dn (ofBytes [(iK f d e g)]))) 1) (j l m (eu d e g).2.2.1 o p q s u (bM i (dn (ofBytes [(iK f d e g)]))) v x y z A B f d e D E) a7
def nC {i:Type} (g:bW) (d:List iZ) (e:List uP) (f:Int) (h:jo) (j:Int->Bool->Int->Int->Bool->Bool->iZ->bW->jo->Int->Int->Int->Int->Bool->jo->bW->(List iZ)->(List uP)->bW->jo->Option i) (l:Int) (m:Bool) (o:Int) (p q:Bool) (s:iZ) (u:bW) (v x y z:Int) (A:Bool) (B:jo) (D:bW) (E:jo):Option i:=cond (bT (iK g d e f) 10) (cond (dV (bM h (dn [])) 1) (j l m (eu d e f).2.2.1 o p q s u (bM h (dn [])) v x y z A B g d e D E) a7)<|cond (eU (bG g) (eu d e f).2.1 (eu d e f).2.2.1) (cond (dV (bM h (jV g d e f)) 1) (j l m (eu d e f).2.2.1 o p q s u (bM h (jV g d e f)) v x y z A B g d e D E) a7) a7
def zf {E:Type} (B:Int->Bool->Int->Int->Bool->Bool->iZ->bW->jo->Int->Int->Int->Int->Bool->jo->bW->(List iZ)->(List uP)->bW->jo->Option E) (G:Bool->Int->Bool->Bool->iZ->bW->jo->Int->Int->Int->Int->Bool->jo->bW->(List iZ)->(List uP)->bW->jo->Option E) (J:bW->bW->(List iZ)->(List uP)->bW->jo->Option E) (j:Int) (D:Bool) (d l:Int) (m o:Bool) (p:iZ) (q:bW) (h:jo) (s u v x:Int) (y:Bool) (z:jo) (g:bW) (f:List iZ) (e:List uP) (A:bW) (i:jo):Option E:=cond (iq d j) (cond (bT (qH e d) 0) (cond (gm g d) (cond (dV (bM h [(bY g d)]) 1) (B j D (bZ .i64 d 1) l m o p q (bM h [(bY g d)]) s u v x y z g f e A i) a7) a7)<|cond (gm f (eF .i64 (qH e d) 1)) (bF (acy ((eu f e d).1,((eu f e d).2.1,((eu f e d).2.2.1,((eu f e d).2.2.2.1,((eu f e d).2.2.2.2.1,())))))) fun I=>cond I.1 (cond (gm g d) (cond (dV (bM h [(bY g d)]) 1) (B j D (bZ .i64 d 1) l m o p q (bM h [(bY g d)]) s u v x y z g f e A i) a7) a7)<|cond (bT (eu f e d).1 13) (cond (iq (eF .i64 (eu f e d).2.2.1 (eu f e d).2.1) 2) (cond (dV (bM h (dn [])) 1) (B j D (eu f e d).2.2.1 l m o p q (bM h (dn [])) s u v x y z g f e A i) a7)<|cond (gm g (bZ .i64 (eu f e d).2.1 1)) (cond (bT (iK g f e d) 36) (cond (bT (iK g f e d) 36) (nz h g f e d B j D l m o p q s u v x y z A i)<|nC g f e d h B j D l m o p q s u v x y z A i)<|cond (bT (iK g f e d) 96) (cond (bT (iK g f e d) 96) (nz h g f e d B j D l m o p q s u v x y z A i)<|nC g f e d h B j D l m o p q s u v x y z A i)<|cond (bT (iK g f e d) 34) (cond (bT (iK g f e d) 34) (nz h g f e d B j D l m o p q s u v x y z A i)<|nC g f e d h B j D l m o p q s u v x y z A i)<|cond (bT (iK g f e d) 92) (nz h g f e d B j D l m o p q s u v x y z A i)<|nC g f e d h B j D l m o p q s u v x y z A i) a7)<|cond (iq 0 (bG h)) (cond (dV (bM i (dn (ofBytes h))) 1) (cond (eU (bG g) (eu f e d).2.1 (eu f e d).2.2.1) (cond (dV (bM (bM i (dn (ofBytes h))) (jV g f e d)) 1) (B j true (eu f e d).2.2.1 l m o p q [] s u v x y z g f e A (bM (bM i (dn (ofBytes h))) (jV g f e d))) a7) a7) a7)<|cond (eU (bG g) (eu f e d).2.1 (eu f e d).2.2.1) (cond (dV (bM i (jV g f e d)) 1) (B j true (eu f e d).2.2.1 l m o p q [] s u v x y z g f e A (bM i (jV g f e d))) a7) a7) a7)<|G D l m o p q h s u v x y z g f e A i
def kV:Nat->Int->Bool->Int->Int->Bool->Bool->iZ->bW->jo->Int->Int->Int->Int->Bool->jo->bW->(List iZ)->(List uP)->bW->jo->Option (yP.den⊕yR.den)
 |0,_,_,_,_,_,_,_,_,_,_,_,_,_,_,_,_,_,_,_,_=>a7
 |n+1,d,e,f,g,h,i,j,l,m,o,p,q,s,u,v,x,y,z,A,B=>zf (kV n) (fun D E G I J K L M N O S U V W X Y Z ab=>a6 (.inl ((D,()),((E,G,I,J,()),(K,()),(),(),()),(L,(M,N,O,S,U,()),V,(),(),(W,X,()),Y,(),(Z,()),ab,(),())))) (fun r0 r1 r2 r3 r4 r5=>a6 (.inr ((),((r0,()),(),(),()),((r1,r2,()),r3,(),(r4,()),r5,(),())))) d e f g h i j l m o p q s u v x y z A B
def adp (n:Nat) (v:CG.den):=bw (kV n) v
noncomputable def Oo:dA:=fK Sv CG yP yR (.exit 0) (adp bJ) 12
def CE:SQ:=⟨us [.u,ey,.ptr 3000002 0,.ptr 3000003 0,cK,bR] 106,[ck,cL,[]],ci⟩
def Ey:SQ:=⟨us [.u,.u,.u,.u,cK] 107,[ck,cL,[]],ci⟩
def EG:SQ:=⟨us [] 112,[ck,cL,[]],ce⟩
def dm (d:List iZ) (e:List uP) (f:Int):=eX d (0,(0,(0,(0,(false,()))))) (eF .i64 (qH e f) 1)
def pK (d:List iZ) (e:List uP) (f:Int):=ah6 ((dm d e f).1,((dm d e f).2.1,((dm d e f).2.2.1,((dm d e f).2.2.2.1,((dm d e f).2.2.2.2.1,())))))
def jT (g:bW) (d:List iZ) (e:List uP) (f:Int):=sub g (bZ .i64 (dm d e f).2.1 1) (dm d e f).2.2.1
def jU (g:bW) (d:List iZ) (e:List uP) (f:Int):=dn (sub g (dm d e f).2.1 (dm d e f).2.2.1)
def iE (d e:jo):=bM d (dn (ofBytes e))
def tK {h:Type} (g:bW) (d:List iZ) (e:List uP) (f:Int) (i:jo) (j:Int->bW->jo->bW->(List iZ)->(List uP)->bW->jo->Option h) (l m:bW) (o:jo):Option h:=cond (eU (bG g) (dm d e f).2.1 (dm d e f).2.2.1) (cond (dV (bM i (jU g d e f)) 1) (j (dm d e f).2.2.1 l (bM i (jU g d e f)) g d e m o) a7) a7
def tN {p:Type} (d:List iZ) (e:List uP) (g:Int) (f:bW) (i h:jo) (l:Int->bW->jo->bW->(List iZ)->(List uP)->bW->jo->Option p) (m o:bW):Option p:=cond (bT (dm d e g).1 4) (bF (pK d e g) fun j=>cond (eU (bG f) j.1 j.2.1) (cond (gI (ofBytes i) []) (cond (dV (bM h (dn (sub f j.1 j.2.1))) 1) (l (dm d e g).2.2.1 m [] f d e o (bM h (dn (sub f j.1 j.2.1)))) a7)<|cond (dV (iE h i) 1) (cond (dV (bM (iE h i) (dn (sub f j.1 j.2.1))) 1) (l (dm d e g).2.2.1 m [] f d e o (bM (iE h i) (dn (sub f j.1 j.2.1)))) a7) a7) a7)<|cond (eU (bG f) (bZ .i64 (dm d e g).2.1 1) (dm d e g).2.2.1) (cond (!(gI (jT f d e g) [])) (cond (!(gI (jT f d e g) [10])) (cond (gI (ofBytes i) []) (cond (dV (bM h (dn (jT f d e g))) 1) (l (dm d e g).2.2.1 m [] f d e o (bM h (dn (jT f d e g)))) a7)<|cond (dV (iE h i) 1) (cond (dV (bM (iE h i) (dn (jT f d e g))) 1) (l (dm d e g).2.2.1 m [] f d e o (bM (iE h i) (dn (jT f d e g)))) a7) a7)<|l (dm d e g).2.2.1 m i f d e o h)<|l (dm d e g).2.2.1 m i f d e o h) a7
def tV {e:Type} (h:yP.den⊕yR.den) (f:Int->bW->jo->bW->(List iZ)->(List uP)->bW->jo->Option e) (g:bW->bW->(List iZ)->(List uP)->bW->jo->Option e):Option e:=dL h (fun d=>cond (bT (bG d.2.2.1) 0) (cond d.1.1 (cond d.2.1.1.2.2.1 (f d.2.1.1.1 d.2.1.2.1.1 [] d.2.2.2.2.2.2.2.1.1 d.2.2.2.2.2.2.2.1.2.1 d.2.2.2.2.2.2.2.2.1 d.2.2.2.2.2.2.2.2.2.2.1.1 d.2.2.2.2.2.2.2.2.2.2.2.1)<|g d.2.1.2.1.1 d.2.2.2.2.2.2.2.1.1 d.2.2.2.2.2.2.2.1.2.1 d.2.2.2.2.2.2.2.2.1 d.2.2.2.2.2.2.2.2.2.2.1.1 d.2.2.2.2.2.2.2.2.2.2.2.1)<|cond (dV (bM d.2.2.2.2.2.2.2.2.2.2.2.1 (dn (ofBytes d.2.2.1))) 1) (cond d.2.1.1.2.2.1 (f d.2.1.1.1 d.2.1.2.1.1 [] d.2.2.2.2.2.2.2.1.1 d.2.2.2.2.2.2.2.1.2.1 d.2.2.2.2.2.2.2.2.1 d.2.2.2.2.2.2.2.2.2.2.1.1 (bM d.2.2.2.2.2.2.2.2.2.2.2.1 (dn (ofBytes d.2.2.1))))<|g d.2.1.2.1.1 d.2.2.2.2.2.2.2.1.1 d.2.2.2.2.2.2.2.1.2.1 d.2.2.2.2.2.2.2.2.1 d.2.2.2.2.2.2.2.2.2.2.1.1 (bM d.2.2.2.2.2.2.2.2.2.2.2.1 (dn (ofBytes d.2.2.1)))) a7)<|cond (dV (bM d.2.2.2.2.2.2.2.2.2.2.2.1 (dn (ofBytes d.2.2.1))) 1) (cond d.2.1.1.2.2.1 (f d.2.1.1.1 d.2.1.2.1.1 [] d.2.2.2.2.2.2.2.1.1 d.2.2.2.2.2.2.2.1.2.1 d.2.2.2.2.2.2.2.2.1 d.2.2.2.2.2.2.2.2.2.2.1.1 (bM d.2.2.2.2.2.2.2.2.2.2.2.1 (dn (ofBytes d.2.2.1))))<|g d.2.1.2.1.1 d.2.2.2.2.2.2.2.1.1 d.2.2.2.2.2.2.2.1.2.1 d.2.2.2.2.2.2.2.2.1 d.2.2.2.2.2.2.2.2.2.2.1.1 (bM d.2.2.2.2.2.2.2.2.2.2.2.1 (dn (ofBytes d.2.2.1)))) a7) (fun i=>a7)
def tX {p:Type} (d:List iZ) (e:List uP) (f:Int) (h:jo) (l g m:bW) (i:jo) (o:Int->bW->jo->bW->(List iZ)->(List uP)->bW->jo->Option p) (s:bW->bW->(List iZ)->(List uP)->bW->jo->Option p):Option p:=cond (bT (dm d e f).1 5) (cond (gI (ofBytes h) []) (bF (pK d e f) fun j=>bF (kV bJ j.2.1 false j.1 (dm d e f).2.2.1 true true ((dm d e f).1,((dm d e f).2.1,((dm d e f).2.2.1,((dm d e f).2.2.2.1,((dm d e f).2.2.2.2.1,()))))) l [] (dm d e f).1 (dm d e f).2.1 (dm d e f).2.2.1 (dm d e f).2.2.2.1 (dm d e f).2.2.2.2.1 h g d e m i) fun q=>tV q o s)<|cond (dV (iE i h) 1) (bF (pK d e f) fun j=>bF (kV bJ j.2.1 false j.1 (dm d e f).2.2.1 true true ((dm d e f).1,((dm d e f).2.1,((dm d e f).2.2.1,((dm d e f).2.2.2.1,((dm d e f).2.2.2.2.1,()))))) l [] (dm d e f).1 (dm d e f).2.1 (dm d e f).2.2.1 (dm d e f).2.2.2.1 (dm d e f).2.2.2.2.1 h g d e m (iE i h)) fun q=>tV q o s) a7)<|cond (gI (ofBytes h) []) (cond (eU (bG g) (dm d e f).2.1 (dm d e f).2.2.1) (cond (dV (bM i (jU g d e f)) 1) (o (dm d e f).2.2.1 l [] g d e m (bM i (jU g d e f))) a7) a7)<|cond (dV (iE i h) 1) (cond (eU (bG g) (dm d e f).2.1 (dm d e f).2.2.1) (cond (dV (bM (iE i h) (jU g d e f)) 1) (o (dm d e f).2.2.1 l [] g d e m (bM (iE i h) (jU g d e f))) a7) a7) a7
def tY {o:Type} (d:List iZ) (e:List uP) (f:Int) (g:bW) (h i:jo) (j:Int->bW->jo->bW->(List iZ)->(List uP)->bW->jo->Option o) (l m:bW) (p:bW->bW->(List iZ)->(List uP)->bW->jo->Option o):Option o:=cond (bT (dm d e f).1 13) (cond (bT (dm d e f).1 13) (tN d e f g h i j l m)<|tX d e f h l g m i j p)<|cond (bT (dm d e f).1 4) (tN d e f g h i j l m)<|tX d e f h l g m i j p
def yZ {o:Type} (m:Int->bW->jo->bW->(List iZ)->(List uP)->bW->jo->Option o) (s:bW->jo->bW->(List iZ)->(List uP)->bW->jo->Option o) (p:bW->bW->(List iZ)->(List uP)->bW->jo->Option o) (d:Int) (i:bW) (h:jo) (e:bW) (g:List iZ) (f:List uP) (j:bW) (l:jo):Option o:=cond (iq d (bG e)) (cond (bT (qH f d) 0) (cond (gm e d) (cond (gI e e) (cond (bT d d) (cond (dV (bM h [(bY e d)]) 1) (cond (gI e e) (cond (bT d d) (cond (gm e d) (cond (bT (bY e d) (bY e d)) (m (bZ .i64 d 1) i (bM h [(bY e d)]) e g f j l) a7) a7) a7) a7) a7) a7) a7) a7)<|cond (gm g (eF .i64 (qH f d) 1)) (bF (acy ((dm g f d).1,((dm g f d).2.1,((dm g f d).2.2.1,((dm g f d).2.2.2.1,((dm g f d).2.2.2.2.1,())))))) fun q=>cond q.1 (cond q.1 (tK e g f d h m i j l)<|tY g f d e h l m i j p)<|cond (bT (dm g f d).1 14) (tK e g f d h m i j l)<|tY g f d e h l m i j p) a7)<|s i h e g f j l
def jh:Nat->Int->bW->jo->bW->(List iZ)->(List uP)->bW->jo->Option (Ey.den⊕EG.den)
 |0,_,_,_,_,_,_,_,_=>a7
 |n+1,d,e,f,g,h,i,j,l=>yZ (jh n) (fun m o p q s u v=>a6 (.inl ((),((m,()),(),(),()),(o,(),(),(p,q,()),s,(),(u,()),v,(),())))) (fun x y z A B D=>a6 (.inr ((),((x,()),(),(),()),((y,z,()),A,(),(B,()),D,(),())))) d e f g h i j l
def ado (n:Nat) (v:CE.den):=jh n v.1.1 v.2.1.1.1 v.2.2.1 v.2.2.2.2.2.1.1 v.2.2.2.2.2.1.2.1 v.2.2.2.2.2.2.1 v.2.2.2.2.2.2.2.2.1.1 v.2.2.2.2.2.2.2.2.2.1
noncomputable def Om:dA:=fK Su CE Ey EG (.exit 0) (ado bJ) 18
def aic (f:bW):Option vC:=bF (awt f) fun g=>bF (rY bJ g.1 (bG g.1) 0 f [] f f g.1 [] []) fun i=>dL i (fun e=>bF (jh bJ 0 e.2.1.1.2.1 [] e.2.2.1.1 e.2.2.1.2.1 e.2.2.2.1 e.2.1.1.2.1 e.2.2.2.2.2.1) fun j=>dL j (fun d=>cond (gI (ofBytes d.2.2.1) []) (cond (bT (bG d.2.2.2.2.2.2.2.2.2.1) (bG d.2.2.2.2.2.2.2.2.2.1)) (a6 ((ofBytes d.2.2.2.2.2.2.2.2.2.1),())) a7)<|cond (dV (bM d.2.2.2.2.2.2.2.2.2.1 (dn (ofBytes d.2.2.1))) 1) (cond (bT (bG (bM d.2.2.2.2.2.2.2.2.2.1 (dn (ofBytes d.2.2.1)))) (bG (bM d.2.2.2.2.2.2.2.2.2.1 (dn (ofBytes d.2.2.1))))) (a6 ((ofBytes (bM d.2.2.2.2.2.2.2.2.2.1 (dn (ofBytes d.2.2.1)))),())) a7) a7) (fun h=>cond (bT (bG h.2.2.2.2.2.2.1) (bG h.2.2.2.2.2.2.1)) (a6 ((ofBytes h.2.2.2.2.2.2.1),())) a7)) (fun l=>a7)
def aEz:Sum:=⟨[.str],GX,fun x=>aic x.1⟩
noncomputable def DN:Env:=gQ prog tt [(90,aAw),(141,auE),(183,auP)] [(91,3,Wl),(138,4,Su),(143,5,Sv),(201,500004,awS),(201,600002,awK),(201,600004,awL),(201,600005,⟨[3],[],[],[],[],[]⟩),(138,600005,ac5),(138,600016,BR),(138,600017,YJ),(138,600019,BR),(138,600010,BR),(138,600020,ar0),(139,600003,ac6),(143,600006,ac7),(143,600016,YK),(143,600007,ac8),(143,600009,ac9),(143,600020,YL),(20,600001,BV)] [(91,3,S9),(143,5,Oo),(138,4,Om)] [201]
def Uf {d:Type} (a:F9.den->Option d) (b:II.den->Option d) (c:IL.den->Option d) (v:F9.den):Option d:=Df (fun e f g h i j l m o p=>a ((e,f,g,()),((h,i,j,()),(),()),((l,m,()),o,(),p,()))) (fun q s u x y z A=>b ((),((q,s,u,()),(),()),((x,y,()),z,(),A,()))) (bv c) v.1.1 v.1.2.1 v.1.2.2.1 v.2.1.1.1 v.2.1.1.2.1 v.2.1.1.2.2.1 v.2.2.1.1 v.2.2.1.2.1 v.2.2.2.1 v.2.2.2.2.2.1
theorem agb:dQ DN 91 VI S9:=mO (Uf) (h2:=by intros;simp only[Uf,bv,Df,cu,cO,bD,bV,cZ])
def OL {d:Type} (a:CG.den->Option d) (b:yP.den->Option d) (c:yR.den->Option d) (v:CG.den):Option d:=bw (zf (fun e f g h i j l m o p q s u x y z A B D E=>a ((e,f,g,()),((h,i,j,l,()),(m,()),(),(),()),(o,(p,q,s,u,x,()),y,(),(),(z,A,()),B,(),(D,()),E,(),()))) (fun G I J K L M N O S U V W X Y Z ab ad ae=>b ((G,()),((I,J,K,L,()),(M,()),(),(),()),(N,(O,S,U,V,W,()),X,(),(),(Y,Z,()),ab,(),(ad,()),ae,(),()))) (bv c)) v
theorem adM:dQ DN 143 Q8 Oo:=mO (OL) (h2:=by intros;simp only[OL,bv,bw,zf,cu,cO,bD,bV,cZ,eu,iK,jV,nz,nC])
def OJ {d:Type} (a:CE.den->Option d) (b:Ey.den->Option d) (c:EG.den->Option d) (v:CE.den):Option d:=yZ (fun e f g h i j l m=>a ((e,()),((f,()),(),(),()),(g,(),(),(h,i,()),j,(),(l,()),m,(),()))) (fun o p q s u x y=>b ((),((o,()),(),(),()),(p,(),(),(q,s,()),u,(),(x,()),y,(),()))) (bv c) v.1.1 v.2.1.1.1 v.2.2.1 v.2.2.2.2.2.1.1 v.2.2.2.2.2.1.2.1 v.2.2.2.2.2.2.1 v.2.2.2.2.2.2.2.2.1.1 v.2.2.2.2.2.2.2.2.2.1
theorem adL:dQ DN 138 Q7 Om:=mO (OJ) (h2:=by intros;simp only[OJ,bv,yZ,cu,cO,bD,bV,cZ,dm,pK,jT,jU,iE,tK,tN,tV,tX,tY])
theorem aBT:jP XH=[]:=by kernel_rfl
theorem aDX:kF XH=[(cA (cA (cB (cA (cB (cB (XH)))))),cB (cA (cB (cA (cB (cB (XH)))))))]:=by kernel_rfl
theorem aCf:dO DN 201 XH:=yJ XH (by rw[aDX];exact(aD (fun _=>(show uI 201 4=a6 (cA (cA (cB (cA (cB (cB (XH)))))),cB (cA (cB (cA (cB (cB (XH))))))) by kernel_rfl)) aN)) (by rw[aBT];exact aN)
theorem am0:dO DN 91 XI:=pI [VI] (aD (fM (agb)) aN)
theorem afU:dO DN 138 QU:=pI [Q7] (aD (fM (adL)) aN)
theorem afV:dO DN 143 QV:=pI [Q8] (aD (fM (adM)) aN)
theorem al4:eP DN:=eB (aD avi (aD anI (aD anX aN))) [201,91,138,143] (aD ⟨f201,XH,by kernel_rfl,by kernel_rfl,aCf⟩ (aD ⟨f91,XI,by kernel_rfl,by kernel_rfl,am0⟩ (aD ⟨Tryz.f138,QU,by kernel_rfl,by kernel_rfl,afU⟩ (aD ⟨Tryz.f143,QV,by kernel_rfl,by kernel_rfl,afV⟩ aN))))
theorem an4:dK prog 201 aEz:=sA al4
def ah0 (g:bW) (h:Int) (d:Int×GV×uO):Option ((Int×GV×uO)×Unit):=bF (rJ d.2.1) fun f=>cond (bT h 1) (a6 ((d.1,(f.1,(false,()))),()))<|cond (bT h 2) (a6 ((0,(f.1,((iq 0 (bG f.1)),()))),()))<|cond (bT h 4) (bF (acN g) fun e=>cond (bT e.1 4) (a6 ((e.1,(f.1,(false,()))),()))<|cond (bT e.1 5) (a6 ((e.1,(f.1,(false,()))),()))<|some ((0,(f.1,(false,()))),()))<|cond (bT h 6) (cond (!(bT d.1 0)) (bF (aic g) fun e=>cond (gI g g) (cond (bT d.1 d.1) (cond (jr (bT d.1 5) (bT d.1 5)) (cond (((gI g g)&&true)&&((gI e.1 e.1)&&true)) (cond (dV (bM f.1 [(e.1,((bT d.1 5),()))]) 24) (cond (gI g g) (cond (bT d.1 d.1) (cond (jr (bT d.1 5) (bT d.1 5)) (cond ((gI e.1 e.1)&&((jr (bT d.1 5) (bT d.1 5))&&true)) (a6 ((0,((bM f.1 [(e.1,((bT d.1 5),()))]),(false,()))),())) a7) a7) a7) a7) a7) a7) a7) a7) a7)<|some ((0,(f.1,(false,()))),()))<|some ((0,(f.1,(false,()))),())
def aEk:Sum:=⟨[.str,di,.pair di tyM],[(.pair di tyM,false)],fun x=>ah0 x.1 x.2.1 x.2.2.1⟩
theorem anO:dK prog 151 aEk:=qA f151 [] (sE xR (sE UC (sE an4 aN)))
def Yf (d:Int×GV×uO):Option taV:=cond ((bT d.1 d.1)&&((oH EU d.2.1 d.2.1)&&((jr d.2.2.1 d.2.2.1)&&true))) (a6 ((0,(0,(0,(false,())))),((d.1,(d.2.1,(d.2.2.1,()))),()))) a7
def Yg (e:bW) (h:Int) (f:Int×GV×uO):Option taV:=bF (ahZ e h) fun d=>cond (eU (bG e) d.1.2.1 d.1.2.2.1) (bF (ah0 (sub e d.1.2.1 d.1.2.2.1) d.1.1 (f.1,(f.2.1,(f.2.2.1,())))) fun g=>cond ((bT d.1.1 d.1.1)&&((bT d.1.2.1 d.1.2.1)&&((bT d.1.2.2.1 d.1.2.2.1)&&((jr d.1.2.2.2.1 d.1.2.2.2.1)&&true)))) (cond (gI e e) (cond (bT d.1.2.1 d.1.2.1) (cond (bT d.1.2.2.1 d.1.2.2.1) (cond (gI e e) (cond (bT d.1.2.1 d.1.2.1) (cond (bT d.1.2.2.1 d.1.2.2.1) (cond (eU (bG e) d.1.2.1 d.1.2.2.1) (cond (gI (sub e d.1.2.1 d.1.2.2.1) (sub e d.1.2.1 d.1.2.2.1)) (cond (bT d.1.1 d.1.1) (cond ((bT f.1 f.1)&&((oH EU f.2.1 f.2.1)&&((jr f.2.2.1 f.2.2.1)&&true))) (a6 ((d.1.1,(d.1.2.1,(d.1.2.2.1,(d.1.2.2.2.1,())))),((g.1.1,(g.1.2.1,(g.1.2.2.1,()))),()))) a7) a7) a7) a7) a7) a7) a7) a7) a7) a7) a7) a7
def ahU (g:bW) (f:Int) (d:Int×GV×uO):Option taV:=cond (iq f 0) (Yf d)<|cond (leI (bG g) f) (Yf d)<|cond d.2.2.1 (cond (iq 0 (bG d.2.1)) (bF (aqY g f (d.1,(d.2.1,(d.2.2.1,())))) fun e=>a6 ((e.1.1,(e.1.2.1,(e.1.2.2.1,(e.1.2.2.2.1,())))),((e.2.1.1,(e.2.1.2.1,(e.2.1.2.2.1,()))),())))<|Yg g f d)<|Yg g f d
def aun:Sum:=⟨[.str,di,.pair di tyM],tzH,fun x=>ahU x.1 x.2.1 x.2.2.1⟩
theorem anv:dK prog 105 aun:=qA f105 [] (sE anM (sE anN (sE anO aN)))
noncomputable def b28:Code:=(f28.body).getD .skip
noncomputable def XJ:Code:=(f104.body).getD .skip
noncomputable def VJ:Code:=cA (cA (cB (cB (cB (XJ)))))
def Wn:eG:=⟨[0,1,3,4,5,175000003],[(100000501,.pair (.list .unit) (.pair .unit EU)),(300000301,.pair (.list .unit) (.pair .unit EU))],[],[],[],[]⟩
def aBP:eG:=⟨[2,3,4,5],[],[],[],[],[]⟩
def aBJ:eG:=⟨[0,2,3,4,5],[],[],[],[],[]⟩
def afM:eG:=⟨[0,1,3,4],[],[],[],[],[]⟩
def Gf:SQ:=⟨us [.yld 1700010,ey,.u,.ptr 3000003 0,.ptr 3000004 0,bR] 18,[cj,[.yld 1700010],[]],[.box 3000004 78 [bR,bR,bR,cg],.box 3000003 73 cr,.box 2000001 9 [bS],.lp 1700010 28 (cj) [10,11] 6 0 a7,.arr 1500004 tyE,dj,.box 1000004 70 [.slc 1500004],cQ]⟩
def IJ:SQ:=⟨us [] 24,[cj,[.yld 1700010],[]],[.box 2000001 9 [bS],.lp 1700010 28 (cj) [10,11] 6 0 a7,.arr 1500004 tyE,dj,.box 1000004 70 [.slc 1500004],cQ]⟩
def IM:SQ:=⟨us [] 24,[cj,[.yld 1700010],[]],[]⟩
def Dh {e:Type} (l:Int->Int->Int->Int->Bool->Int->GV->Bool->bW->(List LC)->Int->GV->Bool->Int->Bool->Option e) (m:bW->(List LC)->Int->GV->Bool->Int->Bool->Option e) (x:Option e) (h y z A:Int) (B:Bool) (o:Int) (p:GV) (q:Bool) (f:bW) (g:List LC) (s:Int) (u:GV) (v:Bool) (i:Int) (j:Bool):Option e:=cond (iq h (bG f)) (bF (ahU f h (o,(p,(q,())))) fun d=>cond ((bT d.2.1.1 d.2.1.1)&&((oH EU d.2.1.2.1 d.2.1.2.1)&&((jr d.2.1.2.2.1 d.2.1.2.2.1)&&true))) (cond (dV (bM g [(d.1.1,(d.1.2.1,(d.1.2.2.1,(d.1.2.2.2.1,()))))]) 32) (cond ((bT d.1.1 d.1.1)&&((bT d.1.2.1 d.1.2.1)&&((bT d.1.2.2.1 d.1.2.2.1)&&((jr d.1.2.2.2.1 d.1.2.2.2.1)&&true)))) (cond ((bT d.2.1.1 d.2.1.1)&&((oH EU d.2.1.2.1 d.2.1.2.1)&&((jr d.2.1.2.2.1 d.2.1.2.2.1)&&true))) (cond ((bT d.2.1.1 d.2.1.1)&&((oH EU d.2.1.2.1 d.2.1.2.1)&&((jr d.2.1.2.2.1 d.2.1.2.2.1)&&true))) (l d.1.2.2.1 d.1.1 d.1.2.1 d.1.2.2.1 d.1.2.2.2.1 d.2.1.1 d.2.1.2.1 d.2.1.2.2.1 f (bM g [(d.1.1,(d.1.2.1,(d.1.2.2.1,(d.1.2.2.2.1,()))))]) d.2.1.1 d.2.1.2.1 d.2.1.2.2.1 i j) a7) a7) a7) a7) a7)<|m f g s u v i j
def rZ:Nat->Int->Int->Int->Int->Bool->Int->GV->Bool->bW->(List LC)->Int->GV->Bool->Int->Bool->Option (IJ.den⊕IM.den)
 |0,_,_,_,_,_,_,_,_,_,_,_,_,_,_,_=>a7
 |n+1,d,e,f,g,h,i,j,l,m,o,p,q,s,u,v=>Dh (rZ n) (fun x y z A B D E=>a6 (.inl ((),((),(),(),()),((x,()),(),y,(z,A,B,()),(),(D,E,()),())))) (a6 (.inr ((),((),(),(),()),()))) d e f g h i j l m o p q s u v
def af7 (n:Nat) (v:Gf.den):=bx (rZ n) v
noncomputable def Tc:dA:=fK Wn Gf IJ IM (.exit 0) (af7 bJ) 6
def awm (e:bW):Option ((List LC)×(Int×GV×uO)×Unit):=bF (rZ bJ 0 0 0 0 false 0 [] false e [] 0 [] false 0 false) fun f=>dL f (fun d=>a6 (d.2.2.2.2.1,((d.2.2.2.2.2.1.1,(d.2.2.2.2.2.1.2.1,(d.2.2.2.2.2.1.2.2.1,()))),()))) (fun g=>a7)
def aAg:Sum:=⟨[.str],[(.list tyE,false),(.pair di tyM,false)],fun x=>awm x.1⟩
noncomputable def ahM:Env:=gQ prog tt [(105,aun)] [(104,3,Wn),(28,500006,aBP),(28,600003,aBJ),(104,600006,afM)] [(104,3,Tc)] [28]
def Ug {d:Type} (a:Gf.den->Option d) (b:IJ.den->Option d) (c:IM.den->Option d) (v:Gf.den):Option d:=bx (Dh (fun e f g h i j l m o p q s u x y=>a ((e,()),((),(),(),()),((f,g,h,i,()),(j,l,m,()),(o,()),(),p,(q,s,u,()),(),(x,y,()),()))) (fun z A B D E G I=>b ((),((),(),(),()),((z,()),(),A,(B,D,E,()),(),(G,I,()),()))) (c ((),((),(),(),()),()))) v
theorem agc:dQ ahM 104 VJ Tc:=mO (Ug) (h2:=by intros;simp only[Ug,bx,Dh,cu,cO,bD,bV,cZ])
theorem aG2:jP b28=[]:=by kernel_rfl
theorem aHI:kF b28=[(cA (cA (cB (cA (cB (cB (cB (b28))))))),cB (cA (cB (cA (cB (cB (cB (b28))))))))]:=by kernel_rfl
theorem aG8:dO ahM 28 b28:=yJ b28 (by rw[aHI];exact(aD (fun _=>(show uI 28 6=a6 (cA (cA (cB (cA (cB (cB (cB (b28))))))),cB (cA (cB (cA (cB (cB (cB (b28)))))))) by kernel_rfl)) aN)) (by rw[aG2];exact aN)
theorem am1:dO ahM 104 XJ:=pI [VJ] (aD (fM (agc)) aN)
theorem apT:eP ahM:=eB (aD anv aN) [28,104] (aD ⟨f28,b28,by kernel_rfl,by kernel_rfl,aG8⟩ (aD ⟨f104,XJ,by kernel_rfl,by kernel_rfl,am1⟩ aN))
theorem aet:dK prog 28 aAg:=sA apT
def awq (e:bW) (d:LC):Option vC:=cond (iq d.2.1 0) (a6 ([],()))<|cond (iq d.2.2.1 d.2.1) (a6 ([],()))<|cond (iq (bG e) d.2.2.1) (a6 ([],()))<|cond (eU (bG e) d.2.1 d.2.2.1) (a6 ((sub e d.2.1 d.2.2.1),())) a7
def aAp:Sum:=⟨[.str,tyE],GX,fun x=>awq x.1 x.2.1⟩
theorem avc:dK prog 66 aAp:=qA f66 [] aN
noncomputable def b29:Code:=(f29.body).getD .skip
noncomputable def ay9:Code:=cA (cA (cB (cA (cB (b29)))))
def azB:eG:=⟨[0,4,7,8,9,100002],[(4,NJ)],[4],[],[4],[(4,NJ)]⟩
def ajz:SP:=⟨us [bS,.u,.u,.u,db,.u,.u,.v (.list tyE),bR,bR] 42,[.arr 1800004 NJ]⟩
def agl:SP:=⟨us [.u,.u,.u,.u,db] 47,[.arr 1800004 NJ]⟩
def agG:SP:=⟨us [.u,.u,.u,.u,.v nR] 47,[]⟩
def dX (d:List LC) (e:Int):=eX d (0,(0,(0,(false,())))) e
def uN (d:List LC) (e:Int):=bT (dX d e).2.2.1 (dX d e).2.2.1
def Bl {h:Type} (f:bW) (d:List LC) (e:Int) (i:List fJ) (j:bW->(List LC)->Int->Int->(List fJ)->Option h) (l:Int):Option h:=bF (awq f ((dX d e).1,((dX d e).2.1,((dX d e).2.2.1,((dX d e).2.2.2.1,()))))) fun g=>cond (bT (dX d e).1 (dX d e).1) (cond (gI f f) (cond ((bT (dX d e).1 (dX d e).1)&&((bT (dX d e).2.1 (dX d e).2.1)&&((uN d e)&&((jr (dX d e).2.2.2.1 (dX d e).2.2.2.1)&&true)))) (cond (bT (dX d e).2.1 (dX d e).2.1) (cond (uN d e) (cond (((gI f f)&&(((bT (dX d e).1 (dX d e).1)&&((bT (dX d e).2.1 (dX d e).2.1)&&((uN d e)&&((jr (dX d e).2.2.2.1 (dX d e).2.2.2.1)&&true))))&&true))&&((gI g.1 g.1)&&true)) (cond (dV (bM i [((dX d e).1,(g.1,((dX d e).2.1,((dX d e).2.2.1,()))))]) 40) (cond (bT (dX d e).1 (dX d e).1) (cond (gI f f) (cond ((bT (dX d e).1 (dX d e).1)&&((bT (dX d e).2.1 (dX d e).2.1)&&((uN d e)&&((jr (dX d e).2.2.2.1 (dX d e).2.2.2.1)&&true)))) (cond (bT (dX d e).2.1 (dX d e).2.1) (cond (uN d e) (cond ((bT (dX d e).1 (dX d e).1)&&((gI g.1 g.1)&&((bT (dX d e).2.1 (dX d e).2.1)&&((uN d e)&&true)))) (j f d l (bZ .i64 e 1) (bM i [((dX d e).1,(g.1,((dX d e).2.1,((dX d e).2.2.1,()))))])) a7) a7) a7) a7) a7) a7) a7) a7) a7) a7) a7) a7) a7
def abo {j:Type} (i:bW->(List LC)->Int->Int->(List fJ)->Option j) (l m:(List fJ)->Option j) (f:bW) (e:List LC) (g d:Int) (h:List fJ):Option j:=cond (iq d g) (cond (gm e d) (cond (iq (dX e d).2.1 0) (i f e g (bZ .i64 d 1) h)<|cond (iq (dX e d).2.2.1 (dX e d).2.1) (i f e g (bZ .i64 d 1) h)<|cond (iq (bG f) (dX e d).2.2.1) (i f e g (bZ .i64 d 1) h)<|cond (bT (dX e d).1 4) (cond (bT (dX e d).1 4) (Bl f e d h i g)<|i f e g (bZ .i64 d 1) h)<|cond (bT (dX e d).1 5) (cond (bT (dX e d).1 5) (Bl f e d h i g)<|i f e g (bZ .i64 d 1) h)<|cond (bT (dX e d).1 6) (cond (bT (dX e d).1 6) (Bl f e d h i g)<|i f e g (bZ .i64 d 1) h)<|cond (bT (dX e d).1 2) (Bl f e d h i g)<|i f e g (bZ .i64 d 1) h) a7)<|l h
def Ec:Nat->bW->(List LC)->Int->Int->(List fJ)->Option (agl.den⊕agG.den)
 |0,_,_,_,_,_=>a7
 |n+1,d,e,f,g,h=>abo (Ec n) (fun i=>a6 (.inl ((),(i,())))) (fun j=>a6 (.inr ((j,()),()))) d e f g h
def aCD (n:Nat) (v:ajz.den):=bq (Ec n) v
noncomputable def asu:dA:=fH azB ajz agl agG (.exit 0) (aCD bJ) 6
def awn (e:bW) (d:List LC):Option ((List fJ)×Unit):=bF (Ec bJ e d (bG d) 0 []) fun f=>dL f (fun g=>a6 (g.2.1,())) (fun h=>a6 (h.1.1,()))
def aAh:Sum:=⟨[.str,.list tyE],[(.list NJ,false)],fun x=>awn x.1 x.2.1⟩
noncomputable def apU:Env:=iU prog tt 29 [(66,aAp)] [(2,azB)] [(2,asu)]
def atE {d:Type} (a:ajz.den->Option d) (b:agl.den->Option d) (c:agG.den->Option d) (v:ajz.den):Option d:=bq (abo (fun e f g h i=>a ((e,f,g,h,()),(i,()))) (fun j=>b ((),(j,()))) (aE c)) v
theorem aC6:dQ apU 29 ay9 asu:=vS (atE) (h2:=by intros;simp only[atE,aE,bq,abo,cu,cO,bD,bV,cZ,dX,uN,Bl])
theorem aG9:dO apU 29 b29:=pI [ay9] (aD (fM (aC6)) aN)
theorem apV:eP apU:=eA f29 (aD avc aN) (aG9)
theorem aeu:dK prog 29 aAh:=sA apV
end
end Go.Proofs.YtkichehglnecnaaGreatDoor
