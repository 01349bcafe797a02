/- Parts of the proof, joined and shortened by a program: the plain machine, the functions as it prints them, and the mathematics over them. -/
import Derived.Test.YtdfhjhkcjecmlaaGreatDoorZ3
set_option linter.unusedVariables false
set_option linter.unusedSimpArgs false
set_option maxRecDepth 100000
set_option maxHeartbeats 4000000
namespace Go.Proofs.YtdfhjhkcjecmlaaGreatDoor
section
open Option renaming some → a6, none → a7
open Tryz
open Go.RowKit
def aw5 (h:bU) (g:Int) (d:Int×J3×oJ):Option taV:=cond (fO d.2.1 0) (bK (anc h g (dQ d.2.1 ([],(false,())) 0)) fun f=>cond (!f.2.1) (cond ((bZ d.1 d.1)&&((oV Iy d.2.1 d.2.1)&&((jP d.2.2.1 d.2.2.1)&&true))) (a6 ((7,(g,(f.1,((!f.2.1),())))),((d.1,(d.2.1,(d.2.2.1,()))),()))) a7)<|cond (dZ (bM d.2.1) 1 (bM d.2.1)) (bK (uG (sub d.2.1 1 (bM d.2.1))) fun e=>cond (bZ d.1 d.1) (cond (bZ (bM e.1) (bM e.1)) (cond (jP (gU 0 (bM e.1)) (gU 0 (bM e.1))) (cond ((bZ d.1 d.1)&&((jP (gU 0 (bM e.1)) (gU 0 (bM e.1)))&&true)) (a6 ((7,(g,(f.1,((!f.2.1),())))),((d.1,(e.1,((gU 0 (bM e.1)),()))),()))) a7) a7) a7) a7) a7) a7
def aLF:Sum:=⟨[.str,cZ,.pair cZ tyN],tzI,fun x=>aw5 x.1 x.2.1 x.2.2.1⟩
theorem as7:dX prog 145 aLF:=qA f145 [] (sE ath (sE zM aN))
def Wy (d:iI):Option oJ:=cond (bZ d.1 12) (a6 ((bZ d.2.2.1 (bY .i64 d.2.1 1)),()))<|some (false,())
def ame:Sum:=⟨[J5],KO,fun x=>Wy x.1⟩
theorem aaZ:dX prog 112 ame:=qA f112 [] aN
def ach (d:iI):Option lD:=cond d.2.2.2.2.1 (a6 ((bY .i64 d.2.1 2),((EN (dV .i64 d.2.2.1 0) (bY .i64 d.2.1 2)),())))<|some ((bY .i64 d.2.1 2),((EN (dV .i64 d.2.2.1 1) (bY .i64 d.2.1 2)),()))
def am5 (d:iI):Option lD:=cond d.2.2.2.2.1 (a6 ((bY .i64 d.2.1 1),((EN (dV .i64 d.2.2.1 0) (bY .i64 d.2.1 1)),())))<|some ((bY .i64 d.2.1 1),((EN (dV .i64 d.2.2.1 0) (bY .i64 d.2.1 1)),()))
def am6 (d:iI):Option lD:=cond d.2.2.2.2.1 (a6 ((bY .i64 d.2.1 1),((EN (dV .i64 d.2.2.1 0) (bY .i64 d.2.1 1)),())))<|some ((bY .i64 d.2.1 1),((EN (dV .i64 d.2.2.1 1) (bY .i64 d.2.1 1)),()))
def aci (d:iI):Option lD:=cond (bZ d.1 9) (cond d.2.2.2.2.1 (a6 ((bY .i64 d.2.1 3),((EN (dV .i64 d.2.2.1 0) (bY .i64 d.2.1 3)),())))<|some ((bY .i64 d.2.1 3),((EN (dV .i64 d.2.2.1 2) (bY .i64 d.2.1 3)),())))<|cond (bZ d.1 13) (cond (bZ d.1 13) (am5 d)<|am6 d)<|cond (bZ d.1 12) (am5 d)<|am6 d
def agT (d:iI):Option lD:=cond (bZ d.1 1) (cond (bZ d.1 1) (ach d)<|aci d)<|cond (bZ d.1 7) (cond (bZ d.1 7) (ach d)<|aci d)<|cond (bZ d.1 8) (ach d)<|aci d
def amh:Sum:=⟨[J5],tzJ,fun x=>agT x.1⟩
theorem aa6:dX prog 154 amh:=qA Tryz.f154 [] aN
noncomputable def abB:Code:=(f183.body).getD .skip
noncomputable def abC:Code:=(f68.body).getD .skip
noncomputable def VK:Code:=(f109.body).getD .skip
noncomputable def VL:Code:=(f114.body).getD .skip
noncomputable def ZL:Code:=cA (cA (cB (cA (cB (cB (abC))))))
noncomputable def VU:Code:=cA (cA (cB (cA (cB (cB (cB (cA (cB (VK)))))))))
noncomputable def VV:Code:=cA (cA (cB (cA (cB (cB (cB (cB (VL))))))))
def aam:eY:=⟨[3,15,16,17,54000003],[],[3],[],[2],[]⟩
def WV:eY:=⟨[1,2,3,4,5,80000004],[(300000300,.pair (.list .unit) (.int .u8))],[4],[],[],[]⟩
def WW:eY:=⟨[0,2,8,9,10,11,85000005],[(9,(.int .u8))],[2,9,10],[],[6],[]⟩
def anK:eY:=⟨[2,3],[],[],[],[],[]⟩
def anG:eY:=⟨[0,2,3],[],[],[],[],[]⟩
def aDA:eY:=⟨[3,4],[],[],[],[],[]⟩
def Uf:eY:=⟨[3],[],[],[],[],[]⟩
def Sm:eY:=⟨[1,2,3,4,5],[],[],[],[],[]⟩
def qi:eY:=⟨[1,2,3,4,5,6],[],[],[],[],[]⟩
def N7:eY:=⟨[1,2,3,4,5,8,9],[],[],[],[],[]⟩
def Sr:eY:=⟨[1,3],[],[],[],[],[]⟩
def Su:eY:=⟨[0,2,8,9,10,11],[],[],[],[],[]⟩
def N8:eY:=⟨[0,2,8,9,10,12],[],[],[],[],[]⟩
def Sv:eY:=⟨[0,2,8,9,12],[],[],[],[],[]⟩
def Sz:eY:=⟨[0,2,8,12],[],[],[],[],[]⟩
def N9:eY:=⟨[2,9],[],[],[],[],[]⟩
def Jl:SQ:=⟨eO,[us [ci,.u,ci,cw,.u,ci] 7,[]],[ck,cz,cq,cE]⟩
def LZ:SQ:=⟨us [.u,.u,.u,dz] 28,[us [ci,.u,ci,cw,.u,ci] 7,[]],[ck,cz,cq,cE]⟩
def Mc:SQ:=⟨us [] 112,[cR,d5,[]],dx⟩
def FH {e:Type} (q:(List iI)->Int->Int->bU->bU->bU->bU->(List iI)->(List lI)->iD->Option e) (s:bU->bU->bU->bU->(List iI)->(List lI)->iD->Option e) (u:bU->bU->(List iI)->(List lI)->bU->iD->Option e) (f:List iI) (g d:Int) (h i j l:bU) (m:List iI) (o:List lI) (p:iD):Option e:=cond (gU d g) (cond (fO f d) (q f g (bY .i64 d 1) h i j l m (wX o (dQ f (0,(0,(0,(0,(false,()))))) d).2.1 (bY .i64 d 1)) p) a7)<|s h i j l m o p
def uT:Nat->(List iI)->Int->Int->bU->bU->bU->bU->(List iI)->(List lI)->iD->Option (LZ.den⊕Mc.den)
 |0,_,_,_,_,_,_,_,_,_,_=>a7
 |n+1,d,e,f,g,h,i,j,l,m,o=>FH (uT n) (fun p q s u v x y=>a6 (.inl ((),((p,q,s,()),(),()),((u,v,()),x,(),y,())))) (fun z A B D E G=>a6 (.inr ((),((z,()),(),(),()),((A,B,()),D,(),(E,()),G,(),())))) d e f g h i j l m o
def akB (n:Nat) (v:Jl.den):=uT n v.1.1 v.1.2.1 v.1.2.2.1 v.2.1.1.1 v.2.1.1.2.1 v.2.1.1.2.2.1 v.2.2.1.1 v.2.2.1.2.1 v.2.2.2.1 v.2.2.2.2.2.1
noncomputable def Xo:dG:=fQ aam Jl LZ Mc (.exit 0) (akB bV) 6
def EW:SQ:=⟨us [dz,.u,.yld 1700008,.u,.u,.u,.u,.u,cg,.slc 4800009,co,cg] 83,[cr,cR,d5,[]],cM⟩
def AQ:SQ:=⟨us [.u,.u,.yld 1700008,.u,.u,.u,.u,.u,.u,.slc 4800009,co] 84,[cr,cR,d5,[]],cM⟩
def AZ:SQ:=⟨us [] 112,[cR,d5,[]],dx⟩
def fP (d:List iI) (e:List lI) (f:Int):=dQ d (0,(0,(0,(0,(false,()))))) (dV .i64 (nN e f) 1)
def iZ (d:bU) (e:List iI) (f:List lI) (g:Int):=cO d (bY .i64 (fP e f g).2.1 1)
def kT (g:bU) (d:List iI) (e:List lI) (f:Int):=dm (sub g (fP d e f).2.1 (fP d e f).2.2.1)
def oC {h:Type} (i:iD) (f:bU) (d:List iI) (e:List lI) (g:Int) (j:Int->Bool->Int->Int->Bool->Bool->iI->bU->iD->Int->Int->Int->Int->Bool->iD->bU->(List iI)->(List lI)->bU->iD->Option h) (l:Int) (m:Bool) (o:Int) (p q:Bool) (s:iI) (u:bU) (v x y z:Int) (A:Bool) (B:iD) (D:bU) (E:iD):Option h:=cond (eH (cu i (dm (ofBytes [(iZ f d e g)]))) 1) (j l m (fP d e g).2.2.1 o p q s u (cu i (dm (ofBytes [(iZ f d e g)]))) v x y z A B f d e D E) a7
def oD {i:Type} (g:bU) (d:List iI) (e:List lI) (f:Int) (h:iD) (j:Int->Bool->Int->Int->Bool->Bool->iI->bU->iD->Int->Int->Int->Int->Bool->iD->bU->(List iI)->(List lI)->bU->iD->Option i) (l:Int) (m:Bool) (o:Int) (p q:Bool) (s:iI) (u:bU) (v x y z:Int) (A:Bool) (B:iD) (D:bU) (E:iD):Option i:=cond (bZ (iZ g d e f) 10) (cond (eH (cu h (dm [])) 1) (j l m (fP d e f).2.2.1 o p q s u (cu h (dm [])) v x y z A B g d e D E) a7)<|cond (dZ (bM g) (fP d e f).2.1 (fP d e f).2.2.1) (cond (eH (cu h (kT g d e f)) 1) (j l m (fP d e f).2.2.1 o p q s u (cu h (kT g d e f)) v x y z A B g d e D E) a7) a7
def Bi {E:Type} (B:Int->Bool->Int->Int->Bool->Bool->iI->bU->iD->Int->Int->Int->Int->Bool->iD->bU->(List iI)->(List lI)->bU->iD->Option E) (G:Bool->Int->Bool->Bool->iI->bU->iD->Int->Int->Int->Int->Bool->iD->bU->(List iI)->(List lI)->bU->iD->Option E) (J:bU->bU->(List iI)->(List lI)->bU->iD->Option E) (j:Int) (D:Bool) (d l:Int) (m o:Bool) (p:iI) (q:bU) (h:iD) (s u v x:Int) (y:Bool) (z:iD) (g:bU) (f:List iI) (e:List lI) (A:bU) (i:iD):Option E:=cond (gU d j) (cond (bZ (nN e d) 0) (cond (fO g d) (cond (eH (cu h [(cO g d)]) 1) (B j D (bY .i64 d 1) l m o p q (cu h [(cO g d)]) s u v x y z g f e A i) a7) a7)<|cond (fO f (dV .i64 (nN e d) 1)) (bK (Wy ((fP f e d).1,((fP f e d).2.1,((fP f e d).2.2.1,((fP f e d).2.2.2.1,((fP f e d).2.2.2.2.1,())))))) fun I=>cond I.1 (cond (fO g d) (cond (eH (cu h [(cO g d)]) 1) (B j D (bY .i64 d 1) l m o p q (cu h [(cO g d)]) s u v x y z g f e A i) a7) a7)<|cond (bZ (fP f e d).1 13) (cond (gU (dV .i64 (fP f e d).2.2.1 (fP f e d).2.1) 2) (cond (eH (cu h (dm [])) 1) (B j D (fP f e d).2.2.1 l m o p q (cu h (dm [])) s u v x y z g f e A i) a7)<|cond (fO g (bY .i64 (fP f e d).2.1 1)) (cond (bZ (iZ g f e d) 36) (cond (bZ (iZ g f e d) 36) (oC h g f e d B j D l m o p q s u v x y z A i)<|oD g f e d h B j D l m o p q s u v x y z A i)<|cond (bZ (iZ g f e d) 96) (cond (bZ (iZ g f e d) 96) (oC h g f e d B j D l m o p q s u v x y z A i)<|oD g f e d h B j D l m o p q s u v x y z A i)<|cond (bZ (iZ g f e d) 34) (cond (bZ (iZ g f e d) 34) (oC h g f e d B j D l m o p q s u v x y z A i)<|oD g f e d h B j D l m o p q s u v x y z A i)<|cond (bZ (iZ g f e d) 92) (oC h g f e d B j D l m o p q s u v x y z A i)<|oD g f e d h B j D l m o p q s u v x y z A i) a7)<|cond (gU 0 (bM h)) (cond (eH (cu i (dm (ofBytes h))) 1) (cond (dZ (bM g) (fP f e d).2.1 (fP f e d).2.2.1) (cond (eH (cu (cu i (dm (ofBytes h))) (kT g f e d)) 1) (B j true (fP f e d).2.2.1 l m o p q [] s u v x y z g f e A (cu (cu i (dm (ofBytes h))) (kT g f e d))) a7) a7) a7)<|cond (dZ (bM g) (fP f e d).2.1 (fP f e d).2.2.1) (cond (eH (cu i (kT g f e d)) 1) (B j true (fP f e d).2.2.1 l m o p q [] s u v x y z g f e A (cu i (kT g f e d))) a7) a7) a7)<|G D l m o p q h s u v x y z g f e A i
def lS:Nat->Int->Bool->Int->Int->Bool->Bool->iI->bU->iD->Int->Int->Int->Int->Bool->iD->bU->(List iI)->(List lI)->bU->iD->Option (AQ.den⊕AZ.den)
 |0,_,_,_,_,_,_,_,_,_,_,_,_,_,_,_,_,_,_,_,_=>a7
 |n+1,d,e,f,g,h,i,j,l,m,o,p,q,s,u,v,x,y,z,A,B=>Bi (lS n) (fun D E G I J K L M N O S U V W X Y Z ab=>a6 (.inl ((D,()),((E,G,I,J,()),(K,()),(),(),()),(L,(M,N,O,S,U,()),V,(),(),(W,X,()),Y,(),(Z,()),ab,(),())))) (fun r0 r1 r2 r3 r4 r5=>a6 (.inr ((),((r0,()),(),(),()),((r1,r2,()),r3,(),(r4,()),r5,(),())))) d e f g h i j l m o p q s u v x y z A B
def ahI (n:Nat) (v:EW.den):=bk (lS n) v
noncomputable def SK:dG:=fQ WW EW AQ AZ (.exit 0) (ahI bV) 12
def EU:SQ:=⟨us [.u,em,fT,fe,cH,cg] 106,[cR,d5,[]],c7⟩
def Hq:SQ:=⟨us [.u,.u,.u,.u,cH] 107,[cR,d5,[]],c7⟩
def Hz:SQ:=⟨us [] 112,[cR,d5,[]],dx⟩
def dH (d:List iI) (e:List lI) (f:Int):=dQ d (0,(0,(0,(0,(false,()))))) (dV .i64 (nN e f) 1)
def qU (d:List iI) (e:List lI) (f:Int):=agT ((dH d e f).1,((dH d e f).2.1,((dH d e f).2.2.1,((dH d e f).2.2.2.1,((dH d e f).2.2.2.2.1,())))))
def kQ (g:bU) (d:List iI) (e:List lI) (f:Int):=sub g (bY .i64 (dH d e f).2.1 1) (dH d e f).2.2.1
def kS (g:bU) (d:List iI) (e:List lI) (f:Int):=dm (sub g (dH d e f).2.1 (dH d e f).2.2.1)
def iR (d e:iD):=cu d (dm (ofBytes e))
def vX {h:Type} (g:bU) (d:List iI) (e:List lI) (f:Int) (i:iD) (j:Int->bU->iD->bU->(List iI)->(List lI)->bU->iD->Option h) (l m:bU) (o:iD):Option h:=cond (dZ (bM g) (dH d e f).2.1 (dH d e f).2.2.1) (cond (eH (cu i (kS g d e f)) 1) (j (dH d e f).2.2.1 l (cu i (kS g d e f)) g d e m o) a7) a7
def vY {p:Type} (d:List iI) (e:List lI) (g:Int) (f:bU) (i h:iD) (l:Int->bU->iD->bU->(List iI)->(List lI)->bU->iD->Option p) (m o:bU):Option p:=cond (bZ (dH d e g).1 4) (bK (qU d e g) fun j=>cond (dZ (bM f) j.1 j.2.1) (cond (gm (ofBytes i) []) (cond (eH (cu h (dm (sub f j.1 j.2.1))) 1) (l (dH d e g).2.2.1 m [] f d e o (cu h (dm (sub f j.1 j.2.1)))) a7)<|cond (eH (iR h i) 1) (cond (eH (cu (iR h i) (dm (sub f j.1 j.2.1))) 1) (l (dH d e g).2.2.1 m [] f d e o (cu (iR h i) (dm (sub f j.1 j.2.1)))) a7) a7) a7)<|cond (dZ (bM f) (bY .i64 (dH d e g).2.1 1) (dH d e g).2.2.1) (cond (!(gm (kQ f d e g) [])) (cond (!(gm (kQ f d e g) [10])) (cond (gm (ofBytes i) []) (cond (eH (cu h (dm (kQ f d e g))) 1) (l (dH d e g).2.2.1 m [] f d e o (cu h (dm (kQ f d e g)))) a7)<|cond (eH (iR h i) 1) (cond (eH (cu (iR h i) (dm (kQ f d e g))) 1) (l (dH d e g).2.2.1 m [] f d e o (cu (iR h i) (dm (kQ f d e g)))) a7) a7)<|l (dH d e g).2.2.1 m i f d e o h)<|l (dH d e g).2.2.1 m i f d e o h) a7
def vZ {e:Type} (h:AQ.den⊕AZ.den) (f:Int->bU->iD->bU->(List iI)->(List lI)->bU->iD->Option e) (g:bU->bU->(List iI)->(List lI)->bU->iD->Option e):Option e:=dO h (fun d=>cond (bZ (bM d.2.2.1) 0) (cond d.1.1 (cond d.2.1.1.2.2.1 (f d.2.1.1.1 d.2.1.2.1.1 [] d.2.2.2.2.2.2.2.1.1 d.2.2.2.2.2.2.2.1.2.1 d.2.2.2.2.2.2.2.2.1 d.2.2.2.2.2.2.2.2.2.2.1.1 d.2.2.2.2.2.2.2.2.2.2.2.1)<|g d.2.1.2.1.1 d.2.2.2.2.2.2.2.1.1 d.2.2.2.2.2.2.2.1.2.1 d.2.2.2.2.2.2.2.2.1 d.2.2.2.2.2.2.2.2.2.2.1.1 d.2.2.2.2.2.2.2.2.2.2.2.1)<|cond (eH (cu d.2.2.2.2.2.2.2.2.2.2.2.1 (dm (ofBytes d.2.2.1))) 1) (cond d.2.1.1.2.2.1 (f d.2.1.1.1 d.2.1.2.1.1 [] d.2.2.2.2.2.2.2.1.1 d.2.2.2.2.2.2.2.1.2.1 d.2.2.2.2.2.2.2.2.1 d.2.2.2.2.2.2.2.2.2.2.1.1 (cu d.2.2.2.2.2.2.2.2.2.2.2.1 (dm (ofBytes d.2.2.1))))<|g d.2.1.2.1.1 d.2.2.2.2.2.2.2.1.1 d.2.2.2.2.2.2.2.1.2.1 d.2.2.2.2.2.2.2.2.1 d.2.2.2.2.2.2.2.2.2.2.1.1 (cu d.2.2.2.2.2.2.2.2.2.2.2.1 (dm (ofBytes d.2.2.1)))) a7)<|cond (eH (cu d.2.2.2.2.2.2.2.2.2.2.2.1 (dm (ofBytes d.2.2.1))) 1) (cond d.2.1.1.2.2.1 (f d.2.1.1.1 d.2.1.2.1.1 [] d.2.2.2.2.2.2.2.1.1 d.2.2.2.2.2.2.2.1.2.1 d.2.2.2.2.2.2.2.2.1 d.2.2.2.2.2.2.2.2.2.2.1.1 (cu d.2.2.2.2.2.2.2.2.2.2.2.1 (dm (ofBytes d.2.2.1))))<|g d.2.1.2.1.1 d.2.2.2.2.2.2.2.1.1 d.2.2.2.2.2.2.2.1.2.1 d.2.2.2.2.2.2.2.2.1 d.2.2.2.2.2.2.2.2.2.2.1.1 (cu d.2.2.2.2.2.2.2.2.2.2.2.1 (dm (ofBytes d.2.2.1)))) a7) (fun i=>a7)
def wo {p:Type} (d:List iI) (e:List lI) (f:Int) (h:iD) (l g m:bU) (i:iD) (o:Int->bU->iD->bU->(List iI)->(List lI)->bU->iD->Option p) (s:bU->bU->(List iI)->(List lI)->bU->iD->Option p):Option p:=cond (bZ (dH d e f).1 5) (cond (gm (ofBytes h) []) (bK (qU d e f) fun j=>bK (lS bV j.2.1 false j.1 (dH d e f).2.2.1 true true ((dH d e f).1,((dH d e f).2.1,((dH d e f).2.2.1,((dH d e f).2.2.2.1,((dH d e f).2.2.2.2.1,()))))) l [] (dH d e f).1 (dH d e f).2.1 (dH d e f).2.2.1 (dH d e f).2.2.2.1 (dH d e f).2.2.2.2.1 h g d e m i) fun q=>vZ q o s)<|cond (eH (iR i h) 1) (bK (qU d e f) fun j=>bK (lS bV j.2.1 false j.1 (dH d e f).2.2.1 true true ((dH d e f).1,((dH d e f).2.1,((dH d e f).2.2.1,((dH d e f).2.2.2.1,((dH d e f).2.2.2.2.1,()))))) l [] (dH d e f).1 (dH d e f).2.1 (dH d e f).2.2.1 (dH d e f).2.2.2.1 (dH d e f).2.2.2.2.1 h g d e m (iR i h)) fun q=>vZ q o s) a7)<|cond (gm (ofBytes h) []) (cond (dZ (bM g) (dH d e f).2.1 (dH d e f).2.2.1) (cond (eH (cu i (kS g d e f)) 1) (o (dH d e f).2.2.1 l [] g d e m (cu i (kS g d e f))) a7) a7)<|cond (eH (iR i h) 1) (cond (dZ (bM g) (dH d e f).2.1 (dH d e f).2.2.1) (cond (eH (cu (iR i h) (kS g d e f)) 1) (o (dH d e f).2.2.1 l [] g d e m (cu (iR i h) (kS g d e f))) a7) a7) a7
def wu {o:Type} (d:List iI) (e:List lI) (f:Int) (g:bU) (h i:iD) (j:Int->bU->iD->bU->(List iI)->(List lI)->bU->iD->Option o) (l m:bU) (p:bU->bU->(List iI)->(List lI)->bU->iD->Option o):Option o:=cond (bZ (dH d e f).1 13) (cond (bZ (dH d e f).1 13) (vY d e f g h i j l m)<|wo d e f h l g m i j p)<|cond (bZ (dH d e f).1 4) (vY d e f g h i j l m)<|wo d e f h l g m i j p
def Bh {o:Type} (m:Int->bU->iD->bU->(List iI)->(List lI)->bU->iD->Option o) (s:bU->iD->bU->(List iI)->(List lI)->bU->iD->Option o) (p:bU->bU->(List iI)->(List lI)->bU->iD->Option o) (d:Int) (i:bU) (h:iD) (e:bU) (g:List iI) (f:List lI) (j:bU) (l:iD):Option o:=cond (gU d (bM e)) (cond (bZ (nN f d) 0) (cond (fO e d) (cond (gm e e) (cond (bZ d d) (cond (eH (cu h [(cO e d)]) 1) (cond (gm e e) (cond (bZ d d) (cond (fO e d) (cond (bZ (cO e d) (cO e d)) (m (bY .i64 d 1) i (cu h [(cO e d)]) e g f j l) a7) a7) a7) a7) a7) a7) a7) a7)<|cond (fO g (dV .i64 (nN f d) 1)) (bK (Wy ((dH g f d).1,((dH g f d).2.1,((dH g f d).2.2.1,((dH g f d).2.2.2.1,((dH g f d).2.2.2.2.1,())))))) fun q=>cond q.1 (cond q.1 (vX e g f d h m i j l)<|wu g f d e h l m i j p)<|cond (bZ (dH g f d).1 14) (vX e g f d h m i j l)<|wu g f d e h l m i j p) a7)<|s i h e g f j l
def jK:Nat->Int->bU->iD->bU->(List iI)->(List lI)->bU->iD->Option (Hq.den⊕Hz.den)
 |0,_,_,_,_,_,_,_,_=>a7
 |n+1,d,e,f,g,h,i,j,l=>Bh (jK n) (fun m o p q s u v=>a6 (.inl ((),((m,()),(),(),()),(o,(),(),(p,q,()),s,(),(u,()),v,(),())))) (fun x y z A B D=>a6 (.inr ((),((x,()),(),(),()),((y,z,()),A,(),(B,()),D,(),())))) d e f g h i j l
def ahH (n:Nat) (v:EU.den):=jK n v.1.1 v.2.1.1.1 v.2.2.1 v.2.2.2.2.2.1.1 v.2.2.2.2.2.1.2.1 v.2.2.2.2.2.2.1 v.2.2.2.2.2.2.2.2.1.1 v.2.2.2.2.2.2.2.2.2.1
noncomputable def SI:dG:=fQ WV EU Hq Hz (.exit 0) (ahH bV) 18
def ang (f:bU):Option YG:=bK (arX f) fun g=>bK (uT bV g.1 (bM g.1) 0 f [] f f g.1 [] []) fun i=>dO i (fun e=>bK (jK bV 0 e.2.1.1.2.1 [] e.2.2.1.1 e.2.2.1.2.1 e.2.2.2.1 e.2.1.1.2.1 e.2.2.2.2.2.1) fun j=>dO j (fun d=>cond (gm (ofBytes d.2.2.1) []) (cond (bZ (bM d.2.2.2.2.2.2.2.2.2.1) (bM d.2.2.2.2.2.2.2.2.2.1)) (a6 ((ofBytes d.2.2.2.2.2.2.2.2.2.1),())) a7)<|cond (eH (cu d.2.2.2.2.2.2.2.2.2.1 (dm (ofBytes d.2.2.1))) 1) (cond (bZ (bM (cu d.2.2.2.2.2.2.2.2.2.1 (dm (ofBytes d.2.2.1)))) (bM (cu d.2.2.2.2.2.2.2.2.2.1 (dm (ofBytes d.2.2.1))))) (a6 ((ofBytes (cu d.2.2.2.2.2.2.2.2.2.1 (dm (ofBytes d.2.2.1)))),())) a7) a7) (fun h=>cond (bZ (bM h.2.2.2.2.2.2.1) (bM h.2.2.2.2.2.2.1)) (a6 ((ofBytes h.2.2.2.2.2.2.1),())) a7)) (fun l=>a7)
def aLS:Sum:=⟨[.str],tzG,fun x=>ang x.1⟩
noncomputable def Gv:Env:=gZ prog tt [(67,aBM),(112,ame),(154,amh)] [(68,3,aam),(109,4,WV),(114,5,WW),(183,500004,anK),(183,600002,anG),(183,600004,aDA),(183,600005,Uf),(109,600005,Sm),(109,600016,qi),(109,600017,N7),(109,600019,qi),(109,600010,qi),(109,600020,aki),(110,600003,Sr),(114,600006,Su),(114,600016,N8),(114,600007,Sv),(114,600009,Sz),(114,600020,N9),(70,600001,zt)] [(68,3,Xo),(114,5,SK),(109,4,SI)] [183]
def X9 {d:Type} (a:Jl.den->Option d) (b:LZ.den->Option d) (c:Mc.den->Option d) (v:Jl.den):Option d:=FH (fun e f g h i j l m o p=>a ((e,f,g,()),((h,i,j,()),(),()),((l,m,()),o,(),p,()))) (fun q s u x y z A=>b ((),((q,s,u,()),(),()),((x,y,()),z,(),A,()))) (bj c) v.1.1 v.1.2.1 v.1.2.2.1 v.2.1.1.1 v.2.1.1.2.1 v.2.1.1.2.2.1 v.2.2.1.1 v.2.2.1.2.1 v.2.2.2.1 v.2.2.2.2.2.1
theorem akJ:dY Gv 68 ZL Xo:=lT (X9) (h2:=by intros;simp only[X9,bj,FH,dw,dA,bJ,dh,dB])
def Tz {d:Type} (a:EW.den->Option d) (b:AQ.den->Option d) (c:AZ.den->Option d) (v:EW.den):Option d:=bk (Bi (fun e f g h i j l m o p q s u x y z A B D E=>a ((e,f,g,()),((h,i,j,l,()),(m,()),(),(),()),(o,(p,q,s,u,x,()),y,(),(),(z,A,()),B,(),(D,()),E,(),()))) (fun G I J K L M N O S U V W X Y Z ab ad ae=>b ((G,()),((I,J,K,L,()),(M,()),(),(),()),(N,(O,S,U,V,W,()),X,(),(),(Y,Z,()),ab,(),(ad,()),ae,(),()))) (bj c)) v
theorem ah0:dY Gv 114 VV SK:=lT (Tz) (h2:=by intros;simp only[Tz,bj,bk,Bi,dw,dA,bJ,dh,dB,fP,iZ,kT,oC,oD])
def Tv {d:Type} (a:EU.den->Option d) (b:Hq.den->Option d) (c:Hz.den->Option d) (v:EU.den):Option d:=Bh (fun e f g h i j l m=>a ((e,()),((f,()),(),(),()),(g,(),(),(h,i,()),j,(),(l,()),m,(),()))) (fun o p q s u x y=>b ((),((o,()),(),(),()),(p,(),(),(q,s,()),u,(),(x,()),y,(),()))) (bj c) v.1.1 v.2.1.1.1 v.2.2.1 v.2.2.2.2.2.1.1 v.2.2.2.2.2.1.2.1 v.2.2.2.2.2.2.1 v.2.2.2.2.2.2.2.2.1.1 v.2.2.2.2.2.2.2.2.2.1
theorem ahZ:dY Gv 109 VU SI:=lT (Tv) (h2:=by intros;simp only[Tv,bj,Bh,dw,dA,bJ,dh,dB,dH,qU,kQ,kS,iR,vX,vY,vZ,wo,wu])
theorem aJf:jk abB=[]:=by kernel_rfl
theorem aLh:jY abB=[(cA (cA (cB (cA (cB (cB (abB)))))),cB (cA (cB (cA (cB (cB (abB)))))))]:=by kernel_rfl
theorem aJE:dR Gv 183 abB:=sG abB (by rw[aLh];exact(aD (fun _=>(show uq 183 4=a6 (cA (cA (cB (cA (cB (cB (abB)))))),cB (cA (cB (cA (cB (cB (abB))))))) by kernel_rfl)) aN)) (by rw[aJf];exact aN)
theorem asc:dR Gv 68 abC:=oq [ZL] (aD (fM (akJ)) aN)
theorem akr:dR Gv 109 VK:=oq [VU] (aD (fM (ahZ)) aN)
theorem aks:dR Gv 114 VL:=oq [VV] (aD (fM (ah0)) aN)
theorem ark:fH Gv:=eB (aD YC (aD aaZ (aD aa6 aN))) [183,68,109,114] (aD ⟨f183,abB,by kernel_rfl,by kernel_rfl,aJE⟩ (aD ⟨f68,abC,by kernel_rfl,by kernel_rfl,asc⟩ (aD ⟨f109,VK,by kernel_rfl,by kernel_rfl,akr⟩ (aD ⟨f114,VL,by kernel_rfl,by kernel_rfl,aks⟩ aN))))
theorem ato:dX prog 183 aLS:=sA ark
def am4 (g:bU) (h:Int) (d:Int×J3×oJ):Option ((Int×J3×oJ)×Unit):=bK (uG d.2.1) fun f=>cond (bZ h 1) (a6 ((d.1,(f.1,(false,()))),()))<|cond (bZ h 2) (a6 ((0,(f.1,((gU 0 (bM f.1)),()))),()))<|cond (bZ h 4) (bK (NK g) fun e=>cond (bZ e.1 4) (a6 ((e.1,(f.1,(false,()))),()))<|cond (bZ e.1 5) (a6 ((e.1,(f.1,(false,()))),()))<|some ((0,(f.1,(false,()))),()))<|cond (bZ h 6) (cond (!(bZ d.1 0)) (bK (ang g) fun e=>cond (gm g g) (cond (bZ d.1 d.1) (cond (jP (bZ d.1 5) (bZ d.1 5)) (cond (((gm g g)&&true)&&((gm e.1 e.1)&&true)) (cond (eH (cu f.1 [(e.1,((bZ d.1 5),()))]) 24) (cond (gm g g) (cond (bZ d.1 d.1) (cond (jP (bZ d.1 5) (bZ d.1 5)) (cond ((gm e.1 e.1)&&((jP (bZ d.1 5) (bZ d.1 5))&&true)) (a6 ((0,((cu f.1 [(e.1,((bZ d.1 5),()))]),(false,()))),())) a7) a7) a7) a7) a7) a7) a7) a7) a7)<|some ((0,(f.1,(false,()))),()))<|some ((0,(f.1,(false,()))),())
def aLH:Sum:=⟨[.str,cZ,.pair cZ tyN],[(.pair cZ tyN,false)],fun x=>am4 x.1 x.2.1 x.2.2.1⟩
theorem as9:dX prog 147 aLH:=qA f147 [] (sE zM (sE JH (sE ato aN)))
def ab7 (d:Int×J3×oJ):Option taV:=cond ((bZ d.1 d.1)&&((oV Iy d.2.1 d.2.1)&&((jP d.2.2.1 d.2.2.1)&&true))) (a6 ((0,(0,(0,(false,())))),((d.1,(d.2.1,(d.2.2.1,()))),()))) a7
def ab8 (e:bU) (h:Int) (f:Int×J3×oJ):Option taV:=bK (am3 e h) fun d=>cond (dZ (bM e) d.1.2.1 d.1.2.2.1) (bK (am4 (sub e d.1.2.1 d.1.2.2.1) d.1.1 (f.1,(f.2.1,(f.2.2.1,())))) fun g=>cond ((bZ d.1.1 d.1.1)&&((bZ d.1.2.1 d.1.2.1)&&((bZ d.1.2.2.1 d.1.2.2.1)&&((jP d.1.2.2.2.1 d.1.2.2.2.1)&&true)))) (cond (gm e e) (cond (bZ d.1.2.1 d.1.2.1) (cond (bZ d.1.2.2.1 d.1.2.2.1) (cond (gm e e) (cond (bZ d.1.2.1 d.1.2.1) (cond (bZ d.1.2.2.1 d.1.2.2.1) (cond (dZ (bM e) d.1.2.1 d.1.2.2.1) (cond (gm (sub e d.1.2.1 d.1.2.2.1) (sub e d.1.2.1 d.1.2.2.1)) (cond (bZ d.1.1 d.1.1) (cond ((bZ f.1 f.1)&&((oV Iy f.2.1 f.2.1)&&((jP f.2.2.1 f.2.2.1)&&true))) (a6 ((d.1.1,(d.1.2.1,(d.1.2.2.1,(d.1.2.2.2.1,())))),((g.1.1,(g.1.2.1,(g.1.2.2.1,()))),()))) a7) a7) a7) a7) a7) a7) a7) a7) a7) a7) a7) a7
def agL (g:bU) (f:Int) (d:Int×J3×oJ):Option taV:=cond (gU f 0) (ab7 d)<|cond (leI (bM g) f) (ab7 d)<|cond d.2.2.1 (cond (gU 0 (bM d.2.1)) (bK (aw5 g f (d.1,(d.2.1,(d.2.2.1,())))) fun e=>a6 ((e.1.1,(e.1.2.1,(e.1.2.2.1,(e.1.2.2.2.1,())))),((e.2.1.1,(e.2.1.2.1,(e.2.1.2.2.1,()))),())))<|ab8 g f d)<|ab8 g f d
def amc:Sum:=⟨[.str,cZ,.pair cZ tyN],tzI,fun x=>agL x.1 x.2.1 x.2.2.1⟩
theorem aaY:dX prog 105 amc:=qA f105 [] (sE as7 (sE as8 (sE as9 aN)))
noncomputable def b58:Code:=(f58.body).getD .skip
noncomputable def abH:Code:=(f139.body).getD .skip
noncomputable def ZP:Code:=cA (cA (cB (cB (cB (abH)))))
def aar:eY:=⟨[0,1,3,4,5,140000003],[(100000501,.pair (.list .unit) (.pair .unit Iy)),(300000301,.pair (.list .unit) (.pair .unit Iy))],[],[],[],[]⟩
def aJb:eY:=⟨[2,3,4,5],[],[],[],[],[]⟩
def aI7:eY:=⟨[0,2,3,4,5],[],[],[],[],[]⟩
def akj:eY:=⟨[0,1,3,4],[],[],[],[],[]⟩
def Jp:SQ:=⟨us [.yld 1700010,em,.u,fe,.ptr 3000004 0,cg] 18,[dr,[.yld 1700010],[]],[.box 3000004 66 [cg,cg,cg,co],.box 3000003 105 cQ,.box 2000001 9 [ci],.lp 1700010 58 (dr) [10,11] 6 0 a7,.arr 1500004 Gp,er,.box 1000004 67 [.slc 1500004],d7]⟩
def L8:SQ:=⟨us [] 24,[dr,[.yld 1700010],[]],[.box 2000001 9 [ci],.lp 1700010 58 (dr) [10,11] 6 0 a7,.arr 1500004 Gp,er,.box 1000004 67 [.slc 1500004],d7]⟩
def Me:SQ:=⟨us [] 24,[dr,[.yld 1700010],[]],[]⟩
def FO {e:Type} (l:Int->Int->Int->Int->Bool->Int->J3->Bool->bU->(List oG)->Int->J3->Bool->Int->Bool->Option e) (m:bU->(List oG)->Int->J3->Bool->Int->Bool->Option e) (x:Option e) (h y z A:Int) (B:Bool) (o:Int) (p:J3) (q:Bool) (f:bU) (g:List oG) (s:Int) (u:J3) (v:Bool) (i:Int) (j:Bool):Option e:=cond (gU h (bM f)) (bK (agL f h (o,(p,(q,())))) fun d=>cond ((bZ d.2.1.1 d.2.1.1)&&((oV Iy d.2.1.2.1 d.2.1.2.1)&&((jP d.2.1.2.2.1 d.2.1.2.2.1)&&true))) (cond (eH (cu g [(d.1.1,(d.1.2.1,(d.1.2.2.1,(d.1.2.2.2.1,()))))]) 32) (cond ((bZ d.1.1 d.1.1)&&((bZ d.1.2.1 d.1.2.1)&&((bZ d.1.2.2.1 d.1.2.2.1)&&((jP d.1.2.2.2.1 d.1.2.2.2.1)&&true)))) (cond ((bZ d.2.1.1 d.2.1.1)&&((oV Iy d.2.1.2.1 d.2.1.2.1)&&((jP d.2.1.2.2.1 d.2.1.2.2.1)&&true))) (cond ((bZ d.2.1.1 d.2.1.1)&&((oV Iy d.2.1.2.1 d.2.1.2.1)&&((jP d.2.1.2.2.1 d.2.1.2.2.1)&&true))) (l d.1.2.2.1 d.1.1 d.1.2.1 d.1.2.2.1 d.1.2.2.2.1 d.2.1.1 d.2.1.2.1 d.2.1.2.2.1 f (cu g [(d.1.1,(d.1.2.1,(d.1.2.2.1,(d.1.2.2.2.1,()))))]) d.2.1.1 d.2.1.2.1 d.2.1.2.2.1 i j) a7) a7) a7) a7) a7)<|m f g s u v i j
def uU:Nat->Int->Int->Int->Int->Bool->Int->J3->Bool->bU->(List oG)->Int->J3->Bool->Int->Bool->Option (L8.den⊕Me.den)
 |0,_,_,_,_,_,_,_,_,_,_,_,_,_,_,_=>a7
 |n+1,d,e,f,g,h,i,j,l,m,o,p,q,s,u,v=>FO (uU n) (fun x y z A B D E=>a6 (.inl ((),((),(),(),()),((x,()),(),y,(z,A,B,()),(),(D,E,()),())))) (a6 (.inr ((),((),(),(),()),()))) d e f g h i j l m o p q s u v
def akF (n:Nat) (v:Jp.den):=bl (uU n) v
noncomputable def Xt:dG:=fQ aar Jp L8 Me (.exit 0) (akF bV) 6
def aDb (e:bU):Option ((List oG)×(Int×J3×oJ)×Unit):=bK (uU bV 0 0 0 0 false 0 [] false e [] 0 [] false 0 false) fun f=>dO f (fun d=>a6 (d.2.2.2.2.1,((d.2.2.2.2.2.1.1,(d.2.2.2.2.2.1.2.1,(d.2.2.2.2.2.1.2.2.1,()))),()))) (fun g=>a7)
def aHx:Sum:=⟨[.str],[(.list Gp,false),(.pair cZ tyN,false)],fun x=>aDb x.1⟩
noncomputable def amQ:Env:=gZ prog tt [(105,amc)] [(139,3,aar),(58,500006,aJb),(58,600003,aI7),(139,600006,akj)] [(139,3,Xt)] [58]
def Yd {d:Type} (a:Jp.den->Option d) (b:L8.den->Option d) (c:Me.den->Option d) (v:Jp.den):Option d:=bl (FO (fun e f g h i j l m o p q s u x y=>a ((e,()),((),(),(),()),((f,g,h,i,()),(j,l,m,()),(o,()),(),p,(q,s,u,()),(),(x,y,()),()))) (fun z A B D E G I=>b ((),((),(),(),()),((z,()),(),A,(B,D,E,()),(),(G,I,()),()))) (c ((),((),(),(),()),()))) v
theorem akN:dY amQ 139 ZP Xt:=lT (Yd) (h2:=by intros;simp only[Yd,bl,FO,dw,dA,bJ,dh,dB])
theorem aNa:jk b58=[]:=by kernel_rfl
theorem aN2:jY b58=[(cA (cA (cB (cA (cB (cB (cB (b58))))))),cB (cA (cB (cA (cB (cB (cB (b58))))))))]:=by kernel_rfl
theorem aNA:dR amQ 58 b58:=sG b58 (by rw[aN2];exact(aD (fun _=>(show uq 58 6=a6 (cA (cA (cB (cA (cB (cB (cB (b58))))))),cB (cA (cB (cA (cB (cB (cB (b58)))))))) by kernel_rfl)) aN)) (by rw[aNa];exact aN)
theorem asi:dR amQ 139 abH:=oq [ZP] (aD (fM (akN)) aN)
theorem avW:fH amQ:=eB (aD aaY aN) [58,139] (aD ⟨f58,b58,by kernel_rfl,by kernel_rfl,aNA⟩ (aD ⟨f139,abH,by kernel_rfl,by kernel_rfl,asi⟩ aN))
theorem aBI:dX prog 58 aHx:=sA avW
def am7 (e:bU) (d:oG):Option YG:=cond (gU d.2.1 0) (a6 ([],()))<|cond (gU d.2.2.1 d.2.1) (a6 ([],()))<|cond (gU (bM e) d.2.2.1) (a6 ([],()))<|cond (dZ (bM e) d.2.1 d.2.2.1) (a6 ((sub e d.2.1 d.2.2.1),())) a7
def aAZ:Sum:=⟨[.str,Gp],tzG,fun x=>am7 x.1 x.2.1⟩
theorem atc:dX prog 157 aAZ:=qA f157 [] aN
noncomputable def aMt:Code:=(f117.body).getD .skip
noncomputable def aun:Code:=cA (cA (cB (cA (cB (aMt)))))
def axH:eY:=⟨[0,4,7,8,9,100002],[(4,tyD)],[4],[],[4],[]⟩
def ac8:SP:=⟨us [ci,.u,.u,.u,eC,.u,.u,eJ,cg,cg] 42,[.arr 1800004 tyD]⟩
def adP:SP:=⟨us [.u,.u,.u,.u,eC] 47,[.arr 1800004 tyD]⟩
def aep:SP:=⟨us [.u,.u,.u,.u,.v pV] 47,[]⟩
def fF (d:List oG) (e:Int):=dQ d (0,(0,(0,(false,())))) e
def sO (d:List oG) (e:Int):=bZ (fF d e).2.2.1 (fF d e).2.2.1
def sQ (d:List oG) (e:Int):=bZ (fF d e).2.1 (fF d e).2.1
def yK {h:Type} (f:bU) (d:List oG) (e:Int) (i:List gQ) (j:bU->(List oG)->Int->Int->(List gQ)->Option h) (l:Int):Option h:=bK (am7 f ((fF d e).1,((fF d e).2.1,((fF d e).2.2.1,((fF d e).2.2.2.1,()))))) fun g=>cond (bZ (fF d e).1 (fF d e).1) (cond (gm f f) (cond ((bZ (fF d e).1 (fF d e).1)&&((sQ d e)&&((sO d e)&&((jP (fF d e).2.2.2.1 (fF d e).2.2.2.1)&&true)))) (cond (sQ d e) (cond (sO d e) (cond (((gm f f)&&(((bZ (fF d e).1 (fF d e).1)&&((sQ d e)&&((sO d e)&&((jP (fF d e).2.2.2.1 (fF d e).2.2.2.1)&&true))))&&true))&&((gm g.1 g.1)&&true)) (cond (eH (cu i [((fF d e).1,(g.1,((fF d e).2.1,((fF d e).2.2.1,()))))]) 40) (cond (bZ (fF d e).1 (fF d e).1) (cond (gm f f) (cond ((bZ (fF d e).1 (fF d e).1)&&((sQ d e)&&((sO d e)&&((jP (fF d e).2.2.2.1 (fF d e).2.2.2.1)&&true)))) (cond (sQ d e) (cond (sO d e) (cond ((bZ (fF d e).1 (fF d e).1)&&((gm g.1 g.1)&&((sQ d e)&&((sO d e)&&true)))) (j f d l (bY .i64 e 1) (cu i [((fF d e).1,(g.1,((fF d e).2.1,((fF d e).2.2.1,()))))])) a7) a7) a7) a7) a7) a7) a7) a7) a7) a7) a7) a7) a7
def UU {j:Type} (i:bU->(List oG)->Int->Int->(List gQ)->Option j) (l m:(List gQ)->Option j) (f:bU) (e:List oG) (g d:Int) (h:List gQ):Option j:=cond (gU d g) (cond (fO e d) (cond (gU (fF e d).2.1 0) (i f e g (bY .i64 d 1) h)<|cond (gU (fF e d).2.2.1 (fF e d).2.1) (i f e g (bY .i64 d 1) h)<|cond (gU (bM f) (fF e d).2.2.1) (i f e g (bY .i64 d 1) h)<|cond (bZ (fF e d).1 4) (cond (bZ (fF e d).1 4) (yK f e d h i g)<|i f e g (bY .i64 d 1) h)<|cond (bZ (fF e d).1 5) (cond (bZ (fF e d).1 5) (yK f e d h i g)<|i f e g (bY .i64 d 1) h)<|cond (bZ (fF e d).1 6) (cond (bZ (fF e d).1 6) (yK f e d h i g)<|i f e g (bY .i64 d 1) h)<|cond (bZ (fF e d).1 2) (yK f e d h i g)<|i f e g (bY .i64 d 1) h) a7)<|l h
def Aw:Nat->bU->(List oG)->Int->Int->(List gQ)->Option (adP.den⊕aep.den)
 |0,_,_,_,_,_=>a7
 |n+1,d,e,f,g,h=>UU (Aw n) (fun i=>a6 (.inl ((),(i,())))) (fun j=>a6 (.inr ((j,()),()))) d e f g h
def aDP (n:Nat) (v:ac8.den):=bc (Aw n) v
noncomputable def anU:dG:=fK axH ac8 adP aep (.exit 0) (aDP bV) 6
def Z9 (e:bU) (d:List oG):Option ((List gQ)×Unit):=bK (Aw bV e d (bM d) 0 []) fun f=>dO f (fun g=>a6 (g.2.1,())) (fun h=>a7)
def aAJ:Sum:=⟨[.str,.list Gp],[(.list tyD,true)],fun x=>Z9 x.1 x.2.1⟩
noncomputable def ajk:Env:=iW prog tt 117 [(157,aAZ)] [(2,axH)] [(2,anU)]
def aps {d:Type} (a:ac8.den->Option d) (b:adP.den->Option d) (c:aep.den->Option d) (v:ac8.den):Option d:=bc (UU (fun e f g h i=>a ((e,f,g,h,()),(i,()))) (fun j=>b ((),(j,()))) (aE c)) v
theorem aEA:dY ajk 117 aun anU:=uz (aps) (h2:=by intros;simp only[aps,aE,bc,UU,dw,dA,bJ,dh,dB,fF,sO,sQ,yK])
theorem aJk:dR ajk 117 aMt:=oq [aun] (aD (fM (aEA)) aN)
theorem aqX:fH ajk:=eA f117 (aD atc aN) (aJk)
theorem asP:dX prog 117 aAJ:=sA aqX
end
end Go.Proofs.YtdfhjhkcjecmlaaGreatDoor
