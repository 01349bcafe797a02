/- Parts of the proof, joined and shortened by a program: the plain machine, the functions as it prints them, and the mathematics over them. -/
import Derived.Test.YtjgoejaajmhllaaGreatDoorZ3
import Derived.Test.YtjgoejaajmhllaaGreatDoorZ4
set_option linter.unusedVariables false
set_option linter.unusedSimpArgs false
set_option maxRecDepth 100000
set_option maxHeartbeats 4000000
namespace Go.Proofs.YtjgoejaajmhllaaGreatDoor
section
open Option renaming some → a6, none → a7
open Tryz
open Go.RowKit
def awR (h:bQ) (g:Int) (d:Int×Iq×nH):Option taR:=cond (fV d.2.1 0) (bz (arK h g (gu d.2.1 ([],(false,())) 0)) fun f=>cond (!f.2.1) (cond ((bJ d.1 d.1)&&((mg D5 d.2.1 d.2.1)&&((ja d.2.2.1 d.2.2.1)&&true))) (a6 ((7,(g,(f.1,((!f.2.1),())))),((d.1,(d.2.1,(d.2.2.1,()))),()))) a7)<|cond (eG (bD d.2.1) 1 (bD d.2.1)) (bz (uq (sub d.2.1 1 (bD d.2.1))) fun e=>cond (bJ d.1 d.1) (cond (bJ (bD e.1) (bD e.1)) (cond (ja (gJ 0 (bD e.1)) (gJ 0 (bD e.1))) (cond ((bJ d.1 d.1)&&((ja (gJ 0 (bD e.1)) (gJ 0 (bD e.1)))&&true)) (a6 ((7,(g,(f.1,((!f.2.1),())))),((d.1,(e.1,((gJ 0 (bD e.1)),()))),()))) a7) a7) a7) a7) a7) a7
def aCn:Sum:=⟨[.str,dw,.pair dw tyM],tzH,fun x=>awR x.1 x.2.1 x.2.2.1⟩
theorem aqf:dE prog 64 aCn:=qA f64 [] (sE aqp (sE xC aN))
def YX (d:iO):Option nH:=cond (bJ d.1 12) (a6 ((bJ d.2.2.1 (bZ .i64 d.2.1 1)),()))<|some (false,())
def apD:Sum:=⟨[F6],Ip,fun x=>YX x.1⟩
theorem ai4:dE prog 185 apD:=qA f185 [] aN
def UD (d:iO):Option lZ:=cond d.2.2.2.2.1 (a6 ((bZ .i64 d.2.1 2),((zu (ed .i64 d.2.2.1 0) (bZ .i64 d.2.1 2)),())))<|some ((bZ .i64 d.2.1 2),((zu (ed .i64 d.2.2.1 1) (bZ .i64 d.2.1 2)),()))
def aev (d:iO):Option lZ:=cond d.2.2.2.2.1 (a6 ((bZ .i64 d.2.1 1),((zu (ed .i64 d.2.2.1 0) (bZ .i64 d.2.1 1)),())))<|some ((bZ .i64 d.2.1 1),((zu (ed .i64 d.2.2.1 0) (bZ .i64 d.2.1 1)),()))
def aew (d:iO):Option lZ:=cond d.2.2.2.2.1 (a6 ((bZ .i64 d.2.1 1),((zu (ed .i64 d.2.2.1 0) (bZ .i64 d.2.1 1)),())))<|some ((bZ .i64 d.2.1 1),((zu (ed .i64 d.2.2.1 1) (bZ .i64 d.2.1 1)),()))
def UE (d:iO):Option lZ:=cond (bJ d.1 9) (cond d.2.2.2.2.1 (a6 ((bZ .i64 d.2.1 3),((zu (ed .i64 d.2.2.1 0) (bZ .i64 d.2.1 3)),())))<|some ((bZ .i64 d.2.1 3),((zu (ed .i64 d.2.2.1 2) (bZ .i64 d.2.1 3)),())))<|cond (bJ d.1 13) (cond (bJ d.1 13) (aev d)<|aew d)<|cond (bJ d.1 12) (aev d)<|aew d
def aeu (d:iO):Option lZ:=cond (bJ d.1 1) (cond (bJ d.1 1) (UD d)<|UE d)<|cond (bJ d.1 7) (cond (bJ d.1 7) (UD d)<|UE d)<|cond (bJ d.1 8) (UD d)<|UE d
def apI:Sum:=⟨[F6],tzI,fun x=>aeu x.1⟩
theorem ajd:dE prog 210 apI:=qA f210 [] aN
noncomputable def b98:Code:=(f98.body).getD .skip
noncomputable def TW:Code:=(f142.body).getD .skip
noncomputable def TY:Code:=(f182.body).getD .skip
noncomputable def TZ:Code:=(f187.body).getD .skip
noncomputable def Q8:Code:=cA (cA (cB (cA (cB (cB (TW))))))
noncomputable def Q9:Code:=cA (cA (cB (cA (cB (cB (cB (cA (cB (TY)))))))))
noncomputable def Rf:Code:=cA (cA (cB (cA (cB (cB (cB (cB (TZ))))))))
def RQ:dZ:=⟨[3,15,16,17,143000003],[],[3],[],[2],[]⟩
def RS:dZ:=⟨[1,2,3,4,5,183000004],[(300000300,.pair (.list .unit) (.int .u8))],[4],[],[],[]⟩
def RU:dZ:=⟨[0,2,8,9,10,11,128000005],[(9,(.int .u8))],[2,9,10],[],[6],[]⟩
def aw8:dZ:=⟨[2,3],[],[],[],[],[]⟩
def aw4:dZ:=⟨[0,2,3],[],[],[],[],[]⟩
def aw5:dZ:=⟨[3,4],[],[],[],[],[]⟩
def UT:dZ:=⟨[3],[],[],[],[],[]⟩
def abR:dZ:=⟨[1,2,3,4,5],[],[],[],[],[]⟩
def AU:dZ:=⟨[1,2,3,4,5,6],[],[],[],[],[]⟩
def Zk:dZ:=⟨[1,2,3,4,5,8,9],[],[],[],[],[]⟩
def abS:dZ:=⟨[1,3],[],[],[],[],[]⟩
def abT:dZ:=⟨[0,2,8,9,10,11],[],[],[],[],[]⟩
def Zl:dZ:=⟨[0,2,8,9,10,12],[],[],[],[],[]⟩
def abU:dZ:=⟨[0,2,8,9,12],[],[],[],[],[]⟩
def abV:dZ:=⟨[0,2,8,12],[],[],[],[],[]⟩
def Zm:dZ:=⟨[2,9],[],[],[],[],[]⟩
def Dp:SQ:=⟨us [.u,.u,.u,cS,.u,.u,.u,.u,.u,.u,.u,.u,.u,.u,.u,.v QT,bE,bE] 14,[us [bB,.u,bB,cD,.u,bB] 7,[]],[cq,cQ,bN,ck]⟩
def Fq:SQ:=⟨us [.u,.u,.u,cS] 28,[us [bB,.u,bB,cD,.u,bB] 7,[]],[cq,cQ,bN,ck]⟩
def FH:SQ:=⟨us [] 112,[ca,cK,[]],b6⟩
def zU {e:Type} (q:(List iO)->Int->Int->bQ->bQ->bQ->bQ->(List iO)->(List rD)->iU->Option e) (s:bQ->bQ->bQ->bQ->(List iO)->(List rD)->iU->Option e) (u:bQ->bQ->(List iO)->(List rD)->bQ->iU->Option e) (f:List iO) (g d:Int) (h i j l:bQ) (m:List iO) (o:List rD) (p:iU):Option e:=cond (gJ d g) (cond (fV f d) (q f g (bZ .i64 d 1) h i j l m (rQ o (gu f (0,(0,(0,(0,(false,()))))) d).2.1 (bZ .i64 d 1)) p) a7)<|s h i j l m o p
def pU:Nat->(List iO)->Int->Int->bQ->bQ->bQ->bQ->(List iO)->(List rD)->iU->Option (Fq.den⊕FH.den)
 |0,_,_,_,_,_,_,_,_,_,_=>a7
 |n+1,d,e,f,g,h,i,j,l,m,o=>zU (pU n) (fun p q s u v x y=>a6 (.inl ((),((p,q,s,()),(),()),((u,v,()),x,(),y,())))) (fun z A B D E G=>a6 (.inr ((),((z,()),(),(),()),((A,B,()),D,(),(E,()),G,(),())))) d e f g h i j l m o
def ace (n:Nat) (v:Dp.den):=pU n v.1.1 v.1.2.1 v.1.2.2.1 v.2.1.1.1 v.2.1.1.2.1 v.2.1.1.2.2.1 v.2.2.1.1 v.2.2.1.2.1 v.2.2.2.1 v.2.2.2.2.2.1
noncomputable def Oy:dm:=fQ RQ Dp Fq FH (.exit 0) (ace bG) 6
def Dt:SQ:=⟨us [cS,.u,.yld 1700008,.u,.u,.u,.u,.u,bE,.slc 4800009,bX,bE] 83,[bO,ca,cK,[]],b9⟩
def zF:SQ:=⟨us [.u,.u,.yld 1700008,.u,.u,.u,.u,.u,.u,.slc 4800009,bX] 84,[bO,ca,cK,[]],b9⟩
def zI:SQ:=⟨us [] 112,[ca,cK,[]],b6⟩
def eH (d:List iO) (e:List rD) (f:Int):=gu d (0,(0,(0,(0,(false,()))))) (ed .i64 (oh e f) 1)
def iI (d:bQ) (e:List iO) (f:List rD) (g:Int):=bK d (bZ .i64 (eH e f g).2.1 1)
def kw (g:bQ) (d:List iO) (e:List rD) (f:Int):=cZ (sub g (eH d e f).2.1 (eH d e f).2.2.1)
def mO {h:Type} (i:iU) (f:bQ) (d:List iO) (e:List rD) (g:Int) (j:Int->Bool->Int->Int->Bool->Bool->iO->bQ->iU->Int->Int->Int->Int->Bool->iU->bQ->(List iO)->(List rD)->bQ->iU->Option h) (l:Int) (m:Bool) (o:Int) (p q:Bool) (s:iO) (u:bQ) (v x y z:Int) (A:Bool) (B:iU) (D:bQ) (E:iU):Option h:=cond (dN (bP i (cZ (ofBytes [(iI f d e g)]))) 1) (j l m (eH d e g).2.2.1 o p q s u (bP i (cZ (ofBytes [(iI f d e g)]))) v x y z A B f d e D E) a7
def mP {i:Type} (g:bQ) (d:List iO) (e:List rD) (f:Int) (h:iU) (j:Int->Bool->Int->Int->Bool->Bool->iO->bQ->iU->Int->Int->Int->Int->Bool->iU->bQ->(List iO)->(List rD)->bQ->iU->Option i) (l:Int) (m:Bool) (o:Int) (p q:Bool) (s:iO) (u:bQ) (v x y z:Int) (A:Bool) (B:iU) (D:bQ) (E:iU):Option i:=cond (bJ (iI g d e f) 10) (cond (dN (bP h (cZ [])) 1) (j l m (eH d e f).2.2.1 o p q s u (bP h (cZ [])) v x y z A B g d e D E) a7)<|cond (eG (bD g) (eH d e f).2.1 (eH d e f).2.2.1) (cond (dN (bP h (kw g d e f)) 1) (j l m (eH d e f).2.2.1 o p q s u (bP h (kw g d e f)) v x y z A B g d e D E) a7) a7
def zW {E:Type} (B:Int->Bool->Int->Int->Bool->Bool->iO->bQ->iU->Int->Int->Int->Int->Bool->iU->bQ->(List iO)->(List rD)->bQ->iU->Option E) (G:Bool->Int->Bool->Bool->iO->bQ->iU->Int->Int->Int->Int->Bool->iU->bQ->(List iO)->(List rD)->bQ->iU->Option E) (J:bQ->bQ->(List iO)->(List rD)->bQ->iU->Option E) (j:Int) (D:Bool) (d l:Int) (m o:Bool) (p:iO) (q:bQ) (h:iU) (s u v x:Int) (y:Bool) (z:iU) (g:bQ) (f:List iO) (e:List rD) (A:bQ) (i:iU):Option E:=cond (gJ d j) (cond (bJ (oh e d) 0) (cond (fV g d) (cond (dN (bP h [(bK g d)]) 1) (B j D (bZ .i64 d 1) l m o p q (bP h [(bK g d)]) s u v x y z g f e A i) a7) a7)<|cond (fV f (ed .i64 (oh e d) 1)) (bz (YX ((eH f e d).1,((eH f e d).2.1,((eH f e d).2.2.1,((eH f e d).2.2.2.1,((eH f e d).2.2.2.2.1,())))))) fun I=>cond I.1 (cond (fV g d) (cond (dN (bP h [(bK g d)]) 1) (B j D (bZ .i64 d 1) l m o p q (bP h [(bK g d)]) s u v x y z g f e A i) a7) a7)<|cond (bJ (eH f e d).1 13) (cond (gJ (ed .i64 (eH f e d).2.2.1 (eH f e d).2.1) 2) (cond (dN (bP h (cZ [])) 1) (B j D (eH f e d).2.2.1 l m o p q (bP h (cZ [])) s u v x y z g f e A i) a7)<|cond (fV g (bZ .i64 (eH f e d).2.1 1)) (cond (bJ (iI g f e d) 36) (cond (bJ (iI g f e d) 36) (mO h g f e d B j D l m o p q s u v x y z A i)<|mP g f e d h B j D l m o p q s u v x y z A i)<|cond (bJ (iI g f e d) 96) (cond (bJ (iI g f e d) 96) (mO h g f e d B j D l m o p q s u v x y z A i)<|mP g f e d h B j D l m o p q s u v x y z A i)<|cond (bJ (iI g f e d) 34) (cond (bJ (iI g f e d) 34) (mO h g f e d B j D l m o p q s u v x y z A i)<|mP g f e d h B j D l m o p q s u v x y z A i)<|cond (bJ (iI g f e d) 92) (mO h g f e d B j D l m o p q s u v x y z A i)<|mP g f e d h B j D l m o p q s u v x y z A i) a7)<|cond (gJ 0 (bD h)) (cond (dN (bP i (cZ (ofBytes h))) 1) (cond (eG (bD g) (eH f e d).2.1 (eH f e d).2.2.1) (cond (dN (bP (bP i (cZ (ofBytes h))) (kw g f e d)) 1) (B j true (eH f e d).2.2.1 l m o p q [] s u v x y z g f e A (bP (bP i (cZ (ofBytes h))) (kw g f e d))) a7) a7) a7)<|cond (eG (bD g) (eH f e d).2.1 (eH f e d).2.2.1) (cond (dN (bP i (kw g f e d)) 1) (B j true (eH f e d).2.2.1 l m o p q [] s u v x y z g f e A (bP i (kw g f e d))) a7) a7) a7)<|G D l m o p q h s u v x y z g f e A i
def lu:Nat->Int->Bool->Int->Int->Bool->Bool->iO->bQ->iU->Int->Int->Int->Int->Bool->iU->bQ->(List iO)->(List rD)->bQ->iU->Option (zF.den⊕zI.den)
 |0,_,_,_,_,_,_,_,_,_,_,_,_,_,_,_,_,_,_,_,_=>a7
 |n+1,d,e,f,g,h,i,j,l,m,o,p,q,s,u,v,x,y,z,A,B=>zW (lu n) (fun D E G I J K L M N O S U V W X Y Z ab=>a6 (.inl ((D,()),((E,G,I,J,()),(K,()),(),(),()),(L,(M,N,O,S,U,()),V,(),(),(W,X,()),Y,(),(Z,()),ab,(),())))) (fun r0 r1 r2 r3 r4 r5=>a6 (.inr ((),((r0,()),(),(),()),((r1,r2,()),r3,(),(r4,()),r5,(),())))) d e f g h i j l m o p q s u v x y z A B
def acg (n:Nat) (v:Dt.den):=be (lu n) v
noncomputable def OA:dm:=fQ RU Dt zF zI (.exit 0) (acg bG) 12
def Dq:SQ:=⟨us [.u,eg,.ptr 3000002 0,.ptr 3000003 0,cF,bE] 106,[ca,cK,[]],cf⟩
def Fv:SQ:=⟨us [.u,.u,.u,.u,cF] 107,[ca,cK,[]],cf⟩
def FI:SQ:=⟨us [] 112,[ca,cK,[]],b6⟩
def cO (d:List iO) (e:List rD) (f:Int):=gu d (0,(0,(0,(0,(false,()))))) (ed .i64 (oh e f) 1)
def o6 (d:List iO) (e:List rD) (f:Int):=aeu ((cO d e f).1,((cO d e f).2.1,((cO d e f).2.2.1,((cO d e f).2.2.2.1,((cO d e f).2.2.2.2.1,())))))
def jZ (g:bQ) (d:List iO) (e:List rD) (f:Int):=sub g (bZ .i64 (cO d e f).2.1 1) (cO d e f).2.2.1
def ku (g:bQ) (d:List iO) (e:List rD) (f:Int):=cZ (sub g (cO d e f).2.1 (cO d e f).2.2.1)
def iD (d e:iU):=bP d (cZ (ofBytes e))
def sV {h:Type} (g:bQ) (d:List iO) (e:List rD) (f:Int) (i:iU) (j:Int->bQ->iU->bQ->(List iO)->(List rD)->bQ->iU->Option h) (l m:bQ) (o:iU):Option h:=cond (eG (bD g) (cO d e f).2.1 (cO d e f).2.2.1) (cond (dN (bP i (ku g d e f)) 1) (j (cO d e f).2.2.1 l (bP i (ku g d e f)) g d e m o) a7) a7
def sW {p:Type} (d:List iO) (e:List rD) (g:Int) (f:bQ) (i h:iU) (l:Int->bQ->iU->bQ->(List iO)->(List rD)->bQ->iU->Option p) (m o:bQ):Option p:=cond (bJ (cO d e g).1 4) (bz (o6 d e g) fun j=>cond (eG (bD f) j.1 j.2.1) (cond (eX (ofBytes i) []) (cond (dN (bP h (cZ (sub f j.1 j.2.1))) 1) (l (cO d e g).2.2.1 m [] f d e o (bP h (cZ (sub f j.1 j.2.1)))) a7)<|cond (dN (iD h i) 1) (cond (dN (bP (iD h i) (cZ (sub f j.1 j.2.1))) 1) (l (cO d e g).2.2.1 m [] f d e o (bP (iD h i) (cZ (sub f j.1 j.2.1)))) a7) a7) a7)<|cond (eG (bD f) (bZ .i64 (cO d e g).2.1 1) (cO d e g).2.2.1) (cond (!(eX (jZ f d e g) [])) (cond (!(eX (jZ f d e g) [10])) (cond (eX (ofBytes i) []) (cond (dN (bP h (cZ (jZ f d e g))) 1) (l (cO d e g).2.2.1 m [] f d e o (bP h (cZ (jZ f d e g)))) a7)<|cond (dN (iD h i) 1) (cond (dN (bP (iD h i) (cZ (jZ f d e g))) 1) (l (cO d e g).2.2.1 m [] f d e o (bP (iD h i) (cZ (jZ f d e g)))) a7) a7)<|l (cO d e g).2.2.1 m i f d e o h)<|l (cO d e g).2.2.1 m i f d e o h) a7
def sZ {e:Type} (h:zF.den⊕zI.den) (f:Int->bQ->iU->bQ->(List iO)->(List rD)->bQ->iU->Option e) (g:bQ->bQ->(List iO)->(List rD)->bQ->iU->Option e):Option e:=dL h (fun d=>cond (bJ (bD d.2.2.1) 0) (cond d.1.1 (cond d.2.1.1.2.2.1 (f d.2.1.1.1 d.2.1.2.1.1 [] d.2.2.2.2.2.2.2.1.1 d.2.2.2.2.2.2.2.1.2.1 d.2.2.2.2.2.2.2.2.1 d.2.2.2.2.2.2.2.2.2.2.1.1 d.2.2.2.2.2.2.2.2.2.2.2.1)<|g d.2.1.2.1.1 d.2.2.2.2.2.2.2.1.1 d.2.2.2.2.2.2.2.1.2.1 d.2.2.2.2.2.2.2.2.1 d.2.2.2.2.2.2.2.2.2.2.1.1 d.2.2.2.2.2.2.2.2.2.2.2.1)<|cond (dN (bP d.2.2.2.2.2.2.2.2.2.2.2.1 (cZ (ofBytes d.2.2.1))) 1) (cond d.2.1.1.2.2.1 (f d.2.1.1.1 d.2.1.2.1.1 [] d.2.2.2.2.2.2.2.1.1 d.2.2.2.2.2.2.2.1.2.1 d.2.2.2.2.2.2.2.2.1 d.2.2.2.2.2.2.2.2.2.2.1.1 (bP d.2.2.2.2.2.2.2.2.2.2.2.1 (cZ (ofBytes d.2.2.1))))<|g d.2.1.2.1.1 d.2.2.2.2.2.2.2.1.1 d.2.2.2.2.2.2.2.1.2.1 d.2.2.2.2.2.2.2.2.1 d.2.2.2.2.2.2.2.2.2.2.1.1 (bP d.2.2.2.2.2.2.2.2.2.2.2.1 (cZ (ofBytes d.2.2.1)))) a7)<|cond (dN (bP d.2.2.2.2.2.2.2.2.2.2.2.1 (cZ (ofBytes d.2.2.1))) 1) (cond d.2.1.1.2.2.1 (f d.2.1.1.1 d.2.1.2.1.1 [] d.2.2.2.2.2.2.2.1.1 d.2.2.2.2.2.2.2.1.2.1 d.2.2.2.2.2.2.2.2.1 d.2.2.2.2.2.2.2.2.2.2.1.1 (bP d.2.2.2.2.2.2.2.2.2.2.2.1 (cZ (ofBytes d.2.2.1))))<|g d.2.1.2.1.1 d.2.2.2.2.2.2.2.1.1 d.2.2.2.2.2.2.2.1.2.1 d.2.2.2.2.2.2.2.2.1 d.2.2.2.2.2.2.2.2.2.2.1.1 (bP d.2.2.2.2.2.2.2.2.2.2.2.1 (cZ (ofBytes d.2.2.1)))) a7) (fun i=>a7)
def tq {p:Type} (d:List iO) (e:List rD) (f:Int) (h:iU) (l g m:bQ) (i:iU) (o:Int->bQ->iU->bQ->(List iO)->(List rD)->bQ->iU->Option p) (s:bQ->bQ->(List iO)->(List rD)->bQ->iU->Option p):Option p:=cond (bJ (cO d e f).1 5) (cond (eX (ofBytes h) []) (bz (o6 d e f) fun j=>bz (lu bG j.2.1 false j.1 (cO d e f).2.2.1 true true ((cO d e f).1,((cO d e f).2.1,((cO d e f).2.2.1,((cO d e f).2.2.2.1,((cO d e f).2.2.2.2.1,()))))) l [] (cO d e f).1 (cO d e f).2.1 (cO d e f).2.2.1 (cO d e f).2.2.2.1 (cO d e f).2.2.2.2.1 h g d e m i) fun q=>sZ q o s)<|cond (dN (iD i h) 1) (bz (o6 d e f) fun j=>bz (lu bG j.2.1 false j.1 (cO d e f).2.2.1 true true ((cO d e f).1,((cO d e f).2.1,((cO d e f).2.2.1,((cO d e f).2.2.2.1,((cO d e f).2.2.2.2.1,()))))) l [] (cO d e f).1 (cO d e f).2.1 (cO d e f).2.2.1 (cO d e f).2.2.2.1 (cO d e f).2.2.2.2.1 h g d e m (iD i h)) fun q=>sZ q o s) a7)<|cond (eX (ofBytes h) []) (cond (eG (bD g) (cO d e f).2.1 (cO d e f).2.2.1) (cond (dN (bP i (ku g d e f)) 1) (o (cO d e f).2.2.1 l [] g d e m (bP i (ku g d e f))) a7) a7)<|cond (dN (iD i h) 1) (cond (eG (bD g) (cO d e f).2.1 (cO d e f).2.2.1) (cond (dN (bP (iD i h) (ku g d e f)) 1) (o (cO d e f).2.2.1 l [] g d e m (bP (iD i h) (ku g d e f))) a7) a7) a7
def tu {o:Type} (d:List iO) (e:List rD) (f:Int) (g:bQ) (h i:iU) (j:Int->bQ->iU->bQ->(List iO)->(List rD)->bQ->iU->Option o) (l m:bQ) (p:bQ->bQ->(List iO)->(List rD)->bQ->iU->Option o):Option o:=cond (bJ (cO d e f).1 13) (cond (bJ (cO d e f).1 13) (sW d e f g h i j l m)<|tq d e f h l g m i j p)<|cond (bJ (cO d e f).1 4) (sW d e f g h i j l m)<|tq d e f h l g m i j p
def zV {o:Type} (m:Int->bQ->iU->bQ->(List iO)->(List rD)->bQ->iU->Option o) (s:bQ->iU->bQ->(List iO)->(List rD)->bQ->iU->Option o) (p:bQ->bQ->(List iO)->(List rD)->bQ->iU->Option o) (d:Int) (i:bQ) (h:iU) (e:bQ) (g:List iO) (f:List rD) (j:bQ) (l:iU):Option o:=cond (gJ d (bD e)) (cond (bJ (oh f d) 0) (cond (fV e d) (cond (eX e e) (cond (bJ d d) (cond (dN (bP h [(bK e d)]) 1) (cond (eX e e) (cond (bJ d d) (cond (fV e d) (cond (bJ (bK e d) (bK e d)) (m (bZ .i64 d 1) i (bP h [(bK e d)]) e g f j l) a7) a7) a7) a7) a7) a7) a7) a7)<|cond (fV g (ed .i64 (oh f d) 1)) (bz (YX ((cO g f d).1,((cO g f d).2.1,((cO g f d).2.2.1,((cO g f d).2.2.2.1,((cO g f d).2.2.2.2.1,())))))) fun q=>cond q.1 (cond q.1 (sV e g f d h m i j l)<|tu g f d e h l m i j p)<|cond (bJ (cO g f d).1 14) (sV e g f d h m i j l)<|tu g f d e h l m i j p) a7)<|s i h e g f j l
def jv:Nat->Int->bQ->iU->bQ->(List iO)->(List rD)->bQ->iU->Option (Fv.den⊕FI.den)
 |0,_,_,_,_,_,_,_,_=>a7
 |n+1,d,e,f,g,h,i,j,l=>zV (jv n) (fun m o p q s u v=>a6 (.inl ((),((m,()),(),(),()),(o,(),(),(p,q,()),s,(),(u,()),v,(),())))) (fun x y z A B D=>a6 (.inr ((),((x,()),(),(),()),((y,z,()),A,(),(B,()),D,(),())))) d e f g h i j l
def acf (n:Nat) (v:Dq.den):=jv n v.1.1 v.2.1.1.1 v.2.2.1 v.2.2.2.2.2.1.1 v.2.2.2.2.2.1.2.1 v.2.2.2.2.2.2.1 v.2.2.2.2.2.2.2.2.1.1 v.2.2.2.2.2.2.2.2.2.1
noncomputable def Oz:dm:=fQ RS Dq Fv FI (.exit 0) (acf bG) 18
def arN (f:bQ):Option QR:=bz (aeo f) fun g=>bz (pU bG g.1 (bD g.1) 0 f [] f f g.1 [] []) fun i=>dL i (fun e=>bz (jv bG 0 e.2.1.1.2.1 [] e.2.2.1.1 e.2.2.1.2.1 e.2.2.2.1 e.2.1.1.2.1 e.2.2.2.2.2.1) fun j=>dL j (fun d=>cond (eX (ofBytes d.2.2.1) []) (cond (bJ (bD d.2.2.2.2.2.2.2.2.2.1) (bD d.2.2.2.2.2.2.2.2.2.1)) (a6 ((ofBytes d.2.2.2.2.2.2.2.2.2.1),())) a7)<|cond (dN (bP d.2.2.2.2.2.2.2.2.2.1 (cZ (ofBytes d.2.2.1))) 1) (cond (bJ (bD (bP d.2.2.2.2.2.2.2.2.2.1 (cZ (ofBytes d.2.2.1)))) (bD (bP d.2.2.2.2.2.2.2.2.2.1 (cZ (ofBytes d.2.2.1))))) (a6 ((ofBytes (bP d.2.2.2.2.2.2.2.2.2.1 (cZ (ofBytes d.2.2.1)))),())) a7) a7) (fun h=>cond (bJ (bD h.2.2.2.2.2.2.1) (bD h.2.2.2.2.2.2.1)) (a6 ((ofBytes h.2.2.2.2.2.2.1),())) a7)) (fun l=>a7)
def aCC:Sum:=⟨[.str],Yo,fun x=>arN x.1⟩
noncomputable def JV:Env:=gB prog tt [(181,apC),(185,apD),(210,apI)] [(142,3,RQ),(182,4,RS),(187,5,RU),(98,500004,aw8),(98,600002,aw4),(98,600004,aw5),(98,600005,UT),(182,600005,abR),(182,600016,AU),(182,600017,Zk),(182,600019,AU),(182,600010,AU),(182,600020,aeM),(183,600003,abS),(187,600006,abT),(187,600016,Zl),(187,600007,abU),(187,600009,abV),(187,600020,Zm),(83,600001,mr)] [(142,3,Oy),(187,5,OA),(182,4,Oz)] [98]
def Pv {d:Type} (a:Dp.den->Option d) (b:Fq.den->Option d) (c:FH.den->Option d) (v:Dp.den):Option d:=zU (fun e f g h i j l m o p=>a ((e,f,g,()),((h,i,j,()),(),()),((l,m,()),o,(),p,()))) (fun q s u x y z A=>b ((),((q,s,u,()),(),()),((x,y,()),z,(),A,()))) (bc c) v.1.1 v.1.2.1 v.1.2.2.1 v.2.1.1.1 v.2.1.1.2.1 v.2.1.1.2.2.1 v.2.2.1.1 v.2.2.1.2.1 v.2.2.2.1 v.2.2.2.2.2.1
theorem acm:dJ JV 142 Q8 Oy:=nU (Pv) (h2:=by intros;simp only[Pv,bc,zU,bV,bW,bu,bT,bY])
def Py {d:Type} (a:Dt.den->Option d) (b:zF.den->Option d) (c:zI.den->Option d) (v:Dt.den):Option d:=be (zW (fun e f g h i j l m o p q s u x y z A B D E=>a ((e,f,g,()),((h,i,j,l,()),(m,()),(),(),()),(o,(p,q,s,u,x,()),y,(),(),(z,A,()),B,(),(D,()),E,(),()))) (fun G I J K L M N O S U V W X Y Z ab ad ae=>b ((G,()),((I,J,K,L,()),(M,()),(),(),()),(N,(O,S,U,V,W,()),X,(),(),(Y,Z,()),ab,(),(ad,()),ae,(),()))) (bc c)) v
theorem aco:dJ JV 187 Rf OA:=nU (Py) (h2:=by intros;simp only[Py,bc,be,zW,bV,bW,bu,bT,bY,eH,iI,kw,mO,mP])
def Px {d:Type} (a:Dq.den->Option d) (b:Fv.den->Option d) (c:FI.den->Option d) (v:Dq.den):Option d:=zV (fun e f g h i j l m=>a ((e,()),((f,()),(),(),()),(g,(),(),(h,i,()),j,(),(l,()),m,(),()))) (fun o p q s u x y=>b ((),((o,()),(),(),()),(p,(),(),(q,s,()),u,(),(x,()),y,(),()))) (bc c) v.1.1 v.2.1.1.1 v.2.2.1 v.2.2.2.2.2.1.1 v.2.2.2.2.2.1.2.1 v.2.2.2.2.2.2.1 v.2.2.2.2.2.2.2.2.1.1 v.2.2.2.2.2.2.2.2.2.1
theorem acn:dJ JV 182 Q9 Oz:=nU (Px) (h2:=by intros;simp only[Px,bc,zV,bV,bW,bu,bT,bY,cO,o6,jZ,ku,iD,sV,sW,sZ,tq,tu])
theorem aBb:jy b98=[]:=by kernel_rfl
theorem aB5:jO b98=[(cA (cA (cB (cA (cB (cB (b98)))))),cB (cA (cB (cA (cB (cB (b98)))))))]:=by kernel_rfl
theorem aBL:dI JV 98 b98:=vK b98 (by rw[aB5];exact(aD (fun _=>(show rq 98 4=a6 (cA (cA (cB (cA (cB (cB (b98)))))),cB (cA (cB (cA (cB (cB (b98))))))) by kernel_rfl)) aN)) (by rw[aBb];exact aN)
theorem aii:dI JV 142 TW:=nG [Q8] (aD (fM (acm)) aN)
theorem aij:dI JV 182 TY:=nG [Q9] (aD (fM (acn)) aN)
theorem aik:dI JV 187 TZ:=nG [Rf] (aD (fM (aco)) aN)
theorem alB:eF JV:=eB (aD ai3 (aD ai4 (aD ajd aN))) [98,142,182,187] (aD ⟨f98,b98,by kernel_rfl,by kernel_rfl,aBL⟩ (aD ⟨f142,TW,by kernel_rfl,by kernel_rfl,aii⟩ (aD ⟨f182,TY,by kernel_rfl,by kernel_rfl,aij⟩ (aD ⟨f187,TZ,by kernel_rfl,by kernel_rfl,aik⟩ aN))))
theorem aqw:dE prog 98 aCC:=sA alB
def arF (g:bQ) (h:Int) (d:Int×Iq×nH):Option ((Int×Iq×nH)×Unit):=bz (uq d.2.1) fun f=>cond (bJ h 1) (a6 ((d.1,(f.1,(false,()))),()))<|cond (bJ h 2) (a6 ((0,(f.1,((gJ 0 (bD f.1)),()))),()))<|cond (bJ h 4) (bz (ahV g) fun e=>cond (bJ e.1 4) (a6 ((e.1,(f.1,(false,()))),()))<|cond (bJ e.1 5) (a6 ((e.1,(f.1,(false,()))),()))<|some ((0,(f.1,(false,()))),()))<|cond (bJ h 6) (cond (!(bJ d.1 0)) (bz (arN g) fun e=>cond (eX g g) (cond (bJ d.1 d.1) (cond (ja (bJ d.1 5) (bJ d.1 5)) (cond (((eX g g)&&true)&&((eX e.1 e.1)&&true)) (cond (dN (bP f.1 [(e.1,((bJ d.1 5),()))]) 24) (cond (eX g g) (cond (bJ d.1 d.1) (cond (ja (bJ d.1 5) (bJ d.1 5)) (cond ((eX e.1 e.1)&&((ja (bJ d.1 5) (bJ d.1 5))&&true)) (a6 ((0,((bP f.1 [(e.1,((bJ d.1 5),()))]),(false,()))),())) a7) a7) a7) a7) a7) a7) a7) a7) a7)<|some ((0,(f.1,(false,()))),()))<|some ((0,(f.1,(false,()))),())
def aCp:Sum:=⟨[.str,dw,.pair dw tyM],[(.pair dw tyM,false)],fun x=>arF x.1 x.2.1 x.2.2.1⟩
theorem aqh:dE prog 66 aCp:=qA f66 [] (sE xC (sE PX (sE aqw aN)))
def abw (d:Int×Iq×nH):Option taR:=cond ((bJ d.1 d.1)&&((mg D5 d.2.1 d.2.1)&&((ja d.2.2.1 d.2.2.1)&&true))) (a6 ((0,(0,(0,(false,())))),((d.1,(d.2.1,(d.2.2.1,()))),()))) a7
def abx (e:bQ) (h:Int) (f:Int×Iq×nH):Option taR:=bz (arE e h) fun d=>cond (eG (bD e) d.1.2.1 d.1.2.2.1) (bz (arF (sub e d.1.2.1 d.1.2.2.1) d.1.1 (f.1,(f.2.1,(f.2.2.1,())))) fun g=>cond ((bJ d.1.1 d.1.1)&&((bJ d.1.2.1 d.1.2.1)&&((bJ d.1.2.2.1 d.1.2.2.1)&&((ja d.1.2.2.2.1 d.1.2.2.2.1)&&true)))) (cond (eX e e) (cond (bJ d.1.2.1 d.1.2.1) (cond (bJ d.1.2.2.1 d.1.2.2.1) (cond (eX e e) (cond (bJ d.1.2.1 d.1.2.1) (cond (bJ d.1.2.2.1 d.1.2.2.1) (cond (eG (bD e) d.1.2.1 d.1.2.2.1) (cond (eX (sub e d.1.2.1 d.1.2.2.1) (sub e d.1.2.1 d.1.2.2.1)) (cond (bJ d.1.1 d.1.1) (cond ((bJ f.1 f.1)&&((mg D5 f.2.1 f.2.1)&&((ja f.2.2.1 f.2.2.1)&&true))) (a6 ((d.1.1,(d.1.2.1,(d.1.2.2.1,(d.1.2.2.2.1,())))),((g.1.1,(g.1.2.1,(g.1.2.2.1,()))),()))) a7) a7) a7) a7) a7) a7) a7) a7) a7) a7) a7) a7
def ahQ (g:bQ) (f:Int) (d:Int×Iq×nH):Option taR:=cond (gJ f 0) (abw d)<|cond (leI (bD g) f) (abw d)<|cond d.2.2.1 (cond (gJ 0 (bD d.2.1)) (bz (awR g f (d.1,(d.2.1,(d.2.2.1,())))) fun e=>a6 ((e.1.1,(e.1.2.1,(e.1.2.2.1,(e.1.2.2.2.1,())))),((e.2.1.1,(e.2.1.2.1,(e.2.1.2.2.1,()))),())))<|abx g f d)<|abx g f d
def avz:Sum:=⟨[.str,dw,.pair dw tyM],tzH,fun x=>ahQ x.1 x.2.1 x.2.2.1⟩
theorem aaq:dE prog 36 avz:=qA f36 [] (sE aqf (sE aqg (sE aqh aN)))
noncomputable def b46:Code:=(f46.body).getD .skip
noncomputable def TS:Code:=(f107.body).getD .skip
noncomputable def Q5:Code:=cA (cA (cB (cB (cB (TS)))))
def RJ:dZ:=⟨[0,1,3,4,5,202000003],[(100000501,.pair (.list .unit) (.pair .unit D5)),(300000301,.pair (.list .unit) (.pair .unit D5))],[],[],[],[]⟩
def aw6:dZ:=⟨[2,3,4,5],[],[],[],[],[]⟩
def aw0:dZ:=⟨[0,2,3,4,5],[],[],[],[],[]⟩
def abP:dZ:=⟨[0,1,3,4],[],[],[],[],[]⟩
def Dk:SQ:=⟨us [.yld 1700010,eg,.u,.ptr 3000003 0,.ptr 3000004 0,bE] 18,[ce,[.yld 1700010],[]],[.box 3000004 50 [bE,bE,bE,bX],.box 3000003 53 ct,.box 2000001 9 [bB],.lp 1700010 46 (ce) [10,11] 6 0 a7,.arr 1500004 (.pair dw tyK),ev,.box 1000004 57 [.slc 1500004],.box 1000003 53 [bE,.nils,bX]]⟩
def Fh:SQ:=⟨us [] 24,[ce,[.yld 1700010],[]],[.box 2000001 9 [bB],.lp 1700010 46 (ce) [10,11] 6 0 a7,.arr 1500004 (.pair dw tyK),ev,.box 1000004 57 [.slc 1500004],.box 1000003 53 [bE,.nils,bX]]⟩
def FB:SQ:=⟨us [] 24,[ce,[.yld 1700010],[]],[]⟩
def zS {e:Type} (l:Int->Int->Int->Int->Bool->Int->Iq->Bool->bQ->(List taK)->Int->Iq->Bool->Int->Bool->Option e) (m:bQ->(List taK)->Int->Iq->Bool->Int->Bool->Option e) (x:Option e) (h y z A:Int) (B:Bool) (o:Int) (p:Iq) (q:Bool) (f:bQ) (g:List taK) (s:Int) (u:Iq) (v:Bool) (i:Int) (j:Bool):Option e:=cond (gJ h (bD f)) (bz (ahQ f h (o,(p,(q,())))) fun d=>cond ((bJ d.2.1.1 d.2.1.1)&&((mg D5 d.2.1.2.1 d.2.1.2.1)&&((ja d.2.1.2.2.1 d.2.1.2.2.1)&&true))) (cond (dN (bP g [(d.1.1,(d.1.2.1,(d.1.2.2.1,(d.1.2.2.2.1,()))))]) 32) (cond ((bJ d.1.1 d.1.1)&&((bJ d.1.2.1 d.1.2.1)&&((bJ d.1.2.2.1 d.1.2.2.1)&&((ja d.1.2.2.2.1 d.1.2.2.2.1)&&true)))) (cond ((bJ d.2.1.1 d.2.1.1)&&((mg D5 d.2.1.2.1 d.2.1.2.1)&&((ja d.2.1.2.2.1 d.2.1.2.2.1)&&true))) (cond ((bJ d.2.1.1 d.2.1.1)&&((mg D5 d.2.1.2.1 d.2.1.2.1)&&((ja d.2.1.2.2.1 d.2.1.2.2.1)&&true))) (l d.1.2.2.1 d.1.1 d.1.2.1 d.1.2.2.1 d.1.2.2.2.1 d.2.1.1 d.2.1.2.1 d.2.1.2.2.1 f (bP g [(d.1.1,(d.1.2.1,(d.1.2.2.1,(d.1.2.2.2.1,()))))]) d.2.1.1 d.2.1.2.1 d.2.1.2.2.1 i j) a7) a7) a7) a7) a7)<|m f g s u v i j
def pM:Nat->Int->Int->Int->Int->Bool->Int->Iq->Bool->bQ->(List taK)->Int->Iq->Bool->Int->Bool->Option (Fh.den⊕FB.den)
 |0,_,_,_,_,_,_,_,_,_,_,_,_,_,_,_=>a7
 |n+1,d,e,f,g,h,i,j,l,m,o,p,q,s,u,v=>zS (pM n) (fun x y z A B D E=>a6 (.inl ((),((),(),(),()),((x,()),(),y,(z,A,B,()),(),(D,E,()),())))) (a6 (.inr ((),((),(),(),()),()))) d e f g h i j l m o p q s u v
def aca (n:Nat) (v:Dk.den):=bh (pM n) v
noncomputable def Ov:dm:=fQ RJ Dk Fh FB (.exit 0) (aca bG) 6
def awP (e:bQ):Option ((List taK)×(Int×Iq×nH)×Unit):=bz (pM bG 0 0 0 0 false 0 [] false e [] 0 [] false 0 false) fun f=>dL f (fun d=>a6 (d.2.2.2.2.1,((d.2.2.2.2.2.1.1,(d.2.2.2.2.2.1.2.1,(d.2.2.2.2.2.1.2.2.1,()))),()))) (fun g=>a7)
def avI:Sum:=⟨[.str],[(.list (.pair dw tyK),false),(.pair dw tyM,false)],fun x=>awP x.1⟩
noncomputable def ad7:Env:=gB prog tt [(36,avz)] [(107,3,RJ),(46,500006,aw6),(46,600003,aw0),(107,600006,abP)] [(107,3,Ov)] [46]
def Pn {d:Type} (a:Dk.den->Option d) (b:Fh.den->Option d) (c:FB.den->Option d) (v:Dk.den):Option d:=bh (zS (fun e f g h i j l m o p q s u x y=>a ((e,()),((),(),(),()),((f,g,h,i,()),(j,l,m,()),(o,()),(),p,(q,s,u,()),(),(x,y,()),()))) (fun z A B D E G I=>b ((),((),(),(),()),((z,()),(),A,(B,D,E,()),(),(G,I,()),()))) (c ((),((),(),(),()),()))) v
theorem acj:dJ ad7 107 Q5 Ov:=nU (Pn) (h2:=by intros;simp only[Pn,bh,zS,bV,bW,bu,bT,bY])
theorem aA8:jy b46=[]:=by kernel_rfl
theorem aB3:jO b46=[(cA (cA (cB (cA (cB (cB (cB (b46))))))),cB (cA (cB (cA (cB (cB (cB (b46))))))))]:=by kernel_rfl
theorem aBv:dI ad7 46 b46:=vK b46 (by rw[aB3];exact(aD (fun _=>(show rq 46 6=a6 (cA (cA (cB (cA (cB (cB (cB (b46))))))),cB (cA (cB (cA (cB (cB (cB (b46)))))))) by kernel_rfl)) aN)) (by rw[aA8];exact aN)
theorem aif:dI ad7 107 TS:=nG [Q5] (aD (fM (acj)) aN)
theorem ak4:eF ad7:=eB (aD aaq aN) [46,107] (aD ⟨f46,b46,by kernel_rfl,by kernel_rfl,aBv⟩ (aD ⟨f107,TS,by kernel_rfl,by kernel_rfl,aif⟩ aN))
theorem ap6:dE prog 46 avI:=sA ak4
def ahR (e:bQ) (d:taK):Option QR:=cond (gJ d.2.1 0) (a6 ([],()))<|cond (gJ d.2.2.1 d.2.1) (a6 ([],()))<|cond (gJ (bD e) d.2.2.1) (a6 ([],()))<|cond (eG (bD e) d.2.1 d.2.2.1) (a6 ((sub e d.2.1 d.2.2.1),())) a7
def avA:Sum:=⟨[.str,.pair dw tyK],Yo,fun x=>ahR x.1 x.2.1⟩
theorem aar:dE prog 37 avA:=qA f37 [] aN
noncomputable def b47:Code:=(f47.body).getD .skip
noncomputable def aug:Code:=cA (cA (cB (cA (cB (b47)))))
def auV:dZ:=⟨[0,4,7,8,9,100002],[(4,tyD)],[4],[],[4],[(4,tyD)]⟩
def afH:SP:=⟨us [bB,.u,.u,.u,.slc 1800004,.u,.u,.v (.list (.pair dw tyK)),bE,bE] 42,[.arr 1800004 tyD]⟩
def acG:SP:=⟨us [.u,.u,.u,.u,.slc 1800004] 47,[.arr 1800004 tyD]⟩
def ac6:SP:=⟨us [.u,.u,.u,.u,.v DR] 47,[]⟩
def dO (d:List taK) (e:Int):=gu d (0,(0,(0,(false,())))) e
def rC (d:List taK) (e:Int):=bJ (dO d e).2.2.1 (dO d e).2.2.1
def yx {h:Type} (f:bQ) (d:List taK) (e:Int) (i:List iQ) (j:bQ->(List taK)->Int->Int->(List iQ)->Option h) (l:Int):Option h:=bz (ahR f ((dO d e).1,((dO d e).2.1,((dO d e).2.2.1,((dO d e).2.2.2.1,()))))) fun g=>cond (bJ (dO d e).1 (dO d e).1) (cond (eX f f) (cond ((bJ (dO d e).1 (dO d e).1)&&((bJ (dO d e).2.1 (dO d e).2.1)&&((rC d e)&&((ja (dO d e).2.2.2.1 (dO d e).2.2.2.1)&&true)))) (cond (bJ (dO d e).2.1 (dO d e).2.1) (cond (rC d e) (cond (((eX f f)&&(((bJ (dO d e).1 (dO d e).1)&&((bJ (dO d e).2.1 (dO d e).2.1)&&((rC d e)&&((ja (dO d e).2.2.2.1 (dO d e).2.2.2.1)&&true))))&&true))&&((eX g.1 g.1)&&true)) (cond (dN (bP i [((dO d e).1,(g.1,((dO d e).2.1,((dO d e).2.2.1,()))))]) 40) (cond (bJ (dO d e).1 (dO d e).1) (cond (eX f f) (cond ((bJ (dO d e).1 (dO d e).1)&&((bJ (dO d e).2.1 (dO d e).2.1)&&((rC d e)&&((ja (dO d e).2.2.2.1 (dO d e).2.2.2.1)&&true)))) (cond (bJ (dO d e).2.1 (dO d e).2.1) (cond (rC d e) (cond ((bJ (dO d e).1 (dO d e).1)&&((eX g.1 g.1)&&((bJ (dO d e).2.1 (dO d e).2.1)&&((rC d e)&&true)))) (j f d l (bZ .i64 e 1) (bP i [((dO d e).1,(g.1,((dO d e).2.1,((dO d e).2.2.1,()))))])) a7) a7) a7) a7) a7) a7) a7) a7) a7) a7) a7) a7) a7
def XW {j:Type} (i:bQ->(List taK)->Int->Int->(List iQ)->Option j) (l m:(List iQ)->Option j) (f:bQ) (e:List taK) (g d:Int) (h:List iQ):Option j:=cond (gJ d g) (cond (fV e d) (cond (gJ (dO e d).2.1 0) (i f e g (bZ .i64 d 1) h)<|cond (gJ (dO e d).2.2.1 (dO e d).2.1) (i f e g (bZ .i64 d 1) h)<|cond (gJ (bD f) (dO e d).2.2.1) (i f e g (bZ .i64 d 1) h)<|cond (bJ (dO e d).1 4) (cond (bJ (dO e d).1 4) (yx f e d h i g)<|i f e g (bZ .i64 d 1) h)<|cond (bJ (dO e d).1 5) (cond (bJ (dO e d).1 5) (yx f e d h i g)<|i f e g (bZ .i64 d 1) h)<|cond (bJ (dO e d).1 6) (cond (bJ (dO e d).1 6) (yx f e d h i g)<|i f e g (bZ .i64 d 1) h)<|cond (bJ (dO e d).1 2) (yx f e d h i g)<|i f e g (bZ .i64 d 1) h) a7)<|l h
def A7:Nat->bQ->(List taK)->Int->Int->(List iQ)->Option (acG.den⊕ac6.den)
 |0,_,_,_,_,_=>a7
 |n+1,d,e,f,g,h=>XW (A7 n) (fun i=>a6 (.inl ((),(i,())))) (fun j=>a6 (.inr ((j,()),()))) d e f g h
def axO (n:Nat) (v:afH.den):=bj (A7 n) v
noncomputable def anB:dm:=eP auV afH acG ac6 (.exit 0) (axO bG) 6
def awQ (e:bQ) (d:List taK):Option ((List iQ)×Unit):=bz (A7 bG e d (bD d) 0 []) fun f=>dL f (fun g=>a6 (g.2.1,())) (fun h=>a6 (h.1.1,()))
def avJ:Sum:=⟨[.str,.list (.pair dw tyK)],[(.list tyD,false)],fun x=>awQ x.1 x.2.1⟩
noncomputable def ak5:Env:=iE prog tt 47 [(37,avA)] [(2,auV)] [(2,anB)]
def aoJ {d:Type} (a:afH.den->Option d) (b:acG.den->Option d) (c:ac6.den->Option d) (v:afH.den):Option d:=bj (XW (fun e f g h i=>a ((e,f,g,h,()),(i,()))) (fun j=>b ((),(j,()))) (ar c)) v
theorem ayp:dJ ak5 47 aug anB:=rH (aoJ) (h2:=by intros;simp only[aoJ,ar,bj,XW,bV,bW,bu,bT,bY,dO,rC,yx])
theorem aBw:dI ak5 47 b47:=nG [aug] (aD (fM (ayp)) aN)
theorem ak6:eF ak5:=eA f47 (aD aar aN) (aBw)
theorem ap7:dE prog 47 avJ:=sA ak6
end
end Go.Proofs.YtjgoejaajmhllaaGreatDoor
