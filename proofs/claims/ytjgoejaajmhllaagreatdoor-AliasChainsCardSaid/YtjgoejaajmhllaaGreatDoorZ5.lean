/- Parts of the proof, joined and shortened by a program: the plain machine, the functions as it prints them, and the mathematics over them. -/
import Derived.Test.YtjgoejaajmhllaaGreatDoorZ3
import Derived.Test.YtjgoejaajmhllaaGreatDoorZ4
set_option linter.unusedVariables false
set_option linter.unusedSimpArgs false
set_option maxRecDepth 100000
set_option maxHeartbeats 4000000
namespace Go.Proofs.YtjgoejaajmhllaaGreatDoor
section
open Option renaming some → a6, none → a7
open Tryz
open Go.RowKit
noncomputable def az7:Code:=(f104.body).getD .skip
noncomputable def ajR:Code:=cA (cA (cB (cA (cB (az7)))))
def amB:dZ:=⟨[0,1,4,6,100002],[],[4],[],[4,5],[]⟩
def Vq:SP:=⟨us [.v QT,bE,.u,.u,ej,.u,bE] 18,[c6]⟩
def VU:SP:=⟨us [.u,.u,.u,.u,ej] 20,[c6]⟩
def WF:SP:=⟨us [.u,.u,.u,.u,ej,bE] 19,[c6]⟩
def L8 {f:Type} (o:(List iO)->Int->Int->Int->Int->Int->Int->Bool->Option f) (p:Int->Int->Int->Int->Bool->Option f) (q:Int->Int->Int->Int->Int->Bool->Option f) (d:List iO) (g e h i j l:Int) (m:Bool):Option f:=cond (gJ e (bD d)) (cond (fV d e) (cond (bJ (gu d (0,(0,(0,(0,(false,()))))) e).2.1 g) (cond (fV d e) (q 1 (gu d (0,(0,(0,(0,(false,()))))) e).1 (gu d (0,(0,(0,(0,(false,()))))) e).2.1 (gu d (0,(0,(0,(0,(false,()))))) e).2.2.1 (gu d (0,(0,(0,(0,(false,()))))) e).2.2.2.1 (gu d (0,(0,(0,(0,(false,()))))) e).2.2.2.2.1) a7)<|o d g (bZ .i64 e 1) h i j l m) a7)<|p h i j l m
def CX:Nat->(List iO)->Int->Int->Int->Int->Int->Int->Bool->Option (VU.den⊕WF.den)
 |0,_,_,_,_,_,_,_,_=>a7
 |n+1,d,e,f,g,h,i,j,l=>L8 (CX n) (fun m o p q s=>a6 (.inl ((),((m,o,p,q,s,()),())))) (fun u v x y z A=>a6 (.inr ((u,()),((v,x,y,z,A,()),())))) d e f g h i j l
def ar8 (n:Nat) (v:Vq.den):=CX n v.1.1 v.1.2.1 v.1.2.2.1 v.2.1.1 v.2.1.2.1 v.2.1.2.2.1 v.2.1.2.2.2.1 v.2.1.2.2.2.2.1
noncomputable def aeV:dm:=eP amB Vq VU WF (.exit 0) (ar8 bG) 6
def YS (e:List iO) (f:Int):Option (iO×Int×Unit):=bz (CX bG e f 0 0 0 0 0 false) fun g=>dL g (fun h=>a6 ((0,(0,(0,(0,(false,()))))),(0,()))) (fun d=>a6 ((d.2.1.1,(d.2.1.2.1,(d.2.1.2.2.1,(d.2.1.2.2.2.1,(d.2.1.2.2.2.2.1,()))))),(d.1.1,())))
def adA:Sum:=⟨[QT,dw],[(.pair dw (.pair dw tyK),false),(.int .i64,false)],fun x=>YS x.1 x.2.1⟩
noncomputable def aa0:Env:=iE prog tt 104 [] [(2,amB)] [(2,aeV)]
def af8 {d:Type} (a:Vq.den->Option d) (b:VU.den->Option d) (c:WF.den->Option d) (v:Vq.den):Option d:=L8 (fun e f g h i j l m=>a ((e,f,g,()),((h,i,j,l,m,()),()))) (fun o p q s u=>b ((),((o,p,q,s,u,()),()))) (fun x y z A B D=>c ((x,()),((y,z,A,B,D,()),()))) v.1.1 v.1.2.1 v.1.2.2.1 v.2.1.1 v.2.1.2.1 v.2.1.2.2.1 v.2.1.2.2.2.1 v.2.1.2.2.2.2.1
theorem asN:dJ aa0 104 ajR aeV:=rH (af8) (h2:=by intros;simp only[af8,L8,bV,bW,bu,bT,bY])
theorem axc:dI aa0 104 az7:=nG [ajR] (aD (fM (asN)) aN)
theorem ahd:eF aa0:=eA f104 aN (axc)
theorem Tm:dE prog 104 adA:=sA ahd
def fD (d:List DN):=gu d (false,(false,([],()))) (ed .i64 (bD d) 1)
def iM (d:List DN) (e:bQ):=eX (bP (fD d).2.2.1 e) (bP (fD d).2.2.1 e)
def oK (d:List DN):=mg QS (sub d 0 (ed .i64 (bD d) 1)) (sub d 0 (ed .i64 (bD d) 1))
def jk (d:List DN):=mg QS d d
def rY (d:List DN) (e:bQ):=bP (bP [] (sub d 0 (ed .i64 (bD d) 1))) [(false,(false,((bP (fD d).2.2.1 e),())))]
def kK (d:List DN):=bJ (ed .i64 (bD d) 1) (ed .i64 (bD d) 1)
def jl (d:List DN):=eX (fD d).2.2.1 (fD d).2.2.1
def ql (d:List DN):=eG (bD d) 0 (ed .i64 (bD d) 1)
def Uy (d:List DN) (e:bQ):Option ((List DN)×Unit):=cond (dN (bP [] d) 24) (cond (dN (bP (bP [] d) [(false,(false,(e,())))]) 24) (a6 ((bP (bP [] d) [(false,(false,(e,())))]),())) a7) a7
def Ro (d:List DN) (e:bQ) (f:Bool):Option ((List DN)×Unit):=cond (gJ 0 (bD d)) (cond (!f) (cond (fV d (ed .i64 (bD d) 1)) (cond (ql d) (cond (fG (fD d).2.2.1 e) (cond (jk d) (cond (bJ (bD d) (bD d)) (cond (kK d) (cond (ql d) (cond (oK d) (cond (jl d) (cond (eX e e) (cond (fG (fD d).2.2.1 e) (cond (iM d e) (cond ((ja false false)&&((ja false false)&&((iM d e)&&true))) (cond (dN (bP [] (sub d 0 (ed .i64 (bD d) 1))) 24) (cond (jk d) (cond (bJ (bD d) (bD d)) (cond (kK d) (cond (jl d) (cond (eX e e) (cond (fG (fD d).2.2.1 e) (cond (iM d e) (cond ((ja false false)&&((ja false false)&&((iM d e)&&true))) (cond (jk d) (cond (bJ (bD d) (bD d)) (cond (kK d) (cond (ql d) (cond (oK d) (cond (jl d) (cond (eX e e) (cond (fG (fD d).2.2.1 e) (cond (iM d e) (cond (dN (rY d e) 24) (cond (jk d) (cond (bJ (bD d) (bD d)) (cond (kK d) (cond (ql d) (cond (oK d) (cond (jl d) (cond (eX e e) (cond (fG (fD d).2.2.1 e) (cond (iM d e) (cond ((ja false false)&&((ja false false)&&((iM d e)&&true))) (bz (cond (jk d) (cond (bJ (bD d) (bD d)) (cond (kK d) (cond (ql d) (cond (oK d) (cond (jl d) (cond (eX e e) (cond (fG (fD d).2.2.1 e) (cond (iM d e) (cond (dN (bP [] (sub d 0 (ed .i64 (bD d) 1))) 24) (cond (jk d) (cond (bJ (bD d) (bD d)) (cond (kK d) (cond (jl d) (cond (eX e e) (cond (fG (fD d).2.2.1 e) (cond (iM d e) (cond ((ja false false)&&((ja false false)&&((iM d e)&&true))) (cond (dN (rY d e) 24) (cond (jk d) (cond (bJ (bD d) (bD d)) (cond (kK d) (cond (ql d) (cond (oK d) (cond (jl d) (cond (eX e e) (cond (fG (fD d).2.2.1 e) (cond (iM d e) (cond ((ja false false)&&((ja false false)&&((iM d e)&&true))) (cond ((((jk d)&&((eX e e)&&((ja f f)&&((bJ (bD d) (bD d))&&((jk d)&&((bJ (bD d) (bD d))&&((bJ (bD d) (bD d))&&((ja (gJ 0 (bD d)) (gJ 0 (bD d)))&&((ja true true)&&((ja f f)&&((ja (!f) (!f))&&((ja (!f) (!f))&&((jk d)&&((bJ (bD d) (bD d))&&((kK d)&&(((ja (fD d).1 (fD d).1)&&((ja (fD d).2.1 (fD d).2.1)&&((jl d)&&true)))&&(((ja (fD d).1 (fD d).1)&&((ja (fD d).2.1 (fD d).2.1)&&((jl d)&&true)))&&((jk d)&&((bJ (bD d) (bD d))&&((kK d)&&((oK d)&&((jl d)&&((eX e e)&&((iM d e)&&(((ja false false)&&((ja false false)&&((iM d e)&&true)))&&true)))))))))))))))))))))))))&&(((mg QS [(false,(false,((bP (fD d).2.2.1 e),())))] [(false,(false,((bP (fD d).2.2.1 e),())))])&&((mg QS (rY d e) (rY d e))&&(((ja (fD d).1 (fD d).1)&&((ja (fD d).2.1 (fD d).2.1)&&((jl d)&&true)))&&true)))&&true))&&true) (a6 ()) (a7)) (a7)) (a7)) (a7)) (a7)) (a7)) (a7)) (a7)) (a7)) (a7)) (a7)) (a7)) (a7)) (a7)) (a7)) (a7)) (a7)) (a7)) (a7)) (a7)) (a7)) (a7)) (a7)) (a7)) (a7)) (a7)) (a7)) (a7)) (a7)) (a7)) fun g=>bz (cond (jk d) (cond (bJ (bD d) (bD d)) (cond (kK d) (cond (ql d) (cond (oK d) (cond (jl d) (cond (eX e e) (cond (fG (fD d).2.2.1 e) (cond (iM d e) (cond (jk d) (cond (bJ (bD d) (bD d)) (cond (kK d) (cond (ql d) (cond (oK d) (cond (jl d) (cond (eX e e) (cond (fG (fD d).2.2.1 e) (cond (iM d e) (cond ((ja false false)&&((ja false false)&&((iM d e)&&true))) (cond (dN (bP [] (sub d 0 (ed .i64 (bD d) 1))) 24) (cond (jk d) (cond (bJ (bD d) (bD d)) (cond (kK d) (cond (jl d) (cond (eX e e) (cond (fG (fD d).2.2.1 e) (cond (iM d e) (cond ((ja false false)&&((ja false false)&&((iM d e)&&true))) (cond (dN (rY d e) 24) (cond (jk d) (cond (bJ (bD d) (bD d)) (cond (kK d) (cond (ql d) (cond (oK d) (cond (jl d) (cond (eX e e) (cond (fG (fD d).2.2.1 e) (cond (iM d e) (cond ((ja false false)&&((ja false false)&&((iM d e)&&true))) (cond ((((jk d)&&((eX e e)&&((ja f f)&&((bJ (bD d) (bD d))&&((jk d)&&((bJ (bD d) (bD d))&&((bJ (bD d) (bD d))&&((ja (gJ 0 (bD d)) (gJ 0 (bD d)))&&((ja true true)&&((ja f f)&&((ja (!f) (!f))&&((ja (!f) (!f))&&((jk d)&&((bJ (bD d) (bD d))&&((kK d)&&(((ja (fD d).1 (fD d).1)&&((ja (fD d).2.1 (fD d).2.1)&&((jl d)&&true)))&&(((ja (fD d).1 (fD d).1)&&((ja (fD d).2.1 (fD d).2.1)&&((jl d)&&true)))&&((jk d)&&((bJ (bD d) (bD d))&&((kK d)&&((oK d)&&((jl d)&&((eX e e)&&((iM d e)&&(((ja false false)&&((ja false false)&&((iM d e)&&true)))&&true)))))))))))))))))))))))))&&(((mg QS [(false,(false,((bP (fD d).2.2.1 e),())))] [(false,(false,((bP (fD d).2.2.1 e),())))])&&((mg QS (rY d e) (rY d e))&&(((ja (fD d).1 (fD d).1)&&((ja (fD d).2.1 (fD d).2.1)&&((jl d)&&true)))&&true)))&&true))&&true) (a6 ()) (a7)) (a7)) (a7)) (a7)) (a7)) (a7)) (a7)) (a7)) (a7)) (a7)) (a7)) (a7)) (a7)) (a7)) (a7)) (a7)) (a7)) (a7)) (a7)) (a7)) (a7)) (a7)) (a7)) (a7)) (a7)) (a7)) (a7)) (a7)) (a7)) (a7)) (a7)) (a7)) (a7)) (a7)) (a7)) (a7)) (a7)) (a7)) (a7)) (a7)) fun h=>a6 ((rY d e),())) a7) a7) a7) a7) a7) a7) a7) a7) a7) a7) a7) a7) a7) a7) a7) a7) a7) a7) a7) a7) a7) a7) a7) a7) a7) a7) a7) a7) a7) a7) a7) a7) a7) a7) a7) a7) a7) a7) a7) a7) a7) a7)<|Uy d e)<|Uy d e
def apb:Sum:=⟨[.list QS,.str,.bool],[(.list QS,true)],fun x=>Ro x.1 x.2.1 x.2.2.1⟩
theorem aiI:dE prog 105 apb:=qA f105 [] aN
noncomputable def az8:Code:=(f106.body).getD .skip
noncomputable def ajS:Code:=cA (cA (cA (cB (cB (cB (cB (az8)))))))
def amC:dZ:=⟨[0,1,3,9,10,11,100004],[(9,QS)],[9,10],[],[8],[(8,QS)]⟩
def Vr:SP:=⟨us [bB,.v QT,.u,bE,.u,.u,.u,.u,.u,.slc 1800009,bB,bE] 112,[.arr 1800009 QS]⟩
def VV:SP:=⟨us [.u,.u,.u,.u,.u,.u,.u,.u,.u,.slc 1800009,bB] 113,[.arr 1800009 QS]⟩
def WG:SP:=⟨us [.u,.u,.u,.u,.u,.u,.u,.u,.v (.list QS)] 115,[]⟩
def tZ {f:Type} (e:bQ) (d:Int) (g:bQ) (h:bQ->(List iO)->Int->bQ->Int->(List DN)->Option f) (i:List iO) (j:Int) (l:(iO×Int×Unit)) (m:List DN):Option f:=cond (eG (bD e) (bZ .i64 d 1) (bZ .i64 d 2)) (cond (fG g (sub e (bZ .i64 d 1) (bZ .i64 d 2))) (h e i j (bP g (sub e (bZ .i64 d 1) (bZ .i64 d 2))) l.1.2.2.1 m) a7) a7
def Dz {m:Type} (f:(iO×Int×Unit)) (e:Int) (d g:bQ) (i:bQ->(List iO)->Int->bQ->Int->(List DN)->Option m) (j:List iO) (l:Int) (h:List DN):Option m:=cond (bJ f.1.1 13) (cond (bJ f.1.2.2.1 (bZ .i64 e 2)) (cond (fV d (bZ .i64 e 1)) (cond (bJ (bK d (bZ .i64 e 1)) 36) (tZ d e g i j l f h)<|cond (bJ (bK d (bZ .i64 e 1)) 96) (tZ d e g i j l f h)<|cond (bJ (bK d (bZ .i64 e 1)) 34) (tZ d e g i j l f h)<|cond (bJ (bK d (bZ .i64 e 1)) 92) (tZ d e g i j l f h)<|cond (!(bJ (bK d (bZ .i64 e 1)) 10)) (cond (eG (bD d) e (bZ .i64 e 2)) (cond (fG g (sub d e (bZ .i64 e 2))) (i d j l (bP g (sub d e (bZ .i64 e 2))) f.1.2.2.1 h) a7) a7)<|i d j l g f.1.2.2.1 h) a7)<|i d j l g f.1.2.2.1 h)<|cond (!(eX g [])) (cond (dN (bP h [(false,(true,(g,())))]) 24) (cond (eG (bD d) e f.1.2.2.1) (cond (dN (bP (bP h [(false,(true,(g,())))]) [(true,(true,((sub d e f.1.2.2.1),())))]) 24) (i d j l [] f.1.2.2.1 (bP (bP h [(false,(true,(g,())))]) [(true,(true,((sub d e f.1.2.2.1),())))])) a7) a7) a7)<|cond (eG (bD d) e f.1.2.2.1) (cond (dN (bP h [(true,(true,((sub d e f.1.2.2.1),())))]) 24) (i d j l [] f.1.2.2.1 (bP h [(true,(true,((sub d e f.1.2.2.1),())))])) a7) a7
def L9 {l:Type} (m:bQ->(List iO)->Int->bQ->Int->(List DN)->Option l) (o:bQ->(List DN)->Option l) (p:(List DN)->Option l) (e:bQ) (g:List iO) (h:Int) (f:bQ) (d:Int) (i:List DN):Option l:=cond (gJ d h) (bz (YS g d) fun j=>cond (bJ j.2.1 0) (cond (eG (bD e) d (bZ .i64 d 1)) (cond (fG f (sub e d (bZ .i64 d 1))) (m e g h (bP f (sub e d (bZ .i64 d 1))) (bZ .i64 d 1) i) a7) a7)<|cond (bJ j.1.1 12) (cond (bJ j.1.2.2.1 (bZ .i64 d 1)) (cond (eG (bD e) d (bZ .i64 d 1)) (cond (fG f (sub e d (bZ .i64 d 1))) (m e g h (bP f (sub e d (bZ .i64 d 1))) (bZ .i64 d 1) i) a7) a7)<|Dz j d e f m g h i)<|Dz j d e f m g h i)<|o f i
def sD:Nat->bQ->(List iO)->Int->bQ->Int->(List DN)->Option (VV.den⊕WG.den)
 |0,_,_,_,_,_,_=>a7
 |n+1,d,e,f,g,h,i=>L9 (sD n) (fun j l=>a6 (.inl ((j,()),(l,())))) (fun m=>a6 (.inr ((m,()),()))) d e f g h i
def ar9 (n:Nat) (v:Vr.den):=bs (sD n) v
noncomputable def aeW:dm:=eP amC Vr VV WG (.exit 0) (ar9 bG) 6
def JW (e:bQ) (f:List iO) (g h:Int):Option ((List DN)×Unit):=bz (sD bG e f h [] g []) fun i=>dL i (fun d=>cond (!(eX d.1.1 [])) (cond (dN (bP d.2.1 [(false,(true,(d.1.1,())))]) 24) (a6 ((bP d.2.1 [(false,(true,(d.1.1,())))]),())) a7)<|cond (bJ (bD d.2.1) 0) (cond (dN (bP d.2.1 [(false,(true,(d.1.1,())))]) 24) (a6 ((bP d.2.1 [(false,(true,(d.1.1,())))]),())) a7)<|some (d.2.1,())) (fun j=>a6 (j.1.1,()))
def apc:Sum:=⟨[.str,QT,dw,dw],[(.list QS,false)],fun x=>JW x.1 x.2.1 x.2.2.1 x.2.2.2.1⟩
noncomputable def aa1:Env:=iE prog tt 106 [(104,adA)] [(4,amC)] [(4,aeW)]
def af9 {d:Type} (a:Vr.den->Option d) (b:VV.den->Option d) (c:WG.den->Option d) (v:Vr.den):Option d:=bs (L9 (fun e f g h i j=>a ((e,f,g,h,i,()),(j,()))) (fun l m=>b ((l,()),(m,()))) (ar c)) v
theorem asO:dJ aa1 106 ajS aeW:=rH (af9) (h2:=by intros;simp only[af9,ar,bs,L9,bV,bW,bu,bT,bY,tZ,Dz])
theorem axd:dI aa1 106 az8:=nG [ajS] (aD (fM (asO)) aN)
theorem ahe:eF aa1:=eA f106 (aD Tm aN) (axd)
theorem aiJ:dE prog 106 apc:=sA ahe
noncomputable def b70:Code:=(f70.body).getD .skip
noncomputable def aul:Code:=cA (cA (cA (cB (cB (cB (cB (cB (b70))))))))
def auZ:dZ:=⟨[0,3,4,5,6,100005],[(4,.pair (.list .bool) QS)],[4],[],[2],[(2,QS)]⟩
def afM:SP:=⟨us [bB,.u,.u,.v QT,.slc 1800004,bX,bE] 130,[.arr 1800004 QS]⟩
def acL:SP:=⟨us [.u,.u,.u,.u,.slc 1800004] 132,[.arr 1800004 QS]⟩
def adb:SP:=⟨us [.u,.u,.v (.list QS)] 134,[]⟩
def BI {h:Type} (f:(iO×Int×Unit)) (e:bQ) (d:Int) (i:List DN) (j:Bool) (l:bQ->(List iO)->Bool->Int->(List DN)->Option h) (m:List iO):Option h:=cond (bJ f.2.1 1) (cond (eG (bD e) d f.1.2.2.1) (bz (Ro i (sub e d f.1.2.2.1) j) fun g=>l e m false f.1.2.2.1 g.1) a7)<|cond (eG (bD e) d (bZ .i64 d 1)) (bz (Ro i (sub e d (bZ .i64 d 1)) j) fun g=>l e m false (bZ .i64 d 1) g.1) a7
def Ij {j:Type} (d:(iO×Int×Unit)) (e:bQ) (f:List DN) (h:bQ->(List iO)->Bool->Int->(List DN)->Option j) (g:List iO) (l:Bool):Option j:=cond (bJ d.1.1 13) (cond (bJ d.1.2.2.1 (bZ .i64 d.1.2.1 2)) (cond (fV e (bZ .i64 d.1.2.1 1)) (cond (!(bJ (bK e (bZ .i64 d.1.2.1 1)) 10)) (cond (eG (bD e) (bZ .i64 d.1.2.1 1) d.1.2.2.1) (cond (dN (bP f [(false,(true,((sub e (bZ .i64 d.1.2.1 1) d.1.2.2.1),())))]) 24) (h e g true d.1.2.2.1 (bP f [(false,(true,((sub e (bZ .i64 d.1.2.1 1) d.1.2.2.1),())))])) a7) a7)<|h e g l d.1.2.2.1 f) a7)<|h e g l d.1.2.2.1 f)<|cond (bJ d.1.1 4) (cond d.1.2.2.2.2.1 (cond (eG (bD e) (bZ .i64 d.1.2.1 1) d.1.2.2.1) (cond (dN (bP f [(false,(true,((sub e (bZ .i64 d.1.2.1 1) d.1.2.2.1),())))]) 24) (h e g true d.1.2.2.1 (bP f [(false,(true,((sub e (bZ .i64 d.1.2.1 1) d.1.2.2.1),())))])) a7) a7)<|cond (eG (bD e) (bZ .i64 d.1.2.1 1) (ed .i64 d.1.2.2.1 1)) (cond (dN (bP f [(false,(true,((sub e (bZ .i64 d.1.2.1 1) (ed .i64 d.1.2.2.1 1)),())))]) 24) (h e g true d.1.2.2.1 (bP f [(false,(true,((sub e (bZ .i64 d.1.2.1 1) (ed .i64 d.1.2.2.1 1)),())))])) a7) a7)<|cond (bJ d.1.1 5) (cond d.1.2.2.2.2.1 (bz (JW e g (bZ .i64 d.1.2.1 1) d.1.2.2.1) fun i=>cond (dN (bP f i.1) 24) (h e g true d.1.2.2.1 (bP f i.1)) a7)<|bz (JW e g (bZ .i64 d.1.2.1 1) (ed .i64 d.1.2.2.1 1)) fun i=>cond (dN (bP f i.1) 24) (h e g true d.1.2.2.1 (bP f i.1)) a7)<|cond (eG (bD e) d.1.2.1 d.1.2.2.1) (cond (dN (bP f [(true,(false,((sub e d.1.2.1 d.1.2.2.1),())))]) 24) (h e g true d.1.2.2.1 (bP f [(true,(false,((sub e d.1.2.1 d.1.2.2.1),())))])) a7) a7
def X0 {l:Type} (i:bQ->(List iO)->Bool->Int->(List DN)->Option l) (m o:(List DN)->Option l) (e:bQ) (f:List iO) (j:Bool) (g:Int) (h:List DN):Option l:=cond (gJ g (bD e)) (bz (YS f g) fun d=>cond (bJ d.2.1 0) (BI d e g h j i f)<|cond (bJ d.1.1 14) (BI d e g h j i f)<|cond (bJ d.1.1 12) (cond (bJ d.1.2.2.1 (bZ .i64 g 1)) (BI d e g h j i f)<|Ij d e h i f j)<|Ij d e h i f j)<|m h
def nS:Nat->bQ->(List iO)->Bool->Int->(List DN)->Option (acL.den⊕adb.den)
 |0,_,_,_,_,_=>a7
 |n+1,d,e,f,g,h=>X0 (nS n) (fun i=>a6 (.inl ((),(i,())))) (fun j=>a6 (.inr ((j,()),()))) d e f g h
def axT (n:Nat) (v:afM.den):=bj (nS n) v
noncomputable def anG:dm:=eP auZ afM acL adb (.exit 0) (axT bG) 6
def arG (d:bQ):Option ((List DN)×Unit):=bz (aea d) fun e=>bz (nS bG d e.1 true 0 []) fun f=>dL f (fun g=>a6 (g.2.1,())) (fun h=>a6 (h.1.1,()))
def avO:Sum:=⟨[.str],[(.list QS,false)],fun x=>arG x.1⟩
noncomputable def alf:Env:=iE prog tt 70 [(103,apa),(104,adA),(105,apb),(106,apc)] [(5,auZ)] [(5,anG)]
def aoO {d:Type} (a:afM.den->Option d) (b:acL.den->Option d) (c:adb.den->Option d) (v:afM.den):Option d:=bj (X0 (fun e f g h i=>a ((e,f,g,h,()),(i,()))) (fun j=>b ((),(j,()))) (ar c)) v
theorem ayu:dJ alf 70 aul anG:=rH (aoO) (h2:=by intros;simp only[aoO,ar,bj,X0,bV,bW,bu,bT,bY,BI,Ij])
theorem aBB:dI alf 70 b70:=nG [aul] (aD (fM (ayu)) aN)
theorem alg:eF alf:=eA f70 (aD aiH (aD Tm (aD aiI (aD aiJ aN)))) (aBB)
theorem aqi:dE prog 70 avO:=sA alg
noncomputable def b44:Code:=(f44.body).getD .skip
noncomputable def auf:Code:=cA (cA (cB (cA (cB (cB (cB (b44)))))))
def auU:dZ:=⟨[3,4,5,100004],[],[4],[],[2],[]⟩
def afG:SP:=⟨us [.u,.u,.u,.v (.list QS),bB,bE] 16,[]⟩
def acF:SP:=⟨us [.u,.u,.u,.u,bB] 17,[]⟩
def ac5:SP:=⟨us er 19,[]⟩
def XV {f:Type} (h:(List DN)->bQ->Int->Option f) (i j:bQ->Option f) (d:List DN) (g:bQ) (e:Int):Option f:=cond (gJ e (bD d)) (cond (fV d e) (cond (fG g (gu d (false,(false,([],()))) e).2.2.1) (h d (bP g (gu d (false,(false,([],()))) e).2.2.1) (bZ .i64 e 1)) a7) a7)<|i g
def I7:Nat->(List DN)->bQ->Int->Option (acF.den⊕ac5.den)
 |0,_,_,_=>a7
 |n+1,d,e,f=>XV (I7 n) (fun g=>a6 (.inl ((g,()),()))) (fun h=>a6 (.inr ((h,()),()))) d e f
def axN (n:Nat) (v:afG.den):=ba (I7 n) v
noncomputable def anA:dm:=eP auU afG acF ac5 (.exit 0) (axN bG) 6
def al4 (d:bQ):Option QR:=bz (arG d) fun e=>bz (I7 bG e.1 [] 0) fun f=>dL f (fun g=>a6 (g.1.1,())) (fun h=>a6 (h.1.1,()))
def avG:Sum:=⟨[.str],Yo,fun x=>al4 x.1⟩
noncomputable def ak2:Env:=iE prog tt 44 [(70,avO)] [(4,auU)] [(4,anA)]
def aoI {d:Type} (a:afG.den->Option d) (b:acF.den->Option d) (c:ac5.den->Option d) (v:afG.den):Option d:=ba (XV (aR a) (ar b) (ar c)) v
theorem ayo:dJ ak2 44 auf anA:=rH (aoI) (h2:=by intros;simp only[aoI,aR,ar,ba,XV,bV,bW,bu,bT,bY])
theorem aBu:dI ak2 44 b44:=nG [auf] (aD (fM (ayo)) aN)
theorem ak3:eF ak2:=eA f44 (aD aqi aN) (aBu)
theorem ap4:dE prog 44 avG:=sA ak3
end
section
open Option renaming some → a6, none → a7
open Tryz
open Go.RowKit
noncomputable def b23:Code:=(f23.body).getD .skip
noncomputable def ake:Code:=cA (cA (cA (cB (cA (cB (cA (cB (cB (cB (cB (cB (b23))))))))))))
noncomputable def akf:Code:=cA (cA (cA (cB (cB (cB (cB (cB (cB (cB (cB (b23)))))))))))
def amV:dZ:=⟨[0,1,6,7,11,12,100014],[],[1,6,7,11,12],[],[6,7],[]⟩
def amW:dZ:=⟨[0,1,5,6,7,11,14,100023],[],[0,1,5,6,7,11,14],[],[6,7],[]⟩
def VO:SP:=⟨us [bB,bE,.u,.u,.u,.u,.ptr 1000006 0,.ptr 1000007 0,.u,.u,.u,.ptr 1000011 0,bE] 173,cR⟩
def Wu:SP:=⟨us [.u,bE,.u,.u,.u,.u,.ptr 1000006 0,.ptr 1000007 0,.u,.u,.u,.ptr 1000011 0,bE] 173,cR⟩
def Xb:SP:=⟨us [] 186,[]⟩
def MJ {e:Type} (v:bQ->Int->Int->Int->Iq->Bool->Int->Bool->Int->Int->Int->Bool->Option e) (u:Int->Int->Int->Iq->Bool->Int->Bool->Int->Int->Int->Bool->Option e) (x:Option e) (f:bQ) (g d h:Int) (i:Iq) (j:Bool) (l:Int) (m:Bool) (o p q:Int) (s:Bool):Option e:=cond (gJ d (bD f)) (cond (fV f d) (cond (!(bJ (bK f d) 10)) (v f g (bZ .i64 d 1) h i j l m o p q s)<|u g d h i j l m o p q s) a7)<|u g d h i j l m o p q s
def He:Nat->bQ->Int->Int->Int->Iq->Bool->Int->Bool->Int->Int->Int->Bool->Option (Wu.den⊕Xb.den)
 |0,_,_,_,_,_,_,_,_,_,_,_,_=>a7
 |n+1,d,e,f,g,h,i,j,l,m,o,p,q=>MJ (He n) (fun s u v x y z A B D E G=>a6 (.inl ((s,u,()),((v,x,y,()),(z,A,()),(B,D,E,G,()),())))) (a6 (.inr ((),()))) d e f g h i j l m o p q
def asz (n:Nat) (v:VO.den):=bv (He n) v
noncomputable def afg:dm:=eP amV VO Wu Xb (.exit 0) (asz bG) 6
def VP:SP:=⟨cL,cE⟩
def Hu:SP:=⟨cL,cE⟩
def Xc:SP:=⟨us [] 186,[]⟩
def MK {f:Type} (z y:bQ->Int->Int->Int->Iq->Bool->Int->Bool->Int->Int->Int->Bool->Int->Iq->Bool->Option f) (B:Option f) (d:bQ) (g e h:Int) (i:Iq) (j:Bool) (l:Int) (m:Bool) (o p q:Int) (s:Bool) (u:Int) (v:Iq) (x:Bool):Option f:=cond (gJ e (bD d)) (cond (fV d e) (bz (IJ (bK d e)) fun A=>cond (bJ A.1 6) (z d g (bZ .i64 e 1) h i j l m o p q s u v x)<|y d g e h i j l m o p q s u v x) a7)<|y d g e h i j l m o p q s u v x
def Hf:Nat->bQ->Int->Int->Int->Iq->Bool->Int->Bool->Int->Int->Int->Bool->Int->Iq->Bool->Option (Hu.den⊕Xc.den)
 |0,_,_,_,_,_,_,_,_,_,_,_,_,_,_,_=>a7
 |n+1,d,e,f,g,h,i,j,l,m,o,p,q,s,u,v=>MK (Hf n) (fun x y z A B D E G I J K L M N O=>a6 (.inl ((x,y,z,()),((A,B,D,()),(E,G,()),(I,J,K,L,()),(M,N,O,()),())))) (a6 (.inr ((),()))) d e f g h i j l m o p q s u v
def asA (n:Nat) (v:VP.den):=bw (Hf n) v
noncomputable def afh:dm:=eP amW VP Hu Xc (.exit 2) (asA bG) 12
def wG (d:Int×Iq×nH):=mg D5 d.2.1 d.2.1
def abu (d:BR) (e:Int×Iq×nH) (f:Int):Option taR:=bz (YZ d.1) fun g=>cond ((bJ d.1 d.1)&&((wG e)&&((ja false false)&&true))) (a6 ((4,(f,((bZ .i64 f (bD g.1)),(false,())))),((d.1,(e.2.1,(false,()))),()))) a7
def abv (d:Hu.den):Option taR:=cond ((bJ d.2.1.1 d.2.1.1)&&((mg D5 d.2.1.2.1 d.2.1.2.1)&&((ja d.2.1.2.2.1 d.2.1.2.2.1)&&true))) (a6 ((5,(d.1.2.1,(d.1.2.2.1,(false,())))),((d.2.1.1,(d.2.1.2.1,(d.2.1.2.2.1,()))),()))) a7
def UG (d:Hu.den):Option taR:=bz (ahS d.1.1 d.1.2.1) fun e=>cond (eG (bD d.1.1) d.1.2.1 e.1) (cond (!(bJ d.2.2.2.2.1.1 0)) (cond (mg D5 d.2.2.2.2.1.2.1 d.2.2.2.2.1.2.1) (cond (eX (sub d.1.1 d.1.2.1 e.1) (sub d.1.1 d.1.2.1 e.1)) (cond (bJ d.2.2.2.2.1.1 d.2.2.2.2.1.1) (cond (ja (bJ d.2.2.2.2.1.1 5) (bJ d.2.2.2.2.1.1 5)) (cond (dN (bP [] d.2.2.2.2.1.2.1) 24) (cond (eX (sub d.1.1 d.1.2.1 e.1) (sub d.1.1 d.1.2.1 e.1)) (cond (bJ d.2.2.2.2.1.1 d.2.2.2.2.1.1) (cond (ja (bJ d.2.2.2.2.1.1 5) (bJ d.2.2.2.2.1.1 5)) (bz (al4 (sub d.1.1 d.1.2.1 e.1)) fun f=>cond (mg D5 d.2.2.2.2.1.2.1 d.2.2.2.2.1.2.1) (cond (eX (sub d.1.1 d.1.2.1 e.1) (sub d.1.1 d.1.2.1 e.1)) (cond (bJ d.2.2.2.2.1.1 d.2.2.2.2.1.1) (cond (ja (bJ d.2.2.2.2.1.1 5) (bJ d.2.2.2.2.1.1 5)) (cond (((eX (sub d.1.1 d.1.2.1 e.1) (sub d.1.1 d.1.2.1 e.1))&&true)&&((eX f.1 f.1)&&true)) (cond (dN (bP (bP [] d.2.2.2.2.1.2.1) [(f.1,((bJ d.2.2.2.2.1.1 5),()))]) 24) (cond (mg D5 d.2.2.2.2.1.2.1 d.2.2.2.2.1.2.1) (cond (eX (sub d.1.1 d.1.2.1 e.1) (sub d.1.1 d.1.2.1 e.1)) (cond (bJ d.2.2.2.2.1.1 d.2.2.2.2.1.1) (cond (ja (bJ d.2.2.2.2.1.1 5) (bJ d.2.2.2.2.1.1 5)) (cond ((eX f.1 f.1)&&((ja (bJ d.2.2.2.2.1.1 5) (bJ d.2.2.2.2.1.1 5))&&true)) (bz (aby (sub d.1.1 d.1.2.1 e.1)) fun g=>cond ((bJ d.2.1.1 d.2.1.1)&&((ja d.2.1.2.2.1 d.2.1.2.2.1)&&true)) (a6 ((6,(d.1.2.1,(e.1,((!g.1),())))),((d.2.1.1,((bP (bP [] d.2.2.2.2.1.2.1) [(f.1,((bJ d.2.2.2.2.1.1 5),()))]),(d.2.1.2.2.1,()))),()))) a7) a7) a7) a7) a7) a7) a7) a7) a7) a7) a7) a7) a7) a7) a7) a7) a7) a7) a7) a7)<|bz (aby (sub d.1.1 d.1.2.1 e.1)) fun f=>cond ((bJ d.2.1.1 d.2.1.1)&&((mg D5 d.2.1.2.1 d.2.1.2.1)&&((ja d.2.1.2.2.1 d.2.1.2.2.1)&&true))) (a6 ((6,(d.1.2.1,(e.1,((!f.1),())))),((d.2.1.1,(d.2.1.2.1,(d.2.1.2.2.1,()))),()))) a7) a7
def alY (h:bQ) (e:Int) (d:Int×Iq×nH):Option taR:=cond d.2.2.1 (cond (fV d.2.1 0) (bz (ary h e (gu d.2.1 ([],(false,())) 0)) fun j=>cond (bJ j.2.1 0) (cond ((bJ d.1 d.1)&&((wG d)&&((ja d.2.2.1 d.2.2.1)&&true))) (a6 ((7,(e,(j.1,(true,())))),((d.1,(d.2.1,(d.2.2.1,()))),()))) a7)<|cond (eG (bD d.2.1) 1 (bD d.2.1)) (cond (bJ d.1 d.1) (cond (wG d) (cond (eG (bD d.2.1) 1 (bD d.2.1)) (cond (mg D5 (sub d.2.1 1 (bD d.2.1)) (sub d.2.1 1 (bD d.2.1))) (cond (wG d) (cond (bJ (bD d.2.1) (bD d.2.1)) (cond (ja (gJ 1 (bD d.2.1)) (gJ 1 (bD d.2.1))) (cond ((bJ d.1 d.1)&&((mg D5 (sub d.2.1 1 (bD d.2.1)) (sub d.2.1 1 (bD d.2.1)))&&((ja (gJ 1 (bD d.2.1)) (gJ 1 (bD d.2.1)))&&true))) (a6 ((7,(e,(j.1,(false,())))),((d.1,((sub d.2.1 1 (bD d.2.1)),((gJ 1 (bD d.2.1)),()))),()))) a7) a7) a7) a7) a7) a7) a7) a7) a7) a7)<|bz (arz h e) fun j=>cond (gJ e j.1) (cond ((bJ d.1 d.1)&&((wG d)&&((ja d.2.2.1 d.2.2.1)&&true))) (a6 ((1,(e,(j.1,(false,())))),((d.1,(d.2.1,(d.2.2.1,()))),()))) a7)<|cond (fV h e) (cond (bJ (bK h e) 10) (cond (wG d) (cond (wG d) (cond (bJ (bD d.2.1) (bD d.2.1)) (cond (ja (gJ 0 (bD d.2.1)) (gJ 0 (bD d.2.1))) (cond ((bJ 0 0)&&((wG d)&&((ja (gJ 0 (bD d.2.1)) (gJ 0 (bD d.2.1)))&&true))) (a6 ((2,(e,((bZ .i64 e 1),(false,())))),((0,(d.2.1,((gJ 0 (bD d.2.1)),()))),()))) a7) a7) a7) a7) a7)<|cond (fV h e) (cond (bJ (bK h e) 35) (bz (He bG h e e 0 d.2.1 false 0 false 0 0 0 false) fun i=>dL i (fun g=>cond ((bJ g.2.1.1 g.2.1.1)&&((mg D5 g.2.1.2.1 g.2.1.2.1)&&((ja g.2.1.2.2.1 g.2.1.2.2.1)&&true))) (a6 ((3,(g.1.1,(g.1.2.1,(false,())))),((g.2.1.1,(g.2.1.2.1,(g.2.1.2.2.1,()))),()))) a7) (fun m=>a7))<|bz (al3 h e) fun i=>cond (gJ 0 i.1) (cond (bJ i.1 4) (abu i d e)<|cond (bJ i.1 5) (abu i d e)<|bz (YZ i.1) fun l=>cond ((bJ 0 0)&&((wG d)&&((ja false false)&&true))) (a6 ((4,(e,((bZ .i64 e (bD l.1)),(false,())))),((0,(d.2.1,(false,()))),()))) a7)<|bz (Hf bG h e e 0 d.2.1 false 0 false 0 0 0 false d.1 d.2.1 d.2.2.1) fun l=>dL l (fun f=>cond (gJ f.1.2.1 f.1.2.2.1) (cond (gJ f.1.2.2.1 (bD f.1.1)) (cond (fV f.1.1 f.1.2.2.1) (cond (bJ (bK f.1.1 f.1.2.2.1) 60) (abv f)<|cond (fV f.1.1 f.1.2.2.1) (cond (bJ (bK f.1.1 f.1.2.2.1) 62) (abv f)<|UG f) a7) a7)<|UG f)<|UG f) (fun o=>a7)) a7) a7
def avu:Sum:=⟨[.str,dw,.pair dw tyM],tzH,fun x=>alY x.1 x.2.1 x.2.2.1⟩
noncomputable def ad4:Env:=iE prog tt 23 [(34,aao),(44,avG),(39,avC),(40,avD),(41,avE),(42,ap2),(43,avF),(45,avH)] [(14,amV),(23,amW)] [(14,afg),(23,afh)]
def agw {d:Type} (a:VO.den->Option d) (b:Wu.den->Option d) (c:Xb.den->Option d) (v:VO.den):Option d:=bv (MJ (fun e f g h i j l m o p q s=>a ((e,f,g,()),((h,i,j,()),(l,m,()),(o,p,q,s,()),()))) (fun u x y z A B D E G I J=>b ((u,x,()),((y,z,A,()),(B,D,()),(E,G,I,J,()),()))) (c ((),()))) v
theorem atc:dJ ad4 23 ake afg:=rH (agw) (h2:=by intros;simp only[agw,bv,MJ,bV,bW,bu,bT,bY])
def agx {d:Type} (a:VP.den->Option d) (b:Hu.den->Option d) (c:Xc.den->Option d) (v:VP.den):Option d:=bw (MK (fun e f g h i j l m o p q s u x y=>a ((e,f,g,()),((h,i,j,()),(l,m,()),(o,p,q,s,()),(u,x,y,()),()))) (fun z A B D E G I J K L M N O S U=>b ((z,A,B,()),((D,E,G,()),(I,J,()),(K,L,M,N,()),(O,S,U,()),()))) (c ((),()))) v
theorem atd:dJ ad4 23 akf afh:=rH (agx) (h2:=by intros;simp only[agx,bw,MK,bV,bW,bu,bT,bY])
theorem aBj:dI ad4 23 b23:=nG [ake,akf] (aD (fM (atc)) (aD (fM (atd)) aN))
theorem akG:eF ad4:=eA f23 (aD uT (aD ap4 (aD apZ (aD ap0 (aD ap1 (aD aas (aD ap3 (aD ap5 aN)))))))) (aBj)
theorem apO:dE prog 23 avu:=sA akG
end
section
open Option renaming some → a6, none → a7
open Bool renaming not_true → ak, not_false → aA
open List renaming mem_cons_of_mem → ai, map_cons → aj, drop_eq_getElem_cons → au, mem_cons_self → az, drop_of_length_le → aB
open Nat renaming le_refl → af, lt_or_ge → aF
open Go.RowKit
def Lc (n:Nat):bQ:=if n=0 then []else La.getD (n-1) []
def Xk (u t:bQ):Bool:=decide (t.take u.length=u)
def o9 (t:bQ):Nat->Nat
 |0=>0
 |n+1=>if Xk (Lc (n+1)) t=true/\(Lc (o9 t n)).length<(Lc (n+1)).length then n+1 else o9 t n
theorem Jr: ∀n:Fin 18,YZ ((n.val:Nat):Int)=a6 (Lc n.val,()):=by decide+kernel
theorem afo: ∀n:Fin 18,(Lc n.val).length<=3:=by decide+kernel
theorem Yw (t:bQ): ∀n,o9 t n<=n
 |0=>af _
 |n+1=>by rw[o9];split<;>have:=Yw t n<;>omega
theorem ZY (s:bQ) (l:s.length<1000000) {a:Nat} (m:a<=s.length): ∀(d N k:Nat),k+d=17->d<N->
  I4 N s (a:Int) ((o9 (s.drop a) k:Nat):Int) ((k+1:Nat):Int)=a6 (.inl ((((o9 (s.drop a) 17:Nat):Int),()),()))
 |d,0,k,_,h=>by omega
 |0,N+1,k,h,_=>by
  have hk:k=17:=by omega
  subst hk;rfl
 |d+1,N+1,k,h,q=>by
  have f:=Jr ⟨k+1,by omega⟩;have u:=Yw (s.drop a) k;have g:=Jr ⟨o9 (s.drop a) k,by omega⟩;have o:=afo ⟨k+1,by omega⟩;simp only at f g o;rw[I4,XT,bM (nD),f,bu];simp only;rw[dA (a:=((k+1:Nat):Int)) (by omega) (by omega),show((k+1:Nat):Int)+1=((k+1+1:Nat):Int) by omega,bF,bF,iZ];have i:=ZY s l m d N (k+1) (by omega) (by omega);rw[o9]at i;by_cases e:a+(Lc (k+1)).length<=s.length
  .rw[bM (nD),dA,show(a:Int)+(((Lc (k+1)).length:Nat):Int)=((a+(Lc (k+1)).length:Nat):Int) by omega,bM (fH (by omega) (by omega) (by omega)),yD];have p:eX ((s.drop a).take (Lc (k+1)).length) (Lc (k+1))=Xk (Lc (k+1)) (s.drop a):=by
    grind [eX,Xk]
   rw[p];cases j:Xk (Lc (k+1)) (s.drop a)with
   |false=>simp_all
   |true=>
    rw[j]at i;rw[aa,g,bu];simp only[bF];by_cases e2:(Lc (o9 (s.drop a) k)).length<(Lc (k+1)).length
    .rw[bM (eU)];simp_all
    simp_all [gX]
  .rw[dD (Eh)];have j:Xk (Lc (k+1)) (s.drop a)=false:=by
    unfold Xk
    grind
   simp_all
theorem aB1 (s:bQ) (d:s.length<1000000) {a:Nat} (e:a<=s.length):al3 s a=a6 (((o9 (s.drop a) 17:Nat):Int),()):=by
 rw[al3];have h:=ZY s d e 17 bG 0 rfl (dK);rw[show I4 bG s (a:Int) 0 1=_ from h,bu];rfl
def opB:bQ:=[38,124,59,60,62,45,40,41]
def vO (c:UInt8):UInt8:=if opB.contains c=true then c else 0
theorem Vf: ∀(x u:bQ),(∀c∈u,opB.contains c=true)->(x.map vO=u↔x=u)
 |[],[],_=>Iff.rfl
 |[],_::_,_=>by simp
 |_::_,[],_=>by simp
 |c::x,d::u,h=>by
  have f:=h d (az ..);have i:=Vf x u fun c g=>h c (ai _ g);rw[aj,List.cons.injEq,List.cons.injEq,i];have:vO c=d↔c=d:=by
   unfold vO;split
   .exact Iff.rfl
   .rename_i g
    constructor
    .intro e;rw[<-e]at f;exact absurd f (by decide)
    grind
  rw[this]
theorem SB: ∀u∈La,∀c∈u,opB.contains c=true:=by decide
theorem anU (x:bQ):ofF (x.map vO)=ofF x:=by
 unfold ofF;have:La.findIdx? (· ==x.map vO)=La.findIdx? (· ==x):=by
  have h: ∀l:List bQ,(∀u∈l,∀c∈u,opB.contains c=true)->l.findIdx? (· ==x.map vO)=l.findIdx? (· ==x):=by
   intro l
   induction l with
   |nil=>intro _;rfl
   |cons u l d=>
    intro h;have e:(u==x.map vO)=(u==x):=by
     have:=Vf x u (h u (az ..))
     grind
    grind
  exact h La SB
 rw[this]
theorem an2 (t:bQ):zy t=zy ((t.take 3).map vO):=by
 have h: ∀n,n<=3->Lh t n=Lh ((t.take 3).map vO) n:=by
  intro n d
  induction n with
  |zero=>rfl
  |succ n e=>
   rw[Lh,Lh,<-List.map_take,List.take_take,Nat.min_eq_left d,anU,e (by omega)]
 grind [zy]
theorem Nc (t:bQ): ∀n,n<=17->o9 t n=o9 ((t.take 3).map vO) n
 |0,_=>rfl
 |n+1,i=>by
  have f:=Nc t n (by omega);have d:=afo ⟨n+1,by omega⟩;simp only at d;have e:Xk (Lc (n+1)) t=Xk (Lc (n+1)) ((t.take 3).map vO):=by
   unfold Xk;rw[<-List.map_take,List.take_take,Nat.min_eq_left d];have g: ∀c∈Lc (n+1),opB.contains c=true:=by
    have:Lc (n+1)∈La:=by
     have h: ∀n:Fin 17,Lc (n.val+1)∈La:=by decide+kernel
     exact h ⟨n,by omega⟩
    exact SB _ this
   rw[decide_eq_decide,Vf _ _ g]
  rw[o9,o9,e,f]
def nB (n:Fin 9):UInt8:=([0,38,124,59,60,62,45,40,41]:bQ).getD n.val 0
def okB (t:bQ):Bool:=zy t==(o9 t 17,(Lc (o9 t 17)).length)
theorem ok0:okB []=true:=by decide+kernel
theorem ok1: ∀a,okB [nB a]=true:=by decide+kernel
theorem ok2: ∀a b,okB [nB a,nB b]=true:=by decide+kernel
theorem ok3: ∀a b c,okB [nB a,nB b,nB c]=true:=by decide+kernel
theorem Di (c:UInt8): ∃n,vO c=nB n:=by
 unfold vO;split
 .rename_i h
  have: ∀d∈opB,∃n,d=nB n:=by decide
  simp_all
 .exact⟨0,rfl⟩
theorem afp (t:bQ):zy t=(o9 t 17,(Lc (o9 t 17)).length):=by
 rw[an2,Nc t 17 (af _)];have h:okB ((t.take 3).map vO)=true:=by
  have g:(t.take 3).length<=3:=by grind
  rcases h:t.take 3 with _|⟨a,_|⟨b,_|⟨c,_|⟨d,l⟩⟩⟩⟩
  .exact ok0
  .obtain⟨x,e⟩:=Di a;simp_all [ok1]
  .obtain⟨x,e⟩:=Di a;obtain⟨y,f⟩:=Di b;simp_all [ok2]
  .obtain⟨x,e⟩:=Di a;obtain⟨y,f⟩:=Di b;obtain⟨z,i⟩:=Di c;simp_all [ok3]
  simp_all
 exact eq_of_beq h
theorem aB2 (s:bQ) (d:s.length<1000000) {a:Nat} (e:a<=s.length):al3 s a=a6 ((((zy (s.drop a)).1:Nat):Int),()):=by
 rw[aB1 s d e,afp]
theorem atq (t:bQ):YZ (((zy t).1:Nat):Int)=a6 (Lc (zy t).1,())/\(Lc (zy t).1).length=(zy t).2:=by
 have h:=(Lu t).2.2;refine⟨Jr ⟨(zy t).1,by omega⟩, ?_⟩;rw[afp]
theorem KL {s:List UInt8} (p:s.length<1000000): ∀(N a:Nat),s.length-a<N->a<=s.length->
  ∃o,IZ N s (a:Int)=a6 o/\dL o (fun f=>a6 (f.1.1,())) (fun g=>a6 (g.1.1,()))=a6 ((((a+ul (s.drop a):Nat):Int)),())
 |0,a,h,_=>by omega
 |N+1,a,h,z=>by
  rw[IZ,XR];by_cases e:a<s.length
  .have hd:=au e;have q:fV s (a:Int)=true:=dV;rw[bM (eU (by rw[bF];omega)),q,byte_at e,hd,Gl];simp only[aa];have j: ∀m:Nat,a+m<=s.length->1<=m-> ∃o,IZ N s (bZ .i64 (a:Int) (m:Int))=a6 o/\dL o (fun f=>a6 (f.1.1,())) (fun g=>a6 (g.1.1,()))=a6 ((((a+(ul (s.drop (a+m))+m):Nat):Int)),()):=fun m u A=>by
    obtain⟨o,B,D⟩:=KL p N (a+m) (by omega) u
    grind [dA]
   by_cases h32:s[a]=32
   .have:oI (s[a].toNat:Int)=true:=by rw[h32];rfl
    rw[this,am rfl,h32];exact j 1 (by omega) (by omega)
   .have l:bJ (s[a].toNat:Int) 32=false:=dX fun h=>h32 (UInt8.toNat_inj.1 (by grind));by_cases h9:s[a]=9
    .have:oI (s[a].toNat:Int)=true:=by rw[h9];rfl
     rw[this,am rfl,l,h9];exact j 1 (by omega) (by omega)
    .have v:bJ (s[a].toNat:Int) 9=false:=dX fun h=>h9 (UInt8.toNat_inj.1 (by grind));have x:oI (s[a].toNat:Int)=false:=by
      simp_all [oI,gZ]
     rw[x,ap (by simp),l,v];simp only[ac];have i:xI (s[a]::s.drop (a+1))=false-> ∃o:Wy.den⊕Xg.den,a6 (.inl (((a:Int),()),()))=a6 o/\dL o (fun f=>a6 (f.1.1,())) (fun g=>a6 (g.1.1,()))=a6 ((((a+(if xI (s[a]::s.drop (a+1))=true then ul ((s.drop (a+1)).drop 1)+2 else 0):Nat):Int)),()):=fun h=>by
      rw[h,ap (by simp)];exact⟨_,rfl,rfl⟩
     by_cases h92:s[a]=92
     .rw[h92,show bJ (((92:UInt8).toNat:Nat):Int) 92=true from rfl,aa,dA,show(a:Int)+1=((a+1:Nat):Int) by omega];rw[h92]at i;by_cases e1:a+1<s.length
      .have y:=au e1;rw[bM (eU (by rw[bF];omega)),bM (dV),byte_at e1];by_cases h10:s[a+1]=10
       .rw[h10,show bJ (((10:UInt8).toNat:Nat):Int) 10=true from rfl,aa];have E:xI (92::s.drop (a+1))=true:=by rw[y,h10];rfl
        grind
       .rw[dD (dX fun h=>h10 (UInt8.toNat_inj.1 (by grind)))]
        grind [xI]
      .rw[dD (gX (by rw[bF];omega))];refine i ?_;rw[aB (by omega)];rfl
     .rw[dD (dX fun h=>h92 (UInt8.toNat_inj.1 (by grind)))];refine i ?_;cases s.drop (a+1)with
      |nil=>rfl
      |cons d t=>simp[xI,h92]
  .rw[dD (iG (by rw[bF];omega)),aB (by omega)];exact⟨_,rfl,rfl⟩
theorem aqX {s:List UInt8} (d:s.length<1000000) {a:Nat} (e:a<=s.length):arz s a=a6 ((((a+ul (s.drop a):Nat):Int)),()):=by
 rw[arz];obtain⟨o,f,g⟩:=KL d bG a (dK) e
 grind [bu]
theorem TD {s w:List UInt8} (g:s.length<1000000) {i:Nat} (hi:i<=s.length) (f:Bool): ∀(N k:Nat),i-k<N->k<=i->
  ∃d:Nat,Ol N s (i:Int) (k:Int) w f=a6 (.inl ((s,(i:Int),(d:Int),()),((w,f,()),())))/\d<=i/\k<=d/\(s.take i).drop d=if f=true then((s.take i).drop k).dropWhile (· ==9)else(s.take i).drop k
 |0,k,h,_=>by omega
 |N+1,k,h,hk=>by
  rw[Ol,XQ];cases f with
  |false=>grind
  |true=>
   simp only[aa];by_cases e:k<i
   .have j:k<(s.take i).length:=by simp_all
    have hd:=au j;rw[List.getElem_take]at hd;rw[bM (eU),bM (dV),byte_at (by omega)];by_cases h9:s[k]=9
    .rw[h9,show bJ (((9:UInt8).toNat:Nat):Int) 9=true from rfl,aa,dA,show(k:Int)+1=((k+1:Nat):Int) by omega];obtain⟨d,l,m,o,p⟩:=TD g hi true N (k+1) (by omega) (by omega);exact⟨d,l,m,by omega,by simp_all⟩
    .rw[dD (dX fun h=>h9 (UInt8.toNat_inj.1 (by grind)))];exact⟨k,rfl,hk,af _,by simp_all⟩
   .rw[dD (iG)];refine⟨k,rfl,hk,af _, ?_⟩;simp_all [aB]
theorem RY {s:List UInt8} {f i:Nat} (d:f<=i) (h2:i<iK s f) (e:i<s.length):s[i]≠10:=by
 have:=KU (· !=10) (s.drop f) (i-f) (by grind) (by grind [iK]);simp_all
theorem Oh {s:List UInt8} {f:Nat} (d:iK s f<s.length):s[iK s f]=10:=by
 have:=BU (· !=10) (s.drop f) (by grind [iK]);simp_all [iK]
def aB6 (s:bQ) (h:Nat×Bool):Wx.den⊕Xe.den:=if h.2=true then .inr ((((h.1:Nat):Int),1,()),())else .inl ((s,()),())
theorem FP {s w:List UInt8} (j:s.length<1000000) (d:Bool): ∀(N f i M:Nat),s.length+1-i<N->f<=i->i<=iK s f->f<=s.length->s.length-f<M->
  zo N s (f:Int) (i:Int) w d=a6 (aB6 s (nC s w d M f))
 |0,f,i,M,h,_,_,_,_=>by omega
 |N+1,f,i,0,h,l,z,o,q=>by omega
 |N+1,f,i,M+1,h,l,z,o,q=>by
  have D:=xW o;have u:eX (uJ s d f) w=decide (uJ s d f=w):=by
   grind [eX]
  have stop: ∀N,0<N->zo N s ((s.length+1:Nat):Int) ((s.length+1:Nat):Int) w d=a6 (.inl ((s,()),()))/\zo N s (f:Int) ((s.length+1:Nat):Int) w d=a6 (.inl ((s,()),())):=fun N E=>by
   obtain⟨n,rfl⟩: ∃n,N=n+1:=⟨N-1,by omega⟩;constructor
   ·(rewrite [zo,Jy];delta ry;rw[dD (Eh (by rw[bF];omega))])
   ·(rewrite [zo,Jy];delta ry;rw[dD (Eh (by rw[bF];omega))])
  have v: ∀m,nC s w d m s.length=(s.length,false):=fun m=>by
   cases m with
   |zero=>rfl
   |succ m=>simp_all [nC]
  (rewrite [zo,Jy];delta ry;rw[bM (nD (by rw[bF];omega))])
  by_cases e:i<iK s f
  .have g:i<s.length:=by omega
   rw[bM (eU (by rw[bF];omega)),bM (dV),byte_at g,dX fun h=>RY l e g (UInt8.toNat_inj.1 (by grind))];simp only[aA,aa];rw[dA,show(i:Int)+1=((i+1:Nat):Int) by omega];exact FP j d N f (i+1) (M+1) (by omega) (by omega) (by omega) o q
  .have g:i=iK s f:=by omega
   obtain⟨A,x,G,I,J⟩:=TD (w:=w) j (i:=i) (by omega) d bG f (dK) l;have hT:sub s (A:Int) (i:Int)=uJ s d f:=by
    simp_all [uJ,sub]
   by_cases hl:i<s.length
   .have B:s[i]=10:=by subst g;exact Oh hl
    have p:lY s f=i+1:=by unfold lY;grind
    rw[bM (eU (by rw[bF];omega)),bM (dV),byte_at hl,B,show bJ (((10:UInt8).toNat:Nat):Int) 10=true from rfl];simp only[ak,ac];rw[dD (dX (by rw[bF];omega)),x,bu];simp only[dL];rw[bM (fH (by omega) (by omega) (by rw[bF];omega)),hT,u,nC,am (by omega),p];rw[bM (eU (by rw[bF];omega)),dA,show(i:Int)+1=((i+1:Nat):Int) by omega];by_cases hw:uJ s d f=w
    .rw[decide_eq_true hw,aa,am hw];rfl
    .rw[decide_eq_false hw,ac,ap hw];exact FP j d N (i+1) (i+1) M (by omega) (af _) (uI s _) (by omega) (by omega)
   .have y:i=s.length:=by omega
    rw[dD (gX (by rw[bF];omega)),bM (fU (by rw[bF];omega))];by_cases hfi2:f=i
    .rw[bM (fU),dA,show(i:Int)+1=((s.length+1:Nat):Int) by omega,(stop N (by omega)).2,hfi2,y,v];rfl
    .have p:lY s f=s.length:=by simp_all [lY]
     rw[dD (dX),x,bu];simp only[dL];rw[bM (fH (by omega) (by omega) (by rw[bF];omega)),hT,u,nC,am (by omega),p];rw[dD (gX (by rw[bF];omega))];by_cases hw:uJ s d f=w
     .rw[decide_eq_true hw,aa,am hw,y];rfl
     .rw[decide_eq_false hw,ac,ap hw,v,dA,show(i:Int)+1=((s.length+1:Nat):Int) by omega,(stop N (by omega)).1];rfl
theorem IP (s w:bQ) (d:Bool): ∀(N a:Nat),s.length-a<N->a<=s.length->(nC s w d N a).1<=s.length/\((nC s w d N a).2=false->(nC s w d N a).1=s.length)/\(a<s.length->a<(nC s w d N a).1)
 |0,a,h,_=>by omega
 |N+1,a,h,j=>by
  rw[nC];by_cases e:a<s.length
  .have g:=ZG e;rw[am e];split
   .simp_all
   .have f:=IP s w d N (lY s a) (by omega) g.2;refine⟨f.1,f.2.1,fun _=> ?_⟩;rcases aF (lY s a) s.length with i|i
    .omega
    .cases N with
     |zero=>omega
     |succ N=>simp_all [nC,ap]
  grind
theorem awW {s:List UInt8} (e:s.length<1000000) (d:bQ×Bool×Unit) {a:Nat} (f:a<=s.length):ary s a d=a6 ((((Aa s d.1 d.2.1 a).1:Nat):Int),((if(Aa s d.1 d.2.1 a).2=true then 1 else 0),())):=by
 rw[ary,FP e d.2.1 bG a a bG (dK) (af _) (uI s a) f (dK),bu]
 grind [IP,dK,aB6,Aa,dL,bF]
theorem ao5 {s:fB} (d:gK s):Ic s=(eX (so s) [84]||eX (so s) [84,76]):=by
 rw[ao9 d,agF d]
 match s,d with
 |[],d=>cases d
 |[f],d=>have h:f.1=0:=d;simp[Ic,h]
 |[f,g],d=>
  have e:=d.1;have i:g.1=0:=d.2.2.2
  grind [Ic]
 |f::g::h::r,d=>
  have e:=d.2.2.2.1;have j:=d.2.2.1
  grind [Oi,Ic]
end
section
open Option renaming some → a6, none → a7
open Bool renaming not_false → aA, and_true → aH
open List renaming drop_eq_getElem_cons → au, append_assoc → ax, drop_zero → ay, drop_of_length_le → aB, length_append → aI, nil_append → aO
open Nat renaming le_trans → aG
open Go.RowKit
abbrev Pce:=Bool×Bool×List UInt8×Unit
def dPc:Pce:=(false,(false,([],())))
def jh (l:List Pce):bQ:=(l.map (·.2.2.1)).flatten
theorem uY (a b:List Pce):jh (a++b)=jh a++jh b:=by simp[jh]
theorem BV (x y:Bool) (t:bQ):jh [(x,(y,(t,())))]=t:=by simp[jh]
theorem tJ (L:List jQ) (hl:L.length<1000000) (v m f t u:Int) (o:Bool): ∀(N k:Nat),L.length-k<N->k<=L.length->
  CX N L v (k:Int) m f t u o=a6 (match(L.drop k).find? (fun p=>p.2.1==v)with
   |none=>.inl ((),((m,f,t,u,o,()),()))
   |some p=>.inr ((1,()),((p.1,p.2.1,p.2.2.1,p.2.2.2.1,p.2.2.2.2.1,()),())))
 |0,k,h,_=>by omega
 |N+1,k,h,hk=>by
  rw[CX,L8];by_cases e:k<L.length
  .have d:gu L (0,(0,(0,(0,(false,()))))) (k:Int)=L[k]:=by
    simp_all [gu]
   rw[bM (eU (by rw[bF];omega)),bM (dV),d,au e,List.find?_cons];by_cases h1:L[k].2.1=v
   .simp_all [fU,dV]
   .have:(L[k].2.1==v)=false:=by simpa using h1
    rw[dD (dX h1),dA,show(k:Int)+1=((k+1:Nat):Int) by omega,tJ L hl v m f t u o N (k+1) (by omega) (by omega),this]
  simp_all [iG,bF,aB]
theorem alP (L:List jQ) (hl:L.length<1000000) (v:Int):YS L v=a6 (match uz L v with
  |none=>((0,(0,(0,(0,(false,()))))),(0,()))
  |some p=>(p,(1,()))):=by
 rw[YS];have h:=tJ L hl v 0 0 0 0 false bG 0 (dK) (by omega);rw[show CX bG L v 0 0 0 0 0 false=_ from h,bu,ay];unfold uz;cases L.find? (fun p=>p.2.1==v)with
 |none=>rfl
 |some p=>rfl
theorem aCc (s:bQ) (a b:Int):(sub s a b).length<=(b-a).toNat:=by
 grind [sub]
theorem nV {a b:List UInt8} (h:a.length+b.length<=140737488355328:=by omega):fG a b=true:=by
 grind [fG,kF]
theorem lL {d:Type} {l:List d} {k:Nat} (h:l.length*k<=140737488355328):dN l k=true:=by
 grind [dN,kF]
theorem Ny (s:bQ) (m:s.length<=10000) {to_:Int} (u:to_<=s.length): ∀(N:Nat) (at_:Int) (d:bQ) (out:List Pce),0<N->to_-at_<N->0<=at_->at_<=s.length->(d.length:Int)<=10000*at_->(out.length:Int)<=2*at_->
  ∃f g,sD N s (bU s) to_ d at_ out=a6 (.inl ((f,()),(g,())))/\jh g++f=jh out++d++pG s (bU s) to_ N at_/\(f.length:Int)<=10000*s.length/\(g.length:Int)<=2*s.length
 |0,at_,d,out,G,_,_,_,_,_=>by
  omega
 |N+1,at_,d,out,G,h,v,Y,Z,ho=>by
  (rewrite [sD,L9];delta Dz tZ;rw[pG])
  by_cases e:at_<to_
  .have ab:=zG s;have ad:= @PP s at_;have ae:=Jz s (bU s) at_;have af: ∀(c:bQ) (i:Int),c=(gY s (bU s) at_).2.1->i=(gY s (bU s) at_).1->i<=s.length->
     ∃f g,sD N s (bU s) to_ (bP d c) i out=a6 (.inl ((f,()),(g,())))/\jh g++f=jh out++d++((gY s (bU s) at_).2.1++pG s (bU s) to_ N (gY s (bU s) at_).1)/\(f.length:Int)<=10000*s.length/\(g.length:Int)<=2*s.length:=by
    intro c i z o q;subst z o;obtain⟨f,g,I,J,K,L⟩:=Ny s m u N (gY s (bU s) at_).1 (bP d (gY s (bU s) at_).2.1) out (by omega) (by omega) (by omega) q (by grind [bP]) (by omega)
    grind [bP]
   have push: ∀(l:List Pce) (i:Int),jh l=d++(gY s (bU s) at_).2.1->l.length<=2->i=(gY s (bU s) at_).1->i<=s.length->
     ∃f g,sD N s (bU s) to_ [] i (out++l)=a6 (.inl ((f,()),(g,())))/\jh g++f=jh out++d++((gY s (bU s) at_).2.1++pG s (bU s) to_ N (gY s (bU s) at_).1)/\(f.length:Int)<=10000*s.length/\(g.length:Int)<=2*s.length:=by
    intro l i hl ag o q;subst o;obtain⟨f,g,I,J,K,L⟩:=Ny s m u N (gY s (bU s) at_).1 [] (out++l) (by omega) (by omega) (by omega) q (by simp;omega) (by grind)
    grind [uY]
   have M: ∀c:bQ,c.length<=10000->fG d c=true:=fun c z=>nV;have A: ∀x,dN (bP out [x]) 24=true:=fun x=>lL (by grind [bP]);have O: ∀x y,dN (bP (bP out [x]) [y]) 24=true:=fun x y=>lL (by grind [bP]);have S: ∀a b:Int,(sub s a b).length<=10000:=fun a b=>aG (FV s a b) m;have B:bZ .i64 at_ 1=at_+1:=dA;have U:bZ .i64 at_ 2=at_+2:=dA;have V:eG (bD s) at_ (at_+1)=true:=fH v (by omega) (by rw[bF];omega);rw[bM (eU e),am e,alP (bU s) (by omega),bu];cases hf:uz (bU s) at_ with
   |none=>
    have j:gY s (bU s) at_=(at_+1,sub s at_ (at_+1),false):=by unfold gY;rw[hf]
    simp only[B];rw[show bJ 0 0=true from rfl,aa,V,aa,M _ (S _ _),aa]
    grind
   |some p=>
    obtain⟨D,W⟩:=uA hf;have t0:=D.t0;have t1:=D.t1;simp only[B,U];rw[show bJ 1 0=false from rfl,ac];by_cases hlone:lone p=true
    .have j:gY s (bU s) at_=(at_+1,sub s at_ (at_+1),false):=by simp_all [gY]
     simp_all [lone,fU]
    .have ah: ¬(p.1=12/\p.2.2.1=at_+1):=fun h=>hlone (by simp_all [lone]);have E:eG (bD s) at_ p.2.2.1=true:=fH v (by omega) (by rw[bF];omega);by_cases h13:p.1=13
     .have j:gY s (bU s) at_=(p.2.2.1,Qm s p,false):=by simp_all [gY]
      rw[dD (dX),bM (fU h13)];by_cases hto2:p.2.2.1=at_+2
      .have X:fV s (at_+1)=true:=dV;have ai:eG (bD s) (at_+1) (at_+2)=true:=fH (by omega) (by omega) (by rw[bF];omega);have aj:eG (bD s) at_ (at_+2)=true:=fH (by omega) (by omega) (by rw[bF];omega);have ak:Qm s p=(if bK s (at_+1)=36\/bK s (at_+1)=96\/bK s (at_+1)=34\/bK s (at_+1)=92 then sub s (at_+1) (at_+2)
         else if bK s (at_+1)=10 then []else sub s at_ (at_+2)):=by
        simp_all [Qm,lT]
       rw[bM (fU hto2),X,aa];by_cases b1:bK s (at_+1)=36
       .simp_all [fU]
       .rw[dD (dX b1)];by_cases b2:bK s (at_+1)=96
        .simp_all [fU]
        .rw[dD (dX b2)];by_cases b3:bK s (at_+1)=34
         .simp_all [fU]
         .rw[dD (dX b3)];by_cases b4:bK s (at_+1)=92
          .simp_all [fU]
          .rw[dD (dX b4)];have al: ¬(bK s (at_+1)=36\/bK s (at_+1)=96\/bK s (at_+1)=34\/bK s (at_+1)=92):=by omega
           by_cases b5:bK s (at_+1)=10
           .simp_all [fU,bP]
           simp_all [dX]
      simp_all [dX,Qm,bP]
     .have j:gY s (bU s) at_=(p.2.2.1,lT s p,true):=by simp_all [gY]
      have an:lT s p=sub s at_ p.2.2.1:=by unfold lT;rw[W]
      have ao: ∃f g,(bif !eX d []then
        bif dN (bP out [(false,(true,(d,())))]) 24 then
         bif eG (bD s) at_ p.2.2.1 then
          bif dN (bP (bP out [(false,(true,(d,())))]) [(true,(true,(sub s at_ p.2.2.1,())))]) 24 then
           sD N s (bU s) to_ [] p.2.2.1 (bP (bP out [(false,(true,(d,())))]) [(true,(true,(sub s at_ p.2.2.1,())))])
          else a7
         else a7
        else a7
       else bif eG (bD s) at_ p.2.2.1 then
        bif dN (bP out [(true,(true,(sub s at_ p.2.2.1,())))]) 24 then
         sD N s (bU s) to_ [] p.2.2.1 (bP out [(true,(true,(sub s at_ p.2.2.1,())))])
        else a7
       else a7)=a6 (.inl ((f,()),(g,())))/\jh g++f=jh out++d++((gY s (bU s) at_).2.1++pG s (bU s) to_ N (gY s (bU s) at_).1)/\(f.length:Int)<=10000*s.length/\(g.length:Int)<=2*s.length:=by
       by_cases he:d=[]
       .have:=push [(true,(true,(sub s at_ p.2.2.1,())))] p.2.2.1 (by simp_all [BV]) (by simp) (by rw[j]) (by omega);rw[show(!eX d [])=false by rw[he];rfl,ac,E,aa,A,aa];exact this
       .have:=push ([(false,(true,(d,())))]++[(true,(true,(sub s at_ p.2.2.1,())))]) p.2.2.1 (by grind [uY,BV]) (by simp) (by rw[j]) (by omega);rw[show(!eX d [])=true by simp_all [eX],aa,A,aa,E,aa,O,aa];rw[<-ax]at this;exact this
      by_cases h12:p.1=12
      .simp_all [dX]
      simp_all [dX]
  .rw[dD (iG e),ap e]
   grind
theorem ajw (s:bQ) (g:s.length<=10000) {from_ to_:Int} (h:0<=from_) (i:from_<=s.length) (j:to_<=s.length):
  ∃out,JW s (bU s) from_ to_=a6 (out,())/\jh out=pG s (bU s) to_ s.length from_/\out.length<=2*s.length+1:=by
 obtain⟨d,out,l,e,o,p⟩:=Ny s g j bG from_ [] [] (by unfold bG;omega) (by have:=dK (n:=s.length) (by omega);omega) h i (by simp;omega) (by simp;omega);have m:pG s (bU s) to_ bG from_=pG s (bU s) to_ s.length from_:=Iz s to_ _ _ _ (by have:=dK (n:=s.length) (by omega);omega) (by omega);rw[m,show jh []=([]:bQ) from rfl,aO,aO]at e;rw[JW,l,bu];simp only[dL];have f: ∀x,dN (bP out [x]) 24=true:=fun x=>lL (by grind [bP]);by_cases he:d=[]
 .rw[show(!eX d [])=false by rw[he];rfl,ac];subst he;rw[List.append_nil]at e;by_cases ho:out.length=0
  .rw[bM (fU (by rw[bF];omega)),f,aa];exact⟨_,rfl,by grind [bP,uY,BV],by simp_all [bP]⟩
  .rw[dD (dX (by rw[bF];omega))]
   grind
 .rw[show(!eX d [])=true by simp_all [eX],aa,f,aa];exact⟨_,rfl,by unfold bP;rw[uY,BV,e],by grind [bP]⟩
theorem o8 (l:List Pce) (x:Pce):jh (l++[x])=jh l++x.2.2.1:=by simp[jh]
theorem aof (out:List Pce) (t:bQ) (e:Bool) (f:out.length<1000000000) (g:(jh out).length+t.length<=100000000000000):
  ∃d,Ro out t e=a6 (d,())/\jh d=jh out++t/\d.length<=out.length+1:=by
 have one: ∃d,(bif dN (bP [] out) 24 then bif dN (bP (bP [] out) [(false,(false,(t,())))]) 24 then a6 ((bP (bP [] out) [(false,(false,(t,())))]),())else a7 else a7)=a6 (d,())/\jh d=jh out++t/\d.length<=out.length+1:=by
  rw[bM (lL (by grind [bP])),bM (lL (by grind [bP]))];exact⟨_,rfl,by simp_all [bP,uY,BV],by unfold bP;simp⟩
 (rewrite [Ro];delta Uy ql jl kK rY jk oK iM fD)
 rcases List.eq_nil_or_concat out with rfl|⟨l,x,rfl⟩
 .assumption
 .rw[List.concat_eq_append]at*;cases e with
  |true=>
   simp_all
  |false=>
   rw[o8,aI]at g;rw[aI,List.length_singleton]at f;have h:ed .i64 (bD (l++[x])) 1=(l.length:Int):=by grind [bF,iZ]
   have i:gu (l++[x]) (false,(false,([],()))) (l.length:Int)=x:=IL rfl;have j:fV (l++[x]) (l.length:Int)=true:=dV (by omega) (by grind);have m:eG (bD (l++[x])) 0 (l.length:Int)=true:=fH (by omega) (by omega) (by grind [bF]);have o:sub (l++[x]) 0 (l.length:Int)=l:=by simp[sub]
   have p:fG x.2.2.1 t=true:=nV;have q:dN (bP [] l) 24=true:=lL (by grind [bP]);have s: ∀y,dN (bP (bP [] l) [y]) 24=true:=fun y=>lL (by grind [bP]);rw[bM (eU (by simp_all [bF]))];simp only[aA,aa,h,i,j,m,o,p,q,s,gq,lG,gU,gW,aH,bu];exact⟨_,rfl,by grind [bP,o8],by unfold bP;simp⟩
theorem KD (s:bQ) (v:s.length<=10000): ∀(N:Nat) (at_:Int) (m:Bool) (out:List Pce),(s.length:Int)-at_<N->0<=at_->at_<=s.length->((jh out).length:Int)<=100010000*at_->(out.length:Int)<=30000*at_->
  ∃d,nS N s (bU s) m at_ out=a6 (.inl ((),(d,())))/\jh d=jh out++kC s (bU s) N at_/\(d.length:Int)<=30000*s.length
 |0,at_,m,out,h,_,_,_,_=>by omega
 |N+1,at_,m,out,h,D,I,ht,ho=>by
  (rewrite [nS,X0];delta Ij BI;rw[kC])
  by_cases e:at_<s.length
  .have ab:=zG s;have ad:= @PQ s at_;have J:=aak (s:=s) e;have ae:(stepT s (bU s) at_).2.length<=100010000:=by
    have I:=JA s (bU s) at_;have h2:s.length*s.length<=10000*10000:=Nat.mul_le_mul v v;omega
   have go: ∀(l:List Pce) (f:Bool),jh l=jh out++(stepT s (bU s) at_).2->l.length<=out.length+20002->
     ∃d,nS N s (bU s) f (stepT s (bU s) at_).1 l=a6 (.inl ((),(d,())))/\jh d=jh out++((stepT s (bU s) at_).2++kC s (bU s) N (stepT s (bU s) at_).1)/\(d.length:Int)<=30000*s.length:=by
    intro l f hl hn;obtain⟨d,r1,r2,r3⟩:=KD s v N (stepT s (bU s) at_).1 f l (by omega) (by omega) J (by grind) (by omega)
    grind
   have K: ∀(t:bQ) (g:Int),t=(stepT s (bU s) at_).2->g=(stepT s (bU s) at_).1->
     ∃d,(bz (Ro out t m) fun i=>nS N s (bU s) false g i.1)=a6 (.inl ((),(d,())))/\jh d=jh out++((stepT s (bU s) at_).2++kC s (bU s) N (stepT s (bU s) at_).1)/\(d.length:Int)<=30000*s.length:=by
    intro t g y u;subst y u;obtain⟨o,L,M,p3⟩:=aof out (stepT s (bU s) at_).2 m (by omega) (by omega);rw[L,bu];exact go o false M (by omega)
   have O: ∀(x:Pce) (g:Int),x.2.2.1=(stepT s (bU s) at_).2->g=(stepT s (bU s) at_).1->
     ∃d,(bif dN (bP out [x]) 24 then nS N s (bU s) true g (bP out [x])else a7)=a6 (.inl ((),(d,())))/\jh d=jh out++((stepT s (bU s) at_).2++kC s (bU s) N (stepT s (bU s) at_).1)/\(d.length:Int)<=30000*s.length:=by
    intro x g y u;subst u;rw[bM (lL (by grind [bP]))];simp_all [bP,o8]
   have af: ∀(g:Int),(stepT s (bU s) at_).2=[]->g=(stepT s (bU s) at_).1->
     ∃d,nS N s (bU s) m g out=a6 (.inl ((),(d,())))/\jh d=jh out++((stepT s (bU s) at_).2++kC s (bU s) N (stepT s (bU s) at_).1)/\(d.length:Int)<=30000*s.length:=by
    intro g y u;subst u;exact go out m (by simp_all) (by omega)
   have z:bZ .i64 at_ 1=at_+1:=dA;have S:eG (bD s) at_ (at_+1)=true:=fH D (by omega) (by rw[bF];omega);rw[bM (eU (b:=bD s) e),am e,alP (bU s) (by omega),bu];cases hf:uz (bU s) at_ with
   |none=>
    have j:stepT s (bU s) at_=(at_+1,sub s at_ (at_+1)):=by unfold stepT;rw[hf]
    simp only[z];rw[show bJ 0 0=true from rfl,aa,show bJ 0 1=false from rfl,ac,S,aa];simp_all
   |some p=>
    obtain⟨A,B⟩:=uA hf;have t0:=A.t0;have t1:=A.t1;have U:lT s p=sub s at_ p.2.2.1:=by unfold lT;rw[B]
    have ag:eG (bD s) at_ p.2.2.1=true:=fH D (by omega) (by rw[bF];omega);have V:bZ .i64 p.2.1 1=at_+1:=by rw[B];exact z
    have W:bZ .i64 p.2.1 2=at_+2:=by grind [dA]
    have X:ed .i64 p.2.2.1 1=p.2.2.1-1:=iZ;simp only[z,V,W,X];rw[show bJ 1 0=false from rfl,ac,show bJ 1 1=true from rfl];simp only[aa];by_cases hpl':lone p=true\/p.1=14
    .have j:stepT s (bU s) at_=(p.2.2.1,lT s p):=by simp_all [stepT]
     have:=K (sub s at_ p.2.2.1) p.2.2.1 (by rw[j,U]) (by rw[j]);by_cases E:p.1=14
     .simp_all [fU]
     simp_all [lone,fU]
    .have ah: ¬(p.1=12/\p.2.2.1=at_+1):=fun h=>hpl' (.inl (by simp_all [lone]));have E:p.1≠14:=fun h=>hpl' (.inr h);rw[dD (dX E)];by_cases h13:p.1=13
     .have j:stepT s (bU s) at_=(p.2.2.1,Qn s p):=by simp_all [stepT]
      rw[dD (dX),bM (fU h13)];by_cases hto2:p.2.2.1=at_+2
      .rw[bM (fU hto2),bM (dV)];by_cases b5:bK s (at_+1)=10
       .simp_all [fU,Qn]
       .rw[dX b5];simp only[aA,aa];rw[bM (fH (by omega) (by omega) (by rw[bF];omega))];simp_all [Qn]
      simp_all [dX,Qn]
     .have ai: ∃d,(bif bJ p.1 4 then
        bif p.2.2.2.2.1 then
         bif eG (bD s) (at_+1) p.2.2.1 then
          bif dN (bP out [(false,(true,(sub s (at_+1) p.2.2.1,())))]) 24 then
           nS N s (bU s) true p.2.2.1 (bP out [(false,(true,(sub s (at_+1) p.2.2.1,())))])
          else a7
         else a7
        else bif eG (bD s) (at_+1) (p.2.2.1-1)then
         bif dN (bP out [(false,(true,(sub s (at_+1) (p.2.2.1-1),())))]) 24 then
          nS N s (bU s) true p.2.2.1 (bP out [(false,(true,(sub s (at_+1) (p.2.2.1-1),())))])
         else a7
        else a7
       else bif bJ p.1 5 then
        bif p.2.2.2.2.1 then
         bz (JW s (bU s) (at_+1) p.2.2.1) fun i=>
          bif dN (bP out i.1) 24 then nS N s (bU s) true p.2.2.1 (bP out i.1)else a7
        else
         bz (JW s (bU s) (at_+1) (p.2.2.1-1)) fun i=>
          bif dN (bP out i.1) 24 then nS N s (bU s) true p.2.2.1 (bP out i.1)else a7
       else bif eG (bD s) p.2.1 p.2.2.1 then
        bif dN (bP out [(true,(false,(sub s p.2.1 p.2.2.1,())))]) 24 then
         nS N s (bU s) true p.2.2.1 (bP out [(true,(false,(sub s p.2.1 p.2.2.1,())))])
        else a7
       else a7)=a6 (.inl ((),(d,())))/\jh d=jh out++((stepT s (bU s) at_).2++kC s (bU s) N (stepT s (bU s) at_).1)/\(d.length:Int)<=30000*s.length:=by
       by_cases h4:p.1=4
       .have j:stepT s (bU s) at_=(p.2.2.1,sub s (p.2.1+1) (vg p)):=by simp_all [stepT]
        rw[bM (fU h4)];cases hop:p.2.2.2.2.1 with
        |true=>
         rw[aa,bM (fH (by omega) (by omega) (by rw[bF];omega))];exact O _ _ (by rw[j,B];unfold vg;rw[hop,am rfl]) (by rw[j])
        |false=>
         have:=A.sh hop (by omega);rw[ac,bM (fH (by omega) (by omega) (by rw[bF];omega))];simp_all [vg]
       .rw[dD (dX h4)];by_cases h5:p.1=5
        .have j:stepT s (bU s) at_=(p.2.2.1,pG s (bU s) (vg p) s.length (p.2.1+1)):=by simp_all [stepT]
         rw[bM (fU h5)];have G: ∀q:Int,q=vg p->q<=s.length-> ∃d,(bz (JW s (bU s) (at_+1) q) fun i=>
           bif dN (bP out i.1) 24 then nS N s (bU s) true p.2.2.1 (bP out i.1)else a7)=a6 (.inl ((),(d,())))/\jh d=jh out++((stepT s (bU s) at_).2++kC s (bU s) N (stepT s (bU s) at_).1)/\(d.length:Int)<=30000*s.length:=by
          intro q aj Y;obtain⟨o,Z,d2,d3⟩:=ajw s v (from_:=at_+1) (to_:=q) (by omega) (by omega) Y;rw[Z,bu];simp only;rw[bM (lL (by grind [bP]))];have:=go (bP out o) true (by simp_all [bP,uY]) (by grind [bP]);simp_all
         cases hop:p.2.2.2.2.1 with
         |true=>rw[aa];exact G _ (by unfold vg;rw[hop,am rfl]) (by omega)
         |false=>rw[ac];exact G _ (by simp_all [vg]) (by omega)
        .have j:stepT s (bU s) at_=(p.2.2.1,lT s p):=by simp_all [stepT]
         simp_all [dX]
      by_cases h12:p.1=12
      .simp_all [dX]
      simp_all [dX]
  .rw[dD (iG (by rw[bF];omega)),ap e]
   grind
theorem O6 (l:List Pce) (hl:l.length<1000000000) (d:(jh l).length<=100000000000000): ∀(N k:Nat),l.length-k<N->k<=l.length->
  I7 N l (jh (l.take k)) (k:Int)=a6 (.inl ((jh l,()),()))
 |0,k,h,_=>by omega
 |N+1,k,h,hk=>by
  rw[I7,XV];by_cases e:k<l.length
  .have f:gu l (false,(false,([],()))) (k:Int)=l[k]:=by
    simp_all [gu]
   have g:jh (l.take (k+1))=jh (l.take k)++l[k].2.2.1:=by grind [List.take_add_one,o8]
   have i:(jh (l.take (k+1))).length<=(jh l).length:=by
    grind [List.take_append_drop,uY]
   rw[bM (eU (by rw[bF];omega)),bM (dV),f,bM (nV (by grind)),dA,show(k:Int)+1=((k+1:Nat):Int) by omega,
    show bP (jh (l.take k)) l[k].2.2.1=jh (l.take (k+1)) from g.symm]
   exact O6 l hl d N (k+1) (by omega) (by omega)
  simp_all [iG,bF,List.take_of_length_le]
theorem ag4 (s:bQ) (d:s.length<=10000):(Gj s).length<=1000100000000:=by
 have h:=QY s (bU s) s.length 0;have e:s.length*s.length<=10000*10000:=Nat.mul_le_mul d d;have f:s.length*(s.length*s.length+s.length)<=10000*(10000*10000+10000):=Nat.mul_le_mul d (by omega);unfold Gj;omega
theorem av7 (s:bQ) (d:s.length<=10000):al4 s=a6 (Gj s,()):=by
 obtain⟨out,f,g,l⟩:=KD s d bG 0 true [] (by have:=dK (n:=s.length) (by omega);omega) (by omega) (by omega) (by simp[jh]) (by simp);have h:kC s (bU s) bG 0=Gj s:=EI s _ _ _ (by have:=dK (n:=s.length) (by omega);omega) (by omega);have i:arG s=a6 (out,()):=by
  rw[arG,awc s (by omega),bu];simp only;rw[f,bu];rfl
 have e:jh out=Gj s:=by rw[g,h];rfl
 have m:=ag4 s d;rw[al4,i,bu];simp only;have j:=O6 out (by omega) (by rw[e];omega) bG 0 (dK) (by omega);rw[show I7 bG out [] 0=_ from j,bu,<-e];rfl
end
section
open List renaming drop_eq_getElem_cons → au, length_drop → aQ
open Go.RowKit
abbrev Tok:=Int×Int×Int×Bool×Unit
abbrev Dlm:=List UInt8×Bool×Unit
abbrev Yr:=Int×List Dlm×Bool×Unit
def dDl:Dlm:=([],(false,()))
def rE (s:bQ) (a:Nat):Nat:=a+Af (s.drop a) a eQ
def Ul (s:bQ) (a b:Nat):bQ:=(s.take b).drop a
def agD (w:bQ):Bool:=Ic (lH w 0 eQ).1
theorem Qg {s:List UInt8} {a:Nat} (h:a<=s.length):a<=rE s a/\rE s a<=s.length:=by
 grind [adZ,rE]
def jB (s:bQ) (a:Nat):Tok:=if ul (s.drop a)≠0 then(1,a,((a+ul (s.drop a):Nat):Int),false,())else if bK s a=10 then(2,a,((a+1:Nat):Int),false,())else if bK s a=35 then(3,a,(iK s a:Nat),false,())else if(zy (s.drop a)).2≠0 then(4,a,((a+(zy (s.drop a)).2:Nat):Int),false,())else if zx (s.drop a)≠0 then(5,a,((a+zx (s.drop a):Nat):Int),false,())else(6,a,(rE s a:Nat), !agD (Ul s a (rE s a)),())
def kJ (s:bQ) (a:Nat) (x:Yr):Yr:=if ul (s.drop a)≠0 then(x.1,x.2.1,false,())else if bK s a=10 then(0,x.2.1,decide (0<x.2.1.length),())else if bK s a=35 then(0,x.2.1,false,())else if(zy (s.drop a)).2≠0 then((if(zy (s.drop a)).1=4\/(zy (s.drop a)).1=5 then(((zy (s.drop a)).1:Nat):Int)else 0),x.2.1,false,())else if zx (s.drop a)≠0 then(0,x.2.1,false,())else(0,(if x.1=0 then x.2.1 else x.2.1++[(Gj (Ul s a (rE s a)),decide (x.1=5),())]),false,())
def kT (s:bQ) (a:Nat) (x:Yr):Tok×Yr:=if x.2.2.1=true then(if(Aa s (x.2.1.headD dDl).1 (x.2.1.headD dDl).2.1 a).2=true then((7,a,((Aa s (x.2.1.headD dDl).1 (x.2.1.headD dDl).2.1 a).1:Nat),false,()),(x.1,x.2.1.tail,decide (1<x.2.1.length),()))else((7,a,((Aa s (x.2.1.headD dDl).1 (x.2.1.headD dDl).2.1 a).1:Nat),true,()),x))else(jB s a,kJ s a x)
theorem an1 {c:UInt8} {t:List UInt8} (h:Ei (c.toNat:Int)=true):(zy (c::t)).2≠0:=by
 have d:ofF [c]≠0:=by
  have: ∀n:Fin 256,Ei ((n.val:Nat):Int)=true->ofF [UInt8.ofNat n.val]≠0:=by decide+kernel
  have:=this ⟨c.toNat,c.toNat_lt⟩ h;simpa using this
 have e: ∀n,(Lh (c::t) (n+1)).2≠0:=by
  intro n
  induction n with
  |zero=>simp_all [Lh]
  |succ n f=>
   grind [Lh]
 grind [zy]
theorem yC {s:List UInt8} (m:s.length<=10000) {a:Nat} (g:a<s.length) (x:Yr):(a:Int)<(kT s a x).1.2.2.1/\(kT s a x).1.2.2.1<=s.length/\(kT s a x).1.2.1=a:=by
 unfold kT;split
 .have h:=IP s (x.2.1.headD dDl).1 (x.2.1.headD dDl).2.1 bG a (dK) (by omega);have i:=h.2.2 g;have d:=h.1;unfold Aa
  grind
 .unfold jB;have hd:=au g;split
  .have:=Ub (s.drop a)
   grind
  .split
   .grind
   .split
    .rename_i o
     have d:=uI s a;have i:=xW (s:=s) (a:=a) (by omega);have p:iK s a≠a:=by
      intro e;have:=Oh (s:=s) (f:=a) (by omega);simp_all [byte_at]
     grind
    .split
     .have:=(Lu (s.drop a)).1
      grind
     .split
      .rename_i q
       have d:=LW (s.drop a);rw[aQ]at d;have:zx (s.drop a)<=jT (s.drop a):=by grind [zx]
       grind
      .rename_i u v _ y _
       have j:=Qg (s:=s) (a:=a) (by omega);have:Af (s.drop a) a eQ≠0:=by
        rw[hd,Af];have l:pg eQ.1 (jd s[a])=false:=by
         unfold pg;have:zZ (jd s[a])=false:=by
          have z:oI (s[a].toNat:Int)=false:=by
           grind [Gl]
          have A:Ei (s[a].toNat:Int)=false:=by
           grind [an1]
          simp_all [byte_at,oI,Ei,zZ,jd]
         rw[this];rfl
        rw[l];simp
       unfold rE at j ⊢
       grind
end
section
open Option renaming some → a6, none → a7
open Bool renaming false_eq_true → ah, not_false → aA, and_true → aH, not_eq_true → aV
open List renaming length_drop → aQ
open Nat renaming le_refl → af
open Go.RowKit
theorem YF {s:List UInt8} (y:s.length<1000000) {a:Nat} (v:a<=s.length) (d f:Int) (g:List Dlm) (j:Bool) (l:Int) (m:Bool) (o p q:Int) (u:Bool): ∀(N i:Nat),s.length-i<N->a<=i->i<=iK s a->
  He N s d (i:Int) f g j l m o p q u=a6 (.inl ((d,((iK s a:Nat):Int),()),((f,g,j,()),(l,m,()),(o,p,q,u,()),())))
 |0,i,h,_,z=>by omega
 |N+1,i,h,A,z=>by
  have D:=xW v;rw[He,MJ];by_cases e:i<iK s a
  .have x:i<s.length:=by omega
   rw[bM (eU (by rw[bF];omega)),bM (dV),byte_at x,dX fun h=>RY A e x (UInt8.toNat_inj.1 (by grind))];simp only[aA,aa];rw[dA,show(i:Int)+1=((i+1:Nat):Int) by omega];exact YF y v d f g j l m o p q u N (i+1) (by omega) (by omega) (by omega)
  .have E:i=iK s a:=by omega
   by_cases hl:i<s.length
   .have B:s[i]=10:=by grind [Oh]
    rw[bM (eU (by rw[bF];omega)),bM (dV),byte_at hl,B,show bJ (((10:UInt8).toNat:Nat):Int) 10=true from rfl];simp_all
   simp_all [iG,bF]
theorem YJ {s:List UInt8} (D:s.length<1000000) {a:Nat} (E:a<=s.length) (d f:Int) (g:List Dlm) (j:Bool) (m:Int) (o:Bool) (p q u:Int) (v:Bool) (x:Int) (y:List Dlm) (z:Bool): ∀(N k:Nat),s.length-(a+k)<N->k<=jT (s.drop a)->
  Hf N s d ((a+k:Nat):Int) f g j m o p q u v x y z=a6 (.inl ((s,d,((a+jT (s.drop a):Nat):Int),()),((f,g,j,()),(m,o,()),(p,q,u,v,()),(x,y,z,()),())))
 |0,k,h,hk=>by omega
 |N+1,k,h,hk=>by
  have J:=LW (s.drop a);have K:=aQ (i:=a) (l:=s);rw[Hf,MK];by_cases e:a+k<s.length
  .have A:k<(s.drop a).length:=by omega
   have B:(s.drop a)[k]=s[a+k]:=by simp
   obtain⟨_,_,c,G,_,I⟩:=ny s[a+k];rw[bM (eU (by rw[bF];omega)),bM (dV),byte_at e,G,bu];simp only[I];by_cases hk2:k<jT (s.drop a)
   .have:=KU KY (s.drop a) k A hk2;rw[B]at this;rw[this,aa,dA,show((a+k:Nat):Int)+1=((a+(k+1):Nat):Int) by omega];exact YJ D E d f g j m o p q u v x y z N (k+1) (by omega) (by omega)
   .obtain rfl:k=jT (s.drop a):=by omega
    have:=BU KY (s.drop a) A;rw[show KY s[a+jT (s.drop a)]=false by rw[<-B];exact this,ac]
  .obtain rfl:k=jT (s.drop a):=by omega
   rw[dD (iG (by rw[bF];omega))]
theorem ajD (w:bQ) (d:w.length<=100000):aby w=a6 (agD w,()):=by
 have e:=(AC w 0 eQ jL).1;rw[aby,az4 w d,bu]
 grind [agD,Ep,ao5]
theorem X9 {s:List UInt8} {a b:Nat}:sub s (a:Int) (b:Int)=Ul s a b:=by simp[sub,Ul]
theorem Nw {s:List UInt8} {a b:Nat}:(Ul s a b).length<=s.length:=by
 grind [Ul]
theorem ajp {s:List UInt8} (d:s.length<=10000) {a:Nat} (e:a<s.length):ahS s (a:Int)=a6 (((rE s a:Nat):Int),()):=by
 rw[azX s (by omega) (by omega) (by omega),Int.toNat_natCast];rfl
theorem awe {s:List UInt8} (q:s.length<=10000) {a:Nat} (v:a<s.length) (x:Yr) (hp:x.2.2.1=true->x.2.1≠[]) (hl:x.2.1.length<=1000000):
  alY s a x=a6 ((kT s a x).1,((kT s a x).2,())):=by
 obtain⟨e,f,z,u⟩:=x;cases u;simp only at hp hl;unfold kT
 (rewrite [alY];delta UG abv abu wG)
 cases z with
 |true=>
  obtain⟨d,r,rfl⟩: ∃d r,f=d::r:=by
   cases f with
   |nil=>simp_all
   |cons d r=>simp
  simp only[aa,if_true];rw[bM (dV (by omega) (by simp)),show gu (d::r) ([],(false,())) 0=d from rfl,awW (by omega) d (by omega),bu];simp only[List.headD_cons];by_cases hh:(Aa s d.1 d.2.1 a).2=true
  rotate_left
  .rw[aV]at hh;simp only[hh,ah,if_false,show bJ 0 0=true from rfl,aa,gq,gW,gU,aH]
  .have A:sub (d::r) 1 (bD (d::r))=r:=by simp[sub,bF]
   have m:gJ 1 (bD (d::r))=decide (1<(d::r).length):=by
    unfold gJ bD
    grind
   simp only[hh,if_true,show bJ 1 0=false from rfl,ac,aa,gq,gW,gU,aH,A];have M:eG (bD (d::r)) 1 (bD (d::r))=true:=fH (by omega) (by grind [bF]) (by omega);simp_all
 |false=>
  have m:gJ 0 (bD f)=decide (0<f.length):=by
   simp_all [gJ,bD]
  have B:fV s (a:Int)=true:=dV;simp only[ac,ah,if_false];rw[aqX (by omega) (by omega),bu];simp only;by_cases hb:ul (s.drop a)=0
  .rw[dD (gX),B,aa];by_cases h10:bK s a=10
   .rw[bM (fU h10)];simp only[gq,gW,gU,aH,aa,m,show bJ 0 0=true from rfl]
    grind [dA,jB,kJ]
   .rw[dD (dX h10)];by_cases h35:bK s a=35
    .rw[bM (fU h35),YF (by omega) (a:=a) (by omega) _ _ _ _ _ _ _ _ _ _ bG a (dK) (af _) (uI s a),bu];simp_all [dL,gq,gW,gU,jB,kJ]
    .obtain⟨l,N⟩:=atq (s.drop a);obtain⟨D,o,O⟩:=Lu (s.drop a);rw[aQ]at D;rw[dD (dX h35),aB2 s (by omega) (by omega),bu];simp only;by_cases ho:(zy (s.drop a)).2=0
     .have p:=o.1 ho;rw[p,dD (show gJ 0 ((0:Nat):Int)=false from rfl)];have hd:=YJ (s:=s) (by omega) (a:=a) (by omega) (a:Int) 0 f false 0 false 0 0 0 false e f false bG 0 (dK) (by omega);rw[Nat.add_zero]at hd;rw[hd,bu];simp only[dL];have E:=LW (s.drop a);rw[aQ]at E;have S:=Qg (s:=s) (a:=a) (by omega);have U: ∀(j:zx (s.drop a)=0),(bz (ahS s (a:Int)) fun g=>
        bif eG (bD s) (a:Int) g.1 then
         bif !bJ e 0 then
          bif mg D5 f f then
           bif eX (sub s (a:Int) g.1) (sub s (a:Int) g.1)then
            bif bJ e e then
             bif ja (bJ e 5) (bJ e 5)then
              bif dN (bP [] f) 24 then
               bif eX (sub s (a:Int) g.1) (sub s (a:Int) g.1)then
                bif bJ e e then
                 bif ja (bJ e 5) (bJ e 5)then
                  bz (al4 (sub s (a:Int) g.1)) fun i=>
                   bif mg D5 f f then
                    bif eX (sub s (a:Int) g.1) (sub s (a:Int) g.1)then
                     bif bJ e e then
                      bif ja (bJ e 5) (bJ e 5)then
                       bif((eX (sub s (a:Int) g.1) (sub s (a:Int) g.1)&&true)&&(eX i.1 i.1&&true))then
                        bif dN (bP (bP [] f) [(i.1,(bJ e 5,()))]) 24 then
                         bif mg D5 f f then
                          bif eX (sub s (a:Int) g.1) (sub s (a:Int) g.1)then
                           bif bJ e e then
                            bif ja (bJ e 5) (bJ e 5)then
                             bif(eX i.1 i.1&&(ja (bJ e 5) (bJ e 5)&&true))then
                              bz (aby (sub s (a:Int) g.1)) fun G=>
                               bif(bJ 0 0&&(ja false false&&true))then
                                a6 (((6:Int),((a:Int),(g.1,(!G.1,())))),(((0:Int),(bP (bP [] f) [(i.1,(bJ e 5,()))],(false,()))),()))
                               else a7
                             else a7
                            else a7
                           else a7
                          else a7
                         else a7
                        else a7
                       else a7
                      else a7
                     else a7
                    else a7
                   else a7
                 else a7
                else a7
               else a7
              else a7
             else a7
            else a7
           else a7
          else a7
         else bz (aby (sub s (a:Int) g.1)) fun i=>
          bif(bJ 0 0&&(mg D5 f f&&(ja false false&&true)))then
           a6 (((6:Int),((a:Int),(g.1,(!i.1,())))),(((0:Int),(f,(false,()))),()))
          else a7
        else a7)=a6 (((6:Int),((a:Int),(((rE s a:Nat):Int),(!agD (Ul s a (rE s a)),())))),(((0:Int),((if e=0 then f else f++[(Gj (Ul s a (rE s a)),decide (e=5),())]),(false,()))),())):=by
       intro j;have V:=Nw (s:=s) (a:=a) (b:=rE s a);rw[ajp q v,bu];simp only;rw[bM (fH (by omega) (by omega) (by rw[bF];omega)),X9];by_cases h0:e=0
       .subst h0;rw[show(!bJ 0 0)=false from rfl,ac,ajD _ (by omega),bu,am rfl];simp_all [gq,gW,gU]
       .rw[dX h0,ap h0];have I:dN (bP [] f) 24=true:=lL (by grind [bP]);have J: ∀y,dN (bP (bP [] f) [y]) 24=true:=fun y=>lL (by grind [bP]);simp only[aA,gq,lG,gW,gU,aH,aa,I];rw[av7 _ (by omega),bu];simp only[gq,lG,gW,gU,aH,aa,J];rw[ajD _ (by omega),bu];rfl
      by_cases hg:jT (s.drop a)=0
      .simp_all [zx,gX,jB,kJ]
      .rw[bM (eU)];by_cases h1:a+jT (s.drop a)<s.length
       .have K:((s.drop a).drop (jT (s.drop a))).head?=a6 s[a+jT (s.drop a)]:=by
         simp
        have L:fV s ((a+jT (s.drop a):Nat):Int)=true:=dV;rw[bM (eU (by rw[bF];omega)),L,aa,byte_at h1];by_cases e1:s[a+jT (s.drop a)]=60
        .have j:zx (s.drop a)=jT (s.drop a):=by unfold zx;simp_all
         rw[e1,show bJ (((60:UInt8).toNat:Nat):Int) 60=true from rfl];simp_all [gq,gW,gU,jB,kJ]
        .rw[dD (dX fun h=>e1 (UInt8.toNat_inj.1 (by grind))),aa];by_cases e2:s[a+jT (s.drop a)]=62
         .have j:zx (s.drop a)=jT (s.drop a):=by unfold zx;simp_all
          rw[e2,show bJ (((62:UInt8).toNat:Nat):Int) 62=true from rfl];simp_all [gq,gW,gU,jB,kJ]
         .have j:zx (s.drop a)=0:=by simp_all [zx]
          rw[dD (dX fun h=>e2 (UInt8.toNat_inj.1 (by grind)))];simp_all [jB,kJ]
       .have K:((s.drop a).drop (jT (s.drop a))).head?=a7:=by
         simp_all
        have j:zx (s.drop a)=0:=by simp_all [zx]
        rw[dD (gX (by rw[bF];omega))];simp_all [jB,kJ]
     .have p:(zy (s.drop a)).1≠0:=fun h=>ho (o.2 h);rw[bM (eU)];have W:bZ .i64 (a:Int) (bD (Lc (zy (s.drop a)).1))=((a+(zy (s.drop a)).2:Nat):Int):=by
       grind [bF,dA]
      by_cases h4:(zy (s.drop a)).1=4
      .rw[bM (fU),l,bu];simp_all [gq,gW,gU,jB,kJ]
      .rw[dD (dX)];by_cases h5:(zy (s.drop a)).1=5
       .rw[bM (fU),l,bu];simp_all [gq,gW,gU,jB,kJ]
       .rw[dD (dX),l,bu];simp_all [gq,gW,gU,jB,kJ]
  .rw[bM (eU)];simp_all [gq,gW,gU,jB,kJ]
end
end Go.Proofs.YtjgoejaajmhllaaGreatDoor
