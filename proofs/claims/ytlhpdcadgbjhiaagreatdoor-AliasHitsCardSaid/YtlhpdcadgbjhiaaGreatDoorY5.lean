/- Parts of the proof, joined and shortened by a program: the plain machine, the functions as it prints them, and the mathematics over them. -/
import Derived.Test.YtlhpdcadgbjhiaaGreatDoorY3
import Derived.Test.YtlhpdcadgbjhiaaGreatDoorY4
set_option linter.unusedVariables false
set_option linter.unusedSimpArgs false
set_option maxRecDepth 100000
set_option maxHeartbeats 4000000
namespace Go.Proofs.YtlhpdcadgbjhiaaGreatDoor
section
open Option renaming some → a6, none → a7
open Tryz
open Go.RowKit
noncomputable def aHc:Code:=(f183.body).getD .skip
noncomputable def aqx:Code:=cA (cA (cB (cA (cB (aHc)))))
def atz:eQ:=⟨[0,1,4,6,100002],[],[4],[],[4,5],[]⟩
def ZK:SP:=⟨us [.v VU,bO,.u,.u,ef,.u,bO] 18,[dv]⟩
def aau:SP:=⟨us [.u,.u,.u,.u,ef] 20,[dv]⟩
def aa7:SP:=⟨us [.u,.u,.u,.u,ef,bO] 19,[dv]⟩
def QI {f:Type} (p:(List jd)->Int->Int->Int->Int->Int->Int->Bool->Option f) (q:Int->Int->Int->Int->Bool->Option f) (s:Int->Int->Int->Int->Int->Bool->Option f) (d:List jd) (g e h i j l:Int) (o:Bool):Option f:=cond (gV e (bI d)) (cond (fD d e) (cond (bP (dw d (0,(0,(0,(0,(false,()))))) e).2.1 g) (cond (fD d e) (s 1 (dw d (0,(0,(0,(0,(false,()))))) e).1 (dw d (0,(0,(0,(0,(false,()))))) e).2.1 (dw d (0,(0,(0,(0,(false,()))))) e).2.2.1 (dw d (0,(0,(0,(0,(false,()))))) e).2.2.2.1 (dw d (0,(0,(0,(0,(false,()))))) e).2.2.2.2.1) a7)<|p d g (di .i64 e 1) h i j l o) a7)<|q h i j l o
def FC:Nat->(List jd)->Int->Int->Int->Int->Int->Int->Bool->Option (aau.den⊕aa7.den)
 |0,_,_,_,_,_,_,_,_=>a7
 |n+1,d,e,f,g,h,i,j,l=>QI (FC n) (fun o p q s u=>a6 (.inl ((),((o,p,q,s,u,()),())))) (fun v x y z A B=>a6 (.inr ((v,()),((x,y,z,A,B,()),())))) d e f g h i j l
def azw (n:Nat) (v:ZK.den):=FC n v.1.1 v.1.2.1 v.1.2.2.1 v.2.1.1 v.2.1.2.1 v.2.1.2.2.1 v.2.1.2.2.2.1 v.2.1.2.2.2.2.1
noncomputable def akb:dE:=fJ atz ZK aau aa7 (.exit 0) (azw bM) 6
def adp (e:List jd) (f:Int):Option (jd×Int×Unit):=bH (FC bM e f 0 0 0 0 0 false) fun g=>dN g (fun h=>a6 ((0,(0,(0,(0,(false,()))))),(0,()))) (fun d=>a6 ((d.2.1.1,(d.2.1.2.1,(d.2.1.2.2.1,(d.2.1.2.2.2.1,(d.2.1.2.2.2.2.1,()))))),(d.1.1,())))
def aih:Sum:=⟨[VU,dA],[(.pair dA Hu,false),(.int .i64,false)],fun x=>adp x.1 x.2.1⟩
noncomputable def age:Env:=iJ prog tt 183 [] [(2,atz)] [(2,akb)]
def alA {d:Type} (a:ZK.den->Option d) (b:aau.den->Option d) (c:aa7.den->Option d) (v:ZK.den):Option d:=QI (fun e f g h i j l o=>a ((e,f,g,()),((h,i,j,l,o,()),()))) (fun p q s u x=>b ((),((p,q,s,u,x,()),()))) (fun y z A B D E=>c ((y,()),((z,A,B,D,E,()),()))) v.1.1 v.1.2.1 v.1.2.2.1 v.2.1.1 v.2.1.2.1 v.2.1.2.2.1 v.2.1.2.2.2.1 v.2.1.2.2.2.2.1
theorem aAl:dQ age 183 aqx akb:=uV (alA) (h2:=by intros;simp only[alA,QI,cO,cZ,bG,bW,dh])
theorem aEv:dM age 183 aHc:=nV [aqx] (aD (fM (aAl)) aN)
theorem ana:eu age:=eA f183 aN (aEv)
theorem XD:dU prog 183 aih:=sA ana
def fU (d:List Gu):=dw d (false,(false,([],()))) (eU .i64 (bI d) 1)
def jc (d:List Gu) (e:bZ):=gG (bT (fU d).2.2.1 e) (bT (fU d).2.2.1 e)
def qU (d:List Gu):=mr VT (sub d 0 (eU .i64 (bI d) 1)) (sub d 0 (eU .i64 (bI d) 1))
def jH (d:List Gu):=mr VT d d
def ve (d:List Gu) (e:bZ):=bT (bT [] (sub d 0 (eU .i64 (bI d) 1))) [(false,(false,((bT (fU d).2.2.1 e),())))]
def lK (d:List Gu):=bP (eU .i64 (bI d) 1) (eU .i64 (bI d) 1)
def jI (d:List Gu):=gG (fU d).2.2.1 (fU d).2.2.1
def sU (d:List Gu):=fE (bI d) 0 (eU .i64 (bI d) 1)
def YC (d:List Gu) (e:bZ):Option ((List Gu)×Unit):=cond (dY (bT [] d) 24) (cond (dY (bT (bT [] d) [(false,(false,(e,())))]) 24) (a6 ((bT (bT [] d) [(false,(false,(e,())))]),())) a7) a7
def Wu (d:List Gu) (e:bZ) (f:Bool):Option ((List Gu)×Unit):=cond (gV 0 (bI d)) (cond (!f) (cond (fD d (eU .i64 (bI d) 1)) (cond (sU d) (cond (iH (fU d).2.2.1 e) (cond (jH d) (cond (bP (bI d) (bI d)) (cond (lK d) (cond (sU d) (cond (qU d) (cond (jI d) (cond (gG e e) (cond (iH (fU d).2.2.1 e) (cond (jc d e) (cond ((jv false false)&&((jv false false)&&((jc d e)&&true))) (cond (dY (bT [] (sub d 0 (eU .i64 (bI d) 1))) 24) (cond (jH d) (cond (bP (bI d) (bI d)) (cond (lK d) (cond (jI d) (cond (gG e e) (cond (iH (fU d).2.2.1 e) (cond (jc d e) (cond ((jv false false)&&((jv false false)&&((jc d e)&&true))) (cond (jH d) (cond (bP (bI d) (bI d)) (cond (lK d) (cond (sU d) (cond (qU d) (cond (jI d) (cond (gG e e) (cond (iH (fU d).2.2.1 e) (cond (jc d e) (cond (dY (ve d e) 24) (cond (jH d) (cond (bP (bI d) (bI d)) (cond (lK d) (cond (sU d) (cond (qU d) (cond (jI d) (cond (gG e e) (cond (iH (fU d).2.2.1 e) (cond (jc d e) (cond ((jv false false)&&((jv false false)&&((jc d e)&&true))) (bH (cond (jH d) (cond (bP (bI d) (bI d)) (cond (lK d) (cond (sU d) (cond (qU d) (cond (jI d) (cond (gG e e) (cond (iH (fU d).2.2.1 e) (cond (jc d e) (cond (dY (bT [] (sub d 0 (eU .i64 (bI d) 1))) 24) (cond (jH d) (cond (bP (bI d) (bI d)) (cond (lK d) (cond (jI d) (cond (gG e e) (cond (iH (fU d).2.2.1 e) (cond (jc d e) (cond ((jv false false)&&((jv false false)&&((jc d e)&&true))) (cond (dY (ve d e) 24) (cond (jH d) (cond (bP (bI d) (bI d)) (cond (lK d) (cond (sU d) (cond (qU d) (cond (jI d) (cond (gG e e) (cond (iH (fU d).2.2.1 e) (cond (jc d e) (cond ((jv false false)&&((jv false false)&&((jc d e)&&true))) (cond ((((jH d)&&((gG e e)&&((jv f f)&&((bP (bI d) (bI d))&&((jH d)&&((bP (bI d) (bI d))&&((bP (bI d) (bI d))&&((jv (gV 0 (bI d)) (gV 0 (bI d)))&&((jv true true)&&((jv f f)&&((jv (!f) (!f))&&((jv (!f) (!f))&&((jH d)&&((bP (bI d) (bI d))&&((lK d)&&(((jv (fU d).1 (fU d).1)&&((jv (fU d).2.1 (fU d).2.1)&&((jI d)&&true)))&&(((jv (fU d).1 (fU d).1)&&((jv (fU d).2.1 (fU d).2.1)&&((jI d)&&true)))&&((jH d)&&((bP (bI d) (bI d))&&((lK d)&&((qU d)&&((jI d)&&((gG e e)&&((jc d e)&&(((jv false false)&&((jv false false)&&((jc d e)&&true)))&&true)))))))))))))))))))))))))&&(((mr VT [(false,(false,((bT (fU d).2.2.1 e),())))] [(false,(false,((bT (fU d).2.2.1 e),())))])&&((mr VT (ve d e) (ve d e))&&(((jv (fU d).1 (fU d).1)&&((jv (fU d).2.1 (fU d).2.1)&&((jI d)&&true)))&&true)))&&true))&&true) (a6 ()) (a7)) (a7)) (a7)) (a7)) (a7)) (a7)) (a7)) (a7)) (a7)) (a7)) (a7)) (a7)) (a7)) (a7)) (a7)) (a7)) (a7)) (a7)) (a7)) (a7)) (a7)) (a7)) (a7)) (a7)) (a7)) (a7)) (a7)) (a7)) (a7)) (a7)) fun g=>bH (cond (jH d) (cond (bP (bI d) (bI d)) (cond (lK d) (cond (sU d) (cond (qU d) (cond (jI d) (cond (gG e e) (cond (iH (fU d).2.2.1 e) (cond (jc d e) (cond (jH d) (cond (bP (bI d) (bI d)) (cond (lK d) (cond (sU d) (cond (qU d) (cond (jI d) (cond (gG e e) (cond (iH (fU d).2.2.1 e) (cond (jc d e) (cond ((jv false false)&&((jv false false)&&((jc d e)&&true))) (cond (dY (bT [] (sub d 0 (eU .i64 (bI d) 1))) 24) (cond (jH d) (cond (bP (bI d) (bI d)) (cond (lK d) (cond (jI d) (cond (gG e e) (cond (iH (fU d).2.2.1 e) (cond (jc d e) (cond ((jv false false)&&((jv false false)&&((jc d e)&&true))) (cond (dY (ve d e) 24) (cond (jH d) (cond (bP (bI d) (bI d)) (cond (lK d) (cond (sU d) (cond (qU d) (cond (jI d) (cond (gG e e) (cond (iH (fU d).2.2.1 e) (cond (jc d e) (cond ((jv false false)&&((jv false false)&&((jc d e)&&true))) (cond ((((jH d)&&((gG e e)&&((jv f f)&&((bP (bI d) (bI d))&&((jH d)&&((bP (bI d) (bI d))&&((bP (bI d) (bI d))&&((jv (gV 0 (bI d)) (gV 0 (bI d)))&&((jv true true)&&((jv f f)&&((jv (!f) (!f))&&((jv (!f) (!f))&&((jH d)&&((bP (bI d) (bI d))&&((lK d)&&(((jv (fU d).1 (fU d).1)&&((jv (fU d).2.1 (fU d).2.1)&&((jI d)&&true)))&&(((jv (fU d).1 (fU d).1)&&((jv (fU d).2.1 (fU d).2.1)&&((jI d)&&true)))&&((jH d)&&((bP (bI d) (bI d))&&((lK d)&&((qU d)&&((jI d)&&((gG e e)&&((jc d e)&&(((jv false false)&&((jv false false)&&((jc d e)&&true)))&&true)))))))))))))))))))))))))&&(((mr VT [(false,(false,((bT (fU d).2.2.1 e),())))] [(false,(false,((bT (fU d).2.2.1 e),())))])&&((mr VT (ve d e) (ve d e))&&(((jv (fU d).1 (fU d).1)&&((jv (fU d).2.1 (fU d).2.1)&&((jI d)&&true)))&&true)))&&true))&&true) (a6 ()) (a7)) (a7)) (a7)) (a7)) (a7)) (a7)) (a7)) (a7)) (a7)) (a7)) (a7)) (a7)) (a7)) (a7)) (a7)) (a7)) (a7)) (a7)) (a7)) (a7)) (a7)) (a7)) (a7)) (a7)) (a7)) (a7)) (a7)) (a7)) (a7)) (a7)) (a7)) (a7)) (a7)) (a7)) (a7)) (a7)) (a7)) (a7)) (a7)) (a7)) fun h=>a6 ((ve d e),())) a7) a7) a7) a7) a7) a7) a7) a7) a7) a7) a7) a7) a7) a7) a7) a7) a7) a7) a7) a7) a7) a7) a7) a7) a7) a7) a7) a7) a7) a7) a7) a7) a7) a7) a7) a7) a7) a7) a7) a7) a7) a7)<|YC d e)<|YC d e
def awK:Sum:=⟨[.list VT,.str,.bool],[(.list VT,true)],fun x=>Wu x.1 x.2.1 x.2.2.1⟩
theorem apb:dU prog 184 awK:=qA f184 [] aN
noncomputable def aHd:Code:=(f185.body).getD .skip
noncomputable def aqy:Code:=cA (cA (cA (cB (cB (cB (cB (aHd)))))))
def atA:eQ:=⟨[0,1,3,9,10,11,100004],[(9,VT)],[9,10],[],[8],[(8,VT)]⟩
def ZL:SP:=⟨us [bR,.v VU,.u,bO,.u,.u,.u,.u,.u,.slc 1800009,bR,bO] 112,[.arr 1800009 VT]⟩
def aav:SP:=⟨us [.u,.u,.u,.u,.u,.u,.u,.u,.u,.slc 1800009,bR] 113,[.arr 1800009 VT]⟩
def aa8:SP:=⟨us [.u,.u,.u,.u,.u,.u,.u,.u,.v (.list VT)] 115,[]⟩
def wB {f:Type} (e:bZ) (d:Int) (g:bZ) (h:bZ->(List jd)->Int->bZ->Int->(List Gu)->Option f) (i:List jd) (j:Int) (l:(jd×Int×Unit)) (o:List Gu):Option f:=cond (fE (bI e) (di .i64 d 1) (di .i64 d 2)) (cond (iH g (sub e (di .i64 d 1) (di .i64 d 2))) (h e i j (bT g (sub e (di .i64 d 1) (di .i64 d 2))) l.1.2.2.1 o) a7) a7
def Gi {o:Type} (f:(jd×Int×Unit)) (e:Int) (d g:bZ) (i:bZ->(List jd)->Int->bZ->Int->(List Gu)->Option o) (j:List jd) (l:Int) (h:List Gu):Option o:=cond (bP f.1.1 13) (cond (bP f.1.2.2.1 (di .i64 e 2)) (cond (fD d (di .i64 e 1)) (cond (bP (bY d (di .i64 e 1)) 36) (wB d e g i j l f h)<|cond (bP (bY d (di .i64 e 1)) 96) (wB d e g i j l f h)<|cond (bP (bY d (di .i64 e 1)) 34) (wB d e g i j l f h)<|cond (bP (bY d (di .i64 e 1)) 92) (wB d e g i j l f h)<|cond (!(bP (bY d (di .i64 e 1)) 10)) (cond (fE (bI d) e (di .i64 e 2)) (cond (iH g (sub d e (di .i64 e 2))) (i d j l (bT g (sub d e (di .i64 e 2))) f.1.2.2.1 h) a7) a7)<|i d j l g f.1.2.2.1 h) a7)<|i d j l g f.1.2.2.1 h)<|cond (!(gG g [])) (cond (dY (bT h [(false,(true,(g,())))]) 24) (cond (fE (bI d) e f.1.2.2.1) (cond (dY (bT (bT h [(false,(true,(g,())))]) [(true,(true,((sub d e f.1.2.2.1),())))]) 24) (i d j l [] f.1.2.2.1 (bT (bT h [(false,(true,(g,())))]) [(true,(true,((sub d e f.1.2.2.1),())))])) a7) a7) a7)<|cond (fE (bI d) e f.1.2.2.1) (cond (dY (bT h [(true,(true,((sub d e f.1.2.2.1),())))]) 24) (i d j l [] f.1.2.2.1 (bT h [(true,(true,((sub d e f.1.2.2.1),())))])) a7) a7
def QJ {l:Type} (o:bZ->(List jd)->Int->bZ->Int->(List Gu)->Option l) (p:bZ->(List Gu)->Option l) (q:(List Gu)->Option l) (e:bZ) (g:List jd) (h:Int) (f:bZ) (d:Int) (i:List Gu):Option l:=cond (gV d h) (bH (adp g d) fun j=>cond (bP j.2.1 0) (cond (fE (bI e) d (di .i64 d 1)) (cond (iH f (sub e d (di .i64 d 1))) (o e g h (bT f (sub e d (di .i64 d 1))) (di .i64 d 1) i) a7) a7)<|cond (bP j.1.1 12) (cond (bP j.1.2.2.1 (di .i64 d 1)) (cond (fE (bI e) d (di .i64 d 1)) (cond (iH f (sub e d (di .i64 d 1))) (o e g h (bT f (sub e d (di .i64 d 1))) (di .i64 d 1) i) a7) a7)<|Gi j d e f o g h i)<|Gi j d e f o g h i)<|p f i
def vF:Nat->bZ->(List jd)->Int->bZ->Int->(List Gu)->Option (aav.den⊕aa8.den)
 |0,_,_,_,_,_,_=>a7
 |n+1,d,e,f,g,h,i=>QJ (vF n) (fun j l=>a6 (.inl ((j,()),(l,())))) (fun o=>a6 (.inr ((o,()),()))) d e f g h i
def azx (n:Nat) (v:ZL.den):=bv (vF n) v
noncomputable def akc:dE:=fJ atA ZL aav aa8 (.exit 0) (azx bM) 6
def Oi (e:bZ) (f:List jd) (g h:Int):Option ((List Gu)×Unit):=bH (vF bM e f h [] g []) fun i=>dN i (fun d=>cond (!(gG d.1.1 [])) (cond (dY (bT d.2.1 [(false,(true,(d.1.1,())))]) 24) (a6 ((bT d.2.1 [(false,(true,(d.1.1,())))]),())) a7)<|cond (bP (bI d.2.1) 0) (cond (dY (bT d.2.1 [(false,(true,(d.1.1,())))]) 24) (a6 ((bT d.2.1 [(false,(true,(d.1.1,())))]),())) a7)<|some (d.2.1,())) (fun j=>a6 (j.1.1,()))
def awL:Sum:=⟨[.str,VU,dA,dA],[(.list VT,false)],fun x=>Oi x.1 x.2.1 x.2.2.1 x.2.2.2.1⟩
noncomputable def agf:Env:=iJ prog tt 185 [(183,aih)] [(4,atA)] [(4,akc)]
def alB {d:Type} (a:ZL.den->Option d) (b:aav.den->Option d) (c:aa8.den->Option d) (v:ZL.den):Option d:=bv (QJ (fun e f g h i j=>a ((e,f,g,h,i,()),(j,()))) (fun l o=>b ((l,()),(o,()))) (aE c)) v
theorem aAm:dQ agf 185 aqy akc:=uV (alB) (h2:=by intros;simp only[alB,aE,bv,QJ,cO,cZ,bG,bW,dh,wB,Gi])
theorem aEw:dM agf 185 aHd:=nV [aqy] (aD (fM (aAm)) aN)
theorem anb:eu agf:=eA f185 (aD XD aN) (aEw)
theorem apc:dU prog 185 awL:=sA anb
noncomputable def aHa:Code:=(f153.body).getD .skip
noncomputable def aqs:Code:=cA (cA (cA (cB (cB (cB (cB (cB (aHa))))))))
def atu:eQ:=⟨[0,3,4,5,6,100005],[(4,.pair (.list .bool) VT)],[4],[],[2],[(2,VT)]⟩
def ZE:SP:=⟨us [bR,.u,.u,.v VU,d8,ca,bO] 130,[.arr 1800004 VT]⟩
def aao:SP:=⟨us [.u,.u,.u,.u,d8] 132,[.arr 1800004 VT]⟩
def aa1:SP:=⟨us [.u,.u,.v (.list VT)] 134,[]⟩
def Au {h:Type} (f:(jd×Int×Unit)) (e:bZ) (d:Int) (i:List Gu) (j:Bool) (l:bZ->(List jd)->Bool->Int->(List Gu)->Option h) (o:List jd):Option h:=cond (bP f.2.1 1) (cond (fE (bI e) d f.1.2.2.1) (bH (Wu i (sub e d f.1.2.2.1) j) fun g=>l e o false f.1.2.2.1 g.1) a7)<|cond (fE (bI e) d (di .i64 d 1)) (bH (Wu i (sub e d (di .i64 d 1)) j) fun g=>l e o false (di .i64 d 1) g.1) a7
def Gh {j:Type} (d:(jd×Int×Unit)) (e:bZ) (f:List Gu) (h:bZ->(List jd)->Bool->Int->(List Gu)->Option j) (g:List jd) (l:Bool):Option j:=cond (bP d.1.1 13) (cond (bP d.1.2.2.1 (di .i64 d.1.2.1 2)) (cond (fD e (di .i64 d.1.2.1 1)) (cond (!(bP (bY e (di .i64 d.1.2.1 1)) 10)) (cond (fE (bI e) (di .i64 d.1.2.1 1) d.1.2.2.1) (cond (dY (bT f [(false,(true,((sub e (di .i64 d.1.2.1 1) d.1.2.2.1),())))]) 24) (h e g true d.1.2.2.1 (bT f [(false,(true,((sub e (di .i64 d.1.2.1 1) d.1.2.2.1),())))])) a7) a7)<|h e g l d.1.2.2.1 f) a7)<|h e g l d.1.2.2.1 f)<|cond (bP d.1.1 4) (cond d.1.2.2.2.2.1 (cond (fE (bI e) (di .i64 d.1.2.1 1) d.1.2.2.1) (cond (dY (bT f [(false,(true,((sub e (di .i64 d.1.2.1 1) d.1.2.2.1),())))]) 24) (h e g true d.1.2.2.1 (bT f [(false,(true,((sub e (di .i64 d.1.2.1 1) d.1.2.2.1),())))])) a7) a7)<|cond (fE (bI e) (di .i64 d.1.2.1 1) (eU .i64 d.1.2.2.1 1)) (cond (dY (bT f [(false,(true,((sub e (di .i64 d.1.2.1 1) (eU .i64 d.1.2.2.1 1)),())))]) 24) (h e g true d.1.2.2.1 (bT f [(false,(true,((sub e (di .i64 d.1.2.1 1) (eU .i64 d.1.2.2.1 1)),())))])) a7) a7)<|cond (bP d.1.1 5) (cond d.1.2.2.2.2.1 (bH (Oi e g (di .i64 d.1.2.1 1) d.1.2.2.1) fun i=>cond (dY (bT f i.1) 24) (h e g true d.1.2.2.1 (bT f i.1)) a7)<|bH (Oi e g (di .i64 d.1.2.1 1) (eU .i64 d.1.2.2.1 1)) fun i=>cond (dY (bT f i.1) 24) (h e g true d.1.2.2.1 (bT f i.1)) a7)<|cond (fE (bI e) d.1.2.1 d.1.2.2.1) (cond (dY (bT f [(true,(false,((sub e d.1.2.1 d.1.2.2.1),())))]) 24) (h e g true d.1.2.2.1 (bT f [(true,(false,((sub e d.1.2.1 d.1.2.2.1),())))])) a7) a7
def QD {l:Type} (i:bZ->(List jd)->Bool->Int->(List Gu)->Option l) (o p:(List Gu)->Option l) (e:bZ) (f:List jd) (j:Bool) (g:Int) (h:List Gu):Option l:=cond (gV g (bI e)) (bH (adp f g) fun d=>cond (bP d.2.1 0) (Au d e g h j i f)<|cond (bP d.1.1 14) (Au d e g h j i f)<|cond (bP d.1.1 12) (cond (bP d.1.2.2.1 (di .i64 g 1)) (Au d e g h j i f)<|Gh d e h i f j)<|Gh d e h i f j)<|o h
def mJ:Nat->bZ->(List jd)->Bool->Int->(List Gu)->Option (aao.den⊕aa1.den)
 |0,_,_,_,_,_=>a7
 |n+1,d,e,f,g,h=>QD (mJ n) (fun i=>a6 (.inl ((),(i,())))) (fun j=>a6 (.inr ((j,()),()))) d e f g h
def azq (n:Nat) (v:ZE.den):=mJ n v.1.1 v.1.2.1 v.1.2.2.1 v.1.2.2.2.1 v.2.1
noncomputable def aj6:dE:=fJ atu ZE aao aa1 (.exit 0) (azq bM) 6
def aiZ (d:bZ):Option ((List Gu)×Unit):=bH (aja d) fun e=>bH (mJ bM d e.1 true 0 []) fun f=>dN f (fun g=>a6 (g.2.1,())) (fun h=>a6 (h.1.1,()))
def awC:Sum:=⟨[.str],[(.list VT,false)],fun x=>aiZ x.1⟩
noncomputable def agb:Env:=iJ prog tt 153 [(182,awJ),(183,aih),(184,awK),(185,awL)] [(5,atu)] [(5,aj6)]
def als {d:Type} (a:ZE.den->Option d) (b:aao.den->Option d) (c:aa1.den->Option d) (v:ZE.den):Option d:=QD (fun e f g h i=>a ((e,f,g,h,()),(i,()))) (fun j=>b ((),(j,()))) (aE c) v.1.1 v.1.2.1 v.1.2.2.1 v.1.2.2.2.1 v.2.1
theorem aAf:dQ agb 153 aqs aj6:=uV (als) (h2:=by intros;simp only[als,aE,QD,cO,cZ,bG,bW,dh,Au,Gh])
theorem aEp:dM agb 153 aHa:=nV [aqs] (aD (fM (aAf)) aN)
theorem am3:eu agb:=eA f153 (aD apa (aD XD (aD apb (aD apc aN)))) (aEp)
theorem aoZ:dU prog 153 awC:=sA am3
noncomputable def aG6:Code:=(f117.body).getD .skip
noncomputable def aqj:Code:=cA (cA (cB (cA (cB (cB (cB (aG6)))))))
def atn:eQ:=⟨[3,4,5,100004],[],[4],[],[2],[]⟩
def Zv:SP:=⟨us [.u,.u,.u,.v (.list VT),bR,bO] 16,[]⟩
def aah:SP:=⟨us [.u,.u,.u,.u,bR] 17,[]⟩
def aaU:SP:=⟨us [.u,.u,bR] 19,[]⟩
def Qw {f:Type} (h:(List Gu)->bZ->Int->Option f) (i j:bZ->Option f) (d:List Gu) (g:bZ) (e:Int):Option f:=cond (gV e (bI d)) (cond (fD d e) (cond (iH g (dw d (false,(false,([],()))) e).2.2.1) (h d (bT g (dw d (false,(false,([],()))) e).2.2.1) (di .i64 e 1)) a7) a7)<|i g
def Fv:Nat->(List Gu)->bZ->Int->Option (aah.den⊕aaU.den)
 |0,_,_,_=>a7
 |n+1,d,e,f=>Qw (Fv n) (fun g=>a6 (.inl ((g,()),()))) (fun h=>a6 (.inr ((h,()),()))) d e f
def azi (n:Nat) (v:Zv.den):=ba (Fv n) v
noncomputable def ajW:dE:=fJ atn Zv aah aaU (.exit 0) (azi bM) 6
def adc (d:bZ):Option (bZ×Unit):=bH (aiZ d) fun e=>bH (Fv bM e.1 [] 0) fun f=>dN f (fun g=>a6 (g.1.1,())) (fun h=>a6 (h.1.1,()))
def awp:Sum:=⟨[.str],tzI,fun x=>adc x.1⟩
noncomputable def af1:Env:=iJ prog tt 117 [(153,awC)] [(4,atn)] [(4,ajW)]
def alj {d:Type} (a:Zv.den->Option d) (b:aah.den->Option d) (c:aaU.den->Option d) (v:Zv.den):Option d:=ba (Qw (a8 a) (aE b) (aE c)) v
theorem az7:dQ af1 117 aqj ajW:=uV (alj) (h2:=by intros;simp only[alj,a8,aE,ba,Qw,cO,cZ,bG,bW,dh])
theorem aEg:dM af1 117 aG6:=nV [aqj] (aD (fM (az7)) aN)
theorem amS:eu af1:=eA f117 (aD aoZ aN) (aEg)
theorem aoO:dU prog 117 awp:=sA amS
end
section
open Option renaming some → a6, none → a7
open Tryz
open Go.RowKit
noncomputable def b83:Code:=(f83.body).getD .skip
noncomputable def aqR:Code:=cA (cA (cA (cB (cA (cB (cA (cB (cB (cB (cB (cB (b83))))))))))))
noncomputable def aqS:Code:=cA (cA (cA (cB (cB (cB (cB (cB (cB (cB (cB (b83)))))))))))
def atV:eQ:=⟨[0,1,6,7,11,12,100014],[],[1,6,7,11,12],[],[6,7],[]⟩
def atW:eQ:=⟨[0,1,5,6,7,11,14,100023],[],[0,1,5,6,7,11,14],[],[6,7],[]⟩
def aab:SP:=⟨us [bR,bO,.u,.u,.u,.u,.ptr 1000006 0,eK,.u,.u,.u,.ptr 1000011 0,bO] 173,c6⟩
def aaP:SP:=⟨us [.u,bO,.u,.u,.u,.u,.ptr 1000006 0,eK,.u,.u,.u,.ptr 1000011 0,bO] 173,c6⟩
def abv:SP:=⟨us [] 186,[]⟩
def QX {e:Type} (x:bZ->Int->Int->Int->Dj->Bool->Int->Bool->Int->Int->Int->Bool->Option e) (v:Int->Int->Int->Dj->Bool->Int->Bool->Int->Int->Int->Bool->Option e) (y:Option e) (f:bZ) (g d h:Int) (i:Dj) (j:Bool) (l:Int) (o:Bool) (p q s:Int) (u:Bool):Option e:=cond (gV d (bI f)) (cond (fD f d) (cond (!(bP (bY f d) 10)) (x f g (di .i64 d 1) h i j l o p q s u)<|v g d h i j l o p q s u) a7)<|v g d h i j l o p q s u
def Ko:Nat->bZ->Int->Int->Int->Dj->Bool->Int->Bool->Int->Int->Int->Bool->Option (aaP.den⊕abv.den)
 |0,_,_,_,_,_,_,_,_,_,_,_,_=>a7
 |n+1,d,e,f,g,h,i,j,l,o,p,q,s=>QX (Ko n) (fun u v x y z A B D E G I=>a6 (.inl ((u,v,()),((x,y,z,()),(A,B,()),(D,E,G,I,()),())))) (a6 (.inr ((),()))) d e f g h i j l o p q s
def azQ (n:Nat) (v:aab.den):=bw (Ko n) v
noncomputable def akv:dE:=fJ atV aab aaP abv (.exit 0) (azQ bM) 6
def aac:SP:=⟨cR,cK⟩
def KD:SP:=⟨cR,cK⟩
def abw:SP:=⟨us [] 186,[]⟩
def QY {f:Type} (A z:bZ->Int->Int->Int->Dj->Bool->Int->Bool->Int->Int->Int->Bool->Int->Dj->Bool->Option f) (D:Option f) (d:bZ) (g e h:Int) (i:Dj) (j:Bool) (l:Int) (o:Bool) (p q s:Int) (u:Bool) (v:Int) (x:Dj) (y:Bool):Option f:=cond (gV e (bI d)) (cond (fD d e) (bH (SN (bY d e)) fun B=>cond (bP B.1 6) (A d g (di .i64 e 1) h i j l o p q s u v x y)<|z d g e h i j l o p q s u v x y) a7)<|z d g e h i j l o p q s u v x y
def Kq:Nat->bZ->Int->Int->Int->Dj->Bool->Int->Bool->Int->Int->Int->Bool->Int->Dj->Bool->Option (KD.den⊕abw.den)
 |0,_,_,_,_,_,_,_,_,_,_,_,_,_,_,_=>a7
 |n+1,d,e,f,g,h,i,j,l,o,p,q,s,u,v,x=>QY (Kq n) (fun y z A B D E G I J K M N O S U=>a6 (.inl ((y,z,A,()),((B,D,E,()),(G,I,()),(J,K,M,N,()),(O,S,U,()),())))) (a6 (.inr ((),()))) d e f g h i j l o p q s u v x
def azR (n:Nat) (v:aac.den):=bx (Kq n) v
noncomputable def akw:dE:=fJ atW aac KD abw (.exit 2) (azR bM) 12
def yO (d:Int×Dj×pq):=mr Dk d.2.1 d.2.1
def agE (d:CQ) (e:Int×Dj×pq) (f:Int):Option taT:=bH (YN d.1) fun g=>cond ((bP d.1 d.1)&&((yO e)&&((jv false false)&&true))) (a6 ((4,(f,((di .i64 f (bI g.1)),(false,())))),((d.1,(e.2.1,(false,()))),()))) a7
def agF (d:KD.den):Option taT:=cond ((bP d.2.1.1 d.2.1.1)&&((mr Dk d.2.1.2.1 d.2.1.2.1)&&((jv d.2.1.2.2.1 d.2.1.2.2.1)&&true))) (a6 ((5,(d.1.2.1,(d.1.2.2.1,(false,())))),((d.2.1.1,(d.2.1.2.1,(d.2.1.2.2.1,()))),()))) a7
def YM (d:KD.den):Option taT:=bH (Wn d.1.1 d.1.2.1) fun e=>cond (fE (bI d.1.1) d.1.2.1 e.1) (cond (!(bP d.2.2.2.2.1.1 0)) (cond (mr Dk d.2.2.2.2.1.2.1 d.2.2.2.2.1.2.1) (cond (gG (sub d.1.1 d.1.2.1 e.1) (sub d.1.1 d.1.2.1 e.1)) (cond (bP d.2.2.2.2.1.1 d.2.2.2.2.1.1) (cond (jv (bP d.2.2.2.2.1.1 5) (bP d.2.2.2.2.1.1 5)) (cond (dY (bT [] d.2.2.2.2.1.2.1) 24) (cond (gG (sub d.1.1 d.1.2.1 e.1) (sub d.1.1 d.1.2.1 e.1)) (cond (bP d.2.2.2.2.1.1 d.2.2.2.2.1.1) (cond (jv (bP d.2.2.2.2.1.1 5) (bP d.2.2.2.2.1.1 5)) (bH (adc (sub d.1.1 d.1.2.1 e.1)) fun f=>cond (mr Dk d.2.2.2.2.1.2.1 d.2.2.2.2.1.2.1) (cond (gG (sub d.1.1 d.1.2.1 e.1) (sub d.1.1 d.1.2.1 e.1)) (cond (bP d.2.2.2.2.1.1 d.2.2.2.2.1.1) (cond (jv (bP d.2.2.2.2.1.1 5) (bP d.2.2.2.2.1.1 5)) (cond (((gG (sub d.1.1 d.1.2.1 e.1) (sub d.1.1 d.1.2.1 e.1))&&true)&&((gG f.1 f.1)&&true)) (cond (dY (bT (bT [] d.2.2.2.2.1.2.1) [(f.1,((bP d.2.2.2.2.1.1 5),()))]) 24) (cond (mr Dk d.2.2.2.2.1.2.1 d.2.2.2.2.1.2.1) (cond (gG (sub d.1.1 d.1.2.1 e.1) (sub d.1.1 d.1.2.1 e.1)) (cond (bP d.2.2.2.2.1.1 d.2.2.2.2.1.1) (cond (jv (bP d.2.2.2.2.1.1 5) (bP d.2.2.2.2.1.1 5)) (cond ((gG f.1 f.1)&&((jv (bP d.2.2.2.2.1.1 5) (bP d.2.2.2.2.1.1 5))&&true)) (bH (SA (sub d.1.1 d.1.2.1 e.1)) fun g=>cond ((bP d.2.1.1 d.2.1.1)&&((jv d.2.1.2.2.1 d.2.1.2.2.1)&&true)) (a6 ((6,(d.1.2.1,(e.1,((!g.1),())))),((d.2.1.1,((bT (bT [] d.2.2.2.2.1.2.1) [(f.1,((bP d.2.2.2.2.1.1 5),()))]),(d.2.1.2.2.1,()))),()))) a7) a7) a7) a7) a7) a7) a7) a7) a7) a7) a7) a7) a7) a7) a7) a7) a7) a7) a7) a7)<|bH (SA (sub d.1.1 d.1.2.1 e.1)) fun f=>cond ((bP d.2.1.1 d.2.1.1)&&((mr Dk d.2.1.2.1 d.2.1.2.1)&&((jv d.2.1.2.2.1 d.2.1.2.2.1)&&true))) (a6 ((6,(d.1.2.1,(e.1,((!f.1),())))),((d.2.1.1,(d.2.1.2.1,(d.2.1.2.2.1,()))),()))) a7) a7
def ayC (h:bZ) (e:Int) (d:Int×Dj×pq):Option taT:=cond d.2.2.1 (cond (fD d.2.1 0) (bH (aiT h e (dw d.2.1 ([],(false,())) 0)) fun j=>cond (bP j.2.1 0) (cond ((bP d.1 d.1)&&((yO d)&&((jv d.2.2.1 d.2.2.1)&&true))) (a6 ((7,(e,(j.1,(true,())))),((d.1,(d.2.1,(d.2.2.1,()))),()))) a7)<|cond (fE (bI d.2.1) 1 (bI d.2.1)) (cond (bP d.1 d.1) (cond (yO d) (cond (fE (bI d.2.1) 1 (bI d.2.1)) (cond (mr Dk (sub d.2.1 1 (bI d.2.1)) (sub d.2.1 1 (bI d.2.1))) (cond (yO d) (cond (bP (bI d.2.1) (bI d.2.1)) (cond (jv (gV 1 (bI d.2.1)) (gV 1 (bI d.2.1))) (cond ((bP d.1 d.1)&&((mr Dk (sub d.2.1 1 (bI d.2.1)) (sub d.2.1 1 (bI d.2.1)))&&((jv (gV 1 (bI d.2.1)) (gV 1 (bI d.2.1)))&&true))) (a6 ((7,(e,(j.1,(false,())))),((d.1,((sub d.2.1 1 (bI d.2.1)),((gV 1 (bI d.2.1)),()))),()))) a7) a7) a7) a7) a7) a7) a7) a7) a7) a7)<|bH (aiU h e) fun j=>cond (gV e j.1) (cond ((bP d.1 d.1)&&((yO d)&&((jv d.2.2.1 d.2.2.1)&&true))) (a6 ((1,(e,(j.1,(false,())))),((d.1,(d.2.1,(d.2.2.1,()))),()))) a7)<|cond (fD h e) (cond (bP (bY h e) 10) (cond (yO d) (cond (yO d) (cond (bP (bI d.2.1) (bI d.2.1)) (cond (jv (gV 0 (bI d.2.1)) (gV 0 (bI d.2.1))) (cond ((bP 0 0)&&((yO d)&&((jv (gV 0 (bI d.2.1)) (gV 0 (bI d.2.1)))&&true))) (a6 ((2,(e,((di .i64 e 1),(false,())))),((0,(d.2.1,((gV 0 (bI d.2.1)),()))),()))) a7) a7) a7) a7) a7)<|cond (fD h e) (cond (bP (bY h e) 35) (bH (Ko bM h e e 0 d.2.1 false 0 false 0 0 0 false) fun i=>dN i (fun g=>cond ((bP g.2.1.1 g.2.1.1)&&((mr Dk g.2.1.2.1 g.2.1.2.1)&&((jv g.2.1.2.2.1 g.2.1.2.2.1)&&true))) (a6 ((3,(g.1.1,(g.1.2.1,(false,())))),((g.2.1.1,(g.2.1.2.1,(g.2.1.2.2.1,()))),()))) a7) (fun o=>a7))<|bH (adb h e) fun i=>cond (gV 0 i.1) (cond (bP i.1 4) (agE i d e)<|cond (bP i.1 5) (agE i d e)<|bH (YN i.1) fun l=>cond ((bP 0 0)&&((yO d)&&((jv false false)&&true))) (a6 ((4,(e,((di .i64 e (bI l.1)),(false,())))),((0,(d.2.1,(false,()))),()))) a7)<|bH (Kq bM h e e 0 d.2.1 false 0 false 0 0 0 false d.1 d.2.1 d.2.2.1) fun l=>dN l (fun f=>cond (gV f.1.2.1 f.1.2.2.1) (cond (gV f.1.2.2.1 (bI f.1.1)) (cond (fD f.1.1 f.1.2.2.1) (cond (bP (bY f.1.1 f.1.2.2.1) 60) (agF f)<|cond (fD f.1.1 f.1.2.2.1) (cond (bP (bY f.1.1 f.1.2.2.1) 62) (agF f)<|YM f) a7) a7)<|YM f)<|YM f) (fun b3=>a7)) a7) a7
def aCB:Sum:=⟨[.str,dA,.pair dA tyM],tzH,fun x=>ayC x.1 x.2.1 x.2.2.1⟩
noncomputable def aiO:Env:=iJ prog tt 83 [(55,axo),(117,awp),(113,awl),(114,awm),(115,awn),(84,amr),(116,awo),(118,awq)] [(14,atV),(23,atW)] [(14,akv),(23,akw)]
def alU {d:Type} (a:aab.den->Option d) (b:aaP.den->Option d) (c:abv.den->Option d) (v:aab.den):Option d:=bw (QX (fun e f g h i j l o p q s u=>a ((e,f,g,()),((h,i,j,()),(l,o,()),(p,q,s,u,()),()))) (fun x y z A B D E G I J K=>b ((x,y,()),((z,A,B,()),(D,E,()),(G,I,J,K,()),()))) (c ((),()))) v
theorem aAF:dQ aiO 83 aqR akv:=uV (alU) (h2:=by intros;simp only[alU,bw,QX,cO,cZ,bG,bW,dh])
def alV {d:Type} (a:aac.den->Option d) (b:KD.den->Option d) (c:abw.den->Option d) (v:aac.den):Option d:=bx (QY (fun e f g h i j l o p q s u x y z=>a ((e,f,g,()),((h,i,j,()),(l,o,()),(p,q,s,u,()),(x,y,z,()),()))) (fun A B D E G I J K M N O S U V W=>b ((A,B,D,()),((E,G,I,()),(J,K,()),(M,N,O,S,()),(U,V,W,()),()))) (c ((),()))) v
theorem aAG:dQ aiO 83 aqS akw:=uV (alV) (h2:=by intros;simp only[alV,bx,QY,cO,cZ,bG,bW,dh])
theorem aIl:dM aiO 83 b83:=nV [aqR,aqS] (aD (fM (aAF)) (aD (fM (aAG)) aN))
theorem arV:eu aiO:=eA f83 (aD EI (aD aoO (aD aoK (aD aoL (aD aoM (aD UZ (aD aoN (aD aoP aN)))))))) (aIl)
theorem axu:dU prog 83 aCB:=sA arV
noncomputable def b47:Code:=(Tryz.f47.body).getD .skip
noncomputable def aBo:Code:=cA (cA (cA (cB (cB (cB (cB (b47)))))))
def aBS:eQ:=⟨[0,3,4,5,6,100004],[(4,Hu)],[3,4,5],[],[2,3],[(2,Hu)]⟩
def akR:SP:=⟨us [bR,.u,.u,cW,d8,cy,bO] 23,[.arr 1800004 Hu,du,cV]⟩
def ahs:SP:=⟨us [.u,.u,.u,cW,d8,cy] 24,[.arr 1800004 Hu,du,cV]⟩
def ahO:SP:=⟨us [.u,.u,cT] 27,[]⟩
def ab6 {e:Type} (q:bZ->Int->(List sO)->Int->Dj->Bool->Int->Bool->Option e) (s:(List sO)->Int->Dj->Bool->Int->Bool->Option e) (u:(List sO)->Option e) (f:bZ) (h:Int) (g:List sO) (i:Int) (j:Dj) (l:Bool) (o:Int) (p:Bool):Option e:=cond (gV h (bI f)) (bH (ayC f h (i,(j,(l,())))) fun d=>cond (dY (bT g [(d.1.1,(d.1.2.1,(d.1.2.2.1,(d.1.2.2.2.1,()))))]) 32) (q f d.1.2.2.1 (bT g [(d.1.1,(d.1.2.1,(d.1.2.2.1,(d.1.2.2.2.1,()))))]) d.2.1.1 d.2.1.2.1 d.2.1.2.2.1 o p) a7)<|s g i j l o p
def MP:Nat->bZ->Int->(List sO)->Int->Dj->Bool->Int->Bool->Option (ahs.den⊕ahO.den)
 |0,_,_,_,_,_,_,_,_=>a7
 |n+1,d,e,f,g,h,i,j,l=>ab6 (MP n) (fun o p q s u v=>a6 (.inl ((),(o,(p,q,s,()),(u,v,()),())))) (fun x=>a6 (.inr ((x,()),()))) d e f g h i j l
def aE1 (n:Nat) (v:akR.den):=MP n v.1.1 v.1.2.1 v.2.1 v.2.2.1.1 v.2.2.1.2.1 v.2.2.1.2.2.1 v.2.2.2.1.1 v.2.2.2.1.2.1
noncomputable def auE:dE:=fJ aBS akR ahs ahO (.exit 0) (aE1 bM) 6
def ayz (e:bZ):Option ((List sO)×(Int×Dj×pq)×Unit):=bH (MP bM e 0 [] 0 [] false 0 false) fun f=>dN f (fun d=>a6 (d.2.1,((d.2.2.1.1,(d.2.2.1.2.1,(d.2.2.1.2.2.1,()))),()))) (fun g=>a7)
def aCt:Sum:=⟨[.str],[(.list Hu,false),(.pair dA tyM,false)],fun x=>ayz x.1⟩
noncomputable def arI:Env:=iJ prog tt 47 [(83,aCB)] [(4,aBS)] [(4,auE)]
def avO {d:Type} (a:akR.den->Option d) (b:ahs.den->Option d) (c:ahO.den->Option d) (v:akR.den):Option d:=ab6 (fun e f g h i j l o=>a ((e,f,()),(g,(h,i,j,()),(l,o,()),()))) (fun p q s u x y=>b ((),(p,(q,s,u,()),(x,y,()),()))) (aE c) v.1.1 v.1.2.1 v.2.1 v.2.2.1.1 v.2.2.1.2.1 v.2.2.1.2.2.1 v.2.2.2.1.1 v.2.2.2.1.2.1
theorem aFx:dQ arI 47 aBo auE:=uV (avO) (h2:=by intros;simp only[avO,aE,ab6,cO,cZ,bG,bW,dh])
theorem aIf:dM arI 47 b47:=nV [aBo] (aD (fM (aFx)) aN)
theorem arJ:eu arI:=eA Tryz.f47 (aD axu aN) (aIf)
theorem axl:dU prog 47 aCt:=sA arJ
noncomputable def b28:Code:=(Tryz.f28.body).getD .skip
noncomputable def aBg:Code:=cA (cA (cB (cA (cB (cB (cB (b28)))))))
def aBL:eQ:=⟨[0,3,5,6,100004],[(5,Vb)],[5],[],[2],[(2,Vb)]⟩
def akJ:SP:=⟨us [bR,.u,.u,cT,.u,dj,bO] 59,[.arr 1800005 Vb]⟩
def ahk:SP:=⟨us [.u,.u,.u,.u,.u,dj] 60,[.arr 1800005 Vb]⟩
def ahG:SP:=⟨us [.u,.u,.v oG] 63,[]⟩
def jr (d:List sO) (e:Int):=dw d (0,(0,(0,(false,())))) e
def AB {g:Type} (d:List sO) (e:Int) (f:bZ) (h:List gu) (i:bZ->(List sO)->Int->(List gu)->Option g):Option g:=cond (fD d e) (cond (fD d e) (cond (fD d e) (cond (fD d e) (cond (fE (bI f) (jr d e).2.1 (jr d e).2.2.1) (cond (dY (bT h [((jr d e).1,((sub f (jr d e).2.1 (jr d e).2.2.1),((jr d e).2.1,((jr d e).2.2.1,()))))]) 40) (i f d (di .i64 e 1) (bT h [((jr d e).1,((sub f (jr d e).2.1 (jr d e).2.2.1),((jr d e).2.1,((jr d e).2.2.1,()))))])) a7) a7) a7) a7) a7) a7
def abX {i:Type} (g:bZ->(List sO)->Int->(List gu)->Option i) (j l:(List gu)->Option i) (h:bZ) (d:List sO) (e:Int) (f:List gu):Option i:=cond (gV e (bI d)) (cond (fD d e) (cond (bP (jr d e).1 2) (AB d e h f g)<|cond (bP (jr d e).1 4) (AB d e h f g)<|cond (bP (jr d e).1 5) (AB d e h f g)<|cond (bP (jr d e).1 6) (AB d e h f g)<|g h d (di .i64 e 1) f) a7)<|j f
def Iu:Nat->bZ->(List sO)->Int->(List gu)->Option (ahk.den⊕ahG.den)
 |0,_,_,_,_=>a7
 |n+1,d,e,f,g=>abX (Iu n) (fun h=>a6 (.inl ((),(h,())))) (fun i=>a6 (.inr ((i,()),()))) d e f g
def aET (n:Nat) (v:akJ.den):=Iu n v.1.1 v.1.2.1 v.1.2.2.1 v.2.1
noncomputable def auw:dE:=fJ aBL akJ ahk ahG (.exit 0) (aET bM) 6
def asN (d:bZ):Option ((List gu)×Unit):=bH (ayz d) fun e=>bH (Iu bM d e.1 0 []) fun f=>dN f (fun g=>a6 (g.2.1,())) (fun h=>a6 (h.1.1,()))
def aCm:Sum:=⟨[.str],[(.list Vb,false)],fun x=>asN x.1⟩
noncomputable def ars:Env:=iJ prog tt 28 [(47,aCt)] [(4,aBL)] [(4,auw)]
def avG {d:Type} (a:akJ.den->Option d) (b:ahk.den->Option d) (c:ahG.den->Option d) (v:akJ.den):Option d:=abX (fun e f g h=>a ((e,f,g,()),(h,()))) (fun i=>b ((),(i,()))) (aE c) v.1.1 v.1.2.1 v.1.2.2.1 v.2.1
theorem aFp:dQ ars 28 aBg auw:=uV (avG) (h2:=by intros;simp only[avG,aE,abX,cO,cZ,bG,bW,dh,jr,AB])
theorem aH8:dM ars 28 b28:=nV [aBg] (aD (fM (aFp)) aN)
theorem art:eu ars:=eA Tryz.f28 (aD axl aN) (aH8)
theorem axc:dU prog 28 aCm:=sA art
end
section
open Option renaming some → a6, none → a7
open Bool renaming not_true → au, not_false → az
open List renaming mem_cons_of_mem → ak, map_cons → ax, drop_eq_getElem_cons → aA, mem_cons_self → aF, drop_of_length_le → aQ
open Nat renaming le_refl → ae, lt_or_ge → aI
open Go.RowKit
def PH (n:Nat):bZ:=if n=0 then []else Na.getD (n-1) []
def aby (u t:bZ):Bool:=decide (t.take u.length=u)
def rE (t:bZ):Nat->Nat
 |0=>0
 |n+1=>if aby (PH (n+1)) t=true/\(PH (rE t n)).length<(PH (n+1)).length then n+1 else rE t n
theorem Ny: ∀n:Fin 18,YN ((n.val:Nat):Int)=a6 (PH n.val,()):=by decide+kernel
theorem akC: ∀n:Fin 18,(PH n.val).length<=3:=by decide+kernel
theorem acL (t:bZ): ∀n,rE t n<=n
 |0=>ae _
 |n+1=>by rw[rE];split<;>have:=acL t n<;>omega
theorem aeW (s:bZ) (l:s.length<1000000) {a:Nat} (o:a<=s.length): ∀(d N k:Nat),k+d=17->d<N->
  Fp N s (a:Int) ((rE (s.drop a) k:Nat):Int) ((k+1:Nat):Int)=a6 (.inl ((((rE (s.drop a) 17:Nat):Int),()),()))
 |d,0,k,_,h=>by omega
 |0,N+1,k,h,_=>by
  have hk:k=17:=by omega
  subst hk;rfl
 |d+1,N+1,k,h,q=>by
  have f:=Ny ⟨k+1,by omega⟩;have u:=acL (s.drop a) k;have g:=Ny ⟨rE (s.drop a) k,by omega⟩;have hl:=akC ⟨k+1,by omega⟩;simp only at f g hl;rw[Fp,Qu,bV (lQ),f,bG];simp only;rw[dn (a:=((k+1:Nat):Int)) (by omega) (by omega),show((k+1:Nat):Int)+1=((k+1+1:Nat):Int) by omega,bK,bK,iw];have i:=aeW s l o d N (k+1) (by omega) (by omega);rw[rE]at i;by_cases e:a+(PH (k+1)).length<=s.length
  .rw[bV (lQ),dn,show(a:Int)+(((PH (k+1)).length:Nat):Int)=((a+(PH (k+1)).length:Nat):Int) by omega,bV (fO (by omega) (by omega) (by omega)),AL];have p:gG ((s.drop a).take (PH (k+1)).length) (PH (k+1))=aby (PH (k+1)) (s.drop a):=by
    grind [gG,aby]
   rw[p];cases j:aby (PH (k+1)) (s.drop a)with
   |false=>simp_all
   |true=>
    rw[j]at i;rw[aa,g,bG];simp only[bK];by_cases e2:(PH (rE (s.drop a) k)).length<(PH (k+1)).length
    .rw[bV (eH)];simp_all
    simp_all [iG]
  .rw[dI (JO)];have j:aby (PH (k+1)) (s.drop a)=false:=by
    unfold aby
    grind
   simp_all
theorem aIE (s:bZ) (d:s.length<1000000) {a:Nat} (e:a<=s.length):adb s a=a6 (((rE (s.drop a) 17:Nat):Int),()):=by
 rw[adb];have h:=aeW s d e 17 bM 0 rfl (dK);rw[show Fp bM s (a:Int) 0 1=_ from h,bG];rfl
def opB:bZ:=[38,124,59,60,62,45,40,41]
def x9 (c:UInt8):UInt8:=if opB.contains c=true then c else 0
theorem Zg: ∀(x u:bZ),(∀c∈u,opB.contains c=true)->(x.map x9=u↔x=u)
 |[],[],_=>Iff.rfl
 |[],_::_,_=>by simp
 |_::_,[],_=>by simp
 |c::x,d::u,h=>by
  have h0:=h d (aF ..);have g:=Zg x u fun c f=>h c (ak _ f);rw[ax,List.cons.injEq,List.cons.injEq,g];have:x9 c=d↔c=d:=by
   unfold x9;split
   .exact Iff.rfl
   .rename_i f
    constructor
    .intro e;rw[<-e]at h0;exact absurd h0 (by decide)
    grind
  rw[this]
theorem WZ: ∀u∈Na,∀c∈u,opB.contains c=true:=by decide
theorem auW (x:bZ):ofF (x.map x9)=ofF x:=by
 unfold ofF;have:Na.findIdx? (· ==x.map x9)=Na.findIdx? (· ==x):=by
  have h: ∀l:List bZ,(∀u∈l,∀c∈u,opB.contains c=true)->l.findIdx? (· ==x.map x9)=l.findIdx? (· ==x):=by
   intro l
   induction l with
   |nil=>intro _;rfl
   |cons u l d=>
    intro h;have e:(u==x.map x9)=(u==x):=by
     have:=Zg x u (h u (aF ..))
     grind
    grind
  exact h Na WZ
 rw[this]
theorem au9 (t:bZ):BO t=BO ((t.take 3).map x9):=by
 have h: ∀n,n<=3->PK t n=PK ((t.take 3).map x9) n:=by
  intro n d
  induction n with
  |zero=>rfl
  |succ n e=>
   rw[PK,PK,<-List.map_take,List.take_take,Nat.min_eq_left d,auW,e (by omega)]
 grind [BO]
theorem Rt (t:bZ): ∀n,n<=17->rE t n=rE ((t.take 3).map x9) n
 |0,_=>rfl
 |n+1,h=>by
  have d:=Rt t n (by omega);have hl:=akC ⟨n+1,by omega⟩;simp only at hl;have e:aby (PH (n+1)) t=aby (PH (n+1)) ((t.take 3).map x9):=by
   unfold aby;rw[<-List.map_take,List.take_take,Nat.min_eq_left hl];have f: ∀c∈PH (n+1),opB.contains c=true:=by
    have:PH (n+1)∈Na:=by
     have g: ∀n:Fin 17,PH (n.val+1)∈Na:=by decide+kernel
     exact g ⟨n,by omega⟩
    exact WZ _ this
   rw[decide_eq_decide,Zg _ _ f]
  rw[rE,rE,e,d]
def nB (n:Fin 9):UInt8:=([0,38,124,59,60,62,45,40,41]:bZ).getD n.val 0
def okB (t:bZ):Bool:=BO t==(rE t 17,(PH (rE t 17)).length)
theorem ok0:okB []=true:=by decide+kernel
theorem ok1: ∀a,okB [nB a]=true:=by decide+kernel
theorem ok2: ∀a b,okB [nB a,nB b]=true:=by decide+kernel
theorem ok3: ∀a b c,okB [nB a,nB b,nB c]=true:=by decide+kernel
theorem FX (c:UInt8): ∃n,x9 c=nB n:=by
 unfold x9;split
 .rename_i h
  have: ∀d∈opB,∃n,d=nB n:=by decide
  simp_all
 .exact⟨0,rfl⟩
theorem akD (t:bZ):BO t=(rE t 17,(PH (rE t 17)).length):=by
 rw[au9,Rt t 17 (ae _)];have h:okB ((t.take 3).map x9)=true:=by
  have hl:(t.take 3).length<=3:=by grind
  rcases h:t.take 3 with _|⟨a,_|⟨b,_|⟨c,_|⟨d,l⟩⟩⟩⟩
  .exact ok0
  .obtain⟨x,e⟩:=FX a;simp_all [ok1]
  .obtain⟨x,e⟩:=FX a;obtain⟨y,f⟩:=FX b;simp_all [ok2]
  .obtain⟨x,e⟩:=FX a;obtain⟨y,f⟩:=FX b;obtain⟨z,g⟩:=FX c;simp_all [ok3]
  simp_all
 exact eq_of_beq h
theorem aIF (s:bZ) (d:s.length<1000000) {a:Nat} (e:a<=s.length):adb s a=a6 ((((BO (s.drop a)).1:Nat):Int),()):=by
 rw[aIE s d e,akD]
theorem aAP (t:bZ):YN (((BO t).1:Nat):Int)=a6 (PH (BO t).1,())/\(PH (BO t).1).length=(BO t).2:=by
 have h:=(PV t).2.2;refine⟨Ny ⟨(BO t).1,by omega⟩, ?_⟩;rw[akD]
theorem O5 {s:List UInt8} (p:s.length<1000000): ∀(N a:Nat),s.length-a<N->a<=s.length->
  ∃o,Fj N s (a:Int)=a6 o/\dN o (fun f=>a6 (f.1.1,())) (fun g=>a6 (g.1.1,()))=a6 ((((a+wL (s.drop a):Nat):Int)),())
 |0,a,h,_=>by omega
 |N+1,a,h,z=>by
  rw[Fj,Qs];by_cases e:a<s.length
  .have hd:=aA e;have q:fD s (a:Int)=true:=dV;rw[bV (eH (by rw[bK];omega)),q,byte_at e,hd,Jl];simp only[aa];have j: ∀m:Nat,a+m<=s.length->1<=m-> ∃o,Fj N s (di .i64 (a:Int) (m:Int))=a6 o/\dN o (fun f=>a6 (f.1.1,())) (fun g=>a6 (g.1.1,()))=a6 ((((a+(wL (s.drop (a+m))+m):Nat):Int)),()):=fun m u A=>by
    obtain⟨o,B,D⟩:=O5 p N (a+m) (by omega) u
    grind [dn]
   by_cases h32:s[a]=32
   .have:o8 (s[a].toNat:Int)=true:=by rw[h32];rfl
    rw[this,am rfl,h32];exact j 1 (by omega) (by omega)
   .have l:bP (s[a].toNat:Int) 32=false:=dX fun h=>h32 (UInt8.toNat_inj.1 (by grind));by_cases h9:s[a]=9
    .have:o8 (s[a].toNat:Int)=true:=by rw[h9];rfl
     rw[this,am rfl,l,h9];exact j 1 (by omega) (by omega)
    .have v:bP (s[a].toNat:Int) 9=false:=dX fun h=>h9 (UInt8.toNat_inj.1 (by grind));have x:o8 (s[a].toNat:Int)=false:=by
      simp_all [o8,ik]
     rw[x,aq (by simp),l,v];simp only[ac];have i:zJ (s[a]::s.drop (a+1))=false-> ∃o:Qa.den⊕Qe.den,a6 (.inl (((a:Int),()),()))=a6 o/\dN o (fun f=>a6 (f.1.1,())) (fun g=>a6 (g.1.1,()))=a6 ((((a+(if zJ (s[a]::s.drop (a+1))=true then wL ((s.drop (a+1)).drop 1)+2 else 0):Nat):Int)),()):=fun h=>by
      rw[h,aq (by simp)];exact⟨_,rfl,rfl⟩
     by_cases h92:s[a]=92
     .rw[h92,show bP (((92:UInt8).toNat:Nat):Int) 92=true from rfl,aa,dn,show(a:Int)+1=((a+1:Nat):Int) by omega];rw[h92]at i;by_cases e1:a+1<s.length
      .have y:=aA e1;rw[bV (eH (by rw[bK];omega)),bV (dV),byte_at e1];by_cases h10:s[a+1]=10
       .rw[h10,show bP (((10:UInt8).toNat:Nat):Int) 10=true from rfl,aa];have E:zJ (92::s.drop (a+1))=true:=by rw[y,h10];rfl
        grind
       .rw[dI (dX fun h=>h10 (UInt8.toNat_inj.1 (by grind)))]
        grind [zJ]
      .rw[dI (iG (by rw[bK];omega))];refine i ?_;rw[aQ (by omega)];rfl
     .rw[dI (dX fun h=>h92 (UInt8.toNat_inj.1 (by grind)))];refine i ?_;cases s.drop (a+1)with
      |nil=>rfl
      |cons d t=>simp[zJ,h92]
  .rw[dI (ig (by rw[bK];omega)),aQ (by omega)];exact⟨_,rfl,rfl⟩
theorem ax1 {s:List UInt8} (d:s.length<1000000) {a:Nat} (e:a<=s.length):aiU s a=a6 ((((a+wL (s.drop a):Nat):Int)),()):=by
 rw[aiU];obtain⟨o,f,g⟩:=O5 d bM a (dK) e
 grind [bG]
theorem XO {s w:List UInt8} (g:s.length<1000000) {i:Nat} (hi:i<=s.length) (f:Bool): ∀(N k:Nat),i-k<N->k<=i->
  ∃d:Nat,JW N s (i:Int) (k:Int) w f=a6 (.inl ((s,(i:Int),(d:Int),()),((w,f,()),())))/\d<=i/\k<=d/\(s.take i).drop d=if f=true then((s.take i).drop k).dropWhile (· ==9)else(s.take i).drop k
 |0,k,h,_=>by omega
 |N+1,k,h,hk=>by
  rw[JW,Qr];cases f with
  |false=>grind
  |true=>
   simp only[aa];by_cases e:k<i
   .have j:k<(s.take i).length:=by simp_all
    have hd:=aA j;rw[List.getElem_take]at hd;rw[bV (eH),bV (dV),byte_at (by omega)];by_cases h9:s[k]=9
    .rw[h9,show bP (((9:UInt8).toNat:Nat):Int) 9=true from rfl,aa,dn,show(k:Int)+1=((k+1:Nat):Int) by omega];obtain⟨d,l,o,p,q⟩:=XO g hi true N (k+1) (by omega) (by omega);exact⟨d,l,o,by omega,by simp_all⟩
    .rw[dI (dX fun h=>h9 (UInt8.toNat_inj.1 (by grind)))];exact⟨k,rfl,hk,ae _,by simp_all⟩
   .rw[dI (ig)];refine⟨k,rfl,hk,ae _, ?_⟩;simp_all [aQ]
theorem WL {s:List UInt8} {f i:Nat} (d:f<=i) (h2:i<jb s f) (e:i<s.length):s[i]≠10:=by
 have:=EN (· !=10) (s.drop f) (i-f) (by grind) (by grind [jb]);simp_all
theorem TD {s:List UInt8} {f:Nat} (d:jb s f<s.length):s[jb s f]=10:=by
 have:=zA (· !=10) (s.drop f) (by grind [jb]);simp_all [jb]
def aII (s:bZ) (h:Nat×Bool):P9.den⊕Qd.den:=if h.2=true then .inr ((((h.1:Nat):Int),1,()),())else .inl ((s,()),())
theorem IW {s w:List UInt8} (j:s.length<1000000) (d:Bool): ∀(N f i M:Nat),s.length+1-i<N->f<=i->i<=jb s f->f<=s.length->s.length-f<M->
  vC N s (f:Int) (i:Int) w d=a6 (aII s (pM s w d M f))
 |0,f,i,M,h,_,_,_,_=>by omega
 |N+1,f,i,0,h,l,z,o,q=>by omega
 |N+1,f,i,M+1,h,l,z,o,q=>by
  have D:=zZ o;have u:gG (xh s d f) w=decide (xh s d f=w):=by
   grind [gG]
  have stop: ∀N,0<N->vC N s ((s.length+1:Nat):Int) ((s.length+1:Nat):Int) w d=a6 (.inl ((s,()),()))/\vC N s (f:Int) ((s.length+1:Nat):Int) w d=a6 (.inl ((s,()),())):=fun N E=>by
   obtain⟨n,rfl⟩: ∃n,N=n+1:=⟨N-1,by omega⟩;constructor
   ·(rewrite [vC,Gg];delta qK;rw[dI (JO (by rw[bK];omega))])
   ·(rewrite [vC,Gg];delta qK;rw[dI (JO (by rw[bK];omega))])
  have v: ∀m,pM s w d m s.length=(s.length,false):=fun m=>by
   cases m with
   |zero=>rfl
   |succ m=>simp_all [pM]
  (rewrite [vC,Gg];delta qK;rw[bV (lQ (by rw[bK];omega))])
  by_cases e:i<jb s f
  .have g:i<s.length:=by omega
   rw[bV (eH (by rw[bK];omega)),bV (dV),byte_at g,dX fun h=>WL l e g (UInt8.toNat_inj.1 (by grind))];simp only[az,aa];rw[dn,show(i:Int)+1=((i+1:Nat):Int) by omega];exact IW j d N f (i+1) (M+1) (by omega) (by omega) (by omega) o q
  .have g:i=jb s f:=by omega
   obtain⟨A,x,G,I,J⟩:=XO (w:=w) j (i:=i) (by omega) d bM f (dK) l;have hT:sub s (A:Int) (i:Int)=xh s d f:=by
    simp_all [xh,sub]
   by_cases hl:i<s.length
   .have B:s[i]=10:=by subst g;exact TD hl
    have p:oz s f=i+1:=by unfold oz;grind
    rw[bV (eH (by rw[bK];omega)),bV (dV),byte_at hl,B,show bP (((10:UInt8).toNat:Nat):Int) 10=true from rfl];simp only[au,ac];rw[dI (dX (by rw[bK];omega)),x,bG];simp only[dN];rw[bV (fO (by omega) (by omega) (by rw[bK];omega)),hT,u,pM,am (by omega),p];rw[bV (eH (by rw[bK];omega)),dn,show(i:Int)+1=((i+1:Nat):Int) by omega];by_cases hw:xh s d f=w
    .rw[decide_eq_true hw,aa,am hw];rfl
    .rw[decide_eq_false hw,ac,aq hw];exact IW j d N (i+1) (i+1) M (by omega) (ae _) (xg s _) (by omega) (by omega)
   .have y:i=s.length:=by omega
    rw[dI (iG (by rw[bK];omega)),bV (fK (by rw[bK];omega))];by_cases hfi2:f=i
    .rw[bV (fK),dn,show(i:Int)+1=((s.length+1:Nat):Int) by omega,(stop N (by omega)).2,hfi2,y,v];rfl
    .have p:oz s f=s.length:=by simp_all [oz]
     rw[dI (dX),x,bG];simp only[dN];rw[bV (fO (by omega) (by omega) (by rw[bK];omega)),hT,u,pM,am (by omega),p];rw[dI (iG (by rw[bK];omega))];by_cases hw:xh s d f=w
     .rw[decide_eq_true hw,aa,am hw,y];rfl
     .rw[decide_eq_false hw,ac,aq hw,v,dn,show(i:Int)+1=((s.length+1:Nat):Int) by omega,(stop N (by omega)).1];rfl
theorem Md (s w:bZ) (d:Bool): ∀(N a:Nat),s.length-a<N->a<=s.length->(pM s w d N a).1<=s.length/\((pM s w d N a).2=false->(pM s w d N a).1=s.length)/\(a<s.length->a<(pM s w d N a).1)
 |0,a,h,_=>by omega
 |N+1,a,h,j=>by
  rw[pM];by_cases e:a<s.length
  .have g:=aey e;rw[am e];split
   .simp_all
   .have f:=Md s w d N (oz s a) (by omega) g.2;refine⟨f.1,f.2.1,fun _=> ?_⟩;rcases aI (oz s a) s.length with i|i
    .omega
    .cases N with
     |zero=>omega
     |succ N=>simp_all [pM,aq]
  grind
theorem aDV {s:List UInt8} (e:s.length<1000000) (d:bZ×Bool×Unit) {a:Nat} (f:a<=s.length):aiT s a d=a6 ((((CX s d.1 d.2.1 a).1:Nat):Int),((if(CX s d.1 d.2.1 a).2=true then 1 else 0),())):=by
 rw[aiT,IW e d.2.1 bM a a bM (dK) (ae _) (xg s a) f (dK),bG]
 grind [Md,dK,aII,CX,dN,bK]
theorem av9 {s:fQ} (d:iF s):KT s=(gG (so s) [84]||gG (so s) [84,76]):=by
 rw[awf d,al3 d]
 match s,d with
 |[],d=>cases d
 |[f],d=>have h:f.1=0:=d;simp[KT,h]
 |[f,g],d=>
  have e:=d.1;have h0:g.1=0:=d.2.2.2
  grind [KT]
 |f::g::h::r,d=>
  have e:=d.2.2.2.1;have i:=d.2.2.1
  grind [TF,KT]
end
section
open Option renaming some → a6, none → a7
open Bool renaming and_true → ay, not_false → az
open List renaming append_assoc → ag, length_append → ai, drop_eq_getElem_cons → aA, drop_zero → aJ, nil_append → aO, drop_of_length_le → aQ, take_of_length_le → bn, length_singleton → bu
open Nat renaming le_trans → aB
open Go.RowKit
abbrev Pce:=Bool×Bool×List UInt8×Unit
def jF (l:List Pce):bZ:=(l.map (·.2.2.1)).flatten
theorem xF (a b:List Pce):jF (a++b)=jF a++jF b:=by simp[jF]
theorem EO (x y:Bool) (t:bZ):jF [(x,(y,(t,())))]=t:=by simp[jF]
theorem Wj (L:List kP) (hl:L.length<1000000) (v m f t u:Int) (o:Bool): ∀(N k:Nat),L.length-k<N->k<=L.length->
  FC N L v (k:Int) m f t u o=a6 (match(L.drop k).find? (fun p=>p.2.1==v)with
   |none=>.inl ((),((m,f,t,u,o,()),()))
   |some p=>.inr ((1,()),((p.1,p.2.1,p.2.2.1,p.2.2.2.1,p.2.2.2.2.1,()),())))
 |0,k,h,_=>by omega
 |N+1,k,h,hk=>by
  rw[FC,QI];by_cases e:k<L.length
  .have d:dw L (0,(0,(0,(0,(false,()))))) (k:Int)=L[k]:=by
    simp_all [dw]
   rw[bV (eH (by rw[bK];omega)),bV (dV),d,aA e,List.find?_cons];by_cases h1:L[k].2.1=v
   .simp_all [fK,dV]
   .have:(L[k].2.1==v)=false:=by simpa using h1
    rw[dI (dX h1),dn,show(k:Int)+1=((k+1:Nat):Int) by omega,Wj L hl v m f t u o N (k+1) (by omega) (by omega),this]
  simp_all [ig,bK,aQ]
theorem asG (L:List kP) (hl:L.length<1000000) (v:Int):adp L v=a6 (match wS L v with
  |none=>((0,(0,(0,(0,(false,()))))),(0,()))
  |some p=>(p,(1,()))):=by
 rw[adp];have h:=Wj L hl v 0 0 0 0 false bM 0 (dK) (by omega);rw[show FC bM L v 0 0 0 0 0 false=_ from h,bG,aJ];unfold wS;cases L.find? (fun p=>p.2.1==v)with
 |none=>rfl
 |some p=>rfl
theorem ah6 {a b:List UInt8} (h:a.length+b.length<=140737488355328):iH a b=true:=by
 grind [iH,kH]
theorem lM {d:Type} {l:List d} {k:Nat} (h:l.length*k<=140737488355328):dY l k=true:=by
 grind [dY,kH]
theorem RU (s:bZ) (o:s.length<=10000) {to_:Int} (v:to_<=s.length): ∀(N:Nat) (at_:Int) (d:bZ) (out:List Pce),0<N->to_-at_<N->0<=at_->at_<=s.length->(d.length:Int)<=10000*at_->(out.length:Int)<=2*at_->
  ∃f g,vF N s (dm s) to_ d at_ out=a6 (.inl ((f,()),(g,())))/\jF g++f=jF out++d++rP s (dm s) to_ N at_/\(f.length:Int)<=10000*s.length/\(g.length:Int)<=2*s.length
 |0,at_,d,out,G,_,_,_,_,_=>by
  omega
 |N+1,at_,d,out,G,h,h0,Z,hh,ho=>by
  (rewrite [vF,QJ];delta Gi wB;rw[rP])
  by_cases e:at_<to_
  .have ab:=Cc s;have ad:= @UR s at_;have ae:=NF s (dm s) at_;have af: ∀(c:bZ) (i:Int),c=(iL s (dm s) at_).2.1->i=(iL s (dm s) at_).1->i<=s.length->
     ∃f g,vF N s (dm s) to_ (bT d c) i out=a6 (.inl ((f,()),(g,())))/\jF g++f=jF out++d++((iL s (dm s) at_).2.1++rP s (dm s) to_ N (iL s (dm s) at_).1)/\(f.length:Int)<=10000*s.length/\(g.length:Int)<=2*s.length:=by
    intro c i z q u;subst z q;obtain⟨f,g,I,J,K,M⟩:=RU s o v N (iL s (dm s) at_).1 (bT d (iL s (dm s) at_).2.1) out (by omega) (by omega) (by omega) u (by grind [bT]) (by omega)
    grind [bT]
   have push: ∀(l:List Pce) (i:Int),jF l=d++(iL s (dm s) at_).2.1->l.length<=2->i=(iL s (dm s) at_).1->i<=s.length->
     ∃f g,vF N s (dm s) to_ [] i (out++l)=a6 (.inl ((f,()),(g,())))/\jF g++f=jF out++d++((iL s (dm s) at_).2.1++rP s (dm s) to_ N (iL s (dm s) at_).1)/\(f.length:Int)<=10000*s.length/\(g.length:Int)<=2*s.length:=by
    intro l i hl ah q u;subst q;obtain⟨f,g,I,J,K,M⟩:=RU s o v N (iL s (dm s) at_).1 [] (out++l) (by omega) (by omega) (by omega) u (by simp;omega) (by grind)
    grind [xF]
   have O: ∀c:bZ,c.length<=10000->iH d c=true:=fun c z=>ah6 (by omega);have A: ∀x,dY (bT out [x]) 24=true:=fun x=>lM (by grind [bT]);have S: ∀x y,dY (bT (bT out [x]) [y]) 24=true:=fun x y=>lM (by grind [bT]);have U: ∀a b:Int,(sub s a b).length<=10000:=fun a b=>aB (IZ s a b) o;have B:di .i64 at_ 1=at_+1:=dn;have V:di .i64 at_ 2=at_+2:=dn;have W:fE (bI s) at_ (at_+1)=true:=fO h0 (by omega) (by rw[bK];omega);rw[bV (eH e),am e,asG (dm s) (by omega),bG];cases hf:wS (dm s) at_ with
   |none=>
    have j:iL s (dm s) at_=(at_+1,sub s at_ (at_+1),false):=by unfold iL;rw[hf]
    simp only[B];rw[show bP 0 0=true from rfl,aa,W,aa,O _ (U _ _),aa]
    grind
   |some p=>
    obtain⟨D,X⟩:=wU hf;have t0:=D.t0;have t1:=D.t1;simp only[B,V];rw[show bP 1 0=false from rfl,ac];by_cases hlone:lone p=true
    .have j:iL s (dm s) at_=(at_+1,sub s at_ (at_+1),false):=by simp_all [iL]
     simp_all [lone,fK]
    .have aj: ¬(p.1=12/\p.2.2.1=at_+1):=fun h=>hlone (by simp_all [lone]);have E:fE (bI s) at_ p.2.2.1=true:=fO h0 (by omega) (by rw[bK];omega);by_cases h13:p.1=13
     .have j:iL s (dm s) at_=(p.2.2.1,Vr s p,false):=by simp_all [iL]
      rw[dI (dX),bV (fK h13)];by_cases hto2:p.2.2.1=at_+2
      .have Y:fD s (at_+1)=true:=dV;have ak:fE (bI s) (at_+1) (at_+2)=true:=fO (by omega) (by omega) (by rw[bK];omega);have al:fE (bI s) at_ (at_+2)=true:=fO (by omega) (by omega) (by rw[bK];omega);have an:Vr s p=(if bY s (at_+1)=36\/bY s (at_+1)=96\/bY s (at_+1)=34\/bY s (at_+1)=92 then sub s (at_+1) (at_+2)
         else if bY s (at_+1)=10 then []else sub s at_ (at_+2)):=by
        simp_all [Vr,nY]
       rw[bV (fK hto2),Y,aa];by_cases b1:bY s (at_+1)=36
       .simp_all [fK]
       .rw[dI (dX b1)];by_cases b2:bY s (at_+1)=96
        .simp_all [fK]
        .rw[dI (dX b2)];by_cases b3:bY s (at_+1)=34
         .simp_all [fK]
         .rw[dI (dX b3)];by_cases b4:bY s (at_+1)=92
          .simp_all [fK]
          .rw[dI (dX b4)];have ao: ¬(bY s (at_+1)=36\/bY s (at_+1)=96\/bY s (at_+1)=34\/bY s (at_+1)=92):=by omega
           by_cases b5:bY s (at_+1)=10
           .simp_all [fK,bT]
           simp_all [dX]
      simp_all [dX,Vr,bT]
     .have j:iL s (dm s) at_=(p.2.2.1,nY s p,true):=by simp_all [iL]
      have au:nY s p=sub s at_ p.2.2.1:=by unfold nY;rw[X]
      have av: ∃f g,(bif !gG d []then
        bif dY (bT out [(false,(true,(d,())))]) 24 then
         bif fE (bI s) at_ p.2.2.1 then
          bif dY (bT (bT out [(false,(true,(d,())))]) [(true,(true,(sub s at_ p.2.2.1,())))]) 24 then
           vF N s (dm s) to_ [] p.2.2.1 (bT (bT out [(false,(true,(d,())))]) [(true,(true,(sub s at_ p.2.2.1,())))])
          else a7
         else a7
        else a7
       else bif fE (bI s) at_ p.2.2.1 then
        bif dY (bT out [(true,(true,(sub s at_ p.2.2.1,())))]) 24 then
         vF N s (dm s) to_ [] p.2.2.1 (bT out [(true,(true,(sub s at_ p.2.2.1,())))])
        else a7
       else a7)=a6 (.inl ((f,()),(g,())))/\jF g++f=jF out++d++((iL s (dm s) at_).2.1++rP s (dm s) to_ N (iL s (dm s) at_).1)/\(f.length:Int)<=10000*s.length/\(g.length:Int)<=2*s.length:=by
       by_cases he:d=[]
       .have:=push [(true,(true,(sub s at_ p.2.2.1,())))] p.2.2.1 (by simp_all [EO]) (by simp) (by rw[j]) (by omega);rw[show(!gG d [])=false by rw[he];rfl,ac,E,aa,A,aa];exact this
       .have:=push ([(false,(true,(d,())))]++[(true,(true,(sub s at_ p.2.2.1,())))]) p.2.2.1 (by grind [xF,EO]) (by simp) (by rw[j]) (by omega);rw[show(!gG d [])=true by simp_all [gG],aa,A,aa,E,aa,S,aa];rw[<-ag]at this;exact this
      by_cases h12:p.1=12
      .simp_all [dX]
      simp_all [dX]
  .rw[dI (ig e),aq e]
   grind
theorem apS (s:bZ) (g:s.length<=10000) {from_ to_:Int} (h0:0<=from_) (h:from_<=s.length) (i:to_<=s.length):
  ∃out,Oi s (dm s) from_ to_=a6 (out,())/\jF out=rP s (dm s) to_ s.length from_/\out.length<=2*s.length+1:=by
 obtain⟨d,out,j,e,o,p⟩:=RU s g i bM from_ [] [] (by unfold bM;omega) (by have:=dK (n:=s.length) (by omega);omega) h0 h (by simp;omega) (by simp;omega);have l:rP s (dm s) to_ bM from_=rP s (dm s) to_ s.length from_:=LP s to_ _ _ _ (by have:=dK (n:=s.length) (by omega);omega) (by omega);rw[l,show jF []=([]:bZ) from rfl,aO,aO]at e;rw[Oi,j,bG];simp only[dN];have f: ∀x,dY (bT out [x]) 24=true:=fun x=>lM (by grind [bT]);by_cases he:d=[]
 .rw[show(!gG d [])=false by rw[he];rfl,ac];subst he;rw[List.append_nil]at e;by_cases ho:out.length=0
  .rw[bV (fK (by rw[bK];omega)),f,aa];exact⟨_,rfl,by grind [bT,xF,EO],by simp_all [bT]⟩
  .rw[dI (dX (by rw[bK];omega))]
   grind
 .rw[show(!gG d [])=true by simp_all [gG],aa,f,aa];exact⟨_,rfl,by unfold bT;rw[xF,EO,e],by grind [bT]⟩
theorem rC (l:List Pce) (x:Pce):jF (l++[x])=jF l++x.2.2.1:=by simp[jF]
theorem avj (out:List Pce) (t:bZ) (e:Bool) (f:out.length<1000000000) (g:(jF out).length+t.length<=100000000000000):
  ∃d,Wu out t e=a6 (d,())/\jF d=jF out++t/\d.length<=out.length+1:=by
 have one: ∃d,(bif dY (bT [] out) 24 then bif dY (bT (bT [] out) [(false,(false,(t,())))]) 24 then a6 ((bT (bT [] out) [(false,(false,(t,())))]),())else a7 else a7)=a6 (d,())/\jF d=jF out++t/\d.length<=out.length+1:=by
  rw[bV (lM (by grind [bT])),bV (lM (by grind [bT]))];exact⟨_,rfl,by simp_all [bT,xF,EO],by unfold bT;simp⟩
 (rewrite [Wu];delta YC sU jI lK ve jH qU jc fU)
 rcases List.eq_nil_or_concat out with rfl|⟨l,x,rfl⟩
 .assumption
 .rw[List.concat_eq_append]at*;cases e with
  |true=>
   simp_all
  |false=>
   rw[rC,ai]at g;rw[ai,bu]at f;have hL:eU .i64 (bI (l++[x])) 1=(l.length:Int):=by grind [bK,iw]
   have h:dw (l++[x]) (false,(false,([],()))) (l.length:Int)=x:=L9 rfl;have i:fD (l++[x]) (l.length:Int)=true:=dV (by omega) (by grind);have j:fE (bI (l++[x])) 0 (l.length:Int)=true:=fO (by omega) (by omega) (by grind [bK]);have o:sub (l++[x]) 0 (l.length:Int)=l:=by simp[sub]
   have p:iH x.2.2.1 t=true:=ah6 (by omega);have q:dY (bT [] l) 24=true:=lM (by grind [bT]);have s: ∀y,dY (bT (bT [] l) [y]) 24=true:=fun y=>lM (by grind [bT]);rw[bV (eH (by simp_all [bK]))];simp only[az,aa,hL,h,i,j,o,p,q,s,eP,mW,iC,gQ,ay,bG];exact⟨_,rfl,by grind [bT,rC],by unfold bT;simp⟩
theorem OZ (s:bZ) (y:s.length<=10000): ∀(N:Nat) (at_:Int) (q:Bool) (out:List Pce),(s.length:Int)-at_<N->0<=at_->at_<=s.length->((jF out).length:Int)<=100010000*at_->(out.length:Int)<=30000*at_->
  ∃d,mJ N s (dm s) q at_ out=a6 (.inl ((),(d,())))/\jF d=jF out++lC s (dm s) N at_/\(d.length:Int)<=30000*s.length
 |0,at_,q,out,h,_,_,_,_=>by omega
 |N+1,at_,q,out,h,h0,I,ht,ho=>by
  (rewrite [mJ,QD];delta Gh Au;rw[lC])
  by_cases e:at_<s.length
  .have ab:=Cc s;have ad:= @UT s at_;have J:=afi (s:=s) e;have ae:(stepT s (dm s) at_).2.length<=100010000:=by
    have I:=NG s (dm s) at_;have h2:s.length*s.length<=10000*10000:=Nat.mul_le_mul y y;omega
   have go: ∀(l:List Pce) (f:Bool),jF l=jF out++(stepT s (dm s) at_).2->l.length<=out.length+20002->
     ∃d,mJ N s (dm s) f (stepT s (dm s) at_).1 l=a6 (.inl ((),(d,())))/\jF d=jF out++((stepT s (dm s) at_).2++lC s (dm s) N (stepT s (dm s) at_).1)/\(d.length:Int)<=30000*s.length:=by
    intro l f hl hn;obtain⟨d,r1,r2,r3⟩:=OZ s y N (stepT s (dm s) at_).1 f l (by omega) (by omega) J (by grind) (by omega)
    grind
   have K: ∀(t:bZ) (g:Int),t=(stepT s (dm s) at_).2->g=(stepT s (dm s) at_).1->
     ∃d,(bH (Wu out t q) fun i=>mJ N s (dm s) false g i.1)=a6 (.inl ((),(d,())))/\jF d=jF out++((stepT s (dm s) at_).2++lC s (dm s) N (stepT s (dm s) at_).1)/\(d.length:Int)<=30000*s.length:=by
    intro t g z v;subst z v;obtain⟨o,M,O,p3⟩:=avj out (stepT s (dm s) at_).2 q (by omega) (by omega);rw[M,bG];exact go o false O (by omega)
   have S: ∀(x:Pce) (g:Int),x.2.2.1=(stepT s (dm s) at_).2->g=(stepT s (dm s) at_).1->
     ∃d,(bif dY (bT out [x]) 24 then mJ N s (dm s) true g (bT out [x])else a7)=a6 (.inl ((),(d,())))/\jF d=jF out++((stepT s (dm s) at_).2++lC s (dm s) N (stepT s (dm s) at_).1)/\(d.length:Int)<=30000*s.length:=by
    intro x g z v;subst v;rw[bV (lM (by grind [bT]))];simp_all [bT,rC]
   have af: ∀(g:Int),(stepT s (dm s) at_).2=[]->g=(stepT s (dm s) at_).1->
     ∃d,mJ N s (dm s) q g out=a6 (.inl ((),(d,())))/\jF d=jF out++((stepT s (dm s) at_).2++lC s (dm s) N (stepT s (dm s) at_).1)/\(d.length:Int)<=30000*s.length:=by
    intro g z v;subst v;exact go out q (by simp_all) (by omega)
   have A:di .i64 at_ 1=at_+1:=dn;have U:fE (bI s) at_ (at_+1)=true:=fO h0 (by omega) (by rw[bK];omega);rw[bV (eH (b:=bI s) e),am e,asG (dm s) (by omega),bG];cases hf:wS (dm s) at_ with
   |none=>
    have j:stepT s (dm s) at_=(at_+1,sub s at_ (at_+1)):=by unfold stepT;rw[hf]
    simp only[A];rw[show bP 0 0=true from rfl,aa,show bP 0 1=false from rfl,ac,U,aa];simp_all
   |some p=>
    obtain⟨B,D⟩:=wU hf;have t0:=B.t0;have t1:=B.t1;have V:nY s p=sub s at_ p.2.2.1:=by unfold nY;rw[D]
    have ah:fE (bI s) at_ p.2.2.1=true:=fO h0 (by omega) (by rw[bK];omega);have W:di .i64 p.2.1 1=at_+1:=by rw[D];exact A
    have X:di .i64 p.2.1 2=at_+2:=by grind [dn]
    have Y:eU .i64 p.2.2.1 1=p.2.2.1-1:=iw;simp only[A,W,X,Y];rw[show bP 1 0=false from rfl,ac,show bP 1 1=true from rfl];simp only[aa];by_cases hpl':lone p=true\/p.1=14
    .have j:stepT s (dm s) at_=(p.2.2.1,nY s p):=by simp_all [stepT]
     have:=K (sub s at_ p.2.2.1) p.2.2.1 (by rw[j,V]) (by rw[j]);by_cases E:p.1=14
     .simp_all [fK]
     simp_all [lone,fK]
    .have aj: ¬(p.1=12/\p.2.2.1=at_+1):=fun h=>hpl' (.inl (by simp_all [lone]));have E:p.1≠14:=fun h=>hpl' (.inr h);rw[dI (dX E)];by_cases h13:p.1=13
     .have j:stepT s (dm s) at_=(p.2.2.1,Vs s p):=by simp_all [stepT]
      rw[dI (dX),bV (fK h13)];by_cases hto2:p.2.2.1=at_+2
      .rw[bV (fK hto2),bV (dV)];by_cases b5:bY s (at_+1)=10
       .simp_all [fK,Vs]
       .rw[dX b5];simp only[az,aa];rw[bV (fO (by omega) (by omega) (by rw[bK];omega))];simp_all [Vs]
      simp_all [dX,Vs]
     .have ak: ∃d,(bif bP p.1 4 then
        bif p.2.2.2.2.1 then
         bif fE (bI s) (at_+1) p.2.2.1 then
          bif dY (bT out [(false,(true,(sub s (at_+1) p.2.2.1,())))]) 24 then
           mJ N s (dm s) true p.2.2.1 (bT out [(false,(true,(sub s (at_+1) p.2.2.1,())))])
          else a7
         else a7
        else bif fE (bI s) (at_+1) (p.2.2.1-1)then
         bif dY (bT out [(false,(true,(sub s (at_+1) (p.2.2.1-1),())))]) 24 then
          mJ N s (dm s) true p.2.2.1 (bT out [(false,(true,(sub s (at_+1) (p.2.2.1-1),())))])
         else a7
        else a7
       else bif bP p.1 5 then
        bif p.2.2.2.2.1 then
         bH (Oi s (dm s) (at_+1) p.2.2.1) fun i=>
          bif dY (bT out i.1) 24 then mJ N s (dm s) true p.2.2.1 (bT out i.1)else a7
        else
         bH (Oi s (dm s) (at_+1) (p.2.2.1-1)) fun i=>
          bif dY (bT out i.1) 24 then mJ N s (dm s) true p.2.2.1 (bT out i.1)else a7
       else bif fE (bI s) p.2.1 p.2.2.1 then
        bif dY (bT out [(true,(false,(sub s p.2.1 p.2.2.1,())))]) 24 then
         mJ N s (dm s) true p.2.2.1 (bT out [(true,(false,(sub s p.2.1 p.2.2.1,())))])
        else a7
       else a7)=a6 (.inl ((),(d,())))/\jF d=jF out++((stepT s (dm s) at_).2++lC s (dm s) N (stepT s (dm s) at_).1)/\(d.length:Int)<=30000*s.length:=by
       by_cases h4:p.1=4
       .have j:stepT s (dm s) at_=(p.2.2.1,sub s (p.2.1+1) (xI p)):=by simp_all [stepT]
        rw[bV (fK h4)];cases hop:p.2.2.2.2.1 with
        |true=>
         rw[aa,bV (fO (by omega) (by omega) (by rw[bK];omega))];exact S _ _ (by rw[j,D];unfold xI;rw[hop,am rfl]) (by rw[j])
        |false=>
         have:=B.sh hop (by omega);rw[ac,bV (fO (by omega) (by omega) (by rw[bK];omega))];simp_all [xI]
       .rw[dI (dX h4)];by_cases h5:p.1=5
        .have j:stepT s (dm s) at_=(p.2.2.1,rP s (dm s) (xI p) s.length (p.2.1+1)):=by simp_all [stepT]
         rw[bV (fK h5)];have G: ∀u:Int,u=xI p->u<=s.length-> ∃d,(bH (Oi s (dm s) (at_+1) u) fun i=>
           bif dY (bT out i.1) 24 then mJ N s (dm s) true p.2.2.1 (bT out i.1)else a7)=a6 (.inl ((),(d,())))/\jF d=jF out++((stepT s (dm s) at_).2++lC s (dm s) N (stepT s (dm s) at_).1)/\(d.length:Int)<=30000*s.length:=by
          intro u al Z;obtain⟨o,d1,d2,d3⟩:=apS s y (from_:=at_+1) (to_:=u) (by omega) (by omega) Z;rw[d1,bG];simp only;rw[bV (lM (by grind [bT]))];have:=go (bT out o) true (by simp_all [bT,xF]) (by grind [bT]);simp_all
         cases hop:p.2.2.2.2.1 with
         |true=>rw[aa];exact G _ (by unfold xI;rw[hop,am rfl]) (by omega)
         |false=>rw[ac];exact G _ (by simp_all [xI]) (by omega)
        .have j:stepT s (dm s) at_=(p.2.2.1,nY s p):=by simp_all [stepT]
         simp_all [dX]
      by_cases h12:p.1=12
      .simp_all [dX]
      simp_all [dX]
  .rw[dI (ig (by rw[bK];omega)),aq e]
   grind
theorem Uy (l:List Pce) (hl:l.length<1000000000) (d:(jF l).length<=100000000000000): ∀(N k:Nat),l.length-k<N->k<=l.length->
  Fv N l (jF (l.take k)) (k:Int)=a6 (.inl ((jF l,()),()))
 |0,k,h,_=>by omega
 |N+1,k,h,hk=>by
  rw[Fv,Qw];by_cases e:k<l.length
  .have f:dw l (false,(false,([],()))) (k:Int)=l[k]:=by
    simp_all [dw]
   have g:jF (l.take (k+1))=jF (l.take k)++l[k].2.2.1:=by grind [List.take_add_one,rC]
   have i:(jF (l.take (k+1))).length<=(jF l).length:=by
    grind [List.take_append_drop,xF]
   rw[bV (eH (by rw[bK];omega)),bV (dV),f,bV (ah6 (by grind)),dn,show(k:Int)+1=((k+1:Nat):Int) by omega,
    show bT (jF (l.take k)) l[k].2.2.1=jF (l.take (k+1)) from g.symm]
   exact Uy l hl d N (k+1) (by omega) (by omega)
  simp_all [ig,bK,bn]
theorem amB (s:bZ) (d:s.length<=10000):(Jk s).length<=1000100000000:=by
 have h:=V3 s (dm s) s.length 0;have e:s.length*s.length<=10000*10000:=Nat.mul_le_mul d d;have f:s.length*(s.length*s.length+s.length)<=10000*(10000*10000+10000):=Nat.mul_le_mul d (by omega);unfold Jk;omega
theorem aCT (s:bZ) (d:s.length<=10000):adc s=a6 (Jk s,()):=by
 obtain⟨out,f,g,l⟩:=OZ s d bM 0 true [] (by have:=dK (n:=s.length) (by omega);omega) (by omega) (by omega) (by simp[jF]) (by simp);have h:lC s (dm s) bM 0=Jk s:=H8 s _ _ _ (by have:=dK (n:=s.length) (by omega);omega) (by omega);have i:aiZ s=a6 (out,()):=by
  rw[aiZ,aJG s (by omega),bG];simp only;rw[f,bG];rfl
 have e:jF out=Jk s:=by rw[g,h];rfl
 have o:=amB s d;rw[adc,i,bG];simp only;have j:=Uy out (by omega) (by rw[e];omega) bM 0 (dK) (by omega);rw[show Fv bM out [] 0=_ from j,bG,<-e];rfl
end
section
open List renaming drop_eq_getElem_cons → aA, length_drop → aP
open Go.RowKit
abbrev Tok:=Int×Int×Int×Bool×Unit
abbrev Dlm:=List UInt8×Bool×Unit
abbrev XY:=Int×List Dlm×Bool×Unit
def dDl:Dlm:=([],(false,()))
def uP (s:bZ) (a:Nat):Nat:=a+Dc (s.drop a) a fH
def Yn (s:bZ) (a b:Nat):bZ:=(s.take b).drop a
def alZ (w:bZ):Bool:=KT (mZ w 0 fH).1
theorem Vg {s:List UInt8} {a:Nat} (h:a<=s.length):a<=uP s a/\uP s a<=s.length:=by
 grind [aiH,uP]
def jR (s:bZ) (a:Nat):Tok:=if wL (s.drop a)≠0 then(1,a,((a+wL (s.drop a):Nat):Int),false,())else if bY s a=10 then(2,a,((a+1:Nat):Int),false,())else if bY s a=35 then(3,a,(jb s a:Nat),false,())else if(BO (s.drop a)).2≠0 then(4,a,((a+(BO (s.drop a)).2:Nat):Int),false,())else if BN (s.drop a)≠0 then(5,a,((a+BN (s.drop a):Nat):Int),false,())else(6,a,(uP s a:Nat), !alZ (Yn s a (uP s a)),())
def lI (s:bZ) (a:Nat) (x:XY):XY:=if wL (s.drop a)≠0 then(x.1,x.2.1,false,())else if bY s a=10 then(0,x.2.1,decide (0<x.2.1.length),())else if bY s a=35 then(0,x.2.1,false,())else if(BO (s.drop a)).2≠0 then((if(BO (s.drop a)).1=4\/(BO (s.drop a)).1=5 then(((BO (s.drop a)).1:Nat):Int)else 0),x.2.1,false,())else if BN (s.drop a)≠0 then(0,x.2.1,false,())else(0,(if x.1=0 then x.2.1 else x.2.1++[(Jk (Yn s a (uP s a)),decide (x.1=5),())]),false,())
def mf (s:bZ) (a:Nat) (x:XY):Tok×XY:=if x.2.2.1=true then(if(CX s (x.2.1.headD dDl).1 (x.2.1.headD dDl).2.1 a).2=true then((7,a,((CX s (x.2.1.headD dDl).1 (x.2.1.headD dDl).2.1 a).1:Nat),false,()),(x.1,x.2.1.tail,decide (1<x.2.1.length),()))else((7,a,((CX s (x.2.1.headD dDl).1 (x.2.1.headD dDl).2.1 a).1:Nat),true,()),x))else(jR s a,lI s a x)
theorem au8 {c:UInt8} {t:List UInt8} (h:G5 (c.toNat:Int)=true):(BO (c::t)).2≠0:=by
 have d:ofF [c]≠0:=by
  have: ∀n:Fin 256,G5 ((n.val:Nat):Int)=true->ofF [UInt8.ofNat n.val]≠0:=by decide+kernel
  have:=this ⟨c.toNat,c.toNat_lt⟩ h;simpa using this
 have e: ∀n,(PK (c::t) (n+1)).2≠0:=by
  intro n
  induction n with
  |zero=>simp_all [PK]
  |succ n f=>
   grind [PK]
 grind [BO]
theorem AC {s:List UInt8} (o:s.length<=10000) {a:Nat} (g:a<s.length) (x:XY):(a:Int)<(mf s a x).1.2.2.1/\(mf s a x).1.2.2.1<=s.length/\(mf s a x).1.2.1=a:=by
 unfold mf;split
 .have h:=Md s (x.2.1.headD dDl).1 (x.2.1.headD dDl).2.1 bM a (dK) (by omega);have i:=h.2.2 g;have d:=h.1;unfold CX
  grind
 .unfold jR;have hd:=aA g;split
  .have:=X9 (s.drop a)
   grind
  .split
   .grind
   .split
    .rename_i p
     have d:=xg s a;have i:=zZ (s:=s) (a:=a) (by omega);have q:jb s a≠a:=by
      intro e;have:=TD (s:=s) (f:=a) (by omega);simp_all [byte_at]
     grind
    .split
     .have:=(PV (s.drop a)).1
      grind
     .split
      .rename_i u
       have d:=Qm (s.drop a);rw[aP]at d;have:BN (s.drop a)<=kV (s.drop a):=by grind [BN]
       grind
      .rename_i v y _ z _
       have j:=Vg (s:=s) (a:=a) (by omega);have:Dc (s.drop a) a fH≠0:=by
        rw[hd,Dc];have l:rF fH.1 (jA s[a])=false:=by
         unfold rF;have:CU (jA s[a])=false:=by
          have A:o8 (s[a].toNat:Int)=false:=by
           grind [Jl]
          have B:G5 (s[a].toNat:Int)=false:=by
           grind [au8]
          simp_all [byte_at,o8,G5,CU,jA]
         rw[this];rfl
        rw[l];simp
       unfold uP at j ⊢
       grind
end
section
open Option renaming some → a6, none → a7
open Bool renaming false_eq_true → ah, and_true → ay, not_false → az, not_eq_true → aY
open Int renaming toNat_natCast → aZ
open List renaming length_drop → aP
open Nat renaming le_refl → ae
open Go.RowKit
theorem acV {s:List UInt8} (z:s.length<1000000) {a:Nat} (x:a<=s.length) (d f:Int) (g:List Dlm) (j:Bool) (l:Int) (o:Bool) (p q u:Int) (v:Bool): ∀(N i:Nat),s.length-i<N->a<=i->i<=jb s a->
  Ko N s d (i:Int) f g j l o p q u v=a6 (.inl ((d,((jb s a:Nat):Int),()),((f,g,j,()),(l,o,()),(p,q,u,v,()),())))
 |0,i,h,_,A=>by omega
 |N+1,i,h,B,A=>by
  have E:=zZ x;rw[Ko,QX];by_cases e:i<jb s a
  .have y:i<s.length:=by omega
   rw[bV (eH (by rw[bK];omega)),bV (dV),byte_at y,dX fun h=>WL B e y (UInt8.toNat_inj.1 (by grind))];simp only[az,aa];rw[dn,show(i:Int)+1=((i+1:Nat):Int) by omega];exact acV z x d f g j l o p q u v N (i+1) (by omega) (by omega) (by omega)
  .have G:i=jb s a:=by omega
   by_cases hl:i<s.length
   .have D:s[i]=10:=by grind [TD]
    rw[bV (eH (by rw[bK];omega)),bV (dV),byte_at hl,D,show bP (((10:UInt8).toNat:Nat):Int) 10=true from rfl];simp_all
   simp_all [ig,bK]
theorem ac0 {s:List UInt8} (E:s.length<1000000) {a:Nat} (G:a<=s.length) (d f:Int) (g:List Dlm) (j:Bool) (o:Int) (p:Bool) (q u v:Int) (x:Bool) (y:Int) (z:List Dlm) (A:Bool): ∀(N k:Nat),s.length-(a+k)<N->k<=kV (s.drop a)->
  Kq N s d ((a+k:Nat):Int) f g j o p q u v x y z A=a6 (.inl ((s,d,((a+kV (s.drop a):Nat):Int),()),((f,g,j,()),(o,p,()),(q,u,v,x,()),(y,z,A,()),())))
 |0,k,h,hk=>by omega
 |N+1,k,h,hk=>by
  have K:=Qm (s.drop a);have M:=aP (i:=a) (l:=s);rw[Kq,QY];by_cases e:a+k<s.length
  .have B:k<(s.drop a).length:=by omega
   have D:(s.drop a)[k]=s[a+k]:=by simp
   obtain⟨_,_,c,I,_,J⟩:=uk s[a+k];rw[bV (eH (by rw[bK];omega)),bV (dV),byte_at e,I,bG];simp only[J];by_cases hk2:k<kV (s.drop a)
   .have:=EN isD (s.drop a) k B hk2;rw[D]at this;rw[this,aa,dn,show((a+k:Nat):Int)+1=((a+(k+1):Nat):Int) by omega];exact ac0 E G d f g j o p q u v x y z A N (k+1) (by omega) (by omega)
   .obtain rfl:k=kV (s.drop a):=by omega
    have:=zA isD (s.drop a) B;rw[show isD s[a+kV (s.drop a)]=false by rw[<-D];exact this,ac]
  .obtain rfl:k=kV (s.drop a):=by omega
   rw[dI (ig (by rw[bK];omega))]
theorem ap2 (w:bZ) (d:w.length<=100000):SA w=a6 (alZ w,()):=by
 have e:=(DK w 0 fH kF).1;rw[SA,aG0 w d,bG]
 grind [alZ,Ha,av9]
theorem acf {s:List UInt8} {a b:Nat}:sub s (a:Int) (b:Int)=Yn s a b:=by simp[sub,Yn]
theorem RS {s:List UInt8} {a b:Nat}:(Yn s a b).length<=s.length:=by
 grind [Yn]
theorem apK {s:List UInt8} (d:s.length<=10000) {a:Nat} (e:a<s.length):Wn s (a:Int)=a6 (((uP s a:Nat):Int),()):=by
 rw[aGS s (by omega) (by omega) (by omega),aZ];rfl
theorem aC3 {s:List UInt8} (v:s.length<=10000) {a:Nat} (z:a<s.length) (x:XY) (hp:x.2.2.1=true->x.2.1≠[]) (hl:x.2.1.length<=1000000):
  ayC s a x=a6 ((mf s a x).1,((mf s a x).2,())):=by
 obtain⟨e,f,A,u⟩:=x;cases u;simp only at hp hl;unfold mf
 (rewrite [ayC];delta YM agF agE yO)
 cases A with
 |true=>
  obtain⟨d,r,rfl⟩: ∃d r,f=d::r:=by
   cases f with
   |nil=>simp_all
   |cons d r=>simp
  simp only[aa,if_true];rw[bV (dV (by omega) (by simp)),show dw (d::r) ([],(false,())) 0=d from rfl,aDV (by omega) d (by omega),bG];simp only[List.headD_cons];by_cases hh:(CX s d.1 d.2.1 a).2=true
  rotate_left
  .rw[aY]at hh;simp only[hh,ah,if_false,show bP 0 0=true from rfl,aa,eP,gQ,iC,ay]
  .have B:sub (d::r) 1 (bI (d::r))=r:=by simp[sub,bK]
   have o:gV 1 (bI (d::r))=decide (1<(d::r).length):=by
    unfold gV bI
    grind
   simp only[hh,if_true,show bP 1 0=false from rfl,ac,aa,eP,gQ,iC,ay,B];have O:fE (bI (d::r)) 1 (bI (d::r))=true:=fO (by omega) (by grind [bK]) (by omega);simp_all
 |false=>
  have o:gV 0 (bI f)=decide (0<f.length):=by
   simp_all [gV,bI]
  have D:fD s (a:Int)=true:=dV;simp only[ac,ah,if_false];rw[ax1 (by omega) (by omega),bG];simp only;by_cases hb:wL (s.drop a)=0
  .rw[dI (iG),D,aa];by_cases h10:bY s a=10
   .rw[bV (fK h10)];simp only[eP,gQ,iC,ay,aa,o,show bP 0 0=true from rfl]
    grind [dn,jR,lI]
   .rw[dI (dX h10)];by_cases h35:bY s a=35
    .rw[bV (fK h35),acV (by omega) (a:=a) (by omega) _ _ _ _ _ _ _ _ _ _ bM a (dK) (ae _) (xg s a),bG];simp_all [dN,eP,gQ,iC,jR,lI]
    .obtain⟨l,S⟩:=aAP (s.drop a);obtain⟨E,p,U⟩:=PV (s.drop a);rw[aP]at E;rw[dI (dX h35),aIF s (by omega) (by omega),bG];simp only;by_cases ho:(BO (s.drop a)).2=0
     .have q:=p.1 ho;rw[q,dI (show gV 0 ((0:Nat):Int)=false from rfl)];have hd:=ac0 (s:=s) (by omega) (a:=a) (by omega) (a:Int) 0 f false 0 false 0 0 0 false e f false bM 0 (dK) (by omega);rw[Nat.add_zero]at hd;rw[hd,bG];simp only[dN];have G:=Qm (s.drop a);rw[aP]at G;have V:=Vg (s:=s) (a:=a) (by omega);have W: ∀(j:BN (s.drop a)=0),(bH (Wn s (a:Int)) fun g=>
        bif fE (bI s) (a:Int) g.1 then
         bif !bP e 0 then
          bif mr Dk f f then
           bif gG (sub s (a:Int) g.1) (sub s (a:Int) g.1)then
            bif bP e e then
             bif jv (bP e 5) (bP e 5)then
              bif dY (bT [] f) 24 then
               bif gG (sub s (a:Int) g.1) (sub s (a:Int) g.1)then
                bif bP e e then
                 bif jv (bP e 5) (bP e 5)then
                  bH (adc (sub s (a:Int) g.1)) fun i=>
                   bif mr Dk f f then
                    bif gG (sub s (a:Int) g.1) (sub s (a:Int) g.1)then
                     bif bP e e then
                      bif jv (bP e 5) (bP e 5)then
                       bif((gG (sub s (a:Int) g.1) (sub s (a:Int) g.1)&&true)&&(gG i.1 i.1&&true))then
                        bif dY (bT (bT [] f) [(i.1,(bP e 5,()))]) 24 then
                         bif mr Dk f f then
                          bif gG (sub s (a:Int) g.1) (sub s (a:Int) g.1)then
                           bif bP e e then
                            bif jv (bP e 5) (bP e 5)then
                             bif(gG i.1 i.1&&(jv (bP e 5) (bP e 5)&&true))then
                              bH (SA (sub s (a:Int) g.1)) fun I=>
                               bif(bP 0 0&&(jv false false&&true))then
                                a6 (((6:Int),((a:Int),(g.1,(!I.1,())))),(((0:Int),(bT (bT [] f) [(i.1,(bP e 5,()))],(false,()))),()))
                               else a7
                             else a7
                            else a7
                           else a7
                          else a7
                         else a7
                        else a7
                       else a7
                      else a7
                     else a7
                    else a7
                   else a7
                 else a7
                else a7
               else a7
              else a7
             else a7
            else a7
           else a7
          else a7
         else bH (SA (sub s (a:Int) g.1)) fun i=>
          bif(bP 0 0&&(mr Dk f f&&(jv false false&&true)))then
           a6 (((6:Int),((a:Int),(g.1,(!i.1,())))),(((0:Int),(f,(false,()))),()))
          else a7
        else a7)=a6 (((6:Int),((a:Int),(((uP s a:Nat):Int),(!alZ (Yn s a (uP s a)),())))),(((0:Int),((if e=0 then f else f++[(Jk (Yn s a (uP s a)),decide (e=5),())]),(false,()))),())):=by
       intro j;have X:=RS (s:=s) (a:=a) (b:=uP s a);rw[apK v z,bG];simp only;rw[bV (fO (by omega) (by omega) (by rw[bK];omega)),acf];by_cases h0:e=0
       .subst h0;rw[show(!bP 0 0)=false from rfl,ac,ap2 _ (by omega),bG,am rfl];simp_all [eP,gQ,iC]
       .rw[dX h0,aq h0];have J:dY (bT [] f) 24=true:=lM (by grind [bT]);have K: ∀y,dY (bT (bT [] f) [y]) 24=true:=fun y=>lM (by grind [bT]);simp only[az,eP,mW,gQ,iC,ay,aa,J];rw[aCT _ (by omega),bG];simp only[eP,mW,gQ,iC,ay,aa,K];rw[ap2 _ (by omega),bG];rfl
      by_cases hg:kV (s.drop a)=0
      .simp_all [BN,iG,jR,lI]
      .rw[bV (eH)];by_cases h1:a+kV (s.drop a)<s.length
       .have M:((s.drop a).drop (kV (s.drop a))).head?=a6 s[a+kV (s.drop a)]:=by
         simp
        have N:fD s ((a+kV (s.drop a):Nat):Int)=true:=dV;rw[bV (eH (by rw[bK];omega)),N,aa,byte_at h1];by_cases e1:s[a+kV (s.drop a)]=60
        .have j:BN (s.drop a)=kV (s.drop a):=by unfold BN;simp_all
         rw[e1,show bP (((60:UInt8).toNat:Nat):Int) 60=true from rfl];simp_all [eP,gQ,iC,jR,lI]
        .rw[dI (dX fun h=>e1 (UInt8.toNat_inj.1 (by grind))),aa];by_cases e2:s[a+kV (s.drop a)]=62
         .have j:BN (s.drop a)=kV (s.drop a):=by unfold BN;simp_all
          rw[e2,show bP (((62:UInt8).toNat:Nat):Int) 62=true from rfl];simp_all [eP,gQ,iC,jR,lI]
         .have j:BN (s.drop a)=0:=by simp_all [BN]
          rw[dI (dX fun h=>e2 (UInt8.toNat_inj.1 (by grind)))];simp_all [jR,lI]
       .have M:((s.drop a).drop (kV (s.drop a))).head?=a7:=by
         simp_all
        have j:BN (s.drop a)=0:=by simp_all [BN]
        rw[dI (iG (by rw[bK];omega))];simp_all [jR,lI]
     .have q:(BO (s.drop a)).1≠0:=fun h=>ho (p.2 h);rw[bV (eH)];have Y:di .i64 (a:Int) (bI (PH (BO (s.drop a)).1))=((a+(BO (s.drop a)).2:Nat):Int):=by
       grind [bK,dn]
      by_cases h4:(BO (s.drop a)).1=4
      .rw[bV (fK),l,bG];simp_all [eP,gQ,iC,jR,lI]
      .rw[dI (dX)];by_cases h5:(BO (s.drop a)).1=5
       .rw[bV (fK),l,bG];simp_all [eP,gQ,iC,jR,lI]
       .rw[dI (dX),l,bG];simp_all [eP,gQ,iC,jR,lI]
  .rw[bV (eH)];simp_all [eP,gQ,iC,jR,lI]
end
section
open Int renaming toNat_natCast → aZ
open List renaming getElem_mem → aG, take_of_length_le → bn
open Go.RowKit
def qN (s:bZ):Nat->Nat->List Tok->XY->List Tok×XY
 |0,_,l,x=>(l,x)
 |n+1,a,l,x=>if a<s.length then qN s n (mf s a x).1.2.2.1.toNat (l++[(mf s a x).1]) (mf s a x).2 else(l,x)
def oq (s:bZ):List Tok×XY:=qN s (s.length+1) 0 [] (0,[],false,())
def OkX (x:XY):Prop:=x.2.2.1=true->x.2.1≠[]
theorem UU (s:bZ) (a:Nat) {x:XY} (h:OkX x):OkX (mf s a x).2/\(mf s a x).2.2.1.length<=x.2.1.length+1:=by
 obtain⟨d,e,f,u⟩:=x;unfold OkX at*;unfold mf;simp only at h ⊢;split
 .grind
 .unfold lI
  grind
theorem MF {s:List UInt8} (d:s.length<=10000): ∀(n m a:Nat) (l:List Tok) (x:XY),s.length<n+a->s.length<m+a->qN s n a l x=qN s m a l x
 |0,0,a,l,x,_,_=>rfl
 |0,m+1,a,l,x,h,_=>by rw[qN,qN,aq (by omega)]
 |n+1,0,a,l,x,_,h=>by rw[qN,qN,aq (by omega)]
 |n+1,m+1,a,l,x,f,g=>by
  rw[qN,qN];split
  .rename_i e
   have:=AC d e x;exact MF d n m _ _ _ (by omega) (by omega)
  .rfl
theorem aea {s:List UInt8} (d:s.length<=10000) (f:Int) (g:Bool): ∀(N a:Nat) (l:List Tok) (x:XY),s.length-a<N->a<=s.length->OkX x->x.2.1.length<=a->l.length<=a->
  MP N s (a:Int) l x.1 x.2.1 x.2.2.1 f g=some (.inl ((),((qN s N a l x).1,((qN s N a l x).2.1,(qN s N a l x).2.2.1,(qN s N a l x).2.2.2.1,()),(f,g,()),())))
 |0,a,l,x,h,_,_,_,_=>by omega
 |N+1,a,l,x,h,u,i,v,hl=>by
  rw[MP,ab6,qN];by_cases e:a<s.length
  .have y:=AC d e x;have o:=UU s a i;have p:(x.1,(x.2.1,(x.2.2.1,())))=x:=rfl;rw[bV (eH (by rw[bK];omega)),p,aC3 d e x i (by omega),bG,am e];simp only;rw[bV (lM (by grind [bT]))];obtain⟨b,j⟩: ∃b:Nat,(mf s a x).1.2.2.1=(b:Int):=⟨(mf s a x).1.2.2.1.toNat,by omega⟩;have q:=aea d f g N b (l++[(mf s a x).1]) (mf s a x).2 (by omega) (by omega) o.1 (by omega) (by grind);rw[j,aZ];rw[<-q];rw[<-j];rfl
  simp_all [ig,bK,aq]
theorem aGV {s:List UInt8} (d:s.length<=10000):ayz s=some ((oq s).1,((oq s).2,())):=by
 have h:=aea d 0 false bM 0 [] (0,[],false,()) (dK) (by omega) (fun h=>by cases h) (by simp) (by simp);have e:qN s bM 0 [] (0,[],false,())=oq s:=MF d _ _ _ _ _ (by have:=dK (n:=s.length) (by omega);omega) (by omega);rw[ayz,show MP bM s 0 [] 0 [] false 0 false=_ from h,bG,e];rfl
structure OkT (s:bZ) (t:Tok):Prop where
 f0:0<=t.2.1
 ft:t.2.1<t.2.2.1
 t1:t.2.2.1<=s.length
theorem ajN {s:List UInt8} (g:s.length<=10000): ∀(n a:Nat) (l:List Tok) (x:XY),OkX x->l.length<=a->a<=s.length->(∀t∈l,OkT s t)->(∀t∈(qN s n a l x).1,OkT s t)/\OkX (qN s n a l x).2/\(qN s n a l x).1.length<=s.length
 |0,a,l,x,d,hl,i,h=>⟨h,d,by grind [qN]⟩
 |n+1,a,l,x,d,hl,i,h=>by
  rw[qN];split
  .rename_i e
   have o:=AC g e x;exact ajN g n _ _ _ (UU s a d).1 (by grind) (by omega) (fun t j=>by
    rcases List.mem_append.1 j with f|f
    .exact h t f
    .rw[List.mem_singleton.1 f];exact⟨by omega,by omega,by omega⟩)
  grind
theorem PS {s:List UInt8} (d:s.length<=10000):(∀t∈(oq s).1,OkT s t)/\OkX (oq s).2/\(oq s).1.length<=s.length:=
 ajN d _ _ _ _ (fun h=>by cases h) (by simp) (by omega) (fun t e=>by cases e)
def adM (t:Tok):Bool:=decide (t.1=2)||decide (t.1=4)||decide (t.1=5)||decide (t.1=6)
def aBZ (s:bZ) (t:Tok):Int×List UInt8×Int×Int×Unit:=(t.1,sub s t.2.1 t.2.2.1,t.2.1,t.2.2.1,())
def gp (s:bZ) (l:List Tok):List (Int×List UInt8×Int×Int×Unit):=(l.filter adM).map (aBZ s)
theorem OB {s:List UInt8} (g:s.length<=10000) (l:List Tok) (hl:l.length<=10000) (d: ∀t∈l,OkT s t): ∀(N k:Nat),l.length-k<N->k<=l.length->
  Iu N s l (k:Int) (gp s (l.take k))=some (.inl ((),(gp s l,())))
 |0,k,h,_=>by omega
 |N+1,k,h,hk=>by
  (rewrite [Iu,abX];delta AB jr)
  by_cases e:k<l.length
  .have i:dw l (0,(0,(0,(false,())))) (k:Int)=l[k]:=by
    simp_all [dw]
   have j:fD l (k:Int)=true:=dV;obtain⟨o,A,B⟩:=d _ (aG e);have p:fE (bI s) l[k].2.1 l[k].2.2.1=true:=fO o (by omega) (by rw[bK];omega);have D:(gp s (l.take k)).length<=10000:=by
    grind [gp]
   have q: ∀y,dY (bT (gp s (l.take k)) [y]) 40=true:=fun y=>lM (by grind [bT]);have f:=OB g l hl d N (k+1) (by omega) (by omega);have u:l.take (k+1)=l.take k++[l[k]]:=by simp
   have v:di .i64 (k:Int) 1=((k+1:Nat):Int):=by grind [dn]
   have x:adM l[k]=true->Iu N s l ((k+1:Nat):Int) (bT (gp s (l.take k)) [(l[k].1,(sub s l[k].2.1 l[k].2.2.1,(l[k].2.1,(l[k].2.2.1,()))))])=some (.inl ((),(gp s l,()))):=fun z=>by
    rw[<-f];congr 1;unfold gp;rw[u,List.filter_append,List.map_append,List.filter_cons_of_pos z];rfl
   rw[bV (eH (by rw[bK];omega)),j];simp only[aa,i,p,q,v];unfold adM at x;by_cases h2:l[k].1=2
   .rw[bV (fK h2)];grind
   .rw[dI (dX h2)];by_cases h4:l[k].1=4
    .rw[bV (fK h4)];grind
    .rw[dI (dX h4)];by_cases h5:l[k].1=5
     .rw[bV (fK h5)];grind
     .rw[dI (dX h5)];by_cases h6:l[k].1=6
      .rw[bV (fK h6)];grind
      .rw[dI (dX h6),<-f]
       grind [gp,adM]
  simp_all [ig,bK,bn]
theorem apV {s:List UInt8} (d:s.length<=10000):asN s=some (gp s (oq s).1,()):=by
 obtain⟨e,f,g⟩:=PS d;rw[asN,aGV d,bG];simp only;have h:=OB d (oq s).1 (by omega) e bM 0 (dK) (by omega);rw[show Iu bM s (oq s).1 0 []=_ from h,bG];rfl
end
end Go.Proofs.YtlhpdcadgbjhiaaGreatDoor
