/- Parts of the proof, joined and shortened by a program: the plain machine, the functions as it prints them, and the mathematics over them. -/
import Derived.Test.YtlhpdcadgbjhiaaGreatDoorZ3
import Derived.Test.YtlhpdcadgbjhiaaGreatDoorZ4
set_option linter.unusedVariables false
set_option linter.unusedSimpArgs false
set_option maxRecDepth 100000
set_option maxHeartbeats 4000000
namespace Go.Proofs.YtlhpdcadgbjhiaaGreatDoor
section
open Option renaming some → a6, none → a7
open Tryz
open Go.RowKit
noncomputable def aIq:Code:=(f183.body).getD .skip
noncomputable def aq3:Code:=cA (cA (cB (cA (cB (aIq)))))
def at7:eQ:=⟨[0,1,4,6,100002],[],[4],[],[4,5],[]⟩
def aac:SP:=⟨us [.v V3,bR,.u,.u,d9,.u,bR] 18,[dq]⟩
def aaO:SP:=⟨us [.u,.u,.u,.u,d9] 20,[dq]⟩
def abt:SP:=⟨us [.u,.u,.u,.u,d9,bR] 19,[dq]⟩
def QI {f:Type} (q:(List je)->Int->Int->Int->Int->Int->Int->Bool->Option f) (s:Int->Int->Int->Int->Bool->Option f) (u:Int->Int->Int->Int->Int->Bool->Option f) (d:List je) (g e i j l o:Int) (p:Bool):Option f:=cond (gY e (bM d)) (cond (fV d e) (cond (bV (dJ d (0,(0,(0,(0,(false,()))))) e).2.1 g) (cond (fV d e) (u 1 (dJ d (0,(0,(0,(0,(false,()))))) e).1 (dJ d (0,(0,(0,(0,(false,()))))) e).2.1 (dJ d (0,(0,(0,(0,(false,()))))) e).2.2.1 (dJ d (0,(0,(0,(0,(false,()))))) e).2.2.2.1 (dJ d (0,(0,(0,(0,(false,()))))) e).2.2.2.2.1) a7)<|q d g (dw .i64 e 1) i j l o p) a7)<|s i j l o p
def FV:Nat->(List je)->Int->Int->Int->Int->Int->Int->Bool->Option (aaO.den⊕abt.den)
 |0,_,_,_,_,_,_,_,_=>a7
 |n+1,d,e,f,g,i,j,l,o=>QI (FV n) (fun p q s u v=>a6 (.inl ((),((p,q,s,u,v,()),())))) (fun x y z A B D=>a6 (.inr ((x,()),((y,z,A,B,D,()),())))) d e f g i j l o
def azZ (n:Nat) (v:aac.den):=FV n v.1.1 v.1.2.1 v.1.2.2.1 v.2.1.1 v.2.1.2.1 v.2.1.2.2.1 v.2.1.2.2.2.1 v.2.1.2.2.2.2.1
noncomputable def akz:dE:=fU at7 aac aaO abt (.exit 0) (azZ bQ) 6
def adE (e:List je) (f:Int):Option (je×Int×Unit):=bJ (FV bQ e f 0 0 0 0 0 false) fun g=>dW g (fun i=>a6 ((0,(0,(0,(0,(false,()))))),(0,()))) (fun d=>a6 ((d.2.1.1,(d.2.1.2.1,(d.2.1.2.2.1,(d.2.1.2.2.2.1,(d.2.1.2.2.2.2.1,()))))),(d.1.1,())))
def aiF:Sum:=⟨[V3,dC],[(.pair dC VY,false),(.int .i64,false)],fun x=>adE x.1 x.2.1⟩
noncomputable def agF:Env:=iO prog tt 183 [] [(2,at7)] [(2,akz)]
def al0 {d:Type} (a:aac.den->Option d) (b:aaO.den->Option d) (c:abt.den->Option d) (v:aac.den):Option d:=QI (fun e f g i j l o p=>a ((e,f,g,()),((i,j,l,o,p,()),()))) (fun q s u x y=>b ((),((q,s,u,x,y,()),()))) (fun z A B D E G=>c ((z,()),((A,B,D,E,G,()),()))) v.1.1 v.1.2.1 v.1.2.2.1 v.2.1.1 v.2.1.2.1 v.2.1.2.2.1 v.2.1.2.2.2.1 v.2.1.2.2.2.2.1
theorem aAQ:dV agF 183 aq3 akz:=xh (al0) (h2:=by intros;simp only[al0,QI,dh,di,bI,cZ,dm])
theorem aEU:dO agF 183 aIq:=nM [aq3] (aD (fM (aAQ)) aN)
theorem anF:eF agF:=eA f183 aN (aEU)
theorem XQ:dR prog 183 aiF:=sA anF
def fZ (d:List GH):=dJ d (false,(false,([],()))) (eU .i64 (bM d) 1)
def jd (d:List GH) (e:bZ):=fP (bT (fZ d).2.2.1 e) (bT (fZ d).2.2.1 e)
def qf (d:List GH):=lZ VZ (sub d 0 (eU .i64 (bM d) 1)) (sub d 0 (eU .i64 (bM d) 1))
def jK (d:List GH):=lZ VZ d d
def uF (d:List GH) (e:bZ):=bT (bT [] (sub d 0 (eU .i64 (bM d) 1))) [(false,(false,((bT (fZ d).2.2.1 e),())))]
def lC (d:List GH):=bV (eU .i64 (bM d) 1) (eU .i64 (bM d) 1)
def jL (d:List GH):=fP (fZ d).2.2.1 (fZ d).2.2.1
def rG (d:List GH):=fH (bM d) 0 (eU .i64 (bM d) 1)
def YN (d:List GH) (e:bZ):Option ((List GH)×Unit):=cond (dY (bT [] d) 24) (cond (dY (bT (bT [] d) [(false,(false,(e,())))]) 24) (a6 ((bT (bT [] d) [(false,(false,(e,())))]),())) a7) a7
def WI (d:List GH) (e:bZ) (f:Bool):Option ((List GH)×Unit):=cond (gY 0 (bM d)) (cond (!f) (cond (fV d (eU .i64 (bM d) 1)) (cond (rG d) (cond (gV (fZ d).2.2.1 e) (cond (jK d) (cond (bV (bM d) (bM d)) (cond (lC d) (cond (rG d) (cond (qf d) (cond (jL d) (cond (fP e e) (cond (gV (fZ d).2.2.1 e) (cond (jd d e) (cond ((jA false false)&&((jA false false)&&((jd d e)&&true))) (cond (dY (bT [] (sub d 0 (eU .i64 (bM d) 1))) 24) (cond (jK d) (cond (bV (bM d) (bM d)) (cond (lC d) (cond (jL d) (cond (fP e e) (cond (gV (fZ d).2.2.1 e) (cond (jd d e) (cond ((jA false false)&&((jA false false)&&((jd d e)&&true))) (cond (jK d) (cond (bV (bM d) (bM d)) (cond (lC d) (cond (rG d) (cond (qf d) (cond (jL d) (cond (fP e e) (cond (gV (fZ d).2.2.1 e) (cond (jd d e) (cond (dY (uF d e) 24) (cond (jK d) (cond (bV (bM d) (bM d)) (cond (lC d) (cond (rG d) (cond (qf d) (cond (jL d) (cond (fP e e) (cond (gV (fZ d).2.2.1 e) (cond (jd d e) (cond ((jA false false)&&((jA false false)&&((jd d e)&&true))) (bJ (cond (jK d) (cond (bV (bM d) (bM d)) (cond (lC d) (cond (rG d) (cond (qf d) (cond (jL d) (cond (fP e e) (cond (gV (fZ d).2.2.1 e) (cond (jd d e) (cond (dY (bT [] (sub d 0 (eU .i64 (bM d) 1))) 24) (cond (jK d) (cond (bV (bM d) (bM d)) (cond (lC d) (cond (jL d) (cond (fP e e) (cond (gV (fZ d).2.2.1 e) (cond (jd d e) (cond ((jA false false)&&((jA false false)&&((jd d e)&&true))) (cond (dY (uF d e) 24) (cond (jK d) (cond (bV (bM d) (bM d)) (cond (lC d) (cond (rG d) (cond (qf d) (cond (jL d) (cond (fP e e) (cond (gV (fZ d).2.2.1 e) (cond (jd d e) (cond ((jA false false)&&((jA false false)&&((jd d e)&&true))) (cond ((((jK d)&&((fP e e)&&((jA f f)&&((bV (bM d) (bM d))&&((jK d)&&((bV (bM d) (bM d))&&((bV (bM d) (bM d))&&((jA (gY 0 (bM d)) (gY 0 (bM d)))&&((jA true true)&&((jA f f)&&((jA (!f) (!f))&&((jA (!f) (!f))&&((jK d)&&((bV (bM d) (bM d))&&((lC d)&&(((jA (fZ d).1 (fZ d).1)&&((jA (fZ d).2.1 (fZ d).2.1)&&((jL d)&&true)))&&(((jA (fZ d).1 (fZ d).1)&&((jA (fZ d).2.1 (fZ d).2.1)&&((jL d)&&true)))&&((jK d)&&((bV (bM d) (bM d))&&((lC d)&&((qf d)&&((jL d)&&((fP e e)&&((jd d e)&&(((jA false false)&&((jA false false)&&((jd d e)&&true)))&&true)))))))))))))))))))))))))&&(((lZ VZ [(false,(false,((bT (fZ d).2.2.1 e),())))] [(false,(false,((bT (fZ d).2.2.1 e),())))])&&((lZ VZ (uF d e) (uF d e))&&(((jA (fZ d).1 (fZ d).1)&&((jA (fZ d).2.1 (fZ d).2.1)&&((jL d)&&true)))&&true)))&&true))&&true) (a6 ()) (a7)) (a7)) (a7)) (a7)) (a7)) (a7)) (a7)) (a7)) (a7)) (a7)) (a7)) (a7)) (a7)) (a7)) (a7)) (a7)) (a7)) (a7)) (a7)) (a7)) (a7)) (a7)) (a7)) (a7)) (a7)) (a7)) (a7)) (a7)) (a7)) (a7)) fun g=>bJ (cond (jK d) (cond (bV (bM d) (bM d)) (cond (lC d) (cond (rG d) (cond (qf d) (cond (jL d) (cond (fP e e) (cond (gV (fZ d).2.2.1 e) (cond (jd d e) (cond (jK d) (cond (bV (bM d) (bM d)) (cond (lC d) (cond (rG d) (cond (qf d) (cond (jL d) (cond (fP e e) (cond (gV (fZ d).2.2.1 e) (cond (jd d e) (cond ((jA false false)&&((jA false false)&&((jd d e)&&true))) (cond (dY (bT [] (sub d 0 (eU .i64 (bM d) 1))) 24) (cond (jK d) (cond (bV (bM d) (bM d)) (cond (lC d) (cond (jL d) (cond (fP e e) (cond (gV (fZ d).2.2.1 e) (cond (jd d e) (cond ((jA false false)&&((jA false false)&&((jd d e)&&true))) (cond (dY (uF d e) 24) (cond (jK d) (cond (bV (bM d) (bM d)) (cond (lC d) (cond (rG d) (cond (qf d) (cond (jL d) (cond (fP e e) (cond (gV (fZ d).2.2.1 e) (cond (jd d e) (cond ((jA false false)&&((jA false false)&&((jd d e)&&true))) (cond ((((jK d)&&((fP e e)&&((jA f f)&&((bV (bM d) (bM d))&&((jK d)&&((bV (bM d) (bM d))&&((bV (bM d) (bM d))&&((jA (gY 0 (bM d)) (gY 0 (bM d)))&&((jA true true)&&((jA f f)&&((jA (!f) (!f))&&((jA (!f) (!f))&&((jK d)&&((bV (bM d) (bM d))&&((lC d)&&(((jA (fZ d).1 (fZ d).1)&&((jA (fZ d).2.1 (fZ d).2.1)&&((jL d)&&true)))&&(((jA (fZ d).1 (fZ d).1)&&((jA (fZ d).2.1 (fZ d).2.1)&&((jL d)&&true)))&&((jK d)&&((bV (bM d) (bM d))&&((lC d)&&((qf d)&&((jL d)&&((fP e e)&&((jd d e)&&(((jA false false)&&((jA false false)&&((jd d e)&&true)))&&true)))))))))))))))))))))))))&&(((lZ VZ [(false,(false,((bT (fZ d).2.2.1 e),())))] [(false,(false,((bT (fZ d).2.2.1 e),())))])&&((lZ VZ (uF d e) (uF d e))&&(((jA (fZ d).1 (fZ d).1)&&((jA (fZ d).2.1 (fZ d).2.1)&&((jL d)&&true)))&&true)))&&true))&&true) (a6 ()) (a7)) (a7)) (a7)) (a7)) (a7)) (a7)) (a7)) (a7)) (a7)) (a7)) (a7)) (a7)) (a7)) (a7)) (a7)) (a7)) (a7)) (a7)) (a7)) (a7)) (a7)) (a7)) (a7)) (a7)) (a7)) (a7)) (a7)) (a7)) (a7)) (a7)) (a7)) (a7)) (a7)) (a7)) (a7)) (a7)) (a7)) (a7)) (a7)) (a7)) fun i=>a6 ((uF d e),())) a7) a7) a7) a7) a7) a7) a7) a7) a7) a7) a7) a7) a7) a7) a7) a7) a7) a7) a7) a7) a7) a7) a7) a7) a7) a7) a7) a7) a7) a7) a7) a7) a7) a7) a7) a7) a7) a7) a7) a7) a7) a7)<|YN d e)<|YN d e
def axa:Sum:=⟨[.list VZ,.str,.bool],[(.list VZ,true)],fun x=>WI x.1 x.2.1 x.2.2.1⟩
theorem apK:dR prog 184 axa:=qA f184 [] aN
noncomputable def aIr:Code:=(f185.body).getD .skip
noncomputable def aq4:Code:=cA (cA (cA (cB (cB (cB (cB (aIr)))))))
def aua:eQ:=⟨[0,1,3,9,10,11,100004],[(9,VZ)],[9,10],[],[8],[(8,VZ)]⟩
def aad:SP:=⟨us [bO,.v V3,.u,bR,.u,.u,.u,.u,.u,.slc 1800009,bO,bR] 112,[.arr 1800009 VZ]⟩
def aaP:SP:=⟨us [.u,.u,.u,.u,.u,.u,.u,.u,.u,.slc 1800009,bO] 113,[.arr 1800009 VZ]⟩
def abu:SP:=⟨us [.u,.u,.u,.u,.u,.u,.u,.u,.v (.list VZ)] 115,[]⟩
def vM {f:Type} (e:bZ) (d:Int) (g:bZ) (i:bZ->(List je)->Int->bZ->Int->(List GH)->Option f) (j:List je) (l:Int) (o:(je×Int×Unit)) (p:List GH):Option f:=cond (fH (bM e) (dw .i64 d 1) (dw .i64 d 2)) (cond (gV g (sub e (dw .i64 d 1) (dw .i64 d 2))) (i e j l (bT g (sub e (dw .i64 d 1) (dw .i64 d 2))) o.1.2.2.1 p) a7) a7
def Gq {p:Type} (f:(je×Int×Unit)) (e:Int) (d g:bZ) (j:bZ->(List je)->Int->bZ->Int->(List GH)->Option p) (l:List je) (o:Int) (i:List GH):Option p:=cond (bV f.1.1 13) (cond (bV f.1.2.2.1 (dw .i64 e 2)) (cond (fV d (dw .i64 e 1)) (cond (bV (bY d (dw .i64 e 1)) 36) (vM d e g j l o f i)<|cond (bV (bY d (dw .i64 e 1)) 96) (vM d e g j l o f i)<|cond (bV (bY d (dw .i64 e 1)) 34) (vM d e g j l o f i)<|cond (bV (bY d (dw .i64 e 1)) 92) (vM d e g j l o f i)<|cond (!(bV (bY d (dw .i64 e 1)) 10)) (cond (fH (bM d) e (dw .i64 e 2)) (cond (gV g (sub d e (dw .i64 e 2))) (j d l o (bT g (sub d e (dw .i64 e 2))) f.1.2.2.1 i) a7) a7)<|j d l o g f.1.2.2.1 i) a7)<|j d l o g f.1.2.2.1 i)<|cond (!(fP g [])) (cond (dY (bT i [(false,(true,(g,())))]) 24) (cond (fH (bM d) e f.1.2.2.1) (cond (dY (bT (bT i [(false,(true,(g,())))]) [(true,(true,((sub d e f.1.2.2.1),())))]) 24) (j d l o [] f.1.2.2.1 (bT (bT i [(false,(true,(g,())))]) [(true,(true,((sub d e f.1.2.2.1),())))])) a7) a7) a7)<|cond (fH (bM d) e f.1.2.2.1) (cond (dY (bT i [(true,(true,((sub d e f.1.2.2.1),())))]) 24) (j d l o [] f.1.2.2.1 (bT i [(true,(true,((sub d e f.1.2.2.1),())))])) a7) a7
def QJ {o:Type} (p:bZ->(List je)->Int->bZ->Int->(List GH)->Option o) (q:bZ->(List GH)->Option o) (s:(List GH)->Option o) (e:bZ) (g:List je) (i:Int) (f:bZ) (d:Int) (j:List GH):Option o:=cond (gY d i) (bJ (adE g d) fun l=>cond (bV l.2.1 0) (cond (fH (bM e) d (dw .i64 d 1)) (cond (gV f (sub e d (dw .i64 d 1))) (p e g i (bT f (sub e d (dw .i64 d 1))) (dw .i64 d 1) j) a7) a7)<|cond (bV l.1.1 12) (cond (bV l.1.2.2.1 (dw .i64 d 1)) (cond (fH (bM e) d (dw .i64 d 1)) (cond (gV f (sub e d (dw .i64 d 1))) (p e g i (bT f (sub e d (dw .i64 d 1))) (dw .i64 d 1) j) a7) a7)<|Gq l d e f p g i j)<|Gq l d e f p g i j)<|q f j
def uM:Nat->bZ->(List je)->Int->bZ->Int->(List GH)->Option (aaP.den⊕abu.den)
 |0,_,_,_,_,_,_=>a7
 |n+1,d,e,f,g,i,j=>QJ (uM n) (fun l o=>a6 (.inl ((l,()),(o,())))) (fun p=>a6 (.inr ((p,()),()))) d e f g i j
def az0 (n:Nat) (v:aad.den):=bv (uM n) v
noncomputable def akA:dE:=fU aua aad aaP abu (.exit 0) (az0 bQ) 6
def Oi (e:bZ) (f:List je) (g i:Int):Option ((List GH)×Unit):=bJ (uM bQ e f i [] g []) fun j=>dW j (fun d=>cond (!(fP d.1.1 [])) (cond (dY (bT d.2.1 [(false,(true,(d.1.1,())))]) 24) (a6 ((bT d.2.1 [(false,(true,(d.1.1,())))]),())) a7)<|cond (bV (bM d.2.1) 0) (cond (dY (bT d.2.1 [(false,(true,(d.1.1,())))]) 24) (a6 ((bT d.2.1 [(false,(true,(d.1.1,())))]),())) a7)<|some (d.2.1,())) (fun l=>a6 (l.1.1,()))
def axb:Sum:=⟨[.str,V3,dC,dC],[(.list VZ,false)],fun x=>Oi x.1 x.2.1 x.2.2.1 x.2.2.2.1⟩
noncomputable def agG:Env:=iO prog tt 185 [(183,aiF)] [(4,aua)] [(4,akA)]
def al1 {d:Type} (a:aad.den->Option d) (b:aaP.den->Option d) (c:abu.den->Option d) (v:aad.den):Option d:=bv (QJ (fun e f g i j l=>a ((e,f,g,i,j,()),(l,()))) (fun o p=>b ((o,()),(p,()))) (aE c)) v
theorem aAR:dV agG 185 aq4 akA:=xh (al1) (h2:=by intros;simp only[al1,aE,bv,QJ,dh,di,bI,cZ,dm,vM,Gq])
theorem aEV:dO agG 185 aIr:=nM [aq4] (aD (fM (aAR)) aN)
theorem anG:eF agG:=eA f185 (aD XQ aN) (aEV)
theorem apL:dR prog 185 axb:=sA anG
noncomputable def aIo:Code:=(f153.body).getD .skip
noncomputable def aqY:Code:=cA (cA (cA (cB (cB (cB (cB (cB (aIo))))))))
def atX:eQ:=⟨[0,3,4,5,6,100005],[(4,.pair (.list .bool) VZ)],[4],[],[2],[(2,VZ)]⟩
def Z4:SP:=⟨us [bO,.u,.u,.v V3,d5,b9,bR] 130,[.arr 1800004 VZ]⟩
def aaI:SP:=⟨us [.u,.u,.u,.u,d5] 132,[.arr 1800004 VZ]⟩
def abm:SP:=⟨us [.u,.u,.v (.list VZ)] 134,[]⟩
def Ar {i:Type} (f:(je×Int×Unit)) (e:bZ) (d:Int) (j:List GH) (l:Bool) (o:bZ->(List je)->Bool->Int->(List GH)->Option i) (p:List je):Option i:=cond (bV f.2.1 1) (cond (fH (bM e) d f.1.2.2.1) (bJ (WI j (sub e d f.1.2.2.1) l) fun g=>o e p false f.1.2.2.1 g.1) a7)<|cond (fH (bM e) d (dw .i64 d 1)) (bJ (WI j (sub e d (dw .i64 d 1)) l) fun g=>o e p false (dw .i64 d 1) g.1) a7
def Gp {l:Type} (d:(je×Int×Unit)) (e:bZ) (f:List GH) (i:bZ->(List je)->Bool->Int->(List GH)->Option l) (g:List je) (o:Bool):Option l:=cond (bV d.1.1 13) (cond (bV d.1.2.2.1 (dw .i64 d.1.2.1 2)) (cond (fV e (dw .i64 d.1.2.1 1)) (cond (!(bV (bY e (dw .i64 d.1.2.1 1)) 10)) (cond (fH (bM e) (dw .i64 d.1.2.1 1) d.1.2.2.1) (cond (dY (bT f [(false,(true,((sub e (dw .i64 d.1.2.1 1) d.1.2.2.1),())))]) 24) (i e g true d.1.2.2.1 (bT f [(false,(true,((sub e (dw .i64 d.1.2.1 1) d.1.2.2.1),())))])) a7) a7)<|i e g o d.1.2.2.1 f) a7)<|i e g o d.1.2.2.1 f)<|cond (bV d.1.1 4) (cond d.1.2.2.2.2.1 (cond (fH (bM e) (dw .i64 d.1.2.1 1) d.1.2.2.1) (cond (dY (bT f [(false,(true,((sub e (dw .i64 d.1.2.1 1) d.1.2.2.1),())))]) 24) (i e g true d.1.2.2.1 (bT f [(false,(true,((sub e (dw .i64 d.1.2.1 1) d.1.2.2.1),())))])) a7) a7)<|cond (fH (bM e) (dw .i64 d.1.2.1 1) (eU .i64 d.1.2.2.1 1)) (cond (dY (bT f [(false,(true,((sub e (dw .i64 d.1.2.1 1) (eU .i64 d.1.2.2.1 1)),())))]) 24) (i e g true d.1.2.2.1 (bT f [(false,(true,((sub e (dw .i64 d.1.2.1 1) (eU .i64 d.1.2.2.1 1)),())))])) a7) a7)<|cond (bV d.1.1 5) (cond d.1.2.2.2.2.1 (bJ (Oi e g (dw .i64 d.1.2.1 1) d.1.2.2.1) fun j=>cond (dY (bT f j.1) 24) (i e g true d.1.2.2.1 (bT f j.1)) a7)<|bJ (Oi e g (dw .i64 d.1.2.1 1) (eU .i64 d.1.2.2.1 1)) fun j=>cond (dY (bT f j.1) 24) (i e g true d.1.2.2.1 (bT f j.1)) a7)<|cond (fH (bM e) d.1.2.1 d.1.2.2.1) (cond (dY (bT f [(true,(false,((sub e d.1.2.1 d.1.2.2.1),())))]) 24) (i e g true d.1.2.2.1 (bT f [(true,(false,((sub e d.1.2.1 d.1.2.2.1),())))])) a7) a7
def QD {o:Type} (j:bZ->(List je)->Bool->Int->(List GH)->Option o) (p q:(List GH)->Option o) (e:bZ) (f:List je) (l:Bool) (g:Int) (i:List GH):Option o:=cond (gY g (bM e)) (bJ (adE f g) fun d=>cond (bV d.2.1 0) (Ar d e g i l j f)<|cond (bV d.1.1 14) (Ar d e g i l j f)<|cond (bV d.1.1 12) (cond (bV d.1.2.2.1 (dw .i64 g 1)) (Ar d e g i l j f)<|Gp d e i j f l)<|Gp d e i j f l)<|p i
def mg:Nat->bZ->(List je)->Bool->Int->(List GH)->Option (aaI.den⊕abm.den)
 |0,_,_,_,_,_=>a7
 |n+1,d,e,f,g,i=>QD (mg n) (fun j=>a6 (.inl ((),(j,())))) (fun l=>a6 (.inr ((l,()),()))) d e f g i
def azT (n:Nat) (v:Z4.den):=bh (mg n) v
noncomputable def aku:dE:=fU atX Z4 aaI abm (.exit 0) (azT bQ) 6
def ajo (d:bZ):Option ((List GH)×Unit):=bJ (ajz d) fun e=>bJ (mg bQ d e.1 true 0 []) fun f=>dW f (fun g=>a6 (g.2.1,())) (fun i=>a6 (i.1.1,()))
def aw1:Sum:=⟨[.str],[(.list VZ,false)],fun x=>ajo x.1⟩
noncomputable def agC:Env:=iO prog tt 153 [(182,aw9),(183,aiF),(184,axa),(185,axb)] [(5,atX)] [(5,aku)]
def alU {d:Type} (a:Z4.den->Option d) (b:aaI.den->Option d) (c:abm.den->Option d) (v:Z4.den):Option d:=bh (QD (fun e f g i j=>a ((e,f,g,i,()),(j,()))) (fun l=>b ((),(l,()))) (aE c)) v
theorem aAK:dV agC 153 aqY aku:=xh (alU) (h2:=by intros;simp only[alU,aE,bh,QD,dh,di,bI,cZ,dm,Ar,Gp])
theorem aEO:dO agC 153 aIo:=nM [aqY] (aD (fM (aAK)) aN)
theorem anx:eF agC:=eA f153 (aD apJ (aD XQ (aD apK (aD apL aN)))) (aEO)
theorem apx:dR prog 153 aw1:=sA anx
noncomputable def aIk:Code:=(f117.body).getD .skip
noncomputable def aqR:Code:=cA (cA (cB (cA (cB (cB (cB (aIk)))))))
def atS:eQ:=⟨[3,4,5,100004],[],[4],[],[2],[]⟩
def ZT:SP:=⟨us [.u,.u,.u,.v (.list VZ),bO,bR] 16,[]⟩
def aaC:SP:=⟨us [.u,.u,.u,.u,bO] 17,[]⟩
def abf:SP:=⟨us eK 19,[]⟩
def Qx {f:Type} (i:(List GH)->bZ->Int->Option f) (j l:bZ->Option f) (d:List GH) (g:bZ) (e:Int):Option f:=cond (gY e (bM d)) (cond (fV d e) (cond (gV g (dJ d (false,(false,([],()))) e).2.2.1) (i d (bT g (dJ d (false,(false,([],()))) e).2.2.1) (dw .i64 e 1)) a7) a7)<|j g
def FT:Nat->(List GH)->bZ->Int->Option (aaC.den⊕abf.den)
 |0,_,_,_=>a7
 |n+1,d,e,f=>Qx (FT n) (fun g=>a6 (.inl ((g,()),()))) (fun i=>a6 (.inr ((i,()),()))) d e f
def azM (n:Nat) (v:ZT.den):=aR (FT n) v
noncomputable def akn:dE:=fU atS ZT aaC abf (.exit 0) (azM bQ) 6
def ads (d:bZ):Option taU:=bJ (ajo d) fun e=>bJ (FT bQ e.1 [] 0) fun f=>dW f (fun g=>a6 (g.1.1,())) (fun i=>a6 (i.1.1,()))
def awR:Sum:=⟨[.str],tzF,fun x=>ads x.1⟩
noncomputable def agt:Env:=iO prog tt 117 [(153,aw1)] [(4,atS)] [(4,akn)]
def alN {d:Type} (a:ZT.den->Option d) (b:aaC.den->Option d) (c:abf.den->Option d) (v:ZT.den):Option d:=aR (Qx (fun e f g=>a ((e,f,g,()),())) (aE b) (aE c)) v
theorem aAD:dV agt 117 aqR akn:=xh (alN) (h2:=by intros;simp only[alN,aE,aR,Qx,dh,di,bI,cZ,dm])
theorem aEE:dO agt 117 aIk:=nM [aqR] (aD (fM (aAD)) aN)
theorem ank:eF agt:=eA f117 (aD apx aN) (aEE)
theorem apk:dR prog 117 awR:=sA ank
end
section
open Option renaming some → a6, none → a7
open Tryz
open Go.RowKit
noncomputable def b83:Code:=(f83.body).getD .skip
noncomputable def arq:Code:=cA (cA (cA (cB (cA (cB (cA (cB (cB (cB (cB (cB (b83))))))))))))
noncomputable def ars:Code:=cA (cA (cA (cB (cB (cB (cB (cB (cB (cB (cB (b83)))))))))))
def aus:eQ:=⟨[0,1,6,7,11,12,100014],[],[1,6,7,11,12],[],[6,7],[]⟩
def aut:eQ:=⟨[0,1,5,6,7,11,14,100023],[],[0,1,5,6,7,11,14],[],[6,7],[]⟩
def aaw:SP:=⟨us [bO,bR,.u,.u,.u,.u,.ptr 1000006 0,eE,.u,.u,.u,.ptr 1000011 0,bR] 173,cX⟩
def aa9:SP:=⟨us [.u,bR,.u,.u,.u,.u,.ptr 1000006 0,eE,.u,.u,.u,.ptr 1000011 0,bR] 173,cX⟩
def abP:SP:=⟨us [] 186,[]⟩
def QQ {e:Type} (y:bZ->Int->Int->Int->Dx->Bool->Int->Bool->Int->Int->Int->Bool->Option e) (x:Int->Int->Int->Dx->Bool->Int->Bool->Int->Int->Int->Bool->Option e) (z:Option e) (f:bZ) (g d i:Int) (j:Dx) (l:Bool) (o:Int) (p:Bool) (q s u:Int) (v:Bool):Option e:=cond (gY d (bM f)) (cond (fV f d) (cond (!(bV (bY f d) 10)) (y f g (dw .i64 d 1) i j l o p q s u v)<|x g d i j l o p q s u v) a7)<|x g d i j l o p q s u v
def Ko:Nat->bZ->Int->Int->Int->Dx->Bool->Int->Bool->Int->Int->Int->Bool->Option (aa9.den⊕abP.den)
 |0,_,_,_,_,_,_,_,_,_,_,_,_=>a7
 |n+1,d,e,f,g,i,j,l,o,p,q,s,u=>QQ (Ko n) (fun v x y z A B D E G I J=>a6 (.inl ((v,x,()),((y,z,A,()),(B,D,()),(E,G,I,J,()),())))) (a6 (.inr ((),()))) d e f g i j l o p q s u
def aAj (n:Nat) (v:aaw.den):=bw (Ko n) v
noncomputable def akT:dE:=fU aus aaw aa9 abP (.exit 0) (aAj bQ) 6
def aax:SP:=⟨cR,cL⟩
def KF:SP:=⟨cR,cL⟩
def abQ:SP:=⟨us [] 186,[]⟩
def QR {f:Type} (B A:bZ->Int->Int->Int->Dx->Bool->Int->Bool->Int->Int->Int->Bool->Int->Dx->Bool->Option f) (E:Option f) (d:bZ) (g e i:Int) (j:Dx) (l:Bool) (o:Int) (p:Bool) (q s u:Int) (v:Bool) (x:Int) (y:Dx) (z:Bool):Option f:=cond (gY e (bM d)) (cond (fV d e) (bJ (SH (bY d e)) fun D=>cond (bV D.1 6) (B d g (dw .i64 e 1) i j l o p q s u v x y z)<|A d g e i j l o p q s u v x y z) a7)<|A d g e i j l o p q s u v x y z
def Kq:Nat->bZ->Int->Int->Int->Dx->Bool->Int->Bool->Int->Int->Int->Bool->Int->Dx->Bool->Option (KF.den⊕abQ.den)
 |0,_,_,_,_,_,_,_,_,_,_,_,_,_,_,_=>a7
 |n+1,d,e,f,g,i,j,l,o,p,q,s,u,v,x,y=>QR (Kq n) (fun z A B D E G I J K L M N O S U=>a6 (.inl ((z,A,B,()),((D,E,G,()),(I,J,()),(K,L,M,N,()),(O,S,U,()),())))) (a6 (.inr ((),()))) d e f g i j l o p q s u v x y
def aAk (n:Nat) (v:aax.den):=bx (Kq n) v
noncomputable def akU:dE:=fU aut aax KF abQ (.exit 2) (aAk bQ) 12
def yD (d:Int×Dx×qG):=lZ Dy d.2.1 d.2.1
def ag3 (d:Dc) (e:Int×Dx×qG) (f:Int):Option taT:=bJ (YY d.1) fun g=>cond ((bV d.1 d.1)&&((yD e)&&((jA false false)&&true))) (a6 ((4,(f,((dw .i64 f (bM g.1)),(false,())))),((d.1,(e.2.1,(false,()))),()))) a7
def ag4 (d:KF.den):Option taT:=cond ((bV d.2.1.1 d.2.1.1)&&((lZ Dy d.2.1.2.1 d.2.1.2.1)&&((jA d.2.1.2.2.1 d.2.1.2.2.1)&&true))) (a6 ((5,(d.1.2.1,(d.1.2.2.1,(false,())))),((d.2.1.1,(d.2.1.2.1,(d.2.1.2.2.1,()))),()))) a7
def YX (d:KF.den):Option taT:=bJ (WE d.1.1 d.1.2.1) fun e=>cond (fH (bM d.1.1) d.1.2.1 e.1) (cond (!(bV d.2.2.2.2.1.1 0)) (cond (lZ Dy d.2.2.2.2.1.2.1 d.2.2.2.2.1.2.1) (cond (fP (sub d.1.1 d.1.2.1 e.1) (sub d.1.1 d.1.2.1 e.1)) (cond (bV d.2.2.2.2.1.1 d.2.2.2.2.1.1) (cond (jA (bV d.2.2.2.2.1.1 5) (bV d.2.2.2.2.1.1 5)) (cond (dY (bT [] d.2.2.2.2.1.2.1) 24) (cond (fP (sub d.1.1 d.1.2.1 e.1) (sub d.1.1 d.1.2.1 e.1)) (cond (bV d.2.2.2.2.1.1 d.2.2.2.2.1.1) (cond (jA (bV d.2.2.2.2.1.1 5) (bV d.2.2.2.2.1.1 5)) (bJ (ads (sub d.1.1 d.1.2.1 e.1)) fun f=>cond (lZ Dy d.2.2.2.2.1.2.1 d.2.2.2.2.1.2.1) (cond (fP (sub d.1.1 d.1.2.1 e.1) (sub d.1.1 d.1.2.1 e.1)) (cond (bV d.2.2.2.2.1.1 d.2.2.2.2.1.1) (cond (jA (bV d.2.2.2.2.1.1 5) (bV d.2.2.2.2.1.1 5)) (cond (((fP (sub d.1.1 d.1.2.1 e.1) (sub d.1.1 d.1.2.1 e.1))&&true)&&((fP f.1 f.1)&&true)) (cond (dY (bT (bT [] d.2.2.2.2.1.2.1) [(f.1,((bV d.2.2.2.2.1.1 5),()))]) 24) (cond (lZ Dy d.2.2.2.2.1.2.1 d.2.2.2.2.1.2.1) (cond (fP (sub d.1.1 d.1.2.1 e.1) (sub d.1.1 d.1.2.1 e.1)) (cond (bV d.2.2.2.2.1.1 d.2.2.2.2.1.1) (cond (jA (bV d.2.2.2.2.1.1 5) (bV d.2.2.2.2.1.1 5)) (cond ((fP f.1 f.1)&&((jA (bV d.2.2.2.2.1.1 5) (bV d.2.2.2.2.1.1 5))&&true)) (bJ (Su (sub d.1.1 d.1.2.1 e.1)) fun g=>cond ((bV d.2.1.1 d.2.1.1)&&((jA d.2.1.2.2.1 d.2.1.2.2.1)&&true)) (a6 ((6,(d.1.2.1,(e.1,((!g.1),())))),((d.2.1.1,((bT (bT [] d.2.2.2.2.1.2.1) [(f.1,((bV d.2.2.2.2.1.1 5),()))]),(d.2.1.2.2.1,()))),()))) a7) a7) a7) a7) a7) a7) a7) a7) a7) a7) a7) a7) a7) a7) a7) a7) a7) a7) a7) a7)<|bJ (Su (sub d.1.1 d.1.2.1 e.1)) fun f=>cond ((bV d.2.1.1 d.2.1.1)&&((lZ Dy d.2.1.2.1 d.2.1.2.1)&&((jA d.2.1.2.2.1 d.2.1.2.2.1)&&true))) (a6 ((6,(d.1.2.1,(e.1,((!f.1),())))),((d.2.1.1,(d.2.1.2.1,(d.2.1.2.2.1,()))),()))) a7) a7
def aze (i:bZ) (e:Int) (d:Int×Dx×qG):Option taT:=cond d.2.2.1 (cond (fV d.2.1 0) (bJ (ajh i e (dJ d.2.1 ([],(false,())) 0)) fun l=>cond (bV l.2.1 0) (cond ((bV d.1 d.1)&&((yD d)&&((jA d.2.2.1 d.2.2.1)&&true))) (a6 ((7,(e,(l.1,(true,())))),((d.1,(d.2.1,(d.2.2.1,()))),()))) a7)<|cond (fH (bM d.2.1) 1 (bM d.2.1)) (cond (bV d.1 d.1) (cond (yD d) (cond (fH (bM d.2.1) 1 (bM d.2.1)) (cond (lZ Dy (sub d.2.1 1 (bM d.2.1)) (sub d.2.1 1 (bM d.2.1))) (cond (yD d) (cond (bV (bM d.2.1) (bM d.2.1)) (cond (jA (gY 1 (bM d.2.1)) (gY 1 (bM d.2.1))) (cond ((bV d.1 d.1)&&((lZ Dy (sub d.2.1 1 (bM d.2.1)) (sub d.2.1 1 (bM d.2.1)))&&((jA (gY 1 (bM d.2.1)) (gY 1 (bM d.2.1)))&&true))) (a6 ((7,(e,(l.1,(false,())))),((d.1,((sub d.2.1 1 (bM d.2.1)),((gY 1 (bM d.2.1)),()))),()))) a7) a7) a7) a7) a7) a7) a7) a7) a7) a7)<|bJ (aji i e) fun l=>cond (gY e l.1) (cond ((bV d.1 d.1)&&((yD d)&&((jA d.2.2.1 d.2.2.1)&&true))) (a6 ((1,(e,(l.1,(false,())))),((d.1,(d.2.1,(d.2.2.1,()))),()))) a7)<|cond (fV i e) (cond (bV (bY i e) 10) (cond (yD d) (cond (yD d) (cond (bV (bM d.2.1) (bM d.2.1)) (cond (jA (gY 0 (bM d.2.1)) (gY 0 (bM d.2.1))) (cond ((bV 0 0)&&((yD d)&&((jA (gY 0 (bM d.2.1)) (gY 0 (bM d.2.1)))&&true))) (a6 ((2,(e,((dw .i64 e 1),(false,())))),((0,(d.2.1,((gY 0 (bM d.2.1)),()))),()))) a7) a7) a7) a7) a7)<|cond (fV i e) (cond (bV (bY i e) 35) (bJ (Ko bQ i e e 0 d.2.1 false 0 false 0 0 0 false) fun j=>dW j (fun g=>cond ((bV g.2.1.1 g.2.1.1)&&((lZ Dy g.2.1.2.1 g.2.1.2.1)&&((jA g.2.1.2.2.1 g.2.1.2.2.1)&&true))) (a6 ((3,(g.1.1,(g.1.2.1,(false,())))),((g.2.1.1,(g.2.1.2.1,(g.2.1.2.2.1,()))),()))) a7) (fun p=>a7))<|bJ (adr i e) fun j=>cond (gY 0 j.1) (cond (bV j.1 4) (ag3 j d e)<|cond (bV j.1 5) (ag3 j d e)<|bJ (YY j.1) fun o=>cond ((bV 0 0)&&((yD d)&&((jA false false)&&true))) (a6 ((4,(e,((dw .i64 e (bM o.1)),(false,())))),((0,(d.2.1,(false,()))),()))) a7)<|bJ (Kq bQ i e e 0 d.2.1 false 0 false 0 0 0 false d.1 d.2.1 d.2.2.1) fun o=>dW o (fun f=>cond (gY f.1.2.1 f.1.2.2.1) (cond (gY f.1.2.2.1 (bM f.1.1)) (cond (fV f.1.1 f.1.2.2.1) (cond (bV (bY f.1.1 f.1.2.2.1) 60) (ag4 f)<|cond (fV f.1.1 f.1.2.2.1) (cond (bV (bY f.1.1 f.1.2.2.1) 62) (ag4 f)<|YX f) a7) a7)<|YX f)<|YX f) (fun q=>a7)) a7) a7
def aC5:Sum:=⟨[.str,dC,.pair dC tyM],tzI,fun x=>aze x.1 x.2.1 x.2.2.1⟩
noncomputable def ajd:Env:=iO prog tt 83 [(55,axM),(117,awR),(113,awN),(114,awO),(115,awP),(84,amT),(116,awQ),(118,awS)] [(14,aus),(23,aut)] [(14,akT),(23,akU)]
def amk {d:Type} (a:aaw.den->Option d) (b:aa9.den->Option d) (c:abP.den->Option d) (v:aaw.den):Option d:=bw (QQ (fun e f g i j l o p q s u x=>a ((e,f,g,()),((i,j,l,()),(o,p,()),(q,s,u,x,()),()))) (fun y z A B D E G I J K L=>b ((y,z,()),((A,B,D,()),(E,G,()),(I,J,K,L,()),()))) (c ((),()))) v
theorem aBa:dV ajd 83 arq akT:=xh (amk) (h2:=by intros;simp only[amk,bw,QQ,dh,di,bI,cZ,dm])
def aml {d:Type} (a:aax.den->Option d) (b:KF.den->Option d) (c:abQ.den->Option d) (v:aax.den):Option d:=bx (QR (fun e f g i j l o p q s u x y z A=>a ((e,f,g,()),((i,j,l,()),(o,p,()),(q,s,u,x,()),(y,z,A,()),()))) (fun B D E G I J K L M N O S U V W=>b ((B,D,E,()),((G,I,J,()),(K,L,()),(M,N,O,S,()),(U,V,W,()),()))) (c ((),()))) v
theorem aBb:dV ajd 83 ars akU:=xh (aml) (h2:=by intros;simp only[aml,bx,QR,dh,di,bI,cZ,dm])
theorem aJ5:dO ajd 83 b83:=nM [arq,ars] (aD (fM (aBa)) (aD (fM (aBb)) aN))
theorem asB:eF ajd:=eA f83 (aD ES (aD apk (aD apf (aD apg (aD aph (aD U5 (aD apj (aD apl aN)))))))) (aJ5)
theorem axV:dR prog 83 aC5:=sA asB
noncomputable def b47:Code:=(Tryz.f47.body).getD .skip
noncomputable def aBW:Code:=cA (cA (cA (cB (cB (cB (cB (b47)))))))
def aCo:eQ:=⟨[0,3,4,5,6,100004],[(4,VY)],[3,4,5],[],[2,3],[(2,VY)]⟩
def ald:SP:=⟨us [bO,.u,.u,cg,d5,cq,bR] 23,[.arr 1800004 VY,dk,cT]⟩
def ahQ:SP:=⟨us [.u,.u,.u,cg,d5,cq] 24,[.arr 1800004 VY,dk,cT]⟩
def aib:SP:=⟨us [.u,.u,eM] 27,[]⟩
def acs {e:Type} (s:bZ->Int->(List Du)->Int->Dx->Bool->Int->Bool->Option e) (u:(List Du)->Int->Dx->Bool->Int->Bool->Option e) (v:(List Du)->Option e) (f:bZ) (i:Int) (g:List Du) (j:Int) (l:Dx) (o:Bool) (p:Int) (q:Bool):Option e:=cond (gY i (bM f)) (bJ (aze f i (j,(l,(o,())))) fun d=>cond (dY (bT g [(d.1.1,(d.1.2.1,(d.1.2.2.1,(d.1.2.2.2.1,()))))]) 32) (s f d.1.2.2.1 (bT g [(d.1.1,(d.1.2.1,(d.1.2.2.1,(d.1.2.2.2.1,()))))]) d.2.1.1 d.2.1.2.1 d.2.1.2.2.1 p q) a7)<|u g j l o p q
def MK:Nat->bZ->Int->(List Du)->Int->Dx->Bool->Int->Bool->Option (ahQ.den⊕aib.den)
 |0,_,_,_,_,_,_,_,_=>a7
 |n+1,d,e,f,g,i,j,l,o=>acs (MK n) (fun p q s u v x=>a6 (.inl ((),(p,(q,s,u,()),(v,x,()),())))) (fun y=>a6 (.inr ((y,()),()))) d e f g i j l o
def aFn (n:Nat) (v:ald.den):=MK n v.1.1 v.1.2.1 v.2.1 v.2.2.1.1 v.2.2.1.2.1 v.2.2.1.2.2.1 v.2.2.2.1.1 v.2.2.2.1.2.1
noncomputable def au1:dE:=fU aCo ald ahQ aib (.exit 0) (aFn bQ) 6
def ay7 (e:bZ):Option ((List Du)×(Int×Dx×qG)×Unit):=bJ (MK bQ e 0 [] 0 [] false 0 false) fun f=>dW f (fun d=>a6 (d.2.1,((d.2.2.1.1,(d.2.2.1.2.1,(d.2.2.1.2.2.1,()))),()))) (fun g=>a7)
def aCX:Sum:=⟨[.str],[(.list VY,false),(.pair dC tyM,false)],fun x=>ay7 x.1⟩
noncomputable def ash:Env:=iO prog tt 47 [(83,aC5)] [(4,aCo)] [(4,au1)]
def av6 {d:Type} (a:ald.den->Option d) (b:ahQ.den->Option d) (c:aib.den->Option d) (v:ald.den):Option d:=acs (fun e f g i j l o p=>a ((e,f,()),(g,(i,j,l,()),(o,p,()),()))) (fun q s u x y z=>b ((),(q,(s,u,x,()),(y,z,()),()))) (aE c) v.1.1 v.1.2.1 v.2.1 v.2.2.1.1 v.2.2.1.2.1 v.2.2.1.2.2.1 v.2.2.2.1.1 v.2.2.2.1.2.1
theorem aFR:dV ash 47 aBW au1:=xh (av6) (h2:=by intros;simp only[av6,aE,acs,dh,di,bI,cZ,dm])
theorem aJX:dO ash 47 b47:=nM [aBW] (aD (fM (aFR)) aN)
theorem asi:eF ash:=eA Tryz.f47 (aD axV aN) (aJX)
theorem axJ:dR prog 47 aCX:=sA asi
noncomputable def b28:Code:=(Tryz.f28.body).getD .skip
noncomputable def aBQ:Code:=cA (cA (cB (cA (cB (cB (cB (b28)))))))
def aCj:eQ:=⟨[0,3,5,6,100004],[(5,Vk)],[5],[],[2],[(2,Vk)]⟩
def ak7:SP:=⟨us [bO,.u,.u,eM,.u,db,bR] 59,[.arr 1800005 Vk]⟩
def ahK:SP:=⟨us [.u,.u,.u,.u,.u,db] 60,[.arr 1800005 Vk]⟩
def ah5:SP:=⟨us [.u,.u,.v oI] 63,[]⟩
def jy (d:List Du) (e:Int):=dJ d (0,(0,(0,(false,())))) e
def AB {g:Type} (d:List Du) (e:Int) (f:bZ) (i:List gm) (j:bZ->(List Du)->Int->(List gm)->Option g):Option g:=cond (fV d e) (cond (fV d e) (cond (fV d e) (cond (fV d e) (cond (fH (bM f) (jy d e).2.1 (jy d e).2.2.1) (cond (dY (bT i [((jy d e).1,((sub f (jy d e).2.1 (jy d e).2.2.1),((jy d e).2.1,((jy d e).2.2.1,()))))]) 40) (j f d (dw .i64 e 1) (bT i [((jy d e).1,((sub f (jy d e).2.1 (jy d e).2.2.1),((jy d e).2.1,((jy d e).2.2.1,()))))])) a7) a7) a7) a7) a7) a7
def aco {j:Type} (g:bZ->(List Du)->Int->(List gm)->Option j) (l o:(List gm)->Option j) (i:bZ) (d:List Du) (e:Int) (f:List gm):Option j:=cond (gY e (bM d)) (cond (fV d e) (cond (bV (jy d e).1 2) (AB d e i f g)<|cond (bV (jy d e).1 4) (AB d e i f g)<|cond (bV (jy d e).1 5) (AB d e i f g)<|cond (bV (jy d e).1 6) (AB d e i f g)<|g i d (dw .i64 e 1) f) a7)<|l f
def Iz:Nat->bZ->(List Du)->Int->(List gm)->Option (ahK.den⊕ah5.den)
 |0,_,_,_,_=>a7
 |n+1,d,e,f,g=>aco (Iz n) (fun i=>a6 (.inl ((),(i,())))) (fun j=>a6 (.inr ((j,()),()))) d e f g
def aFh (n:Nat) (v:ak7.den):=Iz n v.1.1 v.1.2.1 v.1.2.2.1 v.2.1
noncomputable def auV:dE:=fU aCj ak7 ahK ah5 (.exit 0) (aFh bQ) 6
def aEb (d:bZ):Option ((List gm)×Unit):=bJ (ay7 d) fun e=>bJ (Iz bQ d e.1 0 []) fun f=>dW f (fun g=>a6 (g.2.1,())) (fun i=>a6 (i.1.1,()))
def aKy:Sum:=⟨[.str],[(.list Vk,false)],fun x=>aEb x.1⟩
noncomputable def ar0:Env:=iO prog tt 28 [(47,aCX)] [(4,aCj)] [(4,auV)]
def avZ {d:Type} (a:ak7.den->Option d) (b:ahK.den->Option d) (c:ah5.den->Option d) (v:ak7.den):Option d:=aco (fun e f g i=>a ((e,f,g,()),(i,()))) (fun j=>b ((),(j,()))) (aE c) v.1.1 v.1.2.1 v.1.2.2.1 v.2.1
theorem aFL:dV ar0 28 aBQ auV:=xh (avZ) (h2:=by intros;simp only[avZ,aE,aco,dh,di,bI,cZ,dm,jy,AB])
theorem aJR:dO ar0 28 b28:=nM [aBQ] (aD (fM (aFL)) aN)
theorem ar1:eF ar0:=eA Tryz.f28 (aD axJ aN) (aJR)
theorem aKz:dR prog 28 aKy:=sA ar1
end
section
open Option renaming some → a6, none → a7
open Bool renaming not_true → ax, not_false → az
open List renaming mem_cons_of_mem → ak, map_cons → au, drop_eq_getElem_cons → aA, mem_cons_self → aB, drop_of_length_le → aO
open Nat renaming le_refl → ae, lt_or_ge → aJ
open Go.RowKit
def PE (n:Nat):bZ:=if n=0 then []else MX.getD (n-1) []
def abS (u t:bZ):Bool:=decide (t.take u.length=u)
def qJ (t:bZ):Nat->Nat
 |0=>0
 |n+1=>if abS (PE (n+1)) t=true/\(PE (qJ t n)).length<(PE (n+1)).length then n+1 else qJ t n
theorem Ny: ∀n:Fin 18,YY ((n.val:Nat):Int)=a6 (PE n.val,()):=by decide+kernel
theorem ak1: ∀n:Fin 18,(PE n.val).length<=3:=by decide+kernel
theorem ac1 (t:bZ): ∀n,qJ t n<=n
 |0=>ae _
 |n+1=>by rw[qJ];split<;>have:=ac1 t n<;>omega
theorem afb (s:bZ) (l:s.length<1000000) {a:Nat} (o:a<=s.length): ∀(d N k:Nat),k+d=17->d<N->
  FP N s (a:Int) ((qJ (s.drop a) k:Nat):Int) ((k+1:Nat):Int)=a6 (.inl ((((qJ (s.drop a) 17:Nat):Int),()),()))
 |d,0,k,_,h=>by omega
 |0,N+1,k,h,_=>by
  have hk:k=17:=by omega
  subst hk;rfl
 |d+1,N+1,k,h,q=>by
  have f:=Ny ⟨k+1,by omega⟩;have u:=ac1 (s.drop a) k;have g:=Ny ⟨qJ (s.drop a) k,by omega⟩;have hl:=ak1 ⟨k+1,by omega⟩;simp only at f g hl;rw[FP,Qv,cO (mW),f,bI];simp only;rw[dI (a:=((k+1:Nat):Int)) (by omega) (by omega),show((k+1:Nat):Int)+1=((k+1+1:Nat):Int) by omega,bP,bP,iW];have i:=afb s l o d N (k+1) (by omega) (by omega);rw[qJ]at i;by_cases e:a+(PE (k+1)).length<=s.length
  .rw[cO (mW),dI,show(a:Int)+(((PE (k+1)).length:Nat):Int)=((a+(PE (k+1)).length:Nat):Int) by omega,cO (gu (by omega) (by omega) (by omega)),vT];have p:fP ((s.drop a).take (PE (k+1)).length) (PE (k+1))=abS (PE (k+1)) (s.drop a):=by
    grind [fP,abS]
   rw[p];cases j:abS (PE (k+1)) (s.drop a)with
   |false=>simp_all
   |true=>
    rw[j]at i;rw[aa,g,bI];simp only[bP];by_cases e2:(PE (qJ (s.drop a) k)).length<(PE (k+1)).length
    .rw[cO (fO)];simp_all
    simp_all [jh]
  .rw[dN (Hl)];have j:abS (PE (k+1)) (s.drop a)=false:=by
    unfold abS
    grind
   simp_all
theorem aKi (s:bZ) (d:s.length<1000000) {a:Nat} (e:a<=s.length):adr s a=a6 (((qJ (s.drop a) 17:Nat):Int),()):=by
 rw[adr];have h:=afb s d e 17 bQ 0 rfl (dX);rw[show FP bQ s (a:Int) 0 1=_ from h,bI];rfl
def opB:bZ:=[38,124,59,60,62,45,40,41]
def xP (c:UInt8):UInt8:=if opB.contains c=true then c else 0
theorem ZC: ∀(x u:bZ),(∀c∈u,opB.contains c=true)->(x.map xP=u↔x=u)
 |[],[],_=>Iff.rfl
 |[],_::_,_=>by simp
 |_::_,[],_=>by simp
 |c::x,d::u,h=>by
  have f:=h d (aB ..);have i:=ZC x u fun c g=>h c (ak _ g);rw[au,List.cons.injEq,List.cons.injEq,i];have:xP c=d↔c=d:=by
   unfold xP;split
   .exact Iff.rfl
   .rename_i g
    constructor
    .intro e;rw[<-e]at f;exact absurd f (by decide)
    grind
  rw[this]
theorem Xj: ∀u∈MX,∀c∈u,opB.contains c=true:=by decide
theorem avl (x:bZ):ofF (x.map xP)=ofF x:=by
 unfold ofF;have:MX.findIdx? (· ==x.map xP)=MX.findIdx? (· ==x):=by
  have h: ∀l:List bZ,(∀u∈l,∀c∈u,opB.contains c=true)->l.findIdx? (· ==x.map xP)=l.findIdx? (· ==x):=by
   intro l
   induction l with
   |nil=>intro _;rfl
   |cons u l d=>
    intro h;have e:(u==x.map xP)=(u==x):=by
     have:=ZC x u (h u (aB ..))
     grind
    grind
  exact h MX Xj
 rw[this]
theorem avx (t:bZ):Af t=Af ((t.take 3).map xP):=by
 have h: ∀n,n<=3->PG t n=PG ((t.take 3).map xP) n:=by
  intro n d
  induction n with
  |zero=>rfl
  |succ n e=>
   rw[PG,PG,<-List.map_take,List.take_take,Nat.min_eq_left d,avl,e (by omega)]
 grind [Af]
theorem Rn (t:bZ): ∀n,n<=17->qJ t n=qJ ((t.take 3).map xP) n
 |0,_=>rfl
 |n+1,i=>by
  have d:=Rn t n (by omega);have hl:=ak1 ⟨n+1,by omega⟩;simp only at hl;have e:abS (PE (n+1)) t=abS (PE (n+1)) ((t.take 3).map xP):=by
   unfold abS;rw[<-List.map_take,List.take_take,Nat.min_eq_left hl];have f: ∀c∈PE (n+1),opB.contains c=true:=by
    have:PE (n+1)∈MX:=by
     have g: ∀n:Fin 17,PE (n.val+1)∈MX:=by decide+kernel
     exact g ⟨n,by omega⟩
    exact Xj _ this
   rw[decide_eq_decide,ZC _ _ f]
  rw[qJ,qJ,e,d]
def nB (n:Fin 9):UInt8:=([0,38,124,59,60,62,45,40,41]:bZ).getD n.val 0
def okB (t:bZ):Bool:=Af t==(qJ t 17,(PE (qJ t 17)).length)
theorem ok0:okB []=true:=by decide+kernel
theorem ok1: ∀a,okB [nB a]=true:=by decide+kernel
theorem ok2: ∀a b,okB [nB a,nB b]=true:=by decide+kernel
theorem ok3: ∀a b c,okB [nB a,nB b,nB c]=true:=by decide+kernel
theorem F6 (c:UInt8): ∃n,xP c=nB n:=by
 unfold xP;split
 .rename_i h
  have: ∀d∈opB,∃n,d=nB n:=by decide
  simp_all
 .exact⟨0,rfl⟩
theorem ak2 (t:bZ):Af t=(qJ t 17,(PE (qJ t 17)).length):=by
 rw[avx,Rn t 17 (ae _)];have h:okB ((t.take 3).map xP)=true:=by
  have hl:(t.take 3).length<=3:=by grind
  rcases h:t.take 3 with _|⟨a,_|⟨b,_|⟨c,_|⟨d,l⟩⟩⟩⟩
  .exact ok0
  .obtain⟨x,e⟩:=F6 a;simp_all [ok1]
  .obtain⟨x,e⟩:=F6 a;obtain⟨y,f⟩:=F6 b;simp_all [ok2]
  .obtain⟨x,e⟩:=F6 a;obtain⟨y,f⟩:=F6 b;obtain⟨z,g⟩:=F6 c;simp_all [ok3]
  simp_all
 exact eq_of_beq h
theorem aKj (s:bZ) (d:s.length<1000000) {a:Nat} (e:a<=s.length):adr s a=a6 ((((Af (s.drop a)).1:Nat):Int),()):=by
 rw[aKi s d e,ak2]
theorem aBl (t:bZ):YY (((Af t).1:Nat):Int)=a6 (PE (Af t).1,())/\(PE (Af t).1).length=(Af t).2:=by
 have h:=(PV t).2.2;refine⟨Ny ⟨(Af t).1,by omega⟩, ?_⟩;rw[ak2]
theorem O4 {s:List UInt8} (p:s.length<1000000): ∀(N a:Nat),s.length-a<N->a<=s.length->
  ∃o,FO N s (a:Int)=a6 o/\dW o (fun f=>a6 (f.1.1,())) (fun g=>a6 (g.1.1,()))=a6 ((((a+ul (s.drop a):Nat):Int)),())
 |0,a,h,_=>by omega
 |N+1,a,h,z=>by
  rw[FO,Qu];by_cases e:a<s.length
  .have hd:=aA e;have q:fV s (a:Int)=true:=eu;rw[cO (fO (by rw[bP];omega)),q,byte_at e,hd,zI];simp only[aa];have j: ∀m:Nat,a+m<=s.length->1<=m-> ∃o,FO N s (dw .i64 (a:Int) (m:Int))=a6 o/\dW o (fun f=>a6 (f.1.1,())) (fun g=>a6 (g.1.1,()))=a6 ((((a+(ul (s.drop (a+m))+m):Nat):Int)),()):=fun m u A=>by
    obtain⟨o,B,D⟩:=O4 p N (a+m) (by omega) u
    grind [dI]
   by_cases h32:s[a]=32
   .have:lW (s[a].toNat:Int)=true:=by rw[h32];rfl
    rw[this,am rfl,h32];exact j 1 (by omega) (by omega)
   .have l:bV (s[a].toNat:Int) 32=false:=dZ fun h=>h32 (UInt8.toNat_inj.1 (by grind));by_cases h9:s[a]=9
    .have:lW (s[a].toNat:Int)=true:=by rw[h9];rfl
     rw[this,am rfl,l,h9];exact j 1 (by omega) (by omega)
    .have v:bV (s[a].toNat:Int) 9=false:=dZ fun h=>h9 (UInt8.toNat_inj.1 (by grind));have x:lW (s[a].toNat:Int)=false:=by
      simp_all [lW,gZ]
     rw[x,aq (by simp),l,v];simp only[ac];have i:pI (s[a]::s.drop (a+1))=false-> ∃o:Qa.den⊕Qe.den,a6 (.inl (((a:Int),()),()))=a6 o/\dW o (fun f=>a6 (f.1.1,())) (fun g=>a6 (g.1.1,()))=a6 ((((a+(if pI (s[a]::s.drop (a+1))=true then ul ((s.drop (a+1)).drop 1)+2 else 0):Nat):Int)),()):=fun h=>by
      rw[h,aq (by simp)];exact⟨_,rfl,rfl⟩
     by_cases h92:s[a]=92
     .rw[h92,show bV (((92:UInt8).toNat:Nat):Int) 92=true from rfl,aa,dI,show(a:Int)+1=((a+1:Nat):Int) by omega];rw[h92]at i;by_cases e1:a+1<s.length
      .have y:=aA e1;rw[cO (fO (by rw[bP];omega)),cO (eu),byte_at e1];by_cases h10:s[a+1]=10
       .rw[h10,show bV (((10:UInt8).toNat:Nat):Int) 10=true from rfl,aa];have E:pI (92::s.drop (a+1))=true:=by rw[y,h10];rfl
        grind
       .rw[dN (dZ fun h=>h10 (UInt8.toNat_inj.1 (by grind)))]
        grind [pI]
      .rw[dN (jh (by rw[bP];omega))];refine i ?_;rw[aO (by omega)];rfl
     .rw[dN (dZ fun h=>h92 (UInt8.toNat_inj.1 (by grind)))];refine i ?_;cases s.drop (a+1)with
      |nil=>rfl
      |cons d t=>simp[pI,h92]
  .rw[dN (iE (by rw[bP];omega)),aO (by omega)];exact⟨_,rfl,rfl⟩
theorem ayB {s:List UInt8} (d:s.length<1000000) {a:Nat} (e:a<=s.length):aji s a=a6 ((((a+ul (s.drop a):Nat):Int)),()):=by
 rw[aji];obtain⟨o,f,g⟩:=O4 d bQ a (dX) e
 grind [bI]
theorem X4 {s w:List UInt8} (g:s.length<1000000) {i:Nat} (hi:i<=s.length) (f:Bool): ∀(N k:Nat),i-k<N->k<=i->
  ∃d:Nat,JY N s (i:Int) (k:Int) w f=a6 (.inl ((s,(i:Int),(d:Int),()),((w,f,()),())))/\d<=i/\k<=d/\(s.take i).drop d=if f=true then((s.take i).drop k).dropWhile (· ==9)else(s.take i).drop k
 |0,k,h,_=>by omega
 |N+1,k,h,hk=>by
  rw[JY,Qs];cases f with
  |false=>grind
  |true=>
   simp only[aa];by_cases e:k<i
   .have j:k<(s.take i).length:=by simp_all
    have hd:=aA j;rw[List.getElem_take]at hd;rw[cO (fO),cO (eu),byte_at (by omega)];by_cases h9:s[k]=9
    .rw[h9,show bV (((9:UInt8).toNat:Nat):Int) 9=true from rfl,aa,dI,show(k:Int)+1=((k+1:Nat):Int) by omega];obtain⟨d,l,o,p,q⟩:=X4 g hi true N (k+1) (by omega) (by omega);exact⟨d,l,o,by omega,by simp_all⟩
    .rw[dN (dZ fun h=>h9 (UInt8.toNat_inj.1 (by grind)))];exact⟨k,rfl,hk,ae _,by simp_all⟩
   .rw[dN (iE)];refine⟨k,rfl,hk,ae _, ?_⟩;simp_all [aO]
theorem WW {s:List UInt8} {f i:Nat} (d:f<=i) (h2:i<jb s f) (e:i<s.length):s[i]≠10:=by
 have:=E5 (· !=10) (s.drop f) (i-f) (by grind) (by grind [jb]);simp_all
theorem Tz {s:List UInt8} {f:Nat} (d:jb s f<s.length):s[jb s f]=10:=by
 have:=zD (· !=10) (s.drop f) (by grind [jb]);simp_all [jb]
def aKm (s:bZ) (h:Nat×Bool):P9.den⊕Qd.den:=if h.2=true then .inr ((((h.1:Nat):Int),1,()),())else .inl ((s,()),())
theorem IY {s w:List UInt8} (j:s.length<1000000) (d:Bool): ∀(N f i M:Nat),s.length+1-i<N->f<=i->i<=jb s f->f<=s.length->s.length-f<M->
  uJ N s (f:Int) (i:Int) w d=a6 (aKm s (oM s w d M f))
 |0,f,i,M,h,_,_,_,_=>by omega
 |N+1,f,i,0,h,l,z,o,q=>by omega
 |N+1,f,i,M+1,h,l,z,o,q=>by
  have D:=zW o;have u:fP (wP s d f) w=decide (wP s d f=w):=by
   grind [fP]
  have stop: ∀N,0<N->uJ N s ((s.length+1:Nat):Int) ((s.length+1:Nat):Int) w d=a6 (.inl ((s,()),()))/\uJ N s (f:Int) ((s.length+1:Nat):Int) w d=a6 (.inl ((s,()),())):=fun N E=>by
   obtain⟨n,rfl⟩: ∃n,N=n+1:=⟨N-1,by omega⟩;constructor
   ·(rewrite [uJ,Gn];delta pU;rw[dN (Hl (by rw[bP];omega))])
   ·(rewrite [uJ,Gn];delta pU;rw[dN (Hl (by rw[bP];omega))])
  have v: ∀m,oM s w d m s.length=(s.length,false):=fun m=>by
   cases m with
   |zero=>rfl
   |succ m=>simp_all [oM]
  (rewrite [uJ,Gn];delta pU;rw[cO (mW (by rw[bP];omega))])
  by_cases e:i<jb s f
  .have g:i<s.length:=by omega
   rw[cO (fO (by rw[bP];omega)),cO (eu),byte_at g,dZ fun h=>WW l e g (UInt8.toNat_inj.1 (by grind))];simp only[az,aa];rw[dI,show(i:Int)+1=((i+1:Nat):Int) by omega];exact IY j d N f (i+1) (M+1) (by omega) (by omega) (by omega) o q
  .have g:i=jb s f:=by omega
   obtain⟨A,x,G,I,J⟩:=X4 (w:=w) j (i:=i) (by omega) d bQ f (dX) l;have hT:sub s (A:Int) (i:Int)=wP s d f:=by
    simp_all [wP,sub]
   by_cases hl:i<s.length
   .have B:s[i]=10:=by subst g;exact Tz hl
    have p:nI s f=i+1:=by unfold nI;grind
    rw[cO (fO (by rw[bP];omega)),cO (eu),byte_at hl,B,show bV (((10:UInt8).toNat:Nat):Int) 10=true from rfl];simp only[ax,ac];rw[dN (dZ (by rw[bP];omega)),x,bI];simp only[dW];rw[cO (gu (by omega) (by omega) (by rw[bP];omega)),hT,u,oM,am (by omega),p];rw[cO (fO (by rw[bP];omega)),dI,show(i:Int)+1=((i+1:Nat):Int) by omega];by_cases hw:wP s d f=w
    .rw[decide_eq_true hw,aa,am hw];rfl
    .rw[decide_eq_false hw,ac,aq hw];exact IY j d N (i+1) (i+1) M (by omega) (ae _) (wO s _) (by omega) (by omega)
   .have y:i=s.length:=by omega
    rw[dN (jh (by rw[bP];omega)),cO (gq (by rw[bP];omega))];by_cases hfi2:f=i
    .rw[cO (gq),dI,show(i:Int)+1=((s.length+1:Nat):Int) by omega,(stop N (by omega)).2,hfi2,y,v];rfl
    .have p:nI s f=s.length:=by simp_all [nI]
     rw[dN (dZ),x,bI];simp only[dW];rw[cO (gu (by omega) (by omega) (by rw[bP];omega)),hT,u,oM,am (by omega),p];rw[dN (jh (by rw[bP];omega))];by_cases hw:wP s d f=w
     .rw[decide_eq_true hw,aa,am hw,y];rfl
     .rw[decide_eq_false hw,ac,aq hw,v,dI,show(i:Int)+1=((s.length+1:Nat):Int) by omega,(stop N (by omega)).1];rfl
theorem Me (s w:bZ) (d:Bool): ∀(N a:Nat),s.length-a<N->a<=s.length->(oM s w d N a).1<=s.length/\((oM s w d N a).2=false->(oM s w d N a).1=s.length)/\(a<s.length->a<(oM s w d N a).1)
 |0,a,h,_=>by omega
 |N+1,a,h,j=>by
  rw[oM];by_cases e:a<s.length
  .have g:=aeL e;rw[am e];split
   .simp_all
   .have f:=Me s w d N (nI s a) (by omega) g.2;refine⟨f.1,f.2.1,fun _=> ?_⟩;rcases aJ (nI s a) s.length with i|i
    .omega
    .cases N with
     |zero=>omega
     |succ N=>simp_all [oM,aq]
  grind
theorem aEi {s:List UInt8} (e:s.length<1000000) (d:bZ×Bool×Unit) {a:Nat} (f:a<=s.length):ajh s a d=a6 ((((Dk s d.1 d.2.1 a).1:Nat):Int),((if(Dk s d.1 d.2.1 a).2=true then 1 else 0),())):=by
 rw[ajh,IY e d.2.1 bQ a a bQ (dX) (ae _) (wO s a) f (dX),bI]
 grind [Me,dX,aKm,Dk,dW,bP]
theorem aww {s:fE} (d:iD s):KX s=(fP (so s) [84]||fP (so s) [84,76]):=by
 rw[awE d,amw d]
 match s,d with
 |[],d=>cases d
 |[f],d=>have h:f.1=0:=d;simp[KX,h]
 |[f,g],d=>
  have e:=d.1;have i:g.1=0:=d.2.2.2
  grind [KX]
 |f::g::h::r,d=>
  have e:=d.2.2.2.1;have j:=d.2.2.1
  grind [TC,KX]
end
section
open Option renaming some → a6, none → a7
open Bool renaming and_true → ay, not_false → az
open List renaming append_assoc → ai, length_append → aj, drop_eq_getElem_cons → aA, nil_append → aF, drop_of_length_le → aO, drop_zero → aS, length_singleton → bC, take_of_length_le → bD
open Nat renaming le_trans → aI
open Go.RowKit
abbrev Pce:=Bool×Bool×List UInt8×Unit
def dPc:Pce:=(false,(false,([],())))
def jI (l:List Pce):bZ:=(l.map (·.2.2.1)).flatten
theorem xe (a b:List Pce):jI (a++b)=jI a++jI b:=by simp[jI]
theorem E9 (x y:Bool) (t:bZ):jI [(x,(y,(t,())))]=t:=by simp[jI]
theorem WB (L:List kP) (hl:L.length<1000000) (v m f t u:Int) (o:Bool): ∀(N k:Nat),L.length-k<N->k<=L.length->
  FV N L v (k:Int) m f t u o=a6 (match(L.drop k).find? (fun p=>p.2.1==v)with
   |none=>.inl ((),((m,f,t,u,o,()),()))
   |some p=>.inr ((1,()),((p.1,p.2.1,p.2.2.1,p.2.2.2.1,p.2.2.2.2.1,()),())))
 |0,k,h,_=>by omega
 |N+1,k,h,hk=>by
  rw[FV,QI];by_cases e:k<L.length
  .have d:dJ L (0,(0,(0,(0,(false,()))))) (k:Int)=L[k]:=by
    simp_all [dJ]
   rw[cO (fO (by rw[bP];omega)),cO (eu),d,aA e,List.find?_cons];by_cases h1:L[k].2.1=v
   .simp_all [gq,eu]
   .have:(L[k].2.1==v)=false:=by simpa using h1
    rw[dN (dZ h1),dI,show(k:Int)+1=((k+1:Nat):Int) by omega,WB L hl v m f t u o N (k+1) (by omega) (by omega),this]
  simp_all [iE,bP,aO]
theorem as8 (L:List kP) (hl:L.length<1000000) (v:Int):adE L v=a6 (match wE L v with
  |none=>((0,(0,(0,(0,(false,()))))),(0,()))
  |some p=>(p,(1,()))):=by
 rw[adE];have h:=WB L hl v 0 0 0 0 false bQ 0 (dX) (by omega);rw[show FV bQ L v 0 0 0 0 0 false=_ from h,bI,aS];unfold wE;cases L.find? (fun p=>p.2.1==v)with
 |none=>rfl
 |some p=>rfl
theorem aKt (s:bZ) (a b:Int):(sub s a b).length<=(b-a).toNat:=by
 grind [sub]
theorem IZ {a b:List UInt8} (h:a.length+b.length<=140737488355328):gV a b=true:=by
 grind [gV,kZ]
theorem lN {d:Type} {l:List d} {k:Nat} (h:l.length*k<=140737488355328):dY l k=true:=by
 grind [dY,kZ]
theorem RN (s:bZ) (j:s.length<=10000) {to_:Int} (u:to_<=s.length): ∀(N:Nat) (at_:Int) (d:bZ) (out:List Pce),0<N->to_-at_<N->0<=at_->at_<=s.length->(d.length:Int)<=10000*at_->(out.length:Int)<=2*at_->
  ∃f g,uM N s (dn s) to_ d at_ out=a6 (.inl ((f,()),(g,())))/\jI g++f=jI out++d++qP s (dn s) to_ N at_/\(f.length:Int)<=10000*s.length/\(g.length:Int)<=2*s.length
 |0,at_,d,out,G,_,_,_,_,_=>by
  omega
 |N+1,at_,d,out,G,h,v,Y,Z,ho=>by
  (rewrite [uM,QJ];delta Gq vM;rw[qP])
  by_cases e:at_<to_
  .have ab:=CE s;have ad:= @UY s at_;have ae:=NH s (dn s) at_;have af: ∀(c:bZ) (nx:Int),c=(iL s (dn s) at_).2.1->nx=(iL s (dn s) at_).1->nx<=s.length->
     ∃f g,uM N s (dn s) to_ (bT d c) nx out=a6 (.inl ((f,()),(g,())))/\jI g++f=jI out++d++((iL s (dn s) at_).2.1++qP s (dn s) to_ N (iL s (dn s) at_).1)/\(f.length:Int)<=10000*s.length/\(g.length:Int)<=2*s.length:=by
    intro c nx z o q;subst z o;obtain⟨f,g,I,J,K,L⟩:=RN s j u N (iL s (dn s) at_).1 (bT d (iL s (dn s) at_).2.1) out (by omega) (by omega) (by omega) q (by grind [bT]) (by omega)
    grind [bT]
   have push: ∀(l:List Pce) (nx:Int),jI l=d++(iL s (dn s) at_).2.1->l.length<=2->nx=(iL s (dn s) at_).1->nx<=s.length->
     ∃f g,uM N s (dn s) to_ [] nx (out++l)=a6 (.inl ((f,()),(g,())))/\jI g++f=jI out++d++((iL s (dn s) at_).2.1++qP s (dn s) to_ N (iL s (dn s) at_).1)/\(f.length:Int)<=10000*s.length/\(g.length:Int)<=2*s.length:=by
    intro l nx hl ag o q;subst o;obtain⟨f,g,I,J,K,L⟩:=RN s j u N (iL s (dn s) at_).1 [] (out++l) (by omega) (by omega) (by omega) q (by simp;omega) (by grind)
    grind [xe]
   have M: ∀c:bZ,c.length<=10000->gV d c=true:=fun c z=>IZ (by omega);have A: ∀x,dY (bT out [x]) 24=true:=fun x=>lN (by grind [bT]);have O: ∀x y,dY (bT (bT out [x]) [y]) 24=true:=fun x y=>lN (by grind [bT]);have S: ∀a b:Int,(sub s a b).length<=10000:=fun a b=>aI (I7 s a b) j;have B:dw .i64 at_ 1=at_+1:=dI;have U:dw .i64 at_ 2=at_+2:=dI;have V:fH (bM s) at_ (at_+1)=true:=gu v (by omega) (by rw[bP];omega);rw[cO (fO e),am e,as8 (dn s) (by omega),bI];cases hf:wE (dn s) at_ with
   |none=>
    have i:iL s (dn s) at_=(at_+1,sub s at_ (at_+1),false):=by unfold iL;rw[hf]
    simp only[B];rw[show bV 0 0=true from rfl,aa,V,aa,M _ (S _ _),aa]
    grind
   |some p=>
    obtain⟨D,W⟩:=wF hf;have t0:=D.t0;have t1:=D.t1;simp only[B,U];rw[show bV 1 0=false from rfl,ac];by_cases hlone:lone p=true
    .have i:iL s (dn s) at_=(at_+1,sub s at_ (at_+1),false):=by simp_all [iL]
     simp_all [lone,gq]
    .have ah: ¬(p.1=12/\p.2.2.1=at_+1):=fun h=>hlone (by simp_all [lone]);have E:fH (bM s) at_ p.2.2.1=true:=gu v (by omega) (by rw[bP];omega);by_cases h13:p.1=13
     .have i:iL s (dn s) at_=(p.2.2.1,Vt s p,false):=by simp_all [iL]
      rw[dN (dZ),cO (gq h13)];by_cases hto2:p.2.2.1=at_+2
      .have X:fV s (at_+1)=true:=eu;have ak:fH (bM s) (at_+1) (at_+2)=true:=gu (by omega) (by omega) (by rw[bP];omega);have al:fH (bM s) at_ (at_+2)=true:=gu (by omega) (by omega) (by rw[bP];omega);have an:Vt s p=(if bY s (at_+1)=36\/bY s (at_+1)=96\/bY s (at_+1)=34\/bY s (at_+1)=92 then sub s (at_+1) (at_+2)
         else if bY s (at_+1)=10 then []else sub s at_ (at_+2)):=by
        simp_all [Vt,ny]
       rw[cO (gq hto2),X,aa];by_cases b1:bY s (at_+1)=36
       .simp_all [gq]
       .rw[dN (dZ b1)];by_cases b2:bY s (at_+1)=96
        .simp_all [gq]
        .rw[dN (dZ b2)];by_cases b3:bY s (at_+1)=34
         .simp_all [gq]
         .rw[dN (dZ b3)];by_cases b4:bY s (at_+1)=92
          .simp_all [gq]
          .rw[dN (dZ b4)];have ao: ¬(bY s (at_+1)=36\/bY s (at_+1)=96\/bY s (at_+1)=34\/bY s (at_+1)=92):=by omega
           by_cases b5:bY s (at_+1)=10
           .simp_all [gq,bT]
           simp_all [dZ]
      simp_all [dZ,Vt,bT]
     .have i:iL s (dn s) at_=(p.2.2.1,ny s p,true):=by simp_all [iL]
      have au:ny s p=sub s at_ p.2.2.1:=by unfold ny;rw[W]
      have av: ∃f g,(bif !fP d []then
        bif dY (bT out [(false,(true,(d,())))]) 24 then
         bif fH (bM s) at_ p.2.2.1 then
          bif dY (bT (bT out [(false,(true,(d,())))]) [(true,(true,(sub s at_ p.2.2.1,())))]) 24 then
           uM N s (dn s) to_ [] p.2.2.1 (bT (bT out [(false,(true,(d,())))]) [(true,(true,(sub s at_ p.2.2.1,())))])
          else a7
         else a7
        else a7
       else bif fH (bM s) at_ p.2.2.1 then
        bif dY (bT out [(true,(true,(sub s at_ p.2.2.1,())))]) 24 then
         uM N s (dn s) to_ [] p.2.2.1 (bT out [(true,(true,(sub s at_ p.2.2.1,())))])
        else a7
       else a7)=a6 (.inl ((f,()),(g,())))/\jI g++f=jI out++d++((iL s (dn s) at_).2.1++qP s (dn s) to_ N (iL s (dn s) at_).1)/\(f.length:Int)<=10000*s.length/\(g.length:Int)<=2*s.length:=by
       by_cases he:d=[]
       .have:=push [(true,(true,(sub s at_ p.2.2.1,())))] p.2.2.1 (by simp_all [E9]) (by simp) (by rw[i]) (by omega);rw[show(!fP d [])=false by rw[he];rfl,ac,E,aa,A,aa];exact this
       .have:=push ([(false,(true,(d,())))]++[(true,(true,(sub s at_ p.2.2.1,())))]) p.2.2.1 (by grind [xe,E9]) (by simp) (by rw[i]) (by omega);rw[show(!fP d [])=true by simp_all [fP],aa,A,aa,E,aa,O,aa];rw[<-ai]at this;exact this
      by_cases h12:p.1=12
      .simp_all [dZ]
      simp_all [dZ]
  .rw[dN (iE e),aq e]
   grind
theorem aqr (s:bZ) (g:s.length<=10000) {from_ to_:Int} (i:0<=from_) (j:from_<=s.length) (l:to_<=s.length):
  ∃out,Oi s (dn s) from_ to_=a6 (out,())/\jI out=qP s (dn s) to_ s.length from_/\out.length<=2*s.length+1:=by
 obtain⟨d,out,o,e,q,u⟩:=RN s g l bQ from_ [] [] (by unfold bQ;omega) (by have:=dX (n:=s.length) (by omega);omega) i j (by simp;omega) (by simp;omega);have p:qP s (dn s) to_ bQ from_=qP s (dn s) to_ s.length from_:=LQ s to_ _ _ _ (by have:=dX (n:=s.length) (by omega);omega) (by omega);rw[p,show jI []=([]:bZ) from rfl,aF,aF]at e;rw[Oi,o,bI];simp only[dW];have f: ∀x,dY (bT out [x]) 24=true:=fun x=>lN (by grind [bT]);by_cases he:d=[]
 .rw[show(!fP d [])=false by rw[he];rfl,ac];subst he;rw[List.append_nil]at e;by_cases ho:out.length=0
  .rw[cO (gq (by rw[bP];omega)),f,aa];exact⟨_,rfl,by grind [bT,xe,E9],by simp_all [bT]⟩
  .rw[dN (dZ (by rw[bP];omega))]
   grind
 .rw[show(!fP d [])=true by simp_all [fP],aa,f,aa];exact⟨_,rfl,by unfold bT;rw[xe,E9,e],by grind [bT]⟩
theorem qH (l:List Pce) (x:Pce):jI (l++[x])=jI l++x.2.2.1:=by simp[jI]
theorem avE (out:List Pce) (t:bZ) (e:Bool) (f:out.length<1000000000) (g:(jI out).length+t.length<=100000000000000):
  ∃d,WI out t e=a6 (d,())/\jI d=jI out++t/\d.length<=out.length+1:=by
 have one: ∃d,(bif dY (bT [] out) 24 then bif dY (bT (bT [] out) [(false,(false,(t,())))]) 24 then a6 ((bT (bT [] out) [(false,(false,(t,())))]),())else a7 else a7)=a6 (d,())/\jI d=jI out++t/\d.length<=out.length+1:=by
  rw[cO (lN (by grind [bT])),cO (lN (by grind [bT]))];exact⟨_,rfl,by simp_all [bT,xe,E9],by unfold bT;simp⟩
 (rewrite [WI];delta YN rG jL lC uF jK qf jd fZ)
 rcases List.eq_nil_or_concat out with rfl|⟨l,x,rfl⟩
 .assumption
 .rw[List.concat_eq_append]at*;cases e with
  |true=>
   simp_all
  |false=>
   rw[qH,aj]at g;rw[aj,bC]at f;have i:eU .i64 (bM (l++[x])) 1=(l.length:Int):=by grind [bP,iW]
   have j:dJ (l++[x]) (false,(false,([],()))) (l.length:Int)=x:=Mc rfl;have o:fV (l++[x]) (l.length:Int)=true:=eu (by omega) (by grind);have p:fH (bM (l++[x])) 0 (l.length:Int)=true:=gu (by omega) (by omega) (by grind [bP]);have q:sub (l++[x]) 0 (l.length:Int)=l:=by simp[sub]
   have s:gV x.2.2.1 t=true:=IZ (by omega);have u:dY (bT [] l) 24=true:=lN (by grind [bT]);have v: ∀y,dY (bT (bT [] l) [y]) 24=true:=fun y=>lN (by grind [bT]);rw[cO (fO (by simp_all [bP]))];simp only[az,aa,i,j,o,p,q,s,u,v,fJ,kW,iC,iF,ay,bI];exact⟨_,rfl,by grind [bT,qH],by unfold bT;simp⟩
theorem OW (s:bZ) (v:s.length<=10000): ∀(N:Nat) (at_:Int) (j:Bool) (out:List Pce),(s.length:Int)-at_<N->0<=at_->at_<=s.length->((jI out).length:Int)<=100010000*at_->(out.length:Int)<=30000*at_->
  ∃d,mg N s (dn s) j at_ out=a6 (.inl ((),(d,())))/\jI d=jI out++lm s (dn s) N at_/\(d.length:Int)<=30000*s.length
 |0,at_,j,out,h,_,_,_,_=>by omega
 |N+1,at_,j,out,h,D,G,Z,ho=>by
  (rewrite [mg,QD];delta Gp Ar;rw[lm])
  by_cases e:at_<s.length
  .have ab:=CE s;have ad:= @UZ s at_;have I:=afz (s:=s) e;have ae:(stepT s (dn s) at_).2.length<=100010000:=by
    have G:=NI s (dn s) at_;have h2:s.length*s.length<=10000*10000:=Nat.mul_le_mul v v;omega
   have go: ∀(l:List Pce) (f:Bool),jI l=jI out++(stepT s (dn s) at_).2->l.length<=out.length+20002->
     ∃d,mg N s (dn s) f (stepT s (dn s) at_).1 l=a6 (.inl ((),(d,())))/\jI d=jI out++((stepT s (dn s) at_).2++lm s (dn s) N (stepT s (dn s) at_).1)/\(d.length:Int)<=30000*s.length:=by
    intro l f hl hn;obtain⟨d,r1,r2,r3⟩:=OW s v N (stepT s (dn s) at_).1 f l (by omega) (by omega) I (by grind) (by omega)
    grind
   have J: ∀(t:bZ) (nx:Int),t=(stepT s (dn s) at_).2->nx=(stepT s (dn s) at_).1->
     ∃d,(bJ (WI out t j) fun g=>mg N s (dn s) false nx g.1)=a6 (.inl ((),(d,())))/\jI d=jI out++((stepT s (dn s) at_).2++lm s (dn s) N (stepT s (dn s) at_).1)/\(d.length:Int)<=30000*s.length:=by
    intro t nx y u;subst y u;obtain⟨o,K,L,p3⟩:=avE out (stepT s (dn s) at_).2 j (by omega) (by omega);rw[K,bI];exact go o false L (by omega)
   have M: ∀(x:Pce) (nx:Int),x.2.2.1=(stepT s (dn s) at_).2->nx=(stepT s (dn s) at_).1->
     ∃d,(bif dY (bT out [x]) 24 then mg N s (dn s) true nx (bT out [x])else a7)=a6 (.inl ((),(d,())))/\jI d=jI out++((stepT s (dn s) at_).2++lm s (dn s) N (stepT s (dn s) at_).1)/\(d.length:Int)<=30000*s.length:=by
    intro x nx y u;subst u;rw[cO (lN (by grind [bT]))];simp_all [bT,qH]
   have af: ∀(nx:Int),(stepT s (dn s) at_).2=[]->nx=(stepT s (dn s) at_).1->
     ∃d,mg N s (dn s) j nx out=a6 (.inl ((),(d,())))/\jI d=jI out++((stepT s (dn s) at_).2++lm s (dn s) N (stepT s (dn s) at_).1)/\(d.length:Int)<=30000*s.length:=by
    intro nx y u;subst u;exact go out j (by simp_all) (by omega)
   have z:dw .i64 at_ 1=at_+1:=dI;have O:fH (bM s) at_ (at_+1)=true:=gu D (by omega) (by rw[bP];omega);rw[cO (fO (b:=bM s) e),am e,as8 (dn s) (by omega),bI];cases hf:wE (dn s) at_ with
   |none=>
    have i:stepT s (dn s) at_=(at_+1,sub s at_ (at_+1)):=by unfold stepT;rw[hf]
    simp only[z];rw[show bV 0 0=true from rfl,aa,show bV 0 1=false from rfl,ac,O,aa];simp_all
   |some p=>
    obtain⟨A,B⟩:=wF hf;have t0:=A.t0;have t1:=A.t1;have S:ny s p=sub s at_ p.2.2.1:=by unfold ny;rw[B]
    have ag:fH (bM s) at_ p.2.2.1=true:=gu D (by omega) (by rw[bP];omega);have U:dw .i64 p.2.1 1=at_+1:=by rw[B];exact z
    have V:dw .i64 p.2.1 2=at_+2:=by grind [dI]
    have W:eU .i64 p.2.2.1 1=p.2.2.1-1:=iW;simp only[z,U,V,W];rw[show bV 1 0=false from rfl,ac,show bV 1 1=true from rfl];simp only[aa];by_cases hpl':lone p=true\/p.1=14
    .have i:stepT s (dn s) at_=(p.2.2.1,ny s p):=by simp_all [stepT]
     have:=J (sub s at_ p.2.2.1) p.2.2.1 (by rw[i,S]) (by rw[i]);by_cases E:p.1=14
     .simp_all [gq]
     simp_all [lone,gq]
    .have ah: ¬(p.1=12/\p.2.2.1=at_+1):=fun h=>hpl' (.inl (by simp_all [lone]));have E:p.1≠14:=fun h=>hpl' (.inr h);rw[dN (dZ E)];by_cases h13:p.1=13
     .have i:stepT s (dn s) at_=(p.2.2.1,Vu s p):=by simp_all [stepT]
      rw[dN (dZ),cO (gq h13)];by_cases hto2:p.2.2.1=at_+2
      .rw[cO (gq hto2),cO (eu)];by_cases b5:bY s (at_+1)=10
       .simp_all [gq,Vu]
       .rw[dZ b5];simp only[az,aa];rw[cO (gu (by omega) (by omega) (by rw[bP];omega))];simp_all [Vu]
      simp_all [dZ,Vu]
     .have ak: ∃d,(bif bV p.1 4 then
        bif p.2.2.2.2.1 then
         bif fH (bM s) (at_+1) p.2.2.1 then
          bif dY (bT out [(false,(true,(sub s (at_+1) p.2.2.1,())))]) 24 then
           mg N s (dn s) true p.2.2.1 (bT out [(false,(true,(sub s (at_+1) p.2.2.1,())))])
          else a7
         else a7
        else bif fH (bM s) (at_+1) (p.2.2.1-1)then
         bif dY (bT out [(false,(true,(sub s (at_+1) (p.2.2.1-1),())))]) 24 then
          mg N s (dn s) true p.2.2.1 (bT out [(false,(true,(sub s (at_+1) (p.2.2.1-1),())))])
         else a7
        else a7
       else bif bV p.1 5 then
        bif p.2.2.2.2.1 then
         bJ (Oi s (dn s) (at_+1) p.2.2.1) fun g=>
          bif dY (bT out g.1) 24 then mg N s (dn s) true p.2.2.1 (bT out g.1)else a7
        else
         bJ (Oi s (dn s) (at_+1) (p.2.2.1-1)) fun g=>
          bif dY (bT out g.1) 24 then mg N s (dn s) true p.2.2.1 (bT out g.1)else a7
       else bif fH (bM s) p.2.1 p.2.2.1 then
        bif dY (bT out [(true,(false,(sub s p.2.1 p.2.2.1,())))]) 24 then
         mg N s (dn s) true p.2.2.1 (bT out [(true,(false,(sub s p.2.1 p.2.2.1,())))])
        else a7
       else a7)=a6 (.inl ((),(d,())))/\jI d=jI out++((stepT s (dn s) at_).2++lm s (dn s) N (stepT s (dn s) at_).1)/\(d.length:Int)<=30000*s.length:=by
       by_cases h4:p.1=4
       .have i:stepT s (dn s) at_=(p.2.2.1,sub s (p.2.1+1) (xk p)):=by simp_all [stepT]
        rw[cO (gq h4)];cases hop:p.2.2.2.2.1 with
        |true=>
         rw[aa,cO (gu (by omega) (by omega) (by rw[bP];omega))];exact M _ _ (by rw[i,B];unfold xk;rw[hop,am rfl]) (by rw[i])
        |false=>
         have:=A.sh hop (by omega);rw[ac,cO (gu (by omega) (by omega) (by rw[bP];omega))];simp_all [xk]
       .rw[dN (dZ h4)];by_cases h5:p.1=5
        .have i:stepT s (dn s) at_=(p.2.2.1,qP s (dn s) (xk p) s.length (p.2.1+1)):=by simp_all [stepT]
         rw[cO (gq h5)];have dbl: ∀q:Int,q=xk p->q<=s.length-> ∃d,(bJ (Oi s (dn s) (at_+1) q) fun g=>
           bif dY (bT out g.1) 24 then mg N s (dn s) true p.2.2.1 (bT out g.1)else a7)=a6 (.inl ((),(d,())))/\jI d=jI out++((stepT s (dn s) at_).2++lm s (dn s) N (stepT s (dn s) at_).1)/\(d.length:Int)<=30000*s.length:=by
          intro q al X;obtain⟨o,Y,d2,d3⟩:=aqr s v (from_:=at_+1) (to_:=q) (by omega) (by omega) X;rw[Y,bI];simp only;rw[cO (lN (by grind [bT]))];have:=go (bT out o) true (by simp_all [bT,xe]) (by grind [bT]);simp_all
         cases hop:p.2.2.2.2.1 with
         |true=>rw[aa];exact dbl _ (by unfold xk;rw[hop,am rfl]) (by omega)
         |false=>rw[ac];exact dbl _ (by simp_all [xk]) (by omega)
        .have i:stepT s (dn s) at_=(p.2.2.1,ny s p):=by simp_all [stepT]
         simp_all [dZ]
      by_cases h12:p.1=12
      .simp_all [dZ]
      simp_all [dZ]
  .rw[dN (iE (by rw[bP];omega)),aq e]
   grind
theorem Uw (l:List Pce) (hl:l.length<1000000000) (d:(jI l).length<=100000000000000): ∀(N k:Nat),l.length-k<N->k<=l.length->
  FT N l (jI (l.take k)) (k:Int)=a6 (.inl ((jI l,()),()))
 |0,k,h,_=>by omega
 |N+1,k,h,hk=>by
  rw[FT,Qx];by_cases e:k<l.length
  .have f:dJ l (false,(false,([],()))) (k:Int)=l[k]:=by
    simp_all [dJ]
   have g:jI (l.take (k+1))=jI (l.take k)++l[k].2.2.1:=by grind [List.take_add_one,qH]
   have i:(jI (l.take (k+1))).length<=(jI l).length:=by
    grind [List.take_append_drop,xe]
   rw[cO (fO (by rw[bP];omega)),cO (eu),f,cO (IZ (by grind)),dI,show(k:Int)+1=((k+1:Nat):Int) by omega,
    show bT (jI (l.take k)) l[k].2.2.1=jI (l.take (k+1)) from g.symm]
   exact Uw l hl d N (k+1) (by omega) (by omega)
  simp_all [iE,bP,bD]
theorem am3 (s:bZ) (d:s.length<=10000):(Jo s).length<=1000100000000:=by
 have h:=V9 s (dn s) s.length 0;have e:s.length*s.length<=10000*10000:=Nat.mul_le_mul d d;have f:s.length*(s.length*s.length+s.length)<=10000*(10000*10000+10000):=Nat.mul_le_mul d (by omega);unfold Jo;omega
theorem aDo (s:bZ) (d:s.length<=10000):ads s=a6 (Jo s,()):=by
 obtain⟨out,f,g,o⟩:=OW s d bQ 0 true [] (by have:=dX (n:=s.length) (by omega);omega) (by omega) (by omega) (by simp[jI]) (by simp);have i:lm s (dn s) bQ 0=Jo s:=Ig s _ _ _ (by have:=dX (n:=s.length) (by omega);omega) (by omega);have j:ajo s=a6 (out,()):=by
  rw[ajo,aLE s (by omega),bI];simp only;rw[f,bI];rfl
 have e:jI out=Jo s:=by rw[g,i];rfl
 have p:=am3 s d;rw[ads,j,bI];simp only;have l:=Uw out (by omega) (by rw[e];omega) bQ 0 (dX) (by omega);rw[show FT bQ out [] 0=_ from l,bI,<-e];rfl
end
section
open List renaming drop_eq_getElem_cons → aA, length_drop → aP
open Go.RowKit
abbrev Tok:=Int×Int×Int×Bool×Unit
abbrev Dlm:=List UInt8×Bool×Unit
abbrev Vs:=Int×List Dlm×Bool×Unit
def dDl:Dlm:=([],(false,()))
def qI (s:bZ) (a:Nat):Nat:=a+lX (s.drop a) a fK
def RI (s:bZ) (a b:Nat):bZ:=(s.take b).drop a
def XF (w:bZ):Bool:=KX (jk w 0 fK).1
theorem Vm {s:List UInt8} {a:Nat} (h:a<=s.length):a<=qI s a/\qI s a<=s.length:=by
 grind [ai5,qI]
def jG (s:bZ) (a:Nat):Tok:=if ul (s.drop a)≠0 then(1,a,((a+ul (s.drop a):Nat):Int),false,())else if bY s a=10 then(2,a,((a+1:Nat):Int),false,())else if bY s a=35 then(3,a,(jb s a:Nat),false,())else if(Af (s.drop a)).2≠0 then(4,a,((a+(Af (s.drop a)).2:Nat):Int),false,())else if yT (s.drop a)≠0 then(5,a,((a+yT (s.drop a):Nat):Int),false,())else(6,a,(qI s a:Nat), !XF (RI s a (qI s a)),())
def kQ (s:bZ) (a:Nat) (x:Vs):Vs:=if ul (s.drop a)≠0 then(x.1,x.2.1,false,())else if bY s a=10 then(0,x.2.1,decide (0<x.2.1.length),())else if bY s a=35 then(0,x.2.1,false,())else if(Af (s.drop a)).2≠0 then((if(Af (s.drop a)).1=4\/(Af (s.drop a)).1=5 then(((Af (s.drop a)).1:Nat):Int)else 0),x.2.1,false,())else if yT (s.drop a)≠0 then(0,x.2.1,false,())else(0,(if x.1=0 then x.2.1 else x.2.1++[(Jo (RI s a (qI s a)),decide (x.1=5),())]),false,())
def jP (s:bZ) (a:Nat) (x:Vs):Tok×Vs:=if x.2.2.1=true then(if(Dk s (x.2.1.headD dDl).1 (x.2.1.headD dDl).2.1 a).2=true then((7,a,((Dk s (x.2.1.headD dDl).1 (x.2.1.headD dDl).2.1 a).1:Nat),false,()),(x.1,x.2.1.tail,decide (1<x.2.1.length),()))else((7,a,((Dk s (x.2.1.headD dDl).1 (x.2.1.headD dDl).2.1 a).1:Nat),true,()),x))else(jG s a,kQ s a x)
theorem avw {c:UInt8} {t:List UInt8} (h:Aa (c.toNat:Int)=true):(Af (c::t)).2≠0:=by
 have d:ofF [c]≠0:=by
  have: ∀n:Fin 256,Aa ((n.val:Nat):Int)=true->ofF [UInt8.ofNat n.val]≠0:=by decide+kernel
  have:=this ⟨c.toNat,c.toNat_lt⟩ h;simpa using this
 have e: ∀n,(PG (c::t) (n+1)).2≠0:=by
  intro n
  induction n with
  |zero=>simp_all [PG]
  |succ n f=>
   grind [PG]
 grind [Af]
theorem EO {s:List UInt8} (o:s.length<=10000) {a:Nat} (g:a<s.length) (x:Vs):(a:Int)<(jP s a x).1.2.2.1/\(jP s a x).1.2.2.1<=s.length/\(jP s a x).1.2.1=a:=by
 unfold jP;split
 .have h:=Me s (x.2.1.headD dDl).1 (x.2.1.headD dDl).2.1 bQ a (dX) (by omega);have i:=h.2.2 g;have d:=h.1;unfold Dk
  grind
 .unfold jG;have hd:=aA g;split
  .have:=Ym (s.drop a)
   grind
  .split
   .grind
   .split
    .rename_i p
     have d:=wO s a;have i:=zW (s:=s) (a:=a) (by omega);have q:jb s a≠a:=by
      intro e;have:=Tz (s:=s) (f:=a) (by omega);simp_all [byte_at]
     grind
    .split
     .have:=(PV (s.drop a)).1
      grind
     .split
      .rename_i u
       have d:=Qn (s.drop a);rw[aP]at d;have:yT (s.drop a)<=jH (s.drop a):=by grind [yT]
       grind
      .rename_i v y _ z _
       have j:=Vm (s:=s) (a:=a) (by omega);have:lX (s.drop a) a fK≠0:=by
        rw[hd,lX];have l:oq fK.1 (gy s[a])=false:=by
         unfold oq;have:wo (gy s[a])=false:=by
          have A:lW (s[a].toNat:Int)=false:=by
           grind [zI]
          have B:Aa (s[a].toNat:Int)=false:=by
           grind [avw]
          simp_all [byte_at,lW,Aa,wo,gy]
         rw[this];rfl
        rw[l];simp
       unfold qI at j ⊢
       grind
end
section
open Option renaming some → a6, none → a7
open Bool renaming false_eq_true → ag, and_true → ay, not_false → az, not_eq_true → bg
open Int renaming toNat_natCast → aV
open List renaming length_drop → aP
open Nat renaming le_refl → ae
open Go.RowKit
theorem adb {s:List UInt8} (z:s.length<1000000) {a:Nat} (x:a<=s.length) (d f:Int) (g:List Dlm) (j:Bool) (l:Int) (o:Bool) (p q u:Int) (v:Bool): ∀(N i:Nat),s.length-i<N->a<=i->i<=jb s a->
  Ko N s d (i:Int) f g j l o p q u v=a6 (.inl ((d,((jb s a:Nat):Int),()),((f,g,j,()),(l,o,()),(p,q,u,v,()),())))
 |0,i,h,_,A=>by omega
 |N+1,i,h,B,A=>by
  have E:=zW x;rw[Ko,QQ];by_cases e:i<jb s a
  .have y:i<s.length:=by omega
   rw[cO (fO (by rw[bP];omega)),cO (eu),byte_at y,dZ fun h=>WW B e y (UInt8.toNat_inj.1 (by grind))];simp only[az,aa];rw[dI,show(i:Int)+1=((i+1:Nat):Int) by omega];exact adb z x d f g j l o p q u v N (i+1) (by omega) (by omega) (by omega)
  .have G:i=jb s a:=by omega
   by_cases hl:i<s.length
   .have D:s[i]=10:=by grind [Tz]
    rw[cO (fO (by rw[bP];omega)),cO (eu),byte_at hl,D,show bV (((10:UInt8).toNat:Nat):Int) 10=true from rfl];simp_all
   simp_all [iE,bP]
theorem adg {s:List UInt8} (E:s.length<1000000) {a:Nat} (G:a<=s.length) (d f:Int) (g:List Dlm) (j:Bool) (o:Int) (p:Bool) (q u v:Int) (x:Bool) (y:Int) (z:List Dlm) (A:Bool): ∀(N k:Nat),s.length-(a+k)<N->k<=jH (s.drop a)->
  Kq N s d ((a+k:Nat):Int) f g j o p q u v x y z A=a6 (.inl ((s,d,((a+jH (s.drop a):Nat):Int),()),((f,g,j,()),(o,p,()),(q,u,v,x,()),(y,z,A,()),())))
 |0,k,h,hk=>by omega
 |N+1,k,h,hk=>by
  have K:=Qn (s.drop a);have L:=aP (i:=a) (l:=s);rw[Kq,QR];by_cases e:a+k<s.length
  .have B:k<(s.drop a).length:=by omega
   have D:(s.drop a)[k]=s[a+k]:=by simp
   obtain⟨_,_,c,I,_,J⟩:=sU s[a+k];rw[cO (fO (by rw[bP];omega)),cO (eu),byte_at e,I,bI];simp only[J];by_cases hk2:k<jH (s.drop a)
   .have:=E5 isD (s.drop a) k B hk2;rw[D]at this;rw[this,aa,dI,show((a+k:Nat):Int)+1=((a+(k+1):Nat):Int) by omega];exact adg E G d f g j o p q u v x y z A N (k+1) (by omega) (by omega)
   .obtain rfl:k=jH (s.drop a):=by omega
    have:=zD isD (s.drop a) B;rw[show isD s[a+jH (s.drop a)]=false by rw[<-D];exact this,ac]
  .obtain rfl:k=jH (s.drop a):=by omega
   rw[dN (iE (by rw[bP];omega))]
theorem aqz (w:bZ) (d:w.length<=100000):Su w=a6 (XF w,()):=by
 have e:=(DW w 0 fK kK).1;rw[Su,aIf w d,bI]
 grind [XF,Ht,aww]
theorem acC {s:List UInt8} {a b:Nat}:sub s (a:Int) (b:Int)=RI s a b:=by simp[sub,RI]
theorem RJ {s:List UInt8} {a b:Nat}:(RI s a b).length<=s.length:=by
 grind [RI]
theorem aqg {s:List UInt8} (d:s.length<=10000) {a:Nat} (e:a<s.length):WE s (a:Int)=a6 (((qI s a:Nat):Int),()):=by
 rw[aH5 s (by omega) (by omega) (by omega),aV];rfl
theorem aDv {s:List UInt8} (v:s.length<=10000) {a:Nat} (z:a<s.length) (x:Vs) (hp:x.2.2.1=true->x.2.1≠[]) (hl:x.2.1.length<=1000000):
  aze s a x=a6 ((jP s a x).1,((jP s a x).2,())):=by
 obtain⟨e,f,A,u⟩:=x;cases u;simp only at hp hl;unfold jP
 (rewrite [aze];delta YX ag4 ag3 yD)
 cases A with
 |true=>
  obtain⟨d,r,rfl⟩: ∃d r,f=d::r:=by
   cases f with
   |nil=>simp_all
   |cons d r=>simp
  simp only[aa,if_true];rw[cO (eu (by omega) (by simp)),show dJ (d::r) ([],(false,())) 0=d from rfl,aEi (by omega) d (by omega),bI];simp only[List.headD_cons];by_cases hh:(Dk s d.1 d.2.1 a).2=true
  rotate_left
  .rw[bg]at hh;simp only[hh,ag,if_false,show bV 0 0=true from rfl,aa,fJ,iF,iC,ay]
  .have B:sub (d::r) 1 (bM (d::r))=r:=by simp[sub,bP]
   have o:gY 1 (bM (d::r))=decide (1<(d::r).length):=by
    unfold gY bM
    grind
   simp only[hh,if_true,show bV 1 0=false from rfl,ac,aa,fJ,iF,iC,ay,B];have N:fH (bM (d::r)) 1 (bM (d::r))=true:=gu (by omega) (by grind [bP]) (by omega);simp_all
 |false=>
  have o:gY 0 (bM f)=decide (0<f.length):=by
   simp_all [gY,bM]
  have D:fV s (a:Int)=true:=eu;simp only[ac,ag,if_false];rw[ayB (by omega) (by omega),bI];simp only;by_cases hb:ul (s.drop a)=0
  .rw[dN (jh),D,aa];by_cases h10:bY s a=10
   .rw[cO (gq h10)];simp only[fJ,iF,iC,ay,aa,o,show bV 0 0=true from rfl]
    grind [dI,jG,kQ]
   .rw[dN (dZ h10)];by_cases h35:bY s a=35
    .rw[cO (gq h35),adb (by omega) (a:=a) (by omega) _ _ _ _ _ _ _ _ _ _ bQ a (dX) (ae _) (wO s a),bI];simp_all [dW,fJ,iF,iC,jG,kQ]
    .obtain⟨l,O⟩:=aBl (s.drop a);obtain⟨E,p,S⟩:=PV (s.drop a);rw[aP]at E;rw[dN (dZ h35),aKj s (by omega) (by omega),bI];simp only;by_cases ho:(Af (s.drop a)).2=0
     .have q:=p.1 ho;rw[q,dN (show gY 0 ((0:Nat):Int)=false from rfl)];have hd:=adg (s:=s) (by omega) (a:=a) (by omega) (a:Int) 0 f false 0 false 0 0 0 false e f false bQ 0 (dX) (by omega);rw[Nat.add_zero]at hd;rw[hd,bI];simp only[dW];have G:=Qn (s.drop a);rw[aP]at G;have U:=Vm (s:=s) (a:=a) (by omega);have V: ∀(j:yT (s.drop a)=0),(bJ (WE s (a:Int)) fun g=>
        bif fH (bM s) (a:Int) g.1 then
         bif !bV e 0 then
          bif lZ Dy f f then
           bif fP (sub s (a:Int) g.1) (sub s (a:Int) g.1)then
            bif bV e e then
             bif jA (bV e 5) (bV e 5)then
              bif dY (bT [] f) 24 then
               bif fP (sub s (a:Int) g.1) (sub s (a:Int) g.1)then
                bif bV e e then
                 bif jA (bV e 5) (bV e 5)then
                  bJ (ads (sub s (a:Int) g.1)) fun i=>
                   bif lZ Dy f f then
                    bif fP (sub s (a:Int) g.1) (sub s (a:Int) g.1)then
                     bif bV e e then
                      bif jA (bV e 5) (bV e 5)then
                       bif((fP (sub s (a:Int) g.1) (sub s (a:Int) g.1)&&true)&&(fP i.1 i.1&&true))then
                        bif dY (bT (bT [] f) [(i.1,(bV e 5,()))]) 24 then
                         bif lZ Dy f f then
                          bif fP (sub s (a:Int) g.1) (sub s (a:Int) g.1)then
                           bif bV e e then
                            bif jA (bV e 5) (bV e 5)then
                             bif(fP i.1 i.1&&(jA (bV e 5) (bV e 5)&&true))then
                              bJ (Su (sub s (a:Int) g.1)) fun I=>
                               bif(bV 0 0&&(jA false false&&true))then
                                a6 (((6:Int),((a:Int),(g.1,(!I.1,())))),(((0:Int),(bT (bT [] f) [(i.1,(bV e 5,()))],(false,()))),()))
                               else a7
                             else a7
                            else a7
                           else a7
                          else a7
                         else a7
                        else a7
                       else a7
                      else a7
                     else a7
                    else a7
                   else a7
                 else a7
                else a7
               else a7
              else a7
             else a7
            else a7
           else a7
          else a7
         else bJ (Su (sub s (a:Int) g.1)) fun i=>
          bif(bV 0 0&&(lZ Dy f f&&(jA false false&&true)))then
           a6 (((6:Int),((a:Int),(g.1,(!i.1,())))),(((0:Int),(f,(false,()))),()))
          else a7
        else a7)=a6 (((6:Int),((a:Int),(((qI s a:Nat):Int),(!XF (RI s a (qI s a)),())))),(((0:Int),((if e=0 then f else f++[(Jo (RI s a (qI s a)),decide (e=5),())]),(false,()))),())):=by
       intro j;have W:=RJ (s:=s) (a:=a) (b:=qI s a);rw[aqg v z,bI];simp only;rw[cO (gu (by omega) (by omega) (by rw[bP];omega)),acC];by_cases h0:e=0
       .subst h0;rw[show(!bV 0 0)=false from rfl,ac,aqz _ (by omega),bI,am rfl];simp_all [fJ,iF,iC]
       .rw[dZ h0,aq h0];have J:dY (bT [] f) 24=true:=lN (by grind [bT]);have K: ∀y,dY (bT (bT [] f) [y]) 24=true:=fun y=>lN (by grind [bT]);simp only[az,fJ,kW,iF,iC,ay,aa,J];rw[aDo _ (by omega),bI];simp only[fJ,kW,iF,iC,ay,aa,K];rw[aqz _ (by omega),bI];rfl
      by_cases hg:jH (s.drop a)=0
      .simp_all [yT,jh,jG,kQ]
      .rw[cO (fO)];by_cases h1:a+jH (s.drop a)<s.length
       .have L:((s.drop a).drop (jH (s.drop a))).head?=a6 s[a+jH (s.drop a)]:=by
         simp
        have M:fV s ((a+jH (s.drop a):Nat):Int)=true:=eu;rw[cO (fO (by rw[bP];omega)),M,aa,byte_at h1];by_cases e1:s[a+jH (s.drop a)]=60
        .have j:yT (s.drop a)=jH (s.drop a):=by unfold yT;simp_all
         rw[e1,show bV (((60:UInt8).toNat:Nat):Int) 60=true from rfl];simp_all [fJ,iF,iC,jG,kQ]
        .rw[dN (dZ fun h=>e1 (UInt8.toNat_inj.1 (by grind))),aa];by_cases e2:s[a+jH (s.drop a)]=62
         .have j:yT (s.drop a)=jH (s.drop a):=by unfold yT;simp_all
          rw[e2,show bV (((62:UInt8).toNat:Nat):Int) 62=true from rfl];simp_all [fJ,iF,iC,jG,kQ]
         .have j:yT (s.drop a)=0:=by simp_all [yT]
          rw[dN (dZ fun h=>e2 (UInt8.toNat_inj.1 (by grind)))];simp_all [jG,kQ]
       .have L:((s.drop a).drop (jH (s.drop a))).head?=a7:=by
         simp_all
        have j:yT (s.drop a)=0:=by simp_all [yT]
        rw[dN (jh (by rw[bP];omega))];simp_all [jG,kQ]
     .have q:(Af (s.drop a)).1≠0:=fun h=>ho (p.2 h);rw[cO (fO)];have X:dw .i64 (a:Int) (bM (PE (Af (s.drop a)).1))=((a+(Af (s.drop a)).2:Nat):Int):=by
       grind [bP,dI]
      by_cases h4:(Af (s.drop a)).1=4
      .rw[cO (gq),l,bI];simp_all [fJ,iF,iC,jG,kQ]
      .rw[dN (dZ)];by_cases h5:(Af (s.drop a)).1=5
       .rw[cO (gq),l,bI];simp_all [fJ,iF,iC,jG,kQ]
       .rw[dN (dZ),l,bI];simp_all [fJ,iF,iC,jG,kQ]
  .rw[cO (fO)];simp_all [fJ,iF,iC,jG,kQ]
end
section
open Int renaming toNat_natCast → aV
open List renaming getElem_mem → aX, take_of_length_le → bD
open Go.RowKit
def oN (s:bZ):Nat->Nat->List Tok->Vs->List Tok×Vs
 |0,_,l,x=>(l,x)
 |n+1,a,l,x=>if a<s.length then oN s n (jP s a x).1.2.2.1.toNat (l++[(jP s a x).1]) (jP s a x).2 else(l,x)
def zV (s:bZ):List Tok×Vs:=oN s (s.length+1) 0 [] (0,[],false,())
def OkX (x:Vs):Prop:=x.2.2.1=true->x.2.1≠[]
theorem U0 (s:bZ) (a:Nat) {x:Vs} (h:OkX x):OkX (jP s a x).2/\(jP s a x).2.2.1.length<=x.2.1.length+1:=by
 obtain⟨d,e,f,u⟩:=x;unfold OkX at*;unfold jP;simp only at h ⊢;split
 .grind
 .unfold kQ
  grind
theorem MF {s:List UInt8} (d:s.length<=10000): ∀(n m a:Nat) (l:List Tok) (x:Vs),s.length<n+a->s.length<m+a->oN s n a l x=oN s m a l x
 |0,0,a,l,x,_,_=>rfl
 |0,m+1,a,l,x,h,_=>by rw[oN,oN,aq (by omega)]
 |n+1,0,a,l,x,_,h=>by rw[oN,oN,aq (by omega)]
 |n+1,m+1,a,l,x,f,g=>by
  rw[oN,oN];split
  .rename_i e
   have:=EO d e x;exact MF d n m _ _ _ (by omega) (by omega)
  .rfl
theorem aep {s:List UInt8} (d:s.length<=10000) (f:Int) (g:Bool): ∀(N a:Nat) (l:List Tok) (x:Vs),s.length-a<N->a<=s.length->OkX x->x.2.1.length<=a->l.length<=a->
  MK N s (a:Int) l x.1 x.2.1 x.2.2.1 f g=some (.inl ((),((oN s N a l x).1,((oN s N a l x).2.1,(oN s N a l x).2.2.1,(oN s N a l x).2.2.2.1,()),(f,g,()),())))
 |0,a,l,x,h,_,_,_,_=>by omega
 |N+1,a,l,x,h,u,i,v,hl=>by
  rw[MK,acs,oN];by_cases e:a<s.length
  .have y:=EO d e x;have o:=U0 s a i;have p:(x.1,(x.2.1,(x.2.2.1,())))=x:=rfl;rw[cO (fO (by rw[bP];omega)),p,aDv d e x i (by omega),bI,am e];simp only;rw[cO (lN (by grind [bT]))];obtain⟨b,j⟩: ∃b:Nat,(jP s a x).1.2.2.1=(b:Int):=⟨(jP s a x).1.2.2.1.toNat,by omega⟩;have q:=aep d f g N b (l++[(jP s a x).1]) (jP s a x).2 (by omega) (by omega) o.1 (by omega) (by grind);rw[j,aV];rw[<-q];rw[<-j];rfl
  simp_all [iE,bP,aq]
theorem aIb {s:List UInt8} (d:s.length<=10000):ay7 s=some ((zV s).1,((zV s).2,())):=by
 have h:=aep d 0 false bQ 0 [] (0,[],false,()) (dX) (by omega) (fun h=>by cases h) (by simp) (by simp);have e:oN s bQ 0 [] (0,[],false,())=zV s:=MF d _ _ _ _ _ (by have:=dX (n:=s.length) (by omega);omega) (by omega);rw[ay7,show MK bQ s 0 [] 0 [] false 0 false=_ from h,bI,e];rfl
structure OkT (s:bZ) (t:Tok):Prop where
 f0:0<=t.2.1
 ft:t.2.1<t.2.2.1
 t1:t.2.2.1<=s.length
theorem akc {s:List UInt8} (g:s.length<=10000): ∀(n a:Nat) (l:List Tok) (x:Vs),OkX x->l.length<=a->a<=s.length->(∀t∈l,OkT s t)->(∀t∈(oN s n a l x).1,OkT s t)/\OkX (oN s n a l x).2/\(oN s n a l x).1.length<=s.length
 |0,a,l,x,d,hl,i,h=>⟨h,d,by grind [oN]⟩
 |n+1,a,l,x,d,hl,i,h=>by
  rw[oN];split
  .rename_i e
   have o:=EO g e x;exact akc g n _ _ _ (U0 s a d).1 (by grind) (by omega) (fun t j=>by
    rcases List.mem_append.1 j with f|f
    .exact h t f
    .rw[List.mem_singleton.1 f];exact⟨by omega,by omega,by omega⟩)
  grind
theorem akd {s:List UInt8} (d:s.length<=10000):(∀t∈(zV s).1,OkT s t)/\OkX (zV s).2/\(zV s).1.length<=s.length:=
 akc d _ _ _ _ (fun h=>by cases h) (by simp) (by omega) (fun t e=>by cases e)
def Y5 (t:Tok):Bool:=decide (t.1=2)||decide (t.1=4)||decide (t.1=5)||decide (t.1=6)
def akb (s:bZ) (t:Tok):Int×List UInt8×Int×Int×Unit:=(t.1,sub s t.2.1 t.2.2.1,t.2.1,t.2.2.1,())
def iV (s:bZ) (l:List Tok):List (Int×List UInt8×Int×Int×Unit):=(l.filter Y5).map (akb s)
theorem OA {s:List UInt8} (g:s.length<=10000) (l:List Tok) (hl:l.length<=10000) (d: ∀t∈l,OkT s t): ∀(N k:Nat),l.length-k<N->k<=l.length->
  Iz N s l (k:Int) (iV s (l.take k))=some (.inl ((),(iV s l,())))
 |0,k,h,_=>by omega
 |N+1,k,h,hk=>by
  (rewrite [Iz,aco];delta AB jy)
  by_cases e:k<l.length
  .have i:dJ l (0,(0,(0,(false,())))) (k:Int)=l[k]:=by
    simp_all [dJ]
   have j:fV l (k:Int)=true:=eu;obtain⟨o,A,B⟩:=d _ (aX e);have p:fH (bM s) l[k].2.1 l[k].2.2.1=true:=gu o (by omega) (by rw[bP];omega);have D:(iV s (l.take k)).length<=10000:=by
    grind [iV]
   have q: ∀y,dY (bT (iV s (l.take k)) [y]) 40=true:=fun y=>lN (by grind [bT]);have f:=OA g l hl d N (k+1) (by omega) (by omega);have u:l.take (k+1)=l.take k++[l[k]]:=by simp
   have v:dw .i64 (k:Int) 1=((k+1:Nat):Int):=by grind [dI]
   have x:Y5 l[k]=true->Iz N s l ((k+1:Nat):Int) (bT (iV s (l.take k)) [(l[k].1,(sub s l[k].2.1 l[k].2.2.1,(l[k].2.1,(l[k].2.2.1,()))))])=some (.inl ((),(iV s l,()))):=fun z=>by
    rw[<-f];congr 1;unfold iV;rw[u,List.filter_append,List.map_append,List.filter_cons_of_pos z];rfl
   rw[cO (fO (by rw[bP];omega)),j];simp only[aa,i,p,q,v];unfold Y5 at x;by_cases h2:l[k].1=2
   .rw[cO (gq h2)];grind
   .rw[dN (dZ h2)];by_cases h4:l[k].1=4
    .rw[cO (gq h4)];grind
    .rw[dN (dZ h4)];by_cases h5:l[k].1=5
     .rw[cO (gq h5)];grind
     .rw[dN (dZ h5)];by_cases h6:l[k].1=6
      .rw[cO (gq h6)];grind
      .rw[dN (dZ h6),<-f]
       grind [iV,Y5]
  simp_all [iE,bP,bD]
theorem aH9 {s:List UInt8} (d:s.length<=10000):aEb s=some (iV s (zV s).1,()):=by
 obtain⟨e,f,g⟩:=akd d;rw[aEb,aIb d,bI];simp only;have h:=OA d (zV s).1 (by omega) e bQ 0 (dX) (by omega);rw[show Iz bQ s (zV s).1 0 []=_ from h,bI];rfl
end
end Go.Proofs.YtlhpdcadgbjhiaaGreatDoor
