/- Parts of the proof, joined and shortened by a program: the plain machine, the functions as it prints them, and the mathematics over them. -/
import Derived.Test.YtkichehglnecnaaGreatDoorZ3
import Derived.Test.YtkichehglnecnaaGreatDoorZ4
import Derived.Test.YtkichehglnecnaaGreatDoorZ5
import Derived.Test.YtkichehglnecnaaGreatDoorZ6
import Derived.Test.YtkichehglnecnaaGreatDoorZ7
set_option linter.unusedVariables false
set_option linter.unusedSimpArgs false
set_option maxRecDepth 100000
set_option maxHeartbeats 4000000
namespace Go.Proofs.YtkichehglnecnaaGreatDoor
section
open Option renaming some → a6, none → a7
open Tryz
open Go.RowKit
noncomputable def b49:Code:=(f49.body).getD .skip
noncomputable def aEt:Code:=cA (cA (cB (cA (cB (cB (b49))))))
def aE0:fJ:=⟨[3,6,7,8,100003],[],[3],[],[2],[]⟩
def aog:SP:=⟨us [.u,.u,.u,bX,.u,.u,dx,bX,bX] 15,[]⟩
def akA:SP:=⟨us [.u,.u,.u,bX] 20,[]⟩
def ak0:SP:=⟨us er 21,[]⟩
def afa {i:Type} (j:Int->(List lL)->Int->Int->Option i) (l m:Int->Option i) (f:Int) (e:List lL) (g d:Int):Option i:=cond (iF d g) (cond (gy e d) (cond (bY (ed e (0,(0,())) d).1 1) (j (cO .i64 f 1) e g (cO .i64 d 1))<|cond (bY (ed e (0,(0,())) d).1 3) (j (cO .i64 f 1) e g (cO .i64 d 1))<|j f e g (cO .i64 d 1)) a7)<|l f
def Ql:Nat->Int->(List lL)->Int->Int->Option (akA.den⊕ak0.den)
 |0,_,_,_,_=>a7
 |n+1,d,e,f,g=>afa (Ql n) (fun i=>a6 (.inl ((i,()),()))) (fun j=>a6 (.inr ((j,()),()))) d e f g
def aId (n:Nat) (v:aog.den):=aR (Ql n) v
noncomputable def axJ:dD:=gu aE0 aog akA ak0 (.exit 0) (aId bT) 6
def aBM (d:List lL):Option AQ:=bJ (Ql bT 0 d (bK d) 0) fun e=>dR e (fun f=>a6 (f.1.1,())) (fun g=>a6 (g.1.1,()))
def aFy:Sum:=⟨[.list Ko],U7,fun x=>aBM x.1⟩
noncomputable def au8:Env:=jm prog tt 49 [] [(3,aE0)] [(3,axJ)]
def ayP {d:Type} (a:aog.den->Option d) (b:akA.den->Option d) (c:ak0.den->Option d) (v:aog.den):Option d:=aR (afa (aM a) (aE b) (aE c)) v
theorem aIO:dX au8 49 aEt axJ:=yu (ayP) (h2:=by intros;simp only[ayP,aM,aE,aR,afa,dm,dn,bI,di,dw])
theorem aMt:dO au8 49 b49:=pI [aEt] (aD (fM (aIO)) aN)
theorem au9:fK au8:=eA f49 aN (aMt)
theorem aAd:dU prog 49 aFy:=sA au9
noncomputable def b50:Code:=(f50.body).getD .skip
noncomputable def abn:Code:=(f134.body).getD .skip
noncomputable def ZB:Code:=cA (cA (cB (abn)))
def Z8:fJ:=⟨[0,1,3,105000001],[],[],[],[],[]⟩
def Jw:SQ:=⟨us [.yld 1700007,dz,.u,bX] 26,em,cT⟩
def L6:SQ:=⟨us [] 30,em,cT⟩
def Me:SQ:=⟨us [] 30,em,[.lp 1700007 50 (us [.u,.u,cK,ck] 6) [7] 3 1 (a6 .ret),fe,cY,.box 1000002 97 [bX,bX]]⟩
def mM {f:Type} (d:List lL) (e:Int) (g:(List lL)->Bool->Int->Int->Option f):Option f:=cond (gy d e) (g d true (ed d (0,(0,())) e).1 (ed d (0,(0,())) e).2.1) a7
def F9 {m:Type} (j:Int->(List lL)->Bool->Int->Int->Option m) (o l:(List lL)->Bool->Int->Int->Option m) (d:Int) (e:List lL) (f:Bool) (g i:Int):Option m:=cond (leI 0 d) (cond (gy e d) (cond (bY (ed e (0,(0,())) d).1 0) (cond (bY (ed e (0,(0,())) d).1 0) (j (eP .i64 d 1) e f g i)<|mM e d l)<|cond (bY (ed e (0,(0,())) d).1 2) (cond (bY (ed e (0,(0,())) d).1 2) (j (eP .i64 d 1) e f g i)<|mM e d l)<|cond (bY (ed e (0,(0,())) d).1 4) (cond (bY (ed e (0,(0,())) d).1 4) (j (eP .i64 d 1) e f g i)<|mM e d l)<|cond (bY (ed e (0,(0,())) d).1 5) (cond (bY (ed e (0,(0,())) d).1 5) (j (eP .i64 d 1) e f g i)<|mM e d l)<|cond (bY (ed e (0,(0,())) d).1 13) (cond (bY (ed e (0,(0,())) d).1 13) (j (eP .i64 d 1) e f g i)<|mM e d l)<|cond (bY (ed e (0,(0,())) d).1 14) (j (eP .i64 d 1) e f g i)<|mM e d l) a7)<|o e f g i
def Ac:Nat->Int->(List lL)->Bool->Int->Int->Option (L6.den⊕Me.den)
 |0,_,_,_,_,_=>a7
 |n+1,d,e,f,g,i=>F9 (Ac n) (fun j l m o=>a6 (.inl ((),((),(),(),()),((),(j,()),(l,()),(m,o,()),())))) (fun p q s u=>a6 (.inr ((),((),(),(),()),((),(p,()),(q,()),(s,u,()),())))) d e f g i
def akd (n:Nat) (v:Jw.den):=Ac n v.1.1 v.2.2.2.1.1 v.2.2.2.2.1.1 v.2.2.2.2.2.1.1 v.2.2.2.2.2.1.2.1
noncomputable def WY:dD:=fP Z8 Jw L6 Me (.exit 0) (akd bT) 6
def aBN (e:List lL):Option (lL×Bool×Unit):=bJ (Ac bT (eP .i64 (bK e) 1) e false 0 0) fun f=>dR f (fun g=>a6 ((0,(0,())),(false,()))) (fun d=>a6 ((d.2.2.2.2.2.1.1,(d.2.2.2.2.2.1.2.1,())),(d.2.2.2.2.1.1,())))
def aFz:Sum:=⟨[.list Ko],[(.pair dA (.pair dA .unit),false),(.bool,false)],fun x=>aBN x.1⟩
noncomputable def ame:Env:=gY prog tt [] [(134,1,Z8),(50,500003,anb),(50,600001,am7),(134,600010,RV)] [(134,1,WY)] [50]
def XX {d:Type} (a:Jw.den->Option d) (b:L6.den->Option d) (c:Me.den->Option d) (v:Jw.den):Option d:=F9 (fun e f g i j=>a ((e,()),((),(),(),()),((),(f,()),(g,()),(i,j,()),()))) (fun l m o p=>b ((),((),(),(),()),((),(l,()),(m,()),(o,p,()),()))) (fun q s u x=>c ((),((),(),(),()),((),(q,()),(s,()),(u,x,()),()))) v.1.1 v.2.2.2.1.1 v.2.2.2.2.1.1 v.2.2.2.2.2.1.1 v.2.2.2.2.2.1.2.1
theorem akl:dX ame 134 ZB WY:=mF (XX) (h2:=by intros;simp only[XX,F9,dm,dn,bI,di,dw,mM])
theorem aMb:jF b50=[]:=by kernel_rfl
theorem aMX:kC b50=[(cA (cA (cB (cA (cB (b50))))),cB (cA (cB (cA (cB (b50))))))]:=by kernel_rfl
theorem aMu:dO ame 50 b50:=sU b50 (by rw[aMX];exact(aD (fun _=>(show ut 50 3=a6 (cA (cA (cB (cA (cB (b50))))),cB (cA (cB (cA (cB (b50)))))) by kernel_rfl)) aN)) (by rw[aMb];exact aN)
theorem arD:dO ame 134 abn:=pI [ZB] (aD (fM (akl)) aN)
theorem ava:fK ame:=eB aN [50,134] (aD ⟨f50,b50,by kernel_rfl,by kernel_rfl,aMu⟩ (aD ⟨f134,abn,by kernel_rfl,by kernel_rfl,arD⟩ aN))
theorem aAe:dU prog 50 aFz:=sA ava
def ER (d:List lL):=ed d (0,(0,())) (eP .i64 (bK d) 1)
def aBQ (d:List lL):Option AQ:=cond (gy d (eP .i64 (bK d) 1)) (cond (bY (ER d).1 4) (cond (bY (ER d).1 4) (a6 ((ER d).1,()))<|some (0,()))<|cond (bY (ER d).1 5) (cond (bY (ER d).1 5) (a6 ((ER d).1,()))<|some (0,()))<|cond (bY (ER d).1 13) (a6 ((ER d).1,()))<|some (0,())) a7
def aFD:Sum:=⟨[.list Ko],U7,fun x=>aBQ x.1⟩
theorem aAh:dU prog 55 aFD:=qA f55 [] aN
def aBP (e:bV):Option taV:=bJ (arh e) fun d=>cond (bY (bK d.1) 0) (a6 ([],()))<|cond (gy d.1 (eP .i64 (bK d.1) 1)) (cond (!(bY (ed d.1 (0,(0,(0,(0,(false,()))))) (eP .i64 (bK d.1) 1)).1 12)) (a6 ([],()))<|cond (!(bY (ed d.1 (0,(0,(0,(0,(false,()))))) (eP .i64 (bK d.1) 1)).2.2.1 (bK e))) (a6 ([],()))<|cond (eY (bK e) (cO .i64 (ed d.1 (0,(0,(0,(0,(false,()))))) (eP .i64 (bK d.1) 1)).2.1 1) (bK e)) (bJ (Wj (sub e (cO .i64 (ed d.1 (0,(0,(0,(0,(false,()))))) (eP .i64 (bK d.1) 1)).2.1 1) (bK e))) fun f=>cond (!f.1) (a6 ([],()))<|cond (eY (bK e) (cO .i64 (ed d.1 (0,(0,(0,(0,(false,()))))) (eP .i64 (bK d.1) 1)).2.1 1) (bK e)) (a6 ((sub e (cO .i64 (ed d.1 (0,(0,(0,(0,(false,()))))) (eP .i64 (bK d.1) 1)).2.1 1) (bK e)),())) a7) a7) a7
def aFB:Sum:=⟨[.str],tzG,fun x=>aBP x.1⟩
theorem aAg:dU prog 53 aFB:=qA f53 [] (sE Pz (sE Yv aN))
def ajy (d:bV) (e f:Int) (g:List sQ) (i j l:Int) (m o:Bool) (p:Int):Option taK:=a6 ((d,(e,(f,(g,(i,(j,(l,(m,(o,()))))))))),((p,(0,((cO .i64 e (bK d)),(0,([],(false,([],(0,(f,()))))))))),()))
def aFw:fZ:=⟨90,tzC,[dA],[.pair dA tyJ],fun x y=>ajy x.1 x.2.1 x.2.2.1 x.2.2.2.1 x.2.2.2.2.1 x.2.2.2.2.2.1 x.2.2.2.2.2.2.1 x.2.2.2.2.2.2.2.1 x.2.2.2.2.2.2.2.2.1 y.1⟩
theorem aik:dQ prog 46 aFw:=qB [] aN
def agI (d:bV) (e f:Int) (i:List sQ) (j l m:Int) (o p:Bool) (g:bV):Option taK:=a6 ((d,(e,(f,(i,(j,(l,(m,(o,(p,()))))))))),((2,(0,((eP .i64 (cO .i64 e (bK d)) (bK g)),(0,(g,(false,([],(0,(f,()))))))))),()))
def aFC:fZ:=⟨90,tzC,[.str],[.pair dA tyJ],fun x y=>agI x.1 x.2.1 x.2.2.1 x.2.2.2.1 x.2.2.2.2.1 x.2.2.2.2.2.1 x.2.2.2.2.2.2.1 x.2.2.2.2.2.2.2.1 x.2.2.2.2.2.2.2.2.1 y.1⟩
theorem aim:dQ prog 54 aFC:=qB [] aN
def ajz (f:bV) (g i:Int) (j:List sQ) (l m o:Int) (p q:Bool) (e:bV) (s:lL):Option taK:=bJ (agI f g i j l m o p q (sub e (cO .i64 s.2.1 2) (bK e))) fun d=>a6 ((d.1.1,(d.1.2.1,(d.1.2.2.1,(d.1.2.2.2.1,(d.1.2.2.2.2.1,(d.1.2.2.2.2.2.1,(d.1.2.2.2.2.2.2.1,(d.1.2.2.2.2.2.2.2.1,(d.1.2.2.2.2.2.2.2.2.1,()))))))))),((d.2.1.1,(d.2.1.2.1,(d.2.1.2.2.1,(d.2.1.2.2.2.1,(d.2.1.2.2.2.2.1,(d.2.1.2.2.2.2.2.1,(d.2.1.2.2.2.2.2.2.1,(d.2.1.2.2.2.2.2.2.2.1,(d.2.1.2.2.2.2.2.2.2.2.1,()))))))))),()))
def ab7 (e:bV) (f g:Int) (i:List sQ) (j l m:Int) (o p:Bool):Option taK:=bJ (ajy e f g i j l m o p 5) fun d=>a6 ((d.1.1,(d.1.2.1,(d.1.2.2.1,(d.1.2.2.2.1,(d.1.2.2.2.2.1,(d.1.2.2.2.2.2.1,(d.1.2.2.2.2.2.2.1,(d.1.2.2.2.2.2.2.2.1,(d.1.2.2.2.2.2.2.2.2.1,()))))))))),((d.2.1.1,(d.2.1.2.1,(d.2.1.2.2.1,(d.2.1.2.2.2.1,(d.2.1.2.2.2.2.1,(d.2.1.2.2.2.2.2.1,(d.2.1.2.2.2.2.2.2.1,(d.2.1.2.2.2.2.2.2.2.1,(d.2.1.2.2.2.2.2.2.2.2.1,()))))))))),()))
def ajA (d:bV) (e:lL) (f:bV) (g i:Int) (j:List sQ) (l m o:Int) (p q:Bool):Option taK:=cond (eY (bK d) (cO .i64 e.2.1 2) (bK d)) (cond (gp (sub d (cO .i64 e.2.1 2) (bK d)) []) (ajz f g i j l m o p q d e)<|bJ (Wj (sub d (cO .i64 e.2.1 2) (bK d))) fun s=>cond s.1 (ajz f g i j l m o p q d e)<|ab7 f g i j l m o p q) a7
def aBO (f:bV) (g i:Int) (j:List sQ) (l m o:Int) (p q:Bool) (e:lL) (s:bV):Option taK:=cond (bY e.1 12) (bJ (agI f g i j l m o p q []) fun d=>a6 ((d.1.1,(d.1.2.1,(d.1.2.2.1,(d.1.2.2.2.1,(d.1.2.2.2.2.1,(d.1.2.2.2.2.2.1,(d.1.2.2.2.2.2.2.1,(d.1.2.2.2.2.2.2.2.1,(d.1.2.2.2.2.2.2.2.2.1,()))))))))),((d.2.1.1,(d.2.1.2.1,(d.2.1.2.2.1,(d.2.1.2.2.2.1,(d.2.1.2.2.2.2.1,(d.2.1.2.2.2.2.2.1,(d.2.1.2.2.2.2.2.2.1,(d.2.1.2.2.2.2.2.2.2.1,(d.2.1.2.2.2.2.2.2.2.2.1,()))))))))),())))<|cond (bY e.1 7) (cond (bY e.1 7) (ajA s e f g i j l m o p q)<|ab7 f g i j l m o p q)<|cond (bY e.1 8) (ajA s e f g i j l m o p q)<|ab7 f g i j l m o p q
def aFA:fZ:=⟨90,tzC,[Ko,.str],[.pair dA tyJ],fun x y=>aBO x.1 x.2.1 x.2.2.1 x.2.2.2.1 x.2.2.2.2.1 x.2.2.2.2.2.1 x.2.2.2.2.2.2.1 x.2.2.2.2.2.2.2.1 x.2.2.2.2.2.2.2.2.1 y.1 y.2.1⟩
theorem aAf:dQ prog 52 aFA:=qB [] (sE Pz aN) (sF aik (sF aim aN))
def aBK (d:bV) (i j:Int) (l:List sQ) (e m o:Int) (f g:Bool):Option (taT×vJ):=cond g (a6 ((d,(i,(j,(l,(e,(m,(o,(f,(g,()))))))))),(true,())))<|cond (bY e 7) (cond f (a6 ((d,(i,(j,(l,(e,(m,(o,(f,(g,()))))))))),(true,())))<|cond (gy d (eP .i64 (bK d) 1)) (a6 ((d,(i,(j,(l,(e,(m,(o,(f,(g,()))))))))),((!(bY (cu d (eP .i64 (bK d) 1)) 10)),()))) a7)<|some ((d,(i,(j,(l,(e,(m,(o,(f,(g,()))))))))),(false,()))
def aFv:fZ:=⟨90,tzC,[],[.bool],fun x y=>aBK x.1 x.2.1 x.2.2.1 x.2.2.2.1 x.2.2.2.2.1 x.2.2.2.2.2.1 x.2.2.2.2.2.2.1 x.2.2.2.2.2.2.2.1 x.2.2.2.2.2.2.2.2.1⟩
theorem aAa:dQ prog 45 aFv:=qB [] aN
def aBL (d:bV) (g i:Int) (j:List sQ) (e f l:Int) (m o:Bool):Option (taT×AQ):=cond (bY e 6) (a6 ((d,(g,(i,(j,(e,(f,(l,(m,(o,()))))))))),(f,())))<|some ((d,(g,(i,(j,(e,(f,(l,(m,(o,()))))))))),((bK d),()))
def aFx:fZ:=⟨90,tzC,[],[dA],fun x y=>aBL x.1 x.2.1 x.2.2.1 x.2.2.2.1 x.2.2.2.2.1 x.2.2.2.2.2.1 x.2.2.2.2.2.2.1 x.2.2.2.2.2.2.2.1 x.2.2.2.2.2.2.2.2.1⟩
theorem aAb:dQ prog 47 aFx:=qB [] aN
def awk (e:bV) (f g:Int) (d:List sQ) (j l m:Int) (o i:Bool):Option (taT×(Unit)):=cond (iF 0 (bK d)) (cond (gy d (eP .i64 (bK d) 1)) (a6 ((e,(f,(g,(d,((ed d (0,(0,(0,(false,())))) (eP .i64 (bK d) 1)).1,((ed d (0,(0,(0,(false,())))) (eP .i64 (bK d) 1)).2.1,((ed d (0,(0,(0,(false,())))) (eP .i64 (bK d) 1)).2.2.1,((ed d (0,(0,(0,(false,())))) (eP .i64 (bK d) 1)).2.2.2.1,(i,()))))))))),())) a7)<|some ((e,(f,(g,(d,(j,(l,(m,(o,(i,()))))))))),())
def aFN:fZ:=⟨90,tzC,[],[],fun x y=>awk x.1 x.2.1 x.2.2.1 x.2.2.2.1 x.2.2.2.2.1 x.2.2.2.2.2.1 x.2.2.2.2.2.2.1 x.2.2.2.2.2.2.2.1 x.2.2.2.2.2.2.2.2.1⟩
theorem aAu:dQ prog 82 aFN:=qB [] aN
noncomputable def b94:Code:=(f94.body).getD .skip
noncomputable def aEF:Code:=cA (cA (cB (cA (cB (b94)))))
def aot:SP:=⟨us [eM,bX,.u,.u,.u,bX] 24,[]⟩
def akN:SP:=⟨us [] 30,[]⟩
def ald:SP:=⟨us cW 25,[]⟩
def afi {f:Type} (i:(List gQ)->Int->Int->Option f) (j:Option f) (l:Int->Option f) (e:List gQ) (g d:Int):Option f:=cond (leI 0 d) (cond (gy e d) (cond (leI (ed e (0,(0,(0,(0,())))) d).2.1 g) (cond (gy e d) (cond (iF g (ed e (0,(0,(0,(0,())))) d).2.2.1) (l d)<|i e g (eP .i64 d 1)) a7)<|i e g (eP .i64 d 1)) a7) j
def WT:Nat->(List gQ)->Int->Int->Option (akN.den⊕ald.den)
 |0,_,_,_=>a7
 |n+1,d,e,f=>afi (WT n) (a6 (.inl ((),()))) (fun g=>a6 (.inr ((g,()),()))) d e f
def aIq (n:Nat) (v:aot.den):=ba (WT n) v
noncomputable def axV:dD:=gu am6 aot akN ald (.exit 0) (aIq bT) 6
def aBY (d:List gQ) (e:Int):Option AQ:=bJ (WT bT d e (eP .i64 (bK d) 1)) fun f=>dR f (fun i=>a6 ((-1),())) (fun g=>a6 (g.1.1,()))
def aFR:Sum:=⟨[.list o8,dA],U7,fun x=>aBY x.1 x.2.1⟩
noncomputable def avy:Env:=jm prog tt 94 [] [(2,am6)] [(2,axV)]
def ay2 {d:Type} (a:aot.den->Option d) (b:akN.den->Option d) (c:ald.den->Option d) (v:aot.den):Option d:=ba (afi (fun e f g=>a ((e,f,g,()),())) (b ((),())) (aE c)) v
theorem aI1:dX avy 94 aEF axV:=yu (ay2) (h2:=by intros;simp only[ay2,aE,ba,afi,dm,dn,bI,di,dw])
theorem aMJ:dO avy 94 b94:=pI [aEF] (aD (fM (aI1)) aN)
theorem avz:fK avy:=eA f94 aN (aMJ)
theorem aAy:dU prog 94 aFR:=sA avz
def aB1 (e:List gQ) (d:Int):Option vJ:=cond (leI 0 d) (a6 ((iF d (bK e)),()))<|some (false,())
def aFV:Sum:=⟨[.list o8,dA],YI,fun x=>aB1 x.1 x.2.1⟩
theorem aAC:dU prog 99 aFV:=qA f99 [] aN
noncomputable def b61:Code:=(f61.body).getD .skip
noncomputable def aEw:Code:=cA (cA (cB (cA (cB (cB (b61))))))
def aE2:fJ:=⟨[1,4,11,12,13,100004],[(4,dA)],[4],[],[4],[(4,dA)]⟩
def aoj:SP:=⟨us [.u,bX,.u,.u,ec,.u,.u,.u,.u,.u,.u,eM,bX,bX] 14,[.arr 1800004 dA]⟩
def akD:SP:=⟨us [.u,.u,.u,.u,ec] 23,[.arr 1800004 dA]⟩
def ak3:SP:=⟨us [.u,.u,.u,.u,eJ] 23,[]⟩
def afc {g:Type} (l:Int->(List gQ)->Int->Int->iG->Option g) (m o:iG->Option g) (i:Int) (e:List gQ) (j d:Int) (f:iG):Option g:=cond (iF d j) (cond (gy e d) (cond (bY (ed e (0,(0,(0,(0,())))) d).2.2.2.1 i) (cond (eu (bU f [d]) 8) (l i e j (cO .i64 d 1) (bU f [d])) a7)<|l i e j (cO .i64 d 1) f) a7)<|m f
def WO:Nat->Int->(List gQ)->Int->Int->iG->Option (akD.den⊕ak3.den)
 |0,_,_,_,_,_=>a7
 |n+1,d,e,f,g,i=>afc (WO n) (fun j=>a6 (.inl ((),(j,())))) (fun l=>a6 (.inr ((l,()),()))) d e f g i
def aIg (n:Nat) (v:aoj.den):=bc (WO n) v
noncomputable def axM:dD:=gu aE2 aoj akD ak3 (.exit 0) (aIg bT) 6
def aBS (d:List gQ) (e:Int):Option (iG×Unit):=bJ (aB1 d e) fun f=>cond (!f.1) (a6 ([],()))<|bJ (WO bT e d (bK d) 0 []) fun g=>dR g (fun i=>a6 (i.2.1,())) (fun j=>a6 (j.1.1,()))
def aFF:Sum:=⟨[.list o8,dA],[(.list dA,false)],fun x=>aBS x.1 x.2.1⟩
noncomputable def avf:Env:=jm prog tt 61 [(99,aFV)] [(4,aE2)] [(4,axM)]
def ayS {d:Type} (a:aoj.den->Option d) (b:akD.den->Option d) (c:ak3.den->Option d) (v:aoj.den):Option d:=bc (afc (fun e f g i j=>a ((e,f,g,i,()),(j,()))) (fun l=>b ((),(l,()))) (aE c)) v
theorem aIR:dX avf 61 aEw axM:=yu (ayS) (h2:=by intros;simp only[ayS,aE,bc,afc,dm,dn,bI,di,dw])
theorem aMy:dO avf 61 b61:=pI [aEw] (aD (fM (aIR)) aN)
theorem avg:fK avf:=eA f61 (aD aAC aN) (aMy)
theorem aAl:dU prog 61 aFF:=sA avg
noncomputable def b95:Code:=(f95.body).getD .skip
noncomputable def aEG:Code:=cA (cA (cB (cA (cB (cB (b95))))))
def aE8:fJ:=⟨[0,2,6,7,13,14,15,100003],[],[6,7],[],[6,7],[]⟩
def aou:SP:=⟨us [eM,.u,bX,.u,.u,.u,bX,bX,.u,.u,.u,.u,.u,eJ,bX,bX] 22,[]⟩
def akO:SP:=⟨us eg 30,[]⟩
def ale:SP:=⟨us eg 30,[]⟩
def afj {o:Type} (l:(List gQ)->Int->Int->Int->iG->Int->Int->Option o) (p q:Int->Int->Option o) (f:List gQ) (i g m:Int) (e:iG) (j d:Int):Option o:=cond (iF d j) (cond (gy e d) (cond (iF (ed e 0 d) i) (cond (gy f (ed e 0 d)) (cond (bY (ed f (0,(0,(0,(0,())))) (ed e 0 d)).1 7) (cond (bY g 0) (l f i (cO .i64 g 1) (ed e 0 d) e j (cO .i64 d 1))<|l f i (cO .i64 g 1) m e j (cO .i64 d 1))<|l f i g m e j (cO .i64 d 1)) a7)<|l f i g m e j (cO .i64 d 1)) a7)<|p g m
def WU:Nat->(List gQ)->Int->Int->Int->iG->Int->Int->Option (akO.den⊕ale.den)
 |0,_,_,_,_,_,_,_=>a7
 |n+1,d,e,f,g,i,j,l=>afj (WU n) (fun m o=>a6 (.inl ((m,o,()),()))) (fun p q=>a6 (.inr ((p,q,()),()))) d e f g i j l
def aIr (n:Nat) (v:aou.den):=WU n v.1.1 v.1.2.1 v.1.2.2.1 v.1.2.2.2.1 v.1.2.2.2.2.1 v.1.2.2.2.2.2.1 v.1.2.2.2.2.2.2.1
noncomputable def axW:dD:=gu aE8 aou akO ale (.exit 0) (aIr bT) 6
def awm (d:List gQ) (j e:Int):Option lL:=bJ (aBS d j) fun f=>bJ (WU bT d e 0 e f.1 (bK f.1) 0) fun l=>dR l (fun g=>a6 (g.1.1,(g.1.2.1,()))) (fun i=>a6 (i.1.1,(i.1.2.1,())))
def aFS:Sum:=⟨[.list o8,dA,dA],tzJ,fun x=>awm x.1 x.2.1 x.2.2.1⟩
noncomputable def avA:Env:=jm prog tt 95 [(61,aFF)] [(3,aE8)] [(3,axW)]
def ay3 {d:Type} (a:aou.den->Option d) (b:akO.den->Option d) (c:ale.den->Option d) (v:aou.den):Option d:=afj (fun e f g i j l m=>a ((e,f,g,i,j,l,m,()),())) (aL b) (aL c) v.1.1 v.1.2.1 v.1.2.2.1 v.1.2.2.2.1 v.1.2.2.2.2.1 v.1.2.2.2.2.2.1 v.1.2.2.2.2.2.2.1
theorem aI2:dX avA 95 aEG axW:=yu (ay3) (h2:=by intros;simp only[ay3,aL,afj,dm,dn,bI,di,dw])
theorem aMK:dO avA 95 b95:=pI [aEG] (aD (fM (aI2)) aN)
theorem avC:fK avA:=eA f95 (aD aAl aN) (aMK)
theorem aAz:dU prog 95 aFS:=sA avC
noncomputable def b96:Code:=(f96.body).getD .skip
noncomputable def aEH:Code:=cA (cA (cB (cA (cB (b96)))))
def aE9:fJ:=⟨[12,13,14,100002],[],[],[],[4],[]⟩
def aov:SP:=⟨us [.u,.u,.u,.u,.u,.u,.u,.u,.u,.u,.u,.u,.v ru,bX,bX] 10,[]⟩
def akP:SP:=⟨us [] 25,[]⟩
def alf:SP:=⟨us cW 20,[]⟩
def afk {e:Type} (i:(List gJ)->Int->Int->Option e) (j:Option e) (l:Int->Option e) (f:List gJ) (g d:Int):Option e:=cond (iF d g) (cond (gy f d) (cond (bY (ed f (0,([],(0,(0,())))) d).1 4) (bJ (ab8 (ed f (0,([],(0,(0,())))) d).2.1) fun m=>l m.1)<|i f g (cO .i64 d 1)) a7) j
def Qn:Nat->(List gJ)->Int->Int->Option (akP.den⊕alf.den)
 |0,_,_,_=>a7
 |n+1,d,e,f=>afk (Qn n) (a6 (.inl ((),()))) (fun g=>a6 (.inr ((g,()),()))) d e f
def aIs (n:Nat) (v:aov.den):=ba (Qn n) v
noncomputable def axX:dD:=gu aE9 aov akP alf (.exit 0) (aIs bT) 6
def aBZ (e:List gJ) (d:gQ):Option AQ:=cond (eY (bK e) d.2.1 d.2.2.1) (bJ (Qn bT (sub e d.2.1 d.2.2.1) (bK (sub e d.2.1 d.2.2.1)) 0) fun f=>dR f (fun i=>a6 (0,())) (fun g=>a6 (g.1.1,()))) a7
def aFT:Sum:=⟨[ru,o8],U7,fun x=>aBZ x.1 x.2.1⟩
noncomputable def avD:Env:=jm prog tt 96 [(59,aAk)] [(2,aE9)] [(2,axX)]
def ay4 {d:Type} (a:aov.den->Option d) (b:akP.den->Option d) (c:alf.den->Option d) (v:aov.den):Option d:=ba (afk (fun e f g=>a ((e,f,g,()),())) (b ((),())) (aE c)) v
theorem aI3:dX avD 96 aEH axX:=yu (ay4) (h2:=by intros;simp only[ay4,aE,ba,afk,dm,dn,bI,di,dw])
theorem aML:dO avD 96 b96:=pI [aEH] (aD (fM (aI3)) aN)
theorem avE:fK avD:=eA f96 (aD Px aN) (aML)
theorem aAA:dU prog 96 aFT:=sA avE
noncomputable def b88:Code:=(f88.body).getD .skip
noncomputable def aED:Code:=cA (cA (cB (cA (cB (cB (b88))))))
def aE6:fJ:=⟨[0,3,4,100003],[(3,MR)],[3],[],[2],[(2,MR)]⟩
def aor:SP:=⟨us [b9,.u,.u,.slc 1800003,bX] 20,[.arr 1800003 MR]⟩
def akL:SP:=⟨us [.u,.u,.u,.slc 1800003] 21,[.arr 1800003 MR]⟩
def alb:SP:=⟨us [.u,.u,eK] 22,[]⟩
def afg {e:Type} (j:bV->Int->(List sQ)->Option e) (l m:(List sQ)->Option e) (f:bV) (i:Int) (g:List sQ):Option e:=cond (iF i (bK f)) (bJ (agm f i (0,([],(false,())))) fun d=>cond (bY d.1.2.2.1 d.1.2.2.1) (cond (eu (bU g [(d.1.1,(d.1.2.1,(d.1.2.2.1,(d.1.2.2.2.1,()))))]) 32) (cond ((bY d.1.1 d.1.1)&&((bY d.1.2.1 d.1.2.1)&&((bY d.1.2.2.1 d.1.2.2.1)&&((jM d.1.2.2.2.1 d.1.2.2.2.1)&&true)))) (cond (bY d.1.2.2.1 d.1.2.2.1) (cond (bY d.1.2.2.1 d.1.2.2.1) (j f d.1.2.2.1 (bU g [(d.1.1,(d.1.2.1,(d.1.2.2.1,(d.1.2.2.2.1,()))))])) a7) a7) a7) a7) a7)<|l g
def Qm:Nat->bV->Int->(List sQ)->Option (akL.den⊕alb.den)
 |0,_,_,_=>a7
 |n+1,d,e,f=>afg (Qm n) (fun g=>a6 (.inl ((),(g,())))) (fun i=>a6 (.inr ((i,()),()))) d e f
def aIo (n:Nat) (v:aor.den):=Qm n v.1.1 v.1.2.1 v.2.1
noncomputable def axT:dD:=gu aE6 aor akL alb (.exit 0) (aIo bT) 6
def aBX (d:bV):Option ((List sQ)×Unit):=bJ (Qm bT d 0 []) fun e=>dR e (fun f=>a6 (f.2.1,())) (fun g=>a6 (g.1.1,()))
def aFP:Sum:=⟨[.str],[(.list MR,false)],fun x=>aBX x.1⟩
noncomputable def avv:Env:=jm prog tt 88 [(105,aly)] [(3,aE6)] [(3,axT)]
def ay0 {d:Type} (a:aor.den->Option d) (b:akL.den->Option d) (c:alb.den->Option d) (v:aor.den):Option d:=afg (fun e f g=>a ((e,f,()),(g,()))) (fun i=>b ((),(i,()))) (aE c) v.1.1 v.1.2.1 v.2.1
theorem aIZ:dX avv 88 aED axT:=yu (ay0) (h2:=by intros;simp only[ay0,aE,afg,dm,dn,bI,di,dw])
theorem aMH:dO avv 88 b88:=pI [aED] (aD (fM (aIZ)) aN)
theorem avw:fK avv:=eA f88 (aD aaL aN) (aMH)
theorem aAw:dU prog 88 aFP:=sA avw
end
section
open Option renaming some → a6, none → a7
open Tryz
open Go.RowKit
noncomputable def b56:Code:=(f56.body).getD .skip
noncomputable def aiP:Code:=(f91.body).getD .skip
noncomputable def abo:Code:=(Tryz.f138.body).getD .skip
noncomputable def abp:Code:=(Tryz.f143.body).getD .skip
noncomputable def afS:Code:=cA (cA (cB (cA (cB (cB (aiP))))))
noncomputable def ZC:Code:=cA (cA (cB (cA (cB (cB (cB (cA (cB (abo)))))))))
noncomputable def ZE:Code:=cA (cA (cB (cA (cB (cB (cB (cB (abp))))))))
def axf:fJ:=⟨[2,3,4],[],[],[],[],[]⟩
def aHb:fJ:=⟨[0,2,3,4],[],[],[],[],[]⟩
def aHc:fJ:=⟨[4,5],[],[],[],[],[]⟩
def OE:SQ:=⟨en,eC,[ce,cq,ct,cV,cY,dj]⟩
def Qy:SQ:=⟨us [.u,.u,.u,db] 28,eC,[ce,cq,ct,cV,cY,dj]⟩
def QC:SQ:=⟨us [] 32,eC,[]⟩
def JK {e:Type} (u:(List iM)->Int->Int->bV->bV->bV->(List iM)->(List lW)->iG->Bool->bV->Option e) (v:bV->bV->bV->(List iM)->(List lW)->iG->Bool->bV->Option e) (x:bV->bV->Option e) (f:List iM) (g d:Int) (i j l:bV) (m:List iM) (o:List lW) (p:iG) (q:Bool) (s:bV):Option e:=cond (iF d g) (cond (gy f d) (u f g (cO .i64 d 1) i j l m (xe o (ed f (0,(0,(0,(0,(false,()))))) d).2.1 (cO .i64 d 1)) p q s) a7)<|v i j l m o p q s
def zh:Nat->(List iM)->Int->Int->bV->bV->bV->(List iM)->(List lW)->iG->Bool->bV->Option (Qy.den⊕QC.den)
 |0,_,_,_,_,_,_,_,_,_,_,_=>a7
 |n+1,d,e,f,g,i,j,l,m,o,p,q=>JK (zh n) (fun s u v x y z A B=>a6 (.inl ((),((s,u,()),(),()),((v,x,()),y,(),z,(A,()),(B,()),())))) (fun D E=>a6 (.inr ((),((D,E,()),(),()),()))) d e f g i j l m o p q
def arJ (n:Nat) (v:OE.den):=zh n v.1.1 v.1.2.1 v.1.2.2.1 v.2.1.1.1 v.2.1.1.2.1 v.2.2.1.1 v.2.2.1.2.1 v.2.2.2.1 v.2.2.2.2.2.1 v.2.2.2.2.2.2.1.1 v.2.2.2.2.2.2.2.1.1
noncomputable def aae:dD:=fP Ja OE Qy QC (.exit 0) (arJ bT) 6
def Jz:SQ:=⟨us [db,.u,.yld 1700009,.u,.u,.u,.u,.u,bX,.slc 4800009,cf,bX] 83,[bS,ca,de,[]],co⟩
def FI:SQ:=⟨us [.u,.u,.yld 1700009,.u,.u,.u,.u,.u,.u,.slc 4800009,cf] 84,[bS,ca,de,[]],co⟩
def FN:SQ:=⟨us [.u,.u,.u,.u,.u,.u,.kb false] 88,[bS,ca,de,[]],[fp,dk,eN,fq,ce,cq,cm,.lp 1700009 56 (ca) [9] 4 1 (a6 .ret),cV,ct,.box 1000003 4 [.kb false],dj]⟩
def gq (d:List iM) (e:List lW) (f:Int):=ed d (0,(0,(0,(0,(false,()))))) (eP .i64 (nV e f) 1)
def jo (d:bV) (e:List iM) (f:List lW) (g:Int):=cu d (cO .i64 (gq e f g).2.1 1)
def qO {i:Type} (j:iG) (f:bV) (d:List iM) (e:List lW) (g:Int) (l:Int->Bool->Int->Int->iM->iG->Int->Int->Int->Int->Bool->iG->bV->(List iM)->(List lW)->iG->Bool->bV->Option i) (m:Int) (o:Bool) (p:Int) (q:iM) (s u v x:Int) (y:Bool) (z A:iG) (B:Bool) (D:bV):Option i:=cond (eu (bU j (cZ (ofBytes [(jo f d e g)]))) 1) (l m o (gq d e g).2.2.1 p q (bU j (cZ (ofBytes [(jo f d e g)]))) s u v x y z f d e A B D) a7
def qP {j:Type} (g:bV) (d:List iM) (e:List lW) (f:Int) (i:iG) (l:Int->Bool->Int->Int->iM->iG->Int->Int->Int->Int->Bool->iG->bV->(List iM)->(List lW)->iG->Bool->bV->Option j) (m:Int) (o:Bool) (p:Int) (q:iM) (s u v x:Int) (y:Bool) (z A:iG) (B:Bool) (D:bV):Option j:=cond (bY (jo g d e f) 10) (cond (eu (bU i (cZ [])) 1) (l m o (gq d e f).2.2.1 p q (bU i (cZ [])) s u v x y z g d e A B D) a7)<|cond (eY (bK g) (gq d e f).2.1 (gq d e f).2.2.1) (cond (eu (bU i (cZ (sub g (gq d e f).2.1 (gq d e f).2.2.1))) 1) (l m o (gq d e f).2.2.1 p q (bU i (cZ (sub g (gq d e f).2.1 (gq d e f).2.2.1))) s u v x y z g d e A B D) a7) a7
def Gg {D:Type} (B:Int->Bool->Int->Int->iM->iG->Int->Int->Int->Int->Bool->iG->bV->(List iM)->(List lW)->iG->Bool->bV->Option D) (G:Bool->Int->iM->iG->Int->Int->Int->Int->Bool->iG->bV->(List iM)->(List lW)->iG->Bool->bV->Option D) (E:Int->iM->Int->Int->Int->Int->Bool->iG->bV->(List iM)->(List lW)->iG->bV->Option D) (x:Int) (y:Bool) (d l:Int) (m:iM) (i:iG) (o p q s:Int) (u:Bool) (v:iG) (g:bV) (f:List iM) (e:List lW) (j:iG) (z:Bool) (A:bV):Option D:=cond (iF d x) (cond (bY (nV e d) 0) (cond (gy g d) (cond (eu (bU i [(cu g d)]) 1) (B x y (cO .i64 d 1) l m (bU i [(cu g d)]) o p q s u v g f e j z A) a7) a7)<|cond (gy f (eP .i64 (nV e d) 1)) (bJ (V5 ((gq f e d).1,((gq f e d).2.1,((gq f e d).2.2.1,((gq f e d).2.2.2.1,((gq f e d).2.2.2.2.1,())))))) fun I=>cond I.1 (cond (gy g d) (cond (eu (bU i [(cu g d)]) 1) (B x y (cO .i64 d 1) l m (bU i [(cu g d)]) o p q s u v g f e j z A) a7) a7)<|cond (bY (gq f e d).1 13) (cond (iF (eP .i64 (gq f e d).2.2.1 (gq f e d).2.1) 2) (cond (eu (bU i (cZ [])) 1) (B x y (gq f e d).2.2.1 l m (bU i (cZ [])) o p q s u v g f e j z A) a7)<|cond (gy g (cO .i64 (gq f e d).2.1 1)) (cond (bY (jo g f e d) 36) (cond (bY (jo g f e d) 36) (qO i g f e d B x y l m o p q s u v j z A)<|qP g f e d i B x y l m o p q s u v j z A)<|cond (bY (jo g f e d) 96) (cond (bY (jo g f e d) 96) (qO i g f e d B x y l m o p q s u v j z A)<|qP g f e d i B x y l m o p q s u v j z A)<|cond (bY (jo g f e d) 34) (cond (bY (jo g f e d) 34) (qO i g f e d B x y l m o p q s u v j z A)<|qP g f e d i B x y l m o p q s u v j z A)<|cond (bY (jo g f e d) 92) (qO i g f e d B x y l m o p q s u v j z A)<|qP g f e d i B x y l m o p q s u v j z A) a7)<|cond (iF 0 (bK i)) (cond (eu (bU j (cZ (ofBytes i))) 1) (cond (eY (bK g) (gq f e d).2.1 (gq f e d).2.2.1) (E l m o p q s u v g f e (bU j (cZ (ofBytes i))) []) a7) a7)<|cond (eY (bK g) (gq f e d).2.1 (gq f e d).2.2.1) (E l m o p q s u v g f e j []) a7) a7)<|G y l m i o p q s u v g f e j z A
def ql:Nat->Int->Bool->Int->Int->iM->iG->Int->Int->Int->Int->Bool->iG->bV->(List iM)->(List lW)->iG->Bool->bV->Option (FI.den⊕FN.den)
 |0,_,_,_,_,_,_,_,_,_,_,_,_,_,_,_,_,_,_=>a7
 |n+1,d,e,f,g,i,j,l,m,o,p,q,s,u,v,x,y,z,A=>Gg (ql n) (fun B D E G I J K L M N O S U V W X=>a6 (.inl ((B,()),((D,E,()),(),(),(),()),(G,(I,J,K,L,M,()),N,(),(),(O,S,()),U,(),(),V,(),(W,()),(X,()),())))) (fun Y Z r2 r3 r4 r5 r6 r7 r8 r9 ab ad ae=>a6 (.inr ((),((Y,Z,()),(),(),(),()),((r2,r3,r4,r5,r6,()),r7,(),(),(r8,r9,()),ab,(),(),ad,(),(),(ae,()),())))) d e f g i j l m o p q s u v x y z A
def akf (n:Nat) (v:Jz.den):=bB (ql n) v
noncomputable def W9:dD:=fP EW Jz FI FN (.exit 0) (akf bT) 12
def Jy:SQ:=⟨us [.u,dz,fj,eE,cx,bX] 106,[ca,de,[]],cG⟩
def FH:SQ:=⟨us [.u,.u,.u,.u,cx] 107,[ca,de,[]],cG⟩
def FM:SQ:=⟨us [] 112,[ca,de,[]],[ce,cq,cm,.lp 1700009 56 (ca) [9] 4 1 (a6 .ret),cV,ct,cY,dj]⟩
def dH (d:List iM) (e:List lW) (f:Int):=ed d (0,(0,(0,(0,(false,()))))) (eP .i64 (nV e f) 1)
def uy (d:List iM) (e:List lW) (f:Int):=agw ((dH d e f).1,((dH d e f).2.1,((dH d e f).2.2.1,((dH d e f).2.2.2.1,((dH d e f).2.2.2.2.1,())))))
def mO (g:bV) (d:List iM) (e:List lW) (f:Int):=sub g (cO .i64 (dH d e f).2.1 1) (dH d e f).2.2.1
def yR {i:Type} (g:bV) (d:List iM) (e:List lW) (f:Int) (j:iG) (l:Int->iG->bV->(List iM)->(List lW)->iG->Bool->bV->Option i) (m:iG) (o:Bool) (p:bV):Option i:=cond (eY (bK g) (dH d e f).2.1 (dH d e f).2.2.1) (cond (eu (bU j (cZ (sub g (dH d e f).2.1 (dH d e f).2.2.1))) 1) (l (dH d e f).2.2.1 (bU j (cZ (sub g (dH d e f).2.1 (dH d e f).2.2.1))) g d e m o p) a7) a7
def yS {q:Type} (d:List iM) (e:List lW) (g:Int) (f:bV) (j i:iG) (m:Int->iG->bV->(List iM)->(List lW)->iG->Bool->bV->Option q) (o:Bool) (p:bV):Option q:=cond (bY (dH d e g).1 4) (bJ (uy d e g) fun l=>cond (eY (bK f) l.1 l.2.1) (cond (gp (ofBytes j) []) (cond (eu (bU i (cZ (sub f l.1 l.2.1))) 1) (m (dH d e g).2.2.1 [] f d e (bU i (cZ (sub f l.1 l.2.1))) o p) a7)<|cond (eu (bU i (cZ (ofBytes j))) 1) (cond (eu (bU (bU i (cZ (ofBytes j))) (cZ (sub f l.1 l.2.1))) 1) (m (dH d e g).2.2.1 [] f d e (bU (bU i (cZ (ofBytes j))) (cZ (sub f l.1 l.2.1))) o p) a7) a7) a7)<|cond (eY (bK f) (cO .i64 (dH d e g).2.1 1) (dH d e g).2.2.1) (cond (!(gp (mO f d e g) [])) (cond (!(gp (mO f d e g) [10])) (cond (gp (ofBytes j) []) (cond (eu (bU i (cZ (mO f d e g))) 1) (m (dH d e g).2.2.1 [] f d e (bU i (cZ (mO f d e g))) o p) a7)<|cond (eu (bU i (cZ (ofBytes j))) 1) (cond (eu (bU (bU i (cZ (ofBytes j))) (cZ (mO f d e g))) 1) (m (dH d e g).2.2.1 [] f d e (bU (bU i (cZ (ofBytes j))) (cZ (mO f d e g))) o p) a7) a7)<|m (dH d e g).2.2.1 j f d e i o p)<|m (dH d e g).2.2.1 j f d e i o p) a7
def yT {f:Type} (i:FI.den⊕FN.den) (g:Int->iG->bV->(List iM)->(List lW)->iG->Bool->bV->Option f) (j:bV->(List iM)->(List lW)->iG->Bool->bV->Option f):Option f:=dR i (fun d=>cond (bY (bK d.2.2.1) 0) (cond d.1.1 (g d.2.1.1.1 [] d.2.2.2.2.2.2.2.1.1 d.2.2.2.2.2.2.2.1.2.1 d.2.2.2.2.2.2.2.2.1 d.2.2.2.2.2.2.2.2.2.2.2.1 d.2.2.2.2.2.2.2.2.2.2.2.2.2.1.1 d.2.2.2.2.2.2.2.2.2.2.2.2.2.2.1.1)<|cond (eu (bU d.2.2.2.2.2.2.2.2.2.2.2.1 (cZ (ofBytes d.2.2.1))) 1) (g d.2.1.1.1 [] d.2.2.2.2.2.2.2.1.1 d.2.2.2.2.2.2.2.1.2.1 d.2.2.2.2.2.2.2.2.1 (bU d.2.2.2.2.2.2.2.2.2.2.2.1 (cZ (ofBytes d.2.2.1))) d.2.2.2.2.2.2.2.2.2.2.2.2.2.1.1 d.2.2.2.2.2.2.2.2.2.2.2.2.2.2.1.1) a7)<|cond (eu (bU d.2.2.2.2.2.2.2.2.2.2.2.1 (cZ (ofBytes d.2.2.1))) 1) (g d.2.1.1.1 [] d.2.2.2.2.2.2.2.1.1 d.2.2.2.2.2.2.2.1.2.1 d.2.2.2.2.2.2.2.2.1 (bU d.2.2.2.2.2.2.2.2.2.2.2.1 (cZ (ofBytes d.2.2.1))) d.2.2.2.2.2.2.2.2.2.2.2.2.2.1.1 d.2.2.2.2.2.2.2.2.2.2.2.2.2.2.1.1) a7) (fun e=>j e.2.2.2.2.2.2.1.1 e.2.2.2.2.2.2.1.2.1 e.2.2.2.2.2.2.2.1 e.2.2.2.2.2.2.2.2.2.2.1 false e.2.2.2.2.2.2.2.2.2.2.2.2.2.1.1)
def yU {o:Type} (d:List iM) (e:List lW) (f:Int) (g:iG) (i:bV) (j:iG) (q:Bool) (s:bV) (u:Int->iG->bV->(List iM)->(List lW)->iG->Bool->bV->Option o) (m:bV->(List iM)->(List lW)->iG->Bool->bV->Option o):Option o:=cond (bY (dH d e f).1 5) (cond (gp (ofBytes g) []) (bJ (uy d e f) fun l=>bJ (ql bT l.2.1 false l.1 (dH d e f).2.2.1 ((dH d e f).1,((dH d e f).2.1,((dH d e f).2.2.1,((dH d e f).2.2.2.1,((dH d e f).2.2.2.2.1,()))))) [] (dH d e f).1 (dH d e f).2.1 (dH d e f).2.2.1 (dH d e f).2.2.2.1 (dH d e f).2.2.2.2.1 g i d e j q s) fun p=>yT p u m)<|cond (eu (bU j (cZ (ofBytes g))) 1) (bJ (uy d e f) fun l=>bJ (ql bT l.2.1 false l.1 (dH d e f).2.2.1 ((dH d e f).1,((dH d e f).2.1,((dH d e f).2.2.1,((dH d e f).2.2.2.1,((dH d e f).2.2.2.2.1,()))))) [] (dH d e f).1 (dH d e f).2.1 (dH d e f).2.2.1 (dH d e f).2.2.2.1 (dH d e f).2.2.2.2.1 g i d e (bU j (cZ (ofBytes g))) q s) fun p=>yT p u m) a7)<|cond (gp (ofBytes g) []) (cond (eY (bK i) (dH d e f).2.1 (dH d e f).2.2.1) (m i d e j false []) a7)<|cond (eu (bU j (cZ (ofBytes g))) 1) (cond (eY (bK i) (dH d e f).2.1 (dH d e f).2.2.1) (m i d e (bU j (cZ (ofBytes g))) false []) a7) a7
def yV {p:Type} (d:List iM) (e:List lW) (f:Int) (g:bV) (i j:iG) (l:Int->iG->bV->(List iM)->(List lW)->iG->Bool->bV->Option p) (m:Bool) (o:bV) (q:bV->(List iM)->(List lW)->iG->Bool->bV->Option p):Option p:=cond (bY (dH d e f).1 13) (cond (bY (dH d e f).1 13) (yS d e f g i j l m o)<|yU d e f i g j m o l q)<|cond (bY (dH d e f).1 4) (yS d e f g i j l m o)<|yU d e f i g j m o l q
def Gf {p:Type} (o:Int->iG->bV->(List iM)->(List lW)->iG->Bool->bV->Option p) (u:iG->bV->(List iM)->(List lW)->iG->Bool->bV->Option p) (q:bV->(List iM)->(List lW)->iG->Bool->bV->Option p) (d:Int) (i:iG) (e:bV) (g:List iM) (f:List lW) (j:iG) (l:Bool) (m:bV):Option p:=cond (iF d (bK e)) (cond (bY (nV f d) 0) (cond (gy e d) (cond (gp e e) (cond (bY d d) (cond (eu (bU i [(cu e d)]) 1) (cond (gp e e) (cond (bY d d) (cond (gy e d) (cond (bY (cu e d) (cu e d)) (o (cO .i64 d 1) (bU i [(cu e d)]) e g f j l m) a7) a7) a7) a7) a7) a7) a7) a7)<|cond (gy g (eP .i64 (nV f d) 1)) (bJ (V5 ((dH g f d).1,((dH g f d).2.1,((dH g f d).2.2.1,((dH g f d).2.2.2.1,((dH g f d).2.2.2.2.1,())))))) fun s=>cond s.1 (cond s.1 (yR e g f d i o j l m)<|yV g f d e i j o l m q)<|cond (bY (dH g f d).1 14) (yR e g f d i o j l m)<|yV g f d e i j o l m q) a7)<|u i e g f j l m
def kX:Nat->Int->iG->bV->(List iM)->(List lW)->iG->Bool->bV->Option (FH.den⊕FM.den)
 |0,_,_,_,_,_,_,_,_=>a7
 |n+1,d,e,f,g,i,j,l,m=>Gf (kX n) (fun o p q s u v x=>a6 (.inl ((),((),(),(),()),(o,(),(),(p,q,()),s,(),(),u,(),(v,()),(x,()),())))) (fun y z A B D E=>a6 (.inr ((),((),(),(),()),((y,z,()),A,(),(),B,(),(D,()),(E,()),())))) d e f g i j l m
def ake (n:Nat) (v:Jy.den):=kX n v.1.1 v.2.2.1 v.2.2.2.2.2.1.1 v.2.2.2.2.2.1.2.1 v.2.2.2.2.2.2.1 v.2.2.2.2.2.2.2.2.2.1 v.2.2.2.2.2.2.2.2.2.2.2.1.1 v.2.2.2.2.2.2.2.2.2.2.2.2.1.1
noncomputable def WZ:dD:=fP EU Jy FH FM (.exit 0) (ake bT) 18
def TA (f:bV):Option (bV×Bool×Unit):=bJ (arh f) fun g=>bJ (zh bT g.1 (bK g.1) 0 f f f g.1 [] [] false []) fun i=>dR i (fun e=>bJ (kX bT 0 [] e.2.2.1.1 e.2.2.1.2.1 e.2.2.2.1 e.2.2.2.2.2.1 e.2.2.2.2.2.2.1.1 e.2.2.2.2.2.2.2.1.1) fun j=>dR j (fun d=>cond (gp (ofBytes d.2.2.1) []) (cond (bY (bK d.2.2.2.2.2.2.2.2.2.1) (bK d.2.2.2.2.2.2.2.2.2.1)) (a6 ((ofBytes d.2.2.2.2.2.2.2.2.2.1),(true,()))) a7)<|cond (eu (bU d.2.2.2.2.2.2.2.2.2.1 (cZ (ofBytes d.2.2.1))) 1) (cond (bY (bK (bU d.2.2.2.2.2.2.2.2.2.1 (cZ (ofBytes d.2.2.1)))) (bK (bU d.2.2.2.2.2.2.2.2.2.1 (cZ (ofBytes d.2.2.1))))) (a6 ((ofBytes (bU d.2.2.2.2.2.2.2.2.2.1 (cZ (ofBytes d.2.2.1)))),(true,()))) a7) a7) (fun b4=>a6 (b4.2.2.2.2.2.2.2.2.2.1.1,(b4.2.2.2.2.2.2.2.2.1.1,())))) (fun l=>a7)
def aAi:Sum:=⟨[.str],[(.str,false),(.bool,false)],fun x=>TA x.1⟩
noncomputable def Rz:Env:=gY prog tt [(90,aAx),(141,alC),(183,alF)] [(91,3,Ja),(138,4,EU),(143,5,EW),(56,500004,axf),(56,600002,aHb),(56,600006,aHc),(56,600007,axf),(138,600005,RX),(138,600016,qH),(138,600017,NT),(138,600019,qH),(138,600010,qH),(138,600020,ajR),(139,600003,RY),(143,600006,RZ),(143,600016,NU),(143,600007,Si),(143,600009,Sj),(143,600020,NV),(20,600001,zV)] [(91,3,aae),(143,5,W9),(138,4,WZ)] [56]
def aaD {d:Type} (a:OE.den->Option d) (b:Qy.den->Option d) (c:QC.den->Option d) (v:OE.den):Option d:=JK (fun e f g i j l m o p q s=>a ((e,f,g,()),((i,j,()),(),()),((l,m,()),o,(),p,(q,()),(s,()),()))) (fun u x y z A B D E=>b ((),((u,x,()),(),()),((y,z,()),A,(),B,(D,()),(E,()),()))) (fun G I=>c ((),((G,I,()),(),()),())) v.1.1 v.1.2.1 v.1.2.2.1 v.2.1.1.1 v.2.1.1.2.1 v.2.2.1.1 v.2.2.1.2.1 v.2.2.2.1 v.2.2.2.2.2.1 v.2.2.2.2.2.2.1.1 v.2.2.2.2.2.2.2.1.1
theorem arP:dX Rz 91 afS aae:=mF (aaD) (h2:=by intros;simp only[aaD,JK,dm,dn,bI,di,dw])
def XZ {d:Type} (a:Jz.den->Option d) (b:FI.den->Option d) (c:FN.den->Option d) (v:Jz.den):Option d:=bB (Gg (fun e f g i j l m o p q s u x y z A B D=>a ((e,f,g,()),((i,j,()),(),(),(),()),(l,(m,o,p,q,s,()),u,(),(),(x,y,()),z,(),(),A,(),(B,()),(D,()),()))) (fun E G I J K L M N O S U V W X Y Z=>b ((E,()),((G,I,()),(),(),(),()),(J,(K,L,M,N,O,()),S,(),(),(U,V,()),W,(),(),X,(),(Y,()),(Z,()),()))) (fun r0 r1 r2 r3 r4 r5 r6 r7 r8 r9 ab ad ae=>c ((),((r0,r1,()),(),(),(),()),((r2,r3,r4,r5,r6,()),r7,(),(),(r8,r9,()),ab,(),(),ad,(),(),(ae,()),())))) v
theorem akn:dX Rz 143 ZE W9:=mF (XZ) (h2:=by intros;simp only[XZ,bB,Gg,dm,dn,bI,di,dw,gq,jo,qO,qP])
def XY {d:Type} (a:Jy.den->Option d) (b:FH.den->Option d) (c:FM.den->Option d) (v:Jy.den):Option d:=Gf (fun e f g i j l m o=>a ((e,()),((),(),(),()),(f,(),(),(g,i,()),j,(),(),l,(),(m,()),(o,()),()))) (fun p q s u x y z=>b ((),((),(),(),()),(p,(),(),(q,s,()),u,(),(),x,(),(y,()),(z,()),()))) (fun A B D E G I=>c ((),((),(),(),()),((A,B,()),D,(),(),E,(),(G,()),(I,()),()))) v.1.1 v.2.2.1 v.2.2.2.2.2.1.1 v.2.2.2.2.2.1.2.1 v.2.2.2.2.2.2.1 v.2.2.2.2.2.2.2.2.2.1 v.2.2.2.2.2.2.2.2.2.2.2.1.1 v.2.2.2.2.2.2.2.2.2.2.2.2.1.1
theorem akm:dX Rz 138 ZC WZ:=mF (XY) (h2:=by intros;simp only[XY,Gf,dm,dn,bI,di,dw,dH,uy,mO,yR,yS,yT,yU,yV])
theorem aMc:jF b56=[]:=by kernel_rfl
theorem aMY:kC b56=[(cA (cA (cB (cA (cB (cB (b56)))))),cB (cA (cB (cA (cB (cB (b56)))))))]:=by kernel_rfl
theorem aMv:dO Rz 56 b56:=sU b56 (by rw[aMY];exact(aD (fun _=>(show ut 56 4=a6 (cA (cA (cB (cA (cB (cB (b56)))))),cB (cA (cB (cA (cB (cB (b56))))))) by kernel_rfl)) aN)) (by rw[aMc];exact aN)
theorem axo:dO Rz 91 aiP:=pI [afS] (aD (fM (arP)) aN)
theorem arE:dO Rz 138 abo:=pI [ZC] (aD (fM (akm)) aN)
theorem arF:dO Rz 143 abp:=pI [ZE] (aD (fM (akn)) aN)
theorem avb:fK Rz:=eB (aD Yv (aD aaN (aD aaS aN))) [56,91,138,143] (aD ⟨f56,b56,by kernel_rfl,by kernel_rfl,aMv⟩ (aD ⟨f91,aiP,by kernel_rfl,by kernel_rfl,axo⟩ (aD ⟨Tryz.f138,abo,by kernel_rfl,by kernel_rfl,arE⟩ (aD ⟨Tryz.f143,abp,by kernel_rfl,by kernel_rfl,arF⟩ aN))))
theorem ain:dU prog 56 aAi:=sA avb
noncomputable def b57:Code:=(f57.body).getD .skip
noncomputable def aiQ:Code:=(f93.body).getD .skip
noncomputable def afT:Code:=cA (cA (cB (cA (cB (cB (aiQ))))))
noncomputable def pY:Code:=cB (cB (b57))
def ag0:fJ:=⟨[0,1,5,15,16,17,30000003],[(5,MR)],[0,1,5],[],[4],[]⟩
def sN:fJ:=⟨[4,6,7,900002],[(7,.pair .unit tyD)],[6],[],[6],[]⟩
def aHd:fJ:=⟨[0,2,4,6],[],[],[],[],[]⟩
def OG:SQ:=⟨us [cz,bX,.u,.u,.u,.slc 2800005,.u,.u,.u,.u,.u,.u,.u,.u,.u,eK,bX,bX] 36,cR,ej⟩
def Qz:SQ:=⟨us [cz,bX,.u,.u,.u,.slc 2800005] 48,cR,ej⟩
def QD:SQ:=⟨us [] 54,cR,[]⟩
def kD (d:List sQ) (e:Int):=ed d (0,(0,(0,(false,())))) e
def JL {f:Type} (Z:Int->(List sQ)->Int->Int->Int->Int->(List sQ)->Int->Int->Int->Int->bV->Bool->bV->Int->Int->Int->Int->Int->Int->bV->Bool->bV->Int->Int->bV->Int->Int->(List sQ)->Int->Int->Int->Bool->Bool->Option f) (kE:Int->Int->Int->(List sQ)->Int->Int->Int->Int->bV->Bool->bV->Int->Int->Int->Int->Int->Int->bV->Bool->bV->Int->Int->bV->Int->Int->(List sQ)->Int->Int->Int->Bool->Bool->Option f) (kR:Int->Int->Option f) (g:Int) (e:List sQ) (j d l m:Int) (i:List sQ) (o p q s:Int) (u:bV) (v:Bool) (x:bV) (y z A B D E:Int) (G:bV) (I:Bool) (J:bV) (K L:Int) (M:bV) (N O:Int) (S:List sQ) (U V W:Int) (X Y:Bool):Option f:=cond (iF d j) (cond (gy e d) (cond (leI (kD e d).2.2.1 g) (cond (eu (bU i [((kD e d).1,((kD e d).2.1,((kD e d).2.2.1,((kD e d).2.2.2.1,()))))]) 32) (Z g e j (cO .i64 d 1) l m (bU i [((kD e d).1,((kD e d).2.1,((kD e d).2.2.1,((kD e d).2.2.2.1,()))))]) o p q s u v x y z A B D E G I J K L M N O S U V W X Y) a7)<|Z g e j (cO .i64 d 1) l m i o p q s u v x y z A B D E G I J K L M N O S U V W X Y) a7)<|kE g l m i o p q s u v x y z A B D E G I J K L M N O S U V W X Y
def zi:Nat->Int->(List sQ)->Int->Int->Int->Int->(List sQ)->Int->Int->Int->Int->bV->Bool->bV->Int->Int->Int->Int->Int->Int->bV->Bool->bV->Int->Int->bV->Int->Int->(List sQ)->Int->Int->Int->Bool->Bool->Option (Qz.den⊕QD.den)
 |0,_,_,_,_,_,_,_,_,_,_,_,_,_,_,_,_,_,_,_,_,_,_,_,_,_,_,_,_,_,_,_,_,_,_=>a7
 |n+1,d,e,f,g,i,j,l,m,o,p,q,s,u,v,x,y,z,A,B,D,E,G,I,J,K,L,M,N,O,S,U,V,W,X=>JL (zi n) (fun Y Z e2 e3 e4 e5 e6 e7 e8 e9 ab ad ae af ag ah ai aj ak al an ao au av aw ax ay az aA aB aF=>a6 (.inl ((Y,()),((Z,e2,()),(),()),(e3,(e4,e5,e6,e7,e8,e9,ab,ad,ae,()),(af,ag,ah,ai,aj,ak,al,an,ao,()),(au,av,aw,ax,ay,az,aA,aB,aF,()),())))) (fun r0 r1=>a6 (.inr ((),((r0,r1,()),(),()),()))) d e f g i j l m o p q s u v x y z A B D E G I J K L M N O S U V W X
def arK (n:Nat) (v:OG.den):=bE (zi n) v
noncomputable def aaf:dD:=fP ag0 OG Qz QD (.exit 0) (arK bT) 6
def LX:SQ:=⟨us [.u,.u,.u,.u,cH,.u,d5,.v ru] 99,dy,[fy,.box 1000004 29 cE,.box 0 90 cM]⟩
def xg:SQ:=⟨[],dy,[]⟩
def xk:SQ:=⟨us [.u,.u,.u,.u,.u,.u,d5] 100,dy,[fy,.box 0 90 cM]⟩
def wE {D:Type} (d:((List gQ)×Unit)) (E:AQ) (I:List gJ) (e:Int->Int->Int->Int->bV->Bool->bV->Int->Int->bV->Int->Int->(List sQ)->Int->Int->Int->Bool->Bool->Option D) (f g i:Int) (j:bV) (l:Bool) (m:bV) (o p:Int) (q:bV) (s u:Int) (v:List sQ) (x y z:Int) (A B:Bool):Option D:=cond (gy d.1 (ed d.1 (0,(0,(0,(0,())))) E.1).2.2.2.1) (bJ (aBZ I (ed d.1 (0,(0,(0,(0,())))) (ed d.1 (0,(0,(0,(0,())))) E.1).2.2.2.1)) fun G=>cond (bY G.1 4) (e f 4 g i j l m o p q s u v x y z A B)<|cond (bY G.1 5) (e f 4 g i j l m o p q s u v x y z A B)<|e f 3 g i j l m o p q s u v x y z A B) a7
def BX {I:Type} (K:Option I) (f:Int->Int->Int->Int->bV->Bool->bV->Int->Int->bV->Int->Int->(List sQ)->Int->Int->Int->Bool->Bool->Option I) (G:List gJ) (L M N O:Int) (S:bV) (U:Bool) (V:bV) (W X g Y i j:Int) (l:bV) (m:Bool) (B:bV) (D o:Int) (p:bV) (q s:Int) (u:List sQ) (v x y:Int) (z A:Bool):Option I:=bJ (Wi G) fun d=>bJ (aBY d.1 (eP .i64 (bK G) 1)) fun e=>cond (gy d.1 e.1) (cond (bY (ed d.1 (0,(0,(0,(0,())))) e.1).1 6) (cond (gy d.1 e.1) (cond (!(bY (ed d.1 (0,(0,(0,(0,())))) e.1).1 7)) (f g 5 i j l m B D o p q s u v x y z A)<|cond (gy d.1 e.1) (bJ (awm d.1 (ed d.1 (0,(0,(0,(0,())))) e.1).2.2.2.1 e.1) fun E=>cond (gy d.1 (ed d.1 (0,(0,(0,(0,())))) e.1).2.2.2.1) (cond (bY (ed d.1 (0,(0,(0,(0,())))) (ed d.1 (0,(0,(0,(0,())))) e.1).2.2.2.1).1 5) (cond (iF 0 E.1) (cond (gy d.1 E.2.1) (cond (gy G (ed d.1 (0,(0,(0,(0,())))) E.2.1).2.1) (bJ (TA (ed G (0,([],(0,(0,())))) (ed d.1 (0,(0,(0,(0,())))) E.2.1).2.1).2.1) fun J=>f g 2 i j l m J.1 E.1 o p q s u v x y z A) a7) a7)<|f g 1 i j l m B D o p q s u v x y z A)<|cond (bY (ed d.1 (0,(0,(0,(0,())))) (ed d.1 (0,(0,(0,(0,())))) e.1).2.2.2.1).1 8) (wE d e G f g i j l m B D o p q s u v x y z A)<|cond (bY (ed d.1 (0,(0,(0,(0,())))) (ed d.1 (0,(0,(0,(0,())))) e.1).2.2.2.1).1 13) (cond (bY E.1 0) (f g 6 i j l m B D o p q s u v x y z A)<|f g 7 i j l m B D o p q s u v x y z A)<|cond (bY (ed d.1 (0,(0,(0,(0,())))) (ed d.1 (0,(0,(0,(0,())))) e.1).2.2.2.1).1 14) (f g 7 i j l m B D o p q s u v x y z A)<|cond (bY (ed d.1 (0,(0,(0,(0,())))) (ed d.1 (0,(0,(0,(0,())))) e.1).2.2.2.1).1 15) (f g 8 i j l m B D o p q s u v x y z A)<|f g 5 i j l m B D o p q s u v x y z A) a7) a7) a7)<|cond (gy d.1 e.1) (cond (!(bY (ed d.1 (0,(0,(0,(0,())))) e.1).1 7)) (f g 9 i j l m B D o p q s u v x y z A)<|cond (gy d.1 e.1) (bJ (awm d.1 (ed d.1 (0,(0,(0,(0,())))) e.1).2.2.2.1 e.1) fun E=>cond (gy d.1 (ed d.1 (0,(0,(0,(0,())))) e.1).2.2.2.1) (cond (bY (ed d.1 (0,(0,(0,(0,())))) (ed d.1 (0,(0,(0,(0,())))) e.1).2.2.2.1).1 5) (cond (iF 0 E.1) (cond (gy d.1 E.2.1) (cond (gy G (ed d.1 (0,(0,(0,(0,())))) E.2.1).2.1) (bJ (TA (ed G (0,([],(0,(0,())))) (ed d.1 (0,(0,(0,(0,())))) E.2.1).2.1).2.1) fun J=>f g 2 i j l m J.1 E.1 o p q s u v x y z A) a7) a7)<|f g 1 i j l m B D o p q s u v x y z A)<|cond (bY (ed d.1 (0,(0,(0,(0,())))) (ed d.1 (0,(0,(0,(0,())))) e.1).2.2.2.1).1 8) (wE d e G f g i j l m B D o p q s u v x y z A)<|cond (bY (ed d.1 (0,(0,(0,(0,())))) (ed d.1 (0,(0,(0,(0,())))) e.1).2.2.2.1).1 13) (cond (bY E.1 0) (f g 6 i j l m B D o p q s u v x y z A)<|f g 7 i j l m B D o p q s u v x y z A)<|cond (bY (ed d.1 (0,(0,(0,(0,())))) (ed d.1 (0,(0,(0,(0,())))) e.1).2.2.2.1).1 14) (f g 7 i j l m B D o p q s u v x y z A)<|cond (bY (ed d.1 (0,(0,(0,(0,())))) (ed d.1 (0,(0,(0,(0,())))) e.1).2.2.2.1).1 15) (f g 8 i j l m B D o p q s u v x y z A)<|f g 9 i j l m B D o p q s u v x y z A) a7) a7) a7) a7
def qm (d:List gJ) (e f g i:Int) (j:bV) (l:Bool) (m:bV) (o p q s u v:Int) (x:bV) (y:Bool) (z:bV) (A B:Int) (D:bV) (E G:Int) (I:List sQ) (J K L:Int) (M N:Bool):Option (xg.den⊕xk.den):=BX (a6 (.inl ((),((),()),()))) (fun O S U V W X Y Z r8 r9 ab ad ae af ag ah ai aj=>a6 (.inr ((),((),()),((O,S,U,V,W,X,Y,Z,r8,()),(r9,ab,ad,ae,af,ag,ah,ai,aj,()),())))) d e f g i j l m o p q s u v x y z A B D E G I J K L M N
noncomputable def Hg:dD:=fP sN LX xg xk (.exit 0) (fun v=>qm v.1.1 v.2.2.1.1 v.2.2.1.2.1 v.2.2.1.2.2.1 v.2.2.1.2.2.2.1 v.2.2.1.2.2.2.2.1 v.2.2.1.2.2.2.2.2.1 v.2.2.1.2.2.2.2.2.2.1 v.2.2.1.2.2.2.2.2.2.2.1 v.2.2.1.2.2.2.2.2.2.2.2.1 v.2.2.2.1.1 v.2.2.2.1.2.1 v.2.2.2.1.2.2.1 v.2.2.2.1.2.2.2.1 v.2.2.2.1.2.2.2.2.1 v.2.2.2.1.2.2.2.2.2.1 v.2.2.2.1.2.2.2.2.2.2.1 v.2.2.2.1.2.2.2.2.2.2.2.1 v.2.2.2.1.2.2.2.2.2.2.2.2.1 v.2.2.2.2.1.1 v.2.2.2.2.1.2.1 v.2.2.2.2.1.2.2.1 v.2.2.2.2.1.2.2.2.1 v.2.2.2.2.1.2.2.2.2.1 v.2.2.2.2.1.2.2.2.2.2.1 v.2.2.2.2.1.2.2.2.2.2.2.1 v.2.2.2.2.1.2.2.2.2.2.2.2.1 v.2.2.2.2.1.2.2.2.2.2.2.2.2.1) 12
def FD:SQ:=⟨us [.u,.u,.u,.u,cH,.u,d5] 100,dy,[]⟩
def vW:SQ:=⟨[],dy,[]⟩
def vX:SQ:=⟨us [] 107,dy,[]⟩
def Du {d:Type} (e f:Option d):Option d:=a7
def vU:Option (vW.den⊕vX.den):=Du (a6 (.inl ((),((),()),()))) (a6 (.inr ((),((),()),())))
noncomputable def CQ:dD:=fP sN FD vW vX (.exit 0) (fun v=>vU) 18
def ajB (e:xg.den⊕xk.den):Option taK:=dR e (fun f=>a7) (fun d=>a6 ((d.2.2.2.1.1,(d.2.2.2.1.2.1,(d.2.2.2.1.2.2.1,(d.2.2.2.1.2.2.2.1,(d.2.2.2.1.2.2.2.2.1,(d.2.2.2.1.2.2.2.2.2.1,(d.2.2.2.1.2.2.2.2.2.2.1,(d.2.2.2.1.2.2.2.2.2.2.2.1,(d.2.2.2.1.2.2.2.2.2.2.2.2.1,()))))))))),((d.2.2.1.1,(d.2.2.1.2.1,(d.2.2.1.2.2.1,(d.2.2.1.2.2.2.1,(d.2.2.1.2.2.2.2.1,(d.2.2.1.2.2.2.2.2.1,(d.2.2.1.2.2.2.2.2.2.1,(d.2.2.1.2.2.2.2.2.2.2.1,(d.2.2.1.2.2.2.2.2.2.2.2.1,()))))))))),())))
def aBR (m:bV) (o p:Int) (i:List sQ) (q s u:Int) (v x:Bool) (e:Int×Int×Int×Int×bV×(Bool×bV×lL)) (j:Int):Option taK:=bJ (zi bT j i (bK i) 0 j j [] 0 0 0 0 [] false [] 0 0 e.1 e.2.1 e.2.2.1 e.2.2.2.1 e.2.2.2.2.1 e.2.2.2.2.2.1 e.2.2.2.2.2.2.1 e.2.2.2.2.2.2.2.1 e.2.2.2.2.2.2.2.2.1 m o p i q s u v x) fun y=>dR y (fun d=>cond (eY (bK d.2.2.2.2.2.1.1) d.1.1 (bK d.2.2.2.2.2.1.1)) (bJ (V6 (sub d.2.2.2.2.2.1.1 d.1.1 (bK d.2.2.2.2.2.1.1))) fun f=>cond f.2.2.1 (cond (iQ f.1 [61]) (bJ (agH d.2.2.2.2.2.1.1 d.2.2.1) fun g=>cond (eu (bU g.1 [(6,((bU f.1 [61]),(0,(0,()))))]) 40) (bJ (qm (bU g.1 [(6,((bU f.1 [61]),(0,(0,()))))]) d.2.2.2.1.1 d.2.2.2.1.2.1 d.2.2.2.1.2.2.1 d.2.2.2.1.2.2.2.1 d.2.2.2.1.2.2.2.2.1 d.2.2.2.1.2.2.2.2.2.1 d.2.2.2.1.2.2.2.2.2.2.1 d.2.2.2.1.2.2.2.2.2.2.2.1 d.2.2.2.1.2.2.2.2.2.2.2.2.1 d.2.2.2.2.1.1 d.2.2.2.2.1.2.1 d.2.2.2.2.1.2.2.1 d.2.2.2.2.1.2.2.2.1 d.2.2.2.2.1.2.2.2.2.1 d.2.2.2.2.1.2.2.2.2.2.1 d.2.2.2.2.1.2.2.2.2.2.2.1 d.2.2.2.2.1.2.2.2.2.2.2.2.1 d.2.2.2.2.1.2.2.2.2.2.2.2.2.1 d.2.2.2.2.2.1.1 d.2.2.2.2.2.1.2.1 d.2.2.2.2.2.1.2.2.1 d.2.2.2.2.2.1.2.2.2.1 d.2.2.2.2.2.1.2.2.2.2.1 d.2.2.2.2.2.1.2.2.2.2.2.1 d.2.2.2.2.2.1.2.2.2.2.2.2.1 d.2.2.2.2.2.1.2.2.2.2.2.2.2.1 d.2.2.2.2.2.1.2.2.2.2.2.2.2.2.1) fun l=>ajB l) a7) a7)<|bJ (agH d.2.2.2.2.2.1.1 d.2.2.1) fun g=>cond (eu (bU g.1 [(6,([95],(0,(0,()))))]) 40) (bJ (qm (bU g.1 [(6,([95],(0,(0,()))))]) d.2.2.2.1.1 d.2.2.2.1.2.1 d.2.2.2.1.2.2.1 d.2.2.2.1.2.2.2.1 d.2.2.2.1.2.2.2.2.1 d.2.2.2.1.2.2.2.2.2.1 d.2.2.2.1.2.2.2.2.2.2.1 d.2.2.2.1.2.2.2.2.2.2.2.1 d.2.2.2.1.2.2.2.2.2.2.2.2.1 d.2.2.2.2.1.1 d.2.2.2.2.1.2.1 d.2.2.2.2.1.2.2.1 d.2.2.2.2.1.2.2.2.1 d.2.2.2.2.1.2.2.2.2.1 d.2.2.2.2.1.2.2.2.2.2.1 d.2.2.2.2.1.2.2.2.2.2.2.1 d.2.2.2.2.1.2.2.2.2.2.2.2.1 d.2.2.2.2.1.2.2.2.2.2.2.2.2.1 d.2.2.2.2.2.1.1 d.2.2.2.2.2.1.2.1 d.2.2.2.2.2.1.2.2.1 d.2.2.2.2.2.1.2.2.2.1 d.2.2.2.2.2.1.2.2.2.2.1 d.2.2.2.2.2.1.2.2.2.2.2.1 d.2.2.2.2.2.1.2.2.2.2.2.2.1 d.2.2.2.2.2.1.2.2.2.2.2.2.2.1 d.2.2.2.2.2.1.2.2.2.2.2.2.2.2.1) fun l=>ajB l) a7) a7) (fun z=>bJ vU fun f=>dR f (fun A=>a7) (fun B=>a7))
def aFE:fZ:=⟨90,tzC,[.pair dA tyJ,dA],[.pair dA tyJ],fun x y=>aBR x.1 x.2.1 x.2.2.1 x.2.2.2.1 x.2.2.2.2.1 x.2.2.2.2.2.1 x.2.2.2.2.2.2.1 x.2.2.2.2.2.2.2.1 x.2.2.2.2.2.2.2.2.1 y.1 y.2.1⟩
noncomputable def Gm:Env:=gY prog tt [(56,aAi),(30,aFs),(94,aFR),(95,aFS),(96,aFT),(144,azD),(29,aFr)] [(93,3,ag0),(57,800002,sN),(57,600001,aHd)] [(93,3,aaf),(57,800002,kZ Hg CQ)] []
def aaE {d:Type} (a:OG.den->Option d) (b:Qz.den->Option d) (c:QD.den->Option d) (v:OG.den):Option d:=bE (JL (fun e f g i j l m o p q s u x y z A B D E G I J K L M N O S U V W X Y Z=>a ((e,f,g,i,()),((j,l,()),(),()),(m,(o,p,q,s,u,x,y,z,A,()),(B,D,E,G,I,J,K,L,M,()),(N,O,S,U,V,W,X,Y,Z,()),()))) (fun e0 e1 e2 e3 e4 e5 e6 e7 e8 e9 ab ad ae af ag ah ai aj ak al an ao au av aw ax ay az aA aB aF=>b ((e0,()),((e1,e2,()),(),()),(e3,(e4,e5,e6,e7,e8,e9,ab,ad,ae,()),(af,ag,ah,ai,aj,ak,al,an,ao,()),(au,av,aw,ax,ay,az,aA,aB,aF,()),()))) (fun r0 r1=>c ((),((r0,r1,()),(),()),()))) v
theorem arQ:dX Gm 93 afT aaf:=mF (aaE) (h2:=by intros;simp only[aaE,bE,JL,dm,dn,bI,di,dw,kD])
theorem Zj {R:Type} (d:Nat) (K:Ex->St->Option R) (e:List gJ) (f:Int) (g:Int) (i:Int) (j:Int) (l:bV) (m:Bool) (o:bV) (p:Int) (q:Int) (s:Int) (u:Int) (v:Int) (x:Int) (y:bV) (z:Bool) (A:bV) (B:Int) (D:Int) (E:bV) (G:Int) (I:Int) (J:List sQ) (L:Int) (M:Int) (N:Int) (O:Bool) (S:Bool):
  iter (a6 sN) (zH (xx Gm (d+12) 57 pY)) 1 (jR LX ((e,()),((),()),((f,g,i,j,l,m,o,p,q,()),(s,u,v,x,y,z,A,B,D,()),(E,G,I,J,L,M,N,O,S,()),()))) K=
   BX (K (.exit 0) (jR xg ((),((),()),()))) (fun U V W X Y Z r6 r7 r8 r9 ab ad ae af ag ah ai aj=>K .ret (jR xk ((),((),()),((U,V,W,X,Y,Z,r6,r7,r8,()),(r9,ab,ad,ae,af,ag,ah,ai,aj,()),())))) e f g i j l m o p q s u v x y z A B D E G I J L M N O S:=by kernel_rfl
theorem agZ {R:Type} (d:Nat) (K:Ex->St->Option R) (e:List gJ) (f:Int) (g:Int) (i:Int) (j:Int) (l:bV) (m:Bool) (p:bV) (q:Int) (s:Int) (u:Int) (v:Int) (x:Int) (y:Int) (z:bV) (A:Bool) (B:bV) (D:Int) (E:Int) (G:bV) (I:Int) (J:Int) (L:List sQ) (M:Int) (N:Int) (O:Int) (S:Bool) (U:Bool):
  iter (a6 sN) (zH (xx Gm (d+12) 57 pY)) 1 (jR LX ((e,()),((),()),((f,g,i,j,l,m,p,q,s,()),(u,v,x,y,z,A,B,D,E,()),(G,I,J,L,M,N,O,S,U,()),()))) K=bJ (qm e f g i j l m p q s u v x y z A B D E G I J L M N O S U) fun o=>dR o (fun a=>K (.exit 0) (jR xg a)) fun b=>K .ret (jR xk b):=by
  rw[Zj];simp only[qm,BX,dm,dn,bI,di,dw,wE]
  try simp only[dR]
theorem ahF:tH Gm 57 pY Hg:=PO (by kernel_rfl) fun R d K v o h=>⟨1,(agZ d K (v.1.1) (v.2.2.1.1) (v.2.2.1.2.1) (v.2.2.1.2.2.1) (v.2.2.1.2.2.2.1) (v.2.2.1.2.2.2.2.1) (v.2.2.1.2.2.2.2.2.1) (v.2.2.1.2.2.2.2.2.2.1) (v.2.2.1.2.2.2.2.2.2.2.1) (v.2.2.1.2.2.2.2.2.2.2.2.1) (v.2.2.2.1.1) (v.2.2.2.1.2.1) (v.2.2.2.1.2.2.1) (v.2.2.2.1.2.2.2.1) (v.2.2.2.1.2.2.2.2.1) (v.2.2.2.1.2.2.2.2.2.1) (v.2.2.2.1.2.2.2.2.2.2.1) (v.2.2.2.1.2.2.2.2.2.2.2.1) (v.2.2.2.1.2.2.2.2.2.2.2.2.1) (v.2.2.2.2.1.1) (v.2.2.2.2.1.2.1) (v.2.2.2.2.1.2.2.1) (v.2.2.2.2.1.2.2.2.1) (v.2.2.2.2.1.2.2.2.2.1) (v.2.2.2.2.1.2.2.2.2.2.1) (v.2.2.2.2.1.2.2.2.2.2.2.1) (v.2.2.2.2.1.2.2.2.2.2.2.2.1) (v.2.2.2.2.1.2.2.2.2.2.2.2.2.1)).trans (congrArg (fun o=>bJ o _) h)⟩
theorem TF {R:Type} (d:Nat) (K:Ex->St->Option R):
  iter (a6 sN) (zH (xx Gm (d+18) 57 pY)) 1 (jR FD ((),((),()),())) K=
   Du (K (.exit 0) (jR vW ((),((),()),()))) (K .ret (jR vX ((),((),()),()))):=by kernel_rfl
theorem YV {R:Type} (d:Nat) (K:Ex->St->Option R):
  iter (a6 sN) (zH (xx Gm (d+18) 57 pY)) 1 (jR FD ((),((),()),())) K=bJ (vU) fun o=>dR o (fun a=>K (.exit 0) (jR vW a)) fun b=>K .ret (jR vX b):=by
  rw[TF];simp only[vU,Du,dm,dn,bI,di,dw]
  try simp only[dR]
theorem Zb:tH Gm 57 pY CQ:=PO (by kernel_rfl) fun R d K v o h=>⟨1,(YV d K).trans (congrArg (fun o=>bJ o _) h)⟩
theorem aMd:jF b57=[]:=by kernel_rfl
theorem aLt:D7 Gm 57 b57=[pY]:=by kernel_rfl
theorem aMw:dO Gm 57 b57:=wY b57 (fun x _ d=>absurd (show false=true from d) (by decide)) (by rw[aMd];exact aN) (yf (by rw[aLt];exact(aD (fun L h=>by rw[show(Gm).lp 57 (800000+dK pY)=a6 (kZ Hg CQ) by kernel_rfl]at h;cases h;exact auB ahF Zb) aN)))
theorem axp:dO Gm 93 aiQ:=pI [afT] (aD (fM (arQ)) aN)
theorem avc:fK Gm:=eB (aD ain (aD az4 (aD aAy (aD aAz (aD aAA (aD aaO (aD az3 aN))))))) [57,93] (aD ⟨f57,b57,by kernel_rfl,by kernel_rfl,aMw⟩ (aD ⟨f93,aiQ,by kernel_rfl,by kernel_rfl,axp⟩ aN))
theorem aAj:dQ prog 57 aFE:=sB avc
noncomputable def b24:Code:=(f24.body).getD .skip
noncomputable def aEl:Code:=cA (cA (cB (cB (cA (cB (b24))))))
def aET:fJ:=⟨[2,3,100002],[(3,.pair (.list .bool) .unit)],[],[],[2],[]⟩
def aG8:fJ:=⟨[0,2],[],[],[],[],[]⟩
def aCh:fJ:=⟨[2,3,4,8],[],[],[],[],[]⟩
def an8:SP:=⟨us [.u,.u,cK,.ptr 1800003 0] 103,[.box 1800003 90 cM,.box 1000002 29 cE]⟩
def akt:SP:=⟨[],[]⟩
def akT:SP:=⟨us [.u,.u,cK] 104,[.box 1000002 29 cE]⟩
def Ph {i:Type} (d:(taT×AQ)) (e:(lL×Bool×Unit)) (g:AQ) (j:bV->Int->Int->(List sQ)->Int->Int->Int->Bool->Bool->Int->Int->Int->Int->bV->Bool->bV->Int->Int->Option i) (l m o p:Int) (q:bV) (s:Bool) (u:bV) (v x:Int):Option i:=cond (eY (bK d.1.1) (cO .i64 (cO .i64 d.2.1 e.1.2.1) 2) (bK d.1.1)) (cond (eY (bK d.1.1) (cO .i64 (cO .i64 d.2.1 e.1.2.1) 2) (bK d.1.1)) (bJ (aBX (sub d.1.1 (cO .i64 (cO .i64 d.2.1 e.1.2.1) 2) (bK d.1.1))) fun y=>cond (gp d.1.1 d.1.1) (cond (bY (cO .i64 (cO .i64 d.2.1 e.1.2.1) 2) (cO .i64 (cO .i64 d.2.1 e.1.2.1) 2)) (cond (eY (bK d.1.1) (cO .i64 (cO .i64 d.2.1 e.1.2.1) 2) (bK d.1.1)) (cond (gp (sub d.1.1 (cO .i64 (cO .i64 d.2.1 e.1.2.1) 2) (bK d.1.1)) (sub d.1.1 (cO .i64 (cO .i64 d.2.1 e.1.2.1) 2) (bK d.1.1))) (cond (bY d.1.2.1 d.1.2.1) (cond (bY (cO .i64 (cO .i64 d.2.1 e.1.2.1) 2) (cO .i64 (cO .i64 d.2.1 e.1.2.1) 2)) (cond (bY (cO .i64 d.1.2.1 (cO .i64 (cO .i64 d.2.1 e.1.2.1) 2)) (cO .i64 d.1.2.1 (cO .i64 (cO .i64 d.2.1 e.1.2.1) 2))) (cond (bY (cO .i64 d.1.2.2.1 g.1) (cO .i64 d.1.2.2.1 g.1)) (cond (gp d.1.1 d.1.1) (cond (bY (cO .i64 (cO .i64 d.2.1 e.1.2.1) 2) (cO .i64 (cO .i64 d.2.1 e.1.2.1) 2)) (cond (gp d.1.1 d.1.1) (cond (bY (cO .i64 (cO .i64 d.2.1 e.1.2.1) 2) (cO .i64 (cO .i64 d.2.1 e.1.2.1) 2)) (cond (eY (bK d.1.1) (cO .i64 (cO .i64 d.2.1 e.1.2.1) 2) (bK d.1.1)) (cond (gp (sub d.1.1 (cO .i64 (cO .i64 d.2.1 e.1.2.1) 2) (bK d.1.1)) (sub d.1.1 (cO .i64 (cO .i64 d.2.1 e.1.2.1) 2) (bK d.1.1))) (cond (bY d.1.2.1 d.1.2.1) (cond (bY (cO .i64 (cO .i64 d.2.1 e.1.2.1) 2) (cO .i64 (cO .i64 d.2.1 e.1.2.1) 2)) (cond (bY (cO .i64 d.1.2.1 (cO .i64 (cO .i64 d.2.1 e.1.2.1) 2)) (cO .i64 d.1.2.1 (cO .i64 (cO .i64 d.2.1 e.1.2.1) 2))) (cond (bY (cO .i64 d.1.2.2.1 g.1) (cO .i64 d.1.2.2.1 g.1)) (cond (gp d.1.1 d.1.1) (cond (bY (cO .i64 (cO .i64 d.2.1 e.1.2.1) 2) (cO .i64 (cO .i64 d.2.1 e.1.2.1) 2)) (cond (eY (bK d.1.1) (cO .i64 (cO .i64 d.2.1 e.1.2.1) 2) (bK d.1.1)) (cond (gp (sub d.1.1 (cO .i64 (cO .i64 d.2.1 e.1.2.1) 2) (bK d.1.1)) (sub d.1.1 (cO .i64 (cO .i64 d.2.1 e.1.2.1) 2) (bK d.1.1))) (bJ (awk (sub d.1.1 (cO .i64 (cO .i64 d.2.1 e.1.2.1) 2) (bK d.1.1)) (cO .i64 d.1.2.1 (cO .i64 (cO .i64 d.2.1 e.1.2.1) 2)) (cO .i64 d.1.2.2.1 g.1) y.1 0 0 0 false false) fun f=>j f.1.1 f.1.2.1 f.1.2.2.1 f.1.2.2.2.1 f.1.2.2.2.2.1 f.1.2.2.2.2.2.1 f.1.2.2.2.2.2.2.1 f.1.2.2.2.2.2.2.2.1 f.1.2.2.2.2.2.2.2.2.1 l m o p q s u v x) a7) a7) a7) a7) a7) a7) a7) a7) a7) a7) a7) a7) a7) a7) a7) a7) a7) a7) a7) a7) a7) a7) a7) a7
def Pi {o:Type} (l:(lL×Bool×Unit)) (d:(taT×AQ)) (i:AQ) (m:Int->Int->Int->Int->bV->Bool->bV->Int->Int->Option o) (j:((List lL)×Bool×Unit)):Option o:=cond l.2.1 (bJ (aBO d.1.1 d.1.2.1 (cO .i64 d.1.2.2.1 i.1) d.1.2.2.2.1 d.1.2.2.2.2.1 d.1.2.2.2.2.2.1 d.1.2.2.2.2.2.2.1 d.1.2.2.2.2.2.2.2.1 d.1.2.2.2.2.2.2.2.2.1 (l.1.1,(l.1.2.1,())) (sub d.1.1 d.2.1 (bK d.1.1))) fun f=>m f.2.1.1 f.2.1.2.1 f.2.1.2.2.1 f.2.1.2.2.2.1 f.2.1.2.2.2.2.1 f.2.1.2.2.2.2.2.1 f.2.1.2.2.2.2.2.2.1 f.2.1.2.2.2.2.2.2.2.1 f.2.1.2.2.2.2.2.2.2.2.1)<|bJ (aBP (sub d.1.1 d.2.1 (bK d.1.1))) fun f=>cond (!(gp f.1 [])) (bJ (agI d.1.1 d.1.2.1 (cO .i64 d.1.2.2.1 i.1) d.1.2.2.2.1 d.1.2.2.2.2.1 d.1.2.2.2.2.2.1 d.1.2.2.2.2.2.2.1 d.1.2.2.2.2.2.2.2.1 d.1.2.2.2.2.2.2.2.2.1 f.1) fun e=>m e.2.1.1 e.2.1.2.1 e.2.1.2.2.1 e.2.1.2.2.2.1 e.2.1.2.2.2.2.1 e.2.1.2.2.2.2.2.1 e.2.1.2.2.2.2.2.2.1 e.2.1.2.2.2.2.2.2.2.1 e.2.1.2.2.2.2.2.2.2.2.1)<|bJ (aBQ j.1) fun e=>cond (bY d.1.2.1 d.1.2.1) (cond (bY d.2.1 d.2.1) (cond (bY (cO .i64 d.1.2.1 d.2.1) (cO .i64 d.1.2.1 d.2.1)) (cond (pO Ko j.1 j.1) (cond (bY (cO .i64 d.1.2.2.1 i.1) (cO .i64 d.1.2.2.1 i.1)) (cond (((pO Ko j.1 j.1)&&true)&&((bY e.1 e.1)&&true)) (cond ((bY 1 1)&&((bY 0 0)&&((bY (cO .i64 d.1.2.1 d.2.1) (cO .i64 d.1.2.1 d.2.1))&&((bY e.1 e.1)&&((gp [] [])&&((jM false false)&&((gp [] [])&&((bY 0 0)&&((bY (cO .i64 d.1.2.2.1 i.1) (cO .i64 d.1.2.2.1 i.1))&&true))))))))) (bJ (TA (sub d.1.1 d.2.1 (bK d.1.1))) fun p=>bJ (aBR d.1.1 d.1.2.1 (cO .i64 d.1.2.2.1 i.1) d.1.2.2.2.1 d.1.2.2.2.2.1 d.1.2.2.2.2.2.1 d.1.2.2.2.2.2.2.1 d.1.2.2.2.2.2.2.2.1 d.1.2.2.2.2.2.2.2.2.1 (1,(0,((cO .i64 d.1.2.1 d.2.1),(e.1,(p.1,(p.2.1,([],(0,((cO .i64 d.1.2.2.1 i.1),()))))))))) d.2.1) fun g=>m g.2.1.1 g.2.1.2.1 g.2.1.2.2.1 g.2.1.2.2.2.1 g.2.1.2.2.2.2.1 g.2.1.2.2.2.2.2.1 g.2.1.2.2.2.2.2.2.1 g.2.1.2.2.2.2.2.2.2.1 g.2.1.2.2.2.2.2.2.2.2.1) a7) a7) a7) a7) a7) a7) a7
def ae4 {g:Type} (m:bV->Int->Int->(List sQ)->Int->Int->Int->Bool->Bool->Int->Int->Int->Int->bV->Bool->bV->Int->Int->Option g) (M:Option g) (i:Int->Int->Int->Int->bV->Bool->bV->Int->Int->Option g) (A:bV) (B D:Int) (E:List sQ) (G I J:Int) (K L:Bool) (o p q s:Int) (u:bV) (v:Bool) (x:bV) (y z:Int):Option g:=bJ (aBK A B D E G I J K L) fun e=>cond e.2.1 (bJ (ajy e.1.1 e.1.2.1 e.1.2.2.1 e.1.2.2.2.1 e.1.2.2.2.2.1 e.1.2.2.2.2.2.1 e.1.2.2.2.2.2.2.1 e.1.2.2.2.2.2.2.2.1 e.1.2.2.2.2.2.2.2.2.1 4) fun d=>i d.2.1.1 d.2.1.2.1 d.2.1.2.2.1 d.2.1.2.2.2.1 d.2.1.2.2.2.2.1 d.2.1.2.2.2.2.2.1 d.2.1.2.2.2.2.2.2.1 d.2.1.2.2.2.2.2.2.2.1 d.2.1.2.2.2.2.2.2.2.2.1)<|cond (bY e.1.2.2.2.2.1 3) (bJ (ajy e.1.1 e.1.2.1 e.1.2.2.1 e.1.2.2.2.1 e.1.2.2.2.2.1 e.1.2.2.2.2.2.1 e.1.2.2.2.2.2.2.1 e.1.2.2.2.2.2.2.2.1 e.1.2.2.2.2.2.2.2.2.1 3) fun d=>i d.2.1.1 d.2.1.2.1 d.2.1.2.2.1 d.2.1.2.2.2.1 d.2.1.2.2.2.2.1 d.2.1.2.2.2.2.2.1 d.2.1.2.2.2.2.2.2.1 d.2.1.2.2.2.2.2.2.2.1 d.2.1.2.2.2.2.2.2.2.2.1)<|bJ (aBL e.1.1 e.1.2.1 e.1.2.2.1 e.1.2.2.2.1 e.1.2.2.2.2.1 e.1.2.2.2.2.2.1 e.1.2.2.2.2.2.2.1 e.1.2.2.2.2.2.2.2.1 e.1.2.2.2.2.2.2.2.2.1) fun d=>cond (eY (bK d.1.1) d.2.1 (bK d.1.1)) (bJ (awf (sub d.1.1 d.2.1 (bK d.1.1))) fun j=>bJ (aBM j.1) fun l=>bJ (aBN j.1) fun f=>cond f.2.1 (cond (bY f.1.1 1) (Ph d f l m o p q s u v x y z)<|cond (bY f.1.1 3) (Ph d f l m o p q s u v x y z)<|Pi f d l i j)<|Pi f d l i j) a7
def Qj:Nat->bV->Int->Int->(List sQ)->Int->Int->Int->Bool->Bool->Int->Int->Int->Int->bV->Bool->bV->Int->Int->Option (akt.den⊕akT.den)
 |0,_,_,_,_,_,_,_,_,_,_,_,_,_,_,_,_,_,_=>a7
 |n+1,d,e,f,g,i,j,l,m,o,p,q,s,u,v,x,y,z,A=>ae4 (Qj n) (a6 (.inl ((),()))) (fun B D E G I J K L M=>a6 (.inr ((),((B,D,E,G,I,J,K,L,M,()),())))) d e f g i j l m o p q s u v x y z A
def aH5 (n:Nat) (v:an8.den):=bL (Qj n) v
noncomputable def axB:dD:=gu aET an8 akt akT (.exit 0) (aH5 bT) 6
def aBF (f:bV):Option ((Int×Int×Int×Int×bV×(Bool×bV×lL))×Unit):=bJ (aBG f) fun g=>bJ (awk f 0 0 g.1 0 0 0 false g.2.1.2.2.1) fun d=>bJ (Qj bT d.1.1 d.1.2.1 d.1.2.2.1 d.1.2.2.2.1 d.1.2.2.2.2.1 d.1.2.2.2.2.2.1 d.1.2.2.2.2.2.2.1 d.1.2.2.2.2.2.2.2.1 d.1.2.2.2.2.2.2.2.2.1 0 0 0 0 [] false [] 0 0) fun i=>dR i (fun j=>a7) (fun e=>a6 ((e.2.1.1,(e.2.1.2.1,(e.2.1.2.2.1,(e.2.1.2.2.2.1,(e.2.1.2.2.2.2.1,(e.2.1.2.2.2.2.2.1,(e.2.1.2.2.2.2.2.2.1,(e.2.1.2.2.2.2.2.2.2.1,(e.2.1.2.2.2.2.2.2.2.2.1,()))))))))),()))
def aNd:Sum:=⟨[.str],[(.pair dA tyJ,false)],fun x=>aBF x.1⟩
noncomputable def auR:Env:=gY prog tt [(48,aAc),(49,aFy),(50,aFz),(53,aFB),(55,aFD),(56,aAi),(28,aFq),(88,aFP)] [(24,2,aET),(24,600001,aG8),(24,600012,aCh)] [(24,2,axB)] [] [(45,aFv),(47,aFx),(46,aFw),(52,aFA),(54,aFC),(57,aFE),(82,aFN)]
def ayH {d:Type} (a:an8.den->Option d) (b:akt.den->Option d) (c:akT.den->Option d) (v:an8.den):Option d:=bL (ae4 (fun e f g i j l m o p q s u x y z A B D=>a ((),((e,f,g,i,j,l,m,o,p,()),(q,s,u,x,y,z,A,B,D,()),()))) (b ((),())) (fun E G I J K L M N O=>c ((),((E,G,I,J,K,L,M,N,O,()),())))) v
theorem aIG:dX auR 24 aEl axB:=yu (ayH) (h2:=by intros;simp only[ayH,bL,ae4,dm,dn,bI,di,dw,Ph,Pi])
theorem aMk:dO auR 24 b24:=pI [aEl] (aD (fM (aIG)) aN)
theorem auS:fK auR:=eB (aD ail (aD aAd (aD aAe (aD aAg (aD aAh (aD ain (aD az2 (aD aAw aN)))))))) [24] (aD ⟨f24,b24,by kernel_rfl,by kernel_rfl,aMk⟩ aN) (hx:=(aD aAa (aD aAb (aD aik (aD aAf (aD aim (aD aAj (aD aAu aN))))))))
theorem azW:dU prog 24 aNd:=sA auS
def ajx (f:bV) (e:Int):Option ((Int×Int×Int×Int×bV×(Bool×bV×lL))×Int×Unit):=cond (iF e 0) (a6 ((0,(0,(0,(0,([],(false,([],(0,(0,()))))))))),(1,())))<|cond (iF (bK f) e) (a6 ((0,(0,(0,(0,([],(false,([],(0,(0,()))))))))),(1,())))<|cond (eY (bK f) 0 e) (bJ (aBF (sub f 0 e)) fun d=>a6 ((d.1.1,(d.1.2.1,(d.1.2.2.1,(d.1.2.2.2.1,(d.1.2.2.2.2.1,(d.1.2.2.2.2.2.1,(d.1.2.2.2.2.2.2.1,(d.1.2.2.2.2.2.2.2.1,(d.1.2.2.2.2.2.2.2.2.1,()))))))))),(0,()))) a7
def azx:Sum:=⟨[.str,dA],[(.pair dA tyJ,false),(.int .i64,false)],fun x=>ajx x.1 x.2.1⟩
theorem aij:dU prog 13 azx:=qA f13 [] (sE azW aN)
end
end Go.Proofs.YtkichehglnecnaaGreatDoor
