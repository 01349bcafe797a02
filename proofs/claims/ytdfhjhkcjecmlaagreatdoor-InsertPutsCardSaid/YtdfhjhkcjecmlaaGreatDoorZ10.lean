/- Parts of the proof, joined and shortened by a program: the plain machine, the functions as it prints them, and the mathematics over them. -/
import Derived.Test.YtdfhjhkcjecmlaaGreatDoorZ3
import Derived.Test.YtdfhjhkcjecmlaaGreatDoorZ4
import Derived.Test.YtdfhjhkcjecmlaaGreatDoorZ6
set_option linter.unusedVariables false
set_option linter.unusedSimpArgs false
set_option maxRecDepth 100000
set_option maxHeartbeats 4000000
namespace Go.Proofs.YtdfhjhkcjecmlaaGreatDoor
section
open Option renaming some → a6, none → a7
open Tryz
open Go.RowKit
noncomputable def b25:Code:=(f25.body).getD .skip
noncomputable def aFX:Code:=cA (cA (cB (cA (cB (cB (b25))))))
def aGC:eY:=⟨[3,4,100003],[],[],[],[2],[]⟩
def aoK:SP:=⟨us [.u,.u,.u,ga,cg] 13,[]⟩
def akW:SP:=⟨us [] 18,[]⟩
def alv:SP:=⟨us [.u,.u,co] 15,[]⟩
def afn {d:Type} (g:(List Gn)->Int->Option d) (h:Option d) (i:Bool->Option d) (e:List Gn) (f:Int):Option d:=cond (gU f (bM e)) (cond (fO e f) (cond ((dQ e (false,(false,([],()))) f).1) (i true)<|g e (bY .i64 f 1)) a7) h
def Xg:Nat->(List Gn)->Int->Option (akW.den⊕alv.den)
 |0,_,_=>a7
 |n+1,d,e=>afn (Xg n) (a6 (.inl ((),()))) (fun f=>a6 (.inr ((f,()),()))) d e
def aJZ (n:Nat) (v:aoK.den):=Xg n v.1.1 v.1.2.1
noncomputable def ayE:dG:=fK aGC aoK akW alv (.exit 0) (aJZ bV) 6
def aw9 (d:bU):Option oJ:=bK (aj1 d) fun e=>bK (Xg bV e.1 0) fun f=>dO f (fun h=>a6 (false,())) (fun g=>a6 (g.1.1,()))
def aBl:Sum:=⟨[.str],KO,fun x=>aw9 x.1⟩
noncomputable def avu:Env:=iW prog tt 25 [(55,aBF)] [(3,aGC)] [(3,ayE)]
def azQ {d:Type} (a:aoK.den->Option d) (b:akW.den->Option d) (c:alv.den->Option d) (v:aoK.den):Option d:=afn (aL a) (b ((),())) (aE c) v.1.1 v.1.2.1
theorem aKG:dY avu 25 aFX ayE:=uz (azQ) (h2:=by intros;simp only[azQ,aL,aE,afn,dw,dA,bJ,dh,dB])
theorem aNk:dR avu 25 b25:=oq [aFX] (aD (fM (aKG)) aN)
theorem avv:fH avu:=eA f25 (aD aiK aN) (aNk)
theorem aiC:dX prog 25 aBl:=sA avv
noncomputable def b49:Code:=(f49.body).getD .skip
noncomputable def aF4:Code:=cA (cA (cA (cB (cB (cB (cB (b49)))))))
def aGI:eY:=⟨[0,8,9,100006],[(8,Gp)],[8],[],[4,5],[(4,Gp)]⟩
def aoR:SP:=⟨us [ci,.u,.u,.u,.u,.u,.u,.u,.slc 1800008,cg] 30,[.arr 1800008 Gp]⟩
def ak2:SP:=⟨us [.u,.u,.u,.u,.u,.u,.u,.u,.slc 1800008] 31,[.arr 1800008 Gp]⟩
def alC:SP:=⟨us [.u,.u,.u,.u,eJ,co] 34,[]⟩
def afu {e:Type} (i:bU->Int->(List oG)->Option e) (j:(List oG)->Option e) (l:(List oG)->Bool->Option e) (f:bU) (h:Int) (g:List oG):Option e:=cond (gU h (bM f)) (bK (axj f h (0,([],(false,())))) fun d=>cond (eH (cu g [(d.1.1,(d.1.2.1,(d.1.2.2.1,(d.1.2.2.2.1,()))))]) 32) (i f d.1.2.2.1 (cu g [(d.1.1,(d.1.2.1,(d.1.2.2.1,(d.1.2.2.2.1,()))))])) a7)<|j g
def Qz:Nat->bU->Int->(List oG)->Option (ak2.den⊕alC.den)
 |0,_,_,_=>a7
 |n+1,d,e,f=>afu (Qz n) (fun g=>a6 (.inl ((),(g,())))) (fun h i=>a6 (.inr ((h,i,()),()))) d e f
def aJ6 (n:Nat) (v:aoR.den):=Qz n v.1.1 v.1.2.1 v.2.1
noncomputable def ayL:dG:=fK aGI aoR ak2 alC (.exit 0) (aJ6 bV) 6
def acm (e:bU) (g:Bool):Option ((List oG)×Bool×Unit):=cond (!g) (bK (aDk e) fun d=>a6 (d.1,(d.2.1.2.2.1,())))<|bK (Qz bV e 0 []) fun d=>dO d (fun h=>a6 (h.2.1,(false,()))) (fun f=>a6 (f.1.1,(f.1.2.1,())))
def aHs:Sum:=⟨[.str,.bool],[(.list Gp,false),(.bool,false)],fun x=>acm x.1 x.2.1⟩
noncomputable def avL:Env:=iW prog tt 49 [(81,aHG),(82,aBW)] [(6,aGI)] [(6,ayL)]
def azX {d:Type} (a:aoR.den->Option d) (b:ak2.den->Option d) (c:alC.den->Option d) (v:aoR.den):Option d:=afu (fun e f g=>a ((e,f,()),(g,()))) (fun h=>b ((),(h,()))) (aL c) v.1.1 v.1.2.1 v.2.1
theorem aKN:dY avL 49 aF4 ayL:=uz (azX) (h2:=by intros;simp only[azX,aL,afu,dw,dA,bJ,dh,dB])
theorem aNu:dR avL 49 b49:=oq [aF4] (aD (fM (aKN)) aN)
theorem avM:fH avL:=eA f49 (aD aBV (aD aiM aN)) (aNu)
theorem PM:dX prog 49 aHs:=sA avM
def aCW (e:bU) (f:Bool):Option oJ:=bK (acm e f) fun d=>cond d.2.1 (a6 (true,()))<|cond (gU 0 (bM d.1)) (cond (fO d.1 (dV .i64 (bM d.1) 1)) (cond (bZ (dQ d.1 (0,(0,(0,(false,())))) (dV .i64 (bM d.1) 1)).1 7) (cond (fO d.1 (dV .i64 (bM d.1) 1)) (cond ((dQ d.1 (0,(0,(0,(false,())))) (dV .i64 (bM d.1) 1)).2.2.2.1) (a6 (true,()))<|cond (fO e (dV .i64 (bM e) 1)) (a6 ((!(bZ (cO e (dV .i64 (bM e) 1)) 10)),())) a7) a7)<|some (false,())) a7)<|some (false,())
def aHb:Sum:=⟨[.str,.bool],KO,fun x=>aCW x.1 x.2.1⟩
theorem aBb:dX prog 18 aHb:=qA f18 [] (sE PM aN)
def aCX (e:bU) (f:Bool):Option oJ:=bK (acm e f) fun d=>cond (gU 0 (bM d.1)) (cond (fO d.1 (dV .i64 (bM d.1) 1)) (a6 ((bZ (dQ d.1 (0,(0,(0,(false,())))) (dV .i64 (bM d.1) 1)).1 3),())) a7)<|some (false,())
def aHc:Sum:=⟨[.str,.bool],KO,fun x=>aCX x.1 x.2.1⟩
theorem aBd:dX prog 19 aHc:=qA f19 [] (sE PM aN)
def aCY (e:bU) (f:Bool):Option zN:=bK (acm e f) fun d=>cond (gU 0 (bM d.1)) (cond (fO d.1 (dV .i64 (bM d.1) 1)) (cond (bZ (dQ d.1 (0,(0,(0,(false,())))) (dV .i64 (bM d.1) 1)).1 6) (cond (fO d.1 (dV .i64 (bM d.1) 1)) (a6 ((dQ d.1 (0,(0,(0,(false,())))) (dV .i64 (bM d.1) 1)).2.1,())) a7)<|some ((bM e),())) a7)<|some ((bM e),())
def aHd:Sum:=⟨[.str,.bool],TL,fun x=>aCY x.1 x.2.1⟩
theorem aBf:dX prog 20 aHd:=qA f20 [] (sE PM aN)
end
section
open Option renaming some → a6, none → a7
open Nat renaming le_refl → ae
open Tryz
open Go.RowKit
noncomputable def b27:Code:=(f27.body).getD .skip
noncomputable def aFZ:Code:=cA (cA (cB (cA (cB (cB (cB (b27)))))))
noncomputable def auV:Code:=cA (cA (cB (cA (cB (cB (cB (cB (cB (cB (cA (cA (cB (cA (cA (cB (cA (cB (cB (cB (cB (cB (cB (cB (cB (cB (b27))))))))))))))))))))))))))
noncomputable def auU:Code:=cA (cA (cB (cA (cB (cB (cB (cB (cB (cB (cB (cB (cB (b27)))))))))))))
noncomputable def Ed:Code:=cB (cB (cB (cB (cB (cB (cB (b27)))))))
def aGE:eY:=⟨[1,2,4,8,9,11,12,100004],[(11,tyD)],[1,2,4,8,11],[],[8],[]⟩
def ax8:eY:=⟨[4,8,11,16,17,18,19,20,21,100027],[],[4,8,11,16,17,18,19,20],[],[8],[]⟩
def ax7:eY:=⟨[4,8,11,16,17,100017],[],[4,8],[],[8],[]⟩
def ED:eY:=⟨[4,8,11,900014],[(11,.pair .unit tyD)],[8],[],[8],[]⟩
def aoM:SP:=⟨us [.u,ci,cg,.u,cC,.u,.u,.u,cT,eJ,.u,.slc 1800011,cg] 239,[.arr 1800011 tyD,cU,cY]⟩
def aej:SP:=⟨us [.u,ci,cg,.u,cC,.u,.u,.u,cT,.u,.u,.slc 1800011] 240,[.arr 1800011 tyD,cU,cY]⟩
def aeS:SP:=⟨du,[cU]⟩
def jG (d:List oG) (e:Int):=dQ d (0,(0,(0,(false,())))) e
def DR {g:Type} (d:List oG) (e:Int) (f:bU) (h:List gQ) (i:bU->Int->(List oG)->Int->(List gQ)->Int->Int->Int->Int->bU->Bool->bU->Int->Int->Int->Int->Int->Int->bU->Bool->bU->Int->Int->Option g) (j l m o p:Int) (q:bU) (s:Bool) (u:bU) (v x y z A B:Int) (D:bU) (E:Bool) (G:bU) (I J:Int):Option g:=cond (fO d e) (cond (fO d e) (cond (fO d e) (cond (fO d e) (cond (dZ (bM f) (jG d e).2.1 (jG d e).2.2.1) (cond (eH (cu h [((jG d e).1,((sub f (jG d e).2.1 (jG d e).2.2.1),((jG d e).2.1,((jG d e).2.2.1,()))))]) 40) (i f j d (bY .i64 e 1) (cu h [((jG d e).1,((sub f (jG d e).2.1 (jG d e).2.2.1),((jG d e).2.1,((jG d e).2.2.1,()))))]) l m o p q s u v x y z A B D E G I J) a7) a7) a7) a7) a7) a7
def afp {J:Type} (I:bU->Int->(List oG)->Int->(List gQ)->Int->Int->Int->Int->bU->Bool->bU->Int->Int->Int->Int->Int->Int->bU->Bool->bU->Int->Int->Option J) (K:bU->Int->(List gQ)->Int->Int->Int->Int->bU->Bool->bU->Int->Int->Int->Int->Int->Int->bU->Bool->bU->Int->Int->Option J) (L:Int->Int->Int->Int->bU->Bool->bU->Int->Int->Option J) (g:bU) (f:Int) (d:List oG) (e:Int) (h:List gQ) (i j l m:Int) (o:bU) (p:Bool) (q:bU) (s u v x y z:Int) (A:bU) (B:Bool) (D:bU) (E G:Int):Option J:=cond (gU e (bM d)) (cond (fO d e) (cond (fO d e) (cond (leI (jG d e).2.2.1 f) (cond (bZ (jG d e).1 2) (DR d e g h I f i j l m o p q s u v x y z A B D E G)<|cond (bZ (jG d e).1 4) (DR d e g h I f i j l m o p q s u v x y z A B D E G)<|cond (bZ (jG d e).1 5) (DR d e g h I f i j l m o p q s u v x y z A B D E G)<|cond (bZ (jG d e).1 6) (DR d e g h I f i j l m o p q s u v x y z A B D E G)<|I g f d (bY .i64 e 1) h i j l m o p q s u v x y z A B D E G)<|I g f d (bY .i64 e 1) h i j l m o p q s u v x y z A B D E G) a7) a7)<|K g f h i j l m o p q s u v x y z A B D E G
def LG:Nat->bU->Int->(List oG)->Int->(List gQ)->Int->Int->Int->Int->bU->Bool->bU->Int->Int->Int->Int->Int->Int->bU->Bool->bU->Int->Int->Option (aej.den⊕aeS.den)
 |0,_,_,_,_,_,_,_,_,_,_,_,_,_,_,_,_,_,_,_,_,_,_,_=>a7
 |n+1,d,e,f,g,h,i,j,l,m,o,p,q,s,u,v,x,y,z,A,B,D,E,G=>afp (LG n) (fun I J K L M N O S U V W X Y Z ab ad af ag ah ai aj=>a6 (.inl ((I,J,()),(K,(L,M,N,O,S,U,V,W,X,()),(Y,Z,ab,ad,af,ag,ah,ai,aj,()),())))) (fun r0 r1 r2 r3 r4 r5 r6 r7 r8=>a6 (.inr ((),((r0,r1,r2,r3,r4,r5,r6,r7,r8,()),())))) d e f g h i j l m o p q s u v x y z A B D E G
def aJ1 (n:Nat) (v:aoM.den):=bN (LG n) v
noncomputable def ayG:dG:=fK aGE aoM aej aeS (.exit 0) (aJ1 bV) 6
def adJ:SP:=⟨us [.u,.u,.u,.u,cC,.u,.u,.u,cT,.u,.u,.v pV,.u,.u,.u,.u,ei,cg,cg,cg,ci,cg] 230,[cU,cY]⟩
def UB:SP:=⟨us [.u,.u,.u,.u,cC,.u,.u,.u,cT,.u,.u,.v pV,.u,.u,.u,.u,ei,cg,cg,cg,ci] 231,[cU,cY]⟩
def UI:SP:=⟨du,[cU]⟩
def Vp {L:Type} (J:(List gQ)->(List ig)->Int->Int->Int->bU->Int->Int->Int->Int->Int->bU->Bool->bU->Int->Int->Int->Int->Int->Int->bU->Bool->bU->Int->Int->Option L) (M:(List gQ)->(List ig)->Int->Int->Int->bU->Int->Int->Int->Int->bU->Bool->bU->Int->Int->Int->Int->Int->Int->bU->Bool->bU->Int->Int->Option L) (S:Int->Int->Int->Int->bU->Bool->bU->Int->Int->Option L) (f:List gQ) (d:List ig) (g h i:Int) (K:bU) (e j l m o:Int) (p:bU) (q:Bool) (s:bU) (u v x y z A:Int) (B:bU) (D:Bool) (E:bU) (G I:Int):Option L:=cond (gU e g) (cond (fO d e) (cond (bZ (dQ d (0,(0,(0,(0,())))) e).2.2.2.1 h) (cond (fO d e) (cond (bZ (dQ d (0,(0,(0,(0,())))) e).1 7) (cond (bZ i 0) (cond (fO d e) (cond (fO f (dQ d (0,(0,(0,(0,())))) e).2.1) (bK (aw9 (dQ f (0,([],(0,(0,())))) (dQ d (0,(0,(0,(0,())))) e).2.1).2.1) fun N=>cond (!N.1) (cond (fO d e) (cond (fO f (dQ d (0,(0,(0,(0,())))) e).2.1) (bK (ajT (dQ f (0,([],(0,(0,())))) (dQ d (0,(0,(0,(0,())))) e).2.1).2.1) fun O=>J f d g h (bY .i64 i 1) O.1 (bY .i64 e 1) j l m o p q s u v x y z A B D E G I) a7) a7)<|J f d g h (bY .i64 i 1) K (bY .i64 e 1) j l m o p q s u v x y z A B D E G I) a7) a7)<|J f d g h (bY .i64 i 1) K (bY .i64 e 1) j l m o p q s u v x y z A B D E G I)<|J f d g h i K (bY .i64 e 1) j l m o p q s u v x y z A B D E G I) a7)<|J f d g h i K (bY .i64 e 1) j l m o p q s u v x y z A B D E G I) a7)<|M f d g h i K j l m o p q s u v x y z A B D E G I
def Jf:Nat->(List gQ)->(List ig)->Int->Int->Int->bU->Int->Int->Int->Int->Int->bU->Bool->bU->Int->Int->Int->Int->Int->Int->bU->Bool->bU->Int->Int->Option (UB.den⊕UI.den)
 |0,_,_,_,_,_,_,_,_,_,_,_,_,_,_,_,_,_,_,_,_,_,_,_,_,_=>a7
 |n+1,d,e,f,g,h,i,j,l,m,o,p,q,s,u,v,x,y,z,A,B,D,E,G,I,J=>Vp (Jf n) (fun K L M N O S U V W X Y Z ab ad af ag ah ai aj ak al an ao au=>a6 (.inl ((K,L,M,N,O,S,()),((U,V,W,X,Y,Z,ab,ad,af,()),(ag,ah,ai,aj,ak,al,an,ao,au,()),())))) (fun r0 r1 r2 r3 r4 r5 r6 r7 r8=>a6 (.inr ((),((r0,r1,r2,r3,r4,r5,r6,r7,r8,()),())))) d e f g h i j l m o p q s u v x y z A B D E G I J
def aEn (n:Nat) (v:adJ.den):=bO (Jf n) v
noncomputable def aos:dG:=fK ax8 adJ UB UI (.exit 4) (aEn bV) 12
def adI:SP:=⟨us [.u,.u,.u,.u,cC,.u,.u,.u,cT,.u,.u,.v pV,.u,.u,.u,.u,ei,cg] 234,[cU,cY]⟩
def UA:SP:=⟨us [.u,.u,.u,.u,cC,.u,.u,.u,cT] 243,[cU,cY]⟩
def UH:SP:=⟨du,[cU]⟩
def nI (d:List ig) (e:Int):=dQ d (0,(0,(0,(0,())))) e
def JB {g:Type} (h:UB.den⊕UI.den) (e:(List gQ)->(List ig)->Int->Int->Int->Int->Int->bU->Bool->bU->Int->Int->Int->Int->Int->Int->bU->Bool->bU->Int->Int->Option g) (i:Int->Int->Int->Int->bU->Bool->bU->Int->Int->Option g):Option g:=dO h (fun d=>cond (fO d.1.2.1 d.1.2.2.2.1) (cond (bZ (dQ d.1.2.1 (0,(0,(0,(0,())))) d.1.2.2.2.1).1 5) (cond (gU 0 d.1.2.2.2.2.1) (e d.1.1 d.1.2.1 (bY .i64 d.1.2.2.1 1) d.2.1.1 d.2.1.2.1 d.2.1.2.2.1 d.2.1.2.2.2.1 d.2.1.2.2.2.2.1 d.2.1.2.2.2.2.2.1 d.2.1.2.2.2.2.2.2.1 d.2.1.2.2.2.2.2.2.2.1 d.2.1.2.2.2.2.2.2.2.2.1 d.2.2.1.1 2 d.2.2.1.2.2.1 d.2.2.1.2.2.2.1 d.2.2.1.2.2.2.2.1 d.2.2.1.2.2.2.2.2.1 d.1.2.2.2.2.2.1 d.1.2.2.2.2.1 d.2.2.1.2.2.2.2.2.2.2.2.1)<|e d.1.1 d.1.2.1 (bY .i64 d.1.2.2.1 1) d.2.1.1 d.2.1.2.1 d.2.1.2.2.1 d.2.1.2.2.2.1 d.2.1.2.2.2.2.1 d.2.1.2.2.2.2.2.1 d.2.1.2.2.2.2.2.2.1 d.2.1.2.2.2.2.2.2.2.1 d.2.1.2.2.2.2.2.2.2.2.1 d.2.2.1.1 1 d.2.2.1.2.2.1 d.2.2.1.2.2.2.1 d.2.2.1.2.2.2.2.1 d.2.2.1.2.2.2.2.2.1 d.2.2.1.2.2.2.2.2.2.1 d.2.2.1.2.2.2.2.2.2.2.1 d.2.2.1.2.2.2.2.2.2.2.2.1)<|cond (bZ (dQ d.1.2.1 (0,(0,(0,(0,())))) d.1.2.2.2.1).1 8) (cond (fO d.1.1 (dV .i64 (bM d.1.1) 2)) (cond (gm (dQ d.1.1 (0,([],(0,(0,())))) (dV .i64 (bM d.1.1) 2)).2.1 [60,60]) (e d.1.1 d.1.2.1 (bY .i64 d.1.2.2.1 1) d.2.1.1 d.2.1.2.1 d.2.1.2.2.1 d.2.1.2.2.2.1 d.2.1.2.2.2.2.1 d.2.1.2.2.2.2.2.1 d.2.1.2.2.2.2.2.2.1 d.2.1.2.2.2.2.2.2.2.1 d.2.1.2.2.2.2.2.2.2.2.1 d.2.2.1.1 4 d.2.2.1.2.2.1 d.2.2.1.2.2.2.1 d.2.2.1.2.2.2.2.1 d.2.2.1.2.2.2.2.2.1 d.2.2.1.2.2.2.2.2.2.1 d.2.2.1.2.2.2.2.2.2.2.1 d.2.2.1.2.2.2.2.2.2.2.2.1)<|cond (fO d.1.1 (dV .i64 (bM d.1.1) 2)) (cond (gm (dQ d.1.1 (0,([],(0,(0,())))) (dV .i64 (bM d.1.1) 2)).2.1 [60,60,45]) (e d.1.1 d.1.2.1 (bY .i64 d.1.2.2.1 1) d.2.1.1 d.2.1.2.1 d.2.1.2.2.1 d.2.1.2.2.2.1 d.2.1.2.2.2.2.1 d.2.1.2.2.2.2.2.1 d.2.1.2.2.2.2.2.2.1 d.2.1.2.2.2.2.2.2.2.1 d.2.1.2.2.2.2.2.2.2.2.1 d.2.2.1.1 4 d.2.2.1.2.2.1 d.2.2.1.2.2.2.1 d.2.2.1.2.2.2.2.1 d.2.2.1.2.2.2.2.2.1 d.2.2.1.2.2.2.2.2.2.1 d.2.2.1.2.2.2.2.2.2.2.1 d.2.2.1.2.2.2.2.2.2.2.2.1)<|e d.1.1 d.1.2.1 (bY .i64 d.1.2.2.1 1) d.2.1.1 d.2.1.2.1 d.2.1.2.2.1 d.2.1.2.2.2.1 d.2.1.2.2.2.2.1 d.2.1.2.2.2.2.2.1 d.2.1.2.2.2.2.2.2.1 d.2.1.2.2.2.2.2.2.2.1 d.2.1.2.2.2.2.2.2.2.2.1 d.2.2.1.1 3 d.2.2.1.2.2.1 d.2.2.1.2.2.2.1 d.2.2.1.2.2.2.2.1 d.2.2.1.2.2.2.2.2.1 d.2.2.1.2.2.2.2.2.2.1 d.2.2.1.2.2.2.2.2.2.2.1 d.2.2.1.2.2.2.2.2.2.2.2.1) a7) a7)<|cond (bZ (dQ d.1.2.1 (0,(0,(0,(0,())))) d.1.2.2.2.1).1 13) (cond (bZ d.1.2.2.2.2.1 0) (e d.1.1 d.1.2.1 (bY .i64 d.1.2.2.1 1) d.2.1.1 d.2.1.2.1 d.2.1.2.2.1 d.2.1.2.2.2.1 d.2.1.2.2.2.2.1 d.2.1.2.2.2.2.2.1 d.2.1.2.2.2.2.2.2.1 d.2.1.2.2.2.2.2.2.2.1 d.2.1.2.2.2.2.2.2.2.2.1 d.2.2.1.1 6 d.2.2.1.2.2.1 d.2.2.1.2.2.2.1 d.2.2.1.2.2.2.2.1 d.2.2.1.2.2.2.2.2.1 d.2.2.1.2.2.2.2.2.2.1 d.2.2.1.2.2.2.2.2.2.2.1 d.2.2.1.2.2.2.2.2.2.2.2.1)<|e d.1.1 d.1.2.1 (bY .i64 d.1.2.2.1 1) d.2.1.1 d.2.1.2.1 d.2.1.2.2.1 d.2.1.2.2.2.1 d.2.1.2.2.2.2.1 d.2.1.2.2.2.2.2.1 d.2.1.2.2.2.2.2.2.1 d.2.1.2.2.2.2.2.2.2.1 d.2.1.2.2.2.2.2.2.2.2.1 d.2.2.1.1 7 d.2.2.1.2.2.1 d.2.2.1.2.2.2.1 d.2.2.1.2.2.2.2.1 d.2.2.1.2.2.2.2.2.1 d.2.2.1.2.2.2.2.2.2.1 d.2.2.1.2.2.2.2.2.2.2.1 d.2.2.1.2.2.2.2.2.2.2.2.1)<|cond (bZ (dQ d.1.2.1 (0,(0,(0,(0,())))) d.1.2.2.2.1).1 14) (e d.1.1 d.1.2.1 (bY .i64 d.1.2.2.1 1) d.2.1.1 d.2.1.2.1 d.2.1.2.2.1 d.2.1.2.2.2.1 d.2.1.2.2.2.2.1 d.2.1.2.2.2.2.2.1 d.2.1.2.2.2.2.2.2.1 d.2.1.2.2.2.2.2.2.2.1 d.2.1.2.2.2.2.2.2.2.2.1 d.2.2.1.1 7 d.2.2.1.2.2.1 d.2.2.1.2.2.2.1 d.2.2.1.2.2.2.2.1 d.2.2.1.2.2.2.2.2.1 d.2.2.1.2.2.2.2.2.2.1 d.2.2.1.2.2.2.2.2.2.2.1 d.2.2.1.2.2.2.2.2.2.2.2.1)<|cond (bZ (dQ d.1.2.1 (0,(0,(0,(0,())))) d.1.2.2.2.1).1 15) (e d.1.1 d.1.2.1 (bY .i64 d.1.2.2.1 1) d.2.1.1 d.2.1.2.1 d.2.1.2.2.1 d.2.1.2.2.2.1 d.2.1.2.2.2.2.1 d.2.1.2.2.2.2.2.1 d.2.1.2.2.2.2.2.2.1 d.2.1.2.2.2.2.2.2.2.1 d.2.1.2.2.2.2.2.2.2.2.1 d.2.2.1.1 8 d.2.2.1.2.2.1 d.2.2.1.2.2.2.1 d.2.2.1.2.2.2.2.1 d.2.2.1.2.2.2.2.2.1 d.2.2.1.2.2.2.2.2.2.1 d.2.2.1.2.2.2.2.2.2.2.1 d.2.2.1.2.2.2.2.2.2.2.2.1)<|e d.1.1 d.1.2.1 (bY .i64 d.1.2.2.1 1) d.2.1.1 d.2.1.2.1 d.2.1.2.2.1 d.2.1.2.2.2.1 d.2.1.2.2.2.2.1 d.2.1.2.2.2.2.2.1 d.2.1.2.2.2.2.2.2.1 d.2.1.2.2.2.2.2.2.2.1 d.2.1.2.2.2.2.2.2.2.2.1 d.2.2.1.1 d.2.2.1.2.1 d.2.2.1.2.2.1 d.2.2.1.2.2.2.1 d.2.2.1.2.2.2.2.1 d.2.2.1.2.2.2.2.2.1 d.2.2.1.2.2.2.2.2.2.1 d.2.2.1.2.2.2.2.2.2.2.1 d.2.2.1.2.2.2.2.2.2.2.2.1) a7) (fun f=>i f.2.1.1 f.2.1.2.1 f.2.1.2.2.1 f.2.1.2.2.2.1 f.2.1.2.2.2.2.1 f.2.1.2.2.2.2.2.1 f.2.1.2.2.2.2.2.2.1 f.2.1.2.2.2.2.2.2.2.1 f.2.1.2.2.2.2.2.2.2.2.1)
def Vo {G:Type} (D:(List gQ)->(List ig)->Int->Int->Int->Int->Int->bU->Bool->bU->Int->Int->Int->Int->Int->Int->bU->Bool->bU->Int->Int->Option G) (K:Int->Int->Int->Int->bU->Bool->bU->Int->Int->Int->Int->Int->Int->bU->Bool->bU->Int->Int->Option G) (J:Int->Int->Int->Int->bU->Bool->bU->Int->Int->Option G) (f:List gQ) (d:List ig) (e g h i j:Int) (l:bU) (m:Bool) (o:bU) (p q s E u v:Int) (x:bU) (y:Bool) (z:bU) (A B:Int):Option G:=cond (gU e (bM d)) (cond (fO d e) (cond (!(bZ (nI d e).2.1 (dV .i64 (bM f) 1))) (D f d (bY .i64 e 1) g h i j l m o p q s E u v x y z A B)<|cond (fO d e) (cond (!(bZ (nI d e).2.2.1 (bM f))) (D f d (bY .i64 e 1) g h i j l m o p q s E u v x y z A B)<|cond (fO d e) (cond (bZ (nI d e).1 6) (cond (fO d e) (cond (!(bZ (nI d e).1 7)) (D f d (bY .i64 e 1) g h i j l m o p q s 5 u v x y z A B)<|cond (fO d e) (bK (Jf bV f d e (nI d e).2.2.2.1 0 [] (bY .i64 (nI d e).2.2.2.1 1) g h i j l m o p q s 5 u v x y z A B) fun I=>JB I D J) a7) a7)<|cond (fO d e) (cond (!(bZ (nI d e).1 7)) (D f d (bY .i64 e 1) g h i j l m o p q s E u v x y z A B)<|cond (fO d e) (bK (Jf bV f d e (nI d e).2.2.2.1 0 [] (bY .i64 (nI d e).2.2.2.1 1) g h i j l m o p q s E u v x y z A B) fun I=>JB I D J) a7) a7) a7) a7) a7)<|K g h i j l m o p q s E u v x y z A B
def OC:Nat->(List gQ)->(List ig)->Int->Int->Int->Int->Int->bU->Bool->bU->Int->Int->Int->Int->Int->Int->bU->Bool->bU->Int->Int->Option (UA.den⊕UH.den)
 |0,_,_,_,_,_,_,_,_,_,_,_,_,_,_,_,_,_,_,_,_,_=>a7
 |n+1,d,e,f,g,h,i,j,l,m,o,p,q,s,u,v,x,y,z,A,B,D=>Vo (OC n) (fun E G I J K L M N O S U V W X Y Z ab ad=>a6 (.inl ((),((E,G,I,J,K,L,M,N,O,()),(S,U,V,W,X,Y,Z,ab,ad,()),())))) (fun r0 r1 r2 r3 r4 r5 r6 r7 r8=>a6 (.inr ((),((r0,r1,r2,r3,r4,r5,r6,r7,r8,()),())))) d e f g h i j l m o p q s u v x y z A B D
def aEm (n:Nat) (v:adI.den):=bR (OC n) v
noncomputable def aor:dG:=fK ax7 adI UA UH (.exit 2) (aEm bV) 18
def LX:SP:=⟨us [.u,.u,.u,.u,cC,.u,.u,.u,cT,.u,.u,.v pV] 240,[cU,cY]⟩
def AU:SP:=⟨[],[]⟩
def A7:SP:=⟨du,[cU]⟩
def Bl {f:Type} (J:Option f) (g:Int->Int->Int->Int->bU->Bool->bU->Int->Int->Option f) (h:List gQ) (i j l m:Int) (o:bU) (p:Bool) (q:bU) (s u v K x y:Int) (z:bU) (A:Bool) (B:bU) (D E:Int):Option f:=bK (arV h) fun G=>bK (OC bV h G.1 0 i j l m o p q s u v 9 x y z A B D E) fun I=>dO I (fun d=>g d.2.2.1.1 d.2.2.1.2.1 d.2.2.1.2.2.1 d.2.2.1.2.2.2.1 d.2.2.1.2.2.2.2.1 d.2.2.1.2.2.2.2.2.1 d.2.2.1.2.2.2.2.2.2.1 d.2.2.1.2.2.2.2.2.2.2.1 d.2.2.1.2.2.2.2.2.2.2.2.1) (fun e=>g e.2.1.1 e.2.1.2.1 e.2.1.2.2.1 e.2.1.2.2.2.1 e.2.1.2.2.2.2.1 e.2.1.2.2.2.2.2.1 e.2.1.2.2.2.2.2.2.1 e.2.1.2.2.2.2.2.2.2.1 e.2.1.2.2.2.2.2.2.2.2.1)
def pJ (d:List gQ) (e f g h:Int) (i:bU) (j:Bool) (l:bU) (m o p q s u:Int) (v:bU) (x:Bool) (y:bU) (z A:Int):Option (AU.den⊕A7.den):=Bl (a6 (.inl ((),()))) (fun B D E G I J K L M=>a6 (.inr ((),((B,D,E,G,I,J,K,L,M,()),())))) d e f g h i j l m o p q s u v x y z A
noncomputable def SN:dG:=fK ED LX AU A7 (.exit 0) (fun v=>pJ v.1.1 v.2.1.1 v.2.1.2.1 v.2.1.2.2.1 v.2.1.2.2.2.1 v.2.1.2.2.2.2.1 v.2.1.2.2.2.2.2.1 v.2.1.2.2.2.2.2.2.1 v.2.1.2.2.2.2.2.2.2.1 v.2.1.2.2.2.2.2.2.2.2.1 v.2.2.1.1 v.2.2.1.2.1 v.2.2.1.2.2.1 v.2.2.1.2.2.2.1 v.2.2.1.2.2.2.2.1 v.2.2.1.2.2.2.2.2.1 v.2.2.1.2.2.2.2.2.2.1 v.2.2.1.2.2.2.2.2.2.2.1 v.2.2.1.2.2.2.2.2.2.2.2.1) 24
def axa (f:Int×Int×Int×Int×bU×taY) (j:bU) (l:Int) (m:Bool):Option taP:=bK (acm j m) fun o=>bK (LG bV j l o.1 0 [] 0 0 0 0 [] false [] 0 0 f.1 f.2.1 f.2.2.1 f.2.2.2.1 f.2.2.2.2.1 f.2.2.2.2.2.1 f.2.2.2.2.2.2.1 f.2.2.2.2.2.2.2.1 f.2.2.2.2.2.2.2.2.1) fun p=>dO p (fun d=>cond (dZ (bM d.1.1) d.1.2.1 (bM d.1.1)) (bK (aj2 (sub d.1.1 d.1.2.1 (bM d.1.1))) fun h=>cond (gU 0 h.1) (cond (dZ (bM d.1.1) d.1.2.1 (bY .i64 d.1.2.1 h.1)) (cond (gG (sub d.1.1 d.1.2.1 (bY .i64 d.1.2.1 h.1)) [61]) (cond (eH (cu d.2.1 [(6,((cu (sub d.1.1 d.1.2.1 (bY .i64 d.1.2.1 h.1)) [61]),(0,(0,()))))]) 40) (bK (pJ (cu d.2.1 [(6,((cu (sub d.1.1 d.1.2.1 (bY .i64 d.1.2.1 h.1)) [61]),(0,(0,()))))]) d.2.2.1.1 d.2.2.1.2.1 d.2.2.1.2.2.1 d.2.2.1.2.2.2.1 d.2.2.1.2.2.2.2.1 d.2.2.1.2.2.2.2.2.1 d.2.2.1.2.2.2.2.2.2.1 d.2.2.1.2.2.2.2.2.2.2.1 d.2.2.1.2.2.2.2.2.2.2.2.1 d.2.2.2.1.1 d.2.2.2.1.2.1 d.2.2.2.1.2.2.1 d.2.2.2.1.2.2.2.1 d.2.2.2.1.2.2.2.2.1 d.2.2.2.1.2.2.2.2.2.1 d.2.2.2.1.2.2.2.2.2.2.1 d.2.2.2.1.2.2.2.2.2.2.2.1 d.2.2.2.1.2.2.2.2.2.2.2.2.1) fun i=>dO i (fun q=>a7) (fun e=>a6 ((e.2.1.1,(e.2.1.2.1,(e.2.1.2.2.1,(e.2.1.2.2.2.1,(e.2.1.2.2.2.2.1,(e.2.1.2.2.2.2.2.1,(e.2.1.2.2.2.2.2.2.1,(e.2.1.2.2.2.2.2.2.2.1,(e.2.1.2.2.2.2.2.2.2.2.1,()))))))))),()))) a7) a7) a7)<|cond (eH (cu d.2.1 [(6,([95],(0,(0,()))))]) 40) (bK (pJ (cu d.2.1 [(6,([95],(0,(0,()))))]) d.2.2.1.1 d.2.2.1.2.1 d.2.2.1.2.2.1 d.2.2.1.2.2.2.1 d.2.2.1.2.2.2.2.1 d.2.2.1.2.2.2.2.2.1 d.2.2.1.2.2.2.2.2.2.1 d.2.2.1.2.2.2.2.2.2.2.1 d.2.2.1.2.2.2.2.2.2.2.2.1 d.2.2.2.1.1 d.2.2.2.1.2.1 d.2.2.2.1.2.2.1 d.2.2.2.1.2.2.2.1 d.2.2.2.1.2.2.2.2.1 d.2.2.2.1.2.2.2.2.2.1 d.2.2.2.1.2.2.2.2.2.2.1 d.2.2.2.1.2.2.2.2.2.2.2.1 d.2.2.2.1.2.2.2.2.2.2.2.2.1) fun i=>dO i (fun q=>a7) (fun e=>a6 ((e.2.1.1,(e.2.1.2.1,(e.2.1.2.2.1,(e.2.1.2.2.2.1,(e.2.1.2.2.2.2.1,(e.2.1.2.2.2.2.2.1,(e.2.1.2.2.2.2.2.2.1,(e.2.1.2.2.2.2.2.2.2.1,(e.2.1.2.2.2.2.2.2.2.2.1,()))))))))),()))) a7) a7) (fun g=>a6 ((g.2.1.1,(g.2.1.2.1,(g.2.1.2.2.1,(g.2.1.2.2.2.1,(g.2.1.2.2.2.2.1,(g.2.1.2.2.2.2.2.1,(g.2.1.2.2.2.2.2.2.1,(g.2.1.2.2.2.2.2.2.2.1,(g.2.1.2.2.2.2.2.2.2.2.1,()))))))))),()))
def aHf:Sum:=⟨[.pair cZ tyG,.str,cZ,.bool],tzK,fun x=>axa x.1 x.2.1 x.2.2.1 x.2.2.2.1⟩
noncomputable def Nu:Env:=iW prog tt 27 [(25,aBl),(26,aqt),(49,aHs),(56,aBG),(57,aHw)] [(4,aGE),(27,ax8),(17,ax7),(800014,ED)] [(4,ayG),(27,aos),(17,aor),(800014,SN)]
def azS {d:Type} (a:aoM.den->Option d) (b:aej.den->Option d) (c:aeS.den->Option d) (v:aoM.den):Option d:=bN (afp (fun e f g h i j l m o p q s u x y z A B D E G I J=>a ((e,f,g,h,()),(i,(j,l,m,o,p,q,s,u,x,()),(y,z,A,B,D,E,G,I,J,()),()))) (fun K L M N O S U V W X Y Z ab ad af ag ah ai aj ak al=>b ((K,L,()),(M,(N,O,S,U,V,W,X,Y,Z,()),(ab,ad,af,ag,ah,ai,aj,ak,al,()),()))) (bE c)) v
theorem aKI:dY Nu 27 aFZ ayG:=uz (azS) (h2:=by intros;simp only[azS,bE,bN,afp,dw,dA,bJ,dh,dB,jG,DR])
def ap1 {d:Type} (a:adJ.den->Option d) (b:UB.den->Option d) (c:UI.den->Option d) (v:adJ.den):Option d:=bO (Vp (fun e f g h i j l m o p q s u x y z A B D E G I J K L=>a ((e,f,g,h,i,j,l,()),((m,o,p,q,s,u,x,y,z,()),(A,B,D,E,G,I,J,K,L,()),()))) (fun M N O S U V W X Y Z ab ad af ag ah ai aj ak al an ao au av aw=>b ((M,N,O,S,U,V,()),((W,X,Y,Z,ab,ad,af,ag,ah,()),(ai,aj,ak,al,an,ao,au,av,aw,()),()))) (bE c)) v
theorem aE8:dY Nu 27 auV aos:=uz (ap1) (h2:=by intros;simp only[ap1,bE,bO,Vp,dw,dA,bJ,dh,dB])
def ap0 {d:Type} (a:adI.den->Option d) (b:UA.den->Option d) (c:UH.den->Option d) (v:adI.den):Option d:=bR (Vo (fun e f g h i j l m o p q s u x y z A B D E G=>a ((e,f,g,()),((h,i,j,l,m,o,p,q,s,()),(u,x,y,z,A,B,D,E,G,()),()))) (fun I J K L M N O S U V W X Y Z ab ad af ag=>b ((),((I,J,K,L,M,N,O,S,U,()),(V,W,X,Y,Z,ab,ad,af,ag,()),()))) (bE c)) v
theorem aE7:dY Nu 27 auU aor:=uz (ap0) (h2:=by intros;simp only[ap0,bE,bR,Vo,dw,dA,bJ,dh,dB,nI,JB])
theorem Zx {R:Type} (d:Nat) (K:Ex->St->Option R) (e:List gQ) (f:Int) (g:Int) (h:Int) (i:Int) (j:bU) (l:Bool) (m:bU) (o:Int) (p:Int) (q:Int) (s:Int) (u:Int) (v:Int) (x:bU) (y:Bool) (z:bU) (A:Int) (B:Int):
  iter (a6 ED) (tH (qR Nu (d+24) 27 Ed)) 1 (jf LX ((e,()),((f,g,h,i,j,l,m,o,p,()),(q,s,u,v,x,y,z,A,B,()),()))) K=
   Bl (K (.exit 0) (jf AU ((),()))) (fun D E G I J L M N O=>K .ret (jf A7 ((),((D,E,G,I,J,L,M,N,O,()),())))) e f g h i j l m o p q s u v x y z A B:=by kernel_rfl
theorem ahr {R:Type} (d:Nat) (K:Ex->St->Option R) (e:List gQ) (f:Int) (g:Int) (h:Int) (i:Int) (j:bU) (l:Bool) (m:bU) (p:Int) (q:Int) (s:Int) (u:Int) (v:Int) (x:Int) (y:bU) (z:Bool) (A:bU) (B:Int) (D:Int):
  iter (a6 ED) (tH (qR Nu (d+24) 27 Ed)) 1 (jf LX ((e,()),((f,g,h,i,j,l,m,p,q,()),(s,u,v,x,y,z,A,B,D,()),()))) K=bK (pJ e f g h i j l m p q s u v x y z A B D) fun o=>dO o (fun a=>K (.exit 0) (jf AU a)) fun b=>K .ret (jf A7 b):=by
  rw[Zx];simp only[pJ,Bl,dw,dA,bJ,dh,dB]
  try simp only[dO]
theorem ah3:qF Nu 27 Ed SN:=wL (by kernel_rfl) fun R d K v o h=>⟨1,(ahr d K (v.1.1) (v.2.1.1) (v.2.1.2.1) (v.2.1.2.2.1) (v.2.1.2.2.2.1) (v.2.1.2.2.2.2.1) (v.2.1.2.2.2.2.2.1) (v.2.1.2.2.2.2.2.2.1) (v.2.1.2.2.2.2.2.2.2.1) (v.2.1.2.2.2.2.2.2.2.2.1) (v.2.2.1.1) (v.2.2.1.2.1) (v.2.2.1.2.2.1) (v.2.2.1.2.2.2.1) (v.2.2.1.2.2.2.2.1) (v.2.2.1.2.2.2.2.2.1) (v.2.2.1.2.2.2.2.2.2.1) (v.2.2.1.2.2.2.2.2.2.2.1) (v.2.2.1.2.2.2.2.2.2.2.2.1)).trans (congrArg (fun o=>bK o _) h)⟩
theorem aM6:jk b27=[aFZ,auV,auU]:=by kernel_rfl
theorem aMF:uP Nu 27 b27=[Ed]:=by kernel_rfl
theorem aNm:dR Nu 27 b27:=pz b27 (fun x _ d=>absurd (show false=true from d) (by decide)) (by rw[aM6];exact(aD (fM (aKI)) (aD (fM (aE8)) (aD (fM (aE7)) aN)))) (qj (by rw[aMF];exact(aD (fC (by kernel_rfl) (ah3)) aN)))
theorem avy:fH Nu:=eA f27 (aD aiC (aD Yy (aD PM (aD aiL (aD aBH aN))))) (aNm)
theorem aBm:dX prog 27 aHf:=sA avy
structure FT where
 q10:bU->Int->Int->Option taP
def amd (q:FT):Sum:=⟨[.str,cZ,cZ],tzK,fun x=>q.q10 x.1 x.2.1 x.2.2.1⟩
noncomputable def b10:Code:=(f10.body).getD .skip
noncomputable def aul:Code:=cA (cA (cB (cA (cB (cB (cB (cB (cB (cB (cB (cB (b10))))))))))))
noncomputable def aum:Code:=cA (cA (cB (cA (cB (cB (cB (cB (cB (cB (cB (cB (cB (b10)))))))))))))
noncomputable def Eb:Code:=cB (cB (cB (cB (cB (cB (cB (cB (cB (cB (cB (cB (b10))))))))))))
noncomputable def Ec:Code:=cB (cB (cB (cB (cB (cB (cB (cB (cB (cB (cB (cB (cB (cB (b10))))))))))))))
def axF:eY:=⟨[0,1,2,6,7,8,9,10,11,12,100011],[],[0,1,2,6,7,8,9,10,11],[],[6],[]⟩
def axG:eY:=⟨[0,1,2,6,7,8,9,10,11,13,100016],[],[0,1,2,6,8,9,10,11],[],[6],[]⟩
def Ez:eY:=⟨[0,1,2,6,8,9,10,11,900032],[],[6],[],[6],[]⟩
def EC:eY:=⟨[0,6,8,9,10,18,900040],[],[6],[],[6],[]⟩
def ac6:SP:=⟨us [ci,cg,cg,.u,.u,.u,cL,cg,co,cg,ci,dy,cg] 223,cG⟩
def Uu:SP:=⟨us [ci,cg,cg,.u,.u,.u,cL,cg,co,cg,ci,dy] 224,cG⟩
def UC:SP:=⟨us [] 236,[]⟩
def UR (q:FT) {f:Type} (G:bU->Int->Int->Int->Bool->Int->bU->Int->bU->iD->Bool->Int->Int->Int->Int->bU->Bool->bU->Int->Int->Option f) (I:bU->Int->Int->Int->Bool->Int->bU->bU->iD->Bool->Int->Int->Int->Int->bU->Bool->bU->Int->Int->Option f) (J:Option f) (g:bU) (h i j:Int) (l:Bool) (m:Int) (o:bU) (e:Int) (d:bU) (p:iD) (s:Bool) (u v x y:Int) (z:bU) (A:Bool) (B:bU) (D E:Int):Option f:=cond (gU e (bM d)) (cond (fO d e) (cond (bZ (cO d e) 67) (G g h (bY .i64 i 1) j l m o (bY .i64 e 1) d p s u v x y z A B D E)<|cond (fO d e) (cond (bZ (cO d e) 79) (G g h (bY .i64 i 1) j l m o (bY .i64 e 1) d p s u v x y z A B D E)<|G g h i j l m o (bY .i64 e 1) d p s u v x y z A B D E) a7) a7)<|I g h i j l m o d p s u v x y z A B D E
def Oi (q:FT):Nat->bU->Int->Int->Int->Bool->Int->bU->Int->bU->iD->Bool->Int->Int->Int->Int->bU->Bool->bU->Int->Int->Option (Uu.den⊕UC.den)
 |0,_,_,_,_,_,_,_,_,_,_,_,_,_,_,_,_,_,_,_,_=>a7
 |n+1,d,e,f,g,h,i,j,l,m,o,p,s,u,v,x,y,z,A,B,D=>UR q (Oi q n) (fun E G I J K L M N O S U V W X Y Z ab ad af=>a6 (.inl ((E,G,I,J,K,L,M,()),((N,O,S,()),(U,V,W,X,Y,Z,ab,ad,af,()),())))) (a6 (.inr ((),()))) d e f g h i j l m o p s u v x y z A B D
def aDN (q:FT) (n:Nat) (v:ac6.den):=bS (Oi q n) v
noncomputable def anS (q:FT):dG:=fK axF ac6 Uu UC (.exit 0) (aDN q bV) 6
def ac7:SP:=⟨us [ci,cg,cg,.u,.u,.u,cL,cg,co,cg,ci,dy,.u,cg] 222,cG⟩
def E5:SP:=⟨fy,cG⟩
def Jq:SP:=⟨us eS 229,[c8]⟩
def Jw {h:Type} (e:bU) (f:iD) (g:Int) (q:FT) (i j l:Int) (m:Int->Int->Int->Int->bU->Bool->bU->Int->Int->Option h):Option h:=cond (dZ (bM e) (bY .i64 (dQ f 0 g) 2) (bM e)) (bK (q.q10 (sub e (bY .i64 (dQ f 0 g) 2) (bM e)) (bY .i64 (bY .i64 (bY .i64 i j) (dQ f 0 g)) 2) l) fun d=>m d.1.1 d.1.2.1 d.1.2.2.1 d.1.2.2.2.1 d.1.2.2.2.2.1 d.1.2.2.2.2.2.1 d.1.2.2.2.2.2.2.1 d.1.2.2.2.2.2.2.2.1 d.1.2.2.2.2.2.2.2.2.1) a7
def Jy {h:Type} (f:iD) (e:Int) (d:bU) (i:Int->Int->Int->Int->bU->Bool->bU->Int->Int->Option h) (j l g:Int) (m:bU) (o:Int) (p:bU->Int->Int->Int->Bool->Int->bU->Int->bU->iD->Bool->Int->Int->Int->Int->bU->Bool->bU->Int->Int->Option h) (q:bU) (s u:Bool) (v x y z:Int) (A:bU) (B:Bool) (D:bU) (E G:Int):Option h:=cond (bZ (bY .i64 (dQ f 0 e) 2) (bM d)) (cond (dZ (bM d) (bY .i64 (dQ f 0 e) 2) (bM d)) (i 2 0 (bY .i64 (bY .i64 (bY .i64 j l) (dQ f 0 e)) 2) 0 (sub d (bY .i64 (dQ f 0 e) 2) (bM d)) false [] 0 g) a7)<|cond (dZ (bM d) (bY .i64 (dQ f 0 e) 2) (bM d)) (bK (acj (sub d (bY .i64 (dQ f 0 e) 2) (bM d))) fun I=>cond I.1 (cond (dZ (bM d) (bY .i64 (dQ f 0 e) 2) (bM d)) (i 2 0 (bY .i64 (bY .i64 (bY .i64 j l) (dQ f 0 e)) 2) 0 (sub d (bY .i64 (dQ f 0 e) 2) (bM d)) false [] 0 g) a7)<|bK (Dl (cO m e) [86,73,66,65,82,69]) fun J=>cond J.1 (i 5 0 o 0 [] false [] 0 g)<|p q j g o s l d (dV .i64 e 1) m f u v x y z A B D E G) a7
def UT (q:FT) {o:Type} (I:bU->Int->Int->Int->Bool->Int->bU->Int->bU->iD->Bool->Int->Int->Int->Int->bU->Bool->bU->Int->Int->Option o) (J:bU->Int->Int->Bool->Int->bU->bU->iD->Bool->Int->Int->Int->Int->bU->Bool->bU->Int->Int->Option o) (h:Int->Int->Int->Int->bU->Bool->bU->Int->Int->Option o) (p:bU) (i f m:Int) (s:Bool) (j:Int) (l:bU) (d:Int) (e:bU) (g:iD) (u:Bool) (v x y z:Int) (A:bU) (B:Bool) (D:bU) (E G:Int):Option o:=cond (leI 0 d) (cond (fO e d) (cond (fO g d) (cond (bZ (cO e d) 67) (Jw l g d q i j f h)<|cond (bZ (cO e d) 79) (Jw l g d q i j f h)<|cond (bZ (cO e d) 76) (h 2 0 m 0 [] false [] 0 f)<|cond (bZ (cO e d) 86) (Jy g d l h i j f e m I p s u v x y z A B D E G)<|cond (bZ (cO e d) 73) (Jy g d l h i j f e m I p s u v x y z A B D E G)<|bK (Dl (cO e d) [86,73,66,65,82,69]) fun K=>cond K.1 (h 5 0 m 0 [] false [] 0 f)<|I p i f m s j l (dV .i64 d 1) e g u v x y z A B D E G) a7) a7)<|J p i f s j l e g u v x y z A B D E G
def Oj (q:FT):Nat->bU->Int->Int->Int->Bool->Int->bU->Int->bU->iD->Bool->Int->Int->Int->Int->bU->Bool->bU->Int->Int->Option (E5.den⊕Jq.den)
 |0,_,_,_,_,_,_,_,_,_,_,_,_,_,_,_,_,_,_,_,_=>a7
 |n+1,d,e,f,g,h,i,j,l,m,o,p,s,u,v,x,y,z,A,B,D=>UT q (Oj q n) (fun E G I J K L M N O S U V W X Y Z ab ad=>a6 (.inl ((E,G,I,J,K,L,()),((M,N,O,()),(S,U,V,W,X,Y,Z,ab,ad,()),())))) (fun r0 r1 r2 r3 r4 r5 r6 r7 r8=>a6 (.inr ((),((r0,r1,r2,r3,r4,r5,r6,r7,r8,()),())))) d e f g h i j l m o p s u v x y z A B D
def aDO (q:FT) (n:Nat) (v:ac7.den):=bS (Oj q n) v
noncomputable def anT (q:FT):dG:=fK axG ac7 E5 Jq (.exit 2) (aDO q bV) 12
def LW:SP:=⟨us [ci,.u,.u,.u,.u,.u,cL,.u,co,cg,ci,.u,.u,.u,.u,.u,.u,.u,.ptr 1000018 0] 217,[.box 1000018 31 b8,c8]⟩
def AP:SP:=⟨[],[]⟩
def AY:SP:=⟨us eS 229,[c8]⟩
def Bf (q:FT) {f:Type} (B:Option f) (g:Int->Int->Int->Int->bU->Bool->bU->Int->Int->Option f) (h:bU) (i:Bool) (j:Int) (l:bU) (m o p s:Int) (y:bU) (z:Bool) (u:bU) (v x D E G I:Int) (J:bU) (K:Bool) (L:bU) (M N:Int):Option f:=bK (aw9 l) fun A=>cond (!A.1) (bK (ajT l) fun d=>bK (axa (m,(o,(p,(s,(d.1,(true,(u,(v,(x,()))))))))) h j i) fun e=>g e.1.1 e.1.2.1 e.1.2.2.1 e.1.2.2.2.1 e.1.2.2.2.2.1 e.1.2.2.2.2.2.1 e.1.2.2.2.2.2.2.1 e.1.2.2.2.2.2.2.2.1 e.1.2.2.2.2.2.2.2.2.1)<|bK (axa (m,(o,(p,(s,(y,(z,(u,(v,(x,()))))))))) h j i) fun d=>g d.1.1 d.1.2.1 d.1.2.2.1 d.1.2.2.2.1 d.1.2.2.2.2.1 d.1.2.2.2.2.2.1 d.1.2.2.2.2.2.2.1 d.1.2.2.2.2.2.2.2.1 d.1.2.2.2.2.2.2.2.2.1
def lM (q:FT) (d:bU) (e:Bool) (f:Int) (g:bU) (h i j l:Int) (m:bU) (o:Bool) (p:bU) (s u v x y z:Int) (A:bU) (B:Bool) (D:bU) (E G:Int):Option (AP.den⊕AY.den):=Bf q (a6 (.inl ((),()))) (fun I J K L M N O S U=>a6 (.inr ((),((I,J,K,L,M,N,O,S,U,()),())))) d e f g h i j l m o p s u v x y z A B D E G
noncomputable def SE (q:FT):dG:=fK EC LW AP AY (.exit 0) (fun v=>lM q v.1.1 v.1.2.1 v.1.2.2.1 v.1.2.2.2.1 v.2.1.1 v.2.1.2.1 v.2.1.2.2.1 v.2.1.2.2.2.1 v.2.1.2.2.2.2.1 v.2.1.2.2.2.2.2.1 v.2.1.2.2.2.2.2.2.1 v.2.1.2.2.2.2.2.2.2.1 v.2.1.2.2.2.2.2.2.2.2.1 v.2.2.1.1 v.2.2.1.2.1 v.2.2.1.2.2.1 v.2.2.1.2.2.2.1 v.2.2.1.2.2.2.2.1 v.2.2.1.2.2.2.2.2.1 v.2.2.1.2.2.2.2.2.2.1 v.2.2.1.2.2.2.2.2.2.2.1 v.2.2.1.2.2.2.2.2.2.2.2.1) 18
def LV:SP:=⟨fy,cG⟩
def AO:SP:=⟨[],[]⟩
def AX:SP:=⟨us eS 229,[c8]⟩
def Be (q:FT) {E:Type} (h:Option E) (i:Int->Int->Int->Int->bU->Bool->bU->Int->Int->Option E) (j:bU) (l m:Int) (o:Bool) (e:Int) (p f:bU) (I:iD) (J:Bool) (s u v x:Int) (y:bU) (z:Bool) (A:bU) (B D:Int):Option E:=cond (fO f (dV .i64 (bM f) 1)) (cond (bZ (cO f (dV .i64 (bM f) 1)) 83) (bK (lM q j o e p 1 0 (bY .i64 l e) 4 [] false [] 0 m s u v x y z A B D) fun g=>dO g (fun G=>h) (fun d=>i d.2.1.1 d.2.1.2.1 d.2.1.2.2.1 d.2.1.2.2.2.1 d.2.1.2.2.2.2.1 d.2.1.2.2.2.2.2.1 d.2.1.2.2.2.2.2.2.1 d.2.1.2.2.2.2.2.2.2.1 d.2.1.2.2.2.2.2.2.2.2.1))<|cond (bZ (cO f (dV .i64 (bM f) 1)) 68) (bK (lM q j o e p 1 0 (bY .i64 l e) 5 [] false [] 0 m s u v x y z A B D) fun g=>dO g (fun G=>h) (fun d=>i d.2.1.1 d.2.1.2.1 d.2.1.2.2.1 d.2.1.2.2.2.1 d.2.1.2.2.2.2.1 d.2.1.2.2.2.2.2.1 d.2.1.2.2.2.2.2.2.1 d.2.1.2.2.2.2.2.2.2.1 d.2.1.2.2.2.2.2.2.2.2.1))<|cond (bZ (cO f (dV .i64 (bM f) 1)) 88) (bK (lM q j o e p 1 0 (bY .i64 l e) 13 [] false [] 0 m s u v x y z A B D) fun g=>dO g (fun G=>h) (fun d=>i d.2.1.1 d.2.1.2.1 d.2.1.2.2.1 d.2.1.2.2.2.1 d.2.1.2.2.2.2.1 d.2.1.2.2.2.2.2.1 d.2.1.2.2.2.2.2.2.1 d.2.1.2.2.2.2.2.2.2.1 d.2.1.2.2.2.2.2.2.2.2.1))<|bK (lM q j o e p 1 0 (bY .i64 l e) 0 [] false [] 0 m s u v x y z A B D) fun g=>dO g (fun G=>h) (fun d=>i d.2.1.1 d.2.1.2.1 d.2.1.2.2.1 d.2.1.2.2.2.1 d.2.1.2.2.2.2.1 d.2.1.2.2.2.2.2.1 d.2.1.2.2.2.2.2.2.1 d.2.1.2.2.2.2.2.2.2.1 d.2.1.2.2.2.2.2.2.2.2.1)) a7
def sH (q:FT) (d:bU) (e f:Int) (g:Bool) (h:Int) (i j:bU) (l:iD) (m:Bool) (o p s u:Int) (v:bU) (x:Bool) (y:bU) (z A:Int):Option (AO.den⊕AX.den):=Be q (a6 (.inl ((),()))) (fun B D E G I J K L M=>a6 (.inr ((),((B,D,E,G,I,J,K,L,M,()),())))) d e f g h i j l m o p s u v x y z A
noncomputable def SC (q:FT):dG:=fK Ez LV AO AX (.exit 0) (fun v=>sH q v.1.1 v.1.2.1 v.1.2.2.1 v.1.2.2.2.1 v.1.2.2.2.2.1 v.1.2.2.2.2.2.1 v.2.1.1 v.2.1.2.1 v.2.1.2.2.1 v.2.2.1.1 v.2.2.1.2.1 v.2.2.1.2.2.1 v.2.2.1.2.2.2.1 v.2.2.1.2.2.2.2.1 v.2.2.1.2.2.2.2.2.1 v.2.2.1.2.2.2.2.2.2.1 v.2.2.1.2.2.2.2.2.2.2.1 v.2.2.1.2.2.2.2.2.2.2.2.1) 24
def Wn (q:FT) (d:E5.den):Option taP:=bK (sH q d.1.1 d.1.2.1 d.1.2.2.1 d.1.2.2.2.1 d.1.2.2.2.2.1 d.1.2.2.2.2.2.1 d.2.1.1 d.2.1.2.1 d.2.1.2.2.1 d.2.2.1.1 d.2.2.1.2.1 d.2.2.1.2.2.1 d.2.2.1.2.2.2.1 d.2.2.1.2.2.2.2.1 d.2.2.1.2.2.2.2.2.1 d.2.2.1.2.2.2.2.2.2.1 d.2.2.1.2.2.2.2.2.2.2.1 d.2.2.1.2.2.2.2.2.2.2.2.1) fun f=>dO f (fun g=>a7) (fun e=>a6 ((e.2.1.1,(e.2.1.2.1,(e.2.1.2.2.1,(e.2.1.2.2.2.1,(e.2.1.2.2.2.2.1,(e.2.1.2.2.2.2.2.1,(e.2.1.2.2.2.2.2.2.1,(e.2.1.2.2.2.2.2.2.2.1,(e.2.1.2.2.2.2.2.2.2.2.1,()))))))))),()))
def aCR (q:FT) (g:bU) (j i:Int):Option taP:=bK (aCW g (gU 0 i)) fun o=>cond o.1 (a6 ((4,(0,((bY .i64 j (bM g)),(0,([],(false,([],(0,(i,()))))))))),()))<|bK (aCX g (gU 0 i)) fun p=>cond p.1 (a6 ((3,(0,((bY .i64 j (bM g)),(0,([],(false,([],(0,(i,()))))))))),()))<|bK (aCY g (gU 0 i)) fun l=>cond (dZ (bM g) l.1 (bM g)) (bK (aw7 (sub g l.1 (bM g))) fun m=>bK (Oi q bV g j i (bY .i64 j (bM g)) (gU 0 i) l.1 (sub g l.1 (bM g)) 0 m.1.1 m.1.2.1 m.1.2.2.1 0 0 0 0 [] false [] 0 0) fun s=>dO s (fun e=>bK (Oj q bV e.1.1 e.1.2.1 e.1.2.2.1 e.1.2.2.2.1 e.1.2.2.2.2.1 e.1.2.2.2.2.2.1 e.1.2.2.2.2.2.2.1 (dV .i64 (bM e.2.1.1) 1) e.2.1.1 e.2.1.2.1 e.2.1.2.2.1 e.2.2.1.1 e.2.2.1.2.1 e.2.2.1.2.2.1 e.2.2.1.2.2.2.1 e.2.2.1.2.2.2.2.1 e.2.2.1.2.2.2.2.2.1 e.2.2.1.2.2.2.2.2.2.1 e.2.2.1.2.2.2.2.2.2.2.1 e.2.2.1.2.2.2.2.2.2.2.2.1) fun u=>dO u (fun f=>bK (aw8 f.1.2.2.2.2.2.1) fun d=>cond (gU 0 (bM d.1)) (cond (fO d.1 (dV .i64 (bM d.1) 1)) (cond (bZ (dQ d.1 (0,(0,(0,(0,(false,()))))) (dV .i64 (bM d.1) 1)).1 12) (cond (fO d.1 (dV .i64 (bM d.1) 1)) (cond (bZ (dQ d.1 (0,(0,(0,(0,(false,()))))) (dV .i64 (bM d.1) 1)).2.2.1 (bM f.1.2.2.2.2.2.1)) (cond (fO d.1 (dV .i64 (bM d.1) 1)) (cond (dZ (bM f.1.2.2.2.2.2.1) (bY .i64 (dQ d.1 (0,(0,(0,(0,(false,()))))) (dV .i64 (bM d.1) 1)).2.1 1) (bM f.1.2.2.2.2.2.1)) (bK (acj (sub f.1.2.2.2.2.2.1 (bY .i64 (dQ d.1 (0,(0,(0,(0,(false,()))))) (dV .i64 (bM d.1) 1)).2.1 1) (bM f.1.2.2.2.2.2.1))) fun v=>cond v.1 (cond (fO d.1 (dV .i64 (bM d.1) 1)) (cond (dZ (bM f.1.2.2.2.2.2.1) (bY .i64 (dQ d.1 (0,(0,(0,(0,(false,()))))) (dV .i64 (bM d.1) 1)).2.1 1) (bM f.1.2.2.2.2.2.1)) (cond (fO d.1 (dV .i64 (bM d.1) 1)) (a6 ((2,(0,((bY .i64 (bY .i64 (bY .i64 f.1.2.1 f.1.2.2.2.2.1) (dQ d.1 (0,(0,(0,(0,(false,()))))) (dV .i64 (bM d.1) 1)).2.1) 1),(0,((sub f.1.2.2.2.2.2.1 (bY .i64 (dQ d.1 (0,(0,(0,(0,(false,()))))) (dV .i64 (bM d.1) 1)).2.1 1) (bM f.1.2.2.2.2.2.1)),(false,([],(0,(f.1.2.2.1,()))))))))),())) a7) a7) a7)<|Wn q f) a7) a7)<|Wn q f) a7)<|Wn q f) a7)<|Wn q f) (fun h=>a6 ((h.2.1.1,(h.2.1.2.1,(h.2.1.2.2.1,(h.2.1.2.2.2.1,(h.2.1.2.2.2.2.1,(h.2.1.2.2.2.2.2.1,(h.2.1.2.2.2.2.2.2.1,(h.2.1.2.2.2.2.2.2.2.1,(h.2.1.2.2.2.2.2.2.2.2.1,()))))))))),()))) (fun x=>a7)) a7
noncomputable def FX (q:FT):Env:=iW prog tt 10 [(22,abh),(10,amd q),(23,aqi),(18,aHb),(19,aHc),(20,aHd),(21,aHe),(24,aBj),(25,aBl),(26,aqt),(27,aHf)] [(11,axF),(16,axG),(800032,Ez),(800040,EC)] [(11,anS q),(16,anT q),(800040,SE q),(800032,SC q)]
def apq (q:FT) {d:Type} (a:ac6.den->Option d) (b:Uu.den->Option d) (c:UC.den->Option d) (v:ac6.den):Option d:=bS (UR q (fun e f g h i j l m o p s u x y z A B D E G=>a ((e,f,g,h,i,j,l,m,()),((o,p,s,()),(u,x,y,z,A,B,D,E,G,()),()))) (fun I J K L M N O S U V W X Y Z ab ad af ag ah=>b ((I,J,K,L,M,N,O,()),((S,U,V,()),(W,X,Y,Z,ab,ad,af,ag,ah,()),()))) (c ((),()))) v
theorem aEy (q:FT):dY (FX q) 10 aul (anS q):=uz (apq q) (h2:=by intros;simp only[apq,bS,UR,dw,dA,bJ,dh,dB])
def apr (q:FT) {d:Type} (a:ac7.den->Option d) (b:E5.den->Option d) (c:Jq.den->Option d) (v:ac7.den):Option d:=bS (UT q (fun e f g h i j l m o p s u x y z A B D E G=>a ((e,f,g,h,i,j,l,m,()),((o,p,s,()),(u,x,y,z,A,B,D,E,G,()),()))) (fun I J K L M N O S U V W X Y Z ab ad af ag=>b ((I,J,K,L,M,N,()),((O,S,U,()),(V,W,X,Y,Z,ab,ad,af,ag,()),()))) (bE c)) v
theorem aEz (q:FT):dY (FX q) 10 aum (anT q):=uz (apr q) (h2:=by intros;simp only[apr,bE,bS,UT,dw,dA,bJ,dh,dB,Jw,Jy])
theorem Zw (q:FT) {R:Type} (d:Nat) (K:Ex->St->Option R) (e:bU) (f:Bool) (g:Int) (h:bU) (i j l m:Int) (o:bU) (p:Bool) (s:bU) (u v x y z A:Int) (B:bU) (D:Bool) (E:bU) (G I:Int):
  iter (a6 EC) (tH (qR (FX q) (d+18) 10 Ec)) 1 (jf LW ((e,f,g,h,()),((i,j,l,m,o,p,s,u,v,()),(x,y,z,A,B,D,E,G,I,()),()))) K=
   Bf q (K (.exit 0) (jf AP ((),()))) (fun J L M N O S U V W=>K .ret (jf AY ((),((J,L,M,N,O,S,U,V,W,()),())))) e f g h i j l m o p s u v x y z A B D E G I:=by kernel_rfl
theorem ahq (q:FT) {R:Type} (d:Nat) (K:Ex->St->Option R) (e:bU) (f:Bool) (g:Int) (h:bU) (i j l m:Int) (p:bU) (s:Bool) (u:bU) (v x y z A B:Int) (D:bU) (E:Bool) (G:bU) (I J:Int):
  iter (a6 EC) (tH (qR (FX q) (d+18) 10 Ec)) 1 (jf LW ((e,f,g,h,()),((i,j,l,m,p,s,u,v,x,()),(y,z,A,B,D,E,G,I,J,()),()))) K=bK (lM q e f g h i j l m p s u v x y z A B D E G I J) fun o=>dO o (fun a=>K (.exit 0) (jf AP a)) fun b=>K .ret (jf AY b):=by
  rw[Zw];simp only[lM,Bf,dw,dA,bJ,dh,dB]
  try simp only[dO]
theorem ahW (q:FT):qF (FX q) 10 Ec (SE q):=wL (by kernel_rfl) fun R d K v o h=>⟨1,(ahq q d K (v.1.1) (v.1.2.1) (v.1.2.2.1) (v.1.2.2.2.1) (v.2.1.1) (v.2.1.2.1) (v.2.1.2.2.1) (v.2.1.2.2.2.1) (v.2.1.2.2.2.2.1) (v.2.1.2.2.2.2.2.1) (v.2.1.2.2.2.2.2.2.1) (v.2.1.2.2.2.2.2.2.2.1) (v.2.1.2.2.2.2.2.2.2.2.1) (v.2.2.1.1) (v.2.2.1.2.1) (v.2.2.1.2.2.1) (v.2.2.1.2.2.2.1) (v.2.2.1.2.2.2.2.1) (v.2.2.1.2.2.2.2.2.1) (v.2.2.1.2.2.2.2.2.2.1) (v.2.2.1.2.2.2.2.2.2.2.1) (v.2.2.1.2.2.2.2.2.2.2.2.1)).trans (congrArg (fun o=>bK o _) h)⟩
theorem Zv (q:FT) {R:Type} (d:Nat) (K:Ex->St->Option R) (e:bU) (f g:Int) (h:Bool) (i:Int) (j l:bU) (m:iD) (o:Bool) (p s u v:Int) (x:bU) (y:Bool) (z:bU) (A B:Int):
  iter (a6 Ez) (tH (qR (FX q) (d+24) 10 Eb)) 1 (jf LV ((e,f,g,h,i,j,()),((l,m,o,()),(p,s,u,v,x,y,z,A,B,()),()))) K=
   Be q (K (.exit 0) (jf AO ((),()))) (fun D E G I J L M N O=>K .ret (jf AX ((),((D,E,G,I,J,L,M,N,O,()),())))) e f g h i j l m o p s u v x y z A B:=by kernel_rfl
theorem ahp (q:FT) {R:Type} (d:Nat) (K:Ex->St->Option R) (e:bU) (f g:Int) (h:Bool) (i:Int) (j l:bU) (m:iD) (p:Bool) (s u v x:Int) (y:bU) (z:Bool) (A:bU) (B D:Int):
  iter (a6 Ez) (tH (qR (FX q) (d+24) 10 Eb)) 1 (jf LV ((e,f,g,h,i,j,()),((l,m,p,()),(s,u,v,x,y,z,A,B,D,()),()))) K=bK (sH q e f g h i j l m p s u v x y z A B D) fun o=>dO o (fun a=>K (.exit 0) (jf AO a)) fun b=>K .ret (jf AX b):=by
  rw[Zv];simp only[sH,Be,dw,dA,bJ,dh,dB]
  try simp only[dO]
theorem ahV (q:FT):qF (FX q) 10 Eb (SC q):=wL (by kernel_rfl) fun R d K v o h=>⟨1,(ahp q d K (v.1.1) (v.1.2.1) (v.1.2.2.1) (v.1.2.2.2.1) (v.1.2.2.2.2.1) (v.1.2.2.2.2.2.1) (v.2.1.1) (v.2.1.2.1) (v.2.1.2.2.1) (v.2.2.1.1) (v.2.2.1.2.1) (v.2.2.1.2.2.1) (v.2.2.1.2.2.2.1) (v.2.2.1.2.2.2.2.1) (v.2.2.1.2.2.2.2.2.1) (v.2.2.1.2.2.2.2.2.2.1) (v.2.2.1.2.2.2.2.2.2.2.1) (v.2.2.1.2.2.2.2.2.2.2.2.1)).trans (congrArg (fun o=>bK o _) h)⟩
theorem aN4 (q:FT) (d:bU) (e f:Int):TY (FX q) 10 [.str,cZ,cZ] tzK (d,e,f,())=aCR q d e f:=by kernel_rfl
theorem aM5:jk b10=[aul,aum]:=by kernel_rfl
theorem aME (q:FT):uP (FX q) 10 b10=[Eb,Ec]:=by kernel_rfl
theorem aNd (q:FT):dR (FX q) 10 b10:=pz b10 (fun x _ d=>absurd (show false=true from d) (by decide)) (by rw[aM5];exact(aD (fM (aEy q)) (aD (fM (aEz q)) aN))) (qj (by rw[aME];exact(aD (fC (by kernel_rfl) (ahV q)) (aD (fC (by kernel_rfl) (ahW q)) aN))))
theorem avj (q:FT) (d:dX prog 10 (amd q)):fH (FX q):=eA f10 (aD Il (aD d (aD zJ (aD aBb (aD aBd (aD aBf (aD aiA (aD aiB (aD aiC (aD Yy (aD aBm aN))))))))))) (aNd q)
def Y5:Nat->FT
 |0=>⟨(fun _ _ _=>a7)⟩
 |r+1=>⟨aCR (Y5 r)⟩
def aCT (d:bU) (e f:Int):Option taP:=(Y5 bV).q10 d e f
def aOa:Sum:=⟨[.str,cZ,cZ],tzK,fun x=>aCT x.1 x.2.1 x.2.2.1⟩
theorem azB: ∀r,dX prog 10 (amd (Y5 r))
 |0=>fun w f g x y _ _ _ d=>nomatch (show(a7:Option _)=a6 y from d)
 |r+1=>by
  have e:=azB r;exact MM (avj (Y5 r) e) (by first|exact Nat.zero_le 1|exact ae 1) fun x y h=>(aN4 (Y5 r) (x.1) (x.2.1) (x.2.2.1)).trans h
theorem aAH:dX prog 10 aOa:=(azB bV)
end
end Go.Proofs.YtdfhjhkcjecmlaaGreatDoor
