/- Parts of the proof, joined and shortened by a program: the plain machine, the functions as it prints them, and the mathematics over them. -/
import Derived.Test.YtdfhjhkcjecmlaaGreatDoorZ3
import Derived.Test.YtdfhjhkcjecmlaaGreatDoorZ4
import Derived.Test.YtdfhjhkcjecmlaaGreatDoorZ5
import Derived.Test.YtdfhjhkcjecmlaaGreatDoorZ6
set_option linter.unusedVariables false
set_option linter.unusedSimpArgs false
set_option maxRecDepth 100000
set_option maxHeartbeats 4000000
namespace Go.Proofs.YtdfhjhkcjecmlaaGreatDoor
section
open Option renaming some → a6, none → a7
open Tryz
open Go.RowKit
noncomputable def b37:Code:=(f37.body).getD .skip
noncomputable def aF3:Code:=cA (cA (cB (cA (cB (cB (b37))))))
def aGH:eY:=⟨[3,6,7,8,100003],[],[3],[],[2],[]⟩
def aoQ:SP:=⟨us [.u,.u,.u,cg,.u,.u,eh,cg,cg] 15,[]⟩
def ak1:SP:=⟨us [.u,.u,.u,cg] 20,[]⟩
def alB:SP:=⟨us eT 21,[]⟩
def aft {h:Type} (i:Int->(List lD)->Int->Int->Option h) (j l:Int->Option h) (f:Int) (e:List lD) (g d:Int):Option h:=cond (gU d g) (cond (fO e d) (cond (bZ (dQ e (0,(0,())) d).1 1) (i (bY .i64 f 1) e g (bY .i64 d 1))<|cond (bZ (dQ e (0,(0,())) d).1 3) (i (bY .i64 f 1) e g (bY .i64 d 1))<|i f e g (bY .i64 d 1)) a7)<|j f
def Qy:Nat->Int->(List lD)->Int->Int->Option (ak1.den⊕alB.den)
 |0,_,_,_,_=>a7
 |n+1,d,e,f,g=>aft (Qy n) (fun h=>a6 (.inl ((h,()),()))) (fun i=>a6 (.inr ((i,()),()))) d e f g
def aJ5 (n:Nat) (v:aoQ.den):=aR (Qy n) v
noncomputable def ayK:dG:=fK aGH aoQ ak1 alB (.exit 0) (aJ5 bV) 6
def aC3 (d:List lD):Option zN:=bK (Qy bV 0 d (bM d) 0) fun e=>dO e (fun f=>a6 (f.1.1,())) (fun g=>a6 (g.1.1,()))
def aHl:Sum:=⟨[.list J4],TL,fun x=>aC3 x.1⟩
noncomputable def avG:Env:=iW prog tt 37 [] [(3,aGH)] [(3,ayK)]
def azW {d:Type} (a:aoQ.den->Option d) (b:ak1.den->Option d) (c:alB.den->Option d) (v:aoQ.den):Option d:=aR (aft (aM a) (aE b) (aE c)) v
theorem aKM:dY avG 37 aF3 ayK:=uz (azW) (h2:=by intros;simp only[azW,aM,aE,aR,aft,dw,dA,bJ,dh,dB])
theorem aNq:dR avG 37 b37:=oq [aF3] (aD (fM (aKM)) aN)
theorem avH:fH avG:=eA f37 aN (aNq)
theorem aBt:dX prog 37 aHl:=sA avH
noncomputable def b38:Code:=(f38.body).getD .skip
noncomputable def abD:Code:=(f104.body).getD .skip
noncomputable def ZM:Code:=cA (cA (cB (abD)))
def aao:eY:=⟨[0,1,3,75000001],[],[],[],[],[]⟩
def Jm:SQ:=⟨us [.yld 1700007,em,.u,cg] 26,eM,da⟩
def L6:SQ:=⟨us [] 30,eM,da⟩
def Md:SQ:=⟨us [] 30,eM,[.lp 1700007 38 (us [.u,.u,cS,cw] 6) [7] 3 1 (a6 .ret),fN,dk,.box 1000002 76 [cg,cg]]⟩
def lV {f:Type} (d:List lD) (e:Int) (g:(List lD)->Bool->Int->Int->Option f):Option f:=cond (fO d e) (g d true (dQ d (0,(0,())) e).1 (dQ d (0,(0,())) e).2.1) a7
def FI {l:Type} (i:Int->(List lD)->Bool->Int->Int->Option l) (m j:(List lD)->Bool->Int->Int->Option l) (d:Int) (e:List lD) (f:Bool) (g h:Int):Option l:=cond (leI 0 d) (cond (fO e d) (cond (bZ (dQ e (0,(0,())) d).1 0) (cond (bZ (dQ e (0,(0,())) d).1 0) (i (dV .i64 d 1) e f g h)<|lV e d j)<|cond (bZ (dQ e (0,(0,())) d).1 2) (cond (bZ (dQ e (0,(0,())) d).1 2) (i (dV .i64 d 1) e f g h)<|lV e d j)<|cond (bZ (dQ e (0,(0,())) d).1 4) (cond (bZ (dQ e (0,(0,())) d).1 4) (i (dV .i64 d 1) e f g h)<|lV e d j)<|cond (bZ (dQ e (0,(0,())) d).1 5) (cond (bZ (dQ e (0,(0,())) d).1 5) (i (dV .i64 d 1) e f g h)<|lV e d j)<|cond (bZ (dQ e (0,(0,())) d).1 13) (cond (bZ (dQ e (0,(0,())) d).1 13) (i (dV .i64 d 1) e f g h)<|lV e d j)<|cond (bZ (dQ e (0,(0,())) d).1 14) (i (dV .i64 d 1) e f g h)<|lV e d j) a7)<|m e f g h
def zA:Nat->Int->(List lD)->Bool->Int->Int->Option (L6.den⊕Md.den)
 |0,_,_,_,_,_=>a7
 |n+1,d,e,f,g,h=>FI (zA n) (fun i j l m=>a6 (.inl ((),((),(),(),()),((),(i,()),(j,()),(l,m,()),())))) (fun o p q s=>a6 (.inr ((),((),(),(),()),((),(o,()),(p,()),(q,s,()),())))) d e f g h
def akC (n:Nat) (v:Jm.den):=zA n v.1.1 v.2.2.2.1.1 v.2.2.2.2.1.1 v.2.2.2.2.2.1.1 v.2.2.2.2.2.1.2.1
noncomputable def Xp:dG:=fQ aao Jm L6 Md (.exit 0) (akC bV) 6
def aC4 (e:List lD):Option (lD×Bool×Unit):=bK (zA bV (dV .i64 (bM e) 1) e false 0 0) fun f=>dO f (fun g=>a6 ((0,(0,())),(false,()))) (fun d=>a6 ((d.2.2.2.2.2.1.1,(d.2.2.2.2.2.1.2.1,())),(d.2.2.2.2.1.1,())))
def aHm:Sum:=⟨[.list J4],[(.pair cZ (.pair cZ .unit),false),(.bool,false)],fun x=>aC4 x.1⟩
noncomputable def amO:Env:=gZ prog tt [] [(104,1,aao),(38,500003,anK),(38,600001,anG),(104,600010,Sl)] [(104,1,Xp)] [38]
def Ya {d:Type} (a:Jm.den->Option d) (b:L6.den->Option d) (c:Md.den->Option d) (v:Jm.den):Option d:=FI (fun e f g h i=>a ((e,()),((),(),(),()),((),(f,()),(g,()),(h,i,()),()))) (fun j l m o=>b ((),((),(),(),()),((),(j,()),(l,()),(m,o,()),()))) (fun p q s u=>c ((),((),(),(),()),((),(p,()),(q,()),(s,u,()),()))) v.1.1 v.2.2.2.1.1 v.2.2.2.2.1.1 v.2.2.2.2.2.1.1 v.2.2.2.2.2.1.2.1
theorem akK:dY amO 104 ZM Xp:=lT (Ya) (h2:=by intros;simp only[Ya,FI,dw,dA,bJ,dh,dB,lV])
theorem aM7:jk b38=[]:=by kernel_rfl
theorem aN0:jY b38=[(cA (cA (cB (cA (cB (b38))))),cB (cA (cB (cA (cB (b38))))))]:=by kernel_rfl
theorem aNr:dR amO 38 b38:=sG b38 (by rw[aN0];exact(aD (fun _=>(show uq 38 3=a6 (cA (cA (cB (cA (cB (b38))))),cB (cA (cB (cA (cB (b38)))))) by kernel_rfl)) aN)) (by rw[aM7];exact aN)
theorem ase:dR amO 104 abD:=oq [ZM] (aD (fM (akK)) aN)
theorem avI:fH amO:=eB aN [38,104] (aD ⟨f38,b38,by kernel_rfl,by kernel_rfl,aNr⟩ (aD ⟨f104,abD,by kernel_rfl,by kernel_rfl,ase⟩ aN))
theorem aBu:dX prog 38 aHm:=sA avI
def Ep (d:List lD):=dQ d (0,(0,())) (dV .i64 (bM d) 1)
def aC7 (d:List lD):Option zN:=cond (fO d (dV .i64 (bM d) 1)) (cond (bZ (Ep d).1 4) (cond (bZ (Ep d).1 4) (a6 ((Ep d).1,()))<|some (0,()))<|cond (bZ (Ep d).1 5) (cond (bZ (Ep d).1 5) (a6 ((Ep d).1,()))<|some (0,()))<|cond (bZ (Ep d).1 13) (a6 ((Ep d).1,()))<|some (0,())) a7
def aHq:Sum:=⟨[.list J4],TL,fun x=>aC7 x.1⟩
theorem aBx:dX prog 43 aHq:=qA f43 [] aN
def aC6 (e:bU):Option YG:=bK (arX e) fun d=>cond (bZ (bM d.1) 0) (a6 ([],()))<|cond (fO d.1 (dV .i64 (bM d.1) 1)) (cond (!(bZ (dQ d.1 (0,(0,(0,(0,(false,()))))) (dV .i64 (bM d.1) 1)).1 12)) (a6 ([],()))<|cond (!(bZ (dQ d.1 (0,(0,(0,(0,(false,()))))) (dV .i64 (bM d.1) 1)).2.2.1 (bM e))) (a6 ([],()))<|cond (dZ (bM e) (bY .i64 (dQ d.1 (0,(0,(0,(0,(false,()))))) (dV .i64 (bM d.1) 1)).2.1 1) (bM e)) (bK (WH (sub e (bY .i64 (dQ d.1 (0,(0,(0,(0,(false,()))))) (dV .i64 (bM d.1) 1)).2.1 1) (bM e))) fun f=>cond (!f.1) (a6 ([],()))<|cond (dZ (bM e) (bY .i64 (dQ d.1 (0,(0,(0,(0,(false,()))))) (dV .i64 (bM d.1) 1)).2.1 1) (bM e)) (a6 ((sub e (bY .i64 (dQ d.1 (0,(0,(0,(0,(false,()))))) (dV .i64 (bM d.1) 1)).2.1 1) (bM e)),())) a7) a7) a7
def aHo:Sum:=⟨[.str],tzG,fun x=>aC6 x.1⟩
theorem aBw:dX prog 41 aHo:=qA f41 [] (sE PN (sE YC aN))
def ajU (d:bU) (e f:Int) (g:List oG) (h i j:Int) (l m:Bool) (o:Int):Option taK:=a6 ((d,(e,(f,(g,(h,(i,(j,(l,(m,()))))))))),((o,(0,((bY .i64 e (bM d)),(0,([],(false,([],(0,(f,()))))))))),()))
def aHj:gK:=⟨69,tzC,[cZ],[.pair cZ tyG],fun x y=>ajU x.1 x.2.1 x.2.2.1 x.2.2.2.1 x.2.2.2.2.1 x.2.2.2.2.2.1 x.2.2.2.2.2.2.1 x.2.2.2.2.2.2.2.1 x.2.2.2.2.2.2.2.2.1 y.1⟩
theorem aiF:eP prog 34 aHj:=qB [] aN
def ag4 (d:bU) (e f:Int) (h:List oG) (i j l:Int) (m o:Bool) (g:bU):Option taK:=a6 ((d,(e,(f,(h,(i,(j,(l,(m,(o,()))))))))),((2,(0,((dV .i64 (bY .i64 e (bM d)) (bM g)),(0,(g,(false,([],(0,(f,()))))))))),()))
def aHp:gK:=⟨69,tzC,[.str],[.pair cZ tyG],fun x y=>ag4 x.1 x.2.1 x.2.2.1 x.2.2.2.1 x.2.2.2.2.1 x.2.2.2.2.2.1 x.2.2.2.2.2.2.1 x.2.2.2.2.2.2.2.1 x.2.2.2.2.2.2.2.2.1 y.1⟩
theorem aiH:eP prog 42 aHp:=qB [] aN
def ajV (f:bU) (g h:Int) (i:List oG) (j l m:Int) (o p:Bool) (e:bU) (q:lD):Option taK:=bK (ag4 f g h i j l m o p (sub e (bY .i64 q.2.1 2) (bM e))) fun d=>a6 ((d.1.1,(d.1.2.1,(d.1.2.2.1,(d.1.2.2.2.1,(d.1.2.2.2.2.1,(d.1.2.2.2.2.2.1,(d.1.2.2.2.2.2.2.1,(d.1.2.2.2.2.2.2.2.1,(d.1.2.2.2.2.2.2.2.2.1,()))))))))),((d.2.1.1,(d.2.1.2.1,(d.2.1.2.2.1,(d.2.1.2.2.2.1,(d.2.1.2.2.2.2.1,(d.2.1.2.2.2.2.2.1,(d.2.1.2.2.2.2.2.2.1,(d.2.1.2.2.2.2.2.2.2.1,(d.2.1.2.2.2.2.2.2.2.2.1,()))))))))),()))
def acl (e:bU) (f g:Int) (h:List oG) (i j l:Int) (m o:Bool):Option taK:=bK (ajU e f g h i j l m o 5) fun d=>a6 ((d.1.1,(d.1.2.1,(d.1.2.2.1,(d.1.2.2.2.1,(d.1.2.2.2.2.1,(d.1.2.2.2.2.2.1,(d.1.2.2.2.2.2.2.1,(d.1.2.2.2.2.2.2.2.1,(d.1.2.2.2.2.2.2.2.2.1,()))))))))),((d.2.1.1,(d.2.1.2.1,(d.2.1.2.2.1,(d.2.1.2.2.2.1,(d.2.1.2.2.2.2.1,(d.2.1.2.2.2.2.2.1,(d.2.1.2.2.2.2.2.2.1,(d.2.1.2.2.2.2.2.2.2.1,(d.2.1.2.2.2.2.2.2.2.2.1,()))))))))),()))
def ajW (d:bU) (e:lD) (f:bU) (g h:Int) (i:List oG) (j l m:Int) (o p:Bool):Option taK:=cond (dZ (bM d) (bY .i64 e.2.1 2) (bM d)) (cond (gm (sub d (bY .i64 e.2.1 2) (bM d)) []) (ajV f g h i j l m o p d e)<|bK (WH (sub d (bY .i64 e.2.1 2) (bM d))) fun q=>cond q.1 (ajV f g h i j l m o p d e)<|acl f g h i j l m o p) a7
def aC5 (f:bU) (g h:Int) (i:List oG) (j l m:Int) (o p:Bool) (e:lD) (q:bU):Option taK:=cond (bZ e.1 12) (bK (ag4 f g h i j l m o p []) fun d=>a6 ((d.1.1,(d.1.2.1,(d.1.2.2.1,(d.1.2.2.2.1,(d.1.2.2.2.2.1,(d.1.2.2.2.2.2.1,(d.1.2.2.2.2.2.2.1,(d.1.2.2.2.2.2.2.2.1,(d.1.2.2.2.2.2.2.2.2.1,()))))))))),((d.2.1.1,(d.2.1.2.1,(d.2.1.2.2.1,(d.2.1.2.2.2.1,(d.2.1.2.2.2.2.1,(d.2.1.2.2.2.2.2.1,(d.2.1.2.2.2.2.2.2.1,(d.2.1.2.2.2.2.2.2.2.1,(d.2.1.2.2.2.2.2.2.2.2.1,()))))))))),())))<|cond (bZ e.1 7) (cond (bZ e.1 7) (ajW q e f g h i j l m o p)<|acl f g h i j l m o p)<|cond (bZ e.1 8) (ajW q e f g h i j l m o p)<|acl f g h i j l m o p
def aHn:gK:=⟨69,tzC,[J4,.str],[.pair cZ tyG],fun x y=>aC5 x.1 x.2.1 x.2.2.1 x.2.2.2.1 x.2.2.2.2.1 x.2.2.2.2.2.1 x.2.2.2.2.2.2.1 x.2.2.2.2.2.2.2.1 x.2.2.2.2.2.2.2.2.1 y.1 y.2.1⟩
theorem aBv:eP prog 40 aHn:=qB [] (sE PN aN) (sF aiF (sF aiH aN))
def aC1 (d:bU) (h i:Int) (j:List oG) (e l m:Int) (f g:Bool):Option (taT×oJ):=cond g (a6 ((d,(h,(i,(j,(e,(l,(m,(f,(g,()))))))))),(true,())))<|cond (bZ e 7) (cond f (a6 ((d,(h,(i,(j,(e,(l,(m,(f,(g,()))))))))),(true,())))<|cond (fO d (dV .i64 (bM d) 1)) (a6 ((d,(h,(i,(j,(e,(l,(m,(f,(g,()))))))))),((!(bZ (cO d (dV .i64 (bM d) 1)) 10)),()))) a7)<|some ((d,(h,(i,(j,(e,(l,(m,(f,(g,()))))))))),(false,()))
def aHi:gK:=⟨69,tzC,[],[.bool],fun x y=>aC1 x.1 x.2.1 x.2.2.1 x.2.2.2.1 x.2.2.2.2.1 x.2.2.2.2.2.1 x.2.2.2.2.2.2.1 x.2.2.2.2.2.2.2.1 x.2.2.2.2.2.2.2.2.1⟩
theorem aBq:eP prog 33 aHi:=qB [] aN
def aC2 (d:bU) (g h:Int) (i:List oG) (e f j:Int) (l m:Bool):Option (taT×zN):=cond (bZ e 6) (a6 ((d,(g,(h,(i,(e,(f,(j,(l,(m,()))))))))),(f,())))<|some ((d,(g,(h,(i,(e,(f,(j,(l,(m,()))))))))),((bM d),()))
def aHk:gK:=⟨69,tzC,[],[cZ],fun x y=>aC2 x.1 x.2.1 x.2.2.1 x.2.2.2.1 x.2.2.2.2.1 x.2.2.2.2.2.1 x.2.2.2.2.2.2.1 x.2.2.2.2.2.2.2.1 x.2.2.2.2.2.2.2.2.1⟩
theorem aBr:eP prog 35 aHk:=qB [] aN
def axe (e:bU) (f g:Int) (d:List oG) (i j l:Int) (m h:Bool):Option (taT×(Unit)):=cond (gU 0 (bM d)) (cond (fO d (dV .i64 (bM d) 1)) (a6 ((e,(f,(g,(d,((dQ d (0,(0,(0,(false,())))) (dV .i64 (bM d) 1)).1,((dQ d (0,(0,(0,(false,())))) (dV .i64 (bM d) 1)).2.1,((dQ d (0,(0,(0,(false,())))) (dV .i64 (bM d) 1)).2.2.1,((dQ d (0,(0,(0,(false,())))) (dV .i64 (bM d) 1)).2.2.2.1,(h,()))))))))),())) a7)<|some ((e,(f,(g,(d,(i,(j,(l,(m,(h,()))))))))),())
def aHy:gK:=⟨69,tzC,[],[],fun x y=>axe x.1 x.2.1 x.2.2.1 x.2.2.2.1 x.2.2.2.2.1 x.2.2.2.2.2.1 x.2.2.2.2.2.2.1 x.2.2.2.2.2.2.2.1 x.2.2.2.2.2.2.2.2.1⟩
theorem aBJ:eP prog 59 aHy:=qB [] aN
noncomputable def b74:Code:=(f74.body).getD .skip
noncomputable def aGd:Code:=cA (cA (cB (cA (cB (b74)))))
def ao1:SP:=⟨us [ei,cg,.u,.u,.u,cg] 24,[]⟩
def alc:SP:=⟨us [] 30,[]⟩
def alM:SP:=⟨us dg 25,[]⟩
def afC {f:Type} (h:(List ig)->Int->Int->Option f) (i:Option f) (j:Int->Option f) (e:List ig) (g d:Int):Option f:=cond (leI 0 d) (cond (fO e d) (cond (leI (dQ e (0,(0,(0,(0,())))) d).2.1 g) (cond (fO e d) (cond (gU g (dQ e (0,(0,(0,(0,())))) d).2.2.1) (j d)<|h e g (dV .i64 d 1)) a7)<|h e g (dV .i64 d 1)) a7) i
def Xk:Nat->(List ig)->Int->Int->Option (alc.den⊕alM.den)
 |0,_,_,_=>a7
 |n+1,d,e,f=>afC (Xk n) (a6 (.inl ((),()))) (fun g=>a6 (.inr ((g,()),()))) d e f
def aKg (n:Nat) (v:ao1.den):=ba (Xk n) v
noncomputable def ayU:dG:=fK aan ao1 alc alM (.exit 0) (aKg bV) 6
def aDe (d:List ig) (e:Int):Option zN:=bK (Xk bV d e (dV .i64 (bM d) 1)) fun f=>dO f (fun h=>a6 ((-1),())) (fun g=>a6 (g.1.1,()))
def aHD:Sum:=⟨[.list og,cZ],TL,fun x=>aDe x.1 x.2.1⟩
noncomputable def av2:Env:=iW prog tt 74 [] [(2,aan)] [(2,ayU)]
def az7 {d:Type} (a:ao1.den->Option d) (b:alc.den->Option d) (c:alM.den->Option d) (v:ao1.den):Option d:=ba (afC (a8 a) (b ((),())) (aE c)) v
theorem aKX:dY av2 74 aGd ayU:=uz (az7) (h2:=by intros;simp only[az7,a8,aE,ba,afC,dw,dA,bJ,dh,dB])
theorem aNE:dR av2 74 b74:=oq [aGd] (aD (fM (aKX)) aN)
theorem av3:fH av2:=eA f74 aN (aNE)
theorem aBO:dX prog 74 aHD:=sA av3
def am8 (e:List ig) (d:Int):Option oJ:=cond (leI 0 d) (a6 ((gU d (bM e)),()))<|some (false,())
def aA2:Sum:=⟨[.list og,cZ],KO,fun x=>am8 x.1 x.2.1⟩
theorem ate:dX prog 162 aA2:=qA f162 [] aN
noncomputable def aMu:Code:=(f120.body).getD .skip
noncomputable def aup:Code:=cA (cA (cB (cA (cB (cB (aMu))))))
def axJ:eY:=⟨[1,4,11,12,13,100004],[(4,cZ)],[4],[],[4],[(4,cZ)]⟩
def ada:SP:=⟨us [.u,cg,.u,.u,eC,.u,.u,.u,.u,.u,.u,ei,cg,cg] 14,[.arr 1800004 cZ]⟩
def adR:SP:=⟨us [.u,.u,.u,.u,eC] 23,[.arr 1800004 cZ]⟩
def aer:SP:=⟨us [.u,.u,.u,.u,.v (.list cZ)] 23,[]⟩
def UW {g:Type} (j:Int->(List ig)->Int->Int->iD->Option g) (l m:iD->Option g) (h:Int) (e:List ig) (i d:Int) (f:iD):Option g:=cond (gU d i) (cond (fO e d) (cond (bZ (dQ e (0,(0,(0,(0,())))) d).2.2.2.1 h) (cond (eH (cu f [d]) 8) (j h e i (bY .i64 d 1) (cu f [d])) a7)<|j h e i (bY .i64 d 1) f) a7)<|l f
def Ol:Nat->Int->(List ig)->Int->Int->iD->Option (adR.den⊕aer.den)
 |0,_,_,_,_,_=>a7
 |n+1,d,e,f,g,h=>UW (Ol n) (fun i=>a6 (.inl ((),(i,())))) (fun j=>a6 (.inr ((j,()),()))) d e f g h
def aDR (n:Nat) (v:ada.den):=bc (Ol n) v
noncomputable def anW:dG:=fK axJ ada adR aer (.exit 0) (aDR bV) 6
def amV (d:List ig) (e:Int):Option (iD×Unit):=bK (am8 d e) fun f=>cond (!f.1) (a6 ([],()))<|bK (Ol bV e d (bM d) 0 []) fun g=>dO g (fun h=>a6 (h.2.1,())) (fun i=>a6 (i.1.1,()))
def aAL:Sum:=⟨[.list og,cZ],[(.list cZ,false)],fun x=>amV x.1 x.2.1⟩
noncomputable def ajm:Env:=iW prog tt 120 [(162,aA2)] [(4,axJ)] [(4,anW)]
def apu {d:Type} (a:ada.den->Option d) (b:adR.den->Option d) (c:aer.den->Option d) (v:ada.den):Option d:=bc (UW (fun e f g h i=>a ((e,f,g,h,()),(i,()))) (fun j=>b ((),(j,()))) (aE c)) v
theorem aEC:dY ajm 120 aup anW:=uz (apu) (h2:=by intros;simp only[apu,aE,bc,UW,dw,dA,bJ,dh,dB])
theorem aJm:dR ajm 120 aMu:=oq [aup] (aD (fM (aEC)) aN)
theorem aqZ:fH ajm:=eA f120 (aD ate aN) (aJm)
theorem asT:dX prog 120 aAL:=sA aqZ
noncomputable def b75:Code:=(f75.body).getD .skip
noncomputable def aGe:Code:=cA (cA (cB (cA (cB (cB (b75))))))
def aGR:eY:=⟨[0,2,6,7,13,14,15,100003],[],[6,7],[],[6,7],[]⟩
def ao2:SP:=⟨us [ei,.u,cg,.u,.u,.u,cg,cg,.u,.u,.u,.u,.u,.v (.list cZ),cg,cg] 22,[]⟩
def ald:SP:=⟨us eE 30,[]⟩
def alN:SP:=⟨us eE 30,[]⟩
def afD {m:Type} (j:(List ig)->Int->Int->Int->iD->Int->Int->Option m) (o p:Int->Int->Option m) (f:List ig) (h g l:Int) (e:iD) (i d:Int):Option m:=cond (gU d i) (cond (fO e d) (cond (gU (dQ e 0 d) h) (cond (fO f (dQ e 0 d)) (cond (bZ (dQ f (0,(0,(0,(0,())))) (dQ e 0 d)).1 7) (cond (bZ g 0) (j f h (bY .i64 g 1) (dQ e 0 d) e i (bY .i64 d 1))<|j f h (bY .i64 g 1) l e i (bY .i64 d 1))<|j f h g l e i (bY .i64 d 1)) a7)<|j f h g l e i (bY .i64 d 1)) a7)<|o g l
def Xl:Nat->(List ig)->Int->Int->Int->iD->Int->Int->Option (ald.den⊕alN.den)
 |0,_,_,_,_,_,_,_=>a7
 |n+1,d,e,f,g,h,i,j=>afD (Xl n) (fun l m=>a6 (.inl ((l,m,()),()))) (fun o p=>a6 (.inr ((o,p,()),()))) d e f g h i j
def aKh (n:Nat) (v:ao2.den):=Xl n v.1.1 v.1.2.1 v.1.2.2.1 v.1.2.2.2.1 v.1.2.2.2.2.1 v.1.2.2.2.2.2.1 v.1.2.2.2.2.2.2.1
noncomputable def ayV:dG:=fK aGR ao2 ald alN (.exit 0) (aKh bV) 6
def axi (d:List ig) (i e:Int):Option lD:=bK (amV d i) fun f=>bK (Xl bV d e 0 e f.1 (bM f.1) 0) fun j=>dO j (fun g=>a6 (g.1.1,(g.1.2.1,()))) (fun h=>a6 (h.1.1,(h.1.2.1,())))
def aHE:Sum:=⟨[.list og,cZ,cZ],tzJ,fun x=>axi x.1 x.2.1 x.2.2.1⟩
noncomputable def av4:Env:=iW prog tt 75 [(120,aAL)] [(3,aGR)] [(3,ayV)]
def az8 {d:Type} (a:ao2.den->Option d) (b:ald.den->Option d) (c:alN.den->Option d) (v:ao2.den):Option d:=afD (fun e f g h i j l=>a ((e,f,g,h,i,j,l,()),())) (aL b) (aL c) v.1.1 v.1.2.1 v.1.2.2.1 v.1.2.2.2.1 v.1.2.2.2.2.1 v.1.2.2.2.2.2.1 v.1.2.2.2.2.2.2.1
theorem aKY:dY av4 75 aGe ayV:=uz (az8) (h2:=by intros;simp only[az8,aL,afD,dw,dA,bJ,dh,dB])
theorem aNF:dR av4 75 b75:=oq [aGe] (aD (fM (aKY)) aN)
theorem av5:fH av4:=eA f75 (aD asT aN) (aNF)
theorem aBP:dX prog 75 aHE:=sA av5
noncomputable def b76:Code:=(f76.body).getD .skip
noncomputable def aGf:Code:=cA (cA (cB (cA (cB (b76)))))
def aGS:eY:=⟨[12,13,14,100002],[],[],[],[4],[]⟩
def ao3:SP:=⟨us [.u,.u,.u,.u,.u,.u,.u,.u,.u,.u,.u,.u,.v pV,cg,cg] 10,[]⟩
def ale:SP:=⟨us [] 25,[]⟩
def alO:SP:=⟨us dg 20,[]⟩
def afE {e:Type} (h:(List gQ)->Int->Int->Option e) (i:Option e) (j:Int->Option e) (f:List gQ) (g d:Int):Option e:=cond (gU d g) (cond (fO f d) (cond (bZ (dQ f (0,([],(0,(0,())))) d).1 4) (bK (NK (dQ f (0,([],(0,(0,())))) d).2.1) fun l=>j l.1)<|h f g (bY .i64 d 1)) a7) i
def QD:Nat->(List gQ)->Int->Int->Option (ale.den⊕alO.den)
 |0,_,_,_=>a7
 |n+1,d,e,f=>afE (QD n) (a6 (.inl ((),()))) (fun g=>a6 (.inr ((g,()),()))) d e f
def aKi (n:Nat) (v:ao3.den):=ba (QD n) v
noncomputable def ayW:dG:=fK aGS ao3 ale alO (.exit 0) (aKi bV) 6
def aDf (e:List gQ) (d:ig):Option zN:=cond (dZ (bM e) d.2.1 d.2.2.1) (bK (QD bV (sub e d.2.1 d.2.2.1) (bM (sub e d.2.1 d.2.2.1)) 0) fun f=>dO f (fun h=>a6 (0,())) (fun g=>a6 (g.1.1,()))) a7
def aHF:Sum:=⟨[pV,og],TL,fun x=>aDf x.1 x.2.1⟩
noncomputable def av6:Env:=iW prog tt 76 [(121,amf)] [(2,aGS)] [(2,ayW)]
def az9 {d:Type} (a:ao3.den->Option d) (b:ale.den->Option d) (c:alO.den->Option d) (v:ao3.den):Option d:=ba (afE (a8 a) (b ((),())) (aE c)) v
theorem aKZ:dY av6 76 aGf ayW:=uz (az9) (h2:=by intros;simp only[az9,a8,aE,ba,afE,dw,dA,bJ,dh,dB])
theorem aNG:dR av6 76 b76:=oq [aGf] (aD (fM (aKZ)) aN)
theorem av7:fH av6:=eA f76 (aD JH aN) (aNG)
theorem aBQ:dX prog 76 aHF:=sA av7
noncomputable def b65:Code:=(f65.body).getD .skip
noncomputable def aGb:Code:=cA (cA (cB (cA (cB (cB (b65))))))
def aGP:eY:=⟨[0,3,4,100003],[(3,Gp)],[3],[],[2],[(2,Gp)]⟩
def aoZ:SP:=⟨us [ci,.u,.u,.slc 1800003,cg] 20,[.arr 1800003 Gp]⟩
def ala:SP:=⟨us [.u,.u,.u,.slc 1800003] 21,[.arr 1800003 Gp]⟩
def alK:SP:=⟨us [.u,.u,eJ] 22,[]⟩
def afA {e:Type} (i:bU->Int->(List oG)->Option e) (j l:(List oG)->Option e) (f:bU) (h:Int) (g:List oG):Option e:=cond (gU h (bM f)) (bK (agL f h (0,([],(false,())))) fun d=>cond (bZ d.1.2.2.1 d.1.2.2.1) (cond (eH (cu g [(d.1.1,(d.1.2.1,(d.1.2.2.1,(d.1.2.2.2.1,()))))]) 32) (cond ((bZ d.1.1 d.1.1)&&((bZ d.1.2.1 d.1.2.1)&&((bZ d.1.2.2.1 d.1.2.2.1)&&((jP d.1.2.2.2.1 d.1.2.2.2.1)&&true)))) (cond (bZ d.1.2.2.1 d.1.2.2.1) (cond (bZ d.1.2.2.1 d.1.2.2.1) (i f d.1.2.2.1 (cu g [(d.1.1,(d.1.2.1,(d.1.2.2.1,(d.1.2.2.2.1,()))))])) a7) a7) a7) a7) a7)<|j g
def QC:Nat->bU->Int->(List oG)->Option (ala.den⊕alK.den)
 |0,_,_,_=>a7
 |n+1,d,e,f=>afA (QC n) (fun g=>a6 (.inl ((),(g,())))) (fun h=>a6 (.inr ((h,()),()))) d e f
def aKe (n:Nat) (v:aoZ.den):=QC n v.1.1 v.1.2.1 v.2.1
noncomputable def ayS:dG:=fK aGP aoZ ala alK (.exit 0) (aKe bV) 6
def aDc (d:bU):Option ((List oG)×Unit):=bK (QC bV d 0 []) fun e=>dO e (fun f=>a6 (f.2.1,())) (fun g=>a6 (g.1.1,()))
def aHA:Sum:=⟨[.str],[(.list Gp,false)],fun x=>aDc x.1⟩
noncomputable def avY:Env:=iW prog tt 65 [(105,amc)] [(3,aGP)] [(3,ayS)]
def az5 {d:Type} (a:aoZ.den->Option d) (b:ala.den->Option d) (c:alK.den->Option d) (v:aoZ.den):Option d:=afA (fun e f g=>a ((e,f,()),(g,()))) (fun h=>b ((),(h,()))) (aE c) v.1.1 v.1.2.1 v.2.1
theorem aKV:dY avY 65 aGb ayS:=uz (az5) (h2:=by intros;simp only[az5,aE,afA,dw,dA,bJ,dh,dB])
theorem aNC:dR avY 65 b65:=oq [aGb] (aD (fM (aKV)) aN)
theorem avZ:fH avY:=eA f65 (aD aaY aN) (aNC)
theorem aBL:dX prog 65 aHA:=sA avZ
end
section
open Option renaming some → a6, none → a7
open Tryz
open Go.RowKit
noncomputable def b44:Code:=(f44.body).getD .skip
noncomputable def ajg:Code:=(f68.body).getD .skip
noncomputable def abE:Code:=(f109.body).getD .skip
noncomputable def abG:Code:=(f114.body).getD .skip
noncomputable def agj:Code:=cA (cA (cB (cA (cB (cB (ajg))))))
noncomputable def ZN:Code:=cA (cA (cB (cA (cB (cB (cB (cA (cB (abE)))))))))
noncomputable def ZO:Code:=cA (cA (cB (cA (cB (cB (cB (cB (abG))))))))
def aht:eY:=⟨[3,15,16,17,70000003],[],[3],[],[2],[]⟩
def aap:eY:=⟨[1,2,3,4,5,105000004],[(300000300,.pair (.list .unit) (.int .u8))],[4],[],[],[]⟩
def aaq:eY:=⟨[0,2,8,9,10,11,110000005],[(9,(.int .u8))],[2,9,10],[],[6],[]⟩
def ayg:eY:=⟨[2,3,4],[],[],[],[],[]⟩
def aI4:eY:=⟨[0,2,3,4],[],[],[],[],[]⟩
def aI5:eY:=⟨[4,5],[],[],[],[],[]⟩
def OW:SQ:=⟨eO,fb,[ck,cz,cD,de,dk,d8]⟩
def QP:SQ:=⟨us [.u,.u,.u,dz] 28,fb,[ck,cz,cD,de,dk,d8]⟩
def QS:SQ:=⟨us [] 32,fb,[]⟩
def JC {e:Type} (s:(List iI)->Int->Int->bU->bU->bU->(List iI)->(List lI)->iD->Bool->bU->Option e) (u:bU->bU->bU->(List iI)->(List lI)->iD->Bool->bU->Option e) (v:bU->bU->Option e) (f:List iI) (g d:Int) (h i j:bU) (l:List iI) (m:List lI) (o:iD) (p:Bool) (q:bU):Option e:=cond (gU d g) (cond (fO f d) (s f g (bY .i64 d 1) h i j l (wX m (dQ f (0,(0,(0,(0,(false,()))))) d).2.1 (bY .i64 d 1)) o p q) a7)<|u h i j l m o p q
def yF:Nat->(List iI)->Int->Int->bU->bU->bU->(List iI)->(List lI)->iD->Bool->bU->Option (QP.den⊕QS.den)
 |0,_,_,_,_,_,_,_,_,_,_,_=>a7
 |n+1,d,e,f,g,h,i,j,l,m,o,p=>JC (yF n) (fun q s u v x y z A=>a6 (.inl ((),((q,s,()),(),()),((u,v,()),x,(),y,(z,()),(A,()),())))) (fun B D=>a6 (.inr ((),((B,D,()),(),()),()))) d e f g h i j l m o p
def aso (n:Nat) (v:OW.den):=yF n v.1.1 v.1.2.1 v.1.2.2.1 v.2.1.1.1 v.2.1.1.2.1 v.2.2.1.1 v.2.2.1.2.1 v.2.2.2.1 v.2.2.2.2.2.1 v.2.2.2.2.2.2.1.1 v.2.2.2.2.2.2.2.1.1
noncomputable def aaw:dG:=fQ aht OW QP QS (.exit 0) (aso bV) 6
def Jo:SQ:=⟨us [dz,.u,.yld 1700009,.u,.u,.u,.u,.u,cg,.slc 4800009,co,cg] 83,[ce,cj,d6,[]],cy⟩
def E9:SQ:=⟨us [.u,.u,.yld 1700009,.u,.u,.u,.u,.u,.u,.slc 4800009,co] 84,[ce,cj,d6,[]],cy⟩
def Fb:SQ:=⟨us [.u,.u,.u,.u,.u,.u,.kb false] 88,[ce,cj,d6,[]],[ge,d9,fg,fX,ck,cz,cx,.lp 1700009 44 (cj) [9] 4 1 (a6 .ret),de,cD,.box 1000003 4 [.kb false],d8]⟩
def gp (d:List iI) (e:List lI) (f:Int):=dQ d (0,(0,(0,(0,(false,()))))) (dV .i64 (nN e f) 1)
def jl (d:bU) (e:List iI) (f:List lI) (g:Int):=cO d (bY .i64 (gp e f g).2.1 1)
def qy {h:Type} (i:iD) (f:bU) (d:List iI) (e:List lI) (g:Int) (j:Int->Bool->Int->Int->iI->iD->Int->Int->Int->Int->Bool->iD->bU->(List iI)->(List lI)->iD->Bool->bU->Option h) (l:Int) (m:Bool) (o:Int) (p:iI) (q s u v:Int) (x:Bool) (y z:iD) (A:Bool) (B:bU):Option h:=cond (eH (cu i (dm (ofBytes [(jl f d e g)]))) 1) (j l m (gp d e g).2.2.1 o p (cu i (dm (ofBytes [(jl f d e g)]))) q s u v x y f d e z A B) a7
def qE {i:Type} (g:bU) (d:List iI) (e:List lI) (f:Int) (h:iD) (j:Int->Bool->Int->Int->iI->iD->Int->Int->Int->Int->Bool->iD->bU->(List iI)->(List lI)->iD->Bool->bU->Option i) (l:Int) (m:Bool) (o:Int) (p:iI) (q s u v:Int) (x:Bool) (y z:iD) (A:Bool) (B:bU):Option i:=cond (bZ (jl g d e f) 10) (cond (eH (cu h (dm [])) 1) (j l m (gp d e f).2.2.1 o p (cu h (dm [])) q s u v x y g d e z A B) a7)<|cond (dZ (bM g) (gp d e f).2.1 (gp d e f).2.2.1) (cond (eH (cu h (dm (sub g (gp d e f).2.1 (gp d e f).2.2.1))) 1) (j l m (gp d e f).2.2.1 o p (cu h (dm (sub g (gp d e f).2.1 (gp d e f).2.2.1))) q s u v x y g d e z A B) a7) a7
def FN {B:Type} (A:Int->Bool->Int->Int->iI->iD->Int->Int->Int->Int->Bool->iD->bU->(List iI)->(List lI)->iD->Bool->bU->Option B) (E:Bool->Int->iI->iD->Int->Int->Int->Int->Bool->iD->bU->(List iI)->(List lI)->iD->Bool->bU->Option B) (D:Int->iI->Int->Int->Int->Int->Bool->iD->bU->(List iI)->(List lI)->iD->bU->Option B) (v:Int) (x:Bool) (d j:Int) (l:iI) (h:iD) (m o p q:Int) (s:Bool) (u:iD) (g:bU) (f:List iI) (e:List lI) (i:iD) (y:Bool) (z:bU):Option B:=cond (gU d v) (cond (bZ (nN e d) 0) (cond (fO g d) (cond (eH (cu h [(cO g d)]) 1) (A v x (bY .i64 d 1) j l (cu h [(cO g d)]) m o p q s u g f e i y z) a7) a7)<|cond (fO f (dV .i64 (nN e d) 1)) (bK (Wy ((gp f e d).1,((gp f e d).2.1,((gp f e d).2.2.1,((gp f e d).2.2.2.1,((gp f e d).2.2.2.2.1,())))))) fun G=>cond G.1 (cond (fO g d) (cond (eH (cu h [(cO g d)]) 1) (A v x (bY .i64 d 1) j l (cu h [(cO g d)]) m o p q s u g f e i y z) a7) a7)<|cond (bZ (gp f e d).1 13) (cond (gU (dV .i64 (gp f e d).2.2.1 (gp f e d).2.1) 2) (cond (eH (cu h (dm [])) 1) (A v x (gp f e d).2.2.1 j l (cu h (dm [])) m o p q s u g f e i y z) a7)<|cond (fO g (bY .i64 (gp f e d).2.1 1)) (cond (bZ (jl g f e d) 36) (cond (bZ (jl g f e d) 36) (qy h g f e d A v x j l m o p q s u i y z)<|qE g f e d h A v x j l m o p q s u i y z)<|cond (bZ (jl g f e d) 96) (cond (bZ (jl g f e d) 96) (qy h g f e d A v x j l m o p q s u i y z)<|qE g f e d h A v x j l m o p q s u i y z)<|cond (bZ (jl g f e d) 34) (cond (bZ (jl g f e d) 34) (qy h g f e d A v x j l m o p q s u i y z)<|qE g f e d h A v x j l m o p q s u i y z)<|cond (bZ (jl g f e d) 92) (qy h g f e d A v x j l m o p q s u i y z)<|qE g f e d h A v x j l m o p q s u i y z) a7)<|cond (gU 0 (bM h)) (cond (eH (cu i (dm (ofBytes h))) 1) (cond (dZ (bM g) (gp f e d).2.1 (gp f e d).2.2.1) (D j l m o p q s u g f e (cu i (dm (ofBytes h))) []) a7) a7)<|cond (dZ (bM g) (gp f e d).2.1 (gp f e d).2.2.1) (D j l m o p q s u g f e i []) a7) a7)<|E x j l h m o p q s u g f e i y z
def pK:Nat->Int->Bool->Int->Int->iI->iD->Int->Int->Int->Int->Bool->iD->bU->(List iI)->(List lI)->iD->Bool->bU->Option (E9.den⊕Fb.den)
 |0,_,_,_,_,_,_,_,_,_,_,_,_,_,_,_,_,_,_=>a7
 |n+1,d,e,f,g,h,i,j,l,m,o,p,q,s,u,v,x,y,z=>FN (pK n) (fun A B D E G I J K L M N O S U V W=>a6 (.inl ((A,()),((B,D,()),(),(),(),()),(E,(G,I,J,K,L,()),M,(),(),(N,O,()),S,(),(),U,(),(V,()),(W,()),())))) (fun X Y Z r3 r4 r5 r6 r7 r8 r9 ab r11 ad=>a6 (.inr ((),((X,Y,()),(),(),(),()),((Z,r3,r4,r5,r6,()),r7,(),(),(r8,r9,()),ab,(),(),r11,(),(),(ad,()),())))) d e f g h i j l m o p q s u v x y z
def akE (n:Nat) (v:Jo.den):=bA (pK n) v
noncomputable def Xr:dG:=fQ aaq Jo E9 Fb (.exit 0) (akE bV) 12
def Jn:SQ:=⟨us [.u,em,fT,fe,cH,cg] 106,[cj,d6,[]],cP⟩
def E8:SQ:=⟨us [.u,.u,.u,.u,cH] 107,[cj,d6,[]],cP⟩
def Fa:SQ:=⟨us [] 112,[cj,d6,[]],[ck,cz,cx,.lp 1700009 44 (cj) [9] 4 1 (a6 .ret),de,cD,dk,d8]⟩
def dK (d:List iI) (e:List lI) (f:Int):=dQ d (0,(0,(0,(0,(false,()))))) (dV .i64 (nN e f) 1)
def uu (d:List iI) (e:List lI) (f:Int):=agT ((dK d e f).1,((dK d e f).2.1,((dK d e f).2.2.1,((dK d e f).2.2.2.1,((dK d e f).2.2.2.2.1,())))))
def lW (g:bU) (d:List iI) (e:List lI) (f:Int):=sub g (bY .i64 (dK d e f).2.1 1) (dK d e f).2.2.1
def yw {h:Type} (g:bU) (d:List iI) (e:List lI) (f:Int) (i:iD) (j:Int->iD->bU->(List iI)->(List lI)->iD->Bool->bU->Option h) (l:iD) (m:Bool) (o:bU):Option h:=cond (dZ (bM g) (dK d e f).2.1 (dK d e f).2.2.1) (cond (eH (cu i (dm (sub g (dK d e f).2.1 (dK d e f).2.2.1))) 1) (j (dK d e f).2.2.1 (cu i (dm (sub g (dK d e f).2.1 (dK d e f).2.2.1))) g d e l m o) a7) a7
def yx {p:Type} (d:List iI) (e:List lI) (g:Int) (f:bU) (i h:iD) (l:Int->iD->bU->(List iI)->(List lI)->iD->Bool->bU->Option p) (m:Bool) (o:bU):Option p:=cond (bZ (dK d e g).1 4) (bK (uu d e g) fun j=>cond (dZ (bM f) j.1 j.2.1) (cond (gm (ofBytes i) []) (cond (eH (cu h (dm (sub f j.1 j.2.1))) 1) (l (dK d e g).2.2.1 [] f d e (cu h (dm (sub f j.1 j.2.1))) m o) a7)<|cond (eH (cu h (dm (ofBytes i))) 1) (cond (eH (cu (cu h (dm (ofBytes i))) (dm (sub f j.1 j.2.1))) 1) (l (dK d e g).2.2.1 [] f d e (cu (cu h (dm (ofBytes i))) (dm (sub f j.1 j.2.1))) m o) a7) a7) a7)<|cond (dZ (bM f) (bY .i64 (dK d e g).2.1 1) (dK d e g).2.2.1) (cond (!(gm (lW f d e g) [])) (cond (!(gm (lW f d e g) [10])) (cond (gm (ofBytes i) []) (cond (eH (cu h (dm (lW f d e g))) 1) (l (dK d e g).2.2.1 [] f d e (cu h (dm (lW f d e g))) m o) a7)<|cond (eH (cu h (dm (ofBytes i))) 1) (cond (eH (cu (cu h (dm (ofBytes i))) (dm (lW f d e g))) 1) (l (dK d e g).2.2.1 [] f d e (cu (cu h (dm (ofBytes i))) (dm (lW f d e g))) m o) a7) a7)<|l (dK d e g).2.2.1 i f d e h m o)<|l (dK d e g).2.2.1 i f d e h m o) a7
def yz {f:Type} (h:E9.den⊕Fb.den) (g:Int->iD->bU->(List iI)->(List lI)->iD->Bool->bU->Option f) (i:bU->(List iI)->(List lI)->iD->Bool->bU->Option f):Option f:=dO h (fun d=>cond (bZ (bM d.2.2.1) 0) (cond d.1.1 (g d.2.1.1.1 [] d.2.2.2.2.2.2.2.1.1 d.2.2.2.2.2.2.2.1.2.1 d.2.2.2.2.2.2.2.2.1 d.2.2.2.2.2.2.2.2.2.2.2.1 d.2.2.2.2.2.2.2.2.2.2.2.2.2.1.1 d.2.2.2.2.2.2.2.2.2.2.2.2.2.2.1.1)<|cond (eH (cu d.2.2.2.2.2.2.2.2.2.2.2.1 (dm (ofBytes d.2.2.1))) 1) (g d.2.1.1.1 [] d.2.2.2.2.2.2.2.1.1 d.2.2.2.2.2.2.2.1.2.1 d.2.2.2.2.2.2.2.2.1 (cu d.2.2.2.2.2.2.2.2.2.2.2.1 (dm (ofBytes d.2.2.1))) d.2.2.2.2.2.2.2.2.2.2.2.2.2.1.1 d.2.2.2.2.2.2.2.2.2.2.2.2.2.2.1.1) a7)<|cond (eH (cu d.2.2.2.2.2.2.2.2.2.2.2.1 (dm (ofBytes d.2.2.1))) 1) (g d.2.1.1.1 [] d.2.2.2.2.2.2.2.1.1 d.2.2.2.2.2.2.2.1.2.1 d.2.2.2.2.2.2.2.2.1 (cu d.2.2.2.2.2.2.2.2.2.2.2.1 (dm (ofBytes d.2.2.1))) d.2.2.2.2.2.2.2.2.2.2.2.2.2.1.1 d.2.2.2.2.2.2.2.2.2.2.2.2.2.2.1.1) a7) (fun e=>i e.2.2.2.2.2.2.1.1 e.2.2.2.2.2.2.1.2.1 e.2.2.2.2.2.2.2.1 e.2.2.2.2.2.2.2.2.2.2.1 false e.2.2.2.2.2.2.2.2.2.2.2.2.2.1.1)
def yA {m:Type} (d:List iI) (e:List lI) (f:Int) (g:iD) (h:bU) (i:iD) (p:Bool) (q:bU) (s:Int->iD->bU->(List iI)->(List lI)->iD->Bool->bU->Option m) (l:bU->(List iI)->(List lI)->iD->Bool->bU->Option m):Option m:=cond (bZ (dK d e f).1 5) (cond (gm (ofBytes g) []) (bK (uu d e f) fun j=>bK (pK bV j.2.1 false j.1 (dK d e f).2.2.1 ((dK d e f).1,((dK d e f).2.1,((dK d e f).2.2.1,((dK d e f).2.2.2.1,((dK d e f).2.2.2.2.1,()))))) [] (dK d e f).1 (dK d e f).2.1 (dK d e f).2.2.1 (dK d e f).2.2.2.1 (dK d e f).2.2.2.2.1 g h d e i p q) fun o=>yz o s l)<|cond (eH (cu i (dm (ofBytes g))) 1) (bK (uu d e f) fun j=>bK (pK bV j.2.1 false j.1 (dK d e f).2.2.1 ((dK d e f).1,((dK d e f).2.1,((dK d e f).2.2.1,((dK d e f).2.2.2.1,((dK d e f).2.2.2.2.1,()))))) [] (dK d e f).1 (dK d e f).2.1 (dK d e f).2.2.1 (dK d e f).2.2.2.1 (dK d e f).2.2.2.2.1 g h d e (cu i (dm (ofBytes g))) p q) fun o=>yz o s l) a7)<|cond (gm (ofBytes g) []) (cond (dZ (bM h) (dK d e f).2.1 (dK d e f).2.2.1) (l h d e i false []) a7)<|cond (eH (cu i (dm (ofBytes g))) 1) (cond (dZ (bM h) (dK d e f).2.1 (dK d e f).2.2.1) (l h d e (cu i (dm (ofBytes g))) false []) a7) a7
def yB {o:Type} (d:List iI) (e:List lI) (f:Int) (g:bU) (h i:iD) (j:Int->iD->bU->(List iI)->(List lI)->iD->Bool->bU->Option o) (l:Bool) (m:bU) (p:bU->(List iI)->(List lI)->iD->Bool->bU->Option o):Option o:=cond (bZ (dK d e f).1 13) (cond (bZ (dK d e f).1 13) (yx d e f g h i j l m)<|yA d e f h g i l m j p)<|cond (bZ (dK d e f).1 4) (yx d e f g h i j l m)<|yA d e f h g i l m j p
def FM {o:Type} (m:Int->iD->bU->(List iI)->(List lI)->iD->Bool->bU->Option o) (s:iD->bU->(List iI)->(List lI)->iD->Bool->bU->Option o) (p:bU->(List iI)->(List lI)->iD->Bool->bU->Option o) (d:Int) (h:iD) (e:bU) (g:List iI) (f:List lI) (i:iD) (j:Bool) (l:bU):Option o:=cond (gU d (bM e)) (cond (bZ (nN f d) 0) (cond (fO e d) (cond (gm e e) (cond (bZ d d) (cond (eH (cu h [(cO e d)]) 1) (cond (gm e e) (cond (bZ d d) (cond (fO e d) (cond (bZ (cO e d) (cO e d)) (m (bY .i64 d 1) (cu h [(cO e d)]) e g f i j l) a7) a7) a7) a7) a7) a7) a7) a7)<|cond (fO g (dV .i64 (nN f d) 1)) (bK (Wy ((dK g f d).1,((dK g f d).2.1,((dK g f d).2.2.1,((dK g f d).2.2.2.1,((dK g f d).2.2.2.2.1,())))))) fun q=>cond q.1 (cond q.1 (yw e g f d h m i j l)<|yB g f d e h i m j l p)<|cond (bZ (dK g f d).1 14) (yw e g f d h m i j l)<|yB g f d e h i m j l p) a7)<|s h e g f i j l
def kH:Nat->Int->iD->bU->(List iI)->(List lI)->iD->Bool->bU->Option (E8.den⊕Fa.den)
 |0,_,_,_,_,_,_,_,_=>a7
 |n+1,d,e,f,g,h,i,j,l=>FM (kH n) (fun m o p q s u v=>a6 (.inl ((),((),(),(),()),(m,(),(),(o,p,()),q,(),(),s,(),(u,()),(v,()),())))) (fun x y z A B D=>a6 (.inr ((),((),(),(),()),((x,y,()),z,(),(),A,(),(B,()),(D,()),())))) d e f g h i j l
def akD (n:Nat) (v:Jn.den):=kH n v.1.1 v.2.2.1 v.2.2.2.2.2.1.1 v.2.2.2.2.2.1.2.1 v.2.2.2.2.2.2.1 v.2.2.2.2.2.2.2.2.2.1 v.2.2.2.2.2.2.2.2.2.2.2.1.1 v.2.2.2.2.2.2.2.2.2.2.2.2.1.1
noncomputable def Xq:dG:=fQ aap Jn E8 Fa (.exit 0) (akD bV) 18
def TN (f:bU):Option (bU×Bool×Unit):=bK (arX f) fun g=>bK (yF bV g.1 (bM g.1) 0 f f f g.1 [] [] false []) fun i=>dO i (fun e=>bK (kH bV 0 [] e.2.2.1.1 e.2.2.1.2.1 e.2.2.2.1 e.2.2.2.2.2.1 e.2.2.2.2.2.2.1.1 e.2.2.2.2.2.2.2.1.1) fun j=>dO j (fun d=>cond (gm (ofBytes d.2.2.1) []) (cond (bZ (bM d.2.2.2.2.2.2.2.2.2.1) (bM d.2.2.2.2.2.2.2.2.2.1)) (a6 ((ofBytes d.2.2.2.2.2.2.2.2.2.1),(true,()))) a7)<|cond (eH (cu d.2.2.2.2.2.2.2.2.2.1 (dm (ofBytes d.2.2.1))) 1) (cond (bZ (bM (cu d.2.2.2.2.2.2.2.2.2.1 (dm (ofBytes d.2.2.1)))) (bM (cu d.2.2.2.2.2.2.2.2.2.1 (dm (ofBytes d.2.2.1))))) (a6 ((ofBytes (cu d.2.2.2.2.2.2.2.2.2.1 (dm (ofBytes d.2.2.1)))),(true,()))) a7) a7) (fun h=>a6 (h.2.2.2.2.2.2.2.2.2.1.1,(h.2.2.2.2.2.2.2.2.1.1,())))) (fun l=>a7)
def aBy:Sum:=⟨[.str],[(.str,false),(.bool,false)],fun x=>TN x.1⟩
noncomputable def RN:Env:=gZ prog tt [(67,aBM),(112,ame),(154,amh)] [(68,3,aht),(109,4,aap),(114,5,aaq),(44,500004,ayg),(44,600002,aI4),(44,600006,aI5),(44,600007,ayg),(109,600005,Sm),(109,600016,qi),(109,600017,N7),(109,600019,qi),(109,600010,qi),(109,600020,aki),(110,600003,Sr),(114,600006,Su),(114,600016,N8),(114,600007,Sv),(114,600009,Sz),(114,600020,N9),(70,600001,zt)] [(68,3,aaw),(114,5,Xr),(109,4,Xq)] [44]
def aaS {d:Type} (a:OW.den->Option d) (b:QP.den->Option d) (c:QS.den->Option d) (v:OW.den):Option d:=JC (fun e f g h i j l m o p q=>a ((e,f,g,()),((h,i,()),(),()),((j,l,()),m,(),o,(p,()),(q,()),()))) (fun s u x y z A B D=>b ((),((s,u,()),(),()),((x,y,()),z,(),A,(B,()),(D,()),()))) (fun E G=>c ((),((E,G,()),(),()),())) v.1.1 v.1.2.1 v.1.2.2.1 v.2.1.1.1 v.2.1.1.2.1 v.2.2.1.1 v.2.2.1.2.1 v.2.2.2.1 v.2.2.2.2.2.1 v.2.2.2.2.2.2.1.1 v.2.2.2.2.2.2.2.1.1
theorem asw:dY RN 68 agj aaw:=lT (aaS) (h2:=by intros;simp only[aaS,JC,dw,dA,bJ,dh,dB])
def Yc {d:Type} (a:Jo.den->Option d) (b:E9.den->Option d) (c:Fb.den->Option d) (v:Jo.den):Option d:=bA (FN (fun e f g h i j l m o p q s u x y z A B=>a ((e,f,g,()),((h,i,()),(),(),(),()),(j,(l,m,o,p,q,()),s,(),(),(u,x,()),y,(),(),z,(),(A,()),(B,()),()))) (fun D E G I J K L M N O S U V W X Y=>b ((D,()),((E,G,()),(),(),(),()),(I,(J,K,L,M,N,()),O,(),(),(S,U,()),V,(),(),W,(),(X,()),(Y,()),()))) (fun Z r1 r2 r3 r4 r5 r6 r7 r8 r9 ab r11 ad=>c ((),((Z,r1,()),(),(),(),()),((r2,r3,r4,r5,r6,()),r7,(),(),(r8,r9,()),ab,(),(),r11,(),(),(ad,()),())))) v
theorem akM:dY RN 114 ZO Xr:=lT (Yc) (h2:=by intros;simp only[Yc,bA,FN,dw,dA,bJ,dh,dB,gp,jl,qy,qE])
def Yb {d:Type} (a:Jn.den->Option d) (b:E8.den->Option d) (c:Fa.den->Option d) (v:Jn.den):Option d:=FM (fun e f g h i j l m=>a ((e,()),((),(),(),()),(f,(),(),(g,h,()),i,(),(),j,(),(l,()),(m,()),()))) (fun o p q s u x y=>b ((),((),(),(),()),(o,(),(),(p,q,()),s,(),(),u,(),(x,()),(y,()),()))) (fun z A B D E G=>c ((),((),(),(),()),((z,A,()),B,(),(),D,(),(E,()),(G,()),()))) v.1.1 v.2.2.1 v.2.2.2.2.2.1.1 v.2.2.2.2.2.1.2.1 v.2.2.2.2.2.2.1 v.2.2.2.2.2.2.2.2.2.1 v.2.2.2.2.2.2.2.2.2.2.2.1.1 v.2.2.2.2.2.2.2.2.2.2.2.2.1.1
theorem akL:dY RN 109 ZN Xq:=lT (Yb) (h2:=by intros;simp only[Yb,FM,dw,dA,bJ,dh,dB,dK,uu,lW,yw,yx,yz,yA,yB])
theorem aM8:jk b44=[]:=by kernel_rfl
theorem aN1:jY b44=[(cA (cA (cB (cA (cB (cB (b44)))))),cB (cA (cB (cA (cB (cB (b44)))))))]:=by kernel_rfl
theorem aNs:dR RN 44 b44:=sG b44 (by rw[aN1];exact(aD (fun _=>(show uq 44 4=a6 (cA (cA (cB (cA (cB (cB (b44)))))),cB (cA (cB (cA (cB (cB (b44))))))) by kernel_rfl)) aN)) (by rw[aM8];exact aN)
theorem ayp:dR RN 68 ajg:=oq [agj] (aD (fM (asw)) aN)
theorem asf:dR RN 109 abE:=oq [ZN] (aD (fM (akL)) aN)
theorem ash:dR RN 114 abG:=oq [ZO] (aD (fM (akM)) aN)
theorem avJ:fH RN:=eB (aD YC (aD aaZ (aD aa6 aN))) [44,68,109,114] (aD ⟨f44,b44,by kernel_rfl,by kernel_rfl,aNs⟩ (aD ⟨f68,ajg,by kernel_rfl,by kernel_rfl,ayp⟩ (aD ⟨f109,abE,by kernel_rfl,by kernel_rfl,asf⟩ (aD ⟨f114,abG,by kernel_rfl,by kernel_rfl,ash⟩ aN))))
theorem aiI:dX prog 44 aBy:=sA avJ
noncomputable def b45:Code:=(f45.body).getD .skip
noncomputable def ajh:Code:=(f72.body).getD .skip
noncomputable def agk:Code:=cA (cA (cB (cA (cB (cB (ajh))))))
noncomputable def pg:Code:=cB (cB (b45))
def ahu:eY:=⟨[0,1,5,15,16,17,73000003],[(5,Gp)],[0,1,5],[],[4],[]⟩
def rU:eY:=⟨[4,6,7,900002],[(7,.pair .unit tyD)],[6],[],[6],[]⟩
def aI6:eY:=⟨[0,2,4,6],[],[],[],[],[]⟩
def OX:SQ:=⟨us [cJ,cg,.u,.u,.u,.slc 2800005,.u,.u,.u,.u,.u,.u,.u,.u,.u,eJ,cg,cg] 36,dc,gg⟩
def QQ:SQ:=⟨us [cJ,cg,.u,.u,.u,.slc 2800005] 48,dc,gg⟩
def QT:SQ:=⟨us [] 54,dc,[]⟩
def jZ (d:List oG) (e:Int):=dQ d (0,(0,(0,(false,())))) e
def JD {f:Type} (Y:Int->(List oG)->Int->Int->Int->Int->(List oG)->Int->Int->Int->Int->bU->Bool->bU->Int->Int->Int->Int->Int->Int->bU->Bool->bU->Int->Int->bU->Int->Int->(List oG)->Int->Int->Int->Bool->Bool->Option f) (Z:Int->Int->Int->(List oG)->Int->Int->Int->Int->bU->Bool->bU->Int->Int->Int->Int->Int->Int->bU->Bool->bU->Int->Int->bU->Int->Int->(List oG)->Int->Int->Int->Bool->Bool->Option f) (kR:Int->Int->Option f) (g:Int) (e:List oG) (i d j l:Int) (h:List oG) (m o p q:Int) (s:bU) (u:Bool) (v:bU) (x y z A B D:Int) (E:bU) (G:Bool) (I:bU) (J K:Int) (L:bU) (M N:Int) (O:List oG) (S U V:Int) (W X:Bool):Option f:=cond (gU d i) (cond (fO e d) (cond (leI (jZ e d).2.2.1 g) (cond (eH (cu h [((jZ e d).1,((jZ e d).2.1,((jZ e d).2.2.1,((jZ e d).2.2.2.1,()))))]) 32) (Y g e i (bY .i64 d 1) j l (cu h [((jZ e d).1,((jZ e d).2.1,((jZ e d).2.2.1,((jZ e d).2.2.2.1,()))))]) m o p q s u v x y z A B D E G I J K L M N O S U V W X) a7)<|Y g e i (bY .i64 d 1) j l h m o p q s u v x y z A B D E G I J K L M N O S U V W X) a7)<|Z g j l h m o p q s u v x y z A B D E G I J K L M N O S U V W X
def yG:Nat->Int->(List oG)->Int->Int->Int->Int->(List oG)->Int->Int->Int->Int->bU->Bool->bU->Int->Int->Int->Int->Int->Int->bU->Bool->bU->Int->Int->bU->Int->Int->(List oG)->Int->Int->Int->Bool->Bool->Option (QQ.den⊕QT.den)
 |0,_,_,_,_,_,_,_,_,_,_,_,_,_,_,_,_,_,_,_,_,_,_,_,_,_,_,_,_,_,_,_,_,_,_=>a7
 |n+1,d,e,f,g,h,i,j,l,m,o,p,q,s,u,v,x,y,z,A,B,D,E,G,I,J,K,L,M,N,O,S,U,V,W=>JD (yG n) (fun X Y Z e3 e4 e5 e6 e7 e8 e9 ab ad ae af ag ah ai aj ak al an ao au av aw ax ay az aA aB aF=>a6 (.inl ((X,()),((Y,Z,()),(),()),(e3,(e4,e5,e6,e7,e8,e9,ab,ad,ae,()),(af,ag,ah,ai,aj,ak,al,an,ao,()),(au,av,aw,ax,ay,az,aA,aB,aF,()),())))) (fun r0 r1=>a6 (.inr ((),((r0,r1,()),(),()),()))) d e f g h i j l m o p q s u v x y z A B D E G I J K L M N O S U V W
def asq (n:Nat) (v:OX.den):=bB (yG n) v
noncomputable def aax:dG:=fQ ahu OX QQ QT (.exit 0) (asq bV) 6
def LY:SQ:=⟨us [.u,.u,.u,.u,cC,.u,cL,.v pV] 99,ej,[c8,cY,.box 0 69 cX]⟩
def wZ:SQ:=⟨[],ej,[]⟩
def xe:SQ:=⟨us eS 100,ej,[c8,.box 0 69 cX]⟩
def ww {B:Type} (d:((List ig)×Unit)) (D:zN) (G:List gQ) (e:Int->Int->Int->Int->bU->Bool->bU->Int->Int->bU->Int->Int->(List oG)->Int->Int->Int->Bool->Bool->Option B) (f g h:Int) (i:bU) (j:Bool) (l:bU) (m o:Int) (p:bU) (q s:Int) (u:List oG) (v x y:Int) (z A:Bool):Option B:=cond (fO d.1 (dQ d.1 (0,(0,(0,(0,())))) D.1).2.2.2.1) (bK (aDf G (dQ d.1 (0,(0,(0,(0,())))) (dQ d.1 (0,(0,(0,(0,())))) D.1).2.2.2.1)) fun E=>cond (bZ E.1 4) (e f 4 g h i j l m o p q s u v x y z A)<|cond (bZ E.1 5) (e f 4 g h i j l m o p q s u v x y z A)<|e f 3 g h i j l m o p q s u v x y z A) a7
def Bo {G:Type} (J:Option G) (f:Int->Int->Int->Int->bU->Bool->bU->Int->Int->bU->Int->Int->(List oG)->Int->Int->Int->Bool->Bool->Option G) (E:List gQ) (K L M N:Int) (O:bU) (S:Bool) (U:bU) (V W g X h i:Int) (j:bU) (l:Bool) (A:bU) (B m:Int) (o:bU) (p q:Int) (s:List oG) (u v x:Int) (y z:Bool):Option G:=bK (acn E) fun d=>bK (aDe d.1 (dV .i64 (bM E) 1)) fun e=>cond (fO d.1 e.1) (cond (bZ (dQ d.1 (0,(0,(0,(0,())))) e.1).1 6) (cond (fO d.1 e.1) (cond (!(bZ (dQ d.1 (0,(0,(0,(0,())))) e.1).1 7)) (f g 5 h i j l A B m o p q s u v x y z)<|cond (fO d.1 e.1) (bK (axi d.1 (dQ d.1 (0,(0,(0,(0,())))) e.1).2.2.2.1 e.1) fun D=>cond (fO d.1 (dQ d.1 (0,(0,(0,(0,())))) e.1).2.2.2.1) (cond (bZ (dQ d.1 (0,(0,(0,(0,())))) (dQ d.1 (0,(0,(0,(0,())))) e.1).2.2.2.1).1 5) (cond (gU 0 D.1) (cond (fO d.1 D.2.1) (cond (fO E (dQ d.1 (0,(0,(0,(0,())))) D.2.1).2.1) (bK (TN (dQ E (0,([],(0,(0,())))) (dQ d.1 (0,(0,(0,(0,())))) D.2.1).2.1).2.1) fun I=>f g 2 h i j l I.1 D.1 m o p q s u v x y z) a7) a7)<|f g 1 h i j l A B m o p q s u v x y z)<|cond (bZ (dQ d.1 (0,(0,(0,(0,())))) (dQ d.1 (0,(0,(0,(0,())))) e.1).2.2.2.1).1 8) (ww d e E f g h i j l A B m o p q s u v x y z)<|cond (bZ (dQ d.1 (0,(0,(0,(0,())))) (dQ d.1 (0,(0,(0,(0,())))) e.1).2.2.2.1).1 13) (cond (bZ D.1 0) (f g 6 h i j l A B m o p q s u v x y z)<|f g 7 h i j l A B m o p q s u v x y z)<|cond (bZ (dQ d.1 (0,(0,(0,(0,())))) (dQ d.1 (0,(0,(0,(0,())))) e.1).2.2.2.1).1 14) (f g 7 h i j l A B m o p q s u v x y z)<|cond (bZ (dQ d.1 (0,(0,(0,(0,())))) (dQ d.1 (0,(0,(0,(0,())))) e.1).2.2.2.1).1 15) (f g 8 h i j l A B m o p q s u v x y z)<|f g 5 h i j l A B m o p q s u v x y z) a7) a7) a7)<|cond (fO d.1 e.1) (cond (!(bZ (dQ d.1 (0,(0,(0,(0,())))) e.1).1 7)) (f g 9 h i j l A B m o p q s u v x y z)<|cond (fO d.1 e.1) (bK (axi d.1 (dQ d.1 (0,(0,(0,(0,())))) e.1).2.2.2.1 e.1) fun D=>cond (fO d.1 (dQ d.1 (0,(0,(0,(0,())))) e.1).2.2.2.1) (cond (bZ (dQ d.1 (0,(0,(0,(0,())))) (dQ d.1 (0,(0,(0,(0,())))) e.1).2.2.2.1).1 5) (cond (gU 0 D.1) (cond (fO d.1 D.2.1) (cond (fO E (dQ d.1 (0,(0,(0,(0,())))) D.2.1).2.1) (bK (TN (dQ E (0,([],(0,(0,())))) (dQ d.1 (0,(0,(0,(0,())))) D.2.1).2.1).2.1) fun I=>f g 2 h i j l I.1 D.1 m o p q s u v x y z) a7) a7)<|f g 1 h i j l A B m o p q s u v x y z)<|cond (bZ (dQ d.1 (0,(0,(0,(0,())))) (dQ d.1 (0,(0,(0,(0,())))) e.1).2.2.2.1).1 8) (ww d e E f g h i j l A B m o p q s u v x y z)<|cond (bZ (dQ d.1 (0,(0,(0,(0,())))) (dQ d.1 (0,(0,(0,(0,())))) e.1).2.2.2.1).1 13) (cond (bZ D.1 0) (f g 6 h i j l A B m o p q s u v x y z)<|f g 7 h i j l A B m o p q s u v x y z)<|cond (bZ (dQ d.1 (0,(0,(0,(0,())))) (dQ d.1 (0,(0,(0,(0,())))) e.1).2.2.2.1).1 14) (f g 7 h i j l A B m o p q s u v x y z)<|cond (bZ (dQ d.1 (0,(0,(0,(0,())))) (dQ d.1 (0,(0,(0,(0,())))) e.1).2.2.2.1).1 15) (f g 8 h i j l A B m o p q s u v x y z)<|f g 9 h i j l A B m o p q s u v x y z) a7) a7) a7) a7
def pM (d:List gQ) (e f g h:Int) (i:bU) (j:Bool) (l:bU) (m o p q s u:Int) (v:bU) (x:Bool) (y:bU) (z A:Int) (B:bU) (D E:Int) (G:List oG) (I J K:Int) (L M:Bool):Option (wZ.den⊕xe.den):=Bo (a6 (.inl ((),((),()),()))) (fun N O S U V W X Y Z r9 ab r11 ad ae af ag r16 ah=>a6 (.inr ((),((),()),((N,O,S,U,V,W,X,Y,Z,()),(r9,ab,r11,ad,ae,af,ag,r16,ah,()),())))) d e f g h i j l m o p q s u v x y z A B D E G I J K L M
noncomputable def GX:dG:=fQ rU LY wZ xe (.exit 0) (fun v=>pM v.1.1 v.2.2.1.1 v.2.2.1.2.1 v.2.2.1.2.2.1 v.2.2.1.2.2.2.1 v.2.2.1.2.2.2.2.1 v.2.2.1.2.2.2.2.2.1 v.2.2.1.2.2.2.2.2.2.1 v.2.2.1.2.2.2.2.2.2.2.1 v.2.2.1.2.2.2.2.2.2.2.2.1 v.2.2.2.1.1 v.2.2.2.1.2.1 v.2.2.2.1.2.2.1 v.2.2.2.1.2.2.2.1 v.2.2.2.1.2.2.2.2.1 v.2.2.2.1.2.2.2.2.2.1 v.2.2.2.1.2.2.2.2.2.2.1 v.2.2.2.1.2.2.2.2.2.2.2.1 v.2.2.2.1.2.2.2.2.2.2.2.2.1 v.2.2.2.2.1.1 v.2.2.2.2.1.2.1 v.2.2.2.2.1.2.2.1 v.2.2.2.2.1.2.2.2.1 v.2.2.2.2.1.2.2.2.2.1 v.2.2.2.2.1.2.2.2.2.2.1 v.2.2.2.2.1.2.2.2.2.2.2.1 v.2.2.2.2.1.2.2.2.2.2.2.2.1 v.2.2.2.2.1.2.2.2.2.2.2.2.2.1) 12
def EZ:SQ:=⟨us [.u,.u,.u,.u,cC,.u,cL] 100,ej,[]⟩
def vS:SQ:=⟨[],ej,[]⟩
def vT:SQ:=⟨us [] 107,ej,[]⟩
def CJ {d:Type} (e f:Option d):Option d:=a7
def vO:Option (vS.den⊕vT.den):=CJ (a6 (.inl ((),((),()),()))) (a6 (.inr ((),((),()),())))
noncomputable def BN:dG:=fQ rU EZ vS vT (.exit 0) (fun v=>vO) 18
def ajX (e:wZ.den⊕xe.den):Option taK:=dO e (fun f=>a7) (fun d=>a6 ((d.2.2.2.1.1,(d.2.2.2.1.2.1,(d.2.2.2.1.2.2.1,(d.2.2.2.1.2.2.2.1,(d.2.2.2.1.2.2.2.2.1,(d.2.2.2.1.2.2.2.2.2.1,(d.2.2.2.1.2.2.2.2.2.2.1,(d.2.2.2.1.2.2.2.2.2.2.2.1,(d.2.2.2.1.2.2.2.2.2.2.2.2.1,()))))))))),((d.2.2.1.1,(d.2.2.1.2.1,(d.2.2.1.2.2.1,(d.2.2.1.2.2.2.1,(d.2.2.1.2.2.2.2.1,(d.2.2.1.2.2.2.2.2.1,(d.2.2.1.2.2.2.2.2.2.1,(d.2.2.1.2.2.2.2.2.2.2.1,(d.2.2.1.2.2.2.2.2.2.2.2.1,()))))))))),())))
def aC8 (l:bU) (m o:Int) (h:List oG) (p q s:Int) (u v:Bool) (e:Int×Int×Int×Int×bU×taY) (i:Int):Option taK:=bK (yG bV i h (bM h) 0 i i [] 0 0 0 0 [] false [] 0 0 e.1 e.2.1 e.2.2.1 e.2.2.2.1 e.2.2.2.2.1 e.2.2.2.2.2.1 e.2.2.2.2.2.2.1 e.2.2.2.2.2.2.2.1 e.2.2.2.2.2.2.2.2.1 l m o h p q s u v) fun x=>dO x (fun d=>cond (dZ (bM d.2.2.2.2.2.1.1) d.1.1 (bM d.2.2.2.2.2.1.1)) (bK (WA (sub d.2.2.2.2.2.1.1 d.1.1 (bM d.2.2.2.2.2.1.1))) fun f=>cond f.2.2.1 (cond (gG f.1 [61]) (bK (Z9 d.2.2.2.2.2.1.1 d.2.2.1) fun g=>cond (eH (cu g.1 [(6,((cu f.1 [61]),(0,(0,()))))]) 40) (bK (pM (cu g.1 [(6,((cu f.1 [61]),(0,(0,()))))]) d.2.2.2.1.1 d.2.2.2.1.2.1 d.2.2.2.1.2.2.1 d.2.2.2.1.2.2.2.1 d.2.2.2.1.2.2.2.2.1 d.2.2.2.1.2.2.2.2.2.1 d.2.2.2.1.2.2.2.2.2.2.1 d.2.2.2.1.2.2.2.2.2.2.2.1 d.2.2.2.1.2.2.2.2.2.2.2.2.1 d.2.2.2.2.1.1 d.2.2.2.2.1.2.1 d.2.2.2.2.1.2.2.1 d.2.2.2.2.1.2.2.2.1 d.2.2.2.2.1.2.2.2.2.1 d.2.2.2.2.1.2.2.2.2.2.1 d.2.2.2.2.1.2.2.2.2.2.2.1 d.2.2.2.2.1.2.2.2.2.2.2.2.1 d.2.2.2.2.1.2.2.2.2.2.2.2.2.1 d.2.2.2.2.2.1.1 d.2.2.2.2.2.1.2.1 d.2.2.2.2.2.1.2.2.1 d.2.2.2.2.2.1.2.2.2.1 d.2.2.2.2.2.1.2.2.2.2.1 d.2.2.2.2.2.1.2.2.2.2.2.1 d.2.2.2.2.2.1.2.2.2.2.2.2.1 d.2.2.2.2.2.1.2.2.2.2.2.2.2.1 d.2.2.2.2.2.1.2.2.2.2.2.2.2.2.1) fun j=>ajX j) a7) a7)<|bK (Z9 d.2.2.2.2.2.1.1 d.2.2.1) fun g=>cond (eH (cu g.1 [(6,([95],(0,(0,()))))]) 40) (bK (pM (cu g.1 [(6,([95],(0,(0,()))))]) d.2.2.2.1.1 d.2.2.2.1.2.1 d.2.2.2.1.2.2.1 d.2.2.2.1.2.2.2.1 d.2.2.2.1.2.2.2.2.1 d.2.2.2.1.2.2.2.2.2.1 d.2.2.2.1.2.2.2.2.2.2.1 d.2.2.2.1.2.2.2.2.2.2.2.1 d.2.2.2.1.2.2.2.2.2.2.2.2.1 d.2.2.2.2.1.1 d.2.2.2.2.1.2.1 d.2.2.2.2.1.2.2.1 d.2.2.2.2.1.2.2.2.1 d.2.2.2.2.1.2.2.2.2.1 d.2.2.2.2.1.2.2.2.2.2.1 d.2.2.2.2.1.2.2.2.2.2.2.1 d.2.2.2.2.1.2.2.2.2.2.2.2.1 d.2.2.2.2.1.2.2.2.2.2.2.2.2.1 d.2.2.2.2.2.1.1 d.2.2.2.2.2.1.2.1 d.2.2.2.2.2.1.2.2.1 d.2.2.2.2.2.1.2.2.2.1 d.2.2.2.2.2.1.2.2.2.2.1 d.2.2.2.2.2.1.2.2.2.2.2.1 d.2.2.2.2.2.1.2.2.2.2.2.2.1 d.2.2.2.2.2.1.2.2.2.2.2.2.2.1 d.2.2.2.2.2.1.2.2.2.2.2.2.2.2.1) fun j=>ajX j) a7) a7) (fun y=>bK vO fun f=>dO f (fun z=>a7) (fun A=>a7))
def aHr:gK:=⟨69,tzC,[.pair cZ tyG,cZ],[.pair cZ tyG],fun x y=>aC8 x.1 x.2.1 x.2.2.1 x.2.2.2.1 x.2.2.2.2.1 x.2.2.2.2.2.1 x.2.2.2.2.2.2.1 x.2.2.2.2.2.2.2.1 x.2.2.2.2.2.2.2.2.1 y.1 y.2.1⟩
noncomputable def FY:Env:=gZ prog tt [(44,aBy),(73,aHC),(74,aHD),(75,aHE),(76,aHF),(116,aAI),(117,aAJ)] [(72,3,ahu),(45,800002,rU),(45,600001,aI6)] [(72,3,aax),(45,800002,kL GX BN)] []
def aaT {d:Type} (a:OX.den->Option d) (b:QQ.den->Option d) (c:QT.den->Option d) (v:OX.den):Option d:=bB (JD (fun e f g h i j l m o p q s u x y z A B D E G I J K L M N O S U V W X Y=>a ((e,f,g,h,()),((i,j,()),(),()),(l,(m,o,p,q,s,u,x,y,z,()),(A,B,D,E,G,I,J,K,L,()),(M,N,O,S,U,V,W,X,Y,()),()))) (fun Z e1 e2 e3 e4 e5 e6 e7 e8 e9 ab ad ae af ag ah ai aj ak al an ao au av aw ax ay az aA aB aF=>b ((Z,()),((e1,e2,()),(),()),(e3,(e4,e5,e6,e7,e8,e9,ab,ad,ae,()),(af,ag,ah,ai,aj,ak,al,an,ao,()),(au,av,aw,ax,ay,az,aA,aB,aF,()),()))) (fun r0 r1=>c ((),((r0,r1,()),(),()),()))) v
theorem asx:dY FY 72 agk aax:=lT (aaT) (h2:=by intros;simp only[aaT,bB,JD,dw,dA,bJ,dh,dB,jZ])
theorem Zy {R:Type} (d:Nat) (K:Ex->St->Option R) (e:List gQ) (f:Int) (g:Int) (h:Int) (i:Int) (j:bU) (l:Bool) (m:bU) (o:Int) (p:Int) (q:Int) (s:Int) (u:Int) (v:Int) (x:bU) (y:Bool) (z:bU) (A:Int) (B:Int) (D:bU) (E:Int) (G:Int) (I:List oG) (J:Int) (L:Int) (M:Int) (N:Bool) (O:Bool):
  iter (a6 rU) (tH (qR FY (d+12) 45 pg)) 1 (jM LY ((e,()),((),()),((f,g,h,i,j,l,m,o,p,()),(q,s,u,v,x,y,z,A,B,()),(D,E,G,I,J,L,M,N,O,()),()))) K=
   Bo (K (.exit 0) (jM wZ ((),((),()),()))) (fun S U V W X Y Z r7 r8 r9 ab r11 ad ae af ag r16 ah=>K .ret (jM xe ((),((),()),((S,U,V,W,X,Y,Z,r7,r8,()),(r9,ab,r11,ad,ae,af,ag,r16,ah,()),())))) e f g h i j l m o p q s u v x y z A B D E G I J L M N O:=by kernel_rfl
theorem ahs {R:Type} (d:Nat) (K:Ex->St->Option R) (e:List gQ) (f:Int) (g:Int) (h:Int) (i:Int) (j:bU) (l:Bool) (m:bU) (p:Int) (q:Int) (s:Int) (u:Int) (v:Int) (x:Int) (y:bU) (z:Bool) (A:bU) (B:Int) (D:Int) (E:bU) (G:Int) (I:Int) (J:List oG) (L:Int) (M:Int) (N:Int) (O:Bool) (S:Bool):
  iter (a6 rU) (tH (qR FY (d+12) 45 pg)) 1 (jM LY ((e,()),((),()),((f,g,h,i,j,l,m,p,q,()),(s,u,v,x,y,z,A,B,D,()),(E,G,I,J,L,M,N,O,S,()),()))) K=bK (pM e f g h i j l m p q s u v x y z A B D E G I J L M N O S) fun o=>dO o (fun a=>K (.exit 0) (jM wZ a)) fun b=>K .ret (jM xe b):=by
  rw[Zy];simp only[pM,Bo,dw,dA,bJ,dh,dB,ww]
  try simp only[dO]
theorem ah4:qF FY 45 pg GX:=PZ (by kernel_rfl) fun R d K v o h=>⟨1,(ahs d K (v.1.1) (v.2.2.1.1) (v.2.2.1.2.1) (v.2.2.1.2.2.1) (v.2.2.1.2.2.2.1) (v.2.2.1.2.2.2.2.1) (v.2.2.1.2.2.2.2.2.1) (v.2.2.1.2.2.2.2.2.2.1) (v.2.2.1.2.2.2.2.2.2.2.1) (v.2.2.1.2.2.2.2.2.2.2.2.1) (v.2.2.2.1.1) (v.2.2.2.1.2.1) (v.2.2.2.1.2.2.1) (v.2.2.2.1.2.2.2.1) (v.2.2.2.1.2.2.2.2.1) (v.2.2.2.1.2.2.2.2.2.1) (v.2.2.2.1.2.2.2.2.2.2.1) (v.2.2.2.1.2.2.2.2.2.2.2.1) (v.2.2.2.1.2.2.2.2.2.2.2.2.1) (v.2.2.2.2.1.1) (v.2.2.2.2.1.2.1) (v.2.2.2.2.1.2.2.1) (v.2.2.2.2.1.2.2.2.1) (v.2.2.2.2.1.2.2.2.2.1) (v.2.2.2.2.1.2.2.2.2.2.1) (v.2.2.2.2.1.2.2.2.2.2.2.1) (v.2.2.2.2.1.2.2.2.2.2.2.2.1) (v.2.2.2.2.1.2.2.2.2.2.2.2.2.1)).trans (congrArg (fun o=>bK o _) h)⟩
theorem TZ {R:Type} (d:Nat) (K:Ex->St->Option R):
  iter (a6 rU) (tH (qR FY (d+18) 45 pg)) 1 (jM EZ ((),((),()),())) K=
   CJ (K (.exit 0) (jM vS ((),((),()),()))) (K .ret (jM vT ((),((),()),()))):=by kernel_rfl
theorem Y7 {R:Type} (d:Nat) (K:Ex->St->Option R):
  iter (a6 rU) (tH (qR FY (d+18) 45 pg)) 1 (jM EZ ((),((),()),())) K=bK (vO) fun o=>dO o (fun a=>K (.exit 0) (jM vS a)) fun b=>K .ret (jM vT b):=by
  rw[TZ];simp only[vO,CJ,dw,dA,bJ,dh,dB]
  try simp only[dO]
theorem Zn:qF FY 45 pg BN:=PZ (by kernel_rfl) fun R d K v o h=>⟨1,(Y7 d K).trans (congrArg (fun o=>bK o _) h)⟩
theorem aM9:jk b45=[]:=by kernel_rfl
theorem aMG:uP FY 45 b45=[pg]:=by kernel_rfl
theorem aNt:dR FY 45 b45:=pz b45 (fun x _ d=>absurd (show false=true from d) (by decide)) (by rw[aM9];exact aN) (qj (by rw[aMG];exact(aD (fun L h=>by rw[show(FY).lp 45 (800000+dM pg)=a6 (kL GX BN) by kernel_rfl]at h;cases h;exact au8 ah4 Zn) aN)))
theorem ayq:dR FY 72 ajh:=oq [agk] (aD (fM (asx)) aN)
theorem avK:fH FY:=eB (aD aiI (aD aBN (aD aBO (aD aBP (aD aBQ (aD aa0 (aD asP aN))))))) [45,72] (aD ⟨f45,b45,by kernel_rfl,by kernel_rfl,aNt⟩ (aD ⟨f72,ajh,by kernel_rfl,by kernel_rfl,ayq⟩ aN))
theorem aBz:eP prog 45 aHr:=sB avK
noncomputable def b13:Code:=(f13.body).getD .skip
noncomputable def aFR:Code:=cA (cA (cB (cB (cA (cB (b13))))))
def aGy:eY:=⟨[2,3,100002],[(3,.pair (.list .bool) .unit)],[],[],[2],[]⟩
def aI3:eY:=⟨[0,2],[],[],[],[],[]⟩
def aDw:eY:=⟨[2,3,4,8],[],[],[],[],[]⟩
def aoE:SP:=⟨us [.u,.u,cS,.ptr 1800003 0] 103,[.box 1800003 69 cX,.box 1000002 31 b8]⟩
def akQ:SP:=⟨[],[]⟩
def alo:SP:=⟨us [.u,.u,cS] 104,[.box 1000002 31 b8]⟩
def Pn {h:Type} (d:(taT×zN)) (e:(lD×Bool×Unit)) (g:zN) (i:bU->Int->Int->(List oG)->Int->Int->Int->Bool->Bool->Int->Int->Int->Int->bU->Bool->bU->Int->Int->Option h) (j l m o:Int) (p:bU) (q:Bool) (s:bU) (u v:Int):Option h:=cond (dZ (bM d.1.1) (bY .i64 (bY .i64 d.2.1 e.1.2.1) 2) (bM d.1.1)) (cond (dZ (bM d.1.1) (bY .i64 (bY .i64 d.2.1 e.1.2.1) 2) (bM d.1.1)) (bK (aDc (sub d.1.1 (bY .i64 (bY .i64 d.2.1 e.1.2.1) 2) (bM d.1.1))) fun x=>cond (gm d.1.1 d.1.1) (cond (bZ (bY .i64 (bY .i64 d.2.1 e.1.2.1) 2) (bY .i64 (bY .i64 d.2.1 e.1.2.1) 2)) (cond (dZ (bM d.1.1) (bY .i64 (bY .i64 d.2.1 e.1.2.1) 2) (bM d.1.1)) (cond (gm (sub d.1.1 (bY .i64 (bY .i64 d.2.1 e.1.2.1) 2) (bM d.1.1)) (sub d.1.1 (bY .i64 (bY .i64 d.2.1 e.1.2.1) 2) (bM d.1.1))) (cond (bZ d.1.2.1 d.1.2.1) (cond (bZ (bY .i64 (bY .i64 d.2.1 e.1.2.1) 2) (bY .i64 (bY .i64 d.2.1 e.1.2.1) 2)) (cond (bZ (bY .i64 d.1.2.1 (bY .i64 (bY .i64 d.2.1 e.1.2.1) 2)) (bY .i64 d.1.2.1 (bY .i64 (bY .i64 d.2.1 e.1.2.1) 2))) (cond (bZ (bY .i64 d.1.2.2.1 g.1) (bY .i64 d.1.2.2.1 g.1)) (cond (gm d.1.1 d.1.1) (cond (bZ (bY .i64 (bY .i64 d.2.1 e.1.2.1) 2) (bY .i64 (bY .i64 d.2.1 e.1.2.1) 2)) (cond (gm d.1.1 d.1.1) (cond (bZ (bY .i64 (bY .i64 d.2.1 e.1.2.1) 2) (bY .i64 (bY .i64 d.2.1 e.1.2.1) 2)) (cond (dZ (bM d.1.1) (bY .i64 (bY .i64 d.2.1 e.1.2.1) 2) (bM d.1.1)) (cond (gm (sub d.1.1 (bY .i64 (bY .i64 d.2.1 e.1.2.1) 2) (bM d.1.1)) (sub d.1.1 (bY .i64 (bY .i64 d.2.1 e.1.2.1) 2) (bM d.1.1))) (cond (bZ d.1.2.1 d.1.2.1) (cond (bZ (bY .i64 (bY .i64 d.2.1 e.1.2.1) 2) (bY .i64 (bY .i64 d.2.1 e.1.2.1) 2)) (cond (bZ (bY .i64 d.1.2.1 (bY .i64 (bY .i64 d.2.1 e.1.2.1) 2)) (bY .i64 d.1.2.1 (bY .i64 (bY .i64 d.2.1 e.1.2.1) 2))) (cond (bZ (bY .i64 d.1.2.2.1 g.1) (bY .i64 d.1.2.2.1 g.1)) (cond (gm d.1.1 d.1.1) (cond (bZ (bY .i64 (bY .i64 d.2.1 e.1.2.1) 2) (bY .i64 (bY .i64 d.2.1 e.1.2.1) 2)) (cond (dZ (bM d.1.1) (bY .i64 (bY .i64 d.2.1 e.1.2.1) 2) (bM d.1.1)) (cond (gm (sub d.1.1 (bY .i64 (bY .i64 d.2.1 e.1.2.1) 2) (bM d.1.1)) (sub d.1.1 (bY .i64 (bY .i64 d.2.1 e.1.2.1) 2) (bM d.1.1))) (bK (axe (sub d.1.1 (bY .i64 (bY .i64 d.2.1 e.1.2.1) 2) (bM d.1.1)) (bY .i64 d.1.2.1 (bY .i64 (bY .i64 d.2.1 e.1.2.1) 2)) (bY .i64 d.1.2.2.1 g.1) x.1 0 0 0 false false) fun f=>i f.1.1 f.1.2.1 f.1.2.2.1 f.1.2.2.2.1 f.1.2.2.2.2.1 f.1.2.2.2.2.2.1 f.1.2.2.2.2.2.2.1 f.1.2.2.2.2.2.2.2.1 f.1.2.2.2.2.2.2.2.2.1 j l m o p q s u v) a7) a7) a7) a7) a7) a7) a7) a7) a7) a7) a7) a7) a7) a7) a7) a7) a7) a7) a7) a7) a7) a7) a7) a7
def Po {m:Type} (j:(lD×Bool×Unit)) (d:(taT×zN)) (h:zN) (l:Int->Int->Int->Int->bU->Bool->bU->Int->Int->Option m) (i:((List lD)×Bool×Unit)):Option m:=cond j.2.1 (bK (aC5 d.1.1 d.1.2.1 (bY .i64 d.1.2.2.1 h.1) d.1.2.2.2.1 d.1.2.2.2.2.1 d.1.2.2.2.2.2.1 d.1.2.2.2.2.2.2.1 d.1.2.2.2.2.2.2.2.1 d.1.2.2.2.2.2.2.2.2.1 (j.1.1,(j.1.2.1,())) (sub d.1.1 d.2.1 (bM d.1.1))) fun f=>l f.2.1.1 f.2.1.2.1 f.2.1.2.2.1 f.2.1.2.2.2.1 f.2.1.2.2.2.2.1 f.2.1.2.2.2.2.2.1 f.2.1.2.2.2.2.2.2.1 f.2.1.2.2.2.2.2.2.2.1 f.2.1.2.2.2.2.2.2.2.2.1)<|bK (aC6 (sub d.1.1 d.2.1 (bM d.1.1))) fun f=>cond (!(gm f.1 [])) (bK (ag4 d.1.1 d.1.2.1 (bY .i64 d.1.2.2.1 h.1) d.1.2.2.2.1 d.1.2.2.2.2.1 d.1.2.2.2.2.2.1 d.1.2.2.2.2.2.2.1 d.1.2.2.2.2.2.2.2.1 d.1.2.2.2.2.2.2.2.2.1 f.1) fun e=>l e.2.1.1 e.2.1.2.1 e.2.1.2.2.1 e.2.1.2.2.2.1 e.2.1.2.2.2.2.1 e.2.1.2.2.2.2.2.1 e.2.1.2.2.2.2.2.2.1 e.2.1.2.2.2.2.2.2.2.1 e.2.1.2.2.2.2.2.2.2.2.1)<|bK (aC7 i.1) fun e=>cond (bZ d.1.2.1 d.1.2.1) (cond (bZ d.2.1 d.2.1) (cond (bZ (bY .i64 d.1.2.1 d.2.1) (bY .i64 d.1.2.1 d.2.1)) (cond (oV J4 i.1 i.1) (cond (bZ (bY .i64 d.1.2.2.1 h.1) (bY .i64 d.1.2.2.1 h.1)) (cond (((oV J4 i.1 i.1)&&true)&&((bZ e.1 e.1)&&true)) (cond ((bZ 1 1)&&((bZ 0 0)&&((bZ (bY .i64 d.1.2.1 d.2.1) (bY .i64 d.1.2.1 d.2.1))&&((bZ e.1 e.1)&&((gm [] [])&&((jP false false)&&((gm [] [])&&((bZ 0 0)&&((bZ (bY .i64 d.1.2.2.1 h.1) (bY .i64 d.1.2.2.1 h.1))&&true))))))))) (bK (TN (sub d.1.1 d.2.1 (bM d.1.1))) fun o=>bK (aC8 d.1.1 d.1.2.1 (bY .i64 d.1.2.2.1 h.1) d.1.2.2.2.1 d.1.2.2.2.2.1 d.1.2.2.2.2.2.1 d.1.2.2.2.2.2.2.1 d.1.2.2.2.2.2.2.2.1 d.1.2.2.2.2.2.2.2.2.1 (1,(0,((bY .i64 d.1.2.1 d.2.1),(e.1,(o.1,(o.2.1,([],(0,((bY .i64 d.1.2.2.1 h.1),()))))))))) d.2.1) fun g=>l g.2.1.1 g.2.1.2.1 g.2.1.2.2.1 g.2.1.2.2.2.1 g.2.1.2.2.2.2.1 g.2.1.2.2.2.2.2.1 g.2.1.2.2.2.2.2.2.1 g.2.1.2.2.2.2.2.2.2.1 g.2.1.2.2.2.2.2.2.2.2.1) a7) a7) a7) a7) a7) a7) a7
def afh {g:Type} (l:bU->Int->Int->(List oG)->Int->Int->Int->Bool->Bool->Int->Int->Int->Int->bU->Bool->bU->Int->Int->Option g) (L:Option g) (h:Int->Int->Int->Int->bU->Bool->bU->Int->Int->Option g) (z:bU) (A B:Int) (D:List oG) (E G I:Int) (J K:Bool) (m o p q:Int) (s:bU) (u:Bool) (v:bU) (x y:Int):Option g:=bK (aC1 z A B D E G I J K) fun e=>cond e.2.1 (bK (ajU e.1.1 e.1.2.1 e.1.2.2.1 e.1.2.2.2.1 e.1.2.2.2.2.1 e.1.2.2.2.2.2.1 e.1.2.2.2.2.2.2.1 e.1.2.2.2.2.2.2.2.1 e.1.2.2.2.2.2.2.2.2.1 4) fun d=>h d.2.1.1 d.2.1.2.1 d.2.1.2.2.1 d.2.1.2.2.2.1 d.2.1.2.2.2.2.1 d.2.1.2.2.2.2.2.1 d.2.1.2.2.2.2.2.2.1 d.2.1.2.2.2.2.2.2.2.1 d.2.1.2.2.2.2.2.2.2.2.1)<|cond (bZ e.1.2.2.2.2.1 3) (bK (ajU e.1.1 e.1.2.1 e.1.2.2.1 e.1.2.2.2.1 e.1.2.2.2.2.1 e.1.2.2.2.2.2.1 e.1.2.2.2.2.2.2.1 e.1.2.2.2.2.2.2.2.1 e.1.2.2.2.2.2.2.2.2.1 3) fun d=>h d.2.1.1 d.2.1.2.1 d.2.1.2.2.1 d.2.1.2.2.2.1 d.2.1.2.2.2.2.1 d.2.1.2.2.2.2.2.1 d.2.1.2.2.2.2.2.2.1 d.2.1.2.2.2.2.2.2.2.1 d.2.1.2.2.2.2.2.2.2.2.1)<|bK (aC2 e.1.1 e.1.2.1 e.1.2.2.1 e.1.2.2.2.1 e.1.2.2.2.2.1 e.1.2.2.2.2.2.1 e.1.2.2.2.2.2.2.1 e.1.2.2.2.2.2.2.2.1 e.1.2.2.2.2.2.2.2.2.1) fun d=>cond (dZ (bM d.1.1) d.2.1 (bM d.1.1)) (bK (axb (sub d.1.1 d.2.1 (bM d.1.1))) fun i=>bK (aC3 i.1) fun j=>bK (aC4 i.1) fun f=>cond f.2.1 (cond (bZ f.1.1 1) (Pn d f j l m o p q s u v x y)<|cond (bZ f.1.1 3) (Pn d f j l m o p q s u v x y)<|Po f d j h i)<|Po f d j h i) a7
def Qs:Nat->bU->Int->Int->(List oG)->Int->Int->Int->Bool->Bool->Int->Int->Int->Int->bU->Bool->bU->Int->Int->Option (akQ.den⊕alo.den)
 |0,_,_,_,_,_,_,_,_,_,_,_,_,_,_,_,_,_,_=>a7
 |n+1,d,e,f,g,h,i,j,l,m,o,p,q,s,u,v,x,y,z=>afh (Qs n) (a6 (.inl ((),()))) (fun A B D E G I J K L=>a6 (.inr ((),((A,B,D,E,G,I,J,K,L,()),())))) d e f g h i j l m o p q s u v x y z
def aJT (n:Nat) (v:aoE.den):=bL (Qs n) v
noncomputable def ayy:dG:=fK aGy aoE akQ alo (.exit 0) (aJT bV) 6
def aCU (f:bU):Option taP:=bK (aDb f) fun g=>bK (axe f 0 0 g.1 0 0 0 false g.2.1.2.2.1) fun d=>bK (Qs bV d.1.1 d.1.2.1 d.1.2.2.1 d.1.2.2.2.1 d.1.2.2.2.2.1 d.1.2.2.2.2.2.1 d.1.2.2.2.2.2.2.1 d.1.2.2.2.2.2.2.2.1 d.1.2.2.2.2.2.2.2.2.1 0 0 0 0 [] false [] 0 0) fun h=>dO h (fun i=>a7) (fun e=>a6 ((e.2.1.1,(e.2.1.2.1,(e.2.1.2.2.1,(e.2.1.2.2.2.1,(e.2.1.2.2.2.2.1,(e.2.1.2.2.2.2.2.1,(e.2.1.2.2.2.2.2.2.1,(e.2.1.2.2.2.2.2.2.2.1,(e.2.1.2.2.2.2.2.2.2.2.1,()))))))))),()))
def aOd:Sum:=⟨[.str],tzK,fun x=>aCU x.1⟩
noncomputable def avl:Env:=gZ prog tt [(36,aBs),(37,aHl),(38,aHm),(41,aHo),(43,aHq),(44,aBy),(58,aHx),(65,aHA)] [(13,2,aGy),(13,600001,aI3),(13,600012,aDw)] [(13,2,ayy)] [] [(33,aHi),(35,aHk),(34,aHj),(40,aHn),(42,aHp),(45,aHr),(59,aHy)]
def azK {d:Type} (a:aoE.den->Option d) (b:akQ.den->Option d) (c:alo.den->Option d) (v:aoE.den):Option d:=bL (afh (fun e f g h i j l m o p q s u x y z A B=>a ((),((e,f,g,h,i,j,l,m,o,()),(p,q,s,u,x,y,z,A,B,()),()))) (b ((),())) (bE c)) v
theorem aKA:dY avl 13 aFR ayy:=uz (azK) (h2:=by intros;simp only[azK,bE,bL,afh,dw,dA,bJ,dh,dB,Pn,Po])
theorem aNf:dR avl 13 b13:=oq [aFR] (aD (fM (aKA)) aN)
theorem avm:fH avl:=eB (aD aiG (aD aBt (aD aBu (aD aBw (aD aBx (aD aiI (aD aBI (aD aBL aN)))))))) [13] (aD ⟨f13,b13,by kernel_rfl,by kernel_rfl,aNf⟩ aN) (hx:=(aD aBq (aD aBr (aD aiF (aD aBv (aD aiH (aD aBz (aD aBJ aN))))))))
theorem aAV:dX prog 13 aOd:=sA avm
def fn7 (f:bU) (e:Int):Option ((Int×Int×Int×Int×bU×taY)×Int×Unit):=cond (gU e 0) (a6 ((0,(0,(0,(0,([],(false,([],(0,(0,()))))))))),(1,())))<|cond (gU (bM f) e) (a6 ((0,(0,(0,(0,([],(false,([],(0,(0,()))))))))),(1,())))<|cond (dZ (bM f) 0 e) (bK (aCU (sub f 0 e)) fun d=>a6 ((d.1.1,(d.1.2.1,(d.1.2.2.1,(d.1.2.2.2.1,(d.1.2.2.2.2.1,(d.1.2.2.2.2.2.1,(d.1.2.2.2.2.2.2.1,(d.1.2.2.2.2.2.2.2.1,(d.1.2.2.2.2.2.2.2.2.1,()))))))))),(0,()))) a7
def aPz:Sum:=⟨[.str,cZ],[(.pair cZ tyG,false),(.int .i64,false)],fun x=>fn7 x.1 x.2.1⟩
theorem aFw:dX prog 7 aPz:=qA f7 [] (sE aAV aN)
end
end Go.Proofs.YtdfhjhkcjecmlaaGreatDoor
