/- Parts of the proof, joined and shortened by a program: the plain machine, the functions as it prints them, and the mathematics over them. -/
import Derived.Test.YtlhpdcadgbjhiaaGreatDoorZ3
import Derived.Test.YtlhpdcadgbjhiaaGreatDoorZ4
import Derived.Test.YtlhpdcadgbjhiaaGreatDoorZ10
set_option linter.unusedVariables false
set_option linter.unusedSimpArgs false
set_option maxRecDepth 100000
set_option maxHeartbeats 4000000
namespace Go.Proofs.YtlhpdcadgbjhiaaGreatDoor
section
open Option renaming some → a6, none → a7
open Tryz
open Go.RowKit
noncomputable def b61:Code:=(f61.body).getD .skip
noncomputable def aB2:Code:=cA (cA (cB (cA (cB (cB (cA (cB (b61))))))))
def aCt:eQ:=⟨[0,7,8,100004],[],[],[],[2],[]⟩
def alj:SP:=⟨us [bO,.u,.u,.u,.u,.u,.u,bR,bR] 13,[]⟩
def ahV:SP:=⟨us [] 22,[]⟩
def aig:SP:=⟨us [.u,.u,b9] 19,[]⟩
def acw {f:Type} (j:bZ->Int->Int->Option f) (l:Option f) (g:Bool->Option f) (e:bZ) (i d:Int):Option f:=cond (gY d i) (cond (fV e d) (bJ (adL (bY e d)) fun o=>cond o.1 (cond (fV e d) (cond (!(bV (bY e d) 47)) (j e i (dw .i64 d 1))<|g false) a7)<|g false) a7) l
def ML:Nat->bZ->Int->Int->Option (ahV.den⊕aig.den)
 |0,_,_,_=>a7
 |n+1,d,e,f=>acw (ML n) (a6 (.inl ((),()))) (fun g=>a6 (.inr ((g,()),()))) d e f
def aFt (n:Nat) (v:alj.den):=aR (ML n) v
noncomputable def au7:dE:=fU aCt alj ahV aig (.exit 0) (aFt bQ) 6
def ag0 (d:bZ):Option qG:=cond (fP d []) (a6 (false,()))<|bJ (ML bQ d (bM d) 0) fun e=>dW e (fun g=>a6 (true,())) (fun f=>a6 (f.1.1,()))
def aC1:Sum:=⟨[.str],LG,fun x=>ag0 x.1⟩
noncomputable def asw:Env:=iO prog tt 61 [(91,axY)] [(4,aCt)] [(4,au7)]
def awe {d:Type} (a:alj.den->Option d) (b:ahV.den->Option d) (c:aig.den->Option d) (v:alj.den):Option d:=aR (acw (fun e f g=>a ((e,f,g,()),())) (b ((),())) (aE c)) v
theorem aFX:dV asw 61 aB2 au7:=xh (awe) (h2:=by intros;simp only[awe,aE,aR,acw,dh,di,bI,cZ,dm])
theorem aJ3:dO asw 61 b61:=nM [aB2] (aD (fM (aFX)) aN)
theorem asx:eF asw:=eA f61 (aD afK aN) (aJ3)
theorem axR:dR prog 61 aC1:=sA asx
def ay4 (e:Int) (f:bZ):Option qG:=cond (bV e 1) (cond (bV e 1) (bJ (agZ f) fun d=>a6 (d.1,()))<|cond (bV e 2) (cond (bV e 2) (bJ (ag0 f) fun d=>a6 (d.1,()))<|some (false,()))<|cond (bV e 4) (bJ (ag0 f) fun d=>a6 (d.1,()))<|some (false,()))<|cond (bV e 3) (bJ (agZ f) fun d=>a6 (d.1,()))<|cond (bV e 2) (cond (bV e 2) (bJ (ag0 f) fun d=>a6 (d.1,()))<|some (false,()))<|cond (bV e 4) (bJ (ag0 f) fun d=>a6 (d.1,()))<|some (false,())
def aCU:Sum:=⟨[dC,.str],LG,fun x=>ay4 x.1 x.2.1⟩
noncomputable def aIM:Env:=iO prog tt 35 [(60,axQ),(61,aC1)] [] []
theorem ar8:eF aIM:=eA f35 (aD U4 (aD axR aN))
theorem axE:dR prog 35 aCU:=sA ar8
def aJt (d e:bZ):Option Dc:=a6 ((am7 d e),())
def aC9:Sum:=⟨[.str,.str],Vl,fun x=>aJt x.1 x.2.1⟩
noncomputable def aIP:Env:=iO prog tt 97 [(131,acM)] [] []
theorem asL:eF aIP:=eA f97 (aD (X3 func131 (by kernel_rfl) (by kernel_rfl) (by kernel_rfl) (by kernel_rfl)) aN)
theorem ax0:dR prog 97 aC9:=sA asL
def azb (d e:bZ):Option Dc:=bJ (aJt d e) fun f=>a6 (f.1,())
def aC2:Sum:=⟨[.str,.str],Vl,fun x=>azb x.1 x.2.1⟩
noncomputable def aIO:Env:=iO prog tt 64 [(97,aC9)] [] []
theorem asy:eF aIO:=eA f64 (aD ax0 aN)
theorem axS:dR prog 64 aC2:=sA asy
noncomputable def age:Code:=(f62.body).getD .skip
noncomputable def ac6:Code:=cA (cA (cA (cB (cB (cB (age))))))
def aee:eQ:=⟨[0,1,2,8,9,10,63000003],[],[0,1,2,8,9],[],[6,7],[]⟩
def aEn:eQ:=⟨[0,1],[],[],[],[],[]⟩
def aoz:eQ:=⟨[0,1,2,8,9,10,11],[],[],[],[],[]⟩
def aoA:eQ:=⟨[0,1,2,8,9],[],[],[],[],[]⟩
def KD:SQ:=⟨us [.slc 1,bO,.fn 63 [],.u,.u,.u,.u,.u,bR,bR,bR] 38,[cK,bN],[cP,eS]⟩
def Nj:SQ:=⟨us [.slc 1,bO,.fn 63 [],.u,.u,.u,.u,.u,bR,bR] 39,[cK,bN],[cP,eS]⟩
def Nq:SQ:=⟨us [] 49,[cK,bN],[]⟩
def Gv {g:Type} (q:bZ->Int->Int->Int->bZ->bZ->Int->(List uk)->Option g) (s:bZ->Int->Int->bZ->bZ->Int->(List uk)->Option g) (v:bZ->bZ->Option g) (i:bZ) (j d e:Int) (l o:bZ) (p:Int) (f:List uk):Option g:=cond (gY d e) (cond (leI 0 1) (cond (fV f (Fe .i64 (UI .u64 (Fe .u64 (dw .i64 d e)) 1))) (cond (mi (dD (Fe .i64 (UI .u64 (Fe .u64 (dw .i64 d e)) 1))) f) (bJ (azb (dK f ([],([],())) (dD (Fe .i64 (UI .u64 (Fe .u64 (dw .i64 d e)) 1)))).1 i) fun u=>cond (gY u.1 0) (q i j (dw .i64 (Fe .i64 (UI .u64 (Fe .u64 (dw .i64 d e)) 1)) 1) e l o p f)<|q i j d (Fe .i64 (UI .u64 (Fe .u64 (dw .i64 d e)) 1)) l o p f) a7) a7) a7)<|s i j d l o p f
def vJ:Nat->bZ->Int->Int->Int->bZ->bZ->Int->(List uk)->Option (Nj.den⊕Nq.den)
 |0,_,_,_,_,_,_,_,_=>a7
 |n+1,d,e,f,g,i,j,l,o=>Gv (vJ n) (fun p q s u v x y=>a6 (.inl ((p,q,s,()),((u,v,()),(),()),((x,()),y,())))) (fun z A=>a6 (.inr ((),((z,A,()),(),()),()))) d e f g i j l o
def aoN (n:Nat) (v:KD.den):=vJ n v.1.1 v.1.2.1 v.1.2.2.1 v.1.2.2.2.1 v.2.1.1.1 v.2.1.1.2.1 v.2.2.1.1 v.2.2.2.1
noncomputable def W9:dE:=fG aee KD Nj Nq (.exit 0) (aoN bQ) 6
def ath (g:Int) (e:List uk) (f:bZ):Option ((Int×(List uk)×Unit)×(Int×Bool×Unit)):=bJ (vJ bQ f (bM e) 0 (bM e) f f g e) fun i=>dW i (fun d=>cond (gY d.1.2.2.1 d.1.2.1) (cond (fV d.2.2.2.1 d.1.2.2.1) (cond (mi (dD d.1.2.2.1) d.2.2.2.1) (bJ (azb (dK d.2.2.2.1 ([],([],())) (dD d.1.2.2.1)).1 d.1.1) fun j=>a6 ((d.2.2.1.1,(d.2.2.2.1,())),(d.1.2.2.1,((bV j.1 0),())))) a7) a7)<|some ((d.2.2.1.1,(d.2.2.2.1,())),(d.1.2.2.1,(false,())))) (fun l=>a7)
def axF:fF:=⟨79,tzG,[.str],[dC,.bool],fun x y=>ath x.1 x.2.1 y.1⟩
noncomputable def ar9:Env:=gz prog tt [(64,aC2)] [(62,3,aee),(36,600001,aEn),(62,600005,aoz),(62,600008,aoA)] [(62,3,W9)] []
def XC {d:Type} (a:KD.den->Option d) (b:Nj.den->Option d) (c:Nq.den->Option d) (v:KD.den):Option d:=Gv (fun e f g i j l o p=>a ((e,f,g,i,()),((j,l,()),(),()),((o,()),p,()))) (fun q s u x y z A=>b ((q,s,u,()),((x,y,()),(),()),((z,()),A,()))) (fun B D=>c ((),((B,D,()),(),()),())) v.1.1 v.1.2.1 v.1.2.2.1 v.1.2.2.2.1 v.2.1.1.1 v.2.1.1.2.1 v.2.2.1.1 v.2.2.2.1
theorem aoV:dV ar9 62 ac6 W9:=lg (XC) (h2:=by intros;simp only[XC,Gv,dh,di,bI,cZ,dm])
theorem auF:dO ar9 62 age:=nM [ac6] (aD (fM (aoV)) aN)
theorem asa:eF ar9:=eB (aD axS aN) [62] (aD ⟨f62,age,by kernel_rfl,by kernel_rfl,auF⟩ aN)
theorem afH:dL prog 36 axF:=sB asa
def ay0 (e:Int) (f:List uk) (g i:bZ):Option ((Int×(List uk)×Unit)×Dc):=bJ (ay4 e g) fun j=>cond (!j.1) (a6 ((e,(f,())),(5,())))<|cond (gY 65536 (bM i)) (a6 ((e,(f,())),(2,())))<|bJ (ath e f g) fun d=>cond d.2.2.1 (cond (fV d.1.2.1 d.2.1) (cond (mi (dD d.2.1) d.1.2.1) (a6 ((d.1.1,((iw d.1.2.1 (dD d.2.1) ((dK d.1.2.1 ([],([],())) (dD d.2.1)).1,(i,()))),())),(0,()))) a7) a7)<|cond (leI 10000 (bM d.1.2.1)) (a6 ((d.1.1,(d.1.2.1,())),(12,())))<|cond ((leI 0 d.2.1)&&((leI d.2.1 (bM d.1.2.1))&&(dY d.1.2.1 64))) (a6 ((d.1.1,((aoq d.1.2.1 (dD d.2.1) [(g,(i,()))]),())),(0,()))) a7
def aw8:fF:=⟨79,tzG,[.str,.str],[dC],fun x y=>ay0 x.1 x.2.1 y.1 y.2.1⟩
noncomputable def aII:Env:=gz prog tt [(35,aCU)] [] [] [] [(36,axF)]
theorem arR:eF aII:=eB (aD axE aN) [] aN (hx:=(aD afH aN))
theorem afC:dL prog 18 aw8:=sB arR
def ay6 (e:Int) (f:List uk) (g:bZ):Option ((Int×(List uk)×Unit)×(bZ×Bool×Unit)):=bJ (ath e f g) fun d=>cond (!d.2.2.1) (a6 ((d.1.1,(d.1.2.1,())),([],(false,()))))<|cond (fV d.1.2.1 d.2.1) (cond (mi (dD d.2.1) d.1.2.1) (a6 ((d.1.1,(d.1.2.1,())),((dK d.1.2.1 ([],([],())) (dD d.2.1)).2.1,(true,())))) a7) a7
def aCW:fF:=⟨79,tzG,[.str],[.str,.bool],fun x y=>ay6 x.1 x.2.1 y.1⟩
noncomputable def aIN:Env:=gz prog tt [] [] [] [] [(36,axF)]
theorem ase:eF aIN:=eB aN [] aN (hx:=(aD afH aN))
theorem axI:dL prog 43 aCW:=sB ase
def atf (e:Int) (f:List uk) (g:bZ):Option ((Int×(List uk)×Unit)×(bZ×Bool×Unit)):=bJ (ay6 e f g) fun d=>a6 ((d.1.1,(d.1.2.1,())),(d.2.1,(d.2.2.1,())))
def axu:fF:=⟨79,tzG,[.str],[.str,.bool],fun x y=>atf x.1 x.2.1 y.1⟩
noncomputable def aIJ:Env:=gz prog tt [] [] [] [] [(43,aCW)]
theorem arX:eF aIJ:=eB aN [] aN (hx:=(aD axI aN))
theorem afG:dL prog 24 axu:=sB arX
noncomputable def b31:Code:=(f31.body).getD .skip
noncomputable def aBT:Code:=cA (cA (cB (cA (cB (b31)))))
def aCm:eQ:=⟨[0,1,6,100002],[],[],[],[4,5],[]⟩
def ala:SP:=⟨us [.v (.list Py),bO,.u,.u,.u,.u,bR] 18,[]⟩
def ahN:SP:=⟨us [] 25,[]⟩
def ah8:SP:=⟨us [.u,.u,.u,.u,bO,bR] 19,[]⟩
def acp {f:Type} (i:(List uk)->bZ->Int->Option f) (j:Option f) (l:bZ->Int->Option f) (d:List uk) (g:bZ) (e:Int):Option f:=cond (gY e (bM d)) (cond (fV d e) (cond (fP (dJ d ([],([],())) e).1 g) (cond (fV d e) (l (dJ d ([],([],())) e).2.1 1) a7)<|i d g (dw .i64 e 1)) a7) j
def D9:Nat->(List uk)->bZ->Int->Option (ahN.den⊕ah8.den)
 |0,_,_,_=>a7
 |n+1,d,e,f=>acp (D9 n) (a6 (.inl ((),()))) (fun g i=>a6 (.inr ((g,i,()),()))) d e f
def aFk (n:Nat) (v:ala.den):=aR (D9 n) v
noncomputable def auY:dE:=fU aCm ala ahN ah8 (.exit 0) (aFk bQ) 6
def atg (e:List uk) (f:bZ):Option (bZ×Int×Unit):=bJ (D9 bQ e f 0) fun g=>dW g (fun i=>a6 ([],(0,()))) (fun d=>a6 (d.1.1,(d.1.2.1,())))
def aCR:Sum:=⟨[.list Py,.str],[(.str,false),(.int .i64,false)],fun x=>atg x.1 x.2.1⟩
noncomputable def ar4:Env:=iO prog tt 31 [] [(2,aCm)] [(2,auY)]
def av3 {d:Type} (a:ala.den->Option d) (b:ahN.den->Option d) (c:ah8.den->Option d) (v:ala.den):Option d:=aR (acp (fun e f g=>a ((e,f,g,()),())) (b ((),())) (aL c)) v
theorem aFO:dV ar4 31 aBT auY:=xh (av3) (h2:=by intros;simp only[av3,aL,aR,acp,dh,di,bI,cZ,dm])
theorem aJT:dO ar4 31 b31:=nM [aBT] (aD (fM (aFO)) aN)
theorem ar5:eF ar4:=eA f31 aN (aJT)
theorem axB:dR prog 31 aCR:=sA ar5
noncomputable def b14:Code:=(Tryz.f14.body).getD .skip
noncomputable def aBN:Code:=cA (cA (cB (cA (cB (cB (cB (b14)))))))
def aCg:eQ:=⟨[1,5,100006],[],[],[],[4],[]⟩
def ak4:SP:=⟨us [.u,bO,.u,.u,.u,bR] 35,[]⟩
def ahH:SP:=⟨us [] 41,[]⟩
def ah2:SP:=⟨us [.u,.u,.u,.u,b9] 36,[]⟩
def acd {f:Type} (i:bZ->Int->Option f) (j:Option f) (g:Bool->Option f) (d:bZ) (e:Int):Option f:=cond (gY e (bM d)) (cond (fV d e) (bJ (ay2 (bY d e)) fun l=>cond (!l.1) (g false)<|cond (fV d e) (cond (bV (bY d e) 47) (g false)<|i d (dw .i64 e 1)) a7) a7) j
def Iy:Nat->bZ->Int->Option (ahH.den⊕ah2.den)
 |0,_,_=>a7
 |n+1,d,e=>acd (Iy n) (a6 (.inl ((),()))) (fun f=>a6 (.inr ((f,()),()))) d e
def aFe (n:Nat) (v:ak4.den):=Iy n v.1.1 v.1.2.1
noncomputable def auS:dE:=fU aCg ak4 ahH ah2 (.exit 0) (aFe bQ) 6
def atd (f:Int) (e:bZ):Option qG:=cond (bV f 1) (bJ (YU e) fun d=>a6 (d.1,()))<|cond (bV f 3) (bJ (YU e) fun d=>a6 (d.1,()))<|cond (!(bV f 2)) (cond (!(bV f 4)) (a6 (false,()))<|cond (fP e []) (a6 (false,()))<|bJ (Iy bQ e 0) fun d=>dW d (fun i=>a6 (true,())) (fun g=>a6 (g.1.1,())))<|cond (fP e []) (a6 (false,()))<|bJ (Iy bQ e 0) fun d=>dW d (fun i=>a6 (true,())) (fun g=>a6 (g.1.1,()))
def awY:Sum:=⟨[dC,.str],LG,fun x=>atd x.1 x.2.1⟩
noncomputable def arM:Env:=iO prog tt 14 [(33,aCS),(32,XY)] [(6,aCg)] [(6,auS)]
def avW {d:Type} (a:ak4.den->Option d) (b:ahH.den->Option d) (c:ah2.den->Option d) (v:ak4.den):Option d:=acd (aL a) (b ((),())) (aE c) v.1.1 v.1.2.1
theorem aFI:dV arM 14 aBN auS:=xh (avW) (h2:=by intros;simp only[avW,aL,aE,acd,dh,di,bI,cZ,dm])
theorem aJM:dO arM 14 b14:=nM [aBN] (aD (fM (aFI)) aN)
theorem arN:eF arM:=eA Tryz.f14 (aD axC (aD EQ aN)) (aJM)
theorem afB:dR prog 14 awY:=sA arN
noncomputable def b19:Code:=(f19.body).getD .skip
noncomputable def aq8:Code:=cA (cA (cB (cA (cB (cB (cB (cB (cB (cB (b19))))))))))
def aue:eQ:=⟨[1,2,3,12,13,14,100011],[(12,Py)],[2,3,12,13],[],[8,9],[(8,Py)]⟩
def aah:SP:=⟨us [.u,.v (.list Py),bO,bO,.u,.u,.u,.u,.u,.u,.u,.u,.slc 1800012,b9,bR] 69,[.arr 1800012 Py]⟩
def aaT:SP:=⟨us [.u,.u,bO,bO,.u,.u,.u,.u,.u,.u,.u,.u,.slc 1800012,b9] 70,[.arr 1800012 Py]⟩
def aby:SP:=⟨us [.u,.u,.u,.u,.u,.u,.u,.u,.v (.list Py),bR] 74,[]⟩
def Lj {o:Type} (j:(List uk)->bZ->bZ->Bool->Int->(List uk)->Option o) (p:bZ->bZ->Bool->(List uk)->Option o) (q:(List uk)->Int->Option o) (d:List uk) (f g:bZ) (l:Bool) (e:Int) (i:List uk):Option o:=cond (gY e (bM d)) (cond (!l) (cond (fV d e) (cond (!(Dw (dJ d ([],([],())) e).1 f)) (cond (dY (bT i [(f,(g,()))]) 32) (cond (fV d e) (cond (!(fP (dJ d ([],([],())) e).1 f)) (cond (fV d e) (cond (dY (bT (bT i [(f,(g,()))]) [(dJ d ([],([],())) e)]) 32) (j d f g true (dw .i64 e 1) (bT (bT i [(f,(g,()))]) [(dJ d ([],([],())) e)])) a7) a7)<|j d f g true (dw .i64 e 1) (bT i [(f,(g,()))])) a7) a7)<|cond (fV d e) (cond (!(fP (dJ d ([],([],())) e).1 f)) (cond (fV d e) (cond (dY (bT i [(dJ d ([],([],())) e)]) 32) (j d f g l (dw .i64 e 1) (bT i [(dJ d ([],([],())) e)])) a7) a7)<|j d f g l (dw .i64 e 1) i) a7) a7)<|cond (fV d e) (cond (!(fP (dJ d ([],([],())) e).1 f)) (cond (fV d e) (cond (dY (bT i [(dJ d ([],([],())) e)]) 32) (j d f g l (dw .i64 e 1) (bT i [(dJ d ([],([],())) e)])) a7) a7)<|j d f g l (dw .i64 e 1) i) a7)<|p f g l i
def qj:Nat->(List uk)->bZ->bZ->Bool->Int->(List uk)->Option (aaT.den⊕aby.den)
 |0,_,_,_,_,_,_=>a7
 |n+1,d,e,f,g,i,j=>Lj (qj n) (fun l o p q=>a6 (.inl ((l,o,p,()),(q,())))) (fun s u=>a6 (.inr ((s,u,()),()))) d e f g i j
def az4 (n:Nat) (v:aah.den):=bv (qj n) v
noncomputable def akE:dE:=fU aue aah aaT aby (.exit 0) (az4 bQ) 6
def aEa (l:Int) (e:List uk) (g i:bZ):Option ((List uk)×Int×Unit):=bJ (atd l g) fun o=>cond (!o.1) (a6 (e,(5,())))<|cond (gY 65536 (bM i)) (a6 (e,(2,())))<|bJ (atg e g) fun p=>cond (bV p.2.1 0) (cond (leI 10000 (bM e)) (a6 (e,(12,())))<|bJ (qj bQ e g i false 0 []) fun j=>dW j (fun d=>cond (!d.1.2.2.1) (cond (dY (bT d.2.1 [(d.1.1,(d.1.2.1,()))]) 32) (a6 ((bT d.2.1 [(d.1.1,(d.1.2.1,()))]),(0,()))) a7)<|some (d.2.1,(0,()))) (fun f=>a6 (f.1.1,(f.1.2.1,()))))<|bJ (qj bQ e g i false 0 []) fun j=>dW j (fun d=>cond (!d.1.2.2.1) (cond (dY (bT d.2.1 [(d.1.1,(d.1.2.1,()))]) 32) (a6 ((bT d.2.1 [(d.1.1,(d.1.2.1,()))]),(0,()))) a7)<|some (d.2.1,(0,()))) (fun f=>a6 (f.1.1,(f.1.2.1,())))
def aKu:Sum:=⟨[dC,.list Py,.str,.str],[(.list Py,false),(.int .i64,false)],fun x=>aEa x.1 x.2.1 x.2.2.1 x.2.2.2.1⟩
noncomputable def arS:Env:=iO prog tt 19 [(31,aCR),(14,awY)] [(11,aue)] [(11,akE)]
def al5 {d:Type} (a:aah.den->Option d) (b:aaT.den->Option d) (c:aby.den->Option d) (v:aah.den):Option d:=bv (Lj (fun e f g i j l=>a ((e,f,g,i,j,()),(l,()))) (fun o p q s=>b ((o,p,q,()),(s,()))) (aL c)) v
theorem aAV:dV arS 19 aq8 akE:=xh (al5) (h2:=by intros;simp only[al5,aL,bv,Lj,dh,di,bI,cZ,dm])
theorem aJO:dO arS 19 b19:=nM [aq8] (aD (fM (aAV)) aN)
theorem arT:eF arS:=eA f19 (aD axB (aD afB aN)) (aJO)
theorem aKv:dR prog 19 aKu:=sA arT
end
end Go.Proofs.YtlhpdcadgbjhiaaGreatDoor
