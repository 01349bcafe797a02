/- Parts of the proof, joined and shortened by a program: the plain machine, the functions as it prints them, and the mathematics over them. -/
import Derived.Test.YtlhpdcadgbjhiaaGreatDoorY3
import Derived.Test.YtlhpdcadgbjhiaaGreatDoorY4
import Derived.Test.YtlhpdcadgbjhiaaGreatDoorY10
set_option linter.unusedVariables false
set_option linter.unusedSimpArgs false
set_option maxRecDepth 100000
set_option maxHeartbeats 4000000
namespace Go.Proofs.YtlhpdcadgbjhiaaGreatDoor
section
open Option renaming some → a6, none → a7
open Tryz
open Go.RowKit
noncomputable def b61:Code:=(f61.body).getD .skip
noncomputable def aBs:Code:=cA (cA (cB (cA (cB (cB (cA (cB (b61))))))))
def aBV:eQ:=⟨[0,7,8,100004],[],[],[],[2],[]⟩
def akV:SP:=⟨us [bR,.u,.u,.u,.u,.u,.u,bO,bO] 13,[]⟩
def ahv:SP:=⟨us [] 22,[]⟩
def ahR:SP:=⟨us [.u,.u,ca] 19,[]⟩
def ab8 {f:Type} (i:bZ->Int->Int->Option f) (j:Option f) (g:Bool->Option f) (e:bZ) (h d:Int):Option f:=cond (gV d h) (cond (fD e d) (bH (agG (bY e d)) fun l=>cond l.1 (cond (fD e d) (cond (!(bP (bY e d) 47)) (i e h (di .i64 d 1))<|g false) a7)<|g false) a7) j
def MQ:Nat->bZ->Int->Int->Option (ahv.den⊕ahR.den)
 |0,_,_,_=>a7
 |n+1,d,e,f=>ab8 (MQ n) (a6 (.inl ((),()))) (fun g=>a6 (.inr ((g,()),()))) d e f
def aE5 (n:Nat) (v:akV.den):=ba (MQ n) v
noncomputable def auI:dE:=fJ aBV akV ahv ahR (.exit 0) (aE5 bM) 6
def agB (d:bZ):Option pq:=cond (gG d []) (a6 (false,()))<|bH (MQ bM d (bI d) 0) fun e=>dN e (fun g=>a6 (true,())) (fun f=>a6 (f.1.1,()))
def aCx:Sum:=⟨[.str],NZ,fun x=>agB x.1⟩
noncomputable def arQ:Env:=iJ prog tt 61 [(91,aCE)] [(4,aBV)] [(4,auI)]
def avS {d:Type} (a:akV.den->Option d) (b:ahv.den->Option d) (c:ahR.den->Option d) (v:akV.den):Option d:=ba (ab8 (a8 a) (b ((),())) (aE c)) v
theorem aFB:dQ arQ 61 aBs auI:=uV (avS) (h2:=by intros;simp only[avS,a8,aE,ba,ab8,cO,cZ,bG,bW,dh])
theorem aIj:dM arQ 61 b61:=nV [aBs] (aD (fM (aFB)) aN)
theorem arR:eu arQ:=eA f61 (aD axx aN) (aIj)
theorem axq:dU prog 61 aCx:=sA arR
def ayw (e:Int) (f:bZ):Option pq:=cond (bP e 1) (cond (bP e 1) (bH (agA f) fun d=>a6 (d.1,()))<|cond (bP e 2) (cond (bP e 2) (bH (agB f) fun d=>a6 (d.1,()))<|some (false,()))<|cond (bP e 4) (bH (agB f) fun d=>a6 (d.1,()))<|some (false,()))<|cond (bP e 3) (bH (agA f) fun d=>a6 (d.1,()))<|cond (bP e 2) (cond (bP e 2) (bH (agB f) fun d=>a6 (d.1,()))<|some (false,()))<|cond (bP e 4) (bH (agB f) fun d=>a6 (d.1,()))<|some (false,())
def aCq:Sum:=⟨[dA,.str],NZ,fun x=>ayw x.1 x.2.1⟩
noncomputable def aHy:Env:=iJ prog tt 35 [(60,axp),(61,aCx)] [] []
theorem arB:eu aHy:=eA f35 (aD UY (aD axq aN))
theorem axg:dU prog 35 aCq:=sA arB
def aHG (d e:bZ):Option CQ:=a6 ((amG d e),())
def aCF:Sum:=⟨[.str,.str],Ve,fun x=>aHG x.1 x.2.1⟩
noncomputable def aHB:Env:=iJ prog tt 97 [(131,acp)] [] []
theorem ar6:eu aHB:=eA f97 (aD (XN func131 (by kernel_rfl) (by kernel_rfl) (by kernel_rfl) (by kernel_rfl)) aN)
theorem axy:dU prog 97 aCF:=sA ar6
def ayA (d e:bZ):Option CQ:=bH (aHG d e) fun f=>a6 (f.1,())
def aCy:Sum:=⟨[.str,.str],Ve,fun x=>ayA x.1 x.2.1⟩
noncomputable def aHA:Env:=iJ prog tt 64 [(97,aCF)] [] []
theorem arS:eu aHA:=eA f64 (aD axy aN)
theorem axr:dU prog 64 aCy:=sA arS
noncomputable def afS:Code:=(f62.body).getD .skip
noncomputable def acQ:Code:=cA (cA (cA (cB (cB (cB (afS))))))
def adX:eQ:=⟨[0,1,2,8,9,10,63000003],[],[0,1,2,8,9],[],[6,7],[]⟩
def aD0:eQ:=⟨[0,1],[],[],[],[],[]⟩
def an7:eQ:=⟨[0,1,2,8,9,10,11],[],[],[],[],[]⟩
def an8:eQ:=⟨[0,1,2,8,9],[],[],[],[],[]⟩
def KA:SQ:=⟨us [.slc 1,bR,.fn 63 [],.u,.u,.u,.u,.u,bO,bO,bO] 38,[cJ,bN],[cN,eV]⟩
def Nl:SQ:=⟨us [.slc 1,bR,.fn 63 [],.u,.u,.u,.u,.u,bO,bO] 39,[cJ,bN],[cN,eV]⟩
def Ns:SQ:=⟨us [] 49,[cJ,bN],[]⟩
def Gm {g:Type} (p:bZ->Int->Int->Int->bZ->bZ->Int->(List kW)->Option g) (q:bZ->Int->Int->bZ->bZ->Int->(List kW)->Option g) (u:bZ->bZ->Option g) (h:bZ) (i d e:Int) (j l:bZ) (o:Int) (f:List kW):Option g:=cond (gV d e) (cond (leI 0 1) (cond (fD f (ER .i64 (UJ .u64 (ER .u64 (di .i64 d e)) 1))) (cond (lZ (dC (ER .i64 (UJ .u64 (ER .u64 (di .i64 d e)) 1))) f) (bH (ayA (dJ f ([],([],())) (dC (ER .i64 (UJ .u64 (ER .u64 (di .i64 d e)) 1)))).1 h) fun s=>cond (gV s.1 0) (p h i (di .i64 (ER .i64 (UJ .u64 (ER .u64 (di .i64 d e)) 1)) 1) e j l o f)<|p h i d (ER .i64 (UJ .u64 (ER .u64 (di .i64 d e)) 1)) j l o f) a7) a7) a7)<|q h i d j l o f
def ww:Nat->bZ->Int->Int->Int->bZ->bZ->Int->(List kW)->Option (Nl.den⊕Ns.den)
 |0,_,_,_,_,_,_,_,_=>a7
 |n+1,d,e,f,g,h,i,j,l=>Gm (ww n) (fun o p q s u v x=>a6 (.inl ((o,p,q,()),((s,u,()),(),()),((v,()),x,())))) (fun y z=>a6 (.inr ((),((y,z,()),(),()),()))) d e f g h i j l
def aoj (n:Nat) (v:KA.den):=ww n v.1.1 v.1.2.1 v.1.2.2.1 v.1.2.2.2.1 v.2.1.1.1 v.2.1.1.2.1 v.2.2.1.1 v.2.2.2.1
noncomputable def WQ:dE:=fF adX KA Nl Ns (.exit 0) (aoj bM) 6
def asP (g:Int) (e:List kW) (f:bZ):Option ((Int×(List kW)×Unit)×(Int×Bool×Unit)):=bH (ww bM f (bI e) 0 (bI e) f f g e) fun h=>dN h (fun d=>cond (gV d.1.2.2.1 d.1.2.1) (cond (fD d.2.2.2.1 d.1.2.2.1) (cond (lZ (dC d.1.2.2.1) d.2.2.2.1) (bH (ayA (dJ d.2.2.2.1 ([],([],())) (dC d.1.2.2.1)).1 d.1.1) fun i=>a6 ((d.2.2.1.1,(d.2.2.2.1,())),(d.1.2.2.1,((bP i.1 0),())))) a7) a7)<|some ((d.2.2.1.1,(d.2.2.2.1,())),(d.1.2.2.1,(false,())))) (fun j=>a7)
def axh:fZ:=⟨79,tzF,[.str],[dA,.bool],fun x y=>asP x.1 x.2.1 y.1⟩
noncomputable def arC:Env:=gB prog tt [(64,aCy)] [(62,3,adX),(36,600001,aD0),(62,600005,an7),(62,600008,an8)] [(62,3,WQ)] []
def Xn {d:Type} (a:KA.den->Option d) (b:Nl.den->Option d) (c:Ns.den->Option d) (v:KA.den):Option d:=Gm (fun e f g h i j l o=>a ((e,f,g,h,()),((i,j,()),(),()),((l,()),o,()))) (fun p q s u x y z=>b ((p,q,s,()),((u,x,()),(),()),((y,()),z,()))) (fun A B=>c ((),((A,B,()),(),()),())) v.1.1 v.1.2.1 v.1.2.2.1 v.1.2.2.2.1 v.2.1.1.1 v.2.1.1.2.1 v.2.2.1.1 v.2.2.2.1
theorem aor:dQ arC 62 acQ WQ:=lu (Xn) (h2:=by intros;simp only[Xn,Gm,cO,cZ,bG,bW,dh])
theorem auf:dM arC 62 afS:=nV [acQ] (aD (fM (aor)) aN)
theorem arD:eu arC:=eB (aD axr aN) [62] (aD ⟨f62,afS,by kernel_rfl,by kernel_rfl,auf⟩ aN)
theorem afr:dW prog 36 axh:=sB arD
def ays (e:Int) (f:List kW) (g h:bZ):Option ((Int×(List kW)×Unit)×CQ):=bH (ayw e g) fun i=>cond (!i.1) (a6 ((e,(f,())),(5,())))<|cond (gV 65536 (bI h)) (a6 ((e,(f,())),(2,())))<|bH (asP e f g) fun d=>cond d.2.2.1 (cond (fD d.1.2.1 d.2.1) (cond (lZ (dC d.2.1) d.1.2.1) (a6 ((d.1.1,((gX d.1.2.1 (dC d.2.1) ((dJ d.1.2.1 ([],([],())) (dC d.2.1)).1,(h,()))),())),(0,()))) a7) a7)<|cond (leI 10000 (bI d.1.2.1)) (a6 ((d.1.1,(d.1.2.1,())),(12,())))<|cond ((leI 0 d.2.1)&&((leI d.2.1 (bI d.1.2.1))&&(dY d.1.2.1 64))) (a6 ((d.1.1,((anY d.1.2.1 (dC d.2.1) [(g,(h,()))]),())),(0,()))) a7
def awI:fZ:=⟨79,tzF,[.str,.str],[dA],fun x y=>ays x.1 x.2.1 y.1 y.2.1⟩
noncomputable def aHv:Env:=gB prog tt [(35,aCq)] [] [] [] [(36,axh)]
theorem ari:eu aHv:=eB (aD axg aN) [] aN (hx:=(aD afr aN))
theorem afm:dW prog 18 awI:=sB ari
def ayy (e:Int) (f:List kW) (g:bZ):Option ((Int×(List kW)×Unit)×(bZ×Bool×Unit)):=bH (asP e f g) fun d=>cond (!d.2.2.1) (a6 ((d.1.1,(d.1.2.1,())),([],(false,()))))<|cond (fD d.1.2.1 d.2.1) (cond (lZ (dC d.2.1) d.1.2.1) (a6 ((d.1.1,(d.1.2.1,())),((dJ d.1.2.1 ([],([],())) (dC d.2.1)).2.1,(true,())))) a7) a7
def aCs:fZ:=⟨79,tzF,[.str],[.str,.bool],fun x y=>ayy x.1 x.2.1 y.1⟩
noncomputable def aHz:Env:=gB prog tt [] [] [] [] [(36,axh)]
theorem arG:eu aHz:=eB aN [] aN (hx:=(aD afr aN))
theorem axk:dW prog 43 aCs:=sB arG
def asM (e:Int) (f:List kW) (g:bZ):Option ((Int×(List kW)×Unit)×(bZ×Bool×Unit)):=bH (ayy e f g) fun d=>a6 ((d.1.1,(d.1.2.1,())),(d.2.1,(d.2.2.1,())))
def aw5:fZ:=⟨79,tzF,[.str],[.str,.bool],fun x y=>asM x.1 x.2.1 y.1⟩
noncomputable def aHw:Env:=gB prog tt [] [] [] [] [(43,aCs)]
theorem arp:eu aHw:=eB aN [] aN (hx:=(aD axk aN))
theorem afq:dW prog 24 aw5:=sB arp
noncomputable def b31:Code:=(f31.body).getD .skip
noncomputable def aBk:Code:=cA (cA (cB (cA (cB (b31)))))
def aBP:eQ:=⟨[0,1,6,100002],[],[],[],[4,5],[]⟩
def akN:SP:=⟨us [eO,bR,.u,.u,.u,.u,bO] 18,[]⟩
def aho:SP:=⟨us [] 25,[]⟩
def ahK:SP:=⟨us [.u,.u,.u,.u,bR,bO] 19,[]⟩
def ab2 {f:Type} (h:(List kW)->bZ->Int->Option f) (i:Option f) (j:bZ->Int->Option f) (d:List kW) (g:bZ) (e:Int):Option f:=cond (gV e (bI d)) (cond (fD d e) (cond (gG (dw d ([],([],())) e).1 g) (cond (fD d e) (j (dw d ([],([],())) e).2.1 1) a7)<|h d g (di .i64 e 1)) a7) i
def DZ:Nat->(List kW)->bZ->Int->Option (aho.den⊕ahK.den)
 |0,_,_,_=>a7
 |n+1,d,e,f=>ab2 (DZ n) (a6 (.inl ((),()))) (fun g h=>a6 (.inr ((g,h,()),()))) d e f
def aEX (n:Nat) (v:akN.den):=ba (DZ n) v
noncomputable def auA:dE:=fJ aBP akN aho ahK (.exit 0) (aEX bM) 6
def adw (e:List kW) (f:bZ):Option (bZ×Int×Unit):=bH (DZ bM e f 0) fun g=>dN g (fun h=>a6 ([],(0,()))) (fun d=>a6 (d.1.1,(d.1.2.1,())))
def amm:Sum:=⟨[LD,.str],[(.str,false),(.int .i64,false)],fun x=>adw x.1 x.2.1⟩
noncomputable def arx:Env:=iJ prog tt 31 [] [(2,aBP)] [(2,auA)]
def avK {d:Type} (a:akN.den->Option d) (b:aho.den->Option d) (c:ahK.den->Option d) (v:akN.den):Option d:=ba (ab2 (a8 a) (b ((),())) (aL c)) v
theorem aFt:dQ arx 31 aBk auA:=uV (avK) (h2:=by intros;simp only[avK,a8,aL,ba,ab2,cO,cZ,bG,bW,dh])
theorem aIb:dM arx 31 b31:=nV [aBk] (aD (fM (aFt)) aN)
theorem ary:eu arx:=eA f31 aN (aIb)
theorem UX:dU prog 31 amm:=sA ary
noncomputable def b14:Code:=(Tryz.f14.body).getD .skip
noncomputable def aBe:Code:=cA (cA (cB (cA (cB (cB (cB (b14)))))))
def aBJ:eQ:=⟨[1,5,100006],[],[],[],[4],[]⟩
def akH:SP:=⟨us [.u,bR,.u,.u,.u,bO] 35,[]⟩
def ahi:SP:=⟨us [] 41,[]⟩
def ahE:SP:=⟨us [.u,.u,.u,.u,ca] 36,[]⟩
def abS {f:Type} (h:bZ->Int->Option f) (i:Option f) (g:Bool->Option f) (d:bZ) (e:Int):Option f:=cond (gV e (bI d)) (cond (fD d e) (bH (ayv (bY d e)) fun j=>cond (!j.1) (g false)<|cond (fD d e) (cond (bP (bY d e) 47) (g false)<|h d (di .i64 e 1)) a7) a7) i
def Ir:Nat->bZ->Int->Option (ahi.den⊕ahE.den)
 |0,_,_=>a7
 |n+1,d,e=>abS (Ir n) (a6 (.inl ((),()))) (fun f=>a6 (.inr ((f,()),()))) d e
def aER (n:Nat) (v:akH.den):=Ir n v.1.1 v.1.2.1
noncomputable def auu:dE:=fJ aBJ akH ahi ahE (.exit 0) (aER bM) 6
def ayq (f:Int) (e:bZ):Option pq:=cond (bP f 1) (bH (YJ e) fun d=>a6 (d.1,()))<|cond (bP f 3) (bH (YJ e) fun d=>a6 (d.1,()))<|cond (!(bP f 2)) (cond (!(bP f 4)) (a6 (false,()))<|cond (gG e []) (a6 (false,()))<|bH (Ir bM e 0) fun d=>dN d (fun h=>a6 (true,())) (fun g=>a6 (g.1.1,())))<|cond (gG e []) (a6 (false,()))<|bH (Ir bM e 0) fun d=>dN d (fun h=>a6 (true,())) (fun g=>a6 (g.1.1,()))
def aCi:Sum:=⟨[dA,.str],NZ,fun x=>ayq x.1 x.2.1⟩
noncomputable def ard:Env:=iJ prog tt 14 [(33,aCp),(32,XK)] [(6,aBJ)] [(6,auu)]
def avE {d:Type} (a:akH.den->Option d) (b:ahi.den->Option d) (c:ahE.den->Option d) (v:akH.den):Option d:=abS (aL a) (b ((),())) (aE c) v.1.1 v.1.2.1
theorem aFn:dQ ard 14 aBe auu:=uV (avE) (h2:=by intros;simp only[avE,aL,aE,abS,cO,cZ,bG,bW,dh])
theorem aH4:dM ard 14 b14:=nV [aBe] (aD (fM (aFn)) aN)
theorem arf:eu ard:=eA Tryz.f14 (aD axf (aD EG aN)) (aH4)
theorem awy:dU prog 14 aCi:=sA arf
noncomputable def b19:Code:=(f19.body).getD .skip
noncomputable def aqC:Code:=cA (cA (cB (cA (cB (cB (cB (cB (cB (cB (b19))))))))))
def atE:eQ:=⟨[1,2,3,12,13,14,100011],[(12,Vp)],[2,3,12,13],[],[8,9],[(8,Vp)]⟩
def ZP:SP:=⟨us [.u,eO,bR,bR,.u,.u,.u,.u,.u,.u,.u,.u,.slc 1800012,ca,bO] 69,[.arr 1800012 Vp]⟩
def aaz:SP:=⟨us [.u,.u,bR,bR,.u,.u,.u,.u,.u,.u,.u,.u,.slc 1800012,ca] 70,[.arr 1800012 Vp]⟩
def abd:SP:=⟨us [.u,.u,.u,.u,.u,.u,.u,.u,eO,bO] 74,[]⟩
def La {l:Type} (i:(List kW)->bZ->bZ->Bool->Int->(List kW)->Option l) (o:bZ->bZ->Bool->(List kW)->Option l) (p:(List kW)->Int->Option l) (d:List kW) (f g:bZ) (j:Bool) (e:Int) (h:List kW):Option l:=cond (gV e (bI d)) (cond (!j) (cond (fD d e) (cond (!(FT (dw d ([],([],())) e).1 f)) (cond (dY (bT h [(f,(g,()))]) 32) (cond (fD d e) (cond (!(gG (dw d ([],([],())) e).1 f)) (cond (fD d e) (cond (dY (bT (bT h [(f,(g,()))]) [(dw d ([],([],())) e)]) 32) (i d f g true (di .i64 e 1) (bT (bT h [(f,(g,()))]) [(dw d ([],([],())) e)])) a7) a7)<|i d f g true (di .i64 e 1) (bT h [(f,(g,()))])) a7) a7)<|cond (fD d e) (cond (!(gG (dw d ([],([],())) e).1 f)) (cond (fD d e) (cond (dY (bT h [(dw d ([],([],())) e)]) 32) (i d f g j (di .i64 e 1) (bT h [(dw d ([],([],())) e)])) a7) a7)<|i d f g j (di .i64 e 1) h) a7) a7)<|cond (fD d e) (cond (!(gG (dw d ([],([],())) e).1 f)) (cond (fD d e) (cond (dY (bT h [(dw d ([],([],())) e)]) 32) (i d f g j (di .i64 e 1) (bT h [(dw d ([],([],())) e)])) a7) a7)<|i d f g j (di .i64 e 1) h) a7)<|o f g j h
def qY:Nat->(List kW)->bZ->bZ->Bool->Int->(List kW)->Option (aaz.den⊕abd.den)
 |0,_,_,_,_,_,_=>a7
 |n+1,d,e,f,g,h,i=>La (qY n) (fun j l o p=>a6 (.inl ((j,l,o,()),(p,())))) (fun q s=>a6 (.inr ((q,s,()),()))) d e f g h i
def azB (n:Nat) (v:ZP.den):=bv (qY n) v
noncomputable def akg:dE:=fJ atE ZP aaz abd (.exit 0) (azB bM) 6
def ayt (i:Int) (e:List kW) (f g:bZ):Option ((List kW)×Int×Unit):=bH (ayq i f) fun j=>cond (!j.1) (a6 (e,(5,())))<|cond (gV 65536 (bI g)) (a6 (e,(2,())))<|bH (adw e f) fun l=>cond (bP l.2.1 0) (cond (leI 10000 (bI e)) (a6 (e,(12,())))<|bH (qY bM e f g false 0 []) fun h=>dN h (fun d=>cond (!d.1.2.2.1) (cond (dY (bT d.2.1 [(d.1.1,(d.1.2.1,()))]) 32) (a6 ((bT d.2.1 [(d.1.1,(d.1.2.1,()))]),(0,()))) a7)<|some (d.2.1,(0,()))) (fun b3=>a6 (b3.1.1,(b3.1.2.1,()))))<|bH (qY bM e f g false 0 []) fun h=>dN h (fun d=>cond (!d.1.2.2.1) (cond (dY (bT d.2.1 [(d.1.1,(d.1.2.1,()))]) 32) (a6 ((bT d.2.1 [(d.1.1,(d.1.2.1,()))]),(0,()))) a7)<|some (d.2.1,(0,()))) (fun b3=>a6 (b3.1.1,(b3.1.2.1,())))
def aCk:Sum:=⟨[dA,LD,.str,.str],[(.list Vp,false),(.int .i64,false)],fun x=>ayt x.1 x.2.1 x.2.2.1 x.2.2.2.1⟩
noncomputable def arj:Env:=iJ prog tt 19 [(31,amm),(14,aCi)] [(11,atE)] [(11,akg)]
def alF {d:Type} (a:ZP.den->Option d) (b:aaz.den->Option d) (c:abd.den->Option d) (v:ZP.den):Option d:=bv (La (fun e f g h i j=>a ((e,f,g,h,i,()),(j,()))) (fun l o p q=>b ((l,o,p,()),(q,()))) (aL c)) v
theorem aAq:dQ arj 19 aqC akg:=uV (alF) (h2:=by intros;simp only[alF,aL,bv,La,cO,cZ,bG,bW,dh])
theorem aH5:dM arj 19 b19:=nV [aqC] (aD (fM (aAq)) aN)
theorem ark:eu arj:=eA f19 (aD UX (aD awy aN)) (aH5)
theorem awO:dU prog 19 aCk:=sA ark
end
end Go.Proofs.YtlhpdcadgbjhiaaGreatDoor
