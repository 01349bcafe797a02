/- Parts of the proof, joined and shortened by a program: the plain machine, the functions as it prints them, and the mathematics over them. -/
import Derived.Test.YtjgoejaajmhllaaGreatDoorZ3
import Derived.Test.YtjgoejaajmhllaaGreatDoorZ4
import Derived.Test.YtjgoejaajmhllaaGreatDoorZ5
import Derived.Test.YtjgoejaajmhllaaGreatDoorZ6
import Derived.Test.YtjgoejaajmhllaaGreatDoorZ7
set_option linter.unusedVariables false
set_option linter.unusedSimpArgs false
set_option maxRecDepth 100000
set_option maxHeartbeats 4000000
namespace Go.Proofs.YtjgoejaajmhllaaGreatDoor
section
open Option renaming some → a6, none → a7
open Tryz
open Go.RowKit
def Az (d:Int):Option nH:=bz (Qo d) fun e=>cond (bJ e.1 5) (a6 (true,()))<|cond (bJ e.1 6) (a6 (true,()))<|some ((leI 128 d),())
def Y0 (d:Int):Option nH:=cond (bJ d 37) (cond (bJ d 37) (a6 (true,()))<|Az d)<|cond (bJ d 43) (cond (bJ d 43) (a6 (true,()))<|Az d)<|cond (bJ d 44) (cond (bJ d 44) (a6 (true,()))<|Az d)<|cond (bJ d 45) (cond (bJ d 45) (a6 (true,()))<|Az d)<|cond (bJ d 46) (cond (bJ d 46) (a6 (true,()))<|Az d)<|cond (bJ d 47) (cond (bJ d 47) (a6 (true,()))<|Az d)<|cond (bJ d 58) (cond (bJ d 58) (a6 (true,()))<|Az d)<|cond (bJ d 64) (a6 (true,()))<|Az d
def aqm:Sum:=⟨[.int .u8],Ip,fun x=>Y0 x.1⟩
theorem aav:dE prog 80 aqm:=qA f80 [] (sE uU aN)
noncomputable def ajJ:Code:=(f129.body).getD .skip
noncomputable def vG:Code:=cB (cA (cB (cA (cB (ajJ)))))
def vJ:dZ:=⟨[4,900018],[],[],[],[2],[]⟩
def Bh:SP:=⟨us db 16,[]⟩
def oU:SP:=⟨us [] 21,[]⟩
def oV:SP:=⟨us eo 18,[]⟩
def zO {d:Type} (e:Option d) (f:Bool->Option d) (g:Bool):Option d:=cond g (f true) e
def gm (d:Bool):Option (oU.den⊕oV.den):=zO (a6 (.inl ((),()))) (fun e=>a6 (.inr ((e,()),()))) d
noncomputable def Hg:dm:=eP vJ Bh oU oV (.exit 999999) (fun v=>gm v.1.1) 6
def jY (d:oU.den⊕oV.den):Option nH:=dL d (fun f=>a6 (false,())) (fun e=>a6 (e.1.1,()))
def aeb (d:bQ):Option nH:=cond (eX d [33]) (bz (gm (eX d [33])) fun e=>jY e)<|cond (eX d [123]) (bz (gm (eX d [123])) fun e=>jY e)<|cond (eX d [125]) (bz (gm (eX d [125])) fun e=>jY e)<|cond (eX d [99,97,115,101]) (bz (gm (eX d [99,97,115,101])) fun e=>jY e)<|cond (eX d [100,111]) (bz (gm (eX d [100,111])) fun e=>jY e)<|cond (eX d [100,111,110,101]) (bz (gm (eX d [100,111,110,101])) fun e=>jY e)<|cond (eX d [101,108,105,102]) (bz (gm (eX d [101,108,105,102])) fun e=>jY e)<|cond (eX d [101,108,115,101]) (bz (gm (eX d [101,108,115,101])) fun e=>jY e)<|cond (eX d [101,115,97,99]) (bz (gm (eX d [101,115,97,99])) fun e=>jY e)<|cond (eX d [102,105]) (bz (gm (eX d [102,105])) fun e=>jY e)<|cond (eX d [102,111,114]) (bz (gm (eX d [102,111,114])) fun e=>jY e)<|cond (eX d [105,102]) (bz (gm (eX d [105,102])) fun e=>jY e)<|cond (eX d [105,110]) (bz (gm (eX d [105,110])) fun e=>jY e)<|cond (eX d [116,104,101,110]) (bz (gm (eX d [116,104,101,110])) fun e=>jY e)<|cond (eX d [117,110,116,105,108]) (bz (gm (eX d [117,110,116,105,108])) fun e=>jY e)<|bz (gm (eX d [119,104,105,108,101])) fun e=>jY e
def ayQ:Sum:=⟨[.str],Ip,fun x=>aeb x.1⟩
noncomputable def IC:Env:=iE prog tt 129 [] [(800018,vJ)] [(800018,Hg)]
theorem PO {R:Type} (d:Nat) (K:Ex->St->Option R) (e:Bool):
  iter (a6 vJ) (Am (yl IC (d+6) 129 vG)) 1 (jA Bh ((e,()),())) K=
   zO (K (.exit 999999) (jA oU ((),()))) (fun f=>K .ret (jA oV ((f,()),()))) e:=by kernel_rfl
theorem UQ {R:Type} (d:Nat) (K:Ex->St->Option R) (e:Bool):
  iter (a6 vJ) (Am (yl IC (d+6) 129 vG)) 1 (jA Bh ((e,()),())) K=bz (gm e) fun o=>dL o (fun a=>K (.exit 999999) (jA oU a)) fun b=>K .ret (jA oV b):=by
  rw[PO];simp only[gm,zO,bV,bW,bu,bT,bY]
  try simp only[dL]
theorem Vh:rJ IC 129 vG Hg:=Ak (by kernel_rfl) fun R d K v o h=>⟨1,(UQ d K (v.1.1)).trans (congrArg (fun o=>bz o _) h)⟩
theorem aw9:jy ajJ=[]:=by kernel_rfl
theorem awv:IR IC 129 ajJ=[vG]:=by kernel_rfl
theorem axf:dI IC 129 ajJ:=AV ajJ (fun x _ d=>absurd (show false=true from d) (by decide)) (by rw[aw9];exact aN) (GY (by rw[awv];exact(aD (fC (by kernel_rfl) (Vh)) aN)))
theorem ahg:eF IC:=eA f129 aN (axf)
theorem aiM:dE prog 129 ayQ:=sA ahg
def arJ (d:bQ):Option nH:=bz (aeb d) fun e=>cond e.1 (a6 (true,()))<|cond (!(eX d [])) (bz (xP d 0) fun f=>a6 ((bJ f.1 (bD d)),()))<|some (false,())
def avP:Sum:=⟨[.str],Ip,fun x=>arJ x.1⟩
theorem aqo:dE prog 84 avP:=qA f84 [] (sE aiM (sE JD aN))
noncomputable def b61:Code:=(f61.body).getD .skip
noncomputable def auj:Code:=cA (cA (cB (cA (cB (cB (cB (b61)))))))
def auX:dZ:=⟨[0,3,8,9,100005],[],[3],[],[2],[]⟩
def aw1:dZ:=⟨[0,3,8,9],[],[],[],[],[]⟩
def aeP:dZ:=⟨[0,3,4,8,9],[],[],[],[],[]⟩
def afK:SP:=⟨us [bB,.u,.u,cD,.u,.u,.u,.u,bE,bE] 27,[bN,ck]⟩
def acJ:SP:=⟨us [.u,.u,.u,cD] 33,[bN,ck]⟩
def ac9:SP:=⟨us er 34,[]⟩
def BH {g:Type} (f:iU) (d:bQ) (e:Int) (h:bQ->Int->Int->iU->Option g) (i:Int):Option g:=cond (dN (bP f [92]) 1) (cond (fV d e) (cond (dN (bP (bP f [92]) [(bK d e)]) 1) (h d i (bZ .i64 e 1) (bP (bP f [92]) [(bK d e)])) a7) a7) a7
def yz {f:Type} (d:bQ) (e:Int) (g:iU) (h:bQ->Int->Int->iU->Option f) (i:Int):Option f:=cond (fV d e) (cond (dN (bP g [(bK d e)]) 1) (h d i (bZ .i64 e 1) (bP g [(bK d e)])) a7) a7
def PM {i:Type} (h:bQ->Int->Int->iU->Option i) (l:iU->Option i) (o:bQ->Option i) (e:bQ) (g d:Int) (f:iU):Option i:=cond (gJ d g) (cond (fV e d) (cond (bJ (bK e d) 10) (cond (dN (bP f (cZ [39,10,39])) 1) (h e g (bZ .i64 d 1) (bP f (cZ [39,10,39]))) a7)<|cond (fV e d) (bz (Y0 (bK e d)) fun j=>cond (!j.1) (cond (!j.1) (BH f e d h g)<|yz e d f h g)<|cond (bJ d 0) (bz (arJ e) fun m=>cond m.1 (BH f e d h g)<|yz e d f h g)<|yz e d f h g) a7) a7)<|l f
def zq:Nat->bQ->Int->Int->iU->Option (acJ.den⊕ac9.den)
 |0,_,_,_,_=>a7
 |n+1,d,e,f,g=>PM (zq n) (fun h=>a6 (.inl ((),((),h,())))) (fun i=>a6 (.inr ((i,()),()))) d e f g
def axR (n:Nat) (v:afK.den):=zq n v.1.1 v.1.2.1 v.1.2.2.1 v.2.2.1
noncomputable def anE:dm:=eP auX afK acJ ac9 (.exit 0) (axR bG) 6
def arB (d:bQ):Option QR:=cond (eX d []) (a6 ([39,39],()))<|bz (zq bG d (bD d) 0 []) fun f=>dL f (fun e=>cond (bJ (bD e.2.2.1) (bD e.2.2.1)) (a6 ((ofBytes e.2.2.1),())) a7) (fun g=>a6 (g.1.1,()))
def aCk:Sum:=⟨[.str],Yo,fun x=>arB x.1⟩
noncomputable def alb:Env:=gB prog tt [(80,aqm),(84,avP)] [(61,5,auX),(61,600008,aw1),(61,600011,aeP),(61,600012,aeP),(61,600014,UT),(83,600001,mr),(85,600001,mr)] [(61,5,anE)] []
def aoM {d:Type} (a:afK.den->Option d) (b:acJ.den->Option d) (c:ac9.den->Option d) (v:afK.den):Option d:=PM (fun e f g h=>a ((e,f,g,()),((),h,()))) (fun i=>b ((),((),i,()))) (ar c) v.1.1 v.1.2.1 v.1.2.2.1 v.2.2.1
theorem ays:dJ alb 61 auj anE:=rH (aoM) (h2:=by intros;simp only[aoM,ar,PM,bV,bW,bu,bT,bY,BH,yz])
theorem aBz:dI alb 61 b61:=nG [auj] (aD (fM (ays)) aN)
theorem alc:eF alb:=eB (aD aav (aD aqo aN)) [61] (aD ⟨f61,b61,by kernel_rfl,by kernel_rfl,aBz⟩ aN)
theorem aqc:dE prog 61 aCk:=sA alc
def arC (e:bQ):Option QR:=bz (SX e [39] [39,92,39,39]) fun d=>cond (fG [39] d.1) (a6 ((bP [39] d.1),())) a7
def aCl:Sum:=⟨[.str],Yo,fun x=>arC x.1⟩
theorem aqd:dE prog 62 aCl:=qA f62 [] (sE aaA aN)
noncomputable def b63:Code:=(f63.body).getD .skip
noncomputable def auk:Code:=cA (cA (cB (cA (cB (cB (cB (b63)))))))
def auY:dZ:=⟨[0,3,7,8,100004],[],[3],[],[2],[]⟩
def aeQ:dZ:=⟨[0,3,4,7,8],[],[],[],[],[]⟩
def afL:SP:=⟨us [bB,.u,.u,cD,.u,.u,.u,bE,bE] 17,[bN,ck]⟩
def acK:SP:=⟨us [.u,.u,.u,cD] 22,[bN,ck]⟩
def ada:SP:=⟨us er 23,[]⟩
def yA {g:Type} (f:iU) (d:bQ) (e:Int) (h:bQ->Int->Int->iU->Option g) (i:Int):Option g:=cond (dN (bP f [92]) 1) (cond (fV d e) (cond (dN (bP (bP f [92]) [(bK d e)]) 1) (h d i (bZ .i64 e 1) (bP (bP f [92]) [(bK d e)])) a7) a7) a7
def yB {f:Type} (d:bQ) (e:Int) (g:iU) (h:bQ->Int->Int->iU->Option f) (i:Int):Option f:=cond (fV d e) (cond (dN (bP g [(bK d e)]) 1) (h d i (bZ .i64 e 1) (bP g [(bK d e)])) a7) a7
def XZ {i:Type} (h:bQ->Int->Int->iU->Option i) (j:iU->Option i) (l:bQ->Option i) (e:bQ) (f d:Int) (g:iU):Option i:=cond (gJ d f) (cond (fV e d) (cond (bJ (bK e d) 36) (cond (bJ (bK e d) 36) (yA g e d h f)<|yB e d g h f)<|cond (bJ (bK e d) 96) (cond (bJ (bK e d) 96) (yA g e d h f)<|yB e d g h f)<|cond (bJ (bK e d) 34) (cond (bJ (bK e d) 34) (yA g e d h f)<|yB e d g h f)<|cond (bJ (bK e d) 92) (yA g e d h f)<|yB e d g h f) a7)<|j g
def EX:Nat->bQ->Int->Int->iU->Option (acK.den⊕ada.den)
 |0,_,_,_,_=>a7
 |n+1,d,e,f,g=>XZ (EX n) (fun h=>a6 (.inl ((),((),h,())))) (fun i=>a6 (.inr ((i,()),()))) d e f g
def axS (n:Nat) (v:afL.den):=EX n v.1.1 v.1.2.1 v.1.2.2.1 v.2.2.1
noncomputable def anF:dm:=eP auY afL acK ada (.exit 0) (axS bG) 6
def arD (e:bQ):Option QR:=cond (dN (bP [] [34]) 1) (bz (EX bG e (bD e) 0 (bP [] [34])) fun f=>dL f (fun d=>cond (bJ (bD d.2.2.1) (bD d.2.2.1)) (a6 ((ofBytes d.2.2.1),())) a7) (fun g=>a6 (g.1.1,()))) a7
def aCm:Sum:=⟨[.str],Yo,fun x=>arD x.1⟩
noncomputable def ald:Env:=gB prog tt [] [(63,4,auY),(63,600002,aeN),(63,600011,aeQ),(63,600012,aeQ),(63,600014,UT),(85,600001,mr)] [(63,4,anF)] []
def aoN {d:Type} (a:afL.den->Option d) (b:acK.den->Option d) (c:ada.den->Option d) (v:afL.den):Option d:=XZ (fun e f g h=>a ((e,f,g,()),((),h,()))) (fun i=>b ((),((),i,()))) (ar c) v.1.1 v.1.2.1 v.1.2.2.1 v.2.2.1
theorem ayt:dJ ald 63 auk anF:=rH (aoN) (h2:=by intros;simp only[aoN,ar,XZ,bV,bW,bu,bT,bY,yA,yB])
theorem aBA:dI ald 63 b63:=nG [auk] (aD (fM (ayt)) aN)
theorem ale:eF ald:=eB aN [63] (aD ⟨f63,b63,by kernel_rfl,by kernel_rfl,aBA⟩ aN)
theorem aqe:dE prog 63 aCm:=sA ale
def arw (e:bQ) (h:Int) (f:Bool):Option QR:=bz (arB e) fun g=>cond (bJ h 4) (bz (arC e) fun d=>cond f (cond (fG d.1 [39]) (a6 ((bP d.1 [39]),())) a7)<|some (d.1,()))<|cond (bJ h 5) (bz (arD e) fun d=>cond f (cond (fG d.1 [34]) (a6 ((bP d.1 [34]),())) a7)<|some (d.1,()))<|cond f (cond (fG g.1 []) (a6 ((bP g.1 []),())) a7)<|some (g.1,())
def avw:Sum:=⟨[.str,dw,.bool],Yo,fun x=>arw x.1 x.2.1 x.2.2.1⟩
theorem apT:dE prog 30 avw:=qA f30 [] (sE aqc (sE aqd (sE aqe aN)))
noncomputable def b19:Code:=(f19.body).getD .skip
noncomputable def atV:Code:=cA (cA (cB (cA (cB (cB (cA (cB (b19))))))))
def auL:dZ:=⟨[0,3,7,8,9,100003],[],[3],[],[2],[]⟩
def aft:SP:=⟨us [bB,.u,.u,bB,.u,.u,.u,.slc 1000007,bE,bE] 18,[.arr 1000007 dw]⟩
def acv:SP:=⟨us [.u,.u,.u,bB] 24,[]⟩
def acV:SP:=⟨us er 25,[]⟩
def PK {i:Type} (j:bQ->bQ->Int->Int->iU->Option i) (m o:bQ->Option i) (f g:bQ) (h d:Int) (e:iU):Option i:=cond (gJ d h) (cond (fV e d) (cond (lN (dh d) e) (bz (arw f (dB e 0 (dh d)) true) fun l=>cond (!(eX g [])) (cond (leI (bD g) (bD l.1)) (j f g h (bZ .i64 d 1) e)<|j f l.1 h (bZ .i64 d 1) e)<|j f l.1 h (bZ .i64 d 1) e) a7) a7)<|m g
def rG:Nat->bQ->bQ->Int->Int->iU->Option (acv.den⊕acV.den)
 |0,_,_,_,_,_=>a7
 |n+1,d,e,f,g,h=>PK (rG n) (fun i=>a6 (.inl ((i,()),()))) (fun j=>a6 (.inr ((j,()),()))) d e f g h
def axA (n:Nat) (v:aft.den):=bj (rG n) v
noncomputable def anl:dm:=eP auL aft acv acV (.exit 0) (axA bG) 6
def arp (d:bQ):Option QR:=bz (rG bG d [] (bD [0,4,5]) 0 [0,4,5]) fun e=>dL e (fun f=>a6 (f.1.1,())) (fun g=>a6 (g.1.1,()))
def aCd:Sum:=⟨[.str],Yo,fun x=>arp x.1⟩
noncomputable def akD:Env:=iE prog tt 19 [(30,avw)] [(3,auL)] [(3,anl)]
def aov {d:Type} (a:aft.den->Option d) (b:acv.den->Option d) (c:acV.den->Option d) (v:aft.den):Option d:=bj (PK (fun e f g h i=>a ((e,f,g,h,()),(i,()))) (ar b) (ar c)) v
theorem ayb:dJ akD 19 atV anl:=rH (aov) (h2:=by intros;simp only[aov,ar,bj,PK,bV,bW,bu,bT,bY])
theorem aBh:dI akD 19 b19:=nG [atV] (aD (fM (ayb)) aN)
theorem akE:eF akD:=eA f19 (aD apT aN) (aBh)
theorem apE:dE prog 19 aCd:=sA akE
noncomputable def b32:Code:=(f32.body).getD .skip
noncomputable def atZ:Code:=cA (cA (cB (cA (cB (b32)))))
def afx:SP:=⟨us [bB,bE,.u,.u,.u,bE] 12,[]⟩
def acz:SP:=⟨us [] 18,[]⟩
def acZ:SP:=⟨us db 13,[]⟩
def XN {d:Type} (h:bQ->Int->Int->Option d) (i:Option d) (j:Bool->Option d) (e:bQ) (g f:Int):Option d:=cond (gJ f (bD e)) (cond (fV e f) (bz (IJ (bK e f)) fun l=>cond (!(bJ l.1 g)) (j false)<|h e g (bZ .i64 f 1)) a7) i
def IY:Nat->bQ->Int->Int->Option (acz.den⊕acZ.den)
 |0,_,_,_=>a7
 |n+1,d,e,f=>XN (IY n) (a6 (.inl ((),()))) (fun g=>a6 (.inr ((g,()),()))) d e f
def axE (n:Nat) (v:afx.den):=ba (IY n) v
noncomputable def anp:dm:=eP aeJ afx acz acZ (.exit 0) (axE bG) 6
def arx (d:bQ) (e:Int):Option nH:=bz (IY bG d e 0) fun f=>dL f (fun h=>a6 (true,())) (fun g=>a6 (g.1.1,()))
def avx:Sum:=⟨[.str,dw],Ip,fun x=>arx x.1 x.2.1⟩
noncomputable def akN:Env:=iE prog tt 32 [(34,aao)] [(2,aeJ)] [(2,anp)]
def aoz {d:Type} (a:afx.den->Option d) (b:acz.den->Option d) (c:acZ.den->Option d) (v:afx.den):Option d:=ba (XN (aR a) (b ((),())) (ar c)) v
theorem ayf:dJ akN 32 atZ anp:=rH (aoz) (h2:=by intros;simp only[aoz,aR,ar,ba,XN,bV,bW,bu,bT,bY])
theorem aBm:dI akN 32 b32:=nG [atZ] (aD (fM (ayf)) aN)
theorem akO:eF akN:=eA f32 (aD uT aN) (aBm)
theorem apV:dE prog 32 avx:=sA akO
noncomputable def b33:Code:=(f33.body).getD .skip
noncomputable def at1:Code:=cA (cA (cB (cA (cB (cB (cB (b33)))))))
def auO:dZ:=⟨[3,4,100005],[],[],[],[2],[]⟩
def afy:SP:=⟨us [.u,.u,.u,bB,bE] 25,[]⟩
def acA:SP:=⟨us [] 30,[]⟩
def ac0:SP:=⟨us eo 27,[]⟩
def XO {f:Type} (g:bQ->Int->Option f) (h:Option f) (i:Bool->Option f) (e:bQ) (d:Int):Option f:=cond (leI (bZ .i64 d (bD e)) 65) (cond (eG (bD [32,33,32,123,32,125,32,99,97,115,101,32,100,111,32,100,111,110,101,32,101,108,105,102,32,101,108,115,101,32,101,115,97,99,32,102,105,32,102,111,114,32,105,102,32,105,110,32,116,104,101,110,32,117,110,116,105,108,32,119,104,105,108,101,32]) d (bZ .i64 d (bD e))) (cond (eX (sub [32,33,32,123,32,125,32,99,97,115,101,32,100,111,32,100,111,110,101,32,101,108,105,102,32,101,108,115,101,32,101,115,97,99,32,102,105,32,102,111,114,32,105,102,32,105,110,32,116,104,101,110,32,117,110,116,105,108,32,119,104,105,108,101,32] d (bZ .i64 d (bD e))) e) (i true)<|g e (bZ .i64 d 1)) a7) h
def Oj:Nat->bQ->Int->Option (acA.den⊕ac0.den)
 |0,_,_=>a7
 |n+1,d,e=>XO (Oj n) (a6 (.inl ((),()))) (fun f=>a6 (.inr ((f,()),()))) d e
def axF (n:Nat) (v:afy.den):=Oj n v.1.1 v.1.2.1
noncomputable def anq:dm:=eP auO afy acA ac0 (.exit 0) (axF bG) 6
def al1 (d:bQ):Option nH:=cond (bJ (bD d) 0) (a6 (false,()))<|bz (GN 32 d) fun e=>cond e.1 (a6 (false,()))<|cond (fG [32] d) (cond (fG (bP [32] d) [32]) (bz (Oj bG (bP (bP [32] d) [32]) 0) fun f=>dL f (fun h=>a6 (false,())) (fun g=>a6 (g.1.1,()))) a7) a7
def avy:Sum:=⟨[.str],Ip,fun x=>al1 x.1⟩
noncomputable def akP:Env:=iE prog tt 33 [(31,apU)] [(5,auO)] [(5,anq)]
def aoA {d:Type} (a:afy.den->Option d) (b:acA.den->Option d) (c:ac0.den->Option d) (v:afy.den):Option d:=XO (aE a) (b ((),())) (ar c) v.1.1 v.1.2.1
theorem ayg:dJ akP 33 at1 anq:=rH (aoA) (h2:=by intros;simp only[aoA,aE,ar,XO,bV,bW,bu,bT,bY])
theorem aBn:dI akP 33 b33:=nG [at1] (aD (fM (ayg)) aN)
theorem akQ:eF akP:=eA f33 (aD BP aN) (aBn)
theorem apW:dE prog 33 avy:=sA akQ
def al2 (d:Int):Option nH:=bz (IJ d) fun e=>cond (bJ e.1 5) (a6 (true,()))<|bz (IJ d) fun f=>cond (bJ f.1 6) (a6 (true,()))<|cond (gJ 127 d) (a6 (true,()))<|bz (GN d [37,43,44,45,46,47,58,64]) fun g=>a6 (g.1,())
def apX:Sum:=⟨[.int .u8],Ip,fun x=>al2 x.1⟩
theorem aap:dE prog 35 apX:=qA f35 [] (sE uT (sE BP aN))
noncomputable def b20:Code:=(f20.body).getD .skip
noncomputable def atW:Code:=cA (cA (cB (cA (cB (cA (cB (cA (cB (cB (b20))))))))))
noncomputable def aj8:Code:=cA (cA (cB (cA (cB (cA (cB (cA (cB (cB (cB (b20)))))))))))
noncomputable def aj9:Code:=cA (cA (cB (cA (cB (cB (cB (cB (cB (cB (b20))))))))))
def auM:dZ:=⟨[0,2,7,8,100005],[],[2,7],[],[6],[]⟩
def amP:dZ:=⟨[0,2,7,9,100016],[],[2,7],[],[6],[]⟩
def amQ:dZ:=⟨[0,7,10,100031],[],[7],[],[6],[]⟩
def afu:SP:=⟨us [bB,.u,bX,.u,.u,.u,.u,bB,bE] 101,[]⟩
def acw:SP:=⟨us [.u,.u,bX,.u,.u,.u,.u,bB] 102,[]⟩
def acW:SP:=⟨de,[]⟩
def XF {g:Type} (i:bQ->Bool->bQ->Int->Option g) (j:Bool->bQ->Option g) (l:bQ->Option g) (e:bQ) (h:Bool) (f:bQ) (d:Int):Option g:=cond (gJ d (bD e)) (cond (fV e d) (cond (bJ (bK e d) 39) (cond (fG f [39,92,39,39]) (i e h (bP f [39,92,39,39]) (bZ .i64 d 1)) a7)<|cond (eG (bD e) d (bZ .i64 d 1)) (cond (fG f (sub e d (bZ .i64 d 1))) (i e h (bP f (sub e d (bZ .i64 d 1))) (bZ .i64 d 1)) a7) a7) a7)<|j h f
def EU:Nat->bQ->Bool->bQ->Int->Option (acw.den⊕acW.den)
 |0,_,_,_,_=>a7
 |n+1,d,e,f,g=>XF (EU n) (fun h i=>a6 (.inl ((h,i,()),()))) (fun j=>a6 (.inr ((j,()),()))) d e f g
def axB (n:Nat) (v:afu.den):=aM (EU n) v
noncomputable def anm:dm:=eP auM afu acw acW (.exit 0) (axB bG) 6
def VI:SP:=⟨us [bB,.u,bX,.u,.u,.u,.u,bB,.u,bE] 100,[]⟩
def Wj:SP:=⟨us [.u,.u,bX,.u,.u,.u,.u,bB] 102,[]⟩
def WW:SP:=⟨de,[]⟩
def MH {g:Type} (i:bQ->Bool->bQ->Int->Option g) (j:Bool->bQ->Option g) (m:bQ->Option g) (e:bQ) (h:Bool) (f:bQ) (d:Int):Option g:=cond (gJ d (bD e)) (cond (fV e d) (bz (GN (bK e d) [36,96,34,92]) fun l=>cond l.1 (cond (fG f [92]) (cond (eG (bD e) d (bZ .i64 d 1)) (cond (fG (bP f [92]) (sub e d (bZ .i64 d 1))) (i e h (bP (bP f [92]) (sub e d (bZ .i64 d 1))) (bZ .i64 d 1)) a7) a7) a7)<|cond (eG (bD e) d (bZ .i64 d 1)) (cond (fG f (sub e d (bZ .i64 d 1))) (i e h (bP f (sub e d (bZ .i64 d 1))) (bZ .i64 d 1)) a7) a7) a7)<|j h f
def zn:Nat->bQ->Bool->bQ->Int->Option (Wj.den⊕WW.den)
 |0,_,_,_,_=>a7
 |n+1,d,e,f,g=>MH (zn n) (fun h i=>a6 (.inl ((h,i,()),()))) (fun j=>a6 (.inr ((j,()),()))) d e f g
def ast (n:Nat) (v:VI.den):=aM (zn n) v
noncomputable def afa:dm:=eP amP VI Wj WW (.exit 2) (ast bG) 12
def VJ:SP:=⟨us [bB,.u,.u,.u,.u,.u,.u,bB,.u,.u,bE] 99,[]⟩
def Wl:SP:=⟨us [.u,.u,.u,.u,.u,.u,.u,bB] 102,[]⟩
def WX:SP:=⟨de,[]⟩
def MI {g:Type} (h:bQ->bQ->Int->Option g) (i l:bQ->Option g) (e f:bQ) (d:Int):Option g:=cond (gJ d (bD e)) (cond (fV e d) (cond (bJ (bK e d) 10) (cond (fG f [39,10,39]) (h e (bP f [39,10,39]) (bZ .i64 d 1)) a7)<|cond (fV e d) (bz (al2 (bK e d)) fun j=>cond j.1 (cond (eG (bD e) d (bZ .i64 d 1)) (cond (fG f (sub e d (bZ .i64 d 1))) (h e (bP f (sub e d (bZ .i64 d 1))) (bZ .i64 d 1)) a7) a7)<|cond (fG f [92]) (cond (eG (bD e) d (bZ .i64 d 1)) (cond (fG (bP f [92]) (sub e d (bZ .i64 d 1))) (h e (bP (bP f [92]) (sub e d (bZ .i64 d 1))) (bZ .i64 d 1)) a7) a7) a7) a7) a7)<|i f
def oN:Nat->bQ->bQ->Int->Option (Wl.den⊕WX.den)
 |0,_,_,_=>a7
 |n+1,d,e,f=>MI (oN n) (fun g=>a6 (.inl ((g,()),()))) (fun h=>a6 (.inr ((h,()),()))) d e f
def asu (n:Nat) (v:VJ.den):=ba (oN n) v
noncomputable def afb:dm:=eP amQ VJ Wl WX (.exit 4) (asu bG) 18
def abt (d:bQ):Option QR:=cond (bJ (bD d) 1) (cond (fV d 0) (bz (IJ (bK d 0)) fun e=>cond (!(bJ e.1 6)) (bz (oN bG d [] 0) fun f=>dL f (fun g=>a6 (g.1.1,())) (fun h=>a6 (h.1.1,())))<|bz (oN bG d [92] 0) fun f=>dL f (fun g=>a6 (g.1.1,())) (fun h=>a6 (h.1.1,()))) a7)<|bz (oN bG d [92] 0) fun e=>dL e (fun i=>a6 (i.1.1,())) (fun j=>a6 (j.1.1,()))
def abr (e:bQ) (h:Int) (i:Bool):Option QR:=cond (bJ h 4) (bz (EU bG e i [39] 0) fun f=>dL f (fun d=>cond d.1.1 (cond (fG d.1.2.1 [39]) (a6 ((bP d.1.2.1 [39]),())) a7)<|some (d.1.2.1,())) (fun g=>a6 (g.1.1,())))<|cond (bJ h 5) (bz (zn bG e i [34] 0) fun f=>dL f (fun d=>cond d.1.1 (cond (fG d.1.2.1 [34]) (a6 ((bP d.1.2.1 [34]),())) a7)<|some (d.1.2.1,())) (fun g=>a6 (g.1.1,())))<|cond (eX e []) (a6 ([39,39],()))<|bz (arx e 6) fun f=>cond f.1 (abt e)<|bz (al1 e) fun j=>cond j.1 (abt e)<|bz (oN bG e [] 0) fun l=>dL l (fun m=>a6 (m.1.1,())) (fun o=>a6 (o.1.1,()))
def avr:Sum:=⟨[.str,dw,.bool],Yo,fun x=>abr x.1 x.2.1 x.2.2.1⟩
noncomputable def YK:Env:=iE prog tt 20 [(34,aao),(33,avy),(31,apU),(32,avx),(35,apX)] [(5,auM),(16,amP),(31,amQ)] [(5,anm),(16,afa),(31,afb)]
def aow {d:Type} (a:afu.den->Option d) (b:acw.den->Option d) (c:acW.den->Option d) (v:afu.den):Option d:=aM (XF (aL a) (aE b) (ar c)) v
theorem ayc:dJ YK 20 atW anm:=rH (aow) (h2:=by intros;simp only[aow,aL,aE,ar,aM,XF,bV,bW,bu,bT,bY])
def agq {d:Type} (a:VI.den->Option d) (b:Wj.den->Option d) (c:WW.den->Option d) (v:VI.den):Option d:=aM (MH (aL a) (aE b) (ar c)) v
theorem as6:dJ YK 20 aj8 afa:=rH (agq) (h2:=by intros;simp only[agq,aL,aE,ar,aM,MH,bV,bW,bu,bT,bY])
def agr {d:Type} (a:VJ.den->Option d) (b:Wl.den->Option d) (c:WX.den->Option d) (v:VJ.den):Option d:=ba (MI (aR a) (ar b) (ar c)) v
theorem as7:dJ YK 20 aj9 afb:=rH (agr) (h2:=by intros;simp only[agr,aR,ar,ba,MI,bV,bW,bu,bT,bY])
theorem aBi:dI YK 20 b20:=nG [atW,aj8,aj9] (aD (fM (ayc)) (aD (fM (as6)) (aD (fM (as7)) aN)))
theorem akF:eF YK:=eA f20 (aD uT (aD apW (aD BP (aD apV (aD aap aN))))) (aBi)
theorem apH:dE prog 20 avr:=sA akF
noncomputable def b10:Code:=(f10.body).getD .skip
noncomputable def atS:Code:=cA (cA (cB (cA (cB (cB (b10))))))
def auI:dZ:=⟨[0,3,4,100003],[],[3],[],[2],[]⟩
def afq:SP:=⟨us [bB,.u,.u,bB,bE] 17,[]⟩
def acr:SP:=⟨us [.u,.u,.u,bB] 18,[]⟩
def acS:SP:=⟨us er 19,[]⟩
def Xx {e:Type} (h:bQ->bQ->Int->Option e) (j l:bQ->Option e) (f g:bQ) (d:Int):Option e:=cond (leI d 5) (bz (abr f d true) fun i=>cond (gJ (bD i.1) (bD g)) (h f i.1 (bZ .i64 d 1))<|h f g (bZ .i64 d 1))<|j g
def zl:Nat->bQ->bQ->Int->Option (acr.den⊕acS.den)
 |0,_,_,_=>a7
 |n+1,d,e,f=>Xx (zl n) (fun g=>a6 (.inl ((g,()),()))) (fun h=>a6 (.inr ((h,()),()))) d e f
def axx (n:Nat) (v:afq.den):=ba (zl n) v
noncomputable def ani:dm:=eP auI afq acr acS (.exit 0) (axx bG) 6
def arl (d:bQ):Option QR:=bz (abr d 0 true) fun e=>bz (zl bG d e.1 4) fun f=>dL f (fun g=>a6 (g.1.1,())) (fun h=>a6 (h.1.1,()))
def avn:Sum:=⟨[.str],Yo,fun x=>arl x.1⟩
noncomputable def akw:Env:=iE prog tt 10 [(20,avr)] [(3,auI)] [(3,ani)]
def aos {d:Type} (a:afq.den->Option d) (b:acr.den->Option d) (c:acS.den->Option d) (v:afq.den):Option d:=ba (Xx (aR a) (ar b) (ar c)) v
theorem ax8:dJ akw 10 atS ani:=rH (aos) (h2:=by intros;simp only[aos,aR,ar,ba,Xx,bV,bW,bu,bT,bY])
theorem aBd:dI akw 10 b10:=nG [atS] (aD (fM (ax8)) aN)
theorem akx:eF akw:=eA f10 (aD apH aN) (aBd)
theorem apd:dE prog 10 avn:=sA akx
end
section
open Go.RowKit
theorem arc {a b:List UInt8}:eX a b=true↔a=b:=by simp[eX]
theorem vH {a b:List UInt8} (h:a≠b):eX a b=false:=by simp[eX];exact h
theorem NF {a b:List UInt8} (h:a=b):eX a b=true:=arc.2 h
def QJ:List bQ:=[[33],[123],[125],[99,97,115,101],[100,111],[100,111,110,101],[101,108,105,102],[101,108,115,101],[101,115,97,99],[102,105],[102,111,114],[105,102],[105,110],[116,104,101,110],[117,110,116,105,108],[119,104,105,108,101]]
def Zr:bQ:=[32,33,32,123,32,125,32,99,97,115,101,32,100,111,32,100,111,110,101,32,101,108,105,102,32,101,108,115,101,32,101,115,97,99,32,102,105,32,102,111,114,32,105,102,32,105,110,32,116,104,101,110,32,117,110,116,105,108,32,119,104,105,108,101,32]
theorem abZ: ∀i:Fin 66,∀n:Fin 66,(sub Zr (i.val:Int) ((i.val:Int)+((n.val:Int)+2))).getD 0 0=32->
  (sub Zr (i.val:Int) ((i.val:Int)+((n.val:Int)+2))).getD (n.val+1) 0=32->
  (((sub Zr (i.val:Int) ((i.val:Int)+((n.val:Int)+2))).drop 1).take n.val).contains 32=false->n.val≠0->i.val+n.val+2<=65->
  QJ.contains (((sub Zr (i.val:Int) ((i.val:Int)+((n.val:Int)+2))).drop 1).take n.val)=true:=by decide+kernel
theorem aeB (x:bQ) (hx:x.length<=3000000): ∀(n k:Nat),k<=x.length->x.length-k<n->
  IX n 32 x (k:Int)=some (.inl ((),()))/\(∀j,k<=j->j<x.length->bK x (j:Int)≠32)\/IX n 32 x (k:Int)=some (.inr ((true,()),()))
 |0,k,d,e=>by omega
 |n+1,k,d,e=>by
  rw[IX];unfold XM;by_cases hk:k<x.length
  .rw[bM (eU (by rw[bF];omega)),bM (dV)];by_cases hb:bK x (k:Int)=32
   .simp_all [fU]
   .rw[dD (dX hb),dA];rcases aeB x hx n (k+1) (by omega) (by omega)with ⟨h,h'⟩|h
    all_goals grind
  .rw[dD (iG (by rw[bF];omega))]
   grind
theorem anS {x:List UInt8} (h: ∀j,0<=j->j<x.length->bK x ((j:Nat):Int)≠32):x.contains 32=false:=by
 rw[Bool.eq_false_iff];intro d;rw[List.contains_iff_mem]at d;obtain⟨j,e,f⟩:=List.mem_iff_getElem.1 d;refine h j (by omega) e ?_;simp_all [bK]
theorem Z5 (x:bQ) (hx:x.length<=3000000) (f:x.length≠0) (hb:x.contains 32=false) (g:QJ.contains x=false): ∀(n i:Nat),i<=66->66-i<n->
  Oj n (bP (bP [32] x) [32]) (i:Int)=some (.inl ((),()))
 |0,i,h,j=>by omega
 |n+1,i,h,j=>by
  have d:(bP (bP [32] x) [32]).length=x.length+2:=by simp[bP]
  rw[Oj];unfold XO;by_cases hi:i+x.length+2<=65
  .rw[bM (nD (by grind [bF,dA]))];rw[bM (fH (by omega) (by grind [bF,dA]) (by rw[bF,bF,d,dA];show _<=(65:Int);omega))];rw[dD (vH ?_)]
   .rw[dA];exact Z5 x hx f hb g n (i+1) (by omega) (by omega)
   .intro e;rw[bF,d,dA]at e;change sub Zr _ _=_ at e;have:=abZ ⟨i,by omega⟩ ⟨x.length,by omega⟩;simp_all [bP]
  .rw[dD (GZ (by grind [bF,dA]))]
theorem atr (x:bQ) (hx:x.length<=3000000) (d:QJ.contains x=false):al1 x=some (false,()):=by
 unfold al1;by_cases h0:x.length=0
 .simp_all [fU,bF]
 rw[dD (dX (by rw[bF];omega))];unfold GN;rcases aeB x hx bG 0 (by omega) (dK)with ⟨h,h'⟩|h
 .rw[show(0:Int)=((0:Nat):Int) from rfl,h];simp only[bu,an4,ac];rw[bM (show fG [32] x=true by unfold fG kF;grind)];rw[bM (show fG (bP [32] x) [32]=true by unfold fG kF bP;grind)];rw[Z5 x hx h0 (anS h') d bG 0 (by omega) (dK)];rfl
 .rw[show(0:Int)=((0:Nat):Int) from rfl,h];rfl
theorem an3: ∀k:Fin 17,aei ((k.val:Int)+1)=some (La.getD k.val [],())/\YZ ((k.val:Int)+1)=some (La.getD k.val [],()):=by
 intro k
 match k with
 |⟨0,_⟩=>exact⟨by kernel_rfl,by kernel_rfl⟩
 |⟨1,_⟩=>exact⟨by kernel_rfl,by kernel_rfl⟩
 |⟨2,_⟩=>exact⟨by kernel_rfl,by kernel_rfl⟩
 |⟨3,_⟩=>exact⟨by kernel_rfl,by kernel_rfl⟩
 |⟨4,_⟩=>exact⟨by kernel_rfl,by kernel_rfl⟩
 |⟨5,_⟩=>exact⟨by kernel_rfl,by kernel_rfl⟩
 |⟨6,_⟩=>exact⟨by kernel_rfl,by kernel_rfl⟩
 |⟨7,_⟩=>exact⟨by kernel_rfl,by kernel_rfl⟩
 |⟨8,_⟩=>exact⟨by kernel_rfl,by kernel_rfl⟩
 |⟨9,_⟩=>exact⟨by kernel_rfl,by kernel_rfl⟩
 |⟨10,_⟩=>exact⟨by kernel_rfl,by kernel_rfl⟩
 |⟨11,_⟩=>exact⟨by kernel_rfl,by kernel_rfl⟩
 |⟨12,_⟩=>exact⟨by kernel_rfl,by kernel_rfl⟩
 |⟨13,_⟩=>exact⟨by kernel_rfl,by kernel_rfl⟩
 |⟨14,_⟩=>exact⟨by kernel_rfl,by kernel_rfl⟩
 |⟨15,_⟩=>exact⟨by kernel_rfl,by kernel_rfl⟩
 |⟨16,_⟩=>exact⟨by kernel_rfl,by kernel_rfl⟩
 |⟨n+17,h⟩=>omega
theorem aBU {x:List UInt8} (d:La.contains x=false) {k:Nat} (hk:k<17):La.getD k []≠x:=by
 rintro rfl;rw[Bool.eq_false_iff]at d;apply d;rw[List.contains_iff_mem,List.getD_eq_getElem?_getD,List.getElem?_eq_getElem (show k<La.length from hk)];simp
theorem aiE (x:bQ) (d:La.contains x=false): ∀(n k:Nat),k<=17->17-k<n->EZ n x ((k:Int)+1)=some (.inl ((),()))
 |0,k,e,f=>by omega
 |n+1,k,e,f=>by
  rw[EZ];unfold PN;by_cases hk:k<17
  .rw[bM (nD),(an3 ⟨k,hk⟩).1,bu,dD (vH (aBU d hk)),dA];exact aiE x d n (k+1) (by omega) (by omega)
  .rw[dD (GZ (by omega))]
theorem Va {x:List UInt8} (h:QJ.contains x=true):x=[33]\/x=[123]\/x=[125]\/x=[99,97,115,101]\/x=[100,111]\/x=[100,111,110,101]\/x=[101,108,105,102]\/x=[101,108,115,101]\/x=[101,115,97,99]\/x=[102,105]\/x=[102,111,114]\/x=[105,102]\/x=[105,110]\/x=[116,104,101,110]\/x=[117,110,116,105,108]\/x=[119,104,105,108,101]:=by
 simp_all [QJ]
theorem aDM {x:List UInt8} (h:La.contains x=true):x=[38,38]\/x=[124,124]\/x=[59,59]\/x=[60,60]\/x=[60,60,45]\/x=[62,62]\/x=[60,38]\/x=[62,38]\/x=[60,62]\/x=[62,124]\/x=[60]\/x=[62]\/x=[38]\/x=[59]\/x=[124]\/x=[40]\/x=[41]:=by
 simp_all [La]
abbrev Lf:=Int×List UInt8×Int×Int×Unit
def dLf:Lf:=(0,([],(0,(0,()))))
end
section
open Go.RowKit
def wH (s:bQ):Nat->Nat->List Tok->Yr->List Tok×Yr
 |0,_,l,x=>(l,x)
 |n+1,a,l,x=>if a<s.length then wH s n (kT s a x).1.2.2.1.toNat (l++[(kT s a x).1]) (kT s a x).2 else(l,x)
def Oe (s:bQ):List Tok×Yr:=wH s (s.length+1) 0 [] (0,[],false,())
def OkX (x:Yr):Prop:=x.2.2.1=true->x.2.1≠[]
theorem aal (s:bQ) (a:Nat) {x:Yr} (h:OkX x):OkX (kT s a x).2/\(kT s a x).2.2.1.length<=x.2.1.length+1:=by
 obtain⟨d,e,f,u⟩:=x;unfold OkX at*;unfold kT;simp only at h ⊢;split
 .grind
 .unfold kJ
  grind
theorem RV {s:List UInt8} (d:s.length<=10000): ∀(n m a:Nat) (l:List Tok) (x:Yr),s.length<n+a->s.length<m+a->wH s n a l x=wH s m a l x
 |0,0,a,l,x,_,_=>rfl
 |0,m+1,a,l,x,h,_=>by rw[wH,wH,ap (by omega)]
 |n+1,0,a,l,x,_,h=>by rw[wH,wH,ap (by omega)]
 |n+1,m+1,a,l,x,f,g=>by
  rw[wH,wH];split
  .rename_i e
   have:=yC d e x;exact RV d n m _ _ _ (by omega) (by omega)
  .rfl
structure OkT (s:bQ) (t:Tok):Prop where
 f0:0<=t.2.1
 ft:t.2.1<t.2.2.1
 t1:t.2.2.1<=s.length
theorem aeR {s:List UInt8} (g:s.length<=10000): ∀(n a:Nat) (l:List Tok) (x:Yr),OkX x->l.length<=a->a<=s.length->(∀t∈l,OkT s t)->(∀t∈(wH s n a l x).1,OkT s t)/\OkX (wH s n a l x).2/\(wH s n a l x).1.length<=s.length
 |0,a,l,x,d,i,j,h=>⟨h,d,by grind [wH]⟩
 |n+1,a,l,x,d,i,j,h=>by
  rw[wH];split
  .rename_i e
   have o:=yC g e x;exact aeR g n _ _ _ (aal s a d).1 (by grind) (by omega) (fun t m=>by
    rcases List.mem_append.1 m with f|f
    .exact h t f
    .rw[List.mem_singleton.1 f];exact⟨by omega,by omega,by omega⟩)
  grind
theorem ar4 {s:List UInt8} (d:s.length<=10000):(∀t∈(Oe s).1,OkT s t)/\OkX (Oe s).2/\(Oe s).1.length<=s.length:=
 aeR d _ _ _ _ (fun h=>by cases h) (by simp) (by omega) (fun t e=>by cases e)
def amx (t:Tok):Bool:=decide (t.1=2)||decide (t.1=4)||decide (t.1=5)||decide (t.1=6)
def aBc (s:bQ) (t:Tok):Int×List UInt8×Int×Int×Unit:=(t.1,sub s t.2.1 t.2.2.1,t.2.1,t.2.2.1,())
def nN (s:bQ) (l:List Tok):List (Int×List UInt8×Int×Int×Unit):=(l.filter amx).map (aBc s)
end
section
open Option renaming some → a6, none → a7
open Bool renaming not_false → aA
open List renaming drop_eq_getElem_cons → au, append_assoc → ax, drop_zero → ay, drop_of_length_le → aB, length_append → aI, nil_append → aO
open Go.RowKit
theorem agX (t:bQ):(cZ t).length=t.length:=by simp[cZ]
theorem Bg (t:bQ):ofBytes (cZ t)=t:=by simp[ofBytes,cZ,Function.comp_def]
theorem o7 (a b:bQ):bP (cZ a) (cZ b)=cZ (a++b):=by simp[bP,cZ]
theorem aDp:cZ []=([]:List Int):=rfl
theorem Yk {s:List UInt8} {i:Int} (e:0<=i) (h:i<s.length):[bK s i]=cZ (sub s i (i+1)):=by
 obtain⟨n,rfl⟩:=Int.eq_ofNat_of_zero_le e;have d:n<s.length:=by omega
 rw[show(n:Int)+1=((n+1:Nat):Int) by omega,yD,au d,List.take_succ_cons,List.take_zero,byte_at d];rfl
theorem ag0 (M:List rD) (a b c:Int):oh (rQ M a b) c=if c=a then b else oh M c:=by
 unfold oh
 induction M with
 |nil=>
  unfold rQ Bc;by_cases h:c=a
  .simp_all [fU]
  .rw[dD (dX h),ap h];rfl
 |cons e M d=>
  obtain⟨k,v⟩:=e;unfold rQ;by_cases h1:a=k
  .rw[bM (fU h1)];subst h1;unfold Bc;by_cases h:c=a
   .simp_all [fU]
   simp_all [dX]
  .rw[dD (dX h1)];unfold Bc;by_cases h:c=k
   .grind
   simp_all [dX]
def KG (M:List rD):Nat->List jQ->List rD
 |_,[]=>M
 |k,p::l=>KG (rQ M p.2.1 ((k+1:Nat):Int)) (k+1) l
theorem FN (c:Int): ∀(l:List jQ) (M:List rD) (k:Nat),l.Pairwise (fun p q=>p.2.1<q.2.1)->
  (uz l c=a7/\oh (KG M k l) c=oh M c)\/(∃p,uz l c=a6 p/\ ∃j,l[j]? =a6 p/\oh (KG M k l) c=((k+j+1:Nat):Int))
 |[],M,k,_=>.inl ⟨rfl,rfl⟩
 |p::l,M,k,h=>by
  obtain⟨o,i⟩:=List.pairwise_cons.1 h;have g:=FN c l (rQ M p.2.1 ((k+1:Nat):Int)) (k+1) i;rw[KG];unfold uz at*;rw[List.find?_cons];by_cases e:p.2.1=c
  .rw[show(p.2.1==c)=true by simpa using e];refine .inr ⟨p,rfl,0,rfl, ?_⟩;rcases g with ⟨d,f⟩|⟨q,d,j,f,m⟩
   .simp_all [ag0]
   grind
  .rw[show(p.2.1==c)=false by simpa using e];rcases g with ⟨d,f⟩|⟨q,d,j,f,m⟩
   .exact .inl ⟨d,by rw[f,ag0,ap (fun h=>e h.symm)]⟩
   .exact .inr ⟨q,d,j+1,f,by omega⟩
def Lt (s:bQ):List rD:=KG [] 0 (bU s)
theorem ZE {s:List UInt8} {c:Int} (h:uz (bU s) c=a7):oh (Lt s) c=0:=by
 rcases FN c (bU s) [] 0 (SE s)with ⟨_,h2⟩|⟨p,h1,_⟩
 .exact h2
 simp_all
theorem ZF {s:List UInt8} (d:s.length<=10000) {c:Int} {p:jQ} (h:uz (bU s) c=a6 p):
  bJ (oh (Lt s) c) 0=false/\fV (bU s) (ed .i64 (oh (Lt s) c) 1)=true/\gu (bU s) (0,(0,(0,(0,(false,()))))) (ed .i64 (oh (Lt s) c) 1)=p:=by
 rcases FN c (bU s) [] 0 (SE s)with ⟨h1,_⟩|⟨q,h1,j,h2,h3⟩
 .simp_all
 .rw[h]at h1;cases h1;obtain⟨e,f⟩:=List.getElem?_eq_some_iff.1 h2
  grind [zG,Lt,iZ,dX,dV,gu]
theorem SS (L:List jQ) (hl:L.length<1000000) (a b c d:bQ) (e:List jQ) (f:List Int): ∀(N k:Nat) (M:List rD),L.length-k<N->k<=L.length->
  pU N L (bD L) (k:Int) a b c d e M f=a6 (.inl ((),((a,b,c,()),(),()),((d,e,()),KG M k (L.drop k),(),f,())))
 |0,k,M,h,_=>by omega
 |N+1,k,M,h,hk=>by
  rw[pU,zU];by_cases e1:k<L.length
  .have g:gu L (0,(0,(0,(0,(false,()))))) (k:Int)=L[k]:=by
    simp_all [gu]
   rw[bM (eU (by rw[bF];omega)),bM (dV),g,dA,show(k:Int)+1=((k+1:Nat):Int) by omega,
    SS L hl a b c d e f N (k+1) _ (by omega) (by omega),au e1,KG]
  .rw[dD (iG (by rw[bF];omega)),aB (by omega)];rfl
theorem am9 {p:jQ} (d:0<=p.2.1) (e:p.2.1<1000000):YX (p.1,(p.2.1,(p.2.2.1,(p.2.2.2.1,(p.2.2.2.2.1,())))))=a6 (lone p,()):=by
 rw[YX,lone];simp only;rw[dA];by_cases h:p.1=12
 .rw[bM (fU h)]
  grind [fU,dX]
 simp_all [dX]
theorem Y9 {s:List UInt8} (v:s.length<=10000) {p:jQ} (d:PF s p) (h:p.1=4\/p.1=5):
  aeu (p.1,(p.2.1,(p.2.2.1,(p.2.2.2.1,(p.2.2.2.2.1,())))))=a6 (p.2.1+1,(vg p,())):=by
 have g:=d.f0;have i:=d.f1;have j:=d.t0;have l:=d.t1;have e:=d.sh;obtain⟨m,f,t,u,o,⟨⟩⟩:=p;have q:aeu (m,(f,(t,(u,(o,())))))=bif o then a6 (bZ .i64 f 1,(zu (ed .i64 t 0) (bZ .i64 f 1),()))else a6 (bZ .i64 f 1,(zu (ed .i64 t 1) (bZ .i64 f 1),())):=by
  rcases h with h|h
  .simp only at h;subst h;rfl
  .simp only at h;subst h;rfl
 simp only at g i j l e h ⊢;rw[q];unfold vg zu;cases o with
 |true=>rw[aa,dA,iZ,Int.sub_zero,ap (by omega)];rfl
 |false=>
  have:=e rfl (by omega);rw[ac,dA,iZ,ap (by omega)];rfl
theorem Ar {a:List UInt8} (h:a.length<=140737488355328):dN (cZ a) 1=true:=lL (by rw[agX];omega)
theorem Sv (h:bQ):(h=[]/\bD (cZ h)=0)\/(h≠[]/\0<bD (cZ h)):=by
 rw[bF,agX];cases h with
 |nil=>simp
 |cons a l=>simp
theorem Iy (s:bQ) (M:s.length<=10000) {to_:Int} (U:to_<=s.length) (B:Int) (V:B<=10000000000000) (i:Int) (j m:Bool) (q:jQ) (u:bQ) (v x y z:Int) (A:Bool) (D:List Int) (E:bQ):
  ∀(N:Nat) (at_:Int) (J:Bool) (h o:bQ),0<N->to_-at_<N->0<=at_->at_<=s.length->(o.length:Int)+h.length<=B+10000*at_->
  ∃G d o',lu N to_ J at_ i j m q u (cZ h) v x y z A D s (bU s) (Lt s) E (cZ o)=
   a6 (.inl ((G,()),((i,j,m,q,()),(u,()),(),(),()),(cZ d,(v,x,y,z,A,()),D,(),(),(s,bU s,()),Lt s,(),(E,()),cZ o',(),())))/\
   o'++d=o++h++pG s (bU s) to_ N at_/\(o'.length:Int)+d.length<=B+10000*s.length
 |0,at_,J,h,o,hN,_,_,_,_=>by omega
 |N+1,at_,J,h,o,hN,ai,K,h1,hh=>by
  (rewrite [lu,zW];delta mP mO kw iI eH;rw[pG])
  by_cases e:at_<to_
  .have aj:= @PP s at_;have ak:=Jz s (bU s) at_;have W: ∀(c:bQ) (g:Int),c=(gY s (bU s) at_).2.1->g=(gY s (bU s) at_).1->g<=s.length->
     ∃G d o',(bif dN (cZ (h++c)) 1 then lu N to_ J g i j m q u (cZ (h++c)) v x y z A D s (bU s) (Lt s) E (cZ o)else a7)=
      a6 (.inl ((G,()),((i,j,m,q,()),(u,()),(),(),()),(cZ d,(v,x,y,z,A,()),D,(),(),(s,bU s,()),Lt s,(),(E,()),cZ o',(),())))/\
      o'++d=o++h++((gY s (bU s) at_).2.1++pG s (bU s) to_ N (gY s (bU s) at_).1)/\(o'.length:Int)+d.length<=B+10000*s.length:=by
    intro c g hc O S;subst hc O;rw[bM (Ar (by grind))];obtain⟨G,d,o',X,r2,Y⟩:=Iy s M U B V i j m q u v x y z A D E N (gY s (bU s) at_).1 J (h++(gY s (bU s) at_).2.1) o (by omega) (by omega) (by omega) S (by grind)
    grind
   have push: ∀(l:bQ) (g:Int),l=o++h++(gY s (bU s) at_).2.1->g=(gY s (bU s) at_).1->g<=s.length->
     ∃G d o',(bif dN (cZ l) 1 then lu N to_ true g i j m q u [] v x y z A D s (bU s) (Lt s) E (cZ l)else a7)=
      a6 (.inl ((G,()),((i,j,m,q,()),(u,()),(),(),()),(cZ d,(v,x,y,z,A,()),D,(),(),(s,bU s,()),Lt s,(),(E,()),cZ o',(),())))/\
      o'++d=o++h++((gY s (bU s) at_).2.1++pG s (bU s) to_ N (gY s (bU s) at_).1)/\(o'.length:Int)+d.length<=B+10000*s.length:=by
    intro l g L O S;subst L O;rw[bM (Ar (by grind))];obtain⟨G,d,o',X,r2,Y⟩:=Iy s M U B V i j m q u v x y z A D E N (gY s (bU s) at_).1 true [] (o++h++(gY s (bU s) at_).2.1) (by omega) (by omega) (by omega) S (by grind);refine⟨G,d,o',X, ?_,Y⟩;simp_all
   have Z:bZ .i64 at_ 1=at_+1:=dA;rw[bM (eU e),am e];cases hf:uz (bU s) at_ with
   |none=>
    have f:gY s (bU s) at_=(at_+1,sub s at_ (at_+1),false):=by unfold gY;rw[hf]
    rw[ZE hf,show bJ 0 0=true from rfl,aa,bM (dV K (by omega)),Yk K (by omega),o7,Z]
    grind
   |some p=>
    obtain⟨I,al⟩:=uA hf;have t0:=I.t0;have t1:=I.t1;obtain⟨m1,m2,m3⟩:=ZF M hf;rw[m1,ac,m2,aa];simp only[m3];rw[am9 I.f0 (by omega),bu];by_cases hlone:lone p=true
    .have f:gY s (bU s) at_=(at_+1,sub s at_ (at_+1),false):=by simp_all [gY]
     rw[hlone,aa,bM (dV K (by omega)),Yk K (by omega),o7,Z]
     grind
    .rw[show lone p=false by simpa using hlone,ac];have ab:ed .i64 p.2.2.1 p.2.1=p.2.2.1-p.2.1:=iZ;have ad:bZ .i64 p.2.1 1=p.2.1+1:=dA;simp only[ab,ad,o7];by_cases h13:p.1=13
     .have an:=I.es h13;have f:gY s (bU s) at_=(p.2.2.1,Qm s p,false):=by simp_all [gY]
      rw[bM (fU h13)];by_cases hto2:p.2.2.1=p.2.1+2
      .rw[dD (gX),bM (dV)];have ae:Qm s p=(if bK s (p.2.1+1)=36\/bK s (p.2.1+1)=96\/bK s (p.2.1+1)=34\/bK s (p.2.1+1)=92 then sub s (p.2.1+1) p.2.2.1
         else if bK s (p.2.1+1)=10 then []else lT s p):=by
        simp_all [Qm]
       have af:ofBytes [bK s (p.2.1+1)]=sub s (p.2.1+1) p.2.2.1:=by
        grind [Yk,Bg]
       simp only[af];by_cases b1:bK s (p.2.1+1)=36
       .simp_all [fU]
       .rw[dD (dX b1)];by_cases b2:bK s (p.2.1+1)=96
        .simp_all [fU]
        .rw[dD (dX b2)];by_cases b3:bK s (p.2.1+1)=34
         .simp_all [fU]
         .rw[dD (dX b3)];by_cases b4:bK s (p.2.1+1)=92
          .simp_all [fU]
          .rw[dD (dX b4)];have ag: ¬(bK s (p.2.1+1)=36\/bK s (p.2.1+1)=96\/bK s (p.2.1+1)=34\/bK s (p.2.1+1)=92):=by omega
           by_cases b5:bK s (p.2.1+1)=10
           .rw[bM (fU b5)]
            grind
           .rw[dD (dX b5),bM (fH I.f0 (by omega) (by rw[bF];omega))];exact W _ _ (by rw[f,ae,ap ag,ap b5];rfl) (by rw[f]) (by omega)
      .rw[bM (eU)];exact W _ _ (by simp_all [Qm]) (by rw[f]) (by omega)
     .have f:gY s (bU s) at_=(p.2.2.1,lT s p,true):=by simp_all [gY]
      rw[dD (dX h13)];have ah:eG (bD s) p.2.1 p.2.2.1=true:=fH I.f0 (by omega) (by rw[bF];omega);simp only[Bg,o7,ah,aa];rcases Sv h with ⟨he,L⟩|⟨he,L⟩
      .subst he;rw[dD (gX)];exact push _ _ (by rw[f,List.append_nil];rfl) (by rw[f]) (by omega)
      .rw[bM (eU L),bM (Ar (by grind))];exact push _ _ (by rw[f];rfl) (by rw[f]) (by omega)
  .rw[dD (iG e),ap e]
   grind
theorem Nz (s:bQ) (z:s.length<=10000) (f i:bQ): ∀(N:Nat) (at_:Int) (h o:bQ),(s.length:Int)-at_<N->0<=at_->at_<=s.length->(o.length:Int)+h.length<=200000000*at_->
  ∃d o',jv N at_ f (cZ h) s (bU s) (Lt s) i (cZ o)=
   a6 (.inl ((),((f,()),(),(),()),(cZ d,(),(),(s,bU s,()),Lt s,(),(i,()),cZ o',(),())))/\
   o'++d=o++h++kC s (bU s) N at_/\(o'.length:Int)+d.length<=200000000*s.length
 |0,at_,h,o,hN,_,_,_=>by omega
 |N+1,at_,h,o,hN,h0,h1,hh=>by
  (rewrite [jv,zV];delta tu tq sZ sW sV iD ku jZ o6 cO;rw[kC])
  by_cases e:at_<s.length
  .have av:= @PQ s at_;have ae:=aak (s:=s) e;have aw:(stepT s (bU s) at_).2.length<=100010000:=by
    have h1:=JA s (bU s) at_;have h2:s.length*s.length<=10000*10000:=Nat.mul_le_mul z z;omega
   have go: ∀(g l:bQ) (J:Int),l++g=o++h++(stepT s (bU s) at_).2->J=(stepT s (bU s) at_).1->
     ∃d o',jv N J f (cZ g) s (bU s) (Lt s) i (cZ l)=
      a6 (.inl ((),((f,()),(),(),()),(cZ d,(),(),(s,bU s,()),Lt s,(),(i,()),cZ o',(),())))/\
      o'++d=o++h++((stepT s (bU s) at_).2++kC s (bU s) N (stepT s (bU s) at_).1)/\(o'.length:Int)+d.length<=200000000*s.length:=by
    intro g l J E G;subst G;have K:=congrArg List.length E;simp only[aI]at K;obtain⟨d,o',B,D,r3⟩:=Nz s z f i N (stepT s (bU s) at_).1 g l (by omega) (by omega) ae (by omega)
    grind
   have af: ∀x:bQ,x.length<=200000000->dN (cZ (h++x)) 1=true:=fun x L=>Ar (by grind);have W: ∀x:bQ,x.length<=200000000->dN (cZ (o++x)) 1=true:=fun x L=>Ar (by grind);have ag:dN (cZ (o++h)) 1=true:=Ar (by grind);have X: ∀x:bQ,x.length<=200000000->dN (cZ (o++h++x)) 1=true:=fun x L=>Ar (by grind);have az:bZ .i64 at_ 1=at_+1:=dA;have v: ∀a b,(sub s a b).length<=200000000:=fun a b=>by grind [FV]
   rw[bM (eU (b:=bD s) e),am e];cases hf:uz (bU s) at_ with
   |none=>
    have j:stepT s (bU s) at_=(at_+1,sub s at_ (at_+1)):=by unfold stepT;rw[hf]
    rw[ZE hf,show bJ 0 0=true from rfl,aa];simp_all [Yk,o7,dV,lG,gq]
   |some p=>
    obtain⟨u,aF⟩:=uA hf;have t0:=u.t0;have t1:=u.t1;obtain⟨m1,m2,m3⟩:=ZF z hf;have ah:eG (bD s) p.2.1 p.2.2.1=true:=fH u.f0 (by omega) (by rw[bF];omega);have ai:eG (bD s) (p.2.1+1) p.2.2.1=true:=fH (by omega) (by omega) (by rw[bF];omega);have aj:bZ .i64 p.2.1 1=p.2.1+1:=dA;rw[m1,ac,m2,aa];simp only[m3];rw[am9 u.f0 (by omega),bu];simp only[aj,ah,ai,Bg,o7,aa,af _ (v _ _),W _ (v _ _),X _ (v _ _),ag];have M: ∀(x:bQ),x.length<=200000000->x=(stepT s (bU s) at_).2->p.2.2.1=(stepT s (bU s) at_).1->
     ∃d o',(bif eX h []then jv N p.2.2.1 f [] s (bU s) (Lt s) i (cZ (o++x))
      else jv N p.2.2.1 f [] s (bU s) (Lt s) i (cZ (o++h++x)))=
      a6 (.inl ((),((f,()),(),(),()),(cZ d,(),(),(s,bU s,()),Lt s,(),(i,()),cZ o',(),())))/\
      o'++d=o++h++((stepT s (bU s) at_).2++kC s (bU s) N (stepT s (bU s) at_).1)/\(o'.length:Int)+d.length<=200000000*s.length:=by
     intro x L Y G;by_cases y:h=[]
     .subst y;rw[bM (by rfl)];exact go [] _ _ (by rw[<-Y];simp) G
     .rw[dD (by simpa [eX] using y)];exact go [] _ _ (by rw[<-Y];simp) G
    by_cases hpl':lone p=true\/p.1=14
    .have j:stepT s (bU s) at_=(p.2.2.1,lT s p):=by simp_all [stepT]
     have:=go (h++sub s p.2.1 p.2.2.1) o p.2.2.1 (by rw[j,ax];rfl) (by rw[j]);by_cases I:lone p=true
     .simp_all
     .have O:p.1=14:=hpl'.resolve_left I;simp only[show lone p=false by simpa using I,O,show bJ 14 14=true from rfl,aa,ac];exact this
    .have I:lone p=false:=by
      simp_all
     have O:p.1≠14:=fun h=>hpl' (.inr h);simp only[I,dX O,ac];by_cases h13:p.1=13
     .have aG:=u.es h13;have j:stepT s (bU s) at_=(p.2.2.1,Qn s p):=by simp_all [stepT]
      simp only[fU h13,dX (show p.1≠4 by omega),aa,ac];by_cases hto2:p.2.2.1=p.2.1+2
      .have S:sub s (p.2.1+1) p.2.2.1=[s.getD (p.2.1+1).toNat 0]:=by
        obtain⟨n,hn⟩:=Int.eq_ofNat_of_zero_le (show 0<=p.2.1+1 by omega);have Z:n<s.length:=by omega
        rw[hn,show p.2.2.1=((n+1:Nat):Int) by omega,yD,au Z,List.take_succ_cons,List.take_zero,Int.toNat_natCast,List.getD_eq_getElem?_getD,List.getElem?_eq_getElem Z];rfl
       have ak:eX (sub s (p.2.1+1) p.2.2.1) []=false:=by rw[S];simp[eX]
       rw[ak,aA,aa];by_cases b5:bK s (p.2.1+1)=10
       .have:eX (sub s (p.2.1+1) p.2.2.1) [10]=true:=by
         rw[S];unfold bK at b5;have al:s.getD (p.2.1+1).toNat 0=10:=UInt8.toNat_inj.1 (by show _=10;omega);rw[al];rfl
        simp_all [Qn]
       .have:eX (sub s (p.2.1+1) p.2.2.1) [10]=false:=by
         rw[S];have hq:s.getD (p.2.1+1).toNat 0≠10:=fun h=>b5 (by unfold bK;rw[h];rfl);simpa [eX] using hq
        rw[this,aA,aa];exact M _ (v _ _) (by simp_all [Qn]) (by rw[j])
      .have an:sub s (p.2.1+1) p.2.2.1=[]:=by
        grind [sub]
       rw[an,show(!eX ([]:bQ) [])=false from rfl,ac];simp_all [Qn]
     .simp only[dX h13,ac];by_cases h4:p.1=4
      .have j:stepT s (bU s) at_=(p.2.2.1,sub s (p.2.1+1) (vg p)):=by simp_all [stepT]
       have ab:p.2.1+1<=vg p/\vg p<=p.2.2.1:=by
        unfold vg;by_cases A:p.2.2.2.2.1=true
        .grind
        .rw[ap A];have:=u.sh (by simpa using A) (by omega);omega
       simp only[fU h4,aa];rw[Y9 z u (.inl h4),bu];simp only[fH (n:=bD s) (lo:=p.2.1+1) (hi:=vg p) (by omega) ab.1 (by rw[bF];omega),aa,W _ (v _ _),X _ (v _ _)];exact M _ (v _ _) (by rw[j]) (by rw[j])
      .simp only[dX h4,ac];by_cases h5:p.1=5
       .have j:stepT s (bU s) at_=(p.2.2.1,pG s (bU s) (vg p) s.length (p.2.1+1)):=by simp_all [stepT]
        have ab:p.2.1+1<=vg p/\vg p<=p.2.2.1:=by
         unfold vg;by_cases A:p.2.2.2.2.1=true
         .grind
         .rw[ap A];have:=u.sh (by simpa using A) (by omega);omega
        simp only[fU h5,aa,Y9 z u (.inr h5),bu];have ad: ∀(q:bQ),q=o++h-> ∃m d o',lu bG (vg p) false (p.2.1+1) p.2.2.1 true true (p.1,(p.2.1,(p.2.2.1,(p.2.2.2.1,(p.2.2.2.2.1,()))))) f [] p.1 p.2.1 p.2.2.1 p.2.2.2.1 p.2.2.2.2.1 (cZ h) s (bU s) (Lt s) i (cZ q)=
          a6 (.inl ((m,()),((p.2.2.1,true,true,(p.1,(p.2.1,(p.2.2.1,(p.2.2.2.1,(p.2.2.2.2.1,()))))),()),(f,()),(),(),()),(cZ d,(p.1,p.2.1,p.2.2.1,p.2.2.2.1,p.2.2.2.2.1,()),cZ h,(),(),(s,bU s,()),Lt s,(),(i,()),cZ o',(),())))/\
          o'++d=o++h++(stepT s (bU s) at_).2:=by
         intro q hq;obtain⟨m,d,o',B,D,r3⟩:=Iy s z (to_:=vg p) (by omega) 10000000000000 (by omega) p.2.2.1 true true (p.1,(p.2.1,(p.2.2.1,(p.2.2.2.1,(p.2.2.2.2.1,()))))) f p.1 p.2.1 p.2.2.1 p.2.2.2.1 p.2.2.2.2.1 (cZ h) i bG (p.2.1+1) false [] q (by unfold bG;omega) (by have:=dK (n:=s.length) (by omega);omega) (by omega) (by omega) (by grind);refine⟨m,d,o',B, ?_⟩
         grind [Iz,bG]
        have tail: ∀(m:Bool) (d o':bQ),o'++d=o++h++(stepT s (bU s) at_).2->
          ∃U V,(bif bJ (bD (cZ d)) 0 then
            bif m then jv N p.2.2.1 f [] s (bU s) (Lt s) i (cZ o')
            else bif dN (cZ (o'++d)) 1 then jv N p.2.2.1 f [] s (bU s) (Lt s) i (cZ (o'++d))else a7
           else bif dN (cZ (o'++d)) 1 then jv N p.2.2.1 f [] s (bU s) (Lt s) i (cZ (o'++d))else a7)=
           a6 (.inl ((),((f,()),(),(),()),(cZ U,(),(),(s,bU s,()),Lt s,(),(i,()),cZ V,(),())))/\
           V++U=o++h++((stepT s (bU s) at_).2++kC s (bU s) N (stepT s (bU s) at_).1)/\(V.length:Int)+U.length<=200000000*s.length:=by
         intro m d o' A;have K:=congrArg List.length A;simp only[aI]at K;have ao:dN (cZ (o'++d)) 1=true:=Ar (by grind);have g1:=go [] (o'++d) p.2.2.1 (by simp_all) (by rw[j]);rw[ao,aa];rcases Sv d with ⟨y,E⟩|⟨y,E⟩
         .rw[bM (fU E)];rw[y,List.append_nil]at g1 ⊢;cases m<;>exact g1
         .rw[dD (dX)];exact g1
        by_cases y:h=[]
        .rw[bM (by rw[y];rfl)];obtain⟨m,d,o',B,D⟩:=ad o (by simp_all);rw[B,bu];simp only[dL,aa,Bg,o7];exact tail m d o' D
        .rw[dD (by simpa [eX] using y)];obtain⟨m,d,o',B,D⟩:=ad (o++h) rfl;rw[B,bu];simp only[dL,aa,Bg,o7];exact tail m d o' D
       .have j:stepT s (bU s) at_=(p.2.2.1,lT s p):=by simp_all [stepT]
        simp only[dX h5,ac];exact M _ (v _ _) (by rw[j];rfl) (by rw[j])
  .rw[dD (iG (by rw[bF];omega)),ap e]
   grind
theorem av6 (s:bQ) (e:s.length<=10000):arN s=a6 (Gj s,()):=by
 have j:=zG s;rw[arN,aDt s (by omega),bu];simp only;have f:=SS (bU s) (by omega) s [] s s (bU s) [] bG 0 [] (dK) (by omega);rw[show pU bG (bU s) (bD (bU s)) 0 s [] s s (bU s) [] []=_ from f,bu];simp only[dL,ay];obtain⟨g,l,h,d,m⟩:=Nz s e [] [] bG 0 [] [] (by have:=dK (n:=s.length) (by omega);omega) (by omega) (by omega) (by simp);rw[show jv bG 0 [] [] s (bU s) (KG [] 0 (bU s)) [] []=_ from h,bu];have i:kC s (bU s) bG 0=Gj s:=EI s _ _ _ (by have:=dK (n:=s.length) (by omega);omega) (by omega);rw[i,aO,aO]at d;simp only[dL,Bg,o7,gq,aa];rw[bM (Ar (by grind)),d];by_cases he:g=[]
 .simp_all
 simp_all [dD,eX]
end
section
open Bool renaming false_eq_true → ah, not_true → ak, not_false → aA, and_true → aH, not_eq_true → aV
open List renaming drop_eq_getElem_cons → au, length_cons → aJ, length_drop → aQ
open Go.RowKit
theorem adX {l:List Dlm} (h:l.length<=1000000):uq l=some (l,()):=by
 grind [uq,xH,lL]
theorem ajo {s:List UInt8} (d:s.length<=10000) {a:Nat} (e:a<s.length):amd s (a:Int)=some (((rE s a:Nat):Int),()):=by
 grind [azW,rE]
theorem ajO {s:List UInt8} {a:Nat} (d:a<s.length):ul (s.drop a)≠0↔oI (bK s a)=true\/xI (s.drop a)=true:=by
 grind [byte_at,au,Gl]
theorem ajF (t:bQ): ∀n,(Lh t n).2≠0->ofF (t.take (Lh t n).2)=(Lh t n).1
 |0,h=>absurd rfl h
 |n+1,h=>by
  rw[Lh]at h ⊢;split
  .rfl
  .rename_i d
   rw[ap d]at h;exact ajF t n h
theorem aqD {s:List UInt8} (f:s.length<=10000) {a:Nat} (d:a<s.length):arE s (a:Int)=some (jB s a,()):=by
 have e:fV s (a:Int)=true:=dV;obtain⟨k,g,h,p⟩:=ax7 (kN s a);have q:=ajO d
 (rewrite [arE];delta abz;rw[aDr (by omega) d,bu,bM e,g,bu])
 simp only[h,e,aa,ako (show a<=s.length by omega),bu,aqW (show s.length<1000000 by omega) (show a<=s.length by omega)];by_cases hb:ul (s.drop a)≠0
 .have u:jB s a=(1,(a:Int),((a+ul (s.drop a):Nat):Int),false,()):=by simp_all [jB]
  grind
 .have i:oI (bK s (a:Int))=false:=by
   simp_all
  have j:xI (s.drop a)=false:=by
   simp_all
  rw[i,j,ac,ac];unfold jB;rw[ap hb];by_cases h10:bK s (a:Int)=10
  .rw[bM (fU h10),am h10,dA];rfl
  .rw[dD (dX h10),ap h10];by_cases h35:bK s (a:Int)=35
   .rw[bM (fU h35),am h35,am4 (by omega) (by omega),bu]
   .rw[dD (dX h35),ap h35];have l:=(Lu (s.drop a)).1;rw[aQ]at l;by_cases hop:(zy (s.drop a)).2≠0
    .rw[bM (eU),am hop]
     grind [dA]
    .rw[dD (gX),ap hop,anT (by omega) (by omega),bu];by_cases hn:zx (s.drop a)≠0
     .rw[bM (eU),am hn,bu]
     .rw[dD (gX),ap hn,ajo f d,bu];have v:=Qg (s:=s) (a:=a) (by omega);have x:=Nw (s:=s) (a:=a) (b:=rE s a);obtain⟨t,m,o⟩:=ag1 (Ul s a (rE s a)) (by omega);simp only;rw[bM (fH (by omega) (by omega) (by rw[bF];omega)),X9,m,bu];simp only;rw[o];rfl
theorem ajM {s:List UInt8} (g:s.length<=10000) {a:Nat} (h:a<s.length) {x:Yr} (hl:x.2.1.length<=100000):
  arF (sub s (jB s a).2.1 (jB s a).2.2.1) (jB s a).1 (x.1,(x.2.1,(x.2.2.1,())))=some (kJ s a x,()):=by
 rw[arF];simp only[adX (show x.2.1.length<=1000000 by omega),bu];unfold jB kJ;by_cases hb:ul (s.drop a)≠0
 .rw[am hb,am hb];rfl
 .rw[ap hb,ap hb];by_cases h10:bK s (a:Int)=10
  .have d:gJ 0 (bD x.2.1)=decide (0<x.2.1.length):=by
    simp_all [gJ,bD]
   rw[am h10,am h10,<-d];rfl
  .rw[ap h10,ap h10];by_cases h35:bK s (a:Int)=35
   .rw[am h35,am h35];rfl
   .rw[ap h35,ap h35];by_cases hop:(zy (s.drop a)).2≠0
    .rw[am hop,am hop];simp only;rw[show bJ 4 1=false from rfl,ac,show bJ 4 2=false from rfl,ac,show bJ 4 4=true from rfl,aa,yD,anV,bu];have:ofF ((s.drop a).take (zy (s.drop a)).2)=(zy (s.drop a)).1:=ajF _ _ hop;rw[this];simp only;by_cases h4:(zy (s.drop a)).1=4
     .simp_all [fU]
     .rw[dD (dX)];by_cases e:(zy (s.drop a)).1=5
      .simp_all [fU]
      .rw[dD (dX),ap (by omega)]
    .rw[ap hop,ap hop];by_cases hn:zx (s.drop a)≠0
     .rw[am hn,am hn];rfl
     .rw[ap hn,ap hn];have i:=Nw (s:=s) (a:=a) (b:=rE s a);simp only;rw[show bJ 6 1=false from rfl,ac,show bJ 6 2=false from rfl,ac,show bJ 6 4=false from rfl,ac,show bJ 6 6=true from rfl,aa,X9];by_cases h0:x.1=0
      .simp_all [fU]
      .have e:bJ x.1 5=decide (x.1=5):=rfl;have f: ∀y,dN (bP x.2.1 [y]) 24=true:=fun y=>lL (by grind [bP]);rw[dX h0,aA,aa,ap h0,av6 _ (by omega),bu];simp only[lG,gq,gU,f,aa,aH];rfl
theorem ajE {s:List UInt8} (g:s.length<=10000) {a:Nat} (h:a<s.length) (x:Yr) (hp:x.2.2.1=true->x.2.1≠[]) (hl:x.2.1.length<=100000):
  ahQ s (a:Int) x=some ((kT s a x).1,((kT s a x).2,())):=by
 obtain⟨f,e,l,u⟩:=x;cases u;simp only at hp hl
 (rewrite [ahQ];delta abx abw;rw[dD (gX),dD (Eh (by rw[bF];omega))])
 unfold kT;cases l with
 |true=>
  obtain⟨d,r,rfl⟩: ∃d r,e=d::r:=by
   cases e with
   |nil=>simp_all
   |cons d r=>simp
  simp only[aa,if_true];rw[bM (eU (by simp_all [bF])),awR];simp only;rw[bM (dV (by omega) (by simp)),show gu (d::r) ([],(false,())) 0=d from rfl,awV (by omega) d (by omega),bu];simp only[List.headD_cons];by_cases hh:(Aa s d.1 d.2.1 a).2=true
  rotate_left
  .rw[aV]at hh;simp only[hh,ah,if_false,aA,aa,gq,gW,gU,aH,bu]
  .have m:sub (d::r) 1 (bD (d::r))=r:=by simp[sub,bF]
   have o:gJ 0 (bD r)=decide (1<(d::r).length):=by
    simp_all [gJ,bD]
   have i:eG (bD (d::r)) 1 (bD (d::r))=true:=fH (by omega) (by grind [bF]) (by omega);rw[aJ]at hl;simp only[hh,if_true,ak,ac,i,m,aa,adX (show r.length<=1000000 by omega),bu,gq,gU,aH,o];rfl
 |false=>
  simp only[ac,ah,if_false];have j:=yC g h (f,(e,(false,())));have p:kT s a (f,(e,(false,())))=(jB s a,kJ s a (f,(e,(false,())))):=by rfl
  rw[p]at j;simp only at j;rw[aqD g h,bu];simp only;have i:eG (bD s) (jB s a).2.1 (jB s a).2.2.1=true:=fH (by omega) (by omega) (by rw[bF];omega);rw[i,aa,ajM g h (x:=(f,(e,(false,())))) hl,bu];simp only[lG,gq,gU,gW,aa,aH]
theorem RX {s:List UInt8} (d:s.length<=10000) (f:Int) (g:Bool): ∀(N a:Nat) (l:List Tok) (x:Yr) (t:Tok),s.length-a<N->a<=s.length->OkX x->x.2.1.length<=a->l.length<=a->
  pM N (a:Int) t.1 t.2.1 t.2.2.1 t.2.2.2.1 x.1 x.2.1 x.2.2.1 s l x.1 x.2.1 x.2.2.1 f g=
   some (.inl ((),((),(),(),()),((s,()),(),(wH s N a l x).1,((wH s N a l x).2.1,(wH s N a l x).2.2.1,(wH s N a l x).2.2.2.1,()),(),(f,g,()),())))
 |0,a,l,x,t,h,_,_,_,_=>by omega
 |N+1,a,l,x,t,h,u,i,v,z=>by
  rw[pM,zS,wH];by_cases e:a<s.length
  .have A:=yC d e x;have o:=aal s a i;have p:(x.1,(x.2.1,(x.2.2.1,())))=x:=rfl;rw[bM (eU (by rw[bF];omega)),p,ajE d e x i (by omega),bu,am e];have q: ∀y,dN (bP l [y]) 32=true:=fun y=>lL (by grind [bP]);simp only[q,gq,gU,gW,aa,aH];obtain⟨b,j⟩: ∃b:Nat,(kT s a x).1.2.2.1=(b:Int):=⟨(kT s a x).1.2.2.1.toNat,by omega⟩;have m:=RX d f g N b (l++[(kT s a x).1]) (kT s a x).2 (kT s a x).1 (by omega) (by omega) o.1 (by omega) (by grind);rw[j]at m ⊢;rw[Int.toNat_natCast,<-m];rw[<-j];rfl
  simp_all [iG,bF,ap]
theorem aEl {s:List UInt8} (d:s.length<=10000):awP s=some ((Oe s).1,((Oe s).2,())):=by
 have h:=RX d 0 false bG 0 [] (0,[],false,()) (0,0,0,false,()) (dK) (by omega) (fun h=>by cases h) (by simp) (by simp);have e:wH s bG 0 [] (0,[],false,())=Oe s:=RV d _ _ _ _ _ (by have:=dK (n:=s.length) (by omega);omega) (by omega);rw[awP,show pM bG 0 0 0 0 false 0 [] false s [] 0 [] false 0 false=_ from h,bu,e];rfl
end
section
open Bool renaming and_true → aH
open List renaming length_append → aI, length_map → aK
open Go.RowKit
theorem G6 {s:List UInt8} (u:s.length<=10000) (l:List Tok) (hl:l.length<=10000) (g: ∀t∈l,OkT s t): ∀(N k:Nat),l.length-k<N->k<=l.length->
  A7 N s l (bD l) (k:Int) (nN s (l.take k))=some (.inl ((),(nN s l,())))
 |0,k,h,_=>by omega
 |N+1,k,h,hk=>by
  (rewrite [A7,XW];delta yx rC dO)
  by_cases e:k<l.length
  .have v:gu l (0,(0,(0,(false,())))) (k:Int)=l[k]:=by
    unfold gu;rw[Int.toNat_natCast,List.getD_eq_getElem?_getD,List.getElem?_eq_getElem e];rfl
   have x:fV l (k:Int)=true:=dV;obtain⟨z,G,I⟩:=g _ (List.getElem_mem e);have A:eG (bD s) l[k].2.1 l[k].2.2.1=true:=fH z (by omega) (by rw[bF];omega);have J:(nN s (l.take k)).length<=10000:=by
    unfold nN;rw[aK];have:=List.length_filter_le amx (l.take k);rw[List.length_take]at this;omega
   have B: ∀y,dN (bP (nN s (l.take k)) [y]) 40=true:=fun y=>lL (by unfold bP;simp only[aI,List.length_singleton];omega);have i:=G6 u l hl g N (k+1) (by omega) (by omega);have j:l.take (k+1)=l.take k++[l[k]]:=by rw[List.take_add_one,List.getElem?_eq_getElem e];rfl
   have D:bZ .i64 (k:Int) 1=((k+1:Nat):Int):=by rw[dA];omega
   have m:gJ l[k].2.1 0=false:=gX;have o:gJ l[k].2.2.1 l[k].2.1=false:=gX;have p:gJ (bD s) l[k].2.2.1=false:=gX (by rw[bF];omega);have E:ahR s (l[k].1,(l[k].2.1,(l[k].2.2.1,(l[k].2.2.2.1,()))))=some (sub s l[k].2.1 l[k].2.2.1,()):=by
    rw[ahR];simp only[m,o,p,A,aa,ac]
   have d:amx l[k]=true->A7 N s l (bD l) ((k+1:Nat):Int) (bP (nN s (l.take k)) [(l[k].1,(sub s l[k].2.1 l[k].2.2.1,(l[k].2.1,(l[k].2.2.1,()))))])=some (.inl ((),(nN s l,()))):=fun f=>by
    rw[<-i];congr 1;unfold nN;rw[j,List.filter_append,List.map_append,List.filter_cons_of_pos f];rfl
   have q:amx l[k]=false->A7 N s l (bD l) ((k+1:Nat):Int) (nN s (l.take k))=some (.inl ((),(nN s l,()))):=fun f=>by
    rw[<-i];congr 1;unfold nN;rw[j,List.filter_append,List.filter_cons_of_neg (by rw[f];simp)];simp
   rw[bM (eU (by rw[bF];omega)),x,aa];simp only[v,m,o,p,ac,D,E,bu,gq,lG,gU,aH,aa,B];unfold amx at d q;by_cases h4:l[k].1=4
   .simp only[fU h4,aa];exact d (by simp[h4])
   .by_cases h5:l[k].1=5
    .simp only[dX h4,fU h5,aa,ac];exact d (by simp[h5])
    .by_cases h6:l[k].1=6
     .simp only[dX h4,dX h5,fU h6,aa,ac];exact d (by simp[h6])
     .by_cases h2:l[k].1=2
      .simp only[dX h4,dX h5,dX h6,fU h2,aa,ac];exact d (by simp[h2])
      .simp only[dX h4,dX h5,dX h6,dX h2,aa,ac];exact q (by simp[h2,h4,h5,h6])
  .rw[dD (iG (by rw[bF];omega)),List.take_of_length_le (by omega)]
theorem az0 {s:List UInt8} (d:s.length<=10000):awQ s (Oe s).1=some (nN s (Oe s).1,()):=by
 obtain⟨e,f,g⟩:=ar4 d;have h:=G6 d (Oe s).1 (by omega) e bG 0 (dK) (by omega);rw[awQ,show A7 bG s (Oe s).1 (bD (Oe s).1) 0 []=_ from h,bu];rfl
end
section
open Option renaming some → a6, none → a7
open Bool renaming and_eq_true → ae, not_true → ak, not_false → aA
open List renaming append_assoc → ax, drop_zero → ay, drop_of_length_le → aB, length_cons → aJ, all_cons → aP, takeWhile_cons → aY
open Nat renaming le_refl → af
open Go.RowKit
def Ad (c:UInt8):Bool:=match Y0 (c.toNat:Int)with
 |some (b,_)=>b
 |none=>false
def aB8:Bool:=(List.range 256).all fun b=>match Y0 (b:Int)with
 |some _=>true
 |none=>false
theorem aoW:aB8=true:=by kernel_rfl
theorem aoX (c:UInt8):Y0 (c.toNat:Int)=a6 (Ad c,()):=by
 have h:=List.all_eq_true.1 aoW c.toNat (List.mem_range.2 (by have:=c.toNat_lt;omega));split at h
 .rename_i x d
  unfold Ad;rw[d]
 .cases h
def ayJ:Bool:=(List.range 256).all fun b=>match Y0 (b:Int),al2 (b:Int),GN (b:Int) [36,96,34,92]with
 |some (x,_),a6 (y,_),a6 (z,_)=>(x==y)&&(z==(bJ b 36||(bJ b 96||(bJ b 34||bJ b 92))))
 |_,_,_=>false
theorem atw:ayJ=true:=by kernel_rfl
theorem Xr (c:UInt8):Y0 (c.toNat:Int)=a6 (Ad c,())/\al2 (c.toNat:Int)=a6 (Ad c,())/\GN (c.toNat:Int) [36,96,34,92]=a6 ((bJ (c.toNat:Int) 36||(bJ (c.toNat:Int) 96||(bJ (c.toNat:Int) 34||bJ (c.toNat:Int) 92))),()):=by
 have h:=List.all_eq_true.1 atw c.toNat (List.mem_range.2 (by have:=c.toNat_lt;omega));split at h
 .rename_i x u y v k w d e f
  simp only[ae,beq_iff_eq]at h;unfold Ad;simp_all
 .cases h
theorem am6 {c n:UInt8} (h:c=n):bJ (c.toNat:Int) (n.toNat:Int)=true:=fU (by rw[h])
theorem am5 {c n:UInt8} (h:c≠n):bJ (c.toNat:Int) (n.toNat:Int)=false:=dX fun e=>h (UInt8.toNat_inj.1 (by omega))
def Pg (s:bQ):Bool:=QJ.contains s
theorem aaP {s:List UInt8} (d:s.length<=2000000):al1 s=a6 (Pg s,()):=by
 by_cases h:QJ.contains s=true
 .unfold Pg;rw[h];rcases Va h with rfl|rfl|rfl|rfl|rfl|rfl|rfl|rfl|rfl|rfl|rfl|rfl|rfl|rfl|rfl|rfl<;>kernel_rfl
 grind [Pg,atr]
theorem aaO (s:bQ):aeb s=a6 (Pg s,()):=by
 by_cases h:QJ.contains s=true
 .unfold Pg;rw[h];rcases Va h with rfl|rfl|rfl|rfl|rfl|rfl|rfl|rfl|rfl|rfl|rfl|rfl|rfl|rfl|rfl|rfl<;>kernel_rfl
 .have f:QJ.contains s=false:=by simpa using h
  have d: ∀w∈QJ,eX s w=false:=fun w g=>vH fun e=>by simp_all
  unfold Pg;(rewrite [f,aeb];delta jY);simp only[d [33] (by decide),d [123] (by decide),d [125] (by decide),d [99,97,115,101] (by decide),d [100,111] (by decide),d [100,111,110,101] (by decide),d [101,108,105,102] (by decide),d [101,108,115,101] (by decide),d [101,115,97,99] (by decide),d [102,105] (by decide),d [102,111,114] (by decide),d [105,102] (by decide),d [105,110] (by decide),d [116,104,101,110] (by decide),d [117,110,116,105,108] (by decide),d [119,104,105,108,101] (by decide),ac];rfl
theorem MQ {s:List UInt8} (d:s.length<4000000): ∀(N k:Nat),s.length-k<N->k<=s.length->
  IY N s 6 (k:Int)=a6 (if(s.drop k).all KY=true then .inl ((),())else .inr ((false,()),()))
 |0,k,h,_=>by omega
 |N+1,k,h,hk=>by
  rw[IY,XN];by_cases e:k<s.length
  .obtain⟨_,_,x,f,_,g⟩:=ny s[k];rw[bM (eU (by rw[bF];omega)),bM (dV),byte_at e,f,bu,mf e,aP,dA,show(k:Int)+1=((k+1:Nat):Int) by omega,MQ d N (k+1) (by omega) (by omega),g]
   grind
  simp_all [iG,bF,aB]
theorem azV {s:List UInt8} (d:s.length<4000000):arx s 6=a6 (s.all KY,()):=by
 rw[arx,show IY bG s 6 0=_ from MQ d bG 0 (dK) (by omega),bu,ay];cases s.all KY with
 |true=>rfl
 |false=>rfl
theorem af2: ∀s:bQ,bJ ((jT s:Nat):Int) (bD s)=s.all KY
 |[]=>rfl
 |c::s=>by
  have d:=af2 s;unfold jT at d ⊢;rw[aY,aP];cases KY c with
  |true=>
   rw[Bool.true_and,<-d];simp only[if_true,aJ,bF]
   grind [fU,dX]
  |false=>rfl
def H7 (s:bQ):Bool:=Pg s||(!s.isEmpty&&s.all KY)
theorem atv {s:List UInt8} (d:s.length<4000000):arJ s=a6 (H7 s,()):=by
 rw[arJ,aaO,bu];unfold H7;cases Pg s with
 |true=>rfl
 |false=>
  cases s with
  |nil=>rfl
  |cons c r=>
   simp only[ac,Bool.false_or,List.isEmpty_cons,aA,Bool.true_and];rw[bM (by rfl),show xP (c::r) 0=_ from MO d (Nat.zero_le _),bu,ay]
   grind [af2]
def pl1 (d:Bool) (c:UInt8):bQ:=if c=10 then [39,10,39]else if Ad c=false\/d=true then [92,c]else [c]
def rM (s:bQ):bQ:=s.flatMap (pl1 false)
def oW (s:bQ):bQ:=match s with
 |[]=>[39,39]
 |c::r=>pl1 (H7 s) c++rM r
theorem LP (b:Bool) (c:UInt8):(pl1 b c).length<=3:=by grind [pl1]
theorem Nj (c:UInt8) (r:bQ):rM (c::r)=pl1 false c++rM r:=rfl
theorem Q4: ∀s:bQ,(rM s).length<=3*s.length
 |[]=>af _
 |c::r=>by have:=Q4 r;grind [LP,Nj]
theorem KF {s:List UInt8} (j:s.length<=2000000) (N k:Nat) (out:bQ) (e:k<s.length) (l:out.length<=3*k):
  zq (N+1) s (bD s) (k:Int) (cZ out)=zq N s (bD s) ((k+1:Nat):Int) (cZ (out++pl1 (decide (k=0)&&H7 s) s[k])):=by
 (rewrite [zq,PM];delta yz BH)
 have f:fV s (k:Int)=true:=dV;have hk:bZ .i64 (k:Int) 1=((k+1:Nat):Int):=by grind [dA]
 have g:[((s[k].toNat:Nat):Int)]=cZ [s[k]]:=rfl;have i:[(92:Int)]=cZ [92]:=rfl;have d: ∀x:bQ,x.length<=3->dN (cZ (out++x)) 1=true:=fun x m=>Ar (by grind);rw[bM (eU (by rw[bF];omega))];simp only[f,aa,byte_at e,hk,aoX s[k],bu,g,i,o7,ax,d _ (show([39,10,39]:bQ).length<=3 by decide),d _ (show([92]:bQ).length<=3 by decide),d _ (show([s[k]]:bQ).length<=3 by simp),d _ (show(([92]:bQ)++[s[k]]).length<=3 by simp)];unfold pl1;by_cases h:s[k]=10
 .rw[show(10:Int)=(((10:UInt8).toNat:Nat):Int) from rfl,am6 h,am h];rfl
 .rw[show(10:Int)=(((10:UInt8).toNat:Nat):Int) from rfl,am5 h,ap h,ac];cases hsf:Ad s[k]with
  |false=>rfl
  |true=>
   simp only[ak,ac];by_cases h0:k=0
   .subst h0;rw[bM (b:=bJ ((0:Nat):Int) 0) (fU rfl),atv (by omega),bu,decide_eq_true rfl,Bool.true_and]
    grind
   simp_all [dX]
theorem KE {s:List UInt8} (d:s.length<=2000000): ∀(N k:Nat) (out:bQ),s.length-k<N->1<=k->k<=s.length->out.length<=3*k->
  zq N s (bD s) (k:Int) (cZ out)=a6 (.inl ((),((),cZ (out++rM (s.drop k)),())))
 |0,k,out,h,_,_,_=>by omega
 |N+1,k,out,h,g,hk,f=>by
  by_cases e:k<s.length
  .have i:=LP (decide (k=0)&&H7 s) s[k];rw[KF d N k out e f,KE d N (k+1) _ (by omega) (by omega) (by omega) (by grind),mf e,Nj,ax,decide_eq_false (by omega),Bool.false_and]
  ·(rewrite [zq,PM];delta yz BH;rw[dD (iG (by rw[bF];omega)),aB (by omega)])
   simp[rM]
theorem aoe {s:List UInt8} (d:s.length<=2000000):arB s=a6 (oW s,()):=by
 rw[arB];cases s with
 |nil=>rfl
 |cons c r=>
  have e:=KF (s:=c::r) d (bG-1) 0 [] (by simp) (by simp);rw[show bG-1+1=bG by unfold bG;omega]at e;have g:=LP (H7 (c::r)) c;rw[aJ]at d;have f:=KE (s:=c::r) (by assumption) (bG-1) 1 (pl1 (H7 (c::r)) c) (by grind [bG]) (af _) (by simp) (by omega);rw[dD (vH (by simp)),show zq bG (c::r) (bD (c::r)) 0 []=_ from e.trans f,bu];simp only[dL,gq,aa,Bg];rfl
end
section
open Bool renaming false_eq_true → ah
open List renaming append_assoc → ax, drop_zero → ay, drop_of_length_le → aB, length_cons → aJ, nil_append → aO
open Nat renaming le_refl → af
open Go.RowKit
def atx (c:UInt8):bQ:=if c=39 then [39,92,39,39]else [c]
def Jv (s:bQ):bQ:=s.flatMap atx
def db1 (c:UInt8):bQ:=if(bJ (c.toNat:Int) 36||(bJ (c.toNat:Int) 96||(bJ (c.toNat:Int) 34||bJ (c.toNat:Int) 92)))=true then [92,c]else [c]
def DX (s:bQ):bQ:=s.flatMap db1
theorem aon (new:bQ) (b:UInt8) (hb:b≠39) (l:bQ): ∀k,Lib.replaceK [39] new k (b::l)=b::Lib.replaceK [39] new k l
 |0=>rfl
 |k+1=>by
  have d:List.isPrefixOf [39] (b::l)=false:=by grind
  have e:Lib.index (b::l) [39]=if Lib.index l [39]== -1 then-1 else Lib.index l [39]+1:=by rw[Lib.index,d];rfl
  rw[Lib.replaceK,Lib.replaceK,e];have f:=Lib.index_ge l [39];by_cases h:Lib.index l [39]= -1
  .simp[h]
  .have g:(Lib.index l [39]== -1)=false:=by simpa using h
   have i:(Lib.index l [39]+1== -1)=false:=by simp;omega
   have j:(Lib.index l [39]+1).toNat=(Lib.index l [39]).toNat+1:=by omega
   simp_all
theorem akn (b:UInt8) (hb:b≠39) (l:bQ): ∀f,Lib.countFrom [39] f (b::l)=Lib.countFrom [39] f l
 |0=>rfl
 |f+1=>by
  have d:List.isPrefixOf [39] (b::l)=false:=by grind
  have e:Lib.index (b::l) [39]=if Lib.index l [39]== -1 then-1 else Lib.index l [39]+1:=by rw[Lib.index,d];rfl
  rw[Lib.countFrom,Lib.countFrom,e];have g:=Lib.index_ge l [39];by_cases h:Lib.index l [39]= -1
  .simp[h]
  .have i:(Lib.index l [39]== -1)=false:=by simpa using h
   have j:(Lib.index l [39]+1== -1)=false:=by simp;omega
   have m:(Lib.index l [39]+1).toNat=(Lib.index l [39]).toNat+1:=by omega
   simp_all
theorem adr (new:bQ): ∀(s:bQ) (f:Nat),s.length<f->Lib.replaceK [39] new (Lib.countFrom [39] f s) s=s.flatMap fun c=>if c=39 then new else [c]
 |[],f,h=>by
  obtain⟨f,rfl⟩: ∃g,f=g+1:=⟨f-1,by simp at h;omega⟩;rfl
 |c::s,f,h=>by
  rw[aJ]at h;by_cases hc:c=39
  .subst hc;obtain⟨f,rfl⟩: ∃g,f=g+1:=⟨f-1,by omega⟩;have d:Lib.index (39::s) [39]=0:=by rfl
   rw[Lib.countFrom,d];simp only[show((0:Int)== -1)=false from rfl,ah,if_false,Int.toNat_zero,Nat.zero_add,List.length_singleton,List.drop_succ_cons,ay];rw[Nat.add_comm 1,Lib.replaceK,d];simp only[show((0:Int)== -1)=false from rfl,ah,if_false,Int.toNat_zero,Nat.zero_add,List.length_singleton,List.drop_succ_cons,ay,List.take_zero,aO];rw[adr new s f (by omega),List.flatMap_cons,am rfl]
  .rw[akn c hc,aon new c hc,adr new s f (by omega),List.flatMap_cons,ap hc];rfl
theorem BC: ∀s:bQ,(Jv s).length<=4*s.length
 |[]=>af _
 |c::r=>by have:=BC r;grind [atx,Jv]
theorem Gs: ∀s:bQ,(DX s).length<=2*s.length
 |[]=>af _
 |c::r=>by have:=Gs r;grind [db1,DX]
theorem ao6 {s:List UInt8} (e:s.length<=2000000):arC s=some ([39]++Jv s,()):=by
 have f:=BC s;have g:Lib.replaceAll s [39] [39,92,39,39]=Jv s:=adr [39,92,39,39] s (s.length+1) (by omega);have d:SX s [39] [39,92,39,39]=some (Jv s,()):=by
  grind [SX]
 rw[arC,d,bu,bM (nV (by simp;omega))];rfl
theorem JS {s:List UInt8} (g:s.length<=2000000): ∀(N k:Nat) (out:bQ),s.length-k<N->k<=s.length->out.length<=2*k+1->
  EX N s (bD s) (k:Int) (cZ out)=some (.inl ((),((),cZ (out++DX (s.drop k)),())))
 |0,k,out,h,_,_=>by omega
 |N+1,k,out,h,hk,p=>by
  (rewrite [EX,XZ];delta yB yA)
  by_cases e:k<s.length
  .have i:fV s (k:Int)=true:=dV;have j:bZ .i64 (k:Int) 1=((k+1:Nat):Int):=by grind [dA]
   have l:[((s[k].toNat:Nat):Int)]=cZ [s[k]]:=rfl;have m:[(92:Int)]=cZ [92]:=rfl;have d: ∀x:bQ,x.length<=2->dN (cZ (out++x)) 1=true:=fun x o=>Ar (by grind);have f: ∀x:bQ,x.length<=2->EX N s (bD s) ((k+1:Nat):Int) (cZ (out++x))=some (.inl ((),((),cZ (out++x++DX (s.drop (k+1))),()))):=fun x o=>JS g N (k+1) _ (by omega) (by omega) (by grind);have hd:DX (s.drop k)=db1 s[k]++DX (s.drop (k+1)):=by rw[mf e];rfl
   rw[bM (eU (by rw[bF];omega)),hd];simp only[i,aa,byte_at e,j,l,m,o7,ax out [92],d _ (show([92]:bQ).length<=2 by decide),d _ (show([s[k]]:bQ).length<=2 by simp),d _ (show(([92]:bQ)++[s[k]]).length<=2 by simp),f _ (show([s[k]]:bQ).length<=2 by simp),f _ (show(([92]:bQ)++[s[k]]).length<=2 by simp)]
   grind [db1]
  simp_all [iG,bF,aB,DX]
theorem akp {s:List UInt8} (d:s.length<=2000000):arD s=some ([34]++DX s,()):=by
 rw[arD];refine(bM (show dN (bP ([]:List Int) [34]) 1=true by kernel_rfl)).trans ?_;rw[show EX bG s (bD s) 0 (bP [] [34])=_ from JS d bG 0 [34] (dK) (by omega) (by simp),bu];simp_all [dL,gq,Bg]
def nY (s:bQ) (k:Nat):bQ:=if k=4 then [39]++Jv s++[39]else if k=5 then [34]++DX s++[34]else oW s
theorem CG {s:List UInt8} (d:s.length<=2000000) (k:Nat):(nY s k).length<=8000002:=by
 have e:=BC s;have f:=Gs s;unfold nY;split
 .simp;omega
 .split
  .simp;omega
  .unfold oW;grind [Q4,LP]
theorem F8 {s:List UInt8} (d:s.length<=2000000) (k:Nat):arw s (k:Int) true=some (nY s k,()):=by
 have f:=BC s;have g:=Gs s;have e:=CG d k;rw[arw,aoe d,bu];unfold nY at e ⊢;by_cases h4:k=4
 .rw[bM (fU),ao6 d,bu,aa,bM (nV (by simp;omega)),am h4];rfl
 .rw[dD (dX),ap h4];rw[ap h4]at e;by_cases h5:k=5
  .rw[bM (fU),akp d,bu,aa,bM (nV (by simp;omega)),am h5];rfl
  .rw[ap h5]at e;rw[dD (dX),ap h5,aa,bM (nV (by simp;omega))];simp[bP]
def BB (s:bQ):bQ:=
 let a:=if(nY s 4).length<(oW s).length then nY s 4 else oW s
 if(nY s 5).length<a.length then nY s 5 else a
theorem SK (s:bQ):oW s≠[]:=by
 cases s with
 |nil=>simp[oW]
 |cons c r=>grind [oW,pl1]
theorem ame (s:bQ) (k:Nat):nY s k≠[]:=by
 grind [nY,SK]
theorem aaR {s:List UInt8} (d:s.length<=2000000):arp s=some (BB s,()):=by
 have e:=F8 d 0;have p:=F8 d 4;have q:=F8 d 5;have u:nY s 0=oW s:=rfl;have st: ∀(N:Nat) (b:bQ) (i k:Nat) (h:i<3),([0,4,5]:List Int)[i]'(by simpa using h)=(k:Int)->b≠[]->rG (N+1) s b 3 (i:Int) [0,4,5]=rG N s (if(nY s k).length<b.length then nY s k else b) 3 ((i+1:Nat):Int) [0,4,5]:=fun N b i k h hk f=>by
  rw[rG,PK,bM (eU),bM (dV (by omega) (by grind)),bM (mV (by simp[dh];omega))];have g:dB ([0,4,5]:List Int) 0 (dh (i:Int))=(k:Int):=by simp_all [dB,dh]
  rw[g,F8 d k,bu,bM (by rw[vH f];rfl),dA,show(i:Int)+1=((i+1:Nat):Int) by omega];simp only[bF];by_cases hl:(nY s k).length<b.length
  .simp_all [Eh]
  simp_all [nD,ap]
 have j:rG (bG-4+1+1+1+1) s [] 3 0 [0,4,5]=rG (bG-4+1+1+1) s (oW s) 3 ((1:Nat):Int) [0,4,5]:=by
  rw[rG,PK,bM (show gJ 0 3=true from rfl),bM (show fV ([0,4,5]:List Int) 0=true from rfl),bM (show lN (dh 0) ([0,4,5]:List Int)=true from rfl),show dB ([0,4,5]:List Int) 0 (dh 0)=((0:Nat):Int) from rfl,e,bu,dD (by rw[NF rfl];rfl)];rfl
 have l: ∀b:bQ,rG (bG-4+1) s b 3 ((3:Nat):Int) [0,4,5]=some (.inl ((b,()),())):=fun b=>by
  rfl
 have m:bG=bG-4+1+1+1+1:=by unfold bG;omega
 have o:rG bG s [] 3 0 [0,4,5]=some (.inl ((BB s,()),())):=by
  rw[m,j,st _ _ 1 4 (by omega) rfl (SK s),st _ _ 2 5 (by omega) rfl (by grind [ame]),l];rfl
 rw[arp,show rG bG s [] (bD [0,4,5]) 0 [0,4,5]=_ from o,bu];rfl
end
section
open Option renaming some → a6, none → a7
open Bool renaming and_eq_true → ae, not_false → aA
open List renaming append_assoc → ax, drop_zero → ay, drop_of_length_le → aB, all_cons → aP
open Go.RowKit
theorem PR {s:List UInt8} {k:Nat} (h:k<s.length):sub s (k:Int) ((k+1:Nat):Int)=[s[k]]:=by
 unfold sub
 grind [Int.toNat_natCast,List.take_add_one,List.length_take,List.drop_take]
theorem Ri {s:List UInt8} (g:s.length<=2000000) (b:Bool): ∀(N k:Nat) (out:bQ),s.length-k<N->k<=s.length->out.length<=4*k+1->
  EU N s b out (k:Int)=a6 (.inl ((b,out++Jv (s.drop k),()),()))
 |0,k,out,h,_,_=>by omega
 |N+1,k,out,h,hk,l=>by
  rw[EU,XF];by_cases e:k<s.length
  .have i:bZ .i64 (k:Int) 1=((k+1:Nat):Int):=by grind [dA]
   have d: ∀x:bQ,x.length<=4->fG out x=true:=fun x j=>nV;have f: ∀x:bQ,x.length<=4->EU N s b (bP out x) ((k+1:Nat):Int)=a6 (.inl ((b,bP out x++Jv (s.drop (k+1)),()),())):=fun x j=>Ri g b N (k+1) _ (by omega) (by omega) (by grind [bP]);have hd:Jv (s.drop k)=atx s[k]++Jv (s.drop (k+1)):=by rw[mf e];rfl
   rw[bM (eU (by rw[bF];omega)),bM (dV),hd,i,show eG (bD s) (k:Int) ((k+1:Nat):Int)=true from fH (by omega) (by omega) (by rw[bF];omega),byte_at e,PR e,d [39,92,39,39] (by decide),d [s[k]] (by simp),f [39,92,39,39] (by decide),f [s[k]] (by simp)];unfold atx bP;by_cases h:s[k]=39
   .rw[show(39:Int)=(((39:UInt8).toNat:Nat):Int) from rfl,am6 h,am h];simp
   .rw[show(39:Int)=(((39:UInt8).toNat:Nat):Int) from rfl,am5 h,ap h];simp
  simp_all [iG,bF,aB,Jv]
theorem NC {s:List UInt8} (f:s.length<=2000000) (b:Bool): ∀(N k:Nat) (out:bQ),s.length-k<N->k<=s.length->out.length<=2*k+1->
  zn N s b out (k:Int)=a6 (.inl ((b,out++DX (s.drop k),()),()))
 |0,k,out,h,_,_=>by omega
 |N+1,k,out,h,hk,j=>by
  rw[zn,MH];by_cases e:k<s.length
  .have g:bZ .i64 (k:Int) 1=((k+1:Nat):Int):=by grind [dA]
   have l: ∀d:bQ,d.length<=2*(k+1)+1->zn N s b d ((k+1:Nat):Int)=a6 (.inl ((b,d++DX (s.drop (k+1)),()),())):=fun d i=>NC f b N (k+1) _ (by omega) (by omega) i;have hd:DX (s.drop k)=db1 s[k]++DX (s.drop (k+1)):=by rw[mf e];rfl
   rw[bM (eU (by rw[bF];omega)),bM (dV),hd,g,show eG (bD s) (k:Int) ((k+1:Nat):Int)=true from fH (by omega) (by omega) (by rw[bF];omega),byte_at e,PR e,(Xr s[k]).2.2,bu]
   grind [nV,bP,db1]
  simp_all [iG,bF,aB,DX]
theorem EM {s:List UInt8} (g:s.length<=2000000): ∀(N k:Nat) (out:bQ),s.length-k<N->k<=s.length->out.length<=3*k+1->
  oN N s out (k:Int)=a6 (.inl ((out++rM (s.drop k),()),()))
 |0,k,out,h,_,_=>by omega
 |N+1,k,out,h,hk,l=>by
  rw[oN,MI];by_cases e:k<s.length
  .have i:bZ .i64 (k:Int) 1=((k+1:Nat):Int):=by grind [dA]
   have f: ∀d:bQ,d.length<=3*(k+1)+1->oN N s d ((k+1:Nat):Int)=a6 (.inl ((d++rM (s.drop (k+1)),()),())):=fun d j=>EM g N (k+1) _ (by omega) (by omega) j;have hd:rM (s.drop k)=pl1 false s[k]++rM (s.drop (k+1)):=by rw[mf e];rfl
   rw[bM (eU (by rw[bF];omega)),bM (dV),bM (dV),hd,i,show eG (bD s) (k:Int) ((k+1:Nat):Int)=true from fH (by omega) (by omega) (by rw[bF];omega),byte_at e,PR e,(Xr s[k]).2.1,bu];rw[show fG out [39,10,39]=true from nV (by simp;omega),show fG out [92]=true from nV (by simp;omega),show fG (bP out [92]) [s[k]]=true from nV (by simp[bP];omega),show fG out [s[k]]=true from nV (by simp;omega),f _ (by simp[bP];omega),f _ (by simp[bP];omega),f _ (by simp[bP];omega)];unfold pl1 bP;by_cases h:s[k]=10
   .rw[show(10:Int)=(((10:UInt8).toNat:Nat):Int) from rfl,am6 h,am h];simp
   .rw[show(10:Int)=(((10:UInt8).toNat:Nat):Int) from rfl,am5 h,ap h]
    grind
  simp_all [iG,bF,aB,rM]
theorem headD {s:List UInt8} (e:s≠[]):oW s=(if(s.all KY||Pg s)=true/\ ¬(s.length=1/\KY (s.headD 0)=false)then [92]else [])++rM s:=by
 cases s with
 |nil=>exact absurd rfl e
 |cons c r=>
  show pl1 (H7 (c::r)) c++rM r=_++(pl1 false c++rM r);rw[<-ax];congr 1;unfold H7;rw[List.isEmpty_cons,aA,Bool.true_and];by_cases d:Pg (c::r)=true
  .rcases Va (x:=c::r) d with h|h|h|h|h|h|h|h|h|h|h|h|h|h|h|h<;>(rw[List.cons.injEq]at h;obtain⟨rfl,rfl⟩:=h;decide+kernel)
  .have d:Pg (c::r)=false:=by simpa using d
   rw[d,Bool.false_or,Bool.or_false];cases ha:(c::r).all KY with
   |false=>simp
   |true=>
    rw[aP,ae]at ha;have f:KY c=true->Ad c=true/\c≠10:=by
     have: ∀n:Fin 256,KY (UInt8.ofNat n.val)=true->Ad (UInt8.ofNat n.val)=true/\UInt8.ofNat n.val≠10:=by decide+kernel
     have h:=this ⟨c.toNat,c.toNat_lt⟩;simpa using h
    obtain⟨g,i⟩:=f ha.1;unfold pl1;simp_all
def auG (s:bQ) (k:Nat) (w:Bool):bQ:=if k=4 then [39]++Jv s++(if w=true then [39]else [])else if k=5 then [34]++DX s++(if w=true then [34]else [])else oW s
theorem ajx {s:List UInt8} (d:s.length<=2000000) (k:Nat) (w:Bool):abr s (k:Int) w=a6 (auG s k w,()):=by
 have o:=BC s;have p:=Gs s
 (rewrite [abr];delta abt)
 unfold auG;by_cases h4:k=4
 .rw[bM (fU),show EU bG s w [39] 0=_ from Ri d w bG 0 [39] (dK) (by omega) (by simp),bu,am h4];simp only[dL,ay];cases w with
  |true=>rw[aa,show fG ([39]++Jv s) [39]=true from nV (by simp;omega)];rfl
  |false=>rw[ac,ap (by simp),List.append_nil]
 .rw[dD (dX),ap h4];by_cases h5:k=5
  .rw[bM (fU),show zn bG s w [34] 0=_ from NC d w bG 0 [34] (dK) (by omega) (by simp),bu,am h5];simp only[dL,ay];cases w with
   |true=>rw[aa,show fG ([34]++DX s) [34]=true from nV (by simp;omega)];rfl
   |false=>rw[ac,ap (by simp),List.append_nil]
  .rw[dD (dX),ap h5];by_cases h0:s=[]
   .subst h0;rfl
   .have e:oN bG s [] 0=a6 (.inl ((rM s,()),())):=by
     have:=EM d bG 0 [] (dK) (by omega) (by simp)
     assumption
    have f:oN bG s [92] 0=a6 (.inl (([92]++rM s,()),())):=by
     have:=EM d bG 0 [92] (dK) (by omega) (by simp)
     assumption
    have g:0<s.length:=List.length_pos_iff.2 h0;obtain⟨_,_,x,h,_,j⟩:=ny s[0];have l:bK s 0=((s[0].toNat:Nat):Int):=byte_at (i:=0) g;have m:s.headD 0=s[0]:=by cases s with
     |nil=>exact absurd rfl h0
     |cons c r=>rfl
    rw[dD (vH h0),azV (by omega),bu,aaP d,bu,headD h0,m,l,bM (dV),h,bu,e,f,j];simp only[bu,dL];have q:bJ (bD s) 1=decide (s.length=1):=by
     grind [fU,bF,dX]
    grind
theorem Yp {s:List UInt8} (d:s.length<=2000000) (k:Nat):abr s (k:Int) true=a6 (nY s k,()):=by
 rw[ajx d k true];rfl
theorem aaS {s:List UInt8} (d:s.length<=2000000):arl s=a6 (BB s,()):=by
 have st: ∀(N:Nat) (b:bQ) (k:Nat),k<=5->zl (N+1) s b (k:Int)=zl N s (if(nY s k).length<b.length then nY s k else b) ((k+1:Nat):Int):=fun N b k h=>by
  rw[zl,Xx,bM (nD),Yp d k,bu,dA,show(k:Int)+1=((k+1:Nat):Int) by omega];simp only[bF];by_cases hl:(nY s k).length<b.length
  .simp_all [eU]
  simp_all [gX,ap]
 have e: ∀b:bQ,zl (bG-3+1) s b ((6:Nat):Int)=a6 (.inl ((b,()),())):=fun b=>by
  rfl
 have f:bG=bG-3+1+1+1:=by unfold bG;omega
 have g:zl bG s (oW s) ((4:Nat):Int)=a6 (.inl ((BB s,()),())):=by
  rw[f,st _ _ 4 (by omega),st _ _ 5 (by omega),e];rfl
 rw[arl,show abr s 0 true=_ from Yp d 0,bu,show zl bG s (nY s 0) 4=_ from g,bu];rfl
end
section
open Option renaming some → a6, none → a7
open Tryz
open Go.RowKit
noncomputable def b54:Code:=(f54.body).getD .skip
noncomputable def auh:Code:=cA (cA (cB (cA (cB (cB (cA (cB (b54))))))))
def auW:dZ:=⟨[0,7,8,100004],[],[],[],[2],[]⟩
def afI:SP:=⟨us [bB,.u,.u,.u,.u,.u,.u,bE,bE] 13,[]⟩
def acH:SP:=⟨us [] 22,[]⟩
def ac7:SP:=⟨us eo 19,[]⟩
def XX {f:Type} (i:bQ->Int->Int->Option f) (j:Option f) (g:Bool->Option f) (e:bQ) (h d:Int):Option f:=cond (gJ d h) (cond (fV e d) (bz (Y0 (bK e d)) fun l=>cond l.1 (cond (fV e d) (cond (!(bJ (bK e d) 47)) (i e h (bZ .i64 d 1))<|g false) a7)<|g false) a7) j
def I8:Nat->bQ->Int->Int->Option (acH.den⊕ac7.den)
 |0,_,_,_=>a7
 |n+1,d,e,f=>XX (I8 n) (a6 (.inl ((),()))) (fun g=>a6 (.inr ((g,()),()))) d e f
def axP (n:Nat) (v:afI.den):=ba (I8 n) v
noncomputable def anC:dm:=eP auW afI acH ac7 (.exit 0) (axP bG) 6
def al6 (d:bQ):Option nH:=cond (eX d []) (a6 (false,()))<|bz (I8 bG d (bD d) 0) fun e=>dL e (fun g=>a6 (true,())) (fun f=>a6 (f.1.1,()))
def aCj:Sum:=⟨[.str],Ip,fun x=>al6 x.1⟩
noncomputable def ak7:Env:=iE prog tt 54 [(80,aqm)] [(4,auW)] [(4,anC)]
def aoK {d:Type} (a:afI.den->Option d) (b:acH.den->Option d) (c:ac7.den->Option d) (v:afI.den):Option d:=ba (XX (aR a) (b ((),())) (ar c)) v
theorem ayq:dJ ak7 54 auh anC:=rH (aoK) (h2:=by intros;simp only[aoK,aR,ar,ba,XX,bV,bW,bu,bT,bY])
theorem aBx:dI ak7 54 b54:=nG [auh] (aD (fM (ayq)) aN)
theorem ak8:eF ak7:=eA f54 (aD aav aN) (aBx)
theorem ap9:dE prog 54 aCj:=sA ak8
def alZ (d:Int) (f:bQ):Option nH:=cond (bJ d 2) (cond (bJ d 2) (bz (al6 f) fun e=>a6 (e.1,()))<|some (false,()))<|cond (bJ d 4) (bz (al6 f) fun e=>a6 (e.1,()))<|some (false,())
def art (d:Int) (e:bQ):Option nH:=cond (bJ d 1) (cond (bJ d 1) (bz (al5 e) fun f=>a6 (f.1,()))<|alZ d e)<|cond (bJ d 3) (bz (al5 e) fun f=>a6 (f.1,()))<|alZ d e
def aCe:Sum:=⟨[dw,.str],Ip,fun x=>art x.1 x.2.1⟩
theorem apQ:dE prog 25 aCe:=qA f25 [] (sE PT (sE ap9 aN))
def aAV (d e:bQ):Option BR:=a6 ((ag8 d e),())
def aCu:Sum:=⟨[.str,.str],Ql,fun x=>aAV x.1 x.2.1⟩
theorem aqn:dE prog 81 aCu:=qA f81 [] (sE (TC func126 (by kernel_rfl) (by kernel_rfl) (by kernel_rfl) (by kernel_rfl)) aN)
def arA (d e:bQ):Option BR:=bz (aAV d e) fun f=>a6 (f.1,())
def avM:Sum:=⟨[.str,.str],Ql,fun x=>arA x.1 x.2.1⟩
theorem aqa:dE prog 57 avM:=qA f57 [] (sE aqn aN)
noncomputable def aaW:Code:=(f55.body).getD .skip
noncomputable def Yz:Code:=cA (cA (cA (cB (cB (cB (aaW))))))
def Zj:dZ:=⟨[0,1,2,8,9,10,56000003],[],[0,1,2,8,9],[],[6,7],[]⟩
def aib:dZ:=⟨[0,1,2,8,9,10,11],[],[],[],[],[]⟩
def aic:dZ:=⟨[0,1,2,8,9],[],[],[],[],[]⟩
def Ht:SQ:=⟨us [.slc 1,bB,.fn 56 [],.u,.u,.u,.u,.u,bE,bE,bE] 38,[cw,bL],[.box 0 60 [bE,.slc 1],.arr 1 tyG]⟩
def Jk:SQ:=⟨us [.slc 1,bB,.fn 56 [],.u,.u,.u,.u,.u,bE,bE] 39,[cw,bL],[.box 0 60 [bE,.slc 1],.arr 1 tyG]⟩
def Jm:SQ:=⟨us [] 49,[cw,bL],[]⟩
def oq (d e:Int):=aqH .i64 (adu .u64 (aqH .u64 (bZ .i64 d e)) 1)
def DD {g:Type} (o:bQ->Int->Int->Int->bQ->bQ->Int->(List lF)->Option g) (p:bQ->Int->Int->bQ->bQ->Int->(List lF)->Option g) (s:bQ->bQ->Option g) (h:bQ) (i d e:Int) (j l:bQ) (m:Int) (f:List lF):Option g:=cond (gJ d e) (cond (leI 0 1) (cond (fV f (oq d e)) (cond (lN (dh (oq d e)) f) (bz (arA (dB f ([],([],())) (dh (oq d e))).1 h) fun q=>cond (gJ q.1 0) (o h i (bZ .i64 (oq d e) 1) e j l m f)<|o h i d (oq d e) j l m f) a7) a7) a7)<|p h i d j l m f
def tX:Nat->bQ->Int->Int->Int->bQ->bQ->Int->(List lF)->Option (Jk.den⊕Jm.den)
 |0,_,_,_,_,_,_,_,_=>a7
 |n+1,d,e,f,g,h,i,j,l=>DD (tX n) (fun m o p q s u v=>a6 (.inl ((m,o,p,()),((q,s,()),(),()),((u,()),v,())))) (fun x y=>a6 (.inr ((),((x,y,()),(),()),()))) d e f g h i j l
def aip (n:Nat) (v:Ht.den):=tX n v.1.1 v.1.2.1 v.1.2.2.1 v.1.2.2.2.1 v.2.1.1.1 v.2.1.1.2.1 v.2.2.1.1 v.2.2.2.1
noncomputable def Si:dm:=fQ Zj Ht Jk Jm (.exit 0) (aip bG) 6
def al0 (g:Int) (e:List lF) (f:bQ):Option ((Int×(List lF)×Unit)×(Int×Bool×Unit)):=bz (tX bG f (bD e) 0 (bD e) f f g e) fun h=>dL h (fun d=>cond (gJ d.1.2.2.1 d.1.2.1) (cond (fV d.2.2.2.1 d.1.2.2.1) (cond (lN (dh d.1.2.2.1) d.2.2.2.1) (bz (arA (dB d.2.2.2.1 ([],([],())) (dh d.1.2.2.1)).1 d.1.1) fun i=>a6 ((d.2.2.1.1,(d.2.2.2.1,())),(d.1.2.2.1,((bJ i.1 0),())))) a7) a7)<|some ((d.2.2.1.1,(d.2.2.2.1,())),(d.1.2.2.1,(false,())))) (fun j=>a7)
def aCf:fP:=⟨60,tzG,[.str],[dw,.bool],fun x y=>al0 x.1 x.2.1 y.1⟩
noncomputable def akH:Env:=gB prog tt [(57,avM)] [(55,3,Zj),(26,600001,mr),(55,600005,aib),(55,600008,aic)] [(55,3,Si)] []
def Tc {d:Type} (a:Ht.den->Option d) (b:Jk.den->Option d) (c:Jm.den->Option d) (v:Ht.den):Option d:=DD (fun e f g h i j l m=>a ((e,f,g,h,()),((i,j,()),(),()),((l,()),m,()))) (fun o p q s u x y=>b ((o,p,q,()),((s,u,()),(),()),((x,()),y,()))) (fun z A=>c ((),((z,A,()),(),()),())) v.1.1 v.1.2.1 v.1.2.2.1 v.1.2.2.2.1 v.2.1.1.1 v.2.1.1.2.1 v.2.2.1.1 v.2.2.2.1
theorem aiv:dJ akH 55 Yz Si:=nU (Tc) (h2:=by intros;simp only[Tc,DD,bV,bW,bu,bT,bY,oq])
theorem am8:dI akH 55 aaW:=nG [Yz] (aD (fM (aiv)) aN)
theorem akI:eF akH:=eB (aD aqa aN) [55] (aD ⟨f55,aaW,by kernel_rfl,by kernel_rfl,am8⟩ aN)
theorem aan:dM prog 26 aCf:=sB akI
def arn (e:Int) (f:List lF) (g h:bQ):Option ((Int×(List lF)×Unit)×BR):=bz (art e g) fun i=>cond (!i.1) (a6 ((e,(f,())),(5,())))<|cond (gJ 65536 (bD h)) (a6 ((e,(f,())),(2,())))<|bz (al0 e f g) fun d=>cond d.2.2.1 (cond (fV d.1.2.1 d.2.1) (cond (lN (dh d.2.1) d.1.2.1) (a6 ((d.1.1,((ig d.1.2.1 (dh d.2.1) ((dB d.1.2.1 ([],([],())) (dh d.2.1)).1,(h,()))),())),(0,()))) a7) a7)<|cond (leI 10000 (bD d.1.2.1)) (a6 ((d.1.1,(d.1.2.1,())),(12,())))<|cond ((leI 0 d.2.1)&&((leI d.2.1 (bD d.1.2.1))&&(dN d.1.2.1 64))) (a6 ((d.1.1,((ah4 d.1.2.1 (dh d.2.1) [(g,(h,()))]),())),(0,()))) a7
def apt:fP:=⟨60,tzG,[.str,.str],[dw],fun x y=>arn x.1 x.2.1 y.1 y.2.1⟩
theorem aam:dM prog 16 apt:=qB [] (sE apQ aN) (sF aan aN)
def arv (e:Int) (f:List lF) (g:bQ):Option taT:=bz (al0 e f g) fun d=>cond (!d.2.2.1) (a6 ((d.1.1,(d.1.2.1,())),([],(false,()))))<|cond (fV d.1.2.1 d.2.1) (cond (lN (dh d.2.1) d.1.2.1) (a6 ((d.1.1,(d.1.2.1,())),((dB d.1.2.1 ([],([],())) (dh d.2.1)).2.1,(true,())))) a7) a7
def aCg:fP:=⟨60,tzG,[.str],[.str,.bool],fun x y=>arv x.1 x.2.1 y.1⟩
theorem apS:dM prog 29 aCg:=qB [] aN (sF aan aN)
def ahP (e:Int) (f:List lF) (g:bQ):Option taT:=bz (arv e f g) fun d=>a6 ((d.1.1,(d.1.2.1,())),(d.2.1,(d.2.2.1,())))
def apB:fP:=⟨60,tzG,[.str],[.str,.bool],fun x y=>ahP x.1 x.2.1 y.1⟩
theorem PS:dM prog 18 apB:=qB [] aN (sF apS aN)
def arq (e:bQ):Option QR:=bz (ahQ e 0 (0,([],(false,())))) fun d=>cond (!(bJ d.1.1 6)) (a6 ([],()))<|bz (ahR e (d.1.1,(d.1.2.1,(d.1.2.2.1,(d.1.2.2.2.1,()))))) fun f=>a6 (f.1,())
def avs:Sum:=⟨[.str],Yo,fun x=>arq x.1⟩
theorem apJ:dE prog 21 avs:=qA f21 [] (sE aaq (sE aar aN))
def fn9 (g:Int) (h:List lF) (e:bQ):Option taT:=bz (ahP g h e) fun d=>cond (!d.2.2.1) (a6 ((d.1.1,(d.1.2.1,())),([],(false,()))))<|cond (fG [97,108,105,97,115,32] e) (cond (fG (bP [97,108,105,97,115,32] e) [61]) (bz (arp d.2.1) fun f=>cond (fG (bP (bP [97,108,105,97,115,32] e) [61]) f.1) (a6 ((d.1.1,(d.1.2.1,())),((bP (bP (bP [97,108,105,97,115,32] e) [61]) f.1),(true,())))) a7) a7) a7
def aCw:fP:=⟨60,tzG,[.str],[.str,.bool],fun x y=>fn9 x.1 x.2.1 y.1⟩
theorem atD:dM prog 9 aCw:=qB [] (sE apE aN) (sF PS aN)
noncomputable def b38:Code:=(f38.body).getD .skip
noncomputable def at6:Code:=cA (cA (cB (cA (cB (b38)))))
def auP:dZ:=⟨[0,1,7,8,100002],[],[],[],[4],[]⟩
def afz:SP:=⟨us [da,bB,.u,.u,.u,.u,.u,bE,bE] 10,[]⟩
def acB:SP:=⟨us [] 19,[]⟩
def ac1:SP:=⟨us cI 14,[]⟩
def XP {e:Type} (i:(List bQ)->bQ->Int->Int->Option e) (j:Option e) (l:Int->Option e) (f:List bQ) (g:bQ) (h d:Int):Option e:=cond (gJ d h) (cond (fV f d) (cond (eX g (gu f [] d)) (l d)<|i f g h (bZ .i64 d 1)) a7) j
def AZ:Nat->(List bQ)->bQ->Int->Int->Option (acB.den⊕ac1.den)
 |0,_,_,_,_=>a7
 |n+1,d,e,f,g=>XP (AZ n) (a6 (.inl ((),()))) (fun h=>a6 (.inr ((h,()),()))) d e f g
def axG (n:Nat) (v:afz.den):=aM (AZ n) v
noncomputable def anr:dm:=eP auP afz acB ac1 (.exit 0) (axG bG) 6
def awO (d:List bQ) (e:bQ):Option BR:=bz (AZ bG d e (bD d) 0) fun f=>dL f (fun h=>a6 ((-1),())) (fun g=>a6 (g.1.1,()))
def aCh:Sum:=⟨[.list .str,.str],Ql,fun x=>awO x.1 x.2.1⟩
noncomputable def akR:Env:=iE prog tt 38 [] [(2,auP)] [(2,anr)]
def aoB {d:Type} (a:afz.den->Option d) (b:acB.den->Option d) (c:ac1.den->Option d) (v:afz.den):Option d:=aM (XP (aL a) (b ((),())) (ar c)) v
theorem ayh:dJ akR 38 at6 anr:=rH (aoB) (h2:=by intros;simp only[aoB,aL,ar,aM,XP,bV,bW,bu,bT,bY])
theorem aBo:dI akR 38 b38:=nG [at6] (aD (fM (ayh)) aN)
theorem akS:eF akR:=eA f38 aN (aBo)
theorem apY:dE prog 38 aCh:=sA akS
def ars (d:List bQ) (e:bQ):Option nH:=bz (awO d e) fun f=>a6 ((leI 0 f.1),())
def avt:Sum:=⟨[.list .str,.str],Ip,fun x=>ars x.1 x.2.1⟩
theorem apM:dE prog 22 avt:=qA f22 [] (sE apY aN)
noncomputable def b8:Code:=(f8.body).getD .skip
noncomputable def aAf:Code:=cA (cA (cB (cA (cB (b8)))))
def aA4:dZ:=⟨[0,1,6,100002],[],[],[],[4,5],[]⟩
def atj:SP:=⟨us [ez,bB,.u,.u,.u,.u,bE] 18,[]⟩
def an7:SP:=⟨us [] 25,[]⟩
def aob:SP:=⟨us [.u,.u,.u,.u,bB,bE] 19,[]⟩
def agI {f:Type} (h:(List lF)->bQ->Int->Option f) (i:Option f) (j:bQ->Int->Option f) (d:List lF) (g:bQ) (e:Int):Option f:=cond (gJ e (bD d)) (cond (fV d e) (cond (eX (gu d ([],([],())) e).1 g) (cond (fV d e) (j (gu d ([],([],())) e).2.1 1) a7)<|h d g (bZ .i64 e 1)) a7) i
def Kq:Nat->(List lF)->bQ->Int->Option (an7.den⊕aob.den)
 |0,_,_,_=>a7
 |n+1,d,e,f=>agI (Kq n) (a6 (.inl ((),()))) (fun g h=>a6 (.inr ((g,h,()),()))) d e f
def aBO (n:Nat) (v:atj.den):=ba (Kq n) v
noncomputable def au8:dm:=eP aA4 atj an7 aob (.exit 0) (aBO bG) 6
def fn8 (e:List lF) (f:bQ):Option (bQ×Int×Unit):=bz (Kq bG e f 0) fun g=>dL g (fun h=>a6 ([],(0,()))) (fun d=>a6 (d.1.1,(d.1.2.1,())))
def atC:Sum:=⟨[JL,.str],[(.str,false),(.int .i64,false)],fun x=>fn8 x.1 x.2.1⟩
noncomputable def awH:Env:=iE prog tt 8 [] [(2,aA4)] [(2,au8)]
def avf {d:Type} (a:atj.den->Option d) (b:an7.den->Option d) (c:aob.den->Option d) (v:atj.den):Option d:=ba (agI (aR a) (b ((),())) (aE c)) v
theorem aBT:dJ awH 8 aAf au8:=rH (avf) (h2:=by intros;simp only[avf,aR,aE,ba,agI,bV,bW,bu,bT,bY])
theorem aDK:dI awH 8 b8:=nG [aAf] (aD (fM (aBT)) aN)
theorem aq8:eF awH:=eA f8 aN (aDK)
theorem Yh:dE prog 8 atC:=sA aq8
noncomputable def b28:Code:=(f28.body).getD .skip
noncomputable def atX:Code:=cA (cA (cB (cA (cB (cB (cB (b28)))))))
def auN:dZ:=⟨[1,5,100006],[],[],[],[4],[]⟩
def afv:SP:=⟨us [.u,bB,.u,.u,.u,bE] 35,[]⟩
def acx:SP:=⟨us [] 41,[]⟩
def acX:SP:=⟨us db 36,[]⟩
def XL {f:Type} (h:bQ->Int->Option f) (i:Option f) (g:Bool->Option f) (d:bQ) (e:Int):Option f:=cond (gJ e (bD d)) (cond (fV d e) (bz (al2 (bK d e)) fun j=>cond (!j.1) (g false)<|cond (fV d e) (cond (bJ (bK d e) 47) (g false)<|h d (bZ .i64 e 1)) a7) a7) i
def EW:Nat->bQ->Int->Option (acx.den⊕acX.den)
 |0,_,_=>a7
 |n+1,d,e=>XL (EW n) (a6 (.inl ((),()))) (fun f=>a6 (.inr ((f,()),()))) d e
def axC (n:Nat) (v:afv.den):=EW n v.1.1 v.1.2.1
noncomputable def ann:dm:=eP auN afv acx acX (.exit 0) (axC bG) 6
def aru (f:Int) (e:bQ):Option nH:=cond (bJ f 1) (bz (ahT e) fun d=>a6 (d.1,()))<|cond (bJ f 3) (bz (ahT e) fun d=>a6 (d.1,()))<|cond (!(bJ f 2)) (cond (!(bJ f 4)) (a6 (false,()))<|cond (eX e []) (a6 (false,()))<|bz (EW bG e 0) fun d=>dL d (fun h=>a6 (true,())) (fun g=>a6 (g.1.1,())))<|cond (eX e []) (a6 (false,()))<|bz (EW bG e 0) fun d=>dL d (fun h=>a6 (true,())) (fun g=>a6 (g.1.1,()))
def avv:Sum:=⟨[dw,.str],Ip,fun x=>aru x.1 x.2.1⟩
noncomputable def akJ:Env:=iE prog tt 28 [(35,apX),(60,aqb)] [(6,auN)] [(6,ann)]
def aox {d:Type} (a:afv.den->Option d) (b:acx.den->Option d) (c:acX.den->Option d) (v:afv.den):Option d:=XL (aE a) (b ((),())) (ar c) v.1.1 v.1.2.1
theorem ayd:dJ akJ 28 atX ann:=rH (aox) (h2:=by intros;simp only[aox,aE,ar,XL,bV,bW,bu,bT,bY])
theorem aBk:dI akJ 28 b28:=nG [atX] (aD (fM (ayd)) aN)
theorem akK:eF akJ:=eA f28 (aD aap (aD aat aN)) (aBk)
theorem apR:dE prog 28 avv:=sA akK
noncomputable def b17:Code:=(f17.body).getD .skip
noncomputable def aj1:Code:=cA (cA (cB (cA (cB (cB (cB (cB (cB (cB (b17))))))))))
def amL:dZ:=⟨[1,2,3,12,13,14,100011],[(12,tyG)],[2,3,12,13],[],[8,9],[(8,tyG)]⟩
def VC:SP:=⟨us [.u,ez,bB,bB,.u,.u,.u,.u,.u,.u,.u,.u,.slc 1800012,bX,bE] 69,[.arr 1800012 tyG]⟩
def V8:SP:=⟨us [.u,.u,bB,bB,.u,.u,.u,.u,.u,.u,.u,.u,.slc 1800012,bX] 70,[.arr 1800012 tyG]⟩
def WR:SP:=⟨us [.u,.u,.u,.u,.u,.u,.u,.u,ez,bE] 74,[]⟩
def Jw {h:Type} (d:List lF) (e:Int) (f:bQ) (g:List lF) (i:(List lF)->bQ->bQ->Bool->Int->(List lF)->Option h) (j:bQ) (l:Bool):Option h:=cond (fV d e) (cond (!(eX (gu d ([],([],())) e).1 f)) (cond (fV d e) (cond (dN (bP g [(gu d ([],([],())) e)]) 32) (i d f j l (bZ .i64 e 1) (bP g [(gu d ([],([],())) e)])) a7) a7)<|i d f j l (bZ .i64 e 1) g) a7
def Ig {i:Type} (j:(List lF)->bQ->bQ->Bool->Int->(List lF)->Option i) (m:bQ->bQ->Bool->(List lF)->Option i) (o:(List lF)->Int->Option i) (d:List lF) (f g:bQ) (l:Bool) (e:Int) (h:List lF):Option i:=cond (gJ e (bD d)) (cond (!l) (cond (fV d e) (cond (!(Ag (gu d ([],([],())) e).1 f)) (cond (dN (bP h [(f,(g,()))]) 32) (cond (fV d e) (cond (!(eX (gu d ([],([],())) e).1 f)) (cond (fV d e) (cond (dN (bP (bP h [(f,(g,()))]) [(gu d ([],([],())) e)]) 32) (j d f g true (bZ .i64 e 1) (bP (bP h [(f,(g,()))]) [(gu d ([],([],())) e)])) a7) a7)<|j d f g true (bZ .i64 e 1) (bP h [(f,(g,()))])) a7) a7)<|Jw d e f h j g l) a7)<|Jw d e f h j g l)<|m f g l h
def qo:Nat->(List lF)->bQ->bQ->Bool->Int->(List lF)->Option (V8.den⊕WR.den)
 |0,_,_,_,_,_,_=>a7
 |n+1,d,e,f,g,h,i=>Ig (qo n) (fun j l m o=>a6 (.inl ((j,l,m,()),(o,())))) (fun p q=>a6 (.inr ((p,q,()),()))) d e f g h i
def asn (n:Nat) (v:VC.den):=bs (qo n) v
noncomputable def ae5:dm:=eP amL VC V8 WR (.exit 0) (asn bG) 6
def alW (f:List lF) (g h:bQ):Option ((List lF)×Int×Unit):=bz (qo bG f g h false 0 []) fun i=>dL i (fun d=>cond (!d.1.2.2.1) (cond (dN (bP d.2.1 [(d.1.1,(d.1.2.1,()))]) 32) (a6 ((bP d.2.1 [(d.1.1,(d.1.2.1,()))]),(0,()))) a7)<|some (d.2.1,(0,()))) (fun e=>a6 (e.1.1,(e.1.2.1,())))
def aro (g:Int) (d:List lF) (e f:bQ):Option ((List lF)×Int×Unit):=bz (aru g e) fun h=>cond (!h.1) (a6 (d,(5,())))<|cond (gJ 65536 (bD f)) (a6 (d,(2,())))<|bz (fn8 d e) fun i=>cond (bJ i.2.1 0) (cond (leI 10000 (bD d)) (a6 (d,(12,())))<|alW d e f)<|alW d e f
def avq:Sum:=⟨[dw,JL,.str,.str],[(.list tyG,false),(.int .i64,false)],fun x=>aro x.1 x.2.1 x.2.2.1 x.2.2.2.1⟩
noncomputable def akB:Env:=iE prog tt 17 [(8,atC),(28,avv)] [(11,amL)] [(11,ae5)]
def agk {d:Type} (a:VC.den->Option d) (b:V8.den->Option d) (c:WR.den->Option d) (v:VC.den):Option d:=bs (Ig (fun e f g h i j=>a ((e,f,g,h,i,()),(j,()))) (fun l m o p=>b ((l,m,o,()),(p,()))) (aE c)) v
theorem as1:dJ akB 17 aj1 ae5:=rH (agk) (h2:=by intros;simp only[agk,aE,bs,Ig,bV,bW,bu,bT,bY,Jw])
theorem aBg:dI akB 17 b17:=nG [aj1] (aD (fM (as1)) aN)
theorem akC:eF akB:=eA f17 (aD Yh (aD apR aN)) (aBg)
theorem apA:dE prog 17 avq:=sA akC
noncomputable def b7:Code:=(f7.body).getD .skip
noncomputable def aAe:Code:=cA (cA (cB (cA (cB (cB (b7))))))
def aA3:dZ:=⟨[0,1,5,6,100003],[(5,.pair .unit tyG)],[5],[],[4],[(4,tyG)]⟩
def ati:SP:=⟨us [bE,ez,.u,.u,.u,ez,bE] 23,[]⟩
def an6:SP:=⟨us [.u,.u,.u,.u,.u,ez] 24,[]⟩
def aoa:SP:=⟨us [.u,.u,.u,.u,ez] 25,[]⟩
def agH {f:Type} (i:Int->(List lF)->(List lF)->Int->Option f) (j m:(List lF)->Option f) (g:Int) (d h:List lF) (e:Int):Option f:=cond (gJ e (bD d)) (cond (fV d e) (cond (fV d e) (bz (aro g h (gu d ([],([],())) e).1 (gu d ([],([],())) e).2.1) fun l=>i g d l.1 (bZ .i64 e 1)) a7) a7)<|j h
def RZ:Nat->Int->(List lF)->(List lF)->Int->Option (an6.den⊕aoa.den)
 |0,_,_,_,_=>a7
 |n+1,d,e,f,g=>agH (RZ n) (fun h=>a6 (.inl ((h,()),()))) (fun i=>a6 (.inr ((i,()),()))) d e f g
def aBN (n:Nat) (v:ati.den):=aM (RZ n) v
noncomputable def au7:dm:=eP aA3 ati an6 aoa (.exit 0) (aBN bG) 6
def fn7 (d:Int) (e:List lF):Option ((List lF)×Unit):=bz (RZ bG d e [] 0) fun f=>dL f (fun g=>a6 (g.1.1,())) (fun h=>a6 (h.1.1,()))
def aCq:Sum:=⟨[dw,JL],[(.list tyG,false)],fun x=>fn7 x.1 x.2.1⟩
noncomputable def awG:Env:=iE prog tt 7 [(17,avq)] [(3,aA3)] [(3,au7)]
def ave {d:Type} (a:ati.den->Option d) (b:an6.den->Option d) (c:aoa.den->Option d) (v:ati.den):Option d:=aM (agH (aL a) (ar b) (ar c)) v
theorem aBS:dJ awG 7 aAe au7:=rH (ave) (h2:=by intros;simp only[ave,aL,ar,aM,agH,bV,bW,bu,bT,bY])
theorem aDJ:dI awG 7 b7:=nG [aAe] (aD (fM (aBS)) aN)
theorem aq7:eF awG:=eA f7 (aD apA aN) (aDJ)
theorem atB:dE prog 7 aCq:=sA aq7
noncomputable def b13:Code:=(f13.body).getD .skip
noncomputable def ajV:Code:=cA (cA (cB (cA (cB (cB (cB (cB (cB (cB (cA (cA (cA (cB (cB (b13)))))))))))))))
noncomputable def atU:Code:=cA (cA (cB (cB (b13))))
def amF:dZ:=⟨[0,5,10,13,100013],[],[0,5,10],[],[4],[(4,.str)]⟩
def auK:dZ:=⟨[0,5,100002],[],[],[],[4],[(4,.str)]⟩
def Vw:SP:=⟨us [ez,.u,.u,.u,.u,.slc 1000015,.u,.u,.u,.u,bB,.u,.u,bE] 60,[eC]⟩
def VZ:SP:=⟨us [ez,.u,.u,.u,.u,.slc 1000015,.u,.u,.u,.u,bB] 63,[eC]⟩
def WL:SP:=⟨us [.u,.u,.u,.u,da] 69,[]⟩
def Md {f:Type} (i:(List lF)->bQ->Int->(List bQ)->Option f) (j:(List lF)->bQ->(List bQ)->Option f) (l:(List bQ)->Option f) (h:List lF) (g:bQ) (e:Int) (d:List bQ):Option f:=cond (gJ e (bD d)) (cond (fV d e) (cond (lN (dh e) d) (cond (eX (dB d [] (dh e)) g) (l d)<|i h g (bZ .i64 e 1) d) a7) a7)<|j h g d
def CY:Nat->(List lF)->bQ->Int->(List bQ)->Option (VZ.den⊕WL.den)
 |0,_,_,_,_=>a7
 |n+1,d,e,f,g=>Md (CY n) (fun h i j=>a6 (.inl ((h,i,()),(j,())))) (fun l=>a6 (.inr ((l,()),()))) d e f g
def ase (n:Nat) (v:Vw.den):=CY n v.1.1 v.1.2.1 v.1.2.2.1 v.2.1
noncomputable def aeZ:dm:=eP amF Vw VZ WL (.exit 2) (ase bG) 6
def afs:SP:=⟨us [ez,.u,.u,.u,.u,.slc 1000015] 68,[eC]⟩
def acu:SP:=⟨[],[]⟩
def acU:SP:=⟨us [.u,.u,.u,.u,da] 69,[]⟩
def XB {h:Type} (l:(List lF)->(List bQ)->Option h) (q:Option h) (f:(List bQ)->Option h) (j:List lF) (d:List bQ):Option h:=cond (fV d (ed .i64 (bD d) 1)) (cond (lN (dh (ed .i64 (bD d) 1)) d) (bz (fn8 j (dB d [] (dh (ed .i64 (bD d) 1)))) fun e=>cond (bJ e.2.1 0) (f d)<|cond (eX e.1 []) (f d)<|bz (alY e.1 0 (0,([],(false,())))) fun i=>cond (!(bJ i.1.1 6)) (f d)<|cond (eG (bD e.1) 0 i.1.2.2.1) (bz (fn8 j (sub e.1 0 i.1.2.2.1)) fun m=>cond (bJ m.2.1 0) (f d)<|bz (CY bG j (sub e.1 0 i.1.2.2.1) 0 d) fun o=>dL o (fun g=>cond (dN (bP g.2.1 [g.1.2.1]) 16) (l g.1.1 (bP g.2.1 [g.1.2.1])) a7) (fun p=>f p.1.1)) a7) a7) a7
def IW:Nat->(List lF)->(List bQ)->Option (acu.den⊕acU.den)
 |0,_,_=>a7
 |n+1,d,e=>XB (IW n) (a6 (.inl ((),()))) (fun f=>a6 (.inr ((f,()),()))) d e
def axz (n:Nat) (v:afs.den):=IW n v.1.1 v.2.1
noncomputable def ank:dm:=eP auK afs acu acU (.exit 0) (axz bG) 12
def abq (d:List lF) (e:bQ):Option ((List bQ)×Unit):=bz (IW bG d [e]) fun f=>dL f (fun h=>a7) (fun g=>a6 (g.1.1,()))
def avp:Sum:=⟨[JL,.str],[(.list .str,false)],fun x=>abq x.1 x.2.1⟩
noncomputable def ad3:Env:=iE prog tt 13 [(8,atC),(23,avu)] [(13,amF),(2,auK)] [(13,aeZ),(2,ank)]
def agd {d:Type} (a:Vw.den->Option d) (b:VZ.den->Option d) (c:WL.den->Option d) (v:Vw.den):Option d:=Md (fun e f g h=>a ((e,f,g,()),(h,()))) (fun i j l=>b ((i,j,()),(l,()))) (ar c) v.1.1 v.1.2.1 v.1.2.2.1 v.2.1
theorem asU:dJ ad3 13 ajV aeZ:=rH (agd) (h2:=by intros;simp only[agd,ar,Md,bV,bW,bu,bT,bY])
def aou {d:Type} (a:afs.den->Option d) (b:acu.den->Option d) (c:acU.den->Option d) (v:afs.den):Option d:=XB (fun e f=>a ((e,()),(f,()))) (b ((),())) (ar c) v.1.1 v.2.1
theorem aya:dJ ad3 13 atU ank:=rH (aou) (h2:=by intros;simp only[aou,ar,XB,bV,bW,bu,bT,bY])
theorem aBf:dI ad3 13 b13:=nG [ajV,atU] (aD (fM (asU)) (aD (fM (aya)) aN))
theorem akA:eF ad3:=eA f13 (aD Yh (aD apO aN)) (aBf)
theorem apk:dE prog 13 avp:=sA akA
noncomputable def b5:Code:=(f5.body).getD .skip
noncomputable def aAd:Code:=cA (cA (cB (cA (cB (cB (b5))))))
def ath:SP:=⟨us [ez,.u,.u,bE] 25,[]⟩
def an5:SP:=⟨us [] 29,[]⟩
def an9:SP:=⟨us eo 26,[]⟩
def agG {f:Type} (h:(List lF)->Int->Option f) (i:Option f) (g:Bool->Option f) (d:List lF) (e:Int):Option f:=cond (gJ e (bD d)) (cond (fV d e) (cond (gJ 40 (bD (gu d ([],([],())) e).1)) (g false)<|cond (fV d e) (cond (gJ 60 (bD (gu d ([],([],())) e).2.1)) (g false)<|h d (bZ .i64 e 1)) a7) a7) i
def Ko:Nat->(List lF)->Int->Option (an5.den⊕an9.den)
 |0,_,_=>a7
 |n+1,d,e=>agG (Ko n) (a6 (.inl ((),()))) (fun f=>a6 (.inr ((f,()),()))) d e
def aBM (n:Nat) (v:ath.den):=Ko n v.1.1 v.1.2.1
noncomputable def au6:dm:=eP RP ath an5 an9 (.exit 0) (aBM bG) 6
def fn5 (d:List lF):Option nH:=cond (gJ 10 (bD d)) (a6 (false,()))<|bz (Ko bG d 0) fun e=>dL e (fun g=>a6 (true,())) (fun f=>a6 (f.1.1,()))
def aCi:Sum:=⟨[JL],Ip,fun x=>fn5 x.1⟩
noncomputable def awF:Env:=iE prog tt 5 [] [(4,RP)] [(4,au6)]
def avd {d:Type} (a:ath.den->Option d) (b:an5.den->Option d) (c:an9.den->Option d) (v:ath.den):Option d:=agG (aE a) (b ((),())) (ar c) v.1.1 v.1.2.1
theorem aBR:dJ awF 5 aAd au6:=rH (avd) (h2:=by intros;simp only[avd,aE,ar,agG,bV,bW,bu,bT,bY])
theorem aDI:dI awF 5 b5:=nG [aAd] (aD (fM (aBR)) aN)
theorem aq6:eF awF:=eA f5 aN (aDI)
theorem atA:dE prog 5 aCi:=sA aq6
noncomputable def b11:Code:=(f11.body).getD .skip
noncomputable def atT:Code:=cA (cA (cB (cA (cB (cB (b11))))))
def auJ:dZ:=⟨[0,1,5,100004],[],[],[],[4],[]⟩
def afr:SP:=⟨us [da,da,.u,.u,.u,bE] 20,[]⟩
def acs:SP:=⟨us [] 26,[]⟩
def acT:SP:=⟨us db 21,[]⟩
def Xz {e:Type} (h:(List bQ)->(List bQ)->Int->Option e) (i:Option e) (j:Bool->Option e) (f g:List bQ) (d:Int):Option e:=cond (gJ d (bD f)) (cond (fV f d) (cond (fV g d) (cond (!(eX (gu f [] d) (gu g [] d))) (j false)<|h f g (bZ .i64 d 1)) a7) a7) i
def IV:Nat->(List bQ)->(List bQ)->Int->Option (acs.den⊕acT.den)
 |0,_,_,_=>a7
 |n+1,d,e,f=>Xz (IV n) (a6 (.inl ((),()))) (fun g=>a6 (.inr ((g,()),()))) d e f
def axy (n:Nat) (v:afr.den):=ba (IV n) v
noncomputable def anj:dm:=eP auJ afr acs acT (.exit 0) (axy bG) 6
def alS (d e:List bQ):Option nH:=cond (!(bJ (bD d) (bD e))) (a6 (false,()))<|bz (IV bG d e 0) fun f=>dL f (fun h=>a6 (true,())) (fun g=>a6 (g.1.1,()))
def avo:Sum:=⟨[.list .str,.list .str],Ip,fun x=>alS x.1 x.2.1⟩
noncomputable def aky:Env:=iE prog tt 11 [] [(4,auJ)] [(4,anj)]
def aot {d:Type} (a:afr.den->Option d) (b:acs.den->Option d) (c:acT.den->Option d) (v:afr.den):Option d:=ba (Xz (aR a) (b ((),())) (ar c)) v
theorem ax9:dJ aky 11 atT anj:=rH (aot) (h2:=by intros;simp only[aot,aR,ar,ba,Xz,bV,bW,bu,bT,bY])
theorem aBe:dI aky 11 b11:=nG [atT] (aD (fM (ax9)) aN)
theorem akz:eF aky:=eA f11 aN (aBe)
theorem apf:dE prog 11 avo:=sA akz
end
end Go.Proofs.YtjgoejaajmhllaaGreatDoor
