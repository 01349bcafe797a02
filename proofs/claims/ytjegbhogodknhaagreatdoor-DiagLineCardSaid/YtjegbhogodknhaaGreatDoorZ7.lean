/- Parts of the proof, joined and shortened by a program: the plain machine, the functions as it prints them, and the mathematics over them. -/
import Derived.Test.YtjegbhogodknhaaGreatDoorZ3
import Derived.Test.YtjegbhogodknhaaGreatDoorZ4
set_option linter.unusedVariables false
set_option linter.unusedSimpArgs false
set_option maxRecDepth 100000
set_option maxHeartbeats 4000000
namespace Go.Proofs.YtjegbhogodknhaaGreatDoor
section
open Option renaming some → a6, none → a7
open Tryz
open Go.RowKit
def azL (d:Int):Option xy:=cond (leI 4 d) (a6 ((leI d 12),()))<|some (false,())
def aEx:Sum:=⟨[dL],YK,fun x=>azL x.1⟩
theorem aos:eX prog 210 aEx:=qA f210 [] aN
def ai1 (e:dC):Option Fb:=bU (PS e) fun d=>cond (cZ d.1 1) (a6 (97,()))<|cond (cZ d.1 2) (a6 (111,()))<|cond (cZ d.1 3) (a6 (121,()))<|bU (azL d.1) fun f=>cond f.1 (a6 (60,()))<|cond (!(cZ d.1 0)) (cond (iy e 0) (a6 ((dm e 0),())) a7)<|some (63,())
def aEm:Sum:=⟨[.str],[(.int .u8,false)],fun x=>ai1 x.1⟩
theorem aoh:eX prog 170 aEm:=qA f170 [] (sE Pi (sE aos aN))
def Zt (d:dC):Option Fb:=cond (iG d [100,111]) (a6 (100,()))<|cond (iG d [100,111,110,101]) (a6 (103,()))<|cond (iG d [102,111,114]) (a6 (114,()))<|cond (iG d [105,110]) (a6 (107,()))<|cond (iG d [99,97,115,101]) (a6 (99,()))<|cond (iG d [101,115,97,99]) (a6 (122,()))<|some (120,())
def QU (d:dC):Option Fb:=cond (iG d [105,102]) (a6 (105,()))<|cond (iG d [116,104,101,110]) (a6 (116,()))<|cond (iG d [101,108,105,102]) (a6 (101,()))<|cond (iG d [101,108,115,101]) (a6 (108,()))<|cond (iG d [102,105]) (a6 (102,()))<|cond (iG d [119,104,105,108,101]) (cond (iG d [119,104,105,108,101]) (a6 (119,()))<|Zt d)<|cond (iG d [117,110,116,105,108]) (a6 (119,()))<|Zt d
def ai2 (d:dC):Option Fb:=cond (iG d [33]) (cond (iG d [33]) (cond (iy d 0) (a6 ((dm d 0),())) a7)<|QU d)<|cond (iG d [123]) (cond (iG d [123]) (cond (iy d 0) (a6 ((dm d 0),())) a7)<|QU d)<|cond (iG d [125]) (cond (iy d 0) (a6 ((dm d 0),())) a7)<|QU d
def aEn:Sum:=⟨[.str],[(.int .u8,false)],fun x=>ai2 x.1⟩
theorem aoi:eX prog 171 aEn:=qA Tryz.f171 [] aN
def FI (d:gJ):Option Fb:=cond (cZ d.1 2) (a6 (110,()))<|cond (cZ d.1 4) (bU (ai1 d.2.1) fun e=>a6 (e.1,()))<|cond (cZ d.1 5) (a6 (35,()))<|cond (cZ d.1 6) (bU (ai2 d.2.1) fun e=>a6 (e.1,()))<|some (63,())
def aEc:Sum:=⟨[tyC],[(.int .u8,false)],fun x=>FI x.1⟩
theorem an5:eX prog 136 aEc:=qA f136 [] (sE aoh (sE aoi aN))
def Lj (d:List gJ) (e:Int) (g:List gI) (i j f:Int):Option (((List gJ)×Int×(List gI)×Int×Int×Unit)×Fb):=cond (leI (bV d) (dJ .i64 e f)) (a6 ((d,(e,(g,(i,(j,()))))),(0,())))<|cond (iy d (dJ .i64 e f)) (bU (FI (gW d (0,([],(0,(0,())))) (dJ .i64 e f))) fun l=>a6 ((d,(e,(g,(i,(j,()))))),(l.1,()))) a7
def avN:gu:=⟨96,zQ,[dL],[.int .u8],fun x y=>Lj x.1 x.2.1 x.2.2.1 x.2.2.2.1 x.2.2.2.2.1 y.1⟩
theorem zL:dV prog 96 avN:=qB [] (sE an5 aN)
def am8 (e:List gJ) (f:Int) (g:List gI) (i j:Int) (l:dC):Option taM:=bU (Lj e f g i j 0) fun d=>cond (!(cZ d.2.1 0)) (bU (adC l d.2.1) fun m=>a6 ((d.1.1,(d.1.2.1,(d.1.2.2.1,(d.1.2.2.2.1,(d.1.2.2.2.2.1,()))))),((leI 0 m.1),())))<|some ((d.1.1,(d.1.2.1,(d.1.2.2.1,(d.1.2.2.2.1,(d.1.2.2.2.2.1,()))))),(false,()))
def aAJ:gu:=⟨96,zQ,[.str],[.bool],fun x y=>am8 x.1 x.2.1 x.2.2.1 x.2.2.2.1 x.2.2.2.2.1 y.1⟩
theorem VZ:dV prog 95 aAJ:=qB [] (sE Yt aN) (sF zL aN)
def qm (e:List gJ) (f:Int) (g:List gI) (i j:Int) (l:dC):Option taM:=bU (am8 e f g i j l) fun d=>cond (!d.2.1) (a6 ((d.1.1,(d.1.2.1,(d.1.2.2.1,(d.1.2.2.2.1,(d.1.2.2.2.2.1,()))))),(false,())))<|some ((d.1.1,((dJ .i64 d.1.2.1 1),(d.1.2.2.1,(d.1.2.2.2.1,(d.1.2.2.2.2.1,()))))),(true,()))
def GU:gu:=⟨96,zQ,[.str],[.bool],fun x y=>qm x.1 x.2.1 x.2.2.1 x.2.2.2.1 x.2.2.2.2.1 y.1⟩
theorem pK:dV prog 71 GU:=qB [] aN (sF VZ aN)
def adD (f:List gJ) (g:Int) (i:List gI) (j l:Int):Option taM:=bU (Lj f g i j l 0) fun d=>cond (cZ d.2.1 60) (a6 ((d.1.1,(d.1.2.1,(d.1.2.2.1,(d.1.2.2.2.1,(d.1.2.2.2.2.1,()))))),(true,())))<|cond (cZ d.2.1 35) (bU (Lj d.1.1 d.1.2.1 d.1.2.2.1 d.1.2.2.2.1 d.1.2.2.2.2.1 1) fun e=>a6 ((e.1.1,(e.1.2.1,(e.1.2.2.1,(e.1.2.2.2.1,(e.1.2.2.2.2.1,()))))),((cZ e.2.1 60),())))<|some ((d.1.1,(d.1.2.1,(d.1.2.2.1,(d.1.2.2.2.1,(d.1.2.2.2.2.1,()))))),(false,()))
def aEd:gu:=⟨96,zQ,[],[.bool],fun x y=>adD x.1 x.2.1 x.2.2.1 x.2.2.2.1 x.2.2.2.2.1⟩
theorem Yu:dV prog 137 aEd:=qB [] aN (sF zL aN)
def XA (f:List gJ) (g:Int) (i:List gI) (j e:Int):Option taM:=cond (iV e 200) (bU (am8 f g i j e [123,40,105,119,114,99]) fun d=>a6 ((d.1.1,(d.1.2.1,(d.1.2.2.1,(d.1.2.2.2.1,(d.1.2.2.2.2.1,()))))),(d.2.1,())))<|some ((f,(g,(i,(j,(e,()))))),(false,()))
def aia:gu:=⟨96,zQ,[],[.bool],fun x y=>XA x.1 x.2.1 x.2.2.1 x.2.2.2.1 x.2.2.2.2.1⟩
theorem Pj:dV prog 138 aia:=qB [] aN (sF VZ aN)
def arq (g:List gJ) (i:Int) (j:List gI) (l m:Int):Option taM:=bU (Lj g i j l m 0) fun d=>cond (cZ d.2.1 120) (a6 ((d.1.1,(d.1.2.1,(d.1.2.2.1,(d.1.2.2.2.1,(d.1.2.2.2.2.1,()))))),(true,())))<|bU (adD d.1.1 d.1.2.1 d.1.2.2.1 d.1.2.2.2.1 d.1.2.2.2.2.1) fun e=>cond e.2.1 (a6 ((e.1.1,(e.1.2.1,(e.1.2.2.1,(e.1.2.2.2.1,(e.1.2.2.2.2.1,()))))),(true,())))<|bU (XA e.1.1 e.1.2.1 e.1.2.2.1 e.1.2.2.2.1 e.1.2.2.2.2.1) fun f=>a6 ((f.1.1,(f.1.2.1,(f.1.2.2.1,(f.1.2.2.2.1,(f.1.2.2.2.2.1,()))))),(f.2.1,()))
def aAK:gu:=⟨96,zQ,[],[.bool],fun x y=>arq x.1 x.2.1 x.2.2.1 x.2.2.2.1 x.2.2.2.2.1⟩
theorem afx:dV prog 97 aAK:=qB [] aN (sF zL (sF Yu (sF Pj aN)))
def Ud (f:List gJ) (g:Int) (i:List gI) (j l:Int):Option taM:=bU (Lj f g i j l 0) fun d=>cond (cZ d.2.1 33) (a6 ((d.1.1,(d.1.2.1,(d.1.2.2.1,(d.1.2.2.2.1,(d.1.2.2.2.2.1,()))))),(true,())))<|bU (arq d.1.1 d.1.2.1 d.1.2.2.1 d.1.2.2.2.1 d.1.2.2.2.2.1) fun e=>a6 ((e.1.1,(e.1.2.1,(e.1.2.2.1,(e.1.2.2.2.1,(e.1.2.2.2.2.1,()))))),(e.2.1,()))
def YF:gu:=⟨96,zQ,[],[.bool],fun x y=>Ud x.1 x.2.1 x.2.2.1 x.2.2.2.1 x.2.2.2.2.1⟩
theorem GV:dV prog 72 YF:=qB [] aN (sF zL (sF afx aN))
noncomputable def b99:Code:=(f99.body).getD .skip
noncomputable def azH:Code:=cA (cA (cA (cB (cB (b99)))))
def ajy:fZ:=⟨[0,3,100002],[],[3],[],[2],[]⟩
def akJ:SQ:=⟨[co,.u,.u,bX,.u,.u,.u,.u,.u],cY,db⟩
def ahx:SQ:=⟨[.u,.u,.u,bX,.u,.u,.u,.u,.u],cY,db⟩
def ahS:SQ:=⟨us [.u,.u,bX] 6,cY,[]⟩
def acB {e:Type} (g i:Bool->(List gJ)->Int->Int->Int->(List gI)->Option e) (u:Bool->Option e) (f:Bool) (j:List gJ) (l m p:Int) (q:List gI):Option e:=bU (qm j l q m p [110]) fun d=>cond d.2.1 (g f d.1.1 d.1.2.1 d.1.2.2.2.1 d.1.2.2.2.2.1 d.1.2.2.1)<|i f d.1.1 d.1.2.1 d.1.2.2.2.1 d.1.2.2.2.2.1 d.1.2.2.1
def UK:Nat->Bool->(List gJ)->Int->Int->Int->(List gI)->Option (ahx.den⊕ahS.den)
 |0,_,_,_,_,_,_=>a7
 |n+1,d,e,f,g,i,j=>acB (UK n) (fun l m p q u v=>a6 (.inl ((l,()),((),()),((m,p,q,u,()),v,())))) (fun x=>a6 (.inr ((x,()),((),()),()))) d e f g i j
def aC4 (n:Nat) (v:akJ.den):=ba (UK n) v
noncomputable def atc:dO:=gq ajy akJ ahx ahS (.exit 0) (aC4 bY) 6
def rJ (f:List gJ) (g:Int) (i:List gI) (j l:Int):Option taM:=bU (qm f g i j l [110]) fun d=>bU (UK bY d.2.1 d.1.1 d.1.2.1 d.1.2.2.2.1 d.1.2.2.2.2.1 d.1.2.2.1) fun m=>dX m (fun e=>a6 ((e.2.2.1.1,(e.2.2.1.2.1,(e.2.2.2.1,(e.2.2.1.2.2.1,(e.2.2.1.2.2.2.1,()))))),(e.1.1,()))) (fun p=>a7)
def Ny:gu:=⟨96,zQ,[],[.bool],fun x y=>rJ x.1 x.2.1 x.2.2.1 x.2.2.2.1 x.2.2.2.2.1⟩
noncomputable def aqQ:Env:=iE prog tt [] [(99,2,ajy)] [(99,2,atc)] [] [(71,GU)]
def auy {d:Type} (a:akJ.den->Option d) (b:ahx.den->Option d) (c:ahS.den->Option d) (v:akJ.den):Option d:=ba (acB (a8 a) (a8 b) (fun e=>c ((e,()),((),()),()))) v
theorem aDE:eY aqQ 99 azH atc:=oq (auy) (h2:=by intros;simp only[auy,a8,ba,acB,dG,dH,bT,dw,dI])
theorem aGT:eP aqQ 99 b99:=tC [azH] (aD (fM (aDE)) aN)
theorem aqR:gm aqQ:=eB aN [99] (aD ⟨f99,b99,by kernel_rfl,by kernel_rfl,aGT⟩ aN) (hx:=(aD pK aN))
theorem xe:dV prog 99 Ny:=sB aqR
def lM:fZ:=⟨[0,2,6,7],[],[],[],[],[]⟩
def qc (g:List gJ) (d:Int) (f:List gI) (e i:Int):Option vY:=cond (cZ 18 18) (cond (cZ d d) (cond (cZ e e) (cond (fG (bZ f [(18,(d,(0,(e,()))))]) 32) (cond (cZ 18 18) (cond (cZ d d) (cond (cZ e e) (cond ((cZ 18 18)&&((cZ d d)&&((cZ 0 0)&&((cZ e e)&&true)))) (cond (iy (bZ f [(18,(d,(0,(e,()))))]) (bV f)) (cond (qO (dM (bV f)) (bZ f [(18,(d,(0,(e,()))))])) (a6 ((g,(d,((jd (bZ f [(18,(d,(0,(e,()))))]) (dM (bV f)) ((dU (bZ f [(18,(d,(0,(e,()))))]) (0,(0,(0,(0,())))) (dM (bV f))).1,((dU (bZ f [(18,(d,(0,(e,()))))]) (0,(0,(0,(0,())))) (dM (bV f))).2.1,(d,((dU (bZ f [(18,(d,(0,(e,()))))]) (0,(0,(0,(0,())))) (dM (bV f))).2.2.2.1,()))))),(e,(i,()))))),())) a7) a7) a7) a7) a7) a7) a7) a7) a7) a7
def Pn:gu:=⟨96,zQ,[],[],fun x y=>qc x.1 x.2.1 x.2.2.1 x.2.2.2.1 x.2.2.2.2.1⟩
theorem vC:dV prog 172 Pn:=qB [(172,600000,sN),(45,600003,lM)] aN
def XH (d:dC):Option xy:=cond (!(iG d [])) (bU (Ub d 0) fun e=>a6 ((cZ e.1 (bV d)),()))<|some (false,())
def avk:Sum:=⟨[.str],YK,fun x=>XH x.1⟩
theorem YD:eX prog 242 avk:=qA f242 [] (sE Pv aN)
def ai6 (f:List gJ) (g:Int) (i:List gI) (j l:Int):Option taM:=bU (Lj f g i j l 0) fun e=>cond (cZ e.2.1 120) (bU (Lj e.1.1 e.1.2.1 e.1.2.2.1 e.1.2.2.2.1 e.1.2.2.2.2.1 1) fun d=>cond (cZ d.2.1 40) (cond (iV d.1.2.2.2.2.1 200) (cond (iy d.1.1 d.1.2.1) (bU (XH (gW d.1.1 (0,([],(0,(0,())))) d.1.2.1).2.1) fun m=>a6 ((d.1.1,(d.1.2.1,(d.1.2.2.1,(d.1.2.2.2.1,(d.1.2.2.2.2.1,()))))),(m.1,()))) a7)<|some ((d.1.1,(d.1.2.1,(d.1.2.2.1,(d.1.2.2.2.1,(d.1.2.2.2.2.1,()))))),(false,())))<|some ((d.1.1,(d.1.2.1,(d.1.2.2.1,(d.1.2.2.2.1,(d.1.2.2.2.2.1,()))))),(false,())))<|some ((e.1.1,(e.1.2.1,(e.1.2.2.1,(e.1.2.2.2.1,(e.1.2.2.2.2.1,()))))),(false,()))
def avf:gu:=⟨96,zQ,[],[.bool],fun x y=>ai6 x.1 x.2.1 x.2.2.1 x.2.2.2.1 x.2.2.2.2.1⟩
theorem aot:dV prog 213 avf:=qB [] (sE YD aN) (sF zL aN)
def aBY:fZ:=⟨[1,2],[],[],[],[],[]⟩
def QK (i:List gJ) (d:Int) (f:List gI) (e j g:Int):Option vY:=cond (cZ g g) (cond (cZ d d) (cond (cZ e e) (cond (fG (bZ f [(g,(d,(0,(e,()))))]) 32) (cond (cZ g g) (cond (cZ d d) (cond (cZ e e) (cond ((cZ g g)&&((cZ d d)&&((cZ 0 0)&&((cZ e e)&&true)))) (cond (iy (bZ f [(g,(d,(0,(e,()))))]) (bV f)) (cond (qO (dM (bV f)) (bZ f [(g,(d,(0,(e,()))))])) (a6 ((i,((dJ .i64 d 1),((jd (bZ f [(g,(d,(0,(e,()))))]) (dM (bV f)) ((dU (bZ f [(g,(d,(0,(e,()))))]) (0,(0,(0,(0,())))) (dM (bV f))).1,((dU (bZ f [(g,(d,(0,(e,()))))]) (0,(0,(0,(0,())))) (dM (bV f))).2.1,((dJ .i64 d 1),((dU (bZ f [(g,(d,(0,(e,()))))]) (0,(0,(0,(0,())))) (dM (bV f))).2.2.2.1,()))))),(e,(j,()))))),())) a7) a7) a7) a7) a7) a7) a7) a7) a7) a7
def alS:gu:=⟨96,zQ,[dL],[],fun x y=>QK x.1 x.2.1 x.2.2.1 x.2.2.2.1 x.2.2.2.2.1 y.1⟩
theorem Nw:dV prog 74 alS:=qB [(74,600001,aBY),(45,600003,lM)] aN
def Lh (d:List gJ) (e:Int) (f:List gI) (g i:Int):Option taM:=cond (iV e (bV d)) (cond (iy d e) (a6 ((d,(e,(f,(g,(i,()))))),((cZ (gW d (0,([],(0,(0,())))) e).1 6),()))) a7)<|some ((d,(e,(f,(g,(i,()))))),(false,()))
def acJ:gu:=⟨96,zQ,[],[.bool],fun x y=>Lh x.1 x.2.1 x.2.2.1 x.2.2.2.1 x.2.2.2.2.1⟩
theorem IJ:dV prog 245 acJ:=qB [] aN
def CX (f:List gJ) (g:Int) (i:List gI) (j l:Int):Option vY:=bU (Lh f g i j l) fun d=>cond d.2.1 (bU (QK d.1.1 d.1.2.1 d.1.2.2.1 d.1.2.2.2.1 d.1.2.2.2.2.1 7) fun e=>a6 ((e.1.1,(e.1.2.1,(e.1.2.2.1,(e.1.2.2.2.1,(e.1.2.2.2.2.1,()))))),()))<|bU (qc d.1.1 d.1.2.1 d.1.2.2.1 d.1.2.2.2.1 d.1.2.2.2.2.1) fun e=>a6 ((e.1.1,(e.1.2.1,(e.1.2.2.1,(e.1.2.2.2.1,(e.1.2.2.2.2.1,()))))),())
def acI:gu:=⟨96,zQ,[],[],fun x y=>CX x.1 x.2.1 x.2.2.1 x.2.2.2.1 x.2.2.2.2.1⟩
theorem II:dV prog 243 acI:=qB [] aN (sF Nw (sF vC (sF IJ aN)))
def ajA:fZ:=⟨[1],[],[],[],[],[]⟩
def ui (i:List gJ) (j:Int) (l:List gI) (m p:Int):Option taM:=bU (adD i j l m p) fun d=>cond (!d.2.1) (a6 ((d.1.1,(d.1.2.1,(d.1.2.2.1,(d.1.2.2.2.1,(d.1.2.2.2.2.1,()))))),(false,())))<|cond (cZ 8 8) (cond (cZ d.1.2.1 d.1.2.1) (cond (cZ d.1.2.2.2.1 d.1.2.2.2.1) (cond (fG (bZ d.1.2.2.1 [(8,(d.1.2.1,(0,(d.1.2.2.2.1,()))))]) 32) (cond (cZ 8 8) (cond (cZ d.1.2.1 d.1.2.1) (cond (cZ d.1.2.2.2.1 d.1.2.2.2.1) (cond ((cZ 8 8)&&((cZ d.1.2.1 d.1.2.1)&&((cZ 0 0)&&((cZ d.1.2.2.2.1 d.1.2.2.2.1)&&true)))) (bU (qm d.1.1 d.1.2.1 (bZ d.1.2.2.1 [(8,(d.1.2.1,(0,(d.1.2.2.2.1,()))))]) (bV d.1.2.2.1) d.1.2.2.2.2.1 [35]) fun f=>bU (qm f.1.1 f.1.2.1 f.1.2.2.1 f.1.2.2.2.1 f.1.2.2.2.2.1 [60]) fun g=>bU (CX g.1.1 g.1.2.1 g.1.2.2.1 g.1.2.2.2.1 g.1.2.2.2.2.1) fun e=>cond (iy e.1.2.2.1 (bV d.1.2.2.1)) (cond (qO (dM (bV d.1.2.2.1)) e.1.2.2.1) (a6 ((e.1.1,(e.1.2.1,((jd e.1.2.2.1 (dM (bV d.1.2.2.1)) ((dU e.1.2.2.1 (0,(0,(0,(0,())))) (dM (bV d.1.2.2.1))).1,((dU e.1.2.2.1 (0,(0,(0,(0,())))) (dM (bV d.1.2.2.1))).2.1,(e.1.2.1,((dU e.1.2.2.1 (0,(0,(0,(0,())))) (dM (bV d.1.2.2.1))).2.2.2.1,()))))),(d.1.2.2.2.1,(e.1.2.2.2.2.1,()))))),(true,()))) a7) a7) a7) a7) a7) a7) a7) a7) a7) a7
def aid:gu:=⟨96,zQ,[],[.bool],fun x y=>ui x.1 x.2.1 x.2.2.1 x.2.2.2.1 x.2.2.2.2.1⟩
theorem YC:dV prog 241 aid:=qB [(241,600003,ajA),(45,600003,lM)] aN (sF pK (sF Yu (sF II aN)))
def aje (d:dC):Option (dC×dC×Bool×Unit):=bU (Ub d 0) fun e=>cond (cZ e.1 0) (a6 ([],([],(false,()))))<|cond (cZ e.1 (bV d)) (a6 ([],([],(false,()))))<|cond (iy d e.1) (cond (!(cZ (dm d e.1) 61)) (a6 ([],([],(false,()))))<|cond (gy (bV d) 0 e.1) (cond (gy (bV d) (dJ .i64 e.1 1) (bV d)) (a6 ((sub d 0 e.1),((sub d (dJ .i64 e.1 1) (bV d)),(true,())))) a7) a7) a7
def aEP:Sum:=⟨[.str],[(.str,false),(.str,false),(.bool,false)],fun x=>aje x.1⟩
theorem aoE:eX prog 259 aEP:=qA f259 [] (sE Pv aN)
def ajd (d:dC):Option xy:=bU (aje d) fun e=>a6 (e.2.2.1,())
def avl:Sum:=⟨[.str],YK,fun x=>ajd x.1⟩
theorem aoC:eX prog 246 avl:=qA Tryz.f246 [] (sE aoE aN)
noncomputable def aBa:Code:=(f216.body).getD .skip
noncomputable def apx:Code:=cA (cA (cB (cB (cA (aBa)))))
def ar1:fZ:=⟨[0,2,100003],[],[],[],[],[]⟩
def aaF:SQ:=⟨us [co,.u,bX] 28,cY,db⟩
def aa8:SQ:=⟨us [] 31,cY,db⟩
def abH:SQ:=⟨us [] 31,cY,[]⟩
def EO {i:Type} (j:Bool->(List gJ)->Int->Int->Int->(List gI)->Option i) (m:(List gJ)->Int->Int->Int->(List gI)->Option i) (y:Option i) (l:Bool) (p:List gJ) (q u v:Int) (x:List gI):Option i:=bU (ui p q x u v) fun e=>cond e.2.1 (j l e.1.1 e.1.2.1 e.1.2.2.2.1 e.1.2.2.2.2.1 e.1.2.2.1)<|bU (Lh e.1.1 e.1.2.1 e.1.2.2.1 e.1.2.2.2.1 e.1.2.2.2.2.1) fun d=>cond (!d.2.1) (m d.1.1 d.1.2.1 d.1.2.2.2.1 d.1.2.2.2.2.1 d.1.2.2.1)<|cond (!l) (cond (iy d.1.1 d.1.2.1) (bU (ajd (gW d.1.1 (0,([],(0,(0,())))) d.1.2.1).2.1) fun g=>cond g.1 (bU (QK d.1.1 d.1.2.1 d.1.2.2.1 d.1.2.2.2.1 d.1.2.2.2.2.1 6) fun f=>j l f.1.1 f.1.2.1 f.1.2.2.2.1 f.1.2.2.2.2.1 f.1.2.2.1)<|bU (QK d.1.1 d.1.2.1 d.1.2.2.1 d.1.2.2.2.1 d.1.2.2.2.2.1 7) fun f=>j true f.1.1 f.1.2.1 f.1.2.2.2.1 f.1.2.2.2.2.1 f.1.2.2.1) a7)<|bU (QK d.1.1 d.1.2.1 d.1.2.2.1 d.1.2.2.2.1 d.1.2.2.2.2.1 7) fun g=>j true g.1.1 g.1.2.1 g.1.2.2.2.1 g.1.2.2.2.2.1 g.1.2.2.1
def oD:Nat->Bool->(List gJ)->Int->Int->Int->(List gI)->Option (aa8.den⊕abH.den)
 |0,_,_,_,_,_,_=>a7
 |n+1,d,e,f,g,i,j=>EO (oD n) (fun l m p q u=>a6 (.inl ((),((),()),((l,m,p,q,()),u,())))) (a6 (.inr ((),((),()),()))) d e f g i j
def ax3 (n:Nat) (v:aaF.den):=ba (oD n) v
noncomputable def aj2:dO:=gq ar1 aaF aa8 abH (.exit 0) (ax3 bY) 6
def XE (e:List gJ) (f:Int) (g:List gI) (i j:Int):Option vY:=bU (oD bY false e f i j g) fun l=>dX l (fun d=>a6 ((d.2.2.1.1,(d.2.2.1.2.1,(d.2.2.2.1,(d.2.2.1.2.2.1,(d.2.2.1.2.2.2.1,()))))),())) (fun m=>a7)
def avg:gu:=⟨96,zQ,[],[],fun x y=>XE x.1 x.2.1 x.2.2.1 x.2.2.2.1 x.2.2.2.2.1⟩
noncomputable def agm:Env:=iE prog tt [(246,avl)] [(216,3,ar1)] [(216,3,aj2)] [] [(74,alS),(241,aid),(245,acJ)]
def alj {d:Type} (a:aaF.den->Option d) (b:aa8.den->Option d) (c:abH.den->Option d) (v:aaF.den):Option d:=ba (EO (a8 a) (bc b) (c ((),((),()),()))) v
theorem ayC:eY agm 216 apx aj2:=oq (alj) (h2:=by intros;simp only[alj,a8,bc,ba,EO,dG,dH,bT,dw,dI])
theorem aCw:eP agm 216 aBa:=tC [apx] (aD (fM (ayC)) aN)
theorem amM:gm agm:=eB (aD aoC aN) [216] (aD ⟨f216,aBa,by kernel_rfl,by kernel_rfl,aCw⟩ aN) (hx:=(aD Nw (aD YC (aD IJ aN))))
theorem aou:dV prog 216 avg:=sB amM
def kJ (f:List gJ) (g:Int) (i:List gI) (j l:Int) (m:dC):Option vY:=bU (qm f g i j l m) fun d=>cond (!d.2.1) (bU (qc d.1.1 d.1.2.1 d.1.2.2.1 d.1.2.2.2.1 d.1.2.2.2.2.1) fun e=>a6 ((e.1.1,(e.1.2.1,(e.1.2.2.1,(e.1.2.2.2.1,(e.1.2.2.2.2.1,()))))),()))<|some ((d.1.1,(d.1.2.1,(d.1.2.2.1,(d.1.2.2.2.1,(d.1.2.2.2.2.1,()))))),())
def GN:gu:=⟨96,zQ,[.str],[],fun x y=>kJ x.1 x.2.1 x.2.2.1 x.2.2.2.1 x.2.2.2.2.1 y.1⟩
theorem vF:dV prog 244 GN:=qB [] aN (sF pK (sF vC aN))
structure iK where
 q73:(List gJ)->Int->(List gI)->Int->Int->Option vY
 q98:(List gJ)->Int->(List gI)->Int->Int->Option vY
 q139:(List gJ)->Int->(List gI)->Int->Int->Option vY
 q174:(List gJ)->Int->(List gI)->Int->Int->Option vY
 q215:(List gJ)->Int->(List gI)->Int->Int->Option vY
 q212:(List gJ)->Int->(List gI)->Int->Int->Option vY
 q255:(List gJ)->Int->(List gI)->Int->Int->Option vY
 q234:(List gJ)->Int->(List gI)->Int->Int->Option vY
 q235:(List gJ)->Int->(List gI)->Int->Int->Option vY
 q236:(List gJ)->Int->(List gI)->Int->Int->Option vY
 q237:(List gJ)->Int->(List gI)->Int->Int->Option vY
 q238:(List gJ)->Int->(List gI)->Int->Int->Option vY
 q239:(List gJ)->Int->(List gI)->Int->Int->Option vY
 q257:(List gJ)->Int->(List gI)->Int->Int->Option vY
 q256:(List gJ)->Int->(List gI)->Int->Int->Option vY
def aif (q:iK):gu:=⟨96,zQ,[],[],fun x y=>q.q73 x.1 x.2.1 x.2.2.1 x.2.2.2.1 x.2.2.2.2.1⟩
def avO (q:iK):gu:=⟨96,zQ,[],[],fun x y=>q.q98 x.1 x.2.1 x.2.2.1 x.2.2.2.1 x.2.2.2.2.1⟩
def alD (q:iK):gu:=⟨96,zQ,[],[],fun x y=>q.q139 x.1 x.2.1 x.2.2.1 x.2.2.2.1 x.2.2.2.2.1⟩
def alF (q:iK):gu:=⟨96,zQ,[],[],fun x y=>q.q174 x.1 x.2.1 x.2.2.1 x.2.2.2.1 x.2.2.2.2.1⟩
def alI (q:iK):gu:=⟨96,zQ,[],[],fun x y=>q.q215 x.1 x.2.1 x.2.2.1 x.2.2.2.1 x.2.2.2.2.1⟩
def acH (q:iK):gu:=⟨96,zQ,[],[],fun x y=>q.q212 x.1 x.2.1 x.2.2.1 x.2.2.2.1 x.2.2.2.2.1⟩
def IK (q:iK):gu:=⟨96,zQ,[],[],fun x y=>q.q255 x.1 x.2.1 x.2.2.1 x.2.2.2.1 x.2.2.2.2.1⟩
def alJ (q:iK):gu:=⟨96,zQ,[],[],fun x y=>q.q234 x.1 x.2.1 x.2.2.1 x.2.2.2.1 x.2.2.2.2.1⟩
def alK (q:iK):gu:=⟨96,zQ,[],[],fun x y=>q.q235 x.1 x.2.1 x.2.2.1 x.2.2.2.1 x.2.2.2.2.1⟩
def alL (q:iK):gu:=⟨96,zQ,[],[],fun x y=>q.q236 x.1 x.2.1 x.2.2.1 x.2.2.2.1 x.2.2.2.2.1⟩
def alM (q:iK):gu:=⟨96,zQ,[],[],fun x y=>q.q237 x.1 x.2.1 x.2.2.1 x.2.2.2.1 x.2.2.2.2.1⟩
def alN (q:iK):gu:=⟨96,zQ,[],[],fun x y=>q.q238 x.1 x.2.1 x.2.2.1 x.2.2.2.1 x.2.2.2.2.1⟩
def alO (q:iK):gu:=⟨96,zQ,[],[],fun x y=>q.q239 x.1 x.2.1 x.2.2.1 x.2.2.2.1 x.2.2.2.2.1⟩
def alP (q:iK):gu:=⟨96,zQ,[],[],fun x y=>q.q257 x.1 x.2.1 x.2.2.1 x.2.2.2.1 x.2.2.2.2.1⟩
def acK (q:iK):gu:=⟨96,zQ,[],[],fun x y=>q.q256 x.1 x.2.1 x.2.2.1 x.2.2.2.1 x.2.2.2.2.1⟩
noncomputable def b73:Code:=(f73.body).getD .skip
noncomputable def azC:Code:=cA (cA (cB (cA (b73))))
def az2:fZ:=⟨[0,100000],[],[],[],[],[]⟩
def akE:SQ:=⟨us bE 15,cY,db⟩
def ahs:SQ:=⟨us [] 16,cY,db⟩
def Vh:SQ:=⟨us [] 16,cY,[]⟩
def JW (q:iK) {m:Type} (u p:(List gJ)->Int->Int->Int->(List gI)->Option m) (y:Option m) (v:List gJ) (i j x:Int) (l:List gI):Option m:=cond (cZ 3 3) (cond (cZ i i) (cond (cZ j j) (cond (fG (bZ l [(3,(i,(0,(j,()))))]) 32) (cond (cZ 3 3) (cond (cZ i i) (cond (cZ j j) (cond ((cZ 3 3)&&((cZ i i)&&((cZ 0 0)&&((cZ j j)&&true)))) (bU (q.q98 v i (bZ l [(3,(i,(0,(j,()))))]) (bV l) x) fun g=>cond (iy g.1.2.2.1 (bV l)) (cond (qO (dM (bV l)) g.1.2.2.1) (bU (qm g.1.1 g.1.2.1 (jd g.1.2.2.1 (dM (bV l)) ((dU g.1.2.2.1 (0,(0,(0,(0,())))) (dM (bV l))).1,((dU g.1.2.2.1 (0,(0,(0,(0,())))) (dM (bV l))).2.1,(g.1.2.1,((dU g.1.2.2.1 (0,(0,(0,(0,())))) (dM (bV l))).2.2.2.1,()))))) j g.1.2.2.2.2.1 [59,38]) fun f=>cond f.2.1 (bU (rJ f.1.1 f.1.2.1 f.1.2.2.1 f.1.2.2.2.1 f.1.2.2.2.2.1) fun e=>bU (Ud e.1.1 e.1.2.1 e.1.2.2.1 e.1.2.2.2.1 e.1.2.2.2.2.1) fun d=>cond (!d.2.1) (p d.1.1 d.1.2.1 d.1.2.2.2.1 d.1.2.2.2.2.1 d.1.2.2.1)<|u d.1.1 d.1.2.1 d.1.2.2.2.1 d.1.2.2.2.2.1 d.1.2.2.1)<|bU (rJ f.1.1 f.1.2.1 f.1.2.2.1 f.1.2.2.2.1 f.1.2.2.2.2.1) fun e=>cond (!e.2.1) (p e.1.1 e.1.2.1 e.1.2.2.2.1 e.1.2.2.2.2.1 e.1.2.2.1)<|bU (Ud e.1.1 e.1.2.1 e.1.2.2.1 e.1.2.2.2.1 e.1.2.2.2.2.1) fun d=>cond (!d.2.1) (p d.1.1 d.1.2.1 d.1.2.2.2.1 d.1.2.2.2.2.1 d.1.2.2.1)<|u d.1.1 d.1.2.1 d.1.2.2.2.1 d.1.2.2.2.2.1 d.1.2.2.1) a7) a7) a7) a7) a7) a7) a7) a7) a7) a7
def jX (q:iK):Nat->(List gJ)->Int->Int->Int->(List gI)->Option (ahs.den⊕Vh.den)
 |0,_,_,_,_,_=>a7
 |n+1,d,e,f,g,i=>JW q (jX q n) (fun j l m p u=>a6 (.inl ((),((),()),((j,l,m,p,()),u,())))) (a6 (.inr ((),((),()),()))) d e f g i
def aCZ (q:iK) (n:Nat) (v:akE.den):=bh (jX q n) v
noncomputable def as7 (q:iK):dO:=gq az2 akE ahs Vh (.exit 0) (aCZ q bY) 6
def Zm (q:iK) (e:List gJ) (f:Int) (g:List gI) (i j:Int):Option vY:=bU (jX q bY e f i j g) fun l=>dX l (fun d=>a6 ((d.2.2.1.1,(d.2.2.1.2.1,(d.2.2.2.1,(d.2.2.1.2.2.1,(d.2.2.1.2.2.2.1,()))))),())) (fun m=>a7)
noncomputable def aqG (q:iK):Env:=iE prog tt [] [(73,0,az2),(73,600000,sN),(45,600003,lM)] [(73,0,as7 q)] [] [(71,GU),(72,YF),(98,avO q),(99,Ny)]
def aus (q:iK) {d:Type} (a:akE.den->Option d) (b:ahs.den->Option d) (c:Vh.den->Option d) (v:akE.den):Option d:=bh (JW q (bc a) (bc b) (c ((),((),()),()))) v
theorem aDz (q:iK):eY (aqG q) 73 azC (as7 q):=oq (aus q) (h2:=by intros;simp only[aus,bc,bh,JW,dG,dH,bT,dw,dI])
theorem aGO (q:iK):eP (aqG q) 73 b73:=tC [azC] (aD (fM (aDz q)) aN)
abbrev H73 (q:iK):Prop:=dV prog 73 (aif q)/\dV prog 98 (avO q)/\dV prog 139 (alD q)/\dV prog 174 (alF q)/\dV prog 215 (alI q)/\dV prog 212 (acH q)/\dV prog 255 (IK q)/\dV prog 234 (alJ q)/\dV prog 235 (alK q)/\dV prog 236 (alL q)/\dV prog 237 (alM q)/\dV prog 238 (alN q)/\dV prog 239 (alO q)/\dV prog 257 (alP q)/\dV prog 256 (acK q)
theorem aqH (q:iK) (H:H73 q):gm (aqG q):=eB aN [73] (aD ⟨f73,b73,by kernel_rfl,by kernel_rfl,aGO q⟩ aN) (hx:=(aD pK (aD GV (aD H.2.1 (aD xe aN)))))
noncomputable def b98:Code:=(f98.body).getD .skip
noncomputable def azG:Code:=cA (cA (cB (b98)))
def az6:fZ:=⟨[0,100001],[],[],[],[],[]⟩
def akI:SQ:=⟨us bE 9,cY,db⟩
def ahw:SQ:=⟨us [] 10,cY,db⟩
def ahR:SQ:=⟨us [] 10,cY,[]⟩
def JX (q:iK) {g:Type} (i j:(List gJ)->Int->Int->Int->(List gI)->Option g) (x:Option g) (l:List gJ) (m p u:Int) (v:List gI):Option g:=bU (qm l m v p u [97,111]) fun d=>cond d.2.1 (bU (rJ d.1.1 d.1.2.1 d.1.2.2.1 d.1.2.2.2.1 d.1.2.2.2.2.1) fun e=>bU (q.q139 e.1.1 e.1.2.1 e.1.2.2.1 e.1.2.2.2.1 e.1.2.2.2.2.1) fun f=>i f.1.1 f.1.2.1 f.1.2.2.2.1 f.1.2.2.2.2.1 f.1.2.2.1)<|j d.1.1 d.1.2.1 d.1.2.2.2.1 d.1.2.2.2.2.1 d.1.2.2.1
def xk (q:iK):Nat->(List gJ)->Int->Int->Int->(List gI)->Option (ahw.den⊕ahR.den)
 |0,_,_,_,_,_=>a7
 |n+1,d,e,f,g,i=>JX q (xk q n) (fun j l m p u=>a6 (.inl ((),((),()),((j,l,m,p,()),u,())))) (a6 (.inr ((),((),()),()))) d e f g i
def aC3 (q:iK) (n:Nat) (v:akI.den):=bh (xk q n) v
noncomputable def atb (q:iK):dO:=gq az6 akI ahw ahR (.exit 0) (aC3 q bY) 6
def ara (q:iK) (f:List gJ) (g:Int) (i:List gI) (j l:Int):Option vY:=bU (q.q139 f g i j l) fun d=>bU (xk q bY d.1.1 d.1.2.1 d.1.2.2.2.1 d.1.2.2.2.2.1 d.1.2.2.1) fun m=>dX m (fun e=>a6 ((e.2.2.1.1,(e.2.2.1.2.1,(e.2.2.2.1,(e.2.2.1.2.2.1,(e.2.2.1.2.2.2.1,()))))),())) (fun p=>a7)
noncomputable def aqO (q:iK):Env:=iE prog tt [] [(98,1,az6)] [(98,1,atb q)] [] [(71,GU),(99,Ny),(139,alD q)]
def auw (q:iK) {d:Type} (a:akI.den->Option d) (b:ahw.den->Option d) (c:ahR.den->Option d) (v:akI.den):Option d:=bh (JX q (bc a) (bc b) (c ((),((),()),()))) v
theorem aDD (q:iK):eY (aqO q) 98 azG (atb q):=oq (auw q) (h2:=by intros;simp only[auw,bc,bh,JX,dG,dH,bT,dw,dI])
theorem aGS (q:iK):eP (aqO q) 98 b98:=tC [azG] (aD (fM (aDD q)) aN)
theorem aqP (q:iK) (H:H73 q):gm (aqO q):=eB aN [98] (aD ⟨f98,b98,by kernel_rfl,by kernel_rfl,aGS q⟩ aN) (hx:=(aD pK (aD xe (aD H.2.2.1 aN))))
noncomputable def SB:Code:=(f173.body).getD .skip
noncomputable def SY:Code:=cA (cA (cB (cB (SB))))
def Ut:fZ:=⟨[0,174000002],[],[],[],[],[]⟩
def Ez:SQ:=⟨us [cH] 10,bR,[cj,bB,ck]⟩
def qJ:SQ:=⟨us [] 11,bR,[cj,bB,ck]⟩
def qK:SQ:=⟨us [] 11,bR,[]⟩
def qM (q:iK) {g:Type} (l m:Int->Int->(List gJ)->Int->Int->Int->(List gI)->Option g) (z:Int->Int->Option g) (i j:Int) (p:List gJ) (u v x:Int) (y:List gI):Option g:=bU (qm p u y v x [124]) fun d=>cond d.2.1 (bU (rJ d.1.1 d.1.2.1 d.1.2.2.1 d.1.2.2.2.1 d.1.2.2.2.2.1) fun e=>bU (q.q174 e.1.1 e.1.2.1 e.1.2.2.1 e.1.2.2.2.1 e.1.2.2.2.2.1) fun f=>l i j f.1.1 f.1.2.1 f.1.2.2.2.1 f.1.2.2.2.2.1 f.1.2.2.1)<|m i j d.1.1 d.1.2.1 d.1.2.2.2.1 d.1.2.2.2.2.1 d.1.2.2.1
def kM (q:iK):Nat->Int->Int->(List gJ)->Int->Int->Int->(List gI)->Option (qJ.den⊕qK.den)
 |0,_,_,_,_,_,_,_=>a7
 |n+1,d,e,f,g,i,j,l=>qM q (kM q n) (fun m p u v x y z=>a6 (.inl ((),((m,p,()),(),(),()),((),(u,v,x,y,()),z,())))) (fun A B=>a6 (.inr ((),((A,B,()),(),(),()),()))) d e f g i j l
def aeo (q:iK) (n:Nat) (v:Ez.den):=kM q n v.2.1.1.1 v.2.1.1.2.1 v.2.2.2.1.1 v.2.2.2.1.2.1 v.2.2.2.1.2.2.1 v.2.2.2.1.2.2.2.1 v.2.2.2.2.1
noncomputable def Qd (q:iK):dO:=gq Ut Ez qJ qK (.exit 0) (aeo q bY) 6
def TM (q:iK) (i:List gJ) (j:Int) (l:List gI) (m p:Int):Option vY:=bU (Ud i j l m p) fun d=>cond (!d.2.1) (bU (qc d.1.1 d.1.2.1 d.1.2.2.1 d.1.2.2.2.1 d.1.2.2.2.2.1) fun f=>a6 ((f.1.1,(f.1.2.1,(f.1.2.2.1,(f.1.2.2.2.1,(f.1.2.2.2.2.1,()))))),()))<|cond (cZ 4 4) (cond (cZ d.1.2.1 d.1.2.1) (cond (cZ d.1.2.2.2.1 d.1.2.2.2.1) (cond (fG (bZ d.1.2.2.1 [(4,(d.1.2.1,(0,(d.1.2.2.2.1,()))))]) 32) (cond (cZ 4 4) (cond (cZ d.1.2.1 d.1.2.1) (cond (cZ d.1.2.2.2.1 d.1.2.2.2.1) (cond ((cZ 4 4)&&((cZ d.1.2.1 d.1.2.1)&&((cZ 0 0)&&((cZ d.1.2.2.2.1 d.1.2.2.2.1)&&true)))) (bU (qm d.1.1 d.1.2.1 (bZ d.1.2.2.1 [(4,(d.1.2.1,(0,(d.1.2.2.2.1,()))))]) (bV d.1.2.2.1) d.1.2.2.2.2.1 [33]) fun f=>bU (q.q174 f.1.1 f.1.2.1 f.1.2.2.1 f.1.2.2.2.1 f.1.2.2.2.2.1) fun g=>bU (kM q bY (bV d.1.2.2.1) d.1.2.2.2.1 g.1.1 g.1.2.1 g.1.2.2.2.1 g.1.2.2.2.2.1 g.1.2.2.1) fun u=>dX u (fun e=>cond (iy e.2.2.2.2.1 e.2.1.1.1) (cond (qO (dM e.2.1.1.1) e.2.2.2.2.1) (a6 ((e.2.2.2.1.1,(e.2.2.2.1.2.1,((jd e.2.2.2.2.1 (dM e.2.1.1.1) ((dU e.2.2.2.2.1 (0,(0,(0,(0,())))) (dM e.2.1.1.1)).1,((dU e.2.2.2.2.1 (0,(0,(0,(0,())))) (dM e.2.1.1.1)).2.1,(e.2.2.2.1.2.1,((dU e.2.2.2.2.1 (0,(0,(0,(0,())))) (dM e.2.1.1.1)).2.2.2.1,()))))),(e.2.1.1.2.1,(e.2.2.2.1.2.2.2.1,()))))),())) a7) a7) (fun v=>a7)) a7) a7) a7) a7) a7) a7) a7) a7
noncomputable def agb (q:iK):Env:=iE prog tt [] [(173,2,Ut),(139,600003,ajA),(45,600003,lM)] [(173,2,Qd q)] [] [(71,GU),(72,YF),(99,Ny),(172,Pn),(174,alF q)]
def Qy (q:iK) {d:Type} (a:Ez.den->Option d) (b:qJ.den->Option d) (c:qK.den->Option d) (v:Ez.den):Option d:=qM q (fun e f g i j l m=>a ((),((e,f,()),(),(),()),((),(g,i,j,l,()),m,()))) (fun p u x y z A B=>b ((),((p,u,()),(),(),()),((),(x,y,z,A,()),B,()))) (fun D I=>c ((),((D,I,()),(),(),()),())) v.2.1.1.1 v.2.1.1.2.1 v.2.2.2.1.1 v.2.2.2.1.2.1 v.2.2.2.1.2.2.1 v.2.2.2.1.2.2.2.1 v.2.2.2.2.1
theorem aeL (q:iK):eY (agb q) 173 SY (Qd q):=oq (Qy q) (h2:=by intros;simp only[Qy,qM,dG,dH,bT,dw,dI])
theorem ag1 (q:iK):eP (agb q) 173 SB:=tC [SY] (aD (fM (aeL q)) aN)
theorem ams (q:iK) (H:H73 q):gm (agb q):=eB aN [173] (aD ⟨f173,SB,by kernel_rfl,by kernel_rfl,ag1 q⟩ aN) (hx:=(aD pK (aD GV (aD xe (aD vC (aD H.2.2.2.1 aN))))))
def P7:fZ:=⟨[0,1,2],[],[],[],[],[]⟩
def CV (q:iK) (i:List gJ) (j:Int) (l:List gI) (m p:Int):Option vY:=bU (XA i j l m p) fun g=>cond g.2.1 (bU (q.q212 g.1.1 g.1.2.1 g.1.2.2.1 g.1.2.2.2.1 g.1.2.2.2.2.1) fun e=>a6 ((e.1.1,(e.1.2.1,(e.1.2.2.1,(e.1.2.2.2.1,(e.1.2.2.2.2.1,()))))),()))<|bU (ai6 g.1.1 g.1.2.1 g.1.2.2.1 g.1.2.2.2.1 g.1.2.2.2.2.1) fun e=>cond e.2.1 (cond (cZ 16 16) (cond (cZ e.1.2.1 e.1.2.1) (cond (cZ e.1.2.2.2.1 e.1.2.2.2.1) (cond (fG (bZ e.1.2.2.1 [(16,(e.1.2.1,(0,(e.1.2.2.2.1,()))))]) 32) (cond (cZ 16 16) (cond (cZ e.1.2.1 e.1.2.1) (cond (cZ e.1.2.2.2.1 e.1.2.2.2.1) (cond ((cZ 16 16)&&((cZ e.1.2.1 e.1.2.1)&&((cZ 0 0)&&((cZ e.1.2.2.2.1 e.1.2.2.2.1)&&true)))) (bU (q.q215 e.1.1 e.1.2.1 (bZ e.1.2.2.1 [(16,(e.1.2.1,(0,(e.1.2.2.2.1,()))))]) (bV e.1.2.2.1) (dJ .i64 e.1.2.2.2.2.1 1)) fun d=>cond (iy d.1.2.2.1 (bV e.1.2.2.1)) (cond (qO (dM (bV e.1.2.2.1)) d.1.2.2.1) (a6 ((d.1.1,(d.1.2.1,((jd d.1.2.2.1 (dM (bV e.1.2.2.1)) ((dU d.1.2.2.1 (0,(0,(0,(0,())))) (dM (bV e.1.2.2.1))).1,((dU d.1.2.2.1 (0,(0,(0,(0,())))) (dM (bV e.1.2.2.1))).2.1,(d.1.2.1,((dU d.1.2.2.1 (0,(0,(0,(0,())))) (dM (bV e.1.2.2.1))).2.2.2.1,()))))),(e.1.2.2.2.1,((fO .i64 d.1.2.2.2.2.1 1),()))))),())) a7) a7) a7) a7) a7) a7) a7) a7) a7) a7)<|bU (arq e.1.1 e.1.2.1 e.1.2.2.1 e.1.2.2.2.1 e.1.2.2.2.2.1) fun d=>cond d.2.1 (cond (cZ 5 5) (cond (cZ d.1.2.1 d.1.2.1) (cond (cZ d.1.2.2.2.1 d.1.2.2.2.1) (cond (fG (bZ d.1.2.2.1 [(5,(d.1.2.1,(0,(d.1.2.2.2.1,()))))]) 32) (cond (cZ 5 5) (cond (cZ d.1.2.1 d.1.2.1) (cond (cZ d.1.2.2.2.1 d.1.2.2.2.1) (cond ((cZ 5 5)&&((cZ d.1.2.1 d.1.2.1)&&((cZ 0 0)&&((cZ d.1.2.2.2.1 d.1.2.2.2.1)&&true)))) (bU (XE d.1.1 d.1.2.1 (bZ d.1.2.2.1 [(5,(d.1.2.1,(0,(d.1.2.2.2.1,()))))]) (bV d.1.2.2.1) d.1.2.2.2.2.1) fun f=>cond (iy f.1.2.2.1 (bV d.1.2.2.1)) (cond (qO (dM (bV d.1.2.2.1)) f.1.2.2.1) (a6 ((f.1.1,(f.1.2.1,((jd f.1.2.2.1 (dM (bV d.1.2.2.1)) ((dU f.1.2.2.1 (0,(0,(0,(0,())))) (dM (bV d.1.2.2.1))).1,((dU f.1.2.2.1 (0,(0,(0,(0,())))) (dM (bV d.1.2.2.1))).2.1,(f.1.2.1,((dU f.1.2.2.1 (0,(0,(0,(0,())))) (dM (bV d.1.2.2.1))).2.2.2.1,()))))),(d.1.2.2.2.1,(f.1.2.2.2.2.1,()))))),())) a7) a7) a7) a7) a7) a7) a7) a7) a7) a7)<|bU (qc d.1.1 d.1.2.1 d.1.2.2.1 d.1.2.2.2.1 d.1.2.2.2.2.1) fun f=>a6 ((f.1.1,(f.1.2.1,(f.1.2.2.1,(f.1.2.2.2.1,(f.1.2.2.2.2.1,()))))),())
noncomputable def aBv (q:iK):Env:=iE prog tt [] [(174,600004,sN),(174,600006,sN),(45,600003,lM),(214,600001,P7)] [] [] [(97,aAK),(138,aia),(172,Pn),(212,acH q),(213,avf),(215,alI q),(216,avg)]
theorem amC (q:iK) (H:H73 q):gm (aBv q):=eB aN [] aN (hx:=(aD afx (aD Pj (aD vC (aD H.2.2.2.2.2.1 (aD aot (aD H.2.2.2.2.1 (aD aou aN))))))))
def ads (q:iK) (l:List gJ) (m:Int) (p:List gI) (u v:Int):Option vY:=bU (CX l m p u v) fun f=>bU (qm f.1.1 f.1.2.1 f.1.2.2.1 f.1.2.2.2.1 f.1.2.2.2.2.1 [40]) fun g=>bU (kJ g.1.1 g.1.2.1 g.1.2.2.1 g.1.2.2.2.1 g.1.2.2.2.2.1 [41]) fun i=>bU (rJ i.1.1 i.1.2.1 i.1.2.2.1 i.1.2.2.2.1 i.1.2.2.2.2.1) fun j=>bU (XA j.1.1 j.1.2.1 j.1.2.2.1 j.1.2.2.2.1 j.1.2.2.2.2.1) fun d=>cond d.2.1 (bU (q.q212 d.1.1 d.1.2.1 d.1.2.2.1 d.1.2.2.2.1 d.1.2.2.2.2.1) fun e=>a6 ((e.1.1,(e.1.2.1,(e.1.2.2.1,(e.1.2.2.2.1,(e.1.2.2.2.2.1,()))))),()))<|bU (qc d.1.1 d.1.2.1 d.1.2.2.1 d.1.2.2.2.1 d.1.2.2.2.2.1) fun e=>a6 ((e.1.1,(e.1.2.1,(e.1.2.2.1,(e.1.2.2.2.1,(e.1.2.2.2.2.1,()))))),())
noncomputable def aBy (q:iK):Env:=iE prog tt [] [] [] [] [(71,GU),(99,Ny),(138,aia),(172,Pn),(212,acH q),(243,acI),(244,GN)]
theorem amL (q:iK) (H:H73 q):gm (aBy q):=eB aN [] aN (hx:=(aD pK (aD xe (aD Pj (aD vC (aD H.2.2.2.2.2.1 (aD II (aD vF aN))))))))
noncomputable def SE:Code:=(Tryz.f240.body).getD .skip
noncomputable def qE:Code:=cA (cA (cB (cB (SE))))
def sW:fZ:=⟨[0,241000002],[],[],[],[],[]⟩
def asc:fZ:=⟨[1,2,3],[],[],[],[],[]⟩
def ED:SQ:=⟨eE,bx,d6⟩
def Gq:SQ:=⟨dt,bx,d6⟩
def Gx:SQ:=⟨dt,bx,[]⟩
def oQ (q:iK) {e:Type} (p u:Int->Int->Int->Int->Int->Int->(List gI)->(List gJ)->Int->Int->Int->Option e) (B:Int->Int->Int->Int->Int->Int->Option e) (f g i j l m:Int) (v:List gI) (x:List gJ) (y z A:Int):Option e:=bU (ui x y v z A) fun d=>cond d.2.1 (p f g i j l m d.1.2.2.1 d.1.1 d.1.2.1 d.1.2.2.2.1 d.1.2.2.2.2.1)<|u f g i j l m d.1.2.2.1 d.1.1 d.1.2.1 d.1.2.2.2.1 d.1.2.2.2.2.1
def jI (q:iK):Nat->Int->Int->Int->Int->Int->Int->(List gI)->(List gJ)->Int->Int->Int->Option (Gq.den⊕Gx.den)
 |0,_,_,_,_,_,_,_,_,_,_,_=>a7
 |n+1,d,e,f,g,i,j,l,m,p,u,v=>oQ q (jI q n) (fun x y z A B D I J K L M=>a6 (.inl ((),((x,y,()),(z,A,()),(B,D,()),(),()),((),(),I,(J,K,L,M,()),())))) (fun N O S U V W=>a6 (.inr ((),((N,O,()),(S,U,()),(V,W,()),(),()),()))) d e f g i j l m p u v
def aeq (q:iK) (n:Nat) (v:ED.den):=bl (jI q n) v
noncomputable def FY (q:iK):dO:=gq sW ED Gq Gx (.exit 0) (aeq q bY) 6
def xO:SQ:=⟨eE,bx,d8⟩
def BD:SQ:=⟨dt,bx,d8⟩
def BK:SQ:=⟨dt,bx,[]⟩
def l9 (q:iK) {e:Type} (p u:Int->Int->Int->Int->Int->Int->(List gI)->(List gJ)->Int->Int->Int->Option e) (B:Int->Int->Int->Int->Int->Int->Option e) (f g i j l m:Int) (v:List gI) (x:List gJ) (y z A:Int):Option e:=bU (ui x y v z A) fun d=>cond d.2.1 (p f g i j l m d.1.2.2.1 d.1.1 d.1.2.1 d.1.2.2.2.1 d.1.2.2.2.2.1)<|u f g i j l m d.1.2.2.1 d.1.1 d.1.2.1 d.1.2.2.2.1 d.1.2.2.2.2.1
def iY (q:iK):Nat->Int->Int->Int->Int->Int->Int->(List gI)->(List gJ)->Int->Int->Int->Option (BD.den⊕BK.den)
 |0,_,_,_,_,_,_,_,_,_,_,_=>a7
 |n+1,d,e,f,g,i,j,l,m,p,u,v=>l9 q (iY q n) (fun x y z A B D I J K L M=>a6 (.inl ((),((x,y,()),(z,A,()),(B,D,()),(),()),((),(),I,(J,K,L,M,()),())))) (fun N O S U V W=>a6 (.inr ((),((N,O,()),(S,U,()),(V,W,()),(),()),()))) d e f g i j l m p u v
def WI (q:iK) (n:Nat) (v:xO.den):=bl (iY q n) v
noncomputable def Bl (q:iK):dO:=gq sW xO BD BK (.exit 0) (WI q bY) 12
def xP:SQ:=⟨eE,bx,d9⟩
def BF:SQ:=⟨dt,bx,d9⟩
def BL:SQ:=⟨dt,bx,[]⟩
def mf (q:iK) {e:Type} (p u:Int->Int->Int->Int->Int->Int->(List gI)->(List gJ)->Int->Int->Int->Option e) (B:Int->Int->Int->Int->Int->Int->Option e) (f g i j l m:Int) (v:List gI) (x:List gJ) (y z A:Int):Option e:=bU (ui x y v z A) fun d=>cond d.2.1 (p f g i j l m d.1.2.2.1 d.1.1 d.1.2.1 d.1.2.2.2.1 d.1.2.2.2.2.1)<|u f g i j l m d.1.2.2.1 d.1.1 d.1.2.1 d.1.2.2.2.1 d.1.2.2.2.2.1
def iZ (q:iK):Nat->Int->Int->Int->Int->Int->Int->(List gI)->(List gJ)->Int->Int->Int->Option (BF.den⊕BL.den)
 |0,_,_,_,_,_,_,_,_,_,_,_=>a7
 |n+1,d,e,f,g,i,j,l,m,p,u,v=>mf q (iZ q n) (fun x y z A B D I J K L M=>a6 (.inl ((),((x,y,()),(z,A,()),(B,D,()),(),()),((),(),I,(J,K,L,M,()),())))) (fun N O S U V W=>a6 (.inr ((),((N,O,()),(S,U,()),(V,W,()),(),()),()))) d e f g i j l m p u v
def WJ (q:iK) (n:Nat) (v:xP.den):=bl (iZ q n) v
noncomputable def Bo (q:iK):dO:=gq sW xP BF BL (.exit 0) (WJ q bY) 18
def xQ:SQ:=⟨eE,bx,eb⟩
def BG:SQ:=⟨dt,bx,eb⟩
def BM:SQ:=⟨dt,bx,[]⟩
def mg (q:iK) {e:Type} (p u:Int->Int->Int->Int->Int->Int->(List gI)->(List gJ)->Int->Int->Int->Option e) (B:Int->Int->Int->Int->Int->Int->Option e) (f g i j l m:Int) (v:List gI) (x:List gJ) (y z A:Int):Option e:=bU (ui x y v z A) fun d=>cond d.2.1 (p f g i j l m d.1.2.2.1 d.1.1 d.1.2.1 d.1.2.2.2.1 d.1.2.2.2.2.1)<|u f g i j l m d.1.2.2.1 d.1.1 d.1.2.1 d.1.2.2.2.1 d.1.2.2.2.2.1
def ja (q:iK):Nat->Int->Int->Int->Int->Int->Int->(List gI)->(List gJ)->Int->Int->Int->Option (BG.den⊕BM.den)
 |0,_,_,_,_,_,_,_,_,_,_,_=>a7
 |n+1,d,e,f,g,i,j,l,m,p,u,v=>mg q (ja q n) (fun x y z A B D I J K L M=>a6 (.inl ((),((x,y,()),(z,A,()),(B,D,()),(),()),((),(),I,(J,K,L,M,()),())))) (fun N O S U V W=>a6 (.inr ((),((N,O,()),(S,U,()),(V,W,()),(),()),()))) d e f g i j l m p u v
def WL (q:iK) (n:Nat) (v:xQ.den):=bl (ja q n) v
noncomputable def Bq (q:iK):dO:=gq sW xQ BG BM (.exit 0) (WL q bY) 24
def xR:SQ:=⟨eE,bx,ec⟩
def BH:SQ:=⟨dt,bx,ec⟩
def BN:SQ:=⟨dt,bx,[]⟩
def mi (q:iK) {e:Type} (p u:Int->Int->Int->Int->Int->Int->(List gI)->(List gJ)->Int->Int->Int->Option e) (B:Int->Int->Int->Int->Int->Int->Option e) (f g i j l m:Int) (v:List gI) (x:List gJ) (y z A:Int):Option e:=bU (ui x y v z A) fun d=>cond d.2.1 (p f g i j l m d.1.2.2.1 d.1.1 d.1.2.1 d.1.2.2.2.1 d.1.2.2.2.2.1)<|u f g i j l m d.1.2.2.1 d.1.1 d.1.2.1 d.1.2.2.2.1 d.1.2.2.2.2.1
def jb (q:iK):Nat->Int->Int->Int->Int->Int->Int->(List gI)->(List gJ)->Int->Int->Int->Option (BH.den⊕BN.den)
 |0,_,_,_,_,_,_,_,_,_,_,_=>a7
 |n+1,d,e,f,g,i,j,l,m,p,u,v=>mi q (jb q n) (fun x y z A B D I J K L M=>a6 (.inl ((),((x,y,()),(z,A,()),(B,D,()),(),()),((),(),I,(J,K,L,M,()),())))) (fun N O S U V W=>a6 (.inr ((),((N,O,()),(S,U,()),(V,W,()),(),()),()))) d e f g i j l m p u v
def WM (q:iK) (n:Nat) (v:xR.den):=bl (jb q n) v
noncomputable def Bv (q:iK):dO:=gq sW xR BH BN (.exit 0) (WM q bY) 30
def xU:SQ:=⟨eE,bx,ef⟩
def BI:SQ:=⟨dt,bx,ef⟩
def BO:SQ:=⟨dt,bx,[]⟩
def mr (q:iK) {e:Type} (p u:Int->Int->Int->Int->Int->Int->(List gI)->(List gJ)->Int->Int->Int->Option e) (B:Int->Int->Int->Int->Int->Int->Option e) (f g i j l m:Int) (v:List gI) (x:List gJ) (y z A:Int):Option e:=bU (ui x y v z A) fun d=>cond d.2.1 (p f g i j l m d.1.2.2.1 d.1.1 d.1.2.1 d.1.2.2.2.1 d.1.2.2.2.2.1)<|u f g i j l m d.1.2.2.1 d.1.1 d.1.2.1 d.1.2.2.2.1 d.1.2.2.2.2.1
def jc (q:iK):Nat->Int->Int->Int->Int->Int->Int->(List gI)->(List gJ)->Int->Int->Int->Option (BI.den⊕BO.den)
 |0,_,_,_,_,_,_,_,_,_,_,_=>a7
 |n+1,d,e,f,g,i,j,l,m,p,u,v=>mr q (jc q n) (fun x y z A B D I J K L M=>a6 (.inl ((),((x,y,()),(z,A,()),(B,D,()),(),()),((),(),I,(J,K,L,M,()),())))) (fun N O S U V W=>a6 (.inr ((),((N,O,()),(S,U,()),(V,W,()),(),()),()))) d e f g i j l m p u v
def WN (q:iK) (n:Nat) (v:xU.den):=bl (jc q n) v
noncomputable def Bz (q:iK):dO:=gq sW xU BI BO (.exit 0) (WN q bY) 36
def jL (q:iK) (j:List gJ) (l:Int) (m:List gI) (p u:Int):Option vY:=bU (cond (cZ 9 9) (cond ((((cZ 9 9)&&true)&&(((qV og m m)&&(((qV tyC j j)&&((cZ l l)&&((cZ p p)&&((cZ u u)&&true))))&&true))&&true))&&true) (a6 ()) (a7)) (a7)) fun v=>bU (Lj j l m p u 0) fun d=>cond (cZ d.2.1 40) (cond (cZ 10 10) (cond (cZ d.1.2.1 d.1.2.1) (cond (cZ d.1.2.2.2.1 d.1.2.2.2.1) (cond (fG (bZ d.1.2.2.1 [(10,(d.1.2.1,(0,(d.1.2.2.2.1,()))))]) 32) (cond (cZ 10 10) (cond (cZ d.1.2.1 d.1.2.1) (cond (cZ d.1.2.2.2.1 d.1.2.2.2.1) (cond ((cZ 10 10)&&((cZ d.1.2.1 d.1.2.1)&&((cZ 0 0)&&((cZ d.1.2.2.2.1 d.1.2.2.2.1)&&true)))) (bU (q.q235 d.1.1 (dJ .i64 d.1.2.1 1) (bZ d.1.2.2.1 [(10,(d.1.2.1,(0,(d.1.2.2.2.1,()))))]) (bV d.1.2.2.1) (dJ .i64 d.1.2.2.2.2.1 1)) fun f=>bU (jI q bY (bV d.1.2.2.1) d.1.2.2.2.1 10 10 10 10 f.1.2.2.1 f.1.1 f.1.2.1 f.1.2.2.2.1 f.1.2.2.2.2.1) fun g=>dX g (fun e=>cond (iy e.2.2.2.2.1 e.2.1.1.1) (cond (qO (dM e.2.1.1.1) e.2.2.2.2.1) (a6 ((e.2.2.2.2.2.1.1,(e.2.2.2.2.2.1.2.1,((jd e.2.2.2.2.1 (dM e.2.1.1.1) ((dU e.2.2.2.2.1 (0,(0,(0,(0,())))) (dM e.2.1.1.1)).1,((dU e.2.2.2.2.1 (0,(0,(0,(0,())))) (dM e.2.1.1.1)).2.1,(e.2.2.2.2.2.1.2.1,((dU e.2.2.2.2.1 (0,(0,(0,(0,())))) (dM e.2.1.1.1)).2.2.2.1,()))))),(e.2.1.1.2.1,((fO .i64 e.2.2.2.2.2.1.2.2.2.1 1),()))))),())) a7) a7) (fun i=>a7)) a7) a7) a7) a7) a7) a7) a7) a7)<|cond (cZ d.2.1 105) (cond (cZ 11 11) (cond (cZ d.1.2.1 d.1.2.1) (cond (cZ d.1.2.2.2.1 d.1.2.2.2.1) (cond (fG (bZ d.1.2.2.1 [(11,(d.1.2.1,(0,(d.1.2.2.2.1,()))))]) 32) (cond (cZ 11 11) (cond (cZ d.1.2.1 d.1.2.1) (cond (cZ d.1.2.2.2.1 d.1.2.2.2.1) (cond ((cZ 11 11)&&((cZ d.1.2.1 d.1.2.1)&&((cZ 0 0)&&((cZ d.1.2.2.2.1 d.1.2.2.2.1)&&true)))) (bU (q.q236 d.1.1 (dJ .i64 d.1.2.1 1) (bZ d.1.2.2.1 [(11,(d.1.2.1,(0,(d.1.2.2.2.1,()))))]) (bV d.1.2.2.1) (dJ .i64 d.1.2.2.2.2.1 1)) fun f=>bU (iY q bY (bV d.1.2.2.1) d.1.2.2.2.1 11 11 11 11 f.1.2.2.1 f.1.1 f.1.2.1 f.1.2.2.2.1 f.1.2.2.2.2.1) fun g=>dX g (fun e=>cond (iy e.2.2.2.2.1 e.2.1.1.1) (cond (qO (dM e.2.1.1.1) e.2.2.2.2.1) (a6 ((e.2.2.2.2.2.1.1,(e.2.2.2.2.2.1.2.1,((jd e.2.2.2.2.1 (dM e.2.1.1.1) ((dU e.2.2.2.2.1 (0,(0,(0,(0,())))) (dM e.2.1.1.1)).1,((dU e.2.2.2.2.1 (0,(0,(0,(0,())))) (dM e.2.1.1.1)).2.1,(e.2.2.2.2.2.1.2.1,((dU e.2.2.2.2.1 (0,(0,(0,(0,())))) (dM e.2.1.1.1)).2.2.2.1,()))))),(e.2.1.1.2.1,((fO .i64 e.2.2.2.2.2.1.2.2.2.1 1),()))))),())) a7) a7) (fun i=>a7)) a7) a7) a7) a7) a7) a7) a7) a7)<|cond (cZ d.2.1 119) (cond (cZ 12 12) (cond (cZ d.1.2.1 d.1.2.1) (cond (cZ d.1.2.2.2.1 d.1.2.2.2.1) (cond (fG (bZ d.1.2.2.1 [(12,(d.1.2.1,(0,(d.1.2.2.2.1,()))))]) 32) (cond (cZ 12 12) (cond (cZ d.1.2.1 d.1.2.1) (cond (cZ d.1.2.2.2.1 d.1.2.2.2.1) (cond ((cZ 12 12)&&((cZ d.1.2.1 d.1.2.1)&&((cZ 0 0)&&((cZ d.1.2.2.2.1 d.1.2.2.2.1)&&true)))) (bU (q.q237 d.1.1 (dJ .i64 d.1.2.1 1) (bZ d.1.2.2.1 [(12,(d.1.2.1,(0,(d.1.2.2.2.1,()))))]) (bV d.1.2.2.1) (dJ .i64 d.1.2.2.2.2.1 1)) fun f=>bU (iZ q bY (bV d.1.2.2.1) d.1.2.2.2.1 12 12 12 12 f.1.2.2.1 f.1.1 f.1.2.1 f.1.2.2.2.1 f.1.2.2.2.2.1) fun g=>dX g (fun e=>cond (iy e.2.2.2.2.1 e.2.1.1.1) (cond (qO (dM e.2.1.1.1) e.2.2.2.2.1) (a6 ((e.2.2.2.2.2.1.1,(e.2.2.2.2.2.1.2.1,((jd e.2.2.2.2.1 (dM e.2.1.1.1) ((dU e.2.2.2.2.1 (0,(0,(0,(0,())))) (dM e.2.1.1.1)).1,((dU e.2.2.2.2.1 (0,(0,(0,(0,())))) (dM e.2.1.1.1)).2.1,(e.2.2.2.2.2.1.2.1,((dU e.2.2.2.2.1 (0,(0,(0,(0,())))) (dM e.2.1.1.1)).2.2.2.1,()))))),(e.2.1.1.2.1,((fO .i64 e.2.2.2.2.2.1.2.2.2.1 1),()))))),())) a7) a7) (fun i=>a7)) a7) a7) a7) a7) a7) a7) a7) a7)<|cond (cZ d.2.1 114) (cond (cZ 13 13) (cond (cZ d.1.2.1 d.1.2.1) (cond (cZ d.1.2.2.2.1 d.1.2.2.2.1) (cond (fG (bZ d.1.2.2.1 [(13,(d.1.2.1,(0,(d.1.2.2.2.1,()))))]) 32) (cond (cZ 13 13) (cond (cZ d.1.2.1 d.1.2.1) (cond (cZ d.1.2.2.2.1 d.1.2.2.2.1) (cond ((cZ 13 13)&&((cZ d.1.2.1 d.1.2.1)&&((cZ 0 0)&&((cZ d.1.2.2.2.1 d.1.2.2.2.1)&&true)))) (bU (q.q238 d.1.1 (dJ .i64 d.1.2.1 1) (bZ d.1.2.2.1 [(13,(d.1.2.1,(0,(d.1.2.2.2.1,()))))]) (bV d.1.2.2.1) (dJ .i64 d.1.2.2.2.2.1 1)) fun f=>bU (ja q bY (bV d.1.2.2.1) d.1.2.2.2.1 13 13 13 13 f.1.2.2.1 f.1.1 f.1.2.1 f.1.2.2.2.1 f.1.2.2.2.2.1) fun g=>dX g (fun e=>cond (iy e.2.2.2.2.1 e.2.1.1.1) (cond (qO (dM e.2.1.1.1) e.2.2.2.2.1) (a6 ((e.2.2.2.2.2.1.1,(e.2.2.2.2.2.1.2.1,((jd e.2.2.2.2.1 (dM e.2.1.1.1) ((dU e.2.2.2.2.1 (0,(0,(0,(0,())))) (dM e.2.1.1.1)).1,((dU e.2.2.2.2.1 (0,(0,(0,(0,())))) (dM e.2.1.1.1)).2.1,(e.2.2.2.2.2.1.2.1,((dU e.2.2.2.2.1 (0,(0,(0,(0,())))) (dM e.2.1.1.1)).2.2.2.1,()))))),(e.2.1.1.2.1,((fO .i64 e.2.2.2.2.2.1.2.2.2.1 1),()))))),())) a7) a7) (fun i=>a7)) a7) a7) a7) a7) a7) a7) a7) a7)<|cond (cZ d.2.1 99) (cond (cZ 14 14) (cond (cZ d.1.2.1 d.1.2.1) (cond (cZ d.1.2.2.2.1 d.1.2.2.2.1) (cond (fG (bZ d.1.2.2.1 [(14,(d.1.2.1,(0,(d.1.2.2.2.1,()))))]) 32) (cond (cZ 14 14) (cond (cZ d.1.2.1 d.1.2.1) (cond (cZ d.1.2.2.2.1 d.1.2.2.2.1) (cond ((cZ 14 14)&&((cZ d.1.2.1 d.1.2.1)&&((cZ 0 0)&&((cZ d.1.2.2.2.1 d.1.2.2.2.1)&&true)))) (bU (q.q239 d.1.1 (dJ .i64 d.1.2.1 1) (bZ d.1.2.2.1 [(14,(d.1.2.1,(0,(d.1.2.2.2.1,()))))]) (bV d.1.2.2.1) (dJ .i64 d.1.2.2.2.2.1 1)) fun f=>bU (jb q bY (bV d.1.2.2.1) d.1.2.2.2.1 14 14 14 14 f.1.2.2.1 f.1.1 f.1.2.1 f.1.2.2.2.1 f.1.2.2.2.2.1) fun g=>dX g (fun e=>cond (iy e.2.2.2.2.1 e.2.1.1.1) (cond (qO (dM e.2.1.1.1) e.2.2.2.2.1) (a6 ((e.2.2.2.2.2.1.1,(e.2.2.2.2.2.1.2.1,((jd e.2.2.2.2.1 (dM e.2.1.1.1) ((dU e.2.2.2.2.1 (0,(0,(0,(0,())))) (dM e.2.1.1.1)).1,((dU e.2.2.2.2.1 (0,(0,(0,(0,())))) (dM e.2.1.1.1)).2.1,(e.2.2.2.2.2.1.2.1,((dU e.2.2.2.2.1 (0,(0,(0,(0,())))) (dM e.2.1.1.1)).2.2.2.1,()))))),(e.2.1.1.2.1,((fO .i64 e.2.2.2.2.2.1.2.2.2.1 1),()))))),())) a7) a7) (fun i=>a7)) a7) a7) a7) a7) a7) a7) a7) a7)<|cond (cZ 9 9) (cond (cZ d.1.2.1 d.1.2.1) (cond (cZ d.1.2.2.2.1 d.1.2.2.2.1) (cond (fG (bZ d.1.2.2.1 [(9,(d.1.2.1,(0,(d.1.2.2.2.1,()))))]) 32) (cond (cZ 9 9) (cond (cZ d.1.2.1 d.1.2.1) (cond (cZ d.1.2.2.2.1 d.1.2.2.2.1) (cond ((cZ 9 9)&&((cZ d.1.2.1 d.1.2.1)&&((cZ 0 0)&&((cZ d.1.2.2.2.1 d.1.2.2.2.1)&&true)))) (bU (q.q234 d.1.1 (dJ .i64 d.1.2.1 1) (bZ d.1.2.2.1 [(9,(d.1.2.1,(0,(d.1.2.2.2.1,()))))]) (bV d.1.2.2.1) (dJ .i64 d.1.2.2.2.2.1 1)) fun f=>bU (jc q bY (bV d.1.2.2.1) d.1.2.2.2.1 9 9 9 9 f.1.2.2.1 f.1.1 f.1.2.1 f.1.2.2.2.1 f.1.2.2.2.2.1) fun g=>dX g (fun e=>cond (iy e.2.2.2.2.1 e.2.1.1.1) (cond (qO (dM e.2.1.1.1) e.2.2.2.2.1) (a6 ((e.2.2.2.2.2.1.1,(e.2.2.2.2.2.1.2.1,((jd e.2.2.2.2.1 (dM e.2.1.1.1) ((dU e.2.2.2.2.1 (0,(0,(0,(0,())))) (dM e.2.1.1.1)).1,((dU e.2.2.2.2.1 (0,(0,(0,(0,())))) (dM e.2.1.1.1)).2.1,(e.2.2.2.2.2.1.2.1,((dU e.2.2.2.2.1 (0,(0,(0,(0,())))) (dM e.2.1.1.1)).2.2.2.1,()))))),(e.2.1.1.2.1,((fO .i64 e.2.2.2.2.2.1.2.2.2.1 1),()))))),())) a7) a7) (fun i=>a7)) a7) a7) a7) a7) a7) a7) a7) a7
noncomputable def D5 (q:iK):Env:=iE prog tt [] [(240,2,sW),(212,600013,asc),(214,600001,P7),(45,600003,lM),(240,600001,Ed)] [(240,2,nD (FY q) (nD (Bl q) (nD (Bo q) (nD (Bq q) (nD (Bv q) ((Bz q)))))))] [] [(96,avN),(234,alJ q),(235,alK q),(236,alL q),(237,alM q),(238,alN q),(239,alO q),(241,aid)]
def QA (q:iK) {d:Type} (a:ED.den->Option d) (b:Gq.den->Option d) (c:Gx.den->Option d) (v:ED.den):Option d:=bl (oQ q (bj a) (bj b) (bk c)) v
theorem aeN (q:iK):eY (D5 q) 240 qE (FY q):=oq (QA q) (h2:=by intros;simp only[QA,bj,bk,bl,oQ,dG,dH,bT,dw,dI])
def Jf (q:iK) {d:Type} (a:xO.den->Option d) (b:BD.den->Option d) (c:BK.den->Option d) (v:xO.den):Option d:=bl (l9 q (bj a) (bj b) (bk c)) v
theorem WR (q:iK):eY (D5 q) 240 qE (Bl q):=oq (Jf q) (h2:=by intros;simp only[Jf,bj,bk,bl,l9,dG,dH,bT,dw,dI])
def Jg (q:iK) {d:Type} (a:xP.den->Option d) (b:BF.den->Option d) (c:BL.den->Option d) (v:xP.den):Option d:=bl (mf q (bj a) (bj b) (bk c)) v
theorem WS (q:iK):eY (D5 q) 240 qE (Bo q):=oq (Jg q) (h2:=by intros;simp only[Jg,bj,bk,bl,mf,dG,dH,bT,dw,dI])
def Jh (q:iK) {d:Type} (a:xQ.den->Option d) (b:BG.den->Option d) (c:BM.den->Option d) (v:xQ.den):Option d:=bl (mg q (bj a) (bj b) (bk c)) v
theorem WT (q:iK):eY (D5 q) 240 qE (Bq q):=oq (Jh q) (h2:=by intros;simp only[Jh,bj,bk,bl,mg,dG,dH,bT,dw,dI])
def Ji (q:iK) {d:Type} (a:xR.den->Option d) (b:BH.den->Option d) (c:BN.den->Option d) (v:xR.den):Option d:=bl (mi q (bj a) (bj b) (bk c)) v
theorem WU (q:iK):eY (D5 q) 240 qE (Bv q):=oq (Ji q) (h2:=by intros;simp only[Ji,bj,bk,bl,mi,dG,dH,bT,dw,dI])
def Jj (q:iK) {d:Type} (a:xU.den->Option d) (b:BI.den->Option d) (c:BO.den->Option d) (v:xU.den):Option d:=bl (mr q (bj a) (bj b) (bk c)) v
theorem WV (q:iK):eY (D5 q) 240 qE (Bz q):=oq (Jj q) (h2:=by intros;simp only[Jj,bj,bk,bl,mr,dG,dH,bT,dw,dI])
theorem ag3 (q:iK):eP (D5 q) 240 SE:=tC [qE] (aD (fun L h=>by rw[show((D5 q)).lp 240 (dN qE)=a6 (nD (FY q) (nD (Bl q) (nD (Bo q) (nD (Bq q) (nD (Bv q) ((Bz q))))))) by kernel_rfl]at h;cases h;exact uU (aeN q) (uU (WR q) (uU (WS q) (uU (WT q) (uU (WU q) ((WV q))))))) aN)
theorem amK (q:iK) (H:H73 q):gm (D5 q):=eB aN [240] (aD ⟨Tryz.f240,SE,by kernel_rfl,by kernel_rfl,ag3 q⟩ aN) (hx:=(aD zL (aD H.2.2.2.2.2.2.2.1 (aD H.2.2.2.2.2.2.2.2.1 (aD H.2.2.2.2.2.2.2.2.2.1 (aD H.2.2.2.2.2.2.2.2.2.2.1 (aD H.2.2.2.2.2.2.2.2.2.2.2.1 (aD H.2.2.2.2.2.2.2.2.2.2.2.2.1 (aD YC aN)))))))))
def KW (q:iK) (g:List gJ) (i:Int) (j:List gI) (l m:Int):Option vY:=bU (rJ g i j l m) fun f=>bU (Ud f.1.1 f.1.2.1 f.1.2.2.1 f.1.2.2.2.1 f.1.2.2.2.2.1) fun d=>cond d.2.1 (cond (cZ 2 2) (cond (cZ d.1.2.1 d.1.2.1) (cond (cZ d.1.2.2.2.1 d.1.2.2.2.1) (cond (fG (bZ d.1.2.2.1 [(2,(d.1.2.1,(0,(d.1.2.2.2.1,()))))]) 32) (cond (cZ 2 2) (cond (cZ d.1.2.1 d.1.2.1) (cond (cZ d.1.2.2.2.1 d.1.2.2.2.1) (cond ((cZ 2 2)&&((cZ d.1.2.1 d.1.2.1)&&((cZ 0 0)&&((cZ d.1.2.2.2.1 d.1.2.2.2.1)&&true)))) (bU (q.q73 d.1.1 d.1.2.1 (bZ d.1.2.2.1 [(2,(d.1.2.1,(0,(d.1.2.2.2.1,()))))]) (bV d.1.2.2.1) d.1.2.2.2.2.1) fun e=>cond (iy e.1.2.2.1 (bV d.1.2.2.1)) (cond (qO (dM (bV d.1.2.2.1)) e.1.2.2.1) (a6 ((e.1.1,(e.1.2.1,((jd e.1.2.2.1 (dM (bV d.1.2.2.1)) ((dU e.1.2.2.1 (0,(0,(0,(0,())))) (dM (bV d.1.2.2.1))).1,((dU e.1.2.2.1 (0,(0,(0,(0,())))) (dM (bV d.1.2.2.1))).2.1,(e.1.2.1,((dU e.1.2.2.1 (0,(0,(0,(0,())))) (dM (bV d.1.2.2.1))).2.2.2.1,()))))),(d.1.2.2.2.1,(e.1.2.2.2.2.1,()))))),())) a7) a7) a7) a7) a7) a7) a7) a7) a7) a7)<|bU (qc d.1.1 d.1.2.1 d.1.2.2.1 d.1.2.2.2.1 d.1.2.2.2.2.1) fun e=>a6 ((e.1.1,(e.1.2.1,(e.1.2.2.1,(e.1.2.2.2.1,(e.1.2.2.2.2.1,()))))),())
noncomputable def aBC (q:iK):Env:=iE prog tt [] [(255,600002,sN),(45,600003,lM)] [] [] [(72,YF),(73,aif q),(99,Ny),(172,Pn)]
theorem amV (q:iK) (H:H73 q):gm (aBC q):=eB aN [] aN (hx:=(aD GV (aD H.1 (aD xe (aD vC aN)))))
def KR (q:iK) (f:List gJ) (g:Int) (i:List gI) (j l:Int):Option vY:=bU (q.q255 f g i j l) fun d=>bU (kJ d.1.1 d.1.2.1 d.1.2.2.1 d.1.2.2.2.1 d.1.2.2.2.2.1 [125]) fun e=>a6 ((e.1.1,(e.1.2.1,(e.1.2.2.1,(e.1.2.2.2.1,(e.1.2.2.2.2.1,()))))),())
noncomputable def aBz (q:iK):Env:=iE prog tt [] [] [] [] [(244,GN),(255,IK q)]
theorem amO (q:iK) (H:H73 q):gm (aBz q):=eB aN [] aN (hx:=(aD vF (aD H.2.2.2.2.2.2.1 aN)))
def KT (q:iK) (f:List gJ) (g:Int) (i:List gI) (j l:Int):Option vY:=bU (q.q255 f g i j l) fun d=>bU (kJ d.1.1 d.1.2.1 d.1.2.2.1 d.1.2.2.2.1 d.1.2.2.2.2.1 [41]) fun e=>a6 ((e.1.1,(e.1.2.1,(e.1.2.2.1,(e.1.2.2.2.1,(e.1.2.2.2.2.1,()))))),())
noncomputable def aBA (q:iK):Env:=iE prog tt [] [] [] [] [(244,GN),(255,IK q)]
theorem amP (q:iK) (H:H73 q):gm (aBA q):=eB aN [] aN (hx:=(aD vF (aD H.2.2.2.2.2.2.1 aN)))
noncomputable def aBb:Code:=(f236.body).getD .skip
noncomputable def apB:Code:=cA (cA (cA (cB (cB (cB (aBb))))))
def ar5:fZ:=⟨[0,100003],[],[0],[],[],[]⟩
def aaI:SQ:=⟨us bE 21,cY,db⟩
def MH:SQ:=⟨us bE 21,cY,db⟩
def ML:SQ:=⟨us [] 22,cY,[]⟩
def EQ (q:iK) {i:Type} (j l:(List gJ)->Int->Int->Int->(List gI)->Option i) (y:Option i) (m:List gJ) (p u v:Int) (x:List gI):Option i:=bU (qm m p x u v [101]) fun d=>cond d.2.1 (bU (q.q255 d.1.1 d.1.2.1 d.1.2.2.1 d.1.2.2.2.1 d.1.2.2.2.2.1) fun e=>bU (kJ e.1.1 e.1.2.1 e.1.2.2.1 e.1.2.2.2.1 e.1.2.2.2.2.1 [116]) fun f=>bU (q.q255 f.1.1 f.1.2.1 f.1.2.2.1 f.1.2.2.2.1 f.1.2.2.2.2.1) fun g=>j g.1.1 g.1.2.1 g.1.2.2.2.1 g.1.2.2.2.2.1 g.1.2.2.1)<|l d.1.1 d.1.2.1 d.1.2.2.2.1 d.1.2.2.2.2.1 d.1.2.2.1
def ut (q:iK):Nat->(List gJ)->Int->Int->Int->(List gI)->Option (MH.den⊕ML.den)
 |0,_,_,_,_,_=>a7
 |n+1,d,e,f,g,i=>EQ q (ut q n) (fun j l m p u=>a6 (.inl ((),((),()),((j,l,m,p,()),u,())))) (a6 (.inr ((),((),()),()))) d e f g i
def ax6 (q:iK) (n:Nat) (v:aaI.den):=bh (ut q n) v
noncomputable def aj7 (q:iK):dO:=gq ar5 aaI MH ML (.exit 0) (ax6 q bY) 6
def TN (q:iK) (m:List gJ) (p:Int) (u:List gI) (v x:Int):Option vY:=bU (q.q255 m p u v x) fun f=>bU (kJ f.1.1 f.1.2.1 f.1.2.2.1 f.1.2.2.2.1 f.1.2.2.2.2.1 [116]) fun g=>bU (q.q255 g.1.1 g.1.2.1 g.1.2.2.1 g.1.2.2.2.1 g.1.2.2.2.2.1) fun i=>bU (ut q bY i.1.1 i.1.2.1 i.1.2.2.2.1 i.1.2.2.2.2.1 i.1.2.2.1) fun y=>dX y (fun j=>bU (qm j.2.2.1.1 j.2.2.1.2.1 j.2.2.2.1 j.2.2.1.2.2.1 j.2.2.1.2.2.2.1 [108]) fun d=>cond d.2.1 (bU (q.q255 d.1.1 d.1.2.1 d.1.2.2.1 d.1.2.2.2.1 d.1.2.2.2.2.1) fun e=>bU (kJ e.1.1 e.1.2.1 e.1.2.2.1 e.1.2.2.2.1 e.1.2.2.2.2.1 [102]) fun l=>a6 ((l.1.1,(l.1.2.1,(l.1.2.2.1,(l.1.2.2.2.1,(l.1.2.2.2.2.1,()))))),()))<|bU (kJ d.1.1 d.1.2.1 d.1.2.2.1 d.1.2.2.2.1 d.1.2.2.2.2.1 [102]) fun e=>a6 ((e.1.1,(e.1.2.1,(e.1.2.2.1,(e.1.2.2.2.1,(e.1.2.2.2.2.1,()))))),())) (fun z=>a7)
noncomputable def agn (q:iK):Env:=iE prog tt [] [(236,3,ar5)] [(236,3,aj7 q)] [] [(71,GU),(244,GN),(255,IK q)]
def aln (q:iK) {d:Type} (a:aaI.den->Option d) (b:MH.den->Option d) (c:ML.den->Option d) (v:aaI.den):Option d:=bh (EQ q (bc a) (bc b) (c ((),((),()),()))) v
theorem ayF (q:iK):eY (agn q) 236 apB (aj7 q):=oq (aln q) (h2:=by intros;simp only[aln,bc,bh,EQ,dG,dH,bT,dw,dI])
theorem aCy (q:iK):eP (agn q) 236 aBb:=tC [apB] (aD (fM (ayF q)) aN)
theorem amQ (q:iK) (H:H73 q):gm (agn q):=eB aN [236] (aD ⟨f236,aBb,by kernel_rfl,by kernel_rfl,aCy q⟩ aN) (hx:=(aD pK (aD vF (aD H.2.2.2.2.2.2.1 aN))))
def PP (q:iK) (f:List gJ) (g:Int) (i:List gI) (j l:Int):Option vY:=bU (q.q255 f g i j l) fun d=>bU (q.q256 d.1.1 d.1.2.1 d.1.2.2.1 d.1.2.2.2.1 d.1.2.2.2.2.1) fun e=>a6 ((e.1.1,(e.1.2.1,(e.1.2.2.1,(e.1.2.2.2.1,(e.1.2.2.2.2.1,()))))),())
noncomputable def aBB (q:iK):Env:=iE prog tt [] [] [] [] [(255,IK q),(256,acK q)]
theorem amR (q:iK) (H:H73 q):gm (aBB q):=eB aN [] aN (hx:=(aD H.2.2.2.2.2.2.1 (aD H.2.2.2.2.2.2.2.2.2.2.2.2.2.2 aN)))
noncomputable def aBc:Code:=(f238.body).getD .skip
noncomputable def apC:Code:=cA (cA (cA (cA (cB (cB (cB (cB (cA (cB (aBc))))))))))
def ar6:fZ:=⟨[0,100007],[],[0],[],[],[]⟩
def aaJ:SQ:=⟨us bE 47,cY,db⟩
def abb:SQ:=⟨us bE 47,cY,db⟩
def abK:SQ:=⟨us [] 48,cY,[]⟩
def ER (q:iK) {f:Type} (g i:(List gJ)->Int->Int->Int->(List gI)->Option f) (v:Option f) (j:List gJ) (l m p:Int) (u:List gI):Option f:=bU (Lh j l u m p) fun d=>cond d.2.1 (bU (QK d.1.1 d.1.2.1 d.1.2.2.1 d.1.2.2.2.1 d.1.2.2.2.2.1 7) fun e=>g e.1.1 e.1.2.1 e.1.2.2.2.1 e.1.2.2.2.2.1 e.1.2.2.1)<|i d.1.1 d.1.2.1 d.1.2.2.2.1 d.1.2.2.2.2.1 d.1.2.2.1
def sO (q:iK):Nat->(List gJ)->Int->Int->Int->(List gI)->Option (abb.den⊕abK.den)
 |0,_,_,_,_,_=>a7
 |n+1,d,e,f,g,i=>ER q (sO q n) (fun j l m p u=>a6 (.inl ((),((),()),((j,l,m,p,()),u,())))) (a6 (.inr ((),((),()),()))) d e f g i
def ax7 (q:iK) (n:Nat) (v:aaJ.den):=bh (sO q n) v
noncomputable def aj8 (q:iK):dO:=gq ar6 aaJ abb abK (.exit 0) (ax7 q bY) 6
def KU (q:iK) (d:taM):Option vY:=bU (q.q256 d.1.1 d.1.2.1 d.1.2.2.1 d.1.2.2.2.1 d.1.2.2.2.2.1) fun e=>a6 ((e.1.1,(e.1.2.1,(e.1.2.2.1,(e.1.2.2.2.1,(e.1.2.2.2.2.1,()))))),())
def QS (j:vY) (q:iK):Option vY:=bU (qm j.1.1 j.1.2.1 j.1.2.2.1 j.1.2.2.2.1 j.1.2.2.2.2.1 [59]) fun d=>cond d.2.1 (bU (rJ d.1.1 d.1.2.1 d.1.2.2.1 d.1.2.2.2.1 d.1.2.2.2.2.1) fun f=>KU q f)<|bU (rJ d.1.1 d.1.2.1 d.1.2.2.1 d.1.2.2.2.1 d.1.2.2.2.2.1) fun f=>bU (qm f.1.1 f.1.2.1 f.1.2.2.1 f.1.2.2.2.1 f.1.2.2.2.2.1 [107]) fun g=>cond g.2.1 (bU (sO q bY g.1.1 g.1.2.1 g.1.2.2.2.1 g.1.2.2.2.2.1 g.1.2.2.1) fun u=>dX u (fun l=>bU (qm l.2.2.1.1 l.2.2.1.2.1 l.2.2.2.1 l.2.2.1.2.2.1 l.2.2.1.2.2.2.1 [59]) fun i=>bU (rJ i.1.1 i.1.2.1 i.1.2.2.1 i.1.2.2.2.1 i.1.2.2.2.2.1) fun e=>cond (!e.2.1) (cond (!i.2.1) (bU (qc e.1.1 e.1.2.1 e.1.2.2.1 e.1.2.2.2.1 e.1.2.2.2.2.1) fun m=>bU (q.q256 m.1.1 m.1.2.1 m.1.2.2.1 m.1.2.2.2.1 m.1.2.2.2.2.1) fun p=>a6 ((p.1.1,(p.1.2.1,(p.1.2.2.1,(p.1.2.2.2.1,(p.1.2.2.2.2.1,()))))),()))<|KU q e)<|KU q e) (fun v=>a7))<|KU q g
def TP (q:iK) (g:List gJ) (i:Int) (j:List gI) (l m:Int):Option vY:=bU (Lh g i j l m) fun d=>cond d.2.1 (cond (iy d.1.1 d.1.2.1) (bU (XH (gW d.1.1 (0,([],(0,(0,())))) d.1.2.1).2.1) fun e=>cond e.1 (bU (QK d.1.1 d.1.2.1 d.1.2.2.1 d.1.2.2.2.1 d.1.2.2.2.2.1 7) fun f=>QS f q)<|bU (qc d.1.1 d.1.2.1 d.1.2.2.1 d.1.2.2.2.1 d.1.2.2.2.2.1) fun f=>QS f q) a7)<|bU (qc d.1.1 d.1.2.1 d.1.2.2.1 d.1.2.2.2.1 d.1.2.2.2.2.1) fun e=>QS e q
noncomputable def agp (q:iK):Env:=iE prog tt [(242,avk)] [(238,7,ar6)] [(238,7,aj8 q)] [] [(71,GU),(74,alS),(99,Ny),(172,Pn),(245,acJ),(256,acK q)]
def alo (q:iK) {d:Type} (a:aaJ.den->Option d) (b:abb.den->Option d) (c:abK.den->Option d) (v:aaJ.den):Option d:=bh (ER q (bc a) (bc b) (c ((),((),()),()))) v
theorem ayG (q:iK):eY (agp q) 238 apC (aj8 q):=oq (alo q) (h2:=by intros;simp only[alo,bc,bh,ER,dG,dH,bT,dw,dI])
theorem aCz (q:iK):eP (agp q) 238 aBc:=tC [apC] (aD (fM (ayG q)) aN)
theorem amS (q:iK) (H:H73 q):gm (agp q):=eB (aD YD aN) [238] (aD ⟨f238,aBc,by kernel_rfl,by kernel_rfl,aCz q⟩ aN) (hx:=(aD pK (aD Nw (aD xe (aD vC (aD IJ (aD H.2.2.2.2.2.2.2.2.2.2.2.2.2.2 aN)))))))
noncomputable def aBd:Code:=(f239.body).getD .skip
noncomputable def apD:Code:=cA (cA (cA (cB (cB (cB (cB (cB (cA (aBd)))))))))
def ar7:fZ:=⟨[0,100004],[],[0],[],[],[]⟩
def aaK:SQ:=⟨us bE 31,cY,db⟩
def abd:SQ:=⟨us bE 31,cY,db⟩
def abL:SQ:=⟨us [] 32,cY,[]⟩
def IA (q:iK) {m:Type} (p l:(List gJ)->Int->Int->Int->(List gI)->Option m) (A:Option m) (u:List gJ) (v x y:Int) (z:List gI):Option m:=bU (am8 u v z x y [40]) fun e=>cond e.2.1 (cond (cZ 15 15) (cond (cZ e.1.2.1 e.1.2.1) (cond (cZ e.1.2.2.2.1 e.1.2.2.2.1) (cond (fG (bZ e.1.2.2.1 [(15,(e.1.2.1,(0,(e.1.2.2.2.1,()))))]) 32) (cond (cZ 15 15) (cond (cZ e.1.2.1 e.1.2.1) (cond (cZ e.1.2.2.2.1 e.1.2.2.2.1) (cond ((cZ 15 15)&&((cZ e.1.2.1 e.1.2.1)&&((cZ 0 0)&&((cZ e.1.2.2.2.1 e.1.2.2.2.1)&&true)))) (bU (q.q257 e.1.1 e.1.2.1 (bZ e.1.2.2.1 [(15,(e.1.2.1,(0,(e.1.2.2.2.1,()))))]) (bV e.1.2.2.1) e.1.2.2.2.2.1) fun f=>cond (iy f.1.2.2.1 (bV e.1.2.2.1)) (cond (qO (dM (bV e.1.2.2.1)) f.1.2.2.1) (bU (qm f.1.1 f.1.2.1 (jd f.1.2.2.1 (dM (bV e.1.2.2.1)) ((dU f.1.2.2.1 (0,(0,(0,(0,())))) (dM (bV e.1.2.2.1))).1,((dU f.1.2.2.1 (0,(0,(0,(0,())))) (dM (bV e.1.2.2.1))).2.1,(f.1.2.1,((dU f.1.2.2.1 (0,(0,(0,(0,())))) (dM (bV e.1.2.2.1))).2.2.2.1,()))))) e.1.2.2.2.1 f.1.2.2.2.2.1 [121]) fun d=>cond (!d.2.1) (l d.1.1 d.1.2.1 d.1.2.2.2.1 d.1.2.2.2.2.1 d.1.2.2.1)<|bU (rJ d.1.1 d.1.2.1 d.1.2.2.1 d.1.2.2.2.1 d.1.2.2.2.2.1) fun g=>p g.1.1 g.1.2.1 g.1.2.2.2.1 g.1.2.2.2.2.1 g.1.2.2.1) a7) a7) a7) a7) a7) a7) a7) a7) a7) a7)<|bU (Lh e.1.1 e.1.2.1 e.1.2.2.1 e.1.2.2.2.1 e.1.2.2.2.2.1) fun f=>cond f.2.1 (bU (Lj f.1.1 f.1.2.1 f.1.2.2.1 f.1.2.2.2.1 f.1.2.2.2.2.1 0) fun d=>cond (!(cZ d.2.1 122)) (cond (cZ 15 15) (cond (cZ d.1.2.1 d.1.2.1) (cond (cZ d.1.2.2.2.1 d.1.2.2.2.1) (cond (fG (bZ d.1.2.2.1 [(15,(d.1.2.1,(0,(d.1.2.2.2.1,()))))]) 32) (cond (cZ 15 15) (cond (cZ d.1.2.1 d.1.2.1) (cond (cZ d.1.2.2.2.1 d.1.2.2.2.1) (cond ((cZ 15 15)&&((cZ d.1.2.1 d.1.2.1)&&((cZ 0 0)&&((cZ d.1.2.2.2.1 d.1.2.2.2.1)&&true)))) (bU (q.q257 d.1.1 d.1.2.1 (bZ d.1.2.2.1 [(15,(d.1.2.1,(0,(d.1.2.2.2.1,()))))]) (bV d.1.2.2.1) d.1.2.2.2.2.1) fun g=>cond (iy g.1.2.2.1 (bV d.1.2.2.1)) (cond (qO (dM (bV d.1.2.2.1)) g.1.2.2.1) (bU (qm g.1.1 g.1.2.1 (jd g.1.2.2.1 (dM (bV d.1.2.2.1)) ((dU g.1.2.2.1 (0,(0,(0,(0,())))) (dM (bV d.1.2.2.1))).1,((dU g.1.2.2.1 (0,(0,(0,(0,())))) (dM (bV d.1.2.2.1))).2.1,(g.1.2.1,((dU g.1.2.2.1 (0,(0,(0,(0,())))) (dM (bV d.1.2.2.1))).2.2.2.1,()))))) d.1.2.2.2.1 g.1.2.2.2.2.1 [121]) fun i=>cond (!i.2.1) (l i.1.1 i.1.2.1 i.1.2.2.2.1 i.1.2.2.2.2.1 i.1.2.2.1)<|bU (rJ i.1.1 i.1.2.1 i.1.2.2.1 i.1.2.2.2.1 i.1.2.2.2.2.1) fun j=>p j.1.1 j.1.2.1 j.1.2.2.2.1 j.1.2.2.2.2.1 j.1.2.2.1) a7) a7) a7) a7) a7) a7) a7) a7) a7) a7)<|l d.1.1 d.1.2.1 d.1.2.2.2.1 d.1.2.2.2.2.1 d.1.2.2.1)<|l f.1.1 f.1.2.1 f.1.2.2.2.1 f.1.2.2.2.2.1 f.1.2.2.1
def mZ (q:iK):Nat->(List gJ)->Int->Int->Int->(List gI)->Option (abd.den⊕abL.den)
 |0,_,_,_,_,_=>a7
 |n+1,d,e,f,g,i=>IA q (mZ q n) (fun j l m p u=>a6 (.inl ((),((),()),((j,l,m,p,()),u,())))) (a6 (.inr ((),((),()),()))) d e f g i
def ax8 (q:iK) (n:Nat) (v:aaK.den):=bh (mZ q n) v
noncomputable def aj9 (q:iK):dO:=gq ar7 aaK abd abL (.exit 0) (ax8 q bY) 6
def aq9 (q:iK) (l:List gJ) (m:Int) (p:List gI) (u v:Int):Option vY:=bU (CX l m p u v) fun d=>bU (rJ d.1.1 d.1.2.1 d.1.2.2.1 d.1.2.2.2.1 d.1.2.2.2.2.1) fun e=>bU (kJ e.1.1 e.1.2.1 e.1.2.2.1 e.1.2.2.2.1 e.1.2.2.2.2.1 [107]) fun f=>bU (rJ f.1.1 f.1.2.1 f.1.2.2.1 f.1.2.2.2.1 f.1.2.2.2.2.1) fun g=>bU (mZ q bY g.1.1 g.1.2.1 g.1.2.2.2.1 g.1.2.2.2.2.1 g.1.2.2.1) fun x=>dX x (fun i=>bU (kJ i.2.2.1.1 i.2.2.1.2.1 i.2.2.2.1 i.2.2.1.2.2.1 i.2.2.1.2.2.2.1 [122]) fun j=>a6 ((j.1.1,(j.1.2.1,(j.1.2.2.1,(j.1.2.2.2.1,(j.1.2.2.2.2.1,()))))),())) (fun y=>a7)
noncomputable def agq (q:iK):Env:=iE prog tt [] [(239,4,ar7),(239,600005,sN),(45,600003,lM)] [(239,4,aj9 q)] [] [(71,GU),(95,aAJ),(96,avN),(99,Ny),(243,acI),(244,GN),(245,acJ),(257,alP q)]
def alp (q:iK) {d:Type} (a:aaK.den->Option d) (b:abd.den->Option d) (c:abL.den->Option d) (v:aaK.den):Option d:=bh (IA q (bc a) (bc b) (c ((),((),()),()))) v
theorem ayH (q:iK):eY (agq q) 239 apD (aj9 q):=oq (alp q) (h2:=by intros;simp only[alp,bc,bh,IA,dG,dH,bT,dw,dI])
theorem aCA (q:iK):eP (agq q) 239 aBd:=tC [apD] (aD (fM (ayH q)) aN)
theorem amT (q:iK) (H:H73 q):gm (agq q):=eB aN [239] (aD ⟨f239,aBd,by kernel_rfl,by kernel_rfl,aCA q⟩ aN) (hx:=(aD pK (aD VZ (aD zL (aD xe (aD II (aD vF (aD IJ (aD H.2.2.2.2.2.2.2.2.2.2.2.2.2.1 aN)))))))))
noncomputable def aBe:Code:=(f257.body).getD .skip
noncomputable def apE:Code:=cA (cA (cA (cB (cB (aBe)))))
def ar8:fZ:=⟨[0,100002],[],[0],[],[],[]⟩
def aaL:SQ:=⟨us bE 19,cY,db⟩
def abe:SQ:=⟨us bE 19,cY,db⟩
def abM:SQ:=⟨us [] 20,cY,[]⟩
def ES (q:iK) {f:Type} (g i:(List gJ)->Int->Int->Int->(List gI)->Option f) (v:Option f) (j:List gJ) (l m p:Int) (u:List gI):Option f:=bU (qm j l u m p [124]) fun d=>cond d.2.1 (bU (CX d.1.1 d.1.2.1 d.1.2.2.1 d.1.2.2.2.1 d.1.2.2.2.2.1) fun e=>g e.1.1 e.1.2.1 e.1.2.2.2.1 e.1.2.2.2.2.1 e.1.2.2.1)<|i d.1.1 d.1.2.1 d.1.2.2.2.1 d.1.2.2.2.2.1 d.1.2.2.1
def vM (q:iK):Nat->(List gJ)->Int->Int->Int->(List gI)->Option (abe.den⊕abM.den)
 |0,_,_,_,_,_=>a7
 |n+1,d,e,f,g,i=>ES q (vM q n) (fun j l m p u=>a6 (.inl ((),((),()),((j,l,m,p,()),u,())))) (a6 (.inr ((),((),()),()))) d e f g i
def ax9 (q:iK) (n:Nat) (v:aaL.den):=bh (vM q n) v
noncomputable def aka (q:iK):dO:=gq ar8 aaL abe abM (.exit 0) (ax9 q bY) 6
def TQ (q:iK) (m:List gJ) (p:Int) (u:List gI) (v x:Int):Option vY:=bU (qm m p u v x [40]) fun f=>bU (CX f.1.1 f.1.2.1 f.1.2.2.1 f.1.2.2.2.1 f.1.2.2.2.2.1) fun g=>bU (vM q bY g.1.1 g.1.2.1 g.1.2.2.2.1 g.1.2.2.2.2.1 g.1.2.2.1) fun y=>dX y (fun i=>bU (kJ i.2.2.1.1 i.2.2.1.2.1 i.2.2.2.1 i.2.2.1.2.2.1 i.2.2.1.2.2.2.1 [41]) fun j=>bU (rJ j.1.1 j.1.2.1 j.1.2.2.1 j.1.2.2.2.1 j.1.2.2.2.2.1) fun l=>bU (Ud l.1.1 l.1.2.1 l.1.2.2.1 l.1.2.2.2.1 l.1.2.2.2.2.1) fun d=>cond d.2.1 (cond (cZ 2 2) (cond (cZ d.1.2.1 d.1.2.1) (cond (cZ d.1.2.2.2.1 d.1.2.2.2.1) (cond (fG (bZ d.1.2.2.1 [(2,(d.1.2.1,(0,(d.1.2.2.2.1,()))))]) 32) (cond (cZ 2 2) (cond (cZ d.1.2.1 d.1.2.1) (cond (cZ d.1.2.2.2.1 d.1.2.2.2.1) (cond ((cZ 2 2)&&((cZ d.1.2.1 d.1.2.1)&&((cZ 0 0)&&((cZ d.1.2.2.2.1 d.1.2.2.2.1)&&true)))) (bU (q.q73 d.1.1 d.1.2.1 (bZ d.1.2.2.1 [(2,(d.1.2.1,(0,(d.1.2.2.2.1,()))))]) (bV d.1.2.2.1) d.1.2.2.2.2.1) fun e=>cond (iy e.1.2.2.1 (bV d.1.2.2.1)) (cond (qO (dM (bV d.1.2.2.1)) e.1.2.2.1) (a6 ((e.1.1,(e.1.2.1,((jd e.1.2.2.1 (dM (bV d.1.2.2.1)) ((dU e.1.2.2.1 (0,(0,(0,(0,())))) (dM (bV d.1.2.2.1))).1,((dU e.1.2.2.1 (0,(0,(0,(0,())))) (dM (bV d.1.2.2.1))).2.1,(e.1.2.1,((dU e.1.2.2.1 (0,(0,(0,(0,())))) (dM (bV d.1.2.2.1))).2.2.2.1,()))))),(d.1.2.2.2.1,(e.1.2.2.2.2.1,()))))),())) a7) a7) a7) a7) a7) a7) a7) a7) a7) a7)<|some ((d.1.1,(d.1.2.1,(d.1.2.2.1,(d.1.2.2.2.1,(d.1.2.2.2.2.1,()))))),())) (fun z=>a7)
noncomputable def agr (q:iK):Env:=iE prog tt [] [(257,2,ar8),(257,600007,sN),(45,600003,lM)] [(257,2,aka q)] [] [(71,GU),(72,YF),(73,aif q),(99,Ny),(243,acI),(244,GN)]
def alq (q:iK) {d:Type} (a:aaL.den->Option d) (b:abe.den->Option d) (c:abM.den->Option d) (v:aaL.den):Option d:=bh (ES q (bc a) (bc b) (c ((),((),()),()))) v
theorem ayI (q:iK):eY (agr q) 257 apE (aka q):=oq (alq q) (h2:=by intros;simp only[alq,bc,bh,ES,dG,dH,bT,dw,dI])
theorem aCB (q:iK):eP (agr q) 257 aBe:=tC [apE] (aD (fM (ayI q)) aN)
theorem amX (q:iK) (H:H73 q):gm (agr q):=eB aN [257] (aD ⟨f257,aBe,by kernel_rfl,by kernel_rfl,aCB q⟩ aN) (hx:=(aD pK (aD GV (aD H.1 (aD xe (aD II (aD vF aN)))))))
def FC (q:iK) (g:List gJ) (i:Int) (j:List gI) (l m:Int):Option vY:=bU (kJ g i j l m [100]) fun d=>bU (q.q255 d.1.1 d.1.2.1 d.1.2.2.1 d.1.2.2.2.1 d.1.2.2.2.2.1) fun e=>bU (kJ e.1.1 e.1.2.1 e.1.2.2.1 e.1.2.2.2.1 e.1.2.2.2.2.1 [103]) fun f=>a6 ((f.1.1,(f.1.2.1,(f.1.2.2.1,(f.1.2.2.2.1,(f.1.2.2.2.2.1,()))))),())
noncomputable def aBD (q:iK):Env:=iE prog tt [] [] [] [] [(244,GN),(255,IK q)]
theorem amW (q:iK) (H:H73 q):gm (aBD q):=eB aN [] aN (hx:=(aD vF (aD H.2.2.2.2.2.2.1 aN)))
def dA:Nat->iK
 |0=>⟨(fun _ _ _ _ _=>a7),(fun _ _ _ _ _=>a7),(fun _ _ _ _ _=>a7),(fun _ _ _ _ _=>a7),(fun _ _ _ _ _=>a7),(fun _ _ _ _ _=>a7),(fun _ _ _ _ _=>a7),(fun _ _ _ _ _=>a7),(fun _ _ _ _ _=>a7),(fun _ _ _ _ _=>a7),(fun _ _ _ _ _=>a7),(fun _ _ _ _ _=>a7),(fun _ _ _ _ _=>a7),(fun _ _ _ _ _=>a7),(fun _ _ _ _ _=>a7)⟩
 |r+1=>⟨Zm (dA r),ara (dA r),TM (dA r),CV (dA r),ads (dA r),jL (dA r),KW (dA r),KR (dA r),KT (dA r),TN (dA r),PP (dA r),TP (dA r),aq9 (dA r),TQ (dA r),FC (dA r)⟩
def aro (d:List gJ) (e:Int) (f:List gI) (g i:Int):Option vY:=(dA bY).q73 d e f g i
def aAF:gu:=⟨96,zQ,[],[],fun x y=>aro x.1 x.2.1 x.2.2.1 x.2.2.2.1 x.2.2.2.2.1⟩
def aIz (d:List gJ) (e:Int) (f:List gI) (g i:Int):Option vY:=(dA bY).q98 d e f g i
def aHs:gu:=⟨96,zQ,[],[],fun x y=>aIz x.1 x.2.1 x.2.2.1 x.2.2.2.1 x.2.2.2.2.1⟩
def aFX (d:List gJ) (e:Int) (f:List gI) (g i:Int):Option vY:=(dA bY).q139 d e f g i
def aEe:gu:=⟨96,zQ,[],[],fun x y=>aFX x.1 x.2.1 x.2.2.1 x.2.2.2.1 x.2.2.2.2.1⟩
def aFZ (d:List gJ) (e:Int) (f:List gI) (g i:Int):Option vY:=(dA bY).q174 d e f g i
def aEo:gu:=⟨96,zQ,[],[],fun x y=>aFZ x.1 x.2.1 x.2.2.1 x.2.2.2.1 x.2.2.2.2.1⟩
def aF5 (d:List gJ) (e:Int) (f:List gI) (g i:Int):Option vY:=(dA bY).q215 d e f g i
def aEz:gu:=⟨96,zQ,[],[],fun x y=>aF5 x.1 x.2.1 x.2.2.1 x.2.2.2.1 x.2.2.2.2.1⟩
def aF4 (d:List gJ) (e:Int) (f:List gI) (g i:Int):Option vY:=(dA bY).q212 d e f g i
def aEy:gu:=⟨96,zQ,[],[],fun x y=>aF4 x.1 x.2.1 x.2.2.1 x.2.2.2.1 x.2.2.2.2.1⟩
def aGc (d:List gJ) (e:Int) (f:List gI) (g i:Int):Option vY:=(dA bY).q255 d e f g i
def aEN:gu:=⟨96,zQ,[],[],fun x y=>aGc x.1 x.2.1 x.2.2.1 x.2.2.2.1 x.2.2.2.2.1⟩
def aF6 (d:List gJ) (e:Int) (f:List gI) (g i:Int):Option vY:=(dA bY).q234 d e f g i
def aEF:gu:=⟨96,zQ,[],[],fun x y=>aF6 x.1 x.2.1 x.2.2.1 x.2.2.2.1 x.2.2.2.2.1⟩
def aF7 (d:List gJ) (e:Int) (f:List gI) (g i:Int):Option vY:=(dA bY).q235 d e f g i
def aEG:gu:=⟨96,zQ,[],[],fun x y=>aF7 x.1 x.2.1 x.2.2.1 x.2.2.2.1 x.2.2.2.2.1⟩
def aF8 (d:List gJ) (e:Int) (f:List gI) (g i:Int):Option vY:=(dA bY).q236 d e f g i
def aEH:gu:=⟨96,zQ,[],[],fun x y=>aF8 x.1 x.2.1 x.2.2.1 x.2.2.2.1 x.2.2.2.2.1⟩
def aF9 (d:List gJ) (e:Int) (f:List gI) (g i:Int):Option vY:=(dA bY).q237 d e f g i
def aEI:gu:=⟨96,zQ,[],[],fun x y=>aF9 x.1 x.2.1 x.2.2.1 x.2.2.2.1 x.2.2.2.2.1⟩
def aGa (d:List gJ) (e:Int) (f:List gI) (g i:Int):Option vY:=(dA bY).q238 d e f g i
def aEJ:gu:=⟨96,zQ,[],[],fun x y=>aGa x.1 x.2.1 x.2.2.1 x.2.2.2.1 x.2.2.2.2.1⟩
def aGb (d:List gJ) (e:Int) (f:List gI) (g i:Int):Option vY:=(dA bY).q239 d e f g i
def aEK:gu:=⟨96,zQ,[],[],fun x y=>aGb x.1 x.2.1 x.2.2.1 x.2.2.2.1 x.2.2.2.2.1⟩
def aGe (d:List gJ) (e:Int) (f:List gI) (g i:Int):Option vY:=(dA bY).q257 d e f g i
def aEO:gu:=⟨96,zQ,[],[],fun x y=>aGe x.1 x.2.1 x.2.2.1 x.2.2.2.1 x.2.2.2.2.1⟩
def aGd (d:List gJ) (e:Int) (f:List gI) (g i:Int):Option vY:=(dA bY).q256 d e f g i
def sum256:gu:=⟨96,zQ,[],[],fun x y=>aGd x.1 x.2.1 x.2.2.1 x.2.2.2.1 x.2.2.2.2.1⟩
theorem aaa (q:iK) (d:H73 q):H73 ⟨Zm q,ara q,TM q,CV q,ads q,jL q,KW q,KR q,KT q,TN q,PP q,TP q,aq9 q,TQ q,FC q⟩:=⟨sB (aqH q d),sB (aqP q d),sB (ams q d),sB (amC q d),sB (amL q d),sB (amK q d),sB (amV q d),sB (amO q d),sB (amP q d),sB (amQ q d),sB (amR q d),sB (amS q d),sB (amT q d),sB (amX q d),sB (amW q d)⟩
theorem rP: ∀r,H73 (dA r)
 |0=>⟨qj fun _ _=>rfl,qj fun _ _=>rfl,qj fun _ _=>rfl,qj fun _ _=>rfl,qj fun _ _=>rfl,qj fun _ _=>rfl,qj fun _ _=>rfl,qj fun _ _=>rfl,qj fun _ _=>rfl,qj fun _ _=>rfl,qj fun _ _=>rfl,qj fun _ _=>rfl,qj fun _ _=>rfl,qj fun _ _=>rfl,qj fun _ _=>rfl⟩
 |r+1=>aaa _ (rP r)
theorem avF:dV prog 73 aAF:=(rP bY).1
theorem aHt:dV prog 98 aHs:=(rP bY).2.1
theorem aE6:dV prog 139 aEe:=(rP bY).2.2.1
theorem aE8:dV prog 174 aEo:=(rP bY).2.2.2.1
theorem aFe:dV prog 215 aEz:=(rP bY).2.2.2.2.1
theorem aFd:dV prog 212 aEy:=(rP bY).2.2.2.2.2.1
theorem aFl:dV prog 255 aEN:=(rP bY).2.2.2.2.2.2.1
theorem aFf:dV prog 234 aEF:=(rP bY).2.2.2.2.2.2.2.1
theorem aFg:dV prog 235 aEG:=(rP bY).2.2.2.2.2.2.2.2.1
theorem aFh:dV prog 236 aEH:=(rP bY).2.2.2.2.2.2.2.2.2.1
theorem aFi:dV prog 237 aEI:=(rP bY).2.2.2.2.2.2.2.2.2.2.1
theorem aFj:dV prog 238 aEJ:=(rP bY).2.2.2.2.2.2.2.2.2.2.2.1
theorem aFk:dV prog 239 aEK:=(rP bY).2.2.2.2.2.2.2.2.2.2.2.2.1
theorem aFn:dV prog 257 aEO:=(rP bY).2.2.2.2.2.2.2.2.2.2.2.2.2.1
theorem aFm:dV prog 256 sum256:=(rP bY).2.2.2.2.2.2.2.2.2.2.2.2.2.2
noncomputable def b46:Code:=(f46.body).getD .skip
noncomputable def azq:Code:=cA (cA (cB (b46)))
def azU:fZ:=⟨[0,2,100001],[],[],[],[],[]⟩
def aks:SQ:=⟨us [co,.u,bX] 26,cY,db⟩
def ahj:SQ:=⟨us [] 29,cY,db⟩
def ahF:SQ:=⟨us [] 29,cY,[]⟩
def GK {g:Type} (i:Bool->(List gJ)->Int->Int->Int->(List gI)->Option g) (v:(List gJ)->Int->Int->Int->(List gI)->Option g) (x:Option g) (m:Bool) (j:List gJ) (l p q:Int) (u:List gI):Option g:=cond (iV l (bV j)) (bU (qm j l u p q [110]) fun e=>cond e.2.1 (i m e.1.1 e.1.2.1 e.1.2.2.2.1 e.1.2.2.2.2.1 e.1.2.2.1)<|cond (!m) (bU (Ud e.1.1 e.1.2.1 e.1.2.2.1 e.1.2.2.2.1 e.1.2.2.2.2.1) fun d=>cond d.2.1 (cond (cZ 2 2) (cond (cZ d.1.2.1 d.1.2.1) (cond (cZ d.1.2.2.2.1 d.1.2.2.2.1) (cond (fG (bZ d.1.2.2.1 [(2,(d.1.2.1,(0,(d.1.2.2.2.1,()))))]) 32) (cond (cZ 2 2) (cond (cZ d.1.2.1 d.1.2.1) (cond (cZ d.1.2.2.2.1 d.1.2.2.2.1) (cond ((cZ 2 2)&&((cZ d.1.2.1 d.1.2.1)&&((cZ 0 0)&&((cZ d.1.2.2.2.1 d.1.2.2.2.1)&&true)))) (bU (aro d.1.1 d.1.2.1 (bZ d.1.2.2.1 [(2,(d.1.2.1,(0,(d.1.2.2.2.1,()))))]) (bV d.1.2.2.1) d.1.2.2.2.2.1) fun f=>cond (iy f.1.2.2.1 (bV d.1.2.2.1)) (cond (qO (dM (bV d.1.2.2.1)) f.1.2.2.1) (i true f.1.1 f.1.2.1 d.1.2.2.2.1 f.1.2.2.2.2.1 (jd f.1.2.2.1 (dM (bV d.1.2.2.1)) ((dU f.1.2.2.1 (0,(0,(0,(0,())))) (dM (bV d.1.2.2.1))).1,((dU f.1.2.2.1 (0,(0,(0,(0,())))) (dM (bV d.1.2.2.1))).2.1,(f.1.2.1,((dU f.1.2.2.1 (0,(0,(0,(0,())))) (dM (bV d.1.2.2.1))).2.2.2.1,())))))) a7) a7) a7) a7) a7) a7) a7) a7) a7) a7)<|bU (QK d.1.1 d.1.2.1 d.1.2.2.1 d.1.2.2.2.1 d.1.2.2.2.2.1 17) fun f=>i false f.1.1 f.1.2.1 f.1.2.2.2.1 f.1.2.2.2.2.1 f.1.2.2.1)<|bU (QK e.1.1 e.1.2.1 e.1.2.2.1 e.1.2.2.2.1 e.1.2.2.2.2.1 17) fun d=>i false d.1.1 d.1.2.1 d.1.2.2.2.1 d.1.2.2.2.2.1 d.1.2.2.1)<|v j l p q u
def nU:Nat->Bool->(List gJ)->Int->Int->Int->(List gI)->Option (ahj.den⊕ahF.den)
 |0,_,_,_,_,_,_=>a7
 |n+1,d,e,f,g,i,j=>GK (nU n) (fun l m p q u=>a6 (.inl ((),((),()),((l,m,p,q,()),u,())))) (a6 (.inr ((),((),()),()))) d e f g i j
def aCN (n:Nat) (v:aks.den):=ba (nU n) v
noncomputable def asU:dO:=gq azU aks ahj ahF (.exit 0) (aCN bY) 6
def aw7 (e:List gJ) (f:Int) (g:List gI) (i j:Int):Option vY:=bU (nU bY false e f i j g) fun l=>dX l (fun d=>a6 ((d.2.2.1.1,(d.2.2.1.2.1,(d.2.2.2.1,(d.2.2.1.2.2.1,(d.2.2.1.2.2.2.1,()))))),())) (fun m=>a7)
def aHh:gu:=⟨96,zQ,[],[],fun x y=>aw7 x.1 x.2.1 x.2.2.1 x.2.2.2.1 x.2.2.2.2.1⟩
noncomputable def aqk:Env:=iE prog tt [] [(46,1,azU),(46,600006,sN),(45,600003,lM)] [(46,1,asU)] [] [(71,GU),(72,YF),(73,aAF),(74,alS)]
def aug {d:Type} (a:aks.den->Option d) (b:ahj.den->Option d) (c:ahF.den->Option d) (v:aks.den):Option d:=ba (GK (a8 a) (bc b) (c ((),((),()),()))) v
theorem aDn:eY aqk 46 azq asU:=oq (aug) (h2:=by intros;simp only[aug,a8,bc,ba,GK,dG,dH,bT,dw,dI])
theorem aGD:eP aqk 46 b46:=tC [azq] (aD (fM (aDn)) aN)
theorem aql:gm aqk:=eB aN [46] (aD ⟨f46,b46,by kernel_rfl,by kernel_rfl,aGD⟩ aN) (hx:=(aD pK (aD GV (aD avF (aD Nw aN)))))
theorem avt:dV prog 46 aHh:=sB aql
def ase:fZ:=⟨[3],[],[],[],[],[]⟩
def TZ (e:List gJ):Option ((List gI)×Unit):=cond (cZ 1 1) (cond (cZ 0 0) (cond (cZ (-1) (-1)) (cond (fG [(1,(0,(0,((-1),()))))] 32) (cond (cZ 1 1) (cond (cZ 0 0) (cond (cZ (-1) (-1)) (cond ((cZ 1 1)&&((cZ 0 0)&&((cZ 0 0)&&((cZ (-1) (-1))&&true)))) (bU (aw7 e 0 [(1,(0,(0,((-1),()))))] 0 0) fun d=>cond (iy d.1.2.2.1 0) (cond (qO (dM 0) d.1.2.2.1) (a6 ((jd d.1.2.2.1 (dM 0) ((dU d.1.2.2.1 (0,(0,(0,(0,())))) (dM 0)).1,((dU d.1.2.2.1 (0,(0,(0,(0,())))) (dM 0)).2.1,(d.1.2.1,((dU d.1.2.2.1 (0,(0,(0,(0,())))) (dM 0)).2.2.2.1,()))))),())) a7) a7) a7) a7) a7) a7) a7) a7) a7) a7
def aAp:Sum:=⟨[rF],[(.list og,false)],fun x=>TZ x.1⟩
theorem afr:eX prog 24 aAp:=qC [(24,600002,ase),(45,600003,lM)] aN (sF avt aN)
noncomputable def b56:Code:=(f56.body).getD .skip
noncomputable def azy:Code:=cA (cA (cB (cA (cB (cB (cB (b56)))))))
def az0:fZ:=⟨[3,4,100005],[],[],[],[2],[]⟩
def akA:SP:=⟨us [.u,.u,.u,bN,bL] 25,[]⟩
def aho:SP:=⟨us [] 30,[]⟩
def ahK:SP:=⟨us [.u,.u,bX] 27,[]⟩
def acv {f:Type} (g:dC->Int->Option f) (i:Option f) (j:Bool->Option f) (e:dC) (d:Int):Option f:=cond (leI (dJ .i64 d (bV e)) 65) (cond (gy (bV [32,33,32,123,32,125,32,99,97,115,101,32,100,111,32,100,111,110,101,32,101,108,105,102,32,101,108,115,101,32,101,115,97,99,32,102,105,32,102,111,114,32,105,102,32,105,110,32,116,104,101,110,32,117,110,116,105,108,32,119,104,105,108,101,32]) d (dJ .i64 d (bV e))) (cond (iG (sub [32,33,32,123,32,125,32,99,97,115,101,32,100,111,32,100,111,110,101,32,101,108,105,102,32,101,108,115,101,32,101,115,97,99,32,102,105,32,102,111,114,32,105,102,32,105,110,32,116,104,101,110,32,117,110,116,105,108,32,119,104,105,108,101,32] d (dJ .i64 d (bV e))) e) (j true)<|g e (dJ .i64 d 1)) a7) i
def UG:Nat->dC->Int->Option (aho.den⊕ahK.den)
 |0,_,_=>a7
 |n+1,d,e=>acv (UG n) (a6 (.inl ((),()))) (fun f=>a6 (.inr ((f,()),()))) d e
def aCV (n:Nat) (v:akA.den):=UG n v.1.1 v.1.2.1
noncomputable def as3:dO:=iq az0 akA aho ahK (.exit 0) (aCV bY) 6
def axa (d:dC):Option xy:=cond (cZ (bV d) 0) (a6 (false,()))<|bU (Ob 32 d) fun e=>cond e.1 (a6 (false,()))<|cond (jf [32] d) (cond (jf (bZ [32] d) [32]) (bU (UG bY (bZ (bZ [32] d) [32]) 0) fun f=>dX f (fun i=>a6 (false,())) (fun g=>a6 (g.1.1,()))) a7) a7
def aAB:Sum:=⟨[.str],YK,fun x=>axa x.1⟩
noncomputable def aqy:Env:=kU prog tt 56 [(58,aAC)] [(5,az0)] [(5,as3)]
def auo {d:Type} (a:akA.den->Option d) (b:aho.den->Option d) (c:ahK.den->Option d) (v:akA.den):Option d:=acv (aL a) (b ((),())) (aE c) v.1.1 v.1.2.1
theorem aDv:eY aqy 56 azy as3:=En (auo) (h2:=by intros;simp only[auo,aL,aE,acv,dG,dH,bT,dw,dI])
theorem aGK:eP aqy 56 b56:=tC [azy] (aD (fM (aDv)) aN)
theorem aqz:gm aqy:=eA f56 (aD Nv aN) (aGK)
theorem avC:eX prog 56 aAB:=sA aqz
noncomputable def b28:Code:=(f28.body).getD .skip
noncomputable def azo:Code:=cA (cA (cB (cA (cA (cB (cA (cB (cB (cB (b28))))))))))
def azT:fZ:=⟨[1,3,100007],[],[],[],[2],[]⟩
def akq:SP:=⟨us [.u,cH,.u,bL] 59,[.box 1000001 69 [bL,bN,bL,bL]]⟩
def ahi:SP:=⟨us [] 63,[]⟩
def ahE:SP:=⟨us [.u,.u,bN] 60,[]⟩
def acn {e:Type} (g:Int->Int->dC->Int->Int->Option e) (i:Option e) (j:dC->Option e) (d l:Int) (f:dC) (m p:Int):Option e:=cond (leI d 17) (bU (ZA d) fun q=>cond (iG q.1 f) (cond (gy (bV [97,111,121,60,60,60,60,60,60,60,60,60,38,59,124,40,41]) (fO .i64 d 1) d) (j (sub [97,111,121,60,60,60,60,60,60,60,60,60,38,59,124,40,41] (fO .i64 d 1) d)) a7)<|g (dJ .i64 d 1) l f m p) i
def UE:Nat->Int->Int->dC->Int->Int->Option (ahi.den⊕ahE.den)
 |0,_,_,_,_,_=>a7
 |n+1,d,e,f,g,i=>acn (UE n) (a6 (.inl ((),()))) (fun j=>a6 (.inr ((j,()),()))) d e f g i
def aCL (n:Nat) (v:akq.den):=UE n v.1.1 v.2.1.1 v.2.1.2.1 v.2.1.2.2.1 v.2.1.2.2.2.1
noncomputable def asQ:dO:=iq azT akq ahi ahE (.exit 0) (aCL bY) 6
def Uc (d:gJ):Option (dC×Unit):=cond (cZ d.1 2) (a6 ([110],()))<|cond (cZ d.1 5) (a6 ([35],()))<|cond (cZ d.1 4) (bU (UE bY 1 d.1 d.2.1 d.2.2.1 d.2.2.2.1) fun e=>dX e (fun g=>a6 ([63],())) (fun f=>a6 (f.1.1,())))<|cond (!(cZ d.1 6)) (a6 ([63],()))<|bU (axa d.2.1) fun e=>cond (!e.1) (a6 ([120],()))<|cond (cZ (bV d.2.1) 1) (a6 (d.2.1,()))<|cond (iG d.2.1 [105,102]) (a6 ([105],()))<|cond (iG d.2.1 [105,110]) (a6 ([107],()))<|cond (iG d.2.1 [101,108,115,101]) (a6 ([108],()))<|cond (iG d.2.1 [101,115,97,99]) (a6 ([122],()))<|cond (iG d.2.1 [102,111,114]) (a6 ([114],()))<|cond (iG d.2.1 [100,111,110,101]) (a6 ([103],()))<|cond (iG d.2.1 [117,110,116,105,108]) (a6 ([119],()))<|cond (gy (bV d.2.1) 0 1) (a6 ((sub d.2.1 0 1),())) a7
def aAs:Sum:=⟨[tyC],tzI,fun x=>Uc x.1⟩
noncomputable def aqg:Env:=kU prog tt 28 [(56,aAB),(51,alR)] [(7,azT)] [(7,asQ)]
def aue {d:Type} (a:akq.den->Option d) (b:ahi.den->Option d) (c:ahE.den->Option d) (v:akq.den):Option d:=acn (fun e f g i j=>a ((e,()),((f,g,i,j,()),()))) (b ((),())) (aE c) v.1.1 v.2.1.1 v.2.1.2.1 v.2.1.2.2.1 v.2.1.2.2.2.1
theorem aDl:eY aqg 28 azo asQ:=En (aue) (h2:=by intros;simp only[aue,aE,acn,dG,dH,bT,dw,dI])
theorem aGB:eP aqg 28 b28:=tC [azo] (aD (fM (aDl)) aN)
theorem aqh:gm aqg:=eA f28 (aD avC (aD VV aN)) (aGB)
theorem avq:eX prog 28 aAs:=sA aqh
def arl (d:Int):Option xy:=cond (leI 9 d) (cond (leI d 14) (a6 (true,()))<|some ((cZ d 16),()))<|some ((cZ d 16),())
def aHi:Sum:=⟨[dL],YK,fun x=>arl x.1⟩
theorem afs:eX prog 57 aHi:=qA f57 [] aN
def Fa (i:List gJ) (j:dC) (g:List gI) (d e l f:Int):Option (taF×Fb):=cond (cZ f f) (cond (cZ d d) (cond (cZ e e) (cond (fG (bZ g [(f,(d,(0,(e,()))))]) 32) (cond (cZ f f) (cond (cZ d d) (cond (cZ e e) (cond ((cZ f f)&&((cZ d d)&&((cZ 0 0)&&((cZ e e)&&true)))) (bU (arl f) fun m=>cond m.1 (a6 ((i,(j,((bZ g [(f,(d,(0,(e,()))))]),(d,((fO .i64 (bV (bZ g [(f,(d,(0,(e,()))))])) 1),((dJ .i64 l 1),())))))),(e,())))<|some ((i,(j,((bZ g [(f,(d,(0,(e,()))))]),(d,((fO .i64 (bV (bZ g [(f,(d,(0,(e,()))))])) 1),(l,())))))),(e,()))) a7) a7) a7) a7) a7) a7) a7) a7
def QF:gu:=⟨73,J3,[dL],[dL],fun x y=>Fa x.1 x.2.1 x.2.2.1 x.2.2.2.1 x.2.2.2.2.1 x.2.2.2.2.2.1 y.1⟩
theorem su:dV prog 29 QF:=qB [] (sE afs aN)
def ql (f:List gJ) (d:dC) (g:List gI) (e i j:Int) (l:dC):Option (taF×xy):=cond (iV e (bV d)) (cond (iy d e) (bU (Ob (dm d e) l) fun m=>a6 ((f,(d,(g,(e,(i,(j,())))))),(m.1,()))) a7)<|some ((f,(d,(g,(e,(i,(j,())))))),(false,()))
def Jm:gu:=⟨73,J3,[.str],[.bool],fun x y=>ql x.1 x.2.1 x.2.2.1 x.2.2.2.1 x.2.2.2.2.1 x.2.2.2.2.2.1 y.1⟩
theorem mQ:dV prog 30 Jm:=qB [] (sE Nv aN)
def am7 (f:List gJ) (g:dC) (i:List gI) (j l m:Int):Option (taF×xy):=bU (ql f g i j l m [60]) fun e=>cond e.2.1 (a6 ((e.1.1,(e.1.2.1,(e.1.2.2.1,(e.1.2.2.2.1,(e.1.2.2.2.2.1,(e.1.2.2.2.2.2.1,())))))),(true,())))<|bU (ql e.1.1 e.1.2.1 e.1.2.2.1 e.1.2.2.2.1 e.1.2.2.2.2.1 e.1.2.2.2.2.2.1 [35]) fun d=>cond d.2.1 (cond (iV (dJ .i64 d.1.2.2.2.1 1) (bV d.1.2.1)) (cond (iy d.1.2.1 (dJ .i64 d.1.2.2.2.1 1)) (a6 ((d.1.1,(d.1.2.1,(d.1.2.2.1,(d.1.2.2.2.1,(d.1.2.2.2.2.1,(d.1.2.2.2.2.2.1,())))))),((cZ (dm d.1.2.1 (dJ .i64 d.1.2.2.2.1 1)) 60),()))) a7)<|some ((d.1.1,(d.1.2.1,(d.1.2.2.1,(d.1.2.2.2.1,(d.1.2.2.2.2.1,(d.1.2.2.2.2.2.1,())))))),(false,())))<|some ((d.1.1,(d.1.2.1,(d.1.2.2.1,(d.1.2.2.2.1,(d.1.2.2.2.2.1,(d.1.2.2.2.2.2.1,())))))),(false,()))
def avI:gu:=⟨73,J3,[],[.bool],fun x y=>am7 x.1 x.2.1 x.2.2.1 x.2.2.2.1 x.2.2.2.2.1 x.2.2.2.2.2.1⟩
theorem VY:dV prog 80 avI:=qB [] aN (sF mQ aN)
def agG (e:List gJ) (f:dC) (g:List gI) (i j l:Int):Option (taF×xy):=bU (ql e f g i j l [123,40,105,119,114,99]) fun d=>cond d.2.1 (a6 ((d.1.1,(d.1.2.1,(d.1.2.2.1,(d.1.2.2.2.1,(d.1.2.2.2.2.1,(d.1.2.2.2.2.2.1,())))))),((iV d.1.2.2.2.2.2.1 200),())))<|some ((d.1.1,(d.1.2.1,(d.1.2.2.1,(d.1.2.2.2.1,(d.1.2.2.2.2.1,(d.1.2.2.2.2.2.1,())))))),(false,()))
def aAI:gu:=⟨73,J3,[],[.bool],fun x y=>agG x.1 x.2.1 x.2.2.1 x.2.2.2.1 x.2.2.2.2.1 x.2.2.2.2.2.1⟩
theorem afv:dV prog 81 aAI:=qB [] aN (sF mQ aN)
def arn (g:List gJ) (i:dC) (j:List gI) (l m p:Int):Option (taF×xy):=bU (ql g i j l m p [120]) fun d=>cond d.2.1 (a6 ((d.1.1,(d.1.2.1,(d.1.2.2.1,(d.1.2.2.2.1,(d.1.2.2.2.2.1,(d.1.2.2.2.2.2.1,())))))),(true,())))<|bU (am7 d.1.1 d.1.2.1 d.1.2.2.1 d.1.2.2.2.1 d.1.2.2.2.2.1 d.1.2.2.2.2.2.1) fun e=>cond e.2.1 (a6 ((e.1.1,(e.1.2.1,(e.1.2.2.1,(e.1.2.2.2.1,(e.1.2.2.2.2.1,(e.1.2.2.2.2.2.1,())))))),(true,())))<|bU (agG e.1.1 e.1.2.1 e.1.2.2.1 e.1.2.2.2.1 e.1.2.2.2.2.1 e.1.2.2.2.2.2.1) fun f=>a6 ((f.1.1,(f.1.2.1,(f.1.2.2.1,(f.1.2.2.2.1,(f.1.2.2.2.2.1,(f.1.2.2.2.2.2.1,())))))),(f.2.1,()))
def aAD:gu:=⟨73,J3,[],[.bool],fun x y=>arn x.1 x.2.1 x.2.2.1 x.2.2.2.1 x.2.2.2.2.1 x.2.2.2.2.2.1⟩
theorem aft:dV prog 59 aAD:=qB [] aN (sF mQ (sF VY (sF afv aN)))
def QJ (f:List gJ) (g:dC) (i:List gI) (j l m:Int):Option (taF×xy):=bU (ql f g i j l m [33]) fun d=>cond d.2.1 (a6 ((d.1.1,(d.1.2.1,(d.1.2.2.1,(d.1.2.2.2.1,(d.1.2.2.2.2.1,(d.1.2.2.2.2.2.1,())))))),(true,())))<|bU (arn d.1.1 d.1.2.1 d.1.2.2.1 d.1.2.2.2.1 d.1.2.2.2.2.1 d.1.2.2.2.2.2.1) fun e=>a6 ((e.1.1,(e.1.2.1,(e.1.2.2.1,(e.1.2.2.2.1,(e.1.2.2.2.2.1,(e.1.2.2.2.2.2.1,())))))),(e.2.1,()))
def YE:gu:=⟨73,J3,[],[.bool],fun x y=>QJ x.1 x.2.1 x.2.2.1 x.2.2.2.1 x.2.2.2.2.1 x.2.2.2.2.2.1⟩
theorem GR:dV prog 31 YE:=qB [] aN (sF mQ (sF aft aN))
end
section
open Option renaming some → a6, none → a7
open Tryz
open Go.RowKit
def Oa (d:List gI) (e f:Int):=jd d (dM e) ((dU d (0,(0,(0,(0,())))) (dM e)).1,((dU d (0,(0,(0,(0,())))) (dM e)).2.1,(f,((dU d (0,(0,(0,(0,())))) (dM e)).2.2.2.1,()))))
def rW (g:List gJ) (i:dC) (e:List gI) (f d j l:Int):Option E8:=cond (iy e d) (cond (qO (dM d) e) (cond (iy (Oa e d f) d) (cond (qO (dM d) (Oa e d f)) (bU (arl (dU (Oa e d f) (0,(0,(0,(0,())))) (dM d)).1) fun m=>cond m.1 (a6 ((g,(i,((Oa e d f),(f,(l,((fO .i64 j 1),())))))),()))<|some ((g,(i,((Oa e d f),(f,(l,(j,())))))),())) a7) a7) a7) a7
def QG:gu:=⟨73,J3,[dL],[],fun x y=>rW x.1 x.2.1 x.2.2.1 x.2.2.2.1 x.2.2.2.2.1 x.2.2.2.2.2.1 y.1⟩
theorem sD:dV prog 34 QG:=qB [] (sE afs aN)
noncomputable def b61:Code:=(f61.body).getD .skip
noncomputable def azB:Code:=cA (cA (cA (cB (cB (b61)))))
def akD:SQ:=⟨us ei 13,cY,bA⟩
def ahr:SQ:=⟨us [.u,.u,.u,bL] 13,cY,bA⟩
def ahN:SQ:=⟨us dx 14,cY,[]⟩
def acx {e:Type} (g i:Int->(List gJ)->dC->Int->Int->Int->(List gI)->Option e) (v:Int->Option e) (f:Int) (j:List gJ) (l:dC) (m p q:Int) (u:List gI):Option e:=bU (ql j l u m p q [110]) fun d=>cond d.2.1 (g (dJ .i64 f 1) d.1.1 d.1.2.1 (dJ .i64 d.1.2.2.2.1 1) d.1.2.2.2.2.1 d.1.2.2.2.2.2.1 d.1.2.2.1)<|i f d.1.1 d.1.2.1 d.1.2.2.2.1 d.1.2.2.2.2.1 d.1.2.2.2.2.2.1 d.1.2.2.1
def UI:Nat->Int->(List gJ)->dC->Int->Int->Int->(List gI)->Option (ahr.den⊕ahN.den)
 |0,_,_,_,_,_,_,_=>a7
 |n+1,d,e,f,g,i,j,l=>acx (UI n) (fun m p q u v x y=>a6 (.inl ((m,()),((),()),((p,q,u,v,x,()),y,())))) (fun z=>a6 (.inr ((z,()),((),()),()))) d e f g i j l
def aCY (n:Nat) (v:akD.den):=bo (UI n) v
noncomputable def as6:dO:=gq ajy akD ahr ahN (.exit 0) (aCY bY) 6
def uO (e:List gJ) (f:dC) (g:List gI) (i j l:Int):Option (taF×Fb):=bU (UI bY 0 e f i j l g) fun m=>dX m (fun d=>a6 ((d.2.2.1.1,(d.2.2.1.2.1,(d.2.2.2.1,(d.2.2.1.2.2.1,(d.2.2.1.2.2.2.1,(d.2.2.1.2.2.2.2.1,())))))),(d.1.1,()))) (fun p=>a7)
def QH:gu:=⟨73,J3,[],[dL],fun x y=>uO x.1 x.2.1 x.2.2.1 x.2.2.2.1 x.2.2.2.2.1 x.2.2.2.2.2.1⟩
noncomputable def aqE:Env:=iE prog tt [] [(61,2,ajy)] [(61,2,as6)] [] [(30,Jm)]
def aur {d:Type} (a:akD.den->Option d) (b:ahr.den->Option d) (c:ahN.den->Option d) (v:akD.den):Option d:=bo (acx (bm a) (bm b) (fun e=>c ((e,()),((),()),()))) v
theorem aDy:eY aqE 61 azB as6:=oq (aur) (h2:=by intros;simp only[aur,bm,bo,acx,dG,dH,bT,dw,dI])
theorem aGN:eP aqE 61 b61:=tC [azB] (aD (fM (aDy)) aN)
theorem aqF:gm aqE:=eB aN [61] (aD ⟨f61,b61,by kernel_rfl,by kernel_rfl,aGN⟩ aN) (hx:=(aD mQ aN))
theorem zK:dV prog 61 QH:=sB aqF
def FN (f:List gJ) (g:dC) (i:List gI) (j l m:Int):Option E8:=bU (Fa f g i j l m 18) fun d=>bU (rW d.1.1 d.1.2.1 d.1.2.2.1 d.1.2.2.2.1 d.1.2.2.2.2.1 d.1.2.2.2.2.2.1 d.2.1) fun e=>a6 ((e.1.1,(e.1.2.1,(e.1.2.2.1,(e.1.2.2.2.1,(e.1.2.2.2.2.1,(e.1.2.2.2.2.2.1,())))))),())
def afw:gu:=⟨73,J3,[],[],fun x y=>FN x.1 x.2.1 x.2.2.1 x.2.2.2.1 x.2.2.2.2.1 x.2.2.2.2.2.1⟩
theorem DF:dV prog 83 afw:=qB [] aN (sF su (sF sD aN))
def N9 (f:List gJ) (g:dC) (i:List gI) (j l m p:Int):Option E8:=bU (Fa f g i j l m p) fun d=>bU (rW d.1.1 d.1.2.1 d.1.2.2.1 (dJ .i64 d.1.2.2.2.1 1) d.1.2.2.2.2.1 d.1.2.2.2.2.2.1 d.2.1) fun e=>a6 ((e.1.1,(e.1.2.1,(e.1.2.2.1,(e.1.2.2.2.1,(e.1.2.2.2.2.1,(e.1.2.2.2.2.2.1,())))))),())
def alQ:gu:=⟨73,J3,[dL],[],fun x y=>N9 x.1 x.2.1 x.2.2.1 x.2.2.2.1 x.2.2.2.2.1 x.2.2.2.2.2.1 y.1⟩
theorem Ns:dV prog 33 alQ:=qB [] aN (sF su (sF sD aN))
def pI (f:List gJ) (g:dC) (i:List gI) (j l m:Int) (p:dC):Option E8:=bU (ql f g i j l m p) fun d=>cond d.2.1 (a6 ((d.1.1,(d.1.2.1,(d.1.2.2.1,((dJ .i64 d.1.2.2.2.1 1),(d.1.2.2.2.2.1,(d.1.2.2.2.2.2.1,())))))),()))<|bU (FN d.1.1 d.1.2.1 d.1.2.2.1 d.1.2.2.2.1 d.1.2.2.2.2.1 d.1.2.2.2.2.2.1) fun e=>a6 ((e.1.1,(e.1.2.1,(e.1.2.2.1,(e.1.2.2.2.1,(e.1.2.2.2.2.1,(e.1.2.2.2.2.2.1,())))))),())
def VU:gu:=⟨73,J3,[.str],[],fun x y=>pI x.1 x.2.1 x.2.2.1 x.2.2.2.1 x.2.2.2.2.1 x.2.2.2.2.2.1 y.1⟩
theorem IG:dV prog 148 VU:=qB [] aN (sF mQ (sF DF aN))
def zk (e:List gJ) (g:dC) (i:List gI) (f j l:Int):Option E8:=cond (iV f (bV e)) (cond (iy e f) (cond (cZ (gW e (0,([],(0,(0,())))) f).1 6) (bU (N9 e g i f j l 7) fun d=>a6 ((d.1.1,(d.1.2.1,(d.1.2.2.1,(d.1.2.2.2.1,(d.1.2.2.2.2.1,(d.1.2.2.2.2.2.1,())))))),()))<|bU (FN e g i f j l) fun d=>a6 ((d.1.1,(d.1.2.1,(d.1.2.2.1,(d.1.2.2.2.1,(d.1.2.2.2.2.1,(d.1.2.2.2.2.2.1,())))))),())) a7)<|bU (FN e g i f j l) fun d=>a6 ((d.1.1,(d.1.2.1,(d.1.2.2.1,(d.1.2.2.2.1,(d.1.2.2.2.2.1,(d.1.2.2.2.2.2.1,())))))),())
def au6:gu:=⟨73,J3,[],[],fun x y=>zk x.1 x.2.1 x.2.2.1 x.2.2.2.1 x.2.2.2.2.1 x.2.2.2.2.2.1⟩
theorem Yz:dV prog 180 au6:=qB [] aN (sF Ns (sF DF aN))
def adF (i:List gJ) (j:dC) (l:List gI) (m p q:Int):Option E8:=bU (Fa i j l m p q 8) fun g=>bU (ql g.1.1 g.1.2.1 g.1.2.2.1 g.1.2.2.2.1 g.1.2.2.2.2.1 g.1.2.2.2.2.2.1 [35]) fun d=>cond d.2.1 (bU (zk d.1.1 d.1.2.1 d.1.2.2.1 (dJ .i64 (dJ .i64 d.1.2.2.2.1 1) 1) d.1.2.2.2.2.1 d.1.2.2.2.2.2.1) fun e=>bU (rW e.1.1 e.1.2.1 e.1.2.2.1 e.1.2.2.2.1 e.1.2.2.2.2.1 e.1.2.2.2.2.2.1 g.2.1) fun f=>a6 ((f.1.1,(f.1.2.1,(f.1.2.2.1,(f.1.2.2.2.1,(f.1.2.2.2.2.1,(f.1.2.2.2.2.2.1,())))))),()))<|bU (zk d.1.1 d.1.2.1 d.1.2.2.1 (dJ .i64 d.1.2.2.2.1 1) d.1.2.2.2.2.1 d.1.2.2.2.2.2.1) fun e=>bU (rW e.1.1 e.1.2.1 e.1.2.2.1 e.1.2.2.2.1 e.1.2.2.2.2.1 e.1.2.2.2.2.2.1 g.2.1) fun f=>a6 ((f.1.1,(f.1.2.1,(f.1.2.2.1,(f.1.2.2.2.1,(f.1.2.2.2.2.1,(f.1.2.2.2.2.2.1,())))))),())
def aib:gu:=⟨73,J3,[],[],fun x y=>adF x.1 x.2.1 x.2.2.1 x.2.2.2.1 x.2.2.2.2.1 x.2.2.2.2.2.1⟩
theorem Yx:dV prog 149 aib:=qB [] aN (sF su (sF mQ (sF sD (sF Yz aN))))
noncomputable def aFG:Code:=(f150.body).getD .skip
noncomputable def apq:Code:=cA (cA (cB (cA (cB (aFG)))))
def arV:fZ:=⟨[0,3,100002],[],[],[],[2],[]⟩
def aax:SP:=⟨us [bN,.u,.u,bL] 17,[]⟩
def aa0:SP:=⟨us [] 21,[]⟩
def aby:SP:=⟨us dx 18,[]⟩
def RI {f:Type} (g:dC->Int->Option f) (i:Option f) (j:Int->Option f) (e:dC) (d:Int):Option f:=cond (iV d (bV e)) (cond (iy e d) (cond (cZ (dm e d) 61) (cond (gy (bV e) 0 d) (bU (TY (sub e 0 d)) fun l=>cond l.1 (j d)<|g e (dJ .i64 d 1)) a7)<|g e (dJ .i64 d 1)) a7) i
def Ei:Nat->dC->Int->Option (aa0.den⊕aby.den)
 |0,_,_=>a7
 |n+1,d,e=>RI (Ei n) (a6 (.inl ((),()))) (fun f=>a6 (.inr ((f,()),()))) d e
def axV (n:Nat) (v:aax.den):=Ei n v.1.1 v.1.2.1
noncomputable def ajV:dO:=iq arV aax aa0 aby (.exit 0) (axV bY) 6
def XC (d:dC):Option Fb:=bU (Ei bY d 1) fun e=>dX e (fun g=>a6 (0,())) (fun f=>a6 (f.1.1,()))
def au1:Sum:=⟨[.str],Xg,fun x=>XC x.1⟩
noncomputable def agf:Env:=kU prog tt 150 [(147,VT)] [(2,arV)] [(2,ajV)]
def alb {d:Type} (a:aax.den->Option d) (b:aa0.den->Option d) (c:aby.den->Option d) (v:aax.den):Option d:=RI (aL a) (b ((),())) (aE c) v.1.1 v.1.2.1
theorem ayu:eY agf 150 apq ajV:=En (alb) (h2:=by intros;simp only[alb,aL,aE,RI,dG,dH,bT,dw,dI])
theorem aCo:eP agf 150 aFG:=tC [apq] (aD (fM (ayu)) aN)
theorem amy:gm agf:=eA f150 (aD IE aN) (aCo)
theorem aoa:eX prog 150 au1:=sA amy
structure jK where
 q32:(List gJ)->dC->(List gI)->Int->Int->Int->Option E8
 q60:(List gJ)->dC->(List gI)->Int->Int->Int->Option E8
 q82:(List gJ)->dC->(List gI)->Int->Int->Int->Option E8
 q109:(List gJ)->dC->(List gI)->Int->Int->Int->Option E8
 q176:(List gJ)->dC->(List gI)->Int->Int->Int->Option E8
 q177:(List gJ)->dC->(List gI)->Int->Int->Int->Option E8
 q146:(List gJ)->dC->(List gI)->Int->Int->Int->Option E8
 q178:(List gJ)->dC->(List gI)->Int->Int->Int->Option E8
 q179:(List gJ)->dC->(List gI)->Int->Int->Int->Option E8
def aie (q:jK):gu:=⟨73,J3,[],[],fun x y=>q.q32 x.1 x.2.1 x.2.2.1 x.2.2.2.1 x.2.2.2.2.1 x.2.2.2.2.2.1⟩
def avD (q:jK):gu:=⟨73,J3,[],[],fun x y=>q.q60 x.1 x.2.1 x.2.2.1 x.2.2.2.1 x.2.2.2.2.1 x.2.2.2.2.2.1⟩
def avJ (q:jK):gu:=⟨73,J3,[],[],fun x y=>q.q82 x.1 x.2.1 x.2.2.1 x.2.2.2.1 x.2.2.2.2.1 x.2.2.2.2.2.1⟩
def alC (q:jK):gu:=⟨73,J3,[],[],fun x y=>q.q109 x.1 x.2.1 x.2.2.1 x.2.2.2.1 x.2.2.2.2.1 x.2.2.2.2.2.1⟩
def acF (q:jK):gu:=⟨73,J3,[],[],fun x y=>q.q176 x.1 x.2.1 x.2.2.1 x.2.2.2.1 x.2.2.2.2.1 x.2.2.2.2.2.1⟩
def acG (q:jK):gu:=⟨73,J3,[],[],fun x y=>q.q177 x.1 x.2.1 x.2.2.1 x.2.2.2.1 x.2.2.2.2.1 x.2.2.2.2.2.1⟩
def alE (q:jK):gu:=⟨73,J3,[],[],fun x y=>q.q146 x.1 x.2.1 x.2.2.1 x.2.2.2.1 x.2.2.2.2.1 x.2.2.2.2.2.1⟩
def alG (q:jK):gu:=⟨73,J3,[],[],fun x y=>q.q178 x.1 x.2.1 x.2.2.1 x.2.2.2.1 x.2.2.2.2.1 x.2.2.2.2.2.1⟩
def alH (q:jK):gu:=⟨73,J3,[],[],fun x y=>q.q179 x.1 x.2.1 x.2.2.1 x.2.2.2.1 x.2.2.2.2.1 x.2.2.2.2.2.1⟩
noncomputable def b32:Code:=(f32.body).getD .skip
noncomputable def azp:Code:=cA (cA (cA (cB (cB (b32)))))
def ajx:fZ:=⟨[0,2,100002],[],[0,2],[],[],[]⟩
def akr:SQ:=⟨us eI 27,cY,bA⟩
def abg:SQ:=⟨us eI 27,cY,bA⟩
def abP:SQ:=⟨us [] 30,cY,[]⟩
def O6 (q:jK) {j:Type} (m l:Int->(List gJ)->dC->Int->Int->Int->(List gI)->Option j) (A:Option j) (i:Int) (p:List gJ) (u:dC) (v x y:Int) (z:List gI):Option j:=bU (ql p u z v x y [59,38]) fun f=>cond f.2.1 (bU (uO f.1.1 f.1.2.1 f.1.2.2.1 (dJ .i64 f.1.2.2.2.1 1) f.1.2.2.2.2.1 f.1.2.2.2.2.2.1) fun e=>bU (QJ e.1.1 e.1.2.1 e.1.2.2.1 e.1.2.2.2.1 e.1.2.2.2.2.1 e.1.2.2.2.2.2.1) fun d=>cond (!d.2.1) (l i d.1.1 d.1.2.1 d.1.2.2.2.1 d.1.2.2.2.2.1 d.1.2.2.2.2.2.1 d.1.2.2.1)<|bU (q.q60 d.1.1 d.1.2.1 d.1.2.2.1 d.1.2.2.2.1 d.1.2.2.2.2.1 d.1.2.2.2.2.2.1) fun g=>m i g.1.1 g.1.2.1 g.1.2.2.2.1 g.1.2.2.2.2.1 g.1.2.2.2.2.2.1 g.1.2.2.1)<|bU (uO f.1.1 f.1.2.1 f.1.2.2.1 f.1.2.2.2.1 f.1.2.2.2.2.1 f.1.2.2.2.2.2.1) fun e=>cond (cZ e.2.1 0) (l i e.1.1 e.1.2.1 e.1.2.2.2.1 e.1.2.2.2.2.1 e.1.2.2.2.2.2.1 e.1.2.2.1)<|bU (QJ e.1.1 e.1.2.1 e.1.2.2.1 e.1.2.2.2.1 e.1.2.2.2.2.1 e.1.2.2.2.2.2.1) fun d=>cond (!d.2.1) (l i d.1.1 d.1.2.1 d.1.2.2.2.1 d.1.2.2.2.2.1 d.1.2.2.2.2.2.1 d.1.2.2.1)<|bU (q.q60 d.1.1 d.1.2.1 d.1.2.2.1 d.1.2.2.2.1 d.1.2.2.2.2.1 d.1.2.2.2.2.2.1) fun g=>m i g.1.1 g.1.2.1 g.1.2.2.2.1 g.1.2.2.2.2.1 g.1.2.2.2.2.2.1 g.1.2.2.1
def Bj (q:jK):Nat->Int->(List gJ)->dC->Int->Int->Int->(List gI)->Option (abg.den⊕abP.den)
 |0,_,_,_,_,_,_,_=>a7
 |n+1,d,e,f,g,i,j,l=>O6 q (Bj q n) (fun m p u v x y z=>a6 (.inl ((m,()),((),()),((p,u,v,x,y,()),z,())))) (a6 (.inr ((),((),()),()))) d e f g i j l
def aCM (q:jK) (n:Nat) (v:akr.den):=bo (Bj q n) v
noncomputable def asT (q:jK):dO:=gq ajx akr abg abP (.exit 0) (aCM q bY) 6
def aBK (q:jK) (i:List gJ) (j:dC) (l:List gI) (m p u:Int):Option E8:=bU (Fa i j l m p u 2) fun d=>bU (q.q60 d.1.1 d.1.2.1 d.1.2.2.1 d.1.2.2.2.1 d.1.2.2.2.2.1 d.1.2.2.2.2.2.1) fun f=>bU (Bj q bY d.2.1 f.1.1 f.1.2.1 f.1.2.2.2.1 f.1.2.2.2.2.1 f.1.2.2.2.2.2.1 f.1.2.2.1) fun v=>dX v (fun e=>bU (rW e.2.2.1.1 e.2.2.1.2.1 e.2.2.2.1 e.2.2.1.2.2.1 e.2.2.1.2.2.2.1 e.2.2.1.2.2.2.2.1 e.1.1) fun g=>a6 ((g.1.1,(g.1.2.1,(g.1.2.2.1,(g.1.2.2.2.1,(g.1.2.2.2.2.1,(g.1.2.2.2.2.2.1,())))))),())) (fun x=>a7)
noncomputable def aqi (q:jK):Env:=iE prog tt [] [(32,2,ajx)] [(32,2,asT q)] [] [(29,QF),(30,Jm),(31,YE),(34,QG),(60,avD q),(61,QH)]
def auf (q:jK) {d:Type} (a:akr.den->Option d) (b:abg.den->Option d) (c:abP.den->Option d) (v:akr.den):Option d:=bo (O6 q (bm a) (bm b) (c ((),((),()),()))) v
theorem aDm (q:jK):eY (aqi q) 32 azp (asT q):=oq (auf q) (h2:=by intros;simp only[auf,bm,bo,O6,dG,dH,bT,dw,dI])
theorem aGC (q:jK):eP (aqi q) 32 b32:=tC [azp] (aD (fM (aDm q)) aN)
abbrev H32 (q:jK):Prop:=dV prog 32 (aie q)/\dV prog 60 (avD q)/\dV prog 82 (avJ q)/\dV prog 109 (alC q)/\dV prog 176 (acF q)/\dV prog 177 (acG q)/\dV prog 146 (alE q)/\dV prog 178 (alG q)/\dV prog 179 (alH q)
theorem aqj (q:jK) (H:H32 q):gm (aqi q):=eB aN [32] (aD ⟨f32,b32,by kernel_rfl,by kernel_rfl,aGC q⟩ aN) (hx:=(aD su (aD mQ (aD GR (aD sD (aD H.2.1 (aD zK aN)))))))
noncomputable def b60:Code:=(f60.body).getD .skip
noncomputable def azA:Code:=cA (cA (cA (cB (cB (b60)))))
def akC:SQ:=⟨us eI 25,cY,bA⟩
def ahq:SQ:=⟨us eI 25,cY,bA⟩
def ahM:SQ:=⟨us [] 28,cY,[]⟩
def acw (q:jK) {i:Type} (l m:Int->(List gJ)->dC->Int->Int->Int->(List gI)->Option i) (A:Option i) (j:Int) (p:List gJ) (u:dC) (v x y:Int) (z:List gI):Option i:=bU (ql p u z v x y [97,111]) fun d=>cond d.2.1 (bU (uO d.1.1 d.1.2.1 d.1.2.2.1 (dJ .i64 d.1.2.2.2.1 1) d.1.2.2.2.2.1 d.1.2.2.2.2.2.1) fun g=>bU (QJ g.1.1 g.1.2.1 g.1.2.2.1 g.1.2.2.2.1 g.1.2.2.2.2.1 g.1.2.2.2.2.2.1) fun e=>cond e.2.1 (bU (q.q82 e.1.1 e.1.2.1 e.1.2.2.1 e.1.2.2.2.1 e.1.2.2.2.2.1 e.1.2.2.2.2.2.1) fun f=>l j f.1.1 f.1.2.1 f.1.2.2.2.1 f.1.2.2.2.2.1 f.1.2.2.2.2.2.1 f.1.2.2.1)<|bU (FN e.1.1 e.1.2.1 e.1.2.2.1 e.1.2.2.2.1 e.1.2.2.2.2.1 e.1.2.2.2.2.2.1) fun f=>l j f.1.1 f.1.2.1 f.1.2.2.2.1 f.1.2.2.2.2.1 f.1.2.2.2.2.2.1 f.1.2.2.1)<|m j d.1.1 d.1.2.1 d.1.2.2.2.1 d.1.2.2.2.2.1 d.1.2.2.2.2.2.1 d.1.2.2.1
def UH (q:jK):Nat->Int->(List gJ)->dC->Int->Int->Int->(List gI)->Option (ahq.den⊕ahM.den)
 |0,_,_,_,_,_,_,_=>a7
 |n+1,d,e,f,g,i,j,l=>acw q (UH q n) (fun m p u v x y z=>a6 (.inl ((m,()),((),()),((p,u,v,x,y,()),z,())))) (a6 (.inr ((),((),()),()))) d e f g i j l
def aCX (q:jK) (n:Nat) (v:akC.den):=bo (UH q n) v
noncomputable def as5 (q:jK):dO:=gq ajx akC ahq ahM (.exit 0) (aCX q bY) 6
def aBL (q:jK) (i:List gJ) (j:dC) (l:List gI) (m p u:Int):Option E8:=bU (Fa i j l m p u 3) fun d=>bU (q.q82 d.1.1 d.1.2.1 d.1.2.2.1 d.1.2.2.2.1 d.1.2.2.2.2.1 d.1.2.2.2.2.2.1) fun f=>bU (UH q bY d.2.1 f.1.1 f.1.2.1 f.1.2.2.2.1 f.1.2.2.2.2.1 f.1.2.2.2.2.2.1 f.1.2.2.1) fun v=>dX v (fun e=>bU (rW e.2.2.1.1 e.2.2.1.2.1 e.2.2.2.1 e.2.2.1.2.2.1 e.2.2.1.2.2.2.1 e.2.2.1.2.2.2.2.1 e.1.1) fun g=>a6 ((g.1.1,(g.1.2.1,(g.1.2.2.1,(g.1.2.2.2.1,(g.1.2.2.2.2.1,(g.1.2.2.2.2.2.1,())))))),())) (fun x=>a7)
noncomputable def aqC (q:jK):Env:=iE prog tt [] [(60,2,ajx)] [(60,2,as5 q)] [] [(29,QF),(30,Jm),(31,YE),(34,QG),(61,QH),(82,avJ q),(83,afw)]
def auq (q:jK) {d:Type} (a:akC.den->Option d) (b:ahq.den->Option d) (c:ahM.den->Option d) (v:akC.den):Option d:=bo (acw q (bm a) (bm b) (c ((),((),()),()))) v
theorem aDx (q:jK):eY (aqC q) 60 azA (as5 q):=oq (auq q) (h2:=by intros;simp only[auq,bm,bo,acw,dG,dH,bT,dw,dI])
theorem aGM (q:jK):eP (aqC q) 60 b60:=tC [azA] (aD (fM (aDx q)) aN)
theorem aqD (q:jK) (H:H32 q):gm (aqC q):=eB aN [60] (aD ⟨f60,b60,by kernel_rfl,by kernel_rfl,aGM q⟩ aN) (hx:=(aD su (aD mQ (aD GR (aD sD (aD zK (aD H.2.2.1 (aD DF aN))))))))
noncomputable def b82:Code:=(f82.body).getD .skip
noncomputable def azF:Code:=cA (cA (cA (cB (cB (cB (b82))))))
def az5:fZ:=⟨[0,2,100004],[],[0,2],[],[],[]⟩
def akH:SQ:=⟨us eI 31,cY,bA⟩
def ahv:SQ:=⟨us eI 31,cY,bA⟩
def ahQ:SQ:=⟨us [] 34,cY,[]⟩
def acA (q:jK) {g:Type} (j l:Int->(List gJ)->dC->Int->Int->Int->(List gI)->Option g) (z:Option g) (i:Int) (m:List gJ) (p:dC) (u v x:Int) (y:List gI):Option g:=bU (ql m p y u v x [124]) fun d=>cond d.2.1 (bU (uO d.1.1 d.1.2.1 d.1.2.2.1 (dJ .i64 d.1.2.2.2.1 1) d.1.2.2.2.2.1 d.1.2.2.2.2.2.1) fun e=>bU (q.q109 e.1.1 e.1.2.1 e.1.2.2.1 e.1.2.2.2.1 e.1.2.2.2.2.1 e.1.2.2.2.2.2.1) fun f=>j i f.1.1 f.1.2.1 f.1.2.2.2.1 f.1.2.2.2.2.1 f.1.2.2.2.2.2.1 f.1.2.2.1)<|l i d.1.1 d.1.2.1 d.1.2.2.2.1 d.1.2.2.2.2.1 d.1.2.2.2.2.2.1 d.1.2.2.1
def JI (q:jK):Nat->Int->(List gJ)->dC->Int->Int->Int->(List gI)->Option (ahv.den⊕ahQ.den)
 |0,_,_,_,_,_,_,_=>a7
 |n+1,d,e,f,g,i,j,l=>acA q (JI q n) (fun m p u v x y z=>a6 (.inl ((m,()),((),()),((p,u,v,x,y,()),z,())))) (a6 (.inr ((),((),()),()))) d e f g i j l
def aC2 (q:jK) (n:Nat) (v:akH.den):=bo (JI q n) v
noncomputable def ata (q:jK):dO:=gq az5 akH ahv ahQ (.exit 0) (aC2 q bY) 6
def aBM (q:jK) (l:List gJ) (m:dC) (p:List gI) (u v x:Int):Option E8:=bU (Fa l m p u v x 4) fun i=>bU (ql i.1.1 i.1.2.1 i.1.2.2.1 i.1.2.2.2.1 i.1.2.2.2.2.1 i.1.2.2.2.2.2.1 [33]) fun e=>cond e.2.1 (bU (q.q109 e.1.1 e.1.2.1 e.1.2.2.1 (dJ .i64 e.1.2.2.2.1 1) e.1.2.2.2.2.1 e.1.2.2.2.2.2.1) fun f=>bU (JI q bY i.2.1 f.1.1 f.1.2.1 f.1.2.2.2.1 f.1.2.2.2.2.1 f.1.2.2.2.2.2.1 f.1.2.2.1) fun j=>dX j (fun d=>bU (rW d.2.2.1.1 d.2.2.1.2.1 d.2.2.2.1 d.2.2.1.2.2.1 d.2.2.1.2.2.2.1 d.2.2.1.2.2.2.2.1 d.1.1) fun g=>a6 ((g.1.1,(g.1.2.1,(g.1.2.2.1,(g.1.2.2.2.1,(g.1.2.2.2.2.1,(g.1.2.2.2.2.2.1,())))))),())) (fun y=>a7))<|bU (q.q109 e.1.1 e.1.2.1 e.1.2.2.1 e.1.2.2.2.1 e.1.2.2.2.2.1 e.1.2.2.2.2.2.1) fun f=>bU (JI q bY i.2.1 f.1.1 f.1.2.1 f.1.2.2.2.1 f.1.2.2.2.2.1 f.1.2.2.2.2.2.1 f.1.2.2.1) fun j=>dX j (fun d=>bU (rW d.2.2.1.1 d.2.2.1.2.1 d.2.2.2.1 d.2.2.1.2.2.1 d.2.2.1.2.2.2.1 d.2.2.1.2.2.2.2.1 d.1.1) fun g=>a6 ((g.1.1,(g.1.2.1,(g.1.2.2.1,(g.1.2.2.2.1,(g.1.2.2.2.2.1,(g.1.2.2.2.2.2.1,())))))),())) (fun y=>a7)
noncomputable def aqM (q:jK):Env:=iE prog tt [] [(82,4,az5)] [(82,4,ata q)] [] [(29,QF),(30,Jm),(34,QG),(61,QH),(109,alC q)]
def auv (q:jK) {d:Type} (a:akH.den->Option d) (b:ahv.den->Option d) (c:ahQ.den->Option d) (v:akH.den):Option d:=bo (acA q (bm a) (bm b) (c ((),((),()),()))) v
theorem aDC (q:jK):eY (aqM q) 82 azF (ata q):=oq (auv q) (h2:=by intros;simp only[auv,bm,bo,acA,dG,dH,bT,dw,dI])
theorem aGR (q:jK):eP (aqM q) 82 b82:=tC [azF] (aD (fM (aDC q)) aN)
theorem aqN (q:jK) (H:H32 q):gm (aqM q):=eB aN [82] (aD ⟨f82,b82,by kernel_rfl,by kernel_rfl,aGR q⟩ aN) (hx:=(aD su (aD mQ (aD sD (aD zK (aD H.2.2.2.1 aN))))))
noncomputable def afS:Code:=(f109.body).getD .skip
noncomputable def ait:Code:=cA (cA (cA (cB (cB (cB (cB (cB (afS))))))))
noncomputable def Aa:Code:=cB (cB (cB (afS)))
def ajs:fZ:=⟨[0,3,4,100016],[],[0,3],[],[],[]⟩
def Aj:fZ:=⟨[0,900014],[],[],[],[],[]⟩
def Q7:SQ:=⟨us [co,.u,.u,bL,bL] 139,cY,bA⟩
def U4:SQ:=⟨us ei 140,cY,bA⟩
def Vd:SQ:=⟨us [] 144,cY,[]⟩
def Na (q:jK) {j:Type} (l:Int->Int->(List gJ)->dC->Int->Int->Int->(List gI)->Option j) (m:Int->(List gJ)->dC->Int->Int->Int->(List gI)->Option j) (A:Option j) (g i:Int) (p:List gJ) (u:dC) (v x y:Int) (z:List gI):Option j:=bU (am7 p u z v x y) fun d=>cond d.2.1 (bU (adF d.1.1 d.1.2.1 d.1.2.2.1 d.1.2.2.2.1 d.1.2.2.2.2.1 d.1.2.2.2.2.2.1) fun e=>l g i e.1.1 e.1.2.1 e.1.2.2.2.1 e.1.2.2.2.2.1 e.1.2.2.2.2.2.1 e.1.2.2.1)<|cond (iV d.1.2.2.2.1 (bV d.1.1)) (cond (iy d.1.1 d.1.2.2.2.1) (cond (cZ (gW d.1.1 (0,([],(0,(0,())))) d.1.2.2.2.1).1 6) (cond (cZ i 0) (cond (iy d.1.1 d.1.2.2.2.1) (bU (XC (gW d.1.1 (0,([],(0,(0,())))) d.1.2.2.2.1).2.1) fun e=>cond (iV 0 e.1) (bU (N9 d.1.1 d.1.2.1 d.1.2.2.1 d.1.2.2.2.1 d.1.2.2.2.2.1 d.1.2.2.2.2.2.1 6) fun f=>l g i f.1.1 f.1.2.1 f.1.2.2.2.1 f.1.2.2.2.2.1 f.1.2.2.2.2.2.1 f.1.2.2.1)<|bU (N9 d.1.1 d.1.2.1 d.1.2.2.1 d.1.2.2.2.1 d.1.2.2.2.2.1 d.1.2.2.2.2.2.1 7) fun f=>l g (dJ .i64 i 1) f.1.1 f.1.2.1 f.1.2.2.2.1 f.1.2.2.2.2.1 f.1.2.2.2.2.2.1 f.1.2.2.1) a7)<|bU (N9 d.1.1 d.1.2.1 d.1.2.2.1 d.1.2.2.2.1 d.1.2.2.2.2.1 d.1.2.2.2.2.2.1 7) fun e=>l g (dJ .i64 i 1) e.1.1 e.1.2.1 e.1.2.2.2.1 e.1.2.2.2.2.1 e.1.2.2.2.2.2.1 e.1.2.2.1)<|m g d.1.1 d.1.2.1 d.1.2.2.2.1 d.1.2.2.2.2.1 d.1.2.2.2.2.2.1 d.1.2.2.1) a7)<|m g d.1.1 d.1.2.1 d.1.2.2.2.1 d.1.2.2.2.2.1 d.1.2.2.2.2.2.1 d.1.2.2.1
def Df (q:jK):Nat->Int->Int->(List gJ)->dC->Int->Int->Int->(List gI)->Option (U4.den⊕Vd.den)
 |0,_,_,_,_,_,_,_,_=>a7
 |n+1,d,e,f,g,i,j,l,m=>Na q (Df q n) (fun p u v x y z A=>a6 (.inl ((p,()),((),()),((u,v,x,y,z,()),A,())))) (a6 (.inr ((),((),()),()))) d e f g i j l m
def asF (q:jK) (n:Nat) (v:Q7.den):=Df q n v.1.1 v.1.2.1 v.2.2.1.1 v.2.2.1.2.1 v.2.2.1.2.2.1 v.2.2.1.2.2.2.1 v.2.2.1.2.2.2.2.1 v.2.2.2.1
noncomputable def aeu (q:jK):dO:=gq ajs Q7 U4 Vd (.exit 0) (asF q bY) 6
def Gf:SQ:=⟨us bE 143,cY,bA⟩
def xX:SQ:=⟨us [] 144,cY,bA⟩
def yf:SQ:=⟨us [] 144,cY,[]⟩
def yz (q:jK) {g:Type} (i:(List gJ)->dC->Int->Int->Int->(List gI)->Option g) (j:Option g) (l:List gJ) (m:dC) (p u v:Int) (x:List gI):Option g:=bU (Fa l m x p u v 5) fun d=>bU (Df q bY d.2.1 0 d.1.1 d.1.2.1 d.1.2.2.2.1 d.1.2.2.2.2.1 d.1.2.2.2.2.2.1 d.1.2.2.1) fun y=>dX y (fun e=>bU (rW e.2.2.1.1 e.2.2.1.2.1 e.2.2.2.1 e.2.2.1.2.2.1 e.2.2.1.2.2.2.1 e.2.2.1.2.2.2.2.1 e.1.1) fun f=>i f.1.1 f.1.2.1 f.1.2.2.2.1 f.1.2.2.2.2.1 f.1.2.2.2.2.2.1 f.1.2.2.1) (fun z=>j)
def pq (q:jK) (d:List gJ) (e:dC) (f g i:Int) (j:List gI):Option (xX.den⊕yf.den):=yz q (fun l m p u v x=>a6 (.inl ((),((),()),((l,m,p,u,v,()),x,())))) (a6 (.inr ((),((),()),()))) d e f g i j
noncomputable def LW (q:jK):dO:=gq Aj Gf xX yf (.exit 999999) (fun v=>pq q v.2.2.1.1 v.2.2.1.2.1 v.2.2.1.2.2.1 v.2.2.1.2.2.2.1 v.2.2.1.2.2.2.2.1 v.2.2.2.1) 12
def Ho (q:jK) (d:(taF×xy)):Option E8:=bU (pq q d.1.1 d.1.2.1 d.1.2.2.2.1 d.1.2.2.2.2.1 d.1.2.2.2.2.2.1 d.1.2.2.1) fun f=>dX f (fun e=>a6 ((e.2.2.1.1,(e.2.2.1.2.1,(e.2.2.2.1,(e.2.2.1.2.2.1,(e.2.2.1.2.2.2.1,(e.2.2.1.2.2.2.2.1,())))))),())) (fun g=>a7)
def aq4 (q:jK) (v:List gJ) (x:dC) (y:List gI) (z A B:Int):Option E8:=bU (arn v x y z A B) fun f=>cond (!f.2.1) (bU (FN f.1.1 f.1.2.1 f.1.2.2.1 f.1.2.2.2.1 f.1.2.2.2.2.1 f.1.2.2.2.2.2.1) fun e=>a6 ((e.1.1,(e.1.2.1,(e.1.2.2.1,(e.1.2.2.2.1,(e.1.2.2.2.2.1,(e.1.2.2.2.2.2.1,())))))),()))<|bU (agG f.1.1 f.1.2.1 f.1.2.2.1 f.1.2.2.2.1 f.1.2.2.2.2.1 f.1.2.2.2.2.2.1) fun e=>cond e.2.1 (bU (q.q146 e.1.1 e.1.2.1 e.1.2.2.1 e.1.2.2.2.1 e.1.2.2.2.2.1 e.1.2.2.2.2.2.1) fun d=>a6 ((d.1.1,(d.1.2.1,(d.1.2.2.1,(d.1.2.2.2.1,(d.1.2.2.2.2.1,(d.1.2.2.2.2.2.1,())))))),()))<|bU (ql e.1.1 e.1.2.1 e.1.2.2.1 e.1.2.2.2.1 e.1.2.2.2.2.1 e.1.2.2.2.2.2.1 [120]) fun d=>cond d.2.1 (cond (iV (dJ .i64 d.1.2.2.2.1 1) (bV d.1.2.1)) (cond (iy d.1.2.1 (dJ .i64 d.1.2.2.2.1 1)) (cond (cZ (dm d.1.2.1 (dJ .i64 d.1.2.2.2.1 1)) 40) (cond (iV d.1.2.2.2.2.2.1 200) (cond (iy d.1.1 d.1.2.2.2.1) (bU (TY (gW d.1.1 (0,([],(0,(0,())))) d.1.2.2.2.1).2.1) fun D=>cond D.1 (bU (Fa d.1.1 d.1.2.1 d.1.2.2.1 d.1.2.2.2.1 d.1.2.2.2.2.1 d.1.2.2.2.2.2.1 16) fun l=>bU (N9 l.1.1 l.1.2.1 l.1.2.2.1 l.1.2.2.2.1 l.1.2.2.2.2.1 l.1.2.2.2.2.2.1 7) fun m=>bU (pI m.1.1 m.1.2.1 m.1.2.2.1 (dJ .i64 m.1.2.2.2.1 1) m.1.2.2.2.2.1 m.1.2.2.2.2.2.1 [41]) fun p=>bU (uO p.1.1 p.1.2.1 p.1.2.2.1 p.1.2.2.2.1 p.1.2.2.2.2.1 p.1.2.2.2.2.2.1) fun u=>bU (agG u.1.1 u.1.2.1 u.1.2.2.1 u.1.2.2.2.1 u.1.2.2.2.2.1 u.1.2.2.2.2.2.1) fun g=>cond g.2.1 (bU (q.q146 g.1.1 g.1.2.1 g.1.2.2.1 g.1.2.2.2.1 g.1.2.2.2.2.1 g.1.2.2.2.2.2.1) fun i=>bU (rW i.1.1 i.1.2.1 i.1.2.2.1 i.1.2.2.2.1 i.1.2.2.2.2.1 i.1.2.2.2.2.2.1 l.2.1) fun j=>a6 ((j.1.1,(j.1.2.1,(j.1.2.2.1,(j.1.2.2.2.1,(j.1.2.2.2.2.1,(j.1.2.2.2.2.2.1,())))))),()))<|bU (FN g.1.1 g.1.2.1 g.1.2.2.1 g.1.2.2.2.1 g.1.2.2.2.2.1 g.1.2.2.2.2.2.1) fun i=>bU (rW i.1.1 i.1.2.1 i.1.2.2.1 i.1.2.2.2.1 i.1.2.2.2.2.1 i.1.2.2.2.2.2.1 l.2.1) fun j=>a6 ((j.1.1,(j.1.2.1,(j.1.2.2.1,(j.1.2.2.2.1,(j.1.2.2.2.2.1,(j.1.2.2.2.2.2.1,())))))),()))<|Ho q d) a7)<|Ho q d)<|Ho q d) a7)<|Ho q d)<|Ho q d
noncomputable def Jw (q:jK):Env:=iE prog tt [(147,VT),(150,au1)] [(109,16,ajs),(109,800014,Aj)] [(109,16,aeu q),(109,800014,LW q)] [] [(29,QF),(30,Jm),(33,alQ),(34,QG),(59,aAD),(61,QH),(80,avI),(81,aAI),(83,afw),(146,alE q),(148,VU),(149,aib)]
def aff (q:jK) {d:Type} (a:Q7.den->Option d) (b:U4.den->Option d) (c:Vd.den->Option d) (v:Q7.den):Option d:=Na q (fun e f g i j l m p=>a ((e,f,()),((),()),((g,i,j,l,m,()),p,()))) (bm b) (c ((),((),()),())) v.1.1 v.1.2.1 v.2.2.1.1 v.2.2.1.2.1 v.2.2.1.2.2.1 v.2.2.1.2.2.2.1 v.2.2.1.2.2.2.2.1 v.2.2.2.1
theorem att (q:jK):eY (Jw q) 109 ait (aeu q):=oq (aff q) (h2:=by intros;simp only[aff,bm,Na,dG,dH,bT,dw,dI])
theorem VL (q:jK) {R:Type} (d:Nat) (K:Ex->St->Option R) (e:List gJ) (f:dC) (g i j:Int) (l:List gI):
  iter (a6 Aj) (Fj (Du (Jw q) (d+12) 109 Aa)) 1 (pJ Gf ((),((),()),((e,f,g,i,j,()),l,()))) K=
   yz q (fun e0 m e2 p u v=>K (.exit 999999) (pJ xX ((),((),()),((e0,m,e2,p,u,()),v,())))) (K .ret (pJ yf ((),((),()),()))) e f g i j l:=by kernel_rfl
theorem ZJ (q:jK) {R:Type} (d:Nat) (K:Ex->St->Option R) (e:List gJ) (f:dC) (g i j:Int) (l:List gI):
  iter (a6 Aj) (Fj (Du (Jw q) (d+12) 109 Aa)) 1 (pJ Gf ((),((),()),((e,f,g,i,j,()),l,()))) K=bU (pq q e f g i j l) fun o=>dX o (fun a=>K (.exit 999999) (pJ xX a)) fun b=>K .ret (pJ yf b):=by
  rw[VL];simp only[pq,yz,dG,dH,bT,dw,dI]
  try simp only[dX]
theorem aac (q:jK):xn (Jw q) 109 Aa (LW q):=amc (by kernel_rfl) fun R d K v o h=>⟨1,(ZJ q d K (v.2.2.1.1) (v.2.2.1.2.1) (v.2.2.1.2.2.1) (v.2.2.1.2.2.2.1) (v.2.2.1.2.2.2.2.1) (v.2.2.2.1)).trans (congrArg (fun o=>bU o _) h)⟩
theorem aB2:kX afS=[ait]:=by kernel_rfl
theorem aBj (q:jK):Og (Jw q) 109 afS=[Aa]:=by kernel_rfl
theorem aCb (q:jK):eP (Jw q) 109 afS:=FV afS (fun x _ d=>absurd (show false=true from d) (by decide)) (by rw[aB2];exact(aD (fM (att q)) aN)) (Lt (by rw[aBj];exact(aD (fC (by kernel_rfl) (aac q)) aN)))
theorem ami (q:jK) (H:H32 q):gm (Jw q):=eB (aD IE (aD aoa aN)) [109] (aD ⟨f109,afS,by kernel_rfl,by kernel_rfl,aCb q⟩ aN) (hx:=(aD su (aD mQ (aD Ns (aD sD (aD aft (aD zK (aD VY (aD afv (aD DF (aD H.2.2.2.2.2.2.1 (aD IG (aD Yx aN)))))))))))))
def aq5 (q:jK) (g:List gJ) (i:dC) (j:List gI) (l m p:Int):Option E8:=bU (uO g i j l m p) fun f=>bU (QJ f.1.1 f.1.2.1 f.1.2.2.1 f.1.2.2.2.1 f.1.2.2.2.2.1 f.1.2.2.2.2.2.1) fun d=>cond d.2.1 (bU (q.q32 d.1.1 d.1.2.1 d.1.2.2.1 d.1.2.2.2.1 d.1.2.2.2.2.1 d.1.2.2.2.2.2.1) fun e=>a6 ((e.1.1,(e.1.2.1,(e.1.2.2.1,(e.1.2.2.2.1,(e.1.2.2.2.2.1,(e.1.2.2.2.2.2.1,())))))),()))<|bU (FN d.1.1 d.1.2.1 d.1.2.2.1 d.1.2.2.2.1 d.1.2.2.2.2.1 d.1.2.2.2.2.2.1) fun e=>a6 ((e.1.1,(e.1.2.1,(e.1.2.2.1,(e.1.2.2.2.1,(e.1.2.2.2.2.1,(e.1.2.2.2.2.2.1,())))))),())
noncomputable def aBw (q:jK):Env:=iE prog tt [] [] [] [] [(31,YE),(32,aie q),(61,QH),(83,afw)]
theorem amE (q:jK) (H:H32 q):gm (aBw q):=eB aN [] aN (hx:=(aD GR (aD H.1 (aD zK (aD DF aN)))))
def aq6 (q:jK) (g:List gJ) (i:dC) (j:List gI) (l m p:Int):Option E8:=bU (pI g i j l m p [100]) fun d=>bU (q.q176 d.1.1 d.1.2.1 d.1.2.2.1 d.1.2.2.2.1 d.1.2.2.2.2.1 d.1.2.2.2.2.2.1) fun e=>bU (pI e.1.1 e.1.2.1 e.1.2.2.1 e.1.2.2.2.1 e.1.2.2.2.2.1 e.1.2.2.2.2.2.1 [103]) fun f=>a6 ((f.1.1,(f.1.2.1,(f.1.2.2.1,(f.1.2.2.2.1,(f.1.2.2.2.2.1,(f.1.2.2.2.2.2.1,())))))),())
noncomputable def aBx (q:jK):Env:=iE prog tt [] [] [] [] [(148,VU),(176,acF q)]
theorem amF (q:jK) (H:H32 q):gm (aBx q):=eB aN [] aN (hx:=(aD IG (aD H.2.2.2.2.1 aN)))
noncomputable def ao4:Code:=(f146.body).getD .skip
noncomputable def apn:Code:=cA (cA (cB (cA (cB (cB (ao4))))))
noncomputable def aiu:Code:=cA (cA (cA (cB (cB (cB (cA (cB (cB (cB (cB (cB (cA (cB (cA (cB (cB (cB (cB (cB (ao4))))))))))))))))))))
noncomputable def aiv:Code:=cA (cA (cA (cB (cB (cB (cB (cB (cB (ao4)))))))))
def arU:fZ:=⟨[0,2,3,4,100003],[],[0,3],[],[],[]⟩
def ajt:fZ:=⟨[0,5,100020],[],[0,5],[],[],[]⟩
def aju:fZ:=⟨[0,5,100036],[],[0,5],[],[],[]⟩
def aav:SQ:=⟨us [co,.u,cJ,bL,bL] 103,cY,bA⟩
def aaY:SQ:=⟨us ei 104,cY,bA⟩
def abw:SQ:=⟨us [] 108,cY,[]⟩
def acg (q:jK) {e:Type} (u:Int->Int->Int->(List gJ)->dC->Int->Int->Int->(List gI)->Option e) (x:Int->(List gJ)->dC->Int->Int->Int->(List gI)->Option e) (y:Option e) (f v d:Int) (g:List gJ) (i:dC) (j l m:Int) (p:List gI):Option e:=cond (iV d 6) (cond (iy [123,40,105,119,114,99] d) (cond (cZ (dm [123,40,105,119,114,99] d) f) (u f (dJ .i64 9 d) (dJ .i64 d 1) g i j l m p)<|u f v (dJ .i64 d 1) g i j l m p) a7)<|x v g i j l m p
def xN (q:jK):Nat->Int->Int->Int->(List gJ)->dC->Int->Int->Int->(List gI)->Option (aaY.den⊕abw.den)
 |0,_,_,_,_,_,_,_,_,_=>a7
 |n+1,d,e,f,g,i,j,l,m,p=>acg q (xN q n) (fun u v x y z A B=>a6 (.inl ((u,()),((),()),((v,x,y,z,A,()),B,())))) (a6 (.inr ((),((),()),()))) d e f g i j l m p
def axT (q:jK) (n:Nat) (v:aav.den):=xN q n v.1.1 v.1.2.1 v.1.2.2.1 v.2.2.1.1 v.2.2.1.2.1 v.2.2.1.2.2.1 v.2.2.1.2.2.2.1 v.2.2.1.2.2.2.2.1 v.2.2.2.1
noncomputable def ajT (q:jK):dO:=gq arU aav aaY abw (.exit 0) (axT q bY) 6
def Q9:SQ:=⟨c6,cY,bA⟩
def MG:SQ:=⟨c6,cY,bA⟩
def MK:SQ:=⟨us [] 108,cY,[]⟩
def Nh (q:jK) {f:Type} (i j:Int->(List gJ)->dC->Int->Int->Int->(List gI)->Option f) (y:Option f) (g:Int) (l:List gJ) (m:dC) (p u v:Int) (x:List gI):Option f:=bU (am7 l m x p u v) fun d=>cond d.2.1 (bU (adF d.1.1 d.1.2.1 d.1.2.2.1 d.1.2.2.2.1 d.1.2.2.2.2.1 d.1.2.2.2.2.2.1) fun e=>i g e.1.1 e.1.2.1 e.1.2.2.2.1 e.1.2.2.2.2.1 e.1.2.2.2.2.2.1 e.1.2.2.1)<|j g d.1.1 d.1.2.1 d.1.2.2.2.1 d.1.2.2.2.2.1 d.1.2.2.2.2.2.1 d.1.2.2.1
def kw (q:jK):Nat->Int->(List gJ)->dC->Int->Int->Int->(List gI)->Option (MG.den⊕MK.den)
 |0,_,_,_,_,_,_,_=>a7
 |n+1,d,e,f,g,i,j,l=>Nh q (kw q n) (fun m p u v x y z=>a6 (.inl ((m,()),((),()),((p,u,v,x,y,()),z,())))) (a6 (.inr ((),((),()),()))) d e f g i j l
def asH (q:jK) (n:Nat) (v:Q9.den):=bo (kw q n) v
noncomputable def aew (q:jK):dO:=gq aju Q9 MG MK (.exit 5) (asH q bY) 12
def Q8:SQ:=⟨c6,cY,bA⟩
def U5:SQ:=⟨c6,cY,bA⟩
def Ve:SQ:=⟨us [] 108,cY,[]⟩
def Nc (q:jK) {i:Type} (l m:Int->(List gJ)->dC->Int->Int->Int->(List gI)->Option i) (A:Option i) (j:Int) (p:List gJ) (u:dC) (v x y:Int) (z:List gI):Option i:=bU (ql p u z v x y [101]) fun d=>cond d.2.1 (bU (q.q176 d.1.1 d.1.2.1 d.1.2.2.1 (dJ .i64 d.1.2.2.2.1 1) d.1.2.2.2.2.1 d.1.2.2.2.2.2.1) fun e=>bU (pI e.1.1 e.1.2.1 e.1.2.2.1 e.1.2.2.2.1 e.1.2.2.2.2.1 e.1.2.2.2.2.2.1 [116]) fun f=>bU (q.q176 f.1.1 f.1.2.1 f.1.2.2.1 f.1.2.2.2.1 f.1.2.2.2.2.1 f.1.2.2.2.2.2.1) fun g=>l j g.1.1 g.1.2.1 g.1.2.2.2.1 g.1.2.2.2.2.1 g.1.2.2.2.2.2.1 g.1.2.2.1)<|m j d.1.1 d.1.2.1 d.1.2.2.2.1 d.1.2.2.2.2.1 d.1.2.2.2.2.2.1 d.1.2.2.1
def Dh (q:jK):Nat->Int->(List gJ)->dC->Int->Int->Int->(List gI)->Option (U5.den⊕Ve.den)
 |0,_,_,_,_,_,_,_=>a7
 |n+1,d,e,f,g,i,j,l=>Nc q (Dh q n) (fun m p u v x y z=>a6 (.inl ((m,()),((),()),((p,u,v,x,y,()),z,())))) (a6 (.inr ((),((),()),()))) d e f g i j l
def asG (q:jK) (n:Nat) (v:Q8.den):=bo (Dh q n) v
noncomputable def aev (q:jK):dO:=gq ajt Q8 U5 Ve (.exit 3) (asG q bY) 18
def pY (f:MG.den⊕MK.den):Option E8:=dX f (fun d=>bU (rW d.2.2.1.1 d.2.2.1.2.1 d.2.2.2.1 d.2.2.1.2.2.1 d.2.2.1.2.2.2.1 d.2.2.1.2.2.2.2.1 d.1.1) fun e=>a6 ((e.1.1,(e.1.2.1,(e.1.2.2.1,(e.1.2.2.2.1,(e.1.2.2.2.2.1,(e.1.2.2.2.2.2.1,())))))),())) (fun g=>a7)
def CU (q:jK) (x:List gJ) (u:dC) (y:List gI) (v z A:Int):Option E8:=cond (iy u v) (bU (xN q bY (dm u v) 9 0 x u v z A y) fun B=>dX B (fun g=>bU (Fa g.2.2.1.1 g.2.2.1.2.1 g.2.2.2.1 g.2.2.1.2.2.1 g.2.2.1.2.2.2.1 g.2.2.1.2.2.2.2.1 g.1.1) fun d=>cond (cZ g.1.1 9) (bU (q.q176 d.1.1 d.1.2.1 d.1.2.2.1 (dJ .i64 d.1.2.2.2.1 1) d.1.2.2.2.2.1 d.1.2.2.2.2.2.1) fun e=>bU (pI e.1.1 e.1.2.1 e.1.2.2.1 e.1.2.2.2.1 e.1.2.2.2.2.1 e.1.2.2.2.2.2.1 [125]) fun f=>bU (kw q bY d.2.1 f.1.1 f.1.2.1 f.1.2.2.2.1 f.1.2.2.2.2.1 f.1.2.2.2.2.2.1 f.1.2.2.1) fun l=>pY l)<|cond (cZ g.1.1 10) (bU (q.q176 d.1.1 d.1.2.1 d.1.2.2.1 (dJ .i64 d.1.2.2.2.1 1) d.1.2.2.2.2.1 d.1.2.2.2.2.2.1) fun e=>bU (pI e.1.1 e.1.2.1 e.1.2.2.1 e.1.2.2.2.1 e.1.2.2.2.2.1 e.1.2.2.2.2.2.1 [41]) fun f=>bU (kw q bY d.2.1 f.1.1 f.1.2.1 f.1.2.2.2.1 f.1.2.2.2.2.1 f.1.2.2.2.2.2.1 f.1.2.2.1) fun l=>pY l)<|cond (cZ g.1.1 11) (bU (q.q176 d.1.1 d.1.2.1 d.1.2.2.1 (dJ .i64 d.1.2.2.2.1 1) d.1.2.2.2.2.1 d.1.2.2.2.2.2.1) fun e=>bU (pI e.1.1 e.1.2.1 e.1.2.2.1 e.1.2.2.2.1 e.1.2.2.2.2.1 e.1.2.2.2.2.2.1 [116]) fun f=>bU (q.q176 f.1.1 f.1.2.1 f.1.2.2.1 f.1.2.2.2.1 f.1.2.2.2.2.1 f.1.2.2.2.2.2.1) fun l=>bU (Dh q bY d.2.1 l.1.1 l.1.2.1 l.1.2.2.2.1 l.1.2.2.2.2.1 l.1.2.2.2.2.2.1 l.1.2.2.1) fun D=>dX D (fun m=>bU (ql m.2.2.1.1 m.2.2.1.2.1 m.2.2.2.1 m.2.2.1.2.2.1 m.2.2.1.2.2.2.1 m.2.2.1.2.2.2.2.1 [108]) fun i=>cond i.2.1 (bU (q.q176 i.1.1 i.1.2.1 i.1.2.2.1 (dJ .i64 i.1.2.2.2.1 1) i.1.2.2.2.2.1 i.1.2.2.2.2.2.1) fun j=>bU (pI j.1.1 j.1.2.1 j.1.2.2.1 j.1.2.2.2.1 j.1.2.2.2.2.1 j.1.2.2.2.2.2.1 [102]) fun p=>bU (kw q bY m.1.1 p.1.1 p.1.2.1 p.1.2.2.2.1 p.1.2.2.2.2.1 p.1.2.2.2.2.2.1 p.1.2.2.1) fun I=>pY I)<|bU (pI i.1.1 i.1.2.1 i.1.2.2.1 i.1.2.2.2.1 i.1.2.2.2.2.1 i.1.2.2.2.2.2.1 [102]) fun j=>bU (kw q bY m.1.1 j.1.1 j.1.2.1 j.1.2.2.2.1 j.1.2.2.2.2.1 j.1.2.2.2.2.2.1 j.1.2.2.1) fun p=>pY p) (fun J=>a7))<|cond (cZ g.1.1 12) (bU (q.q176 d.1.1 d.1.2.1 d.1.2.2.1 (dJ .i64 d.1.2.2.2.1 1) d.1.2.2.2.2.1 d.1.2.2.2.2.2.1) fun e=>bU (q.q177 e.1.1 e.1.2.1 e.1.2.2.1 e.1.2.2.2.1 e.1.2.2.2.2.1 e.1.2.2.2.2.2.1) fun f=>bU (kw q bY d.2.1 f.1.1 f.1.2.1 f.1.2.2.2.1 f.1.2.2.2.2.1 f.1.2.2.2.2.2.1 f.1.2.2.1) fun l=>pY l)<|cond (cZ g.1.1 13) (bU (q.q178 d.1.1 d.1.2.1 d.1.2.2.1 (dJ .i64 d.1.2.2.2.1 1) d.1.2.2.2.2.1 d.1.2.2.2.2.2.1) fun e=>bU (kw q bY d.2.1 e.1.1 e.1.2.1 e.1.2.2.2.1 e.1.2.2.2.2.1 e.1.2.2.2.2.2.1 e.1.2.2.1) fun f=>pY f)<|cond (cZ g.1.1 14) (bU (q.q179 d.1.1 d.1.2.1 d.1.2.2.1 (dJ .i64 d.1.2.2.2.1 1) d.1.2.2.2.2.1 d.1.2.2.2.2.2.1) fun e=>bU (kw q bY d.2.1 e.1.1 e.1.2.1 e.1.2.2.2.1 e.1.2.2.2.2.1 e.1.2.2.2.2.2.1 e.1.2.2.1) fun f=>pY f)<|bU (kw q bY d.2.1 d.1.1 d.1.2.1 (dJ .i64 d.1.2.2.2.1 1) d.1.2.2.2.2.1 d.1.2.2.2.2.2.1 d.1.2.2.1) fun e=>pY e) (fun K=>a7)) a7
noncomputable def TC (q:jK):Env:=iE prog tt [] [(146,3,arU),(146,20,ajt),(146,36,aju)] [(146,3,ajT q),(146,36,aew q),(146,20,aev q)] [] [(29,QF),(30,Jm),(34,QG),(80,avI),(148,VU),(149,aib),(176,acF q),(177,acG q),(178,alG q),(179,alH q)]
def ak9 (q:jK) {d:Type} (a:aav.den->Option d) (b:aaY.den->Option d) (c:abw.den->Option d) (v:aav.den):Option d:=acg q (fun e f g i j l m p u=>a ((e,f,g,()),((),()),((i,j,l,m,p,()),u,()))) (bm b) (c ((),((),()),())) v.1.1 v.1.2.1 v.1.2.2.1 v.2.2.1.1 v.2.2.1.2.1 v.2.2.1.2.2.1 v.2.2.1.2.2.2.1 v.2.2.1.2.2.2.2.1 v.2.2.2.1
theorem ays (q:jK):eY (TC q) 146 apn (ajT q):=oq (ak9 q) (h2:=by intros;simp only[ak9,bm,acg,dG,dH,bT,dw,dI])
def afh (q:jK) {d:Type} (a:Q9.den->Option d) (b:MG.den->Option d) (c:MK.den->Option d) (v:Q9.den):Option d:=bo (Nh q (bm a) (bm b) (c ((),((),()),()))) v
theorem atv (q:jK):eY (TC q) 146 aiv (aew q):=oq (afh q) (h2:=by intros;simp only[afh,bm,bo,Nh,dG,dH,bT,dw,dI])
def afg (q:jK) {d:Type} (a:Q8.den->Option d) (b:U5.den->Option d) (c:Ve.den->Option d) (v:Q8.den):Option d:=bo (Nc q (bm a) (bm b) (c ((),((),()),()))) v
theorem atu (q:jK):eY (TC q) 146 aiu (aev q):=oq (afg q) (h2:=by intros;simp only[afg,bm,bo,Nc,dG,dH,bT,dw,dI])
theorem aCm (q:jK):eP (TC q) 146 ao4:=tC [apn,aiu,aiv] (aD (fM (ays q)) (aD (fM (atu q)) (aD (fM (atv q)) aN)))
theorem amw (q:jK) (H:H32 q):gm (TC q):=eB aN [146] (aD ⟨f146,ao4,by kernel_rfl,by kernel_rfl,aCm q⟩ aN) (hx:=(aD su (aD mQ (aD sD (aD VY (aD IG (aD Yx (aD H.2.2.2.2.1 (aD H.2.2.2.2.2.1 (aD H.2.2.2.2.2.2.2.1 (aD H.2.2.2.2.2.2.2.2 aN)))))))))))
noncomputable def aA9:Code:=(f178.body).getD .skip
noncomputable def apt:Code:=cA (cA (cA (cB (cA (cB (cB (cB (cB (cA (cB (aA9)))))))))))
def arX:fZ:=⟨[0,100009],[],[0],[],[],[]⟩
def aaB:SQ:=⟨us bE 112,cY,bA⟩
def aa4:SQ:=⟨us bE 112,cY,bA⟩
def abC:SQ:=⟨us [] 113,cY,[]⟩
def RP (q:jK) {g:Type} (u p:(List gJ)->dC->Int->Int->Int->(List gI)->Option g) (v:Option g) (d:List gJ) (i:dC) (e j l:Int) (m:List gI):Option g:=cond (iV e (bV d)) (cond (iy d e) (cond (cZ (gW d (0,([],(0,(0,())))) e).1 6) (bU (N9 d i m e j l 7) fun f=>u f.1.1 f.1.2.1 f.1.2.2.2.1 f.1.2.2.2.2.1 f.1.2.2.2.2.2.1 f.1.2.2.1)<|p d i e j l m) a7)<|p d i e j l m
def Ig (q:jK):Nat->(List gJ)->dC->Int->Int->Int->(List gI)->Option (aa4.den⊕abC.den)
 |0,_,_,_,_,_,_=>a7
 |n+1,d,e,f,g,i,j=>RP q (Ig q n) (fun l m p u v x=>a6 (.inl ((),((),()),((l,m,p,u,v,()),x,())))) (a6 (.inr ((),((),()),()))) d e f g i j
def axZ (q:jK) (n:Nat) (v:aaB.den):=Ig q n v.2.2.1.1 v.2.2.1.2.1 v.2.2.1.2.2.1 v.2.2.1.2.2.2.1 v.2.2.1.2.2.2.2.1 v.2.2.2.1
noncomputable def ajY (q:jK):dO:=gq arX aaB aa4 abC (.exit 0) (axZ q bY) 6
def KQ (m:E8) (q:jK):Option E8:=bU (ql m.1.1 m.1.2.1 m.1.2.2.1 m.1.2.2.2.1 m.1.2.2.2.2.1 m.1.2.2.2.2.2.1 [59]) fun g=>cond g.2.1 (bU (uO g.1.1 g.1.2.1 g.1.2.2.1 (dJ .i64 g.1.2.2.2.1 1) g.1.2.2.2.2.1 g.1.2.2.2.2.2.1) fun i=>bU (q.q177 i.1.1 i.1.2.1 i.1.2.2.1 i.1.2.2.2.1 i.1.2.2.2.2.1 i.1.2.2.2.2.2.1) fun d=>a6 ((d.1.1,(d.1.2.1,(d.1.2.2.1,(d.1.2.2.2.1,(d.1.2.2.2.2.1,(d.1.2.2.2.2.2.1,())))))),()))<|bU (uO g.1.1 g.1.2.1 g.1.2.2.1 g.1.2.2.2.1 g.1.2.2.2.2.1 g.1.2.2.2.2.2.1) fun i=>bU (ql i.1.1 i.1.2.1 i.1.2.2.1 i.1.2.2.2.1 i.1.2.2.2.2.1 i.1.2.2.2.2.2.1 [107]) fun d=>cond d.2.1 (bU (Ig q bY d.1.1 d.1.2.1 (dJ .i64 d.1.2.2.2.1 1) d.1.2.2.2.2.1 d.1.2.2.2.2.2.1 d.1.2.2.1) fun l=>dX l (fun p=>bU (ql p.2.2.1.1 p.2.2.1.2.1 p.2.2.2.1 p.2.2.1.2.2.1 p.2.2.1.2.2.2.1 p.2.2.1.2.2.2.2.1 [59]) fun j=>cond j.2.1 (bU (uO j.1.1 j.1.2.1 j.1.2.2.1 (dJ .i64 j.1.2.2.2.1 1) j.1.2.2.2.2.1 j.1.2.2.2.2.2.1) fun e=>bU (q.q177 e.1.1 e.1.2.1 e.1.2.2.1 e.1.2.2.2.1 e.1.2.2.2.2.1 e.1.2.2.2.2.2.1) fun f=>a6 ((f.1.1,(f.1.2.1,(f.1.2.2.1,(f.1.2.2.2.1,(f.1.2.2.2.2.1,(f.1.2.2.2.2.2.1,())))))),()))<|bU (uO j.1.1 j.1.2.1 j.1.2.2.1 j.1.2.2.2.1 j.1.2.2.2.2.1 j.1.2.2.2.2.2.1) fun e=>cond (cZ e.2.1 0) (bU (FN e.1.1 e.1.2.1 e.1.2.2.1 e.1.2.2.2.1 e.1.2.2.2.2.1 e.1.2.2.2.2.2.1) fun f=>bU (q.q177 f.1.1 f.1.2.1 f.1.2.2.1 f.1.2.2.2.1 f.1.2.2.2.2.1 f.1.2.2.2.2.2.1) fun u=>a6 ((u.1.1,(u.1.2.1,(u.1.2.2.1,(u.1.2.2.2.1,(u.1.2.2.2.2.1,(u.1.2.2.2.2.2.1,())))))),()))<|bU (q.q177 e.1.1 e.1.2.1 e.1.2.2.1 e.1.2.2.2.1 e.1.2.2.2.2.1 e.1.2.2.2.2.2.1) fun f=>a6 ((f.1.1,(f.1.2.1,(f.1.2.2.1,(f.1.2.2.2.1,(f.1.2.2.2.2.1,(f.1.2.2.2.2.2.1,())))))),())) (fun v=>a7))<|bU (q.q177 d.1.1 d.1.2.1 d.1.2.2.1 d.1.2.2.2.1 d.1.2.2.2.2.1 d.1.2.2.2.2.2.1) fun l=>a6 ((l.1.1,(l.1.2.1,(l.1.2.2.1,(l.1.2.2.2.1,(l.1.2.2.2.2.1,(l.1.2.2.2.2.2.1,())))))),())
def aq7 (q:jK) (d:List gJ) (g:dC) (i:List gI) (e j l:Int):Option E8:=cond (iV e (bV d)) (cond (iy d e) (cond (cZ (gW d (0,([],(0,(0,())))) e).1 6) (cond (iy d e) (bU (TY (gW d (0,([],(0,(0,())))) e).2.1) fun f=>cond f.1 (bU (N9 d g i e j l 7) fun m=>KQ m q)<|bU (FN d g i e j l) fun m=>KQ m q) a7)<|bU (FN d g i e j l) fun f=>KQ f q) a7)<|bU (FN d g i e j l) fun f=>KQ f q
noncomputable def agk (q:jK):Env:=iE prog tt [(147,VT)] [(178,9,arX)] [(178,9,ajY q)] [] [(30,Jm),(33,alQ),(61,QH),(83,afw),(177,acG q)]
def alf (q:jK) {d:Type} (a:aaB.den->Option d) (b:aa4.den->Option d) (c:abC.den->Option d) (v:aaB.den):Option d:=RP q (fun e f g i j l=>a ((),((),()),((e,f,g,i,j,()),l,()))) (fun m p u x y z=>b ((),((),()),((m,p,u,x,y,()),z,()))) (c ((),((),()),())) v.2.2.1.1 v.2.2.1.2.1 v.2.2.1.2.2.1 v.2.2.1.2.2.2.1 v.2.2.1.2.2.2.2.1 v.2.2.2.1
theorem ayy (q:jK):eY (agk q) 178 apt (ajY q):=oq (alf q) (h2:=by intros;simp only[alf,RP,dG,dH,bT,dw,dI])
theorem aCs (q:jK):eP (agk q) 178 aA9:=tC [apt] (aD (fM (ayy q)) aN)
theorem amG (q:jK) (H:H32 q):gm (agk q):=eB (aD IE aN) [178] (aD ⟨f178,aA9,by kernel_rfl,by kernel_rfl,aCs q⟩ aN) (hx:=(aD mQ (aD Ns (aD zK (aD DF (aD H.2.2.2.2.2.1 aN))))))
noncomputable def awo:Code:=(f179.body).getD .skip
noncomputable def aiw:Code:=cA (cA (cA (cB (cB (cB (cA (cB (cA (cA (cA (cB (cB (cB (cB (cB (awo))))))))))))))))
noncomputable def apu:Code:=cA (cA (cA (cB (cB (cB (cB (cB (awo))))))))
def ajv:fZ:=⟨[0,3,100010],[],[0,3],[],[],[]⟩
def arY:fZ:=⟨[0,2,100005],[],[0],[],[],[]⟩
def Rf:SQ:=⟨us ei 96,cY,bA⟩
def U6:SQ:=⟨us ei 96,cY,bA⟩
def Vf:SQ:=⟨us [] 100,cY,[]⟩
def Nj (q:jK) {f:Type} (i j:Int->(List gJ)->dC->Int->Int->Int->(List gI)->Option f) (y:Option f) (g:Int) (l:List gJ) (m:dC) (p u v:Int) (x:List gI):Option f:=bU (ql l m x p u v [124]) fun d=>cond d.2.1 (bU (zk d.1.1 d.1.2.1 d.1.2.2.1 (dJ .i64 d.1.2.2.2.1 1) d.1.2.2.2.2.1 d.1.2.2.2.2.2.1) fun e=>i g e.1.1 e.1.2.1 e.1.2.2.2.1 e.1.2.2.2.2.1 e.1.2.2.2.2.2.1 e.1.2.2.1)<|j g d.1.1 d.1.2.1 d.1.2.2.2.1 d.1.2.2.2.2.1 d.1.2.2.2.2.2.1 d.1.2.2.1
def wR (q:jK):Nat->Int->(List gJ)->dC->Int->Int->Int->(List gI)->Option (U6.den⊕Vf.den)
 |0,_,_,_,_,_,_,_=>a7
 |n+1,d,e,f,g,i,j,l=>Nj q (wR q n) (fun m p u v x y z=>a6 (.inl ((m,()),((),()),((p,u,v,x,y,()),z,())))) (a6 (.inr ((),((),()),()))) d e f g i j l
def asI (q:jK) (n:Nat) (v:Rf.den):=bo (wR q n) v
noncomputable def aex (q:jK):dO:=gq ajv Rf U6 Vf (.exit 2) (asI q bY) 6
def aaC:SQ:=⟨us [co,.u,bX] 97,cY,bA⟩
def aa5:SQ:=⟨us bE 99,cY,bA⟩
def abD:SQ:=⟨us [] 100,cY,[]⟩
def vz {v:Type} (q:jK) (x:(taF×Fb)) (j:E8) (u:Bool->(List gJ)->dC->Int->Int->Int->(List gI)->Option v) (y:Option v):Option v:=bU (wR q bY x.2.1 j.1.1 j.1.2.1 j.1.2.2.2.1 j.1.2.2.2.2.1 j.1.2.2.2.2.2.1 j.1.2.2.1) fun z=>dX z (fun i=>bU (pI i.2.2.1.1 i.2.2.1.2.1 i.2.2.2.1 i.2.2.1.2.2.1 i.2.2.1.2.2.2.1 i.2.2.1.2.2.2.2.1 [41]) fun l=>bU (uO l.1.1 l.1.2.1 l.1.2.2.1 l.1.2.2.2.1 l.1.2.2.2.2.1 l.1.2.2.2.2.2.1) fun m=>bU (QJ m.1.1 m.1.2.1 m.1.2.2.1 m.1.2.2.2.1 m.1.2.2.2.2.1 m.1.2.2.2.2.2.1) fun f=>cond f.2.1 (bU (q.q32 f.1.1 f.1.2.1 f.1.2.2.1 f.1.2.2.2.1 f.1.2.2.2.2.1 f.1.2.2.2.2.2.1) fun g=>bU (rW g.1.1 g.1.2.1 g.1.2.2.1 g.1.2.2.2.1 g.1.2.2.2.2.1 g.1.2.2.2.2.2.1 i.1.1) fun d=>bU (ql d.1.1 d.1.2.1 d.1.2.2.1 d.1.2.2.2.1 d.1.2.2.2.2.1 d.1.2.2.2.2.2.1 [121]) fun e=>cond e.2.1 (bU (uO e.1.1 e.1.2.1 e.1.2.2.1 (dJ .i64 e.1.2.2.2.1 1) e.1.2.2.2.2.1 e.1.2.2.2.2.2.1) fun p=>u e.2.1 p.1.1 p.1.2.1 p.1.2.2.2.1 p.1.2.2.2.2.1 p.1.2.2.2.2.2.1 p.1.2.2.1)<|u e.2.1 e.1.1 e.1.2.1 e.1.2.2.2.1 e.1.2.2.2.2.1 e.1.2.2.2.2.2.1 e.1.2.2.1)<|bU (rW f.1.1 f.1.2.1 f.1.2.2.1 f.1.2.2.2.1 f.1.2.2.2.2.1 f.1.2.2.2.2.2.1 i.1.1) fun g=>bU (ql g.1.1 g.1.2.1 g.1.2.2.1 g.1.2.2.2.1 g.1.2.2.2.2.1 g.1.2.2.2.2.2.1 [121]) fun d=>cond d.2.1 (bU (uO d.1.1 d.1.2.1 d.1.2.2.1 (dJ .i64 d.1.2.2.2.1 1) d.1.2.2.2.2.1 d.1.2.2.2.2.2.1) fun e=>u d.2.1 e.1.1 e.1.2.1 e.1.2.2.2.1 e.1.2.2.2.2.1 e.1.2.2.2.2.2.1 e.1.2.2.1)<|u d.2.1 d.1.1 d.1.2.1 d.1.2.2.2.1 d.1.2.2.2.2.1 d.1.2.2.2.2.2.1 d.1.2.2.1) (fun A=>y)
def Nk (q:jK) {i:Type} (j:Bool->(List gJ)->dC->Int->Int->Int->(List gI)->Option i) (l:(List gJ)->dC->Int->Int->Int->(List gI)->Option i) (m:Option i) (B:Bool) (u:List gJ) (v:dC) (x y z:Int) (A:List gI):Option i:=cond B (bU (ql u v A x y z [40]) fun d=>cond d.2.1 (bU (Fa d.1.1 d.1.2.1 d.1.2.2.1 d.1.2.2.2.1 d.1.2.2.2.2.1 d.1.2.2.2.2.2.1 15) fun e=>bU (ql e.1.1 e.1.2.1 e.1.2.2.1 e.1.2.2.2.1 e.1.2.2.2.2.1 e.1.2.2.2.2.2.1 [40]) fun f=>cond f.2.1 (bU (zk f.1.1 f.1.2.1 f.1.2.2.1 (dJ .i64 f.1.2.2.2.1 1) f.1.2.2.2.2.1 f.1.2.2.2.2.2.1) fun g=>vz q e g j m)<|bU (zk f.1.1 f.1.2.1 f.1.2.2.1 f.1.2.2.2.1 f.1.2.2.2.2.1 f.1.2.2.2.2.2.1) fun g=>vz q e g j m)<|cond (iV d.1.2.2.2.1 (bV d.1.1)) (cond (iy d.1.1 d.1.2.2.2.1) (cond (cZ (gW d.1.1 (0,([],(0,(0,())))) d.1.2.2.2.1).1 6) (bU (ql d.1.1 d.1.2.1 d.1.2.2.1 d.1.2.2.2.1 d.1.2.2.2.2.1 d.1.2.2.2.2.2.1 [122]) fun e=>cond (!e.2.1) (bU (Fa e.1.1 e.1.2.1 e.1.2.2.1 e.1.2.2.2.1 e.1.2.2.2.2.1 e.1.2.2.2.2.2.1 15) fun f=>bU (ql f.1.1 f.1.2.1 f.1.2.2.1 f.1.2.2.2.1 f.1.2.2.2.2.1 f.1.2.2.2.2.2.1 [40]) fun g=>cond g.2.1 (bU (zk g.1.1 g.1.2.1 g.1.2.2.1 (dJ .i64 g.1.2.2.2.1 1) g.1.2.2.2.2.1 g.1.2.2.2.2.2.1) fun p=>vz q f p j m)<|bU (zk g.1.1 g.1.2.1 g.1.2.2.1 g.1.2.2.2.1 g.1.2.2.2.2.1 g.1.2.2.2.2.2.1) fun p=>vz q f p j m)<|l e.1.1 e.1.2.1 e.1.2.2.2.1 e.1.2.2.2.2.1 e.1.2.2.2.2.2.1 e.1.2.2.1)<|l d.1.1 d.1.2.1 d.1.2.2.2.1 d.1.2.2.2.2.1 d.1.2.2.2.2.2.1 d.1.2.2.1) a7)<|l d.1.1 d.1.2.1 d.1.2.2.2.1 d.1.2.2.2.2.1 d.1.2.2.2.2.2.1 d.1.2.2.1)<|l u v x y z A
def Ar (q:jK):Nat->Bool->(List gJ)->dC->Int->Int->Int->(List gI)->Option (aa5.den⊕abD.den)
 |0,_,_,_,_,_,_,_=>a7
 |n+1,d,e,f,g,i,j,l=>Nk q (Ar q n) (fun m p u v x y=>a6 (.inl ((),((),()),((m,p,u,v,x,()),y,())))) (a6 (.inr ((),((),()),()))) d e f g i j l
def ax0 (q:jK) (n:Nat) (v:aaC.den):=bo (Ar q n) v
noncomputable def ajZ (q:jK):dO:=gq arY aaC aa5 abD (.exit 0) (ax0 q bY) 12
def aq8 (q:jK) (l:List gJ) (m:dC) (p:List gI) (u v x:Int):Option E8:=bU (zk l m p u v x) fun d=>bU (uO d.1.1 d.1.2.1 d.1.2.2.1 d.1.2.2.2.1 d.1.2.2.2.2.1 d.1.2.2.2.2.2.1) fun e=>bU (pI e.1.1 e.1.2.1 e.1.2.2.1 e.1.2.2.2.1 e.1.2.2.2.2.1 e.1.2.2.2.2.2.1 [107]) fun f=>bU (uO f.1.1 f.1.2.1 f.1.2.2.1 f.1.2.2.2.1 f.1.2.2.2.2.1 f.1.2.2.2.2.2.1) fun g=>bU (Ar q bY true g.1.1 g.1.2.1 g.1.2.2.2.1 g.1.2.2.2.2.1 g.1.2.2.2.2.2.1 g.1.2.2.1) fun y=>dX y (fun i=>bU (pI i.2.2.1.1 i.2.2.1.2.1 i.2.2.2.1 i.2.2.1.2.2.1 i.2.2.1.2.2.2.1 i.2.2.1.2.2.2.2.1 [122]) fun j=>a6 ((j.1.1,(j.1.2.1,(j.1.2.2.1,(j.1.2.2.2.1,(j.1.2.2.2.2.1,(j.1.2.2.2.2.2.1,())))))),())) (fun z=>a7)
noncomputable def Zf (q:jK):Env:=iE prog tt [] [(179,10,ajv),(179,5,arY)] [(179,10,aex q),(179,5,ajZ q)] [] [(29,QF),(30,Jm),(31,YE),(32,aie q),(34,QG),(61,QH),(148,VU),(180,au6)]
def afi (q:jK) {d:Type} (a:Rf.den->Option d) (b:U6.den->Option d) (c:Vf.den->Option d) (v:Rf.den):Option d:=bo (Nj q (bm a) (bm b) (c ((),((),()),()))) v
theorem atw (q:jK):eY (Zf q) 179 aiw (aex q):=oq (afi q) (h2:=by intros;simp only[afi,bm,bo,Nj,dG,dH,bT,dw,dI])
def alg (q:jK) {d:Type} (a:aaC.den->Option d) (b:aa5.den->Option d) (c:abD.den->Option d) (v:aaC.den):Option d:=bo (Nk q (bm a) (fun e f g i j l=>b ((),((),()),((e,f,g,i,j,()),l,()))) (c ((),((),()),()))) v
theorem ayz (q:jK):eY (Zf q) 179 apu (ajZ q):=oq (alg q) (h2:=by intros;simp only[alg,bm,bo,Nk,dG,dH,bT,dw,dI,vz])
theorem aCt (q:jK):eP (Zf q) 179 awo:=tC [aiw,apu] (aD (fM (atw q)) (aD (fM (ayz q)) aN))
theorem amH (q:jK) (H:H32 q):gm (Zf q):=eB aN [179] (aD ⟨f179,awo,by kernel_rfl,by kernel_rfl,aCt q⟩ aN) (hx:=(aD su (aD mQ (aD GR (aD H.1 (aD sD (aD zK (aD IG (aD Yz aN)))))))))
def ik:Nat->jK
 |0=>⟨(fun _ _ _ _ _ _=>a7),(fun _ _ _ _ _ _=>a7),(fun _ _ _ _ _ _=>a7),(fun _ _ _ _ _ _=>a7),(fun _ _ _ _ _ _=>a7),(fun _ _ _ _ _ _=>a7),(fun _ _ _ _ _ _=>a7),(fun _ _ _ _ _ _=>a7),(fun _ _ _ _ _ _=>a7)⟩
 |r+1=>⟨aBK (ik r),aBL (ik r),aBM (ik r),aq4 (ik r),aq5 (ik r),aq6 (ik r),CU (ik r),aq7 (ik r),aq8 (ik r)⟩
def aBO (d:List gJ) (e:dC) (f:List gI) (g i j:Int):Option E8:=(ik bY).q32 d e f g i j
def aAt:gu:=⟨73,J3,[],[],fun x y=>aBO x.1 x.2.1 x.2.2.1 x.2.2.2.1 x.2.2.2.2.1 x.2.2.2.2.2.1⟩
def aIx (d:List gJ) (e:dC) (f:List gI) (g i j:Int):Option E8:=(ik bY).q60 d e f g i j
def aHk:gu:=⟨73,J3,[],[],fun x y=>aIx x.1 x.2.1 x.2.2.1 x.2.2.2.1 x.2.2.2.2.1 x.2.2.2.2.2.1⟩
def aIy (d:List gJ) (e:dC) (f:List gI) (g i j:Int):Option E8:=(ik bY).q82 d e f g i j
def aHn:gu:=⟨73,J3,[],[],fun x y=>aIy x.1 x.2.1 x.2.2.1 x.2.2.2.1 x.2.2.2.2.1 x.2.2.2.2.2.1⟩
def aFW (d:List gJ) (e:dC) (f:List gI) (g i j:Int):Option E8:=(ik bY).q109 d e f g i j
def aD3:gu:=⟨73,J3,[],[],fun x y=>aFW x.1 x.2.1 x.2.2.1 x.2.2.2.1 x.2.2.2.2.1 x.2.2.2.2.2.1⟩
def aF0 (d:List gJ) (e:dC) (f:List gI) (g i j:Int):Option E8:=(ik bY).q176 d e f g i j
def aEq:gu:=⟨73,J3,[],[],fun x y=>aF0 x.1 x.2.1 x.2.2.1 x.2.2.2.1 x.2.2.2.2.1 x.2.2.2.2.2.1⟩
def aF1 (d:List gJ) (e:dC) (f:List gI) (g i j:Int):Option E8:=(ik bY).q177 d e f g i j
def aEr:gu:=⟨73,J3,[],[],fun x y=>aF1 x.1 x.2.1 x.2.2.1 x.2.2.2.1 x.2.2.2.2.1 x.2.2.2.2.2.1⟩
def aFY (d:List gJ) (e:dC) (f:List gI) (g i j:Int):Option E8:=(ik bY).q146 d e f g i j
def aEi:gu:=⟨73,J3,[],[],fun x y=>aFY x.1 x.2.1 x.2.2.1 x.2.2.2.1 x.2.2.2.2.1 x.2.2.2.2.2.1⟩
def aF2 (d:List gJ) (e:dC) (f:List gI) (g i j:Int):Option E8:=(ik bY).q178 d e f g i j
def aEs:gu:=⟨73,J3,[],[],fun x y=>aF2 x.1 x.2.1 x.2.2.1 x.2.2.2.1 x.2.2.2.2.1 x.2.2.2.2.2.1⟩
def aF3 (d:List gJ) (e:dC) (f:List gI) (g i j:Int):Option E8:=(ik bY).q179 d e f g i j
def aEt:gu:=⟨73,J3,[],[],fun x y=>aF3 x.1 x.2.1 x.2.2.1 x.2.2.2.1 x.2.2.2.2.1 x.2.2.2.2.2.1⟩
theorem abc (q:jK) (d:H32 q):H32 ⟨aBK q,aBL q,aBM q,aq4 q,aq5 q,aq6 q,CU q,aq7 q,aq8 q⟩:=⟨sB (aqj q d),sB (aqD q d),sB (aqN q d),sB (ami q d),sB (amE q d),sB (amF q d),sB (amw q d),sB (amG q d),sB (amH q d)⟩
theorem BV: ∀r,H32 (ik r)
 |0=>⟨qj fun _ _=>rfl,qj fun _ _=>rfl,qj fun _ _=>rfl,qj fun _ _=>rfl,qj fun _ _=>rfl,qj fun _ _=>rfl,qj fun _ _=>rfl,qj fun _ _=>rfl,qj fun _ _=>rfl⟩
 |r+1=>abc _ (BV r)
theorem avr:dV prog 32 aAt:=(BV bY).1
theorem aHl:dV prog 60 aHk:=(BV bY).2.1
theorem aHo:dV prog 82 aHn:=(BV bY).2.2.1
theorem aE5:dV prog 109 aD3:=(BV bY).2.2.2.1
theorem aE9:dV prog 176 aEq:=(BV bY).2.2.2.2.1
theorem aFa:dV prog 177 aEr:=(BV bY).2.2.2.2.2.1
theorem aE7:dV prog 146 aEi:=(BV bY).2.2.2.2.2.2.1
theorem aFb:dV prog 178 aEs:=(BV bY).2.2.2.2.2.2.2.1
theorem aFc:dV prog 179 aEt:=(BV bY).2.2.2.2.2.2.2.2
noncomputable def b17:Code:=(f17.body).getD .skip
noncomputable def azl:Code:=cA (cA (cB (cA (cB (cB (b17))))))
noncomputable def azm:Code:=cA (cA (cA (cB (cB (cB (cB (cB (cB (b17)))))))))
def azQ:fZ:=⟨[0,3,4,100003],[],[0,3],[],[2],[(2,og)]⟩
def azR:fZ:=⟨[0,5,6,7,100009],[],[5,6],[],[2],[(2,og)]⟩
def akn:SP:=⟨us [.v rF,.u,.u,bN,bL] 56,[]⟩
def ahf:SP:=⟨us [.v rF,.u,.u,bN] 57,[]⟩
def ahB:SP:=⟨us [.u,.u,cG] 58,[]⟩
def ack {e:Type} (j:(List gJ)->dC->Int->Option e) (l:(List gJ)->dC->Option e) (m:(List gI)->Option e) (d:List gJ) (g:dC) (f:Int):Option e:=cond (iV f (bV d)) (cond (iy d f) (bU (Uc (gW d (0,([],(0,(0,())))) f)) fun i=>cond (jf g i.1) (j d (bZ g i.1) (dJ .i64 f 1)) a7) a7)<|l d g
def Oo:Nat->(List gJ)->dC->Int->Option (ahf.den⊕ahB.den)
 |0,_,_,_=>a7
 |n+1,d,e,f=>ack (Oo n) (fun g i=>a6 (.inl ((g,i,()),()))) (fun j=>a6 (.inr ((j,()),()))) d e f
def aCI (n:Nat) (v:akn.den):=Oo n v.1.1 v.1.2.1 v.1.2.2.1
noncomputable def asN:dO:=iq azQ akn ahf ahB (.exit 0) (aCI bY) 6
def ako:SP:=⟨us [.v rF,.u,.u,.u,.u,.ptr 1000024 0,bL,bL] 53,dk⟩
def ahg:SP:=⟨us [.u,.u,.u,.u,.u,.ptr 1000024 0,bL] 54,dk⟩
def ahC:SP:=⟨us [.u,.u,cG] 58,[]⟩
def acl {j:Type} (l:(List gJ)->Int->Int->(List gI)->(List gJ)->dC->Int->Int->Int->Option j) (z:Int->(List gI)->(List gJ)->dC->Int->Int->Int->Option j) (A:(List gI)->Option j) (g:List gJ) (i p:Int) (q:List gI) (u:List gJ) (v:dC) (m x y:Int):Option j:=cond (iV m (bV g)) (bU (ql u v q m x y [110]) fun e=>cond e.2.1 (l g i p e.1.2.2.1 e.1.1 e.1.2.1 (dJ .i64 e.1.2.2.2.1 1) e.1.2.2.2.2.1 e.1.2.2.2.2.2.1)<|cond (!(cZ p 2)) (bU (QJ e.1.1 e.1.2.1 e.1.2.2.1 e.1.2.2.2.1 e.1.2.2.2.2.1 e.1.2.2.2.2.2.1) fun d=>cond d.2.1 (bU (aBO d.1.1 d.1.2.1 d.1.2.2.1 d.1.2.2.2.1 d.1.2.2.2.2.1 d.1.2.2.2.2.2.1) fun f=>l g i 2 f.1.2.2.1 f.1.1 f.1.2.1 f.1.2.2.2.1 f.1.2.2.2.2.1 f.1.2.2.2.2.2.1)<|bU (N9 d.1.1 d.1.2.1 d.1.2.2.1 d.1.2.2.2.1 d.1.2.2.2.2.1 d.1.2.2.2.2.2.1 17) fun f=>l g i 17 f.1.2.2.1 f.1.1 f.1.2.1 f.1.2.2.2.1 f.1.2.2.2.2.1 f.1.2.2.2.2.2.1)<|bU (N9 e.1.1 e.1.2.1 e.1.2.2.1 e.1.2.2.2.1 e.1.2.2.2.2.1 e.1.2.2.2.2.2.1 17) fun d=>l g i 17 d.1.2.2.1 d.1.1 d.1.2.1 d.1.2.2.2.1 d.1.2.2.2.2.1 d.1.2.2.2.2.2.1)<|z i q u v m x y
def JH:Nat->(List gJ)->Int->Int->(List gI)->(List gJ)->dC->Int->Int->Int->Option (ahg.den⊕ahC.den)
 |0,_,_,_,_,_,_,_,_,_=>a7
 |n+1,d,e,f,g,i,j,l,m,p=>acl (JH n) (fun q u v x y z A=>a6 (.inl ((q,()),(u,(v,x,y,z,A,()),())))) (fun B=>a6 (.inr ((B,()),()))) d e f g i j l m p
def aCJ (n:Nat) (v:ako.den):=JH n v.1.1 v.1.2.1 v.1.2.2.1 v.2.1 v.2.2.1.1 v.2.2.1.2.1 v.2.2.1.2.2.1 v.2.2.1.2.2.2.1 v.2.2.1.2.2.2.2.1
noncomputable def asO:dO:=iq azR ako ahg ahC (.exit 2) (aCJ bY) 12
def aw1 (g:List gJ):Option ((List gI)×Unit):=bU (Oo bY g [] 0) fun i=>dX i (fun f=>bU (Fa f.1.1 f.1.2.1 [] 0 (-1) 0 1) fun d=>bU (JH bY f.1.1 d.2.1 0 d.1.2.2.1 d.1.1 d.1.2.1 d.1.2.2.2.1 d.1.2.2.2.2.1 d.1.2.2.2.2.2.1) fun j=>dX j (fun e=>bU (rW e.2.2.1.1 e.2.2.1.2.1 e.2.1 e.2.2.1.2.2.1 e.2.2.1.2.2.2.1 e.2.2.1.2.2.2.2.1 e.1.1) fun l=>a6 (l.1.2.2.1,())) (fun m=>a6 (m.1.1,()))) (fun p=>a6 (p.1.1,()))
def aHf:Sum:=⟨[rF],[(.list og,false)],fun x=>aw1 x.1⟩
noncomputable def aiD:Env:=kU prog tt 17 [(28,aAs)] [(3,azQ),(9,azR)] [(3,asN),(9,asO)] [(29,QF),(30,Jm),(31,YE),(32,aAt),(33,alQ),(34,QG)]
def aub {d:Type} (a:akn.den->Option d) (b:ahf.den->Option d) (c:ahB.den->Option d) (v:akn.den):Option d:=ack (fun e f g=>a ((e,f,g,()),())) (aL b) (aE c) v.1.1 v.1.2.1 v.1.2.2.1
theorem aDi:eY aiD 17 azl asN:=En (aub) (h2:=by intros;simp only[aub,aL,aE,ack,dG,dH,bT,dw,dI])
def auc {d:Type} (a:ako.den->Option d) (b:ahg.den->Option d) (c:ahC.den->Option d) (v:ako.den):Option d:=acl (fun e f g i j l m p q=>a ((e,f,g,()),(i,(j,l,m,p,q,()),()))) (fun u x y z A B D=>b ((u,()),(x,(y,z,A,B,D,()),()))) (aE c) v.1.1 v.1.2.1 v.1.2.2.1 v.2.1 v.2.2.1.1 v.2.2.1.2.1 v.2.2.1.2.2.1 v.2.2.1.2.2.2.1 v.2.2.1.2.2.2.2.1
theorem aDj:eY aiD 17 azm asO:=En (auc) (h2:=by intros;simp only[auc,aE,acl,dG,dH,bT,dw,dI])
theorem aGx:eP aiD 17 b17:=tC [azl,azm] (aD (fM (aDi)) (aD (fM (aDj)) aN))
theorem aqa:gm aiD:=eA f17 (aD avq aN) (aGx) (hx:=(aD su (aD mQ (aD GR (aD avr (aD Ns (aD sD aN)))))))
theorem aHg:eX prog 17 aHf:=sA aqa
end
end Go.Proofs.YtjegbhogodknhaaGreatDoor
